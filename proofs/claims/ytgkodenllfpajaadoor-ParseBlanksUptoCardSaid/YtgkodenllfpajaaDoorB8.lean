/- Lemmas and walks for the claim; no condition beyond what each states. -/
import Derived.Test.YtgkodenllfpajaaDoorB7
section
namespace Go.Proofs.YtgkodenllfpajaaDoor.A
open Go.RowKit Go.Proofs.YtgkodenllfpajaaDoorW.PrintWords Go.Proofs.YtgkodenllfpajaaDoorW.PrintLast Go.Proofs.YtgkodenllfpajaaDoorW.PrintMore
set_option linter.unusedVariables false
set_option linter.unusedSimpArgs false
theorem Ev.uniq {α : Type} {g : Nat → Option α} {a b : α} (h : Ev g a) (k : Ev g b) : a = b := by
 obtain ⟨K, h⟩ := h
 obtain ⟨K', k⟩ := k
 exact Option.some.inj ((h (max K K') (by omega)).symm.trans (k (max K K') (by omega)))
theorem index_up (sub : List UInt8) : ∀ l : List UInt8, Lib.index l sub ≥ 0 → Lib.index l sub + sub.length ≤ l.length
 | [], h => by
  unfold Lib.index at h ⊢
  by_cases c : sub.isEmpty = true
  ·rw [if_pos c]; rw [List.isEmpty_iff.mp c]; decide
  ·rw [if_neg c] at h; exact absurd h (by decide)
 | b :: l, h => by
  unfold Lib.index at h ⊢
  by_cases c : sub.isPrefixOf (b :: l) = true
  ·rw [if_pos c]
   have := (List.isPrefixOf_iff_prefix.mp c).length_le
   omega
  ·rw [if_neg c] at h ⊢
   by_cases d : (Lib.index l sub == -1) = true
   ·rw [if_pos d] at h; exact absurd h (by decide)
   ·rw [if_neg d] at h ⊢
    have hg := Lib.index_ge l sub
    have hne : Lib.index l sub ≠ -1 := fun e => d (by rw [e]; rfl)
    have := index_up sub l (by omega)
    rw [List.length_cons]
    omega
theorem indexByte_up (c : UInt8) : ∀ l : List UInt8, Lib.indexByte l c ≤ l.length
 | [] => by unfold Lib.indexByte; decide
 | b :: l => by
  have := indexByte_up c l
  unfold Lib.indexByte
  rw [List.length_cons]
  split
  ·omega
  ·split
   ·omega
   ·omega
theorem indexByte_head (c b : UInt8) (l : List UInt8) (h : b ≠ c) : Lib.indexByte (b :: l) c ≠ 0 := by
 have hg := Lib.indexByte_ge l c
 unfold Lib.indexByte
 rw [if_neg (by simpa using h)]
 split
 ·decide
 ·rename_i h2
  have : Lib.indexByte l c ≠ -1 := fun e => h2 (by rw [e]; rfl)
  omega
theorem Tt_prefix (t : ByteArray) (x y : UInt8) : ∃ b, strings_HasPrefix.f t ⟨#[x, y]⟩ = some b ∧ (b = true → 2 ≤ t.size) := by
 unfold strings_HasPrefix.f stringslite_HasPrefix.f
 have h2 : ((⟨#[x, y]⟩ : ByteArray).size : Int) = 2 := rfl
 rw [h2]
 by_cases c : (t.size : Int) ≥ 2
 ·rw [if_pos c, if_pos (by decide), if_pos c]
  exact ⟨_, rfl, fun _ => by omega⟩
 ·rw [if_neg c]
  exact ⟨_, rfl, fun h => by cases h⟩
def Pc (t : ByteArray) (p : Int × Int × Int) : Prop := p.2.2 = 0 → 1 ≤ p.2.1 ∧ p.2.1 ≤ t.size
theorem Tt_row_first (t : ByteArray) (hs : t.size ≤ 1099511627776) (h0 : 0 < t.size) (c : Int) (hc : Ev (fun k => scan_class.f k (bt t 0)) c) (h23 : c = 2 ∨ c = 3) : Tt (fun k => scan_row.f k t) (fun r => 1 ≤ r ∧ r ≤ t.size) := by
 show Tt (fun k => scan_row.l0 k t 0) _
 refine Tt.step (fun k => rfl) ?_
 refine Tt.ite (fun _ => Tt.ite (fun _ => ?_) (fun h => absurd (by decide) h)) (fun h => absurd (show (0 : Int) < (t.size : Int) by omega) h)
 refine Tt.bind (P := (· = c)) ⟨c, hc, rfl⟩ (fun a ha => ?_)
 subst ha
 rw [w64_in (0 + 1) (by decide)]
 have hr := Tt_row t (by omega) (t.size - 1) (0 + 1) (by decide) (by omega) (by omega)
 exact Tt.ite (fun _ => hr) (fun h2 => Tt.ite (fun _ => hr) (fun h3 => absurd h23 (fun h => h.elim h2 h3)))
theorem Tt_comment (t : ByteArray) (hs : t.size ≤ 65536) (h0 : 0 < t.size) (h10 : bt t 0 ≠ 10) : Tt (fun _ => scan_comment.f t) (Pc t) := by
 unfold scan_comment.f
 obtain ⟨b1, e1, g1⟩ := Tt_prefix t 47 47
 obtain ⟨b2, e2, g2⟩ := Tt_prefix t 47 42
 rw [e1, e2]
 refine Tt.bind (g := fun _ => some b1) (P := (· = b1)) (Tt.some_ rfl) (fun a ha => ?_)
 subst ha
 refine Tt.ite (fun _ => ?_) (fun _ => ?_)
 ·refine Tt.bind (g := fun _ => strings_IndexByte.f t 10) (P := fun r => r = Lib.indexByte t.data.toList 10) ⟨_, ⟨0, fun _ _ => rfl⟩, rfl⟩ (fun r hr => ?_)
  refine Tt.ite (fun hge => Tt.some_ (fun _ => ?_)) (fun _ => Tt.some_ (fun _ => ⟨by show 1 ≤ (t.size : Int); omega, Int.le_refl _⟩))
  subst hr
  have hup := indexByte_up 10 t.data.toList
  have hlen : t.data.toList.length = t.size := by rw [Array.length_toList]; rfl
  refine ⟨?_, by show Lib.indexByte t.data.toList 10 ≤ (t.size : Int); omega⟩
  have hne : Lib.indexByte t.data.toList 10 ≠ 0 := by
   obtain ⟨b, l, hbl⟩ : ∃ b l, t.data.toList = b :: l := by
    cases hh : t.data.toList with
    | nil => rw [hh] at hlen; exact absurd hlen (by simp; omega)
    | cons b l => exact ⟨b, l, rfl⟩
   rw [hbl]
   refine indexByte_head 10 b l (fun e => h10 ?_)
   unfold bt
   rw [dif_pos (show (0 : Int).toNat < t.size from h0)]
   have : t[(0 : Int).toNat]'h0 = b := by
    have h1 : t.data.toList[0]? = some b := by rw [hbl]; rfl
    rw [Array.getElem?_toList, Array.getElem?_eq_getElem (show 0 < t.data.size from h0)] at h1
    exact Option.some.inj h1
   rw [this, e]
   rfl
  show 1 ≤ Lib.indexByte t.data.toList 10
  omega
 ·refine Tt.bind (g := fun _ => some b2) (P := (· = b2)) (Tt.some_ rfl) (fun a ha => ?_)
  subst ha
  refine Tt.ite (fun hb => ?_) (fun _ => Tt.some_ (fun h => absurd h (by decide)))
  have h2 := g2 hb
  refine Tt.ite (fun _ => ?_) (fun h => absurd (show (2 : Int) ≤ (t.size : Int) by omega) h)
  have hx : (t.extract 2 t.size).size = t.size - 2 := by rw [ByteArray.size_extract]; omega
  refine Tt.bind (g := fun _ => strings_Index.f (t.extract 2 t.size) ⟨#[42, 47]⟩) (P := fun r => r = Lib.index (t.extract 2 t.size).data.toList [42, 47]) ⟨_, ⟨0, fun _ _ => by show strings_Index.f _ _ = _; unfold strings_Index.f; rw [if_pos (by rw [hx]; omega)]⟩, rfl⟩ (fun r hr => ?_)
  refine Tt.ite (fun hge => Tt.some_ (fun _ => ?_)) (fun _ => Tt.some_ (fun h => absurd h (by decide)))
  subst hr
  have hup := index_up [42, 47] (t.extract 2 t.size).data.toList hge
  have hlen : (t.extract 2 t.size).data.toList.length = t.size - 2 := by rw [Array.length_toList]; exact hx
  have h22 : ([42, 47] : List UInt8).length = 2 := rfl
  rw [hlen, h22] at hup
  show 1 ≤ wrap64 (_ + 4) ∧ wrap64 (_ + 4) ≤ _
  rw [w64_in _ (by omega)]
  omega
theorem Tt_number (t : ByteArray) (hs : t.size ≤ 65536) (h0 : 0 < t.size) (c : Int) (hc : Ev (fun k => scan_class.f k (bt t 0)) c) (h3 : c = 3) : Tt (fun k => scan_number.f k t) (Pc t) := by
 unfold scan_number.f
 refine Tt.bind (Tt_row_first t (by omega) h0 c hc (Or.inr h3)) (fun r hr => ?_)
 refine Tt.ite (fun _ => Tt.ite (fun _ => ?_) (fun h => absurd hr.2 h)) (fun h => absurd (show 0 ≤ r by omega) h)
 refine Tt.bind (Tt_worth _ (Nat.le_trans (ext_size _ _ _) (by omega))) (fun a _ => Tt.ite (fun _ => Tt.some_ (fun _ => hr)) (fun _ => Tt.some_ (fun h => absurd h (by decide))))
theorem Tt_str (t : ByteArray) (hs : t.size ≤ 65536) : Tt (fun k => scan_str.f k t) (Pc t) := by
 unfold scan_str.f
 exact Tt.bind (Tt_unquoted t (by omega)) (fun r hr => Tt.ite (fun h => Tt.some_ (fun _ => hr h)) (fun _ => Tt.some_ (fun h => absurd h (by decide))))
theorem Tt_disp (t : ByteArray) (hs : t.size ≤ 65536) (h0 : 0 < t.size) (c : Int) (hr : 0 ≤ c ∧ c < 7) (hc : Ev (fun k => scan_class.f k (bt t 0)) c) : Tt (fun k => scan_disp k c t) (Pc t) := by
 have h1 : (1 : Int) ≤ t.size := by omega
 unfold scan_disp
 refine Tt.ite (fun _ => Tt.some_ (fun h => absurd h (by decide))) (fun c0 => Tt.ite (fun _ => Tt.some_ (fun _ => ⟨Int.le_refl 1, h1⟩)) (fun c1 => Tt.ite (fun h2 => ?_) (fun c2 => Tt.ite (fun h3 => Tt_number t hs h0 c hc h3) (fun c3 => Tt.ite (fun _ => Tt_str t hs) (fun c4 => Tt.ite (fun _ => Tt.some_ (fun _ => ⟨Int.le_refl 1, h1⟩)) (fun c5 => Tt.ite (fun h6 => Tt_comment t hs h0 ?_) (fun c6 => absurd hr (by omega))))))))
 ·exact Tt.bind (Tt_row_first t (by omega) h0 c hc (Or.inl h2)) (fun r hr => Tt.some_ (fun _ => hr))
 ·intro e
  rw [e] at hc
  have h := Ev.uniq hc (Ev.of (scan_class.mono 10) (show scan_class.f 6 10 = some 1 by decide +kernel))
  omega
theorem bt_ext (s : ByteArray) (a : Nat) (h : a < s.size) : bt (s.extract a s.size) 0 = bt s (a : Int) := by
 have hx : (s.extract a s.size).size = s.size - a := by rw [ByteArray.size_extract]; omega
 unfold bt
 rw [dif_pos (show (0 : Int).toNat < (s.extract a s.size).size by rw [hx]; show 0 < _; omega), dif_pos (show (a : Int).toNat < s.size by omega)]
 have e : (a : Int).toNat = a + (0 : Int).toNat := by omega
 simp only [e]
 rw [ByteArray.getElem_extract]
theorem Tt_tokL (s : ByteArray) (hs : s.size ≤ 65536) : ∀ (N : Nat) (l : List PTok) (a : Int), 0 ≤ a → a ≤ s.size → (s.size : Int) - a = N → (l.length : Int) ≤ a → Tt (fun k => scan_Tokens.l0 k s l a) (fun _ => True) := by
 intro N
 induction N using Nat.strongRecOn with
 | ind N ih =>
  intro l a h0 h1 hN hl
  refine Tt.step (fun k => rfl) ?_
  refine Tt.ite (fun _ => Tt.ite (fun _ => Tt.some_ trivial) (fun h => absurd (show l.length < 4398046511104 by omega) h)) (fun hne => ?_)
  refine Tt.ite (fun _ => Tt.ite (fun hlt => ?_) (fun h => absurd (show a < (s.size : Int) by omega) h)) (fun h => absurd h0 h)
  have hcE : Tt (fun k => scan_class.f k (bt s a)) (fun v => (0 ≤ v ∧ v < 7) ∧ Ev (fun k => scan_class.f k (bt s a)) v) := by
   obtain ⟨v, hv, hp⟩ := Tt_class s a
   exact ⟨v, hv, hp, hv⟩
  refine Tt.bind hcE (fun c hc => ?_)
  have hx : (s.extract a.toNat s.size).size = s.size - a.toNat := by rw [ByteArray.size_extract]; omega
  have hb : bt (s.extract a.toNat s.size) 0 = bt s a := by
   rw [bt_ext s a.toNat (by omega), show ((a.toNat : Nat) : Int) = a by omega]
  refine Tt.bind (Tt_disp (s.extract a.toNat s.size) (by rw [hx]; omega) (by rw [hx]; omega) c hc.1 (by rw [hb]; exact hc.2)) (fun p hp => ?_)
  refine Tt.ite (fun _ => Tt.some_ trivial) (fun _ => Tt.ite (fun _ => Tt.some_ trivial) (fun hz => ?_))
  obtain ⟨g1, g2⟩ := hp (Decidable.byContradiction hz)
  rw [hx] at g2
  rw [w64_in (a + p.2.1) (by omega)]
  refine Tt.ite (fun _ => ?_) (fun _ => Tt.ite (fun _ => Tt.ite (fun _ => Tt.ite (fun _ => ?_) (fun h => absurd (show l.length < 4398046511104 by omega) h)) (fun h => absurd (show a + p.2.1 ≤ (s.size : Int) by omega) h)) (fun h => absurd (show a ≤ a + p.2.1 by omega) h))
  ·exact ih ((s.size : Int) - (a + p.2.1)).toNat (by omega) _ _ (by omega) (by omega) (by omega) (by omega)
  ·exact ih ((s.size : Int) - (a + p.2.1)).toNat (by omega) _ _ (by omega) (by omega) (by omega) (by rw [List.length_append, List.length_singleton]; omega)
theorem Tt_Tokens (s : ByteArray) : Tt (fun k => scan_Tokens.f k s) (fun _ => True) := by
 unfold scan_Tokens.f
 refine Tt.ite (fun _ => Tt.some_ trivial) (fun h => ?_)
 refine Tt.bind (show Tt (fun k => wire_Utf8.f k s) _ from Tt_utf8 s (by omega) s.size 0 (by decide) (by omega) (by omega)) (fun t _ => Tt.ite (fun _ => Tt.some_ trivial) (fun _ => ?_))
 exact Tt_tokL s (by omega) s.size [] 0 (by decide) (by omega) (by omega) (by decide)
theorem small_zfile : smallF 33 Pm.zfile := ⟨by decide, by decide, by decide, (fun y hy => nomatch hy), (fun y hy => nomatch hy)⟩
end Go.Proofs.YtgkodenllfpajaaDoor.A
end
section
namespace Go.Proofs.YtgkodenllfpajaaDoor.A
open Go.RowKit Go.Proofs.YtgkodenllfpajaaDoorW.PrintWords Go.Proofs.YtgkodenllfpajaaDoorW.PrintLast Go.Proofs.YtgkodenllfpajaaDoorW.PrintMore
set_option linter.unusedVariables false
set_option linter.unusedSimpArgs false
def mT (φ : Int → Int) (t : PTok) : PTok := ⟨t.f0, φ t.f1, t.f2⟩
def mS (φ : Int → Int) (s : PS) : PS := ⟨s.left.map (mT φ), s.decls, s.nest⟩
def NO {α : Type} (φ : Int → Int) : PR α → PR α → Prop
 | .error a, .error b => a.1 ≠ 0 ∧ b = (a.1, φ a.2)
 | .ok a, .ok b => b = (a.1, mS φ a.2)
 | .error _, .ok _ => False
 | .ok _, .error _ => False
def NR {α : Type} (φ : Int → Int) : Option (PR α) → Option (PR α) → Prop
 | none, none => True
 | some x, some y => NO φ x y
 | none, some _ => False
 | some _, none => False
section
variable {φ : Int → Int}
theorem mT0 (t : PTok) : (mT φ t).f0 = t.f0 := rfl
theorem mT1 (t : PTok) : (mT φ t).f1 = φ t.f1 := rfl
theorem mT2 (t : PTok) : (mT φ t).f2 = t.f2 := rfl
theorem now_m (e : Int) (s : PS) : Pm.now (φ e) (mS φ s) = mT φ (Pm.now e s) := by
 obtain ⟨l, d, n⟩ := s
 cases l <;> rfl
theorem is_m (e k : Int) (t : ByteArray) (s : PS) : Pm.is (φ e) k t (mS φ s) = Pm.is e k t s := by
 unfold Pm.is
 rw [now_m]
 rfl
theorem nxt_m (s : PS) : Pm.nxt (mS φ s) = mS φ (Pm.nxt s) := by
 obtain ⟨l, d, n⟩ := s
 cases l <;> rfl
theorem decls_m (s : PS) : (mS φ s).decls = s.decls := rfl
theorem nest_m (s : PS) : (mS φ s).nest = s.nest := rfl
theorem mk_m (s : PS) (d n : Int) : PS.mk (mS φ s).left d n = mS φ (PS.mk s.left d n) := rfl
theorem len_m (s : PS) : (mS φ s).left.length = s.left.length := List.length_map _
theorem get0_m (s : PS) (z : PTok) : ((mS φ s).left.getD 1 z).f0 = (s.left.getD 1 z).f0 := by
 obtain ⟨l, d, n⟩ := s
 rcases l with _ | ⟨a, _ | ⟨b, l⟩⟩ <;> rfl
theorem get2_m (s : PS) (z : PTok) : ((mS φ s).left.getD 1 z).f2 = (s.left.getD 1 z).f2 := by
 obtain ⟨l, d, n⟩ := s
 rcases l with _ | ⟨a, _ | ⟨b, l⟩⟩ <;> rfl
theorem minus1_m (e : Int) (m : Bool) (s : PS) : (Pm.minus (φ e) m (mS φ s)).1 = (Pm.minus e m s).1 := by
 unfold Pm.minus
 rw [is_m]
 split <;> rfl
theorem minus2_m (e : Int) (m : Bool) (s : PS) : (Pm.minus (φ e) m (mS φ s)).2 = mS φ (Pm.minus e m s).2 := by
 unfold Pm.minus
 rw [is_m]
 split
 ·exact nxt_m s
 ·rfl
theorem NR.none {α : Type} : NR φ (Option.none : Option (PR α)) Option.none := trivial
theorem NR.ok {α : Type} {a : α} {s : PS} : NR φ (some (.ok (a, s))) (some (.ok (a, mS φ s))) := rfl
theorem NR.err {α : Type} {er a : Int} (h : er ≠ 0) : NR φ (some (.error (er, a)) : Option (PR α)) (some (.error (er, φ a))) := ⟨h, rfl⟩
theorem NR.fail {α : Type} {e er : Int} {s : PS} (h : er ≠ 0) : NR φ (some (Pm.fail e er s) : Option (PR α)) (some (Pm.fail (φ e) er (mS φ s))) := ⟨h, by rw [now_m]; rfl⟩
theorem NR.bo {α β : Type} {x y : Option (PR α)} {f g : α → PS → Option (PR β)} (h : NR φ x y) (hf : ∀ a s, NR φ (f a s) (g a (mS φ s))) : NR φ (Pm.bo x f) (Pm.bo y g) := by
 rcases x with _ | _ | ⟨a, s⟩ <;> rcases y with _ | _ | ⟨b, t⟩
 all_goals first | exact h.elim | skip
 ·trivial
 ·exact h
 ·obtain ⟨rfl, rfl⟩ := Prod.mk.inj (show (b, t) = (a, mS φ s) from h)
  exact hf _ _
theorem NR.bind {α γ : Type} {x : Option γ} {f g : γ → Option (PR α)} (h : ∀ a, NR φ (f a) (g a)) : NR φ (x.bind f) (x.bind g) := by
 cases x with
 | none => trivial
 | some a => exact h a
theorem NR.ite {α : Type} {c : Prop} [Decidable c] {x y x' y' : Option (PR α)} (h1 : c → NR φ x x') (h2 : ¬ c → NR φ y y') : NR φ (if c then x else y) (if c then x' else y') := by
 by_cases h : c
 ·rw [if_pos h, if_pos h]; exact h1 h
 ·rw [if_neg h, if_neg h]; exact h2 h
theorem N_unl (φ : Int → Int) (e : Int) (b : Bool) (s : PS) : NR φ (some (Pm.unl e b s)) (some (Pm.unl (φ e) b (mS φ s))) := by
 unfold Pm.unl
 rw [now_m, mT0]
 by_cases h : b = true
 ·rw [if_pos h, if_pos h]; exact NR.ok
 ·rw [if_neg h, if_neg h]
  by_cases h : (Pm.now e s).f0 = 5
  ·rw [if_pos h, if_pos h]; exact NR.fail (by decide)
  ·rw [if_neg h, if_neg h]; exact NR.fail (by decide)
theorem some_be {α β : Type} (x : PR α) (f : α → PS → PR β) : some (Pm.be x f) = Pm.bo (some x) fun a s => some (f a s) := by
 rcases x with _ | ⟨a, s⟩ <;> rfl
theorem N_sign (φ : Int → Int) (e : Int) (t : ByteArray) (s : PS) : NR φ (some (Pm.sign e t s)) (some (Pm.sign (φ e) t (mS φ s))) := by
 unfold Pm.sign
 rw [some_be, some_be, is_m]
 exact NR.bo (N_unl _ _ _ _) (fun _ s => by rw [nxt_m]; exact NR.ok)
theorem N_counts (φ : Int → Int) (e : Int) (s : PS) : NR φ (some (Pm.counts e s)) (some (Pm.counts (φ e) (mS φ s))) := by
 unfold Pm.counts
 rw [decls_m]
 by_cases h : s.decls = 4096
 ·rw [if_pos h, if_pos h]; exact NR.fail (by decide)
 ·rw [if_neg h, if_neg h]; exact NR.ok
theorem N_cond (φ : Int → Int) (e : Int) (c : Prop) [Decidable c] (s : PS) : NR φ (some (if c then Pm.counts e s else .ok ((), s))) (some (if c then Pm.counts (φ e) (mS φ s) else .ok ((), mS φ s))) := by
 by_cases h : c
 ·rw [if_pos h, if_pos h]; exact N_counts _ _ _
 ·rw [if_neg h, if_neg h]; exact NR.ok
theorem N_cond2 (φ : Int → Int) (e : Int) (c : Prop) [Decidable c] (s : PS) : NR φ (some (if c then .ok ((), s) else Pm.counts e s)) (some (if c then .ok ((), mS φ s) else Pm.counts (φ e) (mS φ s))) := by
 by_cases h : c
 ·rw [if_pos h, if_pos h]; exact NR.ok
 ·rw [if_neg h, if_neg h]; exact N_counts _ _ _
theorem N_closes (φ : Int → Int) (e : Int) (s : PS) : NR φ (some (Pm.closes e s)) (some (Pm.closes (φ e) (mS φ s))) := by
 unfold Pm.closes
 rw [is_m]
 by_cases h : Pm.is e 4 ⟨#[91]⟩ s = true
 ·rw [if_pos h, if_pos h]; exact NR.fail (by decide)
 ·rw [if_neg h, if_neg h]; exact N_sign _ _ _ _
theorem N_named (φ : Int → Int) (k : Nat) (e : Int) (s : PS) : NR φ (Pm.named k e s) (Pm.named k (φ e) (mS φ s)) := by
 unfold Pm.named
 repeat' first
  | exact NR.ok
  | exact N_unl _ _ _ _
  | exact NR.fail (by decide)
  | simp only [now_m, mT0, mT1, mT2, is_m, nxt_m, decls_m, nest_m, mk_m, minus1_m, minus2_m, len_m, get0_m, get2_m]
  | refine NR.bo ?_ (fun _ _ => ?_)
  | refine NR.bind (fun _ => ?_)
  | refine NR.ite (fun _ => ?_) (fun _ => ?_)
theorem N_name (φ : Int → Int) (k : Nat) (e : Int) (s : PS) : NR φ (Pm.name k e s) (Pm.name k (φ e) (mS φ s)) := by
 unfold Pm.name
 repeat' first
  | exact NR.ok
  | exact N_named _ _ _ _
  | simp only [now_m, mT0, mT1, mT2, is_m, nxt_m, decls_m, nest_m, mk_m, minus1_m, minus2_m, len_m, get0_m, get2_m]
  | refine NR.bo ?_ (fun _ _ => ?_)
theorem N_text (φ : Int → Int) (k : Nat) (e : Int) (may : ByteArray → Option Int) (s : PS) : NR φ (Pm.text k e may s) (Pm.text k (φ e) may (mS φ s)) := by
 unfold Pm.text
 repeat' first
  | exact NR.ok
  | exact N_unl _ _ _ _
  | exact NR.fail (by decide)
  | exact NR.fail (by assumption)
  | simp only [now_m, mT0, mT1, mT2, is_m, nxt_m, decls_m, nest_m, mk_m, minus1_m, minus2_m, len_m, get0_m, get2_m]
  | refine NR.bo ?_ (fun _ _ => ?_)
  | refine NR.bind (fun _ => ?_)
  | refine NR.ite (fun _ => ?_) (fun _ => ?_)
theorem N_number (φ : Int → Int) (k : Nat) (e : Int) (m : Bool) (s : PS) : NR φ (Pm.number k e m s) (Pm.number k (φ e) m (mS φ s)) := by
 unfold Pm.number
 repeat' first
  | exact NR.ok
  | exact N_unl _ _ _ _
  | exact NR.fail (by decide)
  | exact NR.fail (by assumption)
  | simp only [now_m, mT0, mT1, mT2, is_m, nxt_m, decls_m, nest_m, mk_m, minus1_m, minus2_m, len_m, get0_m, get2_m]
  | refine NR.bo ?_ (fun _ _ => ?_)
  | refine NR.bind (fun _ => ?_)
  | refine NR.ite (fun _ => ?_) (fun _ => ?_)
theorem N_namesL (φ : Int → Int) (e a : Int) : ∀ (k : Nat) (c : Bool) (t : ByteArray) (s : PS), NR φ (Pm.namesL e a k c t s) (Pm.namesL (φ e) (φ a) k c t (mS φ s)) := by
 intro k
 induction k with
 | zero => intros; exact NR.none
 | succ k ih =>
  intros
  unfold Pm.namesL
  repeat' first
   | exact NR.none
   | exact NR.ok
   | exact ih _ _ _
   | exact N_named _ _ _ _
   | exact N_counts _ _ _
   | exact N_cond _ _ _ _
   | exact NR.err (by decide)
   | simp only [now_m, mT0, mT1, mT2, is_m, nxt_m, decls_m, nest_m, mk_m, minus1_m, minus2_m, len_m, get0_m, get2_m]
   | refine NR.bo ?_ (fun _ _ => ?_)
   | refine NR.ite (fun _ => ?_) (fun _ => ?_)
theorem N_names (φ : Int → Int) (k : Nat) (e : Int) (d c : Bool) (s : PS) : NR φ (Pm.names k e d c s) (Pm.names k (φ e) d c (mS φ s)) := by
 unfold Pm.names
 repeat' first
  | exact NR.ok
  | exact N_namesL _ _ _ _ _ _ _
  | exact N_counts _ _ _
  | exact N_cond _ _ _ _
  | simp only [now_m, mT0, mT1, mT2, is_m, nxt_m, decls_m, nest_m, mk_m, minus1_m, minus2_m, len_m, get0_m, get2_m]
  | refine NR.bo ?_ (fun _ _ => ?_)
  | refine NR.ite (fun _ => ?_) (fun _ => ?_)
theorem N_rest (φ : Int → Int) (k : Nat) (e : Int) (f : PField) (s : PS) : NR φ (Pm.rest k e f s) (Pm.rest k (φ e) f (mS φ s)) := by
 unfold Pm.rest
 repeat' first
  | exact NR.ok
  | exact N_name _ _ _ _
  | exact N_number _ _ _ _ _
  | exact N_sign _ _ _ _
  | exact N_closes _ _ _
  | simp only [now_m, mT0, mT1, mT2, is_m, nxt_m, decls_m, nest_m, mk_m, minus1_m, minus2_m, len_m, get0_m, get2_m]
  | refine NR.bo ?_ (fun _ _ => ?_)
theorem N_field (φ : Int → Int) (k : Nat) (e : Int) (f : PField) (c : Bool) (s : PS) : NR φ (Pm.field k e f c s) (Pm.field k (φ e) f c (mS φ s)) := by
 unfold Pm.field
 repeat' first
  | exact N_names _ _ _ _ _ _
  | exact N_rest _ _ _ _ _
  | simp only [now_m, mT0, mT1, mT2, is_m, nxt_m, decls_m, nest_m, mk_m, minus1_m, minus2_m, len_m, get0_m, get2_m]
  | refine NR.bo ?_ (fun _ _ => ?_)
theorem N_labelled (φ : Int → Int) (k : Nat) (e : Int) (s : PS) : NR φ (Pm.labelled k e s) (Pm.labelled k (φ e) (mS φ s)) := by
 unfold Pm.labelled
 repeat' first
  | exact N_field _ _ _ _ _ _
  | exact N_counts _ _ _
  | exact NR.fail (by decide)
  | simp only [now_m, mT0, mT1, mT2, is_m, nxt_m, decls_m, nest_m, mk_m, minus1_m, minus2_m, len_m, get0_m, get2_m]
  | refine NR.bo ?_ (fun _ _ => ?_)
  | refine NR.ite (fun _ => ?_) (fun _ => ?_)
theorem N_table (φ : Int → Int) (k : Nat) (e : Int) (s : PS) : NR φ (Pm.table k e s) (Pm.table k (φ e) (mS φ s)) := by
 unfold Pm.table
 repeat' first
  | exact N_names _ _ _ _ _ _
  | exact N_rest _ _ _ _ _
  | exact N_sign _ _ _ _
  | exact N_counts _ _ _
  | simp only [now_m, mT0, mT1, mT2, is_m, nxt_m, decls_m, nest_m, mk_m, minus1_m, minus2_m, len_m, get0_m, get2_m]
  | refine NR.bo ?_ (fun _ _ => ?_)
theorem N_oneofL (φ : Int → Int) (e n : Int) : ∀ (k : Nat) (l : List PField) (s : PS), NR φ (Pm.oneofL e n k l s) (Pm.oneofL (φ e) n k l (mS φ s)) := by
 intro k
 induction k with
 | zero => intros; exact NR.none
 | succ k ih =>
  intros
  unfold Pm.oneofL
  repeat' first
   | exact NR.none
   | exact NR.ok
   | exact ih _ _
   | exact N_field _ _ _ _ _ _
   | exact N_unl _ _ _ _
   | exact NR.fail (by decide)
   | simp only [now_m, mT0, mT1, mT2, is_m, nxt_m, decls_m, nest_m, mk_m, minus1_m, minus2_m, len_m, get0_m, get2_m]
   | refine NR.bo ?_ (fun _ _ => ?_)
   | refine NR.bind (fun _ => ?_)
   | refine NR.ite (fun _ => ?_) (fun _ => ?_)
theorem N_oneof (φ : Int → Int) (k : Nat) (e : Int) (m : PMsg) (s : PS) : NR φ (Pm.oneof k e m s) (Pm.oneof k (φ e) m (mS φ s)) := by
 unfold Pm.oneof
 repeat' first
  | exact NR.none
  | exact NR.ok
  | exact N_name _ _ _ _
  | exact N_oneofL _ _ _ _ _ _
  | exact N_unl _ _ _ _
  | exact N_sign _ _ _ _
  | exact N_counts _ _ _
  | simp only [now_m, mT0, mT1, mT2, is_m, nxt_m, decls_m, nest_m, mk_m, minus1_m, minus2_m, len_m, get0_m, get2_m]
  | refine NR.bo ?_ (fun _ _ => ?_)
  | refine NR.ite (fun _ => ?_) (fun _ => ?_)
theorem N_bound (φ : Int → Int) (k : Nat) (e : Int) (a b : Bool) (s : PS) : NR φ (Pm.bound k e a b s) (Pm.bound k (φ e) a b (mS φ s)) := by
 unfold Pm.bound
 repeat' first
  | exact NR.ok
  | exact N_number _ _ _ _ _
  | exact NR.fail (by decide)
  | simp only [now_m, mT0, mT1, mT2, is_m, nxt_m, decls_m, nest_m, mk_m, minus1_m, minus2_m, len_m, get0_m, get2_m]
  | refine NR.bo ?_ (fun _ _ => ?_)
  | refine NR.ite (fun _ => ?_) (fun _ => ?_)
theorem N_row (φ : Int → Int) (k : Nat) (e : Int) (a : Bool) (s : PS) : NR φ (Pm.row k e a s) (Pm.row k (φ e) a (mS φ s)) := by
 unfold Pm.row
 repeat' first
  | exact NR.ok
  | exact N_bound _ _ _ _ _ _
  | exact N_counts _ _ _
  | exact N_cond _ _ _ _
  | exact N_cond2 _ _ _ _
  | exact NR.fail (by decide)
  | simp only [now_m, mT0, mT1, mT2, is_m, nxt_m, decls_m, nest_m, mk_m, minus1_m, minus2_m, len_m, get0_m, get2_m]
  | refine NR.bo ?_ (fun _ _ => ?_)
  | refine NR.ite (fun _ => ?_) (fun _ => ?_)
theorem N_reservedL (φ : Int → Int) (e : Int) (a b : Bool) : ∀ (k : Nat) (l : List PRange) (g : List ByteArray) (s : PS), NR φ (Pm.reservedL e a b k l g s) (Pm.reservedL (φ e) a b k l g (mS φ s)) := by
 intro k
 induction k with
 | zero => intros; exact NR.none
 | succ k ih =>
  intros
  unfold Pm.reservedL
  repeat' first
   | exact NR.none
   | exact NR.ok
   | exact ih _ _ _
   | exact N_text _ _ _ _ _
   | exact N_row _ _ _ _ _
   | exact N_counts _ _ _
   | simp only [now_m, mT0, mT1, mT2, is_m, nxt_m, decls_m, nest_m, mk_m, minus1_m, minus2_m, len_m, get0_m, get2_m]
   | refine NR.bo ?_ (fun _ _ => ?_)
   | refine NR.ite (fun _ => ?_) (fun _ => ?_)
theorem N_reserved (φ : Int → Int) (k : Nat) (e : Int) (a : Bool) (l : List PRange) (g : List ByteArray) (s : PS) : NR φ (Pm.reserved k e a l g s) (Pm.reserved k (φ e) a l g (mS φ s)) := by
 unfold Pm.reserved
 repeat' first
  | exact NR.ok
  | exact N_reservedL _ _ _ _ _ _ _ _
  | exact N_sign _ _ _ _
  | simp only [now_m, mT0, mT1, mT2, is_m, nxt_m, decls_m, nest_m, mk_m, minus1_m, minus2_m, len_m, get0_m, get2_m]
  | refine NR.bo ?_ (fun _ _ => ?_)
theorem N_enumL (φ : Int → Int) (e : Int) : ∀ (k : Nat) (x : PEnum) (s : PS), NR φ (Pm.enumL e k x s) (Pm.enumL (φ e) k x (mS φ s)) := by
 intro k
 induction k with
 | zero => intros; exact NR.none
 | succ k ih =>
  intros
  unfold Pm.enumL
  repeat' first
   | exact NR.none
   | exact NR.ok
   | exact ih _ _
   | exact N_named _ _ _ _
   | exact N_number _ _ _ _ _
   | exact N_reserved _ _ _ _ _ _ _
   | exact N_sign _ _ _ _
   | exact N_counts _ _ _
   | exact N_closes _ _ _
   | exact NR.fail (by decide)
   | simp only [now_m, mT0, mT1, mT2, is_m, nxt_m, decls_m, nest_m, mk_m, minus1_m, minus2_m, len_m, get0_m, get2_m]
   | refine NR.bo ?_ (fun _ _ => ?_)
   | refine NR.ite (fun _ => ?_) (fun _ => ?_)
theorem N_enum (φ : Int → Int) (k : Nat) (e : Int) (s : PS) : NR φ (Pm.enum k e s) (Pm.enum k (φ e) (mS φ s)) := by
 unfold Pm.enum
 repeat' first
  | exact NR.ok
  | exact N_name _ _ _ _
  | exact N_enumL _ _ _ _ _
  | exact N_unl _ _ _ _
  | exact N_sign _ _ _ _
  | exact N_counts _ _ _
  | simp only [now_m, mT0, mT1, mT2, is_m, nxt_m, decls_m, nest_m, mk_m, minus1_m, minus2_m, len_m, get0_m, get2_m]
  | refine NR.bo ?_ (fun _ _ => ?_)
theorem N_messages (φ : Int → Int) (e : Int) : ∀ k : Nat, (∀ s, NR φ (Pm.message e k s) (Pm.message (φ e) k (mS φ s))) ∧ (∀ m s, NR φ (Pm.messageL e k m s) (Pm.messageL (φ e) k m (mS φ s))) ∧ (∀ m s, NR φ (Pm.member e k m s) (Pm.member (φ e) k m (mS φ s))) := by
 intro k
 induction k with
 | zero =>
  refine ⟨fun s => ?_, fun m s => ?_, fun m s => ?_⟩
  ·unfold Pm.message; exact NR.none
  ·unfold Pm.messageL; exact NR.none
  ·unfold Pm.member; exact NR.none
 | succ k ih =>
  refine ⟨fun s => ?_, fun m s => ?_, fun m s => ?_⟩
  ·unfold Pm.message
   repeat' first
    | exact NR.none
    | exact ih.1 _
    | exact ih.2.1 _ _
    | exact ih.2.2 _ _
    | exact N_name _ _ _ _
    | exact N_sign _ _ _ _
    | exact N_counts _ _ _
    | exact NR.fail (by decide)
    | simp only [now_m, mT0, mT1, mT2, is_m, nxt_m, decls_m, nest_m, mk_m, minus1_m, minus2_m, len_m, get0_m, get2_m]
    | refine NR.bo ?_ (fun _ _ => ?_)
    | refine NR.ite (fun _ => ?_) (fun _ => ?_)
  ·unfold Pm.messageL
   repeat' first
    | exact NR.none
    | exact NR.ok
    | exact ih.1 _
    | exact ih.2.1 _ _
    | exact ih.2.2 _ _
    | simp only [now_m, mT0, mT1, mT2, is_m, nxt_m, decls_m, nest_m, mk_m, minus1_m, minus2_m, len_m, get0_m, get2_m]
    | refine NR.bo ?_ (fun _ _ => ?_)
    | refine NR.ite (fun _ => ?_) (fun _ => ?_)
  ·unfold Pm.member
   repeat' first
    | exact NR.none
    | exact NR.ok
    | exact ih.1 _
    | exact ih.2.1 _ _
    | exact ih.2.2 _ _
    | exact N_field _ _ _ _ _ _
    | exact N_labelled _ _ _ _
    | exact N_table _ _ _ _
    | exact N_oneof _ _ _ _ _
    | exact N_reserved _ _ _ _ _ _ _
    | exact N_enum _ _ _ _
    | exact N_unl _ _ _ _
    | exact NR.fail (by decide)
    | simp only [now_m, mT0, mT1, mT2, is_m, nxt_m, decls_m, nest_m, mk_m, minus1_m, minus2_m, len_m, get0_m, get2_m]
    | refine NR.bo ?_ (fun _ _ => ?_)
    | refine NR.ite (fun _ => ?_) (fun _ => ?_)
theorem N_load2 (φ : Int → Int) (k : Nat) (e : Int) (n : Nat) (s : PS) : NR φ (Pm.load2 k e n s) (Pm.load2 k (φ e) n (mS φ s)) := by
 unfold Pm.load2
 repeat' first
  | exact NR.none
  | exact NR.ok
  | exact N_text _ _ _ _ _
  | exact N_sign _ _ _ _
  | exact N_counts _ _ _
  | exact NR.fail (by decide)
  | simp only [now_m, mT0, mT1, mT2, is_m, nxt_m, decls_m, nest_m, mk_m, minus1_m, minus2_m, len_m, get0_m, get2_m]
  | refine NR.bo ?_ (fun _ _ => ?_)
  | refine NR.ite (fun _ => ?_) (fun _ => ?_)
theorem N_pack (φ : Int → Int) (k : Nat) (e : Int) (a : Bool) (s : PS) : NR φ (Pm.pack k e a s) (Pm.pack k (φ e) a (mS φ s)) := by
 unfold Pm.pack
 repeat' first
  | exact NR.ok
  | exact N_names _ _ _ _ _ _
  | exact N_unl _ _ _ _
  | exact N_sign _ _ _ _
  | simp only [now_m, mT0, mT1, mT2, is_m, nxt_m, decls_m, nest_m, mk_m, minus1_m, minus2_m, len_m, get0_m, get2_m]
  | refine NR.bo ?_ (fun _ _ => ?_)
theorem N_topsC (φ : Int → Int) (e : Int) (k : Nat) (a : Bool) (f : PFile) (s : PS) (D D2 : Option (PR (Bool × PFile))) (hD : NR φ D D2) : NR φ (Pm.topsC e k a f s D) (Pm.topsC (φ e) k a f (mS φ s) D2) := by
 unfold Pm.topsC
 repeat' first
  | exact NR.none
  | exact NR.ok
  | exact hD
  | exact N_enum _ _ _ _
  | exact (N_messages _ _ _).1 _
  | exact N_load2 _ _ _ _ _
  | exact N_pack _ _ _ _ _
  | exact NR.fail (by decide)
  | simp only [now_m, mT0, mT1, mT2, is_m, nxt_m, decls_m, nest_m, mk_m, minus1_m, minus2_m, len_m, get0_m, get2_m]
  | refine NR.bo ?_ (fun _ _ => ?_)
  | refine NR.ite (fun _ => ?_) (fun _ => ?_)
theorem N_fileL2 (φ : Int → Int) (e : Int) : ∀ (k : Nat) (a : Bool) (f : PFile) (s : PS), NR φ (Pm.fileL2 e k a f s) (Pm.fileL2 (φ e) k a f (mS φ s)) := by
 intro k
 induction k with
 | zero => intros; exact NR.none
 | succ k ih =>
  intros
  unfold Pm.fileL2
  repeat' first
   | exact NR.none
   | exact NR.ok
   | exact ih _ _ _
   | exact N_topsC _ _ _ _ _ _ _ _ (NR.bo (N_unl _ _ _ _) (fun _ _ => NR.ok))
   | exact N_unl _ _ _ _
   | simp only [now_m, mT0, mT1, mT2, is_m, nxt_m, decls_m, nest_m, mk_m, minus1_m, minus2_m, len_m, get0_m, get2_m]
   | refine NR.bo ?_ (fun _ _ => ?_)
   | refine NR.ite (fun _ => ?_) (fun _ => ?_)
theorem N_file2 (φ : Int → Int) (k : Nat) (e : Int) (s : PS) : NR φ (Pm.file2 k e s) (Pm.file2 k (φ e) (mS φ s)) := by
 unfold Pm.file2
 repeat' first
  | exact N_text _ _ _ _ _
  | exact N_fileL2 _ _ _ _ _ _
  | exact N_unl _ _ _ _
  | exact N_sign _ _ _ _
  | simp only [now_m, mT0, mT1, mT2, is_m, nxt_m, decls_m, nest_m, mk_m, minus1_m, minus2_m, len_m, get0_m, get2_m]
  | refine NR.bo ?_ (fun _ _ => ?_)
end
theorem tokens2_nat (φ : Int → Int) (k : Nat) (l : List PTok) (r : PFile × Int × Int) (hl : l.length ≤ 16384) (he : Pm.endOf (l.map (mT φ)) = φ (Pm.endOf l)) (h : Pm.tokens2 k l = some r) :
  ∃ a, Pm.tokens2 k (l.map (mT φ)) = some (r.1, r.2.1, a) ∧ (r.2.1 = 0 → r.2.2 = 0 ∧ a = 0) ∧ (r.2.1 ≠ 0 → a = φ r.2.2) := by
 unfold Pm.tokens2 at h ⊢
 rw [if_neg (by omega)] at h
 rw [List.length_map, if_neg (by omega), he]
 have hn := N_file2 φ k (Pm.endOf l) ⟨l, 0, 0⟩
 have hm : mS φ ⟨l, 0, 0⟩ = ⟨l.map (mT φ), 0, 0⟩ := rfl
 rw [hm] at hn
 generalize Pm.file2 k (φ (Pm.endOf l)) ⟨l.map (mT φ), 0, 0⟩ = y at hn ⊢
 generalize Pm.file2 k (Pm.endOf l) ⟨l, 0, 0⟩ = x at hn h
 rcases x with _ | ⟨er, at_⟩ | ⟨a, s⟩
 ·cases h
 ·rcases y with _ | ⟨er2, at2⟩ | ⟨b, t⟩
  ·exact hn.elim
  ·obtain ⟨h1, h2⟩ := hn
   obtain ⟨rfl, rfl⟩ := Prod.mk.inj h2
   obtain rfl := Option.some.inj h
   exact ⟨_, rfl, fun c => absurd c h1, fun _ => rfl⟩
  ·exact hn.elim
 ·rcases y with _ | ⟨er2, at2⟩ | ⟨b, t⟩
  ·exact hn.elim
  ·exact hn.elim
  ·obtain ⟨rfl, rfl⟩ := Prod.mk.inj (show (b, t) = (a, mS φ s) from hn)
   obtain rfl := Option.some.inj h
   exact ⟨0, rfl, fun _ => ⟨rfl, rfl⟩, fun c => absurd rfl c⟩
end Go.Proofs.YtgkodenllfpajaaDoor.A
end
section
namespace Go.Proofs.YtgkodenllfpajaaDoor.A
open Go.RowKit Go.Proofs.YtgkodenllfpajaaDoorW.PrintWords Go.Proofs.YtgkodenllfpajaaDoorW.PrintLast Go.Proofs.YtgkodenllfpajaaDoorW.PrintMore
set_option linter.unusedVariables false
set_option linter.unusedSimpArgs false
namespace Rex
set_option linter.unusedSectionVars false
theorem w64 {n : Int} (h : -9223372036854775808 ≤ n) (h2 : n ≤ 9223372036854775807) : wrap64 n = n := by unfold wrap64; omega
theorem byte_all {P : Int → Prop} (h : ∀ n : Fin 256, P (n.val : Int)) {c : Int} (h0 : 0 ≤ c) (h1 : c ≤ 255) : P c := by
 have := h ⟨c.toNat, by omega⟩
 rwa [show ((c.toNat : Nat) : Int) = c by omega] at this
theorem size_extract (s : ByteArray) (a b : Nat) (h : b ≤ s.size) : (s.extract a b).size = b - a := by
 rw [ByteArray.size_extract]; omega
theorem bt_extract (s : ByteArray) (a b : Nat) (h : b ≤ s.size) (i : Int) (h0 : 0 ≤ i) (h1 : i < (b : Int) - (a : Int)) : bt (s.extract a b) i = bt s ((a : Int) + i) := by
 have hs := size_extract s a b h
 unfold bt
 rw [dif_pos (show i.toNat < (s.extract a b).size by omega), dif_pos (show ((a : Int) + i).toNat < s.size by omega)]
 have e : ((a : Int) + i).toNat = a + i.toNat := by omega
 simp only [e]
 rw [ByteArray.getElem_extract]
theorem ext_bt {s t : ByteArray} (hs : s.size = t.size) (h : ∀ i : Int, 0 ≤ i → i < (s.size : Int) → bt s i = bt t i) : s = t := by
 apply ByteArray.ext
 apply Array.ext
 ·exact hs
 ·intro i h1 h2
  have h1' : i < s.size := h1
  have h2' : i < t.size := h2
  have := h i (by omega) (by omega)
  unfold bt at this
  rw [dif_pos (by omega), dif_pos (by omega)] at this
  apply UInt8.toNat_inj.mp
  simp only [Int.toNat_natCast] at this
  have := Int.ofNat.inj this
  exact this
theorem Ev.unique {α : Type} {g : Nat → Option α} {a b : α} (h : Ev g a) (k : Ev g b) : a = b := by
 obtain ⟨K, h⟩ := h
 obtain ⟨K', k⟩ := k
 have h1 := h (max K K') (by omega)
 have h2 := k (max K K') (by omega)
 exact Option.some.inj (h1.symm.trans h2)
theorem Ev.some' {α : Type} {g : Nat → Option α} (r : α) (h : ∀ k, g k = some r) : Ev g r := ⟨0, fun k _ => h k⟩
def cls (c : Int) : Int := (scan_class.f 6 c).getD 0
def word (c : Int) : Bool := cls c == 2 || cls c == 3
set_option maxRecDepth 100000 in
theorem cls_tab : ∀ n : Fin 256, scan_class.f 6 (n.val : Int) = some (cls (n.val : Int)) := by decide +kernel
theorem class_ev (s : ByteArray) (i : Int) : Ev (fun k => scan_class.f k (bt s i)) (cls (bt s i)) :=
 Ev.of (scan_class.mono _) (byte_all (P := fun c => scan_class.f 6 c = some (cls c)) cls_tab (bt_range s i).1 (bt_range s i).2)
theorem row_from (s : ByteArray) (hs : s.size ≤ 140737488355328) (d : Nat) : ∀ i : Int, 0 ≤ i → i ≤ s.size → (s.size : Int) - i = d →
  ∃ r, Ev (fun k => scan_row.l0 k s i) r ∧ i ≤ r ∧ r ≤ s.size ∧ (∀ j, i ≤ j → j < r → word (bt s j) = true) ∧ (r < s.size → word (bt s r) = false) := by
 induction d with
 | zero =>
  intro i h0 h1 hd
  refine ⟨i, Ev.step (f := fun _ => some i) (fun k => by simp only [scan_row.l0]; rw [if_neg (by omega)]) (Ev.now i), by omega, by omega, fun j _ _ => by omega, fun h => by omega⟩
 | succ d ih =>
  intro i h0 h1 hd
  have hlt : i < (s.size : Int) := by omega
  by_cases hw : word (bt s i) = true
  ·obtain ⟨r, hr, h2, h3, h4, h5⟩ := ih (i + 1) (by omega) (by omega) (by omega)
   refine ⟨r, ?_, by omega, h3, fun j hj hj2 => ?_, h5⟩
   ·refine Ev.step (f := fun k => (scan_class.f k (bt s i)).bind fun t => if t = 2 then scan_row.l0 k s (wrap64 (i + 1)) else (if t = 3 then scan_row.l0 k s (wrap64 (i + 1)) else some i)) (fun k => ?_) (Ev.bind (class_ev s i) ?_)
    ·simp only [scan_row.l0]; rw [if_pos hlt, if_pos h0]
    ·rw [w64 (by omega) (by omega)]
     unfold word at hw
     by_cases h2 : cls (bt s i) = 2
     ·simpa only [if_pos h2] using hr
     ·have h3 : cls (bt s i) = 3 := by simpa [h2] using hw
      simpa only [if_neg h2, if_pos h3] using hr
   ·by_cases e : j = i
    ·rw [e]; exact hw
    ·exact h4 j (by omega) hj2
  ·have hw' : word (bt s i) = false := by simpa using hw
   refine ⟨i, ?_, by omega, by omega, fun j _ _ => by omega, fun _ => hw'⟩
   refine Ev.step (f := fun k => (scan_class.f k (bt s i)).bind fun t => if t = 2 then scan_row.l0 k s (wrap64 (i + 1)) else (if t = 3 then scan_row.l0 k s (wrap64 (i + 1)) else some i)) (fun k => ?_) (Ev.bind (class_ev s i) ?_)
   ·simp only [scan_row.l0]; rw [if_pos hlt, if_pos h0]
   ·unfold word at hw'
    have h2 : ¬ cls (bt s i) = 2 := by intro h; simp [h] at hw'
    have h3 : ¬ cls (bt s i) = 3 := by intro h; simp [h] at hw'
    simp only [if_neg h2, if_neg h3]
    exact Ev.now i
theorem row_ev (s : ByteArray) (hs : s.size ≤ 140737488355328) :
  ∃ r, Ev (fun k => scan_row.f k s) r ∧ 0 ≤ r ∧ r ≤ s.size ∧ (∀ j, 0 ≤ j → j < r → word (bt s j) = true) ∧ (r < s.size → word (bt s r) = false) :=
 row_from s hs s.size 0 (by omega) (by omega) (by omega)
def simple (c : Int) : Int × Bool := (scan_simple.f c).getD (0, false)
set_option maxRecDepth 100000 in
theorem simple_tab : ∀ n : Fin 256, scan_simple.f (n.val : Int) = some (simple (n.val : Int)) := by decide +kernel
theorem simple_eq (s : ByteArray) (i : Int) : scan_simple.f (bt s i) = some (simple (bt s i)) :=
 byte_all (P := fun c => scan_simple.f c = some (simple c)) simple_tab (bt_range s i).1 (bt_range s i).2
def Pre (t u : ByteArray) (n : Int) : Prop := n ≤ (t.size : Int) ∧ n ≤ (u.size : Int) ∧ ∀ j : Int, 0 ≤ j → j < n → bt t j = bt u j
theorem row_same {t u : ByteArray} {n : Int} (ht : t.size ≤ 140737488355328) (hu : u.size ≤ 140737488355328) (hp : Pre t u n) (h : Ev (fun k => scan_row.f k t) n) (hw : n < (u.size : Int) → word (bt u n) = false) :
  Ev (fun k => scan_row.f k u) n ∧ (1 ≤ n → word (bt t (n - 1)) = true) := by
 obtain ⟨r, hr, h0, h1, h2, h3⟩ := row_ev t ht
 obtain rfl : n = r := Ev.unique h hr
 obtain ⟨q, hq, g0, g1, g2, g3⟩ := row_ev u hu
 obtain ⟨p1, p2, p3⟩ := hp
 have e : q = n := by
  rcases Int.lt_trichotomy q n with c | c | c
  ·exfalso
   have h := h2 q g0 c
   rw [p3 q g0 c, g3 (by omega)] at h
   cases h
  ·exact c
  ·exfalso
   have h := g2 n h0 c
   rw [hw (by omega)] at h
   cases h
 subst e
 exact ⟨hq, fun c => h2 _ (by omega) (by omega)⟩
theorem pre_extract {t u : ByteArray} {n : Int} (hp : Pre t u n) (h0 : 0 ≤ n) : t.extract 0 n.toNat = u.extract 0 n.toNat := by
 obtain ⟨p1, p2, p3⟩ := hp
 have e1 := size_extract t 0 n.toNat (by omega)
 have e2 := size_extract u 0 n.toNat (by omega)
 refine ext_bt (by omega) (fun i i0 i1 => ?_)
 rw [bt_extract t 0 n.toNat (by omega) i i0 (by omega), bt_extract u 0 n.toNat (by omega) i i0 (by omega)]
 exact p3 _ (by omega) (by omega)
theorem number_same {t u : ByteArray} {n : Int} {kd : Int} (ht : t.size ≤ 140737488355328) (hu : u.size ≤ 140737488355328) (hk : kd ≠ 0) (hp : Pre t u n) (h : Ev (fun k => scan_number.f k t) (kd, n, 0)) (hw : n < (u.size : Int) → word (bt u n) = false) :
  Ev (fun k => scan_number.f k u) (kd, n, 0) ∧ (1 ≤ n → word (bt t (n - 1)) = true) := by
 have num : ∀ (v : ByteArray) (r : Int) (w : Int × Bool), 0 ≤ r → r ≤ (v.size : Int) → Ev (fun k => scan_row.f k v) r → Ev (fun k => scan_worth.f k (v.extract 0 r.toNat)) w → Ev (fun k => scan_number.f k v) (if w.2 = true then (2, r, 0) else (0, 0, 41)) := by
  intro v r w r0 r1 hr hw
  refine Ev.congr (f := fun k => (scan_row.f k v).bind fun t152 => if 0 ≤ t152 then (if t152 ≤ (v.size : Int) then ((scan_worth.f k (v.extract 0 (t152 : Int).toNat)).bind fun bt153 => (if bt153.2 = true then (some (2, t152, 0)) else (some (0, 0, 41)))) else (none)) else (none)) (fun k => rfl) (Ev.bind hr ?_)
  simp only [if_pos r0, if_pos r1]
  refine Ev.bind hw (Ev.some' _ (fun k => ?_))
  split <;> rfl
 obtain ⟨r, hr, r0, r1, _, _⟩ := row_ev t ht
 have ez := size_extract t 0 r.toNat (by omega)
 obtain ⟨w, w1, _⟩ := Tt_worth (t.extract 0 r.toNat) (by omega)
 have hx := Ev.unique h (num t r w r0 r1 hr w1)
 by_cases c : w.2 = true
 ·rw [if_pos c] at hx
  simp only [Prod.mk.injEq, and_true] at hx
  obtain ⟨hk2, rfl⟩ := hx
  obtain ⟨g1, g2⟩ := row_same ht hu hp hr hw
  rw [pre_extract hp r0] at w1
  have hy := num u n w r0 hp.2.1 g1 w1
  rw [if_pos c, ← hk2] at hy
  exact ⟨hy, g2⟩
 ·rw [if_neg c] at hx
  simp only [Prod.mk.injEq] at hx
  exact absurd hx.1 hk
theorem esc_stop {x7 x9 o r q : Int} (h : (if x7 = o then (some (0, 0)) else (if x9 > 255 then (some (0, 0)) else (some ((x9) % 256, x7)))) = some (r, q)) : q = 0 ∨ q = x7 := by
 by_cases c1 : x7 = o
 ·rw [if_pos c1] at h
  simp only [Option.some.injEq, Prod.mk.injEq] at h
  exact .inl h.2.symm
 ·rw [if_neg c1] at h
  by_cases c2 : x9 > 255
  ·rw [if_pos c2] at h
   simp only [Option.some.injEq, Prod.mk.injEq] at h
   exact .inl h.2.symm
  ·rw [if_neg c2] at h
   simp only [Option.some.injEq, Prod.mk.injEq] at h
   exact .inr h.2.symm
theorem esc_l0 (t u : ByteArray) (n : Int) (hp : Pre t u n) (ht : t.size ≤ 140737488355328) (b m o : Int) : ∀ (k : Nat) (x9 x7 r q : Int), 0 ≤ x7 → x7 ≤ (t.size : Int) → scan_escape.l0 k t b x7 m x9 o = some (r, q) →
  (q = 0 ∨ x7 ≤ q ∧ q ≤ (t.size : Int)) ∧ (q ≠ 0 → q < n → scan_escape.l0 k u b x7 m x9 o = some (r, q)) := by
 obtain ⟨p1, p2, p3⟩ := hp
 intro k
 induction k with
 | zero => intro x9 x7 r q _ _ h; simp [scan_escape.l0] at h
 | succ k ih =>
  intro x9 x7 r q h0 h1 h
  simp only [scan_escape.l0] at h ⊢
  by_cases c1 : x7 < (t.size : Int)
  ·rw [if_pos c1] at h
   by_cases c2 : x7 < wrap64 (o + m)
   ·rw [if_pos c2, if_pos h0] at h
    obtain ⟨v, hv, h⟩ := Option.bind_eq_some_iff.mp h
    by_cases c3 : v < b
    ·rw [if_pos c3] at h
     obtain ⟨v2, hv2, h⟩ := Option.bind_eq_some_iff.mp h
     obtain rfl : v = v2 := Option.some.inj (hv.symm.trans hv2)
     rw [w64 (n := x7 + 1) (by omega) (by omega)] at h
     obtain ⟨g1, g2⟩ := ih _ _ _ _ (by omega) (by omega) h
     refine ⟨by omega, fun hq hn => ?_⟩
     have hlt : x7 < n := by omega
     rw [if_pos (show x7 < (u.size : Int) by omega), if_pos c2, if_pos h0, ← p3 x7 h0 hlt, hv, Option.bind_some, if_pos c3, Option.bind_some, w64 (n := x7 + 1) (by omega) (by omega)]
     exact g2 hq hn
    ·rw [if_neg c3] at h
     have e := esc_stop h
     refine ⟨by omega, fun hq hn => ?_⟩
     have hlt : x7 < n := by omega
     rw [if_pos (show x7 < (u.size : Int) by omega), if_pos c2, if_pos h0, ← p3 x7 h0 hlt, hv, Option.bind_some, if_neg c3]
     exact h
   ·rw [if_neg c2] at h
    have e := esc_stop h
    refine ⟨by omega, fun hq hn => ?_⟩
    rw [if_pos (show x7 < (u.size : Int) by omega), if_neg c2]
    exact h
  ·rw [if_neg c1] at h
   have e := esc_stop h
   exact ⟨by omega, fun hq hn => by exfalso; omega⟩
theorem esc_same {t : ByteArray} (ht : t.size ≤ 140737488355328) {k : Nat} {r q : Int} (h : scan_escape.f k t = some (r, q)) :
  (0 ≤ q ∧ q ≤ (t.size : Int)) ∧ ∀ u n, q ≠ 0 → Pre t u n → q < n → scan_escape.f k u = some (r, q) := by
 simp only [scan_escape.f] at h
 by_cases c0 : t.toList = ([] : List UInt8)
 ·rw [if_pos c0] at h
  simp only [Option.some.injEq, Prod.mk.injEq] at h
  exact ⟨by omega, fun u n hq => absurd h.2.symm hq⟩
 ·have hz : 0 < t.size := by
   by_cases z : 0 < t.size
   ·exact z
   ·exact absurd ((toList_nil t).2 (by omega)) c0
  rw [if_neg c0, if_pos (by omega), simple_eq, Option.bind_some] at h
  have head : ∀ u n, Pre t u n → q < n → 0 ≤ q → ¬ u.toList = ([] : List UInt8) ∧ 0 < (u.size : Int) ∧ bt t 0 = bt u 0 := by
   rintro u n ⟨p1, p2, p3⟩ hn hq
   exact ⟨fun e => by have := (toList_nil u).1 e; omega, by omega, p3 0 (by omega) (by omega)⟩
  by_cases c1 : (simple (bt t 0)).2 = true
  ·rw [if_pos c1] at h
   simp only [Option.some.injEq, Prod.mk.injEq] at h
   refine ⟨by omega, fun u n hq hp hn => ?_⟩
   obtain ⟨g1, g2, g3⟩ := head u n hp hn (by omega)
   simp only [scan_escape.f]
   rw [if_neg g1, if_pos g2, simple_eq, Option.bind_some, ← g3, if_pos c1]
   simp only [Option.some.injEq, Prod.mk.injEq]
   exact h
  ·rw [if_neg c1] at h
   have key : ∀ flag : Bool, scan_escape.j0 k t 8 0 3 flag = some (r, q) → (0 ≤ q ∧ q ≤ (t.size : Int)) ∧ ∀ u n, q ≠ 0 → Pre t u n → q < n → scan_escape.j0 k u 8 0 3 flag = some (r, q) := by
    intro flag h
    cases k with
    | zero => simp [scan_escape.j0] at h
    | succ k =>
     have key1 : ∀ b a m : Int, 0 ≤ a → a ≤ (t.size : Int) → scan_escape.j1 k t b a m = some (r, q) → (0 ≤ q ∧ q ≤ (t.size : Int)) ∧ ∀ u n, q ≠ 0 → Pre t u n → q < n → scan_escape.j1 k u b a m = some (r, q) := by
      intro b a m a0 a1 h
      cases k with
      | zero => simp [scan_escape.j1] at h
      | succ k =>
       simp only [scan_escape.j1] at h ⊢
       have g := fun u n hp => esc_l0 t u n hp ht b m a k 0 a r q a0 a1 h
       refine ⟨?_, fun u n hq hp hn => (g u n hp).2 hq hn⟩
       have g0 := (g t 0 ⟨by omega, by omega, fun _ _ _ => rfl⟩).1
       omega
     simp only [scan_escape.j0] at h ⊢
     cases flag with
     | true =>
      rw [if_pos rfl] at h
      obtain ⟨g1, g2⟩ := key1 16 1 2 (by omega) (by omega) h
      exact ⟨g1, fun u n hq hp hn => by rw [if_pos rfl]; exact g2 u n hq hp hn⟩
     | false =>
      rw [if_neg Bool.false_ne_true] at h
      obtain ⟨g1, g2⟩ := key1 8 0 3 (by omega) (by omega) h
      exact ⟨g1, fun u n hq hp hn => by rw [if_neg Bool.false_ne_true]; exact g2 u n hq hp hn⟩
   by_cases c2 : bt t 0 = 120
   ·rw [if_pos c2] at h
    obtain ⟨g1, g2⟩ := key _ h
    refine ⟨g1, fun u n hq hp hn => ?_⟩
    obtain ⟨e1, e2, e3⟩ := head u n hp hn (by omega)
    simp only [scan_escape.f]
    rw [if_neg e1, if_pos e2, simple_eq, Option.bind_some, ← e3, if_neg c1, if_pos c2]
    exact g2 u n hq hp hn
   ·rw [if_neg c2] at h
    obtain ⟨g1, g2⟩ := key _ h
    refine ⟨g1, fun u n hq hp hn => ?_⟩
    obtain ⟨e1, e2, e3⟩ := head u n hp hn (by omega)
    simp only [scan_escape.f]
    rw [if_neg e1, if_pos e2, simple_eq, Option.bind_some, ← e3, if_neg c1, if_neg c2]
    exact g2 u n hq hp hn
theorem unq_l (t u : ByteArray) (n : Int) (hp : Pre t u n) (ht : t.size ≤ 140737488355320) : ∀ k : Nat,
  (∀ (x5 : List Int) (x6 : Int) (x : ByteArray) (r : Int), 1 ≤ x6 → x6 ≤ (t.size : Int) → scan_unquoted.l0 k t x5 x6 = some (x, r, true) → (x6 < r ∧ r ≤ (t.size : Int) ∧ bt t (r - 1) = bt t 0) ∧ (r = n → scan_unquoted.l0 k u x5 x6 = some (x, r, true))) ∧
  (∀ (x5 : List Int) (x6 x7 x25 : Int) (x40 : Bool) (x : ByteArray) (r : Int), 1 ≤ x6 → x6 < (t.size : Int) → scan_unquoted.j2 k t x5 x6 x7 x25 x40 = some (x, r, true) → (x6 < r ∧ r ≤ (t.size : Int) ∧ bt t (r - 1) = bt t 0) ∧ (r = n → scan_unquoted.j2 k u x5 x6 x7 x25 x40 = some (x, r, true))) := by
 obtain ⟨p1, p2, p3⟩ := hp
 intro k
 induction k with
 | zero => exact ⟨fun _ _ _ _ _ _ h => by simp [scan_unquoted.l0] at h, fun _ _ _ _ _ _ _ _ _ h => by simp [scan_unquoted.j2] at h⟩
 | succ k ih =>
  obtain ⟨ih1, ih2⟩ := ih
  refine ⟨?_, ?_⟩
  ·intro x5 x6 x r h1 h2 h
   simp only [scan_unquoted.l0] at h ⊢
   by_cases c1 : x6 < (t.size : Int)
   ·rw [if_pos c1, if_pos (show 0 ≤ x6 by omega), if_pos (show 0 < (t.size : Int) by omega)] at h
    by_cases c2 : bt t x6 = bt t 0
    ·rw [if_pos c2, w64 (n := x6 + 1) (by omega) (by omega)] at h
     simp only [Option.some.injEq, Prod.mk.injEq, and_true] at h
     obtain ⟨hx, rfl⟩ := h
     refine ⟨⟨by omega, by omega, by rw [show x6 + 1 - 1 = x6 by omega]; exact c2⟩, fun hn => ?_⟩
     rw [if_pos (show x6 < (u.size : Int) by omega), if_pos (show 0 ≤ x6 by omega), if_pos (show 0 < (u.size : Int) by omega), ← p3 x6 (by omega) (by omega), ← p3 0 (by omega) (by omega), if_pos c2, w64 (n := x6 + 1) (by omega) (by omega), hx]
    ·rw [if_neg c2] at h
     by_cases c3 : bt t x6 = 0
     ·rw [if_pos c3] at h
      obtain ⟨g1, g2⟩ := ih2 _ _ _ _ _ _ _ h1 c1 h
      refine ⟨g1, fun hn => ?_⟩
      rw [if_pos (show x6 < (u.size : Int) by omega), if_pos (show 0 ≤ x6 by omega), if_pos (show 0 < (u.size : Int) by omega), ← p3 x6 (by omega) (by omega), ← p3 0 (by omega) (by omega), if_neg c2, if_pos c3]
      exact g2 hn
     ·rw [if_neg c3] at h
      obtain ⟨g1, g2⟩ := ih2 _ _ _ _ _ _ _ h1 c1 h
      refine ⟨g1, fun hn => ?_⟩
      rw [if_pos (show x6 < (u.size : Int) by omega), if_pos (show 0 ≤ x6 by omega), if_pos (show 0 < (u.size : Int) by omega), ← p3 x6 (by omega) (by omega), ← p3 0 (by omega) (by omega), if_neg c2, if_neg c3]
      exact g2 hn
   ·rw [if_neg c1] at h
    simp at h
  ·intro x5 x6 x7 x25 x40 x r h1 h2 h
   simp only [scan_unquoted.j2] at h ⊢
   by_cases c1 : x40 = true
   ·rw [if_pos c1] at h
    simp at h
   ·rw [if_neg c1] at h
    by_cases c2 : x25 = 92
    ·rw [if_pos c2, w64 (n := x6 + 1) (by omega) (by omega), if_pos (show 0 ≤ x6 + 1 by omega), if_pos (show x6 + 1 ≤ (t.size : Int) by omega)] at h
     obtain ⟨⟨b, q⟩, he, h⟩ := Option.bind_eq_some_iff.mp h
     dsimp only at h
     by_cases c3 : q = 0
     ·rw [if_pos c3] at h
      simp at h
     ·rw [if_neg c3] at h
      by_cases c4 : x5.length < 140737488355328
      ·rw [if_pos c4] at h
       have es := size_extract t (x6 + 1).toNat t.size (Nat.le_refl _)
       obtain ⟨E1, E2⟩ := esc_same (by omega) he
       rw [w64 (n := 1 + q) (by omega) (by omega), w64 (n := x6 + (1 + q)) (by omega) (by omega)] at h
       obtain ⟨g1, g2⟩ := ih1 _ _ _ _ (by omega) (by omega) h
       refine ⟨⟨by omega, g1.2⟩, fun hn => ?_⟩
       have eu := size_extract u (x6 + 1).toNat u.size (Nat.le_refl _)
       have hpe : Pre (t.extract (x6 + 1).toNat t.size) (u.extract (x6 + 1).toNat u.size) (n - (x6 + 1)) := by
        refine ⟨by omega, by omega, fun j j0 j1 => ?_⟩
        rw [bt_extract t _ _ (Nat.le_refl _) j j0 (by omega), bt_extract u _ _ (Nat.le_refl _) j j0 (by omega)]
        exact p3 _ (by omega) (by omega)
       rw [if_neg c1, if_pos c2, w64 (n := x6 + 1) (by omega) (by omega), if_pos (show 0 ≤ x6 + 1 by omega), if_pos (show x6 + 1 ≤ (u.size : Int) by omega), E2 _ _ c3 hpe (by omega), Option.bind_some]
       dsimp only
       rw [if_neg c3, if_pos c4, w64 (n := 1 + q) (by omega) (by omega), w64 (n := x6 + (1 + q)) (by omega) (by omega)]
       exact g2 hn
      ·rw [if_neg c4] at h
       cases h
    ·rw [if_neg c2] at h
     by_cases c4 : x5.length < 140737488355328
     ·rw [if_pos c4, w64 (n := x6 + 1) (by omega) (by omega)] at h
      obtain ⟨g1, g2⟩ := ih1 _ _ _ _ (by omega) (by omega) h
      refine ⟨⟨by omega, g1.2⟩, fun hn => ?_⟩
      rw [if_neg c1, if_neg c2, if_pos c4, w64 (n := x6 + 1) (by omega) (by omega)]
      exact g2 hn
     ·rw [if_neg c4] at h
      cases h
theorem unq_same {t : ByteArray} (ht : t.size ≤ 140737488355320) {k : Nat} {x : ByteArray} {n : Int} (h : scan_unquoted.f k t = some (x, n, true)) :
  (2 ≤ n ∧ n ≤ (t.size : Int) ∧ bt t (n - 1) = bt t 0) ∧ ∀ u, Pre t u n → scan_unquoted.f k u = some (x, n, true) := by
 simp only [scan_unquoted.f] at h
 by_cases c0 : t.toList = ([] : List UInt8)
 ·rw [if_pos c0] at h
  cases k with
  | zero => simp [scan_unquoted.j0] at h
  | succ k => simp [scan_unquoted.j0] at h
 ·have hz : 0 < t.size := by
   by_cases z : 0 < t.size
   ·exact z
   ·exact absurd ((toList_nil t).2 (by omega)) c0
  rw [if_neg c0, if_pos (by omega)] at h
  obtain ⟨c, hc, h⟩ := Option.bind_eq_some_iff.mp h
  cases k with
  | zero => simp [scan_unquoted.j0] at h
  | succ k =>
   simp only [scan_unquoted.j0] at h
   by_cases c1 : (c != 4) = true
   ·rw [if_pos c1] at h
    simp at h
   ·rw [if_neg c1] at h
    have g := fun u hp => (unq_l t u n hp ht k).1 _ _ _ _ (by omega) (by omega) h
    have g0 := ((unq_l t t 0 ⟨by omega, by omega, fun _ _ _ => rfl⟩ ht k).1 _ _ _ _ (by omega) (by omega) h).1
    refine ⟨⟨by omega, g0.2⟩, fun u hp => ?_⟩
    have gu := (g u hp).2 rfl
    obtain ⟨p1, p2, p3⟩ := hp
    simp only [scan_unquoted.f]
    rw [if_neg (fun e => by have := (toList_nil u).1 e; omega), if_pos (show 0 < (u.size : Int) by omega), ← p3 0 (by omega) (by omega), hc, Option.bind_some]
    simp only [scan_unquoted.j0]
    rw [if_neg c1]
    exact gu
set_option maxRecDepth 100000 in
theorem ascii_tab : ∀ n : Fin 256, cls (n.val : Int) ≠ 0 → (n.val : Int) < 128 := by decide +kernel
theorem ascii (s : ByteArray) (i : Int) (h : cls (bt s i) ≠ 0) : bt s i < 128 :=
 byte_all (P := fun c => cls c ≠ 0 → c < 128) ascii_tab (bt_range s i).1 (bt_range s i).2 h
theorem ascii_word (s : ByteArray) (i : Int) (h : word (bt s i) = true) : bt s i < 128 := by
 refine ascii s i (fun e => ?_)
 unfold word at h
 rw [e] at h
 cases h
theorem disp_same {t u : ByteArray} {c kd n : Int} (ht : t.size ≤ 140737488355320) (hu : u.size ≤ 140737488355320) (hc : cls (bt t 0) = c) (hk : kd ≠ 0) (hn : 1 ≤ n) (hp : Pre t u n) (h : Ev (fun k => scan_disp k c t) (kd, n, 0)) (hw : n < (u.size : Int) → word (bt u n) = false) :
  Ev (fun k => scan_disp k c u) (kd, n, 0) ∧ bt t (n - 1) < 128 := by
 obtain ⟨K, hK⟩ := h
 have h1 : scan_disp K c t = some (kd, n, 0) := hK K (Nat.le_refl _)
 have h : Ev (fun k => scan_disp k c t) (kd, n, 0) := ⟨K, hK⟩
 by_cases c0 : c = 0
 ·subst c0; simp only [scan_disp, if_true, Option.some.injEq, Prod.mk.injEq] at h1; exfalso; omega
 by_cases c1 : c = 1
 ·subst c1; simp only [scan_disp, if_true, if_neg (show ¬ (1 : Int) = 0 by omega), Option.some.injEq, Prod.mk.injEq] at h1; exfalso; exact hk h1.1.symm
 by_cases c2 : c = 2
 ·subst c2
  have e : ∀ v k, scan_disp k 2 v = (scan_row.f k v).bind fun n => some (1, n, 0) := fun v k => rfl
  rw [e] at h1
  obtain ⟨m, hm, h2⟩ := Option.bind_eq_some_iff.mp h1
  simp only [Option.some.injEq, Prod.mk.injEq, and_true] at h2
  obtain ⟨rfl, rfl⟩ := h2
  obtain ⟨g1, g2⟩ := row_same (by omega) (by omega) hp (Ev.of (scan_row.mono _) hm) hw
  exact ⟨Ev.congr (e u) (Ev.bind g1 (Ev.now _)), ascii_word t _ (g2 hn)⟩
 by_cases c3 : c = 3
 ·subst c3
  have e : ∀ v k, scan_disp k 3 v = scan_number.f k v := fun v k => rfl
  obtain ⟨g1, g2⟩ := number_same (by omega) (by omega) hk hp (Ev.congr (fun k => (e t k).symm) h) hw
  exact ⟨Ev.congr (e u) g1, ascii_word t _ (g2 hn)⟩
 by_cases c4 : c = 4
 ·subst c4
  have e : ∀ v k, scan_disp k 4 v = (scan_unquoted.f k v).bind fun bt156 => (if bt156.2.2 = true then (some (3, bt156.2.1, 0)) else (some (0, 0, 42))) := fun v k => rfl
  rw [e] at h1
  obtain ⟨⟨x, m, b⟩, hm, h2⟩ := Option.bind_eq_some_iff.mp h1
  dsimp only at h2
  cases b with
  | false =>
   rw [if_neg Bool.false_ne_true] at h2
   simp only [Option.some.injEq, Prod.mk.injEq] at h2
   exact absurd h2.1.symm hk
  | true =>
   rw [if_pos rfl] at h2
   simp only [Option.some.injEq, Prod.mk.injEq, and_true] at h2
   obtain ⟨rfl, rfl⟩ := h2
   obtain ⟨g1, g2⟩ := unq_same ht hm
   refine ⟨Ev.congr (e u) (Ev.bind (Ev.of (scan_unquoted.mono _) (g2 u hp)) (Ev.now _)), ?_⟩
   rw [g1.2.2]
   exact ascii t 0 (by omega)
 by_cases c5 : c = 5
 ·subst c5
  have e : ∀ v k, scan_disp k 5 v = some (4, 1, 0) := fun v k => rfl
  rw [e] at h1
  simp only [Option.some.injEq, Prod.mk.injEq, and_true] at h1
  obtain ⟨rfl, rfl⟩ := h1
  exact ⟨Ev.some' _ (e u), by rw [show (1 : Int) - 1 = 0 by omega]; exact ascii t 0 (by omega)⟩
 by_cases c6 : c = 6
 ·subst c6
  exfalso
  have e : ∀ v k, scan_disp k 6 v = scan_comment.f v := fun v k => rfl
  rw [e] at h1
  simp only [scan_comment.f] at h1
  obtain ⟨b, _, h1⟩ := Option.bind_eq_some_iff.mp h1
  split at h1
  ·obtain ⟨i, _, h1⟩ := Option.bind_eq_some_iff.mp h1
   split at h1 <;> simp only [Option.some.injEq, Prod.mk.injEq] at h1 <;> exact hk h1.1.symm
  ·obtain ⟨b2, _, h1⟩ := Option.bind_eq_some_iff.mp h1
   split at h1
   ·split at h1
    ·obtain ⟨i, _, h1⟩ := Option.bind_eq_some_iff.mp h1
     split at h1 <;> simp only [Option.some.injEq, Prod.mk.injEq] at h1 <;> exact hk h1.1.symm
    ·cases h1
   ·simp only [Option.some.injEq, Prod.mk.injEq] at h1
    exact hk h1.1.symm
 ·exfalso
  simp only [scan_disp, if_neg c0, if_neg c1, if_neg c2, if_neg c3, if_neg c4, if_neg c5, if_neg c6] at h1
  cases h1
theorem cls_range (s : ByteArray) (i : Int) : 0 ≤ cls (bt s i) ∧ cls (bt s i) < 7 := by
 obtain ⟨v, hv, h⟩ := Tt_class s i
 rw [Ev.unique (class_ev s i) hv]
 exact h
theorem disp_kind {k : Nat} {c : Int} {t : ByteArray} {p : Int × Int × Int} (h : scan_disp k c t = some p) (h0 : p.2.2 = 0) : 0 ≤ p.1 ∧ p.1 ≤ 4 := by
 have fin : ∀ {q : Int × Int × Int}, some q = some p → 0 ≤ q.1 → q.1 ≤ 4 → 0 ≤ p.1 ∧ p.1 ≤ 4 := fun e a b => by obtain rfl := Option.some.inj e; exact ⟨a, b⟩
 unfold scan_disp at h
 repeat' (split at h)
 ·exact fin h (by decide) (by decide)
 ·exact fin h (by decide) (by decide)
 ·obtain ⟨n, _, h⟩ := Option.bind_eq_some_iff.mp h
  exact fin h (by show (0 : Int) ≤ 1; decide) (by show (1 : Int) ≤ 4; decide)
 ·unfold scan_number.f at h
  obtain ⟨n, _, h⟩ := Option.bind_eq_some_iff.mp h
  repeat' (split at h)
  ·obtain ⟨w, _, h⟩ := Option.bind_eq_some_iff.mp h
   split at h
   ·exact fin h (by show (0 : Int) ≤ 2; decide) (by show (2 : Int) ≤ 4; decide)
   ·exact fin h (by show (0 : Int) ≤ 0; decide) (by show (0 : Int) ≤ 4; decide)
  ·cases h
  ·cases h
 ·unfold scan_str.f at h
  obtain ⟨w, _, h⟩ := Option.bind_eq_some_iff.mp h
  split at h
  ·exact fin h (by show (0 : Int) ≤ 3; decide) (by show (3 : Int) ≤ 4; decide)
  ·exact fin h (by show (0 : Int) ≤ 0; decide) (by show (0 : Int) ≤ 4; decide)
 ·exact fin h (by decide) (by decide)
 ·unfold scan_comment.f at h
  obtain ⟨b, _, h⟩ := Option.bind_eq_some_iff.mp h
  split at h
  ·obtain ⟨i, _, h⟩ := Option.bind_eq_some_iff.mp h
   split at h <;> exact fin h (by show (0 : Int) ≤ 0; decide) (by show (0 : Int) ≤ 4; decide)
  ·obtain ⟨b2, _, h⟩ := Option.bind_eq_some_iff.mp h
   split at h
   ·split at h
    ·obtain ⟨i, _, h⟩ := Option.bind_eq_some_iff.mp h
     split at h <;> exact fin h (by show (0 : Int) ≤ 0; decide) (by show (0 : Int) ≤ 4; decide)
    ·cases h
   ·exact fin h (by show (0 : Int) ≤ 0; decide) (by show (0 : Int) ≤ 4; decide)
 ·cases h
theorem disp_at (s : ByteArray) (hs : s.size ≤ 65536) (a : Nat) (ha : a < s.size) : ∃ p : Int × Int × Int, Ev (fun k => scan_disp k (cls (bt s (a : Int))) (s.extract a s.size)) p ∧
  ((∃ n : Nat, p = (0, (n : Int), 0) ∧ 1 ≤ n ∧ a + n ≤ s.size) ∨ p.2.2 ≠ 0 ∨ (∃ (kd : Int) (n : Nat), p = (kd, (n : Int), 0) ∧ 1 ≤ kd ∧ kd ≤ 4 ∧ 1 ≤ n ∧ a + n ≤ s.size)) := by
 have hx := size_extract s a s.size (Nat.le_refl _)
 have hb : bt (s.extract a s.size) 0 = bt s (a : Int) := bt_ext s a ha
 obtain ⟨⟨kd, n, er⟩, hp, hP⟩ := Tt_disp (s.extract a s.size) (by omega) (by omega) (cls (bt s (a : Int))) (cls_range s a) (by rw [hb]; exact class_ev s a)
 refine ⟨(kd, n, er), hp, ?_⟩
 by_cases c : er = 0
 ·subst c
  obtain ⟨g1, g2⟩ := hP rfl
  obtain ⟨K, hK⟩ := hp
  obtain ⟨k1, k2⟩ := disp_kind (hK K (Nat.le_refl _)) rfl
  dsimp only at g1 g2 k1 k2
  have en : ((n.toNat : Nat) : Int) = n := by omega
  by_cases z : kd = 0
  ·subst z
   exact .inl ⟨n.toNat, by rw [en], by omega, by omega⟩
  ·exact .inr (.inr ⟨kd, n.toNat, by rw [en], by omega, k2, by omega, by omega⟩)
 ·exact .inr (.inl c)
section
variable (s : ByteArray) (hs : s.size ≤ 65536)
include hs
omit hs in
theorem tokens_step (a : Nat) (ha : a < s.size) (l : List PTok) (k : Nat) : scan_Tokens.l0 (k + 1) s l (a : Int) = (scan_class.f k (bt s (a : Int))).bind fun c => ((scan_disp k c (s.extract a s.size)).bind fun p =>
   (if ¬ ((p.1 = 0 ∧ p.2.2 = 0) ∨ p.2.2 = 43) ∧ (l.length : Int) ≥ 16383 then some (([] : List PTok), (a : Int), 45)
   else if p.2.2 ≠ 0 then some (([] : List PTok), (a : Int), p.2.2)
   else if p.1 = 0 then scan_Tokens.l0 k s l (wrap64 ((a : Int) + p.2.1))
   else if (a : Int) ≤ wrap64 ((a : Int) + p.2.1) then (if wrap64 ((a : Int) + p.2.1) ≤ (s.size : Int) then (if l.length < 4398046511104 then scan_Tokens.l0 k s (l ++ [(⟨p.1, (a : Int), s.extract a (wrap64 ((a : Int) + p.2.1)).toNat⟩ : PTok)]) (wrap64 ((a : Int) + p.2.1)) else none) else none) else none)) := by
 simp only [scan_Tokens.l0]
 rw [if_neg (by omega), if_pos (by omega), if_pos (by omega)]
 rfl
theorem step_skip (a n : Nat) (hn : a + n ≤ s.size) (ha : a < s.size) (l : List PTok) (hd : Ev (fun k => scan_disp k (cls (bt s (a : Int))) (s.extract a s.size)) (0, (n : Int), 0)) {r : List PTok × Int × Int} (hr : Ev (fun k => scan_Tokens.l0 k s l ((a + n : Nat) : Int)) r) :
  Ev (fun k => scan_Tokens.l0 k s l (a : Int)) r := by
 refine Ev.step (tokens_step s a ha l) (Ev.bind (class_ev s (a : Int)) (Ev.bind hd (Ev.congr (fun k => ?_) hr)))
 rw [if_neg (fun h => h.1 (.inl ⟨rfl, rfl⟩)), if_neg (fun h => h rfl), if_pos rfl, w64 (by show _ ≤ (a : Int) + (n : Int); omega) (by show (a : Int) + (n : Int) ≤ _; omega)]
 rfl
theorem step_piece (a n : Nat) (h1 : 1 ≤ n) (hn : a + n ≤ s.size) (l : List PTok) (hl : l.length < 16383) (kd : Int) (hk : kd ≠ 0) (hd : Ev (fun k => scan_disp k (cls (bt s (a : Int))) (s.extract a s.size)) (kd, (n : Int), 0)) {r : List PTok × Int × Int}
  (hr : Ev (fun k => scan_Tokens.l0 k s (l ++ [(⟨kd, (a : Int), s.extract a (a + n)⟩ : PTok)]) ((a + n : Nat) : Int)) r) : Ev (fun k => scan_Tokens.l0 k s l (a : Int)) r := by
 refine Ev.step (tokens_step s a (by omega) l) (Ev.bind (class_ev s (a : Int)) (Ev.bind hd (Ev.congr (fun k => ?_) hr)))
 have en : ((a + n : Nat) : Int) = (a : Int) + n := by omega
 rw [if_neg (fun h => by have := h.2; omega), if_neg (fun h => h rfl), if_neg hk]
 dsimp only
 rw [w64 (by omega) (by omega), ← en, if_pos (by omega), if_pos (by omega), if_pos (by omega), show (((a + n : Nat) : Int)).toNat = a + n by omega]
omit hs in
theorem step_end (l : List PTok) (hl : l.length ≤ 16383) : Ev (fun k => scan_Tokens.l0 k s l (s.size : Int)) (l ++ [(⟨5, (s.size : Int), (⟨#[]⟩ : ByteArray)⟩ : PTok)], 0, 0) := by
 refine Ev.step (f := fun _ => some (l ++ [(⟨5, (s.size : Int), (⟨#[]⟩ : ByteArray)⟩ : PTok)], 0, 0)) (fun k => ?_) (Ev.now _)
 simp only [scan_Tokens.l0, if_true]
 rw [if_pos (show l.length < 4398046511104 by omega)]
end
def Tk (s : ByteArray) (x : PTok) (a n : Nat) : Prop := x.f1 = (a : Int) ∧ 1 ≤ n ∧ a + n ≤ s.size ∧ x.f2 = s.extract a (a + n) ∧ 1 ≤ x.f0 ∧ x.f0 ≤ 4 ∧ Ev (fun k => scan_disp k (cls (bt s (a : Int))) (s.extract a s.size)) (x.f0, (n : Int), 0)
def Row (s : ByteArray) : Nat → List PTok → Prop
 | _, [] => True
 | p, x :: xs => ∃ a n : Nat, p ≤ a ∧ Tk s x a n ∧ Row s (a + n) xs
theorem Row.weaken {s : ByteArray} {p q : Nat} (h : q ≤ p) : ∀ {xs : List PTok}, Row s p xs → Row s q xs
 | [], _ => trivial
 | _ :: _, ⟨a, n, ha, ht, hr⟩ => ⟨a, n, by omega, ht, hr⟩
def Shape (s : ByteArray) (a : Nat) (l : List PTok) (r : List PTok × Int × Int) : Prop :=
 (r.2.2 ≠ 0 ∧ r.1 = [] ∧ 0 ≤ r.2.1 ∧ r.2.1 ≤ (s.size : Int)) ∨ (∃ more : List PTok, r = (l ++ (more ++ [(⟨5, (s.size : Int), (⟨#[]⟩ : ByteArray)⟩ : PTok)]), 0, 0) ∧ Row s a more ∧ l.length + more.length ≤ 16383)
theorem tokens_shape (s : ByteArray) (hs : s.size ≤ 65536) (d : Nat) : ∀ (a : Nat) (l : List PTok), a ≤ s.size → s.size - a ≤ d → l.length ≤ 16383 → ∃ r, Ev (fun k => scan_Tokens.l0 k s l (a : Int)) r ∧ Shape s a l r := by
 have fin : ∀ (a : Nat) (l : List PTok), a = s.size → l.length ≤ 16383 → ∃ r, Ev (fun k => scan_Tokens.l0 k s l (a : Int)) r ∧ Shape s a l r := by
  rintro a l rfl hl
  exact ⟨_, step_end s l hl, .inr ⟨[], rfl, trivial, by simpa using hl⟩⟩
 induction d with
 | zero => intro a l ha hd hl; exact fin a l (by omega) hl
 | succ d ih =>
  intro a l ha hd hl
  by_cases c : a = s.size
  ·exact fin a l c hl
  have ha' : a < s.size := by omega
  obtain ⟨p, hp, hpc⟩ := disp_at s hs a ha'
  rcases hpc with ⟨n, rfl, n1, n2⟩ | he | ⟨kd, n, rfl, k1, k2, n1, n2⟩
  ·obtain ⟨r, h1, h2⟩ := ih (a + n) l n2 (by omega) hl
   refine ⟨r, step_skip s hs a n n2 ha' l hp h1, ?_⟩
   rcases h2 with h2 | ⟨more, g1, g2, g3⟩
   ·exact .inl h2
   ·exact .inr ⟨more, g1, g2.weaken (by omega), g3⟩
  ·by_cases cf : ¬ ((p.1 = 0 ∧ p.2.2 = 0) ∨ p.2.2 = 43) ∧ (l.length : Int) ≥ 16383
   ·refine ⟨([], (a : Int), 45), Ev.step (tokens_step s a ha' l) (Ev.bind (class_ev s (a : Int)) (Ev.bind hp (Ev.some' _ (fun k => ?_)))), .inl ⟨by show ¬ (45 : Int) = 0; omega, rfl, by show 0 ≤ (a : Int); omega, by show (a : Int) ≤ s.size; omega⟩⟩
    rw [if_pos cf]
   ·refine ⟨([], (a : Int), p.2.2), Ev.step (tokens_step s a ha' l) (Ev.bind (class_ev s (a : Int)) (Ev.bind hp (Ev.some' _ (fun k => ?_)))), .inl ⟨he, rfl, by show 0 ≤ (a : Int); omega, by show (a : Int) ≤ s.size; omega⟩⟩
    rw [if_neg cf, if_pos he]
  ·by_cases cf : l.length = 16383
   ·refine ⟨([], (a : Int), 45), Ev.step (tokens_step s a ha' l) (Ev.bind (class_ev s (a : Int)) (Ev.bind hp (Ev.some' _ (fun k => ?_)))), .inl ⟨by show ¬ (45 : Int) = 0; omega, rfl, by show 0 ≤ (a : Int); omega, by show (a : Int) ≤ s.size; omega⟩⟩
    have hn : ¬ ((kd = 0 ∧ (0 : Int) = 0) ∨ (0 : Int) = 43) := by omega
    rw [if_pos ⟨hn, by omega⟩]
   ·obtain ⟨r, h1, h2⟩ := ih (a + n) (l ++ [(⟨kd, (a : Int), s.extract a (a + n)⟩ : PTok)]) n2 (by omega) (by rw [List.length_append]; simp; omega)
    refine ⟨r, step_piece s hs a n n1 n2 l (by omega) kd (by omega) hp h1, ?_⟩
    rcases h2 with h2 | ⟨more, g1, g2, g3⟩
    ·exact .inl h2
    ·refine .inr ⟨(⟨kd, (a : Int), s.extract a (a + n)⟩ : PTok) :: more, by rw [g1]; simp, ⟨a, n, Nat.le_refl _, ⟨rfl, n1, n2, rfl, k1, k2, hp⟩, g2⟩, ?_⟩
     rw [List.length_append] at g3
     simp at g3 ⊢
     omega
theorem shape_all (s : ByteArray) : ∃ r, Ev (fun k => scan_Tokens.f k s) r ∧ ((r.2.2 ≠ 0 ∧ r.1 = [] ∧ 0 ≤ r.2.1 ∧ r.2.1 ≤ (s.size : Int)) ∨ (s.size ≤ 65536 ∧ Ev (fun k => wire_Utf8.l0 k s 0) (-1) ∧ ∃ more : List PTok, r = (more ++ [(⟨5, (s.size : Int), (⟨#[]⟩ : ByteArray)⟩ : PTok)], 0, 0) ∧ Row s 0 more ∧ more.length ≤ 16383)) := by
 by_cases c : (s.size : Int) > 65536
 ·exact ⟨([], 0, 2), Ev.some' _ (fun k => by simp only [scan_Tokens.f]; rw [if_pos c]), .inl ⟨by show ¬ (2 : Int) = 0; omega, rfl, by show (0 : Int) ≤ 0; omega, by show (0 : Int) ≤ s.size; omega⟩⟩
 obtain ⟨u, hu1, hu3⟩ := Tt_utf8 s (by omega) s.size 0 (by decide) (by omega) (by omega)
 have e1 : ∀ k, scan_Tokens.f k s = (wire_Utf8.f k s).bind fun t => if t ≥ 0 then some (([] : List PTok), t, 44) else scan_Tokens.l0 k s ([] : List PTok) 0 := by
  intro k; simp only [scan_Tokens.f]; rw [if_neg c]
 by_cases hu : u ≥ 0
 ·refine ⟨([], u, 44), Ev.congr e1 (Ev.bind hu1 ?_), .inl ⟨by show ¬ (44 : Int) = 0; omega, rfl, by show 0 ≤ u; omega, by show u ≤ s.size; omega⟩⟩
  simp only [if_pos hu]; exact Ev.now _
 ·obtain ⟨r, h1, h2⟩ := tokens_shape s (by omega) s.size 0 [] (by omega) (by omega) (by simp)
  refine ⟨r, Ev.congr e1 (Ev.bind hu1 ?_), ?_⟩
  ·simp only [if_neg hu]; exact h1
  ·rcases h2 with h2 | ⟨more, g1, g2, g3⟩
   ·exact .inl h2
   ·refine .inr ⟨by omega, ?_, more, by simpa using g1, g2, by simpa using g3⟩
    obtain rfl : u = -1 := by omega
    exact hu1
end Rex
end Go.Proofs.YtgkodenllfpajaaDoor.A
end
section
namespace Go.Proofs.YtgkodenllfpajaaDoor.A
open Go.RowKit Go.Proofs.YtgkodenllfpajaaDoorW.PrintWords Go.Proofs.YtgkodenllfpajaaDoorW.PrintLast Go.Proofs.YtgkodenllfpajaaDoorW.PrintMore
set_option linter.unusedVariables false
set_option linter.unusedSimpArgs false
namespace Rex
set_option linter.unusedSectionVars false
theorem wmore_range (i : Int) : 0 ≤ wmore i ∧ wmore i ≤ 3 := by
 by_cases h : 0 ≤ i ∧ i < 9
 ·have := wmore_all ⟨i.toNat, by omega⟩
  rwa [show ((i.toNat : Nat) : Int) = i by omega] at this
 ·unfold wmore wire_row
  by_cases h0 : 9 ≤ i.toNat
  ·rw [List.getD_eq_getElem?_getD, List.getElem?_eq_none (by simpa [RowTab] using h0)]; decide
  ·have h1 : i.toNat = 0 := by omega
   rw [h1]; decide
theorem chr_ascii (s : ByteArray) (a : Nat) (ha : a < s.size) (hb : bt s (a : Int) < 128) (hs : s.size ≤ 1099511627776) : Ev (fun k => wire_character.f k s (a : Int)) 1 := by
 have h0 := (bt_range s (a : Int)).1
 refine Ev.step (g := fun k => wire_character.l0 k s (a : Int) 0) (f := fun k => wire_character.l1 k s (a : Int) 0 1) (fun k => ?_) (Ev.step (f := fun _ => some 1) (fun k => ?_) (Ev.now _))
 ·simp only [wire_character.l0]
  have e1 : wlo 0 = 0 := by decide
  have e2 : whi 0 = 127 := by decide
  have e3 : wmore 0 = 0 := by decide
  rw [if_pos (by decide), if_pos (show (0 : Int) ≤ (a : Int) by omega), if_pos (show (a : Int) < (s.size : Int) by omega), e1, e2, e3, if_neg (by omega), if_neg (by omega), w64 (n := (a : Int) + 0) (by omega) (by omega), if_neg (by omega)]
 ·have e3 : wmore 0 = 0 := by decide
  simp only [wire_character.l1]
  rw [e3, if_neg (by decide)]
  rfl
theorem chr_one (s : ByteArray) (hs : s.size ≤ 1099511627776) (a : Nat) (ha : a < s.size) : ∃ r, Ev (fun k => wire_character.f k s (a : Int)) r ∧ ((0 ≤ r ∧ r ≤ 4 ∧ (a : Int) + r ≤ s.size) ∧ (bt s (a : Int) < 128 → r = 1)) := by
 obtain ⟨r, hr, h⟩ := Tt_charL0 s hs (a : Int) (by omega) (by omega) 9 0 (by decide) (by decide)
 exact ⟨r, hr, h, fun hb => Ev.unique hr (chr_ascii s a ha hb hs)⟩
theorem wlo2_cont (i : Int) (h : 1 ≤ wmore i) : 128 ≤ wlo2 i := by
 unfold wmore wire_row at h
 unfold wlo2 wire_row
 rcases (show i.toNat = 0 ∨ i.toNat = 1 ∨ i.toNat = 2 ∨ i.toNat = 3 ∨ i.toNat = 4 ∨ i.toNat = 5 ∨ i.toNat = 6 ∨ i.toNat = 7 ∨ i.toNat = 8 ∨ 9 ≤ i.toNat by omega) with e | e | e | e | e | e | e | e | e | e
 all_goals first | (rw [e] at h ⊢; revert h; decide) | skip
 rw [List.getD_eq_getElem?_getD, List.getElem?_eq_none (by simpa [RowTab] using e)] at h
 exact absurd h (by decide)
theorem wl1 (s t : ByteArray) (hs : s.size ≤ 1099511627776) (ht : t.size ≤ 1099511627776) (a b : Nat) (ha : a ≤ s.size) (i : Int) : ∀ (k : Nat) (j n : Int), 1 ≤ j → wire_character.l1 k s (a : Int) i j = some n → n ≠ 0 →
  n = 1 + wmore i ∧ (∀ q : Int, j ≤ q → q < n → 128 ≤ bt s ((a : Int) + q)) ∧ ((∀ q : Int, 0 ≤ q → q < n → bt s ((a : Int) + q) = bt t ((b : Int) + q)) → (b : Int) + n ≤ (t.size : Int) → wire_character.l1 k t (b : Int) i j = some n) := by
 have hm := wmore_range i
 intro k
 induction k with
 | zero => intro j n _ h; simp [wire_character.l1] at h
 | succ k ih =>
  intro j n hj h hn
  simp only [wire_character.l1] at h ⊢
  by_cases c1 : j ≤ wmore i
  ·rw [if_pos c1, w64 (n := (a : Int) + j) (by omega) (by omega), w64 (n := j + 1) (by omega) (by omega), if_pos (show (0 : Int) ≤ (a : Int) + j by omega)] at h
   by_cases c2 : (a : Int) + j < (s.size : Int)
   ·rw [if_pos c2] at h
    by_cases c3 : bt s ((a : Int) + j) < (if j = 1 then wlo2 i else 128)
    ·rw [if_pos c3] at h
     exact absurd (Option.some.inj h).symm hn
    ·rw [if_neg c3] at h
     by_cases c4 : bt s ((a : Int) + j) > (if j = 1 then whi2 i else 191)
     ·rw [if_pos c4] at h
      exact absurd (Option.some.inj h).symm hn
     ·rw [if_neg c4] at h
      obtain ⟨g1, g2, g3⟩ := ih _ _ (by omega) h hn
      refine ⟨g1, fun q h1 h2 => ?_, fun hag hb => ?_⟩
      ·by_cases e : q = j
       ·subst e
        have := wlo2_cont i (by omega)
        split at c3 <;> omega
       ·exact g2 q (by omega) h2
      ·rw [if_pos c1, w64 (n := (b : Int) + j) (by omega) (by omega), w64 (n := j + 1) (by omega) (by omega), if_pos (show (0 : Int) ≤ (b : Int) + j by omega), if_pos (show (b : Int) + j < (t.size : Int) by omega), ← hag j (by omega) (by omega), if_neg c3, if_neg c4]
       exact g3 hag hb
   ·rw [if_neg c2] at h
    cases h
  ·rw [if_neg c1] at h
   have e := Option.some.inj h
   refine ⟨e.symm, fun q h1 h2 => by exfalso; omega, fun _ _ => ?_⟩
   rw [if_neg c1]
   exact h
theorem wl0 (s t : ByteArray) (hs : s.size ≤ 1099511627776) (ht : t.size ≤ 1099511627776) (a b : Nat) (ha : a ≤ s.size) : ∀ (k : Nat) (i n : Int), 0 ≤ i → wire_character.l0 k s (a : Int) i = some n → n ≠ 0 →
  (1 ≤ n ∧ n ≤ 4) ∧ (∀ q : Int, 1 ≤ q → q < n → 128 ≤ bt s ((a : Int) + q)) ∧ ((∀ q : Int, 0 ≤ q → q < n → bt s ((a : Int) + q) = bt t ((b : Int) + q)) → (b : Int) + n ≤ (t.size : Int) → wire_character.l0 k t (b : Int) i = some n) := by
 intro k
 induction k with
 | zero => intro i n _ h; simp [wire_character.l0] at h
 | succ k ih =>
  intro i n hi h hn
  simp only [wire_character.l0] at h ⊢
  by_cases c1 : i < 9
  ·rw [if_pos c1, if_pos (show (0 : Int) ≤ (a : Int) by omega), w64 (n := i + 1) (by omega) (by omega)] at h
   by_cases c2 : (a : Int) < (s.size : Int)
   ·rw [if_pos c2] at h
    have same : 1 ≤ n → (∀ q : Int, 0 ≤ q → q < n → bt s ((a : Int) + q) = bt t ((b : Int) + q)) → bt s (a : Int) = bt t (b : Int) := by
     intro h1 hag
     have := hag 0 (by omega) (by omega)
     simpa using this
    by_cases c3 : bt s (a : Int) < wlo i
    ·rw [if_pos c3] at h
     obtain ⟨g1, g2, g3⟩ := ih _ _ (by omega) h hn
     refine ⟨g1, g2, fun hag hb => ?_⟩
     rw [if_pos c1, if_pos (show (0 : Int) ≤ (b : Int) by omega), if_pos (show (b : Int) < (t.size : Int) by omega), ← same g1.1 hag, if_pos c3, w64 (n := i + 1) (by omega) (by omega)]
     exact g3 hag hb
    ·rw [if_neg c3] at h
     by_cases c4 : bt s (a : Int) > whi i
     ·rw [if_pos c4] at h
      obtain ⟨g1, g2, g3⟩ := ih _ _ (by omega) h hn
      refine ⟨g1, g2, fun hag hb => ?_⟩
      rw [if_pos c1, if_pos (show (0 : Int) ≤ (b : Int) by omega), if_pos (show (b : Int) < (t.size : Int) by omega), ← same g1.1 hag, if_neg c3, if_pos c4, w64 (n := i + 1) (by omega) (by omega)]
      exact g3 hag hb
     ·rw [if_neg c4] at h
      have hm := wmore_range i
      rw [w64 (n := (a : Int) + wmore i) (by omega) (by omega)] at h
      by_cases c5 : (a : Int) + wmore i ≥ (s.size : Int)
      ·rw [if_pos c5] at h
       exact absurd (Option.some.inj h).symm hn
      ·rw [if_neg c5] at h
       obtain ⟨g1, g2, g3⟩ := wl1 s t hs ht a b ha i k 1 n (by omega) h hn
       refine ⟨by omega, g2, fun hag hb => ?_⟩
       rw [if_pos c1, if_pos (show (0 : Int) ≤ (b : Int) by omega), if_pos (show (b : Int) < (t.size : Int) by omega), ← same (by omega) hag, if_neg c3, if_neg c4, w64 (n := (b : Int) + wmore i) (by omega) (by omega), if_neg (by omega)]
       exact g3 hag hb
   ·rw [if_neg c2] at h
    cases h
  ·rw [if_neg c1] at h
   exact absurd (Option.some.inj h).symm hn
theorem chr_same {s t : ByteArray} (hs : s.size ≤ 1099511627776) (ht : t.size ≤ 1099511627776) {a b : Nat} (ha : a ≤ s.size) {n : Int} (h : Ev (fun k => wire_character.f k s (a : Int)) n) (hn : n ≠ 0) :
  (∀ q : Int, 1 ≤ q → q < n → 128 ≤ bt s ((a : Int) + q)) ∧ ((∀ q : Int, 0 ≤ q → q < n → bt s ((a : Int) + q) = bt t ((b : Int) + q)) → (b : Int) + n ≤ (t.size : Int) → Ev (fun k => wire_character.f k t (b : Int)) n) := by
 obtain ⟨K, hK⟩ := h
 have h := fun k hk => wl0 s t hs ht a b ha k 0 n (by omega) (hK k hk) hn
 exact ⟨(h K (Nat.le_refl _)).2.1, fun hag hb => ⟨K, fun k hk => (h k hk).2.2 hag hb⟩⟩
def U8 (s : ByteArray) (a : Nat) : Prop := Ev (fun k => wire_Utf8.l0 k s (a : Int)) (-1)
theorem U8.done (s : ByteArray) : U8 s s.size := Ev.step (f := fun _ => some (-1)) (fun k => by simp only [wire_Utf8.l0]; rw [if_neg (by omega)]) (Ev.now _)
theorem U8.prev {s : ByteArray} (hs : s.size ≤ 1099511627776) {a n : Nat} (ha : a < s.size) (hn : 1 ≤ n) (hn2 : a + n ≤ s.size) (h : Ev (fun k => wire_character.f k s (a : Int)) (n : Int)) (hU : U8 s (a + n)) : U8 s a := by
 refine Ev.step (f := fun k => (wire_character.f k s (a : Int)).bind fun t => if t = 0 then some (a : Int) else wire_Utf8.l0 k s (wrap64 ((a : Int) + t))) (fun k => ?_) (Ev.bind h ?_)
 ·simp only [wire_Utf8.l0]; rw [if_pos (by omega)]
 ·simp only [if_neg (show ¬ (n : Int) = 0 by omega)]
  rw [w64 (n := (a : Int) + n) (by omega) (by omega), show (a : Int) + n = ((a + n : Nat) : Int) by omega]
  exact hU
theorem U8.next {s : ByteArray} (hs : s.size ≤ 1099511627776) {a : Nat} (ha : a < s.size) (hU : U8 s a) : ∃ n : Nat, 1 ≤ n ∧ n ≤ 4 ∧ a + n ≤ s.size ∧ Ev (fun k => wire_character.f k s (a : Int)) (n : Int) ∧ U8 s (a + n) ∧ (bt s (a : Int) < 128 → n = 1) := by
 obtain ⟨r, hr, h3⟩ := chr_one s hs a ha
 have e1 : ∀ k, wire_Utf8.l0 (k + 1) s (a : Int) = (wire_character.f k s (a : Int)).bind fun t => if t = 0 then some (a : Int) else wire_Utf8.l0 k s (wrap64 ((a : Int) + t)) := by
  intro k; simp only [wire_Utf8.l0]; rw [if_pos (by omega)]
 by_cases z : r = 0
 ·exfalso
  have : Ev (fun k => wire_Utf8.l0 k s (a : Int)) (a : Int) := by
   refine Ev.step e1 (Ev.bind hr ?_)
   simp only [if_pos z]; exact Ev.now _
  have := Ev.unique hU this
  omega
 ·obtain ⟨n, rfl⟩ : ∃ n : Nat, r = (n : Int) := ⟨r.toNat, by omega⟩
  refine ⟨n, by omega, by omega, by omega, hr, ?_, by omega⟩
  obtain ⟨q, hq, _⟩ := Tt_utf8 s hs s.size ((a + n : Nat) : Int) (by omega) (by omega) (by omega)
  have : Ev (fun k => wire_Utf8.l0 k s (a : Int)) q := by
   refine Ev.step e1 (Ev.bind hr ?_)
   simp only [if_neg z]
   rw [w64 (n := (a : Int) + n) (by omega) (by omega), show (a : Int) + n = ((a + n : Nat) : Int) by omega]
   exact hq
  obtain rfl := Ev.unique hU this
  exact hq
theorem U8.ascii {s : ByteArray} (hs : s.size ≤ 1099511627776) {a : Nat} (ha : a < s.size) (hb : bt s (a : Int) < 128) (hU : U8 s (a + 1)) : U8 s a := by
 have hr := chr_ascii s a ha hb hs
 exact U8.prev hs ha (Nat.le_refl 1) (by omega) hr hU
theorem U8.bound {s : ByteArray} (hs : s.size ≤ 1099511627776) {p : Nat} (hp : p < s.size) (hb : bt s (p : Int) < 128) (d : Nat) : ∀ a : Nat, a ≤ p → p - a ≤ d → U8 s a → U8 s p := by
 induction d with
 | zero =>
  intro a ha hd h
  obtain rfl : a = p := by omega
  exact h
 | succ d ih =>
  intro a ha hd h
  by_cases e : a = p
  ·exact e ▸ h
  obtain ⟨n, n1, _, n3, n4, n5, _⟩ := U8.next hs (by omega) h
  by_cases c : a + n ≤ p
  ·exact ih (a + n) c (by omega) n5
  ·exfalso
   have := (chr_same (b := 0) hs hs (by omega) n4 (by omega)).1 ((p : Int) - a) (by omega) (by omega)
   rw [show (a : Int) + ((p : Int) - a) = p by omega] at this
   omega
theorem U8.carry {s t : ByteArray} (hs : s.size ≤ 1099511627776) (ht : t.size ≤ 1099511627776) (d : Nat) : ∀ n a b : Nat, n ≤ d → U8 s a → a + n ≤ s.size → (1 ≤ n → bt s ((a : Int) + n - 1) < 128) → (∀ q : Int, 0 ≤ q → q < n → bt s ((a : Int) + q) = bt t ((b : Int) + q)) → b + n ≤ t.size → U8 t (b + n) → U8 t b := by
 induction d with
 | zero =>
  intro n a b hd _ _ _ _ _ hU
  obtain rfl : n = 0 := by omega
  exact hU
 | succ d ih =>
  intro n a b hd hU ha hlast hag hb hT
  by_cases z : n = 0
  ·subst z; exact hT
  obtain ⟨m, m1, m2, m3, m4, m5, m6⟩ := U8.next hs (by omega) hU
  have hl := hlast (by omega)
  obtain ⟨g1, g2⟩ := chr_same (t := t) (b := b) hs ht (by omega) m4 (by omega)
  by_cases c : m ≤ n
  ·have g3 := g2 (fun q h0 h1 => hag q h0 (by omega)) (by omega)
   refine U8.prev ht (by omega) m1 (by omega) g3 (ih (n - m) (a + m) (b + m) (by omega) m5 (by omega) (fun _ => ?_) (fun q h0 h1 => ?_) (by omega) ?_)
   ·rw [show ((a + m : Nat) : Int) + ((n - m : Nat) : Int) - 1 = (a : Int) + n - 1 by omega]
    exact hl
   ·have := hag ((m : Int) + q) (by omega) (by omega)
    rw [show ((a + m : Nat) : Int) + q = (a : Int) + ((m : Int) + q) by omega, show ((b + m : Nat) : Int) + q = (b : Int) + ((m : Int) + q) by omega]
    exact this
   ·rw [show b + m + (n - m) = b + n by omega]
    exact hT
  ·exfalso
   by_cases c1 : n = 1
   ·subst c1
    have := m6 (by rw [show (a : Int) = (a : Int) + ((1 : Nat) : Int) - 1 by omega]; exact hl)
    omega
   ·have := g1 ((n : Int) - 1) (by omega) (by omega)
    rw [show (a : Int) + ((n : Int) - 1) = (a : Int) + n - 1 by omega] at this
    omega
section
variable (t : ByteArray) (ht : t.size ≤ 65536)
include ht
theorem sub_facts (p : Nat) (_hp : p ≤ t.size) : (t.extract p t.size).size = t.size - p ∧ (∀ j : Int, 0 ≤ j → j < (t.size : Int) - p → bt (t.extract p t.size) j = bt t ((p : Int) + j)) ∧ (t.extract p t.size).data.toList = t.data.toList.drop p := by
 refine ⟨size_extract t p t.size (Nat.le_refl _), fun j h0 h1 => bt_extract t p t.size (Nat.le_refl _) j h0 h1, ?_⟩
 rw [Lib.extract_data, List.take_of_length_le]
 rw [List.length_drop, Array.length_toList]
 exact Nat.le_refl _
theorem blank_pass (p : Nat) (hp : p < t.size) (h : cls (bt t (p : Int)) = 1) (l : List PTok) {r : List PTok × Int × Int} (hr : Ev (fun k => scan_Tokens.l0 k t l ((p + 1 : Nat) : Int)) r) : Ev (fun k => scan_Tokens.l0 k t l (p : Int)) r :=
 step_skip t ht p 1 (by omega) hp l (by rw [h]; exact Ev.congr (f := fun _ => some (0, 1, 0)) (fun k => rfl) (Ev.now _)) hr
end
def Fills : List ByteArray := [(⟨#[32, 10]⟩ : ByteArray)]
def At (t : ByteArray) (p : Nat) (x : ByteArray) : Prop := p + x.size ≤ t.size ∧ ∀ j : Nat, j < x.size → bt t ((p : Int) + j) = bt x (j : Int)
def Passed (x : ByteArray) : Prop := ∀ (t : ByteArray) (_ : t.size ≤ 65536) (p : Nat) (_ : At t p x) (l : List PTok) (r : List PTok × Int × Int), Ev (fun k => scan_Tokens.l0 k t l ((p + x.size : Nat) : Int)) r → Ev (fun k => scan_Tokens.l0 k t l (p : Int)) r
set_option maxRecDepth 100000 in
theorem blank_cls : cls 32 = 1 ∧ cls 10 = 1 := by decide +kernel
theorem At.blank {t x : ByteArray} {p : Nat} (h : At t p x) (ht : t.size ≤ 65536) (j : Nat) (hj : j < x.size) (hx : cls (bt x (j : Int)) = 1) (l : List PTok) {r : List PTok × Int × Int} (hr : Ev (fun k => scan_Tokens.l0 k t l ((p + (j + 1) : Nat) : Int)) r) : Ev (fun k => scan_Tokens.l0 k t l ((p + j : Nat) : Int)) r :=
 blank_pass t ht (p + j) (by have := h.1; omega) (by rw [show ((p + j : Nat) : Int) = (p : Int) + j by omega, h.2 j hj]; exact hx) l hr
set_option maxRecDepth 100000 in
theorem fills_passed : ∀ f ∈ Fills, Passed f := by
 intro f hf t ht p h l r hr
 simp only [Fills, List.mem_cons, List.not_mem_nil, or_false] at hf
 obtain ⟨c32, c10⟩ := blank_cls
 rw [show (p : Int) = ((p + 0 : Nat) : Int) by omega]
 subst hf
 exact h.blank ht 0 (by decide) c32 l (h.blank ht 1 (by decide) c10 l hr)
set_option maxRecDepth 100000 in
theorem fills_ascii : ∀ f ∈ Fills, (1 ≤ f.size ∧ f.size ≤ 13) ∧ word (bt f 0) = false ∧ ∀ j : Nat, j < f.size → bt f (j : Int) < 128 := by decide +kernel
def Glued (t : ByteArray) : Nat → List PTok → Prop
 | p, [] => p = t.size
 | p, x :: r => At t p x.f2 ∧ At t (p + x.f2.size) ⟨#[32, 10]⟩ ∧ Glued t (p + x.f2.size + 2) r
theorem Glued.le {t : ByteArray} : ∀ {g : List PTok} {p : Nat}, Glued t p g → p ≤ t.size
 | [], _, h => by show _; have : _ = t.size := h; omega
 | x :: r, p, ⟨_, _, h⟩ => by have := Glued.le h; omega
def moved : Nat → List PTok → List PTok
 | _, [] => []
 | p, x :: r => (⟨x.f0, (p : Int), x.f2⟩ : PTok) :: moved (p + x.f2.size + 2) r
theorem fill_mem : (⟨#[32, 10]⟩ : ByteArray) ∈ Fills := List.mem_cons_self
theorem tk_again {s t : ByteArray} (hs : s.size ≤ 65536) (ht : t.size ≤ 65536) {x : PTok} {a n p : Nat} (hT : Tk s x a n) (hA : At t p x.f2) (hw : p + n < t.size → word (bt t ((p + n : Nat) : Int)) = false) :
  x.f2.size = n ∧ p + n ≤ t.size ∧ (∀ q : Int, 0 ≤ q → q < n → bt s ((a : Int) + q) = bt t ((p : Int) + q)) ∧ bt s ((a : Int) + n - 1) < 128 ∧ bt s (a : Int) < 128 ∧ Ev (fun k => scan_disp k (cls (bt t (p : Int))) (t.extract p t.size)) (x.f0, (n : Int), 0) ∧ t.extract p (p + n) = x.f2 := by
 obtain ⟨_, n1, n2, h2, k1, k2, hd⟩ := hT
 obtain ⟨A1, A2⟩ := hA
 have hz : x.f2.size = n := by rw [h2, size_extract s a (a + n) n2]; omega
 have hag : ∀ q : Int, 0 ≤ q → q < n → bt s ((a : Int) + q) = bt t ((p : Int) + q) := by
  intro q h0 h1
  have := A2 q.toNat (by omega)
  rw [show ((q.toNat : Nat) : Int) = q by omega] at this
  rw [this, h2, bt_extract s a (a + n) n2 q h0 (by omega)]
 have hh := hag 0 (by omega) (by omega)
 rw [Int.add_zero, Int.add_zero] at hh
 obtain ⟨ss, sb, _⟩ := sub_facts s hs a (by omega)
 obtain ⟨ts, tb, _⟩ := sub_facts t ht p (by omega)
 have hp : Pre (s.extract a s.size) (t.extract p t.size) (n : Int) := by
  refine ⟨by omega, by omega, fun j j0 j1 => ?_⟩
  rw [sb j j0 (by omega), tb j j0 (by omega)]
  exact hag j j0 j1
 have hc : cls (bt (s.extract a s.size) 0) = cls (bt s (a : Int)) := by rw [sb 0 (by omega) (by omega), Int.add_zero]
 obtain ⟨g1, g2⟩ := disp_same (by omega) (by omega) hc (by omega) (by omega) hp hd (fun h => by
  rw [tb n (by omega) (by omega), show (p : Int) + n = ((p + n : Nat) : Int) by omega]
  exact hw (by omega))
 have hne : cls (bt s (a : Int)) ≠ 0 := by
  intro e
  obtain ⟨K, hK⟩ := hd
  have := hK K (Nat.le_refl _)
  rw [e] at this
  simp only [scan_disp, if_true, Option.some.injEq, Prod.mk.injEq] at this
  omega
 refine ⟨hz, by omega, hag, ?_, ascii s _ hne, by rw [← hh]; exact g1, ?_⟩
 ·rw [sb _ (by omega) (by omega)] at g2
  rw [show (a : Int) + n - 1 = (a : Int) + ((n : Int) - 1) by omega]
  exact g2
 ·have e1 := size_extract t p (p + n) (by omega)
  refine ext_bt (by omega) (fun i i0 i1 => ?_)
  rw [bt_extract t p (p + n) (by omega) i i0 (by omega)]
  have := A2 i.toNat (by omega)
  rw [show ((i.toNat : Nat) : Int) = i by omega] at this
  exact this
theorem at_word {t f : ByteArray} {p : Nat} (h : At t p f) (hf : f ∈ Fills) : p < t.size ∧ word (bt t (p : Int)) = false := by
 obtain ⟨⟨f1, _⟩, f2, _⟩ := fills_ascii f hf
 have h1 := h.1
 have h2 := h.2 0 (by omega)
 refine ⟨by omega, ?_⟩
 rw [show (p : Int) = (p : Int) + ((0 : Nat) : Int) by omega, h2]
 exact f2
theorem U8.ascii_run {t : ByteArray} (ht : t.size ≤ 65536) {p : Nat} {f : ByteArray} (h : At t p f) (hf : ∀ j : Nat, j < f.size → bt f (j : Int) < 128) (hU : U8 t (p + f.size)) (d : Nat) : ∀ j : Nat, j ≤ f.size → f.size - j = d → U8 t (p + j) := by
 induction d with
 | zero =>
  intro j hj hd
  obtain rfl : j = f.size := by omega
  exact hU
 | succ d ih =>
  intro j hj hd
  have h1 := h.1
  refine U8.ascii (by omega) (a := p + j) (by omega) ?_ (ih (j + 1) (by omega) (by omega))
  rw [show ((p + j : Nat) : Int) = (p : Int) + j by omega, h.2 j (by omega)]
  exact hf j (by omega)
theorem glued_utf8 {s t : ByteArray} (hs : s.size ≤ 65536) (ht : t.size ≤ 65536) (hU : U8 s 0) : ∀ (xs : List PTok) (q p : Nat) (e : PTok), Row s q xs → e.f2.size = 0 → Glued t p (xs ++ [e]) → U8 t p
 | [], q, p, e, _, he, h => by
  obtain ⟨h1, h2, h4⟩ := h
  have h4 : p + e.f2.size + 2 = t.size := h4
  rw [he, Nat.add_zero] at h2 h4
  have := U8.ascii_run ht h2 (fills_ascii _ fill_mem).2.2 (by show U8 t (p + 2); rw [h4]; exact U8.done t) 2 0 (by decide) (by decide)
  exact this
 | x :: xs, q, p, e, ⟨a, n, _, hT, hR⟩, he, h => by
  obtain ⟨h1, h2, h4⟩ := h
  have hle := Glued.le h4
  have hrest := glued_utf8 hs ht hU xs (a + n) _ e hR he h4
  have hmid := U8.ascii_run ht h2 (fills_ascii _ fill_mem).2.2 hrest 2 0 (by decide) (by decide)
  have hz : x.f2.size = n := by rw [hT.2.2.2.1, size_extract s a (a + n) hT.2.2.1]; omega
  have hwd := at_word h2 fill_mem
  obtain ⟨_, g2, g3, g4, g5, _, _⟩ := tk_again hs ht hT h1 (fun _ => by rw [← hz]; exact hwd.2)
  have n1 := hT.2.1
  have n2 := hT.2.2.1
  exact U8.carry (by omega) (by omega) n n a p (Nat.le_refl _) (U8.bound (by omega) (by omega) g5 a 0 (by omega) (by omega) hU) n2 (fun _ => g4) g3 g2 (by rw [← hz]; exact hmid)
theorem glued_tokens {s t : ByteArray} (hs : s.size ≤ 65536) (ht : t.size ≤ 65536) : ∀ (xs : List PTok) (q p : Nat) (e : PTok) (l : List PTok), Row s q xs → e.f2.size = 0 → Glued t p (xs ++ [e]) → l.length + xs.length ≤ 16383 →
  Ev (fun k => scan_Tokens.l0 k t l (p : Int)) (l ++ (moved p xs ++ [(⟨5, (t.size : Int), (⟨#[]⟩ : ByteArray)⟩ : PTok)]), 0, 0)
 | [], q, p, e, l, _, he, h, hl => by
  obtain ⟨h1, h2, h4⟩ := h
  have h4 : p + e.f2.size + 2 = t.size := h4
  rw [he, Nat.add_zero] at h2 h4
  refine fills_passed _ fill_mem t ht p h2 l _ ?_
  show Ev (fun k => scan_Tokens.l0 k t l ((p + 2 : Nat) : Int)) _
  rw [h4]
  exact step_end t l (by simpa using hl)
 | x :: xs, q, p, e, l, ⟨a, n, _, hT, hR⟩, he, h, hl => by
  obtain ⟨h1, h2, h4⟩ := h
  have hz : x.f2.size = n := by rw [hT.2.2.2.1, size_extract s a (a + n) hT.2.2.1]; omega
  have hwd := at_word h2 fill_mem
  obtain ⟨_, g2, _, _, _, g6, g7⟩ := tk_again hs ht hT h1 (fun _ => by rw [← hz]; exact hwd.2)
  have n1 := hT.2.1
  have hk := hT.2.2.2.2.1
  simp only [List.length_cons] at hl
  have m1 := glued_tokens hs ht xs (a + n) _ e (l ++ [(⟨x.f0, (p : Int), t.extract p (p + n)⟩ : PTok)]) hR he h4 (by rw [List.length_append]; simp; omega)
  refine step_piece t ht p n n1 g2 l (by omega) x.f0 (by omega) g6 ?_
  have e1 : l ++ (moved p (x :: xs) ++ [(⟨5, (t.size : Int), (⟨#[]⟩ : ByteArray)⟩ : PTok)]) = (l ++ [(⟨x.f0, (p : Int), t.extract p (p + n)⟩ : PTok)]) ++ (moved (p + x.f2.size + 2) xs ++ [(⟨5, (t.size : Int), (⟨#[]⟩ : ByteArray)⟩ : PTok)]) := by
   rw [g7]
   simp [moved]
  rw [e1]
  rw [hz] at h2 m1 ⊢
  exact fills_passed _ fill_mem t ht (p + n) h2 (l ++ [(⟨x.f0, (p : Int), t.extract p (p + n)⟩ : PTok)]) _ m1
end Rex
end Go.Proofs.YtgkodenllfpajaaDoor.A
end
section
namespace Go.Proofs.YtgkodenllfpajaaDoor.A
open Go.RowKit Go.Proofs.YtgkodenllfpajaaDoorW.PrintWords Go.Proofs.YtgkodenllfpajaaDoorW.PrintLast Go.Proofs.YtgkodenllfpajaaDoorW.PrintMore
set_option linter.unusedVariables false
set_option linter.unusedSimpArgs false
theorem parse2_all (t : ByteArray) : ∃ r, Ev (fun k => Pm.parse2 k t) r ∧ smallF 33 r.1 := by
 obtain ⟨⟨l, at_, er⟩, h1, _⟩ := Tt_Tokens t
 obtain ⟨r, h2, h3⟩ := tokens_all l
 by_cases c : er = 0
 ·refine ⟨r, Ev.congr (fun k => rfl) (Ev.bind h1 ?_), h3⟩
  simp only [if_pos c]
  exact h2
 ·refine ⟨(Pm.zfile, er, at_), Ev.congr (fun k => rfl) (Ev.bind h1 ?_), small_zfile⟩
  simp only [if_neg c]
  exact Ev.now _
noncomputable def parseR (t : ByteArray) : PFile × Int × Int := Classical.choose (parse2_all t)
theorem parseR_ok (t : ByteArray) : Ev (fun k => Pm.parse2 k t) (parseR t) ∧ smallF 33 (parseR t).1 := Classical.choose_spec (parse2_all t)
noncomputable def parse_Parse.f (_ : Nat) (t : ByteArray) : Option (ByteArray × List ByteArray × List PMsg × List PEnum × Int × Int × Int × ByteArray) := some ((parseR t).1.f0, (parseR t).1.f1, (parseR t).1.f2, (parseR t).1.f3, (parseR t).2.1, 0, (parseR t).2.2, ⟨#[]⟩)
theorem parse_Parse.calls (k : Nat) (a0 : ByteArray) (t1 : ByteArray) (t2 : List ByteArray) (t3 : List PMsg) (t4 : List PEnum) (t5 t6 t7 : Int) (t8 : ByteArray) (w : World) (h : parse_Parse.f k a0 = some (t1, t2, t3, t4, t5, t6, t7, t8)) (hL : LaidW w) :
  Calls Tryd.prog 9 #[.string a0] w fun e w' => ∃ v1 v2 v3, e = .returned (.tuple #[.agg #[.string t1, v1, v2, v3], .agg #[.int .i64 t5, .int .i64 t6, .int .i64 t7, .string t8]]) ∧ Kd.R Kd.string 9 w' w.heap.size (fun _ => True) v1 t2 ∧ Kd.R k48 48 w' w.heap.size (fun _ => True) v2 t3 ∧ Kd.R k77 77 w' w.heap.size (fun _ => True) v3 t4 ∧ Below w.heap.size w w' := by
 have h := Option.some.inj h
 simp only [Prod.mk.injEq] at h
 obtain ⟨rfl, rfl, rfl, rfl, rfl, rfl, rfl, rfl⟩ := h
 obtain ⟨⟨K, hK⟩, _⟩ := parseR_ok a0
 refine (parse_calls K a0 _ (hK K (Nat.le_refl _)) w hL).mono ?_
 rintro e w' ⟨v1, v2, v3, rfl, r1, r2, r3, hC⟩
 exact ⟨v1, v2, v3, rfl, r1, r2, r3, hC.below (fun _ _ h => h) (Nat.le_refl _)⟩
def sigillaw5_known.f (_ : Nat) : Option Bool := some true
theorem sigillaw5_known.calls (k : Nat) (r : Bool) (w : World) (h : sigillaw5_known.f k = some r) (hL : LaidW w) : Calls Tryd.prog 6 #[] w fun e w' => e = .returned (.bool r) ∧ Below w.heap.size w w' := by
 obtain rfl := Option.some.inj h
 exact known_calls w hL
open Classical in
noncomputable def sigillaw5_SameFile.f (_ : Nat) (a0 : ByteArray) (a1 : List ByteArray) (a2 : List PMsg) (a3 : List PEnum) (b0 : ByteArray) (b1 : List ByteArray) (b2 : List PMsg) (b3 : List PEnum) : Option Bool :=
 if (PFile.mk a0 a1 a2 a3 = PFile.mk b0 b1 b2 b3) ∧ smallF 33 (PFile.mk a0 a1 a2 a3) then some true else none
theorem sigillaw5_SameFile.calls (k : Nat) (a0 : ByteArray) (A1 : Option Addr) (c1 : Nat) (l1 : List ByteArray) (A2 : Option Addr) (c2 : Nat) (l2 : List PMsg) (A3 : Option Addr) (c3 : Nat) (l3 : List PEnum) (b0 : ByteArray) (B1 : Option Addr) (d1 : Nat) (m1 : List ByteArray) (B2 : Option Addr) (d2 : Nat) (m2 : List PMsg) (B3 : Option Addr) (d3 : Nat) (m3 : List PEnum) (r : Bool) (w : World)
  (p1 : Kd.C Kd.string w A1 l1.length l1) (q1 : l1.length ≤ c1) (p2 : Kd.C k48 w A2 l2.length l2) (q2 : l2.length ≤ c2) (p3 : Kd.C k77 w A3 l3.length l3) (q3 : l3.length ≤ c3) (p4 : Kd.C Kd.string w B1 m1.length m1) (q4 : m1.length ≤ d1) (p5 : Kd.C k48 w B2 m2.length m2) (q5 : m2.length ≤ d2) (p6 : Kd.C k77 w B3 m3.length m3) (q6 : m3.length ≤ d3)
  (h : sigillaw5_SameFile.f k a0 l1 l2 l3 b0 m1 m2 m3 = some r) :
  Calls Tryd.prog 11 #[.agg #[.string a0, .slice A1 l1.length c1, .slice A2 l2.length c2, .slice A3 l3.length c3], .agg #[.string b0, .slice B1 m1.length d1, .slice B2 m2.length d2, .slice B3 m3.length d3]] w fun e w' => e = .returned (.bool r) ∧ Below w.heap.size w w' := by
 unfold sigillaw5_SameFile.f at h
 by_cases c : (PFile.mk a0 l1 l2 l3 = PFile.mk b0 m1 m2 m3) ∧ smallF 33 (PFile.mk a0 l1 l2 l3)
 ·rw [if_pos c] at h
  obtain rfl := Option.some.inj h
  obtain ⟨e, hs⟩ := c
  injection e with e0 e1 e2 e3
  subst e0; subst e1; subst e2; subst e3
  exact sameFile_eq 33 (PFile.mk a0 l1 l2 l3) hs A1 A2 A3 B1 B2 B3 c1 c2 c3 d1 d2 d3 w p1 p2 p3 p4 p5 p6 q1 q2 q3 q4 q5 q6
 ·rw [if_neg c] at h
  cases h
section
variable {w : World} {g1 g2 k t t2 : Nat} {a0 a1 a2 a3 b0 b1 b2 b3 c0 c1 c2 c3 : Value}
abbrev twoW (w : World) (g1 g2 : Nat) (a0 a1 a2 a3 b0 b1 b2 b3 : Value) : World := (((((((w.setCell ⟨g1, 0, none⟩ a0).setCell ⟨g1, 1, none⟩ a1).setCell ⟨g1, 2, none⟩ a2).setCell ⟨g1, 3, none⟩ a3).setCell ⟨g2, 0, none⟩ b0).setCell ⟨g2, 1, none⟩ b1).setCell ⟨g2, 2, none⟩ b2).setCell ⟨g2, 3, none⟩ b3
theorem two_far (h1 : k ≠ g1) (h2 : k ≠ g2) : (twoW w g1 g2 a0 a1 a2 a3 b0 b1 b2 b3).heap[k]? = w.heap[k]? :=
 (Below.heap_setCell _ ⟨g2, 3, none⟩ b3 k h2).trans ((Below.heap_setCell _ ⟨g2, 2, none⟩ b2 k h2).trans ((Below.heap_setCell _ ⟨g2, 1, none⟩ b1 k h2).trans ((Below.heap_setCell _ ⟨g2, 0, none⟩ b0 k h2).trans
  ((Below.heap_setCell _ ⟨g1, 3, none⟩ a3 k h1).trans ((Below.heap_setCell _ ⟨g1, 2, none⟩ a2 k h1).trans ((Below.heap_setCell _ ⟨g1, 1, none⟩ a1 k h1).trans (Below.heap_setCell _ ⟨g1, 0, none⟩ a0 k h1)))))))
theorem blk_two1 (h : w.heap[g1]? = some (.cells #[c0, c1, c2, c3] t (0, 0))) (n : g1 ≠ g2) : (twoW w g1 g2 a0 a1 a2 a3 b0 b1 b2 b3).heap[g1]? = some (.cells #[a0, a1, a2, a3] t (0, 0)) := by
 refine blk_far ?_ n _
 refine blk_far ?_ n _
 refine blk_far ?_ n _
 refine blk_far ?_ n _
 refine blk_put (cs := #[a0, a1, a2, c3]) ?_ 3 _ rfl
 refine blk_put (cs := #[a0, a1, c2, c3]) ?_ 2 _ rfl
 refine blk_put (cs := #[a0, c1, c2, c3]) ?_ 1 _ rfl
 exact blk_put (cs := #[c0, c1, c2, c3]) h 0 _ rfl
theorem blk_two2 (h : w.heap[g2]? = some (.cells #[c0, c1, c2, c3] t (0, 0))) (n : g2 ≠ g1) : (twoW w g1 g2 a0 a1 a2 a3 b0 b1 b2 b3).heap[g2]? = some (.cells #[b0, b1, b2, b3] t (0, 0)) := by
 refine blk_put (cs := #[b0, b1, b2, c3]) ?_ 3 _ rfl
 refine blk_put (cs := #[b0, b1, c2, c3]) ?_ 2 _ rfl
 refine blk_put (cs := #[b0, c1, c2, c3]) ?_ 1 _ rfl
 refine blk_put (cs := #[c0, c1, c2, c3]) ?_ 0 _ rfl
 refine blk_far ?_ n _
 refine blk_far ?_ n _
 refine blk_far ?_ n _
 exact blk_far h n _
theorem R_two {α : Type} {d : Kd α} {e base : Nat} {ok : Nat → Prop} {v : Value} {xs : List α} {cs ds : Array Value} (h : d.R e w base ok v xs) (h1 : w.heap[g1]? = some (.cells cs t (0, 0))) (h2 : w.heap[g2]? = some (.cells ds t2 (0, 0))) (n1 : ∀ q, q ∈ e :: d.E → q ≠ t) (n2 : ∀ q, q ∈ e :: d.E → q ≠ t2) : d.R e (twoW w g1 g2 a0 a1 a2 a3 b0 b1 b2 b3) base ok v xs :=
 Kd.R_mono (Kd.R_move (Kd.R_types (Kd.R_types h h1 n1) h2 n2) (fun _ hk => two_far hk.1.2 hk.2)) (fun _ hk => hk.1.1)
end
end Go.Proofs.YtgkodenllfpajaaDoor.A
end
section
namespace Go.Proofs.YtgkodenllfpajaaDoor.A
open Go.RowKit Go.Proofs.YtgkodenllfpajaaDoorW.PrintWords Go.Proofs.YtgkodenllfpajaaDoorW.PrintLast Go.Proofs.YtgkodenllfpajaaDoorW.PrintMore
set_option linter.unusedVariables false
set_option linter.unusedSimpArgs false
mutual
noncomputable def sigillaw5_ParseBlanks.l0 : Nat → ByteArray → List (S42) → List (S42) → List Int → Int → Option (Bool)
 | 0, _, _, _, _, _ => none
 | k + 1, x0, x3, x7, x8, x9 => if x9 < (x3.length : Int) then (if 0 ≤ x9 then (if x7.length < 4398046511104 then (if x8.length + ((rd_T42 x3 x9).f2).size < 140737488355328 then ((some (x8 ++ bytesOf ((rd_T42 x3 x9).f2) : List Int)).bind fun y113 => ((some (([32, 10] : List Int) : List Int)).bind fun y116 => (if y113.length + y116.length < 140737488355328 then (sigillaw5_ParseBlanks.l0 k x0 x3 (x7 ++ [(⟨(rd_T42 x3 x9).f0, (x8.length : Int), (rd_T42 x3 x9).f2⟩ : S42)]) (y113 ++ y116) (wrap64 (x9 + 1))) else (none)))) else (none)) else (none)) else (none)) else (if ((strOfNums x8).size : Int) > 65536 then (sigillaw5_ParseBlanks.j1 k x0 x3 (strOfNums x8) x7 true) else (sigillaw5_ParseBlanks.j1 k x0 x3 (strOfNums x8) x7 ((x7.length : Int) == 0)))
noncomputable def sigillaw5_ParseBlanks.j1 : Nat → ByteArray → List (S42) → ByteArray → List (S42) → Bool → Option (Bool)
 | 0, _, _, _, _, _ => none
 | k + 1, x0, x3, x6, x7, x66 => if x66 = true then (some (decide ((x7.length : Int) > 0))) else (if 0 ≤ (wrap64 ((x7.length : Int) - 1)) then (if (wrap64 ((x7.length : Int) - 1)) < (x7.length : Int) then ((some (x7.set ((wrap64 ((x7.length : Int) - 1)) : Int).toNat (⟨(rd_T42 x7 (wrap64 ((x7.length : Int) - 1))).f0, (x6.size : Int), (rd_T42 x7 (wrap64 ((x7.length : Int) - 1))).f2⟩ : S42) : List (S42))).bind fun y122 => ((parse_Parse.f k x0).bind fun bt123 => ((parse_Parse.f k x6).bind fun bt139 => (if bt123.2.2.2.2.1 = bt139.2.2.2.2.1 then ((sigillaw5_SameFile.f k bt123.1 bt123.2.1 bt123.2.2.1 bt123.2.2.2.1 bt139.1 bt139.2.1 bt139.2.2.1 bt139.2.2.2.1).bind fun t155 => (sigillaw5_ParseBlanks.j2 k x3 y122 (!t155) bt123.2.2.2.2.1 bt123.2.2.2.2.2.1 bt123.2.2.2.2.2.2.1 bt123.2.2.2.2.2.2.2 bt139.2.2.2.2.1 bt139.2.2.2.2.2.1 bt139.2.2.2.2.2.2.1 bt139.2.2.2.2.2.2.2)) else none)))) else (none)) else (none))
noncomputable def sigillaw5_ParseBlanks.j2 : Nat → List (S42) → List (S42) → Bool → Int → Int → Int → ByteArray → Int → Int → Int → ByteArray → Option (Bool)
 | 0, _, _, _, _, _, _, _, _, _, _, _ => none
 | k + 1, x3, x7, x98, x139000, x139001, x139002, x139003, x155000, x155001, x155002, x155003 => if x98 = true then none else (if x139000 = 0 then (if x139001 = 0 ∧ x139002 = 0 ∧ x139003 = ⟨#[]⟩ ∧ x155000 = 0 ∧ x155001 = 0 ∧ x155002 = 0 ∧ x155003 = ⟨#[]⟩ then some true else none) else (sigillaw5_ParseBlanks.l1 k x3 x7 0 x139000 x139001 x139002 x139003 x155000 x155001 x155002 x155003))
noncomputable def sigillaw5_ParseBlanks.l1 : Nat → List (S42) → List (S42) → Int → Int → Int → Int → ByteArray → Int → Int → Int → ByteArray → Option (Bool)
 | 0, _, _, _, _, _, _, _, _, _, _, _ => none
 | k + 1, x3, x7, x14, x139000, x139001, x139002, x139003, x155000, x155001, x155002, x155003 => if x14 < (x3.length : Int) then (if 0 ≤ x14 then (if ((rd_T42 x3 x14).f1) = x139002 then (if x14 < (x7.length : Int) then (some (((rd_T42 x7 x14).f1) == x155002)) else (none)) else (sigillaw5_ParseBlanks.l1 k x3 x7 (wrap64 (x14 + 1)) x139000 x139001 x139002 x139003 x155000 x155001 x155002 x155003)) else (none)) else (some false)
end
noncomputable def sigillaw5_ParseBlanks.f (k : Nat) (a0 : ByteArray) : Option (Bool) := (scan_Tokens.f k a0).bind fun bt101 => ((sigillaw5_known.f k).bind fun t106 => (if t106 = true then (if bt101.2.2 = 0 then (sigillaw5_ParseBlanks.l0 k a0 bt101.1 ([] : List (S42)) ([] : List Int) 0) else (some true)) else (some false)))
def sigillaw5_ParseBlanks.T12 : Bool × List (List Nat × List Nat) := (true, [([], []), ([], []), ([], []), ([1, 2], [1, 2]), ([3], [3]), ([4], [4]), ([], []), ([6], [6]), ([], []), ([], []), ([8, 9], [8, 9]), ([10], [10]), ([11], [11]), ([5, 7, 12], [5, 7, 12]), ([13], [13]), ([0, 14], [0, 14]), ([15, 15, 0, 1, 2, 3, 4, 5, 6, 7, 8, 9, 10, 11, 12, 13, 14, 15], [0, 15])])
def sigillaw5_ParseBlanks.B12 : List Nat := [0, 0, 0, 6, 14, 30, 0, 64, 0, 0, 768, 1792, 3840, 8190, 16382, 32767, 65535]
theorem sigillaw5_ParseBlanks.tab12 : rtab .any (opsOf Tryd.f5 12) = sigillaw5_ParseBlanks.T12 := by kernel_rfl
theorem sigillaw5_ParseBlanks.bits12 : waitsOk sigillaw5_ParseBlanks.T12.2 sigillaw5_ParseBlanks.B12 = true := by kernel_rfl
def sigillaw5_ParseBlanks.T28 : Bool × List (List Nat × List Nat) := (true, [([], []), ([], []), ([0, 1], [0, 1]), ([2], [2]), ([3], [3]), ([], []), ([5], [5]), ([4, 6], [4, 6])])
def sigillaw5_ParseBlanks.B28 : List Nat := [0, 0, 3, 7, 15, 0, 32, 127]
theorem sigillaw5_ParseBlanks.tab28 : rtab .any (opsOf Tryd.f5 28) = sigillaw5_ParseBlanks.T28 := by kernel_rfl
theorem sigillaw5_ParseBlanks.bits28 : waitsOk sigillaw5_ParseBlanks.T28.2 sigillaw5_ParseBlanks.B28 = true := by kernel_rfl
def sigillaw5_ParseBlanks.T29 : Bool × List (List Nat × List Nat) := (true, [([], []), ([], []), ([0, 1], [0, 1]), ([2], [2]), ([3], [3]), ([], []), ([5], [5]), ([4, 6], [4, 6]), ([7, 0, 1, 2, 3, 4, 5, 6, 7], [7])])
def sigillaw5_ParseBlanks.B29 : List Nat := [0, 0, 3, 7, 15, 0, 32, 127, 255]
theorem sigillaw5_ParseBlanks.tab29 : rtab .any (opsOf Tryd.f5 29) = sigillaw5_ParseBlanks.T29 := by kernel_rfl
theorem sigillaw5_ParseBlanks.bits29 : waitsOk sigillaw5_ParseBlanks.T29.2 sigillaw5_ParseBlanks.B29 = true := by kernel_rfl
set_option maxHeartbeats 8000000 in
set_option maxRecDepth 100000 in
theorem sigillaw5_ParseBlanks.calls (k : Nat) (a0 : ByteArray) (r : Bool) (w : World) (h : sigillaw5_ParseBlanks.f k a0 = some r) (hL : LaidW w) :
  Calls Tryd.prog 5 #[.string a0] w fun e w' => e = .returned (.bool r) ∧ Below w.heap.size w w' := by
 have HL := Aside0.mk hL
 clear hL
 have hu42 := Tryd.underlying42
 have hu29 := Tryd.underlying29
 have hu32 := Tryd.underlying32
 have HB := Aside0.mk (Below.refl w.heap.size w)
 have H : ((scan_Tokens.f k a0).bind fun bt101 => ((sigillaw5_known.f k).bind fun t106 => (if t106 = true then (if bt101.2.2 = 0 then (sigillaw5_ParseBlanks.l0 k a0 bt101.1 ([] : List (S42)) ([] : List Int) 0) else (some true)) else (some false)))) = some r := h
 clear h
 replace H := Option.bind_eq_some_iff.mp H
 obtain ⟨⟨t101, t102, t103⟩, A20, H⟩ := H
 replace H : ((sigillaw5_known.f k).bind fun t106 => (if t106 = true then (if t103 = 0 then (sigillaw5_ParseBlanks.l0 k a0 t101 ([] : List (S42)) ([] : List Int) 0) else (some true)) else (some false))) = some r := H
 have A2 := Aside0.mk A20
 clear A20
 replace H := Option.bind_eq_some_iff.mp H
 obtain ⟨t106, A30, H⟩ := H
 replace H : (if t106 = true then (if t103 = 0 then (sigillaw5_ParseBlanks.l0 k a0 t101 ([] : List (S42)) ([] : List Int) 0) else (some true)) else (some false)) = some r := H
 have A3 := Aside0.mk A30
 clear A30
 by_cases c4 : t106 = true
 ·subst c4
  have H1 : (if t103 = 0 then (sigillaw5_ParseBlanks.l0 k a0 t101 ([] : List (S42)) ([] : List Int) 0) else (some true)) = some r := by rw [if_pos rfl] at H; exact H
  clear H
  have H := H1
  clear H1
  by_cases c5 : t103 = 0
  ·rw [if_pos c5] at H
   have c5b0 : (t103 == 0) = true := beq_iff_eq.mpr c5
   have c5b1 : (t103 != 0) = false := bne_eq_false_iff_eq.mpr c5
   clear c5
   have H' := Aside0.mk H
   clear H
   go_enter Tryd.func5, Tryd.ntmps5
   go_wp2_with (first | ((with_reducible refine gate_callee (f := 10) rfl ?_); refine goesL_ (some 17) rfl rfl Tryd.func10 (by kernel_rfl) rfl #[.string a0] rfl (by (try simp only [List.map_toArray, List.map_cons, List.map_nil]); first | done | rfl | (simp only [List.length_drop, List.length_take]; rfl)) ?_; (with_reducible refine (scan_Tokens.calls k a0 t101 t102 t103 _ A2.out (LaidW.below HL.out (by repeat (first | (with_reducible first | exact HB.out | apply below_alloc | apply pw_below_drewN | apply below_drew1) | exact HB.out | exact Below.refl _ _)))).mono ?_); rintro e w6 ⟨v104, rfl, ho0, hb⟩; refine ⟨_, rfl, ?_⟩; have n0_ := Aside0.mk (Kd.R_lower ho0 (below_size (by repeat (first | (with_reducible first | exact HB.out | apply below_alloc | apply pw_below_drewN | apply below_drew1) | exact HB.out)))); have n1_ := Aside0.mk (below_step (by repeat (first | (with_reducible first | exact HB.out | apply below_alloc | apply pw_below_drewN | apply below_drew1) | exact HB.out)) hb); clear HB; have HO105 := n0_; have HB := n1_; clear n0_ n1_; (try clear hb); (try clear hb2); (try clear hk); (try clear hi); (try clear ho0)) | ((with_reducible refine gate_callee (f := 6) rfl ?_); refine goesL_ (some 21) rfl rfl Tryd.func6 (by kernel_rfl) rfl #[] rfl (by (try simp only [List.map_toArray, List.map_cons, List.map_nil]); first | done | rfl | (simp only [List.length_drop, List.length_take]; rfl)) ?_; (with_reducible refine (sigillaw5_known.calls k  true _ A3.out (LaidW.below HL.out (by repeat (first | (with_reducible first | exact HB.out | apply below_alloc | apply pw_below_drewN | apply below_drew1) | exact HB.out | exact Below.refl _ _)))).mono ?_); rintro e w7 ⟨rfl, hb⟩; refine ⟨_, rfl, ?_⟩; have n0_ := Aside0.mk (Kd.R_below (by (with_reducible repeat (first | apply Kd.R_alloc | apply Kd.R_drewN | apply Kd.R_drew)); exact HO105.out) hb); have n1_ := Aside0.mk (below_step (by repeat (first | (with_reducible first | exact HB.out | apply below_alloc | apply pw_below_drewN | apply below_drew1) | exact HB.out)) hb); clear HO105; clear HB; have HO105 := n0_; have HB := n1_; clear n0_ n1_; (try clear hb); (try clear hb2); (try clear hk); (try clear hi)))
   go_loopg [7, 8, 9] k (fun kq v7 v8 v9 w' => ∃ (x7_1 : List (S42)) (x8_1 : List Int) (x9_1 : Int), v9 = .int .i64 x9_1 ∧ Aside0 (sigillaw5_ParseBlanks.l0 kq a0 t101 x7_1 x8_1 x9_1 = some r) ∧ Aside0 (kq ≤ k) ∧ Aside0 (Kd.R k42 42 w' w.heap.size (fun k_ => some k_ ≠ (v7 : Value).ownBlock) v104 t101) ∧ Aside0 (Kd.R k42 42 w' w.heap.size (fun k_ => some k_ ≠ (v104 : Value).ownBlock) v7 x7_1) ∧ Aside0 (Kd.R (Kd.int .u8) 5 w' w.heap.size (fun _ => True) v8 x8_1) ∧ Aside0 (Below w.heap.size w w'))
   case atStart => exact ⟨(([] : List (S42))), (([] : List Int)), (0), (by first | rfl | (simp; done) | (simp [*]; done)), H', ⟨Nat.le_refl _⟩, ⟨by (with_reducible repeat (first | apply Kd.R_alloc | apply Kd.R_drewN | apply Kd.R_drew)); exact Kd.R_mono HO105.out (fun _ hk => (by simp [Value.ownBlock]))⟩, ⟨by first | exact Kd.R_nil _ _ _ _ _ | exact Kd.N_nil _ _ _ _ _ | exact Kd.V_nil _ _ _ _ _ | exact Kd.Q_nil _ _ _ _ _ | exact Kd.R_nil _ _ _ _ _⟩, ⟨by first | exact Kd.R_nil _ _ _ _ _ | exact Kd.N_nil _ _ _ _ _ | exact Kd.V_nil _ _ _ _ _ | exact Kd.Q_nil _ _ _ _ _ | exact Kd.R_nil _ _ _ _ _⟩, ⟨by repeat (first | (with_reducible first | exact HB.out | apply below_alloc | apply pw_below_drewN | apply below_drew1) | exact HB.out)⟩⟩
   case round =>
    clear H'
    obtain ⟨x7_1, x8_1, x9_1, rfl, HA, HK1, HO_3, HO_7, HO_8, HB⟩ := hrel
    cases gk with
    | zero => exact absurd HA.out (by simp [sigillaw5_ParseBlanks.l0])
    | succ k1 =>
     have H := HA.out
     clear HA
     simp only [sigillaw5_ParseBlanks.l0] at H
     by_cases c8 : x9_1 < (t101.length : Int)
     ·rw [if_pos c8] at H
      have c8b0 : decide (x9_1 < (t101.length : Int)) = true := decide_eq_true c8
      clear c8
      by_cases c9 : 0 ≤ x9_1
      ·rw [if_pos c9] at H
       have c9b0 : decide (0 ≤ x9_1) = true := decide_eq_true c9
       clear c9
       by_cases c10 : x7_1.length < 4398046511104
       ·rw [if_pos c10] at H
        have LMc10 := Aside0.mk c10
        clear c10
        obtain ⟨y109, hy109⟩ : ∃ y_ : List (S42), y_ = (x7_1 ++ [(⟨(rd_T42 t101 x9_1).f0, (x8_1.length : Int), (rd_T42 t101 x9_1).f2⟩ : S42)]) := ⟨_, rfl⟩
        replace H : (if x8_1.length + ((rd_T42 t101 x9_1).f2).size < 140737488355328 then ((some (x8_1 ++ bytesOf ((rd_T42 t101 x9_1).f2) : List Int)).bind fun y113 => ((some (([32, 10] : List Int) : List Int)).bind fun y116 => (if y113.length + y116.length < 140737488355328 then (sigillaw5_ParseBlanks.l0 k1 a0 t101 y109 (y113 ++ y116) (wrap64 (x9_1 + 1))) else (none)))) else (none)) = some r := by first | (rw [hy109]; with_reducible exact H) | (have H2_ := (Option.bind_some _ _).symm.trans H; rw [hy109]; with_reducible exact H2_) | (have H2_ := (Option.bind_some _ _).symm.trans H; with_reducible exact H2_) | with_reducible exact H | (rw [hy109]; exact H) | exact H
        have Ny109 := Aside0.mk hy109
        clear hy109
        by_cases c11 : x8_1.length + ((rd_T42 t101 x9_1).f2).size < 140737488355328
        ·rw [if_pos c11] at H
         have LMc11 := Aside0.mk c11
         clear c11
         obtain ⟨y113, hy113⟩ : ∃ y_ : List Int, y_ = (x8_1 ++ bytesOf ((rd_T42 t101 x9_1).f2)) := ⟨_, rfl⟩
         replace H : ((some (([32, 10] : List Int) : List Int)).bind fun y116 => (if y113.length + y116.length < 140737488355328 then (sigillaw5_ParseBlanks.l0 k1 a0 t101 y109 (y113 ++ y116) (wrap64 (x9_1 + 1))) else (none))) = some r := by first | (rw [hy113]; with_reducible exact H) | (have H2_ := (Option.bind_some _ _).symm.trans H; rw [hy113]; with_reducible exact H2_) | (have H2_ := (Option.bind_some _ _).symm.trans H; with_reducible exact H2_) | with_reducible exact H | (rw [hy113]; exact H) | exact H
         have Ny113 := Aside0.mk hy113
         clear hy113
         obtain ⟨y116, hy116⟩ : ∃ y_ : List Int, y_ = (([32, 10] : List Int)) := ⟨_, rfl⟩
         replace H : (if y113.length + y116.length < 140737488355328 then (sigillaw5_ParseBlanks.l0 k1 a0 t101 y109 (y113 ++ y116) (wrap64 (x9_1 + 1))) else (none)) = some r := by first | (rw [hy116]; with_reducible exact H) | (have H2_ := (Option.bind_some _ _).symm.trans H; rw [hy116]; with_reducible exact H2_) | (have H2_ := (Option.bind_some _ _).symm.trans H; with_reducible exact H2_) | with_reducible exact H | (rw [hy116]; exact H) | exact H
         have Ny116 := Aside0.mk hy116
         clear hy116
         by_cases c12 : y113.length + y116.length < 140737488355328
         ·rw [if_pos c12] at H
          have LMc12 := Aside0.mk c12
          clear c12
          obtain ⟨y119, hy119⟩ : ∃ y_ : List Int, y_ = (y113 ++ y116) := ⟨_, rfl⟩
          replace H : (sigillaw5_ParseBlanks.l0 k1 a0 t101 y109 y119 (wrap64 (x9_1 + 1))) = some r := by first | (rw [hy119]; with_reducible exact H) | (have H2_ := (Option.bind_some _ _).symm.trans H; rw [hy119]; with_reducible exact H2_) | (have H2_ := (Option.bind_some _ _).symm.trans H; with_reducible exact H2_) | with_reducible exact H | (rw [hy119]; exact H) | exact H
          have Ny119 := Aside0.mk hy119
          clear hy119
          have H' := Aside0.mk H
          clear H
          obtain ⟨Ao13, co13, eo13⟩ := Kd.R_slice HO_3.out
          subst eo13
          try go_wp2
          have n0_ := Aside0.mk (Kd.R_drew HO_3.out)
          have n1_ := Aside0.mk (Kd.R_drew HO_7.out)
          have n2_ := Aside0.mk (Kd.R_drew HO_8.out)
          have n3_ := Aside0.mk (below_drew1 HB.out)
          clear HO_3
          clear HO_7
          clear HO_8
          clear HB
          have HO_3 := n0_
          have HO_7 := n1_
          have HO_8 := n2_
          have HB := n3_
          clear n0_ n1_ n2_ n3_
          have p107 : 0 ≤ (x9_1 : Int) := of_decide_eq_true (by first | (with_reducible assumption) | assumption)
          have q107 : x9_1 < (t101.length : Int) := of_decide_eq_true (by first | (with_reducible assumption) | assumption)
          obtain ⟨ad107, e107, hx107_0, hx107_1, hx107_2⟩ := at_T42 (Kd.R_reads' HO_3.out).2.2 x9_1 p107 q107
          cases e107
          replace p107 := eq_true p107
          replace q107 := eq_true q107
          obtain ⟨Ao15, co15, eo15⟩ := Kd.R_slice HO_8.out
          (first | subst eo15 | (injection eo15 with f1_ f2_ f3_; have f4_ := f1_.symm; have f5_ := f3_.symm; clear f1_ f2_ f3_; subst f4_; subst f5_))
          have p108 : 0 ≤ (x9_1 : Int) := of_decide_eq_true (by first | (with_reducible assumption) | assumption)
          have q108 : x9_1 < (t101.length : Int) := of_decide_eq_true (by first | (with_reducible assumption) | assumption)
          obtain ⟨ad108, e108, hx108_0, hx108_1, hx108_2⟩ := at_T42 (Kd.R_reads' HO_3.out).2.2 x9_1 p108 q108
          obtain rfl : ad107 = ad108 := (by injection e108)
          replace p108 := eq_true p108
          replace q108 := eq_true q108
          refine start_ (n := 17) (S := fun w' => w'.cell? (ad107.add ((x9_1).toNat * 3)) = some (.int .i64 ((rd_T42 t101 x9_1).f0)) ∧ w'.cell? ⟨(ad107.add ((x9_1).toNat * 3)).block, (ad107.add ((x9_1).toNat * 3)).off + 1, none⟩ = some (.int .i64 ((rd_T42 t101 x9_1).f1)) ∧ w'.cell? ⟨(ad107.add ((x9_1).toNat * 3)).block, (ad107.add ((x9_1).toNat * 3)).off + 2, none⟩ = some (.string ((rd_T42 t101 x9_1).f2)) ∧ w'.cell? (ad107.add ((x9_1).toNat * 3)) = some (.int .i64 ((rd_T42 t101 x9_1).f0)) ∧ w'.cell? ⟨(ad107.add ((x9_1).toNat * 3)).block, (ad107.add ((x9_1).toNat * 3)).off + 1, none⟩ = some (.int .i64 ((rd_T42 t101 x9_1).f1)) ∧ w'.cell? ⟨(ad107.add ((x9_1).toNat * 3)).block, (ad107.add ((x9_1).toNat * 3)).off + 2, none⟩ = some (.string ((rd_T42 t101 x9_1).f2))) (ds := [14, 15]) #[false, false, false, false, false, false, false, false, false, false, false, false, false, false, false, false, false] (by kernel_rfl) rfl rfl ⟨hx107_0, hx107_1, hx107_2, hx108_0, hx108_1, hx108_2⟩ (fun hHeld => ?_); refine with_tabW sigillaw5_ParseBlanks.tab12 sigillaw5_ParseBlanks.bits12 (fun HT_ HW_ => ?_)
          generalize wr.drew = w14 at HO_3 HO_7 HO_8 HB hx107_0 hx107_1 hx107_2 hx108_0 hx108_1 hx108_2 hHeld ⊢
          refine pure_ (i := 0) (N := some 31) (v := ?_) (a' := ?_) #[true, false, false, false, false, false, false, false, false, false, false, false, false, false, false, false, false] rfl rfl (any_of HT_.out (by kernel_rfl)) (fun _ _ _ h => h) (Or.inl ⟨by rfl, ?_⟩) ?_ ?_
          rotate_left
          ·intro w'
           go_simp
           with_reducible rfl
          rotate_left
          ·simp only [Act.put, List.setIfInBounds_toArray, List.set_cons_zero, List.set_cons_succ, i64_w, i32_w]
           rfl
          refine pure_ (i := 1) (N := some 32) (v := ?_) (a' := ?_) #[true, true, false, false, false, false, false, false, false, false, false, false, false, false, false, false, false] rfl rfl (any_of HT_.out (by kernel_rfl)) (fun _ _ _ h => h) (Or.inl ⟨by rfl, ?_⟩) ?_ ?_
          rotate_left
          ·intro w'
           go_simp
           with_reducible rfl
          rotate_left
          ·simp only [Act.put, List.setIfInBounds_toArray, List.set_cons_zero, List.set_cons_succ, i64_w, i32_w]
           rfl
          refine pure_ (i := 2) (N := some 33) (v := ?_) (a' := ?_) #[true, true, true, false, false, false, false, false, false, false, false, false, false, false, false, false, false] rfl rfl (any_of HT_.out (by kernel_rfl)) (fun _ _ _ h => h) (Or.inl ⟨by rfl, ?_⟩) ?_ ?_
          rotate_left
          ·intro w'
           go_simp
           with_reducible rfl
          rotate_left
          ·simp only [Act.put, List.setIfInBounds_toArray, List.set_cons_zero, List.set_cons_succ, i64_w, i32_w]
           rfl
          refine pure_ (i := 3) (N := some 34) (v := ?_) (a' := ?_) #[true, true, true, true, false, false, false, false, false, false, false, false, false, false, false, false, false] rfl rfl (any_of HT_.out (by kernel_rfl)) (fun _ _ _ h => h) (Or.inl ⟨by rfl, ?_⟩) ?_ ?_
          rotate_left
          ·intro w'
           go_simp
           with_reducible rfl
          rotate_left
          ·simp only [Act.put, List.setIfInBounds_toArray, List.set_cons_zero, List.set_cons_succ, i64_w, i32_w]
           rfl
          refine pure_ (i := 4) (N := some 35) (v := ?_) (a' := ?_) #[true, true, true, true, true, false, false, false, false, false, false, false, false, false, false, false, false] rfl rfl (any_of HT_.out (by kernel_rfl)) (fun _ _ _ h => h) (Or.inl ⟨by rfl, ?_⟩) ?_ ?_
          rotate_left
          ·intro w'
           go_simp
           with_reducible rfl
          rotate_left
          ·simp only [Act.put, List.setIfInBounds_toArray, List.set_cons_zero, List.set_cons_succ, i64_w, i32_w]
           rfl
          refine pure_ (i := 6) (N := some 37) (v := ?_) (a' := ?_) #[true, true, true, true, true, false, true, false, false, false, false, false, false, false, false, false, false] rfl rfl (any_of HT_.out (by kernel_rfl)) (fun _ _ _ h => h) (Or.inl ⟨by rfl, ?_⟩) ?_ ?_
          rotate_left
          ·intro w'
           go_simp
           with_reducible rfl
          rotate_left
          ·simp only [Act.put, List.setIfInBounds_toArray, List.set_cons_zero, List.set_cons_succ, i64_w, i32_w]
           rfl
          refine pure_ (i := 7) (N := some 38) (v := ?_) (a' := ?_) #[true, true, true, true, true, false, true, true, false, false, false, false, false, false, false, false, false] rfl rfl (any_of HT_.out (by kernel_rfl)) (fun _ _ _ h => h) (Or.inl ⟨by rfl, ?_⟩) ?_ ?_
          rotate_left
          ·intro w'
           go_simp
           with_reducible rfl
          rotate_left
          ·simp only [Act.put, List.setIfInBounds_toArray, List.set_cons_zero, List.set_cons_succ, i64_w, i32_w]
           rfl
          refine pure_ (i := 8) (N := some 39) (v := ?_) (a' := ?_) #[true, true, true, true, true, false, true, true, true, false, false, false, false, false, false, false, false] rfl rfl (any_of HT_.out (by kernel_rfl)) (fun _ _ _ h => h) (Or.inl ⟨by rfl, ?_⟩) ?_ ?_
          rotate_left
          ·intro w'
           go_simp
           with_reducible rfl
          rotate_left
          ·simp only [Act.put, List.setIfInBounds_toArray, List.set_cons_zero, List.set_cons_succ, i64_w, i32_w]
           rfl
          refine pure_ (i := 9) (N := some 40) (v := ?_) (a' := ?_) #[true, true, true, true, true, false, true, true, true, true, false, false, false, false, false, false, false] rfl rfl (any_of HT_.out (by kernel_rfl)) (fun _ _ _ h => h) (Or.inl ⟨by rfl, ?_⟩) ?_ ?_
          rotate_left
          ·intro w'
           go_simp
           with_reducible rfl
          rotate_left
          ·simp only [Act.put, List.setIfInBounds_toArray, List.set_cons_zero, List.set_cons_succ, i64_w, i32_w]
           rfl
          refine pure_ (i := 10) (N := some 41) (v := ?_) (a' := ?_) #[true, true, true, true, true, false, true, true, true, true, true, false, false, false, false, false, false] rfl rfl (any_of HT_.out (by kernel_rfl)) (fun _ _ _ h => h) (Or.inl ⟨by rfl, ?_⟩) ?_ ?_
          rotate_left
          ·intro w'
           go_simp
           with_reducible rfl
          rotate_left
          ·simp only [Act.put, List.setIfInBounds_toArray, List.set_cons_zero, List.set_cons_succ, i64_w, i32_w]
           rfl
          refine pure_ (i := 11) (N := some 42) (v := ?_) (a' := ?_) #[true, true, true, true, true, false, true, true, true, true, true, true, false, false, false, false, false] rfl rfl (any_of HT_.out (by kernel_rfl)) (fun _ _ _ h => h) (Or.inl ⟨by rfl, ?_⟩) ?_ ?_
          rotate_left
          ·intro w'
           go_simp
           with_reducible rfl
          rotate_left
          ·simp only [Act.put, List.setIfInBounds_toArray, List.set_cons_zero, List.set_cons_succ, i64_w, i32_w]
           rfl
          refine take_ (i := 5) (N := some 36) (v := ?_) (a' := ?_) #[true, true, true, true, true, true, true, true, true, true, true, true, false, false, false, false, false] rfl rfl (take_ofW HT_.out HW_.out (by kernel_rfl)) (fun _ _ _ h => h) (Or.inl ⟨by rfl, ?_⟩) hHeld ?_ ?_
          rotate_left
          ·rintro w' ⟨s0, s1, s2, s3, s4, s5⟩
           go_simp
           with_reducible rfl
          rotate_left
          ·simp only [Act.put, List.setIfInBounds_toArray, List.set_cons_zero, List.set_cons_succ, i64_w, i32_w]
           rfl
          refine take_ (i := 12) (N := some 43) (v := ?_) (a' := ?_) #[true, true, true, true, true, true, true, true, true, true, true, true, true, false, false, false, false] rfl rfl (take_ofW HT_.out HW_.out (by kernel_rfl)) (fun _ _ _ h => h) (Or.inl ⟨by rfl, ?_⟩) hHeld ?_ ?_
          rotate_left
          ·rintro w' ⟨s0, s1, s2, s3, s4, s5⟩
           go_simp
           with_reducible rfl
          rotate_left
          ·simp only [Act.put, List.setIfInBounds_toArray, List.set_cons_zero, List.set_cons_succ, i64_w, i32_w]
           rfl
          refine pure_ (i := 13) (N := some 44) (v := ?_) (a' := ?_) #[true, true, true, true, true, true, true, true, true, true, true, true, true, true, false, false, false] rfl rfl (any_of HT_.out (by kernel_rfl)) (fun _ _ _ h => h) (Or.inl ⟨by rfl, ?_⟩) ?_ ?_
          rotate_left
          ·intro w'
           go_simp
           with_reducible rfl
          rotate_left
          ·simp only [Act.put, List.setIfInBounds_toArray, List.set_cons_zero, List.set_cons_succ, i64_w, i32_w]
           rfl
          refine last_ (i := 14) (N := some 45) #[true, true, true, true, true, true, true, true, true, true, true, true, true, true, true, false, false] rfl rfl (one_of HT_.out (by kernel_rfl)) (by decide) (fun K hK => ?_)
          refine value_ (w1 := ?_) (v := ?_) (by rfl) rfl ?_ ?_
          rotate_left 2
          ·go_simp
           constructor
           ·rfl
           ·rfl
          refine hK.out _ _ ?_
          clear hK K
          refine norm_ (a' := ?_) ?_ ?_
          rotate_left
          ·show Act.put _ (some 45) _ = _
           simp only [Act.put, List.setIfInBounds_toArray, List.set_cons_zero, List.set_cons_succ, i64_w, i32_w]
           rfl
          refine last_ (i := 15) (N := some 46) #[true, true, true, true, true, true, true, true, true, true, true, true, true, true, true, true, false] rfl rfl (one_of HT_.out (by kernel_rfl)) (by decide) (fun K hK => ?_)
          refine Kd.R_append_step k42 (w0 := w) w.heap.size (by rfl) (.tmp 31) (.tmp 45) 35 42 (.agg #[(.int .i64 0), (.int .i64 0), (.string ⟨#[]⟩)]) 32 rfl Tryd.underlying35 infoTok rfl (by decide) (by omega) u7 x7_1 (⟨(rd_T42 t101 x9_1).f0, (x8_1.length : Int), (rd_T42 t101 x9_1).f2⟩ : S42) [.int .i64 ((rd_T42 t101 x9_1).f0), .int .i64 (x8_1.length : Int), .string ((rd_T42 t101 x9_1).f2)] (fun k_ => some k_ ≠ (.slice (some ad107) t101.length co13 : Value).ownBlock) (fun _ => False) rfl rfl ?aP (fun _ hk => hk.elim) ?aF ?aO ?aB ?aS ?aL ?_
          (case aP => exact k42_mkM _ _ _ (⟨(rd_T42 t101 x9_1).f0, (x8_1.length : Int), (rd_T42 t101 x9_1).f2⟩ : S42))
          (case aB => exact (by repeat (first | (with_reducible first | exact HB.out | apply below_alloc | apply pw_below_drewN | apply below_drew1) | exact HB.out)))
          (case aF => exact (fun k_ hk => Kd.fresh' (Kd.R_lt (by (with_reducible repeat (first | apply Kd.R_alloc | apply Kd.R_drewN | apply Kd.R_drew)); exact HO_3.out)) k_ hk))
          (case aO => exact (by (with_reducible repeat (first | apply Kd.R_alloc | apply Kd.R_drewN | apply Kd.R_drew)); exact HO_7.out))
          (case aS => exact (below_size (by repeat (first | (with_reducible first | exact HB.out | apply below_alloc | apply pw_below_drewN | apply below_drew1) | exact HB.out))))
          (case aL => have := LMc10.out; omega)
          intro v110 w16 ho hb hg hat
          rw [← Ny109.out] at ho
          have n0_ := Aside0.mk (Kd.R_after (ok := (fun _ => True)) (by (with_reducible repeat (first | apply Kd.R_alloc | apply Kd.R_drewN | apply Kd.R_drew)); exact Kd.R_mono HO_3.out (fun _ hk => ⟨trivial, hk⟩)) hg hat)
          have n1_ := Aside0.mk (Kd.R_over' (by (with_reducible repeat (first | apply Kd.R_alloc | apply Kd.R_drewN | apply Kd.R_drew)); exact HO_8.out) (Kd.R_typed (by (with_reducible repeat (first | apply Kd.R_alloc | apply Kd.R_drewN | apply Kd.R_drew)); exact HO_7.out)) (by decide) hg)
          have n2_ := Aside0.mk (hb)
          have n3_ := Aside0.mk (ho)
          clear HO_3
          clear HO_8
          clear HB
          clear HO_7
          have HO_3 := n0_
          have HO_8 := n1_
          have HB := n2_
          have HO111 := n3_
          clear n0_ n1_ n2_ n3_
          clear ho hb hg hat
          refine hK.out _ _ ?_
          clear hK K
          refine norm_ (a' := ?_) ?_ ?_
          rotate_left
          ·show Act.put _ (some 46) _ = _
           simp only [Act.put, List.setIfInBounds_toArray, List.set_cons_zero, List.set_cons_succ, i64_w, i32_w]
           rfl
          refine pure_ (i := 16) (N := some 7) (v := ?_) (a' := ?_) #[true, true, true, true, true, true, true, true, true, true, true, true, true, true, true, true, true] rfl rfl (any_of HT_.out (by kernel_rfl)) (fun _ _ _ h => h) (Or.inl ⟨by rfl, ?_⟩) ?_ ?_
          rotate_left
          ·intro w'
           go_simp
           with_reducible rfl
          rotate_left
          ·simp only [Act.put, List.setIfInBounds_toArray, List.set_cons_zero, List.set_cons_succ, i64_w, i32_w]
           rfl
          refine done_ (done_of HT_.out (by kernel_rfl)) ?_
          have p112 : 0 ≤ (x9_1 : Int) := of_decide_eq_true (by first | (with_reducible assumption) | assumption)
          have q112 : x9_1 < (t101.length : Int) := of_decide_eq_true (by first | (with_reducible assumption) | assumption)
          obtain ⟨ad112, e112, hx112_0, hx112_1, hx112_2⟩ := at_T42 (Kd.R_reads' HO_3.out).2.2 x9_1 p112 q112
          obtain rfl : ad107 = ad112 := (by injection e112)
          replace p112 := eq_true p112
          replace q112 := eq_true q112
          try go_wp2_with (first | (at_builtin; refine print_append_str (w0 := w) w.heap.size rfl (.tmp 47) _ 40 9 5 rfl Tryd.underlying40 Tryd.underlying9 info5 (.slice Ao15 x8_1.length co15) x8_1 ((rd_T42 t101 x9_1).f2) rfl rfl ?aO ?aB ?aS ?aL ?_; (case aB => exact (by repeat (first | (with_reducible first | exact HB.out | apply below_alloc | apply pw_below_drewN | apply below_drew1) | exact HB.out))); (case aO => exact (Kd.own_of_R (by (with_reducible repeat (first | apply Kd.R_alloc | apply Kd.R_drewN | apply Kd.R_drew)); exact HO_8.out))); (case aS => exact (below_size (by repeat (first | (with_reducible first | exact HB.out | apply below_alloc | apply pw_below_drewN | apply below_drew1) | exact HB.out)))); (case aL => have := LMc11.out; omega); intro v114 w17 ho0 hb hg; have ho := Kd.R_of_own (h1 := fun _ => rfl) (ok := fun _ => True) ho0 (fun _ _ => trivial); clear ho0; have hat := True.intro; rw [← Ny113.out] at ho; change Kd.R (Kd.int .u8) 5 w17 w.heap.size (fun _ => True) v114 y113 at ho; have n0_ := Aside0.mk (Kd.R_over' (by (with_reducible repeat (first | apply Kd.R_alloc | apply Kd.R_drewN | apply Kd.R_drew)); exact HO_3.out) (Kd.R_typed (by (with_reducible repeat (first | apply Kd.R_alloc | apply Kd.R_drewN | apply Kd.R_drew)); exact HO_8.out)) (by decide) hg); have n1_ := Aside0.mk (Kd.R_over' (by (with_reducible repeat (first | apply Kd.R_alloc | apply Kd.R_drewN | apply Kd.R_drew)); exact HO111.out) (Kd.R_typed (by (with_reducible repeat (first | apply Kd.R_alloc | apply Kd.R_drewN | apply Kd.R_drew)); exact HO_8.out)) (by decide) hg); have n2_ := Aside0.mk (hb); have n3_ := Aside0.mk (ho); clear HO_3; clear HO111; clear HB; clear HO_8; have HO_3 := n0_; have HO111 := n1_; have HB := n2_; have HO115 := n3_; clear n0_ n1_ n2_ n3_; clear ho hb hg hat) | ((with_reducible refine gate_dst (N := 55) rfl ?_); (try (refine gate_guard (by rfl) ?_; dsimp only)); refine Kd.R_lit (Kd.int .u8) _ 5 ?hg (N := 55) ?hd (xs := ([32, 10] : List Int)) (inner := [.int .u8 32, .int .u8 10]) (ok := fun _ => True) (okp := fun _ => True) ?hr ?hp (fun _ hk => hk) trivial (Below.refl _ _) (Nat.le_refl _) (by simp) ?_; (case hd => rfl); (case hg => rfl); (case hr => first | (go_simp; done) | (go_simp; rfl)); (case hp => exact (Reps.one (show Kd.M (Kd.int .u8) _ _ _ 32 [.int .u8 32] from rfl) (Reps.one (show Kd.M (Kd.int .u8) _ _ _ 10 [.int .u8 10] from rfl) (Reps.none _ _)))); intro v117 w18 ho19 hb hg_ hnew_; clear hg_ hnew_; (first | rw [← Ny116.out] at ho19 | (simp only [Int.reduceToNat] at ho19; rw [← Ny116.out] at ho19)); have n0_ := Aside0.mk (Kd.R_below (by (with_reducible repeat (first | apply Kd.R_alloc | apply Kd.R_drewN | apply Kd.R_drew)); exact HO_3.out) hb); have n1_ := Aside0.mk (Kd.R_below (by (with_reducible repeat (first | apply Kd.R_alloc | apply Kd.R_drewN | apply Kd.R_drew)); exact HO111.out) hb); have n2_ := Aside0.mk (Kd.R_elder' (by (with_reducible repeat (first | apply Kd.R_alloc | apply Kd.R_drewN | apply Kd.R_drew)); exact HO115.out) (Kd.R_base ho19) hb); have n3_ := Aside0.mk (Kd.R_lower (Kd.R_new' ho19 (Kd.R_lt (by (with_reducible repeat (first | apply Kd.R_alloc | apply Kd.R_drewN | apply Kd.R_drew)); exact HO115.out))) (below_size (by repeat (first | (with_reducible first | exact HB.out | apply below_alloc | apply pw_below_drewN | apply below_drew1) | exact HB.out)))); have n4_ := Aside0.mk (below_step (by repeat (first | (with_reducible first | exact HB.out | apply below_alloc | apply pw_below_drewN | apply below_drew1) | exact HB.out)) hb); clear HO_3; clear HO111; clear HO115; clear HB; have HO_3 := n0_; have HO111 := n1_; have HO115 := n2_; have HO118 := n3_; have HB := n4_; clear n0_ n1_ n2_ n3_ n4_; clear hb ho19; obtain ⟨Ao21, co21, eo21⟩ := Kd.R_slice HO118.out; subst eo21) | ((with_reducible refine gate_builtin (b := .append) (xs := #[.tmp 54, .tmp 55]) rfl ?_); (try (refine gate_guard (by rfl) ?_; dsimp only)); at_builtin; refine Kd.R_append_rows (Kd.int .u8) (w0 := w) w.heap.size rfl (.tmp 54) (.tmp 55) 40 5 (.int .u8 0) 1 rfl Tryd.underlying40 info5 rfl (by decide) (by omega) v114 y113 y116 _ _ _ (fun k_ => some k_ ≠ (.slice Ao21 y116.length co21 : Value).ownBlock) (fun _ => False) rfl rfl ?aO ?aR (fun _ _ h => h) (fun _ h => h.elim) ?aF ?aB ?aS ?aL ?_; (case aR => repeat (first | exact (Kd.R_reads' HO118.out).2.2 | (with_reducible refine Kd.C_alloc ?_ _) | (with_reducible refine Kd.C_drewN ?_ _) | (with_reducible refine Kd.C_drew ?_))); (case aB => exact (by repeat (first | (with_reducible first | exact HB.out | apply below_alloc | apply pw_below_drewN | apply below_drew1) | exact HB.out))); (case aF => exact (fun k_ hk => Kd.fresh' (Kd.R_lt (by (with_reducible repeat (first | apply Kd.R_alloc | apply Kd.R_drewN | apply Kd.R_drew)); exact HO118.out)) k_ hk)); (case aO => exact (by (with_reducible repeat (first | apply Kd.R_alloc | apply Kd.R_drewN | apply Kd.R_drew)); exact Kd.R_mono HO115.out (fun _ hk => hk.2))); (case aS => exact (below_size (by repeat (first | (with_reducible first | exact HB.out | apply below_alloc | apply pw_below_drewN | apply below_drew1) | exact HB.out)))); (case aL => have := LMc12.out; omega); intro v120 w20 ho hb hg hat; rw [← Ny119.out] at ho; have n0_ := Aside0.mk (Kd.R_over' (by (with_reducible repeat (first | apply Kd.R_alloc | apply Kd.R_drewN | apply Kd.R_drew)); exact HO_3.out) (Kd.R_typed (by (with_reducible repeat (first | apply Kd.R_alloc | apply Kd.R_drewN | apply Kd.R_drew)); exact HO115.out)) (by decide) hg); have n1_ := Aside0.mk (Kd.R_over' (by (with_reducible repeat (first | apply Kd.R_alloc | apply Kd.R_drewN | apply Kd.R_drew)); exact HO111.out) (Kd.R_typed (by (with_reducible repeat (first | apply Kd.R_alloc | apply Kd.R_drewN | apply Kd.R_drew)); exact HO115.out)) (by decide) hg); have n2_ := Aside0.mk (Kd.R_after (ok := (fun _ => True)) (by (with_reducible repeat (first | apply Kd.R_alloc | apply Kd.R_drewN | apply Kd.R_drew)); exact HO118.out) hg hat); have n3_ := Aside0.mk (hb); have n4_ := Aside0.mk (ho); clear HO_3; clear HO111; clear HO118; clear HB; clear HO115; have HO_3 := n0_; have HO111 := n1_; have HO118 := n2_; have HB := n3_; have HO121 := n4_; clear n0_ n1_ n2_ n3_ n4_; clear ho hb hg hat))
          go_roundg k1
          case measure => have := HK1.out; omega
          case rel => exact ⟨(y109), (y119), (wrap64 (x9_1 + 1)), (by first | rfl | (simp; done) | (simp [*]; done)), H', ⟨by have := HK1.out; omega⟩, ⟨by (with_reducible repeat (first | apply Kd.R_alloc | apply Kd.R_drewN | apply Kd.R_drew)); exact Kd.R_mono HO_3.out (fun _ hk => hk.2)⟩, ⟨by (with_reducible repeat (first | apply Kd.R_alloc | apply Kd.R_drewN | apply Kd.R_drew)); exact HO111.out⟩, ⟨by (with_reducible repeat (first | apply Kd.R_alloc | apply Kd.R_drewN | apply Kd.R_drew)); exact Kd.R_mono HO121.out (fun _ hk => trivial)⟩, ⟨by repeat (first | (with_reducible first | exact HB.out | apply below_alloc | apply pw_below_drewN | apply below_drew1) | exact HB.out)⟩⟩
         ·rw [if_neg c12] at H
          exact absurd H (by simp)
        ·rw [if_neg c11] at H
         exact absurd H (by simp)
       ·rw [if_neg c10] at H
        exact absurd H (by simp)
      ·rw [if_neg c9] at H
       exact absurd H (by simp)
     ·rw [if_neg c8] at H
      have c8b0 : decide (x9_1 < (t101.length : Int)) = false := decide_eq_false c8
      clear c8
      have HC22 := Aside0.mk H
      clear H
      obtain ⟨Ao23, co23, eo23⟩ := Kd.R_slice HO_3.out
      subst eo23
      have hcv24 := own_string (P := Tryd.prog) Tryd.underlying40 Tryd.underlying5 Tryd.underlying9 (Kd.own_of_R HO_8.out)
      go_upto_region 16 with (fail)
      go_cut [66] (fun v66 wc => ∃ (kq : Nat) (x66_21 : Bool), v66 = .bool x66_21 ∧ Aside0 (sigillaw5_ParseBlanks.j1 kq a0 t101 (strOfNums x8_1) x7_1 x66_21 = some r) ∧ Aside0 (kq ≤ k1) ∧ Aside0 (Kd.R k42 42 wc w.heap.size (fun k_ => some k_ ≠ (u7 : Value).ownBlock) (.slice Ao23 t101.length co23) t101) ∧ Aside0 (Kd.R k42 42 wc w.heap.size (fun k_ => some k_ ≠ ((.slice Ao23 t101.length co23) : Value).ownBlock) u7 x7_1) ∧ Aside0 (Below w.heap.size w wc))
      case first =>
       have H := HC22.out
       clear HC22
       by_cases c25 : ((strOfNums x8_1).size : Int) > 65536
       ·rw [if_pos c25] at H
        have c25b0 : decide (65536 < ((strOfNums x8_1).size : Int)) = true := decide_eq_true c25
        have c25b1 : decide (65536 < (strOfNums x8_1).size) = true := decide_eq_true (by omega)
        clear c25
        (first | rw [c25b0] | (simp only [i64_w, i32_w]; rw [c25b0]) | skip)
        have H' := Aside0.mk H
        clear H
        go_wp2
        go_meet
        case rel => exact ⟨_, (true), (by first | rfl | (simp; done) | (simp [*]; done)), H', ⟨by have := HK1.out; first | omega | exact Nat.le_refl _⟩, ⟨by (with_reducible repeat (first | apply Kd.R_alloc | apply Kd.R_drewN | apply Kd.R_drew)); exact HO_3.out⟩, ⟨by (with_reducible repeat (first | apply Kd.R_alloc | apply Kd.R_drewN | apply Kd.R_drew)); exact HO_7.out⟩, ⟨by repeat (first | (with_reducible first | exact HB.out | apply below_alloc | apply pw_below_drewN | apply below_drew1) | exact HB.out)⟩⟩
       ·rw [if_neg c25] at H
        have c25b0 : decide (65536 < ((strOfNums x8_1).size : Int)) = false := decide_eq_false c25
        have c25b1 : decide (65536 < (strOfNums x8_1).size) = false := decide_eq_false (by omega)
        clear c25
        (first | rw [c25b0] | (simp only [i64_w, i32_w]; rw [c25b0]) | skip)
        have H' := Aside0.mk H
        clear H
        obtain ⟨Ao26, co26, eo26⟩ := Kd.R_slice HO_7.out
        subst eo26
        go_wp2
        go_meet
        case rel => exact ⟨_, (((x7_1.length : Int) == 0)), (by first | rfl | (simp; done) | (simp [*]; done)), H', ⟨by have := HK1.out; first | omega | exact Nat.le_refl _⟩, ⟨by (with_reducible repeat (first | apply Kd.R_alloc | apply Kd.R_drewN | apply Kd.R_drew)); exact HO_3.out⟩, ⟨by (with_reducible repeat (first | apply Kd.R_alloc | apply Kd.R_drewN | apply Kd.R_drew)); exact HO_7.out⟩, ⟨by repeat (first | (with_reducible first | exact HB.out | apply below_alloc | apply pw_below_drewN | apply below_drew1) | exact HB.out)⟩⟩
      case rest =>
       clear HC22
       obtain ⟨kq, x66_21, rfl, HA, HJ21, HO_3, HO_7, HB⟩ := hcut
       cases kq with
       | zero => exact absurd HA.out (by simp [sigillaw5_ParseBlanks.j1])
       | succ kj21 =>
        have H := HA.out
        clear HA
        simp only [sigillaw5_ParseBlanks.j1] at H
        by_cases c27 : x66_21 = true
        ·subst c27
         have H1 : (some (decide ((x7_1.length : Int) > 0))) = some r := by rw [if_pos rfl] at H; exact H
         clear H
         have H := H1
         clear H1
         obtain rfl := Option.some.inj H
         obtain ⟨Ao28, co28, eo28⟩ := Kd.R_slice HO_7.out
         subst eo28
         go_wp2
         go_ret
         exact ⟨by first | rfl | (simp [errW_none, errW_some] <;> rfl) | (simp [*, errW_none, errW_some] <;> rfl), by repeat (first | (with_reducible first | exact HB.out | apply below_alloc | apply pw_below_drewN | apply below_drew1) | exact HB.out)⟩
        ·replace c27 := Bool.eq_false_iff.mpr c27
         subst c27
         have H1 : (if 0 ≤ (wrap64 ((x7_1.length : Int) - 1)) then (if (wrap64 ((x7_1.length : Int) - 1)) < (x7_1.length : Int) then ((some (x7_1.set ((wrap64 ((x7_1.length : Int) - 1)) : Int).toNat (⟨(rd_T42 x7_1 (wrap64 ((x7_1.length : Int) - 1))).f0, ((strOfNums x8_1).size : Int), (rd_T42 x7_1 (wrap64 ((x7_1.length : Int) - 1))).f2⟩ : S42) : List (S42))).bind fun y122 => ((parse_Parse.f kj21 a0).bind fun bt123 => ((parse_Parse.f kj21 (strOfNums x8_1)).bind fun bt139 => (if bt123.2.2.2.2.1 = bt139.2.2.2.2.1 then ((sigillaw5_SameFile.f kj21 bt123.1 bt123.2.1 bt123.2.2.1 bt123.2.2.2.1 bt139.1 bt139.2.1 bt139.2.2.1 bt139.2.2.2.1).bind fun t155 => (sigillaw5_ParseBlanks.j2 kj21 t101 y122 (!t155) bt123.2.2.2.2.1 bt123.2.2.2.2.2.1 bt123.2.2.2.2.2.2.1 bt123.2.2.2.2.2.2.2 bt139.2.2.2.2.1 bt139.2.2.2.2.2.1 bt139.2.2.2.2.2.2.1 bt139.2.2.2.2.2.2.2)) else none)))) else (none)) else (none)) = some r := by rw [if_neg (show ¬ (false = true) by decide)] at H; exact H
         clear H
         have H := H1
         clear H1
         obtain ⟨ji29, hji29⟩ : ∃ j_ : Int, (wrap64 ((x7_1.length : Int) - 1)) = j_ := ⟨_, rfl⟩
         replace H : (if 0 ≤ (ji29) then (if (ji29) < (x7_1.length : Int) then ((some (x7_1.set ((ji29) : Int).toNat (⟨(rd_T42 x7_1 (ji29)).f0, ((strOfNums x8_1).size : Int), (rd_T42 x7_1 (ji29)).f2⟩ : S42) : List (S42))).bind fun y122 => ((parse_Parse.f kj21 a0).bind fun bt123 => ((parse_Parse.f kj21 (strOfNums x8_1)).bind fun bt139 => (if bt123.2.2.2.2.1 = bt139.2.2.2.2.1 then ((sigillaw5_SameFile.f kj21 bt123.1 bt123.2.1 bt123.2.2.1 bt123.2.2.2.1 bt139.1 bt139.2.1 bt139.2.2.1 bt139.2.2.2.1).bind fun t155 => (sigillaw5_ParseBlanks.j2 kj21 t101 y122 (!t155) bt123.2.2.2.2.1 bt123.2.2.2.2.2.1 bt123.2.2.2.2.2.2.1 bt123.2.2.2.2.2.2.2 bt139.2.2.2.2.1 bt139.2.2.2.2.2.1 bt139.2.2.2.2.2.2.1 bt139.2.2.2.2.2.2.2)) else none)))) else (none)) else (none)) = some r := by first | (rw [hji29] at H; exact H) | (simp only [hji29] at H ⊢; exact H)
         have hji29w : (IntKind.i64.wrap ((x7_1.length : Int) - 1)) = ji29 := (i64_w _).trans hji29
         by_cases c30 : 0 ≤ (ji29)
         ·rw [if_pos c30] at H
          have c30b0 : decide (0 ≤ (ji29)) = true := decide_eq_true c30
          clear c30
          by_cases c31 : (ji29) < (x7_1.length : Int)
          ·rw [if_pos c31] at H
           have c31b0 : decide ((ji29) < (x7_1.length : Int)) = true := decide_eq_true c31
           clear c31
           obtain ⟨y122, hy122⟩ : ∃ y_ : List (S42), y_ = (x7_1.set ((ji29) : Int).toNat (⟨(rd_T42 x7_1 (ji29)).f0, ((strOfNums x8_1).size : Int), (rd_T42 x7_1 (ji29)).f2⟩ : S42)) := ⟨_, rfl⟩
           replace H : ((parse_Parse.f kj21 a0).bind fun bt123 => ((parse_Parse.f kj21 (strOfNums x8_1)).bind fun bt139 => (if bt123.2.2.2.2.1 = bt139.2.2.2.2.1 then ((sigillaw5_SameFile.f kj21 bt123.1 bt123.2.1 bt123.2.2.1 bt123.2.2.2.1 bt139.1 bt139.2.1 bt139.2.2.1 bt139.2.2.2.1).bind fun t155 => (sigillaw5_ParseBlanks.j2 kj21 t101 y122 (!t155) bt123.2.2.2.2.1 bt123.2.2.2.2.2.1 bt123.2.2.2.2.2.2.1 bt123.2.2.2.2.2.2.2 bt139.2.2.2.2.1 bt139.2.2.2.2.2.1 bt139.2.2.2.2.2.2.1 bt139.2.2.2.2.2.2.2)) else none))) = some r := by first | (rw [hy122]; with_reducible exact H) | (have H2_ := (Option.bind_some _ _).symm.trans H; rw [hy122]; with_reducible exact H2_) | (have H2_ := (Option.bind_some _ _).symm.trans H; with_reducible exact H2_) | with_reducible exact H | (rw [hy122]; exact H) | exact H
           have Ny122 := Aside0.mk hy122
           clear hy122
           replace H := Option.bind_eq_some_iff.mp H
           obtain ⟨⟨t123, t124, t127, t130, t133, t134, t135, t136⟩, A330, H⟩ := H
           replace H : ((parse_Parse.f kj21 (strOfNums x8_1)).bind fun bt139 => (if t133 = bt139.2.2.2.2.1 then ((sigillaw5_SameFile.f kj21 t123 t124 t127 t130 bt139.1 bt139.2.1 bt139.2.2.1 bt139.2.2.2.1).bind fun t155 => (sigillaw5_ParseBlanks.j2 kj21 t101 y122 (!t155) t133 t134 t135 t136 bt139.2.2.2.2.1 bt139.2.2.2.2.2.1 bt139.2.2.2.2.2.2.1 bt139.2.2.2.2.2.2.2)) else none)) = some r := H
           have A33 := Aside0.mk A330
           clear A330
           replace H := Option.bind_eq_some_iff.mp H
           obtain ⟨⟨t139, t140, t143, t146, t149, t150, t151, t152⟩, A340, H⟩ := H
           replace H : (if t133 = t149 then ((sigillaw5_SameFile.f kj21 t123 t124 t127 t130 t139 t140 t143 t146).bind fun t155 => (sigillaw5_ParseBlanks.j2 kj21 t101 y122 (!t155) t133 t134 t135 t136 t149 t150 t151 t152)) else none) = some r := H
           have A34 := Aside0.mk A340
           clear A340
           have HC35 := Aside0.mk H
           clear H
           obtain ⟨Ao36, co36, eo36⟩ := Kd.R_slice HO_7.out
           subst eo36
           have p32 : 0 ≤ ((ji29) : Int) := of_decide_eq_true (by first | (with_reducible assumption) | assumption)
           have q32 : ((ji29) : Int) < ((x7_1.length : Int) : Int) := of_decide_eq_true (by first | (with_reducible assumption) | assumption)
           obtain ⟨go32, co32, eo32, gb32, gl32, cl32, HG32⟩ := Kd.R_form HO_7.out (by omega)
           (first | cases eo32 | (injection eo32 with ea_ en_ ec_; (first | subst ea_ | (injection ea_ with ea_; subst ea_)); subst ec_; clear en_))
           have GB32 := Aside0.mk gb32
           have GG32 := Aside0.mk HG32
           clear gb32 gl32 HG32
           obtain ⟨ce32, hcl32, hM32, hcc32, hfr32⟩ := Kd.R_elem HO_7.out z42 ((ji29) : Int) p32 q32
           obtain rfl := k42_openM hM32
           have hx32_0 : wc.cell? ⟨go32, ((ji29) : Int).toNat * 3, none⟩ = some (.int .i64 ((rd_T42 x7_1 (ji29)).f0)) := hcc32 0 _ rfl
           have hx32_1 : wc.cell? ⟨go32, ((ji29) : Int).toNat * 3 + 1, none⟩ = some (.int .i64 ((rd_T42 x7_1 (ji29)).f1)) := hcc32 1 _ rfl
           have hx32_2 : wc.cell? ⟨go32, ((ji29) : Int).toNat * 3 + 2, none⟩ = some (.string ((rd_T42 x7_1 (ji29)).f2)) := hcc32 2 _ rfl
           have hf32_0 : wc.frozen? ⟨go32, ((ji29) : Int).toNat * 3, none⟩ = false := hfr32 0
           have hf32_1 : wc.frozen? ⟨go32, ((ji29) : Int).toNat * 3 + 1, none⟩ = false := hfr32 1
           have hf32_2 : wc.frozen? ⟨go32, ((ji29) : Int).toNat * 3 + 2, none⟩ = false := hfr32 2
           clear hcl32 hcc32 hfr32 hM32
           replace p32 := eq_true p32
           replace q32 := eq_true q32
           have HX37 := Aside0.mk (show Kd.R k42 42 wc w.heap.size (fun k_ => some k_ ≠ (.slice Ao23 t101.length co23 : Value).ownBlock) (.slice (some ⟨go32, 0, none⟩) x7_1.length co36) x7_1 from (by (with_reducible repeat (first | apply Kd.R_alloc | apply Kd.R_drewN | apply Kd.R_drew)); exact HO_7.out))
           obtain ⟨ce37, hcl37, hM37, hcc37, hfr37⟩ := Kd.R_elem HX37.out z42 ((ji29) : Int) (of_decide_eq_true (by first | (with_reducible assumption) | assumption)) (by have h_ : ((ji29) : Int) < ((x7_1.length : Int) : Int) := of_decide_eq_true (by first | (with_reducible assumption) | assumption); first | exact h_ | (have e_ := (Kd.R_reads' HO_7.out).1; omega) | simpa using h_)
           obtain rfl := k42_openM hM37
           have HP37 := Kd.R_seg HX37.out ((ji29) : Int) (of_decide_eq_true (by first | (with_reducible assumption) | assumption)) (by have h_ : ((ji29) : Int) < ((x7_1.length : Int) : Int) := of_decide_eq_true (by first | (with_reducible assumption) | assumption); first | exact h_ | (have e_ := (Kd.R_reads' HO_7.out).1; omega) | simpa using h_) (seg := [.int .i64 ((strOfNums x8_1).size : Int)]) (j := 1) hcl37 hcc37 (show 2 ≤ 3 from by decide) (x' := (⟨(rd_T42 x7_1 (ji29)).f0, ((strOfNums x8_1).size : Int), (rd_T42 x7_1 (ji29)).f2⟩ : S42)) (k42_mkM _ _ _ (⟨(rd_T42 x7_1 (ji29)).f0, ((strOfNums x8_1).size : Int), (rd_T42 x7_1 (ji29)).f2⟩ : S42) ) (fun _ hk => hk)
           have hx37_1 := hcc37 1 _ rfl
           (try simp only [show (k42).sz = 3 from rfl, Nat.mul_one, Nat.add_zero] at hx37_1)
           have hf37_1 := hfr37 1
           (try simp only [show (k42).sz = 3 from rfl, Nat.mul_one, Nat.add_zero] at hf37_1)
           clear hcl37 hcc37 hfr37 hM37
           go_upto_region 21 with (first | ((with_reducible refine gate_store (t := 3) (p := 77) rfl ?_); refine store_event (t := 3) (p := 77) (v := ?vo_w38) (w1 := (wc.setCell ⟨go32, ((ji29) : Int).toNat * 3 + 1, none⟩ (.int .i64 ((strOfNums x8_1).size : Int)))) ?hg ?ho ?hn ?hr ?_; (case ho => rfl); (case hg => rfl); (case hn => rfl); (case hr => first | (go_simp; done) | (go_simp; rfl)); intro w38 hw; have hg : wc.grownBy w38 (some go32) := (by rw [hw]; exact HP37.2); have hp_ : Kd.R k42 42 w38 w.heap.size (fun k_ => some k_ ≠ (.slice Ao23 t101.length co23 : Value).ownBlock) (.slice (some ⟨go32, 0, none⟩) x7_1.length co36) y122 := (by rw [hw, Ny122.out]; exact HP37.1); clear HP37; have n0_ := Aside0.mk (Kd.R_after (v := (.slice (some ⟨go32, 0, none⟩) x7_1.length co36)) (v1 := (.slice (some ⟨go32, 0, none⟩) x7_1.length co36)) (ok := (fun _ => True)) (by (with_reducible repeat (first | apply Kd.R_alloc | apply Kd.R_drewN | apply Kd.R_drew)); exact Kd.R_mono HO_3.out (fun _ hk => ⟨trivial, hk⟩)) hg (.inl rfl)); have n1_ := Aside0.mk (hp_); have n2_ := Aside0.mk ((by rw [hw]; exact below_set (HB.out) GB32.out : Below w.heap.size w w38)); clear HO_3; clear HO_7; clear HB; have HO_3 := n0_; have HO_7 := n1_; have HB := n2_; clear n0_ n1_ n2_; clear hg hw hp_) | ((with_reducible refine gate_callee (f := 9) rfl ?_); refine goesL_ (some 80) rfl rfl Tryd.func9 (by kernel_rfl) rfl #[.string a0] rfl (by (try simp only [List.map_toArray, List.map_cons, List.map_nil]); first | done | rfl | (simp only [List.length_drop, List.length_take]; rfl)) ?_; (with_reducible refine (parse_Parse.calls kj21 a0 t123 t124 t127 t130 t133 t134 t135 t136 _ A33.out (LaidW.below HL.out (by repeat (first | (with_reducible first | exact HB.out | apply below_alloc | apply pw_below_drewN | apply below_drew1) | exact HB.out | exact Below.refl _ _)))).mono ?_); rintro e w39 ⟨v125, v128, v131, rfl, ho0, ho1, ho2, hb⟩; refine ⟨_, rfl, ?_⟩; have n0_ := Aside0.mk (Kd.R_below (by (with_reducible repeat (first | apply Kd.R_alloc | apply Kd.R_drewN | apply Kd.R_drew)); exact HO_3.out) hb); have n1_ := Aside0.mk (Kd.R_below (by (with_reducible repeat (first | apply Kd.R_alloc | apply Kd.R_drewN | apply Kd.R_drew)); exact HO_7.out) hb); have n2_ := Aside0.mk (Kd.R_lower ho0 (below_size (by repeat (first | (with_reducible first | exact HB.out | apply below_alloc | apply pw_below_drewN | apply below_drew1) | exact HB.out)))); have n3_ := Aside0.mk (Kd.R_lower ho1 (below_size (by repeat (first | (with_reducible first | exact HB.out | apply below_alloc | apply pw_below_drewN | apply below_drew1) | exact HB.out)))); have n4_ := Aside0.mk (Kd.R_lower ho2 (below_size (by repeat (first | (with_reducible first | exact HB.out | apply below_alloc | apply pw_below_drewN | apply below_drew1) | exact HB.out)))); have n5_ := Aside0.mk (below_step (by repeat (first | (with_reducible first | exact HB.out | apply below_alloc | apply pw_below_drewN | apply below_drew1) | exact HB.out)) hb); clear HO_3; clear HO_7; clear HB; have HO_3 := n0_; have HO_7 := n1_; have HO126 := n2_; have HO129 := n3_; have HO132 := n4_; have HB := n5_; clear n0_ n1_ n2_ n3_ n4_ n5_; (try clear hb); (try clear hb2); (try clear hk); (try clear hi); (try clear ho0); (try clear ho1); (try clear ho2)) | ((with_reducible refine gate_dst (N := 10) rfl ?_); (try (refine gate_guard (by rfl) ?_; dsimp only)); refine box_event ?hg (N := 10) ?hd (cs := #[.string (⟨#[]⟩ : ByteArray), .slice none 0 0, .slice none 0 0, .slice none 0 0]) (t := 29) ?hr ?_; (case hd => rfl); (case hg => rfl); (case hr => first | (go_simp; done) | (go_simp; rfl)); intro gb137 hg w40 hbox hb; have n0_ := Aside0.mk (Kd.R_below (by (with_reducible repeat (first | apply Kd.R_alloc | apply Kd.R_drewN | apply Kd.R_drew)); exact HO_3.out) hb); have n1_ := Aside0.mk (Kd.R_below (by (with_reducible repeat (first | apply Kd.R_alloc | apply Kd.R_drewN | apply Kd.R_drew)); exact HO_7.out) hb); have n2_ := Aside0.mk (Kd.R_below (by (with_reducible repeat (first | apply Kd.R_alloc | apply Kd.R_drewN | apply Kd.R_drew)); exact HO126.out) hb); have n3_ := Aside0.mk (Kd.R_below (by (with_reducible repeat (first | apply Kd.R_alloc | apply Kd.R_drewN | apply Kd.R_drew)); exact HO129.out) hb); have n4_ := Aside0.mk (Kd.R_below (by (with_reducible repeat (first | apply Kd.R_alloc | apply Kd.R_drewN | apply Kd.R_drew)); exact HO132.out) hb); have n5_ := Aside0.mk (below_step (by repeat (first | (with_reducible first | exact HB.out | apply below_alloc | apply pw_below_drewN | apply below_drew1) | exact HB.out)) hb); have n6_ := Aside0.mk (hbox); have n7_ := Aside0.mk ((by rw [hg]; exact (below_size (by repeat (first | (with_reducible first | exact HB.out | apply below_alloc | apply pw_below_drewN | apply below_drew1) | exact HB.out))) : w.heap.size ≤ gb137)); have n8_ := Aside0.mk ((by rw [hg]; exact (below_size (by repeat (first | (with_reducible first | exact HB.out | apply below_alloc | apply pw_below_drewN | apply below_drew1) | exact HB.out))) : w.heap.size ≤ gb137)); clear HO_3; clear HO_7; clear HO126; clear HO129; clear HO132; clear HB; have HO_3 := n0_; have HO_7 := n1_; have HO126 := n2_; have HO129 := n3_; have HO132 := n4_; have HB := n5_; have BK137 := n6_; have GW137 := n7_; have GE137 := n8_; clear n0_ n1_ n2_ n3_ n4_ n5_ n6_ n7_ n8_; clear hb hbox hg) | ((with_reducible refine gate_dst (N := 11) rfl ?_); (try (refine gate_guard (by rfl) ?_; dsimp only)); refine box_event ?hg (N := 11) ?hd (cs := #[.int .i64 0, .int .i64 0, .int .i64 0, .string (⟨#[]⟩ : ByteArray)]) (t := 32) ?hr ?_; (case hd => rfl); (case hg => rfl); (case hr => first | (go_simp; done) | (go_simp; rfl)); intro gb138 hg w41 hbox hb; have n0_ := Aside0.mk (Kd.R_below (by (with_reducible repeat (first | apply Kd.R_alloc | apply Kd.R_drewN | apply Kd.R_drew)); exact HO_3.out) hb); have n1_ := Aside0.mk (Kd.R_below (by (with_reducible repeat (first | apply Kd.R_alloc | apply Kd.R_drewN | apply Kd.R_drew)); exact HO_7.out) hb); have n2_ := Aside0.mk (Kd.R_below (by (with_reducible repeat (first | apply Kd.R_alloc | apply Kd.R_drewN | apply Kd.R_drew)); exact HO126.out) hb); have n3_ := Aside0.mk (Kd.R_below (by (with_reducible repeat (first | apply Kd.R_alloc | apply Kd.R_drewN | apply Kd.R_drew)); exact HO129.out) hb); have n4_ := Aside0.mk (Kd.R_below (by (with_reducible repeat (first | apply Kd.R_alloc | apply Kd.R_drewN | apply Kd.R_drew)); exact HO132.out) hb); have n5_ := Aside0.mk (blk_below (g := gb137) (o := .cells #[.string (⟨#[]⟩ : ByteArray), .slice none 0 0, .slice none 0 0, .slice none 0 0] 29 (0, 0)) (by (with_reducible repeat (first | refine blk_drewN ?_ _ | refine blk_drew ?_ | refine blk_alloc ?_ _)); exact BK137.out) hb); have n6_ := Aside0.mk (below_step (by repeat (first | (with_reducible first | exact HB.out | apply below_alloc | apply pw_below_drewN | apply below_drew1 | refine below_set ?_ GE137.out) | exact HB.out)) hb); have n7_ := Aside0.mk (hbox); have n8_ := Aside0.mk ((by rw [hg]; exact (below_size (by repeat (first | (with_reducible first | exact HB.out | apply below_alloc | apply pw_below_drewN | apply below_drew1 | refine below_set ?_ GE137.out) | exact HB.out))) : w.heap.size ≤ gb138)); have n9_ := Aside0.mk ((by rw [hg]; exact (below_size (by repeat (first | (with_reducible first | exact HB.out | apply below_alloc | apply pw_below_drewN | apply below_drew1 | refine below_set ?_ GE137.out) | exact HB.out))) : w.heap.size ≤ gb138)); have n10_ := Aside0.mk ((by rw [hg]; exact Nat.ne_of_lt (blk_lt (g := gb137) (o := .cells #[.string (⟨#[]⟩ : ByteArray), .slice none 0 0, .slice none 0 0, .slice none 0 0] 29 (0, 0)) (by (with_reducible repeat (first | refine blk_drewN ?_ _ | refine blk_drew ?_ | refine blk_alloc ?_ _)); exact BK137.out)) : gb137 ≠ gb138)); have n11_ := Aside0.mk ((by rw [hg]; exact Nat.ne_of_gt (blk_lt (g := gb137) (o := .cells #[.string (⟨#[]⟩ : ByteArray), .slice none 0 0, .slice none 0 0, .slice none 0 0] 29 (0, 0)) (by (with_reducible repeat (first | refine blk_drewN ?_ _ | refine blk_drew ?_ | refine blk_alloc ?_ _)); exact BK137.out)) : gb138 ≠ gb137)); clear HO_3; clear HO_7; clear HO126; clear HO129; clear HO132; clear BK137; clear HB; have HO_3 := n0_; have HO_7 := n1_; have HO126 := n2_; have HO129 := n3_; have HO132 := n4_; have BK137 := n5_; have HB := n6_; have BK138 := n7_; have GW138 := n8_; have GE138 := n9_; have NB137_138 := n10_; have NB138_137 := n11_; clear n0_ n1_ n2_ n3_ n4_ n5_ n6_ n7_ n8_ n9_ n10_ n11_; clear hb hbox hg; have hnb42 := NB137_138.out; have hnc42 := NB138_137.out; have hcz43_0 : w41.cell? ⟨gb137, 0, none⟩ = some (.string (⟨#[]⟩ : ByteArray)) := (blk_cell BK137.out 0).trans rfl; have hcz43_1 : w41.cell? ⟨gb137, 1, none⟩ = some (.slice none 0 0) := (blk_cell BK137.out 1).trans rfl; have hcz43_2 : w41.cell? ⟨gb137, 2, none⟩ = some (.slice none 0 0) := (blk_cell BK137.out 2).trans rfl; have hcz43_3 : w41.cell? ⟨gb137, 3, none⟩ = some (.slice none 0 0) := (blk_cell BK137.out 3).trans rfl; have hfz43_0 := blk_frozen BK137.out 0; have hfz43_1 := blk_frozen BK137.out 1; have hfz43_2 := blk_frozen BK137.out 2; have hfz43_3 := blk_frozen BK137.out 3; obtain ⟨Ao44, co44, eo44⟩ := Kd.R_slice HO126.out; subst eo44; obtain ⟨Ao45, co45, eo45⟩ := Kd.R_slice HO129.out; subst eo45; obtain ⟨Ao46, co46, eo46⟩ := Kd.R_slice HO132.out; subst eo46; have hcz47_0 : w41.cell? ⟨gb138, 0, none⟩ = some (.int .i64 0) := (blk_cell BK138.out 0).trans rfl; have hcz47_1 : w41.cell? ⟨gb138, 1, none⟩ = some (.int .i64 0) := (blk_cell BK138.out 1).trans rfl; have hcz47_2 : w41.cell? ⟨gb138, 2, none⟩ = some (.int .i64 0) := (blk_cell BK138.out 2).trans rfl; have hcz47_3 : w41.cell? ⟨gb138, 3, none⟩ = some (.string (⟨#[]⟩ : ByteArray)) := (blk_cell BK138.out 3).trans rfl; have hfz47_0 := blk_frozen BK138.out 0; have hfz47_1 := blk_frozen BK138.out 1; have hfz47_2 := blk_frozen BK138.out 2; have hfz47_3 := blk_frozen BK138.out 3) | ((with_reducible refine gate_callee (f := 9) rfl ?_); refine goesL_ (some 85) rfl rfl Tryd.func9 (by kernel_rfl) rfl #[.string (strOfNums x8_1)] rfl (by (try simp only [List.map_toArray, List.map_cons, List.map_nil]); first | done | rfl | (simp only [List.length_drop, List.length_take]; rfl)) ?_; (with_reducible refine (parse_Parse.calls kj21 (strOfNums x8_1) t139 t140 t143 t146 t149 t150 t151 t152 _ A34.out (LaidW.below HL.out (by repeat (first | (with_reducible first | exact HB.out | apply below_alloc | apply pw_below_drewN | apply below_drew1 | refine below_set ?_ GE137.out | refine below_set ?_ GE138.out) | exact HB.out | exact Below.refl _ _)))).mono ?_); rintro e w48 ⟨v141, v144, v147, rfl, ho0, ho1, ho2, hb⟩; refine ⟨_, rfl, ?_⟩; have n0_ := Aside0.mk (Kd.R_below (R_two HO_3.out BK137.out BK138.out (by decide) (by decide)) hb); have n1_ := Aside0.mk (Kd.R_below (R_two HO_7.out BK137.out BK138.out (by decide) (by decide)) hb); have n2_ := Aside0.mk (Kd.R_below (R_two HO126.out BK137.out BK138.out (by decide) (by decide)) hb); have n3_ := Aside0.mk (Kd.R_below (R_two HO129.out BK137.out BK138.out (by decide) (by decide)) hb); have n4_ := Aside0.mk (Kd.R_below (R_two HO132.out BK137.out BK138.out (by decide) (by decide)) hb); have n5_ := Aside0.mk (Kd.R_lower ho0 (below_size (by repeat (first | (with_reducible first | exact HB.out | apply below_alloc | apply pw_below_drewN | apply below_drew1 | refine below_set ?_ GE137.out | refine below_set ?_ GE138.out) | exact HB.out)))); have n6_ := Aside0.mk (Kd.R_lower ho1 (below_size (by repeat (first | (with_reducible first | exact HB.out | apply below_alloc | apply pw_below_drewN | apply below_drew1 | refine below_set ?_ GE137.out | refine below_set ?_ GE138.out) | exact HB.out)))); have n7_ := Aside0.mk (Kd.R_lower ho2 (below_size (by repeat (first | (with_reducible first | exact HB.out | apply below_alloc | apply pw_below_drewN | apply below_drew1 | refine below_set ?_ GE137.out | refine below_set ?_ GE138.out) | exact HB.out)))); have n8_ := Aside0.mk (blk_below (blk_two1 BK137.out NB137_138.out) hb); have n9_ := Aside0.mk (blk_below (blk_two2 BK138.out NB138_137.out) hb); have n10_ := Aside0.mk (below_step (by repeat (first | (with_reducible first | exact HB.out | apply below_alloc | apply pw_below_drewN | apply below_drew1 | refine below_set ?_ GE137.out | refine below_set ?_ GE138.out) | exact HB.out)) hb); clear HO_3; clear HO_7; clear HO126; clear HO129; clear HO132; clear BK137; clear BK138; clear HB; have HO_3 := n0_; have HO_7 := n1_; have HO126 := n2_; have HO129 := n3_; have HO132 := n4_; have HO142 := n5_; have HO145 := n6_; have HO148 := n7_; have BK137 := n8_; have BK138 := n9_; have HB := n10_; clear n0_ n1_ n2_ n3_ n4_ n5_ n6_ n7_ n8_ n9_ n10_; (try clear hb); (try clear hb2); (try clear hk); (try clear hi); (try clear ho0); (try clear ho1); (try clear ho2)) | ((with_reducible refine gate_dst (N := 12) rfl ?_); (try (refine gate_guard (by rfl) ?_; dsimp only)); refine box_event ?hg (N := 12) ?hd (cs := #[.string (⟨#[]⟩ : ByteArray), .slice none 0 0, .slice none 0 0, .slice none 0 0]) (t := 29) ?hr ?_; (case hd => rfl); (case hg => rfl); (case hr => first | (go_simp; done) | (go_simp; rfl)); intro gb153 hg w49 hbox hb; have n0_ := Aside0.mk (Kd.R_below (by (with_reducible repeat (first | apply Kd.R_alloc | apply Kd.R_drewN | apply Kd.R_drew)); exact HO_3.out) hb); have n1_ := Aside0.mk (Kd.R_below (by (with_reducible repeat (first | apply Kd.R_alloc | apply Kd.R_drewN | apply Kd.R_drew)); exact HO_7.out) hb); have n2_ := Aside0.mk (Kd.R_below (by (with_reducible repeat (first | apply Kd.R_alloc | apply Kd.R_drewN | apply Kd.R_drew)); exact HO126.out) hb); have n3_ := Aside0.mk (Kd.R_below (by (with_reducible repeat (first | apply Kd.R_alloc | apply Kd.R_drewN | apply Kd.R_drew)); exact HO129.out) hb); have n4_ := Aside0.mk (Kd.R_below (by (with_reducible repeat (first | apply Kd.R_alloc | apply Kd.R_drewN | apply Kd.R_drew)); exact HO132.out) hb); have n5_ := Aside0.mk (Kd.R_below (by (with_reducible repeat (first | apply Kd.R_alloc | apply Kd.R_drewN | apply Kd.R_drew)); exact HO142.out) hb); have n6_ := Aside0.mk (Kd.R_below (by (with_reducible repeat (first | apply Kd.R_alloc | apply Kd.R_drewN | apply Kd.R_drew)); exact HO145.out) hb); have n7_ := Aside0.mk (Kd.R_below (by (with_reducible repeat (first | apply Kd.R_alloc | apply Kd.R_drewN | apply Kd.R_drew)); exact HO148.out) hb); have n8_ := Aside0.mk (blk_below (g := gb137) (o := .cells #[.string t123, .slice Ao44 t124.length co44, .slice Ao45 t127.length co45, .slice Ao46 t130.length co46] 29 (0, 0)) (by (with_reducible repeat (first | refine blk_drewN ?_ _ | refine blk_drew ?_ | refine blk_alloc ?_ _)); exact BK137.out) hb); have n9_ := Aside0.mk (blk_below (g := gb138) (o := .cells #[.int .i64 t133, .int .i64 t134, .int .i64 t135, .string t136] 32 (0, 0)) (by (with_reducible repeat (first | refine blk_drewN ?_ _ | refine blk_drew ?_ | refine blk_alloc ?_ _)); exact BK138.out) hb); have n10_ := Aside0.mk (below_step (by repeat (first | (with_reducible first | exact HB.out | apply below_alloc | apply pw_below_drewN | apply below_drew1 | refine below_set ?_ GE137.out | refine below_set ?_ GE138.out) | exact HB.out)) hb); have n11_ := Aside0.mk (hbox); have n12_ := Aside0.mk ((by rw [hg]; exact (below_size (by repeat (first | (with_reducible first | exact HB.out | apply below_alloc | apply pw_below_drewN | apply below_drew1 | refine below_set ?_ GE137.out | refine below_set ?_ GE138.out) | exact HB.out))) : w.heap.size ≤ gb153)); have n13_ := Aside0.mk ((by rw [hg]; exact (below_size (by repeat (first | (with_reducible first | exact HB.out | apply below_alloc | apply pw_below_drewN | apply below_drew1 | refine below_set ?_ GE137.out | refine below_set ?_ GE138.out) | exact HB.out))) : w.heap.size ≤ gb153)); have n14_ := Aside0.mk ((by rw [hg]; exact Nat.ne_of_lt (blk_lt (g := gb137) (o := .cells #[.string t123, .slice Ao44 t124.length co44, .slice Ao45 t127.length co45, .slice Ao46 t130.length co46] 29 (0, 0)) (by (with_reducible repeat (first | refine blk_drewN ?_ _ | refine blk_drew ?_ | refine blk_alloc ?_ _)); exact BK137.out)) : gb137 ≠ gb153)); have n15_ := Aside0.mk ((by rw [hg]; exact Nat.ne_of_gt (blk_lt (g := gb137) (o := .cells #[.string t123, .slice Ao44 t124.length co44, .slice Ao45 t127.length co45, .slice Ao46 t130.length co46] 29 (0, 0)) (by (with_reducible repeat (first | refine blk_drewN ?_ _ | refine blk_drew ?_ | refine blk_alloc ?_ _)); exact BK137.out)) : gb153 ≠ gb137)); have n16_ := Aside0.mk ((by rw [hg]; exact Nat.ne_of_lt (blk_lt (g := gb138) (o := .cells #[.int .i64 t133, .int .i64 t134, .int .i64 t135, .string t136] 32 (0, 0)) (by (with_reducible repeat (first | refine blk_drewN ?_ _ | refine blk_drew ?_ | refine blk_alloc ?_ _)); exact BK138.out)) : gb138 ≠ gb153)); have n17_ := Aside0.mk ((by rw [hg]; exact Nat.ne_of_gt (blk_lt (g := gb138) (o := .cells #[.int .i64 t133, .int .i64 t134, .int .i64 t135, .string t136] 32 (0, 0)) (by (with_reducible repeat (first | refine blk_drewN ?_ _ | refine blk_drew ?_ | refine blk_alloc ?_ _)); exact BK138.out)) : gb153 ≠ gb138)); clear HO_3; clear HO_7; clear HO126; clear HO129; clear HO132; clear HO142; clear HO145; clear HO148; clear BK137; clear BK138; clear HB; have HO_3 := n0_; have HO_7 := n1_; have HO126 := n2_; have HO129 := n3_; have HO132 := n4_; have HO142 := n5_; have HO145 := n6_; have HO148 := n7_; have BK137 := n8_; have BK138 := n9_; have HB := n10_; have BK153 := n11_; have GW153 := n12_; have GE153 := n13_; have NB137_153 := n14_; have NB153_137 := n15_; have NB138_153 := n16_; have NB153_138 := n17_; clear n0_ n1_ n2_ n3_ n4_ n5_ n6_ n7_ n8_ n9_ n10_ n11_ n12_ n13_ n14_ n15_ n16_ n17_; clear hb hbox hg) | ((with_reducible refine gate_dst (N := 13) rfl ?_); (try (refine gate_guard (by rfl) ?_; dsimp only)); refine box_event ?hg (N := 13) ?hd (cs := #[.int .i64 0, .int .i64 0, .int .i64 0, .string (⟨#[]⟩ : ByteArray)]) (t := 32) ?hr ?_; (case hd => rfl); (case hg => rfl); (case hr => first | (go_simp; done) | (go_simp; rfl)); intro gb154 hg w50 hbox hb; have n0_ := Aside0.mk (Kd.R_below (by (with_reducible repeat (first | apply Kd.R_alloc | apply Kd.R_drewN | apply Kd.R_drew)); exact HO_3.out) hb); have n1_ := Aside0.mk (Kd.R_below (by (with_reducible repeat (first | apply Kd.R_alloc | apply Kd.R_drewN | apply Kd.R_drew)); exact HO_7.out) hb); have n2_ := Aside0.mk (Kd.R_below (by (with_reducible repeat (first | apply Kd.R_alloc | apply Kd.R_drewN | apply Kd.R_drew)); exact HO126.out) hb); have n3_ := Aside0.mk (Kd.R_below (by (with_reducible repeat (first | apply Kd.R_alloc | apply Kd.R_drewN | apply Kd.R_drew)); exact HO129.out) hb); have n4_ := Aside0.mk (Kd.R_below (by (with_reducible repeat (first | apply Kd.R_alloc | apply Kd.R_drewN | apply Kd.R_drew)); exact HO132.out) hb); have n5_ := Aside0.mk (Kd.R_below (by (with_reducible repeat (first | apply Kd.R_alloc | apply Kd.R_drewN | apply Kd.R_drew)); exact HO142.out) hb); have n6_ := Aside0.mk (Kd.R_below (by (with_reducible repeat (first | apply Kd.R_alloc | apply Kd.R_drewN | apply Kd.R_drew)); exact HO145.out) hb); have n7_ := Aside0.mk (Kd.R_below (by (with_reducible repeat (first | apply Kd.R_alloc | apply Kd.R_drewN | apply Kd.R_drew)); exact HO148.out) hb); have n8_ := Aside0.mk (blk_below (g := gb137) (o := .cells #[.string t123, .slice Ao44 t124.length co44, .slice Ao45 t127.length co45, .slice Ao46 t130.length co46] 29 (0, 0)) (by (with_reducible repeat (first | refine blk_drewN ?_ _ | refine blk_drew ?_ | refine blk_alloc ?_ _)); exact BK137.out) hb); have n9_ := Aside0.mk (blk_below (g := gb138) (o := .cells #[.int .i64 t133, .int .i64 t134, .int .i64 t135, .string t136] 32 (0, 0)) (by (with_reducible repeat (first | refine blk_drewN ?_ _ | refine blk_drew ?_ | refine blk_alloc ?_ _)); exact BK138.out) hb); have n10_ := Aside0.mk (blk_below (g := gb153) (o := .cells #[.string (⟨#[]⟩ : ByteArray), .slice none 0 0, .slice none 0 0, .slice none 0 0] 29 (0, 0)) (by (with_reducible repeat (first | refine blk_drewN ?_ _ | refine blk_drew ?_ | refine blk_alloc ?_ _)); exact BK153.out) hb); have n11_ := Aside0.mk (below_step (by repeat (first | (with_reducible first | exact HB.out | apply below_alloc | apply pw_below_drewN | apply below_drew1 | refine below_set ?_ GE137.out | refine below_set ?_ GE138.out | refine below_set ?_ GE153.out) | exact HB.out)) hb); have n12_ := Aside0.mk (hbox); have n13_ := Aside0.mk ((by rw [hg]; exact (below_size (by repeat (first | (with_reducible first | exact HB.out | apply below_alloc | apply pw_below_drewN | apply below_drew1 | refine below_set ?_ GE137.out | refine below_set ?_ GE138.out | refine below_set ?_ GE153.out) | exact HB.out))) : w.heap.size ≤ gb154)); have n14_ := Aside0.mk ((by rw [hg]; exact (below_size (by repeat (first | (with_reducible first | exact HB.out | apply below_alloc | apply pw_below_drewN | apply below_drew1 | refine below_set ?_ GE137.out | refine below_set ?_ GE138.out | refine below_set ?_ GE153.out) | exact HB.out))) : w.heap.size ≤ gb154)); have n15_ := Aside0.mk ((by rw [hg]; exact Nat.ne_of_lt (blk_lt (g := gb137) (o := .cells #[.string t123, .slice Ao44 t124.length co44, .slice Ao45 t127.length co45, .slice Ao46 t130.length co46] 29 (0, 0)) (by (with_reducible repeat (first | refine blk_drewN ?_ _ | refine blk_drew ?_ | refine blk_alloc ?_ _)); exact BK137.out)) : gb137 ≠ gb154)); have n16_ := Aside0.mk ((by rw [hg]; exact Nat.ne_of_gt (blk_lt (g := gb137) (o := .cells #[.string t123, .slice Ao44 t124.length co44, .slice Ao45 t127.length co45, .slice Ao46 t130.length co46] 29 (0, 0)) (by (with_reducible repeat (first | refine blk_drewN ?_ _ | refine blk_drew ?_ | refine blk_alloc ?_ _)); exact BK137.out)) : gb154 ≠ gb137)); have n17_ := Aside0.mk ((by rw [hg]; exact Nat.ne_of_lt (blk_lt (g := gb138) (o := .cells #[.int .i64 t133, .int .i64 t134, .int .i64 t135, .string t136] 32 (0, 0)) (by (with_reducible repeat (first | refine blk_drewN ?_ _ | refine blk_drew ?_ | refine blk_alloc ?_ _)); exact BK138.out)) : gb138 ≠ gb154)); have n18_ := Aside0.mk ((by rw [hg]; exact Nat.ne_of_gt (blk_lt (g := gb138) (o := .cells #[.int .i64 t133, .int .i64 t134, .int .i64 t135, .string t136] 32 (0, 0)) (by (with_reducible repeat (first | refine blk_drewN ?_ _ | refine blk_drew ?_ | refine blk_alloc ?_ _)); exact BK138.out)) : gb154 ≠ gb138)); have n19_ := Aside0.mk ((by rw [hg]; exact Nat.ne_of_lt (blk_lt (g := gb153) (o := .cells #[.string (⟨#[]⟩ : ByteArray), .slice none 0 0, .slice none 0 0, .slice none 0 0] 29 (0, 0)) (by (with_reducible repeat (first | refine blk_drewN ?_ _ | refine blk_drew ?_ | refine blk_alloc ?_ _)); exact BK153.out)) : gb153 ≠ gb154)); have n20_ := Aside0.mk ((by rw [hg]; exact Nat.ne_of_gt (blk_lt (g := gb153) (o := .cells #[.string (⟨#[]⟩ : ByteArray), .slice none 0 0, .slice none 0 0, .slice none 0 0] 29 (0, 0)) (by (with_reducible repeat (first | refine blk_drewN ?_ _ | refine blk_drew ?_ | refine blk_alloc ?_ _)); exact BK153.out)) : gb154 ≠ gb153)); clear HO_3; clear HO_7; clear HO126; clear HO129; clear HO132; clear HO142; clear HO145; clear HO148; clear BK137; clear BK138; clear BK153; clear HB; have HO_3 := n0_; have HO_7 := n1_; have HO126 := n2_; have HO129 := n3_; have HO132 := n4_; have HO142 := n5_; have HO145 := n6_; have HO148 := n7_; have BK137 := n8_; have BK138 := n9_; have BK153 := n10_; have HB := n11_; have BK154 := n12_; have GW154 := n13_; have GE154 := n14_; have NB137_154 := n15_; have NB154_137 := n16_; have NB138_154 := n17_; have NB154_138 := n18_; have NB153_154 := n19_; have NB154_153 := n20_; clear n0_ n1_ n2_ n3_ n4_ n5_ n6_ n7_ n8_ n9_ n10_ n11_ n12_ n13_ n14_ n15_ n16_ n17_ n18_ n19_ n20_; clear hb hbox hg; have hnb51 := NB153_137.out; have hnc51 := NB137_153.out; have hnb52 := NB153_138.out; have hnc52 := NB138_153.out; have hnb53 := NB153_154.out; have hnc53 := NB154_153.out; have hcz54_0 : w50.cell? ⟨gb153, 0, none⟩ = some (.string (⟨#[]⟩ : ByteArray)) := (blk_cell BK153.out 0).trans rfl; have hcz54_1 : w50.cell? ⟨gb153, 1, none⟩ = some (.slice none 0 0) := (blk_cell BK153.out 1).trans rfl; have hcz54_2 : w50.cell? ⟨gb153, 2, none⟩ = some (.slice none 0 0) := (blk_cell BK153.out 2).trans rfl; have hcz54_3 : w50.cell? ⟨gb153, 3, none⟩ = some (.slice none 0 0) := (blk_cell BK153.out 3).trans rfl; have hfz54_0 := blk_frozen BK153.out 0; have hfz54_1 := blk_frozen BK153.out 1; have hfz54_2 := blk_frozen BK153.out 2; have hfz54_3 := blk_frozen BK153.out 3; obtain ⟨Ao55, co55, eo55⟩ := Kd.R_slice HO142.out; subst eo55; obtain ⟨Ao56, co56, eo56⟩ := Kd.R_slice HO145.out; subst eo56; obtain ⟨Ao57, co57, eo57⟩ := Kd.R_slice HO148.out; subst eo57; have hnb58 := NB154_137.out; have hnc58 := NB137_154.out; have hnb59 := NB154_138.out; have hnc59 := NB138_154.out; have hcz60_0 : w50.cell? ⟨gb154, 0, none⟩ = some (.int .i64 0) := (blk_cell BK154.out 0).trans rfl; have hcz60_1 : w50.cell? ⟨gb154, 1, none⟩ = some (.int .i64 0) := (blk_cell BK154.out 1).trans rfl; have hcz60_2 : w50.cell? ⟨gb154, 2, none⟩ = some (.int .i64 0) := (blk_cell BK154.out 2).trans rfl; have hcz60_3 : w50.cell? ⟨gb154, 3, none⟩ = some (.string (⟨#[]⟩ : ByteArray)) := (blk_cell BK154.out 3).trans rfl; have hfz60_0 := blk_frozen BK154.out 0; have hfz60_1 := blk_frozen BK154.out 1; have hfz60_2 := blk_frozen BK154.out 2; have hfz60_3 := blk_frozen BK154.out 3))
           (try simp only [Act.put, List.setIfInBounds_toArray, List.set_cons_zero, List.set_cons_succ])
           go_cut [98] (fun v98 wc => ∃ (kq : Nat) (x98_34 : Bool), v98 = .bool x98_34 ∧ Aside0 (sigillaw5_ParseBlanks.j2 kq t101 y122 x98_34 t133 t134 t135 t136 t149 t150 t151 t152 = some r) ∧ Aside0 (kq ≤ kj21) ∧ Aside0 (Kd.R k42 42 wc w.heap.size (fun k_ => some k_ ≠ ((.slice (some ⟨go32, 0, none⟩) x7_1.length co36) : Value).ownBlock) (.slice Ao23 t101.length co23) t101) ∧ Aside0 (Kd.R k42 42 wc w.heap.size (fun k_ => some k_ ≠ ((.slice Ao23 t101.length co23) : Value).ownBlock) (.slice (some ⟨go32, 0, none⟩) x7_1.length co36) y122) ∧ Aside0 (wc.heap[gb138]? = some (.cells #[.int .i64 t133, .int .i64 t134, .int .i64 t135, .string t136] 32 (0, 0))) ∧ Aside0 (wc.heap[gb154]? = some (.cells #[.int .i64 t149, .int .i64 t150, .int .i64 t151, .string t152] 32 (0, 0))) ∧ Aside0 (Below w.heap.size w wc))
           case first =>
            have H := HC35.out
            clear HC35
            by_cases c61 : t133 = t149
            ·rw [if_pos c61] at H
             have c61b0 : (t133 == t149) = true := beq_iff_eq.mpr c61
             have c61b1 : (t133 != t149) = false := bne_eq_false_iff_eq.mpr c61
             clear c61
             (first | rw [c61b0] | (simp only [i64_w, i32_w]; rw [c61b0]) | skip)
             replace H := Option.bind_eq_some_iff.mp H
             obtain ⟨t155, A620, H⟩ := H
             replace H : (sigillaw5_ParseBlanks.j2 kj21 t101 y122 (!t155) t133 t134 t135 t136 t149 t150 t151 t152) = some r := H
             have A62 := Aside0.mk A620
             clear A620
             have H' := Aside0.mk H
             clear H
             have hnb63 := NB138_137.out
             have hnc63 := NB137_138.out
             have hnb64 := NB138_153.out
             have hnc64 := NB153_138.out
             have hnb65 := NB138_154.out
             have hnc65 := NB154_138.out
             have hcz66_0 : w50.cell? ⟨gb138, 0, none⟩ = some (.int .i64 t133) := (blk_cell BK138.out 0).trans rfl
             have hcz66_1 : w50.cell? ⟨gb138, 1, none⟩ = some (.int .i64 t134) := (blk_cell BK138.out 1).trans rfl
             have hcz66_2 : w50.cell? ⟨gb138, 2, none⟩ = some (.int .i64 t135) := (blk_cell BK138.out 2).trans rfl
             have hcz66_3 : w50.cell? ⟨gb138, 3, none⟩ = some (.string t136) := (blk_cell BK138.out 3).trans rfl
             have hfz66_0 := blk_frozen BK138.out 0
             have hfz66_1 := blk_frozen BK138.out 1
             have hfz66_2 := blk_frozen BK138.out 2
             have hfz66_3 := blk_frozen BK138.out 3
             have hnb67 := NB154_137.out
             have hnc67 := NB137_154.out
             have hnb68 := NB154_153.out
             have hnc68 := NB153_154.out
             have hcz69_0 : w50.cell? ⟨gb154, 0, none⟩ = some (.int .i64 0) := (blk_cell BK154.out 0).trans rfl
             have hcz69_1 : w50.cell? ⟨gb154, 1, none⟩ = some (.int .i64 0) := (blk_cell BK154.out 1).trans rfl
             have hcz69_2 : w50.cell? ⟨gb154, 2, none⟩ = some (.int .i64 0) := (blk_cell BK154.out 2).trans rfl
             have hcz69_3 : w50.cell? ⟨gb154, 3, none⟩ = some (.string (⟨#[]⟩ : ByteArray)) := (blk_cell BK154.out 3).trans rfl
             have hfz69_0 := blk_frozen BK154.out 0
             have hfz69_1 := blk_frozen BK154.out 1
             have hfz69_2 := blk_frozen BK154.out 2
             have hfz69_3 := blk_frozen BK154.out 3
             have hnb70 := NB137_153.out
             have hnc70 := NB153_137.out
             have hcz71_0 : w50.cell? ⟨gb137, 0, none⟩ = some (.string t123) := (blk_cell BK137.out 0).trans rfl
             have hcz71_1 : w50.cell? ⟨gb137, 1, none⟩ = some (.slice Ao44 t124.length co44) := (blk_cell BK137.out 1).trans rfl
             have hcz71_2 : w50.cell? ⟨gb137, 2, none⟩ = some (.slice Ao45 t127.length co45) := (blk_cell BK137.out 2).trans rfl
             have hcz71_3 : w50.cell? ⟨gb137, 3, none⟩ = some (.slice Ao46 t130.length co46) := (blk_cell BK137.out 3).trans rfl
             have hfz71_0 := blk_frozen BK137.out 0
             have hfz71_1 := blk_frozen BK137.out 1
             have hfz71_2 := blk_frozen BK137.out 2
             have hfz71_3 := blk_frozen BK137.out 3
             have hcz72_0 : w50.cell? ⟨gb153, 0, none⟩ = some (.string (⟨#[]⟩ : ByteArray)) := (blk_cell BK153.out 0).trans rfl
             have hcz72_1 : w50.cell? ⟨gb153, 1, none⟩ = some (.slice none 0 0) := (blk_cell BK153.out 1).trans rfl
             have hcz72_2 : w50.cell? ⟨gb153, 2, none⟩ = some (.slice none 0 0) := (blk_cell BK153.out 2).trans rfl
             have hcz72_3 : w50.cell? ⟨gb153, 3, none⟩ = some (.slice none 0 0) := (blk_cell BK153.out 3).trans rfl
             have hfz72_0 := blk_frozen BK153.out 0
             have hfz72_1 := blk_frozen BK153.out 1
             have hfz72_2 := blk_frozen BK153.out 2
             have hfz72_3 := blk_frozen BK153.out 3
             go_wp2_with (first | (go_at_call 11; (with_reducible refine (sigillaw5_SameFile.calls kj21 t123 _ _ t124 _ _ t127 _ _ t130 t139 _ _ t140 _ _ t143 _ _ t146 t155 _ ?side1 ?side2 ?side3 ?side4 ?side5 ?side6 ?side7 ?side8 ?side9 ?side10 ?side11 ?side12 A62.out).mono ?_); (case side1 => exact (Kd.R_reads' (R_two HO126.out BK153.out BK154.out (by decide) (by decide))).2.2); (case side2 => exact (Kd.R_reads' HO126.out).2.1); (case side3 => exact (Kd.R_reads' (R_two HO129.out BK153.out BK154.out (by decide) (by decide))).2.2); (case side4 => exact (Kd.R_reads' HO129.out).2.1); (case side5 => exact (Kd.R_reads' (R_two HO132.out BK153.out BK154.out (by decide) (by decide))).2.2); (case side6 => exact (Kd.R_reads' HO132.out).2.1); (case side7 => exact (Kd.R_reads' (R_two HO142.out BK153.out BK154.out (by decide) (by decide))).2.2); (case side8 => exact (Kd.R_reads' HO142.out).2.1); (case side9 => exact (Kd.R_reads' (R_two HO145.out BK153.out BK154.out (by decide) (by decide))).2.2); (case side10 => exact (Kd.R_reads' HO145.out).2.1); (case side11 => exact (Kd.R_reads' (R_two HO148.out BK153.out BK154.out (by decide) (by decide))).2.2); (case side12 => exact (Kd.R_reads' HO148.out).2.1); rintro e w73 ⟨rfl, hb⟩; have n0_ := Aside0.mk (Kd.R_below (R_two HO_3.out BK153.out BK154.out (by decide) (by decide)) hb); have n1_ := Aside0.mk (Kd.R_below (R_two HO_7.out BK153.out BK154.out (by decide) (by decide)) hb); have n2_ := Aside0.mk (blk_below ((two_far NB138_153.out NB138_154.out).trans BK138.out) hb); have n3_ := Aside0.mk (blk_below (blk_two2 BK154.out NB154_153.out) hb); have n4_ := Aside0.mk (below_step (by repeat (first | (with_reducible first | exact HB.out | apply below_alloc | apply pw_below_drewN | apply below_drew1 | refine below_set ?_ GE137.out | refine below_set ?_ GE138.out | refine below_set ?_ GE153.out | refine below_set ?_ GE154.out) | exact HB.out)) hb); replace HO_3 := n0_; replace HO_7 := n1_; replace BK138 := n2_; replace BK154 := n3_; replace HB := n4_; clear n0_ n1_ n2_ n3_ n4_; (try clear hb); (try clear hb2); (try clear hk); (try clear hi)))
             go_meet
             case rel => exact ⟨_, (!t155), (by first | rfl | (simp; done) | (simp [*]; done)), H', ⟨by have := HK1.out; have := HJ21.out; first | omega | exact Nat.le_refl _⟩, ⟨by (with_reducible repeat (first | apply Kd.R_alloc | apply Kd.R_drewN | apply Kd.R_drew)); exact Kd.R_mono HO_3.out (fun _ hk => hk.2)⟩, ⟨by (with_reducible repeat (first | apply Kd.R_alloc | apply Kd.R_drewN | apply Kd.R_drew)); exact HO_7.out⟩, ⟨by (with_reducible repeat (first | refine blk_drewN ?_ _ | refine blk_drew ?_ | refine blk_alloc ?_ _)); exact BK138.out⟩, ⟨by (with_reducible repeat (first | refine blk_drewN ?_ _ | refine blk_drew ?_ | refine blk_alloc ?_ _)); exact BK154.out⟩, ⟨by repeat (first | (with_reducible first | exact HB.out | apply below_alloc | apply pw_below_drewN | apply below_drew1 | refine below_set ?_ GE137.out | refine below_set ?_ GE138.out | refine below_set ?_ GE153.out | refine below_set ?_ GE154.out) | exact HB.out)⟩⟩
            ·rw [if_neg c61] at H
             exact absurd H (by simp)
           case rest =>
            clear HC35
            obtain ⟨kq, x98_34, rfl, HA, HJ34, HO_3, HO_7, BK138, BK154, HB⟩ := hcut
            have hl7_34 := (Kd.R_reads' HO_7.out).1
            rw [hl7_34] at HO_7
            (try simp only [hl7_34])
            (try simp only [hl7_34] at BK138)
            (try simp only [hl7_34] at BK154)
            (try simp only [hl7_34] at HO_3)
            cases kq with
            | zero => exact absurd HA.out (by simp [sigillaw5_ParseBlanks.j2])
            | succ kj34 =>
             have H := HA.out
             clear HA
             simp only [sigillaw5_ParseBlanks.j2] at H
             by_cases c81 : x98_34 = true
             ·subst c81
              rw [if_pos rfl] at H
              exact absurd H (by simp)
             ·replace c81 := Bool.eq_false_iff.mpr c81
              subst c81
              have H1 : (if t133 = 0 then (if t134 = 0 ∧ t135 = 0 ∧ t136 = ⟨#[]⟩ ∧ t149 = 0 ∧ t150 = 0 ∧ t151 = 0 ∧ t152 = ⟨#[]⟩ then some true else none) else (sigillaw5_ParseBlanks.l1 kj34 t101 y122 0 t133 t134 t135 t136 t149 t150 t151 t152)) = some r := by rw [if_neg (show ¬ (false = true) by decide)] at H; exact H
              clear H
              have H := H1
              clear H1
              by_cases c82 : t133 = 0
              ·rw [if_pos c82] at H
               by_cases cz : t134 = 0 ∧ t135 = 0 ∧ t136 = ⟨#[]⟩ ∧ t149 = 0 ∧ t150 = 0 ∧ t151 = 0 ∧ t152 = ⟨#[]⟩
               ·rw [if_pos cz] at H
                obtain ⟨rfl, rfl, rfl, rfl, rfl, rfl, rfl⟩ := cz
                subst c82
                obtain rfl := Option.some.inj H
                have hq1 : ∀ (w : World), (binOp .eql 32 (.agg #[.int .i64 0, .int .i64 0, .int .i64 0, .string ⟨#[]⟩]) (.agg #[.int .i64 0, .int .i64 0, .int .i64 0, .string ⟨#[]⟩])).run Tryd.prog w = .ok (.bool true) w := fun w => by kernel_rfl
                have hnb83 := NB138_137.out
                have hnc83 := NB137_138.out
                have hnb84 := NB138_153.out
                have hnc84 := NB153_138.out
                have hnb85 := NB138_154.out
                have hnc85 := NB154_138.out
                have hcz86_0 : wc.cell? ⟨gb138, 0, none⟩ = some (.int .i64 0) := (blk_cell BK138.out 0).trans rfl
                have hcz86_1 : wc.cell? ⟨gb138, 1, none⟩ = some (.int .i64 0) := (blk_cell BK138.out 1).trans rfl
                have hcz86_2 : wc.cell? ⟨gb138, 2, none⟩ = some (.int .i64 0) := (blk_cell BK138.out 2).trans rfl
                have hcz86_3 : wc.cell? ⟨gb138, 3, none⟩ = some (.string (⟨#[]⟩ : ByteArray)) := (blk_cell BK138.out 3).trans rfl
                have hfz86_0 := blk_frozen BK138.out 0
                have hfz86_1 := blk_frozen BK138.out 1
                have hfz86_2 := blk_frozen BK138.out 2
                have hfz86_3 := blk_frozen BK138.out 3
                have hnb87 := NB154_137.out
                have hnc87 := NB137_154.out
                have hnb88 := NB154_153.out
                have hnc88 := NB153_154.out
                have hcz89_0 : wc.cell? ⟨gb154, 0, none⟩ = some (.int .i64 0) := (blk_cell BK154.out 0).trans rfl
                have hcz89_1 : wc.cell? ⟨gb154, 1, none⟩ = some (.int .i64 0) := (blk_cell BK154.out 1).trans rfl
                have hcz89_2 : wc.cell? ⟨gb154, 2, none⟩ = some (.int .i64 0) := (blk_cell BK154.out 2).trans rfl
                have hcz89_3 : wc.cell? ⟨gb154, 3, none⟩ = some (.string (⟨#[]⟩ : ByteArray)) := (blk_cell BK154.out 3).trans rfl
                have hfz89_0 := blk_frozen BK154.out 0
                have hfz89_1 := blk_frozen BK154.out 1
                have hfz89_2 := blk_frozen BK154.out 2
                have hfz89_3 := blk_frozen BK154.out 3
                go_wp2
                go_ret
                exact ⟨by first | rfl | (simp [errW_none, errW_some] <;> rfl) | (simp only [← hji29]; first | rfl | (simp [errW_none, errW_some] <;> rfl)) | (simp [*, errW_none, errW_some] <;> rfl), by repeat (first | (with_reducible first | exact HB.out | apply below_alloc | apply pw_below_drewN | apply below_drew1 | refine below_set ?_ GE137.out | refine below_set ?_ GE138.out | refine below_set ?_ GE153.out | refine below_set ?_ GE154.out) | exact HB.out)⟩
               ·rw [if_neg cz] at H
                exact absurd H (by simp)
              ·rw [if_neg c82] at H
               have c82b0 : (t133 == 0) = false := beq_eq_false_iff_ne.mpr c82
               have c82b1 : (t133 != 0) = true := bne_iff_ne.mpr c82
               have H' := Aside0.mk H
               clear H
               have hnb90 := NB138_137.out
               have hnc90 := NB137_138.out
               have hnb91 := NB138_153.out
               have hnc91 := NB153_138.out
               have hnb92 := NB138_154.out
               have hnc92 := NB154_138.out
               have hcz93_0 : wc.cell? ⟨gb138, 0, none⟩ = some (.int .i64 t133) := (blk_cell BK138.out 0).trans rfl
               have hcz93_1 : wc.cell? ⟨gb138, 1, none⟩ = some (.int .i64 t134) := (blk_cell BK138.out 1).trans rfl
               have hcz93_2 : wc.cell? ⟨gb138, 2, none⟩ = some (.int .i64 t135) := (blk_cell BK138.out 2).trans rfl
               have hcz93_3 : wc.cell? ⟨gb138, 3, none⟩ = some (.string t136) := (blk_cell BK138.out 3).trans rfl
               have hfz93_0 := blk_frozen BK138.out 0
               have hfz93_1 := blk_frozen BK138.out 1
               have hfz93_2 := blk_frozen BK138.out 2
               have hfz93_3 := blk_frozen BK138.out 3
               go_wp2
               go_loopg [14] kj34 (fun kq v14 w' => ∃ (x14_4 : Int), v14 = .int .i64 x14_4 ∧ Aside0 (sigillaw5_ParseBlanks.l1 kq t101 y122 x14_4 t133 t134 t135 t136 t149 t150 t151 t152 = some r) ∧ Aside0 (kq ≤ kj34) ∧ Aside0 (Kd.R k42 42 w' w.heap.size (fun k_ => some k_ ≠ ((.slice (some ⟨go32, 0, none⟩) y122.length co36) : Value).ownBlock) (.slice Ao23 t101.length co23) t101) ∧ Aside0 (Kd.R k42 42 w' w.heap.size (fun k_ => some k_ ≠ ((.slice Ao23 t101.length co23) : Value).ownBlock) (.slice (some ⟨go32, 0, none⟩) y122.length co36) y122) ∧ Aside0 (w'.heap[gb138]? = some (.cells #[.int .i64 t133, .int .i64 t134, .int .i64 t135, .string t136] 32 (0, 0))) ∧ Aside0 (w'.heap[gb154]? = some (.cells #[.int .i64 t149, .int .i64 t150, .int .i64 t151, .string t152] 32 (0, 0))) ∧ Aside0 (Below w.heap.size w w'))
               case atStart => exact ⟨(0), (by first | rfl | (simp; done) | (simp [*]; done)), H', ⟨Nat.le_refl _⟩, ⟨by (try simp only [hl7_34]); (with_reducible repeat (first | apply Kd.R_alloc | apply Kd.R_drewN | apply Kd.R_drew)); exact HO_3.out⟩, ⟨by (try simp only [hl7_34]); (with_reducible repeat (first | apply Kd.R_alloc | apply Kd.R_drewN | apply Kd.R_drew)); exact HO_7.out⟩, ⟨by (try simp only [hl7_34]); (with_reducible repeat (first | refine blk_drewN ?_ _ | refine blk_drew ?_ | refine blk_alloc ?_ _)); exact BK138.out⟩, ⟨by (try simp only [hl7_34]); (with_reducible repeat (first | refine blk_drewN ?_ _ | refine blk_drew ?_ | refine blk_alloc ?_ _)); exact BK154.out⟩, ⟨by repeat (first | (with_reducible first | exact HB.out | apply below_alloc | apply pw_below_drewN | apply below_drew1 | refine below_set ?_ GE137.out | refine below_set ?_ GE138.out | refine below_set ?_ GE153.out | refine below_set ?_ GE154.out) | exact HB.out)⟩⟩
               case round =>
                clear H'
                obtain ⟨x14_4, rfl, HA, HK4, HO_3, HO_7, BK138, BK154, HB⟩ := hrel
                cases gk with
                | zero => exact absurd HA.out (by simp [sigillaw5_ParseBlanks.l1])
                | succ k4 =>
                 have H := HA.out
                 clear HA
                 simp only [sigillaw5_ParseBlanks.l1] at H
                 by_cases c94 : x14_4 < (t101.length : Int)
                 ·rw [if_pos c94] at H
                  have c94b0 : decide (x14_4 < (t101.length : Int)) = true := decide_eq_true c94
                  clear c94
                  by_cases c95 : 0 ≤ x14_4
                  ·rw [if_pos c95] at H
                   have c95b0 : decide (0 ≤ x14_4) = true := decide_eq_true c95
                   clear c95
                   by_cases c96 : ((rd_T42 t101 x14_4).f1) = t135
                   ·rw [if_pos c96] at H
                    have c96b0 : (((rd_T42 t101 x14_4).f1) == t135) = true := beq_iff_eq.mpr c96
                    have c96b1 : (((rd_T42 t101 x14_4).f1) != t135) = false := bne_eq_false_iff_eq.mpr c96
                    clear c96
                    by_cases c97 : x14_4 < (y122.length : Int)
                    ·rw [if_pos c97] at H
                     have c97b0 : decide (x14_4 < (y122.length : Int)) = true := decide_eq_true c97
                     clear c97
                     obtain rfl := Option.some.inj H
                     try go_wp2
                     have n0_ := Aside0.mk (Kd.R_drew HO_3.out)
                     have n1_ := Aside0.mk (Kd.R_drew HO_7.out)
                     have n9_ := Aside0.mk (blk_drew BK138.out)
                     have n11_ := Aside0.mk (blk_drew BK154.out)
                     have n12_ := Aside0.mk (below_drew1 HB.out)
                     clear HO_3
                     clear HO_7
                     clear BK138
                     clear BK154
                     clear HB
                     have HO_3 := n0_
                     have HO_7 := n1_
                     have BK138 := n9_
                     have BK154 := n11_
                     have HB := n12_
                     clear n0_ n1_ n9_ n11_ n12_
                     have p156 : 0 ≤ (x14_4 : Int) := of_decide_eq_true (by first | (with_reducible assumption) | assumption)
                     have q156 : x14_4 < (t101.length : Int) := of_decide_eq_true (by first | (with_reducible assumption) | assumption)
                     obtain ⟨ad156, e156, hx156_0, hx156_1, hx156_2⟩ := at_T42 (Kd.R_reads' HO_3.out).2.2 x14_4 p156 q156
                     cases e156
                     replace p156 := eq_true p156
                     replace q156 := eq_true q156
                     refine start_ (n := 8) (S := fun w' => w'.cell? ⟨gb138, 0, none⟩ = some (.int .i64 t133) ∧ w'.cell? ⟨gb138, 1, none⟩ = some (.int .i64 t134) ∧ w'.cell? ⟨gb138, 2, none⟩ = some (.int .i64 t135) ∧ w'.cell? ⟨gb138, 3, none⟩ = some (.string t136) ∧ w'.cell? (ad156.add ((x14_4).toNat * 3)) = some (.int .i64 ((rd_T42 t101 x14_4).f0)) ∧ w'.cell? ⟨(ad156.add ((x14_4).toNat * 3)).block, (ad156.add ((x14_4).toNat * 3)).off + 1, none⟩ = some (.int .i64 ((rd_T42 t101 x14_4).f1)) ∧ w'.cell? ⟨(ad156.add ((x14_4).toNat * 3)).block, (ad156.add ((x14_4).toNat * 3)).off + 2, none⟩ = some (.string ((rd_T42 t101 x14_4).f2))) (ds := []) #[false, false, false, false, false, false, false, false] (by kernel_rfl) rfl rfl ⟨(blk_cell BK138.out 0).trans rfl, (blk_cell BK138.out 1).trans rfl, (blk_cell BK138.out 2).trans rfl, (blk_cell BK138.out 3).trans rfl, hx156_0, hx156_1, hx156_2⟩ (fun hHeld => ?_); refine with_tabW sigillaw5_ParseBlanks.tab28 sigillaw5_ParseBlanks.bits28 (fun HT_ HW_ => ?_)
                     generalize wr.drew = w98 at HO_3 HO_7 BK138 BK154 HB hx156_0 hx156_1 hx156_2 hHeld ⊢
                     refine pure_ (i := 0) (N := some 111) (v := ?_) (a' := ?_) #[true, false, false, false, false, false, false, false] rfl rfl (any_of HT_.out (by kernel_rfl)) (fun _ _ _ h => h) (Or.inl ⟨by rfl, ?_⟩) ?_ ?_
                     rotate_left
                     ·intro w'
                      go_simp
                      with_reducible rfl
                     rotate_left
                     ·simp only [Act.put, List.setIfInBounds_toArray, List.set_cons_zero, List.set_cons_succ, i64_w, i32_w]
                      rfl
                     refine pure_ (i := 1) (N := some 112) (v := ?_) (a' := ?_) #[true, true, false, false, false, false, false, false] rfl rfl (any_of HT_.out (by kernel_rfl)) (fun _ _ _ h => h) (Or.inl ⟨by rfl, ?_⟩) ?_ ?_
                     rotate_left
                     ·intro w'
                      go_simp
                      with_reducible rfl
                     rotate_left
                     ·simp only [Act.put, List.setIfInBounds_toArray, List.set_cons_zero, List.set_cons_succ, i64_w, i32_w]
                      rfl
                     refine pure_ (i := 2) (N := some 113) (v := ?_) (a' := ?_) #[true, true, true, false, false, false, false, false] rfl rfl (any_of HT_.out (by kernel_rfl)) (fun _ _ _ h => h) (Or.inl ⟨by rfl, ?_⟩) ?_ ?_
                     rotate_left
                     ·intro w'
                      go_simp
                      with_reducible rfl
                     rotate_left
                     ·simp only [Act.put, List.setIfInBounds_toArray, List.set_cons_zero, List.set_cons_succ, i64_w, i32_w]
                      rfl
                     refine pure_ (i := 3) (N := some 114) (v := ?_) (a' := ?_) #[true, true, true, true, false, false, false, false] rfl rfl (any_of HT_.out (by kernel_rfl)) (fun _ _ _ h => h) (Or.inl ⟨by rfl, ?_⟩) ?_ ?_
                     rotate_left
                     ·intro w'
                      go_simp
                      with_reducible rfl
                     rotate_left
                     ·simp only [Act.put, List.setIfInBounds_toArray, List.set_cons_zero, List.set_cons_succ, i64_w, i32_w]
                      rfl
                     refine pure_ (i := 5) (N := some 116) (v := ?_) (a' := ?_) #[true, true, true, true, false, true, false, false] rfl rfl (any_of HT_.out (by kernel_rfl)) (fun _ _ _ h => h) (Or.inl ⟨by rfl, ?_⟩) ?_ ?_
                     rotate_left
                     ·intro w'
                      go_simp
                      with_reducible rfl
                     rotate_left
                     ·simp only [Act.put, List.setIfInBounds_toArray, List.set_cons_zero, List.set_cons_succ, i64_w, i32_w]
                      rfl
                     refine take_ (i := 4) (N := some 115) (v := ?_) (a' := ?_) #[true, true, true, true, true, true, false, false] rfl rfl (take_ofW HT_.out HW_.out (by kernel_rfl)) (fun _ _ _ h => h) (Or.inl ⟨by rfl, ?_⟩) hHeld ?_ ?_
                     rotate_left
                     ·rintro w' ⟨s0, s1, s2, s3, s4, s5, s6⟩
                      go_simp
                      with_reducible rfl
                     rotate_left
                     ·simp only [Act.put, List.setIfInBounds_toArray, List.set_cons_zero, List.set_cons_succ, i64_w, i32_w]
                      rfl
                     refine take_ (i := 6) (N := some 117) (v := ?_) (a' := ?_) #[true, true, true, true, true, true, true, false] rfl rfl (take_ofW HT_.out HW_.out (by kernel_rfl)) (fun _ _ _ h => h) (Or.inl ⟨by rfl, ?_⟩) hHeld ?_ ?_
                     rotate_left
                     ·rintro w' ⟨s0, s1, s2, s3, s4, s5, s6⟩
                      go_simp
                      with_reducible rfl
                     rotate_left
                     ·simp only [Act.put, List.setIfInBounds_toArray, List.set_cons_zero, List.set_cons_succ, i64_w, i32_w]
                      rfl
                     refine pure_ (i := 7) (N := some 118) (v := ?_) (a' := ?_) #[true, true, true, true, true, true, true, true] rfl rfl (any_of HT_.out (by kernel_rfl)) (fun _ _ _ h => h) (Or.inl ⟨by rfl, ?_⟩) ?_ ?_
                     rotate_left
                     ·intro w'
                      go_simp
                      with_reducible rfl
                     rotate_left
                     ·simp only [Act.put, List.setIfInBounds_toArray, List.set_cons_zero, List.set_cons_succ, i64_w, i32_w]
                      rfl
                     refine done_ (done_of HT_.out (by kernel_rfl)) ?_
                     try go_wp2
                     have n0_ := Aside0.mk (Kd.R_drew HO_3.out)
                     have n1_ := Aside0.mk (Kd.R_drew HO_7.out)
                     have n9_ := Aside0.mk (blk_drew BK138.out)
                     have n11_ := Aside0.mk (blk_drew BK154.out)
                     have n12_ := Aside0.mk (below_drew1 HB.out)
                     clear HO_3
                     clear HO_7
                     clear BK138
                     clear BK154
                     clear HB
                     have HO_3 := n0_
                     have HO_7 := n1_
                     have BK138 := n9_
                     have BK154 := n11_
                     have HB := n12_
                     clear n0_ n1_ n9_ n11_ n12_
                     have p157 : 0 ≤ (x14_4 : Int) := of_decide_eq_true (by first | (with_reducible assumption) | assumption)
                     have q157 : x14_4 < (y122.length : Int) := of_decide_eq_true (by first | (with_reducible assumption) | assumption)
                     obtain ⟨ad157, e157, hx157_0, hx157_1, hx157_2⟩ := at_T42 (Kd.R_reads' HO_7.out).2.2 x14_4 p157 q157
                     obtain rfl : (⟨go32, 0, none⟩ : Addr) = ad157 := (by injection e157)
                     (first | simp only [add_plain] at hx157_0 | simp only [add_at] at hx157_0 | simp only [Addr.add, Nat.zero_add] at hx157_0 | skip)
                     (first | simp only [add_plain] at hx157_1 | simp only [add_at] at hx157_1 | simp only [Addr.add, Nat.zero_add] at hx157_1 | skip)
                     (first | simp only [add_plain] at hx157_2 | simp only [add_at] at hx157_2 | simp only [Addr.add, Nat.zero_add] at hx157_2 | skip)
                     replace p157 := eq_true p157
                     replace q157 := eq_true q157
                     refine start_ (n := 9) (S := fun w' => w'.cell? ⟨gb154, 0, none⟩ = some (.int .i64 t149) ∧ w'.cell? ⟨gb154, 1, none⟩ = some (.int .i64 t150) ∧ w'.cell? ⟨gb154, 2, none⟩ = some (.int .i64 t151) ∧ w'.cell? ⟨gb154, 3, none⟩ = some (.string t152) ∧ w'.cell? ⟨go32, (x14_4).toNat * 3, none⟩ = some (.int .i64 ((rd_T42 y122 x14_4).f0)) ∧ w'.cell? ⟨go32, (x14_4).toNat * 3 + 1, none⟩ = some (.int .i64 ((rd_T42 y122 x14_4).f1)) ∧ w'.cell? ⟨go32, (x14_4).toNat * 3 + 2, none⟩ = some (.string ((rd_T42 y122 x14_4).f2))) (ds := []) #[false, false, false, false, false, false, false, false, false] (by kernel_rfl) rfl rfl ⟨(blk_cell BK154.out 0).trans rfl, (blk_cell BK154.out 1).trans rfl, (blk_cell BK154.out 2).trans rfl, (blk_cell BK154.out 3).trans rfl, hx157_0, hx157_1, hx157_2⟩ (fun hHeld => ?_); refine with_tabW sigillaw5_ParseBlanks.tab29 sigillaw5_ParseBlanks.bits29 (fun HT_ HW_ => ?_)
                     generalize w98.drew = w99 at HO_3 HO_7 BK138 BK154 HB hx157_0 hx157_1 hx157_2 hHeld ⊢
                     refine pure_ (i := 0) (N := some 119) (v := ?_) (a' := ?_) #[true, false, false, false, false, false, false, false, false] rfl rfl (any_of HT_.out (by kernel_rfl)) (fun _ _ _ h => h) (Or.inl ⟨by rfl, ?_⟩) ?_ ?_
                     rotate_left
                     ·intro w'
                      go_simp
                      with_reducible rfl
                     rotate_left
                     ·simp only [Act.put, List.setIfInBounds_toArray, List.set_cons_zero, List.set_cons_succ, i64_w, i32_w]
                      rfl
                     refine pure_ (i := 1) (N := some 120) (v := ?_) (a' := ?_) #[true, true, false, false, false, false, false, false, false] rfl rfl (any_of HT_.out (by kernel_rfl)) (fun _ _ _ h => h) (Or.inl ⟨by rfl, ?_⟩) ?_ ?_
                     rotate_left
                     ·intro w'
                      go_simp
                      with_reducible rfl
                     rotate_left
                     ·simp only [Act.put, List.setIfInBounds_toArray, List.set_cons_zero, List.set_cons_succ, i64_w, i32_w]
                      rfl
                     refine pure_ (i := 2) (N := some 121) (v := ?_) (a' := ?_) #[true, true, true, false, false, false, false, false, false] rfl rfl (any_of HT_.out (by kernel_rfl)) (fun _ _ _ h => h) (Or.inl ⟨by rfl, ?_⟩) ?_ ?_
                     rotate_left
                     ·intro w'
                      go_simp
                      with_reducible rfl
                     rotate_left
                     ·simp only [Act.put, List.setIfInBounds_toArray, List.set_cons_zero, List.set_cons_succ, i64_w, i32_w]
                      rfl
                     refine pure_ (i := 3) (N := some 122) (v := ?_) (a' := ?_) #[true, true, true, true, false, false, false, false, false] rfl rfl (any_of HT_.out (by kernel_rfl)) (fun _ _ _ h => h) (Or.inl ⟨by rfl, ?_⟩) ?_ ?_
                     rotate_left
                     ·intro w'
                      go_simp
                      with_reducible rfl
                     rotate_left
                     ·simp only [Act.put, List.setIfInBounds_toArray, List.set_cons_zero, List.set_cons_succ, i64_w, i32_w]
                      rfl
                     refine pure_ (i := 5) (N := some 124) (v := ?_) (a' := ?_) #[true, true, true, true, false, true, false, false, false] rfl rfl (any_of HT_.out (by kernel_rfl)) (fun _ _ _ h => h) (Or.inl ⟨by rfl, ?_⟩) ?_ ?_
                     rotate_left
                     ·intro w'
                      go_simp
                      with_reducible rfl
                     rotate_left
                     ·simp only [Act.put, List.setIfInBounds_toArray, List.set_cons_zero, List.set_cons_succ, i64_w, i32_w]
                      rfl
                     refine take_ (i := 4) (N := some 123) (v := ?_) (a' := ?_) #[true, true, true, true, true, true, false, false, false] rfl rfl (take_ofW HT_.out HW_.out (by kernel_rfl)) (fun _ _ _ h => h) (Or.inl ⟨by rfl, ?_⟩) hHeld ?_ ?_
                     rotate_left
                     ·rintro w' ⟨s0, s1, s2, s3, s4, s5, s6⟩
                      go_simp
                      with_reducible rfl
                     rotate_left
                     ·simp only [Act.put, List.setIfInBounds_toArray, List.set_cons_zero, List.set_cons_succ, i64_w, i32_w]
                      rfl
                     refine take_ (i := 6) (N := some 125) (v := ?_) (a' := ?_) #[true, true, true, true, true, true, true, false, false] rfl rfl (take_ofW HT_.out HW_.out (by kernel_rfl)) (fun _ _ _ h => h) (Or.inl ⟨by rfl, ?_⟩) hHeld ?_ ?_
                     rotate_left
                     ·rintro w' ⟨s0, s1, s2, s3, s4, s5, s6⟩
                      go_simp
                      with_reducible rfl
                     rotate_left
                     ·simp only [Act.put, List.setIfInBounds_toArray, List.set_cons_zero, List.set_cons_succ, i64_w, i32_w]
                      rfl
                     refine pure_ (i := 7) (N := some 126) (v := ?_) (a' := ?_) #[true, true, true, true, true, true, true, true, false] rfl rfl (any_of HT_.out (by kernel_rfl)) (fun _ _ _ h => h) (Or.inl ⟨by rfl, ?_⟩) ?_ ?_
                     rotate_left
                     ·intro w'
                      go_simp
                      with_reducible rfl
                     rotate_left
                     ·simp only [Act.put, List.setIfInBounds_toArray, List.set_cons_zero, List.set_cons_succ, i64_w, i32_w]
                      rfl
                     refine pure_ (i := 8) (N := some 2) (v := ?_) (a' := ?_) #[true, true, true, true, true, true, true, true, true] rfl rfl (any_of HT_.out (by kernel_rfl)) (fun _ _ _ h => h) (Or.inl ⟨by rfl, ?_⟩) ?_ ?_
                     rotate_left
                     ·intro w'
                      go_simp
                      with_reducible rfl
                     rotate_left
                     ·simp only [Act.put, List.setIfInBounds_toArray, List.set_cons_zero, List.set_cons_succ, i64_w, i32_w]
                      rfl
                     refine done_ (done_of HT_.out (by kernel_rfl)) ?_
                     try go_wp2
                     go_ret
                     exact ⟨by first | rfl | (simp [errW_none, errW_some] <;> rfl) | (simp only [← hji29]; first | rfl | (simp [errW_none, errW_some] <;> rfl)) | (simp [*, errW_none, errW_some] <;> rfl), by repeat (first | (with_reducible first | exact HB.out | apply below_alloc | apply pw_below_drewN | apply below_drew1 | refine below_set ?_ GE137.out | refine below_set ?_ GE138.out | refine below_set ?_ GE153.out | refine below_set ?_ GE154.out) | exact HB.out)⟩
                    ·rw [if_neg c97] at H
                     exact absurd H (by simp)
                   ·rw [if_neg c96] at H
                    have c96b0 : (((rd_T42 t101 x14_4).f1) == t135) = false := beq_eq_false_iff_ne.mpr c96
                    have c96b1 : (((rd_T42 t101 x14_4).f1) != t135) = true := bne_iff_ne.mpr c96
                    have H' := Aside0.mk H
                    clear H
                    try go_wp2
                    have n0_ := Aside0.mk (Kd.R_drew HO_3.out)
                    have n1_ := Aside0.mk (Kd.R_drew HO_7.out)
                    have n9_ := Aside0.mk (blk_drew BK138.out)
                    have n11_ := Aside0.mk (blk_drew BK154.out)
                    have n12_ := Aside0.mk (below_drew1 HB.out)
                    clear HO_3
                    clear HO_7
                    clear BK138
                    clear BK154
                    clear HB
                    have HO_3 := n0_
                    have HO_7 := n1_
                    have BK138 := n9_
                    have BK154 := n11_
                    have HB := n12_
                    clear n0_ n1_ n9_ n11_ n12_
                    have p156 : 0 ≤ (x14_4 : Int) := of_decide_eq_true (by first | (with_reducible assumption) | assumption)
                    have q156 : x14_4 < (t101.length : Int) := of_decide_eq_true (by first | (with_reducible assumption) | assumption)
                    obtain ⟨ad156, e156, hx156_0, hx156_1, hx156_2⟩ := at_T42 (Kd.R_reads' HO_3.out).2.2 x14_4 p156 q156
                    cases e156
                    replace p156 := eq_true p156
                    replace q156 := eq_true q156
                    refine start_ (n := 8) (S := fun w' => w'.cell? ⟨gb138, 0, none⟩ = some (.int .i64 t133) ∧ w'.cell? ⟨gb138, 1, none⟩ = some (.int .i64 t134) ∧ w'.cell? ⟨gb138, 2, none⟩ = some (.int .i64 t135) ∧ w'.cell? ⟨gb138, 3, none⟩ = some (.string t136) ∧ w'.cell? (ad156.add ((x14_4).toNat * 3)) = some (.int .i64 ((rd_T42 t101 x14_4).f0)) ∧ w'.cell? ⟨(ad156.add ((x14_4).toNat * 3)).block, (ad156.add ((x14_4).toNat * 3)).off + 1, none⟩ = some (.int .i64 ((rd_T42 t101 x14_4).f1)) ∧ w'.cell? ⟨(ad156.add ((x14_4).toNat * 3)).block, (ad156.add ((x14_4).toNat * 3)).off + 2, none⟩ = some (.string ((rd_T42 t101 x14_4).f2))) (ds := []) #[false, false, false, false, false, false, false, false] (by kernel_rfl) rfl rfl ⟨(blk_cell BK138.out 0).trans rfl, (blk_cell BK138.out 1).trans rfl, (blk_cell BK138.out 2).trans rfl, (blk_cell BK138.out 3).trans rfl, hx156_0, hx156_1, hx156_2⟩ (fun hHeld => ?_); refine with_tabW sigillaw5_ParseBlanks.tab28 sigillaw5_ParseBlanks.bits28 (fun HT_ HW_ => ?_)
                    generalize wr.drew = w100 at HO_3 HO_7 BK138 BK154 HB hx156_0 hx156_1 hx156_2 hHeld ⊢
                    refine pure_ (i := 0) (N := some 111) (v := ?_) (a' := ?_) #[true, false, false, false, false, false, false, false] rfl rfl (any_of HT_.out (by kernel_rfl)) (fun _ _ _ h => h) (Or.inl ⟨by rfl, ?_⟩) ?_ ?_
                    rotate_left
                    ·intro w'
                     go_simp
                     with_reducible rfl
                    rotate_left
                    ·simp only [Act.put, List.setIfInBounds_toArray, List.set_cons_zero, List.set_cons_succ, i64_w, i32_w]
                     rfl
                    refine pure_ (i := 1) (N := some 112) (v := ?_) (a' := ?_) #[true, true, false, false, false, false, false, false] rfl rfl (any_of HT_.out (by kernel_rfl)) (fun _ _ _ h => h) (Or.inl ⟨by rfl, ?_⟩) ?_ ?_
                    rotate_left
                    ·intro w'
                     go_simp
                     with_reducible rfl
                    rotate_left
                    ·simp only [Act.put, List.setIfInBounds_toArray, List.set_cons_zero, List.set_cons_succ, i64_w, i32_w]
                     rfl
                    refine pure_ (i := 2) (N := some 113) (v := ?_) (a' := ?_) #[true, true, true, false, false, false, false, false] rfl rfl (any_of HT_.out (by kernel_rfl)) (fun _ _ _ h => h) (Or.inl ⟨by rfl, ?_⟩) ?_ ?_
                    rotate_left
                    ·intro w'
                     go_simp
                     with_reducible rfl
                    rotate_left
                    ·simp only [Act.put, List.setIfInBounds_toArray, List.set_cons_zero, List.set_cons_succ, i64_w, i32_w]
                     rfl
                    refine pure_ (i := 3) (N := some 114) (v := ?_) (a' := ?_) #[true, true, true, true, false, false, false, false] rfl rfl (any_of HT_.out (by kernel_rfl)) (fun _ _ _ h => h) (Or.inl ⟨by rfl, ?_⟩) ?_ ?_
                    rotate_left
                    ·intro w'
                     go_simp
                     with_reducible rfl
                    rotate_left
                    ·simp only [Act.put, List.setIfInBounds_toArray, List.set_cons_zero, List.set_cons_succ, i64_w, i32_w]
                     rfl
                    refine pure_ (i := 5) (N := some 116) (v := ?_) (a' := ?_) #[true, true, true, true, false, true, false, false] rfl rfl (any_of HT_.out (by kernel_rfl)) (fun _ _ _ h => h) (Or.inl ⟨by rfl, ?_⟩) ?_ ?_
                    rotate_left
                    ·intro w'
                     go_simp
                     with_reducible rfl
                    rotate_left
                    ·simp only [Act.put, List.setIfInBounds_toArray, List.set_cons_zero, List.set_cons_succ, i64_w, i32_w]
                     rfl
                    refine take_ (i := 4) (N := some 115) (v := ?_) (a' := ?_) #[true, true, true, true, true, true, false, false] rfl rfl (take_ofW HT_.out HW_.out (by kernel_rfl)) (fun _ _ _ h => h) (Or.inl ⟨by rfl, ?_⟩) hHeld ?_ ?_
                    rotate_left
                    ·rintro w' ⟨s0, s1, s2, s3, s4, s5, s6⟩
                     go_simp
                     with_reducible rfl
                    rotate_left
                    ·simp only [Act.put, List.setIfInBounds_toArray, List.set_cons_zero, List.set_cons_succ, i64_w, i32_w]
                     rfl
                    refine take_ (i := 6) (N := some 117) (v := ?_) (a' := ?_) #[true, true, true, true, true, true, true, false] rfl rfl (take_ofW HT_.out HW_.out (by kernel_rfl)) (fun _ _ _ h => h) (Or.inl ⟨by rfl, ?_⟩) hHeld ?_ ?_
                    rotate_left
                    ·rintro w' ⟨s0, s1, s2, s3, s4, s5, s6⟩
                     go_simp
                     with_reducible rfl
                    rotate_left
                    ·simp only [Act.put, List.setIfInBounds_toArray, List.set_cons_zero, List.set_cons_succ, i64_w, i32_w]
                     rfl
                    refine pure_ (i := 7) (N := some 118) (v := ?_) (a' := ?_) #[true, true, true, true, true, true, true, true] rfl rfl (any_of HT_.out (by kernel_rfl)) (fun _ _ _ h => h) (Or.inl ⟨by rfl, ?_⟩) ?_ ?_
                    rotate_left
                    ·intro w'
                     go_simp
                     with_reducible rfl
                    rotate_left
                    ·simp only [Act.put, List.setIfInBounds_toArray, List.set_cons_zero, List.set_cons_succ, i64_w, i32_w]
                     rfl
                    refine done_ (done_of HT_.out (by kernel_rfl)) ?_
                    try go_wp2
                    go_roundg k4
                    case measure => have := HK1.out; have := HJ21.out; have := HJ34.out; have := HK4.out; omega
                    case rel => exact ⟨(wrap64 (x14_4 + 1)), (by first | rfl | (simp; done) | (simp [*]; done)), H', ⟨by have := HK1.out; have := HJ21.out; have := HJ34.out; have := HK4.out; omega⟩, ⟨by (try simp only [hl7_34]); (with_reducible repeat (first | apply Kd.R_alloc | apply Kd.R_drewN | apply Kd.R_drew)); exact HO_3.out⟩, ⟨by (try simp only [hl7_34]); (with_reducible repeat (first | apply Kd.R_alloc | apply Kd.R_drewN | apply Kd.R_drew)); exact HO_7.out⟩, ⟨by (try simp only [hl7_34]); (with_reducible repeat (first | refine blk_drewN ?_ _ | refine blk_drew ?_ | refine blk_alloc ?_ _)); exact BK138.out⟩, ⟨by (try simp only [hl7_34]); (with_reducible repeat (first | refine blk_drewN ?_ _ | refine blk_drew ?_ | refine blk_alloc ?_ _)); exact BK154.out⟩, ⟨by repeat (first | (with_reducible first | exact HB.out | apply below_alloc | apply pw_below_drewN | apply below_drew1 | refine below_set ?_ GE137.out | refine below_set ?_ GE138.out | refine below_set ?_ GE153.out | refine below_set ?_ GE154.out) | exact HB.out)⟩⟩
                  ·rw [if_neg c95] at H
                   exact absurd H (by simp)
                 ·rw [if_neg c94] at H
                  have c94b0 : decide (x14_4 < (t101.length : Int)) = false := decide_eq_false c94
                  clear c94
                  obtain rfl := Option.some.inj H
                  go_wp2
                  go_ret
                  exact ⟨by first | rfl | (simp [errW_none, errW_some] <;> rfl) | (simp only [← hji29]; first | rfl | (simp [errW_none, errW_some] <;> rfl)) | (simp [*, errW_none, errW_some] <;> rfl), by repeat (first | (with_reducible first | exact HB.out | apply below_alloc | apply pw_below_drewN | apply below_drew1 | refine below_set ?_ GE137.out | refine below_set ?_ GE138.out | refine below_set ?_ GE153.out | refine below_set ?_ GE154.out) | exact HB.out)⟩
          ·rw [if_neg c31] at H
           exact absurd H (by simp)
         ·rw [if_neg c30] at H
          exact absurd H (by simp)
  ·rw [if_neg c5] at H
   have c5b0 : (t103 == 0) = false := beq_eq_false_iff_ne.mpr c5
   have c5b1 : (t103 != 0) = true := bne_iff_ne.mpr c5
   obtain rfl := Option.some.inj H
   go_enter Tryd.func5, Tryd.ntmps5
   go_wp2_with (first | ((with_reducible refine gate_callee (f := 10) rfl ?_); refine goesL_ (some 17) rfl rfl Tryd.func10 (by kernel_rfl) rfl #[.string a0] rfl (by (try simp only [List.map_toArray, List.map_cons, List.map_nil]); first | done | rfl | (simp only [List.length_drop, List.length_take]; rfl)) ?_; (with_reducible refine (scan_Tokens.calls k a0 t101 t102 t103 _ A2.out (LaidW.below HL.out (by repeat (first | (with_reducible first | exact HB.out | apply below_alloc | apply pw_below_drewN | apply below_drew1) | exact HB.out | exact Below.refl _ _)))).mono ?_); rintro e w101 ⟨v104, rfl, ho0, hb⟩; refine ⟨_, rfl, ?_⟩; have n0_ := Aside0.mk (Kd.R_lower ho0 (below_size (by repeat (first | (with_reducible first | exact HB.out | apply below_alloc | apply pw_below_drewN | apply below_drew1) | exact HB.out)))); have n1_ := Aside0.mk (below_step (by repeat (first | (with_reducible first | exact HB.out | apply below_alloc | apply pw_below_drewN | apply below_drew1) | exact HB.out)) hb); clear HB; have HO105 := n0_; have HB := n1_; clear n0_ n1_; (try clear hb); (try clear hb2); (try clear hk); (try clear hi); (try clear ho0)) | ((with_reducible refine gate_callee (f := 6) rfl ?_); refine goesL_ (some 21) rfl rfl Tryd.func6 (by kernel_rfl) rfl #[] rfl (by (try simp only [List.map_toArray, List.map_cons, List.map_nil]); first | done | rfl | (simp only [List.length_drop, List.length_take]; rfl)) ?_; (with_reducible refine (sigillaw5_known.calls k  true _ A3.out (LaidW.below HL.out (by repeat (first | (with_reducible first | exact HB.out | apply below_alloc | apply pw_below_drewN | apply below_drew1) | exact HB.out | exact Below.refl _ _)))).mono ?_); rintro e w102 ⟨rfl, hb⟩; refine ⟨_, rfl, ?_⟩; have n0_ := Aside0.mk (Kd.R_below (by (with_reducible repeat (first | apply Kd.R_alloc | apply Kd.R_drewN | apply Kd.R_drew)); exact HO105.out) hb); have n1_ := Aside0.mk (below_step (by repeat (first | (with_reducible first | exact HB.out | apply below_alloc | apply pw_below_drewN | apply below_drew1) | exact HB.out)) hb); clear HO105; clear HB; have HO105 := n0_; have HB := n1_; clear n0_ n1_; (try clear hb); (try clear hb2); (try clear hk); (try clear hi)))
   go_ret
   exact ⟨by first | rfl | (simp [errW_none, errW_some] <;> rfl) | (simp [*, errW_none, errW_some] <;> rfl), by repeat (first | (with_reducible first | exact HB.out | apply below_alloc | apply pw_below_drewN | apply below_drew1) | exact HB.out)⟩
 ·replace c4 := Bool.eq_false_iff.mpr c4
  subst c4
  have H1 : (some false) = some r := by rw [if_neg (show ¬ (false = true) by decide)] at H; exact H
  clear H
  have H := H1
  clear H1
  obtain rfl := Option.some.inj H
  go_enter Tryd.func5, Tryd.ntmps5
  go_wp2_with (first | ((with_reducible refine gate_callee (f := 10) rfl ?_); refine goesL_ (some 17) rfl rfl Tryd.func10 (by kernel_rfl) rfl #[.string a0] rfl (by (try simp only [List.map_toArray, List.map_cons, List.map_nil]); first | done | rfl | (simp only [List.length_drop, List.length_take]; rfl)) ?_; (with_reducible refine (scan_Tokens.calls k a0 t101 t102 t103 _ A2.out (LaidW.below HL.out (by repeat (first | (with_reducible first | exact HB.out | apply below_alloc | apply pw_below_drewN | apply below_drew1) | exact HB.out | exact Below.refl _ _)))).mono ?_); rintro e w103 ⟨v104, rfl, ho0, hb⟩; refine ⟨_, rfl, ?_⟩; have n0_ := Aside0.mk (Kd.R_lower ho0 (below_size (by repeat (first | (with_reducible first | exact HB.out | apply below_alloc | apply pw_below_drewN | apply below_drew1) | exact HB.out)))); have n1_ := Aside0.mk (below_step (by repeat (first | (with_reducible first | exact HB.out | apply below_alloc | apply pw_below_drewN | apply below_drew1) | exact HB.out)) hb); clear HB; have HO105 := n0_; have HB := n1_; clear n0_ n1_; (try clear hb); (try clear hb2); (try clear hk); (try clear hi); (try clear ho0)) | ((with_reducible refine gate_callee (f := 6) rfl ?_); refine goesL_ (some 21) rfl rfl Tryd.func6 (by kernel_rfl) rfl #[] rfl (by (try simp only [List.map_toArray, List.map_cons, List.map_nil]); first | done | rfl | (simp only [List.length_drop, List.length_take]; rfl)) ?_; (with_reducible refine (sigillaw5_known.calls k  false _ A3.out (LaidW.below HL.out (by repeat (first | (with_reducible first | exact HB.out | apply below_alloc | apply pw_below_drewN | apply below_drew1) | exact HB.out | exact Below.refl _ _)))).mono ?_); rintro e w104 ⟨rfl, hb⟩; refine ⟨_, rfl, ?_⟩; have n0_ := Aside0.mk (Kd.R_below (by (with_reducible repeat (first | apply Kd.R_alloc | apply Kd.R_drewN | apply Kd.R_drew)); exact HO105.out) hb); have n1_ := Aside0.mk (below_step (by repeat (first | (with_reducible first | exact HB.out | apply below_alloc | apply pw_below_drewN | apply below_drew1) | exact HB.out)) hb); clear HO105; clear HB; have HO105 := n0_; have HB := n1_; clear n0_ n1_; (try clear hb); (try clear hb2); (try clear hk); (try clear hi)))
  go_ret
  exact ⟨by first | rfl | (simp [errW_none, errW_some] <;> rfl) | (simp [*, errW_none, errW_some] <;> rfl), by repeat (first | (with_reducible first | exact HB.out | apply below_alloc | apply pw_below_drewN | apply below_drew1) | exact HB.out)⟩
end Go.Proofs.YtgkodenllfpajaaDoor.A
end
section
namespace Go.Proofs.YtgkodenllfpajaaDoor.A
open Go.RowKit Go.Proofs.YtgkodenllfpajaaDoorW.PrintWords Go.Proofs.YtgkodenllfpajaaDoorW.PrintLast Go.Proofs.YtgkodenllfpajaaDoorW.PrintMore
set_option linter.unusedVariables false
set_option linter.unusedSimpArgs false
namespace Rex
def glueB : List PTok → List Int
 | [] => []
 | x :: r => bytesOf x.f2 ++ ([32, 10] ++ glueB r)
theorem glueB_append : ∀ xs ys : List PTok, glueB (xs ++ ys) = glueB xs ++ glueB ys
 | [], _ => rfl
 | x :: xs, ys => by show bytesOf x.f2 ++ ([32, 10] ++ glueB (xs ++ ys)) = bytesOf x.f2 ++ ([32, 10] ++ glueB xs) ++ glueB ys; rw [glueB_append]; simp only [List.append_assoc]
theorem bytes_fill : bytesOf ⟨#[32, 10]⟩ = [32, 10] := by decide
theorem glueB_cons (x : PTok) (r : List PTok) : (glueB (x :: r)).length = x.f2.size + 2 + (glueB r).length := by
 show (bytesOf x.f2 ++ ([32, 10] ++ glueB r)).length = _
 rw [List.length_append, List.length_append, bytesOf_length]
 show _ + (2 + _) = _
 omega
theorem moved_append : ∀ (xs ys : List PTok) (p : Nat), moved p (xs ++ ys) = moved p xs ++ moved (p + (glueB xs).length) ys
 | [], ys, p => rfl
 | x :: xs, ys, p => by
  have e : p + (glueB (x :: xs)).length = p + x.f2.size + 2 + (glueB xs).length := by rw [glueB_cons]; omega
  rw [e]
  show (⟨x.f0, (p : Int), x.f2⟩ : PTok) :: moved (p + x.f2.size + 2) (xs ++ ys) = _
  rw [moved_append xs ys]
  rfl
theorem moved_length : ∀ (xs : List PTok) (p : Nat), (moved p xs).length = xs.length
 | [], _ => rfl
 | x :: xs, p => by show (moved (p + x.f2.size + 2) xs).length + 1 = xs.length + 1; rw [moved_length]
theorem glueB_le : ∀ xs : List PTok, (∀ x ∈ xs, x.f2.size ≤ 65536) → (glueB xs).length ≤ 65538 * xs.length
 | [], _ => Nat.le_refl _
 | x :: xs, h => by
  have h1 := glueB_le xs (fun y hy => h y (List.mem_cons_of_mem _ hy))
  have h2 := h x List.mem_cons_self
  rw [glueB_cons, List.length_cons]
  omega
theorem bt_list (s : ByteArray) (i : Int) (h0 : 0 ≤ i) (h1 : i < (s.size : Int)) : ∃ h : i.toNat < s.data.toList.length, bt s i = (((s.data.toList)[i.toNat]'h).toNat : Int) := by
 have h : i.toNat < s.size := by omega
 refine ⟨by rw [Array.length_toList]; exact h, ?_⟩
 unfold bt
 rw [dif_pos h]
 rfl
theorem str_bytes (s : ByteArray) : (bytesOf s).map (fun n => UInt8.ofNat n.toNat) = s.data.toList := by
 unfold bytesOf
 rw [List.map_map]
 conv => rhs; rw [← List.map_id s.data.toList]
 apply List.map_congr_left
 intro b _
 simp
theorem str_get (A : List Int) (x : ByteArray) (B : List Int) (j : Nat) (h : j < x.size) : (strOfNums (A ++ (bytesOf x ++ B))).data.toList[A.length + j]? = x.data.toList[j]? := by
 rw [strOfNums_data, List.map_append, List.map_append, str_bytes, List.getElem?_append_right (by simp), List.length_map, Nat.add_sub_cancel_left, List.getElem?_append_left (by rw [Array.length_toList]; exact h)]
theorem bt_get (s : ByteArray) (j : Nat) (h : j < s.size) : ∃ b : UInt8, s.data.toList[j]? = some b ∧ bt s (j : Int) = (b.toNat : Int) := by
 obtain ⟨h1, e⟩ := bt_list s (j : Int) (by omega) (by omega)
 exact ⟨_, List.getElem?_eq_getElem (by rw [Array.length_toList]; exact h), by simpa using e⟩
theorem str_at (A : List Int) (x : ByteArray) (B : List Int) : At (strOfNums (A ++ (bytesOf x ++ B))) A.length x := by
 have hz : (strOfNums (A ++ (bytesOf x ++ B))).size = A.length + (x.size + B.length) := by
  rw [strOfNums_size, List.length_append, List.length_append, bytesOf_length]
 refine ⟨by omega, fun j hj => ?_⟩
 obtain ⟨b, b1, b2⟩ := bt_get (strOfNums (A ++ (bytesOf x ++ B))) (A.length + j) (by omega)
 obtain ⟨c, c1, c2⟩ := bt_get x j hj
 rw [str_get A x B j hj, c1] at b1
 rw [show (A.length : Int) + (j : Int) = ((A.length + j : Nat) : Int) by omega, b2, c2, Option.some.inj b1]
theorem glue_glued (t : ByteArray) : ∀ (g : List PTok) (A : List Int), t = strOfNums (A ++ glueB g) → Glued t A.length g
 | [], A, h => by
  show A.length = t.size
  rw [h, strOfNums_size]
  simp [glueB]
 | x :: r, A, h => by
  have h1 : t = strOfNums (A ++ (bytesOf x.f2 ++ (bytesOf ⟨#[32, 10]⟩ ++ glueB r))) := by rw [bytes_fill]; exact h
  have h2 : t = strOfNums ((A ++ bytesOf x.f2) ++ (bytesOf ⟨#[32, 10]⟩ ++ glueB r)) := by rw [h1]; simp only [List.append_assoc]
  have h3 : t = strOfNums ((A ++ bytesOf x.f2 ++ bytesOf ⟨#[32, 10]⟩) ++ glueB r) := by rw [h1]; simp only [List.append_assoc]
  have l2 : (A ++ bytesOf x.f2).length = A.length + x.f2.size := by rw [List.length_append, bytesOf_length]
  have l3 : (A ++ bytesOf x.f2 ++ bytesOf ⟨#[32, 10]⟩).length = A.length + x.f2.size + 2 := by rw [List.length_append, l2, bytesOf_length]; rfl
  have g1 := str_at A x.f2 (bytesOf ⟨#[32, 10]⟩ ++ glueB r)
  have g2 := str_at (A ++ bytesOf x.f2) ⟨#[32, 10]⟩ (glueB r)
  rw [← h1] at g1
  rw [← h2, l2] at g2
  have := glue_glued t r (A ++ bytesOf x.f2 ++ bytesOf ⟨#[32, 10]⟩) h3
  rw [l3] at this
  exact ⟨g1, g2, this⟩
def look : List PTok → List PTok → Int → Int
 | x :: xs, y :: ys, p => if x.f1 = p then y.f1 else look xs ys p
 | [], _, _ => 0
 | _ :: _, [], _ => 0
def Like : List PTok → List PTok → Prop
 | [], [] => True
 | x :: xs, y :: ys => x.f0 = y.f0 ∧ x.f2 = y.f2 ∧ Like xs ys
 | [], _ :: _ => False
 | _ :: _, [] => False
theorem Like.moved : ∀ (xs : List PTok) (p : Nat) (e f : PTok), e.f0 = f.f0 → e.f2 = f.f2 → Like (xs ++ [e]) (Rex.moved p xs ++ [f])
 | [], _, _, _, h0, h2 => ⟨h0, h2, trivial⟩
 | x :: xs, p, e, f, h0, h2 => ⟨rfl, rfl, Like.moved xs _ e f h0 h2⟩
theorem Like.length : ∀ {xs ys : List PTok}, Like xs ys → xs.length = ys.length
 | [], [], _ => rfl
 | [], _ :: _, h => h.elim
 | _ :: _, [], h => h.elim
 | _ :: xs, _ :: ys, h => by simp only [List.length_cons]; rw [Like.length h.2.2]
theorem look_map : ∀ {xs ys : List PTok}, Like xs ys → xs.Pairwise (fun a b => a.f1 < b.f1) → xs.map (mT (look xs ys)) = ys
 | [], [], _, _ => rfl
 | [], _ :: _, h, _ => h.elim
 | _ :: _, [], h, _ => h.elim
 | x :: xs, y :: ys, h, hp => by
  obtain ⟨hp1, hp2⟩ := List.pairwise_cons.1 hp
  have ih := look_map h.2.2 hp2
  show mT (look (x :: xs) (y :: ys)) x :: xs.map (mT (look (x :: xs) (y :: ys))) = y :: ys
  have e1 : mT (look (x :: xs) (y :: ys)) x = y := by
   obtain ⟨y0, y1, y2⟩ := y
   obtain ⟨h0, h2, _⟩ := h
   show (⟨x.f0, (if x.f1 = x.f1 then y1 else _), x.f2⟩ : PTok) = _
   rw [if_pos rfl]
   have h0 : x.f0 = y0 := h0
   have h2 : x.f2 = y2 := h2
   rw [h0, h2]
  have e2 : xs.map (mT (look (x :: xs) (y :: ys))) = xs.map (mT (look xs ys)) := by
   apply List.map_congr_left
   intro z hz
   have := hp1 z hz
   show (⟨z.f0, (if x.f1 = z.f1 then y.f1 else look xs ys z.f1), z.f2⟩ : PTok) = ⟨z.f0, look xs ys z.f1, z.f2⟩
   rw [if_neg (by omega)]
  rw [e1, e2, ih]
theorem Row.facts {s : ByteArray} (hs : s.size ≤ 65536) : ∀ {xs : List PTok} {p : Nat}, Row s p xs → xs.Pairwise (fun a b => a.f1 < b.f1) ∧ (∀ z ∈ xs, (p : Int) ≤ z.f1 ∧ z.f1 < s.size ∧ z.f2.size ≤ 65536)
 | [], _, _ => ⟨List.Pairwise.nil, fun _ h => nomatch h⟩
 | x :: xs, p, ⟨a, n, ha, hT, hR⟩ => by
  obtain ⟨g1, g2⟩ := Row.facts hs hR
  obtain ⟨t1, t2, t3, t4, _⟩ := hT
  have hz : x.f2.size = n := by rw [t4, size_extract s a (a + n) t3]; omega
  refine ⟨List.pairwise_cons.2 ⟨fun z hz => ?_, g1⟩, fun z hz => ?_⟩
  ·have := (g2 z hz).1
   omega
  ·rcases List.mem_cons.1 hz with rfl | hz
   ·omega
   ·have := g2 z hz
    omega
theorem rd_at (pre : List PTok) (x : PTok) (rest : List PTok) : rd_T42 (pre ++ x :: rest) (pre.length : Int) = x := by
 unfold rd_T42
 rw [Int.toNat_natCast, List.getD_eq_getElem?_getD]
 simp
section
variable (s : ByteArray) (l : List PTok)
noncomputable def blanksEnd (k : Nat) : Option Bool := if ((strOfNums (glueB l)).size : Int) > 65536 then sigillaw5_ParseBlanks.j1 k s l (strOfNums (glueB l)) (moved 0 l) true else sigillaw5_ParseBlanks.j1 k s l (strOfNums (glueB l)) (moved 0 l) (((moved 0 l).length : Int) == 0)
theorem blanks_loop (hl : l.length ≤ 16384) (hb : ∀ x ∈ l, x.f2.size ≤ 65536) {r : Bool} (hr : Ev (blanksEnd s l) r) : ∀ rest pre : List PTok, l = pre ++ rest → Ev (fun k => sigillaw5_ParseBlanks.l0 k s l (moved 0 pre) (glueB pre) (pre.length : Int)) r
 | [], pre, h => by
  rw [List.append_nil] at h
  subst h
  refine Ev.step (fun k => ?_) hr
  simp only [sigillaw5_ParseBlanks.l0]
  rw [if_neg (by omega)]
  rfl
 | x :: rest, pre, h => by
  have hx : x.f2.size ≤ 65536 := hb x (by rw [h]; simp)
  have hpre := glueB_le pre (fun y hy => hb y (by rw [h]; exact List.mem_append_left _ hy))
  have hlen := congrArg List.length h
  simp only [List.length_append, List.length_cons] at hlen
  have ih := blanks_loop hl hb hr rest (pre ++ [x]) (by rw [h]; simp)
  rw [moved_append, glueB_append, List.length_append] at ih
  refine Ev.step (fun k => ?_) ih
  have rx : rd_T42 l (pre.length : Int) = x := by rw [h]; exact rd_at pre x rest
  have hm := moved_length pre 0
  simp only [sigillaw5_ParseBlanks.l0]
  rw [if_pos (by omega), if_pos (by omega), rx, if_pos (by omega), if_pos (by omega), Option.bind_some, Option.bind_some, if_pos (by rw [List.length_append, bytesOf_length]; show _ + 2 < _; omega), w64 (by omega) (by omega), Nat.zero_add]
  show _ = sigillaw5_ParseBlanks.l0 k s l (moved 0 pre ++ [(⟨x.f0, ((glueB pre).length : Int), x.f2⟩ : PTok)]) (glueB pre ++ (bytesOf x.f2 ++ ([32, 10] ++ []))) ((pre.length + 1 : Nat) : Int)
  rw [List.append_nil, List.append_assoc]
  rfl
theorem blanks_find {p q : Int} {e1 e2 a1 a2 : Int} {t1 t2 : ByteArray} (l2 : List PTok) : ∀ rest rest2 pre pre2 : List PTok, l = pre ++ rest → l2 = pre2 ++ rest2 → pre.length = pre2.length → Like rest rest2 → (∃ z ∈ rest, z.f1 = p) → look rest rest2 p = q → l.length ≤ 16384 → Ev (fun k => sigillaw5_ParseBlanks.l1 k l l2 (pre.length : Int) e1 a1 p t1 e2 a2 q t2) true
 | [], _, _, _, _, _, _, _, hz, _, _ => by obtain ⟨z, hz, _⟩ := hz; exact nomatch hz
 | _ :: _, [], _, _, _, _, _, h, _, _, _ => h.elim
 | x :: rest, y :: rest2, pre, pre2, h1, h2, hp, hk, hz, hq, hl => by
  have hlen := congrArg List.length h1
  have hlen2 := congrArg List.length h2
  simp only [List.length_append, List.length_cons] at hlen hlen2
  have rx : rd_T42 l (pre.length : Int) = x := by rw [h1]; exact rd_at pre x rest
  have ry : rd_T42 l2 (pre.length : Int) = y := by rw [h2, hp]; exact rd_at pre2 y rest2
  by_cases c : x.f1 = p
  ·refine Ev.step (f := fun _ => some true) (fun k => ?_) (Ev.now _)
   simp only [sigillaw5_ParseBlanks.l1]
   rw [if_pos (by omega), if_pos (by omega), rx, ry, if_pos c, if_pos (by omega)]
   have : y.f1 = q := by rw [← hq]; show y.f1 = (if x.f1 = p then y.f1 else _); rw [if_pos c]
   rw [this, beq_self_eq_true]
  ·have ih := blanks_find (e1 := e1) (e2 := e2) (a1 := a1) (a2 := a2) (t1 := t1) (t2 := t2) (p := p) (q := q) l2 rest rest2 (pre ++ [x]) (pre2 ++ [y]) (by rw [h1]; simp) (by rw [h2]; simp) (by simp [hp]) hk.2.2 (by
    obtain ⟨z, hz, hzp⟩ := hz
    rcases List.mem_cons.1 hz with rfl | hz
    ·exact absurd hzp c
    ·exact ⟨z, hz, hzp⟩) (by rw [← hq]; show _ = (if x.f1 = p then y.f1 else look rest rest2 p); rw [if_neg c]) hl
   refine Ev.step (fun k => ?_) ih
   simp only [sigillaw5_ParseBlanks.l1]
   rw [if_pos (by omega), if_pos (by omega), rx, if_neg c, w64 (by omega) (by omega), List.length_append]
   rfl
end
theorem parse2_of {t : ByteArray} {x : List PTok × Int × Int} {r : PFile × Int × Int} (h1 : Ev (fun k => scan_Tokens.f k t) x) (h0 : x.2.2 = 0) (h2 : Ev (fun k => Pm.tokens2 k x.1) r) : parseR t = r := by
 refine Ev.unique (parseR_ok t).1 ?_
 refine Ev.congr (f := fun k => (scan_Tokens.f k t).bind fun x => if x.2.2 = 0 then Pm.tokens2 k x.1 else some (Pm.zfile, x.2.2, x.2.1)) (fun k => rfl) (Ev.bind h1 ?_)
 simp only [if_pos h0]
 exact h2
theorem endOf_last (l : List PTok) (n : Nat) (hn : n ≤ 65536) : Pm.endOf (l ++ [(⟨5, (n : Int), (⟨#[]⟩ : ByteArray)⟩ : PTok)]) = (n : Int) := by
 unfold Pm.endOf
 rw [List.getLast?_append]
 show wrap64 ((n : Int) + ((0 : Nat) : Int)) = _
 rw [w64 (by omega) (by omega)]
 omega
theorem blanks_parse (s : ByteArray) (more : List PTok) (hs : s.size ≤ 65536) (hU : U8 s 0) (hR : Row s 0 more) (hl : more.length ≤ 16383) (h1 : Ev (fun k => scan_Tokens.f k s) (more ++ [(⟨5, (s.size : Int), (⟨#[]⟩ : ByteArray)⟩ : PTok)], 0, 0))
  (t : ByteArray) (ht : t = strOfNums (glueB (more ++ [(⟨5, (s.size : Int), (⟨#[]⟩ : ByteArray)⟩ : PTok)]))) (hz : t.size ≤ 65536) :
  (parseR t).1 = (parseR s).1 ∧ (parseR t).2.1 = (parseR s).2.1 ∧ ((parseR s).2.1 = 0 → (parseR s).2.2 = 0 ∧ (parseR t).2.2 = 0) ∧ ((parseR s).2.1 ≠ 0 → (∃ z ∈ more ++ [(⟨5, (s.size : Int), (⟨#[]⟩ : ByteArray)⟩ : PTok)], z.f1 = (parseR s).2.2) ∧
   look (more ++ [(⟨5, (s.size : Int), (⟨#[]⟩ : ByteArray)⟩ : PTok)]) (moved 0 more ++ [(⟨5, (t.size : Int), (⟨#[]⟩ : ByteArray)⟩ : PTok)]) (parseR s).2.2 = (parseR t).2.2) := by
 obtain ⟨l, hle⟩ : ∃ l, l = more ++ [(⟨5, (s.size : Int), (⟨#[]⟩ : ByteArray)⟩ : PTok)] := ⟨_, rfl⟩
 obtain ⟨l2, hle2⟩ : ∃ l2, l2 = moved 0 more ++ [(⟨5, (t.size : Int), (⟨#[]⟩ : ByteArray)⟩ : PTok)] := ⟨_, rfl⟩
 have hG := glue_glued t _ [] (by rw [List.nil_append]; exact ht)
 have u8 := glued_utf8 hs hz hU more 0 0 _ hR rfl hG
 have m1 := glued_tokens hs hz more 0 0 _ [] hR rfl hG (by simpa using hl)
 have hT : Ev (fun k => scan_Tokens.f k t) (l2, 0, 0) := by
  refine Ev.congr (f := fun k => (wire_Utf8.f k t).bind fun u => if u ≥ 0 then some (([] : List PTok), u, 44) else scan_Tokens.l0 k t ([] : List PTok) 0) (fun k => by simp only [scan_Tokens.f]; rw [if_neg (by omega)]) (Ev.bind u8 ?_)
  simp only [if_neg (show ¬ (-1 : Int) ≥ 0 by omega)]
  rw [hle2]
  exact m1
 rw [← hle] at h1 ⊢
 rw [← hle2]
 obtain ⟨R, hRe, _⟩ := tokens_all l
 have hlen : l.length ≤ 16384 := by rw [hle, List.length_append]; show more.length + 1 ≤ _; omega
 have hlike : Like l l2 := by rw [hle, hle2]; exact Like.moved more 0 _ _ rfl rfl
 obtain ⟨f1, f2⟩ := Row.facts hs hR
 have hpw : l.Pairwise (fun a b => a.f1 < b.f1) := by
  rw [hle, List.pairwise_append]
  refine ⟨f1, List.pairwise_singleton .., fun a ha b hb => ?_⟩
  rw [List.mem_singleton] at hb
  rw [hb]
  exact (f2 a ha).2.1
 have hmap := look_map hlike hpw
 have he1 : Pm.endOf l = (s.size : Int) := by rw [hle]; exact endOf_last more s.size hs
 have he2 : Pm.endOf l2 = (t.size : Int) := by rw [hle2]; exact endOf_last _ t.size hz
 have hend : look l l2 (s.size : Int) = (t.size : Int) := by
  have e : (more ++ [(⟨5, (s.size : Int), (⟨#[]⟩ : ByteArray)⟩ : PTok)]).map (mT (look l l2)) = moved 0 more ++ [(⟨5, (t.size : Int), (⟨#[]⟩ : ByteArray)⟩ : PTok)] := by rw [← hle, ← hle2]; exact hmap
  rw [List.map_append] at e
  have e2 := (List.append_inj' e (by simp)).2
  exact congrArg (fun z : PTok => z.f1) (List.cons.inj e2).1
 have hmem : ∀ k, Pm.tokens2 k l = some R → R.2.1 ≠ 0 → ∃ z ∈ l, z.f1 = R.2.2 := by
  intro k hk hn
  by_cases c : ∃ z ∈ l, z.f1 = R.2.2
  ·exact c
  exfalso
  have hid : l.map (mT (fun a => if a = R.2.2 then a + 1 else a)) = l := by
   conv => rhs; rw [← List.map_id l]
   apply List.map_congr_left
   intro z hz
   show (⟨z.f0, (if z.f1 = R.2.2 then z.f1 + 1 else z.f1), z.f2⟩ : PTok) = z
   rw [if_neg (fun e => c ⟨z, hz, e⟩)]
  obtain ⟨a, a1, a2, a3⟩ := tokens2_nat (fun a => if a = R.2.2 then a + 1 else a) k l R hlen (by
   rw [hid, he1]
   show (s.size : Int) = if (s.size : Int) = R.2.2 then (s.size : Int) + 1 else (s.size : Int)
   rw [if_neg (fun e => c ⟨⟨5, (s.size : Int), (⟨#[]⟩ : ByteArray)⟩, by rw [hle]; simp, e⟩)]) hk
  rw [hid, hk] at a1
  have := a3 hn
  have ea : R.2.2 = a := congrArg (fun x : PFile × Int × Int => x.2.2) (Option.some.inj a1)
  rw [if_pos rfl] at this
  omega
 obtain ⟨K, hK⟩ := hRe
 have hk := hK K (Nat.le_refl _)
 obtain ⟨a, a1, a2, a3⟩ := tokens2_nat (look l l2) K l R hlen (by rw [hmap, he1, he2, hend]) hk
 have hev2 : Ev (fun k => Pm.tokens2 k l2) (R.1, R.2.1, a) := by
  refine ⟨K, fun k hge => ?_⟩
  obtain ⟨b, b1, b2, b3⟩ := tokens2_nat (look l l2) k l R hlen (by rw [hmap, he1, he2, hend]) (hK k hge)
  rw [hmap] at b1
  have : b = a := by
   by_cases c : R.2.1 = 0
   ·rw [(b2 c).2, (a2 c).2]
   ·rw [b3 c, a3 c]
  rw [← this]
  exact b1
 have p1 := parse2_of h1 rfl (show Ev (fun k => Pm.tokens2 k l) R from ⟨K, hK⟩)
 have p2 := parse2_of hT rfl hev2
 rw [p1, p2]
 exact ⟨rfl, rfl, a2, fun hn => ⟨hmem K hk hn, (a3 hn).symm⟩⟩
theorem blanks_end (s : ByteArray) (more : List PTok) (hs : s.size ≤ 65536) (hU : U8 s 0) (hR : Row s 0 more) (hl : more.length ≤ 16383) (h1 : Ev (fun k => scan_Tokens.f k s) (more ++ [(⟨5, (s.size : Int), (⟨#[]⟩ : ByteArray)⟩ : PTok)], 0, 0)) :
  Ev (blanksEnd s (more ++ [(⟨5, (s.size : Int), (⟨#[]⟩ : ByteArray)⟩ : PTok)])) true := by
 obtain ⟨l, hle⟩ : ∃ l, l = more ++ [(⟨5, (s.size : Int), (⟨#[]⟩ : ByteArray)⟩ : PTok)] := ⟨_, rfl⟩
 obtain ⟨t, ht⟩ : ∃ t, t = strOfNums (glueB l) := ⟨_, rfl⟩
 have hlen : l.length = more.length + 1 := by rw [hle, List.length_append]; rfl
 have hml := moved_length l 0
 rw [← hle]
 refine Ev.congr (f := fun k => if (t.size : Int) > 65536 then sigillaw5_ParseBlanks.j1 k s l t (moved 0 l) true else sigillaw5_ParseBlanks.j1 k s l t (moved 0 l) (((moved 0 l).length : Int) == 0)) (fun k => by rw [ht]; rfl) ?_
 by_cases c : (t.size : Int) > 65536
 ·simp only [if_pos c]
  refine Ev.step (f := fun _ => some true) (fun k => ?_) (Ev.now _)
  simp only [sigillaw5_ParseBlanks.j1]
  rw [if_pos trivial, decide_eq_true (by omega)]
 ·simp only [if_neg c]
  obtain ⟨p1, p2, p3, p4⟩ := blanks_parse s more hs hU hR hl h1 t (by rw [ht, hle]) (by omega)
  rw [← hle] at p4
  obtain ⟨l2, hle2⟩ : ∃ l2, l2 = moved 0 more ++ [(⟨5, (t.size : Int), (⟨#[]⟩ : ByteArray)⟩ : PTok)] := ⟨_, rfl⟩
  rw [← hle2] at p4
  have hmv : moved 0 l = moved 0 more ++ [(⟨5, ((glueB more).length : Int), (⟨#[]⟩ : ByteArray)⟩ : PTok)] := by
   rw [hle, moved_append, Nat.zero_add]; rfl
  have hlm := moved_length more 0
  have hrd : rd_T42 (moved 0 l) (more.length : Int) = (⟨5, ((glueB more).length : Int), (⟨#[]⟩ : ByteArray)⟩ : PTok) := by
   rw [hmv, ← hlm]; exact rd_at _ _ []
  have hset : (moved 0 l).set ((more.length : Int)).toNat (⟨5, (t.size : Int), (⟨#[]⟩ : ByteArray)⟩ : PTok) = l2 := by
   rw [hmv, hle2, Int.toNat_natCast, ← hlm, List.set_append_right _ _ (Nat.le_refl _), Nat.sub_self]
   rfl
  have hlike : Like l l2 := by rw [hle, hle2]; exact Like.moved more 0 _ _ rfl rfl
  have hb0 : (((moved 0 l).length : Int) == 0) = false := beq_eq_false_iff_ne.mpr (by omega)
  rw [hb0]
  have hsame : ∀ k, sigillaw5_SameFile.f k (parseR s).1.f0 (parseR s).1.f1 (parseR s).1.f2 (parseR s).1.f3 (parseR t).1.f0 (parseR t).1.f1 (parseR t).1.f2 (parseR t).1.f3 = some true := by
   intro k
   unfold sigillaw5_SameFile.f
   rw [p1]
   exact if_pos ⟨rfl, (parseR_ok s).2⟩
  refine Ev.step (f := fun k => sigillaw5_ParseBlanks.j2 k l l2 false (parseR s).2.1 0 (parseR s).2.2 ⟨#[]⟩ (parseR t).2.1 0 (parseR t).2.2 ⟨#[]⟩) (fun k => ?_) ?_
  ·simp only [sigillaw5_ParseBlanks.j1]
   rw [if_neg Bool.false_ne_true, hml, hlen, w64 (by omega) (by omega), show ((more.length + 1 : Nat) : Int) - 1 = (more.length : Int) by omega, if_pos (by omega), if_pos (by omega), hrd, hset, Option.bind_some]
   simp only [parse_Parse.f, Option.bind_some]
   rw [if_pos p2.symm, hsame, Option.bind_some]
   rfl
  ·by_cases e : (parseR s).2.1 = 0
   ·refine Ev.step (f := fun _ => some true) (fun k => ?_) (Ev.now _)
    obtain ⟨q1, q2⟩ := p3 e
    simp only [sigillaw5_ParseBlanks.j2]
    rw [if_neg Bool.false_ne_true, if_pos e, if_pos ⟨trivial, q1, trivial, p2.trans e, trivial, q2, trivial⟩]
   ·obtain ⟨q1, q2⟩ := p4 e
    refine Ev.step (f := fun k => sigillaw5_ParseBlanks.l1 k l l2 0 (parseR s).2.1 0 (parseR s).2.2 ⟨#[]⟩ (parseR t).2.1 0 (parseR t).2.2 ⟨#[]⟩) (fun k => ?_) (blanks_find l l2 l l2 [] [] rfl rfl rfl hlike q1 q2 (by omega))
    simp only [sigillaw5_ParseBlanks.j2]
    rw [if_neg Bool.false_ne_true, if_neg e]
theorem ParseBlanks (s : ByteArray) : ∃ k, sigillaw5_ParseBlanks.f k s = some true := by
 suffices h : Ev (fun k => sigillaw5_ParseBlanks.f k s) true by obtain ⟨K, hK⟩ := h; exact ⟨K, hK K (Nat.le_refl _)⟩
 obtain ⟨r, hr, hc⟩ := shape_all s
 refine Ev.congr (f := fun k => (scan_Tokens.f k s).bind fun bt => (sigillaw5_known.f k).bind fun t => if t = true then (if bt.2.2 = 0 then sigillaw5_ParseBlanks.l0 k s bt.1 ([] : List PTok) ([] : List Int) 0 else some true) else some false) (fun k => rfl) (Ev.bind hr ?_)
 simp only [sigillaw5_known.f, Option.bind_some, if_true]
 rcases hc with ⟨h1, _⟩ | ⟨hs, hU, more, rfl, hR, hl⟩
 ·simp only [if_neg h1]
  exact Ev.now _
 ·simp only [if_true]
  refine blanks_loop s _ (by rw [List.length_append]; show more.length + 1 ≤ _; omega) (fun x hx => ?_) (blanks_end s more hs hU hR hl hr) _ [] rfl
  rcases List.mem_append.1 hx with hx | hx
  ·exact ((Row.facts hs hR).2 x hx).2.2
  ·rw [List.mem_singleton] at hx
   rw [hx]
   exact Nat.zero_le _
end Rex
end Go.Proofs.YtgkodenllfpajaaDoor.A
end
