/- Plain laws on what may stand between tokens: blanks and comments are passed over; tokens written one behind the other with such things between are read as the same tokens. No condition but the texts' sizes. -/
import Derived.Test.YtabgnbbljjohdaaRDoorRelex2
namespace Go.Proofs.YtabgnbbljjohdaaRDoor.Relex
open Go.RowKit Go.Proofs.YtabgnbbljjohdaaRDoor.A Go.Proofs.YtabgnbbljjohdaaRDoorW.PrintWords Go.Proofs.YtabgnbbljjohdaaRDoor.U Go.Proofs.YtabgnbbljjohdaaRDoor.Scan1 Go.Proofs.YtabgnbbljjohdaaRDoor.Utf8 Go.Proofs.YtabgnbbljjohdaaRDoor.Unq Go.Proofs.YtabgnbbljjohdaaRDoor.Worth Go.Proofs.YtabgnbbljjohdaaRDoor.Toks

set_option linter.unusedSectionVars false
theorem indexByte_eq {l : List UInt8} {c : UInt8} {m : Nat} (h1 : l[m]? = some c) (h2 : ∀ j, j < m → l[j]? ≠ some c) : Lib.indexByte l c = (m : Int) := by
  have hge := Lib.indexByte_ge l c
  by_cases e : Lib.indexByte l c = -1
  · exact absurd h1 (Lib.indexByte_none e m)
  · obtain ⟨o, ho⟩ : ∃ o : Nat, Lib.indexByte l c = (o : Int) := ⟨(Lib.indexByte l c).toNat, by omega⟩
    obtain ⟨g1, g2⟩ := Lib.indexByte_some ho
    rw [ho]
    rcases Nat.lt_trichotomy o m with q | q | q
    · exact absurd g1 (h2 o q)
    · rw [q]
    · exact absurd h1 (g2 m q)
theorem index_eq {l sub : List UInt8} {o : Nat} (hl : o ≤ l.length) (h1 : Lib.occAt l sub o = true) (h2 : ∀ j, j < o → ¬ Lib.occAt l sub j = true) : Lib.index l sub = (o : Int) := by
  rcases Lib.index_spec l sub with ⟨_, hno⟩ | ⟨i, hi, _, hoc, hno⟩
  · have := hno o hl
    rw [h1] at this
    cases this
  · rw [hi]
    rcases Nat.lt_trichotomy i o with q | q | q
    · exact absurd hoc (h2 i q)
    · rw [q]
    · have := hno o q
      rw [h1] at this
      cases this
section
variable (t : ByteArray) (ht : t.size ≤ 65536)
include ht
theorem sub_facts (p : Nat) (_hp : p ≤ t.size) : (t.extract p t.size).size = t.size - p ∧ (∀ j : Int, 0 ≤ j → j < (t.size : Int) - p → bt (t.extract p t.size) j = bt t ((p : Int) + j)) ∧ (t.extract p t.size).data.toList = t.data.toList.drop p := by
  refine ⟨size_extract t p t.size (Nat.le_refl _), fun j h0 h1 => bt_extract t p t.size (Nat.le_refl _) j h0 h1, ?_⟩
  rw [Lib.extract_data, List.take_of_length_le]
  rw [List.length_drop, Array.length_toList]
  exact Nat.le_refl _
theorem get_bt (j : Nat) (h : j < t.size) : ∃ b : UInt8, t.data.toList[j]? = some b ∧ bt t (j : Int) = (b.toNat : Int) := by
  obtain ⟨h1, e⟩ := bt_list t (j : Int) (by omega) (by omega)
  exact ⟨_, List.getElem?_eq_getElem (by rw [Array.length_toList]; exact h), by simpa using e⟩
theorem blank_pass (p : Nat) (hp : p < t.size) (h : cls (bt t (p : Int)) = 1) (l : List S40) {r : List S40 × Int × Int} (hr : Ev (fun k => scan_Tokens.l0 k t l ((p + 1 : Nat) : Int)) r) : Ev (fun k => scan_Tokens.l0 k t l (p : Int)) r :=
  step_skip t ht p 1 (by omega) hp l (by rw [h]; exact Ev.congr (f := fun _ => some (0, 1, 0)) (fun k => rfl) (Ev.now _)) hr
theorem line_pass (p m : Nat) (hp : p + m < t.size) (h0 : bt t (p : Int) = 47) (h1 : bt t ((p : Int) + 1) = 47) (hm : bt t ((p : Int) + m) = 10) (hn : ∀ j : Nat, j < m → bt t ((p : Int) + j) ≠ 10) (l : List S40) {r : List S40 × Int × Int} (hr : Ev (fun k => scan_Tokens.l0 k t l ((p + m : Nat) : Int)) r) : Ev (fun k => scan_Tokens.l0 k t l (p : Int)) r := by
  obtain ⟨hsz, hb, hl⟩ := sub_facts t ht p (by omega)
  have hm2 : 2 ≤ m := by
    rcases (show m = 0 ∨ m = 1 ∨ 2 ≤ m by omega) with e | e | e
    · subst e; rw [show (p : Int) + ((0 : Nat) : Int) = p by omega, h0] at hm; omega
    · subst e; rw [show (p : Int) + ((1 : Nat) : Int) = (p : Int) + 1 by omega, h1] at hm; omega
    · exact e
  have c6 : cls (bt t (p : Int)) = 6 := (cls_range t (p : Int)).2.2.2 h0
  have hI : Lib.indexByte (t.extract p t.size).data.toList 10 = (m : Int) := by
    rw [hl]
    refine indexByte_eq ?_ (fun j hj => ?_)
    · obtain ⟨b, b1, b2⟩ := get_bt t ht (p + m) (by omega)
      rw [List.getElem?_drop, b1]
      congr 1
      apply UInt8.toNat_inj.mp
      rw [show ((p + m : Nat) : Int) = (p : Int) + m by omega, hm] at b2
      have : ((10 : UInt8).toNat) = 10 := rfl
      omega
    · obtain ⟨b, b1, b2⟩ := get_bt t ht (p + j) (by omega)
      rw [List.getElem?_drop, b1]
      intro e
      obtain rfl := Option.some.inj e
      exact hn j hj (by rw [show (p : Int) + j = ((p + j : Nat) : Int) by omega, b2]; rfl)
  refine step_skip t ht p m (by omega) (by omega) l ?_ hr
  rw [c6]
  refine Ev.congr (f := fun _ => scan_comment.f (t.extract p t.size)) (fun k => rfl) (Ev.const ?_)
  simp only [scan_comment.f]
  have d1 : 2 ≤ (t.extract p t.size).size ∧ bt (t.extract p t.size) 0 = ((47 : UInt8).toNat : Int) ∧ bt (t.extract p t.size) 1 = ((47 : UInt8).toNat : Int) :=
    ⟨by omega, by rw [hb 0 (by omega) (by omega), Int.add_zero, h0]; rfl, by rw [hb 1 (by omega) (by omega), h1]; rfl⟩
  rw [prefix2 _ 47 47, decide_eq_true d1]
  simp only [Option.bind_some, if_true, strings_IndexByte.f]
  rw [show ((10 : Int).toNat.toUInt8) = 10 from rfl, hI, if_pos (by omega)]
theorem occ_iff (q j : Nat) : Lib.occAt (t.data.toList.drop q) [42, 47] j = true ↔ ends t (q + j) := by
  unfold Lib.occAt ends
  rw [List.drop_drop]
  by_cases c : q + j + 2 ≤ t.size
  · obtain ⟨x, y, _, hx, hy, hl⟩ := two t (q + j) c
    rw [hl]
    simp only [List.isPrefixOf, Bool.and_true, Bool.and_eq_true, beq_iff_eq]
    constructor
    · rintro ⟨e1, e2⟩
      exact ⟨c, by rw [hx, ← e1]; rfl, by rw [hy, ← e2]; rfl⟩
    · rintro ⟨_, e1, e2⟩
      refine ⟨?_, ?_⟩
      · apply UInt8.toNat_inj.mp
        have h42 : ((42 : UInt8).toNat) = 42 := rfl
        rw [h42]; omega
      · apply UInt8.toNat_inj.mp
        have h47' : ((47 : UInt8).toNat) = 47 := rfl
        rw [h47']; omega
  · constructor
    · intro h
      exfalso
      have hp := List.isPrefixOf_iff_prefix.1 h
      have := hp.length_le
      rw [List.length_drop, Array.length_toList] at this
      have hz : t.data.size = t.size := rfl
      simp at this
      omega
    · rintro ⟨h, _⟩; omega
theorem star_pass (p o : Nat) (hp : p + 2 + o + 2 ≤ t.size) (h0 : bt t (p : Int) = 47) (h1 : bt t ((p : Int) + 1) = 42) (he : ends t (p + 2 + o)) (hn : ∀ j : Nat, j < o → ¬ ends t (p + 2 + j)) (l : List S40) {r : List S40 × Int × Int} (hr : Ev (fun k => scan_Tokens.l0 k t l ((p + (o + 4) : Nat) : Int)) r) : Ev (fun k => scan_Tokens.l0 k t l (p : Int)) r := by
  obtain ⟨hsz, hb, hl⟩ := sub_facts t ht p (by omega)
  have c6 : cls (bt t (p : Int)) = 6 := (cls_range t (p : Int)).2.2.2 h0
  have hl2 : ((t.extract p t.size).extract 2 (t.extract p t.size).size).data.toList = t.data.toList.drop (p + 2) := by
    rw [Lib.extract_data, hl, List.drop_drop, List.take_of_length_le]
    rw [List.length_drop, Array.length_toList]
    have : t.data.size = t.size := rfl
    omega
  have hI : Lib.index ((t.extract p t.size).extract 2 (t.extract p t.size).size).data.toList [42, 47] = (o : Int) := by
    rw [hl2]
    refine index_eq ?_ ((occ_iff t ht (p + 2) o).2 he) (fun j hj h => hn j hj ((occ_iff t ht (p + 2) j).1 h))
    rw [List.length_drop, Array.length_toList]
    have : t.data.size = t.size := rfl
    omega
  refine step_skip t ht p (o + 4) (by omega) (by omega) l ?_ hr
  rw [c6]
  refine Ev.congr (f := fun _ => scan_comment.f (t.extract p t.size)) (fun k => rfl) (Ev.const ?_)
  simp only [scan_comment.f]
  have d1 : ¬ (2 ≤ (t.extract p t.size).size ∧ bt (t.extract p t.size) 0 = ((47 : UInt8).toNat : Int) ∧ bt (t.extract p t.size) 1 = ((47 : UInt8).toNat : Int)) := by
    rintro ⟨_, _, h⟩
    rw [hb 1 (by omega) (by omega), h1] at h
    exact absurd h (by decide)
  have d2 : 2 ≤ (t.extract p t.size).size ∧ bt (t.extract p t.size) 0 = ((47 : UInt8).toNat : Int) ∧ bt (t.extract p t.size) 1 = ((42 : UInt8).toNat : Int) :=
    ⟨by omega, by rw [hb 0 (by omega) (by omega), Int.add_zero, h0]; rfl, by rw [hb 1 (by omega) (by omega), h1]; rfl⟩
  have hs2 := size_extract (t.extract p t.size) 2 (t.extract p t.size).size (Nat.le_refl _)
  rw [prefix2 _ 47 47, decide_eq_false d1, prefix2 _ 47 42, decide_eq_true d2]
  simp only [Option.bind_some, if_true, if_neg Bool.false_ne_true, strings_Index.f]
  rw [if_pos (by omega), if_pos (by omega)]
  rw [hI]
  simp only [Option.bind_some]
  rw [if_pos (by omega), w64 (by omega) (by omega)]
  rfl
end

/-- What the statements lay between tokens. -/
def Fills : List ByteArray := [(⟨#[32]⟩ : ByteArray), (⟨#[10]⟩ : ByteArray), (⟨#[9, 11, 12, 13, 32]⟩ : ByteArray), (⟨#[32, 47, 47, 32, 99, 32, 34, 32, 39, 10]⟩ : ByteArray), (⟨#[32, 47, 42, 32, 39, 32, 42, 32, 47, 32, 42, 47, 32]⟩ : ByteArray), (⟨#[32, 32, 47, 42, 42, 47]⟩ : ByteArray), (⟨#[32, 47, 42, 47, 42, 47]⟩ : ByteArray), (⟨#[32, 47, 47, 10, 47, 47, 10]⟩ : ByteArray)]
/-- x stands in t at place p. -/
def At (t : ByteArray) (p : Nat) (x : ByteArray) : Prop := p + x.size ≤ t.size ∧ ∀ j : Nat, j < x.size → bt t ((p : Int) + j) = bt x (j : Int)
/-- x is passed over wherever it stands. -/
def Passed (x : ByteArray) : Prop := ∀ (t : ByteArray) (_ : t.size ≤ 65536) (p : Nat) (_ : At t p x) (l : List S40) (r : List S40 × Int × Int), Ev (fun k => scan_Tokens.l0 k t l ((p + x.size : Nat) : Int)) r → Ev (fun k => scan_Tokens.l0 k t l (p : Int)) r
set_option maxRecDepth 100000 in
theorem blank_cls : cls 32 = 1 ∧ cls 10 = 1 ∧ cls 9 = 1 ∧ cls 11 = 1 ∧ cls 12 = 1 ∧ cls 13 = 1 := by decide +kernel
theorem At.blank {t x : ByteArray} {p : Nat} (h : At t p x) (ht : t.size ≤ 65536) (j : Nat) (hj : j < x.size) (hx : cls (bt x (j : Int)) = 1) (l : List S40) {r : List S40 × Int × Int} (hr : Ev (fun k => scan_Tokens.l0 k t l ((p + (j + 1) : Nat) : Int)) r) : Ev (fun k => scan_Tokens.l0 k t l ((p + j : Nat) : Int)) r :=
  blank_pass t ht (p + j) (by have := h.1; omega) (by rw [show ((p + j : Nat) : Int) = (p : Int) + j by omega, h.2 j hj]; exact hx) l hr
theorem At.line {t x : ByteArray} {p : Nat} (h : At t p x) (ht : t.size ≤ 65536) (a m : Nat) (hm : a + m < x.size) (hx : bt x (a : Int) = 47 ∧ bt x ((a + 1 : Nat) : Int) = 47 ∧ bt x ((a + m : Nat) : Int) = 10 ∧ ∀ j : Nat, j < m → bt x ((a + j : Nat) : Int) ≠ 10) (h1 : 1 ≤ m) (l : List S40) {r : List S40 × Int × Int} (hr : Ev (fun k => scan_Tokens.l0 k t l ((p + (a + m) : Nat) : Int)) r) : Ev (fun k => scan_Tokens.l0 k t l ((p + a : Nat) : Int)) r := by
  obtain ⟨h0, hb⟩ := h
  refine line_pass t ht (p + a) m (by omega) ?_ ?_ ?_ (fun j hj => ?_) l (by rw [show p + a + m = p + (a + m) by omega]; exact hr)
  · rw [show ((p + a : Nat) : Int) = (p : Int) + a by omega, hb a (by omega)]; exact hx.1
  · rw [show ((p + a : Nat) : Int) + 1 = (p : Int) + ((a + 1 : Nat) : Int) by omega, hb (a + 1) (by omega)]; exact hx.2.1
  · rw [show ((p + a : Nat) : Int) + m = (p : Int) + ((a + m : Nat) : Int) by omega, hb (a + m) (by omega)]; exact hx.2.2.1
  · rw [show ((p + a : Nat) : Int) + j = (p : Int) + ((a + j : Nat) : Int) by omega, hb (a + j) (by omega)]; exact hx.2.2.2 j hj
theorem At.ends {t x : ByteArray} {p : Nat} (h : At t p x) (j : Nat) (hj : j + 2 ≤ x.size) : ends t (p + j) ↔ (bt x (j : Int) = 42 ∧ bt x ((j + 1 : Nat) : Int) = 47) := by
  obtain ⟨h0, hb⟩ := h
  unfold Toks.ends
  rw [show ((p + j : Nat) : Int) + 1 = (p : Int) + ((j + 1 : Nat) : Int) by omega, show ((p + j : Nat) : Int) = (p : Int) + (j : Int) by omega, hb j (by omega), hb (j + 1) (by omega)]
  exact ⟨fun h => h.2, fun h => ⟨by omega, h⟩⟩
theorem At.star {t x : ByteArray} {p : Nat} (h : At t p x) (ht : t.size ≤ 65536) (a o : Nat) (ho : a + 2 + o + 2 ≤ x.size) (hx : bt x (a : Int) = 47 ∧ bt x ((a + 1 : Nat) : Int) = 42 ∧ (bt x ((a + 2 + o : Nat) : Int) = 42 ∧ bt x ((a + 2 + o + 1 : Nat) : Int) = 47) ∧ ∀ j : Nat, j < o → ¬ (bt x ((a + 2 + j : Nat) : Int) = 42 ∧ bt x ((a + 2 + j + 1 : Nat) : Int) = 47)) (l : List S40) {r : List S40 × Int × Int} (hr : Ev (fun k => scan_Tokens.l0 k t l ((p + (a + (o + 4)) : Nat) : Int)) r) : Ev (fun k => scan_Tokens.l0 k t l ((p + a : Nat) : Int)) r := by
  have hb := h.2
  have h0 := h.1
  refine star_pass t ht (p + a) o (by omega) ?_ ?_ ?_ (fun j hj => ?_) l (by rw [show p + a + (o + 4) = p + (a + (o + 4)) by omega]; exact hr)
  · rw [show ((p + a : Nat) : Int) = (p : Int) + a by omega, hb a (by omega)]; exact hx.1
  · rw [show ((p + a : Nat) : Int) + 1 = (p : Int) + ((a + 1 : Nat) : Int) by omega, hb (a + 1) (by omega)]; exact hx.2.1
  · rw [show p + a + 2 + o = p + (a + 2 + o) by omega]; exact (h.ends (a + 2 + o) (by omega)).2 hx.2.2.1
  · rw [show p + a + 2 + j = p + (a + 2 + j) by omega, h.ends (a + 2 + j) (by omega)]; exact hx.2.2.2 j hj
set_option maxRecDepth 100000 in
theorem fills_passed : ∀ f ∈ Fills, Passed f := by
  intro f hf t ht p h l r hr
  simp only [Fills, List.mem_cons, List.not_mem_nil, or_false] at hf
  obtain ⟨c32, c10, c9, c11, c12, c13⟩ := blank_cls
  rw [show (p : Int) = ((p + 0 : Nat) : Int) by omega]
  rcases hf with rfl | rfl | rfl | rfl | rfl | rfl | rfl | rfl
  · exact h.blank ht 0 (by decide) c32 l hr
  · exact h.blank ht 0 (by decide) c10 l hr
  · exact h.blank ht 0 (by decide) c9 l (h.blank ht 1 (by decide) c11 l (h.blank ht 2 (by decide) c12 l (h.blank ht 3 (by decide) c13 l (h.blank ht 4 (by decide) c32 l hr))))
  · exact h.blank ht 0 (by decide) c32 l (h.line ht 1 8 (by decide) (by decide +kernel) (by omega) l (h.blank ht 9 (by decide) c10 l hr))
  · exact h.blank ht 0 (by decide) c32 l (h.star ht 1 7 (by decide) (by decide +kernel) l (h.blank ht 12 (by decide) c32 l hr))
  · exact h.blank ht 0 (by decide) c32 l (h.blank ht 1 (by decide) c32 l (h.star ht 2 0 (by decide) (by decide +kernel) l hr))
  · exact h.blank ht 0 (by decide) c32 l (h.star ht 1 1 (by decide) (by decide +kernel) l hr)
  · exact h.blank ht 0 (by decide) c32 l (h.line ht 1 2 (by decide) (by decide +kernel) (by omega) l (h.blank ht 3 (by decide) c10 l (h.line ht 4 2 (by decide) (by decide +kernel) (by omega) l (h.blank ht 6 (by decide) c10 l hr))))
set_option maxRecDepth 100000 in
theorem fills_ascii : ∀ f ∈ Fills, (1 ≤ f.size ∧ f.size ≤ 13) ∧ word (bt f 0) = false ∧ ∀ j : Nat, j < f.size → bt f (j : Int) < 128 := by decide +kernel

/-- Tokens' texts and what stands behind each, one behind the other, from place p to the end of t. -/
def Glued (t : ByteArray) : Nat → List (S40 × ByteArray) → Prop
  | p, [] => p = t.size
  | p, (x, f) :: r => At t p x.f2 ∧ At t (p + x.f2.size) f ∧ f ∈ Fills ∧ Glued t (p + x.f2.size + f.size) r
theorem Glued.le {t : ByteArray} : ∀ {g : List (S40 × ByteArray)} {p : Nat}, Glued t p g → p ≤ t.size
  | [], _, h => by show _; have : _ = t.size := h; omega
  | (x, f) :: r, p, ⟨_, _, _, h⟩ => by have := Glued.le h; omega
/-- The same kinds and texts. -/
def LikeT : List S40 → List S40 → Prop
  | [], [] => True
  | x :: xs, y :: ys => x.f0 = y.f0 ∧ x.f2 = y.f2 ∧ LikeT xs ys
  | _, _ => False
theorem LikeT.length : ∀ {xs ys : List S40}, LikeT xs ys → xs.length = ys.length
  | [], [], _ => rfl
  | [], _ :: _, h => h.elim
  | _ :: _, [], h => h.elim
  | _ :: xs, _ :: ys, h => by simp only [List.length_cons]; rw [LikeT.length h.2.2]
theorem LikeT.append : ∀ {xs ys us vs : List S40}, LikeT xs ys → LikeT us vs → LikeT (xs ++ us) (ys ++ vs)
  | [], [], _, _, _, k => k
  | [], _ :: _, _, _, h, _ => h.elim
  | _ :: _, [], _, _, h, _ => h.elim
  | _ :: _, _ :: _, _, _, h, k => ⟨h.1, h.2.1, LikeT.append h.2.2 k⟩

/-- A token of s that stands in t, a blank behind it: it is read as the same piece. -/
theorem tk_again {s t : ByteArray} (hs : s.size ≤ 65536) (ht : t.size ≤ 65536) {x : S40} {a n p : Nat} (hT : Tk s x a n) (hA : At t p x.f2) (hw : p + n < t.size → word (bt t ((p + n : Nat) : Int)) = false) :
    x.f2.size = n ∧ p + n ≤ t.size ∧ (∀ q : Int, 0 ≤ q → q < n → bt s ((a : Int) + q) = bt t ((p : Int) + q)) ∧ bt s ((a : Int) + n - 1) < 128 ∧ bt s (a : Int) < 128 ∧ Ev (fun k => scan_disp k (cls (bt t (p : Int))) (t.extract p t.size)) (x.f0, (n : Int), 0) ∧ t.extract p (p + n) = x.f2 := by
  obtain ⟨_, n1, n2, h2, k1, k2, hd⟩ := hT
  obtain ⟨A1, A2⟩ := hA
  have hz : x.f2.size = n := by rw [h2, size_extract s a (a + n) n2]; omega
  have hag : ∀ q : Int, 0 ≤ q → q < n → bt s ((a : Int) + q) = bt t ((p : Int) + q) := by
    intro q h0 h1
    have := A2 q.toNat (by omega)
    rw [show ((q.toNat : Nat) : Int) = q by omega] at this
    rw [this, h2, bt_extract s a (a + n) n2 q h0 (by omega)]
  have hh := hag 0 (by omega) (by omega)
  rw [Int.add_zero, Int.add_zero] at hh
  obtain ⟨ss, sb, _⟩ := sub_facts s hs a (by omega)
  obtain ⟨ts, tb, _⟩ := sub_facts t ht p (by omega)
  have hp : Pre (s.extract a s.size) (t.extract p t.size) (n : Int) := by
    refine ⟨by omega, by omega, fun j j0 j1 => ?_⟩
    rw [sb j j0 (by omega), tb j j0 (by omega)]
    exact hag j j0 j1
  have hc : cls (bt (s.extract a s.size) 0) = cls (bt s (a : Int)) := by rw [sb 0 (by omega) (by omega), Int.add_zero]
  obtain ⟨g1, g2⟩ := disp_same (by omega) (by omega) hc (by omega) (by omega) hp hd (fun h => by
    rw [tb n (by omega) (by omega), show (p : Int) + n = ((p + n : Nat) : Int) by omega]
    exact hw (by omega))
  have hne : cls (bt s (a : Int)) ≠ 0 := by
    intro e
    obtain ⟨K, hK⟩ := hd
    have := hK K (Nat.le_refl _)
    rw [e] at this
    simp only [scan_disp, if_true, Option.some.injEq, Prod.mk.injEq] at this
    omega
  refine ⟨hz, by omega, hag, ?_, ascii s _ hne, by rw [← hh]; exact g1, ?_⟩
  · rw [sb _ (by omega) (by omega)] at g2
    rw [show (a : Int) + n - 1 = (a : Int) + ((n : Int) - 1) by omega]
    exact g2
  · have e1 := size_extract t p (p + n) (by omega)
    refine ext_bt (by omega) (fun i i0 i1 => ?_)
    rw [bt_extract t p (p + n) (by omega) i i0 (by omega)]
    have := A2 i.toNat (by omega)
    rw [show ((i.toNat : Nat) : Int) = i by omega] at this
    exact this

theorem at_word {t f : ByteArray} {p : Nat} (h : At t p f) (hf : f ∈ Fills) : p < t.size ∧ word (bt t (p : Int)) = false := by
  obtain ⟨⟨f1, _⟩, f2, _⟩ := fills_ascii f hf
  have h1 := h.1
  have h2 := h.2 0 (by omega)
  refine ⟨by omega, ?_⟩
  rw [show (p : Int) = (p : Int) + ((0 : Nat) : Int) by omega, h2]
  exact f2
theorem U8.ascii_run {t : ByteArray} (ht : t.size ≤ 65536) {p : Nat} {f : ByteArray} (h : At t p f) (hf : ∀ j : Nat, j < f.size → bt f (j : Int) < 128) (hU : U8 t (p + f.size)) (d : Nat) : ∀ j : Nat, j ≤ f.size → f.size - j = d → U8 t (p + j) := by
  induction d with
  | zero =>
    intro j hj hd
    obtain rfl : j = f.size := by omega
    exact hU
  | succ d ih =>
    intro j hj hd
    have h1 := h.1
    refine U8.ascii (by omega) (a := p + j) (by omega) ?_ (ih (j + 1) (by omega) (by omega))
    rw [show ((p + j : Nat) : Int) = (p : Int) + j by omega, h.2 j (by omega)]
    exact hf j (by omega)
/-- The glued text is UTF-8. -/
theorem glued_utf8 {s t : ByteArray} (hs : s.size ≤ 65536) (ht : t.size ≤ 65536) (hU : U8 s 0) : ∀ (xs : List S40) (fs : List ByteArray) (q p : Nat) (e : S40), xs.length + 1 = fs.length → Row s q xs → e.f2.size = 0 → Glued t p ((xs ++ [e]).zip fs) → U8 t p
  | [], [f], q, p, e, _, _, he, h => by
    obtain ⟨h1, h2, h3, h4⟩ := h
    have h4 : p + e.f2.size + f.size = t.size := h4
    rw [he, Nat.add_zero] at h2 h4
    have := U8.ascii_run ht h2 (fills_ascii f h3).2.2 (by rw [h4]; exact U8.done t) f.size 0 (by omega) (by omega)
    exact this
  | x :: xs, f :: fs, q, p, e, hl, ⟨a, n, _, hT, hR⟩, he, h => by
    obtain ⟨h1, h2, h3, h4⟩ := h
    have hle := Glued.le h4
    have hrest := glued_utf8 hs ht hU xs fs (a + n) _ e (by simpa using hl) hR he h4
    have hmid := U8.ascii_run ht h2 (fills_ascii f h3).2.2 hrest f.size 0 (by omega) (by omega)
    have hz : x.f2.size = n := by rw [hT.2.2.2.1, size_extract s a (a + n) hT.2.2.1]; omega
    have hwd := at_word h2 h3
    obtain ⟨_, g2, g3, g4, g5, _, _⟩ := tk_again hs ht hT h1 (fun _ => by rw [← hz]; exact hwd.2)
    have n1 := hT.2.1
    have n2 := hT.2.2.1
    exact U8.carry (by omega) (by omega) n n a p (Nat.le_refl _) (U8.bound (by omega) (by omega) g5 a 0 (by omega) (by omega) hU) n2 (fun _ => g4) g3 g2 (by rw [← hz]; exact hmid)
/-- The glued text is read as the same tokens. -/
theorem glued_tokens {s t : ByteArray} (hs : s.size ≤ 65536) (ht : t.size ≤ 65536) : ∀ (xs : List S40) (fs : List ByteArray) (q p : Nat) (e : S40) (l : List S40), xs.length + 1 = fs.length → Row s q xs → e.f2.size = 0 → Glued t p ((xs ++ [e]).zip fs) → l.length + xs.length ≤ 16383 →
    ∃ m : List S40, Ev (fun k => scan_Tokens.l0 k t l (p : Int)) (l ++ (m ++ [(⟨5, (t.size : Int), (⟨#[]⟩ : ByteArray)⟩ : S40)]), 0, 0) ∧ LikeT xs m
  | [], [f], q, p, e, l, _, _, he, h, hl => by
    obtain ⟨h1, h2, h3, h4⟩ := h
    have h4 : p + e.f2.size + f.size = t.size := h4
    rw [he, Nat.add_zero] at h2 h4
    refine ⟨[], fills_passed f h3 t ht p h2 l _ ?_, trivial⟩
    rw [h4]
    exact step_end t l (by simpa using hl)
  | x :: xs, f :: fs, q, p, e, l, hlen, ⟨a, n, _, hT, hR⟩, he, h, hl => by
    obtain ⟨h1, h2, h3, h4⟩ := h
    have hz : x.f2.size = n := by rw [hT.2.2.2.1, size_extract s a (a + n) hT.2.2.1]; omega
    have hwd := at_word h2 h3
    obtain ⟨_, g2, _, _, _, g6, g7⟩ := tk_again hs ht hT h1 (fun _ => by rw [← hz]; exact hwd.2)
    have n1 := hT.2.1
    have hk := hT.2.2.2.2.1
    simp only [List.length_cons] at hl
    obtain ⟨m, m1, m2⟩ := glued_tokens hs ht xs fs (a + n) _ e (l ++ [(⟨x.f0, (p : Int), t.extract p (p + n)⟩ : S40)]) (by simpa using hlen) hR he h4 (by rw [List.length_append]; simp; omega)
    refine ⟨(⟨x.f0, (p : Int), t.extract p (p + n)⟩ : S40) :: m, step_piece t ht p n n1 g2 l (by omega) x.f0 (by omega) g6 ?_, rfl, g7.symm, m2⟩
    rw [hz] at h2 m1
    have := fills_passed f h3 t ht (p + n) h2 (l ++ [(⟨x.f0, (p : Int), t.extract p (p + n)⟩ : S40)]) _ m1
    simpa using this
end Go.Proofs.YtabgnbbljjohdaaRDoor.Relex
