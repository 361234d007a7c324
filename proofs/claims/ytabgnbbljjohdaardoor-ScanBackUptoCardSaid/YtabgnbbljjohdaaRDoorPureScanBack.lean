/- For every text, no longer than the bulk: what scan.Quote writes is one token, a string, that stands for the text. No other condition. -/
import Derived.Test.YtabgnbbljjohdaaRDoorQuot
import Derived.Test.YtabgnbbljjohdaaRDoorAxK
namespace Go.Proofs.YtabgnbbljjohdaaRDoor.Pure
open Go.RowKit Go.Proofs.YtabgnbbljjohdaaRDoor.A Go.Proofs.YtabgnbbljjohdaaRDoorW.PrintWords Go.Proofs.YtabgnbbljjohdaaRDoor.U Go.Proofs.YtabgnbbljjohdaaRDoor.Scan1 Go.Proofs.YtabgnbbljjohdaaRDoor.Utf8 Go.Proofs.YtabgnbbljjohdaaRDoor.Unq Go.Proofs.YtabgnbbljjohdaaRDoor.Toks Go.Proofs.YtabgnbbljjohdaaRDoor.Relex Go.Proofs.YtabgnbbljjohdaaRDoor.Quot

/-- The bytes P stand in q at place p. -/
def AtL (q : ByteArray) (p : Nat) (P : List UInt8) : Prop := p + P.length ≤ q.size ∧ ∀ (j : Nat) (h : j < P.length), bt q ((p + j : Nat) : Int) = (P[j].toNat : Int)
theorem atL_of (A P B : List UInt8) : AtL (⟨(A ++ (P ++ B)).toArray⟩ : ByteArray) A.length P := by
  have hz : (⟨(A ++ (P ++ B)).toArray⟩ : ByteArray).size = A.length + (P.length + B.length) := by
    show (A ++ (P ++ B)).toArray.size = _
    simp
  refine ⟨by omega, fun j h => ?_⟩
  obtain ⟨h1, e⟩ := bt_list (⟨(A ++ (P ++ B)).toArray⟩ : ByteArray) ((A.length + j : Nat) : Int) (by omega) (by omega)
  rw [e]
  simp only [Int.toNat_natCast]
  congr 2
  rw [List.getElem_append_right (by omega)]
  simp only [Nat.add_sub_cancel_left]
  rw [List.getElem_append_left h]
theorem AtL.tail {q : ByteArray} {p : Nat} {b : UInt8} {P : List UInt8} (h : AtL q p (b :: P)) : bt q (p : Int) = (b.toNat : Int) ∧ p < q.size ∧ AtL q (p + 1) P := by
  obtain ⟨h1, h2⟩ := h
  simp only [List.length_cons] at h1 h2
  refine ⟨by simpa using h2 0 (by omega), by omega, by omega, fun j hj => ?_⟩
  have := h2 (j + 1) (by omega)
  rw [show p + 1 + j = p + (j + 1) by omega, this]
  rfl
theorem ascii_list {q : ByteArray} (hq : q.size ≤ 140737488355328) : ∀ (P : List UInt8) (p : Nat), AtL q p P → (∀ b ∈ P, b.toNat < 128) → U8 q (p + P.length) → U8 q p
  | [], _, _, _, h => h
  | b :: P, p, hA, hb, h => by
    obtain ⟨g1, g2, g3⟩ := hA.tail
    have := hb b (List.mem_cons_self ..)
    refine U8.ascii hq g2 (by omega) (ascii_list hq P (p + 1) g3 (fun c hc => hb c (List.mem_cons_of_mem _ hc)) ?_)
    simp only [List.length_cons] at h
    rw [show p + 1 + P.length = p + (P.length + 1) by omega]
    exact h
set_option maxRecDepth 100000 in
theorem oct_ascii : ∀ n : Fin 256, ∀ b ∈ scan_oct (n.val : Int), b.toNat < 128 := by decide +kernel
set_option maxRecDepth 100000 in
theorem letter_back : ∀ n : Fin 256, special (n.val : Int) = true → simple ((letterOf (n.val : Int)).toNat : Int) = ((n.val : Int), true) ∧ (letterOf (n.val : Int)).toNat < 128 := by decide +kernel
set_option maxRecDepth 100000 in
theorem digit_val : ∀ n : Fin 8, scan_value.f 4 (48 + (n.val : Int)) = some (n.val : Int) ∧ (simple (48 + (n.val : Int))).2 = false := by decide +kernel
set_option maxRecDepth 100000 in
theorem oct_digits : ∀ n : Fin 256, scan_oct (n.val : Int) = [92, UInt8.ofNat (48 + n.val / 64), UInt8.ofNat (48 + n.val / 8 % 8), UInt8.ofNat (48 + n.val % 8)] := by decide +kernel

set_option linter.unusedSectionVars false
section
variable (q : ByteArray) (hq : q.size ≤ 70368744177664) (h34 : bt q 0 = 34)
include hq h34
/-- One round at a byte that ends nothing. -/
theorem unq_step (p : Nat) (hp : p < q.size) (c : Int) (hc : bt q (p : Int) = c) (h1 : c ≠ 34) (h2 : c ≠ 0) (h3 : c ≠ 10) (x : List Int) {r : ByteArray × Int × Bool} (h : Ev (fun k => scan_unquoted.j2 k q x (p : Int) c c false) r) : Ev (fun k => scan_unquoted.l0 k q x (p : Int)) r := by
  refine Ev.step (fun k => ?_) h
  simp only [scan_unquoted.l0]
  rw [if_pos (by omega), if_pos (by omega), if_pos (by omega), hc, h34, if_neg h1, if_neg h2, beq_eq_false_iff_ne.mpr h3]
theorem unq_plain (p : Nat) (hp : p < q.size) (c : Int) (hc : bt q (p : Int) = c) (h1 : c ≠ 34) (h2 : c ≠ 0) (h3 : c ≠ 10) (h4 : c ≠ 92) (x : List Int) (hx : x.length ≤ 70368744177664) {r : ByteArray × Int × Bool} (h : Ev (fun k => scan_unquoted.l0 k q (x ++ [c]) ((p + 1 : Nat) : Int)) r) : Ev (fun k => scan_unquoted.l0 k q x (p : Int)) r := by
  refine unq_step q hq h34 p hp c hc h1 h2 h3 x (Ev.step (fun k => ?_) h)
  simp only [scan_unquoted.j2]
  rw [if_neg Bool.false_ne_true, if_neg h4, if_pos (by omega), w64 (by omega) (by omega)]
  rfl
theorem plain_run : ∀ (P : List UInt8) (p : Nat) (x : List Int), AtL q p P → (∀ b ∈ P, (b.toNat : Int) ≠ 34 ∧ (b.toNat : Int) ≠ 0 ∧ (b.toNat : Int) ≠ 10 ∧ (b.toNat : Int) ≠ 92) → x.length + P.length ≤ 70368744177664 → ∀ r : ByteArray × Int × Bool, Ev (fun k => scan_unquoted.l0 k q (x ++ P.map (fun b => (b.toNat : Int))) ((p + P.length : Nat) : Int)) r → Ev (fun k => scan_unquoted.l0 k q x (p : Int)) r
  | [], p, x, _, _, _, r, h => by simpa using h
  | b :: P, p, x, hA, hb, hx, r, h => by
    obtain ⟨g1, g2, g3⟩ := hA.tail
    obtain ⟨b1, b2, b3, b4⟩ := hb b (List.mem_cons_self ..)
    simp only [List.length_cons] at hx h
    refine unq_plain q hq h34 p g2 _ g1 b1 b2 b3 b4 x (by omega) (plain_run P (p + 1) (x ++ [(b.toNat : Int)]) g3 (fun c hc => hb c (List.mem_cons_of_mem _ hc)) (by rw [List.length_append]; simp; omega) r ?_)
    rw [show p + 1 + P.length = p + (P.length + 1) by omega]
    simpa using h
/-- An escape, whatever it is. -/
theorem unq_esc (p : Nat) (hp : p < q.size) (hc : bt q (p : Int) = 92) (b : Int) (n : Nat) (hn : 1 ≤ n) (hn2 : p + 1 + n ≤ q.size) (he : Ev (fun k => scan_escape.f k (q.extract (p + 1) q.size)) (b, (n : Int))) (x : List Int) (hx : x.length ≤ 70368744177664) {r : ByteArray × Int × Bool} (h : Ev (fun k => scan_unquoted.l0 k q (x ++ [b]) ((p + (1 + n) : Nat) : Int)) r) : Ev (fun k => scan_unquoted.l0 k q x (p : Int)) r := by
  refine unq_step q hq h34 p hp 92 hc (by omega) (by omega) (by omega) x (Ev.step (f := fun k => (scan_escape.f k (q.extract (p + 1) q.size)).bind fun bt108 => (if bt108.2 = 0 then (some ((⟨#[]⟩ : ByteArray), 0, false)) else (if x.length < 140737488355328 then (scan_unquoted.l0 k q (x ++ [bt108.1]) (wrap64 ((p : Int) + (wrap64 (1 + bt108.2))))) else (none)))) (fun k => ?_) (Ev.bind he ?_))
  · simp only [scan_unquoted.j2]
    rw [if_neg Bool.false_ne_true, if_pos trivial, w64 (n := (p : Int) + 1) (by omega) (by omega), if_pos (by omega), if_pos (by omega), show ((p : Int) + 1).toNat = p + 1 by omega]
  · simp only [if_neg (show ¬ (n : Int) = 0 by omega), if_pos (show x.length < 140737488355328 by omega)]
    rw [w64 (n := 1 + (n : Int)) (by omega) (by omega), w64 (by omega) (by omega), show (p : Int) + (1 + (n : Int)) = ((p + (1 + n) : Nat) : Int) by omega]
    exact h
omit h34 in
theorem esc_letter (p : Nat) (c : Int) (c0 : 0 ≤ c) (c1 : c ≤ 255) (sp : special c = true) (hA : AtL q p [letterOf c]) : Ev (fun k => scan_escape.f k (q.extract p q.size)) (c, ((1 : Nat) : Int)) := by
  obtain ⟨g1, g2, _⟩ := hA.tail
  have hz := size_extract q p q.size (Nat.le_refl _)
  have hb : bt (q.extract p q.size) 0 = ((letterOf c).toNat : Int) := by rw [bt_extract q p q.size (Nat.le_refl _) 0 (by omega) (by omega), Int.add_zero, g1]
  have hl := byte_all (P := fun c => special c = true → simple ((letterOf c).toNat : Int) = (c, true) ∧ (letterOf c).toNat < 128) letter_back c0 c1 sp
  refine Ev.some' _ (fun k => ?_)
  simp only [scan_escape.f]
  rw [if_neg (fun h => by have := (toList_nil _).1 h; omega), if_pos (by omega), simple_eq, Option.bind_some, hb, hl.1]
  rfl
omit h34 in
theorem esc_oct (p : Nat) (c : Int) (c0 : 0 ≤ c) (c1 : c ≤ 255) (hA : AtL q p (scan_oct c).tail) : Ev (fun k => scan_escape.f k (q.extract p q.size)) (c, ((3 : Nat) : Int)) := by
  obtain ⟨m, rfl⟩ : ∃ m : Nat, c = (m : Int) := ⟨c.toNat, by omega⟩
  have hm : m < 256 := by omega
  rw [oct_digits ⟨m, hm⟩] at hA
  simp only [List.tail_cons] at hA
  obtain ⟨g1, g2, hA⟩ := hA.tail
  obtain ⟨k1, k2, hA⟩ := hA.tail
  obtain ⟨l1, l2, _⟩ := hA.tail
  have toN : ∀ v : Nat, v < 8 → (((UInt8.ofNat (48 + v)).toNat : Nat) : Int) = 48 + (v : Int) := by
    intro v hv
    rw [UInt8.toNat_ofNat']
    omega
  rw [toN _ (by omega)] at g1 k1 l1
  have hz := size_extract q p q.size (Nat.le_refl _)
  have hb : ∀ j : Int, 0 ≤ j → j < (q.size : Int) - p → bt (q.extract p q.size) j = bt q ((p : Int) + j) := fun j h0 h1 => bt_extract q p q.size (Nat.le_refl _) j h0 h1
  have d0 : bt (q.extract p q.size) 0 = 48 + ((m / 64 : Nat) : Int) := by rw [hb 0 (by omega) (by omega), Int.add_zero]; exact g1
  have d1 : bt (q.extract p q.size) 1 = 48 + ((m / 8 % 8 : Nat) : Int) := by rw [hb 1 (by omega) (by omega), show (p : Int) + 1 = ((p + 1 : Nat) : Int) by omega]; exact k1
  have d2 : bt (q.extract p q.size) 2 = 48 + ((m % 8 : Nat) : Int) := by rw [hb 2 (by omega) (by omega), show (p : Int) + 2 = ((p + 1 + 1 : Nat) : Int) by omega]; exact l1
  have val : ∀ v : Nat, v < 8 → Ev (fun k => scan_value.f k (48 + (v : Int))) (v : Int) := fun v hv => Ev.of (scan_value.mono _) (digit_val ⟨v, hv⟩).1
  generalize hT : q.extract p q.size = T at *
  have round : ∀ (j : Nat) (n : Int) (v : Nat) (y : Int × Int), j < 3 → v < 8 → 0 ≤ n → n ≤ 100 → bt T (j : Int) = 48 + (v : Int) → Ev (fun k => scan_escape.l0 k T 8 ((j + 1 : Nat) : Int) 3 (n * 8 + v) 0) y → Ev (fun k => scan_escape.l0 k T 8 (j : Int) 3 n 0) y := by
    intro j n v y hj hv n0 n1 hd hy
    refine Ev.step (f := fun k => (scan_value.f k (bt T (j : Int))).bind fun t105 => (if t105 < 8 then ((scan_value.f k (bt T (j : Int))).bind fun t106 => (scan_escape.l0 k T 8 (wrap64 ((j : Int) + 1)) 3 (wrap64 ((wrap64 (n * 8)) + t106)) 0)) else (if (j : Int) = 0 then (some (0, 0)) else (if n > 255 then (some (0, 0)) else (some ((n) % 256, (j : Int))))))) (fun k => ?_) ?_
    · simp only [scan_escape.l0]
      rw [if_pos (by omega), w64 (n := 0 + 3) (by omega) (by omega), if_pos (by omega), if_pos (by omega)]
    · rw [hd]
      refine Ev.bind (val v hv) ?_
      simp only [if_pos (show (v : Int) < 8 by omega)]
      refine Ev.bind (val v hv) ?_
      rw [w64 (n := (j : Int) + 1) (by omega) (by omega), w64 (n := n * 8) (by omega) (by omega), w64 (by omega) (by omega)]
      exact hy
  have last : Ev (fun k => scan_escape.l0 k T 8 3 3 (((0 * 8 + ((m / 64 : Nat) : Int)) * 8 + ((m / 8 % 8 : Nat) : Int)) * 8 + ((m % 8 : Nat) : Int)) 0) ((m : Int), ((3 : Nat) : Int)) := by
    have e : ((0 * 8 + ((m / 64 : Nat) : Int)) * 8 + ((m / 8 % 8 : Nat) : Int)) * 8 + ((m % 8 : Nat) : Int) = (m : Int) := by omega
    rw [e]
    have stop : (if (3 : Int) = 0 then (some ((0 : Int), (0 : Int))) else (if (m : Int) > 255 then (some (0, 0)) else (some ((m : Int) % 256, 3)))) = some ((m : Int), ((3 : Nat) : Int)) := by
      rw [if_neg (by omega), if_neg (by omega), Int.emod_eq_of_lt (by omega) (by omega)]
      rfl
    refine Ev.step (f := fun _ => some ((m : Int), ((3 : Nat) : Int))) (fun k => ?_) (Ev.now _)
    simp only [scan_escape.l0]
    by_cases c3 : (3 : Int) < (T.size : Int)
    · rw [if_pos c3, w64 (n := 0 + 3) (by omega) (by omega), if_neg (by omega)]
      exact stop
    · rw [if_neg c3]
      exact stop
  have all := round 0 0 (m / 64) _ (by omega) (by omega) (by omega) (by omega) d0 (round 1 _ (m / 8 % 8) _ (by omega) (by omega) (by omega) (by omega) d1 (round 2 _ (m % 8) _ (by omega) (by omega) (by omega) (by omega) d2 last))
  have s0 : (simple (bt T 0)).2 = false := by rw [d0]; exact (digit_val ⟨m / 64, by omega⟩).2
  refine Ev.congr (f := fun k => scan_escape.j0 k T 8 0 3 false) (fun k => ?_) (Ev.step (f := fun k => scan_escape.j1 k T 8 0 3) (fun k => by simp only [scan_escape.j0]; rw [if_neg Bool.false_ne_true]) (Ev.step (f := fun k => scan_escape.l0 k T 8 0 3 0 0) (fun k => by simp only [scan_escape.j1]) all))
  simp only [scan_escape.f]
  rw [if_neg (fun h => by have := (toList_nil _).1 h; omega), if_pos (by omega), simple_eq, Option.bind_some, s0, if_neg Bool.false_ne_true, if_neg (by omega), beq_eq_false_iff_ne.mpr (by omega)]
end

theorem bytes_join (s : ByteArray) (i n : Nat) (_h : i + n ≤ s.size) : bytesOf (s.extract 0 i) ++ bytesOf (s.extract i (i + n)) = bytesOf (s.extract 0 (i + n)) := by
  unfold bytesOf
  rw [← List.map_append]
  congr 1
  rw [Lib.extract_data, Lib.extract_data, Lib.extract_data, List.drop_zero, Nat.sub_zero, Nat.sub_zero, Nat.add_sub_cancel_left, List.take_add]
theorem bytes_one (s : ByteArray) (i : Nat) (h : i < s.size) : bytesOf (s.extract i (i + 1)) = [bt s (i : Int)] := by
  obtain ⟨h1, e⟩ := bt_list s (i : Int) (by omega) (by omega)
  have ha : ((i : Int)).toNat = i := by omega
  simp only [ha] at h1 e
  unfold bytesOf
  rw [Lib.extract_data, List.drop_eq_getElem_cons h1, show i + 1 - i = 1 by omega, List.take_succ_cons, List.take_zero, e]
  rfl
/-- Reading what Quote wrote from place i of the text on. -/
theorem back_from (s : ByteArray) (hs : s.size ≤ 17592186044416) (d : Nat) : ∀ (i : Nat) (A E : List UInt8) (q : ByteArray), q = (⟨(A ++ (E ++ [34])).toArray⟩ : ByteArray) → q.size ≤ 70368744177664 → 1 ≤ A.length → bt q 0 = 34 → i ≤ s.size → Enc s d i E →
    Ev (fun k => scan_unquoted.l0 k q (bytesOf (s.extract 0 i)) (A.length : Int)) (strOfNums (bytesOf s), (q.size : Int), true) ∧ U8 q A.length := by
  have fin : ∀ (i : Nat) (A E : List UInt8) (q : ByteArray), q = (⟨(A ++ (E ++ [34])).toArray⟩ : ByteArray) → q.size ≤ 70368744177664 → 1 ≤ A.length → bt q 0 = 34 → i = s.size ∧ E = [] →
      Ev (fun k => scan_unquoted.l0 k q (bytesOf (s.extract 0 i)) (A.length : Int)) (strOfNums (bytesOf s), (q.size : Int), true) ∧ U8 q A.length := by
    rintro i A E q hq hz hA h34 ⟨rfl, rfl⟩
    have hAt := atL_of A [34] []
    rw [List.append_nil] at hAt
    rw [List.nil_append] at hq
    rw [← hq] at hAt
    have hzz : q.size = A.length + 1 := by
      rw [hq]
      show (A ++ [34]).toArray.size = _
      simp
    obtain ⟨g1, g2, _⟩ := hAt.tail
    have g1 : bt q (A.length : Int) = 34 := g1
    refine ⟨Ev.step (f := fun _ => some (strOfNums (bytesOf s), (q.size : Int), true)) (fun k => ?_) (Ev.now _), U8.ascii (by omega) g2 (by omega) (by rw [← hzz]; exact U8.done q)⟩
    simp only [scan_unquoted.l0]
    rw [if_pos (by omega), if_pos (by omega), if_pos (by omega), g1, h34, if_pos rfl, w64 (by omega) (by omega), sub_all, hzz]
    rfl
  induction d with
  | zero => intro i A E q hq hz hA h34 hi h; exact fin i A E q hq hz hA h34 h
  | succ d ih =>
    intro i A E q hq hz hA h34 hi h
    rcases h with h | ⟨n, P, E', rfl, ⟨n1, n2, hP⟩, hE⟩
    · exact fin i A E q hq hz hA h34 h
    have hq2 : q = (⟨((A ++ P) ++ (E' ++ [34])).toArray⟩ : ByteArray) := by rw [hq]; simp only [List.append_assoc]
    obtain ⟨h1, h2⟩ := ih (i + n) (A ++ P) E' q hq2 hz (by rw [List.length_append]; omega) h34 n2 hE
    rw [List.length_append] at h1 h2
    have hAt : AtL q A.length P := by
      have := atL_of A P (E' ++ [34])
      rw [hq]
      simpa only [List.append_assoc] using this
    have hbr := bt_range s (i : Int)
    have hx := bytesOf_length (s.extract 0 i)
    have hx2 := size_extract s 0 i hi
    rcases hP with ⟨hp, hc, hp1, hp2⟩ | ⟨rfl, sp, rfl⟩ | ⟨rfl, sp, ho1, ho2, rfl⟩
    · have en := size_extract s i (i + n) n2
      have eP : P.length = n := by
        rw [hp, Array.length_toList]
        show (s.extract i (i + n)).size = n
        omega
      have hag : ∀ x : Int, 0 ≤ x → x < (n : Int) → bt s ((i : Int) + x) = bt q ((A.length : Int) + x) := by
        intro x x0 x1
        have := hAt.2 x.toNat (by omega)
        rw [show ((A.length + x.toNat : Nat) : Int) = (A.length : Int) + x by omega] at this
        rw [this]
        obtain ⟨b1, b2⟩ := bt_list (s.extract i (i + n)) x x0 (by omega)
        rw [bt_extract s i (i + n) n2 x x0 (by omega)] at b2
        rw [b2]
        congr 2
        simp only [hp]
      have hcs := chr_same (a := i) (b := A.length) (s := s) (t := q) (by omega) (by omega) hi hc (by omega)
      refine ⟨plain_run q hz h34 P A.length _ hAt (fun b hb => ?_) (by omega) _ ?_, U8.prev (by omega) (by have := hAt.1; omega) n1 (by have := hAt.1; omega) (hcs.2 hag (by have := hAt.1; omega)) (by rw [← eP]; exact h2)⟩
      · obtain ⟨j, hj, rfl⟩ := List.mem_iff_getElem.1 hb
        have hj1 := hAt.2 j hj
        have hj2 := hag (j : Int) (by omega) (by omega)
        rw [show (A.length : Int) + (j : Int) = ((A.length + j : Nat) : Int) by omega, hj1] at hj2
        by_cases c : n = 1
        · have := hp1 c
          have e0 : bt s ((i : Int) + (j : Int)) = bt s (i : Int) := by rw [show (i : Int) + (j : Int) = i by omega]
          have sp := this.2.2
          simp only [special, Bool.or_eq_false_iff, beq_eq_false_iff_ne] at sp
          omega
        · have h3 := hp2 (by omega)
          by_cases e0 : j = 0
          · have e1 : bt s ((i : Int) + (j : Int)) = bt s (i : Int) := by rw [show (i : Int) + (j : Int) = i by omega]
            omega
          · have := hcs.1 (j : Int) (by omega) (by omega)
            omega
      · have e : bytesOf (s.extract 0 i) ++ P.map (fun b => (b.toNat : Int)) = bytesOf (s.extract 0 (i + n)) := by
          rw [← bytes_join s i n n2, hp]
          rfl
        rw [e]
        exact h1
    · have hl := byte_all (P := fun c => special c = true → simple ((letterOf c).toNat : Int) = (c, true) ∧ (letterOf c).toNat < 128) letter_back hbr.1 hbr.2 sp
      obtain ⟨g1, g2, g3⟩ := hAt.tail
      refine ⟨unq_esc q hz h34 A.length g2 g1 (bt s (i : Int)) 1 (Nat.le_refl _) (by have := g3.1; simpa using this) (esc_letter q hz (A.length + 1) _ hbr.1 hbr.2 sp g3) _ (by omega) ?_, ascii_list (by omega) _ _ hAt (fun b hb => ?_) h2⟩
      · rw [← bytes_join s i 1 n2, bytes_one s i (by omega)] at h1
        exact h1
      · simp only [List.mem_cons, List.not_mem_nil, or_false] at hb
        rcases hb with rfl | rfl
        · decide
        · exact hl.2
    · have ha := byte_all (P := fun c => ∀ b ∈ scan_oct c, b.toNat < 128) oct_ascii hbr.1 hbr.2
      have hAt2 : AtL q A.length (92 :: (scan_oct (bt s (i : Int))).tail) := hAt
      obtain ⟨g1, g2, g3⟩ := hAt2.tail
      refine ⟨unq_esc q hz h34 A.length g2 g1 (bt s (i : Int)) 3 (by omega) (by have := g3.1; have e : (scan_oct (bt s (i : Int))).tail.length = 3 := rfl; omega) (esc_oct q hz (A.length + 1) _ hbr.1 hbr.2 g3) _ (by omega) ?_, ascii_list (by omega) _ _ hAt ha h2⟩
      rw [← bytes_join s i 1 n2, bytes_one s i (by omega)] at h1
      exact h1
theorem bytes_back (s : ByteArray) : strOfNums (bytesOf s) = s := by
  apply ByteArray.ext
  apply Array.toList_inj.mp
  rw [strOfNums_data]
  exact bytes_u8 s

theorem ScanBack2 (s : ByteArray) (_ : s.size ≤ 140737488355328) (hs : s.size ≤ 1048576) : ∃ k, sigillaw4_ScanBack.f k s = some true := by
  refine Ev.rounds (g := fun k => sigillaw4_ScanBack.f k s) ?_
  obtain ⟨E, hE, hl, hq⟩ := quote_ev s (by omega)
  generalize hqq : (⟨([34] ++ (E ++ [34])).toArray⟩ : ByteArray) = q at hq
  have hz : q.size = E.length + 2 := by
    rw [← hqq]
    show ([34] ++ (E ++ [34])).toArray.size = _
    simp
  have a0 := atL_of [] [34] (E ++ [34])
  have a1 := atL_of ([34] ++ E) [34] []
  rw [List.nil_append, hqq] at a0
  rw [List.append_nil, List.append_assoc, hqq] at a1
  have b0 : bt q 0 = 34 := a0.tail.1
  have b1 : bt q ((q.size : Int) - 1) = 34 := by
    have := a1.tail.1
    have e : ((([34] ++ E : List UInt8).length : Nat) : Int) = (q.size : Int) - 1 := by
      rw [List.length_append, List.length_cons, List.length_nil]; omega
    rw [e] at this
    exact this
  obtain ⟨hu, hU⟩ := back_from s (by omega) s.size 0 [34] E q hqq.symm (by omega) (by simp) b0 (by omega) hE
  have e0 : bytesOf (s.extract 0 0) = ([] : List Int) := by
    have := bytesOf_length (s.extract 0 0)
    have h2 := size_extract s 0 0 (by omega)
    exact List.eq_nil_of_length_eq_zero (by omega)
  rw [e0, bytes_back] at hu
  have hU0 : U8 q 0 := U8.ascii (by omega) (by omega) (by rw [show (((0 : Nat)) : Int) = 0 from rfl, b0]; omega) hU
  have hne : ¬ q.toList = ([] : List UInt8) := fun h => by have := (toList_nil q).1 h; omega
  have hcls : cls (bt q 0) = 4 := (quote_eq q 0).2 (.inl b0)
  have hunq : Ev (fun k => scan_unquoted.f k q) (s, (q.size : Int), true) := by
    refine Ev.congr (f := fun k => (scan_class.f k (bt q 0)).bind fun t107 => scan_unquoted.j0 k q (t107 != 4)) (fun k => ?_) (Ev.bind (class_ev q 0) ?_)
    · simp only [scan_unquoted.f]; rw [if_neg hne, if_pos (by omega)]
    · rw [hcls]
      exact Ev.step (f := fun k => scan_unquoted.l0 k q ([] : List Int) 1) (fun k => by simp only [scan_unquoted.j0]; rw [if_neg (by decide)]) hu
  refine Ev.congr (f := fun k => (scan_Quote.f k s).bind fun t413 => (if (t413.size : Int) < 2 then (sigillaw4_ScanBack.j0 k s t413 true) else (if 0 < (t413.size : Int) then (if (bt t413 0) = 34 then (if 0 ≤ (wrap64 ((t413.size : Int) - 1)) then (if (wrap64 ((t413.size : Int) - 1)) < (t413.size : Int) then (sigillaw4_ScanBack.j0 k s t413 ((bt t413 (wrap64 ((t413.size : Int) - 1))) != 34)) else (none)) else (none)) else (sigillaw4_ScanBack.j0 k s t413 true)) else (none)))) (fun k => rfl) (Ev.bind hq ?_)
  simp only [if_neg (show ¬ (q.size : Int) < 2 by omega), if_pos (show 0 < (q.size : Int) by omega), if_pos b0]
  rw [w64 (n := (q.size : Int) - 1) (by omega) (by omega)]
  simp only [if_pos (show 0 ≤ (q.size : Int) - 1 by omega), if_pos (show (q.size : Int) - 1 < (q.size : Int) by omega)]
  rw [b1]
  refine Ev.step (f := fun k => (scan_Unquote.f k q).bind fun bt414 => ((scan_Tokens.f k q).bind fun bt416 => (if (q.size : Int) > 65536 then (if bt414.2 = 2 then (some (bt416.2.2 == 2)) else (some false)) else (if bt414.2 = 0 then (if bt414.1.toList = s.toList then (if bt416.2.2 = 0 then (if (bt416.1.length : Int) = 2 then (if 0 < (bt416.1.length : Int) then (some (((rd_T40 bt416.1 0).f0) == 3 && (((rd_T40 bt416.1 0).f1) == 0 && ((((rd_T40 bt416.1 0).f2).toList) == q.toList)))) else (none)) else (some false)) else (some false)) else (some false)) else (some false))))) (fun k => by simp only [sigillaw4_ScanBack.j0]; rw [if_neg (by decide)]) ?_
  by_cases c : (q.size : Int) > 65536
  · refine Ev.bind (a := ((⟨#[]⟩ : ByteArray), 2)) (Ev.some' _ (fun k => by simp only [scan_Unquote.f]; rw [if_pos c])) (Ev.bind (a := ([], 0, 2)) (Ev.some' _ (fun k => by simp only [scan_Tokens.f]; rw [if_pos c])) ?_)
    simp only [if_pos c, if_true]
    exact Ev.now _
  · have hm1 : ¬ (-1 : Int) ≥ 0 := by omega
    refine Ev.bind (a := (s, 0)) ?_ (Ev.bind (a := ([(⟨3, 0, q⟩ : S40), (⟨5, (q.size : Int), (⟨#[]⟩ : ByteArray)⟩ : S40)], 0, 0)) ?_ ?_)
    · refine Ev.congr (f := fun k => (wire_Utf8.f k q).bind fun t116 => (if t116 ≥ 0 then (some ((⟨#[]⟩ : ByteArray), 44)) else ((scan_unquoted.f k q).bind fun bt117 => (if bt117.2.2 = true then (if bt117.2.1 = (q.size : Int) then (some (bt117.1, 0)) else (some ((⟨#[]⟩ : ByteArray), 42))) else (some ((⟨#[]⟩ : ByteArray), 42)))))) (fun k => by simp only [scan_Unquote.f]; rw [if_neg c]) (Ev.bind hU0 ?_)
      simp only [if_neg hm1]
      refine Ev.bind hunq ?_
      simp only [if_true]
      exact Ev.now _
    · refine Ev.congr (f := fun k => (wire_Utf8.f k q).bind fun u => if u ≥ 0 then some (([] : List S40), u, 44) else scan_Tokens.l0 k q ([] : List S40) 0) (fun k => by simp only [scan_Tokens.f]; rw [if_neg c]) (Ev.bind hU0 ?_)
      simp only [if_neg hm1]
      have hd : Ev (fun k => scan_disp k (cls (bt q ((0 : Nat) : Int))) (q.extract 0 q.size)) (3, (q.size : Int), 0) := by
        rw [sub_all, show (((0 : Nat)) : Int) = 0 from rfl, hcls]
        refine Ev.congr (f := fun k => (scan_unquoted.f k q).bind fun bt156 => (if bt156.2.2 = true then (some (3, bt156.2.1, 0)) else (some (0, 0, 42)))) (fun k => rfl) (Ev.bind hunq ?_)
        simp only [if_true]
        exact Ev.now _
      have := step_piece q (by omega) 0 q.size (by omega) (by omega) [] (by simp) 3 (by omega) hd (r := ([(⟨3, 0, q⟩ : S40), (⟨5, (q.size : Int), (⟨#[]⟩ : ByteArray)⟩ : S40)], 0, 0)) ?_
      · exact this
      · rw [Nat.zero_add, sub_all]
        exact Relex.step_end q [(⟨3, 0, q⟩ : S40)] (by simp)
    · simp only [if_neg c, if_true]
      refine Ev.some' _ (fun k => ?_)
      have r0 : rd_T40 [(⟨3, 0, q⟩ : S40), (⟨5, (q.size : Int), (⟨#[]⟩ : ByteArray)⟩ : S40)] 0 = (⟨3, 0, q⟩ : S40) := rfl
      have l2 : (([(⟨3, 0, q⟩ : S40), (⟨5, (q.size : Int), (⟨#[]⟩ : ByteArray)⟩ : S40)].length : Nat) : Int) = 2 := rfl
      rw [l2, if_pos rfl, if_pos (by omega), r0]
      simp
end Go.Proofs.YtabgnbbljjohdaaRDoor.Pure
