/- Plain laws on reading a text's pieces anew: what stands at a place of one text and again in another, no letter or digit behind it, is read as the same piece; what the tokens of a text are made of. No condition but the texts' sizes. -/
import Derived.Test.YtabgnbbljjohdaaRDoorToks2
namespace Go.Proofs.YtabgnbbljjohdaaRDoor.Relex
open Go.RowKit Go.Proofs.YtabgnbbljjohdaaRDoor.A Go.Proofs.YtabgnbbljjohdaaRDoorW.PrintWords Go.Proofs.YtabgnbbljjohdaaRDoor.U Go.Proofs.YtabgnbbljjohdaaRDoor.Scan1 Go.Proofs.YtabgnbbljjohdaaRDoor.Utf8 Go.Proofs.YtabgnbbljjohdaaRDoor.Unq Go.Proofs.YtabgnbbljjohdaaRDoor.Worth Go.Proofs.YtabgnbbljjohdaaRDoor.Toks

/-- The first n bytes are the same. -/
def Pre (t u : ByteArray) (n : Int) : Prop := n ≤ (t.size : Int) ∧ n ≤ (u.size : Int) ∧ ∀ j : Int, 0 ≤ j → j < n → bt t j = bt u j

theorem row_same {t u : ByteArray} {n : Int} (ht : t.size ≤ 140737488355328) (hu : u.size ≤ 140737488355328) (hp : Pre t u n) (h : Ev (fun k => scan_row.f k t) n) (hw : n < (u.size : Int) → word (bt u n) = false) :
    Ev (fun k => scan_row.f k u) n ∧ (1 ≤ n → word (bt t (n - 1)) = true) := by
  obtain ⟨r, hr, h0, h1, h2, h3⟩ := row_ev t ht
  obtain rfl : n = r := Ev.unique h hr
  obtain ⟨q, hq, g0, g1, g2, g3⟩ := row_ev u hu
  obtain ⟨p1, p2, p3⟩ := hp
  have e : q = n := by
    rcases Int.lt_trichotomy q n with c | c | c
    · exfalso
      have h := h2 q g0 c
      rw [p3 q g0 c, g3 (by omega)] at h
      cases h
    · exact c
    · exfalso
      have h := g2 n h0 c
      rw [hw (by omega)] at h
      cases h
  subst e
  exact ⟨hq, fun c => h2 _ (by omega) (by omega)⟩
theorem pre_extract {t u : ByteArray} {n : Int} (hp : Pre t u n) (h0 : 0 ≤ n) : t.extract 0 n.toNat = u.extract 0 n.toNat := by
  obtain ⟨p1, p2, p3⟩ := hp
  have e1 := size_extract t 0 n.toNat (by omega)
  have e2 := size_extract u 0 n.toNat (by omega)
  refine ext_bt (by omega) (fun i i0 i1 => ?_)
  rw [bt_extract t 0 n.toNat (by omega) i i0 (by omega), bt_extract u 0 n.toNat (by omega) i i0 (by omega)]
  exact p3 _ (by omega) (by omega)
theorem number_same {t u : ByteArray} {n : Int} {kd : Int} (ht : t.size ≤ 140737488355328) (hu : u.size ≤ 140737488355328) (hk : kd ≠ 0) (hp : Pre t u n) (h : Ev (fun k => scan_number.f k t) (kd, n, 0)) (hw : n < (u.size : Int) → word (bt u n) = false) :
    Ev (fun k => scan_number.f k u) (kd, n, 0) ∧ (1 ≤ n → word (bt t (n - 1)) = true) := by
  have num : ∀ (v : ByteArray) (r : Int) (w : Int × Bool), 0 ≤ r → r ≤ (v.size : Int) → Ev (fun k => scan_row.f k v) r → Ev (fun k => scan_worth.f k (v.extract 0 r.toNat)) w → Ev (fun k => scan_number.f k v) (if w.2 = true then (2, r, 0) else (0, 0, 41)) := by
    intro v r w r0 r1 hr hw
    refine Ev.congr (f := fun k => (scan_row.f k v).bind fun t152 => if 0 ≤ t152 then (if t152 ≤ (v.size : Int) then ((scan_worth.f k (v.extract 0 (t152 : Int).toNat)).bind fun bt153 => (if bt153.2 = true then (some (2, t152, 0)) else (some (0, 0, 41)))) else (none)) else (none)) (fun k => rfl) (Ev.bind hr ?_)
    simp only [if_pos r0, if_pos r1]
    refine Ev.bind hw (Ev.some' _ (fun k => ?_))
    split <;> rfl
  obtain ⟨r, hr, r0, r1, _, _⟩ := row_ev t ht
  have ez := size_extract t 0 r.toNat (by omega)
  obtain ⟨w, w1, _⟩ := worth_both (t.extract 0 r.toNat) (by omega)
  have hx := Ev.unique h (num t r w r0 r1 hr w1)
  by_cases c : w.2 = true
  · rw [if_pos c] at hx
    simp only [Prod.mk.injEq, and_true] at hx
    obtain ⟨hk2, rfl⟩ := hx
    obtain ⟨g1, g2⟩ := row_same ht hu hp hr hw
    rw [pre_extract hp r0] at w1
    have hy := num u n w r0 hp.2.1 g1 w1
    rw [if_pos c, ← hk2] at hy
    exact ⟨hy, g2⟩
  · rw [if_neg c] at hx
    simp only [Prod.mk.injEq] at hx
    exact absurd hx.1 hk

/-- How an escape's digits end. -/
theorem esc_stop {x7 x9 o r q : Int} (h : (if x7 = o then (some (0, 0)) else (if x9 > 255 then (some (0, 0)) else (some ((x9) % 256, x7)))) = some (r, q)) : q = 0 ∨ q = x7 := by
  by_cases c1 : x7 = o
  · rw [if_pos c1] at h
    simp only [Option.some.injEq, Prod.mk.injEq] at h
    exact .inl h.2.symm
  · rw [if_neg c1] at h
    by_cases c2 : x9 > 255
    · rw [if_pos c2] at h
      simp only [Option.some.injEq, Prod.mk.injEq] at h
      exact .inl h.2.symm
    · rw [if_neg c2] at h
      simp only [Option.some.injEq, Prod.mk.injEq] at h
      exact .inr h.2.symm
theorem esc_l0 (t u : ByteArray) (n : Int) (hp : Pre t u n) (ht : t.size ≤ 140737488355328) (b m o : Int) : ∀ (k : Nat) (x9 x7 r q : Int), 0 ≤ x7 → x7 ≤ (t.size : Int) → scan_escape.l0 k t b x7 m x9 o = some (r, q) →
    (q = 0 ∨ x7 ≤ q ∧ q ≤ (t.size : Int)) ∧ (q ≠ 0 → q < n → scan_escape.l0 k u b x7 m x9 o = some (r, q)) := by
  obtain ⟨p1, p2, p3⟩ := hp
  intro k
  induction k with
  | zero => intro x9 x7 r q _ _ h; simp [scan_escape.l0] at h
  | succ k ih =>
    intro x9 x7 r q h0 h1 h
    simp only [scan_escape.l0] at h ⊢
    by_cases c1 : x7 < (t.size : Int)
    · rw [if_pos c1] at h
      by_cases c2 : x7 < wrap64 (o + m)
      · rw [if_pos c2, if_pos h0] at h
        obtain ⟨v, hv, h⟩ := Option.bind_eq_some_iff.mp h
        by_cases c3 : v < b
        · rw [if_pos c3] at h
          obtain ⟨v2, hv2, h⟩ := Option.bind_eq_some_iff.mp h
          obtain rfl : v = v2 := Option.some.inj (hv.symm.trans hv2)
          rw [w64 (n := x7 + 1) (by omega) (by omega)] at h
          obtain ⟨g1, g2⟩ := ih _ _ _ _ (by omega) (by omega) h
          refine ⟨by omega, fun hq hn => ?_⟩
          have hlt : x7 < n := by omega
          rw [if_pos (show x7 < (u.size : Int) by omega), if_pos c2, if_pos h0, ← p3 x7 h0 hlt, hv, Option.bind_some, if_pos c3, Option.bind_some, w64 (n := x7 + 1) (by omega) (by omega)]
          exact g2 hq hn
        · rw [if_neg c3] at h
          have e := esc_stop h
          refine ⟨by omega, fun hq hn => ?_⟩
          have hlt : x7 < n := by omega
          rw [if_pos (show x7 < (u.size : Int) by omega), if_pos c2, if_pos h0, ← p3 x7 h0 hlt, hv, Option.bind_some, if_neg c3]
          exact h
      · rw [if_neg c2] at h
        have e := esc_stop h
        refine ⟨by omega, fun hq hn => ?_⟩
        rw [if_pos (show x7 < (u.size : Int) by omega), if_neg c2]
        exact h
    · rw [if_neg c1] at h
      have e := esc_stop h
      exact ⟨by omega, fun hq hn => by exfalso; omega⟩
theorem esc_same {t : ByteArray} (ht : t.size ≤ 140737488355328) {k : Nat} {r q : Int} (h : scan_escape.f k t = some (r, q)) :
    (0 ≤ q ∧ q ≤ (t.size : Int)) ∧ ∀ u n, q ≠ 0 → Pre t u n → q < n → scan_escape.f k u = some (r, q) := by
  simp only [scan_escape.f] at h
  by_cases c0 : t.toList = ([] : List UInt8)
  · rw [if_pos c0] at h
    simp only [Option.some.injEq, Prod.mk.injEq] at h
    exact ⟨by omega, fun u n hq => absurd h.2.symm hq⟩
  · have hz : 0 < t.size := by
      by_cases z : 0 < t.size
      · exact z
      · exact absurd ((toList_nil t).2 (by omega)) c0
    rw [if_neg c0, if_pos (by omega), simple_eq, Option.bind_some] at h
    have head : ∀ u n, Pre t u n → q < n → 0 ≤ q → ¬ u.toList = ([] : List UInt8) ∧ 0 < (u.size : Int) ∧ bt t 0 = bt u 0 := by
      rintro u n ⟨p1, p2, p3⟩ hn hq
      exact ⟨fun e => by have := (toList_nil u).1 e; omega, by omega, p3 0 (by omega) (by omega)⟩
    by_cases c1 : (simple (bt t 0)).2 = true
    · rw [if_pos c1] at h
      simp only [Option.some.injEq, Prod.mk.injEq] at h
      refine ⟨by omega, fun u n hq hp hn => ?_⟩
      obtain ⟨g1, g2, g3⟩ := head u n hp hn (by omega)
      simp only [scan_escape.f]
      rw [if_neg g1, if_pos g2, simple_eq, Option.bind_some, ← g3, if_pos c1]
      simp only [Option.some.injEq, Prod.mk.injEq]
      exact h
    · rw [if_neg c1] at h
      have key : ∀ flag : Bool, scan_escape.j0 k t 8 0 3 flag = some (r, q) → (0 ≤ q ∧ q ≤ (t.size : Int)) ∧ ∀ u n, q ≠ 0 → Pre t u n → q < n → scan_escape.j0 k u 8 0 3 flag = some (r, q) := by
        intro flag h
        cases k with
        | zero => simp [scan_escape.j0] at h
        | succ k =>
          have key1 : ∀ b a m : Int, 0 ≤ a → a ≤ (t.size : Int) → scan_escape.j1 k t b a m = some (r, q) → (0 ≤ q ∧ q ≤ (t.size : Int)) ∧ ∀ u n, q ≠ 0 → Pre t u n → q < n → scan_escape.j1 k u b a m = some (r, q) := by
            intro b a m a0 a1 h
            cases k with
            | zero => simp [scan_escape.j1] at h
            | succ k =>
              simp only [scan_escape.j1] at h ⊢
              have g := fun u n hp => esc_l0 t u n hp ht b m a k 0 a r q a0 a1 h
              refine ⟨?_, fun u n hq hp hn => (g u n hp).2 hq hn⟩
              have g0 := (g t 0 ⟨by omega, by omega, fun _ _ _ => rfl⟩).1
              omega
          simp only [scan_escape.j0] at h ⊢
          cases flag with
          | true =>
            rw [if_pos rfl] at h
            obtain ⟨g1, g2⟩ := key1 16 1 2 (by omega) (by omega) h
            exact ⟨g1, fun u n hq hp hn => by rw [if_pos rfl]; exact g2 u n hq hp hn⟩
          | false =>
            rw [if_neg Bool.false_ne_true] at h
            obtain ⟨g1, g2⟩ := key1 8 0 3 (by omega) (by omega) h
            exact ⟨g1, fun u n hq hp hn => by rw [if_neg Bool.false_ne_true]; exact g2 u n hq hp hn⟩
      by_cases c2 : bt t 0 = 120
      · rw [if_pos c2] at h
        obtain ⟨g1, g2⟩ := key _ h
        refine ⟨g1, fun u n hq hp hn => ?_⟩
        obtain ⟨e1, e2, e3⟩ := head u n hp hn (by omega)
        simp only [scan_escape.f]
        rw [if_neg e1, if_pos e2, simple_eq, Option.bind_some, ← e3, if_neg c1, if_pos c2]
        exact g2 u n hq hp hn
      · rw [if_neg c2] at h
        obtain ⟨g1, g2⟩ := key _ h
        refine ⟨g1, fun u n hq hp hn => ?_⟩
        obtain ⟨e1, e2, e3⟩ := head u n hp hn (by omega)
        simp only [scan_escape.f]
        rw [if_neg e1, if_pos e2, simple_eq, Option.bind_some, ← e3, if_neg c1, if_neg c2]
        exact g2 u n hq hp hn

theorem unq_l (t u : ByteArray) (n : Int) (hp : Pre t u n) (ht : t.size ≤ 140737488355320) : ∀ k : Nat,
    (∀ (x5 : List Int) (x6 : Int) (x : ByteArray) (r : Int), 1 ≤ x6 → x6 ≤ (t.size : Int) → scan_unquoted.l0 k t x5 x6 = some (x, r, true) → (x6 < r ∧ r ≤ (t.size : Int) ∧ bt t (r - 1) = bt t 0) ∧ (r = n → scan_unquoted.l0 k u x5 x6 = some (x, r, true))) ∧
    (∀ (x5 : List Int) (x6 x7 x25 : Int) (x40 : Bool) (x : ByteArray) (r : Int), 1 ≤ x6 → x6 < (t.size : Int) → scan_unquoted.j2 k t x5 x6 x7 x25 x40 = some (x, r, true) → (x6 < r ∧ r ≤ (t.size : Int) ∧ bt t (r - 1) = bt t 0) ∧ (r = n → scan_unquoted.j2 k u x5 x6 x7 x25 x40 = some (x, r, true))) := by
  obtain ⟨p1, p2, p3⟩ := hp
  intro k
  induction k with
  | zero => exact ⟨fun _ _ _ _ _ _ h => by simp [scan_unquoted.l0] at h, fun _ _ _ _ _ _ _ _ _ h => by simp [scan_unquoted.j2] at h⟩
  | succ k ih =>
    obtain ⟨ih1, ih2⟩ := ih
    refine ⟨?_, ?_⟩
    · intro x5 x6 x r h1 h2 h
      simp only [scan_unquoted.l0] at h ⊢
      by_cases c1 : x6 < (t.size : Int)
      · rw [if_pos c1, if_pos (show 0 ≤ x6 by omega), if_pos (show 0 < (t.size : Int) by omega)] at h
        by_cases c2 : bt t x6 = bt t 0
        · rw [if_pos c2, w64 (n := x6 + 1) (by omega) (by omega)] at h
          simp only [Option.some.injEq, Prod.mk.injEq, and_true] at h
          obtain ⟨hx, rfl⟩ := h
          refine ⟨⟨by omega, by omega, by rw [show x6 + 1 - 1 = x6 by omega]; exact c2⟩, fun hn => ?_⟩
          rw [if_pos (show x6 < (u.size : Int) by omega), if_pos (show 0 ≤ x6 by omega), if_pos (show 0 < (u.size : Int) by omega), ← p3 x6 (by omega) (by omega), ← p3 0 (by omega) (by omega), if_pos c2, w64 (n := x6 + 1) (by omega) (by omega), hx]
        · rw [if_neg c2] at h
          by_cases c3 : bt t x6 = 0
          · rw [if_pos c3] at h
            obtain ⟨g1, g2⟩ := ih2 _ _ _ _ _ _ _ h1 c1 h
            refine ⟨g1, fun hn => ?_⟩
            rw [if_pos (show x6 < (u.size : Int) by omega), if_pos (show 0 ≤ x6 by omega), if_pos (show 0 < (u.size : Int) by omega), ← p3 x6 (by omega) (by omega), ← p3 0 (by omega) (by omega), if_neg c2, if_pos c3]
            exact g2 hn
          · rw [if_neg c3] at h
            obtain ⟨g1, g2⟩ := ih2 _ _ _ _ _ _ _ h1 c1 h
            refine ⟨g1, fun hn => ?_⟩
            rw [if_pos (show x6 < (u.size : Int) by omega), if_pos (show 0 ≤ x6 by omega), if_pos (show 0 < (u.size : Int) by omega), ← p3 x6 (by omega) (by omega), ← p3 0 (by omega) (by omega), if_neg c2, if_neg c3]
            exact g2 hn
      · rw [if_neg c1] at h
        simp at h
    · intro x5 x6 x7 x25 x40 x r h1 h2 h
      simp only [scan_unquoted.j2] at h ⊢
      by_cases c1 : x40 = true
      · rw [if_pos c1] at h
        simp at h
      · rw [if_neg c1] at h
        by_cases c2 : x25 = 92
        · rw [if_pos c2, w64 (n := x6 + 1) (by omega) (by omega), if_pos (show 0 ≤ x6 + 1 by omega), if_pos (show x6 + 1 ≤ (t.size : Int) by omega)] at h
          obtain ⟨⟨b, q⟩, he, h⟩ := Option.bind_eq_some_iff.mp h
          dsimp only at h
          by_cases c3 : q = 0
          · rw [if_pos c3] at h
            simp at h
          · rw [if_neg c3] at h
            by_cases c4 : x5.length < 140737488355328
            · rw [if_pos c4] at h
              have es := size_extract t (x6 + 1).toNat t.size (Nat.le_refl _)
              obtain ⟨E1, E2⟩ := esc_same (by omega) he
              rw [w64 (n := 1 + q) (by omega) (by omega), w64 (n := x6 + (1 + q)) (by omega) (by omega)] at h
              obtain ⟨g1, g2⟩ := ih1 _ _ _ _ (by omega) (by omega) h
              refine ⟨⟨by omega, g1.2⟩, fun hn => ?_⟩
              have eu := size_extract u (x6 + 1).toNat u.size (Nat.le_refl _)
              have hpe : Pre (t.extract (x6 + 1).toNat t.size) (u.extract (x6 + 1).toNat u.size) (n - (x6 + 1)) := by
                refine ⟨by omega, by omega, fun j j0 j1 => ?_⟩
                rw [bt_extract t _ _ (Nat.le_refl _) j j0 (by omega), bt_extract u _ _ (Nat.le_refl _) j j0 (by omega)]
                exact p3 _ (by omega) (by omega)
              rw [if_neg c1, if_pos c2, w64 (n := x6 + 1) (by omega) (by omega), if_pos (show 0 ≤ x6 + 1 by omega), if_pos (show x6 + 1 ≤ (u.size : Int) by omega), E2 _ _ c3 hpe (by omega), Option.bind_some]
              dsimp only
              rw [if_neg c3, if_pos c4, w64 (n := 1 + q) (by omega) (by omega), w64 (n := x6 + (1 + q)) (by omega) (by omega)]
              exact g2 hn
            · rw [if_neg c4] at h
              cases h
        · rw [if_neg c2] at h
          by_cases c4 : x5.length < 140737488355328
          · rw [if_pos c4, w64 (n := x6 + 1) (by omega) (by omega)] at h
            obtain ⟨g1, g2⟩ := ih1 _ _ _ _ (by omega) (by omega) h
            refine ⟨⟨by omega, g1.2⟩, fun hn => ?_⟩
            rw [if_neg c1, if_neg c2, if_pos c4, w64 (n := x6 + 1) (by omega) (by omega)]
            exact g2 hn
          · rw [if_neg c4] at h
            cases h
theorem unq_same {t : ByteArray} (ht : t.size ≤ 140737488355320) {k : Nat} {x : ByteArray} {n : Int} (h : scan_unquoted.f k t = some (x, n, true)) :
    (2 ≤ n ∧ n ≤ (t.size : Int) ∧ bt t (n - 1) = bt t 0) ∧ ∀ u, Pre t u n → scan_unquoted.f k u = some (x, n, true) := by
  simp only [scan_unquoted.f] at h
  by_cases c0 : t.toList = ([] : List UInt8)
  · rw [if_pos c0] at h
    cases k with
    | zero => simp [scan_unquoted.j0] at h
    | succ k => simp [scan_unquoted.j0] at h
  · have hz : 0 < t.size := by
      by_cases z : 0 < t.size
      · exact z
      · exact absurd ((toList_nil t).2 (by omega)) c0
    rw [if_neg c0, if_pos (by omega)] at h
    obtain ⟨c, hc, h⟩ := Option.bind_eq_some_iff.mp h
    cases k with
    | zero => simp [scan_unquoted.j0] at h
    | succ k =>
      simp only [scan_unquoted.j0] at h
      by_cases c1 : (c != 4) = true
      · rw [if_pos c1] at h
        simp at h
      · rw [if_neg c1] at h
        have g := fun u hp => (unq_l t u n hp ht k).1 _ _ _ _ (by omega) (by omega) h
        have g0 := ((unq_l t t 0 ⟨by omega, by omega, fun _ _ _ => rfl⟩ ht k).1 _ _ _ _ (by omega) (by omega) h).1
        refine ⟨⟨by omega, g0.2⟩, fun u hp => ?_⟩
        have gu := (g u hp).2 rfl
        obtain ⟨p1, p2, p3⟩ := hp
        simp only [scan_unquoted.f]
        rw [if_neg (fun e => by have := (toList_nil u).1 e; omega), if_pos (show 0 < (u.size : Int) by omega), ← p3 0 (by omega) (by omega), hc, Option.bind_some]
        simp only [scan_unquoted.j0]
        rw [if_neg c1]
        exact gu

set_option maxRecDepth 100000 in
theorem ascii_tab : ∀ n : Fin 256, cls (n.val : Int) ≠ 0 → (n.val : Int) < 128 := by decide +kernel
theorem ascii (s : ByteArray) (i : Int) (h : cls (bt s i) ≠ 0) : bt s i < 128 :=
  byte_all (P := fun c => cls c ≠ 0 → c < 128) ascii_tab (bt_range s i).1 (bt_range s i).2 h
theorem ascii_word (s : ByteArray) (i : Int) (h : word (bt s i) = true) : bt s i < 128 := by
  refine ascii s i (fun e => ?_)
  unfold word at h
  rw [e] at h
  cases h

/-- A piece that is told is read again where its bytes stand again and no letter or digit behind it; its last byte is no part of a longer character. -/
theorem disp_same {t u : ByteArray} {c kd n : Int} (ht : t.size ≤ 140737488355320) (hu : u.size ≤ 140737488355320) (hc : cls (bt t 0) = c) (hk : kd ≠ 0) (hn : 1 ≤ n) (hp : Pre t u n) (h : Ev (fun k => scan_disp k c t) (kd, n, 0)) (hw : n < (u.size : Int) → word (bt u n) = false) :
    Ev (fun k => scan_disp k c u) (kd, n, 0) ∧ bt t (n - 1) < 128 := by
  obtain ⟨K, hK⟩ := h
  have h1 : scan_disp K c t = some (kd, n, 0) := hK K (Nat.le_refl _)
  have h : Ev (fun k => scan_disp k c t) (kd, n, 0) := ⟨K, hK⟩
  by_cases c0 : c = 0
  · subst c0; simp only [scan_disp, if_true, Option.some.injEq, Prod.mk.injEq] at h1; exfalso; omega
  by_cases c1 : c = 1
  · subst c1; simp only [scan_disp, if_true, if_neg (show ¬ (1 : Int) = 0 by omega), Option.some.injEq, Prod.mk.injEq] at h1; exfalso; exact hk h1.1.symm
  by_cases c2 : c = 2
  · subst c2
    have e : ∀ v k, scan_disp k 2 v = (scan_row.f k v).bind fun n => some (1, n, 0) := fun v k => rfl
    rw [e] at h1
    obtain ⟨m, hm, h2⟩ := Option.bind_eq_some_iff.mp h1
    simp only [Option.some.injEq, Prod.mk.injEq, and_true] at h2
    obtain ⟨rfl, rfl⟩ := h2
    obtain ⟨g1, g2⟩ := row_same (by omega) (by omega) hp (Ev.of (scan_row.mono _) hm) hw
    exact ⟨Ev.congr (e u) (Ev.bind g1 (Ev.now _)), ascii_word t _ (g2 hn)⟩
  by_cases c3 : c = 3
  · subst c3
    have e : ∀ v k, scan_disp k 3 v = scan_number.f k v := fun v k => rfl
    obtain ⟨g1, g2⟩ := number_same (by omega) (by omega) hk hp (Ev.congr (fun k => (e t k).symm) h) hw
    exact ⟨Ev.congr (e u) g1, ascii_word t _ (g2 hn)⟩
  by_cases c4 : c = 4
  · subst c4
    have e : ∀ v k, scan_disp k 4 v = (scan_unquoted.f k v).bind fun bt156 => (if bt156.2.2 = true then (some (3, bt156.2.1, 0)) else (some (0, 0, 42))) := fun v k => rfl
    rw [e] at h1
    obtain ⟨⟨x, m, b⟩, hm, h2⟩ := Option.bind_eq_some_iff.mp h1
    dsimp only at h2
    cases b with
    | false =>
      rw [if_neg Bool.false_ne_true] at h2
      simp only [Option.some.injEq, Prod.mk.injEq] at h2
      exact absurd h2.1.symm hk
    | true =>
      rw [if_pos rfl] at h2
      simp only [Option.some.injEq, Prod.mk.injEq, and_true] at h2
      obtain ⟨rfl, rfl⟩ := h2
      obtain ⟨g1, g2⟩ := unq_same ht hm
      refine ⟨Ev.congr (e u) (Ev.bind (Ev.of (scan_unquoted.mono _) (g2 u hp)) (Ev.now _)), ?_⟩
      rw [g1.2.2]
      exact ascii t 0 (by omega)
  by_cases c5 : c = 5
  · subst c5
    have e : ∀ v k, scan_disp k 5 v = some (4, 1, 0) := fun v k => rfl
    rw [e] at h1
    simp only [Option.some.injEq, Prod.mk.injEq, and_true] at h1
    obtain ⟨rfl, rfl⟩ := h1
    exact ⟨Ev.some' _ (e u), by rw [show (1 : Int) - 1 = 0 by omega]; exact ascii t 0 (by omega)⟩
  by_cases c6 : c = 6
  · subst c6
    exfalso
    have e : ∀ v k, scan_disp k 6 v = scan_comment.f v := fun v k => rfl
    rw [e] at h1
    simp only [scan_comment.f] at h1
    obtain ⟨b, _, h1⟩ := Option.bind_eq_some_iff.mp h1
    split at h1
    · obtain ⟨i, _, h1⟩ := Option.bind_eq_some_iff.mp h1
      split at h1 <;> simp only [Option.some.injEq, Prod.mk.injEq] at h1 <;> exact hk h1.1.symm
    · obtain ⟨b2, _, h1⟩ := Option.bind_eq_some_iff.mp h1
      split at h1
      · split at h1
        · obtain ⟨i, _, h1⟩ := Option.bind_eq_some_iff.mp h1
          split at h1 <;> simp only [Option.some.injEq, Prod.mk.injEq] at h1 <;> exact hk h1.1.symm
        · cases h1
      · simp only [Option.some.injEq, Prod.mk.injEq] at h1
        exact hk h1.1.symm
  · exfalso
    simp only [scan_disp, if_neg c0, if_neg c1, if_neg c2, if_neg c3, if_neg c4, if_neg c5, if_neg c6] at h1
    cases h1

section
variable (s : ByteArray) (hs : s.size ≤ 65536)
include hs

/-- What begins at a place: nothing that is told, of so many bytes; a fault; a token. -/
theorem disp_at (a : Nat) (ha : a < s.size) : ∃ p : Int × Int × Int, Ev (fun k => scan_disp k (cls (bt s (a : Int))) (s.extract a s.size)) p ∧
    ((∃ n : Nat, p = (0, (n : Int), 0) ∧ 1 ≤ n ∧ a + n ≤ s.size) ∨ p.2.2 ≠ 0 ∨ (∃ (kd : Int) (n : Nat), p = (kd, (n : Int), 0) ∧ 1 ≤ kd ∧ kd ≤ 4 ∧ 1 ≤ n ∧ a + n ≤ s.size)) := by
  have hcl := cls_range s (a : Int)
  have piece : Piece s a (cls (bt s (a : Int))) → ∃ p : Int × Int × Int, Ev (fun k => scan_disp k (cls (bt s (a : Int))) (s.extract a s.size)) p ∧
    ((∃ n : Nat, p = (0, (n : Int), 0) ∧ 1 ≤ n ∧ a + n ≤ s.size) ∨ p.2.2 ≠ 0 ∨ (∃ (kd : Int) (n : Nat), p = (kd, (n : Int), 0) ∧ 1 ≤ kd ∧ kd ≤ 4 ∧ 1 ≤ n ∧ a + n ≤ s.size)) := by
    rintro ⟨p, hp, _, p0, _⟩
    refine ⟨p, hp, ?_⟩
    by_cases c : p.2.2 = 0
    · obtain ⟨q1, q2, q3, q4⟩ := p0 c
      refine .inr (.inr ⟨p.1, p.2.1.toNat, ?_, q1, q2, by omega, by omega⟩)
      obtain ⟨x, y, z⟩ := p
      dsimp only at *
      rw [c, show ((y.toNat : Nat) : Int) = y by omega]
    · exact .inr (.inl c)
  by_cases c1 : cls (bt s (a : Int)) = 1
  · exact ⟨(0, 1, 0), by rw [c1]; exact Ev.congr (f := fun _ => some (0, 1, 0)) (fun k => rfl) (Ev.now _), .inl ⟨1, rfl, by omega, by omega⟩⟩
  by_cases c6 : cls (bt s (a : Int)) = 6
  · have h47 := hcl.2.2.1 c6
    rcases comment_both s hs a ha h47 _ rfl with ⟨n, n1, n2, n3, _⟩ | ⟨n1, _⟩ | ⟨n1, _⟩
    · exact ⟨_, by rw [c6]; exact Ev.congr (f := fun _ => scan_comment.f (s.extract a s.size)) (fun k => rfl) (Ev.const n3), .inl ⟨n, rfl, n1, n2⟩⟩
    · exact ⟨_, by rw [c6]; exact Ev.congr (f := fun _ => scan_comment.f (s.extract a s.size)) (fun k => rfl) (Ev.const n1), .inr (.inl (by show ¬ (43 : Int) = 0; omega))⟩
    · exact ⟨_, by rw [c6]; exact Ev.congr (f := fun _ => scan_comment.f (s.extract a s.size)) (fun k => rfl) (Ev.const n1), .inr (.inl (by show ¬ (40 : Int) = 0; omega))⟩
  by_cases c2 : cls (bt s (a : Int)) = 2
  · exact piece (by rw [c2]; exact piece_name s hs a ha c2)
  by_cases c3 : cls (bt s (a : Int)) = 3
  · exact piece (by rw [c3]; exact piece_number s hs a ha c3)
  by_cases c4 : cls (bt s (a : Int)) = 4
  · exact piece (by rw [c4]; exact piece_text s hs a ha c4)
  by_cases c5 : cls (bt s (a : Int)) = 5
  · exact piece (by rw [c5]; exact piece_sign s hs a ha c5)
  have c0 : cls (bt s (a : Int)) = 0 := by omega
  exact ⟨(0, 0, 40), by rw [c0]; exact Ev.congr (f := fun _ => some (0, 0, 40)) (fun k => rfl) (Ev.now _), .inr (.inl (by show ¬ (40 : Int) = 0; omega))⟩

omit hs in
theorem tokens_step (a : Nat) (ha : a < s.size) (l : List S40) (k : Nat) : scan_Tokens.l0 (k + 1) s l (a : Int) = (scan_class.f k (bt s (a : Int))).bind fun c => ((scan_disp k c (s.extract a s.size)).bind fun p =>
      (if ¬ ((p.1 = 0 ∧ p.2.2 = 0) ∨ p.2.2 = 43) ∧ (l.length : Int) ≥ 16383 then some (([] : List S40), (a : Int), 45)
      else if p.2.2 ≠ 0 then some (([] : List S40), (a : Int), p.2.2)
      else if p.1 = 0 then scan_Tokens.l0 k s l (wrap64 ((a : Int) + p.2.1))
      else if (a : Int) ≤ wrap64 ((a : Int) + p.2.1) then (if wrap64 ((a : Int) + p.2.1) ≤ (s.size : Int) then (if l.length < 4398046511104 then scan_Tokens.l0 k s (l ++ [(⟨p.1, (a : Int), s.extract a (wrap64 ((a : Int) + p.2.1)).toNat⟩ : S40)]) (wrap64 ((a : Int) + p.2.1)) else none) else none) else none)) := by
  simp only [scan_Tokens.l0]
  rw [if_neg (by omega), if_pos (by omega), if_pos (by omega)]
  rfl
theorem step_skip (a n : Nat) (hn : a + n ≤ s.size) (ha : a < s.size) (l : List S40) (hd : Ev (fun k => scan_disp k (cls (bt s (a : Int))) (s.extract a s.size)) (0, (n : Int), 0)) {r : List S40 × Int × Int} (hr : Ev (fun k => scan_Tokens.l0 k s l ((a + n : Nat) : Int)) r) :
    Ev (fun k => scan_Tokens.l0 k s l (a : Int)) r := by
  refine Ev.step (tokens_step s a ha l) (Ev.bind (class_ev s (a : Int)) (Ev.bind hd (Ev.congr (fun k => ?_) hr)))
  rw [if_neg (fun h => h.1 (.inl ⟨rfl, rfl⟩)), if_neg (fun h => h rfl), if_pos rfl, w64 (by show _ ≤ (a : Int) + (n : Int); omega) (by show (a : Int) + (n : Int) ≤ _; omega)]
  rfl
theorem step_piece (a n : Nat) (h1 : 1 ≤ n) (hn : a + n ≤ s.size) (l : List S40) (hl : l.length < 16383) (kd : Int) (hk : kd ≠ 0) (hd : Ev (fun k => scan_disp k (cls (bt s (a : Int))) (s.extract a s.size)) (kd, (n : Int), 0)) {r : List S40 × Int × Int}
    (hr : Ev (fun k => scan_Tokens.l0 k s (l ++ [(⟨kd, (a : Int), s.extract a (a + n)⟩ : S40)]) ((a + n : Nat) : Int)) r) : Ev (fun k => scan_Tokens.l0 k s l (a : Int)) r := by
  refine Ev.step (tokens_step s a (by omega) l) (Ev.bind (class_ev s (a : Int)) (Ev.bind hd (Ev.congr (fun k => ?_) hr)))
  have en : ((a + n : Nat) : Int) = (a : Int) + n := by omega
  rw [if_neg (fun h => by have := h.2; omega), if_neg (fun h => h rfl), if_neg hk]
  dsimp only
  rw [w64 (by omega) (by omega), ← en, if_pos (by omega), if_pos (by omega), if_pos (by omega), show (((a + n : Nat) : Int)).toNat = a + n by omega]
omit hs in
theorem step_end (l : List S40) (hl : l.length ≤ 16383) : Ev (fun k => scan_Tokens.l0 k s l (s.size : Int)) (l ++ [(⟨5, (s.size : Int), (⟨#[]⟩ : ByteArray)⟩ : S40)], 0, 0) := by
  refine Ev.step (f := fun _ => some (l ++ [(⟨5, (s.size : Int), (⟨#[]⟩ : ByteArray)⟩ : S40)], 0, 0)) (fun k => ?_) (Ev.now _)
  simp only [scan_Tokens.l0, if_true]
  rw [if_pos (show l.length < 4398046511104 by omega)]
end

/-- A token of s at place a, of n bytes. -/
def Tk (s : ByteArray) (x : S40) (a n : Nat) : Prop := x.f1 = (a : Int) ∧ 1 ≤ n ∧ a + n ≤ s.size ∧ x.f2 = s.extract a (a + n) ∧ 1 ≤ x.f0 ∧ x.f0 ≤ 4 ∧ Ev (fun k => scan_disp k (cls (bt s (a : Int))) (s.extract a s.size)) (x.f0, (n : Int), 0)
/-- Tokens of s one behind the other, from place p on. -/
def Row (s : ByteArray) : Nat → List S40 → Prop
  | _, [] => True
  | p, x :: xs => ∃ a n : Nat, p ≤ a ∧ Tk s x a n ∧ Row s (a + n) xs
theorem Row.weaken {s : ByteArray} {p q : Nat} (h : q ≤ p) : ∀ {xs : List S40}, Row s p xs → Row s q xs
  | [], _ => trivial
  | _ :: _, ⟨a, n, ha, ht, hr⟩ => ⟨a, n, by omega, ht, hr⟩
/-- What reading from place a on comes to: a fault at a place of the text, or tokens and the end. -/
def Shape (s : ByteArray) (a : Nat) (l : List S40) (r : List S40 × Int × Int) : Prop :=
  (r.2.2 ≠ 0 ∧ r.1 = [] ∧ 0 ≤ r.2.1 ∧ r.2.1 ≤ (s.size : Int)) ∨ (∃ more : List S40, r = (l ++ (more ++ [(⟨5, (s.size : Int), (⟨#[]⟩ : ByteArray)⟩ : S40)]), 0, 0) ∧ Row s a more ∧ l.length + more.length ≤ 16383)
theorem tokens_shape (s : ByteArray) (hs : s.size ≤ 65536) (d : Nat) : ∀ (a : Nat) (l : List S40), a ≤ s.size → s.size - a ≤ d → l.length ≤ 16383 → ∃ r, Ev (fun k => scan_Tokens.l0 k s l (a : Int)) r ∧ Shape s a l r := by
  have fin : ∀ (a : Nat) (l : List S40), a = s.size → l.length ≤ 16383 → ∃ r, Ev (fun k => scan_Tokens.l0 k s l (a : Int)) r ∧ Shape s a l r := by
    rintro a l rfl hl
    exact ⟨_, step_end s l hl, .inr ⟨[], rfl, trivial, by simpa using hl⟩⟩
  induction d with
  | zero => intro a l ha hd hl; exact fin a l (by omega) hl
  | succ d ih =>
    intro a l ha hd hl
    by_cases c : a = s.size
    · exact fin a l c hl
    have ha' : a < s.size := by omega
    obtain ⟨p, hp, hpc⟩ := disp_at s hs a ha'
    rcases hpc with ⟨n, rfl, n1, n2⟩ | he | ⟨kd, n, rfl, k1, k2, n1, n2⟩
    · obtain ⟨r, h1, h2⟩ := ih (a + n) l n2 (by omega) hl
      refine ⟨r, step_skip s hs a n n2 ha' l hp h1, ?_⟩
      rcases h2 with h2 | ⟨more, g1, g2, g3⟩
      · exact .inl h2
      · exact .inr ⟨more, g1, g2.weaken (by omega), g3⟩
    · by_cases cf : ¬ ((p.1 = 0 ∧ p.2.2 = 0) ∨ p.2.2 = 43) ∧ (l.length : Int) ≥ 16383
      · refine ⟨([], (a : Int), 45), Ev.step (tokens_step s a ha' l) (Ev.bind (class_ev s (a : Int)) (Ev.bind hp (Ev.some' _ (fun k => ?_)))), .inl ⟨by show ¬ (45 : Int) = 0; omega, rfl, by show 0 ≤ (a : Int); omega, by show (a : Int) ≤ s.size; omega⟩⟩
        rw [if_pos cf]
      · refine ⟨([], (a : Int), p.2.2), Ev.step (tokens_step s a ha' l) (Ev.bind (class_ev s (a : Int)) (Ev.bind hp (Ev.some' _ (fun k => ?_)))), .inl ⟨he, rfl, by show 0 ≤ (a : Int); omega, by show (a : Int) ≤ s.size; omega⟩⟩
        rw [if_neg cf, if_pos he]
    · by_cases cf : l.length = 16383
      · refine ⟨([], (a : Int), 45), Ev.step (tokens_step s a ha' l) (Ev.bind (class_ev s (a : Int)) (Ev.bind hp (Ev.some' _ (fun k => ?_)))), .inl ⟨by show ¬ (45 : Int) = 0; omega, rfl, by show 0 ≤ (a : Int); omega, by show (a : Int) ≤ s.size; omega⟩⟩
        have hn : ¬ ((kd = 0 ∧ (0 : Int) = 0) ∨ (0 : Int) = 43) := by omega
        rw [if_pos ⟨hn, by omega⟩]
      · obtain ⟨r, h1, h2⟩ := ih (a + n) (l ++ [(⟨kd, (a : Int), s.extract a (a + n)⟩ : S40)]) n2 (by omega) (by rw [List.length_append]; simp; omega)
        refine ⟨r, step_piece s hs a n n1 n2 l (by omega) kd (by omega) hp h1, ?_⟩
        rcases h2 with h2 | ⟨more, g1, g2, g3⟩
        · exact .inl h2
        · refine .inr ⟨(⟨kd, (a : Int), s.extract a (a + n)⟩ : S40) :: more, by rw [g1]; simp, ⟨a, n, Nat.le_refl _, ⟨rfl, n1, n2, rfl, k1, k2, hp⟩, g2⟩, ?_⟩
          rw [List.length_append] at g3
          simp at g3 ⊢
          omega
/-- Tokens of any text: a fault at a place of the text (which is no longer than its bytes), or tokens and the end, the text being UTF-8. -/
theorem tokens_all (s : ByteArray) : ∃ r, Ev (fun k => scan_Tokens.f k s) r ∧ ((r.2.2 ≠ 0 ∧ r.1 = [] ∧ 0 ≤ r.2.1 ∧ r.2.1 ≤ (s.size : Int)) ∨ (s.size ≤ 65536 ∧ Ev (fun k => wire_Utf8.l0 k s 0) (-1) ∧ ∃ more : List S40, r = (more ++ [(⟨5, (s.size : Int), (⟨#[]⟩ : ByteArray)⟩ : S40)], 0, 0) ∧ Row s 0 more ∧ more.length ≤ 16383)) := by
  by_cases c : (s.size : Int) > 65536
  · exact ⟨([], 0, 2), Ev.some' _ (fun k => by simp only [scan_Tokens.f]; rw [if_pos c]), .inl ⟨by show ¬ (2 : Int) = 0; omega, rfl, by show (0 : Int) ≤ 0; omega, by show (0 : Int) ≤ s.size; omega⟩⟩
  obtain ⟨u, hu1, _, hu3⟩ := utf8_both s (by omega)
  have e1 : ∀ k, scan_Tokens.f k s = (wire_Utf8.f k s).bind fun t => if t ≥ 0 then some (([] : List S40), t, 44) else scan_Tokens.l0 k s ([] : List S40) 0 := by
    intro k; simp only [scan_Tokens.f]; rw [if_neg c]
  by_cases hu : u ≥ 0
  · refine ⟨([], u, 44), Ev.congr e1 (Ev.bind hu1 ?_), .inl ⟨by show ¬ (44 : Int) = 0; omega, rfl, by show 0 ≤ u; omega, by show u ≤ s.size; omega⟩⟩
    simp only [if_pos hu]; exact Ev.now _
  · obtain ⟨r, h1, h2⟩ := tokens_shape s (by omega) s.size 0 [] (by omega) (by omega) (by simp)
    refine ⟨r, Ev.congr e1 (Ev.bind hu1 ?_), ?_⟩
    · simp only [if_neg hu]; exact h1
    · rcases h2 with h2 | ⟨more, g1, g2, g3⟩
      · exact .inl h2
      · refine .inr ⟨by omega, ?_, more, by simpa using g1, g2, by simpa using g3⟩
        obtain rfl : u = -1 := by omega
        exact hu1
end Go.Proofs.YtabgnbbljjohdaaRDoor.Relex
