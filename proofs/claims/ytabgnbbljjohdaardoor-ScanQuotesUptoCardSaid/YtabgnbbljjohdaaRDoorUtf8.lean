/- Plain laws of UTF-8: wire.Utf8 tells what the document's Utf8 tells, for every text; what a character is. No condition but the text's size. -/
import Derived.Test.YtabgnbbljjohdaaRDoorU
import Derived.Test.YtabgnbbljjohdaaRDoorAx
namespace Go.Proofs.YtabgnbbljjohdaaRDoor.Utf8
open Go.RowKit Go.Proofs.YtabgnbbljjohdaaRDoor.A Go.Proofs.YtabgnbbljjohdaaRDoorW.PrintWords Go.Proofs.YtabgnbbljjohdaaRDoor.U

theorem wire_skip (s : ByteArray) (at_ i : Int) (ha : 0 ≤ at_) (ha2 : at_ < (s.size : Int)) (h0 : 0 ≤ i) (h1 : i < 9) (h : bt s at_ < wlo i ∨ bt s at_ > whi i) {r : Int} (hr : Ev (fun k => wire_character.l0 k s at_ (i + 1)) r) :
    Ev (fun k => wire_character.l0 k s at_ i) r := by
  refine Ev.step (f := fun k => wire_character.l0 k s at_ (i + 1)) (fun k => ?_) hr
  simp only [wire_character.l0]
  rw [if_pos h1, if_pos ha, if_pos ha2, w64 (n := i + 1) (by omega) (by omega)]
  by_cases c : bt s at_ < wlo i
  · rw [if_pos c]
  · rw [if_neg c, if_pos (by omega)]
/-- The bytes behind the first: both loops. -/
theorem behind (s : ByteArray) (hs : s.size ≤ 140737488355328) (at_ i : Int) (ha : 0 ≤ at_) (m : Nat) (hm : wmore i = (m : Int)) (hm2 : at_ + (m : Int) < (s.size : Int)) (d : Nat) : ∀ j : Nat, 1 ≤ j → m + 1 - j = d →
    ∃ r, Ev (fun k => wire_character.l1 k s at_ i (j : Int)) r ∧ Ev (fun k => sigilref4_follow.l0 k s at_ ((m : Int) + 1) (if (j : Int) = 1 then wlo2 i else 128) (if (j : Int) = 1 then whi2 i else 191) (j : Int)) r ∧ (r = 0 ∨ r = (m : Int) + 1) := by
  induction d with
  | zero =>
    intro j hj hd
    refine ⟨(m : Int) + 1, Ev.step (f := fun _ => some ((m : Int) + 1)) (fun k => ?_) (Ev.now _), Ev.step (f := fun _ => some ((m : Int) + 1)) (fun k => ?_) (Ev.now _), .inr rfl⟩
    · simp only [wire_character.l1]; rw [if_neg (by omega), hm]; congr 1; omega
    · simp only [sigilref4_follow.l0]; rw [if_neg (by omega)]
  | succ d ih =>
    intro j hj hd
    obtain ⟨r, h1, h2, h3⟩ := ih (j + 1) (by omega) (by omega)
    have hb := bt_range s (at_ + j)
    have e1 : ∀ k, wire_character.l1 (k + 1) s at_ i (j : Int) = if bt s (at_ + j) < (if (j : Int) = 1 then wlo2 i else 128) then some 0 else (if bt s (at_ + j) > (if (j : Int) = 1 then whi2 i else 191) then some 0 else wire_character.l1 k s at_ i ((j + 1 : Nat) : Int)) := by
      intro k
      simp only [wire_character.l1]
      rw [if_pos (by omega), w64 (n := at_ + j) (by omega) (by omega), if_pos (by omega), if_pos (by omega), w64 (n := (j : Int) + 1) (by omega) (by omega)]
      rfl
    have e2 : ∀ lo hi k, sigilref4_follow.l0 (k + 1) s at_ ((m : Int) + 1) lo hi (j : Int) = if bt s (at_ + j) < lo then some 0 else (if bt s (at_ + j) > hi then some 0 else sigilref4_follow.l0 k s at_ ((m : Int) + 1) 128 191 ((j + 1 : Nat) : Int)) := by
      intro lo hi k
      simp only [sigilref4_follow.l0]
      rw [if_pos (by omega), w64 (n := at_ + j) (by omega) (by omega), if_pos (by omega), if_pos (by omega), w64 (n := (j : Int) + 1) (by omega) (by omega), w64 (n := bt s (at_ + j)) (by omega) (by omega)]
      rfl
    rw [if_neg (show ¬ ((j + 1 : Nat) : Int) = 1 by omega), if_neg (show ¬ ((j + 1 : Nat) : Int) = 1 by omega)] at h2
    generalize hlo : (if (j : Int) = 1 then wlo2 i else 128) = lo at *
    generalize hhi : (if (j : Int) = 1 then whi2 i else 191) = hi at *
    by_cases c1 : bt s (at_ + j) < lo
    · refine ⟨0, Ev.step e1 ?_, Ev.step (e2 lo hi) ?_, .inl rfl⟩
      · simp only [if_pos c1]; exact Ev.now _
      · simp only [if_pos c1]; exact Ev.now _
    · by_cases c2 : bt s (at_ + j) > hi
      · refine ⟨0, Ev.step e1 ?_, Ev.step (e2 lo hi) ?_, .inl rfl⟩
        · simp only [if_neg c1, if_pos c2]; exact Ev.now _
        · simp only [if_neg c1, if_pos c2]; exact Ev.now _
      · refine ⟨r, Ev.step e1 ?_, Ev.step (e2 lo hi) ?_, h3⟩
        · simp only [if_neg c1, if_neg c2]; exact h1
        · simp only [if_neg c1, if_neg c2]; exact h2
/-- The first byte fits row i. -/
theorem wire_hit (s : ByteArray) (hs : s.size ≤ 140737488355328) (at_ i : Int) (ha : 0 ≤ at_) (ha2 : at_ < (s.size : Int)) (_h0 : 0 ≤ i) (h1 : i < 9) (hl : ¬ bt s at_ < wlo i) (hh : ¬ bt s at_ > whi i) (m : Nat) (hm : wmore i = (m : Int)) (hm3 : m ≤ 3) :
    ∃ r, Ev (fun k => wire_character.l0 k s at_ i) r ∧ Ev (fun k => sigilref4_follow.j3 k s at_ ((m : Int) + 1) (wlo2 i) (whi2 i)) r ∧ (r = 0 ∨ r = (m : Int) + 1 ∧ at_ + r ≤ s.size) := by
  by_cases c : at_ + (m : Int) < (s.size : Int)
  · obtain ⟨r, h1', h2', h3'⟩ := behind s hs at_ i ha m hm c m 1 (by omega) (by omega)
    refine ⟨r, Ev.step (f := fun k => wire_character.l1 k s at_ i 1) (fun k => ?_) h1', Ev.step (f := fun k => sigilref4_follow.l0 k s at_ ((m : Int) + 1) (wlo2 i) (whi2 i) 1) (fun k => ?_) h2', ?_⟩
    · simp only [wire_character.l0]; rw [if_pos h1, if_pos ha, if_pos ha2, if_neg hl, if_neg hh, hm, w64 (n := at_ + m) (by omega) (by omega), if_neg (by omega)]
    · simp only [sigilref4_follow.j3]; rw [w64 (by omega) (by omega), if_neg (by omega)]
    · rcases h3' with h | h
      · exact .inl h
      · exact .inr ⟨h, by omega⟩
  · refine ⟨0, Ev.step (f := fun _ => some 0) (fun k => ?_) (Ev.now _), Ev.step (f := fun _ => some 0) (fun k => ?_) (Ev.now _), .inl rfl⟩
    · simp only [wire_character.l0]; rw [if_pos h1, if_pos ha, if_pos ha2, if_neg hl, if_neg hh, hm, w64 (n := at_ + m) (by omega) (by omega), if_pos (by omega)]
    · simp only [sigilref4_follow.j3]; rw [w64 (by omega) (by omega), if_pos (by omega)]

/-- What a character is: both tell the same; how long it may be. -/
theorem chr_both (s : ByteArray) (hs : s.size ≤ 140737488355328) (at_ : Int) (ha : 0 ≤ at_) (ha2 : at_ < (s.size : Int)) :
    ∃ r, Ev (fun k => wire_character.f k s at_) r ∧ Ev (fun k => sigilref4_follow.f k s at_) r ∧ (r = 0 ∨ 1 ≤ r ∧ r ≤ 4 ∧ at_ + r ≤ s.size) ∧ (r = 1 ↔ bt s at_ < 128) := by
  have hb := bt_range s at_
  have l0 : wlo 0 = 0 := rfl
  have l1 : wlo 1 = 194 := rfl
  have l2 : wlo 2 = 224 := rfl
  have l3 : wlo 3 = 225 := rfl
  have l4 : wlo 4 = 237 := rfl
  have l5 : wlo 5 = 238 := rfl
  have l6 : wlo 6 = 240 := rfl
  have l7 : wlo 7 = 241 := rfl
  have l8 : wlo 8 = 244 := rfl
  have u0 : whi 0 = 127 := rfl
  have u1 : whi 1 = 223 := rfl
  have u2 : whi 2 = 224 := rfl
  have u3 : whi 3 = 236 := rfl
  have u4 : whi 4 = 237 := rfl
  have u5 : whi 5 = 239 := rfl
  have u6 : whi 6 = 240 := rfl
  have u7 : whi 7 = 243 := rfl
  have u8 : whi 8 = 244 := rfl
  have hw : wrap64 (bt s at_) = bt s at_ := w64 (by omega) (by omega)
  have sk : ∀ i : Int, 0 ≤ i → i < 9 → (bt s at_ < wlo i ∨ bt s at_ > whi i) → ∀ r, Ev (fun k => wire_character.l0 k s at_ (i + 1)) r → Ev (fun k => wire_character.l0 k s at_ i) r := fun i h0 h1 h r hr => wire_skip s at_ i ha ha2 h0 h1 h hr
  have s0 := sk 0 (by omega) (by omega)
  have s1 := sk 1 (by omega) (by omega)
  have s2 := sk 2 (by omega) (by omega)
  have s3 := sk 3 (by omega) (by omega)
  have s4 := sk 4 (by omega) (by omega)
  have s5 := sk 5 (by omega) (by omega)
  have s6 := sk 6 (by omega) (by omega)
  have s7 := sk 7 (by omega) (by omega)
  have s8 := sk 8 (by omega) (by omega)
  have none9 : Ev (fun k => wire_character.l0 k s at_ 9) 0 := Ev.step (f := fun _ => some 0) (fun k => by simp only [wire_character.l0]; rw [if_neg (by omega)]) (Ev.now _)
  have fin : ∀ {r : Int} {m : Nat}, 1 ≤ m → m ≤ 3 → ¬ bt s at_ < 128 → (r = 0 ∨ r = (m : Int) + 1 ∧ at_ + r ≤ s.size) → (r = 0 ∨ 1 ≤ r ∧ r ≤ 4 ∧ at_ + r ≤ s.size) ∧ (r = 1 ↔ bt s at_ < 128) := by
    intro r m h1 h3 h4 h
    constructor
    · rcases h with h | ⟨h, h'⟩
      · exact .inl h
      · exact .inr (by omega)
    · constructor <;> intro h' <;> omega
  by_cases c0 : bt s at_ < 128
  · obtain ⟨r, h1, _, h3⟩ := wire_hit s hs at_ 0 ha ha2 (by omega) (by omega) (by omega) (by omega) 0 rfl (by omega)
    refine ⟨1, ?_, Ev.some' _ (fun k => by simp only [sigilref4_follow.f]; rw [if_pos ha, if_pos ha2, hw, if_pos c0]), by omega, by omega⟩
    refine Ev.step (f := fun k => wire_character.l1 k s at_ 0 1) (fun k => ?_) (Ev.step (f := fun _ => some 1) (fun k => ?_) (Ev.now _))
    · simp only [wire_character.f, wire_character.l0]; rw [if_pos (by omega), if_pos ha, if_pos ha2, if_neg (by omega), if_neg (by omega), show wmore 0 = 0 from rfl, w64 (n := at_ + 0) (by omega) (by omega), if_neg (by omega)]
    · simp only [wire_character.l1]; rw [show wmore 0 = 0 from rfl, if_neg (by omega)]; rfl
  have f0 : ∀ k, sigilref4_follow.f k s at_ = if bt s at_ ≥ 194 then sigilref4_follow.j0 k s at_ (bt s at_) 128 191 (decide (bt s at_ ≤ 223)) else sigilref4_follow.j0 k s at_ (bt s at_) 128 191 false := by
    intro k; simp only [sigilref4_follow.f]; rw [if_pos ha, if_pos ha2, hw, if_neg c0]
  by_cases c1 : bt s at_ < 194
  · refine ⟨0, s0 (by omega) _ (s1 (by omega) _ (s2 (by omega) _ (s3 (by omega) _ (s4 (by omega) _ (s5 (by omega) _ (s6 (by omega) _ (s7 (by omega) _ (s8 (by omega) _ none9)))))))), ?_, by omega, by omega⟩
    refine Ev.congr (f := fun k => sigilref4_follow.j0 k s at_ (bt s at_) 128 191 false) (fun k => by rw [f0, if_neg (by omega)]) ?_
    refine Ev.step (f := fun k => sigilref4_follow.j1 k s at_ (bt s at_) 128 191 false) (fun k => by simp only [sigilref4_follow.j0]; rw [if_neg Bool.false_ne_true, if_neg (by omega)]) ?_
    refine Ev.step (f := fun k => sigilref4_follow.j2 k s at_ (bt s at_) 128 191 false) (fun k => by simp only [sigilref4_follow.j1]; rw [if_neg Bool.false_ne_true, if_neg (by omega)]) ?_
    exact Ev.step (f := fun _ => some 0) (fun k => by simp only [sigilref4_follow.j2]; rw [if_neg Bool.false_ne_true]) (Ev.now _)
  have f1 : ∀ k, sigilref4_follow.f k s at_ = sigilref4_follow.j0 k s at_ (bt s at_) 128 191 (decide (bt s at_ ≤ 223)) := by
    intro k; rw [f0, if_pos (by omega)]
  by_cases c2 : bt s at_ ≤ 223
  · obtain ⟨r, h1, h2, h3⟩ := wire_hit s hs at_ 1 ha ha2 (by omega) (by omega) (by omega) (by omega) 1 rfl (by omega)
    refine ⟨r, s0 (by omega) _ h1, Ev.congr f1 (Ev.step (f := fun k => sigilref4_follow.j3 k s at_ 2 128 191) (fun k => ?_) h2), fin (m := 1) (by omega) (by omega) c0 h3⟩
    simp only [sigilref4_follow.j0]; rw [if_pos (by simpa using c2)]
  have f2 : ∀ k, sigilref4_follow.j0 (k + 1) s at_ (bt s at_) 128 191 (decide (bt s at_ ≤ 223)) = sigilref4_follow.j1 k s at_ (bt s at_) 128 191 (decide (bt s at_ ≤ 239)) := by
    intro k; simp only [sigilref4_follow.j0]; rw [if_neg (by simpa using c2), if_pos (by omega)]
  by_cases c3 : bt s at_ ≤ 239
  · have f3 : ∀ k, sigilref4_follow.j1 (k + 1) s at_ (bt s at_) 128 191 (decide (bt s at_ ≤ 239)) = if bt s at_ = 224 then sigilref4_follow.j3 k s at_ 3 160 191 else (if bt s at_ = 237 then sigilref4_follow.j3 k s at_ 3 128 159 else sigilref4_follow.j3 k s at_ 3 128 191) := by
      intro k; simp only [sigilref4_follow.j1]; rw [if_pos (by simpa using c3)]
      by_cases e : bt s at_ = 224
      · rw [if_pos e, if_pos e, if_neg (by omega)]
      · rw [if_neg e, if_neg e]
    by_cases e1 : bt s at_ = 224
    · obtain ⟨r, h1, h2, h3⟩ := wire_hit s hs at_ 2 ha ha2 (by omega) (by omega) (by omega) (by omega) 2 rfl (by omega)
      exact ⟨r, s0 (by omega) _ (s1 (by omega) _ h1), Ev.congr f1 (Ev.step f2 (Ev.step f3 (by simp only [if_pos e1]; exact h2))), fin (m := 2) (by omega) (by omega) c0 h3⟩
    by_cases e2 : bt s at_ ≤ 236
    · obtain ⟨r, h1, h2, h3⟩ := wire_hit s hs at_ 3 ha ha2 (by omega) (by omega) (by omega) (by omega) 2 rfl (by omega)
      exact ⟨r, s0 (by omega) _ (s1 (by omega) _ (s2 (by omega) _ h1)), Ev.congr f1 (Ev.step f2 (Ev.step f3 (by simp only [if_neg e1, if_neg (show ¬ bt s at_ = 237 by omega)]; exact h2))), fin (m := 2) (by omega) (by omega) c0 h3⟩
    by_cases e3 : bt s at_ = 237
    · obtain ⟨r, h1, h2, h3⟩ := wire_hit s hs at_ 4 ha ha2 (by omega) (by omega) (by omega) (by omega) 2 rfl (by omega)
      exact ⟨r, s0 (by omega) _ (s1 (by omega) _ (s2 (by omega) _ (s3 (by omega) _ h1))), Ev.congr f1 (Ev.step f2 (Ev.step f3 (by simp only [if_neg e1, if_pos e3]; exact h2))), fin (m := 2) (by omega) (by omega) c0 h3⟩
    · obtain ⟨r, h1, h2, h3⟩ := wire_hit s hs at_ 5 ha ha2 (by omega) (by omega) (by omega) (by omega) 2 rfl (by omega)
      exact ⟨r, s0 (by omega) _ (s1 (by omega) _ (s2 (by omega) _ (s3 (by omega) _ (s4 (by omega) _ h1)))), Ev.congr f1 (Ev.step f2 (Ev.step f3 (by simp only [if_neg e1, if_neg e3]; exact h2))), fin (m := 2) (by omega) (by omega) c0 h3⟩
  have f4 : ∀ k, sigilref4_follow.j1 (k + 1) s at_ (bt s at_) 128 191 (decide (bt s at_ ≤ 239)) = sigilref4_follow.j2 k s at_ (bt s at_) 128 191 (decide (bt s at_ ≤ 244)) := by
    intro k; simp only [sigilref4_follow.j1]; rw [if_neg (by simpa using c3), if_pos (by omega)]
  by_cases c4 : bt s at_ ≤ 244
  · have f5 : ∀ k, sigilref4_follow.j2 (k + 1) s at_ (bt s at_) 128 191 (decide (bt s at_ ≤ 244)) = if bt s at_ = 240 then sigilref4_follow.j3 k s at_ 4 144 191 else (if bt s at_ = 244 then sigilref4_follow.j3 k s at_ 4 128 143 else sigilref4_follow.j3 k s at_ 4 128 191) := by
      intro k; simp only [sigilref4_follow.j2]; rw [if_pos (by simpa using c4)]
      by_cases e : bt s at_ = 240
      · rw [if_pos e, if_pos e, if_neg (by omega)]
      · rw [if_neg e, if_neg e]
    by_cases e1 : bt s at_ = 240
    · obtain ⟨r, h1, h2, h3⟩ := wire_hit s hs at_ 6 ha ha2 (by omega) (by omega) (by omega) (by omega) 3 rfl (by omega)
      exact ⟨r, s0 (by omega) _ (s1 (by omega) _ (s2 (by omega) _ (s3 (by omega) _ (s4 (by omega) _ (s5 (by omega) _ h1))))), Ev.congr f1 (Ev.step f2 (Ev.step f4 (Ev.step f5 (by simp only [if_pos e1]; exact h2)))), fin (m := 3) (by omega) (by omega) c0 h3⟩
    by_cases e2 : bt s at_ ≤ 243
    · obtain ⟨r, h1, h2, h3⟩ := wire_hit s hs at_ 7 ha ha2 (by omega) (by omega) (by omega) (by omega) 3 rfl (by omega)
      exact ⟨r, s0 (by omega) _ (s1 (by omega) _ (s2 (by omega) _ (s3 (by omega) _ (s4 (by omega) _ (s5 (by omega) _ (s6 (by omega) _ h1)))))), Ev.congr f1 (Ev.step f2 (Ev.step f4 (Ev.step f5 (by simp only [if_neg e1, if_neg (show ¬ bt s at_ = 244 by omega)]; exact h2)))), fin (m := 3) (by omega) (by omega) c0 h3⟩
    · obtain ⟨r, h1, h2, h3⟩ := wire_hit s hs at_ 8 ha ha2 (by omega) (by omega) (by omega) (by omega) 3 rfl (by omega)
      exact ⟨r, s0 (by omega) _ (s1 (by omega) _ (s2 (by omega) _ (s3 (by omega) _ (s4 (by omega) _ (s5 (by omega) _ (s6 (by omega) _ (s7 (by omega) _ h1))))))), Ev.congr f1 (Ev.step f2 (Ev.step f4 (Ev.step f5 (by simp only [if_neg e1, if_pos (show bt s at_ = 244 by omega)]; exact h2)))), fin (m := 3) (by omega) (by omega) c0 h3⟩
  · refine ⟨0, s0 (by omega) _ (s1 (by omega) _ (s2 (by omega) _ (s3 (by omega) _ (s4 (by omega) _ (s5 (by omega) _ (s6 (by omega) _ (s7 (by omega) _ (s8 (by omega) _ none9)))))))), ?_, by omega, by omega⟩
    refine Ev.congr f1 (Ev.step f2 (Ev.step f4 (Ev.step (f := fun _ => some 0) (fun k => ?_) (Ev.now _))))
    simp only [sigilref4_follow.j2]; rw [if_neg (by simpa using c4)]

/-- From place at_ on both tell the same: the first fault's place, or -1. -/
theorem utf8_from (s : ByteArray) (hs : s.size ≤ 140737488355328) (d : Nat) : ∀ at_ : Int, 0 ≤ at_ → at_ ≤ s.size → (s.size : Int) - at_ ≤ d →
    ∃ r, Ev (fun k => wire_Utf8.l0 k s at_) r ∧ Ev (fun k => sigilref4_Utf8.l0 k s at_) r ∧ (r = -1 ∨ at_ ≤ r ∧ r < s.size) := by
  induction d with
  | zero =>
    intro at_ h0 h1 hd
    exact ⟨-1, Ev.step (f := fun _ => some (-1)) (fun k => by simp only [wire_Utf8.l0]; rw [if_neg (by omega)]) (Ev.now _), Ev.step (f := fun _ => some (-1)) (fun k => by simp only [sigilref4_Utf8.l0]; rw [if_neg (by omega)]) (Ev.now _), .inl rfl⟩
  | succ d ih =>
    intro at_ h0 h1 hd
    by_cases c : at_ < (s.size : Int)
    · obtain ⟨n, hn1, hn2, hn3, _⟩ := chr_both s hs at_ h0 c
      have e1 : ∀ k, wire_Utf8.l0 (k + 1) s at_ = (wire_character.f k s at_).bind fun t => if t = 0 then some at_ else wire_Utf8.l0 k s (wrap64 (at_ + t)) := by
        intro k; simp only [wire_Utf8.l0]; rw [if_pos c]
      have e2 : ∀ k, sigilref4_Utf8.l0 (k + 1) s at_ = (sigilref4_follow.f k s at_).bind fun t => if t = 0 then some at_ else sigilref4_Utf8.l0 k s (wrap64 (at_ + t)) := by
        intro k; simp only [sigilref4_Utf8.l0]; rw [if_pos c]
      by_cases z : n = 0
      · refine ⟨at_, Ev.step e1 (Ev.bind hn1 ?_), Ev.step e2 (Ev.bind hn2 ?_), .inr ⟨by omega, c⟩⟩
        · simp only [if_pos z]; exact Ev.now _
        · simp only [if_pos z]; exact Ev.now _
      · obtain ⟨r, h1', h2', h3'⟩ := ih (at_ + n) (by omega) (by omega) (by omega)
        refine ⟨r, Ev.step e1 (Ev.bind hn1 ?_), Ev.step e2 (Ev.bind hn2 ?_), by omega⟩
        · simp only [if_neg z]; rw [w64 (n := at_ + n) (by omega) (by omega)]; exact h1'
        · simp only [if_neg z]; rw [w64 (n := at_ + n) (by omega) (by omega)]; exact h2'
    · exact ⟨-1, Ev.step (f := fun _ => some (-1)) (fun k => by simp only [wire_Utf8.l0]; rw [if_neg c]) (Ev.now _), Ev.step (f := fun _ => some (-1)) (fun k => by simp only [sigilref4_Utf8.l0]; rw [if_neg c]) (Ev.now _), .inl rfl⟩
theorem utf8_both (s : ByteArray) (hs : s.size ≤ 140737488355328) : ∃ r, Ev (fun k => wire_Utf8.f k s) r ∧ Ev (fun k => sigilref4_Utf8.f k s) r ∧ (r = -1 ∨ 0 ≤ r ∧ r < s.size) :=
  utf8_from s hs s.size 0 (by omega) (by omega) (by omega)
end Go.Proofs.YtabgnbbljjohdaaRDoor.Utf8
