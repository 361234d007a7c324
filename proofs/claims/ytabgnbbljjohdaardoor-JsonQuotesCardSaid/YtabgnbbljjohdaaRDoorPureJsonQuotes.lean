/- For every text of at most 2^47 - 4096 bytes: json.Quote answers what the document's Quote answers. No other condition. -/
import Derived.Test.YtabgnbbljjohdaaRDoorUtf8
import Derived.Test.YtabgnbbljjohdaaRDoorAxJ
namespace Go.Proofs.YtabgnbbljjohdaaRDoor.Pure
open Go.RowKit Go.Proofs.YtabgnbbljjohdaaRDoor.A Go.Proofs.YtabgnbbljjohdaaRDoorW.PrintWords Go.Proofs.YtabgnbbljjohdaaRDoor.U Go.Proofs.YtabgnbbljjohdaaRDoor.Utf8

def hexs : ByteArray := ⟨#[48, 49, 50, 51, 52, 53, 54, 55, 56, 57, 97, 98, 99, 100, 101, 102]⟩
def short (c : Int) : Int := (json_short.f 3 c).getD 0
def enc (c : Int) : List Int := if short c = 0 then (if c < 32 then [92, 117, 48, 48, bt hexs (c / 16), bt hexs (Go.bits .and .u8 c 15)] else [c]) else [92, short c]
set_option maxRecDepth 100000 in
theorem short_tab : ∀ n : Fin 256, json_short.f 3 (n.val : Int) = some (short (n.val : Int)) := by decide +kernel
theorem short_ev (s : ByteArray) (i : Int) : Ev (fun k => json_short.f k (bt s i)) (short (bt s i)) :=
  Ev.of (json_short.mono _) (byte_all (P := fun c => json_short.f 3 c = some (short c)) short_tab (bt_range s i).1 (bt_range s i).2)
def Facts (c : Int) : Prop := ((c = 34 ∨ c = 92) → enc c = [92, c]) ∧ (c = 8 → enc c = [92, 98]) ∧ (c = 12 → enc c = [92, 102]) ∧ (c = 10 → enc c = [92, 110]) ∧ (c = 13 → enc c = [92, 114]) ∧ (c = 9 → enc c = [92, 116]) ∧
  (¬ (c = 34 ∨ c = 92 ∨ c = 8 ∨ c = 12 ∨ c = 10 ∨ c = 13 ∨ c = 9) → short c = 0) ∧ (c < 32 → 0 ≤ c / 16 ∧ c / 16 < 16 ∧ 0 ≤ Go.bits .and .u8 c 15 ∧ Go.bits .and .u8 c 15 < 16 ∧ (Int.tdiv c 16) % 256 = c / 16 ∧ Int.tmod c 16 = Go.bits .and .u8 c 15)
instance (c : Int) : Decidable (Facts c) := by unfold Facts; infer_instance
set_option maxRecDepth 100000 in
theorem facts_tab : ∀ n : Fin 256, Facts (n.val : Int) := by decide +kernel
theorem facts (s : ByteArray) (i : Int) : Facts (bt s i) := byte_all (P := Facts) facts_tab (bt_range s i).1 (bt_range s i).2
theorem enc_len (c : Int) : (enc c).length ≤ 6 := by
  unfold enc
  split
  · split <;> simp
  · simp

theorem json_step (s : ByteArray) (l : List Int) (i : Nat) (hi : i < s.size) (hl : l.length ≤ 1000000000) (hs : s.size ≤ 67108864) (x : List Int) (hx : Ev (fun k => json_quote.l0 k (l ++ enc (bt s (i : Int))) s (s.size : Int) ((i : Int) + 1)) x) :
    Ev (fun k => json_quote.l0 k l s (s.size : Int) (i : Int)) x := by
  have hf := (facts s (i : Int)).2.2.2.2.2.2.2
  have hw : wrap64 ((i : Int) + 1) = (i : Int) + 1 := w64 (by omega) (by omega)
  by_cases c0 : short (bt s (i : Int)) = 0
  · have e : enc (bt s (i : Int)) = if bt s (i : Int) < 32 then [92, 117, 48, 48, bt hexs (bt s (i : Int) / 16), bt hexs (Go.bits .and .u8 (bt s (i : Int)) 15)] else [bt s (i : Int)] := by unfold enc; rw [if_pos c0]
    rw [e] at hx
    by_cases c1 : bt s (i : Int) < 32
    · obtain ⟨f1, f2, f3, f4, _, _⟩ := hf c1
      rw [if_pos c1] at hx
      refine Ev.step (f := fun k => (json_short.f k (bt s (i : Int))).bind fun t => if t = 0 then (json_quote.l0 k (l ++ [92, 117, 48, 48, bt hexs (bt s (i : Int) / 16), bt hexs (Go.bits .and .u8 (bt s (i : Int)) 15)]) s (s.size : Int) ((i : Int) + 1)) else (json_short.f k (bt s (i : Int))).bind fun t117 => ((some (([92, t117] : List Int) : List Int)).bind fun y118 => (if l.length + y118.length < 140737488355328 then (json_quote.l0 k (l ++ y118) s (s.size : Int) (wrap64 ((i : Int) + 1))) else (none)))) (fun k => ?_) (Ev.bind (short_ev s (i : Int)) ?_)
      · simp only [json_quote.l0]
        rw [if_pos (by omega), if_pos (by omega), if_pos (by omega), if_pos c1, if_pos f1, if_pos f2, if_pos f3, if_pos f4, hw]
        simp only [Option.bind_some]
        rw [if_pos (by simp; omega)]
        rfl
      · simp only [if_pos c0]; exact hx
    · rw [if_neg c1] at hx
      refine Ev.step (f := fun k => (json_short.f k (bt s (i : Int))).bind fun t => if t = 0 then (json_quote.l0 k (l ++ [bt s (i : Int)]) s (s.size : Int) ((i : Int) + 1)) else (json_short.f k (bt s (i : Int))).bind fun t117 => ((some (([92, t117] : List Int) : List Int)).bind fun y118 => (if l.length + y118.length < 140737488355328 then (json_quote.l0 k (l ++ y118) s (s.size : Int) (wrap64 ((i : Int) + 1))) else (none)))) (fun k => ?_) (Ev.bind (short_ev s (i : Int)) ?_)
      · simp only [json_quote.l0]
        rw [if_pos (by omega), if_pos (by omega), if_pos (by omega), if_neg c1, if_pos (by omega), hw]
      · simp only [if_pos c0]; exact hx
  · have e : enc (bt s (i : Int)) = [92, short (bt s (i : Int))] := by unfold enc; rw [if_neg c0]
    rw [e] at hx
    refine Ev.step (f := fun k => (json_short.f k (bt s (i : Int))).bind fun t107 => (if t107 = 0 then (if (bt s (i : Int)) < 32 then (if 0 ≤ ((bt s (i : Int)) / 16) then (if ((bt s (i : Int)) / 16) < 16 then (if 0 ≤ (Go.bits .and .u8 (bt s (i : Int)) 15) then (if (Go.bits .and .u8 (bt s (i : Int)) 15) < 16 then ((some (([92, 117, 48, 48, bt hexs ((bt s (i : Int)) / 16), bt hexs (Go.bits .and .u8 (bt s (i : Int)) 15)] : List Int) : List Int)).bind fun y108 => (if l.length + y108.length < 140737488355328 then (json_quote.l0 k (l ++ y108) s (s.size : Int) (wrap64 ((i : Int) + 1))) else (none))) else (none)) else (none)) else (none)) else (none)) else (if l.length < 140737488355328 then (json_quote.l0 k (l ++ [bt s (i : Int)]) s (s.size : Int) (wrap64 ((i : Int) + 1))) else (none))) else ((json_short.f k (bt s (i : Int))).bind fun t117 => (json_quote.l0 k (l ++ [92, t117]) s (s.size : Int) ((i : Int) + 1))))) (fun k => ?_) (Ev.bind (short_ev s (i : Int)) ?_)
    · simp only [json_quote.l0]
      rw [if_pos (by omega), if_pos (by omega), if_pos (by omega), hw]
      simp only [Option.bind_some, List.length_cons, List.length_nil, if_pos (show l.length + (0 + 1 + 1) < 140737488355328 by omega)]
      rfl
    · simp only [if_neg c0]
      exact Ev.bind (short_ev s (i : Int)) hx
theorem ref_step (s : ByteArray) (l : List Int) (i : Nat) (hi : i < s.size) (hl : l.length ≤ 1000000000) (hs : s.size ≤ 67108864) (x : List Int) (hx : Ev (fun k => sigilref12_quoted.l0 k (l ++ enc (bt s (i : Int))) s ((i : Int) + 1)) x) :
    Ev (fun k => sigilref12_quoted.l0 k l s (i : Int)) x := by
  obtain ⟨f1, f2, f3, f4, f5, f6, f7, f8⟩ := facts s (i : Int)
  have hw : wrap64 ((i : Int) + 1) = (i : Int) + 1 := w64 (by omega) (by omega)
  by_cases c1 : bt s (i : Int) = 34 ∨ bt s (i : Int) = 92
  · rw [f1 c1] at hx
    refine Ev.step (f := fun k => sigilref12_quoted.j1 k l s (i : Int) (bt s (i : Int)) true) (fun k => ?_) (Ev.step (fun k => ?_) hx)
    · simp only [sigilref12_quoted.l0]
      rw [if_pos (by omega), if_pos (by omega)]
      rcases c1 with c | c
      · rw [if_pos c]
      · rw [if_neg (by omega), c]; rfl
    · simp only [sigilref12_quoted.j1]
      rw [if_pos trivial, hw]
      simp only [Option.bind_some]
      rw [if_pos (by simp; omega)]
  · refine Ev.step (f := fun k => sigilref12_quoted.j1 k l s (i : Int) (bt s (i : Int)) false) (fun k => ?_) (Ev.step (fun k => ?_) hx)
    · simp only [sigilref12_quoted.l0]
      rw [if_pos (by omega), if_pos (by omega), if_neg (by omega), show (bt s (i : Int) == 92) = false from beq_eq_false_iff_ne.mpr (by omega)]
    · simp only [sigilref12_quoted.j1]
      rw [if_neg Bool.false_ne_true, hw]
      by_cases c2 : bt s (i : Int) = 8
      · rw [if_pos c2, f2 c2]; simp only [Option.bind_some]; rw [if_pos (by simp; omega)]
      rw [if_neg c2]
      by_cases c3 : bt s (i : Int) = 12
      · rw [if_pos c3, f3 c3]; simp only [Option.bind_some]; rw [if_pos (by simp; omega)]
      rw [if_neg c3]
      by_cases c4 : bt s (i : Int) = 10
      · rw [if_pos c4, f4 c4]; simp only [Option.bind_some]; rw [if_pos (by simp; omega)]
      rw [if_neg c4]
      by_cases c5 : bt s (i : Int) = 13
      · rw [if_pos c5, f5 c5]; simp only [Option.bind_some]; rw [if_pos (by simp; omega)]
      rw [if_neg c5]
      by_cases c6 : bt s (i : Int) = 9
      · rw [if_pos c6, f6 c6]; simp only [Option.bind_some]; rw [if_pos (by simp; omega)]
      rw [if_neg c6]
      have c0 := f7 (by omega)
      have e : enc (bt s (i : Int)) = if bt s (i : Int) < 32 then [92, 117, 48, 48, bt hexs (bt s (i : Int) / 16), bt hexs (Go.bits .and .u8 (bt s (i : Int)) 15)] else [bt s (i : Int)] := by unfold enc; rw [if_pos c0]
      rw [e]
      by_cases c7 : bt s (i : Int) < 32
      · obtain ⟨g1, g2, g3, g4, g5, g6⟩ := f8 c7
        rw [if_pos c7, if_pos c7, g5, g6, if_pos g1, if_pos g2, if_pos g3, if_pos g4]
        simp only [Option.bind_some]
        rw [if_pos (by simp; omega)]
        rfl
      · rw [if_neg c7, if_neg c7, if_pos (by omega)]
theorem quote_from (s : ByteArray) (hs : s.size ≤ 67108864) (d : Nat) : ∀ (i : Nat) (l : List Int), i ≤ s.size → s.size - i = d → l.length ≤ 1 + 6 * i →
    ∃ r, Ev (fun k => json_quote.l0 k l s (s.size : Int) (i : Int)) r ∧ Ev (fun k => sigilref12_quoted.l0 k l s (i : Int)) r := by
  induction d with
  | zero =>
    intro i l hi hd hl
    refine ⟨l ++ [34], Ev.step (f := fun _ => some (l ++ [34])) (fun k => ?_) (Ev.now _), Ev.step (f := fun _ => some (l ++ [34])) (fun k => ?_) (Ev.now _)⟩
    · simp only [json_quote.l0]; rw [if_neg (by omega), if_pos (by omega)]
    · simp only [sigilref12_quoted.l0]; rw [if_neg (by omega), if_pos (by omega)]
  | succ d ih =>
    intro i l hi hd hl
    have he := enc_len (bt s (i : Int))
    obtain ⟨r, h1, h2⟩ := ih (i + 1) (l ++ enc (bt s (i : Int))) (by omega) (by omega) (by rw [List.length_append]; omega)
    exact ⟨r, json_step s l i (by omega) (by omega) hs r h1, ref_step s l i (by omega) (by omega) hs r h2⟩
theorem jquote_both (s : ByteArray) : ∃ r, Ev (fun k => json_Quote.f k s) r ∧ Ev (fun k => sigilref12_Quote.f k s) r := by
  by_cases c : (s.size : Int) > 67108864
  · exact ⟨((⟨#[]⟩ : ByteArray), 2), Ev.some' _ (fun k => by simp only [json_Quote.f]; rw [if_pos c]), Ev.some' _ (fun k => by simp only [sigilref12_Quote.f]; rw [if_pos c])⟩
  obtain ⟨u, hu1, hu2, _⟩ := utf8_both s (by omega)
  have e1 : ∀ k, json_Quote.f k s = (wire_Utf8.f k s).bind fun t => (if t ≥ 0 then (some ((⟨#[]⟩ : ByteArray), 125)) else ((json_quote.f k ([] : List Int) s).bind fun t432 => (some (strOfNums t432, 0)))) := by
    intro k; simp only [json_Quote.f]; rw [if_neg c]
  have e2 : ∀ k, sigilref12_Quote.f k s = (sigilref4_Utf8.f k s).bind fun t => (if t ≥ 0 then (some ((⟨#[]⟩ : ByteArray), 125)) else ((sigilref12_quoted.f k ([] : List Int) s).bind fun t432 => (some (strOfNums t432, 0)))) := by
    intro k; simp only [sigilref12_Quote.f]; rw [if_neg c]
  by_cases hu : u ≥ 0
  · refine ⟨((⟨#[]⟩ : ByteArray), 125), Ev.congr e1 (Ev.bind hu1 ?_), Ev.congr e2 (Ev.bind hu2 ?_)⟩ <;> simp only [if_pos hu] <;> exact Ev.now _
  · obtain ⟨r, h1, h2⟩ := quote_from s (by omega) s.size 0 [34] (by omega) (by omega) (by simp)
    refine ⟨(strOfNums r, 0), Ev.congr e1 (Ev.bind hu1 ?_), Ev.congr e2 (Ev.bind hu2 ?_)⟩
    · simp only [if_neg hu]
      refine Ev.bind (a := r) (Ev.congr (f := fun k => json_quote.l0 k [34] s (s.size : Int) 0) (fun k => ?_) h1) (Ev.now _)
      simp only [json_quote.f]; rw [if_pos (by simp)]; rfl
    · simp only [if_neg hu]
      refine Ev.bind (a := r) (Ev.congr (f := fun k => sigilref12_quoted.l0 k [34] s 0) (fun k => ?_) h2) (Ev.now _)
      simp only [sigilref12_quoted.f]; rw [if_pos (by simp)]; rfl
set_option maxRecDepth 100000 in
theorem jquote1 : (json_Quote.f 20 (⟨#[97, 34, 10, 1]⟩ : ByteArray)).map (fun r => (r.1.data.toList, r.2)) = some ([34, 97, 92, 34, 92, 110, 92, 117, 48, 48, 48, 49, 34], 0) := by decide +kernel
theorem JsonQuotes (s : ByteArray) (_hs : s.size ≤ 140737488351232) : ∃ k, sigillaw12_JsonQuotes.f k s = some true := by
  refine Ev.rounds (g := fun k => sigillaw12_JsonQuotes.f k s) ?_
  obtain ⟨r, h1, h2⟩ := jquote_both s
  obtain ⟨q, hq, hq2⟩ := Option.map_eq_some_iff.1 jquote1
  obtain ⟨g1, g2⟩ := Prod.mk.inj hq2
  have g3 : q.1.toList = [34, 97, 92, 34, 92, 110, 92, 117, 48, 48, 48, 49, 34] := by rw [ByteArray.toList_eq]; exact g1
  refine Ev.congr (fun k => rfl) (Ev.bind h1 (Ev.bind h2 (Ev.bind (Ev.of (json_Quote.mono _) hq) ?_)))
  refine Ev.some' true (fun k => ?_)
  simp only [sigillaw12_num.f, Option.bind_some, g2, g3, if_true]
  rfl
end Go.Proofs.YtabgnbbljjohdaaRDoor.Pure
