/- For every text and every list of numbers: the places of scan.Tokens' tokens rise, their texts stand there, the end stands at the text's end; their texts with what the statement lays between are read as the same tokens. No other condition. -/
import Derived.Test.YtabgnbbljjohdaaRDoorRelex3
import Derived.Test.YtabgnbbljjohdaaRDoorAxP
namespace Go.Proofs.YtabgnbbljjohdaaRDoor.Pure
open Go.RowKit Go.Proofs.YtabgnbbljjohdaaRDoor.A Go.Proofs.YtabgnbbljjohdaaRDoorW.PrintWords Go.Proofs.YtabgnbbljjohdaaRDoor.U Go.Proofs.YtabgnbbljjohdaaRDoor.Scan1 Go.Proofs.YtabgnbbljjohdaaRDoor.Utf8 Go.Proofs.YtabgnbbljjohdaaRDoor.Unq Go.Proofs.YtabgnbbljjohdaaRDoor.Toks Go.Proofs.YtabgnbbljjohdaaRDoor.Relex

theorem fill_some (n : Int) : ∃ f, f ∈ Fills ∧ sigillaw4_fill.f n = some f := by
  have e : sigillaw4_fill.f n = (if (Fills.length : Int) = 0 then (none) else (if (Int.tmod n (Fills.length : Int)) < 0 then (if 0 ≤ (wrap64 ((Int.tmod n (Fills.length : Int)) + (Fills.length : Int))) then (if (wrap64 ((Int.tmod n (Fills.length : Int)) + (Fills.length : Int))) < (Fills.length : Int) then (some (rdOf ByteArray.empty Fills (wrap64 ((Int.tmod n (Fills.length : Int)) + (Fills.length : Int))))) else (none)) else (none)) else (if 0 ≤ (Int.tmod n (Fills.length : Int)) then (if (Int.tmod n (Fills.length : Int)) < (Fills.length : Int) then (some (rdOf ByteArray.empty Fills (Int.tmod n (Fills.length : Int)))) else (none)) else (none)))) := rfl
  have h8 : (Fills.length : Int) = 8 := rfl
  have mem : ∀ i : Int, 0 ≤ i → i < 8 → rdOf ByteArray.empty Fills i ∈ Fills := by
    intro i h0 h1
    have hl : i.toNat < Fills.length := by show i.toNat < 8; omega
    unfold rdOf
    rw [List.getD_eq_getElem?_getD, List.getElem?_eq_getElem hl]
    exact List.getElem_mem hl
  have b1 := Int.tmod_lt_of_pos n (show (0 : Int) < 8 by omega)
  have b2 := Int.lt_tmod_of_pos n (show (0 : Int) < 8 by omega)
  rw [h8] at e
  generalize Int.tmod n 8 = m at e b1 b2
  rw [if_neg (by omega)] at e
  by_cases c : m < 0
  · rw [if_pos c, w64 (by omega) (by omega), if_pos (by omega), if_pos (by omega)] at e
    exact ⟨_, mem _ (by omega) (by omega), e⟩
  · rw [if_neg c, if_pos (by omega), if_pos (by omega)] at e
    exact ⟨_, mem _ (by omega) (by omega), e⟩

/-- Texts and what stands behind each, as bytes. -/
def glue : List (S40 × ByteArray) → List Int
  | [] => []
  | (x, f) :: r => bytesOf x.f2 ++ (bytesOf f ++ glue r)
theorem str_bytes (s : ByteArray) : (bytesOf s).map (fun n => UInt8.ofNat n.toNat) = s.data.toList := by
  unfold bytesOf
  rw [List.map_map]
  conv => rhs; rw [← List.map_id s.data.toList]
  apply List.map_congr_left
  intro b _
  simp
theorem str_get (A : List Int) (x : ByteArray) (B : List Int) (j : Nat) (h : j < x.size) : (strOfNums (A ++ (bytesOf x ++ B))).data.toList[A.length + j]? = x.data.toList[j]? := by
  rw [strOfNums_data, List.map_append, List.map_append, str_bytes, List.getElem?_append_right (by simp), List.length_map, Nat.add_sub_cancel_left, List.getElem?_append_left (by rw [Array.length_toList]; exact h)]
theorem bt_get (s : ByteArray) (j : Nat) (h : j < s.size) : ∃ b : UInt8, s.data.toList[j]? = some b ∧ bt s (j : Int) = (b.toNat : Int) := by
  obtain ⟨h1, e⟩ := bt_list s (j : Int) (by omega) (by omega)
  exact ⟨_, List.getElem?_eq_getElem (by rw [Array.length_toList]; exact h), by simpa using e⟩
theorem str_at (A : List Int) (x : ByteArray) (B : List Int) : At (strOfNums (A ++ (bytesOf x ++ B))) A.length x := by
  have hz : (strOfNums (A ++ (bytesOf x ++ B))).size = A.length + (x.size + B.length) := by
    rw [strOfNums_size, List.length_append, List.length_append, bytesOf_length]
  refine ⟨by omega, fun j hj => ?_⟩
  obtain ⟨b, b1, b2⟩ := bt_get (strOfNums (A ++ (bytesOf x ++ B))) (A.length + j) (by omega)
  obtain ⟨c, c1, c2⟩ := bt_get x j hj
  rw [str_get A x B j hj, c1] at b1
  rw [show (A.length : Int) + (j : Int) = ((A.length + j : Nat) : Int) by omega, b2, c2, Option.some.inj b1]
theorem glue_glued (t : ByteArray) : ∀ (g : List (S40 × ByteArray)) (A : List Int), (∀ y ∈ g, y.2 ∈ Fills) → t = strOfNums (A ++ glue g) → Glued t A.length g
  | [], A, _, h => by
    show A.length = t.size
    rw [h, strOfNums_size]
    simp [glue]
  | (x, f) :: r, A, hf, h => by
    have h1 : t = strOfNums (A ++ (bytesOf x.f2 ++ (bytesOf f ++ glue r))) := h
    have h2 : t = strOfNums ((A ++ bytesOf x.f2) ++ (bytesOf f ++ glue r)) := by rw [h1]; simp only [List.append_assoc]
    have h3 : t = strOfNums ((A ++ bytesOf x.f2 ++ bytesOf f) ++ glue r) := by rw [h1]; simp only [List.append_assoc]
    have l2 : (A ++ bytesOf x.f2).length = A.length + x.f2.size := by rw [List.length_append, bytesOf_length]
    have l3 : (A ++ bytesOf x.f2 ++ bytesOf f).length = A.length + x.f2.size + f.size := by rw [List.length_append, l2, bytesOf_length]
    have g1 := str_at A x.f2 (bytesOf f ++ glue r)
    have g2 := str_at (A ++ bytesOf x.f2) f (glue r)
    rw [← h1] at g1
    rw [← h2, l2] at g2
    refine ⟨g1, g2, hf _ (List.mem_cons_self ..), ?_⟩
    have := glue_glued t r (A ++ bytesOf x.f2 ++ bytesOf f) (fun y hy => hf y (List.mem_cons_of_mem _ hy)) h3
    rw [l3] at this
    exact this

theorem kinds_from (a b : List S40) (hal : LikeT a b) (hl : a.length ≤ 140737488355328) : ∀ (xs ys pa pb : List S40), a = pa ++ xs → b = pb ++ ys → pa.length = pb.length → LikeT xs ys → Ev (fun k => sigillaw4_kinds.l0 k a b (pa.length : Int)) true
  | [], ys, pa, pb, ha, hb, hp, h => by
    refine Ev.step (f := fun _ => some true) (fun k => ?_) (Ev.now _)
    simp only [sigillaw4_kinds.l0]
    rw [if_neg (by rw [ha]; simp)]
  | x :: xs, [], pa, pb, ha, hb, hp, h => h.elim
  | x :: xs, y :: ys, pa, pb, ha, hb, hp, h => by
    have hla := congrArg List.length ha
    have hlb := congrArg List.length hb
    simp only [List.length_append, List.length_cons] at hla hlb
    have ih := kinds_from a b hal hl xs ys (pa ++ [x]) (pb ++ [y]) (by rw [ha]; simp) (by rw [hb]; simp) (by simp [hp]) h.2.2
    have ra : rd_T40 a (pa.length : Int) = x := by unfold rd_T40; rw [ha, Int.toNat_natCast, List.getD_eq_getElem?_getD]; simp
    have rb : rd_T40 b (pa.length : Int) = y := by unfold rd_T40; rw [hb, Int.toNat_natCast, List.getD_eq_getElem?_getD, hp]; simp
    refine Ev.step (f := fun k => sigillaw4_kinds.l0 k a b ((pa ++ [x]).length : Int)) (fun k => ?_) ih
    simp only [sigillaw4_kinds.l0]
    rw [if_pos (by omega), if_pos (by omega), if_pos (by omega), ra, rb, if_pos h.1, if_pos (by rw [h.2.1]), w64 (by omega) (by omega), List.length_append]
    rfl

section
variable (s : ByteArray) (hs : s.size ≤ 65536) (fills : List Int) (hf : fills.length * 8 ≤ 140737488351232)
include hs hf
set_option linter.unusedSectionVars false
/-- What is done with the bytes in the end. -/
def placesEnd (_s : ByteArray) (L : List S40) (b : List Int) (k : Nat) : Option Bool := (scan_Tokens.f k (strOfNums b)).bind fun bt293 => (if ((strOfNums b).size : Int) > 65536 then (some (bt293.2.2 == 2)) else (if bt293.2.2 = 0 then ((sigillaw4_kinds.f k L bt293.1).bind fun t298 => (some t298)) else (some false)))
/-- One round's second half: the text and what stands behind it. -/
theorem places_j2 (L : List S40) (b : List Int) (i : Nat) (x : S40) (hb : b.length ≤ 70000 * i) (hi : i ≤ 16384) (hx : x.f2.size ≤ 65536) (hp : 0 ≤ x.f1 ∧ x.f1 ≤ 65536) :
    ∃ f, f ∈ Fills ∧ ∀ r, Ev (fun k => sigillaw4_ScanPlaces.l0 k s fills L (x.f1 + (x.f2.size : Int)) (b ++ bytesOf x.f2 ++ bytesOf f) ((i + 1 : Nat) : Int)) r → Ev (fun k => sigillaw4_ScanPlaces.j2 k s fills L b (i : Int) false x.f0 x.f1 x.f2) r := by
  have hbl : (b ++ bytesOf x.f2).length = b.length + x.f2.size := by rw [List.length_append, bytesOf_length]
  by_cases c : (fills.length : Int) > 0
  · have t1 := Int.tmod_lt_of_pos (i : Int) c
    have t0 : 0 ≤ Int.tmod (i : Int) (fills.length : Int) := Int.tmod_nonneg _ (by omega)
    obtain ⟨f, f1, f2⟩ := fill_some (rd fills (Int.tmod (i : Int) (fills.length : Int)))
    have fz := (fills_ascii f f1).1.2
    refine ⟨f, f1, fun r hr => Ev.step (fun k => ?_) hr⟩
    simp only [sigillaw4_ScanPlaces.j2]
    rw [if_neg Bool.false_ne_true, if_pos (by omega), Option.bind_some, if_pos c, if_neg (by omega), if_pos t0, if_pos t1, f2, Option.bind_some, if_pos (by omega), w64 (by omega) (by omega), w64 (by omega) (by omega)]
    rfl
  · refine ⟨(⟨#[32]⟩ : ByteArray), by unfold Fills; exact List.mem_cons_self .., fun r hr => Ev.step (fun k => ?_) hr⟩
    simp only [sigillaw4_ScanPlaces.j2]
    rw [if_neg Bool.false_ne_true, if_pos (by omega), Option.bind_some, if_neg c, if_pos (by omega), w64 (by omega) (by omega), w64 (by omega) (by omega)]
    rfl
/-- The loop over the tokens from the i-th on. -/
theorem places_loop (L : List S40) (hL : L.length ≤ 16384) (e : S40) (he : e = (⟨5, (s.size : Int), (⟨#[]⟩ : ByteArray)⟩ : S40)) : ∀ (xs pre : List S40) (p : Nat) (b : List Int), L = pre ++ (xs ++ [e]) → Row s p xs → p ≤ s.size → b.length ≤ 70000 * pre.length →
    ∃ fs : List ByteArray, xs.length + 1 = fs.length ∧ (∀ f ∈ fs, f ∈ Fills) ∧ ∀ r, Ev (placesEnd s L (b ++ glue ((xs ++ [e]).zip fs))) r → Ev (fun k => sigillaw4_ScanPlaces.l0 k s fills L (p : Int) b (pre.length : Int)) r
  | [], pre, p, b, hpre, hR, hp, hb => by
    have hlen := congrArg List.length hpre
    simp only [List.length_append, List.length_cons, List.length_nil, List.nil_append] at hlen
    have rx : rd_T40 L (pre.length : Int) = e := by unfold rd_T40; rw [hpre, Int.toNat_natCast, List.getD_eq_getElem?_getD]; simp
    obtain ⟨f, f1, f2⟩ := places_j2 s hs fills hf L b pre.length e hb (by omega) (by rw [he]; exact Nat.zero_le _) (by rw [he]; exact ⟨by show (0 : Int) ≤ s.size; omega, by show (s.size : Int) ≤ 65536; omega⟩)
    refine ⟨[f], rfl, fun g hg => by simp at hg; rw [hg]; exact f1, fun r hr => ?_⟩
    have h5 : e.f0 = 5 := by rw [he]
    have h6 : e.f1 = (s.size : Int) := by rw [he]
    have h7 : e.f2 = (⟨#[]⟩ : ByteArray) := by rw [he]
    have z7 : (e.f2.size : Int) = 0 := by rw [h7]; rfl
    refine Ev.step (f := fun k => sigillaw4_ScanPlaces.j2 k s fills L b (pre.length : Int) false e.f0 e.f1 e.f2) (fun k => ?_) (f2 r (Ev.step (f := placesEnd s L (b ++ bytesOf e.f2 ++ bytesOf f)) (fun k => ?_) ?_))
    · simp only [sigillaw4_ScanPlaces.l0]
      rw [rx, z7, if_pos (by omega), if_pos (by omega), if_neg (by omega), Int.sub_zero, w64 (by omega) (by omega), if_neg (by omega), if_pos (by omega), Int.add_zero, w64 (by omega) (by omega), if_pos (by omega), if_pos (by omega), if_pos ?_, if_neg (by omega), if_neg (by omega)]
      · have q1 : (e.f2.toList == ([] : List UInt8)) = true := by rw [beq_iff_eq, toList_nil, h7]; rfl
        have q2 : ((pre.length : Int) == wrap64 ((L.length : Int) - 1)) = true := by rw [beq_iff_eq, w64 (by omega) (by omega)]; omega
        rw [q1, q2]
        rfl
      · have : s.extract e.f1.toNat e.f1.toNat = e.f2 := by
          have := size_extract s e.f1.toNat e.f1.toNat (by omega)
          refine ext_bt (by omega) (fun i h0 h1 => by omega)
        rw [this]
    · simp only [sigillaw4_ScanPlaces.l0, placesEnd]
      rw [if_neg (by omega)]
    · have eg : b ++ glue (([] ++ [e]).zip [f]) = b ++ bytesOf e.f2 ++ bytesOf f := by
        show b ++ (bytesOf e.f2 ++ (bytesOf f ++ [])) = _
        rw [List.append_nil, List.append_assoc]
      rw [eg] at hr
      exact hr
  | x :: xs, pre, p, b, hpre, ⟨a, n, hpa, hT, hR⟩, hp, hb => by
    have hlen := congrArg List.length hpre
    simp only [List.length_append, List.length_cons, List.length_nil] at hlen
    have rx : rd_T40 L (pre.length : Int) = x := by unfold rd_T40; rw [hpre, Int.toNat_natCast, List.getD_eq_getElem?_getD]; simp
    obtain ⟨t1, t2, t3, t4, t5, t6, _⟩ := hT
    have hz : x.f2.size = n := by rw [t4, size_extract s a (a + n) t3]; omega
    obtain ⟨f, f1, f2⟩ := places_j2 s hs fills hf L b pre.length x hb (by omega) (by omega) (by omega)
    have fz := (fills_ascii f f1).1.2
    obtain ⟨fs, g1, g2, g3⟩ := places_loop L hL e he xs (pre ++ [x]) (a + n) (b ++ bytesOf x.f2 ++ bytesOf f) (by rw [hpre]; simp) hR t3 (by simp only [List.length_append, bytesOf_length, List.length_cons, List.length_nil]; omega)
    refine ⟨f :: fs, by simpa using g1, fun g hg => by
      rcases List.mem_cons.1 hg with rfl | hg
      · exact f1
      · exact g2 g hg, fun r hr => ?_⟩
    have eg : b ++ glue (((x :: xs) ++ [e]).zip (f :: fs)) = b ++ bytesOf x.f2 ++ bytesOf f ++ glue ((xs ++ [e]).zip fs) := by
      show b ++ (bytesOf x.f2 ++ (bytesOf f ++ glue ((xs ++ [e]).zip fs))) = _
      simp only [List.append_assoc]
    rw [eg] at hr
    have h8 := g3 r hr
    refine Ev.step (f := fun k => sigillaw4_ScanPlaces.j2 k s fills L b (pre.length : Int) false x.f0 x.f1 x.f2) (fun k => ?_) (f2 r ?_)
    · simp only [sigillaw4_ScanPlaces.l0]
      rw [rx, hz, if_pos (by omega), if_pos (by omega), if_neg (by omega), w64 (n := (s.size : Int) - n) (by omega) (by omega), if_neg (by omega), if_pos (by omega), w64 (n := x.f1 + n) (by omega) (by omega), if_pos (by omega), if_pos (by omega), if_pos ?_, if_neg (by omega), if_neg (by omega)]
      · have q1 : (x.f2.toList == ([] : List UInt8)) = false := by
          rw [beq_eq_false_iff_ne]
          intro h
          have := (toList_nil x.f2).1 h
          omega
        have q2 : ((pre.length : Int) == wrap64 ((L.length : Int) - 1)) = false := by rw [beq_eq_false_iff_ne, w64 (by omega) (by omega)]; omega
        rw [q1, q2]
        rfl
      · rw [t4, show x.f1.toNat = a by omega, show (x.f1 + (n : Int)).toNat = a + n by omega]
    · rw [show x.f1 + (x.f2.size : Int) = ((a + n : Nat) : Int) by omega]
      have : (pre ++ [x]).length = pre.length + 1 := by simp
      rw [this] at h8
      exact h8
end
theorem ScanPlaces : sigillaw4_ScanPlaces.Pure := by
  intro s fills hs0 _ hf _
  refine Ev.rounds (g := fun k => sigillaw4_ScanPlaces.f k s fills) ?_
  obtain ⟨r, hr, hc⟩ := tokens_all s
  refine Ev.congr (f := fun k => (sigillaw4_head.f k).bind fun t273 => (if t273 = true then ((scan_Tokens.f k s).bind fun bt274 => (if bt274.2.2 = 0 then (if (bt274.1.length : Int) < 1 then (sigillaw4_ScanPlaces.j0 k s fills bt274.1 true) else (if 0 ≤ (wrap64 ((bt274.1.length : Int) - 1)) then (if (wrap64 ((bt274.1.length : Int) - 1)) < (bt274.1.length : Int) then (sigillaw4_ScanPlaces.j0 k s fills bt274.1 (!(((rd_T40 bt274.1 (wrap64 ((bt274.1.length : Int) - 1))).f0) == 5) || (!(((rd_T40 bt274.1 (wrap64 ((bt274.1.length : Int) - 1))).f1) == (s.size : Int)) || (!((((rd_T40 bt274.1 (wrap64 ((bt274.1.length : Int) - 1))).f2).toList) == ([] : List UInt8)))))) else (none)) else (none))) else (if (bt274.1.length : Int) = 0 then (if bt274.2.1 ≥ 0 then (some (decide (bt274.2.1 ≤ (s.size : Int)))) else (some false)) else (some false)))) else (some false))) (fun k => rfl) (Ev.bind head_ev ?_)
  simp only [if_true]
  refine Ev.bind hr ?_
  rcases hc with ⟨h1, h2, h3, h4⟩ | ⟨hs, hU, more, rfl, hR, hl⟩
  · refine Ev.some' _ (fun k => ?_)
    rw [if_neg h1, h2, if_pos (by rfl), if_pos h3, decide_eq_true h4]
  · have hLlen : (more ++ [(⟨5, (s.size : Int), (⟨#[]⟩ : ByteArray)⟩ : S40)]).length = more.length + 1 := by simp
    have rl : rd_T40 (more ++ [(⟨5, (s.size : Int), (⟨#[]⟩ : ByteArray)⟩ : S40)]) (more.length : Int) = (⟨5, (s.size : Int), (⟨#[]⟩ : ByteArray)⟩ : S40) := by unfold rd_T40; rw [Int.toNat_natCast, List.getD_eq_getElem?_getD]; simp
    obtain ⟨fs, g1, g2, g3⟩ := places_loop s hs fills hf (more ++ [(⟨5, (s.size : Int), (⟨#[]⟩ : ByteArray)⟩ : S40)]) (by omega) _ rfl more [] 0 [] rfl hR (by omega) (by simp)
    have hend := g3 true ?_
    · simp only [if_true]
      refine Ev.congr (fun k => ?_) (Ev.step (g := fun k => sigillaw4_ScanPlaces.j0 k s fills (more ++ [(⟨5, (s.size : Int), (⟨#[]⟩ : ByteArray)⟩ : S40)]) false) (fun k => by simp only [sigillaw4_ScanPlaces.j0]; rw [if_neg Bool.false_ne_true]; rfl) hend)
      rw [hLlen, if_neg (by omega), w64 (by omega) (by omega), if_pos (by omega), if_pos (by omega), show ((more.length + 1 : Nat) : Int) - 1 = (more.length : Int) by omega, rl]
      congr 1
      have q1 : ((⟨#[]⟩ : ByteArray).toList == ([] : List UInt8)) = true := by rw [beq_iff_eq, toList_nil]; rfl
      simp only [beq_self_eq_true, q1, Bool.not_true, Bool.or_false]
    · -- the glued text
      have hzf : ∀ y ∈ (more ++ [(⟨5, (s.size : Int), (⟨#[]⟩ : ByteArray)⟩ : S40)]).zip fs, y.2 ∈ Fills := fun y hy => g2 y.2 (List.of_mem_zip hy).2
      rw [List.nil_append]
      generalize ht : strOfNums (glue ((more ++ [(⟨5, (s.size : Int), (⟨#[]⟩ : ByteArray)⟩ : S40)]).zip fs)) = t
      have hG := glue_glued t _ [] hzf (by rw [List.nil_append]; exact ht.symm)
      refine Ev.congr (f := fun k => (scan_Tokens.f k t).bind fun bt293 => (if (t.size : Int) > 65536 then (some (bt293.2.2 == 2)) else (if bt293.2.2 = 0 then ((sigillaw4_kinds.f k (more ++ [(⟨5, (s.size : Int), (⟨#[]⟩ : ByteArray)⟩ : S40)]) bt293.1).bind fun t298 => (some t298)) else (some false)))) (fun k => by simp only [placesEnd]; rw [ht]) ?_
      by_cases c : (t.size : Int) > 65536
      · refine Ev.bind (a := ([], 0, 2)) (Ev.some' _ (fun k => by simp only [scan_Tokens.f]; rw [if_pos c])) ?_
        simp only [if_pos c]
        exact Ev.now _
      · have ez : (⟨5, (s.size : Int), (⟨#[]⟩ : ByteArray)⟩ : S40).f2.size = 0 := rfl
        have u8 := glued_utf8 hs (by omega) hU more fs 0 0 _ g1 hR ez hG
        obtain ⟨m, m1, m2⟩ := glued_tokens hs (by omega) more fs 0 0 _ [] g1 hR ez hG (by simpa using hl)
        have hT : Ev (fun k => scan_Tokens.f k t) ([] ++ (m ++ [(⟨5, (t.size : Int), (⟨#[]⟩ : ByteArray)⟩ : S40)]), 0, 0) := by
          refine Ev.congr (f := fun k => (wire_Utf8.f k t).bind fun u => if u ≥ 0 then some (([] : List S40), u, 44) else scan_Tokens.l0 k t ([] : List S40) 0) (fun k => by simp only [scan_Tokens.f]; rw [if_neg c]) (Ev.bind u8 ?_)
          simp only [if_neg (show ¬ (-1 : Int) ≥ 0 by omega)]
          exact m1
        refine Ev.bind hT ?_
        simp only [if_neg c, if_true, List.nil_append]
        have hal : LikeT (more ++ [(⟨5, (s.size : Int), (⟨#[]⟩ : ByteArray)⟩ : S40)]) (m ++ [(⟨5, (t.size : Int), (⟨#[]⟩ : ByteArray)⟩ : S40)]) := LikeT.append m2 ⟨rfl, rfl, trivial⟩
        refine Ev.bind (a := true) ?_ (Ev.now _)
        refine Ev.congr (f := fun k => sigillaw4_kinds.l0 k (more ++ [(⟨5, (s.size : Int), (⟨#[]⟩ : ByteArray)⟩ : S40)]) (m ++ [(⟨5, (t.size : Int), (⟨#[]⟩ : ByteArray)⟩ : S40)]) 0) (fun k => ?_) (kinds_from _ _ hal (by omega) _ _ [] [] rfl rfl rfl hal)
        simp only [sigillaw4_kinds.f]
        rw [if_pos (by rw [hal.length])]
theorem ScanPlaces2 (s : ByteArray) (hs : s.size ≤ 140737488351232) (fills : List Int) (hf : fills.length * 8 ≤ 140737488351232) (hw : ∀ x ∈ fills, (Lit.int .i64 x).wf = true) : ∃ k, sigillaw4_ScanPlaces.f k s fills = some true :=
  ScanPlaces s fills hs (by unfold maxLen; omega) hf hw
end Go.Proofs.YtabgnbbljjohdaaRDoor.Pure
