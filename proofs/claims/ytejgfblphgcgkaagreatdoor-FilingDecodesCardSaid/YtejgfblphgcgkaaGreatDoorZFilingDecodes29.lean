/- Texts for the law FilingDecodes (kept out of a larger one). -/
import Derived.Test.YtejgfblphgcgkaaGreatDoorZFilingDecodes28
import Derived.WalkKit
namespace Go.Proofs.YtejgfblphgcgkaaGreatDoor.P
set_option linter.unusedVariables false
set_option linter.unusedSimpArgs false
open Go.RowKit Go.Proofs.YtejgfblphgcgkaaGreatDoorW.PrintWords
theorem cutC_join (c : UInt8) : ∀ (t : List (List UInt8)) (a : List UInt8), c ∉ a → (∀ y ∈ t, c ∉ y) → cutC c (a ++ t.flatMap (fun y => c :: y)) = a :: t
 | [], a, ha, _ => by simp; exact cutC_last c a ha
 | b :: t, a, ha, ht => by
  have := cutC_join c t b (ht b List.mem_cons_self) (fun y hy => ht y (List.mem_cons_of_mem _ hy))
  rw [List.flatMap_cons, List.cons_append, cutC_piece c a _ ha, this]
def endW : List UInt8 := [101, 110, 100]
theorem enc_pieces {p v : Int} {l : List S60} (h : validP p v l = true) : cutC 10 (encL p v l) = hdr0 p v :: (l.map line0 ++ [endW, []]) := by
 obtain ⟨h1, h2, h3, h4, h5, h6⟩ := valid_parts h
 rw [enc_split]
 unfold body0 endsB
 have e : hdr0 p v ++ l.flatMap (fun x => 10 :: line0 x) ++ [10, 101, 110, 100, 10] = hdr0 p v ++ (l.map line0 ++ [endW, []]).flatMap (fun y => (10 : UInt8) :: y) := by
  rw [List.append_assoc, List.flatMap_append, List.flatMap_map]
  rfl
 rw [e]
 refine cutC_join 10 _ _ (hdr_free p v) (fun y hy => ?_)
 rcases List.mem_append.1 hy with hy | hy
 · obtain ⟨x, hx, rfl⟩ := List.mem_map.1 hy
   exact line_free (h6 x hx)
 · simp only [List.mem_cons, List.not_mem_nil, or_false] at hy
   rcases hy with rfl | rfl <;> decide
open Classical in
noncomputable def numR (s : ByteArray) : Int × Bool := if h : s.size ≤ 65536 then (number_ref s h).choose else (0, false)
theorem numR_ev {s : ByteArray} (h : s.size ≤ 65536) : Ev (fun k => payrollref34_Number.f k s) (numR s) := by
 unfold numR; rw [dif_pos h]; exact (number_ref s h).choose_spec.1
theorem numR_true {s : ByteArray} (h : s.size ≤ 65536) (h2 : (numR s).2 = true) : itoaB (numR s).1 = s := by
 unfold numR at h2 ⊢; rw [dif_pos h] at h2 ⊢; exact (number_ref s h).choose_spec.2.1 h2
theorem numR_itoa {s : ByteArray} (h : s.size ≤ 65536) {n : Int} (h0 : -1000000000000000000 < n) (h1 : n < 1000000000000000000) (e : s = itoaB n) : numR s = (n, true) := by
 unfold numR; rw [dif_pos h]; exact (number_ref s h).choose_spec.2.2 n h0 h1 e
def wordR (k : Int) : ByteArray := (payrollref34_Word.f k).getD ⟨#[]⟩
theorem wordR_some {k : Int} (h1 : 1 ≤ k) (h2 : k ≤ 10) : payrollref34_Word.f k = some (wordR k) := by
 have h : k = 1 ∨ k = 2 ∨ k = 3 ∨ k = 4 ∨ k = 5 ∨ k = 6 ∨ k = 7 ∨ k = 8 ∨ k = 9 ∨ k = 10 := by omega
 rcases h with e | e | e | e | e | e | e | e | e | e <;> (rw [e]; decide +kernel)
theorem wordR_B {k : Int} (h : k = 4 ∨ k = 5 ∨ k = 6) : wordR k = wordB k := by
 rcases h with e | e | e <;> (rw [e]; decide +kernel)
def noS : S60 := ⟨0, ⟨#[]⟩, 0⟩
noncomputable def lineB (k : Int) : List ByteArray → S60 × Bool
 | [a, b] => if bareB k = true then (⟨k, ⟨#[]⟩, (numR b).1⟩, (numR b).2 && FormP k ⟨#[]⟩ (numR b).1) else (noS, false)
 | [a, b, c] => if bareB k = true then (noS, false) else (⟨k, b, (numR c).1⟩, (numR c).2 && FormP k b (numR c).1)
 | _ => (noS, false)
theorem lineR_j (w : List ByteArray) (hs : ∀ y ∈ w, y.size ≤ 65536) (k : Int) (h1 : 1 ≤ k) (h2 : k ≤ 10) : Ev (fun j => payrollref34_Line.j1 j w (if bareB k = true then 1 else 2) k (⟨#[]⟩ : ByteArray) 0) ((lineB k w).1.f0, (lineB k w).1.f1, (lineB k w).1.f2, (lineB k w).2) := by
 have w2 : wrap64 ((1 : Int) + 1) = 2 := by decide +kernel
 have w3 : wrap64 ((2 : Int) + 1) = 3 := by decide +kernel
 have fin : ∀ (a : Int) (c : ByteArray), 0 ≤ a → a < (w.length : Int) → (rdOf ByteArray.empty w a).size ≤ 65536 → Ev (fun j => payrollref34_Line.j2 j w a k c 0) (k, c, (numR (rdOf ByteArray.empty w a)).1, (numR (rdOf ByteArray.empty w a)).2 && FormP k c (numR (rdOf ByteArray.empty w a)).1) := by
  intro a c a0 a1 hz
  refine Ev.step (fun j => by simp only [payrollref34_Line.j2]; rfl) (Ev.ifp a0 (Ev.ifp a1 (Ev.bind (numR_ev hz) ?_)))
  cases h : (numR (rdOf ByteArray.empty w a)).2 with
  | true => exact Ev.ifp (by trivial) (Ev.bind (ref34_Form_ev _ _ _) ((Ev.now _).cast (by rw [Bool.true_and])))
  | false => exact Ev.ifn (by decide) ((Ev.now _).cast (by rw [Bool.false_and]))
 cases hb : bareB k with
 | true =>
  rw [if_pos rfl]
  refine Ev.step (fun j => by simp only [payrollref34_Line.j1]; rfl) ?_
  rw [w2]
  by_cases hl : w.length = 2
  · obtain ⟨a, b, rfl⟩ : ∃ a b, w = [a, b] := by
     match w, hl with | [a, b], _ => exact ⟨a, b, rfl⟩
    refine Ev.ifp rfl (Ev.ifn (by decide) ((fin 1 ⟨#[]⟩ (by decide) (show (1 : Int) < ((2 : Nat) : Int) by decide) (hs b (by simp))).cast ?_))
    simp only [lineB]
    rw [if_pos hb]
    rfl
  · have : lineB k w = (noS, false) := by
     match w, hl with
     | [], _ => rfl
     | [_], _ => rfl
     | [_, _], h => exact absurd rfl h
     | [_, _, _], _ => simp only [lineB]; rw [if_pos hb]
     | _ :: _ :: _ :: _ :: _, _ => rfl
    rw [this]
    exact Ev.ifn (by omega) (Ev.now _)
 | false =>
  rw [if_neg (by decide)]
  refine Ev.step (fun j => by simp only [payrollref34_Line.j1]; rfl) ?_
  rw [w3]
  by_cases hl : w.length = 3
  · obtain ⟨a, b, c, rfl⟩ : ∃ a b c, w = [a, b, c] := by
     match w, hl with | [a, b, c], _ => exact ⟨a, b, c, rfl⟩
    refine Ev.ifp rfl (Ev.ifp (by trivial) (Ev.ifp (show (1 : Int) < ((3 : Nat) : Int) by decide) ((fin 2 b (by decide) (show (2 : Int) < ((3 : Nat) : Int) by decide) (hs c (by simp))).cast ?_)))
    simp only [lineB]
    rw [if_neg (by rw [hb]; decide)]
    rfl
  · have : lineB k w = (noS, false) := by
     match w, hl with
     | [], _ => rfl
     | [_], _ => rfl
     | [_, _], _ => simp only [lineB]; rw [if_neg (by rw [hb]; decide)]
     | [_, _, _], h => exact absurd rfl h
     | _ :: _ :: _ :: _ :: _, _ => rfl
    rw [this]
    exact Ev.ifn (by omega) (Ev.now _)
noncomputable def lineR (w : List ByteArray) : Nat → Int → S60 × Bool
 | 0, _ => (noS, false)
 | m + 1, k => if (rdOf ByteArray.empty w 0).toList = (wordR k).toList then lineB k w else lineR w m (k + 1)
theorem lineR_loop (w : List ByteArray) (hs : ∀ y ∈ w, y.size ≤ 65536) (hw : w ≠ []) : ∀ (m : Nat) (k : Int), k + m = 11 → 1 ≤ k → Ev (fun j => payrollref34_Line.l0 j w k) ((lineR w m k).1.f0, (lineR w m k).1.f1, (lineR w m k).1.f2, (lineR w m k).2) := by
 have hpos : 0 < w.length := List.length_pos_iff.2 hw
 intro m
 induction m with
 | zero =>
  intro k hk h1
  exact Ev.step (fun j => by simp only [payrollref34_Line.l0]; rfl) (Ev.ifn (by omega) (Ev.now _))
 | succ m ih =>
  intro k hk h1
  have e1 : wrap64 (k + 1) = k + 1 := by unfold wrap64; omega
  refine Ev.step (fun j => by simp only [payrollref34_Line.l0]; rfl) (Ev.ifp (by omega) (Ev.ifp (by omega) (Ev.bindc (wordR_some h1 (by omega)) ?_)))
  unfold lineR
  by_cases h : (rdOf ByteArray.empty w 0).toList = (wordR k).toList
  · rw [if_pos h]
    refine Ev.ifp h (Ev.bindc (bare_eq k) ?_)
    have := lineR_j w hs k h1 (by omega)
    cases hb : bareB k with
    | true => rw [hb, if_pos rfl] at this; exact Ev.ifp (by trivial) this
    | false => rw [hb, if_neg (by decide)] at this; exact Ev.ifn (by decide) this
  · rw [if_neg h]
    refine Ev.ifn h ?_
    rw [e1]
    exact ih (k + 1) (by omega) (by omega)
noncomputable def lineRR (x : ByteArray) : S60 × Bool := lineR (splitP x 32) 10 1
theorem lineRR_ev (x : ByteArray) (hx : x.size ≤ 65536) : Ev (fun j => payrollref34_Line.f j (splitP x 32)) ((lineRR x).1.f0, (lineRR x).1.f1, (lineRR x).1.f2, (lineRR x).2) := by
 unfold payrollref34_Line.f
 exact lineR_loop (splitP x 32) (fun y hy => Nat.le_trans (splitP_size x 32 y hy) hx) (splitP_ne x 32) 10 1 (by omega) (by omega)
theorem lineR_from (w : List ByteArray) (hs : ∀ y ∈ w, y.size ≤ 65536) : ∀ (m : Nat) (k : Int), (lineR w m k).2 = true → goodX (lineR w m k).1 = true → joinC 32 (w.map (·.data.toList)) = line0 (lineR w m k).1
 | 0, k, h, _ => by cases h
 | m + 1, k, h, hg => by
  unfold lineR at h hg ⊢
  by_cases e : (rdOf ByteArray.empty w 0).toList = (wordR k).toList
  · rw [if_pos e] at h hg ⊢
    match w, e, h, hg, hs with
    | [a, b], e, h, hg, hs =>
     simp only [lineB] at h hg ⊢
     by_cases hb : bareB k = true
     · rw [if_pos hb] at h hg ⊢
       simp only [Bool.and_eq_true] at h
       have hk := (goodX_form hg).1
       have hk6 : k = 6 := by
        rcases hk with q | q | q
        · rw [show k = 4 from q] at hb; exact absurd hb (by decide)
        · rw [show k = 5 from q] at hb; exact absurd hb (by decide)
        · exact q
       have ha : a.data.toList = (wordB k).data.toList := by
        rw [← wordR_B (Or.inr (Or.inr hk6)), ← Lib.toList_data, ← Lib.toList_data]; exact e
       have hn := numR_true (hs b (by simp)) h.1
       unfold line0
       rw [code_nil]
       simp only [List.map_cons, List.map_nil, joinC]
       rw [ha, ← itoaB_list, hn]
       rfl
     · rw [if_neg hb] at h; cases h
    | [a, b, c], e, h, hg, hs =>
     simp only [lineB] at h hg ⊢
     by_cases hb : bareB k = true
     · rw [if_pos hb] at h; cases h
     · rw [if_neg hb] at h hg ⊢
       simp only [Bool.and_eq_true] at h
       obtain ⟨hk, -, -, -, hnm⟩ := goodX_form hg
       have hk6 : k ≠ 6 := fun q => hb (by rw [q]; decide)
       have hname := name_sep (hnm hk6)
       have ha : a.data.toList = (wordB k).data.toList := by
        rw [← wordR_B hk, ← Lib.toList_data, ← Lib.toList_data]; exact e
       have hn := numR_true (hs c (by simp)) h.1
       unfold line0
       rw [code_some hname.2.2.1]
       simp only [List.map_cons, List.map_nil, joinC]
       rw [ha, ← itoaB_list, hn]
       simp
    | [], e, h, hg, hs => cases h
    | [_], e, h, hg, hs => cases h
    | _ :: _ :: _ :: _ :: _, e, h, hg, hs => cases h
  · rw [if_neg e] at h hg ⊢
    exact lineR_from w hs m (k + 1) h hg
theorem lineR_back {x : S60} (h : goodX x = true) {s : ByteArray} (hz : s.size ≤ 65536) (hs : s.data.toList = line0 x) : lineRR s = (x, true) := by
 obtain ⟨hw, hw1, -, -⟩ := word_list h
 obtain ⟨hk, b1, b2, h6, hn⟩ := goodX_form h
 have hform : FormP x.f0 x.f1 x.f2 = true := by
  unfold goodX at h; simp only [Bool.and_eq_true] at h; exact h.2
 have hc := splitP_cut s 32
 rw [hs] at hc
 have hsz : ∀ y ∈ splitP s 32, y.size ≤ 65536 := fun y hy => Nat.le_trans (splitP_size s 32 y hy) hz
 have hi := (itoa_sep x.f2).1
 have hnum : ∀ y : ByteArray, y.size ≤ 65536 → y.data.toList = Lib.itoa x.f2 → numR y = (x.f2, true) := by
  intro y hy e
  exact numR_itoa hy (by omega) (by omega) (by apply ByteArray.ext; apply Array.toList_inj.1; rw [e, itoaB_list])
 have key : ∀ w : List ByteArray, (rdOf ByteArray.empty w 0).data.toList = (wordB x.f0).data.toList → lineR w 10 1 = lineB x.f0 w := by
  intro w e
  have e0 : (rdOf ByteArray.empty w 0).toList = (wordB x.f0).toList := by rw [Lib.toList_data, Lib.toList_data]; exact e
  have ne : ∀ j k : Int, x.f0 = k → (wordB k).data.toList ≠ (wordR j).data.toList → ¬ (rdOf ByteArray.empty w 0).toList = (wordR j).toList := by
   intro j k hk2 hne q
   rw [e0, Lib.toList_data, Lib.toList_data, hk2] at q
   exact hne q
  have yes : (rdOf ByteArray.empty w 0).toList = (wordR x.f0).toList := by rw [wordR_B hk]; exact e0
  rcases hk with q | q | q
  · rw [lineR, if_neg (ne 1 4 q (by decide +kernel)), lineR, if_neg (ne (1 + 1) 4 q (by decide +kernel)), lineR, if_neg (ne (1 + 1 + 1) 4 q (by decide +kernel)), lineR]
    rw [q] at yes ⊢
    exact if_pos yes
  · rw [lineR, if_neg (ne 1 5 q (by decide +kernel)), lineR, if_neg (ne (1 + 1) 5 q (by decide +kernel)), lineR, if_neg (ne (1 + 1 + 1) 5 q (by decide +kernel)), lineR, if_neg (ne (1 + 1 + 1 + 1) 5 q (by decide +kernel)), lineR]
    rw [q] at yes ⊢
    exact if_pos yes
  · rw [lineR, if_neg (ne 1 6 q (by decide +kernel)), lineR, if_neg (ne (1 + 1) 6 q (by decide +kernel)), lineR, if_neg (ne (1 + 1 + 1) 6 q (by decide +kernel)), lineR, if_neg (ne (1 + 1 + 1 + 1) 6 q (by decide +kernel)), lineR, if_neg (ne (1 + 1 + 1 + 1 + 1) 6 q (by decide +kernel)), lineR]
    rw [q] at yes ⊢
    exact if_pos yes
 unfold lineRR
 by_cases e : x.f0 = 6
 · have hcode : code0 x.f1 = [] := by rw [h6 e]; exact code_nil
   unfold line0 at hc
   rw [hcode, List.nil_append, cutC_piece 32 _ _ hw1, cutC_last 32 _ hi] at hc
   generalize splitP s 32 = w at hc hsz
   match w, hc, hsz with
   | [a, b], hc, hsz =>
    simp only [List.map_cons, List.map_nil, List.cons.injEq, and_true] at hc
    obtain ⟨ha, hb⟩ := hc
    rw [key [a, b] ha]
    simp only [lineB]
    rw [if_pos (by rw [e]; decide), hnum b (hsz b (by simp)) hb]
    have h0 := h6 e
    rw [h0] at hform
    show ((⟨x.f0, ⟨#[]⟩, x.f2⟩ : S60), (true && FormP x.f0 ⟨#[]⟩ x.f2)) = _
    rw [hform]
    cases x; simp_all
   | [], hc, _ => exact absurd hc (by simp)
   | [_], hc, _ => exact absurd hc (by simp)
   | _ :: _ :: _ :: _, hc, _ => exact absurd hc (by simp)
 · have hnm := name_sep (hn e)
   unfold line0 at hc
   rw [code_some hnm.2.2.1, List.append_assoc, List.singleton_append, cutC_piece 32 _ _ hw1, cutC_piece 32 _ _ hnm.1, cutC_last 32 _ hi] at hc
   generalize splitP s 32 = w at hc hsz
   match w, hc, hsz with
   | [a, b, c], hc, hsz =>
    simp only [List.map_cons, List.map_nil, List.cons.injEq, and_true] at hc
    obtain ⟨ha, hb, hcc⟩ := hc
    have hb' : b = x.f1 := by apply ByteArray.ext; exact Array.toList_inj.1 hb
    rw [key [a, b, c] ha]
    simp only [lineB]
    rw [if_neg (by
     intro q
     rcases hk with k | k | k
     · rw [k] at q; exact absurd q (by decide)
     · rw [k] at q; exact absurd q (by decide)
     · exact e k), hnum c (hsz c (by simp)) hcc, hb']
    show ((⟨x.f0, x.f1, x.f2⟩ : S60), (true && FormP x.f0 x.f1 x.f2)) = _
    rw [hform]; rfl
   | [], hc, _ => exact absurd hc (by simp)
   | [_], hc, _ => exact absurd hc (by simp)
   | [_, _], hc, _ => exact absurd hc (by simp)
   | _ :: _ :: _ :: _ :: _, hc, _ => exact absurd hc (by simp)
noncomputable def linesR : List ByteArray → List S60 → Option (List S60)
 | [], acc => some acc
 | x :: r, acc => if (lineRR x).2 = true then linesR r (acc ++ [(lineRR x).1]) else none
def no6 : Int × Int × List S60 × Int := (0, 0, [], 6)
noncomputable def endR (a b : Int × Bool) : Option (List S60) → Int × Int × List S60 × Int
 | none => no6
 | some l => if a.2 = true ∧ b.2 = true ∧ validP a.1 b.1 l = true then (a.1, b.1, l, 0) else no6
theorem dec_loop_ev (L : List ByteArray) (hL : ∀ y ∈ L, y.size ≤ 65536) (hn : L.length ≤ 65537) (a b : Int × Bool) : ∀ (m i : Nat) (acc : List S60), i + m + 1 = L.length → acc.length ≤ i → 1 ≤ i →
 Ev (fun k => payrollref43_Decode.l0 k L a.2 b.2 (i : Int) a.1 b.1 acc) (endR a b (linesR (L.dropLast.drop i) acc)) := by
 intro m
 induction m with
 | zero =>
  intro i acc hi ha h1
  have e : L.dropLast.drop i = [] := List.drop_eq_nil_of_le (by rw [List.length_dropLast]; omega)
  have ew : wrap64 ((L.length : Int) - 1) = ((L.length - 1 : Nat) : Int) := by unfold wrap64; omega
  rw [e]
  refine Ev.step (fun k => by simp only [payrollref43_Decode.l0]; rfl) ?_
  rw [ew]
  refine Ev.ifn (by omega) ?_
  have hj : ∀ f : Bool, Ev (fun k => payrollref43_Decode.j3 k f a.1 b.1 acc) (if f = true then no6 else (a.1, b.1, acc, 0)) := by
   intro f
   refine Ev.step (fun k => by simp only [payrollref43_Decode.j3]; rfl) ?_
   cases f with
   | true => exact Ev.ifp (by trivial) (Ev.now _)
   | false => exact Ev.ifn (by decide) (Ev.now _)
  show Ev _ (if a.2 = true ∧ b.2 = true ∧ validP a.1 b.1 acc = true then (a.1, b.1, acc, 0) else no6)
  cases h2 : a.2 with
  | false => exact Ev.ifn (by decide) ((hj true).cast (by simp))
  | true =>
   refine Ev.ifp (by trivial) ?_
   cases h3 : b.2 with
   | false => exact Ev.ifn (by decide) ((hj true).cast (by simp))
   | true =>
    refine Ev.ifp (by trivial) (Ev.bind (refValid_ev a.1 b.1 acc (by omega)) ((hj _).cast ?_))
    cases validP a.1 b.1 acc <;> simp
 | succ m ih =>
  intro i acc hi ha h1
  have hl : i < L.length := by omega
  have hl2 : i < L.dropLast.length := by rw [List.length_dropLast]; omega
  have ew : wrap64 ((L.length : Int) - 1) = ((L.length - 1 : Nat) : Int) := by unfold wrap64; omega
  have e1 : wrap64 ((i : Int) + 1) = ((i + 1 : Nat) : Int) := by unfold wrap64; omega
  have er : rdOf ByteArray.empty L (i : Int) = L[i] := by
   unfold rdOf
   rw [Int.toNat_natCast, List.getD_eq_getElem?_getD, List.getElem?_eq_getElem hl]; rfl
  have hz := hL L[i] (List.getElem_mem hl)
  rw [List.drop_eq_getElem_cons hl2, List.getElem_dropLast]
  refine Ev.step (fun k => by simp only [payrollref43_Decode.l0]; rfl) ?_
  rw [ew]
  refine Ev.ifp (by omega) (Ev.ifp (by omega) (Ev.ifp (by omega) ?_))
  rw [er]
  refine Ev.bind (words_ref L[i] (by omega)) (Ev.bind (lineRR_ev L[i] hz) ?_)
  unfold linesR
  by_cases g : (lineRR L[i]).2 = true
  · rw [if_pos g]
    refine Ev.ifp g (Ev.ifp (by omega) ?_)
    rw [e1]
    exact ih (i + 1) _ (by omega) (by simp; omega) (by omega)
  · rw [if_neg g]
    exact Ev.ifn g (Ev.now _)
noncomputable def headR (L : List ByteArray) : List ByteArray → Int × Int × List S60 × Int
 | [a, b, c, d] => if a.toList = returnB ∧ c.toList = versionB then endR (numR b) (numR d) (linesR (L.dropLast.drop 1) []) else no6
 | _ => no6
noncomputable def decR (s : ByteArray) : Int × Int × List S60 × Int :=
 if (splitP s 10).getLast? = some (⟨#[]⟩ : ByteArray) ∧ 2 ≤ (splitP s 10).dropLast.length ∧ (rdOf ByteArray.empty (splitP s 10).dropLast (((splitP s 10).dropLast.length - 1 : Nat) : Int)).toList = endW
 then headR (splitP s 10).dropLast (splitP (rdOf ByteArray.empty (splitP s 10).dropLast 0) 32) else no6
theorem decR_ev (s : ByteArray) (hs : s.size ≤ 65536) : Ev (fun k => payrollref43_Decode.f k s) (decR s) := by
 unfold payrollref43_Decode.f decR
 refine Ev.ifn (by omega) (Ev.bind (lines_ref s (by omega)) ?_)
 have hs1 : ∀ y ∈ (splitP s 10).dropLast, y.size ≤ 65536 := fun y hy => Nat.le_trans (splitP_size s 10 y ((List.dropLast_sublist _).subset hy)) hs
 have hm : (splitP s 10).dropLast.length ≤ 65537 := by rw [List.length_dropLast]; have := splitP_many s 10; omega
 rw [List.getLast?_eq_some_getLast (splitP_ne s 10)]
 generalize (splitP s 10).getLast (splitP_ne s 10) = z
 generalize (splitP s 10).dropLast = L at hs1 hm
 have hbad : Ev (fun k => payrollref43_Decode.j0 k L true) no6 := by
  refine Ev.step (fun k => by simp only [payrollref43_Decode.j0]; rfl) ?_
  exact Ev.ifp (by trivial) (Ev.now _)
 by_cases hz : z = (⟨#[]⟩ : ByteArray)
 · refine Ev.ifp (decide_eq_true hz) ?_
   by_cases h2 : 2 ≤ L.length
   · have ew : wrap64 ((L.length : Int) - 1) = ((L.length - 1 : Nat) : Int) := by unfold wrap64; omega
     refine Ev.ifn (show ¬ ((L.length : Int) < 2) by omega) ?_
     simp only [ew]
     refine Ev.ifp (by omega) (Ev.ifp (by omega) ?_)
     by_cases he : (rdOf ByteArray.empty L ((L.length - 1 : Nat) : Int)).toList = endW
     · rw [if_pos (show some z = some (⟨#[]⟩ : ByteArray) ∧ 2 ≤ L.length ∧ (rdOf ByteArray.empty L ((L.length - 1 : Nat) : Int)).toList = endW from ⟨by rw [hz], h2, he⟩)]
       refine Ev.step (fun k => by simp only [payrollref43_Decode.j0]; rfl) ?_
       refine Ev.ifn (by rw [bne_iff_ne]; exact fun h => h he) (Ev.ifp (by omega) ?_)
       have hr : (rdOf ByteArray.empty L 0).size ≤ 65536 := by
        cases L with
        | nil => simp at h2
        | cons x r => exact hs1 x List.mem_cons_self
       refine Ev.bind (words_ref _ (by omega)) ?_
       have hs2 : ∀ y ∈ splitP (rdOf ByteArray.empty L 0) 32, y.size ≤ 65536 := fun y hy => Nat.le_trans (splitP_size _ 32 y hy) hr
       generalize splitP (rdOf ByteArray.empty L 0) 32 = w at hs2
       have hb1 : ∀ w : List ByteArray, Ev (fun k => payrollref43_Decode.j1 k L w true) no6 := by
        intro w
        refine Ev.step (fun k => by simp only [payrollref43_Decode.j1]; rfl) ?_
        exact Ev.ifp (by trivial) (Ev.now _)
       by_cases h4 : w.length = 4
       · obtain ⟨a, x, c, d, rfl⟩ : ∃ a b c d, w = [a, b, c, d] := by
          match w, h4 with | [a, b, c, d], _ => exact ⟨a, b, c, d, rfl⟩
         have hx := hs2 x (by simp)
         have hd := hs2 d (by simp)
         have L4 : (([a, x, c, d] : List ByteArray).length : Int) = 4 := rfl
         have r0 : rdOf ByteArray.empty [a, x, c, d] 0 = a := rfl
         have r1 : rdOf ByteArray.empty [a, x, c, d] 1 = x := rfl
         have r2 : rdOf ByteArray.empty [a, x, c, d] 2 = c := rfl
         have r3 : rdOf ByteArray.empty [a, x, c, d] 3 = d := rfl
         simp only [L4, r0, r2]
         refine Ev.ifp (by trivial) (Ev.ifp (by decide) ?_)
         simp only [headR]
         by_cases e1 : a.toList = returnB
         · refine Ev.ifp e1 (Ev.ifp (by decide) ?_)
           by_cases e2 : c.toList = versionB
           · rw [if_pos (show a.toList = returnB ∧ c.toList = versionB from ⟨e1, e2⟩)]
             refine Ev.step (fun k => by simp only [payrollref43_Decode.j1]; rfl) ?_
             refine Ev.ifn (by rw [bne_iff_ne]; exact fun h => h e2) ?_
             simp only [L4, r1, r3]
             refine Ev.ifp (by decide) (Ev.bind (numR_ev hx) (Ev.ifp (by decide) (Ev.bind (numR_ev hd) ?_)))
             exact dec_loop_ev L hs1 hm (numR x) (numR d) (L.length - 2) 1 [] (by omega) (by simp) (by omega)
           · rw [if_neg (show ¬ (a.toList = returnB ∧ c.toList = versionB) from fun h => e2 h.2)]
             have : (c.toList != ([118, 101, 114, 115, 105, 111, 110] : List UInt8)) = true := by rw [bne_iff_ne]; exact e2
             rw [this]
             exact hb1 _
         · rw [if_neg (show ¬ (a.toList = returnB ∧ c.toList = versionB) from fun h => e1 h.1)]
           exact Ev.ifn e1 (hb1 _)
       · have : headR L w = no6 := by
          match w, h4 with
          | [], _ => rfl
          | [_], _ => rfl
          | [_, _], _ => rfl
          | [_, _, _], _ => rfl
          | [_, _, _, _], h => exact absurd rfl h
          | _ :: _ :: _ :: _ :: _ :: _, _ => rfl
         rw [this]
         exact Ev.ifn (by omega) (hb1 _)
     · rw [if_neg (show ¬ (some z = some (⟨#[]⟩ : ByteArray) ∧ 2 ≤ L.length ∧ (rdOf ByteArray.empty L ((L.length - 1 : Nat) : Int)).toList = endW) from fun h => he h.2.2)]
       have : ((rdOf ByteArray.empty L ((L.length - 1 : Nat) : Int)).toList != ([101, 110, 100] : List UInt8)) = true := by rw [bne_iff_ne]; exact he
       rw [this]
       exact hbad
   · rw [if_neg (show ¬ (some z = some (⟨#[]⟩ : ByteArray) ∧ 2 ≤ L.length ∧ (rdOf ByteArray.empty L ((L.length - 1 : Nat) : Int)).toList = endW) from fun h => h2 h.2.1)]
     exact Ev.ifp (show (L.length : Int) < 2 by omega) hbad
 · rw [if_neg (show ¬ (some z = some (⟨#[]⟩ : ByteArray) ∧ 2 ≤ L.length ∧ (rdOf ByteArray.empty L ((L.length - 1 : Nat) : Int)).toList = endW) from fun h => hz (Option.some.inj h.1))]
   exact Ev.ifn (by simpa using hz) hbad
theorem linesR_from : ∀ (t : List ByteArray) (acc l : List S60), (∀ y ∈ t, y.size ≤ 65536) → linesR t acc = some l → ∃ r, l = acc ++ r ∧ ((∀ x ∈ r, goodX x = true) → t.map (·.data.toList) = r.map line0)
 | [], acc, l, _, h => by
  unfold linesR at h
  injection h with h
  exact ⟨[], by simp [h], fun _ => rfl⟩
 | y :: t, acc, l, hz, h => by
  unfold linesR at h
  by_cases g : (lineRR y).2 = true
  · rw [if_pos g] at h
    obtain ⟨r, h1, h2⟩ := linesR_from t _ l (fun z m => hz z (List.mem_cons_of_mem _ m)) h
    refine ⟨(lineRR y).1 :: r, by rw [h1, List.append_assoc]; rfl, fun hg => ?_⟩
    have h3 : joinC 32 ((splitP y 32).map (·.data.toList)) = line0 (lineRR y).1 := lineR_from (splitP y 32) (fun w hw => Nat.le_trans (splitP_size y 32 w hw) (hz y List.mem_cons_self)) 10 1 g (hg _ List.mem_cons_self)
    rw [splitP_cut, joinC_cut] at h3
    rw [List.map_cons, List.map_cons, h3, h2 (fun x hx => hg x (List.mem_cons_of_mem _ hx))]
  · rw [if_neg g] at h; cases h
theorem linesR_back : ∀ (t : List ByteArray) (l acc : List S60), (∀ y ∈ t, y.size ≤ 65536) → (∀ x ∈ l, goodX x = true) → t.map (·.data.toList) = l.map line0 → linesR t acc = some (acc ++ l)
 | [], [], acc, _, _, _ => by simp [linesR]
 | [], x :: l, acc, _, _, h => by simp at h
 | y :: t, [], acc, _, _, h => by simp at h
 | y :: t, x :: l, acc, hz, hg, h => by
  simp only [List.map_cons, List.cons.injEq] at h
  have e := lineR_back (hg x List.mem_cons_self) (hz y List.mem_cons_self) h.1
  have ih := linesR_back t l (acc ++ [x]) (fun z m => hz z (List.mem_cons_of_mem _ m)) (fun z m => hg z (List.mem_cons_of_mem _ m)) h.2
  unfold linesR
  rw [e, if_pos rfl, ih, List.append_assoc]
  rfl
theorem decR_from {s : ByteArray} (hs : s.size ≤ 65536) : decR s = no6 ∨ ∃ p v l, decR s = (p, v, l, 0) ∧ validP p v l = true ∧ encB p v l = s := by
 unfold decR
 split
 · rename_i hc
   obtain ⟨hz, h2, he⟩ := hc
   have hj := joinC_cut 10 s.data.toList
   rw [← splitP_cut] at hj
   have hsplit : splitP s 10 = (splitP s 10).dropLast ++ [(splitP s 10).getLast (splitP_ne s 10)] := (List.dropLast_concat_getLast _).symm
   have hz' : (splitP s 10).getLast (splitP_ne s 10) = (⟨#[]⟩ : ByteArray) := Option.some.inj ((List.getLast?_eq_some_getLast (splitP_ne s 10)).symm.trans hz)
   rw [hz'] at hsplit
   have hs1 : ∀ y ∈ (splitP s 10).dropLast, y.size ≤ 65536 := fun y hy => Nat.le_trans (splitP_size s 10 y ((List.dropLast_sublist _).subset hy)) hs
   generalize (splitP s 10).dropLast = L at hsplit h2 he hs1
   rw [hsplit] at hj
   -- L = head :: mid ++ [end]
   cases L with
   | nil => simp at h2
   | cons y L =>
    have hne : L ≠ [] := fun e => by rw [e] at h2; simp at h2
    have hL : L = L.dropLast ++ [L.getLast hne] := (List.dropLast_concat_getLast _).symm
    have hlast : (L.getLast hne).data.toList = endW := by
     rw [← he, Lib.toList_data]
     congr 2
     unfold rdOf
     rw [Int.toNat_natCast, List.getD_eq_getElem?_getD]
     have hl : (y :: L).length - 1 = L.length := by simp
     rw [hl, List.getElem?_cons, if_neg (by have := List.length_pos_iff.2 hne; omega), ← List.getLast?_eq_getElem?, List.getLast?_eq_some_getLast hne]
     rfl
    have hr : rdOf ByteArray.empty (y :: L) 0 = y := rfl
    rw [hr]
    have hk := joinC_cut 32 y.data.toList
    rw [← splitP_cut] at hk
    have hsy := hs1 y List.mem_cons_self
    have hs2 : ∀ z ∈ splitP y 32, z.size ≤ 65536 := fun z hz => Nat.le_trans (splitP_size _ 32 z hz) hsy
    generalize splitP y 32 = w at hk hs2
    match w, hk, hs2 with
    | [a, x, c, d], hk, hs2 =>
     simp only [headR]
     by_cases e1 : a.toList = returnB ∧ c.toList = versionB
     · rw [if_pos e1]
       have hdl : (y :: L).dropLast.drop 1 = L.dropLast := by
        rw [List.dropLast_cons_of_ne_nil hne]; rfl
       rw [hdl]
       cases hR : linesR L.dropLast [] with
       | none => exact Or.inl rfl
       | some l =>
        show (if (numR x).2 = true ∧ (numR d).2 = true ∧ validP (numR x).1 (numR d).1 l = true then ((numR x).1, (numR d).1, l, (0 : Int)) else no6) = no6 ∨ _
        by_cases hv : (numR x).2 = true ∧ (numR d).2 = true ∧ validP (numR x).1 (numR d).1 l = true
        · rw [if_pos hv]
          right
          refine ⟨(numR x).1, (numR d).1, l, by simp only [endR]; rw [if_pos hv], hv.2.2, ?_⟩
          obtain ⟨v1, v2, v3, v4, v5, v6⟩ := valid_parts hv.2.2
          obtain ⟨r, g1, g2⟩ := linesR_from L.dropLast [] l (fun z hz => hs1 z (List.mem_cons_of_mem _ ((List.dropLast_sublist _).subset hz))) hR
          rw [List.nil_append] at g1
          subst g1
          have g3 := g2 v6
          have n1 := numR_true (hs2 x (by simp)) hv.1
          have n2 := numR_true (hs2 d (by simp)) hv.2.1
          have hy : y.data.toList = hdr0 (numR x).1 (numR d).1 := by
           rw [← hk]
           simp only [List.map_cons, List.map_nil, joinC]
           rw [Lib.toList_data, Lib.toList_data] at e1
           rw [e1.1, e1.2]
           unfold hdr0
           rw [← itoaB_list, ← itoaB_list, n1, n2]
          apply ByteArray.ext
          apply Array.toList_inj.1
          rw [encB_list, ← hj, ← joinC_cut 10 (encL (numR x).1 (numR d).1 l), enc_pieces hv.2.2]
          congr 1
          rw [List.map_append, List.map_cons, hy]
          have hL2 : L.map (·.data.toList) = l.map line0 ++ [endW] := by
           rw [hL, List.map_append, g3, List.map_cons, List.map_nil, hlast]
          rw [hL2]
          simp
        · rw [if_neg hv]; exact Or.inl rfl
     · rw [if_neg e1]; exact Or.inl rfl
    | [], _, _ => exact Or.inl rfl
    | [_], _, _ => exact Or.inl rfl
    | [_, _], _, _ => exact Or.inl rfl
    | [_, _, _], _, _ => exact Or.inl rfl
    | _ :: _ :: _ :: _ :: _ :: _, _, _ => exact Or.inl rfl
 · exact Or.inl rfl
theorem decR_enc {p v : Int} {l : List S60} (h : validP p v l = true) : decR (encB p v l) = (p, v, l, 0) := by
 obtain ⟨h1, h2, h3, h4, h5, h6⟩ := valid_parts h
 have hsz : (encB p v l).size ≤ 65536 := by rw [encB_size]; have := enc_len h; omega
 have hc := splitP_cut (encB p v l) 10
 rw [encB_list, enc_pieces h] at hc
 have hs1 : ∀ y ∈ splitP (encB p v l) 10, y.size ≤ 65536 := fun y hy => Nat.le_trans (splitP_size _ 10 y hy) hsz
 unfold decR
 have hne := splitP_ne (encB p v l) 10
 generalize splitP (encB p v l) 10 = T at hc hs1 hne
 -- T = y :: ts ++ [e, z]
 obtain ⟨y, T2, rfl⟩ : ∃ y T2, T = y :: T2 := by cases T with | nil => exact absurd rfl hne | cons y T2 => exact ⟨y, T2, rfl⟩
 simp only [List.map_cons, List.cons.injEq] at hc
 obtain ⟨hy, hc2⟩ := hc
 have hlen : T2.length = l.length + 2 := by have := congrArg List.length hc2; simpa using this
 obtain ⟨ts, e, z, rfl⟩ : ∃ ts e z, T2 = ts ++ [e, z] := by
  refine ⟨T2.take l.length, T2[l.length]'(by omega), T2[l.length + 1]'(by omega), ?_⟩
  have := (List.take_append_drop l.length T2).symm
  rw [List.drop_eq_getElem_cons (by omega : l.length < T2.length), List.drop_eq_getElem_cons (by omega : l.length + 1 < T2.length), List.drop_eq_nil_of_le (by omega)] at this
  exact this
 have hts : ts.length = l.length := by simp at hlen; omega
 rw [List.map_append] at hc2
 obtain ⟨hc3, hc4⟩ := List.append_inj hc2 (by simp [hts])
 simp only [List.map_cons, List.map_nil, List.cons.injEq, and_true] at hc4
 obtain ⟨he, hz⟩ := hc4
 have hz' : z = (⟨#[]⟩ : ByteArray) := by apply ByteArray.ext; apply Array.toList_inj.1; rw [hz]
 have hdl : (y :: (ts ++ [e, z])).dropLast = y :: (ts ++ [e]) := by
  rw [show y :: (ts ++ [e, z]) = (y :: (ts ++ [e])) ++ [z] by simp, List.dropLast_concat]
 have hgl : (y :: (ts ++ [e, z])).getLast? = some z := by
  have : y :: (ts ++ [e, z]) = (y :: (ts ++ [e])) ++ [z] := by simp
  rw [this, List.getLast?_concat]
 rw [if_pos]
 · rw [hdl]
   have hr : rdOf ByteArray.empty (y :: (ts ++ [e])) 0 = y := rfl
   rw [hr]
   have hw := splitP_cut y 32
   rw [hy] at hw
   unfold hdr0 at hw
   rw [cutC_piece 32 returnB _ (by decide), cutC_piece 32 _ _ (itoa_sep p).1, cutC_piece 32 versionB _ (by decide), cutC_last 32 _ (itoa_sep v).1] at hw
   have hsy := hs1 y List.mem_cons_self
   have hs2 : ∀ q ∈ splitP y 32, q.size ≤ 65536 := fun q hq => Nat.le_trans (splitP_size _ 32 q hq) hsy
   generalize splitP y 32 = w at hw hs2
   have hnum : ∀ (n : Int) (q : ByteArray), q.size ≤ 65536 → 0 ≤ n → n ≤ 1000000 → q.data.toList = Lib.itoa n → numR q = (n, true) := by
    intro n q hq g1 g2 e
    exact numR_itoa hq (by omega) (by omega) (by apply ByteArray.ext; apply Array.toList_inj.1; rw [e, itoaB_list])
   match w, hw, hs2 with
   | [a, b, c, d], hw, hs2 =>
    simp only [List.map_cons, List.map_nil, List.cons.injEq, and_true] at hw
    obtain ⟨ha, hb, hcc, hd⟩ := hw
    simp only [headR]
    rw [if_pos (show a.toList = returnB ∧ c.toList = versionB from ⟨by rw [Lib.toList_data]; exact ha, by rw [Lib.toList_data]; exact hcc⟩)]
    rw [hnum p b (hs2 b (by simp)) h1 (by omega) hb, hnum v d (hs2 d (by simp)) (by omega) (by omega) hd]
    have hdl2 : (y :: (ts ++ [e])).dropLast.drop 1 = ts := by
     rw [show y :: (ts ++ [e]) = (y :: ts) ++ [e] by simp, List.dropLast_concat]; rfl
    rw [hdl2, linesR_back ts l [] (fun q hq => hs1 q (by simp [hq])) h6 hc3]
    show (if true = true ∧ true = true ∧ validP p v ([] ++ l) = true then (p, v, [] ++ l, (0 : Int)) else no6) = _
    rw [List.nil_append, if_pos ⟨rfl, rfl, h⟩]
   | [], hw, _ => exact absurd hw (by simp)
   | [_], hw, _ => exact absurd hw (by simp)
   | [_, _], hw, _ => exact absurd hw (by simp)
   | [_, _, _], hw, _ => exact absurd hw (by simp)
   | _ :: _ :: _ :: _ :: _ :: _, hw, _ => exact absurd hw (by simp)
 · refine ⟨by rw [hgl, hz'], by rw [hdl]; simp, ?_⟩
   rw [hdl, Lib.toList_data]
   have : rdOf ByteArray.empty (y :: (ts ++ [e])) (((y :: (ts ++ [e])).length - 1 : Nat) : Int) = e := by
    unfold rdOf
    rw [Int.toNat_natCast, List.getD_eq_getElem?_getD]
    simp
   rw [this]
   exact he
theorem decR_dec (s : ByteArray) (hs : s.size ≤ 65536) : decR s = decP s := by
 have hP : decP s = no6 ∨ ∃ p v l, decP s = (p, v, l, 0) := by
  unfold decP
  rw [if_neg (by omega)]
  split
  · exact Or.inr ⟨_, _, _, rfl⟩
  · exact Or.inl rfl
 rcases hP with h | ⟨p, v, l, h⟩
 · rcases decR_from hs with g | ⟨p, v, l, g, g1, g2⟩
   · rw [h, g]
   · have := decP_enc g1
     rw [g2, h] at this
     exact absurd (show (6 : Int) = 0 from congrArg (fun q : Int × Int × List S60 × Int => q.2.2.2) this) (by decide)
 · obtain ⟨g1, g2⟩ := decP_from h
   have := decR_enc g1
   rw [g2] at this
   rw [this, h]
theorem refDecode_ev (s : ByteArray) : Ev (fun k => payrollref43_Decode.f k s) (decP s) := by
 by_cases h : s.size ≤ 65536
 · rw [← decR_dec s h]; exact decR_ev s h
 · unfold payrollref43_Decode.f decP
   rw [if_pos (by omega)]
   exact Ev.ifp (by omega) (Ev.now _)
end Go.Proofs.YtejgfblphgcgkaaGreatDoor.P
namespace Go.Proofs.YtejgfblphgcgkaaGreatDoor.P
set_option linter.unusedVariables false
set_option linter.unusedSimpArgs false
open Go.RowKit Go.Proofs.YtejgfblphgcgkaaGreatDoorW.PrintWords
theorem decP_len (s : ByteArray) : (decP s).2.2.1.length ≤ 1000000 := by
 unfold decP
 split
 · simp
 · split
   · exact readP_len s (by omega)
   · simp
theorem same_three (p v : Int) (l : List S60) (hl : l.length ≤ 1000000) : Ev (fun k => payrollref38_Same.f k p v l p v l) true := by
 unfold payrollref38_Same.f
 exact Ev.ifp rfl (Ev.ifp rfl (Ev.bind (same_ev l hl) (Ev.now _)))
theorem decodes_loop (X : List ByteArray) (hX : X.length ≤ 10) : ∀ (m i : Nat), i + m = X.length → Ev (fun k => payrolllaw43_FilingDecodes.l0 k X (i : Int)) true := by
 intro m
 induction m with
 | zero =>
  intro i hi
  refine Ev.step (fun k => by simp only [payrolllaw43_FilingDecodes.l0]; rfl) ?_
  exact Ev.ifn (by omega) (Ev.bind awake_ev (Ev.now _))
 | succ m ih =>
  intro i hi
  have e1 : wrap64 ((i : Int) + 1) = ((i + 1 : Nat) : Int) := by unfold wrap64; omega
  refine Ev.step (fun k => by simp only [payrolllaw43_FilingDecodes.l0]; rfl) ?_
  refine Ev.ifp (by omega) (Ev.ifp (by omega) (Ev.bind (decode_ev _) (Ev.bind (refDecode_ev _) ?_)))
  refine Ev.ifp rfl (Ev.bind (same_three _ _ _ (decP_len _)) ?_)
  refine Ev.ifp rfl ?_
  rw [e1]
  exact ih (i + 1) (by omega)
theorem FilingDecodes (l0 : List Int) (a1 : ByteArray) (h1 : l0.length ≤ maxLen) (h2 : l0.length * 8 ≤ 140737488351232) (h3 : ∀ x ∈ l0, (Lit.int .i64 x).wf = true) (h4 : a1.size ≤ 140737488351232) : ∃ k, payrolllaw43_FilingDecodes.f k l0 a1 = some true := by
 refine Ev.rounds ?_
 unfold payrolllaw43_FilingDecodes.f
 by_cases h : (a1.size : Int) > 1000
 · exact Ev.ifp h (Ev.bind awake_ev (Ev.now _))
 · refine Ev.ifn h ?_
   obtain ⟨p, v, l, b, d1, d2, d3, d4⟩ := drawn_ev l0
   obtain ⟨v1, v2, v3, v4, v5, v6⟩ := valid_parts d2
   have he := refEncode_ev (p := p) (v := v) (l := l) (by omega)
   rw [if_pos d2] at he
   have hz : (encB p v l).size ≤ 20000 := by rw [encB_size]; exact enc_len d2
   obtain ⟨t, c, t1⟩ := damage_ev l0 b d3 (by omega) (encB p v l) (by omega)
   refine Ev.bindc (a := (l0, 0)) rfl (Ev.bind d1 (Ev.bind he (Ev.bind t1 ?_)))
   refine Ev.ifp (show (encB p v l).size + a1.size ≤ 9223372036854775807 by omega) ?_
   exact decodes_loop [encB p v l, t, a1, encB p v l ++ a1] (by simp) 4 0 (by rfl)
end Go.Proofs.YtejgfblphgcgkaaGreatDoor.P
