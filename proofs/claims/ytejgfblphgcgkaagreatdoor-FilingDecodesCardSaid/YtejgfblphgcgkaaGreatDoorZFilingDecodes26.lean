/- Texts for the law FilingDecodes (kept out of a larger one). -/
import Derived.Test.YtejgfblphgcgkaaGreatDoorZFilingDecodes25
import Derived.WalkKit
import Derived.Test.YtejgfblphgcgkaaGreatDoorZFilingDecodes24
namespace Go.Proofs.YtejgfblphgcgkaaGreatDoor.P
set_option linter.unusedVariables false
set_option linter.unusedSimpArgs false
open Go.RowKit Go.Proofs.YtejgfblphgcgkaaGreatDoorW.PrintWords
def cmpB (a b : ByteArray) : Int := if Op.bytesLess a.toList b.toList = true then -1 else if Op.bytesLess b.toList a.toList = true then 1 else 0
theorem cmpB_some (a b : ByteArray) : cmp_Compare_string.f a b = some (cmpB a b) := by
 unfold cmp_Compare_string.f cmp_isNaN_string.f cmpB
 have e : ∀ x : ByteArray, (x.toList != x.toList) = false := fun x => by simp
 rw [e, e]
 simp only [Option.bind_some]
 rw [if_neg (by decide), if_neg (by decide)]
 split
 · rfl
 · split <;> rfl
def cmpI (a b : Int) : Int := if a < b then -1 else if a > b then 1 else 0
theorem cmpI_some (a b : Int) : cmp_Compare_int.f a b = some (cmpI a b) := by
 unfold cmp_Compare_int.f cmp_isNaN_int.f cmpI
 have e : ∀ x : Int, (x != x) = false := fun x => by simp
 rw [e, e]
 simp only [Option.bind_some]
 rw [if_neg (by decide), if_neg (by decide)]
 split
 · rfl
 · split <;> rfl
def orI (a b : Int) : Int := if a = 0 then b else a
theorem or_two (a b : Int) : Ev (fun k => cmp_Or_int.f k [a, b]) (orI a b) := by
 unfold cmp_Or_int.f orI
 have L : (([a, b] : List Int).length : Int) = 2 := rfl
 have r0 : rd [a, b] 0 = a := rfl
 have r1 : rd [a, b] 1 = b := rfl
 have w1 : wrap64 ((0 : Int) + 1) = 1 := by decide +kernel
 have w2 : wrap64 ((1 : Int) + 1) = 2 := by decide +kernel
 simp only [L]
 refine Ev.step (fun k => by simp only [cmp_Or_int.l0, L, r0, w1]; rfl) ?_
 refine Ev.ifp (by decide) (Ev.ifp (by decide) (Ev.ifp (by decide) ?_))
 by_cases h : a = 0
 · rw [if_pos h]
   refine Ev.ifp h ?_
   refine Ev.step (fun k => by simp only [cmp_Or_int.l0, L, r1, w2]; rfl) ?_
   refine Ev.ifp (by decide) (Ev.ifp (by decide) (Ev.ifp (by decide) ?_))
   by_cases g : b = 0
   · refine Ev.ifp g ?_
     refine Ev.step (fun k => by simp only [cmp_Or_int.l0, L]; rfl) ?_
     rw [g]
     exact Ev.ifn (by decide) (Ev.now _)
   · exact Ev.ifn g (Ev.now _)
 · rw [if_neg h]
   exact Ev.ifn h (Ev.now _)
def kindB (k : Int) : Bool := decide (k = 4) || decide (k = 5) || decide (k = 6)
def goodX (x : S60) : Bool := kindB x.f0 && FormP x.f0 x.f1 x.f2
def ltX (y x : S60) : Bool := decide (orI (cmpI y.f0 x.f0) (cmpB y.f1 x.f1) < 0)
def chkL : Option S60 → List S60 → Bool
 | _, [] => true
 | o, x :: r => goodX x && (match o with | none => true | some y => ltX y x) && chkL (some x) r
def validP (p v : Int) (l : List S60) : Bool := decide (0 ≤ p) && decide (p ≤ 84005) && decide (1 ≤ v) && decide (v ≤ 65536) && decide (l.length ≤ 256) && chkL none l
theorem word_kind (k : Int) : (wordB k).toList = ([] : List UInt8) ↔ kindB k = false := by
 unfold wordB filing_word.f kindB
 rw [Lib.toList_data]
 by_cases h4 : k = 4
 · rw [if_pos h4]; simp [h4]
 · rw [if_neg h4]
   by_cases h5 : k = 5
   · rw [if_pos h5]; simp [h5]
   · rw [if_neg h5]
     by_cases h6 : k = 6
     · rw [if_pos h6]; simp [h6]
     · rw [if_neg h6]; simp [h4, h5, h6]
def prevO (l : List S60) (i : Nat) : Option S60 := if i = 0 then none else some (rd_T60 l ((i - 1 : Nat) : Int))
theorem valid_loop (l : List S60) (hl : l.length ≤ 1000000) (p v : Int) : ∀ (m i : Nat), i + m = l.length →
 Ev (fun k => filing_Valid.l0 k l (l.length : Int) (i : Int) p v l) (chkL (prevO l i) (l.drop i)) := by
 intro m
 induction m with
 | zero =>
  intro i hi
  have e : l.drop i = [] := List.drop_eq_nil_of_le (by omega)
  rw [e]
  exact Ev.step (fun k => by simp only [filing_Valid.l0]; rfl) (Ev.ifn (by omega) (Ev.now _))
 | succ m ih =>
  intro i hi
  have hlt : i < l.length := by omega
  have e1 : wrap64 ((i : Int) + 1) = ((i + 1 : Nat) : Int) := by unfold wrap64; omega
  have er : rd_T60 l (i : Int) = l[i] := by
   unfold rd_T60
   rw [Int.toNat_natCast, List.getD_eq_getElem?_getD, List.getElem?_eq_getElem hlt]; rfl
  have ih := ih (i + 1) (by omega)
  have ep : prevO l (i + 1) = some l[i] := by unfold prevO; rw [if_neg (by omega)]; show some (rd_T60 l (i : Int)) = _; rw [er]
  rw [ep] at ih
  have hj : ∀ b : Bool, (b = !goodX l[i]) → Ev (fun k => filing_Valid.j2 k (i : Int) l (l.length : Int) (i : Int) b p v l l[i].f0 l[i].f1 l[i].f2) (chkL (prevO l i) (l.drop i)) := by
   intro b hb
   rw [List.drop_eq_getElem_cons hlt]
   cases b with
   | true =>
    have hg : goodX l[i] = false := by simpa using hb.symm
    refine Ev.step (fun k => by simp only [filing_Valid.j2]; rfl) ?_
    refine Ev.ifp trivial ((Ev.now _).cast ?_)
    unfold chkL; rw [hg]; rfl
   | false =>
    have hg : goodX l[i] = true := by simpa using hb.symm
    refine Ev.step (fun k => by simp only [filing_Valid.j2]; rfl) ?_
    refine Ev.ifn (by decide) ?_
    by_cases h0 : i = 0
    · refine Ev.ifn (by omega) ?_
      rw [e1]
      refine ih.cast ?_
      have : prevO l i = none := by unfold prevO; rw [if_pos h0]
      rw [this]
      simp only [chkL, hg, Bool.true_and]
    · have e2 : wrap64 ((i : Int) - 1) = ((i - 1 : Nat) : Int) := by unfold wrap64; omega
      refine Ev.ifp (by omega) ?_
      rw [e2]
      refine Ev.ifp (by omega) (Ev.ifp (by omega) (Ev.bindc (cmpI_some _ _) (Ev.bindc (cmpB_some _ _) (Ev.bind (or_two _ _) ?_))))
      have ho : prevO l i = some (rd_T60 l ((i - 1 : Nat) : Int)) := by unfold prevO; rw [if_neg h0]
      rw [ho]
      have hc : chkL (some (rd_T60 l ((i - 1 : Nat) : Int))) (l[i] :: l.drop (i + 1)) = (ltX (rd_T60 l ((i - 1 : Nat) : Int)) l[i] && chkL (some l[i]) (l.drop (i + 1))) := by simp only [chkL, hg, Bool.true_and]
      rw [hc]
      unfold ltX
      generalize orI (cmpI (rd_T60 l ((i - 1 : Nat) : Int)).f0 l[i].f0) (cmpB (rd_T60 l ((i - 1 : Nat) : Int)).f1 l[i].f1) = c
      by_cases hcc : c ≥ 0
      · refine Ev.ifp hcc ((Ev.now _).cast ?_)
        rw [decide_eq_false (by omega)]; rfl
      · refine Ev.ifn hcc ?_
        rw [e1, decide_eq_true (by omega)]
        exact ih.cast (by rw [Bool.true_and])
  refine Ev.step (fun k => by simp only [filing_Valid.l0]; rfl) (Ev.ifp (by omega) (Ev.ifp (by omega) (Ev.ifp (by omega) ?_)))
  rw [er]
  refine Ev.bindc (word_some _) ?_
  by_cases hw : (wordB l[i].f0).toList = ([] : List UInt8)
  · have := (word_kind _).1 hw
    exact Ev.ifp hw (hj true (by unfold goodX; rw [this]; rfl))
  · have hk : kindB l[i].f0 = true := by
     cases h : kindB l[i].f0 with
     | true => rfl
     | false => exact absurd ((word_kind _).2 h) hw
    refine Ev.ifn hw (Ev.bind (payslip_Form_ev _ _ _) (hj _ ?_))
    unfold goodX; rw [hk, Bool.true_and]
theorem valid_ev (p v : Int) (l : List S60) (hl : l.length ≤ 1000000) : Ev (fun k => filing_Valid.f k p v l) (validP p v l) := by
 have hj : ∀ b : Bool, Ev (fun k => filing_Valid.j0 k b p v l) (!b && chkL none l) := by
  intro b
  cases b with
  | true =>
   refine Ev.step (fun k => by simp only [filing_Valid.j0]; rfl) ?_
   exact Ev.ifp trivial (Ev.now _)
  | false =>
   refine Ev.step (fun k => by simp only [filing_Valid.j0]; rfl) ?_
   refine Ev.ifn (by decide) ?_
   exact (valid_loop l hl p v l.length 0 (by omega))
 unfold filing_Valid.f validP
 by_cases h1 : p < 0
 · rw [decide_eq_false (show ¬ 0 ≤ p by omega)]
   exact Ev.ifp h1 ((hj true).cast (by simp))
 · rw [decide_eq_true (show 0 ≤ p by omega)]
   refine Ev.ifn h1 ?_
   by_cases h2 : p > 84005
   · rw [decide_eq_false (show ¬ p ≤ 84005 by omega)]
     exact Ev.ifp h2 ((hj true).cast (by simp))
   · rw [decide_eq_true (show p ≤ 84005 by omega)]
     refine Ev.ifn h2 ?_
     by_cases h3 : v < 1
     · rw [decide_eq_false (show ¬ 1 ≤ v by omega)]
       exact Ev.ifp h3 ((hj true).cast (by simp))
     · rw [decide_eq_true (show 1 ≤ v by omega)]
       refine Ev.ifn h3 ?_
       by_cases h4 : v > 65536
       · rw [decide_eq_false (show ¬ v ≤ 65536 by omega)]
         exact Ev.ifp h4 ((hj true).cast (by simp))
       · rw [decide_eq_true (show v ≤ 65536 by omega)]
         refine Ev.ifn h4 ((hj _).cast ?_)
         by_cases h5 : l.length ≤ 256
         · rw [decide_eq_true h5, decide_eq_false (by omega)]; simp
         · rw [decide_eq_false h5, decide_eq_true (by omega)]; simp
theorem goodX_form {x : S60} (h : goodX x = true) : (x.f0 = 4 ∨ x.f0 = 5 ∨ x.f0 = 6) ∧ -1000000000000 ≤ x.f2 ∧ x.f2 ≤ 1000000000000 ∧ (x.f0 = 6 → x.f1 = ⟨#[]⟩) ∧ (x.f0 ≠ 6 → nameB x.f1.data.toList = true) := by
 unfold goodX kindB FormP formP totalB at h
 simp only [Bool.and_eq_true, Bool.or_eq_true, decide_eq_true_eq] at h
 obtain ⟨hk, ⟨⟨-, -⟩, ⟨h1, h2⟩, h3⟩, -⟩ := h
 refine ⟨by omega, h1, h2, fun e => ?_, fun e => ?_⟩
 · rw [e, if_pos (by decide)] at h3
   have := of_decide_eq_true h3
   apply ByteArray.ext
   exact Array.toList_inj.1 (by simpa using this)
 · have : bareB x.f0 = false := by unfold bareB; simp; omega
   rw [this, if_neg (by decide)] at h3
   exact h3
theorem char_sep {c : UInt8} (h : charB c = true) : c ≠ 32 ∧ c ≠ 10 := by
 constructor <;> (intro e; subst e; exact absurd h (by decide))
theorem name_sep {L : List UInt8} (h : nameB L = true) : (32 : UInt8) ∉ L ∧ (10 : UInt8) ∉ L ∧ 0 < L.length ∧ L.length ≤ 24 := by
 unfold nameB at h
 simp only [Bool.and_eq_true, decide_eq_true_eq] at h
 obtain ⟨⟨⟨⟨h1, h2⟩, -⟩, h3⟩, -⟩ := h
 rw [List.all_eq_true] at h3
 exact ⟨fun m => (char_sep (h3 _ m)).1 rfl, fun m => (char_sep (h3 _ m)).2 rfl, h1, h2⟩
theorem itoa_sep (n : Int) : (32 : UInt8) ∉ Lib.itoa n ∧ (10 : UInt8) ∉ Lib.itoa n := by
 constructor <;> (intro h; rcases itoa_mem h with h | h <;> revert h <;> (try unfold isDig) <;> decide)
theorem itoa_len {n : Int} (h0 : -1000000000000 ≤ n) (h1 : n ≤ 1000000000000) : (Lib.itoa n).length ≤ 14 := by
 unfold Lib.itoa
 split
 · have := dec_len_le (u := n.natAbs) (by omega); simp; omega
 · have := dec_len_le (u := n.toNat) (by omega); omega
theorem itoaB_list (n : Int) : (itoaB n).data.toList = Lib.itoa n := by unfold itoaB; simp
def hdr0 (p v : Int) : List UInt8 := returnB ++ 32 :: (Lib.itoa p ++ 32 :: (versionB ++ 32 :: Lib.itoa v))
def code0 (c : ByteArray) : List UInt8 := if c.toList = ([] : List UInt8) then [] else c.data.toList ++ [32]
def line0 (x : S60) : List UInt8 := (wordB x.f0).data.toList ++ 32 :: (code0 x.f1 ++ Lib.itoa x.f2)
theorem hdr_split (p v : Int) : (hdrB p v).data.toList = hdr0 p v ++ [10] := by
 unfold hdrB hdr0 returnB versionB
 simp only [ByteArray.data_append, Array.toList_append, itoaB_list]
 simp
theorem line_split (x : S60) : lineL x = line0 x ++ [10] := by
 unfold lineL line0 codeL code0
 simp only [ByteArray.data_append, Array.toList_append, itoaB_list]
 split <;> simp
theorem flat_turn (f : S60 → List UInt8) : ∀ l : List S60, (10 : UInt8) :: l.flatMap (fun x => f x ++ [10]) = l.flatMap (fun x => 10 :: f x) ++ [10]
 | [] => rfl
 | x :: l => by
  have ih := flat_turn f l
  simp only [List.flatMap_cons, List.append_assoc, List.cons_append, List.singleton_append, List.nil_append] at ih ⊢
  rw [ih]
def body0 (p v : Int) (l : List S60) : List UInt8 := hdr0 p v ++ l.flatMap (fun x => 10 :: line0 x)
theorem enc_split (p v : Int) (l : List S60) : encL p v l = body0 p v l ++ endsB := by
 unfold encL body0 linesL
 rw [hdr_split, show lineL = (fun x => line0 x ++ [10]) from funext line_split]
 have := flat_turn line0 l
 rw [List.append_assoc, List.append_assoc, List.append_assoc, List.singleton_append, ← List.cons_append, this, List.append_assoc]
 rfl
theorem cut_flat (f : S60 → List UInt8) : ∀ (l : List S60) (a : List UInt8), (10 : UInt8) ∉ a → (∀ x ∈ l, (10 : UInt8) ∉ f x) → cutC 10 (a ++ l.flatMap (fun x => 10 :: f x)) = a :: l.map f
 | [], a, ha, _ => by simp; exact cutC_last 10 a ha
 | x :: l, a, ha, hl => by
  have := cut_flat f l (f x) (hl x List.mem_cons_self) (fun y hy => hl y (List.mem_cons_of_mem _ hy))
  rw [List.flatMap_cons, List.cons_append, cutC_piece 10 a _ ha, this]
  rfl
theorem word_list {x : S60} (h : goodX x = true) : (wordB x.f0).data.toList = (if x.f0 = 4 then levyB else if x.f0 = 5 then employerB else taxB) ∧ (32 : UInt8) ∉ (wordB x.f0).data.toList ∧ (10 : UInt8) ∉ (wordB x.f0).data.toList ∧ (wordB x.f0).data.toList.length ≤ 8 := by
 rcases (goodX_form h).1 with e | e | e <;> (rw [e]; decide)
theorem code_nil : code0 ⟨#[]⟩ = [] := by
 unfold code0
 rw [Lib.toList_data]
 rfl
theorem word4 : (wordB 4).data.toList = levyB := by decide
theorem word5 : (wordB 5).data.toList = employerB := by decide
theorem word6 : (wordB 6).data.toList = taxB := by decide
theorem code_some {c : ByteArray} (h : 0 < c.data.toList.length) : code0 c = c.data.toList ++ [32] := by
 unfold code0
 rw [if_neg]
 rw [Lib.toList_data]
 intro e; rw [e] at h; exact absurd h (by decide)
theorem line_free {x : S60} (h : goodX x = true) : (10 : UInt8) ∉ line0 x := by
 obtain ⟨-, -, h2, -⟩ := word_list h
 obtain ⟨hk, -, -, h6, hn⟩ := goodX_form h
 unfold line0
 have hc : (10 : UInt8) ∉ code0 x.f1 := by
  unfold code0
  split
  · simp
  · by_cases e : x.f0 = 6
    · rw [h6 e]; decide
    · have := name_sep (hn e); simp [this.2.1]
 intro m
 simp only [List.mem_append, List.mem_cons] at m
 rcases m with m | m | m | m
 · exact h2 m
 · exact absurd m (by decide)
 · exact hc m
 · exact (itoa_sep _).2 m
theorem line_len {x : S60} (h : goodX x = true) : (line0 x).length ≤ 48 := by
 obtain ⟨-, -, -, h3⟩ := word_list h
 obtain ⟨hk, b1, b2, h6, hn⟩ := goodX_form h
 have hi := itoa_len b1 b2
 have hc : (code0 x.f1).length ≤ 25 := by
  unfold code0
  split
  · simp
  · by_cases e : x.f0 = 6
    · rw [h6 e]; decide
    · have := name_sep (hn e); simp; simp at this; omega
 unfold line0
 simp only [List.length_append, List.length_cons]
 omega
theorem line_back {x : S60} (h : goodX x = true) {s : ByteArray} (hs : s.data.toList = line0 x) : lineP s = (x, true) := by
 obtain ⟨hw, hw1, -, -⟩ := word_list h
 obtain ⟨hk, b1, b2, h6, hn⟩ := goodX_form h
 have hc := splitP_cut s 32
 rw [hs] at hc
 have hi := (itoa_sep x.f2).1
 have hof : ∀ (y : ByteArray) (L : List UInt8), y.data.toList = L → y.toList = L := fun y L e => by rw [Lib.toList_data]; exact e
 have hnum : ∀ y : ByteArray, y.data.toList = Lib.itoa x.f2 → numRead y = (x.f2, true) := by
  intro y e
  have : y = itoaB x.f2 := by apply ByteArray.ext; apply Array.toList_inj.1; rw [e, itoaB_list]
  rw [this]; exact numRead_itoa b1 b2
 unfold lineP
 by_cases e : x.f0 = 6
 · have hcode : code0 x.f1 = [] := by rw [h6 e]; exact code_nil
   unfold line0 at hc
   rw [hcode, List.nil_append, cutC_piece 32 _ _ hw1, cutC_last 32 _ hi] at hc
   generalize splitP s 32 = w at hc
   match w, hc with
   | [a, b], hc =>
    simp only [List.map_cons, List.map_nil, List.cons.injEq, and_true] at hc
    obtain ⟨ha, hb⟩ := hc
    rw [hw, if_neg (by omega), if_neg (by omega)] at ha
    simp only [lineW]
    rw [if_pos (hof _ _ ha), hnum b hb]
    have := h6 e
    cases x; simp_all
   | [], hc => exact absurd hc (by simp)
   | [_], hc => exact absurd hc (by simp)
   | _ :: _ :: _ :: _, hc => exact absurd hc (by simp)
 · have hnm := name_sep (hn e)
   unfold line0 at hc
   rw [code_some hnm.2.2.1, List.append_assoc, List.singleton_append, cutC_piece 32 _ _ hw1, cutC_piece 32 _ _ hnm.1, cutC_last 32 _ hi] at hc
   generalize splitP s 32 = w at hc
   match w, hc with
   | [a, b, c], hc =>
    simp only [List.map_cons, List.map_nil, List.cons.injEq, and_true] at hc
    obtain ⟨ha, hb, hcc⟩ := hc
    have hb' : b = x.f1 := by apply ByteArray.ext; exact Array.toList_inj.1 hb
    rw [hw] at ha
    simp only [lineW]
    rcases hk with k | k | k
    · rw [if_pos k] at ha
      rw [if_pos (hof _ _ ha), hnum c hcc, hb']
      cases x; simp_all
    · rw [if_neg (by omega), if_pos k] at ha
      rw [if_neg (by rw [hof _ _ ha]; decide), if_pos (hof _ _ ha), hnum c hcc, hb']
      cases x; simp_all
    · exact absurd k e
   | [], hc => exact absurd hc (by simp)
   | [_], hc => exact absurd hc (by simp)
   | [_, _], hc => exact absurd hc (by simp)
   | _ :: _ :: _ :: _ :: _, hc => exact absurd hc (by simp)
theorem lines_back : ∀ (t : List ByteArray) (l acc : List S60), (∀ x ∈ l, goodX x = true) → t.map (·.data.toList) = l.map line0 → linesP t acc = (acc ++ l, true)
 | [], [], acc, _, _ => by simp [linesP]
 | [], x :: l, acc, _, h => by simp at h
 | y :: t, [], acc, _, h => by simp at h
 | y :: t, x :: l, acc, hg, h => by
  simp only [List.map_cons, List.cons.injEq] at h
  have e := line_back (hg x List.mem_cons_self) h.1
  have ih := lines_back t l (acc ++ [x]) (fun z hz => hg z (List.mem_cons_of_mem _ hz)) h.2
  unfold linesP
  rw [e, if_pos rfl, ih, List.append_assoc]
  rfl
theorem chk_good : ∀ (l : List S60) (o : Option S60), chkL o l = true → ∀ x ∈ l, goodX x = true
 | [], _, _, x, hx => by cases hx
 | y :: l, o, h, x, hx => by
  unfold chkL at h
  simp only [Bool.and_eq_true] at h
  rcases List.mem_cons.1 hx with e | hx
  · rw [e]; exact h.1.1
  · exact chk_good l (some y) h.2 x hx
theorem valid_parts {p v : Int} {l : List S60} (h : validP p v l = true) : 0 ≤ p ∧ p ≤ 84005 ∧ 1 ≤ v ∧ v ≤ 65536 ∧ l.length ≤ 256 ∧ (∀ x ∈ l, goodX x = true) := by
 unfold validP at h
 simp only [Bool.and_eq_true, decide_eq_true_eq] at h
 obtain ⟨⟨⟨⟨⟨h1, h2⟩, h3⟩, h4⟩, h5⟩, h6⟩ := h
 exact ⟨h1, h2, h3, h4, h5, chk_good l none h6⟩
theorem hdr_free (p v : Int) : (10 : UInt8) ∉ hdr0 p v := by
 unfold hdr0 returnB versionB
 have h1 := (itoa_sep p).2
 have h2 := (itoa_sep v).2
 simp [h1, h2]
theorem flat_len (l : List S60) (h : ∀ x ∈ l, goodX x = true) : (l.flatMap (fun x => (10 : UInt8) :: line0 x)).length ≤ 49 * l.length := by
 induction l with
 | nil => simp
 | cons x l ih =>
  have h1 := line_len (h x List.mem_cons_self)
  have h2 := ih (fun y hy => h y (List.mem_cons_of_mem _ hy))
  rw [List.flatMap_cons, List.length_append, List.length_cons, List.length_cons]
  omega
theorem enc_len {p v : Int} {l : List S60} (h : validP p v l = true) : (encL p v l).length ≤ 20000 := by
 obtain ⟨h1, h2, h3, h4, h5, h6⟩ := valid_parts h
 rw [enc_split]
 have e1 := itoa_len (n := p) (by omega) (by omega)
 have e2 := itoa_len (n := v) (by omega) (by omega)
 have e3 := flat_len l h6
 unfold body0 hdr0 returnB versionB endsB
 simp only [List.length_append, List.length_cons, List.length_nil]
 omega
def encB (p v : Int) (l : List S60) : ByteArray := ⟨(encL p v l).toArray⟩
theorem encB_list (p v : Int) (l : List S60) : (encB p v l).data.toList = encL p v l := by unfold encB; simp
theorem encB_size (p v : Int) (l : List S60) : (encB p v l).size = (encL p v l).length := by rw [← encB_list]; rfl
theorem encode_ev {p v : Int} {l : List S60} (hl : l.length ≤ 1000000) : Ev (fun k => filing_Encode.f k p v l) (if validP p v l = true then (encB p v l, 0) else (⟨#[]⟩, 1)) := by
 unfold filing_Encode.f
 refine Ev.bind (valid_ev p v l hl) ?_
 by_cases h : validP p v l = true
 · rw [if_pos h, if_pos h]
   refine Ev.ifp ?_ (Ev.now _)
   obtain ⟨h1, h2, h3, h4, h5, h6⟩ := valid_parts h
   have := enc_len h
   unfold encFine I64B
   simp only [Bool.and_eq_true, decide_eq_true_eq, List.all_eq_true]
   refine ⟨⟨⟨by omega, by omega⟩, fun x hx => ?_⟩, by omega⟩
   have := goodX_form (h6 x hx)
   omega
 · rw [if_neg h, if_neg h]
   exact Ev.now _
theorem readP_enc {p v : Int} {l : List S60} (h : validP p v l = true) : readP (encB p v l) = (p, v, l, true) := by
 obtain ⟨h1, h2, h3, h4, h5, h6⟩ := valid_parts h
 have hs : (encB p v l).size = (body0 p v l).length + 5 := by rw [encB_size, enc_split, List.length_append]; rfl
 have hd := encB_list p v l
 rw [enc_split] at hd
 have hx : ((encB p v l).extract 0 ((encB p v l).size - 5)).data.toList = body0 p v l := by
  rw [ByteArray.data_extract, Array.toList_extract, hd, hs]
  simp [List.extract]
 have hy : ((encB p v l).extract ((encB p v l).size - 5) (encB p v l).size).data.toList = endsB := by
  rw [ByteArray.data_extract, Array.toList_extract, hd, hs]
  simp [List.extract, endsB]
 have hends : endsP (encB p v l) = true := by
  unfold endsP
  rw [Lib.toList_data, hy, decide_eq_true (show 5 ≤ (encB p v l).size by omega)]
  rfl
 unfold readP
 rw [if_pos hends]
 generalize (encB p v l).extract 0 ((encB p v l).size - 5) = b at hx
 have hc := splitP_cut b 10
 rw [hx] at hc
 unfold body0 at hc
 rw [cut_flat line0 l _ (hdr_free p v) (fun x hx => line_free (h6 x hx))] at hc
 unfold bodyP
 generalize splitP b 10 = t at hc
 cases t with
 | nil => simp at hc
 | cons y t =>
  simp only [List.map_cons, List.cons.injEq] at hc
  have hl := lines_back t l [] h6 hc.2
  have hr : rdOf ByteArray.empty (y :: t) 0 = y := rfl
  have hw := splitP_cut y 32
  rw [hc.1] at hw
  unfold hdr0 at hw
  rw [cutC_piece 32 returnB _ (by decide), cutC_piece 32 _ _ (itoa_sep p).1, cutC_piece 32 versionB _ (by decide), cutC_last 32 _ (itoa_sep v).1] at hw
  rw [hr]
  generalize splitP y 32 = w at hw
  have hnum : ∀ (n : Int) (z : ByteArray), 0 ≤ n → n ≤ 1000000 → z.data.toList = Lib.itoa n → numRead z = (n, true) := by
   intro n z g1 g2 e
   have : z = itoaB n := by apply ByteArray.ext; apply Array.toList_inj.1; rw [e, itoaB_list]
   rw [this]; exact numRead_itoa (by omega) (by omega)
  match w, hw with
  | [a, b, c, d], hw =>
   simp only [List.map_cons, List.map_nil, List.cons.injEq, and_true] at hw
   obtain ⟨ha, hb, hcc, hd⟩ := hw
   simp only [headW]
   rw [if_pos ⟨by rw [Lib.toList_data]; exact ha, by rw [Lib.toList_data]; exact hcc⟩, hnum p b h1 (by omega) hb, hnum v d (by omega) (by omega) hd, if_pos ⟨rfl, rfl⟩]
   simp only [List.drop_succ_cons, List.drop_zero]
   rw [hl]; rfl
  | [], hw => exact absurd hw (by simp)
  | [_], hw => exact absurd hw (by simp)
  | [_, _], hw => exact absurd hw (by simp)
  | [_, _, _], hw => exact absurd hw (by simp)
  | _ :: _ :: _ :: _ :: _ :: _, hw => exact absurd hw (by simp)
theorem line_from {s : ByteArray} (h : (lineP s).2 = true) (hg : goodX (lineP s).1 = true) : s.data.toList = line0 (lineP s).1 := by
 have hj := joinC_cut 32 s.data.toList
 rw [← splitP_cut] at hj
 unfold lineP at h hg ⊢
 generalize splitP s 32 = w at h hg hj ⊢
 have hnum : ∀ c : ByteArray, (numRead c).2 = true → c.data.toList = Lib.itoa (numRead c).1 := by
  intro c e
  rw [← itoaB_list, numRead_true (s := c) (v := (numRead c).1) (by rw [← e])]
 match w, h, hg, hj with
 | [a, b, c], h, hg, hj =>
  simp only [lineW] at h hg ⊢
  by_cases e1 : a.toList = levyB
  · rw [if_pos e1] at h hg ⊢
    have hn := name_sep ((goodX_form hg).2.2.2.2 (by show (4 : Int) ≠ 6; decide))
    rw [← hj]
    unfold line0
    rw [code_some hn.2.2.1]
    rw [Lib.toList_data] at e1
    simp only [List.map_cons, List.map_nil, joinC]
    rw [e1, hnum c h, word4]
    simp
  · rw [if_neg e1] at h hg ⊢
    by_cases e2 : a.toList = employerB
    · rw [if_pos e2] at h hg ⊢
      have hn := name_sep ((goodX_form hg).2.2.2.2 (by show (5 : Int) ≠ 6; decide))
      rw [← hj]
      unfold line0
      rw [code_some hn.2.2.1]
      rw [Lib.toList_data] at e2
      simp only [List.map_cons, List.map_nil, joinC]
      rw [e2, hnum c h, word5]
      simp
    · rw [if_neg e2] at h
      cases h
 | [a, b], h, hg, hj =>
  simp only [lineW] at h hg ⊢
  by_cases e1 : a.toList = taxB
  · rw [if_pos e1] at h hg ⊢
    rw [← hj]
    unfold line0
    rw [Lib.toList_data] at e1
    simp only [List.map_cons, List.map_nil, joinC]
    rw [e1, hnum b h, word6, code_nil]
    rfl
  · rw [if_neg e1] at h
    cases h
 | [], h, _, _ => cases h
 | [_], h, _, _ => cases h
 | _ :: _ :: _ :: _ :: _, h, _, _ => cases h
theorem lines_from : ∀ (t : List ByteArray) (acc l : List S60), linesP t acc = (l, true) → ∃ r, l = acc ++ r ∧ ((∀ x ∈ r, goodX x = true) → t.map (·.data.toList) = r.map line0)
 | [], acc, l, h => by
  unfold linesP at h
  injection h with h1 h2
  exact ⟨[], by simp [h1], fun _ => rfl⟩
 | y :: t, acc, l, h => by
  unfold linesP at h
  by_cases g : (lineP y).2 = true
  · rw [if_pos g] at h
    obtain ⟨r, h1, h2⟩ := lines_from t _ l h
    refine ⟨(lineP y).1 :: r, by rw [h1, List.append_assoc]; rfl, fun hg => ?_⟩
    rw [List.map_cons, List.map_cons, line_from g (hg _ List.mem_cons_self), h2 (fun x hx => hg x (List.mem_cons_of_mem _ hx))]
  · rw [if_neg g] at h
    injection h with h1 h2
    cases h2
theorem join_flat (f : S60 → List UInt8) : ∀ (l : List S60) (a : List UInt8), joinC 10 (a :: l.map f) = a ++ l.flatMap (fun x => 10 :: f x)
 | [], a => by simp [joinC]
 | x :: l, a => by
  have := join_flat f l (f x)
  rw [List.map_cons, joinC, this, List.flatMap_cons, List.cons_append]
theorem readP_from {s : ByteArray} {p v : Int} {l : List S60} (h : readP s = (p, v, l, true)) (hg : ∀ x ∈ l, goodX x = true) : encB p v l = s := by
 unfold readP at h
 by_cases he : endsP s = true
 · rw [if_pos he] at h
   unfold endsP at he
   simp only [Bool.and_eq_true, decide_eq_true_eq] at he
   have hs : s.data.toList = (s.extract 0 (s.size - 5)).data.toList ++ endsB := by
    rw [← he.2, Lib.toList_data, ByteArray.data_extract, ByteArray.data_extract, Array.toList_extract, Array.toList_extract]
    simp only [List.extract, Nat.sub_zero, List.drop_zero]
    have e5 : s.size = s.data.toList.length := rfl
    rw [show s.size - (s.size - 5) = 5 by omega]
    have : (s.data.toList.drop (s.size - 5)).take 5 = s.data.toList.drop (s.size - 5) := List.take_of_length_le (by rw [List.length_drop]; omega)
    rw [this, List.take_append_drop]
   generalize s.extract 0 (s.size - 5) = b at h hs
   have hj := joinC_cut 10 b.data.toList
   rw [← splitP_cut] at hj
   unfold bodyP at h
   have hn := splitP_ne b 10
   generalize splitP b 10 = t at h hj hn
   cases t with
   | nil => exact absurd rfl hn
   | cons y t =>
    have hr : rdOf ByteArray.empty (y :: t) 0 = y := rfl
    rw [hr] at h
    simp only [List.drop_succ_cons, List.drop_zero] at h
    have hk := joinC_cut 32 y.data.toList
    rw [← splitP_cut] at hk
    generalize splitP y 32 = w at h hk
    have hnum : ∀ c : ByteArray, (numRead c).2 = true → c.data.toList = Lib.itoa (numRead c).1 := by
     intro c e
     rw [← itoaB_list, numRead_true (s := c) (v := (numRead c).1) (by rw [← e])]
    match w, h, hk with
    | [a, x, c, d], h, hk =>
     simp only [headW] at h
     by_cases e1 : a.toList = returnB ∧ c.toList = versionB
     · rw [if_pos e1] at h
       by_cases e2 : (numRead x).2 = true ∧ (numRead d).2 = true
       · rw [if_pos e2] at h
         injection h with h1 h
         injection h with h2 h
         injection h with h3 h4
         obtain ⟨r, g1, g2⟩ := lines_from t [] l (Prod.ext h3 h4)
         rw [List.nil_append] at g1
         subst g1
         have g3 := g2 hg
         have hy : y.data.toList = hdr0 p v := by
          rw [← hk]
          simp only [List.map_cons, List.map_nil, joinC]
          rw [Lib.toList_data, Lib.toList_data] at e1
          rw [e1.1, e1.2, hnum x e2.1, hnum d e2.2, h1, h2]
          rfl
         rw [List.map_cons, g3, hy, join_flat] at hj
         apply ByteArray.ext
         apply Array.toList_inj.1
         rw [encB_list, enc_split, hs, ← hj]
         rfl
       · rw [if_neg e2] at h
         simp at h
     · rw [if_neg e1] at h
       simp at h
    | [], h, _ => simp [headW] at h
    | [_], h, _ => simp [headW] at h
    | [_, _], h, _ => simp [headW] at h
    | [_, _, _], h, _ => simp [headW] at h
    | _ :: _ :: _ :: _ :: _ :: _, h, _ => simp [headW] at h
 · rw [if_neg he] at h
   simp at h
theorem linesP_len : ∀ (t : List ByteArray) (acc : List S60), (linesP t acc).1.length ≤ acc.length + t.length
 | [], acc => by simp [linesP]
 | y :: t, acc => by
  unfold linesP
  split
  · have := linesP_len t (acc ++ [(lineP y).1]); simp at this ⊢; omega
  · simp
theorem readP_len (s : ByteArray) (hs : s.size ≤ 65536) : (readP s).2.2.1.length ≤ 1000000 := by
 unfold readP
 split
 · unfold bodyP
   have hm := splitP_many (s.extract 0 (s.size - 5)) 10
   have hz : (s.extract 0 (s.size - 5)).size ≤ 65536 := by rw [ByteArray.size_extract]; omega
   generalize (s.extract 0 (s.size - 5)) = b at hm hz
   unfold headW
   split
   · split
     · split
       · have := linesP_len ((splitP b 10).drop 1) []
         simp only [List.length_nil, List.length_drop] at this
         show (linesP ((splitP b 10).drop 1) []).1.length ≤ 1000000
         omega
       · simp
     · simp
   · simp
 · simp
def decP (s : ByteArray) : Int × Int × List S60 × Int :=
 if 65536 < s.size then (0, 0, [], 3) else if (readP s).2.2.2 = true ∧ validP (readP s).1 (readP s).2.1 (readP s).2.2.1 = true then ((readP s).1, (readP s).2.1, (readP s).2.2.1, 0) else (0, 0, [], 6)
theorem decode_ev (s : ByteArray) : Ev (fun k => filing_Decode.f k s) (decP s) := by
 unfold filing_Decode.f decP
 by_cases h : 65536 < s.size
 · rw [if_pos h]
   exact Ev.ifp (by omega) (Ev.now _)
 · rw [if_neg h]
   refine Ev.ifn (by omega) (Ev.bind (read_ev s (by omega)) ?_)
   have hl := readP_len s (by omega)
   generalize readP s = r at hl ⊢
   by_cases g : r.2.2.2 = true
   · refine Ev.ifp g (Ev.bind (valid_ev _ _ _ hl) ?_)
     by_cases e : validP r.1 r.2.1 r.2.2.1 = true
     · exact Ev.ifp e ((Ev.now _).cast (by rw [if_pos (show r.2.2.2 = true ∧ validP r.1 r.2.1 r.2.2.1 = true from ⟨g, e⟩)]))
     · exact Ev.ifn e ((Ev.now _).cast (by rw [if_neg (show ¬ (r.2.2.2 = true ∧ validP r.1 r.2.1 r.2.2.1 = true) from fun h => e h.2)]))
   · rw [if_neg (fun h => g h.1)]
     exact Ev.ifn g (Ev.now _)
theorem decP_enc {p v : Int} {l : List S60} (h : validP p v l = true) : decP (encB p v l) = (p, v, l, 0) := by
 have := enc_len h
 unfold decP
 rw [if_neg (by rw [encB_size]; omega), readP_enc h, if_pos ⟨rfl, h⟩]
theorem decP_from {s : ByteArray} {p v : Int} {l : List S60} (h : decP s = (p, v, l, 0)) : validP p v l = true ∧ encB p v l = s := by
 unfold decP at h
 split at h
 · simp at h
 · split at h
   · rename_i hc
     have e : readP s = (p, v, l, true) := by
      simp only [Prod.mk.injEq] at h
      obtain ⟨h1, h2, h3, -⟩ := h
      rw [← h1, ← h2, ← h3, ← hc.1]
     have hv := hc.2
     rw [e] at hv
     exact ⟨hv, readP_from e (valid_parts hv).2.2.2.2.2⟩
   · simp at h
end Go.Proofs.YtejgfblphgcgkaaGreatDoor.P
namespace Go.Proofs.YtejgfblphgcgkaaGreatDoor.P
set_option linter.unusedVariables false
open Go.RowKit Go.Proofs.YtejgfblphgcgkaaGreatDoorW.PrintWords
def deckCodes : List ByteArray := [(⟨#[98, 111, 110, 117, 115]⟩ : ByteArray), (⟨#[99, 97, 114]⟩ : ByteArray), (⟨#[110, 105, 103, 104, 116]⟩ : ByteArray), (⟨#[115, 97, 108, 97, 114, 121]⟩ : ByteArray), (⟨#[97]⟩ : ByteArray), (⟨#[98]⟩ : ByteArray), (⟨#[120, 49]⟩ : ByteArray), (⟨#[97, 98, 99, 100, 101, 102, 103, 104, 105, 106, 107, 108, 109, 110, 111, 112, 113, 114, 115, 116, 117, 118, 119, 120]⟩ : ByteArray)]
theorem deckCodes_names : ∀ c ∈ deckCodes, nameB c.data.toList = true := by
 have h : deckCodes.all (fun c => nameB c.data.toList) = true := by decide +kernel
 exact fun c hc => List.all_eq_true.1 h c hc
theorem deck_code (l : List Int) (p : Int) (hp : 0 ≤ p) (hp2 : p ≤ 100000000000) : ∃ c, Ev (fun k => paygen_Deck_Code.f k l p) (c, p + 1) ∧ nameB c.data.toList = true := by
 unfold paygen_Deck_Code.f
 obtain ⟨v, h1, h2, h3⟩ := deck_next l p 8 ⟨hp, by omega⟩ (by omega) (by omega)
 have hl : v.toNat < deckCodes.length := by show v.toNat < 8; omega
 refine ⟨rdOf ByteArray.empty deckCodes v, Ev.bindc (a := deckCodes) rfl (Ev.bind h1 (Ev.ifp h2 (Ev.ifp (by show v < ((8 : Nat) : Int); omega) (Ev.now _)))), ?_⟩
 unfold rdOf
 rw [List.getD_eq_getElem?_getD, List.getElem?_eq_getElem hl]
 exact deckCodes_names _ (List.getElem_mem hl)
end Go.Proofs.YtejgfblphgcgkaaGreatDoor.P
namespace Go.Proofs.YtejgfblphgcgkaaGreatDoor.P
set_option linter.unusedVariables false
set_option linter.unusedSimpArgs false
open Go.RowKit Go.Proofs.YtejgfblphgcgkaaGreatDoorW.PrintWords
theorem ltX_kind {y x : S60} (h : y.f0 < x.f0) : ltX y x = true := by
 unfold ltX cmpI orI
 rw [if_pos h, if_neg (by decide)]; rfl
theorem chk_snoc : ∀ (l : List S60) (o : Option S60) (x : S60), chkL o l = true → goodX x = true → (∀ y ∈ l, ltX y x = true) → (∀ y, o = some y → ltX y x = true) → chkL o (l ++ [x]) = true
 | [], o, x, _, hg, _, ho => by
  show chkL o [x] = true
  unfold chkL chkL
  rw [hg]
  cases o with
  | none => rfl
  | some y => show (true && ltX y x && true) = true; rw [ho y rfl]; rfl
 | z :: l, o, x, h, hg, hl, _ => by
  rw [List.cons_append]
  unfold chkL at h ⊢
  simp only [Bool.and_eq_true] at h ⊢
  exact ⟨h.1, chk_snoc l (some z) x h.2 hg (fun y hy => hl y (List.mem_cons_of_mem _ hy)) (fun y hy => by injection hy with hy; rw [← hy]; exact hl z List.mem_cons_self)⟩
theorem good_mk {k a : Int} {c : ByteArray} (hk : k = 4 ∨ k = 5 ∨ k = 6) (h0 : 1 ≤ a) (h1 : a ≤ 1000000) (h6 : k = 6 → c = ⟨#[]⟩) (hn : k ≠ 6 → nameB c.data.toList = true) : goodX ⟨k, c, a⟩ = true := by
 unfold goodX kindB FormP formP totalB
 simp only [Bool.and_eq_true, Bool.or_eq_true, decide_eq_true_eq, bne_iff_ne]
 refine ⟨by omega, ⟨⟨by omega, by omega⟩, ⟨by omega, by omega⟩, ?_⟩, by omega⟩
 by_cases e : k = 6
 · rw [e, h6 e, if_pos (by decide)]; rfl
 · have : bareB k = false := by unfold bareB; simp; omega
   rw [this, if_neg (by decide)]; exact hn e
def Upto (k : Int) (l : List S60) : Prop := chkL none l = true ∧ ∀ x ∈ l, x.f0 < k
theorem Upto.snoc {k a : Int} {c : ByteArray} {l : List S60} (h : Upto k l) (hg : goodX ⟨k, c, a⟩ = true) : Upto (k + 1) (l ++ [⟨k, c, a⟩]) :=
 ⟨chk_snoc l none _ h.1 hg (fun y hy => ltX_kind (h.2 y hy)) (fun y hy => by cases hy), fun x hx => by
  rcases List.mem_append.1 hx with hx | hx
  · have := h.2 x hx; omega
  · rw [List.mem_singleton.1 hx]; show k < k + 1; omega⟩
theorem Upto.more {k : Int} {l : List S60} (h : Upto k l) : Upto (k + 1) l := ⟨h.1, fun x hx => by have := h.2 x hx; omega⟩
theorem same_loop (l : List S60) (hl : l.length ≤ 1000000) : ∀ (m i : Nat), i + m = l.length → Ev (fun k => payrollref32_Same.l0 k l l (i : Int)) true := by
 intro m
 induction m with
 | zero =>
  intro i hi
  exact Ev.step (fun k => by simp only [payrollref32_Same.l0]; rfl) (Ev.ifn (by omega) (Ev.now _))
 | succ m ih =>
  intro i hi
  have e1 : wrap64 ((i : Int) + 1) = ((i + 1 : Nat) : Int) := by unfold wrap64; omega
  refine Ev.step (fun k => by simp only [payrollref32_Same.l0]; rfl) (Ev.ifp (by omega) (Ev.ifp (by omega) (Ev.ifp (by omega) (Ev.ifn (by simp) ?_))))
  rw [e1]
  exact ih (i + 1) (by omega)
theorem same_ev (l : List S60) (hl : l.length ≤ 1000000) : Ev (fun k => payrollref32_Same.f k l l) true := by
 unfold payrollref32_Same.f
 exact Ev.ifp rfl (same_loop l hl l.length 0 (by omega))
theorem same_nil (l : List S60) : Ev (fun k => payrollref32_Same.f k [] l) (decide (l = [])) := by
 cases l with
 | nil => exact (same_ev [] (by simp)).cast (by simp)
 | cons x l =>
  unfold payrollref32_Same.f
  exact Ev.ifn (by simp only [List.length_nil, List.length_cons]; omega) ((Ev.now _).cast (by simp))
theorem latest_nil (p : Int) : Ev (fun k => payrollref38_Latest.f k [] p) (0, 0, [], false) := by
 unfold payrollref38_Latest.f
 have e : wrap64 ((([] : List S25).length : Int) - 1) = -1 := by decide +kernel
 rw [e]
 refine Ev.step (fun k => by simp only [payrollref38_Latest.l0]; rfl) ?_
 exact Ev.ifn (by decide) (Ev.now _)
theorem next_nil (p : Int) (l : List S60) (hl : l.length ≤ 1000000) : Ev (fun k => payrollref38_Next.f k [] p l) (if l = [] then (0, 0, [], false) else (p, 1, l, true)) := by
 unfold payrollref38_Next.f
 refine Ev.bind (latest_nil p) (Ev.bind (same_nil l) ?_)
 by_cases h : l = []
 · rw [if_pos h]
   exact Ev.ifp (by simp [h]) (Ev.now _)
 · rw [if_neg h]
   refine Ev.ifn (by simp [h]) (Ev.bindc (a := ([] : List S60)) rfl (Ev.ifp (by simp only [List.length_nil]; omega) ((Ev.now _).cast ?_)))
   have : wrap64 ((0 : Int) + 1) = 1 := by decide +kernel
   rw [this, List.nil_append]
def OneR (r : List S25) : Prop := r = [] ∨ ∃ p l, r = [⟨p, 1, l⟩] ∧ chkL none l = true ∧ l.length ≤ 3
theorem returns_end (L : List Int) (r : List S25) (a : Int) : Ev (fun k => paygen_Deck_Returns.l0 k r 0 L a) (r, a) := by
 refine Ev.step (fun k => by simp only [paygen_Deck_Returns.l0]; rfl) ?_
 exact Ev.ifn (by decide) (Ev.now _)
theorem returns_kinds (L : List Int) : ∀ (m : Nat) (k : Int) (l : List S60) (a : Int), k + m = 7 → 4 ≤ k → Upto k l → l.length + m ≤ 3 → 0 ≤ a → a + 10 * m ≤ 1000 → ∃ r b, Ev (fun j => paygen_Deck_Returns.l1 j [] 1 l k L a) (r, b) ∧ OneR r ∧ 0 ≤ b ∧ b ≤ 2000 := by
 intro m
 induction m with
 | zero =>
  intro k l a hk _ hl hm ha hb
  obtain ⟨p, h1, h2, h3⟩ := deck_next L a 3 ⟨ha, by omega⟩ (by omega) (by omega)
  have e0 : wrap64 ((1 : Int) - 1) = 0 := by decide +kernel
  have hn := next_nil p l (by omega)
  by_cases h : l = []
  · rw [if_pos h] at hn
    refine ⟨[], a + 1, Ev.step (fun j => by simp only [paygen_Deck_Returns.l1]; rfl) (Ev.ifn (by omega) (Ev.bind h1 (Ev.bind hn ?_))), Or.inl rfl, by omega, by omega⟩
    refine Ev.ifn (by decide) ?_
    rw [e0]; exact returns_end L [] (a + 1)
  · rw [if_neg h] at hn
    refine ⟨[⟨p, 1, l⟩], a + 1, Ev.step (fun j => by simp only [paygen_Deck_Returns.l1]; rfl) (Ev.ifn (by omega) (Ev.bind h1 (Ev.bind hn ?_))), Or.inr ⟨p, l, rfl, hl.1, by omega⟩, by omega, by omega⟩
    refine Ev.ifp rfl (Ev.ifp (by decide) ?_)
    rw [e0]; exact returns_end L _ (a + 1)
 | succ m ih =>
  intro k l a hk h4 hl hm ha hb
  have ek : wrap64 (k + 1) = k + 1 := by unfold wrap64; omega
  obtain ⟨c, h1, h2, h3⟩ := deck_next L a 2 ⟨ha, by omega⟩ (by omega) (by omega)
  by_cases hc : c = 0
  · obtain ⟨r, b, g1, g2, g3⟩ := ih (k + 1) l (a + 1) (by omega) (by omega) hl.more (by omega) (by omega) (by omega)
    refine ⟨r, b, Ev.step (fun j => by simp only [paygen_Deck_Returns.l1]; rfl) (Ev.ifp (by omega) (Ev.bind h1 (Ev.ifp hc ?_))), g2, g3⟩
    rw [ek]; exact g1
  · obtain ⟨v, i1, i2, i3⟩ := deck_next L (a + 1) 1000 ⟨by omega, by omega⟩ (by omega) (by omega)
    have ev : wrap64 (1 + v) = 1 + v := by unfold wrap64; omega
    by_cases h6 : k = 6
    · obtain ⟨r, b, g1, g2, g3⟩ := ih (k + 1) (l ++ [⟨k, ⟨#[]⟩, 1 + v⟩]) (a + 1 + 1) (by omega) (by omega) (hl.snoc (good_mk (by omega) (by omega) (by omega) (fun _ => rfl) (fun h => absurd h6 h))) (by simp; omega) (by omega) (by omega)
      refine ⟨r, b, Ev.step (fun j => by simp only [paygen_Deck_Returns.l1]; rfl) (Ev.ifp (by omega) (Ev.bind h1 (Ev.ifn hc (Ev.bind i1 (Ev.ifp h6 ?_))))), g2, g3⟩
      rw [ek, ev]
      refine Ev.ifp (by omega) ?_
      exact g1
    · obtain ⟨y, y1, y2⟩ := deck_code L (a + 1 + 1) (by omega) (by omega)
      obtain ⟨r, b, g1, g2, g3⟩ := ih (k + 1) (l ++ [⟨k, y, 1 + v⟩]) (a + 1 + 1 + 1) (by omega) (by omega) (hl.snoc (good_mk (by omega) (by omega) (by omega) (fun h => absurd h h6) (fun _ => y2))) (by simp; omega) (by omega) (by omega)
      refine ⟨r, b, Ev.step (fun j => by simp only [paygen_Deck_Returns.l1]; rfl) (Ev.ifp (by omega) (Ev.bind h1 (Ev.ifn hc (Ev.bind i1 (Ev.ifn h6 (Ev.bind y1 ?_)))))), g2, g3⟩
      rw [ek, ev]
      refine Ev.ifp (by omega) ?_
      exact g1
theorem returns_one (L : List Int) (a : Int) (ha : 0 ≤ a) (hb : a ≤ 100) : ∃ r b, Ev (fun k => paygen_Deck_Returns.f k L a 1) (r, b) ∧ OneR r ∧ 0 ≤ b ∧ b ≤ 2000 := by
 unfold paygen_Deck_Returns.f
 have e : wrap64 ((1 : Int) + 1) = 2 := by decide +kernel
 rw [e]
 obtain ⟨c, h1, h2, h3⟩ := deck_next L a 2 ⟨ha, by omega⟩ (by omega) (by omega)
 by_cases hc : c = 0
 · subst hc
   exact ⟨[], a + 1, Ev.bind h1 (returns_end L [] (a + 1)), Or.inl rfl, by omega, by omega⟩
 · have : c = 1 := by omega
   subst this
   obtain ⟨r, b, g1, g2, g3⟩ := returns_kinds L 3 4 [] (a + 1) (by omega) (by omega) ⟨rfl, fun x hx => by cases hx⟩ (by simp) (by omega) (by omega)
   refine ⟨r, b, Ev.bind h1 ?_, g2, g3⟩
   refine Ev.step (fun j => by simp only [paygen_Deck_Returns.l0]; rfl) ?_
   exact Ev.ifp (by decide) g1
theorem drawn_ev (L : List Int) : ∃ p v l b, Ev (fun k => payrolllaw43_drawn.f k L 0) (p, v, l, b) ∧ validP p v l = true ∧ 0 ≤ b ∧ b ≤ 2000 := by
 unfold payrolllaw43_drawn.f
 obtain ⟨p, h1, h2, h3⟩ := deck_next L 0 3 ⟨by omega, by omega⟩ (by omega) (by omega)
 obtain ⟨v, i1, i2, i3⟩ := deck_next L (0 + 1) 4 ⟨by omega, by omega⟩ (by omega) (by omega)
 obtain ⟨r, b, g1, g2, g3, g4⟩ := returns_one L (0 + 1 + 1) (by omega) (by omega)
 have ev : wrap64 (1 + v) = 1 + v := by unfold wrap64; omega
 have hv : ∀ l : List S60, chkL none l = true → l.length ≤ 3 → validP p (1 + v) l = true := by
  intro l hl hn
  unfold validP
  rw [hl]
  simp; omega
 rcases g2 with rfl | ⟨q, l, rfl, hl, hn⟩
 · refine ⟨p, 1 + v, [], b, Ev.bind h1 (Ev.bind i1 (Ev.bind g1 ?_)), hv [] rfl (by simp), g3, g4⟩
   rw [ev]
   exact Ev.ifn (show ¬ ((0 : Int) > 0) by decide) (Ev.now _)
 · refine ⟨p, 1 + v, l, b, Ev.bind h1 (Ev.bind i1 (Ev.bind g1 ?_)), hv l hl hn, g3, g4⟩
   rw [ev]
   exact Ev.ifp (show (1 : Int) > 0 by decide) (Ev.ifp (show (0 : Int) < 1 by decide) (Ev.now _))
theorem awake_ev : Ev (fun k => payrolllaw43_awake.f k) true := by
 have v1 : validP 5 1 [oneX] = true := by decide +kernel
 have v2 : validP 5 2 [] = true := by decide +kernel
 have b1 : encB 5 1 [oneX] = oneB := by decide +kernel
 have b2 : encB 5 2 [] = twoB := by decide +kernel
 obtain ⟨K1, h1⟩ := encode_ev (p := 5) (v := 1) (l := [oneX]) (by simp)
 obtain ⟨K2, h2⟩ := encode_ev (p := 5) (v := 2) (l := []) (by simp)
 obtain ⟨K3, h3⟩ := decode_ev oneB
 obtain ⟨K4, h4⟩ := decode_ev twoB
 rw [if_pos v1, b1] at h1
 rw [if_pos v2, b2] at h2
 rw [← b1, decP_enc v1, b1] at h3
 rw [← b2, decP_enc v2, b2] at h4
 refine ⟨K1 + K2 + K3 + K4, fun k hk => ?_⟩
 unfold payrolllaw43_awake.f
 exact if_pos ⟨h1 k (by omega), h2 k (by omega), h3 k (by omega), h4 k (by omega)⟩
end Go.Proofs.YtejgfblphgcgkaaGreatDoor.P
