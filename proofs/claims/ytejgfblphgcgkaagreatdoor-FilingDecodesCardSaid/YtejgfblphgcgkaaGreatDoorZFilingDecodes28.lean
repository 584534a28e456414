/- Texts for the law FilingDecodes (kept out of a larger one). -/
import Derived.Laws.Strings
import Derived.Lib.AtoiTie
import Derived.Lib.ItoaMem
import Derived.Lib.ItoaLen
import Derived.Lib.IndexLaws
import Derived.Test.YtejgfblphgcgkaaGreatDoorZFilingDecodes26
import Derived.Test.YtejgfblphgcgkaaGreatDoorZFilingDecodes27
import Derived.WalkKit
namespace Go.Proofs.YtejgfblphgcgkaaGreatDoor.P
set_option linter.unusedVariables false
open Go.RowKit Go.Proofs.YtejgfblphgcgkaaGreatDoorW.PrintWords
theorem u64_in {n : Int} (h0 : 0 ≤ n) (h1 : n < 18446744073709551616) : IntKind.u64.wrap n = n := by rw [IntKind.wrap_u64]; omega
theorem ref1_size_eq {n : Int} (h : I64 n) : payrollref1_size.f n = some (n.natAbs : Int) := by
 unfold payrollref1_size.f I64 at *
 split
 · congr 1
   have h1 : wrap64 (n + 1) = n + 1 := wrap64_in (by unfold I64; omega)
   have h2 : wrap64 (-(n + 1)) = -(n + 1) := wrap64_in (by unfold I64; omega)
   rw [h1, h2, IntKind.wrap_u64, IntKind.wrap_u64]
   omega
 · congr 1
   rw [IntKind.wrap_u64]
   omega
theorem one_num (n : Int) (h0 : 0 ≤ n) (h1 : n < 256) : strOfNums [n] = bs [UInt8.ofNat n.toNat] := by
 unfold strOfNums
 rfl
def signL (n : Int) (l : List UInt8) : List UInt8 := if n < 0 then 45 :: l else l
theorem dec_step {m : Nat} (hm : m ≤ 9223372036854775808) : (some (([(IntKind.u64.wrap (48 + (Int.tmod (m : Int) 10))) % 256] : List Int) : List Int)) = some [((48 + m % 10 : Nat) : Int)] := by
 have e : Int.tmod (m : Int) 10 = ((m % 10 : Nat) : Int) := (Int.ofNat_tmod m 10).symm
 rw [e, u64_in (by omega) (by omega)]
 congr 2
 omega
theorem dec_done (n : Int) (l : List UInt8) (hl : l ≠ []) (hs : l.length ≤ 30) : Ev (fun k => payrollref1_Decimal.l0 k n (bs l) 0) (bs (signL n l)) := by
 refine Ev.step (fun k => by simp only [payrollref1_Decimal.l0]; rfl) ?_
 refine Ev.ifn (by decide) (Ev.ifn (by rw [str_nil, bs_list]; exact hl) ?_)
 by_cases h : n < 0
 · refine Ev.ifp h (Ev.ifp (by rw [bs_size]; omega) (Ev.cast (Ev.now _) ?_))
   unfold signL; rw [if_pos h]; exact bs_append [45] l
 · refine Ev.ifn h (Ev.cast (Ev.now _) ?_)
   unfold signL; rw [if_neg h]
theorem dec_loop (n : Int) : ∀ (m : Nat) (l : List UInt8), 0 < m → m ≤ 9223372036854775808 → (Lib.decDigits m).length + l.length ≤ 30 → Ev (fun k => payrollref1_Decimal.l0 k n (bs l) (m : Int)) (bs (signL n (Lib.decDigits m ++ l))) := by
 intro m
 induction m using Nat.strongRecOn with
 | _ m ih =>
  intro l h0 h1 hs
  refine Ev.step (fun k => by simp only [payrollref1_Decimal.l0]; rfl) ?_
  refine Ev.ifp (by omega) (Ev.bindc (dec_step h1) ?_)
  have es : strOfNums [((48 + m % 10 : Nat) : Int)] = bs [UInt8.ofNat (48 + m % 10)] := one_num _ (by omega) (by omega)
  have ed : IntKind.u64.wrap (Int.tdiv (m : Int) 10) = ((m / 10 : Nat) : Int) := by
   have : Int.tdiv (m : Int) 10 = ((m / 10 : Nat) : Int) := (Int.ofNat_tdiv m 10).symm
   rw [this, u64_in (by omega) (by omega)]
  rw [es, ed, bs_append]
  refine Ev.ifp (by rw [bs_size, bs_size]; simp; omega) ?_
  by_cases h : m < 10
  · have e0 : m / 10 = 0 := by omega
    have em : m % 10 = m := by omega
    rw [e0, em, Lib.decDigits_one h]
    refine dec_done n _ (by simp) ?_
    rw [Lib.decDigits_one h] at hs
    rw [List.length_append]; simpa using hs
  · have hd : Lib.decDigits m = Lib.decDigits (m / 10) ++ [UInt8.ofNat (48 + m % 10)] := by rw [Lib.decDigits, dif_neg h]
    rw [hd, List.append_assoc]
    rw [hd, List.length_append] at hs
    exact ih (m / 10) (by omega) _ (by omega) (by omega) (by rw [List.length_append]; omega)
theorem signL_itoa (n : Int) : signL n (Lib.decDigits n.natAbs) = Lib.itoa n := by
 unfold signL Lib.itoa
 split
 · rfl
 · congr 1; omega
theorem ref1_Decimal_ev {n : Int} (hn : I64 n) : Ev (fun k => payrollref1_Decimal.f k n) (bs (Lib.itoa n)) := by
 unfold payrollref1_Decimal.f
 refine Ev.bindc (ref1_size_eq hn) ?_
 rw [← signL_itoa]
 have hb : n.natAbs ≤ 9223372036854775808 := by unfold I64 at hn; omega
 have hl : (Lib.decDigits n.natAbs).length ≤ 20 := by rw [Lib.decDigits_length]; exact nDigits_le 19 _ (by omega)
 by_cases h : n.natAbs = 0
 · rw [h]
   refine Ev.step (fun k => by simp only [payrollref1_Decimal.l0]; rfl) ?_
   refine Ev.ifn (by decide) (Ev.ifp (by rw [str_nil]) (Ev.bindc (dec_step (m := 0) (by omega)) ?_))
   have es : strOfNums [((48 + 0 % 10 : Nat) : Int)] = bs [48] := one_num _ (by omega) (by omega)
   rw [es]
   refine Ev.ifp (by decide) ?_
   exact Ev.cast (dec_done n [48] (by simp) (by decide)) (by rw [Lib.decDigits_one (by omega)]; rfl)
 · have := dec_loop n n.natAbs [] (by omega) hb (by simp; omega)
   rw [List.append_nil] at this
   exact this
end Go.Proofs.YtejgfblphgcgkaaGreatDoor.P
namespace Go.Proofs.YtejgfblphgcgkaaGreatDoor.P
set_option linter.unusedVariables false
set_option linter.unusedSimpArgs false
open Go.RowKit Go.Proofs.YtejgfblphgcgkaaGreatDoorW.PrintWords
def lessX (y x : S60) : Bool := decide (y.f0 < x.f0) || (decide (y.f0 = x.f0) && Op.bytesLess y.f1.toList x.f1.toList)
theorem ltX_less (y x : S60) : ltX y x = lessX y x := by
 unfold ltX lessX orI cmpI cmpB
 by_cases h1 : y.f0 < x.f0
 · rw [if_pos h1, if_neg (by decide)]; simp [h1]
 · rw [if_neg h1]
   by_cases h2 : y.f0 > x.f0
   · rw [if_pos h2, if_neg (by decide)]
     have : ¬ y.f0 = x.f0 := by omega
     simp [h1, this]
   · rw [if_neg h2, if_pos rfl]
     have : y.f0 = x.f0 := by omega
     cases hb : Op.bytesLess y.f1.toList x.f1.toList with
     | true => simp [this]
     | false =>
      cases hc : Op.bytesLess x.f1.toList y.f1.toList with
      | true => simp [this]
      | false => simp [this]
theorem less_some (y x : S60) : payrollref32_Less.f y.f0 y.f1 y.f2 x.f0 x.f1 x.f2 = some (lessX y x) := by
 unfold payrollref32_Less.f lessX
 by_cases h1 : y.f0 < x.f0
 · rw [if_pos h1]; simp [h1]
 · rw [if_neg h1]
   by_cases h2 : y.f0 = x.f0
   · rw [if_pos h2]; simp [h2]
   · rw [if_neg h2]; simp [h1, h2]
def ordL : Option S60 → List S60 → Bool
 | _, [] => true
 | o, x :: r => FormP x.f0 x.f1 x.f2 && (match o with | none => true | some y => lessX y x) && ordL (some x) r
theorem ord_chk : ∀ (l : List S60) (o : Option S60), (ordL o l && l.all fun x => kindB x.f0) = chkL o l
 | [], o => rfl
 | x :: l, o => by
  have ih := ord_chk l (some x)
  unfold ordL chkL
  rw [← ih, List.all_cons]
  unfold goodX
  cases o with
  | none =>
   simp only [Bool.and_true]
   cases kindB x.f0 <;> cases FormP x.f0 x.f1 x.f2 <;> cases ordL (some x) l <;> simp
  | some y =>
   simp only [ltX_less]
   cases kindB x.f0 <;> cases FormP x.f0 x.f1 x.f2 <;> cases ordL (some x) l <;> cases lessX y x <;> simp
theorem ordered_loop (l : List S60) (hl : l.length ≤ 1000000) : ∀ (m i : Nat), i + m = l.length → Ev (fun k => payrollref34_Ordered.l0 k l (i : Int)) (ordL (prevO l i) (l.drop i)) := by
 intro m
 induction m with
 | zero =>
  intro i hi
  have e : l.drop i = [] := List.drop_eq_nil_of_le (by omega)
  rw [e]
  exact Ev.step (fun k => by simp only [payrollref34_Ordered.l0]; rfl) (Ev.ifn (by omega) (Ev.now _))
 | succ m ih =>
  intro i hi
  have hlt : i < l.length := by omega
  have e1 : wrap64 ((i : Int) + 1) = ((i + 1 : Nat) : Int) := by unfold wrap64; omega
  have er : rd_T60 l (i : Int) = l[i] := by
   unfold rd_T60
   rw [Int.toNat_natCast, List.getD_eq_getElem?_getD, List.getElem?_eq_getElem hlt]; rfl
  have ih := ih (i + 1) (by omega)
  have ep : prevO l (i + 1) = some l[i] := by unfold prevO; rw [if_neg (by omega)]; show some (rd_T60 l (i : Int)) = _; rw [er]
  rw [ep] at ih
  rw [List.drop_eq_getElem_cons hlt]
  have hj : ∀ b : Bool, Ev (fun k => payrollref34_Ordered.j1 k l (i : Int) b) (!b && ordL (some l[i]) (l.drop (i + 1))) := by
   intro b
   refine Ev.step (fun k => by simp only [payrollref34_Ordered.j1]; rfl) ?_
   cases b with
   | true => exact Ev.ifp (by trivial) (Ev.now _)
   | false =>
    refine Ev.ifn (by decide) ?_
    rw [e1]; exact ih
  refine Ev.step (fun k => by simp only [payrollref34_Ordered.l0]; rfl) (Ev.ifp (by omega) (Ev.ifp (by omega) ?_))
  rw [er]
  refine Ev.bind (ref34_Form_ev _ _ _) ?_
  unfold ordL
  cases hf : FormP l[i].f0 l[i].f1 l[i].f2 with
  | false => exact Ev.ifn (by decide) ((hj true).cast (by simp))
  | true =>
   refine Ev.ifp (by trivial) ?_
   by_cases h0 : i = 0
   · refine Ev.ifn (by omega) ((hj false).cast ?_)
     have : prevO l i = none := by unfold prevO; rw [if_pos h0]
     rw [this]; simp
   · have e2 : wrap64 ((i : Int) - 1) = ((i - 1 : Nat) : Int) := by unfold wrap64; omega
     have ho : prevO l i = some (rd_T60 l ((i - 1 : Nat) : Int)) := by unfold prevO; rw [if_neg h0]
     refine Ev.ifp (by omega) ?_
     rw [e2]
     refine Ev.ifp (by omega) (Ev.ifp (by omega) (Ev.bindc (less_some _ _) ((hj _).cast ?_)))
     rw [ho]; simp
theorem payrollref34_Ordered_ev (l : List S60) (hl : l.length ≤ 1000000) : Ev (fun k => payrollref34_Ordered.f k l) (ordL none l) := by
 unfold payrollref34_Ordered.f
 exact ordered_loop l hl l.length 0 (by omega)
theorem filed_some (k : Int) : payrollref38_Filed.f k = some (kindB k) := by
 unfold payrollref38_Filed.f kindB
 by_cases h4 : k = 4
 · rw [if_pos h4]; simp [h4]
 · rw [if_neg h4]
   by_cases h5 : k = 5
   · rw [if_pos h5]; simp [h5]
   · rw [if_neg h5]
     have : (k == 6) = decide (k = 6) := by by_cases h : k = 6 <;> simp [h]
     simp [h4, h5, this]
theorem filed_loop (l : List S60) (hl : l.length ≤ 1000000) : ∀ (m i : Nat), i + m = l.length → Ev (fun k => payrollref38_Form.l0 k l (i : Int)) ((l.drop i).all fun x => kindB x.f0) := by
 intro m
 induction m with
 | zero =>
  intro i hi
  have e : l.drop i = [] := List.drop_eq_nil_of_le (by omega)
  rw [e]
  exact Ev.step (fun k => by simp only [payrollref38_Form.l0]; rfl) (Ev.ifn (by omega) (Ev.now _))
 | succ m ih =>
  intro i hi
  have hlt : i < l.length := by omega
  have e1 : wrap64 ((i : Int) + 1) = ((i + 1 : Nat) : Int) := by unfold wrap64; omega
  have er : rd_T60 l (i : Int) = l[i] := by
   unfold rd_T60
   rw [Int.toNat_natCast, List.getD_eq_getElem?_getD, List.getElem?_eq_getElem hlt]; rfl
  have ih := ih (i + 1) (by omega)
  rw [List.drop_eq_getElem_cons hlt, List.all_cons]
  refine Ev.step (fun k => by simp only [payrollref38_Form.l0]; rfl) (Ev.ifp (by omega) (Ev.ifp (by omega) ?_))
  rw [er]
  refine Ev.bindc (filed_some _) ?_
  cases h : kindB l[i].f0 with
  | true => refine Ev.ifp (by trivial) ?_; rw [e1, Bool.true_and]; exact ih
  | false => exact Ev.ifn (by decide) (Ev.now _)
theorem refForm_ev (l : List S60) (hl : l.length ≤ 1000000) : Ev (fun k => payrollref38_Form.f k l) (chkL none l) := by
 unfold payrollref38_Form.f
 refine Ev.bind (payrollref34_Ordered_ev l hl) ?_
 rw [← ord_chk]
 cases h : ordL none l with
 | true => exact Ev.ifp (by trivial) ((filed_loop l hl l.length 0 (by omega)).cast (by simp))
 | false => exact Ev.ifn (by decide) (Ev.now _)
theorem refValid_ev (p v : Int) (l : List S60) (hl : l.length ≤ 1000000) : Ev (fun k => payrollref43_Valid.f k p v l) (validP p v l) := by
 unfold payrollref43_Valid.f validP
 by_cases h1 : 0 ≤ p
 · rw [decide_eq_true h1]
   refine Ev.ifp (by omega) ?_
   by_cases h2 : p ≤ 84005
   · rw [decide_eq_true h2]
     refine Ev.ifp h2 ?_
     by_cases h3 : 1 ≤ v
     · rw [decide_eq_true h3]
       refine Ev.ifp (by omega) ?_
       by_cases h4 : v ≤ 65536
       · rw [decide_eq_true h4]
         refine Ev.ifp h4 ?_
         by_cases h5 : l.length ≤ 256
         · rw [decide_eq_true h5]
           exact Ev.ifp (by omega) (Ev.bind (refForm_ev l hl) ((Ev.now _).cast (by simp)))
         · rw [decide_eq_false h5]
           exact Ev.ifn (by omega) ((Ev.now _).cast (by simp))
       · rw [decide_eq_false h4]
         exact Ev.ifn h4 ((Ev.now _).cast (by simp))
     · rw [decide_eq_false h3]
       exact Ev.ifn (by omega) ((Ev.now _).cast (by simp))
   · rw [decide_eq_false h2]
     exact Ev.ifn h2 ((Ev.now _).cast (by simp))
 · rw [decide_eq_false h1]
   exact Ev.ifn (by omega) ((Ev.now _).cast (by simp))
theorem decimal_ev {n : Int} (h0 : -9223372036854775808 ≤ n) (h1 : n ≤ 9223372036854775807) : Ev (fun k => payrollref1_Decimal.f k n) (itoaB n) := ref1_Decimal_ev ⟨h0, h1⟩
theorem word_ref {x : S60} (h : goodX x = true) : payrollref34_Word.f x.f0 = some (wordB x.f0) := by
 rcases (goodX_form h).1 with e | e | e <;> (rw [e]; decide +kernel)
theorem bytes_size (b : ByteArray) : b.size = b.data.toList.length := rfl
theorem text_ev {x : S60} (h : goodX x = true) : Ev (fun k => payrollref34_Text.f k x.f0 x.f1 x.f2) ⟨(lineL x).toArray⟩ := by
 obtain ⟨hw, -, -, h8⟩ := word_list h
 obtain ⟨hk, b1, b2, h6, hn⟩ := goodX_form h
 have hd := decimal_ev (n := x.f2) (by omega) (by omega)
 have hi : (itoaB x.f2).size ≤ 14 := by rw [bytes_size, itoaB_list]; exact itoa_len b1 b2
 have hws : (wordB x.f0).size ≤ 8 := h8
 have z1 : (⟨#[32]⟩ : ByteArray).size = 1 := rfl
 have hL := line_split x
 unfold payrollref34_Text.f
 refine Ev.bindc (bare_eq _) ?_
 by_cases e : x.f0 = 6
 · have hb : bareB x.f0 = true := by rw [e]; decide
   refine Ev.ifp hb (Ev.bindc (word_ref h) (Ev.ifp (by omega) (Ev.bind hd (Ev.ifp (by rw [ByteArray.size_append, z1]; omega) (Ev.ifp (by rw [ByteArray.size_append, ByteArray.size_append, z1]; omega) ((Ev.now _).cast ?_))))))
   apply ByteArray.ext
   apply Array.toList_inj.1
   rw [hL]
   unfold line0
   rw [h6 e, code_nil]
   simp [ByteArray.data_append, itoaB_list]
 · have hb : bareB x.f0 = false := by unfold bareB; simp; omega
   have hnm := name_sep (hn e)
   have hcs : x.f1.size ≤ 24 := hnm.2.2.2
   refine Ev.ifn (by rw [hb]; decide) (Ev.bindc (word_ref h) (Ev.ifp (by omega) (Ev.ifp (by rw [ByteArray.size_append, z1]; omega) (Ev.ifp (by rw [ByteArray.size_append, ByteArray.size_append, z1]; omega) (Ev.bind hd (Ev.ifp (by rw [ByteArray.size_append, ByteArray.size_append, ByteArray.size_append, z1]; omega) (Ev.ifp (by rw [ByteArray.size_append, ByteArray.size_append, ByteArray.size_append, ByteArray.size_append, z1]; omega) ((Ev.now _).cast ?_))))))))
   apply ByteArray.ext
   apply Array.toList_inj.1
   rw [hL]
   unfold line0
   rw [code_some hnm.2.2.1]
   simp [ByteArray.data_append, itoaB_list]
theorem refEnc_loop (p v : Int) (l : List S60) (hl : l.length ≤ 256) (hg : ∀ x ∈ l, goodX x = true) (A : List UInt8) (hA : A.length ≤ 100) : ∀ (m i : Nat), i + m = l.length →
 Ev (fun k => payrollref43_Encode.l0 k ⟨(A ++ linesL (l.take i)).toArray⟩ (i : Int) p v l) (⟨(A ++ linesL l ++ [101, 110, 100, 10]).toArray⟩, 0) := by
 have hlen : ∀ i, (A ++ linesL (l.take i)).length ≤ 20000 := by
  intro i
  have h1 := linesL_le l i
  have h2 : (linesL l).length ≤ 49 * l.length := by
   unfold linesL
   rw [show lineL = (fun x => line0 x ++ [10]) from funext line_split]
   clear h1 hA
   induction l with
   | nil => simp
   | cons x l ih =>
    have h1 := line_len (hg x List.mem_cons_self)
    have h2 := ih (by simp at hl; omega) (fun y hy => hg y (List.mem_cons_of_mem _ hy))
    rw [List.flatMap_cons, List.length_append, List.length_append, List.length_singleton, List.length_cons]
    omega
  rw [List.length_append]
  have h49 : 49 * l.length ≤ 49 * 256 := Nat.mul_le_mul_left _ hl
  omega
 intro m
 induction m with
 | zero =>
  intro i hi
  have : i = l.length := by omega
  subst this
  have hs := hlen l.length
  rw [List.take_length] at hs ⊢
  have e2 : (⟨(A ++ linesL l).toArray⟩ : ByteArray).size = (A ++ linesL l).length := by simp [ByteArray.size]
  refine Ev.step (fun k => by simp only [payrollref43_Encode.l0]; rfl) (Ev.ifn (by omega) (Ev.ifp (by rw [e2]; omega) ((Ev.now _).cast ?_)))
  exact congrArg (fun z => (z, (0 : Int))) (bs_append (A ++ linesL l) [101, 110, 100, 10])
 | succ m ih =>
  intro i hi
  have hlt : i < l.length := by omega
  have e1 : wrap64 ((i : Int) + 1) = ((i + 1 : Nat) : Int) := by unfold wrap64; omega
  have er : rd_T60 l (i : Int) = l[i] := by
   unfold rd_T60
   rw [Int.toNat_natCast, List.getD_eq_getElem?_getD, List.getElem?_eq_getElem hlt]; rfl
  have hgi := hg l[i] (List.getElem_mem hlt)
  have hs := hlen i
  have h48 := line_len hgi
  have hll : (lineL l[i]).length ≤ 49 := by rw [line_split, List.length_append, List.length_singleton]; omega
  have e2 : (⟨(A ++ linesL (l.take i)).toArray⟩ : ByteArray).size = (A ++ linesL (l.take i)).length := by simp [ByteArray.size]
  have e3 : (⟨(lineL l[i]).toArray⟩ : ByteArray).size = (lineL l[i]).length := by simp [ByteArray.size]
  refine Ev.step (fun k => by simp only [payrollref43_Encode.l0]; rfl) (Ev.ifp (by omega) (Ev.ifp (by omega) ?_))
  rw [er]
  refine Ev.bind (text_ev hgi) (Ev.ifp (by rw [e2, e3]; omega) ?_)
  have := ih (i + 1) (by omega)
  rw [linesL_take l i hlt, er, ← List.append_assoc] at this
  rw [e1, show (⟨(A ++ linesL (l.take i)).toArray⟩ : ByteArray) ++ ⟨(lineL l[i]).toArray⟩ = ⟨(A ++ linesL (l.take i) ++ lineL l[i]).toArray⟩ from bs_append _ _]
  exact this
theorem refEncode_ev {p v : Int} {l : List S60} (hl : l.length ≤ 1000000) : Ev (fun k => payrollref43_Encode.f k p v l) (if validP p v l = true then (encB p v l, 0) else (⟨#[]⟩, 1)) := by
 unfold payrollref43_Encode.f
 refine Ev.bind (refValid_ev p v l hl) ?_
 by_cases h : validP p v l = true
 · obtain ⟨h1, h2, h3, h4, h5, h6⟩ := valid_parts h
   have d1 := decimal_ev (n := p) (by omega) (by omega)
   have d2 := decimal_ev (n := v) (by omega) (by omega)
   have i1 : (itoaB p).size ≤ 14 := by rw [bytes_size, itoaB_list]; exact itoa_len (by omega) (by omega)
   have i2 : (itoaB v).size ≤ 14 := by rw [bytes_size, itoaB_list]; exact itoa_len (by omega) (by omega)
   have z7 : (⟨#[114, 101, 116, 117, 114, 110, 32]⟩ : ByteArray).size = 7 := rfl
   have z9 : (⟨#[32, 118, 101, 114, 115, 105, 111, 110, 32]⟩ : ByteArray).size = 9 := rfl
   have hh : (⟨#[114, 101, 116, 117, 114, 110, 32]⟩ : ByteArray) ++ itoaB p ++ ⟨#[32, 118, 101, 114, 115, 105, 111, 110, 32]⟩ ++ itoaB v ++ ⟨#[10]⟩ = ⟨((hdrB p v).data.toList ++ linesL (l.take 0)).toArray⟩ := by
    apply ByteArray.ext
    apply Array.toList_inj.1
    unfold hdrB linesL
    simp
   have hA : (hdrB p v).data.toList.length ≤ 100 := by
    show (hdrB p v).size ≤ 100
    rw [hdr_size]; omega
   refine Ev.ifp h (Ev.bind d1 (Ev.ifp (by omega) (Ev.ifp (by rw [ByteArray.size_append, z7]; omega) (Ev.bind d2 (Ev.ifp (by rw [ByteArray.size_append, ByteArray.size_append, z7, z9]; omega) (Ev.ifp (by rw [ByteArray.size_append, ByteArray.size_append, ByteArray.size_append, z7, z9]; omega) ?_))))))
   rw [hh]
   refine (refEnc_loop p v l h5 h6 _ hA l.length 0 (by omega)).cast ?_
   rw [if_pos h]
   first | (unfold encB encL endB; done) | (unfold encB encL endB; rfl) | rfl
 · exact Ev.ifn h ((Ev.now _).cast (by rw [if_neg h]))
end Go.Proofs.YtejgfblphgcgkaaGreatDoor.P
