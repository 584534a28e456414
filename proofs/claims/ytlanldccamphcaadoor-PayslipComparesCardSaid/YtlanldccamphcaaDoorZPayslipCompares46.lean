/- Texts for the law PayslipCompares (kept out of a larger one). -/
import Derived.Test.YtlanldccamphcaaDoorZPayslipCompares13
import Derived.Test.YtlanldccamphcaaDoorZPayslipCompares41
import Derived.Test.YtlanldccamphcaaDoorZPayslipCompares17
import Derived.Test.YtlanldccamphcaaDoorZPayslipCompares37
import Derived.Test.YtlanldccamphcaaDoorZPayslipCompares39
import Derived.Test.YtlanldccamphcaaDoorZPayslipCompares40
import Derived.Test.YtlanldccamphcaaDoorZPayslipCompares42
import Derived.Test.YtlanldccamphcaaDoorZPayslipCompares34
import Derived.Test.YtlanldccamphcaaDoorZPayslipCompares45
import Derived.Test.YtlanldccamphcaaDoorZPayslipCompares35
import Derived.Test.YtlanldccamphcaaDoorZPayslipCompares15
import Derived.Test.YtlanldccamphcaaDoorZPayslipCompares31
import Derived.WalkKit
namespace Go.Proofs.YtlanldccamphcaaDoor.P
set_option linter.unusedVariables false
set_option linter.unusedSimpArgs false
open Go.RowKit Go.Proofs.YtlanldccamphcaaDoorW.PrintWords
theorem rd_at (l : List S23) (i : Nat) (h : i < l.length) : rd_T23 l (i : Int) = l[i] := by
  unfold rd_T23
  rw [Int.toNat_natCast, List.getD_eq_getElem?_getD, List.getElem?_eq_getElem h]; rfl
theorem less_eq (x : S23) (a : Int) (b : ByteArray) (c : Int) : payrollref32_Less.f x.f0 x.f1 x.f2 a b c = some (decide (keyLt x ⟨a, b, c⟩)) := by
  unfold payrollref32_Less.f keyLt
  rw [Go.Proofs.bytesLess_eq, Lib.toList_data, Lib.toList_data]
  by_cases h1 : x.f0 < a
  · rw [if_pos h1]; simp [h1]
  · rw [if_neg h1]
    by_cases h2 : x.f0 = a
    · rw [if_pos h2]; simp [h2]
    · rw [if_neg h2]; simp [h1, h2]
theorem put_loop (x : S23) (l : List S23) (hl : l.length ≤ 1000000) : ∀ (m i : Nat) (out : List S23), i + m = l.length → out.length = i →
    Ev (fun k => payrollref34_put.l0 k l out (i : Int) x.f0 x.f1 x.f2) (out ++ putS (l.drop i) x) := by
  intro m
  induction m with
  | zero =>
    intro i out hi ho
    have e : l.drop i = [] := List.drop_eq_nil_of_le (by omega)
    rw [e]
    refine Ev.step (fun k => by simp only [payrollref34_put.l0]; rfl) (Ev.ifn (by omega) ?_)
    refine Ev.step (fun k => by simp only [payrollref34_put.j1]; rfl) (Ev.ifn (by omega) ?_)
    refine Ev.step (fun k => by simp only [payrollref34_put.j2]; rfl) (Ev.ifn (by decide) (Ev.ifp (by omega) ?_))
    refine Ev.bindc rfl (Ev.ifp (by omega) (Ev.ifp (by omega) (Ev.bindc rfl (Ev.ifp ?_ ((Ev.now _).cast ?_)))))
    · rw [List.length_append, List.length_drop]; simp; omega
    · rw [Int.toNat_natCast, e]; simp [putS]
  | succ m ih =>
    intro i out hi ho
    have hlt : i < l.length := by omega
    have e1 : wrap64 ((i : Int) + 1) = ((i + 1 : Nat) : Int) := by unfold wrap64; omega
    rw [List.drop_eq_getElem_cons hlt]
    refine Ev.step (fun k => by simp only [payrollref34_put.l0]; rfl) (Ev.ifp (by omega) (Ev.ifp (by omega) ?_))
    rw [rd_at l i hlt]
    refine Ev.bindc (less_eq l[i] x.f0 x.f1 x.f2) ?_
    by_cases c : keyLt l[i] x
    · refine Ev.ifp (decide_eq_true c) (Ev.ifp (by omega) ?_)
      have e2 : putS (l[i] :: l.drop (i + 1)) x = l[i] :: putS (l.drop (i + 1)) x := by
        show (if keyLt l[i] x then l[i] :: putS (l.drop (i + 1)) x else _) = _
        rw [if_pos c]
      rw [e1, e2]
      refine (ih (i + 1) (out ++ [l[i]]) (by omega) (by rw [List.length_append, ho]; rfl)).cast ?_
      rw [List.append_assoc]; rfl
    · refine Ev.ifn (by simpa using c) ?_
      by_cases q : keyEq l[i] x
      · have e2 : putS (l[i] :: l.drop (i + 1)) x = ⟨x.f0, x.f1, wrap64 (x.f2 + l[i].f2)⟩ :: l.drop (i + 1) := by
          show (if keyLt l[i] x then _ else if keyEq l[i] x then _ else _) = _
          rw [if_neg c, if_pos q]
        rw [e2]
        refine Ev.step (fun k => by simp only [payrollref34_put.j1]; rfl) (Ev.ifp (by omega) (Ev.ifp (by omega) ?_))
        rw [rd_at l i hlt]
        refine Ev.ifp q.1 ?_
        have e3 : (l[i].f1.toList == x.f1.toList) = true := by rw [Lib.toList_data, Lib.toList_data, q.2]; simp
        rw [e3]
        refine Ev.step (fun k => by simp only [payrollref34_put.j2]; rfl) (Ev.ifp (by first | rfl | trivial) (Ev.ifp (by omega) (Ev.ifp (by omega) (Ev.ifp (by omega) ?_))))
        rw [rd_at l i hlt, e1]
        refine Ev.bindc rfl (Ev.ifp (by omega) (Ev.ifp (by omega) (Ev.bindc rfl (Ev.ifp ?_ ((Ev.now _).cast ?_)))))
        · rw [List.length_append, List.length_drop]; simp; omega
        · rw [Int.toNat_natCast, List.append_assoc]; rfl
      · have e2 : putS (l[i] :: l.drop (i + 1)) x = x :: l[i] :: l.drop (i + 1) := by
          show (if keyLt l[i] x then _ else if keyEq l[i] x then _ else _) = _
          rw [if_neg c, if_neg q]
        rw [e2]
        have tail : Ev (fun k => payrollref34_put.j2 k l out (i : Int) false x.f0 x.f1 x.f2) (out ++ x :: l[i] :: l.drop (i + 1)) := by
          refine Ev.step (fun k => by simp only [payrollref34_put.j2]; rfl) (Ev.ifn (by decide) (Ev.ifp (by omega) ?_))
          refine Ev.bindc rfl (Ev.ifp (by omega) (Ev.ifp (by omega) (Ev.bindc rfl (Ev.ifp ?_ ((Ev.now _).cast ?_)))))
          · rw [List.length_append, List.length_drop]; simp; omega
          · rw [Int.toNat_natCast, List.append_assoc, List.drop_eq_getElem_cons hlt]; rfl
        refine Ev.step (fun k => by simp only [payrollref34_put.j1]; rfl) (Ev.ifp (by omega) (Ev.ifp (by omega) ?_))
        rw [rd_at l i hlt]
        by_cases q0 : l[i].f0 = x.f0
        · refine Ev.ifp q0 ?_
          have e3 : (l[i].f1.toList == x.f1.toList) = false := by
            rw [Lib.toList_data, Lib.toList_data]
            simp only [beq_eq_false_iff_ne]
            exact fun e => q ⟨q0, e⟩
          rw [e3]; exact tail
        · exact Ev.ifn q0 tail
theorem put_ev (x : S23) (l : List S23) (hl : l.length ≤ 1000000) : Ev (fun k => payrollref34_put.f k l x.f0 x.f1 x.f2) (putS l x) := by
  unfold payrollref34_put.f
  exact (put_loop x l hl l.length 0 [] (by omega) rfl).cast (by simp)
theorem trim_loop (l : List S23) (hl : l.length ≤ 1000000) : ∀ (m i : Nat) (out : List S23), i + m = l.length → out.length ≤ i →
    Ev (fun k => payrollref34_trim.l0 k l out (i : Int)) (if allT (l.drop i) = true then (out ++ dropZ (l.drop i), true) else ([], false)) := by
  intro m
  induction m with
  | zero =>
    intro i out hi ho
    have e : l.drop i = [] := List.drop_eq_nil_of_le (by omega)
    rw [e]
    refine Ev.step (fun k => by simp only [payrollref34_trim.l0]; rfl) (Ev.ifn (by omega) ((Ev.now _).cast ?_))
    simp [allT, dropZ]
  | succ m ih =>
    intro i out hi ho
    have hlt : i < l.length := by omega
    have e1 : wrap64 ((i : Int) + 1) = ((i + 1 : Nat) : Int) := by unfold wrap64; omega
    rw [List.drop_eq_getElem_cons hlt]
    refine Ev.step (fun k => by simp only [payrollref34_trim.l0]; rfl) (Ev.ifp (by omega) (Ev.ifp (by omega) ?_))
    rw [rd_at l i hlt]
    have bad : Ev (fun k => payrollref34_trim.j1 k l out (i : Int) true) ([], false) := Ev.step (fun k => by simp only [payrollref34_trim.j1]; rfl) (Ev.ifp (by first | rfl | trivial) (Ev.now _))
    have ea : allT (l[i] :: l.drop (i + 1)) = (totalB l[i].f2 && allT (l.drop (i + 1))) := rfl
    by_cases c1 : l[i].f2 < -1000000000000
    · refine Ev.ifp c1 (bad.cast ?_)
      rw [ea, if_neg]
      unfold totalB; rw [decide_eq_false (show ¬ -1000000000000 ≤ l[i].f2 by omega)]; simp
    · refine Ev.ifn c1 ?_
      by_cases c2 : l[i].f2 > 1000000000000
      · rw [decide_eq_true c2]
        refine bad.cast ?_
        rw [ea, if_neg]
        unfold totalB; rw [decide_eq_false (show ¬ l[i].f2 ≤ 1000000000000 by omega)]; simp
      · rw [decide_eq_false c2]
        have et : totalB l[i].f2 = true := by unfold totalB; rw [decide_eq_true (show -1000000000000 ≤ l[i].f2 by omega), decide_eq_true (show l[i].f2 ≤ 1000000000000 by omega)]; rfl
        rw [ea, et, Bool.true_and]
        refine Ev.step (fun k => by simp only [payrollref34_trim.j1]; rfl) (Ev.ifn (by decide) (Ev.ifp (by omega) (Ev.ifp (by omega) ?_)))
        rw [rd_at l i hlt, e1]
        by_cases c3 : l[i].f2 = 0
        · refine Ev.ifp c3 ((ih (i + 1) out (by omega) (by omega)).cast ?_)
          have : dropZ (l[i] :: l.drop (i + 1)) = dropZ (l.drop (i + 1)) := by unfold dropZ; rw [List.filter_cons]; simp [c3]
          rw [this]
        · refine Ev.ifn c3 (Ev.ifp (by omega) ((ih (i + 1) (out ++ [l[i]]) (by omega) (by rw [List.length_append]; simp; omega)).cast ?_))
          have : dropZ (l[i] :: l.drop (i + 1)) = l[i] :: dropZ (l.drop (i + 1)) := by unfold dropZ; rw [List.filter_cons]; simp [c3]
          rw [this, List.append_assoc]; rfl
theorem trim_ev (l : List S23) (hl : l.length ≤ 1000000) : Ev (fun k => payrollref34_trim.f k l) (if allT l = true then (dropZ l, true) else ([], false)) := by
  unfold payrollref34_trim.f
  exact (trim_loop l hl l.length 0 [] (by omega) (by simp)).cast (by simp)
theorem putS_len (S : List S23) (x : S23) : (putS S x).length ≤ S.length + 1 := by
  induction S with
  | nil => simp [putS]
  | cons y r ih =>
    unfold putS
    split
    · simp; omega
    · split <;> simp
theorem foldl_putS_len (l S : List S23) : (l.foldl putS S).length ≤ S.length + l.length := by
  induction l generalizing S with
  | nil => simp
  | cons x l ih =>
    have := ih (putS S x)
    have h2 := putS_len S x
    rw [List.foldl_cons, List.length_cons]; omega
theorem sumS_len (l : List S23) : (sumS l).length ≤ l.length := by have := foldl_putS_len l []; simpa [sumS] using this
def allForm (l : List S23) : Bool := l.all fun x => formP x.f0 x.f1 x.f2
theorem formsB_ev (l : List S23) : Ev (fun k => formsB k l) (allForm l) := by
  induction l with
  | nil => exact Ev.now _
  | cons x r ih =>
    show Ev (fun k => (payslip_form.f k x.f0 x.f1 x.f2).bind fun b => if b = true then formsB k r else some false) (formP x.f0 x.f1 x.f2 && allForm r)
    refine Ev.bind (payslip_form_ev _ _ _) ?_
    cases h : formP x.f0 x.f1 x.f2 with
    | true => exact Ev.ifp (by first | rfl | trivial) (ih.cast (by simp))
    | false => exact Ev.ifn (by decide) (Ev.now _)
def codeP (l : List S23) : Int := if (l.length : Int) > 65536 then 3 else if allForm l = true then (if allT (sumS l) = true then 0 else 4) else 1
theorem codeS_ev (l : List S23) : Ev (fun k => codeS k l) (codeP l) := by
  unfold codeS codeP
  refine Ev.ite (fun _ => Ev.now _) (fun _ => Ev.bind (formsB_ev l) ?_)
  exact Ev.ite (fun _ => Ev.ite (fun _ => Ev.now _) (fun _ => Ev.now _)) (fun _ => Ev.now _)
def mergeP (l : List S23) : List S23 × Int := if codeP l = 0 then (dropZ (sumS l), 0) else ([], codeP l)
def compareP (a b : List S23) : List S23 × Int := if codeP a = 0 then (if codeP b = 0 then (if allT (cmpS a b) = true then (dropZ (cmpS a b), 0) else ([], 4)) else ([], codeP b)) else ([], codeP a)
theorem payslip_Compare_ev (a b : List S23) : Ev (fun k => payslip_Compare.f k a b) (compareP a b) := by
  unfold payslip_Compare.f compareP
  refine Ev.bind (codeS_ev a) (Ev.ite (fun _ => Ev.bind (codeS_ev b) ?_) (fun _ => Ev.now _))
  exact Ev.ite (fun _ => Ev.ite (fun _ => Ev.now _) (fun _ => Ev.now _)) (fun _ => Ev.now _)
theorem ref_merge_loop (l : List S23) (hl : l.length ≤ 65536) : ∀ (m i : Nat) (S : List S23), i + m = l.length → S.length ≤ i →
    Ev (fun k => payrollref34_Merge.l0 k l S (i : Int)) (if allForm (l.drop i) = true then (if allT ((l.drop i).foldl putS S) = true then (dropZ ((l.drop i).foldl putS S), 0) else ([], 4)) else ([], 1)) := by
  intro m
  induction m with
  | zero =>
    intro i S hi hS
    have e : l.drop i = [] := List.drop_eq_nil_of_le (by omega)
    rw [e]
    refine Ev.step (fun k => by simp only [payrollref34_Merge.l0]; rfl) (Ev.ifn (by omega) (Ev.bind (trim_ev S (by omega)) ?_))
    show Ev _ (if true = true then (if allT S = true then (dropZ S, 0) else ([], 4)) else ([], 1))
    rw [if_pos rfl]
    by_cases h : allT S = true
    · rw [if_pos h, if_pos h]; exact Ev.ifp (by first | rfl | trivial) (Ev.now _)
    · rw [if_neg h, if_neg h]; exact Ev.ifn (by decide) (Ev.now _)
  | succ m ih =>
    intro i S hi hS
    have hlt : i < l.length := by omega
    have e1 : wrap64 ((i : Int) + 1) = ((i + 1 : Nat) : Int) := by unfold wrap64; omega
    rw [List.drop_eq_getElem_cons hlt]
    refine Ev.step (fun k => by simp only [payrollref34_Merge.l0]; rfl) (Ev.ifp (by omega) (Ev.ifp (by omega) ?_))
    rw [rd_at l i hlt]
    refine Ev.bind (ref32_Form_ev _ _ _) ?_
    have ea : allForm (l[i] :: l.drop (i + 1)) = (formP l[i].f0 l[i].f1 l[i].f2 && allForm (l.drop (i + 1))) := rfl
    rw [ea]
    cases hf : formP l[i].f0 l[i].f1 l[i].f2 with
    | false => exact Ev.ifn (by decide) (Ev.now _)
    | true =>
      refine Ev.ifp (by first | rfl | trivial) (Ev.bind (put_ev l[i] S (by omega)) ?_)
      rw [e1, Bool.true_and]
      have := putS_len S l[i]
      exact ih (i + 1) (putS S l[i]) (by omega) (by omega)
theorem ref_Merge_ev (l : List S23) : Ev (fun k => payrollref34_Merge.f k l) (mergeP l) := by
  unfold payrollref34_Merge.f mergeP codeP
  by_cases h : (l.length : Int) > 65536
  · rw [if_pos h]; exact Ev.ifp h (Ev.now _)
  · rw [if_neg h]
    refine Ev.ifn h ((ref_merge_loop l (by omega) l.length 0 [] (by omega) (by simp)).cast ?_)
    rw [List.drop_zero]
    show (if allForm l = true then (if allT (sumS l) = true then (dropZ (sumS l), 0) else ([], 4)) else ([], 1)) = _
    by_cases hf : allForm l = true
    · rw [if_pos hf, if_pos hf]
      by_cases ht : allT (sumS l) = true
      · rw [if_pos ht, if_pos ht]; rfl
      · rw [if_neg ht, if_neg ht]; rfl
    · rw [if_neg hf, if_neg hf]; rfl
theorem formP_fine {x : S23} (h : formP x.f0 x.f1 x.f2 = true) : fineX x := by
  obtain ⟨k, hk⟩ := payslip_form_ev x.f0 x.f1 x.f2
  exact form_fine ((hk k (Nat.le_refl _)).trans (by rw [h]))
theorem allForm_fine {l : List S23} (h : allForm l = true) : ∀ x ∈ l, fineX x := fun x hx => formP_fine (List.all_eq_true.1 h x hx)
theorem code_zero {l : List S23} (h : codeP l = 0) : l.length ≤ 65536 ∧ allForm l = true ∧ allT (sumS l) = true := by
  unfold codeP at h
  split at h
  · cases h
  · split at h
    · split at h
      · exact ⟨by omega, by assumption, by assumption⟩
      · cases h
    · cases h
theorem ref_cmp_loop (A : List S23) (hl : A.length ≤ 65536) : ∀ (m i : Nat) (S : List S23), i + m = A.length → S.length ≤ 65536 + i →
    Ev (fun k => payrollref34_Compare.l0 k A S (i : Int)) (if allT ((A.drop i).foldl (fun S x => putS S (negX x)) S) = true then (dropZ ((A.drop i).foldl (fun S x => putS S (negX x)) S), 0) else ([], 4)) := by
  intro m
  induction m with
  | zero =>
    intro i S hi hS
    have e : A.drop i = [] := List.drop_eq_nil_of_le (by omega)
    rw [e]
    refine Ev.step (fun k => by simp only [payrollref34_Compare.l0]; rfl) (Ev.ifn (by omega) (Ev.bind (trim_ev S (by omega)) ?_))
    show Ev _ (if allT S = true then (dropZ S, 0) else ([], 4))
    by_cases h : allT S = true
    · rw [if_pos h, if_pos h]; exact Ev.ifp (by first | rfl | trivial) (Ev.now _)
    · rw [if_neg h, if_neg h]; exact Ev.ifn (by decide) (Ev.now _)
  | succ m ih =>
    intro i S hi hS
    have hlt : i < A.length := by omega
    have e1 : wrap64 ((i : Int) + 1) = ((i + 1 : Nat) : Int) := by unfold wrap64; omega
    rw [List.drop_eq_getElem_cons hlt]
    refine Ev.step (fun k => by simp only [payrollref34_Compare.l0]; rfl) (Ev.ifp (by omega) (Ev.ifp (by omega) ?_))
    rw [rd_at A i hlt, e1]
    refine Ev.bind (put_ev (negX A[i]) S (by omega)) ?_
    have := putS_len S (negX A[i])
    exact ih (i + 1) (putS S (negX A[i])) (by omega) (by omega)
theorem dropZ_len (S : List S23) : (dropZ S).length ≤ S.length := List.length_filter_le _ _
theorem cmp_trim {a b : List S23} (ha : codeP a = 0) (hb : codeP b = 0) :
    let T := (dropZ (sumS a)).foldl (fun S x => putS S (negX x)) (dropZ (sumS b))
    allT T = allT (cmpS a b) ∧ dropZ T = dropZ (cmpS a b) := by
  intro T
  obtain ⟨_, fa, ta⟩ := code_zero ha
  obtain ⟨_, fb, tb⟩ := code_zero hb
  have ra := rel_sums a (allForm_fine fa)
  have rb := rel_sums b (allForm_fine fb)
  have tot : ∀ S : List S23, S.Pairwise keyLt → allT S = true → allT (dropZ S) = true := fun S hS h => by
    rw [allT_valS (sorted_dropZ hS)]
    intro z; rw [valS_dropZ hS]; exact (allT_valS hS).1 h z
  obtain ⟨h1, h2, h3⟩ := fold_neg (dropZ (sumS a)) (dropZ (sumS b)) (sorted_dropZ ra.sorted) (sorted_dropZ rb.sorted) (fun x hx => fine_of_all ra.ok ta x (mem_dropZ.1 hx).1) ((allT_valS (sorted_dropZ rb.sorted)).1 (tot _ rb.sorted tb))
  obtain ⟨g1, g2, g3⟩ := fold_neg (sumS a) (sumS b) ra.sorted rb.sorted (fine_of_all ra.ok ta) ((allT_valS rb.sorted).1 tb)
  have hv : ∀ z, valS T z = valS (cmpS a b) z := by
    intro z
    show valS ((dropZ (sumS a)).foldl (fun S x => putS S (negX x)) (dropZ (sumS b))) z = valS ((sumS a).foldl (fun S x => putS S (negX x)) (sumS b)) z
    rw [h3 z, g3 z, valS_dropZ rb.sorted, valS_dropZ ra.sorted]
    have hb1 := (allT_valS rb.sorted).1 tb z
    unfold totalB at hb1
    simp only [Bool.and_eq_true, decide_eq_true_eq] at hb1
    have hz : ∀ S : List S23, (look S z).isSome = false → valS S z = 0 := fun S h => by
      unfold valS
      cases hl : look S z with
      | none => rfl
      | some n => rw [hl] at h; cases h
    by_cases s1 : (look (dropZ (sumS a)) z).isSome = true
    · rw [if_pos s1]
      by_cases s2 : (look (sumS a) z).isSome = true
      · rw [if_pos s2]
      · rw [if_neg s2, hz (sumS a) (by simpa using s2)]
        unfold wrap64; omega
    · rw [if_neg s1]
      have := hz (dropZ (sumS a)) (by simpa using s1)
      rw [valS_dropZ ra.sorted] at this
      rw [this]
      by_cases s2 : (look (sumS a) z).isSome = true
      · rw [if_pos s2]; unfold wrap64; omega
      · rw [if_neg s2]
  refine ⟨?_, dropZ_ext h1 g1 hv⟩
  apply Bool.eq_iff_iff.2
  rw [allT_valS h1]
  show _ ↔ allT ((sumS a).foldl (fun S x => putS S (negX x)) (sumS b)) = true
  rw [allT_valS g1]
  exact ⟨fun h z => by show totalB (valS (cmpS a b) z) = true; rw [← hv z]; exact h z, fun h z => by rw [hv z]; exact h z⟩
theorem ref_Compare_ev (a b : List S23) : Ev (fun k => payrollref34_Compare.f k a b) (compareP a b) := by
  unfold payrollref34_Compare.f compareP
  refine Ev.bind (ref_Merge_ev a) ?_
  unfold mergeP
  by_cases ha : codeP a = 0
  · rw [if_pos ha, if_pos ha]
    refine Ev.ifp (by first | rfl | trivial) (Ev.bind (ref_Merge_ev b) ?_)
    unfold mergeP
    by_cases hb : codeP b = 0
    · rw [if_pos hb, if_pos hb]
      refine Ev.ifp (by first | rfl | trivial) ?_
      obtain ⟨la, _, _⟩ := code_zero ha
      obtain ⟨lb, _, _⟩ := code_zero hb
      have h1 := dropZ_len (sumS a)
      have h2 := sumS_len a
      have h3 := dropZ_len (sumS b)
      have h4 := sumS_len b
      obtain ⟨t1, t2⟩ := cmp_trim ha hb
      refine (ref_cmp_loop (dropZ (sumS a)) (by omega) (dropZ (sumS a)).length 0 (dropZ (sumS b)) (by omega) (by omega)).cast ?_
      rw [List.drop_zero, t1, t2]
    · rw [if_neg hb, if_neg hb]
      exact Ev.ifn hb (Ev.now _)
  · rw [if_neg ha, if_neg ha]
    exact Ev.ifn ha (Ev.now _)
theorem same_loop (l : List S23) (hl : l.length ≤ 1000000) : ∀ (m i : Nat), i + m = l.length → Ev (fun k => payrollref32_Same.l0 k l l (i : Int)) true := by
  intro m
  induction m with
  | zero => intro i hi; exact Ev.step (fun k => by simp only [payrollref32_Same.l0]; rfl) (Ev.ifn (by omega) (Ev.now _))
  | succ m ih =>
    intro i hi
    have e1 : wrap64 ((i : Int) + 1) = ((i + 1 : Nat) : Int) := by unfold wrap64; omega
    refine Ev.step (fun k => by simp only [payrollref32_Same.l0]; rfl) (Ev.ifp (by omega) (Ev.ifp (by omega) (Ev.ifp (by omega) (Ev.ifn (by simp) ?_))))
    rw [e1]; exact ih (i + 1) (by omega)
theorem Same_ev (l : List S23) (hl : l.length ≤ 1000000) : Ev (fun k => payrollref32_Same.f k l l) true := by
  unfold payrollref32_Same.f
  exact Ev.ifp (by first | rfl | trivial) (same_loop l hl l.length 0 (by omega))
theorem cmpS_len {a b : List S23} : (cmpS a b).length ≤ (sumS b).length + (sumS a).length := by
  have gen : ∀ (A S : List S23), (A.foldl (fun S x => putS S (negX x)) S).length ≤ S.length + A.length := by
    intro A
    induction A with
    | nil => intro S; simp
    | cons x A ih =>
      intro S
      have h1 := ih (putS S (negX x))
      have h2 := putS_len S (negX x)
      rw [List.foldl_cons, List.length_cons]; omega
  exact gen _ _
theorem compareP_len (a b : List S23) : (compareP a b).1.length ≤ 131072 := by
  unfold compareP
  split
  · rename_i h1
    split
    · rename_i h2
      split
      · obtain ⟨h3, _, _⟩ := code_zero h1
        obtain ⟨h4, _, _⟩ := code_zero h2
        have k1 := dropZ_len (cmpS a b)
        have k2 := cmpS_len (a := a) (b := b)
        have k3 := sumS_len a
        have k4 := sumS_len b
        show (dropZ (cmpS a b)).length ≤ _; omega
      · simp
    · simp
  · simp
end Go.Proofs.YtlanldccamphcaaDoor.P
