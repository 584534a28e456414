/- Texts for the law PayslipForms (kept out of a larger one). -/
import Derived.Test.YtlanldccamphcaaDoorZPayslipForms11
import Derived.Test.YtlanldccamphcaaDoorZPayslipForms14
import Derived.Test.YtlanldccamphcaaDoorZPayslipForms12
import Derived.Test.YtlanldccamphcaaDoorZPayslipForms28
import Derived.Test.YtlanldccamphcaaDoorZPayslipForms25
import Derived.Test.YtlanldccamphcaaDoorZPayslipForms29
import Derived.Test.YtlanldccamphcaaDoorZPayslipForms30
import Derived.Test.YtlanldccamphcaaDoorZPayslipForms26
import Derived.WalkKit
import Derived.Below
namespace Go.Proofs.YtlanldccamphcaaDoor.P
set_option linter.unusedVariables false
set_option linter.unusedSimpArgs false
open Go Go.RowKit Go.Proofs.YtlanldccamphcaaDoorW.PrintWords Go.Proofs.YtlanldccamphcaaDoorW.PrintLast Go.Proofs.YtlanldccamphcaaDoorW.PrintMore
def formsB (k : Nat) : List S23 → Option Bool
  | [] => some true
  | x :: r => (payslip_form.f k x.f0 x.f1 x.f2).bind fun b => if b = true then formsB k r else some false
def codeS (k : Nat) (l : List S23) : Option Int :=
  if (l.length : Int) > 65536 then some 3 else (formsB k l).bind fun b => if b = true then (if allT (sumS l) = true then some 0 else some 4) else some 1
theorem formsB_all {k : Nat} : ∀ {l : List S23}, formsB k l = some true → ∀ x ∈ l, payslip_form.f k x.f0 x.f1 x.f2 = some true
  | [], _, x, h => by cases h
  | y :: r, h, x, hx => by
    unfold formsB at h
    cases hf : payslip_form.f k y.f0 y.f1 y.f2 with
    | none => rw [hf] at h; cases h
    | some b =>
      rw [hf] at h
      cases b with
      | false => cases h
      | true =>
        rcases List.mem_cons.1 hx with e | hx
        · rw [e]; exact hf
        · exact formsB_all (l := r) h x hx
theorem rd_T23_cons (x : S23) (r : List S23) (j : Nat) : rd_T23 (x :: r) ((j + 1 : Nat) : Int) = rd_T23 r (j : Int) := by
  unfold rd_T23; simp only [Int.toNat_natCast, List.getD_cons_succ]
theorem formsB_bad {k : Nat} : ∀ {l : List S23}, formsB k l = some false → ∃ m, m < l.length ∧ (∀ j, j < m → payslip_form.f k (rd_T23 l (j : Int)).f0 (rd_T23 l (j : Int)).f1 (rd_T23 l (j : Int)).f2 = some true) ∧ payslip_form.f k (rd_T23 l (m : Int)).f0 (rd_T23 l (m : Int)).f1 (rd_T23 l (m : Int)).f2 = some false
  | [], h => by cases h
  | y :: r, h => by
    unfold formsB at h
    cases hf : payslip_form.f k y.f0 y.f1 y.f2 with
    | none => rw [hf] at h; cases h
    | some b =>
      rw [hf] at h
      cases b with
      | false => exact ⟨0, by simp, fun j hj => by omega, hf⟩
      | true =>
        obtain ⟨m, h1, h2, h3⟩ := formsB_bad (l := r) h
        refine ⟨m + 1, by simp; omega, fun j hj => ?_, by rw [rd_T23_cons]; exact h3⟩
        cases j with
        | zero => exact hf
        | succ j => rw [rd_T23_cons]; exact h2 j (by omega)
theorem name_size {k : Nat} {s : ByteArray} (h : token_IsName.f k s = some true) : s.size ≤ 24 := by
  unfold token_IsName.f at h
  split at h
  · cases k <;> simp [token_IsName.j0] at h
  · split at h
    · cases k <;> simp [token_IsName.j0] at h
    · omega
theorem form_fine {k : Nat} {x : S23} (h : payslip_form.f k x.f0 x.f1 x.f2 = some true) : fineX x := by
  unfold payslip_form.f at h
  have hj : ∀ b, payslip_form.j0 k b x.f0 x.f1 x.f2 = some true → b = false ∧ x.f1.size ≤ 24 := by
    intro b hb
    cases k with
    | zero => simp [payslip_form.j0] at hb
    | succ k =>
      unfold payslip_form.j0 at hb
      cases b with
      | true => simp at hb
      | false =>
        refine ⟨rfl, ?_⟩
        simp only [Bool.false_eq_true, if_false] at hb
        cases hc : payslip_coded.f x.f0 with
        | none => rw [hc] at hb; cases hb
        | some c =>
          rw [hc] at hb
          cases c with
          | true =>
            cases hn : token_IsName.f k x.f1 with
            | none => simp [hn] at hb
            | some n =>
              cases n with
              | true => exact name_size hn
              | false => simp [hn] at hb
          | false =>
            have : x.f1.toList = [] := by simpa using hb
            have h2 : x.f1.size = 0 := by rw [← data_length, ← Lib.toList_data, this]; rfl
            omega
  split at h
  · exact absurd (hj _ h).1 (by decide)
  · split at h
    · exact absurd (hj _ h).1 (by decide)
    · rw [total_eq] at h
      have h1 := hj _ h
      have h2 : totalB x.f2 = true := by simpa using h1.1
      unfold totalB at h2
      simp only [Bool.and_eq_true, decide_eq_true_eq] at h2
      refine ⟨⟨?_, by unfold maxLen; omega⟩, h2.1, h2.2⟩
      rename_i ha hb
      have e : wrap64 x.f0 = x.f0 := by unfold wrap64; omega
      rw [← e]; exact wrap64_wf _
theorem sums_err (k : Nat) (A0 : Option Addr) (c0 : Nat) (l0 : List S23) (w : World) (hr0 : Kd.C k23 w A0 l0.length l0) (c : Int) (hc : codeS k l0 = some c) (h0 : c ≠ 0) :
    Calls Tryd.prog 29 #[.slice A0 l0.length c0] w fun e w' => e = .returned (.tuple #[.map none, .int .i64 c]) ∧ Below w.heap.size w w' := by
  unfold codeS at hc
  split at hc
  · obtain rfl := Option.some.inj hc
    exact sums_long A0 c0 l0 w (by omega)
  · cases hf : formsB k l0 with
    | none => rw [hf] at hc; cases hc
    | some b =>
      rw [hf] at hc
      cases b with
      | false =>
        have hc' : (1 : Int) = c := by simpa using hc
        subst hc'
        obtain ⟨m, h1, h2, h3⟩ := formsB_bad hf
        exact sums_bad k A0 c0 l0 w hr0 m h1 h2 h3 (fun j hj => (form_fine (h2 j hj)).1) (by omega)
      | true =>
        have hall := formsB_all hf
        have hfine : ∀ x ∈ l0, fineX x := fun x hx => form_fine (hall x hx)
        have hrel := rel_sums l0 hfine
        cases ht : allT (sumS l0) with
        | true => simp [ht] at hc; exact absurd hc.symm h0
        | false =>
          have hc' : (4 : Int) = c := by simpa [ht] using hc
          subst hc'
          refine (sums_walk k A0 c0 l0 w hr0 hall (fun x hx => (hfine x hx).1) (by omega)).mono ?_
          rintro e w' ⟨hb, ⟨B, n, rfl, _, _, _, hT⟩ | ⟨rfl, _⟩⟩
          · exfalso
            have : allT (sumS l0) = true := by
              unfold allT
              rw [List.all_eq_true]
              intro x hx
              have hx1 := hrel.ok x hx
              have := hT x.f0 x.f1 hx1.1 hx1.2 (by rw [hrel.has _ _ hx1.1 hx1.2, look_congr (show keyEq (probeX x.f0 x.f1) x from ⟨rfl, rfl⟩), look_mem hrel.sorted hx]; rfl)
              rw [total_eq, hrel.num _ _ hx1.1 hx1.2, valS_congr (show keyEq (probeX x.f0 x.f1) x from ⟨rfl, rfl⟩), valS_mem hrel.sorted hx] at this
              exact Option.some.inj this
            rw [this] at ht; cases ht
          · exact ⟨rfl, hb⟩
theorem sums_ok (k : Nat) (A0 : Option Addr) (c0 : Nat) (l0 : List S23) (w : World) (hr0 : Kd.C k23 w A0 l0.length l0) (hc : codeS k l0 = some 0) :
    Calls Tryd.prog 29 #[.slice A0 l0.length c0] w fun e w' => ∃ B n, e = .returned (.tuple #[.map (some B), .int .i64 0]) ∧ w.heap.size ≤ B ∧ n ≤ 65536 ∧ OwnsS w' B n (sumsD l0) ∧ Rel (sumsD l0) (sumS l0) ∧ (∀ x ∈ l0, fineX x) ∧ allT (sumS l0) = true ∧ Below w.heap.size w w' := by
  unfold codeS at hc
  split at hc
  · cases hc
  · cases hf : formsB k l0 with
    | none => rw [hf] at hc; cases hc
    | some b =>
      rw [hf] at hc
      cases b with
      | false => simp at hc
      | true =>
        have hall := formsB_all hf
        have hfine : ∀ x ∈ l0, fineX x := fun x hx => form_fine (hall x hx)
        have hrel := rel_sums l0 hfine
        cases ht : allT (sumS l0) with
        | false => simp [ht] at hc
        | true =>
          refine (sums_walk k A0 c0 l0 w hr0 hall (fun x hx => (hfine x hx).1) (by omega)).mono ?_
          rintro e w' ⟨hb, ⟨B, n, rfl, h1, h2, h3, _⟩ | ⟨rfl, kk, cc, h1, h2, h3, h4⟩⟩
          · exact ⟨B, n, rfl, h1, h2, h3, hrel, hfine, rfl, hb⟩
          · exfalso
            rw [total_eq, hrel.num _ _ h1 h2] at h4
            have := (allT_valS hrel.sorted).1 ht (probeX kk cc)
            rw [this] at h4; cases h4
end Go.Proofs.YtlanldccamphcaaDoor.P
