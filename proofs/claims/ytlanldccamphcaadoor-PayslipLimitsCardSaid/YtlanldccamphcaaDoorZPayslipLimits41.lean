/- Texts for the law PayslipLimits (kept out of a larger one). -/
import Derived.Test.YtlanldccamphcaaDoorZPayslipLimits11
import Derived.Test.YtlanldccamphcaaDoorZPayslipLimits34
import Derived.Test.YtlanldccamphcaaDoorZPayslipLimits33
import Derived.Test.YtlanldccamphcaaDoorZPayslipLimits36
import Derived.Test.YtlanldccamphcaaDoorZPayslipLimits35
import Derived.Test.YtlanldccamphcaaDoorZPayslipLimits32
import Derived.Test.YtlanldccamphcaaDoorZPayslipLimits12
import Derived.Test.YtlanldccamphcaaDoorZPayslipLimits39
import Derived.Test.YtlanldccamphcaaDoorZPayslipLimits28
import Derived.Test.YtlanldccamphcaaDoorZPayslipLimits40
import Derived.WalkKit
namespace Go.Proofs.YtlanldccamphcaaDoor.P
set_option linter.unusedVariables false
set_option linter.unusedSimpArgs false
open Go.RowKit Go.Proofs.YtlanldccamphcaaDoorW.PrintWords
def taxX : S23 := ⟨6, ⟨#[]⟩, 1⟩
theorem sum_tax : ∀ n : Nat, n ≤ 1000000 → sumS (List.replicate (n + 1) taxX) = [⟨6, ⟨#[]⟩, ((n + 1 : Nat) : Int)⟩]
  | 0, _ => rfl
  | n + 1, h => by
    have ih := sum_tax n (by omega)
    have e : List.replicate (n + 1 + 1) taxX = List.replicate (n + 1) taxX ++ [taxX] := by rw [List.replicate_succ']
    unfold sumS at ih ⊢
    rw [e, List.foldl_append, ih]
    show putS [⟨6, ⟨#[]⟩, ((n + 1 : Nat) : Int)⟩] taxX = _
    unfold putS
    rw [if_neg (show ¬ keyLt (⟨6, ⟨#[]⟩, ((n + 1 : Nat) : Int)⟩ : S23) taxX from fun h => h.irrefl ⟨rfl, rfl⟩), if_pos (show keyEq (⟨6, ⟨#[]⟩, ((n + 1 : Nat) : Int)⟩ : S23) taxX from ⟨rfl, rfl⟩)]
    have : wrap64 (1 + ((n + 1 : Nat) : Int)) = ((n + 1 + 1 : Nat) : Int) := by unfold wrap64; omega
    show [(⟨6, ⟨#[]⟩, wrap64 (1 + ((n + 1 : Nat) : Int))⟩ : S23)] = _
    rw [this]
theorem allForm_tax (n : Nat) : allForm (List.replicate n taxX) = true := by
  unfold allForm
  rw [List.all_eq_true]
  intro x hx
  obtain rfl := List.eq_of_mem_replicate hx
  decide +kernel
theorem code_tax (n : Nat) (h : n + 1 ≤ 65536) : codeP (List.replicate (n + 1) taxX) = 0 := by
  unfold codeP
  rw [if_neg (by rw [List.length_replicate]; omega), if_pos (allForm_tax _), sum_tax n (by omega), if_pos]
  unfold allT totalB
  simp
  omega
theorem code_tax3 (n : Nat) (h : 65536 < n) : codeP (List.replicate n taxX) = 3 := by
  unfold codeP
  rw [if_pos (by rw [List.length_replicate]; omega)]
theorem limits_end (n : Nat) (h1 : 1 ≤ n) (h2 : n ≤ 65537) : Ev (fun k => (payslip_Merge.f k (List.replicate n taxX)).bind fun bt313 => ((payslip_Compare.f k ([] : List (S23)) (List.replicate n taxX)).bind fun bt317 => (if (n : Int) > 65536 then (if bt313.2 = 3 then (if bt317.2 = 3 then (if (bt313.1.length : Int) = 0 then (if (bt317.1.length : Int) = 0 then ((payrolllaw34_awake.f k).bind fun t321 => (some t321)) else (some false)) else (some false)) else (some false)) else (some false)) else (if bt313.2 = 0 then (if bt317.2 = 0 then (if (bt313.1.length : Int) = 1 then (if 0 < (bt313.1.length : Int) then (if ((rd_T23 bt313.1 0).f2) = (n : Int) then (if (bt317.1.length : Int) = 1 then (if 0 < (bt317.1.length : Int) then (if ((rd_T23 bt317.1 0).f2) = (n : Int) then ((payrolllaw34_awake.f k).bind fun t324 => (some t324)) else (some false)) else (none)) else (some false)) else (some false)) else (none)) else (some false)) else (some false)) else (some false))))) true := by
  refine Ev.bind (payslip_Merge_ev _) (Ev.bind (payslip_Compare_ev _ _) ?_)
  have c0 : codeP [] = 0 := by decide +kernel
  by_cases c : (n : Int) > 65536
  · have h3 := code_tax3 n (by omega)
    have e1 : mergeP (List.replicate n taxX) = ([], 3) := by unfold mergeP; rw [h3]; rfl
    have e2 : compareP [] (List.replicate n taxX) = ([], 3) := by unfold compareP; rw [h3, if_pos c0]; rfl
    rw [e1, e2]
    exact Ev.ifp c (Ev.ifp (by first | rfl | trivial) (Ev.ifp (by first | rfl | trivial) (Ev.ifp (by first | rfl | trivial) (Ev.ifp (by first | rfl | trivial) (Ev.bind awake_ev (Ev.now _))))))
  · obtain ⟨m, rfl⟩ : ∃ m, n = m + 1 := ⟨n - 1, by omega⟩
    have h3 := code_tax m (by omega)
    have hs := sum_tax m (by omega)
    have hd : dropZ [(⟨6, ⟨#[]⟩, ((m + 1 : Nat) : Int)⟩ : S23)] = [⟨6, ⟨#[]⟩, ((m + 1 : Nat) : Int)⟩] := by
      unfold dropZ; rw [List.filter_cons, if_pos]; rfl
      simp; omega
    have e1 : mergeP (List.replicate (m + 1) taxX) = ([⟨6, ⟨#[]⟩, ((m + 1 : Nat) : Int)⟩], 0) := by unfold mergeP; rw [if_pos h3, hs, hd]
    have hc : cmpS [] (List.replicate (m + 1) taxX) = sumS (List.replicate (m + 1) taxX) := rfl
    have e2 : compareP [] (List.replicate (m + 1) taxX) = ([⟨6, ⟨#[]⟩, ((m + 1 : Nat) : Int)⟩], 0) := by
      unfold compareP
      rw [if_pos c0, if_pos h3, hc, if_pos (code_zero h3).2.2, hs, hd]
    rw [e1, e2]
    exact Ev.ifn c (Ev.ifp (by first | rfl | trivial) (Ev.ifp (by first | rfl | trivial) (Ev.ifp (by first | rfl | trivial) (Ev.ifp (by show (0 : Int) < ((1 : Nat) : Int); omega) (Ev.ifp (by first | rfl | trivial) (Ev.ifp (by first | rfl | trivial) (Ev.ifp (by show (0 : Int) < ((1 : Nat) : Int); omega) (Ev.ifp (by first | rfl | trivial) (Ev.bind awake_ev (Ev.now _))))))))))
theorem limits_loop (n : Nat) (h1 : 1 ≤ n) (h2 : n ≤ 65537) : ∀ (m i : Nat), i + m = n → Ev (fun k => payrolllaw34_PayslipLimits.l0 k (n : Int) (List.replicate i taxX ++ List.replicate m z23) (i : Int)) true := by
  intro m
  induction m with
  | zero =>
    intro i hi
    have : i = n := by omega
    subst this
    refine Ev.step (fun k => by simp only [payrolllaw34_PayslipLimits.l0]; rfl) (Ev.ifn (by omega) ?_)
    simp only [List.replicate_zero, List.append_nil]
    exact limits_end i h1 h2
  | succ m ih =>
    intro i hi
    have e1 : wrap64 ((i : Int) + 1) = ((i + 1 : Nat) : Int) := by unfold wrap64; omega
    have e2 : (List.replicate i taxX ++ List.replicate (m + 1) z23).set (i : Int).toNat (⟨6, (⟨#[]⟩ : ByteArray), 1⟩ : S23) = List.replicate (i + 1) taxX ++ List.replicate m z23 := by
      rw [Int.toNat_natCast, List.set_append_right _ _ (by rw [List.length_replicate]; exact Nat.le_refl _), List.length_replicate, Nat.sub_self, List.replicate_succ (n := m), List.set_cons_zero, List.replicate_succ' (n := i), List.append_assoc]
      rfl
    refine Ev.step (fun k => by simp only [payrolllaw34_PayslipLimits.l0]; rfl) (Ev.ifp (by omega) (Ev.ifp (by omega) (Ev.ifp (by rw [List.length_append, List.length_replicate, List.length_replicate]; omega) ?_)))
    rw [e1, e2]
    exact ih (i + 1) (by omega)
theorem PayslipLimits (a0 : Int) : ∃ k, payrolllaw34_PayslipLimits.f k a0 = some true := by
  refine Ev.rounds ?_
  unfold payrolllaw34_PayslipLimits.f
  obtain ⟨v, h1, h2, h3⟩ := deck_mod a0 3 (by omega) (by omega)
  refine Ev.bindc h1 ?_
  have e : wrap64 (65535 + v) = 65535 + v := by unfold wrap64; omega
  rw [e]
  refine Ev.ifp (by omega) (Ev.ifp (by omega) ?_)
  have := limits_loop (65535 + v).toNat (by omega) (by omega) (65535 + v).toNat 0 (by omega)
  rw [show (((65535 + v).toNat : Nat) : Int) = 65535 + v from by omega] at this
  simpa using this
end Go.Proofs.YtlanldccamphcaaDoor.P
