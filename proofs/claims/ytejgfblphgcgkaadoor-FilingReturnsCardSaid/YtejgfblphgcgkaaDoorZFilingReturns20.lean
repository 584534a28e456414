/- Texts for the law FilingReturns (kept out of a larger one). -/
import Derived.Test.YtejgfblphgcgkaaDoorZFilingReturns12
import Derived.Test.YtejgfblphgcgkaaDoorZFilingReturns19
import Derived.Test.YtejgfblphgcgkaaDoorZFilingReturns18
import Derived.WalkKit
import Derived.Below
namespace Go.Proofs.YtejgfblphgcgkaaDoor.P
set_option linter.unusedVariables false
set_option linter.unusedSimpArgs false
open Go Go.RowKit Go.Proofs.YtejgfblphgcgkaaDoorW.PrintWords Go.Proofs.YtejgfblphgcgkaaDoorW.PrintLast Go.Proofs.YtejgfblphgcgkaaDoorW.PrintMore
def itoaB (v : Int) : ByteArray := ⟨(Lib.itoa v).toArray⟩
def numRead (s : ByteArray) : Int × Bool := match Lib.atoiAll s.data.toList with
  | .ok v => (v, decide (itoaB v = s))
  | .range => (Lib.atoiSat s.data.toList, false)
  | _ => (0, false)
def filing_number.f (a0 : ByteArray) : Option (Int × Bool) := if a0.size ≤ 281474976710656 then some (numRead a0) else none
theorem bytes_ext {a b : ByteArray} (h : a.toList = b.toList) : a = b := by
  rw [Lib.toList_data, Lib.toList_data] at h
  exact ByteArray.ext (Array.toList_inj.mp h)
theorem atoi_bad (s : ByteArray) (w : World) (hs : s.size ≤ 281474976710656) (hT : Tabs w) (h : ∀ v, Lib.atoiAll s.data.toList ≠ .ok v) :
    Calls Tryd.prog 43 #[.string s] w fun e w' => ∃ (N : Nat), e = .returned (.tuple #[.int .i64 (numRead s).1, .iface 110 (.pointer (some ⟨N, 0, none⟩))]) ∧ Below w.heap.size w w' := by
  obtain ⟨tp, p, h2⟩ := hT.noSyntax
  obtain ⟨tq, q, h3⟩ := hT.noRange
  unfold numRead
  cases ha : Lib.atoiAll s.data.toList with
  | ok v => exact absurd ha (h v)
  | range =>
    refine (Tryd.strconv_Atoi_range_var s hs ha tq q w h3).mono ?_
    rintro e w' ⟨N, rfl, _, _, hb⟩
    exact ⟨N, rfl, hb⟩
  | _ =>
    refine (Tryd.strconv_Atoi_syntax_var s hs ha tp p w h2).mono ?_
    rintro e w' ⟨N, rfl, _, _, hb⟩
    exact ⟨N, rfl, hb⟩
theorem filing_number.calls (a0 : ByteArray) (r1 : Int) (r2 : Bool) (w : World) (hT : Tabs w) (h : filing_number.f a0 = some (r1, r2)) :
    Calls Tryd.prog 32 #[.string a0] w fun e w' => e = .returned (.tuple #[.int .i64 r1, .bool r2]) ∧ Below w.heap.size w w' := by
  unfold filing_number.f at h
  split at h
  · rename_i hc
    obtain hn := Option.some.inj h
    obtain ⟨rfl, rfl⟩ : (numRead a0).1 = r1 ∧ (numRead a0).2 = r2 := by rw [hn]; exact ⟨rfl, rfl⟩
    clear h hn
    have HT := Aside0.mk hT
    clear hT
    by_cases hv : ∃ v, Lib.atoiAll a0.data.toList = .ok v
    · obtain ⟨v, hv⟩ := hv
      have e1 : (numRead a0).1 = v := by unfold numRead; rw [hv]
      have e2 : (numRead a0).2 = decide (itoaB v = a0) := by unfold numRead; rw [hv]
      rw [e1, e2]
      have hr := Lib.atoiAll_bounds hv
      have HV := Aside0.mk hv
      have HR := Aside0.mk hr
      clear hv hr e1 e2
      go_enter Tryd.func32, Tryd.ntmps32
      go_wp2_with (go_at_call 43; refine (atoi_ok a0 v _ hc HV.out).mono ?_; rintro e w1 ⟨rfl, hb⟩; have HB := Aside0.mk hb; clear hb)
      refine (strconv_Itoa.calls v (itoaB v) _ (Tabs.below HT.out HB.out) (by unfold strconv_Itoa.f; rw [if_pos HR.out]; rfl)).mono ?_
      rintro e w2 ⟨rfl, hb2⟩
      go_wp2
      have hd : ((itoaB v).toList == a0.toList) = decide (itoaB v = a0) := by
        by_cases e : itoaB v = a0
        · rw [e]; simp
        · have : (itoaB v).toList ≠ a0.toList := fun h => e (bytes_ext h)
          simp [e, this]
      refine ⟨rfl, _, results_tmp2 (t := 2) (u := 3) rfl _ _ _, ?_, below_then HB.out HB.out.size hb2⟩
      rw [← hd]; rfl
    · have hn : ∀ v, Lib.atoiAll a0.data.toList ≠ .ok v := fun v h => hv ⟨v, h⟩
      have e2 : (numRead a0).2 = false := by
        unfold numRead
        cases ha : Lib.atoiAll a0.data.toList with
        | ok v => exact absurd ha (hn v)
        | _ => rfl
      rw [e2]
      have HN := Aside0.mk hn
      clear hn hv e2
      go_enter Tryd.func32, Tryd.ntmps32
      go_wp2_with (go_at_call 43; refine (atoi_bad a0 _ hc HT.out HN.out).mono ?_; rintro e w1 ⟨N, rfl, hb⟩; have HB := Aside0.mk hb; clear hb)
      exact ⟨rfl, _, results_tmp2 (t := 2) (u := 3) rfl _ _ _, rfl, HB.out⟩
  · cases h
end Go.Proofs.YtejgfblphgcgkaaDoor.P
