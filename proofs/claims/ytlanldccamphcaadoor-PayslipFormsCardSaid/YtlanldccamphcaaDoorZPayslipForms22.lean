/- Texts for the law PayslipForms (kept out of a larger one). -/
import Derived.Test.YtlanldccamphcaaDoorZPayslipForms15
import Derived.Test.YtlanldccamphcaaDoorZPayslipForms11
import Derived.WalkKit
import Derived.Below
import Derived.Laws.Cover1
namespace Go.Proofs.YtlanldccamphcaaDoor.P
set_option linter.unusedVariables false
set_option linter.unusedSimpArgs false
open Go Go.RowKit Go.Proofs.YtlanldccamphcaaDoorW.PrintWords Go.Proofs.YtlanldccamphcaaDoorW.PrintLast Go.Proofs.YtlanldccamphcaaDoorW.PrintMore
theorem isNaN_string (s : ByteArray) (w : World) : Calls Tryd.prog 56 #[.string s] w fun e w' => e = .returned (.bool false) ∧ w' = w := by
  go_enter Tryd.func56, Tryd.ntmps56
  go_wp2
  go_ret
  simp
def cmpStr (x y : ByteArray) : Int := if Op.bytesLess x.toList y.toList = true then -1 else if (Op.bytesLess x.toList y.toList || x.toList == y.toList) = true then 0 else 1
set_option maxRecDepth 100000 in
theorem cmp_string (x y : ByteArray) (w : World) : Calls Tryd.prog 45 #[.string x, .string y] w fun e w' => e = .returned (.int .i64 (cmpStr x y)) ∧ Drawn0 w w' := by
  go_enter Tryd.func45, Tryd.ntmps45
  go_wp2_with (first | (go_at_call 56; refine (isNaN_string _ _).mono ?_; rintro e w' ⟨rfl, rfl⟩) | go_in)
  all_goals (go_ret; refine ⟨?_, Drawn0.refl _⟩; unfold cmpStr; simp_all)
def cmpP (x y : S23) : Int := if Lib.compareInt x.f0 y.f0 = 0 then cmpStr x.f1 y.f1 else Lib.compareInt x.f0 y.f0
theorem two_grow (w : World) (a b : Obj) (n : Nat) : ((w.alloc a).alloc b).drewN n = Sort.grow (w.drewN n) #[a, b] := by
  unfold Sort.grow World.alloc World.drewN
  simp
  apply Array.ext'
  simp
set_option maxRecDepth 100000 in
theorem compare_calls (x y : S23) (w : World) : Calls Tryd.prog 34 #[.agg #[.int .i64 x.f0, .string x.f1, .int .i64 x.f2], .agg #[.int .i64 y.f0, .string y.f1, .int .i64 y.f2]] w fun e w' => e = .returned (.int .i64 (cmpP x y)) ∧ ∃ q os', w' = Sort.grow (w.drewN q) os' := by
  have hu23 := Tryd.underlying23
  go_enter Tryd.func34, Tryd.ntmps34
  go_wp2_with (first | (go_at_call 44; refine (Tryd.cmp_Compare_int _ _ _).mono ?_; rintro e w' ⟨rfl, rfl⟩) | (go_at_call 45; refine (cmp_string _ _ _).mono ?_; rintro e w' ⟨rfl, hb⟩; obtain ⟨nn, rfl⟩ := hb.out) | go_in)
  · rename_i hc
    go_ret
    refine ⟨?_, 0, _, two_grow w _ _ 0⟩
    unfold cmpP; simp_all
  · go_ret
    refine ⟨?_, nn, _, two_grow w _ _ nn⟩
    unfold cmpP; simp_all
end Go.Proofs.YtlanldccamphcaaDoor.P
