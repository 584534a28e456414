/- Texts for the law RatioField (kept out of a larger one). -/
import Derived.Test.YtighihhaljofdaaDoorZRatioField9
import Derived.Test.YtighihhaljofdaaDoorZRatioField10
import Derived.Test.YtighihhaljofdaaDoorZRatioField16
import Derived.Test.YtighihhaljofdaaDoorZRatioField17
import Derived.Test.YtighihhaljofdaaDoorZRatioField18
import Derived.Test.YtighihhaljofdaaDoorZRatioField12
import Derived.Test.YtighihhaljofdaaDoorZRatioField14
import Derived.Test.YtighihhaljofdaaDoorZRatioField19
-- Written by a program of this session (wip/tools/xprint.py) out of the translation; Lean checks it.
namespace Go.Proofs.YtighihhaljofdaaDoor.P
open Go.RowKit Go.Proofs.YtighihhaljofdaaDoorW.PrintWords Go.Proofs.YtighihhaljofdaaDoorW.PrintLast Go.Proofs.YtighihhaljofdaaDoorW.PrintMore
abbrev am := @Aside0.mk
abbrev qb := @blk_below
abbrev qf := @blk_far
abbrev q7 := @below_set
abbrev q8 := @below_step
abbrev q9 := @below_size
attribute [local go_sem] max2_int min2_int max_two min_two max_three min_three max_four min_four   -- for this text's walks alone
set_option linter.unusedVariables false
set_option linter.unusedSimpArgs false
attribute [local go_sem high] eqA23
mutual
def payrolllaw1_RatioField.j0 : Nat → Int → Int → Bool → Int → Int → Int → Int → Int → Int → Int → Int → Int → Int → Option (Bool)
  | 0, _, _, _, _, _, _, _, _, _, _, _, _, _ => none
  | k + 1, x8, x12, x76, x228000, x228001, x229000, x229001, x230000, x230001, x234000, x234001, x242000, x242001 => if x76 = true then (some false) else ((ratio_Add.f k x229000 x229001 x230000 x230001).bind fun bt246 => ((ratio_Mul.f k x228000 x228001 bt246.1 bt246.2.1).bind fun bt250 => ((ratio_Mul.f k x228000 x228001 x230000 x230001).bind fun bt254 => ((ratio_Add.f k x242000 x242001 bt254.1 bt254.2.1).bind fun bt258 => (if x12 = 0 then (if bt246.2.2 = 0 then (if bt250.2.2 = 0 then (if bt254.2.2 = 0 then (if bt258.2.2 = 0 then (payrolllaw1_RatioField.j1 k x8 x12 (!(bt250.1 == bt258.1) || (!(bt250.2.1 == bt258.2.1))) x228000 x228001 x229000 x229001 x234000 x234001 x242000 x242001) else (payrolllaw1_RatioField.j1 k x8 x12 false x228000 x228001 x229000 x229001 x234000 x234001 x242000 x242001)) else (payrolllaw1_RatioField.j1 k x8 x12 false x228000 x228001 x229000 x229001 x234000 x234001 x242000 x242001)) else (payrolllaw1_RatioField.j1 k x8 x12 false x228000 x228001 x229000 x229001 x234000 x234001 x242000 x242001)) else (payrolllaw1_RatioField.j1 k x8 x12 false x228000 x228001 x229000 x229001 x234000 x234001 x242000 x242001)) else (payrolllaw1_RatioField.j1 k x8 x12 false x228000 x228001 x229000 x229001 x234000 x234001 x242000 x242001))))))
def payrolllaw1_RatioField.j1 : Nat → Int → Int → Bool → Int → Int → Int → Int → Int → Int → Int → Int → Option (Bool)
  | 0, _, _, _, _, _, _, _, _, _, _, _ => none
  | k + 1, x8, x12, x123, x228000, x228001, x229000, x229001, x234000, x234001, x242000, x242001 => if x123 = true then (some false) else ((ratio_Sub.f k x234000 x234001 x229000 x229001).bind fun bt262 => (if x8 = 0 then (if bt262.2.2 = 0 then (payrolllaw1_RatioField.j2 k x12 (!(bt262.1 == x228000) || (!(bt262.2.1 == x228001))) x228000 x228001 x229000 x229001 x242000 x242001) else (payrolllaw1_RatioField.j2 k x12 true x228000 x228001 x229000 x229001 x242000 x242001)) else (payrolllaw1_RatioField.j2 k x12 false x228000 x228001 x229000 x229001 x242000 x242001)))
def payrolllaw1_RatioField.j2 : Nat → Int → Bool → Int → Int → Int → Int → Int → Int → Option (Bool)
  | 0, _, _, _, _, _, _, _, _ => none
  | k + 1, x12, x140, x228000, x228001, x229000, x229001, x242000, x242001 => if x140 = true then (some false) else (if x229000 = 0 then ((ratio_Div.f k x228000 x228001 x229000 x229001).bind fun bt266 => (if bt266.2.2 = 5 then ((payrolllaw1_sane.f k).bind fun t270 => (some t270)) else (some false))) else ((ratio_Div.f k x242000 x242001 x229000 x229001).bind fun bt271 => (if x12 = 0 then (if bt271.2.2 = 0 then (if (bt271.1 == x228000 && (bt271.2.1 == x228001)) = true then ((payrolllaw1_sane.f k).bind fun t274 => (some t274)) else (some false)) else (some false)) else ((payrolllaw1_sane.f k).bind fun t275 => (some t275)))))
end
def payrolllaw1_RatioField.f (k : Nat) (l0 : List Int) : Option (Bool) := (payrollgen_New.f l0).bind fun bt215 => ((payrollgen_Tape_Ratio.f k bt215.1 bt215.2).bind fun bt218 => ((payrollgen_Tape_Ratio.f k bt215.1 bt218.2.2).bind fun bt221 => ((payrollgen_Tape_Ratio.f k bt215.1 bt221.2.2).bind fun bt224 => ((ratio_Add.f k bt218.1 bt218.2.1 bt221.1 bt221.2.1).bind fun bt230 => ((ratio_Add.f k bt221.1 bt221.2.1 bt218.1 bt218.2.1).bind fun bt234 => ((ratio_Mul.f k bt218.1 bt218.2.1 bt221.1 bt221.2.1).bind fun bt238 => ((ratio_Mul.f k bt221.1 bt221.2.1 bt218.1 bt218.2.1).bind fun bt242 => (if (!(bt230.1 == bt234.1) || (!(bt230.2.1 == bt234.2.1))) = true then (payrolllaw1_RatioField.j0 k bt230.2.2 bt238.2.2 true bt218.1 bt218.2.1 bt221.1 bt221.2.1 bt224.1 bt224.2.1 bt230.1 bt230.2.1 bt238.1 bt238.2.1) else (if bt230.2.2 = bt234.2.2 then (if (!(bt238.1 == bt242.1) || (!(bt238.2.1 == bt242.2.1))) = true then (payrolllaw1_RatioField.j0 k bt230.2.2 bt238.2.2 true bt218.1 bt218.2.1 bt221.1 bt221.2.1 bt224.1 bt224.2.1 bt230.1 bt230.2.1 bt238.1 bt238.2.1) else (payrolllaw1_RatioField.j0 k bt230.2.2 bt238.2.2 (bt238.2.2 != bt242.2.2) bt218.1 bt218.2.1 bt221.1 bt221.2.1 bt224.1 bt224.2.1 bt230.1 bt230.2.1 bt238.1 bt238.2.1)) else (payrolllaw1_RatioField.j0 k bt230.2.2 bt238.2.2 true bt218.1 bt218.2.1 bt221.1 bt221.2.1 bt224.1 bt224.2.1 bt230.1 bt230.2.1 bt238.1 bt238.2.1))))))))))
set_option maxHeartbeats 8000000 in
set_option maxRecDepth 100000 in
theorem payrolllaw1_RatioField.calls (k : Nat) (A0 : Option Addr) (c0 : Nat) (l0 : List Int) (w : World) (hr0 : Kd.C (Kd.int .i64) w A0 l0.length l0) (hc0 : l0.length ≤ c0) (hT : Tabs w) (h : payrolllaw1_RatioField.f k l0 = some true) :
    Calls Tryd.prog 7 #[.slice A0 l0.length c0] w fun e w' => e = .returned (.bool true) ∧ Below w.heap.size w w' := by
  have hu23 := Tryd.underlying23
  have HR0 := am hr0
  have HC0 := am hc0
  clear hr0 hc0
  have HB := am (Below.refl w.heap.size w)
  have HT := am hT
  clear hT
  have H : ((payrollgen_New.f l0).bind fun bt215 => ((payrollgen_Tape_Ratio.f k bt215.1 bt215.2).bind fun bt218 => ((payrollgen_Tape_Ratio.f k bt215.1 bt218.2.2).bind fun bt221 => ((payrollgen_Tape_Ratio.f k bt215.1 bt221.2.2).bind fun bt224 => ((ratio_Add.f k bt218.1 bt218.2.1 bt221.1 bt221.2.1).bind fun bt230 => ((ratio_Add.f k bt221.1 bt221.2.1 bt218.1 bt218.2.1).bind fun bt234 => ((ratio_Mul.f k bt218.1 bt218.2.1 bt221.1 bt221.2.1).bind fun bt238 => ((ratio_Mul.f k bt221.1 bt221.2.1 bt218.1 bt218.2.1).bind fun bt242 => (if (!(bt230.1 == bt234.1) || (!(bt230.2.1 == bt234.2.1))) = true then (payrolllaw1_RatioField.j0 k bt230.2.2 bt238.2.2 true bt218.1 bt218.2.1 bt221.1 bt221.2.1 bt224.1 bt224.2.1 bt230.1 bt230.2.1 bt238.1 bt238.2.1) else (if bt230.2.2 = bt234.2.2 then (if (!(bt238.1 == bt242.1) || (!(bt238.2.1 == bt242.2.1))) = true then (payrolllaw1_RatioField.j0 k bt230.2.2 bt238.2.2 true bt218.1 bt218.2.1 bt221.1 bt221.2.1 bt224.1 bt224.2.1 bt230.1 bt230.2.1 bt238.1 bt238.2.1) else (payrolllaw1_RatioField.j0 k bt230.2.2 bt238.2.2 (bt238.2.2 != bt242.2.2) bt218.1 bt218.2.1 bt221.1 bt221.2.1 bt224.1 bt224.2.1 bt230.1 bt230.2.1 bt238.1 bt238.2.1)) else (payrolllaw1_RatioField.j0 k bt230.2.2 bt238.2.2 true bt218.1 bt218.2.1 bt221.1 bt221.2.1 bt224.1 bt224.2.1 bt230.1 bt230.2.1 bt238.1 bt238.2.1))))))))))) = some true := h
  clear h
  replace H := Option.bind_eq_some_iff.mp H
  obtain ⟨⟨t215, t216⟩, A20, H⟩ := H
  replace H : ((payrollgen_Tape_Ratio.f k t215 t216).bind fun bt218 => ((payrollgen_Tape_Ratio.f k t215 bt218.2.2).bind fun bt221 => ((payrollgen_Tape_Ratio.f k t215 bt221.2.2).bind fun bt224 => ((ratio_Add.f k bt218.1 bt218.2.1 bt221.1 bt221.2.1).bind fun bt230 => ((ratio_Add.f k bt221.1 bt221.2.1 bt218.1 bt218.2.1).bind fun bt234 => ((ratio_Mul.f k bt218.1 bt218.2.1 bt221.1 bt221.2.1).bind fun bt238 => ((ratio_Mul.f k bt221.1 bt221.2.1 bt218.1 bt218.2.1).bind fun bt242 => (if (!(bt230.1 == bt234.1) || (!(bt230.2.1 == bt234.2.1))) = true then (payrolllaw1_RatioField.j0 k bt230.2.2 bt238.2.2 true bt218.1 bt218.2.1 bt221.1 bt221.2.1 bt224.1 bt224.2.1 bt230.1 bt230.2.1 bt238.1 bt238.2.1) else (if bt230.2.2 = bt234.2.2 then (if (!(bt238.1 == bt242.1) || (!(bt238.2.1 == bt242.2.1))) = true then (payrolllaw1_RatioField.j0 k bt230.2.2 bt238.2.2 true bt218.1 bt218.2.1 bt221.1 bt221.2.1 bt224.1 bt224.2.1 bt230.1 bt230.2.1 bt238.1 bt238.2.1) else (payrolllaw1_RatioField.j0 k bt230.2.2 bt238.2.2 (bt238.2.2 != bt242.2.2) bt218.1 bt218.2.1 bt221.1 bt221.2.1 bt224.1 bt224.2.1 bt230.1 bt230.2.1 bt238.1 bt238.2.1)) else (payrolllaw1_RatioField.j0 k bt230.2.2 bt238.2.2 true bt218.1 bt218.2.1 bt221.1 bt221.2.1 bt224.1 bt224.2.1 bt230.1 bt230.2.1 bt238.1 bt238.2.1)))))))))) = some true := H
  have A2 := am A20
  clear A20
  replace H := Option.bind_eq_some_iff.mp H
  obtain ⟨⟨t218, t219, t220⟩, A30, H⟩ := H
  replace H : ((payrollgen_Tape_Ratio.f k t215 t220).bind fun bt221 => ((payrollgen_Tape_Ratio.f k t215 bt221.2.2).bind fun bt224 => ((ratio_Add.f k t218 t219 bt221.1 bt221.2.1).bind fun bt230 => ((ratio_Add.f k bt221.1 bt221.2.1 t218 t219).bind fun bt234 => ((ratio_Mul.f k t218 t219 bt221.1 bt221.2.1).bind fun bt238 => ((ratio_Mul.f k bt221.1 bt221.2.1 t218 t219).bind fun bt242 => (if (!(bt230.1 == bt234.1) || (!(bt230.2.1 == bt234.2.1))) = true then (payrolllaw1_RatioField.j0 k bt230.2.2 bt238.2.2 true t218 t219 bt221.1 bt221.2.1 bt224.1 bt224.2.1 bt230.1 bt230.2.1 bt238.1 bt238.2.1) else (if bt230.2.2 = bt234.2.2 then (if (!(bt238.1 == bt242.1) || (!(bt238.2.1 == bt242.2.1))) = true then (payrolllaw1_RatioField.j0 k bt230.2.2 bt238.2.2 true t218 t219 bt221.1 bt221.2.1 bt224.1 bt224.2.1 bt230.1 bt230.2.1 bt238.1 bt238.2.1) else (payrolllaw1_RatioField.j0 k bt230.2.2 bt238.2.2 (bt238.2.2 != bt242.2.2) t218 t219 bt221.1 bt221.2.1 bt224.1 bt224.2.1 bt230.1 bt230.2.1 bt238.1 bt238.2.1)) else (payrolllaw1_RatioField.j0 k bt230.2.2 bt238.2.2 true t218 t219 bt221.1 bt221.2.1 bt224.1 bt224.2.1 bt230.1 bt230.2.1 bt238.1 bt238.2.1))))))))) = some true := H
  have A3 := am A30
  clear A30
  replace H := Option.bind_eq_some_iff.mp H
  obtain ⟨⟨t221, t222, t223⟩, A40, H⟩ := H
  replace H : ((payrollgen_Tape_Ratio.f k t215 t223).bind fun bt224 => ((ratio_Add.f k t218 t219 t221 t222).bind fun bt230 => ((ratio_Add.f k t221 t222 t218 t219).bind fun bt234 => ((ratio_Mul.f k t218 t219 t221 t222).bind fun bt238 => ((ratio_Mul.f k t221 t222 t218 t219).bind fun bt242 => (if (!(bt230.1 == bt234.1) || (!(bt230.2.1 == bt234.2.1))) = true then (payrolllaw1_RatioField.j0 k bt230.2.2 bt238.2.2 true t218 t219 t221 t222 bt224.1 bt224.2.1 bt230.1 bt230.2.1 bt238.1 bt238.2.1) else (if bt230.2.2 = bt234.2.2 then (if (!(bt238.1 == bt242.1) || (!(bt238.2.1 == bt242.2.1))) = true then (payrolllaw1_RatioField.j0 k bt230.2.2 bt238.2.2 true t218 t219 t221 t222 bt224.1 bt224.2.1 bt230.1 bt230.2.1 bt238.1 bt238.2.1) else (payrolllaw1_RatioField.j0 k bt230.2.2 bt238.2.2 (bt238.2.2 != bt242.2.2) t218 t219 t221 t222 bt224.1 bt224.2.1 bt230.1 bt230.2.1 bt238.1 bt238.2.1)) else (payrolllaw1_RatioField.j0 k bt230.2.2 bt238.2.2 true t218 t219 t221 t222 bt224.1 bt224.2.1 bt230.1 bt230.2.1 bt238.1 bt238.2.1)))))))) = some true := H
  have A4 := am A40
  clear A40
  replace H := Option.bind_eq_some_iff.mp H
  obtain ⟨⟨t224, t225, t226⟩, A50, H⟩ := H
  replace H : ((ratio_Add.f k t218 t219 t221 t222).bind fun bt230 => ((ratio_Add.f k t221 t222 t218 t219).bind fun bt234 => ((ratio_Mul.f k t218 t219 t221 t222).bind fun bt238 => ((ratio_Mul.f k t221 t222 t218 t219).bind fun bt242 => (if (!(bt230.1 == bt234.1) || (!(bt230.2.1 == bt234.2.1))) = true then (payrolllaw1_RatioField.j0 k bt230.2.2 bt238.2.2 true t218 t219 t221 t222 t224 t225 bt230.1 bt230.2.1 bt238.1 bt238.2.1) else (if bt230.2.2 = bt234.2.2 then (if (!(bt238.1 == bt242.1) || (!(bt238.2.1 == bt242.2.1))) = true then (payrolllaw1_RatioField.j0 k bt230.2.2 bt238.2.2 true t218 t219 t221 t222 t224 t225 bt230.1 bt230.2.1 bt238.1 bt238.2.1) else (payrolllaw1_RatioField.j0 k bt230.2.2 bt238.2.2 (bt238.2.2 != bt242.2.2) t218 t219 t221 t222 t224 t225 bt230.1 bt230.2.1 bt238.1 bt238.2.1)) else (payrolllaw1_RatioField.j0 k bt230.2.2 bt238.2.2 true t218 t219 t221 t222 t224 t225 bt230.1 bt230.2.1 bt238.1 bt238.2.1))))))) = some true := H
  have A5 := am A50
  clear A50
  replace H := Option.bind_eq_some_iff.mp H
  obtain ⟨⟨t230, t231, t232⟩, A60, H⟩ := H
  replace H : ((ratio_Add.f k t221 t222 t218 t219).bind fun bt234 => ((ratio_Mul.f k t218 t219 t221 t222).bind fun bt238 => ((ratio_Mul.f k t221 t222 t218 t219).bind fun bt242 => (if (!(t230 == bt234.1) || (!(t231 == bt234.2.1))) = true then (payrolllaw1_RatioField.j0 k t232 bt238.2.2 true t218 t219 t221 t222 t224 t225 t230 t231 bt238.1 bt238.2.1) else (if t232 = bt234.2.2 then (if (!(bt238.1 == bt242.1) || (!(bt238.2.1 == bt242.2.1))) = true then (payrolllaw1_RatioField.j0 k t232 bt238.2.2 true t218 t219 t221 t222 t224 t225 t230 t231 bt238.1 bt238.2.1) else (payrolllaw1_RatioField.j0 k t232 bt238.2.2 (bt238.2.2 != bt242.2.2) t218 t219 t221 t222 t224 t225 t230 t231 bt238.1 bt238.2.1)) else (payrolllaw1_RatioField.j0 k t232 bt238.2.2 true t218 t219 t221 t222 t224 t225 t230 t231 bt238.1 bt238.2.1)))))) = some true := H
  have A6 := am A60
  clear A60
  replace H := Option.bind_eq_some_iff.mp H
  obtain ⟨⟨t234, t235, t236⟩, A70, H⟩ := H
  replace H : ((ratio_Mul.f k t218 t219 t221 t222).bind fun bt238 => ((ratio_Mul.f k t221 t222 t218 t219).bind fun bt242 => (if (!(t230 == t234) || (!(t231 == t235))) = true then (payrolllaw1_RatioField.j0 k t232 bt238.2.2 true t218 t219 t221 t222 t224 t225 t230 t231 bt238.1 bt238.2.1) else (if t232 = t236 then (if (!(bt238.1 == bt242.1) || (!(bt238.2.1 == bt242.2.1))) = true then (payrolllaw1_RatioField.j0 k t232 bt238.2.2 true t218 t219 t221 t222 t224 t225 t230 t231 bt238.1 bt238.2.1) else (payrolllaw1_RatioField.j0 k t232 bt238.2.2 (bt238.2.2 != bt242.2.2) t218 t219 t221 t222 t224 t225 t230 t231 bt238.1 bt238.2.1)) else (payrolllaw1_RatioField.j0 k t232 bt238.2.2 true t218 t219 t221 t222 t224 t225 t230 t231 bt238.1 bt238.2.1))))) = some true := H
  have A7 := am A70
  clear A70
  replace H := Option.bind_eq_some_iff.mp H
  obtain ⟨⟨t238, t239, t240⟩, A80, H⟩ := H
  replace H : ((ratio_Mul.f k t221 t222 t218 t219).bind fun bt242 => (if (!(t230 == t234) || (!(t231 == t235))) = true then (payrolllaw1_RatioField.j0 k t232 t240 true t218 t219 t221 t222 t224 t225 t230 t231 t238 t239) else (if t232 = t236 then (if (!(t238 == bt242.1) || (!(t239 == bt242.2.1))) = true then (payrolllaw1_RatioField.j0 k t232 t240 true t218 t219 t221 t222 t224 t225 t230 t231 t238 t239) else (payrolllaw1_RatioField.j0 k t232 t240 (t240 != bt242.2.2) t218 t219 t221 t222 t224 t225 t230 t231 t238 t239)) else (payrolllaw1_RatioField.j0 k t232 t240 true t218 t219 t221 t222 t224 t225 t230 t231 t238 t239)))) = some true := H
  have A8 := am A80
  clear A80
  replace H := Option.bind_eq_some_iff.mp H
  obtain ⟨⟨t242, t243, t244⟩, A90, H⟩ := H
  replace H : (if (!(t230 == t234) || (!(t231 == t235))) = true then (payrolllaw1_RatioField.j0 k t232 t240 true t218 t219 t221 t222 t224 t225 t230 t231 t238 t239) else (if t232 = t236 then (if (!(t238 == t242) || (!(t239 == t243))) = true then (payrolllaw1_RatioField.j0 k t232 t240 true t218 t219 t221 t222 t224 t225 t230 t231 t238 t239) else (payrolllaw1_RatioField.j0 k t232 t240 (t240 != t244) t218 t219 t221 t222 t224 t225 t230 t231 t238 t239)) else (payrolllaw1_RatioField.j0 k t232 t240 true t218 t219 t221 t222 t224 t225 t230 t231 t238 t239))) = some true := H
  have A9 := am A90
  clear A90
  have HC10 := am H
  clear H
  go_enter Tryd.func7, Tryd.ntmps7
  go_upto_region 7 with (first | ((with_reducible refine gate_callee (f := 13) rfl ?_); refine goesL_ (some 28) rfl rfl Tryd.func13 (by kernel_rfl) rfl #[.slice A0 l0.length c0] rfl (by (try simp only [List.map_toArray, List.map_cons, List.map_nil]); first | done | rfl | (simp only [List.length_drop, List.length_take]; rfl)) ?_; (with_reducible refine (payrollgen_New.calls _ _ l0 t215 t216 w _ ?side1 ?side2 ?side3 A2.out).mono ?_); (case side1 => repeat (first | (with_reducible first | exact HB.out | apply q4 | apply q5 | apply q6) | exact HB.out)); (case side2 => exact HR0.out); (case side3 => exact HC0.out); rintro e w11 ⟨g217, rfl, hi, hb, hb2⟩; refine ⟨_, rfl, ?_⟩; have n0_ := am (hb); have n1_ := am (hi); clear HB; have HB := n0_; have HI217 := n1_; clear n0_ n1_; (try clear hb); (try clear hb2); (try clear hk); (try clear hi)) | ((with_reducible refine gate_callee (f := 14) rfl ?_); refine goesL_ (some 30) rfl rfl Tryd.func14 (by kernel_rfl) rfl #[.pointer (some ⟨g217, 0, none⟩)] rfl (by (try simp only [List.map_toArray, List.map_cons, List.map_nil]); first | done | rfl | (simp only [List.length_drop, List.length_take]; rfl)) ?_; (with_reducible refine (payrollgen_Tape_Ratio.calls k g217 t215 t216 t218 t219 t220 w _ ?side1 ?side2 A3.out).mono ?_); (case side1 => repeat (first | (with_reducible first | exact HI217.out | apply IsS51.alloc | apply IsS51.drewN | apply IsS51.drew | apply IsS51.set_1) | exact HI217.out)); (case side2 => repeat (first | (with_reducible first | exact HB.out | apply q4 | apply q5 | apply q6 | refine q7 ?_ (IsS51.ge HI217.out)) | exact HB.out)); rintro e w12 ⟨rfl, hi, hb, hk⟩; refine ⟨_, rfl, ?_⟩; have n0_ := am (hb); have n1_ := am (hi); clear HB; clear HI217; have HB := n0_; have HI217 := n1_; clear n0_ n1_; (try clear hb); (try clear hb2); (try clear hk); (try clear hi)) | ((with_reducible refine gate_callee (f := 14) rfl ?_); refine goesL_ (some 32) rfl rfl Tryd.func14 (by kernel_rfl) rfl #[.pointer (some ⟨g217, 0, none⟩)] rfl (by (try simp only [List.map_toArray, List.map_cons, List.map_nil]); first | done | rfl | (simp only [List.length_drop, List.length_take]; rfl)) ?_; (with_reducible refine (payrollgen_Tape_Ratio.calls k g217 t215 t220 t221 t222 t223 w _ ?side1 ?side2 A4.out).mono ?_); (case side1 => repeat (first | (with_reducible first | exact HI217.out | apply IsS51.alloc | apply IsS51.drewN | apply IsS51.drew | apply IsS51.set_1) | exact HI217.out)); (case side2 => repeat (first | (with_reducible first | exact HB.out | apply q4 | apply q5 | apply q6 | refine q7 ?_ (IsS51.ge HI217.out)) | exact HB.out)); rintro e w13 ⟨rfl, hi, hb, hk⟩; refine ⟨_, rfl, ?_⟩; have n0_ := am (hb); have n1_ := am (hi); clear HB; clear HI217; have HB := n0_; have HI217 := n1_; clear n0_ n1_; (try clear hb); (try clear hb2); (try clear hk); (try clear hi)) | ((with_reducible refine gate_callee (f := 14) rfl ?_); refine goesL_ (some 34) rfl rfl Tryd.func14 (by kernel_rfl) rfl #[.pointer (some ⟨g217, 0, none⟩)] rfl (by (try simp only [List.map_toArray, List.map_cons, List.map_nil]); first | done | rfl | (simp only [List.length_drop, List.length_take]; rfl)) ?_; (with_reducible refine (payrollgen_Tape_Ratio.calls k g217 t215 t223 t224 t225 t226 w _ ?side1 ?side2 A5.out).mono ?_); (case side1 => repeat (first | (with_reducible first | exact HI217.out | apply IsS51.alloc | apply IsS51.drewN | apply IsS51.drew | apply IsS51.set_1) | exact HI217.out)); (case side2 => repeat (first | (with_reducible first | exact HB.out | apply q4 | apply q5 | apply q6 | refine q7 ?_ (IsS51.ge HI217.out)) | exact HB.out)); rintro e w14 ⟨rfl, hi, hb, hk⟩; refine ⟨_, rfl, ?_⟩; have n0_ := am (hb); have n1_ := am (hi); clear HB; clear HI217; have HB := n0_; have HI217 := n1_; clear n0_ n1_; (try clear hb); (try clear hb2); (try clear hk); (try clear hi)) | ((with_reducible refine gate_dst (N := 4) rfl ?_); refine box_event ?hg (N := 4) ?hd (cs := #[.int .i64 0, .int .i64 0]) (t := 23) ?hr ?_; (case hd => rfl); (case hg => rfl); (case hr => first | (go_simp; done) | (go_simp; rfl)); intro gb227 hg w15 hbox hb; have n0_ := am (IsS51.below (by repeat (first | (with_reducible first | exact HI217.out | apply IsS51.alloc | apply IsS51.drewN | apply IsS51.drew | apply IsS51.set_1) | exact HI217.out)) hb); have n1_ := am (q8 (by repeat (first | (with_reducible first | exact HB.out | apply q4 | apply q5 | apply q6 | refine q7 ?_ (IsS51.ge HI217.out)) | exact HB.out)) hb); have n2_ := am (hbox); have n3_ := am ((by rw [hg]; exact (q9 (by repeat (first | (with_reducible first | exact HB.out | apply q4 | apply q5 | apply q6 | refine q7 ?_ (IsS51.ge HI217.out)) | exact HB.out))) : w.heap.size ≤ gb227)); have n4_ := am ((by rw [hg]; exact (q9 (by repeat (first | (with_reducible first | exact HB.out | apply q4 | apply q5 | apply q6 | refine q7 ?_ (IsS51.ge HI217.out)) | exact HB.out))) : w.heap.size ≤ gb227)); have n5_ := am ((by rw [hg]; exact Nat.ne_of_lt (IsS51.lt (show IsS51 w _ g217 t215 t226 from by repeat (first | (with_reducible first | exact HI217.out | apply IsS51.alloc | apply IsS51.drewN | apply IsS51.drew | apply IsS51.set_1) | exact HI217.out))) : g217 ≠ gb227)); have n6_ := am ((by rw [hg]; exact Nat.ne_of_gt (IsS51.lt (show IsS51 w _ g217 t215 t226 from by repeat (first | (with_reducible first | exact HI217.out | apply IsS51.alloc | apply IsS51.drewN | apply IsS51.drew | apply IsS51.set_1) | exact HI217.out))) : gb227 ≠ g217)); clear HI217; clear HB; have HI217 := n0_; have HB := n1_; have BK227 := n2_; have GW227 := n3_; have GE227 := n4_; have NB217_227 := n5_; have NB227_217 := n6_; clear n0_ n1_ n2_ n3_ n4_ n5_ n6_; clear hb hbox hg) | ((with_reducible refine gate_dst (N := 5) rfl ?_); refine box_event ?hg (N := 5) ?hd (cs := #[.int .i64 0, .int .i64 0]) (t := 23) ?hr ?_; (case hd => rfl); (case hg => rfl); (case hr => first | (go_simp; done) | (go_simp; rfl)); intro gb228 hg w16 hbox hb; have n0_ := am (IsS51.below (by repeat (first | (with_reducible first | exact HI217.out | apply IsS51.alloc | apply IsS51.drewN | apply IsS51.drew | apply IsS51.set_1 | refine IsS51.far ?_ NB217_227.out _) | exact HI217.out)) hb); have n1_ := am (qb (g := gb227) BK227.out hb); have n2_ := am (q8 (by repeat (first | (with_reducible first | exact HB.out | apply q4 | apply q5 | apply q6 | refine q7 ?_ (IsS51.ge HI217.out) | refine q7 ?_ GE227.out) | exact HB.out)) hb); have n3_ := am (hbox); have n4_ := am ((by rw [hg]; exact (q9 (by repeat (first | (with_reducible first | exact HB.out | apply q4 | apply q5 | apply q6 | refine q7 ?_ (IsS51.ge HI217.out) | refine q7 ?_ GE227.out) | exact HB.out))) : w.heap.size ≤ gb228)); have n5_ := am ((by rw [hg]; exact (q9 (by repeat (first | (with_reducible first | exact HB.out | apply q4 | apply q5 | apply q6 | refine q7 ?_ (IsS51.ge HI217.out) | refine q7 ?_ GE227.out) | exact HB.out))) : w.heap.size ≤ gb228)); have n6_ := am ((by rw [hg]; exact Nat.ne_of_lt (blk_lt (g := gb227) BK227.out) : gb227 ≠ gb228)); have n7_ := am ((by rw [hg]; exact Nat.ne_of_gt (blk_lt (g := gb227) BK227.out) : gb228 ≠ gb227)); have n8_ := am ((by rw [hg]; exact Nat.ne_of_lt (IsS51.lt (show IsS51 w _ g217 t215 t226 from by repeat (first | (with_reducible first | exact HI217.out | apply IsS51.alloc | apply IsS51.drewN | apply IsS51.drew | apply IsS51.set_1 | refine IsS51.far ?_ NB217_227.out _) | exact HI217.out))) : g217 ≠ gb228)); have n9_ := am ((by rw [hg]; exact Nat.ne_of_gt (IsS51.lt (show IsS51 w _ g217 t215 t226 from by repeat (first | (with_reducible first | exact HI217.out | apply IsS51.alloc | apply IsS51.drewN | apply IsS51.drew | apply IsS51.set_1 | refine IsS51.far ?_ NB217_227.out _) | exact HI217.out))) : gb228 ≠ g217)); clear HI217; clear BK227; clear HB; have HI217 := n0_; have BK227 := n1_; have HB := n2_; have BK228 := n3_; have GW228 := n4_; have GE228 := n5_; have NB227_228 := n6_; have NB228_227 := n7_; have NB217_228 := n8_; have NB228_217 := n9_; clear n0_ n1_ n2_ n3_ n4_ n5_ n6_ n7_ n8_ n9_; clear hb hbox hg) | ((with_reducible refine gate_dst (N := 6) rfl ?_); refine box_event ?hg (N := 6) ?hd (cs := #[.int .i64 0, .int .i64 0]) (t := 23) ?hr ?_; (case hd => rfl); (case hg => rfl); (case hr => first | (go_simp; done) | (go_simp; rfl)); intro gb229 hg w17 hbox hb; have n0_ := am (IsS51.below (by repeat (first | (with_reducible first | exact HI217.out | apply IsS51.alloc | apply IsS51.drewN | apply IsS51.drew | apply IsS51.set_1 | refine IsS51.far ?_ NB217_227.out _ | refine IsS51.far ?_ NB217_228.out _) | exact HI217.out)) hb); have n1_ := am (qb (g := gb227) BK227.out hb); have n2_ := am (qb (g := gb228) BK228.out hb); have n3_ := am (q8 (by repeat (first | (with_reducible first | exact HB.out | apply q4 | apply q5 | apply q6 | refine q7 ?_ (IsS51.ge HI217.out) | refine q7 ?_ GE227.out | refine q7 ?_ GE228.out) | exact HB.out)) hb); have n4_ := am (hbox); have n5_ := am ((by rw [hg]; exact (q9 (by repeat (first | (with_reducible first | exact HB.out | apply q4 | apply q5 | apply q6 | refine q7 ?_ (IsS51.ge HI217.out) | refine q7 ?_ GE227.out | refine q7 ?_ GE228.out) | exact HB.out))) : w.heap.size ≤ gb229)); have n6_ := am ((by rw [hg]; exact (q9 (by repeat (first | (with_reducible first | exact HB.out | apply q4 | apply q5 | apply q6 | refine q7 ?_ (IsS51.ge HI217.out) | refine q7 ?_ GE227.out | refine q7 ?_ GE228.out) | exact HB.out))) : w.heap.size ≤ gb229)); have n7_ := am ((by rw [hg]; exact Nat.ne_of_lt (blk_lt (g := gb227) BK227.out) : gb227 ≠ gb229)); have n8_ := am ((by rw [hg]; exact Nat.ne_of_gt (blk_lt (g := gb227) BK227.out) : gb229 ≠ gb227)); have n9_ := am ((by rw [hg]; exact Nat.ne_of_lt (blk_lt (g := gb228) BK228.out) : gb228 ≠ gb229)); have n10_ := am ((by rw [hg]; exact Nat.ne_of_gt (blk_lt (g := gb228) BK228.out) : gb229 ≠ gb228)); have n11_ := am ((by rw [hg]; exact Nat.ne_of_lt (IsS51.lt (show IsS51 w _ g217 t215 t226 from by repeat (first | (with_reducible first | exact HI217.out | apply IsS51.alloc | apply IsS51.drewN | apply IsS51.drew | apply IsS51.set_1 | refine IsS51.far ?_ NB217_227.out _ | refine IsS51.far ?_ NB217_228.out _) | exact HI217.out))) : g217 ≠ gb229)); have n12_ := am ((by rw [hg]; exact Nat.ne_of_gt (IsS51.lt (show IsS51 w _ g217 t215 t226 from by repeat (first | (with_reducible first | exact HI217.out | apply IsS51.alloc | apply IsS51.drewN | apply IsS51.drew | apply IsS51.set_1 | refine IsS51.far ?_ NB217_227.out _ | refine IsS51.far ?_ NB217_228.out _) | exact HI217.out))) : gb229 ≠ g217)); clear HI217; clear BK227; clear BK228; clear HB; have HI217 := n0_; have BK227 := n1_; have BK228 := n2_; have HB := n3_; have BK229 := n4_; have GW229 := n5_; have GE229 := n6_; have NB227_229 := n7_; have NB229_227 := n8_; have NB228_229 := n9_; have NB229_228 := n10_; have NB217_229 := n11_; have NB229_217 := n12_; clear n0_ n1_ n2_ n3_ n4_ n5_ n6_ n7_ n8_ n9_ n10_ n11_ n12_; clear hb hbox hg; have hnb18 := NB227_228.out; have hnc18 := NB228_227.out; have hnb19 := NB227_229.out; have hnc19 := NB229_227.out; have hnb20 := NB227_217.out; have hnc20 := NB217_227.out; have hcz21_0 : w17.cell? ⟨gb227, 0, none⟩ = some (.int .i64 0) := (blk_cell BK227.out 0).trans rfl; have hcz21_1 : w17.cell? ⟨gb227, 1, none⟩ = some (.int .i64 0) := (blk_cell BK227.out 1).trans rfl; have hfz21_0 := blk_frozen BK227.out 0; have hfz21_1 := blk_frozen BK227.out 1; have hnb22 := NB228_229.out; have hnc22 := NB229_228.out; have hnb23 := NB228_217.out; have hnc23 := NB217_228.out; have hcz24_0 : w17.cell? ⟨gb228, 0, none⟩ = some (.int .i64 0) := (blk_cell BK228.out 0).trans rfl; have hcz24_1 : w17.cell? ⟨gb228, 1, none⟩ = some (.int .i64 0) := (blk_cell BK228.out 1).trans rfl; have hfz24_0 := blk_frozen BK228.out 0; have hfz24_1 := blk_frozen BK228.out 1; have hnb25 := NB229_217.out; have hnc25 := NB217_229.out; have hcz26_0 : w17.cell? ⟨gb229, 0, none⟩ = some (.int .i64 0) := (blk_cell BK229.out 0).trans rfl; have hcz26_1 : w17.cell? ⟨gb229, 1, none⟩ = some (.int .i64 0) := (blk_cell BK229.out 1).trans rfl; have hfz26_0 := blk_frozen BK229.out 0; have hfz26_1 := blk_frozen BK229.out 1) | ((with_reducible refine gate_callee (f := 24) rfl ?_); refine goesL_ (some 38) rfl rfl Tryd.func24 (by kernel_rfl) rfl #[.agg #[.int .i64 t218, .int .i64 t219], .agg #[.int .i64 t221, .int .i64 t222]] rfl (by (try simp only [List.map_toArray, List.map_cons, List.map_nil]); first | done | rfl | (simp only [List.length_drop, List.length_take]; rfl)) ?_; (with_reducible refine (ratio_Add.calls k t218 t219 t221 t222 t230 t231 t232 _ A6.out).mono ?_); rintro e w27 ⟨rfl, hb⟩; refine ⟨_, rfl, ?_⟩; have n0_ := am (IsS51.below (show IsS51 w ((((((w17.setCell ⟨gb227, 0, none⟩ (.int .i64 t218)).setCell ⟨gb227, 1, none⟩ (.int .i64 t219)).setCell ⟨gb228, 0, none⟩ (.int .i64 t221)).setCell ⟨gb228, 1, none⟩ (.int .i64 t222)).setCell ⟨gb229, 0, none⟩ (.int .i64 t224)).setCell ⟨gb229, 1, none⟩ (.int .i64 t225)) g217 t215 t226 from by repeat (first | (with_reducible first | exact HI217.out | apply IsS51.alloc | apply IsS51.drewN | apply IsS51.drew | apply IsS51.set_1 | refine IsS51.far ?_ NB217_227.out _ | refine IsS51.far ?_ NB217_228.out _ | refine IsS51.far ?_ NB217_229.out _) | exact HI217.out)) hb); have n1_ := am (qb (g := gb227) (o := .cells #[.int .i64 t218, .int .i64 t219] 23 (0, 0)) (by (with_reducible repeat (first | refine blk_drewN ?_ _ | refine blk_drew ?_ | refine blk_alloc ?_ _)); refine qf ?_ NB227_229.out _; (with_reducible repeat (first | refine blk_drewN ?_ _ | refine blk_drew ?_ | refine blk_alloc ?_ _)); refine qf ?_ NB227_229.out _; (with_reducible repeat (first | refine blk_drewN ?_ _ | refine blk_drew ?_ | refine blk_alloc ?_ _)); refine qf ?_ NB227_228.out _; (with_reducible repeat (first | refine blk_drewN ?_ _ | refine blk_drew ?_ | refine blk_alloc ?_ _)); refine qf ?_ NB227_228.out _; (with_reducible repeat (first | refine blk_drewN ?_ _ | refine blk_drew ?_ | refine blk_alloc ?_ _)); refine blk_put (cs := #[.int .i64 t218, .int .i64 0]) ?_ 1 _ rfl; (with_reducible repeat (first | refine blk_drewN ?_ _ | refine blk_drew ?_ | refine blk_alloc ?_ _)); refine blk_put (cs := #[.int .i64 0, .int .i64 0]) ?_ 0 _ rfl; (with_reducible repeat (first | refine blk_drewN ?_ _ | refine blk_drew ?_ | refine blk_alloc ?_ _)); exact BK227.out) hb); have n2_ := am (qb (g := gb228) (o := .cells #[.int .i64 t221, .int .i64 t222] 23 (0, 0)) (by (with_reducible repeat (first | refine blk_drewN ?_ _ | refine blk_drew ?_ | refine blk_alloc ?_ _)); refine qf ?_ NB228_229.out _; (with_reducible repeat (first | refine blk_drewN ?_ _ | refine blk_drew ?_ | refine blk_alloc ?_ _)); refine qf ?_ NB228_229.out _; (with_reducible repeat (first | refine blk_drewN ?_ _ | refine blk_drew ?_ | refine blk_alloc ?_ _)); refine blk_put (cs := #[.int .i64 t221, .int .i64 0]) ?_ 1 _ rfl; (with_reducible repeat (first | refine blk_drewN ?_ _ | refine blk_drew ?_ | refine blk_alloc ?_ _)); refine blk_put (cs := #[.int .i64 0, .int .i64 0]) ?_ 0 _ rfl; (with_reducible repeat (first | refine blk_drewN ?_ _ | refine blk_drew ?_ | refine blk_alloc ?_ _)); refine qf ?_ NB228_227.out _; (with_reducible repeat (first | refine blk_drewN ?_ _ | refine blk_drew ?_ | refine blk_alloc ?_ _)); refine qf ?_ NB228_227.out _; (with_reducible repeat (first | refine blk_drewN ?_ _ | refine blk_drew ?_ | refine blk_alloc ?_ _)); exact BK228.out) hb); have n3_ := am (qb (g := gb229) (o := .cells #[.int .i64 t224, .int .i64 t225] 23 (0, 0)) (by (with_reducible repeat (first | refine blk_drewN ?_ _ | refine blk_drew ?_ | refine blk_alloc ?_ _)); refine blk_put (cs := #[.int .i64 t224, .int .i64 0]) ?_ 1 _ rfl; (with_reducible repeat (first | refine blk_drewN ?_ _ | refine blk_drew ?_ | refine blk_alloc ?_ _)); refine blk_put (cs := #[.int .i64 0, .int .i64 0]) ?_ 0 _ rfl; (with_reducible repeat (first | refine blk_drewN ?_ _ | refine blk_drew ?_ | refine blk_alloc ?_ _)); refine qf ?_ NB229_228.out _; (with_reducible repeat (first | refine blk_drewN ?_ _ | refine blk_drew ?_ | refine blk_alloc ?_ _)); refine qf ?_ NB229_228.out _; (with_reducible repeat (first | refine blk_drewN ?_ _ | refine blk_drew ?_ | refine blk_alloc ?_ _)); refine qf ?_ NB229_227.out _; (with_reducible repeat (first | refine blk_drewN ?_ _ | refine blk_drew ?_ | refine blk_alloc ?_ _)); refine qf ?_ NB229_227.out _; (with_reducible repeat (first | refine blk_drewN ?_ _ | refine blk_drew ?_ | refine blk_alloc ?_ _)); exact BK229.out) hb); have n4_ := am (q8 (by repeat (first | (with_reducible first | exact HB.out | apply q4 | apply q5 | apply q6 | refine q7 ?_ (IsS51.ge HI217.out) | refine q7 ?_ GE227.out | refine q7 ?_ GE228.out | refine q7 ?_ GE229.out) | exact HB.out)) hb); clear HI217; clear BK227; clear BK228; clear BK229; clear HB; have HI217 := n0_; have BK227 := n1_; have BK228 := n2_; have BK229 := n3_; have HB := n4_; clear n0_ n1_ n2_ n3_ n4_; (try clear hb); (try clear hb2); (try clear hk); (try clear hi)) | ((with_reducible refine gate_dst (N := 7) rfl ?_); refine box_event ?hg (N := 7) ?hd (cs := #[.int .i64 0, .int .i64 0]) (t := 23) ?hr ?_; (case hd => rfl); (case hg => rfl); (case hr => first | (go_simp; done) | (go_simp; rfl)); intro gb233 hg w28 hbox hb; have n0_ := am (IsS51.below (by repeat (first | (with_reducible first | exact HI217.out | apply IsS51.alloc | apply IsS51.drewN | apply IsS51.drew | apply IsS51.set_1 | refine IsS51.far ?_ NB217_227.out _ | refine IsS51.far ?_ NB217_228.out _ | refine IsS51.far ?_ NB217_229.out _) | exact HI217.out)) hb); have n1_ := am (qb (g := gb227) BK227.out hb); have n2_ := am (qb (g := gb228) BK228.out hb); have n3_ := am (qb (g := gb229) BK229.out hb); have n4_ := am (q8 (by repeat (first | (with_reducible first | exact HB.out | apply q4 | apply q5 | apply q6 | refine q7 ?_ (IsS51.ge HI217.out) | refine q7 ?_ GE227.out | refine q7 ?_ GE228.out | refine q7 ?_ GE229.out) | exact HB.out)) hb); have n5_ := am (hbox); have n6_ := am ((by rw [hg]; exact (q9 (by repeat (first | (with_reducible first | exact HB.out | apply q4 | apply q5 | apply q6 | refine q7 ?_ (IsS51.ge HI217.out) | refine q7 ?_ GE227.out | refine q7 ?_ GE228.out | refine q7 ?_ GE229.out) | exact HB.out))) : w.heap.size ≤ gb233)); have n7_ := am ((by rw [hg]; exact (q9 (by repeat (first | (with_reducible first | exact HB.out | apply q4 | apply q5 | apply q6 | refine q7 ?_ (IsS51.ge HI217.out) | refine q7 ?_ GE227.out | refine q7 ?_ GE228.out | refine q7 ?_ GE229.out) | exact HB.out))) : w.heap.size ≤ gb233)); have n8_ := am ((by rw [hg]; exact Nat.ne_of_lt (blk_lt (g := gb227) BK227.out) : gb227 ≠ gb233)); have n9_ := am ((by rw [hg]; exact Nat.ne_of_gt (blk_lt (g := gb227) BK227.out) : gb233 ≠ gb227)); have n10_ := am ((by rw [hg]; exact Nat.ne_of_lt (blk_lt (g := gb228) BK228.out) : gb228 ≠ gb233)); have n11_ := am ((by rw [hg]; exact Nat.ne_of_gt (blk_lt (g := gb228) BK228.out) : gb233 ≠ gb228)); have n12_ := am ((by rw [hg]; exact Nat.ne_of_lt (blk_lt (g := gb229) BK229.out) : gb229 ≠ gb233)); have n13_ := am ((by rw [hg]; exact Nat.ne_of_gt (blk_lt (g := gb229) BK229.out) : gb233 ≠ gb229)); have n14_ := am ((by rw [hg]; exact Nat.ne_of_lt (IsS51.lt (show IsS51 w _ g217 t215 t226 from by repeat (first | (with_reducible first | exact HI217.out | apply IsS51.alloc | apply IsS51.drewN | apply IsS51.drew | apply IsS51.set_1 | refine IsS51.far ?_ NB217_227.out _ | refine IsS51.far ?_ NB217_228.out _ | refine IsS51.far ?_ NB217_229.out _) | exact HI217.out))) : g217 ≠ gb233)); have n15_ := am ((by rw [hg]; exact Nat.ne_of_gt (IsS51.lt (show IsS51 w _ g217 t215 t226 from by repeat (first | (with_reducible first | exact HI217.out | apply IsS51.alloc | apply IsS51.drewN | apply IsS51.drew | apply IsS51.set_1 | refine IsS51.far ?_ NB217_227.out _ | refine IsS51.far ?_ NB217_228.out _ | refine IsS51.far ?_ NB217_229.out _) | exact HI217.out))) : gb233 ≠ g217)); clear HI217; clear BK227; clear BK228; clear BK229; clear HB; have HI217 := n0_; have BK227 := n1_; have BK228 := n2_; have BK229 := n3_; have HB := n4_; have BK233 := n5_; have GW233 := n6_; have GE233 := n7_; have NB227_233 := n8_; have NB233_227 := n9_; have NB228_233 := n10_; have NB233_228 := n11_; have NB229_233 := n12_; have NB233_229 := n13_; have NB217_233 := n14_; have NB233_217 := n15_; clear n0_ n1_ n2_ n3_ n4_ n5_ n6_ n7_ n8_ n9_ n10_ n11_ n12_ n13_ n14_ n15_; clear hb hbox hg; have hnb29 := NB233_227.out; have hnc29 := NB227_233.out; have hnb30 := NB233_228.out; have hnc30 := NB228_233.out; have hnb31 := NB233_229.out; have hnc31 := NB229_233.out; have hnb32 := NB233_217.out; have hnc32 := NB217_233.out; have hcz33_0 : w28.cell? ⟨gb233, 0, none⟩ = some (.int .i64 0) := (blk_cell BK233.out 0).trans rfl; have hcz33_1 : w28.cell? ⟨gb233, 1, none⟩ = some (.int .i64 0) := (blk_cell BK233.out 1).trans rfl; have hfz33_0 := blk_frozen BK233.out 0; have hfz33_1 := blk_frozen BK233.out 1; have hcz34_0 : w28.cell? ⟨gb228, 0, none⟩ = some (.int .i64 t221) := (blk_cell BK228.out 0).trans rfl; have hcz34_1 : w28.cell? ⟨gb228, 1, none⟩ = some (.int .i64 t222) := (blk_cell BK228.out 1).trans rfl; have hfz34_0 := blk_frozen BK228.out 0; have hfz34_1 := blk_frozen BK228.out 1; have hcz35_0 : w28.cell? ⟨gb227, 0, none⟩ = some (.int .i64 t218) := (blk_cell BK227.out 0).trans rfl; have hcz35_1 : w28.cell? ⟨gb227, 1, none⟩ = some (.int .i64 t219) := (blk_cell BK227.out 1).trans rfl; have hfz35_0 := blk_frozen BK227.out 0; have hfz35_1 := blk_frozen BK227.out 1) | ((with_reducible refine gate_callee (f := 24) rfl ?_); refine goesL_ (some 44) rfl rfl Tryd.func24 (by kernel_rfl) rfl #[.agg #[.int .i64 t221, .int .i64 t222], .agg #[.int .i64 t218, .int .i64 t219]] rfl (by (try simp only [List.map_toArray, List.map_cons, List.map_nil]); first | done | rfl | (simp only [List.length_drop, List.length_take]; rfl)) ?_; (with_reducible refine (ratio_Add.calls k t221 t222 t218 t219 t234 t235 t236 _ A7.out).mono ?_); rintro e w36 ⟨rfl, hb⟩; refine ⟨_, rfl, ?_⟩; have n0_ := am (IsS51.below (show IsS51 w ((w28.setCell ⟨gb233, 0, none⟩ (.int .i64 t230)).setCell ⟨gb233, 1, none⟩ (.int .i64 t231)) g217 t215 t226 from by repeat (first | (with_reducible first | exact HI217.out | apply IsS51.alloc | apply IsS51.drewN | apply IsS51.drew | apply IsS51.set_1 | refine IsS51.far ?_ NB217_227.out _ | refine IsS51.far ?_ NB217_228.out _ | refine IsS51.far ?_ NB217_229.out _ | refine IsS51.far ?_ NB217_233.out _) | exact HI217.out)) hb); have n1_ := am (qb (g := gb227) (qf (blk_far BK227.out NB227_233.out _) NB227_233.out _) hb); have n2_ := am (qb (g := gb228) (qf (blk_far BK228.out NB228_233.out _) NB228_233.out _) hb); have n3_ := am (qb (g := gb229) (qf (blk_far BK229.out NB229_233.out _) NB229_233.out _) hb); have n4_ := am (qb (g := gb233) (o := .cells #[.int .i64 t230, .int .i64 t231] 23 (0, 0)) (by (with_reducible repeat (first | refine blk_drewN ?_ _ | refine blk_drew ?_ | refine blk_alloc ?_ _)); refine blk_put (cs := #[.int .i64 t230, .int .i64 0]) ?_ 1 _ rfl; (with_reducible repeat (first | refine blk_drewN ?_ _ | refine blk_drew ?_ | refine blk_alloc ?_ _)); refine blk_put (cs := #[.int .i64 0, .int .i64 0]) ?_ 0 _ rfl; (with_reducible repeat (first | refine blk_drewN ?_ _ | refine blk_drew ?_ | refine blk_alloc ?_ _)); exact BK233.out) hb); have n5_ := am (q8 (by repeat (first | (with_reducible first | exact HB.out | apply q4 | apply q5 | apply q6 | refine q7 ?_ (IsS51.ge HI217.out) | refine q7 ?_ GE227.out | refine q7 ?_ GE228.out | refine q7 ?_ GE229.out | refine q7 ?_ GE233.out) | exact HB.out)) hb); clear HI217; clear BK227; clear BK228; clear BK229; clear BK233; clear HB; have HI217 := n0_; have BK227 := n1_; have BK228 := n2_; have BK229 := n3_; have BK233 := n4_; have HB := n5_; clear n0_ n1_ n2_ n3_ n4_ n5_; (try clear hb); (try clear hb2); (try clear hk); (try clear hi)) | ((with_reducible refine gate_dst (N := 9) rfl ?_); refine box_event ?hg (N := 9) ?hd (cs := #[.int .i64 0, .int .i64 0]) (t := 23) ?hr ?_; (case hd => rfl); (case hg => rfl); (case hr => first | (go_simp; done) | (go_simp; rfl)); intro gb237 hg w37 hbox hb; have n0_ := am (IsS51.below (by repeat (first | (with_reducible first | exact HI217.out | apply IsS51.alloc | apply IsS51.drewN | apply IsS51.drew | apply IsS51.set_1 | refine IsS51.far ?_ NB217_227.out _ | refine IsS51.far ?_ NB217_228.out _ | refine IsS51.far ?_ NB217_229.out _ | refine IsS51.far ?_ NB217_233.out _) | exact HI217.out)) hb); have n1_ := am (qb (g := gb227) BK227.out hb); have n2_ := am (qb (g := gb228) BK228.out hb); have n3_ := am (qb (g := gb229) BK229.out hb); have n4_ := am (qb (g := gb233) BK233.out hb); have n5_ := am (q8 (by repeat (first | (with_reducible first | exact HB.out | apply q4 | apply q5 | apply q6 | refine q7 ?_ (IsS51.ge HI217.out) | refine q7 ?_ GE227.out | refine q7 ?_ GE228.out | refine q7 ?_ GE229.out | refine q7 ?_ GE233.out) | exact HB.out)) hb); have n6_ := am (hbox); have n7_ := am ((by rw [hg]; exact (q9 (by repeat (first | (with_reducible first | exact HB.out | apply q4 | apply q5 | apply q6 | refine q7 ?_ (IsS51.ge HI217.out) | refine q7 ?_ GE227.out | refine q7 ?_ GE228.out | refine q7 ?_ GE229.out | refine q7 ?_ GE233.out) | exact HB.out))) : w.heap.size ≤ gb237)); have n8_ := am ((by rw [hg]; exact (q9 (by repeat (first | (with_reducible first | exact HB.out | apply q4 | apply q5 | apply q6 | refine q7 ?_ (IsS51.ge HI217.out) | refine q7 ?_ GE227.out | refine q7 ?_ GE228.out | refine q7 ?_ GE229.out | refine q7 ?_ GE233.out) | exact HB.out))) : w.heap.size ≤ gb237)); have n9_ := am ((by rw [hg]; exact Nat.ne_of_lt (blk_lt (g := gb227) BK227.out) : gb227 ≠ gb237)); have n10_ := am ((by rw [hg]; exact Nat.ne_of_gt (blk_lt (g := gb227) BK227.out) : gb237 ≠ gb227)); have n11_ := am ((by rw [hg]; exact Nat.ne_of_lt (blk_lt (g := gb228) BK228.out) : gb228 ≠ gb237)); have n12_ := am ((by rw [hg]; exact Nat.ne_of_gt (blk_lt (g := gb228) BK228.out) : gb237 ≠ gb228)); have n13_ := am ((by rw [hg]; exact Nat.ne_of_lt (blk_lt (g := gb229) BK229.out) : gb229 ≠ gb237)); have n14_ := am ((by rw [hg]; exact Nat.ne_of_gt (blk_lt (g := gb229) BK229.out) : gb237 ≠ gb229)); have n15_ := am ((by rw [hg]; exact Nat.ne_of_lt (blk_lt (g := gb233) BK233.out) : gb233 ≠ gb237)); have n16_ := am ((by rw [hg]; exact Nat.ne_of_gt (blk_lt (g := gb233) BK233.out) : gb237 ≠ gb233)); have n17_ := am ((by rw [hg]; exact Nat.ne_of_lt (IsS51.lt (show IsS51 w _ g217 t215 t226 from by repeat (first | (with_reducible first | exact HI217.out | apply IsS51.alloc | apply IsS51.drewN | apply IsS51.drew | apply IsS51.set_1 | refine IsS51.far ?_ NB217_227.out _ | refine IsS51.far ?_ NB217_228.out _ | refine IsS51.far ?_ NB217_229.out _ | refine IsS51.far ?_ NB217_233.out _) | exact HI217.out))) : g217 ≠ gb237)); have n18_ := am ((by rw [hg]; exact Nat.ne_of_gt (IsS51.lt (show IsS51 w _ g217 t215 t226 from by repeat (first | (with_reducible first | exact HI217.out | apply IsS51.alloc | apply IsS51.drewN | apply IsS51.drew | apply IsS51.set_1 | refine IsS51.far ?_ NB217_227.out _ | refine IsS51.far ?_ NB217_228.out _ | refine IsS51.far ?_ NB217_229.out _ | refine IsS51.far ?_ NB217_233.out _) | exact HI217.out))) : gb237 ≠ g217)); clear HI217; clear BK227; clear BK228; clear BK229; clear BK233; clear HB; have HI217 := n0_; have BK227 := n1_; have BK228 := n2_; have BK229 := n3_; have BK233 := n4_; have HB := n5_; have BK237 := n6_; have GW237 := n7_; have GE237 := n8_; have NB227_237 := n9_; have NB237_227 := n10_; have NB228_237 := n11_; have NB237_228 := n12_; have NB229_237 := n13_; have NB237_229 := n14_; have NB233_237 := n15_; have NB237_233 := n16_; have NB217_237 := n17_; have NB237_217 := n18_; clear n0_ n1_ n2_ n3_ n4_ n5_ n6_ n7_ n8_ n9_ n10_ n11_ n12_ n13_ n14_ n15_ n16_ n17_ n18_; clear hb hbox hg; have hnb38 := NB237_227.out; have hnc38 := NB227_237.out; have hnb39 := NB237_228.out; have hnc39 := NB228_237.out; have hnb40 := NB237_229.out; have hnc40 := NB229_237.out; have hnb41 := NB237_233.out; have hnc41 := NB233_237.out; have hnb42 := NB237_217.out; have hnc42 := NB217_237.out; have hcz43_0 : w37.cell? ⟨gb237, 0, none⟩ = some (.int .i64 0) := (blk_cell BK237.out 0).trans rfl; have hcz43_1 : w37.cell? ⟨gb237, 1, none⟩ = some (.int .i64 0) := (blk_cell BK237.out 1).trans rfl; have hfz43_0 := blk_frozen BK237.out 0; have hfz43_1 := blk_frozen BK237.out 1; have hcz44_0 : w37.cell? ⟨gb227, 0, none⟩ = some (.int .i64 t218) := (blk_cell BK227.out 0).trans rfl; have hcz44_1 : w37.cell? ⟨gb227, 1, none⟩ = some (.int .i64 t219) := (blk_cell BK227.out 1).trans rfl; have hfz44_0 := blk_frozen BK227.out 0; have hfz44_1 := blk_frozen BK227.out 1; have hcz45_0 : w37.cell? ⟨gb228, 0, none⟩ = some (.int .i64 t221) := (blk_cell BK228.out 0).trans rfl; have hcz45_1 : w37.cell? ⟨gb228, 1, none⟩ = some (.int .i64 t222) := (blk_cell BK228.out 1).trans rfl; have hfz45_0 := blk_frozen BK228.out 0; have hfz45_1 := blk_frozen BK228.out 1) | ((with_reducible refine gate_callee (f := 25) rfl ?_); refine goesL_ (some 50) rfl rfl Tryd.func25 (by kernel_rfl) rfl #[.agg #[.int .i64 t218, .int .i64 t219], .agg #[.int .i64 t221, .int .i64 t222]] rfl (by (try simp only [List.map_toArray, List.map_cons, List.map_nil]); first | done | rfl | (simp only [List.length_drop, List.length_take]; rfl)) ?_; (with_reducible refine (ratio_Mul.calls k t218 t219 t221 t222 t238 t239 t240 _ A8.out).mono ?_); rintro e w46 ⟨rfl, hb⟩; refine ⟨_, rfl, ?_⟩; have n0_ := am (IsS51.below (show IsS51 w ((w37.setCell ⟨gb237, 0, none⟩ (.int .i64 t234)).setCell ⟨gb237, 1, none⟩ (.int .i64 t235)) g217 t215 t226 from by repeat (first | (with_reducible first | exact HI217.out | apply IsS51.alloc | apply IsS51.drewN | apply IsS51.drew | apply IsS51.set_1 | refine IsS51.far ?_ NB217_227.out _ | refine IsS51.far ?_ NB217_228.out _ | refine IsS51.far ?_ NB217_229.out _ | refine IsS51.far ?_ NB217_233.out _ | refine IsS51.far ?_ NB217_237.out _) | exact HI217.out)) hb); have n1_ := am (qb (g := gb227) (qf (blk_far BK227.out NB227_237.out _) NB227_237.out _) hb); have n2_ := am (qb (g := gb228) (qf (blk_far BK228.out NB228_237.out _) NB228_237.out _) hb); have n3_ := am (qb (g := gb229) (qf (blk_far BK229.out NB229_237.out _) NB229_237.out _) hb); have n4_ := am (qb (g := gb233) (qf (blk_far BK233.out NB233_237.out _) NB233_237.out _) hb); have n5_ := am (qb (g := gb237) (o := .cells #[.int .i64 t234, .int .i64 t235] 23 (0, 0)) (by (with_reducible repeat (first | refine blk_drewN ?_ _ | refine blk_drew ?_ | refine blk_alloc ?_ _)); refine blk_put (cs := #[.int .i64 t234, .int .i64 0]) ?_ 1 _ rfl; (with_reducible repeat (first | refine blk_drewN ?_ _ | refine blk_drew ?_ | refine blk_alloc ?_ _)); refine blk_put (cs := #[.int .i64 0, .int .i64 0]) ?_ 0 _ rfl; (with_reducible repeat (first | refine blk_drewN ?_ _ | refine blk_drew ?_ | refine blk_alloc ?_ _)); exact BK237.out) hb); have n6_ := am (q8 (by repeat (first | (with_reducible first | exact HB.out | apply q4 | apply q5 | apply q6 | refine q7 ?_ (IsS51.ge HI217.out) | refine q7 ?_ GE227.out | refine q7 ?_ GE228.out | refine q7 ?_ GE229.out | refine q7 ?_ GE233.out | refine q7 ?_ GE237.out) | exact HB.out)) hb); clear HI217; clear BK227; clear BK228; clear BK229; clear BK233; clear BK237; clear HB; have HI217 := n0_; have BK227 := n1_; have BK228 := n2_; have BK229 := n3_; have BK233 := n4_; have BK237 := n5_; have HB := n6_; clear n0_ n1_ n2_ n3_ n4_ n5_ n6_; (try clear hb); (try clear hb2); (try clear hk); (try clear hi)) | ((with_reducible refine gate_dst (N := 11) rfl ?_); refine box_event ?hg (N := 11) ?hd (cs := #[.int .i64 0, .int .i64 0]) (t := 23) ?hr ?_; (case hd => rfl); (case hg => rfl); (case hr => first | (go_simp; done) | (go_simp; rfl)); intro gb241 hg w47 hbox hb; have n0_ := am (IsS51.below (by repeat (first | (with_reducible first | exact HI217.out | apply IsS51.alloc | apply IsS51.drewN | apply IsS51.drew | apply IsS51.set_1 | refine IsS51.far ?_ NB217_227.out _ | refine IsS51.far ?_ NB217_228.out _ | refine IsS51.far ?_ NB217_229.out _ | refine IsS51.far ?_ NB217_233.out _ | refine IsS51.far ?_ NB217_237.out _) | exact HI217.out)) hb); have n1_ := am (qb (g := gb227) BK227.out hb); have n2_ := am (qb (g := gb228) BK228.out hb); have n3_ := am (qb (g := gb229) BK229.out hb); have n4_ := am (qb (g := gb233) BK233.out hb); have n5_ := am (qb (g := gb237) BK237.out hb); have n6_ := am (q8 (by repeat (first | (with_reducible first | exact HB.out | apply q4 | apply q5 | apply q6 | refine q7 ?_ (IsS51.ge HI217.out) | refine q7 ?_ GE227.out | refine q7 ?_ GE228.out | refine q7 ?_ GE229.out | refine q7 ?_ GE233.out | refine q7 ?_ GE237.out) | exact HB.out)) hb); have n7_ := am (hbox); have n8_ := am ((by rw [hg]; exact (q9 (by repeat (first | (with_reducible first | exact HB.out | apply q4 | apply q5 | apply q6 | refine q7 ?_ (IsS51.ge HI217.out) | refine q7 ?_ GE227.out | refine q7 ?_ GE228.out | refine q7 ?_ GE229.out | refine q7 ?_ GE233.out | refine q7 ?_ GE237.out) | exact HB.out))) : w.heap.size ≤ gb241)); have n9_ := am ((by rw [hg]; exact (q9 (by repeat (first | (with_reducible first | exact HB.out | apply q4 | apply q5 | apply q6 | refine q7 ?_ (IsS51.ge HI217.out) | refine q7 ?_ GE227.out | refine q7 ?_ GE228.out | refine q7 ?_ GE229.out | refine q7 ?_ GE233.out | refine q7 ?_ GE237.out) | exact HB.out))) : w.heap.size ≤ gb241)); have n10_ := am ((by rw [hg]; exact Nat.ne_of_lt (blk_lt (g := gb227) BK227.out) : gb227 ≠ gb241)); have n11_ := am ((by rw [hg]; exact Nat.ne_of_gt (blk_lt (g := gb227) BK227.out) : gb241 ≠ gb227)); have n12_ := am ((by rw [hg]; exact Nat.ne_of_lt (blk_lt (g := gb228) BK228.out) : gb228 ≠ gb241)); have n13_ := am ((by rw [hg]; exact Nat.ne_of_gt (blk_lt (g := gb228) BK228.out) : gb241 ≠ gb228)); have n14_ := am ((by rw [hg]; exact Nat.ne_of_lt (blk_lt (g := gb229) BK229.out) : gb229 ≠ gb241)); have n15_ := am ((by rw [hg]; exact Nat.ne_of_gt (blk_lt (g := gb229) BK229.out) : gb241 ≠ gb229)); have n16_ := am ((by rw [hg]; exact Nat.ne_of_lt (blk_lt (g := gb233) BK233.out) : gb233 ≠ gb241)); have n17_ := am ((by rw [hg]; exact Nat.ne_of_gt (blk_lt (g := gb233) BK233.out) : gb241 ≠ gb233)); have n18_ := am ((by rw [hg]; exact Nat.ne_of_lt (blk_lt (g := gb237) BK237.out) : gb237 ≠ gb241)); have n19_ := am ((by rw [hg]; exact Nat.ne_of_gt (blk_lt (g := gb237) BK237.out) : gb241 ≠ gb237)); have n20_ := am ((by rw [hg]; exact Nat.ne_of_lt (IsS51.lt (show IsS51 w _ g217 t215 t226 from by repeat (first | (with_reducible first | exact HI217.out | apply IsS51.alloc | apply IsS51.drewN | apply IsS51.drew | apply IsS51.set_1 | refine IsS51.far ?_ NB217_227.out _ | refine IsS51.far ?_ NB217_228.out _ | refine IsS51.far ?_ NB217_229.out _ | refine IsS51.far ?_ NB217_233.out _ | refine IsS51.far ?_ NB217_237.out _) | exact HI217.out))) : g217 ≠ gb241)); have n21_ := am ((by rw [hg]; exact Nat.ne_of_gt (IsS51.lt (show IsS51 w _ g217 t215 t226 from by repeat (first | (with_reducible first | exact HI217.out | apply IsS51.alloc | apply IsS51.drewN | apply IsS51.drew | apply IsS51.set_1 | refine IsS51.far ?_ NB217_227.out _ | refine IsS51.far ?_ NB217_228.out _ | refine IsS51.far ?_ NB217_229.out _ | refine IsS51.far ?_ NB217_233.out _ | refine IsS51.far ?_ NB217_237.out _) | exact HI217.out))) : gb241 ≠ g217)); clear HI217; clear BK227; clear BK228; clear BK229; clear BK233; clear BK237; clear HB; have HI217 := n0_; have BK227 := n1_; have BK228 := n2_; have BK229 := n3_; have BK233 := n4_; have BK237 := n5_; have HB := n6_; have BK241 := n7_; have GW241 := n8_; have GE241 := n9_; have NB227_241 := n10_; have NB241_227 := n11_; have NB228_241 := n12_; have NB241_228 := n13_; have NB229_241 := n14_; have NB241_229 := n15_; have NB233_241 := n16_; have NB241_233 := n17_; have NB237_241 := n18_; have NB241_237 := n19_; have NB217_241 := n20_; have NB241_217 := n21_; clear n0_ n1_ n2_ n3_ n4_ n5_ n6_ n7_ n8_ n9_ n10_ n11_ n12_ n13_ n14_ n15_ n16_ n17_ n18_ n19_ n20_ n21_; clear hb hbox hg; have hnb48 := NB241_227.out; have hnc48 := NB227_241.out; have hnb49 := NB241_228.out; have hnc49 := NB228_241.out; have hnb50 := NB241_229.out; have hnc50 := NB229_241.out; have hnb51 := NB241_233.out; have hnc51 := NB233_241.out; have hnb52 := NB241_237.out; have hnc52 := NB237_241.out; have hnb53 := NB241_217.out; have hnc53 := NB217_241.out; have hcz54_0 : w47.cell? ⟨gb241, 0, none⟩ = some (.int .i64 0) := (blk_cell BK241.out 0).trans rfl; have hcz54_1 : w47.cell? ⟨gb241, 1, none⟩ = some (.int .i64 0) := (blk_cell BK241.out 1).trans rfl; have hfz54_0 := blk_frozen BK241.out 0; have hfz54_1 := blk_frozen BK241.out 1; have hcz55_0 : w47.cell? ⟨gb228, 0, none⟩ = some (.int .i64 t221) := (blk_cell BK228.out 0).trans rfl; have hcz55_1 : w47.cell? ⟨gb228, 1, none⟩ = some (.int .i64 t222) := (blk_cell BK228.out 1).trans rfl; have hfz55_0 := blk_frozen BK228.out 0; have hfz55_1 := blk_frozen BK228.out 1; have hcz56_0 : w47.cell? ⟨gb227, 0, none⟩ = some (.int .i64 t218) := (blk_cell BK227.out 0).trans rfl; have hcz56_1 : w47.cell? ⟨gb227, 1, none⟩ = some (.int .i64 t219) := (blk_cell BK227.out 1).trans rfl; have hfz56_0 := blk_frozen BK227.out 0; have hfz56_1 := blk_frozen BK227.out 1) | ((with_reducible refine gate_callee (f := 25) rfl ?_); refine goesL_ (some 56) rfl rfl Tryd.func25 (by kernel_rfl) rfl #[.agg #[.int .i64 t221, .int .i64 t222], .agg #[.int .i64 t218, .int .i64 t219]] rfl (by (try simp only [List.map_toArray, List.map_cons, List.map_nil]); first | done | rfl | (simp only [List.length_drop, List.length_take]; rfl)) ?_; (with_reducible refine (ratio_Mul.calls k t221 t222 t218 t219 t242 t243 t244 _ A9.out).mono ?_); rintro e w57 ⟨rfl, hb⟩; refine ⟨_, rfl, ?_⟩; have n0_ := am (IsS51.below (show IsS51 w ((w47.setCell ⟨gb241, 0, none⟩ (.int .i64 t238)).setCell ⟨gb241, 1, none⟩ (.int .i64 t239)) g217 t215 t226 from by repeat (first | (with_reducible first | exact HI217.out | apply IsS51.alloc | apply IsS51.drewN | apply IsS51.drew | apply IsS51.set_1 | refine IsS51.far ?_ NB217_227.out _ | refine IsS51.far ?_ NB217_228.out _ | refine IsS51.far ?_ NB217_229.out _ | refine IsS51.far ?_ NB217_233.out _ | refine IsS51.far ?_ NB217_237.out _ | refine IsS51.far ?_ NB217_241.out _) | exact HI217.out)) hb); have n1_ := am (qb (g := gb227) (qf (blk_far BK227.out NB227_241.out _) NB227_241.out _) hb); have n2_ := am (qb (g := gb228) (qf (blk_far BK228.out NB228_241.out _) NB228_241.out _) hb); have n3_ := am (qb (g := gb229) (qf (blk_far BK229.out NB229_241.out _) NB229_241.out _) hb); have n4_ := am (qb (g := gb233) (qf (blk_far BK233.out NB233_241.out _) NB233_241.out _) hb); have n5_ := am (qb (g := gb237) (qf (blk_far BK237.out NB237_241.out _) NB237_241.out _) hb); have n6_ := am (qb (g := gb241) (o := .cells #[.int .i64 t238, .int .i64 t239] 23 (0, 0)) (by (with_reducible repeat (first | refine blk_drewN ?_ _ | refine blk_drew ?_ | refine blk_alloc ?_ _)); refine blk_put (cs := #[.int .i64 t238, .int .i64 0]) ?_ 1 _ rfl; (with_reducible repeat (first | refine blk_drewN ?_ _ | refine blk_drew ?_ | refine blk_alloc ?_ _)); refine blk_put (cs := #[.int .i64 0, .int .i64 0]) ?_ 0 _ rfl; (with_reducible repeat (first | refine blk_drewN ?_ _ | refine blk_drew ?_ | refine blk_alloc ?_ _)); exact BK241.out) hb); have n7_ := am (q8 (by repeat (first | (with_reducible first | exact HB.out | apply q4 | apply q5 | apply q6 | refine q7 ?_ (IsS51.ge HI217.out) | refine q7 ?_ GE227.out | refine q7 ?_ GE228.out | refine q7 ?_ GE229.out | refine q7 ?_ GE233.out | refine q7 ?_ GE237.out | refine q7 ?_ GE241.out) | exact HB.out)) hb); clear HI217; clear BK227; clear BK228; clear BK229; clear BK233; clear BK237; clear BK241; clear HB; have HI217 := n0_; have BK227 := n1_; have BK228 := n2_; have BK229 := n3_; have BK233 := n4_; have BK237 := n5_; have BK241 := n6_; have HB := n7_; clear n0_ n1_ n2_ n3_ n4_ n5_ n6_ n7_; (try clear hb); (try clear hb2); (try clear hk); (try clear hi)) | ((with_reducible refine gate_dst (N := 13) rfl ?_); refine box_event ?hg (N := 13) ?hd (cs := #[.int .i64 0, .int .i64 0]) (t := 23) ?hr ?_; (case hd => rfl); (case hg => rfl); (case hr => first | (go_simp; done) | (go_simp; rfl)); intro gb245 hg w58 hbox hb; have n0_ := am (IsS51.below (by repeat (first | (with_reducible first | exact HI217.out | apply IsS51.alloc | apply IsS51.drewN | apply IsS51.drew | apply IsS51.set_1 | refine IsS51.far ?_ NB217_227.out _ | refine IsS51.far ?_ NB217_228.out _ | refine IsS51.far ?_ NB217_229.out _ | refine IsS51.far ?_ NB217_233.out _ | refine IsS51.far ?_ NB217_237.out _ | refine IsS51.far ?_ NB217_241.out _) | exact HI217.out)) hb); have n1_ := am (qb (g := gb227) BK227.out hb); have n2_ := am (qb (g := gb228) BK228.out hb); have n3_ := am (qb (g := gb229) BK229.out hb); have n4_ := am (qb (g := gb233) BK233.out hb); have n5_ := am (qb (g := gb237) BK237.out hb); have n6_ := am (qb (g := gb241) BK241.out hb); have n7_ := am (q8 (by repeat (first | (with_reducible first | exact HB.out | apply q4 | apply q5 | apply q6 | refine q7 ?_ (IsS51.ge HI217.out) | refine q7 ?_ GE227.out | refine q7 ?_ GE228.out | refine q7 ?_ GE229.out | refine q7 ?_ GE233.out | refine q7 ?_ GE237.out | refine q7 ?_ GE241.out) | exact HB.out)) hb); have n8_ := am (hbox); have n9_ := am ((by rw [hg]; exact (q9 (by repeat (first | (with_reducible first | exact HB.out | apply q4 | apply q5 | apply q6 | refine q7 ?_ (IsS51.ge HI217.out) | refine q7 ?_ GE227.out | refine q7 ?_ GE228.out | refine q7 ?_ GE229.out | refine q7 ?_ GE233.out | refine q7 ?_ GE237.out | refine q7 ?_ GE241.out) | exact HB.out))) : w.heap.size ≤ gb245)); have n10_ := am ((by rw [hg]; exact (q9 (by repeat (first | (with_reducible first | exact HB.out | apply q4 | apply q5 | apply q6 | refine q7 ?_ (IsS51.ge HI217.out) | refine q7 ?_ GE227.out | refine q7 ?_ GE228.out | refine q7 ?_ GE229.out | refine q7 ?_ GE233.out | refine q7 ?_ GE237.out | refine q7 ?_ GE241.out) | exact HB.out))) : w.heap.size ≤ gb245)); have n11_ := am ((by rw [hg]; exact Nat.ne_of_lt (blk_lt (g := gb227) BK227.out) : gb227 ≠ gb245)); have n12_ := am ((by rw [hg]; exact Nat.ne_of_gt (blk_lt (g := gb227) BK227.out) : gb245 ≠ gb227)); have n13_ := am ((by rw [hg]; exact Nat.ne_of_lt (blk_lt (g := gb228) BK228.out) : gb228 ≠ gb245)); have n14_ := am ((by rw [hg]; exact Nat.ne_of_gt (blk_lt (g := gb228) BK228.out) : gb245 ≠ gb228)); have n15_ := am ((by rw [hg]; exact Nat.ne_of_lt (blk_lt (g := gb229) BK229.out) : gb229 ≠ gb245)); have n16_ := am ((by rw [hg]; exact Nat.ne_of_gt (blk_lt (g := gb229) BK229.out) : gb245 ≠ gb229)); have n17_ := am ((by rw [hg]; exact Nat.ne_of_lt (blk_lt (g := gb233) BK233.out) : gb233 ≠ gb245)); have n18_ := am ((by rw [hg]; exact Nat.ne_of_gt (blk_lt (g := gb233) BK233.out) : gb245 ≠ gb233)); have n19_ := am ((by rw [hg]; exact Nat.ne_of_lt (blk_lt (g := gb237) BK237.out) : gb237 ≠ gb245)); have n20_ := am ((by rw [hg]; exact Nat.ne_of_gt (blk_lt (g := gb237) BK237.out) : gb245 ≠ gb237)); have n21_ := am ((by rw [hg]; exact Nat.ne_of_lt (blk_lt (g := gb241) BK241.out) : gb241 ≠ gb245)); have n22_ := am ((by rw [hg]; exact Nat.ne_of_gt (blk_lt (g := gb241) BK241.out) : gb245 ≠ gb241)); have n23_ := am ((by rw [hg]; exact Nat.ne_of_lt (IsS51.lt (show IsS51 w _ g217 t215 t226 from by repeat (first | (with_reducible first | exact HI217.out | apply IsS51.alloc | apply IsS51.drewN | apply IsS51.drew | apply IsS51.set_1 | refine IsS51.far ?_ NB217_227.out _ | refine IsS51.far ?_ NB217_228.out _ | refine IsS51.far ?_ NB217_229.out _ | refine IsS51.far ?_ NB217_233.out _ | refine IsS51.far ?_ NB217_237.out _ | refine IsS51.far ?_ NB217_241.out _) | exact HI217.out))) : g217 ≠ gb245)); have n24_ := am ((by rw [hg]; exact Nat.ne_of_gt (IsS51.lt (show IsS51 w _ g217 t215 t226 from by repeat (first | (with_reducible first | exact HI217.out | apply IsS51.alloc | apply IsS51.drewN | apply IsS51.drew | apply IsS51.set_1 | refine IsS51.far ?_ NB217_227.out _ | refine IsS51.far ?_ NB217_228.out _ | refine IsS51.far ?_ NB217_229.out _ | refine IsS51.far ?_ NB217_233.out _ | refine IsS51.far ?_ NB217_237.out _ | refine IsS51.far ?_ NB217_241.out _) | exact HI217.out))) : gb245 ≠ g217)); clear HI217; clear BK227; clear BK228; clear BK229; clear BK233; clear BK237; clear BK241; clear HB; have HI217 := n0_; have BK227 := n1_; have BK228 := n2_; have BK229 := n3_; have BK233 := n4_; have BK237 := n5_; have BK241 := n6_; have HB := n7_; have BK245 := n8_; have GW245 := n9_; have GE245 := n10_; have NB227_245 := n11_; have NB245_227 := n12_; have NB228_245 := n13_; have NB245_228 := n14_; have NB229_245 := n15_; have NB245_229 := n16_; have NB233_245 := n17_; have NB245_233 := n18_; have NB237_245 := n19_; have NB245_237 := n20_; have NB241_245 := n21_; have NB245_241 := n22_; have NB217_245 := n23_; have NB245_217 := n24_; clear n0_ n1_ n2_ n3_ n4_ n5_ n6_ n7_ n8_ n9_ n10_ n11_ n12_ n13_ n14_ n15_ n16_ n17_ n18_ n19_ n20_ n21_ n22_ n23_ n24_; clear hb hbox hg; have hnb59 := NB245_227.out; have hnc59 := NB227_245.out; have hnb60 := NB245_228.out; have hnc60 := NB228_245.out; have hnb61 := NB245_229.out; have hnc61 := NB229_245.out; have hnb62 := NB245_233.out; have hnc62 := NB233_245.out; have hnb63 := NB245_237.out; have hnc63 := NB237_245.out; have hnb64 := NB245_241.out; have hnc64 := NB241_245.out; have hnb65 := NB245_217.out; have hnc65 := NB217_245.out; have hcz66_0 : w58.cell? ⟨gb245, 0, none⟩ = some (.int .i64 0) := (blk_cell BK245.out 0).trans rfl; have hcz66_1 : w58.cell? ⟨gb245, 1, none⟩ = some (.int .i64 0) := (blk_cell BK245.out 1).trans rfl; have hfz66_0 := blk_frozen BK245.out 0; have hfz66_1 := blk_frozen BK245.out 1))
  (try simp only [Act.put, List.setIfInBounds_toArray, List.set_cons_zero, List.set_cons_succ])
  go_cut [76] (fun v76 wc => ∃ (kq : Nat) (x76_9 : Bool), v76 = .bool x76_9 ∧ Aside0 (payrolllaw1_RatioField.j0 kq t232 t240 x76_9 t218 t219 t221 t222 t224 t225 t230 t231 t238 t239 = some true) ∧ Aside0 (kq ≤ k) ∧ Aside0 (wc.heap[gb227]? = some (.cells #[.int .i64 t218, .int .i64 t219] 23 (0, 0))) ∧ Aside0 (wc.heap[gb228]? = some (.cells #[.int .i64 t221, .int .i64 t222] 23 (0, 0))) ∧ Aside0 (wc.heap[gb229]? = some (.cells #[.int .i64 t224, .int .i64 t225] 23 (0, 0))) ∧ Aside0 (wc.heap[gb233]? = some (.cells #[.int .i64 t230, .int .i64 t231] 23 (0, 0))) ∧ Aside0 (wc.heap[gb237]? = some (.cells #[.int .i64 t234, .int .i64 t235] 23 (0, 0))) ∧ Aside0 (wc.heap[gb241]? = some (.cells #[.int .i64 t238, .int .i64 t239] 23 (0, 0))) ∧ Aside0 (wc.heap[gb245]? = some (.cells #[.int .i64 t242, .int .i64 t243] 23 (0, 0))) ∧ Aside0 (Below w.heap.size w wc))
  case first =>
    have H := HC10.out
    clear HC10
    by_cases c67 : (!(t230 == t234) || (!(t231 == t235))) = true
    · rw [if_pos c67] at H
      have c67b0 : (!(t230 == t234) || (!(t231 == t235))) = true := c67
      clear c67
      (first | rw [c67b0] | (simp only [i64_w, i32_w]; rw [c67b0]) | skip)
      have H' := am H
      clear H
      have hnb68 := NB233_227.out
      have hnc68 := NB227_233.out
      have hnb69 := NB233_228.out
      have hnc69 := NB228_233.out
      have hnb70 := NB233_229.out
      have hnc70 := NB229_233.out
      have hnb71 := NB233_237.out
      have hnc71 := NB237_233.out
      have hnb72 := NB233_241.out
      have hnc72 := NB241_233.out
      have hnb73 := NB233_245.out
      have hnc73 := NB245_233.out
      have hnb74 := NB233_217.out
      have hnc74 := NB217_233.out
      have hcz75_0 : w58.cell? ⟨gb233, 0, none⟩ = some (.int .i64 t230) := (blk_cell BK233.out 0).trans rfl
      have hcz75_1 : w58.cell? ⟨gb233, 1, none⟩ = some (.int .i64 t231) := (blk_cell BK233.out 1).trans rfl
      have hfz75_0 := blk_frozen BK233.out 0
      have hfz75_1 := blk_frozen BK233.out 1
      have hnb76 := NB237_227.out
      have hnc76 := NB227_237.out
      have hnb77 := NB237_228.out
      have hnc77 := NB228_237.out
      have hnb78 := NB237_229.out
      have hnc78 := NB229_237.out
      have hnb79 := NB237_241.out
      have hnc79 := NB241_237.out
      have hnb80 := NB237_245.out
      have hnc80 := NB245_237.out
      have hnb81 := NB237_217.out
      have hnc81 := NB217_237.out
      have hcz82_0 : w58.cell? ⟨gb237, 0, none⟩ = some (.int .i64 t234) := (blk_cell BK237.out 0).trans rfl
      have hcz82_1 : w58.cell? ⟨gb237, 1, none⟩ = some (.int .i64 t235) := (blk_cell BK237.out 1).trans rfl
      have hfz82_0 := blk_frozen BK237.out 0
      have hfz82_1 := blk_frozen BK237.out 1
      go_wp2
      go_meet
      case rel => exact ⟨_, (true), (by first | rfl | (simp; done) | (simp [*]; done)), H', ⟨by first | omega | exact Nat.le_refl _⟩, ⟨qf (blk_far BK227.out NB227_245.out _) NB227_245.out _⟩, ⟨qf (blk_far BK228.out NB228_245.out _) NB228_245.out _⟩, ⟨qf (blk_far BK229.out NB229_245.out _) NB229_245.out _⟩, ⟨qf (blk_far BK233.out NB233_245.out _) NB233_245.out _⟩, ⟨qf (blk_far BK237.out NB237_245.out _) NB237_245.out _⟩, ⟨qf (blk_far BK241.out NB241_245.out _) NB241_245.out _⟩, ⟨by (with_reducible repeat (first | refine blk_drewN ?_ _ | refine blk_drew ?_ | refine blk_alloc ?_ _)); refine blk_put (cs := #[.int .i64 t242, .int .i64 0]) ?_ 1 _ rfl; (with_reducible repeat (first | refine blk_drewN ?_ _ | refine blk_drew ?_ | refine blk_alloc ?_ _)); refine blk_put (cs := #[.int .i64 0, .int .i64 0]) ?_ 0 _ rfl; (with_reducible repeat (first | refine blk_drewN ?_ _ | refine blk_drew ?_ | refine blk_alloc ?_ _)); exact BK245.out⟩, ⟨by repeat (first | (with_reducible first | exact HB.out | apply q4 | apply q5 | apply q6 | refine q7 ?_ (IsS51.ge HI217.out) | refine q7 ?_ GE227.out | refine q7 ?_ GE228.out | refine q7 ?_ GE229.out | refine q7 ?_ GE233.out | refine q7 ?_ GE237.out | refine q7 ?_ GE241.out | refine q7 ?_ GE245.out) | exact HB.out)⟩⟩
    · rw [if_neg c67] at H
      have c67b0 : (!(t230 == t234) || (!(t231 == t235))) = false := by simpa using c67
      clear c67
      (first | rw [c67b0] | (simp only [i64_w, i32_w]; rw [c67b0]) | skip)
      by_cases c83 : t232 = t236
      · rw [if_pos c83] at H
        have c83b0 : (t232 == t236) = true := beq_iff_eq.mpr c83
        have c83b1 : (t232 != t236) = false := bne_eq_false_iff_eq.mpr c83
        clear c83
        by_cases c84 : (!(t238 == t242) || (!(t239 == t243))) = true
        · rw [if_pos c84] at H
          have c84b0 : (!(t238 == t242) || (!(t239 == t243))) = true := c84
          clear c84
          have H' := am H
          clear H
          have hnb85 := NB233_227.out
          have hnc85 := NB227_233.out
          have hnb86 := NB233_228.out
          have hnc86 := NB228_233.out
          have hnb87 := NB233_229.out
          have hnc87 := NB229_233.out
          have hnb88 := NB233_237.out
          have hnc88 := NB237_233.out
          have hnb89 := NB233_241.out
          have hnc89 := NB241_233.out
          have hnb90 := NB233_245.out
          have hnc90 := NB245_233.out
          have hnb91 := NB233_217.out
          have hnc91 := NB217_233.out
          have hcz92_0 : w58.cell? ⟨gb233, 0, none⟩ = some (.int .i64 t230) := (blk_cell BK233.out 0).trans rfl
          have hcz92_1 : w58.cell? ⟨gb233, 1, none⟩ = some (.int .i64 t231) := (blk_cell BK233.out 1).trans rfl
          have hfz92_0 := blk_frozen BK233.out 0
          have hfz92_1 := blk_frozen BK233.out 1
          have hnb93 := NB237_227.out
          have hnc93 := NB227_237.out
          have hnb94 := NB237_228.out
          have hnc94 := NB228_237.out
          have hnb95 := NB237_229.out
          have hnc95 := NB229_237.out
          have hnb96 := NB237_241.out
          have hnc96 := NB241_237.out
          have hnb97 := NB237_245.out
          have hnc97 := NB245_237.out
          have hnb98 := NB237_217.out
          have hnc98 := NB217_237.out
          have hcz99_0 : w58.cell? ⟨gb237, 0, none⟩ = some (.int .i64 t234) := (blk_cell BK237.out 0).trans rfl
          have hcz99_1 : w58.cell? ⟨gb237, 1, none⟩ = some (.int .i64 t235) := (blk_cell BK237.out 1).trans rfl
          have hfz99_0 := blk_frozen BK237.out 0
          have hfz99_1 := blk_frozen BK237.out 1
          have hnb100 := NB241_227.out
          have hnc100 := NB227_241.out
          have hnb101 := NB241_228.out
          have hnc101 := NB228_241.out
          have hnb102 := NB241_229.out
          have hnc102 := NB229_241.out
          have hnb103 := NB241_245.out
          have hnc103 := NB245_241.out
          have hnb104 := NB241_217.out
          have hnc104 := NB217_241.out
          have hcz105_0 : w58.cell? ⟨gb241, 0, none⟩ = some (.int .i64 t238) := (blk_cell BK241.out 0).trans rfl
          have hcz105_1 : w58.cell? ⟨gb241, 1, none⟩ = some (.int .i64 t239) := (blk_cell BK241.out 1).trans rfl
          have hfz105_0 := blk_frozen BK241.out 0
          have hfz105_1 := blk_frozen BK241.out 1
          have hnb106 := NB245_227.out
          have hnc106 := NB227_245.out
          have hnb107 := NB245_228.out
          have hnc107 := NB228_245.out
          have hnb108 := NB245_229.out
          have hnc108 := NB229_245.out
          have hnb109 := NB245_217.out
          have hnc109 := NB217_245.out
          have hcz110_0 : w58.cell? ⟨gb245, 0, none⟩ = some (.int .i64 0) := (blk_cell BK245.out 0).trans rfl
          have hcz110_1 : w58.cell? ⟨gb245, 1, none⟩ = some (.int .i64 0) := (blk_cell BK245.out 1).trans rfl
          have hfz110_0 := blk_frozen BK245.out 0
          have hfz110_1 := blk_frozen BK245.out 1
          go_wp2
          go_meet
          case rel => exact ⟨_, (true), (by first | rfl | (simp; done) | (simp [*]; done)), H', ⟨by first | omega | exact Nat.le_refl _⟩, ⟨qf (blk_far BK227.out NB227_245.out _) NB227_245.out _⟩, ⟨qf (blk_far BK228.out NB228_245.out _) NB228_245.out _⟩, ⟨qf (blk_far BK229.out NB229_245.out _) NB229_245.out _⟩, ⟨qf (blk_far BK233.out NB233_245.out _) NB233_245.out _⟩, ⟨qf (blk_far BK237.out NB237_245.out _) NB237_245.out _⟩, ⟨qf (blk_far BK241.out NB241_245.out _) NB241_245.out _⟩, ⟨by (with_reducible repeat (first | refine blk_drewN ?_ _ | refine blk_drew ?_ | refine blk_alloc ?_ _)); refine blk_put (cs := #[.int .i64 t242, .int .i64 0]) ?_ 1 _ rfl; (with_reducible repeat (first | refine blk_drewN ?_ _ | refine blk_drew ?_ | refine blk_alloc ?_ _)); refine blk_put (cs := #[.int .i64 0, .int .i64 0]) ?_ 0 _ rfl; (with_reducible repeat (first | refine blk_drewN ?_ _ | refine blk_drew ?_ | refine blk_alloc ?_ _)); exact BK245.out⟩, ⟨by repeat (first | (with_reducible first | exact HB.out | apply q4 | apply q5 | apply q6 | refine q7 ?_ (IsS51.ge HI217.out) | refine q7 ?_ GE227.out | refine q7 ?_ GE228.out | refine q7 ?_ GE229.out | refine q7 ?_ GE233.out | refine q7 ?_ GE237.out | refine q7 ?_ GE241.out | refine q7 ?_ GE245.out) | exact HB.out)⟩⟩
        · rw [if_neg c84] at H
          have c84b0 : (!(t238 == t242) || (!(t239 == t243))) = false := by simpa using c84
          clear c84
          have H' := am H
          clear H
          have hnb111 := NB233_227.out
          have hnc111 := NB227_233.out
          have hnb112 := NB233_228.out
          have hnc112 := NB228_233.out
          have hnb113 := NB233_229.out
          have hnc113 := NB229_233.out
          have hnb114 := NB233_237.out
          have hnc114 := NB237_233.out
          have hnb115 := NB233_241.out
          have hnc115 := NB241_233.out
          have hnb116 := NB233_245.out
          have hnc116 := NB245_233.out
          have hnb117 := NB233_217.out
          have hnc117 := NB217_233.out
          have hcz118_0 : w58.cell? ⟨gb233, 0, none⟩ = some (.int .i64 t230) := (blk_cell BK233.out 0).trans rfl
          have hcz118_1 : w58.cell? ⟨gb233, 1, none⟩ = some (.int .i64 t231) := (blk_cell BK233.out 1).trans rfl
          have hfz118_0 := blk_frozen BK233.out 0
          have hfz118_1 := blk_frozen BK233.out 1
          have hnb119 := NB237_227.out
          have hnc119 := NB227_237.out
          have hnb120 := NB237_228.out
          have hnc120 := NB228_237.out
          have hnb121 := NB237_229.out
          have hnc121 := NB229_237.out
          have hnb122 := NB237_241.out
          have hnc122 := NB241_237.out
          have hnb123 := NB237_245.out
          have hnc123 := NB245_237.out
          have hnb124 := NB237_217.out
          have hnc124 := NB217_237.out
          have hcz125_0 : w58.cell? ⟨gb237, 0, none⟩ = some (.int .i64 t234) := (blk_cell BK237.out 0).trans rfl
          have hcz125_1 : w58.cell? ⟨gb237, 1, none⟩ = some (.int .i64 t235) := (blk_cell BK237.out 1).trans rfl
          have hfz125_0 := blk_frozen BK237.out 0
          have hfz125_1 := blk_frozen BK237.out 1
          have hnb126 := NB241_227.out
          have hnc126 := NB227_241.out
          have hnb127 := NB241_228.out
          have hnc127 := NB228_241.out
          have hnb128 := NB241_229.out
          have hnc128 := NB229_241.out
          have hnb129 := NB241_245.out
          have hnc129 := NB245_241.out
          have hnb130 := NB241_217.out
          have hnc130 := NB217_241.out
          have hcz131_0 : w58.cell? ⟨gb241, 0, none⟩ = some (.int .i64 t238) := (blk_cell BK241.out 0).trans rfl
          have hcz131_1 : w58.cell? ⟨gb241, 1, none⟩ = some (.int .i64 t239) := (blk_cell BK241.out 1).trans rfl
          have hfz131_0 := blk_frozen BK241.out 0
          have hfz131_1 := blk_frozen BK241.out 1
          have hnb132 := NB245_227.out
          have hnc132 := NB227_245.out
          have hnb133 := NB245_228.out
          have hnc133 := NB228_245.out
          have hnb134 := NB245_229.out
          have hnc134 := NB229_245.out
          have hnb135 := NB245_217.out
          have hnc135 := NB217_245.out
          have hcz136_0 : w58.cell? ⟨gb245, 0, none⟩ = some (.int .i64 0) := (blk_cell BK245.out 0).trans rfl
          have hcz136_1 : w58.cell? ⟨gb245, 1, none⟩ = some (.int .i64 0) := (blk_cell BK245.out 1).trans rfl
          have hfz136_0 := blk_frozen BK245.out 0
          have hfz136_1 := blk_frozen BK245.out 1
          go_wp2
          go_meet
          case rel => exact ⟨_, ((t240 != t244)), (by first | rfl | (simp; done) | (simp [*]; done)), H', ⟨by first | omega | exact Nat.le_refl _⟩, ⟨qf (blk_far BK227.out NB227_245.out _) NB227_245.out _⟩, ⟨qf (blk_far BK228.out NB228_245.out _) NB228_245.out _⟩, ⟨qf (blk_far BK229.out NB229_245.out _) NB229_245.out _⟩, ⟨qf (blk_far BK233.out NB233_245.out _) NB233_245.out _⟩, ⟨qf (blk_far BK237.out NB237_245.out _) NB237_245.out _⟩, ⟨qf (blk_far BK241.out NB241_245.out _) NB241_245.out _⟩, ⟨by (with_reducible repeat (first | refine blk_drewN ?_ _ | refine blk_drew ?_ | refine blk_alloc ?_ _)); refine blk_put (cs := #[.int .i64 t242, .int .i64 0]) ?_ 1 _ rfl; (with_reducible repeat (first | refine blk_drewN ?_ _ | refine blk_drew ?_ | refine blk_alloc ?_ _)); refine blk_put (cs := #[.int .i64 0, .int .i64 0]) ?_ 0 _ rfl; (with_reducible repeat (first | refine blk_drewN ?_ _ | refine blk_drew ?_ | refine blk_alloc ?_ _)); exact BK245.out⟩, ⟨by repeat (first | (with_reducible first | exact HB.out | apply q4 | apply q5 | apply q6 | refine q7 ?_ (IsS51.ge HI217.out) | refine q7 ?_ GE227.out | refine q7 ?_ GE228.out | refine q7 ?_ GE229.out | refine q7 ?_ GE233.out | refine q7 ?_ GE237.out | refine q7 ?_ GE241.out | refine q7 ?_ GE245.out) | exact HB.out)⟩⟩
      · rw [if_neg c83] at H
        have c83b0 : (t232 == t236) = false := beq_eq_false_iff_ne.mpr c83
        have c83b1 : (t232 != t236) = true := bne_iff_ne.mpr c83
        have H' := am H
        clear H
        have hnb137 := NB233_227.out
        have hnc137 := NB227_233.out
        have hnb138 := NB233_228.out
        have hnc138 := NB228_233.out
        have hnb139 := NB233_229.out
        have hnc139 := NB229_233.out
        have hnb140 := NB233_237.out
        have hnc140 := NB237_233.out
        have hnb141 := NB233_241.out
        have hnc141 := NB241_233.out
        have hnb142 := NB233_245.out
        have hnc142 := NB245_233.out
        have hnb143 := NB233_217.out
        have hnc143 := NB217_233.out
        have hcz144_0 : w58.cell? ⟨gb233, 0, none⟩ = some (.int .i64 t230) := (blk_cell BK233.out 0).trans rfl
        have hcz144_1 : w58.cell? ⟨gb233, 1, none⟩ = some (.int .i64 t231) := (blk_cell BK233.out 1).trans rfl
        have hfz144_0 := blk_frozen BK233.out 0
        have hfz144_1 := blk_frozen BK233.out 1
        have hnb145 := NB237_227.out
        have hnc145 := NB227_237.out
        have hnb146 := NB237_228.out
        have hnc146 := NB228_237.out
        have hnb147 := NB237_229.out
        have hnc147 := NB229_237.out
        have hnb148 := NB237_241.out
        have hnc148 := NB241_237.out
        have hnb149 := NB237_245.out
        have hnc149 := NB245_237.out
        have hnb150 := NB237_217.out
        have hnc150 := NB217_237.out
        have hcz151_0 : w58.cell? ⟨gb237, 0, none⟩ = some (.int .i64 t234) := (blk_cell BK237.out 0).trans rfl
        have hcz151_1 : w58.cell? ⟨gb237, 1, none⟩ = some (.int .i64 t235) := (blk_cell BK237.out 1).trans rfl
        have hfz151_0 := blk_frozen BK237.out 0
        have hfz151_1 := blk_frozen BK237.out 1
        go_wp2
        go_meet
        case rel => exact ⟨_, (true), (by first | rfl | (simp; done) | (simp [*]; done)), H', ⟨by first | omega | exact Nat.le_refl _⟩, ⟨qf (blk_far BK227.out NB227_245.out _) NB227_245.out _⟩, ⟨qf (blk_far BK228.out NB228_245.out _) NB228_245.out _⟩, ⟨qf (blk_far BK229.out NB229_245.out _) NB229_245.out _⟩, ⟨qf (blk_far BK233.out NB233_245.out _) NB233_245.out _⟩, ⟨qf (blk_far BK237.out NB237_245.out _) NB237_245.out _⟩, ⟨qf (blk_far BK241.out NB241_245.out _) NB241_245.out _⟩, ⟨by (with_reducible repeat (first | refine blk_drewN ?_ _ | refine blk_drew ?_ | refine blk_alloc ?_ _)); refine blk_put (cs := #[.int .i64 t242, .int .i64 0]) ?_ 1 _ rfl; (with_reducible repeat (first | refine blk_drewN ?_ _ | refine blk_drew ?_ | refine blk_alloc ?_ _)); refine blk_put (cs := #[.int .i64 0, .int .i64 0]) ?_ 0 _ rfl; (with_reducible repeat (first | refine blk_drewN ?_ _ | refine blk_drew ?_ | refine blk_alloc ?_ _)); exact BK245.out⟩, ⟨by repeat (first | (with_reducible first | exact HB.out | apply q4 | apply q5 | apply q6 | refine q7 ?_ (IsS51.ge HI217.out) | refine q7 ?_ GE227.out | refine q7 ?_ GE228.out | refine q7 ?_ GE229.out | refine q7 ?_ GE233.out | refine q7 ?_ GE237.out | refine q7 ?_ GE241.out | refine q7 ?_ GE245.out) | exact HB.out)⟩⟩
  case rest =>
    clear HC10
    try clear c1
    try clear c2
    try clear p2
    try clear c3
    try clear c4
    try clear c5
    try clear c6
    try clear c7
    try clear c8
    try clear c9
    try clear c10
    try clear c11
    try clear c12
    try clear c13
    try clear c14
    try clear c15
    try clear c18
    try clear c19
    try clear c20
    try clear c22
    try clear c23
    try clear c24
    try clear c25
    try clear c29
    try clear c30
    try clear c31
    try clear c32
    try clear c38
    try clear c39
    try clear c40
    try clear c41
    try clear c42
    try clear c48
    try clear c49
    try clear c50
    try clear c51
    try clear c52
    try clear c53
    try clear c59
    try clear c60
    try clear c61
    try clear c62
    try clear c63
    try clear c64
    try clear c65
    try clear c67
    try clear c67b0
    try clear c68
    try clear c69
    try clear c70
    try clear c71
    try clear c72
    try clear c73
    try clear c74
    try clear c76
    try clear c77
    try clear c78
    try clear c79
    try clear c80
    try clear c81
    try clear c83
    try clear c83b0
    try clear c83b1
    try clear c84
    try clear c84b0
    try clear c85
    try clear c86
    try clear c87
    try clear c88
    try clear c89
    try clear c90
    try clear c91
    try clear c93
    try clear c94
    try clear c95
    try clear c96
    try clear c97
    try clear c98
    try clear c100
    try clear c101
    try clear c102
    try clear c103
    try clear c104
    try clear c106
    try clear c107
    try clear c108
    try clear c109
    try clear c111
    try clear c112
    try clear c113
    try clear c114
    try clear c115
    try clear c116
    try clear c117
    try clear c119
    try clear c120
    try clear c121
    try clear c122
    try clear c123
    try clear c124
    try clear c126
    try clear c127
    try clear c128
    try clear c129
    try clear c130
    try clear c132
    try clear c133
    try clear c134
    try clear c135
    try clear c137
    try clear c138
    try clear c139
    try clear c140
    try clear c141
    try clear c142
    try clear c143
    try clear c145
    try clear c146
    try clear c147
    try clear c148
    try clear c149
    try clear c150
    try clear hcz105_0
    try clear hcz105_1
    try clear hcz110_0
    try clear hcz110_1
    try clear hcz118_0
    try clear hcz118_1
    try clear hcz125_0
    try clear hcz125_1
    try clear hcz131_0
    try clear hcz131_1
    try clear hcz136_0
    try clear hcz136_1
    try clear hcz144_0
    try clear hcz144_1
    try clear hcz151_0
    try clear hcz151_1
    try clear hcz21_0
    try clear hcz21_1
    try clear hcz24_0
    try clear hcz24_1
    try clear hcz26_0
    try clear hcz26_1
    try clear hcz33_0
    try clear hcz33_1
    try clear hcz34_0
    try clear hcz34_1
    try clear hcz35_0
    try clear hcz35_1
    try clear hcz43_0
    try clear hcz43_1
    try clear hcz44_0
    try clear hcz44_1
    try clear hcz45_0
    try clear hcz45_1
    try clear hcz54_0
    try clear hcz54_1
    try clear hcz55_0
    try clear hcz55_1
    try clear hcz56_0
    try clear hcz56_1
    try clear hcz66_0
    try clear hcz66_1
    try clear hcz75_0
    try clear hcz75_1
    try clear hcz82_0
    try clear hcz82_1
    try clear hcz92_0
    try clear hcz92_1
    try clear hcz99_0
    try clear hcz99_1
    try clear hfz105_0
    try clear hfz105_1
    try clear hfz110_0
    try clear hfz110_1
    try clear hfz118_0
    try clear hfz118_1
    try clear hfz125_0
    try clear hfz125_1
    try clear hfz131_0
    try clear hfz131_1
    try clear hfz136_0
    try clear hfz136_1
    try clear hfz144_0
    try clear hfz144_1
    try clear hfz151_0
    try clear hfz151_1
    try clear hfz21_0
    try clear hfz21_1
    try clear hfz24_0
    try clear hfz24_1
    try clear hfz26_0
    try clear hfz26_1
    try clear hfz33_0
    try clear hfz33_1
    try clear hfz34_0
    try clear hfz34_1
    try clear hfz35_0
    try clear hfz35_1
    try clear hfz43_0
    try clear hfz43_1
    try clear hfz44_0
    try clear hfz44_1
    try clear hfz45_0
    try clear hfz45_1
    try clear hfz54_0
    try clear hfz54_1
    try clear hfz55_0
    try clear hfz55_1
    try clear hfz56_0
    try clear hfz56_1
    try clear hfz66_0
    try clear hfz66_1
    try clear hfz75_0
    try clear hfz75_1
    try clear hfz82_0
    try clear hfz82_1
    try clear hfz92_0
    try clear hfz92_1
    try clear hfz99_0
    try clear hfz99_1
    obtain ⟨kq, x76_9, rfl, HA, HJ9, BK227, BK228, BK229, BK233, BK237, BK241, BK245, HB⟩ := hcut
    cases kq with
    | zero => exact absurd HA.out (by simp [payrolllaw1_RatioField.j0])
    | succ kj9 =>
      have H := HA.out
      clear HA
      simp only [payrolllaw1_RatioField.j0] at H
      by_cases c152 : x76_9 = true
      · subst c152
        have H1 : (some false) = some true := by rw [if_pos rfl] at H; exact H
        clear H
        have H := H1
        clear H1
        exact absurd H (by simp)
      · replace c152 := Bool.eq_false_iff.mpr c152
        subst c152
        have H1 : ((ratio_Add.f kj9 t221 t222 t224 t225).bind fun bt246 => ((ratio_Mul.f kj9 t218 t219 bt246.1 bt246.2.1).bind fun bt250 => ((ratio_Mul.f kj9 t218 t219 t224 t225).bind fun bt254 => ((ratio_Add.f kj9 t238 t239 bt254.1 bt254.2.1).bind fun bt258 => (if t240 = 0 then (if bt246.2.2 = 0 then (if bt250.2.2 = 0 then (if bt254.2.2 = 0 then (if bt258.2.2 = 0 then (payrolllaw1_RatioField.j1 kj9 t232 t240 (!(bt250.1 == bt258.1) || (!(bt250.2.1 == bt258.2.1))) t218 t219 t221 t222 t230 t231 t238 t239) else (payrolllaw1_RatioField.j1 kj9 t232 t240 false t218 t219 t221 t222 t230 t231 t238 t239)) else (payrolllaw1_RatioField.j1 kj9 t232 t240 false t218 t219 t221 t222 t230 t231 t238 t239)) else (payrolllaw1_RatioField.j1 kj9 t232 t240 false t218 t219 t221 t222 t230 t231 t238 t239)) else (payrolllaw1_RatioField.j1 kj9 t232 t240 false t218 t219 t221 t222 t230 t231 t238 t239)) else (payrolllaw1_RatioField.j1 kj9 t232 t240 false t218 t219 t221 t222 t230 t231 t238 t239)))))) = some true := by rw [if_neg (show ¬ (false = true) by decide)] at H; exact H
        clear H
        have H := H1
        clear H1
        replace H := Option.bind_eq_some_iff.mp H
        obtain ⟨⟨t246, t247, t248⟩, A1530, H⟩ := H
        replace H : ((ratio_Mul.f kj9 t218 t219 t246 t247).bind fun bt250 => ((ratio_Mul.f kj9 t218 t219 t224 t225).bind fun bt254 => ((ratio_Add.f kj9 t238 t239 bt254.1 bt254.2.1).bind fun bt258 => (if t240 = 0 then (if t248 = 0 then (if bt250.2.2 = 0 then (if bt254.2.2 = 0 then (if bt258.2.2 = 0 then (payrolllaw1_RatioField.j1 kj9 t232 t240 (!(bt250.1 == bt258.1) || (!(bt250.2.1 == bt258.2.1))) t218 t219 t221 t222 t230 t231 t238 t239) else (payrolllaw1_RatioField.j1 kj9 t232 t240 false t218 t219 t221 t222 t230 t231 t238 t239)) else (payrolllaw1_RatioField.j1 kj9 t232 t240 false t218 t219 t221 t222 t230 t231 t238 t239)) else (payrolllaw1_RatioField.j1 kj9 t232 t240 false t218 t219 t221 t222 t230 t231 t238 t239)) else (payrolllaw1_RatioField.j1 kj9 t232 t240 false t218 t219 t221 t222 t230 t231 t238 t239)) else (payrolllaw1_RatioField.j1 kj9 t232 t240 false t218 t219 t221 t222 t230 t231 t238 t239))))) = some true := H
        have A153 := am A1530
        clear A1530
        replace H := Option.bind_eq_some_iff.mp H
        obtain ⟨⟨t250, t251, t252⟩, A1540, H⟩ := H
        replace H : ((ratio_Mul.f kj9 t218 t219 t224 t225).bind fun bt254 => ((ratio_Add.f kj9 t238 t239 bt254.1 bt254.2.1).bind fun bt258 => (if t240 = 0 then (if t248 = 0 then (if t252 = 0 then (if bt254.2.2 = 0 then (if bt258.2.2 = 0 then (payrolllaw1_RatioField.j1 kj9 t232 t240 (!(t250 == bt258.1) || (!(t251 == bt258.2.1))) t218 t219 t221 t222 t230 t231 t238 t239) else (payrolllaw1_RatioField.j1 kj9 t232 t240 false t218 t219 t221 t222 t230 t231 t238 t239)) else (payrolllaw1_RatioField.j1 kj9 t232 t240 false t218 t219 t221 t222 t230 t231 t238 t239)) else (payrolllaw1_RatioField.j1 kj9 t232 t240 false t218 t219 t221 t222 t230 t231 t238 t239)) else (payrolllaw1_RatioField.j1 kj9 t232 t240 false t218 t219 t221 t222 t230 t231 t238 t239)) else (payrolllaw1_RatioField.j1 kj9 t232 t240 false t218 t219 t221 t222 t230 t231 t238 t239)))) = some true := H
        have A154 := am A1540
        clear A1540
        replace H := Option.bind_eq_some_iff.mp H
        obtain ⟨⟨t254, t255, t256⟩, A1550, H⟩ := H
        replace H : ((ratio_Add.f kj9 t238 t239 t254 t255).bind fun bt258 => (if t240 = 0 then (if t248 = 0 then (if t252 = 0 then (if t256 = 0 then (if bt258.2.2 = 0 then (payrolllaw1_RatioField.j1 kj9 t232 t240 (!(t250 == bt258.1) || (!(t251 == bt258.2.1))) t218 t219 t221 t222 t230 t231 t238 t239) else (payrolllaw1_RatioField.j1 kj9 t232 t240 false t218 t219 t221 t222 t230 t231 t238 t239)) else (payrolllaw1_RatioField.j1 kj9 t232 t240 false t218 t219 t221 t222 t230 t231 t238 t239)) else (payrolllaw1_RatioField.j1 kj9 t232 t240 false t218 t219 t221 t222 t230 t231 t238 t239)) else (payrolllaw1_RatioField.j1 kj9 t232 t240 false t218 t219 t221 t222 t230 t231 t238 t239)) else (payrolllaw1_RatioField.j1 kj9 t232 t240 false t218 t219 t221 t222 t230 t231 t238 t239))) = some true := H
        have A155 := am A1550
        clear A1550
        replace H := Option.bind_eq_some_iff.mp H
        obtain ⟨⟨t258, t259, t260⟩, A1560, H⟩ := H
        replace H : (if t240 = 0 then (if t248 = 0 then (if t252 = 0 then (if t256 = 0 then (if t260 = 0 then (payrolllaw1_RatioField.j1 kj9 t232 t240 (!(t250 == t258) || (!(t251 == t259))) t218 t219 t221 t222 t230 t231 t238 t239) else (payrolllaw1_RatioField.j1 kj9 t232 t240 false t218 t219 t221 t222 t230 t231 t238 t239)) else (payrolllaw1_RatioField.j1 kj9 t232 t240 false t218 t219 t221 t222 t230 t231 t238 t239)) else (payrolllaw1_RatioField.j1 kj9 t232 t240 false t218 t219 t221 t222 t230 t231 t238 t239)) else (payrolllaw1_RatioField.j1 kj9 t232 t240 false t218 t219 t221 t222 t230 t231 t238 t239)) else (payrolllaw1_RatioField.j1 kj9 t232 t240 false t218 t219 t221 t222 t230 t231 t238 t239)) = some true := H
        have A156 := am A1560
        clear A1560
        have HC157 := am H
        clear H
        have hnb158 := NB228_227.out
        have hnc158 := NB227_228.out
        have hnb159 := NB228_229.out
        have hnc159 := NB229_228.out
        have hnb160 := NB228_233.out
        have hnc160 := NB233_228.out
        have hnb161 := NB228_237.out
        have hnc161 := NB237_228.out
        have hnb162 := NB228_241.out
        have hnc162 := NB241_228.out
        have hnb163 := NB228_245.out
        have hnc163 := NB245_228.out
        have hcz164_0 : wc.cell? ⟨gb228, 0, none⟩ = some (.int .i64 t221) := (blk_cell BK228.out 0).trans rfl
        have hcz164_1 : wc.cell? ⟨gb228, 1, none⟩ = some (.int .i64 t222) := (blk_cell BK228.out 1).trans rfl
        have hfz164_0 := blk_frozen BK228.out 0
        have hfz164_1 := blk_frozen BK228.out 1
        have hnb165 := NB229_227.out
        have hnc165 := NB227_229.out
        have hnb166 := NB229_233.out
        have hnc166 := NB233_229.out
        have hnb167 := NB229_237.out
        have hnc167 := NB237_229.out
        have hnb168 := NB229_241.out
        have hnc168 := NB241_229.out
        have hnb169 := NB229_245.out
        have hnc169 := NB245_229.out
        have hcz170_0 : wc.cell? ⟨gb229, 0, none⟩ = some (.int .i64 t224) := (blk_cell BK229.out 0).trans rfl
        have hcz170_1 : wc.cell? ⟨gb229, 1, none⟩ = some (.int .i64 t225) := (blk_cell BK229.out 1).trans rfl
        have hfz170_0 := blk_frozen BK229.out 0
        have hfz170_1 := blk_frozen BK229.out 1
        go_upto_region 13 with (first | ((with_reducible refine gate_callee (f := 24) rfl ?_); refine goesL_ (some 80) rfl rfl Tryd.func24 (by kernel_rfl) rfl #[.agg #[.int .i64 t221, .int .i64 t222], .agg #[.int .i64 t224, .int .i64 t225]] rfl (by (try simp only [List.map_toArray, List.map_cons, List.map_nil]); first | done | rfl | (simp only [List.length_drop, List.length_take]; rfl)) ?_; (with_reducible refine (ratio_Add.calls kj9 t221 t222 t224 t225 t246 t247 t248 _ A153.out).mono ?_); rintro e w171 ⟨rfl, hb⟩; refine ⟨_, rfl, ?_⟩; have n0_ := am (qb (g := gb227) BK227.out hb); have n1_ := am (qb (g := gb228) BK228.out hb); have n2_ := am (qb (g := gb229) BK229.out hb); have n3_ := am (qb (g := gb233) BK233.out hb); have n4_ := am (qb (g := gb237) BK237.out hb); have n5_ := am (qb (g := gb241) BK241.out hb); have n6_ := am (qb (g := gb245) BK245.out hb); have n7_ := am (q8 (by repeat (first | (with_reducible first | exact HB.out | apply q4 | apply q5 | apply q6 | refine q7 ?_ GE227.out | refine q7 ?_ GE228.out | refine q7 ?_ GE229.out | refine q7 ?_ GE233.out | refine q7 ?_ GE237.out | refine q7 ?_ GE241.out | refine q7 ?_ GE245.out) | exact HB.out)) hb); clear BK227; clear BK228; clear BK229; clear BK233; clear BK237; clear BK241; clear BK245; clear HB; have BK227 := n0_; have BK228 := n1_; have BK229 := n2_; have BK233 := n3_; have BK237 := n4_; have BK241 := n5_; have BK245 := n6_; have HB := n7_; clear n0_ n1_ n2_ n3_ n4_ n5_ n6_ n7_; (try clear hb); (try clear hb2); (try clear hk); (try clear hi)) | ((with_reducible refine gate_dst (N := 15) rfl ?_); refine box_event ?hg (N := 15) ?hd (cs := #[.int .i64 0, .int .i64 0]) (t := 23) ?hr ?_; (case hd => rfl); (case hg => rfl); (case hr => first | (go_simp; done) | (go_simp; rfl)); intro gb249 hg w172 hbox hb; have n0_ := am (qb (g := gb227) BK227.out hb); have n1_ := am (qb (g := gb228) BK228.out hb); have n2_ := am (qb (g := gb229) BK229.out hb); have n3_ := am (qb (g := gb233) BK233.out hb); have n4_ := am (qb (g := gb237) BK237.out hb); have n5_ := am (qb (g := gb241) BK241.out hb); have n6_ := am (qb (g := gb245) BK245.out hb); have n7_ := am (q8 (by repeat (first | (with_reducible first | exact HB.out | apply q4 | apply q5 | apply q6 | refine q7 ?_ GE227.out | refine q7 ?_ GE228.out | refine q7 ?_ GE229.out | refine q7 ?_ GE233.out | refine q7 ?_ GE237.out | refine q7 ?_ GE241.out | refine q7 ?_ GE245.out) | exact HB.out)) hb); have n8_ := am (hbox); have n9_ := am ((by rw [hg]; exact (q9 (by repeat (first | (with_reducible first | exact HB.out | apply q4 | apply q5 | apply q6 | refine q7 ?_ GE227.out | refine q7 ?_ GE228.out | refine q7 ?_ GE229.out | refine q7 ?_ GE233.out | refine q7 ?_ GE237.out | refine q7 ?_ GE241.out | refine q7 ?_ GE245.out) | exact HB.out))) : w.heap.size ≤ gb249)); have n10_ := am ((by rw [hg]; exact (q9 (by repeat (first | (with_reducible first | exact HB.out | apply q4 | apply q5 | apply q6 | refine q7 ?_ GE227.out | refine q7 ?_ GE228.out | refine q7 ?_ GE229.out | refine q7 ?_ GE233.out | refine q7 ?_ GE237.out | refine q7 ?_ GE241.out | refine q7 ?_ GE245.out) | exact HB.out))) : w.heap.size ≤ gb249)); have n11_ := am ((by rw [hg]; exact Nat.ne_of_lt (blk_lt (g := gb227) BK227.out) : gb227 ≠ gb249)); have n12_ := am ((by rw [hg]; exact Nat.ne_of_gt (blk_lt (g := gb227) BK227.out) : gb249 ≠ gb227)); have n13_ := am ((by rw [hg]; exact Nat.ne_of_lt (blk_lt (g := gb228) BK228.out) : gb228 ≠ gb249)); have n14_ := am ((by rw [hg]; exact Nat.ne_of_gt (blk_lt (g := gb228) BK228.out) : gb249 ≠ gb228)); have n15_ := am ((by rw [hg]; exact Nat.ne_of_lt (blk_lt (g := gb229) BK229.out) : gb229 ≠ gb249)); have n16_ := am ((by rw [hg]; exact Nat.ne_of_gt (blk_lt (g := gb229) BK229.out) : gb249 ≠ gb229)); have n17_ := am ((by rw [hg]; exact Nat.ne_of_lt (blk_lt (g := gb233) BK233.out) : gb233 ≠ gb249)); have n18_ := am ((by rw [hg]; exact Nat.ne_of_gt (blk_lt (g := gb233) BK233.out) : gb249 ≠ gb233)); have n19_ := am ((by rw [hg]; exact Nat.ne_of_lt (blk_lt (g := gb237) BK237.out) : gb237 ≠ gb249)); have n20_ := am ((by rw [hg]; exact Nat.ne_of_gt (blk_lt (g := gb237) BK237.out) : gb249 ≠ gb237)); have n21_ := am ((by rw [hg]; exact Nat.ne_of_lt (blk_lt (g := gb241) BK241.out) : gb241 ≠ gb249)); have n22_ := am ((by rw [hg]; exact Nat.ne_of_gt (blk_lt (g := gb241) BK241.out) : gb249 ≠ gb241)); have n23_ := am ((by rw [hg]; exact Nat.ne_of_lt (blk_lt (g := gb245) BK245.out) : gb245 ≠ gb249)); have n24_ := am ((by rw [hg]; exact Nat.ne_of_gt (blk_lt (g := gb245) BK245.out) : gb249 ≠ gb245)); clear BK227; clear BK228; clear BK229; clear BK233; clear BK237; clear BK241; clear BK245; clear HB; have BK227 := n0_; have BK228 := n1_; have BK229 := n2_; have BK233 := n3_; have BK237 := n4_; have BK241 := n5_; have BK245 := n6_; have HB := n7_; have BK249 := n8_; have GW249 := n9_; have GE249 := n10_; have NB227_249 := n11_; have NB249_227 := n12_; have NB228_249 := n13_; have NB249_228 := n14_; have NB229_249 := n15_; have NB249_229 := n16_; have NB233_249 := n17_; have NB249_233 := n18_; have NB237_249 := n19_; have NB249_237 := n20_; have NB241_249 := n21_; have NB249_241 := n22_; have NB245_249 := n23_; have NB249_245 := n24_; clear n0_ n1_ n2_ n3_ n4_ n5_ n6_ n7_ n8_ n9_ n10_ n11_ n12_ n13_ n14_ n15_ n16_ n17_ n18_ n19_ n20_ n21_ n22_ n23_ n24_; clear hb hbox hg; have hnb173 := NB249_227.out; have hnc173 := NB227_249.out; have hnb174 := NB249_228.out; have hnc174 := NB228_249.out; have hnb175 := NB249_229.out; have hnc175 := NB229_249.out; have hnb176 := NB249_233.out; have hnc176 := NB233_249.out; have hnb177 := NB249_237.out; have hnc177 := NB237_249.out; have hnb178 := NB249_241.out; have hnc178 := NB241_249.out; have hnb179 := NB249_245.out; have hnc179 := NB245_249.out; have hcz180_0 : w172.cell? ⟨gb249, 0, none⟩ = some (.int .i64 0) := (blk_cell BK249.out 0).trans rfl; have hcz180_1 : w172.cell? ⟨gb249, 1, none⟩ = some (.int .i64 0) := (blk_cell BK249.out 1).trans rfl; have hfz180_0 := blk_frozen BK249.out 0; have hfz180_1 := blk_frozen BK249.out 1; have hnb181 := NB227_233.out; have hnc181 := NB233_227.out; have hnb182 := NB227_237.out; have hnc182 := NB237_227.out; have hnb183 := NB227_241.out; have hnc183 := NB241_227.out; have hnb184 := NB227_245.out; have hnc184 := NB245_227.out; have hcz185_0 : w172.cell? ⟨gb227, 0, none⟩ = some (.int .i64 t218) := (blk_cell BK227.out 0).trans rfl; have hcz185_1 : w172.cell? ⟨gb227, 1, none⟩ = some (.int .i64 t219) := (blk_cell BK227.out 1).trans rfl; have hfz185_0 := blk_frozen BK227.out 0; have hfz185_1 := blk_frozen BK227.out 1) | ((with_reducible refine gate_callee (f := 25) rfl ?_); refine goesL_ (some 86) rfl rfl Tryd.func25 (by kernel_rfl) rfl #[.agg #[.int .i64 t218, .int .i64 t219], .agg #[.int .i64 t246, .int .i64 t247]] rfl (by (try simp only [List.map_toArray, List.map_cons, List.map_nil]); first | done | rfl | (simp only [List.length_drop, List.length_take]; rfl)) ?_; (with_reducible refine (ratio_Mul.calls kj9 t218 t219 t246 t247 t250 t251 t252 _ A154.out).mono ?_); rintro e w186 ⟨rfl, hb⟩; refine ⟨_, rfl, ?_⟩; have n0_ := am (qb (g := gb227) (qf (blk_far BK227.out NB227_249.out _) NB227_249.out _) hb); have n1_ := am (qb (g := gb228) (qf (blk_far BK228.out NB228_249.out _) NB228_249.out _) hb); have n2_ := am (qb (g := gb229) (qf (blk_far BK229.out NB229_249.out _) NB229_249.out _) hb); have n3_ := am (qb (g := gb233) (qf (blk_far BK233.out NB233_249.out _) NB233_249.out _) hb); have n4_ := am (qb (g := gb237) (qf (blk_far BK237.out NB237_249.out _) NB237_249.out _) hb); have n5_ := am (qb (g := gb241) (qf (blk_far BK241.out NB241_249.out _) NB241_249.out _) hb); have n6_ := am (qb (g := gb245) (qf (blk_far BK245.out NB245_249.out _) NB245_249.out _) hb); have n7_ := am (qb (g := gb249) (o := .cells #[.int .i64 t246, .int .i64 t247] 23 (0, 0)) (by (with_reducible repeat (first | refine blk_drewN ?_ _ | refine blk_drew ?_ | refine blk_alloc ?_ _)); refine blk_put (cs := #[.int .i64 t246, .int .i64 0]) ?_ 1 _ rfl; (with_reducible repeat (first | refine blk_drewN ?_ _ | refine blk_drew ?_ | refine blk_alloc ?_ _)); refine blk_put (cs := #[.int .i64 0, .int .i64 0]) ?_ 0 _ rfl; (with_reducible repeat (first | refine blk_drewN ?_ _ | refine blk_drew ?_ | refine blk_alloc ?_ _)); exact BK249.out) hb); have n8_ := am (q8 (by repeat (first | (with_reducible first | exact HB.out | apply q4 | apply q5 | apply q6 | refine q7 ?_ GE227.out | refine q7 ?_ GE228.out | refine q7 ?_ GE229.out | refine q7 ?_ GE233.out | refine q7 ?_ GE237.out | refine q7 ?_ GE241.out | refine q7 ?_ GE245.out | refine q7 ?_ GE249.out) | exact HB.out)) hb); clear BK227; clear BK228; clear BK229; clear BK233; clear BK237; clear BK241; clear BK245; clear BK249; clear HB; have BK227 := n0_; have BK228 := n1_; have BK229 := n2_; have BK233 := n3_; have BK237 := n4_; have BK241 := n5_; have BK245 := n6_; have BK249 := n7_; have HB := n8_; clear n0_ n1_ n2_ n3_ n4_ n5_ n6_ n7_ n8_; (try clear hb); (try clear hb2); (try clear hk); (try clear hi)) | ((with_reducible refine gate_dst (N := 17) rfl ?_); refine box_event ?hg (N := 17) ?hd (cs := #[.int .i64 0, .int .i64 0]) (t := 23) ?hr ?_; (case hd => rfl); (case hg => rfl); (case hr => first | (go_simp; done) | (go_simp; rfl)); intro gb253 hg w187 hbox hb; have n0_ := am (qb (g := gb227) BK227.out hb); have n1_ := am (qb (g := gb228) BK228.out hb); have n2_ := am (qb (g := gb229) BK229.out hb); have n3_ := am (qb (g := gb233) BK233.out hb); have n4_ := am (qb (g := gb237) BK237.out hb); have n5_ := am (qb (g := gb241) BK241.out hb); have n6_ := am (qb (g := gb245) BK245.out hb); have n7_ := am (qb (g := gb249) BK249.out hb); have n8_ := am (q8 (by repeat (first | (with_reducible first | exact HB.out | apply q4 | apply q5 | apply q6 | refine q7 ?_ GE227.out | refine q7 ?_ GE228.out | refine q7 ?_ GE229.out | refine q7 ?_ GE233.out | refine q7 ?_ GE237.out | refine q7 ?_ GE241.out | refine q7 ?_ GE245.out | refine q7 ?_ GE249.out) | exact HB.out)) hb); have n9_ := am (hbox); have n10_ := am ((by rw [hg]; exact (q9 (by repeat (first | (with_reducible first | exact HB.out | apply q4 | apply q5 | apply q6 | refine q7 ?_ GE227.out | refine q7 ?_ GE228.out | refine q7 ?_ GE229.out | refine q7 ?_ GE233.out | refine q7 ?_ GE237.out | refine q7 ?_ GE241.out | refine q7 ?_ GE245.out | refine q7 ?_ GE249.out) | exact HB.out))) : w.heap.size ≤ gb253)); have n11_ := am ((by rw [hg]; exact (q9 (by repeat (first | (with_reducible first | exact HB.out | apply q4 | apply q5 | apply q6 | refine q7 ?_ GE227.out | refine q7 ?_ GE228.out | refine q7 ?_ GE229.out | refine q7 ?_ GE233.out | refine q7 ?_ GE237.out | refine q7 ?_ GE241.out | refine q7 ?_ GE245.out | refine q7 ?_ GE249.out) | exact HB.out))) : w.heap.size ≤ gb253)); have n12_ := am ((by rw [hg]; exact Nat.ne_of_lt (blk_lt (g := gb227) BK227.out) : gb227 ≠ gb253)); have n13_ := am ((by rw [hg]; exact Nat.ne_of_gt (blk_lt (g := gb227) BK227.out) : gb253 ≠ gb227)); have n14_ := am ((by rw [hg]; exact Nat.ne_of_lt (blk_lt (g := gb228) BK228.out) : gb228 ≠ gb253)); have n15_ := am ((by rw [hg]; exact Nat.ne_of_gt (blk_lt (g := gb228) BK228.out) : gb253 ≠ gb228)); have n16_ := am ((by rw [hg]; exact Nat.ne_of_lt (blk_lt (g := gb229) BK229.out) : gb229 ≠ gb253)); have n17_ := am ((by rw [hg]; exact Nat.ne_of_gt (blk_lt (g := gb229) BK229.out) : gb253 ≠ gb229)); have n18_ := am ((by rw [hg]; exact Nat.ne_of_lt (blk_lt (g := gb233) BK233.out) : gb233 ≠ gb253)); have n19_ := am ((by rw [hg]; exact Nat.ne_of_gt (blk_lt (g := gb233) BK233.out) : gb253 ≠ gb233)); have n20_ := am ((by rw [hg]; exact Nat.ne_of_lt (blk_lt (g := gb237) BK237.out) : gb237 ≠ gb253)); have n21_ := am ((by rw [hg]; exact Nat.ne_of_gt (blk_lt (g := gb237) BK237.out) : gb253 ≠ gb237)); have n22_ := am ((by rw [hg]; exact Nat.ne_of_lt (blk_lt (g := gb241) BK241.out) : gb241 ≠ gb253)); have n23_ := am ((by rw [hg]; exact Nat.ne_of_gt (blk_lt (g := gb241) BK241.out) : gb253 ≠ gb241)); have n24_ := am ((by rw [hg]; exact Nat.ne_of_lt (blk_lt (g := gb245) BK245.out) : gb245 ≠ gb253)); have n25_ := am ((by rw [hg]; exact Nat.ne_of_gt (blk_lt (g := gb245) BK245.out) : gb253 ≠ gb245)); have n26_ := am ((by rw [hg]; exact Nat.ne_of_lt (blk_lt (g := gb249) BK249.out) : gb249 ≠ gb253)); have n27_ := am ((by rw [hg]; exact Nat.ne_of_gt (blk_lt (g := gb249) BK249.out) : gb253 ≠ gb249)); clear BK227; clear BK228; clear BK229; clear BK233; clear BK237; clear BK241; clear BK245; clear BK249; clear HB; have BK227 := n0_; have BK228 := n1_; have BK229 := n2_; have BK233 := n3_; have BK237 := n4_; have BK241 := n5_; have BK245 := n6_; have BK249 := n7_; have HB := n8_; have BK253 := n9_; have GW253 := n10_; have GE253 := n11_; have NB227_253 := n12_; have NB253_227 := n13_; have NB228_253 := n14_; have NB253_228 := n15_; have NB229_253 := n16_; have NB253_229 := n17_; have NB233_253 := n18_; have NB253_233 := n19_; have NB237_253 := n20_; have NB253_237 := n21_; have NB241_253 := n22_; have NB253_241 := n23_; have NB245_253 := n24_; have NB253_245 := n25_; have NB249_253 := n26_; have NB253_249 := n27_; clear n0_ n1_ n2_ n3_ n4_ n5_ n6_ n7_ n8_ n9_ n10_ n11_ n12_ n13_ n14_ n15_ n16_ n17_ n18_ n19_ n20_ n21_ n22_ n23_ n24_ n25_ n26_ n27_; clear hb hbox hg; have hnb188 := NB253_227.out; have hnc188 := NB227_253.out; have hnb189 := NB253_228.out; have hnc189 := NB228_253.out; have hnb190 := NB253_229.out; have hnc190 := NB229_253.out; have hnb191 := NB253_233.out; have hnc191 := NB233_253.out; have hnb192 := NB253_237.out; have hnc192 := NB237_253.out; have hnb193 := NB253_241.out; have hnc193 := NB241_253.out; have hnb194 := NB253_245.out; have hnc194 := NB245_253.out; have hnb195 := NB253_249.out; have hnc195 := NB249_253.out; have hcz196_0 : w187.cell? ⟨gb253, 0, none⟩ = some (.int .i64 0) := (blk_cell BK253.out 0).trans rfl; have hcz196_1 : w187.cell? ⟨gb253, 1, none⟩ = some (.int .i64 0) := (blk_cell BK253.out 1).trans rfl; have hfz196_0 := blk_frozen BK253.out 0; have hfz196_1 := blk_frozen BK253.out 1; have hcz197_0 : w187.cell? ⟨gb227, 0, none⟩ = some (.int .i64 t218) := (blk_cell BK227.out 0).trans rfl; have hcz197_1 : w187.cell? ⟨gb227, 1, none⟩ = some (.int .i64 t219) := (blk_cell BK227.out 1).trans rfl; have hfz197_0 := blk_frozen BK227.out 0; have hfz197_1 := blk_frozen BK227.out 1; have hcz198_0 : w187.cell? ⟨gb229, 0, none⟩ = some (.int .i64 t224) := (blk_cell BK229.out 0).trans rfl; have hcz198_1 : w187.cell? ⟨gb229, 1, none⟩ = some (.int .i64 t225) := (blk_cell BK229.out 1).trans rfl; have hfz198_0 := blk_frozen BK229.out 0; have hfz198_1 := blk_frozen BK229.out 1) | ((with_reducible refine gate_callee (f := 25) rfl ?_); refine goesL_ (some 92) rfl rfl Tryd.func25 (by kernel_rfl) rfl #[.agg #[.int .i64 t218, .int .i64 t219], .agg #[.int .i64 t224, .int .i64 t225]] rfl (by (try simp only [List.map_toArray, List.map_cons, List.map_nil]); first | done | rfl | (simp only [List.length_drop, List.length_take]; rfl)) ?_; (with_reducible refine (ratio_Mul.calls kj9 t218 t219 t224 t225 t254 t255 t256 _ A155.out).mono ?_); rintro e w199 ⟨rfl, hb⟩; refine ⟨_, rfl, ?_⟩; have n0_ := am (qb (g := gb227) (qf (blk_far BK227.out NB227_253.out _) NB227_253.out _) hb); have n1_ := am (qb (g := gb228) (qf (blk_far BK228.out NB228_253.out _) NB228_253.out _) hb); have n2_ := am (qb (g := gb229) (qf (blk_far BK229.out NB229_253.out _) NB229_253.out _) hb); have n3_ := am (qb (g := gb233) (qf (blk_far BK233.out NB233_253.out _) NB233_253.out _) hb); have n4_ := am (qb (g := gb237) (qf (blk_far BK237.out NB237_253.out _) NB237_253.out _) hb); have n5_ := am (qb (g := gb241) (qf (blk_far BK241.out NB241_253.out _) NB241_253.out _) hb); have n6_ := am (qb (g := gb245) (qf (blk_far BK245.out NB245_253.out _) NB245_253.out _) hb); have n7_ := am (qb (g := gb249) (qf (blk_far BK249.out NB249_253.out _) NB249_253.out _) hb); have n8_ := am (qb (g := gb253) (o := .cells #[.int .i64 t250, .int .i64 t251] 23 (0, 0)) (by (with_reducible repeat (first | refine blk_drewN ?_ _ | refine blk_drew ?_ | refine blk_alloc ?_ _)); refine blk_put (cs := #[.int .i64 t250, .int .i64 0]) ?_ 1 _ rfl; (with_reducible repeat (first | refine blk_drewN ?_ _ | refine blk_drew ?_ | refine blk_alloc ?_ _)); refine blk_put (cs := #[.int .i64 0, .int .i64 0]) ?_ 0 _ rfl; (with_reducible repeat (first | refine blk_drewN ?_ _ | refine blk_drew ?_ | refine blk_alloc ?_ _)); exact BK253.out) hb); have n9_ := am (q8 (by repeat (first | (with_reducible first | exact HB.out | apply q4 | apply q5 | apply q6 | refine q7 ?_ GE227.out | refine q7 ?_ GE228.out | refine q7 ?_ GE229.out | refine q7 ?_ GE233.out | refine q7 ?_ GE237.out | refine q7 ?_ GE241.out | refine q7 ?_ GE245.out | refine q7 ?_ GE249.out | refine q7 ?_ GE253.out) | exact HB.out)) hb); clear BK227; clear BK228; clear BK229; clear BK233; clear BK237; clear BK241; clear BK245; clear BK249; clear BK253; clear HB; have BK227 := n0_; have BK228 := n1_; have BK229 := n2_; have BK233 := n3_; have BK237 := n4_; have BK241 := n5_; have BK245 := n6_; have BK249 := n7_; have BK253 := n8_; have HB := n9_; clear n0_ n1_ n2_ n3_ n4_ n5_ n6_ n7_ n8_ n9_; (try clear hb); (try clear hb2); (try clear hk); (try clear hi)) | ((with_reducible refine gate_dst (N := 19) rfl ?_); refine box_event ?hg (N := 19) ?hd (cs := #[.int .i64 0, .int .i64 0]) (t := 23) ?hr ?_; (case hd => rfl); (case hg => rfl); (case hr => first | (go_simp; done) | (go_simp; rfl)); intro gb257 hg w200 hbox hb; have n0_ := am (qb (g := gb227) BK227.out hb); have n1_ := am (qb (g := gb228) BK228.out hb); have n2_ := am (qb (g := gb229) BK229.out hb); have n3_ := am (qb (g := gb233) BK233.out hb); have n4_ := am (qb (g := gb237) BK237.out hb); have n5_ := am (qb (g := gb241) BK241.out hb); have n6_ := am (qb (g := gb245) BK245.out hb); have n7_ := am (qb (g := gb249) BK249.out hb); have n8_ := am (qb (g := gb253) BK253.out hb); have n9_ := am (q8 (by repeat (first | (with_reducible first | exact HB.out | apply q4 | apply q5 | apply q6 | refine q7 ?_ GE227.out | refine q7 ?_ GE228.out | refine q7 ?_ GE229.out | refine q7 ?_ GE233.out | refine q7 ?_ GE237.out | refine q7 ?_ GE241.out | refine q7 ?_ GE245.out | refine q7 ?_ GE249.out | refine q7 ?_ GE253.out) | exact HB.out)) hb); have n10_ := am (hbox); have n11_ := am ((by rw [hg]; exact (q9 (by repeat (first | (with_reducible first | exact HB.out | apply q4 | apply q5 | apply q6 | refine q7 ?_ GE227.out | refine q7 ?_ GE228.out | refine q7 ?_ GE229.out | refine q7 ?_ GE233.out | refine q7 ?_ GE237.out | refine q7 ?_ GE241.out | refine q7 ?_ GE245.out | refine q7 ?_ GE249.out | refine q7 ?_ GE253.out) | exact HB.out))) : w.heap.size ≤ gb257)); have n12_ := am ((by rw [hg]; exact (q9 (by repeat (first | (with_reducible first | exact HB.out | apply q4 | apply q5 | apply q6 | refine q7 ?_ GE227.out | refine q7 ?_ GE228.out | refine q7 ?_ GE229.out | refine q7 ?_ GE233.out | refine q7 ?_ GE237.out | refine q7 ?_ GE241.out | refine q7 ?_ GE245.out | refine q7 ?_ GE249.out | refine q7 ?_ GE253.out) | exact HB.out))) : w.heap.size ≤ gb257)); have n13_ := am ((by rw [hg]; exact Nat.ne_of_lt (blk_lt (g := gb227) BK227.out) : gb227 ≠ gb257)); have n14_ := am ((by rw [hg]; exact Nat.ne_of_gt (blk_lt (g := gb227) BK227.out) : gb257 ≠ gb227)); have n15_ := am ((by rw [hg]; exact Nat.ne_of_lt (blk_lt (g := gb228) BK228.out) : gb228 ≠ gb257)); have n16_ := am ((by rw [hg]; exact Nat.ne_of_gt (blk_lt (g := gb228) BK228.out) : gb257 ≠ gb228)); have n17_ := am ((by rw [hg]; exact Nat.ne_of_lt (blk_lt (g := gb229) BK229.out) : gb229 ≠ gb257)); have n18_ := am ((by rw [hg]; exact Nat.ne_of_gt (blk_lt (g := gb229) BK229.out) : gb257 ≠ gb229)); have n19_ := am ((by rw [hg]; exact Nat.ne_of_lt (blk_lt (g := gb233) BK233.out) : gb233 ≠ gb257)); have n20_ := am ((by rw [hg]; exact Nat.ne_of_gt (blk_lt (g := gb233) BK233.out) : gb257 ≠ gb233)); have n21_ := am ((by rw [hg]; exact Nat.ne_of_lt (blk_lt (g := gb237) BK237.out) : gb237 ≠ gb257)); have n22_ := am ((by rw [hg]; exact Nat.ne_of_gt (blk_lt (g := gb237) BK237.out) : gb257 ≠ gb237)); have n23_ := am ((by rw [hg]; exact Nat.ne_of_lt (blk_lt (g := gb241) BK241.out) : gb241 ≠ gb257)); have n24_ := am ((by rw [hg]; exact Nat.ne_of_gt (blk_lt (g := gb241) BK241.out) : gb257 ≠ gb241)); have n25_ := am ((by rw [hg]; exact Nat.ne_of_lt (blk_lt (g := gb245) BK245.out) : gb245 ≠ gb257)); have n26_ := am ((by rw [hg]; exact Nat.ne_of_gt (blk_lt (g := gb245) BK245.out) : gb257 ≠ gb245)); have n27_ := am ((by rw [hg]; exact Nat.ne_of_lt (blk_lt (g := gb249) BK249.out) : gb249 ≠ gb257)); have n28_ := am ((by rw [hg]; exact Nat.ne_of_gt (blk_lt (g := gb249) BK249.out) : gb257 ≠ gb249)); have n29_ := am ((by rw [hg]; exact Nat.ne_of_lt (blk_lt (g := gb253) BK253.out) : gb253 ≠ gb257)); have n30_ := am ((by rw [hg]; exact Nat.ne_of_gt (blk_lt (g := gb253) BK253.out) : gb257 ≠ gb253)); clear BK227; clear BK228; clear BK229; clear BK233; clear BK237; clear BK241; clear BK245; clear BK249; clear BK253; clear HB; have BK227 := n0_; have BK228 := n1_; have BK229 := n2_; have BK233 := n3_; have BK237 := n4_; have BK241 := n5_; have BK245 := n6_; have BK249 := n7_; have BK253 := n8_; have HB := n9_; have BK257 := n10_; have GW257 := n11_; have GE257 := n12_; have NB227_257 := n13_; have NB257_227 := n14_; have NB228_257 := n15_; have NB257_228 := n16_; have NB229_257 := n17_; have NB257_229 := n18_; have NB233_257 := n19_; have NB257_233 := n20_; have NB237_257 := n21_; have NB257_237 := n22_; have NB241_257 := n23_; have NB257_241 := n24_; have NB245_257 := n25_; have NB257_245 := n26_; have NB249_257 := n27_; have NB257_249 := n28_; have NB253_257 := n29_; have NB257_253 := n30_; clear n0_ n1_ n2_ n3_ n4_ n5_ n6_ n7_ n8_ n9_ n10_ n11_ n12_ n13_ n14_ n15_ n16_ n17_ n18_ n19_ n20_ n21_ n22_ n23_ n24_ n25_ n26_ n27_ n28_ n29_ n30_; clear hb hbox hg; have hnb201 := NB257_227.out; have hnc201 := NB227_257.out; have hnb202 := NB257_228.out; have hnc202 := NB228_257.out; have hnb203 := NB257_229.out; have hnc203 := NB229_257.out; have hnb204 := NB257_233.out; have hnc204 := NB233_257.out; have hnb205 := NB257_237.out; have hnc205 := NB237_257.out; have hnb206 := NB257_241.out; have hnc206 := NB241_257.out; have hnb207 := NB257_245.out; have hnc207 := NB245_257.out; have hnb208 := NB257_249.out; have hnc208 := NB249_257.out; have hnb209 := NB257_253.out; have hnc209 := NB253_257.out; have hcz210_0 : w200.cell? ⟨gb257, 0, none⟩ = some (.int .i64 0) := (blk_cell BK257.out 0).trans rfl; have hcz210_1 : w200.cell? ⟨gb257, 1, none⟩ = some (.int .i64 0) := (blk_cell BK257.out 1).trans rfl; have hfz210_0 := blk_frozen BK257.out 0; have hfz210_1 := blk_frozen BK257.out 1; have hnb211 := NB241_233.out; have hnc211 := NB233_241.out; have hnb212 := NB241_237.out; have hnc212 := NB237_241.out; have hnb213 := NB241_245.out; have hnc213 := NB245_241.out; have hcz214_0 : w200.cell? ⟨gb241, 0, none⟩ = some (.int .i64 t238) := (blk_cell BK241.out 0).trans rfl; have hcz214_1 : w200.cell? ⟨gb241, 1, none⟩ = some (.int .i64 t239) := (blk_cell BK241.out 1).trans rfl; have hfz214_0 := blk_frozen BK241.out 0; have hfz214_1 := blk_frozen BK241.out 1) | ((with_reducible refine gate_callee (f := 24) rfl ?_); refine goesL_ (some 98) rfl rfl Tryd.func24 (by kernel_rfl) rfl #[.agg #[.int .i64 t238, .int .i64 t239], .agg #[.int .i64 t254, .int .i64 t255]] rfl (by (try simp only [List.map_toArray, List.map_cons, List.map_nil]); first | done | rfl | (simp only [List.length_drop, List.length_take]; rfl)) ?_; (with_reducible refine (ratio_Add.calls kj9 t238 t239 t254 t255 t258 t259 t260 _ A156.out).mono ?_); rintro e w215 ⟨rfl, hb⟩; refine ⟨_, rfl, ?_⟩; have n0_ := am (qb (g := gb227) (qf (blk_far BK227.out NB227_257.out _) NB227_257.out _) hb); have n1_ := am (qb (g := gb228) (qf (blk_far BK228.out NB228_257.out _) NB228_257.out _) hb); have n2_ := am (qb (g := gb229) (qf (blk_far BK229.out NB229_257.out _) NB229_257.out _) hb); have n3_ := am (qb (g := gb233) (qf (blk_far BK233.out NB233_257.out _) NB233_257.out _) hb); have n4_ := am (qb (g := gb237) (qf (blk_far BK237.out NB237_257.out _) NB237_257.out _) hb); have n5_ := am (qb (g := gb241) (qf (blk_far BK241.out NB241_257.out _) NB241_257.out _) hb); have n6_ := am (qb (g := gb245) (qf (blk_far BK245.out NB245_257.out _) NB245_257.out _) hb); have n7_ := am (qb (g := gb249) (qf (blk_far BK249.out NB249_257.out _) NB249_257.out _) hb); have n8_ := am (qb (g := gb253) (qf (blk_far BK253.out NB253_257.out _) NB253_257.out _) hb); have n9_ := am (qb (g := gb257) (o := .cells #[.int .i64 t254, .int .i64 t255] 23 (0, 0)) (by (with_reducible repeat (first | refine blk_drewN ?_ _ | refine blk_drew ?_ | refine blk_alloc ?_ _)); refine blk_put (cs := #[.int .i64 t254, .int .i64 0]) ?_ 1 _ rfl; (with_reducible repeat (first | refine blk_drewN ?_ _ | refine blk_drew ?_ | refine blk_alloc ?_ _)); refine blk_put (cs := #[.int .i64 0, .int .i64 0]) ?_ 0 _ rfl; (with_reducible repeat (first | refine blk_drewN ?_ _ | refine blk_drew ?_ | refine blk_alloc ?_ _)); exact BK257.out) hb); have n10_ := am (q8 (by repeat (first | (with_reducible first | exact HB.out | apply q4 | apply q5 | apply q6 | refine q7 ?_ GE227.out | refine q7 ?_ GE228.out | refine q7 ?_ GE229.out | refine q7 ?_ GE233.out | refine q7 ?_ GE237.out | refine q7 ?_ GE241.out | refine q7 ?_ GE245.out | refine q7 ?_ GE249.out | refine q7 ?_ GE253.out | refine q7 ?_ GE257.out) | exact HB.out)) hb); clear BK227; clear BK228; clear BK229; clear BK233; clear BK237; clear BK241; clear BK245; clear BK249; clear BK253; clear BK257; clear HB; have BK227 := n0_; have BK228 := n1_; have BK229 := n2_; have BK233 := n3_; have BK237 := n4_; have BK241 := n5_; have BK245 := n6_; have BK249 := n7_; have BK253 := n8_; have BK257 := n9_; have HB := n10_; clear n0_ n1_ n2_ n3_ n4_ n5_ n6_ n7_ n8_ n9_ n10_; (try clear hb); (try clear hb2); (try clear hk); (try clear hi)) | ((with_reducible refine gate_dst (N := 21) rfl ?_); refine box_event ?hg (N := 21) ?hd (cs := #[.int .i64 0, .int .i64 0]) (t := 23) ?hr ?_; (case hd => rfl); (case hg => rfl); (case hr => first | (go_simp; done) | (go_simp; rfl)); intro gb261 hg w216 hbox hb; have n0_ := am (qb (g := gb227) BK227.out hb); have n1_ := am (qb (g := gb228) BK228.out hb); have n2_ := am (qb (g := gb229) BK229.out hb); have n3_ := am (qb (g := gb233) BK233.out hb); have n4_ := am (qb (g := gb237) BK237.out hb); have n5_ := am (qb (g := gb241) BK241.out hb); have n6_ := am (qb (g := gb245) BK245.out hb); have n7_ := am (qb (g := gb249) BK249.out hb); have n8_ := am (qb (g := gb253) BK253.out hb); have n9_ := am (qb (g := gb257) BK257.out hb); have n10_ := am (q8 (by repeat (first | (with_reducible first | exact HB.out | apply q4 | apply q5 | apply q6 | refine q7 ?_ GE227.out | refine q7 ?_ GE228.out | refine q7 ?_ GE229.out | refine q7 ?_ GE233.out | refine q7 ?_ GE237.out | refine q7 ?_ GE241.out | refine q7 ?_ GE245.out | refine q7 ?_ GE249.out | refine q7 ?_ GE253.out | refine q7 ?_ GE257.out) | exact HB.out)) hb); have n11_ := am (hbox); have n12_ := am ((by rw [hg]; exact (q9 (by repeat (first | (with_reducible first | exact HB.out | apply q4 | apply q5 | apply q6 | refine q7 ?_ GE227.out | refine q7 ?_ GE228.out | refine q7 ?_ GE229.out | refine q7 ?_ GE233.out | refine q7 ?_ GE237.out | refine q7 ?_ GE241.out | refine q7 ?_ GE245.out | refine q7 ?_ GE249.out | refine q7 ?_ GE253.out | refine q7 ?_ GE257.out) | exact HB.out))) : w.heap.size ≤ gb261)); have n13_ := am ((by rw [hg]; exact (q9 (by repeat (first | (with_reducible first | exact HB.out | apply q4 | apply q5 | apply q6 | refine q7 ?_ GE227.out | refine q7 ?_ GE228.out | refine q7 ?_ GE229.out | refine q7 ?_ GE233.out | refine q7 ?_ GE237.out | refine q7 ?_ GE241.out | refine q7 ?_ GE245.out | refine q7 ?_ GE249.out | refine q7 ?_ GE253.out | refine q7 ?_ GE257.out) | exact HB.out))) : w.heap.size ≤ gb261)); have n14_ := am ((by rw [hg]; exact Nat.ne_of_lt (blk_lt (g := gb227) BK227.out) : gb227 ≠ gb261)); have n15_ := am ((by rw [hg]; exact Nat.ne_of_gt (blk_lt (g := gb227) BK227.out) : gb261 ≠ gb227)); have n16_ := am ((by rw [hg]; exact Nat.ne_of_lt (blk_lt (g := gb228) BK228.out) : gb228 ≠ gb261)); have n17_ := am ((by rw [hg]; exact Nat.ne_of_gt (blk_lt (g := gb228) BK228.out) : gb261 ≠ gb228)); have n18_ := am ((by rw [hg]; exact Nat.ne_of_lt (blk_lt (g := gb229) BK229.out) : gb229 ≠ gb261)); have n19_ := am ((by rw [hg]; exact Nat.ne_of_gt (blk_lt (g := gb229) BK229.out) : gb261 ≠ gb229)); have n20_ := am ((by rw [hg]; exact Nat.ne_of_lt (blk_lt (g := gb233) BK233.out) : gb233 ≠ gb261)); have n21_ := am ((by rw [hg]; exact Nat.ne_of_gt (blk_lt (g := gb233) BK233.out) : gb261 ≠ gb233)); have n22_ := am ((by rw [hg]; exact Nat.ne_of_lt (blk_lt (g := gb237) BK237.out) : gb237 ≠ gb261)); have n23_ := am ((by rw [hg]; exact Nat.ne_of_gt (blk_lt (g := gb237) BK237.out) : gb261 ≠ gb237)); have n24_ := am ((by rw [hg]; exact Nat.ne_of_lt (blk_lt (g := gb241) BK241.out) : gb241 ≠ gb261)); have n25_ := am ((by rw [hg]; exact Nat.ne_of_gt (blk_lt (g := gb241) BK241.out) : gb261 ≠ gb241)); have n26_ := am ((by rw [hg]; exact Nat.ne_of_lt (blk_lt (g := gb245) BK245.out) : gb245 ≠ gb261)); have n27_ := am ((by rw [hg]; exact Nat.ne_of_gt (blk_lt (g := gb245) BK245.out) : gb261 ≠ gb245)); have n28_ := am ((by rw [hg]; exact Nat.ne_of_lt (blk_lt (g := gb249) BK249.out) : gb249 ≠ gb261)); have n29_ := am ((by rw [hg]; exact Nat.ne_of_gt (blk_lt (g := gb249) BK249.out) : gb261 ≠ gb249)); have n30_ := am ((by rw [hg]; exact Nat.ne_of_lt (blk_lt (g := gb253) BK253.out) : gb253 ≠ gb261)); have n31_ := am ((by rw [hg]; exact Nat.ne_of_gt (blk_lt (g := gb253) BK253.out) : gb261 ≠ gb253)); have n32_ := am ((by rw [hg]; exact Nat.ne_of_lt (blk_lt (g := gb257) BK257.out) : gb257 ≠ gb261)); have n33_ := am ((by rw [hg]; exact Nat.ne_of_gt (blk_lt (g := gb257) BK257.out) : gb261 ≠ gb257)); clear BK227; clear BK228; clear BK229; clear BK233; clear BK237; clear BK241; clear BK245; clear BK249; clear BK253; clear BK257; clear HB; have BK227 := n0_; have BK228 := n1_; have BK229 := n2_; have BK233 := n3_; have BK237 := n4_; have BK241 := n5_; have BK245 := n6_; have BK249 := n7_; have BK253 := n8_; have BK257 := n9_; have HB := n10_; have BK261 := n11_; have GW261 := n12_; have GE261 := n13_; have NB227_261 := n14_; have NB261_227 := n15_; have NB228_261 := n16_; have NB261_228 := n17_; have NB229_261 := n18_; have NB261_229 := n19_; have NB233_261 := n20_; have NB261_233 := n21_; have NB237_261 := n22_; have NB261_237 := n23_; have NB241_261 := n24_; have NB261_241 := n25_; have NB245_261 := n26_; have NB261_245 := n27_; have NB249_261 := n28_; have NB261_249 := n29_; have NB253_261 := n30_; have NB261_253 := n31_; have NB257_261 := n32_; have NB261_257 := n33_; clear n0_ n1_ n2_ n3_ n4_ n5_ n6_ n7_ n8_ n9_ n10_ n11_ n12_ n13_ n14_ n15_ n16_ n17_ n18_ n19_ n20_ n21_ n22_ n23_ n24_ n25_ n26_ n27_ n28_ n29_ n30_ n31_ n32_ n33_; clear hb hbox hg; have hnb217 := NB261_227.out; have hnc217 := NB227_261.out; have hnb218 := NB261_228.out; have hnc218 := NB228_261.out; have hnb219 := NB261_229.out; have hnc219 := NB229_261.out; have hnb220 := NB261_233.out; have hnc220 := NB233_261.out; have hnb221 := NB261_237.out; have hnc221 := NB237_261.out; have hnb222 := NB261_241.out; have hnc222 := NB241_261.out; have hnb223 := NB261_245.out; have hnc223 := NB245_261.out; have hnb224 := NB261_249.out; have hnc224 := NB249_261.out; have hnb225 := NB261_253.out; have hnc225 := NB253_261.out; have hnb226 := NB261_257.out; have hnc226 := NB257_261.out; have hcz227_0 : w216.cell? ⟨gb261, 0, none⟩ = some (.int .i64 0) := (blk_cell BK261.out 0).trans rfl; have hcz227_1 : w216.cell? ⟨gb261, 1, none⟩ = some (.int .i64 0) := (blk_cell BK261.out 1).trans rfl; have hfz227_0 := blk_frozen BK261.out 0; have hfz227_1 := blk_frozen BK261.out 1))
        (try simp only [Act.put, List.setIfInBounds_toArray, List.set_cons_zero, List.set_cons_succ])
        go_cut [123] (fun v123 wc => ∃ (kq : Nat) (x123_156 : Bool), v123 = .bool x123_156 ∧ Aside0 (payrolllaw1_RatioField.j1 kq t232 t240 x123_156 t218 t219 t221 t222 t230 t231 t238 t239 = some true) ∧ Aside0 (kq ≤ kj9) ∧ Aside0 (wc.heap[gb227]? = some (.cells #[.int .i64 t218, .int .i64 t219] 23 (0, 0))) ∧ Aside0 (wc.heap[gb228]? = some (.cells #[.int .i64 t221, .int .i64 t222] 23 (0, 0))) ∧ Aside0 (wc.heap[gb229]? = some (.cells #[.int .i64 t224, .int .i64 t225] 23 (0, 0))) ∧ Aside0 (wc.heap[gb233]? = some (.cells #[.int .i64 t230, .int .i64 t231] 23 (0, 0))) ∧ Aside0 (wc.heap[gb237]? = some (.cells #[.int .i64 t234, .int .i64 t235] 23 (0, 0))) ∧ Aside0 (wc.heap[gb241]? = some (.cells #[.int .i64 t238, .int .i64 t239] 23 (0, 0))) ∧ Aside0 (wc.heap[gb245]? = some (.cells #[.int .i64 t242, .int .i64 t243] 23 (0, 0))) ∧ Aside0 (wc.heap[gb249]? = some (.cells #[.int .i64 t246, .int .i64 t247] 23 (0, 0))) ∧ Aside0 (wc.heap[gb253]? = some (.cells #[.int .i64 t250, .int .i64 t251] 23 (0, 0))) ∧ Aside0 (wc.heap[gb257]? = some (.cells #[.int .i64 t254, .int .i64 t255] 23 (0, 0))) ∧ Aside0 (wc.heap[gb261]? = some (.cells #[.int .i64 t258, .int .i64 t259] 23 (0, 0))) ∧ Aside0 (Below w.heap.size w wc))
        case first =>
          have H := HC157.out
          clear HC157
          by_cases c228 : t240 = 0
          · rw [if_pos c228] at H
            have c228b0 : (t240 == 0) = true := beq_iff_eq.mpr c228
            have c228b1 : (t240 != 0) = false := bne_eq_false_iff_eq.mpr c228
            clear c228
            (first | rw [c228b0] | (simp only [i64_w, i32_w]; rw [c228b0]) | skip)
            by_cases c229 : t248 = 0
            · rw [if_pos c229] at H
              have c229b0 : (t248 == 0) = true := beq_iff_eq.mpr c229
              have c229b1 : (t248 != 0) = false := bne_eq_false_iff_eq.mpr c229
              clear c229
              by_cases c230 : t252 = 0
              · rw [if_pos c230] at H
                have c230b0 : (t252 == 0) = true := beq_iff_eq.mpr c230
                have c230b1 : (t252 != 0) = false := bne_eq_false_iff_eq.mpr c230
                clear c230
                by_cases c231 : t256 = 0
                · rw [if_pos c231] at H
                  have c231b0 : (t256 == 0) = true := beq_iff_eq.mpr c231
                  have c231b1 : (t256 != 0) = false := bne_eq_false_iff_eq.mpr c231
                  clear c231
                  by_cases c232 : t260 = 0
                  · rw [if_pos c232] at H
                    have c232b0 : (t260 == 0) = true := beq_iff_eq.mpr c232
                    have c232b1 : (t260 != 0) = false := bne_eq_false_iff_eq.mpr c232
                    clear c232
                    have H' := am H
                    clear H
                    have hnb233 := NB253_227.out
                    have hnc233 := NB227_253.out
                    have hnb234 := NB253_228.out
                    have hnc234 := NB228_253.out
                    have hnb235 := NB253_229.out
                    have hnc235 := NB229_253.out
                    have hnb236 := NB253_233.out
                    have hnc236 := NB233_253.out
                    have hnb237 := NB253_237.out
                    have hnc237 := NB237_253.out
                    have hnb238 := NB253_241.out
                    have hnc238 := NB241_253.out
                    have hnb239 := NB253_245.out
                    have hnc239 := NB245_253.out
                    have hnb240 := NB253_249.out
                    have hnc240 := NB249_253.out
                    have hnb241 := NB253_257.out
                    have hnc241 := NB257_253.out
                    have hnb242 := NB253_261.out
                    have hnc242 := NB261_253.out
                    have hcz243_0 : w216.cell? ⟨gb253, 0, none⟩ = some (.int .i64 t250) := (blk_cell BK253.out 0).trans rfl
                    have hcz243_1 : w216.cell? ⟨gb253, 1, none⟩ = some (.int .i64 t251) := (blk_cell BK253.out 1).trans rfl
                    have hfz243_0 := blk_frozen BK253.out 0
                    have hfz243_1 := blk_frozen BK253.out 1
                    have hnb244 := NB261_227.out
                    have hnc244 := NB227_261.out
                    have hnb245 := NB261_228.out
                    have hnc245 := NB228_261.out
                    have hnb246 := NB261_229.out
                    have hnc246 := NB229_261.out
                    have hnb247 := NB261_233.out
                    have hnc247 := NB233_261.out
                    have hnb248 := NB261_237.out
                    have hnc248 := NB237_261.out
                    have hnb249 := NB261_241.out
                    have hnc249 := NB241_261.out
                    have hnb250 := NB261_245.out
                    have hnc250 := NB245_261.out
                    have hnb251 := NB261_249.out
                    have hnc251 := NB249_261.out
                    have hnb252 := NB261_257.out
                    have hnc252 := NB257_261.out
                    have hcz253_0 : w216.cell? ⟨gb261, 0, none⟩ = some (.int .i64 0) := (blk_cell BK261.out 0).trans rfl
                    have hcz253_1 : w216.cell? ⟨gb261, 1, none⟩ = some (.int .i64 0) := (blk_cell BK261.out 1).trans rfl
                    have hfz253_0 := blk_frozen BK261.out 0
                    have hfz253_1 := blk_frozen BK261.out 1
                    go_wp2
                    go_meet
                    case rel => exact ⟨_, ((!(t250 == t258) || (!(t251 == t259)))), (by first | rfl | (simp; done) | (simp [*]; done)), H', ⟨by have := HJ9.out; first | omega | exact Nat.le_refl _⟩, ⟨qf (blk_far BK227.out NB227_261.out _) NB227_261.out _⟩, ⟨qf (blk_far BK228.out NB228_261.out _) NB228_261.out _⟩, ⟨qf (blk_far BK229.out NB229_261.out _) NB229_261.out _⟩, ⟨qf (blk_far BK233.out NB233_261.out _) NB233_261.out _⟩, ⟨qf (blk_far BK237.out NB237_261.out _) NB237_261.out _⟩, ⟨qf (blk_far BK241.out NB241_261.out _) NB241_261.out _⟩, ⟨qf (blk_far BK245.out NB245_261.out _) NB245_261.out _⟩, ⟨qf (blk_far BK249.out NB249_261.out _) NB249_261.out _⟩, ⟨qf (blk_far BK253.out NB253_261.out _) NB253_261.out _⟩, ⟨qf (blk_far BK257.out NB257_261.out _) NB257_261.out _⟩, ⟨by (with_reducible repeat (first | refine blk_drewN ?_ _ | refine blk_drew ?_ | refine blk_alloc ?_ _)); refine blk_put (cs := #[.int .i64 t258, .int .i64 0]) ?_ 1 _ rfl; (with_reducible repeat (first | refine blk_drewN ?_ _ | refine blk_drew ?_ | refine blk_alloc ?_ _)); refine blk_put (cs := #[.int .i64 0, .int .i64 0]) ?_ 0 _ rfl; (with_reducible repeat (first | refine blk_drewN ?_ _ | refine blk_drew ?_ | refine blk_alloc ?_ _)); exact BK261.out⟩, ⟨by repeat (first | (with_reducible first | exact HB.out | apply q4 | apply q5 | apply q6 | refine q7 ?_ GE227.out | refine q7 ?_ GE228.out | refine q7 ?_ GE229.out | refine q7 ?_ GE233.out | refine q7 ?_ GE237.out | refine q7 ?_ GE241.out | refine q7 ?_ GE245.out | refine q7 ?_ GE249.out | refine q7 ?_ GE253.out | refine q7 ?_ GE257.out | refine q7 ?_ GE261.out) | exact HB.out)⟩⟩
                  · rw [if_neg c232] at H
                    have c232b0 : (t260 == 0) = false := beq_eq_false_iff_ne.mpr c232
                    have c232b1 : (t260 != 0) = true := bne_iff_ne.mpr c232
                    have H' := am H
                    clear H
                    go_wp2
                    go_meet
                    case rel => exact ⟨_, (false), (by first | rfl | (simp; done) | (simp [*]; done)), H', ⟨by have := HJ9.out; first | omega | exact Nat.le_refl _⟩, ⟨qf (blk_far BK227.out NB227_261.out _) NB227_261.out _⟩, ⟨qf (blk_far BK228.out NB228_261.out _) NB228_261.out _⟩, ⟨qf (blk_far BK229.out NB229_261.out _) NB229_261.out _⟩, ⟨qf (blk_far BK233.out NB233_261.out _) NB233_261.out _⟩, ⟨qf (blk_far BK237.out NB237_261.out _) NB237_261.out _⟩, ⟨qf (blk_far BK241.out NB241_261.out _) NB241_261.out _⟩, ⟨qf (blk_far BK245.out NB245_261.out _) NB245_261.out _⟩, ⟨qf (blk_far BK249.out NB249_261.out _) NB249_261.out _⟩, ⟨qf (blk_far BK253.out NB253_261.out _) NB253_261.out _⟩, ⟨qf (blk_far BK257.out NB257_261.out _) NB257_261.out _⟩, ⟨by (with_reducible repeat (first | refine blk_drewN ?_ _ | refine blk_drew ?_ | refine blk_alloc ?_ _)); refine blk_put (cs := #[.int .i64 t258, .int .i64 0]) ?_ 1 _ rfl; (with_reducible repeat (first | refine blk_drewN ?_ _ | refine blk_drew ?_ | refine blk_alloc ?_ _)); refine blk_put (cs := #[.int .i64 0, .int .i64 0]) ?_ 0 _ rfl; (with_reducible repeat (first | refine blk_drewN ?_ _ | refine blk_drew ?_ | refine blk_alloc ?_ _)); exact BK261.out⟩, ⟨by repeat (first | (with_reducible first | exact HB.out | apply q4 | apply q5 | apply q6 | refine q7 ?_ GE227.out | refine q7 ?_ GE228.out | refine q7 ?_ GE229.out | refine q7 ?_ GE233.out | refine q7 ?_ GE237.out | refine q7 ?_ GE241.out | refine q7 ?_ GE245.out | refine q7 ?_ GE249.out | refine q7 ?_ GE253.out | refine q7 ?_ GE257.out | refine q7 ?_ GE261.out) | exact HB.out)⟩⟩
                · rw [if_neg c231] at H
                  have c231b0 : (t256 == 0) = false := beq_eq_false_iff_ne.mpr c231
                  have c231b1 : (t256 != 0) = true := bne_iff_ne.mpr c231
                  have H' := am H
                  clear H
                  go_wp2
                  go_meet
                  case rel => exact ⟨_, (false), (by first | rfl | (simp; done) | (simp [*]; done)), H', ⟨by have := HJ9.out; first | omega | exact Nat.le_refl _⟩, ⟨qf (blk_far BK227.out NB227_261.out _) NB227_261.out _⟩, ⟨qf (blk_far BK228.out NB228_261.out _) NB228_261.out _⟩, ⟨qf (blk_far BK229.out NB229_261.out _) NB229_261.out _⟩, ⟨qf (blk_far BK233.out NB233_261.out _) NB233_261.out _⟩, ⟨qf (blk_far BK237.out NB237_261.out _) NB237_261.out _⟩, ⟨qf (blk_far BK241.out NB241_261.out _) NB241_261.out _⟩, ⟨qf (blk_far BK245.out NB245_261.out _) NB245_261.out _⟩, ⟨qf (blk_far BK249.out NB249_261.out _) NB249_261.out _⟩, ⟨qf (blk_far BK253.out NB253_261.out _) NB253_261.out _⟩, ⟨qf (blk_far BK257.out NB257_261.out _) NB257_261.out _⟩, ⟨by (with_reducible repeat (first | refine blk_drewN ?_ _ | refine blk_drew ?_ | refine blk_alloc ?_ _)); refine blk_put (cs := #[.int .i64 t258, .int .i64 0]) ?_ 1 _ rfl; (with_reducible repeat (first | refine blk_drewN ?_ _ | refine blk_drew ?_ | refine blk_alloc ?_ _)); refine blk_put (cs := #[.int .i64 0, .int .i64 0]) ?_ 0 _ rfl; (with_reducible repeat (first | refine blk_drewN ?_ _ | refine blk_drew ?_ | refine blk_alloc ?_ _)); exact BK261.out⟩, ⟨by repeat (first | (with_reducible first | exact HB.out | apply q4 | apply q5 | apply q6 | refine q7 ?_ GE227.out | refine q7 ?_ GE228.out | refine q7 ?_ GE229.out | refine q7 ?_ GE233.out | refine q7 ?_ GE237.out | refine q7 ?_ GE241.out | refine q7 ?_ GE245.out | refine q7 ?_ GE249.out | refine q7 ?_ GE253.out | refine q7 ?_ GE257.out | refine q7 ?_ GE261.out) | exact HB.out)⟩⟩
              · rw [if_neg c230] at H
                have c230b0 : (t252 == 0) = false := beq_eq_false_iff_ne.mpr c230
                have c230b1 : (t252 != 0) = true := bne_iff_ne.mpr c230
                have H' := am H
                clear H
                go_wp2
                go_meet
                case rel => exact ⟨_, (false), (by first | rfl | (simp; done) | (simp [*]; done)), H', ⟨by have := HJ9.out; first | omega | exact Nat.le_refl _⟩, ⟨qf (blk_far BK227.out NB227_261.out _) NB227_261.out _⟩, ⟨qf (blk_far BK228.out NB228_261.out _) NB228_261.out _⟩, ⟨qf (blk_far BK229.out NB229_261.out _) NB229_261.out _⟩, ⟨qf (blk_far BK233.out NB233_261.out _) NB233_261.out _⟩, ⟨qf (blk_far BK237.out NB237_261.out _) NB237_261.out _⟩, ⟨qf (blk_far BK241.out NB241_261.out _) NB241_261.out _⟩, ⟨qf (blk_far BK245.out NB245_261.out _) NB245_261.out _⟩, ⟨qf (blk_far BK249.out NB249_261.out _) NB249_261.out _⟩, ⟨qf (blk_far BK253.out NB253_261.out _) NB253_261.out _⟩, ⟨qf (blk_far BK257.out NB257_261.out _) NB257_261.out _⟩, ⟨by (with_reducible repeat (first | refine blk_drewN ?_ _ | refine blk_drew ?_ | refine blk_alloc ?_ _)); refine blk_put (cs := #[.int .i64 t258, .int .i64 0]) ?_ 1 _ rfl; (with_reducible repeat (first | refine blk_drewN ?_ _ | refine blk_drew ?_ | refine blk_alloc ?_ _)); refine blk_put (cs := #[.int .i64 0, .int .i64 0]) ?_ 0 _ rfl; (with_reducible repeat (first | refine blk_drewN ?_ _ | refine blk_drew ?_ | refine blk_alloc ?_ _)); exact BK261.out⟩, ⟨by repeat (first | (with_reducible first | exact HB.out | apply q4 | apply q5 | apply q6 | refine q7 ?_ GE227.out | refine q7 ?_ GE228.out | refine q7 ?_ GE229.out | refine q7 ?_ GE233.out | refine q7 ?_ GE237.out | refine q7 ?_ GE241.out | refine q7 ?_ GE245.out | refine q7 ?_ GE249.out | refine q7 ?_ GE253.out | refine q7 ?_ GE257.out | refine q7 ?_ GE261.out) | exact HB.out)⟩⟩
            · rw [if_neg c229] at H
              have c229b0 : (t248 == 0) = false := beq_eq_false_iff_ne.mpr c229
              have c229b1 : (t248 != 0) = true := bne_iff_ne.mpr c229
              have H' := am H
              clear H
              go_wp2
              go_meet
              case rel => exact ⟨_, (false), (by first | rfl | (simp; done) | (simp [*]; done)), H', ⟨by have := HJ9.out; first | omega | exact Nat.le_refl _⟩, ⟨qf (blk_far BK227.out NB227_261.out _) NB227_261.out _⟩, ⟨qf (blk_far BK228.out NB228_261.out _) NB228_261.out _⟩, ⟨qf (blk_far BK229.out NB229_261.out _) NB229_261.out _⟩, ⟨qf (blk_far BK233.out NB233_261.out _) NB233_261.out _⟩, ⟨qf (blk_far BK237.out NB237_261.out _) NB237_261.out _⟩, ⟨qf (blk_far BK241.out NB241_261.out _) NB241_261.out _⟩, ⟨qf (blk_far BK245.out NB245_261.out _) NB245_261.out _⟩, ⟨qf (blk_far BK249.out NB249_261.out _) NB249_261.out _⟩, ⟨qf (blk_far BK253.out NB253_261.out _) NB253_261.out _⟩, ⟨qf (blk_far BK257.out NB257_261.out _) NB257_261.out _⟩, ⟨by (with_reducible repeat (first | refine blk_drewN ?_ _ | refine blk_drew ?_ | refine blk_alloc ?_ _)); refine blk_put (cs := #[.int .i64 t258, .int .i64 0]) ?_ 1 _ rfl; (with_reducible repeat (first | refine blk_drewN ?_ _ | refine blk_drew ?_ | refine blk_alloc ?_ _)); refine blk_put (cs := #[.int .i64 0, .int .i64 0]) ?_ 0 _ rfl; (with_reducible repeat (first | refine blk_drewN ?_ _ | refine blk_drew ?_ | refine blk_alloc ?_ _)); exact BK261.out⟩, ⟨by repeat (first | (with_reducible first | exact HB.out | apply q4 | apply q5 | apply q6 | refine q7 ?_ GE227.out | refine q7 ?_ GE228.out | refine q7 ?_ GE229.out | refine q7 ?_ GE233.out | refine q7 ?_ GE237.out | refine q7 ?_ GE241.out | refine q7 ?_ GE245.out | refine q7 ?_ GE249.out | refine q7 ?_ GE253.out | refine q7 ?_ GE257.out | refine q7 ?_ GE261.out) | exact HB.out)⟩⟩
          · rw [if_neg c228] at H
            have c228b0 : (t240 == 0) = false := beq_eq_false_iff_ne.mpr c228
            have c228b1 : (t240 != 0) = true := bne_iff_ne.mpr c228
            (first | rw [c228b0] | (simp only [i64_w, i32_w]; rw [c228b0]) | skip)
            have H' := am H
            clear H
            go_wp2
            go_meet
            case rel => exact ⟨_, (false), (by first | rfl | (simp; done) | (simp [*]; done)), H', ⟨by have := HJ9.out; first | omega | exact Nat.le_refl _⟩, ⟨qf (blk_far BK227.out NB227_261.out _) NB227_261.out _⟩, ⟨qf (blk_far BK228.out NB228_261.out _) NB228_261.out _⟩, ⟨qf (blk_far BK229.out NB229_261.out _) NB229_261.out _⟩, ⟨qf (blk_far BK233.out NB233_261.out _) NB233_261.out _⟩, ⟨qf (blk_far BK237.out NB237_261.out _) NB237_261.out _⟩, ⟨qf (blk_far BK241.out NB241_261.out _) NB241_261.out _⟩, ⟨qf (blk_far BK245.out NB245_261.out _) NB245_261.out _⟩, ⟨qf (blk_far BK249.out NB249_261.out _) NB249_261.out _⟩, ⟨qf (blk_far BK253.out NB253_261.out _) NB253_261.out _⟩, ⟨qf (blk_far BK257.out NB257_261.out _) NB257_261.out _⟩, ⟨by (with_reducible repeat (first | refine blk_drewN ?_ _ | refine blk_drew ?_ | refine blk_alloc ?_ _)); refine blk_put (cs := #[.int .i64 t258, .int .i64 0]) ?_ 1 _ rfl; (with_reducible repeat (first | refine blk_drewN ?_ _ | refine blk_drew ?_ | refine blk_alloc ?_ _)); refine blk_put (cs := #[.int .i64 0, .int .i64 0]) ?_ 0 _ rfl; (with_reducible repeat (first | refine blk_drewN ?_ _ | refine blk_drew ?_ | refine blk_alloc ?_ _)); exact BK261.out⟩, ⟨by repeat (first | (with_reducible first | exact HB.out | apply q4 | apply q5 | apply q6 | refine q7 ?_ GE227.out | refine q7 ?_ GE228.out | refine q7 ?_ GE229.out | refine q7 ?_ GE233.out | refine q7 ?_ GE237.out | refine q7 ?_ GE241.out | refine q7 ?_ GE245.out | refine q7 ?_ GE249.out | refine q7 ?_ GE253.out | refine q7 ?_ GE257.out | refine q7 ?_ GE261.out) | exact HB.out)⟩⟩
        case rest =>
          clear HC157
          try clear c1
          try clear c2
          try clear p2
          try clear c3
          try clear c4
          try clear c5
          try clear c6
          try clear c7
          try clear c8
          try clear c9
          try clear c10
          try clear c11
          try clear c12
          try clear c13
          try clear c14
          try clear c15
          try clear c16
          try clear c17
          try clear c18
          try clear c19
          try clear c20
          try clear c21
          try clear c22
          try clear c23
          try clear c24
          try clear c25
          try clear c29
          try clear c30
          try clear c31
          try clear c32
          try clear c38
          try clear c39
          try clear c40
          try clear c41
          try clear c42
          try clear c48
          try clear c49
          try clear c50
          try clear c51
          try clear c52
          try clear c53
          try clear c59
          try clear c60
          try clear c61
          try clear c62
          try clear c63
          try clear c64
          try clear c65
          try clear c67
          try clear c67b0
          try clear c68
          try clear c69
          try clear c70
          try clear c71
          try clear c72
          try clear c73
          try clear c74
          try clear c76
          try clear c77
          try clear c78
          try clear c79
          try clear c80
          try clear c81
          try clear c83
          try clear c83b0
          try clear c83b1
          try clear c84
          try clear c84b0
          try clear c85
          try clear c86
          try clear c87
          try clear c88
          try clear c89
          try clear c90
          try clear c91
          try clear c93
          try clear c94
          try clear c95
          try clear c96
          try clear c97
          try clear c98
          try clear c100
          try clear c101
          try clear c102
          try clear c103
          try clear c104
          try clear c106
          try clear c107
          try clear c108
          try clear c109
          try clear c111
          try clear c112
          try clear c113
          try clear c114
          try clear c115
          try clear c116
          try clear c117
          try clear c119
          try clear c120
          try clear c121
          try clear c122
          try clear c123
          try clear c124
          try clear c126
          try clear c127
          try clear c128
          try clear c129
          try clear c130
          try clear c132
          try clear c133
          try clear c134
          try clear c135
          try clear c137
          try clear c138
          try clear c139
          try clear c140
          try clear c141
          try clear c142
          try clear c143
          try clear c145
          try clear c146
          try clear c147
          try clear c148
          try clear c149
          try clear c150
          try clear c152
          try clear c158
          try clear c159
          try clear c160
          try clear c161
          try clear c162
          try clear c163
          try clear c165
          try clear c166
          try clear c167
          try clear c168
          try clear c169
          try clear c173
          try clear c174
          try clear c175
          try clear c176
          try clear c177
          try clear c178
          try clear c179
          try clear c181
          try clear c182
          try clear c183
          try clear c184
          try clear c188
          try clear c189
          try clear c190
          try clear c191
          try clear c192
          try clear c193
          try clear c194
          try clear c195
          try clear c201
          try clear c202
          try clear c203
          try clear c204
          try clear c205
          try clear c206
          try clear c207
          try clear c208
          try clear c209
          try clear c211
          try clear c212
          try clear c213
          try clear c217
          try clear c218
          try clear c219
          try clear c220
          try clear c221
          try clear c222
          try clear c223
          try clear c224
          try clear c225
          try clear c226
          try clear c228
          try clear c228b0
          try clear c228b1
          try clear c229
          try clear c229b0
          try clear c229b1
          try clear c230
          try clear c230b0
          try clear c230b1
          try clear c231
          try clear c231b0
          try clear c231b1
          try clear c232
          try clear c232b0
          try clear c232b1
          try clear c233
          try clear c234
          try clear c235
          try clear c236
          try clear c237
          try clear c238
          try clear c239
          try clear c240
          try clear c241
          try clear c242
          try clear c244
          try clear c245
          try clear c246
          try clear c247
          try clear c248
          try clear c249
          try clear c250
          try clear c251
          try clear c252
          try clear hcz105_0
          try clear hcz105_1
          try clear hcz110_0
          try clear hcz110_1
          try clear hcz118_0
          try clear hcz118_1
          try clear hcz125_0
          try clear hcz125_1
          try clear hcz131_0
          try clear hcz131_1
          try clear hcz136_0
          try clear hcz136_1
          try clear hcz144_0
          try clear hcz144_1
          try clear hcz151_0
          try clear hcz151_1
          try clear hcz164_0
          try clear hcz164_1
          try clear hcz170_0
          try clear hcz170_1
          try clear hcz180_0
          try clear hcz180_1
          try clear hcz185_0
          try clear hcz185_1
          try clear hcz196_0
          try clear hcz196_1
          try clear hcz197_0
          try clear hcz197_1
          try clear hcz198_0
          try clear hcz198_1
          try clear hcz210_0
          try clear hcz210_1
          try clear hcz214_0
          try clear hcz214_1
          try clear hcz21_0
          try clear hcz21_1
          try clear hcz227_0
          try clear hcz227_1
          try clear hcz243_0
          try clear hcz243_1
          try clear hcz24_0
          try clear hcz24_1
          try clear hcz253_0
          try clear hcz253_1
          try clear hcz26_0
          try clear hcz26_1
          try clear hcz33_0
          try clear hcz33_1
          try clear hcz34_0
          try clear hcz34_1
          try clear hcz35_0
          try clear hcz35_1
          try clear hcz43_0
          try clear hcz43_1
          try clear hcz44_0
          try clear hcz44_1
          try clear hcz45_0
          try clear hcz45_1
          try clear hcz54_0
          try clear hcz54_1
          try clear hcz55_0
          try clear hcz55_1
          try clear hcz56_0
          try clear hcz56_1
          try clear hcz66_0
          try clear hcz66_1
          try clear hcz75_0
          try clear hcz75_1
          try clear hcz82_0
          try clear hcz82_1
          try clear hcz92_0
          try clear hcz92_1
          try clear hcz99_0
          try clear hcz99_1
          try clear hfz105_0
          try clear hfz105_1
          try clear hfz110_0
          try clear hfz110_1
          try clear hfz118_0
          try clear hfz118_1
          try clear hfz125_0
          try clear hfz125_1
          try clear hfz131_0
          try clear hfz131_1
          try clear hfz136_0
          try clear hfz136_1
          try clear hfz144_0
          try clear hfz144_1
          try clear hfz151_0
          try clear hfz151_1
          try clear hfz164_0
          try clear hfz164_1
          try clear hfz170_0
          try clear hfz170_1
          try clear hfz180_0
          try clear hfz180_1
          try clear hfz185_0
          try clear hfz185_1
          try clear hfz196_0
          try clear hfz196_1
          try clear hfz197_0
          try clear hfz197_1
          try clear hfz198_0
          try clear hfz198_1
          try clear hfz210_0
          try clear hfz210_1
          try clear hfz214_0
          try clear hfz214_1
          try clear hfz21_0
          try clear hfz21_1
          try clear hfz227_0
          try clear hfz227_1
          try clear hfz243_0
          try clear hfz243_1
          try clear hfz24_0
          try clear hfz24_1
          try clear hfz253_0
          try clear hfz253_1
          try clear hfz26_0
          try clear hfz26_1
          try clear hfz33_0
          try clear hfz33_1
          try clear hfz34_0
          try clear hfz34_1
          try clear hfz35_0
          try clear hfz35_1
          try clear hfz43_0
          try clear hfz43_1
          try clear hfz44_0
          try clear hfz44_1
          try clear hfz45_0
          try clear hfz45_1
          try clear hfz54_0
          try clear hfz54_1
          try clear hfz55_0
          try clear hfz55_1
          try clear hfz56_0
          try clear hfz56_1
          try clear hfz66_0
          try clear hfz66_1
          try clear hfz75_0
          try clear hfz75_1
          try clear hfz82_0
          try clear hfz82_1
          try clear hfz92_0
          try clear hfz92_1
          try clear hfz99_0
          try clear hfz99_1
          try clear p2
          obtain ⟨kq, x123_156, rfl, HA, HJ156, BK227, BK228, BK229, BK233, BK237, BK241, BK245, BK249, BK253, BK257, BK261, HB⟩ := hcut
          cases kq with
          | zero => exact absurd HA.out (by simp [payrolllaw1_RatioField.j1])
          | succ kj156 =>
            have H := HA.out
            clear HA
            simp only [payrolllaw1_RatioField.j1] at H
            by_cases c254 : x123_156 = true
            · subst c254
              have H1 : (some false) = some true := by rw [if_pos rfl] at H; exact H
              clear H
              have H := H1
              clear H1
              exact absurd H (by simp)
            · replace c254 := Bool.eq_false_iff.mpr c254
              subst c254
              have H1 : ((ratio_Sub.f kj156 t230 t231 t221 t222).bind fun bt262 => (if t232 = 0 then (if bt262.2.2 = 0 then (payrolllaw1_RatioField.j2 kj156 t240 (!(bt262.1 == t218) || (!(bt262.2.1 == t219))) t218 t219 t221 t222 t238 t239) else (payrolllaw1_RatioField.j2 kj156 t240 true t218 t219 t221 t222 t238 t239)) else (payrolllaw1_RatioField.j2 kj156 t240 false t218 t219 t221 t222 t238 t239))) = some true := by rw [if_neg (show ¬ (false = true) by decide)] at H; exact H
              clear H
              have H := H1
              clear H1
              replace H := Option.bind_eq_some_iff.mp H
              obtain ⟨⟨t262, t263, t264⟩, A2550, H⟩ := H
              replace H : (if t232 = 0 then (if t264 = 0 then (payrolllaw1_RatioField.j2 kj156 t240 (!(t262 == t218) || (!(t263 == t219))) t218 t219 t221 t222 t238 t239) else (payrolllaw1_RatioField.j2 kj156 t240 true t218 t219 t221 t222 t238 t239)) else (payrolllaw1_RatioField.j2 kj156 t240 false t218 t219 t221 t222 t238 t239)) = some true := H
              have A255 := am A2550
              clear A2550
              have HC256 := am H
              clear H
              have hnb257 := NB233_227.out
              have hnc257 := NB227_233.out
              have hnb258 := NB233_228.out
              have hnc258 := NB228_233.out
              have hnb259 := NB233_229.out
              have hnc259 := NB229_233.out
              have hnb260 := NB233_237.out
              have hnc260 := NB237_233.out
              have hnb261 := NB233_241.out
              have hnc261 := NB241_233.out
              have hnb262 := NB233_245.out
              have hnc262 := NB245_233.out
              have hnb263 := NB233_249.out
              have hnc263 := NB249_233.out
              have hnb264 := NB233_253.out
              have hnc264 := NB253_233.out
              have hnb265 := NB233_257.out
              have hnc265 := NB257_233.out
              have hnb266 := NB233_261.out
              have hnc266 := NB261_233.out
              have hcz267_0 : wc.cell? ⟨gb233, 0, none⟩ = some (.int .i64 t230) := (blk_cell BK233.out 0).trans rfl
              have hcz267_1 : wc.cell? ⟨gb233, 1, none⟩ = some (.int .i64 t231) := (blk_cell BK233.out 1).trans rfl
              have hfz267_0 := blk_frozen BK233.out 0
              have hfz267_1 := blk_frozen BK233.out 1
              have hnb268 := NB228_227.out
              have hnc268 := NB227_228.out
              have hnb269 := NB228_229.out
              have hnc269 := NB229_228.out
              have hnb270 := NB228_237.out
              have hnc270 := NB237_228.out
              have hnb271 := NB228_241.out
              have hnc271 := NB241_228.out
              have hnb272 := NB228_245.out
              have hnc272 := NB245_228.out
              have hnb273 := NB228_249.out
              have hnc273 := NB249_228.out
              have hnb274 := NB228_253.out
              have hnc274 := NB253_228.out
              have hnb275 := NB228_257.out
              have hnc275 := NB257_228.out
              have hnb276 := NB228_261.out
              have hnc276 := NB261_228.out
              have hcz277_0 : wc.cell? ⟨gb228, 0, none⟩ = some (.int .i64 t221) := (blk_cell BK228.out 0).trans rfl
              have hcz277_1 : wc.cell? ⟨gb228, 1, none⟩ = some (.int .i64 t222) := (blk_cell BK228.out 1).trans rfl
              have hfz277_0 := blk_frozen BK228.out 0
              have hfz277_1 := blk_frozen BK228.out 1
              go_upto_region 16 with (first | ((with_reducible refine gate_callee (f := 27) rfl ?_); refine goesL_ (some 127) rfl rfl Tryd.func27 (by kernel_rfl) rfl #[.agg #[.int .i64 t230, .int .i64 t231], .agg #[.int .i64 t221, .int .i64 t222]] rfl (by (try simp only [List.map_toArray, List.map_cons, List.map_nil]); first | done | rfl | (simp only [List.length_drop, List.length_take]; rfl)) ?_; (with_reducible refine (ratio_Sub.calls kj156 t230 t231 t221 t222 t262 t263 t264 _ A255.out).mono ?_); rintro e w278 ⟨rfl, hb⟩; refine ⟨_, rfl, ?_⟩; have n0_ := am (qb (g := gb227) BK227.out hb); have n1_ := am (qb (g := gb228) BK228.out hb); have n2_ := am (qb (g := gb229) BK229.out hb); have n3_ := am (qb (g := gb233) BK233.out hb); have n4_ := am (qb (g := gb237) BK237.out hb); have n5_ := am (qb (g := gb241) BK241.out hb); have n6_ := am (qb (g := gb245) BK245.out hb); have n7_ := am (qb (g := gb249) BK249.out hb); have n8_ := am (qb (g := gb253) BK253.out hb); have n9_ := am (qb (g := gb257) BK257.out hb); have n10_ := am (qb (g := gb261) BK261.out hb); have n11_ := am (q8 (by repeat (first | (with_reducible first | exact HB.out | apply q4 | apply q5 | apply q6 | refine q7 ?_ GE227.out | refine q7 ?_ GE228.out | refine q7 ?_ GE229.out | refine q7 ?_ GE233.out | refine q7 ?_ GE237.out | refine q7 ?_ GE241.out | refine q7 ?_ GE245.out | refine q7 ?_ GE249.out | refine q7 ?_ GE253.out | refine q7 ?_ GE257.out | refine q7 ?_ GE261.out) | exact HB.out)) hb); clear BK227; clear BK228; clear BK229; clear BK233; clear BK237; clear BK241; clear BK245; clear BK249; clear BK253; clear BK257; clear BK261; clear HB; have BK227 := n0_; have BK228 := n1_; have BK229 := n2_; have BK233 := n3_; have BK237 := n4_; have BK241 := n5_; have BK245 := n6_; have BK249 := n7_; have BK253 := n8_; have BK257 := n9_; have BK261 := n10_; have HB := n11_; clear n0_ n1_ n2_ n3_ n4_ n5_ n6_ n7_ n8_ n9_ n10_ n11_; (try clear hb); (try clear hb2); (try clear hk); (try clear hi)) | ((with_reducible refine gate_dst (N := 23) rfl ?_); refine box_event ?hg (N := 23) ?hd (cs := #[.int .i64 0, .int .i64 0]) (t := 23) ?hr ?_; (case hd => rfl); (case hg => rfl); (case hr => first | (go_simp; done) | (go_simp; rfl)); intro gb265 hg w279 hbox hb; have n0_ := am (qb (g := gb227) BK227.out hb); have n1_ := am (qb (g := gb228) BK228.out hb); have n2_ := am (qb (g := gb229) BK229.out hb); have n3_ := am (qb (g := gb233) BK233.out hb); have n4_ := am (qb (g := gb237) BK237.out hb); have n5_ := am (qb (g := gb241) BK241.out hb); have n6_ := am (qb (g := gb245) BK245.out hb); have n7_ := am (qb (g := gb249) BK249.out hb); have n8_ := am (qb (g := gb253) BK253.out hb); have n9_ := am (qb (g := gb257) BK257.out hb); have n10_ := am (qb (g := gb261) BK261.out hb); have n11_ := am (q8 (by repeat (first | (with_reducible first | exact HB.out | apply q4 | apply q5 | apply q6 | refine q7 ?_ GE227.out | refine q7 ?_ GE228.out | refine q7 ?_ GE229.out | refine q7 ?_ GE233.out | refine q7 ?_ GE237.out | refine q7 ?_ GE241.out | refine q7 ?_ GE245.out | refine q7 ?_ GE249.out | refine q7 ?_ GE253.out | refine q7 ?_ GE257.out | refine q7 ?_ GE261.out) | exact HB.out)) hb); have n12_ := am (hbox); have n13_ := am ((by rw [hg]; exact (q9 (by repeat (first | (with_reducible first | exact HB.out | apply q4 | apply q5 | apply q6 | refine q7 ?_ GE227.out | refine q7 ?_ GE228.out | refine q7 ?_ GE229.out | refine q7 ?_ GE233.out | refine q7 ?_ GE237.out | refine q7 ?_ GE241.out | refine q7 ?_ GE245.out | refine q7 ?_ GE249.out | refine q7 ?_ GE253.out | refine q7 ?_ GE257.out | refine q7 ?_ GE261.out) | exact HB.out))) : w.heap.size ≤ gb265)); have n14_ := am ((by rw [hg]; exact (q9 (by repeat (first | (with_reducible first | exact HB.out | apply q4 | apply q5 | apply q6 | refine q7 ?_ GE227.out | refine q7 ?_ GE228.out | refine q7 ?_ GE229.out | refine q7 ?_ GE233.out | refine q7 ?_ GE237.out | refine q7 ?_ GE241.out | refine q7 ?_ GE245.out | refine q7 ?_ GE249.out | refine q7 ?_ GE253.out | refine q7 ?_ GE257.out | refine q7 ?_ GE261.out) | exact HB.out))) : w.heap.size ≤ gb265)); have n15_ := am ((by rw [hg]; exact Nat.ne_of_lt (blk_lt (g := gb227) BK227.out) : gb227 ≠ gb265)); have n16_ := am ((by rw [hg]; exact Nat.ne_of_gt (blk_lt (g := gb227) BK227.out) : gb265 ≠ gb227)); have n17_ := am ((by rw [hg]; exact Nat.ne_of_lt (blk_lt (g := gb228) BK228.out) : gb228 ≠ gb265)); have n18_ := am ((by rw [hg]; exact Nat.ne_of_gt (blk_lt (g := gb228) BK228.out) : gb265 ≠ gb228)); have n19_ := am ((by rw [hg]; exact Nat.ne_of_lt (blk_lt (g := gb229) BK229.out) : gb229 ≠ gb265)); have n20_ := am ((by rw [hg]; exact Nat.ne_of_gt (blk_lt (g := gb229) BK229.out) : gb265 ≠ gb229)); have n21_ := am ((by rw [hg]; exact Nat.ne_of_lt (blk_lt (g := gb233) BK233.out) : gb233 ≠ gb265)); have n22_ := am ((by rw [hg]; exact Nat.ne_of_gt (blk_lt (g := gb233) BK233.out) : gb265 ≠ gb233)); have n23_ := am ((by rw [hg]; exact Nat.ne_of_lt (blk_lt (g := gb237) BK237.out) : gb237 ≠ gb265)); have n24_ := am ((by rw [hg]; exact Nat.ne_of_gt (blk_lt (g := gb237) BK237.out) : gb265 ≠ gb237)); have n25_ := am ((by rw [hg]; exact Nat.ne_of_lt (blk_lt (g := gb241) BK241.out) : gb241 ≠ gb265)); have n26_ := am ((by rw [hg]; exact Nat.ne_of_gt (blk_lt (g := gb241) BK241.out) : gb265 ≠ gb241)); have n27_ := am ((by rw [hg]; exact Nat.ne_of_lt (blk_lt (g := gb245) BK245.out) : gb245 ≠ gb265)); have n28_ := am ((by rw [hg]; exact Nat.ne_of_gt (blk_lt (g := gb245) BK245.out) : gb265 ≠ gb245)); have n29_ := am ((by rw [hg]; exact Nat.ne_of_lt (blk_lt (g := gb249) BK249.out) : gb249 ≠ gb265)); have n30_ := am ((by rw [hg]; exact Nat.ne_of_gt (blk_lt (g := gb249) BK249.out) : gb265 ≠ gb249)); have n31_ := am ((by rw [hg]; exact Nat.ne_of_lt (blk_lt (g := gb253) BK253.out) : gb253 ≠ gb265)); have n32_ := am ((by rw [hg]; exact Nat.ne_of_gt (blk_lt (g := gb253) BK253.out) : gb265 ≠ gb253)); have n33_ := am ((by rw [hg]; exact Nat.ne_of_lt (blk_lt (g := gb257) BK257.out) : gb257 ≠ gb265)); have n34_ := am ((by rw [hg]; exact Nat.ne_of_gt (blk_lt (g := gb257) BK257.out) : gb265 ≠ gb257)); have n35_ := am ((by rw [hg]; exact Nat.ne_of_lt (blk_lt (g := gb261) BK261.out) : gb261 ≠ gb265)); have n36_ := am ((by rw [hg]; exact Nat.ne_of_gt (blk_lt (g := gb261) BK261.out) : gb265 ≠ gb261)); clear BK227; clear BK228; clear BK229; clear BK233; clear BK237; clear BK241; clear BK245; clear BK249; clear BK253; clear BK257; clear BK261; clear HB; have BK227 := n0_; have BK228 := n1_; have BK229 := n2_; have BK233 := n3_; have BK237 := n4_; have BK241 := n5_; have BK245 := n6_; have BK249 := n7_; have BK253 := n8_; have BK257 := n9_; have BK261 := n10_; have HB := n11_; have BK265 := n12_; have GW265 := n13_; have GE265 := n14_; have NB227_265 := n15_; have NB265_227 := n16_; have NB228_265 := n17_; have NB265_228 := n18_; have NB229_265 := n19_; have NB265_229 := n20_; have NB233_265 := n21_; have NB265_233 := n22_; have NB237_265 := n23_; have NB265_237 := n24_; have NB241_265 := n25_; have NB265_241 := n26_; have NB245_265 := n27_; have NB265_245 := n28_; have NB249_265 := n29_; have NB265_249 := n30_; have NB253_265 := n31_; have NB265_253 := n32_; have NB257_265 := n33_; have NB265_257 := n34_; have NB261_265 := n35_; have NB265_261 := n36_; clear n0_ n1_ n2_ n3_ n4_ n5_ n6_ n7_ n8_ n9_ n10_ n11_ n12_ n13_ n14_ n15_ n16_ n17_ n18_ n19_ n20_ n21_ n22_ n23_ n24_ n25_ n26_ n27_ n28_ n29_ n30_ n31_ n32_ n33_ n34_ n35_ n36_; clear hb hbox hg; have hnb280 := NB265_227.out; have hnc280 := NB227_265.out; have hnb281 := NB265_228.out; have hnc281 := NB228_265.out; have hnb282 := NB265_229.out; have hnc282 := NB229_265.out; have hnb283 := NB265_233.out; have hnc283 := NB233_265.out; have hnb284 := NB265_237.out; have hnc284 := NB237_265.out; have hnb285 := NB265_241.out; have hnc285 := NB241_265.out; have hnb286 := NB265_245.out; have hnc286 := NB245_265.out; have hnb287 := NB265_249.out; have hnc287 := NB249_265.out; have hnb288 := NB265_253.out; have hnc288 := NB253_265.out; have hnb289 := NB265_257.out; have hnc289 := NB257_265.out; have hnb290 := NB265_261.out; have hnc290 := NB261_265.out; have hcz291_0 : w279.cell? ⟨gb265, 0, none⟩ = some (.int .i64 0) := (blk_cell BK265.out 0).trans rfl; have hcz291_1 : w279.cell? ⟨gb265, 1, none⟩ = some (.int .i64 0) := (blk_cell BK265.out 1).trans rfl; have hfz291_0 := blk_frozen BK265.out 0; have hfz291_1 := blk_frozen BK265.out 1))
              (try simp only [Act.put, List.setIfInBounds_toArray, List.set_cons_zero, List.set_cons_succ])
              go_cut [140] (fun v140 wc => ∃ (kq : Nat) (x140_255 : Bool), v140 = .bool x140_255 ∧ Aside0 (payrolllaw1_RatioField.j2 kq t240 x140_255 t218 t219 t221 t222 t238 t239 = some true) ∧ Aside0 (kq ≤ kj156) ∧ Aside0 (wc.heap[gb227]? = some (.cells #[.int .i64 t218, .int .i64 t219] 23 (0, 0))) ∧ Aside0 (wc.heap[gb228]? = some (.cells #[.int .i64 t221, .int .i64 t222] 23 (0, 0))) ∧ Aside0 (wc.heap[gb229]? = some (.cells #[.int .i64 t224, .int .i64 t225] 23 (0, 0))) ∧ Aside0 (wc.heap[gb233]? = some (.cells #[.int .i64 t230, .int .i64 t231] 23 (0, 0))) ∧ Aside0 (wc.heap[gb237]? = some (.cells #[.int .i64 t234, .int .i64 t235] 23 (0, 0))) ∧ Aside0 (wc.heap[gb241]? = some (.cells #[.int .i64 t238, .int .i64 t239] 23 (0, 0))) ∧ Aside0 (wc.heap[gb245]? = some (.cells #[.int .i64 t242, .int .i64 t243] 23 (0, 0))) ∧ Aside0 (wc.heap[gb249]? = some (.cells #[.int .i64 t246, .int .i64 t247] 23 (0, 0))) ∧ Aside0 (wc.heap[gb253]? = some (.cells #[.int .i64 t250, .int .i64 t251] 23 (0, 0))) ∧ Aside0 (wc.heap[gb257]? = some (.cells #[.int .i64 t254, .int .i64 t255] 23 (0, 0))) ∧ Aside0 (wc.heap[gb261]? = some (.cells #[.int .i64 t258, .int .i64 t259] 23 (0, 0))) ∧ Aside0 (wc.heap[gb265]? = some (.cells #[.int .i64 t262, .int .i64 t263] 23 (0, 0))) ∧ Aside0 (Below w.heap.size w wc))
              case first =>
                have H := HC256.out
                clear HC256
                by_cases c292 : t232 = 0
                · rw [if_pos c292] at H
                  have c292b0 : (t232 == 0) = true := beq_iff_eq.mpr c292
                  have c292b1 : (t232 != 0) = false := bne_eq_false_iff_eq.mpr c292
                  clear c292
                  (first | rw [c292b0] | (simp only [i64_w, i32_w]; rw [c292b0]) | skip)
                  by_cases c293 : t264 = 0
                  · rw [if_pos c293] at H
                    have c293b0 : (t264 == 0) = true := beq_iff_eq.mpr c293
                    have c293b1 : (t264 != 0) = false := bne_eq_false_iff_eq.mpr c293
                    clear c293
                    have H' := am H
                    clear H
                    have hnb294 := NB265_227.out
                    have hnc294 := NB227_265.out
                    have hnb295 := NB265_228.out
                    have hnc295 := NB228_265.out
                    have hnb296 := NB265_229.out
                    have hnc296 := NB229_265.out
                    have hnb297 := NB265_233.out
                    have hnc297 := NB233_265.out
                    have hnb298 := NB265_237.out
                    have hnc298 := NB237_265.out
                    have hnb299 := NB265_241.out
                    have hnc299 := NB241_265.out
                    have hnb300 := NB265_245.out
                    have hnc300 := NB245_265.out
                    have hnb301 := NB265_249.out
                    have hnc301 := NB249_265.out
                    have hnb302 := NB265_253.out
                    have hnc302 := NB253_265.out
                    have hnb303 := NB265_257.out
                    have hnc303 := NB257_265.out
                    have hnb304 := NB265_261.out
                    have hnc304 := NB261_265.out
                    have hcz305_0 : w279.cell? ⟨gb265, 0, none⟩ = some (.int .i64 0) := (blk_cell BK265.out 0).trans rfl
                    have hcz305_1 : w279.cell? ⟨gb265, 1, none⟩ = some (.int .i64 0) := (blk_cell BK265.out 1).trans rfl
                    have hfz305_0 := blk_frozen BK265.out 0
                    have hfz305_1 := blk_frozen BK265.out 1
                    have hnb306 := NB227_228.out
                    have hnc306 := NB228_227.out
                    have hnb307 := NB227_229.out
                    have hnc307 := NB229_227.out
                    have hnb308 := NB227_233.out
                    have hnc308 := NB233_227.out
                    have hnb309 := NB227_237.out
                    have hnc309 := NB237_227.out
                    have hnb310 := NB227_241.out
                    have hnc310 := NB241_227.out
                    have hnb311 := NB227_245.out
                    have hnc311 := NB245_227.out
                    have hnb312 := NB227_249.out
                    have hnc312 := NB249_227.out
                    have hnb313 := NB227_253.out
                    have hnc313 := NB253_227.out
                    have hnb314 := NB227_257.out
                    have hnc314 := NB257_227.out
                    have hnb315 := NB227_261.out
                    have hnc315 := NB261_227.out
                    have hcz316_0 : w279.cell? ⟨gb227, 0, none⟩ = some (.int .i64 t218) := (blk_cell BK227.out 0).trans rfl
                    have hcz316_1 : w279.cell? ⟨gb227, 1, none⟩ = some (.int .i64 t219) := (blk_cell BK227.out 1).trans rfl
                    have hfz316_0 := blk_frozen BK227.out 0
                    have hfz316_1 := blk_frozen BK227.out 1
                    go_wp2
                    go_meet
                    case rel => exact ⟨_, ((!(t262 == t218) || (!(t263 == t219)))), (by first | rfl | (simp; done) | (simp [*]; done)), H', ⟨by have := HJ9.out; have := HJ156.out; first | omega | exact Nat.le_refl _⟩, ⟨qf (blk_far BK227.out NB227_265.out _) NB227_265.out _⟩, ⟨qf (blk_far BK228.out NB228_265.out _) NB228_265.out _⟩, ⟨qf (blk_far BK229.out NB229_265.out _) NB229_265.out _⟩, ⟨qf (blk_far BK233.out NB233_265.out _) NB233_265.out _⟩, ⟨qf (blk_far BK237.out NB237_265.out _) NB237_265.out _⟩, ⟨qf (blk_far BK241.out NB241_265.out _) NB241_265.out _⟩, ⟨qf (blk_far BK245.out NB245_265.out _) NB245_265.out _⟩, ⟨qf (blk_far BK249.out NB249_265.out _) NB249_265.out _⟩, ⟨qf (blk_far BK253.out NB253_265.out _) NB253_265.out _⟩, ⟨qf (blk_far BK257.out NB257_265.out _) NB257_265.out _⟩, ⟨qf (blk_far BK261.out NB261_265.out _) NB261_265.out _⟩, ⟨by (with_reducible repeat (first | refine blk_drewN ?_ _ | refine blk_drew ?_ | refine blk_alloc ?_ _)); refine blk_put (cs := #[.int .i64 t262, .int .i64 0]) ?_ 1 _ rfl; (with_reducible repeat (first | refine blk_drewN ?_ _ | refine blk_drew ?_ | refine blk_alloc ?_ _)); refine blk_put (cs := #[.int .i64 0, .int .i64 0]) ?_ 0 _ rfl; (with_reducible repeat (first | refine blk_drewN ?_ _ | refine blk_drew ?_ | refine blk_alloc ?_ _)); exact BK265.out⟩, ⟨by repeat (first | (with_reducible first | exact HB.out | apply q4 | apply q5 | apply q6 | refine q7 ?_ GE227.out | refine q7 ?_ GE228.out | refine q7 ?_ GE229.out | refine q7 ?_ GE233.out | refine q7 ?_ GE237.out | refine q7 ?_ GE241.out | refine q7 ?_ GE245.out | refine q7 ?_ GE249.out | refine q7 ?_ GE253.out | refine q7 ?_ GE257.out | refine q7 ?_ GE261.out | refine q7 ?_ GE265.out) | exact HB.out)⟩⟩
                  · rw [if_neg c293] at H
                    have c293b0 : (t264 == 0) = false := beq_eq_false_iff_ne.mpr c293
                    have c293b1 : (t264 != 0) = true := bne_iff_ne.mpr c293
                    have H' := am H
                    clear H
                    go_wp2
                    go_meet
                    case rel => exact ⟨_, (true), (by first | rfl | (simp; done) | (simp [*]; done)), H', ⟨by have := HJ9.out; have := HJ156.out; first | omega | exact Nat.le_refl _⟩, ⟨qf (blk_far BK227.out NB227_265.out _) NB227_265.out _⟩, ⟨qf (blk_far BK228.out NB228_265.out _) NB228_265.out _⟩, ⟨qf (blk_far BK229.out NB229_265.out _) NB229_265.out _⟩, ⟨qf (blk_far BK233.out NB233_265.out _) NB233_265.out _⟩, ⟨qf (blk_far BK237.out NB237_265.out _) NB237_265.out _⟩, ⟨qf (blk_far BK241.out NB241_265.out _) NB241_265.out _⟩, ⟨qf (blk_far BK245.out NB245_265.out _) NB245_265.out _⟩, ⟨qf (blk_far BK249.out NB249_265.out _) NB249_265.out _⟩, ⟨qf (blk_far BK253.out NB253_265.out _) NB253_265.out _⟩, ⟨qf (blk_far BK257.out NB257_265.out _) NB257_265.out _⟩, ⟨qf (blk_far BK261.out NB261_265.out _) NB261_265.out _⟩, ⟨by (with_reducible repeat (first | refine blk_drewN ?_ _ | refine blk_drew ?_ | refine blk_alloc ?_ _)); refine blk_put (cs := #[.int .i64 t262, .int .i64 0]) ?_ 1 _ rfl; (with_reducible repeat (first | refine blk_drewN ?_ _ | refine blk_drew ?_ | refine blk_alloc ?_ _)); refine blk_put (cs := #[.int .i64 0, .int .i64 0]) ?_ 0 _ rfl; (with_reducible repeat (first | refine blk_drewN ?_ _ | refine blk_drew ?_ | refine blk_alloc ?_ _)); exact BK265.out⟩, ⟨by repeat (first | (with_reducible first | exact HB.out | apply q4 | apply q5 | apply q6 | refine q7 ?_ GE227.out | refine q7 ?_ GE228.out | refine q7 ?_ GE229.out | refine q7 ?_ GE233.out | refine q7 ?_ GE237.out | refine q7 ?_ GE241.out | refine q7 ?_ GE245.out | refine q7 ?_ GE249.out | refine q7 ?_ GE253.out | refine q7 ?_ GE257.out | refine q7 ?_ GE261.out | refine q7 ?_ GE265.out) | exact HB.out)⟩⟩
                · rw [if_neg c292] at H
                  have c292b0 : (t232 == 0) = false := beq_eq_false_iff_ne.mpr c292
                  have c292b1 : (t232 != 0) = true := bne_iff_ne.mpr c292
                  (first | rw [c292b0] | (simp only [i64_w, i32_w]; rw [c292b0]) | skip)
                  have H' := am H
                  clear H
                  go_wp2
                  go_meet
                  case rel => exact ⟨_, (false), (by first | rfl | (simp; done) | (simp [*]; done)), H', ⟨by have := HJ9.out; have := HJ156.out; first | omega | exact Nat.le_refl _⟩, ⟨qf (blk_far BK227.out NB227_265.out _) NB227_265.out _⟩, ⟨qf (blk_far BK228.out NB228_265.out _) NB228_265.out _⟩, ⟨qf (blk_far BK229.out NB229_265.out _) NB229_265.out _⟩, ⟨qf (blk_far BK233.out NB233_265.out _) NB233_265.out _⟩, ⟨qf (blk_far BK237.out NB237_265.out _) NB237_265.out _⟩, ⟨qf (blk_far BK241.out NB241_265.out _) NB241_265.out _⟩, ⟨qf (blk_far BK245.out NB245_265.out _) NB245_265.out _⟩, ⟨qf (blk_far BK249.out NB249_265.out _) NB249_265.out _⟩, ⟨qf (blk_far BK253.out NB253_265.out _) NB253_265.out _⟩, ⟨qf (blk_far BK257.out NB257_265.out _) NB257_265.out _⟩, ⟨qf (blk_far BK261.out NB261_265.out _) NB261_265.out _⟩, ⟨by (with_reducible repeat (first | refine blk_drewN ?_ _ | refine blk_drew ?_ | refine blk_alloc ?_ _)); refine blk_put (cs := #[.int .i64 t262, .int .i64 0]) ?_ 1 _ rfl; (with_reducible repeat (first | refine blk_drewN ?_ _ | refine blk_drew ?_ | refine blk_alloc ?_ _)); refine blk_put (cs := #[.int .i64 0, .int .i64 0]) ?_ 0 _ rfl; (with_reducible repeat (first | refine blk_drewN ?_ _ | refine blk_drew ?_ | refine blk_alloc ?_ _)); exact BK265.out⟩, ⟨by repeat (first | (with_reducible first | exact HB.out | apply q4 | apply q5 | apply q6 | refine q7 ?_ GE227.out | refine q7 ?_ GE228.out | refine q7 ?_ GE229.out | refine q7 ?_ GE233.out | refine q7 ?_ GE237.out | refine q7 ?_ GE241.out | refine q7 ?_ GE245.out | refine q7 ?_ GE249.out | refine q7 ?_ GE253.out | refine q7 ?_ GE257.out | refine q7 ?_ GE261.out | refine q7 ?_ GE265.out) | exact HB.out)⟩⟩
              case rest =>
                clear HC256
                try clear c1
                try clear c2
                try clear p2
                try clear c3
                try clear c4
                try clear c5
                try clear c6
                try clear c7
                try clear c8
                try clear c9
                try clear c10
                try clear c11
                try clear c12
                try clear c13
                try clear c14
                try clear c15
                try clear c16
                try clear c17
                try clear c18
                try clear c19
                try clear c20
                try clear c21
                try clear c22
                try clear c23
                try clear c24
                try clear c25
                try clear c26
                try clear c27
                try clear c28
                try clear c29
                try clear c30
                try clear c31
                try clear c32
                try clear c38
                try clear c39
                try clear c40
                try clear c41
                try clear c42
                try clear c48
                try clear c49
                try clear c50
                try clear c51
                try clear c52
                try clear c53
                try clear c59
                try clear c60
                try clear c61
                try clear c62
                try clear c63
                try clear c64
                try clear c65
                try clear c67
                try clear c67b0
                try clear c68
                try clear c69
                try clear c70
                try clear c71
                try clear c72
                try clear c73
                try clear c74
                try clear c76
                try clear c77
                try clear c78
                try clear c79
                try clear c80
                try clear c81
                try clear c83
                try clear c83b0
                try clear c83b1
                try clear c84
                try clear c84b0
                try clear c85
                try clear c86
                try clear c87
                try clear c88
                try clear c89
                try clear c90
                try clear c91
                try clear c93
                try clear c94
                try clear c95
                try clear c96
                try clear c97
                try clear c98
                try clear c100
                try clear c101
                try clear c102
                try clear c103
                try clear c104
                try clear c106
                try clear c107
                try clear c108
                try clear c109
                try clear c111
                try clear c112
                try clear c113
                try clear c114
                try clear c115
                try clear c116
                try clear c117
                try clear c119
                try clear c120
                try clear c121
                try clear c122
                try clear c123
                try clear c124
                try clear c126
                try clear c127
                try clear c128
                try clear c129
                try clear c130
                try clear c132
                try clear c133
                try clear c134
                try clear c135
                try clear c137
                try clear c138
                try clear c139
                try clear c140
                try clear c141
                try clear c142
                try clear c143
                try clear c145
                try clear c146
                try clear c147
                try clear c148
                try clear c149
                try clear c150
                try clear c152
                try clear c158
                try clear c159
                try clear c160
                try clear c161
                try clear c162
                try clear c163
                try clear c165
                try clear c166
                try clear c167
                try clear c168
                try clear c169
                try clear c173
                try clear c174
                try clear c175
                try clear c176
                try clear c177
                try clear c178
                try clear c179
                try clear c181
                try clear c182
                try clear c183
                try clear c184
                try clear c188
                try clear c189
                try clear c190
                try clear c191
                try clear c192
                try clear c193
                try clear c194
                try clear c195
                try clear c201
                try clear c202
                try clear c203
                try clear c204
                try clear c205
                try clear c206
                try clear c207
                try clear c208
                try clear c209
                try clear c211
                try clear c212
                try clear c213
                try clear c217
                try clear c218
                try clear c219
                try clear c220
                try clear c221
                try clear c222
                try clear c223
                try clear c224
                try clear c225
                try clear c226
                try clear c228
                try clear c228b0
                try clear c228b1
                try clear c229
                try clear c229b0
                try clear c229b1
                try clear c230
                try clear c230b0
                try clear c230b1
                try clear c231
                try clear c231b0
                try clear c231b1
                try clear c232
                try clear c232b0
                try clear c232b1
                try clear c233
                try clear c234
                try clear c235
                try clear c236
                try clear c237
                try clear c238
                try clear c239
                try clear c240
                try clear c241
                try clear c242
                try clear c244
                try clear c245
                try clear c246
                try clear c247
                try clear c248
                try clear c249
                try clear c250
                try clear c251
                try clear c252
                try clear c254
                try clear c257
                try clear c258
                try clear c259
                try clear c260
                try clear c261
                try clear c262
                try clear c263
                try clear c264
                try clear c265
                try clear c266
                try clear c268
                try clear c269
                try clear c270
                try clear c271
                try clear c272
                try clear c273
                try clear c274
                try clear c275
                try clear c276
                try clear c280
                try clear c281
                try clear c282
                try clear c283
                try clear c284
                try clear c285
                try clear c286
                try clear c287
                try clear c288
                try clear c289
                try clear c290
                try clear c292
                try clear c292b0
                try clear c292b1
                try clear c293
                try clear c293b0
                try clear c293b1
                try clear c294
                try clear c295
                try clear c296
                try clear c297
                try clear c298
                try clear c299
                try clear c300
                try clear c301
                try clear c302
                try clear c303
                try clear c304
                try clear c306
                try clear c307
                try clear c308
                try clear c309
                try clear c310
                try clear c311
                try clear c312
                try clear c313
                try clear c314
                try clear c315
                try clear hcz105_0
                try clear hcz105_1
                try clear hcz110_0
                try clear hcz110_1
                try clear hcz118_0
                try clear hcz118_1
                try clear hcz125_0
                try clear hcz125_1
                try clear hcz131_0
                try clear hcz131_1
                try clear hcz136_0
                try clear hcz136_1
                try clear hcz144_0
                try clear hcz144_1
                try clear hcz151_0
                try clear hcz151_1
                try clear hcz164_0
                try clear hcz164_1
                try clear hcz170_0
                try clear hcz170_1
                try clear hcz180_0
                try clear hcz180_1
                try clear hcz185_0
                try clear hcz185_1
                try clear hcz196_0
                try clear hcz196_1
                try clear hcz197_0
                try clear hcz197_1
                try clear hcz198_0
                try clear hcz198_1
                try clear hcz210_0
                try clear hcz210_1
                try clear hcz214_0
                try clear hcz214_1
                try clear hcz21_0
                try clear hcz21_1
                try clear hcz227_0
                try clear hcz227_1
                try clear hcz243_0
                try clear hcz243_1
                try clear hcz24_0
                try clear hcz24_1
                try clear hcz253_0
                try clear hcz253_1
                try clear hcz267_0
                try clear hcz267_1
                try clear hcz26_0
                try clear hcz26_1
                try clear hcz277_0
                try clear hcz277_1
                try clear hcz291_0
                try clear hcz291_1
                try clear hcz305_0
                try clear hcz305_1
                try clear hcz316_0
                try clear hcz316_1
                try clear hcz33_0
                try clear hcz33_1
                try clear hcz34_0
                try clear hcz34_1
                try clear hcz35_0
                try clear hcz35_1
                try clear hcz43_0
                try clear hcz43_1
                try clear hcz44_0
                try clear hcz44_1
                try clear hcz45_0
                try clear hcz45_1
                try clear hcz54_0
                try clear hcz54_1
                try clear hcz55_0
                try clear hcz55_1
                try clear hcz56_0
                try clear hcz56_1
                try clear hcz66_0
                try clear hcz66_1
                try clear hcz75_0
                try clear hcz75_1
                try clear hcz82_0
                try clear hcz82_1
                try clear hcz92_0
                try clear hcz92_1
                try clear hcz99_0
                try clear hcz99_1
                try clear hfz105_0
                try clear hfz105_1
                try clear hfz110_0
                try clear hfz110_1
                try clear hfz118_0
                try clear hfz118_1
                try clear hfz125_0
                try clear hfz125_1
                try clear hfz131_0
                try clear hfz131_1
                try clear hfz136_0
                try clear hfz136_1
                try clear hfz144_0
                try clear hfz144_1
                try clear hfz151_0
                try clear hfz151_1
                try clear hfz164_0
                try clear hfz164_1
                try clear hfz170_0
                try clear hfz170_1
                try clear hfz180_0
                try clear hfz180_1
                try clear hfz185_0
                try clear hfz185_1
                try clear hfz196_0
                try clear hfz196_1
                try clear hfz197_0
                try clear hfz197_1
                try clear hfz198_0
                try clear hfz198_1
                try clear hfz210_0
                try clear hfz210_1
                try clear hfz214_0
                try clear hfz214_1
                try clear hfz21_0
                try clear hfz21_1
                try clear hfz227_0
                try clear hfz227_1
                try clear hfz243_0
                try clear hfz243_1
                try clear hfz24_0
                try clear hfz24_1
                try clear hfz253_0
                try clear hfz253_1
                try clear hfz267_0
                try clear hfz267_1
                try clear hfz26_0
                try clear hfz26_1
                try clear hfz277_0
                try clear hfz277_1
                try clear hfz291_0
                try clear hfz291_1
                try clear hfz305_0
                try clear hfz305_1
                try clear hfz316_0
                try clear hfz316_1
                try clear hfz33_0
                try clear hfz33_1
                try clear hfz34_0
                try clear hfz34_1
                try clear hfz35_0
                try clear hfz35_1
                try clear hfz43_0
                try clear hfz43_1
                try clear hfz44_0
                try clear hfz44_1
                try clear hfz45_0
                try clear hfz45_1
                try clear hfz54_0
                try clear hfz54_1
                try clear hfz55_0
                try clear hfz55_1
                try clear hfz56_0
                try clear hfz56_1
                try clear hfz66_0
                try clear hfz66_1
                try clear hfz75_0
                try clear hfz75_1
                try clear hfz82_0
                try clear hfz82_1
                try clear hfz92_0
                try clear hfz92_1
                try clear hfz99_0
                try clear hfz99_1
                try clear p2
                obtain ⟨kq, x140_255, rfl, HA, HJ255, BK227, BK228, BK229, BK233, BK237, BK241, BK245, BK249, BK253, BK257, BK261, BK265, HB⟩ := hcut
                cases kq with
                | zero => exact absurd HA.out (by simp [payrolllaw1_RatioField.j2])
                | succ kj255 =>
                  have H := HA.out
                  clear HA
                  simp only [payrolllaw1_RatioField.j2] at H
                  by_cases c317 : x140_255 = true
                  · subst c317
                    have H1 : (some false) = some true := by rw [if_pos rfl] at H; exact H
                    clear H
                    have H := H1
                    clear H1
                    exact absurd H (by simp)
                  · replace c317 := Bool.eq_false_iff.mpr c317
                    subst c317
                    have H1 : (if t221 = 0 then ((ratio_Div.f kj255 t218 t219 t221 t222).bind fun bt266 => (if bt266.2.2 = 5 then ((payrolllaw1_sane.f kj255).bind fun t270 => (some t270)) else (some false))) else ((ratio_Div.f kj255 t238 t239 t221 t222).bind fun bt271 => (if t240 = 0 then (if bt271.2.2 = 0 then (if (bt271.1 == t218 && (bt271.2.1 == t219)) = true then ((payrolllaw1_sane.f kj255).bind fun t274 => (some t274)) else (some false)) else (some false)) else ((payrolllaw1_sane.f kj255).bind fun t275 => (some t275))))) = some true := by rw [if_neg (show ¬ (false = true) by decide)] at H; exact H
                    clear H
                    have H := H1
                    clear H1
                    by_cases c318 : t221 = 0
                    · rw [if_pos c318] at H
                      have c318b0 : (t221 == 0) = true := beq_iff_eq.mpr c318
                      have c318b1 : (t221 != 0) = false := bne_eq_false_iff_eq.mpr c318
                      clear c318
                      replace H := Option.bind_eq_some_iff.mp H
                      obtain ⟨⟨t266, t267, t268⟩, A3190, H⟩ := H
                      replace H : (if t268 = 5 then ((payrolllaw1_sane.f kj255).bind fun t270 => (some t270)) else (some false)) = some true := H
                      have A319 := am A3190
                      clear A3190
                      by_cases c320 : t268 = 5
                      · rw [if_pos c320] at H
                        have c320b0 : (t268 == 5) = true := beq_iff_eq.mpr c320
                        have c320b1 : (t268 != 5) = false := bne_eq_false_iff_eq.mpr c320
                        clear c320
                        replace H := Option.bind_eq_some_iff.mp H
                        obtain ⟨t270, A3210, H⟩ := H
                        replace H : (some t270) = some true := H
                        have A321 := am A3210
                        clear A3210
                        obtain rfl := Option.some.inj H
                        have hnb322 := NB228_227.out
                        have hnc322 := NB227_228.out
                        have hnb323 := NB228_229.out
                        have hnc323 := NB229_228.out
                        have hnb324 := NB228_233.out
                        have hnc324 := NB233_228.out
                        have hnb325 := NB228_237.out
                        have hnc325 := NB237_228.out
                        have hnb326 := NB228_241.out
                        have hnc326 := NB241_228.out
                        have hnb327 := NB228_245.out
                        have hnc327 := NB245_228.out
                        have hnb328 := NB228_249.out
                        have hnc328 := NB249_228.out
                        have hnb329 := NB228_253.out
                        have hnc329 := NB253_228.out
                        have hnb330 := NB228_257.out
                        have hnc330 := NB257_228.out
                        have hnb331 := NB228_261.out
                        have hnc331 := NB261_228.out
                        have hnb332 := NB228_265.out
                        have hnc332 := NB265_228.out
                        have hcz333_0 : wc.cell? ⟨gb228, 0, none⟩ = some (.int .i64 t221) := (blk_cell BK228.out 0).trans rfl
                        have hcz333_1 : wc.cell? ⟨gb228, 1, none⟩ = some (.int .i64 t222) := (blk_cell BK228.out 1).trans rfl
                        have hfz333_0 := blk_frozen BK228.out 0
                        have hfz333_1 := blk_frozen BK228.out 1
                        have hnb334 := NB227_229.out
                        have hnc334 := NB229_227.out
                        have hnb335 := NB227_233.out
                        have hnc335 := NB233_227.out
                        have hnb336 := NB227_237.out
                        have hnc336 := NB237_227.out
                        have hnb337 := NB227_241.out
                        have hnc337 := NB241_227.out
                        have hnb338 := NB227_245.out
                        have hnc338 := NB245_227.out
                        have hnb339 := NB227_249.out
                        have hnc339 := NB249_227.out
                        have hnb340 := NB227_253.out
                        have hnc340 := NB253_227.out
                        have hnb341 := NB227_257.out
                        have hnc341 := NB257_227.out
                        have hnb342 := NB227_261.out
                        have hnc342 := NB261_227.out
                        have hnb343 := NB227_265.out
                        have hnc343 := NB265_227.out
                        have hcz344_0 : wc.cell? ⟨gb227, 0, none⟩ = some (.int .i64 t218) := (blk_cell BK227.out 0).trans rfl
                        have hcz344_1 : wc.cell? ⟨gb227, 1, none⟩ = some (.int .i64 t219) := (blk_cell BK227.out 1).trans rfl
                        have hfz344_0 := blk_frozen BK227.out 0
                        have hfz344_1 := blk_frozen BK227.out 1
                        go_wp2_with (first | ((with_reducible refine gate_callee (f := 28) rfl ?_); refine goesL_ (some 147) rfl rfl Tryd.func28 (by kernel_rfl) rfl #[.agg #[.int .i64 t218, .int .i64 t219], .agg #[.int .i64 t221, .int .i64 t222]] rfl (by (try simp only [List.map_toArray, List.map_cons, List.map_nil]); first | done | rfl | (simp only [List.length_drop, List.length_take]; rfl)) ?_; (with_reducible refine (ratio_Div.calls kj255 t218 t219 t221 t222 t266 t267 t268 _ A319.out).mono ?_); rintro e w345 ⟨rfl, hb⟩; refine ⟨_, rfl, ?_⟩; have n0_ := am (qb (g := gb227) BK227.out hb); have n1_ := am (qb (g := gb228) BK228.out hb); have n2_ := am (qb (g := gb229) BK229.out hb); have n3_ := am (qb (g := gb233) BK233.out hb); have n4_ := am (qb (g := gb237) BK237.out hb); have n5_ := am (qb (g := gb241) BK241.out hb); have n6_ := am (qb (g := gb245) BK245.out hb); have n7_ := am (qb (g := gb249) BK249.out hb); have n8_ := am (qb (g := gb253) BK253.out hb); have n9_ := am (qb (g := gb257) BK257.out hb); have n10_ := am (qb (g := gb261) BK261.out hb); have n11_ := am (qb (g := gb265) BK265.out hb); have n12_ := am (q8 (by repeat (first | (with_reducible first | exact HB.out | apply q4 | apply q5 | apply q6 | refine q7 ?_ GE227.out | refine q7 ?_ GE228.out | refine q7 ?_ GE229.out | refine q7 ?_ GE233.out | refine q7 ?_ GE237.out | refine q7 ?_ GE241.out | refine q7 ?_ GE245.out | refine q7 ?_ GE249.out | refine q7 ?_ GE253.out | refine q7 ?_ GE257.out | refine q7 ?_ GE261.out | refine q7 ?_ GE265.out) | exact HB.out)) hb); clear BK227; clear BK228; clear BK229; clear BK233; clear BK237; clear BK241; clear BK245; clear BK249; clear BK253; clear BK257; clear BK261; clear BK265; clear HB; have BK227 := n0_; have BK228 := n1_; have BK229 := n2_; have BK233 := n3_; have BK237 := n4_; have BK241 := n5_; have BK245 := n6_; have BK249 := n7_; have BK253 := n8_; have BK257 := n9_; have BK261 := n10_; have BK265 := n11_; have HB := n12_; clear n0_ n1_ n2_ n3_ n4_ n5_ n6_ n7_ n8_ n9_ n10_ n11_ n12_; (try clear hb); (try clear hb2); (try clear hk); (try clear hi)) | ((with_reducible refine gate_dst (N := 25) rfl ?_); refine box_event ?hg (N := 25) ?hd (cs := #[.int .i64 0, .int .i64 0]) (t := 23) ?hr ?_; (case hd => rfl); (case hg => rfl); (case hr => first | (go_simp; done) | (go_simp; rfl)); intro gb269 hg w346 hbox hb; have n0_ := am (qb (g := gb227) BK227.out hb); have n1_ := am (qb (g := gb228) BK228.out hb); have n2_ := am (qb (g := gb229) BK229.out hb); have n3_ := am (qb (g := gb233) BK233.out hb); have n4_ := am (qb (g := gb237) BK237.out hb); have n5_ := am (qb (g := gb241) BK241.out hb); have n6_ := am (qb (g := gb245) BK245.out hb); have n7_ := am (qb (g := gb249) BK249.out hb); have n8_ := am (qb (g := gb253) BK253.out hb); have n9_ := am (qb (g := gb257) BK257.out hb); have n10_ := am (qb (g := gb261) BK261.out hb); have n11_ := am (qb (g := gb265) BK265.out hb); have n12_ := am (q8 (by repeat (first | (with_reducible first | exact HB.out | apply q4 | apply q5 | apply q6 | refine q7 ?_ GE227.out | refine q7 ?_ GE228.out | refine q7 ?_ GE229.out | refine q7 ?_ GE233.out | refine q7 ?_ GE237.out | refine q7 ?_ GE241.out | refine q7 ?_ GE245.out | refine q7 ?_ GE249.out | refine q7 ?_ GE253.out | refine q7 ?_ GE257.out | refine q7 ?_ GE261.out | refine q7 ?_ GE265.out) | exact HB.out)) hb); have n13_ := am (hbox); have n14_ := am ((by rw [hg]; exact (q9 (by repeat (first | (with_reducible first | exact HB.out | apply q4 | apply q5 | apply q6 | refine q7 ?_ GE227.out | refine q7 ?_ GE228.out | refine q7 ?_ GE229.out | refine q7 ?_ GE233.out | refine q7 ?_ GE237.out | refine q7 ?_ GE241.out | refine q7 ?_ GE245.out | refine q7 ?_ GE249.out | refine q7 ?_ GE253.out | refine q7 ?_ GE257.out | refine q7 ?_ GE261.out | refine q7 ?_ GE265.out) | exact HB.out))) : w.heap.size ≤ gb269)); have n15_ := am ((by rw [hg]; exact (q9 (by repeat (first | (with_reducible first | exact HB.out | apply q4 | apply q5 | apply q6 | refine q7 ?_ GE227.out | refine q7 ?_ GE228.out | refine q7 ?_ GE229.out | refine q7 ?_ GE233.out | refine q7 ?_ GE237.out | refine q7 ?_ GE241.out | refine q7 ?_ GE245.out | refine q7 ?_ GE249.out | refine q7 ?_ GE253.out | refine q7 ?_ GE257.out | refine q7 ?_ GE261.out | refine q7 ?_ GE265.out) | exact HB.out))) : w.heap.size ≤ gb269)); have n16_ := am ((by rw [hg]; exact Nat.ne_of_lt (blk_lt (g := gb227) BK227.out) : gb227 ≠ gb269)); have n17_ := am ((by rw [hg]; exact Nat.ne_of_gt (blk_lt (g := gb227) BK227.out) : gb269 ≠ gb227)); have n18_ := am ((by rw [hg]; exact Nat.ne_of_lt (blk_lt (g := gb228) BK228.out) : gb228 ≠ gb269)); have n19_ := am ((by rw [hg]; exact Nat.ne_of_gt (blk_lt (g := gb228) BK228.out) : gb269 ≠ gb228)); have n20_ := am ((by rw [hg]; exact Nat.ne_of_lt (blk_lt (g := gb229) BK229.out) : gb229 ≠ gb269)); have n21_ := am ((by rw [hg]; exact Nat.ne_of_gt (blk_lt (g := gb229) BK229.out) : gb269 ≠ gb229)); have n22_ := am ((by rw [hg]; exact Nat.ne_of_lt (blk_lt (g := gb233) BK233.out) : gb233 ≠ gb269)); have n23_ := am ((by rw [hg]; exact Nat.ne_of_gt (blk_lt (g := gb233) BK233.out) : gb269 ≠ gb233)); have n24_ := am ((by rw [hg]; exact Nat.ne_of_lt (blk_lt (g := gb237) BK237.out) : gb237 ≠ gb269)); have n25_ := am ((by rw [hg]; exact Nat.ne_of_gt (blk_lt (g := gb237) BK237.out) : gb269 ≠ gb237)); have n26_ := am ((by rw [hg]; exact Nat.ne_of_lt (blk_lt (g := gb241) BK241.out) : gb241 ≠ gb269)); have n27_ := am ((by rw [hg]; exact Nat.ne_of_gt (blk_lt (g := gb241) BK241.out) : gb269 ≠ gb241)); have n28_ := am ((by rw [hg]; exact Nat.ne_of_lt (blk_lt (g := gb245) BK245.out) : gb245 ≠ gb269)); have n29_ := am ((by rw [hg]; exact Nat.ne_of_gt (blk_lt (g := gb245) BK245.out) : gb269 ≠ gb245)); have n30_ := am ((by rw [hg]; exact Nat.ne_of_lt (blk_lt (g := gb249) BK249.out) : gb249 ≠ gb269)); have n31_ := am ((by rw [hg]; exact Nat.ne_of_gt (blk_lt (g := gb249) BK249.out) : gb269 ≠ gb249)); have n32_ := am ((by rw [hg]; exact Nat.ne_of_lt (blk_lt (g := gb253) BK253.out) : gb253 ≠ gb269)); have n33_ := am ((by rw [hg]; exact Nat.ne_of_gt (blk_lt (g := gb253) BK253.out) : gb269 ≠ gb253)); have n34_ := am ((by rw [hg]; exact Nat.ne_of_lt (blk_lt (g := gb257) BK257.out) : gb257 ≠ gb269)); have n35_ := am ((by rw [hg]; exact Nat.ne_of_gt (blk_lt (g := gb257) BK257.out) : gb269 ≠ gb257)); have n36_ := am ((by rw [hg]; exact Nat.ne_of_lt (blk_lt (g := gb261) BK261.out) : gb261 ≠ gb269)); have n37_ := am ((by rw [hg]; exact Nat.ne_of_gt (blk_lt (g := gb261) BK261.out) : gb269 ≠ gb261)); have n38_ := am ((by rw [hg]; exact Nat.ne_of_lt (blk_lt (g := gb265) BK265.out) : gb265 ≠ gb269)); have n39_ := am ((by rw [hg]; exact Nat.ne_of_gt (blk_lt (g := gb265) BK265.out) : gb269 ≠ gb265)); clear BK227; clear BK228; clear BK229; clear BK233; clear BK237; clear BK241; clear BK245; clear BK249; clear BK253; clear BK257; clear BK261; clear BK265; clear HB; have BK227 := n0_; have BK228 := n1_; have BK229 := n2_; have BK233 := n3_; have BK237 := n4_; have BK241 := n5_; have BK245 := n6_; have BK249 := n7_; have BK253 := n8_; have BK257 := n9_; have BK261 := n10_; have BK265 := n11_; have HB := n12_; have BK269 := n13_; have GW269 := n14_; have GE269 := n15_; have NB227_269 := n16_; have NB269_227 := n17_; have NB228_269 := n18_; have NB269_228 := n19_; have NB229_269 := n20_; have NB269_229 := n21_; have NB233_269 := n22_; have NB269_233 := n23_; have NB237_269 := n24_; have NB269_237 := n25_; have NB241_269 := n26_; have NB269_241 := n27_; have NB245_269 := n28_; have NB269_245 := n29_; have NB249_269 := n30_; have NB269_249 := n31_; have NB253_269 := n32_; have NB269_253 := n33_; have NB257_269 := n34_; have NB269_257 := n35_; have NB261_269 := n36_; have NB269_261 := n37_; have NB265_269 := n38_; have NB269_265 := n39_; clear n0_ n1_ n2_ n3_ n4_ n5_ n6_ n7_ n8_ n9_ n10_ n11_ n12_ n13_ n14_ n15_ n16_ n17_ n18_ n19_ n20_ n21_ n22_ n23_ n24_ n25_ n26_ n27_ n28_ n29_ n30_ n31_ n32_ n33_ n34_ n35_ n36_ n37_ n38_ n39_; clear hb hbox hg; have hnb347 := NB269_227.out; have hnc347 := NB227_269.out; have hnb348 := NB269_228.out; have hnc348 := NB228_269.out; have hnb349 := NB269_229.out; have hnc349 := NB229_269.out; have hnb350 := NB269_233.out; have hnc350 := NB233_269.out; have hnb351 := NB269_237.out; have hnc351 := NB237_269.out; have hnb352 := NB269_241.out; have hnc352 := NB241_269.out; have hnb353 := NB269_245.out; have hnc353 := NB245_269.out; have hnb354 := NB269_249.out; have hnc354 := NB249_269.out; have hnb355 := NB269_253.out; have hnc355 := NB253_269.out; have hnb356 := NB269_257.out; have hnc356 := NB257_269.out; have hnb357 := NB269_261.out; have hnc357 := NB261_269.out; have hnb358 := NB269_265.out; have hnc358 := NB265_269.out; have hcz359_0 : w346.cell? ⟨gb269, 0, none⟩ = some (.int .i64 0) := (blk_cell BK269.out 0).trans rfl; have hcz359_1 : w346.cell? ⟨gb269, 1, none⟩ = some (.int .i64 0) := (blk_cell BK269.out 1).trans rfl; have hfz359_0 := blk_frozen BK269.out 0; have hfz359_1 := blk_frozen BK269.out 1) | (go_at_call 12; (with_reducible refine (payrolllaw1_sane.calls kj255   _ ?side1 A321.out).mono ?_); (case side1 => exact Tabs.below HT.out (by repeat (first | (with_reducible first | exact HB.out | apply q4 | apply q5 | apply q6 | refine q7 ?_ GE227.out | refine q7 ?_ GE228.out | refine q7 ?_ GE229.out | refine q7 ?_ GE233.out | refine q7 ?_ GE237.out | refine q7 ?_ GE241.out | refine q7 ?_ GE245.out | refine q7 ?_ GE249.out | refine q7 ?_ GE253.out | refine q7 ?_ GE257.out | refine q7 ?_ GE261.out | refine q7 ?_ GE265.out | refine q7 ?_ GE269.out) | exact HB.out))); rintro e w360 ⟨rfl, hb⟩; have n0_ := am (qb (g := gb227) (qf (blk_far BK227.out NB227_269.out _) NB227_269.out _) hb); have n1_ := am (qb (g := gb228) (qf (blk_far BK228.out NB228_269.out _) NB228_269.out _) hb); have n2_ := am (qb (g := gb229) (qf (blk_far BK229.out NB229_269.out _) NB229_269.out _) hb); have n3_ := am (qb (g := gb233) (qf (blk_far BK233.out NB233_269.out _) NB233_269.out _) hb); have n4_ := am (qb (g := gb237) (qf (blk_far BK237.out NB237_269.out _) NB237_269.out _) hb); have n5_ := am (qb (g := gb241) (qf (blk_far BK241.out NB241_269.out _) NB241_269.out _) hb); have n6_ := am (qb (g := gb245) (qf (blk_far BK245.out NB245_269.out _) NB245_269.out _) hb); have n7_ := am (qb (g := gb249) (qf (blk_far BK249.out NB249_269.out _) NB249_269.out _) hb); have n8_ := am (qb (g := gb253) (qf (blk_far BK253.out NB253_269.out _) NB253_269.out _) hb); have n9_ := am (qb (g := gb257) (qf (blk_far BK257.out NB257_269.out _) NB257_269.out _) hb); have n10_ := am (qb (g := gb261) (qf (blk_far BK261.out NB261_269.out _) NB261_269.out _) hb); have n11_ := am (qb (g := gb265) (qf (blk_far BK265.out NB265_269.out _) NB265_269.out _) hb); have n12_ := am (qb (g := gb269) (o := .cells #[.int .i64 t266, .int .i64 t267] 23 (0, 0)) (by (with_reducible repeat (first | refine blk_drewN ?_ _ | refine blk_drew ?_ | refine blk_alloc ?_ _)); refine blk_put (cs := #[.int .i64 t266, .int .i64 0]) ?_ 1 _ rfl; (with_reducible repeat (first | refine blk_drewN ?_ _ | refine blk_drew ?_ | refine blk_alloc ?_ _)); refine blk_put (cs := #[.int .i64 0, .int .i64 0]) ?_ 0 _ rfl; (with_reducible repeat (first | refine blk_drewN ?_ _ | refine blk_drew ?_ | refine blk_alloc ?_ _)); exact BK269.out) hb); have n13_ := am (q8 (by repeat (first | (with_reducible first | exact HB.out | apply q4 | apply q5 | apply q6 | refine q7 ?_ GE227.out | refine q7 ?_ GE228.out | refine q7 ?_ GE229.out | refine q7 ?_ GE233.out | refine q7 ?_ GE237.out | refine q7 ?_ GE241.out | refine q7 ?_ GE245.out | refine q7 ?_ GE249.out | refine q7 ?_ GE253.out | refine q7 ?_ GE257.out | refine q7 ?_ GE261.out | refine q7 ?_ GE265.out | refine q7 ?_ GE269.out) | exact HB.out)) hb); clear BK227; clear BK228; clear BK229; clear BK233; clear BK237; clear BK241; clear BK245; clear BK249; clear BK253; clear BK257; clear BK261; clear BK265; clear BK269; clear HB; have BK227 := n0_; have BK228 := n1_; have BK229 := n2_; have BK233 := n3_; have BK237 := n4_; have BK241 := n5_; have BK245 := n6_; have BK249 := n7_; have BK253 := n8_; have BK257 := n9_; have BK261 := n10_; have BK265 := n11_; have BK269 := n12_; have HB := n13_; clear n0_ n1_ n2_ n3_ n4_ n5_ n6_ n7_ n8_ n9_ n10_ n11_ n12_ n13_; (try clear hb); (try clear hb2); (try clear hk); (try clear hi)))
                        go_ret
                        exact ⟨by first | rfl | (rw [HY.out] <;> rfl) | (simp [errW_none, errW_some] <;> rfl) | (simp [*, errW_none, errW_some] <;> rfl), by repeat (first | (with_reducible first | exact HB.out | apply q4 | apply q5 | apply q6 | refine q7 ?_ GE227.out | refine q7 ?_ GE228.out | refine q7 ?_ GE229.out | refine q7 ?_ GE233.out | refine q7 ?_ GE237.out | refine q7 ?_ GE241.out | refine q7 ?_ GE245.out | refine q7 ?_ GE249.out | refine q7 ?_ GE253.out | refine q7 ?_ GE257.out | refine q7 ?_ GE261.out | refine q7 ?_ GE265.out | refine q7 ?_ GE269.out) | exact HB.out)⟩
                      · rw [if_neg c320] at H
                        have c320b0 : (t268 == 5) = false := beq_eq_false_iff_ne.mpr c320
                        have c320b1 : (t268 != 5) = true := bne_iff_ne.mpr c320
                        exact absurd H (by simp)
                    · rw [if_neg c318] at H
                      have c318b0 : (t221 == 0) = false := beq_eq_false_iff_ne.mpr c318
                      have c318b1 : (t221 != 0) = true := bne_iff_ne.mpr c318
                      replace H := Option.bind_eq_some_iff.mp H
                      obtain ⟨⟨t271, t272, t273⟩, A3610, H⟩ := H
                      replace H : (if t240 = 0 then (if t273 = 0 then (if (t271 == t218 && (t272 == t219)) = true then ((payrolllaw1_sane.f kj255).bind fun t274 => (some t274)) else (some false)) else (some false)) else ((payrolllaw1_sane.f kj255).bind fun t275 => (some t275))) = some true := H
                      have A361 := am A3610
                      clear A3610
                      by_cases c362 : t240 = 0
                      · rw [if_pos c362] at H
                        have c362b0 : (t240 == 0) = true := beq_iff_eq.mpr c362
                        have c362b1 : (t240 != 0) = false := bne_eq_false_iff_eq.mpr c362
                        clear c362
                        by_cases c363 : t273 = 0
                        · rw [if_pos c363] at H
                          have c363b0 : (t273 == 0) = true := beq_iff_eq.mpr c363
                          have c363b1 : (t273 != 0) = false := bne_eq_false_iff_eq.mpr c363
                          clear c363
                          by_cases c364 : (t271 == t218 && (t272 == t219)) = true
                          · rw [if_pos c364] at H
                            have c364b0 : (t271 == t218 && (t272 == t219)) = true := c364
                            (try (have c364b1 : decide (t271 = t218 && (t272 == t219)) = true := by simpa using c364))
                            (try (have c364b2 : (t271 == t218 && (t272 == t219)) = true := by simpa using c364))
                            clear c364
                            replace H := Option.bind_eq_some_iff.mp H
                            obtain ⟨t274, A3650, H⟩ := H
                            replace H : (some t274) = some true := H
                            have A365 := am A3650
                            clear A3650
                            obtain rfl := Option.some.inj H
                            have hnb366 := NB228_227.out
                            have hnc366 := NB227_228.out
                            have hnb367 := NB228_229.out
                            have hnc367 := NB229_228.out
                            have hnb368 := NB228_233.out
                            have hnc368 := NB233_228.out
                            have hnb369 := NB228_237.out
                            have hnc369 := NB237_228.out
                            have hnb370 := NB228_241.out
                            have hnc370 := NB241_228.out
                            have hnb371 := NB228_245.out
                            have hnc371 := NB245_228.out
                            have hnb372 := NB228_249.out
                            have hnc372 := NB249_228.out
                            have hnb373 := NB228_253.out
                            have hnc373 := NB253_228.out
                            have hnb374 := NB228_257.out
                            have hnc374 := NB257_228.out
                            have hnb375 := NB228_261.out
                            have hnc375 := NB261_228.out
                            have hnb376 := NB228_265.out
                            have hnc376 := NB265_228.out
                            have hcz377_0 : wc.cell? ⟨gb228, 0, none⟩ = some (.int .i64 t221) := (blk_cell BK228.out 0).trans rfl
                            have hcz377_1 : wc.cell? ⟨gb228, 1, none⟩ = some (.int .i64 t222) := (blk_cell BK228.out 1).trans rfl
                            have hfz377_0 := blk_frozen BK228.out 0
                            have hfz377_1 := blk_frozen BK228.out 1
                            have hnb378 := NB241_227.out
                            have hnc378 := NB227_241.out
                            have hnb379 := NB241_229.out
                            have hnc379 := NB229_241.out
                            have hnb380 := NB241_233.out
                            have hnc380 := NB233_241.out
                            have hnb381 := NB241_237.out
                            have hnc381 := NB237_241.out
                            have hnb382 := NB241_245.out
                            have hnc382 := NB245_241.out
                            have hnb383 := NB241_249.out
                            have hnc383 := NB249_241.out
                            have hnb384 := NB241_253.out
                            have hnc384 := NB253_241.out
                            have hnb385 := NB241_257.out
                            have hnc385 := NB257_241.out
                            have hnb386 := NB241_261.out
                            have hnc386 := NB261_241.out
                            have hnb387 := NB241_265.out
                            have hnc387 := NB265_241.out
                            have hcz388_0 : wc.cell? ⟨gb241, 0, none⟩ = some (.int .i64 t238) := (blk_cell BK241.out 0).trans rfl
                            have hcz388_1 : wc.cell? ⟨gb241, 1, none⟩ = some (.int .i64 t239) := (blk_cell BK241.out 1).trans rfl
                            have hfz388_0 := blk_frozen BK241.out 0
                            have hfz388_1 := blk_frozen BK241.out 1
                            go_wp2_with (first | ((with_reducible refine gate_callee (f := 28) rfl ?_); refine goesL_ (some 158) rfl rfl Tryd.func28 (by kernel_rfl) rfl #[.agg #[.int .i64 t238, .int .i64 t239], .agg #[.int .i64 t221, .int .i64 t222]] rfl (by (try simp only [List.map_toArray, List.map_cons, List.map_nil]); first | done | rfl | (simp only [List.length_drop, List.length_take]; rfl)) ?_; (with_reducible refine (ratio_Div.calls kj255 t238 t239 t221 t222 t271 t272 t273 _ A361.out).mono ?_); rintro e w389 ⟨rfl, hb⟩; refine ⟨_, rfl, ?_⟩; have n0_ := am (qb (g := gb227) BK227.out hb); have n1_ := am (qb (g := gb228) BK228.out hb); have n2_ := am (qb (g := gb229) BK229.out hb); have n3_ := am (qb (g := gb233) BK233.out hb); have n4_ := am (qb (g := gb237) BK237.out hb); have n5_ := am (qb (g := gb241) BK241.out hb); have n6_ := am (qb (g := gb245) BK245.out hb); have n7_ := am (qb (g := gb249) BK249.out hb); have n8_ := am (qb (g := gb253) BK253.out hb); have n9_ := am (qb (g := gb257) BK257.out hb); have n10_ := am (qb (g := gb261) BK261.out hb); have n11_ := am (qb (g := gb265) BK265.out hb); have n12_ := am (q8 (by repeat (first | (with_reducible first | exact HB.out | apply q4 | apply q5 | apply q6 | refine q7 ?_ GE227.out | refine q7 ?_ GE228.out | refine q7 ?_ GE229.out | refine q7 ?_ GE233.out | refine q7 ?_ GE237.out | refine q7 ?_ GE241.out | refine q7 ?_ GE245.out | refine q7 ?_ GE249.out | refine q7 ?_ GE253.out | refine q7 ?_ GE257.out | refine q7 ?_ GE261.out | refine q7 ?_ GE265.out) | exact HB.out)) hb); clear BK227; clear BK228; clear BK229; clear BK233; clear BK237; clear BK241; clear BK245; clear BK249; clear BK253; clear BK257; clear BK261; clear BK265; clear HB; have BK227 := n0_; have BK228 := n1_; have BK229 := n2_; have BK233 := n3_; have BK237 := n4_; have BK241 := n5_; have BK245 := n6_; have BK249 := n7_; have BK253 := n8_; have BK257 := n9_; have BK261 := n10_; have BK265 := n11_; have HB := n12_; clear n0_ n1_ n2_ n3_ n4_ n5_ n6_ n7_ n8_ n9_ n10_ n11_ n12_; (try clear hb); (try clear hb2); (try clear hk); (try clear hi); have hnb390 := NB265_227.out; have hnc390 := NB227_265.out; have hnb391 := NB265_229.out; have hnc391 := NB229_265.out; have hnb392 := NB265_233.out; have hnc392 := NB233_265.out; have hnb393 := NB265_237.out; have hnc393 := NB237_265.out; have hnb394 := NB265_245.out; have hnc394 := NB245_265.out; have hnb395 := NB265_249.out; have hnc395 := NB249_265.out; have hnb396 := NB265_253.out; have hnc396 := NB253_265.out; have hnb397 := NB265_257.out; have hnc397 := NB257_265.out; have hnb398 := NB265_261.out; have hnc398 := NB261_265.out; have hcz399_0 : w389.cell? ⟨gb265, 0, none⟩ = some (.int .i64 t262) := (blk_cell BK265.out 0).trans rfl; have hcz399_1 : w389.cell? ⟨gb265, 1, none⟩ = some (.int .i64 t263) := (blk_cell BK265.out 1).trans rfl; have hfz399_0 := blk_frozen BK265.out 0; have hfz399_1 := blk_frozen BK265.out 1; have hnb400 := NB227_229.out; have hnc400 := NB229_227.out; have hnb401 := NB227_233.out; have hnc401 := NB233_227.out; have hnb402 := NB227_237.out; have hnc402 := NB237_227.out; have hnb403 := NB227_245.out; have hnc403 := NB245_227.out; have hnb404 := NB227_249.out; have hnc404 := NB249_227.out; have hnb405 := NB227_253.out; have hnc405 := NB253_227.out; have hnb406 := NB227_257.out; have hnc406 := NB257_227.out; have hnb407 := NB227_261.out; have hnc407 := NB261_227.out; have hcz408_0 : w389.cell? ⟨gb227, 0, none⟩ = some (.int .i64 t218) := (blk_cell BK227.out 0).trans rfl; have hcz408_1 : w389.cell? ⟨gb227, 1, none⟩ = some (.int .i64 t219) := (blk_cell BK227.out 1).trans rfl; have hfz408_0 := blk_frozen BK227.out 0; have hfz408_1 := blk_frozen BK227.out 1) | (go_at_call 12; (with_reducible refine (payrolllaw1_sane.calls kj255   _ ?side1 A365.out).mono ?_); (case side1 => exact Tabs.below HT.out (by repeat (first | (with_reducible first | exact HB.out | apply q4 | apply q5 | apply q6 | refine q7 ?_ GE227.out | refine q7 ?_ GE228.out | refine q7 ?_ GE229.out | refine q7 ?_ GE233.out | refine q7 ?_ GE237.out | refine q7 ?_ GE241.out | refine q7 ?_ GE245.out | refine q7 ?_ GE249.out | refine q7 ?_ GE253.out | refine q7 ?_ GE257.out | refine q7 ?_ GE261.out | refine q7 ?_ GE265.out) | exact HB.out))); rintro e w409 ⟨rfl, hb⟩; have n0_ := am (qb (g := gb227) (qf (blk_far BK227.out NB227_265.out _) NB227_265.out _) hb); have n1_ := am (qb (g := gb228) (qf (blk_far BK228.out NB228_265.out _) NB228_265.out _) hb); have n2_ := am (qb (g := gb229) (qf (blk_far BK229.out NB229_265.out _) NB229_265.out _) hb); have n3_ := am (qb (g := gb233) (qf (blk_far BK233.out NB233_265.out _) NB233_265.out _) hb); have n4_ := am (qb (g := gb237) (qf (blk_far BK237.out NB237_265.out _) NB237_265.out _) hb); have n5_ := am (qb (g := gb241) (qf (blk_far BK241.out NB241_265.out _) NB241_265.out _) hb); have n6_ := am (qb (g := gb245) (qf (blk_far BK245.out NB245_265.out _) NB245_265.out _) hb); have n7_ := am (qb (g := gb249) (qf (blk_far BK249.out NB249_265.out _) NB249_265.out _) hb); have n8_ := am (qb (g := gb253) (qf (blk_far BK253.out NB253_265.out _) NB253_265.out _) hb); have n9_ := am (qb (g := gb257) (qf (blk_far BK257.out NB257_265.out _) NB257_265.out _) hb); have n10_ := am (qb (g := gb261) (qf (blk_far BK261.out NB261_265.out _) NB261_265.out _) hb); have n11_ := am (qb (g := gb265) (o := .cells #[.int .i64 t271, .int .i64 t272] 23 (0, 0)) (by (with_reducible repeat (first | refine blk_drewN ?_ _ | refine blk_drew ?_ | refine blk_alloc ?_ _)); refine blk_put (cs := #[.int .i64 t271, .int .i64 t263]) ?_ 1 _ rfl; (with_reducible repeat (first | refine blk_drewN ?_ _ | refine blk_drew ?_ | refine blk_alloc ?_ _)); refine blk_put (cs := #[.int .i64 t262, .int .i64 t263]) ?_ 0 _ rfl; (with_reducible repeat (first | refine blk_drewN ?_ _ | refine blk_drew ?_ | refine blk_alloc ?_ _)); exact BK265.out) hb); have n12_ := am (q8 (by repeat (first | (with_reducible first | exact HB.out | apply q4 | apply q5 | apply q6 | refine q7 ?_ GE227.out | refine q7 ?_ GE228.out | refine q7 ?_ GE229.out | refine q7 ?_ GE233.out | refine q7 ?_ GE237.out | refine q7 ?_ GE241.out | refine q7 ?_ GE245.out | refine q7 ?_ GE249.out | refine q7 ?_ GE253.out | refine q7 ?_ GE257.out | refine q7 ?_ GE261.out | refine q7 ?_ GE265.out) | exact HB.out)) hb); clear BK227; clear BK228; clear BK229; clear BK233; clear BK237; clear BK241; clear BK245; clear BK249; clear BK253; clear BK257; clear BK261; clear BK265; clear HB; have BK227 := n0_; have BK228 := n1_; have BK229 := n2_; have BK233 := n3_; have BK237 := n4_; have BK241 := n5_; have BK245 := n6_; have BK249 := n7_; have BK253 := n8_; have BK257 := n9_; have BK261 := n10_; have BK265 := n11_; have HB := n12_; clear n0_ n1_ n2_ n3_ n4_ n5_ n6_ n7_ n8_ n9_ n10_ n11_ n12_; (try clear hb); (try clear hb2); (try clear hk); (try clear hi)))
                            go_ret
                            exact ⟨by first | rfl | (rw [HY.out] <;> rfl) | (simp [errW_none, errW_some] <;> rfl) | (simp [*, errW_none, errW_some] <;> rfl), by repeat (first | (with_reducible first | exact HB.out | apply q4 | apply q5 | apply q6 | refine q7 ?_ GE227.out | refine q7 ?_ GE228.out | refine q7 ?_ GE229.out | refine q7 ?_ GE233.out | refine q7 ?_ GE237.out | refine q7 ?_ GE241.out | refine q7 ?_ GE245.out | refine q7 ?_ GE249.out | refine q7 ?_ GE253.out | refine q7 ?_ GE257.out | refine q7 ?_ GE261.out | refine q7 ?_ GE265.out) | exact HB.out)⟩
                          · rw [if_neg c364] at H
                            have c364b0 : (t271 == t218 && (t272 == t219)) = false := by simpa using c364
                            (try (have c364b1 : decide (t271 = t218 && (t272 == t219)) = false := by simpa using c364))
                            (try (have c364b2 : (t271 == t218 && (t272 == t219)) = false := by simpa using c364))
                            (try (have c364b3 : ¬ (t271 = t218 && (t272 == t219)) := by simpa using c364))
                            clear c364
                            exact absurd H (by simp)
                        · rw [if_neg c363] at H
                          have c363b0 : (t273 == 0) = false := beq_eq_false_iff_ne.mpr c363
                          have c363b1 : (t273 != 0) = true := bne_iff_ne.mpr c363
                          exact absurd H (by simp)
                      · rw [if_neg c362] at H
                        have c362b0 : (t240 == 0) = false := beq_eq_false_iff_ne.mpr c362
                        have c362b1 : (t240 != 0) = true := bne_iff_ne.mpr c362
                        replace H := Option.bind_eq_some_iff.mp H
                        obtain ⟨t275, A4100, H⟩ := H
                        replace H : (some t275) = some true := H
                        have A410 := am A4100
                        clear A4100
                        obtain rfl := Option.some.inj H
                        have hnb411 := NB228_227.out
                        have hnc411 := NB227_228.out
                        have hnb412 := NB228_229.out
                        have hnc412 := NB229_228.out
                        have hnb413 := NB228_233.out
                        have hnc413 := NB233_228.out
                        have hnb414 := NB228_237.out
                        have hnc414 := NB237_228.out
                        have hnb415 := NB228_241.out
                        have hnc415 := NB241_228.out
                        have hnb416 := NB228_245.out
                        have hnc416 := NB245_228.out
                        have hnb417 := NB228_249.out
                        have hnc417 := NB249_228.out
                        have hnb418 := NB228_253.out
                        have hnc418 := NB253_228.out
                        have hnb419 := NB228_257.out
                        have hnc419 := NB257_228.out
                        have hnb420 := NB228_261.out
                        have hnc420 := NB261_228.out
                        have hnb421 := NB228_265.out
                        have hnc421 := NB265_228.out
                        have hcz422_0 : wc.cell? ⟨gb228, 0, none⟩ = some (.int .i64 t221) := (blk_cell BK228.out 0).trans rfl
                        have hcz422_1 : wc.cell? ⟨gb228, 1, none⟩ = some (.int .i64 t222) := (blk_cell BK228.out 1).trans rfl
                        have hfz422_0 := blk_frozen BK228.out 0
                        have hfz422_1 := blk_frozen BK228.out 1
                        have hnb423 := NB241_227.out
                        have hnc423 := NB227_241.out
                        have hnb424 := NB241_229.out
                        have hnc424 := NB229_241.out
                        have hnb425 := NB241_233.out
                        have hnc425 := NB233_241.out
                        have hnb426 := NB241_237.out
                        have hnc426 := NB237_241.out
                        have hnb427 := NB241_245.out
                        have hnc427 := NB245_241.out
                        have hnb428 := NB241_249.out
                        have hnc428 := NB249_241.out
                        have hnb429 := NB241_253.out
                        have hnc429 := NB253_241.out
                        have hnb430 := NB241_257.out
                        have hnc430 := NB257_241.out
                        have hnb431 := NB241_261.out
                        have hnc431 := NB261_241.out
                        have hnb432 := NB241_265.out
                        have hnc432 := NB265_241.out
                        have hcz433_0 : wc.cell? ⟨gb241, 0, none⟩ = some (.int .i64 t238) := (blk_cell BK241.out 0).trans rfl
                        have hcz433_1 : wc.cell? ⟨gb241, 1, none⟩ = some (.int .i64 t239) := (blk_cell BK241.out 1).trans rfl
                        have hfz433_0 := blk_frozen BK241.out 0
                        have hfz433_1 := blk_frozen BK241.out 1
                        go_wp2_with (first | ((with_reducible refine gate_callee (f := 28) rfl ?_); refine goesL_ (some 158) rfl rfl Tryd.func28 (by kernel_rfl) rfl #[.agg #[.int .i64 t238, .int .i64 t239], .agg #[.int .i64 t221, .int .i64 t222]] rfl (by (try simp only [List.map_toArray, List.map_cons, List.map_nil]); first | done | rfl | (simp only [List.length_drop, List.length_take]; rfl)) ?_; (with_reducible refine (ratio_Div.calls kj255 t238 t239 t221 t222 t271 t272 t273 _ A361.out).mono ?_); rintro e w434 ⟨rfl, hb⟩; refine ⟨_, rfl, ?_⟩; have n0_ := am (qb (g := gb227) BK227.out hb); have n1_ := am (qb (g := gb228) BK228.out hb); have n2_ := am (qb (g := gb229) BK229.out hb); have n3_ := am (qb (g := gb233) BK233.out hb); have n4_ := am (qb (g := gb237) BK237.out hb); have n5_ := am (qb (g := gb241) BK241.out hb); have n6_ := am (qb (g := gb245) BK245.out hb); have n7_ := am (qb (g := gb249) BK249.out hb); have n8_ := am (qb (g := gb253) BK253.out hb); have n9_ := am (qb (g := gb257) BK257.out hb); have n10_ := am (qb (g := gb261) BK261.out hb); have n11_ := am (qb (g := gb265) BK265.out hb); have n12_ := am (q8 (by repeat (first | (with_reducible first | exact HB.out | apply q4 | apply q5 | apply q6 | refine q7 ?_ GE227.out | refine q7 ?_ GE228.out | refine q7 ?_ GE229.out | refine q7 ?_ GE233.out | refine q7 ?_ GE237.out | refine q7 ?_ GE241.out | refine q7 ?_ GE245.out | refine q7 ?_ GE249.out | refine q7 ?_ GE253.out | refine q7 ?_ GE257.out | refine q7 ?_ GE261.out | refine q7 ?_ GE265.out) | exact HB.out)) hb); clear BK227; clear BK228; clear BK229; clear BK233; clear BK237; clear BK241; clear BK245; clear BK249; clear BK253; clear BK257; clear BK261; clear BK265; clear HB; have BK227 := n0_; have BK228 := n1_; have BK229 := n2_; have BK233 := n3_; have BK237 := n4_; have BK241 := n5_; have BK245 := n6_; have BK249 := n7_; have BK253 := n8_; have BK257 := n9_; have BK261 := n10_; have BK265 := n11_; have HB := n12_; clear n0_ n1_ n2_ n3_ n4_ n5_ n6_ n7_ n8_ n9_ n10_ n11_ n12_; (try clear hb); (try clear hb2); (try clear hk); (try clear hi); have hnb435 := NB265_227.out; have hnc435 := NB227_265.out; have hnb436 := NB265_229.out; have hnc436 := NB229_265.out; have hnb437 := NB265_233.out; have hnc437 := NB233_265.out; have hnb438 := NB265_237.out; have hnc438 := NB237_265.out; have hnb439 := NB265_245.out; have hnc439 := NB245_265.out; have hnb440 := NB265_249.out; have hnc440 := NB249_265.out; have hnb441 := NB265_253.out; have hnc441 := NB253_265.out; have hnb442 := NB265_257.out; have hnc442 := NB257_265.out; have hnb443 := NB265_261.out; have hnc443 := NB261_265.out; have hcz444_0 : w434.cell? ⟨gb265, 0, none⟩ = some (.int .i64 t262) := (blk_cell BK265.out 0).trans rfl; have hcz444_1 : w434.cell? ⟨gb265, 1, none⟩ = some (.int .i64 t263) := (blk_cell BK265.out 1).trans rfl; have hfz444_0 := blk_frozen BK265.out 0; have hfz444_1 := blk_frozen BK265.out 1) | (go_at_call 12; (with_reducible refine (payrolllaw1_sane.calls kj255   _ ?side1 A410.out).mono ?_); (case side1 => exact Tabs.below HT.out (by repeat (first | (with_reducible first | exact HB.out | apply q4 | apply q5 | apply q6 | refine q7 ?_ GE227.out | refine q7 ?_ GE228.out | refine q7 ?_ GE229.out | refine q7 ?_ GE233.out | refine q7 ?_ GE237.out | refine q7 ?_ GE241.out | refine q7 ?_ GE245.out | refine q7 ?_ GE249.out | refine q7 ?_ GE253.out | refine q7 ?_ GE257.out | refine q7 ?_ GE261.out | refine q7 ?_ GE265.out) | exact HB.out))); rintro e w445 ⟨rfl, hb⟩; have n0_ := am (qb (g := gb227) (qf (blk_far BK227.out NB227_265.out _) NB227_265.out _) hb); have n1_ := am (qb (g := gb228) (qf (blk_far BK228.out NB228_265.out _) NB228_265.out _) hb); have n2_ := am (qb (g := gb229) (qf (blk_far BK229.out NB229_265.out _) NB229_265.out _) hb); have n3_ := am (qb (g := gb233) (qf (blk_far BK233.out NB233_265.out _) NB233_265.out _) hb); have n4_ := am (qb (g := gb237) (qf (blk_far BK237.out NB237_265.out _) NB237_265.out _) hb); have n5_ := am (qb (g := gb241) (qf (blk_far BK241.out NB241_265.out _) NB241_265.out _) hb); have n6_ := am (qb (g := gb245) (qf (blk_far BK245.out NB245_265.out _) NB245_265.out _) hb); have n7_ := am (qb (g := gb249) (qf (blk_far BK249.out NB249_265.out _) NB249_265.out _) hb); have n8_ := am (qb (g := gb253) (qf (blk_far BK253.out NB253_265.out _) NB253_265.out _) hb); have n9_ := am (qb (g := gb257) (qf (blk_far BK257.out NB257_265.out _) NB257_265.out _) hb); have n10_ := am (qb (g := gb261) (qf (blk_far BK261.out NB261_265.out _) NB261_265.out _) hb); have n11_ := am (qb (g := gb265) (o := .cells #[.int .i64 t271, .int .i64 t272] 23 (0, 0)) (by (with_reducible repeat (first | refine blk_drewN ?_ _ | refine blk_drew ?_ | refine blk_alloc ?_ _)); refine blk_put (cs := #[.int .i64 t271, .int .i64 t263]) ?_ 1 _ rfl; (with_reducible repeat (first | refine blk_drewN ?_ _ | refine blk_drew ?_ | refine blk_alloc ?_ _)); refine blk_put (cs := #[.int .i64 t262, .int .i64 t263]) ?_ 0 _ rfl; (with_reducible repeat (first | refine blk_drewN ?_ _ | refine blk_drew ?_ | refine blk_alloc ?_ _)); exact BK265.out) hb); have n12_ := am (q8 (by repeat (first | (with_reducible first | exact HB.out | apply q4 | apply q5 | apply q6 | refine q7 ?_ GE227.out | refine q7 ?_ GE228.out | refine q7 ?_ GE229.out | refine q7 ?_ GE233.out | refine q7 ?_ GE237.out | refine q7 ?_ GE241.out | refine q7 ?_ GE245.out | refine q7 ?_ GE249.out | refine q7 ?_ GE253.out | refine q7 ?_ GE257.out | refine q7 ?_ GE261.out | refine q7 ?_ GE265.out) | exact HB.out)) hb); clear BK227; clear BK228; clear BK229; clear BK233; clear BK237; clear BK241; clear BK245; clear BK249; clear BK253; clear BK257; clear BK261; clear BK265; clear HB; have BK227 := n0_; have BK228 := n1_; have BK229 := n2_; have BK233 := n3_; have BK237 := n4_; have BK241 := n5_; have BK245 := n6_; have BK249 := n7_; have BK253 := n8_; have BK257 := n9_; have BK261 := n10_; have BK265 := n11_; have HB := n12_; clear n0_ n1_ n2_ n3_ n4_ n5_ n6_ n7_ n8_ n9_ n10_ n11_ n12_; (try clear hb); (try clear hb2); (try clear hk); (try clear hi)))
                        go_ret
                        exact ⟨by first | rfl | (rw [HY.out] <;> rfl) | (simp [errW_none, errW_some] <;> rfl) | (simp [*, errW_none, errW_some] <;> rfl), by repeat (first | (with_reducible first | exact HB.out | apply q4 | apply q5 | apply q6 | refine q7 ?_ GE227.out | refine q7 ?_ GE228.out | refine q7 ?_ GE229.out | refine q7 ?_ GE233.out | refine q7 ?_ GE237.out | refine q7 ?_ GE241.out | refine q7 ?_ GE245.out | refine q7 ?_ GE249.out | refine q7 ?_ GE253.out | refine q7 ?_ GE257.out | refine q7 ?_ GE261.out | refine q7 ?_ GE265.out) | exact HB.out)⟩
def payrolllaw1_RatioField.Pure : Prop := ∀ (l0 : List Int), l0.length ≤ maxLen → l0.length * 8 ≤ 140737488351232 → (∀ x ∈ l0, (Lit.int .i64 x).wf = true) → ∃ k, payrolllaw1_RatioField.f k l0 = some true
end Go.Proofs.YtighihhaljofdaaDoor.P
