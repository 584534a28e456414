/- Texts for the law RatioField (kept out of a larger one). -/
import Derived.Test.YtighihhaljofdaaDoorZRatioField9
import Derived.Test.YtighihhaljofdaaDoorZRatioField14
import Derived.Test.YtighihhaljofdaaDoorZRatioField17
-- Written by a program of this session (wip/tools/xprint.py) out of the translation; Lean checks it.
namespace Go.Proofs.YtighihhaljofdaaDoor.P
open Go.RowKit Go.Proofs.YtighihhaljofdaaDoorW.PrintWords Go.Proofs.YtighihhaljofdaaDoorW.PrintLast Go.Proofs.YtighihhaljofdaaDoorW.PrintMore
attribute [local go_sem] max2_int min2_int max_two min_two max_three min_three max_four min_four   -- for this text's walks alone
set_option linter.unusedVariables false
set_option linter.unusedSimpArgs false
def ratio_Mul.f (k : Nat) (a0_0 : Int) (a0_1 : Int) (a1_0 : Int) (a1_1 : Int) : Option (Int × Int × Int) := (ratio_both.f k a0_0 a0_1 a1_0 a1_1).bind fun t297 => (if t297 = 0 then ((ratio_size.f a0_0).bind fun t298 => ((ratio_size.f a1_1).bind fun t299 => ((ratio_gcd.f k t298 t299).bind fun t300 => ((ratio_size.f a1_0).bind fun t301 => ((ratio_size.f a0_1).bind fun t302 => ((ratio_gcd.f k t301 t302).bind fun t303 => (if (wrap64 (t300)) = 0 then (none) else (if (wrap64 (t303)) = 0 then (none) else (if (wrap64 (Int.tdiv a0_0 (wrap64 (t300)))) = 0 then ((ratio_New.f k (wrap64 ((wrap64 (Int.tdiv a0_0 (wrap64 (t300)))) * (wrap64 (Int.tdiv a1_0 (wrap64 (t303)))))) (wrap64 ((wrap64 (Int.tdiv a0_1 (wrap64 (t303)))) * (wrap64 (Int.tdiv a1_1 (wrap64 (t300))))))).bind fun bt306 => (some (bt306.1, bt306.2.1, bt306.2.2))) else ((ratio_size.f (wrap64 (Int.tdiv a1_0 (wrap64 (t303))))).bind fun t304 => ((ratio_size.f (wrap64 (Int.tdiv a0_0 (wrap64 (t300))))).bind fun t305 => (if t305 = 0 then (none) else (if t304 > (IntKind.u64.wrap (Int.tdiv (1000000000000 : Int) t305)) then (some (0, 0, 4)) else ((ratio_New.f k (wrap64 ((wrap64 (Int.tdiv a0_0 (wrap64 (t300)))) * (wrap64 (Int.tdiv a1_0 (wrap64 (t303)))))) (wrap64 ((wrap64 (Int.tdiv a0_1 (wrap64 (t303)))) * (wrap64 (Int.tdiv a1_1 (wrap64 (t300))))))).bind fun bt309 => (some (bt309.1, bt309.2.1, bt309.2.2)))))))))))))))) else (some (0, 0, t297)))
def ratio_Mul.T4 : Bool × List (List Nat × List Nat) := (true, [([], []), ([0], [0]), ([1], [1]), ([], []), ([3], [3]), ([4, 2], [4]), ([2, 5, 5], [2, 5]), ([6], [6]), ([], []), ([8], [8]), ([9, 6], [9]), ([], []), ([11], [11]), ([12, 10], [12]), ([10, 13, 13], [10, 13]), ([14], [14]), ([7, 14, 0, 1, 2, 3, 4, 5, 6, 7], [7]), ([15, 16, 0, 1, 2, 3, 4, 5, 6, 7, 8, 9, 10, 11, 12, 13, 14, 15, 16], [15])])
def ratio_Mul.B4 : List Nat := [0, 1, 3, 0, 8, 31, 63, 127, 0, 256, 895, 0, 2048, 8063, 16255, 32639, 32767, 131071]
theorem ratio_Mul.tab4 : rtab .any (opsOf Tryd.f25 4) = ratio_Mul.T4 := by kernel_rfl
theorem ratio_Mul.bits4 : waitsOk ratio_Mul.T4.2 ratio_Mul.B4 = true := by kernel_rfl
def ratio_Mul.T5 : Bool × List (List Nat × List Nat) := (true, [([], []), ([0], [0]), ([], []), ([1, 2], [1, 2]), ([], []), ([4], [4]), ([], []), ([5, 6], [5, 6]), ([3, 0, 1, 2, 3], [3]), ([7, 8, 0, 1, 2, 3, 4, 5, 6, 7, 8], [7])])
def ratio_Mul.B5 : List Nat := [0, 1, 0, 7, 0, 16, 0, 112, 15, 511]
theorem ratio_Mul.tab5 : rtab .any (opsOf Tryd.f25 5) = ratio_Mul.T5 := by kernel_rfl
theorem ratio_Mul.bits5 : waitsOk ratio_Mul.T5.2 ratio_Mul.B5 = true := by kernel_rfl
def ratio_Mul.T8 : Bool × List (List Nat × List Nat) := (true, [([], []), ([], []), ([0, 1], [0, 1]), ([], []), ([3], [3]), ([], []), ([4, 5], [4, 5]), ([], []), ([7], [7]), ([], []), ([8, 9], [8, 9]), ([6, 10], [6, 10]), ([2, 11], [2, 11]), ([12], [12]), ([12], [12]), ([13, 12, 0, 1, 2, 3, 4, 5, 6, 7, 8, 9, 10, 11, 12, 13, 14], [13]), ([14, 15, 0, 1, 2, 3, 4, 5, 6, 7, 8, 9, 10, 11, 12, 13, 14, 15], [14])])
def ratio_Mul.B8 : List Nat := [0, 0, 3, 0, 8, 0, 56, 0, 128, 0, 896, 2040, 4095, 8191, 8191, 32767, 65535]
theorem ratio_Mul.tab8 : rtab .any (opsOf Tryd.f25 8) = ratio_Mul.T8 := by kernel_rfl
theorem ratio_Mul.bits8 : waitsOk ratio_Mul.T8.2 ratio_Mul.B8 = true := by kernel_rfl
set_option maxHeartbeats 8000000 in
set_option maxRecDepth 100000 in
theorem ratio_Mul.calls (k : Nat) (a0_0 : Int) (a0_1 : Int) (a1_0 : Int) (a1_1 : Int) (r1 : Int) (r2 : Int) (r3 : Int) (w : World) (h : ratio_Mul.f k a0_0 a0_1 a1_0 a1_1 = some (r1, r2, r3)) :
    Calls Tryd.prog 25 #[.agg #[.int .i64 a0_0, .int .i64 a0_1], .agg #[.int .i64 a1_0, .int .i64 a1_1]] w fun e w' => e = .returned (.tuple #[.agg #[.int .i64 r1, .int .i64 r2], .int .i64 r3]) ∧ Below w.heap.size w w' := by
  have hu23 := Tryd.underlying23
  have HB := Aside0.mk (Below.refl w.heap.size w)
  have H : ((ratio_both.f k a0_0 a0_1 a1_0 a1_1).bind fun t297 => (if t297 = 0 then ((ratio_size.f a0_0).bind fun t298 => ((ratio_size.f a1_1).bind fun t299 => ((ratio_gcd.f k t298 t299).bind fun t300 => ((ratio_size.f a1_0).bind fun t301 => ((ratio_size.f a0_1).bind fun t302 => ((ratio_gcd.f k t301 t302).bind fun t303 => (if (wrap64 (t300)) = 0 then (none) else (if (wrap64 (t303)) = 0 then (none) else (if (wrap64 (Int.tdiv a0_0 (wrap64 (t300)))) = 0 then ((ratio_New.f k (wrap64 ((wrap64 (Int.tdiv a0_0 (wrap64 (t300)))) * (wrap64 (Int.tdiv a1_0 (wrap64 (t303)))))) (wrap64 ((wrap64 (Int.tdiv a0_1 (wrap64 (t303)))) * (wrap64 (Int.tdiv a1_1 (wrap64 (t300))))))).bind fun bt306 => (some (bt306.1, bt306.2.1, bt306.2.2))) else ((ratio_size.f (wrap64 (Int.tdiv a1_0 (wrap64 (t303))))).bind fun t304 => ((ratio_size.f (wrap64 (Int.tdiv a0_0 (wrap64 (t300))))).bind fun t305 => (if t305 = 0 then (none) else (if t304 > (IntKind.u64.wrap (Int.tdiv (1000000000000 : Int) t305)) then (some (0, 0, 4)) else ((ratio_New.f k (wrap64 ((wrap64 (Int.tdiv a0_0 (wrap64 (t300)))) * (wrap64 (Int.tdiv a1_0 (wrap64 (t303)))))) (wrap64 ((wrap64 (Int.tdiv a0_1 (wrap64 (t303)))) * (wrap64 (Int.tdiv a1_1 (wrap64 (t300))))))).bind fun bt309 => (some (bt309.1, bt309.2.1, bt309.2.2)))))))))))))))) else (some (0, 0, t297)))) = some (r1, r2, r3) := h
  clear h
  replace H := Option.bind_eq_some_iff.mp H
  obtain ⟨t297, A30, H⟩ := H
  replace H : (if t297 = 0 then ((ratio_size.f a0_0).bind fun t298 => ((ratio_size.f a1_1).bind fun t299 => ((ratio_gcd.f k t298 t299).bind fun t300 => ((ratio_size.f a1_0).bind fun t301 => ((ratio_size.f a0_1).bind fun t302 => ((ratio_gcd.f k t301 t302).bind fun t303 => (if (wrap64 (t300)) = 0 then (none) else (if (wrap64 (t303)) = 0 then (none) else (if (wrap64 (Int.tdiv a0_0 (wrap64 (t300)))) = 0 then ((ratio_New.f k (wrap64 ((wrap64 (Int.tdiv a0_0 (wrap64 (t300)))) * (wrap64 (Int.tdiv a1_0 (wrap64 (t303)))))) (wrap64 ((wrap64 (Int.tdiv a0_1 (wrap64 (t303)))) * (wrap64 (Int.tdiv a1_1 (wrap64 (t300))))))).bind fun bt306 => (some (bt306.1, bt306.2.1, bt306.2.2))) else ((ratio_size.f (wrap64 (Int.tdiv a1_0 (wrap64 (t303))))).bind fun t304 => ((ratio_size.f (wrap64 (Int.tdiv a0_0 (wrap64 (t300))))).bind fun t305 => (if t305 = 0 then (none) else (if t304 > (IntKind.u64.wrap (Int.tdiv (1000000000000 : Int) t305)) then (some (0, 0, 4)) else ((ratio_New.f k (wrap64 ((wrap64 (Int.tdiv a0_0 (wrap64 (t300)))) * (wrap64 (Int.tdiv a1_0 (wrap64 (t303)))))) (wrap64 ((wrap64 (Int.tdiv a0_1 (wrap64 (t303)))) * (wrap64 (Int.tdiv a1_1 (wrap64 (t300))))))).bind fun bt309 => (some (bt309.1, bt309.2.1, bt309.2.2)))))))))))))))) else (some (0, 0, t297))) = some (r1, r2, r3) := H
  have A3 := Aside0.mk A30
  clear A30
  by_cases c4 : t297 = 0
  · rw [if_pos c4] at H
    have c4b0 : (t297 == 0) = true := beq_iff_eq.mpr c4
    have c4b1 : (t297 != 0) = false := bne_eq_false_iff_eq.mpr c4
    clear c4
    replace H := Option.bind_eq_some_iff.mp H
    obtain ⟨t298, A50, H⟩ := H
    replace H : ((ratio_size.f a1_1).bind fun t299 => ((ratio_gcd.f k t298 t299).bind fun t300 => ((ratio_size.f a1_0).bind fun t301 => ((ratio_size.f a0_1).bind fun t302 => ((ratio_gcd.f k t301 t302).bind fun t303 => (if (wrap64 (t300)) = 0 then (none) else (if (wrap64 (t303)) = 0 then (none) else (if (wrap64 (Int.tdiv a0_0 (wrap64 (t300)))) = 0 then ((ratio_New.f k (wrap64 ((wrap64 (Int.tdiv a0_0 (wrap64 (t300)))) * (wrap64 (Int.tdiv a1_0 (wrap64 (t303)))))) (wrap64 ((wrap64 (Int.tdiv a0_1 (wrap64 (t303)))) * (wrap64 (Int.tdiv a1_1 (wrap64 (t300))))))).bind fun bt306 => (some (bt306.1, bt306.2.1, bt306.2.2))) else ((ratio_size.f (wrap64 (Int.tdiv a1_0 (wrap64 (t303))))).bind fun t304 => ((ratio_size.f (wrap64 (Int.tdiv a0_0 (wrap64 (t300))))).bind fun t305 => (if t305 = 0 then (none) else (if t304 > (IntKind.u64.wrap (Int.tdiv (1000000000000 : Int) t305)) then (some (0, 0, 4)) else ((ratio_New.f k (wrap64 ((wrap64 (Int.tdiv a0_0 (wrap64 (t300)))) * (wrap64 (Int.tdiv a1_0 (wrap64 (t303)))))) (wrap64 ((wrap64 (Int.tdiv a0_1 (wrap64 (t303)))) * (wrap64 (Int.tdiv a1_1 (wrap64 (t300))))))).bind fun bt309 => (some (bt309.1, bt309.2.1, bt309.2.2))))))))))))))) = some (r1, r2, r3) := H
    have A5 := Aside0.mk A50
    clear A50
    replace H := Option.bind_eq_some_iff.mp H
    obtain ⟨t299, A60, H⟩ := H
    replace H : ((ratio_gcd.f k t298 t299).bind fun t300 => ((ratio_size.f a1_0).bind fun t301 => ((ratio_size.f a0_1).bind fun t302 => ((ratio_gcd.f k t301 t302).bind fun t303 => (if (wrap64 (t300)) = 0 then (none) else (if (wrap64 (t303)) = 0 then (none) else (if (wrap64 (Int.tdiv a0_0 (wrap64 (t300)))) = 0 then ((ratio_New.f k (wrap64 ((wrap64 (Int.tdiv a0_0 (wrap64 (t300)))) * (wrap64 (Int.tdiv a1_0 (wrap64 (t303)))))) (wrap64 ((wrap64 (Int.tdiv a0_1 (wrap64 (t303)))) * (wrap64 (Int.tdiv a1_1 (wrap64 (t300))))))).bind fun bt306 => (some (bt306.1, bt306.2.1, bt306.2.2))) else ((ratio_size.f (wrap64 (Int.tdiv a1_0 (wrap64 (t303))))).bind fun t304 => ((ratio_size.f (wrap64 (Int.tdiv a0_0 (wrap64 (t300))))).bind fun t305 => (if t305 = 0 then (none) else (if t304 > (IntKind.u64.wrap (Int.tdiv (1000000000000 : Int) t305)) then (some (0, 0, 4)) else ((ratio_New.f k (wrap64 ((wrap64 (Int.tdiv a0_0 (wrap64 (t300)))) * (wrap64 (Int.tdiv a1_0 (wrap64 (t303)))))) (wrap64 ((wrap64 (Int.tdiv a0_1 (wrap64 (t303)))) * (wrap64 (Int.tdiv a1_1 (wrap64 (t300))))))).bind fun bt309 => (some (bt309.1, bt309.2.1, bt309.2.2)))))))))))))) = some (r1, r2, r3) := H
    have A6 := Aside0.mk A60
    clear A60
    replace H := Option.bind_eq_some_iff.mp H
    obtain ⟨t300, A70, H⟩ := H
    replace H : ((ratio_size.f a1_0).bind fun t301 => ((ratio_size.f a0_1).bind fun t302 => ((ratio_gcd.f k t301 t302).bind fun t303 => (if (wrap64 (t300)) = 0 then (none) else (if (wrap64 (t303)) = 0 then (none) else (if (wrap64 (Int.tdiv a0_0 (wrap64 (t300)))) = 0 then ((ratio_New.f k (wrap64 ((wrap64 (Int.tdiv a0_0 (wrap64 (t300)))) * (wrap64 (Int.tdiv a1_0 (wrap64 (t303)))))) (wrap64 ((wrap64 (Int.tdiv a0_1 (wrap64 (t303)))) * (wrap64 (Int.tdiv a1_1 (wrap64 (t300))))))).bind fun bt306 => (some (bt306.1, bt306.2.1, bt306.2.2))) else ((ratio_size.f (wrap64 (Int.tdiv a1_0 (wrap64 (t303))))).bind fun t304 => ((ratio_size.f (wrap64 (Int.tdiv a0_0 (wrap64 (t300))))).bind fun t305 => (if t305 = 0 then (none) else (if t304 > (IntKind.u64.wrap (Int.tdiv (1000000000000 : Int) t305)) then (some (0, 0, 4)) else ((ratio_New.f k (wrap64 ((wrap64 (Int.tdiv a0_0 (wrap64 (t300)))) * (wrap64 (Int.tdiv a1_0 (wrap64 (t303)))))) (wrap64 ((wrap64 (Int.tdiv a0_1 (wrap64 (t303)))) * (wrap64 (Int.tdiv a1_1 (wrap64 (t300))))))).bind fun bt309 => (some (bt309.1, bt309.2.1, bt309.2.2))))))))))))) = some (r1, r2, r3) := H
    have A7 := Aside0.mk A70
    clear A70
    replace H := Option.bind_eq_some_iff.mp H
    obtain ⟨t301, A80, H⟩ := H
    replace H : ((ratio_size.f a0_1).bind fun t302 => ((ratio_gcd.f k t301 t302).bind fun t303 => (if (wrap64 (t300)) = 0 then (none) else (if (wrap64 (t303)) = 0 then (none) else (if (wrap64 (Int.tdiv a0_0 (wrap64 (t300)))) = 0 then ((ratio_New.f k (wrap64 ((wrap64 (Int.tdiv a0_0 (wrap64 (t300)))) * (wrap64 (Int.tdiv a1_0 (wrap64 (t303)))))) (wrap64 ((wrap64 (Int.tdiv a0_1 (wrap64 (t303)))) * (wrap64 (Int.tdiv a1_1 (wrap64 (t300))))))).bind fun bt306 => (some (bt306.1, bt306.2.1, bt306.2.2))) else ((ratio_size.f (wrap64 (Int.tdiv a1_0 (wrap64 (t303))))).bind fun t304 => ((ratio_size.f (wrap64 (Int.tdiv a0_0 (wrap64 (t300))))).bind fun t305 => (if t305 = 0 then (none) else (if t304 > (IntKind.u64.wrap (Int.tdiv (1000000000000 : Int) t305)) then (some (0, 0, 4)) else ((ratio_New.f k (wrap64 ((wrap64 (Int.tdiv a0_0 (wrap64 (t300)))) * (wrap64 (Int.tdiv a1_0 (wrap64 (t303)))))) (wrap64 ((wrap64 (Int.tdiv a0_1 (wrap64 (t303)))) * (wrap64 (Int.tdiv a1_1 (wrap64 (t300))))))).bind fun bt309 => (some (bt309.1, bt309.2.1, bt309.2.2)))))))))))) = some (r1, r2, r3) := H
    have A8 := Aside0.mk A80
    clear A80
    replace H := Option.bind_eq_some_iff.mp H
    obtain ⟨t302, A90, H⟩ := H
    replace H : ((ratio_gcd.f k t301 t302).bind fun t303 => (if (wrap64 (t300)) = 0 then (none) else (if (wrap64 (t303)) = 0 then (none) else (if (wrap64 (Int.tdiv a0_0 (wrap64 (t300)))) = 0 then ((ratio_New.f k (wrap64 ((wrap64 (Int.tdiv a0_0 (wrap64 (t300)))) * (wrap64 (Int.tdiv a1_0 (wrap64 (t303)))))) (wrap64 ((wrap64 (Int.tdiv a0_1 (wrap64 (t303)))) * (wrap64 (Int.tdiv a1_1 (wrap64 (t300))))))).bind fun bt306 => (some (bt306.1, bt306.2.1, bt306.2.2))) else ((ratio_size.f (wrap64 (Int.tdiv a1_0 (wrap64 (t303))))).bind fun t304 => ((ratio_size.f (wrap64 (Int.tdiv a0_0 (wrap64 (t300))))).bind fun t305 => (if t305 = 0 then (none) else (if t304 > (IntKind.u64.wrap (Int.tdiv (1000000000000 : Int) t305)) then (some (0, 0, 4)) else ((ratio_New.f k (wrap64 ((wrap64 (Int.tdiv a0_0 (wrap64 (t300)))) * (wrap64 (Int.tdiv a1_0 (wrap64 (t303)))))) (wrap64 ((wrap64 (Int.tdiv a0_1 (wrap64 (t303)))) * (wrap64 (Int.tdiv a1_1 (wrap64 (t300))))))).bind fun bt309 => (some (bt309.1, bt309.2.1, bt309.2.2))))))))))) = some (r1, r2, r3) := H
    have A9 := Aside0.mk A90
    clear A90
    replace H := Option.bind_eq_some_iff.mp H
    obtain ⟨t303, A100, H⟩ := H
    replace H : (if (wrap64 (t300)) = 0 then (none) else (if (wrap64 (t303)) = 0 then (none) else (if (wrap64 (Int.tdiv a0_0 (wrap64 (t300)))) = 0 then ((ratio_New.f k (wrap64 ((wrap64 (Int.tdiv a0_0 (wrap64 (t300)))) * (wrap64 (Int.tdiv a1_0 (wrap64 (t303)))))) (wrap64 ((wrap64 (Int.tdiv a0_1 (wrap64 (t303)))) * (wrap64 (Int.tdiv a1_1 (wrap64 (t300))))))).bind fun bt306 => (some (bt306.1, bt306.2.1, bt306.2.2))) else ((ratio_size.f (wrap64 (Int.tdiv a1_0 (wrap64 (t303))))).bind fun t304 => ((ratio_size.f (wrap64 (Int.tdiv a0_0 (wrap64 (t300))))).bind fun t305 => (if t305 = 0 then (none) else (if t304 > (IntKind.u64.wrap (Int.tdiv (1000000000000 : Int) t305)) then (some (0, 0, 4)) else ((ratio_New.f k (wrap64 ((wrap64 (Int.tdiv a0_0 (wrap64 (t300)))) * (wrap64 (Int.tdiv a1_0 (wrap64 (t303)))))) (wrap64 ((wrap64 (Int.tdiv a0_1 (wrap64 (t303)))) * (wrap64 (Int.tdiv a1_1 (wrap64 (t300))))))).bind fun bt309 => (some (bt309.1, bt309.2.1, bt309.2.2)))))))))) = some (r1, r2, r3) := H
    have A10 := Aside0.mk A100
    clear A100
    by_cases c11 : (wrap64 (t300)) = 0
    · rw [if_pos c11] at H
      exact absurd H (by simp)
    · rw [if_neg c11] at H
      have c11b0 : ((wrap64 (t300)) == 0) = false := beq_eq_false_iff_ne.mpr c11
      have c11b1 : ((wrap64 (t300)) != 0) = true := bne_iff_ne.mpr c11
      by_cases c12 : (wrap64 (t303)) = 0
      · rw [if_pos c12] at H
        exact absurd H (by simp)
      · rw [if_neg c12] at H
        have c12b0 : ((wrap64 (t303)) == 0) = false := beq_eq_false_iff_ne.mpr c12
        have c12b1 : ((wrap64 (t303)) != 0) = true := bne_iff_ne.mpr c12
        by_cases c13 : (wrap64 (Int.tdiv a0_0 (wrap64 (t300)))) = 0
        · rw [if_pos c13] at H
          have c13b0 : ((wrap64 (Int.tdiv a0_0 (wrap64 (t300)))) == 0) = true := beq_iff_eq.mpr c13
          have c13b1 : ((wrap64 (Int.tdiv a0_0 (wrap64 (t300)))) != 0) = false := bne_eq_false_iff_eq.mpr c13
          clear c13
          replace H := Option.bind_eq_some_iff.mp H
          obtain ⟨⟨t306, t307, t308⟩, A140, H⟩ := H
          replace H : (some (t306, t307, t308)) = some (r1, r2, r3) := H
          have A14 := Aside0.mk A140
          clear A140
          simp only [Option.some.injEq, Prod.mk.injEq] at H
          obtain ⟨rfl, rfl, rfl⟩ := H
          go_enter Tryd.func25, Tryd.ntmps25
          try go_wp2_with (first | ((with_reducible refine gate_dst (N := 2) rfl ?_); refine box_event ?hg (N := 2) ?hd (cs := #[.int .i64 a0_0, .int .i64 a0_1]) (t := 23) ?hr ?_; (case hd => rfl); (case hg => rfl); (case hr => first | (go_simp; done) | (go_simp; rfl)); intro gb294 hg w15 hbox hb; have n0_ := Aside0.mk (below_step (by repeat (first | (with_reducible first | exact HB.out | apply below_alloc | apply pw_below_drewN | apply below_drew1) | exact HB.out)) hb); have n1_ := Aside0.mk (hbox); have n2_ := Aside0.mk ((by rw [hg]; exact (below_size (by repeat (first | (with_reducible first | exact HB.out | apply below_alloc | apply pw_below_drewN | apply below_drew1) | exact HB.out))) : w.heap.size ≤ gb294)); have n3_ := Aside0.mk ((by rw [hg]; exact (below_size (by repeat (first | (with_reducible first | exact HB.out | apply below_alloc | apply pw_below_drewN | apply below_drew1) | exact HB.out))) : w.heap.size ≤ gb294)); clear HB; have HB := n0_; have BK294 := n1_; have GW294 := n2_; have GE294 := n3_; clear n0_ n1_ n2_ n3_; clear hb hbox hg) | ((with_reducible refine gate_dst (N := 3) rfl ?_); refine box_event ?hg (N := 3) ?hd (cs := #[.int .i64 a1_0, .int .i64 a1_1]) (t := 23) ?hr ?_; (case hd => rfl); (case hg => rfl); (case hr => first | (go_simp; done) | (go_simp; rfl)); intro gb295 hg w16 hbox hb; have n0_ := Aside0.mk (blk_below (g := gb294) (o := .cells #[.int .i64 a0_0, .int .i64 a0_1] 23 (0, 0)) (by (with_reducible repeat (first | refine blk_drewN ?_ _ | refine blk_drew ?_ | refine blk_alloc ?_ _)); exact BK294.out) hb); have n1_ := Aside0.mk (below_step (by repeat (first | (with_reducible first | exact HB.out | apply below_alloc | apply pw_below_drewN | apply below_drew1 | refine below_set ?_ GE294.out) | exact HB.out)) hb); have n2_ := Aside0.mk (hbox); have n3_ := Aside0.mk ((by rw [hg]; exact (below_size (by repeat (first | (with_reducible first | exact HB.out | apply below_alloc | apply pw_below_drewN | apply below_drew1 | refine below_set ?_ GE294.out) | exact HB.out))) : w.heap.size ≤ gb295)); have n4_ := Aside0.mk ((by rw [hg]; exact (below_size (by repeat (first | (with_reducible first | exact HB.out | apply below_alloc | apply pw_below_drewN | apply below_drew1 | refine below_set ?_ GE294.out) | exact HB.out))) : w.heap.size ≤ gb295)); have n5_ := Aside0.mk ((by rw [hg]; exact Nat.ne_of_lt (blk_lt (g := gb294) (o := .cells #[.int .i64 a0_0, .int .i64 a0_1] 23 (0, 0)) (by (with_reducible repeat (first | refine blk_drewN ?_ _ | refine blk_drew ?_ | refine blk_alloc ?_ _)); exact BK294.out)) : gb294 ≠ gb295)); have n6_ := Aside0.mk ((by rw [hg]; exact Nat.ne_of_gt (blk_lt (g := gb294) (o := .cells #[.int .i64 a0_0, .int .i64 a0_1] 23 (0, 0)) (by (with_reducible repeat (first | refine blk_drewN ?_ _ | refine blk_drew ?_ | refine blk_alloc ?_ _)); exact BK294.out)) : gb295 ≠ gb294)); clear BK294; clear HB; have BK294 := n0_; have HB := n1_; have BK295 := n2_; have GW295 := n3_; have GE295 := n4_; have NB294_295 := n5_; have NB295_294 := n6_; clear n0_ n1_ n2_ n3_ n4_ n5_ n6_; clear hb hbox hg) | ((with_reducible refine gate_dst (N := 4) rfl ?_); refine box_event ?hg (N := 4) ?hd (cs := #[.int .i64 0, .int .i64 0]) (t := 23) ?hr ?_; (case hd => rfl); (case hg => rfl); (case hr => first | (go_simp; done) | (go_simp; rfl)); intro gb296 hg w17 hbox hb; have n0_ := Aside0.mk (blk_below (g := gb294) (o := .cells #[.int .i64 a0_0, .int .i64 a0_1] 23 (0, 0)) (by (with_reducible repeat (first | refine blk_drewN ?_ _ | refine blk_drew ?_ | refine blk_alloc ?_ _)); exact BK294.out) hb); have n1_ := Aside0.mk (blk_below (g := gb295) (o := .cells #[.int .i64 a1_0, .int .i64 a1_1] 23 (0, 0)) (by (with_reducible repeat (first | refine blk_drewN ?_ _ | refine blk_drew ?_ | refine blk_alloc ?_ _)); exact BK295.out) hb); have n2_ := Aside0.mk (below_step (by repeat (first | (with_reducible first | exact HB.out | apply below_alloc | apply pw_below_drewN | apply below_drew1 | refine below_set ?_ GE294.out | refine below_set ?_ GE295.out) | exact HB.out)) hb); have n3_ := Aside0.mk (hbox); have n4_ := Aside0.mk ((by rw [hg]; exact (below_size (by repeat (first | (with_reducible first | exact HB.out | apply below_alloc | apply pw_below_drewN | apply below_drew1 | refine below_set ?_ GE294.out | refine below_set ?_ GE295.out) | exact HB.out))) : w.heap.size ≤ gb296)); have n5_ := Aside0.mk ((by rw [hg]; exact (below_size (by repeat (first | (with_reducible first | exact HB.out | apply below_alloc | apply pw_below_drewN | apply below_drew1 | refine below_set ?_ GE294.out | refine below_set ?_ GE295.out) | exact HB.out))) : w.heap.size ≤ gb296)); have n6_ := Aside0.mk ((by rw [hg]; exact Nat.ne_of_lt (blk_lt (g := gb294) (o := .cells #[.int .i64 a0_0, .int .i64 a0_1] 23 (0, 0)) (by (with_reducible repeat (first | refine blk_drewN ?_ _ | refine blk_drew ?_ | refine blk_alloc ?_ _)); exact BK294.out)) : gb294 ≠ gb296)); have n7_ := Aside0.mk ((by rw [hg]; exact Nat.ne_of_gt (blk_lt (g := gb294) (o := .cells #[.int .i64 a0_0, .int .i64 a0_1] 23 (0, 0)) (by (with_reducible repeat (first | refine blk_drewN ?_ _ | refine blk_drew ?_ | refine blk_alloc ?_ _)); exact BK294.out)) : gb296 ≠ gb294)); have n8_ := Aside0.mk ((by rw [hg]; exact Nat.ne_of_lt (blk_lt (g := gb295) (o := .cells #[.int .i64 a1_0, .int .i64 a1_1] 23 (0, 0)) (by (with_reducible repeat (first | refine blk_drewN ?_ _ | refine blk_drew ?_ | refine blk_alloc ?_ _)); exact BK295.out)) : gb295 ≠ gb296)); have n9_ := Aside0.mk ((by rw [hg]; exact Nat.ne_of_gt (blk_lt (g := gb295) (o := .cells #[.int .i64 a1_0, .int .i64 a1_1] 23 (0, 0)) (by (with_reducible repeat (first | refine blk_drewN ?_ _ | refine blk_drew ?_ | refine blk_alloc ?_ _)); exact BK295.out)) : gb296 ≠ gb295)); clear BK294; clear BK295; clear HB; have BK294 := n0_; have BK295 := n1_; have HB := n2_; have BK296 := n3_; have GW296 := n4_; have GE296 := n5_; have NB294_296 := n6_; have NB296_294 := n7_; have NB295_296 := n8_; have NB296_295 := n9_; clear n0_ n1_ n2_ n3_ n4_ n5_ n6_ n7_ n8_ n9_; clear hb hbox hg; have hnb18 := NB294_295.out; have hnc18 := NB295_294.out; have hnb19 := NB294_296.out; have hnc19 := NB296_294.out; have hcz20_0 : w17.cell? ⟨gb294, 0, none⟩ = some (.int .i64 a0_0) := (blk_cell BK294.out 0).trans rfl; have hcz20_1 : w17.cell? ⟨gb294, 1, none⟩ = some (.int .i64 a0_1) := (blk_cell BK294.out 1).trans rfl; have hfz20_0 := blk_frozen BK294.out 0; have hfz20_1 := blk_frozen BK294.out 1; have hnb21 := NB295_296.out; have hnc21 := NB296_295.out; have hcz22_0 : w17.cell? ⟨gb295, 0, none⟩ = some (.int .i64 a1_0) := (blk_cell BK295.out 0).trans rfl; have hcz22_1 : w17.cell? ⟨gb295, 1, none⟩ = some (.int .i64 a1_1) := (blk_cell BK295.out 1).trans rfl; have hfz22_0 := blk_frozen BK295.out 0; have hfz22_1 := blk_frozen BK295.out 1) | ((with_reducible refine gate_callee (f := 40) rfl ?_); refine goesL_ (some 13) rfl rfl Tryd.func40 (by kernel_rfl) rfl #[.agg #[.int .i64 a0_0, .int .i64 a0_1], .agg #[.int .i64 a1_0, .int .i64 a1_1]] rfl (by (try simp only [List.map_toArray, List.map_cons, List.map_nil]); first | done | rfl | (simp only [List.length_drop, List.length_take]; rfl)) ?_; (with_reducible refine (ratio_both.calls k a0_0 a0_1 a1_0 a1_1 t297 _ A3.out).mono ?_); rintro e w23 ⟨rfl, hb⟩; refine ⟨_, rfl, ?_⟩; have n0_ := Aside0.mk (blk_below (g := gb294) (o := .cells #[.int .i64 a0_0, .int .i64 a0_1] 23 (0, 0)) (by (with_reducible repeat (first | refine blk_drewN ?_ _ | refine blk_drew ?_ | refine blk_alloc ?_ _)); exact BK294.out) hb); have n1_ := Aside0.mk (blk_below (g := gb295) (o := .cells #[.int .i64 a1_0, .int .i64 a1_1] 23 (0, 0)) (by (with_reducible repeat (first | refine blk_drewN ?_ _ | refine blk_drew ?_ | refine blk_alloc ?_ _)); exact BK295.out) hb); have n2_ := Aside0.mk (blk_below (g := gb296) (o := .cells #[.int .i64 0, .int .i64 0] 23 (0, 0)) (by (with_reducible repeat (first | refine blk_drewN ?_ _ | refine blk_drew ?_ | refine blk_alloc ?_ _)); exact BK296.out) hb); have n3_ := Aside0.mk (below_step (by repeat (first | (with_reducible first | exact HB.out | apply below_alloc | apply pw_below_drewN | apply below_drew1 | refine below_set ?_ GE294.out | refine below_set ?_ GE295.out | refine below_set ?_ GE296.out) | exact HB.out)) hb); clear BK294; clear BK295; clear BK296; clear HB; have BK294 := n0_; have BK295 := n1_; have BK296 := n2_; have HB := n3_; clear n0_ n1_ n2_ n3_; (try clear hb); (try clear hb2); (try clear hk); (try clear hi)))
          have n0_ := Aside0.mk (blk_drew BK294.out)
          have n1_ := Aside0.mk (blk_drew BK295.out)
          have n2_ := Aside0.mk (blk_drew BK296.out)
          have n3_ := Aside0.mk (below_drew1 HB.out)
          clear BK294
          clear BK295
          clear BK296
          clear HB
          have BK294 := n0_
          have BK295 := n1_
          have BK296 := n2_
          have HB := n3_
          clear n0_ n1_ n2_ n3_
          refine start_ (n := 18) (S := fun w' => w'.cell? ⟨gb294, 0, none⟩ = some (.int .i64 a0_0) ∧ w'.cell? ⟨gb294, 1, none⟩ = some (.int .i64 a0_1) ∧ w'.cell? ⟨gb295, 0, none⟩ = some (.int .i64 a1_0) ∧ w'.cell? ⟨gb295, 1, none⟩ = some (.int .i64 a1_1)) (ds := []) #[false, false, false, false, false, false, false, false, false, false, false, false, false, false, false, false, false, false] (by kernel_rfl) rfl rfl ⟨(blk_cell BK294.out 0).trans rfl, (blk_cell BK294.out 1).trans rfl, (blk_cell BK295.out 0).trans rfl, (blk_cell BK295.out 1).trans rfl⟩ (fun hHeld => ?_); refine with_tabW ratio_Mul.tab4 ratio_Mul.bits4 (fun HT_ HW_ => ?_)
          generalize w23.drew = w24 at BK294 BK295 BK296 HB hHeld ⊢
          refine pure_ (i := 0) (N := some 18) (v := ?_) (a' := ?_) #[true, false, false, false, false, false, false, false, false, false, false, false, false, false, false, false, false, false] rfl rfl (any_of HT_.out (by kernel_rfl)) (fun _ _ _ h => h) (Or.inl ⟨by rfl, ?_⟩) ?_ ?_
          rotate_left
          · intro w'
            go_simp
            with_reducible rfl
          rotate_left
          · simp only [Act.put, List.setIfInBounds_toArray, List.set_cons_zero, List.set_cons_succ, i64_w, i32_w]
            rfl
          refine pure_ (i := 3) (N := some 21) (v := ?_) (a' := ?_) #[true, false, false, true, false, false, false, false, false, false, false, false, false, false, false, false, false, false] rfl rfl (any_of HT_.out (by kernel_rfl)) (fun _ _ _ h => h) (Or.inl ⟨by rfl, ?_⟩) ?_ ?_
          rotate_left
          · intro w'
            go_simp
            with_reducible rfl
          rotate_left
          · simp only [Act.put, List.setIfInBounds_toArray, List.set_cons_zero, List.set_cons_succ, i64_w, i32_w]
            rfl
          refine pure_ (i := 8) (N := some 26) (v := ?_) (a' := ?_) #[true, false, false, true, false, false, false, false, true, false, false, false, false, false, false, false, false, false] rfl rfl (any_of HT_.out (by kernel_rfl)) (fun _ _ _ h => h) (Or.inl ⟨by rfl, ?_⟩) ?_ ?_
          rotate_left
          · intro w'
            go_simp
            with_reducible rfl
          rotate_left
          · simp only [Act.put, List.setIfInBounds_toArray, List.set_cons_zero, List.set_cons_succ, i64_w, i32_w]
            rfl
          refine pure_ (i := 11) (N := some 29) (v := ?_) (a' := ?_) #[true, false, false, true, false, false, false, false, true, false, false, true, false, false, false, false, false, false] rfl rfl (any_of HT_.out (by kernel_rfl)) (fun _ _ _ h => h) (Or.inl ⟨by rfl, ?_⟩) ?_ ?_
          rotate_left
          · intro w'
            go_simp
            with_reducible rfl
          rotate_left
          · simp only [Act.put, List.setIfInBounds_toArray, List.set_cons_zero, List.set_cons_succ, i64_w, i32_w]
            rfl
          refine take_ (i := 1) (N := some 19) (v := ?_) (a' := ?_) #[true, true, false, true, false, false, false, false, true, false, false, true, false, false, false, false, false, false] rfl rfl (take_ofW HT_.out HW_.out (by kernel_rfl)) (fun _ _ _ h => h) (Or.inl ⟨by rfl, ?_⟩) hHeld ?_ ?_
          rotate_left
          · rintro w' ⟨s0, s1, s2, s3⟩
            go_simp
            with_reducible rfl
          rotate_left
          · simp only [Act.put, List.setIfInBounds_toArray, List.set_cons_zero, List.set_cons_succ, i64_w, i32_w]
            rfl
          refine take_ (i := 4) (N := some 22) (v := ?_) (a' := ?_) #[true, true, false, true, true, false, false, false, true, false, false, true, false, false, false, false, false, false] rfl rfl (take_ofW HT_.out HW_.out (by kernel_rfl)) (fun _ _ _ h => h) (Or.inl ⟨by rfl, ?_⟩) hHeld ?_ ?_
          rotate_left
          · rintro w' ⟨s0, s1, s2, s3⟩
            go_simp
            with_reducible rfl
          rotate_left
          · simp only [Act.put, List.setIfInBounds_toArray, List.set_cons_zero, List.set_cons_succ, i64_w, i32_w]
            rfl
          refine take_ (i := 9) (N := some 27) (v := ?_) (a' := ?_) #[true, true, false, true, true, false, false, false, true, true, false, true, false, false, false, false, false, false] rfl rfl (take_ofW HT_.out HW_.out (by kernel_rfl)) (fun _ _ _ h => h) (Or.inl ⟨by rfl, ?_⟩) hHeld ?_ ?_
          rotate_left
          · rintro w' ⟨s0, s1, s2, s3⟩
            go_simp
            with_reducible rfl
          rotate_left
          · simp only [Act.put, List.setIfInBounds_toArray, List.set_cons_zero, List.set_cons_succ, i64_w, i32_w]
            rfl
          refine take_ (i := 12) (N := some 30) (v := ?_) (a' := ?_) #[true, true, false, true, true, false, false, false, true, true, false, true, true, false, false, false, false, false] rfl rfl (take_ofW HT_.out HW_.out (by kernel_rfl)) (fun _ _ _ h => h) (Or.inl ⟨by rfl, ?_⟩) hHeld ?_ ?_
          rotate_left
          · rintro w' ⟨s0, s1, s2, s3⟩
            go_simp
            with_reducible rfl
          rotate_left
          · simp only [Act.put, List.setIfInBounds_toArray, List.set_cons_zero, List.set_cons_succ, i64_w, i32_w]
            rfl
          refine one_ (i := 2) (N := some 20) #[true, true, true, true, true, false, false, false, true, true, false, true, true, false, false, false, false, false] rfl rfl (one_of HT_.out (by kernel_rfl)) (by decide) (fun K hK => ?_)
          refine goes_ Tryd.func30 (by kernel_rfl) rfl #[.int .i64 a0_0] (by rfl) rfl rfl (by (try simp only [List.map_toArray, List.map_cons, List.map_nil]); first | done | rfl | (simp only [List.length_drop, List.length_take]; rfl)) ?_
          with_reducible refine (ratio_size.calls a0_0 t298 _ A5.out).mono ?_
          rintro e w' ⟨rfl, ⟨nd, rfl⟩⟩
          refine ⟨_, rfl, ?_⟩
          refine hK.out _ _ ⟨(blk_cell BK294.out 0).trans rfl, (blk_cell BK294.out 1).trans rfl, (blk_cell BK295.out 0).trans rfl, (blk_cell BK295.out 1).trans rfl⟩ (fun hHeld => ?_)
          clear hK K
          refine norm_ (a' := ?_) ?_ ?_
          rotate_left
          · show Act.put _ (some 20) _ = _
            simp only [Act.put, List.setIfInBounds_toArray, List.set_cons_zero, List.set_cons_succ, i64_w, i32_w]
            rfl
          refine one_ (i := 5) (N := some 23) #[true, true, true, true, true, true, false, false, true, true, false, true, true, false, false, false, false, false] rfl rfl (one_of HT_.out (by kernel_rfl)) (by decide) (fun K hK => ?_)
          refine goes_ Tryd.func30 (by kernel_rfl) rfl #[.int .i64 a1_1] (by rfl) rfl rfl (by (try simp only [List.map_toArray, List.map_cons, List.map_nil]); first | done | rfl | (simp only [List.length_drop, List.length_take]; rfl)) ?_
          with_reducible refine (ratio_size.calls a1_1 t299 _ A6.out).mono ?_
          rintro e w' ⟨rfl, ⟨nd, rfl⟩⟩
          refine ⟨_, rfl, ?_⟩
          refine hK.out _ _ ⟨(blk_cell BK294.out 0).trans rfl, (blk_cell BK294.out 1).trans rfl, (blk_cell BK295.out 0).trans rfl, (blk_cell BK295.out 1).trans rfl⟩ (fun hHeld => ?_)
          clear hK K
          refine norm_ (a' := ?_) ?_ ?_
          rotate_left
          · show Act.put _ (some 23) _ = _
            simp only [Act.put, List.setIfInBounds_toArray, List.set_cons_zero, List.set_cons_succ, i64_w, i32_w]
            rfl
          refine one_ (i := 6) (N := some 24) #[true, true, true, true, true, true, true, false, true, true, false, true, true, false, false, false, false, false] rfl rfl (one_of HT_.out (by kernel_rfl)) (by decide) (fun K hK => ?_)
          refine goes_ Tryd.func31 (by kernel_rfl) rfl #[.int .u64 t298, .int .u64 t299] (by rfl) rfl rfl (by (try simp only [List.map_toArray, List.map_cons, List.map_nil]); first | done | rfl | (simp only [List.length_drop, List.length_take]; rfl)) ?_
          with_reducible refine (ratio_gcd.calls k t298 t299 t300 _ A7.out).mono ?_
          rintro e w' ⟨rfl, ⟨nd, rfl⟩⟩
          refine ⟨_, rfl, ?_⟩
          refine hK.out _ _ ⟨(blk_cell BK294.out 0).trans rfl, (blk_cell BK294.out 1).trans rfl, (blk_cell BK295.out 0).trans rfl, (blk_cell BK295.out 1).trans rfl⟩ (fun hHeld => ?_)
          clear hK K
          refine norm_ (a' := ?_) ?_ ?_
          rotate_left
          · show Act.put _ (some 24) _ = _
            simp only [Act.put, List.setIfInBounds_toArray, List.set_cons_zero, List.set_cons_succ, i64_w, i32_w]
            rfl
          refine pure_ (i := 7) (N := some 25) (v := ?_) (a' := ?_) #[true, true, true, true, true, true, true, true, true, true, false, true, true, false, false, false, false, false] rfl rfl (any_of HT_.out (by kernel_rfl)) (fun _ _ _ h => h) (Or.inl ⟨by rfl, ?_⟩) ?_ ?_
          rotate_left
          · intro w'
            go_simp
            with_reducible rfl
          rotate_left
          · simp only [Act.put, List.setIfInBounds_toArray, List.set_cons_zero, List.set_cons_succ, i64_w, i32_w]
            rfl
          refine one_ (i := 10) (N := some 28) #[true, true, true, true, true, true, true, true, true, true, true, true, true, false, false, false, false, false] rfl rfl (one_of HT_.out (by kernel_rfl)) (by decide) (fun K hK => ?_)
          refine goes_ Tryd.func30 (by kernel_rfl) rfl #[.int .i64 a1_0] (by rfl) rfl rfl (by (try simp only [List.map_toArray, List.map_cons, List.map_nil]); first | done | rfl | (simp only [List.length_drop, List.length_take]; rfl)) ?_
          with_reducible refine (ratio_size.calls a1_0 t301 _ A8.out).mono ?_
          rintro e w' ⟨rfl, ⟨nd, rfl⟩⟩
          refine ⟨_, rfl, ?_⟩
          refine hK.out _ _ ⟨(blk_cell BK294.out 0).trans rfl, (blk_cell BK294.out 1).trans rfl, (blk_cell BK295.out 0).trans rfl, (blk_cell BK295.out 1).trans rfl⟩ (fun hHeld => ?_)
          clear hK K
          refine norm_ (a' := ?_) ?_ ?_
          rotate_left
          · show Act.put _ (some 28) _ = _
            simp only [Act.put, List.setIfInBounds_toArray, List.set_cons_zero, List.set_cons_succ, i64_w, i32_w]
            rfl
          refine one_ (i := 13) (N := some 31) #[true, true, true, true, true, true, true, true, true, true, true, true, true, true, false, false, false, false] rfl rfl (one_of HT_.out (by kernel_rfl)) (by decide) (fun K hK => ?_)
          refine goes_ Tryd.func30 (by kernel_rfl) rfl #[.int .i64 a0_1] (by rfl) rfl rfl (by (try simp only [List.map_toArray, List.map_cons, List.map_nil]); first | done | rfl | (simp only [List.length_drop, List.length_take]; rfl)) ?_
          with_reducible refine (ratio_size.calls a0_1 t302 _ A9.out).mono ?_
          rintro e w' ⟨rfl, ⟨nd, rfl⟩⟩
          refine ⟨_, rfl, ?_⟩
          refine hK.out _ _ ⟨(blk_cell BK294.out 0).trans rfl, (blk_cell BK294.out 1).trans rfl, (blk_cell BK295.out 0).trans rfl, (blk_cell BK295.out 1).trans rfl⟩ (fun hHeld => ?_)
          clear hK K
          refine norm_ (a' := ?_) ?_ ?_
          rotate_left
          · show Act.put _ (some 31) _ = _
            simp only [Act.put, List.setIfInBounds_toArray, List.set_cons_zero, List.set_cons_succ, i64_w, i32_w]
            rfl
          refine one_ (i := 14) (N := some 32) #[true, true, true, true, true, true, true, true, true, true, true, true, true, true, true, false, false, false] rfl rfl (one_of HT_.out (by kernel_rfl)) (by decide) (fun K hK => ?_)
          refine goes_ Tryd.func31 (by kernel_rfl) rfl #[.int .u64 t301, .int .u64 t302] (by rfl) rfl rfl (by (try simp only [List.map_toArray, List.map_cons, List.map_nil]); first | done | rfl | (simp only [List.length_drop, List.length_take]; rfl)) ?_
          with_reducible refine (ratio_gcd.calls k t301 t302 t303 _ A10.out).mono ?_
          rintro e w' ⟨rfl, ⟨nd, rfl⟩⟩
          refine ⟨_, rfl, ?_⟩
          refine hK.out _ _ ⟨(blk_cell BK294.out 0).trans rfl, (blk_cell BK294.out 1).trans rfl, (blk_cell BK295.out 0).trans rfl, (blk_cell BK295.out 1).trans rfl⟩ (fun hHeld => ?_)
          clear hK K
          refine norm_ (a' := ?_) ?_ ?_
          rotate_left
          · show Act.put _ (some 32) _ = _
            simp only [Act.put, List.setIfInBounds_toArray, List.set_cons_zero, List.set_cons_succ, i64_w, i32_w]
            rfl
          refine pure_ (i := 15) (N := some 33) (v := ?_) (a' := ?_) #[true, true, true, true, true, true, true, true, true, true, true, true, true, true, true, true, false, false] rfl rfl (any_of HT_.out (by kernel_rfl)) (fun _ _ _ h => h) (Or.inl ⟨by rfl, ?_⟩) ?_ ?_
          rotate_left
          · intro w'
            go_simp
            with_reducible rfl
          rotate_left
          · simp only [Act.put, List.setIfInBounds_toArray, List.set_cons_zero, List.set_cons_succ, i64_w, i32_w]
            rfl
          refine pure_ (i := 16) (N := some 7) (v := ?_) (a' := ?_) #[true, true, true, true, true, true, true, true, true, true, true, true, true, true, true, true, true, false] rfl rfl (any_of HT_.out (by kernel_rfl)) (fun _ _ _ h => h) (Or.inl ⟨by rfl, ?_⟩) ?_ ?_
          rotate_left
          · intro w'
            go_simp
            with_reducible rfl
          rotate_left
          · simp only [Act.put, List.setIfInBounds_toArray, List.set_cons_zero, List.set_cons_succ, i64_w, i32_w]
            rfl
          refine pure_ (i := 17) (N := some 8) (v := ?_) (a' := ?_) #[true, true, true, true, true, true, true, true, true, true, true, true, true, true, true, true, true, true] rfl rfl (any_of HT_.out (by kernel_rfl)) (fun _ _ _ h => h) (Or.inl ⟨by rfl, ?_⟩) ?_ ?_
          rotate_left
          · intro w'
            go_simp
            with_reducible rfl
          rotate_left
          · simp only [Act.put, List.setIfInBounds_toArray, List.set_cons_zero, List.set_cons_succ, i64_w, i32_w]
            rfl
          refine done_ (done_of HT_.out (by kernel_rfl)) ?_
          try go_wp2
          (try simp only [World.drewN_drewN]); (try (rw [drewN_self w24]; generalize hq_ : World.drewN w24 _ = w24; have n0_ : Aside0 (w24.heap[gb294]? = some (.cells #[.int .i64 a0_0, .int .i64 a0_1] 23 (0, 0))) := ⟨by rw [← hq_]; exact (by (with_reducible repeat (first | refine blk_drewN ?_ _ | refine blk_drew ?_ | refine blk_alloc ?_ _)); exact BK294.out)⟩; have n1_ : Aside0 (w24.heap[gb295]? = some (.cells #[.int .i64 a1_0, .int .i64 a1_1] 23 (0, 0))) := ⟨by rw [← hq_]; exact (by (with_reducible repeat (first | refine blk_drewN ?_ _ | refine blk_drew ?_ | refine blk_alloc ?_ _)); exact BK295.out)⟩; have n2_ : Aside0 (w24.heap[gb296]? = some (.cells #[.int .i64 0, .int .i64 0] 23 (0, 0))) := ⟨by rw [← hq_]; exact (by (with_reducible repeat (first | refine blk_drewN ?_ _ | refine blk_drew ?_ | refine blk_alloc ?_ _)); exact BK296.out)⟩; have n3_ : Aside0 (Below w.heap.size w w24) := ⟨by rw [← hq_]; exact (by repeat (first | (with_reducible first | exact HB.out | apply below_alloc | apply pw_below_drewN | apply below_drew1 | refine below_set ?_ GE294.out | refine below_set ?_ GE295.out | refine below_set ?_ GE296.out) | exact HB.out))⟩; clear BK294 BK295 BK296 HB hq_; have BK294 := n0_; have BK295 := n1_; have BK296 := n2_; have HB := n3_; clear n0_ n1_ n2_ n3_))
          have n0_ := Aside0.mk (blk_drew BK294.out)
          have n1_ := Aside0.mk (blk_drew BK295.out)
          have n2_ := Aside0.mk (blk_drew BK296.out)
          have n3_ := Aside0.mk (below_drew1 HB.out)
          clear BK294
          clear BK295
          clear BK296
          clear HB
          have BK294 := n0_
          have BK295 := n1_
          have BK296 := n2_
          have HB := n3_
          clear n0_ n1_ n2_ n3_
          refine start_ (n := 10) (S := fun w' => w'.cell? ⟨gb294, 0, none⟩ = some (.int .i64 a0_0) ∧ w'.cell? ⟨gb294, 1, none⟩ = some (.int .i64 a0_1) ∧ w'.cell? ⟨gb295, 0, none⟩ = some (.int .i64 a1_0) ∧ w'.cell? ⟨gb295, 1, none⟩ = some (.int .i64 a1_1)) (ds := []) #[false, false, false, false, false, false, false, false, false, false] (by kernel_rfl) rfl rfl ⟨(blk_cell BK294.out 0).trans rfl, (blk_cell BK294.out 1).trans rfl, (blk_cell BK295.out 0).trans rfl, (blk_cell BK295.out 1).trans rfl⟩ (fun hHeld => ?_); refine with_tabW ratio_Mul.tab5 ratio_Mul.bits5 (fun HT_ HW_ => ?_)
          generalize w24.drew = w25 at BK294 BK295 BK296 HB hHeld ⊢
          refine pure_ (i := 0) (N := some 34) (v := ?_) (a' := ?_) #[true, false, false, false, false, false, false, false, false, false] rfl rfl (any_of HT_.out (by kernel_rfl)) (fun _ _ _ h => h) (Or.inl ⟨by rfl, ?_⟩) ?_ ?_
          rotate_left
          · intro w'
            go_simp
            with_reducible rfl
          rotate_left
          · simp only [Act.put, List.setIfInBounds_toArray, List.set_cons_zero, List.set_cons_succ, i64_w, i32_w]
            rfl
          refine pure_ (i := 2) (N := some 36) (v := ?_) (a' := ?_) #[true, false, true, false, false, false, false, false, false, false] rfl rfl (any_of HT_.out (by kernel_rfl)) (fun _ _ _ h => h) (Or.inl ⟨by rfl, ?_⟩) ?_ ?_
          rotate_left
          · intro w'
            go_simp
            with_reducible rfl
          rotate_left
          · simp only [Act.put, List.setIfInBounds_toArray, List.set_cons_zero, List.set_cons_succ, i64_w, i32_w]
            rfl
          refine pure_ (i := 4) (N := some 38) (v := ?_) (a' := ?_) #[true, false, true, false, true, false, false, false, false, false] rfl rfl (any_of HT_.out (by kernel_rfl)) (fun _ _ _ h => h) (Or.inl ⟨by rfl, ?_⟩) ?_ ?_
          rotate_left
          · intro w'
            go_simp
            with_reducible rfl
          rotate_left
          · simp only [Act.put, List.setIfInBounds_toArray, List.set_cons_zero, List.set_cons_succ, i64_w, i32_w]
            rfl
          refine pure_ (i := 6) (N := some 40) (v := ?_) (a' := ?_) #[true, false, true, false, true, false, true, false, false, false] rfl rfl (any_of HT_.out (by kernel_rfl)) (fun _ _ _ h => h) (Or.inl ⟨by rfl, ?_⟩) ?_ ?_
          rotate_left
          · intro w'
            go_simp
            with_reducible rfl
          rotate_left
          · simp only [Act.put, List.setIfInBounds_toArray, List.set_cons_zero, List.set_cons_succ, i64_w, i32_w]
            rfl
          refine take_ (i := 1) (N := some 35) (v := ?_) (a' := ?_) #[true, true, true, false, true, false, true, false, false, false] rfl rfl (take_ofW HT_.out HW_.out (by kernel_rfl)) (fun _ _ _ h => h) (Or.inl ⟨by rfl, ?_⟩) hHeld ?_ ?_
          rotate_left
          · rintro w' ⟨s0, s1, s2, s3⟩
            go_simp
            with_reducible rfl
          rotate_left
          · simp only [Act.put, List.setIfInBounds_toArray, List.set_cons_zero, List.set_cons_succ, i64_w, i32_w]
            rfl
          refine pure_ (i := 3) (N := some 37) (v := ?_) (a' := ?_) #[true, true, true, true, true, false, true, false, false, false] rfl rfl (any_of HT_.out (by kernel_rfl)) (fun _ _ _ h => h) (Or.inl ⟨by rfl, ?_⟩) ?_ ?_
          rotate_left
          · intro w'
            go_simp
            with_reducible rfl
          rotate_left
          · simp only [Act.put, List.setIfInBounds_toArray, List.set_cons_zero, List.set_cons_succ, i64_w, i32_w]
            rfl
          refine pure_ (i := 8) (N := some 9) (v := ?_) (a' := ?_) #[true, true, true, true, true, false, true, false, true, false] rfl rfl (any_of HT_.out (by kernel_rfl)) (fun _ _ _ h => h) (Or.inl ⟨by rfl, ?_⟩) ?_ ?_
          rotate_left
          · intro w'
            go_simp
            with_reducible rfl
          rotate_left
          · simp only [Act.put, List.setIfInBounds_toArray, List.set_cons_zero, List.set_cons_succ, i64_w, i32_w]
            rfl
          refine take_ (i := 5) (N := some 39) (v := ?_) (a' := ?_) #[true, true, true, true, true, true, true, false, true, false] rfl rfl (take_ofW HT_.out HW_.out (by kernel_rfl)) (fun _ _ _ h => h) (Or.inl ⟨by rfl, ?_⟩) hHeld ?_ ?_
          rotate_left
          · rintro w' ⟨s0, s1, s2, s3⟩
            go_simp
            with_reducible rfl
          rotate_left
          · simp only [Act.put, List.setIfInBounds_toArray, List.set_cons_zero, List.set_cons_succ, i64_w, i32_w]
            rfl
          refine pure_ (i := 7) (N := some 41) (v := ?_) (a' := ?_) #[true, true, true, true, true, true, true, true, true, false] rfl rfl (any_of HT_.out (by kernel_rfl)) (fun _ _ _ h => h) (Or.inl ⟨by rfl, ?_⟩) ?_ ?_
          rotate_left
          · intro w'
            go_simp
            with_reducible rfl
          rotate_left
          · simp only [Act.put, List.setIfInBounds_toArray, List.set_cons_zero, List.set_cons_succ, i64_w, i32_w]
            rfl
          refine pure_ (i := 9) (N := some 10) (v := ?_) (a' := ?_) #[true, true, true, true, true, true, true, true, true, true] rfl rfl (any_of HT_.out (by kernel_rfl)) (fun _ _ _ h => h) (Or.inl ⟨by rfl, ?_⟩) ?_ ?_
          rotate_left
          · intro w'
            go_simp
            with_reducible rfl
          rotate_left
          · simp only [Act.put, List.setIfInBounds_toArray, List.set_cons_zero, List.set_cons_succ, i64_w, i32_w]
            rfl
          refine done_ (done_of HT_.out (by kernel_rfl)) ?_
          try go_wp2
          have n0_ := Aside0.mk (blk_drew BK294.out)
          have n1_ := Aside0.mk (blk_drew BK295.out)
          have n2_ := Aside0.mk (blk_drew BK296.out)
          have n3_ := Aside0.mk (below_drew1 HB.out)
          clear BK294
          clear BK295
          clear BK296
          clear HB
          have BK294 := n0_
          have BK295 := n1_
          have BK296 := n2_
          have HB := n3_
          clear n0_ n1_ n2_ n3_
          refine start_ (n := 17) (S := fun w' => w'.cell? ⟨gb294, 0, none⟩ = some (.int .i64 a0_0) ∧ w'.cell? ⟨gb294, 1, none⟩ = some (.int .i64 a0_1) ∧ w'.cell? ⟨gb295, 0, none⟩ = some (.int .i64 a1_0) ∧ w'.cell? ⟨gb295, 1, none⟩ = some (.int .i64 a1_1)) (ds := []) #[false, false, false, false, false, false, false, false, false, false, false, false, false, false, false, false, false] (by kernel_rfl) rfl rfl ⟨(blk_cell BK294.out 0).trans rfl, (blk_cell BK294.out 1).trans rfl, (blk_cell BK295.out 0).trans rfl, (blk_cell BK295.out 1).trans rfl⟩ (fun hHeld => ?_); refine with_tabW ratio_Mul.tab8 ratio_Mul.bits8 (fun HT_ HW_ => ?_)
          generalize w25.drew = w26 at BK294 BK295 BK296 HB hHeld ⊢
          refine pure_ (i := 0) (N := some 53) (v := ?_) (a' := ?_) #[true, false, false, false, false, false, false, false, false, false, false, false, false, false, false, false, false] rfl rfl (any_of HT_.out (by kernel_rfl)) (fun _ _ _ h => h) (Or.inl ⟨by rfl, ?_⟩) ?_ ?_
          rotate_left
          · intro w'
            go_simp
            with_reducible rfl
          rotate_left
          · simp only [Act.put, List.setIfInBounds_toArray, List.set_cons_zero, List.set_cons_succ, i64_w, i32_w]
            rfl
          refine pure_ (i := 1) (N := some 54) (v := ?_) (a' := ?_) #[true, true, false, false, false, false, false, false, false, false, false, false, false, false, false, false, false] rfl rfl (any_of HT_.out (by kernel_rfl)) (fun _ _ _ h => h) (Or.inl ⟨by rfl, ?_⟩) ?_ ?_
          rotate_left
          · intro w'
            go_simp
            with_reducible rfl
          rotate_left
          · simp only [Act.put, List.setIfInBounds_toArray, List.set_cons_zero, List.set_cons_succ, i64_w, i32_w]
            rfl
          refine pure_ (i := 2) (N := some 55) (v := ?_) (a' := ?_) #[true, true, true, false, false, false, false, false, false, false, false, false, false, false, false, false, false] rfl rfl (any_of HT_.out (by kernel_rfl)) (fun _ _ _ h => h) (Or.inl ⟨by rfl, ?_⟩) ?_ ?_
          rotate_left
          · intro w'
            go_simp
            with_reducible rfl
          rotate_left
          · simp only [Act.put, List.setIfInBounds_toArray, List.set_cons_zero, List.set_cons_succ, i64_w, i32_w]
            rfl
          refine pure_ (i := 3) (N := some 56) (v := ?_) (a' := ?_) #[true, true, true, true, false, false, false, false, false, false, false, false, false, false, false, false, false] rfl rfl (any_of HT_.out (by kernel_rfl)) (fun _ _ _ h => h) (Or.inl ⟨by rfl, ?_⟩) ?_ ?_
          rotate_left
          · intro w'
            go_simp
            with_reducible rfl
          rotate_left
          · simp only [Act.put, List.setIfInBounds_toArray, List.set_cons_zero, List.set_cons_succ, i64_w, i32_w]
            rfl
          refine pure_ (i := 5) (N := some 58) (v := ?_) (a' := ?_) #[true, true, true, true, false, true, false, false, false, false, false, false, false, false, false, false, false] rfl rfl (any_of HT_.out (by kernel_rfl)) (fun _ _ _ h => h) (Or.inl ⟨by rfl, ?_⟩) ?_ ?_
          rotate_left
          · intro w'
            go_simp
            with_reducible rfl
          rotate_left
          · simp only [Act.put, List.setIfInBounds_toArray, List.set_cons_zero, List.set_cons_succ, i64_w, i32_w]
            rfl
          refine pure_ (i := 7) (N := some 60) (v := ?_) (a' := ?_) #[true, true, true, true, false, true, false, true, false, false, false, false, false, false, false, false, false] rfl rfl (any_of HT_.out (by kernel_rfl)) (fun _ _ _ h => h) (Or.inl ⟨by rfl, ?_⟩) ?_ ?_
          rotate_left
          · intro w'
            go_simp
            with_reducible rfl
          rotate_left
          · simp only [Act.put, List.setIfInBounds_toArray, List.set_cons_zero, List.set_cons_succ, i64_w, i32_w]
            rfl
          refine pure_ (i := 9) (N := some 62) (v := ?_) (a' := ?_) #[true, true, true, true, false, true, false, true, false, true, false, false, false, false, false, false, false] rfl rfl (any_of HT_.out (by kernel_rfl)) (fun _ _ _ h => h) (Or.inl ⟨by rfl, ?_⟩) ?_ ?_
          rotate_left
          · intro w'
            go_simp
            with_reducible rfl
          rotate_left
          · simp only [Act.put, List.setIfInBounds_toArray, List.set_cons_zero, List.set_cons_succ, i64_w, i32_w]
            rfl
          refine take_ (i := 4) (N := some 57) (v := ?_) (a' := ?_) #[true, true, true, true, true, true, false, true, false, true, false, false, false, false, false, false, false] rfl rfl (take_ofW HT_.out HW_.out (by kernel_rfl)) (fun _ _ _ h => h) (Or.inl ⟨by rfl, ?_⟩) hHeld ?_ ?_
          rotate_left
          · rintro w' ⟨s0, s1, s2, s3⟩
            go_simp
            with_reducible rfl
          rotate_left
          · simp only [Act.put, List.setIfInBounds_toArray, List.set_cons_zero, List.set_cons_succ, i64_w, i32_w]
            rfl
          refine pure_ (i := 6) (N := some 59) (v := ?_) (a' := ?_) #[true, true, true, true, true, true, true, true, false, true, false, false, false, false, false, false, false] rfl rfl (any_of HT_.out (by kernel_rfl)) (fun _ _ _ h => h) (Or.inl ⟨by rfl, ?_⟩) ?_ ?_
          rotate_left
          · intro w'
            go_simp
            with_reducible rfl
          rotate_left
          · simp only [Act.put, List.setIfInBounds_toArray, List.set_cons_zero, List.set_cons_succ, i64_w, i32_w]
            rfl
          refine take_ (i := 8) (N := some 61) (v := ?_) (a' := ?_) #[true, true, true, true, true, true, true, true, true, true, false, false, false, false, false, false, false] rfl rfl (take_ofW HT_.out HW_.out (by kernel_rfl)) (fun _ _ _ h => h) (Or.inl ⟨by rfl, ?_⟩) hHeld ?_ ?_
          rotate_left
          · rintro w' ⟨s0, s1, s2, s3⟩
            go_simp
            with_reducible rfl
          rotate_left
          · simp only [Act.put, List.setIfInBounds_toArray, List.set_cons_zero, List.set_cons_succ, i64_w, i32_w]
            rfl
          refine pure_ (i := 10) (N := some 63) (v := ?_) (a' := ?_) #[true, true, true, true, true, true, true, true, true, true, true, false, false, false, false, false, false] rfl rfl (any_of HT_.out (by kernel_rfl)) (fun _ _ _ h => h) (Or.inl ⟨by rfl, ?_⟩) ?_ ?_
          rotate_left
          · intro w'
            go_simp
            with_reducible rfl
          rotate_left
          · simp only [Act.put, List.setIfInBounds_toArray, List.set_cons_zero, List.set_cons_succ, i64_w, i32_w]
            rfl
          refine pure_ (i := 11) (N := some 64) (v := ?_) (a' := ?_) #[true, true, true, true, true, true, true, true, true, true, true, true, false, false, false, false, false] rfl rfl (any_of HT_.out (by kernel_rfl)) (fun _ _ _ h => h) (Or.inl ⟨by rfl, ?_⟩) ?_ ?_
          rotate_left
          · intro w'
            go_simp
            with_reducible rfl
          rotate_left
          · simp only [Act.put, List.setIfInBounds_toArray, List.set_cons_zero, List.set_cons_succ, i64_w, i32_w]
            rfl
          refine one_ (i := 12) (N := some 65) #[true, true, true, true, true, true, true, true, true, true, true, true, true, false, false, false, false] rfl rfl (one_of HT_.out (by kernel_rfl)) (by decide) (fun K hK => ?_)
          refine goes_ Tryd.func9 (by kernel_rfl) rfl #[.int .i64 (wrap64 ((wrap64 (Int.tdiv a0_0 (wrap64 (t300)))) * (wrap64 (Int.tdiv a1_0 (wrap64 (t303)))))), .int .i64 (wrap64 ((wrap64 (Int.tdiv a0_1 (wrap64 (t303)))) * (wrap64 (Int.tdiv a1_1 (wrap64 (t300))))))] (by rfl) rfl rfl (by (try simp only [List.map_toArray, List.map_cons, List.map_nil]); first | done | rfl | (simp only [List.length_drop, List.length_take]; rfl)) ?_
          with_reducible refine (ratio_New.calls k (wrap64 ((wrap64 (Int.tdiv a0_0 (wrap64 (t300)))) * (wrap64 (Int.tdiv a1_0 (wrap64 (t303)))))) (wrap64 ((wrap64 (Int.tdiv a0_1 (wrap64 (t303)))) * (wrap64 (Int.tdiv a1_1 (wrap64 (t300)))))) t306 t307 t308 _ A14.out).mono ?_
          rintro e w27 ⟨rfl, hb⟩
          refine ⟨_, rfl, ?_⟩
          have n0_ := Aside0.mk (blk_below (g := gb294) (o := .cells #[.int .i64 a0_0, .int .i64 a0_1] 23 (0, 0)) (by (with_reducible repeat (first | refine blk_drewN ?_ _ | refine blk_drew ?_ | refine blk_alloc ?_ _)); exact BK294.out) hb)
          have n1_ := Aside0.mk (blk_below (g := gb295) (o := .cells #[.int .i64 a1_0, .int .i64 a1_1] 23 (0, 0)) (by (with_reducible repeat (first | refine blk_drewN ?_ _ | refine blk_drew ?_ | refine blk_alloc ?_ _)); exact BK295.out) hb)
          have n2_ := Aside0.mk (blk_below (g := gb296) (o := .cells #[.int .i64 0, .int .i64 0] 23 (0, 0)) (by (with_reducible repeat (first | refine blk_drewN ?_ _ | refine blk_drew ?_ | refine blk_alloc ?_ _)); exact BK296.out) hb)
          have n3_ := Aside0.mk (below_step (by repeat (first | (with_reducible first | exact HB.out | apply below_alloc | apply pw_below_drewN | apply below_drew1 | refine below_set ?_ GE294.out | refine below_set ?_ GE295.out | refine below_set ?_ GE296.out) | exact HB.out)) hb)
          clear BK294
          clear BK295
          clear BK296
          clear HB
          have BK294 := n0_
          have BK295 := n1_
          have BK296 := n2_
          have HB := n3_
          clear n0_ n1_ n2_ n3_
          (try clear hb)
          (try clear hb2)
          (try clear hk)
          (try clear hi)
          refine hK.out _ _ ⟨(blk_cell BK294.out 0).trans rfl, (blk_cell BK294.out 1).trans rfl, (blk_cell BK295.out 0).trans rfl, (blk_cell BK295.out 1).trans rfl⟩ (fun hHeld => ?_)
          clear hK K
          refine norm_ (a' := ?_) ?_ ?_
          rotate_left
          · show Act.put _ (some 65) _ = _
            simp only [Act.put, List.setIfInBounds_toArray, List.set_cons_zero, List.set_cons_succ, i64_w, i32_w]
            rfl
          refine pure_ (i := 13) (N := some 66) (v := ?_) (a' := ?_) #[true, true, true, true, true, true, true, true, true, true, true, true, true, true, false, false, false] rfl rfl (any_of HT_.out (by kernel_rfl)) (fun _ _ _ h => h) (Or.inl ⟨by rfl, ?_⟩) ?_ ?_
          rotate_left
          · intro w'
            go_simp
            with_reducible rfl
          rotate_left
          · simp only [Act.put, List.setIfInBounds_toArray, List.set_cons_zero, List.set_cons_succ, i64_w, i32_w]
            rfl
          refine pure_ (i := 14) (N := some 67) (v := ?_) (a' := ?_) #[true, true, true, true, true, true, true, true, true, true, true, true, true, true, true, false, false] rfl rfl (any_of HT_.out (by kernel_rfl)) (fun _ _ _ h => h) (Or.inl ⟨by rfl, ?_⟩) ?_ ?_
          rotate_left
          · intro w'
            go_simp
            with_reducible rfl
          rotate_left
          · simp only [Act.put, List.setIfInBounds_toArray, List.set_cons_zero, List.set_cons_succ, i64_w, i32_w]
            rfl
          refine one_ (i := 15) (N := none) #[true, true, true, true, true, true, true, true, true, true, true, true, true, true, true, true, false] rfl rfl (one_of HT_.out (by kernel_rfl)) (by decide) (fun K hK => ?_)
          have hs28 : w27.cell? ⟨gb296, 0, none⟩ = some (.int .i64 0) := (blk_cell BK296.out 0).trans rfl
          have hfs28 := blk_frozen BK296.out 0
          have hns28_0 := NB294_296.out
          have hns28_1 := NB295_296.out
          have hms28_0 := NB296_294.out
          have hms28_1 := NB296_295.out
          have hs29 : w27.cell? ⟨gb296, 1, none⟩ = some (.int .i64 0) := (blk_cell BK296.out 1).trans rfl
          have hfs29 := blk_frozen BK296.out 1
          have hns29_0 := NB294_296.out
          have hns29_1 := NB295_296.out
          have hms29_0 := NB296_294.out
          have hms29_1 := NB296_295.out
          refine skip_ (w1 := ?_) (by rfl) rfl ?_ ?_
          rotate_left
          · go_simp
            rfl
          refine hK.out _ _ ⟨((cell_far (p := ⟨gb296, _, none⟩) NB294_296.out _).trans (((cell_far (p := ⟨gb296, _, none⟩) NB294_296.out _).trans (hHeld.1)))), ((cell_far (p := ⟨gb296, _, none⟩) NB294_296.out _).trans (((cell_far (p := ⟨gb296, _, none⟩) NB294_296.out _).trans (hHeld.2.1)))), ((cell_far (p := ⟨gb296, _, none⟩) NB295_296.out _).trans (((cell_far (p := ⟨gb296, _, none⟩) NB295_296.out _).trans (hHeld.2.2.1)))), ((cell_far (p := ⟨gb296, _, none⟩) NB295_296.out _).trans (((cell_far (p := ⟨gb296, _, none⟩) NB295_296.out _).trans (hHeld.2.2.2))))⟩ (fun hHeld => ?_)
          clear hK K
          refine pure_ (i := 16) (N := some 5) (v := ?_) (a' := ?_) #[true, true, true, true, true, true, true, true, true, true, true, true, true, true, true, true, true] rfl rfl (any_of HT_.out (by kernel_rfl)) (fun _ _ _ h => h) (Or.inl ⟨by rfl, ?_⟩) ?_ ?_
          rotate_left
          · intro w'
            go_simp
            with_reducible rfl
          rotate_left
          · simp only [Act.put, List.setIfInBounds_toArray, List.set_cons_zero, List.set_cons_succ, i64_w, i32_w]
            rfl
          refine done_ (done_of HT_.out (by kernel_rfl)) ?_
          try go_wp2
          refine bodyPost_ret (results_ct rfl _ _ gb296 23 #[.int .i64 t306, .int .i64 t307] (0, 0) _ rfl (by (with_reducible repeat (first | refine blk_drewN ?_ _ | refine blk_drew ?_ | refine blk_alloc ?_ _)); refine blk_put (cs := #[.int .i64 t306, .int .i64 0]) ?_ 1 _ rfl; (with_reducible repeat (first | refine blk_drewN ?_ _ | refine blk_drew ?_ | refine blk_alloc ?_ _)); refine blk_put (cs := #[.int .i64 0, .int .i64 0]) ?_ 0 _ rfl; (with_reducible repeat (first | refine blk_drewN ?_ _ | refine blk_drew ?_ | refine blk_alloc ?_ _)); exact BK296.out) Tryd.underlying23 rfl (by kernel_rfl)) rfl ?_
          exact ⟨by first | rfl | (simp [errW_none, errW_some] <;> rfl) | (simp [*, errW_none, errW_some] <;> rfl), by repeat (first | (with_reducible first | exact HB.out | apply below_alloc | apply pw_below_drewN | apply below_drew1 | refine below_set ?_ GE294.out | refine below_set ?_ GE295.out | refine below_set ?_ GE296.out) | exact HB.out)⟩
        · rw [if_neg c13] at H
          have c13b0 : ((wrap64 (Int.tdiv a0_0 (wrap64 (t300)))) == 0) = false := beq_eq_false_iff_ne.mpr c13
          have c13b1 : ((wrap64 (Int.tdiv a0_0 (wrap64 (t300)))) != 0) = true := bne_iff_ne.mpr c13
          replace H := Option.bind_eq_some_iff.mp H
          obtain ⟨t304, A300, H⟩ := H
          replace H : ((ratio_size.f (wrap64 (Int.tdiv a0_0 (wrap64 (t300))))).bind fun t305 => (if t305 = 0 then (none) else (if t304 > (IntKind.u64.wrap (Int.tdiv (1000000000000 : Int) t305)) then (some (0, 0, 4)) else ((ratio_New.f k (wrap64 ((wrap64 (Int.tdiv a0_0 (wrap64 (t300)))) * (wrap64 (Int.tdiv a1_0 (wrap64 (t303)))))) (wrap64 ((wrap64 (Int.tdiv a0_1 (wrap64 (t303)))) * (wrap64 (Int.tdiv a1_1 (wrap64 (t300))))))).bind fun bt309 => (some (bt309.1, bt309.2.1, bt309.2.2)))))) = some (r1, r2, r3) := H
          have A30 := Aside0.mk A300
          clear A300
          replace H := Option.bind_eq_some_iff.mp H
          obtain ⟨t305, A310, H⟩ := H
          replace H : (if t305 = 0 then (none) else (if t304 > (IntKind.u64.wrap (Int.tdiv (1000000000000 : Int) t305)) then (some (0, 0, 4)) else ((ratio_New.f k (wrap64 ((wrap64 (Int.tdiv a0_0 (wrap64 (t300)))) * (wrap64 (Int.tdiv a1_0 (wrap64 (t303)))))) (wrap64 ((wrap64 (Int.tdiv a0_1 (wrap64 (t303)))) * (wrap64 (Int.tdiv a1_1 (wrap64 (t300))))))).bind fun bt309 => (some (bt309.1, bt309.2.1, bt309.2.2))))) = some (r1, r2, r3) := H
          have A31 := Aside0.mk A310
          clear A310
          by_cases c32 : t305 = 0
          · rw [if_pos c32] at H
            exact absurd H (by simp)
          · rw [if_neg c32] at H
            have c32b0 : (t305 == 0) = false := beq_eq_false_iff_ne.mpr c32
            have c32b1 : (t305 != 0) = true := bne_iff_ne.mpr c32
            by_cases c33 : t304 > (IntKind.u64.wrap (Int.tdiv (1000000000000 : Int) t305))
            · rw [if_pos c33] at H
              have c33b0 : decide ((IntKind.u64.wrap (Int.tdiv (1000000000000 : Int) t305)) < t304) = true := decide_eq_true c33
              clear c33
              simp only [Option.some.injEq, Prod.mk.injEq] at H
              obtain ⟨rfl, rfl, rfl⟩ := H
              go_enter Tryd.func25, Tryd.ntmps25
              try go_wp2_with (first | ((with_reducible refine gate_dst (N := 2) rfl ?_); refine box_event ?hg (N := 2) ?hd (cs := #[.int .i64 a0_0, .int .i64 a0_1]) (t := 23) ?hr ?_; (case hd => rfl); (case hg => rfl); (case hr => first | (go_simp; done) | (go_simp; rfl)); intro gb294 hg w34 hbox hb; have n0_ := Aside0.mk (below_step (by repeat (first | (with_reducible first | exact HB.out | apply below_alloc | apply pw_below_drewN | apply below_drew1) | exact HB.out)) hb); have n1_ := Aside0.mk (hbox); have n2_ := Aside0.mk ((by rw [hg]; exact (below_size (by repeat (first | (with_reducible first | exact HB.out | apply below_alloc | apply pw_below_drewN | apply below_drew1) | exact HB.out))) : w.heap.size ≤ gb294)); have n3_ := Aside0.mk ((by rw [hg]; exact (below_size (by repeat (first | (with_reducible first | exact HB.out | apply below_alloc | apply pw_below_drewN | apply below_drew1) | exact HB.out))) : w.heap.size ≤ gb294)); clear HB; have HB := n0_; have BK294 := n1_; have GW294 := n2_; have GE294 := n3_; clear n0_ n1_ n2_ n3_; clear hb hbox hg) | ((with_reducible refine gate_dst (N := 3) rfl ?_); refine box_event ?hg (N := 3) ?hd (cs := #[.int .i64 a1_0, .int .i64 a1_1]) (t := 23) ?hr ?_; (case hd => rfl); (case hg => rfl); (case hr => first | (go_simp; done) | (go_simp; rfl)); intro gb295 hg w35 hbox hb; have n0_ := Aside0.mk (blk_below (g := gb294) (o := .cells #[.int .i64 a0_0, .int .i64 a0_1] 23 (0, 0)) (by (with_reducible repeat (first | refine blk_drewN ?_ _ | refine blk_drew ?_ | refine blk_alloc ?_ _)); exact BK294.out) hb); have n1_ := Aside0.mk (below_step (by repeat (first | (with_reducible first | exact HB.out | apply below_alloc | apply pw_below_drewN | apply below_drew1 | refine below_set ?_ GE294.out) | exact HB.out)) hb); have n2_ := Aside0.mk (hbox); have n3_ := Aside0.mk ((by rw [hg]; exact (below_size (by repeat (first | (with_reducible first | exact HB.out | apply below_alloc | apply pw_below_drewN | apply below_drew1 | refine below_set ?_ GE294.out) | exact HB.out))) : w.heap.size ≤ gb295)); have n4_ := Aside0.mk ((by rw [hg]; exact (below_size (by repeat (first | (with_reducible first | exact HB.out | apply below_alloc | apply pw_below_drewN | apply below_drew1 | refine below_set ?_ GE294.out) | exact HB.out))) : w.heap.size ≤ gb295)); have n5_ := Aside0.mk ((by rw [hg]; exact Nat.ne_of_lt (blk_lt (g := gb294) (o := .cells #[.int .i64 a0_0, .int .i64 a0_1] 23 (0, 0)) (by (with_reducible repeat (first | refine blk_drewN ?_ _ | refine blk_drew ?_ | refine blk_alloc ?_ _)); exact BK294.out)) : gb294 ≠ gb295)); have n6_ := Aside0.mk ((by rw [hg]; exact Nat.ne_of_gt (blk_lt (g := gb294) (o := .cells #[.int .i64 a0_0, .int .i64 a0_1] 23 (0, 0)) (by (with_reducible repeat (first | refine blk_drewN ?_ _ | refine blk_drew ?_ | refine blk_alloc ?_ _)); exact BK294.out)) : gb295 ≠ gb294)); clear BK294; clear HB; have BK294 := n0_; have HB := n1_; have BK295 := n2_; have GW295 := n3_; have GE295 := n4_; have NB294_295 := n5_; have NB295_294 := n6_; clear n0_ n1_ n2_ n3_ n4_ n5_ n6_; clear hb hbox hg) | ((with_reducible refine gate_dst (N := 4) rfl ?_); refine box_event ?hg (N := 4) ?hd (cs := #[.int .i64 0, .int .i64 0]) (t := 23) ?hr ?_; (case hd => rfl); (case hg => rfl); (case hr => first | (go_simp; done) | (go_simp; rfl)); intro gb296 hg w36 hbox hb; have n0_ := Aside0.mk (blk_below (g := gb294) (o := .cells #[.int .i64 a0_0, .int .i64 a0_1] 23 (0, 0)) (by (with_reducible repeat (first | refine blk_drewN ?_ _ | refine blk_drew ?_ | refine blk_alloc ?_ _)); exact BK294.out) hb); have n1_ := Aside0.mk (blk_below (g := gb295) (o := .cells #[.int .i64 a1_0, .int .i64 a1_1] 23 (0, 0)) (by (with_reducible repeat (first | refine blk_drewN ?_ _ | refine blk_drew ?_ | refine blk_alloc ?_ _)); exact BK295.out) hb); have n2_ := Aside0.mk (below_step (by repeat (first | (with_reducible first | exact HB.out | apply below_alloc | apply pw_below_drewN | apply below_drew1 | refine below_set ?_ GE294.out | refine below_set ?_ GE295.out) | exact HB.out)) hb); have n3_ := Aside0.mk (hbox); have n4_ := Aside0.mk ((by rw [hg]; exact (below_size (by repeat (first | (with_reducible first | exact HB.out | apply below_alloc | apply pw_below_drewN | apply below_drew1 | refine below_set ?_ GE294.out | refine below_set ?_ GE295.out) | exact HB.out))) : w.heap.size ≤ gb296)); have n5_ := Aside0.mk ((by rw [hg]; exact (below_size (by repeat (first | (with_reducible first | exact HB.out | apply below_alloc | apply pw_below_drewN | apply below_drew1 | refine below_set ?_ GE294.out | refine below_set ?_ GE295.out) | exact HB.out))) : w.heap.size ≤ gb296)); have n6_ := Aside0.mk ((by rw [hg]; exact Nat.ne_of_lt (blk_lt (g := gb294) (o := .cells #[.int .i64 a0_0, .int .i64 a0_1] 23 (0, 0)) (by (with_reducible repeat (first | refine blk_drewN ?_ _ | refine blk_drew ?_ | refine blk_alloc ?_ _)); exact BK294.out)) : gb294 ≠ gb296)); have n7_ := Aside0.mk ((by rw [hg]; exact Nat.ne_of_gt (blk_lt (g := gb294) (o := .cells #[.int .i64 a0_0, .int .i64 a0_1] 23 (0, 0)) (by (with_reducible repeat (first | refine blk_drewN ?_ _ | refine blk_drew ?_ | refine blk_alloc ?_ _)); exact BK294.out)) : gb296 ≠ gb294)); have n8_ := Aside0.mk ((by rw [hg]; exact Nat.ne_of_lt (blk_lt (g := gb295) (o := .cells #[.int .i64 a1_0, .int .i64 a1_1] 23 (0, 0)) (by (with_reducible repeat (first | refine blk_drewN ?_ _ | refine blk_drew ?_ | refine blk_alloc ?_ _)); exact BK295.out)) : gb295 ≠ gb296)); have n9_ := Aside0.mk ((by rw [hg]; exact Nat.ne_of_gt (blk_lt (g := gb295) (o := .cells #[.int .i64 a1_0, .int .i64 a1_1] 23 (0, 0)) (by (with_reducible repeat (first | refine blk_drewN ?_ _ | refine blk_drew ?_ | refine blk_alloc ?_ _)); exact BK295.out)) : gb296 ≠ gb295)); clear BK294; clear BK295; clear HB; have BK294 := n0_; have BK295 := n1_; have HB := n2_; have BK296 := n3_; have GW296 := n4_; have GE296 := n5_; have NB294_296 := n6_; have NB296_294 := n7_; have NB295_296 := n8_; have NB296_295 := n9_; clear n0_ n1_ n2_ n3_ n4_ n5_ n6_ n7_ n8_ n9_; clear hb hbox hg; have hnb37 := NB294_295.out; have hnc37 := NB295_294.out; have hnb38 := NB294_296.out; have hnc38 := NB296_294.out; have hcz39_0 : w36.cell? ⟨gb294, 0, none⟩ = some (.int .i64 a0_0) := (blk_cell BK294.out 0).trans rfl; have hcz39_1 : w36.cell? ⟨gb294, 1, none⟩ = some (.int .i64 a0_1) := (blk_cell BK294.out 1).trans rfl; have hfz39_0 := blk_frozen BK294.out 0; have hfz39_1 := blk_frozen BK294.out 1; have hnb40 := NB295_296.out; have hnc40 := NB296_295.out; have hcz41_0 : w36.cell? ⟨gb295, 0, none⟩ = some (.int .i64 a1_0) := (blk_cell BK295.out 0).trans rfl; have hcz41_1 : w36.cell? ⟨gb295, 1, none⟩ = some (.int .i64 a1_1) := (blk_cell BK295.out 1).trans rfl; have hfz41_0 := blk_frozen BK295.out 0; have hfz41_1 := blk_frozen BK295.out 1) | ((with_reducible refine gate_callee (f := 40) rfl ?_); refine goesL_ (some 13) rfl rfl Tryd.func40 (by kernel_rfl) rfl #[.agg #[.int .i64 a0_0, .int .i64 a0_1], .agg #[.int .i64 a1_0, .int .i64 a1_1]] rfl (by (try simp only [List.map_toArray, List.map_cons, List.map_nil]); first | done | rfl | (simp only [List.length_drop, List.length_take]; rfl)) ?_; (with_reducible refine (ratio_both.calls k a0_0 a0_1 a1_0 a1_1 t297 _ A3.out).mono ?_); rintro e w42 ⟨rfl, hb⟩; refine ⟨_, rfl, ?_⟩; have n0_ := Aside0.mk (blk_below (g := gb294) (o := .cells #[.int .i64 a0_0, .int .i64 a0_1] 23 (0, 0)) (by (with_reducible repeat (first | refine blk_drewN ?_ _ | refine blk_drew ?_ | refine blk_alloc ?_ _)); exact BK294.out) hb); have n1_ := Aside0.mk (blk_below (g := gb295) (o := .cells #[.int .i64 a1_0, .int .i64 a1_1] 23 (0, 0)) (by (with_reducible repeat (first | refine blk_drewN ?_ _ | refine blk_drew ?_ | refine blk_alloc ?_ _)); exact BK295.out) hb); have n2_ := Aside0.mk (blk_below (g := gb296) (o := .cells #[.int .i64 0, .int .i64 0] 23 (0, 0)) (by (with_reducible repeat (first | refine blk_drewN ?_ _ | refine blk_drew ?_ | refine blk_alloc ?_ _)); exact BK296.out) hb); have n3_ := Aside0.mk (below_step (by repeat (first | (with_reducible first | exact HB.out | apply below_alloc | apply pw_below_drewN | apply below_drew1 | refine below_set ?_ GE294.out | refine below_set ?_ GE295.out | refine below_set ?_ GE296.out) | exact HB.out)) hb); clear BK294; clear BK295; clear BK296; clear HB; have BK294 := n0_; have BK295 := n1_; have BK296 := n2_; have HB := n3_; clear n0_ n1_ n2_ n3_; (try clear hb); (try clear hb2); (try clear hk); (try clear hi)))
              have n0_ := Aside0.mk (blk_drew BK294.out)
              have n1_ := Aside0.mk (blk_drew BK295.out)
              have n2_ := Aside0.mk (blk_drew BK296.out)
              have n3_ := Aside0.mk (below_drew1 HB.out)
              clear BK294
              clear BK295
              clear BK296
              clear HB
              have BK294 := n0_
              have BK295 := n1_
              have BK296 := n2_
              have HB := n3_
              clear n0_ n1_ n2_ n3_
              refine start_ (n := 18) (S := fun w' => w'.cell? ⟨gb294, 0, none⟩ = some (.int .i64 a0_0) ∧ w'.cell? ⟨gb294, 1, none⟩ = some (.int .i64 a0_1) ∧ w'.cell? ⟨gb295, 0, none⟩ = some (.int .i64 a1_0) ∧ w'.cell? ⟨gb295, 1, none⟩ = some (.int .i64 a1_1)) (ds := []) #[false, false, false, false, false, false, false, false, false, false, false, false, false, false, false, false, false, false] (by kernel_rfl) rfl rfl ⟨(blk_cell BK294.out 0).trans rfl, (blk_cell BK294.out 1).trans rfl, (blk_cell BK295.out 0).trans rfl, (blk_cell BK295.out 1).trans rfl⟩ (fun hHeld => ?_); refine with_tabW ratio_Mul.tab4 ratio_Mul.bits4 (fun HT_ HW_ => ?_)
              generalize w42.drew = w43 at BK294 BK295 BK296 HB hHeld ⊢
              refine pure_ (i := 0) (N := some 18) (v := ?_) (a' := ?_) #[true, false, false, false, false, false, false, false, false, false, false, false, false, false, false, false, false, false] rfl rfl (any_of HT_.out (by kernel_rfl)) (fun _ _ _ h => h) (Or.inl ⟨by rfl, ?_⟩) ?_ ?_
              rotate_left
              · intro w'
                go_simp
                with_reducible rfl
              rotate_left
              · simp only [Act.put, List.setIfInBounds_toArray, List.set_cons_zero, List.set_cons_succ, i64_w, i32_w]
                rfl
              refine pure_ (i := 3) (N := some 21) (v := ?_) (a' := ?_) #[true, false, false, true, false, false, false, false, false, false, false, false, false, false, false, false, false, false] rfl rfl (any_of HT_.out (by kernel_rfl)) (fun _ _ _ h => h) (Or.inl ⟨by rfl, ?_⟩) ?_ ?_
              rotate_left
              · intro w'
                go_simp
                with_reducible rfl
              rotate_left
              · simp only [Act.put, List.setIfInBounds_toArray, List.set_cons_zero, List.set_cons_succ, i64_w, i32_w]
                rfl
              refine pure_ (i := 8) (N := some 26) (v := ?_) (a' := ?_) #[true, false, false, true, false, false, false, false, true, false, false, false, false, false, false, false, false, false] rfl rfl (any_of HT_.out (by kernel_rfl)) (fun _ _ _ h => h) (Or.inl ⟨by rfl, ?_⟩) ?_ ?_
              rotate_left
              · intro w'
                go_simp
                with_reducible rfl
              rotate_left
              · simp only [Act.put, List.setIfInBounds_toArray, List.set_cons_zero, List.set_cons_succ, i64_w, i32_w]
                rfl
              refine pure_ (i := 11) (N := some 29) (v := ?_) (a' := ?_) #[true, false, false, true, false, false, false, false, true, false, false, true, false, false, false, false, false, false] rfl rfl (any_of HT_.out (by kernel_rfl)) (fun _ _ _ h => h) (Or.inl ⟨by rfl, ?_⟩) ?_ ?_
              rotate_left
              · intro w'
                go_simp
                with_reducible rfl
              rotate_left
              · simp only [Act.put, List.setIfInBounds_toArray, List.set_cons_zero, List.set_cons_succ, i64_w, i32_w]
                rfl
              refine take_ (i := 1) (N := some 19) (v := ?_) (a' := ?_) #[true, true, false, true, false, false, false, false, true, false, false, true, false, false, false, false, false, false] rfl rfl (take_ofW HT_.out HW_.out (by kernel_rfl)) (fun _ _ _ h => h) (Or.inl ⟨by rfl, ?_⟩) hHeld ?_ ?_
              rotate_left
              · rintro w' ⟨s0, s1, s2, s3⟩
                go_simp
                with_reducible rfl
              rotate_left
              · simp only [Act.put, List.setIfInBounds_toArray, List.set_cons_zero, List.set_cons_succ, i64_w, i32_w]
                rfl
              refine take_ (i := 4) (N := some 22) (v := ?_) (a' := ?_) #[true, true, false, true, true, false, false, false, true, false, false, true, false, false, false, false, false, false] rfl rfl (take_ofW HT_.out HW_.out (by kernel_rfl)) (fun _ _ _ h => h) (Or.inl ⟨by rfl, ?_⟩) hHeld ?_ ?_
              rotate_left
              · rintro w' ⟨s0, s1, s2, s3⟩
                go_simp
                with_reducible rfl
              rotate_left
              · simp only [Act.put, List.setIfInBounds_toArray, List.set_cons_zero, List.set_cons_succ, i64_w, i32_w]
                rfl
              refine take_ (i := 9) (N := some 27) (v := ?_) (a' := ?_) #[true, true, false, true, true, false, false, false, true, true, false, true, false, false, false, false, false, false] rfl rfl (take_ofW HT_.out HW_.out (by kernel_rfl)) (fun _ _ _ h => h) (Or.inl ⟨by rfl, ?_⟩) hHeld ?_ ?_
              rotate_left
              · rintro w' ⟨s0, s1, s2, s3⟩
                go_simp
                with_reducible rfl
              rotate_left
              · simp only [Act.put, List.setIfInBounds_toArray, List.set_cons_zero, List.set_cons_succ, i64_w, i32_w]
                rfl
              refine take_ (i := 12) (N := some 30) (v := ?_) (a' := ?_) #[true, true, false, true, true, false, false, false, true, true, false, true, true, false, false, false, false, false] rfl rfl (take_ofW HT_.out HW_.out (by kernel_rfl)) (fun _ _ _ h => h) (Or.inl ⟨by rfl, ?_⟩) hHeld ?_ ?_
              rotate_left
              · rintro w' ⟨s0, s1, s2, s3⟩
                go_simp
                with_reducible rfl
              rotate_left
              · simp only [Act.put, List.setIfInBounds_toArray, List.set_cons_zero, List.set_cons_succ, i64_w, i32_w]
                rfl
              refine one_ (i := 2) (N := some 20) #[true, true, true, true, true, false, false, false, true, true, false, true, true, false, false, false, false, false] rfl rfl (one_of HT_.out (by kernel_rfl)) (by decide) (fun K hK => ?_)
              refine goes_ Tryd.func30 (by kernel_rfl) rfl #[.int .i64 a0_0] (by rfl) rfl rfl (by (try simp only [List.map_toArray, List.map_cons, List.map_nil]); first | done | rfl | (simp only [List.length_drop, List.length_take]; rfl)) ?_
              with_reducible refine (ratio_size.calls a0_0 t298 _ A5.out).mono ?_
              rintro e w' ⟨rfl, ⟨nd, rfl⟩⟩
              refine ⟨_, rfl, ?_⟩
              refine hK.out _ _ ⟨(blk_cell BK294.out 0).trans rfl, (blk_cell BK294.out 1).trans rfl, (blk_cell BK295.out 0).trans rfl, (blk_cell BK295.out 1).trans rfl⟩ (fun hHeld => ?_)
              clear hK K
              refine norm_ (a' := ?_) ?_ ?_
              rotate_left
              · show Act.put _ (some 20) _ = _
                simp only [Act.put, List.setIfInBounds_toArray, List.set_cons_zero, List.set_cons_succ, i64_w, i32_w]
                rfl
              refine one_ (i := 5) (N := some 23) #[true, true, true, true, true, true, false, false, true, true, false, true, true, false, false, false, false, false] rfl rfl (one_of HT_.out (by kernel_rfl)) (by decide) (fun K hK => ?_)
              refine goes_ Tryd.func30 (by kernel_rfl) rfl #[.int .i64 a1_1] (by rfl) rfl rfl (by (try simp only [List.map_toArray, List.map_cons, List.map_nil]); first | done | rfl | (simp only [List.length_drop, List.length_take]; rfl)) ?_
              with_reducible refine (ratio_size.calls a1_1 t299 _ A6.out).mono ?_
              rintro e w' ⟨rfl, ⟨nd, rfl⟩⟩
              refine ⟨_, rfl, ?_⟩
              refine hK.out _ _ ⟨(blk_cell BK294.out 0).trans rfl, (blk_cell BK294.out 1).trans rfl, (blk_cell BK295.out 0).trans rfl, (blk_cell BK295.out 1).trans rfl⟩ (fun hHeld => ?_)
              clear hK K
              refine norm_ (a' := ?_) ?_ ?_
              rotate_left
              · show Act.put _ (some 23) _ = _
                simp only [Act.put, List.setIfInBounds_toArray, List.set_cons_zero, List.set_cons_succ, i64_w, i32_w]
                rfl
              refine one_ (i := 6) (N := some 24) #[true, true, true, true, true, true, true, false, true, true, false, true, true, false, false, false, false, false] rfl rfl (one_of HT_.out (by kernel_rfl)) (by decide) (fun K hK => ?_)
              refine goes_ Tryd.func31 (by kernel_rfl) rfl #[.int .u64 t298, .int .u64 t299] (by rfl) rfl rfl (by (try simp only [List.map_toArray, List.map_cons, List.map_nil]); first | done | rfl | (simp only [List.length_drop, List.length_take]; rfl)) ?_
              with_reducible refine (ratio_gcd.calls k t298 t299 t300 _ A7.out).mono ?_
              rintro e w' ⟨rfl, ⟨nd, rfl⟩⟩
              refine ⟨_, rfl, ?_⟩
              refine hK.out _ _ ⟨(blk_cell BK294.out 0).trans rfl, (blk_cell BK294.out 1).trans rfl, (blk_cell BK295.out 0).trans rfl, (blk_cell BK295.out 1).trans rfl⟩ (fun hHeld => ?_)
              clear hK K
              refine norm_ (a' := ?_) ?_ ?_
              rotate_left
              · show Act.put _ (some 24) _ = _
                simp only [Act.put, List.setIfInBounds_toArray, List.set_cons_zero, List.set_cons_succ, i64_w, i32_w]
                rfl
              refine pure_ (i := 7) (N := some 25) (v := ?_) (a' := ?_) #[true, true, true, true, true, true, true, true, true, true, false, true, true, false, false, false, false, false] rfl rfl (any_of HT_.out (by kernel_rfl)) (fun _ _ _ h => h) (Or.inl ⟨by rfl, ?_⟩) ?_ ?_
              rotate_left
              · intro w'
                go_simp
                with_reducible rfl
              rotate_left
              · simp only [Act.put, List.setIfInBounds_toArray, List.set_cons_zero, List.set_cons_succ, i64_w, i32_w]
                rfl
              refine one_ (i := 10) (N := some 28) #[true, true, true, true, true, true, true, true, true, true, true, true, true, false, false, false, false, false] rfl rfl (one_of HT_.out (by kernel_rfl)) (by decide) (fun K hK => ?_)
              refine goes_ Tryd.func30 (by kernel_rfl) rfl #[.int .i64 a1_0] (by rfl) rfl rfl (by (try simp only [List.map_toArray, List.map_cons, List.map_nil]); first | done | rfl | (simp only [List.length_drop, List.length_take]; rfl)) ?_
              with_reducible refine (ratio_size.calls a1_0 t301 _ A8.out).mono ?_
              rintro e w' ⟨rfl, ⟨nd, rfl⟩⟩
              refine ⟨_, rfl, ?_⟩
              refine hK.out _ _ ⟨(blk_cell BK294.out 0).trans rfl, (blk_cell BK294.out 1).trans rfl, (blk_cell BK295.out 0).trans rfl, (blk_cell BK295.out 1).trans rfl⟩ (fun hHeld => ?_)
              clear hK K
              refine norm_ (a' := ?_) ?_ ?_
              rotate_left
              · show Act.put _ (some 28) _ = _
                simp only [Act.put, List.setIfInBounds_toArray, List.set_cons_zero, List.set_cons_succ, i64_w, i32_w]
                rfl
              refine one_ (i := 13) (N := some 31) #[true, true, true, true, true, true, true, true, true, true, true, true, true, true, false, false, false, false] rfl rfl (one_of HT_.out (by kernel_rfl)) (by decide) (fun K hK => ?_)
              refine goes_ Tryd.func30 (by kernel_rfl) rfl #[.int .i64 a0_1] (by rfl) rfl rfl (by (try simp only [List.map_toArray, List.map_cons, List.map_nil]); first | done | rfl | (simp only [List.length_drop, List.length_take]; rfl)) ?_
              with_reducible refine (ratio_size.calls a0_1 t302 _ A9.out).mono ?_
              rintro e w' ⟨rfl, ⟨nd, rfl⟩⟩
              refine ⟨_, rfl, ?_⟩
              refine hK.out _ _ ⟨(blk_cell BK294.out 0).trans rfl, (blk_cell BK294.out 1).trans rfl, (blk_cell BK295.out 0).trans rfl, (blk_cell BK295.out 1).trans rfl⟩ (fun hHeld => ?_)
              clear hK K
              refine norm_ (a' := ?_) ?_ ?_
              rotate_left
              · show Act.put _ (some 31) _ = _
                simp only [Act.put, List.setIfInBounds_toArray, List.set_cons_zero, List.set_cons_succ, i64_w, i32_w]
                rfl
              refine one_ (i := 14) (N := some 32) #[true, true, true, true, true, true, true, true, true, true, true, true, true, true, true, false, false, false] rfl rfl (one_of HT_.out (by kernel_rfl)) (by decide) (fun K hK => ?_)
              refine goes_ Tryd.func31 (by kernel_rfl) rfl #[.int .u64 t301, .int .u64 t302] (by rfl) rfl rfl (by (try simp only [List.map_toArray, List.map_cons, List.map_nil]); first | done | rfl | (simp only [List.length_drop, List.length_take]; rfl)) ?_
              with_reducible refine (ratio_gcd.calls k t301 t302 t303 _ A10.out).mono ?_
              rintro e w' ⟨rfl, ⟨nd, rfl⟩⟩
              refine ⟨_, rfl, ?_⟩
              refine hK.out _ _ ⟨(blk_cell BK294.out 0).trans rfl, (blk_cell BK294.out 1).trans rfl, (blk_cell BK295.out 0).trans rfl, (blk_cell BK295.out 1).trans rfl⟩ (fun hHeld => ?_)
              clear hK K
              refine norm_ (a' := ?_) ?_ ?_
              rotate_left
              · show Act.put _ (some 32) _ = _
                simp only [Act.put, List.setIfInBounds_toArray, List.set_cons_zero, List.set_cons_succ, i64_w, i32_w]
                rfl
              refine pure_ (i := 15) (N := some 33) (v := ?_) (a' := ?_) #[true, true, true, true, true, true, true, true, true, true, true, true, true, true, true, true, false, false] rfl rfl (any_of HT_.out (by kernel_rfl)) (fun _ _ _ h => h) (Or.inl ⟨by rfl, ?_⟩) ?_ ?_
              rotate_left
              · intro w'
                go_simp
                with_reducible rfl
              rotate_left
              · simp only [Act.put, List.setIfInBounds_toArray, List.set_cons_zero, List.set_cons_succ, i64_w, i32_w]
                rfl
              refine pure_ (i := 16) (N := some 7) (v := ?_) (a' := ?_) #[true, true, true, true, true, true, true, true, true, true, true, true, true, true, true, true, true, false] rfl rfl (any_of HT_.out (by kernel_rfl)) (fun _ _ _ h => h) (Or.inl ⟨by rfl, ?_⟩) ?_ ?_
              rotate_left
              · intro w'
                go_simp
                with_reducible rfl
              rotate_left
              · simp only [Act.put, List.setIfInBounds_toArray, List.set_cons_zero, List.set_cons_succ, i64_w, i32_w]
                rfl
              refine pure_ (i := 17) (N := some 8) (v := ?_) (a' := ?_) #[true, true, true, true, true, true, true, true, true, true, true, true, true, true, true, true, true, true] rfl rfl (any_of HT_.out (by kernel_rfl)) (fun _ _ _ h => h) (Or.inl ⟨by rfl, ?_⟩) ?_ ?_
              rotate_left
              · intro w'
                go_simp
                with_reducible rfl
              rotate_left
              · simp only [Act.put, List.setIfInBounds_toArray, List.set_cons_zero, List.set_cons_succ, i64_w, i32_w]
                rfl
              refine done_ (done_of HT_.out (by kernel_rfl)) ?_
              try go_wp2
              (try simp only [World.drewN_drewN]); (try (rw [drewN_self w43]; generalize hq_ : World.drewN w43 _ = w43; have n0_ : Aside0 (w43.heap[gb294]? = some (.cells #[.int .i64 a0_0, .int .i64 a0_1] 23 (0, 0))) := ⟨by rw [← hq_]; exact (by (with_reducible repeat (first | refine blk_drewN ?_ _ | refine blk_drew ?_ | refine blk_alloc ?_ _)); exact BK294.out)⟩; have n1_ : Aside0 (w43.heap[gb295]? = some (.cells #[.int .i64 a1_0, .int .i64 a1_1] 23 (0, 0))) := ⟨by rw [← hq_]; exact (by (with_reducible repeat (first | refine blk_drewN ?_ _ | refine blk_drew ?_ | refine blk_alloc ?_ _)); exact BK295.out)⟩; have n2_ : Aside0 (w43.heap[gb296]? = some (.cells #[.int .i64 0, .int .i64 0] 23 (0, 0))) := ⟨by rw [← hq_]; exact (by (with_reducible repeat (first | refine blk_drewN ?_ _ | refine blk_drew ?_ | refine blk_alloc ?_ _)); exact BK296.out)⟩; have n3_ : Aside0 (Below w.heap.size w w43) := ⟨by rw [← hq_]; exact (by repeat (first | (with_reducible first | exact HB.out | apply below_alloc | apply pw_below_drewN | apply below_drew1 | refine below_set ?_ GE294.out | refine below_set ?_ GE295.out | refine below_set ?_ GE296.out) | exact HB.out))⟩; clear BK294 BK295 BK296 HB hq_; have BK294 := n0_; have BK295 := n1_; have BK296 := n2_; have HB := n3_; clear n0_ n1_ n2_ n3_))
              have n0_ := Aside0.mk (blk_drew BK294.out)
              have n1_ := Aside0.mk (blk_drew BK295.out)
              have n2_ := Aside0.mk (blk_drew BK296.out)
              have n3_ := Aside0.mk (below_drew1 HB.out)
              clear BK294
              clear BK295
              clear BK296
              clear HB
              have BK294 := n0_
              have BK295 := n1_
              have BK296 := n2_
              have HB := n3_
              clear n0_ n1_ n2_ n3_
              refine start_ (n := 10) (S := fun w' => w'.cell? ⟨gb294, 0, none⟩ = some (.int .i64 a0_0) ∧ w'.cell? ⟨gb294, 1, none⟩ = some (.int .i64 a0_1) ∧ w'.cell? ⟨gb295, 0, none⟩ = some (.int .i64 a1_0) ∧ w'.cell? ⟨gb295, 1, none⟩ = some (.int .i64 a1_1)) (ds := []) #[false, false, false, false, false, false, false, false, false, false] (by kernel_rfl) rfl rfl ⟨(blk_cell BK294.out 0).trans rfl, (blk_cell BK294.out 1).trans rfl, (blk_cell BK295.out 0).trans rfl, (blk_cell BK295.out 1).trans rfl⟩ (fun hHeld => ?_); refine with_tabW ratio_Mul.tab5 ratio_Mul.bits5 (fun HT_ HW_ => ?_)
              generalize w43.drew = w44 at BK294 BK295 BK296 HB hHeld ⊢
              refine pure_ (i := 0) (N := some 34) (v := ?_) (a' := ?_) #[true, false, false, false, false, false, false, false, false, false] rfl rfl (any_of HT_.out (by kernel_rfl)) (fun _ _ _ h => h) (Or.inl ⟨by rfl, ?_⟩) ?_ ?_
              rotate_left
              · intro w'
                go_simp
                with_reducible rfl
              rotate_left
              · simp only [Act.put, List.setIfInBounds_toArray, List.set_cons_zero, List.set_cons_succ, i64_w, i32_w]
                rfl
              refine pure_ (i := 2) (N := some 36) (v := ?_) (a' := ?_) #[true, false, true, false, false, false, false, false, false, false] rfl rfl (any_of HT_.out (by kernel_rfl)) (fun _ _ _ h => h) (Or.inl ⟨by rfl, ?_⟩) ?_ ?_
              rotate_left
              · intro w'
                go_simp
                with_reducible rfl
              rotate_left
              · simp only [Act.put, List.setIfInBounds_toArray, List.set_cons_zero, List.set_cons_succ, i64_w, i32_w]
                rfl
              refine pure_ (i := 4) (N := some 38) (v := ?_) (a' := ?_) #[true, false, true, false, true, false, false, false, false, false] rfl rfl (any_of HT_.out (by kernel_rfl)) (fun _ _ _ h => h) (Or.inl ⟨by rfl, ?_⟩) ?_ ?_
              rotate_left
              · intro w'
                go_simp
                with_reducible rfl
              rotate_left
              · simp only [Act.put, List.setIfInBounds_toArray, List.set_cons_zero, List.set_cons_succ, i64_w, i32_w]
                rfl
              refine pure_ (i := 6) (N := some 40) (v := ?_) (a' := ?_) #[true, false, true, false, true, false, true, false, false, false] rfl rfl (any_of HT_.out (by kernel_rfl)) (fun _ _ _ h => h) (Or.inl ⟨by rfl, ?_⟩) ?_ ?_
              rotate_left
              · intro w'
                go_simp
                with_reducible rfl
              rotate_left
              · simp only [Act.put, List.setIfInBounds_toArray, List.set_cons_zero, List.set_cons_succ, i64_w, i32_w]
                rfl
              refine take_ (i := 1) (N := some 35) (v := ?_) (a' := ?_) #[true, true, true, false, true, false, true, false, false, false] rfl rfl (take_ofW HT_.out HW_.out (by kernel_rfl)) (fun _ _ _ h => h) (Or.inl ⟨by rfl, ?_⟩) hHeld ?_ ?_
              rotate_left
              · rintro w' ⟨s0, s1, s2, s3⟩
                go_simp
                with_reducible rfl
              rotate_left
              · simp only [Act.put, List.setIfInBounds_toArray, List.set_cons_zero, List.set_cons_succ, i64_w, i32_w]
                rfl
              refine pure_ (i := 3) (N := some 37) (v := ?_) (a' := ?_) #[true, true, true, true, true, false, true, false, false, false] rfl rfl (any_of HT_.out (by kernel_rfl)) (fun _ _ _ h => h) (Or.inl ⟨by rfl, ?_⟩) ?_ ?_
              rotate_left
              · intro w'
                go_simp
                with_reducible rfl
              rotate_left
              · simp only [Act.put, List.setIfInBounds_toArray, List.set_cons_zero, List.set_cons_succ, i64_w, i32_w]
                rfl
              refine pure_ (i := 8) (N := some 9) (v := ?_) (a' := ?_) #[true, true, true, true, true, false, true, false, true, false] rfl rfl (any_of HT_.out (by kernel_rfl)) (fun _ _ _ h => h) (Or.inl ⟨by rfl, ?_⟩) ?_ ?_
              rotate_left
              · intro w'
                go_simp
                with_reducible rfl
              rotate_left
              · simp only [Act.put, List.setIfInBounds_toArray, List.set_cons_zero, List.set_cons_succ, i64_w, i32_w]
                rfl
              refine take_ (i := 5) (N := some 39) (v := ?_) (a' := ?_) #[true, true, true, true, true, true, true, false, true, false] rfl rfl (take_ofW HT_.out HW_.out (by kernel_rfl)) (fun _ _ _ h => h) (Or.inl ⟨by rfl, ?_⟩) hHeld ?_ ?_
              rotate_left
              · rintro w' ⟨s0, s1, s2, s3⟩
                go_simp
                with_reducible rfl
              rotate_left
              · simp only [Act.put, List.setIfInBounds_toArray, List.set_cons_zero, List.set_cons_succ, i64_w, i32_w]
                rfl
              refine pure_ (i := 7) (N := some 41) (v := ?_) (a' := ?_) #[true, true, true, true, true, true, true, true, true, false] rfl rfl (any_of HT_.out (by kernel_rfl)) (fun _ _ _ h => h) (Or.inl ⟨by rfl, ?_⟩) ?_ ?_
              rotate_left
              · intro w'
                go_simp
                with_reducible rfl
              rotate_left
              · simp only [Act.put, List.setIfInBounds_toArray, List.set_cons_zero, List.set_cons_succ, i64_w, i32_w]
                rfl
              refine pure_ (i := 9) (N := some 10) (v := ?_) (a' := ?_) #[true, true, true, true, true, true, true, true, true, true] rfl rfl (any_of HT_.out (by kernel_rfl)) (fun _ _ _ h => h) (Or.inl ⟨by rfl, ?_⟩) ?_ ?_
              rotate_left
              · intro w'
                go_simp
                with_reducible rfl
              rotate_left
              · simp only [Act.put, List.setIfInBounds_toArray, List.set_cons_zero, List.set_cons_succ, i64_w, i32_w]
                rfl
              refine done_ (done_of HT_.out (by kernel_rfl)) ?_
              try go_wp2_with (first | (go_at_call 30; (with_reducible refine (ratio_size.calls (wrap64 (Int.tdiv a1_0 (wrap64 (t303)))) t304 _ A30.out).mono ?_); rintro e w' ⟨rfl, ⟨nd, rfl⟩⟩; (try simp only [World.drewN_drewN]); (try (rw [drewN_self w44]; generalize hq_ : World.drewN w44 _ = w44; have n0_ : Aside0 (w44.heap[gb294]? = some (.cells #[.int .i64 a0_0, .int .i64 a0_1] 23 (0, 0))) := ⟨by rw [← hq_]; exact (by (with_reducible repeat (first | refine blk_drewN ?_ _ | refine blk_drew ?_ | refine blk_alloc ?_ _)); exact BK294.out)⟩; have n1_ : Aside0 (w44.heap[gb295]? = some (.cells #[.int .i64 a1_0, .int .i64 a1_1] 23 (0, 0))) := ⟨by rw [← hq_]; exact (by (with_reducible repeat (first | refine blk_drewN ?_ _ | refine blk_drew ?_ | refine blk_alloc ?_ _)); exact BK295.out)⟩; have n2_ : Aside0 (w44.heap[gb296]? = some (.cells #[.int .i64 0, .int .i64 0] 23 (0, 0))) := ⟨by rw [← hq_]; exact (by (with_reducible repeat (first | refine blk_drewN ?_ _ | refine blk_drew ?_ | refine blk_alloc ?_ _)); exact BK296.out)⟩; have n3_ : Aside0 (Below w.heap.size w w44) := ⟨by rw [← hq_]; exact (by repeat (first | (with_reducible first | exact HB.out | apply below_alloc | apply pw_below_drewN | apply below_drew1 | refine below_set ?_ GE294.out | refine below_set ?_ GE295.out | refine below_set ?_ GE296.out) | exact HB.out))⟩; clear BK294 BK295 BK296 HB hq_; have BK294 := n0_; have BK295 := n1_; have BK296 := n2_; have HB := n3_; clear n0_ n1_ n2_ n3_))) | (go_at_call 30; (with_reducible refine (ratio_size.calls (wrap64 (Int.tdiv a0_0 (wrap64 (t300)))) t305 _ A31.out).mono ?_); rintro e w' ⟨rfl, ⟨nd, rfl⟩⟩; (try simp only [World.drewN_drewN]); (try (rw [drewN_self w44]; generalize hq_ : World.drewN w44 _ = w44; have n0_ : Aside0 (w44.heap[gb294]? = some (.cells #[.int .i64 a0_0, .int .i64 a0_1] 23 (0, 0))) := ⟨by rw [← hq_]; exact (by (with_reducible repeat (first | refine blk_drewN ?_ _ | refine blk_drew ?_ | refine blk_alloc ?_ _)); exact BK294.out)⟩; have n1_ : Aside0 (w44.heap[gb295]? = some (.cells #[.int .i64 a1_0, .int .i64 a1_1] 23 (0, 0))) := ⟨by rw [← hq_]; exact (by (with_reducible repeat (first | refine blk_drewN ?_ _ | refine blk_drew ?_ | refine blk_alloc ?_ _)); exact BK295.out)⟩; have n2_ : Aside0 (w44.heap[gb296]? = some (.cells #[.int .i64 0, .int .i64 0] 23 (0, 0))) := ⟨by rw [← hq_]; exact (by (with_reducible repeat (first | refine blk_drewN ?_ _ | refine blk_drew ?_ | refine blk_alloc ?_ _)); exact BK296.out)⟩; have n3_ : Aside0 (Below w.heap.size w w44) := ⟨by rw [← hq_]; exact (by repeat (first | (with_reducible first | exact HB.out | apply below_alloc | apply pw_below_drewN | apply below_drew1 | refine below_set ?_ GE294.out | refine below_set ?_ GE295.out | refine below_set ?_ GE296.out) | exact HB.out))⟩; clear BK294 BK295 BK296 HB hq_; have BK294 := n0_; have BK295 := n1_; have BK296 := n2_; have HB := n3_; clear n0_ n1_ n2_ n3_)); have hcz45_0 : w44.cell? ⟨gb296, 0, none⟩ = some (.int .i64 0) := (blk_cell BK296.out 0).trans rfl; have hcz45_1 : w44.cell? ⟨gb296, 1, none⟩ = some (.int .i64 0) := (blk_cell BK296.out 1).trans rfl; have hfz45_0 := blk_frozen BK296.out 0; have hfz45_1 := blk_frozen BK296.out 1))
              refine bodyPost_ret (results_ct rfl _ _ gb296 23 #[.int .i64 0, .int .i64 0] (0, 0) _ rfl (by (with_reducible repeat (first | refine blk_drewN ?_ _ | refine blk_drew ?_ | refine blk_alloc ?_ _)); refine blk_put (cs := #[.int .i64 0, .int .i64 0]) ?_ 1 _ rfl; (with_reducible repeat (first | refine blk_drewN ?_ _ | refine blk_drew ?_ | refine blk_alloc ?_ _)); refine blk_put (cs := #[.int .i64 0, .int .i64 0]) ?_ 0 _ rfl; (with_reducible repeat (first | refine blk_drewN ?_ _ | refine blk_drew ?_ | refine blk_alloc ?_ _)); exact BK296.out) Tryd.underlying23 rfl (by kernel_rfl)) rfl ?_
              exact ⟨by first | rfl | (simp [errW_none, errW_some] <;> rfl) | (simp [*, errW_none, errW_some] <;> rfl), by repeat (first | (with_reducible first | exact HB.out | apply below_alloc | apply pw_below_drewN | apply below_drew1 | refine below_set ?_ GE294.out | refine below_set ?_ GE295.out | refine below_set ?_ GE296.out) | exact HB.out)⟩
            · rw [if_neg c33] at H
              have c33b0 : decide ((IntKind.u64.wrap (Int.tdiv (1000000000000 : Int) t305)) < t304) = false := decide_eq_false c33
              clear c33
              replace H := Option.bind_eq_some_iff.mp H
              obtain ⟨⟨t309, t310, t311⟩, A460, H⟩ := H
              replace H : (some (t309, t310, t311)) = some (r1, r2, r3) := H
              have A46 := Aside0.mk A460
              clear A460
              simp only [Option.some.injEq, Prod.mk.injEq] at H
              obtain ⟨rfl, rfl, rfl⟩ := H
              go_enter Tryd.func25, Tryd.ntmps25
              try go_wp2_with (first | ((with_reducible refine gate_dst (N := 2) rfl ?_); refine box_event ?hg (N := 2) ?hd (cs := #[.int .i64 a0_0, .int .i64 a0_1]) (t := 23) ?hr ?_; (case hd => rfl); (case hg => rfl); (case hr => first | (go_simp; done) | (go_simp; rfl)); intro gb294 hg w47 hbox hb; have n0_ := Aside0.mk (below_step (by repeat (first | (with_reducible first | exact HB.out | apply below_alloc | apply pw_below_drewN | apply below_drew1) | exact HB.out)) hb); have n1_ := Aside0.mk (hbox); have n2_ := Aside0.mk ((by rw [hg]; exact (below_size (by repeat (first | (with_reducible first | exact HB.out | apply below_alloc | apply pw_below_drewN | apply below_drew1) | exact HB.out))) : w.heap.size ≤ gb294)); have n3_ := Aside0.mk ((by rw [hg]; exact (below_size (by repeat (first | (with_reducible first | exact HB.out | apply below_alloc | apply pw_below_drewN | apply below_drew1) | exact HB.out))) : w.heap.size ≤ gb294)); clear HB; have HB := n0_; have BK294 := n1_; have GW294 := n2_; have GE294 := n3_; clear n0_ n1_ n2_ n3_; clear hb hbox hg) | ((with_reducible refine gate_dst (N := 3) rfl ?_); refine box_event ?hg (N := 3) ?hd (cs := #[.int .i64 a1_0, .int .i64 a1_1]) (t := 23) ?hr ?_; (case hd => rfl); (case hg => rfl); (case hr => first | (go_simp; done) | (go_simp; rfl)); intro gb295 hg w48 hbox hb; have n0_ := Aside0.mk (blk_below (g := gb294) (o := .cells #[.int .i64 a0_0, .int .i64 a0_1] 23 (0, 0)) (by (with_reducible repeat (first | refine blk_drewN ?_ _ | refine blk_drew ?_ | refine blk_alloc ?_ _)); exact BK294.out) hb); have n1_ := Aside0.mk (below_step (by repeat (first | (with_reducible first | exact HB.out | apply below_alloc | apply pw_below_drewN | apply below_drew1 | refine below_set ?_ GE294.out) | exact HB.out)) hb); have n2_ := Aside0.mk (hbox); have n3_ := Aside0.mk ((by rw [hg]; exact (below_size (by repeat (first | (with_reducible first | exact HB.out | apply below_alloc | apply pw_below_drewN | apply below_drew1 | refine below_set ?_ GE294.out) | exact HB.out))) : w.heap.size ≤ gb295)); have n4_ := Aside0.mk ((by rw [hg]; exact (below_size (by repeat (first | (with_reducible first | exact HB.out | apply below_alloc | apply pw_below_drewN | apply below_drew1 | refine below_set ?_ GE294.out) | exact HB.out))) : w.heap.size ≤ gb295)); have n5_ := Aside0.mk ((by rw [hg]; exact Nat.ne_of_lt (blk_lt (g := gb294) (o := .cells #[.int .i64 a0_0, .int .i64 a0_1] 23 (0, 0)) (by (with_reducible repeat (first | refine blk_drewN ?_ _ | refine blk_drew ?_ | refine blk_alloc ?_ _)); exact BK294.out)) : gb294 ≠ gb295)); have n6_ := Aside0.mk ((by rw [hg]; exact Nat.ne_of_gt (blk_lt (g := gb294) (o := .cells #[.int .i64 a0_0, .int .i64 a0_1] 23 (0, 0)) (by (with_reducible repeat (first | refine blk_drewN ?_ _ | refine blk_drew ?_ | refine blk_alloc ?_ _)); exact BK294.out)) : gb295 ≠ gb294)); clear BK294; clear HB; have BK294 := n0_; have HB := n1_; have BK295 := n2_; have GW295 := n3_; have GE295 := n4_; have NB294_295 := n5_; have NB295_294 := n6_; clear n0_ n1_ n2_ n3_ n4_ n5_ n6_; clear hb hbox hg) | ((with_reducible refine gate_dst (N := 4) rfl ?_); refine box_event ?hg (N := 4) ?hd (cs := #[.int .i64 0, .int .i64 0]) (t := 23) ?hr ?_; (case hd => rfl); (case hg => rfl); (case hr => first | (go_simp; done) | (go_simp; rfl)); intro gb296 hg w49 hbox hb; have n0_ := Aside0.mk (blk_below (g := gb294) (o := .cells #[.int .i64 a0_0, .int .i64 a0_1] 23 (0, 0)) (by (with_reducible repeat (first | refine blk_drewN ?_ _ | refine blk_drew ?_ | refine blk_alloc ?_ _)); exact BK294.out) hb); have n1_ := Aside0.mk (blk_below (g := gb295) (o := .cells #[.int .i64 a1_0, .int .i64 a1_1] 23 (0, 0)) (by (with_reducible repeat (first | refine blk_drewN ?_ _ | refine blk_drew ?_ | refine blk_alloc ?_ _)); exact BK295.out) hb); have n2_ := Aside0.mk (below_step (by repeat (first | (with_reducible first | exact HB.out | apply below_alloc | apply pw_below_drewN | apply below_drew1 | refine below_set ?_ GE294.out | refine below_set ?_ GE295.out) | exact HB.out)) hb); have n3_ := Aside0.mk (hbox); have n4_ := Aside0.mk ((by rw [hg]; exact (below_size (by repeat (first | (with_reducible first | exact HB.out | apply below_alloc | apply pw_below_drewN | apply below_drew1 | refine below_set ?_ GE294.out | refine below_set ?_ GE295.out) | exact HB.out))) : w.heap.size ≤ gb296)); have n5_ := Aside0.mk ((by rw [hg]; exact (below_size (by repeat (first | (with_reducible first | exact HB.out | apply below_alloc | apply pw_below_drewN | apply below_drew1 | refine below_set ?_ GE294.out | refine below_set ?_ GE295.out) | exact HB.out))) : w.heap.size ≤ gb296)); have n6_ := Aside0.mk ((by rw [hg]; exact Nat.ne_of_lt (blk_lt (g := gb294) (o := .cells #[.int .i64 a0_0, .int .i64 a0_1] 23 (0, 0)) (by (with_reducible repeat (first | refine blk_drewN ?_ _ | refine blk_drew ?_ | refine blk_alloc ?_ _)); exact BK294.out)) : gb294 ≠ gb296)); have n7_ := Aside0.mk ((by rw [hg]; exact Nat.ne_of_gt (blk_lt (g := gb294) (o := .cells #[.int .i64 a0_0, .int .i64 a0_1] 23 (0, 0)) (by (with_reducible repeat (first | refine blk_drewN ?_ _ | refine blk_drew ?_ | refine blk_alloc ?_ _)); exact BK294.out)) : gb296 ≠ gb294)); have n8_ := Aside0.mk ((by rw [hg]; exact Nat.ne_of_lt (blk_lt (g := gb295) (o := .cells #[.int .i64 a1_0, .int .i64 a1_1] 23 (0, 0)) (by (with_reducible repeat (first | refine blk_drewN ?_ _ | refine blk_drew ?_ | refine blk_alloc ?_ _)); exact BK295.out)) : gb295 ≠ gb296)); have n9_ := Aside0.mk ((by rw [hg]; exact Nat.ne_of_gt (blk_lt (g := gb295) (o := .cells #[.int .i64 a1_0, .int .i64 a1_1] 23 (0, 0)) (by (with_reducible repeat (first | refine blk_drewN ?_ _ | refine blk_drew ?_ | refine blk_alloc ?_ _)); exact BK295.out)) : gb296 ≠ gb295)); clear BK294; clear BK295; clear HB; have BK294 := n0_; have BK295 := n1_; have HB := n2_; have BK296 := n3_; have GW296 := n4_; have GE296 := n5_; have NB294_296 := n6_; have NB296_294 := n7_; have NB295_296 := n8_; have NB296_295 := n9_; clear n0_ n1_ n2_ n3_ n4_ n5_ n6_ n7_ n8_ n9_; clear hb hbox hg; have hnb50 := NB294_295.out; have hnc50 := NB295_294.out; have hnb51 := NB294_296.out; have hnc51 := NB296_294.out; have hcz52_0 : w49.cell? ⟨gb294, 0, none⟩ = some (.int .i64 a0_0) := (blk_cell BK294.out 0).trans rfl; have hcz52_1 : w49.cell? ⟨gb294, 1, none⟩ = some (.int .i64 a0_1) := (blk_cell BK294.out 1).trans rfl; have hfz52_0 := blk_frozen BK294.out 0; have hfz52_1 := blk_frozen BK294.out 1; have hnb53 := NB295_296.out; have hnc53 := NB296_295.out; have hcz54_0 : w49.cell? ⟨gb295, 0, none⟩ = some (.int .i64 a1_0) := (blk_cell BK295.out 0).trans rfl; have hcz54_1 : w49.cell? ⟨gb295, 1, none⟩ = some (.int .i64 a1_1) := (blk_cell BK295.out 1).trans rfl; have hfz54_0 := blk_frozen BK295.out 0; have hfz54_1 := blk_frozen BK295.out 1) | ((with_reducible refine gate_callee (f := 40) rfl ?_); refine goesL_ (some 13) rfl rfl Tryd.func40 (by kernel_rfl) rfl #[.agg #[.int .i64 a0_0, .int .i64 a0_1], .agg #[.int .i64 a1_0, .int .i64 a1_1]] rfl (by (try simp only [List.map_toArray, List.map_cons, List.map_nil]); first | done | rfl | (simp only [List.length_drop, List.length_take]; rfl)) ?_; (with_reducible refine (ratio_both.calls k a0_0 a0_1 a1_0 a1_1 t297 _ A3.out).mono ?_); rintro e w55 ⟨rfl, hb⟩; refine ⟨_, rfl, ?_⟩; have n0_ := Aside0.mk (blk_below (g := gb294) (o := .cells #[.int .i64 a0_0, .int .i64 a0_1] 23 (0, 0)) (by (with_reducible repeat (first | refine blk_drewN ?_ _ | refine blk_drew ?_ | refine blk_alloc ?_ _)); exact BK294.out) hb); have n1_ := Aside0.mk (blk_below (g := gb295) (o := .cells #[.int .i64 a1_0, .int .i64 a1_1] 23 (0, 0)) (by (with_reducible repeat (first | refine blk_drewN ?_ _ | refine blk_drew ?_ | refine blk_alloc ?_ _)); exact BK295.out) hb); have n2_ := Aside0.mk (blk_below (g := gb296) (o := .cells #[.int .i64 0, .int .i64 0] 23 (0, 0)) (by (with_reducible repeat (first | refine blk_drewN ?_ _ | refine blk_drew ?_ | refine blk_alloc ?_ _)); exact BK296.out) hb); have n3_ := Aside0.mk (below_step (by repeat (first | (with_reducible first | exact HB.out | apply below_alloc | apply pw_below_drewN | apply below_drew1 | refine below_set ?_ GE294.out | refine below_set ?_ GE295.out | refine below_set ?_ GE296.out) | exact HB.out)) hb); clear BK294; clear BK295; clear BK296; clear HB; have BK294 := n0_; have BK295 := n1_; have BK296 := n2_; have HB := n3_; clear n0_ n1_ n2_ n3_; (try clear hb); (try clear hb2); (try clear hk); (try clear hi)))
              have n0_ := Aside0.mk (blk_drew BK294.out)
              have n1_ := Aside0.mk (blk_drew BK295.out)
              have n2_ := Aside0.mk (blk_drew BK296.out)
              have n3_ := Aside0.mk (below_drew1 HB.out)
              clear BK294
              clear BK295
              clear BK296
              clear HB
              have BK294 := n0_
              have BK295 := n1_
              have BK296 := n2_
              have HB := n3_
              clear n0_ n1_ n2_ n3_
              refine start_ (n := 18) (S := fun w' => w'.cell? ⟨gb294, 0, none⟩ = some (.int .i64 a0_0) ∧ w'.cell? ⟨gb294, 1, none⟩ = some (.int .i64 a0_1) ∧ w'.cell? ⟨gb295, 0, none⟩ = some (.int .i64 a1_0) ∧ w'.cell? ⟨gb295, 1, none⟩ = some (.int .i64 a1_1)) (ds := []) #[false, false, false, false, false, false, false, false, false, false, false, false, false, false, false, false, false, false] (by kernel_rfl) rfl rfl ⟨(blk_cell BK294.out 0).trans rfl, (blk_cell BK294.out 1).trans rfl, (blk_cell BK295.out 0).trans rfl, (blk_cell BK295.out 1).trans rfl⟩ (fun hHeld => ?_); refine with_tabW ratio_Mul.tab4 ratio_Mul.bits4 (fun HT_ HW_ => ?_)
              generalize w55.drew = w56 at BK294 BK295 BK296 HB hHeld ⊢
              refine pure_ (i := 0) (N := some 18) (v := ?_) (a' := ?_) #[true, false, false, false, false, false, false, false, false, false, false, false, false, false, false, false, false, false] rfl rfl (any_of HT_.out (by kernel_rfl)) (fun _ _ _ h => h) (Or.inl ⟨by rfl, ?_⟩) ?_ ?_
              rotate_left
              · intro w'
                go_simp
                with_reducible rfl
              rotate_left
              · simp only [Act.put, List.setIfInBounds_toArray, List.set_cons_zero, List.set_cons_succ, i64_w, i32_w]
                rfl
              refine pure_ (i := 3) (N := some 21) (v := ?_) (a' := ?_) #[true, false, false, true, false, false, false, false, false, false, false, false, false, false, false, false, false, false] rfl rfl (any_of HT_.out (by kernel_rfl)) (fun _ _ _ h => h) (Or.inl ⟨by rfl, ?_⟩) ?_ ?_
              rotate_left
              · intro w'
                go_simp
                with_reducible rfl
              rotate_left
              · simp only [Act.put, List.setIfInBounds_toArray, List.set_cons_zero, List.set_cons_succ, i64_w, i32_w]
                rfl
              refine pure_ (i := 8) (N := some 26) (v := ?_) (a' := ?_) #[true, false, false, true, false, false, false, false, true, false, false, false, false, false, false, false, false, false] rfl rfl (any_of HT_.out (by kernel_rfl)) (fun _ _ _ h => h) (Or.inl ⟨by rfl, ?_⟩) ?_ ?_
              rotate_left
              · intro w'
                go_simp
                with_reducible rfl
              rotate_left
              · simp only [Act.put, List.setIfInBounds_toArray, List.set_cons_zero, List.set_cons_succ, i64_w, i32_w]
                rfl
              refine pure_ (i := 11) (N := some 29) (v := ?_) (a' := ?_) #[true, false, false, true, false, false, false, false, true, false, false, true, false, false, false, false, false, false] rfl rfl (any_of HT_.out (by kernel_rfl)) (fun _ _ _ h => h) (Or.inl ⟨by rfl, ?_⟩) ?_ ?_
              rotate_left
              · intro w'
                go_simp
                with_reducible rfl
              rotate_left
              · simp only [Act.put, List.setIfInBounds_toArray, List.set_cons_zero, List.set_cons_succ, i64_w, i32_w]
                rfl
              refine take_ (i := 1) (N := some 19) (v := ?_) (a' := ?_) #[true, true, false, true, false, false, false, false, true, false, false, true, false, false, false, false, false, false] rfl rfl (take_ofW HT_.out HW_.out (by kernel_rfl)) (fun _ _ _ h => h) (Or.inl ⟨by rfl, ?_⟩) hHeld ?_ ?_
              rotate_left
              · rintro w' ⟨s0, s1, s2, s3⟩
                go_simp
                with_reducible rfl
              rotate_left
              · simp only [Act.put, List.setIfInBounds_toArray, List.set_cons_zero, List.set_cons_succ, i64_w, i32_w]
                rfl
              refine take_ (i := 4) (N := some 22) (v := ?_) (a' := ?_) #[true, true, false, true, true, false, false, false, true, false, false, true, false, false, false, false, false, false] rfl rfl (take_ofW HT_.out HW_.out (by kernel_rfl)) (fun _ _ _ h => h) (Or.inl ⟨by rfl, ?_⟩) hHeld ?_ ?_
              rotate_left
              · rintro w' ⟨s0, s1, s2, s3⟩
                go_simp
                with_reducible rfl
              rotate_left
              · simp only [Act.put, List.setIfInBounds_toArray, List.set_cons_zero, List.set_cons_succ, i64_w, i32_w]
                rfl
              refine take_ (i := 9) (N := some 27) (v := ?_) (a' := ?_) #[true, true, false, true, true, false, false, false, true, true, false, true, false, false, false, false, false, false] rfl rfl (take_ofW HT_.out HW_.out (by kernel_rfl)) (fun _ _ _ h => h) (Or.inl ⟨by rfl, ?_⟩) hHeld ?_ ?_
              rotate_left
              · rintro w' ⟨s0, s1, s2, s3⟩
                go_simp
                with_reducible rfl
              rotate_left
              · simp only [Act.put, List.setIfInBounds_toArray, List.set_cons_zero, List.set_cons_succ, i64_w, i32_w]
                rfl
              refine take_ (i := 12) (N := some 30) (v := ?_) (a' := ?_) #[true, true, false, true, true, false, false, false, true, true, false, true, true, false, false, false, false, false] rfl rfl (take_ofW HT_.out HW_.out (by kernel_rfl)) (fun _ _ _ h => h) (Or.inl ⟨by rfl, ?_⟩) hHeld ?_ ?_
              rotate_left
              · rintro w' ⟨s0, s1, s2, s3⟩
                go_simp
                with_reducible rfl
              rotate_left
              · simp only [Act.put, List.setIfInBounds_toArray, List.set_cons_zero, List.set_cons_succ, i64_w, i32_w]
                rfl
              refine one_ (i := 2) (N := some 20) #[true, true, true, true, true, false, false, false, true, true, false, true, true, false, false, false, false, false] rfl rfl (one_of HT_.out (by kernel_rfl)) (by decide) (fun K hK => ?_)
              refine goes_ Tryd.func30 (by kernel_rfl) rfl #[.int .i64 a0_0] (by rfl) rfl rfl (by (try simp only [List.map_toArray, List.map_cons, List.map_nil]); first | done | rfl | (simp only [List.length_drop, List.length_take]; rfl)) ?_
              with_reducible refine (ratio_size.calls a0_0 t298 _ A5.out).mono ?_
              rintro e w' ⟨rfl, ⟨nd, rfl⟩⟩
              refine ⟨_, rfl, ?_⟩
              refine hK.out _ _ ⟨(blk_cell BK294.out 0).trans rfl, (blk_cell BK294.out 1).trans rfl, (blk_cell BK295.out 0).trans rfl, (blk_cell BK295.out 1).trans rfl⟩ (fun hHeld => ?_)
              clear hK K
              refine norm_ (a' := ?_) ?_ ?_
              rotate_left
              · show Act.put _ (some 20) _ = _
                simp only [Act.put, List.setIfInBounds_toArray, List.set_cons_zero, List.set_cons_succ, i64_w, i32_w]
                rfl
              refine one_ (i := 5) (N := some 23) #[true, true, true, true, true, true, false, false, true, true, false, true, true, false, false, false, false, false] rfl rfl (one_of HT_.out (by kernel_rfl)) (by decide) (fun K hK => ?_)
              refine goes_ Tryd.func30 (by kernel_rfl) rfl #[.int .i64 a1_1] (by rfl) rfl rfl (by (try simp only [List.map_toArray, List.map_cons, List.map_nil]); first | done | rfl | (simp only [List.length_drop, List.length_take]; rfl)) ?_
              with_reducible refine (ratio_size.calls a1_1 t299 _ A6.out).mono ?_
              rintro e w' ⟨rfl, ⟨nd, rfl⟩⟩
              refine ⟨_, rfl, ?_⟩
              refine hK.out _ _ ⟨(blk_cell BK294.out 0).trans rfl, (blk_cell BK294.out 1).trans rfl, (blk_cell BK295.out 0).trans rfl, (blk_cell BK295.out 1).trans rfl⟩ (fun hHeld => ?_)
              clear hK K
              refine norm_ (a' := ?_) ?_ ?_
              rotate_left
              · show Act.put _ (some 23) _ = _
                simp only [Act.put, List.setIfInBounds_toArray, List.set_cons_zero, List.set_cons_succ, i64_w, i32_w]
                rfl
              refine one_ (i := 6) (N := some 24) #[true, true, true, true, true, true, true, false, true, true, false, true, true, false, false, false, false, false] rfl rfl (one_of HT_.out (by kernel_rfl)) (by decide) (fun K hK => ?_)
              refine goes_ Tryd.func31 (by kernel_rfl) rfl #[.int .u64 t298, .int .u64 t299] (by rfl) rfl rfl (by (try simp only [List.map_toArray, List.map_cons, List.map_nil]); first | done | rfl | (simp only [List.length_drop, List.length_take]; rfl)) ?_
              with_reducible refine (ratio_gcd.calls k t298 t299 t300 _ A7.out).mono ?_
              rintro e w' ⟨rfl, ⟨nd, rfl⟩⟩
              refine ⟨_, rfl, ?_⟩
              refine hK.out _ _ ⟨(blk_cell BK294.out 0).trans rfl, (blk_cell BK294.out 1).trans rfl, (blk_cell BK295.out 0).trans rfl, (blk_cell BK295.out 1).trans rfl⟩ (fun hHeld => ?_)
              clear hK K
              refine norm_ (a' := ?_) ?_ ?_
              rotate_left
              · show Act.put _ (some 24) _ = _
                simp only [Act.put, List.setIfInBounds_toArray, List.set_cons_zero, List.set_cons_succ, i64_w, i32_w]
                rfl
              refine pure_ (i := 7) (N := some 25) (v := ?_) (a' := ?_) #[true, true, true, true, true, true, true, true, true, true, false, true, true, false, false, false, false, false] rfl rfl (any_of HT_.out (by kernel_rfl)) (fun _ _ _ h => h) (Or.inl ⟨by rfl, ?_⟩) ?_ ?_
              rotate_left
              · intro w'
                go_simp
                with_reducible rfl
              rotate_left
              · simp only [Act.put, List.setIfInBounds_toArray, List.set_cons_zero, List.set_cons_succ, i64_w, i32_w]
                rfl
              refine one_ (i := 10) (N := some 28) #[true, true, true, true, true, true, true, true, true, true, true, true, true, false, false, false, false, false] rfl rfl (one_of HT_.out (by kernel_rfl)) (by decide) (fun K hK => ?_)
              refine goes_ Tryd.func30 (by kernel_rfl) rfl #[.int .i64 a1_0] (by rfl) rfl rfl (by (try simp only [List.map_toArray, List.map_cons, List.map_nil]); first | done | rfl | (simp only [List.length_drop, List.length_take]; rfl)) ?_
              with_reducible refine (ratio_size.calls a1_0 t301 _ A8.out).mono ?_
              rintro e w' ⟨rfl, ⟨nd, rfl⟩⟩
              refine ⟨_, rfl, ?_⟩
              refine hK.out _ _ ⟨(blk_cell BK294.out 0).trans rfl, (blk_cell BK294.out 1).trans rfl, (blk_cell BK295.out 0).trans rfl, (blk_cell BK295.out 1).trans rfl⟩ (fun hHeld => ?_)
              clear hK K
              refine norm_ (a' := ?_) ?_ ?_
              rotate_left
              · show Act.put _ (some 28) _ = _
                simp only [Act.put, List.setIfInBounds_toArray, List.set_cons_zero, List.set_cons_succ, i64_w, i32_w]
                rfl
              refine one_ (i := 13) (N := some 31) #[true, true, true, true, true, true, true, true, true, true, true, true, true, true, false, false, false, false] rfl rfl (one_of HT_.out (by kernel_rfl)) (by decide) (fun K hK => ?_)
              refine goes_ Tryd.func30 (by kernel_rfl) rfl #[.int .i64 a0_1] (by rfl) rfl rfl (by (try simp only [List.map_toArray, List.map_cons, List.map_nil]); first | done | rfl | (simp only [List.length_drop, List.length_take]; rfl)) ?_
              with_reducible refine (ratio_size.calls a0_1 t302 _ A9.out).mono ?_
              rintro e w' ⟨rfl, ⟨nd, rfl⟩⟩
              refine ⟨_, rfl, ?_⟩
              refine hK.out _ _ ⟨(blk_cell BK294.out 0).trans rfl, (blk_cell BK294.out 1).trans rfl, (blk_cell BK295.out 0).trans rfl, (blk_cell BK295.out 1).trans rfl⟩ (fun hHeld => ?_)
              clear hK K
              refine norm_ (a' := ?_) ?_ ?_
              rotate_left
              · show Act.put _ (some 31) _ = _
                simp only [Act.put, List.setIfInBounds_toArray, List.set_cons_zero, List.set_cons_succ, i64_w, i32_w]
                rfl
              refine one_ (i := 14) (N := some 32) #[true, true, true, true, true, true, true, true, true, true, true, true, true, true, true, false, false, false] rfl rfl (one_of HT_.out (by kernel_rfl)) (by decide) (fun K hK => ?_)
              refine goes_ Tryd.func31 (by kernel_rfl) rfl #[.int .u64 t301, .int .u64 t302] (by rfl) rfl rfl (by (try simp only [List.map_toArray, List.map_cons, List.map_nil]); first | done | rfl | (simp only [List.length_drop, List.length_take]; rfl)) ?_
              with_reducible refine (ratio_gcd.calls k t301 t302 t303 _ A10.out).mono ?_
              rintro e w' ⟨rfl, ⟨nd, rfl⟩⟩
              refine ⟨_, rfl, ?_⟩
              refine hK.out _ _ ⟨(blk_cell BK294.out 0).trans rfl, (blk_cell BK294.out 1).trans rfl, (blk_cell BK295.out 0).trans rfl, (blk_cell BK295.out 1).trans rfl⟩ (fun hHeld => ?_)
              clear hK K
              refine norm_ (a' := ?_) ?_ ?_
              rotate_left
              · show Act.put _ (some 32) _ = _
                simp only [Act.put, List.setIfInBounds_toArray, List.set_cons_zero, List.set_cons_succ, i64_w, i32_w]
                rfl
              refine pure_ (i := 15) (N := some 33) (v := ?_) (a' := ?_) #[true, true, true, true, true, true, true, true, true, true, true, true, true, true, true, true, false, false] rfl rfl (any_of HT_.out (by kernel_rfl)) (fun _ _ _ h => h) (Or.inl ⟨by rfl, ?_⟩) ?_ ?_
              rotate_left
              · intro w'
                go_simp
                with_reducible rfl
              rotate_left
              · simp only [Act.put, List.setIfInBounds_toArray, List.set_cons_zero, List.set_cons_succ, i64_w, i32_w]
                rfl
              refine pure_ (i := 16) (N := some 7) (v := ?_) (a' := ?_) #[true, true, true, true, true, true, true, true, true, true, true, true, true, true, true, true, true, false] rfl rfl (any_of HT_.out (by kernel_rfl)) (fun _ _ _ h => h) (Or.inl ⟨by rfl, ?_⟩) ?_ ?_
              rotate_left
              · intro w'
                go_simp
                with_reducible rfl
              rotate_left
              · simp only [Act.put, List.setIfInBounds_toArray, List.set_cons_zero, List.set_cons_succ, i64_w, i32_w]
                rfl
              refine pure_ (i := 17) (N := some 8) (v := ?_) (a' := ?_) #[true, true, true, true, true, true, true, true, true, true, true, true, true, true, true, true, true, true] rfl rfl (any_of HT_.out (by kernel_rfl)) (fun _ _ _ h => h) (Or.inl ⟨by rfl, ?_⟩) ?_ ?_
              rotate_left
              · intro w'
                go_simp
                with_reducible rfl
              rotate_left
              · simp only [Act.put, List.setIfInBounds_toArray, List.set_cons_zero, List.set_cons_succ, i64_w, i32_w]
                rfl
              refine done_ (done_of HT_.out (by kernel_rfl)) ?_
              try go_wp2
              (try simp only [World.drewN_drewN]); (try (rw [drewN_self w56]; generalize hq_ : World.drewN w56 _ = w56; have n0_ : Aside0 (w56.heap[gb294]? = some (.cells #[.int .i64 a0_0, .int .i64 a0_1] 23 (0, 0))) := ⟨by rw [← hq_]; exact (by (with_reducible repeat (first | refine blk_drewN ?_ _ | refine blk_drew ?_ | refine blk_alloc ?_ _)); exact BK294.out)⟩; have n1_ : Aside0 (w56.heap[gb295]? = some (.cells #[.int .i64 a1_0, .int .i64 a1_1] 23 (0, 0))) := ⟨by rw [← hq_]; exact (by (with_reducible repeat (first | refine blk_drewN ?_ _ | refine blk_drew ?_ | refine blk_alloc ?_ _)); exact BK295.out)⟩; have n2_ : Aside0 (w56.heap[gb296]? = some (.cells #[.int .i64 0, .int .i64 0] 23 (0, 0))) := ⟨by rw [← hq_]; exact (by (with_reducible repeat (first | refine blk_drewN ?_ _ | refine blk_drew ?_ | refine blk_alloc ?_ _)); exact BK296.out)⟩; have n3_ : Aside0 (Below w.heap.size w w56) := ⟨by rw [← hq_]; exact (by repeat (first | (with_reducible first | exact HB.out | apply below_alloc | apply pw_below_drewN | apply below_drew1 | refine below_set ?_ GE294.out | refine below_set ?_ GE295.out | refine below_set ?_ GE296.out) | exact HB.out))⟩; clear BK294 BK295 BK296 HB hq_; have BK294 := n0_; have BK295 := n1_; have BK296 := n2_; have HB := n3_; clear n0_ n1_ n2_ n3_))
              have n0_ := Aside0.mk (blk_drew BK294.out)
              have n1_ := Aside0.mk (blk_drew BK295.out)
              have n2_ := Aside0.mk (blk_drew BK296.out)
              have n3_ := Aside0.mk (below_drew1 HB.out)
              clear BK294
              clear BK295
              clear BK296
              clear HB
              have BK294 := n0_
              have BK295 := n1_
              have BK296 := n2_
              have HB := n3_
              clear n0_ n1_ n2_ n3_
              refine start_ (n := 10) (S := fun w' => w'.cell? ⟨gb294, 0, none⟩ = some (.int .i64 a0_0) ∧ w'.cell? ⟨gb294, 1, none⟩ = some (.int .i64 a0_1) ∧ w'.cell? ⟨gb295, 0, none⟩ = some (.int .i64 a1_0) ∧ w'.cell? ⟨gb295, 1, none⟩ = some (.int .i64 a1_1)) (ds := []) #[false, false, false, false, false, false, false, false, false, false] (by kernel_rfl) rfl rfl ⟨(blk_cell BK294.out 0).trans rfl, (blk_cell BK294.out 1).trans rfl, (blk_cell BK295.out 0).trans rfl, (blk_cell BK295.out 1).trans rfl⟩ (fun hHeld => ?_); refine with_tabW ratio_Mul.tab5 ratio_Mul.bits5 (fun HT_ HW_ => ?_)
              generalize w56.drew = w57 at BK294 BK295 BK296 HB hHeld ⊢
              refine pure_ (i := 0) (N := some 34) (v := ?_) (a' := ?_) #[true, false, false, false, false, false, false, false, false, false] rfl rfl (any_of HT_.out (by kernel_rfl)) (fun _ _ _ h => h) (Or.inl ⟨by rfl, ?_⟩) ?_ ?_
              rotate_left
              · intro w'
                go_simp
                with_reducible rfl
              rotate_left
              · simp only [Act.put, List.setIfInBounds_toArray, List.set_cons_zero, List.set_cons_succ, i64_w, i32_w]
                rfl
              refine pure_ (i := 2) (N := some 36) (v := ?_) (a' := ?_) #[true, false, true, false, false, false, false, false, false, false] rfl rfl (any_of HT_.out (by kernel_rfl)) (fun _ _ _ h => h) (Or.inl ⟨by rfl, ?_⟩) ?_ ?_
              rotate_left
              · intro w'
                go_simp
                with_reducible rfl
              rotate_left
              · simp only [Act.put, List.setIfInBounds_toArray, List.set_cons_zero, List.set_cons_succ, i64_w, i32_w]
                rfl
              refine pure_ (i := 4) (N := some 38) (v := ?_) (a' := ?_) #[true, false, true, false, true, false, false, false, false, false] rfl rfl (any_of HT_.out (by kernel_rfl)) (fun _ _ _ h => h) (Or.inl ⟨by rfl, ?_⟩) ?_ ?_
              rotate_left
              · intro w'
                go_simp
                with_reducible rfl
              rotate_left
              · simp only [Act.put, List.setIfInBounds_toArray, List.set_cons_zero, List.set_cons_succ, i64_w, i32_w]
                rfl
              refine pure_ (i := 6) (N := some 40) (v := ?_) (a' := ?_) #[true, false, true, false, true, false, true, false, false, false] rfl rfl (any_of HT_.out (by kernel_rfl)) (fun _ _ _ h => h) (Or.inl ⟨by rfl, ?_⟩) ?_ ?_
              rotate_left
              · intro w'
                go_simp
                with_reducible rfl
              rotate_left
              · simp only [Act.put, List.setIfInBounds_toArray, List.set_cons_zero, List.set_cons_succ, i64_w, i32_w]
                rfl
              refine take_ (i := 1) (N := some 35) (v := ?_) (a' := ?_) #[true, true, true, false, true, false, true, false, false, false] rfl rfl (take_ofW HT_.out HW_.out (by kernel_rfl)) (fun _ _ _ h => h) (Or.inl ⟨by rfl, ?_⟩) hHeld ?_ ?_
              rotate_left
              · rintro w' ⟨s0, s1, s2, s3⟩
                go_simp
                with_reducible rfl
              rotate_left
              · simp only [Act.put, List.setIfInBounds_toArray, List.set_cons_zero, List.set_cons_succ, i64_w, i32_w]
                rfl
              refine pure_ (i := 3) (N := some 37) (v := ?_) (a' := ?_) #[true, true, true, true, true, false, true, false, false, false] rfl rfl (any_of HT_.out (by kernel_rfl)) (fun _ _ _ h => h) (Or.inl ⟨by rfl, ?_⟩) ?_ ?_
              rotate_left
              · intro w'
                go_simp
                with_reducible rfl
              rotate_left
              · simp only [Act.put, List.setIfInBounds_toArray, List.set_cons_zero, List.set_cons_succ, i64_w, i32_w]
                rfl
              refine pure_ (i := 8) (N := some 9) (v := ?_) (a' := ?_) #[true, true, true, true, true, false, true, false, true, false] rfl rfl (any_of HT_.out (by kernel_rfl)) (fun _ _ _ h => h) (Or.inl ⟨by rfl, ?_⟩) ?_ ?_
              rotate_left
              · intro w'
                go_simp
                with_reducible rfl
              rotate_left
              · simp only [Act.put, List.setIfInBounds_toArray, List.set_cons_zero, List.set_cons_succ, i64_w, i32_w]
                rfl
              refine take_ (i := 5) (N := some 39) (v := ?_) (a' := ?_) #[true, true, true, true, true, true, true, false, true, false] rfl rfl (take_ofW HT_.out HW_.out (by kernel_rfl)) (fun _ _ _ h => h) (Or.inl ⟨by rfl, ?_⟩) hHeld ?_ ?_
              rotate_left
              · rintro w' ⟨s0, s1, s2, s3⟩
                go_simp
                with_reducible rfl
              rotate_left
              · simp only [Act.put, List.setIfInBounds_toArray, List.set_cons_zero, List.set_cons_succ, i64_w, i32_w]
                rfl
              refine pure_ (i := 7) (N := some 41) (v := ?_) (a' := ?_) #[true, true, true, true, true, true, true, true, true, false] rfl rfl (any_of HT_.out (by kernel_rfl)) (fun _ _ _ h => h) (Or.inl ⟨by rfl, ?_⟩) ?_ ?_
              rotate_left
              · intro w'
                go_simp
                with_reducible rfl
              rotate_left
              · simp only [Act.put, List.setIfInBounds_toArray, List.set_cons_zero, List.set_cons_succ, i64_w, i32_w]
                rfl
              refine pure_ (i := 9) (N := some 10) (v := ?_) (a' := ?_) #[true, true, true, true, true, true, true, true, true, true] rfl rfl (any_of HT_.out (by kernel_rfl)) (fun _ _ _ h => h) (Or.inl ⟨by rfl, ?_⟩) ?_ ?_
              rotate_left
              · intro w'
                go_simp
                with_reducible rfl
              rotate_left
              · simp only [Act.put, List.setIfInBounds_toArray, List.set_cons_zero, List.set_cons_succ, i64_w, i32_w]
                rfl
              refine done_ (done_of HT_.out (by kernel_rfl)) ?_
              try go_wp2_with (first | (go_at_call 30; (with_reducible refine (ratio_size.calls (wrap64 (Int.tdiv a1_0 (wrap64 (t303)))) t304 _ A30.out).mono ?_); rintro e w' ⟨rfl, ⟨nd, rfl⟩⟩; (try simp only [World.drewN_drewN]); (try (rw [drewN_self w57]; generalize hq_ : World.drewN w57 _ = w57; have n0_ : Aside0 (w57.heap[gb294]? = some (.cells #[.int .i64 a0_0, .int .i64 a0_1] 23 (0, 0))) := ⟨by rw [← hq_]; exact (by (with_reducible repeat (first | refine blk_drewN ?_ _ | refine blk_drew ?_ | refine blk_alloc ?_ _)); exact BK294.out)⟩; have n1_ : Aside0 (w57.heap[gb295]? = some (.cells #[.int .i64 a1_0, .int .i64 a1_1] 23 (0, 0))) := ⟨by rw [← hq_]; exact (by (with_reducible repeat (first | refine blk_drewN ?_ _ | refine blk_drew ?_ | refine blk_alloc ?_ _)); exact BK295.out)⟩; have n2_ : Aside0 (w57.heap[gb296]? = some (.cells #[.int .i64 0, .int .i64 0] 23 (0, 0))) := ⟨by rw [← hq_]; exact (by (with_reducible repeat (first | refine blk_drewN ?_ _ | refine blk_drew ?_ | refine blk_alloc ?_ _)); exact BK296.out)⟩; have n3_ : Aside0 (Below w.heap.size w w57) := ⟨by rw [← hq_]; exact (by repeat (first | (with_reducible first | exact HB.out | apply below_alloc | apply pw_below_drewN | apply below_drew1 | refine below_set ?_ GE294.out | refine below_set ?_ GE295.out | refine below_set ?_ GE296.out) | exact HB.out))⟩; clear BK294 BK295 BK296 HB hq_; have BK294 := n0_; have BK295 := n1_; have BK296 := n2_; have HB := n3_; clear n0_ n1_ n2_ n3_))) | (go_at_call 30; (with_reducible refine (ratio_size.calls (wrap64 (Int.tdiv a0_0 (wrap64 (t300)))) t305 _ A31.out).mono ?_); rintro e w' ⟨rfl, ⟨nd, rfl⟩⟩; (try simp only [World.drewN_drewN]); (try (rw [drewN_self w57]; generalize hq_ : World.drewN w57 _ = w57; have n0_ : Aside0 (w57.heap[gb294]? = some (.cells #[.int .i64 a0_0, .int .i64 a0_1] 23 (0, 0))) := ⟨by rw [← hq_]; exact (by (with_reducible repeat (first | refine blk_drewN ?_ _ | refine blk_drew ?_ | refine blk_alloc ?_ _)); exact BK294.out)⟩; have n1_ : Aside0 (w57.heap[gb295]? = some (.cells #[.int .i64 a1_0, .int .i64 a1_1] 23 (0, 0))) := ⟨by rw [← hq_]; exact (by (with_reducible repeat (first | refine blk_drewN ?_ _ | refine blk_drew ?_ | refine blk_alloc ?_ _)); exact BK295.out)⟩; have n2_ : Aside0 (w57.heap[gb296]? = some (.cells #[.int .i64 0, .int .i64 0] 23 (0, 0))) := ⟨by rw [← hq_]; exact (by (with_reducible repeat (first | refine blk_drewN ?_ _ | refine blk_drew ?_ | refine blk_alloc ?_ _)); exact BK296.out)⟩; have n3_ : Aside0 (Below w.heap.size w w57) := ⟨by rw [← hq_]; exact (by repeat (first | (with_reducible first | exact HB.out | apply below_alloc | apply pw_below_drewN | apply below_drew1 | refine below_set ?_ GE294.out | refine below_set ?_ GE295.out | refine below_set ?_ GE296.out) | exact HB.out))⟩; clear BK294 BK295 BK296 HB hq_; have BK294 := n0_; have BK295 := n1_; have BK296 := n2_; have HB := n3_; clear n0_ n1_ n2_ n3_))))
              have n0_ := Aside0.mk (blk_drew BK294.out)
              have n1_ := Aside0.mk (blk_drew BK295.out)
              have n2_ := Aside0.mk (blk_drew BK296.out)
              have n3_ := Aside0.mk (below_drew1 HB.out)
              clear BK294
              clear BK295
              clear BK296
              clear HB
              have BK294 := n0_
              have BK295 := n1_
              have BK296 := n2_
              have HB := n3_
              clear n0_ n1_ n2_ n3_
              refine start_ (n := 17) (S := fun w' => w'.cell? ⟨gb294, 0, none⟩ = some (.int .i64 a0_0) ∧ w'.cell? ⟨gb294, 1, none⟩ = some (.int .i64 a0_1) ∧ w'.cell? ⟨gb295, 0, none⟩ = some (.int .i64 a1_0) ∧ w'.cell? ⟨gb295, 1, none⟩ = some (.int .i64 a1_1)) (ds := []) #[false, false, false, false, false, false, false, false, false, false, false, false, false, false, false, false, false] (by kernel_rfl) rfl rfl ⟨(blk_cell BK294.out 0).trans rfl, (blk_cell BK294.out 1).trans rfl, (blk_cell BK295.out 0).trans rfl, (blk_cell BK295.out 1).trans rfl⟩ (fun hHeld => ?_); refine with_tabW ratio_Mul.tab8 ratio_Mul.bits8 (fun HT_ HW_ => ?_)
              generalize w57.drew = w58 at BK294 BK295 BK296 HB hHeld ⊢
              refine pure_ (i := 0) (N := some 53) (v := ?_) (a' := ?_) #[true, false, false, false, false, false, false, false, false, false, false, false, false, false, false, false, false] rfl rfl (any_of HT_.out (by kernel_rfl)) (fun _ _ _ h => h) (Or.inl ⟨by rfl, ?_⟩) ?_ ?_
              rotate_left
              · intro w'
                go_simp
                with_reducible rfl
              rotate_left
              · simp only [Act.put, List.setIfInBounds_toArray, List.set_cons_zero, List.set_cons_succ, i64_w, i32_w]
                rfl
              refine pure_ (i := 1) (N := some 54) (v := ?_) (a' := ?_) #[true, true, false, false, false, false, false, false, false, false, false, false, false, false, false, false, false] rfl rfl (any_of HT_.out (by kernel_rfl)) (fun _ _ _ h => h) (Or.inl ⟨by rfl, ?_⟩) ?_ ?_
              rotate_left
              · intro w'
                go_simp
                with_reducible rfl
              rotate_left
              · simp only [Act.put, List.setIfInBounds_toArray, List.set_cons_zero, List.set_cons_succ, i64_w, i32_w]
                rfl
              refine pure_ (i := 2) (N := some 55) (v := ?_) (a' := ?_) #[true, true, true, false, false, false, false, false, false, false, false, false, false, false, false, false, false] rfl rfl (any_of HT_.out (by kernel_rfl)) (fun _ _ _ h => h) (Or.inl ⟨by rfl, ?_⟩) ?_ ?_
              rotate_left
              · intro w'
                go_simp
                with_reducible rfl
              rotate_left
              · simp only [Act.put, List.setIfInBounds_toArray, List.set_cons_zero, List.set_cons_succ, i64_w, i32_w]
                rfl
              refine pure_ (i := 3) (N := some 56) (v := ?_) (a' := ?_) #[true, true, true, true, false, false, false, false, false, false, false, false, false, false, false, false, false] rfl rfl (any_of HT_.out (by kernel_rfl)) (fun _ _ _ h => h) (Or.inl ⟨by rfl, ?_⟩) ?_ ?_
              rotate_left
              · intro w'
                go_simp
                with_reducible rfl
              rotate_left
              · simp only [Act.put, List.setIfInBounds_toArray, List.set_cons_zero, List.set_cons_succ, i64_w, i32_w]
                rfl
              refine pure_ (i := 5) (N := some 58) (v := ?_) (a' := ?_) #[true, true, true, true, false, true, false, false, false, false, false, false, false, false, false, false, false] rfl rfl (any_of HT_.out (by kernel_rfl)) (fun _ _ _ h => h) (Or.inl ⟨by rfl, ?_⟩) ?_ ?_
              rotate_left
              · intro w'
                go_simp
                with_reducible rfl
              rotate_left
              · simp only [Act.put, List.setIfInBounds_toArray, List.set_cons_zero, List.set_cons_succ, i64_w, i32_w]
                rfl
              refine pure_ (i := 7) (N := some 60) (v := ?_) (a' := ?_) #[true, true, true, true, false, true, false, true, false, false, false, false, false, false, false, false, false] rfl rfl (any_of HT_.out (by kernel_rfl)) (fun _ _ _ h => h) (Or.inl ⟨by rfl, ?_⟩) ?_ ?_
              rotate_left
              · intro w'
                go_simp
                with_reducible rfl
              rotate_left
              · simp only [Act.put, List.setIfInBounds_toArray, List.set_cons_zero, List.set_cons_succ, i64_w, i32_w]
                rfl
              refine pure_ (i := 9) (N := some 62) (v := ?_) (a' := ?_) #[true, true, true, true, false, true, false, true, false, true, false, false, false, false, false, false, false] rfl rfl (any_of HT_.out (by kernel_rfl)) (fun _ _ _ h => h) (Or.inl ⟨by rfl, ?_⟩) ?_ ?_
              rotate_left
              · intro w'
                go_simp
                with_reducible rfl
              rotate_left
              · simp only [Act.put, List.setIfInBounds_toArray, List.set_cons_zero, List.set_cons_succ, i64_w, i32_w]
                rfl
              refine take_ (i := 4) (N := some 57) (v := ?_) (a' := ?_) #[true, true, true, true, true, true, false, true, false, true, false, false, false, false, false, false, false] rfl rfl (take_ofW HT_.out HW_.out (by kernel_rfl)) (fun _ _ _ h => h) (Or.inl ⟨by rfl, ?_⟩) hHeld ?_ ?_
              rotate_left
              · rintro w' ⟨s0, s1, s2, s3⟩
                go_simp
                with_reducible rfl
              rotate_left
              · simp only [Act.put, List.setIfInBounds_toArray, List.set_cons_zero, List.set_cons_succ, i64_w, i32_w]
                rfl
              refine pure_ (i := 6) (N := some 59) (v := ?_) (a' := ?_) #[true, true, true, true, true, true, true, true, false, true, false, false, false, false, false, false, false] rfl rfl (any_of HT_.out (by kernel_rfl)) (fun _ _ _ h => h) (Or.inl ⟨by rfl, ?_⟩) ?_ ?_
              rotate_left
              · intro w'
                go_simp
                with_reducible rfl
              rotate_left
              · simp only [Act.put, List.setIfInBounds_toArray, List.set_cons_zero, List.set_cons_succ, i64_w, i32_w]
                rfl
              refine take_ (i := 8) (N := some 61) (v := ?_) (a' := ?_) #[true, true, true, true, true, true, true, true, true, true, false, false, false, false, false, false, false] rfl rfl (take_ofW HT_.out HW_.out (by kernel_rfl)) (fun _ _ _ h => h) (Or.inl ⟨by rfl, ?_⟩) hHeld ?_ ?_
              rotate_left
              · rintro w' ⟨s0, s1, s2, s3⟩
                go_simp
                with_reducible rfl
              rotate_left
              · simp only [Act.put, List.setIfInBounds_toArray, List.set_cons_zero, List.set_cons_succ, i64_w, i32_w]
                rfl
              refine pure_ (i := 10) (N := some 63) (v := ?_) (a' := ?_) #[true, true, true, true, true, true, true, true, true, true, true, false, false, false, false, false, false] rfl rfl (any_of HT_.out (by kernel_rfl)) (fun _ _ _ h => h) (Or.inl ⟨by rfl, ?_⟩) ?_ ?_
              rotate_left
              · intro w'
                go_simp
                with_reducible rfl
              rotate_left
              · simp only [Act.put, List.setIfInBounds_toArray, List.set_cons_zero, List.set_cons_succ, i64_w, i32_w]
                rfl
              refine pure_ (i := 11) (N := some 64) (v := ?_) (a' := ?_) #[true, true, true, true, true, true, true, true, true, true, true, true, false, false, false, false, false] rfl rfl (any_of HT_.out (by kernel_rfl)) (fun _ _ _ h => h) (Or.inl ⟨by rfl, ?_⟩) ?_ ?_
              rotate_left
              · intro w'
                go_simp
                with_reducible rfl
              rotate_left
              · simp only [Act.put, List.setIfInBounds_toArray, List.set_cons_zero, List.set_cons_succ, i64_w, i32_w]
                rfl
              refine one_ (i := 12) (N := some 65) #[true, true, true, true, true, true, true, true, true, true, true, true, true, false, false, false, false] rfl rfl (one_of HT_.out (by kernel_rfl)) (by decide) (fun K hK => ?_)
              refine goes_ Tryd.func9 (by kernel_rfl) rfl #[.int .i64 (wrap64 ((wrap64 (Int.tdiv a0_0 (wrap64 (t300)))) * (wrap64 (Int.tdiv a1_0 (wrap64 (t303)))))), .int .i64 (wrap64 ((wrap64 (Int.tdiv a0_1 (wrap64 (t303)))) * (wrap64 (Int.tdiv a1_1 (wrap64 (t300))))))] (by rfl) rfl rfl (by (try simp only [List.map_toArray, List.map_cons, List.map_nil]); first | done | rfl | (simp only [List.length_drop, List.length_take]; rfl)) ?_
              with_reducible refine (ratio_New.calls k (wrap64 ((wrap64 (Int.tdiv a0_0 (wrap64 (t300)))) * (wrap64 (Int.tdiv a1_0 (wrap64 (t303)))))) (wrap64 ((wrap64 (Int.tdiv a0_1 (wrap64 (t303)))) * (wrap64 (Int.tdiv a1_1 (wrap64 (t300)))))) t309 t310 t311 _ A46.out).mono ?_
              rintro e w59 ⟨rfl, hb⟩
              refine ⟨_, rfl, ?_⟩
              have n0_ := Aside0.mk (blk_below (g := gb294) (o := .cells #[.int .i64 a0_0, .int .i64 a0_1] 23 (0, 0)) (by (with_reducible repeat (first | refine blk_drewN ?_ _ | refine blk_drew ?_ | refine blk_alloc ?_ _)); exact BK294.out) hb)
              have n1_ := Aside0.mk (blk_below (g := gb295) (o := .cells #[.int .i64 a1_0, .int .i64 a1_1] 23 (0, 0)) (by (with_reducible repeat (first | refine blk_drewN ?_ _ | refine blk_drew ?_ | refine blk_alloc ?_ _)); exact BK295.out) hb)
              have n2_ := Aside0.mk (blk_below (g := gb296) (o := .cells #[.int .i64 0, .int .i64 0] 23 (0, 0)) (by (with_reducible repeat (first | refine blk_drewN ?_ _ | refine blk_drew ?_ | refine blk_alloc ?_ _)); exact BK296.out) hb)
              have n3_ := Aside0.mk (below_step (by repeat (first | (with_reducible first | exact HB.out | apply below_alloc | apply pw_below_drewN | apply below_drew1 | refine below_set ?_ GE294.out | refine below_set ?_ GE295.out | refine below_set ?_ GE296.out) | exact HB.out)) hb)
              clear BK294
              clear BK295
              clear BK296
              clear HB
              have BK294 := n0_
              have BK295 := n1_
              have BK296 := n2_
              have HB := n3_
              clear n0_ n1_ n2_ n3_
              (try clear hb)
              (try clear hb2)
              (try clear hk)
              (try clear hi)
              refine hK.out _ _ ⟨(blk_cell BK294.out 0).trans rfl, (blk_cell BK294.out 1).trans rfl, (blk_cell BK295.out 0).trans rfl, (blk_cell BK295.out 1).trans rfl⟩ (fun hHeld => ?_)
              clear hK K
              refine norm_ (a' := ?_) ?_ ?_
              rotate_left
              · show Act.put _ (some 65) _ = _
                simp only [Act.put, List.setIfInBounds_toArray, List.set_cons_zero, List.set_cons_succ, i64_w, i32_w]
                rfl
              refine pure_ (i := 13) (N := some 66) (v := ?_) (a' := ?_) #[true, true, true, true, true, true, true, true, true, true, true, true, true, true, false, false, false] rfl rfl (any_of HT_.out (by kernel_rfl)) (fun _ _ _ h => h) (Or.inl ⟨by rfl, ?_⟩) ?_ ?_
              rotate_left
              · intro w'
                go_simp
                with_reducible rfl
              rotate_left
              · simp only [Act.put, List.setIfInBounds_toArray, List.set_cons_zero, List.set_cons_succ, i64_w, i32_w]
                rfl
              refine pure_ (i := 14) (N := some 67) (v := ?_) (a' := ?_) #[true, true, true, true, true, true, true, true, true, true, true, true, true, true, true, false, false] rfl rfl (any_of HT_.out (by kernel_rfl)) (fun _ _ _ h => h) (Or.inl ⟨by rfl, ?_⟩) ?_ ?_
              rotate_left
              · intro w'
                go_simp
                with_reducible rfl
              rotate_left
              · simp only [Act.put, List.setIfInBounds_toArray, List.set_cons_zero, List.set_cons_succ, i64_w, i32_w]
                rfl
              refine one_ (i := 15) (N := none) #[true, true, true, true, true, true, true, true, true, true, true, true, true, true, true, true, false] rfl rfl (one_of HT_.out (by kernel_rfl)) (by decide) (fun K hK => ?_)
              have hs60 : w59.cell? ⟨gb296, 0, none⟩ = some (.int .i64 0) := (blk_cell BK296.out 0).trans rfl
              have hfs60 := blk_frozen BK296.out 0
              have hns60_0 := NB294_296.out
              have hns60_1 := NB295_296.out
              have hms60_0 := NB296_294.out
              have hms60_1 := NB296_295.out
              have hs61 : w59.cell? ⟨gb296, 1, none⟩ = some (.int .i64 0) := (blk_cell BK296.out 1).trans rfl
              have hfs61 := blk_frozen BK296.out 1
              have hns61_0 := NB294_296.out
              have hns61_1 := NB295_296.out
              have hms61_0 := NB296_294.out
              have hms61_1 := NB296_295.out
              refine skip_ (w1 := ?_) (by rfl) rfl ?_ ?_
              rotate_left
              · go_simp
                rfl
              refine hK.out _ _ ⟨((cell_far (p := ⟨gb296, _, none⟩) NB294_296.out _).trans (((cell_far (p := ⟨gb296, _, none⟩) NB294_296.out _).trans (hHeld.1)))), ((cell_far (p := ⟨gb296, _, none⟩) NB294_296.out _).trans (((cell_far (p := ⟨gb296, _, none⟩) NB294_296.out _).trans (hHeld.2.1)))), ((cell_far (p := ⟨gb296, _, none⟩) NB295_296.out _).trans (((cell_far (p := ⟨gb296, _, none⟩) NB295_296.out _).trans (hHeld.2.2.1)))), ((cell_far (p := ⟨gb296, _, none⟩) NB295_296.out _).trans (((cell_far (p := ⟨gb296, _, none⟩) NB295_296.out _).trans (hHeld.2.2.2))))⟩ (fun hHeld => ?_)
              clear hK K
              refine pure_ (i := 16) (N := some 5) (v := ?_) (a' := ?_) #[true, true, true, true, true, true, true, true, true, true, true, true, true, true, true, true, true] rfl rfl (any_of HT_.out (by kernel_rfl)) (fun _ _ _ h => h) (Or.inl ⟨by rfl, ?_⟩) ?_ ?_
              rotate_left
              · intro w'
                go_simp
                with_reducible rfl
              rotate_left
              · simp only [Act.put, List.setIfInBounds_toArray, List.set_cons_zero, List.set_cons_succ, i64_w, i32_w]
                rfl
              refine done_ (done_of HT_.out (by kernel_rfl)) ?_
              try go_wp2
              refine bodyPost_ret (results_ct rfl _ _ gb296 23 #[.int .i64 t309, .int .i64 t310] (0, 0) _ rfl (by (with_reducible repeat (first | refine blk_drewN ?_ _ | refine blk_drew ?_ | refine blk_alloc ?_ _)); refine blk_put (cs := #[.int .i64 t309, .int .i64 0]) ?_ 1 _ rfl; (with_reducible repeat (first | refine blk_drewN ?_ _ | refine blk_drew ?_ | refine blk_alloc ?_ _)); refine blk_put (cs := #[.int .i64 0, .int .i64 0]) ?_ 0 _ rfl; (with_reducible repeat (first | refine blk_drewN ?_ _ | refine blk_drew ?_ | refine blk_alloc ?_ _)); exact BK296.out) Tryd.underlying23 rfl (by kernel_rfl)) rfl ?_
              exact ⟨by first | rfl | (simp [errW_none, errW_some] <;> rfl) | (simp [*, errW_none, errW_some] <;> rfl), by repeat (first | (with_reducible first | exact HB.out | apply below_alloc | apply pw_below_drewN | apply below_drew1 | refine below_set ?_ GE294.out | refine below_set ?_ GE295.out | refine below_set ?_ GE296.out) | exact HB.out)⟩
  · rw [if_neg c4] at H
    have c4b0 : (t297 == 0) = false := beq_eq_false_iff_ne.mpr c4
    have c4b1 : (t297 != 0) = true := bne_iff_ne.mpr c4
    simp only [Option.some.injEq, Prod.mk.injEq] at H
    obtain ⟨rfl, rfl, rfl⟩ := H
    go_enter Tryd.func25, Tryd.ntmps25
    go_wp2_with (first | ((with_reducible refine gate_dst (N := 2) rfl ?_); refine box_event ?hg (N := 2) ?hd (cs := #[.int .i64 a0_0, .int .i64 a0_1]) (t := 23) ?hr ?_; (case hd => rfl); (case hg => rfl); (case hr => first | (go_simp; done) | (go_simp; rfl)); intro gb294 hg w62 hbox hb; have n0_ := Aside0.mk (below_step (by repeat (first | (with_reducible first | exact HB.out | apply below_alloc | apply pw_below_drewN | apply below_drew1) | exact HB.out)) hb); have n1_ := Aside0.mk (hbox); have n2_ := Aside0.mk ((by rw [hg]; exact (below_size (by repeat (first | (with_reducible first | exact HB.out | apply below_alloc | apply pw_below_drewN | apply below_drew1) | exact HB.out))) : w.heap.size ≤ gb294)); have n3_ := Aside0.mk ((by rw [hg]; exact (below_size (by repeat (first | (with_reducible first | exact HB.out | apply below_alloc | apply pw_below_drewN | apply below_drew1) | exact HB.out))) : w.heap.size ≤ gb294)); clear HB; have HB := n0_; have BK294 := n1_; have GW294 := n2_; have GE294 := n3_; clear n0_ n1_ n2_ n3_; clear hb hbox hg) | ((with_reducible refine gate_dst (N := 3) rfl ?_); refine box_event ?hg (N := 3) ?hd (cs := #[.int .i64 a1_0, .int .i64 a1_1]) (t := 23) ?hr ?_; (case hd => rfl); (case hg => rfl); (case hr => first | (go_simp; done) | (go_simp; rfl)); intro gb295 hg w63 hbox hb; have n0_ := Aside0.mk (blk_below (g := gb294) (o := .cells #[.int .i64 a0_0, .int .i64 a0_1] 23 (0, 0)) (by (with_reducible repeat (first | refine blk_drewN ?_ _ | refine blk_drew ?_ | refine blk_alloc ?_ _)); exact BK294.out) hb); have n1_ := Aside0.mk (below_step (by repeat (first | (with_reducible first | exact HB.out | apply below_alloc | apply pw_below_drewN | apply below_drew1 | refine below_set ?_ GE294.out) | exact HB.out)) hb); have n2_ := Aside0.mk (hbox); have n3_ := Aside0.mk ((by rw [hg]; exact (below_size (by repeat (first | (with_reducible first | exact HB.out | apply below_alloc | apply pw_below_drewN | apply below_drew1 | refine below_set ?_ GE294.out) | exact HB.out))) : w.heap.size ≤ gb295)); have n4_ := Aside0.mk ((by rw [hg]; exact (below_size (by repeat (first | (with_reducible first | exact HB.out | apply below_alloc | apply pw_below_drewN | apply below_drew1 | refine below_set ?_ GE294.out) | exact HB.out))) : w.heap.size ≤ gb295)); have n5_ := Aside0.mk ((by rw [hg]; exact Nat.ne_of_lt (blk_lt (g := gb294) (o := .cells #[.int .i64 a0_0, .int .i64 a0_1] 23 (0, 0)) (by (with_reducible repeat (first | refine blk_drewN ?_ _ | refine blk_drew ?_ | refine blk_alloc ?_ _)); exact BK294.out)) : gb294 ≠ gb295)); have n6_ := Aside0.mk ((by rw [hg]; exact Nat.ne_of_gt (blk_lt (g := gb294) (o := .cells #[.int .i64 a0_0, .int .i64 a0_1] 23 (0, 0)) (by (with_reducible repeat (first | refine blk_drewN ?_ _ | refine blk_drew ?_ | refine blk_alloc ?_ _)); exact BK294.out)) : gb295 ≠ gb294)); clear BK294; clear HB; have BK294 := n0_; have HB := n1_; have BK295 := n2_; have GW295 := n3_; have GE295 := n4_; have NB294_295 := n5_; have NB295_294 := n6_; clear n0_ n1_ n2_ n3_ n4_ n5_ n6_; clear hb hbox hg) | ((with_reducible refine gate_dst (N := 4) rfl ?_); refine box_event ?hg (N := 4) ?hd (cs := #[.int .i64 0, .int .i64 0]) (t := 23) ?hr ?_; (case hd => rfl); (case hg => rfl); (case hr => first | (go_simp; done) | (go_simp; rfl)); intro gb296 hg w64 hbox hb; have n0_ := Aside0.mk (blk_below (g := gb294) (o := .cells #[.int .i64 a0_0, .int .i64 a0_1] 23 (0, 0)) (by (with_reducible repeat (first | refine blk_drewN ?_ _ | refine blk_drew ?_ | refine blk_alloc ?_ _)); exact BK294.out) hb); have n1_ := Aside0.mk (blk_below (g := gb295) (o := .cells #[.int .i64 a1_0, .int .i64 a1_1] 23 (0, 0)) (by (with_reducible repeat (first | refine blk_drewN ?_ _ | refine blk_drew ?_ | refine blk_alloc ?_ _)); exact BK295.out) hb); have n2_ := Aside0.mk (below_step (by repeat (first | (with_reducible first | exact HB.out | apply below_alloc | apply pw_below_drewN | apply below_drew1 | refine below_set ?_ GE294.out | refine below_set ?_ GE295.out) | exact HB.out)) hb); have n3_ := Aside0.mk (hbox); have n4_ := Aside0.mk ((by rw [hg]; exact (below_size (by repeat (first | (with_reducible first | exact HB.out | apply below_alloc | apply pw_below_drewN | apply below_drew1 | refine below_set ?_ GE294.out | refine below_set ?_ GE295.out) | exact HB.out))) : w.heap.size ≤ gb296)); have n5_ := Aside0.mk ((by rw [hg]; exact (below_size (by repeat (first | (with_reducible first | exact HB.out | apply below_alloc | apply pw_below_drewN | apply below_drew1 | refine below_set ?_ GE294.out | refine below_set ?_ GE295.out) | exact HB.out))) : w.heap.size ≤ gb296)); have n6_ := Aside0.mk ((by rw [hg]; exact Nat.ne_of_lt (blk_lt (g := gb294) (o := .cells #[.int .i64 a0_0, .int .i64 a0_1] 23 (0, 0)) (by (with_reducible repeat (first | refine blk_drewN ?_ _ | refine blk_drew ?_ | refine blk_alloc ?_ _)); exact BK294.out)) : gb294 ≠ gb296)); have n7_ := Aside0.mk ((by rw [hg]; exact Nat.ne_of_gt (blk_lt (g := gb294) (o := .cells #[.int .i64 a0_0, .int .i64 a0_1] 23 (0, 0)) (by (with_reducible repeat (first | refine blk_drewN ?_ _ | refine blk_drew ?_ | refine blk_alloc ?_ _)); exact BK294.out)) : gb296 ≠ gb294)); have n8_ := Aside0.mk ((by rw [hg]; exact Nat.ne_of_lt (blk_lt (g := gb295) (o := .cells #[.int .i64 a1_0, .int .i64 a1_1] 23 (0, 0)) (by (with_reducible repeat (first | refine blk_drewN ?_ _ | refine blk_drew ?_ | refine blk_alloc ?_ _)); exact BK295.out)) : gb295 ≠ gb296)); have n9_ := Aside0.mk ((by rw [hg]; exact Nat.ne_of_gt (blk_lt (g := gb295) (o := .cells #[.int .i64 a1_0, .int .i64 a1_1] 23 (0, 0)) (by (with_reducible repeat (first | refine blk_drewN ?_ _ | refine blk_drew ?_ | refine blk_alloc ?_ _)); exact BK295.out)) : gb296 ≠ gb295)); clear BK294; clear BK295; clear HB; have BK294 := n0_; have BK295 := n1_; have HB := n2_; have BK296 := n3_; have GW296 := n4_; have GE296 := n5_; have NB294_296 := n6_; have NB296_294 := n7_; have NB295_296 := n8_; have NB296_295 := n9_; clear n0_ n1_ n2_ n3_ n4_ n5_ n6_ n7_ n8_ n9_; clear hb hbox hg; have hnb65 := NB294_295.out; have hnc65 := NB295_294.out; have hnb66 := NB294_296.out; have hnc66 := NB296_294.out; have hcz67_0 : w64.cell? ⟨gb294, 0, none⟩ = some (.int .i64 a0_0) := (blk_cell BK294.out 0).trans rfl; have hcz67_1 : w64.cell? ⟨gb294, 1, none⟩ = some (.int .i64 a0_1) := (blk_cell BK294.out 1).trans rfl; have hfz67_0 := blk_frozen BK294.out 0; have hfz67_1 := blk_frozen BK294.out 1; have hnb68 := NB295_296.out; have hnc68 := NB296_295.out; have hcz69_0 : w64.cell? ⟨gb295, 0, none⟩ = some (.int .i64 a1_0) := (blk_cell BK295.out 0).trans rfl; have hcz69_1 : w64.cell? ⟨gb295, 1, none⟩ = some (.int .i64 a1_1) := (blk_cell BK295.out 1).trans rfl; have hfz69_0 := blk_frozen BK295.out 0; have hfz69_1 := blk_frozen BK295.out 1) | ((with_reducible refine gate_callee (f := 40) rfl ?_); refine goesL_ (some 13) rfl rfl Tryd.func40 (by kernel_rfl) rfl #[.agg #[.int .i64 a0_0, .int .i64 a0_1], .agg #[.int .i64 a1_0, .int .i64 a1_1]] rfl (by (try simp only [List.map_toArray, List.map_cons, List.map_nil]); first | done | rfl | (simp only [List.length_drop, List.length_take]; rfl)) ?_; (with_reducible refine (ratio_both.calls k a0_0 a0_1 a1_0 a1_1 t297 _ A3.out).mono ?_); rintro e w70 ⟨rfl, hb⟩; refine ⟨_, rfl, ?_⟩; have n0_ := Aside0.mk (blk_below (g := gb294) (o := .cells #[.int .i64 a0_0, .int .i64 a0_1] 23 (0, 0)) (by (with_reducible repeat (first | refine blk_drewN ?_ _ | refine blk_drew ?_ | refine blk_alloc ?_ _)); exact BK294.out) hb); have n1_ := Aside0.mk (blk_below (g := gb295) (o := .cells #[.int .i64 a1_0, .int .i64 a1_1] 23 (0, 0)) (by (with_reducible repeat (first | refine blk_drewN ?_ _ | refine blk_drew ?_ | refine blk_alloc ?_ _)); exact BK295.out) hb); have n2_ := Aside0.mk (blk_below (g := gb296) (o := .cells #[.int .i64 0, .int .i64 0] 23 (0, 0)) (by (with_reducible repeat (first | refine blk_drewN ?_ _ | refine blk_drew ?_ | refine blk_alloc ?_ _)); exact BK296.out) hb); have n3_ := Aside0.mk (below_step (by repeat (first | (with_reducible first | exact HB.out | apply below_alloc | apply pw_below_drewN | apply below_drew1 | refine below_set ?_ GE294.out | refine below_set ?_ GE295.out | refine below_set ?_ GE296.out) | exact HB.out)) hb); clear BK294; clear BK295; clear BK296; clear HB; have BK294 := n0_; have BK295 := n1_; have BK296 := n2_; have HB := n3_; clear n0_ n1_ n2_ n3_; (try clear hb); (try clear hb2); (try clear hk); (try clear hi); have hcz71_0 : w70.cell? ⟨gb296, 0, none⟩ = some (.int .i64 0) := (blk_cell BK296.out 0).trans rfl; have hcz71_1 : w70.cell? ⟨gb296, 1, none⟩ = some (.int .i64 0) := (blk_cell BK296.out 1).trans rfl; have hfz71_0 := blk_frozen BK296.out 0; have hfz71_1 := blk_frozen BK296.out 1))
    refine bodyPost_ret (results_ct rfl _ _ gb296 23 #[.int .i64 0, .int .i64 0] (0, 0) _ rfl (by (with_reducible repeat (first | refine blk_drewN ?_ _ | refine blk_drew ?_ | refine blk_alloc ?_ _)); refine blk_put (cs := #[.int .i64 0, .int .i64 0]) ?_ 1 _ rfl; (with_reducible repeat (first | refine blk_drewN ?_ _ | refine blk_drew ?_ | refine blk_alloc ?_ _)); refine blk_put (cs := #[.int .i64 0, .int .i64 0]) ?_ 0 _ rfl; (with_reducible repeat (first | refine blk_drewN ?_ _ | refine blk_drew ?_ | refine blk_alloc ?_ _)); exact BK296.out) Tryd.underlying23 rfl (by kernel_rfl)) rfl ?_
    exact ⟨by first | rfl | (simp [errW_none, errW_some] <;> rfl) | (simp [*, errW_none, errW_some] <;> rfl), by repeat (first | (with_reducible first | exact HB.out | apply below_alloc | apply pw_below_drewN | apply below_drew1 | refine below_set ?_ GE294.out | refine below_set ?_ GE295.out | refine below_set ?_ GE296.out) | exact HB.out)⟩
end Go.Proofs.YtighihhaljofdaaDoor.P
