/- Texts for the law PayslipForms (kept out of a larger one). -/
import Derived.Test.YtlanldccamphcaaDoorZPayslipForms11
import Derived.Test.YtlanldccamphcaaDoorZPayslipForms14
import Derived.Test.YtlanldccamphcaaDoorZPayslipForms31
import Derived.Test.YtlanldccamphcaaDoorZPayslipForms27
import Derived.Test.YtlanldccamphcaaDoorZPayslipForms21
import Derived.Test.YtlanldccamphcaaDoorZPayslipForms12
import Derived.Test.YtlanldccamphcaaDoorZPayslipForms28
import Derived.Test.YtlanldccamphcaaDoorZPayslipForms25
import Derived.Test.YtlanldccamphcaaDoorZPayslipForms26
import Derived.Maps.RangeWalk
import Derived.WalkKit
import Derived.Below
namespace Go.Proofs.YtlanldccamphcaaDoor.P
set_option linter.unusedVariables false
set_option linter.unusedSimpArgs false
open Go Go.RowKit Go.Maps Go.ChangeMaps Go.MapKept Go.WideShapes Go.Proofs.YtlanldccamphcaaDoorW.PrintWords Go.Proofs.YtlanldccamphcaaDoorW.PrintLast Go.Proofs.YtlanldccamphcaaDoorW.PrintMore
def negX (x : S23) : S23 := ⟨x.f0, x.f1, wrap64 (-x.f2)⟩
def cmpS (a b : List S23) : List S23 := (sumS a).foldl (fun S x => putS S (negX x)) (sumS b)
def payslip_Compare.f (k : Nat) (a b : List S23) : Option (List S23 × Int) :=
  (codeS k a).bind fun c => if c = 0 then (codeS k b).bind fun d => if d = 0 then (if allT (cmpS a b) = true then some (dropZ (cmpS a b), 0) else some ([], 4)) else some ([], d) else some ([], c)
structure Cmp (D1 D2 : DataW Unit) (left : Lit → Bool) (D : DataW Unit) : Prop where
  isMap : IsMap D
  has : ∀ k c, (Lit.int .i64 k).wf = true → c.size ≤ maxLen → Maps.has D (keyL k c) = (Maps.has D2 (keyL k c) || (Maps.has D1 (keyL k c) && !left (keyL k c)))
  num : ∀ k c, (Lit.int .i64 k).wf = true → c.size ≤ maxLen → numD D k c = if Maps.has D1 (keyL k c) = true ∧ left (keyL k c) = false then wrap64 (numD D2 k c - numD D1 k c) else numD D2 k c
theorem cmp_start (D1 D2 : DataW Unit) (h : IsMap D2) : Cmp D1 D2 (Maps.has D1) D2 :=
  ⟨h, fun k c _ _ => by cases Maps.has D1 (keyL k c) <;> simp, fun k c _ _ => by rw [if_neg]; rintro ⟨a, b⟩; rw [a] at b; cases b⟩
theorem cmp_step {D1 D2 : DataW Unit} {left : Lit → Bool} {D : DataW Unit} {k : Int} {c : ByteArray} {n : Int} (h : Cmp D1 D2 left D) (h1 : (Lit.int .i64 k).wf = true) (h2 : c.size ≤ maxLen) (h3 : numD D1 k c = n) (h4 : Maps.has D1 (keyL k c) = true) (h5 : left (keyL k c) = true) :
    Cmp D1 D2 (fun z => left z && !z.sameKey (keyL k c)) (D.put (keyL k c) (.lit (.int .i64 (wrap64 (numD D k c - n))))) := by
  have hself : (keyL k c).sameKey (keyL k c) = true := WideAt.sameKey_self (keyL_lit k c)
  have hm : ∃ es, D.put (keyL k c) (.lit (.int .i64 (wrap64 (numD D k c - n)))) = .map es := by obtain ⟨es, rfl⟩ := h.isMap; exact ⟨_, rfl⟩
  refine ⟨hm, fun k2 c2 a b => ?_, fun k2 c2 a b => ?_⟩
  · by_cases e : k = k2 ∧ c = c2
    · obtain ⟨rfl, rfl⟩ := e
      rw [has_put_same h.isMap (keyL_lit _ _)]
      simp [h4, hself]
    · have hne := keyL_ne e h1 h2 a b
      have hs : (keyL k2 c2).sameKey (keyL k c) = false := by
        cases hs : (keyL k2 c2).sameKey (keyL k c) with
        | false => rfl
        | true => exact absurd (WideAt.sameKey_eq hs).symm hne
      rw [has_put_other (fun e' => hne e'.symm), h.has k2 c2 a b]
      simp [hs]
  · by_cases e : k = k2 ∧ c = c2
    · obtain ⟨rfl, rfl⟩ := e
      rw [numD_put_same h.isMap, if_pos ⟨h4, by simp [hself]⟩, h3, h.num k c a b, if_neg (by rw [h5]; simp)]
    · have hne := keyL_ne e h1 h2 a b
      have hs : (keyL k2 c2).sameKey (keyL k c) = false := by
        cases hs : (keyL k2 c2).sameKey (keyL k c) with
        | false => rfl
        | true => exact absurd (WideAt.sameKey_eq hs).symm hne
      rw [numD_put_other _ (fun e' => hne e'.symm), h.num k2 c2 a b]
      simp [hs]
theorem fine_of_all {S : List S23} (h : ∀ x ∈ S, okX x) (ht : allT S = true) : ∀ x ∈ S, fineX x := fun x hx => by
  unfold allT at ht
  have := List.all_eq_true.1 ht x hx
  unfold totalB at this
  simp only [Bool.and_eq_true, decide_eq_true_eq] at this
  exact ⟨h x hx, this.1, this.2⟩
theorem fold_neg : ∀ (A T : List S23), A.Pairwise keyLt → T.Pairwise keyLt → (∀ x ∈ A, fineX x) → (∀ z, totalB (valS T z) = true) →
    (A.foldl (fun S x => putS S (negX x)) T).Pairwise keyLt ∧ (∀ z, (look (A.foldl (fun S x => putS S (negX x)) T) z).isSome = ((look T z).isSome || (look A z).isSome)) ∧
      ∀ z, valS (A.foldl (fun S x => putS S (negX x)) T) z = if (look A z).isSome = true then wrap64 (valS T z - valS A z) else valS T z
  | [], T, _, hT, _, _ => ⟨hT, fun z => by simp [look], fun z => by simp [look]⟩
  | x :: A, T, hA, hT, hf, ht => by
    obtain ⟨hx1, hA'⟩ := List.pairwise_cons.1 hA
    have hfx := hf x List.mem_cons_self
    have hn : (negX x).f2 = -x.f2 := by show wrap64 (-x.f2) = _; have := hfx.2; unfold wrap64; omega
    have hnb : -1000000000000 ≤ (negX x).f2 ∧ (negX x).f2 ≤ 1000000000000 := by rw [hn]; have := hfx.2; omega
    have hT' := sorted_putS (x := negX x) hT
    show (A.foldl (fun S x => putS S (negX x)) (putS T (negX x))).Pairwise keyLt ∧ _
    -- a general word on what comes: the rest, over a list whose numbers are not all totals
    have gen : ∀ (A T : List S23), A.Pairwise keyLt → T.Pairwise keyLt → (∀ x ∈ A, fineX x) → (∀ z, (look A z).isSome = true → totalB (valS T z) = true) →
        (A.foldl (fun S x => putS S (negX x)) T).Pairwise keyLt ∧ (∀ z, (look (A.foldl (fun S x => putS S (negX x)) T) z).isSome = ((look T z).isSome || (look A z).isSome)) ∧
          ∀ z, valS (A.foldl (fun S x => putS S (negX x)) T) z = if (look A z).isSome = true then wrap64 (valS T z - valS A z) else valS T z := by
      intro A
      induction A with
      | nil => intro T _ hT _ _; exact ⟨hT, fun z => by simp [look], fun z => by simp [look]⟩
      | cons x A ih =>
        intro T hA hT hf ht
        obtain ⟨hx1, hA'⟩ := List.pairwise_cons.1 hA
        have hfx := hf x List.mem_cons_self
        have hn : (negX x).f2 = -x.f2 := by show wrap64 (-x.f2) = _; have := hfx.2; unfold wrap64; omega
        have hnb : -1000000000000 ≤ (negX x).f2 ∧ (negX x).f2 ≤ 1000000000000 := by rw [hn]; have := hfx.2; omega
        have hT' := sorted_putS (x := negX x) hT
        have hno : look A x = none := look_lt (fun y hy => hx1 y hy)
        have hkx : ∀ z, keyEq (negX x) z ↔ keyEq x z := fun z => ⟨fun h => ⟨h.1, h.2⟩, fun h => ⟨h.1, h.2⟩⟩
        have hnoz : ∀ z, keyEq x z → look A z = none := fun z hz => by rw [← look_congr hz]; exact hno
        obtain ⟨i1, i2, i3⟩ := ih (putS T (negX x)) hA' hT' (fun y hy => hf y (List.mem_cons_of_mem _ hy)) (fun z hz => by
          have hne : ¬ keyEq (negX x) z := fun h => by rw [hnoz z ((hkx z).1 h)] at hz; cases hz
          rw [valS_putS hT hnb, if_neg hne]
          refine ht z ?_
          show (if keyEq x z then some x.f2 else look A z).isSome = true
          rw [if_neg (fun h => hne ((hkx z).2 h))]; exact hz)
        refine ⟨i1, fun z => ?_, fun z => ?_⟩
        · show (look (A.foldl (fun S x => putS S (negX x)) (putS T (negX x))) z).isSome = _
          rw [i2 z, some_putS hT]
          show _ = ((look T z).isSome || (if keyEq x z then some x.f2 else look A z).isSome)
          by_cases e : keyEq x z
          · rw [if_pos ((hkx z).2 e), if_pos e]; simp
          · rw [if_neg (fun h => e ((hkx z).1 h)), if_neg e]
        · show valS (A.foldl (fun S x => putS S (negX x)) (putS T (negX x))) z = _
          rw [i3 z, valS_putS hT hnb]
          have e1 : look (x :: A) z = if keyEq x z then some x.f2 else look A z := rfl
          have e2 : valS (x :: A) z = if keyEq x z then x.f2 else valS A z := by unfold valS; rw [e1]; by_cases e : keyEq x z <;> simp [e]
          rw [e1, e2]
          by_cases e : keyEq x z
          · have hv : valS T (negX x) = valS T z := valS_congr ((hkx z).2 e)
            rw [if_pos ((hkx z).2 e), if_pos e, if_pos e, hnoz z e, hn, hv]
            simp [Int.sub_eq_add_neg]
          · rw [if_neg (fun h => e ((hkx z).1 h)), if_neg e, if_neg e]
    exact gen (x :: A) T hA hT hf (fun z _ => ht z)
theorem cmp_rel {a b : List S23} (ha : Rel (sumsD a) (sumS a)) (hb : Rel (sumsD b) (sumS b)) (ta : allT (sumS a) = true) (tb : allT (sumS b) = true) {left : Lit → Bool} {D : DataW Unit} (h : Cmp (sumsD a) (sumsD b) left D) (hl : ∀ kl, left kl = false) : Rel D (cmpS a b) := by
  obtain ⟨h1, h2, h3⟩ := fold_neg (sumS a) (sumS b) ha.sorted hb.sorted (fine_of_all ha.ok ta) ((allT_valS hb.sorted).1 tb)
  refine ⟨h.isMap, h1, ?_, fun k c hk hc => ?_, fun k c hk hc => ?_⟩
  · have gen : ∀ (A T : List S23), (∀ x ∈ A, okX x) → (∀ x ∈ T, okX x) → ∀ x ∈ A.foldl (fun S x => putS S (negX x)) T, okX x := by
      intro A
      induction A with
      | nil => intro T _ hT; exact hT
      | cons x A ih => intro T hA hT; exact ih _ (fun y hy => hA y (List.mem_cons_of_mem _ hy)) (ok_putS hT (hA x List.mem_cons_self))
    exact gen _ _ ha.ok hb.ok
  · rw [h.has k c hk hc, hb.has k c hk hc, ha.has k c hk hc, hl]
    unfold cmpS
    rw [h2]; simp
  · rw [h.num k c hk hc, hb.num k c hk hc, ha.num k c hk hc, ha.has k c hk hc, hl]
    unfold cmpS
    rw [h3]; simp
theorem all_has {D : DataW Unit} {S : List S23} (h : Rel D S) (ht : ∀ k c, (Lit.int .i64 k).wf = true → c.size ≤ maxLen → Maps.has D (keyL k c) = true → totalB (numD D k c) = true) : allT S = true := by
  unfold allT
  rw [List.all_eq_true]
  intro x hx
  have hx1 := h.ok x hx
  have := ht x.f0 x.f1 hx1.1 hx1.2 (by rw [h.has _ _ hx1.1 hx1.2, look_congr (show keyEq (probeX x.f0 x.f1) x from ⟨rfl, rfl⟩), look_mem h.sorted hx]; rfl)
  rwa [h.num _ _ hx1.1 hx1.2, valS_congr (show keyEq (probeX x.f0 x.f1) x from ⟨rfl, rfl⟩), valS_mem h.sorted hx] at this
theorem no_total {D : DataW Unit} {S : List S23} (h : Rel D S) {k : Int} {c : ByteArray} (h1 : (Lit.int .i64 k).wf = true) (h2 : c.size ≤ maxLen) (h3 : totalB (numD D k c) = false) : allT S = false := by
  cases ht : allT S with
  | false => rfl
  | true =>
    have := (allT_valS h.sorted).1 ht (probeX k c)
    rw [← h.num _ _ h1 h2, h3] at this
    cases this
def cmp_T10 : Bool × List (List Nat × List Nat) := (true, [([], []), ([], []), ([0, 1], [0, 1]), ([], []), ([2, 3], [2, 3]), ([0, 1, 0, 1, 3], [0, 1]), ([5], [5]), ([0, 6, 4, 5, 0, 1, 2, 3, 4, 5, 6], [0, 4, 6])])
def cmp_B10 : List Nat := [0, 0, 3, 0, 15, 11, 43, 127]
theorem cmp_tab10 : rtab .any (opsOf Tryd.f17 10) = cmp_T10 := by kernel_rfl
theorem cmp_bits10 : waitsOk cmp_T10.2 cmp_B10 = true := by kernel_rfl
set_option maxRecDepth 100000 in
theorem payslip_Compare.calls (k : Nat) (A0 : Option Addr) (c0 : Nat) (l0 : List (S23)) (A1 : Option Addr) (c1 : Nat) (l1 : List (S23)) (r1 : List (S23)) (r2 : Int) (w : World) (hr0 : Kd.C k23 w A0 l0.length l0) (hc0 : l0.length ≤ c0) (hr1 : Kd.C k23 w A1 l1.length l1) (hc1 : l1.length ≤ c1) (h : payslip_Compare.f k l0 l1 = some (r1, r2)) :
    Calls Tryd.prog 17 #[.slice A0 l0.length c0, .slice A1 l1.length c1] w fun e w' => ∃ v0_ : Value, e = .returned (.tuple #[v0_, .int .i64 r2]) ∧ Kd.R k23 23 w' w.heap.size (fun _ => True) v0_ r1 ∧ Below w.heap.size w w' := by
  unfold payslip_Compare.f at h
  cases hc : codeS k l0 with
  | none => rw [hc] at h; cases h
  | some c =>
  rw [hc] at h
  simp only [Option.bind_some] at h
  by_cases hz : c = 0
  · subst hz
    rw [if_pos rfl] at h
    cases hd : codeS k l1 with
    | none => rw [hd] at h; cases h
    | some d =>
    rw [hd] at h
    simp only [Option.bind_some] at h
    have HSo := Aside0.mk (sums_ok k A0 c0 l0 w hr0 hc)
    by_cases hz : d = 0
    · subst hz
      rw [if_pos rfl] at h
      have HS1 := Aside0.mk (fun (W : World) (hW : Below w.heap.size w W) => sums_ok k A1 c1 l1 W (Kd.C_below hr1 hW) hd)
      have HFin := Aside0.mk h
      clear h hc hd hr0 hc0 hr1 hc1
      go_enter Tryd.func17, Tryd.ntmps17
      go_wp2_with (first
        | (go_at_call 29; (with_reducible refine HSo.out.mono ?_); rintro e w1 ⟨B1, n1, rfl, h1, h2, h3, h4, h5, h6, h7⟩; have G1 := Aside0.mk h1; have G2 := Aside0.mk h2; have G3 := Aside0.mk h3; have G4 := Aside0.mk h4; have G6 := Aside0.mk h6; have G7 := Aside0.mk h7; clear h1 h2 h3 h4 h5 h6 h7 HSo)
        | (go_at_call 29; (with_reducible refine (HS1.out _ G7.out).mono ?_); rintro e w2 ⟨B2, n2, rfl, h1, h2, h3, h4, h5, h6, h7⟩; have F1 := Aside0.mk h1; have F2 := Aside0.mk h2; have F3 := Aside0.mk h3; have F4 := Aside0.mk h4; have F6 := Aside0.mk h6; have F7 := Aside0.mk h7; clear h1 h2 h3 h4 h5 h6 h7)
        | (have G3' := Aside0.mk (G3.out.kept (grown_of_below F7.out none) (by simp)); refine wpList_range_own _ rfl _ 56 rfl 60 3 keyed Tryd.underlying56 _ B1 n1 _ rfl G3'.out ?_; intro w3 hr3 hg3 hs3))
      have FB := Aside0.mk (below_then G7.out G7.out.size F7.out)
      have FB3 := Aside0.mk (FB.out.grown hg3 FB.out.size (by simp))
      have F3' := Aside0.mk (F3.out.kept hg3 (by simp))
      have HB12 := Aside0.mk (show B1 ≠ B2 from fun e => by have := F1.out; have := G3.out.lt; omega)
      have HBr := Aside0.mk (show B2 < w2.heap.size from F3.out.lt)
      have HR3 := Aside0.mk hr3
      have HRz := Aside0.mk FB.out.size
      clear hg3 hs3 hr3 HS1 F3 FB
      generalize w2.heap.size = rb at *
      (try simp only [Act.put, List.setIfInBounds_toArray, List.set_cons_zero, List.set_cons_succ])
      go_loopw [] (fun wr => ∃ (left : Lit → Bool) (cnt j : Nat) (D : DataW Unit), wr.ranges Tryd.prog 60 (plainElem Tryd.prog 3) B1 rb n1 (sumsD l0) left cnt ∧ Aside0 (OwnsS wr B2 (n2 + j) D) ∧ Aside0 (j + cnt ≤ n1) ∧ Aside0 (Cmp (sumsD l0) (sumsD l1) left D) ∧ Aside0 (Below w.heap.size w wr)) (fun wr => wr.rangeLeft B1 rb)
      case atStart => exact ⟨_, _, 0, _, HR3.out, F3', ⟨by rw [Nat.zero_add]; exact G3.out.size_le⟩, ⟨cmp_start _ _ F4.out.isMap⟩, FB3⟩
      case round =>
        obtain ⟨left, cnt, j, D, hrg, HO, HJ, HC, HB⟩ := hrel
        go_wp2_with (first
          | (at_next; refine wpList_next_ranges _ rfl _ rfl 60 keyed _ (fun x : Int × ByteArray => keyV x.1 x.2) (Value.int .i64) (fun key kl h => by obtain ⟨k, c, e, _⟩ := keyOf_inv h; exact ⟨(k, c), e⟩) (fun v y h => by obtain ⟨q, hq, _⟩ := plainElem_int_inv Tryd.underlying3 h; exact ⟨q, hq⟩) B1 rb n1 _ _ _ rfl hrg ?_ ?_))
        · intro hc0 hl0
          have HRel := Aside0.mk (cmp_rel G4.out F4.out G6.out F6.out HC.out hl0)
          have HN := Aside0.mk (show n2 + j ≤ 65536 * 2 from by have := HJ.out; have := G2.out; have := F2.out; omega)
          clear hc0 hl0 hrg
          go_wp2_with (first
            | (refine wpList_range_own _ rfl _ 56 rfl 60 3 keyed Tryd.underlying56 _ B2 (n2 + j) _ rfl HO.out ?_; intro w4 hr4 hg4 hs4))
          have HB4 := Aside0.mk (HB.out.grown hg4 HB.out.size (by simp))
          have HR4 := Aside0.mk hr4
          have HZ4 := Aside0.mk HB.out.size
          clear hg4 hs4 hr4
          generalize wr.heap.size = rc at *
          (try simp only [Act.put, List.setIfInBounds_toArray, List.set_cons_zero, List.set_cons_succ])
          go_loopw [] (fun wr2 => ∃ (left2 : Lit → Bool) (cnt2 : Nat), wr2.ranges Tryd.prog 60 (plainElem Tryd.prog 3) B2 rc (n2 + j) D left2 cnt2 ∧ Aside0 (Below w.heap.size w wr2) ∧
            Aside0 (∀ k c, (Lit.int .i64 k).wf = true → c.size ≤ maxLen → Maps.has D (keyL k c) = true → left2 (keyL k c) = true ∨ totalB (numD D k c) = true)) (fun wr2 => wr2.rangeLeft B2 rc)
          case atStart => exact ⟨_, _, HR4.out, HB4, ⟨fun k c _ _ h => Or.inl h⟩⟩
          case round =>
            obtain ⟨left2, cnt2, hrg2, HB2, HT2⟩ := hrel
            go_wp2_with (first
              | (at_next; refine wpList_next_ranges _ rfl _ rfl 60 keyed _ (fun x : Int × ByteArray => keyV x.1 x.2) (Value.int .i64) (fun key kl h => by obtain ⟨k, c, e, _⟩ := keyOf_inv h; exact ⟨(k, c), e⟩) (fun v y h => by obtain ⟨q, hq, _⟩ := plainElem_int_inv Tryd.underlying3 h; exact ⟨q, hq⟩) B2 rc (n2 + j) _ _ _ rfl hrg2 ?_ ?_))
            · intro hc0 hl0
              have HAll := Aside0.mk (show allT (cmpS l0 l1) = true from (all_has HRel.out (fun k c a b e => (HT2.out k c a b e).resolve_left (by rw [hl0]; simp))))
              have HOw := Aside0.mk hrg2.owns
              clear hc0 hl0 hrg2
              go_wp2_with (first
                | (go_at_call 31; (with_reducible refine (lines_walk B2 (n2 + j) _ _ HOw.out.lt HOw.out HN.out).mono ?_); rintro e w9 ⟨v0, C, rfl, k1, k2, k3⟩; have K1 := Aside0.mk k1; have K2 := Aside0.mk k2; have K3 := Aside0.mk k3; clear k1 k2 k3))
              go_ret2
              have hf := HFin.out
              rw [if_pos HAll.out] at hf
              obtain ⟨rfl, rfl⟩ := Prod.mk.inj (Option.some.inj hf)
              refine ⟨_, rfl, ?_, below_then HB2.out HB2.out.size K2.out⟩
              rw [← gotAll_eq HRel.out K3.out]
              exact Kd.R_lower K1.out HB2.out.size
            · intro ka cb v kl ad pl w' cnt' hkey hlk hv hat hrg' hlt hgr hsz hen
              obtain ⟨k', c', e, hw1, hw2, rfl⟩ := keyOf_inv hkey
              have e1 : ka = k' ∧ cb = c' := by simpa [keyV] using e
              obtain ⟨rfl, rfl⟩ := e1
              obtain ⟨q, hq, hd⟩ := plainElem_int_inv Tryd.underlying3 hv
              have hnum : numD D ka cb = v := by
                unfold numD
                rw [hat]
                injection hq with _ hq
                subst hq
                simp only [Prod.mk.injEq] at hd
                rw [hd.1.1]
              have hhas : Maps.has D (keyL ka cb) = true := Maps.has_true_of_atKey hat
              have hB3 := Aside0.mk (HB2.out.grown hgr HB2.out.size (fun j hj => by cases hj; exact HZ4.out))
              have AT := Aside0.mk (total_eq v)
              have HNm := Aside0.mk hnum
              clear hnum hat hv hd hq
              cases hb : totalB v with
              | true =>
                have AT2 := Aside0.mk (AT.out.trans (congrArg some hb))
                have HTv := Aside0.mk hb
                clear AT hb
                go_wp2_with (first | (go_at_call 30; (with_reducible refine (payslip_total.calls v true _ AT2.out).mono ?_); rintro e w8 ⟨rfl, hb⟩; obtain ⟨nn, rfl⟩ := hb.out))
                go_roundw
                case measure =>
                  have m1 := hrg2.left_eq
                  have m2 : (w'.drewN nn).rangeLeft B2 rc = cnt' := hrg'.left_eq
                  rw [m1, m2]; exact hlt
                case rel =>
                  refine ⟨fun z => left2 z && !z.sameKey (keyL ka cb), cnt', hrg', ⟨pw_below_drewN hB3.out nn⟩, ⟨fun k2 c2 h1 h2 h3 => ?_⟩⟩
                  rcases HT2.out k2 c2 h1 h2 h3 with h | h
                  · by_cases hs : (keyL k2 c2).sameKey (keyL ka cb) = true
                    · obtain ⟨e1, e2⟩ := keyL_inj h1 h2 hw1 hw2 (WideAt.sameKey_eq hs)
                      subst e1; subst e2
                      exact Or.inr (by rw [HNm.out]; exact HTv.out)
                    · exact Or.inl (by show (left2 (keyL k2 c2) && !(keyL k2 c2).sameKey (keyL ka cb)) = true; rw [h]; simpa using hs)
                  · exact Or.inr h
              | false =>
                have AT2 := Aside0.mk (AT.out.trans (congrArg some hb))
                have HNo := Aside0.mk (show allT (cmpS l0 l1) = false from no_total HRel.out hw1 hw2 (by rw [HNm.out]; exact hb))
                clear AT hb
                go_wp2_with (first | (go_at_call 30; (with_reducible refine (payslip_total.calls v false _ AT2.out).mono ?_); rintro e w8 ⟨rfl, hb⟩; obtain ⟨nn, rfl⟩ := hb.out))
                go_ret2
                have hf := HFin.out
                rw [if_neg (by rw [HNo.out]; decide)] at hf
                obtain ⟨rfl, rfl⟩ := Prod.mk.inj (Option.some.inj hf)
                exact ⟨_, rfl, Kd.R_nil _ _ _ _ _, pw_below_drewN hB3.out nn⟩
        · intro ka cb v kl ad pl w' cnt' hkey hlk hv hat hrg' hlt hgr hsz hen
          obtain ⟨k', c', e, hw1, hw2, rfl⟩ := keyOf_inv hkey
          have e1 : ka = k' ∧ cb = c' := by simpa [keyV] using e
          obtain ⟨rfl, rfl⟩ := e1
          obtain ⟨q, hq, hd⟩ := plainElem_int_inv Tryd.underlying3 hv
          have hnum : numD (sumsD l0) ka cb = v := by
            unfold numD
            rw [hat]
            injection hq with _ hq
            subst hq
            simp only [Prod.mk.injEq] at hd
            rw [hd.1.1]
          have hhas : Maps.has (sumsD l0) (keyL ka cb) = true := Maps.has_true_of_atKey hat
          have HBw := Aside0.mk (HB.out.grown hgr HB.out.size (fun j hj => by cases hj; exact HRz.out))
          have HOw := Aside0.mk (HO.out.kept hgr (fun e => by injection e with e; have := HBr.out; omega))
          have HNm := Aside0.mk hnum
          have HRg := Aside0.mk hrg'
          have HRo := Aside0.mk hrg
          have HLt := Aside0.mk hlt
          have HLk := Aside0.mk hlk
          have HHas := Aside0.mk hhas
          have HLtN := Aside0.mk (show w.heap.size ≤ w'.heap.size from HBw.out.size)
          clear hnum hat hv hd hq hrg' hrg hlt hlk hhas hsz
          simp only [keyV] at hen ⊢
          go_upto_region 10 with (fail)
          have hal : (w'.alloc (.cells #[.int .i64 ka, .string cb] 60)).heap[w'.heap.size]? = some (.cells #[.int .i64 ka, .string cb] 60 (0, 0)) := (MapKept.heap_alloc _ _).1
          have HO8 : OwnsS (w'.alloc (.cells #[.int .i64 ka, .string cb] 60)) B2 (n2 + j) D := HOw.out.alloc _
          have HB8 : Below w.heap.size w (w'.alloc (.cells #[.int .i64 ka, .string cb] 60)) := HBw.out.alloc HBw.out.size _
          have HR8 := HRg.out.alloc (.cells #[.int .i64 ka, .string cb] 60)
          obtain ⟨V0, ST, wa, wb, hV0, hlk, hme, hlk1, hes, hg1, hg2, hown2⟩ := entry_add (k := ka) (c := cb) (NI := v) ⟨hw1, hw2⟩ HO8.drew (by have := HJ.out; have := G2.out; have := F2.out; unfold maxLen; omega) (wrap64 (numD D ka cb - v)) (wrap64_wf _)
          subst hV0
          have hne : w'.heap.size ≠ B2 := fun e => by have := HOw.out.lt; omega
          have hne1 : B1 ≠ B2 := HB12.out
          have hner : rb ≠ B2 := fun e => by have := HBr.out; omega
          have hcell : ∀ W : World, W.heap[w'.heap.size]? = some (.cells #[.int .i64 ka, .string cb] 60 (0, 0)) →
              W.cell? ⟨w'.heap.size, 0, none⟩ = some (.int .i64 ka) ∧ W.cell? ⟨w'.heap.size, 1, none⟩ = some (.string cb) :=
            fun W h => ⟨(blk_cell h 0).trans rfl, (blk_cell h 1).trans rfl⟩
          have hlt8 : w'.heap.size < (w'.alloc (.cells #[.int .i64 ka, .string cb] 60)).heap.size := by simp
          have hgd1 : wa.heap[w'.heap.size]? = some (.cells #[.int .i64 ka, .string cb] 60 (0, 0)) := (hg1.block _ hlt8 (by simp [hne])).trans hal
          have hgd2 : wb.heap[w'.heap.size]? = some (.cells #[.int .i64 ka, .string cb] 60 (0, 0)) := (hg2.block _ (Nat.lt_of_lt_of_le hlt8 hg1.size) (by simp [hne])).trans hgd1
          have CE := Aside0.mk (hcell (w'.alloc (.cells #[.int .i64 ka, .string cb] 60)).drew hal)
          have CE1 := Aside0.mk (hcell wa hgd1)
          have CE2 := Aside0.mk (hcell wb hgd2)
          have LK := Aside0.mk hlk
          have ME := Aside0.mk hme
          have LK1 := Aside0.mk hlk1
          have ES1 := Aside0.mk hes
          have HG := Aside0.mk (show Below w.heap.size w wb from by
            have hB2 : w.heap.size ≤ B2 := Nat.le_trans G7.out.size F1.out
            have b0 : Below w.heap.size w (w'.alloc (.cells #[.int .i64 ka, .string cb] 60)).drew := below_drew1 HB8
            have b1 := b0.grown hg1 b0.size (fun k hk => by cases hk; exact hB2)
            exact b1.grown hg2 b1.size (fun k hk => by cases hk; exact hB2))
          have HR9 := Aside0.mk (show wb.ranges Tryd.prog 60 (plainElem Tryd.prog 3) B1 rb n1 (sumsD l0) (fun z => left z && !z.sameKey (keyL ka cb)) cnt' from
            ((show (w'.alloc (.cells #[.int .i64 ka, .string cb] 60)).drew.ranges Tryd.prog 60 (plainElem Tryd.prog 3) B1 rb n1 (sumsD l0) (fun z => left z && !z.sameKey (keyL ka cb)) cnt' from HR8).kept hg1 (fun e => by injection e with e; exact hne1 e) (fun e => by injection e with e; exact hner e)).kept hg2 (fun e => by injection e with e; exact hne1 e) (fun e => by injection e with e; exact hner e))
          have HN := Aside0.mk hown2
          clear hlk hme hlk1 hes hg1 hg2 hown2 hal hgd1 hgd2 hcell HR8 HO8 HB8 hlt8
          generalize hgV : numD D ka cb = V0 at *
          have HV := Aside0.mk hgV
          clear hgV
          refine start_ (n := 8) (S := fun w' => True) (ds := []) #[false, false, false, false, false, false, false, false] (by kernel_rfl) rfl rfl trivial (fun hHeld => ?_)
          refine with_tabW cmp_tab10 cmp_bits10 (fun HT_ HW_ => ?_)
          generalize (w'.alloc (.cells #[.int .i64 ka, .string cb] 60)).drew = ws at CE LK ME ⊢
          generalize hSZ : w'.heap.size = SZ at *
          clear hSZ
          refine pure_ (i := 0) (N := some 36) (v := ?_) (a' := ?_) #[true, false, false, false, false, false, false, false] rfl rfl (by kernel_rfl) (fun _ _ _ h => h) (Or.inl ⟨by rfl, ?_⟩) ?_ ?_
          rotate_left
          · intro w'
            go_simp
            with_reducible rfl
          rotate_left
          · simp only [Act.put, List.setIfInBounds_toArray, List.set_cons_zero, List.set_cons_succ, i64_w, i32_w]
            rfl
          refine pure_ (i := 3) (N := some 39) (v := ?_) (a' := ?_) #[true, false, false, true, false, false, false, false] rfl rfl (by kernel_rfl) (fun _ _ _ h => h) (Or.inl ⟨by rfl, ?_⟩) ?_ ?_
          rotate_left
          · intro w'
            go_simp
            with_reducible rfl
          rotate_left
          · simp only [Act.put, List.setIfInBounds_toArray, List.set_cons_zero, List.set_cons_succ, i64_w, i32_w]
            rfl
          refine inv_at [1, 2, 4, 5, 6, 7] (fun a0_ b a w' => a = putSel a0_ b [(1, 37, .agg #[.int .i64 ka, .string cb]), (2, 38, .int .i64 V0), (4, 40, .int .i64 (wrap64 (V0 - v))), (5, 41, .tuple #[.int .i64 V0, .int .i64 ST]), (6, 42, .int .i64 ST)] ∧ (w'.cell? ⟨SZ, 0, none⟩ = some (.int .i64 ka) ∧ w'.cell? ⟨SZ, 1, none⟩ = some (.string cb)) ∧ (b 7 = false → (Instr.lookup 56 (.map (some B2)) (.agg #[.int .i64 ka, .string cb]) false).run Tryd.prog w' = .ok (.int .i64 V0) w') ∧ (b 5 = false → (Instr.mapEntry 56 (.map (some B2)) (.agg #[.int .i64 ka, .string cb])).run Tryd.prog w' = .ok (.tuple #[.int .i64 V0, .int .i64 ST]) wa) ∧ (b 5 = true → b 7 = false → (Instr.entryStore 56 (.map (some B2)) (.int .i64 ST) (.int .i64 (wrap64 (V0 - v)))).run Tryd.prog w' = .ok () wb) ∧ (b 7 = true → w' = wb)) HT_.out HW_.out (by kernel_rfl) (by kernel_rfl) ?_ ?_ ?_
          · exact ⟨by simp only [putSel, Bool.false_eq_true, if_false], CE.out, fun _ => LK.out, fun _ => ME.out, fun h_ => absurd h_ (by decide), fun h_ => absurd h_ (by decide)⟩
          · skip
            clear CE LK ME
            refine steps_cons ?_ ?_
            · rintro b a w' ⟨ha, Q_CE, Q_LK, Q_ME, Q_ES, Q_FIN⟩ hb_ hon hoff
              refine ⟨_, rfl, fun K hK => ?_⟩
              have e9 : a.tmps[9]? = some (.pointer (some ⟨SZ, 0, none⟩)) := by rw [ha]; exact (putSel_off rfl).trans rfl
              replace ha := Aside0.mk ha
              have CE := Aside0.mk Q_CE
              have LK := Aside0.mk (Q_LK (hoff 7 (by kernel_rfl)))
              have ME := Aside0.mk (Q_ME (hoff 5 (by kernel_rfl)))
              have d0 := CE.out.1
              have d1 := CE.out.2
              refine value_ (w1 := w') (v := .agg #[.int .i64 ka, .string cb]) (by rfl) rfl ?_ ?_
              · go_simp
                (try simp only [i64_w])
                try rfl
              refine hK.out _ _ ⟨(by rw [ha.out]; exact putSel_upk 0 hb_ rfl rfl rfl), Q_CE, Q_LK, Q_ME, fun h0_ _ => absurd ((hoff 5 (by kernel_rfl)).symm.trans h0_) (by decide), fun h0_ => absurd ((hoff 7 (by kernel_rfl)).symm.trans h0_) (by decide)⟩
            refine steps_cons ?_ ?_
            · rintro b a w' ⟨ha, Q_CE, Q_LK, Q_ME, Q_ES, Q_FIN⟩ hb_ hon hoff
              refine ⟨_, rfl, fun K hK => ?_⟩
              have e36 : a.tmps[36]? = some (.map (some B2)) := by rw [ha]; exact (putSel_off rfl).trans rfl
              have e37 : a.tmps[37]? = some (.agg #[.int .i64 ka, .string cb]) := by rw [ha]; exact putSel_on (e := (1, 37, .agg #[.int .i64 ka, .string cb])) 0 rfl rfl (hon 1 (by kernel_rfl)) rfl
              replace ha := Aside0.mk ha
              have CE := Aside0.mk Q_CE
              have LK := Aside0.mk (Q_LK (hoff 7 (by kernel_rfl)))
              have e := LK.out
              refine value_ (w1 := w') (v := .int .i64 V0) (by rfl) rfl ?_ ?_
              · go_simp
                (try simp only [i64_w])
                try rfl
              refine hK.out _ _ ⟨(by rw [ha.out]; exact putSel_upk 1 hb_ rfl rfl rfl), Q_CE, Q_LK, Q_ME, Q_ES, fun h0_ => absurd ((hoff 7 (by kernel_rfl)).symm.trans h0_) (by decide)⟩
            refine steps_cons ?_ ?_
            · rintro b a w' ⟨ha, Q_CE, Q_LK, Q_ME, Q_ES, Q_FIN⟩ hb_ hon hoff
              refine ⟨_, rfl, fun K hK => ?_⟩
              have e38 : a.tmps[38]? = some (.int .i64 V0) := by rw [ha]; exact putSel_on (e := (2, 38, .int .i64 V0)) 1 rfl rfl (hon 2 (by kernel_rfl)) rfl
              have e39 : a.tmps[39]? = some (.int .i64 v) := by rw [ha]; exact (putSel_off rfl).trans rfl
              replace ha := Aside0.mk ha
              have CE := Aside0.mk Q_CE
              have LK := Aside0.mk (Q_LK (hoff 7 (by kernel_rfl)))
              refine value_ (w1 := w') (v := .int .i64 (wrap64 (V0 - v))) (by rfl) rfl ?_ ?_
              · go_simp
                (try simp only [i64_w])
                try rfl
              refine hK.out _ _ ⟨(by rw [ha.out]; exact putSel_upk 2 hb_ rfl rfl rfl), Q_CE, Q_LK, Q_ME, Q_ES, fun h0_ => absurd ((hoff 7 (by kernel_rfl)).symm.trans h0_) (by decide)⟩
            refine steps_cons ?_ ?_
            · rintro b a w' ⟨ha, Q_CE, Q_LK, Q_ME, Q_ES, Q_FIN⟩ hb_ hon hoff
              refine ⟨_, rfl, fun K hK => ?_⟩
              have e36 : a.tmps[36]? = some (.map (some B2)) := by rw [ha]; exact (putSel_off rfl).trans rfl
              have e37 : a.tmps[37]? = some (.agg #[.int .i64 ka, .string cb]) := by rw [ha]; exact putSel_on (e := (1, 37, .agg #[.int .i64 ka, .string cb])) 0 rfl rfl (hon 1 (by kernel_rfl)) rfl
              replace ha := Aside0.mk ha
              have CE := Aside0.mk Q_CE
              have LK := Aside0.mk (Q_LK (hoff 7 (by kernel_rfl)))
              have ME := Aside0.mk (Q_ME hb_)
              have e := ME.out
              refine value_ (w1 := wa) (v := .tuple #[.int .i64 V0, .int .i64 ST]) (by rfl) rfl ?_ ?_
              · go_simp
                (try rfl)
              refine hK.out _ _ ⟨(by rw [ha.out]; exact putSel_upk 3 hb_ rfl rfl rfl), CE1.out, fun _ => LK1.out, fun h0_ => absurd ((up_self b 5).symm.trans h0_) (by decide), fun _ _ => ES1.out, fun h0_ => absurd ((hoff 7 (by kernel_rfl)).symm.trans h0_) (by decide)⟩
            refine steps_cons ?_ ?_
            · rintro b a w' ⟨ha, Q_CE, Q_LK, Q_ME, Q_ES, Q_FIN⟩ hb_ hon hoff
              refine ⟨_, rfl, fun K hK => ?_⟩
              have e41 : a.tmps[41]? = some (.tuple #[.int .i64 V0, .int .i64 ST]) := by rw [ha]; exact putSel_on (e := (5, 41, .tuple #[.int .i64 V0, .int .i64 ST])) 3 rfl rfl (hon 5 (by kernel_rfl)) rfl
              replace ha := Aside0.mk ha
              have CE := Aside0.mk Q_CE
              have LK := Aside0.mk (Q_LK (hoff 7 (by kernel_rfl)))
              have ES := Aside0.mk (Q_ES (hon 5 (by kernel_rfl)) (hoff 7 (by kernel_rfl)))
              refine value_ (w1 := w') (v := .int .i64 ST) (by rfl) rfl ?_ ?_
              · go_simp
                (try simp only [i64_w])
                try rfl
              refine hK.out _ _ ⟨(by rw [ha.out]; exact putSel_upk 4 hb_ rfl rfl rfl), Q_CE, Q_LK, fun h0_ => absurd ((hon 5 (by kernel_rfl)).symm.trans h0_) (by decide), Q_ES, fun h0_ => absurd ((hoff 7 (by kernel_rfl)).symm.trans h0_) (by decide)⟩
            refine steps_cons ?_ ?_
            · rintro b a w' ⟨ha, Q_CE, Q_LK, Q_ME, Q_ES, Q_FIN⟩ hb_ hon hoff
              refine ⟨_, rfl, fun K hK => ?_⟩
              have e36 : a.tmps[36]? = some (.map (some B2)) := by rw [ha]; exact (putSel_off rfl).trans rfl
              have e42 : a.tmps[42]? = some (.int .i64 ST) := by rw [ha]; exact putSel_on (e := (6, 42, .int .i64 ST)) 4 rfl rfl (hon 6 (by kernel_rfl)) rfl
              have e40 : a.tmps[40]? = some (.int .i64 (wrap64 (V0 - v))) := by rw [ha]; exact putSel_on (e := (4, 40, .int .i64 (wrap64 (V0 - v)))) 2 rfl rfl (hon 4 (by kernel_rfl)) rfl
              replace ha := Aside0.mk ha
              have CE := Aside0.mk Q_CE
              have LK := Aside0.mk (Q_LK hb_)
              have ES := Aside0.mk (Q_ES (hon 5 (by kernel_rfl)) hb_)
              have e := ES.out
              rw [if_pos (by rfl)]
              unfold Oper.wp
              go_simp
              refine hK.out _ _ ⟨(by rw [ha.out]; exact putSel_none (v := undef) rfl), CE2.out, fun h0_ => absurd ((up_self b 7).symm.trans h0_) (by decide), fun h0_ => absurd ((hon 5 (by kernel_rfl)).symm.trans h0_) (by decide), fun _ h1_ => absurd ((up_self b 7).symm.trans h1_) (by decide), fun _ => rfl⟩
            exact steps_nil
          · rintro b a w' hall ⟨ha, Q_CE, Q_LK, Q_ME, Q_ES, Q_FIN⟩
            clear CE LK ME
            have hb1_ := hall 1 (by kernel_rfl)
            have hb2_ := hall 2 (by kernel_rfl)
            have hb4_ := hall 4 (by kernel_rfl)
            have hb5_ := hall 5 (by kernel_rfl)
            have hb6_ := hall 6 (by kernel_rfl)
            have hb7_ := hall 7 (by kernel_rfl)
            subst ha
            simp only [putSel, hb1_, hb2_, hb4_, hb5_, hb6_, hb7_, if_true, Act.put, List.setIfInBounds_toArray, List.set_cons_zero, List.set_cons_succ]
            have CE := Aside0.mk Q_CE
            clear Q_CE
            clear Q_LK
            clear Q_ME
            clear Q_ES
            have FIN := Aside0.mk (Q_FIN hb7_)
            clear Q_FIN
            clear hall hb2_ hb4_ hb5_ hb6_ hb7_
            have eFin := FIN.out
            subst eFin
            clear FIN CE CE1 CE2 LK1 ES1
            go_wp2
            go_roundw
            case measure =>
              rw [HRo.out.left_eq, HR9.out.left_eq]; exact HLt.out
            case rel =>
              refine ⟨_, cnt', j + 1, _, HR9.out, ⟨HN.out⟩, ⟨by have := HJ.out; have := HLt.out; omega⟩, ⟨?_⟩, HG⟩
              have := cmp_step HC.out hw1 hw2 HNm.out HHas.out HLk.out
              rw [HV.out] at this
              exact this
    · rw [if_neg hz] at h
      obtain ⟨rfl, rfl⟩ := Prod.mk.inj (Option.some.inj h)
      have HS1 := Aside0.mk (fun (W : World) (hW : Below w.heap.size w W) => sums_err k A1 c1 l1 W (Kd.C_below hr1 hW) d hd hz)
      have c1 : (d != 0) = true := by simpa using hz
      clear h hc hd hr0 hc0 hr1 hc1 hz
      go_enter Tryd.func17, Tryd.ntmps17
      go_wp2_with (first
        | (go_at_call 29; (with_reducible refine HSo.out.mono ?_); rintro e w1 ⟨B, n, rfl, h1, h2, h3, h4, h5, h6, h7⟩; have G7 := Aside0.mk h7; clear h1 h2 h3 h4 h5 h6 h7 HSo)
        | (go_at_call 29; (with_reducible refine (HS1.out _ G7.out).mono ?_); rintro e w2 ⟨rfl, h7⟩; have F7 := Aside0.mk h7; clear h7))
      go_ret2
      exact ⟨_, rfl, Kd.R_nil _ _ _ _ _, below_then G7.out G7.out.size F7.out⟩
  · rw [if_neg hz] at h
    obtain ⟨rfl, rfl⟩ := Prod.mk.inj (Option.some.inj h)
    have HSo := Aside0.mk (sums_err k A0 c0 l0 w hr0 c hc hz)
    have c1 : (c != 0) = true := by simpa using hz
    clear h hc hr0 hc0 hr1 hc1 hz
    go_enter Tryd.func17, Tryd.ntmps17
    go_wp2_with (first
      | (go_at_call 29; (with_reducible refine HSo.out.mono ?_); rintro e w1 ⟨rfl, h7⟩; have G7 := Aside0.mk h7; clear h7 HSo))
    go_ret2
    exact ⟨_, rfl, Kd.R_nil _ _ _ _ _, G7.out⟩
end Go.Proofs.YtlanldccamphcaaDoor.P
