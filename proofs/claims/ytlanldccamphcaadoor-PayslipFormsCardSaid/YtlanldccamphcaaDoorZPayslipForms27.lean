/- Texts for the law PayslipForms (kept out of a larger one). -/
import Derived.Test.YtlanldccamphcaaDoorZPayslipForms11
import Derived.Test.YtlanldccamphcaaDoorZPayslipForms21
import Derived.Test.YtlanldccamphcaaDoorZPayslipForms12
import Derived.Test.YtlanldccamphcaaDoorZPayslipForms24
import Derived.Test.YtlanldccamphcaaDoorZPayslipForms25
import Derived.Test.YtlanldccamphcaaDoorZPayslipForms26
import Derived.Maps.RangeWalk
import Derived.WalkKit
import Derived.Below
namespace Go.Proofs.YtlanldccamphcaaDoor.P
set_option linter.unusedVariables false
set_option linter.unusedSimpArgs false
open Go Go.RowKit Go.Maps Go.ChangeMaps Go.MapKept Go.WideShapes Go.Proofs.YtlanldccamphcaaDoorW.PrintWords Go.Proofs.YtlanldccamphcaaDoorW.PrintLast Go.Proofs.YtlanldccamphcaaDoorW.PrintMore
def Got (D : DataW Unit) (left : Lit → Bool) (C : List S23) : Prop :=
  C.Pairwise (fun x y => ¬ keyEq x y) ∧ ∀ x : S23, x ∈ C ↔ (okX x ∧ Maps.has D (keyL x.f0 x.f1) = true ∧ numD D x.f0 x.f1 = x.f2 ∧ x.f2 ≠ 0 ∧ left (keyL x.f0 x.f1) = false)
theorem got_start (D : DataW Unit) : Got D (Maps.has D) [] := by
  refine ⟨List.Pairwise.nil, fun x => ⟨fun h => absurd h (by simp), fun h => ?_⟩⟩
  obtain ⟨_, h1, _, _, h2⟩ := h
  rw [h1] at h2
  exact absurd h2 (by decide)
theorem got_zero {D : DataW Unit} {left : Lit → Bool} {C : List S23} {k : Int} {c : ByteArray} (h : Got D left C) (h1 : (Lit.int .i64 k).wf = true) (h2 : c.size ≤ maxLen) (h3 : numD D k c = 0) :
    Got D (fun z => left z && !z.sameKey (keyL k c)) C := by
  refine ⟨h.1, fun x => (h.2 x).trans ⟨fun ⟨a, b, d, e, f⟩ => ⟨a, b, d, e, by show (left _ && _) = false; rw [f]; rfl⟩, fun ⟨a, b, d, e, f⟩ => ⟨a, b, d, e, ?_⟩⟩⟩
  have f' : (left (keyL x.f0 x.f1) && !(keyL x.f0 x.f1).sameKey (keyL k c)) = false := f
  by_cases hs : (keyL x.f0 x.f1).sameKey (keyL k c) = true
  · obtain ⟨e1, e2⟩ := keyL_inj a.1 a.2 h1 h2 (WideAt.sameKey_eq hs)
    rw [e1, e2, h3] at d
    exact absurd d.symm e
  · simpa [hs] using f'
theorem got_more {D : DataW Unit} {left : Lit → Bool} {C : List S23} {k : Int} {c : ByteArray} {n : Int} (h : Got D left C) (h1 : (Lit.int .i64 k).wf = true) (h2 : c.size ≤ maxLen) (h3 : numD D k c = n) (h4 : n ≠ 0)
    (h5 : Maps.has D (keyL k c) = true) (h6 : left (keyL k c) = true) : Got D (fun z => left z && !z.sameKey (keyL k c)) (C ++ [⟨k, c, n⟩]) := by
  have hself : (keyL k c).sameKey (keyL k c) = true := WideAt.sameKey_self (keyL_lit k c)
  refine ⟨List.pairwise_append.2 ⟨h.1, List.pairwise_singleton _ _, fun a ha b hb => ?_⟩, fun x => ?_⟩
  · rw [List.mem_singleton] at hb
    subst hb
    intro e
    obtain ⟨e1, e2⟩ := e.eq
    have := ((h.2 a).1 ha).2.2.2.2
    simp only at e1 e2
    rw [e1, e2, h6] at this
    cases this
  · rw [List.mem_append, List.mem_singleton]
    constructor
    · rintro (hx | rfl)
      · obtain ⟨a, b, d, e, f⟩ := (h.2 x).1 hx
        exact ⟨a, b, d, e, by show (left _ && _) = false; rw [f]; rfl⟩
      · exact ⟨⟨h1, h2⟩, h5, h3, h4, by show (left _ && !_) = false; rw [hself]; simp⟩
    · rintro ⟨a, b, d, e, f⟩
      have f' : (left (keyL x.f0 x.f1) && !(keyL x.f0 x.f1).sameKey (keyL k c)) = false := f
      by_cases hs : (keyL x.f0 x.f1).sameKey (keyL k c) = true
      · obtain ⟨e1, e2⟩ := keyL_inj a.1 a.2 h1 h2 (WideAt.sameKey_eq hs)
        right
        rw [e1, e2, h3] at d
        cases x; simp only at e1 e2 d; subst e1; subst e2; subst d; rfl
      · exact Or.inl ((h.2 x).2 ⟨a, b, d, e, by simpa [hs] using f'⟩)
def GotAll (D : DataW Unit) (C : List S23) : Prop := C.Pairwise keyLt ∧ ∀ x : S23, x ∈ C ↔ (okX x ∧ Maps.has D (keyL x.f0 x.f1) = true ∧ numD D x.f0 x.f1 = x.f2 ∧ x.f2 ≠ 0)
theorem got_sorted {D : DataW Unit} {left : Lit → Bool} {C C' : List S23} (h : Got D left C) (hl : ∀ kl, left kl = false) (hp : C'.Perm C) (hs : C'.Pairwise (fun x y => ¬ keyLt y x)) : GotAll D C' := by
  refine ⟨?_, fun x => ?_⟩
  · have h1 : C'.Pairwise (fun x y => ¬ keyEq x y) := (hp.pairwise_iff (fun h e => h e.symm)).2 h.1
    refine (hs.and h1).imp ?_
    rintro a b ⟨k1, k2⟩
    rcases keyLt.total a b with k | k | k
    · exact k
    · exact absurd k k2
    · exact absurd k k1
  · rw [hp.mem_iff, h.2 x]
    exact ⟨fun ⟨a, b, c, d, _⟩ => ⟨a, b, c, d⟩, fun ⟨a, b, c, d⟩ => ⟨a, b, c, d, hl _⟩⟩
set_option maxRecDepth 100000 in
theorem lines_walk (B n : Nat) (D : DataW Unit) (w : World) (hB : B < w.heap.size) (hown : OwnsS w B n D) (hn : n ≤ 65536 * 2) :
    Calls Tryd.prog 31 #[.map (some B)] w fun e w' => ∃ (v0 : Value) (C : List S23), e = .returned v0 ∧ Kd.R k23 23 w' w.heap.size (fun _ => True) v0 C ∧ Below w.heap.size w w' ∧ GotAll D C := by
  have hu23 := Tryd.underlying23
  have HO := Aside0.mk hown
  have HN := Aside0.mk hn
  have HBl := Aside0.mk hB
  clear hown hn hB
  go_enter Tryd.func31, Tryd.ntmps31
  go_wp2_with (first
    | (refine wpList_range_own _ rfl _ 56 rfl 60 3 keyed Tryd.underlying56 _ B n _ rfl HO.out ?_; intro w1 hr1 hg1 hs1)
    | go_in)
  have HB1 := Aside0.mk ((Below.refl w.heap.size w).grown hg1 (Nat.le_refl _) (by simp))
  (try simp only [Act.put, List.setIfInBounds_toArray, List.set_cons_zero, List.set_cons_succ])
  go_loopw [3] (fun v3 wr => ∃ (left : Lit → Bool) (cnt : Nat) (C : List S23), wr.ranges Tryd.prog 60 (plainElem Tryd.prog 3) B w.heap.size n D left cnt ∧ Aside0 (Kd.R k23 23 wr w.heap.size (fun b => b ≠ w.heap.size ∧ b ≠ B) v3 C) ∧ Aside0 (Below w.heap.size w wr) ∧ Aside0 (Got D left C) ∧ Aside0 (C.length + cnt ≤ n)) (fun _ wr => wr.rangeLeft B w.heap.size)
  case atStart => exact ⟨_, _, [], hr1, ⟨Kd.R_nil _ _ _ _ _⟩, ⟨HB1.out⟩, ⟨got_start D⟩, ⟨by rw [List.length_nil, Nat.zero_add]; exact HO.out.size_le⟩⟩
  case round =>
    obtain ⟨left, cnt, C, hrg, HR, HB2, HG, HC⟩ := hrel
    go_wp2_with (first
      | (at_next; refine wpList_next_ranges _ rfl _ rfl 60 keyed _ (fun x : Int × ByteArray => keyV x.1 x.2) (Value.int .i64) (fun key kl h => by obtain ⟨k, c, e, _⟩ := keyOf_inv h; exact ⟨(k, c), e⟩) (fun v y h => by obtain ⟨q, hq, _⟩ := plainElem_int_inv Tryd.underlying3 h; exact ⟨q, hq⟩) B w.heap.size n _ _ _ rfl hrg ?_ ?_)
      | go_in)
    · intro hc0 hl0
      have HL0 := Aside0.mk hl0
      have HCl := Aside0.mk (show C.length < 4611686018427387904 from by have := HC.out; have := HN.out; omega)
      clear hl0 hrg
      go_wp2_with ((go_at_call 42; (with_reducible refine (sort_calls w.heap.size _ C w _ _ HR.out HB2.out HB2.out.size HCl.out).mono ?_); rintro e w8 ⟨rfl, C', hp, hs, hr, hb⟩; have HP := Aside0.mk hp; have HS := Aside0.mk hs; have HR9 := Aside0.mk hr; have HB9 := Aside0.mk hb; clear hp hs hr hb))
      go_ret
      exact ⟨_, C', rfl, Kd.R_mono HR9.out (fun _ _ => trivial), HB9.out, got_sorted HG.out HL0.out HP.out HS.out⟩
    · intro ka cb v kl ad pl w' cnt' hkey hlk hv hat hrg' hlt hgr hsz hen
      obtain ⟨k', c', e, hw1, hw2, rfl⟩ := keyOf_inv hkey
      have e1 : ka = k' ∧ cb = c' := by simpa [keyV] using e
      obtain ⟨rfl, rfl⟩ := e1
      obtain ⟨q, hq, hd⟩ := plainElem_int_inv Tryd.underlying3 hv
      have hnum : numD D ka cb = v := by
        unfold numD
        rw [hat]
        injection hq with _ hq
        subst hq
        simp only [Prod.mk.injEq] at hd
        rw [hd.1.1]
      have hhas : Maps.has D (keyL ka cb) = true := Maps.has_true_of_atKey hat
      have HR3 := Aside0.mk (show Kd.R k23 23 w' w.heap.size (fun b => b ≠ w.heap.size ∧ b ≠ B) _ C from Kd.R_grown HR.out hgr (fun k hk => by intro e; injection e with e; exact hk.1 e))
      have HB3 := Aside0.mk (HB2.out.grown hgr HB2.out.size (fun j hj => by cases hj; exact Nat.le_refl _))
      have HNum := Aside0.mk hnum
      have HLt := Aside0.mk hlt
      have HLk := Aside0.mk hlk
      have HHas := Aside0.mk hhas
      have HRg := Aside0.mk hrg'
      have HRo := Aside0.mk hrg
      have HLtN := Aside0.mk (show w.heap.size < w'.heap.size from by have := hrg'.lt; omega)
      clear hnum hat hv hd hq hhas hrg hrg' hlk hlt hsz
      simp only [keyV] at hen ⊢
      by_cases hv0 : v = 0
      · have c1 : (v != 0) = false := by rw [hv0]; rfl
        have HV0 := Aside0.mk hv0
        clear hv0
        go_wp2
        refine ⟨⟨_, cnt', C, HRg.out.alloc _, ⟨Kd.R_alloc HR3.out _⟩, ⟨HB3.out.alloc HB3.out.size _⟩, ⟨got_zero HG.out hw1 hw2 (by rw [HNum.out, HV0.out])⟩, ⟨by have := HC.out; have := HLt.out; omega⟩⟩, ?_⟩
        rw [(HRg.out.alloc _).left_eq, HRo.out.left_eq]
        exact HLt.out
      · have c1 : (v != 0) = true := by simpa using hv0
        have HV0 := Aside0.mk hv0
        have HLl := Aside0.mk (show (C.length + 1) * 32 ≤ 140737488355328 from by have := HC.out; have := HN.out; have := HLt.out; omega)
        clear hv0
        go_wp2_with (first | ((with_reducible refine gate_builtin (b := .append) (xs := #[.tmp 15, .tmp 22]) rfl ?_); at_builtin; refine Kd.R_append k23 (w0 := w) w.heap.size rfl (.tmp 15) (.tmp 22) 33 23 (.agg #[(.int .i64 0), (.string ⟨#[]⟩), (.int .i64 0)]) 32 rfl Tryd.underlying33 info23 rfl (by decide) (by omega) u3 C (⟨ka, cb, v⟩ : S23) [.int .i64 ka, .string cb, .int .i64 v] (fun b => b ≠ w.heap.size ∧ b ≠ B) (fun _ => False) rfl (by first | (go_simp; done) | (go_simp; rfl)) (k23_mkM _ _ _ (⟨ka, cb, v⟩ : S23)) (fun _ hk => hk.elim) (fun b hb => by have h1 := HLtN.out; have h2 := HBl.out; simp at hb; constructor <;> omega) (Kd.R_alloc HR3.out _) (HB3.out.alloc HB3.out.size _) (Nat.le_trans HB3.out.size (by simp)) HLl.out ?_; intro v1 w1 hr1_ hb1_ hg1_ hat1_; have HR5 := Aside0.mk hr1_; have HB5 := Aside0.mk hb1_; have HG5 := Aside0.mk hg1_; have HA5 := Aside0.mk hat1_; clear hr1_ hb1_ hg1_ hat1_))
        have hRg9 := (HRg.out.alloc (.cells #[.int .i64 ka, .string cb] 60)).kept HG5.out (fun e => (HR3.out.1 _ e.symm).2 rfl) (fun e => (HR3.out.1 _ e.symm).1 rfl)
        refine ⟨⟨_, cnt', _, hRg9, ⟨HR5.out⟩, ⟨HB5.out⟩, ⟨got_more HG.out hw1 hw2 HNum.out HV0.out HHas.out HLk.out⟩, ⟨by rw [List.length_append, List.length_singleton]; have := HC.out; have := HLt.out; omega⟩⟩, ?_⟩
        rw [hRg9.left_eq, HRo.out.left_eq]
        exact HLt.out
end Go.Proofs.YtlanldccamphcaaDoor.P
