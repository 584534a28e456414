/- Texts for the law PayslipForms (kept out of a larger one). -/
import Derived.Test.YtlanldccamphcaaDoorZPayslipForms11
import Derived.Test.YtlanldccamphcaaDoorZPayslipForms22
import Derived.Test.YtlanldccamphcaaDoorZPayslipForms12
import Derived.Test.YtlanldccamphcaaDoorZPayslipForms23
import Derived.Shelf.SlSortCmp.WholeK
import Derived.Shelf.SlSortCmp.NoneTotal
import Derived.WalkKit
import Derived.Below
namespace Go.Proofs.YtlanldccamphcaaDoor.P
set_option linter.unusedVariables false
set_option linter.unusedSimpArgs false
open Go Go.RowKit Go.Sort Go.Proofs Go.Proofs.YtlanldccamphcaaDoorW.PrintWords Go.Proofs.YtlanldccamphcaaDoorW.PrintLast Go.Proofs.YtlanldccamphcaaDoorW.PrintMore
instance : Inhabited S23 := ⟨z23⟩
def encX (x : S23) : List Value := [.int .i64 x.f0, .string x.f1, .int .i64 x.f2]
theorem ltOf_cmp (x y : S23) : ltOf cmpP x y = decide (keyLt x y) := by
  rw [Bool.eq_iff_iff, decide_eq_true_iff]
  unfold ltOf cmpP Lib.compareInt cmpStr keyLt
  rw [decide_eq_true_iff]
  rw [Go.Proofs.bytesLess_eq, Lib.toList_data, Lib.toList_data]
  generalize x.f1.data.toList = a
  generalize y.f1.data.toList = b
  rcases Int.lt_trichotomy x.f0 y.f0 with h | h | h
  · have h1 : ¬ x.f0 = y.f0 := by omega
    simp [h, h1]
  · have h1 : ¬ x.f0 < y.f0 := by omega
    have h2 : ¬ y.f0 < x.f0 := by omega
    by_cases h3 : a < b
    · simp [h, h3, List.lt_irrefl]
    · by_cases h4 : a = b
      · subst h4; simp [h, h3]
      · simp [h, h3, h4]
  · have h1 : ¬ x.f0 < y.f0 := by omega
    have h2 : ¬ x.f0 = y.f0 := by omega
    simp [h, h1, h2]
theorem swoP : SWO (ltOf cmpP) where
  irrefl x := by rw [ltOf_cmp, decide_eq_false]; exact fun h => h.irrefl (keyEq.refl x)
  trans x y z h1 h2 := by
    rw [ltOf_cmp] at *
    exact decide_eq_true ((of_decide_eq_true h1).trans (of_decide_eq_true h2))
  ntrans x y z h1 h2 := by
    rw [ltOf_cmp] at *
    have h1 := of_decide_eq_false h1
    have h2 := of_decide_eq_false h2
    refine decide_eq_false (fun h => ?_)
    rcases keyLt.total y z with k | k | k
    · exact h2 k
    · exact h1 (h.right k.symm)
    · exact h1 (h.trans k)
theorem take_drop_flat {α : Type} (enc : α → List Value) (k : Nat) (hk : ∀ x, (enc x).length = k) : ∀ (l : List α) (j : Nat) (p : α), l[j]? = some p → ((l.flatMap enc).drop (j * k)).take k = enc p
  | [], j, p, h => by simp at h
  | x :: r, 0, p, h => by
    have : x = p := by simpa using h
    subst this
    rw [List.flatMap_cons, Nat.zero_mul, List.drop_zero, List.take_append_of_le_length (by rw [hk]; exact Nat.le_refl _), ← hk x, List.take_length]
  | x :: r, j + 1, p, h => by
    have h' : r[j]? = some p := by simpa using h
    have := take_drop_flat enc k hk r j p h'
    have e : (enc x ++ r.flatMap enc).drop (k + j * k) = (r.flatMap enc).drop (j * k) := by
      rw [← List.drop_drop, ← hk x, List.drop_left]
    rw [List.flatMap_cons, Nat.add_mul, Nat.one_mul, Nat.add_comm (j * k) k, e]
    exact this
theorem reps_flat {α : Type} {R : α → List Value → Prop} (enc : α → List Value) (k : Nat) (hk : ∀ x, (enc x).length = k) (hR : ∀ p c, R p c → c = enc p) {ps : List α} {cs : List Value} (h : Reps R k ps cs) : cs = ps.flatMap enc := by
  obtain ⟨hl, h⟩ := h
  apply List.ext_getElem
  · rw [hl, flatMap_len' enc k hk]
  · intro t h1 h2
    have k0 : 0 < k := by rcases Nat.eq_zero_or_pos k with e | e; · rw [hl, e] at h1; simp at h1
                          · exact e
    have hj : t / k < ps.length := by rw [hl] at h1; exact Nat.div_lt_of_lt_mul (by rw [Nat.mul_comm]; exact h1)
    have e1 := hR _ _ (h (t / k) ps[t / k] (List.getElem?_eq_getElem hj))
    have e2 := take_drop_flat enc k hk ps (t / k) ps[t / k] (List.getElem?_eq_getElem hj)
    have e3 : (cs.drop (t / k * k)).take k = ((ps.flatMap enc).drop (t / k * k)).take k := e1.trans e2.symm
    have hm : t % k < k := Nat.mod_lt _ k0
    have hdm : t / k * k + t % k = t := Nat.div_add_mod' t k
    have e4 := congrArg (fun l => l[t % k]?) e3
    simp only [List.getElem?_take, if_pos hm, List.getElem?_drop, hdm] at e4
    rw [List.getElem?_eq_getElem h1, List.getElem?_eq_getElem h2] at e4
    exact Option.some.inj e4
where flatMap_len' {α : Type} (enc : α → List Value) (k : Nat) (hk : ∀ x, (enc x).length = k) : ∀ l : List α, (l.flatMap enc).length = l.length * k
  | [] => by simp
  | x :: r => by rw [List.flatMap_cons, List.length_append, hk, flatMap_len' enc k hk r, List.length_cons, Nat.add_mul, Nat.one_mul, Nat.add_comm]
theorem reps_mk {α : Type} [Inhabited α] {R : α → List Value → Prop} (enc : α → List Value) (k : Nat) (hk : ∀ x, (enc x).length = k) (hR : ∀ p, R p (enc p)) (ps : List α) : Reps R k ps (ps.flatMap enc) :=
  ⟨flatMap_len enc k hk ps, fun j p hj => by rw [take_drop_flat enc k hk ps j p hj]; exact hR p⟩
theorem isAggL (w : World) : (isAgg 23).run Tryd.prog w = .ok true w := by kernel_rfl
theorem sizeOfL (w : World) : (Go.sizeOf 23).run Tryd.prog w = .ok 3 w := by kernel_rfl
theorem cmpLays (blk off size : Nat) (w : World) : CmpLays Tryd.prog 34 #[] encX 3 cmpP blk off size w := fun m os dk hs x y => by
  have h := compare_calls x y (sortWorldK encX 3 w blk off m dk os)
  simpa [encX] using h
theorem sort_calls (base : Nat) (v : Value) (C : List S23) (w0 W : World) (ok : Nat → Prop) (HR : Kd.R k23 23 W base ok v C) (HB : Below base w0 W) (hb : base ≤ W.heap.size) (hC : C.length < 4611686018427387904) :
    Calls Tryd.prog 42 #[v, .func (.func 34) #[] #[]] W fun e w' => e = .returned (.tuple #[]) ∧
      ∃ C', C'.Perm C ∧ C'.Pairwise (fun x y => ¬ keyLt y x) ∧ Kd.R k23 23 w' base ok v C' ∧ Below base w0 w' := by
  have HR0 := HR
  obtain ⟨hok, inner, hown, hreps⟩ := HR
  have hin : inner = C.flatMap encX := reps_flat encX 3 (fun _ => rfl) (fun p c hc => k23_openM hc) hreps
  subst hin
  by_cases hn : 0 < C.length
  · obtain ⟨g, cap, rfl, hbg, hlt, hH, hmax, hafter⟩ := own_sort encX (fun _ => rfl) C hn hown
    have eg : ∀ args w, (callFunc 34 args).run Tryd.prog w = .ok (.enter 34 args) w := enters_of Tryd.func34 (by kernel_rfl) rfl
    have hS := AnyQ.slices_SortFunc Tryd.sortL 3 isAggL sizeOfL encX (fun _ => rfl) (fun x v hv => by simp [encX] at hv; rcases hv with rfl | rfl | rfl <;> rfl) cmpP swoP 34 #[] g 0 cap C.toArray W eg (cmpLays g 0 _ W) hH hlt (by rw [List.size_toArray]; exact hC)
    rw [List.size_toArray] at hS
    refine Calls.mono hS ?_
    rintro e w' ⟨rfl, d', n, os, hp, hs, rfl⟩
    have hp' : PermIn 0 C.toArray.size C.toArray d' := by rw [List.size_toArray]; exact hp
    obtain ⟨hperm, hsz⟩ := perm_of_permIn hp'
    rw [List.size_toArray] at hsz
    obtain ⟨ho', hg'⟩ := hafter n d' os hsz
    refine ⟨rfl, d'.toList, by simpa using hperm, ?_, ⟨hok, d'.toList.flatMap encX, ?_, ?_⟩, ?_⟩
    · refine (pairwise_of_sortedIn hsz hs).imp ?_
      intro a b h
      rw [ltOf_cmp] at h
      exact of_decide_eq_false h
    · rw [Array.length_toList (xs := d')]
      exact ho'
    · exact reps_mk encX 3 (fun _ => rfl) (fun p => k23_mkM _ _ _ p) _
    · exact HB.grown hg' hb (fun k hk => by cases hk; exact hbg)
  · obtain rfl : C = [] := List.length_eq_zero_iff.1 (by omega)
    obtain ⟨A, c, rfl⟩ := Kd.R_slice HR0
    refine Calls.mono (AnyF.slices_SortFunc_none (P := Tryd.prog) (ρ := Tryd.sortL_ren) { Tryd.sortL with } A c (.func (.func 34) #[] #[]) W) ?_
    rintro e w' ⟨rfl, rfl⟩
    exact ⟨rfl, [], List.Perm.refl _, List.Pairwise.nil, HR0, HB⟩
end Go.Proofs.YtlanldccamphcaaDoor.P
