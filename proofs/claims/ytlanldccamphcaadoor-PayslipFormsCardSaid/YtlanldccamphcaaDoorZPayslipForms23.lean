/- Texts for the law PayslipForms (kept out of a larger one). -/
import Derived.Test.YtlanldccamphcaaDoorZPayslipForms11
import Derived.Shelf.GgSortFunc.InsertionK
import Derived.Laws.AppendOwn
import Derived.Below
namespace Go.Proofs.YtlanldccamphcaaDoor.P
set_option linter.unusedVariables false
set_option linter.unusedSimpArgs false
open Go Go.RowKit Go.Sort Go.Proofs
theorem flatMap_len {α : Type} (enc : α → List Value) (k : Nat) (hk : ∀ x, (enc x).length = k) : ∀ l : List α, (l.flatMap enc).length = l.length * k
  | [] => by simp
  | x :: r => by rw [List.flatMap_cons, List.length_append, hk, flatMap_len enc k hk r, List.length_cons, Nat.add_mul, Nat.one_mul, Nat.add_comm]
theorem flatMap_get {α : Type} [Inhabited α] (enc : α → List Value) (k : Nat) (hk : ∀ x, (enc x).length = k) : ∀ (l : List α) (t : Nat), t < l.length * k → (l.flatMap enc)[t]! = (enc l[t / k]!)[t % k]!
  | [], t, h => by simp at h
  | x :: r, t, h => by
    have k0 : 0 < k := by rcases Nat.eq_zero_or_pos k with e | e; · subst e; simp at h
                          · exact e
    rw [List.flatMap_cons]
    by_cases c : t < k
    · have e1 : t / k = 0 := Nat.div_eq_of_lt c
      have e2 : t % k = t := Nat.mod_eq_of_lt c
      rw [e1, e2]
      simp [List.getElem!_eq_getElem?_getD, List.getElem?_append, hk, c]
    · obtain ⟨u, rfl⟩ : ∃ u, t = u + k := ⟨t - k, by omega⟩
      have e1 : (u + k) / k = u / k + 1 := Nat.add_div_right u k0
      have e2 : (u + k) % k = u % k := Nat.add_mod_right u k
      rw [e1, e2]
      have h' : u < r.length * k := by rw [List.length_cons, Nat.add_mul, Nat.one_mul] at h; omega
      have ih := flatMap_get enc k hk r u h'
      simp only [List.getElem!_eq_getElem?_getD] at ih ⊢
      rw [List.getElem?_append_right (by rw [hk]; omega), hk, Nat.add_sub_cancel, ih, List.getElem?_cons_succ]
theorem flatK_toList {α : Type} [Inhabited α] (enc : α → List Value) (k : Nat) (hk : ∀ x, (enc x).length = k) (d : Array α) : (flatK enc k d).toList = d.toList.flatMap enc := by
  have hs : (flatK enc k d).toList.length = (d.toList.flatMap enc).length := by
    rw [flatMap_len enc k hk, Array.length_toList, size_flatK, Array.length_toList]
  apply List.ext_getElem hs
  intro t h1 h2
  have h3 : t < d.size * k := by rw [Array.length_toList, size_flatK] at h1; exact h1
  have e1 := get_flatK enc k d t h3
  have e2 := flatMap_get enc k hk d.toList t (by rw [Array.length_toList]; exact h3)
  have e3 : (flatK enc k d)[t]! = (flatK enc k d).toList[t] := by
    rw [getElem!_pos (flatK enc k d) t (by rw [size_flatK]; exact h3), Array.getElem_toList]
  have e4 : (d.toList.flatMap enc)[t]! = (d.toList.flatMap enc)[t] := getElem!_pos _ t h2
  rw [← e3, ← e4, e1, e2]
  congr 2
  rw [Array.getElem!_toList]
theorem own_sort {α : Type} [Inhabited α] {w : World} {base : Nat} {e : TypeId} {k : Nat} {v : Value} (enc : α → List Value) (hk : ∀ x, (enc x).length = k) (xs : List α) (hn : 0 < xs.length)
    (h : w.ownsRow base e k v xs.length (xs.flatMap enc)) :
    ∃ g cap, v = .slice (some ⟨g, 0, none⟩) xs.length cap ∧ base ≤ g ∧ g < w.heap.size ∧ HoldsK enc k w g 0 xs.toArray ∧ xs.length ≤ maxLen ∧
      ∀ (m : Nat) (d : Array α) (os : Array Obj), d.size = xs.length →
        (sortWorldK enc k w g 0 m d os).ownsRow base e k v d.size (d.toList.flatMap enc) ∧ w.grownBy (sortWorldK enc k w g 0 m d os) (some g) := by
  obtain ⟨hl, h⟩ := h
  rcases h with ⟨_, h0⟩ | ⟨g, cap, cur, rfl, hb, hh, hc, hm, hsz, ht⟩
  · omega
  have hlt : g < w.heap.size := (Array.getElem?_eq_some_iff.1 hh).1
  have hle : xs.length * k ≤ cur.size := by rw [hsz]; exact Nat.mul_le_mul_right k hc
  refine ⟨g, cap, rfl, hb, hlt, ?_, Nat.le_trans hc hm, ?_⟩
  · intro j hj
    rw [size_flatK, List.size_toArray] at hj
    have hj2 : j < cur.size := by omega
    refine ⟨?_, by simp [World.frozen?, hh]⟩
    have e1 : w.cell? ⟨g, 0 + j, none⟩ = cur[j]? := by rw [Nat.zero_add]; exact cell_of_row w g j cur e (0, 0) hh
    rw [e1]
    have e2 : cur[j]? = (xs.flatMap enc)[j]? := by
      rw [← ht, List.getElem?_take, if_pos hj, Array.getElem?_toList]
    have e3 : (xs.flatMap enc)[j]? = some ((xs.flatMap enc)[j]!) := by
      have : j < (xs.flatMap enc).length := by rw [flatMap_len enc k hk]; exact hj
      rw [List.getElem?_eq_getElem this, getElem!_pos _ j this]
    rw [e2, e3, flatMap_get enc k hk xs j hj, get_flatK enc k xs.toArray j (by simpa using hj)]
    simp
  · intro m d os hd
    have hsF : (flatK enc k d).size = xs.length * k := by rw [size_flatK, hd]
    have hh2 : (sortWorldK enc k w g 0 m d os).heap[g]? = some (.cells (putCells id 0 (flatK enc k d) cur) e (0, 0)) := by
      unfold sortWorldK Sort.grow putRowK putRow mapBlock
      show ((Sort.ahead w m).heap.modify g _ ++ os)[g]? = _
      rw [Array.getElem?_append, if_pos (by simpa using hlt), Array.getElem?_modify, if_pos rfl]
      show ((w.heap[g]?).map _) = _
      rw [hh]; rfl
    refine ⟨⟨by rw [flatMap_len enc k hk, Array.length_toList], Or.inr ⟨g, cap, _, by rw [hd], hb, hh2, by omega, hm, by simp [putCells, hsz], ?_⟩⟩, ?_⟩
    · rw [← flatK_toList enc k hk d]
      apply List.ext_getElem?
      intro t
      rw [List.getElem?_take]
      by_cases c : t < d.size * k
      · have c2 : t < cur.size := by rw [hd] at c; omega
        rw [if_pos c, Array.getElem?_toList, Array.getElem?_toList]
        simp only [putCells, Array.getElem?_mapIdx]
        have c3 : t < (flatK enc k d).size := by rw [size_flatK]; exact c
        rw [Array.getElem?_eq_getElem c2, Array.getElem?_eq_getElem c3]
        simp only [Option.map_some]
        rw [if_pos ⟨Nat.zero_le _, by omega⟩, Nat.sub_zero, getElem!_pos _ t c3]; rfl
      · rw [if_neg c, Array.getElem?_toList, Array.getElem?_eq_none (by rw [size_flatK]; omega)]
    · refine ⟨rfl, rfl, rfl, ?_, ?_⟩
      · unfold sortWorldK
        rw [size_grow, putRowK, size_putRow]
        exact Nat.le_add_right _ _
      · intro i hi hne
        unfold sortWorldK Sort.grow putRowK putRow mapBlock
        show ((Sort.ahead w m).heap.modify g _ ++ os)[i]? = _
        rw [Array.getElem?_append, if_pos (by simpa using hi), Array.getElem?_modify, if_neg (fun e => hne (by rw [e]))]
        rfl
theorem perm_of_permIn {α : Type} [Inhabited α] {d d' : Array α} (h : PermIn 0 d.size d d') : d'.toList.Perm d.toList ∧ d'.size = d.size := by
  obtain ⟨h1, _, h2⟩ := h
  refine ⟨?_, h1⟩
  have e1 : d.extract 0 d.size = d := by simp
  have e2 : d'.extract 0 d.size = d' := by rw [← h1]; simp
  rw [e1, e2] at h2
  exact h2
theorem pairwise_of_sortedIn {α : Type} [Inhabited α] {lt : α → α → Bool} {d : Array α} {n : Nat} (hn : d.size = n) (h : SortedIn lt 0 n d) : d.toList.Pairwise (fun x y => lt y x = false) := by
  rw [List.pairwise_iff_getElem]
  intro i j hi hj hij
  have := h i j (Nat.zero_le _) hij (by rw [← hn]; simpa using hj)
  rw [getElem!_pos d i (by simpa using hi), getElem!_pos d j (by simpa using hj)] at this
  simpa using this
end Go.Proofs.YtlanldccamphcaaDoor.P
