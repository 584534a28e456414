/- Texts for the law PayslipForms (kept out of a larger one). -/
import Derived.Test.YtlanldccamphcaaDoorZPayslipForms11
import Derived.Maps.Own
import Derived.Maps.OwnOps
import Derived.Maps.Views
import Derived.Maps.RangeWalk
import Derived.WideKeyEntry
import Derived.DeepKeys3
import Derived.WalkKit
namespace Go.Proofs.YtlanldccamphcaaDoor.P
set_option linter.unusedVariables false
set_option linter.unusedSimpArgs false
open Go Go.RowKit Go.Maps Go.Proofs.YtlanldccamphcaaDoorW.PrintWords
def keyV (k : Int) (c : ByteArray) : Value := .agg #[.int .i64 k, .string c]
theorem key_law : WideMaps.KeyLaw Tryd.prog 60 := deep_law (m := 2) (by omega) (by kernel_rfl) (by kernel_rfl) (by rw [Tryd.underlying60])
theorem keyed : Keyed Tryd.prog 60 := Keyed.of_law key_law
def keyL (k : Int) (c : ByteArray) : Lit := .string (keyBytes [.int .i64 k, .string c.data.toList])
theorem key_lits (D : Nat) (k : Int) (c : ByteArray) : Tryd.prog.keyLits (D + 2) 60 [.int .i64 k, .string c] =
    if (Lit.int .i64 k).wf = true ∧ c.size ≤ maxLen then some [.int .i64 k, .string c.data.toList] else none := by
  have c3 : Tryd.prog.cellsOf 3 = 1 := by kernel_rfl
  have c9 : Tryd.prog.cellsOf 9 = 1 := by kernel_rfl
  have c60 : Tryd.prog.cellsOf 60 = 2 := by kernel_rfl
  have e3 : Tryd.prog.keyLits (D + 1) 3 [.int .i64 k] = if (Lit.int .i64 k).wf = true then some [.int .i64 k] else none := by
    simp [Program.keyLits, Tryd.underlying3]
  have e9 : Tryd.prog.keyLits (D + 1) 9 [.string c] = if c.size ≤ maxLen then some [.string c.data.toList] else none := by
    simp [Program.keyLits, Tryd.underlying9]
  unfold Program.keyLits
  simp only [Tryd.underlying60]
  simp [c60, c3, c9, e3, e9]
  by_cases h1 : (Lit.int .i64 k).wf = true <;> by_cases h2 : c.size ≤ maxLen <;> simp [h1, h2]
theorem key_depth : ∃ D, Tryd.prog.types.size + 1 = D + 2 := by
  have h : (0 < Tryd.prog.types.size) = True := by
    have : decide (0 < Tryd.prog.types.size) = true := by kernel_rfl
    simp only [decide_eq_true_eq] at this; exact eq_true this
  exact ⟨Tryd.prog.types.size - 1, by have := of_eq_true h; omega⟩
theorem keyOf_mk {k : Int} {c : ByteArray} (hk : (Lit.int .i64 k).wf = true) (hc : c.size ≤ maxLen) : keyOf Tryd.prog 60 (keyV k c) = some (keyL k c) := by
  unfold keyOf
  rw [Tryd.underlying60]
  have h1 : Tryd.prog.keyType 60 = true := by kernel_rfl
  have h2 : (keyV k c).formed Tryd.prog 60 = true := by kernel_rfl
  obtain ⟨D, hD⟩ := key_depth
  have h3 : Tryd.prog.keyLits (Tryd.prog.types.size + 1) 60 (keyV k c).cells.toList = some [.int .i64 k, .string c.data.toList] := by
    rw [hD]
    show Tryd.prog.keyLits (D + 2) 60 [.int .i64 k, .string c] = _
    rw [key_lits, if_pos ⟨hk, hc⟩]
  simp only [h1, h2, h3, Bool.and_self, if_true, Option.map]
  rfl
theorem keyOf_inv {v : Value} {l : Lit} (h : keyOf Tryd.prog 60 v = some l) : ∃ k c, v = keyV k c ∧ (Lit.int .i64 k).wf = true ∧ c.size ≤ maxLen ∧ l = keyL k c := by
  obtain ⟨xs, L, rfl, h1, h2⟩ := keyOf_top (by rw [Tryd.underlying60]) h
  obtain ⟨D, hD⟩ := key_depth
  have c3 : Tryd.prog.cellsOf 3 = 1 := by kernel_rfl
  have c9 : Tryd.prog.cellsOf 9 = 1 := by kernel_rfl
  have c60 : Tryd.prog.cellsOf 60 = 2 := by kernel_rfl
  have hl : xs.toList.length = 2 := by
    rw [hD] at h1
    unfold Program.keyLits at h1
    simp only [Tryd.underlying60, c60] at h1
    split at h1
    · rename_i hh; exact hh.1
    · cases h1
  obtain ⟨x, y, e⟩ : ∃ x y, xs.toList = [x, y] := by
    match hx : xs.toList, hl with
    | [x, y], _ => exact ⟨x, y, rfl⟩
  have ex : xs = #[x, y] := by apply Array.ext'; rw [e]
  subst ex
  rw [hD] at h1
  have h0 := h1
  unfold Program.keyLits at h1
  simp [Tryd.underlying60, c60, c3, c9] at h1
  obtain ⟨A, hA, h1⟩ := Option.bind_eq_some_iff.1 h1
  simp only [Function.comp, Option.map_eq_some_iff, Option.bind_eq_some_iff] at h1
  obtain ⟨M, ⟨Z, ⟨B, hB, _⟩, _⟩, _⟩ := h1
  have hx : ∃ k, x = .int .i64 k := by
    unfold Program.keyLits at hA
    rw [Tryd.underlying3] at hA
    cases x <;> simp at hA
    rename_i q n
    rw [hA.1.1]; exact ⟨_, rfl⟩
  have hy : ∃ c, y = .string c := by
    unfold Program.keyLits at hB
    rw [Tryd.underlying9] at hB
    cases y <;> simp at hB
    exact ⟨_, rfl⟩
  obtain ⟨k, rfl⟩ := hx
  obtain ⟨c, rfl⟩ := hy
  have h3 : Tryd.prog.keyLits (D + 2) 60 [.int .i64 k, .string c] = some L := h0
  rw [key_lits] at h3
  split at h3
  · rename_i hh
    obtain rfl := Option.some.inj h3
    exact ⟨k, c, rfl, hh.1, hh.2, h2⟩
  · cases h3
theorem keyL_inj {k k' : Int} {c c' : ByteArray} (hk : (Lit.int .i64 k).wf = true) (hc : c.size ≤ maxLen) (hk' : (Lit.int .i64 k').wf = true) (hc' : c'.size ≤ maxLen) (h : keyL k c = keyL k' c') : k = k' ∧ c = c' := by
  have := key_law.inj (keyOf_mk hk hc) (h ▸ keyOf_mk hk' hc')
  simpa [keyV] using this
theorem keyL_lit (k : Int) (c : ByteArray) : WideAt.IsKeyLit (keyL k c) := by show True; trivial
end Go.Proofs.YtlanldccamphcaaDoor.P
