/- Texts for the law FilingReturns (kept out of a larger one). -/
import Derived.Test.YtejgfblphgcgkaaDoorZFilingReturns17
import Derived.Test.YtejgfblphgcgkaaDoorZFilingReturns12
import Derived.Below
import Derived.Lib.AppendIntMem
import Derived.Lib.AtoiAllCases
namespace Go.Proofs.YtejgfblphgcgkaaDoor.P
open Go.RowKit
theorem var_stays {P : Program} {w w' : World} {name : String} {cs : Array Value} (h : w.var? P name = some cs) (hb : Below w.heap.size w w') : w'.var? P name = some cs := by
  unfold World.var? at *
  cases hg : P.globalNamed name with
  | none => simp [hg] at h
  | some g =>
    simp only [hg, Option.bind_some] at h ⊢
    have hlt : g < w.heap.size := by
      rcases Nat.lt_or_ge g w.heap.size with h' | h'
      · exact h'
      · rw [Array.getElem?_eq_none h'] at h; simp at h
    rw [hb.block g hlt]
    exact h
theorem cell_stays {w w' : World} {a : Addr} {v : Value} (h : w.cell? a = some v) (hb : Below w.heap.size w w') : w'.cell? a = some v := by
  have hlt : a.block < w.heap.size := by
    rcases Nat.lt_or_ge a.block w.heap.size with h' | h'
    · exact h'
    · simp [World.cell?, Array.getElem?_eq_none h'] at h
  simpa [World.cell?, hb.block a.block hlt] using h
def Tabs (w : World) : Prop :=
  Lib.TabIs Tryd.prog w "internal/strconv.uint64pow10" .u64 Lib.pow10Tab ∧ (∃ tp p, w.var? Tryd.prog "strconv.ErrSyntax" = some #[.iface tp p]) ∧ (∃ tp p, w.var? Tryd.prog "strconv.ErrRange" = some #[.iface tp p]) ∧ (∃ m, w.cell? ⟨Tryd.laysM146_ren.g 1, 0, none⟩ = some (.int .i64 m))
theorem Tabs.below {w w' : World} (h : Tabs w) (hb : Below w.heap.size w w') : Tabs w' := by
  obtain ⟨h1, ⟨tp, p, h2⟩, ⟨tq, q, h3⟩, m, h4⟩ := h
  exact ⟨var_stays h1 hb, ⟨tp, p, var_stays h2 hb⟩, ⟨tq, q, var_stays h3 hb⟩, m, cell_stays h4 hb⟩
theorem Tabs.noSyntax {w : World} (h : Tabs w) : ∃ tp p, w.var? Tryd.prog "strconv.ErrSyntax" = some #[.iface tp p] := h.2.1
theorem Tabs.noRange {w : World} (h : Tabs w) : ∃ tp p, w.var? Tryd.prog "strconv.ErrRange" = some #[.iface tp p] := h.2.2.1
theorem Tabs.maxLen {w : World} (h : Tabs w) : ∃ m, w.cell? ⟨Tryd.laysM146_ren.g 1, 0, none⟩ = some (.int .i64 m) := h.2.2.2
end Go.Proofs.YtejgfblphgcgkaaDoor.P
