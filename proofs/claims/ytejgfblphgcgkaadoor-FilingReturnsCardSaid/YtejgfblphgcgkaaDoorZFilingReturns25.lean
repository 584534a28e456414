/- Texts for the law FilingReturns (kept out of a larger one). -/
import Derived.Test.YtejgfblphgcgkaaDoorZFilingReturns17
import Derived.Test.YtejgfblphgcgkaaDoorZFilingReturns12
import Derived.Test.YtejgfblphgcgkaaDoorZFilingReturns24
import Derived.WalkKit
import Derived.Below
namespace Go.Proofs.YtejgfblphgcgkaaDoor.P
set_option linter.unusedVariables false
set_option linter.unusedSimpArgs false
open Go Go.RowKit Go.Proofs Go.Proofs.YtejgfblphgcgkaaDoorW.PrintWords
structure BldIn (w W : World) (b : Nat) (l : List UInt8) : Prop where
  below : Below w.heap.size w W
  bld : IsBld w.heap.size b (Lib.byteCells l) W
theorem BldIn.step {w W W1 : World} {b : Nat} {l : List UInt8} (h : BldIn w W b l) (hb : Below W.heap.size W W1) : BldIn w W1 b l := ⟨below_step h.below hb, h.bld.below hb⟩
theorem BldIn.write {w W W1 : World} {b : Nat} {l : List UInt8} {s : ByteArray} (h : BldIn w W b l) (h1 : BldAt w.heap.size b (.pointer (some ⟨b, 0, none⟩)) (Lib.byteCells l ++ Lib.strCells s) W1) (h2 : Below w.heap.size W W1) : BldIn w W1 b (l ++ s.data.toList) := by
  refine ⟨?_, ?_⟩
  · exact ⟨h2.os.trans h.below.os, h2.tape.trans h.below.tape, h2.output.trans h.below.output, Nat.le_trans h.below.size h2.size, fun i hi => (h2.block i hi).trans (h.below.block i hi)⟩
  · rw [Lib.byteCells_append, ← Lib.strCells_eq]; exact IsBld.used h1
theorem bld_writes {w W : World} {b : Nat} {l : List UInt8} (h : BldIn w W b l) (s : ByteArray) (hs : l.length + s.size ≤ 140737488355328) :
    Calls Tryd.prog 14 #[.pointer (some ⟨b, 0, none⟩), .string s] W fun e w' => e = .returned (.tuple #[.int .i64 s.size, .nilIface]) ∧ BldIn w w' b (l ++ s.data.toList) ∧ BldKept W w' b := by
  refine (bld_write w.heap.size b _ s W h.bld (by rw [Lib.byteCells_length]; exact hs) h.below.size).mono ?_
  rintro e w' ⟨rfl, h1, h2, h3⟩
  exact ⟨rfl, h.write h1 h2, h3⟩
theorem bld_string {w W : World} {b : Nat} {l : List UInt8} (h : BldIn w W b l) :
    Calls Tryd.prog 17 #[.pointer (some ⟨b, 0, none⟩)] W fun e w' => e = .returned (.string ⟨l.toArray⟩) ∧ Below w.heap.size w w' := by
  refine (Tryd.Builder_String_any w.heap.size b l W h.bld h.below.size).mono ?_
  rintro e w' ⟨rfl, h2⟩
  exact ⟨rfl, ⟨h2.os.trans h.below.os, h2.tape.trans h.below.tape, h2.output.trans h.below.output, Nat.le_trans h.below.size h2.size, fun i hi => (h2.block i hi).trans (h.below.block i hi)⟩⟩
theorem kept_blk {W W1 : World} {b i : Nat} {cs : Array Value} {t : TypeId} {fr : Nat × Nat} (h : W.heap[i]? = some (Obj.cells cs t fr)) (hk : BldKept W W1 b) (h1 : t ≠ 46) (h2 : t ≠ 5) : W1.heap[i]? = some (Obj.cells cs t fr) := (hk.2 i cs t fr h h1 h2).trans h
end Go.Proofs.YtejgfblphgcgkaaDoor.P
