/- Texts for the law FilingEncodes (kept out of a larger one). -/
import Derived.Test.YtejgfblphgcgkaaGreatDoorZFilingEncodes3
import Derived.Shelf.Strings.Builder1
import Derived.WalkKit
import Derived.Below
import Derived.Test.YtejgfblphgcgkaaGreatDoorZFilingEncodes14
namespace Go.Proofs.YtejgfblphgcgkaaGreatDoor.P
set_option linter.unusedVariables false
set_option linter.unusedSimpArgs false
open Go Go.RowKit Go.Proofs Go.Proofs.YtejgfblphgcgkaaGreatDoorW.PrintWords
theorem bld_size : (Tryz.prog.info? 69).map (·.size) = some 2 := by kernel_rfl
theorem bld_lies : liesAt Tryz.prog Tryz.prog.depth 69 (2 / Tryz.prog.cellsOf 69) 0 69 1 = true := by kernel_rfl
theorem bld_byte : (Tryz.prog.info? 5).map (fun i => (i.zero, i.size, i.bytes)) = some (some (.int .u8 0), 1, 1) := by kernel_rfl
abbrev BldAt (B b : Nat) (p : Value) (bs : List Value) (w : World) : Prop := Lib.BuilderAt 69 5 B b p bs w
abbrev IsBld (B b : Nat) (bs : List Value) (w : World) : Prop := Lib.IsBuilder 69 5 B b bs w
set_option maxRecDepth 100000 in
theorem bld_check_used (b : Nat) (w : World) (h0 : w.cell? ⟨b, 0, none⟩ = some (.pointer (some ⟨b, 0, none⟩))) :
    Calls Tryz.prog 61 #[.pointer (some ⟨b, 0, none⟩)] w fun e w' => e = .returned (.tuple #[]) ∧ w' = w := by
  obtain ⟨j, hj, _⟩ := Option.map_eq_some_iff.1 bld_size
  go_enter Tryz.func61, Tryz.ntmps61
  go_wp2
  rw [Lib.run_neq_ptr_same w _ Tryz.underlying66 hj]
  go_wp2
  go_end0
  exact ⟨rfl, rfl⟩
set_option maxRecDepth 100000 in
theorem bld_check_fresh (b : Nat) (w : World) (h0 : w.cell? ⟨b, 0, none⟩ = some (.pointer none)) (hsh : w.shape? b = some (69, 2)) (hfz : w.frozen? ⟨b, 0, none⟩ = false) :
    Calls Tryz.prog 61 #[.pointer (some ⟨b, 0, none⟩)] w fun e w' => e = .returned (.tuple #[]) ∧ w' = w.setCell ⟨b, 0, none⟩ (.pointer (some ⟨b, 0, none⟩)) := by
  obtain ⟨j, hj, hjs⟩ := Option.map_eq_some_iff.1 bld_size
  go_enter Tryz.func61, Tryz.ntmps61
  go_wp2
  rw [Lib.run_to_unsafe w ⟨b, 0, none⟩ Tryz.underlying66 Tryz.underlying107 hj (by rw [hjs]; decide) hsh (Nat.zero_lt_succ 1)]
  simp only [Result.andThen]
  rw [Oper.upon_value]
  go_wp2
  rw [run_callFunc_extern Tryz.func78 (by kernel_rfl) (by kernel_rfl) (by kernel_rfl) (e := Extern.AbiNoEscape.same) (by kernel_rfl)]
  rw [Lib.run_noEscape]
  simp only [Result.andThen]
  rw [Oper.upon_value]
  go_wp2
  rw [Lib.run_from_unsafe w ⟨b, 0, none⟩ Tryz.underlying107 Tryz.underlying66 hj hsh bld_lies]
  simp only [Result.andThen]
  rw [Oper.upon_value]
  go_wp2
  go_end0
  exact ⟨rfl, rfl⟩
theorem bld_check (B b : Nat) (bs : List Value) (w : World) (h : IsBld B b bs w) :
    Calls Tryz.prog 61 #[.pointer (some ⟨b, 0, none⟩)] w fun e w' => e = .returned (.tuple #[]) ∧ (BldAt B b (.pointer (some ⟨b, 0, none⟩)) bs w' ∧ Below B w w' ∧ KeepBut w w' b none) := by
  rcases h with h | h
  · refine (bld_check_fresh b w h.cell0 h.shape h.frozen0).mono ?_
    rintro e w' ⟨rfl, rfl⟩
    exact ⟨rfl, h.used _, (Below.refl B w).setCell (p := ⟨b, 0, none⟩) h.1 _, (KeepBut.refl _ _ _).set_ 0 _⟩
  · refine (bld_check_used b w h.cell0).mono ?_
    rintro e w' ⟨rfl, rfl⟩
    exact ⟨rfl, h, Below.refl B _, KeepBut.refl _ _ _⟩
def BldKept (w w' : World) (b : Nat) : Prop := w.heap.size ≤ w'.heap.size ∧ ∀ (i : Nat) (cs : Array Value) (t : TypeId) (fr : Nat × Nat), w.heap[i]? = some (Obj.cells cs t fr) → t ≠ 69 → t ≠ 5 → w'.heap[i]? = w.heap[i]?
set_option maxRecDepth 100000 in
theorem bld_write (B b : Nat) (bs : List Value) (s : ByteArray) (w : World) (h : IsBld B b bs w) (hlen : bs.length + s.size ≤ 140737488355328) (hBw : B ≤ w.heap.size) :
    Calls Tryz.prog 35 #[.pointer (some ⟨b, 0, none⟩), .string s] w fun e w' => e = .returned (.tuple #[.int .i64 s.size, .nilIface]) ∧ (BldAt B b (.pointer (some ⟨b, 0, none⟩)) (bs ++ Lib.strCells s) w' ∧ Below B w w' ∧ BldKept w w' b) := by
  obtain ⟨i0, hi, hz0, hz1, hz2⟩ := info_parts bld_byte
  go_enter Tryz.func35, Tryz.ntmps35
  go_wp2_with (go_at_call 61; refine (bld_check B b bs _ h).mono ?_)
  rintro e w1 ⟨rfl, h1, hb1, hk1⟩
  obtain ⟨hB, v, hbk, hown, hne⟩ := h1
  have hblt : b < w.heap.size := by rcases h with h | h <;> exact h.lt
  have hbt : ∃ cs, w.heap[b]? = some (Obj.cells cs 69 (0, 0)) := by rcases h with ⟨_, v, hb, _⟩ | ⟨_, v, hb, _⟩ <;> exact ⟨_, hb⟩
  have c0 : w1.cell? ⟨b, 0, none⟩ = some (.pointer (some ⟨b, 0, none⟩)) := by rw [Lib.cell_of_heap hbk]; rfl
  have c1 : w1.cell? ⟨b, 1, none⟩ = some v := by rw [Lib.cell_of_heap hbk]; rfl
  go_wp2_with (at_builtin; refine Lib.wpList_append_own_string _ rfl _ _ 67 9 rfl B 5 i0 Tryz.underlying67 Tryz.underlying9 hi hz0 hz1 hz2 _ _ _ rfl hown s rfl ?c3 ?c4 ?c5 ?_)
  case c3 => unfold maxLen; omega
  case c4 => omega
  case c5 => have := hb1.size; omega
  intro v' w2 hown' hgrow hat
  have hlt : b < w1.heap.size := by
    rcases Nat.lt_or_ge b w1.heap.size with h' | h'
    · exact h'
    · simp [Array.getElem?_eq_none h'] at hbk
  have hb2 : w2.heap[b]? = some (.cells #[.pointer (some ⟨b, 0, none⟩), v] 69 (0, 0)) := by
    rw [hgrow.block b hlt (fun e => hne e.symm)]
    exact hbk
  have d0 : w2.cell? ⟨b, 0, none⟩ = some (.pointer (some ⟨b, 0, none⟩)) := by rw [Lib.cell_of_heap hb2]; rfl
  have d1 : w2.cell? ⟨b, 1, none⟩ = some v := by rw [Lib.cell_of_heap hb2]; rfl
  have f1 : w2.frozen? ⟨b, 1, none⟩ = false := Lib.frozen_of_heap hb2 1
  obtain ⟨ao, n', cap, rfl⟩ : ∃ ao n' cap, v' = .slice ao n' cap := by
    rcases hown'.2 with ⟨hv, _⟩ | ⟨g, cap, cur, hv, _⟩
    · exact ⟨_, _, _, hv⟩
    · exact ⟨_, _, _, hv⟩
  go_wp2
  go_ret2
  refine ⟨rfl, ?_, ?_, ?_⟩
  · exact Lib.BuilderAt.put (T := 69) (e := 5) hB hb2 (bs' := bs ++ Lib.strCells s) (by simpa [Lib.strCells_length] using hown') (by decide)
  · exact (hb1.grown hgrow (by have := hb1.size; omega) (fun k hk => (hown.lt k hk).1)).setCell (p := ⟨b, 1, none⟩) hB _
  · refine ⟨by rw [World.size_setCell]; exact Nat.le_trans hk1.1 hgrow.size, fun i cs t fr h1 h2 h3 => ?_⟩
    have hi1 : i < w.heap.size := (Array.getElem?_eq_some_iff.1 h1).1
    have hib : i ≠ b := fun e => by
      obtain ⟨cs', hb'⟩ := hbt
      subst e
      rw [h1] at hb'
      injection hb' with hb'
      injection hb' with _ hb' _
      exact h2 hb'
    have e1 : w1.heap[i]? = w.heap[i]? := hk1.2 i hi1 hib (by simp)
    have e2 : some i ≠ v.ownBlock := fun e => by
      obtain ⟨cells, hc⟩ := own_typed hown i e.symm
      rw [e1, h1] at hc
      injection hc with hc
      injection hc with _ hc _
      exact h3 hc
    have e3 : w2.heap[i]? = w1.heap[i]? := hgrow.block i (Nat.lt_of_lt_of_le hi1 hk1.1) e2
    rw [Below.heap_setCell w2 ⟨b, 1, none⟩ _ i hib, e3, e1]
theorem bld_new (w : World) (B : Nat) (hB : B ≤ w.heap.size) : IsBld B w.heap.size [] (w.alloc (.cells #[.pointer none, .slice none 0 0] 69)) :=
  Or.inl ⟨hB, .slice none 0 0, by simpa using heap_alloc_new w _, own_nil _ _ _ _, by simp [Value.ownBlock]⟩
theorem IsBld.used {B b : Nat} {bs : List Value} {w : World} (h : BldAt B b (.pointer (some ⟨b, 0, none⟩)) bs w) : IsBld B b bs w := Or.inr h
theorem IsBld.below {B b : Nat} {bs : List Value} {w w' : World} (h : IsBld B b bs w) (hb : Below w.heap.size w w') : IsBld B b bs w' := by
  rcases h with ⟨h1, v, h2, h3, h4⟩ | ⟨h1, v, h2, h3, h4⟩
  · exact Or.inl ⟨h1, v, blk_below h2 hb, pw_own_below h3 hb, h4⟩
  · exact Or.inr ⟨h1, v, blk_below h2 hb, pw_own_below h3 hb, h4⟩
end Go.Proofs.YtejgfblphgcgkaaGreatDoor.P
namespace Go.Proofs.YtejgfblphgcgkaaGreatDoor.P
set_option linter.unusedVariables false
set_option linter.unusedSimpArgs false
open Go Go.RowKit Go.Proofs Go.Proofs.YtejgfblphgcgkaaGreatDoorW.PrintWords
structure BldIn (w W : World) (b : Nat) (l : List UInt8) : Prop where
  below : Below w.heap.size w W
  bld : IsBld w.heap.size b (Lib.byteCells l) W
theorem BldIn.step {w W W1 : World} {b : Nat} {l : List UInt8} (h : BldIn w W b l) (hb : Below W.heap.size W W1) : BldIn w W1 b l := ⟨below_step h.below hb, h.bld.below hb⟩
theorem BldIn.write {w W W1 : World} {b : Nat} {l : List UInt8} {s : ByteArray} (h : BldIn w W b l) (h1 : BldAt w.heap.size b (.pointer (some ⟨b, 0, none⟩)) (Lib.byteCells l ++ Lib.strCells s) W1) (h2 : Below w.heap.size W W1) : BldIn w W1 b (l ++ s.data.toList) := by
  refine ⟨?_, ?_⟩
  · exact ⟨h2.os.trans h.below.os, h2.tape.trans h.below.tape, h2.output.trans h.below.output, Nat.le_trans h.below.size h2.size, fun i hi => (h2.block i hi).trans (h.below.block i hi)⟩
  · rw [Lib.byteCells_append, ← Lib.strCells_eq]; exact IsBld.used h1
theorem bld_writes {w W : World} {b : Nat} {l : List UInt8} (h : BldIn w W b l) (s : ByteArray) (hs : l.length + s.size ≤ 140737488355328) :
    Calls Tryz.prog 35 #[.pointer (some ⟨b, 0, none⟩), .string s] W fun e w' => e = .returned (.tuple #[.int .i64 s.size, .nilIface]) ∧ BldIn w w' b (l ++ s.data.toList) ∧ BldKept W w' b := by
  refine (bld_write w.heap.size b _ s W h.bld (by rw [Lib.byteCells_length]; exact hs) h.below.size).mono ?_
  rintro e w' ⟨rfl, h1, h2, h3⟩
  exact ⟨rfl, h.write h1 h2, h3⟩
theorem bld_string {w W : World} {b : Nat} {l : List UInt8} (h : BldIn w W b l) :
    Calls Tryz.prog 38 #[.pointer (some ⟨b, 0, none⟩)] W fun e w' => e = .returned (.string ⟨l.toArray⟩) ∧ Below w.heap.size w w' := by
  refine (Tryz.Builder_String_any w.heap.size b l W h.bld h.below.size).mono ?_
  rintro e w' ⟨rfl, h2⟩
  exact ⟨rfl, ⟨h2.os.trans h.below.os, h2.tape.trans h.below.tape, h2.output.trans h.below.output, Nat.le_trans h.below.size h2.size, fun i hi => (h2.block i hi).trans (h.below.block i hi)⟩⟩
theorem kept_blk {W W1 : World} {b i : Nat} {cs : Array Value} {t : TypeId} {fr : Nat × Nat} (h : W.heap[i]? = some (Obj.cells cs t fr)) (hk : BldKept W W1 b) (h1 : t ≠ 69) (h2 : t ≠ 5) : W1.heap[i]? = some (Obj.cells cs t fr) := (hk.2 i cs t fr h h1 h2).trans h
end Go.Proofs.YtejgfblphgcgkaaGreatDoor.P
