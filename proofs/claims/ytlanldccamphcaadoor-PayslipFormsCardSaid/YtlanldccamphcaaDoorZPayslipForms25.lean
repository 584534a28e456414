/- Texts for the law PayslipForms (kept out of a larger one). -/
import Derived.Test.YtlanldccamphcaaDoorZPayslipForms11
import Derived.Test.YtlanldccamphcaaDoorZPayslipForms21
import Derived.Maps.Own
import Derived.Maps.OwnOps
import Derived.Maps.Views
import Derived.Maps.RangeWalk
import Derived.WideKeyEntry
import Derived.WalkKit
namespace Go.Proofs.YtlanldccamphcaaDoor.P
set_option linter.unusedVariables false
set_option linter.unusedSimpArgs false
open Go Go.RowKit Go.Maps Go.ChangeMaps Go.MapKept Go.WideShapes Go.Proofs.YtlanldccamphcaaDoorW.PrintWords Go.Proofs.YtlanldccamphcaaDoorW.PrintLast Go.Proofs.YtlanldccamphcaaDoorW.PrintMore
def numD (D : DataW Unit) (k : Int) (c : ByteArray) : Int := match D.atKey (keyL k c) (.lit (.int .i64 0)) with | .lit (.int _ v) => v | _ => 0
def addD (D : DataW Unit) (x : S23) : DataW Unit := D.put (keyL x.f0 x.f1) (.lit (.int .i64 (wrap64 (numD D x.f0 x.f1 + x.f2))))
def sumsD (l : List S23) : DataW Unit := l.foldl addD (.map [])
def okX (x : S23) : Prop := (Lit.int .i64 x.f0).wf = true ∧ x.f1.size ≤ maxLen
theorem zero_int (w : World) : (zeroValue 3).run Tryd.prog w = .ok (.int .i64 0) w := by kernel_rfl
theorem sumsD_snoc (l : List S23) (x : S23) : sumsD (l ++ [x]) = addD (sumsD l) x := by unfold sumsD; rw [List.foldl_append]; rfl
theorem entry_add {w : World} {B n : Nat} {D : DataW Unit} {k : Int} {c : ByteArray} {NI : Int} (hw : (Lit.int .i64 k).wf = true ∧ c.size ≤ maxLen) (hown : w.ownsMap Tryd.prog 60 (plainElem Tryd.prog 3) B n D) (hn : n < maxLen) (v : Int) (hv : (Lit.int .i64 v).wf = true) :
    ∃ (V0 ST : Int) (w1 w2 : World), V0 = numD D k c ∧
      (Instr.lookup 56 (.map (some B)) (.agg #[.int .i64 k, .string c]) false).run Tryd.prog w = .ok (.int .i64 V0) w ∧
      (Instr.mapEntry 56 (.map (some B)) (.agg #[.int .i64 k, .string c])).run Tryd.prog w = .ok (.tuple #[.int .i64 V0, .int .i64 ST]) w1 ∧
      (Instr.lookup 56 (.map (some B)) (.agg #[.int .i64 k, .string c]) false).run Tryd.prog w1 = .ok (.int .i64 V0) w1 ∧
      (Instr.entryStore 56 (.map (some B)) (.int .i64 ST) (.int .i64 v)).run Tryd.prog w1 = .ok () w2 ∧
      w.grownBy w1 (some B) ∧ w1.grownBy w2 (some B) ∧ w2.ownsMap Tryd.prog 60 (plainElem Tryd.prog 3) B (n + 1) (D.put (keyL k c) (.lit (.int .i64 v))) := by
  have hkey := keyOf_mk hw.1 hw.2
  obtain ⟨v0, hrun, hat, hwv⟩ := hown.lookup_int keyed Tryd.underlying56 Tryd.underlying3 (zero_int w) hkey
  have hV : v0 = numD D k c := by unfold numD; rw [hat]
  obtain ⟨wu, hup, hown2, hgrow2⟩ := hown.update keyed Tryd.underlying56 hn hkey (plainElem_int Tryd.underlying3 hv)
  obtain ⟨wz, hz1, hz2, hz3⟩ := hown.update keyed Tryd.underlying56 hn hkey (plainElem_int Tryd.underlying3 hwv)
  obtain ⟨es, clock, hb, F, hs, hD⟩ := hown
  obtain ⟨u0, st, es1, clock1, hme, hcase, hstore⟩ := WideElems.entry_then_store key_law Tryd.underlying56 zero_int hb F hkey
  have hlt : B < w.heap.size := (Array.getElem?_eq_some_iff.1 hb).1
  have hb1 : (setBlock w B (.map es1 clock1)).heap[B]? = some (.map es1 clock1) := by simp [setBlock, hlt]
  have key : u0 = .int .i64 v0 ∧ wz = setBlock w B (.map es1 clock1) := by
    rcases keyed.find w hkey es.toList F.keys with ⟨h1, h2⟩ | ⟨j, e0, h1, h2, h3⟩
    · have e1 : (Instr.lookup 56 (.map (some B)) (keyV k c) false).run Tryd.prog w = .ok (.int .i64 0) w := by
        simp [Instr.lookup, run_underlying Tryd.underlying56, MapKept.run_getObj_map hb, keyed.check w _ hkey, h1, zero_int, Result.andThen]
      have e2 : (Instr.mapEntry 56 (.map (some B)) (keyV k c)).run Tryd.prog w = .ok (.tuple #[.int .i64 0, goInt clock]) (setBlock w B (.map (es.push ⟨keyV k c, .int .i64 0, clock⟩) (clock + 1))) := by
        simp [Instr.mapEntry, run_underlying Tryd.underlying56, MapKept.run_getObj_map hb, keyed.check w false hkey, h1, zero_int, MapKept.run_setObj_map _ hb, Result.andThen, setBlock]
      have hv0 : v0 = 0 := by
        have := hrun.symm.trans e1
        simpa using this
      subst hv0
      have e3 : (Instr.mapUpdate 56 (.map (some B)) (keyV k c) (.int .i64 0)).run Tryd.prog w = .ok () (setBlock w B (.map (es.push ⟨keyV k c, .int .i64 0, clock⟩) (clock + 1))) := by
        simp [Instr.mapUpdate, run_underlying Tryd.underlying56, MapKept.run_getObj_map hb, keyed.check w false hkey, h1, MapKept.run_setObj_map _ hb, Result.andThen, setBlock]
      have f1 := hme.symm.trans e2
      have f2 := hz1.symm.trans e3
      injection f1 with g1 g2
      injection f2 with g3 g4
      injection g1 with g1
      have g5 : u0 = .int .i64 0 := by have := congrArg Array.toList g1; simp only [List.cons.injEq] at this; exact this.1
      exact ⟨g5, g4.trans g2.symm⟩
    · obtain ⟨n0, hn0⟩ : ∃ n0, e0.val = .int .i64 n0 := by
        obtain ⟨y, hy⟩ := F.reads e0 (List.mem_of_getElem? h2)
        obtain ⟨z, hz, _⟩ := WideElems.rd_val hy
        obtain ⟨q, hq, _⟩ := plainElem_int_inv Tryd.underlying3 hz
        exact ⟨q, hq⟩
      have e1 : (Instr.lookup 56 (.map (some B)) (keyV k c) false).run Tryd.prog w = .ok (.int .i64 n0) w := by
        simp [Instr.lookup, run_underlying Tryd.underlying56, MapKept.run_getObj_map hb, keyed.check w _ hkey, h1, hn0, Result.andThen]
      have hv0 : v0 = n0 := by
        have := hrun.symm.trans e1
        simpa using this
      subst hv0
      have hj : es[j]? = some e0 := by simpa using h2
      have hsame : es.modify j (fun e => { e with key := keyV k c }) = es := by
        apply Array.ext'
        rw [Array.toList_modify, ChangeMaps.modify_eq_set _ _ _ _ h2]
        have : ({ e0 with key := keyV k c } : MapEntry) = e0 := by rw [← h3]
        rw [this]
        exact WideElems.set_self _ _ _ h2
      have hsame2 : es.modify j (fun e => { e with key := keyV k c, val := .int .i64 v0 }) = es := by
        apply Array.ext'
        rw [Array.toList_modify, ChangeMaps.modify_eq_set _ _ _ _ h2]
        have : ({ e0 with key := keyV k c, val := .int .i64 v0 } : MapEntry) = e0 := by rw [← h3, ← hn0]
        rw [this]
        exact WideElems.set_self _ _ _ h2
      have e2 : (Instr.mapEntry 56 (.map (some B)) (keyV k c)).run Tryd.prog w = .ok (.tuple #[.int .i64 v0, goInt e0.born]) (setBlock w B (.map es clock)) := by
        simp [Instr.mapEntry, run_underlying Tryd.underlying56, MapKept.run_getObj_map hb, keyed.check w false hkey, h1, hj, h3, hn0, keyed.stays w hkey, hsame, MapKept.run_setObj_map _ hb, Result.andThen, setBlock]
      have e3 : (Instr.mapUpdate 56 (.map (some B)) (keyV k c) (.int .i64 v0)).run Tryd.prog w = .ok () (setBlock w B (.map es clock)) := by
        simp [Instr.mapUpdate, run_underlying Tryd.underlying56, MapKept.run_getObj_map hb, keyed.check w false hkey, h1, hj, h3, keyed.stays w hkey, hsame2, MapKept.run_setObj_map _ hb, Result.andThen, setBlock]
      have f1 := hme.symm.trans e2
      have f2 := hz1.symm.trans e3
      injection f1 with g1 g2
      injection f2 with g3 g4
      injection g1 with g1
      have g5 : u0 = .int .i64 v0 := by have := congrArg Array.toList g1; simp only [List.cons.injEq] at this; exact this.1
      exact ⟨g5, g4.trans g2.symm⟩
  obtain ⟨rfl, rfl⟩ := key
  obtain ⟨es2, clock2, hst, hup2⟩ := hstore _ (.int .i64 v) hb1
  obtain ⟨c1, hr1, ha1, _⟩ := hz2.lookup_int keyed Tryd.underlying56 Tryd.underlying3 (zero_int _) hkey
  have hD2 : IsMap D := by rw [hD]; exact ⟨_, rfl⟩
  have hc1 : c1 = v0 := by
    rw [atKey_put_same hD2 (keyL_lit k c)] at ha1
    simp only [DataW.lit.injEq, Lit.int.injEq, true_and] at ha1
    exact ha1.symm
  subst hc1
  have f3 := hup.symm.trans hup2
  injection f3 with _ f3
  have hww : setBlock (setBlock w B (.map es1 clock1)) B (.map es2 clock2) = wu := by
    rw [f3]; simp [setBlock]
  rw [hww] at hst
  have hg12 : (setBlock w B (.map es1 clock1)).grownBy wu (some B) := by
    rw [← hww]
    exact ⟨rfl, rfl, rfl, by simp [setBlock], fun i _ hi => heap_setBlock_other hb1 _ (fun e => hi (by rw [e]))⟩
  exact ⟨c1, st, _, wu, hV, hrun, hme, hr1, hst, hz3, hg12, hown2⟩
end Go.Proofs.YtlanldccamphcaaDoor.P
