/- Texts for the law FilingDecodes (kept out of a larger one). -/
import Derived.Shelf.Strings.Builder1
import Derived.WalkKit
import Derived.Below
import Derived.Test.YtejgfblphgcgkaaGreatDoorZFilingDecodes7
import Derived.Test.YtejgfblphgcgkaaGreatDoorZFilingDecodes6
namespace Go.Proofs.YtejgfblphgcgkaaGreatDoor.P
set_option linter.unusedVariables false
set_option linter.unusedSimpArgs false
open Go Go.RowKit Go.Proofs Go.Proofs.YtejgfblphgcgkaaGreatDoorW.PrintWords
theorem bld_size : (Tryz.prog.info? 69).map (·.size) = some 2 := by kernel_rfl
theorem bld_lies : liesAt Tryz.prog Tryz.prog.depth 69 (2 / Tryz.prog.cellsOf 69) 0 69 1 = true := by kernel_rfl
theorem bld_byte : (Tryz.prog.info? 5).map (fun i => (i.zero, i.size, i.bytes)) = some (some (.int .u8 0), 1, 1) := by kernel_rfl
abbrev BldAt (B b : Nat) (p : Value) (bs : List Value) (w : World) : Prop := Lib.BuilderAt 69 5 B b p bs w
abbrev IsBld (B b : Nat) (bs : List Value) (w : World) : Prop := Lib.IsBuilder 69 5 B b bs w
set_option maxRecDepth 100000 in
theorem bld_check_used (b : Nat) (w : World) (h0 : w.cell? ⟨b, 0, none⟩ = some (.pointer (some ⟨b, 0, none⟩))) :
 Calls Tryz.prog 61 #[.pointer (some ⟨b, 0, none⟩)] w fun e w' => e = .returned (.tuple #[]) ∧ w' = w := by
 obtain ⟨j, hj, _⟩ := Option.map_eq_some_iff.1 bld_size
 go_enter Tryz.func61, Tryz.ntmps61
 go_wp2
 rw [Lib.run_neq_ptr_same w _ Tryz.underlying66 hj]
 go_wp2
 go_end0
 exact ⟨rfl, rfl⟩
set_option maxRecDepth 100000 in
theorem bld_check_fresh (b : Nat) (w : World) (h0 : w.cell? ⟨b, 0, none⟩ = some (.pointer none)) (hsh : w.shape? b = some (69, 2)) (hfz : w.frozen? ⟨b, 0, none⟩ = false) :
 Calls Tryz.prog 61 #[.pointer (some ⟨b, 0, none⟩)] w fun e w' => e = .returned (.tuple #[]) ∧ w' = w.setCell ⟨b, 0, none⟩ (.pointer (some ⟨b, 0, none⟩)) := by
 obtain ⟨j, hj, hjs⟩ := Option.map_eq_some_iff.1 bld_size
 go_enter Tryz.func61, Tryz.ntmps61
 go_wp2
 rw [Lib.run_to_unsafe w ⟨b, 0, none⟩ Tryz.underlying66 Tryz.underlying107 hj (by rw [hjs]; decide) hsh (Nat.zero_lt_succ 1)]
 simp only [Result.andThen]
 rw [Oper.upon_value]
 go_wp2
 rw [run_callFunc_extern Tryz.func78 (by kernel_rfl) (by kernel_rfl) (by kernel_rfl) (e := Extern.AbiNoEscape.same) (by kernel_rfl)]
 rw [Lib.run_noEscape]
 simp only [Result.andThen]
 rw [Oper.upon_value]
 go_wp2
 rw [Lib.run_from_unsafe w ⟨b, 0, none⟩ Tryz.underlying107 Tryz.underlying66 hj hsh bld_lies]
 simp only [Result.andThen]
 rw [Oper.upon_value]
 go_wp2
 go_end0
 exact ⟨rfl, rfl⟩
theorem bld_check (B b : Nat) (bs : List Value) (w : World) (h : IsBld B b bs w) :
 Calls Tryz.prog 61 #[.pointer (some ⟨b, 0, none⟩)] w fun e w' => e = .returned (.tuple #[]) ∧ (BldAt B b (.pointer (some ⟨b, 0, none⟩)) bs w' ∧ Below B w w' ∧ KeepBut w w' b none) := by
 rcases h with h | h
 · refine (bld_check_fresh b w h.cell0 h.shape h.frozen0).mono ?_
   rintro e w' ⟨rfl, rfl⟩
   exact ⟨rfl, h.used _, (Below.refl B w).setCell (p := ⟨b, 0, none⟩) h.1 _, (KeepBut.refl _ _ _).set_ 0 _⟩
 · refine (bld_check_used b w h.cell0).mono ?_
   rintro e w' ⟨rfl, rfl⟩
   exact ⟨rfl, h, Below.refl B _, KeepBut.refl _ _ _⟩
def BldKept (w w' : World) (b : Nat) : Prop := w.heap.size ≤ w'.heap.size ∧ ∀ (i : Nat) (cs : Array Value) (t : TypeId) (fr : Nat × Nat), w.heap[i]? = some (Obj.cells cs t fr) → t ≠ 69 → t ≠ 5 → w'.heap[i]? = w.heap[i]?
set_option maxRecDepth 100000 in
theorem bld_write (B b : Nat) (bs : List Value) (s : ByteArray) (w : World) (h : IsBld B b bs w) (hlen : bs.length + s.size ≤ 140737488355328) (hBw : B ≤ w.heap.size) :
 Calls Tryz.prog 35 #[.pointer (some ⟨b, 0, none⟩), .string s] w fun e w' => e = .returned (.tuple #[.int .i64 s.size, .nilIface]) ∧ (BldAt B b (.pointer (some ⟨b, 0, none⟩)) (bs ++ Lib.strCells s) w' ∧ Below B w w' ∧ BldKept w w' b) := by
 obtain ⟨i0, hi, hz0, hz1, hz2⟩ := info_parts bld_byte
 go_enter Tryz.func35, Tryz.ntmps35
 go_wp2_with (go_at_call 61; refine (bld_check B b bs _ h).mono ?_)
 rintro e w1 ⟨rfl, h1, hb1, hk1⟩
 obtain ⟨hB, v, hbk, hown, hne⟩ := h1
 have hblt : b < w.heap.size := by rcases h with h | h <;> exact h.lt
 have hbt : ∃ cs, w.heap[b]? = some (Obj.cells cs 69 (0, 0)) := by rcases h with ⟨_, v, hb, _⟩ | ⟨_, v, hb, _⟩ <;> exact ⟨_, hb⟩
 have c0 : w1.cell? ⟨b, 0, none⟩ = some (.pointer (some ⟨b, 0, none⟩)) := by rw [Lib.cell_of_heap hbk]; rfl
 have c1 : w1.cell? ⟨b, 1, none⟩ = some v := by rw [Lib.cell_of_heap hbk]; rfl
 go_wp2_with (at_builtin; refine Lib.wpList_append_own_string _ rfl _ _ 67 9 rfl B 5 i0 Tryz.underlying67 Tryz.underlying9 hi hz0 hz1 hz2 _ _ _ rfl hown s rfl ?c3 ?c4 ?c5 ?_)
 case c3 => unfold maxLen; omega
 case c4 => omega
 case c5 => have := hb1.size; omega
 intro v' w2 hown' hgrow hat
 have hlt : b < w1.heap.size := by
  rcases Nat.lt_or_ge b w1.heap.size with h' | h'
  · exact h'
  · simp [Array.getElem?_eq_none h'] at hbk
 have hb2 : w2.heap[b]? = some (.cells #[.pointer (some ⟨b, 0, none⟩), v] 69 (0, 0)) := by
  rw [hgrow.block b hlt (fun e => hne e.symm)]
  exact hbk
 have d0 : w2.cell? ⟨b, 0, none⟩ = some (.pointer (some ⟨b, 0, none⟩)) := by rw [Lib.cell_of_heap hb2]; rfl
 have d1 : w2.cell? ⟨b, 1, none⟩ = some v := by rw [Lib.cell_of_heap hb2]; rfl
 have f1 : w2.frozen? ⟨b, 1, none⟩ = false := Lib.frozen_of_heap hb2 1
 obtain ⟨ao, n', cap, rfl⟩ : ∃ ao n' cap, v' = .slice ao n' cap := by
  rcases hown'.2 with ⟨hv, _⟩ | ⟨g, cap, cur, hv, _⟩
  · exact ⟨_, _, _, hv⟩
  · exact ⟨_, _, _, hv⟩
 go_wp2
 go_ret2
 refine ⟨rfl, ?_, ?_, ?_⟩
 · exact Lib.BuilderAt.put (T := 69) (e := 5) hB hb2 (bs' := bs ++ Lib.strCells s) (by simpa [Lib.strCells_length] using hown') (by decide)
 · exact (hb1.grown hgrow (by have := hb1.size; omega) (fun k hk => (hown.lt k hk).1)).setCell (p := ⟨b, 1, none⟩) hB _
 · refine ⟨by rw [World.size_setCell]; exact Nat.le_trans hk1.1 hgrow.size, fun i cs t fr h1 h2 h3 => ?_⟩
   have hi1 : i < w.heap.size := (Array.getElem?_eq_some_iff.1 h1).1
   have hib : i ≠ b := fun e => by
    obtain ⟨cs', hb'⟩ := hbt
    subst e
    rw [h1] at hb'
    injection hb' with hb'
    injection hb' with _ hb' _
    exact h2 hb'
   have e1 : w1.heap[i]? = w.heap[i]? := hk1.2 i hi1 hib (by simp)
   have e2 : some i ≠ v.ownBlock := fun e => by
    obtain ⟨cells, hc⟩ := own_typed hown i e.symm
    rw [e1, h1] at hc
    injection hc with hc
    injection hc with _ hc _
    exact h3 hc
   have e3 : w2.heap[i]? = w1.heap[i]? := hgrow.block i (Nat.lt_of_lt_of_le hi1 hk1.1) e2
   rw [Below.heap_setCell w2 ⟨b, 1, none⟩ _ i hib, e3, e1]
theorem bld_new (w : World) (B : Nat) (hB : B ≤ w.heap.size) : IsBld B w.heap.size [] (w.alloc (.cells #[.pointer none, .slice none 0 0] 69)) :=
 Or.inl ⟨hB, .slice none 0 0, by simpa using heap_alloc_new w _, own_nil _ _ _ _, by simp [Value.ownBlock]⟩
theorem IsBld.used {B b : Nat} {bs : List Value} {w : World} (h : BldAt B b (.pointer (some ⟨b, 0, none⟩)) bs w) : IsBld B b bs w := Or.inr h
theorem IsBld.below {B b : Nat} {bs : List Value} {w w' : World} (h : IsBld B b bs w) (hb : Below w.heap.size w w') : IsBld B b bs w' := by
 rcases h with ⟨h1, v, h2, h3, h4⟩ | ⟨h1, v, h2, h3, h4⟩
 · exact Or.inl ⟨h1, v, blk_below h2 hb, pw_own_below h3 hb, h4⟩
 · exact Or.inr ⟨h1, v, blk_below h2 hb, pw_own_below h3 hb, h4⟩
end Go.Proofs.YtejgfblphgcgkaaGreatDoor.P
namespace Go.Proofs.YtejgfblphgcgkaaGreatDoor.P
set_option linter.unusedVariables false
set_option linter.unusedSimpArgs false
open Go Go.RowKit Go.Proofs Go.Proofs.YtejgfblphgcgkaaGreatDoorW.PrintWords
structure BldIn (w W : World) (b : Nat) (l : List UInt8) : Prop where
 below : Below w.heap.size w W
 bld : IsBld w.heap.size b (Lib.byteCells l) W
theorem BldIn.step {w W W1 : World} {b : Nat} {l : List UInt8} (h : BldIn w W b l) (hb : Below W.heap.size W W1) : BldIn w W1 b l := ⟨below_step h.below hb, h.bld.below hb⟩
theorem BldIn.write {w W W1 : World} {b : Nat} {l : List UInt8} {s : ByteArray} (h : BldIn w W b l) (h1 : BldAt w.heap.size b (.pointer (some ⟨b, 0, none⟩)) (Lib.byteCells l ++ Lib.strCells s) W1) (h2 : Below w.heap.size W W1) : BldIn w W1 b (l ++ s.data.toList) := by
 refine ⟨?_, ?_⟩
 · exact ⟨h2.os.trans h.below.os, h2.tape.trans h.below.tape, h2.output.trans h.below.output, Nat.le_trans h.below.size h2.size, fun i hi => (h2.block i hi).trans (h.below.block i hi)⟩
 · rw [Lib.byteCells_append, ← Lib.strCells_eq]; exact IsBld.used h1
theorem bld_writes {w W : World} {b : Nat} {l : List UInt8} (h : BldIn w W b l) (s : ByteArray) (hs : l.length + s.size ≤ 140737488355328) :
 Calls Tryz.prog 35 #[.pointer (some ⟨b, 0, none⟩), .string s] W fun e w' => e = .returned (.tuple #[.int .i64 s.size, .nilIface]) ∧ BldIn w w' b (l ++ s.data.toList) ∧ BldKept W w' b := by
 refine (bld_write w.heap.size b _ s W h.bld (by rw [Lib.byteCells_length]; exact hs) h.below.size).mono ?_
 rintro e w' ⟨rfl, h1, h2, h3⟩
 exact ⟨rfl, h.write h1 h2, h3⟩
theorem bld_string {w W : World} {b : Nat} {l : List UInt8} (h : BldIn w W b l) :
 Calls Tryz.prog 38 #[.pointer (some ⟨b, 0, none⟩)] W fun e w' => e = .returned (.string ⟨l.toArray⟩) ∧ Below w.heap.size w w' := by
 refine (Tryz.Builder_String_any w.heap.size b l W h.bld h.below.size).mono ?_
 rintro e w' ⟨rfl, h2⟩
 exact ⟨rfl, ⟨h2.os.trans h.below.os, h2.tape.trans h.below.tape, h2.output.trans h.below.output, Nat.le_trans h.below.size h2.size, fun i hi => (h2.block i hi).trans (h.below.block i hi)⟩⟩
theorem kept_blk {W W1 : World} {b i : Nat} {cs : Array Value} {t : TypeId} {fr : Nat × Nat} (h : W.heap[i]? = some (Obj.cells cs t fr)) (hk : BldKept W W1 b) (h1 : t ≠ 69) (h2 : t ≠ 5) : W1.heap[i]? = some (Obj.cells cs t fr) := (hk.2 i cs t fr h h1 h2).trans h
end Go.Proofs.YtejgfblphgcgkaaGreatDoor.P
namespace Go.Proofs.YtejgfblphgcgkaaGreatDoor.P
set_option linter.unusedVariables false
set_option linter.unusedSimpArgs false
open Go Go.RowKit Go.Proofs Go.Proofs.YtejgfblphgcgkaaGreatDoorW.PrintWords Go.Proofs.YtejgfblphgcgkaaGreatDoorW.PrintLast Go.Proofs.YtejgfblphgcgkaaGreatDoorW.PrintMore
def wordB (k : Int) : ByteArray := (filing_word.f k).getD ⟨#[]⟩
theorem word_some (k : Int) : filing_word.f k = some (wordB k) := by
 unfold wordB filing_word.f
 repeat' split
 all_goals rfl
def hdrB (p v : Int) : ByteArray := (⟨#[114, 101, 116, 117, 114, 110, 32]⟩ : ByteArray) ++ itoaB p ++ ⟨#[32, 118, 101, 114, 115, 105, 111, 110, 32]⟩ ++ itoaB v ++ ⟨#[10]⟩
def codeL (c : ByteArray) : List UInt8 := if c.toList = ([] : List UInt8) then [] else (c ++ ⟨#[32]⟩).data.toList
def lineL (x : S60) : List UInt8 := (wordB x.f0 ++ ⟨#[32]⟩).data.toList ++ codeL x.f1 ++ (itoaB x.f2 ++ ⟨#[10]⟩).data.toList
def linesL (l : List S60) : List UInt8 := l.flatMap lineL
def endB : ByteArray := ⟨#[101, 110, 100, 10]⟩
def encL (p v : Int) (l : List S60) : List UInt8 := (hdrB p v).data.toList ++ linesL l ++ endB.data.toList
def I64B (n : Int) : Bool := decide (-9223372036854775808 ≤ n ∧ n ≤ 9223372036854775807)
def encFine (p v : Int) (l : List S60) : Bool := I64B p && I64B v && l.all (fun x => I64B x.f2) && decide ((encL p v l).length ≤ 140737488355328)
def filing_Encode.f (k : Nat) (p v : Int) (l : List S60) : Option (ByteArray × Int) :=
 (filing_Valid.f k p v l).bind fun b => if b = true then (if encFine p v l = true then some (⟨(encL p v l).toArray⟩, 0) else none) else some (⟨#[]⟩, 1)
theorem itoa_fits {n : Int} (h : I64B n = true) : strconv_Itoa.f n = some (itoaB n) := by
 unfold strconv_Itoa.f
 rw [if_pos (of_decide_eq_true h)]
 rfl
def EncIn (w W : World) (S : Array Value) : Prop := W.heap[w.heap.size]? = some (Obj.cells S 25 (0, 0))
theorem EncIn.step {w W W1 : World} {S : Array Value} (h : EncIn w W S) (hb : Below W.heap.size W W1) : EncIn w W1 S := blk_below h hb
theorem EncIn.kept {w W W1 : World} {S : Array Value} {b : Nat} (h : EncIn w W S) (hk : BldKept W W1 b) : EncIn w W1 S := kept_blk h hk (by decide) (by decide)
theorem linesL_take (l : List S60) (j : Nat) (hj : j < l.length) : linesL (l.take (j + 1)) = linesL (l.take j) ++ lineL (rd_T60 l (j : Int)) := by
 have e : l.take (j + 1) = l.take j ++ [rd_T60 l (j : Int)] := by
  rw [List.take_add_one]
  congr 1
  unfold rd_T60
  rw [Int.toNat_natCast, List.getD_eq_getElem?_getD, List.getElem?_eq_getElem hj]; rfl
 rw [e]
 unfold linesL
 rw [List.flatMap_append]
 simp
theorem linesL_le (l : List S60) (j : Nat) : (linesL (l.take j)).length ≤ (linesL l).length := by
 have h : linesL (l.take j) ++ linesL (l.drop j) = linesL l := by
  unfold linesL
  rw [← List.flatMap_append, List.take_append_drop]
 have := congrArg List.length h
 rw [List.length_append] at this
 omega
theorem hdr_size (p v : Int) : (hdrB p v).size = 7 + (itoaB p).size + 9 + (itoaB v).size + 1 := by
 unfold hdrB
 simp only [ByteArray.size_append]
 rfl
theorem lines_many (l : List S60) : l.length ≤ (linesL l).length := by
 induction l with
 | nil => exact Nat.le_refl _
 | cons x l ih =>
  have e : linesL (x :: l) = lineL x ++ linesL l := rfl
  have h1 : 1 ≤ (lineL x).length := by
   unfold lineL
   rw [List.length_append, List.length_append]
   have : (itoaB x.f2 ++ (⟨#[10]⟩ : ByteArray)).data.toList.length = (itoaB x.f2).size + 1 := by show (itoaB x.f2 ++ (⟨#[10]⟩ : ByteArray)).size = _; rw [ByteArray.size_append]; rfl
   omega
  rw [e, List.length_append, List.length_cons]
  omega
theorem encL_len (p v : Int) (l : List S60) : (encL p v l).length = (hdrB p v).size + (linesL l).length + 4 := by
 unfold encL
 rw [List.length_append, List.length_append]
 rfl
theorem size_list (b : ByteArray) : b.data.toList.length = b.size := rfl
theorem enc_meas {j n : Nat} {v : Int} (hv : v = ((j + 1 : Nat) : Int)) (h : j < n) : n - (intOf (.int .i64 v)).toNat < n - (intOf (.int .i64 (j : Int))).toNat := by
 subst hv
 have e1 : (intOf (.int .i64 ((j + 1 : Nat) : Int))).toNat = j + 1 := rfl
 have e2 : (intOf (.int .i64 (j : Int))).toNat = j := rfl
 rw [e1, e2]
 omega
theorem BldIn.as {w W : World} {b : Nat} {l l' : List UInt8} (h : BldIn w W b l) (e : l = l') : BldIn w W b l' := e ▸ h
theorem enc_room (p v : Int) (l : List S60) (j : Nat) (hj : j < l.length) (h : (encL p v l).length ≤ 140737488355328) :
 ((hdrB p v).data.toList ++ linesL (l.take j)).length + (wordB (rd_T60 l (j : Int)).f0 ++ ⟨#[32]⟩).size ≤ 140737488355328 ∧
 ((rd_T60 l (j : Int)).f1.toList ≠ [] → (((hdrB p v).data.toList ++ linesL (l.take j)) ++ (wordB (rd_T60 l (j : Int)).f0 ++ ⟨#[32]⟩).data.toList).length + ((rd_T60 l (j : Int)).f1 ++ ⟨#[32]⟩).size ≤ 140737488355328 ∧
  ((((hdrB p v).data.toList ++ linesL (l.take j)) ++ (wordB (rd_T60 l (j : Int)).f0 ++ ⟨#[32]⟩).data.toList) ++ ((rd_T60 l (j : Int)).f1 ++ ⟨#[32]⟩).data.toList).length + (itoaB (rd_T60 l (j : Int)).f2 ++ ⟨#[10]⟩).size ≤ 140737488355328) ∧
 ((rd_T60 l (j : Int)).f1.toList = [] → (((hdrB p v).data.toList ++ linesL (l.take j)) ++ (wordB (rd_T60 l (j : Int)).f0 ++ ⟨#[32]⟩).data.toList).length + (itoaB (rd_T60 l (j : Int)).f2 ++ ⟨#[10]⟩).size ≤ 140737488355328) := by
 rw [encL_len] at h
 have h1 := linesL_le l (j + 1)
 rw [linesL_take l j hj, List.length_append] at h1
 unfold lineL at h1
 rw [List.length_append, List.length_append, size_list, size_list] at h1
 refine ⟨?_, fun hc => ⟨?_, ?_⟩, fun hc => ?_⟩
 · rw [List.length_append, size_list]; omega
 · unfold codeL at h1; rw [if_neg hc, size_list] at h1
   rw [List.length_append, List.length_append, size_list, size_list]; omega
 · unfold codeL at h1; rw [if_neg hc, size_list] at h1
   rw [List.length_append, List.length_append, List.length_append, size_list, size_list, size_list]; omega
 · rw [List.length_append, List.length_append, size_list, size_list]; omega
theorem one_size (a : ByteArray) (c : UInt8) : (a ++ (⟨#[c]⟩ : ByteArray)).size = a.size + 1 := by rw [ByteArray.size_append]; rfl
theorem room_word {L : List UInt8} {a : ByteArray} {c : UInt8} (h : L.length + (a ++ (⟨#[c]⟩ : ByteArray)).size ≤ 140737488355328) : (9223372036854775807 < a.size + 1) = False := by
 rw [one_size] at h
 exact eq_false (by omega)
theorem enc_wrap {p v : Int} {l : List S60} {j : Nat} (hj : j < l.length) (h : (encL p v l).length ≤ 140737488355328) : wrap64 ((j : Int) + 1) = ((j + 1 : Nat) : Int) := by
 have h2 := lines_many l
 rw [encL_len] at h
 unfold wrap64
 omega
theorem enc_lt {l : List S60} {j : Nat} (h : (j : Int) < (l.length : Int)) : j < l.length := by omega
theorem enc_nonneg (j : Nat) : (0 : Int) ≤ (j : Int) := by omega
def enc_T4 : Bool × List (List Nat × List Nat) := (true, [([], []), ([0], [0]), ([1], [1]), ([2], [2]), ([3], [3]), ([], []), ([5], [5]), ([6, 2], [6]), ([4, 7], [4, 7]), ([8], [8]), ([9, 7], [9])])
def enc_B4 : List Nat := [0, 1, 3, 7, 15, 0, 32, 103, 255, 511, 1023]
theorem enc_tab4 : rtab .any (opsOf Tryz.f14 4) = enc_T4 := by kernel_rfl
theorem enc_bits4 : waitsOk enc_T4.2 enc_B4 = true := by kernel_rfl
set_option maxRecDepth 100000 in
set_option maxHeartbeats 2000000 in
theorem filing_Encode.calls (k : Nat) (a0_0 : Int) (a0_1 : Int) (A0_2 : Option Addr) (c0_2 : Nat) (l0_2 : List (S60)) (r1 : ByteArray) (r2 : Int) (w : World) (hr0_2 : Kd.C k60 w A0_2 l0_2.length l0_2) (hc0_2 : l0_2.length ≤ c0_2) (hT : Tabs w) (h : filing_Encode.f k a0_0 a0_1 l0_2 = some (r1, r2)) :
 Calls Tryz.prog 14 #[.agg #[.int .i64 a0_0, .int .i64 a0_1, .slice A0_2 l0_2.length c0_2]] w fun e w' => e = .returned (.tuple #[.string r1, .int .i64 r2]) ∧ Below w.heap.size w w' := by
 unfold filing_Encode.f at h
 cases hv : filing_Valid.f k a0_0 a0_1 l0_2 with
 | none => rw [hv] at h; cases h
 | some b =>
  rw [hv] at h
  have h : (if b = true then (if encFine a0_0 a0_1 l0_2 = true then some ((⟨(encL a0_0 a0_1 l0_2).toArray⟩ : ByteArray), (0 : Int)) else none) else some ((⟨#[]⟩ : ByteArray), (1 : Int))) = some (r1, r2) := h
  have HT := Aside0.mk hT
  have HR := Aside0.mk hr0_2
  have HV := Aside0.mk hv
  have HC2 := Aside0.mk hc0_2
  have hu25 := Tryz.underlying25
  have hu28 := Tryz.underlying60
  clear hT hr0_2 hv hc0_2
  cases b with
  | false =>
   obtain ⟨rfl, rfl⟩ := Prod.mk.inj (Option.some.inj h)
   clear h
   go_enter Tryz.func14, Tryz.ntmps14
   go_wp2_with (go_at_call 16; (with_reducible refine (filing_Valid.calls k _ _ _ _ _ false _ (Kd.C_below HR.out (below_alloc (Below.refl _ _) _)) HC2.out HV.out).mono ?_); rintro e w1 ⟨rfl, hb⟩; have HB := Aside0.mk (below_step (below_alloc (Below.refl _ _) _) hb); clear hb)
   exact ⟨rfl, _, results_tmp2 (t := 2) (u := 3) rfl _ _ _, rfl, HB.out⟩
  | true =>
   have h : (if encFine a0_0 a0_1 l0_2 = true then some ((⟨(encL a0_0 a0_1 l0_2).toArray⟩ : ByteArray), (0 : Int)) else none) = some (r1, r2) := h
   split at h
   · rename_i hf
     obtain ⟨rfl, rfl⟩ := Prod.mk.inj (Option.some.inj h)
     clear h
     unfold encFine at hf
     simp only [Bool.and_eq_true, decide_eq_true_eq, List.all_eq_true] at hf
     obtain ⟨⟨⟨h0, h1⟩, h2⟩, h3⟩ := hf
     have I0 := Aside0.mk (itoa_fits h0)
     have I1 := Aside0.mk (itoa_fits h1)
     have I2 := Aside0.mk h2
     have HN := Aside0.mk h3
     have B0 := Aside0.mk (show ([] : List UInt8).length + (hdrB a0_0 a0_1).size ≤ 140737488355328 by rw [encL_len] at h3; simp only [List.length_nil]; omega)
     have ZB := Aside0.mk (show 7 + (itoaB a0_0).size + 9 + (itoaB a0_1).size + 1 ≤ 140737488355328 by rw [encL_len, hdr_size] at h3; omega)
     have B9 := Aside0.mk (show ((hdrB a0_0 a0_1).data.toList ++ linesL (l0_2.take l0_2.length)).length + (⟨#[101, 110, 100, 10]⟩ : ByteArray).size ≤ 140737488355328 by rw [encL_len] at h3; rw [List.length_append, List.take_length, size_list]; exact h3)
     clear h0 h1 h2 h3
     go_enter Tryz.func14, Tryz.ntmps14
     go_upto_region 3 with (go_at_call 16; (with_reducible refine (filing_Valid.calls k _ _ _ _ _ true _ (Kd.C_below HR.out (below_alloc (Below.refl _ _) _)) HC2.out HV.out).mono ?_); rintro e w1 ⟨rfl, hb⟩; have HB := Aside0.mk (below_step (below_alloc (Below.refl _ _) _) hb); have FI := Aside0.mk (EncIn.step (w := w) (blk_new w (.cells #[.int .i64 a0_0, .int .i64 a0_1, .slice A0_2 l0_2.length c0_2] 25)) hb); clear hb)
     have ST := Aside0.mk (show BldIn w (w1.alloc (.cells #[.pointer none, .slice none 0 0] 69)) w1.heap.size [] from ⟨below_alloc HB.out _, bld_new w1 w.heap.size HB.out.size⟩)
     have FI_ := Aside0.mk (FI.out.step (below_alloc (Below.refl _ _) (.cells #[.pointer none, .slice none 0 0] 69)))
     clear FI HB HV
     have FI := FI_
     clear FI_
     go_upto_region 4 with (fail)
     have ST_ := Aside0.mk (ST.out.step (below_drew1 (Below.refl _ _)))
     have FI_ := Aside0.mk (FI.out.step (below_drew1 (Below.refl _ _)))
     clear ST FI
     have ST := ST_
     have FI := FI_
     clear ST_ FI_
     have hbb : w1.heap.size = w1.heap.size := rfl
     generalize w1.heap.size = bb at *
     refine start_ (n := 11) (S := fun w' => True) (ds := []) #[false, false, false, false, false, false, false, false, false, false, false] (by kernel_rfl) rfl rfl trivial (fun hHeld => ?_)
     refine with_tabW enc_tab4 enc_bits4 (fun HT_ HW_ => ?_)
     generalize (w1.alloc (.cells #[.pointer none, .slice none 0 0] 69)).drew = ws at ST FI ⊢
     refine pure_ (i := 0) (N := some 10) (v := ?_) (a' := ?_) #[true, false, false, false, false, false, false, false, false, false, false] rfl rfl (by kernel_rfl) (fun _ _ _ h => h) (Or.inl ⟨by rfl, ?_⟩) ?_ ?_
     rotate_left
     · intro w'
       go_simp
       with_reducible rfl
     rotate_left
     · simp only [Act.put, List.setIfInBounds_toArray, List.set_cons_zero, List.set_cons_succ, i64_w, i32_w]
       rfl
     refine pure_ (i := 5) (N := some 15) (v := ?_) (a' := ?_) #[true, false, false, false, false, true, false, false, false, false, false] rfl rfl (by kernel_rfl) (fun _ _ _ h => h) (Or.inl ⟨by rfl, ?_⟩) ?_ ?_
     rotate_left
     · intro w'
       go_simp
       with_reducible rfl
     rotate_left
     · simp only [Act.put, List.setIfInBounds_toArray, List.set_cons_zero, List.set_cons_succ, i64_w, i32_w]
       rfl
     refine inv_at [1, 2, 3, 4, 6, 7, 8, 9, 10] (fun a0_ b a w' => a = putSel a0_ b [(1, 11, .int .i64 a0_0), (2, 12, .string (itoaB a0_0)), (3, 13, .string ((⟨#[114, 101, 116, 117, 114, 110, 32]⟩ : ByteArray) ++ itoaB a0_0)), (4, 14, .string ((⟨#[114, 101, 116, 117, 114, 110, 32]⟩ : ByteArray) ++ itoaB a0_0 ++ (⟨#[32, 118, 101, 114, 115, 105, 111, 110, 32]⟩ : ByteArray))), (6, 16, .int .i64 a0_1), (7, 17, .string (itoaB a0_1)), (8, 18, .string ((⟨#[114, 101, 116, 117, 114, 110, 32]⟩ : ByteArray) ++ itoaB a0_0 ++ (⟨#[32, 118, 101, 114, 115, 105, 111, 110, 32]⟩ : ByteArray) ++ itoaB a0_1)), (9, 19, .string (hdrB a0_0 a0_1)), (10, 20, .tuple #[.int .i64 (hdrB a0_0 a0_1).size, .nilIface])] ∧ (EncIn w w' #[.int .i64 a0_0, .int .i64 a0_1, .slice A0_2 l0_2.length c0_2]) ∧ (b 10 = false → BldIn w w' bb []) ∧ (b 10 = true → BldIn w w' bb ([] ++ (hdrB a0_0 a0_1).data.toList))) HT_.out HW_.out (by kernel_rfl) (by kernel_rfl) ?_ ?_ ?_
     · exact ⟨by simp only [putSel, Bool.false_eq_true, if_false], FI.out, fun _ => ST.out, fun h_ => absurd h_ (by decide)⟩
     · skip
       clear FI ST
       refine steps_cons ?_ ?_
       · rintro b a w' ⟨ha, Q_FI, Q_ST, Q_ST2⟩ hb_ hon hoff
         refine ⟨_, rfl, fun K hK => ?_⟩
         have e10 : a.tmps[10]? = some (.pointer (some ⟨w.heap.size, 0, none⟩)) := by rw [ha]; exact (putSel_off rfl).trans rfl
         replace ha := Aside0.mk ha
         have FI := Aside0.mk Q_FI
         have ST := Aside0.mk (Q_ST (hoff 10 (by kernel_rfl)))
         have d0 : w'.cell? ⟨w.heap.size, 0, none⟩ = some (.int .i64 a0_0) := (blk_cell FI.out 0).trans rfl
         refine value_ (w1 := w') (v := .int .i64 a0_0) (by rfl) rfl ?_ ?_
         · go_simp
           (try simp only [i64_w])
           try rfl
         refine hK.out _ _ ⟨(by rw [ha.out]; exact putSel_upk 0 hb_ rfl rfl rfl), Q_FI, Q_ST, fun h0_ => absurd ((hoff 10 (by kernel_rfl)).symm.trans h0_) (by decide)⟩
       refine steps_cons ?_ ?_
       · rintro b a w' ⟨ha, Q_FI, Q_ST, Q_ST2⟩ hb_ hon hoff
         refine ⟨_, rfl, fun K hK => ?_⟩
         have e11 : a.tmps[11]? = some (.int .i64 a0_0) := by rw [ha]; exact putSel_on (e := (1, 11, .int .i64 a0_0)) 0 rfl rfl (hon 1 (by kernel_rfl)) rfl
         replace ha := Aside0.mk ha
         have FI := Aside0.mk Q_FI
         have ST := Aside0.mk (Q_ST (hoff 10 (by kernel_rfl)))
         refine goes_ Tryz.func36 (by kernel_rfl) rfl #[.int .i64 a0_0] (by rfl) rfl rfl (by first | (simp only [List.map_toArray, List.map_cons, List.map_nil, Act.eval, Array.getD_eq_getD_getElem?, Option.getD_some, e11]; done) | (simp only [List.map_toArray, List.map_cons, List.map_nil, Act.eval, Array.getD_eq_getD_getElem?, Option.getD_some, e11]; rfl)) ?_
         (with_reducible refine (strconv_Itoa.calls a0_0 _ _ (HT.out.below ST.out.below) I0.out).mono ?_)
         rintro e w7 ⟨rfl, hb2_⟩
         refine ⟨_, rfl, ?_⟩
         refine hK.out _ _ ⟨(by rw [ha.out]; exact putSel_upk 1 hb_ rfl rfl rfl), (FI.out.step hb2_), fun _ => (ST.out.step hb2_), fun h0_ => absurd ((hoff 10 (by kernel_rfl)).symm.trans h0_) (by decide)⟩
       refine steps_cons ?_ ?_
       · rintro b a w' ⟨ha, Q_FI, Q_ST, Q_ST2⟩ hb_ hon hoff
         refine ⟨_, rfl, fun K hK => ?_⟩
         have e12 : a.tmps[12]? = some (.string (itoaB a0_0)) := by rw [ha]; exact putSel_on (e := (2, 12, .string (itoaB a0_0))) 1 rfl rfl (hon 2 (by kernel_rfl)) rfl
         replace ha := Aside0.mk ha
         have FI := Aside0.mk Q_FI
         have ST := Aside0.mk (Q_ST (hoff 10 (by kernel_rfl)))
         have z1 : (7 + (itoaB a0_0).size ≤ 9223372036854775807) = True := eq_true (by have := ZB.out; omega)
         refine value_ (w1 := w') (v := .string ((⟨#[114, 101, 116, 117, 114, 110, 32]⟩ : ByteArray) ++ itoaB a0_0)) (by rfl) rfl ?_ ?_
         · go_simp
           (try simp only [i64_w])
           try rfl
         refine hK.out _ _ ⟨(by rw [ha.out]; exact putSel_upk 2 hb_ rfl rfl rfl), Q_FI, Q_ST, fun h0_ => absurd ((hoff 10 (by kernel_rfl)).symm.trans h0_) (by decide)⟩
       refine steps_cons ?_ ?_
       · rintro b a w' ⟨ha, Q_FI, Q_ST, Q_ST2⟩ hb_ hon hoff
         refine ⟨_, rfl, fun K hK => ?_⟩
         have e13 : a.tmps[13]? = some (.string ((⟨#[114, 101, 116, 117, 114, 110, 32]⟩ : ByteArray) ++ itoaB a0_0)) := by rw [ha]; exact putSel_on (e := (3, 13, .string ((⟨#[114, 101, 116, 117, 114, 110, 32]⟩ : ByteArray) ++ itoaB a0_0))) 2 rfl rfl (hon 3 (by kernel_rfl)) rfl
         replace ha := Aside0.mk ha
         have FI := Aside0.mk Q_FI
         have ST := Aside0.mk (Q_ST (hoff 10 (by kernel_rfl)))
         have z1 : (7 + (itoaB a0_0).size ≤ 9223372036854775798) = True := eq_true (by have := ZB.out; omega)
         refine value_ (w1 := w') (v := .string ((⟨#[114, 101, 116, 117, 114, 110, 32]⟩ : ByteArray) ++ itoaB a0_0 ++ (⟨#[32, 118, 101, 114, 115, 105, 111, 110, 32]⟩ : ByteArray))) (by rfl) rfl ?_ ?_
         · go_simp
           (try simp only [i64_w])
           try rfl
         refine hK.out _ _ ⟨(by rw [ha.out]; exact putSel_upk 3 hb_ rfl rfl rfl), Q_FI, Q_ST, fun h0_ => absurd ((hoff 10 (by kernel_rfl)).symm.trans h0_) (by decide)⟩
       refine steps_cons ?_ ?_
       · rintro b a w' ⟨ha, Q_FI, Q_ST, Q_ST2⟩ hb_ hon hoff
         refine ⟨_, rfl, fun K hK => ?_⟩
         have e15 : a.tmps[15]? = some (.pointer (some ⟨w.heap.size, 1, none⟩)) := by rw [ha]; exact (putSel_off rfl).trans rfl
         replace ha := Aside0.mk ha
         have FI := Aside0.mk Q_FI
         have ST := Aside0.mk (Q_ST (hoff 10 (by kernel_rfl)))
         have d1 : w'.cell? ⟨w.heap.size, 1, none⟩ = some (.int .i64 a0_1) := (blk_cell FI.out 1).trans rfl
         refine value_ (w1 := w') (v := .int .i64 a0_1) (by rfl) rfl ?_ ?_
         · go_simp
           (try simp only [i64_w])
           try rfl
         refine hK.out _ _ ⟨(by rw [ha.out]; exact putSel_upk 4 hb_ rfl rfl rfl), Q_FI, Q_ST, fun h0_ => absurd ((hoff 10 (by kernel_rfl)).symm.trans h0_) (by decide)⟩
       refine steps_cons ?_ ?_
       · rintro b a w' ⟨ha, Q_FI, Q_ST, Q_ST2⟩ hb_ hon hoff
         refine ⟨_, rfl, fun K hK => ?_⟩
         have e16 : a.tmps[16]? = some (.int .i64 a0_1) := by rw [ha]; exact putSel_on (e := (6, 16, .int .i64 a0_1)) 4 rfl rfl (hon 6 (by kernel_rfl)) rfl
         replace ha := Aside0.mk ha
         have FI := Aside0.mk Q_FI
         have ST := Aside0.mk (Q_ST (hoff 10 (by kernel_rfl)))
         refine goes_ Tryz.func36 (by kernel_rfl) rfl #[.int .i64 a0_1] (by rfl) rfl rfl (by first | (simp only [List.map_toArray, List.map_cons, List.map_nil, Act.eval, Array.getD_eq_getD_getElem?, Option.getD_some, e16]; done) | (simp only [List.map_toArray, List.map_cons, List.map_nil, Act.eval, Array.getD_eq_getD_getElem?, Option.getD_some, e16]; rfl)) ?_
         (with_reducible refine (strconv_Itoa.calls a0_1 _ _ (HT.out.below ST.out.below) I1.out).mono ?_)
         rintro e w7 ⟨rfl, hb2_⟩
         refine ⟨_, rfl, ?_⟩
         refine hK.out _ _ ⟨(by rw [ha.out]; exact putSel_upk 5 hb_ rfl rfl rfl), (FI.out.step hb2_), fun _ => (ST.out.step hb2_), fun h0_ => absurd ((hoff 10 (by kernel_rfl)).symm.trans h0_) (by decide)⟩
       refine steps_cons ?_ ?_
       · rintro b a w' ⟨ha, Q_FI, Q_ST, Q_ST2⟩ hb_ hon hoff
         refine ⟨_, rfl, fun K hK => ?_⟩
         have e14 : a.tmps[14]? = some (.string ((⟨#[114, 101, 116, 117, 114, 110, 32]⟩ : ByteArray) ++ itoaB a0_0 ++ (⟨#[32, 118, 101, 114, 115, 105, 111, 110, 32]⟩ : ByteArray))) := by rw [ha]; exact putSel_on (e := (4, 14, .string ((⟨#[114, 101, 116, 117, 114, 110, 32]⟩ : ByteArray) ++ itoaB a0_0 ++ (⟨#[32, 118, 101, 114, 115, 105, 111, 110, 32]⟩ : ByteArray)))) 3 rfl rfl (hon 4 (by kernel_rfl)) rfl
         have e17 : a.tmps[17]? = some (.string (itoaB a0_1)) := by rw [ha]; exact putSel_on (e := (7, 17, .string (itoaB a0_1))) 5 rfl rfl (hon 7 (by kernel_rfl)) rfl
         replace ha := Aside0.mk ha
         have FI := Aside0.mk Q_FI
         have ST := Aside0.mk (Q_ST (hoff 10 (by kernel_rfl)))
         have z1 : (7 + (itoaB a0_0).size + 9 + (itoaB a0_1).size ≤ 9223372036854775807) = True := eq_true (by have := ZB.out; omega)
         refine value_ (w1 := w') (v := .string ((⟨#[114, 101, 116, 117, 114, 110, 32]⟩ : ByteArray) ++ itoaB a0_0 ++ (⟨#[32, 118, 101, 114, 115, 105, 111, 110, 32]⟩ : ByteArray) ++ itoaB a0_1)) (by rfl) rfl ?_ ?_
         · go_simp
           (try simp only [i64_w])
           try rfl
         refine hK.out _ _ ⟨(by rw [ha.out]; exact putSel_upk 6 hb_ rfl rfl rfl), Q_FI, Q_ST, fun h0_ => absurd ((hoff 10 (by kernel_rfl)).symm.trans h0_) (by decide)⟩
       refine steps_cons ?_ ?_
       · rintro b a w' ⟨ha, Q_FI, Q_ST, Q_ST2⟩ hb_ hon hoff
         refine ⟨_, rfl, fun K hK => ?_⟩
         have e18 : a.tmps[18]? = some (.string ((⟨#[114, 101, 116, 117, 114, 110, 32]⟩ : ByteArray) ++ itoaB a0_0 ++ (⟨#[32, 118, 101, 114, 115, 105, 111, 110, 32]⟩ : ByteArray) ++ itoaB a0_1)) := by rw [ha]; exact putSel_on (e := (8, 18, .string ((⟨#[114, 101, 116, 117, 114, 110, 32]⟩ : ByteArray) ++ itoaB a0_0 ++ (⟨#[32, 118, 101, 114, 115, 105, 111, 110, 32]⟩ : ByteArray) ++ itoaB a0_1))) 6 rfl rfl (hon 8 (by kernel_rfl)) rfl
         replace ha := Aside0.mk ha
         have FI := Aside0.mk Q_FI
         have ST := Aside0.mk (Q_ST (hoff 10 (by kernel_rfl)))
         have z1 : (9223372036854775807 < 7 + (itoaB a0_0).size + 9 + (itoaB a0_1).size + 1) = False := eq_false (by have := ZB.out; omega)
         refine value_ (w1 := w') (v := .string (hdrB a0_0 a0_1)) (by rfl) rfl ?_ ?_
         · go_simp
           (try simp only [i64_w])
           try rfl
         refine hK.out _ _ ⟨(by rw [ha.out]; exact putSel_upk 7 hb_ rfl rfl rfl), Q_FI, Q_ST, fun h0_ => absurd ((hoff 10 (by kernel_rfl)).symm.trans h0_) (by decide)⟩
       refine steps_cons ?_ ?_
       · rintro b a w' ⟨ha, Q_FI, Q_ST, Q_ST2⟩ hb_ hon hoff
         refine ⟨_, rfl, fun K hK => ?_⟩
         have e4 : a.tmps[4]? = some (.pointer (some ⟨bb, 0, none⟩)) := by rw [ha]; exact (putSel_off rfl).trans rfl
         have e19 : a.tmps[19]? = some (.string (hdrB a0_0 a0_1)) := by rw [ha]; exact putSel_on (e := (9, 19, .string (hdrB a0_0 a0_1))) 7 rfl rfl (hon 9 (by kernel_rfl)) rfl
         replace ha := Aside0.mk ha
         have FI := Aside0.mk Q_FI
         have ST := Aside0.mk (Q_ST hb_)
         refine goes_ Tryz.func35 (by kernel_rfl) rfl #[.pointer (some ⟨bb, 0, none⟩), .string (hdrB a0_0 a0_1)] (by rfl) rfl rfl (by first | (simp only [List.map_toArray, List.map_cons, List.map_nil, Act.eval, Array.getD_eq_getD_getElem?, Option.getD_some, e4, e19]; done) | (simp only [List.map_toArray, List.map_cons, List.map_nil, Act.eval, Array.getD_eq_getD_getElem?, Option.getD_some, e4, e19]; rfl)) ?_
         (with_reducible refine (bld_writes ST.out _ B0.out).mono ?_)
         rintro e w7 ⟨rfl, hb2_, hk_⟩
         refine ⟨_, rfl, ?_⟩
         refine hK.out _ _ ⟨(by rw [ha.out]; exact putSel_upk 8 hb_ rfl rfl rfl), (FI.out.kept hk_), fun h0_ => absurd ((up_self b 10).symm.trans h0_) (by decide), fun _ => hb2_⟩
       exact steps_nil
     · rintro b a w' hall ⟨ha, Q_FI, Q_ST, Q_ST2⟩
       clear FI ST
       have hb1_ := hall 1 (by kernel_rfl)
       have hb2_ := hall 2 (by kernel_rfl)
       have hb3_ := hall 3 (by kernel_rfl)
       have hb4_ := hall 4 (by kernel_rfl)
       have hb6_ := hall 6 (by kernel_rfl)
       have hb7_ := hall 7 (by kernel_rfl)
       have hb8_ := hall 8 (by kernel_rfl)
       have hb9_ := hall 9 (by kernel_rfl)
       have hb10_ := hall 10 (by kernel_rfl)
       subst ha
       simp only [putSel, hb1_, hb2_, hb3_, hb4_, hb6_, hb7_, hb8_, hb9_, hb10_, if_true, Act.put, List.setIfInBounds_toArray, List.set_cons_zero, List.set_cons_succ]
       have FI := Aside0.mk Q_FI
       clear Q_FI
       clear Q_ST
       have ST2 := Aside0.mk (Q_ST2 hb10_)
       clear Q_ST2
       clear hall hb1_ hb2_ hb3_ hb4_ hb6_ hb7_ hb8_ hb9_ hb10_
       have d2 := (blk_cell FI.out 2).trans (show _ = some (Value.slice A0_2 l0_2.length c0_2) from rfl)
       have ST1 := Aside0.mk (ST2.out.as (l' := (hdrB a0_0 a0_1).data.toList ++ linesL (l0_2.take 0)) (by show _ = _ ++ ([] : List UInt8); rw [List.append_nil]; rfl))
       clear ST2 B0 I0 I1
       go_wp2
       go_loopw [24] (fun v wr => ∃ j : Nat, v = .int .i64 j ∧ Aside0 (j ≤ l0_2.length) ∧ Aside0 (BldIn w wr bb ((hdrB a0_0 a0_1).data.toList ++ linesL (l0_2.take j))) ∧ Aside0 (EncIn w wr #[.int .i64 a0_0, .int .i64 a0_1, .slice A0_2 l0_2.length c0_2])) (fun v _ => l0_2.length - (intOf v).toNat)
       case atStart => exact ⟨0, rfl, ⟨by omega⟩, ST1, FI⟩
       case round =>
        clear d2
        obtain ⟨j, rfl, HJ, ST, FI⟩ := hrel
        by_cases c : (j : Int) < (l0_2.length : Int)
        · have HC := Aside0.mk c
          have c3 : decide ((j : Int) < (l0_2.length : Int)) = true := decide_eq_true c
          have c4 : decide (j < l0_2.length) = true := decide_eq_true (enc_lt c)
          obtain ⟨ad, e0, hx0, hx1, hx2⟩ := at_T60 HR.out (j : Int) (enc_nonneg j) c
          cases e0
          replace hx0 := (ST.out.below.cell (World.block_lt_of_cell? w _ hx0)).trans hx0
          replace hx1 := (ST.out.below.cell (World.block_lt_of_cell? w _ hx1)).trans hx1
          replace hx2 := (ST.out.below.cell (World.block_lt_of_cell? w _ hx2)).trans hx2
          simp only [Int.toNat_natCast] at hx0 hx1 hx2
          have p0 : (0 ≤ (j : Int)) = True := eq_true (enc_nonneg j)
          have p1 : ((j : Int) < (l0_2.length : Int)) = True := eq_true c
          have hmem : rd_T60 l0_2 (j : Int) ∈ l0_2 := by
           unfold rd_T60
           rw [Int.toNat_natCast, List.getD_eq_getElem?_getD, List.getElem?_eq_getElem (enc_lt c)]
           exact List.getElem_mem _
          have I3 := Aside0.mk (itoa_fits (I2.out _ hmem))
          have RM := Aside0.mk (enc_room a0_0 a0_1 l0_2 j (enc_lt c) HN.out)
          have RM1 := Aside0.mk RM.out.1
          have HW2 := Aside0.mk (show wrap64 ((j : Int) + 1) = ((j + 1 : Nat) : Int) from enc_wrap (enc_lt c) HN.out)
          have BX := Aside0.mk (blk_new wr (.cells #[.int .i64 (rd_T60 l0_2 (j : Int)).f0, .string (rd_T60 l0_2 (j : Int)).f1, .int .i64 (rd_T60 l0_2 (j : Int)).f2] 60))
          have ST_ := Aside0.mk (ST.out.step (below_alloc (Below.refl _ _) (.cells #[.int .i64 (rd_T60 l0_2 (j : Int)).f0, .string (rd_T60 l0_2 (j : Int)).f1, .int .i64 (rd_T60 l0_2 (j : Int)).f2] 60)))
          have FI_ := Aside0.mk (FI.out.step (below_alloc (Below.refl _ _) (.cells #[.int .i64 (rd_T60 l0_2 (j : Int)).f0, .string (rd_T60 l0_2 (j : Int)).f1, .int .i64 (rd_T60 l0_2 (j : Int)).f2] 60)))
          clear ST FI hmem c
          have ST := ST_
          have FI := FI_
          clear ST_ FI_
          have WD := Aside0.mk (word_some (rd_T60 l0_2 (j : Int)).f0)
          by_cases cc : (rd_T60 l0_2 (j : Int)).f1.toList = ([] : List UInt8)
          · have cb : (rd_T60 l0_2 (j : Int)).f1.toList.isEmpty = true := by rw [cc]; rfl
            have RM3 := Aside0.mk (RM.out.2.2 cc)
            have CC := Aside0.mk cc
            have y1 := room_word RM1.out
            have y3 := room_word RM3.out
            clear cc
            go_wp2_with (first
             | (go_at_call 37; (with_reducible refine (filing_word.calls _ _ _ WD.out).mono ?_); rintro e w7 ⟨rfl, hd_⟩; have hb_ := hd_.below; clear hd_; have ST_ := Aside0.mk (ST.out.step hb_); have FI_ := Aside0.mk (FI.out.step hb_); have BX_ := Aside0.mk (blk_below BX.out hb_); clear ST FI BX hb_; have ST := ST_; have FI := FI_; have BX := BX_; clear ST_ FI_ BX_)
             | (go_at_call 35; (with_reducible refine (bld_writes ST.out _ RM1.out).mono ?_); rintro e w7 ⟨rfl, hb_, hk_⟩; have ST_ := Aside0.mk hb_; have FI_ := Aside0.mk (FI.out.kept hk_); have BX_ := Aside0.mk (kept_blk BX.out hk_ (by decide) (by decide)); clear ST FI BX hb_ hk_; have ST := ST_; have FI := FI_; have BX := BX_; clear ST_ FI_ BX_; have x1 := (blk_cell BX.out 1).trans (show _ = some (Value.string (rd_T60 l0_2 (j : Int)).f1) from rfl); have x2 := (blk_cell BX.out 2).trans (show _ = some (Value.int .i64 (rd_T60 l0_2 (j : Int)).f2) from rfl))
             | (go_at_call 35; (with_reducible refine (bld_writes ST.out _ RM3.out).mono ?_); rintro e w7 ⟨rfl, hb_, hk_⟩; have ST_ := Aside0.mk hb_; have FI_ := Aside0.mk (FI.out.kept hk_); have BX_ := Aside0.mk (kept_blk BX.out hk_ (by decide) (by decide)); clear ST FI BX hb_ hk_; have ST := ST_; have FI := FI_; have BX := BX_; clear ST_ FI_ BX_; have x1 := (blk_cell BX.out 1).trans (show _ = some (Value.string (rd_T60 l0_2 (j : Int)).f1) from rfl); have x2 := (blk_cell BX.out 2).trans (show _ = some (Value.int .i64 (rd_T60 l0_2 (j : Int)).f2) from rfl))
             | (go_at_call 36; (with_reducible refine (strconv_Itoa.calls _ _ _ (HT.out.below ST.out.below) I3.out).mono ?_); rintro e w7 ⟨rfl, hb_⟩; have ST_ := Aside0.mk (ST.out.step hb_); have FI_ := Aside0.mk (FI.out.step hb_); have BX_ := Aside0.mk (blk_below BX.out hb_); clear ST FI BX hb_; have ST := ST_; have FI := FI_; have BX := BX_; clear ST_ FI_ BX_))
            go_roundw
            case measure => exact enc_meas HW2.out (enc_lt HC.out)
            case rel =>
             refine ⟨j + 1, by rw [HW2.out], ⟨enc_lt HC.out⟩, ⟨ST.out.as ?_⟩, FI⟩
             rw [linesL_take l0_2 j (enc_lt HC.out)]
             unfold lineL codeL
             rw [if_pos CC.out]
             simp only [List.append_assoc, List.nil_append]
          · have cb : (rd_T60 l0_2 (j : Int)).f1.toList.isEmpty = false := by simpa using cc
            have RM2 := Aside0.mk (RM.out.2.1 cc).1
            have RM3 := Aside0.mk (RM.out.2.1 cc).2
            have CC := Aside0.mk cc
            have y1 := room_word RM1.out
            have y2 := room_word RM2.out
            have y3 := room_word RM3.out
            clear cc
            go_wp2_with (first
             | (go_at_call 37; (with_reducible refine (filing_word.calls _ _ _ WD.out).mono ?_); rintro e w7 ⟨rfl, hd_⟩; have hb_ := hd_.below; clear hd_; have ST_ := Aside0.mk (ST.out.step hb_); have FI_ := Aside0.mk (FI.out.step hb_); have BX_ := Aside0.mk (blk_below BX.out hb_); clear ST FI BX hb_; have ST := ST_; have FI := FI_; have BX := BX_; clear ST_ FI_ BX_)
             | (go_at_call 35; (with_reducible refine (bld_writes ST.out _ RM1.out).mono ?_); rintro e w7 ⟨rfl, hb_, hk_⟩; have ST_ := Aside0.mk hb_; have FI_ := Aside0.mk (FI.out.kept hk_); have BX_ := Aside0.mk (kept_blk BX.out hk_ (by decide) (by decide)); clear ST FI BX hb_ hk_; have ST := ST_; have FI := FI_; have BX := BX_; clear ST_ FI_ BX_; have x1 := (blk_cell BX.out 1).trans (show _ = some (Value.string (rd_T60 l0_2 (j : Int)).f1) from rfl); have x2 := (blk_cell BX.out 2).trans (show _ = some (Value.int .i64 (rd_T60 l0_2 (j : Int)).f2) from rfl))
             | (go_at_call 35; (with_reducible refine (bld_writes ST.out _ RM2.out).mono ?_); rintro e w7 ⟨rfl, hb_, hk_⟩; have ST_ := Aside0.mk hb_; have FI_ := Aside0.mk (FI.out.kept hk_); have BX_ := Aside0.mk (kept_blk BX.out hk_ (by decide) (by decide)); clear ST FI BX hb_ hk_; have ST := ST_; have FI := FI_; have BX := BX_; clear ST_ FI_ BX_; have x1 := (blk_cell BX.out 1).trans (show _ = some (Value.string (rd_T60 l0_2 (j : Int)).f1) from rfl); have x2 := (blk_cell BX.out 2).trans (show _ = some (Value.int .i64 (rd_T60 l0_2 (j : Int)).f2) from rfl))
             | (go_at_call 35; (with_reducible refine (bld_writes ST.out _ RM3.out).mono ?_); rintro e w7 ⟨rfl, hb_, hk_⟩; have ST_ := Aside0.mk hb_; have FI_ := Aside0.mk (FI.out.kept hk_); have BX_ := Aside0.mk (kept_blk BX.out hk_ (by decide) (by decide)); clear ST FI BX hb_ hk_; have ST := ST_; have FI := FI_; have BX := BX_; clear ST_ FI_ BX_; have x1 := (blk_cell BX.out 1).trans (show _ = some (Value.string (rd_T60 l0_2 (j : Int)).f1) from rfl); have x2 := (blk_cell BX.out 2).trans (show _ = some (Value.int .i64 (rd_T60 l0_2 (j : Int)).f2) from rfl))
             | (go_at_call 36; (with_reducible refine (strconv_Itoa.calls _ _ _ (HT.out.below ST.out.below) I3.out).mono ?_); rintro e w7 ⟨rfl, hb_⟩; have ST_ := Aside0.mk (ST.out.step hb_); have FI_ := Aside0.mk (FI.out.step hb_); have BX_ := Aside0.mk (blk_below BX.out hb_); clear ST FI BX hb_; have ST := ST_; have FI := FI_; have BX := BX_; clear ST_ FI_ BX_))
            go_roundw
            case measure => exact enc_meas HW2.out (enc_lt HC.out)
            case rel =>
             refine ⟨j + 1, by rw [HW2.out], ⟨enc_lt HC.out⟩, ⟨ST.out.as ?_⟩, FI⟩
             rw [linesL_take l0_2 j (enc_lt HC.out)]
             unfold lineL codeL
             rw [if_neg CC.out]
             simp only [List.append_assoc, List.nil_append]
        · obtain rfl : j = l0_2.length := by have := HJ.out; omega
          have c3 : decide ((l0_2.length : Int) < (l0_2.length : Int)) = false := decide_eq_false (by omega)
          have c4 : decide (l0_2.length < l0_2.length) = false := decide_eq_false (by omega)
          clear c
          go_wp2_with (first
           | (go_at_call 35; (with_reducible refine (bld_writes ST.out _ B9.out).mono ?_); rintro e w7 ⟨rfl, hb_, hk_⟩; have ST_ := Aside0.mk hb_; clear ST hb_ hk_; have ST := ST_; clear ST_)
           | (go_at_call 38; (with_reducible refine (bld_string ST.out).mono ?_); rintro e w8 ⟨rfl, hb_⟩; have HE := Aside0.mk hb_; clear hb_))
          refine ⟨rfl, _, results_tmp2 (t := 2) (u := 3) rfl _ _ _, ?_, HE.out⟩
          have e9 : encL a0_0 a0_1 l0_2 = (hdrB a0_0 a0_1).data.toList ++ (linesL l0_2 ++ [101, 110, 100, 10]) := by unfold encL; rw [List.append_assoc]; rfl
          rw [e9]
          rfl
   · cases h
end Go.Proofs.YtejgfblphgcgkaaGreatDoor.P
