/- Texts for the law RatioField (kept out of a larger one). -/
import Derived.Test.YtighihhaljofdaaDoorZRatioField11
import Derived.Test.YtighihhaljofdaaDoorZRatioField9
import Derived.Test.YtighihhaljofdaaDoorZRatioField14
import Derived.Test.YtighihhaljofdaaDoorZRatioField12
import Derived.WalkKit
namespace Go.Proofs.YtighihhaljofdaaDoor.P
open Go.RowKit Go.Proofs.YtighihhaljofdaaDoorW.PrintWords Go.Proofs.YtighihhaljofdaaDoorW.PrintLast Go.Proofs.YtighihhaljofdaaDoorW.PrintMore
def cutAt (s : ByteArray) (c : UInt8) : Option (ByteArray × ByteArray) :=
  let i := Lib.indexByte s.data.toList c
  if i < 0 then none else some (s.extract 0 i.toNat, s.extract (i.toNat + 1) s.size)
def ratio_Parse.tail (k : Nat) (s : ByteArray) (n d : Int) : Option (Int × Int × Bool) :=
  (ratio_Format.f k n d).bind fun t => if t.toList = s.toList then (if s.toList = ([] : List UInt8) then some (0, 0, false) else some (n, d, true)) else some (0, 0, false)
def ratio_Parse.f (k : Nat) (a0 : ByteArray) : Option (Int × Int × Bool) :=
  if a0.size ≤ 281474976710656 then
    match cutAt a0 47 with
    | none => match Lib.atoiAll a0.data.toList with
      | .ok n => ratio_Parse.tail k a0 n 1
      | _ => some (0, 0, false)
    | some (x, y) => match Lib.atoiAll x.data.toList with
      | .ok n => match Lib.atoiAll y.data.toList with
        | .ok d => ratio_Parse.tail k a0 n d
        | _ => some (0, 0, false)
      | _ => some (0, 0, false)
  else none
theorem ratio_Parse.tail_mono (s : ByteArray) (n d : Int) (k : Nat) : LeO (ratio_Parse.tail k s n d) (ratio_Parse.tail (k + 1) s n d) := by
  unfold ratio_Parse.tail
  exact LeO.bind (ratio_Format.mono _ _ _) (fun _ => LeO.refl _)
theorem ratio_Parse.mono : ∀ a0 k, LeO (ratio_Parse.f k a0) (ratio_Parse.f (k + 1) a0) := by
  intro a0 k
  unfold ratio_Parse.f
  split
  · split
    · split
      · exact ratio_Parse.tail_mono _ _ _ _
      · exact LeO.refl _
    · split
      · split
        · exact ratio_Parse.tail_mono _ _ _ _
        · exact LeO.refl _
      · exact LeO.refl _
  · exact LeO.refl _
theorem cut_none (s : ByteArray) (c : UInt8) (w : World) (h : cutAt s c = none) :
    Calls Tryd.prog 37 #[.string s, .string ⟨#[c]⟩] w fun e w' => e = .returned (.tuple #[.string s, .string ByteArray.empty, .bool false]) ∧ Drawn0 w w' := by
  have hi : Lib.indexByte s.data.toList c < 0 := by
    unfold cutAt at h
    by_cases hc : Lib.indexByte s.data.toList c < 0
    · exact hc
    · simp [hc] at h
  have key : Calls Tryd.prog 50 #[.string s, .string ⟨#[c]⟩] w fun e w' => e = .returned (.tuple #[.string s, .string ByteArray.empty, .bool false]) ∧ w = w' := by
    go_enter Tryd.func50, Tryd.ntmps50
    go_wp2_with (first | (go_at_call 54; refine (Tryd.stringslite_Index_one _ _ _).mono ?_; rintro e w' ⟨rfl, rfl⟩))
    go_ret3
    exact ⟨rfl, rfl⟩
  go_enter Tryd.func37, Tryd.ntmps37
  go_wp2_with (go_at_call 50; refine key.mono ?_; rintro e w' ⟨rfl, rfl⟩)
  go_ret3
  exact ⟨rfl, Drawn0.refl _⟩
theorem cutAt_size {s x y : ByteArray} {c : UInt8} (h : cutAt s c = some (x, y)) : ∃ i : Nat, Lib.indexByte s.data.toList c = i ∧ i < s.size ∧ x = s.extract 0 i ∧ y = s.extract (i + 1) s.size := by
  unfold cutAt at h
  by_cases hc : Lib.indexByte s.data.toList c < 0
  · simp [hc] at h
  · simp only [hc, if_false, Option.some.injEq, Prod.mk.injEq] at h
    obtain ⟨rfl, rfl⟩ := h
    obtain ⟨i, hn⟩ := Int.eq_ofNat_of_zero_le (Int.not_lt.1 hc)
    refine ⟨i, hn, ?_, by simp [hn], by simp [hn]⟩
    have := (Lib.indexByte_some hn).1
    have h2 := (List.getElem?_eq_some_iff.1 this).1
    rw [Array.length_toList] at h2
    exact h2
set_option maxHeartbeats 1000000 in
theorem cut_some (s x y : ByteArray) (c : UInt8) (w : World) (hs : s.size ≤ 281474976710656) (h : cutAt s c = some (x, y)) :
    Calls Tryd.prog 37 #[.string s, .string ⟨#[c]⟩] w fun e w' => e = .returned (.tuple #[.string x, .string y, .bool true]) ∧ Drawn0 w w' := by
  obtain ⟨i, hi, hlt, rfl, rfl⟩ := cutAt_size h
  have key : Calls Tryd.prog 50 #[.string s, .string ⟨#[c]⟩] w fun e w' => e = .returned (.tuple #[.string (s.extract 0 i), .string (s.extract (i + 1) s.size), .bool true]) ∧ Drawn0 w w' := by
    have c1 : (0 : Int) ≤ ↑i := by omega
    have c2 : (↑i : Int) ≤ ↑s.size := by omega
    have c3 : (0 : Int) ≤ ↑i + 1 := by omega
    have c4 : (↑i + 1 : Int) ≤ ↑s.size := by omega
    clear h
    go_enter Tryd.func50, Tryd.ntmps50
    go_wp2_with (first | (go_at_call 54; refine (Tryd.stringslite_Index_one _ _ _).mono ?_; rintro e w' ⟨rfl, rfl⟩; rw [hi]))
    go_region
    go_wp2
    go_ret3
    exact ⟨rfl, ⟨1, rfl⟩⟩
  clear h
  go_enter Tryd.func37, Tryd.ntmps37
  go_wp2_with (go_at_call 50; refine key.mono ?_; rintro e w' ⟨rfl, n, rfl⟩)
  go_ret3
  exact ⟨rfl, ⟨n, rfl⟩⟩
theorem blk_at {W w1 : World} (hb : Below W.heap.size W w1) {g : Nat} {o : Obj} (h : W.heap[g]? = some o) : w1.heap[g]? = some o := blk_below h hb
theorem two_facts {w : World} {g : Nat} {a b : Value} {t : TypeId} (h : w.heap[g]? = some (.cells #[a, b] t (0, 0))) :
    w.cell? ⟨g, 0, none⟩ = some a ∧ w.cell? ⟨g, 1, none⟩ = some b ∧ w.frozen? ⟨g, 0, none⟩ = false ∧ w.frozen? ⟨g, 1, none⟩ = false :=
  ⟨blk_cell h 0, blk_cell h 1, blk_frozen h 0, blk_frozen h 1⟩
theorem blk_new' {w : World} {o : Obj} {g : Nat} (h : g = w.heap.size) : (w.alloc o).heap[g]? = some o := h ▸ blk_new w o
theorem ratio_Parse.no_num (s x y : ByteArray) (b : Bool) (w : World) (hT : Tabs w) (hx : x.size ≤ 281474976710656) (hcut : ∀ w, Calls Tryd.prog 37 #[.string s, .string ⟨#[47]⟩] w fun e w' => e = .returned (.tuple #[.string x, .string y, .bool b]) ∧ Drawn0 w w') (hn : ∀ v, Lib.atoiAll x.data.toList ≠ .ok v) :
    Calls Tryd.prog 17 #[.string s] w fun e w' => e = .returned (.tuple #[.agg #[.int .i64 0, .int .i64 0], .bool false]) ∧ Below w.heap.size w w' := by
  have HT := Aside0.mk hT
  have HC := Aside0.mk hcut
  clear hT hcut
  have HN := Aside0.mk hn
  clear hn
  go_enter Tryd.func17, Tryd.ntmps17
  go_wp2_with (go_at_call 37; refine (HC.out _).mono ?_; rintro e w' ⟨rfl, n, rfl⟩)
  refine (atoi_fails x _ hx (Tabs.below HT.out (by repeat (first | exact Below.refl _ _ | apply below_alloc | apply pw_below_drewN))) HN.out).mono ?_
  rintro e w1 ⟨v, N, rfl, hb⟩
  have B0 : w1.heap[w.heap.size]? = some (.cells #[.int .i64 0, .int .i64 0] 23 (0, 0)) := blk_at hb (by repeat (first | exact blk_new _ _ | refine blk_drewN ?_ _ | refine blk_alloc ?_ _))
  have B1 : w1.heap[w.heap.size + 1]? = some (.cells #[.int .i64 0, .int .i64 1] 23 (0, 0)) := blk_at hb (blk_new' (by simp))
  obtain ⟨p00, p01, q00, q01⟩ := two_facts B0
  obtain ⟨p10, p11, q10, q11⟩ := two_facts B1
  have hb0 : Below w.heap.size w w1 := Below.trans (b := _) (by repeat (first | exact Below.refl _ _ | apply below_alloc | apply pw_below_drewN)) (hb.mono (by simp; omega))
  have hz : w.heap.size + 2 ≤ w1.heap.size := by have := hb.size; simp at this; omega
  go_wp2
  refine bodyPost_ret (results_ct rfl _ _ w.heap.size 23 #[.int .i64 0, .int .i64 0] (0, 0) _ rfl (by refine blk_put (cs := #[.int .i64 0, .int .i64 0]) ?_ 1 _ rfl; refine blk_put (cs := #[.int .i64 0, .int .i64 0]) ?_ 0 _ rfl; (try refine blk_far ?_ (by simp) _); exact B0) Tryd.underlying23 rfl (by kernel_rfl)) rfl ⟨rfl, ?_⟩
  refine Below.trans (b := w1) hb0 ?_
  repeat (first | exact Below.refl _ _ | (refine Below.setCell ?_ (by simp) _))
theorem ratio_Parse.no_den (s x y : ByteArray) (v0 : Int) (w : World) (hT : Tabs w) (hx : x.size ≤ 281474976710656) (hy : y.size ≤ 281474976710656) (hcut : ∀ w, Calls Tryd.prog 37 #[.string s, .string ⟨#[47]⟩] w fun e w' => e = .returned (.tuple #[.string x, .string y, .bool true]) ∧ Drawn0 w w') (hv : Lib.atoiAll x.data.toList = .ok v0) (hn : ∀ v, Lib.atoiAll y.data.toList ≠ .ok v) :
    Calls Tryd.prog 17 #[.string s] w fun e w' => e = .returned (.tuple #[.agg #[.int .i64 0, .int .i64 0], .bool false]) ∧ Below w.heap.size w w' := by
  have HT := Aside0.mk hT
  have HC := Aside0.mk hcut
  clear hT hcut
  have HN := Aside0.mk hn
  have HV := Aside0.mk hv
  clear hn hv
  go_enter Tryd.func17, Tryd.ntmps17
  go_wp2_with (go_at_call 37; refine (HC.out _).mono ?_; rintro e w' ⟨rfl, n, rfl⟩)
  refine (atoi_ok x v0 _ hx HV.out).mono ?_
  rintro e w1 ⟨rfl, hb⟩
  have B0 : w1.heap[w.heap.size]? = some (.cells #[.int .i64 0, .int .i64 0] 23 (0, 0)) := blk_at hb (by repeat (first | exact blk_new _ _ | refine blk_drewN ?_ _ | refine blk_alloc ?_ _))
  have B1 : w1.heap[w.heap.size + 1]? = some (.cells #[.int .i64 0, .int .i64 1] 23 (0, 0)) := blk_at hb (blk_new' (by simp))
  obtain ⟨p00, p01, q00, q01⟩ := two_facts B0
  obtain ⟨p10, p11, q10, q11⟩ := two_facts B1
  have hb0 : Below w.heap.size w w1 := Below.trans (b := _) (by repeat (first | exact Below.refl _ _ | apply below_alloc | apply pw_below_drewN)) (hb.mono (by simp; omega))
  have hz : w.heap.size + 2 ≤ w1.heap.size := by have := hb.size; simp at this; omega
  go_wp2_with fail
  refine (atoi_fails y _ hy (Tabs.below HT.out (by first | exact hb0 | (refine Below.setCell hb0 (by simp) _))) HN.out).mono ?_
  rintro e w2 ⟨v, N, rfl, hb2⟩
  have B2 : w2.heap[w.heap.size]? = some (.cells #[.int .i64 0, .int .i64 0] 23 (0, 0)) := blk_at hb2 (by refine blk_far ?_ (by simp) _; exact B0)
  have B3 : w2.heap[w.heap.size + 1]? = some (.cells #[.int .i64 v0, .int .i64 1] 23 (0, 0)) := blk_at hb2 (by refine blk_put (cs := #[.int .i64 0, .int .i64 1]) ?_ 0 _ rfl; exact B1)
  have hz2 : w.heap.size + 2 ≤ w2.heap.size := by have := hb2.size; simp [World.setCell] at this; omega
  have hb3 : Below w.heap.size w w2 := Below.trans (b := _) (Below.setCell hb0 (by simp) _) (hb2.mono (by simp [World.setCell]; omega))
  clear p00 p01 q00 q01 p10 p11 q10 q11
  obtain ⟨p00, p01, q00, q01⟩ := two_facts B2
  obtain ⟨p10, p11, q10, q11⟩ := two_facts B3
  go_wp2
  refine bodyPost_ret (results_ct rfl _ _ w.heap.size 23 #[.int .i64 0, .int .i64 0] (0, 0) _ rfl (by refine blk_put (cs := #[.int .i64 0, .int .i64 0]) ?_ 1 _ rfl; refine blk_put (cs := #[.int .i64 0, .int .i64 0]) ?_ 0 _ rfl; (try refine blk_far ?_ (by simp) _); exact B2) Tryd.underlying23 rfl (by kernel_rfl)) rfl ⟨rfl, ?_⟩
  refine Below.trans (b := w2) hb3 ?_
  repeat (first | exact Below.refl _ _ | (refine Below.setCell ?_ (by simp) _))
theorem ratio_Parse.one_ne (k : Nat) (s x y t : ByteArray) (v0 : Int) (w : World) (hT : Tabs w) (hx : x.size ≤ 281474976710656) (hcut : ∀ w, Calls Tryd.prog 37 #[.string s, .string ⟨#[47]⟩] w fun e w' => e = .returned (.tuple #[.string x, .string y, .bool false]) ∧ Drawn0 w w') (hv : Lib.atoiAll x.data.toList = .ok v0) (hf : ratio_Format.f k v0 1 = some t) (hne : t.toList ≠ s.toList) :
    Calls Tryd.prog 17 #[.string s] w fun e w' => e = .returned (.tuple #[.agg #[.int .i64 0, .int .i64 0], .bool false]) ∧ Below w.heap.size w w' := by
  have HT := Aside0.mk hT
  have HC := Aside0.mk hcut
  clear hT hcut
  have HV := Aside0.mk hv
  have HF := Aside0.mk hf
  clear hv hf
  have ne1 : (t.toList == s.toList) = false := beq_eq_false_iff_ne.mpr hne
  have ne2 : (t.toList != s.toList) = true := bne_iff_ne.mpr hne
  clear hne
  go_enter Tryd.func17, Tryd.ntmps17
  go_wp2_with (go_at_call 37; refine (HC.out _).mono ?_; rintro e w' ⟨rfl, n, rfl⟩)
  refine (atoi_ok x v0 _ hx HV.out).mono ?_
  rintro e w1 ⟨rfl, hb⟩
  have B0 : w1.heap[w.heap.size]? = some (.cells #[.int .i64 0, .int .i64 0] 23 (0, 0)) := blk_at hb (by repeat (first | exact blk_new _ _ | refine blk_drewN ?_ _ | refine blk_alloc ?_ _))
  have B1 : w1.heap[w.heap.size + 1]? = some (.cells #[.int .i64 0, .int .i64 1] 23 (0, 0)) := blk_at hb (blk_new' (by simp))
  obtain ⟨p00, p01, q00, q01⟩ := two_facts B0
  obtain ⟨p10, p11, q10, q11⟩ := two_facts B1
  have hb0 : Below w.heap.size w w1 := Below.trans (b := _) (by repeat (first | exact Below.refl _ _ | apply below_alloc | apply pw_below_drewN)) (hb.mono (by simp; omega))
  have hz : w.heap.size + 2 ≤ w1.heap.size := by have := hb.size; simp at this; omega
  go_wp2_with fail
  refine (ratio_Format.calls k v0 1 t _ (Tabs.below HT.out (by first | exact hb0 | (refine Below.setCell hb0 (by simp) _))) HF.out).mono ?_
  rintro e w2 ⟨rfl, hb2⟩
  have B2 : w2.heap[w.heap.size]? = some (.cells #[.int .i64 0, .int .i64 0] 23 (0, 0)) := blk_at hb2 (by refine blk_far ?_ (by simp) _; exact B0)
  have B3 : w2.heap[w.heap.size + 1]? = some (.cells #[.int .i64 v0, .int .i64 1] 23 (0, 0)) := blk_at hb2 (by refine blk_put (cs := #[.int .i64 0, .int .i64 1]) ?_ 0 _ rfl; exact B1)
  have hz2 : w.heap.size + 2 ≤ w2.heap.size := by have := hb2.size; simp [World.setCell] at this; omega
  have hb3 : Below w.heap.size w w2 := Below.trans (b := _) (Below.setCell hb0 (by simp) _) (hb2.mono (by simp [World.setCell]; omega))
  clear p00 p01 q00 q01 p10 p11 q10 q11
  obtain ⟨p00, p01, q00, q01⟩ := two_facts B2
  obtain ⟨p10, p11, q10, q11⟩ := two_facts B3
  go_wp2
  refine bodyPost_ret (results_ct rfl _ _ w.heap.size 23 #[.int .i64 0, .int .i64 0] (0, 0) _ rfl (by refine blk_put (cs := #[.int .i64 0, .int .i64 0]) ?_ 1 _ rfl; refine blk_put (cs := #[.int .i64 0, .int .i64 0]) ?_ 0 _ rfl; (try refine blk_far ?_ (by simp) _); exact B2) Tryd.underlying23 rfl (by kernel_rfl)) rfl ⟨rfl, ?_⟩
  refine Below.trans (b := w2) hb3 ?_
  repeat (first | exact Below.refl _ _ | (refine Below.setCell ?_ (by simp) _))
theorem ratio_Parse.two_ne (k : Nat) (s x y t : ByteArray) (v0 d0 : Int) (w : World) (hT : Tabs w) (hx : x.size ≤ 281474976710656) (hy : y.size ≤ 281474976710656) (hcut : ∀ w, Calls Tryd.prog 37 #[.string s, .string ⟨#[47]⟩] w fun e w' => e = .returned (.tuple #[.string x, .string y, .bool true]) ∧ Drawn0 w w') (hv : Lib.atoiAll x.data.toList = .ok v0) (hd : Lib.atoiAll y.data.toList = .ok d0) (hf : ratio_Format.f k v0 d0 = some t) (hne : t.toList ≠ s.toList) :
    Calls Tryd.prog 17 #[.string s] w fun e w' => e = .returned (.tuple #[.agg #[.int .i64 0, .int .i64 0], .bool false]) ∧ Below w.heap.size w w' := by
  have HT := Aside0.mk hT
  have HC := Aside0.mk hcut
  clear hT hcut
  have HV := Aside0.mk hv
  have HD := Aside0.mk hd
  have HF := Aside0.mk hf
  clear hv hd hf
  have ne1 : (t.toList == s.toList) = false := beq_eq_false_iff_ne.mpr hne
  have ne2 : (t.toList != s.toList) = true := bne_iff_ne.mpr hne
  clear hne
  go_enter Tryd.func17, Tryd.ntmps17
  go_wp2_with (go_at_call 37; refine (HC.out _).mono ?_; rintro e w' ⟨rfl, n, rfl⟩)
  refine (atoi_ok x v0 _ hx HV.out).mono ?_
  rintro e w1 ⟨rfl, hb⟩
  have B0 : w1.heap[w.heap.size]? = some (.cells #[.int .i64 0, .int .i64 0] 23 (0, 0)) := blk_at hb (by repeat (first | exact blk_new _ _ | refine blk_drewN ?_ _ | refine blk_alloc ?_ _))
  have B1 : w1.heap[w.heap.size + 1]? = some (.cells #[.int .i64 0, .int .i64 1] 23 (0, 0)) := blk_at hb (blk_new' (by simp))
  obtain ⟨p00, p01, q00, q01⟩ := two_facts B0
  obtain ⟨p10, p11, q10, q11⟩ := two_facts B1
  have hb0 : Below w.heap.size w w1 := Below.trans (b := _) (by repeat (first | exact Below.refl _ _ | apply below_alloc | apply pw_below_drewN)) (hb.mono (by simp; omega))
  have hz : w.heap.size + 2 ≤ w1.heap.size := by have := hb.size; simp at this; omega
  go_wp2_with fail
  refine (atoi_ok y d0 _ hy HD.out).mono ?_
  rintro e w2 ⟨rfl, hb2⟩
  have B2 : w2.heap[w.heap.size]? = some (.cells #[.int .i64 0, .int .i64 0] 23 (0, 0)) := blk_at hb2 (by refine blk_far ?_ (by simp) _; exact B0)
  have B3 : w2.heap[w.heap.size + 1]? = some (.cells #[.int .i64 v0, .int .i64 1] 23 (0, 0)) := blk_at hb2 (by refine blk_put (cs := #[.int .i64 0, .int .i64 1]) ?_ 0 _ rfl; exact B1)
  have hz2 : w.heap.size + 2 ≤ w2.heap.size := by have := hb2.size; simp [World.setCell] at this; omega
  have hb3 : Below w.heap.size w w2 := Below.trans (b := _) (Below.setCell hb0 (by simp) _) (hb2.mono (by simp [World.setCell]; omega))
  clear p00 p01 q00 q01 p10 p11 q10 q11
  obtain ⟨p00, p01, q00, q01⟩ := two_facts B2
  obtain ⟨p10, p11, q10, q11⟩ := two_facts B3
  go_wp2_with fail
  refine (ratio_Format.calls k v0 d0 t _ (Tabs.below HT.out (by first | exact hb3 | (refine Below.setCell hb3 (by simp) _))) HF.out).mono ?_
  rintro e w3 ⟨rfl, hb4⟩
  have B4 : w3.heap[w.heap.size]? = some (.cells #[.int .i64 0, .int .i64 0] 23 (0, 0)) := blk_at hb4 (by refine blk_far ?_ (by simp) _; exact B2)
  have B5 : w3.heap[w.heap.size + 1]? = some (.cells #[.int .i64 v0, .int .i64 d0] 23 (0, 0)) := blk_at hb4 (by refine blk_put (cs := #[.int .i64 v0, .int .i64 1]) ?_ 1 _ rfl; exact B3)
  have hb5 : Below w.heap.size w w3 := Below.trans (b := _) (Below.setCell hb3 (by simp) _) (hb4.mono (by simp [World.setCell]; omega))
  clear p00 p01 q00 q01 p10 p11 q10 q11
  obtain ⟨p00, p01, q00, q01⟩ := two_facts B4
  obtain ⟨p10, p11, q10, q11⟩ := two_facts B5
  go_wp2
  refine bodyPost_ret (results_ct rfl _ _ w.heap.size 23 #[.int .i64 0, .int .i64 0] (0, 0) _ rfl (by refine blk_put (cs := #[.int .i64 0, .int .i64 0]) ?_ 1 _ rfl; refine blk_put (cs := #[.int .i64 0, .int .i64 0]) ?_ 0 _ rfl; (try refine blk_far ?_ (by simp) _); exact B4) Tryd.underlying23 rfl (by kernel_rfl)) rfl ⟨rfl, ?_⟩
  refine Below.trans (b := w3) hb5 ?_
  repeat (first | exact Below.refl _ _ | (refine Below.setCell ?_ (by simp) _))
theorem ratio_Parse.one_nil (k : Nat) (s x y t : ByteArray) (v0 : Int) (w : World) (hT : Tabs w) (hx : x.size ≤ 281474976710656) (hcut : ∀ w, Calls Tryd.prog 37 #[.string s, .string ⟨#[47]⟩] w fun e w' => e = .returned (.tuple #[.string x, .string y, .bool false]) ∧ Drawn0 w w') (hv : Lib.atoiAll x.data.toList = .ok v0) (hf : ratio_Format.f k v0 1 = some t) (he : t.toList = s.toList) (hs : s.toList = []) :
    Calls Tryd.prog 17 #[.string s] w fun e w' => e = .returned (.tuple #[.agg #[.int .i64 0, .int .i64 0], .bool false]) ∧ Below w.heap.size w w' := by
  have HT := Aside0.mk hT
  have HC := Aside0.mk hcut
  clear hT hcut
  have HV := Aside0.mk hv
  have HF := Aside0.mk hf
  clear hv hf
  have ne1 : (t.toList == s.toList) = true := beq_iff_eq.mpr he
  have ne2 : (t.toList != s.toList) = false := bne_eq_false_iff_eq.mpr he
  have ne3 : (s.toList == []) = true := beq_iff_eq.mpr hs
  have ne4 : s.toList.isEmpty = true := by simp [hs]
  clear he hs
  go_enter Tryd.func17, Tryd.ntmps17
  go_wp2_with (go_at_call 37; refine (HC.out _).mono ?_; rintro e w' ⟨rfl, n, rfl⟩)
  refine (atoi_ok x v0 _ hx HV.out).mono ?_
  rintro e w1 ⟨rfl, hb⟩
  have B0 : w1.heap[w.heap.size]? = some (.cells #[.int .i64 0, .int .i64 0] 23 (0, 0)) := blk_at hb (by repeat (first | exact blk_new _ _ | refine blk_drewN ?_ _ | refine blk_alloc ?_ _))
  have B1 : w1.heap[w.heap.size + 1]? = some (.cells #[.int .i64 0, .int .i64 1] 23 (0, 0)) := blk_at hb (blk_new' (by simp))
  obtain ⟨p00, p01, q00, q01⟩ := two_facts B0
  obtain ⟨p10, p11, q10, q11⟩ := two_facts B1
  have hb0 : Below w.heap.size w w1 := Below.trans (b := _) (by repeat (first | exact Below.refl _ _ | apply below_alloc | apply pw_below_drewN)) (hb.mono (by simp; omega))
  have hz : w.heap.size + 2 ≤ w1.heap.size := by have := hb.size; simp at this; omega
  go_wp2_with fail
  refine (ratio_Format.calls k v0 1 t _ (Tabs.below HT.out (by first | exact hb0 | (refine Below.setCell hb0 (by simp) _))) HF.out).mono ?_
  rintro e w2 ⟨rfl, hb2⟩
  have B2 : w2.heap[w.heap.size]? = some (.cells #[.int .i64 0, .int .i64 0] 23 (0, 0)) := blk_at hb2 (by refine blk_far ?_ (by simp) _; exact B0)
  have B3 : w2.heap[w.heap.size + 1]? = some (.cells #[.int .i64 v0, .int .i64 1] 23 (0, 0)) := blk_at hb2 (by refine blk_put (cs := #[.int .i64 0, .int .i64 1]) ?_ 0 _ rfl; exact B1)
  have hz2 : w.heap.size + 2 ≤ w2.heap.size := by have := hb2.size; simp [World.setCell] at this; omega
  have hb3 : Below w.heap.size w w2 := Below.trans (b := _) (Below.setCell hb0 (by simp) _) (hb2.mono (by simp [World.setCell]; omega))
  clear p00 p01 q00 q01 p10 p11 q10 q11
  obtain ⟨p00, p01, q00, q01⟩ := two_facts B2
  obtain ⟨p10, p11, q10, q11⟩ := two_facts B3
  go_wp2
  refine bodyPost_ret (results_ct rfl _ _ w.heap.size 23 #[.int .i64 0, .int .i64 0] (0, 0) _ rfl (by refine blk_put (cs := #[.int .i64 0, .int .i64 0]) ?_ 1 _ rfl; refine blk_put (cs := #[.int .i64 0, .int .i64 0]) ?_ 0 _ rfl; (try refine blk_far ?_ (by simp) _); exact B2) Tryd.underlying23 rfl (by kernel_rfl)) rfl ⟨rfl, ?_⟩
  refine Below.trans (b := w2) hb3 ?_
  repeat (first | exact Below.refl _ _ | (refine Below.setCell ?_ (by simp) _))
theorem ratio_Parse.two_nil (k : Nat) (s x y t : ByteArray) (v0 d0 : Int) (w : World) (hT : Tabs w) (hx : x.size ≤ 281474976710656) (hy : y.size ≤ 281474976710656) (hcut : ∀ w, Calls Tryd.prog 37 #[.string s, .string ⟨#[47]⟩] w fun e w' => e = .returned (.tuple #[.string x, .string y, .bool true]) ∧ Drawn0 w w') (hv : Lib.atoiAll x.data.toList = .ok v0) (hd : Lib.atoiAll y.data.toList = .ok d0) (hf : ratio_Format.f k v0 d0 = some t) (he : t.toList = s.toList) (hs : s.toList = []) :
    Calls Tryd.prog 17 #[.string s] w fun e w' => e = .returned (.tuple #[.agg #[.int .i64 0, .int .i64 0], .bool false]) ∧ Below w.heap.size w w' := by
  have HT := Aside0.mk hT
  have HC := Aside0.mk hcut
  clear hT hcut
  have HV := Aside0.mk hv
  have HD := Aside0.mk hd
  have HF := Aside0.mk hf
  clear hv hd hf
  have ne1 : (t.toList == s.toList) = true := beq_iff_eq.mpr he
  have ne2 : (t.toList != s.toList) = false := bne_eq_false_iff_eq.mpr he
  have ne3 : (s.toList == []) = true := beq_iff_eq.mpr hs
  have ne4 : s.toList.isEmpty = true := by simp [hs]
  clear he hs
  go_enter Tryd.func17, Tryd.ntmps17
  go_wp2_with (go_at_call 37; refine (HC.out _).mono ?_; rintro e w' ⟨rfl, n, rfl⟩)
  refine (atoi_ok x v0 _ hx HV.out).mono ?_
  rintro e w1 ⟨rfl, hb⟩
  have B0 : w1.heap[w.heap.size]? = some (.cells #[.int .i64 0, .int .i64 0] 23 (0, 0)) := blk_at hb (by repeat (first | exact blk_new _ _ | refine blk_drewN ?_ _ | refine blk_alloc ?_ _))
  have B1 : w1.heap[w.heap.size + 1]? = some (.cells #[.int .i64 0, .int .i64 1] 23 (0, 0)) := blk_at hb (blk_new' (by simp))
  obtain ⟨p00, p01, q00, q01⟩ := two_facts B0
  obtain ⟨p10, p11, q10, q11⟩ := two_facts B1
  have hb0 : Below w.heap.size w w1 := Below.trans (b := _) (by repeat (first | exact Below.refl _ _ | apply below_alloc | apply pw_below_drewN)) (hb.mono (by simp; omega))
  have hz : w.heap.size + 2 ≤ w1.heap.size := by have := hb.size; simp at this; omega
  go_wp2_with fail
  refine (atoi_ok y d0 _ hy HD.out).mono ?_
  rintro e w2 ⟨rfl, hb2⟩
  have B2 : w2.heap[w.heap.size]? = some (.cells #[.int .i64 0, .int .i64 0] 23 (0, 0)) := blk_at hb2 (by refine blk_far ?_ (by simp) _; exact B0)
  have B3 : w2.heap[w.heap.size + 1]? = some (.cells #[.int .i64 v0, .int .i64 1] 23 (0, 0)) := blk_at hb2 (by refine blk_put (cs := #[.int .i64 0, .int .i64 1]) ?_ 0 _ rfl; exact B1)
  have hz2 : w.heap.size + 2 ≤ w2.heap.size := by have := hb2.size; simp [World.setCell] at this; omega
  have hb3 : Below w.heap.size w w2 := Below.trans (b := _) (Below.setCell hb0 (by simp) _) (hb2.mono (by simp [World.setCell]; omega))
  clear p00 p01 q00 q01 p10 p11 q10 q11
  obtain ⟨p00, p01, q00, q01⟩ := two_facts B2
  obtain ⟨p10, p11, q10, q11⟩ := two_facts B3
  go_wp2_with fail
  refine (ratio_Format.calls k v0 d0 t _ (Tabs.below HT.out (by first | exact hb3 | (refine Below.setCell hb3 (by simp) _))) HF.out).mono ?_
  rintro e w3 ⟨rfl, hb4⟩
  have B4 : w3.heap[w.heap.size]? = some (.cells #[.int .i64 0, .int .i64 0] 23 (0, 0)) := blk_at hb4 (by refine blk_far ?_ (by simp) _; exact B2)
  have B5 : w3.heap[w.heap.size + 1]? = some (.cells #[.int .i64 v0, .int .i64 d0] 23 (0, 0)) := blk_at hb4 (by refine blk_put (cs := #[.int .i64 v0, .int .i64 1]) ?_ 1 _ rfl; exact B3)
  have hb5 : Below w.heap.size w w3 := Below.trans (b := _) (Below.setCell hb3 (by simp) _) (hb4.mono (by simp [World.setCell]; omega))
  clear p00 p01 q00 q01 p10 p11 q10 q11
  obtain ⟨p00, p01, q00, q01⟩ := two_facts B4
  obtain ⟨p10, p11, q10, q11⟩ := two_facts B5
  go_wp2
  refine bodyPost_ret (results_ct rfl _ _ w.heap.size 23 #[.int .i64 0, .int .i64 0] (0, 0) _ rfl (by refine blk_put (cs := #[.int .i64 0, .int .i64 0]) ?_ 1 _ rfl; refine blk_put (cs := #[.int .i64 0, .int .i64 0]) ?_ 0 _ rfl; (try refine blk_far ?_ (by simp) _); exact B4) Tryd.underlying23 rfl (by kernel_rfl)) rfl ⟨rfl, ?_⟩
  refine Below.trans (b := w3) hb5 ?_
  repeat (first | exact Below.refl _ _ | (refine Below.setCell ?_ (by simp) _))
theorem ratio_Parse.one_yes (k : Nat) (s x y t : ByteArray) (v0 : Int) (w : World) (hT : Tabs w) (hx : x.size ≤ 281474976710656) (hcut : ∀ w, Calls Tryd.prog 37 #[.string s, .string ⟨#[47]⟩] w fun e w' => e = .returned (.tuple #[.string x, .string y, .bool false]) ∧ Drawn0 w w') (hv : Lib.atoiAll x.data.toList = .ok v0) (hf : ratio_Format.f k v0 1 = some t) (he : t.toList = s.toList) (hs : s.toList ≠ []) :
    Calls Tryd.prog 17 #[.string s] w fun e w' => e = .returned (.tuple #[.agg #[.int .i64 v0, .int .i64 1], .bool true]) ∧ Below w.heap.size w w' := by
  have HT := Aside0.mk hT
  have HC := Aside0.mk hcut
  clear hT hcut
  have HV := Aside0.mk hv
  have HF := Aside0.mk hf
  clear hv hf
  have ne1 : (t.toList == s.toList) = true := beq_iff_eq.mpr he
  have ne2 : (t.toList != s.toList) = false := bne_eq_false_iff_eq.mpr he
  have ne3 : (s.toList == []) = false := beq_eq_false_iff_ne.mpr hs
  have ne4 : s.toList.isEmpty = false := by simpa using hs
  clear he hs
  go_enter Tryd.func17, Tryd.ntmps17
  go_wp2_with (go_at_call 37; refine (HC.out _).mono ?_; rintro e w' ⟨rfl, n, rfl⟩)
  refine (atoi_ok x v0 _ hx HV.out).mono ?_
  rintro e w1 ⟨rfl, hb⟩
  have B0 : w1.heap[w.heap.size]? = some (.cells #[.int .i64 0, .int .i64 0] 23 (0, 0)) := blk_at hb (by repeat (first | exact blk_new _ _ | refine blk_drewN ?_ _ | refine blk_alloc ?_ _))
  have B1 : w1.heap[w.heap.size + 1]? = some (.cells #[.int .i64 0, .int .i64 1] 23 (0, 0)) := blk_at hb (blk_new' (by simp))
  obtain ⟨p00, p01, q00, q01⟩ := two_facts B0
  obtain ⟨p10, p11, q10, q11⟩ := two_facts B1
  have hb0 : Below w.heap.size w w1 := Below.trans (b := _) (by repeat (first | exact Below.refl _ _ | apply below_alloc | apply pw_below_drewN)) (hb.mono (by simp; omega))
  have hz : w.heap.size + 2 ≤ w1.heap.size := by have := hb.size; simp at this; omega
  go_wp2_with fail
  refine (ratio_Format.calls k v0 1 t _ (Tabs.below HT.out (by first | exact hb0 | (refine Below.setCell hb0 (by simp) _))) HF.out).mono ?_
  rintro e w2 ⟨rfl, hb2⟩
  have B2 : w2.heap[w.heap.size]? = some (.cells #[.int .i64 0, .int .i64 0] 23 (0, 0)) := blk_at hb2 (by refine blk_far ?_ (by simp) _; exact B0)
  have B3 : w2.heap[w.heap.size + 1]? = some (.cells #[.int .i64 v0, .int .i64 1] 23 (0, 0)) := blk_at hb2 (by refine blk_put (cs := #[.int .i64 0, .int .i64 1]) ?_ 0 _ rfl; exact B1)
  have hz2 : w.heap.size + 2 ≤ w2.heap.size := by have := hb2.size; simp [World.setCell] at this; omega
  have hb3 : Below w.heap.size w w2 := Below.trans (b := _) (Below.setCell hb0 (by simp) _) (hb2.mono (by simp [World.setCell]; omega))
  clear p00 p01 q00 q01 p10 p11 q10 q11
  obtain ⟨p00, p01, q00, q01⟩ := two_facts B2
  obtain ⟨p10, p11, q10, q11⟩ := two_facts B3
  go_wp2
  refine bodyPost_ret (results_ct rfl _ _ w.heap.size 23 #[.int .i64 v0, .int .i64 1] (0, 0) _ rfl (by refine blk_put (cs := #[.int .i64 v0, .int .i64 0]) ?_ 1 _ rfl; refine blk_put (cs := #[.int .i64 0, .int .i64 0]) ?_ 0 _ rfl; (try refine blk_far ?_ (by simp) _); exact B2) Tryd.underlying23 rfl (by kernel_rfl)) rfl ⟨rfl, ?_⟩
  refine Below.trans (b := w2) hb3 ?_
  repeat (first | exact Below.refl _ _ | (refine Below.setCell ?_ (by simp) _))
theorem ratio_Parse.two_yes (k : Nat) (s x y t : ByteArray) (v0 d0 : Int) (w : World) (hT : Tabs w) (hx : x.size ≤ 281474976710656) (hy : y.size ≤ 281474976710656) (hcut : ∀ w, Calls Tryd.prog 37 #[.string s, .string ⟨#[47]⟩] w fun e w' => e = .returned (.tuple #[.string x, .string y, .bool true]) ∧ Drawn0 w w') (hv : Lib.atoiAll x.data.toList = .ok v0) (hd : Lib.atoiAll y.data.toList = .ok d0) (hf : ratio_Format.f k v0 d0 = some t) (he : t.toList = s.toList) (hs : s.toList ≠ []) :
    Calls Tryd.prog 17 #[.string s] w fun e w' => e = .returned (.tuple #[.agg #[.int .i64 v0, .int .i64 d0], .bool true]) ∧ Below w.heap.size w w' := by
  have HT := Aside0.mk hT
  have HC := Aside0.mk hcut
  clear hT hcut
  have HV := Aside0.mk hv
  have HD := Aside0.mk hd
  have HF := Aside0.mk hf
  clear hv hd hf
  have ne1 : (t.toList == s.toList) = true := beq_iff_eq.mpr he
  have ne2 : (t.toList != s.toList) = false := bne_eq_false_iff_eq.mpr he
  have ne3 : (s.toList == []) = false := beq_eq_false_iff_ne.mpr hs
  have ne4 : s.toList.isEmpty = false := by simpa using hs
  clear he hs
  go_enter Tryd.func17, Tryd.ntmps17
  go_wp2_with (go_at_call 37; refine (HC.out _).mono ?_; rintro e w' ⟨rfl, n, rfl⟩)
  refine (atoi_ok x v0 _ hx HV.out).mono ?_
  rintro e w1 ⟨rfl, hb⟩
  have B0 : w1.heap[w.heap.size]? = some (.cells #[.int .i64 0, .int .i64 0] 23 (0, 0)) := blk_at hb (by repeat (first | exact blk_new _ _ | refine blk_drewN ?_ _ | refine blk_alloc ?_ _))
  have B1 : w1.heap[w.heap.size + 1]? = some (.cells #[.int .i64 0, .int .i64 1] 23 (0, 0)) := blk_at hb (blk_new' (by simp))
  obtain ⟨p00, p01, q00, q01⟩ := two_facts B0
  obtain ⟨p10, p11, q10, q11⟩ := two_facts B1
  have hb0 : Below w.heap.size w w1 := Below.trans (b := _) (by repeat (first | exact Below.refl _ _ | apply below_alloc | apply pw_below_drewN)) (hb.mono (by simp; omega))
  have hz : w.heap.size + 2 ≤ w1.heap.size := by have := hb.size; simp at this; omega
  go_wp2_with fail
  refine (atoi_ok y d0 _ hy HD.out).mono ?_
  rintro e w2 ⟨rfl, hb2⟩
  have B2 : w2.heap[w.heap.size]? = some (.cells #[.int .i64 0, .int .i64 0] 23 (0, 0)) := blk_at hb2 (by refine blk_far ?_ (by simp) _; exact B0)
  have B3 : w2.heap[w.heap.size + 1]? = some (.cells #[.int .i64 v0, .int .i64 1] 23 (0, 0)) := blk_at hb2 (by refine blk_put (cs := #[.int .i64 0, .int .i64 1]) ?_ 0 _ rfl; exact B1)
  have hz2 : w.heap.size + 2 ≤ w2.heap.size := by have := hb2.size; simp [World.setCell] at this; omega
  have hb3 : Below w.heap.size w w2 := Below.trans (b := _) (Below.setCell hb0 (by simp) _) (hb2.mono (by simp [World.setCell]; omega))
  clear p00 p01 q00 q01 p10 p11 q10 q11
  obtain ⟨p00, p01, q00, q01⟩ := two_facts B2
  obtain ⟨p10, p11, q10, q11⟩ := two_facts B3
  go_wp2_with fail
  refine (ratio_Format.calls k v0 d0 t _ (Tabs.below HT.out (by first | exact hb3 | (refine Below.setCell hb3 (by simp) _))) HF.out).mono ?_
  rintro e w3 ⟨rfl, hb4⟩
  have B4 : w3.heap[w.heap.size]? = some (.cells #[.int .i64 0, .int .i64 0] 23 (0, 0)) := blk_at hb4 (by refine blk_far ?_ (by simp) _; exact B2)
  have B5 : w3.heap[w.heap.size + 1]? = some (.cells #[.int .i64 v0, .int .i64 d0] 23 (0, 0)) := blk_at hb4 (by refine blk_put (cs := #[.int .i64 v0, .int .i64 1]) ?_ 1 _ rfl; exact B3)
  have hb5 : Below w.heap.size w w3 := Below.trans (b := _) (Below.setCell hb3 (by simp) _) (hb4.mono (by simp [World.setCell]; omega))
  clear p00 p01 q00 q01 p10 p11 q10 q11
  obtain ⟨p00, p01, q00, q01⟩ := two_facts B4
  obtain ⟨p10, p11, q10, q11⟩ := two_facts B5
  go_wp2
  refine bodyPost_ret (results_ct rfl _ _ w.heap.size 23 #[.int .i64 v0, .int .i64 d0] (0, 0) _ rfl (by refine blk_put (cs := #[.int .i64 v0, .int .i64 0]) ?_ 1 _ rfl; refine blk_put (cs := #[.int .i64 0, .int .i64 0]) ?_ 0 _ rfl; (try refine blk_far ?_ (by simp) _); exact B4) Tryd.underlying23 rfl (by kernel_rfl)) rfl ⟨rfl, ?_⟩
  refine Below.trans (b := w3) hb5 ?_
  repeat (first | exact Below.refl _ _ | (refine Below.setCell ?_ (by simp) _))
theorem ratio_Parse.calls (k : Nat) (a0 : ByteArray) (r1 r2 : Int) (r3 : Bool) (w : World) (hT : Tabs w) (h : ratio_Parse.f k a0 = some (r1, r2, r3)) :
    Calls Tryd.prog 17 #[.string a0] w fun e w' => e = .returned (.tuple #[.agg #[.int .i64 r1, .int .i64 r2], .bool r3]) ∧ Below w.heap.size w w' := by
  unfold ratio_Parse.f at h
  split at h
  · rename_i hs
    split at h
    · rename_i hc
      split at h
      · rename_i n hv
        obtain ⟨t, ht, h⟩ := Option.bind_eq_some_iff.mp h
        split at h
        · rename_i he
          split at h
          · rename_i hn
            simp only [Option.some.injEq, Prod.mk.injEq] at h
            obtain ⟨rfl, rfl, rfl⟩ := h
            exact ratio_Parse.one_nil k a0 a0 ByteArray.empty t n w hT hs (fun w => cut_none a0 47 w hc) hv ht he hn
          · rename_i hn
            simp only [Option.some.injEq, Prod.mk.injEq] at h
            obtain ⟨rfl, rfl, rfl⟩ := h
            exact ratio_Parse.one_yes k a0 a0 ByteArray.empty t _ w hT hs (fun w => cut_none a0 47 w hc) hv ht he hn
        · rename_i he
          simp only [Option.some.injEq, Prod.mk.injEq] at h
          obtain ⟨rfl, rfl, rfl⟩ := h
          exact ratio_Parse.one_ne k a0 a0 ByteArray.empty t n w hT hs (fun w => cut_none a0 47 w hc) hv ht he
      · rename_i hv
        simp only [Option.some.injEq, Prod.mk.injEq] at h
        obtain ⟨rfl, rfl, rfl⟩ := h
        exact ratio_Parse.no_num a0 a0 ByteArray.empty false w hT hs (fun w => cut_none a0 47 w hc) hv
    · rename_i x y hc
      have hsz : x.size ≤ 281474976710656 ∧ y.size ≤ 281474976710656 := by
        obtain ⟨i, _, hlt, rfl, rfl⟩ := cutAt_size hc
        simp only [ByteArray.size_extract]
        omega
      split at h
      · rename_i n hv
        split at h
        · rename_i d hd
          obtain ⟨t, ht, h⟩ := Option.bind_eq_some_iff.mp h
          split at h
          · rename_i he
            split at h
            · rename_i hn
              simp only [Option.some.injEq, Prod.mk.injEq] at h
              obtain ⟨rfl, rfl, rfl⟩ := h
              exact ratio_Parse.two_nil k a0 x y t n d w hT hsz.1 hsz.2 (fun w => cut_some a0 x y 47 w hs hc) hv hd ht he hn
            · rename_i hn
              simp only [Option.some.injEq, Prod.mk.injEq] at h
              obtain ⟨rfl, rfl, rfl⟩ := h
              exact ratio_Parse.two_yes k a0 x y t _ _ w hT hsz.1 hsz.2 (fun w => cut_some a0 x y 47 w hs hc) hv hd ht he hn
          · rename_i he
            simp only [Option.some.injEq, Prod.mk.injEq] at h
            obtain ⟨rfl, rfl, rfl⟩ := h
            exact ratio_Parse.two_ne k a0 x y t n d w hT hsz.1 hsz.2 (fun w => cut_some a0 x y 47 w hs hc) hv hd ht he
        · rename_i hd
          simp only [Option.some.injEq, Prod.mk.injEq] at h
          obtain ⟨rfl, rfl, rfl⟩ := h
          exact ratio_Parse.no_den a0 x y n w hT hsz.1 hsz.2 (fun w => cut_some a0 x y 47 w hs hc) hv hd
      · rename_i hv
        simp only [Option.some.injEq, Prod.mk.injEq] at h
        obtain ⟨rfl, rfl, rfl⟩ := h
        exact ratio_Parse.no_num a0 x y true w hT hsz.1 (fun w => cut_some a0 x y 47 w hs hc) hv
  · cases h
end Go.Proofs.YtighihhaljofdaaDoor.P
