/- Texts for the law FilingEncodes (kept out of a larger one). -/
import Derived.Test.YtejgfblphgcgkaaGreatDoorZFilingEncodes3
import Derived.Test.YtejgfblphgcgkaaGreatDoorZFilingEncodes14
import Derived.Test.YtejgfblphgcgkaaGreatDoorZFilingEncodes21
import Derived.Lib.SplitLaws
import Derived.WalkKit
import Derived.Test.YtejgfblphgcgkaaGreatDoorZFilingEncodes15
import Derived.Test.YtejgfblphgcgkaaGreatDoorZFilingEncodes16
import Derived.Test.YtejgfblphgcgkaaGreatDoorZFilingEncodes4
import Derived.Test.YtejgfblphgcgkaaGreatDoorZFilingEncodes5
import Derived.Test.YtejgfblphgcgkaaGreatDoorZFilingEncodes6
import Derived.Test.YtejgfblphgcgkaaGreatDoorZFilingEncodes18
namespace Go.Proofs.YtejgfblphgcgkaaGreatDoor.P
set_option linter.unusedVariables false
set_option linter.unusedSimpArgs false
open Go Go.RowKit Go.Proofs.YtejgfblphgcgkaaGreatDoorW.PrintWords
theorem cutC_len (c : UInt8) : ∀ l, ∀ a ∈ cutC c l, a.length ≤ l.length
  | [], a, h => by rw [cutC, List.mem_singleton] at h; subst h; exact Nat.le_refl _
  | x :: l, a, h => by
    by_cases e : x = c
    · rw [cutC, if_pos e] at h
      rcases List.mem_cons.1 h with h | h
      · subst h; simp
      · have := cutC_len c l a h; simp; omega
    · obtain ⟨b, t, h1, h2⟩ := cutC_cons c x l e
      rw [h2] at h
      rcases List.mem_cons.1 h with h | h
      · subst h; have := cutC_len c l b (by rw [h1]; exact List.mem_cons_self); simp; omega
      · have := cutC_len c l a (by rw [h1]; exact List.mem_cons_of_mem _ h); simp; omega
theorem cutC_many (c : UInt8) : ∀ l, (cutC c l).length ≤ l.length + 1
  | [] => by simp [cutC]
  | x :: l => by
    have ih := cutC_many c l
    by_cases e : x = c
    · rw [cutC, if_pos e]; simp; omega
    · obtain ⟨b, t, h1, h2⟩ := cutC_cons c x l e
      rw [h2]; rw [h1] at ih; simp at ih ⊢; omega
def splitP (s : ByteArray) (c : UInt8) : List ByteArray := splitS s ⟨#[c]⟩
theorem splitP_cut (s : ByteArray) (c : UInt8) : (splitP s c).map (·.data.toList) = cutC c s.data.toList := splitS_cut s c
theorem splitP_some (s : ByteArray) (c : UInt8) (h : s.size ≤ 65536) : strings_Split.f s (⟨#[c]⟩ : ByteArray) = some (splitP s c) := by
  unfold strings_Split.f
  rw [if_pos ⟨by omega, by show 1 ≤ 1; omega⟩]; rfl
theorem splitP_size (s : ByteArray) (c : UInt8) : ∀ x ∈ splitP s c, x.size ≤ s.size := by
  intro x hx
  have h1 : x.data.toList ∈ cutC c s.data.toList := by rw [← splitP_cut]; exact List.mem_map_of_mem hx
  exact cutC_len c _ _ h1
theorem splitP_many (s : ByteArray) (c : UInt8) : (splitP s c).length ≤ s.size + 1 := by
  have h := cutC_many c s.data.toList
  rw [← splitP_cut, List.length_map] at h
  exact h
theorem splitP_ne (s : ByteArray) (c : UInt8) : splitP s c ≠ [] := by
  intro h
  have := splitP_cut s c
  rw [h] at this
  exact cutC_ne c _ this.symm
end Go.Proofs.YtejgfblphgcgkaaGreatDoor.P
namespace Go.Proofs.YtejgfblphgcgkaaGreatDoor.P
set_option linter.unusedVariables false
set_option linter.unusedSimpArgs false
open Go.RowKit Go.Proofs.YtejgfblphgcgkaaGreatDoorW.PrintWords
theorem number_some (s : ByteArray) (h : s.size ≤ 65536) : filing_number.f s = some (numRead s) := by
  unfold filing_number.f; rw [if_pos (by omega)]
def levyB : List UInt8 := [108, 101, 118, 121]
def employerB : List UInt8 := [101, 109, 112, 108, 111, 121, 101, 114]
def taxB : List UInt8 := [116, 97, 120]
def lineW : List ByteArray → S60 × Bool
  | [a, b, c] => if a.toList = levyB then (⟨4, b, (numRead c).1⟩, (numRead c).2) else if a.toList = employerB then (⟨5, b, (numRead c).1⟩, (numRead c).2) else (⟨0, ⟨#[]⟩, 0⟩, false)
  | [a, b] => if a.toList = taxB then (⟨6, ⟨#[]⟩, (numRead b).1⟩, (numRead b).2) else (⟨0, ⟨#[]⟩, 0⟩, false)
  | _ => (⟨0, ⟨#[]⟩, 0⟩, false)
def lineP (x : ByteArray) : S60 × Bool := lineW (splitP x 32)
theorem line_ev (x : ByteArray) (hx : x.size ≤ 65536) : Ev (fun k => filing_line.f k x) ((lineP x).1.f0, (lineP x).1.f1, (lineP x).1.f2, (lineP x).2) := by
  unfold filing_line.f lineP
  refine Ev.bindc (splitP_some x 32 hx) ?_
  have hs : ∀ y ∈ splitP x 32, y.size ≤ 65536 := fun y hy => Nat.le_trans (splitP_size x 32 y hy) hx
  have hn := splitP_ne x 32
  generalize splitP x 32 = w at hs hn ⊢
  have n2 : wrap64 ((3 : Int) - 1) = 2 := by decide +kernel
  have n1 : wrap64 ((2 : Int) - 1) = 1 := by decide +kernel
  by_cases h3 : w.length = 3
  · obtain ⟨a, b, c, rfl⟩ : ∃ a b c, w = [a, b, c] := by
      match w, h3 with | [a, b, c], _ => exact ⟨a, b, c, rfl⟩
    have hc := hs c (by simp)
    have L3 : (([a, b, c] : List ByteArray).length : Int) = 3 := rfl
    simp only [L3, n2]
    have r0 : rdOf ByteArray.empty [a, b, c] 0 = a := rfl
    have r1 : rdOf ByteArray.empty [a, b, c] 1 = b := rfl
    have r2 : rdOf ByteArray.empty [a, b, c] 2 = c := rfl
    refine Ev.ifp trivial (Ev.ifp (by decide) ?_)
    rw [r0]
    simp only [lineW]
    by_cases e1 : a.toList = levyB
    · rw [if_pos e1]
      refine Ev.step (fun k => by simp only [filing_line.j0]; rfl) (Ev.ifp (by rw [beq_iff_eq]; exact e1) ?_)
      simp only [L3, n2, r2, r1]
      refine Ev.ifp (by decide) (Ev.ifp (by decide) (Ev.ifp (by decide) (Ev.bindc (number_some c hc) (Ev.now _))))
    · rw [if_neg e1]
      refine Ev.step (fun k => by simp only [filing_line.j0]; rfl) (Ev.ifn (by rw [beq_iff_eq]; exact e1) ?_)
      simp only [L3]
      refine Ev.ifp trivial (Ev.ifp (by decide) ?_)
      rw [r0]
      by_cases e2 : a.toList = employerB
      · rw [if_pos e2]
        refine Ev.step (fun k => by simp only [filing_line.j1]; rfl) (Ev.ifp (by rw [beq_iff_eq]; exact e2) ?_)
        simp only [L3, n2, r2, r1]
        refine Ev.ifp (by decide) (Ev.ifp (by decide) (Ev.ifp (by decide) (Ev.bindc (number_some c hc) (Ev.now _))))
      · rw [if_neg e2]
        refine Ev.step (fun k => by simp only [filing_line.j1]; rfl) (Ev.ifn (by rw [beq_iff_eq]; exact e2) ?_)
        simp only [L3]
        exact Ev.ifn (by decide) (Ev.now _)
  · have hj1 : Ev (fun k => filing_line.j1 k w false 0 (⟨#[]⟩ : ByteArray) 0) ((lineW w).1.f0, (lineW w).1.f1, (lineW w).1.f2, (lineW w).2) := by
      refine Ev.step (fun k => by simp only [filing_line.j1]; rfl) (Ev.ifn (by decide) ?_)
      by_cases h2 : w.length = 2
      · obtain ⟨a, b, rfl⟩ : ∃ a b, w = [a, b] := by
          match w, h2 with | [a, b], _ => exact ⟨a, b, rfl⟩
        have hb := hs b (by simp)
        have L2 : (([a, b] : List ByteArray).length : Int) = 2 := rfl
        have r0 : rdOf ByteArray.empty [a, b] 0 = a := rfl
        have r1 : rdOf ByteArray.empty [a, b] 1 = b := rfl
        simp only [L2, n1, r0, r1]
        refine Ev.ifp trivial (Ev.ifp (by decide) ?_)
        simp only [lineW]
        by_cases e : a.toList = taxB
        · rw [if_pos e]
          exact Ev.ifp e (Ev.ifp (by decide) (Ev.ifp (by decide) (Ev.bindc (number_some b hb) (Ev.now _))))
        · rw [if_neg e]
          exact Ev.ifn e (Ev.now _)
      · have : lineW w = (⟨0, ⟨#[]⟩, 0⟩, false) := by
          match w, h2, h3 with
          | [], _, _ => rfl
          | [_], _, _ => rfl
          | [_, _], h, _ => exact absurd rfl h
          | [_, _, _], _, h => exact absurd rfl h
          | _ :: _ :: _ :: _ :: _, _, _ => rfl
        rw [this]
        exact Ev.ifn (by omega) (Ev.now _)
    refine Ev.ifn (by omega) (Ev.step (fun k => by simp only [filing_line.j0]; rfl) (Ev.ifn (by decide) (Ev.ifn (by omega) hj1)))
def linesP : List ByteArray → List S60 → List S60 × Bool
  | [], acc => (acc, true)
  | x :: r, acc => if (lineP x).2 = true then linesP r (acc ++ [(lineP x).1]) else (acc, false)
theorem lines_ev (X : List ByteArray) (hX : ∀ y ∈ X, y.size ≤ 65536) (hn : X.length ≤ 65537) (p v : Int) : ∀ (m i : Nat) (acc : List S60), i + m = X.length → acc.length = i →
    Ev (fun k => filing_read.l0 k X (X.length : Int) (i : Int) p v acc) (p, v, (linesP (X.drop i) acc).1, (linesP (X.drop i) acc).2) := by
  intro m
  induction m with
  | zero =>
    intro i acc hi ha
    have e : X.drop i = [] := List.drop_eq_nil_of_le (by omega)
    rw [e]
    refine Ev.step (fun k => by simp only [filing_read.l0]; rfl) ?_
    exact Ev.ifn (by omega) (Ev.now _)
  | succ m ih =>
    intro i acc hi ha
    have hl : i < X.length := by omega
    have e1 : wrap64 ((i : Int) + 1) = ((i + 1 : Nat) : Int) := by unfold wrap64; omega
    have er : rdOf ByteArray.empty X (i : Int) = X[i] := by
      unfold rdOf
      rw [Int.toNat_natCast, List.getD_eq_getElem?_getD, List.getElem?_eq_getElem hl]; rfl
    rw [List.drop_eq_getElem_cons hl]
    refine Ev.step (fun k => by simp only [filing_read.l0]; rfl) (Ev.ifp (by omega) (Ev.ifp (by omega) (Ev.ifp (by omega) ?_)))
    rw [er]
    refine Ev.bind (line_ev X[i] (hX _ (List.getElem_mem hl))) ?_
    unfold linesP
    by_cases g : (lineP X[i]).2 = true
    · rw [if_pos g]
      refine Ev.ifp g (Ev.ifp (by omega) ?_)
      rw [e1]
      exact ih (i + 1) _ (by omega) (by simp; omega)
    · rw [if_neg g]
      exact Ev.ifn g (Ev.now _)
def returnB : List UInt8 := [114, 101, 116, 117, 114, 110]
def versionB : List UInt8 := [118, 101, 114, 115, 105, 111, 110]
def endsB : List UInt8 := [10, 101, 110, 100, 10]
def headW (t : List ByteArray) : List ByteArray → Int × Int × List S60 × Bool
  | [a, b, c, d] => if a.toList = returnB ∧ c.toList = versionB then
      if (numRead b).2 = true ∧ (numRead d).2 = true then ((numRead b).1, (numRead d).1, (linesP t []).1, (linesP t []).2) else ((numRead b).1, (numRead d).1, [], false)
      else (0, 0, [], false)
  | _ => (0, 0, [], false)
def bodyP (s : ByteArray) : Int × Int × List S60 × Bool := headW ((splitP s 10).drop 1) (splitP (rdOf ByteArray.empty (splitP s 10) 0) 32)
def endsP (s : ByteArray) : Bool := decide (5 ≤ s.size) && decide ((s.extract (s.size - 5) s.size).toList = endsB)
def readP (s : ByteArray) : Int × Int × List S60 × Bool := if endsP s = true then bodyP (s.extract 0 (s.size - 5)) else (0, 0, [], false)
theorem suffix_some (s : ByteArray) (h : s.size ≤ 65536) : strings_CutSuffix.f s (⟨#[10, 101, 110, 100, 10]⟩ : ByteArray) = some (if endsP s = true then (s.extract 0 (s.size - 5), true) else (s, false)) := by
  have z5 : ((⟨#[10, 101, 110, 100, 10]⟩ : ByteArray).size : Int) = 5 := rfl
  have l5 : (⟨#[10, 101, 110, 100, 10]⟩ : ByteArray).toList = endsB := by rw [Lib.toList_data]; rfl
  unfold strings_CutSuffix.f stringslite_CutSuffix.f stringslite_HasSuffix.f endsP
  rw [z5]
  by_cases h5 : 5 ≤ s.size
  · have e : wrap64 ((s.size : Int) - 5) = ((s.size - 5 : Nat) : Int) := by unfold wrap64; omega
    rw [if_pos (by omega), e, if_pos (by omega), if_pos (by omega), l5]
    simp only [Int.toNat_natCast, Option.bind_some]
    by_cases h6 : (s.extract (s.size - 5) s.size).toList = endsB
    · rw [h6]
      simp [h5]
    · have : ((s.extract (s.size - 5) s.size).toList == endsB) = false := by rw [beq_eq_false_iff_ne]; exact h6
      rw [this]
      simp [h5, h6]
  · rw [if_neg (by omega)]
    simp [h5]
theorem read_ev (s : ByteArray) (hs : s.size ≤ 65536) : Ev (fun k => filing_read.f k s) (readP s) := by
  unfold filing_read.f readP
  refine Ev.bindc (suffix_some s hs) ?_
  by_cases h : endsP s = true
  · rw [if_pos h, if_pos h]
    refine Ev.ifp rfl ?_
    have hb : (s.extract 0 (s.size - 5)).size ≤ 65536 := by rw [ByteArray.size_extract]; omega
    generalize s.extract 0 (s.size - 5) = b at hb ⊢
    unfold bodyP
    refine Ev.bindc (splitP_some b 10 hb) ?_
    have hs1 : ∀ y ∈ splitP b 10, y.size ≤ 65536 := fun y hy => Nat.le_trans (splitP_size b 10 y hy) hb
    have hm := splitP_many b 10
    have hn := splitP_ne b 10
    generalize splitP b 10 = t at hs1 hn hm ⊢
    have hl : 0 < t.length := by cases t with | nil => exact absurd rfl hn | cons _ _ => simp
    have hr : (rdOf ByteArray.empty t 0).size ≤ 65536 := by
      cases t with
      | nil => exact absurd rfl hn
      | cons x r => exact hs1 x List.mem_cons_self
    refine Ev.ifp (by omega) (Ev.bindc (splitP_some _ 32 hr) ?_)
    have hs2 : ∀ y ∈ splitP (rdOf ByteArray.empty t 0) 32, y.size ≤ 65536 := fun y hy => Nat.le_trans (splitP_size _ 32 y hy) hr
    generalize splitP (rdOf ByteArray.empty t 0) 32 = w at hs2 ⊢
    by_cases h4 : w.length = 4
    · obtain ⟨a, x, c, d, rfl⟩ : ∃ a b c d, w = [a, b, c, d] := by
        match w, h4 with | [a, b, c, d], _ => exact ⟨a, b, c, d, rfl⟩
      have hx := hs2 x (by simp)
      have hd := hs2 d (by simp)
      have L4 : (([a, x, c, d] : List ByteArray).length : Int) = 4 := rfl
      have r0 : rdOf ByteArray.empty [a, x, c, d] 0 = a := rfl
      have r1 : rdOf ByteArray.empty [a, x, c, d] 1 = x := rfl
      have r2 : rdOf ByteArray.empty [a, x, c, d] 2 = c := rfl
      have r3 : rdOf ByteArray.empty [a, x, c, d] 3 = d := rfl
      simp only [L4, r0, r2]
      refine Ev.ifp trivial (Ev.ifp (by decide) ?_)
      simp only [headW]
      by_cases e1 : a.toList = returnB
      · refine Ev.ifp e1 (Ev.ifp (by decide) ?_)
        by_cases e2 : c.toList = versionB
        · rw [if_pos ⟨e1, e2⟩]
          refine Ev.step (fun k => by simp only [filing_read.j0]; rfl) (Ev.ifn (by rw [show (c.toList != ([118, 101, 114, 115, 105, 111, 110] : List UInt8)) = false from by rw [bne_eq_false_iff_eq]; exact e2]; decide) ?_)
          simp only [L4, r1, r3]
          refine Ev.ifp (by decide) (Ev.bindc (number_some x hx) (Ev.ifp (by decide) (Ev.bindc (number_some d hd) ?_)))
          have hj : ∀ b : Bool, Ev (fun k => filing_read.j1 k t b (numRead x).1 (numRead d).1) (if b = true then ((numRead x).1, (numRead d).1, [], false) else ((numRead x).1, (numRead d).1, (linesP (t.drop 1) []).1, (linesP (t.drop 1) []).2)) := by
            intro b
            cases b with
            | true =>
              refine Ev.step (fun k => by simp only [filing_read.j1]; rfl) ?_
              exact Ev.ifp trivial (Ev.now _)
            | false =>
              refine Ev.step (fun k => by simp only [filing_read.j1]; rfl) ?_
              refine Ev.ifn (by decide) (Ev.ifp (by omega) (Ev.bindc (a := t.drop 1) rfl ?_))
              have := lines_ev (t.drop 1) (fun y hy => hs1 y (List.mem_of_mem_drop hy)) (by rw [List.length_drop]; omega) (numRead x).1 (numRead d).1 (t.drop 1).length 0 [] (by omega) rfl
              simpa using this
          by_cases g1 : (numRead x).2 = true
          · refine Ev.ifp g1 ((hj _).cast ?_)
            by_cases g2 : (numRead d).2 = true
            · rw [if_pos (show (numRead x).2 = true ∧ (numRead d).2 = true from ⟨g1, g2⟩), if_neg (by rw [g2]; decide)]
            · rw [if_neg (show ¬ ((numRead x).2 = true ∧ (numRead d).2 = true) from fun h => g2 h.2), if_pos (by simpa using g2)]
          · refine Ev.ifn g1 ((hj _).cast ?_)
            rw [if_neg (show ¬ ((numRead x).2 = true ∧ (numRead d).2 = true) from fun h => g1 h.1), if_pos rfl]
        · rw [if_neg (fun h => e2 h.2)]
          refine Ev.step (fun k => by simp only [filing_read.j0]; rfl) ?_
          exact Ev.ifp (by rw [bne_iff_ne]; exact e2) (Ev.now _)
      · rw [if_neg (fun h => e1 h.1)]
        refine Ev.ifn e1 (Ev.step (fun k => by simp only [filing_read.j0]; rfl) ?_)
        exact Ev.ifp trivial (Ev.now _)
    · have : headW (t.drop 1) w = (0, 0, [], false) := by
        match w, h4 with
        | [], _ => rfl
        | [_], _ => rfl
        | [_, _], _ => rfl
        | [_, _, _], _ => rfl
        | [_, _, _, _], h => exact absurd rfl h
        | _ :: _ :: _ :: _ :: _ :: _, _ => rfl
      rw [this]
      refine Ev.ifn (by omega) (Ev.step (fun k => by simp only [filing_read.j0]; rfl) ?_)
      exact Ev.ifp trivial (Ev.now _)
  · rw [if_neg h, if_neg h]
    exact Ev.ifn (fun h => by cases h) (Ev.now _)
end Go.Proofs.YtejgfblphgcgkaaGreatDoor.P
namespace Go.Proofs.YtejgfblphgcgkaaGreatDoor.P
set_option linter.unusedVariables false
set_option linter.unusedSimpArgs false
open Go.RowKit Go.Proofs.YtejgfblphgcgkaaGreatDoorW.PrintWords
def cmpB (a b : ByteArray) : Int := if Op.bytesLess a.toList b.toList = true then -1 else if Op.bytesLess b.toList a.toList = true then 1 else 0
theorem cmpB_some (a b : ByteArray) : cmp_Compare_string.f a b = some (cmpB a b) := by
  unfold cmp_Compare_string.f cmp_isNaN_string.f cmpB
  have e : ∀ x : ByteArray, (x.toList != x.toList) = false := fun x => by simp
  rw [e, e]
  simp only [Option.bind_some]
  rw [if_neg (by decide), if_neg (by decide)]
  split
  · rfl
  · split <;> rfl
def cmpI (a b : Int) : Int := if a < b then -1 else if a > b then 1 else 0
theorem cmpI_some (a b : Int) : cmp_Compare_int.f a b = some (cmpI a b) := by
  unfold cmp_Compare_int.f cmp_isNaN_int.f cmpI
  have e : ∀ x : Int, (x != x) = false := fun x => by simp
  rw [e, e]
  simp only [Option.bind_some]
  rw [if_neg (by decide), if_neg (by decide)]
  split
  · rfl
  · split <;> rfl
def orI (a b : Int) : Int := if a = 0 then b else a
theorem or_two (a b : Int) : Ev (fun k => cmp_Or_int.f k [a, b]) (orI a b) := by
  unfold cmp_Or_int.f orI
  have L : (([a, b] : List Int).length : Int) = 2 := rfl
  have r0 : rd [a, b] 0 = a := rfl
  have r1 : rd [a, b] 1 = b := rfl
  have w1 : wrap64 ((0 : Int) + 1) = 1 := by decide +kernel
  have w2 : wrap64 ((1 : Int) + 1) = 2 := by decide +kernel
  simp only [L]
  refine Ev.step (fun k => by simp only [cmp_Or_int.l0, L, r0, w1]; rfl) ?_
  refine Ev.ifp (by decide) (Ev.ifp (by decide) (Ev.ifp (by decide) ?_))
  by_cases h : a = 0
  · rw [if_pos h]
    refine Ev.ifp h ?_
    refine Ev.step (fun k => by simp only [cmp_Or_int.l0, L, r1, w2]; rfl) ?_
    refine Ev.ifp (by decide) (Ev.ifp (by decide) (Ev.ifp (by decide) ?_))
    by_cases g : b = 0
    · refine Ev.ifp g ?_
      refine Ev.step (fun k => by simp only [cmp_Or_int.l0, L]; rfl) ?_
      rw [g]
      exact Ev.ifn (by decide) (Ev.now _)
    · exact Ev.ifn g (Ev.now _)
  · rw [if_neg h]
    exact Ev.ifn h (Ev.now _)
def kindB (k : Int) : Bool := decide (k = 4) || decide (k = 5) || decide (k = 6)
def goodX (x : S60) : Bool := kindB x.f0 && FormP x.f0 x.f1 x.f2
def ltX (y x : S60) : Bool := decide (orI (cmpI y.f0 x.f0) (cmpB y.f1 x.f1) < 0)
def chkL : Option S60 → List S60 → Bool
  | _, [] => true
  | o, x :: r => goodX x && (match o with | none => true | some y => ltX y x) && chkL (some x) r
def validP (p v : Int) (l : List S60) : Bool := decide (0 ≤ p) && decide (p ≤ 84005) && decide (1 ≤ v) && decide (v ≤ 65536) && decide (l.length ≤ 256) && chkL none l
theorem word_kind (k : Int) : (wordB k).toList = ([] : List UInt8) ↔ kindB k = false := by
  unfold wordB filing_word.f kindB
  rw [Lib.toList_data]
  by_cases h4 : k = 4
  · rw [if_pos h4]; simp [h4]
  · rw [if_neg h4]
    by_cases h5 : k = 5
    · rw [if_pos h5]; simp [h5]
    · rw [if_neg h5]
      by_cases h6 : k = 6
      · rw [if_pos h6]; simp [h6]
      · rw [if_neg h6]; simp [h4, h5, h6]
def prevO (l : List S60) (i : Nat) : Option S60 := if i = 0 then none else some (rd_T60 l ((i - 1 : Nat) : Int))
theorem valid_loop (l : List S60) (hl : l.length ≤ 1000000) (p v : Int) : ∀ (m i : Nat), i + m = l.length →
    Ev (fun k => filing_Valid.l0 k l (l.length : Int) (i : Int) p v l) (chkL (prevO l i) (l.drop i)) := by
  intro m
  induction m with
  | zero =>
    intro i hi
    have e : l.drop i = [] := List.drop_eq_nil_of_le (by omega)
    rw [e]
    exact Ev.step (fun k => by simp only [filing_Valid.l0]; rfl) (Ev.ifn (by omega) (Ev.now _))
  | succ m ih =>
    intro i hi
    have hlt : i < l.length := by omega
    have e1 : wrap64 ((i : Int) + 1) = ((i + 1 : Nat) : Int) := by unfold wrap64; omega
    have er : rd_T60 l (i : Int) = l[i] := by
      unfold rd_T60
      rw [Int.toNat_natCast, List.getD_eq_getElem?_getD, List.getElem?_eq_getElem hlt]; rfl
    have ih := ih (i + 1) (by omega)
    have ep : prevO l (i + 1) = some l[i] := by unfold prevO; rw [if_neg (by omega)]; show some (rd_T60 l (i : Int)) = _; rw [er]
    rw [ep] at ih
    have hj : ∀ b : Bool, (b = !goodX l[i]) → Ev (fun k => filing_Valid.j2 k (i : Int) l (l.length : Int) (i : Int) b p v l l[i].f0 l[i].f1 l[i].f2) (chkL (prevO l i) (l.drop i)) := by
      intro b hb
      rw [List.drop_eq_getElem_cons hlt]
      cases b with
      | true =>
        have hg : goodX l[i] = false := by simpa using hb.symm
        refine Ev.step (fun k => by simp only [filing_Valid.j2]; rfl) ?_
        refine Ev.ifp trivial ((Ev.now _).cast ?_)
        unfold chkL; rw [hg]; rfl
      | false =>
        have hg : goodX l[i] = true := by simpa using hb.symm
        refine Ev.step (fun k => by simp only [filing_Valid.j2]; rfl) ?_
        refine Ev.ifn (by decide) ?_
        by_cases h0 : i = 0
        · refine Ev.ifn (by omega) ?_
          rw [e1]
          refine ih.cast ?_
          have : prevO l i = none := by unfold prevO; rw [if_pos h0]
          rw [this]
          simp only [chkL, hg, Bool.true_and]
        · have e2 : wrap64 ((i : Int) - 1) = ((i - 1 : Nat) : Int) := by unfold wrap64; omega
          refine Ev.ifp (by omega) ?_
          rw [e2]
          refine Ev.ifp (by omega) (Ev.ifp (by omega) (Ev.bindc (cmpI_some _ _) (Ev.bindc (cmpB_some _ _) (Ev.bind (or_two _ _) ?_))))
          have ho : prevO l i = some (rd_T60 l ((i - 1 : Nat) : Int)) := by unfold prevO; rw [if_neg h0]
          rw [ho]
          have hc : chkL (some (rd_T60 l ((i - 1 : Nat) : Int))) (l[i] :: l.drop (i + 1)) = (ltX (rd_T60 l ((i - 1 : Nat) : Int)) l[i] && chkL (some l[i]) (l.drop (i + 1))) := by simp only [chkL, hg, Bool.true_and]
          rw [hc]
          unfold ltX
          generalize orI (cmpI (rd_T60 l ((i - 1 : Nat) : Int)).f0 l[i].f0) (cmpB (rd_T60 l ((i - 1 : Nat) : Int)).f1 l[i].f1) = c
          by_cases hcc : c ≥ 0
          · refine Ev.ifp hcc ((Ev.now _).cast ?_)
            rw [decide_eq_false (by omega)]; rfl
          · refine Ev.ifn hcc ?_
            rw [e1, decide_eq_true (by omega)]
            exact ih.cast (by rw [Bool.true_and])
    refine Ev.step (fun k => by simp only [filing_Valid.l0]; rfl) (Ev.ifp (by omega) (Ev.ifp (by omega) (Ev.ifp (by omega) ?_)))
    rw [er]
    refine Ev.bindc (word_some _) ?_
    by_cases hw : (wordB l[i].f0).toList = ([] : List UInt8)
    · have := (word_kind _).1 hw
      exact Ev.ifp hw (hj true (by unfold goodX; rw [this]; rfl))
    · have hk : kindB l[i].f0 = true := by
        cases h : kindB l[i].f0 with
        | true => rfl
        | false => exact absurd ((word_kind _).2 h) hw
      refine Ev.ifn hw (Ev.bind (payslip_Form_ev _ _ _) (hj _ ?_))
      unfold goodX; rw [hk, Bool.true_and]
theorem valid_ev (p v : Int) (l : List S60) (hl : l.length ≤ 1000000) : Ev (fun k => filing_Valid.f k p v l) (validP p v l) := by
  have hj : ∀ b : Bool, Ev (fun k => filing_Valid.j0 k b p v l) (!b && chkL none l) := by
    intro b
    cases b with
    | true =>
      refine Ev.step (fun k => by simp only [filing_Valid.j0]; rfl) ?_
      exact Ev.ifp trivial (Ev.now _)
    | false =>
      refine Ev.step (fun k => by simp only [filing_Valid.j0]; rfl) ?_
      refine Ev.ifn (by decide) ?_
      exact (valid_loop l hl p v l.length 0 (by omega))
  unfold filing_Valid.f validP
  by_cases h1 : p < 0
  · rw [decide_eq_false (show ¬ 0 ≤ p by omega)]
    exact Ev.ifp h1 ((hj true).cast (by simp))
  · rw [decide_eq_true (show 0 ≤ p by omega)]
    refine Ev.ifn h1 ?_
    by_cases h2 : p > 84005
    · rw [decide_eq_false (show ¬ p ≤ 84005 by omega)]
      exact Ev.ifp h2 ((hj true).cast (by simp))
    · rw [decide_eq_true (show p ≤ 84005 by omega)]
      refine Ev.ifn h2 ?_
      by_cases h3 : v < 1
      · rw [decide_eq_false (show ¬ 1 ≤ v by omega)]
        exact Ev.ifp h3 ((hj true).cast (by simp))
      · rw [decide_eq_true (show 1 ≤ v by omega)]
        refine Ev.ifn h3 ?_
        by_cases h4 : v > 65536
        · rw [decide_eq_false (show ¬ v ≤ 65536 by omega)]
          exact Ev.ifp h4 ((hj true).cast (by simp))
        · rw [decide_eq_true (show v ≤ 65536 by omega)]
          refine Ev.ifn h4 ((hj _).cast ?_)
          by_cases h5 : l.length ≤ 256
          · rw [decide_eq_true h5, decide_eq_false (by omega)]; simp
          · rw [decide_eq_false h5, decide_eq_true (by omega)]; simp
theorem goodX_form {x : S60} (h : goodX x = true) : (x.f0 = 4 ∨ x.f0 = 5 ∨ x.f0 = 6) ∧ -1000000000000 ≤ x.f2 ∧ x.f2 ≤ 1000000000000 ∧ (x.f0 = 6 → x.f1 = ⟨#[]⟩) ∧ (x.f0 ≠ 6 → nameB x.f1.data.toList = true) := by
  unfold goodX kindB FormP formP totalB at h
  simp only [Bool.and_eq_true, Bool.or_eq_true, decide_eq_true_eq] at h
  obtain ⟨hk, ⟨⟨-, -⟩, ⟨h1, h2⟩, h3⟩, -⟩ := h
  refine ⟨by omega, h1, h2, fun e => ?_, fun e => ?_⟩
  · rw [e, if_pos (by decide)] at h3
    have := of_decide_eq_true h3
    apply ByteArray.ext
    exact Array.toList_inj.1 (by simpa using this)
  · have : bareB x.f0 = false := by unfold bareB; simp; omega
    rw [this, if_neg (by decide)] at h3
    exact h3
theorem char_sep {c : UInt8} (h : charB c = true) : c ≠ 32 ∧ c ≠ 10 := by
  constructor <;> (intro e; subst e; exact absurd h (by decide))
theorem name_sep {L : List UInt8} (h : nameB L = true) : (32 : UInt8) ∉ L ∧ (10 : UInt8) ∉ L ∧ 0 < L.length ∧ L.length ≤ 24 := by
  unfold nameB at h
  simp only [Bool.and_eq_true, decide_eq_true_eq] at h
  obtain ⟨⟨⟨⟨h1, h2⟩, -⟩, h3⟩, -⟩ := h
  rw [List.all_eq_true] at h3
  exact ⟨fun m => (char_sep (h3 _ m)).1 rfl, fun m => (char_sep (h3 _ m)).2 rfl, h1, h2⟩
theorem itoa_sep (n : Int) : (32 : UInt8) ∉ Lib.itoa n ∧ (10 : UInt8) ∉ Lib.itoa n := by
  constructor <;> (intro h; rcases itoa_mem h with h | h <;> revert h <;> (try unfold isDig) <;> decide)
theorem itoa_len {n : Int} (h0 : -1000000000000 ≤ n) (h1 : n ≤ 1000000000000) : (Lib.itoa n).length ≤ 14 := by
  unfold Lib.itoa
  split
  · have := dec_len_le (u := n.natAbs) (by omega); simp; omega
  · have := dec_len_le (u := n.toNat) (by omega); omega
theorem itoaB_list (n : Int) : (itoaB n).data.toList = Lib.itoa n := by unfold itoaB; simp
def hdr0 (p v : Int) : List UInt8 := returnB ++ 32 :: (Lib.itoa p ++ 32 :: (versionB ++ 32 :: Lib.itoa v))
def code0 (c : ByteArray) : List UInt8 := if c.toList = ([] : List UInt8) then [] else c.data.toList ++ [32]
def line0 (x : S60) : List UInt8 := (wordB x.f0).data.toList ++ 32 :: (code0 x.f1 ++ Lib.itoa x.f2)
theorem hdr_split (p v : Int) : (hdrB p v).data.toList = hdr0 p v ++ [10] := by
  unfold hdrB hdr0 returnB versionB
  simp only [ByteArray.data_append, Array.toList_append, itoaB_list]
  simp
theorem line_split (x : S60) : lineL x = line0 x ++ [10] := by
  unfold lineL line0 codeL code0
  simp only [ByteArray.data_append, Array.toList_append, itoaB_list]
  split <;> simp
theorem flat_turn (f : S60 → List UInt8) : ∀ l : List S60, (10 : UInt8) :: l.flatMap (fun x => f x ++ [10]) = l.flatMap (fun x => 10 :: f x) ++ [10]
  | [] => rfl
  | x :: l => by
    have ih := flat_turn f l
    simp only [List.flatMap_cons, List.append_assoc, List.cons_append, List.singleton_append, List.nil_append] at ih ⊢
    rw [ih]
def body0 (p v : Int) (l : List S60) : List UInt8 := hdr0 p v ++ l.flatMap (fun x => 10 :: line0 x)
theorem enc_split (p v : Int) (l : List S60) : encL p v l = body0 p v l ++ endsB := by
  unfold encL body0 linesL
  rw [hdr_split, show lineL = (fun x => line0 x ++ [10]) from funext line_split]
  have := flat_turn line0 l
  rw [List.append_assoc, List.append_assoc, List.append_assoc, List.singleton_append, ← List.cons_append, this, List.append_assoc]
  rfl
theorem cut_flat (f : S60 → List UInt8) : ∀ (l : List S60) (a : List UInt8), (10 : UInt8) ∉ a → (∀ x ∈ l, (10 : UInt8) ∉ f x) → cutC 10 (a ++ l.flatMap (fun x => 10 :: f x)) = a :: l.map f
  | [], a, ha, _ => by simp; exact cutC_last 10 a ha
  | x :: l, a, ha, hl => by
    have := cut_flat f l (f x) (hl x List.mem_cons_self) (fun y hy => hl y (List.mem_cons_of_mem _ hy))
    rw [List.flatMap_cons, List.cons_append, cutC_piece 10 a _ ha, this]
    rfl
theorem word_list {x : S60} (h : goodX x = true) : (wordB x.f0).data.toList = (if x.f0 = 4 then levyB else if x.f0 = 5 then employerB else taxB) ∧ (32 : UInt8) ∉ (wordB x.f0).data.toList ∧ (10 : UInt8) ∉ (wordB x.f0).data.toList ∧ (wordB x.f0).data.toList.length ≤ 8 := by
  rcases (goodX_form h).1 with e | e | e <;> (rw [e]; decide)
theorem code_nil : code0 ⟨#[]⟩ = [] := by
  unfold code0
  rw [Lib.toList_data]
  rfl
theorem code_some {c : ByteArray} (h : 0 < c.data.toList.length) : code0 c = c.data.toList ++ [32] := by
  unfold code0
  rw [if_neg]
  rw [Lib.toList_data]
  intro e; rw [e] at h; exact absurd h (by decide)
theorem line_free {x : S60} (h : goodX x = true) : (10 : UInt8) ∉ line0 x := by
  obtain ⟨-, -, h2, -⟩ := word_list h
  obtain ⟨hk, -, -, h6, hn⟩ := goodX_form h
  unfold line0
  have hc : (10 : UInt8) ∉ code0 x.f1 := by
    unfold code0
    split
    · simp
    · by_cases e : x.f0 = 6
      · rw [h6 e]; decide
      · have := name_sep (hn e); simp [this.2.1]
  intro m
  simp only [List.mem_append, List.mem_cons] at m
  rcases m with m | m | m | m
  · exact h2 m
  · exact absurd m (by decide)
  · exact hc m
  · exact (itoa_sep _).2 m
theorem line_len {x : S60} (h : goodX x = true) : (line0 x).length ≤ 48 := by
  obtain ⟨-, -, -, h3⟩ := word_list h
  obtain ⟨hk, b1, b2, h6, hn⟩ := goodX_form h
  have hi := itoa_len b1 b2
  have hc : (code0 x.f1).length ≤ 25 := by
    unfold code0
    split
    · simp
    · by_cases e : x.f0 = 6
      · rw [h6 e]; decide
      · have := name_sep (hn e); simp; simp at this; omega
  unfold line0
  simp only [List.length_append, List.length_cons]
  omega
theorem line_back {x : S60} (h : goodX x = true) {s : ByteArray} (hs : s.data.toList = line0 x) : lineP s = (x, true) := by
  obtain ⟨hw, hw1, -, -⟩ := word_list h
  obtain ⟨hk, b1, b2, h6, hn⟩ := goodX_form h
  have hc := splitP_cut s 32
  rw [hs] at hc
  have hi := (itoa_sep x.f2).1
  have hof : ∀ (y : ByteArray) (L : List UInt8), y.data.toList = L → y.toList = L := fun y L e => by rw [Lib.toList_data]; exact e
  have hnum : ∀ y : ByteArray, y.data.toList = Lib.itoa x.f2 → numRead y = (x.f2, true) := by
    intro y e
    have : y = itoaB x.f2 := by apply ByteArray.ext; apply Array.toList_inj.1; rw [e, itoaB_list]
    rw [this]; exact numRead_itoa b1 b2
  unfold lineP
  by_cases e : x.f0 = 6
  · have hcode : code0 x.f1 = [] := by rw [h6 e]; exact code_nil
    unfold line0 at hc
    rw [hcode, List.nil_append, cutC_piece 32 _ _ hw1, cutC_last 32 _ hi] at hc
    generalize splitP s 32 = w at hc
    match w, hc with
    | [a, b], hc =>
      simp only [List.map_cons, List.map_nil, List.cons.injEq, and_true] at hc
      obtain ⟨ha, hb⟩ := hc
      rw [hw, if_neg (by omega), if_neg (by omega)] at ha
      simp only [lineW]
      rw [if_pos (hof _ _ ha), hnum b hb]
      have := h6 e
      cases x; simp_all
    | [], hc => exact absurd hc (by simp)
    | [_], hc => exact absurd hc (by simp)
    | _ :: _ :: _ :: _, hc => exact absurd hc (by simp)
  · have hnm := name_sep (hn e)
    unfold line0 at hc
    rw [code_some hnm.2.2.1, List.append_assoc, List.singleton_append, cutC_piece 32 _ _ hw1, cutC_piece 32 _ _ hnm.1, cutC_last 32 _ hi] at hc
    generalize splitP s 32 = w at hc
    match w, hc with
    | [a, b, c], hc =>
      simp only [List.map_cons, List.map_nil, List.cons.injEq, and_true] at hc
      obtain ⟨ha, hb, hcc⟩ := hc
      have hb' : b = x.f1 := by apply ByteArray.ext; exact Array.toList_inj.1 hb
      rw [hw] at ha
      simp only [lineW]
      rcases hk with k | k | k
      · rw [if_pos k] at ha
        rw [if_pos (hof _ _ ha), hnum c hcc, hb']
        cases x; simp_all
      · rw [if_neg (by omega), if_pos k] at ha
        rw [if_neg (by rw [hof _ _ ha]; decide), if_pos (hof _ _ ha), hnum c hcc, hb']
        cases x; simp_all
      · exact absurd k e
    | [], hc => exact absurd hc (by simp)
    | [_], hc => exact absurd hc (by simp)
    | [_, _], hc => exact absurd hc (by simp)
    | _ :: _ :: _ :: _ :: _, hc => exact absurd hc (by simp)
theorem lines_back : ∀ (t : List ByteArray) (l acc : List S60), (∀ x ∈ l, goodX x = true) → t.map (·.data.toList) = l.map line0 → linesP t acc = (acc ++ l, true)
  | [], [], acc, _, _ => by simp [linesP]
  | [], x :: l, acc, _, h => by simp at h
  | y :: t, [], acc, _, h => by simp at h
  | y :: t, x :: l, acc, hg, h => by
    simp only [List.map_cons, List.cons.injEq] at h
    have e := line_back (hg x List.mem_cons_self) h.1
    have ih := lines_back t l (acc ++ [x]) (fun z hz => hg z (List.mem_cons_of_mem _ hz)) h.2
    unfold linesP
    rw [e, if_pos rfl, ih, List.append_assoc]
    rfl
theorem chk_good : ∀ (l : List S60) (o : Option S60), chkL o l = true → ∀ x ∈ l, goodX x = true
  | [], _, _, x, hx => by cases hx
  | y :: l, o, h, x, hx => by
    unfold chkL at h
    simp only [Bool.and_eq_true] at h
    rcases List.mem_cons.1 hx with e | hx
    · rw [e]; exact h.1.1
    · exact chk_good l (some y) h.2 x hx
theorem valid_parts {p v : Int} {l : List S60} (h : validP p v l = true) : 0 ≤ p ∧ p ≤ 84005 ∧ 1 ≤ v ∧ v ≤ 65536 ∧ l.length ≤ 256 ∧ (∀ x ∈ l, goodX x = true) := by
  unfold validP at h
  simp only [Bool.and_eq_true, decide_eq_true_eq] at h
  obtain ⟨⟨⟨⟨⟨h1, h2⟩, h3⟩, h4⟩, h5⟩, h6⟩ := h
  exact ⟨h1, h2, h3, h4, h5, chk_good l none h6⟩
theorem hdr_free (p v : Int) : (10 : UInt8) ∉ hdr0 p v := by
  unfold hdr0 returnB versionB
  have h1 := (itoa_sep p).2
  have h2 := (itoa_sep v).2
  simp [h1, h2]
theorem flat_len (l : List S60) (h : ∀ x ∈ l, goodX x = true) : (l.flatMap (fun x => (10 : UInt8) :: line0 x)).length ≤ 49 * l.length := by
  induction l with
  | nil => simp
  | cons x l ih =>
    have h1 := line_len (h x List.mem_cons_self)
    have h2 := ih (fun y hy => h y (List.mem_cons_of_mem _ hy))
    rw [List.flatMap_cons, List.length_append, List.length_cons, List.length_cons]
    omega
theorem enc_len {p v : Int} {l : List S60} (h : validP p v l = true) : (encL p v l).length ≤ 20000 := by
  obtain ⟨h1, h2, h3, h4, h5, h6⟩ := valid_parts h
  rw [enc_split]
  have e1 := itoa_len (n := p) (by omega) (by omega)
  have e2 := itoa_len (n := v) (by omega) (by omega)
  have e3 := flat_len l h6
  unfold body0 hdr0 returnB versionB endsB
  simp only [List.length_append, List.length_cons, List.length_nil]
  omega
def encB (p v : Int) (l : List S60) : ByteArray := ⟨(encL p v l).toArray⟩
theorem encB_list (p v : Int) (l : List S60) : (encB p v l).data.toList = encL p v l := by unfold encB; simp
theorem encB_size (p v : Int) (l : List S60) : (encB p v l).size = (encL p v l).length := by rw [← encB_list]; rfl
theorem encode_ev {p v : Int} {l : List S60} (hl : l.length ≤ 1000000) : Ev (fun k => filing_Encode.f k p v l) (if validP p v l = true then (encB p v l, 0) else (⟨#[]⟩, 1)) := by
  unfold filing_Encode.f
  refine Ev.bind (valid_ev p v l hl) ?_
  by_cases h : validP p v l = true
  · rw [if_pos h, if_pos h]
    refine Ev.ifp ?_ (Ev.now _)
    obtain ⟨h1, h2, h3, h4, h5, h6⟩ := valid_parts h
    have := enc_len h
    unfold encFine I64B
    simp only [Bool.and_eq_true, decide_eq_true_eq, List.all_eq_true]
    refine ⟨⟨⟨by omega, by omega⟩, fun x hx => ?_⟩, by omega⟩
    have := goodX_form (h6 x hx)
    omega
  · rw [if_neg h, if_neg h]
    exact Ev.now _
theorem readP_enc {p v : Int} {l : List S60} (h : validP p v l = true) : readP (encB p v l) = (p, v, l, true) := by
  obtain ⟨h1, h2, h3, h4, h5, h6⟩ := valid_parts h
  have hs : (encB p v l).size = (body0 p v l).length + 5 := by rw [encB_size, enc_split, List.length_append]; rfl
  have hd := encB_list p v l
  rw [enc_split] at hd
  have hx : ((encB p v l).extract 0 ((encB p v l).size - 5)).data.toList = body0 p v l := by
    rw [ByteArray.data_extract, Array.toList_extract, hd, hs]
    simp [List.extract]
  have hy : ((encB p v l).extract ((encB p v l).size - 5) (encB p v l).size).data.toList = endsB := by
    rw [ByteArray.data_extract, Array.toList_extract, hd, hs]
    simp [List.extract, endsB]
  have hends : endsP (encB p v l) = true := by
    unfold endsP
    rw [Lib.toList_data, hy, decide_eq_true (show 5 ≤ (encB p v l).size by omega)]
    rfl
  unfold readP
  rw [if_pos hends]
  generalize (encB p v l).extract 0 ((encB p v l).size - 5) = b at hx
  have hc := splitP_cut b 10
  rw [hx] at hc
  unfold body0 at hc
  rw [cut_flat line0 l _ (hdr_free p v) (fun x hx => line_free (h6 x hx))] at hc
  unfold bodyP
  generalize splitP b 10 = t at hc
  cases t with
  | nil => simp at hc
  | cons y t =>
    simp only [List.map_cons, List.cons.injEq] at hc
    have hl := lines_back t l [] h6 hc.2
    have hr : rdOf ByteArray.empty (y :: t) 0 = y := rfl
    have hw := splitP_cut y 32
    rw [hc.1] at hw
    unfold hdr0 at hw
    rw [cutC_piece 32 returnB _ (by decide), cutC_piece 32 _ _ (itoa_sep p).1, cutC_piece 32 versionB _ (by decide), cutC_last 32 _ (itoa_sep v).1] at hw
    rw [hr]
    generalize splitP y 32 = w at hw
    have hnum : ∀ (n : Int) (z : ByteArray), 0 ≤ n → n ≤ 1000000 → z.data.toList = Lib.itoa n → numRead z = (n, true) := by
      intro n z g1 g2 e
      have : z = itoaB n := by apply ByteArray.ext; apply Array.toList_inj.1; rw [e, itoaB_list]
      rw [this]; exact numRead_itoa (by omega) (by omega)
    match w, hw with
    | [a, b, c, d], hw =>
      simp only [List.map_cons, List.map_nil, List.cons.injEq, and_true] at hw
      obtain ⟨ha, hb, hcc, hd⟩ := hw
      simp only [headW]
      rw [if_pos ⟨by rw [Lib.toList_data]; exact ha, by rw [Lib.toList_data]; exact hcc⟩, hnum p b h1 (by omega) hb, hnum v d (by omega) (by omega) hd, if_pos ⟨rfl, rfl⟩]
      simp only [List.drop_succ_cons, List.drop_zero]
      rw [hl]; rfl
    | [], hw => exact absurd hw (by simp)
    | [_], hw => exact absurd hw (by simp)
    | [_, _], hw => exact absurd hw (by simp)
    | [_, _, _], hw => exact absurd hw (by simp)
    | _ :: _ :: _ :: _ :: _ :: _, hw => exact absurd hw (by simp)
theorem linesP_len : ∀ (t : List ByteArray) (acc : List S60), (linesP t acc).1.length ≤ acc.length + t.length
  | [], acc => by simp [linesP]
  | y :: t, acc => by
    unfold linesP
    split
    · have := linesP_len t (acc ++ [(lineP y).1]); simp at this ⊢; omega
    · simp
theorem readP_len (s : ByteArray) (hs : s.size ≤ 65536) : (readP s).2.2.1.length ≤ 1000000 := by
  unfold readP
  split
  · unfold bodyP
    have hm := splitP_many (s.extract 0 (s.size - 5)) 10
    have hz : (s.extract 0 (s.size - 5)).size ≤ 65536 := by rw [ByteArray.size_extract]; omega
    generalize (s.extract 0 (s.size - 5)) = b at hm hz
    unfold headW
    split
    · split
      · split
        · have := linesP_len ((splitP b 10).drop 1) []
          simp only [List.length_nil, List.length_drop] at this
          show (linesP ((splitP b 10).drop 1) []).1.length ≤ 1000000
          omega
        · simp
      · simp
    · simp
  · simp
def decP (s : ByteArray) : Int × Int × List S60 × Int :=
  if 65536 < s.size then (0, 0, [], 3) else if (readP s).2.2.2 = true ∧ validP (readP s).1 (readP s).2.1 (readP s).2.2.1 = true then ((readP s).1, (readP s).2.1, (readP s).2.2.1, 0) else (0, 0, [], 6)
theorem decode_ev (s : ByteArray) : Ev (fun k => filing_Decode.f k s) (decP s) := by
  unfold filing_Decode.f decP
  by_cases h : 65536 < s.size
  · rw [if_pos h]
    exact Ev.ifp (by omega) (Ev.now _)
  · rw [if_neg h]
    refine Ev.ifn (by omega) (Ev.bind (read_ev s (by omega)) ?_)
    have hl := readP_len s (by omega)
    generalize readP s = r at hl ⊢
    by_cases g : r.2.2.2 = true
    · refine Ev.ifp g (Ev.bind (valid_ev _ _ _ hl) ?_)
      by_cases e : validP r.1 r.2.1 r.2.2.1 = true
      · exact Ev.ifp e ((Ev.now _).cast (by rw [if_pos (show r.2.2.2 = true ∧ validP r.1 r.2.1 r.2.2.1 = true from ⟨g, e⟩)]))
      · exact Ev.ifn e ((Ev.now _).cast (by rw [if_neg (show ¬ (r.2.2.2 = true ∧ validP r.1 r.2.1 r.2.2.1 = true) from fun h => e h.2)]))
    · rw [if_neg (fun h => g h.1)]
      exact Ev.ifn g (Ev.now _)
theorem decP_enc {p v : Int} {l : List S60} (h : validP p v l = true) : decP (encB p v l) = (p, v, l, 0) := by
  have := enc_len h
  unfold decP
  rw [if_neg (by rw [encB_size]; omega), readP_enc h, if_pos ⟨rfl, h⟩]
end Go.Proofs.YtejgfblphgcgkaaGreatDoor.P
