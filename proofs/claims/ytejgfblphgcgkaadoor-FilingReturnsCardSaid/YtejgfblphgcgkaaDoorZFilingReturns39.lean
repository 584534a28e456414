/- Texts for the law FilingReturns (kept out of a larger one). -/
import Derived.Test.YtejgfblphgcgkaaDoorZFilingReturns12
import Derived.Test.YtejgfblphgcgkaaDoorZFilingReturns22
import Derived.Test.YtejgfblphgcgkaaDoorZFilingReturns23
import Derived.Test.YtejgfblphgcgkaaDoorZFilingReturns35
import Derived.Test.YtejgfblphgcgkaaDoorZFilingReturns20
import Derived.Test.YtejgfblphgcgkaaDoorZFilingReturns21
import Derived.Test.YtejgfblphgcgkaaDoorZFilingReturns38
import Derived.WalkKit
namespace Go.Proofs.YtejgfblphgcgkaaDoor.P
set_option linter.unusedVariables false
set_option linter.unusedSimpArgs false
open Go.RowKit Go.Proofs.YtejgfblphgcgkaaDoorW.PrintWords
def joinC (c : UInt8) : List (List UInt8) → List UInt8
  | [] => []
  | [a] => a
  | a :: b :: t => a ++ c :: joinC c (b :: t)
theorem joinC_cut (c : UInt8) : ∀ l, joinC c (cutC c l) = l
  | [] => rfl
  | x :: l => by
    have ih := joinC_cut c l
    by_cases h : x = c
    · subst h
      rw [cutC, if_pos rfl]
      cases e : cutC x l with
      | nil => exact absurd e (cutC_ne x l)
      | cons a t => rw [e] at ih; show [] ++ x :: joinC x (a :: t) = _; rw [ih]; rfl
    · obtain ⟨a, t, h1, h2⟩ := cutC_cons c x l h
      rw [h1] at ih; rw [h2]
      cases t with
      | nil => show x :: a = x :: l; rw [show a = l from ih]
      | cons b t => show (x :: a) ++ c :: joinC c (b :: t) = x :: l; rw [← ih]; rfl
theorem cutC_len (c : UInt8) : ∀ l, ∀ a ∈ cutC c l, a.length ≤ l.length
  | [], a, h => by rw [cutC, List.mem_singleton] at h; subst h; exact Nat.le_refl _
  | x :: l, a, h => by
    by_cases e : x = c
    · rw [cutC, if_pos e] at h
      rcases List.mem_cons.1 h with h | h
      · subst h; simp
      · have := cutC_len c l a h; simp; omega
    · obtain ⟨b, t, h1, h2⟩ := cutC_cons c x l e
      rw [h2] at h
      rcases List.mem_cons.1 h with h | h
      · subst h; have := cutC_len c l b (by rw [h1]; exact List.mem_cons_self); simp; omega
      · have := cutC_len c l a (by rw [h1]; exact List.mem_cons_of_mem _ h); simp; omega
theorem cutC_many (c : UInt8) : ∀ l, (cutC c l).length ≤ l.length + 1
  | [] => by simp [cutC]
  | x :: l => by
    have ih := cutC_many c l
    by_cases e : x = c
    · rw [cutC, if_pos e]; simp; omega
    · obtain ⟨b, t, h1, h2⟩ := cutC_cons c x l e
      rw [h2]; rw [h1] at ih; simp at ih ⊢; omega
def splitP (s : ByteArray) (c : UInt8) : List ByteArray := splitS s ⟨#[c]⟩
theorem splitP_cut (s : ByteArray) (c : UInt8) : (splitP s c).map (·.data.toList) = cutC c s.data.toList := splitS_cut s c
theorem splitP_some (s : ByteArray) (c : UInt8) (h : s.size ≤ 65536) : strings_Split.f s (⟨#[c]⟩ : ByteArray) = some (splitP s c) := by
  unfold strings_Split.f
  rw [if_pos ⟨by omega, by show 1 ≤ 1; omega⟩]; rfl
theorem splitP_size (s : ByteArray) (c : UInt8) : ∀ x ∈ splitP s c, x.size ≤ s.size := by
  intro x hx
  have h1 : x.data.toList ∈ cutC c s.data.toList := by rw [← splitP_cut]; exact List.mem_map_of_mem hx
  exact cutC_len c _ _ h1
theorem splitP_many (s : ByteArray) (c : UInt8) : (splitP s c).length ≤ s.size + 1 := by
  have h := cutC_many c s.data.toList
  rw [← splitP_cut, List.length_map] at h
  exact h
theorem splitP_ne (s : ByteArray) (c : UInt8) : splitP s c ≠ [] := by
  intro h
  have := splitP_cut s c
  rw [h] at this
  exact cutC_ne c _ this.symm
theorem number_some (s : ByteArray) (h : s.size ≤ 65536) : filing_number.f s = some (numRead s) := by
  unfold filing_number.f; rw [if_pos (by omega)]
def levyB : List UInt8 := [108, 101, 118, 121]
def employerB : List UInt8 := [101, 109, 112, 108, 111, 121, 101, 114]
def taxB : List UInt8 := [116, 97, 120]
def lineW : List ByteArray → S28 × Bool
  | [a, b, c] => if a.toList = levyB then (⟨4, b, (numRead c).1⟩, (numRead c).2) else if a.toList = employerB then (⟨5, b, (numRead c).1⟩, (numRead c).2) else (⟨0, ⟨#[]⟩, 0⟩, false)
  | [a, b] => if a.toList = taxB then (⟨6, ⟨#[]⟩, (numRead b).1⟩, (numRead b).2) else (⟨0, ⟨#[]⟩, 0⟩, false)
  | _ => (⟨0, ⟨#[]⟩, 0⟩, false)
def lineP (x : ByteArray) : S28 × Bool := lineW (splitP x 32)
theorem line_ev (x : ByteArray) (hx : x.size ≤ 65536) : Ev (fun k => filing_line.f k x) ((lineP x).1.f0, (lineP x).1.f1, (lineP x).1.f2, (lineP x).2) := by
  unfold filing_line.f lineP
  refine Ev.bindc (splitP_some x 32 hx) ?_
  have hs : ∀ y ∈ splitP x 32, y.size ≤ 65536 := fun y hy => Nat.le_trans (splitP_size x 32 y hy) hx
  have hn := splitP_ne x 32
  generalize splitP x 32 = w at hs hn ⊢
  have n2 : wrap64 ((3 : Int) - 1) = 2 := by decide +kernel
  have n1 : wrap64 ((2 : Int) - 1) = 1 := by decide +kernel
  by_cases h3 : w.length = 3
  · obtain ⟨a, b, c, rfl⟩ : ∃ a b c, w = [a, b, c] := by
      match w, h3 with | [a, b, c], _ => exact ⟨a, b, c, rfl⟩
    have hc := hs c (by simp)
    have L3 : (([a, b, c] : List ByteArray).length : Int) = 3 := rfl
    simp only [L3, n2]
    have r0 : rdOf ByteArray.empty [a, b, c] 0 = a := rfl
    have r1 : rdOf ByteArray.empty [a, b, c] 1 = b := rfl
    have r2 : rdOf ByteArray.empty [a, b, c] 2 = c := rfl
    refine Ev.ifp trivial (Ev.ifp (by decide) ?_)
    rw [r0]
    simp only [lineW]
    by_cases e1 : a.toList = levyB
    · rw [if_pos e1]
      refine Ev.step (fun k => by simp only [filing_line.j0]; rfl) (Ev.ifp (by rw [beq_iff_eq]; exact e1) ?_)
      simp only [L3, n2, r2, r1]
      refine Ev.ifp (by decide) (Ev.ifp (by decide) (Ev.ifp (by decide) (Ev.bindc (number_some c hc) (Ev.now _))))
    · rw [if_neg e1]
      refine Ev.step (fun k => by simp only [filing_line.j0]; rfl) (Ev.ifn (by rw [beq_iff_eq]; exact e1) ?_)
      simp only [L3]
      refine Ev.ifp trivial (Ev.ifp (by decide) ?_)
      rw [r0]
      by_cases e2 : a.toList = employerB
      · rw [if_pos e2]
        refine Ev.step (fun k => by simp only [filing_line.j1]; rfl) (Ev.ifp (by rw [beq_iff_eq]; exact e2) ?_)
        simp only [L3, n2, r2, r1]
        refine Ev.ifp (by decide) (Ev.ifp (by decide) (Ev.ifp (by decide) (Ev.bindc (number_some c hc) (Ev.now _))))
      · rw [if_neg e2]
        refine Ev.step (fun k => by simp only [filing_line.j1]; rfl) (Ev.ifn (by rw [beq_iff_eq]; exact e2) ?_)
        simp only [L3]
        exact Ev.ifn (by decide) (Ev.now _)
  · have hj1 : Ev (fun k => filing_line.j1 k w false 0 (⟨#[]⟩ : ByteArray) 0) ((lineW w).1.f0, (lineW w).1.f1, (lineW w).1.f2, (lineW w).2) := by
      refine Ev.step (fun k => by simp only [filing_line.j1]; rfl) (Ev.ifn (by decide) ?_)
      by_cases h2 : w.length = 2
      · obtain ⟨a, b, rfl⟩ : ∃ a b, w = [a, b] := by
          match w, h2 with | [a, b], _ => exact ⟨a, b, rfl⟩
        have hb := hs b (by simp)
        have L2 : (([a, b] : List ByteArray).length : Int) = 2 := rfl
        have r0 : rdOf ByteArray.empty [a, b] 0 = a := rfl
        have r1 : rdOf ByteArray.empty [a, b] 1 = b := rfl
        simp only [L2, n1, r0, r1]
        refine Ev.ifp trivial (Ev.ifp (by decide) ?_)
        simp only [lineW]
        by_cases e : a.toList = taxB
        · rw [if_pos e]
          exact Ev.ifp e (Ev.ifp (by decide) (Ev.ifp (by decide) (Ev.bindc (number_some b hb) (Ev.now _))))
        · rw [if_neg e]
          exact Ev.ifn e (Ev.now _)
      · have : lineW w = (⟨0, ⟨#[]⟩, 0⟩, false) := by
          match w, h2, h3 with
          | [], _, _ => rfl
          | [_], _, _ => rfl
          | [_, _], h, _ => exact absurd rfl h
          | [_, _, _], _, h => exact absurd rfl h
          | _ :: _ :: _ :: _ :: _, _, _ => rfl
        rw [this]
        exact Ev.ifn (by omega) (Ev.now _)
    refine Ev.ifn (by omega) (Ev.step (fun k => by simp only [filing_line.j0]; rfl) (Ev.ifn (by decide) (Ev.ifn (by omega) hj1)))
def linesP : List ByteArray → List S28 → List S28 × Bool
  | [], acc => (acc, true)
  | x :: r, acc => if (lineP x).2 = true then linesP r (acc ++ [(lineP x).1]) else (acc, false)
theorem lines_ev (X : List ByteArray) (hX : ∀ y ∈ X, y.size ≤ 65536) (hn : X.length ≤ 65537) (p v : Int) : ∀ (m i : Nat) (acc : List S28), i + m = X.length → acc.length = i →
    Ev (fun k => filing_read.l0 k X (X.length : Int) (i : Int) p v acc) (p, v, (linesP (X.drop i) acc).1, (linesP (X.drop i) acc).2) := by
  intro m
  induction m with
  | zero =>
    intro i acc hi ha
    have e : X.drop i = [] := List.drop_eq_nil_of_le (by omega)
    rw [e]
    refine Ev.step (fun k => by simp only [filing_read.l0]; rfl) ?_
    exact Ev.ifn (by omega) (Ev.now _)
  | succ m ih =>
    intro i acc hi ha
    have hl : i < X.length := by omega
    have e1 : wrap64 ((i : Int) + 1) = ((i + 1 : Nat) : Int) := by unfold wrap64; omega
    have er : rdOf ByteArray.empty X (i : Int) = X[i] := by
      unfold rdOf
      rw [Int.toNat_natCast, List.getD_eq_getElem?_getD, List.getElem?_eq_getElem hl]; rfl
    rw [List.drop_eq_getElem_cons hl]
    refine Ev.step (fun k => by simp only [filing_read.l0]; rfl) (Ev.ifp (by omega) (Ev.ifp (by omega) (Ev.ifp (by omega) ?_)))
    rw [er]
    refine Ev.bind (line_ev X[i] (hX _ (List.getElem_mem hl))) ?_
    unfold linesP
    by_cases g : (lineP X[i]).2 = true
    · rw [if_pos g]
      refine Ev.ifp g (Ev.ifp (by omega) ?_)
      rw [e1]
      exact ih (i + 1) _ (by omega) (by simp; omega)
    · rw [if_neg g]
      exact Ev.ifn g (Ev.now _)
def returnB : List UInt8 := [114, 101, 116, 117, 114, 110]
def versionB : List UInt8 := [118, 101, 114, 115, 105, 111, 110]
def endsB : List UInt8 := [10, 101, 110, 100, 10]
def headW (t : List ByteArray) : List ByteArray → Int × Int × List S28 × Bool
  | [a, b, c, d] => if a.toList = returnB ∧ c.toList = versionB then
      if (numRead b).2 = true ∧ (numRead d).2 = true then ((numRead b).1, (numRead d).1, (linesP t []).1, (linesP t []).2) else ((numRead b).1, (numRead d).1, [], false)
      else (0, 0, [], false)
  | _ => (0, 0, [], false)
def bodyP (s : ByteArray) : Int × Int × List S28 × Bool := headW ((splitP s 10).drop 1) (splitP (rdOf ByteArray.empty (splitP s 10) 0) 32)
def endsP (s : ByteArray) : Bool := decide (5 ≤ s.size) && decide ((s.extract (s.size - 5) s.size).toList = endsB)
def readP (s : ByteArray) : Int × Int × List S28 × Bool := if endsP s = true then bodyP (s.extract 0 (s.size - 5)) else (0, 0, [], false)
theorem suffix_some (s : ByteArray) (h : s.size ≤ 65536) : strings_CutSuffix.f s (⟨#[10, 101, 110, 100, 10]⟩ : ByteArray) = some (if endsP s = true then (s.extract 0 (s.size - 5), true) else (s, false)) := by
  have z5 : ((⟨#[10, 101, 110, 100, 10]⟩ : ByteArray).size : Int) = 5 := rfl
  have l5 : (⟨#[10, 101, 110, 100, 10]⟩ : ByteArray).toList = endsB := by rw [Lib.toList_data]; rfl
  unfold strings_CutSuffix.f stringslite_CutSuffix.f stringslite_HasSuffix.f endsP
  rw [z5]
  by_cases h5 : 5 ≤ s.size
  · have e : wrap64 ((s.size : Int) - 5) = ((s.size - 5 : Nat) : Int) := by unfold wrap64; omega
    rw [if_pos (by omega), e, if_pos (by omega), if_pos (by omega), l5]
    simp only [Int.toNat_natCast, Option.bind_some]
    by_cases h6 : (s.extract (s.size - 5) s.size).toList = endsB
    · rw [h6]
      simp [h5]
    · have : ((s.extract (s.size - 5) s.size).toList == endsB) = false := by rw [beq_eq_false_iff_ne]; exact h6
      rw [this]
      simp [h5, h6]
  · rw [if_neg (by omega)]
    simp [h5]
theorem read_ev (s : ByteArray) (hs : s.size ≤ 65536) : Ev (fun k => filing_read.f k s) (readP s) := by
  unfold filing_read.f readP
  refine Ev.bindc (suffix_some s hs) ?_
  by_cases h : endsP s = true
  · rw [if_pos h, if_pos h]
    refine Ev.ifp rfl ?_
    have hb : (s.extract 0 (s.size - 5)).size ≤ 65536 := by rw [ByteArray.size_extract]; omega
    generalize s.extract 0 (s.size - 5) = b at hb ⊢
    unfold bodyP
    refine Ev.bindc (splitP_some b 10 hb) ?_
    have hs1 : ∀ y ∈ splitP b 10, y.size ≤ 65536 := fun y hy => Nat.le_trans (splitP_size b 10 y hy) hb
    have hm := splitP_many b 10
    have hn := splitP_ne b 10
    generalize splitP b 10 = t at hs1 hn hm ⊢
    have hl : 0 < t.length := by cases t with | nil => exact absurd rfl hn | cons _ _ => simp
    have hr : (rdOf ByteArray.empty t 0).size ≤ 65536 := by
      cases t with
      | nil => exact absurd rfl hn
      | cons x r => exact hs1 x List.mem_cons_self
    refine Ev.ifp (by omega) (Ev.bindc (splitP_some _ 32 hr) ?_)
    have hs2 : ∀ y ∈ splitP (rdOf ByteArray.empty t 0) 32, y.size ≤ 65536 := fun y hy => Nat.le_trans (splitP_size _ 32 y hy) hr
    generalize splitP (rdOf ByteArray.empty t 0) 32 = w at hs2 ⊢
    by_cases h4 : w.length = 4
    · obtain ⟨a, x, c, d, rfl⟩ : ∃ a b c d, w = [a, b, c, d] := by
        match w, h4 with | [a, b, c, d], _ => exact ⟨a, b, c, d, rfl⟩
      have hx := hs2 x (by simp)
      have hd := hs2 d (by simp)
      have L4 : (([a, x, c, d] : List ByteArray).length : Int) = 4 := rfl
      have r0 : rdOf ByteArray.empty [a, x, c, d] 0 = a := rfl
      have r1 : rdOf ByteArray.empty [a, x, c, d] 1 = x := rfl
      have r2 : rdOf ByteArray.empty [a, x, c, d] 2 = c := rfl
      have r3 : rdOf ByteArray.empty [a, x, c, d] 3 = d := rfl
      simp only [L4, r0, r2]
      refine Ev.ifp trivial (Ev.ifp (by decide) ?_)
      simp only [headW]
      by_cases e1 : a.toList = returnB
      · refine Ev.ifp e1 (Ev.ifp (by decide) ?_)
        by_cases e2 : c.toList = versionB
        · rw [if_pos ⟨e1, e2⟩]
          refine Ev.step (fun k => by simp only [filing_read.j0]; rfl) (Ev.ifn (by rw [show (c.toList != ([118, 101, 114, 115, 105, 111, 110] : List UInt8)) = false from by rw [bne_eq_false_iff_eq]; exact e2]; decide) ?_)
          simp only [L4, r1, r3]
          refine Ev.ifp (by decide) (Ev.bindc (number_some x hx) (Ev.ifp (by decide) (Ev.bindc (number_some d hd) ?_)))
          have hj : ∀ b : Bool, Ev (fun k => filing_read.j1 k t b (numRead x).1 (numRead d).1) (if b = true then ((numRead x).1, (numRead d).1, [], false) else ((numRead x).1, (numRead d).1, (linesP (t.drop 1) []).1, (linesP (t.drop 1) []).2)) := by
            intro b
            cases b with
            | true =>
              refine Ev.step (fun k => by simp only [filing_read.j1]; rfl) ?_
              exact Ev.ifp trivial (Ev.now _)
            | false =>
              refine Ev.step (fun k => by simp only [filing_read.j1]; rfl) ?_
              refine Ev.ifn (by decide) (Ev.ifp (by omega) (Ev.bindc (a := t.drop 1) rfl ?_))
              have := lines_ev (t.drop 1) (fun y hy => hs1 y (List.mem_of_mem_drop hy)) (by rw [List.length_drop]; omega) (numRead x).1 (numRead d).1 (t.drop 1).length 0 [] (by omega) rfl
              simpa using this
          by_cases g1 : (numRead x).2 = true
          · refine Ev.ifp g1 ((hj _).cast ?_)
            by_cases g2 : (numRead d).2 = true
            · rw [if_pos (show (numRead x).2 = true ∧ (numRead d).2 = true from ⟨g1, g2⟩), if_neg (by rw [g2]; decide)]
            · rw [if_neg (show ¬ ((numRead x).2 = true ∧ (numRead d).2 = true) from fun h => g2 h.2), if_pos (by simpa using g2)]
          · refine Ev.ifn g1 ((hj _).cast ?_)
            rw [if_neg (show ¬ ((numRead x).2 = true ∧ (numRead d).2 = true) from fun h => g1 h.1), if_pos rfl]
        · rw [if_neg (fun h => e2 h.2)]
          refine Ev.step (fun k => by simp only [filing_read.j0]; rfl) ?_
          exact Ev.ifp (by rw [bne_iff_ne]; exact e2) (Ev.now _)
      · rw [if_neg (fun h => e1 h.1)]
        refine Ev.ifn e1 (Ev.step (fun k => by simp only [filing_read.j0]; rfl) ?_)
        exact Ev.ifp trivial (Ev.now _)
    · have : headW (t.drop 1) w = (0, 0, [], false) := by
        match w, h4 with
        | [], _ => rfl
        | [_], _ => rfl
        | [_, _], _ => rfl
        | [_, _, _], _ => rfl
        | [_, _, _, _], h => exact absurd rfl h
        | _ :: _ :: _ :: _ :: _ :: _, _ => rfl
      rw [this]
      refine Ev.ifn (by omega) (Ev.step (fun k => by simp only [filing_read.j0]; rfl) ?_)
      exact Ev.ifp trivial (Ev.now _)
  · rw [if_neg h, if_neg h]
    exact Ev.ifn (fun h => by cases h) (Ev.now _)
end Go.Proofs.YtejgfblphgcgkaaDoor.P
