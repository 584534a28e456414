/- Texts for the law FilingDecodes (kept out of a larger one). -/
import Derived.Laws.Strings
import Derived.Lib.AtoiTie
import Derived.Lib.ItoaMem
import Derived.Lib.ItoaLen
import Derived.Lib.IndexLaws
import Derived.Lib.SplitLaws
import Derived.WalkKit
import Derived.Test.YtejgfblphgcgkaaGreatDoorZFilingDecodes9
import Derived.Lib.Strings
namespace Go.Proofs.YtejgfblphgcgkaaGreatDoor.P
set_option linter.unusedVariables false
open Go.RowKit Go.Proofs.YtejgfblphgcgkaaGreatDoorW.PrintWords
abbrev bs (l : List UInt8) : ByteArray := ⟨l.toArray⟩
theorem bs_list (l : List UInt8) : (bs l).data.toList = l := by simp
theorem bs_size (l : List UInt8) : (bs l).size = l.length := by simp [ByteArray.size]
theorem bs_append (l r : List UInt8) : bs l ++ bs r = bs (l ++ r) := by
 apply ByteArray.ext
 simp [ByteArray.data_append]
theorem str_nil {x : ByteArray} : x.toList = ([] : List UInt8) ↔ x.data.toList = [] := by rw [ByteArray.toList_eq]
def isDig (b : UInt8) : Prop := 48 ≤ b.toNat ∧ b.toNat ≤ 57
theorem decFrom_append : ∀ (l r : List UInt8) (a : Nat), Lib.decFrom a (l ++ r) = (Lib.decFrom a l).bind fun m => Lib.decFrom m r
 | [], r, a => rfl
 | c :: l, r, a => by
  simp only [List.cons_append, Lib.decFrom]
  cases h : Lib.digitVal c with
  | none => rfl
  | some d => exact decFrom_append l r _
theorem ofNat_dig {d : Nat} (h : d < 10) : (UInt8.ofNat (48 + d)).toNat = 48 + d := by
 rw [UInt8.toNat_ofNat']; omega
theorem dec_spells (u : Nat) : Lib.decFrom 0 (Lib.decDigits u) = some u ∧ ∀ b ∈ Lib.decDigits u, isDig b := by
 induction u using Nat.strongRecOn with
 | _ u ih =>
  by_cases h : u < 10
  · have e := ofNat_dig h
    rw [Lib.decDigits, dif_pos h]
    refine ⟨?_, fun b hb => ?_⟩
    · simp only [Lib.decFrom, Lib.digitVal, e]
      rw [if_pos (by omega)]
      show some _ = some _
      congr 1; omega
    · rw [List.mem_singleton.1 hb]; unfold isDig; rw [e]; omega
  · obtain ⟨i1, i2⟩ := ih (u / 10) (by omega)
    have e := ofNat_dig (Nat.mod_lt u (by omega : 0 < 10))
    rw [Lib.decDigits, dif_neg h]
    refine ⟨?_, fun b hb => ?_⟩
    · rw [decFrom_append, i1]
      show Lib.decFrom (u / 10) [UInt8.ofNat (48 + u % 10)] = some u
      simp only [Lib.decFrom, Lib.digitVal, e]
      rw [if_pos (by omega)]
      show some _ = some _
      congr 1; omega
    · rcases List.mem_append.1 hb with hb | hb
      · exact i2 b hb
      · rw [List.mem_singleton.1 hb]; unfold isDig; rw [e]; omega
theorem nDigits_le : ∀ (k u : Nat), u < 10 ^ (k + 1) → Lib.nDigits u ≤ k + 1
 | 0, u, h => by rw [Lib.nDigits_small (by simpa using h)]; omega
 | k + 1, u, h => by
  by_cases h10 : u < 10
  · rw [Lib.nDigits_small h10]; omega
  · rw [Lib.nDigits_big h10]
    have := nDigits_le k (u / 10) (by rw [Nat.pow_succ] at h; omega)
    omega
theorem dec_len (u : Nat) : 1 ≤ (Lib.decDigits u).length := by rw [Lib.decDigits_length]; exact Lib.nDigits_pos u
theorem dec_len_le {u : Nat} (h : u ≤ 1000000000000) : (Lib.decDigits u).length ≤ 13 := by
 rw [Lib.decDigits_length]; exact nDigits_le 12 u (by omega)
theorem dec_nat {u : Nat} : Lib.decNat (Lib.decDigits u) = some u := by
 unfold Lib.decNat
 rw [if_neg, (dec_spells u).1]
 have := dec_len u
 intro h
 rw [List.isEmpty_iff.1 h] at this
 exact absurd this (by decide)
theorem dec_head (u : Nat) : ∃ c r, Lib.decDigits u = c :: r ∧ isDig c := by
 have h := dec_len u
 cases e : Lib.decDigits u with
 | nil => rw [e] at h; exact absurd h (by decide)
 | cons c r => exact ⟨c, r, rfl, (dec_spells u).2 c (by rw [e]; exact List.mem_cons_self)⟩
theorem atoi_itoa {n : Int} (h0 : -1000000000000 ≤ n) (h1 : n ≤ 1000000000000) : Lib.atoiAll (Lib.itoa n) = .ok n := by
 have hl := dec_len_le (u := n.natAbs) (by omega)
 by_cases hn : n < 0
 · unfold Lib.itoa
   rw [if_pos hn, Lib.atoiAll_minus, Lib.signed_short (by omega), dec_nat]
   show Lib.NumEnd.ok (-(n.natAbs : Int)) = .ok n
   congr 1; omega
 · unfold Lib.itoa
   have e : n.toNat = n.natAbs := by omega
   rw [if_neg hn, e]
   obtain ⟨c, r, hc, hd⟩ := dec_head n.natAbs
   unfold isDig at hd
   have := dec_nat (u := n.natAbs)
   rw [hc, Lib.atoiAll_plain c r (by omega) (by omega), Lib.signless_short (by rw [← hc]; omega), ← hc, this]
   show Lib.NumEnd.ok (n.natAbs : Int) = .ok n
   congr 1; omega
theorem itoa_mem {n : Int} {b : UInt8} (h : b ∈ Lib.itoa n) : b = 45 ∨ isDig b := by
 unfold Lib.itoa at h
 split at h
 · rcases List.mem_cons.1 h with h | h
   · exact Or.inl h
   · exact Or.inr ((dec_spells _).2 b h)
 · exact Or.inr ((dec_spells _).2 b h)
theorem numRead_itoa {n : Int} (h0 : -1000000000000 ≤ n) (h1 : n ≤ 1000000000000) : numRead (itoaB n) = (n, true) := by
 unfold numRead
 have e : (itoaB n).data.toList = Lib.itoa n := by unfold itoaB; simp
 rw [e, atoi_itoa h0 h1]
 simp
theorem numRead_true {s : ByteArray} {v : Int} (h : numRead s = (v, true)) : itoaB v = s := by
 unfold numRead at h
 split at h
 · injection h with h1 h2
   subst h1
   exact of_decide_eq_true h2
 · injection h with h1 h2; cases h2
 · injection h with h1 h2; cases h2
end Go.Proofs.YtejgfblphgcgkaaGreatDoor.P
namespace Go.Proofs.YtejgfblphgcgkaaGreatDoor.P
set_option linter.unusedVariables false
set_option linter.unusedSimpArgs false
open Go Go.RowKit
def cutC (c : UInt8) : List UInt8 → List (List UInt8)
 | [] => [[]]
 | x :: l => if x = c then [] :: cutC c l else match cutC c l with | [] => [[x]] | h :: t => (x :: h) :: t
theorem cutC_ne (c : UInt8) (l : List UInt8) : cutC c l ≠ [] := by
 cases l with
 | nil => simp [cutC]
 | cons x l =>
  unfold cutC
  split
  · simp
  · split <;> simp
theorem cutC_cons (c x : UInt8) (l : List UInt8) (h : x ≠ c) : ∃ a t, cutC c l = a :: t ∧ cutC c (x :: l) = (x :: a) :: t := by
 cases e : cutC c l with
 | nil => exact absurd e (cutC_ne c l)
 | cons a t => refine ⟨a, t, rfl, ?_⟩; rw [cutC, if_neg h, e]
theorem splitK_cons_eq (c : UInt8) (l : List UInt8) (k : Nat) : Lib.splitK [c] 0 (k + 1) (c :: l) = [] :: Lib.splitK [c] 0 k l := by
 have hix : Lib.index (c :: l) [c] = 0 := by rw [Lib.index]; simp [List.isPrefixOf]
 rw [Lib.splitK, hix]
 simp
theorem splitK_cons_ne (c x : UInt8) (l : List UInt8) (k : Nat) (h : x ≠ c) (a : List UInt8) (t : List (List UInt8)) (he : Lib.splitK [c] 0 k l = a :: t) : Lib.splitK [c] 0 k (x :: l) = (x :: a) :: t := by
 have hp : ([c] : List UInt8).isPrefixOf (x :: l) = false := by simp [List.isPrefixOf, Ne.symm h]
 have hix : Lib.index (x :: l) [c] = if Lib.index l [c] == -1 then -1 else Lib.index l [c] + 1 := by rw [Lib.index, hp]; simp
 cases k with
 | zero =>
  rw [Lib.splitK] at he ⊢
  injection he with h1 h2
  rw [← h1, ← h2]
 | succ k =>
  rw [Lib.splitK] at he ⊢
  by_cases hm : Lib.index l [c] = -1
  · rw [if_pos (by rw [hm]; rfl)] at he
    rw [if_pos (by rw [hix, hm]; rfl)]
    injection he with h1 h2
    rw [← h1, ← h2]
  · have hge := Lib.index_ge l [c]
    obtain ⟨j, hj⟩ : ∃ j : Nat, Lib.index l [c] = j := ⟨(Lib.index l [c]).toNat, by omega⟩
    have hb : (Lib.index l [c] == -1) = false := by simpa using hm
    rw [if_neg (by rw [hb]; simp)] at he
    have hix2 : Lib.index (x :: l) [c] = ((j + 1 : Nat) : Int) := by rw [hix, hb, hj]; simp
    have hb2 : (Lib.index (x :: l) [c] == -1) = false := by rw [hix2]; simp; omega
    rw [if_neg (by rw [hb2]; simp)]
    rw [hj] at he
    rw [hix2]
    simp only [Int.toNat_natCast, Nat.add_zero, List.length_singleton] at he ⊢
    injection he with h1 h2
    rw [← h1, ← h2]
    rfl
theorem splitK_cut (c : UInt8) : ∀ s : List UInt8, Lib.splitK [c] 0 (Lib.count s [c]) s = cutC c s
 | [] => by rw [Lib.count_miss (by simp [Lib.index])]; rfl
 | x :: l => by
  have ih := splitK_cut c l
  by_cases h : x = c
  · subst h
    rw [Lib.count_cons_eq, Nat.add_comm, splitK_cons_eq, ih, cutC, if_pos rfl]
  · obtain ⟨a, t, h1, h2⟩ := cutC_cons c x l h
    rw [h2, Lib.count_cons_ne x c l h]
    exact splitK_cons_ne c x l _ h a t (ih.trans h1)
theorem splitS_cut (s : ByteArray) (c : UInt8) : (splitS s ⟨#[c]⟩).map (·.data.toList) = cutC c s.data.toList := by
 unfold splitS
 rw [Lib.splitB_data]
 exact splitK_cut c s.data.toList
theorem cutC_piece (c : UInt8) : ∀ (a r : List UInt8), c ∉ a → cutC c (a ++ c :: r) = a :: cutC c r
 | [], r, _ => by rw [List.nil_append, cutC, if_pos rfl]
 | x :: a, r, h => by
  have hx : x ≠ c := fun e => h (by rw [e]; exact List.mem_cons_self ..)
  obtain ⟨b, t, h1, h2⟩ := cutC_cons c x (a ++ c :: r) hx
  rw [cutC_piece c a r (fun m => h (List.mem_cons_of_mem _ m))] at h1
  injection h1 with h3 h4
  rw [List.cons_append, h2, ← h3, ← h4]
theorem cutC_last (c : UInt8) : ∀ a : List UInt8, c ∉ a → cutC c a = [a]
 | [], _ => rfl
 | x :: a, h => by
  have hx : x ≠ c := fun e => h (by rw [e]; exact List.mem_cons_self ..)
  obtain ⟨b, t, h1, h2⟩ := cutC_cons c x a hx
  rw [cutC_last c a (fun m => h (List.mem_cons_of_mem _ m))] at h1
  injection h1 with h3 h4
  rw [h2, ← h3, ← h4]
end Go.Proofs.YtejgfblphgcgkaaGreatDoor.P
namespace Go.Proofs.YtejgfblphgcgkaaGreatDoor.P
set_option linter.unusedVariables false
set_option linter.unusedSimpArgs false
open Go Go.RowKit Go.Proofs.YtejgfblphgcgkaaGreatDoorW.PrintWords
def joinC (c : UInt8) : List (List UInt8) → List UInt8
 | [] => []
 | [a] => a
 | a :: b :: t => a ++ c :: joinC c (b :: t)
theorem joinC_cut (c : UInt8) : ∀ l, joinC c (cutC c l) = l
 | [] => rfl
 | x :: l => by
  have ih := joinC_cut c l
  by_cases h : x = c
  · subst h
    rw [cutC, if_pos rfl]
    cases e : cutC x l with
    | nil => exact absurd e (cutC_ne x l)
    | cons a t => rw [e] at ih; show [] ++ x :: joinC x (a :: t) = _; rw [ih]; rfl
  · obtain ⟨a, t, h1, h2⟩ := cutC_cons c x l h
    rw [h1] at ih; rw [h2]
    cases t with
    | nil => show x :: a = x :: l; rw [show a = l from ih]
    | cons b t => show (x :: a) ++ c :: joinC c (b :: t) = x :: l; rw [← ih]; rfl
theorem cutC_len (c : UInt8) : ∀ l, ∀ a ∈ cutC c l, a.length ≤ l.length
 | [], a, h => by rw [cutC, List.mem_singleton] at h; subst h; exact Nat.le_refl _
 | x :: l, a, h => by
  by_cases e : x = c
  · rw [cutC, if_pos e] at h
    rcases List.mem_cons.1 h with h | h
    · subst h; simp
    · have := cutC_len c l a h; simp; omega
  · obtain ⟨b, t, h1, h2⟩ := cutC_cons c x l e
    rw [h2] at h
    rcases List.mem_cons.1 h with h | h
    · subst h; have := cutC_len c l b (by rw [h1]; exact List.mem_cons_self); simp; omega
    · have := cutC_len c l a (by rw [h1]; exact List.mem_cons_of_mem _ h); simp; omega
theorem cutC_many (c : UInt8) : ∀ l, (cutC c l).length ≤ l.length + 1
 | [] => by simp [cutC]
 | x :: l => by
  have ih := cutC_many c l
  by_cases e : x = c
  · rw [cutC, if_pos e]; simp; omega
  · obtain ⟨b, t, h1, h2⟩ := cutC_cons c x l e
    rw [h2]; rw [h1] at ih; simp at ih ⊢; omega
def splitP (s : ByteArray) (c : UInt8) : List ByteArray := splitS s ⟨#[c]⟩
theorem splitP_cut (s : ByteArray) (c : UInt8) : (splitP s c).map (·.data.toList) = cutC c s.data.toList := splitS_cut s c
theorem splitP_some (s : ByteArray) (c : UInt8) (h : s.size ≤ 65536) : strings_Split.f s (⟨#[c]⟩ : ByteArray) = some (splitP s c) := by
 unfold strings_Split.f
 rw [if_pos ⟨by omega, by show 1 ≤ 1; omega⟩]; rfl
theorem splitP_size (s : ByteArray) (c : UInt8) : ∀ x ∈ splitP s c, x.size ≤ s.size := by
 intro x hx
 have h1 : x.data.toList ∈ cutC c s.data.toList := by rw [← splitP_cut]; exact List.mem_map_of_mem hx
 exact cutC_len c _ _ h1
theorem splitP_many (s : ByteArray) (c : UInt8) : (splitP s c).length ≤ s.size + 1 := by
 have h := cutC_many c s.data.toList
 rw [← splitP_cut, List.length_map] at h
 exact h
theorem splitP_ne (s : ByteArray) (c : UInt8) : splitP s c ≠ [] := by
 intro h
 have := splitP_cut s c
 rw [h] at this
 exact cutC_ne c _ this.symm
end Go.Proofs.YtejgfblphgcgkaaGreatDoor.P
namespace Go.Proofs.YtejgfblphgcgkaaGreatDoor.P
set_option linter.unusedVariables false
set_option linter.unusedSimpArgs false
open Go.RowKit Go.Proofs.YtejgfblphgcgkaaGreatDoorW.PrintWords
theorem number_some (s : ByteArray) (h : s.size ≤ 65536) : filing_number.f s = some (numRead s) := by
 unfold filing_number.f; rw [if_pos (by omega)]
def levyB : List UInt8 := [108, 101, 118, 121]
def employerB : List UInt8 := [101, 109, 112, 108, 111, 121, 101, 114]
def taxB : List UInt8 := [116, 97, 120]
def lineW : List ByteArray → S60 × Bool
 | [a, b, c] => if a.toList = levyB then (⟨4, b, (numRead c).1⟩, (numRead c).2) else if a.toList = employerB then (⟨5, b, (numRead c).1⟩, (numRead c).2) else (⟨0, ⟨#[]⟩, 0⟩, false)
 | [a, b] => if a.toList = taxB then (⟨6, ⟨#[]⟩, (numRead b).1⟩, (numRead b).2) else (⟨0, ⟨#[]⟩, 0⟩, false)
 | _ => (⟨0, ⟨#[]⟩, 0⟩, false)
def lineP (x : ByteArray) : S60 × Bool := lineW (splitP x 32)
theorem line_ev (x : ByteArray) (hx : x.size ≤ 65536) : Ev (fun k => filing_line.f k x) ((lineP x).1.f0, (lineP x).1.f1, (lineP x).1.f2, (lineP x).2) := by
 unfold filing_line.f lineP
 refine Ev.bindc (splitP_some x 32 hx) ?_
 have hs : ∀ y ∈ splitP x 32, y.size ≤ 65536 := fun y hy => Nat.le_trans (splitP_size x 32 y hy) hx
 have hn := splitP_ne x 32
 generalize splitP x 32 = w at hs hn ⊢
 have n2 : wrap64 ((3 : Int) - 1) = 2 := by decide +kernel
 have n1 : wrap64 ((2 : Int) - 1) = 1 := by decide +kernel
 by_cases h3 : w.length = 3
 · obtain ⟨a, b, c, rfl⟩ : ∃ a b c, w = [a, b, c] := by
    match w, h3 with | [a, b, c], _ => exact ⟨a, b, c, rfl⟩
   have hc := hs c (by simp)
   have L3 : (([a, b, c] : List ByteArray).length : Int) = 3 := rfl
   simp only [L3, n2]
   have r0 : rdOf ByteArray.empty [a, b, c] 0 = a := rfl
   have r1 : rdOf ByteArray.empty [a, b, c] 1 = b := rfl
   have r2 : rdOf ByteArray.empty [a, b, c] 2 = c := rfl
   refine Ev.ifp trivial (Ev.ifp (by decide) ?_)
   rw [r0]
   simp only [lineW]
   by_cases e1 : a.toList = levyB
   · rw [if_pos e1]
     refine Ev.step (fun k => by simp only [filing_line.j0]; rfl) (Ev.ifp (by rw [beq_iff_eq]; exact e1) ?_)
     simp only [L3, n2, r2, r1]
     refine Ev.ifp (by decide) (Ev.ifp (by decide) (Ev.ifp (by decide) (Ev.bindc (number_some c hc) (Ev.now _))))
   · rw [if_neg e1]
     refine Ev.step (fun k => by simp only [filing_line.j0]; rfl) (Ev.ifn (by rw [beq_iff_eq]; exact e1) ?_)
     simp only [L3]
     refine Ev.ifp trivial (Ev.ifp (by decide) ?_)
     rw [r0]
     by_cases e2 : a.toList = employerB
     · rw [if_pos e2]
       refine Ev.step (fun k => by simp only [filing_line.j1]; rfl) (Ev.ifp (by rw [beq_iff_eq]; exact e2) ?_)
       simp only [L3, n2, r2, r1]
       refine Ev.ifp (by decide) (Ev.ifp (by decide) (Ev.ifp (by decide) (Ev.bindc (number_some c hc) (Ev.now _))))
     · rw [if_neg e2]
       refine Ev.step (fun k => by simp only [filing_line.j1]; rfl) (Ev.ifn (by rw [beq_iff_eq]; exact e2) ?_)
       simp only [L3]
       exact Ev.ifn (by decide) (Ev.now _)
 · have hj1 : Ev (fun k => filing_line.j1 k w false 0 (⟨#[]⟩ : ByteArray) 0) ((lineW w).1.f0, (lineW w).1.f1, (lineW w).1.f2, (lineW w).2) := by
    refine Ev.step (fun k => by simp only [filing_line.j1]; rfl) (Ev.ifn (by decide) ?_)
    by_cases h2 : w.length = 2
    · obtain ⟨a, b, rfl⟩ : ∃ a b, w = [a, b] := by
       match w, h2 with | [a, b], _ => exact ⟨a, b, rfl⟩
      have hb := hs b (by simp)
      have L2 : (([a, b] : List ByteArray).length : Int) = 2 := rfl
      have r0 : rdOf ByteArray.empty [a, b] 0 = a := rfl
      have r1 : rdOf ByteArray.empty [a, b] 1 = b := rfl
      simp only [L2, n1, r0, r1]
      refine Ev.ifp trivial (Ev.ifp (by decide) ?_)
      simp only [lineW]
      by_cases e : a.toList = taxB
      · rw [if_pos e]
        exact Ev.ifp e (Ev.ifp (by decide) (Ev.ifp (by decide) (Ev.bindc (number_some b hb) (Ev.now _))))
      · rw [if_neg e]
        exact Ev.ifn e (Ev.now _)
    · have : lineW w = (⟨0, ⟨#[]⟩, 0⟩, false) := by
       match w, h2, h3 with
       | [], _, _ => rfl
       | [_], _, _ => rfl
       | [_, _], h, _ => exact absurd rfl h
       | [_, _, _], _, h => exact absurd rfl h
       | _ :: _ :: _ :: _ :: _, _, _ => rfl
      rw [this]
      exact Ev.ifn (by omega) (Ev.now _)
   refine Ev.ifn (by omega) (Ev.step (fun k => by simp only [filing_line.j0]; rfl) (Ev.ifn (by decide) (Ev.ifn (by omega) hj1)))
def linesP : List ByteArray → List S60 → List S60 × Bool
 | [], acc => (acc, true)
 | x :: r, acc => if (lineP x).2 = true then linesP r (acc ++ [(lineP x).1]) else (acc, false)
theorem lines_ev (X : List ByteArray) (hX : ∀ y ∈ X, y.size ≤ 65536) (hn : X.length ≤ 65537) (p v : Int) : ∀ (m i : Nat) (acc : List S60), i + m = X.length → acc.length = i →
 Ev (fun k => filing_read.l0 k X (X.length : Int) (i : Int) p v acc) (p, v, (linesP (X.drop i) acc).1, (linesP (X.drop i) acc).2) := by
 intro m
 induction m with
 | zero =>
  intro i acc hi ha
  have e : X.drop i = [] := List.drop_eq_nil_of_le (by omega)
  rw [e]
  refine Ev.step (fun k => by simp only [filing_read.l0]; rfl) ?_
  exact Ev.ifn (by omega) (Ev.now _)
 | succ m ih =>
  intro i acc hi ha
  have hl : i < X.length := by omega
  have e1 : wrap64 ((i : Int) + 1) = ((i + 1 : Nat) : Int) := by unfold wrap64; omega
  have er : rdOf ByteArray.empty X (i : Int) = X[i] := by
   unfold rdOf
   rw [Int.toNat_natCast, List.getD_eq_getElem?_getD, List.getElem?_eq_getElem hl]; rfl
  rw [List.drop_eq_getElem_cons hl]
  refine Ev.step (fun k => by simp only [filing_read.l0]; rfl) (Ev.ifp (by omega) (Ev.ifp (by omega) (Ev.ifp (by omega) ?_)))
  rw [er]
  refine Ev.bind (line_ev X[i] (hX _ (List.getElem_mem hl))) ?_
  unfold linesP
  by_cases g : (lineP X[i]).2 = true
  · rw [if_pos g]
    refine Ev.ifp g (Ev.ifp (by omega) ?_)
    rw [e1]
    exact ih (i + 1) _ (by omega) (by simp; omega)
  · rw [if_neg g]
    exact Ev.ifn g (Ev.now _)
def returnB : List UInt8 := [114, 101, 116, 117, 114, 110]
def versionB : List UInt8 := [118, 101, 114, 115, 105, 111, 110]
def endsB : List UInt8 := [10, 101, 110, 100, 10]
def headW (t : List ByteArray) : List ByteArray → Int × Int × List S60 × Bool
 | [a, b, c, d] => if a.toList = returnB ∧ c.toList = versionB then
  if (numRead b).2 = true ∧ (numRead d).2 = true then ((numRead b).1, (numRead d).1, (linesP t []).1, (linesP t []).2) else ((numRead b).1, (numRead d).1, [], false)
  else (0, 0, [], false)
 | _ => (0, 0, [], false)
def bodyP (s : ByteArray) : Int × Int × List S60 × Bool := headW ((splitP s 10).drop 1) (splitP (rdOf ByteArray.empty (splitP s 10) 0) 32)
def endsP (s : ByteArray) : Bool := decide (5 ≤ s.size) && decide ((s.extract (s.size - 5) s.size).toList = endsB)
def readP (s : ByteArray) : Int × Int × List S60 × Bool := if endsP s = true then bodyP (s.extract 0 (s.size - 5)) else (0, 0, [], false)
theorem suffix_some (s : ByteArray) (h : s.size ≤ 65536) : strings_CutSuffix.f s (⟨#[10, 101, 110, 100, 10]⟩ : ByteArray) = some (if endsP s = true then (s.extract 0 (s.size - 5), true) else (s, false)) := by
 have z5 : ((⟨#[10, 101, 110, 100, 10]⟩ : ByteArray).size : Int) = 5 := rfl
 have l5 : (⟨#[10, 101, 110, 100, 10]⟩ : ByteArray).toList = endsB := by rw [Lib.toList_data]; rfl
 unfold strings_CutSuffix.f stringslite_CutSuffix.f stringslite_HasSuffix.f endsP
 rw [z5]
 by_cases h5 : 5 ≤ s.size
 · have e : wrap64 ((s.size : Int) - 5) = ((s.size - 5 : Nat) : Int) := by unfold wrap64; omega
   rw [if_pos (by omega), e, if_pos (by omega), if_pos (by omega), l5]
   simp only [Int.toNat_natCast, Option.bind_some]
   by_cases h6 : (s.extract (s.size - 5) s.size).toList = endsB
   · rw [h6]
     simp [h5]
   · have : ((s.extract (s.size - 5) s.size).toList == endsB) = false := by rw [beq_eq_false_iff_ne]; exact h6
     rw [this]
     simp [h5, h6]
 · rw [if_neg (by omega)]
   simp [h5]
theorem read_ev (s : ByteArray) (hs : s.size ≤ 65536) : Ev (fun k => filing_read.f k s) (readP s) := by
 unfold filing_read.f readP
 refine Ev.bindc (suffix_some s hs) ?_
 by_cases h : endsP s = true
 · rw [if_pos h, if_pos h]
   refine Ev.ifp rfl ?_
   have hb : (s.extract 0 (s.size - 5)).size ≤ 65536 := by rw [ByteArray.size_extract]; omega
   generalize s.extract 0 (s.size - 5) = b at hb ⊢
   unfold bodyP
   refine Ev.bindc (splitP_some b 10 hb) ?_
   have hs1 : ∀ y ∈ splitP b 10, y.size ≤ 65536 := fun y hy => Nat.le_trans (splitP_size b 10 y hy) hb
   have hm := splitP_many b 10
   have hn := splitP_ne b 10
   generalize splitP b 10 = t at hs1 hn hm ⊢
   have hl : 0 < t.length := by cases t with | nil => exact absurd rfl hn | cons _ _ => simp
   have hr : (rdOf ByteArray.empty t 0).size ≤ 65536 := by
    cases t with
    | nil => exact absurd rfl hn
    | cons x r => exact hs1 x List.mem_cons_self
   refine Ev.ifp (by omega) (Ev.bindc (splitP_some _ 32 hr) ?_)
   have hs2 : ∀ y ∈ splitP (rdOf ByteArray.empty t 0) 32, y.size ≤ 65536 := fun y hy => Nat.le_trans (splitP_size _ 32 y hy) hr
   generalize splitP (rdOf ByteArray.empty t 0) 32 = w at hs2 ⊢
   by_cases h4 : w.length = 4
   · obtain ⟨a, x, c, d, rfl⟩ : ∃ a b c d, w = [a, b, c, d] := by
      match w, h4 with | [a, b, c, d], _ => exact ⟨a, b, c, d, rfl⟩
     have hx := hs2 x (by simp)
     have hd := hs2 d (by simp)
     have L4 : (([a, x, c, d] : List ByteArray).length : Int) = 4 := rfl
     have r0 : rdOf ByteArray.empty [a, x, c, d] 0 = a := rfl
     have r1 : rdOf ByteArray.empty [a, x, c, d] 1 = x := rfl
     have r2 : rdOf ByteArray.empty [a, x, c, d] 2 = c := rfl
     have r3 : rdOf ByteArray.empty [a, x, c, d] 3 = d := rfl
     simp only [L4, r0, r2]
     refine Ev.ifp trivial (Ev.ifp (by decide) ?_)
     simp only [headW]
     by_cases e1 : a.toList = returnB
     · refine Ev.ifp e1 (Ev.ifp (by decide) ?_)
       by_cases e2 : c.toList = versionB
       · rw [if_pos ⟨e1, e2⟩]
         refine Ev.step (fun k => by simp only [filing_read.j0]; rfl) (Ev.ifn (by rw [show (c.toList != ([118, 101, 114, 115, 105, 111, 110] : List UInt8)) = false from by rw [bne_eq_false_iff_eq]; exact e2]; decide) ?_)
         simp only [L4, r1, r3]
         refine Ev.ifp (by decide) (Ev.bindc (number_some x hx) (Ev.ifp (by decide) (Ev.bindc (number_some d hd) ?_)))
         have hj : ∀ b : Bool, Ev (fun k => filing_read.j1 k t b (numRead x).1 (numRead d).1) (if b = true then ((numRead x).1, (numRead d).1, [], false) else ((numRead x).1, (numRead d).1, (linesP (t.drop 1) []).1, (linesP (t.drop 1) []).2)) := by
          intro b
          cases b with
          | true =>
           refine Ev.step (fun k => by simp only [filing_read.j1]; rfl) ?_
           exact Ev.ifp trivial (Ev.now _)
          | false =>
           refine Ev.step (fun k => by simp only [filing_read.j1]; rfl) ?_
           refine Ev.ifn (by decide) (Ev.ifp (by omega) (Ev.bindc (a := t.drop 1) rfl ?_))
           have := lines_ev (t.drop 1) (fun y hy => hs1 y (List.mem_of_mem_drop hy)) (by rw [List.length_drop]; omega) (numRead x).1 (numRead d).1 (t.drop 1).length 0 [] (by omega) rfl
           simpa using this
         by_cases g1 : (numRead x).2 = true
         · refine Ev.ifp g1 ((hj _).cast ?_)
           by_cases g2 : (numRead d).2 = true
           · rw [if_pos (show (numRead x).2 = true ∧ (numRead d).2 = true from ⟨g1, g2⟩), if_neg (by rw [g2]; decide)]
           · rw [if_neg (show ¬ ((numRead x).2 = true ∧ (numRead d).2 = true) from fun h => g2 h.2), if_pos (by simpa using g2)]
         · refine Ev.ifn g1 ((hj _).cast ?_)
           rw [if_neg (show ¬ ((numRead x).2 = true ∧ (numRead d).2 = true) from fun h => g1 h.1), if_pos rfl]
       · rw [if_neg (fun h => e2 h.2)]
         refine Ev.step (fun k => by simp only [filing_read.j0]; rfl) ?_
         exact Ev.ifp (by rw [bne_iff_ne]; exact e2) (Ev.now _)
     · rw [if_neg (fun h => e1 h.1)]
       refine Ev.ifn e1 (Ev.step (fun k => by simp only [filing_read.j0]; rfl) ?_)
       exact Ev.ifp trivial (Ev.now _)
   · have : headW (t.drop 1) w = (0, 0, [], false) := by
      match w, h4 with
      | [], _ => rfl
      | [_], _ => rfl
      | [_, _], _ => rfl
      | [_, _, _], _ => rfl
      | [_, _, _, _], h => exact absurd rfl h
      | _ :: _ :: _ :: _ :: _ :: _, _ => rfl
     rw [this]
     refine Ev.ifn (by omega) (Ev.step (fun k => by simp only [filing_read.j0]; rfl) ?_)
     exact Ev.ifp trivial (Ev.now _)
 · rw [if_neg h, if_neg h]
   exact Ev.ifn (fun h => by cases h) (Ev.now _)
end Go.Proofs.YtejgfblphgcgkaaGreatDoor.P
namespace Go.Proofs.YtejgfblphgcgkaaGreatDoor.P
set_option linter.unusedVariables false
set_option linter.unusedSimpArgs false
open Go.RowKit Go.Proofs.YtejgfblphgcgkaaGreatDoorW.PrintWords
theorem bt_list (s : ByteArray) (i : Int) : bt s i = ((s.data.toList.getD i.toNat 0).toNat : Int) := by
 unfold bt
 by_cases h : i.toNat < s.size
 · rw [dif_pos h]
   have h2 : i.toNat < s.data.toList.length := by rw [data_length]; exact h
   rw [List.getD_eq_getElem?_getD, List.getElem?_eq_getElem h2]
   rfl
 · rw [dif_neg h]
   have h2 : s.data.toList.length ≤ i.toNat := by rw [data_length]; omega
   rw [List.getD_eq_getElem?_getD, List.getElem?_eq_none h2]
   rfl
def charB (c : UInt8) : Bool := (decide (97 ≤ c.toNat) && decide (c.toNat ≤ 122)) || (decide (48 ≤ c.toNat) && decide (c.toNat ≤ 57)) || decide (c.toNat = 95)
def lowerB (c : UInt8) : Bool := decide (97 ≤ c.toNat) && decide (c.toNat ≤ 122)
def digitB (c : UInt8) : Bool := decide (48 ≤ c.toNat) && decide (c.toNat ≤ 57)
theorem letter_eq (c : UInt8) : token_letter.f (c.toNat : Int) = some (lowerB c) := by
 unfold token_letter.f lowerB
 by_cases h : 97 ≤ c.toNat
 · rw [if_pos (by omega)]; simp [h]; omega
 · rw [if_neg (by omega)]; simp [h]
theorem digit_eq (c : UInt8) : token_digit.f (c.toNat : Int) = some (digitB c) := by
 unfold token_digit.f digitB
 by_cases h : 48 ≤ c.toNat
 · rw [if_pos (by omega)]; simp [h]; omega
 · rw [if_neg (by omega)]; simp [h]
theorem charB_eq (c : UInt8) : charB c = (lowerB c || digitB c || decide (c.toNat = 95)) := rfl
theorem drop_all (L : List UInt8) (p : UInt8 → Bool) (i : Nat) (h : i < L.length) : (L.drop i).all p = (p (L.getD i 0) && (L.drop (i + 1)).all p) := by
 rw [List.drop_eq_getElem_cons h, List.all_cons, List.getD_eq_getElem?_getD, List.getElem?_eq_getElem h]; rfl
def nameB (L : List UInt8) : Bool := decide (0 < L.length) && decide (L.length ≤ 24) && lowerB (L.getD 0 0) && L.all charB && !decide (L ∈ kws)
theorem keyword_eq (s : ByteArray) (h : s.size ≤ 281474976710656) : token_IsKeyword.f s = some (decide (s.data.toList ∈ kws)) := by
 unfold token_IsKeyword.f; rw [if_pos h]
theorem name_loop (s : ByteArray) (hs : s.size ≤ 24) : ∀ (m i : Nat), i + m = s.size → Ev (fun k => token_IsName.l0 k s (s.size : Int) (i : Int)) ((s.data.toList.drop i).all charB && !decide (s.data.toList ∈ kws)) := by
 intro m
 induction m with
 | zero =>
  intro i hi
  refine Ev.step (fun k => by simp only [token_IsName.l0]; rfl) (Ev.ifn (by omega) ?_)
  have e : s.data.toList.drop i = [] := List.drop_eq_nil_of_le (by rw [data_length]; omega)
  rw [e]
  exact Ev.bindc (keyword_eq s (by omega)) (Ev.now _)
 | succ m ih =>
  intro i hi
  have hl : i < s.data.toList.length := by rw [data_length]; omega
  have e1 : wrap64 ((i : Int) + 1) = ((i + 1 : Nat) : Int) := by unfold wrap64; omega
  have hb : bt s (i : Int) = ((s.data.toList.getD i 0).toNat : Int) := bt_list s i
  have ih := ih (i + 1) (by omega)
  rw [drop_all _ _ _ hl]
  generalize s.data.toList.getD i 0 = c at *
  have hj : ∀ b : Bool, Ev (fun k => token_IsName.j2 k s (s.size : Int) (i : Int) b) (!b && ((s.data.toList.drop (i + 1)).all charB && !decide (s.data.toList ∈ kws))) := by
   intro b
   refine Ev.step (fun k => by simp only [token_IsName.j2]; rfl) ?_
   cases b with
   | true => exact Ev.ifp (by first | rfl | trivial) (Ev.now _)
   | false => refine Ev.ifn (by decide) ?_; rw [e1]; simpa using ih
  refine Ev.step (fun k => by simp only [token_IsName.l0]; rfl) (Ev.ifp (by omega) (Ev.ifp (by omega) (Ev.ifp (by omega) ?_)))
  rw [hb]
  refine Ev.bindc (letter_eq c) ?_
  by_cases h1 : lowerB c = true
  · refine Ev.ifp h1 ?_
    rw [charB_eq, h1]
    simpa using hj false
  · refine Ev.ifn h1 (Ev.bindc (digit_eq c) ?_)
    have h1' : lowerB c = false := by simpa using h1
    by_cases h2 : digitB c = true
    · refine Ev.ifp h2 ?_
      rw [charB_eq, h1', h2]
      simpa using hj false
    · refine Ev.ifn h2 ?_
      have h2' : digitB c = false := by simpa using h2
      rw [charB_eq, h1', h2']
      have := hj (((c.toNat : Int)) != 95)
      refine this.cast ?_
      by_cases h3 : c.toNat = 95
      · simp [h3]
      · have : ((c.toNat : Int) != 95) = true := by simp; omega
        simp [h3, this]
theorem token_IsName_ev (s : ByteArray) : Ev (fun k => token_IsName.f k s) (nameB s.data.toList) := by
 unfold token_IsName.f
 have ht : s.toList = s.data.toList := Lib.toList_data s
 by_cases h0 : s.toList = []
 · have : nameB s.data.toList = false := by rw [← ht, h0]; rfl
   rw [this]
   refine Ev.ifp h0 (Ev.step (fun k => by simp only [token_IsName.j0]; rfl) (Ev.ifp (by first | rfl | trivial) (Ev.now _)))
 · have hpos : 0 < s.size := by
    rw [← data_length, ← ht]
    exact List.length_pos_iff.2 h0
   by_cases h1 : (s.size : Int) > 24
   · have : nameB s.data.toList = false := by
      unfold nameB
      rw [data_length, decide_eq_false (show ¬ s.size ≤ 24 by omega)]; simp
     rw [this]
     refine Ev.ifn h0 (Ev.ifp h1 (Ev.step (fun k => by simp only [token_IsName.j0]; rfl) (Ev.ifp (by first | rfl | trivial) (Ev.now _))))
   · refine Ev.ifn h0 (Ev.ifn h1 (Ev.ifp (by omega) ?_))
     rw [bt_list]
     show Ev (fun n => (token_letter.f ((s.data.toList.getD 0 0).toNat : Int)).bind _) _
     refine Ev.bindc (letter_eq _) (Ev.step (fun k => by simp only [token_IsName.j0]; rfl) ?_)
     have hn : nameB s.data.toList = (lowerB (s.data.toList.getD 0 0) && (s.data.toList.all charB && !decide (s.data.toList ∈ kws))) := by
      unfold nameB
      rw [data_length, decide_eq_true hpos, decide_eq_true (show s.size ≤ 24 by omega)]; simp [Bool.and_assoc]
     rw [hn]
     by_cases h2 : lowerB (s.data.toList.getD 0 0) = true
     · refine Ev.ifn (by rw [h2]; decide) ?_
       have := name_loop s (by omega) s.size 0 (by omega)
       refine this.cast ?_
       rw [h2]; simp
     · refine Ev.ifp (by simpa using h2) ?_
       have h2' : lowerB (s.data.toList.getD 0 0) = false := by simpa using h2
       rw [h2']; exact Ev.now _
end Go.Proofs.YtejgfblphgcgkaaGreatDoor.P
namespace Go.Proofs.YtejgfblphgcgkaaGreatDoor.P
set_option linter.unusedVariables false
set_option linter.unusedSimpArgs false
open Go.RowKit Go.Proofs.YtejgfblphgcgkaaGreatDoorW.PrintWords
def totalB (n : Int) : Bool := decide (-1000000000000 ≤ n) && decide (n ≤ 1000000000000)
theorem total_eq (n : Int) : payslip_total.f n = some (totalB n) := by
 unfold payslip_total.f totalB
 by_cases h : -1000000000000 ≤ n
 · rw [if_pos h]; simp [h]
 · rw [if_neg h]; simp [h]
def bareB (k : Int) : Bool := decide (k = 6) || decide (k = 9) || decide (k = 10)
def formP (a : Int) (b : ByteArray) (c : Int) : Bool := decide (1 ≤ a) && decide (a ≤ 10) && (totalB c && (if bareB a = true then decide (b.data.toList = []) else nameB b.data.toList))
theorem coded_eq (a : Int) : payslip_coded.f a = some (!bareB a) := by
 unfold payslip_coded.f bareB
 by_cases h1 : a = 6
 · rw [if_pos h1]; simp [h1]
 · rw [if_neg h1]
   by_cases h2 : a = 9
   · rw [if_pos h2]; simp [h2]
   · rw [if_neg h2]; simp only [h1, h2, decide_false, Bool.false_or]; rfl
theorem form_tail (a : Int) (b : ByteArray) (c : Int) (t : Bool) : Ev (fun k => payslip_form.j0 k t a b c) (!t && (if bareB a = true then decide (b.data.toList = []) else nameB b.data.toList)) := by
 refine Ev.step (fun k => by simp only [payslip_form.j0]; rfl) ?_
 cases t with
 | true => exact Ev.ifp (by first | rfl | trivial) (Ev.now _)
 | false =>
  refine Ev.ifn (by decide) (Ev.bindc (coded_eq a) ?_)
  by_cases hb : bareB a = true
  · rw [hb, if_pos rfl]
    refine Ev.ifn (by decide) ?_
    rw [Lib.toList_data]
    refine (Ev.now _).cast (Bool.eq_iff_iff.2 ?_)
    simp only [Bool.not_false, Bool.true_and, if_true]
    rw [beq_iff_eq, decide_eq_true_iff]
  · have hb' : bareB a = false := by simpa using hb
    rw [hb']
    refine Ev.ifp (by first | rfl | trivial) (Ev.bind (token_IsName_ev b) ?_)
    simpa using Ev.now _
theorem payslip_form_ev (a : Int) (b : ByteArray) (c : Int) : Ev (fun k => payslip_form.f k a b c) (formP a b c) := by
 unfold payslip_form.f formP
 by_cases h1 : a < 1
 · rw [decide_eq_false (show ¬ 1 ≤ a by omega)]
   exact Ev.ifp h1 ((form_tail a b c true).cast (by simp))
 · by_cases h2 : a > 10
   · rw [decide_eq_false (show ¬ a ≤ 10 by omega)]
     exact Ev.ifn h1 (Ev.ifp h2 ((form_tail a b c true).cast (by simp)))
   · rw [decide_eq_true (show 1 ≤ a by omega), decide_eq_true (show a ≤ 10 by omega)]
     refine Ev.ifn h1 (Ev.ifn h2 (Ev.bindc (total_eq c) ?_))
     refine (form_tail a b c (!totalB c)).cast ?_
     simp
def FormP (a : Int) (b : ByteArray) (c : Int) : Bool := formP a b c && (c != 0)
theorem payslip_Form_ev (a : Int) (b : ByteArray) (c : Int) : Ev (fun k => payslip_Form.f k a b c) (FormP a b c) := by
 unfold payslip_Form.f FormP
 refine Ev.bind (payslip_form_ev a b c) ?_
 cases h : formP a b c with
 | true => exact Ev.ifp (by first | rfl | trivial) ((Ev.now _).cast (by simp))
 | false => exact Ev.ifn (by decide) ((Ev.now _).cast (by simp))
end Go.Proofs.YtejgfblphgcgkaaGreatDoor.P
