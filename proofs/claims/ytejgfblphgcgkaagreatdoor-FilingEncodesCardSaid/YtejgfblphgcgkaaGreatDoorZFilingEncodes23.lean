/- Texts for the law FilingEncodes (kept out of a larger one). -/
import Derived.Test.YtejgfblphgcgkaaGreatDoorZFilingEncodes3
import Derived.Test.YtejgfblphgcgkaaGreatDoorZFilingEncodes8
import Derived.Test.YtejgfblphgcgkaaGreatDoorZFilingEncodes9
import Derived.Test.YtejgfblphgcgkaaGreatDoorZFilingEncodes21
import Derived.Test.YtejgfblphgcgkaaGreatDoorZFilingEncodes19
import Derived.Test.YtejgfblphgcgkaaGreatDoorZFilingEncodes22
import Derived.WalkKit
import Derived.Test.YtejgfblphgcgkaaGreatDoorZFilingEncodes12
import Derived.Laws.Strings
import Derived.Lib.AtoiTie
import Derived.Lib.ItoaMem
import Derived.Lib.ItoaLen
import Derived.Lib.IndexLaws
import Derived.Test.YtejgfblphgcgkaaGreatDoorZFilingEncodes11
import Derived.Test.YtejgfblphgcgkaaGreatDoorZFilingEncodes13
import Derived.Test.YtejgfblphgcgkaaGreatDoorZFilingEncodes10
import Derived.Test.YtejgfblphgcgkaaGreatDoorZFilingEncodes18
import Derived.Test.YtejgfblphgcgkaaGreatDoorZFilingEncodes14
import Derived.Test.YtejgfblphgcgkaaGreatDoorZFilingEncodes20
import Derived.Test.YtejgfblphgcgkaaGreatDoorZFilingEncodes4
import Derived.Deep.Slices
import Derived.Deep.Fields
import Derived.ChangeSame
import Derived.ChangeArms
namespace Go.Proofs.YtejgfblphgcgkaaGreatDoor.P
set_option linter.unusedVariables false
set_option linter.unusedSimpArgs false
open Go.RowKit Go.Proofs.YtejgfblphgcgkaaGreatDoorW.PrintWords
theorem ltX_kind {y x : S60} (h : y.f0 < x.f0) : ltX y x = true := by
  unfold ltX cmpI orI
  rw [if_pos h, if_neg (by decide)]; rfl
theorem chk_snoc : ∀ (l : List S60) (o : Option S60) (x : S60), chkL o l = true → goodX x = true → (∀ y ∈ l, ltX y x = true) → (∀ y, o = some y → ltX y x = true) → chkL o (l ++ [x]) = true
  | [], o, x, _, hg, _, ho => by
    show chkL o [x] = true
    unfold chkL chkL
    rw [hg]
    cases o with
    | none => rfl
    | some y => show (true && ltX y x && true) = true; rw [ho y rfl]; rfl
  | z :: l, o, x, h, hg, hl, _ => by
    rw [List.cons_append]
    unfold chkL at h ⊢
    simp only [Bool.and_eq_true] at h ⊢
    exact ⟨h.1, chk_snoc l (some z) x h.2 hg (fun y hy => hl y (List.mem_cons_of_mem _ hy)) (fun y hy => by injection hy with hy; rw [← hy]; exact hl z List.mem_cons_self)⟩
theorem good_mk {k a : Int} {c : ByteArray} (hk : k = 4 ∨ k = 5 ∨ k = 6) (h0 : 1 ≤ a) (h1 : a ≤ 1000000) (h6 : k = 6 → c = ⟨#[]⟩) (hn : k ≠ 6 → nameB c.data.toList = true) : goodX ⟨k, c, a⟩ = true := by
  unfold goodX kindB FormP formP totalB
  simp only [Bool.and_eq_true, Bool.or_eq_true, decide_eq_true_eq, bne_iff_ne]
  refine ⟨by omega, ⟨⟨by omega, by omega⟩, ⟨by omega, by omega⟩, ?_⟩, by omega⟩
  by_cases e : k = 6
  · rw [e, h6 e, if_pos (by decide)]; rfl
  · have : bareB k = false := by unfold bareB; simp; omega
    rw [this, if_neg (by decide)]; exact hn e
def Upto (k : Int) (l : List S60) : Prop := chkL none l = true ∧ ∀ x ∈ l, x.f0 < k
theorem Upto.snoc {k a : Int} {c : ByteArray} {l : List S60} (h : Upto k l) (hg : goodX ⟨k, c, a⟩ = true) : Upto (k + 1) (l ++ [⟨k, c, a⟩]) :=
  ⟨chk_snoc l none _ h.1 hg (fun y hy => ltX_kind (h.2 y hy)) (fun y hy => by cases hy), fun x hx => by
    rcases List.mem_append.1 hx with hx | hx
    · have := h.2 x hx; omega
    · rw [List.mem_singleton.1 hx]; show k < k + 1; omega⟩
theorem Upto.more {k : Int} {l : List S60} (h : Upto k l) : Upto (k + 1) l := ⟨h.1, fun x hx => by have := h.2 x hx; omega⟩
theorem same_loop (l : List S60) (hl : l.length ≤ 1000000) : ∀ (m i : Nat), i + m = l.length → Ev (fun k => payrollref32_Same.l0 k l l (i : Int)) true := by
  intro m
  induction m with
  | zero =>
    intro i hi
    exact Ev.step (fun k => by simp only [payrollref32_Same.l0]; rfl) (Ev.ifn (by omega) (Ev.now _))
  | succ m ih =>
    intro i hi
    have e1 : wrap64 ((i : Int) + 1) = ((i + 1 : Nat) : Int) := by unfold wrap64; omega
    refine Ev.step (fun k => by simp only [payrollref32_Same.l0]; rfl) (Ev.ifp (by omega) (Ev.ifp (by omega) (Ev.ifp (by omega) (Ev.ifn (by simp) ?_))))
    rw [e1]
    exact ih (i + 1) (by omega)
theorem same_ev (l : List S60) (hl : l.length ≤ 1000000) : Ev (fun k => payrollref32_Same.f k l l) true := by
  unfold payrollref32_Same.f
  exact Ev.ifp rfl (same_loop l hl l.length 0 (by omega))
theorem same_nil (l : List S60) : Ev (fun k => payrollref32_Same.f k [] l) (decide (l = [])) := by
  cases l with
  | nil => exact (same_ev [] (by simp)).cast (by simp)
  | cons x l =>
    unfold payrollref32_Same.f
    exact Ev.ifn (by simp only [List.length_nil, List.length_cons]; omega) ((Ev.now _).cast (by simp))
theorem latest_nil (p : Int) : Ev (fun k => payrollref38_Latest.f k [] p) (0, 0, [], false) := by
  unfold payrollref38_Latest.f
  have e : wrap64 ((([] : List S25).length : Int) - 1) = -1 := by decide +kernel
  rw [e]
  refine Ev.step (fun k => by simp only [payrollref38_Latest.l0]; rfl) ?_
  exact Ev.ifn (by decide) (Ev.now _)
theorem next_nil (p : Int) (l : List S60) (hl : l.length ≤ 1000000) : Ev (fun k => payrollref38_Next.f k [] p l) (if l = [] then (0, 0, [], false) else (p, 1, l, true)) := by
  unfold payrollref38_Next.f
  refine Ev.bind (latest_nil p) (Ev.bind (same_nil l) ?_)
  by_cases h : l = []
  · rw [if_pos h]
    exact Ev.ifp (by simp [h]) (Ev.now _)
  · rw [if_neg h]
    refine Ev.ifn (by simp [h]) (Ev.bindc (a := ([] : List S60)) rfl (Ev.ifp (by simp only [List.length_nil]; omega) ((Ev.now _).cast ?_)))
    have : wrap64 ((0 : Int) + 1) = 1 := by decide +kernel
    rw [this, List.nil_append]
def OneR (r : List S25) : Prop := r = [] ∨ ∃ p l, r = [⟨p, 1, l⟩] ∧ chkL none l = true ∧ l.length ≤ 3
theorem returns_end (L : List Int) (r : List S25) (a : Int) : Ev (fun k => paygen_Deck_Returns.l0 k r 0 L a) (r, a) := by
  refine Ev.step (fun k => by simp only [paygen_Deck_Returns.l0]; rfl) ?_
  exact Ev.ifn (by decide) (Ev.now _)
theorem returns_kinds (L : List Int) : ∀ (m : Nat) (k : Int) (l : List S60) (a : Int), k + m = 7 → 4 ≤ k → Upto k l → l.length + m ≤ 3 → 0 ≤ a → a + 10 * m ≤ 1000 → ∃ r b, Ev (fun j => paygen_Deck_Returns.l1 j [] 1 l k L a) (r, b) ∧ OneR r ∧ 0 ≤ b ∧ b ≤ 2000 := by
  intro m
  induction m with
  | zero =>
    intro k l a hk _ hl hm ha hb
    obtain ⟨p, h1, h2, h3⟩ := deck_next L a 3 ⟨ha, by omega⟩ (by omega) (by omega)
    have e0 : wrap64 ((1 : Int) - 1) = 0 := by decide +kernel
    have hn := next_nil p l (by omega)
    by_cases h : l = []
    · rw [if_pos h] at hn
      refine ⟨[], a + 1, Ev.step (fun j => by simp only [paygen_Deck_Returns.l1]; rfl) (Ev.ifn (by omega) (Ev.bind h1 (Ev.bind hn ?_))), Or.inl rfl, by omega, by omega⟩
      refine Ev.ifn (by decide) ?_
      rw [e0]; exact returns_end L [] (a + 1)
    · rw [if_neg h] at hn
      refine ⟨[⟨p, 1, l⟩], a + 1, Ev.step (fun j => by simp only [paygen_Deck_Returns.l1]; rfl) (Ev.ifn (by omega) (Ev.bind h1 (Ev.bind hn ?_))), Or.inr ⟨p, l, rfl, hl.1, by omega⟩, by omega, by omega⟩
      refine Ev.ifp rfl (Ev.ifp (by decide) ?_)
      rw [e0]; exact returns_end L _ (a + 1)
  | succ m ih =>
    intro k l a hk h4 hl hm ha hb
    have ek : wrap64 (k + 1) = k + 1 := by unfold wrap64; omega
    obtain ⟨c, h1, h2, h3⟩ := deck_next L a 2 ⟨ha, by omega⟩ (by omega) (by omega)
    by_cases hc : c = 0
    · obtain ⟨r, b, g1, g2, g3⟩ := ih (k + 1) l (a + 1) (by omega) (by omega) hl.more (by omega) (by omega) (by omega)
      refine ⟨r, b, Ev.step (fun j => by simp only [paygen_Deck_Returns.l1]; rfl) (Ev.ifp (by omega) (Ev.bind h1 (Ev.ifp hc ?_))), g2, g3⟩
      rw [ek]; exact g1
    · obtain ⟨v, i1, i2, i3⟩ := deck_next L (a + 1) 1000 ⟨by omega, by omega⟩ (by omega) (by omega)
      have ev : wrap64 (1 + v) = 1 + v := by unfold wrap64; omega
      by_cases h6 : k = 6
      · obtain ⟨r, b, g1, g2, g3⟩ := ih (k + 1) (l ++ [⟨k, ⟨#[]⟩, 1 + v⟩]) (a + 1 + 1) (by omega) (by omega) (hl.snoc (good_mk (by omega) (by omega) (by omega) (fun _ => rfl) (fun h => absurd h6 h))) (by simp; omega) (by omega) (by omega)
        refine ⟨r, b, Ev.step (fun j => by simp only [paygen_Deck_Returns.l1]; rfl) (Ev.ifp (by omega) (Ev.bind h1 (Ev.ifn hc (Ev.bind i1 (Ev.ifp h6 ?_))))), g2, g3⟩
        rw [ek, ev]
        refine Ev.ifp (by omega) ?_
        exact g1
      · obtain ⟨y, y1, y2⟩ := deck_code L (a + 1 + 1) (by omega) (by omega)
        obtain ⟨r, b, g1, g2, g3⟩ := ih (k + 1) (l ++ [⟨k, y, 1 + v⟩]) (a + 1 + 1 + 1) (by omega) (by omega) (hl.snoc (good_mk (by omega) (by omega) (by omega) (fun h => absurd h h6) (fun _ => y2))) (by simp; omega) (by omega) (by omega)
        refine ⟨r, b, Ev.step (fun j => by simp only [paygen_Deck_Returns.l1]; rfl) (Ev.ifp (by omega) (Ev.bind h1 (Ev.ifn hc (Ev.bind i1 (Ev.ifn h6 (Ev.bind y1 ?_)))))), g2, g3⟩
        rw [ek, ev]
        refine Ev.ifp (by omega) ?_
        exact g1
theorem returns_one (L : List Int) (a : Int) (ha : 0 ≤ a) (hb : a ≤ 100) : ∃ r b, Ev (fun k => paygen_Deck_Returns.f k L a 1) (r, b) ∧ OneR r ∧ 0 ≤ b ∧ b ≤ 2000 := by
  unfold paygen_Deck_Returns.f
  have e : wrap64 ((1 : Int) + 1) = 2 := by decide +kernel
  rw [e]
  obtain ⟨c, h1, h2, h3⟩ := deck_next L a 2 ⟨ha, by omega⟩ (by omega) (by omega)
  by_cases hc : c = 0
  · subst hc
    exact ⟨[], a + 1, Ev.bind h1 (returns_end L [] (a + 1)), Or.inl rfl, by omega, by omega⟩
  · have : c = 1 := by omega
    subst this
    obtain ⟨r, b, g1, g2, g3⟩ := returns_kinds L 3 4 [] (a + 1) (by omega) (by omega) ⟨rfl, fun x hx => by cases hx⟩ (by simp) (by omega) (by omega)
    refine ⟨r, b, Ev.bind h1 ?_, g2, g3⟩
    refine Ev.step (fun j => by simp only [paygen_Deck_Returns.l0]; rfl) ?_
    exact Ev.ifp (by decide) g1
theorem drawn_ev (L : List Int) : ∃ p v l b, Ev (fun k => payrolllaw43_drawn.f k L 0) (p, v, l, b) ∧ validP p v l = true ∧ 0 ≤ b ∧ b ≤ 2000 := by
  unfold payrolllaw43_drawn.f
  obtain ⟨p, h1, h2, h3⟩ := deck_next L 0 3 ⟨by omega, by omega⟩ (by omega) (by omega)
  obtain ⟨v, i1, i2, i3⟩ := deck_next L (0 + 1) 4 ⟨by omega, by omega⟩ (by omega) (by omega)
  obtain ⟨r, b, g1, g2, g3, g4⟩ := returns_one L (0 + 1 + 1) (by omega) (by omega)
  have ev : wrap64 (1 + v) = 1 + v := by unfold wrap64; omega
  have hv : ∀ l : List S60, chkL none l = true → l.length ≤ 3 → validP p (1 + v) l = true := by
    intro l hl hn
    unfold validP
    rw [hl]
    simp; omega
  rcases g2 with rfl | ⟨q, l, rfl, hl, hn⟩
  · refine ⟨p, 1 + v, [], b, Ev.bind h1 (Ev.bind i1 (Ev.bind g1 ?_)), hv [] rfl (by simp), g3, g4⟩
    rw [ev]
    exact Ev.ifn (show ¬ ((0 : Int) > 0) by decide) (Ev.now _)
  · refine ⟨p, 1 + v, l, b, Ev.bind h1 (Ev.bind i1 (Ev.bind g1 ?_)), hv l hl hn, g3, g4⟩
    rw [ev]
    exact Ev.ifp (show (1 : Int) > 0 by decide) (Ev.ifp (show (0 : Int) < 1 by decide) (Ev.now _))
theorem awake_ev : Ev (fun k => payrolllaw43_awake.f k) true := by
  have v1 : validP 5 1 [oneX] = true := by decide +kernel
  have v2 : validP 5 2 [] = true := by decide +kernel
  have b1 : encB 5 1 [oneX] = oneB := by decide +kernel
  have b2 : encB 5 2 [] = twoB := by decide +kernel
  obtain ⟨K1, h1⟩ := encode_ev (p := 5) (v := 1) (l := [oneX]) (by simp)
  obtain ⟨K2, h2⟩ := encode_ev (p := 5) (v := 2) (l := []) (by simp)
  obtain ⟨K3, h3⟩ := decode_ev oneB
  obtain ⟨K4, h4⟩ := decode_ev twoB
  rw [if_pos v1, b1] at h1
  rw [if_pos v2, b2] at h2
  rw [← b1, decP_enc v1, b1] at h3
  rw [← b2, decP_enc v2, b2] at h4
  refine ⟨K1 + K2 + K3 + K4, fun k hk => ?_⟩
  unfold payrolllaw43_awake.f
  exact if_pos ⟨h1 k (by omega), h2 k (by omega), h3 k (by omega), h4 k (by omega)⟩
end Go.Proofs.YtejgfblphgcgkaaGreatDoor.P
namespace Go.Proofs.YtejgfblphgcgkaaGreatDoor.P
set_option linter.unusedVariables false
open Go.RowKit Go.Proofs.YtejgfblphgcgkaaGreatDoorW.PrintWords
theorem u64_in {n : Int} (h0 : 0 ≤ n) (h1 : n < 18446744073709551616) : IntKind.u64.wrap n = n := by rw [IntKind.wrap_u64]; omega
theorem ref1_size_eq {n : Int} (h : I64 n) : payrollref1_size.f n = some (n.natAbs : Int) := by
  unfold payrollref1_size.f I64 at *
  split
  · congr 1
    have h1 : wrap64 (n + 1) = n + 1 := wrap64_in (by unfold I64; omega)
    have h2 : wrap64 (-(n + 1)) = -(n + 1) := wrap64_in (by unfold I64; omega)
    rw [h1, h2, IntKind.wrap_u64, IntKind.wrap_u64]
    omega
  · congr 1
    rw [IntKind.wrap_u64]
    omega
theorem one_num (n : Int) (h0 : 0 ≤ n) (h1 : n < 256) : strOfNums [n] = bs [UInt8.ofNat n.toNat] := by
  unfold strOfNums
  rfl
def signL (n : Int) (l : List UInt8) : List UInt8 := if n < 0 then 45 :: l else l
theorem dec_step {m : Nat} (hm : m ≤ 9223372036854775808) : (some (([(IntKind.u64.wrap (48 + (Int.tmod (m : Int) 10))) % 256] : List Int) : List Int)) = some [((48 + m % 10 : Nat) : Int)] := by
  have e : Int.tmod (m : Int) 10 = ((m % 10 : Nat) : Int) := (Int.ofNat_tmod m 10).symm
  rw [e, u64_in (by omega) (by omega)]
  congr 2
  omega
theorem dec_done (n : Int) (l : List UInt8) (hl : l ≠ []) (hs : l.length ≤ 30) : Ev (fun k => payrollref1_Decimal.l0 k n (bs l) 0) (bs (signL n l)) := by
  refine Ev.step (fun k => by simp only [payrollref1_Decimal.l0]; rfl) ?_
  refine Ev.ifn (by decide) (Ev.ifn (by rw [str_nil, bs_list]; exact hl) ?_)
  by_cases h : n < 0
  · refine Ev.ifp h (Ev.ifp (by rw [bs_size]; omega) (Ev.cast (Ev.now _) ?_))
    unfold signL; rw [if_pos h]; exact bs_append [45] l
  · refine Ev.ifn h (Ev.cast (Ev.now _) ?_)
    unfold signL; rw [if_neg h]
theorem dec_loop (n : Int) : ∀ (m : Nat) (l : List UInt8), 0 < m → m ≤ 9223372036854775808 → (Lib.decDigits m).length + l.length ≤ 30 → Ev (fun k => payrollref1_Decimal.l0 k n (bs l) (m : Int)) (bs (signL n (Lib.decDigits m ++ l))) := by
  intro m
  induction m using Nat.strongRecOn with
  | _ m ih =>
    intro l h0 h1 hs
    refine Ev.step (fun k => by simp only [payrollref1_Decimal.l0]; rfl) ?_
    refine Ev.ifp (by omega) (Ev.bindc (dec_step h1) ?_)
    have es : strOfNums [((48 + m % 10 : Nat) : Int)] = bs [UInt8.ofNat (48 + m % 10)] := one_num _ (by omega) (by omega)
    have ed : IntKind.u64.wrap (Int.tdiv (m : Int) 10) = ((m / 10 : Nat) : Int) := by
      have : Int.tdiv (m : Int) 10 = ((m / 10 : Nat) : Int) := (Int.ofNat_tdiv m 10).symm
      rw [this, u64_in (by omega) (by omega)]
    rw [es, ed, bs_append]
    refine Ev.ifp (by rw [bs_size, bs_size]; simp; omega) ?_
    by_cases h : m < 10
    · have e0 : m / 10 = 0 := by omega
      have em : m % 10 = m := by omega
      rw [e0, em, Lib.decDigits_one h]
      refine dec_done n _ (by simp) ?_
      rw [Lib.decDigits_one h] at hs
      rw [List.length_append]; simpa using hs
    · have hd : Lib.decDigits m = Lib.decDigits (m / 10) ++ [UInt8.ofNat (48 + m % 10)] := by rw [Lib.decDigits, dif_neg h]
      rw [hd, List.append_assoc]
      rw [hd, List.length_append] at hs
      exact ih (m / 10) (by omega) _ (by omega) (by omega) (by rw [List.length_append]; omega)
theorem signL_itoa (n : Int) : signL n (Lib.decDigits n.natAbs) = Lib.itoa n := by
  unfold signL Lib.itoa
  split
  · rfl
  · congr 1; omega
theorem ref1_Decimal_ev {n : Int} (hn : I64 n) : Ev (fun k => payrollref1_Decimal.f k n) (bs (Lib.itoa n)) := by
  unfold payrollref1_Decimal.f
  refine Ev.bindc (ref1_size_eq hn) ?_
  rw [← signL_itoa]
  have hb : n.natAbs ≤ 9223372036854775808 := by unfold I64 at hn; omega
  have hl : (Lib.decDigits n.natAbs).length ≤ 20 := by rw [Lib.decDigits_length]; exact nDigits_le 19 _ (by omega)
  by_cases h : n.natAbs = 0
  · rw [h]
    refine Ev.step (fun k => by simp only [payrollref1_Decimal.l0]; rfl) ?_
    refine Ev.ifn (by decide) (Ev.ifp (by rw [str_nil]) (Ev.bindc (dec_step (m := 0) (by omega)) ?_))
    have es : strOfNums [((48 + 0 % 10 : Nat) : Int)] = bs [48] := one_num _ (by omega) (by omega)
    rw [es]
    refine Ev.ifp (by decide) ?_
    exact Ev.cast (dec_done n [48] (by simp) (by decide)) (by rw [Lib.decDigits_one (by omega)]; rfl)
  · have := dec_loop n n.natAbs [] (by omega) hb (by simp; omega)
    rw [List.append_nil] at this
    exact this
end Go.Proofs.YtejgfblphgcgkaaGreatDoor.P
namespace Go.Proofs.YtejgfblphgcgkaaGreatDoor.P
set_option linter.unusedVariables false
set_option linter.unusedSimpArgs false
open Go.RowKit Go.Proofs.YtejgfblphgcgkaaGreatDoorW.PrintWords
def lessX (y x : S60) : Bool := decide (y.f0 < x.f0) || (decide (y.f0 = x.f0) && Op.bytesLess y.f1.toList x.f1.toList)
theorem ltX_less (y x : S60) : ltX y x = lessX y x := by
  unfold ltX lessX orI cmpI cmpB
  by_cases h1 : y.f0 < x.f0
  · rw [if_pos h1, if_neg (by decide)]; simp [h1]
  · rw [if_neg h1]
    by_cases h2 : y.f0 > x.f0
    · rw [if_pos h2, if_neg (by decide)]
      have : ¬ y.f0 = x.f0 := by omega
      simp [h1, this]
    · rw [if_neg h2, if_pos rfl]
      have : y.f0 = x.f0 := by omega
      cases hb : Op.bytesLess y.f1.toList x.f1.toList with
      | true => simp [this]
      | false =>
        cases hc : Op.bytesLess x.f1.toList y.f1.toList with
        | true => simp [this]
        | false => simp [this]
theorem less_some (y x : S60) : payrollref32_Less.f y.f0 y.f1 y.f2 x.f0 x.f1 x.f2 = some (lessX y x) := by
  unfold payrollref32_Less.f lessX
  by_cases h1 : y.f0 < x.f0
  · rw [if_pos h1]; simp [h1]
  · rw [if_neg h1]
    by_cases h2 : y.f0 = x.f0
    · rw [if_pos h2]; simp [h2]
    · rw [if_neg h2]; simp [h1, h2]
def ordL : Option S60 → List S60 → Bool
  | _, [] => true
  | o, x :: r => FormP x.f0 x.f1 x.f2 && (match o with | none => true | some y => lessX y x) && ordL (some x) r
theorem ord_chk : ∀ (l : List S60) (o : Option S60), (ordL o l && l.all fun x => kindB x.f0) = chkL o l
  | [], o => rfl
  | x :: l, o => by
    have ih := ord_chk l (some x)
    unfold ordL chkL
    rw [← ih, List.all_cons]
    unfold goodX
    cases o with
    | none =>
      simp only [Bool.and_true]
      cases kindB x.f0 <;> cases FormP x.f0 x.f1 x.f2 <;> cases ordL (some x) l <;> simp
    | some y =>
      simp only [ltX_less]
      cases kindB x.f0 <;> cases FormP x.f0 x.f1 x.f2 <;> cases ordL (some x) l <;> cases lessX y x <;> simp
theorem ordered_loop (l : List S60) (hl : l.length ≤ 1000000) : ∀ (m i : Nat), i + m = l.length → Ev (fun k => payrollref34_Ordered.l0 k l (i : Int)) (ordL (prevO l i) (l.drop i)) := by
  intro m
  induction m with
  | zero =>
    intro i hi
    have e : l.drop i = [] := List.drop_eq_nil_of_le (by omega)
    rw [e]
    exact Ev.step (fun k => by simp only [payrollref34_Ordered.l0]; rfl) (Ev.ifn (by omega) (Ev.now _))
  | succ m ih =>
    intro i hi
    have hlt : i < l.length := by omega
    have e1 : wrap64 ((i : Int) + 1) = ((i + 1 : Nat) : Int) := by unfold wrap64; omega
    have er : rd_T60 l (i : Int) = l[i] := by
      unfold rd_T60
      rw [Int.toNat_natCast, List.getD_eq_getElem?_getD, List.getElem?_eq_getElem hlt]; rfl
    have ih := ih (i + 1) (by omega)
    have ep : prevO l (i + 1) = some l[i] := by unfold prevO; rw [if_neg (by omega)]; show some (rd_T60 l (i : Int)) = _; rw [er]
    rw [ep] at ih
    rw [List.drop_eq_getElem_cons hlt]
    have hj : ∀ b : Bool, Ev (fun k => payrollref34_Ordered.j1 k l (i : Int) b) (!b && ordL (some l[i]) (l.drop (i + 1))) := by
      intro b
      refine Ev.step (fun k => by simp only [payrollref34_Ordered.j1]; rfl) ?_
      cases b with
      | true => exact Ev.ifp (by trivial) (Ev.now _)
      | false =>
        refine Ev.ifn (by decide) ?_
        rw [e1]; exact ih
    refine Ev.step (fun k => by simp only [payrollref34_Ordered.l0]; rfl) (Ev.ifp (by omega) (Ev.ifp (by omega) ?_))
    rw [er]
    refine Ev.bind (ref34_Form_ev _ _ _) ?_
    unfold ordL
    cases hf : FormP l[i].f0 l[i].f1 l[i].f2 with
    | false => exact Ev.ifn (by decide) ((hj true).cast (by simp))
    | true =>
      refine Ev.ifp (by trivial) ?_
      by_cases h0 : i = 0
      · refine Ev.ifn (by omega) ((hj false).cast ?_)
        have : prevO l i = none := by unfold prevO; rw [if_pos h0]
        rw [this]; simp
      · have e2 : wrap64 ((i : Int) - 1) = ((i - 1 : Nat) : Int) := by unfold wrap64; omega
        have ho : prevO l i = some (rd_T60 l ((i - 1 : Nat) : Int)) := by unfold prevO; rw [if_neg h0]
        refine Ev.ifp (by omega) ?_
        rw [e2]
        refine Ev.ifp (by omega) (Ev.ifp (by omega) (Ev.bindc (less_some _ _) ((hj _).cast ?_)))
        rw [ho]; simp
theorem payrollref34_Ordered_ev (l : List S60) (hl : l.length ≤ 1000000) : Ev (fun k => payrollref34_Ordered.f k l) (ordL none l) := by
  unfold payrollref34_Ordered.f
  exact ordered_loop l hl l.length 0 (by omega)
theorem filed_some (k : Int) : payrollref38_Filed.f k = some (kindB k) := by
  unfold payrollref38_Filed.f kindB
  by_cases h4 : k = 4
  · rw [if_pos h4]; simp [h4]
  · rw [if_neg h4]
    by_cases h5 : k = 5
    · rw [if_pos h5]; simp [h5]
    · rw [if_neg h5]
      have : (k == 6) = decide (k = 6) := by by_cases h : k = 6 <;> simp [h]
      simp [h4, h5, this]
theorem filed_loop (l : List S60) (hl : l.length ≤ 1000000) : ∀ (m i : Nat), i + m = l.length → Ev (fun k => payrollref38_Form.l0 k l (i : Int)) ((l.drop i).all fun x => kindB x.f0) := by
  intro m
  induction m with
  | zero =>
    intro i hi
    have e : l.drop i = [] := List.drop_eq_nil_of_le (by omega)
    rw [e]
    exact Ev.step (fun k => by simp only [payrollref38_Form.l0]; rfl) (Ev.ifn (by omega) (Ev.now _))
  | succ m ih =>
    intro i hi
    have hlt : i < l.length := by omega
    have e1 : wrap64 ((i : Int) + 1) = ((i + 1 : Nat) : Int) := by unfold wrap64; omega
    have er : rd_T60 l (i : Int) = l[i] := by
      unfold rd_T60
      rw [Int.toNat_natCast, List.getD_eq_getElem?_getD, List.getElem?_eq_getElem hlt]; rfl
    have ih := ih (i + 1) (by omega)
    rw [List.drop_eq_getElem_cons hlt, List.all_cons]
    refine Ev.step (fun k => by simp only [payrollref38_Form.l0]; rfl) (Ev.ifp (by omega) (Ev.ifp (by omega) ?_))
    rw [er]
    refine Ev.bindc (filed_some _) ?_
    cases h : kindB l[i].f0 with
    | true => refine Ev.ifp (by trivial) ?_; rw [e1, Bool.true_and]; exact ih
    | false => exact Ev.ifn (by decide) (Ev.now _)
theorem refForm_ev (l : List S60) (hl : l.length ≤ 1000000) : Ev (fun k => payrollref38_Form.f k l) (chkL none l) := by
  unfold payrollref38_Form.f
  refine Ev.bind (payrollref34_Ordered_ev l hl) ?_
  rw [← ord_chk]
  cases h : ordL none l with
  | true => exact Ev.ifp (by trivial) ((filed_loop l hl l.length 0 (by omega)).cast (by simp))
  | false => exact Ev.ifn (by decide) (Ev.now _)
theorem refValid_ev (p v : Int) (l : List S60) (hl : l.length ≤ 1000000) : Ev (fun k => payrollref43_Valid.f k p v l) (validP p v l) := by
  unfold payrollref43_Valid.f validP
  by_cases h1 : 0 ≤ p
  · rw [decide_eq_true h1]
    refine Ev.ifp (by omega) ?_
    by_cases h2 : p ≤ 84005
    · rw [decide_eq_true h2]
      refine Ev.ifp h2 ?_
      by_cases h3 : 1 ≤ v
      · rw [decide_eq_true h3]
        refine Ev.ifp (by omega) ?_
        by_cases h4 : v ≤ 65536
        · rw [decide_eq_true h4]
          refine Ev.ifp h4 ?_
          by_cases h5 : l.length ≤ 256
          · rw [decide_eq_true h5]
            exact Ev.ifp (by omega) (Ev.bind (refForm_ev l hl) ((Ev.now _).cast (by simp)))
          · rw [decide_eq_false h5]
            exact Ev.ifn (by omega) ((Ev.now _).cast (by simp))
        · rw [decide_eq_false h4]
          exact Ev.ifn h4 ((Ev.now _).cast (by simp))
      · rw [decide_eq_false h3]
        exact Ev.ifn (by omega) ((Ev.now _).cast (by simp))
    · rw [decide_eq_false h2]
      exact Ev.ifn h2 ((Ev.now _).cast (by simp))
  · rw [decide_eq_false h1]
    exact Ev.ifn (by omega) ((Ev.now _).cast (by simp))
theorem decimal_ev {n : Int} (h0 : -9223372036854775808 ≤ n) (h1 : n ≤ 9223372036854775807) : Ev (fun k => payrollref1_Decimal.f k n) (itoaB n) := ref1_Decimal_ev ⟨h0, h1⟩
theorem word_ref {x : S60} (h : goodX x = true) : payrollref34_Word.f x.f0 = some (wordB x.f0) := by
  rcases (goodX_form h).1 with e | e | e <;> (rw [e]; decide +kernel)
theorem bytes_size (b : ByteArray) : b.size = b.data.toList.length := rfl
theorem text_ev {x : S60} (h : goodX x = true) : Ev (fun k => payrollref34_Text.f k x.f0 x.f1 x.f2) ⟨(lineL x).toArray⟩ := by
  obtain ⟨hw, -, -, h8⟩ := word_list h
  obtain ⟨hk, b1, b2, h6, hn⟩ := goodX_form h
  have hd := decimal_ev (n := x.f2) (by omega) (by omega)
  have hi : (itoaB x.f2).size ≤ 14 := by rw [bytes_size, itoaB_list]; exact itoa_len b1 b2
  have hws : (wordB x.f0).size ≤ 8 := h8
  have z1 : (⟨#[32]⟩ : ByteArray).size = 1 := rfl
  have hL := line_split x
  unfold payrollref34_Text.f
  refine Ev.bindc (bare_eq _) ?_
  by_cases e : x.f0 = 6
  · have hb : bareB x.f0 = true := by rw [e]; decide
    refine Ev.ifp hb (Ev.bindc (word_ref h) (Ev.ifp (by omega) (Ev.bind hd (Ev.ifp (by rw [ByteArray.size_append, z1]; omega) (Ev.ifp (by rw [ByteArray.size_append, ByteArray.size_append, z1]; omega) ((Ev.now _).cast ?_))))))
    apply ByteArray.ext
    apply Array.toList_inj.1
    rw [hL]
    unfold line0
    rw [h6 e, code_nil]
    simp [ByteArray.data_append, itoaB_list]
  · have hb : bareB x.f0 = false := by unfold bareB; simp; omega
    have hnm := name_sep (hn e)
    have hcs : x.f1.size ≤ 24 := hnm.2.2.2
    refine Ev.ifn (by rw [hb]; decide) (Ev.bindc (word_ref h) (Ev.ifp (by omega) (Ev.ifp (by rw [ByteArray.size_append, z1]; omega) (Ev.ifp (by rw [ByteArray.size_append, ByteArray.size_append, z1]; omega) (Ev.bind hd (Ev.ifp (by rw [ByteArray.size_append, ByteArray.size_append, ByteArray.size_append, z1]; omega) (Ev.ifp (by rw [ByteArray.size_append, ByteArray.size_append, ByteArray.size_append, ByteArray.size_append, z1]; omega) ((Ev.now _).cast ?_))))))))
    apply ByteArray.ext
    apply Array.toList_inj.1
    rw [hL]
    unfold line0
    rw [code_some hnm.2.2.1]
    simp [ByteArray.data_append, itoaB_list]
theorem refEnc_loop (p v : Int) (l : List S60) (hl : l.length ≤ 256) (hg : ∀ x ∈ l, goodX x = true) (A : List UInt8) (hA : A.length ≤ 100) : ∀ (m i : Nat), i + m = l.length →
    Ev (fun k => payrollref43_Encode.l0 k ⟨(A ++ linesL (l.take i)).toArray⟩ (i : Int) p v l) (⟨(A ++ linesL l ++ [101, 110, 100, 10]).toArray⟩, 0) := by
  have hlen : ∀ i, (A ++ linesL (l.take i)).length ≤ 20000 := by
    intro i
    have h1 := linesL_le l i
    have h2 : (linesL l).length ≤ 49 * l.length := by
      unfold linesL
      rw [show lineL = (fun x => line0 x ++ [10]) from funext line_split]
      clear h1 hA
      induction l with
      | nil => simp
      | cons x l ih =>
        have h1 := line_len (hg x List.mem_cons_self)
        have h2 := ih (by simp at hl; omega) (fun y hy => hg y (List.mem_cons_of_mem _ hy))
        rw [List.flatMap_cons, List.length_append, List.length_append, List.length_singleton, List.length_cons]
        omega
    rw [List.length_append]
    have h49 : 49 * l.length ≤ 49 * 256 := Nat.mul_le_mul_left _ hl
    omega
  intro m
  induction m with
  | zero =>
    intro i hi
    have : i = l.length := by omega
    subst this
    have hs := hlen l.length
    rw [List.take_length] at hs ⊢
    have e2 : (⟨(A ++ linesL l).toArray⟩ : ByteArray).size = (A ++ linesL l).length := by simp [ByteArray.size]
    refine Ev.step (fun k => by simp only [payrollref43_Encode.l0]; rfl) (Ev.ifn (by omega) (Ev.ifp (by rw [e2]; omega) ((Ev.now _).cast ?_)))
    exact congrArg (fun z => (z, (0 : Int))) (bs_append (A ++ linesL l) [101, 110, 100, 10])
  | succ m ih =>
    intro i hi
    have hlt : i < l.length := by omega
    have e1 : wrap64 ((i : Int) + 1) = ((i + 1 : Nat) : Int) := by unfold wrap64; omega
    have er : rd_T60 l (i : Int) = l[i] := by
      unfold rd_T60
      rw [Int.toNat_natCast, List.getD_eq_getElem?_getD, List.getElem?_eq_getElem hlt]; rfl
    have hgi := hg l[i] (List.getElem_mem hlt)
    have hs := hlen i
    have h48 := line_len hgi
    have hll : (lineL l[i]).length ≤ 49 := by rw [line_split, List.length_append, List.length_singleton]; omega
    have e2 : (⟨(A ++ linesL (l.take i)).toArray⟩ : ByteArray).size = (A ++ linesL (l.take i)).length := by simp [ByteArray.size]
    have e3 : (⟨(lineL l[i]).toArray⟩ : ByteArray).size = (lineL l[i]).length := by simp [ByteArray.size]
    refine Ev.step (fun k => by simp only [payrollref43_Encode.l0]; rfl) (Ev.ifp (by omega) (Ev.ifp (by omega) ?_))
    rw [er]
    refine Ev.bind (text_ev hgi) (Ev.ifp (by rw [e2, e3]; omega) ?_)
    have := ih (i + 1) (by omega)
    rw [linesL_take l i hlt, er, ← List.append_assoc] at this
    rw [e1, show (⟨(A ++ linesL (l.take i)).toArray⟩ : ByteArray) ++ ⟨(lineL l[i]).toArray⟩ = ⟨(A ++ linesL (l.take i) ++ lineL l[i]).toArray⟩ from bs_append _ _]
    exact this
theorem refEncode_ev {p v : Int} {l : List S60} (hl : l.length ≤ 1000000) : Ev (fun k => payrollref43_Encode.f k p v l) (if validP p v l = true then (encB p v l, 0) else (⟨#[]⟩, 1)) := by
  unfold payrollref43_Encode.f
  refine Ev.bind (refValid_ev p v l hl) ?_
  by_cases h : validP p v l = true
  · obtain ⟨h1, h2, h3, h4, h5, h6⟩ := valid_parts h
    have d1 := decimal_ev (n := p) (by omega) (by omega)
    have d2 := decimal_ev (n := v) (by omega) (by omega)
    have i1 : (itoaB p).size ≤ 14 := by rw [bytes_size, itoaB_list]; exact itoa_len (by omega) (by omega)
    have i2 : (itoaB v).size ≤ 14 := by rw [bytes_size, itoaB_list]; exact itoa_len (by omega) (by omega)
    have z7 : (⟨#[114, 101, 116, 117, 114, 110, 32]⟩ : ByteArray).size = 7 := rfl
    have z9 : (⟨#[32, 118, 101, 114, 115, 105, 111, 110, 32]⟩ : ByteArray).size = 9 := rfl
    have hh : (⟨#[114, 101, 116, 117, 114, 110, 32]⟩ : ByteArray) ++ itoaB p ++ ⟨#[32, 118, 101, 114, 115, 105, 111, 110, 32]⟩ ++ itoaB v ++ ⟨#[10]⟩ = ⟨((hdrB p v).data.toList ++ linesL (l.take 0)).toArray⟩ := by
      apply ByteArray.ext
      apply Array.toList_inj.1
      unfold hdrB linesL
      simp
    have hA : (hdrB p v).data.toList.length ≤ 100 := by
      show (hdrB p v).size ≤ 100
      rw [hdr_size]; omega
    refine Ev.ifp h (Ev.bind d1 (Ev.ifp (by omega) (Ev.ifp (by rw [ByteArray.size_append, z7]; omega) (Ev.bind d2 (Ev.ifp (by rw [ByteArray.size_append, ByteArray.size_append, z7, z9]; omega) (Ev.ifp (by rw [ByteArray.size_append, ByteArray.size_append, ByteArray.size_append, z7, z9]; omega) ?_))))))
    rw [hh]
    refine (refEnc_loop p v l h5 h6 _ hA l.length 0 (by omega)).cast ?_
    rw [if_pos h]
    first | (unfold encB encL endB; done) | (unfold encB encL endB; rfl) | rfl
  · exact Ev.ifn h ((Ev.now _).cast (by rw [if_neg h]))
end Go.Proofs.YtejgfblphgcgkaaGreatDoor.P
namespace Go.Proofs.YtejgfblphgcgkaaGreatDoor.P
set_option linter.unusedVariables false
set_option linter.unusedSimpArgs false
open Go.RowKit Go.Proofs.YtejgfblphgcgkaaGreatDoorW.PrintWords
theorem enc_both (p v : Int) (l : List S60) (hl : l.length ≤ 1000000) (q u : Int) (r : List S60) (hr : r.length ≤ 1000000) : Ev (fun k => payrolllaw43_FilingEncodes.j0 k p v l q u r) true := by
  refine Ev.step (fun k => by simp only [payrolllaw43_FilingEncodes.j0]; rfl) ?_
  refine Ev.bind (encode_ev hr) (Ev.bind (refEncode_ev hr) (Ev.bind (encode_ev hl) (Ev.bind (refEncode_ev hl) (Ev.bind (valid_ev q u r hr) (Ev.bind (refValid_ev q u r hr) ?_)))))
  refine Ev.ifp (by simp) (Ev.bind (valid_ev p v l hl) (Ev.bind (refValid_ev p v l hl) ?_))
  exact Ev.ifp (by simp) (Ev.ifp rfl (Ev.ifp rfl (Ev.ifp rfl (Ev.ifp rfl (Ev.bind awake_ev (Ev.now _))))))
theorem short_loop (l : List S60) (hl : l.length ≤ 1000) : ∀ (m i : Nat), i + m = l.length → ∃ b, Ev (fun k => paygen_ShortLines.l0 k l (i : Int)) b := by
  intro m
  induction m with
  | zero =>
    intro i hi
    exact ⟨true, Ev.step (fun k => by simp only [paygen_ShortLines.l0]; rfl) (Ev.ifn (by omega) (Ev.now _))⟩
  | succ m ih =>
    intro i hi
    have e1 : wrap64 ((i : Int) + 1) = ((i + 1 : Nat) : Int) := by unfold wrap64; omega
    obtain ⟨b, hb⟩ := ih (i + 1) (by omega)
    by_cases h : ((rd_T60 l (i : Int)).f1.size : Int) > 60
    · exact ⟨false, Ev.step (fun k => by simp only [paygen_ShortLines.l0]; rfl) (Ev.ifp (by omega) (Ev.ifp (by omega) (Ev.ifp h (Ev.now _))))⟩
    · refine ⟨b, Ev.step (fun k => by simp only [paygen_ShortLines.l0]; rfl) (Ev.ifp (by omega) (Ev.ifp (by omega) (Ev.ifn h ?_)))⟩
      rw [e1]; exact hb
theorem short_ev (l : List S60) : ∃ b, Ev (fun k => paygen_ShortLines.f k l) b ∧ (b = true → l.length ≤ 60) := by
  unfold paygen_ShortLines.f
  by_cases h : (l.length : Int) > 60
  · exact ⟨false, Ev.ifp h (Ev.now _), fun h => by cases h⟩
  · obtain ⟨b, hb⟩ := short_loop l (by omega) l.length 0 (by omega)
    exact ⟨b, Ev.ifn h hb, fun _ => by omega⟩
theorem FilingEncodes (l0 : List Int) (a1_0 a1_1 : Int) (l1_2 : List S60) (a2 a3 : Int) : ∃ k, payrolllaw43_FilingEncodes.f k l0 a1_0 a1_1 l1_2 a2 a3 = some true := by
  refine Ev.rounds ?_
  unfold payrolllaw43_FilingEncodes.f
  obtain ⟨b, hb, hs⟩ := short_ev l1_2
  refine Ev.bind hb ?_
  cases b with
  | false => exact Ev.ifn (by decide) (Ev.bind awake_ev (Ev.now _))
  | true =>
    refine Ev.ifp (by trivial) ?_
    have hl := hs rfl
    obtain ⟨p, v, l, at_, d1, d2, d3, d4⟩ := drawn_ev l0
    obtain ⟨v1, v2, v3, v4, v5, v6⟩ := valid_parts d2
    obtain ⟨m, m1, m2, m3⟩ := deck_mod a3 4 (by omega) (by omega)
    obtain ⟨n, n1, n2, n3⟩ := deck_mod a2 4 (by omega) (by omega)
    refine Ev.bindc (a := (l0, 0)) rfl (Ev.bind d1 (Ev.bindc m1 (Ev.bindc n1 ?_)))
    have fin : ∀ (q u : Int) (r : List S60), r.length ≤ 1000 → Ev (fun k => payrolllaw43_FilingEncodes.j0 k a1_0 a1_1 l1_2 q u r) true := fun q u r hr => enc_both _ _ _ (by omega) _ _ _ (by omega)
    by_cases c0 : n = 0
    · exact Ev.ifp c0 (Ev.bindc rfl (Ev.ifp m2 (Ev.ifp (show m < ((4 : Nat) : Int) by omega) (fin _ _ _ (by show l.length ≤ 1000; omega)))))
    · refine Ev.ifn c0 ?_
      by_cases c1 : n = 1
      · exact Ev.ifp c1 (Ev.bindc rfl (Ev.ifp m2 (Ev.ifp (show m < ((4 : Nat) : Int) by omega) (fin _ _ _ (by show l.length ≤ 1000; omega)))))
      · refine Ev.ifn c1 ?_
        by_cases c2 : n = 2
        · obtain ⟨C, p', g1, g2, g3, g4, g5⟩ := deck_lines l0 at_ 3 d3 (by omega) (by omega) (by omega)
          exact Ev.ifp c2 (Ev.bind g1 (fin _ _ _ (by show C.length ≤ 1000; omega)))
        · exact Ev.ifn c2 (fin _ _ _ (by show l.length ≤ 1000; omega))
end Go.Proofs.YtejgfblphgcgkaaGreatDoor.P
namespace Go.Proofs.YtejgfblphgcgkaaGreatDoor.P
set_option linter.unusedVariables false
open Go Go.RowKit Go.ChangeShapes Go.WideShapes Go.Deep Go.Proofs.YtejgfblphgcgkaaGreatDoorW.PrintWords
theorem choose_list {α : Type} {Q : Nat → α → Prop} : ∀ n : Nat, (∀ i, i < n → ∃ x, Q i x) → ∃ l : List α, l.length = n ∧ ∀ i x, l[i]? = some x → Q i x
  | 0, _ => ⟨[], rfl, fun i x h => by simp at h⟩
  | n + 1, h => by
    obtain ⟨l, hl, hq⟩ := choose_list n (fun i hi => h i (by omega))
    obtain ⟨x, hx⟩ := h n (by omega)
    refine ⟨l ++ [x], by rw [List.length_append, hl]; rfl, fun i y hy => ?_⟩
    rcases Nat.lt_or_ge i l.length with c | c
    · rw [List.getElem?_append_left c] at hy; exact hq i y hy
    · have : i = l.length := by
        have := (List.getElem?_eq_some_iff.1 hy).1
        rw [List.length_append, List.length_singleton] at this; omega
      subst this
      have e : x = y := by simpa using hy
      subst e
      rw [hl]; exact hx
variable {H : Type} {enc : TypeId × Value → H} {P : Program} {w : World} {base : Nat} {spare : Nat → Bool} {held : Bool}
theorem open_rows {α : Type} (d : Kd α) {t e : TypeId} {fs : Array Field} {A : Option Addr} {len cap : Nat} {x : DataW H} {p : List MemPlace} (ht : P.underlying t = some (.slice e)) (he : P.underlying e = some (.struct fs))
    (hone : oneCellFields P fs = true) (hC : P.cellsOf e = fs.size) (hsz : d.sz = fs.size) (h : DataW.Trod enc P w base spare held t (.slice A len cap) x p)
    (mk : ∀ vs : List Value, vs.length = fs.size → (∀ (j : Nat) (f : Field), fs[j]? = some f → ∃ (n : Nat) (v : Value) (y : DataW H × List MemPlace), vs[j]? = some v ∧ DataW.trod enc P w base spare held n f.type [v] = some y) → ∃ a : α, d.K w a vs) :
    ∃ l : List α, l.length = len ∧ d.C w A l.length l ∧ l.length ≤ cap := by
  obtain ⟨fuel, hf⟩ := h
  rcases open_slice ht hf with ⟨hcs, _⟩ | ⟨a, len', cap', m, n, D, Pl, hcs, hb, hl, hm, hmm, hx, hi⟩
  · simp [Value.cells] at hcs
    obtain ⟨rfl, rfl, rfl⟩ := hcs
    exact ⟨[], rfl, Kd.C_nil d w, Nat.le_refl _⟩
  · simp [Value.cells] at hcs
    obtain ⟨rfl, rfl, rfl⟩ := hcs
    have hlm : len ≤ m := by rw [hmm]; split <;> omega
    have key : ∀ i, i < len → ∃ z : α, ∃ vs : List Value, vs.length = fs.size ∧ d.K w z vs ∧ ∀ (j : Nat) (u : Value), vs[j]? = some u → w.cell? (a.add (i * fs.size + j)) = some u := by
      intro i him
      obtain ⟨cs', hc, ht'⟩ := hi i (by omega)
      rw [hC] at hc
      obtain ⟨ys, n', hn', hy, hlen, hyl, hf2⟩ := DataW.trod_struct he ht'
      obtain ⟨_, hcl, hat⟩ := World.cells?_some hc
      obtain ⟨z, hz⟩ := mk cs' hcl (fun j f hj => by
        obtain ⟨ho, hk⟩ := hone_of hone j f hj
        have hjl : j < fs.size := (Array.getElem?_eq_some_iff.1 hj).1
        have hv : cs'[j]? = some (cs'[j]'(by omega)) := List.getElem?_eq_getElem (by omega)
        have h1 := hf2 j f hj
        rw [ho, hk] at h1
        have h2 : (cs'.drop j).take 1 = [cs'[j]'(by omega)] := by
          rw [List.drop_eq_getElem_cons (by omega)]; rfl
        rw [h2] at h1
        have hys : ys[j]? = some (ys[j]'(by omega)) := List.getElem?_eq_getElem (by omega)
        exact ⟨_, _, _, hv, h1.trans hys⟩)
      refine ⟨z, cs', hcl, hz, fun j u hu => ?_⟩
      have hj : j < fs.size := by have := (List.getElem?_eq_some_iff.1 hu).1; omega
      rw [← Go.Deep.add_add, hat j hj, hu]
    obtain ⟨l, hl2, hq⟩ := choose_list len key
    refine ⟨l, hl2, ⟨rfl, by rw [hl2]; unfold maxLen at hm; omega, fun _ => ⟨a, rfl, fun j z hz => ?_⟩⟩, by omega⟩
    obtain ⟨vs, h1, h2, h3⟩ := hq j z hz
    exact ⟨vs, by rw [hsz]; exact h1, h2, fun i u hu => by rw [hsz]; exact h3 i u hu⟩
end Go.Proofs.YtejgfblphgcgkaaGreatDoor.P
namespace Go.Proofs.YtejgfblphgcgkaaGreatDoor.P
set_option linter.unusedVariables false
open Go Go.RowKit Go.ChangeShapes Go.WideShapes Go.Deep Go.Proofs.YtejgfblphgcgkaaGreatDoorW.PrintWords
theorem open_lines {H : Type} {enc : TypeId × Value → H} {w : World} {base : Nat} {spare : Nat → Bool} {held : Bool} {A : Option Addr} {len cap : Nat} {d : DataW H} {p : List MemPlace}
    (h : DataW.Trod enc Tryz.prog w base spare held 23 (.slice A len cap) d p) : ∃ l : List S60, l.length = len ∧ k60.C w A l.length l ∧ l.length ≤ cap := by
  refine open_rows k60 Tryz.underlying23 Tryz.underlying60 (by kernel_rfl) (by kernel_rfl) rfl h (fun vs hl hf => ?_)
  obtain ⟨n0, v0, y0, e0, h0⟩ := hf 0 _ rfl
  obtain ⟨n1, v1, y1, e1, h1⟩ := hf 1 _ rfl
  obtain ⟨n2, v2, y2, e2, h2⟩ := hf 2 _ rfl
  obtain ⟨a, ha, _, _⟩ := DataW.trod_int Tryz.underlying3 h0
  obtain ⟨b, hb, _, _⟩ := DataW.trod_string Tryz.underlying9 h1
  obtain ⟨c, hc, _, _⟩ := DataW.trod_int Tryz.underlying3 h2
  simp only [List.cons.injEq, and_true] at ha hb hc
  subst ha; subst hb; subst hc
  have hv : vs = [.int .i64 a, .string b, .int .i64 c] := by
    match vs, hl with
    | [p, q, r], _ =>
      simp only [List.getElem?_cons_zero, List.getElem?_cons_succ, Option.some.injEq] at e0 e1 e2
      rw [e0, e1, e2]
  exact ⟨⟨a, b, c⟩, by rw [hv]; exact k60_mk w ⟨a, b, c⟩⟩
theorem open_field_lines {H : Type} {enc : TypeId × Value → H} {w : World} {base n : Nat} {spare : Nat → Bool} {held : Bool} {v : Value} {y : DataW H × List MemPlace}
    (h : DataW.trod enc Tryz.prog w base spare held n 23 [v] = some y) : ∃ (A : Option Addr) (len cap : Nat) (l : List S60), v = .slice A len cap ∧ l.length = len ∧ k60.C w A l.length l ∧ l.length ≤ cap := by
  have hv : ∃ (A : Option Addr) (len cap : Nat), v = .slice A len cap := by
    rcases open_slice Tryz.underlying23 h with ⟨hc, _⟩ | ⟨a, len, cap, _, _, _, _, hc, _⟩
    · injection hc with hc; exact ⟨none, 0, 0, hc⟩
    · injection hc with hc; exact ⟨some a, len, cap, hc⟩
  obtain ⟨A, len, cap, rfl⟩ := hv
  obtain ⟨l, h1, h2, h3⟩ := open_lines (d := y.1) (p := y.2) ⟨n, h⟩
  exact ⟨A, len, cap, l, rfl, h1, h2, h3⟩
end Go.Proofs.YtejgfblphgcgkaaGreatDoor.P
