/- Texts for the law FilingReturns (kept out of a larger one). -/
import Derived.Test.YtejgfblphgcgkaaDoorZFilingReturns12
import Derived.Test.YtejgfblphgcgkaaDoorZFilingReturns31
import Derived.Test.YtejgfblphgcgkaaDoorZFilingReturns32
import Derived.Test.YtejgfblphgcgkaaDoorZFilingReturns36
import Derived.Test.YtejgfblphgcgkaaDoorZFilingReturns43
import Derived.Test.YtejgfblphgcgkaaDoorZFilingReturns35
import Derived.Test.YtejgfblphgcgkaaDoorZFilingReturns28
import Derived.Test.YtejgfblphgcgkaaDoorZFilingReturns42
import Derived.Test.YtejgfblphgcgkaaDoorZFilingReturns41
import Derived.Test.YtejgfblphgcgkaaDoorZFilingReturns40
import Derived.WalkKit
namespace Go.Proofs.YtejgfblphgcgkaaDoor.P
set_option linter.unusedVariables false
set_option linter.unusedSimpArgs false
open Go.RowKit Go.Proofs.YtejgfblphgcgkaaDoorW.PrintWords
theorem ltX_kind {y x : S28} (h : y.f0 < x.f0) : ltX y x = true := by
  unfold ltX cmpI orI
  rw [if_pos h, if_neg (by decide)]; rfl
theorem chk_snoc : ∀ (l : List S28) (o : Option S28) (x : S28), chkL o l = true → goodX x = true → (∀ y ∈ l, ltX y x = true) → (∀ y, o = some y → ltX y x = true) → chkL o (l ++ [x]) = true
  | [], o, x, _, hg, _, ho => by
    show chkL o [x] = true
    unfold chkL chkL
    rw [hg]
    cases o with
    | none => rfl
    | some y => show (true && ltX y x && true) = true; rw [ho y rfl]; rfl
  | z :: l, o, x, h, hg, hl, _ => by
    rw [List.cons_append]
    unfold chkL at h ⊢
    simp only [Bool.and_eq_true] at h ⊢
    exact ⟨h.1, chk_snoc l (some z) x h.2 hg (fun y hy => hl y (List.mem_cons_of_mem _ hy)) (fun y hy => by injection hy with hy; rw [← hy]; exact hl z List.mem_cons_self)⟩
theorem good_mk {k a : Int} {c : ByteArray} (hk : k = 4 ∨ k = 5 ∨ k = 6) (h0 : 1 ≤ a) (h1 : a ≤ 1000000) (h6 : k = 6 → c = ⟨#[]⟩) (hn : k ≠ 6 → nameB c.data.toList = true) : goodX ⟨k, c, a⟩ = true := by
  unfold goodX kindB FormP formP totalB
  simp only [Bool.and_eq_true, Bool.or_eq_true, decide_eq_true_eq, bne_iff_ne]
  refine ⟨by omega, ⟨⟨by omega, by omega⟩, ⟨by omega, by omega⟩, ?_⟩, by omega⟩
  by_cases e : k = 6
  · rw [e, h6 e, if_pos (by decide)]; rfl
  · have : bareB k = false := by unfold bareB; simp; omega
    rw [this, if_neg (by decide)]; exact hn e
def Upto (k : Int) (l : List S28) : Prop := chkL none l = true ∧ ∀ x ∈ l, x.f0 < k
theorem Upto.snoc {k a : Int} {c : ByteArray} {l : List S28} (h : Upto k l) (hg : goodX ⟨k, c, a⟩ = true) : Upto (k + 1) (l ++ [⟨k, c, a⟩]) :=
  ⟨chk_snoc l none _ h.1 hg (fun y hy => ltX_kind (h.2 y hy)) (fun y hy => by cases hy), fun x hx => by
    rcases List.mem_append.1 hx with hx | hx
    · have := h.2 x hx; omega
    · rw [List.mem_singleton.1 hx]; show k < k + 1; omega⟩
theorem Upto.more {k : Int} {l : List S28} (h : Upto k l) : Upto (k + 1) l := ⟨h.1, fun x hx => by have := h.2 x hx; omega⟩
theorem same_loop (l : List S28) (hl : l.length ≤ 1000000) : ∀ (m i : Nat), i + m = l.length → Ev (fun k => payrollref32_Same.l0 k l l (i : Int)) true := by
  intro m
  induction m with
  | zero =>
    intro i hi
    exact Ev.step (fun k => by simp only [payrollref32_Same.l0]; rfl) (Ev.ifn (by omega) (Ev.now _))
  | succ m ih =>
    intro i hi
    have e1 : wrap64 ((i : Int) + 1) = ((i + 1 : Nat) : Int) := by unfold wrap64; omega
    refine Ev.step (fun k => by simp only [payrollref32_Same.l0]; rfl) (Ev.ifp (by omega) (Ev.ifp (by omega) (Ev.ifp (by omega) (Ev.ifn (by simp) ?_))))
    rw [e1]
    exact ih (i + 1) (by omega)
theorem same_ev (l : List S28) (hl : l.length ≤ 1000000) : Ev (fun k => payrollref32_Same.f k l l) true := by
  unfold payrollref32_Same.f
  exact Ev.ifp rfl (same_loop l hl l.length 0 (by omega))
theorem same_nil (l : List S28) : Ev (fun k => payrollref32_Same.f k [] l) (decide (l = [])) := by
  cases l with
  | nil => exact (same_ev [] (by simp)).cast (by simp)
  | cons x l =>
    unfold payrollref32_Same.f
    exact Ev.ifn (by simp only [List.length_nil, List.length_cons]; omega) ((Ev.now _).cast (by simp))
theorem latest_nil (p : Int) : Ev (fun k => payrollref38_Latest.f k [] p) (0, 0, [], false) := by
  unfold payrollref38_Latest.f
  have e : wrap64 ((([] : List S25).length : Int) - 1) = -1 := by decide +kernel
  rw [e]
  refine Ev.step (fun k => by simp only [payrollref38_Latest.l0]; rfl) ?_
  exact Ev.ifn (by decide) (Ev.now _)
theorem next_nil (p : Int) (l : List S28) (hl : l.length ≤ 1000000) : Ev (fun k => payrollref38_Next.f k [] p l) (if l = [] then (0, 0, [], false) else (p, 1, l, true)) := by
  unfold payrollref38_Next.f
  refine Ev.bind (latest_nil p) (Ev.bind (same_nil l) ?_)
  by_cases h : l = []
  · rw [if_pos h]
    exact Ev.ifp (by simp [h]) (Ev.now _)
  · rw [if_neg h]
    refine Ev.ifn (by simp [h]) (Ev.bindc (a := ([] : List S28)) rfl (Ev.ifp (by simp only [List.length_nil]; omega) ((Ev.now _).cast ?_)))
    have : wrap64 ((0 : Int) + 1) = 1 := by decide +kernel
    rw [this, List.nil_append]
def OneR (r : List S25) : Prop := r = [] ∨ ∃ p l, r = [⟨p, 1, l⟩] ∧ chkL none l = true ∧ l.length ≤ 3
theorem returns_end (L : List Int) (r : List S25) (a : Int) : Ev (fun k => paygen_Deck_Returns.l0 k r 0 L a) (r, a) := by
  refine Ev.step (fun k => by simp only [paygen_Deck_Returns.l0]; rfl) ?_
  exact Ev.ifn (by decide) (Ev.now _)
theorem returns_kinds (L : List Int) : ∀ (m : Nat) (k : Int) (l : List S28) (a : Int), k + m = 7 → 4 ≤ k → Upto k l → l.length + m ≤ 3 → 0 ≤ a → a + 10 * m ≤ 1000 → ∃ r b, Ev (fun j => paygen_Deck_Returns.l1 j [] 1 l k L a) (r, b) ∧ OneR r ∧ 0 ≤ b ∧ b ≤ 2000 := by
  intro m
  induction m with
  | zero =>
    intro k l a hk _ hl hm ha hb
    obtain ⟨p, h1, h2, h3⟩ := deck_next L a 3 ⟨ha, by omega⟩ (by omega) (by omega)
    have e0 : wrap64 ((1 : Int) - 1) = 0 := by decide +kernel
    have hn := next_nil p l (by omega)
    by_cases h : l = []
    · rw [if_pos h] at hn
      refine ⟨[], a + 1, Ev.step (fun j => by simp only [paygen_Deck_Returns.l1]; rfl) (Ev.ifn (by omega) (Ev.bind h1 (Ev.bind hn ?_))), Or.inl rfl, by omega, by omega⟩
      refine Ev.ifn (by decide) ?_
      rw [e0]; exact returns_end L [] (a + 1)
    · rw [if_neg h] at hn
      refine ⟨[⟨p, 1, l⟩], a + 1, Ev.step (fun j => by simp only [paygen_Deck_Returns.l1]; rfl) (Ev.ifn (by omega) (Ev.bind h1 (Ev.bind hn ?_))), Or.inr ⟨p, l, rfl, hl.1, by omega⟩, by omega, by omega⟩
      refine Ev.ifp rfl (Ev.ifp (by decide) ?_)
      rw [e0]; exact returns_end L _ (a + 1)
  | succ m ih =>
    intro k l a hk h4 hl hm ha hb
    have ek : wrap64 (k + 1) = k + 1 := by unfold wrap64; omega
    obtain ⟨c, h1, h2, h3⟩ := deck_next L a 2 ⟨ha, by omega⟩ (by omega) (by omega)
    by_cases hc : c = 0
    · obtain ⟨r, b, g1, g2, g3⟩ := ih (k + 1) l (a + 1) (by omega) (by omega) hl.more (by omega) (by omega) (by omega)
      refine ⟨r, b, Ev.step (fun j => by simp only [paygen_Deck_Returns.l1]; rfl) (Ev.ifp (by omega) (Ev.bind h1 (Ev.ifp hc ?_))), g2, g3⟩
      rw [ek]; exact g1
    · obtain ⟨v, i1, i2, i3⟩ := deck_next L (a + 1) 1000 ⟨by omega, by omega⟩ (by omega) (by omega)
      have ev : wrap64 (1 + v) = 1 + v := by unfold wrap64; omega
      by_cases h6 : k = 6
      · obtain ⟨r, b, g1, g2, g3⟩ := ih (k + 1) (l ++ [⟨k, ⟨#[]⟩, 1 + v⟩]) (a + 1 + 1) (by omega) (by omega) (hl.snoc (good_mk (by omega) (by omega) (by omega) (fun _ => rfl) (fun h => absurd h6 h))) (by simp; omega) (by omega) (by omega)
        refine ⟨r, b, Ev.step (fun j => by simp only [paygen_Deck_Returns.l1]; rfl) (Ev.ifp (by omega) (Ev.bind h1 (Ev.ifn hc (Ev.bind i1 (Ev.ifp h6 ?_))))), g2, g3⟩
        rw [ek, ev]
        refine Ev.ifp (by omega) ?_
        exact g1
      · obtain ⟨y, y1, y2⟩ := deck_code L (a + 1 + 1) (by omega) (by omega)
        obtain ⟨r, b, g1, g2, g3⟩ := ih (k + 1) (l ++ [⟨k, y, 1 + v⟩]) (a + 1 + 1 + 1) (by omega) (by omega) (hl.snoc (good_mk (by omega) (by omega) (by omega) (fun h => absurd h h6) (fun _ => y2))) (by simp; omega) (by omega) (by omega)
        refine ⟨r, b, Ev.step (fun j => by simp only [paygen_Deck_Returns.l1]; rfl) (Ev.ifp (by omega) (Ev.bind h1 (Ev.ifn hc (Ev.bind i1 (Ev.ifn h6 (Ev.bind y1 ?_)))))), g2, g3⟩
        rw [ek, ev]
        refine Ev.ifp (by omega) ?_
        exact g1
theorem returns_one (L : List Int) (a : Int) (ha : 0 ≤ a) (hb : a ≤ 100) : ∃ r b, Ev (fun k => paygen_Deck_Returns.f k L a 1) (r, b) ∧ OneR r ∧ 0 ≤ b ∧ b ≤ 2000 := by
  unfold paygen_Deck_Returns.f
  have e : wrap64 ((1 : Int) + 1) = 2 := by decide +kernel
  rw [e]
  obtain ⟨c, h1, h2, h3⟩ := deck_next L a 2 ⟨ha, by omega⟩ (by omega) (by omega)
  by_cases hc : c = 0
  · subst hc
    exact ⟨[], a + 1, Ev.bind h1 (returns_end L [] (a + 1)), Or.inl rfl, by omega, by omega⟩
  · have : c = 1 := by omega
    subst this
    obtain ⟨r, b, g1, g2, g3⟩ := returns_kinds L 3 4 [] (a + 1) (by omega) (by omega) ⟨rfl, fun x hx => by cases hx⟩ (by simp) (by omega) (by omega)
    refine ⟨r, b, Ev.bind h1 ?_, g2, g3⟩
    refine Ev.step (fun j => by simp only [paygen_Deck_Returns.l0]; rfl) ?_
    exact Ev.ifp (by decide) g1
theorem drawn_ev (L : List Int) : ∃ p v l b, Ev (fun k => payrolllaw43_drawn.f k L 0) (p, v, l, b) ∧ validP p v l = true ∧ 0 ≤ b ∧ b ≤ 2000 := by
  unfold payrolllaw43_drawn.f
  obtain ⟨p, h1, h2, h3⟩ := deck_next L 0 3 ⟨by omega, by omega⟩ (by omega) (by omega)
  obtain ⟨v, i1, i2, i3⟩ := deck_next L (0 + 1) 4 ⟨by omega, by omega⟩ (by omega) (by omega)
  obtain ⟨r, b, g1, g2, g3, g4⟩ := returns_one L (0 + 1 + 1) (by omega) (by omega)
  have ev : wrap64 (1 + v) = 1 + v := by unfold wrap64; omega
  have hv : ∀ l : List S28, chkL none l = true → l.length ≤ 3 → validP p (1 + v) l = true := by
    intro l hl hn
    unfold validP
    rw [hl]
    simp; omega
  rcases g2 with rfl | ⟨q, l, rfl, hl, hn⟩
  · refine ⟨p, 1 + v, [], b, Ev.bind h1 (Ev.bind i1 (Ev.bind g1 ?_)), hv [] rfl (by simp), g3, g4⟩
    rw [ev]
    exact Ev.ifn (show ¬ ((0 : Int) > 0) by decide) (Ev.now _)
  · refine ⟨p, 1 + v, l, b, Ev.bind h1 (Ev.bind i1 (Ev.bind g1 ?_)), hv l hl hn, g3, g4⟩
    rw [ev]
    exact Ev.ifp (show (1 : Int) > 0 by decide) (Ev.ifp (show (0 : Int) < 1 by decide) (Ev.now _))
theorem awake_ev : Ev (fun k => payrolllaw43_awake.f k) true := by
  have v1 : validP 5 1 [oneX] = true := by decide +kernel
  have v2 : validP 5 2 [] = true := by decide +kernel
  have b1 : encB 5 1 [oneX] = oneB := by decide +kernel
  have b2 : encB 5 2 [] = twoB := by decide +kernel
  obtain ⟨K1, h1⟩ := encode_ev (p := 5) (v := 1) (l := [oneX]) (by simp)
  obtain ⟨K2, h2⟩ := encode_ev (p := 5) (v := 2) (l := []) (by simp)
  obtain ⟨K3, h3⟩ := decode_ev oneB
  obtain ⟨K4, h4⟩ := decode_ev twoB
  rw [if_pos v1, b1] at h1
  rw [if_pos v2, b2] at h2
  rw [← b1, decP_enc v1, b1] at h3
  rw [← b2, decP_enc v2, b2] at h4
  refine ⟨K1 + K2 + K3 + K4, fun k hk => ?_⟩
  unfold payrolllaw43_awake.f
  exact if_pos ⟨h1 k (by omega), h2 k (by omega), h3 k (by omega), h4 k (by omega)⟩
end Go.Proofs.YtejgfblphgcgkaaDoor.P
