/- Texts for the law FilingDecodes (kept out of a larger one). -/
import Derived.Test.YtejgfblphgcgkaaGreatDoorZFilingDecodes1
import Derived.Laws.StructEq
import Derived.SizedLaws
import Derived.ChangeSlices
-- PRINTED BY print.sh 35421559b90ae4d0a3588c463048766b98c2df88dd9212a6774a882060cdf62d: not written by this session
namespace Go.Proofs.YtejgfblphgcgkaaGreatDoorW.PrintWords
open Go.RowKit
def Kept (w W : World) (S : Nat → Prop) : Prop := w.heap.size ≤ W.heap.size ∧ ∀ i, i < w.heap.size → ¬ S i → W.heap[i]? = w.heap[i]?
section
variable {w W W2 : World} {S S2 S' : Nat → Prop}
theorem Kept.of_below (h : Below w.heap.size w W) (S : Nat → Prop) : Kept w W S := ⟨h.size, fun i hi _ => h.block i hi⟩
theorem Kept.then_ (h : Kept w W S) (k : Kept W W2 S2) (hs : ∀ k, S2 k → S k ∨ w.heap.size ≤ k) : Kept w W2 S :=
  ⟨Nat.le_trans h.1 k.1, fun i hi hn => (k.2 i (Nat.lt_of_lt_of_le hi h.1) (fun h2 => (hs i h2).elim hn (fun h3 => by omega))).trans (h.2 i hi hn)⟩
theorem Kept.below (h : Kept w W S) (hb : Below W.heap.size W W2) : Kept w W2 S := h.then_ (Kept.of_below hb (fun _ => False)) (fun _ hk => hk.elim)
theorem Kept.keep {g : Nat} (h : KeepBut w W g none) (k : Kept W W2 S2) (hs : ∀ k, S2 k → w.heap.size ≤ k) : KeepBut w W2 g none :=
  ⟨Nat.le_trans h.1 k.1, fun i hi hg hr => (k.2 i (Nat.lt_of_lt_of_le hi h.1) (fun h2 => by have := hs i h2; omega)).trans (h.2 i hi hg hr)⟩
end
namespace Kd
section
variable {α : Type} {d : Kd α} {e base n c : Nat} {ok oki S S2 : Nat → Prop} {w w0 W W1 W2 : World} {v : Value} {A : Option Addr} {xs : List α} {i : Int} {cs : List Value}
end
end Kd
end Go.Proofs.YtejgfblphgcgkaaGreatDoorW.PrintWords
-- PRINTED BY print.sh 35421559b90ae4d0a3588c463048766b98c2df88dd9212a6774a882060cdf62d: not written by this session
namespace Go.Proofs.YtejgfblphgcgkaaGreatDoorW.PrintWords
open Go.RowKit
def Foot (P : World → Prop) (W : World) (ok : Nat → Prop) : Prop := ∀ W' : World, (∀ k, ok k → k < W.heap.size → W'.heap[k]? = W.heap[k]?) → P W'
theorem heap_lt {W W1 : World} {k : Nat} (h : W1.heap[k]? = W.heap[k]?) (hlt : k < W.heap.size) : k < W1.heap.size := by
  rw [Array.getElem?_eq_getElem hlt] at h
  exact (Array.getElem?_eq_some_iff.1 h).1
namespace Foot
variable {P Q : World → Prop} {W W1 : World} {ok ok' : Nat → Prop}
theorem now (h : Foot P W ok) : P W := h W (fun _ _ _ => rfl)
theorem step (h : Foot P W ok) (hm : ∀ k, ok k → k < W.heap.size → W1.heap[k]? = W.heap[k]?) : Foot P W1 ok := fun W' hW => h W' (fun k hk hlt => (hW k hk (heap_lt (hm k hk hlt) hlt)).trans (hm k hk hlt))
end Foot
namespace Kd
def F {α : Type} (d : Kd α) (W : World) (ok : Nat → Prop) (A : Option Addr) (n : Nat) (xs : List α) : Prop := Foot (fun W => d.C W A n xs) W ok
def FK {α : Type} (d : Kd α) (W : World) (ok : Nat → Prop) (x : α) (c : List Value) : Prop := Foot (fun W => d.K W x c) W ok
section
variable {α β : Type} {d : Kd α} {e base n n' cc g N : Nat} {ok ok' okp S : Nat → Prop} {w w0 w1 W W1 : World} {A A' : Option Addr} {u v v1 : Value} {xs : List α} {xs' : List β} {d' : Kd β} {x : α} {c : List Value}
theorem F_nil (d : Kd α) (W : World) (ok : Nat → Prop) : F d W ok none ([] : List α).length [] := fun W' _ => C_nil d W'
theorem FK_of_M (h : d.M W base ok x c) : FK d W ok x c := fun _ hW => d.K_of_M (M_step h hW)
end
end Kd
end Go.Proofs.YtejgfblphgcgkaaGreatDoorW.PrintWords
-- PRINTED BY print.sh 35421559b90ae4d0a3588c463048766b98c2df88dd9212a6774a882060cdf62d: not written by this session
namespace Go.Proofs.YtejgfblphgcgkaaGreatDoorW.PrintWords
open Go.RowKit
namespace Kd
def chunks (sz : Nat) (n : Nat) (inner : List Value) : List (List Value) := (List.range n).map fun j => (inner.drop (j * sz)).take sz
theorem chunks_length (sz n : Nat) (inner : List Value) : (chunks sz n inner).length = n := by simp [chunks]
theorem chunks_at {sz n : Nat} {inner : List Value} {j : Nat} (hj : j < n) : (chunks sz n inner)[j]? = some ((inner.drop (j * sz)).take sz) := by simp [chunks, hj]
theorem chunks_get {sz n : Nat} {inner : List Value} {j : Nat} {c : List Value} (h : (chunks sz n inner)[j]? = some c) : c = (inner.drop (j * sz)).take sz := by
  have hj : j < n := by have := (List.getElem?_eq_some_iff.1 h).1; rwa [chunks_length] at this
  rw [chunks_at hj] at h
  injection h with h
  exact h.symm
theorem reps_raw {α : Type} {Rr : α → List Value → Prop} {sz : Nat} {xs : List α} {inner : List Value} (h : Reps Rr sz xs inner) (hR : ∀ x c, Rr x c → c.length = sz ∧ ∀ u ∈ c, u.oneCell' = true) : Reps (fun x cs => cs = x ∧ cs.length = sz ∧ ∀ u ∈ cs, u.oneCell' = true) sz (chunks sz xs.length inner) inner := by
  refine ⟨by rw [chunks_length]; exact h.1, fun j p hj => ?_⟩
  have hjl : j < xs.length := by have := (List.getElem?_eq_some_iff.1 hj).1; rwa [chunks_length] at this
  have hp := chunks_get hj
  exact ⟨hp.symm, hR _ _ (h.2 j _ (List.getElem?_eq_getElem hjl))⟩
section
variable {α : Type} {d : Kd α} {e base n cc g : Nat} {ok ok' okp S : Nat → Prop} {w w1 W W1 : World} {A : Option Addr} {u v v1 : Value} {xs : List α} {x : α} {c : List Value}
def N {α : Type} (d : Kd α) (e : Nat) (w : World) (base : Nat) (ok : Nat → Prop) (v : Value) (xs : List α) : Prop :=
  (∀ k, v.ownBlock = some k → ok k) ∧ ∃ rows : List (List Value), rows.length = xs.length ∧ (raw d.sz).R e w base (fun k => some k = v.ownBlock) v rows ∧ ∀ (j : Nat) (x : α) (c : List Value), xs[j]? = some x → rows[j]? = some c → FK d w (fun k => ok k ∧ some k ≠ v.ownBlock) x c
theorem R_N (h : d.R e w base ok v xs) : N d e w base ok v xs := by
  obtain ⟨h0, inner, ho, hr⟩ := h
  refine ⟨h0, chunks d.sz xs.length inner, chunks_length _ _ _, ⟨fun k hk => hk.symm, inner, by rw [chunks_length]; exact ho, reps_raw hr (fun x c hp => ⟨d.K_len (d.K_of_M hp), d.K_one (d.K_of_M hp)⟩)⟩, fun j x c hx hc => ?_⟩
  rw [chunks_get hc]
  exact FK_of_M (hr.2 j x hx)
theorem N_nil (d : Kd α) (e : Nat) (w : World) (base : Nat) (ok : Nat → Prop) : N d e w base ok (.slice none 0 0) [] := R_N (R_nil _ _ _ _ _)
end
end Kd
end Go.Proofs.YtejgfblphgcgkaaGreatDoorW.PrintWords
-- PRINTED BY print.sh 35421559b90ae4d0a3588c463048766b98c2df88dd9212a6774a882060cdf62d: not written by this session
namespace Go.Proofs.YtejgfblphgcgkaaGreatDoorW.PrintWords
open Go.RowKit
section
variable {P : Program} {d : Nat} {xs ys : Array Value} {f : Field} {fs : List Field} {a b : Value} {r s : Bool} {w : World}
theorem eqf_last (hn : (f.name == "_") = false) (ha : (part f.type xs f.offset).run P w = .ok a w) (hb : (part f.type ys f.offset).run P w = .ok b w) (he : (Op.equalIn d f.type a b).run P w = .ok r w) : (Op.eqFields d xs ys [f]).run P w = .ok r w := by
  have hn' : f.name ≠ "_" := by simpa using hn
  simp only [Op.eqFields, if_pos hn', Sem.run_bind, ha, hb, he, Result.andThen_ok]
  cases r <;> simp
theorem eqf_cons (hn : (f.name == "_") = false) (ha : (part f.type xs f.offset).run P w = .ok a w) (hb : (part f.type ys f.offset).run P w = .ok b w) (he : (Op.equalIn d f.type a b).run P w = .ok r w) (hr : (Op.eqFields d xs ys fs).run P w = .ok s w) : (Op.eqFields d xs ys (f :: fs)).run P w = .ok (r && s) w := by
  have hn' : f.name ≠ "_" := by simpa using hn
  rw [Op.eqFields]
  simp only [if_pos hn', Sem.run_bind, ha, hb, he, Result.andThen_ok]
  cases r
  · simp
  · simpa using hr
theorem eqA_of {t : TypeId} {fs : Array Field} (hu : P.underlying t = some (.struct fs)) (hp : P.stoodInHeld t = false) (h : (Op.eqFields d xs ys fs.toList).run P w = .ok r w) : (Op.equalIn (d + 1) t (.agg xs) (.agg ys)).run P w = .ok r w := by
  have hf : P.fieldsOf t = fs := by simp [Program.fieldsOf, hu]
  rw [run_equalIn_struct (P := P) w d t xs ys (by rw [hf]; exact hu) hp, hf]
  exact h
end
end Go.Proofs.YtejgfblphgcgkaaGreatDoorW.PrintWords
-- PRINTED BY print.sh 35421559b90ae4d0a3588c463048766b98c2df88dd9212a6774a882060cdf62d: not written by this session
namespace Go.Proofs.YtejgfblphgcgkaaGreatDoorW.PrintWords
theorem Reps.one {α : Type} {R : α → List Value → Prop} {ps : List α} {cs : List Value} {p : α} {v : Value} (hp : R p [v]) (h : Reps R 1 ps cs) : Reps R 1 (p :: ps) (v :: cs) := by
  refine ⟨by simp [h.1], fun j q hq => ?_⟩
  cases j with
  | zero =>
    simp only [List.getElem?_cons_zero, Option.some.injEq] at hq
    subst hq
    simpa using hp
  | succ j =>
    simp only [List.getElem?_cons_succ] at hq
    have h1 := h.2 j q hq
    simpa [Nat.mul_one] using h1
theorem Reps.front {α : Type} {R : α → List Value → Prop} {size : Nat} {ps : List α} {cs c all : List Value} {p : α} (hp : R p c) (hc : c.length = size) (h : Reps R size ps cs) (ha : c ++ cs = all) : Reps R size (p :: ps) all := by
  subst ha
  refine ⟨by rw [List.length_append, hc, h.1, List.length_cons, Nat.succ_mul, Nat.add_comm], fun j q hq => ?_⟩
  cases j with
  | zero =>
    simp only [List.getElem?_cons_zero, Option.some.injEq] at hq
    subst hq
    rw [Nat.zero_mul, List.drop_zero, List.take_append_of_le_length (by omega), List.take_of_length_le (by omega)]
    exact hp
  | succ j =>
    simp only [List.getElem?_cons_succ] at hq
    have h1 := h.2 j q hq
    rw [Nat.succ_mul, List.drop_append, List.drop_of_length_le (by rw [hc]; exact Nat.le_add_left _ _), List.nil_append, hc, Nat.add_sub_cancel]
    exact h1
theorem Reps.c3 {α : Type} {R : α → List Value → Prop} {ps : List α} {cs : List Value} {p : α} {va vb vc : Value} (hp : R p [va, vb, vc]) (h : Reps R 3 ps cs) : Reps R 3 (p :: ps) (va :: vb :: vc :: cs) := Reps.front hp rfl h rfl
theorem Reps.c10 {α : Type} {R : α → List Value → Prop} {ps : List α} {cs : List Value} {p : α} {va vb vc vd ve vf vg vh vi vj : Value} (hp : R p [va, vb, vc, vd, ve, vf, vg, vh, vi, vj]) (h : Reps R 10 ps cs) : Reps R 10 (p :: ps) (va :: vb :: vc :: vd :: ve :: vf :: vg :: vh :: vi :: vj :: cs) := Reps.front hp rfl h rfl
end Go.Proofs.YtejgfblphgcgkaaGreatDoorW.PrintWords
-- PRINTED BY print.sh 35421559b90ae4d0a3588c463048766b98c2df88dd9212a6774a882060cdf62d: not written by this session
namespace Go.Proofs.YtejgfblphgcgkaaGreatDoorW.PrintLast
def up (b : Nat → Bool) (i : Nat) : Nat → Bool := fun j => if j = i then true else b j
theorem up_self (b : Nat → Bool) (i : Nat) : up b i i = true := by simp [up]
theorem up_ne {b : Nat → Bool} {i j : Nat} (h : j ≠ i) : up b i j = b j := by simp [up, h]
def lof (n : Nat) (O : List Nat) (b : Nat → Bool) : List Bool := (List.range n).map fun j => if O.contains j then b j else true
def putSel (a : Act) (b : Nat → Bool) : List (Nat × Tmp × Value) → Act
  | [] => a
  | e :: r => putSel (if b e.1 = true then a.put (some e.2.1) e.2.2 else a) b r
section
variable {P : Program} {ops : Array Oper} {Q : Exit → Act → World → Prop} {md : Region.Mode} {T : Bool × List (List Nat × List Nat)} {B : List Nat} {O : List Nat} {b : Nat → Bool} {i j n : Nat}
theorem lof_length : (lof n O b).length = n := by simp [lof]
theorem lof_get {d : Bool} (hj : j < n) : (lof n O b).getD j d = if O.contains j then b j else true := by
  simp [lof, List.getD_eq_getElem?_getD, hj]
theorem lof_up (hi : O.contains i = true) : (lof n O b).set i true = lof n O (up b i) := by
  apply List.ext_getElem?
  intro j
  by_cases hj : j < n
  · by_cases hij : i = j
    · subst hij
      have hl : i < (lof n O b).length := by rw [lof_length]; exact hj
      rw [List.getElem?_set_self hl]
      simp only [lof, List.getElem?_map, List.getElem?_range hj, Option.map_some, hi, if_true, up_self]
    · rw [List.getElem?_set_ne hij]
      simp only [lof, List.getElem?_map, List.getElem?_range hj, Option.map_some]
      rw [up_ne (Ne.symm hij)]
  · rw [List.getElem?_eq_none (by simp [lof]; omega), List.getElem?_eq_none (by simp [lof]; omega)]
def StepAt (P : Program) (ops : Array Oper) (Q : Exit → Act → World → Prop) (B : List Nat) (O : List Nat) (I : (Nat → Bool) → Act → World → Prop) (i : Nat) : Prop :=
  ∀ b a w, I b a w → b i = false → (∀ j, (O.contains j && (B.getD i 0).testBit j) = true → b j = true) → (∀ d, (O.contains d && (B.getD d 0).testBit i) = true → b d = false) →
    ∃ oi, ops[i]? = some oi ∧ ∀ K : Act → World → Prop, Shut (∀ a' w', I (up b i) a' w' → K a' w') → if Region.wanted oi (yielded ops a.tmps) = true then Oper.wp P oi a w K Q else K (a.put oi.dst undef) w
theorem steps_nil {I : (Nat → Bool) → Act → World → Prop} : ∀ i ∈ ([] : List Nat), StepAt P ops Q B O I i := fun _ h => by cases h
theorem steps_cons {I : (Nat → Bool) → Act → World → Prop} {rs : List Nat} (h : StepAt P ops Q B O I i) (hs : ∀ j ∈ rs, StepAt P ops Q B O I j) : ∀ j ∈ i :: rs, StepAt P ops Q B O I j := fun j hj => by
  rcases List.mem_cons.1 hj with rfl | hj
  · exact h
  · exact hs j hj
def baseOk (T : List (List Nat × List Nat)) (O : List Nat) : Bool :=
  (List.range T.length).all (fun d => match T[d]? with
    | some r => (O.contains d || r.1.all fun n => !O.contains n) && r.1.all fun n => decide (n < d)
    | none => false) && O.all (fun i => decide (i < T.length)) && decide O.Nodup
theorem baseOk_row {T : List (List Nat × List Nat)} (h : baseOk T O = true) {d : Nat} {r : List Nat × List Nat} (hr : T[d]? = some r) : (O.contains d = false → ∀ n ∈ r.1, O.contains n = false) ∧ ∀ n ∈ r.1, n < d := by
  simp only [baseOk, Bool.and_eq_true] at h
  have h1 := List.all_eq_true.1 h.1.1 d (List.mem_range.2 (List.getElem?_eq_some_iff.1 hr).1)
  rw [hr] at h1
  simp only [Bool.and_eq_true, Bool.or_eq_true, List.all_eq_true, decide_eq_true_eq] at h1
  refine ⟨fun hd n hn => ?_, h1.2⟩
  rcases h1.1 with h2 | h2
  · rw [hd] at h2; cases h2
  · simpa using h2 n hn
theorem baseOk_lt {T : List (List Nat × List Nat)} (h : baseOk T O = true) {i : Nat} (hi : i ∈ O) : i < T.length := by
  simp only [baseOk, Bool.and_eq_true] at h
  simpa using List.all_eq_true.1 h.1.2 i hi
theorem baseOk_nodup {T : List (List Nat × List Nat)} (h : baseOk T O = true) : O.Nodup := by
  simp only [baseOk, Bool.and_eq_true] at h
  exact of_decide_eq_true h.2
def Closed (T : List (List Nat × List Nat)) (O : List Nat) (b : Nat → Bool) : Prop := ∀ d r, T[d]? = some r → O.contains d = true → b d = true → ∀ n ∈ r.1, O.contains n = true → b n = true
theorem bits_out {T : List (List Nat × List Nat)} (hw : waitsOk T B = true) (hk : baseOk T O = true) : ∀ (m d : Nat), d ≤ m → d < T.length → O.contains d = false → ∀ j, (B.getD d 0).testBit j = true → O.contains j = false := by
  intro m
  induction m with
  | zero =>
    intro d hd hl hO j hj
    have hd0 : d = 0 := by omega
    subst hd0
    have hr : T[0]? = some T[0] := List.getElem?_eq_getElem hl
    have h1 := List.all_eq_true.1 hw 0 (List.mem_range.2 hl)
    rw [hr] at h1
    simp only [beq_iff_eq] at h1
    have h2 : (upM B 0 T[0].1).testBit j = true := by rw [← h1, Nat.testBit_or, hj, Bool.true_or]
    obtain ⟨n, hn, h3⟩ := upM_bit h2
    have := (baseOk_row hk hr).2 n hn
    omega
  | succ m ih =>
    intro d hd hl hO j hj
    have hr : T[d]? = some T[d] := List.getElem?_eq_getElem hl
    have h1 := List.all_eq_true.1 hw d (List.mem_range.2 hl)
    rw [hr] at h1
    simp only [beq_iff_eq] at h1
    have h2 : (upM B d T[d].1).testBit j = true := by rw [← h1, Nat.testBit_or, hj, Bool.true_or]
    obtain ⟨n, hn, h3⟩ := upM_bit h2
    have hO2 := (baseOk_row hk hr).1 hO n hn
    rcases h3 with rfl | ⟨h4, h5⟩
    · exact hO2
    · exact ih n (by omega) (by omega) hO2 j h5
theorem closed_bits {T : List (List Nat × List Nat)} (hw : waitsOk T B = true) (hk : baseOk T O = true) (hc : Closed T O b) : ∀ (m d : Nat), d ≤ m → d < T.length → O.contains d = true → b d = true → ∀ j, O.contains j = true → (B.getD d 0).testBit j = true → b j = true := by
  intro m
  induction m with
  | zero =>
    intro d hd hl hO hb j hjO hj
    have hd0 : d = 0 := by omega
    subst hd0
    have hr : T[0]? = some T[0] := List.getElem?_eq_getElem hl
    have h1 := List.all_eq_true.1 hw 0 (List.mem_range.2 hl)
    rw [hr] at h1
    simp only [beq_iff_eq] at h1
    have h2 : (upM B 0 T[0].1).testBit j = true := by rw [← h1, Nat.testBit_or, hj, Bool.true_or]
    obtain ⟨n, hn, h3⟩ := upM_bit h2
    have := (baseOk_row hk hr).2 n hn
    omega
  | succ m ih =>
    intro d hd hl hO hb j hjO hj
    have hr : T[d]? = some T[d] := List.getElem?_eq_getElem hl
    have h1 := List.all_eq_true.1 hw d (List.mem_range.2 hl)
    rw [hr] at h1
    simp only [beq_iff_eq] at h1
    have h2 : (upM B d T[d].1).testBit j = true := by rw [← h1, Nat.testBit_or, hj, Bool.true_or]
    obtain ⟨n, hn, h3⟩ := upM_bit h2
    rcases h3 with rfl | ⟨h4, h5⟩
    · exact hc d _ hr hO hb n hn hjO
    · cases hO2 : O.contains n with
      | true => exact ih n (by omega) (by omega) hO2 (hc d _ hr hO hb n hn hO2) j hjO h5
      | false =>
        have := bits_out hw hk n n (Nat.le_refl _) (by omega) hO2 j h5
        rw [hjO] at this
        cases this
theorem up_count : ∀ {O : List Nat}, O.Nodup → i ∈ O → b i = false → (O.filter fun j => !up b i j).length + 1 = (O.filter fun j => !b j).length
  | [], _, hi, _ => by cases hi
  | x :: r, hn, hi, hb => by
    rw [List.nodup_cons] at hn
    rcases List.mem_cons.1 hi with rfl | hi
    · have h1 : (r.filter fun j => !up b i j) = r.filter fun j => !b j := by
        refine List.filter_congr (fun j hj => ?_)
        rw [up_ne (fun e => hn.1 (by rw [← e]; exact hj))]
      rw [List.filter_cons, List.filter_cons]
      simp [up_self, hb, h1]
    · have hxi : x ≠ i := fun e => hn.1 (e ▸ hi)
      have h1 := up_count hn.2 hi hb
      rw [List.filter_cons, List.filter_cons, up_ne hxi]
      cases hbx : b x
      · simp only [Bool.not_false, if_true, List.length_cons]
        omega
      · simpa using h1
theorem inv_all (hT : rtab md ops = T) (hw : waitsOk T.2 B = true) (hk : baseOk T.2 O = true) (I : (Nat → Bool) → Act → World → Prop) (hs : ∀ i ∈ O, StepAt P ops Q B O I i)
    (hend : ∀ b a w, (∀ j, O.contains j = true → b j = true) → I b a w → Q .normal a w) :
    ∀ (m : Nat) (b : Nat → Bool) (a : Act) (w : World), (O.filter fun j => !b j).length = m → Closed T.2 O b → I b a w → wpAnyLast P md ops Q (fun _ => True) [] m (lof T.2.length O b).toArray a w := by
  subst hT
  have mem_ready' : ∀ {b : Nat → Bool} {i : Nat}, i ∈ Region.ready md ops (lof (rtab md ops).2.length O b).toArray → i < (rtab md ops).2.length ∧ O.contains i = true ∧ b i = false ∧ ∀ r, (rtab md ops).2[i]? = some r → ∀ n ∈ r.1, n < (rtab md ops).2.length → O.contains n = true → b n = true := by
    intro b i hi
    rw [ready_eq] at hi
    unfold readyT at hi
    rw [List.mem_filter, List.mem_range] at hi
    obtain ⟨hl, h1⟩ := hi
    unfold readyAt at h1
    rw [Bool.and_eq_true, lof_get hl] at h1
    obtain ⟨h2, h3⟩ := h1
    have h4 : O.contains i = true := by
      cases h : O.contains i with
      | true => rfl
      | false => rw [h] at h2; simp at h2
    rw [h4] at h2
    refine ⟨hl, h4, by simpa using h2, fun r hr n hn hnl hO => ?_⟩
    rw [hr] at h3
    simp only [List.all_eq_true] at h3
    have h5 := h3 n hn
    rw [lof_get hnl, hO] at h5
    simpa using h5
  intro m
  induction m with
  | zero =>
    intro b a w hm hc hI
    have hall : ∀ j, O.contains j = true → b j = true := by
      intro j hj
      cases hb : b j with
      | true => rfl
      | false =>
        have : j ∈ O.filter fun j => !b j := List.mem_filter.2 ⟨List.contains_iff_mem.1 hj, by simp [hb]⟩
        rw [List.eq_nil_of_length_eq_zero hm] at this
        cases this
    refine ⟨?_, hend b a w hall hI⟩
    refine List.eq_nil_iff_forall_not_mem.2 (fun i hi => ?_)
    obtain ⟨_, h1, h2, _⟩ := mem_ready' hi
    rw [hall i h1] at h2
    cases h2
  | succ m ih =>
    intro b a w hm hc hI
    refine ⟨fun hr => ?_, fun i hi => ?_⟩
    · exfalso
      -- the smallest number that isn't listed is ready
      have hex : ∃ i, O.contains i = true ∧ b i = false := by
        cases hf : O.filter (fun j => !b j) with
        | nil => rw [hf] at hm; simp at hm
        | cons x r =>
          have hx : x ∈ O.filter (fun j => !b j) := by rw [hf]; exact List.mem_cons_self
          rw [List.mem_filter] at hx
          exact ⟨x, List.contains_iff_mem.2 hx.1, by simpa using hx.2⟩
      have hmin : ∀ k, (∃ i, i ≤ k ∧ O.contains i = true ∧ b i = false) → ∃ i, O.contains i = true ∧ b i = false ∧ ∀ j, j < i → O.contains j = true → b j = true := by
        intro k
        induction k with
        | zero =>
          rintro ⟨i, hi, h1, h2⟩
          exact ⟨i, h1, h2, fun j hj => by omega⟩
        | succ k ihk =>
          rintro ⟨i, hi, h1, h2⟩
          by_cases hlow : ∃ j, j ≤ k ∧ O.contains j = true ∧ b j = false
          · exact ihk hlow
          · refine ⟨i, h1, h2, fun j hj hO => ?_⟩
            cases hb : b j with
            | true => rfl
            | false => exact absurd ⟨j, by omega, hO, hb⟩ hlow
      obtain ⟨i0, h1, h2⟩ := hex
      obtain ⟨i, hO, hb, hlow⟩ := hmin i0 ⟨i0, Nat.le_refl _, h1, h2⟩
      have hl := baseOk_lt hk (List.contains_iff_mem.1 hO)
      have hin : i ∈ Region.ready md ops (lof (rtab md ops).2.length O b).toArray := by
        rw [ready_eq]
        unfold readyT
        rw [List.mem_filter, List.mem_range]
        refine ⟨hl, ?_⟩
        unfold readyAt
        rw [lof_get hl, hO, hb]
        have hr2 : (rtab md ops).2[i]? = some (rtab md ops).2[i] := List.getElem?_eq_getElem hl
        rw [hr2]
        simp only [if_true, Bool.not_false, Bool.true_and, List.all_eq_true]
        intro n hn
        have hni := (baseOk_row hk hr2).2 n hn
        rw [lof_get (by omega)]
        cases hOn : O.contains n with
        | true => simpa using hlow n hni hOn
        | false => simp
      rw [hr] at hin
      cases hin
    · obtain ⟨hl, hO, hb, hneed⟩ := mem_ready' hi
      have hon : ∀ j, (O.contains j && (B.getD i 0).testBit j) = true → b j = true := by
        intro j hj
        rw [Bool.and_eq_true] at hj
        have hr2 : (rtab md ops).2[i]? = some (rtab md ops).2[i] := List.getElem?_eq_getElem hl
        have h1 := List.all_eq_true.1 hw i (List.mem_range.2 hl)
        rw [hr2] at h1
        simp only [beq_iff_eq] at h1
        have h2 : (upM B i (rtab md ops).2[i].1).testBit j = true := by rw [← h1, Nat.testBit_or, hj.2, Bool.true_or]
        obtain ⟨n, hn, h3⟩ := upM_bit h2
        have hni := (baseOk_row hk hr2).2 n hn
        rcases h3 with rfl | ⟨h4, h5⟩
        · exact hneed _ hr2 n hn (by omega) hj.1
        · cases hO2 : O.contains n with
          | true => exact closed_bits hw hk hc n n (Nat.le_refl _) (by omega) hO2 (hneed _ hr2 n hn (by omega) hO2) j hj.1 h5
          | false =>
            have := bits_out hw hk n n (Nat.le_refl _) (by omega) hO2 j h5
            rw [hj.1] at this
            cases this
      have hoff : ∀ d, (O.contains d && (B.getD d 0).testBit i) = true → b d = false := by
        intro d hd
        rw [Bool.and_eq_true] at hd
        cases hbd : b d with
        | false => rfl
        | true =>
          have hdl := baseOk_lt hk (List.contains_iff_mem.1 hd.1)
          have := closed_bits hw hk hc d d (Nat.le_refl _) hdl hd.1 hbd i hO hd.2
          rw [hb] at this
          cases this
      obtain ⟨oi, hoi, hK⟩ := hs i (List.contains_iff_mem.1 hO) b a w hI hb hon hoff
      refine wpOp_step hoi (fun K' hK' => hK K' (fun a' w' hI' => hK' a' w' ⟨fun _ _ => trivial, ?_⟩))
      have hset : (lof (rtab md ops).2.length O b).toArray.setIfInBounds i true = (lof (rtab md ops).2.length O (up b i)).toArray := by
        apply Array.ext'
        rw [Array.toList_setIfInBounds]
        exact lof_up hO
      rw [hset]
      refine ih (up b i) a' w' ?_ ?_ hI'
      · have := up_count (baseOk_nodup hk) (List.contains_iff_mem.1 hO) hb
        omega
      · intro d r hr hOd hbd n hn hOn
        by_cases hni : n = i
        · rw [hni, up_self]
        · rw [up_ne hni]
          by_cases hdi : d = i
          · subst hdi
            exact hneed r hr n hn (by have := (baseOk_row hk hr).2 n hn; omega) hOn
          · rw [up_ne hdi] at hbd
            exact hc d r hr hOd hbd n hn hOn
theorem putSel_off {b : Nat → Bool} {t : Tmp} : ∀ {L : List (Nat × Tmp × Value)} {a : Act}, (L.all fun e => !(e.2.1 == t)) = true → (putSel a b L).tmps[t]? = a.tmps[t]?
  | [], _, _ => rfl
  | e :: r, a, h => by
    rw [List.all_cons, Bool.and_eq_true] at h
    have he : e.2.1 ≠ t := by simpa using h.1
    unfold putSel
    by_cases hb : b e.1 = true
    · rw [if_pos hb, putSel_off h.2]
      simp [Act.put, Array.getElem?_setIfInBounds_ne he]
    · rw [if_neg hb]
      exact putSel_off h.2
theorem putSel_on {b : Nat → Bool} {e : Nat × Tmp × Value} : ∀ {L : List (Nat × Tmp × Value)} {a : Act} (k : Nat), L[k]? = some e → ((L.drop (k + 1)).all fun x => !(x.2.1 == e.2.1)) = true → b e.1 = true → Nat.ble (e.2.1 + 1) a.tmps.size = true → (putSel a b L).tmps[e.2.1]? = some e.2.2
  | [], _, _, h, _, _, _ => by cases h
  | x :: r, a, 0, h, hd, hb, ht => by
    simp only [List.getElem?_cons_zero, Option.some.injEq] at h
    subst h
    unfold putSel
    rw [if_pos hb, putSel_off (by simpa using hd)]
    have ht2 : x.2.1 < a.tmps.size := Nat.le_of_ble_eq_true ht
    simp [Act.put, ht2]
  | x :: r, a, k + 1, h, hd, hb, ht => by
    unfold putSel
    refine putSel_on k (by simpa using h) (by simpa using hd) hb ?_
    by_cases hx : b x.1 = true
    · rw [if_pos hx]
      simpa [Act.put] using ht
    · rw [if_neg hx]
      exact ht
theorem put_comm {a : Act} {s t : Tmp} {u v : Value} (h : s ≠ t) : (a.put (some s) u).put (some t) v = (a.put (some t) v).put (some s) u := by
  simp only [Act.put]
  rw [Array.setIfInBounds_comm _ _ h]
theorem putSel_put {b : Nat → Bool} {t : Tmp} {v : Value} : ∀ {L : List (Nat × Tmp × Value)} {a : Act}, (L.all fun e => !(e.2.1 == t)) = true → (putSel a b L).put (some t) v = putSel (a.put (some t) v) b L
  | [], _, _ => rfl
  | e :: r, a, h => by
    rw [List.all_cons, Bool.and_eq_true] at h
    have he : e.2.1 ≠ t := by simpa using h.1
    unfold putSel
    by_cases hb : b e.1 = true
    · rw [if_pos hb, if_pos hb, putSel_put h.2, put_comm he]
    · rw [if_neg hb, if_neg hb]
      exact putSel_put h.2
theorem putSel_same {b : Nat → Bool} {i : Nat} : ∀ {L : List (Nat × Tmp × Value)} {a : Act}, (L.all fun e => !(e.1 == i)) = true → putSel a (up b i) L = putSel a b L
  | [], _, _ => rfl
  | e :: r, a, h => by
    rw [List.all_cons, Bool.and_eq_true] at h
    have he : e.1 ≠ i := by simpa using h.1
    unfold putSel
    rw [up_ne he]
    exact putSel_same h.2
theorem putSel_up {b : Nat → Bool} {i : Nat} {t : Tmp} {v0 v : Value} : ∀ {L1 L2 : List (Nat × Tmp × Value)} {a : Act}, b i = false → ((L1 ++ L2).all fun e => !(e.1 == i) && !(e.2.1 == t)) = true →
    (putSel a b (L1 ++ (i, t, v0) :: L2)).put (some t) v = putSel a (up b i) (L1 ++ (i, t, v) :: L2)
  | [], L2, a, hb, h => by
    simp only [List.nil_append] at h ⊢
    have h1 : (L2.all fun e => !(e.1 == i)) = true := List.all_eq_true.2 (fun e he => by have := List.all_eq_true.1 h e he; simp only [Bool.and_eq_true] at this; exact this.1)
    have h2 : (L2.all fun e => !(e.2.1 == t)) = true := List.all_eq_true.2 (fun e he => by have := List.all_eq_true.1 h e he; simp only [Bool.and_eq_true] at this; exact this.2)
    unfold putSel
    rw [if_neg (by rw [hb]; decide), if_pos (up_self b i), putSel_put h2, putSel_same h1]
  | e :: r, L2, a, hb, h => by
    simp only [List.cons_append, List.all_cons, Bool.and_eq_true] at h
    have he : e.1 ≠ i := by simpa using h.1.1
    simp only [List.cons_append]
    unfold putSel
    rw [up_ne he]
    exact putSel_up hb h.2
theorem putSel_upk {b : Nat → Bool} {i : Nat} {t : Tmp} {v0 v : Value} {a : Act} {L L' : List (Nat × Tmp × Value)} (k : Nat) (hb : b i = false) (hL : L[k]? = some (i, t, v0)) (hL' : L.set k (i, t, v) = L') (hd : ((L.take k ++ L.drop (k + 1)).all fun e => !(e.1 == i) && !(e.2.1 == t)) = true) :
    (putSel a b L).put (some t) v = putSel a (up b i) L' := by
  have hk := (List.getElem?_eq_some_iff.1 hL).1
  have h1 : L = L.take k ++ (i, t, v0) :: L.drop (k + 1) := by
    have h2 : L[k] = (i, t, v0) := (List.getElem?_eq_some_iff.1 hL).2
    rw [← h2, List.getElem_cons_drop, List.take_append_drop]
  have h3 : L' = L.take k ++ (i, t, v) :: L.drop (k + 1) := by rw [← hL', List.set_eq_take_append_cons_drop, if_pos hk]
  rw [h3]
  conv => lhs; rw [h1]
  exact putSel_up hb hd
theorem putSel_none {b : Nat → Bool} {i : Nat} {L : List (Nat × Tmp × Value)} {a : Act} {v : Value} (h : (L.all fun e => !(e.1 == i)) = true) : (putSel a b L).put none v = putSel a (up b i) L := (putSel_same h).symm
theorem inv_ {l : Array Bool} {fuel : Nat} {a : Act} {w : World} (O : List Nat) (I : (Nat → Bool) → Act → World → Prop) (hT : rtab md ops = T) (hw : waitsOk T.2 B = true) (hk : baseOk T.2 O = true)
    (hl : (lof T.2.length O (fun _ => false) == l.toList && O.length == fuel) = true) (h0 : I (fun _ => false) a w) (hs : ∀ i ∈ O, StepAt P ops Q B O I i)
    (hend : ∀ b a w, (∀ j, O.contains j = true → b j = true) → I b a w → Q .normal a w) : wpAnyLast P md ops Q (fun _ => True) [] fuel l a w := by
  rw [Bool.and_eq_true, beq_iff_eq, beq_iff_eq] at hl
  have h1 := inv_all hT hw hk I hs hend fuel (fun _ => false) a w (by rw [← hl.2]; simp) (fun d r _ _ hb => by cases hb) h0
  have h2 : (lof T.2.length O (fun _ => false)).toArray = l := by apply Array.ext'; exact hl.1
  rw [h2] at h1
  exact h1
theorem inv_at {l : Array Bool} {fuel : Nat} {a : Act} {w : World} (O : List Nat) (I : Act → (Nat → Bool) → Act → World → Prop) (hT : rtab md ops = T) (hw : waitsOk T.2 B = true) (hk : baseOk T.2 O = true)
    (hl : (lof T.2.length O (fun _ => false) == l.toList && O.length == fuel) = true) (h0 : I a (fun _ => false) a w) (hs : ∀ i ∈ O, StepAt P ops Q B O (I a) i)
    (hend : ∀ b a' w, (∀ j, O.contains j = true → b j = true) → I a b a' w → Q .normal a' w) : wpAnyLast P md ops Q (fun _ => True) [] fuel l a w := inv_ O (I a) hT hw hk hl h0 hs hend
end
end Go.Proofs.YtejgfblphgcgkaaGreatDoorW.PrintLast
-- PRINTED BY print.sh 35421559b90ae4d0a3588c463048766b98c2df88dd9212a6774a882060cdf62d: not written by this session
namespace Go.Proofs.YtejgfblphgcgkaaGreatDoorW.PrintWords
open Go.RowKit
section
variable {P : Program} {ops : Array Oper} {rest : List Oper} {o : Oper} {a : Act} {Q : Exit → Act → World → Prop} {W : World}
theorem gate_guard (hw : Region.wanted o (yielded ops a.tmps) = true) (h : wpList P ops Q ({ o with guard := none } :: rest) a W) : wpList P ops Q (o :: rest) a W := by
  have h1 : Region.wanted { o with guard := none } (yielded ops a.tmps) = true := rfl
  unfold wpList at h ⊢
  rw [if_pos h1] at h
  rw [if_pos hw]
  exact h
end
end Go.Proofs.YtejgfblphgcgkaaGreatDoorW.PrintWords
-- PRINTED BY print.sh 35421559b90ae4d0a3588c463048766b98c2df88dd9212a6774a882060cdf62d: not written by this session
-- PRINTED WORDS (module Derived/Print/More.lean): go-gate-2's additions: an AI agent of Go's test side, Tue Nov 17 2026; no person has read it. Lean checks it.
namespace Go.Proofs.YtejgfblphgcgkaaGreatDoorW.PrintMore
open Go.RowKit Go.Proofs.YtejgfblphgcgkaaGreatDoorW.PrintWords
namespace Kd
open Go.Proofs.YtejgfblphgcgkaaGreatDoorW.PrintWords.Kd
end Kd
namespace Kd
open Go.Proofs.YtejgfblphgcgkaaGreatDoorW.PrintWords.Kd
section
variable {α : Type} {d : Kd α} {e base g N : Nat} {ok : Nat → Prop} {W w1 : World} {u v : Value} {xs : List α}
end
end Kd
theorem max2_int (k k' : IntKind) (x y : Int) : Builtin.max2 (.int k x) (.int k' y) = pure (.int k (if x < y then y else x)) := by simp only [Builtin.max2, gt_iff_lt]
theorem min2_int (k k' : IntKind) (x y : Int) : Builtin.min2 (.int k x) (.int k' y) = pure (.int k (if y < x then y else x)) := by simp only [Builtin.min2]
theorem max_two (ats : Array TypeId) (ty : TypeId) (a b : Value) : Builtin.max_ ats ty #[a, b] = (Builtin.max2 a b >>= fun s => pure s) := by simp only [Builtin.max_, List.foldlM_cons, List.foldlM_nil]
theorem min_two (ats : Array TypeId) (ty : TypeId) (a b : Value) : Builtin.min_ ats ty #[a, b] = (Builtin.min2 a b >>= fun s => pure s) := by simp only [Builtin.min_, List.foldlM_cons, List.foldlM_nil]
theorem max_three (ats : Array TypeId) (ty : TypeId) (a b c : Value) : Builtin.max_ ats ty #[a, b, c] = (Builtin.max2 a b >>= fun s => Builtin.max2 s c >>= fun s => pure s) := by simp only [Builtin.max_, List.foldlM_cons, List.foldlM_nil]
theorem min_three (ats : Array TypeId) (ty : TypeId) (a b c : Value) : Builtin.min_ ats ty #[a, b, c] = (Builtin.min2 a b >>= fun s => Builtin.min2 s c >>= fun s => pure s) := by simp only [Builtin.min_, List.foldlM_cons, List.foldlM_nil]
theorem max_four (ats : Array TypeId) (ty : TypeId) (a b c d : Value) : Builtin.max_ ats ty #[a, b, c, d] = (Builtin.max2 a b >>= fun s => Builtin.max2 s c >>= fun s => Builtin.max2 s d >>= fun s => pure s) := by simp only [Builtin.max_, List.foldlM_cons, List.foldlM_nil]
theorem min_four (ats : Array TypeId) (ty : TypeId) (a b c d : Value) : Builtin.min_ ats ty #[a, b, c, d] = (Builtin.min2 a b >>= fun s => Builtin.min2 s c >>= fun s => Builtin.min2 s d >>= fun s => pure s) := by simp only [Builtin.min_, List.foldlM_cons, List.foldlM_nil]
end Go.Proofs.YtejgfblphgcgkaaGreatDoorW.PrintMore
namespace Go.Proofs.YtejgfblphgcgkaaGreatDoorW.PrintWords
open Go.RowKit
section
variable {P : Program} {ops : Array Oper} {rest : List Oper} {o : Oper} {a : Act} {Q : Exit → Act → World → Prop} {W : World}
theorem gate_callee {f : FuncId} {as : Array Operand} {ts : Array TypeId} (_ho : o.op = .call { callee := .value (.func f), args := as, argTypes := ts }) (h : wpList P ops Q (o :: rest) a W) : wpList P ops Q (o :: rest) a W := h
theorem gate_builtin {b : Builtin} {xs : Array Operand} {ts : Array TypeId} (_ho : o.op = .call { callee := .builtin b, args := xs, argTypes := ts }) (h : wpList P ops Q (o :: rest) a W) : wpList P ops Q (o :: rest) a W := h
end
theorem drewN_self (w : World) (n : Nat) : w.drewN n = w.drewN n := rfl
namespace Kd
section
variable {α : Type} {d : Kd α} {e base : Nat} {ok : Nat → Prop} {W w1 : World} {v : Value} {xs : List α}
end
section
variable {α : Type} {d : Kd α} {e base g n cap : Nat} {ok oki okp : Nat → Prop} {W : World} {xs : List α} {i : Int} {c : List Value}
end
section
variable {α : Type} {d : Kd α} {e base b b' g N : Nat} {ok ok1 : Nat → Prop} {W W2 w1 : World} {u v : Value} {xs ys : List α} {S : Nat → Prop}
end
end Kd
end Go.Proofs.YtejgfblphgcgkaaGreatDoorW.PrintWords
namespace Go.Proofs.YtejgfblphgcgkaaGreatDoorW.PrintWords
open Go.RowKit
namespace Kd
def V {α : Type} (d : Kd α) (_e : Nat) (W : World) (_base : Nat) (ok : Nat → Prop) (v : Value) (xs : List α) : Prop := ∃ A c, v = .slice A xs.length c ∧ xs.length ≤ c ∧ F d W ok A xs.length xs
section
variable {α β : Type} {d : Kd α} {e base base' n m c g N' lo hi : Nat} {ok ok' S : Nat → Prop} {w W w1 : World} {A : Option Addr} {ad : Addr} {u v v1 : Value} {xs : List α}
theorem V_nil (d : Kd α) (e : Nat) (W : World) (base : Nat) (ok : Nat → Prop) : V d e W base ok (.slice none 0 0) [] := ⟨none, 0, rfl, Nat.le_refl _, F_nil d W ok⟩
end
end Kd
end Go.Proofs.YtejgfblphgcgkaaGreatDoorW.PrintWords
-- PRINTED BY print.sh 35421559b90ae4d0a3588c463048766b98c2df88dd9212a6774a882060cdf62d: not written by this session
-- PRINTED WORDS (module Derived/Print/Sized.lean): go-gate-2's, for the rows of laws over slices: an AI agent of Go's test side, Tue Nov 17 2026; no person has read it. Lean checks it.
namespace Go.Proofs.YtejgfblphgcgkaaGreatDoorW.PrintWords
open Go.ChangeShapes Go.WideShapes
theorem sized_ints {H : Type} {enc : TypeId × Value → H} {P : Program} {W : World} {base : Nat} {spare : Nat → Bool} {held : Bool} {t e : TypeId} {k : IntKind} {a : Option Addr} {len cap : Nat} {d : DataW H} {ps : List MemPlace} {ts : List TypeId} {ds : List (DataW H)} {j : Nat}
    (hsz : (DataW.weightsEach P ts ds).all (· ≤ reachBytes) = true) (ht : ts[j]? = some t) (hd : ds[j]? = some d) (hu : P.underlying t = some (.slice e)) (he : P.underlying e = some (.int k)) (hc : P.cellsOf e = 1) {B : Nat} (hB : P.bytesOf e = B)
    (h : DataW.Trod enc P W base spare held t (.slice a len cap) d ps) : len * B ≤ 140737488351232 := by
  obtain ⟨fuel, hf⟩ := h
  rcases open_ints hu he hc hf with ⟨hcs, _⟩ | ⟨x, l, c, zs, hcs, _, hl, _, hz, hx, _, _⟩
  · simp [Value.cells] at hcs
    obtain ⟨rfl, rfl, rfl⟩ := hcs
    simp
  · simp [Value.cells] at hcs
    obtain ⟨rfl, rfl, rfl⟩ := hcs
    obtain ⟨hx, _⟩ := Prod.mk.inj hx
    subst hx
    have z := sized_slice hsz ht hd hu
    rw [hB] at z
    have hl2 : len ≤ zs.length := by
      rw [hz]
      split
      · exact hl
      · exact Nat.le_refl _
    have h1 : (lits (H := H) k (zs.take len)).length + (lits (H := H) k (zs.drop len)).length = zs.length := by
      simp [lits]
      omega
    rw [h1] at z
    exact Nat.le_trans (Nat.mul_le_mul_right _ hl2) z
end Go.Proofs.YtejgfblphgcgkaaGreatDoorW.PrintWords
