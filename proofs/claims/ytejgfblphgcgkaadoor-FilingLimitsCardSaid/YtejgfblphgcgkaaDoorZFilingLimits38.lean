/- Texts for the law FilingLimits (kept out of a larger one). -/
import Derived.Test.YtejgfblphgcgkaaDoorZFilingLimits11
import Derived.Test.YtejgfblphgcgkaaDoorZFilingLimits13
import Derived.Test.YtejgfblphgcgkaaDoorZFilingLimits22
import Derived.Test.YtejgfblphgcgkaaDoorZFilingLimits28
import Derived.Test.YtejgfblphgcgkaaDoorZFilingLimits30
import Derived.Test.YtejgfblphgcgkaaDoorZFilingLimits29
import Derived.Test.YtejgfblphgcgkaaDoorZFilingLimits36
import Derived.Test.YtejgfblphgcgkaaDoorZFilingLimits37
import Derived.Test.YtejgfblphgcgkaaDoorZFilingLimits25
import Derived.Test.YtejgfblphgcgkaaDoorZFilingLimits33
import Derived.WalkKit
namespace Go.Proofs.YtejgfblphgcgkaaDoor.P
set_option linter.unusedVariables false
set_option linter.unusedSimpArgs false
open Go.RowKit Go.Proofs.YtejgfblphgcgkaaDoorW.PrintWords
def limL (i : Nat) : List UInt8 := [UInt8.ofNat (97 + i / 26), UInt8.ofNat (97 + i % 26), 113]
def limX (i : Nat) : S28 := ⟨4, ⟨(limL i).toArray⟩, 1⟩
theorem lim_spelled (i : Nat) (h : i ≤ 257) : strOfNums [(wrap64 (97 + (wrap64 (Int.tdiv (i : Int) 26)))) % 256, (wrap64 (97 + (Int.tmod (i : Int) 26))) % 256, 113] = ⟨(limL i).toArray⟩ := by
  apply ByteArray.ext
  apply Array.toList_inj.1
  rw [strOfNums_data]
  have e1 : wrap64 (Int.tdiv (i : Int) 26) = ((i / 26 : Nat) : Int) := by
    rw [show Int.tdiv (i : Int) 26 = ((i / 26 : Nat) : Int) from rfl]; unfold wrap64; omega
  have e2 : Int.tmod (i : Int) 26 = ((i % 26 : Nat) : Int) := rfl
  have e3 : (wrap64 (97 + ((i / 26 : Nat) : Int))) % 256 = ((97 + i / 26 : Nat) : Int) := by unfold wrap64; omega
  have e4 : (wrap64 (97 + ((i % 26 : Nat) : Int))) % 256 = ((97 + i % 26 : Nat) : Int) := by unfold wrap64; omega
  rw [e1, e2, e3, e4]
  rfl
theorem lim_good : ∀ i : Nat, i < 257 → goodX (limX i) = true := by
  have h : (List.range 257).all (fun i => goodX (limX i)) = true := by decide +kernel
  intro i hi
  exact List.all_eq_true.1 h i (List.mem_range.2 hi)
theorem lim_less : ∀ i : Nat, i < 256 → ltX (limX i) (limX (i + 1)) = true := by
  have h : (List.range 256).all (fun i => Op.bytesLess (limL i) (limL (i + 1))) = true := by decide +kernel
  intro i hi
  have hb := List.all_eq_true.1 h i (List.mem_range.2 hi)
  have e : ∀ j, (limX j).f1.toList = limL j := fun j => by rw [Lib.toList_data]; show (limL j).toArray.toList = _; simp
  unfold ltX orI
  have h4 : cmpI (limX i).f0 (limX (i + 1)).f0 = 0 := (rfl : cmpI 4 4 = 0)
  rw [h4, if_pos rfl]
  unfold cmpB
  rw [e, e, if_pos hb]; rfl
def limR (n : Nat) : List S28 := (List.range n).map limX
theorem limR_succ (n : Nat) : limR (n + 1) = limR n ++ [limX n] := by
  unfold limR; rw [List.range_succ, List.map_append]; rfl
theorem lim_from : ∀ (m i : Nat) (o : Option S28), i + m ≤ 257 → (∀ y, o = some y → 1 ≤ m → ltX y (limX i) = true) → chkL o ((List.range' i m).map limX) = true := by
  intro m
  induction m with
  | zero => intro i o _ _; rfl
  | succ m ih =>
    intro i o hi ho
    rw [List.range'_succ, List.map_cons]
    unfold chkL
    rw [lim_good i (by omega)]
    have h2 := ih (i + 1) (some (limX i)) (by omega) (fun y hy hm => by injection hy with hy; rw [← hy]; exact lim_less i (by omega))
    rw [h2]
    cases o with
    | none => rfl
    | some y => show (true && ltX y (limX i) && true) = true; rw [ho y rfl (by omega)]; rfl
theorem lim_chk (n : Nat) (h : n ≤ 257) : chkL none (limR n) = true := by
  unfold limR
  rw [List.range_eq_range']
  exact lim_from n 0 none (by omega) (fun y hy => by cases hy)
theorem lim_len (n : Nat) : (limR n).length = n := by unfold limR; simp
theorem lim_valid (n : Nat) (h : n ≤ 257) : validP 0 1 (limR n) = decide (n ≤ 256) := by
  unfold validP
  rw [lim_chk n h, lim_len]
  simp
theorem zero_dec (n : Nat) (h1 : 5 ≤ n) (h2 : n ≤ 100000) : decP (strOfNums (List.replicate n 0)) = (0, 0, [], if 65536 < n then 3 else 6) := by
  have hs : (strOfNums (List.replicate n 0)).size = n := by rw [strOfNums_size, List.length_replicate]
  have hd : (strOfNums (List.replicate n 0)).data.toList = List.replicate n 0 := by rw [strOfNums_data, List.map_replicate]; rfl
  unfold decP
  rw [hs]
  by_cases h : 65536 < n
  · rw [if_pos h, if_pos h]
  · rw [if_neg h, if_neg h]
    have he : endsP (strOfNums (List.replicate n 0)) = false := by
      unfold endsP
      rw [Bool.and_eq_false_iff]
      right
      apply decide_eq_false
      intro e
      rw [Lib.toList_data, ByteArray.data_extract, Array.toList_extract, hd, hs] at e
      have : (10 : UInt8) ∈ (List.replicate n (0 : UInt8)).extract (n - 5) n := by rw [e]; unfold endsB; simp
      have h3 := List.mem_of_mem_drop (List.mem_of_mem_take this)
      have := List.eq_of_mem_replicate h3
      exact absurd this (by decide)
    have hr : readP (strOfNums (List.replicate n 0)) = (0, 0, [], false) := by
      unfold readP; rw [he, if_neg (by decide)]
    rw [hr, if_neg (fun h => by cases h.1)]
theorem lim_end (n : Nat) (h0 : 255 ≤ n) (h1 : n ≤ 257) (a1 : Int) (x5 : Int) (hx : x5 = (n : Int)) : Ev (fun k => (filing_Encode.f k 0 1 (limR n)).bind fun bt200 => ((filing_Decode.f k bt200.1).bind fun bt202 => ((paygen_Mod.f a1 3).bind fun t209 => (if 0 ≤ (wrap64 (65535 + t209)) then (if (wrap64 (65535 + t209) : Int).toNat ≤ 281474976710656 then ((some (List.replicate (wrap64 (65535 + t209) : Int).toNat 0 : List Int)).bind fun y210 => ((filing_Decode.f k (strOfNums y210)).bind fun bt213 => (if (y210.length : Int) > 65536 then (payrolllaw43_FilingLimits.j1 k x5 bt200.1 bt200.2 bt202.2.2.2 bt213.2.2.2 3 0 1 (limR n) bt202.1 bt202.2.1 bt202.2.2.1) else (payrolllaw43_FilingLimits.j1 k x5 bt200.1 bt200.2 bt202.2.2.2 bt213.2.2.2 6 0 1 (limR n) bt202.1 bt202.2.1 bt202.2.2.1)))) else (none)) else (none))))) true := by
  have hl := lim_len n
  have hv := lim_valid n h1
  have he := encode_ev (p := 0) (v := 1) (l := limR n) (by omega)
  refine Ev.bind he (Ev.bind (decode_ev _) ?_)
  obtain ⟨v, m1, m2, m3⟩ := deck_mod a1 3 (by omega) (by omega)
  have ew : wrap64 (65535 + v) = ((65535 + v.toNat : Nat) : Int) := by unfold wrap64; omega
  refine Ev.bindc m1 ?_
  rw [ew]
  refine Ev.ifp (by omega) (Ev.ifp (by omega) (Ev.bindc rfl ?_))
  rw [Int.toNat_natCast]
  refine Ev.bind (decode_ev _) ?_
  rw [zero_dec _ (by omega) (by omega)]
  have fin : ∀ c : Int, (c = if 65536 < 65535 + v.toNat then 3 else 6) → Ev (fun k => payrolllaw43_FilingLimits.j1 k x5 (if validP 0 1 (limR n) = true then (encB 0 1 (limR n), (0 : Int)) else (⟨#[]⟩, 1)).1 (if validP 0 1 (limR n) = true then (encB 0 1 (limR n), (0 : Int)) else (⟨#[]⟩, 1)).2 (decP (if validP 0 1 (limR n) = true then (encB 0 1 (limR n), (0 : Int)) else (⟨#[]⟩, 1)).1).2.2.2 (if 65536 < 65535 + v.toNat then 3 else 6) c 0 1 (limR n) (decP (if validP 0 1 (limR n) = true then (encB 0 1 (limR n), (0 : Int)) else (⟨#[]⟩, 1)).1).1 (decP (if validP 0 1 (limR n) = true then (encB 0 1 (limR n), (0 : Int)) else (⟨#[]⟩, 1)).1).2.1 (decP (if validP 0 1 (limR n) = true then (encB 0 1 (limR n), (0 : Int)) else (⟨#[]⟩, 1)).1).2.2.1) true := by
    intro c hc
    refine Ev.step (fun k => by simp only [payrolllaw43_FilingLimits.j1]; rfl) ?_
    refine Ev.ifp hc.symm (Ev.bind (valid_ev 0 1 (limR n) (by omega)) ?_)
    rw [hv, hx]
    have hf : (decide (n ≤ 256) != decide ((n : Int) ≤ 256)) = false := by
      by_cases h : n ≤ 256
      · rw [decide_eq_true h, decide_eq_true (by omega)]; rfl
      · rw [decide_eq_false h, decide_eq_false (by omega)]; rfl
    rw [hf]
    refine Ev.step (fun k => by simp only [payrolllaw43_FilingLimits.j2]; rfl) ?_
    refine Ev.ifn (by decide) ?_
    by_cases h : n ≤ 256
    · rw [decide_eq_true h] at hv ⊢
      have hd := decP_enc hv
      refine Ev.ifn (by omega) ?_
      refine Ev.ifp rfl ?_
      rw [if_pos rfl, hd]
      exact Ev.ifp rfl (Ev.ifp (by show ((limR n).length : Int) = _; rw [hl]) (Ev.bind awake_ev (Ev.now _)))
    · rw [decide_eq_false h]
      refine Ev.ifp (by omega) ?_
      refine Ev.ifp rfl (Ev.ifp ?_ (Ev.bind awake_ev (Ev.now _)))
      rw [if_neg (by decide), Lib.toList_data]
  by_cases h : 65536 < 65535 + v.toNat
  · refine Ev.ifp (by rw [List.length_replicate]; omega) ?_
    exact fin 3 (by rw [if_pos h])
  · refine Ev.ifn (by rw [List.length_replicate]; omega) ?_
    exact fin 6 (by rw [if_neg h])
theorem lim_loop (n : Nat) (h0 : 255 ≤ n) (h1 : n ≤ 257) (a1 : Int) : ∀ (m i : Nat), i + m = n → Ev (fun k => payrolllaw43_FilingLimits.l0 k a1 (n : Int) (i : Int) 0 1 (limR i)) true := by
  intro m
  induction m with
  | zero =>
    intro i hi
    have : i = n := by omega
    subst this
    refine Ev.step (fun k => by simp only [payrolllaw43_FilingLimits.l0]; rfl) ?_
    refine Ev.ifn (by omega) ?_
    exact lim_end i h0 h1 a1 _ rfl
  | succ m ih =>
    intro i hi
    have e1 : wrap64 ((i : Int) + 1) = ((i + 1 : Nat) : Int) := by unfold wrap64; omega
    have hl := lim_len i
    have := ih (i + 1) (by omega)
    refine Ev.step (fun k => by simp only [payrolllaw43_FilingLimits.l0]; rfl) ?_
    refine Ev.ifp (by omega) (Ev.ifp (by omega) ?_)
    rw [e1, lim_spelled i (by omega)]
    rw [limR_succ] at this
    exact this
theorem FilingLimits (a0 a1 : Int) (h1 : (Lit.int .i64 a0).wf = true) (h2 : (Lit.int .i64 a1).wf = true) : ∃ k, payrolllaw43_FilingLimits.f k a0 a1 = some true := by
  refine Ev.rounds ?_
  unfold payrolllaw43_FilingLimits.f
  obtain ⟨v, m1, m2, m3⟩ := deck_mod a0 3 (by omega) (by omega)
  refine Ev.bindc m1 ?_
  have e : wrap64 (255 + v) = ((255 + v.toNat : Nat) : Int) := by unfold wrap64; omega
  rw [e]
  exact lim_loop (255 + v.toNat) (by omega) (by omega) a1 (255 + v.toNat) 0 (by omega)
end Go.Proofs.YtejgfblphgcgkaaDoor.P
