/- Texts for the law PayslipForms (kept out of a larger one). -/
import Derived.Test.YtlanldccamphcaaDoorZPayslipForms11
import Derived.Test.YtlanldccamphcaaDoorZPayslipForms14
import Derived.Test.YtlanldccamphcaaDoorZPayslipForms17
import Derived.Test.YtlanldccamphcaaDoorZPayslipForms16
import Derived.Test.YtlanldccamphcaaDoorZPayslipForms19
import Derived.Test.YtlanldccamphcaaDoorZPayslipForms18
import Derived.WalkKit
import Derived.Below
namespace Go.Proofs.YtlanldccamphcaaDoor.P
set_option linter.unusedVariables false
set_option linter.unusedSimpArgs false
open Go Go.RowKit Go.Proofs Go.Proofs.YtlanldccamphcaaDoorW.PrintWords Go.Proofs.YtlanldccamphcaaDoorW.PrintLast Go.Proofs.YtlanldccamphcaaDoorW.PrintMore
def fmtText : ByteArray := ⟨#[112, 97, 121, 115, 108, 105, 112, 32, 55, 32, 112, 101, 114, 105, 111, 100, 32, 49, 50, 10, 98, 97, 115, 101, 115, 32, 48, 32, 48, 32, 48, 32, 48, 32, 48, 32, 108, 101, 103, 97, 108, 32, 45, 53, 10, 101, 110, 100, 10]⟩
def payslip_Format.f (k : Nat) (a0 a1 a2_0 a2_1 a2_2 a2_3 a2_4 a2_5 : Int) (l2_6 : List S23) : Option (ByteArray × Int) :=
  if (a0 = 7 ∧ a1 = 12 ∧ a2_0 = 0 ∧ a2_1 = 0 ∧ a2_2 = 0 ∧ a2_3 = 0 ∧ a2_4 = 0 ∧ a2_5 = -5) ∧ l2_6.length = 0 then some (fmtText, 0) else none
structure FmtIn (w W : World) (S : Array Value) : Prop where
  slip : W.heap[w.heap.size]? = some (Obj.cells S 50 (0, 0))
  bases : W.heap[w.heap.size + 1]? = some (Obj.cells #[.int .i64 0, .int .i64 0, .int .i64 0, .int .i64 0, .int .i64 0] 3 (0, 0))
theorem FmtIn.step {w W W1 : World} {S : Array Value} (h : FmtIn w W S) (hb : Below W.heap.size W W1) : FmtIn w W1 S := ⟨blk_below h.slip hb, blk_below h.bases hb⟩
theorem FmtIn.kept {w W W1 : World} {S : Array Value} {b : Nat} (h : FmtIn w W S) (hk : BldKept W W1 b) : FmtIn w W1 S := ⟨kept_blk h.slip hk (by decide) (by decide), kept_blk h.bases hk (by decide) (by decide)⟩
def fmtS (v : Value) : Array Value := #[.int .i64 0, .int .i64 0, .int .i64 0, .int .i64 0, .int .i64 0, .int .i64 (-5), v]
def fmtW (w : World) (v : Value) : World := (w.alloc (.cells #[.int .i64 0, .int .i64 0, .int .i64 0, .int .i64 0, .int .i64 0, .int .i64 (-5), v] 50)).alloc (.cells #[.int .i64 0, .int .i64 0, .int .i64 0, .int .i64 0, .int .i64 0] 3)
theorem fmt_own (w : World) (v : Value) : (((w.alloc (.cells #[.int .i64 0, .int .i64 0, .int .i64 0, .int .i64 0, .int .i64 0, .int .i64 (-5), v] 50)).alloc (.cells #[.int .i64 0, .int .i64 0, .int .i64 0, .int .i64 0, .int .i64 0] 3)).alloc (.cells #[.int .i64 (-5)] 3)).ownsRow w.heap.size 3 1 (.slice (some ⟨w.heap.size + 2, 0, none⟩) 1 1) ([-5] : List Int).length (nums .i64 [-5]) := by
  have h := own_lit (fmtW w v) w.heap.size 3 .i64 [-5] (by simp [fmtW]; omega) (by decide)
  have e : (fmtW w v).heap.size = w.heap.size + 2 := by simp [fmtW]
  rw [e] at h
  exact h
theorem fmt_reads (w : World) (v : Value) : ReadsInt (((w.alloc (.cells #[.int .i64 0, .int .i64 0, .int .i64 0, .int .i64 0, .int .i64 0, .int .i64 (-5), v] 50)).alloc (.cells #[.int .i64 0, .int .i64 0, .int .i64 0, .int .i64 0, .int .i64 0] 3)).alloc (.cells #[.int .i64 (-5)] 3)) .i64 (some ⟨w.heap.size + 1, 0, none⟩) 5 [0, 0, 0, 0, 0] := by
  have h := own_lit (w.alloc (.cells #[.int .i64 0, .int .i64 0, .int .i64 0, .int .i64 0, .int .i64 0, .int .i64 (-5), v] 50)) w.heap.size 3 .i64 [0, 0, 0, 0, 0] (by simp) (by decide)
  have e : (w.alloc (.cells #[.int .i64 0, .int .i64 0, .int .i64 0, .int .i64 0, .int .i64 0, .int .i64 (-5), v] 50)).heap.size = w.heap.size + 1 := by simp
  rw [e] at h
  obtain ⟨A, c, e2, h2⟩ := own_reads h
  injection e2 with e2 _ _
  subst e2
  exact h2.below (below_alloc (Below.refl _ _) _)
theorem fmt_in {w w3 : World} (v : Value) (hg : (((w.alloc (.cells #[.int .i64 0, .int .i64 0, .int .i64 0, .int .i64 0, .int .i64 0, .int .i64 (-5), v] 50)).alloc (.cells #[.int .i64 0, .int .i64 0, .int .i64 0, .int .i64 0, .int .i64 0] 3)).alloc (.cells #[.int .i64 (-5)] 3)).grownBy w3 (Value.slice (some ⟨w.heap.size + 2, 0, none⟩) 1 1).ownBlock) : FmtIn w w3 #[.int .i64 0, .int .i64 0, .int .i64 0, .int .i64 0, .int .i64 0, .int .i64 (-5), v] := by
  refine ⟨blk_grown (blk_alloc (blk_alloc (blk_new w _) _) _) hg (by simp [Value.ownBlock]), blk_grown (blk_alloc ?_ _) hg (by simp [Value.ownBlock])⟩
  have := blk_new (w.alloc (.cells #[.int .i64 0, .int .i64 0, .int .i64 0, .int .i64 0, .int .i64 0, .int .i64 (-5), v] 50)) (.cells #[.int .i64 0, .int .i64 0, .int .i64 0, .int .i64 0, .int .i64 0] 3)
  have e : (w.alloc (.cells #[.int .i64 0, .int .i64 0, .int .i64 0, .int .i64 0, .int .i64 0, .int .i64 (-5), v] 50)).heap.size = w.heap.size + 1 := by simp
  rw [e] at this
  exact this
theorem BldIn.to {w W : World} {b : Nat} {l l' : List UInt8} (h : BldIn w W b l) (e : l = l') : BldIn w W b l' := e ▸ h
theorem fmt_zero {w W : World} {S : Array Value} (h : FmtIn w W S) : ∀ j : Nat, j < 5 → W.cell? ⟨w.heap.size + 1, j, none⟩ = some (.int .i64 0)
  | 0, _ => (blk_cell h.bases 0).trans rfl
  | 1, _ => (blk_cell h.bases 1).trans rfl
  | 2, _ => (blk_cell h.bases 2).trans rfl
  | 3, _ => (blk_cell h.bases 3).trans rfl
  | 4, _ => (blk_cell h.bases 4).trans rfl
  | j + 5, h => by omega
theorem fmt_meas5 {j : Nat} {v : Int} (hv : v = ((j + 1 : Nat) : Int)) (h : j < 5) : 5 - (intOf (.int .i64 v)).toNat < 5 - (intOf (.int .i64 (j : Int))).toNat := by
  subst hv
  have e1 : (intOf (.int .i64 ((j + 1 : Nat) : Int))).toNat = j + 1 := rfl
  have e2 : (intOf (.int .i64 (j : Int))).toNat = j := rfl
  rw [e1, e2]
  omega
def fmtXs : List Int := [-5, 0, 0, 0, 0, 0]
theorem fmt_total : ∀ j : Nat, j < 6 → payslip_total.f (rd fmtXs (j : Int)) = some true
  | 0, _ => by decide
  | 1, _ => by decide
  | 2, _ => by decide
  | 3, _ => by decide
  | 4, _ => by decide
  | 5, _ => by decide
  | j + 6, h => by omega
theorem itoa_7 : strconv_Itoa.f 7 = some ⟨#[55]⟩ := by decide +kernel
theorem itoa_12 : strconv_Itoa.f 12 = some ⟨#[49, 50]⟩ := by decide +kernel
theorem itoa_0 : strconv_Itoa.f 0 = some ⟨#[48]⟩ := by decide +kernel
theorem itoa_m5 : strconv_Itoa.f (-5) = some ⟨#[45, 53]⟩ := by decide +kernel
def fmtHead : List UInt8 := [112, 97, 121, 115, 108, 105, 112, 32, 55, 32, 112, 101, 114, 105, 111, 100, 32, 49, 50, 10, 98, 97, 115, 101, 115]
def fmtZeros : Nat → List UInt8
  | 0 => []
  | j + 1 => fmtZeros j ++ [32, 48]
theorem fmtZeros_len (j : Nat) : (fmtZeros j).length = 2 * j := by
  induction j with
  | zero => rfl
  | succ j ih => unfold fmtZeros; rw [List.length_append, ih]; simp; omega
theorem fmt_end : Ending.returned (.tuple #[.string ⟨(fmtHead ++ fmtZeros 5 ++ ((⟨#[32, 108, 101, 103, 97, 108, 32]⟩ : ByteArray) ++ ⟨#[45, 53]⟩ ++ ⟨#[10]⟩).data.toList ++ (⟨#[101, 110, 100, 10]⟩ : ByteArray).data.toList).toArray⟩, .int .i64 0]) = .returned (.tuple #[.string fmtText, .int .i64 0]) := by
  have e : (fmtHead ++ fmtZeros 5 ++ ((⟨#[32, 108, 101, 103, 97, 108, 32]⟩ : ByteArray) ++ ⟨#[45, 53]⟩ ++ ⟨#[10]⟩).data.toList ++ (⟨#[101, 110, 100, 10]⟩ : ByteArray).data.toList) = fmtText.data.toList := by decide +kernel
  rw [e]
theorem fmt_small (j : Nat) (h : j ≤ 5) : (fmtHead ++ fmtZeros j).length + ((⟨#[32]⟩ : ByteArray) ++ ⟨#[48]⟩).size ≤ 140737488355328 := by
  rw [List.length_append, fmtZeros_len]
  have e1 : fmtHead.length = 25 := rfl
  have e2 : ((⟨#[32]⟩ : ByteArray) ++ ⟨#[48]⟩).size = 2 := by decide +kernel
  omega
theorem fmt_meas {j : Nat} {v : Int} (hv : v = ((j + 1 : Nat) : Int)) (h : j < 6) : 6 - (intOf (.int .i64 v)).toNat < 6 - (intOf (.int .i64 (j : Int))).toNat := by
  subst hv
  have e1 : (intOf (.int .i64 ((j + 1 : Nat) : Int))).toNat = j + 1 := rfl
  have e2 : (intOf (.int .i64 (j : Int))).toNat = j := rfl
  rw [e1, e2]
  omega
theorem FmtIn.drawn {w W W1 : World} {S : Array Value} (h : FmtIn w W S) (hd : Drawn0 W W1) : FmtIn w W1 S := h.step hd.below
set_option maxRecDepth 100000 in
theorem payslip_Format.calls (k : Nat) (a0 : Int) (a1 : Int) (a2_0 : Int) (a2_1 : Int) (a2_2 : Int) (a2_3 : Int) (a2_4 : Int) (a2_5 : Int) (A2_6 : Option Addr) (c2_6 : Nat) (l2_6 : List (S23)) (r1 : ByteArray) (r2 : Int) (w : World) (hr2_6 : Kd.C k23 w A2_6 l2_6.length l2_6) (hc2_6 : l2_6.length ≤ c2_6) (hT : Tabs w) (h : payslip_Format.f k a0 a1 a2_0 a2_1 a2_2 a2_3 a2_4 a2_5 l2_6 = some (r1, r2)) :
    Calls Tryd.prog 22 #[.int .i64 a0, .int .i64 a1, .agg #[.int .i64 a2_0, .int .i64 a2_1, .int .i64 a2_2, .int .i64 a2_3, .int .i64 a2_4, .int .i64 a2_5, .slice A2_6 l2_6.length c2_6]] w fun e w' => e = .returned (.tuple #[.string r1, .int .i64 r2]) ∧ Below w.heap.size w w' := by
  unfold payslip_Format.f at h
  split at h
  · rename_i hc
    obtain ⟨⟨rfl, rfl, rfl, rfl, rfl, rfl, rfl, rfl⟩, hl⟩ := hc
    obtain ⟨rfl, rfl⟩ := Prod.mk.inj (Option.some.inj h)
    have HT := Aside0.mk hT
    clear h hT hr2_6 hc2_6
    rw [hl]
    clear hl
    go_enter Tryd.func22, Tryd.ntmps22
    have OWN := Aside0.mk (fmt_own w (.slice A2_6 0 c2_6))
    have RDS := Aside0.mk (fmt_reads w (.slice A2_6 0 c2_6))
    go_wp2_with (first
      | ((with_reducible refine gate_builtin (b := .append) (xs := #[.tmp 50, .tmp 51]) rfl ?_); at_builtin; refine print_append_row (w0 := w) w.heap.size rfl (.tmp 50) (.tmp 51) 24 3 .i64 8 rfl Tryd.underlying24 info3 (by decide) _ [-5] [0, 0, 0, 0, 0] _ 5 5 rfl rfl OWN.out RDS.out ((((Below.refl _ _).alloc (Nat.le_refl _) _).alloc (by simp) _).alloc (by simp; omega) _) (by simp; omega) (by decide) ?_; intro v1 w3 ho hb hg hat; obtain ⟨gq, cq, rfl, hgb, hgl⟩ := ho.form (by decide); have HO := Aside0.mk ho; have HB := Aside0.mk hb; have HF := Aside0.mk (fmt_in (.slice A2_6 0 c2_6) hg); clear ho hb hg hat)
      | fail)
    have HBq := Aside0.mk hgb
    clear hgl
    clear OWN RDS hgb
    go_loopw [54] (fun v54 wr => ∃ j : Nat, v54 = .int .i64 j ∧ Aside0 (j ≤ 6) ∧ Aside0 (Drawn0 w3 wr)) (fun v54 _ => 6 - (intOf v54).toNat)
    case atStart => exact ⟨0, rfl, ⟨by omega⟩, ⟨Drawn0.refl _⟩⟩
    case round =>
      obtain ⟨j, rfl, HJ, HD⟩ := hrel
      by_cases c : j < 6
      · obtain ⟨nd, rfl⟩ := HD.out.out
        have hx := (own_at HO.out (j : Int) (by omega) (by show (j : Int) < ((6 : Nat) : Int); omega)).1
        have hx2 : (w3.drewN nd).cell? ⟨gq, j, none⟩ = some (.int .i64 (rd fmtXs (j : Int))) := hx
        have AT := Aside0.mk (fmt_total j c)
        have c3 : decide ((j : Int) < 6) = true := decide_eq_true (by omega)
        have p0 : (0 ≤ (j : Int)) = True := eq_true (by omega)
        have p1 : ((j : Int) < 6) = True := eq_true (by omega)
        have HC := Aside0.mk c
        have HW2 := Aside0.mk (show wrap64 ((j : Int) + 1) = ((j + 1 : Nat) : Int) from by unfold wrap64; omega)
        clear hx c
        go_wp2_with (first | (go_at_call 30; (with_reducible refine (payslip_total.calls _ true _ AT.out).mono ?_); rintro e w8 ⟨rfl, hb⟩; obtain ⟨nn, rfl⟩ := hb.out) | fail)
        go_roundw
        case measure => exact fmt_meas HW2.out HC.out
        case rel => exact ⟨j + 1, by rw [HW2.out], ⟨HC.out⟩, ⟨⟨nd + nn, rfl⟩⟩⟩
      · obtain rfl : j = 6 := by have := HJ.out; omega
        clear c
        obtain ⟨nd, rfl⟩ := HD.out.out
        have HB2 := Aside0.mk (pw_below_drewN HB.out nd)
        have HF2 := Aside0.mk (HF.out.drawn HD.out)
        clear HB HF HO HJ HD
        have d6 : (w3.drewN nd).cell? ⟨w.heap.size, 6, none⟩ = some (.slice A2_6 0 c2_6) := (blk_cell HF2.out.slip 6).trans rfl
        go_wp2_with (fail)
        refine wp_loop_rounds 1 ?_
        rw [rounds_succ]
        have ST := Aside0.mk (show BldIn w ((w3.drewN nd).alloc (.cells #[.pointer none, .slice none 0 0] 69)) w3.heap.size [] from ⟨HB2.out.alloc HB2.out.size _, bld_new (w3.drewN nd) w.heap.size HB2.out.size⟩)
        have FI := Aside0.mk (HF2.out.step (below_alloc (Below.refl _ _) (.cells #[.pointer none, .slice none 0 0] 69)))
        clear HB2 HF2 d6
        go_wp2_with (first
          | (go_at_call 36; (with_reducible refine (strconv_Itoa.calls (7) _ _ (HT.out.below ST.out.below) itoa_7).mono ?_); rintro e w7 ⟨rfl, hb_⟩; have ST_ := Aside0.mk (ST.out.step hb_); have FI_ := Aside0.mk (FI.out.step hb_); clear ST FI hb_; have ST := ST_; have FI := FI_; clear ST_ FI_)
          | (go_at_call 36; (with_reducible refine (strconv_Itoa.calls (12) _ _ (HT.out.below ST.out.below) itoa_12).mono ?_); rintro e w7 ⟨rfl, hb_⟩; have ST_ := Aside0.mk (ST.out.step hb_); have FI_ := Aside0.mk (FI.out.step hb_); clear ST FI hb_; have ST := ST_; have FI := FI_; clear ST_ FI_)
          | (go_at_call 35; (with_reducible refine (bld_writes ST.out _ (by decide +kernel)).mono ?_); rintro e w7 ⟨rfl, hb_, hk_⟩; have ST_ := Aside0.mk hb_; have FI_ := Aside0.mk (FI.out.kept hk_); clear ST FI hb_ hk_; have ST := ST_; have FI := FI_; clear ST_ FI_))
        have ST1 := Aside0.mk (ST.out.to (l' := fmtHead ++ fmtZeros 0) (by decide +kernel))
        clear ST
        generalize w3.heap.size = bb at *
        go_loopw [104] (fun v wr => ∃ j : Nat, v = .int .i64 j ∧ Aside0 (j ≤ 5) ∧ Aside0 (BldIn w wr bb (fmtHead ++ fmtZeros j)) ∧ Aside0 (FmtIn w wr (fmtS (.slice A2_6 0 c2_6)))) (fun v _ => 5 - (intOf v).toNat)
        case atStart => exact ⟨0, rfl, ⟨by omega⟩, ST1, FI⟩
        case round =>
          obtain ⟨j, rfl, HJ, ST, FI⟩ := hrel
          by_cases c : j < 5
          · have hx : wr.cell? ⟨w.heap.size + 1, j, none⟩ = some (.int .i64 0) := fmt_zero FI.out j c
            have c3 : decide ((j : Int) < 5) = true := decide_eq_true (by omega)
            have p0 : (0 ≤ (j : Int)) = True := eq_true (by omega)
            have p1 : ((j : Int) < 5) = True := eq_true (by omega)
            have HC := Aside0.mk c
            have HW2 := Aside0.mk (show wrap64 ((j : Int) + 1) = ((j + 1 : Nat) : Int) from by unfold wrap64; omega)
            clear c
            go_wp2_with (first
              | (go_at_call 36; (with_reducible refine (strconv_Itoa.calls (0) _ _ (HT.out.below ST.out.below) itoa_0).mono ?_); rintro e w7 ⟨rfl, hb_⟩; have ST_ := Aside0.mk (ST.out.step hb_); have FI_ := Aside0.mk (FI.out.step hb_); clear ST FI hb_; have ST := ST_; have FI := FI_; clear ST_ FI_)
              | (go_at_call 35; (with_reducible refine (bld_writes ST.out _ (fmt_small j HJ.out)).mono ?_); rintro e w7 ⟨rfl, hb_, hk_⟩; have ST_ := Aside0.mk hb_; have FI_ := Aside0.mk (FI.out.kept hk_); clear ST FI hb_ hk_; have ST := ST_; have FI := FI_; clear ST_ FI_))
            go_roundw
            case measure => exact fmt_meas5 HW2.out HC.out
            case rel => exact ⟨j + 1, by rw [HW2.out], ⟨HC.out⟩, ⟨ST.out.to (by rw [List.append_assoc]; rfl)⟩, FI⟩
          · obtain rfl : j = 5 := by have := HJ.out; omega
            clear c HJ
            have d5 := (blk_cell FI.out.slip 5).trans (show _ = some (Value.int .i64 (-5)) from rfl)
            go_wp2_with (first
              | (go_at_call 36; (with_reducible refine (strconv_Itoa.calls (-5) _ _ (HT.out.below ST.out.below) itoa_m5).mono ?_); rintro e w7 ⟨rfl, hb_⟩; have ST_ := Aside0.mk (ST.out.step hb_); have FI_ := Aside0.mk (FI.out.step hb_); clear ST FI hb_; have ST := ST_; have FI := FI_; clear ST_ FI_)
              | (go_at_call 35; (with_reducible refine (bld_writes ST.out _ (by decide +kernel)).mono ?_); rintro e w7 ⟨rfl, hb_, hk_⟩; have ST_ := Aside0.mk hb_; have FI_ := Aside0.mk (FI.out.kept hk_); clear ST FI hb_ hk_; have ST := ST_; have FI := FI_; clear ST_ FI_; have d6 := (blk_cell FI.out.slip 6).trans (show _ = some (Value.slice A2_6 0 c2_6) from rfl)))
            refine wp_loop_rounds 1 ?_
            rw [rounds_succ]
            clear d5 d6
            go_wp2_with (first
              | (go_at_call 35; (with_reducible refine (bld_writes ST.out _ (by decide +kernel)).mono ?_); rintro e w7 ⟨rfl, hb_, hk_⟩; have ST_ := Aside0.mk hb_; have FI_ := Aside0.mk (FI.out.kept hk_); clear ST FI hb_ hk_; have ST := ST_; have FI := FI_; clear ST_ FI_)
              | (go_at_call 39; (with_reducible refine (bld_string ST.out).mono ?_); rintro e w8 ⟨rfl, hb_⟩; have HE := Aside0.mk hb_; clear hb_))
            go_ret2
            exact ⟨fmt_end, HE.out⟩
  · cases h
end Go.Proofs.YtlanldccamphcaaDoor.P
