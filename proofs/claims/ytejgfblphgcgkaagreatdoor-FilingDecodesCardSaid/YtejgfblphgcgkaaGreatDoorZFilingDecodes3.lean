/- Texts for the law FilingDecodes (kept out of a larger one). -/
import Derived.Test.YtejgfblphgcgkaaGreatDoorZFilingDecodes2
import Derived.Test.YtejgfblphgcgkaaGreatDoorProg
import Derived.Below
import Derived.Deep.Draws
import Derived.Deep.AppendLies
import Derived.Maps.AppendAt
import Derived.OwnWalk
import Derived.Laws.BytesArg
import Derived.Laws.MakeOwn
import Derived.Laws.OwnMore
import Derived.Deep.OwnRows
import Derived.Tactics
import Derived.Lib.ConvBytes
import Derived.Laws.Slices
import Derived.WalkKit
import Derived.KernelRfl
import Derived.RowKit3
import Derived.Deep.LoopGhost
import Derived.Deep.QuietTactic
import Derived.BigQuiet
import Derived.WideLaws
import Derived.Deep.DeepCutAuto
import Derived.Deep.CutBlock
import Derived.Deep.RegionHeld3
import Derived.Laws.Rows
import Derived.Lib.AppendStr
import Derived.ArgAppend
import Derived.Laws.IdiomCopy
import Derived.OrdersHeld
import Derived.Laws.BitsLemmas
import Derived.RowKit
import Derived.Maps.Own
import Derived.Maps.OwnOps
import Derived.Maps.Views
import Derived.StringKeys
namespace Go.Proofs.YtejgfblphgcgkaaGreatDoor.P
open Go Go.RowKit Go.Proofs.YtejgfblphgcgkaaGreatDoorW.PrintWords Go.Proofs.YtejgfblphgcgkaaGreatDoorW.PrintLast Go.Proofs.YtejgfblphgcgkaaGreatDoorW.PrintMore
abbrev Zt : Bool := true
abbrev Zf : Bool := false
abbrev Zb : Type := ByteArray
abbrev Qa := @Aside0.mk
abbrev Qb := @blk_below
abbrev Qc := @blk_far
abbrev Qd := @below_alloc
abbrev Qe := @pw_below_drewN
abbrev Qf := @below_drew1
abbrev Qg := @below_set
abbrev Qh := @below_step
abbrev Qi := @below_size
abbrev Qj := @blk_drewN
abbrev Qk := @blk_drew
abbrev Ql := @blk_alloc
abbrev Qm := @blk_frozen
abbrev Qn := @blk_cell
abbrev Qo := @blk_put
abbrev Qp := @KeepBut.set_
abbrev Qq := @keep_drewN
abbrev Qr := @keep_drew
abbrev Qs := @keep_alloc
abbrev Qt := @keep_size
abbrev Qu := @KeepBut.of_below
abbrev Qv := @box_event
abbrev Qw := @gate_callee
abbrev Qx := @gate_dst
abbrev Qy := @goesL_
abbrev Qz := @bodyPost_ret
abbrev Xa := @results_ct
abbrev Xb := @Kd.R_reads'
abbrev Xc := @Kd.R_alloc
abbrev Xd := @Kd.R_drewN
abbrev Xe := @Kd.R_drew
abbrev Xf := @Kd.R_mono
abbrev Xg := @Kd.R_far
abbrev Xh := @Kd.R_below
abbrev Xi := @Kd.R_elderB
abbrev Xj := @Kd.R_keep
abbrev Xk := @Kd.R_slice
abbrev Xl := @Kd.S_alloc
abbrev Xm := @Kd.S_drewN
abbrev Xn := @Kd.S_drew
abbrev Xo := @Kd.S_mono
abbrev Xp := @of_decide_eq_true
abbrev Xq := @decide_eq_true
abbrev Xr := @decide_eq_false
abbrev Xs := @World.block_lt_of_cell?
abbrev Xt := @List.setIfInBounds_toArray
abbrev Xu := @List.set_cons_zero
abbrev Xv := @List.set_cons_succ
abbrev Xw := @ByteArray.size_append
abbrev Xx := @Option.bind_eq_some_iff
abbrev Xy := @Option.bind_some
abbrev Xz := @Option.some.inj
abbrev Ya := @beq_eq_false_iff_ne
abbrev Yb := @beq_iff_eq
abbrev Yc := @bne_iff_ne
set_option linter.unusedVariables false
theorem nc {w W : World} {g : Nat} {o : Obj} (h : w.heap[g]? = some o) (e : w.heap[g]? = some o → W.heap[g]? = some o := by intro h; (with_reducible repeat (first | refine blk_drewN ?_ _ | refine blk_drew ?_ | refine blk_alloc ?_ _)); exact h) : W.heap[g]? = some o := e h
theorem bl {B : Nat} {w W W' : World} (h : Below B w W) (e : Below B w W → Below B w W' := by intro h; repeat (first | (with_reducible first | exact h | apply below_alloc | apply pw_below_drewN | apply below_drew1 | refine below_set ?_ (Aside0.out (by assumption))) | exact h)) : Below B w W' := e h
theorem kr {α : Type} {d : Kd α} {t b : Nat} {ok : Nat → Prop} {v : Value} {xs : List α} {w W : World} (h : d.R t w b ok v xs) (e : d.R t w b ok v xs → d.R t W b ok v xs := by intro h; (with_reducible repeat (first | apply Kd.R_alloc | apply Kd.R_drewN | apply Kd.R_drew)); exact h) : d.R t W b ok v xs := e h
theorem kk {g : Nat} {r : Option Nat} {w W W' : World} (h : KeepBut w W g r) (e : KeepBut w W g r → KeepBut w W' g r := by intro h; repeat (first | (with_reducible first | exact h | apply KeepBut.set_ | apply keep_drewN | apply keep_drew | apply keep_alloc) | exact h)) : KeepBut w W' g r := e h
theorem hz {w : World} {g : Nat} {cs : Array Value} {t : TypeId} {v : Value} (h : w.heap[g]? = some (.cells cs t (0, 0))) (j : Nat) (e : cs[j]? = some v := by rfl) : w.cell? ⟨g, j, none⟩ = some v := (blk_cell h j).trans e
theorem pu {P : Program} {md : Region.Mode} {ops : Array Oper} {Q : Exit → Act → World → Prop} {S : World → Prop} {ds : List Nat} {T : Bool × List (List Nat × List Nat)} {i : Nat} {N : Option Tmp} {oi : Oper} {v : Value} {fuel : Nat} {l : Array Bool} {a : Act} {w : World} (l' : Array Bool) (HT : Aside0 (rtab md ops = T)) (hy : ∀ w, (execOp a.eval oi).run P w = .ok (.value v) w) {a' : Act} (ha : a.put N v = a') (h : wpAnyLast P md ops Q S ds fuel l' a' w) (hi : ops[i]? = some oi := by rfl) (hN : oi.dst = N := by rfl) (hc : anyT T l.toList l'.toList i = true := by kernel_rfl) (hQ : ∀ c a w, Q (.panic c) (a.put oi.dst v) w → Q (.panic c) a w := by exact fun _ _ _ h => h) (hw : Region.wanted oi (yielded ops a.tmps) = true := by rfl) : wpAnyLast P md ops Q S ds (fuel + 1) l a w := pure_ l' hi hN (any_of HT.out hc) hQ (Or.inl ⟨hw, hy⟩) ha h
theorem pv {P : Program} {md : Region.Mode} {ops : Array Oper} {Q : Exit → Act → World → Prop} {S : World → Prop} {ds : List Nat} {T : Bool × List (List Nat × List Nat)} {i : Nat} {N : Option Tmp} {oi : Oper} {fuel : Nat} {l : Array Bool} {a : Act} {w : World} (l' : Array Bool) (HT : Aside0 (rtab md ops = T)) {a' : Act} (ha : a.put N undef = a') (h : wpAnyLast P md ops Q S ds fuel l' a' w) (hi : ops[i]? = some oi := by rfl) (hN : oi.dst = N := by rfl) (hc : anyT T l.toList l'.toList i = true := by kernel_rfl) (hQ : ∀ c a w, Q (.panic c) (a.put oi.dst undef) w → Q (.panic c) a w := by exact fun _ _ _ h => h) (hw : Region.wanted oi (yielded ops a.tmps) = false := by rfl) : wpAnyLast P md ops Q S ds (fuel + 1) l a w := pure_ l' hi hN (any_of HT.out hc) hQ (Or.inr ⟨hw, rfl⟩) ha h
theorem gc {P : Program} {ops : Array Oper} {Q : Exit → Act → World → Prop} {rest : List Oper} {oi : Oper} {a : Act} {w : World} (N : Option Tmp) {f : FuncId} {fn : Func} {xs : Array Operand} {ts : Array TypeId} (hf : P.funcs[f]? = some fn) (args : Array Value) (h : Calls P f args w fun e w' => ∃ v, e = .returned v ∧ wpList P ops Q rest (a.put N v) w') (hd : oi.dst = N := by rfl) (hg : oi.guard = none := by rfl) (hname : (fn.name == "runtime.NumGoroutine") = false := by kernel_rfl) (hb : fn.body.isSome = true := by rfl) (hop : oi.op = .call { callee := .value (.func f), args := xs, argTypes := ts } := by rfl) (hargs : xs.map a.eval = args := by (try simp only [List.map_toArray, List.map_cons, List.map_nil]); first | done | rfl | (simp only [List.length_drop, List.length_take]; rfl)) : wpList P ops Q (oi :: rest) a w := goesL_ N hd hg hf hname hb args hop hargs h
end Go.Proofs.YtejgfblphgcgkaaGreatDoor.P
namespace Go.Proofs.YtejgfblphgcgkaaGreatDoor.P
open Go.RowKit Go.Proofs.YtejgfblphgcgkaaGreatDoorW.PrintWords Go.Proofs.YtejgfblphgcgkaaGreatDoorW.PrintLast Go.Proofs.YtejgfblphgcgkaaGreatDoorW.PrintMore
attribute [local go_sem] max2_int min2_int max_two min_two max_three min_three max_four min_four   -- for this text's walks alone
set_option linter.unusedVariables false
set_option linter.unusedSimpArgs false
def errW : Option Int → Value
 | none => .nilIface
 | some c => .iface 0 (.int .i64 c)
theorem errW_none : errW none = .nilIface := rfl
theorem errW_some (c : Int) : errW (some c) = .iface 0 (.int .i64 c) := rfl
theorem info9 : (Tryz.prog.info? 9).map (fun i => (i.zero, i.size, i.bytes)) = some (some (.string ⟨#[]⟩), 1,16) := by kernel_rfl
theorem info25 : (Tryz.prog.info? 25).map (fun i => (i.zero, i.size, i.bytes)) = some (some (.agg #[(.int .i64 0), (.int .i64 0), (.slice none 0 0)]), 3,40) := by kernel_rfl
theorem info60 : (Tryz.prog.info? 60).map (fun i => (i.zero, i.size, i.bytes)) = some (some (.agg #[(.int .i64 0), (.string ⟨#[]⟩), (.int .i64 0)]), 3,32) := by kernel_rfl
-- the values' own types
structure S60 where
 f0 : Int
 f1 : Zb
 f2 : Int
def z60 : S60 := ⟨(0 : Int), (⟨#[]⟩ : Zb), (0 : Int)⟩
def k60 : Kd S60 := Kd.iso (Kd.pair (Kd.int .i64) (Kd.pair Kd.string (Kd.int .i64))) (fun x : S60 => (x.f0, x.f1, x.f2))
theorem k60_open {w : World} {x : S60} {cs : List Value} (h : k60.K w x cs) : cs = [.int .i64 x.f0, .string x.f1, .int .i64 x.f2] := by
 obtain ⟨_, _, rfl, rfl, ⟨_, _, rfl, rfl, rfl⟩⟩ := h
 exact rfl
theorem k60_mkM (w : World) (base : Nat) (ok : Nat → Prop) (x : S60)  : k60.M w base ok x [.int .i64 x.f0, .string x.f1, .int .i64 x.f2] := ⟨[.int .i64 x.f0], [.string x.f1, .int .i64 x.f2], rfl, rfl, ⟨[.string x.f1], [.int .i64 x.f2], rfl, rfl, rfl⟩⟩
def rd_T60 (xs : List S60) (i : Int) : S60 := xs.getD i.toNat z60
theorem at_T60 {w : World} {A : Option Addr} {n : Nat} {xs : List S60} (h : Kd.C k60 w A n xs) (i : Int) (h0 : 0 ≤ i) (h1 : i < n) : ∃ ad , A = some ad ∧ w.cell? (ad.add (i.toNat * 3)) = some (.int .i64 (rd_T60 xs i).f0) ∧ w.cell? ⟨(ad.add (i.toNat * 3)).block, (ad.add (i.toNat * 3)).off + 1, none⟩ = some (.string (rd_T60 xs i).f1) ∧ w.cell? ⟨(ad.add (i.toNat * 3)).block, (ad.add (i.toNat * 3)).off + 2, none⟩ = some (.int .i64 (rd_T60 xs i).f2) := by
 obtain ⟨ad, c, e, _, hK, hc0⟩ := Kd.C_get h z60 i h0 h1
 have hc : ∀ j u, c[j]? = some u → w.cell? (ad.add (i.toNat * 3 + j)) = some u := hc0
 obtain rfl := k60_open hK
 exact ⟨ad, e, hc 0 _ rfl, by rw [← add_field _ _ 1 (by omega)]; exact hc 1 _ rfl, by rw [← add_field _ _ 2 (by omega)]; exact hc 2 _ rfl⟩
structure S25 where
 f0 : Int
 f1 : Int
 f2 : (List S60)
def z25 : S25 := ⟨(0 : Int), (0 : Int), ([] : List S60)⟩
def k25 : Kd S25 := Kd.iso (Kd.pair (Kd.int .i64) (Kd.pair (Kd.int .i64) (Kd.slice 60 k60))) (fun x : S25 => (x.f0, x.f1, x.f2))
theorem k25_open {w : World} {x : S25} {cs : List Value} (h : k25.K w x cs) : ∃ A2 c2, cs = [.int .i64 x.f0, .int .i64 x.f1, .slice A2 x.f2.length c2] ∧ x.f2.length ≤ c2 ∧ k60.C w A2 x.f2.length x.f2 := by
 obtain ⟨_, _, rfl, rfl, ⟨_, _, rfl, rfl, ⟨A2, c2, rfl, l2, g2⟩⟩⟩ := h
 exact ⟨A2, c2, rfl, l2, g2⟩
theorem k25_openM {w : World} {base : Nat} {ok : Nat → Prop} {x : S25} {cs : List Value} (h : k25.M w base ok x cs) : ∃ v2, cs = [.int .i64 x.f0, .int .i64 x.f1, v2] ∧ k60.R 60 w base ok v2 x.f2 := by
 obtain ⟨_, _, rfl, rfl, ⟨_, _, rfl, rfl, ⟨v2, rfl, g2⟩⟩⟩ := h
 exact ⟨v2, rfl, g2⟩
theorem k25_mkM (w : World) (base : Nat) (ok : Nat → Prop) (x : S25) {v2 : Value} (g2 : k60.R 60 w base ok v2 x.f2) : k25.M w base ok x [.int .i64 x.f0, .int .i64 x.f1, v2] := ⟨[.int .i64 x.f0], [.int .i64 x.f1, v2], rfl, rfl, ⟨[.int .i64 x.f1], [v2], rfl, rfl, ⟨v2, rfl, g2⟩⟩⟩
def rd_T25 (xs : List S25) (i : Int) : S25 := xs.getD i.toNat z25
theorem at_T25 {w : World} {A : Option Addr} {n : Nat} {xs : List S25} (h : Kd.C k25 w A n xs) (i : Int) (h0 : 0 ≤ i) (h1 : i < n) : ∃ ad A2 c2, A = some ad ∧ w.cell? (ad.add (i.toNat * 3)) = some (.int .i64 (rd_T25 xs i).f0) ∧ w.cell? ⟨(ad.add (i.toNat * 3)).block, (ad.add (i.toNat * 3)).off + 1, none⟩ = some (.int .i64 (rd_T25 xs i).f1) ∧ w.cell? ⟨(ad.add (i.toNat * 3)).block, (ad.add (i.toNat * 3)).off + 2, none⟩ = some (.slice A2 (rd_T25 xs i).f2.length c2) ∧ (rd_T25 xs i).f2.length ≤ c2 ∧ k60.C w A2 (rd_T25 xs i).f2.length (rd_T25 xs i).f2 := by
 obtain ⟨ad, c, e, _, hK, hc0⟩ := Kd.C_get h z25 i h0 h1
 have hc : ∀ j u, c[j]? = some u → w.cell? (ad.add (i.toNat * 3 + j)) = some u := hc0
 obtain ⟨A2, c2, rfl, l2, g2⟩ := k25_open hK
 exact ⟨ad, A2, c2, e, hc 0 _ rfl, by rw [← add_field _ _ 1 (by omega)]; exact hc 1 _ rfl, by rw [← add_field _ _ 2 (by omega)]; exact hc 2 _ rfl, l2, g2⟩
end Go.Proofs.YtejgfblphgcgkaaGreatDoor.P
namespace Go.Proofs.YtejgfblphgcgkaaGreatDoorW.PrintWords
set_option linter.unusedVariables false
open Go.RowKit
def I64 (n : Int) : Prop := -9223372036854775808 ≤ n ∧ n ≤ 9223372036854775807
theorem wrap64_in {n : Int} (h : I64 n) : wrap64 n = n := by unfold wrap64; unfold I64 at h; omega
theorem Ev.const {α : Type} {o : Option α} {r : α} (h : o = some r) : Ev (fun _ => o) r := ⟨0, fun _ _ => h⟩
theorem Ev.bindc {α β : Type} {o : Option α} {f : Nat → α → Option β} {a : α} {r : β} (h : o = some a) (k : Ev (fun n => f n a) r) : Ev (fun n => o.bind (f n)) r := Ev.bind (g := fun _ => o) (Ev.const h) k
theorem Ev.ifp {α : Type} {c : Prop} [Decidable c] {g f : Nat → Option α} {r : α} (h : c) (k : Ev g r) : Ev (fun n => if c then g n else f n) r := Ev.congr (fun _ => if_pos h) k
theorem Ev.ifn {α : Type} {c : Prop} [Decidable c] {g f : Nat → Option α} {r : α} (h : ¬ c) (k : Ev f r) : Ev (fun n => if c then g n else f n) r := Ev.congr (fun _ => if_neg h) k
theorem Ev.cast {α : Type} {g : Nat → Option α} {r q : α} (h : Ev g r) (e : r = q) : Ev g q := e ▸ h
end Go.Proofs.YtejgfblphgcgkaaGreatDoorW.PrintWords
namespace Go.Proofs.YtejgfblphgcgkaaGreatDoor.P
set_option linter.unusedVariables false
open Go Go.RowKit Go.Maps Go.Proofs.YtejgfblphgcgkaaGreatDoorW.PrintWords
def kws : List (List UInt8) := [
 [97, 103, 114, 101, 101, 109, 101, 110, 116],
 [105, 110, 112, 117, 116],
 [112, 97, 115, 116],
 [115, 99, 97, 108, 101],
 [114, 117, 108, 101],
 [112, 97, 121],
 [102, 114, 111, 109],
 [114, 111, 117, 110, 100, 101, 100],
 [116, 111],
 [105, 102],
 [116, 104, 101, 110],
 [101, 108, 115, 101],
 [97, 110, 100],
 [111, 114],
 [110, 111, 116],
 [116, 114, 117, 101],
 [102, 97, 108, 115, 101],
 [109, 105, 110],
 [109, 97, 120],
 [114, 111, 117, 110, 100],
 [97, 118, 101, 114, 97, 103, 101],
 [108, 97, 115, 116],
 [109, 111, 110, 101, 121],
 [104, 111, 117, 114, 115],
 [100, 97, 121, 115],
 [110, 117, 109, 98, 101, 114],
 [98, 111, 111, 108],
 [100, 111, 119, 110],
 [117, 112],
 [102, 108, 111, 111, 114],
 [99, 101, 105, 108, 105, 110, 103],
 [104, 97, 108, 102, 95, 117, 112],
 [104, 97, 108, 102, 95, 100, 111, 119, 110],
 [104, 97, 108, 102, 95, 101, 118, 101, 110]]
def token_IsKeyword.f (s : ByteArray) : Option Bool := if s.size ≤ 281474976710656 then some (decide (s.data.toList ∈ kws)) else none
theorem plainElem_bool {P : Program} {e : TypeId} (he : P.underlying e = some .bool) (x : Bool) : plainElem (H := Unit) P e (.bool x) = some (.lit (.bool x), []) := by
 simp [plainElem, he]
theorem plainElem_bool_inv {P : Program} {e : TypeId} (he : P.underlying e = some .bool) {v : Value} {d : DataW Unit} {ps : List MemPlace} (h : plainElem P e v = some (d, ps)) : ∃ x, v = .bool x ∧ d = .lit (.bool x) := by
 cases v <;> simp [plainElem, he] at h
 exact ⟨_, rfl, h.1.symm⟩
theorem wpList_insert_own {P : Program} (w : World) {ops : Array Oper} {rest : List Oper} {o : Oper} {a : Act} {Q : Exit → Act → World → Prop}
 (hg : o.guard = none) (m x v : Operand) (t : TypeId) (hop : o.op = Op.insert t m x v)
 (k e : TypeId) (K : Keyed P k) (ht : P.underlying t = some (.map k e)) (R : Value → Option (DataW Unit × List MemPlace)) (b n : Nat) (D : DataW Unit)
 (hm : a.eval m = .map (some b)) (hown : w.ownsMap P k R b n D) (hn : n < maxLen) (key val : Value) (kl : Lit) (hx : a.eval x = key) (hv : a.eval v = val) (hkey : keyOf P k key = some kl)
 (d : DataW Unit) (ps : List MemPlace) (hval : R val = some (d, ps))
 (hK : ∀ w', w'.ownsMap P k R b (n + 1) (D.put kl d) → w.grownBy w' (some b) → wpList P ops Q rest (a.put o.dst undef) w') :
 wpList P ops Q (o :: rest) a w := by
 refine wpList_plain hg fun K' hK' => ?_
 obtain ⟨w', hrun, r1, r2⟩ := hown.update K ht hn hkey hval
 unfold Oper.wp
 simp [execOp, hop, hm, hx, hv, hrun, Result.andThen]
 exact hK' _ _ (hK w' r1 r2)
theorem wpList_lookup_own_bool {P : Program} (w : World) {ops : Array Oper} {rest : List Oper} {o : Oper} {a : Act} {Q : Exit → Act → World → Prop}
 (hg : o.guard = none) (m x : Operand) (t : TypeId) (hop : o.op = Op.lookup t m x false)
 (k e : TypeId) (K : Keyed P k) (ht : P.underlying t = some (.map k e)) (he : P.underlying e = some .bool) (hz : (zeroValue e).run P w = .ok (.bool false) w) (b n : Nat) (D : DataW Unit)
 (hm : a.eval m = .map (some b)) (hown : w.ownsMap P k (plainElem P e) b n D) (key : Value) (kl : Lit) (hx : a.eval x = key) (hkey : keyOf P k key = some kl)
 (hK : ∀ c : Bool, D.atKey kl (.lit (.bool false)) = .lit (.bool c) → wpList P ops Q rest (a.put o.dst (.bool c)) w) :
 wpList P ops Q (o :: rest) a w := by
 refine wpList_plain hg fun K' hK' => ?_
 obtain ⟨v, ps, hrun, hat⟩ := hown.lookup K ht hz (plainElem_bool he false) hkey
 obtain ⟨c, rfl, hc⟩ := plainElem_bool_inv he hat
 unfold Oper.wp
 simp [execOp, hop, hm, hx, hrun, Result.andThen]
 exact hK' _ _ (hK c hc)
def puts (D : DataW Unit) (ks : List (List UInt8)) : DataW Unit := ks.foldl (fun D s => D.put (.string s) (.lit (.bool true))) D
theorem key_list {P : Program} {k : TypeId} (hk : P.underlying k = some .string) {l : List UInt8} (h : l.length ≤ maxLen) : keyOf P k (.string ⟨l.toArray⟩) = some (.string l) := by
 rw [WideMaps.keyOf_string_mk hk (s := ⟨l.toArray⟩) (by simpa [ByteArray.size] using h)]
def insOp (t : TypeId) (m : Operand) (pos : String) (aft : Array Edge) (k : List UInt8) : Oper := { dst := none, op := .insert t m (.const (.string ⟨k.toArray⟩)) (.const (.bool true)), type := 0, pos := pos, after := aft, guard := none }
theorem wpList_inserts {P : Program} {ops : Array Oper} {rest : List Oper} {a : Act} {Q : Exit → Act → World → Prop} (t k e : TypeId) (K : Keyed P k) (ht : P.underlying t = some (.map k e)) (hk : P.underlying k = some .string) (he : P.underlying e = some .bool)
 (m : Operand) (pos : String) (aft : Array Edge) (b : Nat) (hm : a.eval m = .map (some b)) : ∀ (ks : List (List UInt8)) (w : World) (n : Nat) (D : DataW Unit), (∀ s ∈ ks, s.length ≤ maxLen) →
 w.ownsMap P k (plainElem P e) b n D → n + ks.length < maxLen →
 (∀ w', w'.ownsMap P k (plainElem P e) b (n + ks.length) (puts D ks) → w.grownBy w' (some b) → wpList P ops Q rest a w') → wpList P ops Q (ks.map (insOp t m pos aft) ++ rest) a w
 | [], w, n, D, _, hown, _, h => h w hown (World.grownBy.refl w _)
 | s :: ks, w, n, D, hs, hown, hn, h => by
  rw [List.length_cons] at hn
  refine wpList_insert_own w (o := insOp t m pos aft s) rfl m _ _ t rfl k e K ht _ b n D hm hown (by omega) _ _ _ rfl rfl (key_list hk (hs s List.mem_cons_self)) _ [] (plainElem_bool he true) ?_
  intro w1 hown1 hg1
  refine wpList_inserts t k e K ht hk he m pos aft b hm ks w1 (n + 1) _ (fun x hx => hs x (List.mem_cons_of_mem _ hx)) hown1 (by omega) ?_
  intro w' hown' hg'
  refine h w' ?_ (hg1.trans hg')
  rw [List.length_cons, show n + (ks.length + 1) = n + 1 + ks.length from by omega]
  exact hown'
theorem atKey_puts : ∀ (ks : List (List UInt8)) (D : DataW Unit) (s : List UInt8) (z : DataW Unit), IsMap D → (puts D ks).atKey (.string s) z = if s ∈ ks then .lit (.bool true) else D.atKey (.string s) z
 | [], D, s, z, _ => by rw [if_neg (by simp)]; rfl
 | k :: ks, D, s, z, h => by
  have h1 : IsMap (D.put (.string k) (.lit (.bool true))) := by obtain ⟨es, rfl⟩ := h; exact ⟨_, rfl⟩
  show (puts (D.put (.string k) (.lit (.bool true))) ks).atKey (.string s) z = _
  rw [atKey_puts ks _ s z h1]
  by_cases hc : s ∈ ks
  · rw [if_pos hc, if_pos (List.mem_cons_of_mem _ hc)]
  · rw [if_neg hc]
    by_cases he : s = k
    · subst he
      rw [if_pos List.mem_cons_self, atKey_put_same h (by show True; trivial)]
    · have hne : Lit.string s ≠ Lit.string k := by
       intro e
       injection e with e
       exact he e
      rw [atKey_put_other hne, if_neg]
      rw [List.mem_cons, not_or]
      exact ⟨he, hc⟩
theorem kws_small : ∀ s ∈ kws, s.length ≤ maxLen := by
 have h : kws.all (fun s => decide (s.length ≤ 100)) = true := by decide +kernel
 intro s hs
 have := List.all_eq_true.1 h s hs
 have := of_decide_eq_true this
 unfold maxLen; omega
theorem zero_bool (w : World) : (zeroValue 4).run Tryz.prog w = .ok (.bool false) w := by kernel_rfl
set_option maxRecDepth 100000 in
theorem token_IsKeyword.calls (a0 : ByteArray) (r : Bool) (w : World) (h : token_IsKeyword.f a0 = some r) :
 Calls Tryz.prog 96 #[.string a0] w fun e w' => e = .returned (.bool r) ∧ Below w.heap.size w w' := by
 unfold token_IsKeyword.f at h
 split at h
 · rename_i hs
   obtain rfl := Option.some.inj h
   have hmm := @run_makeMap Tryz.prog
   go_enter Tryz.func96, Tryz.ntmps96
   go_wp2_with (first
    | (refine wpList_inserts 136 9 4 (string_keyed Tryz.underlying9) Tryz.underlying136 Tryz.underlying9 Tryz.underlying4 (.tmp 3) "token.go:18" #[{ on := 0, ground := Ground.data }] w.heap.size rfl kws _ 0 (.map []) kws_small (World.ownsMap_made _ _ _ _) (by unfold maxLen; decide) ?_; intro w1 hown1 hg1)
    | (at_lookup; refine wpList_lookup_own_bool _ rfl _ _ 136 rfl 9 4 (string_keyed Tryz.underlying9) Tryz.underlying136 Tryz.underlying4 (zero_bool _) w.heap.size _ _ rfl hown1 _ _ rfl (WideMaps.keyOf_string_mk Tryz.underlying9 (by unfold maxLen; omega)) ?_; intro c hat)
    | go_in)
   go_ret
   have hc : c = decide (a0.data.toList ∈ kws) := by
    rw [atKey_puts kws (.map []) a0.data.toList _ ⟨_, rfl⟩] at hat
    by_cases hm : a0.data.toList ∈ kws
    · rw [if_pos hm] at hat
      injection hat with hat
      injection hat with hat
      rw [← hat, decide_eq_true hm]
    · rw [if_neg hm] at hat
      have : (DataW.map [] : DataW Unit).atKey (.string a0.data.toList) (.lit (.bool false)) = .lit (.bool false) := rfl
      rw [this] at hat
      injection hat with hat
      injection hat with hat
      rw [← hat, decide_eq_false hm]
   refine ⟨by rw [hc]; rfl, ?_⟩
   exact ((Below.refl _ _).alloc (Nat.le_refl _) _).grown hg1 (by simp) (fun k hk => by cases hk; exact Nat.le_refl _)
 · cases h
end Go.Proofs.YtejgfblphgcgkaaGreatDoor.P
