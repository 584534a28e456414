/- Texts for the law FilingReturns (kept out of a larger one). -/
import Derived.Test.YtejgfblphgcgkaaDoorZFilingReturns12
import Derived.WalkKit
namespace Go.Proofs.YtejgfblphgcgkaaDoorW.PrintWords
set_option linter.unusedVariables false
open Go.RowKit
theorem Ev.const {α : Type} {o : Option α} {r : α} (h : o = some r) : Ev (fun _ => o) r := ⟨0, fun _ _ => h⟩
theorem Ev.bindc {α β : Type} {o : Option α} {f : Nat → α → Option β} {a : α} {r : β} (h : o = some a) (k : Ev (fun n => f n a) r) : Ev (fun n => o.bind (f n)) r := Ev.bind (g := fun _ => o) (Ev.const h) k
theorem Ev.ifp {α : Type} {c : Prop} [Decidable c] {g f : Nat → Option α} {r : α} (h : c) (k : Ev g r) : Ev (fun n => if c then g n else f n) r := Ev.congr (fun _ => if_pos h) k
theorem Ev.ifn {α : Type} {c : Prop} [Decidable c] {g f : Nat → Option α} {r : α} (h : ¬ c) (k : Ev f r) : Ev (fun n => if c then g n else f n) r := Ev.congr (fun _ => if_neg h) k
theorem Ev.cast {α : Type} {g : Nat → Option α} {r q : α} (h : Ev g r) (e : r = q) : Ev g q := e ▸ h
end Go.Proofs.YtejgfblphgcgkaaDoorW.PrintWords
