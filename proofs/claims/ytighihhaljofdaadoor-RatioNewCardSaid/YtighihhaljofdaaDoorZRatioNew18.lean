/- Texts for the law RatioNew (kept out of a larger one). -/
import Derived.Test.YtighihhaljofdaaDoorZRatioNew8
import Derived.Test.YtighihhaljofdaaDoorZRatioNew15
import Derived.Test.YtighihhaljofdaaDoorZRatioNew16
import Derived.Test.YtighihhaljofdaaDoorZRatioNew17
namespace Go.Proofs.YtighihhaljofdaaDoor.P
open Go.RowKit Go.Proofs.YtighihhaljofdaaDoorW.PrintWords
theorem RatioNew : payrolllaw1_RatioNew.Pure := by
  intro n d hn hd
  have hn := I64.of_wf hn
  have hd := I64.of_wf hd
  have hm := gen_Mod_eq (v := d) (n := 1000) (by omega) (by omega)
  have h2 : I64 (wrap64 (d % 1000 + 1)) := I64.wrap _
  have main : Ev (fun k => payrolllaw1_RatioNew.f k n d) true := by
    unfold payrolllaw1_RatioNew.f
    refine Ev.bind (ratio_New_ev n d hn hd) (Ev.bind (ref1_New_ev n d hn hd) (Ev.bindc hm (Ev.bind (ratio_New_ev n _ hn h2) (Ev.bindc hm (Ev.bind (ref1_New_ev n _ hn h2) ?_)))))
    refine Ev.ifp (by simp) (Ev.ifp rfl (Ev.ifp (by simp) (Ev.ifp rfl ?_)))
    exact Ev.bind sane_ev (Ev.now true)
  exact main.rounds
end Go.Proofs.YtighihhaljofdaaDoor.P
