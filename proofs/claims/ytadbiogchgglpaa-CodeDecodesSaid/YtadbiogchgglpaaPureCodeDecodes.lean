import Derived.Test.YtadbiogchgglpaaQx27
import Derived.Test.YtadbiogchgglpaaSu
namespace Go.Proofs.Ytadbiogchgglpaa.Pure
open Go.RowKit Go.Proofs.Ytadbiogchgglpaa.Q Go.Proofs.YtadbiogchgglpaaW.PrintWords Go.Proofs.YtadbiogchgglpaaW.PrintLast
theorem CodeDecodes : selvagelaw13_CodeDecodes.Pure := by
  intro l0 _ _ hw
  have hB := byt_wf hw
  refine Ev.rounds (g := fun k => selvagelaw13_CodeDecodes.f k l0) ?_
  by_cases h : (l0.length : Int) > 1500
  · refine Ev.congr (fun k => by unfold selvagelaw13_CodeDecodes.f; rw [if_pos h, if_pos (by omega)]) ?_
    exact decodes_end (byt_take hB 1500) (by rw [List.length_take]; omega)
  · refine Ev.congr (fun k => by unfold selvagelaw13_CodeDecodes.f; rw [if_neg h]) ?_
    exact decodes_end hB (by omega)
end Go.Proofs.Ytadbiogchgglpaa.Pure
