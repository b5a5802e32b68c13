import Derived.Test.YtadbiogchgglpaaQx29
import Derived.Test.YtadbiogchgglpaaS1
namespace Go.Proofs.Ytadbiogchgglpaa.Pure
open Go.RowKit Go.Proofs.Ytadbiogchgglpaa.Q Go.Proofs.YtadbiogchgglpaaW.PrintWords Go.Proofs.YtadbiogchgglpaaW.PrintLast

theorem CodeUses : selvagelaw13_CodeUses.Pure := by
  intro a0 _
  refine Ev.rounds (g := fun k => selvagelaw13_CodeUses.f k a0) ?_
  unfold selvagelaw13_CodeUses.f
  refine Ev.bind (code_uses_ev a0) (Ev.bind (ref_uses_ev a0) ?_)
  refine Ev.congr (fun k => if_pos rfl) lives_end
end Go.Proofs.Ytadbiogchgglpaa.Pure
