/- For every text (its first 150 bytes), Go's strs.Unquote reads what is written there just as the reference does, or refuses it with the same error: the law StrsReads returns true. Conditions: none. -/
import Derived.Test.YtobkalblncefbaaQx19
import Derived.Test.YtobkalblncefbaaS7
namespace Go.Proofs.Ytobkalblncefbaa.Pure
open Go.RowKit Go.Proofs.Ytobkalblncefbaa.Q Go.Proofs.YtobkalblncefbaaW.PrintWords Go.Proofs.YtobkalblncefbaaW.PrintLast
theorem StrsReads : selvagelaw03_StrsReads.Pure := by
  intro s _
  apply Ev.rounds
  have hs := few_size s
  unfold selvagelaw03_StrsReads.f
  simp only [few_f, Option.bind_some]
  refine Ev.bind (unq_ev _ (by omega)) (Ev.bind (rnq_ev _ (by omega)) ?_)
  exact Ev.congr (fun k => by rw [if_pos rfl, if_pos rfl, if_pos rfl]) lives_end
end Go.Proofs.Ytobkalblncefbaa.Pure
