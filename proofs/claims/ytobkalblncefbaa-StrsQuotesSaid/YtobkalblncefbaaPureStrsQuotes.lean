/- For every text, Go's strs.Quote writes the first 150 bytes just as the reference does: the law StrsQuotes returns true. Conditions: none. -/
import Derived.Test.YtobkalblncefbaaQx16
import Derived.Test.YtobkalblncefbaaS1
namespace Go.Proofs.Ytobkalblncefbaa.Pure
open Go.RowKit Go.Proofs.Ytobkalblncefbaa.Q Go.Proofs.YtobkalblncefbaaW.PrintWords Go.Proofs.YtobkalblncefbaaW.PrintLast
theorem StrsQuotes : selvagelaw03_StrsQuotes.Pure := by
  intro s _
  apply Ev.rounds
  have hz := few_size s
  refine Ev.congr (fun k => ?_) lives_end
  unfold selvagelaw03_StrsQuotes.f strs_Quote.f selvageref03_Quote.f
  rw [few_f]
  simp only [Option.bind_some]
  rw [if_pos (by omega)]
  simp
end Go.Proofs.Ytobkalblncefbaa.Pure
