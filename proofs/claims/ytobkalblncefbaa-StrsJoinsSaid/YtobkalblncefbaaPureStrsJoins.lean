/- For every two texts, Go's strs.Join joins their first 150 bytes, one behind the other, or tells that they are too long together: the law StrsJoins returns true. Conditions: none. -/
import Derived.Test.YtobkalblncefbaaQx24
import Derived.Test.YtobkalblncefbaaS1
namespace Go.Proofs.Ytobkalblncefbaa.Pure
open Go.RowKit Go.Proofs.Ytobkalblncefbaa.Q Go.Proofs.YtobkalblncefbaaW.PrintWords Go.Proofs.YtobkalblncefbaaW.PrintLast
set_option linter.unusedSimpArgs false
theorem empty_list : (⟨#[]⟩ : ByteArray).toList = [] := by decide +kernel
theorem StrsJoins : selvagelaw03_StrsJoins.Pure := by
  intro s t _ _
  apply Ev.rounds
  have hs := few_size s
  have ht := few_size t
  refine Ev.congr (fun k => ?_) lives_end
  unfold selvagelaw03_StrsJoins.f strs_Join.f
  rw [few_f, few_f]
  simp only [Option.bind_some]
  generalize few s = s at *
  generalize few t = t at *
  have w1 : wrap64 (60 - (s.size : Int)) = 60 - (s.size : Int) := by unfold wrap64; omega
  have w2 : wrap64 ((s.size : Int) + (t.size : Int)) = (s.size : Int) + (t.size : Int) := by unfold wrap64; omega
  rw [w1, w2]
  by_cases h : (s.size : Int) + t.size > 60
  · by_cases h1 : (s.size : Int) > 60
    · simp [if_pos h, if_pos h1, empty_list]
    · simp [if_pos h, if_neg h1, if_pos (show (t.size : Int) > 60 - s.size by omega), empty_list]
  · rw [if_neg (by omega), if_neg (by omega), if_pos (by omega)]
    simp [if_neg h, if_pos (show s.size + t.size ≤ 9223372036854775807 by omega)]
end Go.Proofs.Ytobkalblncefbaa.Pure
