import Derived.Test.YtobkalblncefbaaS0
import Derived.Test.YtobkalblncefbaaQx1
namespace Go.Proofs.Ytobkalblncefbaa.Q
open Go.RowKit Go.Proofs.YtobkalblncefbaaW.PrintWords Go.Proofs.YtobkalblncefbaaW.PrintLast Go.Proofs.YtobkalblncefbaaW.PrintMore
set_option linter.unusedVariables false
set_option linter.unusedSimpArgs false

def few (s : ByteArray) : ByteArray := if (s.size : Int) > 150 then s.extract 0 150 else s
theorem few_f (s : ByteArray) : selvagelaw03_few.f s = some (few s) := by
  unfold selvagelaw03_few.f few
  by_cases h : (s.size : Int) > 150
  · rw [if_pos h, if_pos h, if_pos (by omega), if_pos (by omega)]
  · rw [if_neg h, if_neg h]
theorem few_size (s : ByteArray) : (few s).size ≤ 150 := by
  unfold few
  split
  · rw [ByteArray.size_extract]; omega
  · omega
theorem bindTrue {g : Nat → Option Bool} (h : Ev g true) : Ev (fun k => (g k).bind fun t => some t) true := by
  obtain ⟨K, hK⟩ := h
  exact ⟨K, fun k hk => by simp [hK k hk]⟩
theorem lives_end : Ev (fun k => (selvagelaw03_lives.f k).bind fun t => some t) true := bindTrue lives_ev
end Go.Proofs.Ytobkalblncefbaa.Q
