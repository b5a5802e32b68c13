import Derived.Test.YtobkalblncefbaaQx13
namespace Go.Proofs.Ytobkalblncefbaa.Q
open Go.RowKit Go.Proofs.YtobkalblncefbaaW.PrintWords Go.Proofs.YtobkalblncefbaaW.PrintLast Go.Proofs.YtobkalblncefbaaW.PrintMore
set_option linter.unusedVariables false
set_option linter.unusedSimpArgs false

theorem lives_k : selvagelaw03_lives.f 40 = some true := by decide +kernel
theorem lives_ev : Ev (fun k => selvagelaw03_lives.f k) true := Ev.of (fun k => selvagelaw03_lives.mono k) lives_k
end Go.Proofs.Ytobkalblncefbaa.Q
