import Derived.Test.YtnhipgmphhndhaaWInv
import Derived.Test.YtnhipgmphhndhaaWFootNe
namespace Go.Proofs.YtnhipgmphhndhaaW.PrintWords
open Go.RowKit
end Go.Proofs.YtnhipgmphhndhaaW.PrintWords
namespace Go.Proofs.YtnhipgmphhndhaaW.PrintLast
section
variable {ops : Array Oper} {a : Act} {o og : Oper} {g : Nat} {t : Tmp} {u : Bool}
end
end Go.Proofs.YtnhipgmphhndhaaW.PrintLast
