import Derived.Test.YtadbiogchgglpaaWInv
import Derived.Test.YtadbiogchgglpaaWFootNe
namespace Go.Proofs.YtadbiogchgglpaaW.PrintWords
open Go.RowKit
end Go.Proofs.YtadbiogchgglpaaW.PrintWords
namespace Go.Proofs.YtadbiogchgglpaaW.PrintLast
section
variable {ops : Array Oper} {a : Act} {o og : Oper} {g : Nat} {t : Tmp} {u : Bool}
end
end Go.Proofs.YtadbiogchgglpaaW.PrintLast
