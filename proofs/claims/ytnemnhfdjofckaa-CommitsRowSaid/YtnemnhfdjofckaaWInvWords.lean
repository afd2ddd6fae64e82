import Derived.Test.YtnemnhfdjofckaaWInv
import Derived.Test.YtnemnhfdjofckaaWFootNe
namespace Go.Proofs.YtnemnhfdjofckaaW.PrintWords
open Go.RowKit
end Go.Proofs.YtnemnhfdjofckaaW.PrintWords
namespace Go.Proofs.YtnemnhfdjofckaaW.PrintLast
section
variable {ops : Array Oper} {a : Act} {o og : Oper} {g : Nat} {t : Tmp} {u : Bool}
end
end Go.Proofs.YtnemnhfdjofckaaW.PrintLast
