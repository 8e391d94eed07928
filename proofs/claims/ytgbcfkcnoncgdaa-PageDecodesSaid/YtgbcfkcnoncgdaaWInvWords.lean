import Derived.Test.YtgbcfkcnoncgdaaWInv
import Derived.Test.YtgbcfkcnoncgdaaWFootNe
namespace Go.Proofs.YtgbcfkcnoncgdaaW.PrintWords
open Go.RowKit
end Go.Proofs.YtgbcfkcnoncgdaaW.PrintWords
namespace Go.Proofs.YtgbcfkcnoncgdaaW.PrintLast
section
variable {ops : Array Oper} {a : Act} {o og : Oper} {g : Nat} {t : Tmp} {u : Bool}
end
end Go.Proofs.YtgbcfkcnoncgdaaW.PrintLast
