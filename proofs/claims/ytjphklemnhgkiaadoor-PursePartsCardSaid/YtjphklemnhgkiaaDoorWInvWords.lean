import Derived.Test.YtjphklemnhgkiaaDoorWInv
import Derived.Test.YtjphklemnhgkiaaDoorWFootNe
namespace Go.Proofs.YtjphklemnhgkiaaDoorW.PrintWords
open Go.RowKit
end Go.Proofs.YtjphklemnhgkiaaDoorW.PrintWords
namespace Go.Proofs.YtjphklemnhgkiaaDoorW.PrintLast
section
variable {ops : Array Oper} {a : Act} {o og : Oper} {g : Nat} {t : Tmp} {u : Bool}
end
end Go.Proofs.YtjphklemnhgkiaaDoorW.PrintLast
