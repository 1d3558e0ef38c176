import Derived.Test.YtpkafcoflgbnaaaWInv
import Derived.Test.YtpkafcoflgbnaaaWFootNe
namespace Go.Proofs.YtpkafcoflgbnaaaW.PrintWords
open Go.RowKit
end Go.Proofs.YtpkafcoflgbnaaaW.PrintWords
namespace Go.Proofs.YtpkafcoflgbnaaaW.PrintLast
section
variable {ops : Array Oper} {a : Act} {o og : Oper} {g : Nat} {t : Tmp} {u : Bool}
end
end Go.Proofs.YtpkafcoflgbnaaaW.PrintLast
