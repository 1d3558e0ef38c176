/- The law WindNames, as the row asks for it: what the walk computes is true. For all numbers and texts. -/
import Derived.Test.YthihlapmkcelpaaDoorQx0
import Derived.Test.YthihlapmkcelpaaDoorQx92
namespace Go.Proofs.YthihlapmkcelpaaDoor.Pure
open Go.RowKit Go.Proofs.YthihlapmkcelpaaDoor.Q Go.Proofs.YthihlapmkcelpaaDoorW.PrintWords Go.Proofs.YthihlapmkcelpaaDoorW.PrintLast

theorem WindNames (a0 : Int) (a1 : ByteArray) (_ : (Lit.int .i64 a0).wf = true) (_ : a1.size ≤ 140737488351232) : wigeonlaw03_WindNames.f a0 a1 = some true := rfl

end Go.Proofs.YthihlapmkcelpaaDoor.Pure
