/- The law WindRoses, as the row asks for it: what the walk computes is true. For all roses, arcs and widths. -/
import Derived.Test.YthihlapmkcelpaaDoorQx0
import Derived.Test.YthihlapmkcelpaaDoorQx91
import Derived.Test.YthihlapmkcelpaaDoorLibQ
namespace Go.Proofs.YthihlapmkcelpaaDoor.Pure
open Go.RowKit Go.Proofs.YthihlapmkcelpaaDoor.Q Go.Proofs.YthihlapmkcelpaaDoorW.PrintWords Go.Proofs.YthihlapmkcelpaaDoorW.PrintLast

theorem WindRoses (l0 : List Int) (x1 : S33) (a2 : Int) (_ : l0.length = 32) (_ : ∀ y ∈ l0, (Lit.int .i64 y).wf = true) (_ : g33 x1) (_ : (Lit.int .i64 a2).wf = true) : wigeonlaw03_WindRoses.f l0 x1.f0 x1.f1 a2 = some true := rfl

end Go.Proofs.YthihlapmkcelpaaDoor.Pure
