import Derived.Test.YtjphklemnhgkiaaDoorQx10
import Derived.Test.YtjphklemnhgkiaaDoorLibA
namespace Go.Proofs.YtjphklemnhgkiaaDoor.Pure
open Go.RowKit Go.Proofs.YtjphklemnhgkiaaDoor.Q Go.Proofs.YtjphklemnhgkiaaDoorW.PrintWords Go.Proofs.YtjphklemnhgkiaaDoorW.PrintLast

/-! The chapter's examples are answered. -/
set_option maxRecDepth 100000 in
theorem known_eq : wigeonlaw08_known.f 100 = some true := by decide +kernel
theorem known_ev : Ev (fun k => wigeonlaw08_known.f k) true := Ev.of wigeonlaw08_known.mono known_eq
theorem known_bind : Ev (fun k => (wigeonlaw08_known.f k).bind fun t => some t) true := Ev.bind known_ev (Ev.now _)
end Go.Proofs.YtjphklemnhgkiaaDoor.Pure
