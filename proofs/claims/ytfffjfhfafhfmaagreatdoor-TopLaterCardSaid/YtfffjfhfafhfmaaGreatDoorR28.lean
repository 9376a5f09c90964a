/- A part of the proofs of the statements TopLater and TopShadowed: contracts of functions, checked by evaluation. -/
import Derived.Test.YtfffjfhfafhfmaaGreatDoorV02
namespace Go.SN
open Go.Proofs
set_option maxRecDepth 100000
theorem rT1:rkT 503 3=true:=by decide +kernel
end Go.SN
