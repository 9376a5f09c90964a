/- A part of the proofs of the statements TopLater and TopShadowed: contracts of functions, checked by evaluation. -/
import Derived.Test.YtfffjfhfafhfmaaGreatDoorV02
namespace Go.SN
open Go.Proofs
set_option maxRecDepth 100000
theorem rA482:rk 482 1:=by decide +kernel
theorem rA483:rk 483 1:=by decide +kernel
theorem rA484:rk 484 1:=by decide +kernel
end Go.SN
