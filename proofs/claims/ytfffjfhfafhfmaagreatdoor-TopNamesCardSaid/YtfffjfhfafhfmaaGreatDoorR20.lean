import Derived.Test.YtfffjfhfafhfmaaGreatDoorV02
namespace Go.SN
open Go.Proofs
set_option maxRecDepth 100000
theorem rA483:rk 483 1:=by decide +kernel
theorem rA484:rk 484 1:=by decide +kernel
end Go.SN
