import Derived.Test.YtfffjfhfafhfmaaGreatDoorV02
namespace Go.SN
open Go.Proofs
set_option maxRecDepth 100000
theorem rA449:rk 449 4:=by decide +kernel
theorem rA453:rk 453 1:=by decide +kernel
theorem rA454:rk 454 1:=by decide +kernel
theorem rA455:rk 455 4:=by decide +kernel
theorem rA459:rk 459 1:=by decide +kernel
end Go.SN
