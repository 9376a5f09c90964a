import Derived.Test.YtfffjfhfafhfmaaGreatDoorV02
namespace Go.SN
open Go.Proofs
set_option maxRecDepth 100000
theorem rA460:rk 460 1:=by decide +kernel
theorem rA463:rk 463 7:=by decide +kernel
theorem rA470:rk 470 2:=by decide +kernel
theorem rA472:rk 472 5:=by decide +kernel
theorem rA477:rk 477 2:=by decide +kernel
theorem rA479:rk 479 3:=by decide +kernel
theorem rA482:rk 482 1:=by decide +kernel
end Go.SN
