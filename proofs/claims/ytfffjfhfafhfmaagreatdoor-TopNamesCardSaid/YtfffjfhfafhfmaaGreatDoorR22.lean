import Derived.Test.YtfffjfhfafhfmaaGreatDoorV02
namespace Go.SN
open Go.Proofs
set_option maxRecDepth 100000
theorem rA487:rk 487 1:=by decide +kernel
theorem rA488:rk 488 1:=by decide +kernel
theorem rA489:rk 489 1:=by decide +kernel
theorem rA490:rk 490 1:=by decide +kernel
theorem rA491:rk 491 1:=by decide +kernel
theorem rA492:rk 492 3:=by decide +kernel
theorem rA495:rk 495 2:=by decide +kernel
theorem rA497:rk 497 1:=by decide +kernel
end Go.SN
