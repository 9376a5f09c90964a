import Derived.Test.YtfffjfhfafhfmaaGreatDoorV02
namespace Go.SN
open Go.Proofs
set_option maxRecDepth 100000
theorem rA384:rk 384 1:=by decide +kernel
theorem rA385:rk 385 3:=by decide +kernel
theorem rA388:rk 388 1:=by decide +kernel
theorem rA389:rk 389 3:=by decide +kernel
theorem rA392:rk 392 1:=by decide +kernel
theorem rA393:rk 393 6:=by decide +kernel
theorem rA399:rk 399 2:=by decide +kernel
end Go.SN
