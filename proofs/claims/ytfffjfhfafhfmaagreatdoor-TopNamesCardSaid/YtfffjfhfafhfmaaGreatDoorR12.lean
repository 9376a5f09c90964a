import Derived.Test.YtfffjfhfafhfmaaGreatDoorV02
namespace Go.SN
open Go.Proofs
set_option maxRecDepth 100000
theorem rA328:rk 328 1:=by decide +kernel
theorem rA329:rk 329 6:=by decide +kernel
theorem rA335:rk 335 7:=by decide +kernel
theorem rA342:rk 342 1:=by decide +kernel
theorem rA343:rk 343 1:=by decide +kernel
theorem rA344:rk 344 1:=by decide +kernel
theorem rA345:rk 345 1:=by decide +kernel
end Go.SN
