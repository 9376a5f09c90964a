/- A part of the proofs of the statements TopLater and TopShadowed: contracts of functions, checked by evaluation. -/
import Derived.Test.YtfffjfhfafhfmaaGreatDoorV02
namespace Go.SN
open Go.Proofs
set_option maxRecDepth 100000
theorem rA307:rk 307 3:=by decide +kernel
theorem rA310:rk 310 8:=by decide +kernel
theorem rA318:rk 318 5:=by decide +kernel
theorem rA323:rk 323 4:=by decide +kernel
theorem rA327:rk 327 1:=by decide +kernel
theorem rA328:rk 328 1:=by decide +kernel
theorem rA329:rk 329 6:=by decide +kernel
theorem rA335:rk 335 7:=by decide +kernel
end Go.SN
