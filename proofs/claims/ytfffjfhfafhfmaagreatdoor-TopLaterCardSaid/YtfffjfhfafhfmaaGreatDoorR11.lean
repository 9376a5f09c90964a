/- A part of the proofs of the statements TopLater and TopShadowed: contracts of functions, checked by evaluation. -/
import Derived.Test.YtfffjfhfafhfmaaGreatDoorV02
namespace Go.SN
open Go.Proofs
set_option maxRecDepth 100000
theorem rA264:rk 264 3:=by decide +kernel
theorem rA267:rk 267 6:=by decide +kernel
theorem rA273:rk 273 2:=by decide +kernel
theorem rA275:rk 275 1:=by decide +kernel
theorem rA276:rk 276 8:=by decide +kernel
theorem rA284:rk 284 8:=by decide +kernel
theorem rA292:rk 292 4:=by decide +kernel
theorem rA296:rk 296 11:=by decide +kernel
end Go.SN
