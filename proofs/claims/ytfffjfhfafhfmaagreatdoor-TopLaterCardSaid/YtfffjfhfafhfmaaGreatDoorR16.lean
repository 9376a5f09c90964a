/- A part of the proofs of the statements TopLater and TopShadowed: contracts of functions, checked by evaluation. -/
import Derived.Test.YtfffjfhfafhfmaaGreatDoorV02
namespace Go.SN
open Go.Proofs
set_option maxRecDepth 100000
theorem rA389:rk 389 3:=by decide +kernel
theorem rA392:rk 392 1:=by decide +kernel
theorem rA393:rk 393 6:=by decide +kernel
theorem rA399:rk 399 2:=by decide +kernel
theorem rA401:rk 401 1:=by decide +kernel
end Go.SN
