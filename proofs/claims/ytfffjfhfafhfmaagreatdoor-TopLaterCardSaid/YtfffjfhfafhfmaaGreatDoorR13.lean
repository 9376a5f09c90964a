/- A part of the proofs of the statements TopLater and TopShadowed: contracts of functions, checked by evaluation. -/
import Derived.Test.YtfffjfhfafhfmaaGreatDoorV02
namespace Go.SN
open Go.Proofs
set_option maxRecDepth 100000
theorem rA342:rk 342 1:=by decide +kernel
theorem rA343:rk 343 1:=by decide +kernel
theorem rA344:rk 344 1:=by decide +kernel
theorem rA345:rk 345 1:=by decide +kernel
theorem rA346:rk 346 4:=by decide +kernel
theorem rA350:rk 350 4:=by decide +kernel
theorem rA354:rk 354 2:=by decide +kernel
theorem rA356:rk 356 5:=by decide +kernel
end Go.SN
