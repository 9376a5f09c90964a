import Derived.Test.YtfffjfhfafhfmaaGreatDoorV02
namespace Go.SN
open Go.Proofs
set_option maxRecDepth 100000
theorem rA346:rk 346 4:=by decide +kernel
theorem rA350:rk 350 4:=by decide +kernel
theorem rA354:rk 354 2:=by decide +kernel
theorem rA356:rk 356 5:=by decide +kernel
theorem rA361:rk 361 1:=by decide +kernel
end Go.SN
