import Derived.Test.YtfffjfhfafhfmaaGreatDoorV02
namespace Go.SN
open Go.Proofs
set_option maxRecDepth 100000
theorem rA40:rk 40 13:=by decide +kernel
theorem rA53:rk 53 3:=by decide +kernel
theorem rA57:rk 57 5:=by decide +kernel
theorem rA62:rk 62 5:=by decide +kernel
theorem rA67:rk 67 5:=by decide +kernel
theorem rA72:rk 72 3:=by decide +kernel
theorem rA75:rk 75 2:=by decide +kernel
theorem rA77:rk 77 1:=by decide +kernel
theorem rA78:rk 78 7:=by decide +kernel
end Go.SN
