import Derived.Test.YtfffjfhfafhfmaaGreatDoorV02
namespace Go.SN
open Go.Proofs
set_option maxRecDepth 100000
theorem rA85:rk 85 5:=by decide +kernel
theorem rA90:rk 90 5:=by decide +kernel
theorem rA95:rk 95 4:=by decide +kernel
theorem rA99:rk 99 1:=by decide +kernel
theorem rA100:rk 100 1:=by decide +kernel
theorem rA101:rk 101 5:=by decide +kernel
theorem rA106:rk 106 7:=by decide +kernel
theorem rA113:rk 113 8:=by decide +kernel
theorem rA121:rk 121 3:=by decide +kernel
theorem rA124:rk 124 3:=by decide +kernel
end Go.SN
