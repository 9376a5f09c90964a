import Derived.Test.YtfffjfhfafhfmaaGreatDoorV02
namespace Go.SN
open Go.Proofs
set_option maxRecDepth 100000
theorem rA127:rk 127 2:=by decide +kernel
theorem rA129:rk 129 2:=by decide +kernel
theorem rA131:rk 131 3:=by decide +kernel
theorem rA134:rk 134 1:=by decide +kernel
theorem rA135:rk 135 1:=by decide +kernel
theorem rA136:rk 136 8:=by decide +kernel
theorem rA144:rk 144 1:=by decide +kernel
end Go.SN
