import Derived.Test.YtfffjfhfafhfmaaGreatDoorV02
namespace Go.SN
open Go.Proofs
set_option maxRecDepth 100000
theorem rA145:rk 145 2:=by decide +kernel
theorem rA147:rk 147 2:=by decide +kernel
theorem rA149:rk 149 2:=by decide +kernel
theorem rA151:rk 151 2:=by decide +kernel
theorem rA153:rk 153 5:=by decide +kernel
theorem rA158:rk 158 6:=by decide +kernel
theorem rA164:rk 164 3:=by decide +kernel
theorem rA167:rk 167 1:=by decide +kernel
theorem rA168:rk 168 1:=by decide +kernel
end Go.SN
