import Derived.Test.YtfffjfhfafhfmaaGreatDoorV02
namespace Go.SN
open Go.Proofs
set_option maxRecDepth 100000
theorem rA169:rk 169 1:=by decide +kernel
theorem rA170:rk 170 1:=by decide +kernel
theorem rA171:rk 171 2:=by decide +kernel
theorem rA173:rk 173 1:=by decide +kernel
theorem rA174:rk 174 1:=by decide +kernel
theorem rA175:rk 175 1:=by decide +kernel
theorem rA176:rk 176 1:=by decide +kernel
theorem rA177:rk 177 1:=by decide +kernel
end Go.SN
