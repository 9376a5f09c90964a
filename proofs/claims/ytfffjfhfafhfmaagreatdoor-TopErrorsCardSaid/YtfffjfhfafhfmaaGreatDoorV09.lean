/- A part of the proof of the statement TopErrors: for every input the law returns true. -/
import Derived.Test.YtfffjfhfafhfmaaGreatDoorV03
import Derived.Test.YtfffjfhfafhfmaaGreatDoorV02
set_option linter.all false
namespace Go.SE
section
open Go Go.PV Go.SN Go.Proofs
def kI:TD:= .int .i64 (-9223372036854775808) 9223372036854775807
def kU:TD:= .int .u64 0 18446744073709551615
def d9P:TD:= .agg [.str 253,kI,.str 8193,.str 134217728,.int .i64 0 4,.int .u64 0 0,.int .u64 0 0]
def d6u:TD:= .agg [.str 134217728,kI,.str 134217728,.str 134217728,kI,kU,kU]
def idD:TD:= .agg [.int .i64 1 4,.str 12573,.str 253,kI]
def exD:TD:= .agg [.str 65536,kI,.str 65536,.str 65536,.str 65536,.bool,.bool,kI,kI]
def i0:Sh:= .lit (.int .i64 0)
def s0:Sh:= .lit (.string ⟨#[]⟩)
def idS:Sh:= .agg [.td kI,.td (.str 12573),.td (.str 253),.td kI]
def d5X(k:Nat):Option (List Sh×List Sh):=match k with
 |8=>some ([],[.lit (.bool true)])
 |9=>some ([.td (.sl false 9223372036854775807 (.int .u8 0 255))],[.tup [.td (.str 193),.td (.sl false 30 d9P)]])
 |10=>some ([.td (.str 1099511627776)],[.tup [.agg [i0,s0,s0,i0],.td (.int .i64 1 110)],.tup [.agg [.td (.int .i64 1 4),.td (.str 12573),.td (.str 253),.td kI],i0]])
 |20=>some ([.td (.sl false 1048576 d6u),.td kU,idS],[.tup [.agg [i0,s0,s0,i0,.nils,i0,.lit (.bool false),.lit (.int .u64 0),.nils],.td (.int .i64 1 110)],.tup [.agg [.td kI,.td (.str 1048576),.td (.str 1048576),.td kI,.td (.sl false 64 idD),.td (.int .i64 0 3),.td .bool,.td (.int .u64 0 86400),.ne (.sl false 24 exD)],.td kI]])
 |21=>some ([.td (.sl false 64 idD),idS],[.td .bool])
 |45=>some ([.agg [.td .bool,.td kU],.agg [.td .bool,.td kU]],[.agg [.td .bool,.td kU]])
 |_=>none
def d6L(k:Nat):Option (List Sh):=if k=15 then some [.td (.sl false 1048576 d6u),.td kU,.td (.str 1048576)]else none
def d8w(k:Nat):Nat:=if k=44 then 21 else k
def K7:Ks:={n:=3,m:=0,fs:=[.ty 0 (.sl false 9223372036854775807 (.int .u8 0 255)),.ty 1 kU,.ty 2 (.str 9223372036854775807)]}
set_option maxRecDepth 100000 in
theorem e0l:d7V Tryz.prog (clT Tryz.prog prL inlS d8w d5X [15,43] d6L 60 3) 60 K7 7 [tk 0,tk 1,tk 2]=true:=by decide+kernel
end
end Go.SE
