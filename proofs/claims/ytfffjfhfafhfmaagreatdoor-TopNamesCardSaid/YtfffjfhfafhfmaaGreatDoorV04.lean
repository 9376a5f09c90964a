import Derived.Test.YtfffjfhfafhfmaaGreatDoorV03
import Derived.KernelRfl
set_option linter.all false
namespace Go.SE
section
open Go Go.PV Go.SN Go.Proofs
noncomputable section
abbrev Sb:={e:Ent//RC Tryz.prog a4w inlS e.1 e.2.1 e.2.2}
theorem sbs(T:List Sb):∀e∈T.map (·.1),RC Tryz.prog a4w inlS e.1 e.2.1 e.2.2:=by
 intro e he
 obtain⟨x,_,rfl⟩:=List.mem_map.1 he
 exact x.2
noncomputable def mk(T:List Sb)(e:Ent)(h:d7P Tryz.prog a4w inlS (T.map (·.1)) 3000 40 e=true):Sb:=⟨e,e0d (sbs T) h⟩
noncomputable abbrev cT(T:List Sb):=a3H Tryz.prog a4w inlS (T.map (·.1)) 3000 39
noncomputable def mc(T:List Sb)(xs:List V)(v:V)(s1 s2:St)(ht:b6I (T.map (·.1)) 82 xs=none)(h0:b1Q Tryz.prog (cT T) 3000 82 xs=some s1)(h1:b2o Tryz.prog (cT T) 3000 82 14 s1=some s2)(h2:b2q Tryz.prog (cT T) 3000 82 2986 s2=some v):Sb:=
 ⟨(82,xs,v),d2s (d:=39) (F:=3000) (m:=14) (n2:=2986) (sbs T) rfl ht rfl h0 h1 h2⟩
def iN(n:Int):V:= .lit (.int .i64 n)
def w0:V:=hx 21 0x68747470733a2f2f622e6578616d706c652f626f62
def w1:V:=hx 9 0x622e6578616d706c65
def w2:V:=hx 4 0x2f626f62
def w3:V:= .lit (.bool true)
def w4:V:= .lit (.bool false)
def w5:V:= .tup [.agg [w1,iN 0,w2,hx 0 0,hx 0 0,w4,w4],iN 0]
def w6:V:=hx 7 0x7375626a656374
def w7:V:=hx 7 0x616c6961736573
def w8:V:=hx 5 0x6c696e6b73
def w9:V:= .sl none [w6,w7,w8]
def w10:V:=hx 18 0x68747470733a2f2f782e6578616d706c652f
def w11:V:=hx 18 0x616363743a626f6240612e6578616d706c65
def w12:V:=hx 4 0x68726566
def w13:V:= .sl none [hx 3 0x72656c,w12]
def w14:V:=hx 4 0x73656c66
def w15:V:= .agg [iN 5,w14,.nils,.nils]
def w16:V:= .agg [iN 5,w0,.nils,.nils]
def w17:V:= .agg [iN 7,hx 0 0,w13,.sl none [w15,w16]]
def w18:V:= .sl none [w12,hx 3 0x72656c]
def w19:V:= .agg [iN 7,hx 0 0,w18,.sl none [w16,w15]]
def w20:V:= .sl none [w7,w8,w6]
def w21:V:= .agg [iN 5,w11,.nils,.nils]
def w22:V:= .agg [iN 6,hx 0 0,.nils,.sl none [w21]]
def w23:V:= .agg [iN 5,w10,.nils,.nils]
def w24:V:= .agg [iN 7,hx 0 0,w20,.sl none [w22,.agg [iN 6,hx 0 0,.nils,.sl none [w19]],w23]]
def w25:V:=hx 121 0x7b22616c6961736573223a5b22616363743a626f6240612e6578616d706c65225d2c226c696e6b73223a5b7b2268726566223a2268747470733a2f2f622e6578616d706c652f626f62222c2272656c223a2273656c66227d5d2c227375626a656374223a2268747470733a2f2f782e6578616d706c652f227d
def w26:V:= .tup [w25,iN 0]
def w27:V:=hx 9 0x612e6578616d706c65
def w28:V:= .agg [iN 1,w11,w27,iN 0]
def w29:V:=hx 22 0x2f2e77656c6c2d6b6e6f776e2f77656266696e676572
def w30:V:=hx 31 0x7265736f757263653d61636374253341626f62253430612e6578616d706c65
def w31:V:= .agg [w27,iN 0,w29,w30,hx 0 0,w3,w4]
def w32:V:= .tup [w31,iN 0]
def w33:V:= .agg [iN 7,hx 0 0,w13,.sl none [w15,w21]]
def w34:V:= .agg [iN 6,hx 0 0,.nils,.sl none [w16]]
def w35:V:= .agg [iN 7,hx 0 0,w18,.sl none [w21,w15]]
def w36:V:= .agg [iN 7,hx 0 0,w20,.sl none [w34,.agg [iN 6,hx 0 0,.nils,.sl none [w35]],w23]]
def w37:V:=hx 121 0x7b22616c6961736573223a5b2268747470733a2f2f622e6578616d706c652f626f62225d2c226c696e6b73223a5b7b2268726566223a22616363743a626f6240612e6578616d706c65222c2272656c223a2273656c66227d5d2c227375626a656374223a2268747470733a2f2f782e6578616d706c652f227d
def w38:V:=hx 29 0x6874747073253341253246253246622e6578616d706c65253246626f62
def w39:V:=hx 263 0x485454502f312e3120323030202d0d0a636f6e74656e742d747970653a206170706c69636174696f6e2f6a72642b6a736f6e0d0a63616368652d636f6e74726f6c3a206d61782d6167653d3130300d0a6167653a2034300d0a7472616e736665722d656e636f64696e673a206368756e6b65640d0a0d0a33320d0a7b22616c6961736573223a5b22616363743a626f6240612e6578616d706c65225d2c226c696e6b73223a5b7b2268726566220d0a33320d0a3a2268747470733a2f2f622e6578616d706c652f626f62222c2272656c223a2273656c66227d5d2c227375626a656374223a0d0a31350d0a2268747470733a2f2f782e6578616d706c652f227d0d0a300d0a0d0a
def w40:V:= .lit (.int .u64 0)
def w41:V:= .agg [w27,iN 0,hx 54 0x2f2e77656c6c2d6b6e6f776e2f77656266696e6765723f7265736f757263653d61636374253341626f62253430612e6578616d706c65,w39,iN 0,w40,w40]
def w42:V:=hx 263 0x485454502f312e3120323030202d0d0a636f6e74656e742d747970653a206170706c69636174696f6e2f6a72642b6a736f6e0d0a63616368652d636f6e74726f6c3a206d61782d6167653d3130300d0a6167653a2034300d0a7472616e736665722d656e636f64696e673a206368756e6b65640d0a0d0a33320d0a7b22616c6961736573223a5b2268747470733a2f2f622e6578616d706c652f626f62225d2c226c696e6b73223a5b7b2268720d0a33320d0a6566223a22616363743a626f6240612e6578616d706c65222c2272656c223a2273656c66227d5d2c227375626a656374223a0d0a31350d0a2268747470733a2f2f782e6578616d706c652f227d0d0a300d0a0d0a
def w43:V:= .sl none [w41,.agg [w1,iN 0,hx 61 0x2f2e77656c6c2d6b6e6f776e2f77656266696e6765723f7265736f757263653d6874747073253341253246253246622e6578616d706c65253246626f62,w42,iN 0,w40,w40]]
def w44:V:=hx 15 0x2124262728292a2b2c3b3d3a402f3f
def w45:V:=hx 20 0x6170706c69636174696f6e2f6a72642b6a736f6e
def w46:V:=hx 11 0x6d61782d6167653d313030
def w47:V:= .sl none [.agg [hx 12 0x636f6e74656e742d74797065,w45],.agg [hx 13 0x63616368652d636f6e74726f6c,w46],.agg [hx 3 0x616765,hx 2 0x3430],.agg [hx 17 0x7472616e736665722d656e636f64696e67,hx 7 0x6368756e6b6564]]
def w48:V:= .agg [iN 1,iN 200,w47]
def w49:V:= .tup [w48,iN 119,iN 0]
def w50:V:= .agg [w27,iN 0,w29,w30,hx 0 0,w3,w4,iN 1,iN 200,w47,w25,.nils]
def w51:V:= .tup [w50,iN 200,iN 0]
def w52:V:= .tup [.agg [iN 3,w10,iN 100],iN 120,iN 0]
def e29:Ent:=(82,[w25],.tup [w24,iN 121,iN 0])
def w53:V:= .agg [w10,.sl none [w11],.nils,.sl none [.agg [w14,hx 0 0,w0,hx 0 0,.nils,.nils]]]
def w54:V:=hx 9 0x782e6578616d706c65
def w55:V:= .agg [iN 3,w0,w1,iN 0]
def w56:V:= .agg [iN 3,w10,w54,iN 0]
def w57:V:= .sl none [w55,w56]
def w58:V:= .agg [w27,iN 0,w29,w30,hx 0 0,w3,w4,iN 200,iN 0]
def w59:V:= .lit (.int .u64 60)
def w60:V:= .tup [.agg [iN 1,w11,w27,iN 0,w57,iN 0,w3,w59,.nils],iN 0]
def w61:V:= .tup [.agg [iN 1,w11,w27,iN 0,w57,iN 1,w3,w59,.sl none [w58]],iN 0]
def w62:V:=hx 38 0x7265736f757263653d6874747073253341253246253246622e6578616d706c65253246626f62
def w63:V:= .agg [w1,iN 0,w29,w62,hx 0 0,w3,w4]
def w64:V:= .tup [w63,iN 0]
def w65:V:= .agg [w1,iN 0,w29,w62,hx 0 0,w3,w4,iN 1,iN 200,w47,w37,.nils]
def e47:Ent:=(82,[w37],.tup [w36,iN 121,iN 0])
def w66:V:= .agg [w10,.sl none [w0],.nils,.sl none [.agg [w14,hx 0 0,w11,hx 0 0,.nils,.nils]]]
def w67:V:= .sl none [w28,w56]
def w68:V:= .agg [w1,iN 0,w29,w62,hx 0 0,w3,w4,iN 200,iN 0]
def w69:V:= .tup [.agg [iN 3,w0,w1,iN 0,w67,iN 0,w3,w59,.nils],iN 0]
def w70:V:= .agg [iN 0,iN 1,w11,w27,iN 0,iN 3,w0,w1,iN 0,w3,w59,.sl none [w58,w68]]
def w71:V:= .agg [w1,iN 0,w29,w62,hx 0 0,w3,w4,iN 0,iN 241]
set_option maxRecDepth 100000
def a0:Sb:=mk [] (303,[w0],.tup [.agg [hx 5 0x6874747073,w1,w2,hx 0 0,hx 0 0,w3,w3,w4,w4],iN 0]) (by decide+kernel)
def a1:Sb:=mk [a0] (193,[w0],w5) (by decide+kernel)
def a2:Sb:=mk [] (377,[w9],w3) (by decide+kernel)
def a3:Sb:=mk [] (406,[w10],iN 18) (by decide+kernel)
def a4:Sb:=mk [] (406,[w11],iN 18) (by decide+kernel)
def a5:Sb:=mk [] (406,[w0],iN 21) (by decide+kernel)
def a6:Sb:=mk [a5] (313,[w17],w3) (by decide+kernel)
def a7:Sb:=mk [a5] (210,[w19],hx 45 0x7b2268726566223a2268747470733a2f2f622e6578616d706c652f626f62222c2272656c223a2273656c66227d) (by decide+kernel)
def a8:Sb:=mk [a4,a7,a3] (210,[w24],w25) (by decide+kernel)
def a9:Sb:=mk [a2,a3,a4,a6,a8] (117,[.agg [iN 7,hx 0 0,w9,.sl none [w23,w22,.agg [iN 6,hx 0 0,.nils,.sl none [w17]]]]],w26) (by decide+kernel)
def a10:Sb:=mk [] (113,[w28],w32) (by decide+kernel)
def a11:Sb:=mk [a4] (313,[w33],w3) (by decide+kernel)
def a12:Sb:=mk [] (211,[.agg [iN 7,hx 0 0,w9,.sl none [w23,w34,.agg [iN 6,hx 0 0,.nils,.sl none [w33]]]]],w36) (by decide+kernel)
def a13:Sb:=mk [] (314,[w7],.tup [hx 9 0x22616c696173657322,iN 0]) (by decide+kernel)
def a14:Sb:=mk [a4] (210,[w35],hx 42 0x7b2268726566223a22616363743a626f6240612e6578616d706c65222c2272656c223a2273656c66227d) (by decide+kernel)
def a15:Sb:=mk [a13,a5,a14,a3] (210,[w36],w37) (by decide+kernel)
def a16:Sb:=mk [] (192,[w0,hx 0 0],w38) (by decide+kernel)
def a17:Sb:=mk [a1,a9,a10,a2,a3,a5,a11,a12,a15,a16] (22,[],.tup [w11,w43]) (by decide+kernel)
def a18:Sb:=mk [] (66,[w28],w32) (by decide+kernel)
def a19:Sb:=mk [] (243,[w29,hx 14 0x2124262728292a2b2c3b3d3a402f],.tup [w29,iN 0]) (by decide+kernel)
def a20:Sb:=mk [] (243,[w30,w44],.tup [w30,iN 0]) (by decide+kernel)
def a21:Sb:=mk [a19,a20] (137,[hx 71 0x68747470733a2f2f612e6578616d706c652f2e77656c6c2d6b6e6f776e2f77656266696e6765723f7265736f757263653d61636374253341626f62253430612e6578616d706c65],w32) (by decide+kernel)
def a22:Sb:=mk [] (125,[w39],w49) (by decide+kernel)
def a23:Sb:=mk [] (232,[hx 144 0x33320d0a7b22616c6961736573223a5b22616363743a626f6240612e6578616d706c65225d2c226c696e6b73223a5b7b2268726566220d0a33320d0a3a2268747470733a2f2f622e6578616d706c652f626f62222c2272656c223a2273656c66227d5d2c227375626a656374223a0d0a31350d0a2268747470733a2f2f782e6578616d706c652f227d0d0a300d0a0d0a,iN 1048576],w26) (by decide+kernel)
def a24:Sb:=mk [a21,a22,a23] (56,[w43,w40,w31],w51) (by decide+kernel)
def a25:Sb:=mk [] (80,[w45],.tup [.agg [hx 11 0x6170706c69636174696f6e,hx 8 0x6a72642b6a736f6e,.nils],iN 0]) (by decide+kernel)
def a26:Sb:=mk [] (162,[w25,iN 12],.tup [.agg [iN 3,w11,iN 12],iN 32,iN 0]) (by decide+kernel)
def a27:Sb:=mk [] (162,[w25,iN 51],.tup [.agg [iN 3,w0,iN 51],iN 74,iN 0]) (by decide+kernel)
def a28:Sb:=mk [] (162,[w25,iN 100],w52) (by decide+kernel)
def d0P:St:=⟨(.node (.node (.node (.node (.node (.node (.node (.node (.one w25) .leaf) .leaf) .leaf) .leaf) .leaf) (.node (.node (.node (.node (.node (.one (iN 0)) .leaf) .leaf) .leaf) .leaf) (.node (.node (.node (.node (.one (iN 121)) .leaf) .leaf) .leaf) .leaf))) (.node (.node (.node (.node (.node (.node (.one (.ptr 0 0)) .leaf) .leaf) .leaf) .leaf) .leaf) (.node (.node (.node (.node (.node (.one (iN 0)) .leaf) .leaf) .leaf) .leaf) .leaf))) (.node (.node .leaf (.node (.node (.node (.node (.node (.one (.ptr 1 0)) .leaf) .leaf) .leaf) .leaf) (.node (.node (.node (.node (.one w4) .leaf) .leaf) .leaf) .leaf))) (.node (.node (.node (.node (.node (.node (.one (iN 0)) .leaf) .leaf) .leaf) .leaf) (.node (.node (.node (.node (.one w25) .leaf) .leaf) .leaf) .leaf)) .leaf))),[(1,some (.var [.nils,(iN 0),(iN 0),(iN 0),(hx 0 0),.nils,.nils])),(0,some (.var [(iN 0),(hx 0 0),.nils,.nils]))],2,43⟩
def d1Q:St:=⟨(.node (.node (.node (.node (.node (.node (.node (.node (.one w25) .leaf) .leaf) .leaf) (.node (.node (.node (.one w25) .leaf) .leaf) .leaf)) (.node (.node (.node (.node (.one (iN 74)) .leaf) .leaf) .leaf) .leaf)) (.node (.node (.node (.node (.node (.one (iN 0)) .leaf) .leaf) (.node (.node (.one (iN 3)) .leaf) .leaf)) (.node (.node (.node (.one (iN 74)) .leaf) .leaf) .leaf)) (.node (.node (.node (.node (.one (iN 121)) .leaf) .leaf) .leaf) (.node (.node (.node (.one (iN 0)) .leaf) .leaf) .leaf)))) (.node (.node (.node (.node (.node (.node (.one (.ptr 0 0)) .leaf) .leaf) .leaf) (.node (.node (.node (.one (.tup [(.agg [(iN 3),w0,(iN 51)]),(iN 74),(iN 0)])) .leaf) .leaf) .leaf)) (.node (.node (.node (.node (.one (iN 0)) .leaf) .leaf) (.node (.node (.one (iN 74)) .leaf) .leaf)) .leaf)) (.node (.node (.node (.node (.node (.one (iN 74)) .leaf) .leaf) .leaf) (.node (.node (.node (.one (iN 0)) .leaf) .leaf) .leaf)) (.node .leaf (.node (.node (.node (.one w4) .leaf) .leaf) .leaf))))) (.node (.node (.node (.node .leaf (.node (.node (.node (.one (iN 51)) .leaf) .leaf) .leaf)) (.node (.node (.node (.node (.one (iN 0)) .leaf) .leaf) .leaf) .leaf)) (.node (.node (.node (.node (.node (.one (.ptr 1 0)) .leaf) .leaf) (.node (.node (.one w4) .leaf) .leaf)) (.node (.node (.node (.one (iN 0)) .leaf) .leaf) .leaf)) (.node (.node (.node (.node (.one w4) .leaf) .leaf) .leaf) (.node (.node (.node (.one (iN 0)) .leaf) .leaf) .leaf)))) (.node (.node (.node (.node (.node (.node (.one (iN 0)) .leaf) .leaf) (.node (.node (.one (.ptr 68 0)) .leaf) .leaf)) (.node (.node (.node (.one (.agg [(iN 3),w0,(iN 51)])) .leaf) .leaf) .leaf)) (.node (.node (.node (.node (.one w25) .leaf) .leaf) .leaf) (.node (.node (.node (.one (.agg [(iN 3),w0,(iN 51)])) .leaf) .leaf) .leaf))) (.node (.node (.node (.node (.node (.one (.ptr 68 0)) .leaf) .leaf) .leaf) (.node (.node (.node (.one w4) .leaf) .leaf) .leaf)) (.node (.node (.node (.node (.one (.tup [(.agg [(iN 3),w0,(iN 51)]),(iN 74),(iN 0)])) .leaf) .leaf) .leaf) .leaf))))),[(1,some (.var [(.row 59 5 0 3),(iN 5),(iN 6),(iN 0),(hx 0 0),.nils,.nils])),(59,some (.row 399 5 [(.agg [(iN 7),(hx 0 0),(.row 44 1 0 2),(.row 36 4 0 1),(.map 5)]),(.agg [(iN 6),(hx 0 0),.nils,.nils,(.map 51)]),(.agg [(iN 7),(hx 0 0),(.row 64 1 0 1),(.row 75 4 0 1),(.map 57)])] false)),(75,some (.row 153 4 [(.agg [(iN 5),w0,.nils,.nils])] false)),(75,some (.row 153 4 [(.agg [(iN 0),(hx 0 0),.nils,.nils])] false)),(74,some (.row 153 4 [(.agg [(iN 0),(hx 0 0),.nils,.nils])] false)),(73,some (.var [(iN 5),w0,.nils,.nils])),(1,some (.var [(.row 59 5 0 3),(iN 0),(iN 6),(iN 0),(hx 0 0),.nils,.nils])),(72,some (.var [(iN 5),w0,.nils,.nils])),(72,some (.var [(iN 0),(hx 0 0),.nils,.nils])),(71,some (.var [(iN 3),w0,(iN 51)])),(70,some (.var [(iN 3),w0,(iN 51)])),(69,some (.var [(iN 3),w0,(iN 51)])),(68,some (.var [(iN 3),w0,(iN 51)])),(68,some (.var [(iN 0),(hx 0 0),(iN 0)])),(1,some (.var [(.row 59 5 0 3),(iN 0),(iN 5),(iN 0),(hx 0 0),.nils,.nils])),(67,some (.var [(iN 2),(hx 1 0x3a),(iN 50)])),(66,some (.var [(iN 2),(hx 1 0x3a),(iN 50)])),(65,some (.var [(iN 2),(hx 1 0x3a),(iN 50)])),(65,some (.var [(iN 0),(hx 0 0),(iN 0)])),(1,some (.var [(.row 59 5 0 3),(iN 4),(iN 5),(iN 0),(hx 0 0),.nils,.nils])),(59,some (.row 399 5 [(.agg [(iN 7),(hx 0 0),(.row 44 1 0 2),(.row 36 4 0 1),(.map 5)]),(.agg [(iN 6),(hx 0 0),.nils,.nils,(.map 51)]),(.agg [(iN 7),(hx 0 0),(.row 64 1 0 1),.nils,(.map 57)])] false)),(64,some (.row 9 1 [w12] false)),(63,some (.row 9 1 [w12] false)),(57,some (.map [(w12,w3)])),(62,some (.var [(iN 3),w12,(iN 44)])),(61,some (.var [(iN 3),w12,(iN 44)])),(60,some (.var [(iN 3),w12,(iN 44)])),(60,some (.var [(iN 0),(hx 0 0),(iN 0)])),(1,some (.var [(.row 59 5 0 3),(iN 3),(iN 5),(iN 0),(hx 0 0),.nils,.nils])),(1,some (.var [(.row 59 5 0 3),(iN 1),(iN 5),(iN 0),(hx 0 0),.nils,.nils])),(59,some (.row 399 5 [(.agg [(iN 7),(hx 0 0),(.row 44 1 0 2),(.row 36 4 0 1),(.map 5)]),(.agg [(iN 6),(hx 0 0),.nils,.nils,(.map 51)]),(.agg [(iN 7),(hx 0 0),.nils,.nils,(.map 57)])] false)),(53,none),(58,some (.row 399 5 [(.agg [(iN 7),(hx 0 0),.nils,.nils,(.map 57)])] false)),(57,some (.map [])),(1,some (.var [(.row 53 5 0 2),(iN 1),(iN 5),(iN 0),(hx 0 0),.nils,.nils])),(56,some (.var [(iN 2),(hx 1 0x7b),(iN 43)])),(55,some (.var [(iN 2),(hx 1 0x7b),(iN 43)])),(54,some (.var [(iN 2),(hx 1 0x7b),(iN 43)])),(54,some (.var [(iN 0),(hx 0 0),(iN 0)])),(1,some (.var [(.row 53 5 0 2),(iN 1),(iN 4),(iN 0),(hx 0 0),.nils,.nils])),(1,some (.var [(.row 53 5 0 2),(iN 0),(iN 4),(iN 0),(hx 0 0),.nils,.nils])),(53,some (.row 399 5 [(.agg [(iN 7),(hx 0 0),(.row 44 1 0 2),(.row 36 4 0 1),(.map 5)]),(.agg [(iN 6),(hx 0 0),.nils,.nils,(.map 51)])] false)),(21,none),(52,some (.row 399 5 [(.agg [(iN 6),(hx 0 0),.nils,.nils,(.map 51)])] false)),(51,some (.map [])),(1,some (.var [(.row 21 5 0 1),(iN 0),(iN 4),(iN 0),(hx 0 0),.nils,.nils])),(50,some (.var [(iN 2),(hx 1 0x5b),(iN 42)])),(49,some (.var [(iN 2),(hx 1 0x5b),(iN 42)])),(48,some (.var [(iN 2),(hx 1 0x5b),(iN 42)])),(48,some (.var [(iN 0),(hx 0 0),(iN 0)])),(1,some (.var [(.row 21 5 0 1),(iN 0),(iN 3),(iN 0),(hx 0 0),.nils,.nils])),(47,some (.var [(iN 2),(hx 1 0x3a),(iN 41)])),(46,some (.var [(iN 2),(hx 1 0x3a),(iN 41)])),(45,some (.var [(iN 2),(hx 1 0x3a),(iN 41)])),(45,some (.var [(iN 0),(hx 0 0),(iN 0)])),(1,some (.var [(.row 21 5 0 1),(iN 4),(iN 3),(iN 0),(hx 0 0),.nils,.nils])),(21,some (.row 399 5 [(.agg [(iN 7),(hx 0 0),(.row 44 1 0 2),(.row 36 4 0 1),(.map 5)]),(.agg [(iN 6),(hx 0 0),.nils,(.row 29 4 0 1),(.map 19)])] false)),(44,some (.row 9 1 [w7,w8] false)),(12,none),(43,some (.row 9 1 [w8] false)),(5,some (.map [(w7,w3),(w8,w3)])),(42,some (.var [(iN 3),w8,(iN 34)])),(41,some (.var [(iN 3),w8,(iN 34)])),(40,some (.var [(iN 3),w8,(iN 34)])),(40,some (.var [(iN 0),(hx 0 0),(iN 0)])),(1,some (.var [(.row 21 5 0 1),(iN 2),(iN 3),(iN 0),(hx 0 0),.nils,.nils])),(1,some (.var [(.row 21 5 0 1),(iN 0),(iN 3),(iN 0),(hx 0 0),.nils,.nils])),(39,some (.var [(iN 2),(hx 1 0x2c),(iN 33)])),(38,some (.var [(iN 2),(hx 1 0x2c),(iN 33)])),(37,some (.var [(iN 2),(hx 1 0x2c),(iN 33)])),(37,some (.var [(iN 0),(hx 0 0),(iN 0)])),(1,some (.var [(.row 21 5 0 1),(iN 5),(iN 3),(iN 0),(hx 0 0),.nils,.nils])),(21,some (.row 399 5 [(.agg [(iN 7),(hx 0 0),(.row 12 1 0 1),(.row 36 4 0 1),(.map 5)]),(.agg [(iN 6),(hx 0 0),.nils,(.row 29 4 0 1),(.map 19)])] false)),(36,some (.row 153 4 [(.agg [(iN 6),(hx 0 0),.nils,(.row 29 4 0 1)])] false)),(36,some (.row 153 4 [(.agg [(iN 0),(hx 0 0),.nils,.nils])] false)),(35,some (.row 153 4 [(.agg [(iN 0),(hx 0 0),.nils,.nils])] false)),(34,some (.var [(iN 6),(hx 0 0),.nils,(.row 29 4 0 1)])),(1,some (.var [(.row 21 5 0 1),(iN 5),(iN 3),(iN 0),(hx 0 0),.nils,.nils])),(33,some (.var [(iN 6),(hx 0 0),.nils,(.row 29 4 0 1)])),(33,some (.var [(iN 0),(hx 0 0),.nils,.nils])),(32,some (.var [(iN 2),(hx 1 0x5d),(iN 32)])),(31,some (.var [(iN 2),(hx 1 0x5d),(iN 32)])),(30,some (.var [(iN 2),(hx 1 0x5d),(iN 32)])),(30,some (.var [(iN 0),(hx 0 0),(iN 0)])),(1,some (.var [(.row 21 5 0 2),(iN 5),(iN 3),(iN 0),(hx 0 0),.nils,.nils])),(21,some (.row 399 5 [(.agg [(iN 7),(hx 0 0),(.row 12 1 0 1),.nils,(.map 5)]),(.agg [(iN 6),(hx 0 0),.nils,(.row 29 4 0 1),(.map 19)])] false)),(29,some (.row 153 4 [(.agg [(iN 5),w11,.nils,.nils])] false)),(29,some (.row 153 4 [(.agg [(iN 0),(hx 0 0),.nils,.nils])] false)),(28,some (.row 153 4 [(.agg [(iN 0),(hx 0 0),.nils,.nils])] false)),(27,some (.var [(iN 5),w11,.nils,.nils])),(1,some (.var [(.row 21 5 0 2),(iN 1),(iN 3),(iN 0),(hx 0 0),.nils,.nils])),(26,some (.var [(iN 5),w11,.nils,.nils])),(26,some (.var [(iN 0),(hx 0 0),.nils,.nils])),(25,some (.var [(iN 3),w11,(iN 12)])),(24,some (.var [(iN 3),w11,(iN 12)])),(23,some (.var [(iN 3),w11,(iN 12)])),(22,some (.var [(iN 3),w11,(iN 12)])),(22,some (.var [(iN 0),(hx 0 0),(iN 0)])),(1,some (.var [(.row 21 5 0 2),(iN 1),(iN 2),(iN 0),(hx 0 0),.nils,.nils])),(1,some (.var [(.row 21 5 0 2),(iN 0),(iN 2),(iN 0),(hx 0 0),.nils,.nils])),(21,some (.row 399 5 [(.agg [(iN 7),(hx 0 0),(.row 12 1 0 1),.nils,(.map 5)]),(.agg [(iN 6),(hx 0 0),.nils,.nils,(.map 19)])] false)),(7,none),(20,some (.row 399 5 [(.agg [(iN 6),(hx 0 0),.nils,.nils,(.map 19)])] false)),(19,some (.map [])),(1,some (.var [(.row 7 5 0 1),(iN 0),(iN 2),(iN 0),(hx 0 0),.nils,.nils])),(18,some (.var [(iN 2),(hx 1 0x5b),(iN 11)])),(17,some (.var [(iN 2),(hx 1 0x5b),(iN 11)])),(16,some (.var [(iN 2),(hx 1 0x5b),(iN 11)])),(16,some (.var [(iN 0),(hx 0 0),(iN 0)])),(1,some (.var [(.row 7 5 0 1),(iN 0),(iN 1),(iN 0),(hx 0 0),.nils,.nils])),(15,some (.var [(iN 2),(hx 1 0x3a),(iN 10)])),(14,some (.var [(iN 2),(hx 1 0x3a),(iN 10)])),(13,some (.var [(iN 2),(hx 1 0x3a),(iN 10)])),(13,some (.var [(iN 0),(hx 0 0),(iN 0)])),(1,some (.var [(.row 7 5 0 1),(iN 4),(iN 1),(iN 0),(hx 0 0),.nils,.nils])),(7,some (.row 399 5 [(.agg [(iN 7),(hx 0 0),(.row 12 1 0 1),.nils,(.map 5)])] false)),(12,some (.row 9 1 [w7] false)),(11,some (.row 9 1 [w7] false)),(5,some (.map [(w7,w3)])),(10,some (.var [(iN 3),w7,(iN 1)])),(9,some (.var [(iN 3),w7,(iN 1)])),(8,some (.var [(iN 3),w7,(iN 1)])),(8,some (.var [(iN 0),(hx 0 0),(iN 0)])),(1,some (.var [(.row 7 5 0 1),(iN 3),(iN 1),(iN 0),(hx 0 0),.nils,.nils])),(1,some (.var [(.row 7 5 0 1),(iN 0),(iN 1),(iN 0),(hx 0 0),.nils,.nils])),(7,some (.row 399 5 [(.agg [(iN 7),(hx 0 0),.nils,.nils,(.map 5)])] false)),(6,some (.row 399 5 [(.agg [(iN 7),(hx 0 0),.nils,.nils,(.map 5)])] false)),(5,some (.map [])),(1,some (.var [.nils,(iN 0),(iN 1),(iN 0),(hx 0 0),.nils,.nils])),(4,some (.var [(iN 2),(hx 1 0x7b),(iN 0)])),(3,some (.var [(iN 2),(hx 1 0x7b),(iN 0)])),(2,some (.var [(iN 2),(hx 1 0x7b),(iN 0)])),(2,some (.var [(iN 0),(hx 0 0),(iN 0)])),(1,some (.var [.nils,(iN 0),(iN 0),(iN 0),(hx 0 0),.nils,.nils])),(0,some (.var [(iN 0),(hx 0 0),.nils,.nils]))],76,43⟩
abbrev t29:List Sb:=[a26,a27,a28]
def v29:V:= .tup [w24,iN 121,iN 0]
theorem d9x:b1Q Tryz.prog (cT t29) 3000 82 [w25]=some d0P:=by kernel_rfl
theorem d9C:b2o Tryz.prog (cT t29) 3000 82 14 d0P=some d1Q:=by kernel_rfl
theorem e0o:b2q Tryz.prog (cT t29) 3000 82 2986 d1Q=some v29:=by kernel_rfl
def a29:Sb:=mc t29 [w25] v29 d0P d1Q (by kernel_rfl) d9x d9C e0o
def a30:Sb:=mk [] (83,[w24],.tup [w53,iN 0]) (by decide+kernel)
def a31:Sb:=mk [] (137,[w10],.tup [.agg [w54,iN 0,hx 1 0x2f,hx 0 0,hx 0 0,w4,w4],iN 0]) (by decide+kernel)
def a32:Sb:=mk [] (39,[w11,w11],w3) (by decide+kernel)
def a33:Sb:=mk [] (137,[w0],w5) (by decide+kernel)
def a34:Sb:=mk [a33,a31] (86,[w28,iN 64,.sl none [.sl none [w0],.sl none [w10],.sl none [w11]]],w57) (by decide+kernel)
def a35:Sb:=mk [] (87,[w46],.tup [.sl none [.agg [hx 7 0x6d61782d616765,hx 3 0x313030]],w3]) (by decide+kernel)
def a36:Sb:=mk [a25,a29,a30,a31,a32,a34,a35] (13,[.agg [w27,iN 0,w29,w30,hx 0 0,w3,w4,iN 1,iN 200,w47,w25,.sl none [w58]],w28],w60) (by decide+kernel)
def a37:Sb:=mk [a18,a21,a24,a36] (11,[w43,w40,w28],w61) (by decide+kernel)
def a38:Sb:=mk [] (142,[w0,hx 0 0],w38) (by decide+kernel)
def a39:Sb:=mk [] (243,[w62,w44],.tup [w62,iN 0]) (by decide+kernel)
def a40:Sb:=mk [a19,a39] (137,[hx 78 0x68747470733a2f2f622e6578616d706c652f2e77656c6c2d6b6e6f776e2f77656266696e6765723f7265736f757263653d6874747073253341253246253246622e6578616d706c65253246626f62],w64) (by decide+kernel)
def a41:Sb:=mk [] (125,[w42],w49) (by decide+kernel)
def a42:Sb:=mk [] (232,[hx 144 0x33320d0a7b22616c6961736573223a5b2268747470733a2f2f622e6578616d706c652f626f62225d2c226c696e6b73223a5b7b2268720d0a33320d0a6566223a22616363743a626f6240612e6578616d706c65222c2272656c223a2273656c66227d5d2c227375626a656374223a0d0a31350d0a2268747470733a2f2f782e6578616d706c652f227d0d0a300d0a0d0a,iN 1048576],.tup [w37,iN 0]) (by decide+kernel)
def a43:Sb:=mk [a40,a41,a42] (56,[w43,w40,w63],.tup [w65,iN 200,iN 0]) (by decide+kernel)
end
end
end Go.SE
