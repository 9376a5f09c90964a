import Derived.Test.YtfffjfhfafhfmaaGreatDoorV07
import Derived.Test.YtfffjfhfafhfmaaGreatDoorV08
set_option linter.all false
namespace Go.SB
section
open Go.PV
def Qea:V->Bool
 | .lit (.int _ _)| .nils| .sl none _=>true
 |_=>false
end
section
open Go Go.PV Go.SN Go.PV.JS
open Go.SE (RC Rel Ar Sh ShOk ShL d7d d6x b9z b7J)
set_option maxRecDepth 100000
abbrev Qnd:Rel:=RC P0 a4w inlS
def kI:TD:= .int .i64 (-9223372036854775808) 9223372036854775807
def kU:TD:= .int .u64 0 18446744073709551615
def Qne:TD:= .agg [.str 134217728,kI,.str 134217728,.str 134217728,kI,kU,kU]
def Qnf(c:SumA)(xs:List Ar)(ps:List Sh):Bool:=d7d c xs&&c.posts.all λ p=>ps.any λ s=>d6x p.cs s p.res
theorem Qng{k:Nat}{c:SumA}{xs:List Ar}{ps:List Sh}(hh:a1p (λ N=>(Lp N).cbv) k c)(hc:Qnf c xs ps=true){vs:List V}(hv:ShL (xs.map Ar.sh) vs):∃v,Qnd k vs v/\∃s∈ps,ShOk s v:=by
 unfold Qnf at hc;rw[az6]at hc;obtain⟨v,h1,p,Qjt,Qjv⟩:=b9z hh hc.1 hv;grind
theorem Qnh{i k:Nat}{c:SumA}(hi:i<489)(h:(rows[i]?).map (λ r=>(r.k,r.c))=some (k,c)):a1p (λ N=>(Lp N).cbv) k c:=by
 simp only[az2,az8]at h;obtain⟨r,h1,rfl,rfl⟩:=h;exact a8S i r hi h1
structure Wd (a:V×V):Prop where
 l:Qea a.1=true
 w:InD g0 N0 (.sl false 1048576 Qne) a.1
 t:∃n,a.2= .lit (.int .u64 n)/\0<=n/\n<=18446744073709551615
def Qns:List TD:=[.str 1073741824,kI,.str 1073741824,.str 1073741824,.str 1073741824,.bool,.bool]
def Qnt(u:V):Prop:=ShOk (.agg (Qns.map .td)) u
theorem Qnu{a:V×V}(ha:Wd a){u:V}(hu:Qnt u):∃r,Qnd 124 [a.1,u,a.2] r/\∃s n,r= .tup [sV s,iV n]/\((s.size=0/\8<=n/\n<=243)\/(s.size<=134217728/\n=0)):=by
 obtain⟨n,e,n0,n1⟩:=ha.t;obtain⟨r,h1,s,hs,h2⟩:=Qng (Qnh (i:=320) (k:=124) (by omega) rfl) (xs:=[.cell (.sl false 1048576 Qne),.agg Qns,.cell kU]) (ps:=[.tup [.td (.str 0),.td (.int .i64 8 243)],.tup [.td (.str 134217728),.td (.int .i64 0 0)]]) (by decide +kernel) (vs:=[a.1,u,a.2])
  (ShL.cons.2 ⟨.td ha.w,ShL.cons.2 ⟨hu,ShL.cons.2 ⟨.td (by rw[e];exact .int n0 n1),ShL.nil⟩⟩⟩)
 refine⟨r,h1,?_⟩;have key:∀{d e:TD},ShOk (.tup [.td d,.td e]) r->∃x y,r= .tup [x,y]/\InD g0 N0 d x/\InD g0 N0 e y:=by
  intro d e h;cases h with
  | @tup _ cs h1 h3=>
    match cs,h1 with
    |[x,y],_=>
     have k1:=h3 0 _ x rfl rfl;have k2:=h3 1 _ y rfl rfl;cases k1 with|td k1=>cases k2 with|td k2=>grind
 simp only[ay4,av0,ar1]at hs;rcases hs with rfl|rfl
 .obtain⟨x,y,rfl,k1,k2⟩:=key h2
  cases k1 with|str k1=>cases k2 with|int k2 k3=>grind
 .obtain⟨x,y,rfl,k1,k2⟩:=key h2
  cases k1 with|str k1=>cases k2 with|int k2 k3=>grind
end
section
open Go Go.PV Go.SN Go.PV.JS Go.Proofs
open Go.SE
set_option maxRecDepth 10000
abbrev Qaa(n:Int):V:= .lit (.int .u64 n)
theorem Qaj:a1M P0 23=some 1:=by rfl
theorem Qak:b4T P0 23=some false:=by rfl
def Qba(n:Int):V:= .tup [sV ⟨#[]⟩,iV n]
section
attribute [local simp] a7O a0K a0I a0v a0V a1h a1F opE ev evs evo a0D a2H a0u a0m St.get St.put tgp tgl a1w a0Z sc a0W a1b a0E a3B a1K a6x lenOf a2u am5 Tryz.underlying4 am6 Tryz.underlying25 Tryz.underlying63 Tryz.underlying301 a0b V.fit a5z anb a4Z bT V.cells storeAt setCells a3a a3b fill a0r Qaj Qak sz3 sz9 ag3 ag9 a1s
theorem Qbe:a1M P0 42=some 7:=by rfl
theorem Qbf:b4T P0 42=some true:=by rfl
theorem Qbg{call:PV.Calls}{n:Nat}{L u:V}{u0 u2 u3 u4:ByteArray}{u1 now:Int}{u5 u6:Bool}(hu:u= .agg [sV u0,iV u1,sV u2,sV u3,sV u4,bV u5,bV u6])(i0:call.inl 76=none)(c0:call.cbv 76 [u] []=some (bV false,[])):
  a7O P0 call n 124 [L,u,Qaa now] []=some (Qba 8,[]):=by
 have r0:∀(g:G) (nx:Nat),a5t 124 g nx (.tup [sV ⟨#[]⟩,iV 8])=some (.tup [sV ⟨#[]⟩,iV 8],[],[]):=λ g nx=>b1O (by rfl) (.inr ⟨_,rfl,by repeat' first|exact d2G|refine all_cons ?_ ?_|exact b9J a6N|exact b9J c3R⟩);have hD:∀a∈[V.agg [sV u0,iV u1,sV u2,sV u3,sV u4,bV u5,bV u6]],pD a:=all_cons (c4A (by repeat' first|exact d2G|refine all_cons ?_ ?_|exact a6N|exact c3R|exact a9t)) d2G;subst hu;have d0:∀(g:G) (nx:Nat),a1q call.cbv g nx 76 [.agg [sV u0,iV u1,sV u2,sV u3,sV u4,bV u5,bV u6]]=some {v:=bV false}:=λ g nx=>b1v hD c0 (d0n (b9J a9t));simp[P0,Tryz.func124,Tryz.f124,a0w,a0G,r0,a1u,i0,d0,Qbe,Qbf,Qba]
end
end
section
open Go Go.PV Go.SN Go.PV.JS Go.Proofs
open Go.SE
set_option maxRecDepth 100000
theorem Qbn{k:Nat}{xs:List V}{v:V}{m N:Nat}(h:(a0d P0 a4w inlS m).cbv k xs []=some (v,[]))(hm:m<=N):(a0d P0 a4w inlS N).cbv k xs []=some (v,[]):=(a0L (P:=P0) (prim:=a4w) (inl:=inlS) hm).cbv _ _ _ _ h
theorem Qbp{u:V}(h:Qnt u):∃u0 u1 u2 u3 u4 u5 u6,u= .agg [sV u0,iV u1,sV u2,sV u3,sV u4,bV u5,bV u6]:=by
 obtain⟨cs,rfl,h1,h2⟩:=b7J h
 match cs,h1 with
 |[c0,c1,c2,c3,c4,c5,c6],_=>
  have m0:=h2 0 _ c0 rfl rfl;have m1:=h2 1 _ c1 rfl rfl;have m2:=h2 2 _ c2 rfl rfl;have m3:=h2 3 _ c3 rfl rfl;have m4:=h2 4 _ c4 rfl rfl;have m5:=h2 5 _ c5 rfl rfl;have m6:=h2 6 _ c6 rfl rfl;cases m0 with|str _=>cases m1 with|int _ _=>cases m2 with|str _=>cases m3 with|str _=>cases m4 with|str _=>cases m5 with|bool=>cases m6 with|bool=>
  grind
theorem Qbq{k:Nat}{c:SumA}{xa:List Ar}(hh:a1p (λ N=>(Lp N).cbv) k c)(hf:d7d c xa=true){vs:List V}(hv:ShL (xa.map Ar.sh) vs):
  ∃v,Qnd k vs v/\∃p∈c.posts,∃ρ':Nat->Int,(∀i,i<c.n->ρ' i=c7T (b3X xa vs) i)/\a2W ρ' p.n p.cs/\InR (GB ρ' p.n 0) p.res v:=by
 unfold d7d at hf;simp only[az6,ay2]at hf;obtain⟨hb,⟨hcs,hpb⟩,hf⟩:=hf;split at hf;case h_2=>cases hf
 next l hl=>
 simp only[az6,ay2]at hf;obtain⟨hsy,hn⟩:=hf;have hbn:c.boxes=[]:=ay7.1 hb;have hvals:=b2m (ρ:=c7T (b3X xa vs)) hl hv;have hgo:Goes' (c7T (b3X xa vs)) 0 (b3X xa vs):=λ j x hx=>by simp_all[c7T]
 obtain⟨N,v,bs',h1,p,Qjt,ρ',r1,r2,r3,r4,r5,r6⟩:=hh (c7T (b3X xa vs)) vs [] (λ sy hsy'=>by
  rw[hsy]at hsy';obtain⟨j,hj⟩:=List.getElem?_of_mem hsy';have hlt:j<l.length:=(ay0.1 hj).1;have hlt2:j<(b3X xa vs).length:=by rw[<-hvals.1];exact hlt
  obtain⟨q1,q2,Xbt⟩:=hvals.2 j sy _ hj (At6 hlt2);have:=hgo j _ (At6 hlt2);rw[as4]at this q1;exact⟨by grind,by grind,by grind⟩)
  (by rw[hcs];exact λ g hg=>(by cases hg)) (b8k hl hv hgo (by simp[GB,hn])) (by rw[hbn];exact⟨rfl,λ j a c ha=>by simp at ha⟩)
 have hlen:bs'=[]:=by
  have:=ay5.1 hpb p Qjt;have e:=r6.1;rw[Ax8.1 this]at e;exact ay7.1 e.symm
 grind
theorem Qmb:d6e P0 35 [.bool,.int .u64] [.bool,.int .u64]=true:=by decide +kernel
def Qmc(a:ByteArray)(b:Int)(c d e:ByteArray)(f g:Bool)(h i:Int):V:= .agg [sV a,iV b,sV c,sV d,sV e,bV f,bV g,iV h,iV i]
theorem Qmf{b:Bool}{n:Int}(p q:Operand):a3w P0 .eql 35 p q (.agg [bV b,Qaa n]) (.agg [bV b,Qaa n])=some (bV true):=by
 have hk:Kl [.bool,.int .u64] [bV b,Qaa n]:=⟨[.bool b,.int .u64 n],rfl,rfl,λ j x u hx hu=>by
  match j with
  |0=>simp at hx hu;subst hx;subst hu;exact⟨_,rfl⟩
  |1=>simp at hx hu;subst hx;subst hu;exact⟨_,rfl⟩
  |j+2=>simp at hx⟩
 grind[c4T,Qmb]
theorem Qmi{call:PV.Calls}{n:Nat}{a b:Code}{s s1:St}(h:a0K P0 call n a s=some (.normal,s1)):a0K P0 call n (.seq a b) s=a0K P0 call n b s1:=by
 rw[a0K,h]
theorem Qmj{call:PV.Calls}{n:Nat}{i:Nat}{x:Code}{s s1:St}(h:iter (a0K P0 call n x) n s=some (.exit i,s1)):a0K P0 call n (.block i (.loop x)) s=some (.normal,s1):=by
 grind[a0K]
theorem Qmk:a1M P0 44=some 9:=by rfl
theorem Qml:b4T P0 44=some true:=by rfl
theorem Qmm:a2G P0 36=some 44:=by rfl
section
attribute [local simp] a0K a0I a0v a0V a1h a1F opE ev evs evo a0D a2H a0u a0m St.get St.put tgp tgl a1w a0Z sc a0W a1b a0E a3B a1K a6x lenOf a2u am5 Tryz.underlying36 Tryz.underlying44 a0b V.fit a5z anb a4Z bT V.cells storeAt setCells a3a a3b fill Qmk Qml Qmm a0r
end
section
theorem Qmu:a1M P0 29=some 4:=by rfl
theorem Qmv:b4T P0 29=some true:=by rfl
theorem Qmw:a1M P0 30=some 1:=by rfl
theorem Qmx:b4T P0 30=some false:=by rfl
theorem Qmy:a1M P0 35=some 2:=by rfl
theorem Qmz:b4T P0 35=some true:=by rfl
theorem Qna:a1M P0 36=some 1:=by rfl
theorem Qnb:b4T P0 36=some false:=by rfl
attribute [local simp] a7O a0K a0I a0v a0V a1h a1F opE ev evs evo a0D a2H a0u a0m St.get St.put tgp tgl a1w a0Z sc a0W a1b a0E a3B a1K a6x lenOf a2u Tryz.underlying56 a0b V.fit a5z anb a4Z bT storeAt setCells a3a a3b fill Qmu Qmv Qmw Qmx Qmy Qmz Qna Qnb
end
def Qbx:Code->Bool
 | .region _ _ d=> !d
 | .seq a b| .cond _ a b=>Qbx a&&Qbx b
 | .block _ b| .loop b| .scope b=>Qbx b
 |_=>true
theorem Qby{P:Program}{call:PV.Calls}{n:Nat}:∀{c:Code},Qbx c=true->a0e P call n c=a0K P call n c:=by
 intro c;induction c with
 |region i ops d=>
  intro h
  funext s
  cases d with
  |false=>rfl
  |true=>cases h
 |seq a b iha ihb=>
  intro h;simp only[Qbx,az6]at h
  funext s
  simp only[a0e,a0K,iha h.1,ihb h.2];rfl
 |cond q a b iha ihb=>
  intro h;simp only[Qbx,az6]at h
  funext s
  simp only[a0e,a0K,iha h.1,ihb h.2];rfl
 |block i b ih=>
  intro h
  funext s
  simp only[a0e,a0K,ih h];rfl
 |loop b ih=>
  intro h
  funext s
  simp only[a0e,a0K,ih h]
 |scope b ih=>
  intro h
  funext s
  simp only[a0e,a0K,ih h]
 |_=>grind[a0e,a0K]
theorem Qbz{n k:Nat}{args:List V}{v:V}{fn:Func}{c:Code}(hp:a4w k=none)(hf:P0.funcs[k]?=some fn)(hc:fn.body=some c)(hd:Qbx c=true)(hz:max args.length fn.ntmps<=256)
  (h:a7O P0 (a0d P0 a4w inlS n) n k args []=some (v,[])):(a0d P0 a4w inlS (n+1)).cbv k args []=some (v,[]):=by
 unfold a7O at h;simp only[Az0,hf,az1,hc,a0w,List.length_nil,az3]at h;obtain⟨⟨x,s⟩,h1,h2⟩:=h;simp only[a0d,hp,a1j,Az0,hf,az1,hc,a0w,List.length_nil,Qby hd];grind
theorem Qca{t:Nat}{d:TypeDesc}{x y:Operand}{a b:Int}{k:IntKind}(hd:P0.underlying t=some d)(h:b≠0):a3w P0 .rem t x y (.lit (.int k a)) (.lit (.int k b))=some (.lit (.int k (a.tmod b))):=by
 simp_all[a6Z,Go.binOp,Op.intDiv,a0t,a1w,a0Z,sc,a0c,pure]
theorem Qcb{m:Int}(h0:0<=m)(h1:m<=255):a0t P0 (Go.convert 5 3 (.int .u8 m))=some (iV m):=by
 have e:IntKind.i64.wrap m=m:=a2h (by omega) (by omega);simp only[a0t,Go.convert,a0a,a0g (P:=P0) am8,a0g (P:=P0) am5,az1,Conv.intToInt,a0i,e];rfl
def Qcm:TD:= .agg [.str 65536,kI,.str 65536,.str 65536,.str 65536,.bool,.bool,kI,kI]
def Qlq:TD:= .agg [.str 253,kI,.str 8193,.str 134217728,.int .i64 0 4,.int .u64 0 0,.int .u64 0 0]
theorem Qlr{a:V}(h:InD g0 N0 Qlq a):InD g0 N0 Qne a:=h.le (by decide)
theorem Qls{d e:TD}{r:V}(h:ShOk (.tup [.td d,.td e]) r):∃x y,r= .tup [x,y]/\InD g0 N0 d x/\InD g0 N0 e y:=by
 cases h with
 | @tup _ cs h1 h3=>
   match cs,h1 with
   |[x,y],_=>
    have k1:=h3 0 _ x rfl rfl;have k2:=h3 1 _ y rfl rfl;cases k1 with|td k1=>cases k2 with|td k2=>exact⟨x,y,rfl,k1,k2⟩
theorem Qlt{sv:V}(h:InD g0 N0 (.sl false 9223372036854775807 (.int .u8 0 255)) sv):∃s L,Qnd 9 [sv] (.tup [sV s,L])/\s.size<=193/\∃xs,(L= .nils/\xs=[]\/L= .sl none xs)/\(∀a∈xs,InD g0 N0 Qlq a)/\xs.length<=30:=by
 obtain⟨v,h1,q,hq,h2⟩:=Qng (Qnh (i:=233) (k:=9) (by omega) rfl) (xs:=[.cell (.sl false 9223372036854775807 (.int .u8 0 255))]) (ps:=[.tup [.td (.str 193),.td (.sl false 30 Qlq)]]) (by decide +kernel) (vs:=[sv]) (ShL.cons.2 ⟨.td h,ShL.nil⟩);rw[az7.1 hq]at h2;obtain⟨x,y,rfl,k1,k2⟩:=Qls h2;cases k1 with
 | @str _ _ _ s hs=>
   refine⟨s,y,h1,by omega,?_⟩;cases k2 with
   |nils=>exact⟨[],.inl ⟨rfl,rfl⟩,λ _ h=>(by cases h),by simp⟩
   |sl hl hx=>exact⟨_,.inr rfl,hx,by omega⟩
theorem Qlx{sv:V}(hs:InD g0 N0 (.sl false 9223372036854775807 (.int .u8 0 255)) sv):isD sv:=by cases hs<;>first|exact a6n|exact b4K
theorem Qdf{x y:Operand}{a b:Int}{k:IntKind}:a3w P0 .lss 3 x y (.lit (.int k a)) (.lit (.int k b))=some (bV (decide (a<b))):=a2f am5
theorem Qdg{x y:Operand}{a b:Int}{k:IntKind}:a3w P0 .add 3 x y (.lit (.int k a)) (.lit (.int k b))=some (.lit (.int k (k.wrap (a+b)))):=a2V am5
theorem Qod:a1M P0 96=some 23:=by rfl
theorem Qoe:b4T P0 96=some true:=by rfl
theorem Qof:a1M P0 49=some 12:=by rfl
theorem Qog:b4T P0 49=some true:=by rfl
theorem Qoh:a1M P0 47=some 3:=by rfl
theorem Qoi:b4T P0 47=some true:=by rfl
theorem Qoj:a1M P0 94=some 1:=by rfl
theorem Qok:b4T P0 94=some false:=by rfl
theorem Qol:a1M P0 45=some 1:=by rfl
theorem Qom:b4T P0 45=some false:=by rfl
theorem Qon:a1M P0 4=some 1:=by rfl
theorem Qoo:b4T P0 4=some false:=by rfl
theorem Qop:a2G P0 94=some 42:=by rfl
theorem Qoq:a4h P0 42=some (.agg [sV ⟨#[]⟩,iV 0,sV ⟨#[]⟩,sV ⟨#[]⟩,sV ⟨#[]⟩,bV false,bV false]):=by rfl
theorem Qor:a4h P0 49=some (.agg [sV ⟨#[]⟩,iV 0,sV ⟨#[]⟩,sV ⟨#[]⟩,sV ⟨#[]⟩,bV false,bV false,iV 0,iV 0,.nils,sV ⟨#[]⟩,.nils]):=by rfl
theorem Qos:a4h P0 96=some (.agg [sV ⟨#[]⟩,iV 0,sV ⟨#[]⟩,sV ⟨#[]⟩,sV ⟨#[]⟩,bV false,bV false,iV 0,bV false,iV 0,sV ⟨#[]⟩,iV 0,sV ⟨#[]⟩,sV ⟨#[]⟩,sV ⟨#[]⟩,bV false,bV false,iV 0,iV 0,.nils,sV ⟨#[]⟩,.nils,.nils]):=by rfl
theorem Qot:a4h P0 44=some (.agg [sV ⟨#[]⟩,iV 0,sV ⟨#[]⟩,sV ⟨#[]⟩,sV ⟨#[]⟩,bV false,bV false,iV 0,iV 0]):=by rfl
theorem Qqc:a1M P0 68=some 1:=by rfl
theorem Qqd:b4T P0 68=some false:=by rfl
theorem Qqe:a2G P0 68=some 9:=by rfl
theorem Qsn:a1M P0 92=some 7:=by rfl
theorem Qso:b4T P0 92=some true:=by rfl
theorem Qsp:a1M P0 25=some 1:=by rfl
theorem Qsq:b4T P0 25=some false:=by rfl
theorem Qsr:a1M P0 38=some 9:=by rfl
theorem Qss:b4T P0 38=some true:=by rfl
theorem Qst:a4h P0 38=some (.agg [iV 0,sV ⟨#[]⟩,sV ⟨#[]⟩,iV 0,.nils,iV 0,bV false,Qaa 0,.nils]):=by rfl
theorem Qtr:a1M P0 33=some 1:=by rfl
theorem Qts:b4T P0 33=some false:=by rfl
theorem Qtt:a1M P0 103=some 4:=by rfl
theorem Qtu:b4T P0 103=some true:=by rfl
theorem Qtv:a4h P0 103=some (.agg [sV ⟨#[]⟩,.nils,.nils,.nils]):=by rfl
theorem Qur:a1M P0 90=some 1:=by rfl
theorem Qus:b4T P0 90=some false:=by rfl
theorem Qut:a2G P0 90=some 87:=by rfl
theorem Quu:a1M P0 87=some 1:=by rfl
theorem Quv:b4T P0 87=some false:=by rfl
theorem Quw:a4h P0 87=some (.lit .nilFunc):=by rfl
theorem Qux:a4h P0 92=some (.agg [.nils,Qaa 0,iV 0,sV ⟨#[]⟩,sV ⟨#[]⟩,iV 0,.nils]):=by rfl
theorem Xap:a1M P0 9=some 1:=by rfl
theorem Xaq:b4T P0 9=some false:=by rfl
theorem Xbd:a1M P0 147=some 3:=by rfl
theorem Xbe:b4T P0 147=some true:=by rfl
theorem Xbf:a4h P0 147=some (.agg [sV ⟨#[]⟩,sV ⟨#[]⟩,.nils]):=by rfl
theorem Xbg:a1M P0 153=some 4:=by rfl
theorem Xbh:b4T P0 153=some true:=by rfl
theorem Xbi:a4h P0 153=some (.agg [iV 0,sV ⟨#[]⟩,.nils,.nils]):=by rfl
theorem Xbj:a1M P0 100=some 1:=by rfl
theorem Xbk:b4T P0 100=some false:=by rfl
theorem Xbl:a1M P0 101=some 1:=by rfl
theorem Xbm:b4T P0 101=some false:=by rfl
theorem Qxl:a4h P0 29=some (.agg [iV 0,sV ⟨#[]⟩,sV ⟨#[]⟩,iV 0]):=by rfl
theorem Qxy:a4h P0 9=some (sV ⟨#[]⟩):=by rfl
theorem Qxz:a1M P0 128=some 1:=by rfl
theorem Qya:a1M P0 22=some 1:=by rfl
theorem Qyb:a2G P0 22=some 5:=by rfl
theorem Qyc:a1M P0 5=some 1:=by rfl
theorem Qyd:b4T P0 5=some false:=by rfl
theorem Qye:b4T P0 22=some false:=by rfl
theorem Xbr{x y:Operand}{a b:Int}{k:IntKind}:a3w P0 .neq 30 x y (.lit (.int k a)) (.lit (.int k b))=some (bV (a !=b)):=a7Y al1
theorem Xbs{x y:Operand}{a b:Int}{k:IntKind}:a3w P0 .eql 30 x y (.lit (.int k a)) (.lit (.int k b))=some (bV (a==b)):=a0l al1
theorem Xbt{x y:Operand}{a b:Int}{k:IntKind}:a3w P0 .eql 3 x y (.lit (.int k a)) (.lit (.int k b))=some (bV (a==b)):=a0l am5
theorem Xbu{N:Nat}:∀k,inlS k=false->(a0d P0 a4w inlS N).inl k=none:=λ _ h=>a4G h
theorem Xbw{v:V}(h:isD v):a0r v=true:=h.2.2.2.2.2.2.2.2.1
theorem Xbx{v:V}(h:isD v):v.cells=[v]:=h.2.2.2.2.2.2.2.1
theorem Xby{v:V}{i:Nat}(h:isD v):a0S i v=v:=h.2.2.2.2.2.1 i
theorem Xbz{v:V}{i:Nat}(h:isD v):a0H i v=v:=h.2.2.2.2.2.2.1 i
theorem Xca{v:V}(h:isD v):a6J v=false:=h.2.2.2.2.1
theorem Xcb{v:V}{g:G}{w:List Nat×List Nat}(h:isD v):a0h g w v=some (v,w):=h.2.2.1 g w
theorem Xcc{v:V}{s:HP×Nat}(h:isD v):PV.a0J s v=(v,s):=h.2.1 s
abbrev Xcd(call:PV.Calls):Prop:=∀k,inlS k=false->call.inl k=none
def Qou(a:ByteArray)(b:Int)(c d e:ByteArray)(f g:Bool):V:= .agg [sV a,iV b,sV c,sV d,sV e,bV f,bV g]
def Qov(v:V):Prop:=∃a b c d e f g,v=Qou a b c d e f g
section
variable {s:HP×Nat} {v:Value} {o:Option (List V)} {xs ys:List V} {g:G} {w:List Nat×List Nat} {ms:List Nat} {t e sz nx id n:Nat}
def Xcp:Option (List V)->V
 |none=> .nils
 |some l=> .sl none l
def Xcq:Option (List V)->List V
 |none=>[]
 |some l=>l
theorem Xcr:isD (Xcp o):=by cases o<;>first|exact a6n|exact b4K
theorem Xcs:(∀i v,a0H i (.lit v)= .lit v/\a0S i (.lit v)= .lit v)/\(∀i,a0H i .nils= .nils/\a0S i .nils= .nils)/\(∀i q xs,a0H i (.sl q xs)= .sl q xs/\a0S i (.sl q xs)= .sl q xs)/\(∀i a b c d,a0H i (.row a b c d)= .row a b c d/\a0S i (.row a b c d)= .row a b c d)/\(∀v,a6J (.lit v)=false)/\a6J .nils=false/\(∀q xs,a6J (.sl q xs)=false)/\(∀a b c d,a6J (.row a b c d)=false)/\(∀s v,PV.a0J s (.lit v)=(.lit v,s))/\(∀s,PV.a0J s .nils=(.nils,s))/\(∀s xs,PV.a0J s (.sl none xs)=(.sl none xs,s))/\∀s t z f xs,PV.a0J s (.sl (some (t,z,f)) xs)=(.row s.2 z 0 xs.length,(s.2,some (.row t z xs f))::s.1,s.2+1):=by
 simp[a0H,a0S,a6J,PV.a0J]
theorem Xct:(∀v,V.cells (.lit v)=[.lit v]/\a0r (.lit v)=true)/\(V.cells .nils=[.nils]/\a0r .nils=true)/\(∀q xs,V.cells (.sl q xs)=[.sl q xs]/\a0r (.sl q xs)=true)/\(∀a b c d,V.cells (.row a b c d)=[.row a b c d]/\a0r (.row a b c d)=true)/\(∀a b,V.cells (.ptr a b)=[.ptr a b]/\a0r (.ptr a b)=true)/\(∀a b c,V.cells (.fn a b c)=[.fn a b c]/\a0r (.fn a b c)=true)/\∀xs,V.cells (.agg xs)=xs:=by
 simp[V.cells,a0r]
theorem Xcu:(∀v,a0h g w (.lit v)=some (.lit v,w))/\a0h g w .nils=some (.nils,w)/\∀xs,a0h g w (.sl none xs)=some (.sl none xs,w):=
 ⟨λ _=>a8d (λ _ _ _=>rfl) nofun nofun,a6n.2.2.1 _ _,λ _=>b4K.2.2.1 _ _⟩
theorem Xcv:(∀v,a1y 4 g w (.lit v)=some (.lit v,w))/\(∀xs,a1y 4 g w (.sl none xs)=some (.sl none xs,w))/\∀id,a1y 4 g w (.ptr id 0)=match w.2.idxOf? id with|some j=>some (.ptr j 0,w)|none=>some (.ptr w.2.length 0,w.1,w.2++[id]):=
 ⟨λ _=>b3j (d:=3) (λ _ _ _=>rfl) nofun nofun,λ _=>b4K.2.2.2.1 3 _ _,λ id=>by obtain⟨ms,ps⟩:=w;simp only[a1y,Au8,ap0,av8];cases ps.idxOf? id<;>rfl⟩
theorem Xcw{f:Bool}(h:g id=some (.row t sz xs f))(hn:n=xs.length)(hm:dX xs):a1y 4 g w (.row id sz 0 n)=some (.sl none xs,id::w.1,w.2):=by
 obtain⟨ms,ps⟩:=w;have e:=exR (d:=157) (ms:=ms) h hm;subst hn;rw[a1y,a5E,e]<;>nofun
theorem Xcx:a1y 4 g w (.agg xs)=match a0G (a0C 159 g) w.1 xs with|some (l,ms)=>some (.agg l,ms,w.2)|none=>none:=by
 obtain⟨ms,ps⟩:=w;simp only[a1y];rw[a5E,a0C];cases a0G (a0C 159 g) ms xs<;>rfl
theorem Xcy{prim:Nat->Option Fp}{inl:Nat->Bool}{k:Nat}{v w:V}(h:RC P0 prim inl k xs v)(h':RC P0 prim inl k xs w):v=w:=by
 obtain⟨M,hM⟩:=h;obtain⟨N,hN⟩:=h';have h2:=(a0L (P:=P0) (prim:=prim) (inl:=inl) (ar5 M N)).cbv _ _ _ _ hM;have h3:=(a0L (P:=P0) (prim:=prim) (inl:=inl) (ar6 M N)).cbv _ _ _ _ hN;simp_all
theorem Xcz{q:Option (Nat×Nat×Bool)}:a4j g (.sl q xs)=some xs:=rfl
theorem Xda:a4j g .nils=some []:=rfl
theorem Xdb{f:Bool}(h:g id=some (.row t sz xs f))(hn:n=xs.length):a4j g (.row id sz 0 n)=some xs:=by simp[a4j,a4Q,h,hn]
theorem Xdc(h:ys≠[])(hl:ys.length<=1000000):d1e e sz g nx .nils ys=some {v:= .row nx sz 0 ys.length,upd:=[(nx,some (.row e sz ys false))],cnt:=1}:=by
 simp[d1e,h,a2Z];omega
theorem Xdd{f:Bool}(h:g id=some (.row e sz xs f))(hn:n=xs.length)(hl:xs.length+ys.length<=3000000):d1e e sz g nx (.row id sz 0 n) ys=some {v:= .row nx sz 0 (xs.length+ys.length),upd:=[(nx,some (.row e sz (xs++ys) f)),(id,none)],cnt:=1}:=by
 simp[d1e,h,hn,a2Z];omega
theorem Xde{t:Nat}{d:TypeDesc}{x y:Operand}{k:IntKind}{a b:Int}(hd:P0.underlying t=some d):a3w P0 .leq t x y (.lit (.int k a)) (.lit (.int k b))=some (bV (decide (a<=b))):=by
 rw[a6Z _ hd (by decide) (by decide)];simp[Go.binOp,Op.intCmp,a0t,a1w,a0Z,sc];rfl
theorem Xdf{a x:V}{i:TypeInfo}{z:Value}{d:TypeDesc}(h:a2G P0 t=some e/\P0.info? e=some i/\i.size=sz/\i.bytes<=1000/\i.zero=some z/\z.cells.size=sz/\sz≠0/\P0.underlying t=some d/\a2P d=true)(hs:a4j g x=some ys)(hy:∀y∈ys,y.cells.length=sz):a0M P0 g nx t t a x=d1e e sz g nx a ys:=by
 obtain⟨he,hi,rfl,h2,hz,h3,h4,hd,h5⟩:=h;unfold a0M;simp only[he,hi,hz,hd,hs,Az0,az1];rw[ay9 (by simp[h3,h4,h5];exact⟨hy,h2⟩)];unfold d1e;cases a<;>rfl
theorem Qow{a x:V}(hs:a4j g x=some ys)(hy:∀y∈ys,y.cells.length=9):a0M P0 g nx 36 36 a x=d1e 44 9 g nx a ys:=
 Xdf ⟨Qmm,rfl,rfl,by decide,rfl,rfl,by decide,Tryz.underlying36,rfl⟩ hs hy
theorem Qox{a x:V}(hs:a4j g x=some ys)(hy:∀y∈ys,y.cells.length=7):a0M P0 g nx 94 94 a x=d1e 42 7 g nx a ys:=
 Xdf ⟨Qop,rfl,rfl,by decide,rfl,rfl,by decide,Tryz.underlying94,rfl⟩ hs hy
end
theorem Qoz{t:Nat}{e:Nat}{p q:Operand}{o:Option (Nat×Nat×Bool)}{xs:List V}(h:P0.underlying t=some (.slice e)):a3w P0 .eql t p q (.sl o xs) .nils=some (bV false):=by
 simp[a3w,h,a2U]
theorem Qpa{p q:Operand}:a3w P0 .eql 36 p q .nils .nils=some (bV true):=by rfl
theorem Qpb{p q:Operand}:a3w P0 .eql 94 p q .nils .nils=some (bV true):=by rfl
theorem Qpc{p q:Operand}:a3w P0 .eql 45 p q .nils .nils=some (bV true):=by rfl
def Qpd(a:ByteArray)(b:Int)(c d e:ByteArray)(f g:Bool)(hops:Int)(TR SE:V):V:= .agg [sV a,iV b,sV c,sV d,sV e,bV f,bV g,iV hops,bV false,iV 0,sV ⟨#[]⟩,iV 0,sV ⟨#[]⟩,sV ⟨#[]⟩,sV ⟨#[]⟩,bV false,bV false,iV 0,iV 0,.nils,sV ⟨#[]⟩,TR,SE]
theorem Qpe{f:a7F}{g:G}{nx k t z:Nat}{b:Bool}{xs:List V}(hc:f k [.sl none xs] []=some (.sl (some (t,z,b)) xs,[])):a1q f g nx k [.sl none xs]=some {v:= .row nx z 0 xs.length,upd:=[(nx,some (.row t z xs b))],cnt:=1}:=by
 simp[a1q,a0G,Xcv,a1u,hc,a3y,a2s,a1R,a2B,a0J]
section
attribute [local simp] a7O a0K a0I a0v a0V a1h a1F opE ev evs evo a0D a2H a0u a0m St.get St.put tgp tgl a1w a0Z sc a0W a1b a0E a3B a1K a6x lenOf a2u a0b V.fit a5z anb a4Z bT V.cells storeAt setCells a3a a3b fill a1H Qmm Qop Qmk Qot Qbe Qoq Qna Qoj Qol Qpa Qpb Qpc a0r Qod Qoe Qof Qog Qoh Qoi Qom Qnb Qok Qos Tryz.underlying96 Tryz.underlying49 Tryz.underlying47 Tryz.underlying42 P0 inlS Xbr Xbs Xbt
theorem Qpf{call:PV.Calls}{n:Nat}:a7O P0 call n 155 [.nils] []=some (.nils,[]):=by
 have r0:∀(g:G) (nx:Nat),a5t 155 g nx .nils=some (.nils,[],[]):=λ g nx=>by simp[a5t,d1T,a2q,a0O,Xcu]
 simp[Tryz.func155,Tryz.f155,a0w,a0G,a1u,r0]
theorem Qpg{call:PV.Calls}{n:Nat}:a7O P0 call n 156 [.nils] []=some (.nils,[]):=by
 have r0:∀(g:G) (nx:Nat),a5t 156 g nx .nils=some (.nils,[],[]):=λ g nx=>by simp[a5t,d1T,a2q,a0O,Xcu]
 simp[Tryz.func156,Tryz.f156,a0w,a0G,a1u,r0]
theorem Qph{call:PV.Calls}{n:Nat}{xs:List V}(hx:∀x∈xs,x.cells.length=9)(hd:dX xs)(hl:xs.length<=1000000):a7O P0 call n 155 [.sl none xs] []=some (.sl (some (44,9,false)) xs,[]):=by
 have hap:∀(g:G) (nx id:Nat),g id=some (.row 44 9 [] false)->a0M P0 g nx 36 36 (.row id 9 0 0) (.sl none xs)=some {v:= .row nx 9 0 xs.length,upd:=[(nx,some (.row 44 9 xs false)),(id,none)],cnt:=1}:=λ g nx id h=>by
  rw[Qow Xcz hx,Xdd (n:=0) h rfl (by simp;omega)];simp
 have r0:∀(g:G) (nx id:Nat),g id=some (.row 44 9 xs false)->a5t 155 g nx (.row id 9 0 xs.length)=some (.sl (some (44,9,false)) xs,[],[id]):=λ g nx id h=>by
  simp[a5t,d1T,a2q,a0O,d3H h rfl hd]
 simp[Tryz.func155,Tryz.f155,a0w,a0G,a1u,r0,Qoz Tryz.underlying36,hap]
theorem Qpi{call:PV.Calls}{n:Nat}{xs:List V}(hx:∀x∈xs,x.cells.length=7)(hd:dX xs)(hl:xs.length<=1000000):a7O P0 call n 154 [.sl none xs] []=some (.sl (some (42,7,false)) xs,[]):=by
 have hap:∀(g:G) (nx id:Nat),g id=some (.row 42 7 [] false)->a0M P0 g nx 94 94 (.row id 7 0 0) (.sl none xs)=some {v:= .row nx 7 0 xs.length,upd:=[(nx,some (.row 42 7 xs false)),(id,none)],cnt:=1}:=λ g nx id h=>by
  rw[Qox Xcz hx,Xdd (n:=0) h rfl (by simp;omega)];simp
 have r0:∀(g:G) (nx id:Nat),g id=some (.row 42 7 xs false)->a5t 154 g nx (.row id 7 0 xs.length)=some (.sl (some (42,7,false)) xs,[],[id]):=λ g nx id h=>by
  simp[a5t,d1T,a2q,a0O,d3H h rfl hd]
 simp[Tryz.func154,Tryz.f154,a0w,a0G,a1u,r0,Qoz Tryz.underlying94,hap]
theorem Qpj{call:PV.Calls}{n:Nat}{a:ByteArray}{b:Int}{c d e:ByteArray}{f g:Bool}{hops:Int}{se:List V}(hd:dX se)(hI:Xcd call)
  (c4:call.cbv 154 [.sl none se] []=some (.sl (some (42,7,false)) se,[])) (c5:call.cbv 155 [.nils] []=some (.nils,[])) (c6:call.cbv 156 [.nils] []=some (.nils,[])):
  a7O P0 call n 77 [Qpd a b c d e f g hops .nils (.sl none se)] []=some (Qpd a b c d e f g hops .nils (.sl (some (42,7,false)) se),[]):=by
 have d4:=fun(g:G) (nx:Nat)=>Qpe (g:=g) (nx:=nx) c4;have d5:∀(g:G) (nx:Nat),a1q call.cbv g nx 155 [.nils]=some {v:= .nils}:=λ g nx=>b1v (all_cons (b9J a6n) d2G) c5 (d0n (b9J a6n));have d6:∀(g:G) (nx:Nat),a1q call.cbv g nx 156 [.nils]=some {v:= .nils}:=λ g nx=>b1v (all_cons (b9J a6n) d2G) c6 (d0n (b9J a6n));unfold Qpd;have r0:∀(g1:G) (nx id:Nat),g1 id=some (.row 42 7 se false)->a5t 77 g1 nx (.agg [sV a,iV b,sV c,sV d,sV e,bV f,bV g,iV hops,bV false,iV 0,sV ⟨#[]⟩,iV 0,sV ⟨#[]⟩,sV ⟨#[]⟩,sV ⟨#[]⟩,bV false,bV false,iV 0,iV 0,.nils,sV ⟨#[]⟩,.nils,.row id 7 0 se.length])=some (.agg [sV a,iV b,sV c,sV d,sV e,bV f,bV g,iV hops,bV false,iV 0,sV ⟨#[]⟩,iV 0,sV ⟨#[]⟩,sV ⟨#[]⟩,sV ⟨#[]⟩,bV false,bV false,iV 0,iV 0,.nils,sV ⟨#[]⟩,.nils,.sl (some (42,7,false)) se],[],[id]):=λ g1 nx id h=>by
  simp[a5t,d1T,a2q,a0O,a0G,Xcu,d3H h rfl hd]
 simp[hI,P0,Tryz.func77,Tryz.f77,a0w,a0G,a1u,r0,d4,d5,d6]
theorem Qpk{call:PV.Calls}{n:Nat}{a:ByteArray}{b:Int}{c d e:ByteArray}{f g:Bool}{hops:Int}{tr se:List V}(hd:dX se)(hd2:dX tr)(hI:Xcd call)
  (c4:call.cbv 154 [.sl none se] []=some (.sl (some (42,7,false)) se,[])) (c5:call.cbv 155 [.sl none tr] []=some (.sl (some (44,9,false)) tr,[])) (c6:call.cbv 156 [.nils] []=some (.nils,[])):
  a7O P0 call n 77 [Qpd a b c d e f g hops (.sl none tr) (.sl none se)] []=some (Qpd a b c d e f g hops (.sl (some (44,9,false)) tr) (.sl (some (42,7,false)) se),[]):=by
 have d4:=fun(g:G) (nx:Nat)=>Qpe (g:=g) (nx:=nx) c4;have d5:=fun(g:G) (nx:Nat)=>Qpe (g:=g) (nx:=nx) c5;have d6:∀(g:G) (nx:Nat),a1q call.cbv g nx 156 [.nils]=some {v:= .nils}:=λ g nx=>b1v (all_cons (b9J a6n) d2G) c6 (d0n (b9J a6n));unfold Qpd;have r0:∀(g1:G) (nx id i2:Nat),g1 id=some (.row 42 7 se false)->g1 i2=some (.row 44 9 tr false)->id≠i2->a5t 77 g1 nx (.agg [sV a,iV b,sV c,sV d,sV e,bV f,bV g,iV hops,bV false,iV 0,sV ⟨#[]⟩,iV 0,sV ⟨#[]⟩,sV ⟨#[]⟩,sV ⟨#[]⟩,bV false,bV false,iV 0,iV 0,.nils,sV ⟨#[]⟩,.row i2 9 0 tr.length,.row id 7 0 se.length])=some (.agg [sV a,iV b,sV c,sV d,sV e,bV f,bV g,iV hops,bV false,iV 0,sV ⟨#[]⟩,iV 0,sV ⟨#[]⟩,sV ⟨#[]⟩,sV ⟨#[]⟩,bV false,bV false,iV 0,iV 0,.nils,sV ⟨#[]⟩,.sl (some (44,9,false)) tr,.sl (some (42,7,false)) se],[],[id,i2]):=λ g1 nx id i2 h h2 hne=>by
  simp[a5t,d1T,a2q,a0O,a0G,Xcu,d3H h2 rfl hd2,d3H h rfl hd,hne]
 simp[hI,P0,Tryz.func77,Tryz.f77,a0w,a0G,a1u,r0,d4,d5,d6]
end
theorem Xce{v:V}(h:isD v):a0r v=true/\(∀i,a0S i v=v)/\a6J v=false/\(∀(g1:G) w,a0h g1 w v=some (v,w))/\(∀s,PV.a0J s v=(v,s))/\(∀i,a0H i v=v):=⟨h.2.2.2.2.2.2.2.2.1,h.2.2.2.2.2.1,h.2.2.2.2.1,h.2.2.1,h.2.1,h.2.2.2.2.2.2.1⟩
theorem Xcf{k nx:Nat}{g:G}{v:V}(hk:d1T k=false)(h:rD v):a5t k g nx v=some (v,[],[]):=b1O hk h
theorem rTa{cs:List V}{k:IntKind}{n:Int}(h:∀c∈cs,isD c):rD (.tup [.agg cs,.lit (.int k n)]):=d4t (all_cons (c4A h) (all_cons (b9J a6N) d2G))
theorem rTb{cs:List V}{k:IntKind}{n:Int}{b:Bool}(h:∀c∈cs,isD c):rD (.tup [.agg cs,.lit (.int k n),.lit (.bool b)]):=d4t (all_cons (c4A h) (all_cons (b9J a6N) (all_cons (b9J a9t) d2G)))
theorem Xcg{cs:List V}(h:∀c∈cs,isD c):rD (.agg cs):=d0n (c4A h)
theorem Xch{k:IntKind}{n:Int}:rD (.lit (.int k n)):=d0n (b9J a6N)
theorem Xci{b:Bool}:rD (.lit (.bool b)):=d0n (b9J a9t)
theorem Xcj{b:ByteArray}:rD (.lit (.string b)):=d0n (b9J c3R)
def Qsl(L:V)(now k:Int)(s h:ByteArray)(p:Int)(T:V):List V:=[L,Qaa now,iV k,sV s,sV h,iV p,T]
section
variable {f:a7F} {g:G} {nx k id i:Nat} {L:V} {now k1 p:Int} {s h:ByteArray} {t t':List V} {xs:List V} {v:V}
theorem Qte(hx:∀x∈xs,pD x):a0G (a1y 4 g) ([],[]) (.ptr id 0::xs)=some (.ptr 0 0::xs,[],[id]):=by
 rw[a0G,Xcv.2.2];simp only[List.idxOf?_nil,List.length_nil,ao8];rw[PV.a2i λ a ha=>c3T (hx a ha)]
theorem Qtf(hL:isD L)(hg:g id=some (.var (Qsl L now k1 s h p .nils))):a0G (a1x g) ([],[]) [id]=some ([Qsl L now k1 s h p .nils],[],[]):=by
 unfold Qsl at*;simp[a0G,a1x,hg,Xce hL,Xcs,Xcu]
theorem Qtg(hL:isD L)(hd:dX t)(hg:g id=some (.var (Qsl L now k1 s h p (.row i 9 0 t.length))))(hr:g i=some (.row 44 9 t false)):a0G (a1x g) ([],[]) [id]=some ([Qsl L now k1 s h p (.sl (some (44,9,false)) t)],[],[i]):=by
 have q:=fun(w:List Nat×List Nat) (hw:i∉w.2)=>d3H hr rfl hd hw;unfold Qsl at*;simp[a0G,a1x,hg,Xce hL,q,Xcs,Xcu]
theorem Qth(hL:isD L){H:HP}:a2s (H,nx) [id] [Qsl L now k1 s h p .nils]=some ((id,some (.var (Qsl L now k1 s h p .nils)))::H,nx):=by
 unfold Qsl;simp[a2s,PV.a0f,Xcs,Xce hL]
theorem Qti(hL:isD L){H:HP}:a2s (H,nx) [id] [Qsl L now k1 s h p (.sl (some (44,9,false)) t)]=some ((id,some (.var (Qsl L now k1 s h p (.row nx 9 0 t.length))))::(nx,some (.row 44 9 t false))::H,nx+1):=by
 unfold Qsl;simp[a2s,PV.a0f,Xcs,Xce hL]
end
def Qpl(a:ByteArray)(b:Int)(c d e:ByteArray)(f g:Bool)(hops err:Int)(a':ByteArray)(b':Int)(c' d' e':ByteArray)(f' g':Bool)(hm hs:Int)(FL:V)(bd:ByteArray)(TR SE:V):V:= .agg [sV a,iV b,sV c,sV d,sV e,bV f,bV g,iV hops,bV true,iV err,sV a',iV b',sV c',sV d',sV e',bV f',bV g',iV hm,iV hs,FL,sV bd,TR,SE]
def Qpm(a:ByteArray)(b:Int)(c d e:ByteArray)(f g:Bool)(hm hs:Int)(FL:V)(bd:ByteArray)(TR:V):V:= .agg [sV a,iV b,sV c,sV d,sV e,bV f,bV g,iV hm,iV hs,FL,sV bd,TR]
theorem Qpn{v:V}(h:isD v){g:G}{w:List Nat×List Nat}:a0h g w v=some (v,w):=h.2.2.1 g w
theorem Qpo{f:a7F}{a:ByteArray}{b:Int}{c d e:ByteArray}{f1 g1:Bool}{hops:Int}{se:List V}(hc:f 77 [Qpd a b c d e f1 g1 hops .nils (.sl none se)] []=some (Qpd a b c d e f1 g1 hops .nils (.sl (some (42,7,false)) se),[]))(g:G)(nx:Nat):
  a1q f g nx 77 [Qpd a b c d e f1 g1 hops .nils (.sl none se)]=some {v:=Qpd a b c d e f1 g1 hops .nils (.row nx 7 0 se.length),upd:=[(nx,some (.row 42 7 se false))],cnt:=1}:=by
 unfold Qpd at*;simp[a1q,a0G,Xcx,a0C,a1u,hc,a3y,a2s,a1R,a2B,PV.a0f,PV.a0J]
theorem Qpp{f:a7F}{a:ByteArray}{b:Int}{c d e:ByteArray}{f1 g1:Bool}{hops:Int}{tr se:List V}(hc:f 77 [Qpd a b c d e f1 g1 hops (.sl none tr) (.sl none se)] []=some (Qpd a b c d e f1 g1 hops (.sl (some (44,9,false)) tr) (.sl (some (42,7,false)) se),[]))(g:G)(nx:Nat):
  a1q f g nx 77 [Qpd a b c d e f1 g1 hops (.sl none tr) (.sl none se)]=some {v:=Qpd a b c d e f1 g1 hops (.row nx 9 0 tr.length) (.row (nx+1) 7 0 se.length),upd:=[(nx+1,some (.row 42 7 se false)),(nx,some (.row 44 9 tr false))],cnt:=2}:=by
 unfold Qpd at*;simp[a1q,a0G,Xcx,a0C,a1u,hc,a3y,a2s,a1R,a2B,PV.a0f,PV.a0J];omega
theorem Qpq{f:a7F}{U U' H:V}{hops e2:Int}{se:List V}(hU:pD U)(hH:pD H)(hU':pD U')(hd:dX se)(hc:f 79 [U,H,.sl none se,iV hops] []=some (.tup [U',iV e2],[]))(g:G)(nx id:Nat)(hg:g id=some (.row 42 7 se false)):
  a1q f g nx 79 [U,H,.row id 7 0 se.length,iV hops]=some {v:= .tup [U',iV e2],upd:=[(id,some (.row 42 7 se true))]}:=by
 simp[a1q,a0G,c3T hU,c3T hH,Xcw hg rfl hd,Xcv,a1u,hc,a3y,a2s,hg,d2Q (d4t (all_cons hU' (all_cons (b9J a6N) d2G)))]
theorem Qps{a:ByteArray}{b:Int}{c d e:ByteArray}{f g:Bool}:pD (Qou a b c d e f g):=c4A (by repeat' first|exact d2G|refine all_cons ?_ ?_|exact a6N|exact c3R|exact a9t)
theorem Qpt{a:ByteArray}{b:Int}{c d e:ByteArray}{f g:Bool}{st er:Int}:pD (Qmc a b c d e f g st er):=c4A (by repeat' first|exact d2G|refine all_cons ?_ ?_|exact a6N|exact c3R|exact a9t)
theorem Qpu{g:G}{nx id:Nat}{x:V}(hx:x.cells.length=9)(h:g id=some (.row 44 9 [x] false)):a0M P0 g nx 36 36 .nils (.row id 9 0 1)=some {v:= .row nx 9 0 1,upd:=[(nx,some (.row 44 9 [x] false))],cnt:=1}:=by
 rw[Qow (Xdb (n:=1) h rfl) (by intro y hy;rw[az7.1 hy];exact hx),Xdc (by simp) (by simp)];rfl
theorem Qpv{g:G}{nx id i:Nat}{x:V}{tr:List V}(hl:tr.length<=1000000)(hx:x.cells.length=9)(h:g id=some (.row 44 9 [x] false))(h2:g i=some (.row 44 9 tr false)):a0M P0 g nx 36 36 (.row i 9 0 tr.length) (.row id 9 0 1)=some {v:= .row nx 9 0 (tr.length+1),upd:=[(nx,some (.row 44 9 (tr++[x]) false)),(i,none)],cnt:=1}:=by
 rw[Qow (Xdb (n:=1) h rfl) (by intro y hy;rw[az7.1 hy];exact hx),Xdd h2 rfl (by simp;omega)];rfl
theorem Qpw{g:G}{nx id i:Nat}{x:V}{se:List V}(hl:se.length<=1000000)(hx:x.cells.length=7)(h:g id=some (.row 42 7 [x] false))(h2:g i=some (.row 42 7 se true)):a0M P0 g nx 94 94 (.row i 7 0 se.length) (.row id 7 0 1)=some {v:= .row nx 7 0 (se.length+1),upd:=[(nx,some (.row 42 7 (se++[x]) true)),(i,none)],cnt:=1}:=by
 rw[Qox (Xdb (n:=1) h rfl) (by intro y hy;rw[az7.1 hy];exact hx),Xdd h2 rfl (by simp;omega)];rfl
theorem Qpx{x:V}(h:pD x):dX [x]:=λ y hy=>by rw[az7.1 hy];exact h
theorem Qpy{xs:List V}{x:V}(h:dX xs)(hx:pD x):dX (xs++[x]):=λ y hy=>by
 rcases ax1.1 hy with hy|hy
 .exact h y hy
 .rw[az7.1 hy];exact hx
theorem Qpz(tr se:List V){g:G}{nx i1 i2 n1 n2:Nat}{f1 f2:Bool}{v0 v1 v2 v3 v4 v5 v6 v7 v8 v9 w0 w1 w2 w3 w4 w5 w6 w7 w8 w9 w10:V}(h:∀v∈[v0,v1,v2,v3,v4,v5,v6,v7,v8,v9,w0,w1,w2,w3,w4,w5,w6,w7,w8,w9,w10],isD v)
  (h1:g i1=some (.row 44 9 tr f1)) (h2:g i2=some (.row 42 7 se f2)) (d1:dX tr) (d2:dX se) (l1:i1<nx) (l2:i2<nx) (e1:n1=tr.length) (e2:n2=se.length):
  a5t 35 g nx (.agg [v0,v1,v2,v3,v4,v5,v6,v7,v8,v9,w0,w1,w2,w3,w4,w5,w6,w7,w8,w9,w10,.row i1 9 0 n1,.row i2 7 0 n2])=some (.agg [v0,v1,v2,v3,v4,v5,v6,v7,v8,v9,w0,w1,w2,w3,w4,w5,w6,w7,w8,w9,w10,.sl none tr,.sl none se],[i2,i1],[]):=by
 simp only[au6]at h;obtain⟨k0,k1,k2,k3,k4,k5,k6,k7,k8,k9,j0,j1,j2,j3,j4,j5,j6,j7,j8,j9,j10,_⟩:=h;have m1:i1∈List.range nx:=aq2.2 l1;have m2:i2∈List.range nx:=aq2.2 l2;have q1:=fun(ms:List Nat)=>d2C (w:=(ms,List.range nx)) h1 e1 d1 m1;have q2:=fun(ms:List Nat)=>d2C (w:=(ms,List.range nx)) h2 e2 d2 m2;simp[a5t,d1T,c6k,a2q,a0O,a0G,q1,q2,Qpn k0,Qpn k1,Qpn k2,Qpn k3,Qpn k4,Qpn k5,Qpn k6,Qpn k7,Qpn k8,Qpn k9,Qpn j0,Qpn j1,Qpn j2,Qpn j3,Qpn j4,Qpn j5,Qpn j6,Qpn j7,Qpn j8,Qpn j9,Qpn j10]
def Qto(k:Int)(s h:ByteArray)(p:Int)(NM:V)(via:Int)(b:Bool)(u:Int)(TR:V):V:= .agg [iV k,sV s,sV h,iV p,NM,iV via,bV b,Qaa u,TR]
def Qtp:V:=Qto 0 ⟨#[]⟩ ⟨#[]⟩ 0 .nils 0 false 0 .nils
def Qtq(k:Int)(s h:ByteArray)(p:Int):V:= .agg [iV k,sV s,sV h,iV p]
theorem Qtw{k:Int}{s h:ByteArray}{p:Int}:pD (Qtq k s h p):=c4A (by repeat' first|exact d2G|refine all_cons ?_ ?_|exact a6N|exact c3R)
theorem Qtx{a:ByteArray}{b:Int}{c d e:ByteArray}{f g:Bool}{hm hs:Int}{FL:V}{bd:ByteArray}{T:V}(h1:isD FL)(h2:isD T):pD (Qpm a b c d e f g hm hs FL bd T):=c4A (by repeat' first|exact d2G|refine all_cons ?_ ?_|exact a6N|exact c3R|exact a9t|exact h1|exact h2)
theorem Qty{k:Int}{s h:ByteArray}{p:Int}{NM:V}{via:Int}{b:Bool}{u:Int}{TR:V}(h1:isD NM)(h2:isD TR):pD (Qto k s h p NM via b u TR):=c4A (by repeat' first|exact d2G|refine all_cons ?_ ?_|exact a6N|exact c3R|exact a9t|exact h1|exact h2)
def Qub(j:ByteArray)(A Q K:V):V:= .agg [sV j,A,Q,K]
theorem Quc{j:ByteArray}{A Q K:V}(h1:isD A)(h2:isD Q)(h3:isD K):pD (Qub j A Q K):=c4A (by repeat' first|exact d2G|refine all_cons ?_ ?_|exact c3R|exact h1|exact h2|exact h3)
def Qul:ByteArray:=⟨#[108,105,110,107]⟩
def Qum:ByteArray:=⟨#[108,114,100,100]⟩
theorem Qun{a b:Int}{F:V}(h:isD F):pD (.agg [iV a,iV b,F]):=c4A (all_cons a6N (all_cons a6N (all_cons h d2G)))
section
variable {f:a7F} {k:Nat} {L:V} {now k1 p:Int} {s h:ByteArray} {t t' xs:List V} {v:V}
theorem Xck(hc:f k xs []=some (v,[]))(h:∀a∈xs,pD a:=by simp[*])(hv:rD v:=by simp[*]):∀(g:G) (nx:Nat),a1q f g nx k xs=some {v:=v}:=λ _ _=>b1v h hc hv
abbrev Xcl(L:V)(now k:Int)(s h:ByteArray)(p:Int)(t:List V):List V:=Qsl L now k s h p (.sl (some (44,9,false)) t)
theorem Qtj(hL:isD L)(hc:f k (.ptr 0 0::xs) [Qsl L now k1 s h p .nils]=some (v,[Qsl L now k1 s h p .nils]))(hx:∀x∈xs,pD x:=by simp[*])(hv:rD v:=by simp[*]):∀(g:G) (nx id:Nat),g id=some (.var (Qsl L now k1 s h p .nils))->id<nx->
  a1q f g nx k (.ptr id 0::xs)=some {v:=v,upd:=[(id,some (.var (Qsl L now k1 s h p .nils)))]}:=λ g nx id hg hlt=>by
 rw[a1q,Qte hx];simp[Qtf hL hg,a1u,hlt,hc,Qth hL,a3y,d2Q hv]
theorem Qtk(hL:isD L)(hc:f k (.ptr 0 0::xs) [Qsl L now k1 s h p .nils]=some (v,[Xcl L now k1 s h p t']))(hx:∀x∈xs,pD x:=by simp[*])(hv:rD v:=by simp[*]):∀(g:G) (nx id:Nat),g id=some (.var (Qsl L now k1 s h p .nils))->id<nx->
  a1q f g nx k (.ptr id 0::xs)=some {v:=v,upd:=[(id,some (.var (Qsl L now k1 s h p (.row nx 9 0 t'.length)))),(nx,some (.row 44 9 t' false))],cnt:=1}:=λ g nx id hg hlt=>by
 rw[a1q,Qte hx];simp[Qtf hL hg,a1u,hlt,hc,Qti hL,a3y,d2Q hv]
theorem Qtl(hL:isD L)(hd:dX t)(hc:f k (.ptr 0 0::xs) [Xcl L now k1 s h p t]=some (v,[Xcl L now k1 s h p t']))(hx:∀x∈xs,pD x:=by simp[*])(hv:rD v:=by simp[*]):∀(g:G) (nx id i:Nat),g id=some (.var (Qsl L now k1 s h p (.row i 9 0 t.length)))->g i=some (.row 44 9 t false)->id<nx->
  a1q f g nx k (.ptr id 0::xs)=some {v:=v,upd:=[(id,some (.var (Qsl L now k1 s h p (.row nx 9 0 t'.length)))),(nx,some (.row 44 9 t' false)),(i,none)],cnt:=1}:=λ g nx id i hg hr hlt=>by
 rw[a1q,Qte hx];simp[Qtg hL hd hg hr,a1u,hlt,hc,Qti hL,a3y,d2Q hv]
theorem Qtm(hL:isD L)(hc:f k (.ptr 0 0::xs) [Qsl L now k1 s h p .nils]=none)(hx:∀x∈xs,pD x:=by simp[*]):∀(g:G) (nx id:Nat),g id=some (.var (Qsl L now k1 s h p .nils))->a1q f g nx k (.ptr id 0::xs)=none:=λ g nx id hg=>by
 rw[a1q,Qte hx];simp[Qtf hL hg,a1u,hc]
theorem Qtn(hL:isD L)(hd:dX t)(hc:f k (.ptr 0 0::xs) [Xcl L now k1 s h p t]=none)(hx:∀x∈xs,pD x:=by simp[*]):∀(g:G) (nx id i:Nat),g id=some (.var (Qsl L now k1 s h p (.row i 9 0 t.length)))->g i=some (.row 44 9 t false)->a1q f g nx k (.ptr id 0::xs)=none:=λ g nx id i hg hr=>by
 rw[a1q,Qte hx];simp[Qtg hL hd hg hr,a1u,hc]
theorem Xcm{g:G}{id:Nat}{w:List Nat×List Nat}(hd:dX t)(h:g id=some (.row 44 9 t false))(hw:id∉w.2):a0h g w (.row id 9 0 t.length)=some (.sl (some (44,9,false)) t,w.1,id::w.2):=d3H h rfl hd hw
end
theorem Quy{g:G}{nx id:Nat}{k:Int}{s h:ByteArray}{p:Int}{N:V}{via:Int}{b:Bool}{u e:Int}{t:List V}(hd:dX t)(hN:isD N)(hid:id<nx)(hg:g id=some (.row 44 9 t false)):
  a5t 11 g nx (.tup [.agg [iV k,sV s,sV h,iV p,N,iV via,bV b,Qaa u,.row id 9 0 t.length],iV e])=some (.tup [.agg [iV k,sV s,sV h,iV p,N,iV via,bV b,Qaa u,.sl none t],iV e],[id],[]):=by
 have q:=fun(ms:List Nat)=>d2C (w:=(ms,List.range nx)) (n:=t.length) hg rfl hd (aq2.2 hid);have l4:=λ w=>Qpn hN (g:=g) (w:=w);unfold a5t;rw[ay9 (by decide)];unfold c6k;simp[a2q,a0O,a0G,Xcu,l4,q]
theorem Quz:IntKind.i64.wrap 1=1:=by decide
theorem Qva:IntKind.i64.wrap 2=2:=by decide
theorem Qvb:IntKind.i64.wrap 3=3:=by decide
def Xbc:ByteArray:=⟨#[99,111,110,116,101,110,116,45,116,121,112,101]⟩
def Xbn:V:=Qub ⟨#[]⟩ .nils .nils .nils
def Qyj:List ByteArray:=[⟨#[97,46,101,120,97,109,112,108,101]⟩,⟨#[98,46,101,120,97,109,112,108,101]⟩,⟨#[99,46,101,120,97,109,112,108,101,58,56,52,52,51]⟩,⟨#[100,46,101,120,97,109,112,108,101]⟩]
def Qyn:List ByteArray:=[⟨#[97,99,99,116,58]⟩,⟨#[65,67,67,84,58]⟩]
def Qyo:List ByteArray:=[⟨#[98,111,98]⟩,⟨#[97,109,121]⟩,⟨#[120,37,50,102,121]⟩,⟨#[99,43,100]⟩]
def Qyp:List ByteArray:=[⟨#[97,46,101,120,97,109,112,108,101]⟩,⟨#[66,46,101,120,97,109,112,108,101]⟩,⟨#[99,46,101,120,97,109,112,108,101]⟩]
def Qyq:List ByteArray:=[⟨#[98,111,98]⟩,⟨#[37,54,49,109,121]⟩,⟨#[99,43,100]⟩]
def Qyr:List ByteArray:=[⟨#[97,46,101,120,97,109,112,108,101]⟩,⟨#[98,46,69,120,97,109,112,108,101]⟩]
def Qys:List ByteArray:=[⟨#[]⟩,⟨#[47]⟩,⟨#[47,117,47,98,111,98]⟩,⟨#[47,46,47,120,63,121,61,49]⟩,⟨#[47,126,97,35,109,101]⟩]
def Qyt:List ByteArray:=[⟨#[]⟩,⟨#[58,117]⟩,⟨#[58,117,58,98,111,98]⟩,⟨#[58,97,37,55,101,98]⟩]
def Qyu:ByteArray:=⟨#[64]⟩
def Qyv:ByteArray:=⟨#[109,97,105,108,116,111,58]⟩
def Qyw:ByteArray:=⟨#[104,116,116,112,115,58,47,47]⟩
def Qyx:ByteArray:=⟨#[100,105,100,58,119,101,98,58]⟩
def Qyy:ByteArray:=⟨#[99,46,101,120,97,109,112,108,101,37,51,65,56,52,52,51]⟩
def Qyz:List UInt8:=[99,46,101,120,97,109,112,108,101,58,56,52,52,51]
def Qza:List ByteArray:=(Qyn.flatMap λ x=>Qyo.flatMap λ y=>Qyp.map λ z=>x++y++Qyu++z)++((Qyq.flatMap λ x=>Qyr.map λ y=>Qyv++x++Qyu++y)++((Qyj.flatMap λ x=>Qys.map λ y=>Qyw++x++y)++(Qyj.flatMap λ x=>Qyt.map λ y=>Qyx++(if x.toList=Qyz then Qyy else x)++y)))
theorem Qym{P:Program}{t:Nat}{d:TypeDesc}{x y:Operand}{u v:ByteArray}(hd:P.underlying t=some d)(h:u.size+v.size<=1000):a3w P .add t x y (sV u) (sV v)=some (sV (u++v)):=by
 unfold a3w;rw[hd];have:a2U d (sV u) (sV v)=false:=by cases d<;>rfl
 simp only[Az0,az1,this,a0W,a1b,ay6,av8];have h2:¬((u.size+v.size:Nat):Int)>IntKind.i64.max:=by show¬((u.size+v.size:Nat):Int)>9223372036854775807;omega
 simp only[eqGuard,Go.binOp,Op.stringOp,ay9 h2];rfl
theorem Xcn{u v:ByteArray}{a b:Nat}(hu:u.size<=a)(hv:v.size<=b)(h:a+b<=1000:=by decide):(∀x y,a3w P0 .add 9 x y (sV u) (sV v)=some (sV (u++v)))/\(u++v).size<=a+b:=⟨λ _ _=>Qym am6 (by omega),by rw[ByteArray.size_append];omega⟩
theorem Xco{x y:Operand}{u v:ByteArray}:a3w P0 .eql 9 x y (sV u) (sV v)=some (bV (u.toList==v.toList)):=a0y am6
section
attribute [local simp] a7O a0K a0I a0v a0V a1h a1F opE ev evs evo a0D a2H a0u a0m St.get St.put tgp tgl a1w a0Z sc a0W a1b a0E a3B a1K a6x lenOf a2u a0b V.fit a5z anb a4Z bT storeAt setCells a3a a3b fill a1H Qmm Qop Qmk Qot Qbe Qoq Qna Qoj Qol Qpa Qpb Qpc Xct Qod Qoe Qof Qog Qoh Qoi Qom Qnb Qok Qos Qor Qbf Qml Tryz.underlying96 Tryz.underlying49 Tryz.underlying47 Tryz.underlying42 Tryz.underlying44 am5 al1 Qmw Qmx sz3 ag3 Qon Qoo sz9 ag9 Tryz.underlying68 Tryz.underlying4 am6 a1s Qqc Qqd Qqe Tryz.underlying92 Qsn Qso Qsp Qsq Qaj Qak a0w PV.a0f Xcs Xcu a1x a0G a1u Qsr Qss Qst Qmu Qmv Tryz.underlying38 Qtt Qtu Qtv Qtr Qts Qmy Qmz Xap Xaq Xbd Xbe Xbf Xbg Xbh Xbi Xbj Xbk Xbl Xbm Tryz.underlying36 Tryz.underlying29 Tryz.underlying33 Tryz.underlying35 Qxy Qxz Qya Qyb Qyc Qyd Qye al0 am8 P0 inlS Xbr Xbs Xbt b9J c4A Qps Qtw Qtx Qty Quc Qun d4t d0n rTa rTb Xcg Xch Xci Xcj a6N c3R a9t a6n b4K Xcr Xbw Xbx Xby Xbz Xca Xcb Xcc Xcf d1T Xcm
set_option maxHeartbeats 8000000
section
def Qqa(t z:Nat):Option (List V)->V
 |none=> .nils
 |some xs=> .sl (some (t,z,false)) xs
set_option maxHeartbeats 2000000 in
theorem Qqb{call:PV.Calls}{n:Nat}{L FL TR:V}{a:ByteArray}{b:Int}{c d e:ByteArray}{f g:Bool}{hops now:Int}{se:List V}{o:Option (List V)}{a':ByteArray}{b':Int}{c' d' e':ByteArray}{f' g':Bool}{hm hs st er e2:Int}{bd:ByteArray}{q:Bool}{u0:ByteArray}{u1:Int}{u2 u3 u4:ByteArray}{u5 u6:Bool}
  (hL:isD L) (hF:isD FL) (hT:isD TR) (hd:dX se) (ho:dX (Xcq o)) (hol:(Xcq o).length<=1000) (hsl:se.length<=1000) (hh:0<=hops/\hops<=1000) (hI:Xcd call)
  (c77:call.cbv 77 [Qpd a b c d e f g hops (Xcp o) (.sl none se)] []=some (Qpd a b c d e f g hops (Qqa 44 9 o) (.sl (some (42,7,false)) se),[]))
  (c56:call.cbv 56 [L,Qaa now,Qou a b c d e f g] []=some (.tup [Qpm a' b' c' d' e' f' g' hm hs FL bd TR,iV st,iV er],[]))
  (c78:er=0->call.cbv 78 [iV st] []=some (bV q,[]))
  (c79:er=0->q=true->call.cbv 79 [Qou a b c d e f g,.agg [iV hm,iV hs,FL],.sl none se,iV hops] []=some (.tup [Qou u0 u1 u2 u3 u4 u5 u6,iV e2],[])):
  a7O P0 call n 35 [L,Qaa now,Qpd a b c d e f g hops (Xcp o) (.sl none se)] []=some (if er=0 then if q then if e2=0 then Qpd u0 u1 u2 u3 u4 u5 u6 (hops+1) (.sl none (Xcq o++[Qmc a b c d e f g st 0])) (.sl none (se++[Qou u0 u1 u2 u3 u4 u5 u6]))
   else Qpl a b c d e f g hops e2 ⟨#[]⟩ 0 ⟨#[]⟩ ⟨#[]⟩ ⟨#[]⟩ false false 0 0 .nils ⟨#[]⟩ (.sl none (Xcq o++[Qmc a b c d e f g st 0])) (.sl none se)
   else Qpl a b c d e f g hops 0 a' b' c' d' e' f' g' hm hs FL bd (.sl none (Xcq o++[Qmc a b c d e f g st 0])) (.sl none se)
   else Qpl a b c d e f g hops er ⟨#[]⟩ 0 ⟨#[]⟩ ⟨#[]⟩ ⟨#[]⟩ false false 0 0 .nils ⟨#[]⟩ (.sl none (Xcq o++[Qmc a b c d e f g st er])) (.sl none se),[]):=by
 have d1:=Xck c56;have hw:IntKind.i64.wrap (hops+1)=hops+1:=a2h (by omega) (by omega);have ha:=fun(g1:G) (nx id:Nat)=>Qpu (g:=g1) (nx:=nx) (id:=id) (x:=Qmc a b c d e f g st er) rfl;have hau:=fun(g1:G) (nx id i:Nat)=>Qpw (g:=g1) (nx:=nx) (id:=id) (i:=i) (x:=Qou u0 u1 u2 u3 u4 u5 u6) (se:=se) (by omega) rfl;have d2:=λ h=>Xck (c78 h);have d3:=fun(h:er=0) (h1:q=true) (g1:G) (nx id:Nat)=>Qpq (g:=g1) (nx:=nx) (id:=id) Qps (c4A (all_cons a6N (all_cons a6N (all_cons hF d2G)))) Qps hd (c79 h h1);have x1:dX (se++[Qou u0 u1 u2 u3 u4 u5 u6]):=Qpy hd Qps;cases o with
 |none=>
  have d4:=Qpo c77;have x2:dX [Qmc a b c d e f g st er]:=Qpx Qpt;have r1:= @Qpz [Qmc a b c d e f g st er];have r2:= @r1 (se++[Qou u0 u1 u2 u3 u4 u5 u6]);have r1:= @r1 se;clear c77 c56 c78 c79;unfold Qpd Qpl Qpm Qou Qmc Xcp Xcq at*;by_cases he:er=0
  .subst he
   cases q
   .simp[Tryz.func35,Tryz.f35,a0w,a0G,a1u,a2V am5, *]
   .by_cases h2:e2=0<;>simp[Tryz.func35,Tryz.f35,a0w,a0G,a1u,a2V am5, *]
  .simp[Tryz.func35,Tryz.f35,a0w,a0G,a1u,a2V am5, *]
 |some tr=>
  have d4:=Qpp c77;have hol:tr.length<=1000:=hol;have har:=fun(g1:G) (nx id i:Nat)=>Qpv (g:=g1) (nx:=nx) (id:=id) (i:=i) (x:=Qmc a b c d e f g st er) (tr:=tr) (by omega) rfl;have x2:dX (tr++[Qmc a b c d e f g st er]):=Qpy ho Qpt;have r1:= @Qpz (tr++[Qmc a b c d e f g st er]);have r2:= @r1 (se++[Qou u0 u1 u2 u3 u4 u5 u6]);have r1:= @r1 se;clear c77 c56 c78 c79;unfold Qpd Qpl Qpm Qou Qmc Xcp Xcq at*;by_cases he:er=0
  .subst he
   cases q
   .simp[Tryz.func35,Tryz.f35,a0w,a0G,a1u,a2V am5, *]
   .by_cases h2:e2=0<;>simp[Tryz.func35,Tryz.f35,a0w,a0G,a1u,a2V am5, *]
  .simp[Tryz.func35,Tryz.f35,a0w,a0G,a1u,a2V am5, *]
end
section
theorem Qqh{call:PV.Calls}{n:Nat}{a:ByteArray}{b:Int}{c d e:ByteArray}{f g v:Bool}(hI:Xcd call)(c76:call.cbv 76 [Qou a b c d e f g] []=some (bV v,[])):
  a7O P0 call n 34 [Qou a b c d e f g] []=some (if v then Qpd a b c d ⟨#[]⟩ f false 0 .nils (.sl none [Qou a b c d ⟨#[]⟩ f false])else Qpl ⟨#[]⟩ 0 ⟨#[]⟩ ⟨#[]⟩ ⟨#[]⟩ false false 0 8 ⟨#[]⟩ 0 ⟨#[]⟩ ⟨#[]⟩ ⟨#[]⟩ false false 0 0 .nils ⟨#[]⟩ .nils .nils,[]):=by
 have d76:∀(g1:G) (nx:Nat),a1q call.cbv g1 nx 76 [Qou a b c d e f g]=some {v:=bV v}:=λ g1 nx=>b1v (all_cons Qps d2G) c76 (d0n (b9J a9t));have q2:=fun(g1:G) (nx id:Nat) (h:g1 id=some (.row 42 7 [Qou a b c d ⟨#[]⟩ f false] false)) (hi:id<nx) (ms:List Nat)=>d2C (w:=(ms,List.range nx)) (n:=1) h rfl (Qpx Qps) (aq2.2 hi);cases v with
 |false=>
  unfold Qpl Qou at*;simp[hI,P0,Tryz.func34,Tryz.f34,a0w,a0G,a1u,d76,a5t,d1T,c6k,a2q,a0O,Xcu]
 |true=>
  unfold Qpd Qou at*;simp[hI,P0,Tryz.func34,Tryz.f34,a0w,a0G,a1u,d76,a5t,d1T,c6k,a2q,a0O,Xcu,q2]
theorem Qqj{call:PV.Calls}{n:Nat}{L:V}{a:ByteArray}{b:Int}{c d e s:ByteArray}{f g:Bool}{now er:Int}(hL:isD L)(hI:Xcd call)(c124:call.cbv 124 [L,Qou a b c d e f g,Qaa now] []=some (.tup [sV s,iV er],[]))(he:er≠0):
  ∃R st,a7O P0 call n 56 [L,Qaa now,Qou a b c d e f g] []=some (.tup [R,iV st,iV er],[]):=by
 have d124:∀(g1:G) (nx:Nat),a1q call.cbv g1 nx 124 [L,Qou a b c d e f g,Qaa now]=some {v:= .tup [sV s,iV er]}:=λ g1 nx=>b1v (all_cons (b9J hL) (all_cons Qps (all_cons (b9J a6N) d2G))) c124 (d4t (all_cons (b9J c3R) (all_cons (b9J a6N) d2G)));refine⟨.agg [sV ⟨#[]⟩,iV 0,sV ⟨#[]⟩,sV ⟨#[]⟩,sV ⟨#[]⟩,bV false,bV false,iV 0,iV 0,.nils,sV ⟨#[]⟩,.nils],0,?_⟩;have rr:∀(g1:G) (nx:Nat),a5t 56 g1 nx (.tup [.agg [sV ⟨#[]⟩,iV 0,sV ⟨#[]⟩,sV ⟨#[]⟩,sV ⟨#[]⟩,bV false,bV false,iV 0,iV 0,.nils,sV ⟨#[]⟩,.nils],iV 0,iV er])=some (.tup [.agg [sV ⟨#[]⟩,iV 0,sV ⟨#[]⟩,sV ⟨#[]⟩,sV ⟨#[]⟩,bV false,bV false,iV 0,iV 0,.nils,sV ⟨#[]⟩,.nils],iV 0,iV er],[],[]):=λ g1 nx=>b1O (by rfl) (d4t (all_cons (c4A (by repeat' first|exact d2G|refine all_cons ?_ ?_|exact a6N|exact c3R|exact a9t|exact a6n)) (all_cons (b9J a6N) (all_cons (b9J a6N) d2G))));unfold Qou at*;simp[hI,P0,Tryz.func56,Tryz.f56,a0w,a0G,a1u,rr,d124,he]
end
def Qsm:Option (List V)->Option (List V)->Option (List V)
 |none,o2=>o2
 |some a,o2=>some (a++Xcq o2)
section
set_option maxHeartbeats 2000000 in
theorem Qsu{call:PV.Calls}{n:Nat}{L:V}{now k p e:Int}{s h:ByteArray}{o o2:Option (List V)}{a:ByteArray}{b:Int}{c d e':ByteArray}{f g:Bool}{r0:ByteArray}{r1:Int}{r2 r3 r4:ByteArray}{r5 r6:Bool}{hm hs:Int}{FL:V}{bd:ByteArray}
  (hL:isD L) (hF:isD FL) (ho:∀x∈Xcq o,pD x) (ho2:∀x∈Xcq o2,pD x/\x.cells.length=9) (hol:(Xcq o).length<=1000) (hol2:(Xcq o2).length<=1000) (hne:∀tr,o2=some tr->tr≠[]) (hI:Xcd call)
  (c12:call.cbv 12 [L,Qaa now,Qou a b c d e' f g] []=some (.tup [Qpm r0 r1 r2 r3 r4 r5 r6 hm hs FL bd (Xcp o2),iV e],[])):
  a7O P0 call n 67 [.ptr 0 0,Qou a b c d e' f g] [Qsl L now k s h p (Qqa 44 9 o)]=some (.tup [Qpm r0 r1 r2 r3 r4 r5 r6 hm hs FL bd (Xcp o2),iV e],[Qsl L now k s h p (Qqa 44 9 (Qsm o o2))]):=by
 have pR:∀{T:V},isD T->rD (.tup [Qpm r0 r1 r2 r3 r4 r5 r6 hm hs FL bd T,iV e]):=λ hT=>d4t (all_cons (c4A (by repeat' first|exact d2G|refine all_cons ?_ ?_|exact a6N|exact c3R|exact a9t|exact hF|exact hT)) (all_cons (b9J a6N) d2G));have d12:=Xck c12;have k1:=hF.2.2.2.2.2.2.2.2.1;cases o with
 |none=>
  cases o2 with
  |none=>
   have ha:∀(g1:G) (nx:Nat),a0M P0 g1 nx 36 36 .nils .nils=some {v:= .nils,cnt:=1}:=λ g1 nx=>by rw[Qow Xda (λ _ h=>(by cases h))];rfl
   unfold Qsl Qpm Qou Xcp Qqa Qsm at*;simp[Tryz.func67,Tryz.f67, *]
  |some tr=>
   have hd:dX tr:=λ x hx=>(ho2 x hx).1;have hlt:tr.length<=1000:=hol2;have ha:∀(g1:G) (nx:Nat),a0M P0 g1 nx 36 36 .nils (.sl none tr)=some {v:= .row nx 9 0 tr.length,upd:=[(nx,some (.row 44 9 tr false))],cnt:=1}:=λ g1 nx=>by rw[Qow (ys:=tr) Xcz (λ x hx=>(ho2 x hx).2),Xdc (hne tr rfl) (by omega)]
   have q:=fun(g1:G) (id:Nat) (w:List Nat×List Nat) (h:g1 id=some (.row 44 9 tr false)) (hw:id∉w.2)=>d3H h rfl hd hw;unfold Qsl Qpm Qou Xcp Qqa Qsm at*;simp[Tryz.func67,Tryz.f67, *]
 |some t0=>
  have hd0:dX t0:=ho;have hlt0:t0.length<=1000:=hol;cases o2 with
  |none=>
   have ha:∀(g1:G) (nx id:Nat),g1 id=some (.row 44 9 t0 false)->a0M P0 g1 nx 36 36 (.row id 9 0 t0.length) .nils=some {v:= .row nx 9 0 t0.length,upd:=[(nx,some (.row 44 9 t0 false)),(id,none)],cnt:=1}:=λ g1 nx id h=>by rw[Qow Xda (λ _ h=>(by cases h)),Xdd h rfl (by simp;omega)];simp
   have q:=fun(g1:G) (id:Nat) (w:List Nat×List Nat) (h:g1 id=some (.row 44 9 t0 false)) (hw:id∉w.2)=>d3H h rfl hd0 hw;unfold Qsl Qpm Qou Xcp Qqa Qsm Xcq at*;simp[Tryz.func67,Tryz.f67, *]
  |some tr=>
   have hlt:tr.length<=1000:=hol2;have hd:dX (t0++tr):=λ x hx=>by
    rcases ax1.1 hx with hx|hx
    .exact ho x hx
    .exact(ho2 x hx).1
   have ha:∀(g1:G) (nx id:Nat),g1 id=some (.row 44 9 t0 false)->a0M P0 g1 nx 36 36 (.row id 9 0 t0.length) (.sl none tr)=some {v:= .row nx 9 0 (t0.length+tr.length),upd:=[(nx,some (.row 44 9 (t0++tr) false)),(id,none)],cnt:=1}:=λ g1 nx id h=>by rw[Qow (ys:=tr) Xcz (λ x hx=>(ho2 x hx).2),Xdd h rfl (by omega)]
   have q:=fun(g1:G) (id:Nat) (w:List Nat×List Nat) (h:g1 id=some (.row 44 9 (t0++tr) false)) (hw:id∉w.2)=>d3H (n:=t0.length+tr.length) h (by simp) hd hw;unfold Qsl Qpm Qou Xcp Qqa Qsm Xcq at*;simp[Tryz.func67,Tryz.f67, *]
end
section
variable {call:PV.Calls} {n:Nat} {L T FL NM FT JA JQ JK LL:V} {now k p e e0 e2 e3 e4 e5 e6 r1 hm hs fk fp via fu:Int} {s h r0 r2 r3 r4 bd fs fh jb lk tg:ByteArray} {r5 r6 fb there found:Bool} {t t' t'':List V} {o':Option (List V)} {a1:ByteArray} {b1:Int} {c1 d1 y1:ByteArray} {f1 g1:Bool} {a2:ByteArray} {b2:Int} {c2 d2 y2:ByteArray} {f2 g2:Bool}
theorem Que(hL:isD L)(hF:isD FL)(hT:isD T)(hN:isD NM)(hFT:isD FT)(ht:dX t)(ht':dX t')(hI:Xcd call)(c67:call.cbv 67 [.ptr 0 0,Qou a1 b1 c1 d1 y1 f1 g1] [Xcl L now k s h p t]=some (.tup [Qpm r0 r1 r2 r3 r4 r5 r6 hm hs FL bd T,iV e],[Xcl L now k s h p t']))(c13:e=0->call.cbv 13 [Qpm r0 r1 r2 r3 r4 r5 r6 hm hs FL bd T,Qtq k s h p] []=some (.tup [Qto fk fs fh fp NM via fb fu FT,iV e2],[])):
  a7O P0 call n 70 [.ptr 0 0,Qou a1 b1 c1 d1 y1 f1 g1] [Xcl L now k s h p t]=some (if e=0 then .tup [Qto fk fs fh fp NM via fb fu FT,iV e2]else .tup [Qtp,iV e],[Xcl L now k s h p t']):=by
 have b:=Qtl hL ht c67;have d:=λ h0=>Xck (c13 h0);clear c67 c13;unfold Xcl Qsl Qpm Qou Qtp Qto Qtq at*;by_cases h0:e=0<;>simp[Tryz.func70,Tryz.f70, *]
theorem Quf(hL:isD L)(ht:dX t)(hI:Xcd call)(c67:call.cbv 67 [.ptr 0 0,Qou a1 b1 c1 d1 y1 f1 g1] [Xcl L now k s h p t]=none):a7O P0 call n 70 [.ptr 0 0,Qou a1 b1 c1 d1 y1 f1 g1] [Xcl L now k s h p t]=none:=by
 have b:=Qtn hL ht c67;clear c67;unfold Xcl Qsl Qou at*;simp[Tryz.func70,Tryz.f70, *]
theorem Qug(hL:isD L)(hF:isD FL)(hT:isD T)(hN:isD NM)(hFT:isD FT)(ho:∀x∈Xcq o',pD x)(hI:Xcd call)(c66:call.cbv 66 [Qtq k s h p] []=some (.tup [Qou a1 b1 c1 d1 y1 f1 g1,iV e0],[]))
  (c67:e0=0->call.cbv 67 [.ptr 0 0,Qou a1 b1 c1 d1 y1 f1 g1] [Qsl L now k s h p .nils]=some (.tup [Qpm r0 r1 r2 r3 r4 r5 r6 hm hs FL bd T,iV e],[Qsl L now k s h p (Qqa 44 9 o')])) (he:e0=0->e=0->∃t,o'=some t) (c13:e0=0->e=0->call.cbv 13 [Qpm r0 r1 r2 r3 r4 r5 r6 hm hs FL bd T,Qtq k s h p] []=some (.tup [Qto fk fs fh fp NM via fb fu FT,iV e2],[])):
  a7O P0 call n 31 [.ptr 0 0] [Qsl L now k s h p .nils]=some (if e0=0 then if e=0 then .tup [Qto fk fs fh fp NM via fb fu FT,iV e2,bV (e2==261)]else .tup [Qtp,iV e,bV false]else .tup [Qtp,iV e0,bV false],[Qsl L now k s h p (Qqa 44 9 (if e0=0 then o' else none))]):=by
 have d:=Xck c66;have d13:=λ h0 h1=>Xck (c13 h0 h1);by_cases h0:e0=0
 .have c67:=c67 h0
  cases o' with
  |none=>
   have h1:e≠0:=λ h=>by obtain⟨t,h⟩:=he h0 h;cases h
   have b:=Qtj hL c67;clear c66 c67 c13 d13 he ho;unfold Qsl Qou Qpm Qtp Qto Qqa Qtq at*;simp[Tryz.func31,Tryz.f31, *]
  |some t=>
   have hd:dX t:=ho;have b:=Qtk hL c67;clear c66 c67 c13 he ho;unfold Qsl Qpm Qou Qtp Qto Qqa Qtq at*;by_cases h1:e=0<;>simp[Tryz.func31,Tryz.f31, *]
 .clear c66 c67 c13 d13 he ho
  unfold Qsl Qou Qtp Qto Qqa Qtq at*;simp[Tryz.func31,Tryz.f31, *]
theorem Quh(hL:isD L)(hI:Xcd call)(c66:call.cbv 66 [Qtq k s h p] []=some (.tup [Qou a1 b1 c1 d1 y1 f1 g1,iV 0],[]))(c67:call.cbv 67 [.ptr 0 0,Qou a1 b1 c1 d1 y1 f1 g1] [Qsl L now k s h p .nils]=none):a7O P0 call n 31 [.ptr 0 0] [Qsl L now k s h p .nils]=none:=by
 have b:=Qtm hL c67;have d:=Xck c66;clear c67 c66;unfold Qsl Qou Qtq at*;simp[Tryz.func31,Tryz.f31, *]
theorem Qui(hL:isD L)(hF:isD FL)(hT:isD T)(hJA:isD JA)(hJQ:isD JQ)(hJK:isD JK)(ht:dX t)(ht':dX t')(hI:Xcd call)(ht'':dX t'')(hN:isD NM)(hFT:isD FT)
  (c68:call.cbv 68 [Qtq k s h p] []=some (.tup [Qou a1 b1 c1 d1 y1 f1 g1,iV e0],[])) (c67:call.cbv 67 [.ptr 0 0,Qou a1 b1 c1 d1 y1 f1 g1] [Xcl L now k s h p t]=some (.tup [Qpm r0 r1 r2 r3 r4 r5 r6 hm hs FL bd T,iV e],[Xcl L now k s h p t'])) (c36:call.cbv 36 [iV hs] []=some (iV e3,[])) (c37:call.cbv 37 [Qpm r0 r1 r2 r3 r4 r5 r6 hm hs FL bd T] []=some (.tup [Qub jb JA JQ JK,iV e4],[])) (c69:call.cbv 69 [Qub jb JA JQ JK,Qtq k s h p] []=some (.tup [Qou a2 b2 c2 d2 y2 f2 g2,iV e5],[]))
  (c70:e=0->e3=0->e4=0->e5=0->call.cbv 70 [.ptr 0 0,Qou a2 b2 c2 d2 y2 f2 g2] [Xcl L now k s h p t']=some (.tup [Qto fk fs fh fp NM via fb fu FT,iV e6],[Xcl L now k s h p t''])):
  a7O P0 call n 32 [.ptr 0 0] [Xcl L now k s h p t]=some (if e=0 then if e3=0 then if e4=0 then if e5=0 then(.tup [Qto fk fs fh fp NM via fb fu FT,iV e6,bV false],[Xcl L now k s h p t''])else(.tup [Qtp,iV e5,bV false],[Xcl L now k s h p t'])else(.tup [Qtp,iV e4,bV false],[Xcl L now k s h p t'])else(.tup [Qtp,iV e3,bV (e3==261)],[Xcl L now k s h p t'])else(.tup [Qtp,iV e,bV false],[Xcl L now k s h p t'])):=by
 have d1:=Xck c68;have b:=Qtl hL ht c67;have d2:=Xck c36;have d3:=Xck c37;have d4:=Xck c69;have b2:=λ h0 h1 h2 h3=>Qtl hL ht' (c70 h0 h1 h2 h3);clear c68 c67 c36 c37 c69 c70;unfold Xcl Qsl Qpm Qou Qtp Qto Qtq Qub at*;by_cases h0:e=0
 .by_cases h1:e3=0
  .by_cases h2:e4=0
   .by_cases h3:e5=0<;>simp[Tryz.func32,Tryz.f32, *]
   .simp[Tryz.func32,Tryz.f32, *]
  .simp[Tryz.func32,Tryz.f32, *]
 .simp[Tryz.func32,Tryz.f32, *]
theorem Quj(hL:isD L)(ht:dX t)(hI:Xcd call)(c68:call.cbv 68 [Qtq k s h p] []=some (.tup [Qou a1 b1 c1 d1 y1 f1 g1,iV e0],[]))(c67:call.cbv 67 [.ptr 0 0,Qou a1 b1 c1 d1 y1 f1 g1] [Xcl L now k s h p t]=none):a7O P0 call n 32 [.ptr 0 0] [Xcl L now k s h p t]=none:=by
 have b:=Qtn hL ht c67;have d:=Xck c68;clear c67 c68;unfold Xcl Qsl Qou Qtq at*;simp[Tryz.func32,Tryz.f32, *]
theorem Quk(hL:isD L)(hF:isD FL)(hT:isD T)(hJA:isD JA)(hJQ:isD JQ)(hJK:isD JK)(ht:dX t)(ht':dX t')(hI:Xcd call)
  (c68:call.cbv 68 [Qtq k s h p] []=some (.tup [Qou a1 b1 c1 d1 y1 f1 g1,iV e0],[])) (c67:call.cbv 67 [.ptr 0 0,Qou a1 b1 c1 d1 y1 f1 g1] [Xcl L now k s h p t]=some (.tup [Qpm r0 r1 r2 r3 r4 r5 r6 hm hs FL bd T,iV 0],[Xcl L now k s h p t'])) (c36:call.cbv 36 [iV hs] []=some (iV 0,[])) (c37:call.cbv 37 [Qpm r0 r1 r2 r3 r4 r5 r6 hm hs FL bd T] []=some (.tup [Qub jb JA JQ JK,iV 0],[])) (c69:call.cbv 69 [Qub jb JA JQ JK,Qtq k s h p] []=some (.tup [Qou a2 b2 c2 d2 y2 f2 g2,iV 0],[]))
  (c70:call.cbv 70 [.ptr 0 0,Qou a2 b2 c2 d2 y2 f2 g2] [Xcl L now k s h p t']=none):a7O P0 call n 32 [.ptr 0 0] [Xcl L now k s h p t]=none:=by
 have b:=Qtl hL ht c67;have d2:=Xck c36;have d3:=Xck c37;have d4:=Xck c69;have b2:=Qtn hL ht' c70;have d1:=Xck c68;clear c68 c67 c36 c37 c69 c70;unfold Xcl Qsl Qpm Qou Qtq Qub at*;revert d1 d2 d3 d4;intro d1 d2 d3 d4;simp[Tryz.func32,Tryz.f32, *]
theorem Quo(hL:isD L)(hF:isD FL)(hT:isD T)(hLL:isD LL)(ht:dX t)(ht':dX t')(hI:Xcd call)(ht'':dX t'')(hN:isD NM)(hFT:isD FT)
  (c71:call.cbv 71 [Qtq k s h p] []=some (.tup [Qou a1 b1 c1 d1 y1 f1 g1,iV e0],[])) (c67:call.cbv 67 [.ptr 0 0,Qou a1 b1 c1 d1 y1 f1 g1] [Xcl L now k s h p t]=some (.tup [Qpm r0 r1 r2 r3 r4 r5 r6 hm hs FL bd T,iV e],[Xcl L now k s h p t'])) (c72:call.cbv 72 [.agg [iV hm,iV hs,FL],sV Qul] []=some (.tup [sV lk,bV there],[])) (c73:call.cbv 73 [sV lk] []=some (.tup [LL,iV e3],[])) (c74:call.cbv 74 [LL,sV Qum] []=some (.tup [sV tg,bV found],[])) (c75:call.cbv 75 [Qou r0 r1 r2 r3 r4 r5 r6,sV tg] []=some (.tup [Qou a2 b2 c2 d2 y2 f2 g2,iV e4],[]))
  (c70:e=0->there=true/\e3=0/\found=true/\e4=0->call.cbv 70 [.ptr 0 0,Qou a2 b2 c2 d2 y2 f2 g2] [Xcl L now k s h p t']=some (.tup [Qto fk fs fh fp NM via fb fu FT,iV e6],[Xcl L now k s h p t''])):
  a7O P0 call n 33 [.ptr 0 0] [Xcl L now k s h p t]=some (if e=0 then if there=true/\e3=0/\found=true/\e4=0 then(.tup [Qto fk fs fh fp NM via fb fu FT,iV e6,bV false],[Xcl L now k s h p t''])else(.tup [Qtp,iV 261,bV false],[Xcl L now k s h p t'])else(.tup [Qtp,iV e,bV false],[Xcl L now k s h p t'])):=by
 have d1:=Xck c71;have b:=Qtl hL ht c67;have d2:=Xck c72;have d3:=Xck c73;have d4:=Xck c74;have d5:=Xck c75;have b2:=λ h0 h1=>Qtl hL ht' (c70 h0 h1);clear c71 c67 c72 c73 c74 c75 c70;unfold Qul Qum at*;unfold Xcl Qsl Qpm Qou Qtp Qto Qtq at*;by_cases h0:e=0
 .cases there
  .simp[Tryz.func33,Tryz.f33, *]
  .by_cases h1:e3=0
   .cases found
    .simp[Tryz.func33,Tryz.f33, *]
    .by_cases h2:e4=0<;>simp[Tryz.func33,Tryz.f33, *]
   .simp[Tryz.func33,Tryz.f33, *]
 .simp[Tryz.func33,Tryz.f33, *]
theorem Qup(hL:isD L)(ht:dX t)(hI:Xcd call)(c71:call.cbv 71 [Qtq k s h p] []=some (.tup [Qou a1 b1 c1 d1 y1 f1 g1,iV e0],[]))(c67:call.cbv 67 [.ptr 0 0,Qou a1 b1 c1 d1 y1 f1 g1] [Xcl L now k s h p t]=none):a7O P0 call n 33 [.ptr 0 0] [Xcl L now k s h p t]=none:=by
 have b:=Qtn hL ht c67;have d:=Xck c71;clear c67 c71;unfold Xcl Qsl Qou Qtq at*;simp[Tryz.func33,Tryz.f33, *]
theorem Quq(hL:isD L)(hF:isD FL)(hT:isD T)(hLL:isD LL)(ht:dX t)(ht':dX t')(hI:Xcd call)
  (c71:call.cbv 71 [Qtq k s h p] []=some (.tup [Qou a1 b1 c1 d1 y1 f1 g1,iV e0],[])) (c67:call.cbv 67 [.ptr 0 0,Qou a1 b1 c1 d1 y1 f1 g1] [Xcl L now k s h p t]=some (.tup [Qpm r0 r1 r2 r3 r4 r5 r6 hm hs FL bd T,iV 0],[Xcl L now k s h p t'])) (c72:call.cbv 72 [.agg [iV hm,iV hs,FL],sV Qul] []=some (.tup [sV lk,bV true],[])) (c73:call.cbv 73 [sV lk] []=some (.tup [LL,iV 0],[])) (c74:call.cbv 74 [LL,sV Qum] []=some (.tup [sV tg,bV true],[])) (c75:call.cbv 75 [Qou r0 r1 r2 r3 r4 r5 r6,sV tg] []=some (.tup [Qou a2 b2 c2 d2 y2 f2 g2,iV 0],[]))
  (c70:call.cbv 70 [.ptr 0 0,Qou a2 b2 c2 d2 y2 f2 g2] [Xcl L now k s h p t']=none):a7O P0 call n 33 [.ptr 0 0] [Xcl L now k s h p t]=none:=by
 have b:=Qtl hL ht c67;have d2:=Xck c72;have d3:=Xck c73;have d4:=Xck c74;have d5:=Xck c75;have b2:=Qtn hL ht' c70;have d1:=Xck c71;clear c71 c67 c72 c73 c74 c75 c70;unfold Qul Qum at*;unfold Xcl Qsl Qpm Qou Qtq at*;revert d1 d2 d3 d4 d5;intro d1 d2 d3 d4 d5;simp[Tryz.func33,Tryz.f33, *]
end
section
variable {call:PV.Calls} {n:Nat} {L N1 N2 N3 T1 T2 T3:V} {now k p e1 e2 e3 k1 k2 k3 Qjt Qjv p3 v1 v2 v3 u1 u2 u3:Int} {s h s1 s2 s3 h1 h2 h3:ByteArray} {b1 b2 b3:Bool} {t1 t2 t3:List V}
attribute [local simp] iter Qur Qus Qut Quu Quv Quw Qux Tryz.underlying90 Tryz.underlying87 Quz Qva Qvb Qdf Qdg Quy
theorem Qvc(hL:isD L)(hI:Xcd call)(hN1:isD N1)(hT1:isD T1)(he:e1≠0)(c30:call.cbv 30 [Qtq k s h p] []=some (bV true,[]))(c31:call.cbv 31 [.ptr 0 0] [Qsl L now k s h p .nils]=some (.tup [Qto k1 s1 h1 Qjt N1 v1 b1 u1 T1,iV e1,bV false],[Qsl L now k s h p .nils])):
  a7O P0 call (n+4) 11 [L,Qaa now,Qtq k s h p] []=some (.tup [Qto 0 ⟨#[]⟩ ⟨#[]⟩ 0 .nils 0 false 0 .nils,iV e1],[]):=by
 have d:=Xck c30;have x1:=Qtj hL c31;clear c30 c31;unfold Qsl Qtq Qto at*;simp[Tryz.func11,Tryz.f11, *]
theorem Qvd(hL:isD L)(hI:Xcd call)(hN1:isD N1)(hT1:isD T1)(ht1:dX t1)(c30:call.cbv 30 [Qtq k s h p] []=some (bV true,[]))(c31:call.cbv 31 [.ptr 0 0] [Qsl L now k s h p .nils]=some (.tup [Qto k1 s1 h1 Qjt N1 v1 b1 u1 T1,iV e1,bV false],[Xcl L now k s h p t1])):
  a7O P0 call (n+4) 11 [L,Qaa now,Qtq k s h p] []=some (if e1=0 then .tup [Qto k1 s1 h1 Qjt N1 1 b1 u1 (.sl none t1),iV 0]else .tup [Qto 0 ⟨#[]⟩ ⟨#[]⟩ 0 .nils 0 false 0 (.sl none t1),iV e1],[]):=by
 have d:=Xck c30;have x1:=Qtk hL c31;clear c30 c31;unfold Xcl Qsl Qtq Qto at*;by_cases he:e1=0<;>simp[Tryz.func11,Tryz.f11, *]
theorem Qve(hL:isD L)(hI:Xcd call)(hN1:isD N1)(hT1:isD T1)(ht1:dX t1)(hN2:isD N2)(hT2:isD T2)(ht2:dX t2)(c30:call.cbv 30 [Qtq k s h p] []=some (bV true,[]))(c31:call.cbv 31 [.ptr 0 0] [Qsl L now k s h p .nils]=some (.tup [Qto k1 s1 h1 Qjt N1 v1 b1 u1 T1,iV e1,bV true],[Xcl L now k s h p t1]))(c32:call.cbv 32 [.ptr 0 0] [Xcl L now k s h p t1]=some (.tup [Qto k2 s2 h2 Qjv N2 v2 b2 u2 T2,iV e2,bV false],[Xcl L now k s h p t2])):
  a7O P0 call (n+4) 11 [L,Qaa now,Qtq k s h p] []=some (if e2=0 then .tup [Qto k2 s2 h2 Qjv N2 2 b2 u2 (.sl none t2),iV 0]else .tup [Qto 0 ⟨#[]⟩ ⟨#[]⟩ 0 .nils 0 false 0 (.sl none t2),iV e2],[]):=by
 have d:=Xck c30;have x1:=Qtk hL c31;have x2:=Qtl hL ht1 c32;clear c30 c31 c32;unfold Xcl Qsl Qtq Qto at*;by_cases he:e2=0<;>simp[Tryz.func11,Tryz.f11, *]
theorem Qvf(hL:isD L)(hI:Xcd call)(hN1:isD N1)(hT1:isD T1)(ht1:dX t1)(hN2:isD N2)(hT2:isD T2)(ht2:dX t2)(hN3:isD N3)(hT3:isD T3)(ht3:dX t3)(c30:call.cbv 30 [Qtq k s h p] []=some (bV true,[]))(c31:call.cbv 31 [.ptr 0 0] [Qsl L now k s h p .nils]=some (.tup [Qto k1 s1 h1 Qjt N1 v1 b1 u1 T1,iV e1,bV true],[Xcl L now k s h p t1]))(c32:call.cbv 32 [.ptr 0 0] [Xcl L now k s h p t1]=some (.tup [Qto k2 s2 h2 Qjv N2 v2 b2 u2 T2,iV e2,bV true],[Xcl L now k s h p t2]))(c33:call.cbv 33 [.ptr 0 0] [Xcl L now k s h p t2]=some (.tup [Qto k3 s3 h3 p3 N3 v3 b3 u3 T3,iV e3,bV false],[Xcl L now k s h p t3])):
  a7O P0 call (n+4) 11 [L,Qaa now,Qtq k s h p] []=some (if e3=0 then .tup [Qto k3 s3 h3 p3 N3 3 b3 u3 (.sl none t3),iV 0]else .tup [Qto 0 ⟨#[]⟩ ⟨#[]⟩ 0 .nils 0 false 0 (.sl none t3),iV e3],[]):=by
 have d:=Xck c30;have x1:=Qtk hL c31;have x2:=Qtl hL ht1 c32;have x3:=Qtl hL ht2 c33;clear c30 c31 c32 c33;unfold Xcl Qsl Qtq Qto at*;by_cases he:e3=0<;>simp[Tryz.func11,Tryz.f11, *]
theorem Qvg(hL:isD L)(hI:Xcd call)(c30:call.cbv 30 [Qtq k s h p] []=some (bV true,[]))(c31:call.cbv 31 [.ptr 0 0] [Qsl L now k s h p .nils]=none):
  a7O P0 call (n+4) 11 [L,Qaa now,Qtq k s h p] []=none:=by
 have y:=Qtm hL c31;have d:=Xck c30;clear c30 c31;unfold Qsl Qtq at*;simp[Tryz.func11,Tryz.f11, *]
theorem Qvh(hL:isD L)(hI:Xcd call)(hN1:isD N1)(hT1:isD T1)(ht1:dX t1)(c30:call.cbv 30 [Qtq k s h p] []=some (bV true,[]))(c31:call.cbv 31 [.ptr 0 0] [Qsl L now k s h p .nils]=some (.tup [Qto k1 s1 h1 Qjt N1 v1 b1 u1 T1,iV e1,bV true],[Xcl L now k s h p t1]))(c32:call.cbv 32 [.ptr 0 0] [Xcl L now k s h p t1]=none):
  a7O P0 call (n+4) 11 [L,Qaa now,Qtq k s h p] []=none:=by
 have x1:=Qtk hL c31;have y:=Qtn hL ht1 c32;have d:=Xck c30;clear c30 c31 c32;unfold Xcl Qsl Qtq Qto at*;simp[Tryz.func11,Tryz.f11, *]
theorem Qvi(hL:isD L)(hI:Xcd call)(hN1:isD N1)(hT1:isD T1)(ht1:dX t1)(hN2:isD N2)(hT2:isD T2)(ht2:dX t2)(c30:call.cbv 30 [Qtq k s h p] []=some (bV true,[]))(c31:call.cbv 31 [.ptr 0 0] [Qsl L now k s h p .nils]=some (.tup [Qto k1 s1 h1 Qjt N1 v1 b1 u1 T1,iV e1,bV true],[Xcl L now k s h p t1]))(c32:call.cbv 32 [.ptr 0 0] [Xcl L now k s h p t1]=some (.tup [Qto k2 s2 h2 Qjv N2 v2 b2 u2 T2,iV e2,bV true],[Xcl L now k s h p t2]))(c33:call.cbv 33 [.ptr 0 0] [Xcl L now k s h p t2]=none):
  a7O P0 call (n+4) 11 [L,Qaa now,Qtq k s h p] []=none:=by
 have x1:=Qtk hL c31;have x2:=Qtl hL ht1 c32;have y:=Qtn hL ht2 c33;have d:=Xck c30;clear c30 c31 c32 c33;unfold Xcl Qsl Qtq Qto at*;simp[Tryz.func11,Tryz.f11, *]
theorem Qvj(hL:isD L)(hI:Xcd call)(c30:call.cbv 30 [Qtq k s h p] []=some (bV false,[])):a7O P0 call n 11 [L,Qaa now,Qtq k s h p] []=some (.tup [Qtp,iV 8],[]):=by
 have d:=Xck c30;clear c30;unfold Qtp Qto Qtq at*;simp[Tryz.func11,Tryz.f11, *]
end
theorem Xan{n k:Nat}{args:List V}{bs:List (List V)}{r:V×List (List V)}{fn:Func}{c:Code}(hp:a4w k=none)(hf:P0.funcs[k]?=some fn)(hc:fn.body=some c)(hd:Qbx c=true)(hz:max args.length fn.ntmps<=256)
  (h:a7O P0 (a0d P0 a4w inlS n) n k args bs=some r):(a0d P0 a4w inlS (n+1)).cbv k args bs=some r:=by
 unfold a7O at h;simp only[Az0,hf,az1,hc,az3]at h;obtain⟨⟨x,s⟩,h1,h2⟩:=h;simp only[a0d,hp,a1j,Az0,hf,az1,hc,Qby hd];grind
abbrev Xao(k:Int)(s h:ByteArray)(p:Int):List V:=[iV k,sV s,sV h,iV p]
noncomputable def Xar:Code:=match Tryz.f84.body with
 |some (.seq _ (.seq (.seq _ (.block _ (.loop x))) _))=>x
 |_=> .skip
section
variable {call:PV.Calls} {n:Nat} {k p:Int} {s h:ByteArray} {b:Bool} {x:ByteArray}
theorem Xas{f:a7F}{g:G}{nx id:Nat}(hg:g id=some (.var (Xao k s h p)))(hx:id<nx)(hc:f 38 [sV x,.ptr 0 0] [Xao k s h p]=some (bV b,[Xao k s h p])):a1q f g nx 38 [sV x,.ptr id 0]=some {v:=bV b,upd:=[(id,some (.var (Xao k s h p)))]}:=by
 rw[a1q];simp[a0G,Xcv,c3T (b9J c3R),a1x,hg,Xcs,Xcu,a1u,hx,hc,a3y,a2s,PV.a0f,d2Q (d0n (b9J a9t))]
end
section
variable {call:PV.Calls} {n:Nat} {k p:Int} {s h:ByteArray} {b:Bool} {x:ByteArray}
theorem Xat(hI:Xcd call)(c39:call.cbv 39 [sV x,sV s] []=some (bV b,[])):a7O P0 call n 38 [sV x,.ptr 0 0] [Xao k s h p]=some (bV b,[Xao k s h p]):=by
 have d39:=Xck c39;simp[hI,P0,Tryz.func38,Tryz.f38,d39,Xcu]
def Xau(ys:List V)(i:Nat)(k:Int)(s h:ByteArray)(p:Int)(st:St):Prop:=
 st.sz=19/\T.get 8 st.env 0= .sl none ys/\T.get 8 st.env 1= .fn 38 [] [.ptr 0 0]/\T.get 8 st.env 6= .sl none ys/\T.get 8 st.env 7=iV ys.length/\T.get 8 st.env 8=iV i/\a0b st.h 0=some (.var (Xao k s h p))/\st.nx=1
def Xav(k:Int)(s h:ByteArray)(p:Int)(x:Ex)(st:St):Prop:=st.sz=19/\a0b st.h 0=some (.var (Xao k s h p))/\st.nx=1/\((x= .ret/\∃j:Int,T.get 8 st.env 4=iV j)\/x= .exit 0)
theorem Xaw{ys:List V}{i:Nat}{st:St}(hl:Xau ys i k s h p st)(hy:ys[i]?=some (sV x))(hI:Xcd call)(c38:call.cbv 38 [sV x,.ptr 0 0] [Xao k s h p]=some (bV b,[Xao k s h p]))(hlen:ys.length<=10000000):
  ∃y st1,a0K P0 call n Xar st=some (y,st1)/\((b=true/\Xav k s h p y st1/\y= .ret)\/(b=false/\y= .normal/\Xau ys (i+1) k s h p st1)):=by
 obtain⟨e,hh,nx,sz⟩:=st;obtain⟨h1,h2,h3,h6,h7,h8,h0,hx⟩:=hl;simp only at h1 h2 h3 h6 h7 h8 h0 hx;subst h1;subst hx;have hlt:i<ys.length:=(ay0.1 hy).1;have hw:IntKind.i64.wrap ((i:Int)+1)=i+1:=a2h (by omega) (by omega);have hy':ys[i]'hlt=sV x:=(ay0.1 hy).2;have q38:=fun(g1:G) (nx:Nat) hg hlt=>Xas (g:=g1) (nx:=nx) (id:=0) hg hlt c38;unfold Xao at*;cases b with
 |true=>refine⟨.ret,?_⟩;simp[hI,Xar,Tryz.f84,h2,h3,h6,h7,h8,h0,a2f am5,hlt,hy',q38,Xav]
 |false=>refine⟨.normal,?_⟩;simp[hI,Xar,Tryz.f84,h2,h3,h6,h7,h8,h0,a2f am5,hlt,hy',q38,a2V am5,hw,Xau]
theorem Xax{ys:List V}(hI:Xcd call)(hq:∀y∈ys,∃x,y=sV x/\∃b,call.cbv 38 [sV x,.ptr 0 0] [Xao k s h p]=some (bV b,[Xao k s h p]))(hlen:ys.length<=10000000):∀(m i:Nat) (st:St),Xau ys i k s h p st->i<=ys.length->ys.length-i<m->
  ∃x st1,iter (a0K P0 call n Xar) m st=some (x,st1)/\Xav k s h p x st1
 |0,_,_,_,_,hm=>by omega
 |m+1,i,st,hl,hi,hm=>by
  by_cases e:i=ys.length
  .subst e
   obtain⟨e,hh,nx,sz⟩:=st;obtain⟨h1,h2,h3,h6,h7,h8,h0,hx⟩:=hl;simp only at h1 h2 h3 h6 h7 h8 h0 hx;subst h1;subst hx;refine⟨.exit 0,?_⟩;simp[hI,iter,Xar,Tryz.f84,h7,h8,h0,a2f am5,Xav]
  .have hlt:i<ys.length:=by omega
   obtain⟨x,hx,b,c38⟩:=hq _ (au2 hlt);obtain⟨y,st1,h1,h2⟩:=Xaw (n:=n) hl (by rw[At6 hlt,hx]) hI c38 hlen;rcases h2 with⟨_,h2,rfl⟩|⟨_,rfl,h2⟩
   .exact⟨.ret,st1,by simp only[iter,h1],h2⟩
   .obtain⟨x,st2,h3,h4⟩:=Xax hI hq hlen m (i+1) st1 h2 (by omega) (by omega)
    exact⟨x,st2,by simp only[iter,h1];exact h3,h4⟩
theorem Xay{ys:List V}(hI:Xcd call)(hq:∀y∈ys,∃x,y=sV x/\∃b,call.cbv 38 [sV x,.ptr 0 0] [Xao k s h p]=some (bV b,[Xao k s h p]))(hlen:ys.length<=10000000)(hn:ys.length<n):
  ∃j:Int,a7O P0 call n 84 [.sl none ys,.fn 38 [] [.ptr 0 0]] [Xao k s h p]=some (iV j,[Xao k s h p]):=by
 have hX:∃r0 r1 r7,Tryz.f84.body=some (.seq (.region 0 r0 false) (.seq (.seq (.region 1 r1 false) (.block 0 (.loop Xar))) (.seq (.region 7 r7 false) .ret)))/\
   (∃s0 s1,a0K P0 call n (.region 0 r0 false) {env:=a0u [.sl none ys,.fn 38 [] [.ptr 0 0]] 0 .leaf,h:=[(0,some (.var (Xao k s h p)))],nx:=1,sz:=19}=some (.normal,s0)/\a0K P0 call n (.region 1 r1 false) s0=some (.normal,s1)/\Xau ys 0 k s h p s1)/\
   ∀st:St,Xav k s h p (.exit 0) st->∃st1,a0K P0 call n (.seq (.region 7 r7 false) .ret) st=some (.ret,st1)/\Xav k s h p .ret st1:=by
  refine⟨_,_,_,rfl,?_,?_⟩
  .simp[Xau]
  .rintro⟨e,hh,nx,sz⟩ ⟨h1,h2,h3,_⟩
   simp only at h1 h2 h3;subst h1;subst h3;simp[Xav,h2]
 obtain⟨r0,r1,r7,hb,⟨s0,s1,a0,a1,hl⟩,h7⟩:=hX;obtain⟨x,st1,h1,h2⟩:=Xax (n:=n) hI hq hlen n 0 s1 hl (by omega) (by omega);have fin:∃st2,a0K P0 call n (.seq (.region 0 r0 false) (.seq (.seq (.region 1 r1 false) (.block 0 (.loop Xar))) (.seq (.region 7 r7 false) .ret))) {env:=a0u [.sl none ys,.fn 38 [] [.ptr 0 0]] 0 .leaf,h:=[(0,some (.var (Xao k s h p)))],nx:=1,sz:=19}=some (.ret,st2)/\Xav k s h p .ret st2:=by
  rw[Qmi a0];rcases h2.2.2.2 with⟨rfl,hj⟩|rfl
  .exact⟨st1,by rw[a0K,Qmi a1];simp only[a0K,h1],h2⟩
  .obtain⟨st2,k1,k2⟩:=h7 st1 h2
   exact⟨st2,by rw[a0K,Qmi a1,Qmj h1];exact k1,k2⟩
 obtain⟨st2,f1,f2⟩:=fin;obtain⟨g1,g2,g3,g4⟩:=f2;obtain⟨j,g4⟩:∃j:Int,T.get 8 st2.env 4=iV j:=by
  rcases g4 with⟨_,h⟩|h
  .exact h
  .cases h
 have hm:max (0+1+1) Tryz.f84.ntmps=19:=by simp[hI,Tryz.f84]
 have hbx:a0w 0 ([],0+1) [Xao k s h p]=([(0,some (.var (Xao k s h p)))],1):=by simp
 refine⟨j,?_⟩;unfold a7O;simp only[Az0,show P0.funcs[84]?=some Tryz.f84 from Tryz.func84,az1,hb,an0,List.length_nil,hbx,hm,f1];have hr:a0m P0 Tryz.f84 st2=some (iV j):=by simp[hI,a0m,Tryz.f84,a0D,St.get,g4]
 simp only[hr,az1,b1O (k:=84) (by rfl) (d0n (b9J a6N))];simp[a0G,a1x,g2,a1u,Xcu]
theorem Xaz(hn:0<n):a7O P0 call n 84 [.nils,.fn 38 [] [.ptr 0 0]] [Xao k s h p]=some (iV (-1),[Xao k s h p]):=by
 obtain⟨n,rfl⟩:∃m,n=m+1:=⟨n-1,by omega⟩;have r0:∀(g:G) (nx:Nat),a5t 84 g nx (iV (-1))=some (iV (-1),[],[]):=λ g nx=>b1O (by rfl) (d0n (b9J a6N));simp[Tryz.func84,Tryz.f84,iter,r0,a2f am5]
theorem Xba{f:a7F}{g:G}{nx id q:Nat}{v:V}{A:V}(hA:isD A)(hv:isD v)(hg:g id=some (.var (Xao k s h p)))(hx:id<nx)(hc:f q [A,.fn 38 [] [.ptr 0 0]] [Xao k s h p]=some (v,[Xao k s h p])):a1q f g nx q [A,.fn 38 [] [.ptr id 0]]=some {v:=v,upd:=[(id,some (.var (Xao k s h p)))]}:=by
 have e:a0G (a1y 4 g) ([],[]) [A,.fn 38 [] [.ptr id 0]]=some ([A,.fn 38 [] [.ptr 0 0]],[],[id]):=by
  rw[a0G,c3T (b9J hA)];simp[a0G,a1y]
 rw[a1q,e];simp[a0G,a1x,hg,Xcs,Xcu,a1u,hx,hc,a3y,a2s,PV.a0f,d2Q (d0n (b9J hv))]
theorem Xbb{A:V}{j:Int}(hA:isD A)(hI:Xcd call)(c84:call.cbv 84 [A,.fn 38 [] [.ptr 0 0]] [Xao k s h p]=some (iV j,[Xao k s h p])):∃b,a7O P0 call n 40 [A,.fn 38 [] [.ptr 0 0]] [Xao k s h p]=some (bV b,[Xao k s h p]):=by
 have d84:=fun(g1:G) (nx:Nat) hg hx=>Xba (g:=g1) (nx:=nx) (id:=0) hA a6N hg hx c84;have l1:=hA.ok;refine⟨decide (j>=0),?_⟩;simp[hI,P0,Tryz.func40,Tryz.f40,d84,l1,a7V am5,Xcu]
end
section
variable {call:PV.Calls} {n:Nat} {r0:ByteArray} {r1:Int} {r2 r3 r4:ByteArray} {r5 r6:Bool} {hm hs:Int} {FL:V} {bd:ByteArray} {T:V}
theorem Xbo{ct ma mb vs jb:ByteArray}{ok q:Bool}{ML VK VI JA JQ JK:V}{e vk n1 e2 e3:Int}(hF:isD FL)(hT:isD T)(hML:isD ML)(hVK:isD VK)(hVI:isD VI)(hJA:isD JA)(hJQ:isD JQ)(hJK:isD JK)
  (hI:Xcd call)
  (c72:call.cbv 72 [.agg [iV hm,iV hs,FL],sV Xbc] []=some (.tup [sV ct,bV ok],[]))
  (c80:call.cbv 80 [sV ct] []=some (.tup [.agg [sV ma,sV mb,ML],iV e],[]))
  (c81:call.cbv 81 [.agg [sV ma,sV mb,ML]] []=some (bV q,[]))
  (c82:call.cbv 82 [sV bd] []=some (.tup [.agg [iV vk,sV vs,VK,VI],iV n1,iV e2],[]))
  (c83:call.cbv 83 [.agg [iV vk,sV vs,VK,VI]] []=some (.tup [Qub jb JA JQ JK,iV e3],[])):
  a7O P0 call n 37 [Qpm r0 r1 r2 r3 r4 r5 r6 hm hs FL bd T] []=some (.tup (if ok=true/\e=0/\q=true then if e2=0 then [Qub jb JA JQ JK,iV e3]else [Xbn,iV e2]else [Xbn,iV 200]),[]):=by
 have pM:pD (.agg [sV ma,sV mb,ML]):=c4A (all_cons c3R (all_cons c3R (all_cons hML d2G)));have pV:pD (.agg [iV vk,sV vs,VK,VI]):=c4A (all_cons a6N (all_cons c3R (all_cons hVK (all_cons hVI d2G))));have d1:=Xck c72 (all_cons (Qun hF) (all_cons (b9J c3R) d2G));have d2:=Xck c80;have d3:=Xck c81;have d4:=Xck c82;have d5:=Xck c83;clear c72 c80 c81 c82 c83;unfold Qpm Xbn Xbc Qub at*;cases ok
 .simp[Tryz.func37,Tryz.f37, *]
 .by_cases x2:e=0
  .cases q
   .simp[Tryz.func37,Tryz.f37, *]
   .by_cases x4:e2=0<;>simp[Tryz.func37,Tryz.f37, *]
  .simp[Tryz.func37,Tryz.f37, *]
theorem Xbp{k p:Int}{s h jb:ByteArray}{q q2 fb:Bool}{JA JQ JK NM:V}{e3 e4 fu:Int}(hF:isD FL)(hT:isD T)(hJA:isD JA)(hJQ:isD JQ)(hJK:isD JK)(hN:isD NM)
  (hI:Xcd call)
  (c36:call.cbv 36 [iV hs] []=some (iV e3,[]))
  (c37:call.cbv 37 [Qpm r0 r1 r2 r3 r4 r5 r6 hm hs FL bd T] []=some (.tup [Qub jb JA JQ JK,iV e4],[]))
  (c38:call.cbv 38 [sV jb,.ptr 0 0] [Xao k s h p]=some (bV q,[Xao k s h p]))
  (c40:call.cbv 40 [JA,.fn 38 [] [.ptr 0 0]] [Xao k s h p]=some (bV q2,[Xao k s h p]))
  (c41:call.cbv 41 [Qub jb JA JQ JK,Qtq k s h p] []=some (NM,[]))
  (c42:call.cbv 42 [.agg [iV hm,iV hs,FL]] []=some (.agg [bV fb,Qaa fu],[])):
  a7O P0 call n 13 [Qpm r0 r1 r2 r3 r4 r5 r6 hm hs FL bd T,Qtq k s h p] []=some (.tup (if e3=0 then if e4=0 then if q=true\/q2=true then [Qto k s h p NM 0 fb fu .nils,iV 0]else [Qtp,iV 270]else [Qtp,iV e4]else [Qtp,iV e3]),[]):=by
 have d1:=Xck c36;have d2:=Xck c37;have d3:=fun(g1:G) (nx id:Nat) hg hx=>Xas (g:=g1) (nx:=nx) (id:=id) hg hx c38;have d4:=fun(g1:G) (nx id:Nat) hg hx=>Xba (g:=g1) (nx:=nx) (id:=id) hJA a9t hg hx c40;have d5:=Xck c41;have d6:=Xck c42 (all_cons (Qun hF) d2G);clear c36 c37 c38 c40 c41 c42;unfold Qpm Qtp Qto Qtq Qub Xao at*;by_cases x1:e3=0
 .by_cases x2:e4=0
  .cases q
   .cases q2<;>simp[Tryz.func13,Tryz.f13, *]
   .simp[Tryz.func13,Tryz.f13, *]
  .simp[Tryz.func13,Tryz.f13, *]
 .simp[Tryz.func13,Tryz.f13, *]
end
section
variable {call:PV.Calls} {n:Nat} {sv l:V} {now k p:Int} {s ids h:ByteArray}
attribute [local simp] Qot Qxl d9L Qmf Qmc
theorem Qxm(hs:isD sv)(hl:isD l)(hI:Xcd call)(c8:call.cbv 8 [] []=some (bV true,[]))(c9:call.cbv 9 [sv] []=some (.tup [sV s,l],[]))(c10:call.cbv 10 [sV s] []=some (.tup [Qtq 4 ids h p,iV 0],[])):
  a7O P0 call n 3 [sv,Qaa now] []=some (bV true,[]):=by
 have d1:=Xck c8;have d2:=Xck c9;have d3:=Xck c10;clear c8 c9 c10;unfold Qtq at*;simp[Tryz.func3,Tryz.f3, *]
theorem Qxn{o:Option (List V)}{e:Int}(hk:k≠4)(he:e≠0)(hs:isD sv)(hl:isD l)(hI:Xcd call)(c8:call.cbv 8 [] []=some (bV true,[]))(c9:call.cbv 9 [sv] []=some (.tup [sV s,l],[]))(c10:call.cbv 10 [sV s] []=some (.tup [Qtq k ids h p,iV 0],[]))
  (c11:call.cbv 11 [l,Qaa now,Qtq k ids h p] []=some (.tup [Qto 0 ⟨#[]⟩ ⟨#[]⟩ 0 .nils 0 false 0 (Xcp o),iV e],[])):
  a7O P0 call n 3 [sv,Qaa now] []=some (bV true,[]):=by
 have d1:=Xck c8;have d2:=Xck c9;have d4:=Xck c11;have k1:=Xcr (o:=o);have d3:=Xck c10;clear c8 c9 c10 c11;unfold Qtq Qto at*;simp[Tryz.func3,Tryz.f3,Qtq, *]
theorem Qxo{fk:Int}{fs fh:ByteArray}{fp:Int}{NM:V}{via j:Int}{fb:Bool}{fu:Int}{FT:V}{tr0:List V}{a:ByteArray}{b:Int}{c d:ByteArray}{f:Bool}{st:Int}{r0:ByteArray}{r1:Int}{r2 r3 r4:ByteArray}{r5 r6:Bool}{hm hs':Int}{FL:V}{bd:ByteArray}{T:V}(hk:k≠4)(hlen:tr0.length<=1000)(htr:dX tr0)(h1:1<=j)(h3:j<=3)(hs:isD sv)(hl:isD l)(hN:isD NM)(hFT:isD FT)(hFL:isD FL)(hT:isD T)(hI:Xcd call)
  (c8:call.cbv 8 [] []=some (bV true,[])) (c9:call.cbv 9 [sv] []=some (.tup [sV s,l],[])) (c10:call.cbv 10 [sV s] []=some (.tup [Qtq k ids h p,iV 0],[]))
  (c11:call.cbv 11 [l,Qaa now,Qtq k ids h p] []=some (.tup [Qto fk fs fh fp NM j fb fu (.sl none (tr0++[Qmc a b c d ⟨#[]⟩ f false st 0])),iV 0],[]))
  (c12:call.cbv 12 [l,Qaa now,Qou a b c d ⟨#[]⟩ f false] []=some (.tup [Qpm r0 r1 r2 r3 r4 r5 r6 hm hs' FL bd T,iV 0],[]))
  (c13:call.cbv 13 [Qpm r0 r1 r2 r3 r4 r5 r6 hm hs' FL bd T,Qtq k ids h p] []=some (.tup [Qto fk fs fh fp NM via fb fu FT,iV 0],[]))
  (c14:call.cbv 14 [NM,NM] []=some (bV true,[])):
  a7O P0 call n 3 [sv,Qaa now] []=some (bV true,[]):=by
 have d1:=Xck c8;have d2:=Xck c9;have d3:=Xck c10;have d4:=Xck c11;have d5:=Xck c12;have d6:=Xck c13;have d7:=Xck c14;have hw:IntKind.i64.wrap (tr0.length:Int)=tr0.length:=a2h (by omega) (by omega);clear c8 c9 c10 c11 c12 c13 c14;unfold Qtq Qto Qpm Qou at*;simp[Tryz.func3,Tryz.f3,c5s am5,a7V am5,Xde am5, *]
end
section
attribute [local simp] Qxy Xco
def Qxw(D:V):Prop:=D= .nils\/∃ys,D= .sl none ys/\∀y∈ys,∃m,y= .lit (.int .u8 m)/\0<=m/\m<=255
theorem Qxw.d{D:V}(h:Qxw D):isD D:=by
 rcases h with rfl|⟨ys,rfl,_⟩
 .exact a6n
 .exact b4K
theorem Qxx{v:V}:bk [v]=false:=by cases v<;>rfl
section
variable {call:PV.Calls} {fu:Nat}
theorem Qyf{D:V}{n:Int}(hD:Qxw D)(hn:1<=n):∃j D',Qxw D'/\0<=j/\j<n/\a7O P0 call fu 60 [.ptr 0 0,iV n] [[D]]=some (iV j,[[D']]):=by
 have l1:=fun(g1:G) w=>Qpn hD.d (g:=g1) (w:=w);have l5:=hD.d.2.1;have l6:=hD.d.2.2.2.2.2.2.1;have l0:=hD.d.ok;have z:∀D2,Qxw D2->(D2= .nils\/D2= .sl none []\/n<=1)->∃j D',Qxw D'/\0<=j/\j<n/\a7O P0 call fu 60 [.ptr 0 0,iV n] [[D2]]=some (iV j,[[D']]):=λ D2 h2 h=>by
  refine⟨0,D2,h2,by omega,by omega,?_⟩;rcases h with rfl|rfl|h
  .simp[Tryz.func60,Tryz.f60,Xde am5]
  .simp[Tryz.func60,Tryz.f60,Xde am5]
  .rcases h2 with rfl|⟨ys,rfl,_⟩
   .simp[Tryz.func60,Tryz.f60,Xde am5]
   .cases ys with
    |nil=>simp[Tryz.func60,Tryz.f60,Xde am5]
    |cons y r=>
     have hl:¬((r.length:Int)+1=0):=by omega
     simp[Tryz.func60,Tryz.f60,Xde am5,h,hl]
 by_cases h1:n<=1
 .exact z D hD (.inr (.inr h1))
 have hD2:=hD;rcases hD with rfl|⟨ys,rfl,hy⟩
 .exact z _ hD2 (.inl rfl)
 .cases ys with
  |nil=>exact z _ hD2 (.inr (.inl rfl))
  |cons y r=>
   obtain⟨m,rfl,m0,m1⟩:=hy y (ay1 ..);have hc:=Qcb m0 m1;have hr:=fun(x y:Operand)=>Qca (x:=x) (y:=y) (k:= .i64) (a:=m) (b:=n) am5 (by omega);refine⟨m.tmod n,.sl none r,.inr ⟨r,rfl,λ z hz=>hy z (az9 _ hz)⟩,Int.tmod_nonneg _ m0,Int.tmod_lt_of_pos _ (by omega),?_⟩;have hl:¬((r.length:Int)+1=0):=by omega
   have hfs:b2C 1 (.lit (.int .u8 m)::r)=true:=by simp[b2C,Xct]
   simp[Tryz.func60,Tryz.f60,Xde am5,h1,hc,hr,hl,a3d,hfs,Qxx]
theorem Qyg{f:a7F}{q:Nat}{D D' v:V}{xs:List V}(hD:isD D)(hD':isD D')(hc:f q (.ptr 0 0::xs) [[D]]=some (v,[[D']]))(hx:∀x∈xs,pD x:=by simp[*])(hv:rD v:=by simp[*])(g:G)(nx id:Nat)(hg:g id=some (.var [D]))(hlt:id<nx):
  a1q f g nx q (.ptr id 0::xs)=some {v:=v,upd:=[(id,some (.var [D']))]}:=by
 have l1:=hD.2.2.2.2.1;have l2:=hD.2.2.2.2.2.1;have l4:=λ w=>Qpn hD (g:=g) (w:=w);have l5:=hD'.2.1;have l6:=hD'.2.2.2.2.2.2.1;rw[a1q,Qte hx];simp[a0G,a1x,hg,l1,l2,l4,a1u,hlt,hc,a2s,PV.a0f,l5,l6,a3y,d2Q hv]
theorem Qyh{f:a7F}{q n:Nat}{D D' v:V}{xs:List V}(hD:isD D)(hD':isD D')(hxs:dX xs)(hn:n=xs.length)(hc:f q [.ptr 0 0,.sl none xs] [[D]]=some (v,[[D']]))(hv:rD v:=by simp[*])(g:G)(nx id i:Nat)(hg:g id=some (.var [D]))(hr:g i=some (.row 9 1 xs false))(hlt:id<nx):
  a1q f g nx q [.ptr id 0,.row i 1 0 n]=some {v:=v,upd:=[(id,some (.var [D'])),(i,some (.row 9 1 xs true))]}:=by
 have l1:=hD.2.2.2.2.1;have l2:=hD.2.2.2.2.2.1;have l4:=λ w=>Qpn hD (g:=g) (w:=w);have l5:=hD'.2.1;have l6:=hD'.2.2.2.2.2.2.1;rw[a1q];simp[a0G,Xcv,Xcw hr hn hxs,a1x,hg,hr,l1,l2,l4,a1u,hlt,hc,a2s,PV.a0f,l5,l6,a3y,d2Q hv]
theorem Qyi{D D':V}{xs:List V}{i:Nat}{x:ByteArray}(hD:isD D)(hD':isD D')(hI:Xcd call)(c60:call.cbv 60 [.ptr 0 0,iV xs.length] [[D]]=some (iV i,[[D']]))(hx:xs[i]?=some (sV x)):
  a7O P0 call fu 116 [.ptr 0 0,.sl none xs] [[D]]=some (sV x,[[D']]):=by
 have d:=Qyg hD hD' c60;have hlt:i<xs.length:=(ay0.1 hx).1;have hx':xs[i]'hlt=sV x:=(ay0.1 hx).2;simp[Tryz.func116,Tryz.f116, *]
theorem Qyk{l:List ByteArray}:dX (l.map sV):=λ y hy=>by
 obtain⟨s,_,rfl⟩:=ax5.1 hy;exact b9J c3R
theorem Qyl{D D':V}{x:ByteArray}(hD:isD D)(hD':isD D')(hI:Xcd call)(c116:call.cbv 116 [.ptr 0 0,.sl none (Qyj.map sV)] [[D]]=some (sV x,[[D']])):
  a7O P0 call fu 131 [.ptr 0 0] [[D]]=some (sV x,[[D']]):=by
 have d:=Qyh (n:=4) hD hD' Qyk rfl c116;unfold Qyj at*;simp only[av2,ar8]at d;simp[Tryz.func131,Tryz.f131, *]
end
section
variable {call:PV.Calls} {fu:Nat}
theorem Qzb{D D1 D2 D3 D4 D5:V}{h x1 x2 x3:ByteArray}{j:Int}(hD:isD D)(hD1:isD D1)(hD2:isD D2)(hD3:isD D3)(hD4:isD D4)(hD5:isD D5)(zh:h.size<=100)(zx1:x1.size<=100)(zx2:x2.size<=100)(zx3:x3.size<=100)(hI:Xcd call)(c131:call.cbv 131 [.ptr 0 0] [[D]]=some (sV h,[[D1]]))(c60:call.cbv 60 [.ptr 0 0,iV 6] [[D1]]=some (iV j,[[D2]]))(hj:j=0\/j=1)
  (c1:call.cbv 116 [.ptr 0 0,.sl none (Qyn.map sV)] [[D2]]=some (sV x1,[[D3]]))
  (c2:call.cbv 116 [.ptr 0 0,.sl none (Qyo.map sV)] [[D3]]=some (sV x2,[[D4]]))
  (c3:call.cbv 116 [.ptr 0 0,.sl none (Qyp.map sV)] [[D4]]=some (sV x3,[[D5]]))
  :a7O P0 call fu 59 [.ptr 0 0] [[D]]=some (sV (x1++x2++Qyu++x3),[[D5]]):=by
 have e1:=Qyg hD hD1 c131;have e2:=Qyg hD1 hD2 c60;have d1:=Qyh (n:=2) hD2 hD3 Qyk rfl c1;have d2:=Qyh (n:=4) hD3 hD4 Qyk rfl c2;have d3:=Qyh (n:=3) hD4 hD5 Qyk rfl c3;have q1:=Xcn zx1 zx2;have q2:=Xcn q1.2 (ay3 (Qyu.size));have Xbt:=Xcn q2.2 zx3;simp only[av2,ar8,Qyn,Qyo,Qyp]at d1 d2 d3;clear c131 c60 c1 c2 c3;unfold Qyu at*;rcases hj with rfl|rfl<;>simp[Tryz.func59,Tryz.f59, *]
theorem Qzc{D D1 D2 D3 D4:V}{h x1 x2:ByteArray}{j:Int}(hD:isD D)(hD1:isD D1)(hD2:isD D2)(hD3:isD D3)(hD4:isD D4)(zh:h.size<=100)(zx1:x1.size<=100)(zx2:x2.size<=100)(hI:Xcd call)(c131:call.cbv 131 [.ptr 0 0] [[D]]=some (sV h,[[D1]]))(c60:call.cbv 60 [.ptr 0 0,iV 6] [[D1]]=some (iV j,[[D2]]))(hj:j=2)
  (c1:call.cbv 116 [.ptr 0 0,.sl none (Qyq.map sV)] [[D2]]=some (sV x1,[[D3]]))
  (c2:call.cbv 116 [.ptr 0 0,.sl none (Qyr.map sV)] [[D3]]=some (sV x2,[[D4]]))
  :a7O P0 call fu 59 [.ptr 0 0] [[D]]=some (sV (Qyv++x1++Qyu++x2),[[D4]]):=by
 have e1:=Qyg hD hD1 c131;have e2:=Qyg hD1 hD2 c60;have d1:=Qyh (n:=3) hD2 hD3 Qyk rfl c1;have d2:=Qyh (n:=2) hD3 hD4 Qyk rfl c2;have q1:=Xcn (ay3 (Qyv.size)) zx1;have q2:=Xcn q1.2 (ay3 (Qyu.size));have Xbt:=Xcn q2.2 zx2;simp only[av2,ar8,Qyq,Qyr]at d1 d2;clear c131 c60 c1 c2;unfold Qyu Qyv at*;simp[Tryz.func59,Tryz.f59, *]
theorem Qzd{D D1 D2 D3:V}{h x1:ByteArray}{j:Int}(hD:isD D)(hD1:isD D1)(hD2:isD D2)(hD3:isD D3)(zh:h.size<=100)(zx1:x1.size<=100)(hI:Xcd call)(c131:call.cbv 131 [.ptr 0 0] [[D]]=some (sV h,[[D1]]))(c60:call.cbv 60 [.ptr 0 0,iV 6] [[D1]]=some (iV j,[[D2]]))(hj:j=3)
  (c1:call.cbv 116 [.ptr 0 0,.sl none (Qys.map sV)] [[D2]]=some (sV x1,[[D3]]))
  :a7O P0 call fu 59 [.ptr 0 0] [[D]]=some (sV (Qyw++h++x1),[[D3]]):=by
 have e1:=Qyg hD hD1 c131;have e2:=Qyg hD1 hD2 c60;have d1:=Qyh (n:=5) hD2 hD3 Qyk rfl c1;have q1:=Xcn (ay3 (Qyw.size)) zh;have q2:=Xcn q1.2 zx1;simp only[av2,ar8,Qys]at d1;clear c131 c60 c1;unfold Qyw at*;simp[Tryz.func59,Tryz.f59, *]
theorem Qze{D D1 D2 D3:V}{h x1:ByteArray}{j:Int}(hD:isD D)(hD1:isD D1)(hD2:isD D2)(hD3:isD D3)(zh:h.size<=100)(zx1:x1.size<=100)(hI:Xcd call)(c131:call.cbv 131 [.ptr 0 0] [[D]]=some (sV h,[[D1]]))(c60:call.cbv 60 [.ptr 0 0,iV 6] [[D1]]=some (iV j,[[D2]]))(h0:j≠0)(h1:j≠1)(h2:j≠2)(h3:j≠3)
  (c1:call.cbv 116 [.ptr 0 0,.sl none (Qyt.map sV)] [[D2]]=some (sV x1,[[D3]]))
  :a7O P0 call fu 59 [.ptr 0 0] [[D]]=some (sV (Qyx++(if h.toList=Qyz then Qyy else h)++x1),[[D3]]):=by
 have e1:=Qyg hD hD1 c131;have e2:=Qyg hD1 hD2 c60;have d1:=Qyh (n:=4) hD2 hD3 Qyk rfl c1;have q1x:=Xcn (ay3 (Qyx.size)) (ay3 (Qyy.size));have q2x:=Xcn q1x.2 zx1;have q1:=Xcn (ay3 (Qyx.size)) zh;have q2:=Xcn q1.2 zx1;simp only[av2,ar8,Qyt]at d1;clear c131 c60 c1;unfold Qyx Qyz Qyy at*;by_cases hb:h.toList=[99,46,101,120,97,109,112,108,101,58,56,52,52,51]<;>simp[Tryz.func59,Tryz.f59, *]
end
end
end
def Qqk:List TD:=[.str 65536,kI,.str 65536,.str 65536,.str 65536,.bool,.bool]
def Qql(u:V):Prop:=InD g0 N0 (.agg Qqk) u
def Qqm:List TD:=[kI,kI,.sl false 64 (.agg [.str 16378,.str 16378])]
def Qqn:Sh->TD->Bool
 | .td d',d=>d'.le d
 | .lit (.string b),.str hi=>decide ((b.size:Int)<=hi)
 | .lit (.bool _),.bool=>true
 | .lit (.int k n),.int k' lo hi=>k==k'&&decide (lo<=n)&&decide (n<=hi)
 | .nils,.sl _ hi _=>decide (0<=hi)
 |_,_=>false
theorem Qqo{s:Sh}{d:TD}{v:V}(h:ShOk s v)(hc:Qqn s d=true):InD g0 N0 d v:=by
 cases h with
 |td h=>exact h.le hc
 |nils=>
  cases d with
  |sl _ hi _=>exact .nils (by simpa[Qqn]using hc)
  |_=>simp[Qqn]at hc
 | @lit w=>
   cases w with
   |string b=>
    cases d with
    |str hi=>exact .str (by simpa[Qqn]using hc)
    |_=>simp[Qqn]at hc
   |bool b=>
    cases d with
    |bool=>exact .bool
    |_=>simp[Qqn]at hc
   |int k n=>
    cases d with
    |int k' lo hi=>
     simp only[Qqn,az6,aw5,ay2]at hc;obtain⟨⟨rfl,h1⟩,h2⟩:=hc;exact .int h1 h2
    |_=>simp[Qqn]at hc
   |_=>cases d<;>simp[Qqn]at hc
 |_=>cases d<;>simp[Qqn]at hc
theorem Qqp{l:List Sh}{ds:List TD}{v:V}(h:ShOk (.agg l) v)(hl:l.length=ds.length)(hc:(l.zip ds).all (λ p=>Qqn p.1 p.2)=true):InD g0 N0 (.agg ds) v:=by
 cases h with
 |agg h1 h2=>
  refine .agg (by omega) λ j d c hd hcj=> ?_;have hj:j<l.length:=by have:=(ay0.1 hd).1;omega
  refine Qqo (h2 j l[j] c (At6 hj) hcj) ?_;have:(l[j],d)∈l.zip ds:=ax4 (i:=j) (by rw[List.getElem?_zip_eq_some];exact⟨At6 hj,hd⟩);exact ay5.1 hc _ this
theorem Qqq{l:List TD}{v:V}(h:InD g0 N0 (.agg l) v):ShOk (.agg (l.map .td)) v:=by
 cases h with
 |agg h1 h2=>
  refine .agg (by simpa using h1) λ j s c hs hc=> ?_;rw[au3,az2]at hs;obtain⟨d,hd,rfl⟩:=hs;exact .td (h2 j d c hd hc)
theorem Qqr{a b:Sh}{r:V}(h:ShOk (.tup [a,b]) r):∃x y,r= .tup [x,y]/\ShOk a x/\ShOk b y:=by
 cases h with
 | @tup _ cs h1 h3=>
   match cs,h1 with
   |[x,y],_=>exact⟨x,y,rfl,h3 0 _ x rfl rfl,h3 1 _ y rfl rfl⟩
theorem Qqs{a b c:Sh}{r:V}(h:ShOk (.tup [a,b,c]) r):∃x y z,r= .tup [x,y,z]/\ShOk a x/\ShOk b y/\ShOk c z:=by
 cases h with
 | @tup _ cs h1 h3=>
   match cs,h1 with
   |[x,y,z],_=>exact⟨x,y,z,rfl,h3 0 _ x rfl rfl,h3 1 _ y rfl rfl,h3 2 _ z rfl rfl⟩
theorem Qqt{k:IntKind}{lo hi:Int}{v:V}(h:ShOk (.td (.int k lo hi)) v):∃n,v= .lit (.int k n)/\lo<=n/\n<=hi:=by
 cases h with|td h=>cases h with|int a b=>exact⟨_,rfl,a,b⟩
theorem Qqu{v:V}(h:ShOk (.td .bool) v):∃b,v=bV b:=by
 cases h with|td h=>cases h with|bool=>exact⟨_,rfl⟩
theorem Qql.L{u:V}(h:Qql u):Qov u:=by
 unfold Qql Qqk at h;cases h with
 | @agg _ _ _ cs h1 h2=>
   match cs,h1 with
   |[c0,c1,c2,c3,c4,c5,c6],_=>
    have m0:=h2 0 _ c0 rfl rfl;have m1:=h2 1 _ c1 rfl rfl;have m2:=h2 2 _ c2 rfl rfl;have m3:=h2 3 _ c3 rfl rfl;have m4:=h2 4 _ c4 rfl rfl;have m5:=h2 5 _ c5 rfl rfl;have m6:=h2 6 _ c6 rfl rfl;cases m0 with|str _=>cases m1 with|int _ _=>cases m2 with|str _=>cases m3 with|str _=>cases m4 with|str _=>cases m5 with|bool=>cases m6 with|bool=>
    exact⟨_,_,_,_,_,_,_,rfl⟩
theorem Qql.U{u:V}(h:Qql u):Qnt u:=by
 have:InD g0 N0 (.agg Qns) u:=InD.le h (by decide);exact Qqq this
def Qqv(hi:Int):TD:= .sl false hi (.agg Qqk)
theorem Qqw{L u:V}{now:Int}(hL:InD g0 N0 (.sl false 1048576 Qne) L)(hn:0<=now/\now<=18446744073709551615)(hu:Qql u):
  ∃a b c d e f g hm hs FL bd st er,Qnd 56 [L,Qaa now,u] (.tup [Qpm a b c d e f g hm hs FL bd .nils,iV st,iV er])/\InD g0 N0 (.agg Qqm) (.agg [iV hm,iV hs,FL])/\ -9223372036854775808<=st/\st<=9223372036854775807/\isD FL:=by
 obtain⟨v,h1,s,hs,h2⟩:=Qng (Qnh (i:=347) (k:=56) (by omega) rfl) (xs:=[.cell (.sl false 1073741824 Qne),.cell kU,.agg Qns]) (ps:=[.tup [.agg [.td (.str 1073741824),.td kI,.td (.str 1073741824),.td (.str 1073741824),.td (.str 1073741824),.td .bool,.td .bool,.td kI,.td kI,.td (.sl false 64 (.agg [.str 16378,.str 16378])),.td (.str 1073741824),.nils],.td kI,.td kI]]) (by decide +kernel) (vs:=[L,Qaa now,u])
  (ShL.cons.2 ⟨.td (hL.le (by decide)),ShL.cons.2 ⟨.td (.int hn.1 hn.2),ShL.cons.2 ⟨hu.U,ShL.nil⟩⟩⟩)
 rw[az7.1 hs]at h2;obtain⟨x,y,z,rfl,k1,k2,k3⟩:=Qqs h2;obtain⟨st,rfl,_,_⟩:=Qqt k2;obtain⟨er,rfl,_,_⟩:=Qqt k3;cases k1 with
 | @agg _ cs e1 e2=>
   match cs,e1 with
   |[c0,c1,c2,c3,c4,c5,c6,c7,c8,c9,c10,c11],_=>
    have m0:=e2 0 _ c0 rfl rfl;have m1:=e2 1 _ c1 rfl rfl;have m2:=e2 2 _ c2 rfl rfl;have m3:=e2 3 _ c3 rfl rfl;have m4:=e2 4 _ c4 rfl rfl;have m5:=e2 5 _ c5 rfl rfl;have m6:=e2 6 _ c6 rfl rfl;have m7:=e2 7 _ c7 rfl rfl;have m8:=e2 8 _ c8 rfl rfl;have m9:=e2 9 _ c9 rfl rfl;have m10:=e2 10 _ c10 rfl rfl;have m11:=e2 11 _ c11 rfl rfl;cases m0 with|td m0=>cases m0 with|str _=>cases m1 with|td m1=>cases m1 with|int _ _=>cases m2 with|td m2=>cases m2 with|str _=>cases m3 with|td m3=>cases m3 with|str _=>cases m4 with|td m4=>cases m4 with|str _=>cases m5 with|td m5=>cases m5 with|bool=>cases m6 with|td m6=>cases m6 with|bool=>cases m7 with|td m7=>cases m7 with|int Qjt Qjv=>cases m8 with|td m8=>cases m8 with|int p3 p4=>cases m9 with|td m9=>cases m10 with|td m10=>cases m10 with|str _=>cases m11 with|nils=>
    refine⟨_,_,_,_,_,_,_,_,_,c9,_,st,er,h1,?_,by omega,by omega,by cases m9<;>first|exact a6n|exact b4K⟩;refine .agg rfl λ j d c hd hc=> ?_
    match j with
    |0=>simp[Qqm,kI]at hd hc;subst hd;subst hc;exact .int Qjt Qjv
    |1=>simp[Qqm,kI]at hd hc;subst hd;subst hc;exact .int p3 p4
    |2=>simp[Qqm]at hd hc;subst hd;subst hc;exact m9
    |j+3=>simp at hc
def Qqx:List Sh:=[.td (.str 253),.td kI,.td (.str 4096),.td (.str 4096),.lit (.string ⟨#[]⟩),.td .bool,.lit (.bool false)]
def Qqy:List Sh:=[.lit (.string ⟨#[]⟩),.lit (.int .i64 0),.lit (.string ⟨#[]⟩),.lit (.string ⟨#[]⟩),.lit (.string ⟨#[]⟩),.lit (.bool false),.lit (.bool false)]
theorem Qqz{st:Int}(h: -9223372036854775808<=st/\st<=9223372036854775807):∃q,Qnd 78 [iV st] (bV q):=by
 obtain⟨v,h1,s,hs,h2⟩:=Qng (Qnh (i:=329) (k:=78) (by omega) rfl) (xs:=[.cell kI]) (ps:=[.td .bool]) (by decide +kernel) (vs:=[iV st]) (ShL.cons.2 ⟨.td (.int h.1 h.2),ShL.nil⟩);rw[az7.1 hs]at h2;obtain⟨b,rfl⟩:=Qqu h2;exact⟨b,h1⟩
theorem Qra{hi:Int}{d:TD}{xs:List V}(h:∀x∈xs,InD g0 N0 d x)(hl:(xs.length:Int)<=hi):InD g0 N0 (.sl false hi d) (.sl none xs):= .sl hl h
def Qrb(p:PostA):Bool:=decide (p.cs=[⟨4,[(⟨9,-9223372036854775808,9223372036854775807⟩,-1)]⟩])||(match p.res with| .tup [_,.ce (.av (.int _ e))]=>decide (1<=e.min)|_=>false)
theorem Qrc{P:PostA->Bool}{k:Nat}{c:SumA}{xa:List Ar}(hh:a1p (λ N=>(Lp N).cbv) k c)(hf:(d7d c xa&&c.posts.all P)=true){vs:List V}(hv:ShL (xa.map Ar.sh) vs):
  ∃v,Qnd k vs v/\∃p,P p=true/\∃ρ':Nat->Int,(∀i,i<c.n->ρ' i=c7T (b3X xa vs) i)/\a2W ρ' p.n p.cs/\InR (GB ρ' p.n 0) p.res v:=by
 rw[az6]at hf;obtain⟨v,h1,p,hp,ρ',q⟩:=Qbq hh hf.1 hv;exact⟨v,h1,p,ay5.1 hf.2 p hp,ρ',q⟩
theorem Qrd{u:V}{hm hs hops:Int}{FL:V}{se:List V}(hu:Qql u)(hh:InD g0 N0 (.agg Qqm) (.agg [iV hm,iV hs,FL]))(hse:∀x∈se,Qql x)(hsl:se.length<=1000)(hb:0<=hops/\hops<=1000):
  ∃u' e2,Qnd 79 [u,.agg [iV hm,iV hs,FL],.sl none se,iV hops] (.tup [u',iV e2])/\Qql u'/\(e2=0->hops<=4/\∃a b c d f,u'=Qou a b c d ⟨#[]⟩ f false):=by
 have hv:ShL ([Ar.agg Qns,.agg Qqm,.cell (Qqv 2147483648),.cell kI].map Ar.sh) [u,.agg [iV hm,iV hs,FL],.sl none se,iV hops]:=ShL.cons.2 ⟨hu.U,ShL.cons.2 ⟨Qqq hh,ShL.cons.2 ⟨.td (Qra hse (by omega)),ShL.cons.2 ⟨.td (.int (by omega) (by omega)),ShL.nil⟩⟩⟩⟩;obtain⟨v,h1,s,hsm,h2⟩:=Qng (Qnh (i:=359) (k:=79) (by omega) rfl) (ps:=[.tup [.agg Qqx,.lit (.int .i64 0)],.tup [.agg Qqy,.td (.int .i64 1 1000)]]) (by decide +kernel) hv;obtain⟨v',h1',p,hp,ρ',q1,q2,Xbt⟩:=Qrc (P:=Qrb) (Qnh (i:=359) (k:=79) (by omega) rfl) (by decide +kernel) hv;have:=Xcy h1 h1';subst this;simp only[ay4,av0,ar1]at hsm;rcases hsm with rfl|rfl
 .obtain⟨x,y,rfl,k1,k2⟩:=Qqr h2
  cases k2 with|lit=>
  have hx:Qql x:=Qqp k1 rfl (by decide);refine⟨x,0,h1,hx,λ _=>⟨?_,?_⟩⟩
  .have Xco:ρ' 9=hops:=by
    obtain⟨a,b,c,d,e,f,g,rfl⟩:=hu.L;exact(q1 9 (by show(9:Nat)<10;omega)).trans rfl
   unfold Qrb at hp;rw[ay8]at hp;rcases hp with hp|hp
   .have hc:=at8 hp
    rw[hc]at q2;have:=(q2 _ (ay1 ..)).2;simp[LE.ev,tsv,Xco]at this;omega
   .split at hp
    .next e he=>
     rw[he]at Xbt;cases Xbt with
     |tup Xbt=>
      have:=Xbt.2 1 _ _ rfl rfl;cases this with
      |ce Xbt _ _=>cases Xbt with
       |av _ Xbt=>cases Xbt with
        |int k1 k2=>
         have:=a3W k1;have:=at8 hp;omega
    .cases hp
  .cases k1 with
   | @agg _ cs e1 e2=>
     match cs,e1 with
     |[c0,c1,c2,c3,c4,c5,c6],_=>
      have m4:=e2 4 _ c4 rfl rfl;have m6:=e2 6 _ c6 rfl rfl;obtain⟨a,b,c,d,e,f,g,h⟩:=hx.L;cases m4 with|lit=>cases m6 with|lit=>
      unfold Qou at*;injection h with h
      simp only[Az2,ao0]at h;obtain⟨rfl,rfl,rfl,rfl,h4,rfl,h6⟩:=h;exact⟨_,_,_,_,_,rfl⟩
 .obtain⟨x,y,rfl,k1,k2⟩:=Qqr h2
  obtain⟨n,rfl,n1,n2⟩:=Qqt k2;exact⟨x,n,h1,Qqp k1 rfl (by decide),λ h=>by omega⟩
def Qre(u:V)(st er:Int):V:= .agg (u.cells++[iV st,iV er])
def Qrf(u0:V)(tr:List V):Prop:=(∀x∈tr,pD x/\x.cells.length=9)/\tr.length<=10/\∃st er t,tr=Qre u0 st er::t
def Qrg(u0 F:V):Prop:=∃a b c d f hops o se,F=Qpd a b c d ⟨#[]⟩ f false hops (Xcp o) (.sl none se)/\Qql (Qou a b c d ⟨#[]⟩ f false)/\0<=hops/\hops<=5/\((Xcq o).length:Int)=hops/\(∀x∈Xcq o,pD x/\x.cells.length=9)/\(se.length:Int)=hops+1/\(∀x∈se,Qql x)/\((o=none/\Qou a b c d ⟨#[]⟩ f false=u0)\/∃st er t,o=some (Qre u0 st er::t))
theorem Qql.p{u:V}(h:Qql u):pD u:=by
 obtain⟨a,b,c,d,e,f,g,rfl⟩:=h.L;exact Qps
theorem Qql.c{u:V}(h:Qql u):u.cells.length=7:=by
 obtain⟨a,b,c,d,e,f,g,rfl⟩:=h.L;rfl
theorem Qrh{a:ByteArray}{b:Int}{c d e:ByteArray}{f g:Bool}{hops:Int}{o:Option (List V)}{se:List V}(hse:∀x∈se,Qql x)(ho:∀x∈Xcq o,pD x/\x.cells.length=9)(hsl:se.length<=1000)(hol:(Xcq o).length<=1000):
  Qnd 77 [Qpd a b c d e f g hops (Xcp o) (.sl none se)] (Qpd a b c d e f g hops (Qqa 44 9 o) (.sl (some (42,7,false)) se)):=by
 have r4:(a0d P0 a4w inlS 1).cbv 154 [.sl none se] []=some (.sl (some (42,7,false)) se,[]):=Qbz rfl Tryz.func154 rfl rfl (by simp[Tryz.f154]) (Qpi (λ x hx=>(hse x hx).c) (λ x hx=>(hse x hx).p) (by omega));have r6:(a0d P0 a4w inlS 1).cbv 156 [.nils] []=some (.nils,[]):=Qbz rfl Tryz.func156 rfl rfl (by simp[Tryz.f156]) Qpg;refine⟨2,?_⟩;cases o with
 |none=>
  have r5:(a0d P0 a4w inlS 1).cbv 155 [.nils] []=some (.nils,[]):=Qbz rfl Tryz.func155 rfl rfl (by simp[Tryz.f155]) Qpf;exact Qbz rfl Tryz.func77 rfl rfl (by simp[Tryz.f77]) (Qpj (λ x hx=>(hse x hx).p) Xbu r4 r5 r6)
 |some tr=>
  have r5:(a0d P0 a4w inlS 1).cbv 155 [.sl none tr] []=some (.sl (some (44,9,false)) tr,[]):=Qbz rfl Tryz.func155 rfl rfl (by simp[Tryz.f155]) (Qph (λ x hx=>(ho x hx).2) (λ x hx=>(ho x hx).1) (by simp only[Xcq]at hol;omega));exact Qbz rfl Tryz.func77 rfl rfl (by simp[Tryz.f77]) (Qpk (λ x hx=>(hse x hx).p) (λ x hx=>(ho x hx).1) Xbu r4 r5 r6)
section
variable {L:V} {now:Int}
def Qri(u0 F:V):Prop:=∃a b c d e f g hops err tr S,err≠0/\Qrf u0 tr/\F=Qpl a b c d e f g hops err ⟨#[]⟩ 0 ⟨#[]⟩ ⟨#[]⟩ ⟨#[]⟩ false false 0 0 .nils ⟨#[]⟩ (.sl none tr) S/\isD S
def Qrj(L:V)(now:Int)(u0 F:V):Prop:=∃a b c d f hops r0 r1 r2 r3 r4 r5 r6 hm hs FL bd st tr S,Qql (Qou a b c d ⟨#[]⟩ f false)/\Qrf u0 (tr++[Qmc a b c d ⟨#[]⟩ f false st 0])/\Qnd 56 [L,Qaa now,Qou a b c d ⟨#[]⟩ f false] (.tup [Qpm r0 r1 r2 r3 r4 r5 r6 hm hs FL bd .nils,iV st,iV 0])/\isD FL/\InD g0 N0 (.agg Qqm) (.agg [iV hm,iV hs,FL])/\(-9223372036854775808<=st/\st<=9223372036854775807)/\Qnd 78 [iV st] (bV false)/\
 F=Qpl a b c d ⟨#[]⟩ f false hops 0 r0 r1 r2 r3 r4 r5 r6 hm hs FL bd (.sl none (tr++[Qmc a b c d ⟨#[]⟩ f false st 0])) S/\isD S
theorem Qrk{u0:V}{o:Option (List V)}{a:ByteArray}{b:Int}{c d:ByteArray}{f:Bool}{s e:Int}(hl:(Xcq o).length<=9)(ho:∀x∈Xcq o,pD x/\x.cells.length=9)(h:(o=none/\Qou a b c d ⟨#[]⟩ f false=u0)\/∃st er t,o=some (Qre u0 st er::t)):Qrf u0 (Xcq o++[Qmc a b c d ⟨#[]⟩ f false s e]):=by
 refine⟨λ x hx=> ?_,by rw[ar0,ao9];omega,?_⟩
 .rcases ax1.1 hx with hx|hx
  .exact ho x hx
  .rw[az7.1 hx];exact⟨Qpt,rfl⟩
 .rcases h with⟨rfl,rfl⟩|⟨st,er,t,rfl⟩
  .exact⟨s,e,[],rfl⟩
  .exact⟨st,er,_,rfl⟩
theorem Qrl(hL:InD g0 N0 (.sl false 1048576 Qne) L)(hn:0<=now/\now<=18446744073709551615){u0 F w:V}(hF:Qrg u0 F)(hw:Qnd 35 [L,Qaa now,F] w):Qrg u0 w\/Qri u0 w\/Qrj L now u0 w:=by
 obtain⟨a,b,c,d,f,hops,o,se,rfl,hu,h0,h5,hol,ho,hsl,hse,hhd0⟩:=hF;have hT:=λ s e=>Qrk (s:=s) (e:=e) (by omega) ho hhd0;obtain⟨r0,r1,r2,r3,r4,r5,r6,hm,hs,FL,bd,st,er,hOf,hhd,s0,s1,hFL⟩:=Qqw hL hn hu;obtain⟨q,hq⟩:=Qqz ⟨s0,s1⟩;obtain⟨u',e2,hN,hu',hok⟩:=Qrd (hops:=hops) hu hhd hse (by omega) ⟨h0,by omega⟩;obtain⟨v0,v1,v2,v3,v4,v5,v6,rfl⟩:=hu'.L;obtain⟨M1,m1⟩:=Qrh (a:=a) (b:=b) (c:=c) (d:=d) (e:=⟨#[]⟩) (f:=f) (g:=false) (hops:=hops) hse ho (by omega) (by omega);have hOf':=hOf;have hq':=hq;obtain⟨M2,m2⟩:=hOf;obtain⟨M3,m3⟩:=hq;obtain⟨M4,m4⟩:=hN;obtain⟨N,k1,k2⟩:=a9P (m:=max M1 (max M2 (max M3 M4))) rfl hw;rw[Qqb (n:=N) (by cases hL<;>first|exact a6n|exact b4K) hFL a6n (λ x hx=>(hse x hx).p) (λ x hx=>(ho x hx).1) (by omega) (by omega) ⟨h0,by omega⟩ Xbu (Qbn m1 (by omega)) (Qbn m2 (by omega)) (λ _=>Qbn m3 (by omega)) (λ _ _=>Qbn m4 (by omega))]at k2;have k2:=an8 Prod.fst (ax8 k2);simp only at k2;by_cases e0:er=0
 .subst e0
  rw[ax3 rfl]at k2;cases q with
  |true=>
   simp only[aw4]at k2;by_cases e1:e2=0
   .rw[ax3 e1]at k2
    obtain⟨h4,a',b',c',d',f',hx⟩:=hok e1;unfold Qou at hx;injection hx with hx
    simp only[Az2,ao0]at hx;have x4:v4=⟨#[]⟩:=by have:=hx.2.2.2.2.1;injection this with this;injection this
    have x6:v6=false:=by have:=hx.2.2.2.2.2.2;injection this with this;injection this
    subst x4;subst x6;refine .inl ⟨v0,v1,v2,v3,v5,hops+1,some (Xcq o++[Qmc a b c d ⟨#[]⟩ f false st 0]),se++[Qou v0 v1 v2 v3 ⟨#[]⟩ v5 false],k2.symm,hu',by omega,by omega,?_,?_,?_,?_,?_⟩
    .show((Xcq o++[_]).length:Int)=_
     rw[ar0,ao9];omega
    .intro x hx
     rcases ax1.1 hx with hx|hx
     .exact ho x hx
     .rw[az7.1 hx];exact⟨Qpt,rfl⟩
    .simp;omega
    .intro x hx
     rcases ax1.1 hx with hx|hx
     .exact hse x hx
     .rw[az7.1 hx];exact hu'
    .obtain⟨_,_,st',er',t,ht⟩:=hT st 0
     exact .inr ⟨st',er',t,an8 some ht⟩
   .rw[ay9 e1]at k2
    exact .inr (.inl ⟨_,_,_,_,_,_,_,_,_,_,_,e1,hT st 0,k2.symm,b4K⟩)
  |false=>
   simp only[ay6,av8]at k2;exact .inr (.inr ⟨a,b,c,d,f,hops,r0,r1,r2,r3,r4,r5,r6,hm,hs,FL,bd,st,Xcq o,_,hu,hT st 0,hOf',hFL,hhd,⟨s0,s1⟩,hq',k2.symm,b4K⟩)
 .rw[ay9 e0]at k2
  exact .inr (.inl ⟨_,_,_,_,_,_,_,_,_,_,_,e0,hT st er,k2.symm,b4K⟩)
end
noncomputable def Qrm:Code:=match Tryz.f12.body with
 |some (.seq _ (.seq _ (.seq (.block _ (.loop x)) _)))=>x
 |_=> .skip
theorem Qrn{p:Nat->Option Fp}{inl:Nat->Bool}{N k:Nat}{xa:List V}{v:V}{bs:List (List V)}(hp:p k=none)(h:(a0d P0 p inl N).cbv k xa []=some (v,bs)):bs=[]:=by
 cases N with
 |zero=>cases h
 |succ n=>
  have h2:=b8S hp h;unfold a7O at h2;simp only[Az0,az3,a0w,List.length_nil,am3,a0G]at h2;obtain⟨_,_,_,_,⟨x,s⟩,_,h2⟩:=h2;cases x with
  |exit i=>cases h2
  |normal=>
   simp only[az3]at h2;obtain⟨_,_,⟨_,_⟩,_,⟨_,_,_⟩,h3,h4⟩:=h2;simp only[az0,az8]at h3;split at h4
   .cases h4
   .simp only[az1,Az1,az0,az8]at h4
    rw[<-h4.2,<-h3.1]
  |ret=>
   simp only[az3]at h2;obtain⟨_,_,⟨_,_⟩,_,⟨_,_,_⟩,h3,h4⟩:=h2;simp only[az0,az8]at h3;split at h4
   .cases h4
   .simp only[az1,Az1,az0,az8]at h4
    rw[<-h4.2,<-h3.1]
theorem Qro{f:a7F}{g:G}{nx k:Nat}{args:List V}(h:∀a∈args,pD a)(hf:f k args []=none):a1q f g nx k args=none:=by
 rw[a1q,PV.a2i λ a ha=>c3T (h a ha)];simp[a0G,a1u,hf]
def Qrp(L:V)(now:Int)(F:List V)(st:St):Prop:=
 st.sz=22/\T.get 8 st.env 0=L/\T.get 8 st.env 1=Qaa now/\T.get 8 st.env 6= .ptr 1 0/\T.get 8 st.env 8= .ptr 2 0/\a0b st.h 2=some (.var F)/\a0b st.h 1=some (.var [sV ⟨#[]⟩,iV 0,sV ⟨#[]⟩,sV ⟨#[]⟩,sV ⟨#[]⟩,bV false,bV false,iV 0,iV 0,.nils,sV ⟨#[]⟩,.nils])
section
attribute [local simp] a0K a0I a0v a0V a1h a1F opE ev evs evo a0D a2H a0u a0m St.get St.put tgp tgl a1w a0Z sc a0W a1b a0E a3B a1K a6x lenOf a2u a0b V.fit a5z anb a4Z bT storeAt setCells a3a a3b fill a1H Xct Qod Qoe Qof Qog Qos Qor Qbe Qbf Tryz.underlying96 Tryz.underlying49 Tryz.underlying42 Tryz.underlying4 al1 Qmw Qmx Qon Qoo a1s Qrm Tryz.f12
variable {f0 f1 f2 f3 f4 f5 f6 f7 f9 g0 g1 g2 g3 g4 g5 g6 g7 g8 g9 g10 g11 g12:V} {L:V} {now:Int} {call:PV.Calls} {n:Nat}
theorem Qrq{st:St}(hl:Qrp L now [f0,f1,f2,f3,f4,f5,f6,f7,bV true,f9,g0,g1,g2,g3,g4,g5,g6,g7,g8,g9,g10,g11,g12] st):
  ∃st1,a0K P0 call n Qrm st=some (.exit 0,st1)/\Qrp L now [f0,f1,f2,f3,f4,f5,f6,f7,bV true,f9,g0,g1,g2,g3,g4,g5,g6,g7,g8,g9,g10,g11,g12] st1:=by
 obtain⟨e,hh,nx,sz⟩:=st;obtain⟨h1,h2,h3,h4,h5,h6,h7⟩:=hl;simp only at h1 h2 h3 h4 h5 h6 h7;subst h1;simp[h2,h3,h4,h5,h6,h7,Qrp]
theorem Qrr{st:St}{w:List V}(hL:isD L)(hF:∀v∈[f0,f1,f2,f3,f4,f5,f6,f7,bV false,f9,g0,g1,g2,g3,g4,g5,g6,g7,g8,g9,g10,g11,g12],isD v)(hl:Qrp L now [f0,f1,f2,f3,f4,f5,f6,f7,bV false,f9,g0,g1,g2,g3,g4,g5,g6,g7,g8,g9,g10,g11,g12] st)(hw:∀v∈w,isD v)(hwl:w.length=23)(i35:call.inl 35=none)
  (hc:call.cbv 35 [L,Qaa now,.agg [f0,f1,f2,f3,f4,f5,f6,f7,bV false,f9,g0,g1,g2,g3,g4,g5,g6,g7,g8,g9,g10,g11,g12]] []=some (.agg w,[])):
  ∃st1,a0K P0 call n Qrm st=some (.normal,st1)/\Qrp L now w st1:=by
 have d35:∀(g:G) (nx:Nat),a1q call.cbv g nx 35 [L,Qaa now,.agg [f0,f1,f2,f3,f4,f5,f6,f7,bV false,f9,g0,g1,g2,g3,g4,g5,g6,g7,g8,g9,g10,g11,g12]]=some {v:= .agg w}:=λ g nx=>b1v (all_cons (b9J hL) (all_cons (b9J a6N) (all_cons (c4A hF) d2G))) hc (d0n (c4A hw));obtain⟨e,hh,nx,sz⟩:=st;obtain⟨h1,h2,h3,h4,h5,h6,h7⟩:=hl;simp only at h1 h2 h3 h4 h5 h6 h7;subst h1;have hok:∀v∈w,a0r v=true:=λ v hv=>(hw v hv).2.2.2.2.2.2.2.2.1;have hok2:(∃x,x∈w/\a0r x=false)=False:=eq_false (by rintro⟨x,hx,h⟩;rw[hok x hx]at h;cases h);have hbk:bk w=false:=by
  match w,hwl with
  |a::b::c::t,_=>rw[a5z];simp
 simp[h2,h3,h4,h5,h6,h7,Qrp,d35,i35,hok2,hwl,hbk]
theorem Qrs{st:St}(hL:isD L)(hF:∀v∈[f0,f1,f2,f3,f4,f5,f6,f7,bV false,f9,g0,g1,g2,g3,g4,g5,g6,g7,g8,g9,g10,g11,g12],isD v)(hl:Qrp L now [f0,f1,f2,f3,f4,f5,f6,f7,bV false,f9,g0,g1,g2,g3,g4,g5,g6,g7,g8,g9,g10,g11,g12] st)(i35:call.inl 35=none)
  (hc:call.cbv 35 [L,Qaa now,.agg [f0,f1,f2,f3,f4,f5,f6,f7,bV false,f9,g0,g1,g2,g3,g4,g5,g6,g7,g8,g9,g10,g11,g12]] []=none):
  a0K P0 call n Qrm st=none:=by
 have d35:∀(g:G) (nx:Nat),a1q call.cbv g nx 35 [L,Qaa now,.agg [f0,f1,f2,f3,f4,f5,f6,f7,bV false,f9,g0,g1,g2,g3,g4,g5,g6,g7,g8,g9,g10,g11,g12]]=none:=λ g nx=>Qro (all_cons (b9J hL) (all_cons (b9J a6N) (all_cons (c4A hF) d2G))) hc;obtain⟨e,hh,nx,sz⟩:=st;obtain⟨h1,h2,h3,h4,h5,h6,h7⟩:=hl;simp only at h1 h2 h3 h4 h5 h6 h7;subst h1;simp[h2,h3,h5,h6,d35,i35]
theorem Qrg.f{u0 F:V}(h:Qrg u0 F):∃f0 f1 f2 f3 f4 f5 f6 f7 f9 g0 g1 g2 g3 g4 g5 g6 g7 g8 g9 g10 g11 g12,F= .agg [f0,f1,f2,f3,f4,f5,f6,f7,bV false,f9,g0,g1,g2,g3,g4,g5,g6,g7,g8,g9,g10,g11,g12]/\∀v∈[f0,f1,f2,f3,f4,f5,f6,f7,bV false,f9,g0,g1,g2,g3,g4,g5,g6,g7,g8,g9,g10,g11,g12],isD v:=by
 obtain⟨a,b,c,d,f,hops,o,se,rfl,_⟩:=h;exact⟨_,_,_,_,_,_,_,_,_,_,_,_,_,_,_,_,_,_,_,_,_,_,rfl,by repeat' first|exact d2G|refine all_cons ?_ ?_|exact a6N|exact c3R|exact a9t|exact a6n|exact Xcr|exact b4K⟩
def Qrt(F:V):Prop:=∃f0 f1 f2 f3 f4 f5 f6 f7 f9 g0 g1 g2 g3 g4 g5 g6 g7 g8 g9 g10 g11 g12,F= .agg [f0,f1,f2,f3,f4,f5,f6,f7,bV true,f9,g0,g1,g2,g3,g4,g5,g6,g7,g8,g9,g10,g11,g12]/\∀v∈[f0,f1,f2,f3,f4,f5,f6,f7,bV true,f9,g0,g1,g2,g3,g4,g5,g6,g7,g8,g9,g10,g11,g12],isD v
theorem Qru{a:ByteArray}{b:Int}{c d e:ByteArray}{f g:Bool}{hops err:Int}{a':ByteArray}{b':Int}{c' d' e':ByteArray}{f' g':Bool}{hm hs:Int}{FL:V}{bd:ByteArray}{TR SE:V}(h1:isD FL)(h2:isD TR)(h3:isD SE):Qrt (Qpl a b c d e f g hops err a' b' c' d' e' f' g' hm hs FL bd TR SE):=
 ⟨_,_,_,_,_,_,_,_,_,_,_,_,_,_,_,_,_,_,_,_,_,_,rfl,by repeat' first|exact d2G|refine all_cons ?_ ?_|exact a6N|exact c3R|exact a9t|exact h1|exact h2|exact h3⟩
theorem Qri.d{u0 F:V}(h:Qri u0 F):Qrt F:=by
 obtain⟨a,b,c,d,e,f,g,hops,err,tr,S,_,_,rfl,hS⟩:=h;exact Qru a6n b4K hS
theorem Qrj.d{u0 F:V}(h:Qrj L now u0 F):Qrt F:=by
 obtain⟨a,b,c,d,f,hops,r0,r1,r2,r3,r4,r5,r6,hm,hs,FL,bd,st,tr,S,_,_,_,hFL,_,_,_,rfl,hS⟩:=h;exact Qru hFL b4K hS
end
section
variable {L:V} {now:Int} {call:PV.Calls} {n:Nat}
def Qrv(L:V)(now:Int)(F:V)(st:St):Prop:=∃cs,F= .agg cs/\Qrp L now cs st
theorem Qrw{m:Nat}{st st':St}{x:Ex}{F:V}(hF:Qrt F)(hl:Qrv L now F st)(h:iter (a0K P0 call n Qrm) m st=some (x,st')):x= .exit 0/\Qrv L now F st':=by
 obtain⟨_,_,_,_,_,_,_,_,_,_,_,_,_,_,_,_,_,_,_,_,_,_,rfl,_⟩:=hF;obtain⟨cs,e,hl⟩:=hl;injection e with e
 subst e;cases m with
 |zero=>cases h
 |succ m=>
  obtain⟨st1,h1,h2⟩:=Qrq (call:=call) (n:=n) hl;simp only[iter,h1,az0,az8]at h;obtain⟨rfl,rfl⟩:=h;exact⟨rfl,_,rfl,h2⟩
theorem Qrx{N m:Nat}{st st':St}{x:Ex}{u0 F:V}(hL:InD g0 N0 (.sl false 1048576 Qne) L)(hn:0<=now/\now<=18446744073709551615)(hF:Qrg u0 F)(hl:Qrv L now F st)(h:iter (a0K P0 (a0d P0 a4w inlS N) n Qrm) m st=some (x,st')):
  ∃m' w st1,Qnd 35 [L,Qaa now,F] w/\Qrv L now w st1/\iter (a0K P0 (a0d P0 a4w inlS N) n Qrm) m' st1=some (x,st')/\m=m'+1/\(Qrg u0 w\/Qri u0 w\/Qrj L now u0 w):=by
 have hLD:isD L:=by cases hL<;>first|exact a6n|exact b4K
 have hF0:=hF;obtain⟨f0,f1,f2,f3,f4,f5,f6,f7,f9,g00,g1,g2,g3,g4,g5,g6,g7,g8,g9,g10,g11,g12,rfl,hd⟩:=hF.f;obtain⟨cs,e,hl⟩:=hl;injection e with e
 subst e;cases m with
 |zero=>cases h
 |succ m=>
  cases hc:(a0d P0 a4w inlS N).cbv 35 [L,Qaa now,.agg [f0,f1,f2,f3,f4,f5,f6,f7,bV false,f9,g00,g1,g2,g3,g4,g5,g6,g7,g8,g9,g10,g11,g12]] []with
  |none=>
   have:=Qrs (n:=n) hLD hd hl (a4G rfl) hc;simp only[iter,this]at h;cases h
  |some q=>
   obtain⟨w,bs⟩:=q;have hb:=Qrn rfl hc;subst hb;have hst:=Qrl hL hn hF0 ⟨N,hc⟩;have hW:∃W,w= .agg W/\W.length=23/\∀v∈W,isD v:=by
    rcases hst with h|h|h
    .obtain⟨_,_,_,_,_,_,_,_,_,_,_,_,_,_,_,_,_,_,_,_,_,_,rfl,hd⟩:=h.f
     exact⟨_,rfl,rfl,hd⟩
    .obtain⟨_,_,_,_,_,_,_,_,_,_,_,_,_,_,_,_,_,_,_,_,_,_,rfl,hd⟩:=h.d
     exact⟨_,rfl,rfl,hd⟩
    .obtain⟨_,_,_,_,_,_,_,_,_,_,_,_,_,_,_,_,_,_,_,_,_,_,rfl,hd⟩:=h.d
     exact⟨_,rfl,rfl,hd⟩
   obtain⟨W,rfl,hWl,hWd⟩:=hW;obtain⟨st1,k1,k2⟩:=Qrr (n:=n) hLD hd hl hWd hWl (a4G rfl) hc;simp only[iter,k1]at h;exact⟨m,_,st1,⟨N,hc⟩,⟨_,rfl,k2⟩,h,rfl,hst⟩
theorem Qry{N:Nat}(hL:InD g0 N0 (.sl false 1048576 Qne) L)(hn:0<=now/\now<=18446744073709551615){x:Ex}{u0:V}{st':St}:∀(m:Nat) (F:V) (st:St),Qrg u0 F->Qrv L now F st->iter (a0K P0 (a0d P0 a4w inlS N) n Qrm) m st=some (x,st')->∃F',(Qri u0 F'\/Qrj L now u0 F')/\x= .exit 0/\Qrv L now F' st'
 |0,F,st,_,_,h=>by cases h
 |m+1,F,st,hF,hl,h=>by
  obtain⟨m',w,st1,_,h2,h3,h4,h5⟩:=Qrx hL hn hF hl h;have:m=m':=by omega
  subst this;rcases h5 with h5|h5|h5
  .exact Qry hL hn m w st1 h5 h2 h3
  .obtain⟨a,b⟩:=Qrw h5.d h2 h3
   exact⟨w,.inl h5,a,b⟩
  .obtain⟨a,b⟩:=Qrw h5.d h2 h3
   exact⟨w,.inr h5,a,b⟩
end
def Qrz:V->V
 | .agg [_,_,_,_,_,_,_,_,_,e,c0,c1,c2,c3,c4,c5,c6,c7,c8,c9,c10,c11,_]=> .tup [.agg [c0,c1,c2,c3,c4,c5,c6,c7,c8,c9,c10,c11],e]
 |v=>v
section
attribute [local simp] a0K a0I a0v a0V a1h a1F opE ev evs evo a0D a2H a0u a0m St.get St.put tgp tgl a1w a0Z sc a0W a1b a0E a3B a1K a6x lenOf a2u a0b V.fit a5z anb a4Z bT storeAt setCells a3a a3b fill a1H Xct Qod Qoe Qof Qog Qos Qor Qbe Qbf Tryz.underlying96 Tryz.underlying49 Tryz.underlying42 Tryz.underlying4 al1 Qmw Qmx Qon Qoo a1s
theorem Qsa{call:PV.Calls}{n:Nat}{L:V}{now:Int}{a:ByteArray}{b:Int}{c d e:ByteArray}{f g:Bool}{F0:List V}{r:V×List (List V)}(hF:∀v∈F0,isD v)(hFl:F0.length=23)(i34:call.inl 34=none)
  (c34:call.cbv 34 [Qou a b c d e f g] []=some (.agg F0,[])) (hb:a7O P0 call n 12 [L,Qaa now,Qou a b c d e f g] []=some r):
  ∃s1 x s',Qrv L now (.agg F0) s1/\iter (a0K P0 call n Qrm) n s1=some (x,s')/\∀F',Qrt F'->x= .exit 0->Qrv L now F' s'->r=(Qrz F',[]):=by
 have hX:∃r0 r1 r4,Tryz.f12.body=some (.seq (.region 0 r0 false) (.seq (.region 1 r1 false) (.seq (.block 0 (.loop Qrm)) (.seq (.region 4 r4 true) .ret))))/\
   (∃s0 s1,a0K P0 call n (.region 0 r0 false) {env:=a0u [L,Qaa now,Qou a b c d e f g] 0 .leaf,h:=[],nx:=0,sz:=22}=some (.normal,s0)/\a0K P0 call n (.region 1 r1 false) s0=some (.normal,s1)/\Qrv L now (.agg F0) s1)/\
   ∀F' st,Qrt F'->Qrv L now F' st->∃st1,a0K P0 call n (.seq (.region 4 r4 true) .ret) st=some (.ret,st1)/\a0m P0 Tryz.f12 st1=some (Qrz F'):=by
  refine⟨_,_,_,rfl,?_,?_⟩
  .have hok2:(∃x,x∈F0/\a0r x=false)=False:=eq_false (by rintro⟨x,hx,h⟩;rw[(hF x hx).2.2.2.2.2.2.2.2.1]at h;cases h)
   have hbk:bk F0=false:=by
    match F0,hFl with
    |a::b::c::t,_=>rw[a5z];simp
   have d34:∀(g1:G) (nx:Nat),a1q call.cbv g1 nx 34 [Qou a b c d e f g]=some {v:= .agg F0}:=λ g1 nx=>b1v (all_cons Qps d2G) c34 (d0n (c4A hF));unfold Qou at*;simp[i34,d34,hok2,hbk,hFl,Qrv,Qrp]
  .rintro F' ⟨e,hh,nx,sz⟩ hD hl
   obtain⟨f0,f1,f2,f3,f4,f5,f6,f7,f9,q0,q1,q2,Xbt,q4,q5,q6,q7,q8,Xco,q10,q11,q12,rfl,hd⟩:=hD;obtain⟨cs,e1,hl⟩:=hl;injection e1 with e1
   subst e1;obtain⟨h1,h2,h3,h4,h5,h6,h7⟩:=hl;simp only at h1 h2 h3 h4 h5 h6 h7;subst h1;simp only[au6]at hd;obtain⟨_,_,_,_,_,_,_,_,_,_,k0,k1,k2,k3,k4,k5,k6,k7,k8,k9,k10,k11,_⟩:=hd;have o0:=k0.2.2.2.2.2.2.2.2.1;have o1:=k1.2.2.2.2.2.2.2.2.1;have o2:=k2.2.2.2.2.2.2.2.2.1;have o3:=k3.2.2.2.2.2.2.2.2.1;have o4:=k4.2.2.2.2.2.2.2.2.1;have o5:=k5.2.2.2.2.2.2.2.2.1;have o6:=k6.2.2.2.2.2.2.2.2.1;have o7:=k7.2.2.2.2.2.2.2.2.1;have o8:=k8.2.2.2.2.2.2.2.2.1;have o9:=k9.2.2.2.2.2.2.2.2.1;have o10:=k10.2.2.2.2.2.2.2.2.1;have o11:=k11.2.2.2.2.2.2.2.2.1;simp[Tryz.f12,h2,h3,h4,h5,h6,h7,o0,o1,o2,o3,o4,o5,o6,o7,o8,o9,o10,o11,Qrz]
 obtain⟨r0,r1,r4,hbo,⟨s0,s1,a0,a1,hl⟩,hE⟩:=hX;have hfn:P0.funcs[12]?=some Tryz.f12:=Tryz.func12;have hm:max ([L,Qaa now,Qou a b c d e f g]:List V).length Tryz.f12.ntmps=22:=by simp[Tryz.f12]
 unfold a7O at hb;simp only[Az0,hfn,az1,hbo,a0w,List.length_nil,hm]at hb;rw[Qmi a0,Qmi a1]at hb;refine⟨s1,?_⟩;cases hi:iter (a0K P0 call n Qrm) n s1 with
 |none=>
  exfalso;rw[a0K,a0K,a0K,hi]at hb;cases hb
 |some q=>
  obtain⟨x,s'⟩:=q;refine⟨x,s',hl,rfl,λ F' hD hx hl'=> ?_⟩;subst hx;obtain⟨st1,k1,k2⟩:=hE F' s' hD hl';rw[Qmi (s1:=s') (Qmj hi),k1]at hb;have hr:rD (Qrz F'):=by
   obtain⟨f0,f1,f2,f3,f4,f5,f6,f7,f9,q0,q1,q2,Xbt,q4,q5,q6,q7,q8,Xco,q10,q11,q12,rfl,hd⟩:=hD;simp only[au6]at hd;obtain⟨_,_,_,_,_,_,_,_,_,k9,k0,k1,k2,k3,k4,k5,k6,k7,k8,k99,k10,k11,_⟩:=hd;exact d4t (all_cons (c4A (by repeat' first|exact d2G|refine all_cons ?_ ?_|assumption)) (all_cons (b9J k9) d2G))
  have rB:∀(g:G) (nx:Nat),a5t 12 g nx (Qrz F')=some (Qrz F',[],[]):=λ g nx=>b1O (by rfl) hr;simp only[k2,az1,rB,am3,a0G]at hb;simpa[a1u]using hb.symm
end
section
variable {L:V} {now:Int}
theorem Qsb{u:V}(hu:Qql u):∃v,Qnd 76 [u] (bV v):=by
 obtain⟨w,h1,s,hs,h2⟩:=Qng (Qnh (i:=308) (k:=76) (by omega) rfl) (xs:=[.agg Qns]) (ps:=[.td .bool]) (by decide +kernel) (vs:=[u]) (ShL.cons.2 ⟨hu.U,ShL.nil⟩);rw[az7.1 hs]at h2;obtain⟨b,rfl⟩:=Qqu h2;exact⟨b,h1⟩
theorem Qsc{a:ByteArray}{b:Int}{c d e:ByteArray}{f g v:Bool}(h:Qnd 76 [Qou a b c d e f g] (bV v)):Qnd 34 [Qou a b c d e f g] (if v then Qpd a b c d ⟨#[]⟩ f false 0 .nils (.sl none [Qou a b c d ⟨#[]⟩ f false])else Qpl ⟨#[]⟩ 0 ⟨#[]⟩ ⟨#[]⟩ ⟨#[]⟩ false false 0 8 ⟨#[]⟩ 0 ⟨#[]⟩ ⟨#[]⟩ ⟨#[]⟩ false false 0 0 .nils ⟨#[]⟩ .nils .nils):=by
 obtain⟨N,hN⟩:=h;exact⟨N+1,Qbz rfl Tryz.func34 rfl rfl (by simp[Tryz.f34]) (Qqh Xbu hN)⟩
theorem Qql.bare{a:ByteArray}{b:Int}{c d e:ByteArray}{f g:Bool}(h:Qql (Qou a b c d e f g)):Qql (Qou a b c d ⟨#[]⟩ f false):=by
 unfold Qql Qqk Qou at*;cases h with
 |agg h1 h2=>
  refine .agg rfl λ j t v ht hv=> ?_
  match j with
  |0=>exact h2 0 t v ht hv
  |1=>exact h2 1 t v ht hv
  |2=>exact h2 2 t v ht hv
  |3=>exact h2 3 t v ht hv
  |4=>simp at ht hv;subst ht;subst hv;exact .str (by decide)
  |5=>exact h2 5 t v ht hv
  |6=>simp at ht hv;subst ht;subst hv;exact .bool
  |j+7=>simp at ht
theorem Qsd{a:ByteArray}{b:Int}{c d:ByteArray}{f:Bool}(h:Qql (Qou a b c d ⟨#[]⟩ f false)):Qrg (Qou a b c d ⟨#[]⟩ f false) (Qpd a b c d ⟨#[]⟩ f false 0 .nils (.sl none [Qou a b c d ⟨#[]⟩ f false])):=
 ⟨a,b,c,d,f,0,none,_,rfl,h,by omega,by omega,rfl,λ _ h=>(by cases h),rfl,λ x hx=>by rw[az7.1 hx];exact h,.inl ⟨rfl,rfl⟩⟩
def Qse:V->V
 | .agg [a,b,c,d,_,f,_]=> .agg [a,b,c,d,sV ⟨#[]⟩,f,bV false]
 |v=>v
theorem Qsf(hL:InD g0 N0 (.sl false 1048576 Qne) L)(hn:0<=now/\now<=18446744073709551615){u w:V}(hu:Qql u)(hw:Qnd 12 [L,Qaa now,u] w):
  (∃T err,err≠0/\w= .tup [Qpm ⟨#[]⟩ 0 ⟨#[]⟩ ⟨#[]⟩ ⟨#[]⟩ false false 0 0 .nils ⟨#[]⟩ T,iV err]/\((T= .nils/\Qnd 76 [u] (bV false))\/∃tr,T= .sl none tr/\Qrf (Qse u) tr))\/∃F,Qrj L now (Qse u) F/\w=Qrz F:=by
 obtain⟨v,hv⟩:=Qsb hu;obtain⟨a,b,c,d,e,f,g,rfl⟩:=hu.L;obtain⟨M,hM⟩:=Qsc hv;obtain⟨N,k1,k2⟩:=a9P (m:=M) rfl hw;have c34:=Qbn hM k1;cases v with
 |false=>
  simp only[ay6,av8]at c34;obtain⟨_,_,_,_,_,_,_,_,_,_,_,_,_,_,_,_,_,_,_,_,_,_,e1,hd⟩:=Qru (a:=⟨#[]⟩) (b:=0) (c:=⟨#[]⟩) (d:=⟨#[]⟩) (e:=⟨#[]⟩) (f:=false) (g:=false) (hops:=0) (err:=8) (a':=⟨#[]⟩) (b':=0) (c':=⟨#[]⟩) (d':=⟨#[]⟩) (e':=⟨#[]⟩) (f':=false) (g':=false) (hm:=0) (hs:=0) (bd:=⟨#[]⟩) a6n a6n a6n;have hDn:=Qru (a:=⟨#[]⟩) (b:=0) (c:=⟨#[]⟩) (d:=⟨#[]⟩) (e:=⟨#[]⟩) (f:=false) (g:=false) (hops:=0) (err:=8) (a':=⟨#[]⟩) (b':=0) (c':=⟨#[]⟩) (d':=⟨#[]⟩) (e':=⟨#[]⟩) (f':=false) (g':=false) (hm:=0) (hs:=0) (bd:=⟨#[]⟩) a6n a6n a6n;rw[e1]at c34;obtain⟨s1,x,s',hl,hi,hr⟩:=Qsa hd rfl (a4G rfl) c34 k2;rw[<-e1]at hl;obtain⟨hx,hl'⟩:=Qrw hDn hl hi;have:=hr _ hDn hx hl';exact .inl ⟨_,8,by decide,an8 Prod.fst this,.inl ⟨rfl,hv⟩⟩
 |true=>
  simp only[aw4]at c34;have hG:=Qsd hu.bare;obtain⟨_,_,_,_,_,_,_,_,_,_,_,_,_,_,_,_,_,_,_,_,_,_,e1,hd⟩:=hG.f;rw[e1]at c34;obtain⟨s1,x,s',hl,hi,hr⟩:=Qsa hd rfl (a4G rfl) c34 k2;rw[<-e1]at hl;obtain⟨F',hF',hx,hl'⟩:=Qry hL hn _ _ _ hG hl hi;rcases hF' with hB|hF'
  .have:=hr _ hB.d hx hl'
   obtain⟨a,b,c,d,e,f,g,hops,err,tr,S,he,hT,rfl,hS⟩:=hB;exact .inl ⟨_,err,he,an8 Prod.fst this,.inr ⟨tr,rfl,hT⟩⟩
  .exact .inr ⟨F',hF',an8 Prod.fst (hr _ hF'.d hx hl')⟩
end
section
variable {L:V} {now:Int}
theorem Qsg{hi:Int}{d:TD}{L:V}(h:InD g0 N0 (.sl false hi d) L):isD L:=by cases h<;>first|exact a6n|exact b4K
theorem Qsh(hL:InD g0 N0 (.sl false 1048576 Qne) L)(hn:0<=now/\now<=18446744073709551615):Wd (L,Qaa now):=⟨by cases hL<;>rfl,hL,now,rfl,hn.1,hn.2⟩
theorem Qsi(hL:InD g0 N0 (.sl false 1048576 Qne) L)(hn:0<=now/\now<=18446744073709551615){u R:V}{st:Int}(hu:Qql u)(h:Qnd 56 [L,Qaa now,u] (.tup [R,iV st,iV 0])):Qnd 76 [u] (bV true):=by
 obtain⟨v,hv⟩:=Qsb hu;cases v with
 |true=>exact hv
 |false=>
  exfalso;obtain⟨r,hr,_⟩:=Qnu (Qsh hL hn) hu.U;obtain⟨M,hM⟩:=hv;obtain⟨u0,u1,u2,u3,u4,u5,u6,hue⟩:=Qbp hu.U;have hr0:=hr;obtain⟨N,k1,k2⟩:=a9P (m:=M) rfl hr;rw[Qbg hue (a4G rfl) (Qbn hM k1)]at k2;have:r=Qba 8:=(an8 Prod.fst (ax8 k2)).symm;subst this;obtain⟨K,hK⟩:=hr0;obtain⟨N2,k3,k4⟩:=a9P (m:=K) rfl h;subst hue;obtain⟨R',st',h3⟩:=Qqj (n:=N2) (Qsg hL) Xbu (Qbn hK k3) (by decide);rw[show V.agg [sV u0,iV u1,sV u2,sV u3,sV u4,bV u5,bV u6]=Qou u0 u1 u2 u3 u4 u5 u6 from rfl,h3]at k4;have:=an8 Prod.fst (ax8 k4);simp at this
theorem Qsj(hL:InD g0 N0 (.sl false 1048576 Qne) L)(hn:0<=now/\now<=18446744073709551615){a:ByteArray}{b:Int}{c d:ByteArray}{f:Bool}{r0:ByteArray}{r1:Int}{r2 r3 r4:ByteArray}{r5 r6:Bool}{hm hs st:Int}{FL w:V}{bd:ByteArray}(hu:Qql (Qou a b c d ⟨#[]⟩ f false))
  (hOf:Qnd 56 [L,Qaa now,Qou a b c d ⟨#[]⟩ f false] (.tup [Qpm r0 r1 r2 r3 r4 r5 r6 hm hs FL bd .nils,iV st,iV 0])) (hq:Qnd 78 [iV st] (bV false)) (hFL:isD FL)
  (hw:Qnd 35 [L,Qaa now,Qpd a b c d ⟨#[]⟩ f false 0 .nils (.sl none [Qou a b c d ⟨#[]⟩ f false])] w):w=Qpl a b c d ⟨#[]⟩ f false 0 0 r0 r1 r2 r3 r4 r5 r6 hm hs FL bd (.sl none [Qmc a b c d ⟨#[]⟩ f false st 0]) (.sl none [Qou a b c d ⟨#[]⟩ f false]):=by
 have hse:∀x∈[Qou a b c d ⟨#[]⟩ f false],Qql x:=λ x hx=>by rw[az7.1 hx];exact hu
 have ho:∀x∈Xcq none,pD x/\x.cells.length=9:=λ _ h=>(by cases h);obtain⟨M1,m1⟩:=Qrh (a:=a) (b:=b) (c:=c) (d:=d) (e:=⟨#[]⟩) (f:=f) (g:=false) (hops:=0) (o:=none) hse ho (by simp) (by simp[Xcq]);obtain⟨M2,m2⟩:=hOf;obtain⟨M3,m3⟩:=hq;obtain⟨N,k1,k2⟩:=a9P (m:=max M1 (max M2 M3)) rfl hw;have:=Qqb (call:=a0d P0 a4w inlS N) (o:=none) (n:=N) (Qsg hL) hFL a6n (λ x hx=>(hse x hx).p) (λ x hx=>(ho x hx).1) (by simp[Xcq]) (by simp) ⟨by omega,by omega⟩ Xbu (Qbn m1 (by omega)) (Qbn m2 (by omega)) (λ _=>Qbn m3 (by omega)) (λ _ h=>by cases h) (u0:=⟨#[]⟩) (u1:=0) (u2:=⟨#[]⟩) (u3:=⟨#[]⟩) (u4:=⟨#[]⟩) (u5:=false) (u6:=false) (e2:=0);have k2:=k2.symm.trans this;have k2:=an8 Prod.fst (ax8 k2);simpa[Xcq]using k2
theorem Qsk(hL:InD g0 N0 (.sl false 1048576 Qne) L)(hn:0<=now/\now<=18446744073709551615){a:ByteArray}{b:Int}{c d:ByteArray}{f:Bool}{r0:ByteArray}{r1:Int}{r2 r3 r4:ByteArray}{r5 r6:Bool}{hm hs st:Int}{FL w:V}{bd:ByteArray}(hu:Qql (Qou a b c d ⟨#[]⟩ f false))
  (hOf:Qnd 56 [L,Qaa now,Qou a b c d ⟨#[]⟩ f false] (.tup [Qpm r0 r1 r2 r3 r4 r5 r6 hm hs FL bd .nils,iV st,iV 0])) (hq:Qnd 78 [iV st] (bV false)) (hFL:isD FL)
  (hw:Qnd 12 [L,Qaa now,Qou a b c d ⟨#[]⟩ f false] w):w= .tup [Qpm r0 r1 r2 r3 r4 r5 r6 hm hs FL bd (.sl none [Qmc a b c d ⟨#[]⟩ f false st 0]),iV 0]:=by
 obtain⟨M,hM⟩:=Qsc (Qsi hL hn hu hOf);obtain⟨N,k1,k2⟩:=a9P (m:=M) rfl hw;have c34:=Qbn hM k1;simp only[aw4]at c34;have hG:=Qsd hu;obtain⟨_,_,_,_,_,_,_,_,_,_,_,_,_,_,_,_,_,_,_,_,_,_,e1,hd⟩:=hG.f;rw[e1]at c34;obtain⟨s1,x,s',hl,hi,hr⟩:=Qsa hd rfl (a4G rfl) c34 k2;rw[<-e1]at hl;obtain⟨m',w1,st1,h1,h2,h3,_,_⟩:=Qrx hL hn hG hl hi;have:=Qsj hL hn hu hOf hq hFL h1;subst this;have hD:=Qru (a:=a) (b:=b) (c:=c) (d:=d) (e:=⟨#[]⟩) (f:=f) (g:=false) (hops:=0) (err:=0) (a':=r0) (b':=r1) (c':=r2) (d':=r3) (e':=r4) (f':=r5) (g':=r6) (hm:=hm) (hs:=hs) (bd:=bd) hFL (b4K (xs:=[Qmc a b c d ⟨#[]⟩ f false st 0])) (b4K (xs:=[Qou a b c d ⟨#[]⟩ f false]));obtain⟨hx,hl'⟩:=Qrw hD h2 h3;exact an8 Prod.fst (hr _ hD hx hl')
end
def Qvk(k:Nat)(xs:List V)(b:List V)(r:V×List (List V)):Prop:=∃N,(a0d P0 a4w inlS N).cbv k xs [b]=some r
theorem Qvl{k:Nat}{xs b:List V}{r:V×List (List V)}(m:Nat)(hp:a4w k=none)(h:Qvk k xs b r):∃N,m<=N/\a7O P0 (a0d P0 a4w inlS N) N k xs [b]=some r:=by
 obtain⟨M,hM⟩:=h;exact⟨max M m,ar6 _ _,b8S hp ((a0L (P:=P0) (prim:=a4w) (inl:=inlS) (by omega:M<=max M m+1)).cbv _ _ _ _ hM)⟩
def Qvm:List TD:=[.str 65536,kI,.str 65536,.str 65536,.str 65536,.bool,.bool,kI,kI,.sl false 64 (.agg [.str 16378,.str 16378]),.str 1048576,.sl false 1048576 Qcm]
def Qvn(rf:V->V):Prop:=∃r0 r1 r2 r3 r4 r5 r6 hm hs FL bd,rf=Qpm r0 r1 r2 r3 r4 r5 r6 hm hs FL bd/\isD FL
section
variable {L:V} {now:Int}
theorem Qvo(hL:InD g0 N0 (.sl false 1048576 Qne) L)(hn:0<=now/\now<=18446744073709551615){u:V}(hu:Qql u):∃r e,Qnd 12 [L,Qaa now,u] (.tup [r,iV e])/\InD g0 N0 (.agg Qvm) r:=by
 obtain⟨v,h1,s,hs,h2⟩:=Qng (Qnh (i:=363) (k:=12) (by omega) rfl) (xs:=[.cell (.sl false 1048576 Qne),.cell kU,.agg Qqk]) (ps:=[.tup [.agg (Qvm.map .td),.td kI],.tup [.agg [.lit (.string ⟨#[]⟩),.lit (.int .i64 0),.lit (.string ⟨#[]⟩),.lit (.string ⟨#[]⟩),.lit (.string ⟨#[]⟩),.lit (.bool false),.lit (.bool false),.lit (.int .i64 0),.lit (.int .i64 0),.nils,.lit (.string ⟨#[]⟩),.nils],.td kI]]) (by decide +kernel) (vs:=[L,Qaa now,u])
  (ShL.cons.2 ⟨.td hL,ShL.cons.2 ⟨.td (.int hn.1 hn.2),ShL.cons.2 ⟨Qqq hu,ShL.nil⟩⟩⟩)
 simp only[ay4,av0,ar1]at hs;rcases hs with rfl|rfl<;>obtain⟨x,y,rfl,k1,k2⟩:=Qqr h2<;>obtain⟨e,rfl,_,_⟩:=Qqt k2<;>exact⟨x,e,h1,Qqp k1 rfl (by decide)⟩
def Qvp(L:V)(now:Int)(rf:V->V)(t:List V):Prop:=∃tr0 a b c d f st,t=tr0++[Qmc a b c d ⟨#[]⟩ f false st 0]/\Qql (Qou a b c d ⟨#[]⟩ f false)/\Qnd 12 [L,Qaa now,Qou a b c d ⟨#[]⟩ f false] (.tup [rf (.sl none [Qmc a b c d ⟨#[]⟩ f false st 0]),iV 0])/\InD g0 N0 (.agg Qvm) (rf (.sl none [Qmc a b c d ⟨#[]⟩ f false st 0]))
def Qvq(o:Option (List V))(m:Nat):Prop:=(∀x∈Xcq o,pD x)/\(Xcq o).length<=m
theorem Qvs(hL:InD g0 N0 (.sl false 1048576 Qne) L)(hn:0<=now/\now<=18446744073709551615){k p:Int}{s h:ByteArray}{o:Option (List V)}{u:V}{r:V×List (List V)}(hu:Qql u)(ho:Qvq o 1000)(hr:Qvk 67 [.ptr 0 0,u] (Qsl L now k s h p (Qqa 44 9 o)) r):
  ∃rf o2 e,Qvn rf/\r=(.tup [rf (Xcp o2),iV e],[Qsl L now k s h p (Qqa 44 9 (Qsm o o2))])/\InD g0 N0 (.agg Qvm) (rf (Xcp o2))/\Qvq o2 10/\((o2=none/\Qnd 76 [u] (bV false))\/∃tr,o2=some tr/\Qrf (Qse u) tr)/\(e=0->∃t,o2=some t/\Qvp L now rf t):=by
 have hLD:isD L:=by cases hL<;>first|exact a6n|exact b4K
 obtain⟨v,e,hR,hv⟩:=Qvo hL hn hu;have key:∃rf o2 e',Qvn rf/\V.tup [v,iV e]= .tup [rf (Xcp o2),iV e']/\(∀x∈Xcq o2,pD x/\x.cells.length=9)/\(Xcq o2).length<=10/\(∀tr,o2=some tr->tr≠[])/\((o2=none/\Qnd 76 [u] (bV false))\/∃tr,o2=some tr/\Qrf (Qse u) tr)/\(e'=0->∃t,o2=some t/\Qvp L now rf t):=by
  rcases Qsf hL hn hu hR with⟨T,err,he,hw,hT⟩|⟨F,hF,hw⟩
  .rcases hT with⟨rfl,hv⟩|⟨tr,rfl,hT⟩
   .exact⟨_,none,err,⟨_,_,_,_,_,_,_,_,_,_,_,rfl,a6n⟩,hw,λ _ h=>(by cases h),aw7 _,λ _ h=>(by cases h),.inl ⟨rfl,hv⟩,λ h=>absurd h he⟩
   .refine⟨_,some tr,err,⟨_,_,_,_,_,_,_,_,_,_,_,rfl,a6n⟩,hw,hT.1,hT.2.1,λ t h=> ?_,.inr ⟨tr,rfl,hT⟩,λ h=>absurd h he⟩
    obtain⟨_,_,t',h'⟩:=hT.2.2;cases h;rw[h'];exact List.cons_ne_nil _ _
  .obtain⟨a,b,c,d,f,hops,r0,r1,r2,r3,r4,r5,r6,hm,hs,FL,bd,st,tr,S,hu2,hT,hOf,hFL,hhd,s0,hq,rfl,hS⟩:=hF
   refine⟨_,some (tr++[Qmc a b c d ⟨#[]⟩ f false st 0]),0,⟨_,_,_,_,_,_,_,_,_,_,_,rfl,hFL⟩,hw,hT.1,hT.2.1,λ t h=> ?_,.inr ⟨_,rfl,hT⟩,λ _=>⟨_,rfl,tr,a,b,c,d,f,st,rfl,hu2,?_⟩⟩
   .cases h
    simp
   .obtain⟨v',e',hR',hv'⟩:=Qvo hL hn hu2
    have e3:=Qsk hL hn hu2 hOf hq hFL hR';simp only[V.tup.injEq,Az2,V.lit.injEq,At3,ao0,ao5]at e3;obtain⟨rfl,rfl⟩:=e3;exact⟨hR',hv'⟩
 obtain⟨rf,o2,e',hrf,hve,k1,k2,k3,k4,k5⟩:=key;simp only[V.tup.injEq,Az2,V.lit.injEq,At3,ao0,ao5]at hve;obtain⟨rfl,rfl⟩:=hve;refine⟨rf,o2,e,hrf,?_,hv,⟨λ x hx=>(k1 x hx).1,k2⟩,k4,k5⟩;obtain⟨M,hM⟩:=hR;obtain⟨N,n1,n2⟩:=Qvl M rfl hr;obtain⟨a,b,c,d,e0,f,g,rfl⟩:=hu.L;obtain⟨r0,r1,r2,r3,r4,r5,r6,hm,hs,FL,bd,rfl,hFL⟩:=hrf;rw[Qsu hLD hFL ho.1 k1 ho.2 (by omega) k3 Xbu (Qbn hM n1)]at n2;exact(ax8 n2).symm
end
theorem Qvt{k:Nat}{c:SumA}{xs:List Ar}(s:Sh)(hh:a1p (λ N=>(Lp N).cbv) k c)(hc:Qnf c xs [s]=true){vs:List V}(hv:ShL (xs.map Ar.sh) vs):∃v,Qnd k vs v/\ShOk s v:=by
 obtain⟨v,h1,s',hs,h2⟩:=Qng hh hc hv;rw[az7.1 hs]at h2;exact⟨v,h1,h2⟩
theorem Qvu{k:Nat}{c:SumA}{xs:List Ar}(hh:a1p (λ N=>(Lp N).cbv) k c)(hc:Qnf c xs [.tup [.agg (Qqk.map .td),.td kI]]=true){vs:List V}(hv:ShL (xs.map Ar.sh) vs):∃u e,Qnd k vs (.tup [u,iV e])/\Qql u:=by
 obtain⟨v,h1,h2⟩:=Qvt _ hh hc hv;obtain⟨x,y,rfl,k1,k2⟩:=Qqr h2;obtain⟨e,rfl,_,_⟩:=Qqt k2;exact⟨x,e,h1,Qqp k1 rfl (by decide)⟩
def Qvv:List TD:=[.str 1048576,.sl false 1048576 (.str 1048576),.sl false 1048576 (.agg [.str 1048576,.str 1048576,.bool]),.sl false 1048576 (.agg [.str 1048576,.str 1048576,.str 1048576,.str 1048576,.sl false 1048576 (.agg [.str 1048576,.str 1048576,.bool]),.sl false 1048576 (.agg [.str 1048576,.str 1048576,.bool])])]
theorem Qvw{v:V}{hi:Int}{d:TD}(h:InD g0 N0 (.sl false hi d) v):isD v:=by cases h<;>first|exact a6n|exact b4K
theorem Qvx{hi:Int}{v:V}(h:ShOk (.td (.str hi)) v):∃b:ByteArray,v=sV b/\(b.size:Int)<=hi:=by
 cases h with|td h=>cases h with|str h=>exact⟨_,rfl,h⟩
theorem Qvy{v:V}(h:InD g0 N0 (.agg Qvv) v):∃j A Q K,v=Qub j A Q K/\isD A/\isD Q/\isD K:=by
 unfold Qvv at h;cases h with
 | @agg _ _ _ cs h1 h2=>
   match cs,h1 with
   |[c0,c1,c2,c3],_=>
    have m0:=h2 0 _ c0 rfl rfl;have m1:=h2 1 _ c1 rfl rfl;have m2:=h2 2 _ c2 rfl rfl;have m3:=h2 3 _ c3 rfl rfl;cases m0 with|str _=>
    exact⟨_,_,_,_,rfl,Qvw m1,Qvw m2,Qvw m3⟩
theorem Qvz{r0:ByteArray}{r1:Int}{r2 r3 r4:ByteArray}{r5 r6:Bool}{hm hs:Int}{FL:V}{bd:ByteArray}{T:V}(h:InD g0 N0 (.agg Qvm) (Qpm r0 r1 r2 r3 r4 r5 r6 hm hs FL bd T)):
  Qql (Qou r0 r1 r2 r3 r4 r5 r6)/\InD g0 N0 (.agg Qqm) (.agg [iV hm,iV hs,FL])/\InD g0 N0 kI (iV hs)/\(bd.size:Int)<=1048576:=by
 unfold Qvm Qpm at h;cases h with
 |agg h1 h2=>
  refine⟨.agg rfl λ j d c hd hc=> ?_,.agg rfl λ j d c hd hc=> ?_,h2 8 _ _ rfl rfl,?_⟩
  .match j with
   |0=>exact h2 0 d c hd hc
   |1=>exact h2 1 d c hd hc
   |2=>exact h2 2 d c hd hc
   |3=>exact h2 3 d c hd hc
   |4=>exact h2 4 d c hd hc
   |5=>exact h2 5 d c hd hc
   |6=>exact h2 6 d c hd hc
   |j+7=>simp at hc
  .match j with
   |0=>exact h2 7 d c hd hc
   |1=>exact h2 8 d c hd hc
   |2=>exact h2 9 d c hd hc
   |j+3=>simp at hc
  .cases h2 10 _ _ rfl rfl with|str h=>exact h
theorem Qwa{n:Int}(h:InD g0 N0 kI (iV n)):∃e,Qnd 36 [iV n] (iV e):=by
 obtain⟨v,h1,h2⟩:=Qvt (.td kI) (Qnh (i:=366) (k:=36) (by omega) rfl) (xs:=[.cell kI]) (by decide +kernel) (vs:=[iV n]) (ShL.cons.2 ⟨.td h,ShL.nil⟩);obtain⟨e,rfl,_⟩:=Qqt h2;exact⟨e,h1⟩
def Xaa:TD:= .sl false 64 (.agg [.int .i64 1 4,.str 12573,.str 253,kI])
def Xab(F:V):Prop:=∃fk fs fh fp NM via fb fu FT,F=Qto fk fs fh fp NM via fb fu FT/\isD NM/\isD FT/\InD g0 N0 Xaa NM
theorem Xac:Xab Qtp:=⟨_,_,_,_,_,_,_,_,_,rfl,a6n,a6n,.nils (by decide)⟩
def Xad:List TD:=[kI,.str 12573,.str 253,kI]
theorem Xae{k:Nat}{xs b:List V}{r:V×List (List V)}{m N:Nat}(h:(a0d P0 a4w inlS m).cbv k xs [b]=some r)(hm:m<=N):(a0d P0 a4w inlS N).cbv k xs [b]=some r:=(a0L (P:=P0) (prim:=a4w) (inl:=inlS) hm).cbv _ _ _ _ h
theorem Xaf{r0:ByteArray}{r1:Int}{r2 r3 r4:ByteArray}{r5 r6:Bool}{hm hs:Int}{FL:V}{bd:ByteArray}{T:V}(h:InD g0 N0 (.agg Qvm) (Qpm r0 r1 r2 r3 r4 r5 r6 hm hs FL bd T)):isD T:=by
 unfold Qvm Qpm at h;cases h with
 |agg h1 h2=>exact Qvw (h2 11 _ _ rfl rfl)
def Xag:List TD:=[kI,.str 1048576,.sl false 1048576 (.str 1048576),.sl false 1048576 (.val false 1048576)]
def Xah:List TD:=[.str 1048576,.str 1048576,.sl false 1048576 (.agg [.str 1048576,.str 1048576])]
theorem Xai:InD g0 N0 (.agg Qvv) Xbn:= .agg rfl λ j d c hd hc=>by
 match j with
 |0=>simp[Qvv]at hd hc;subst hd;subst hc;exact .str (by decide)
 |1=>simp[Qvv]at hd hc;subst hd;subst hc;exact .nils (by decide)
 |2=>simp[Qvv]at hd hc;subst hd;subst hc;exact .nils (by decide)
 |3=>simp[Qvv]at hd hc;subst hd;subst hc;exact .nils (by decide)
 |j+4=>simp at hc
theorem Xaj{r0:ByteArray}{r1:Int}{r2 r3 r4:ByteArray}{r5 r6:Bool}{hm hs:Int}{FL:V}{bd:ByteArray}(hF:isD FL)(hH:InD g0 N0 (.agg Qqm) (.agg [iV hm,iV hs,FL]))(hb:(bd.size:Int)<=1048576):
  ∃J e,InD g0 N0 (.agg Qvv) J/\∀T,isD T->Qnd 37 [Qpm r0 r1 r2 r3 r4 r5 r6 hm hs FL bd T] (.tup [J,iV e]):=by
 obtain⟨v2,⟨M2,h72⟩,q2⟩:=Qvt (.tup [.td (.str 1048576),.td .bool]) (Qnh (i:=332) (k:=72) (by omega) rfl) (xs:=[.agg Qqm,.cell (.str 64)]) (by decide +kernel) (vs:=[.agg [iV hm,iV hs,FL],sV Xbc]) (ShL.cons.2 ⟨Qqq hH,ShL.cons.2 ⟨.td (.str (by decide)),ShL.nil⟩⟩);obtain⟨x,y,rfl,k3,k4⟩:=Qqr q2;obtain⟨ct,rfl,hct⟩:=Qvx k3;obtain⟨ok,rfl⟩:=Qqu k4;obtain⟨v3,⟨M3,h80⟩,Xbt⟩:=Qvt (.tup [.agg (Xah.map .td),.td kI]) (Qnh (i:=445) (k:=80) (by omega) rfl) (xs:=[.cell (.str 1048576)]) (by decide +kernel) (vs:=[sV ct]) (ShL.cons.2 ⟨.td (.str hct),ShL.nil⟩);obtain⟨M,y,rfl,k3,k4⟩:=Qqr Xbt;obtain⟨e,rfl,_⟩:=Qqt k4;obtain⟨v4,⟨M4,h81⟩,q4⟩:=Qvt (.td .bool) (Qnh (i:=377) (k:=81) (by omega) rfl) (xs:=[.agg Xah]) (by decide +kernel) (vs:=[M]) (ShL.cons.2 ⟨k3,ShL.nil⟩);obtain⟨q,rfl⟩:=Qqu q4;obtain⟨v5,⟨M5,h82⟩,q5⟩:=Qvt (.tup [.agg (Xag.map .td),.td kI,.td kI]) (Qnh (i:=448) (k:=82) (by omega) rfl) (xs:=[.cell (.str 1048576)]) (by decide +kernel) (vs:=[sV bd]) (ShL.cons.2 ⟨.td (.str hb),ShL.nil⟩);obtain⟨W,y,z,rfl,k5,k6,k7⟩:=Qqs q5;obtain⟨n1,rfl,_⟩:=Qqt k6;obtain⟨e2,rfl,_⟩:=Qqt k7;obtain⟨v6,⟨M6,h83⟩,q6⟩:=Qvt (.tup [.agg (Qvv.map .td),.td kI]) (Qnh (i:=401) (k:=83) (by omega) rfl) (xs:=[.agg Xag]) (by decide +kernel) (vs:=[W]) (ShL.cons.2 ⟨k5,ShL.nil⟩);obtain⟨J,y,rfl,k8,k9⟩:=Qqr q6;obtain⟨e3,rfl,_⟩:=Qqt k9;have hJ:InD g0 N0 (.agg Qvv) J:=Qqp k8 rfl (by decide);have hM:InD g0 N0 (.agg Xah) M:=Qqp k3 rfl (by decide);have hW:InD g0 N0 (.agg Xag) W:=Qqp k5 rfl (by decide);obtain⟨jb,JA,JQ,JK,rfl,hA,hQ,hK⟩:=Qvy hJ;obtain⟨ma,mb,ML,rfl,hML⟩:∃a b c,M= .agg [sV a,sV b,c]/\isD c:=by
  unfold Xah at hM;cases hM with
  | @agg _ _ _ cs h1 h2=>
    match cs,h1 with
    |[c0,c1,c2],_=>
     have m0:=h2 0 _ c0 rfl rfl;have m1:=h2 1 _ c1 rfl rfl;have m2:=h2 2 _ c2 rfl rfl;cases m0 with|str _=>cases m1 with|str _=>exact⟨_,_,_,rfl,Qvw m2⟩
 obtain⟨vk,vs,VK,VI,rfl,hVK,hVI⟩:∃a b c d,W= .agg [iV a,sV b,c,d]/\isD c/\isD d:=by
  unfold Xag at hW;cases hW with
  | @agg _ _ _ cs h1 h2=>
    match cs,h1 with
    |[c0,c1,c2,c3],_=>
     have m0:=h2 0 _ c0 rfl rfl;have m1:=h2 1 _ c1 rfl rfl;have m2:=h2 2 _ c2 rfl rfl;have m3:=h2 3 _ c3 rfl rfl;cases m0 with|int _ _=>cases m1 with|str _=>exact⟨_,_,_,_,rfl,Qvw m2,Qvw m3⟩
 have key:∀T,isD T->Qnd 37 [Qpm r0 r1 r2 r3 r4 r5 r6 hm hs FL bd T] (.tup (if ok=true/\e=0/\q=true then if e2=0 then [Qub jb JA JQ JK,iV e3]else [Xbn,iV e2]else [Xbn,iV 200])):=λ T hT=>by
  let N:=max (max M2 M3) (max M4 (max M5 M6));exact⟨N+1,Qbz rfl Tryz.func37 rfl rfl (by simp[Tryz.f37]) (Xbo hF hT hML hVK hVI hA hQ hK Xbu (Qbn h72 (by omega)) (Qbn h80 (by omega)) (Qbn h81 (by omega)) (Qbn h82 (by omega)) (Qbn h83 (by omega)))⟩
 by_cases h1:ok=true/\e=0/\q=true
 .by_cases h2:e2=0
  .simp only[ax3 h1,ax3 h2]at key
   exact⟨_,_,hJ,key⟩
  .simp only[ax3 h1,ay9 h2]at key
   exact⟨_,_,Xai,key⟩
 .simp only[ay9 h1]at key
  exact⟨_,_,Xai,key⟩
section
variable {k p:Int} {s h:ByteArray}
theorem Xak{x:ByteArray}(hs:s.size<=12573)(hx:(x.size:Int)<=1048576):∃N b,(a0d P0 a4w inlS N).cbv 38 [sV x,.ptr 0 0] [Xao k s h p]=some (bV b,[Xao k s h p]):=by
 obtain⟨v,⟨M,h39⟩,hv⟩:=Qvt (.td .bool) (Qnh (i:=466) (k:=39) (by omega) rfl) (xs:=[.cell (.str 1048576),.cell (.str 1048576)]) (by decide +kernel) (vs:=[sV x,sV s]) (ShL.cons.2 ⟨.td (.str hx),ShL.cons.2 ⟨.td (.str (by omega)),ShL.nil⟩⟩);obtain⟨b,rfl⟩:=Qqu hv;exact⟨M+1,b,Xan rfl Tryz.func38 rfl rfl (by simp[Tryz.f38]) (Xat Xbu h39)⟩
theorem Xal{A:V}(hs:s.size<=12573)(hA:InD g0 N0 (.sl false 1048576 (.str 1048576)) A):∃N b,(a0d P0 a4w inlS N).cbv 40 [A,.fn 38 [] [.ptr 0 0]] [Xao k s h p]=some (bV b,[Xao k s h p]):=by
 have hAD:=Qvw hA;have key:∃N,∃j:Int,(a0d P0 a4w inlS N).cbv 84 [A,.fn 38 [] [.ptr 0 0]] [Xao k s h p]=some (iV j,[Xao k s h p]):=by
  cases hA with
  |nils _=>exact⟨2,-1,Xan (n:=1) rfl Tryz.func84 rfl rfl (by simp[Tryz.f84]) (Xaz (by omega))⟩
  | @sl _ _ _ _ _ ys hl he=>
    have hall:∀l:List V,(∀y∈l,y∈ys)->∃N,∀y∈l,∃x,y=sV x/\∃b,(a0d P0 a4w inlS N).cbv 38 [sV x,.ptr 0 0] [Xao k s h p]=some (bV b,[Xao k s h p]):=by
     intro l;induction l with
     |nil=>exact λ _=>⟨0,λ _ h=>(by cases h)⟩
     |cons y r ih=>
      intro hy;obtain⟨N,hN⟩:=ih λ z hz=>hy z (az9 _ hz);cases he y (hy y (ay1 ..))with
      | @str _ _ _ x hx=>
        obtain⟨M,b,hb⟩:=Xak (k:=k) (s:=s) (h:=h) (p:=p) hs hx;refine⟨max M N,λ z hz=> ?_⟩;rcases ay4.1 hz with rfl|hz
        .exact⟨x,rfl,b,Xae hb (by omega)⟩
        .obtain⟨x,hx,b,hb⟩:=hN z hz
         exact⟨x,hx,b,Xae hb (by omega)⟩
    obtain⟨N,hN⟩:=hall ys λ _ h=>h;obtain⟨j,hj⟩:=Xay (call:=a0d P0 a4w inlS (max N (ys.length+1))) (n:=max N (ys.length+1)) (k:=k) (s:=s) (h:=h) (p:=p) (ys:=ys) Xbu (λ y hy=>by
     obtain⟨x,hx,b,hb⟩:=hN y hy;exact⟨x,hx,b,Xae hb (by omega)⟩) (by omega) (by omega)
    exact⟨_,j,Xan rfl Tryz.func84 rfl rfl (by simp[Tryz.f84]) hj⟩
 obtain⟨N,j,hj⟩:=key;obtain⟨b,hb⟩:=Xbb (n:=N) hAD Xbu hj;exact⟨N+1,b,Xan rfl Tryz.func40 rfl rfl (by simp[Tryz.f40]) hb⟩
theorem Xam{rf:V->V}{T:V}(hrf:Qvn rf)(hT:InD g0 N0 (.agg Qvm) (rf T))(hid:InD g0 N0 (.agg Xad) (Qtq k s h p)):
  ∃F e,Xab F/\Qnd 13 [rf T,Qtq k s h p] (.tup [F,iV e])/\∀T',InD g0 N0 (.agg Qvm) (rf T')->Qnd 13 [rf T',Qtq k s h p] (.tup [F,iV e]):=by
 obtain⟨r0,r1,r2,r3,r4,r5,r6,hm,hs,FL,bd,rfl,hFL⟩:=hrf;obtain⟨_,hH,hS,hb⟩:=Qvz hT;have hsz:s.size<=12573:=by
  unfold Xad Qtq at hid;cases hid with
  |agg _ h2=>cases h2 1 _ _ rfl rfl with|str h=>omega
 obtain⟨e3,M1,h36⟩:=Qwa hS;obtain⟨J,e4,hJ,h37⟩:=Xaj (r0:=r0) (r1:=r1) (r2:=r2) (r3:=r3) (r4:=r4) (r5:=r5) (r6:=r6) hFL hH hb;obtain⟨v1,⟨M2,h41⟩,q1⟩:=Qvt (.td (.sl false 64 (.agg [.int .i64 1 4,.str 12573,.str 253,kI]))) (Qnh (i:=471) (k:=41) (by omega) rfl) (xs:=[.agg Qvv,.agg Xad]) (by decide +kernel) (vs:=[J,Qtq k s h p]) (ShL.cons.2 ⟨Qqq hJ,ShL.cons.2 ⟨Qqq hid,ShL.nil⟩⟩);have hNM:InD g0 N0 Xaa v1:=by cases q1 with|td q1=>exact q1
 have hN:isD v1:=Qvw hNM;obtain⟨v2,⟨M3,h42⟩,q2⟩:=Qvt (.agg [.td .bool,.td kU]) (Qnh (i:=453) (k:=42) (by omega) rfl) (xs:=[.agg Qqm]) (by decide +kernel) (vs:=[.agg [iV hm,iV hs,FL]]) (ShL.cons.2 ⟨Qqq hH,ShL.nil⟩);obtain⟨fb,fu,rfl⟩:∃a b,v2= .agg [bV a,Qaa b]:=by
  cases q2 with
  | @agg _ cs h1 h2=>
    match cs,h1 with
    |[c0,c1],_=>
     obtain⟨a,rfl⟩:=Qqu (h2 0 _ c0 rfl rfl);obtain⟨b,rfl,_⟩:=Qqt (h2 1 _ c1 rfl rfl);exact⟨a,b,rfl⟩
 obtain⟨jb,JA,JQ,JK,rfl,hA,hQ,hK⟩:=Qvy hJ;have hj2:(jb.size:Int)<=1048576/\InD g0 N0 (.sl false 1048576 (.str 1048576)) JA:=by
  unfold Qvv Qub at hJ;cases hJ with
  |agg _ h2=>exact⟨by cases h2 0 _ _ rfl rfl with|str h=>exact h,h2 1 _ _ rfl rfl⟩
 obtain⟨M4,q,h38⟩:=Xak (k:=k) (s:=s) (h:=h) (p:=p) hsz hj2.1;obtain⟨M5,q2,h40⟩:=Xal (k:=k) (s:=s) (h:=h) (p:=p) hsz hj2.2;have key:∀T',InD g0 N0 (.agg Qvm) (Qpm r0 r1 r2 r3 r4 r5 r6 hm hs FL bd T')->Qnd 13 [Qpm r0 r1 r2 r3 r4 r5 r6 hm hs FL bd T',Qtq k s h p] (.tup (if e3=0 then if e4=0 then if q=true\/q2=true then [Qto k s h p v1 0 fb fu .nils,iV 0]else [Qtp,iV 270]else [Qtp,iV e4]else [Qtp,iV e3])):=λ T' hT'=>by
  obtain⟨w,hw,_⟩:=Qng (Qnh (i:=476) (k:=13) (by omega) rfl) (xs:=[.agg Qvm,.agg Xad]) (ps:=[.tup [.agg [.td kI,.td (.str 1048576),.td (.str 1048576),.td kI,.td (.sl false 64 (.agg [.int .i64 1 4,.str 12573,.str 253,kI])),.td kI,.td .bool,.td kU,.nils],.td kI]]) (by decide +kernel) (vs:=[_,Qtq k s h p]) (ShL.cons.2 ⟨Qqq hT',ShL.cons.2 ⟨Qqq hid,ShL.nil⟩⟩);obtain⟨M6,h37'⟩:=h37 T' (Xaf hT');obtain⟨N,n1,n2⟩:=a9P (m:=max (max M1 M2) (max (max M3 M4) (max M5 M6))) rfl hw;rw[Xbp hFL (Xaf hT') hA hQ hK hN Xbu (Qbn h36 (by omega)) (Qbn h37' (by omega)) (Xae h38 (by omega)) (Xae h40 (by omega)) (Qbn h41 (by omega)) (Qbn h42 (by omega))]at n2;have n3:=an8 Prod.fst (ax8 n2);simp only at n3;rw[n3];exact hw
 have hFF:Xab (Qto k s h p v1 0 fb fu .nils):=⟨_,_,_,_,_,_,_,_,_,rfl,hN,a6n,hNM⟩;split at key
 .split at key
  .split at key
   .exact⟨_,_,hFF,key T hT,key⟩
   .exact⟨_,_,Xac,key T hT,key⟩
  .exact⟨_,_,Xac,key T hT,key⟩
 .exact⟨_,_,Xac,key T hT,key⟩
end
def Qwb(L:V)(now:Int)(id:V)(t:List V)(F:V):Prop:=∃tr0 a b c d f st R,t=tr0++[Qmc a b c d ⟨#[]⟩ f false st 0]/\Qql (Qou a b c d ⟨#[]⟩ f false)/\Qnd 12 [L,Qaa now,Qou a b c d ⟨#[]⟩ f false] (.tup [R,iV 0])/\Qnd 13 [R,id] (.tup [F,iV 0])
section
variable {L:V} {now k p:Int} {s h:ByteArray}
theorem Qvp.f{rf:V->V}{t:List V}{F:V}(hl:Qvp L now rf t)(hF:∀T',InD g0 N0 (.agg Qvm) (rf T')->Qnd 13 [rf T',Qtq k s h p] (.tup [F,iV 0]))(t0:List V):Qwb L now (Qtq k s h p) (t0++t) F:=by
 obtain⟨tr0,a,b,c,d,f,st,rfl,hu,hR,hD⟩:=hl;exact⟨t0++tr0,a,b,c,d,f,st,_,by rw[Ay5],hu,hR,hF _ hD⟩
theorem Qvq.app{o o2:Option (List V)}{m n:Nat}(h:Qvq o m)(h2:Qvq o2 n):Qvq (Qsm o o2) (m+n):=by
 cases o with
 |none=>exact⟨h2.1,av9 h2.2 (Nat.le_add_left ..)⟩
 |some a=>
  refine⟨λ x hx=> ?_,?_⟩
  .rcases ax1.1 (show x∈a++Xcq o2 from hx)with hx|hx
   .exact h.1 x hx
   .exact h2.1 x hx
  .show(a++Xcq o2).length<=m+n
   rw[ar0];exact Nat.add_le_add h.2 h2.2
theorem Qwc(hL:InD g0 N0 (.sl false 1048576 Qne) L)(hn:0<=now/\now<=18446744073709551615)(hid:InD g0 N0 (.agg Xad) (Qtq k s h p)){t:List V}{m:Nat}{u:V}{r:V×List (List V)}(hu:Qql u)(ht:Qvq (some t) m)(hm:m<=1000)(hr:Qvk 70 [.ptr 0 0,u] (Qsl L now k s h p (.sl (some (44,9,false)) t)) r):
  ∃F e y,Xab F/\r=(.tup [F,iV e],[Qsl L now k s h p (.sl (some (44,9,false)) (t++y))])/\Qvq (some (t++y)) (m+10)/\(e=0->Qwb L now (Qtq k s h p) (t++y) F):=by
 have hLD:isD L:=by cases hL<;>first|exact a6n|exact b4K
 obtain⟨N,n1,n2⟩:=Qvl 0 rfl hr;obtain⟨a,b,c,d,e0,f,g,rfl⟩:=hu.L;cases h67:(a0d P0 a4w inlS N).cbv 67 [.ptr 0 0,Qou a b c d e0 f g] [Qsl L now k s h p (.sl (some (44,9,false)) t)]with
 |none=>rw[Quf (t:=t) hLD ht.1 Xbu h67]at n2;cases n2
 |some r67=>
  obtain⟨rf,o2,e,hrf,rfl,hD,hT2,_,hl⟩:=Qvs (o:=some t) hL hn hu ⟨ht.1,av9 ht.2 hm⟩ ⟨N,h67⟩;obtain⟨F,e2,hF,h13,hall⟩:=Xam hrf hD hid;obtain⟨M,hM⟩:=h13;obtain⟨N',k1,k2⟩:=Qvl (max M N) rfl hr;have c67:=(a0L (P:=P0) (prim:=a4w) (inl:=inlS) (by omega:N<=N')).cbv _ _ _ _ h67;have c13:=Qbn hM (by omega:M<=N');have hTT:=Qvq.app ht hT2;obtain⟨r0,r1,r2,r3,r4,r5,r6,hm,hs,FL,bd,rfl,hFL⟩:=hrf;obtain⟨fk,fs,fh,fp,NM,via,fb,fu,FT,rfl,hN,hFT,hNM⟩:=hF;rw[Que (t:=t) (t':=t++Xcq o2) hLD hFL Xcr hN hFT ht.1 hTT.1 Xbu c67 (λ _=>c13)]at k2;have k2:=(ax8 k2).symm;by_cases he:e=0
  .rw[ax3 he]at k2
   refine⟨_,e2,Xcq o2,⟨_,_,_,_,_,_,_,_,_,rfl,hN,hFT,hNM⟩,k2,hTT,λ h2=> ?_⟩;obtain⟨t2,rfl,hl2⟩:=hl he;subst h2;exact hl2.f hall t
  .rw[ay9 he]at k2
   exact⟨Qtp,e,Xcq o2,Xac,k2,hTT,λ h=>absurd h he⟩
def Qwd:List TD:=[.str 1099511627776,kI,.str 65536,.str 65536,.str 65536,.bool,.bool]
def Qwe(p:PostA):Bool:=match p.res with
 | .tup [.agg (.av (.str e)::_),_]=>decide (hiE e<=65536)||(match e with
   |⟨0,[(s,1)]⟩=>s.id==2
   |_=>false)
 |_=>false
theorem Qwf{f:Nat}{c:SumA}(hh:a1p (λ N=>(Lp N).cbv) f c)(hc:Qnf c [.agg Xad] [.tup [.agg (Qwd.map .td),.td kI]]=true)(hf:(d7d c [.agg Xad]&&c.posts.all Qwe)=true)(h4:c.n=4)(hid:InD g0 N0 (.agg Xad) (Qtq k s h p)):
  ∃u e,Qnd f [Qtq k s h p] (.tup [u,iV e])/\Qql u:=by
 have hv:ShL ([Ar.agg Xad].map Ar.sh) [Qtq k s h p]:=ShL.cons.2 ⟨Qqq hid,ShL.nil⟩;have hh2:(h.size:Int)<=253:=by
  unfold Xad Qtq at hid;cases hid with
  |agg _ h2=>cases h2 2 _ _ rfl rfl with|str h=>exact h
 obtain⟨v,h1,h2⟩:=Qvt _ hh hc hv;obtain⟨v',h1',Qnw,hp,ρ',q1,_,Xbt⟩:=Qrc (P:=Qwe) hh hf hv;have:=Xcy h1 h1';subst this;obtain⟨x,y,rfl,k1,k2⟩:=Qqr h2;obtain⟨e,rfl,_,_⟩:=Qqt k2;refine⟨x,e,h1,?_⟩;have k1:InD g0 N0 (.agg Qwd) x:=Qqp k1 rfl (by decide);unfold Qwe at hp;split at hp
 .next e1 l1 l2 he=>
  rw[he]at Xbt;cases Xbt with
  |tup Xbt=>
   have Xbt:=Xbt.2 0 _ _ rfl rfl;cases Xbt with
   | @agg _ cs q5=>
     unfold Qwd at k1;cases k1 with
     |agg w1 w2=>
      match cs,w1 with
      |[c0,c1,c2,c3,c4,c5,c6],w1=>
       have hb:InD g0 N0 (.str 65536) c0:=by
        cases q5.2 0 _ _ rfl rfl with
        |av _ q=>cases q with
         |str o1 o2=>
          refine .str ?_;rw[ay8]at hp;rcases hp with hp|hp
          .exact Int.le_trans (o2▸b9I o1) (at8 hp)
          .split at hp
           .next sy=>
            have:=q1 2 (by rw[h4];omega);rw[show c7T (b3X [Ar.agg Xad] [Qtq k s h p]) 2=(h.size:Int)from rfl]at this;simp[LE.ev,tsv,aw5.1 hp,GB,Gm.bare,this]at o2;omega
           .cases hp
       refine .agg rfl λ j d c hd hc=> ?_
       match j with
       |0=>simp[Qqk]at hd hc;subst hd;subst hc;exact hb
       |1=>exact w2 1 d c hd hc
       |2=>exact w2 2 d c hd hc
       |3=>exact w2 3 d c hd hc
       |4=>exact w2 4 d c hd hc
       |5=>exact w2 5 d c hd hc
       |6=>exact w2 6 d c hd hc
       |j+7=>simp at hc
 .cases hp
theorem Qwg(hL:InD g0 N0 (.sl false 1048576 Qne) L)(hn:0<=now/\now<=18446744073709551615)(hid:InD g0 N0 (.agg Xad) (Qtq k s h p)){r:V×List (List V)}(hr:Qvk 31 [.ptr 0 0] (Qsl L now k s h p .nils) r):
  ∃u e0 F e more o2,Qnd 66 [Qtq k s h p] (.tup [u,iV e0])/\Qql u/\Xab F/\r=(.tup [F,iV e,bV more],[Qsl L now k s h p (Qqa 44 9 o2)])/\Qvq o2 10/\(more=true->∃t,o2=some t)/\(more=false->e=0->∃t,o2=some t/\Qwb L now (Qtq k s h p) t F)/\
   (e0=0->(o2=none/\Qnd 76 [u] (bV false))\/∃tr,o2=some tr/\Qrf (Qse u) tr):=by
 have hLD:isD L:=by cases hL<;>first|exact a6n|exact b4K
 obtain⟨u,e0,h66,hu⟩:=Qwf (Qnh (i:=465) (k:=66) (by omega) rfl) (by decide +kernel) (by decide +kernel) rfl hid;obtain⟨a,b,c,d,e',f,g,rfl⟩:=hu.L;obtain⟨M,hM⟩:=h66;obtain⟨N,n1,n2⟩:=Qvl M rfl hr;have c66:=Qbn hM n1;by_cases h0:e0=0
 .subst h0
  cases h67:(a0d P0 a4w inlS N).cbv 67 [.ptr 0 0,Qou a b c d e' f g] [Qsl L now k s h p .nils]with
  |none=>rw[Quh hLD Xbu c66 h67]at n2;cases n2
  |some r67=>
   obtain⟨rf,o2,e,hrf,rfl,hD,hT2,hcs,hl⟩:=Qvs (o:=none) hL hn hu ⟨λ _ h=>(by cases h),aw7 _⟩ ⟨N,h67⟩;obtain⟨F,e2,hF,h13,hall⟩:=Xam hrf hD hid;obtain⟨M2,hM2⟩:=h13;obtain⟨N',k1,k2⟩:=Qvl (max (max M M2) N) rfl hr;have c67:=(a0L (P:=P0) (prim:=a4w) (inl:=inlS) (by omega:N<=N')).cbv _ _ _ _ h67;have c13:=Qbn hM2 (by omega:M2<=N');have c66:=Qbn hM (by omega:M<=N');obtain⟨r0,r1,r2,r3,r4,r5,r6,hm,hs,FL,bd,rfl,hFL⟩:=hrf;obtain⟨fk,fs,fh,fp,NM,via,fb,fu,FT,rfl,hN,hFT,hNM⟩:=hF;have hl':e=0->∃t,o2=some t:=λ he=>by
    obtain⟨t,ht,_⟩:=hl he;exact⟨t,ht⟩
   rw[Qug hLD hFL Xcr hN hFT hT2.1 Xbu c66 (λ _=>c67) (λ _=>hl') (λ _ _=>c13)]at k2;rw[ax3 rfl,ax3 rfl]at k2;have k2:=(ax8 k2).symm;by_cases he:e=0
   .rw[ax3 he]at k2
    refine⟨_,0,_,e2,_,o2,⟨M,hM⟩,hu,⟨_,_,_,_,_,_,_,_,_,rfl,hN,hFT,hNM⟩,k2,hT2,λ _=>hl' he,λ _ h2=> ?_,λ _=>hcs⟩;obtain⟨t2,rfl,hl2⟩:=hl he;subst h2;exact⟨t2,rfl,hl2.f hall []⟩
   .rw[ay9 he]at k2
    exact⟨_,0,Qtp,e,false,o2,⟨M,hM⟩,hu,Xac,k2,hT2,λ h=>(by cases h),λ _ h=>absurd h he,λ _=>hcs⟩
 .rw[Qug (o':=none) (e:=0) (e2:=0) (r0:=⟨#[]⟩) (r1:=0) (r2:=⟨#[]⟩) (r3:=⟨#[]⟩) (r4:=⟨#[]⟩) (r5:=false) (r6:=false) (hm:=0) (hs:=0) (bd:=⟨#[]⟩) (fk:=0) (fs:=⟨#[]⟩) (fh:=⟨#[]⟩) (fp:=0) (via:=0) (fb:=false) (fu:=0) hLD a6n a6n a6n a6n (λ _ h=>(by cases h)) Xbu c66 (λ h=>absurd h h0) (λ h=>absurd h h0) (λ h=>absurd h h0)]at n2
  rw[ay9 h0,ay9 h0]at n2;exact⟨_,e0,Qtp,e0,false,none,⟨M,hM⟩,hu,Xac,(ax8 n2).symm,⟨λ _ h=>(by cases h),aw7 _⟩,λ h=>(by cases h),λ _ h=>absurd h h0,λ h=>absurd h h0⟩
end
section
variable {L:V} {now k p:Int} {s h:ByteArray}
theorem Qsv{v:V}(h:InD g0 N0 (.agg Qvm) v):∃j e,Qnd 37 [v] (.tup [j,iV e])/\InD g0 N0 (.agg Qvv) j:=by
 obtain⟨v,h1,h2⟩:=Qvt (.tup [.agg (Qvv.map .td),.td kI]) (Qnh (i:=449) (k:=37) (by omega) rfl) (xs:=[.agg Qvm]) (by decide +kernel) (vs:=[v]) (ShL.cons.2 ⟨Qqq h,ShL.nil⟩);obtain⟨x,y,rfl,k1,k2⟩:=Qqr h2;obtain⟨e,rfl,_⟩:=Qqt k2;exact⟨x,e,h1,Qqp k1 rfl (by decide)⟩
theorem Qvq.pre{t:List V}{o:Option (List V)}{m n:Nat}(h:Qvq (some t) m)(h2:Qvq o n):Qvq (some (t++Xcq o)) (m+n):=Qvq.app h h2
def Qsw(L:V)(now k:Int)(s h:ByteArray)(p:Int)(t:List V)(m:Nat)(r:V×List (List V)):Prop:=∃F e more y,Xab F/\r=(.tup [F,iV e,bV more],[Qsl L now k s h p (.sl (some (44,9,false)) (t++y))])/\Qvq (some (t++y)) (m+20)/\(more=false->e=0->Qwb L now (Qtq k s h p) (t++y) F)
theorem Qvq.le{o:Option (List V)}{m n:Nat}(h:Qvq o m)(hl:m<=n):Qvq o n:=⟨h.1,av9 h.2 hl⟩
theorem Qsx(hL:InD g0 N0 (.sl false 1048576 Qne) L)(hn:0<=now/\now<=18446744073709551615)(hid:InD g0 N0 (.agg Xad) (Qtq k s h p)){t:List V}{m:Nat}{r:V×List (List V)}(ht:Qvq (some t) m)(hm:m<=900)(hr:Qvk 32 [.ptr 0 0] (Qsl L now k s h p (.sl (some (44,9,false)) t)) r):
  Qsw L now k s h p t m r:=by
 have hLD:isD L:=by cases hL<;>first|exact a6n|exact b4K
 obtain⟨u,e0,⟨M,hM⟩,hu⟩:=Qwf (Qnh (i:=472) (k:=68) (by omega) rfl) (by decide +kernel) (by decide +kernel) rfl hid;obtain⟨a,b,c,d,e',f,g,rfl⟩:=hu.L;obtain⟨N,n1,n2⟩:=Qvl M rfl hr;cases h67:(a0d P0 a4w inlS N).cbv 67 [.ptr 0 0,Qou a b c d e' f g] [Qsl L now k s h p (.sl (some (44,9,false)) t)]with
 |none=>rw[Quj (t:=t) hLD ht.1 Xbu (Qbn hM n1) h67]at n2;cases n2
 |some r67=>
  obtain⟨rf,o2,e,hrf,rfl,hD,hT2,_,_⟩:=Qvs (o:=some t) hL hn hu (ht.le (by omega)) ⟨N,h67⟩;have hT:=Qvq.pre ht hT2;obtain⟨r0,r1,r2,r3,r4,r5,r6,hm',hs,FL,bd,rfl,hFL⟩:=hrf;obtain⟨hU,hH,hS,_⟩:=Qvz hD;obtain⟨e3,M3,h36⟩:=Qwa hS;obtain⟨J,e4,⟨M4,h37⟩,hJ⟩:=Qsv hD;obtain⟨u2,e5,⟨M5,h69⟩,hu2⟩:=Qvu (Qnh (i:=457) (k:=69) (by omega) rfl) (xs:=[.agg Qvv,.agg Xad]) (by decide +kernel) (vs:=[J,Qtq k s h p]) (ShL.cons.2 ⟨Qqq hJ,ShL.cons.2 ⟨Qqq hid,ShL.nil⟩⟩);obtain⟨j,A,Q,K,rfl,hA,hQ,hK⟩:=Qvy hJ;obtain⟨a',b',c',d',e'',f',g',rfl⟩:=hu2.L;obtain⟨N',k1,k2⟩:=Qvl (max (max M N) (max M3 (max M4 M5))) rfl hr;have c67:=(a0L (P:=P0) (prim:=a4w) (inl:=inlS) (by omega:N<=N')).cbv _ _ _ _ h67;have c68:=Qbn hM (by omega:M<=N');have c36:=Qbn h36 (by omega:M3<=N');have c37:=Qbn h37 (by omega:M4<=N');have c69:=Qbn h69 (by omega:M5<=N');by_cases hz:e=0/\e3=0/\e4=0/\e5=0
  .obtain⟨rfl,rfl,rfl,rfl⟩:=hz
   cases h70:(a0d P0 a4w inlS N').cbv 70 [.ptr 0 0,Qou a' b' c' d' e'' f' g'] [Qsl L now k s h p (.sl (some (44,9,false)) (t++Xcq o2))]with
   |none=>
    rw[Quk (t:=t) (t':=t++Xcq o2) hLD hFL Xcr hA hQ hK ht.1 hT.1 Xbu c68 c67 c36 c37 c69 h70]at k2;cases k2
   |some r70=>
    obtain⟨F,e6,y,hF,rfl,hT3,hl⟩:=Qwc hL hn hid hu2 hT (by omega) ⟨N',h70⟩;obtain⟨fk,fs,fh,fp,NM,via,fb,fu,FT,rfl,hN,hFT,hNM⟩:=hF;rw[Qui (t:=t) (t':=t++Xcq o2) (t'':=t++Xcq o2++y) hLD hFL Xcr hA hQ hK ht.1 hT.1 Xbu hT3.1 hN hFT c68 c67 c36 c37 c69 (λ _ _ _ _=>h70)]at k2;rw[ax3 rfl,ax3 rfl,ax3 rfl,ax3 rfl]at k2;rw[Ay5]at k2 hT3 hl;exact⟨_,e6,false,_,⟨_,_,_,_,_,_,_,_,_,rfl,hN,hFT,hNM⟩,(ax8 k2).symm,hT3.le (by omega),λ _=>hl⟩
  .rw[Qui (t:=t) (t':=t++Xcq o2) (t'':=[]) (e6:=0) (fk:=0) (fs:=⟨#[]⟩) (fh:=⟨#[]⟩) (fp:=0) (via:=0) (fb:=false) (fu:=0) hLD hFL Xcr hA hQ hK ht.1 hT.1 Xbu (λ _ h=>(by cases h)) a6n a6n c68 c67 c36 c37 c69 (λ a b c d=>absurd ⟨a,b,c,d⟩ hz)]at k2
   have k2:=(ax8 k2).symm;split at k2
   .split at k2
    .split at k2
     .split at k2
      .next a b c d=>exact absurd ⟨a,b,c,d⟩ hz
      .next h5=>exact⟨_,e5,false,_,Xac,k2,hT.le (by omega),λ _ h=>absurd h h5⟩
     .next h4=>exact⟨_,e4,false,_,Xac,k2,hT.le (by omega),λ _ h=>absurd h h4⟩
    .next h3=>exact⟨_,e3,_,_,Xac,k2,hT.le (by omega),λ _ h=>absurd h h3⟩
   .next h0=>exact⟨_,e,false,_,Xac,k2,hT.le (by omega),λ _ h=>absurd h h0⟩
def Qsy:TD:= .agg [.str 1048576,.sl false 1048576 (.str 1048576),.sl false 1048576 (.agg [.str 1048576,.str 1048576])]
theorem Qsz(hL:InD g0 N0 (.sl false 1048576 Qne) L)(hn:0<=now/\now<=18446744073709551615)(hid:InD g0 N0 (.agg Xad) (Qtq k s h p)){t:List V}{m:Nat}{r:V×List (List V)}(ht:Qvq (some t) m)(hm:m<=900)(hr:Qvk 33 [.ptr 0 0] (Qsl L now k s h p (.sl (some (44,9,false)) t)) r):
  ∃F e y,Xab F/\r=(.tup [F,iV e,bV false],[Qsl L now k s h p (.sl (some (44,9,false)) (t++y))])/\Qvq (some (t++y)) (m+20)/\(e=0->Qwb L now (Qtq k s h p) (t++y) F):=by
 have hLD:isD L:=by cases hL<;>first|exact a6n|exact b4K
 obtain⟨u,e0,⟨M,hM⟩,hu⟩:=Qwf (Qnh (i:=473) (k:=71) (by omega) rfl) (by decide +kernel) (by decide +kernel) rfl hid;obtain⟨a,b,c,d,e',f,g,rfl⟩:=hu.L;obtain⟨N,n1,n2⟩:=Qvl M rfl hr;cases h67:(a0d P0 a4w inlS N).cbv 67 [.ptr 0 0,Qou a b c d e' f g] [Qsl L now k s h p (.sl (some (44,9,false)) t)]with
 |none=>rw[Qup (t:=t) hLD ht.1 Xbu (Qbn hM n1) h67]at n2;cases n2
 |some r67=>
  obtain⟨rf,o2,e,hrf,rfl,hD,hT2,_,_⟩:=Qvs (o:=some t) hL hn hu (ht.le (by omega)) ⟨N,h67⟩;have hT:=Qvq.pre ht hT2;obtain⟨r0,r1,r2,r3,r4,r5,r6,hm',hs,FL,bd,rfl,hFL⟩:=hrf;obtain⟨hU,hH,_,_⟩:=Qvz hD;obtain⟨v2,⟨M2,h72⟩,q2⟩:=Qvt (.tup [.td (.str 1048576),.td .bool]) (Qnh (i:=332) (k:=72) (by omega) rfl) (xs:=[.agg Qqm,.cell (.str 64)]) (by decide +kernel) (vs:=[.agg [iV hm',iV hs,FL],sV Qul]) (ShL.cons.2 ⟨Qqq hH,ShL.cons.2 ⟨.td (.str (by decide)),ShL.nil⟩⟩);obtain⟨x,y,rfl,k3,k4⟩:=Qqr q2;obtain⟨lk,rfl,hlk⟩:=Qvx k3;obtain⟨there,rfl⟩:=Qqu k4;obtain⟨v3,⟨M3,h73⟩,Xbt⟩:=Qvt (.tup [.td (.sl false 1048576 Qsy),.td kI]) (Qnh (i:=460) (k:=73) (by omega) rfl) (xs:=[.cell (.str 1048576)]) (by decide +kernel) (vs:=[sV lk]) (ShL.cons.2 ⟨.td (.str hlk),ShL.nil⟩);obtain⟨LL,y,rfl,k3,k4⟩:=Qqr Xbt;obtain⟨e3,rfl,_⟩:=Qqt k4;obtain⟨v4,⟨M4,h74⟩,q4⟩:=Qvt (.tup [.td (.str 1048576),.td .bool]) (Qnh (i:=412) (k:=74) (by omega) rfl) (xs:=[.cell (.sl false 1048576 Qsy),.cell (.str 64)]) (by decide +kernel) (vs:=[LL,sV Qum]) (ShL.cons.2 ⟨k3,ShL.cons.2 ⟨.td (.str (by decide)),ShL.nil⟩⟩);have hLL:isD LL:=by cases k3 with|td k3=>exact Qvw k3
  obtain⟨x,y,rfl,k3,k4⟩:=Qqr q4;obtain⟨tg,rfl,htg⟩:=Qvx k3;obtain⟨found,rfl⟩:=Qqu k4;obtain⟨u2,e4,⟨M5,h75⟩,hu2⟩:=Qvu (Qnh (i:=356) (k:=75) (by omega) rfl) (xs:=[.agg Qqk,.cell (.str 1048576)]) (by decide +kernel) (vs:=[Qou r0 r1 r2 r3 r4 r5 r6,sV tg]) (ShL.cons.2 ⟨Qqq hU,ShL.cons.2 ⟨.td (.str htg),ShL.nil⟩⟩);obtain⟨a',b',c',d',e'',f',g',rfl⟩:=hu2.L;obtain⟨N',k1,k2⟩:=Qvl (max (max M N) (max (max M2 M3) (max M4 M5))) rfl hr;have c67:=(a0L (P:=P0) (prim:=a4w) (inl:=inlS) (by omega:N<=N')).cbv _ _ _ _ h67;have c71:=Qbn hM (by omega:M<=N');have c72:=Qbn h72 (by omega:M2<=N');have c73:=Qbn h73 (by omega:M3<=N');have c74:=Qbn h74 (by omega:M4<=N');have c75:=Qbn h75 (by omega:M5<=N');by_cases hz:e=0/\there=true/\e3=0/\found=true/\e4=0
  .obtain⟨rfl,rfl,rfl,rfl,rfl⟩:=hz
   cases h70:(a0d P0 a4w inlS N').cbv 70 [.ptr 0 0,Qou a' b' c' d' e'' f' g'] [Qsl L now k s h p (.sl (some (44,9,false)) (t++Xcq o2))]with
   |none=>
    rw[Quq (t:=t) (t':=t++Xcq o2) hLD hFL Xcr hLL ht.1 hT.1 Xbu c71 c67 c72 c73 c74 c75 h70]at k2;cases k2
   |some r70=>
    obtain⟨F,e6,y,hF,rfl,hT3,hl⟩:=Qwc hL hn hid hu2 hT (by omega) ⟨N',h70⟩;obtain⟨fk,fs,fh,fp,NM,via,fb,fu,FT,rfl,hN,hFT,hNM⟩:=hF;rw[Quo (t:=t) (t':=t++Xcq o2) (t'':=t++Xcq o2++y) hLD hFL Xcr hLL ht.1 hT.1 Xbu hT3.1 hN hFT c71 c67 c72 c73 c74 c75 (λ _ _=>h70)]at k2;rw[ax3 rfl,ax3 ⟨rfl,rfl,rfl,rfl⟩]at k2;rw[Ay5]at k2 hT3 hl;exact⟨_,e6,_,⟨_,_,_,_,_,_,_,_,_,rfl,hN,hFT,hNM⟩,(ax8 k2).symm,hT3.le (by omega),hl⟩
  .rw[Quo (t:=t) (t':=t++Xcq o2) (t'':=[]) (e6:=0) (fk:=0) (fs:=⟨#[]⟩) (fh:=⟨#[]⟩) (fp:=0) (via:=0) (fb:=false) (fu:=0) hLD hFL Xcr hLL ht.1 hT.1 Xbu (λ _ h=>(by cases h)) a6n a6n c71 c67 c72 c73 c74 c75 (λ a b=>absurd ⟨a,b⟩ hz)]at k2
   have k2:=(ax8 k2).symm;split at k2
   .split at k2
    .next a b=>exact absurd ⟨a,b⟩ hz
    .exact⟨_,261,_,Xac,k2,hT.le (by omega),λ h=>absurd h (by decide)⟩
   .next h0=>exact⟨_,e,_,Xac,k2,hT.le (by omega),λ h=>absurd h h0⟩
end
section
variable {L:V} {now k p:Int} {s h:ByteArray}
def Qta(L:V)(now:Int)(id:V)(o:Option (List V))(w:V):Prop:=(∃e,e≠0/\w= .tup [Qto 0 ⟨#[]⟩ ⟨#[]⟩ 0 .nils 0 false 0 (Xcp o),iV e])\/
 ∃fk fs fh fp NM via j fb fu FT t,o=some t/\w= .tup [Qto fk fs fh fp NM j fb fu (.sl none t),iV 0]/\1<=j/\j<=3/\InD g0 N0 Xaa NM/\isD FT/\Qwb L now id t (Qto fk fs fh fp NM via fb fu FT)
theorem Qtb{id:V}{fk:Int}{fs fh:ByteArray}{fp:Int}{NM:V}{via j:Int}{fb:Bool}{fu e:Int}{FT:V}{t:List V}{w:V}(hw:some (if e=0 then .tup [Qto fk fs fh fp NM j fb fu (.sl none t),iV 0]else .tup [Qto 0 ⟨#[]⟩ ⟨#[]⟩ 0 .nils 0 false 0 (.sl none t),iV e],([]:List (List V)))=some (w,[]))
  (h1:1<=j) (h3:j<=3) (hN:InD g0 N0 Xaa NM) (hFT:isD FT) (hl:e=0->Qwb L now id t (Qto fk fs fh fp NM via fb fu FT)):Qta L now id (some t) w:=by
 have hw:=(an8 Prod.fst (ax8 hw)).symm;by_cases he:e=0
 .exact .inr ⟨_,_,_,_,_,_,_,_,_,_,_,rfl,by simpa[he]using hw,h1,h3,hN,hFT,hl he⟩
 .exact .inl ⟨e,he,by simpa[he,Xcp]using hw⟩
def Qtc(u:V)(o:Option (List V)):Prop:=(o=none/\Qnd 76 [u] (bV false))\/∃x y z,o=some (Qre (Qse u) x y::z)
theorem Qtd(hL:InD g0 N0 (.sl false 1048576 Qne) L)(hn:0<=now/\now<=18446744073709551615)(hid:InD g0 N0 (.agg Xad) (Qtq k s h p)){w:V}(hw:Qnd 11 [L,Qaa now,Qtq k s h p] w):
  (w= .tup [Qtp,iV 8]/\Qnd 30 [Qtq k s h p] (bV false))\/∃u e0 o,Qnd 66 [Qtq k s h p] (.tup [u,iV e0])/\Qql u/\Qvq o 100/\(e0=0->Qtc u o)/\Qta L now (Qtq k s h p) o w:=by
 have hLD:isD L:=by cases hL<;>first|exact a6n|exact b4K
 obtain⟨v,⟨M,h30⟩,hv⟩:=Qvt (.td .bool) (Qnh (i:=463) (k:=30) (by omega) rfl) (xs:=[.agg Xad]) (by decide +kernel) (vs:=[Qtq k s h p]) (ShL.cons.2 ⟨Qqq hid,ShL.nil⟩);obtain⟨b,rfl⟩:=Qqu hv;obtain⟨N,n1,n2⟩:=a9P (m:=max M 4) rfl hw;have c30:=Qbn h30 (by omega:M<=N);cases b with
 |false=>
  rw[Qvj hLD Xbu c30]at n2;exact .inl ⟨(an8 Prod.fst (ax8 n2)).symm,M,h30⟩
 |true=>
  right;obtain⟨n,rfl⟩:∃n,N=n+4:=⟨N-4,by omega⟩;cases h31:(a0d P0 a4w inlS (n+4)).cbv 31 [.ptr 0 0] [Qsl L now k s h p .nils]with
  |none=>rw[Qvg hLD Xbu c30 h31]at n2;cases n2
  |some r31=>
   obtain⟨u,e0,F1,e1,more,o1,h66,hu,hF1,rfl,hT1,hm1,hl1,hh1⟩:=Qwg hL hn hid ⟨_,h31⟩;obtain⟨k1,s1,h1,Qjt,N1,v1,b1,u1,T1,rfl,hN1,hFT1,hNM1⟩:=hF1;have hd:∀t1 y,o1=some t1->e0=0->Qtc u (some (t1++y)):=λ t1 y ho h0=>by
    subst ho;rcases hh1 h0 with⟨h,_⟩|⟨tr,h,hT⟩
    .cases h
    .cases h
     obtain⟨x,y',z,rfl⟩:=hT.2.2;exact .inr ⟨x,y',z++y,rfl⟩
   cases more with
   |false=>
    cases o1 with
    |none=>
     have he:e1≠0:=λ h=>by
      obtain⟨t,ht,_⟩:=hl1 rfl h;cases ht
     rw[Qvc hLD Xbu hN1 hFT1 he c30 h31]at n2;refine⟨u,e0,none,h66,hu,hT1.le (by omega),λ h0=> ?_,.inl ⟨e1,he,(an8 Prod.fst (ax8 n2)).symm⟩⟩;rcases hh1 h0 with h|⟨tr,h,_⟩
     .exact .inl h
     .cases h
    |some t1=>
     rw[Qvd (t1:=t1) hLD Xbu hN1 hFT1 hT1.1 c30 h31]at n2;refine⟨u,e0,some t1,h66,hu,hT1.le (by omega),λ h0=> ?_,Qtb (via:=v1) (FT:=T1) n2 (by omega) (by omega) hNM1 hFT1 λ h=> ?_⟩
     .have:=hd t1 [] rfl h0
      rwa [ap8]at this
     .obtain⟨t,ht,hl⟩:=hl1 rfl h
      cases ht;exact hl
   |true=>
    obtain⟨t1,rfl⟩:=hm1 rfl;cases h32:(a0d P0 a4w inlS (n+4)).cbv 32 [.ptr 0 0] [Qsl L now k s h p (.sl (some (44,9,false)) t1)]with
    |none=>rw[Qvh (t1:=t1) hLD Xbu hN1 hFT1 hT1.1 c30 h31 h32]at n2;cases n2
    |some r32=>
     obtain⟨F2,e2,more,y2,hF2,rfl,hT2,hl2⟩:=Qsx hL hn hid hT1 (by omega) ⟨_,h32⟩;obtain⟨k2,s2,h2,Qjv,N2,v2,b2,u2,T2,rfl,hN2,hFT2,hNM2⟩:=hF2;cases more with
     |false=>
      rw[Qve (t1:=t1) (t2:=t1++y2) hLD Xbu hN1 hFT1 hT1.1 hN2 hFT2 hT2.1 c30 h31 h32]at n2;exact⟨u,e0,some _,h66,hu,hT2.le (by omega),hd t1 y2 rfl,Qtb n2 (by omega) (by omega) hNM2 hFT2 (hl2 rfl)⟩
     |true=>
      cases h33:(a0d P0 a4w inlS (n+4)).cbv 33 [.ptr 0 0] [Qsl L now k s h p (.sl (some (44,9,false)) (t1++y2))]with
      |none=>rw[Qvi (t1:=t1) (t2:=t1++y2) hLD Xbu hN1 hFT1 hT1.1 hN2 hFT2 hT2.1 c30 h31 h32 h33]at n2;cases n2
      |some r33=>
       obtain⟨F3,e3,y3,hF3,rfl,hT3,hl3⟩:=Qsz hL hn hid hT2 (by omega) ⟨_,h33⟩;obtain⟨k3,s3,h3,p3,N3,v3,b3,u3,T3,rfl,hN3,hFT3,hNM3⟩:=hF3;rw[Qvf (t1:=t1) (t2:=t1++y2) (t3:=t1++y2++y3) hLD Xbu hN1 hFT1 hT1.1 hN2 hFT2 hT2.1 hN3 hFT3 hT3.1 c30 h31 h32 h33]at n2;rw[Ay5]at n2 hT3 hl3;exact⟨u,e0,some _,h66,hu,hT3.le (by omega),hd t1 (y2++y3) rfl,Qtb n2 (by omega) (by omega) hNM3 hFT3 hl3⟩
end
theorem Qxe{v:V}(h:IsId v)(p q:Operand):a3w P0 .neq 29 p q v v=some (bV false):=by
 obtain⟨cs,rfl,hk⟩:=h.kl;obtain⟨x,hx,hb⟩:=c4T d9U hk hk;have:=(hb p q).2.1;rw[hx rfl]at this;exact this
noncomputable def Qxf:Code:=match Tryz.f14.body with
 |some (.seq _ (.seq _ (.seq (.seq _ (.block _ (.loop x))) _)))=>x
 |_=> .skip
section
attribute [local simp] a0K a0I a0v a0V a1h a1F opE ev evs evo a0D a2H a0u a0m St.get St.put tgp tgl a1w a0Z sc a0W a1b a0E a3B a1K a6x lenOf a2u am5 Tryz.underlying33 Tryz.underlying29 a0b V.fit a5z anb a4Z bT V.cells storeAt setCells a3a a3b fill d9J e0g d9L a0r
def Qxg(ys:List V)(i:Nat)(st:St):Prop:=
 st.sz=26/\T.get 8 st.env 0= .sl none ys/\T.get 8 st.env 1= .sl none ys/\T.get 8 st.env 12=iV ys.length/\T.get 8 st.env 13=iV i
theorem Qxh{call:PV.Calls}{n:Nat}{ys:List V}{i:Nat}{st:St}{y:V}(hl:Qxg ys i st)(hy:ys[i]?=some y)(hx:IsId y)(hlen:ys.length<=2097152):
  ∃st1,a0K P0 call n Qxf st=some (.normal,st1)/\Qxg ys (i+1) st1:=by
 obtain⟨e,hh,nx,sz⟩:=st;obtain⟨h1,h0,h2,h7,h8⟩:=hl;simp only at h1 h0 h2 h7 h8;subst h1;have hlt:i<ys.length:=(ay0.1 hy).1;have hw:IntKind.i64.wrap ((i:Int)+1)=i+1:=a2h (by omega) (by omega);have hy':ys[i]'hlt=y:=(ay0.1 hy).2;have hb:=Qxe hx;obtain⟨a,b,c,d,rfl⟩:=hx;simp_all[Qxf,Tryz.f14,a2f,a2V,Qxg]
theorem Qxi{call:PV.Calls}{n:Nat}{ys:List V}(hx:∀y∈ys,IsId y)(hlen:ys.length<=2097152):∀(m i:Nat) (st:St),Qxg ys i st->i<=ys.length->ys.length-i<m->
  ∃st1,iter (a0K P0 call n Qxf) m st=some (.exit 0,st1)/\st1.sz=26
 |0,_,_,_,_,hm=>by omega
 |m+1,i,st,hl,hi,hm=>by
  by_cases e:i=ys.length
  .subst e
   obtain⟨e,hh,nx,sz⟩:=st;obtain⟨h1,h0,h2,h7,h8⟩:=hl;simp_all[iter,Qxf,Tryz.f14,a2f]
  .have hlt:i<ys.length:=by omega
   obtain⟨st1,h1,h2⟩:=Qxh (call:=call) (n:=n) hl (At6 hlt) (hx _ (au2 hlt)) hlen;obtain⟨st2,h4,h5⟩:=Qxi hx hlen m (i+1) st1 h2 (by omega) (by omega);exact⟨st2,by simp only[iter,h1];exact h4,h5⟩
theorem Qxj{call:PV.Calls}{n:Nat}{L:V}{ys:List V}(hL:L= .nils/\ys=[]\/L= .sl none ys)(hx:∀y∈ys,IsId y)(hlen:ys.length<=2097152)(hn:ys.length<n):a7O P0 call n 14 [L,L] []=some (bV true,[]):=by
 have rB:∀(g:G) (nx:Nat),a5t 14 g nx (bV true)=some (bV true,[],[]):=λ g nx=>b1O (by rfl) (d0n (b9J a9t));rcases hL with⟨rfl,rfl⟩|rfl
 .obtain⟨n,rfl⟩:∃m,n=m+1:=⟨n-1,by omega⟩
  simp[P0,a7O,Tryz.func14,Tryz.f14,iter,a0w,a0G,rB,a1u,a2f am5,a7Y am5]
 have hf:P0.funcs[14]?=some Tryz.f14:=Tryz.func14;have hX:∃r0 r1 r2 r3 r9,Tryz.f14.body=some (.seq (.region 0 r0 false) (.seq (.seq (.region 1 r1 false) (.cond (.tmp 10) (.seq (.region 2 r2 false) .ret) .skip)) (.seq (.seq (.region 3 r3 false) (.block 0 (.loop Qxf))) (.seq (.region 9 r9 false) .ret))))/\
   (∃s0 s1 s3,a0K P0 call n (.region 0 r0 false) {env:=a0u [.sl none ys,.sl none ys] 0 .leaf,h:=[],nx:=0,sz:=26}=some (.normal,s0)/\a0K P0 call n (.seq (.region 1 r1 false) (.cond (.tmp 10) (.seq (.region 2 r2 false) .ret) .skip)) s0=some (.normal,s1)/\a0K P0 call n (.region 3 r3 false) s1=some (.normal,s3)/\Qxg ys 0 s3)/\
   ∀st:St,st.sz=26->∃st1,a0K P0 call n (.seq (.region 9 r9 false) .ret) st=some (.ret,st1)/\T.get 8 st1.env 4=bV true:=by
  refine⟨_,_,_,_,_,rfl,?_,?_⟩
  .simp[Qxg,a7Y]
  .simp_all
 obtain⟨r0,r1,r2,r3,r9,hb,⟨s0,s1,s3,h0,h1,h3,hl⟩,h9⟩:=hX;obtain⟨st1,k1,k2⟩:=Qxi (call:=call) (n:=n) hx hlen n 0 s3 hl (by omega) (by omega);obtain⟨st2,k3,k4⟩:=h9 st1 k2;have hm:max ([.sl none ys,.sl none ys]:List V).length Tryz.f14.ntmps=26:=by simp[Tryz.f14]
 have hev:a0K P0 call n (.seq (.region 0 r0 false) (.seq (.seq (.region 1 r1 false) (.cond (.tmp 10) (.seq (.region 2 r2 false) .ret) .skip)) (.seq (.seq (.region 3 r3 false) (.block 0 (.loop Qxf))) (.seq (.region 9 r9 false) .ret)))) {env:=a0u [.sl none ys,.sl none ys] 0 .leaf,h:=[],nx:=0,sz:=26}=some (.ret,st2):=by
  rw[Qmi h0,Qmi h1,Qmi (s1:=st1) (by rw[Qmi h3,Qmj k1])];exact k3
 unfold a7O;simp only[Az0,hf,az1,hb,a0w,List.length_nil,hm,hev];have hr:a0m P0 Tryz.f14 st2=some (bV true):=by simp[a0m,Tryz.f14,a0D,St.get,k4]
 simp only[hr,az1,rB,am3,a0G];rfl
end
theorem Qxk{L:V}(hL:L= .nils\/∃ys,L= .sl none ys/\(∀y∈ys,IsId y)/\ys.length<=64){v:V}(h:Qnd 14 [L,L] v):v=bV true:=by
 obtain⟨N,h1,h2⟩:=a9P (m:=65) rfl h;rcases hL with rfl|⟨ys,rfl,hy,hl⟩
 .rw[Qxj (ys:=[]) (.inl ⟨rfl,rfl⟩) (λ _ h=>(by cases h)) (by simp) (by simp;omega)]at h2
  exact(an8 Prod.fst (ax8 h2)).symm
 .rw[Qxj (.inr rfl) hy (by omega) (by omega)]at h2
  exact(an8 Prod.fst (ax8 h2)).symm
theorem Qzf{D:V}{n:Int}(hD:Qxw D)(hn:1<=n):∃N j D',Qxw D'/\0<=j/\j<n/\(a0d P0 a4w inlS N).cbv 60 [.ptr 0 0,iV n] [[D]]=some (iV j,[[D']]):=by
 obtain⟨j,D',h1,h2,h3,h4⟩:=Qyf (call:=a0d P0 a4w inlS 0) (fu:=0) hD hn;exact⟨1,j,D',h1,h2,h3,Xan rfl Tryz.func60 rfl rfl (by simp[Tryz.f60]) h4⟩
theorem Qzg{D:V}{l:List ByteArray}(hD:Qxw D)(hl:1<=l.length):∃N x D',Qxw D'/\x∈l/\(a0d P0 a4w inlS N).cbv 116 [.ptr 0 0,.sl none (l.map sV)] [[D]]=some (sV x,[[D']]):=by
 obtain⟨N,j,D',h1,h2,h3,h4⟩:=Qzf (n:=(l.map sV).length) hD (by rw[ap3];omega);obtain⟨i,rfl⟩:=Int.eq_ofNat_of_zero_le h2;have hi:i<l.length:=by rw[ap3]at h3;omega
 exact⟨N+1,l[i],D',h1,au2 hi,Xan rfl Tryz.func116 rfl rfl (by simp[Tryz.f116]) (Qyi hD.d h1.d Xbu h4 (by rw[au3,At6 hi];rfl))⟩
theorem Qzh{D:V}(hD:Qxw D):∃N x D',Qxw D'/\x∈Qyj/\(a0d P0 a4w inlS N).cbv 131 [.ptr 0 0] [[D]]=some (sV x,[[D']]):=by
 obtain⟨N,x,D',h1,h2,h3⟩:=Qzg (l:=Qyj) hD (by decide);exact⟨N+1,x,D',h1,h2,Xan rfl Tryz.func131 rfl rfl (by simp[Tryz.f131]) (Qyl hD.d h1.d Xbu h3)⟩
def Qzi(l:List ByteArray):Bool:=l.all λ x=>decide (x.size<=100)
theorem Qzj{l:List ByteArray}(h:Qzi l=true){x:ByteArray}(hx:x∈l):x.size<=100:=at8 (ay5.1 h x hx)
theorem Qzk{D:V}(hD:Qxw D):∃N x D',Qxw D'/\x∈Qza/\(a0d P0 a4w inlS N).cbv 59 [.ptr 0 0] [[D]]=some (sV x,[[D']]):=by
 obtain⟨N0,h,D1,k1,kh,c131⟩:=Qzh hD;obtain⟨N1,j,D2,k2,j0,j6,c60⟩:=Qzf (n:=6) k1 (by omega);have zh:=Qzj (l:=Qyj) rfl kh;by_cases ja:j=0\/j=1
 .obtain⟨N2,x1,D3,k3,m1,c1⟩:=Qzg (l:=Qyn) k2 (by decide)
  obtain⟨N3,x2,D4,k4,m2,c2⟩:=Qzg (l:=Qyo) k3 (by decide);obtain⟨N4,x3,D5,k5,m3,c3⟩:=Qzg (l:=Qyp) k4 (by decide);refine⟨max (max N0 N1) (max N2 (max N3 N4))+1,_,D5,k5,?_,Xan rfl Tryz.func59 rfl rfl (by simp[Tryz.f59]) (Qzb hD.d k1.d k2.d k3.d k4.d k5.d zh (Qzj (l:=Qyn) rfl m1) (Qzj (l:=Qyo) rfl m2) (Qzj (l:=Qyp) rfl m3) Xbu (Xae c131 (by omega)) (Xae c60 (by omega)) ja (Xae c1 (by omega)) (Xae c2 (by omega)) (Xae c3 (by omega)))⟩;exact av4 _ (ax9.2 ⟨x1,m1,ax9.2 ⟨x2,m2,ax5.2 ⟨x3,m3,rfl⟩⟩⟩)
 by_cases jb:j=2
 .obtain⟨N2,x1,D3,k3,m1,c1⟩:=Qzg (l:=Qyq) k2 (by decide)
  obtain⟨N3,x2,D4,k4,m2,c2⟩:=Qzg (l:=Qyr) k3 (by decide);refine⟨max (max N0 N1) (max N2 N3)+1,_,D4,k4,?_,Xan rfl Tryz.func59 rfl rfl (by simp[Tryz.f59]) (Qzc hD.d k1.d k2.d k3.d k4.d zh (Qzj (l:=Qyq) rfl m1) (Qzj (l:=Qyr) rfl m2) Xbu (Xae c131 (by omega)) (Xae c60 (by omega)) jb (Xae c1 (by omega)) (Xae c2 (by omega)))⟩;exact aw2 _ (av4 _ (ax9.2 ⟨x1,m1,ax5.2 ⟨x2,m2,rfl⟩⟩))
 by_cases jc:j=3
 .obtain⟨N2,x1,D3,k3,m1,c1⟩:=Qzg (l:=Qys) k2 (by decide)
  refine⟨max (max N0 N1) N2+1,_,D3,k3,?_,Xan rfl Tryz.func59 rfl rfl (by simp[Tryz.f59]) (Qzd hD.d k1.d k2.d k3.d zh (Qzj (l:=Qys) rfl m1) Xbu (Xae c131 (by omega)) (Xae c60 (by omega)) jc (Xae c1 (by omega)))⟩;exact aw2 _ (aw2 _ (av4 _ (ax9.2 ⟨h,kh,ax5.2 ⟨x1,m1,rfl⟩⟩)))
 .obtain⟨N2,x1,D3,k3,m1,c1⟩:=Qzg (l:=Qyt) k2 (by decide)
  refine⟨max (max N0 N1) N2+1,_,D3,k3,?_,Xan rfl Tryz.func59 rfl rfl (by simp[Tryz.f59]) (Qze hD.d k1.d k2.d k3.d zh (Qzj (l:=Qyt) rfl m1) Xbu (Xae c131 (by omega)) (Xae c60 (by omega)) (λ e=>ja (.inl e)) (λ e=>ja (.inr e)) jb jc (Xae c1 (by omega)))⟩;exact aw2 _ (aw2 _ (aw2 _ (ax9.2 ⟨h,kh,ax5.2 ⟨x1,m1,rfl⟩⟩)))
def Qzl:Code->Bool
 | .skip| .region .. =>true
 | .seq a b| .cond _ a b=>Qzl a&&Qzl b
 | .block _ b=>Qzl b
 |_=>false
section
variable {P:Program} {call:PV.Calls} {n:Nat}
theorem Qzm:∀{c:Code} {s s':St} {x:Ex},Qzl c=true->a0e P call n c s=some (x,s')->x= .normal:=by
 intro c;induction c with
 |skip=>intro s s' x _ h;simp only[a0e]at h;grind
 |region i ops d=>
  intro s s' x _ h;cases d with
  |false=>
   simp only[a0e,az2,az8]at h;obtain⟨_,_,h,_⟩:=h;exact h.symm
  |true=>simp only[a0e]at h;grind
 |seq a b iha ihb=>
  intro s s' x hc h;simp only[Qzl,az6]at hc;simp only[a0e]at h;split at h
  .exact ihb hc.2 h
  .next r e=>exact iha hc.1 h
 |cond q a b iha ihb=>
  intro s s' x hc h;simp only[Qzl,az6]at hc;simp only[a0e]at h;split at h
  .split at h
   .exact iha hc.1 h
   .exact ihb hc.2 h
  .cases h
 |block i b ih=>
  intro s s' x hc h;simp only[a0e]at h;split at h
  .next e=>have:=ih hc e;cases this
  .exact ih hc h
 |_=>intro s s' x hc h;cases hc
theorem Qzn{a b:Code}{s:St}{r:Ex×St}(hc:Qzl a=true)(hs:s.sz<=256)(h:a0e P call n (.seq a b) s=some r):∃s1,Kept (c1F a) s s1/\a0e P call n b s1=some r:=by
 simp only[a0e]at h;split at h
 .next s1 e=>exact⟨s1,c0b hs e,h⟩
 .next q e=>
  obtain⟨x,s'⟩:=r;have:=Qzm hc h;subst this;exact absurd h (by grind)
theorem Qzo{i:Nat}{ops:Array Oper}{s s':St}{x:Ex}(h:a0e P call n (.seq (.region i ops true) .ret) s=some (x,s')):a0I P call ops ops.toList s=some s':=by
 simp only[a0e]at h;cases hf:a4g P call ops ops.toList s with
 |none=>rw[hf]at h;cases h
 |some q=>
  obtain⟨fs,e⟩:=q;rw[hf]at h;by_cases hc:a6F ops fs=true
  .simp only[ax3 hc,az0,az8]at h
   rw[<-h.2];exact b1a hf
  .simp only[ay9 hc]at h
   cases h
theorem Qzp{ops:Array Oper}:∀{l1 l2:List Oper} {s:St},a0I P call ops (l1++l2) s=(a0I P call ops l1 s).bind (a0I P call ops l2)
 |[],_,_=>rfl
 |o::r,l2,s=>by
  rw[ap4,a0I,a0I];cases a0v P call ops o s with
  |none=>rfl
  |some s1=>exact Qzp
theorem Qzq{k nx:Nat}{g:G}{x:ByteArray}{l v:V}{w:List Nat×List Nat}(h:a5t k g nx (.tup [sV x,l])=some (v,w)):∃l',v= .tup [sV x,l']:=by
 have key:∀s v w,a2q g s (.tup [sV x,l])=some (v,w)->∃l',v= .tup [sV x,l']:=λ s v w h=>by
  have hx:a0O g s (sV x)=some (sV x,s):=by simp[a0O,Xcu]
  have e:a0G (a0O g) s [sV x,l]=(a0O g s l).map (λ q=>([sV x,q.1],q.2)):=by
   rw[a0G,hx];cases e:a0O g s l<;>simp[a0G,e]
  simp only[a2q,e]at h;cases e:a0O g s l with
  |none=>rw[e]at h;cases h
  |some q=>
   rw[e]at h;simp only[ax0,az0,az8]at h;exact⟨_,h.1.symm⟩
 unfold a5t c6k at h;split at h
 .exact key _ _ _ h
 .split at h
  .next e=>
   split at h
   .injection h with h;injection h with h _;subst h
    exact key _ _ _ e
   .cases h
  .cases h
end
section
variable {call:PV.Calls} {n:Nat}
attribute [local simp] Qxy a0e a0I a0v a0V a1h a1F opE ev evs evo a0D a2H a0u a0m St.get St.put tgp tgl a1w a0Z sc a0W a1b a0E a3B a1K a6x lenOf a2u a0b V.fit a5z anb a4Z bT storeAt setCells a3a a3b fill a1H Xct Qof Qog Qor Qbe Qbf Qoq Qsr Qss Qst Qmu Qmv Qoh Qoi Tryz.underlying49 Tryz.underlying42 Tryz.underlying92 al1 Tryz.underlying38 Tryz.underlying47 am5 Tryz.underlying4 Qmw Qmx Qsn Qso Qsp Qsq Qaj Qak Qna Qnb Qon Qoo sz3 ag3 sz9 ag9 Qtt Qtu Qtv Qtr Qts Qmy Qmz a0w PV.a0f Xcs Xcu a1x a0G a1u a1s
theorem Qzr{D D1 D2:V}{x y:ByteArray}{v:V}{s:St}(hD:isD D)(hD1:isD D1)(hD2:isD D2)(i59:call.inl 59=none)(c1:call.cbv 59 [.ptr 0 0] [[D]]=some (sV x,[[D1]]))(c2:call.cbv 59 [.ptr 0 0] [[D1]]=some (sV y,[[D2]]))
  (h:a1j P0 call n 25 [.ptr 0 0] [(0,some (.var [D]))] 1=some (v,s)):∃l,v= .tup [sV x,l]:=by
 have d1:=Qyg hD hD1 c1 d2G (d0n (b9J c3R));have d2:=Qyg hD1 hD2 c2 d2G (d0n (b9J c3R));have hX:∃r0 r1 c2 c3 c4 c5 c6 r16,Tryz.f25.body=some (.seq (.region 0 r0 false) (.seq (.region 1 r1 false) (.seq c2 (.seq c3 (.seq c4 (.seq c5 (.seq c6 (.seq (.region 16 r16 true) .ret))))))))/\
   (∃s0 s1,a0e P0 call n (.region 0 r0 false) {env:=a0u [.ptr 0 0] 0 .leaf,h:=[(0,some (.var [D]))],nx:=1,sz:=68}=some (.normal,s0)/\a0e P0 call n (.region 1 r1 false) s0=some (.normal,s1)/\s1.sz=68/\T.get 8 s1.env 4=sV x)/\
   ([c2,c3,c4,c5,c6].all λ c=>Qzl c&& !(c1F c).contains 4)=true/\
   ∃o0 l1 o10 o11,r16.toList=o0::(l1++[o10,o11])/\(∀st:St,st.sz=68->∃s',a0v P0 call r16 o0 st=some s'/\s'.sz=68/\T.get 8 s'.env 58=T.get 8 st.env 4)/\58∉l1.filterMap (·.dst)/\(∀st:St,st.sz=68->∃s',a0v P0 call r16 o10 st=some s'/\s'.sz=68/\T.get 8 s'.env 2=T.get 8 st.env 58)/\o11.dst=some 3:=by
  refine⟨_,_,_,_,_,_,_,_,rfl,?_,rfl,_,[_,_,_,_,_,_,_,_,_],_,_,rfl,?_,by decide,?_,rfl⟩
  .simp[i59,d1,d2]
  .rintro⟨e,hh,nx,sz⟩ h
   simp only at h;subst h;simp
  .rintro⟨e,hh,nx,sz⟩ h
   simp only at h;subst h;simp
 obtain⟨r0,r1,c2,c3,c4,c5,c6,r16,hb,⟨s0,s1,a0,a1,z1,t1⟩,hc,o0,l1,o10,o11,hr,q0,ql,q10,q11⟩:=hX;have hm:max ([.ptr 0 0]:List V).length Tryz.f25.ntmps=68:=by simp[Tryz.f25]
 unfold a1j at h;simp only[Az0,show P0.funcs[25]?=some Tryz.f25 from Tryz.func25,az1,hb,hm]at h;rw[ay9 (by omega)]at h;simp only[Az1,az1,az3]at h;obtain⟨⟨x',s'⟩,h1,h2⟩:=h;rw[a0e,a0]at h1;simp only at h1;rw[a0e,a1]at h1;simp only at h1;simp only[Az3,List.all_nil,Bool.and_true,az6,ax2,List.contains_eq_mem,Ax6]at hc;obtain⟨⟨m2,n2⟩,⟨m3,n3⟩,⟨m4,n4⟩,⟨m5,n5⟩,m6,n6⟩:=hc;obtain⟨s2,k2,h1⟩:=Qzn m2 (by omega) h1;have z2:=k2.1.trans z1;have t2:=(k2.2 4 n2).trans t1;obtain⟨s3,k3,h1⟩:=Qzn m3 (by omega) h1;have z3:=k3.1.trans z2;have t3:=(k3.2 4 n3).trans t2;obtain⟨Qon,k4,h1⟩:=Qzn m4 (by omega) h1;have z4:=k4.1.trans z3;have t4:=(k4.2 4 n4).trans t3;obtain⟨s5,k5,h1⟩:=Qzn m5 (by omega) h1;have z5:=k5.1.trans z4;have t5:=(k5.2 4 n5).trans t4;obtain⟨s6,k6,h1⟩:=Qzn m6 (by omega) h1;have z6:=k6.1.trans z5;have t6:=(k6.2 4 n6).trans t5;have h3:a0I P0 call r16 r16.toList s6=some s':=Qzo h1;obtain⟨s7,e0,z7,t7⟩:=q0 s6 z6;rw[hr,a0I,e0]at h3;simp only at h3;rw[Qzp]at h3;obtain⟨s8,e8,h3⟩:=az3.1 h3;have k8:=a9c (by omega) e8;obtain⟨s9,e9,z9,t9⟩:=q10 s8 (k8.1.trans z7);rw[a0I,e9]at h3;simp only at h3;rw[a0I]at h3;have k9:Kept o11.dst.toList s9 s':=by
  split at h3
  .cases h3
  .next e=>
   rw[a0I]at h3;injection h3 with h3;subst h3
   exact a8C (by omega) e
 have fin:T.get 8 s'.env 2=sV x:=by
  rw[q11]at k9;have a1:T.get 8 s'.env 2=T.get 8 s9.env 2:=k9.2 2 (by simp);have a2:T.get 8 s8.env 58=T.get 8 s7.env 58:=k8.2 58 ql;rw[a1,t9,a2,t7];exact t6
 have hres:a0m P0 Tryz.f25 s'=some (.tup [sV x,T.get 8 s'.env 3]):=by simp[a0m,Tryz.f25,a0D,St.get,fin]
 cases x' with
 |exit i=>cases h2
 |normal=>
  simp only[hres,az1,az0,az8]at h2;exact⟨_,h2.1.symm⟩
 |ret=>
  simp only[hres,az1,az0,az8]at h2;exact⟨_,h2.1.symm⟩
end
theorem Qzs:b4T P0 128=some true:=by rfl
theorem Qzt:a4h P0 128=some (.agg [.nils]):=by rfl
theorem Qzu{f:a7F}{g:G}{nx id k:Nat}{D:V}{o:Out}{Q:ByteArray->Prop}(hD:isD D)(hg:g id=some (.var [D]))(hQ:∀r,f k [.ptr 0 0] [[D]]=some r->∃x l,r.1= .tup [sV x,l]/\Q x)(h:a1q f g nx k [.ptr id 0]=some o):∃x l,o.v= .tup [sV x,l]/\Q x:=by
 have l1:=hD.2.2.2.2.1;have l2:=hD.2.2.2.2.2.1;have l4:=λ w=>Qpn hD (g:=g) (w:=w);rw[a1q,Qte (xs:=[]) d2G]at h;cases hc:f k [.ptr 0 0] [[D]]with
 |none=>simp[a0G,a1x,hg,l1,l2,l4,hc]at h
 |some r=>
  obtain⟨v,bs⟩:=r;obtain⟨x,l,hv,hq⟩:=hQ _ hc;simp only at hv;subst hv;simp[a0G,a1x,hg,l1,l2,l4,hc]at h;obtain⟨_,h⟩:=h;split at h
  .cases h
  .injection h with h
   subst h;exact⟨x,_,rfl,hq⟩
section
attribute [local simp] Qzs Qzt a0e a0I a0v a0V a1h a1F opE ev evs evo a0D a2H a0u a0m St.get St.put tgp tgl a1w a0Z sc a0W a1b a0E a3B a1K a6x lenOf a2u a0b V.fit a5z anb a4Z bT storeAt setCells a3a a3b fill a1H Xct Qof Qog Qor Qbe Qbf Qoq Qsr Qss Qst Qmu Qmv Qoh Qoi Tryz.underlying49 Tryz.underlying42 Tryz.underlying92 al1 Tryz.underlying38 Tryz.underlying47 am5 Tryz.underlying4 Qmw Qmx Qsn Qso Qsp Qsq Qaj Qak Qna Qnb Qon Qoo sz3 ag3 sz9 ag9 Qtt Qtu Qtv Qtr Qts Qmy Qmz a0w PV.a0f Xcs Xcu a1x a0G a1u a1s Qxz Qya Qyb Qyc Qyd Qye al0 am8
theorem Qzv{P:Program}{a b:Int}:a0t P (Builtin.min_ #[3,3] 3 #[.int .i64 a,.int .i64 b])=some (iV (if b<a then b else a)):=rfl
theorem Qzw{sv:V}(h:Qxw sv):∃D,Qxw D/\∀(call:PV.Calls) (n:Nat) (hh:HP) (nx:Nat),a1l call n 26 [sv] hh nx=some (.ptr nx 0,(nx,some (.var [D]))::hh,nx+1):=by
 rcases h with rfl|⟨ys,rfl,hy⟩
 .refine⟨.nils,.inl rfl,λ call n hh nx=>a1t Tryz.func26 rfl rfl (by decide) (by simp[Tryz.f26]) (x:= .ret) (by intro i;exact nofun) ?_⟩
  simp[Tryz.f26,a3d,Qzv,Qxx]
 .refine⟨.sl none (ys.take 200),.inr ⟨_,rfl,λ y hm=>hy y (au4 hm)⟩,λ call n hh nx=>a1t Tryz.func26 rfl rfl (by decide) (by simp[Tryz.f26]) (x:= .ret) (by intro i;exact nofun) ?_⟩
  have hf:b2C 1 ys=true:=by
   cases ys with
   |nil=>rfl
   |cons y r=>obtain⟨m,rfl,_⟩:=hy y (ay1 ..);simp[b2C,Xct]
  by_cases hl:¬(200:Int)<ys.length
  .have h2:ys.take 200=ys:=List.take_of_length_le (by omega)
   simp[Tryz.f26,a3d,Qzv,hl,hf,h2,Qxx]
  .rw[au9]at hl
   have h3:¬ys.length<200:=by omega
   simp[Tryz.f26,a3d,Qzv,hl,hf,h3,Qxx]
end
section
variable {call:PV.Calls} {n:Nat}
attribute [local simp] a7O a0K a0I a0v a0V a1h a1F opE ev evs evo a0D a2H a0u a0m St.get St.put tgp tgl a1w a0Z sc a0W a1b a0E a3B a1K a6x lenOf a2u a0b V.fit a5z anb a4Z bT storeAt setCells a3a a3b fill a1H Xct Qof Qog Qor Qbe Qbf Qoq Qsr Qss Qst Qmu Qmv Qoh Qoi Tryz.underlying49 Tryz.underlying42 Tryz.underlying92 al1 Tryz.underlying38 Tryz.underlying47 am5 Tryz.underlying4 Qmw Qmx Qsn Qso Qsp Qsq Qaj Qak Qna Qnb Qon Qoo sz3 ag3 sz9 ag9 Qtt Qtu Qtv Qtr Qts Qmy Qmz a0w PV.a0f Xcs Xcu a1x a0G a1u a1s
theorem Qzx{sv D l:V}{s:ByteArray}{Q:ByteArray->Prop}{f26:List V->HP->Nat->Option (V×HP×Nat)}(hs:isD sv)(hD:isD D)(i26:call.inl 26=some f26)(h26:∀hh nx,f26 [sv] hh nx=some (.ptr nx 0,(nx,some (.var [D]))::hh,nx+1))(i25:call.inl 25=none)
  (hQ:∀r,call.cbv 25 [.ptr 0 0] [[D]]=some r->∃x l,r.1= .tup [sV x,l]/\Q x) (h:a7O P0 call n 9 [sv] []=some (.tup [sV s,l],[])):Q s:=by
 have k0:=hs.ok;cases hdo:a1q call.cbv (λ x=>if x=0 then some (Box.var [D])else none) 1 25 [.ptr 0 0]with
 |none=>
  simp[P0,Tryz.func9,Tryz.f9,i26,h26,i25,hdo]at h
 |some o=>
  obtain⟨x,l',hv,hq⟩:=Qzu hD (by simp) hQ hdo;simp[P0,Tryz.func9,Tryz.f9,i26,h26,i25,hdo,hv]at h;obtain⟨⟨v',w⟩,e1,h⟩:=az3.1 h;obtain⟨l2,rfl⟩:=Qzq e1;split at h
  .cases h
  .simp only[az0,az8,V.tup.injEq,Az2,V.lit.injEq,Value.string.injEq,ao0]at h
   rw[<-h.1];exact hq
end
theorem Qzy{D:V}(hD:Qxw D):∃M,∀n,M<=n->∀r,(a0d P0 a4w inlS (n+1)).cbv 25 [.ptr 0 0] [[D]]=some r->∃x l,r.1= .tup [sV x,l]/\x∈Qza:=by
 obtain⟨N0,x,D1,k1,hx,c1⟩:=Qzk hD;obtain⟨N1,y,D2,k2,_,c2⟩:=Qzk k1;refine⟨max N0 N1,λ n hn r h=> ?_⟩;have hb:a0w 0 ([],([[D]]:List (List V)).length) [[D]]=([(0,some (.var [D]))],1):=by
  have l5:=hD.d.2.1;have l6:=hD.d.2.2.2.2.2.2.1;simp[a0w,PV.a0f,l5,l6]
 simp only[a0d,show a4w 25=none from rfl,Az0,hb,az3]at h;obtain⟨⟨v,s⟩,h1,⟨v',w⟩,h2,h3⟩:=h;obtain⟨l,rfl⟩:=Qzr hD.d k1.d k2.d (a4G rfl) (Xae c1 (by omega)) (Xae c2 (by omega)) h1;obtain⟨l',rfl⟩:=Qzq h2;refine⟨x,l',?_,hx⟩;obtain⟨q,_,h3⟩:=h3;split at h3
 .cases h3
 .simp only[Az1,az0]at h3
  rw[<-h3]
theorem Qzz{sv l:V}{s:ByteArray}(hs:Qxw sv)(h:Qnd 9 [sv] (.tup [sV s,l])):s∈Qza:=by
 obtain⟨D,hD,h26⟩:=Qzw hs;obtain⟨M,hM⟩:=Qzy hD;obtain⟨N,n1,n2⟩:=a9P (m:=M+1) rfl h;obtain⟨n,rfl⟩:∃n,N=n+1:=⟨N-1,by omega⟩;exact Qzx (Q:=λ x=>x∈Qza) hs.d hD.d (f26:=λ xs h nx=>a1l (a0d P0 a4w inlS n) n 26 xs h nx) (by simp only[a0d];rfl) (λ hh nx=>h26 _ _ hh nx) (a4G rfl) (hM n (by omega)) n2
end
section
open Go Go.PV Go.SN Go.PV.JS Go.Proofs
open Go.SE
noncomputable section
def Qwh(x:ByteArray):Bool:=match(a3H Tryz.prog a4w inlS [] 3000 40).cbv 10 [sV x] []with
 |some (.tup [_,.lit (.int .i64 0)],[])=>true
 |_=>false
def Qwi(i n:Nat):Bool:=((Qza.drop i).take n).all Qwh
theorem Qwj:Qwi 0 11=true:=by decide +kernel
theorem Qwk:Qwi 11 11=true:=by decide +kernel
theorem Qwl:Qwi 22 11=true:=by decide +kernel
end
end
end Go.SB
