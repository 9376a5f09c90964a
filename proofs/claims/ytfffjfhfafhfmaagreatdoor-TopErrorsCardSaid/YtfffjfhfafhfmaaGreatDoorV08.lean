/- A part of the proof of the statement TopErrors: for every input the law returns true. -/
import Derived.Test.YtfffjfhfafhfmaaGreatDoorV00
import Derived.Test.YtfffjfhfafhfmaaGreatDoorV06
import Derived.Test.YtfffjfhfafhfmaaGreatDoorV03
set_option linter.all false
namespace Go.SE
section
open Go Go.PV Go.SN Go.Proofs Go.PV.JS
set_option maxRecDepth 10000
theorem e0j:a4h P0 29=some (.agg [iV 0,sV ⟨#[]⟩,sV ⟨#[]⟩,iV 0]):=by rfl
theorem d9J:a1M P0 29=some 4:=by rfl
theorem e0g:b4T P0 29=some true:=by rfl
theorem d9L:a2G P0 33=some 29:=by rfl
def idK:List Kd:=[.int .i64,.str,.str,.int .i64]
theorem d9U:d6e P0 29 idK idK=true:=by decide+kernel
def IsId(v:V):Prop:=∃k s h p,v= .agg [iV k,sV s,sV h,iV p]
theorem IsId.kl{v:V}(h:IsId v):∃cs,v= .agg cs/\Kl idK cs:=by
 obtain⟨k,s,h,p,rfl⟩:=h;refine⟨_,rfl,[.int .i64 k,.string s,.string h,.int .i64 p],rfl,rfl,λ j a u ha hu=> ?_⟩
 match j with
 |0=>simp[idK]at ha hu;subst ha;subst hu;exact⟨_,rfl⟩
 |1=>simp[idK]at ha hu;subst ha;subst hu;exact⟨_,rfl⟩
 |2=>simp[idK]at ha hu;subst ha;subst hu;exact⟨_,rfl⟩
 |3=>simp[idK]at ha hu;subst ha;subst hu;exact⟨_,rfl⟩
 |j+4=>grind
noncomputable def eqv(x y:V):Bool:=match a3w P0 .eql 29 (.tmp 0) (.tmp 0) x y with
 |some (.lit (.bool b))=>b
 |_=>false
theorem c9W{x y:V}(hx:IsId x)(hy:IsId y)(p q:Operand):a3w P0 .eql 29 p q x y=some (bV (eqv x y))/\a3w P0 .eql 29 p q y x=some (bV (eqv x y)):=by
 obtain⟨cs,rfl,h1⟩:=hx.kl;obtain⟨ds,rfl,h2⟩:=hy.kl;grind[c4T,d9U,eqv]
def c1H(f:V->Bool):List V->Bool
 |[]=>false
 |x::r=>f x||c1H f r
def a5U(f:V->Bool):List V->Nat->Int
 |[],_=> -1
 |x::r,i=>if f x then i else a5U f r (i+1)
theorem findE_ge{f:V->Bool}:∀{l:List V} {i:Nat},(0<=a5U f l i)↔c1H f l=true
 |[],i=>by simp[a5U,c1H]
 |x::r,i=>by
  have ih:=findE_ge (f:=f) (l:=r) (i:=i+1);simp only[a5U,c1H,ay8];grind
noncomputable def X21:Code:=match Tryz.f21.body with
 |some (.seq _ (.seq (.seq _ (.block _ (.loop x))) _))=>x
 |_=> .skip
noncomputable def X91:Code:=match Tryz.f91.body with
 |some (.seq _ (.seq (.seq _ (.block _ (.loop x))) _))=>x
 |_=> .skip
section
attribute [local simp] a0K a0I a0v a0V a1h a1F opE ev evs evo a0D a2H a0u a0m St.get St.put tgp tgl a1w a0Z sc a0W a1b a0E a3B a1K a6x lenOf a2u am5 Tryz.underlying29 Tryz.underlying33 a0b V.fit a5z anb a4Z bT V.cells storeAt setCells a3a a3b fill e0j d9J e0g d9L a0r
def d2W(b:List V)(i:Nat)(k:Int)(s h:ByteArray)(p:Int)(a:St):Prop:=
 a.sz=17/\T.get 8 a.env 3= .ptr 0 0/\T.get 8 a.env 7= .sl none b/\T.get 8 a.env 8=iV b.length/\T.get 8 a.env 9=iV i/\a0b a.h 0=some (.var [iV k,sV s,sV h,iV p])/\1<=a.nx
variable {h s:ByteArray} {k p:Int} {c:List V} {i n:Nat} {call:PV.Calls} {l:St} {y:V}
theorem d0M(hl:d2W c i k s h p l)(hy:c[i]?=some y)(hid:IsId y)(u:c.length<=1000000):
  ∃a,a0K P0 call n X21 l=some (if eqv y (.agg [iV k,sV s,sV h,iV p])then .ret else .normal,a)/\a.sz=17/\(if eqv y (.agg [iV k,sV s,sV h,iV p])then T.get 8 a.env 4=bV true else d2W c (i+1) k s h p a):=by
 obtain⟨e,hh,nx,sz⟩:=l;obtain⟨h1,h3,h7,h8,h9,h0,hx⟩:=hl;simp only at h1 h3 h7 h8 h9 h0 hx;subst h1;have d:i<c.length:=(ay0.1 hy).1;have e1:decide ((i:Int)<c.length)=true:=Ax1 (by omega);have f:¬(0=nx):=by omega
 have hw:IntKind.i64.wrap ((i:Int)+1)=i+1:=a2h (by omega) (by omega);have g:IsId (.agg [iV k,sV s,sV h,iV p]):=⟨k,s,h,p,rfl⟩;obtain⟨m,o,r,t,rfl⟩:=hid;have hb:=λ p q=>(c9W ⟨m,o,r,t,rfl⟩ g p q).1;have j:c[i]'d= .agg [iV m,sV o,sV r,iV t]:=(ay0.1 hy).2;generalize eqv (.agg [iV m,sV o,sV r,iV t]) (.agg [iV k,sV s,sV h,iV p])=b at hb|-;cases b with
 |true=>simp[X21,Tryz.f21,h3,h7,h8,h9,h0,a2f am5,d,j,f,hb]
 |false=>simp[X21,Tryz.f21,h3,h7,h8,h9,h0,a2f am5,d,j,f,hb,a2V am5,hw,d2W]
variable {b:St}
theorem d4x(hl:d2W c c.length k s h p b):∃a,a0K P0 call n X21 b=some (.exit 0,a)/\a.sz=17:=by
 obtain⟨e,hh,nx,sz⟩:=b;obtain⟨h1,h3,h7,h8,h9,h0,hx⟩:=hl;simp_all[X21,Tryz.f21,a2f]
theorem d0c{call:PV.Calls}{n:Nat}{b:List V}{k p:Int}{s h:ByteArray}(hid:∀y∈b,IsId y)(c:b.length<=1000000):∀(m i:Nat) (f:St),d2W b i k s h p f->i<=b.length->b.length-i<m->
  ∃x a,iter (a0K P0 call n X21) m f=some (x,a)/\a.sz=17/\(if c1H (λ y=>eqv y (.agg [iV k,sV s,sV h,iV p])) (b.drop i)then x= .ret/\T.get 8 a.env 4=bV true else x= .exit 0)
 |0,_,_,_,_,hm=>by omega
 |m+1,i,f,hl,hi,hm=>by
  by_cases e:i=b.length
  .subst e;obtain⟨a,h1,h2⟩:=d4x (call:=call) (n:=n) hl;refine⟨.exit 0,a,by grind[iter],h2,?_⟩;rw[List.drop_length];rfl
  .have d:i<b.length:=by omega
   obtain⟨a,h1,h2,h3⟩:=d0M (call:=call) (n:=n) hl (az5 d) (hid _ (au2 d)) c;have hd:b.drop i=b[i]::b.drop (i+1):=Az7 d;rw[hd];by_cases hq:eqv b[i] (.agg [iV k,sV s,sV h,iV p])=true
   .rw[ax3 hq]at h1 h3;exact⟨.ret,a,by grind[iter],h2,by simp_all[c1H]⟩
   .rw[ay9 hq]at h1 h3;obtain⟨x,g,h4,h5,h6⟩:=d0c hid c m (i+1) a h3 (by omega) (by omega);refine⟨x,g,by simp only[iter,h1];exact h4,h5,?_⟩;have hq:eqv b[i] (.agg [iV k,sV s,sV h,iV p])=false:=by simpa using hq
    simp_all[c1H]
variable {f:List V}
theorem d5f(hid:∀y∈f,IsId y)(o:f.length<=1000000)(hn:f.length<n):
  a7O P0 call n 21 [.sl none f,.agg [iV k,sV s,sV h,iV p]] []=some (bV (c1H (λ y=>eqv y (.agg [iV k,sV s,sV h,iV p])) f),[]):=by
 have hf:P0.funcs[21]?=some Tryz.f21:=Tryz.func21;have hX:∃r0 r1 r7,Tryz.f21.body=some (.seq (.region 0 r0 false) (.seq (.seq (.region 1 r1 false) (.block 0 (.loop X21))) (.seq (.region 7 r7 false) .ret)))/\
   (∃m,a0K P0 call n (.seq (.region 0 r0 false) (.region 1 r1 false)) {env:=a0u [.sl none f,.agg [iV k,sV s,sV h,iV p]] 0 .leaf,h:=[],nx:=0,sz:=17}=some (.normal,m)/\d2W f 0 k s h p m)/\
   ∀u:St,u.sz=17->∃i,a0K P0 call n (.seq (.region 7 r7 false) .ret) u=some (.ret,i)/\T.get 8 i.env 4=bV false:=by
  refine⟨_,_,_,rfl,?_,?_⟩
  .simp[d2W]
  .simp_all
 obtain⟨r0,r1,r7,hb,⟨m,r,hl⟩,h7⟩:=hX;obtain⟨x,i,h1,h2,h3⟩:=d0c (call:=call) (n:=n) hid o n 0 m hl (by omega) (by omega);rw[Ax3]at h3;have t:∃g,a0K P0 call n (.seq (.region 0 r0 false) (.seq (.seq (.region 1 r1 false) (.block 0 (.loop X21))) (.seq (.region 7 r7 false) .ret))) {env:=a0u [.sl none f,.agg [iV k,sV s,sV h,iV p]] 0 .leaf,h:=[],nx:=0,sz:=17}=some (.ret,g)/\T.get 8 g.env 4=bV (c1H (λ y=>eqv y (.agg [iV k,sV s,sV h,iV p])) f):=by
  have l:∀{a b c:Code} {s:St} {q:Option (Ex×St)},a0K P0 call n (.seq a b) s=some (.normal,m)->a0K P0 call n c m=q->a0K P0 call n (.seq a (.seq b c)) s=q:=by
   intro a b c s q ha hc;rw[a0K]at ha|-;cases e:a0K P0 call n a s with
   |none=>grind
   |some w=>grind[a0K]
  have j:∀{a b c d:Code} {s:St},a0K P0 call n (.seq a (.seq (.seq b c) d)) s=a0K P0 call n (.seq a (.seq b (.seq c d))) s:=by
   intro a b c d s;simp only[a0K];cases a0K P0 call n a s with
   |none=>rfl
   |some w=>grind
  by_cases hq:c1H (λ y=>eqv y (.agg [iV k,sV s,sV h,iV p])) f=true
  .rw[ax3 hq]at h3;obtain⟨rfl,h3⟩:=h3;refine⟨i,?_,by grind⟩;rw[j];grind[a0K]
  .rw[ay9 hq]at h3;subst h3;have hq:c1H (λ y=>eqv y (.agg [iV k,sV s,sV h,iV p])) f=false:=by simpa using hq
   obtain⟨g,k1,k2⟩:=h7 i h2;refine⟨g,?_,by grind⟩;rw[j];refine l r ?_;rw[a0K];simp only[a0K,h1,aw4];rw[a0K]at k1;exact k1
 obtain⟨g,f1,f2⟩:=t;have hm:max ([.sl none f,.agg [iV k,sV s,sV h,iV p]]:List V).length Tryz.f21.ntmps=17:=by simp[Tryz.f21]
 unfold a7O;simp only[Az0,hf,az1,hb,a0w,List.length_nil,hm,f1];have hr:a0m P0 Tryz.f21 g=some (bV (c1H (λ y=>eqv y (.agg [iV k,sV s,sV h,iV p])) f)):=by simp[a0m,Tryz.f21,a0D,St.get,f2]
 simp only[hr,az1,b1O (k:=21) (by rfl) (d0n (b9J a9t)),am3,a0G];rfl
theorem b5t{f:V->Bool}:∀{l:List V} {i:Nat},¬0<=a5U f l i->a5U f l i= -1
 |[],_,_=>rfl
 |x::r,i,h=>by
  simp only[a5U]at h|-;split
  .grind
  .next e=>rw[ay9 e]at h;exact b5t h
def d1E(b:List V)(i:Nat)(k:Int)(s h:ByteArray)(p:Int)(a:St):Prop:=
 a.sz=19/\T.get 8 a.env 0= .sl none b/\T.get 8 a.env 3= .ptr 0 0/\T.get 8 a.env 6= .sl none b/\T.get 8 a.env 7=iV b.length/\T.get 8 a.env 8=iV i/\a0b a.h 0=some (.var [iV k,sV s,sV h,iV p])/\1<=a.nx
theorem d2a(hl:d1E c i k s h p l)(hy:c[i]?=some y)(hid:IsId y)(u:c.length<=1000000):
  ∃a,a0K P0 call n X91 l=some (if eqv y (.agg [iV k,sV s,sV h,iV p])then .ret else .normal,a)/\a.sz=19/\(if eqv y (.agg [iV k,sV s,sV h,iV p])then T.get 8 a.env 4=iV i else d1E c (i+1) k s h p a):=by
 obtain⟨e,hh,nx,sz⟩:=l;obtain⟨h1,ha,h3,h7,h8,h9,h0,hx⟩:=hl;simp only at h1 ha h3 h7 h8 h9 h0 hx;subst h1;have d:i<c.length:=(ay0.1 hy).1;have e1:decide ((i:Int)<c.length)=true:=Ax1 (by omega);have f:¬(0=nx):=by omega
 have hw:IntKind.i64.wrap ((i:Int)+1)=i+1:=a2h (by omega) (by omega);have g:IsId (.agg [iV k,sV s,sV h,iV p]):=⟨k,s,h,p,rfl⟩;obtain⟨m,o,r,t,rfl⟩:=hid;have hb:=λ p q=>(c9W ⟨m,o,r,t,rfl⟩ g p q).2;have j:c[i]'d= .agg [iV m,sV o,sV r,iV t]:=(ay0.1 hy).2;generalize eqv (.agg [iV m,sV o,sV r,iV t]) (.agg [iV k,sV s,sV h,iV p])=b at hb|-;cases b with
 |true=>simp[X91,Tryz.f91,ha,h3,h8,h9,h0,a2f am5,d,j,hb]
 |false=>simp[X91,Tryz.f91,ha,h3,h7,h8,h9,h0,a2f am5,d,j,hb,a2V am5,hw,d1E,hx]
theorem d4y(hl:d1E c c.length k s h p b):∃a,a0K P0 call n X91 b=some (.exit 0,a)/\a.sz=19:=by
 obtain⟨e,hh,nx,sz⟩:=b;obtain⟨h1,ha,h3,h7,h8,h9,h0,hx⟩:=hl;simp_all[X91,Tryz.f91,a2f]
theorem d0q{call:PV.Calls}{n:Nat}{b:List V}{k p:Int}{s h:ByteArray}(hid:∀y∈b,IsId y)(c:b.length<=1000000):∀(m i:Nat) (f:St),d1E b i k s h p f->i<=b.length->b.length-i<m->
  ∃x a,iter (a0K P0 call n X91) m f=some (x,a)/\a.sz=19/\(if 0<=a5U (λ y=>eqv y (.agg [iV k,sV s,sV h,iV p])) (b.drop i) i then x= .ret/\T.get 8 a.env 4=iV (a5U (λ y=>eqv y (.agg [iV k,sV s,sV h,iV p])) (b.drop i) i)else x= .exit 0)
 |0,_,_,_,_,hm=>by omega
 |m+1,i,f,hl,hi,hm=>by
  by_cases e:i=b.length
  .subst e;obtain⟨a,h1,h2⟩:=d4y (call:=call) (n:=n) hl;refine⟨.exit 0,a,by grind[iter],h2,?_⟩;rw[List.drop_length];rfl
  .have d:i<b.length:=by omega
   obtain⟨a,h1,h2,h3⟩:=d2a (call:=call) (n:=n) hl (az5 d) (hid _ (au2 d)) c;have hd:b.drop i=b[i]::b.drop (i+1):=Az7 d;rw[hd];by_cases hq:eqv b[i] (.agg [iV k,sV s,sV h,iV p])=true
   .rw[ax3 hq]at h1 h3;exact⟨.ret,a,by grind[iter],h2,by simp_all[a5U]⟩
   .rw[ay9 hq]at h1 h3;obtain⟨x,g,h4,h5,h6⟩:=d0q hid c m (i+1) a h3 (by omega) (by omega);refine⟨x,g,by simp only[iter,h1];exact h4,h5,?_⟩;have hq:eqv b[i] (.agg [iV k,sV s,sV h,iV p])=false:=by simpa using hq
    simp_all[a5U]
theorem d4r(hid:∀y∈f,IsId y)(o:f.length<=1000000)(hn:f.length<n):
  a7O P0 call n 91 [.sl none f,.agg [iV k,sV s,sV h,iV p]] []=some (iV (a5U (λ y=>eqv y (.agg [iV k,sV s,sV h,iV p])) f 0),[]):=by
 have hf:P0.funcs[91]?=some Tryz.f91:=Tryz.func91;have hX:∃r0 r1 r7,Tryz.f91.body=some (.seq (.region 0 r0 false) (.seq (.seq (.region 1 r1 false) (.block 0 (.loop X91))) (.seq (.region 7 r7 false) .ret)))/\
   (∃m,a0K P0 call n (.seq (.region 0 r0 false) (.region 1 r1 false)) {env:=a0u [.sl none f,.agg [iV k,sV s,sV h,iV p]] 0 .leaf,h:=[],nx:=0,sz:=19}=some (.normal,m)/\d1E f 0 k s h p m)/\
   ∀u:St,u.sz=19->∃i,a0K P0 call n (.seq (.region 7 r7 false) .ret) u=some (.ret,i)/\T.get 8 i.env 4=iV (-1):=by
  refine⟨_,_,_,rfl,?_,?_⟩
  .simp[d1E]
  .simp_all
 obtain⟨r0,r1,r7,hb,⟨m,r,hl⟩,h7⟩:=hX;obtain⟨x,i,h1,h2,h3⟩:=d0q (call:=call) (n:=n) hid o n 0 m hl (by omega) (by omega);rw[Ax3]at h3;have t:∃g,a0K P0 call n (.seq (.region 0 r0 false) (.seq (.seq (.region 1 r1 false) (.block 0 (.loop X91))) (.seq (.region 7 r7 false) .ret))) {env:=a0u [.sl none f,.agg [iV k,sV s,sV h,iV p]] 0 .leaf,h:=[],nx:=0,sz:=19}=some (.ret,g)/\T.get 8 g.env 4=iV (a5U (λ y=>eqv y (.agg [iV k,sV s,sV h,iV p])) f 0):=by
  have l:∀{a b c:Code} {s:St} {q:Option (Ex×St)},a0K P0 call n (.seq a b) s=some (.normal,m)->a0K P0 call n c m=q->a0K P0 call n (.seq a (.seq b c)) s=q:=by
   intro a b c s q ha hc;rw[a0K]at ha|-;cases e:a0K P0 call n a s with
   |none=>grind
   |some w=>grind[a0K]
  have j:∀{a b c d:Code} {s:St},a0K P0 call n (.seq a (.seq (.seq b c) d)) s=a0K P0 call n (.seq a (.seq b (.seq c d))) s:=by
   intro a b c d s;simp only[a0K];cases a0K P0 call n a s with
   |none=>rfl
   |some w=>grind
  by_cases hq:0<=a5U (λ y=>eqv y (.agg [iV k,sV s,sV h,iV p])) f 0
  .rw[ax3 hq]at h3;obtain⟨rfl,h3⟩:=h3;refine⟨i,?_,h3⟩;rw[j];grind[a0K]
  .rw[ay9 hq]at h3;subst h3;have hq:a5U (λ y=>eqv y (.agg [iV k,sV s,sV h,iV p])) f 0= -1:=b5t hq;obtain⟨g,k1,k2⟩:=h7 i h2;refine⟨g,?_,by grind⟩;rw[j];refine l r ?_;rw[a0K];simp only[a0K,h1,aw4];rw[a0K]at k1;exact k1
 obtain⟨g,f1,f2⟩:=t;have hm:max ([.sl none f,.agg [iV k,sV s,sV h,iV p]]:List V).length Tryz.f91.ntmps=19:=by simp[Tryz.f91]
 unfold a7O;simp only[Az0,hf,az1,hb,a0w,List.length_nil,hm,f1];have hr:a0m P0 Tryz.f91 g=some (iV (a5U (λ y=>eqv y (.agg [iV k,sV s,sV h,iV p])) f 0)):=by simp[a0m,Tryz.f91,a0D,St.get,f2]
 simp only[hr,az1,b1O (k:=91) (by rfl) (d0n (b9J a6N)),am3,a0G];rfl
theorem d2Y(hn:0<n):a7O P0 call n 21 [.nils,.agg [iV k,sV s,sV h,iV p]] []=some (bV false,[]):=by
 obtain⟨n,rfl⟩:∃m,n=m+1:=⟨n-1,by omega⟩;have r0:∀(g:G) (nx:Nat),a5t 21 g nx (bV false)=some (bV false,[],[]):=λ g nx=>b1O (by rfl) (d0n (b9J a9t));simp[P0,a7O,Tryz.func21,Tryz.f21,iter,a0w,a0G,r0,a1u,a2f am5]
theorem d1j(hn:0<n):a7O P0 call n 91 [.nils,.agg [iV k,sV s,sV h,iV p]] []=some (iV (-1),[]):=by
 obtain⟨n,rfl⟩:∃m,n=m+1:=⟨n-1,by omega⟩;have r0:∀(g:G) (nx:Nat),a5t 91 g nx (iV (-1))=some (iV (-1),[],[]):=λ g nx=>b1O (by rfl) (d0n (b9J a6N));simp[P0,a7O,Tryz.func91,Tryz.f91,iter,a0w,a0G,r0,a1u,a2f am5]
theorem d3w{L:V}{i:Int}(hL:isD L)(i0:call.inl 91=none)(c0:call.cbv 91 [L,.agg [iV k,sV s,sV h,iV p]] []=some (iV i,[])):
  a7O P0 call n 44 [L,.agg [iV k,sV s,sV h,iV p]] []=some (bV (decide (0<=i)),[]):=by
 have r0:∀(g:G) (nx:Nat),a5t 44 g nx (bV (decide (0<=i)))=some (bV (decide (0<=i)),[],[]):=λ g nx=>b1O (by rfl) (d0n (b9J a9t));have d0:∀(g:G) (nx:Nat),a1q call.cbv g nx 91 [L,.agg [iV k,sV s,sV h,iV p]]=some {v:=iV i}:=λ g nx=>b1v (by repeat' first|exact d2G|refine all_cons ?_ ?_|exact a6N|exact c3R|exact b9J hL|refine c4A ?_) c0 (d0n (b9J a6N));simp[P0,a7O,Tryz.func44,Tryz.f44,i0,d0,a0w,a0G,r0,a1u,a7V am5,GE.ge]
end
section
variable {prim:Nat->Option Fp} {inl:Nat->Bool}
theorem a9P{k:Nat}{xs:List V}{v:V}{m:Nat}(hp:prim k=none)(h:RC P0 prim inl k xs v):∃N,m<=N/\a7O P0 (a0d P0 prim inl N) N k xs []=some (v,[]):=by
 obtain⟨M,hM⟩:=h;refine⟨max M m,ar6 _ _,b8S hp ?_⟩;exact(a0L (P:=P0) (prim:=prim) (inl:=inl) (by omega:M<=max M m+1)).cbv _ _ _ _ hM
theorem b1C(c:prim 21=none)(f:prim 44=none)(d:prim 91=none)(hi:inl 91=false){L:V}{k p:Int}{s h:ByteArray}{v:V}(hL:L= .nils\/∃a,L= .sl none a/\(∀y∈a,IsId y)/\a.length<=1000000)
  (t44:∃w,RC P0 prim inl 44 [L,.agg [iV k,sV s,sV h,iV p]] w) (t91:∃w,RC P0 prim inl 91 [L,.agg [iV k,sV s,sV h,iV p]] w) (hv:RC P0 prim inl 21 [L,.agg [iV k,sV s,sV h,iV p]] v):RC P0 prim inl 44 [L,.agg [iV k,sV s,sV h,iV p]] v:=by
 obtain⟨w,hw⟩:=t44;obtain⟨i,b⟩:=t91;have e:isD L:=by grind[a6n,b4K]
 have g:∃q,i=iV q/\(L= .nils->q= -1)/\∀a,L= .sl none a->q=a5U (λ y=>eqv y (.agg [iV k,sV s,sV h,iV p])) a 0:=by
  rcases hL with rfl|⟨a,rfl,h1,h2⟩
  .obtain⟨N,n1,n2⟩:=a9P (m:=1) d b;rw[d1j (by omega)]at n2;grind
  .obtain⟨N,n1,n2⟩:=a9P (m:=a.length+1) d b;rw[d4r h1 h2 (by omega)]at n2;grind
 obtain⟨q,rfl,n,j⟩:=g;obtain⟨M,hM⟩:=b;have l:w=bV (decide (0<=q)):=by
  obtain⟨N,n1,n2⟩:=a9P (m:=M) f hw;rw[d3w e (a4G hi) ((a0L (P:=P0) (prim:=prim) (inl:=inl) n1).cbv _ _ _ _ hM)]at n2;simp only[az0,az8,ao0]at n2;exact n2.symm
 have k21:v=bV (decide (0<=q)):=by
  rcases hL with rfl|⟨a,rfl,h1,h2⟩
  .obtain⟨N,n1,n2⟩:=a9P (m:=1) c hv;rw[d2Y (by omega)]at n2;simp_all
  .obtain⟨N,n1,n2⟩:=a9P (m:=a.length+1) c hv;rw[d5f h1 h2 (by omega)]at n2;simp only[az0,az8,ao0]at n2;rw[<-n2,j a rfl]
   congr 2
   rw[ao7,ay2];exact findE_ge.symm
 grind
end
end
end Go.SE
