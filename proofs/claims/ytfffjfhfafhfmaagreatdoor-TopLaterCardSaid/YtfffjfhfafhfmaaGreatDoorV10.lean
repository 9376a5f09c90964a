/- A part of the proof of TopLater: the law returns true for every input. No conditions. -/
import Derived.Test.YtfffjfhfafhfmaaGreatDoorR28
import Derived.Test.YtfffjfhfafhfmaaGreatDoorR29
import Derived.Test.YtfffjfhfafhfmaaGreatDoorR30
import Derived.Test.YtfffjfhfafhfmaaGreatDoorR31
import Derived.Test.YtfffjfhfafhfmaaGreatDoorR32
import Derived.Test.YtfffjfhfafhfmaaGreatDoorV07
import Derived.Test.YtfffjfhfafhfmaaGreatDoorV08
set_option linter.all false
namespace Go.SB
section
open Go.PV
def Qea:V->Bool
 | .lit (.int _ _)| .nils| .sl none _=>true
 |_=>false
structure Qob where
 v:Nat->V
 d:∀n,Qea (v n)=true
def Qeb:Value->Option Nat
 | .chan (some n)=>some n
 |_=>none
mutual
def Qec(θ:Qob):V->V
 | .lit v=>match Qeb v with
   |some n=>θ.v n
   |none=> .lit v
 | .nils=> .nils
 | .slf xs=> .slf (Qed θ xs)
 | .sl o xs=> .sl o (Qed θ xs)
 | .agg cs=> .agg (Qed θ cs)
 | .tup cs=> .tup (Qed θ cs)
 | .fn f a b=> .fn f (Qed θ a) (Qed θ b)
 | .row id sz off n=> .row id sz off n
 | .ptr a b=> .ptr a b
 | .eptr a b c d=> .eptr a b c d
 | .dptr cs=> .dptr (Qed θ cs)
 | .map id=> .map id
 | .und=> .und
def Qed(θ:Qob):List V->List V
 |[]=>[]
 |c::r=>Qec θ c::Qed θ r
end
section
variable {θ:Qob}
theorem Qee{v:V}(h:Qea v=true):(∃k n,v= .lit (.int k n))\/v= .nils\/∃xs,v= .sl none xs:=by
 unfold Qea at h;grind
theorem Qef(θ:Qob)(v:V):(∃n,v= .lit (.chan (some n))/\((∃k m,Qec θ v= .lit (.int k m))\/Qec θ v= .nils\/∃xs,Qec θ v= .sl none xs))\/(∃w,v= .lit w/\Qeb w=none/\Qec θ v= .lit w)\/∀w,v≠ .lit w:=by
 cases v with
 |lit w=>
  cases h:Qeb w with
  |none=>exact .inr (.inl ⟨w,rfl,h,by rw[Qec,h]⟩)
  |some n=>
   refine .inl ⟨n,?_,?_⟩
   .unfold Qeb at h;grind
   .have e:Qec θ (.lit w)=θ.v n:=by rw[Qec,h]
    rw[e];exact Qee (θ.d n)
 |_=>grind
theorem Qeg:∀{l:List V},Qed θ l=l.map (Qec θ)
 |[]=>rfl
 |c::r=>by rw[Qed,Qeg];rfl
theorem Qeh{l:List V}:(Qed θ l).length=l.length:=by grind[Qeg]
theorem Qei{a b:List V}:Qed θ (a++b)=Qed θ a++Qed θ b:=by simp[Qeg]
theorem Qej{l:List V}{i:Nat}:(Qed θ l)[i]?=(l[i]?).map (Qec θ):=by grind[Qeg]
theorem Qek{l:List V}{i:Nat}:Qed θ (l.drop i)=(Qed θ l).drop i:=by simp[Qeg]
theorem Qel{l:List V}{i:Nat}:Qed θ (l.take i)=(Qed θ l).take i:=by simp[Qeg]
theorem Qem{l:List V}:(Qed θ l).head?=(l.head?).map (Qec θ):=by cases l<;>rfl
theorem Qen{l:List V}{i:Nat}{v:V}:(Qed θ l).set i (Qec θ v)=Qed θ (l.set i v):=by simp_all[Qeg]
theorem Qeo{l:List V}:(Qed θ l).isEmpty=l.isEmpty:=by cases l<;>rfl
theorem Qep{w:Value}(h:Qeb w=none):Qec θ (.lit w)= .lit w:=by rw[Qec,h]
theorem Qeq{v:V}:(Qec θ v).cells=Qed θ v.cells:=by
 rcases Qef θ v with⟨n,rfl,h⟩|⟨w,rfl,_,h⟩|h
 .have:Qed θ (V.cells (.lit (.chan (some n))))=[Qec θ (.lit (.chan (some n)))]:=rfl
  rw[this];rcases h with⟨k,m,h⟩|h|⟨xs,h⟩<;>rw[h]<;>rfl
 .grind[V.cells,Qed]
 .cases v with
  |lit w=>grind
  |_=>grind[Qec,V.cells,Qed]
theorem Qer{v:V}:a0r (Qec θ v)=a0r v:=by
 rcases Qef θ v with⟨n,rfl,h⟩|⟨w,rfl,_,h⟩|h
 .rcases h with⟨k,m,h⟩|h|⟨xs,h⟩<;>rw[h]<;>rfl
 .rw[h]
 .cases v with
  |lit w=>grind
  |_=>simp only[Qec,a0r]
theorem Qes{v:V}:a4Z (Qec θ v)=a4Z v:=by
 rcases Qef θ v with⟨n,rfl,h⟩|⟨w,rfl,_,h⟩|h
 .rcases h with⟨k,m,h⟩|h|⟨xs,h⟩<;>rw[h]<;>rfl
 .rw[h]
 .cases v with
  |lit w=>grind
  |_=>simp only[Qec,a4Z]
theorem Qet{v:V}:(Qec θ v).fit=v.fit:=by
 grind[V.fit,Qeq,Qeg,Qer]
theorem Qeu{l:List V}:bk (Qed θ l)=bk l:=by
 match l with
 |[]=>rfl
 |[a]=>rfl
 |[a,b]=>exact Qes
 |a::b::c::r=>rfl
theorem Qev:∀{cs:List V} {o:Nat} {vs:List V},setCells (Qed θ cs) o (Qed θ vs)=Qed θ (setCells cs o vs)
 |cs,0,vs=>by
  grind[setCells,Qei,Qeh,Qek]
 |[],o+1,vs=>rfl
 |c::cs,o+1,vs=>by simp only[Qed,setCells,Qev]
theorem Qew{w:Value}{v:V}(h:a0Z w=some v):Qec θ v=v:=by
 unfold a0Z at h;split at h
 .split at h
  .injection h with h;subst h;rfl
  .cases h
 .split at h
  .next hs=>
   injection h with h
   subst h;refine Qep ?_;cases w<;>first|rfl|grind[sc]
  .cases h
theorem Qex:∀{l:List Value} {r:List V},a0D a0Z l=some r->Qed θ r=r
 |[],r,h=>by simp only[a0D,az0]at h;subst h;rfl
 |a::l,r,h=>by
  simp only[a0D]at h;cases h1:a0Z a with
  |none=>grind
  |some b=>
   cases h2:a0D a0Z l with
   |none=>grind
   |some bs=>
    simp only[h1,h2,az0]at h;subst h;rw[Qed,Qew h1,Qex h2]
theorem Qey{w:Value}{v:V}(h:a1w w=some v):Qec θ v=v:=by
 unfold a1w at h;split at h
 .simp only[az2]at h
  obtain⟨r,h1,rfl⟩:=h;rw[Qec,Qex h1]
 .split at h
  .injection h with h;subst h;rfl
  .cases h
 .exact Qew h
theorem Qez{P:Program}{t:Nat}{z:V}(h:a4h P t=some z):Qec θ z=z:=by
 grind[a4h,az3,Qey]
theorem Qfa{P:Program}{s:Sem Value}{z:V}(h:a0t P s=some z):Qec θ z=z:=by
 grind[a0t,az3,Qey]
theorem Qfb{v:V}{u:Value}(h:a1b v=some u):Qec θ v=v:=by
 unfold a1b at h;split at h
 .cases h
 .next w hw=>
  refine Qep ?_;unfold Qeb;grind
 .rfl
 .cases h
theorem Qfc:∀{l:List V} {r:List Value},a0D a1b l=some r->Qed θ l=l
 |[],r,h=>rfl
 |a::l,r,h=>by
  simp only[a0D]at h;cases h1:a1b a with
  |none=>grind
  |some b=>
   cases h2:a0D a1b l with
   |none=>grind
   |some bs=>rw[Qed,Qfb h1,Qfc h2]
theorem Qfd{v:V}{u:Value}(h:a0W v=some u):Qec θ v=v:=by
 unfold a0W at h;grind[az2,Qec,Qfc,Qfb]
theorem Qfe:∀{l:List V} {r:List Value},a0D a0W l=some r->Qed θ l=l
 |[],r,h=>rfl
 |a::l,r,h=>by
  simp only[a0D]at h;cases h1:a0W a with
  |none=>grind
  |some b=>
   cases h2:a0D a0W l with
   |none=>grind
   |some bs=>rw[Qed,Qfd h1,Qfe h2]
end
def Qff(θ:Qob)(es:List (V×V)):List (V×V):=es.map λ p=>(Qec θ p.1,Qec θ p.2)
def Qfg(θ:Qob):Box->Box
 | .var cs=> .var (Qed θ cs)
 | .row ty z xs f=> .row ty z (Qed θ xs) f
 | .map es=> .map (Qff θ es)
def Qfh(θ:Qob)(g:G):G:=λ i=>(g i).map (Qfg θ)
def Qfi(θ:Qob)(h:HP):HP:=h.map λ q=>(q.1,q.2.map (Qfg θ))
def Qfj(θ:Qob):T->T
 | .leaf=> .leaf
 | .one v=> .one (Qec θ v)
 | .node l r=> .node (Qfj θ l) (Qfj θ r)
def Qfk(θ:Qob)(s:St):St:={env:=Qfj θ s.env,h:=Qfi θ s.h,nx:=s.nx,sz:=s.sz}
def Qfl(θ:Qob)(o:Out):Out:={v:=Qec θ o.v,upd:=Qfi θ o.upd,cnt:=o.cnt}
section
variable {θ:Qob}
theorem Qfm:∀{h:HP},a0b (Qfi θ h)=Qfh θ (a0b h)
 |[]=>rfl
 |(j,b)::r=>by
  funext i
  have ih:=congrFun (Qfm (h:=r)) i;unfold Qfh at ih⊢;simp only[Qfi,av2,a0b];by_cases e:i=j
  .simp[e]
  .rw[ay9 e,ay9 e];exact ih
theorem Qfn{a b:HP}:Qfi θ (a++b)=Qfi θ a++Qfi θ b:=by simp[Qfi]
theorem b0b:∀(d:Nat) (t:T) (i:Nat),T.get d (Qfj θ t) i=Qec θ (T.get d t i)
 |0,.leaf,_=>rfl
 |0,.one _,_=>rfl
 |0,.node _ _,_=>rfl
 |_+1,.leaf,_=>rfl
 |_+1,.one _,_=>rfl
 |d+1,.node l r,i=>by
  simp only[Qfj,T.get];split
  .exact b0b d l _
  .exact b0b d r _
theorem a5W:∀(d:Nat) (t:T) (i:Nat) (v:V),T.put d (Qfj θ t) i (Qec θ v)=Qfj θ (T.put d t i v)
 |0,t,_,_=>by cases t<;>rfl
 |d+1,t,i,v=>by
  have l0:=a5W d .leaf (i/2) v;cases t with
  |node l r=>
   simp only[Qfj,T.put];split
   .rw[a5W d l];rfl
   .rw[a5W d r];rfl
  |_=>
   grind[Qfj,T.put]
theorem Qfo{s:St}:(Qfk θ s).get=λ i=>Qec θ (s.get i):=by
 funext i
 unfold St.get;split
 .exact b0b 8 s.env i
 .rfl
theorem Qfp{s:St}{d:Option Tmp}{v:V}:a2H (Qfk θ s) d (Qec θ v)=Qfk θ (a2H s d v):=by
 cases d with
 |none=>rfl
 |some d=>
  grind[a2H,St.put,Qfk,a5W]
theorem Qfq{get:Nat->V}{x:Operand}:ev (λ i=>Qec θ (get i)) x=(ev get x).map (Qec θ):=by
 cases x with
 |const v=>
  simp only[ev];cases h:a1w v with
  |none=>rfl
  |some w=>simp[Qey h]
 |_=>rfl
theorem Qfr{get:Nat->V}{l:Array Operand}:evs (λ i=>Qec θ (get i)) l=(evs get l).map (Qed θ):=by
 unfold evs;generalize l.toList=l;induction l with
 |nil=>rfl
 |cons a l ih=>
  simp only[a0D,Qfq];cases ev get a with
  |none=>rfl
  |some v=>
   simp only[ax0,ih];cases a0D (ev get) l with
   |none=>rfl
   |some r=>rfl
theorem Qfs{get:Nat->V}{x:Option Operand}:evo (λ i=>Qec θ (get i)) x=(evo get x).map (Option.map (Qec θ)):=by
 cases x with
 |none=>rfl
 |some x=>simp only[evo,Qfq];cases ev get x<;>rfl
theorem Qft{P:Program}{t:Nat}{cs:List V}{v:V}(h:a6x P t cs=some v):a6x P t (Qed θ cs)=some (Qec θ v):=by
 unfold a6x at h⊢;simp only[Az0,az3]at h⊢;obtain⟨n,h1,a,h2,h⟩:=h;refine⟨n,h1,a,h2,?_⟩;split at h
 .next ha=>
  rw[ax3 ha,Qeh];split at h
  .cases h
  .next hn=>
   rw[ay9 hn];grind[Qec,Qel]
 simp_all[Qem]
theorem Qfu{g:G}{p:V}{cs:List V}(h:a0E g p=some cs):a0E (Qfh θ g) (Qec θ p)=some (Qed θ cs):=by
 unfold a0E at h;split at h
 .grind[Qec,a0E,Qfh,Qfg,Qek]
 .split at h
  .next z xs f hg=>
   split at h
   .next hz=>
    simp only[az2]at h;obtain⟨x,hx,rfl⟩:=h;simp_all[Qec,a0E,Qfh,Qfg,Qej,Qeq,Qek]
   .cases h
  .cases h
 all_goals grind[Qec,a0E]
theorem Qfv{o:Nat}{v w:V}(h:a3B o v=some w):a3B o (Qec θ v)=some (Qec θ w):=by
 unfold a3B at h;grind[Qec,a3B,Qek]
theorem Qfw{v:V}{n:Nat}(h:a2u v=some n):Qec θ v=v:=by
 unfold a2u at h;split at h
 .rfl
 .cases h
theorem Qfx{g:G}{v:V}{l:List V}(h:a4Q g v=some l):a4Q (Qfh θ g) (Qec θ v)=some (Qed θ l):=by
 unfold a4Q at h;split at h
 .injection h with h;subst h;rfl
 .injection h with h;subst h;rfl
 .injection h with h;subst h;rfl
 .split at h
  .next z xs f hg=>
   split at h
   .next hc=>
    injection h with h
    subst h;simp_all[Qec,a4Q,Qfh,Qfg,Qeh,Qel,Qek]
   .cases h
  .cases h
 .cases h
theorem Qfy{v:V}{n:Nat}(h:lenOf v=some n):lenOf (Qec θ v)=some n:=by
 unfold lenOf at h;grind[Qec,lenOf,Qeh]
theorem Qfz{b:ByteArray}:Qed θ (a2F b)=a2F b:=by
 rw[Qeg,a2F,List.map_map];rfl
theorem Qga{g:G}{v:V}{l:List V}(h:a4j g v=some l):a4j (Qfh θ g) (Qec θ v)=some (Qed θ l):=by
 unfold a4j at h;split at h
 .injection h with h
  subst h;rw[Qfz];rfl
 .have e:=Qfx (θ:=θ) h
  cases v<;>simp only[a4Q,reduceCtorEq]at h<;>exact e
theorem Qgb:∀{l:List V} {b:List UInt8},a0D a7v l=some b->Qed θ l=l
 |[],_,_=>rfl
 |a::l,b,h=>by
  simp only[a0D]at h;cases h1:a7v a with
  |none=>grind
  |some b=>
   cases h2:a0D a7v l with
   |none=>grind
   |some bs=>
    have:Qec θ a=a:=by
     unfold a7v at h1;split at h1
     .rfl
     .cases h1
    rw[Qed,this,Qgb h2]
end
end
section
open Go.PV
section
variable {θ:Qob} {g:G}
theorem Qgc{id:Nat}{ty z:Nat}{xs:List V}{f:Bool}(h:g id=some (.row ty z xs f)):Qfh θ g id=some (.row ty z (Qed θ xs) f):=by simp only[Qfh,h,ax0,Qfg]
theorem Qgd{id:Nat}{cs:List V}(h:g id=some (.var cs)):Qfh θ g id=some (.var (Qed θ cs)):=by simp only[Qfh,h,ax0,Qfg]
theorem Qge{id:Nat}{es:List (V×V)}(h:g id=some (.map es)):Qfh θ g id=some (.map (Qff θ es)):=by simp only[Qfh,h,ax0,Qfg]
theorem Qgf{S:Type}{f f':S->V->Option (V×S)}(hf:∀s a b s',f s a=some (b,s')->f' s (Qec θ a)=some (Qec θ b,s')):∀{l:List V} {s:S} {r:List V} {s':S},a0G f s l=some (r,s')->a0G f' s (Qed θ l)=some (Qed θ r,s')
 |[],s,r,s',h=>by simp only[a0G,az0,az8]at h;obtain⟨rfl,rfl⟩:=h;rfl
 |a::l,s,r,s',h=>by
  simp only[a0G]at h;cases h1:f s a with
  |none=>simp[h1]at h
  |some q=>
   obtain⟨b,s1⟩:=q;simp only[h1]at h;cases h2:a0G f s1 l with
   |none=>grind
   |some q=>
    obtain⟨bs,s2⟩:=q;simp only[h2,az0,az8]at h;obtain⟨rfl,rfl⟩:=h;simp only[Qed,a0G,hf _ _ _ _ h1,Qgf hf h2]
theorem Qgg:∀(d:Nat) (ms:List Nat) (v v':V) (ms':List Nat),a0C d g ms v=some (v',ms')->a0C d (Qfh θ g) ms (Qec θ v)=some (Qec θ v',ms')
 |0,_,_,_,_,h=>by cases h
 |d+1,ms,v,v',ms',h=>by
  have ih:=λ s a b s'=>Qgg d s a b s';rcases Qef θ v with⟨n,rfl,hs⟩|⟨w,rfl,_,hs⟩|hn
  .simp only[a0C,az0,az8]at h
   obtain⟨rfl,rfl⟩:=h;rcases hs with⟨k,m,hs⟩|hs|⟨xs,hs⟩<;>rw[hs]<;>rfl
  .simp only[a0C,az0,az8]at h
   obtain⟨rfl,rfl⟩:=h;rw[hs];rfl
  .cases v with
   |lit w=>exact absurd rfl (hn w)
   |nils|sl _ _|slf _=>
    simp only[a0C,az0,az8]at h;obtain⟨rfl,rfl⟩:=h;rfl
   |agg cs|tup cs=>
    simp only[a0C]at h;cases h1:a0G (a0C d g) ms cs with
    |none=>grind
    |some q=>
     obtain⟨l,m⟩:=q;simp only[h1,az0,az8]at h;obtain⟨rfl,rfl⟩:=h;simp only[Qec,a0C,Qgf ih h1]
   |row id sz off n=>
    simp only[a0C]at h;split at h
    .next ty z xs f hg=>
     split at h
     .next hc=>
      cases h1:a0G (a0C d g) (id::ms) ((xs.drop off).take n)with
      |none=>grind
      |some q=>
       obtain⟨l,m⟩:=q;simp only[h1,az0,az8]at h;obtain⟨rfl,rfl⟩:=h;have h2:=Qgf ih h1;rw[Qel,Qek]at h2;simp only[Qec,a0C,Qgc hg,Qeh,ax3 hc,h2]
     .cases h
    .cases h
   |_=>simp[a0C]at h
theorem Qgh{v:V}(h:∀i o,v≠ .ptr i o)(i o:Nat):Qec θ v≠ .ptr i o:=by
 rcases Qef θ v with⟨n,rfl,hs⟩|⟨w,rfl,_,hs⟩|hn
 .rcases hs with⟨k,m,hs⟩|hs|⟨xs,hs⟩<;>rw[hs]<;>simp
 .grind
 .cases v with
  |ptr a b=>grind
  |lit w=>grind
  |_=>simp[Qec]
theorem Qgi{v:V}(h:∀f a b,v≠ .fn f a b)(f:Nat)(a b:List V):Qec θ v≠ .fn f a b:=by
 rcases Qef θ v with⟨n,rfl,hs⟩|⟨w,rfl,_,hs⟩|hn
 .rcases hs with⟨k,m,hs⟩|hs|⟨xs,hs⟩<;>rw[hs]<;>simp
 .grind
 .cases v with
  |fn f a b=>grind
  |lit w=>grind
  |_=>simp[Qec]
theorem Qgj{v:V}{d:Nat}{ms ps:List Nat}(h1:∀i o,v≠ .ptr i o)(h2:∀f a b,v≠ .fn f a b):a1y (d+1) g (ms,ps) v=(a0C ED g ms v).map λ q=>(q.1,q.2,ps):=by
 cases v with
 |ptr a b=>grind
 |fn f a b=>grind
 |_=>simp only[a1y];grind
theorem Qgk:∀(d:Nat) (s:List Nat×List Nat) (v v':V) (s':List Nat×List Nat),a1y d g s v=some (v',s')->a1y d (Qfh θ g) s (Qec θ v)=some (Qec θ v',s')
 |0,_,_,_,_,h=>by cases h
 |d+1,(ms,ps),v,v',s',h=>by
  have ih:=λ s a b s'=>Qgk d s a b s';by_cases h1:∃i o,v= .ptr i o
  .obtain⟨i,o,rfl⟩:=h1
   simp only[a1y,Qec]at h⊢;split at h
   .cases h
   .next ho=>
    rw[ay9 ho];split at h<;>next hi=>(simp only[az0,az8]at h;obtain⟨rfl,rfl⟩:=h;simp only[hi,Qec])
  .by_cases h2:∃f a b,v= .fn f a b
   .obtain⟨f,a,b,rfl⟩:=h2
    simp only[a1y,Qec]at h⊢;cases h3:a0G (a1y d g) (ms,ps) a with
    |none=>simp[h3]at h
    |some q=>
     obtain⟨a',s1⟩:=q;simp only[h3]at h;cases h4:a0G (a1y d g) s1 b with
     |none=>grind
     |some q=>
      obtain⟨b',s2⟩:=q;simp only[h4,az0,az8]at h;obtain⟨rfl,rfl⟩:=h;simp only[Qgf ih h3,Qgf ih h4,Qec]
   .have h1:∀i o,v≠ .ptr i o:=λ i o e=>h1 ⟨i,o,e⟩
    have h2:∀f a b,v≠ .fn f a b:=λ f a b e=>h2 ⟨f,a,b,e⟩;rw[Qgj h1 h2]at h;rw[Qgj (Qgh h1) (Qgi h2)];simp only[az2]at h⊢;obtain⟨⟨w,m⟩,e,e2⟩:=h;simp only[az8]at e2;obtain⟨rfl,rfl⟩:=e2;exact⟨_,Qgg _ _ _ _ _ e,rfl⟩
theorem Qgl{v:V}{s:List Nat×List Nat}(h1:∀a b c d,v≠ .row a b c d)(h2:v≠ .dptr []):a0h g s v=(a0C ED g s.1 v).map λ q=>(q.1,q.2,s.2):=by
 cases v with
 |row a b c d=>grind
 |dptr l=>cases l with
  |nil=>grind
  |cons a l=>simp only[a0h];grind
 |_=>grind[a0h]
theorem Qgm{v:V}(h:∀a b c d,v≠ .row a b c d)(a b c d:Nat):Qec θ v≠ .row a b c d:=by
 rcases Qef θ v with⟨n,rfl,hs⟩|⟨w,rfl,_,hs⟩|hn
 .rcases hs with⟨k,m,hs⟩|hs|⟨xs,hs⟩<;>rw[hs]<;>simp
 .grind
 .cases v with
  |row a b c d=>grind
  |lit w=>grind
  |_=>simp[Qec]
theorem Qgn{v:V}:a6J (Qec θ v)=a6J v:=by
 rcases Qef θ v with⟨n,rfl,hs⟩|⟨w,rfl,_,hs⟩|hn
 .rcases hs with⟨k,m,hs⟩|hs|⟨xs,hs⟩<;>rw[hs]<;>rfl
 .rw[hs]
 .cases v with
  |lit w=>exact absurd rfl (hn w)
  |dptr l=>cases l<;>rfl
  |_=>simp[Qec,a6J]
theorem Qgo(s:List Nat×List Nat)(v v':V)(s':List Nat×List Nat)(h:a0h g s v=some (v',s')):a0h (Qfh θ g) s (Qec θ v)=some (Qec θ v',s'):=by
 have dflt:(a0C ED g s.1 v).map (λ q=>(q.1,q.2,s.2))=some (v',s')->(a0C ED (Qfh θ g) s.1 (Qec θ v)).map (λ q=>(q.1,q.2,s.2))=some (Qec θ v',s'):=by
  intro h;simp only[az2]at h⊢;obtain⟨⟨w,m⟩,e,e2⟩:=h;simp only[az8]at e2;obtain⟨rfl,rfl⟩:=e2;exact⟨_,Qgg _ _ _ _ _ e,rfl⟩
 by_cases h1:∃a b c d,v= .row a b c d
 .obtain⟨id,sz,off,n,rfl⟩:=h1
  have dflt':(match a0C ED g s.1 (.row id sz off n)with
    |some (v,ms)=>some (v,ms,s.2)
    |none=>none)=some (v',s')->(match a0C ED (Qfh θ g) s.1 (.row id sz off n)with
    |some (v,ms)=>some (v,ms,s.2)
    |none=>none)=some (Qec θ v',s'):=by
   intro h;split at h
   .next w ms e=>
    simp only[az0,az8]at h;obtain⟨rfl,rfl⟩:=h;have:=Qgg (θ:=θ) _ _ _ _ _ e;simp only[Qec]at this;rw[this]
   .cases h
  simp only[a0h,Qec]at h⊢;cases hg:g id with
  |none=>grind
  |some b=>cases b with
   |row ty z xs f=>
    simp only[hg,Qgc hg,Qeh]at h⊢;split at h
    .next hc=>
     rw[ax3 hc];cases h1:a0G (a0C ED g) s.1 xs with
     |none=>grind
     |some q=>
      obtain⟨l,m⟩:=q;simp only[h1,az0,az8]at h;obtain⟨rfl,rfl⟩:=h;simp only[Qgf (λ s a b s'=>Qgg (θ:=θ) ED s a b s') h1,Qec]
    grind
   |_=>grind
 .have h1:∀a b c d,v≠ .row a b c d:=λ a b c d e=>h1 ⟨a,b,c,d,e⟩
  by_cases h2:v= .dptr []
  .subst h2
   simp only[a0h,az0,az8]at h;obtain⟨rfl,rfl⟩:=h;rfl
  .rw[Qgl h1 h2]at h
   have h3:Qec θ v≠ .dptr []:=by
    intro e;have e1:a6J (Qec θ v)=true:=by rw[e];rfl
    rw[Qgn]at e1;unfold a6J at e1;split at e1
    .grind
    .cases e1
   grind[Qgl,Qgm]
theorem Qgp{id:Nat}{v:V}:a0S id (Qec θ v)=Qec θ (a0S id v):=by
 rcases Qef θ v with⟨n,rfl,hs⟩|⟨w,rfl,_,hs⟩|hn
 .have:a0S id (.lit (.chan (some n)))= .lit (.chan (some n)):=rfl
  rw[this];rcases hs with⟨k,m,hs⟩|hs|⟨xs,hs⟩<;>rw[hs]<;>rfl
 .have:a0S id (.lit w)= .lit w:=rfl
  rw[this,hs];rfl
 .cases v with
  |lit w=>exact absurd rfl (hn w)
  |ptr i o=>simp only[a0S,Qec];split<;>rfl
  |_=>simp only[a0S,Qec]
theorem Qgq{id:Nat}{v:V}:a0H id (Qec θ v)=Qec θ (a0H id v):=by
 rcases Qef θ v with⟨n,rfl,hs⟩|⟨w,rfl,_,hs⟩|hn
 .have:a0H id (.lit (.chan (some n)))= .lit (.chan (some n)):=rfl
  rw[this];rcases hs with⟨k,m,hs⟩|hs|⟨xs,hs⟩<;>rw[hs]<;>rfl
 .have:a0H id (.lit w)= .lit w:=rfl
  rw[this,hs];rfl
 .cases v with
  |lit w=>exact absurd rfl (hn w)
  |dptr l=>cases l<;>grind[a0H,Qec,Qed]
  |_=>simp only[a0H,Qec]
theorem Qgr{f:V->V}(hf:∀v,f (Qec θ v)=Qec θ (f v))(l:List V):(Qed θ l).map f=Qed θ (l.map f):=by
 rw[Qeg,Qeg,List.map_map,List.map_map]
 congr 1
 funext x
 exact hf x
def Qgs(θ:Qob)(bs:List (List V)):List (List V):=bs.map (Qed θ)
theorem Qgt{s:List Nat×List Nat}{id:Nat}{r:List V}{s':List Nat×List Nat}(h:a1x g s id=some (r,s')):a1x (Qfh θ g) s id=some (Qed θ r,s'):=by
 unfold a1x at h;split at h
 .next cs hg=>
  split at h
  .cases h
  .next hn=>
   unfold a1x;have e:(Qed θ cs).any a6J=cs.any a6J:=by grind[Qeg,Qgn]
   simp only[Qgd hg,e,ay9 hn,Qgr (λ _=>Qgp)];grind[Qgf,Qgo]
 .cases h
theorem Qgu:∀{l:List Nat} {s:List Nat×List Nat} {r:List (List V)} {s':List Nat×List Nat},a0G (a1x g) s l=some (r,s')->a0G (a1x (Qfh θ g)) s l=some (Qgs θ r,s')
 |[],s,r,s',h=>by simp only[a0G,az0,az8]at h;obtain⟨rfl,rfl⟩:=h;rfl
 |a::l,s,r,s',h=>by
  simp only[a0G]at h;cases h1:a1x g s a with
  |none=>grind
  |some q=>
   obtain⟨b,s1⟩:=q;simp only[h1]at h;cases h2:a0G (a1x g) s1 l with
   |none=>grind
   |some q=>
    obtain⟨bs,s2⟩:=q;simp only[h2,az0,az8]at h;obtain⟨rfl,rfl⟩:=h;simp only[Qgs,av2,a0G,Qgt h1,Qgu h2]
theorem Qgv(s:List Nat×List Nat)(v v':V)(s':List Nat×List Nat)(h:a0O g s v=some (v',s')):a0O (Qfh θ g) s (Qec θ v)=some (Qec θ v',s'):=by
 by_cases h1:∃cs,v= .agg cs
 .obtain⟨cs,rfl⟩:=h1
  simp only[a0O]at h;cases h1:a0G (a0h g) s cs with
  |none=>grind
  |some q=>
   obtain⟨l,m⟩:=q;simp only[h1,az0,az8]at h;obtain⟨rfl,rfl⟩:=h;simp only[Qec,a0O,Qgf (λ s a b s'=>Qgo s a b s') h1]
 .have e:a0O g s v=a0h g s v:=by cases v<;>first|rfl|grind
  rw[e]at h;have h2:=Qgo (θ:=θ) _ _ _ _ h;have e2:a0O (Qfh θ g) s (Qec θ v)=a0h (Qfh θ g) s (Qec θ v):=by
   rcases Qef θ v with⟨n,rfl,hs⟩|⟨w,rfl,_,hs⟩|hn
   .rcases hs with⟨k,m,hs⟩|hs|⟨xs,hs⟩<;>rw[hs]<;>rfl
   .rw[hs];rfl
   .cases v<;>first|rfl|grind|grind
  rw[e2];exact h2
theorem Qgw{s:List Nat×List Nat}{v v':V}{s':List Nat×List Nat}(h:a2q g s v=some (v',s')):a2q (Qfh θ g) s (Qec θ v)=some (Qec θ v',s'):=by
 by_cases h1:∃cs,v= .tup cs
 .obtain⟨cs,rfl⟩:=h1
  simp only[a2q]at h;cases h1:a0G (a0O g) s cs with
  |none=>grind
  |some q=>
   obtain⟨l,m⟩:=q;simp only[h1,az0,az8]at h;obtain⟨rfl,rfl⟩:=h;simp only[Qec,a2q,Qgf (λ s a b s'=>Qgv s a b s') h1]
 .have e:a2q g s v=a0O g s v:=by cases v<;>first|rfl|grind
  rw[e]at h;have h2:=Qgv (θ:=θ) _ _ _ _ h;have e2:a2q (Qfh θ g) s (Qec θ v)=a0O (Qfh θ g) s (Qec θ v):=by
   rcases Qef θ v with⟨n,rfl,hs⟩|⟨w,rfl,_,hs⟩|hn
   .rcases hs with⟨k,m,hs⟩|hs|⟨xs,hs⟩<;>rw[hs]<;>rfl
   .rw[hs];rfl
   .cases v<;>first|rfl|grind|grind
  rw[e2];exact h2
theorem Qgx{k nx:Nat}{v v':V}{s':List Nat×List Nat}(h:a5t k g nx v=some (v',s')):a5t k (Qfh θ g) nx (Qec θ v)=some (Qec θ v',s'):=by
 unfold a5t at h⊢;split at h
 .next hk=>rw[ax3 hk];exact Qgw h
 .next hk=>
  rw[ay9 hk];unfold c6k at h⊢;split at h
  .next w ms ks e=>
   rw[Qgw e];grind
  .cases h
def Qgy(θ:Qob)(s:HP×Nat):HP×Nat:=(Qfi θ s.1,s.2)
def Qgz(θ:Qob)(r:V×HP×Nat):V×HP×Nat:=(Qec θ r.1,Qgy θ r.2)
def Qha(θ:Qob)(r:List V×HP×Nat):List V×HP×Nat:=(Qed θ r.1,Qgy θ r.2)
theorem Qhb{v:V}{s:HP×Nat}(h:∀q xs,v≠ .sl (some q) xs):a0J s v=(v,s):=by
 cases v with
 |sl o xs=>cases o with
  |none=>rfl
  |some q=>grind
 |_=>rfl
theorem Qhc{v:V}(h:∀q xs,v≠ .sl (some q) xs)(q:Nat×Nat×Bool)(xs:List V):Qec θ v≠ .sl (some q) xs:=by
 rcases Qef θ v with⟨n,rfl,hs⟩|⟨w,rfl,_,hs⟩|hn
 .grind
 .grind
 .cases v with
  |sl o ys=>cases o with
   |none=>simp[Qec]
   |some p=>grind
  |lit w=>grind
  |_=>simp[Qec]
theorem Qhd{s:HP×Nat}{v:V}:a0J (Qgy θ s) (Qec θ v)=Qgz θ (a0J s v):=by
 by_cases h:∃q xs,v= .sl (some q) xs
 .obtain⟨⟨a,b,c⟩,xs,rfl⟩:=h
  grind[Qec,a0J,Qgz,Qgy,Qfi,Qfg,Qeh]
 .have h:∀q xs,v≠ .sl (some q) xs:=λ q xs e=>h ⟨q,xs,e⟩
  rw[Qhb h,Qhb (Qhc h)];rfl
theorem Qhe:∀{l:List V} {s:HP×Nat},PV.a0f (Qgy θ s) (Qed θ l)=Qha θ (PV.a0f s l)
 |[],s=>rfl
 |c::l,s=>by
  have e:=Qhe (l:=l) (s:=(a0J s c).2);simp only[Qed,PV.a0f,Qhd,Qgz,e];rfl
theorem Qhf{s:HP×Nat}{v:V}:a2B (Qgy θ s) (Qec θ v)=Qgz θ (a2B s v):=by
 by_cases h1:∃cs,v= .agg cs
 .obtain⟨cs,rfl⟩:=h1
  simp only[Qec,a2B,Qhe];rfl
 .have e:∀s,a2B s v=a0J s v:=λ s=>by cases v<;>first|rfl|grind
  have e2:∀s,a2B s (Qec θ v)=a0J s (Qec θ v):=by
   intro s;rcases Qef θ v with⟨n,rfl,hs⟩|⟨w,rfl,_,hs⟩|hn
   .rcases hs with⟨k,m,hs⟩|hs|⟨xs,hs⟩<;>rw[hs]<;>rfl
   .grind
   .cases v<;>first|rfl|grind|grind
  rw[e,e2,Qhd]
theorem Qhg:∀{l:List V} {s:HP×Nat},a1Z (Qgy θ s) (Qed θ l)=Qha θ (a1Z s l)
 |[],s=>rfl
 |c::l,s=>by
  have e:=Qhg (l:=l) (s:=(a2B s c).2);simp only[Qed,a1Z,Qhf,Qgz,e];rfl
theorem Qhh{s:HP×Nat}{v:V}:a1R (Qgy θ s) (Qec θ v)=Qgz θ (a1R s v):=by
 by_cases h1:∃cs,v= .tup cs
 .obtain⟨cs,rfl⟩:=h1
  simp only[Qec,a1R,Qhg];rfl
 .have e:∀s,a1R s v=a2B s v:=λ s=>by cases v<;>first|rfl|grind
  have e2:∀s,a1R s (Qec θ v)=a2B s (Qec θ v):=by
   intro s;rcases Qef θ v with⟨n,rfl,hs⟩|⟨w,rfl,_,hs⟩|hn
   .rcases hs with⟨k,m,hs⟩|hs|⟨xs,hs⟩<;>rw[hs]<;>rfl
   .grind
   .cases v<;>first|rfl|grind|grind
  rw[e,e2,Qhf]
theorem Qhi:∀{ps:List Nat} {bs:List (List V)} {s s':HP×Nat},a2s s ps bs=some s'->a2s (Qgy θ s) ps (Qgs θ bs)=some (Qgy θ s')
 |[],[],s,s',h=>by simp only[a2s,az0]at h;subst h;rfl
 |[],_::_,_,_,h=>by cases h
 |_::_,[],_,_,h=>by cases h
 |id::ps,cs::bs,s,s',h=>by
  simp only[a2s]at h;simp only[Qgs,av2,a2s,Qhe];have h2:=Qhi h;rw[<-h2];simp only[Qha,Qgr (λ _=>Qgq)];rfl
theorem Qhj:∀{bs:List (List V)} {i:Nat} {s:HP×Nat},a0w i (Qgy θ s) (Qgs θ bs)=Qgy θ (a0w i s bs)
 |[],_,_=>rfl
 |cs::bs,i,s=>by
  simp only[Qgs,av2,a0w,Qhe];rw[<-Qhj];simp only[Qha,Qgr (λ _=>Qgq)];rfl
theorem Qhk:∀{l:List Nat},a3y (Qfh θ g) l=Qfi θ (a3y g l)
 |[]=>rfl
 |id::l=>by
  simp only[a3y];cases hg:g id with
  |none=>simp only[Qfh,hg,Option.map_none];exact Qhk
  |some b=>cases b with
   |row ty z xs f=>
    rw[Qgc hg];simp only[Qhk (l:=l)];rfl
   |_=>simp only[Qfh,hg,ax0,Qfg];exact Qhk
theorem Qhl{ms ks:List Nat}:a1u (Qfh θ g) ms ks=a1u g ms ks:=by
 unfold a1u
 congr 1
 funext id
 congr 1
 cases hg:g id with
 |none=>grind[Qfh]
 |some b=>cases b<;>grind[Qfh,Qfg]
def Qhm(θ:Qob)(c c':a7F):Prop:=∀k asq bs v bs',c k asq bs=some (v,bs')->c' k (Qed θ asq) (Qgs θ bs)=some (Qec θ v,Qgs θ bs')
theorem Qhn{c c':a7F}(hc:Qhm θ c c'){nx:Nat}{k:Nat}{args:List V}{r:Out}(h:a1q c g nx k args=some r):a1q c' (Qfh θ g) nx k (Qed θ args)=some (Qfl θ r):=by
 unfold a1q at h⊢;cases h1:a0G (a1y 4 g) ([],[]) args with
 |none=>grind
 |some q=>
  obtain⟨asq,ms,ps⟩:=q;rw[Qgf (λ s a b s'=>Qgk (θ:=θ) 4 s a b s') h1];rw[h1]at h;simp only at h⊢;cases h2:a0G (a1x g) (ms,[]) ps with
  |none=>grind
  |some q=>
   obtain⟨bs,ms,ks⟩:=q;rw[Qgu h2];rw[h2]at h;simp only[Qhl]at h⊢;split at h
   .cases h
   .next h3=>
    rw[ay9 h3];cases h4:c k asq bs with
    |none=>grind
    |some q=>
     obtain⟨v,bs'⟩:=q;rw[hc _ _ _ _ _ h4];rw[h4]at h;simp only at h⊢;cases h5:a2s (ks.map (λ id=>(id,none))++a3y g ms,nx) ps bs' with
     |none=>grind
     |some s=>
      have h6:=Qhi (θ:=θ) h5;have e:Qgy θ (ks.map (λ id=>(id,(none:Option Box)))++a3y g ms,nx)=(ks.map (λ id=>(id,none))++a3y (Qfh θ g) ms,nx):=by simp_all[Qgy,Qhk,Qfi]
      rw[e]at h6;rw[h6];simp only[h5,az0]at h;subst h;simp only[Qhh];rfl
end
end
section
open Go.PV
section
variable {P:Program} {θ:Qob} {get:Nat->V} {g:G} {nx:Nat}
structure Calls.sb (θ:Qob) (c c':PV.Calls):Prop where
 cbv:Qhm θ c.cbv c'.cbv
 none:∀k,c.inl k=none->c'.inl k=none
 inl:∀k f,c.inl k=some f->∃f',c'.inl k=some f'/\∀asq h nx r,f asq h nx=some r->f' (Qed θ asq) (Qfi θ h) nx=some (Qgz θ r)
theorem Qho{x:Operand}{v:V}(h:ev get x=some v):ev (λ i=>Qec θ (get i)) x=some (Qec θ v):=by rw[Qfq,h];rfl
theorem Qhp{l:Array Operand}{v:List V}(h:evs get l=some v):evs (λ i=>Qec θ (get i)) l=some (Qed θ v):=by rw[Qfr,h];rfl
theorem Qhq{x:Option Operand}{v:Option V}(h:evo get x=some v):evo (λ i=>Qec θ (get i)) x=some (v.map (Qec θ)):=by rw[Qfs,h];rfl
theorem Qhr{pl:List (Nat×Nat)}:∀{l:List (Nat×Operand)} {r:List (Nat×Nat×V)},a0D (a3b get pl) l=some r->a0D (a3b (λ i=>Qec θ (get i)) pl) l=some (r.map λ q=>(q.1,q.2.1,Qec θ q.2.2))
 |[],r,h=>by simp only[a0D,az0]at h;subst h;rfl
 |a::l,r,h=>by
  simp only[a0D]at h;cases h1:a3b get pl a with
  |none=>grind
  |some b=>
   cases h2:a0D (a3b get pl) l with
   |none=>grind
   |some bs=>
    simp only[h1,h2,az0]at h;subst h;have h3:a3b (λ i=>Qec θ (get i)) pl a=some (b.1,b.2.1,Qec θ b.2.2):=by
     unfold a3b at h1⊢;rw[Qfq];cases hp:pl[a.1]? with
     |none=>grind
     |some q=>
      cases he:ev get a.2 with
      |none=>grind
      |some v=>
       simp only[hp,he,az0]at h1;subst h1;rfl
    simp only[a0D,h3,Qhr h2,av2]
theorem Qhs:∀{l:List (Nat×Nat×V)} {cs ds:List V},fill cs l=some ds->fill (Qed θ cs) (l.map λ q=>(q.1,q.2.1,Qec θ q.2.2))=some (Qed θ ds)
 |[],cs,ds,h=>by simp only[fill,az0]at h;subst h;rfl
 |(off,size,v)::r,cs,ds,h=>by
  simp only[fill]at h;split at h
  .cases h
  .next hn=>
   simp only[av2,fill,Qeq,Qeh,Qet,Qev];rw[ay9 hn];exact Qhs h
theorem Qht:∀{l:List (Nat×Operand)} {r:List (Nat×V)},a0D (a3a get) l=some r->a0D (a3a (λ i=>Qec θ (get i))) l=some (r.map λ q=>(q.1,Qec θ q.2))
 |[],r,h=>by simp only[a0D,az0]at h;subst h;rfl
 |a::l,r,h=>by
  simp only[a0D]at h;cases h1:a3a get a with
  |none=>simp[h1]at h
  |some b=>
   cases h2:a0D (a3a get) l with
   |none=>simp[h1,h2]at h
   |some bs=>
    simp only[h1,h2,az0]at h;subst h;have h3:a3a (λ i=>Qec θ (get i)) a=some (b.1,Qec θ b.2):=by
     unfold a3a at h1⊢;rw[Qfq];simp only[az2]at h1;obtain⟨v,e,rfl⟩:=h1;rw[e];rfl
    simp only[a0D,h3,Qht h2,av2]
theorem Qhu{sz:Nat}:∀{l:List (Nat×V)} {xs ys:List V},a1H xs sz l=some ys->a1H (Qed θ xs) sz (l.map λ q=>(q.1,Qec θ q.2))=some (Qed θ ys)
 |[],xs,ys,h=>by simp only[a1H,az0]at h;subst h;rfl
 |(i,v)::r,xs,ys,h=>by
  simp only[a1H]at h;split at h
  .next hn=>
   simp only[av2,a1H,Qeq,Qeh,Qet];rw[ax3 hn,Qen];exact Qhu h
  .cases h
theorem Qhv{n:Nat}{t:Nat}{z:V}(h:a4h P t=some z):Qed θ (List.replicate n z)=List.replicate n z:=by rw[Qeg,List.map_replicate,Qez h]
theorem Qhw{p:V}{vs:List V}{u:HP}(h:storeAt g p vs=some u):storeAt (Qfh θ g) (Qec θ p) (Qed θ vs)=some (Qfi θ u):=by
 unfold storeAt at h;split at h
 .next id off=>
  split at h
  .next cs hg=>
   simp only[Qec,storeAt,Qgd hg,Qeh,Qev,Qeu];split at h
   .next h3=>
    rw[ax3 h3];split at h
    .cases h
    .next h4=>
     rw[ay9 h4];injection h with h
     subst h;rfl
   .cases h
  .cases h
 .next id sz i off=>
  split at h
  .next ty z xs hg=>
   simp only[Qec,storeAt,Qgc hg,Qej];simp only[Az0,az3]at h⊢;obtain⟨x,hx,h⟩:=h;refine⟨Qec θ x,by grind,?_⟩;simp only[Qeq,Qeh];split at h
   .next hc=>
    rw[ax3 hc];simp only[az3,Az1,az0]at h⊢;obtain⟨x',hx',rfl⟩:=h;refine⟨Qec θ x',?_,?_⟩
    .rw[Qev]
     by_cases ha:∃cs,x= .agg cs
     .obtain⟨cs,rfl⟩:=ha
      simp only[az0]at hx';subst hx';rfl
     .have e1:(setCells x.cells off vs).head?=some x':=by
       grind
      have e3:(Qed θ (setCells x.cells off vs)).head?=some (Qec θ x'):=by rw[Qem,e1];rfl
      rcases Qef θ x with⟨n,rfl,hs⟩|⟨w,rfl,_,hs⟩|hn
      .rcases hs with⟨k,m,hs⟩|hs|⟨xs,hs⟩<;>rw[hs]<;>exact e3
      .grind
      .cases x<;>first|exact absurd ⟨_,rfl⟩ ha|grind|exact e3
    .grind[Qfi,Qfg,Qen]
   .cases h
  .cases h
 .cases h
theorem Qhx{d:TypeDesc}{a b:V}(h:a2U d a b=true):a2U d (Qec θ a) (Qec θ b)=true:=by
 unfold a2U at h;split at h<;>first|rfl|cases h
theorem Qhy{op:BinOp}{t:Nat}{x y:Operand}{a b r:V}(h:a3w P op t x y a b=some r):a3w P op t x y (Qec θ a) (Qec θ b)=some (Qec θ r):=by
 unfold a3w at h⊢;simp only[Az0,az3]at h⊢;obtain⟨d,hd,h⟩:=h;refine⟨d,hd,?_⟩;split at h
 .next hn=>
  rw[ax3 (Qhx hn)];split at h<;>first|(injection h with h;subst h;rfl)|cases h
 .next hn=>
  simp only[az3]at h;obtain⟨u,hu,v,hv,h⟩:=h;rw[Qfd hu,Qfd hv,ay9 hn,Qfa h];simp only[hu,hv,az1];exact h
theorem Qhz{sz:Nat}{l:List V}:b2C sz (Qed θ l)=b2C sz l:=by
 cases l with
 |nil=>rfl
 |cons a l=>simp only[Qed,b2C,Qeq,Qeh]
theorem Qia{x:Option V}{r:Option Value}(h:(match x with|none=>some none|some y=>(a0W y).map some)=some r):x.map (Qec θ)=x:=by
 cases x with
 |none=>rfl
 |some y=>
  simp only[az2]at h;obtain⟨u,hu,_⟩:=h;rw[ax0,Qfd hu]
theorem Qib{x:Option V}{d r:Nat}(h:(match x with|none=>some d|some y=>a2u y)=some r):x.map (Qec θ)=x:=by
 cases x with
 |none=>rfl
 |some y=>grind[Qfw]
def Qic(P:Program)(t:Nat)(v:V)(lo hi mx:Option V):Option V:=do
    let e<-a2G P t;let sz<-a1M P e;let n<-lenOf v;let l<-(match lo with|none=>some 0|some y=>a2u y);let u<-(match hi with|none=>some n|some y=>a2u y)
    if l>u||u>n then none else
    match mx with
    |some y=>do
     if(<-a2u y)=u/\lo.isNone/\hi.isSome then match v with
      | .nils=>some .nils
      | .sl _ ys| .slf ys=>some (.slf (ys.take u))
      |_=>none
     else none
    |none=>match v with
     | .nils=>some .nils
     | .row id z off _=>if z≠sz then none else if l=u/\l≠0 then some (.sl none [])else some (.row id z (off+l) (u-l))
     | .sl _ ys| .slf ys=>if b2C sz ys then some (.sl none ((ys.take u).drop l))else none
     |_=>none
theorem Qid{t:Nat}{v:V}{lo hi mx:Option V}(h:∀s,v≠ .lit (.string s)):a3d P t v lo hi mx=Qic P t v lo hi mx:=by
 unfold a3d;split
 .grind
 .rfl
theorem Qie{t:Nat}{v r:V}{lo hi mx:Option V}(h:a3d P t v lo hi mx=some r):a3d P t (Qec θ v) (lo.map (Qec θ)) (hi.map (Qec θ)) (mx.map (Qec θ))=some (Qec θ r):=by
 by_cases hs:∃s,v= .lit (.string s)
 .obtain⟨s,rfl⟩:=hs
  have h0:=h;simp only[a3d,Az0,az3]at h;obtain⟨a,ha,b,hb,c,hc,h⟩:=h;rw[Qia ha,Qia hb,Qia hc,Qfa h];exact h0
 .have hs2:∀s,v≠ .lit (.string s):=λ s e=>hs ⟨s,e⟩
  have h0:∀w,Qec θ v≠ .lit (.string w):=by
   intro w;rcases Qef θ v with⟨n,rfl,hs⟩|⟨w,rfl,_,hs⟩|hn
   .grind
   .grind
   .cases v<;>first|grind|simp[Qec]
  rw[Qid hs2]at h;rw[Qid h0];unfold Qic at h⊢;simp only[Az0,az3]at h⊢;obtain⟨e,he,sz,hz,n,hn,l,hl,u,hu,h⟩:=h;rw[Qib hl,Qib hu];refine⟨e,he,sz,hz,n,Qfy hn,l,hl,u,hu,?_⟩;split at h
  .cases h
  .next hlu=>
   rw[ay9 hlu];cases mx with
   |some y=>
    simp only[ax0,az3]at h⊢;obtain⟨m,hm,h⟩:=h;refine⟨m,by grind[Qfw],?_⟩;split at h
    .next hc=>
     rw[ax3 hc];grind[Qec,Qel]
    .cases h
   |none=>
    simp only[Option.map_none]at h⊢;split at h
    .injection h with h;subst h;rfl
    .next id z off m=>
     split at h
     .cases h
     .next h1=>
      simp only[Qec];rw[ay9 h1];split at h<;>next h2=>((first|rw[ax3 h2]|rw[ay9 h2]);injection h with h;subst h;rfl)
    all_goals first
     |cases h
     |(split at h
       .next h1=>
        simp only[Qec,Qhz,ax3 h1];grind[Qec,Qel,Qek]
       .cases h)
theorem Qif{p:Nat->Bool}{l:List V}:(Qed θ l).any (λ y=>p y.cells.length)=l.any λ y=>p y.cells.length:=by
 grind[Qeg,List.any_map,Qeq]
theorem Qig{t u:Nat}{a x:V}{r:Out}(h:a0M P g nx t u a x=some r):a0M P (Qfh θ g) nx t u (Qec θ a) (Qec θ x)=some (Qfl θ r):=by
 unfold a0M at h⊢;simp only[Az0,az3]at h⊢;obtain⟨e,he,i,hi,z,hz,d,hd,ys,hy,h⟩:=h;refine⟨e,he,i,hi,z,hz,d,hd,Qed θ ys,Qga hy,?_⟩;have ha:((Qed θ ys).any λ y=>decide (y.cells.length≠i.size))=ys.any λ y=>decide (y.cells.length≠i.size):=Qif (p:=λ n=>decide (n≠i.size));rw[ha];split at h
 .cases h
 .next h1=>
  rw[ay9 h1];split at h
  .simp only[Qec,Qeo,Qeh]
   split at h<;>next h2=>
    (first
     |(rw[ax3 h2];injection h with h;subst h;rfl)
     |(rw[ay9 h2]
       split at h<;>next h3=>
        (first
         |(rw[ay9 h3];injection h with h;subst h;rfl)
         |cases h)))
  .next zs=>
   have hb:((Qed θ zs).any λ y=>decide (y.cells.length≠i.size))=zs.any λ y=>decide (y.cells.length≠i.size):=Qif (p:=λ n=>decide (n≠i.size));simp only[Qec,Qeo,Qeh,hb];split at h<;>next h2=>
    (first
     |(rw[ax3 h2];injection h with h;subst h;rfl)
     |(rw[ay9 h2]
       split at h<;>next h3=>
        (first
         |(rw[ay9 h3];injection h with h;subst h;simp_all[Qfl,Qec,Qfi,Qfg,Qei])
         |cases h)))
  .next id z off n=>
   split at h
   .next ty z' xs frz hg=>
    simp only[Qec,Qgc hg,Qeh];split at h
    .cases h
    .next h3=>
     rw[ay9 h3];injection h with h;subst h
     simp_all[Qfl,Qec,Qfi,Qfg,Qei,Qel]
   .cases h
  .cases h
theorem Qih:∀{es:List (V×V)} {ms:List MapEntry},a0D b3G es=some ms->a0D b3G (Qff θ es)=some ms
 |[],_,h=>h
 |p::es,ms,h=>by
  simp only[a0D]at h;cases h1:b3G p with
  |none=>grind
  |some b=>
   cases h2:a0D b3G es with
   |none=>grind
   |some bs=>
    simp only[h1,h2,az0]at h;subst h;have h3:b3G (Qec θ p.1,Qec θ p.2)=some b:=by
     have h0:=h1;unfold b3G at h1⊢;simp only[az2]at h1;obtain⟨u,hu,rfl⟩:=h1;simp only[Qfd hu,hu,ax0]
    have h4:=Qih h2;grind[Qff,a0D]
theorem Qii{em:Bool}{t:Nat}{k:Value}{es:List (V×V)}{r:Option Nat}(h:findKey P em t k es=some r):findKey P em t k (Qff θ es)=some r:=by
 grind[findKey,Qih]
theorem Qij{es:List (V×V)}{i:Nat}:(Qff θ es)[i]?=(es[i]?).map λ p=>(Qec θ p.1,Qec θ p.2):=by grind[Qff]
theorem Qik{es:List (V×V)}{i:Nat}{k:Value}(h:d1S es i k=true):d1S (Qff θ es) i k=true:=by
 grind[d1S,Qij,Qfd]
theorem Qil{k x:Operand}{id:Nat}{kt:Nat}{r:Out}(h:(match g id with
   |some (.map es)=>do
    let key<-ev get k;let ku<-a0W key;let v<-ev get x
    if !(a0r v)then none
    match<-findKey P false kt ku es with
    |some i=>if d1S es i ku then pure {v:= .und,upd:=[(id,some (.map (es.set i (key,v))))]}else none
    |none=>pure {v:= .und,upd:=[(id,some (.map (es++[(key,v)])))]}
   |_=>none)=some r):(match Qfh θ g id with
   |some (.map es)=>do
    let key<-ev (λ i=>Qec θ (get i)) k;let ku<-a0W key;let v<-ev (λ i=>Qec θ (get i)) x
    if !(a0r v)then none
    match<-findKey P false kt ku es with
    |some i=>if d1S es i ku then pure {v:= .und,upd:=[(id,some (.map (es.set i (key,v))))]}else none
    |none=>pure {v:= .und,upd:=[(id,some (.map (es++[(key,v)])))]}
   |_=>none)=some (Qfl θ r):=by
 split at h
 .next es hg=>
  rw[Qge hg];simp only[Az0,az3]at h⊢;obtain⟨key,hk,ku,hu,v,hv,h⟩:=h;refine⟨Qec θ key,Qho hk,ku,by grind[Qfd],Qec θ v,Qho hv,?_⟩;rw[Qer];split at h
  .cases h
  .next hc=>
   rw[ay9 hc];simp only[az1,az3]at h⊢;obtain⟨q,hq,h⟩:=h;refine⟨q,Qii hq,?_⟩;cases q with
   |some i=>
    simp only at h⊢;split at h
    .next hs=>
     rw[ax3 (Qik hs)];injection h with h
     subst h;simp_all[Qfl,Qec,Qfi,Qfg,Qff]
    .cases h
   |none=>
    simp only at h⊢;injection h with h
    subst h;simp_all[Qfl,Qec,Qfi,Qfg,Qff]
 .cases h
end
end
section
open Go.PV
section
variable {P:Program} {θ:Qob} {get:Nat->V} {g:G} {nx:Nat}
theorem Qim{c c':PV.Calls}(hc:Calls.sb θ c c'){o:Oper}{out:Out}(h:opE P c get g nx o=some out):opE P c' (λ i=>Qec θ (get i)) (Qfh θ g) nx o=some (Qfl θ out):=by
 obtain⟨dst,op,type,pos,after,guard⟩:=o;cases op;case move x=>
  simp only[opE,Az0,az3,Az1,az0]at h⊢;obtain⟨v,h1,rfl⟩:=h;exact⟨Qec θ v,Qho h1,rfl⟩
 case assign x=>
  simp only[opE,Az0,az3,Az1,az0]at h⊢;obtain⟨v,h1,rfl⟩:=h;exact⟨Qec θ v,Qho h1,rfl⟩
 case pick q a b=>
  simp only[opE,Az0,az3,Az1]at h⊢;obtain⟨v,h1,h⟩:=h;refine⟨Qec θ v,Qho h1,?_⟩;split at h
  .simp only[Qec,Qeb,az3,az0]at h⊢
   obtain⟨w,h2,rfl⟩:=h;exact⟨Qec θ w,Qho h2,rfl⟩
  .cases h
 case alloc t=>
  simp only[opE,Az0,az3,Az1]at h⊢;obtain⟨z,h1,h⟩:=h;refine⟨z,h1,?_⟩;split at h
  .cases h
  .next hn=>
   rw[ay9 hn];injection h with h
   subst h;have:Qed θ z.cells=z.cells:=by rw[<-Qeq,Qez h1]
   grind[Qfl,Qec,Qfi,Qfg]
 case box t x=>
  simp only[opE,Az0,az3,Az1]at h⊢;obtain⟨v,h1,h⟩:=h;refine⟨Qec θ v,Qho h1,?_⟩;rw[Qet,Qeq,Qeu];split at h
  .cases h
  .next hn=>
   rw[ay9 hn];grind[Qfl,Qec,Qfi,Qfg]
 case build t ps=>
  simp only[opE,Az0,az3,Az1]at h⊢;obtain⟨z,h1,h⟩:=h;refine⟨z,h1,?_⟩;split at h
  .next fs hfs=>
   simp only[az3,az0]at h⊢;obtain⟨pl,Qjt,q,q1,w,w1,rfl⟩:=h;refine⟨pl,Qjt,_,Qhr q1,Qed θ w,?_,rfl⟩;have w2:=Qhs (θ:=θ) w1;rw[<-Qeq,Qez h1]at w2;exact w2
  .cases h
 case buildSlice t n ps=>
  simp only[opE,Az0,az3,Az1]at h⊢;obtain⟨e,e1,z,z1,sz,s1,h⟩:=h;refine⟨e,e1,z,z1,sz,s1,?_⟩;split at h
  .cases h
  .next hn=>
   rw[ay9 hn];simp only[az3,az0]at h⊢;obtain⟨q,q1,xs,x1,rfl⟩:=h;refine⟨_,Qht q1,Qed θ xs,?_,?_⟩
   .have x2:=Qhu (θ:=θ) x1
    grind[Qhv]
   grind[Qfl,Qec,Qfi,Qfg]
 case load t a=>
  simp only[opE,Az0,az3,Az1,az0]at h⊢;obtain⟨p,Qjt,cs,c1,w,w1,rfl⟩:=h;exact⟨Qec θ p,Qho Qjt,Qed θ cs,Qfu c1,Qec θ w,Qft w1,rfl⟩
 case store t a x=>
  simp only[opE,Az0,az3,Az1]at h⊢;obtain⟨p,Qjt,v,v1,n,n1,h⟩:=h;refine⟨Qec θ p,Qho Qjt,Qec θ v,Qho v1,n,n1,?_⟩;rw[Qeq,Qeh,Qet];split at h
  .cases h
  .next hn=>
   rw[ay9 hn];simp only[az3,az0]at h⊢;obtain⟨u,u1,rfl⟩:=h;exact⟨Qfi θ u,Qhw u1,rfl⟩
 case nilCheck x=>
  simp only[opE,Az0,az3,Az1]at h⊢;obtain⟨v,h1,h⟩:=h;refine⟨Qec θ v,Qho h1,?_⟩;split at h<;>first|(injection h with h;subst h;rfl)|cases h
 case fieldAddr t x f=>
  simp only[opE,Az0,az3,Az1]at h⊢;obtain⟨⟨o,ft⟩,h1,s,s1,h⟩:=h;refine⟨(o,ft),h1,s,s1,?_⟩;split at h
  .cases h
  .next hn=>
   rw[ay9 hn];simp only[az3,az0]at h⊢;obtain⟨v,v1,w,w1,rfl⟩:=h;exact⟨Qec θ v,Qho v1,Qec θ w,Qfv w1,rfl⟩
 case field t x f=>
  simp only[opE,Az0,az3,Az1]at h⊢;obtain⟨⟨o,ft⟩,h1,v,v1,h⟩:=h;refine⟨(o,ft),h1,Qec θ v,Qho v1,?_⟩;split at h
  .next cs=>
   simp only[az3,az0]at h;obtain⟨w,w1,rfl⟩:=h;simp only[Qec,<-Qek,Qft w1,az1];rfl
  .cases h
 case indexAddr t x i=>
  simp only[opE,Az0,az3,Az1]at h⊢;obtain⟨iv,i1,n,n1,e,e1,sz,s1,p,Qjt,h⟩:=h;refine⟨iv,(Qho i1).trans (an8 some (Qfw n1)),n,n1,e,e1,sz,s1,Qec θ p,Qho Qjt,?_⟩;split at h;all_goals first
   |cases h
   |(simp only[Qec,az3]at h⊢
     obtain⟨w,w1,h⟩:=h;refine⟨Qec θ w,by grind[Qej],?_⟩;rw[Qeq,Qeh];split at h
     .cases h
     .next hn=>
      rw[ay9 hn];injection h with h
      subst h;rfl)
   |(simp only[Qec]
     split at h
     .next hn=>rw[ax3 hn];injection h with h;subst h;rfl
     .cases h)
 case index t x i=>
  simp only[opE,Az0,az3,Az1,az0]at h⊢;obtain⟨v,h1,u,h2,w,h3,z,h4,r,h5,rfl⟩:=h;exact⟨v,(Qho h1).trans (an8 some (Qfd h2)),u,h2,w,(Qho h3).trans (an8 some (Qfd h4)),z,h4,r,h5,by rw[Qfl,Qfa h5];rfl⟩
 case slice t x lo hi mx=>
  simp only[opE,Az0,az3,Az1,az0]at h⊢;obtain⟨v,h1,a,h2,b,h3,d,h4,r,h5,rfl⟩:=h;exact⟨Qec θ v,Qho h1,_,Qhq h2,_,Qhq h3,_,Qhq h4,Qec θ r,Qie h5,rfl⟩
 case binOp op t x y k=>
  simp only[opE,Az0,az3,Az1,az0]at h⊢;obtain⟨v,h1,u,h2,r,h3,rfl⟩:=h;exact⟨Qec θ v,Qho h1,Qec θ u,Qho h2,Qec θ r,Qhy h3,rfl⟩
 case unOp op k x=>
  simp only[opE,Az0,az3,Az1,az0]at h⊢;obtain⟨v,h1,u,h2,r,h3,rfl⟩:=h;exact⟨v,(Qho h1).trans (an8 some (Qfd h2)),u,h2,r,h3,by rw[Qfl,Qfa h3];rfl⟩
 case convert src dst x=>
  simp only[opE,Az0,az3,Az1]at h⊢;obtain⟨v,h1,h⟩:=h;refine⟨Qec θ v,Qho h1,?_⟩;split at h
  .split at h
   .simp only[az3,az0]at h⊢
    obtain⟨l,hl,b,hb,rfl⟩:=h;exact⟨l,(Qfx hl).trans (an8 some (Qgb hb)),b,hb,rfl⟩
   .cases h
  .simp only[az3,az0]at h⊢
   obtain⟨u,h2,r,h3,rfl⟩:=h;exact⟨u,by grind[Qfd],r,h3,by rw[Qfl,Qfa h3];rfl⟩
 case makeFunc fn first cap=>
  cases fn with
  |func f=>
   simp only[opE,Az0,az3,Az1,az0]at h⊢;obtain⟨a,a1,b,b1,rfl⟩:=h;exact⟨Qed θ a,Qhp a1,Qed θ b,Qhp b1,rfl⟩
  |_=>cases h
 case makeMap t r=>
  cases r with
  |none=>
   simp only[opE,Az1,az0]at h⊢;subst h;rfl
  |some _=>cases h
 case insert t m k x=>
  simp only[opE,Az0,az3]at h⊢;obtain⟨v,h1,h⟩:=h;refine⟨Qec θ v,Qho h1,?_⟩;split at h
  .next hu=>simp only[Qec,hu];exact Qil h
  .cases h
 case mapUpdate t m k x=>
  simp only[opE,Az0,az3]at h⊢;obtain⟨v,h1,h⟩:=h;refine⟨Qec θ v,Qho h1,?_⟩;split at h
  .next hu=>simp only[Qec,hu];exact Qil h
  .cases h
 case lookup t m k ok=>
  simp only[opE,Az0,az3]at h⊢;obtain⟨v,h1,h⟩:=h;refine⟨Qec θ v,Qho h1,?_⟩;split at h
  .next kt et id hu=>
   simp only[Qec,hu];split at h
   .next es hg=>
    rw[Qge hg];simp only[az3]at h⊢;obtain⟨kv,h2,ku,h3,r,h4,⟨w,b⟩,h5,h⟩:=h;have he:(Qff θ es).isEmpty=es.isEmpty:=by cases es<;>rfl
    refine⟨kv,(Qho h2).trans (an8 some (Qfd h3)),ku,h3,r,by grind[Qii],(Qec θ w,b),?_,?_⟩
    .cases r with
     |some i=>
      grind[Qij]
     |none=>
      grind[az2,Qez]
    .simp only[Az1,az0]at h⊢
     subst h;cases ok<;>rfl
   .cases h
  .cases h
 case makeSlice t l m=>
  simp only[opE,Az0,az3,Az1]at h⊢;obtain⟨e,e1,a,a1,n,n1,b,b1,q,q1,i,i1,z,z1,sz,s1,h⟩:=h;refine⟨e,e1,a,(Qho a1).trans (an8 some (Qfw n1)),n,n1,b,(Qho b1).trans (an8 some (Qfw q1)),q,q1,i,i1,z,z1,sz,s1,?_⟩;split at h
  .cases h
  .next hn=>
   rw[ay9 hn];grind[Qfl,Qec,Qfi,Qfg,Qhv]
 case extract x i=>
  simp only[opE,Az0,az3,Az1]at h⊢;obtain⟨v,h1,h⟩:=h;refine⟨Qec θ v,Qho h1,?_⟩;split at h
  .next vs=>
   simp only[az3,az0]at h;obtain⟨w,w1,rfl⟩:=h;simp only[Qec,Qej,w1,ax0,az1];rfl
  .cases h
 case call cl=>
  obtain⟨callee,args,ts⟩:=cl;cases callee with
  |builtin b=>
   cases b;case len=>
    simp only[opE,Az0,az3,Az1]at h⊢;obtain⟨l,h1,h⟩:=h;refine⟨Qed θ l,Qhp h1,?_⟩;split at h
    .next v=>
     simp only[az3,az0]at h;obtain⟨u,h2,r,h3,rfl⟩:=h;have e:=Qfb (θ:=θ) h2;simp only[Qed,e,h2,az1,h3,Qfl,Qfa h3];rfl
    .next v hv=>
     simp only[az3,az0]at h;obtain⟨t,ht,e,he,n,hn,rfl⟩:=h;have h0:=Qfy (θ:=θ) hn;simp only[Qed];cases hs:Qec θ v with
     |lit w=>rw[hs]at h0;cases h0
     |_=>rw[hs]at h0;simp only[ht,he,h0,az1];rfl
    .cases h
   case append=>
    simp only[opE,Az0,az3,Az1]at h⊢;obtain⟨l,h1,h⟩:=h;refine⟨Qed θ l,Qhp h1,?_⟩;grind[Qed,Qig]
   case min=>
    simp only[opE,Az0,az3,Az1,az0]at h⊢;obtain⟨l,h1,us,h2,r,h3,rfl⟩:=h;exact⟨l,(Qhp h1).trans (an8 some (Qfe h2)),us,h2,r,h3,by rw[Qfl,Qfa h3];rfl⟩
   case max=>
    simp only[opE,Az0,az3,Az1,az0]at h⊢;obtain⟨l,h1,us,h2,r,h3,rfl⟩:=h;exact⟨l,(Qhp h1).trans (an8 some (Qfe h2)),us,h2,r,h3,by rw[Qfl,Qfa h3];rfl⟩
   all_goals grind[opE,az3]
  |invoke a b=>grind[opE,az3]
  |value f=>
   simp only[opE,Az0,az3]at h⊢;obtain⟨l,hl,v,hv,h⟩:=h;refine⟨Qed θ l,Qhp hl,Qec θ v,Qho hv,?_⟩;split at h
   .next k a b=>
    simp only[Qec];split at h
    .cases h
    .next hi=>
     simp only[hc.none _ hi];rw[<-Qei,<-Qei];exact Qhn hc.cbv h
   .cases h
 all_goals cases h
end
end
section
open Go.PV
section
variable {P:Program} {θ:Qob} {c c':PV.Calls}
theorem Qin{ops:Array Oper}{o:Oper}{get:Nat->V}:a0V ops o (λ i=>Qec θ (get i))=a0V ops o get:=by
 unfold a0V;split
 .rfl
 .next j b _=>
  split
  .next d _=>
   show(match Qec θ (get d)with| .lit (.bool t)=>t==b|_=>false)=_;generalize get d=v;rcases Qef θ v with⟨n,rfl,hs⟩|⟨w,rfl,_,hs⟩|hn
   .rcases hs with⟨k,m,hs⟩|hs|⟨xs,hs⟩<;>rw[hs]
   .grind
   .cases v with
    |lit w=>grind
    |_=>rfl
  .rfl
theorem Qio(hc:Calls.sb θ c c'){get:Nat->V}{o:Oper}:(a1F c get o=some none->a1F c' (λ i=>Qec θ (get i)) o=some none)/\∀l f,a1F c get o=some (some (l,f))->∃f',a1F c' (λ i=>Qec θ (get i)) o=some (some (Qed θ l,f'))/\∀asq h nx r,f asq h nx=some r->f' (Qed θ asq) (Qfi θ h) nx=some (Qgz θ r):=by
 unfold a1F;split
 .next f args ts _=>
  by_cases hf:∃k a b,ev get f=some (.fn k a b)
  .obtain⟨k,a,b,hf⟩:=hf
   rw[Qho hf,hf];simp only[Qec];cases hi:c.inl k with
   |none=>simp only[hc.none _ hi];grind
   |some fn=>
    obtain⟨fn',h1,h2⟩:=hc.inl _ _ hi;simp only[h1];refine⟨λ h=> ?_,λ l f h=> ?_⟩
    .simp at h
    .simp only[az2,az0,az8]at h
     obtain⟨w,hw,rfl,rfl⟩:=h;refine⟨fn',?_,h2⟩;grind[Qhp,Qei]
  .have h0:∀k a b,ev get f≠some (.fn k a b):=λ k a b e=>hf ⟨k,a,b,e⟩
   have h1:∀k a b,ev (λ i=>Qec θ (get i)) f≠some (.fn k a b):=by
    intro k a b e;rw[Qfq]at e;simp only[az2]at e;obtain⟨v,hv,e⟩:=e;by_cases hv2:∃f a b,v= .fn f a b
    .grind
    .grind[Qgi]
   split
   .grind
   .grind
 grind
theorem Qip(hc:Calls.sb θ c c'){o:Oper}{s:St}{r:V×St}(h:a1h P c o s=some r):a1h P c' o (Qfk θ s)=some (Qec θ r.1,Qfk θ r.2):=by
 unfold a1h at h⊢;rw[Qfo];obtain⟨i1,i2⟩:=Qio (θ:=θ) hc (get:=s.get) (o:=o);cases hi:a1F c s.get o with
 |none=>grind
 |some q=>
  cases q with
  |none=>
   rw[i1 hi];simp only[hi,az2]at h⊢;obtain⟨q,hq,rfl⟩:=h;have:=Qim (θ:=θ) hc hq;rw[<-Qfm]at this;exact⟨_,this,by grind[Qfl,Qfk,Qfn]⟩
  |some q=>
   obtain⟨l,f⟩:=q;obtain⟨f',h1,h2⟩:=i2 l f hi;rw[h1];simp only[hi,az2]at h⊢;obtain⟨q,hq,rfl⟩:=h;exact⟨_,h2 _ _ _ _ hq,rfl⟩
theorem Qiq(hc:Calls.sb θ c c'){ops:Array Oper}{o:Oper}{s s':St}(h:a0v P c ops o s=some s'):a0v P c' ops o (Qfk θ s)=some (Qfk θ s'):=by
 unfold a0v at h⊢;rw[Qfo,Qin];split at h
 .next hw=>
  rw[ax3 hw];simp only[az2]at h⊢;obtain⟨q,hq,rfl⟩:=h;exact⟨_,Qip hc hq,Qfp⟩
 .next hw=>
  rw[ay9 hw];simp only[az0]at h⊢;subst h;exact Qfp (v:= .und)
theorem Qir(hc:Calls.sb θ c c'){ops:Array Oper}{s':St}:∀{l:List Oper} {s:St},a0I P c ops l s=some s'->a0I P c' ops l (Qfk θ s)=some (Qfk θ s')
 |[],s,h=>by simp only[a0I,az0]at h⊢;rw[h]
 |o::l,s,h=>by
  simp only[a0I]at h⊢;cases h1:a0v P c ops o s with
  |none=>grind
  |some s1=>
   rw[Qiq hc h1];rw[h1]at h;exact Qir hc h
section
variable {g:G} {get:Nat->V}
theorem Qis{v:V}(h:∃w,v= .lit w):a2z (Qec θ v)=[]/\∀d,a1O d (Qfh θ g) (Qec θ v)=[]:=by
 obtain⟨w,rfl⟩:=h;rcases Qef θ (.lit w)with⟨n,e,hs⟩|⟨w,e,_,hs⟩|hn
 .rcases hs with⟨k,m,hs⟩|hs|⟨xs,hs⟩<;>rw[hs]<;>exact⟨rfl,λ d=>by cases d<;>rfl⟩
 .rw[hs];exact⟨rfl,λ d=>by cases d<;>rfl⟩
 .grind
mutual
theorem Qit:∀(v:V),a2z (Qec θ v)=a2z v
 | .lit w=>(Qis (g:=λ _=>none) ⟨w,rfl⟩).1
 | .nils| .slf _| .sl _ _| .row _ _ _ _| .ptr _ _| .eptr _ _ _ _| .dptr _| .map _| .und=>rfl
 | .agg cs=>by simp only[Qec,a2z];exact Qiu cs
 | .tup cs=>by simp only[Qec,a2z];exact Qiu cs
 | .fn _ a b=>by simp only[Qec,a2z,Qiu a,Qiu b]
theorem Qiu:∀(l:List V),a2z.c (Qed θ l)=a2z.c l
 |[]=>rfl
 |v::r=>by simp only[Qed,a2z.c,Qit v,Qiu r]
end
theorem Qiv{f f':V->List Nat}(hf:∀v,f' (Qec θ v)=f v)(l:List V):(Qed θ l).flatMap f'=l.flatMap f:=by
 rw[Qeg,List.flatMap_map]
 congr 1
 funext x
 exact hf x
theorem Qiw:∀(d:Nat) (v:V),a1O d (Qfh θ g) (Qec θ v)=a1O d g v
 |0,_=>rfl
 |d+1,v=>by
  cases v with
  |lit w=>exact(Qis ⟨w,rfl⟩).2 _
  |agg cs=>simp only[Qec,a1O];exact Qiv (Qiw d) cs
  |tup cs=>simp only[Qec,a1O];exact Qiv (Qiw d) cs
  |row id a off n=>
   simp only[Qec,a1O]
   congr 1
   cases hg:g id with
   |none=>grind[Qfh]
   |some b=>cases b with
    |row ty z xs f=>rw[Qgc hg];simp only[<-Qek,<-Qel];exact Qiv (Qiw d) _
    |_=>simp only[Qfh,hg,ax0,Qfg]
  |_=>rfl
theorem Qix{d:Nat}{v:V}(h1:∀i o,v≠ .ptr i o)(h2:∀f a b,v≠ .fn f a b):a2D (d+1) g v=a1O ED g v:=by
 cases v with
 |ptr a b=>grind
 |fn f a b=>exact absurd rfl (h2 f a b)
 |_=>rfl
theorem Qiy:∀(d:Nat) (v:V),a2D d (Qfh θ g) (Qec θ v)=a2D d g v
 |0,_=>rfl
 |d+1,v=>by
  by_cases h1:∃i o,v= .ptr i o
  .obtain⟨id,o,rfl⟩:=h1
   simp only[Qec,a2D]
   congr 1
   cases hg:g id with
   |none=>grind[Qfh]
   |some b=>cases b with
    |var cs=>simp_all[Qgd,Qiv,Qiw]
    |_=>grind[Qfh,Qfg]
  .by_cases h2:∃f a b,v= .fn f a b
   .obtain⟨f,a,b,rfl⟩:=h2
    simp only[Qec,a2D,Qiv (Qiy d)]
   .grind[Qix,Qgh,Qgi,Qiw]
theorem Qiz{v:V}:d5h (Qfh θ g) (Qec θ v)=d5h g v:=by
 by_cases h2:∃f a b,v= .fn f a b
 .obtain⟨f,a,b,rfl⟩:=h2
  grind[Qec,d5h,Qiv,Qiy]
 .have h2:∀f a b,v≠ .fn f a b:=λ f a b e=>h2 ⟨f,a,b,e⟩
  have h3:=Qgi (θ:=θ) h2;unfold d5h;split
  .grind
  .grind
theorem Qja{x:Operand}:a5V (λ i=>Qec θ (get i)) x=a5V get x:=by
 unfold a5V;rw[Qfq];cases ev get x with
 |none=>rfl
 |some v=>exact Qit v
theorem Qjb{o:Oper}:a3q (λ i=>Qec θ (get i)) o=a3q get o:=by
 unfold a3q;simp only[Qja]
theorem Qjc{o:Oper}:a2w (λ i=>Qec θ (get i)) (Qfh θ g) o=a2w get g o:=by
 have e1:∀x:Operand,(match ev (λ i=>Qec θ (get i)) x with|some v=>d5h (Qfh θ g) v|none=>[])=match ev get x with|some v=>d5h g v|none=>[]:=by
  intro x;rw[Qfq];cases ev get x with
  |none=>rfl
  |some v=>exact Qiz
 have e2:∀x:Operand,(match ev (λ i=>Qec θ (get i)) x with|some v=>a2D 4 (Qfh θ g) v|none=>[])=match ev get x with|some v=>a2D 4 g v|none=>[]:=by
  intro x;rw[Qfq];cases ev get x with
  |none=>rfl
  |some v=>exact Qiy 4 v
 obtain⟨dst,op,type,pos,after,guard⟩:=o;cases op<;>try rfl
 case store=>exact Qja
 case insert=>exact Qja
 case mapUpdate=>exact Qja
 case call cl=>
  obtain⟨callee,args,ts⟩:=cl;cases callee with
  |builtin b=>
   cases b<;>try rfl
   simp only[a2w,Qja]
  |invoke a b=>rfl
  |value f=>
   simp only[a2w]
   congr 1
   .exact e1 f
   .congr 1
    funext x
    exact e2 x
end
theorem Qjd(hc:Calls.sb θ c c'){ops:Array Oper}:∀{l:List Oper} {s e:St} {fs:List (List Nat×List Nat)},a4g P c ops l s=some (fs,e)->a4g P c' ops l (Qfk θ s)=some (fs,Qfk θ e)
 |[],s,e,fs,h=>by simp only[a4g,az0,az8]at h⊢;grind
 |o::l,s,e,fs,h=>by
  simp only[a4g]at h⊢;cases h1:a0v P c ops o s with
  |none=>grind
  |some s1=>
   rw[Qiq hc h1];simp only[h1]at h⊢;cases h2:a4g P c ops l s1 with
   |none=>grind
   |some q=>
    obtain⟨fs',e'⟩:=q;rw[Qjd hc h2];simp only[h2,Qfo,Qin]at h⊢;split at h
    .next hw=>
     rw[ax3 hw];split at h
     .next hi=>
      rw[(Qio hc).1 hi];simp only[az0,az8]at h⊢;obtain⟨rfl,rfl⟩:=h;refine⟨?_,rfl⟩;simp_all[Qfk,Qfm,Qjb,Qjc]
     .cases h
    .grind
theorem Qje{f f':St->Option (Ex×St)}(hf:∀s r,f s=some r->f' (Qfk θ s)=some (r.1,Qfk θ r.2)):∀{n:Nat} {s:St} {r:Ex×St},iter f n s=some r->iter f' n (Qfk θ s)=some (r.1,Qfk θ r.2)
 |0,s,r,h=>by cases h
 |n+1,s,r,h=>by
  unfold iter at h⊢;cases h1:f s with
  |none=>grind
  |some q=>
   obtain⟨x,s'⟩:=q;rw[hf _ _ h1];rw[h1]at h;cases x with
   |normal=>exact Qje hf h
   |_=>grind
theorem Qjf(hc:Calls.sb θ c c'){n:Nat}:∀{k:Code} {s:St} {r:Ex×St},a0e P c n k s=some r->a0e P c' n k (Qfk θ s)=some (r.1,Qfk θ r.2):=by
 intro k;induction k with
 |region i ops d=>
  intro s r h;cases d with
  |false=>
   simp only[a0e,az2]at h⊢;grind[Qir]
  |true=>
   simp only[a0e]at h⊢;cases h1:a4g P c ops ops.toList s with
   |none=>grind
   |some q=>
    obtain⟨fs,e⟩:=q;rw[Qjd hc h1];grind
 |seq a b iha ihb=>
  grind[a0e]
 |cond q a b iha ihb=>
  intro s r h;simp only[a0e]at h⊢;rw[Qfo];split at h
  .next t ht=>
   rw[Qho ht];simp only[Qec,Qeb];grind
  .cases h
 |block id b ih=>
  grind[a0e]
 |loop b ih=>
  intro s r h;grind[a0e,Qje]
 |scope b ih=>
  grind[a0e]
 |_=>
  grind[a0e]
theorem Qjg:∀{l:List V} {i:Nat} {t:T},a0u (Qed θ l) i (Qfj θ t)=Qfj θ (a0u l i t)
 |[],_,_=>rfl
 |v::l,i,t=>by simp only[Qed,a0u,a5W,Qjg]
theorem Qjh{A:Type}{f f':A->Option V}(hf:∀a b,f a=some b->f' a=some (Qec θ b)):∀{l:List A} {vs:List V},a0D f l=some vs->a0D f' l=some (Qed θ vs)
 |[],vs,h=>by simp only[a0D,az0]at h;subst h;rfl
 |a::l,vs,h=>by
  simp only[a0D]at h;cases h1:f a with
  |none=>grind
  |some b=>
   cases h2:a0D f l with
   |none=>grind
   |some bs=>
    simp only[h1,h2,az0]at h;subst h;simp only[a0D,hf _ _ h1,Qjh hf h2,Qed]
theorem Qji{fn:Func}{s:St}{v:V}(h:a0m P fn s=some v):a0m P fn (Qfk θ s)=some (Qec θ v):=by
 simp only[a0m,Az0,az3]at h⊢;obtain⟨vs,h1,h⟩:=h;refine⟨Qed θ vs,Qjh (λ a b hb=> ?_) h1,?_⟩
 .cases a with
  |tmp t=>grind[Qfo]
  |cell a t=>
   simp only[az3]at hb⊢;obtain⟨cs,h2,h3⟩:=hb;have e:a0b (Qfk θ s).h=Qfh θ (a0b s.h):=Qfm;simp_all[Qfo,Qfu,Qft]
 match vs,h with
 |[],h=>simp only[az0]at h⊢;subst h;rfl
 |[a],h=>simp only[az0]at h⊢;subst h;rfl
 |a::b::r,h=>simp only[az0]at h⊢;subst h;rfl
theorem Qjj(hc:Calls.sb θ c c'){n:Nat}{k:Nat}{args:List V}{h:HP}{nx:Nat}{r:V×St}(e:a1j P c n k args h nx=some r):a1j P c' n k (Qed θ args) (Qfi θ h) nx=some (Qec θ r.1,Qfk θ r.2):=by
 simp only[a1j,Az0,az3,Qeh]at e⊢;obtain⟨fn,h1,e⟩:=e;refine⟨fn,h1,?_⟩;split at e
 .cases e
 .next hz=>
  rw[ay9 hz];simp only[az3]at e⊢;obtain⟨b,h2,⟨x,s⟩,h3,e⟩:=e;refine⟨b,h2,(x,Qfk θ s),?_,?_⟩
  .have h4:=Qjf (θ:=θ) hc h3
   rw[Qfk,<-Qjg]at h4;exact h4
  grind[az3,Qji]
abbrev Qjk:=Nat->Option Fp
structure PrimSub (θ:Qob) (p Qnw:Qjk):Prop where
 none:∀k,p k=none->Qnw k=none
 some:∀k f,p k=some f->∃f',Qnw k=some f'/\∀asq bs v bs',f asq bs=some (v,bs')->f' (Qed θ asq) (Qgs θ bs)=some (Qec θ v,Qgs θ bs')
theorem Qjl{p Qnw:Qjk}(hp:PrimSub θ p Qnw){inl:Nat->Bool}:∀(n:Nat),Calls.sb θ (a0d P p inl n) (a0d P Qnw inl n)
 |0=>by
  refine⟨λ k asq bs v bs' h=>(by cases h),λ k h=> ?_,λ k f h=> ?_⟩
  .simp_all[a0d]
  .simp only[a0d]at h⊢
   grind
 |n+1=>by
  have ih:=Qjl hp (inl:=inl) n;refine⟨λ k asq bs v bs' h=> ?_,λ k h=> ?_,λ k f h=> ?_⟩
  .simp only[a0d]at h⊢
   cases hk:p k with
   |some f=>
    obtain⟨f',h1,h2⟩:=hp.some _ _ hk;grind
   |none=>
    rw[hp.none _ hk];rw[hk]at h;simp only[Az0,az3]at h⊢;obtain⟨⟨v1,s⟩,h1,⟨v2,w⟩,h2,⟨l,ms,ks⟩,h3,h⟩:=h;have hb:a0w 0 ([],(Qgs θ bs).length) (Qgs θ bs)=Qgy θ (a0w 0 ([],bs.length) bs):=by
     have:=Qhj (θ:=θ) (bs:=bs) (i:=0) (s:=([],bs.length));rw[<-this];simp only[Qgy,Qfi,ar8,Qgs,ap3]
    rw[hb];have e:a0b (Qfk θ s).h=Qfh θ (a0b s.h):=Qfm;refine⟨(Qec θ v1,Qfk θ s),Qjj ih h1,(Qec θ v2,w),?_,(Qgs θ l,ms,ks),?_,?_⟩
    .rw[e];exact Qgx h2
    .grind[Qgs,Qgu]
    .rw[e,Qhl]
     grind
  .simp_all[a0d]
  .simp only[a0d]at h⊢
   split at h
   .next hi=>
    rw[ax3 hi];injection h with h
    subst h;refine⟨_,rfl,λ asq h nx r e=> ?_⟩;simp only[az2]at e⊢;obtain⟨q,hq,rfl⟩:=e;exact⟨_,Qjj ih hq,rfl⟩
   .cases h
end
end
section
open Go.PV
section
variable {P:Program} {inl:Nat->Bool}
theorem Qjm{p Qnw:Qjk}(h1:∀k f,p k=some f->Qnw k=some f)(h2:∀k f',p k=none->Qnw k=some f'->∀n asq bs r,(a0d P p inl n).cbv k asq bs=some r->f' asq bs=some r):∀n,(a0d P p inl n).le (a0d P Qnw inl n)
 |0=>⟨λ k asq bs r h=>(by cases h),λ k h=>by
   simp_all[a0d],λ k f h=>by
   grind[a0d]⟩
 |n+1=>by
  have ih:=Qjm h1 h2 n;refine⟨λ k asq bs r h=> ?_,λ k h=> ?_,λ k f h=> ?_⟩
  .cases hk:p k with
   |some f=>
    grind[a0d]
   |none=>
    cases hk':Qnw k with
    |some f'=>
     grind[a0d]
    |none=>
     simp only[a0d,hk,Az0,az3]at h;simp only[a0d,hk',Az0,az3];obtain⟨q,hq,h⟩:=h;exact⟨q,a6q ih (ay3 _) hq,h⟩
  .simp_all[a0d]
  .simp only[a0d]at h⊢
   split at h
   .next hi=>
    injection h with h
    subst h;rw[ax3 hi];refine⟨_,rfl,λ asq h nx r e=> ?_⟩;simp only[az2]at e⊢;obtain⟨q,hq,rfl⟩:=e;exact⟨q,a6q ih (ay3 _) hq,rfl⟩
   .cases h
theorem Qjn{p:Qjk}{n m:Nat}{k:Nat}{asq:List V}{bs:List (List V)}{r r':V×List (List V)}(h:(a0d P p inl n).cbv k asq bs=some r)(h':(a0d P p inl m).cbv k asq bs=some r'):r=r':=by
 have h2:=(a0L (P:=P) (prim:=p) (inl:=inl) (ar5 n m)).cbv _ _ _ _ h;have h3:=(a0L (P:=P) (prim:=p) (inl:=inl) (ar6 n m)).cbv _ _ _ _ h';grind
noncomputable def Qjo(P:Program)(p:Qjk)(inl:Nat->Bool)(k:Nat)(asq:List V)(bs:List (List V)):Option (V×List (List V)):=by
 classical
 exact if h:∃r n,(a0d P p inl n).cbv k asq bs=some r then some h.choose else none
theorem Qjp{p:Qjk}{k:Nat}{asq:List V}{bs:List (List V)}{r:V×List (List V)}{n:Nat}(h:(a0d P p inl n).cbv k asq bs=some r):Qjo P p inl k asq bs=some r:=by
 have h0:∃r n,(a0d P p inl n).cbv k asq bs=some r:=⟨r,n,h⟩;unfold Qjo;rw[dif_pos h0];obtain⟨m,hm⟩:=h0.choose_spec;exact an8 some (Qjn hm h)
theorem Qjq{p:Qjk}{k:Nat}{asq:List V}{bs:List (List V)}{r:V×List (List V)}(h:Qjo P p inl k asq bs=some r):∃n,(a0d P p inl n).cbv k asq bs=some r:=by
 unfold Qjo at h;split at h;all_goals grind
def Qjr(n:Nat):V:= .lit (.chan (some n))
def Qjs(v:V):Prop:=∀θ,Qec θ v=v
noncomputable def Qjt(P:Program)(p:Qjk)(inl:Nat->Bool)(q:Nat):Qjk:=λ k=>if k=q then some (Qjo P p inl q)else p k
def Qju(P:Program)(p:Qjk)(inl:Nat->Bool)(q:Nat)(a b:V×V)(asq:List V)(bs:List (List V))(r:V):Prop:=∃u,asq=[Qjr 1,u,Qjr 2]/\bs=[]/\Qjs u/\Qjs r/\Qjo P p inl q [a.1,u,a.2] []=some (r,[])/\Qjo P p inl q [b.1,u,b.2] []=some (r,[])
noncomputable def Qjv(P:Program)(p:Qjk)(inl:Nat->Bool)(q:Nat)(a b:V×V):Qjk:=λ k=>if k=q then some (λ asq bs=>by
  classical
  exact match Qjo P p inl q asq bs with
  |some r=>some r
  |none=>if h:∃r,Qju P p inl q a b asq bs r then some (h.choose,[])else none)else p k
def Qjw(a:V×V)(h1:Qea a.1=true)(h2:Qea a.2=true):Qob:=⟨λ n=>if n=1 then a.1 else a.2,λ n=>by grind⟩
theorem Qjx{a:V×V}{h1:Qea a.1=true}{h2:Qea a.2=true}:Qec (Qjw a h1 h2) (Qjr 1)=a.1:=rfl
theorem Qjy{a:V×V}{h1:Qea a.1=true}{h2:Qea a.2=true}:Qec (Qjw a h1 h2) (Qjr 2)=a.2:=rfl
variable {p:Qjk} {q:Nat} {a b:V×V}
theorem Qjz(hq:p q=none):∀n,(a0d P p inl n).le (a0d P (Qjt P p inl q) inl n):=Qjm
 (λ k f h=>by
  grind[Qjt])
 (λ k f' h h' n asq bs r hr=>by
  unfold Qjt at h';split at h'
  .next e=>subst e;injection h' with h';subst h';exact Qjp hr
  grind)
theorem Qka(hq:p q=none):∀n,(a0d P p inl n).le (a0d P (Qjv P p inl q a b) inl n):=Qjm
 (λ k f h=>by
  grind[Qjv])
 (λ k f' h h' n asq bs r hr=>by
  grind[Qjv,Qjp])
theorem Qkb{c:V×V}(hc:c=a\/c=b)(d1:Qea c.1=true)(d2:Qea c.2=true)(hp:PrimSub (Qjw c d1 d2) p p):PrimSub (Qjw c d1 d2) (Qjv P p inl q a b) (Qjt P p inl q):=by
 have key:∀asq bs v bs',Qjo P p inl q asq bs=some (v,bs')->Qjo P p inl q (Qed (Qjw c d1 d2) asq) (Qgs (Qjw c d1 d2) bs)=some (Qec (Qjw c d1 d2) v,Qgs (Qjw c d1 d2) bs'):=by
  intro asq bs v bs' h;obtain⟨n,hn⟩:=Qjq h;exact Qjp ((Qjl (inl:=inl) hp n).cbv _ _ _ _ _ hn)
 refine⟨λ k h=> ?_,λ k f h=> ?_⟩
 .unfold Qjv at h;unfold Qjt
  grind
 .unfold Qjv at h;unfold Qjt
  split at h
  .next e=>
   rw[ax3 e];injection h with h
   subst h;refine⟨_,rfl,λ asq bs v bs' hv=> ?_⟩;simp only at hv;split at hv
   .grind
   .split at hv
    .next h0=>
     have hs:=h0.choose_spec;generalize h0.choose=r at hs hv;obtain⟨u,rfl,rfl,cu,cr,k1,k2⟩:=hs;simp only[az0,az8]at hv;obtain⟨rfl,rfl⟩:=hv;rw[cr];have e5:Qed (Qjw c d1 d2) [Qjr 1,u,Qjr 2]=[c.1,u,c.2]:=by
      simp only[Qed,Qjx,Qjy,cu (Qjw c d1 d2)]
     rw[e5];rcases hc with rfl|rfl
     .exact k1
     .exact k2
    .cases hv
  .next e=>
   rw[ay9 e];exact hp.some _ _ h
theorem Qkc(hq:p q=none){c:V×V}(hc:c=a\/c=b)(d1:Qea c.1=true)(d2:Qea c.2=true)(hp:PrimSub (Qjw c d1 d2) p p){k:Nat}{x v w:V}{n m:Nat}(hx:Qjs x)(hv:Qjs v)
  (h:(a0d P (Qjv P p inl q a b) inl n).cbv k [Qjr 1,Qjr 2,x] []=some (v,[])) (h':(a0d P p inl m).cbv k [c.1,c.2,x] []=some (w,[])):w=v:=by
 have h1:=(Qjl (inl:=inl) (Qkb (P:=P) (inl:=inl) (q:=q) hc d1 d2 hp) n).cbv _ _ _ _ _ h;have e5:Qed (Qjw c d1 d2) [Qjr 1,Qjr 2,x]=[c.1,c.2,x]:=by simp only[Qed,Qjx,Qjy,hx (Qjw c d1 d2)]
 rw[e5,hv (Qjw c d1 d2)]at h1;have h2:=(Qjz hq m).cbv _ _ _ _ h';have:=Qjn h2 h1;grind
end
end
section
open Go Go.PV Go.SN
section
variable {θ:Qob}
def Qkd(θ:Qob)(f:List V->List (List V)->Option (V×List (List V))):Prop:=∀asq bs v bs',f asq bs=some (v,bs')->f (Qed θ asq) (Qgs θ bs)=some (Qec θ v,Qgs θ bs')
theorem Qke{f:List V->List (List V)->Option (V×List (List V))}(h:∀asq bs v bs',f asq bs=some (v,bs')->Qed θ asq=asq/\Qgs θ bs=bs/\Qec θ v=v/\Qgs θ bs'=bs'):Qkd θ f:=λ asq bs v bs' e=>by
 grind
theorem Qkf{l:List ByteArray}:Qed θ ((l.map Value.string).map .lit)=(l.map Value.string).map .lit:=by
 rw[Qeg,List.map_map,List.map_map,List.map_map];rfl
theorem Qkg{l:List V}{r:List ByteArray}(h:b1q l=some r):Qed θ l=l:=by
 rw[b6J h,Qeg,List.map_map];rfl
theorem Qkh:∀{l:List V} {r:List UInt8},a7c l=some r->Qed θ l=l
 |[],_,_=>rfl
 |x::l,r,h=>by
  unfold a7c at h;split at h
  .next e1 e2=>
   have:Qec θ x=x:=by
    unfold PV.b8R at e1;split at e1
    .rfl
    .cases e1
   rw[Qed,Qkh e2,this]
  .cases h
theorem Qki:∀{l:List V},l.all d0g=true->Qed θ l=l
 |[],_=>rfl
 |x::l,h=>by
  simp only[Az3,az6]at h;have:Qec θ x=x:=by
   have:=h.1;unfold d0g at this;split at this
   .rfl
   .cases this
  rw[Qed,this,Qki h.2]
theorem Qkj:Qkd θ a3o:=Qke λ asq bs v bs' h=>by
 unfold a3o at h
 (repeat' split at h)<;>cases h<;>exact⟨rfl,rfl,rfl,rfl⟩
theorem Qkk:Qkd θ a5w:=Qke λ asq bs v bs' h=>by
 unfold a5w at h
 (repeat' split at h)<;>cases h<;>exact⟨rfl,rfl,rfl,rfl⟩
theorem Qkl{f:Nat->List UInt8}:Qkd θ (c6o f):=Qke λ asq bs v bs' h=>by
 unfold c6o at h
 (repeat' split at h)<;>cases h<;>exact⟨rfl,rfl,rfl,rfl⟩
theorem Qkm:Qkd θ a4M:=Qke λ asq bs v bs' h=>by
 unfold a4M at h
 (repeat' split at h)<;>cases h<;>exact⟨rfl,rfl,rfl,rfl⟩
theorem Qkn:Qkd θ a7p:=Qke λ asq bs v bs' h=>by
 unfold a7p at h
 (repeat' split at h)<;>cases h<;>exact⟨rfl,rfl,rfl,rfl⟩
theorem Qko:Qkd θ a4H:=Qke λ asq bs v bs' h=>by
 unfold a4H at h
 (repeat' split at h)<;>cases h<;>exact⟨rfl,rfl,rfl,rfl⟩
theorem Qkp:Qkd θ c6t:=Qke λ asq bs v bs' h=>by
 unfold c6t at h
 (repeat' split at h)<;>cases h<;>exact⟨rfl,rfl,rfl,rfl⟩
theorem Qkq:Qkd θ a2l:=Qke λ asq bs v bs' h=>by
 unfold a2l at h
 (repeat' split at h)<;>cases h<;>exact⟨rfl,rfl,rfl,rfl⟩
theorem Qkr:Qkd θ a8V:=Qke λ asq bs v bs' h=>by
 unfold a8V at h
 (repeat' split at h)<;>cases h<;>exact⟨rfl,rfl,by rw[Qec,Qkf],rfl⟩
theorem Qks:Qkd θ a4E:=Qke λ asq bs v bs' h=>by
 unfold a4E at h
 (repeat' split at h)<;>cases h<;>exact⟨rfl,rfl,rfl,rfl⟩
theorem Qkt:Qkd θ a4b:=Qke λ asq bs v bs' h=>by
 unfold a4b at h
 (repeat' split at h)<;>cases h<;>exact⟨rfl,rfl,rfl,rfl⟩
theorem Qku:Qkd θ a8i:=Qke λ asq bs v bs' h=>by
 unfold a8i at h
 (repeat' split at h)<;>cases h<;>exact⟨rfl,rfl,by rw[Qec,Qkf],rfl⟩
theorem Qkv:Qkd θ a4y:=Qke λ asq bs v bs' h=>by
 unfold a4y at h
 (repeat' split at h)<;>cases h<;>exact⟨rfl,rfl,rfl,rfl⟩
theorem Qkw:Qkd θ a5P:=Qke λ asq bs v bs' h=>by
 unfold a5P at h
 (repeat' split at h)<;>cases h<;>exact⟨rfl,rfl,rfl,rfl⟩
theorem Qkx:Qkd θ c0G:=λ asq bs v bs' h=>by
 unfold c0G at h;split at h
 .simp only[az0,az8]at h;obtain⟨rfl,rfl⟩:=h;rfl
 .split at h
  .next e=>
   simp only[Qed,Qec,Qeb,Qkg e,Qgs,ar8,c0G,e];split at h
   .next hc=>
    rw[ax3 hc];simp only[az0,az8]at h⊢;obtain⟨rfl,rfl⟩:=h;exact⟨rfl,rfl⟩
   .cases h
  .cases h
 .cases h
theorem Qky:Qkd θ b3x:=λ asq bs v bs' h=>by
 unfold b3x at h;split at h
 .split at h
  .next hc=>
   simp only[Qed,Qec,Qgs,ar8,av2,b3x,Qes,Qgn,ax3 hc,az0,az8]at h⊢;obtain⟨rfl,rfl⟩:=h;exact⟨rfl,rfl⟩
  .cases h
 .split at h
  .next hc=>
   have hb:=Qki (θ:=θ) (az6 _ _▸hc).2;simp only[Qed,Qec,Qgs,ar8,av2,b3x,Qes,Qgn,hb,ax3 hc,az0,az8]at h⊢;obtain⟨rfl,rfl⟩:=h;exact⟨rfl,by grind[Qed,Qec]⟩
  .cases h
 .cases h
theorem Qkz:Qkd θ a5b:=λ asq bs v bs' h=>by
 unfold a5b at h;split at h
 .split at h
  .next hc=>
   simp only[Qed,Qec,Qgs,ar8,av2,a5b,Qes,Qgn,ax3 hc,az0,az8]at h⊢;obtain⟨rfl,rfl⟩:=h;exact⟨rfl,rfl⟩
  .cases h
 .split at h
  .next hc=>
   split at h
   .next e=>
    have hb:=Qkh (θ:=θ) e;simp only[Qed,Qec,Qgs,ar8,av2,a5b,Qes,Qgn,hb,e,ax3 hc,az0,az8]at h⊢;obtain⟨rfl,rfl⟩:=h;exact⟨rfl,by grind[Qed,Qec]⟩
   .cases h
  .cases h
 .cases h
theorem Qla:PrimSub θ a4w a4w:=⟨λ _ h=>h,λ k f h=>⟨f,h,by
 show Qkd θ f;unfold a4w at h;split at h<;>first
  |(injection h with h;subst h;first|exact Qkp|exact Qkj|exact Qkl|exact Qkk|exact Qkn|exact Qkx|exact Qko|exact Qkz|exact Qkm|exact Qkq|exact Qkr|exact Qky|exact Qku|exact Qkt|exact Qks|exact Qkv|exact Qkw)
  |cases h⟩⟩
end
end
section
open Go Go.PV Go.SN Go.PV.JS
open Go.SE (RC Rel Ar Sh ShOk ShL d7d d6x b9z b7J)
set_option maxRecDepth 100000
abbrev Qnd:Rel:=RC P0 a4w inlS
def kI:TD:= .int .i64 (-9223372036854775808) 9223372036854775807
def kU:TD:= .int .u64 0 18446744073709551615
def Qne:TD:= .agg [.str 134217728,kI,.str 134217728,.str 134217728,kI,kU,kU]
def Qnf(c:SumA)(xs:List Ar)(ps:List Sh):Bool:=d7d c xs&&c.posts.all λ p=>ps.any λ s=>d6x p.cs s p.res
theorem Qng{k:Nat}{c:SumA}{xs:List Ar}{ps:List Sh}(hh:a1p (λ N=>(Lp N).cbv) k c)(hc:Qnf c xs ps=true){vs:List V}(hv:ShL (xs.map Ar.sh) vs):∃v,Qnd k vs v/\∃s∈ps,ShOk s v:=by
 unfold Qnf at hc;rw[az6]at hc;obtain⟨v,h1,p,Qjt,Qjv⟩:=b9z hh hc.1 hv;grind
theorem Qnh{i k:Nat}{c:SumA}(hi:i<502)(h:(rows[i]?).map (λ r=>(r.k,r.c))=some (k,c)):a1p (λ N=>(Lp N).cbv) k c:=by
 simp only[az2,az8]at h;obtain⟨r,h1,rfl,rfl⟩:=h;exact a8S i r hi h1
theorem Qni{θ:Qob}:∀{l:List V},(∀x∈l,Qec θ x=x)->Qed θ l=l
 |[],_=>rfl
 |x::l,h=>by rw[Qed,h x (ay1 ..),Qni λ y hy=>h y (az9 _ hy)]
def Qnj:Nat->TD->Bool
 |0,_=>false
 |n+1,d=>match d with
  | .bool| .int _ _ _| .str _=>true
  | .sl r _ d=> !r&&Qnj n d
  | .agg l=>l.all (Qnj n)
  |_=>false
theorem Qnk{g:G}{N:Nat->Prop}:∀{n:Nat} {d:TD} {v:V},Qnj n d=true->InD g N d v->Qjs v
 |0,_,_,h,_=>(by cases h)
 |n+1,d,v,h,hd=>by
  cases hd with
  |bool=>exact λ θ=>rfl
  |int _ _=>exact λ θ=>rfl
  |str _=>exact λ θ=>rfl
  |nils _=>exact λ θ=>rfl
  |sl _ h2=>
   simp only[Qnj,az6]at h;exact λ θ=>by rw[Qec,Qni λ x hx=>Qnk h.2 (h2 x hx) θ]
  |row=>simp[Qnj]at h
  |agg h1 h2=>
   simp only[Qnj]at h;intro θ;rw[Qec,Qni];intro x hx;obtain⟨j,hj⟩:=List.getElem?_of_mem hx;have hlt:=(ay0.1 hj).1;exact Qnk (ay5.1 h _ (au2 (by omega:j<_))) (h2 j _ _ (At6 (by omega)) hj) θ
  |_=>simp[Qnj]at h
def Qnl:Nat->AV->Bool
 |0,_=>false
 |n+1,a=>match a with
  | .bool _| .int _ _| .str _| .has _| .nils=>true
  | .dat r _ d=> !r&&Qnj 4 d
  | .agg l=>l.all (Qnl n)
  |_=>false
theorem Qnm{Γ:Gm}:∀{n:Nat} {a:AV} {v:V},Qnl n a=true->In Γ a v->Qjs v
 |0,_,_,h,_=>(by cases h)
 |n+1,a,v,h,ha=>by
  cases ha with
  |bool _ _=>exact λ θ=>rfl
  |int _ _=>exact λ θ=>rfl
  |str _ _=>exact λ θ=>rfl
  |has _ _ _=>exact λ θ=>rfl
  |nils=>exact λ θ=>rfl
  |dat _ h2 _ _=>
   refine Qnk (n:=5) ?_ h2;grind[Qnl,Qnj]
  |agg h1 h2=>
   simp only[Qnl]at h;intro θ;rw[Qec,Qni];intro x hx;obtain⟨j,hj⟩:=List.getElem?_of_mem hx;have hlt:=(ay0.1 hj).1;exact Qnm (ay5.1 h _ (au2 (by omega:j<_))) (h2 j _ _ (At6 (by omega)) hj) θ
  |_=>simp[Qnl]at h
def Qnn:Ce->Bool
 | .av a=>Qnl 4 a
 |_=>false
def Qno:Re->Bool
 | .pa (.ce c)=>Qnn c
 | .pa (.agg l)=>l.all Qnn
 |_=>false
theorem Qnp{Γ:Gm}{c:Ce}{v:V}(h:Qnn c=true)(hc:InC Γ c v):Qjs v:=by
 cases hc with
 |av _ h2=>exact Qnm h h2
 |_=>cases h
theorem Qnq{Γ:Gm}{r:Re}{v:V}(h:Qno r=true)(hr:InR Γ r v):Qjs v:=by
 cases hr with
 |pa hp=>
  cases hp with
  |ce hc _ _=>exact Qnp h hc
  |agg hl=>
   simp only[Qno]at h;intro θ;rw[Qec,Qni];intro x hx;obtain⟨j,hj⟩:=List.getElem?_of_mem hx;have hlt:=(ay0.1 hj).1;have hlen:=hl.1;exact Qnp (ay5.1 h _ (au2 (by omega:j<_))) (hl.2 j _ _ (At6 (by omega)) hj) θ
 |_=>cases h
theorem Qnr{p Qnw:Qjk}{inl:Nat->Bool}(hle:∀n,(a0d P0 p inl n).le (a0d P0 Qnw inl n)){k:Nat}{c:SumA}(h:a1p (λ N=>(a0d P0 p inl N).cbv) k c):a1p (λ N=>(a0d P0 Qnw inl N).cbv) k c:=λ ρ asq bs h1 h2 h3 h4=>by
 obtain⟨N,v,bs',hN,r⟩:=h ρ asq bs h1 h2 h3 h4;exact⟨N,v,bs',(hle N).cbv _ _ _ _ hN,r⟩
structure Wd (a:V×V):Prop where
 l:Qea a.1=true
 w:InD g0 N0 (.sl false 1048576 Qne) a.1
 t:∃n,a.2= .lit (.int .u64 n)/\0<=n/\n<=18446744073709551615
theorem Wd.d{a:V×V}(h:Wd a):Qea a.2=true:=by
 obtain⟨n,e,_⟩:=h.t;rw[e];rfl
def Qns:List TD:=[.str 1073741824,kI,.str 1073741824,.str 1073741824,.str 1073741824,.bool,.bool]
def Qnt(u:V):Prop:=ShOk (.agg (Qns.map .td)) u
theorem Qnu{a:V×V}(ha:Wd a){u:V}(hu:Qnt u):∃r,Qnd 124 [a.1,u,a.2] r/\∃s n,r= .tup [sV s,iV n]/\((s.size=0/\8<=n/\n<=243)\/(s.size<=134217728/\n=0)):=by
 obtain⟨n,e,n0,n1⟩:=ha.t;obtain⟨r,h1,s,hs,h2⟩:=Qng (Qnh (i:=320) (k:=124) (by omega) rfl) (xs:=[.cell (.sl false 1048576 Qne),.agg Qns,.cell kU]) (ps:=[.tup [.td (.str 0),.td (.int .i64 8 243)],.tup [.td (.str 134217728),.td (.int .i64 0 0)]]) (by decide +kernel) (vs:=[a.1,u,a.2])
  (ShL.cons.2 ⟨.td ha.w,ShL.cons.2 ⟨hu,ShL.cons.2 ⟨.td (by rw[e];exact .int n0 n1),ShL.nil⟩⟩⟩)
 refine⟨r,h1,?_⟩;have key:∀{d e:TD},ShOk (.tup [.td d,.td e]) r->∃x y,r= .tup [x,y]/\InD g0 N0 d x/\InD g0 N0 e y:=by
  intro d e h;cases h with
  | @tup _ cs h1 h3=>
    match cs,h1 with
    |[x,y],_=>
     have k1:=h3 0 _ x rfl rfl;have k2:=h3 1 _ y rfl rfl;cases k1 with|td k1=>cases k2 with|td k2=>grind
 simp only[ay4,av0,ar1]at hs;rcases hs with rfl|rfl
 .obtain⟨x,y,rfl,k1,k2⟩:=key h2
  cases k1 with|str k1=>cases k2 with|int k2 k3=>grind
 .obtain⟨x,y,rfl,k1,k2⟩:=key h2
  cases k1 with|str k1=>cases k2 with|int k2 k3=>grind
theorem Qnv{θ:Qob}(hθ:∀n,(∃m,θ.v n= .lit (.int .u64 m))\/θ.v n= .nils\/∃xs,θ.v n= .sl none xs){r:V}{s:ByteArray}{n:Int}(h:Qec θ r= .tup [sV s,iV n]):r= .tup [sV s,iV n]:=by
 have cell:∀{v:V} {w:Value},Qec θ v= .lit w->(∀m,w≠ .int .u64 m)->v= .lit w:=by
  intro v w h hw;cases v with
  |lit x=>
   grind[Qec]
  |_=>simp[Qec]at h
 cases r with
 |tup cs=>
  rw[Qec]at h;injection h with h
  match cs,h with
  |[x,y],h=>
   simp only[Qed,Az2,ao0]at h;grind
  |[],h=>cases h
  |[x],h=>simp[Qed]at h
  |x::y::z::t,h=>simp[Qed]at h
 |lit x=>
  grind[Qec]
 |_=>simp[Qec]at h
section
variable {a b:V×V}
noncomputable abbrev Qnw(a b:V×V):Qjk:=Qjv P0 a4w inlS 124 a b
theorem Qnx(ha:Wd a)(n:Nat):(∃m,(Qjw a ha.l ha.d).v n= .lit (.int .u64 m))\/(Qjw a ha.l ha.d).v n= .nils\/∃xs,(Qjw a ha.l ha.d).v n= .sl none xs:=by
 have e:(Qjw a ha.l ha.d).v n=if n=1 then a.1 else a.2:=rfl
 rw[e];split
 .have hw:=ha.w
  revert hw;generalize a.1=x;intro hw;cases hw with
  |nils=>grind
  |sl=>grind
 .obtain⟨m,e,_⟩:=ha.t
  exact .inl ⟨m,e⟩
theorem Qny(ha:Wd a)(hb:Wd b)(hask:∀u r r',Qnt u->Qnd 124 [a.1,u,a.2] r->Qnd 124 [b.1,u,b.2] r'->r=r'){u:V}(hu:Qnt u):
  ∃s n,(a0d P0 (Qnw a b) inlS 1).cbv 124 [Qjr 1,u,Qjr 2] []=some (.tup [sV s,iV n],[])/\((s.size=0/\8<=n/\n<=243)\/(s.size<=134217728/\n=0)):=by
 obtain⟨r,⟨N,hN⟩,s,n,rfl,hr⟩:=Qnu ha hu;obtain⟨r',⟨M,hM⟩,_⟩:=Qnu hb hu;have:=hask u _ _ hu ⟨N,hN⟩ ⟨M,hM⟩;subst this;have cu:Qjs u:=by
  obtain⟨cs,rfl,h1,h2⟩:=b7J hu;exact Qnk (n:=2) (d:= .agg Qns) (by decide) (.agg h1 h2)
 refine⟨s,n,?_,hr⟩;have e:∀w,(Qnw a b 124)=some w->(a0d P0 (Qnw a b) inlS 1).cbv 124 [Qjr 1,u,Qjr 2] []=w [Qjr 1,u,Qjr 2] []:=λ w hw=>by grind[a0d]
 rw[e _ (by unfold Qnw Qjv;rw[ax3 rfl])];split
 .next r0 h0=>
  obtain⟨K,hK⟩:=Qjq h0;have h2:=(Qjl (P:=P0) (inl:=inlS) (Qla (θ:=Qjw a ha.l ha.d)) K).cbv _ _ _ r0.1 r0.2 hK;have e5:Qed (Qjw a ha.l ha.d) [Qjr 1,u,Qjr 2]=[a.1,u,a.2]:=by simp only[Qed,Qjx,Qjy,cu (Qjw a ha.l ha.d)]
  rw[e5]at h2;have h3:=Qjn h2 hN;simp only[az8]at h3;have h4:=Qnv (Qnx ha) h3.1;have h5:r0.2=[]:=by
   have:=h3.2;cases hq:r0.2 with
   |nil=>rfl
   |cons x y=>rw[hq]at this;cases this
  grind
 .have h0:∃r,Qju P0 a4w inlS 124 a b [Qjr 1,u,Qjr 2] [] r:=⟨.tup [sV s,iV n],u,rfl,rfl,cu,λ θ=>rfl,Qjp hN,Qjp hM⟩
  rw[dif_pos h0];obtain⟨u',e1,_,_,_,k1,_⟩:=h0.choose_spec;have:u=u':=by injection e1 with _ e1;injection e1
  subst this;rw[Qjp hN]at k1;grind
theorem Qnz(ha:Wd a)(hb:Wd b)(hask:∀u r r',Qnt u->Qnd 124 [a.1,u,a.2] r->Qnd 124 [b.1,u,b.2] r'->r=r'):RowsOk P0 (Qnw a b) inlS rowsT 523:=by
 have hle:=Qka (P:=P0) (inl:=inlS) (p:=a4w) (q:=124) (a:=a) (b:=b) rfl;have r0:RowsOk P0 (Qnw a b) inlS rowsT 502:=λ i r hi hr=>Qnr hle (a8S i r hi (by
  unfold rowsT at hr;rw[aw1 (by rw[show rows.length=502 from rfl];exact hi)]at hr;exact hr))
 have hp:∀k,(124::prL).contains k=false->Qnw a b k=none:=by
  intro k hk;simp only[List.contains_cons,Bool.or_eq_false_iff,Ay8]at hk;unfold Qnw Qjv;rw[ay9 hk.1];exact b2x k hk.2
 have r1:RowsOk P0 (Qnw a b) inlS rowsT 503:=r0.one λ r hr=>by
  have:r=t0:=ax8 (hr.symm.trans rfl);subst this;intro ρ asq bs hsy hcs hx hbx;have hbs:bs=[]:=ay7.1 hbx.1.symm;subst hbs;obtain⟨hl,hx⟩:=hx
  match asq,hl with
  |[x,u,y],_=>
   have k1:=hx 0 _ x rfl rfl;have k2:=hx 1 _ u rfl rfl;have k3:=hx 2 _ y rfl rfl;cases k1;cases k3;have hu:Qnt u:=by
    cases k2 with
    | @agg _ cs h1 h2=>
      have b0:=(hsy ⟨0,0,1073741824⟩ (by simp[t0])).2;have b1:=(hsy ⟨1,-9223372036854775808,9223372036854775807⟩ (by simp[t0,mi,ma])).2;have b2:=(hsy ⟨2,0,1073741824⟩ (by simp[t0])).2;have b3:=(hsy ⟨3,0,1073741824⟩ (by simp[t0])).2;have b4:=(hsy ⟨4,0,1073741824⟩ (by simp[t0])).2;simp only at b0 b1 b2 b3 b4
      match cs,h1 with
      |[c0,c1,c2,c3,c4,c5,c6],_=>
       have m0:=h2 0 _ c0 rfl rfl;have m1:=h2 1 _ c1 rfl rfl;have m2:=h2 2 _ c2 rfl rfl;have m3:=h2 3 _ c3 rfl rfl;have m4:=h2 4 _ c4 rfl rfl;have m5:=h2 5 _ c5 rfl rfl;have m6:=h2 6 _ c6 rfl rfl;have ev:∀i lo hi,(⟨0,[(⟨i,lo,hi⟩,1)]⟩:LE).ev (GB ρ t0.c.n t0.c.boxes.length).ρ=ρ i:=by intro i lo hi;simp[LE.ev,tsv,GB]
       cases m0 with|str _ m0=>cases m1 with|int _ m1=>cases m2 with|str _ m2=>cases m3 with|str _ m3=>cases m4 with|str _ m4=>cases m5 with|bool=>cases m6 with|bool=>
       rw[ev]at m0 m1 m2 m3 m4;refine .agg rfl λ j s c hs hc=> ?_
       match j with
       |0=>simp[Qns]at hs hc;subst hs;subst hc;exact .td (.str (by omega))
       |1=>simp[Qns]at hs hc;subst hs;subst hc;exact .td (.int (by omega) (by omega))
       |2=>simp[Qns]at hs hc;subst hs;subst hc;exact .td (.str (by omega))
       |3=>simp[Qns]at hs hc;subst hs;subst hc;exact .td (.str (by omega))
       |4=>simp[Qns]at hs hc;subst hs;subst hc;exact .td (.str (by omega))
       |5=>simp[Qns]at hs hc;subst hs;subst hc;exact .td .bool
       |6=>simp[Qns]at hs hc;subst hs;subst hc;exact .td .bool
       |j+7=>grind
   obtain⟨s,n,h1,h2⟩:=Qny ha hb hask hu;refine⟨1,_,_,h1,?_⟩;have inR:∀{Γ:Gm} {e1 e2:LE},e1.ok Γ.ρ Γ.n->(s.size:Int)=e1.ev Γ.ρ->e2.ok Γ.ρ Γ.n->n=e2.ev Γ.ρ->InR Γ (.tup [.ce (.av (.str e1)),.ce (.av (.int .i64 e2))]) (.tup [sV s,iV n]):=by
    intro Γ e1 e2 o1 v1 o2 v2;refine .tup ⟨rfl,λ j p c hp hc=> ?_⟩
    match j with
    |0=>simp at hp hc;subst hp;subst hc;exact .ce (.av rfl (.str o1 v1)) nofun nofun
    |1=>simp at hp hc;subst hp;subst hc;exact .ce (.av rfl (.int o2 v2)) nofun nofun
    |j+2=>simp at hp
   rcases h2 with⟨s0,n0,n1⟩|⟨s0,rfl⟩
   .refine⟨_,ay1 ..,λ i=>if i=5 then n else ρ i,λ i hi=>ay9 (by have:i<5:=hi;omega),(by decide),λ sy hs=> ?_,(λ g hg=>(by cases hg)),inR ?_ ?_ ?_ ?_,⟨rfl,λ j a c ha=>by simp at ha⟩⟩
    .have:sy=⟨5,8,243⟩:=by simpa using hs
     subst this;exact⟨by grind,by grind,by grind⟩
    .exact λ q hq=>(by cases hq)
    .simp[LE.ev,tsv,s0]
    .intro q hq
     have:q=(⟨5,8,243⟩,1):=by simpa using hq
     subst this;exact⟨by show(5:Nat)<6;omega,by grind[GB],by grind[GB]⟩
    .simp[LE.ev,tsv,GB]
   .refine⟨_,az9 _ (ay1 ..),λ i=>if i=5 then s.size else ρ i,λ i hi=>ay9 (by have:i<5:=hi;omega),(by decide),λ sy hs=> ?_,(λ g hg=>(by cases hg)),inR ?_ ?_ ?_ ?_,⟨rfl,λ j a c ha=>by simp at ha⟩⟩
    .have:sy=⟨5,0,134217728⟩:=by simpa using hs
     subst this;exact⟨by grind,by simp,by simp;omega⟩
    .intro q hq
     have:q=(⟨5,0,134217728⟩,1):=by simpa using hq
     subst this;exact⟨by show(5:Nat)<6;omega,by simp[GB],by grind[GB]⟩
    .simp[LE.ev,tsv,GB]
    .exact λ q hq=>(by cases hq)
    .simp[LE.ev,tsv]
 have r2:=r1.more hp 3 rT1;have r3:=r2.more hp 8 rT2;have r4:=r3.more hp 1 rT12;have r5:=r4.more hp 1 rT13;have r6:=r5.more hp 1 rT14;have r7:=r6.more hp 3 rT3b;exact r7.more hp 3 rT3c
theorem Qoa(ha:Wd a)(hb:Wd b)(hask:∀u r r',Qnt u->Qnd 124 [a.1,u,a.2] r->Qnd 124 [b.1,u,b.2] r'->r=r'){s:ByteArray}{v w:V}(hs:s.size<=1048576)(hv:Qnd 15 [a.1,a.2,sV s] v)(hw:Qnd 15 [b.1,b.2,sV s] w):v=w:=by
 obtain⟨N,x,bs',h1,p,hp,ρ',_,_,_,_,hr,hb'⟩:=Qnz ha hb hask 522 t20 (by omega) rfl (λ _=>s.size) [Qjr 1,Qjr 2,sV s] [] (λ sy h=>by
   have:sy=⟨0,0,1048576⟩:=by simpa[t20]using h
   subst this;exact⟨by show(0:Nat)<1;omega,by simp,by simp;omega⟩) (λ g hg=>(by cases hg)) ⟨rfl,λ j q c hq hc=>by
   match j with
   |0=>simp[t20]at hq hc;subst hq;subst hc;exact .lit
   |1=>simp[t20]at hq hc;subst hq;subst hc;exact .lit
   |2=>
    simp[t20]at hq hc;subst hq;subst hc;refine .str (λ q hq=> ?_) (by simp[LE.ev,tsv,GB]);have:q=(⟨0,0,1048576⟩,1):=by simpa using hq
    subst this;exact⟨by show(0:Nat)<1;omega,by simp[GB],by grind[GB]⟩
   |j+3=>grind⟩ ⟨rfl,λ j q c hq=>by grind⟩
 have hok:t20.c.posts.all (λ p=>p.boxes.isEmpty&&Qno p.res)=true:=by decide +kernel
 have hpo:=ay5.1 hok p hp;rw[az6]at hpo;have hbn:bs'=[]:=by
  have e:=hb'.1;rw[Ax8.1 hpo.1]at e;exact ay7.1 e.symm
 subst hbn;have hc:=Qnq hpo.2 hr;obtain⟨M,hM⟩:=hv;obtain⟨K,hK⟩:=hw;have e1:=Qkc (P:=P0) (inl:=inlS) (p:=a4w) (q:=124) (a:=a) (b:=b) rfl (.inl rfl) ha.l ha.d Qla (λ θ=>rfl) hc h1 hM;have e2:=Qkc (P:=P0) (inl:=inlS) (p:=a4w) (q:=124) (a:=a) (b:=b) rfl (.inr rfl) hb.l hb.d Qla (λ θ=>rfl) hc h1 hK;rw[e1,e2]
end
end
section
open Go Go.PV Go.SN Go.PV.JS Go.Proofs
open Go.SE
set_option maxRecDepth 10000
abbrev Qaa(n:Int):V:= .lit (.int .u64 n)
theorem Qab:a4h P0 74=some (.agg [sV ⟨#[]⟩,iV 0]):=by rfl
theorem Qac:a1M P0 74=some 2:=by rfl
theorem Qad:b4T P0 74=some true:=by rfl
theorem Qae:a1M P0 63=some 7:=by rfl
theorem Qaf:b4T P0 63=some true:=by rfl
theorem Qag:a1M P0 301=some 4:=by rfl
theorem Qah:b4T P0 301=some true:=by rfl
theorem Qai:a4h P0 301=some (.agg [sV ⟨#[]⟩,iV 0,sV ⟨#[]⟩,Qaa 0]):=by rfl
theorem Qaj:a1M P0 23=some 1:=by rfl
theorem Qak:b4T P0 23=some false:=by rfl
theorem Qal:a2G P0 25=some 63:=by rfl
theorem Qoc{x y:Operand}{a b:Int}:a3w P0 .leq 23 x y (Qaa a) (Qaa b)=some (bV (decide (a<=b))):=by
 rw[a6Z _ Tryz.underlying23 (by decide) (by decide)];simp[Go.binOp,Op.intCmp,a0t,a1w,a0Z,sc];rfl
def Qam(h:ByteArray)(p:Int)(t r:ByteArray)(f x y:Int):V:= .agg [sV h,iV p,sV t,sV r,iV f,Qaa x,Qaa y]
def Qan(eo et:Bool)(now x y:Int):Bool:=eo&&et&&decide (x<=now)&&(y==0||decide (y>now))
section
attribute [local simp] a7O a0K a0I a0v a0V a1h a1F opE ev evs evo a0D a2H a0u a0m St.get St.put tgp tgl a1w a0Z sc a0W a1b a0E a3B a1K a6x lenOf a2u am5 am6 Tryz.underlying23 Tryz.underlying25 Tryz.underlying63 Tryz.underlying74 Tryz.underlying301 a0b V.fit a5z anb a4Z bT V.cells storeAt setCells a3a a3b fill a0r Qab Qac Qad Qae Qaf Qag Qah Qai Qaj Qak sz3 sz9 ag3 ag9 Qal
theorem Qao{call:PV.Calls}{n:Nat}{h t r:ByteArray}{p f x y:Int}:a7O P0 call n 123 [Qam h p t r f x y] []=some (.agg [sV h,iV p],[]):=by
 have r0:∀(g:G) (nx:Nat),a5t 123 g nx (.agg [sV h,iV p])=some (.agg [sV h,iV p],[],[]):=λ g nx=>b1O (by rfl) (d0n (c4A (by repeat' first|exact d2G|refine all_cons ?_ ?_|exact a6N|exact c3R)));simp[P0,Qam,Tryz.func123,Tryz.f123,a0w,a0G,r0,a1u]
theorem Qap{call:PV.Calls}{n:Nat}{oh tt h t r:ByteArray}{op now p f x y:Int}{eo:Bool}(i0:call.inl 123=none)(c0:call.cbv 123 [Qam h p t r f x y] []=some (.agg [sV h,iV p],[]))
  (he:∀a b,a3w P0 .eql 74 a b (.agg [sV h,iV p]) (.agg [sV oh,iV op])=some (bV eo)):
  a7O P0 call n 225 [.agg [sV oh,iV op,sV tt,Qaa now],Qam h p t r f x y] []=some (bV (Qan eo (t.toList==tt.toList) now x y),[]):=by
 have r0:∀(g:G) (nx:Nat) (b:Bool),a5t 225 g nx (bV b)=some (bV b,[],[]):=λ g nx b=>b1O (by rfl) (d0n (b9J a9t));have d0:∀(g:G) (nx:Nat),a1q call.cbv g nx 123 [Qam h p t r f x y]=some {v:= .agg [sV h,iV p]}:=λ g nx=>b1v (by repeat' first|exact d2G|refine all_cons ?_ ?_|exact a6N|exact c3R|refine c4A ?_) c0 (d0n (c4A (by repeat' first|exact d2G|refine all_cons ?_ ?_|exact a6N|exact c3R)));unfold Qam at*;cases eo with
 |false=>simp[P0,Tryz.func225,Tryz.f225,a0w,a0G,r0,a1u,i0,d0,he,Qan]
 |true=>
  have hs:∀a b,a3w P0 .eql 9 a b (sV t) (sV tt)=some (bV (t.toList==tt.toList)):=λ a b=>a0y am6;generalize (t.toList==tt.toList)=et at hs⊢;cases et with
  |false=>simp[P0,Tryz.func225,Tryz.f225,a0w,a0G,r0,a1u,i0,d0,he,hs,Qan]
  |true=>
   have hl:∀a b,a3w P0 .leq 23 a b (Qaa x) (Qaa now)=some (bV (decide (x<=now))):=λ a b=>Qoc;unfold Qan;generalize decide (x<=now)=ex at hl⊢;cases ex with
   |false=>simp[P0,Tryz.func225,Tryz.f225,a0w,a0G,r0,a1u,i0,d0,he,hs,hl]
   |true=>
    have hy:∀a b,a3w P0 .eql 23 a b (Qaa y) (Qaa 0)=some (bV (y==0)):=λ a b=>a0l Tryz.underlying23;generalize (y==0)=ey at hy⊢;have hz:∀a b,a3w P0 .gtr 23 a b (Qaa y) (Qaa now)=some (bV (decide (y>now))):=λ a b=>a0z Tryz.underlying23;generalize decide (y>now)=ez at hz⊢;cases ey with
    |true=>simp[P0,Tryz.func225,Tryz.f225,a0w,a0G,r0,a1u,i0,d0,he,hs,hl,hy]
    |false=>simp[P0,Tryz.func225,Tryz.f225,a0w,a0G,r0,a1u,i0,d0,he,hs,hl,hy,hz]
end
noncomputable def Qaq:Code:=match Tryz.f224.body with
 |some (.seq _ (.seq (.seq _ (.block _ (.loop x))) _))=>x
 |_=> .skip
def Qar(a:V):Prop:=∃h p t r f x y,a=Qam h p t r f x y
section
attribute [local simp] a0K a0I a0v a0V a1h a1F opE ev evs evo a0D a2H a0u a0m St.get St.put tgp tgl a1w a0Z sc a0W a1b a0E a3B a1K a6x lenOf a2u am5 Tryz.underlying25 Tryz.underlying63 a0b V.fit a5z anb a4Z bT V.cells storeAt setCells a3a a3b fill Qae Qaf Qal a0r
def Qas(xs:List V)(rq:V)(i:Nat)(st:St):Prop:=
 st.sz=19/\T.get 8 st.env 0= .sl none xs/\T.get 8 st.env 1= .fn 225 [rq] []/\T.get 8 st.env 7=iV xs.length/\T.get 8 st.env 8=iV i
theorem Qat{call:PV.Calls}{n:Nat}{xs:List V}{rq:V}{fit:V->Bool}{i:Nat}{st:St}{a:V}(hl:Qas xs rq i st)(hy:xs[i]?=some a)(ha:Qar a)(i0:call.inl 225=none)
  (hc:∀g nx,a1q call.cbv g nx 225 [rq,a]=some {v:=bV (fit a)}) (hlen:xs.length<=2097152):
  ∃st1,a0K P0 call n Qaq st=some (if fit a then .ret else .normal,st1)/\st1.sz=19/\(if fit a then T.get 8 st1.env 4=iV i else Qas xs rq (i+1) st1):=by
 obtain⟨e,hh,nx,sz⟩:=st;obtain⟨h1,h0,h2,h7,h8⟩:=hl;simp only at h1 h0 h2 h7 h8;subst h1;have hlt:i<xs.length:=(ay0.1 hy).1;have hw:IntKind.i64.wrap ((i:Int)+1)=i+1:=a2h (by omega) (by omega);have hy':xs[i]'hlt=a:=(ay0.1 hy).2;generalize fit a=b at hc⊢;obtain⟨h,p,t,r,f,x,y,rfl⟩:=ha;unfold Qam at*;cases b with
 |true=>simp[Qaq,Tryz.f224,h0,h2,h7,h8,a2f am5,hlt,hy',i0,hc]
 |false=>simp[Qaq,Tryz.f224,h0,h2,h7,h8,a2f am5,hlt,hy',i0,hc,a2V am5,hw,Qas]
theorem Qau{call:PV.Calls}{n:Nat}{xs:List V}{rq:V}{st:St}(hl:Qas xs rq xs.length st):∃st1,a0K P0 call n Qaq st=some (.exit 0,st1)/\st1.sz=19:=by
 obtain⟨e,hh,nx,sz⟩:=st;obtain⟨h1,h0,h2,h7,h8⟩:=hl;simp only at h1 h0 h2 h7 h8;subst h1;simp[Qaq,Tryz.f224,h7,h8,a2f am5]
theorem Qav{call:PV.Calls}{n:Nat}{xs:List V}{rq:V}{fit:V->Bool}(ha:∀a∈xs,Qar a)(i0:call.inl 225=none)(hc:∀a∈xs,∀g nx,a1q call.cbv g nx 225 [rq,a]=some {v:=bV (fit a)})(hlen:xs.length<=2097152):∀(m i:Nat) (st:St),Qas xs rq i st->i<=xs.length->xs.length-i<m->
  ∃x st1,iter (a0K P0 call n Qaq) m st=some (x,st1)/\st1.sz=19/\(if 0<=a5U fit (xs.drop i) i then x= .ret/\T.get 8 st1.env 4=iV (a5U fit (xs.drop i) i)else x= .exit 0)
 |0,_,_,_,_,hm=>by omega
 |m+1,i,st,hl,hi,hm=>by
  by_cases e:i=xs.length
  .subst e
   obtain⟨st1,h1,h2⟩:=Qau (call:=call) (n:=n) hl;refine⟨.exit 0,st1,by simp only[iter,h1],h2,?_⟩;rw[List.drop_length];rfl
  .have hlt:i<xs.length:=by omega
   have hm1:=au2 hlt;obtain⟨st1,h1,h2,h3⟩:=Qat (call:=call) (n:=n) (fit:=fit) hl (At6 hlt) (ha _ hm1) i0 (hc _ hm1) hlen;have hd:xs.drop i=xs[i]::xs.drop (i+1):=Az7 hlt;rw[hd];by_cases hq:fit xs[i]=true
   .rw[ax3 hq]at h1 h3
    exact⟨.ret,st1,by simp only[iter,h1],h2,by simp only[a5U,hq,aw4];rw[ax3 (by omega)];exact⟨trivial,h3⟩⟩
   .rw[ay9 hq]at h1 h3
    obtain⟨x,st2,h4,h5,h6⟩:=Qav ha i0 hc hlen m (i+1) st1 h3 (by omega) (by omega);refine⟨x,st2,by simp only[iter,h1];exact h4,h5,?_⟩;have hq:fit xs[i]=false:=by simpa using hq
    simp only[a5U,hq,ay6,av8];exact h6
theorem Qaw{call:PV.Calls}{n:Nat}{xs:List V}{rq:V}{fit:V->Bool}(ha:∀a∈xs,Qar a)(i0:call.inl 225=none)(hc:∀a∈xs,∀g nx,a1q call.cbv g nx 225 [rq,a]=some {v:=bV (fit a)})(hlen:xs.length<=2097152)(hn:xs.length<n):
  a7O P0 call n 224 [.sl none xs,.fn 225 [rq] []] []=some (iV (a5U fit xs 0),[]):=by
 have hf:P0.funcs[224]?=some Tryz.f224:=Tryz.func224;have hX:∃r0 r1 r7,Tryz.f224.body=some (.seq (.region 0 r0 false) (.seq (.seq (.region 1 r1 false) (.block 0 (.loop Qaq))) (.seq (.region 7 r7 false) .ret)))/\
   (∃s1,a0K P0 call n (.seq (.region 0 r0 false) (.region 1 r1 false)) {env:=a0u [.sl none xs,.fn 225 [rq] []] 0 .leaf,h:=[],nx:=0,sz:=19}=some (.normal,s1)/\Qas xs rq 0 s1)/\
   ∀st:St,st.sz=19->∃st1,a0K P0 call n (.seq (.region 7 r7 false) .ret) st=some (.ret,st1)/\T.get 8 st1.env 4=iV (-1):=by
  refine⟨_,_,_,rfl,?_,?_⟩
  .simp[Qas]
  .rintro⟨e,hh,nx,sz⟩ h
   simp only at h;subst h;simp
 obtain⟨r0,r1,r7,hb,⟨s1,hs1,hl⟩,h7⟩:=hX;obtain⟨x,st1,h1,h2,h3⟩:=Qav (call:=call) (n:=n) ha i0 hc hlen n 0 s1 hl (by omega) (by omega);rw[Ax3]at h3;have split1:∀{a b c:Code} {s:St} {q:Option (Ex×St)},a0K P0 call n (.seq a b) s=some (.normal,s1)->a0K P0 call n c s1=q->a0K P0 call n (.seq a (.seq b c)) s=q:=by
  intro a b c s q ha hc;rw[a0K]at ha⊢;cases e:a0K P0 call n a s with
  |none=>rw[e]at ha;cases ha
  |some w=>
   obtain⟨x,w⟩:=w;rw[e]at ha;cases x with
   |normal=>simp only at ha⊢;rw[a0K,ha];exact hc
   |exit j=>cases ha
   |ret=>cases ha
 have assoc:∀{a b c d:Code} {s:St},a0K P0 call n (.seq a (.seq (.seq b c) d)) s=a0K P0 call n (.seq a (.seq b (.seq c d))) s:=by
  intro a b c d s;simp only[a0K];cases a0K P0 call n a s with
  |none=>rfl
  |some w=>
   obtain⟨x,w⟩:=w;cases x<;>simp only;cases a0K P0 call n b w with
   |none=>rfl
   |some w=>
    obtain⟨x,w⟩:=w;cases x<;>rfl
 have fin:∃st2,a0K P0 call n (.seq (.region 0 r0 false) (.seq (.seq (.region 1 r1 false) (.block 0 (.loop Qaq))) (.seq (.region 7 r7 false) .ret))) {env:=a0u [.sl none xs,.fn 225 [rq] []] 0 .leaf,h:=[],nx:=0,sz:=19}=some (.ret,st2)/\T.get 8 st2.env 4=iV (a5U fit xs 0):=by
  by_cases hq:0<=a5U fit xs 0
  .rw[ax3 hq]at h3
   obtain⟨rfl,h3⟩:=h3;refine⟨st1,?_,h3⟩;rw[assoc];refine split1 hs1 ?_;simp only[a0K,h1]
  .rw[ay9 hq]at h3
   subst h3;have hq:a5U fit xs 0= -1:=b5t hq;obtain⟨st2,k1,k2⟩:=h7 st1 h2;refine⟨st2,?_,by rw[hq];exact k2⟩;rw[assoc];refine split1 hs1 ?_;rw[a0K];simp only[a0K,h1,aw4];rw[a0K]at k1;exact k1
 obtain⟨st2,f1,f2⟩:=fin;have hm:max ([.sl none xs,.fn 225 [rq] []]:List V).length Tryz.f224.ntmps=19:=by simp[Tryz.f224]
 unfold a7O;simp only[Az0,hf,az1,hb,a0w,List.length_nil,hm,f1];have hr:a0m P0 Tryz.f224 st2=some (iV (a5U fit xs 0)):=by simp[a0m,Tryz.f224,a0D,St.get,f2]
 simp only[hr,az1,b1O (k:=224) (by rfl) (d0n (b9J a6N)),am3,a0G];rfl
theorem Qax{call:PV.Calls}{n:Nat}{rq:V}(hn:0<n):a7O P0 call n 224 [.nils,.fn 225 [rq] []] []=some (iV (-1),[]):=by
 obtain⟨n,rfl⟩:∃m,n=m+1:=⟨n-1,by omega⟩;have r0:∀(g:G) (nx:Nat),a5t 224 g nx (iV (-1))=some (iV (-1),[],[]):=λ g nx=>b1O (by rfl) (d0n (b9J a6N));simp[P0,a7O,Tryz.func224,Tryz.f224,iter,a0w,a0G,r0,a1u,a2f am5]
end
theorem Qay{d:Nat}{g:G}{s:List Nat×List Nat}{v:V}(h:pD v):a1y (d+1) g s v=some (v,s):=by
 have h1:∀i o,v≠ .ptr i o:=by
  rcases h with h|⟨cs,rfl,_⟩
  .rcases h.forms with⟨w,rfl⟩|rfl|⟨xs,rfl⟩<;>intro i o e<;>cases e
  .intro i o e;cases e
 have h2:∀f a b,v≠ .fn f a b:=by
  rcases h with h|⟨cs,rfl,_⟩
  .rcases h.forms with⟨w,rfl⟩|rfl|⟨xs,rfl⟩<;>intro i o q e<;>cases e
  .intro i o q e;cases e
 have h4:=c3T (g:=g) (s:=s) h;obtain⟨ms,ps⟩:=s;rw[Qgj h1 h2]at h4⊢;exact h4
theorem Qaz{f:a7F}{g:G}{nx k q:Nat}{L rq:V}(hL:pD L)(hq:pD rq):a1q f g nx k [L,.fn q [rq] []]=match f k [L,.fn q [rq] []] []with
  |some (v,[])=>some {v:=(a1R ([],nx) v).1,upd:=(a1R ([],nx) v).2.1,cnt:=(a1R ([],nx) v).2.2-nx}
  |_=>none:=by
 have e:a0G (a1y 4 g) ([],[]) [L,.fn q [rq] []]=some ([L,.fn q [rq] []],[],[]):=by
  have a1:a1y 4 g ([],[]) L=some (L,[],[]):=Qay (d:=3) hL;have a2:a1y 4 g ([],[]) (.fn q [rq] [])=some (.fn q [rq] [],[],[]):=by
   rw[a1y];simp only[a0G,Qay (d:=2) hq]
  simp only[a0G,a1,a2]
 unfold a1q;rw[e];simp only[a0G,a1u,List.all_nil,an5,aq4,ay6,av8];cases f k [L,.fn q [rq] []] []with
 |none=>rfl
 |some w=>
  obtain⟨v,bs⟩:=w;cases bs<;>rfl
def Qba(n:Int):V:= .tup [sV ⟨#[]⟩,iV n]
def Qbb:V->V
 | .agg [_,_,_,.lit (.string r),.lit (.int .i64 f),_,_]=>if f=1 then Qba 240 else if f=2 then Qba 241 else if f=3 then Qba 242 else if f=4 then Qba 243 else .tup [sV r,iV 0]
 |v=>v
def Qbc(fit:V->Bool):List V->V
 |[]=>Qba 241
 |a::r=>if fit a then Qbb a else Qbc fit r
theorem Qbd{f:V->Bool}:∀{l:List V} {i:Nat},(a5U f l i= -1/\Qbc f l=Qba 241)\/∃(j:Nat) (a:V),a5U f l i=i+j/\l[j]?=some a/\Qbc f l=Qbb a
 |[],i=> .inl ⟨rfl,rfl⟩
 |a::l,i=>by
  simp only[a5U,Qbc];by_cases h:f a=true
  .rw[ax3 h,ax3 h];exact .inr ⟨0,a,by simp,rfl,rfl⟩
  .rw[ay9 h,ay9 h]
   rcases Qbd (f:=f) (l:=l) (i:=i+1)with⟨h1,h2⟩|⟨j,b,h1,h2,h3⟩
   .exact .inl ⟨h1,h2⟩
   .exact .inr ⟨j+1,b,by rw[h1];omega,h2,h3⟩
section
attribute [local simp] a7O a0K a0I a0v a0V a1h a1F opE ev evs evo a0D a2H a0u a0m St.get St.put tgp tgl a1w a0Z sc a0W a1b a0E a3B a1K a6x lenOf a2u am5 Tryz.underlying4 am6 Tryz.underlying25 Tryz.underlying63 Tryz.underlying301 a0b V.fit a5z anb a4Z bT V.cells storeAt setCells a3a a3b fill a0r Qac Qad Qae Qaf Qag Qah Qai Qaj Qak sz3 sz9 ag3 ag9 Qal a1s
theorem Qbe:a1M P0 42=some 7:=by rfl
theorem Qbf:b4T P0 42=some true:=by rfl
theorem Qbg{call:PV.Calls}{n:Nat}{L u:V}{u0 u2 u3 u4:ByteArray}{u1 now:Int}{u5 u6:Bool}(hu:u= .agg [sV u0,iV u1,sV u2,sV u3,sV u4,bV u5,bV u6])(i0:call.inl 76=none)(c0:call.cbv 76 [u] []=some (bV false,[])):
  a7O P0 call n 124 [L,u,Qaa now] []=some (Qba 8,[]):=by
 have r0:∀(g:G) (nx:Nat),a5t 124 g nx (.tup [sV ⟨#[]⟩,iV 8])=some (.tup [sV ⟨#[]⟩,iV 8],[],[]):=λ g nx=>b1O (by rfl) (.inr ⟨_,rfl,by repeat' first|exact d2G|refine all_cons ?_ ?_|exact b9J a6N|exact b9J c3R⟩);have hD:∀a∈[V.agg [sV u0,iV u1,sV u2,sV u3,sV u4,bV u5,bV u6]],pD a:=all_cons (c4A (by repeat' first|exact d2G|refine all_cons ?_ ?_|exact a6N|exact c3R|exact a9t)) d2G;subst hu;have d0:∀(g:G) (nx:Nat),a1q call.cbv g nx 76 [.agg [sV u0,iV u1,sV u2,sV u3,sV u4,bV u5,bV u6]]=some {v:=bV false}:=λ g nx=>b1v hD c0 (d0n (b9J a9t));simp[P0,Tryz.func124,Tryz.f124,a0w,a0G,r0,a1u,i0,d0,Qbe,Qbf,Qba]
set_option maxHeartbeats 2000000 in
theorem Qbh{call:PV.Calls}{n:Nat}{L u rq:V}{xs:List V}{u0 u2 u3 u4 oh tt:ByteArray}{u1 op now:Int}{u5 u6:Bool}(hu:u= .agg [sV u0,iV u1,sV u2,sV u3,sV u4,bV u5,bV u6])(i0:call.inl 76=none)(i1:call.inl 50=none)(i2:call.inl 16=none)(i3:call.inl 224=none)
  (c0:call.cbv 76 [u] []=some (bV true,[])) (c1:call.cbv 50 [u] []=some (.agg [sV oh,iV op],[])) (c2:call.cbv 16 [u] []=some (sV tt,[]))
  (hrq:rq= .agg [sV oh,iV op,sV tt,Qaa now]) (hL:L= .nils/\xs=[]\/L= .sl none xs) (ha:∀a∈xs,Qar a) (hlen:xs.length<=2097152) {fit:V->Bool}
  (c3:∀w,call.cbv 224 [L,.fn 225 [rq] []] []=some w->w=(iV (a5U fit xs 0),[])) {r:V×List (List V)}
  (hb:a7O P0 call n 124 [L,u,Qaa now] []=some r):r=(Qbc fit xs,[]):=by
 have hLD:pD L:=by rcases hL with⟨rfl,_⟩|rfl<;>first|exact b9J a6n|exact b9J b4K
 have hqD:pD rq:=by rw[hrq];exact c4A (by repeat' first|exact d2G|refine all_cons ?_ ?_|exact a6N|exact c3R)
 have rE:∀(g:G) (nx:Nat) (s:ByteArray) (n:Int),a5t 124 g nx (.tup [sV s,iV n])=some (.tup [sV s,iV n],[],[]):=λ g nx s n=>b1O (by rfl) (.inr ⟨_,rfl,by repeat' first|exact d2G|refine all_cons ?_ ?_|exact b9J a6N|exact b9J c3R⟩);have hD:∀a∈[V.agg [sV u0,iV u1,sV u2,sV u3,sV u4,bV u5,bV u6]],pD a:=all_cons (c4A (by repeat' first|exact d2G|refine all_cons ?_ ?_|exact a6N|exact c3R|exact a9t)) d2G;subst hu;have d0:∀(g:G) (nx:Nat),a1q call.cbv g nx 76 [.agg [sV u0,iV u1,sV u2,sV u3,sV u4,bV u5,bV u6]]=some {v:=bV true}:=λ g nx=>b1v hD c0 (d0n (b9J a9t));have d1:∀(g:G) (nx:Nat),a1q call.cbv g nx 50 [.agg [sV u0,iV u1,sV u2,sV u3,sV u4,bV u5,bV u6]]=some {v:= .agg [sV oh,iV op]}:=λ g nx=>b1v hD c1 (d0n (c4A (by repeat' first|exact d2G|refine all_cons ?_ ?_|exact a6N|exact c3R)));have d2:∀(g:G) (nx:Nat),a1q call.cbv g nx 16 [.agg [sV u0,iV u1,sV u2,sV u3,sV u4,bV u5,bV u6]]=some {v:=sV tt}:=λ g nx=>b1v hD c2 (d0n (b9J c3R));have d3:=fun(g:G) (nx:Nat)=>Qaz (f:=call.cbv) (g:=g) (nx:=nx) (k:=224) (q:=225) hLD hqD;cases hc:call.cbv 224 [L,.fn 225 [rq] []] []with
 |none=>
  rw[hrq]at hc d3;rw[hc]at d3;simp only at d3;simp[P0,Tryz.func124,Tryz.f124,a0w,a0G,i0,i1,i2,i3,d0,d1,d2,d3,Qbe,Qbf]at hb
 |some w=>
  have:=c3 w hc;subst this;rw[hc]at d3;have rI:∀s,a1R s (iV (a5U fit xs 0))=(iV (a5U fit xs 0),s):=λ s=>d2Q (d0n (b9J a6N));simp only[rI,Nat.sub_self]at d3;subst hrq;rcases Qbd (f:=fit) (l:=xs) (i:=0)with⟨e1,e2⟩|⟨j,a,e1,e2,e3⟩
  .rw[e1]at d3
   rw[e2];simp[P0,Tryz.func124,Tryz.f124,a0w,a0G,rE,a1u,i0,i1,i2,i3,d0,d1,d2,d3,Qbe,Qbf,a2f am5]at hb;rw[<-hb];rfl
  .rw[e1]at d3
   rw[e3];rw[Int.ofNat_zero,Int.zero_add]at d3;have hlt:j<xs.length:=(ay0.1 e2).1;obtain⟨h,p,t,r',f,x,y,rfl⟩:=ha a (ax4 e2);have hy:xs[j]'hlt=Qam h p t r' f x y:=(ay0.1 e2).2;rcases hL with⟨rfl,rfl⟩|rfl
   .simp at hlt
   have hj:¬((j:Int)<0):=by omega
   unfold Qam at hy;have q1:∀a b,a3w P0 .eql 3 a b (iV f) (iV 1)=some (bV (f==1)):=λ a b=>a0l am5;have q2:∀a b,a3w P0 .eql 3 a b (iV f) (iV 2)=some (bV (f==2)):=λ a b=>a0l am5;have q3:∀a b,a3w P0 .eql 3 a b (iV f) (iV 3)=some (bV (f==3)):=λ a b=>a0l am5;have q4:∀a b,a3w P0 .eql 3 a b (iV f) (iV 4)=some (bV (f==4)):=λ a b=>a0l am5;simp only[Qbb,Qam];by_cases f1:f=1
   .rw[ax3 f1]
    subst f1;simp[P0,Tryz.func124,Tryz.f124,a0w,a0G,rE,a1u,i0,i1,i2,i3,d0,d1,d2,d3,Qbe,Qbf,a2f am5,a0l am5,hlt,hy,hj]at hb;rw[<-hb];rfl
   rw[ay9 f1];have g1:(f==1)=false:=by simpa using f1
   rw[g1]at q1;by_cases f2:f=2
   .rw[ax3 f2]
    subst f2;simp[P0,Tryz.func124,Tryz.f124,a0w,a0G,rE,a1u,i0,i1,i2,i3,d0,d1,d2,d3,Qbe,Qbf,a2f am5,a0l am5,hlt,hy,hj]at hb;rw[<-hb];rfl
   rw[ay9 f2];have g2:(f==2)=false:=by simpa using f2
   rw[g2]at q2;by_cases f3:f=3
   .rw[ax3 f3]
    subst f3;simp[P0,Tryz.func124,Tryz.f124,a0w,a0G,rE,a1u,i0,i1,i2,i3,d0,d1,d2,d3,Qbe,Qbf,a2f am5,a0l am5,hlt,hy,hj]at hb;rw[<-hb];rfl
   rw[ay9 f3];have g3:(f==3)=false:=by simpa using f3
   rw[g3]at q3;by_cases f4:f=4
   .rw[ax3 f4]
    subst f4;simp[P0,Tryz.func124,Tryz.f124,a0w,a0G,rE,a1u,i0,i1,i2,i3,d0,d1,d2,d3,Qbe,Qbf,a2f am5,a0l am5,hlt,hy,hj]at hb;rw[<-hb];rfl
   rw[ay9 f4];have g4:(f==4)=false:=by simpa using f4
   rw[g4]at q4;simp[P0,Tryz.func124,Tryz.f124,a0w,a0G,rE,a1u,i0,i1,i2,i3,d0,d1,d2,d3,Qbe,Qbf,a2f am5,q1,q2,q3,q4,hlt,hy,hj]at hb;rw[<-hb]
end
end
section
open Go Go.PV Go.SN Go.PV.JS Go.Proofs
open Go.SE
set_option maxRecDepth 100000
theorem Qbi:d6e P0 74 [.str,.int .i64] [.str,.int .i64]=true:=by decide +kernel
noncomputable def Qbj(h:ByteArray)(p:Int)(oh:ByteArray)(op:Int):Bool:=match a3w P0 .eql 74 (.tmp 0) (.tmp 0) (.agg [sV h,iV p]) (.agg [sV oh,iV op])with
 |some (.lit (.bool b))=>b
 |_=>false
theorem Qbk{h:ByteArray}{p:Int}:Kl [.str,.int .i64] [sV h,iV p]:=⟨[.string h,.int .i64 p],rfl,rfl,λ j a u ha hu=>by
 match j with
 |0=>simp at ha hu;subst ha;subst hu;exact⟨_,rfl⟩
 |1=>simp at ha hu;subst ha;subst hu;exact⟨_,rfl⟩
 |j+2=>simp at ha⟩
theorem Qbl{h oh:ByteArray}{p op:Int}(a b:Operand):a3w P0 .eql 74 a b (.agg [sV h,iV p]) (.agg [sV oh,iV op])=some (bV (Qbj h p oh op)):=by
 grind[c4T,Qbi,Qbk,Qbj]
noncomputable def Qbm(oh:ByteArray)(op:Int)(tt:ByteArray)(now:Int):V->Bool
 | .agg [.lit (.string h),.lit (.int _ p),.lit (.string t),_,_,.lit (.int _ x),.lit (.int _ y)]=>Qan (Qbj h p oh op) (t.toList==tt.toList) now x y
 |_=>false
theorem Qbn{k:Nat}{xs:List V}{v:V}{m N:Nat}(h:(a0d P0 a4w inlS m).cbv k xs []=some (v,[]))(hm:m<=N):(a0d P0 a4w inlS N).cbv k xs []=some (v,[]):=(a0L (P:=P0) (prim:=a4w) (inl:=inlS) hm).cbv _ _ _ _ h
theorem Qbo{a:V}(h:InD g0 N0 Qne a):∃h p t r f x y,a=Qam h p t r f x y/\(0<=x/\x<=18446744073709551615)/\(0<=y/\y<=18446744073709551615):=by
 unfold Qne at h;cases h with
 | @agg _ _ _ cs h1 h2=>
   match cs,h1 with
   |[c0,c1,c2,c3,c4,c5,c6],_=>
    have m0:=h2 0 _ c0 rfl rfl;have m1:=h2 1 _ c1 rfl rfl;have m2:=h2 2 _ c2 rfl rfl;have m3:=h2 3 _ c3 rfl rfl;have m4:=h2 4 _ c4 rfl rfl;have m5:=h2 5 _ c5 rfl rfl;have m6:=h2 6 _ c6 rfl rfl;cases m0 with|str _=>cases m1 with|int _ _=>cases m2 with|str _=>cases m3 with|str _=>cases m4 with|int _ _=>cases m5 with|int a1 a2=>cases m6 with|int b1 b2=>
    exact⟨_,_,_,_,_,_,_,rfl,⟨a1,a2⟩,b1,b2⟩
theorem Qbp{u:V}(h:Qnt u):∃u0 u1 u2 u3 u4 u5 u6,u= .agg [sV u0,iV u1,sV u2,sV u3,sV u4,bV u5,bV u6]:=by
 obtain⟨cs,rfl,h1,h2⟩:=b7J h
 match cs,h1 with
 |[c0,c1,c2,c3,c4,c5,c6],_=>
  have m0:=h2 0 _ c0 rfl rfl;have m1:=h2 1 _ c1 rfl rfl;have m2:=h2 2 _ c2 rfl rfl;have m3:=h2 3 _ c3 rfl rfl;have m4:=h2 4 _ c4 rfl rfl;have m5:=h2 5 _ c5 rfl rfl;have m6:=h2 6 _ c6 rfl rfl;cases m0 with|str _=>cases m1 with|int _ _=>cases m2 with|str _=>cases m3 with|str _=>cases m4 with|str _=>cases m5 with|bool=>cases m6 with|bool=>
  grind
theorem Qbq{k:Nat}{c:SumA}{xa:List Ar}(hh:a1p (λ N=>(Lp N).cbv) k c)(hf:d7d c xa=true){vs:List V}(hv:ShL (xa.map Ar.sh) vs):
  ∃v,Qnd k vs v/\∃p∈c.posts,∃ρ':Nat->Int,(∀i,i<c.n->ρ' i=c7T (b3X xa vs) i)/\a2W ρ' p.n p.cs/\InR (GB ρ' p.n 0) p.res v:=by
 unfold d7d at hf;simp only[az6,ay2]at hf;obtain⟨hb,⟨hcs,hpb⟩,hf⟩:=hf;split at hf;case h_2=>cases hf
 next l hl=>
 simp only[az6,ay2]at hf;obtain⟨hsy,hn⟩:=hf;have hbn:c.boxes=[]:=ay7.1 hb;have hvals:=b2m (ρ:=c7T (b3X xa vs)) hl hv;have hgo:Goes' (c7T (b3X xa vs)) 0 (b3X xa vs):=λ j x hx=>by simp_all[c7T]
 obtain⟨N,v,bs',h1,p,Qjt,ρ',r1,r2,r3,r4,r5,r6⟩:=hh (c7T (b3X xa vs)) vs [] (λ sy hsy'=>by
  rw[hsy]at hsy';obtain⟨j,hj⟩:=List.getElem?_of_mem hsy';have hlt:j<l.length:=(ay0.1 hj).1;have hlt2:j<(b3X xa vs).length:=by rw[<-hvals.1];exact hlt
  obtain⟨q1,q2,q3⟩:=hvals.2 j sy _ hj (At6 hlt2);have:=hgo j _ (At6 hlt2);rw[as4]at this q1;exact⟨by grind,by grind,by grind⟩)
  (by rw[hcs];exact λ g hg=>(by cases hg)) (b8k hl hv hgo (by simp[GB,hn])) (by rw[hbn];exact⟨rfl,λ j a c ha=>by simp at ha⟩)
 have hlen:bs'=[]:=by
  have:=ay5.1 hpb p Qjt;have e:=r6.1;rw[Ax8.1 this]at e;exact ay7.1 e.symm
 grind
def Qbr:SumA:=⟨5,[⟨0,0,17592186044416⟩,⟨1,-9223372036854775808,9223372036854775807⟩,⟨2,0,17592186044416⟩,⟨3,0,17592186044416⟩,⟨4,0,17592186044416⟩],[(.agg [(.str ⟨0,[(⟨0,0,17592186044416⟩,1)]⟩),(.int .i64 ⟨0,[(⟨1,-9223372036854775808,9223372036854775807⟩,1)]⟩),(.str ⟨0,[(⟨2,0,17592186044416⟩,1)]⟩),(.str ⟨0,[(⟨3,0,17592186044416⟩,1)]⟩),(.str ⟨0,[(⟨4,0,17592186044416⟩,1)]⟩),(.bool .unk),(.bool .unk)])],[],[],[⟨6,[⟨5,0,35184372088833⟩],(.pa (.ce (.av (.str ⟨0,[(⟨5,0,35184372088833⟩,1)]⟩)))),[],[⟨1,[(⟨2,0,17592186044416⟩,1),(⟨3,0,17592186044416⟩,1),(⟨5,0,35184372088833⟩,(-1))]⟩,⟨0,[(⟨2,0,17592186044416⟩,(-1)),(⟨5,0,35184372088833⟩,1)]⟩]⟩]⟩
theorem Qbs{u:V}(hu:Qnt u):∃tt:ByteArray,tt.size<=17592186044416/\Qnd 16 [u] (sV tt):=by
 obtain⟨v,h1,p,hp,ρ',q1,q2,q3⟩:=Qbq (Qnh (i:=289) (k:=16) (c:=Qbr) (by omega) rfl) (xa:=[.agg Qns]) (by decide +kernel) (vs:=[u]) (ShL.cons.2 ⟨hu,ShL.nil⟩);rw[az7.1 hp]at q2 q3;have k1:=(q2 _ (ay1 ..)).2;cases q3 with
 |pa q3=>cases q3 with
  |ce q3 _ _=>cases q3 with
   |av _ q3=>cases q3 with
    | @str _ s _ e=>
      refine⟨s,?_,h1⟩;have e2:(s.size:Int)=ρ' 5:=by simpa[LE.ev,tsv,GB,Gm.bare]using e
      obtain⟨u0,u1,u2,u3,u4,u5,u6,rfl⟩:=Qbp hu;have b2:ρ' 2=u2.size:=(q1 2 (by show(2:Nat)<5;omega)).trans rfl;have b3:ρ' 3=u3.size:=(q1 3 (by show(3:Nat)<5;omega)).trans rfl;obtain⟨cs,e3,h2,h3⟩:=b7J hu;injection e3 with e3
      subst e3;have l2:=h3 2 _ _ rfl rfl;have l3:=h3 3 _ _ rfl rfl;cases l2 with|str l2=>cases l3 with|str l3=>
      grind[LE.ev,tsv]
def Qbt:List TD:=[.str 134217728,kI,.str 134217728,.str 134217728,kI,kU,kU]
theorem Qbu{oh tt:ByteArray}{op now:Int}{a:V}(hoh:oh.size<=17592186044416)(htt:tt.size<=17592186044416)(hop: -9223372036854775808<=op/\op<=9223372036854775807)(hn:0<=now/\now<=18446744073709551615)(ha:InD g0 N0 Qne a):
  Qnd 225 [.agg [sV oh,iV op,sV tt,Qaa now],a] (bV (Qbm oh op tt now a)):=by
 have ha':ShOk (.agg (Qbt.map .td)) a:=by
  have:=ha;unfold Qne at this;cases this with
  | @agg _ _ _ cs h1 h2=>
    refine .agg (by grind[Qbt]) λ j s c hs hc=> ?_;rw[au3,az2]at hs;obtain⟨d,hd,rfl⟩:=hs;exact .td (h2 j d c hd hc)
 obtain⟨w,⟨M,hM⟩,_⟩:=Qng (Qnh (i:=317) (k:=123) (by omega) rfl) (xs:=[.agg Qbt]) (ps:=[.agg [.td (.str 134217728),.td kI]]) (by decide +kernel) (vs:=[a]) (ShL.cons.2 ⟨ha',ShL.nil⟩);obtain⟨z,hz,_⟩:=Qng (Qnh (i:=318) (k:=225) (by omega) rfl) (xs:=[.agg [.str 17592186044416,kI,.str 17592186044416,kU],.agg Qbt]) (ps:=[.td .bool]) (by decide +kernel) (vs:=[.agg [sV oh,iV op,sV tt,Qaa now],a])
  (ShL.cons.2 ⟨.agg rfl λ j s c hs hc=>by
   match j with
   |0=>simp at hs hc;subst hs;subst hc;exact .td (.str (by omega))
   |1=>simp at hs hc;subst hs;subst hc;exact .td (.int hop.1 hop.2)
   |2=>simp at hs hc;subst hs;subst hc;exact .td (.str (by omega))
   |3=>simp at hs hc;subst hs;subst hc;exact .td (.int hn.1 hn.2)
   |j+4=>simp at hs,ShL.cons.2 ⟨ha',ShL.nil⟩⟩)
 obtain⟨h,p,t,r,f,x,y,rfl,_,_⟩:=Qbo ha;have hw:w= .agg [sV h,iV p]:=by
  obtain⟨N,_,n2⟩:=a9P (m:=0) rfl ⟨M,hM⟩;rw[Qao]at n2;simp only[az0,az8,ao0]at n2;exact n2.symm
 subst hw;have hzv:z=bV (Qbm oh op tt now (Qam h p t r f x y)):=by
  obtain⟨N,n1,n2⟩:=a9P (m:=M) rfl hz;rw[Qap (a4G rfl) (Qbn hM n1) Qbl]at n2;simp only[az0,az8,ao0]at n2;exact n2.symm
 rw[<-hzv];exact hz
theorem Qbv{f:V->Bool}{rq:V}:∀{l:List V},(∀a∈l,Qnd 225 [rq,a] (bV (f a)))->∃M,∀a∈l,(a0d P0 a4w inlS M).cbv 225 [rq,a] []=some (bV (f a),[])
 |[],_=>⟨0,λ a h=>(by cases h)⟩
 |x::l,h=>by
  obtain⟨M,hM⟩:=h x (ay1 ..);obtain⟨K,hK⟩:=Qbv λ a ha=>h a (az9 _ ha);refine⟨max M K,λ a ha=> ?_⟩;grind[Qbn]
theorem Qbw{u:V}(hu:Qnt u):∃(vb:Bool) (oh tt:ByteArray) (op:Int),∀(L:V) (xs:List V) (now:Int),(L= .nils/\xs=[]\/L= .sl none xs)->(∀a∈xs,InD g0 N0 Qne a)->xs.length<=1048576->0<=now->now<=18446744073709551615->
  ∀r,Qnd 124 [L,u,Qaa now] r->r=if vb then Qbc (Qbm oh op tt now) xs else Qba 8:=by
 obtain⟨w,⟨M1,h76⟩,s,hs,hw⟩:=Qng (Qnh (i:=308) (k:=76) (by omega) rfl) (xs:=[.agg Qns]) (ps:=[.td .bool]) (by decide +kernel) (vs:=[u]) (ShL.cons.2 ⟨hu,ShL.nil⟩);obtain⟨o,⟨M2,h50⟩,s2,hs2,ho⟩:=Qng (Qnh (i:=286) (k:=50) (by omega) rfl) (xs:=[.agg Qns]) (ps:=[.agg ([.str 17592186044416,kI].map .td)]) (by decide +kernel) (vs:=[u]) (ShL.cons.2 ⟨hu,ShL.nil⟩);obtain⟨tt,htt,⟨M3,h16⟩⟩:=Qbs hu;rw[az7.1 hs]at hw;rw[az7.1 hs2]at ho;cases hw with|td hw=>cases hw with| @bool _ _ vb=>
 obtain⟨cs,rfl,o1,o2⟩:=b7J ho
 match cs,o1 with
 |[c0,c1],_=>
  have m0:=o2 0 _ c0 rfl rfl;have m1:=o2 1 _ c1 rfl rfl;cases m0 with| @str _ _ _ oh hoh=>cases m1 with| @int _ _ _ _ _ op Qjt Qjv=>
  refine⟨vb,oh,tt,op,λ L xs now hL hxs hlen n0 n1 r hr=> ?_⟩;obtain⟨u0,u1,u2,u3,u4,u5,u6,hue⟩:=Qbp hu;cases vb with
  |false=>
   obtain⟨N,k1,k2⟩:=a9P (m:=M1) rfl hr;rw[Qbg hue (a4G rfl) (Qbn h76 k1)]at k2;grind
  |true=>
   obtain⟨M4,h225⟩:=Qbv (f:=Qbm oh op tt now) (rq:= .agg [sV oh,iV op,sV tt,Qaa now]) (l:=xs) λ a ha=>Qbu (by omega) (by omega) ⟨Qjt,Qjv⟩ ⟨n0,n1⟩ (hxs a ha);have hA:∀a∈xs,Qar a:=λ a ha=>by
    obtain⟨h,p,t,r,f,x,y,e,_⟩:=Qbo (hxs a ha);exact⟨h,p,t,r,f,x,y,e⟩
   obtain⟨N,k1,k2⟩:=a9P (m:=max M1 (max M2 M3)) rfl hr;have k3:=Qbh (n:=N) (fit:=Qbm oh op tt now) (xs:=xs) hue (a4G rfl) (a4G rfl) (a4G rfl) (a4G rfl) (Qbn h76 (by omega)) (Qbn h50 (by omega)) (Qbn h16 (by omega)) rfl hL hA (by omega) (λ w hw=>by
    have hw2:=(a0L (P:=P0) (prim:=a4w) (inl:=inlS) (by omega:N<=max N (max M4 (xs.length+1))+1)).cbv _ _ _ _ hw;have hw3:=b8S rfl hw2;have hq:pD (.agg [sV oh,iV op,sV tt,Qaa now]):=c4A (by simp[a6N,c3R]);rcases hL with⟨rfl,rfl⟩|rfl
    .rw[Qax (by omega)]at hw3
     exact(ax8 hw3).symm
    .rw[Qaw (fit:=Qbm oh op tt now) hA (a4G rfl) (λ a ha g nx=>b1v (all_cons hq (all_cons (by
      obtain⟨h,p,t,r,f,x,y,rfl⟩:=hA a ha;exact c4A (by repeat' first|exact d2G|refine all_cons ?_ ?_|exact a6N|exact c3R)) d2G)) (Qbn (h225 a ha) (by omega)) (d0n (b9J a9t))) (by omega) (by omega)]at hw3
     grind) k2
   grind
def Qlz:List Kd:=[.str,.int .i64,.str,.str,.str,.bool,.bool,.int .i64,.int .i64]
theorem Qma:d6e P0 44 Qlz Qlz=true:=by decide +kernel
theorem Qmb:d6e P0 35 [.bool,.int .u64] [.bool,.int .u64]=true:=by decide +kernel
def Qmc(a:ByteArray)(b:Int)(c d e:ByteArray)(f g:Bool)(h i:Int):V:= .agg [sV a,iV b,sV c,sV d,sV e,bV f,bV g,iV h,iV i]
def Qmd(v:V):Prop:=∃a b c d e f g h i,v=Qmc a b c d e f g h i
theorem Qme{v:V}(h:Qmd v)(p q:Operand):a3w P0 .neq 44 p q v v=some (bV false):=by
 obtain⟨a,b,c,d,e,f,g,h,i,rfl⟩:=h;have hk:Kl Qlz [sV a,iV b,sV c,sV d,sV e,bV f,bV g,iV h,iV i]:=⟨[.string a,.int .i64 b,.string c,.string d,.string e,.bool f,.bool g,.int .i64 h,.int .i64 i],rfl,rfl,λ j x u hx hu=>by
  match j with
  |0=>simp[Qlz]at hx hu;subst hx;subst hu;exact⟨_,rfl⟩
  |1=>simp[Qlz]at hx hu;subst hx;subst hu;exact⟨_,rfl⟩
  |2=>simp[Qlz]at hx hu;subst hx;subst hu;exact⟨_,rfl⟩
  |3=>simp[Qlz]at hx hu;subst hx;subst hu;exact⟨_,rfl⟩
  |4=>simp[Qlz]at hx hu;subst hx;subst hu;exact⟨_,rfl⟩
  |5=>simp[Qlz]at hx hu;subst hx;subst hu;exact⟨_,rfl⟩
  |6=>simp[Qlz]at hx hu;subst hx;subst hu;exact⟨_,rfl⟩
  |7=>simp[Qlz]at hx hu;subst hx;subst hu;exact⟨_,rfl⟩
  |8=>simp[Qlz]at hx hu;subst hx;subst hu;exact⟨_,rfl⟩
  |j+9=>simp_all⟩
 obtain⟨x,hx,hb⟩:=c4T Qma hk hk;have:=(hb p q).2.1;rw[hx rfl]at this;exact this
theorem Qmf{b:Bool}{n:Int}(p q:Operand):a3w P0 .eql 35 p q (.agg [bV b,Qaa n]) (.agg [bV b,Qaa n])=some (bV true):=by
 have hk:Kl [.bool,.int .u64] [bV b,Qaa n]:=⟨[.bool b,.int .u64 n],rfl,rfl,λ j x u hx hu=>by
  match j with
  |0=>simp at hx hu;subst hx;subst hu;exact⟨_,rfl⟩
  |1=>simp at hx hu;subst hx;subst hu;exact⟨_,rfl⟩
  |j+2=>simp at hx⟩
 grind[c4T,Qmb]
theorem Qmg{k p:Int}{s h:ByteArray}(x y:Operand):a3w P0 .eql 29 x y (.agg [iV k,sV s,sV h,iV p]) (.agg [iV k,sV s,sV h,iV p])=some (bV true):=by
 obtain⟨cs,e,hk⟩:=IsId.kl ⟨k,s,h,p,rfl⟩;grind[c4T,d9U]
noncomputable def Qmh:Code:=match Tryz.f51.body with
 |some (.seq _ (.seq _ (.seq (.seq _ (.block _ (.loop x))) _)))=>x
 |_=> .skip
theorem Qmi{call:PV.Calls}{n:Nat}{a b:Code}{s s1:St}(h:a0K P0 call n a s=some (.normal,s1)):a0K P0 call n (.seq a b) s=a0K P0 call n b s1:=by
 rw[a0K,h]
theorem Qmj{call:PV.Calls}{n:Nat}{i:Nat}{x:Code}{s s1:St}(h:iter (a0K P0 call n x) n s=some (.exit i,s1)):a0K P0 call n (.block i (.loop x)) s=some (.normal,s1):=by
 grind[a0K]
theorem Qmk:a1M P0 44=some 9:=by rfl
theorem Qml:b4T P0 44=some true:=by rfl
theorem Qmm:a2G P0 36=some 44:=by rfl
section
attribute [local simp] a0K a0I a0v a0V a1h a1F opE ev evs evo a0D a2H a0u a0m St.get St.put tgp tgl a1w a0Z sc a0W a1b a0E a3B a1K a6x lenOf a2u am5 Tryz.underlying36 Tryz.underlying44 a0b V.fit a5z anb a4Z bT V.cells storeAt setCells a3a a3b fill Qmk Qml Qmm a0r
def Qmn(ys:List V)(i:Nat)(st:St):Prop:=
 st.sz=26/\T.get 8 st.env 0= .sl none ys/\T.get 8 st.env 1= .sl none ys/\T.get 8 st.env 12=iV ys.length/\T.get 8 st.env 13=iV i
theorem Qmo{call:PV.Calls}{n:Nat}{ys:List V}{i:Nat}{st:St}{y:V}(hl:Qmn ys i st)(hy:ys[i]?=some y)(hx:Qmd y)(hlen:ys.length<=2097152):
  ∃st1,a0K P0 call n Qmh st=some (.normal,st1)/\Qmn ys (i+1) st1:=by
 obtain⟨e,hh,nx,sz⟩:=st;obtain⟨h1,h0,h2,h7,h8⟩:=hl;simp only at h1 h0 h2 h7 h8;subst h1;have hlt:i<ys.length:=(ay0.1 hy).1;have hw:IntKind.i64.wrap ((i:Int)+1)=i+1:=a2h (by omega) (by omega);have hy':ys[i]'hlt=y:=(ay0.1 hy).2;have hb:=Qme hx;obtain⟨a,b,c,d,e,f,g,h,j,rfl⟩:=hx;simp_all[Qmc,Qmh,Tryz.f51,a2f,a2V,Qmn]
theorem Qmp{call:PV.Calls}{n:Nat}{ys:List V}(hx:∀y∈ys,Qmd y)(hlen:ys.length<=2097152):∀(m i:Nat) (st:St),Qmn ys i st->i<=ys.length->ys.length-i<m->
  ∃st1,iter (a0K P0 call n Qmh) m st=some (.exit 0,st1)/\st1.sz=26
 |0,_,_,_,_,hm=>by omega
 |m+1,i,st,hl,hi,hm=>by
  by_cases e:i=ys.length
  .subst e
   obtain⟨e,hh,nx,sz⟩:=st;obtain⟨h1,h0,h2,h7,h8⟩:=hl;simp_all[iter,Qmh,Tryz.f51,a2f]
  .have hlt:i<ys.length:=by omega
   obtain⟨st1,h1,h2⟩:=Qmo (call:=call) (n:=n) hl (At6 hlt) (hx _ (au2 hlt)) hlen;obtain⟨st2,h4,h5⟩:=Qmp hx hlen m (i+1) st1 h2 (by omega) (by omega);exact⟨st2,by simp only[iter,h1];exact h4,h5⟩
theorem Qmq{call:PV.Calls}{n:Nat}{L:V}{ys:List V}(hL:L= .nils/\ys=[]\/L= .sl none ys)(hx:∀y∈ys,Qmd y)(hlen:ys.length<=2097152)(hn:ys.length<n):a7O P0 call n 51 [L,L] []=some (bV true,[]):=by
 have rB:∀(g:G) (nx:Nat),a5t 51 g nx (bV true)=some (bV true,[],[]):=λ g nx=>b1O (by rfl) (d0n (b9J a9t));rcases hL with⟨rfl,rfl⟩|rfl
 .obtain⟨n,rfl⟩:∃m,n=m+1:=⟨n-1,by omega⟩
  simp[P0,a7O,Tryz.func51,Tryz.f51,iter,a0w,a0G,rB,a1u,a2f am5,a7Y am5]
 have hf:P0.funcs[51]?=some Tryz.f51:=Tryz.func51;have hX:∃r0 r1 r2 r3 r9,Tryz.f51.body=some (.seq (.region 0 r0 false) (.seq (.seq (.region 1 r1 false) (.cond (.tmp 10) (.seq (.region 2 r2 false) .ret) .skip)) (.seq (.seq (.region 3 r3 false) (.block 0 (.loop Qmh))) (.seq (.region 9 r9 false) .ret))))/\
   (∃s0 s1 s3,a0K P0 call n (.region 0 r0 false) {env:=a0u [.sl none ys,.sl none ys] 0 .leaf,h:=[],nx:=0,sz:=26}=some (.normal,s0)/\a0K P0 call n (.seq (.region 1 r1 false) (.cond (.tmp 10) (.seq (.region 2 r2 false) .ret) .skip)) s0=some (.normal,s1)/\a0K P0 call n (.region 3 r3 false) s1=some (.normal,s3)/\Qmn ys 0 s3)/\
   ∀st:St,st.sz=26->∃st1,a0K P0 call n (.seq (.region 9 r9 false) .ret) st=some (.ret,st1)/\T.get 8 st1.env 4=bV true:=by
  refine⟨_,_,_,_,_,rfl,?_,?_⟩
  .simp[Qmn,a7Y]
  .simp_all
 obtain⟨r0,r1,r2,r3,r9,hb,⟨s0,s1,s3,h0,h1,h3,hl⟩,h9⟩:=hX;obtain⟨st1,k1,k2⟩:=Qmp (call:=call) (n:=n) hx hlen n 0 s3 hl (by omega) (by omega);obtain⟨st2,k3,k4⟩:=h9 st1 k2;have hm:max ([.sl none ys,.sl none ys]:List V).length Tryz.f51.ntmps=26:=by simp[Tryz.f51]
 have hev:a0K P0 call n (.seq (.region 0 r0 false) (.seq (.seq (.region 1 r1 false) (.cond (.tmp 10) (.seq (.region 2 r2 false) .ret) .skip)) (.seq (.seq (.region 3 r3 false) (.block 0 (.loop Qmh))) (.seq (.region 9 r9 false) .ret)))) {env:=a0u [.sl none ys,.sl none ys] 0 .leaf,h:=[],nx:=0,sz:=26}=some (.ret,st2):=by
  rw[Qmi h0,Qmi h1,Qmi (s1:=st1) (by rw[Qmi h3,Qmj k1])];exact k3
 unfold a7O;simp only[Az0,hf,az1,hb,a0w,List.length_nil,hm,hev];have hr:a0m P0 Tryz.f51 st2=some (bV true):=by simp[a0m,Tryz.f51,a0D,St.get,k4]
 simp only[hr,az1,rB,am3,a0G];rfl
end
def Qmr(a b:Int)(c d:ByteArray)(e f:Int)(g h:ByteArray)(i:Int)(j:Bool)(k:Int)(T:V):V:= .agg [iV a,iV b,sV c,sV d,iV e,iV f,sV g,sV h,iV i,bV j,Qaa k,T]
section
theorem Qms:a1M P0 56=some 12:=by rfl
theorem Qmt:b4T P0 56=some true:=by rfl
theorem Qmu:a1M P0 29=some 4:=by rfl
theorem Qmv:b4T P0 29=some true:=by rfl
theorem Qmw:a1M P0 30=some 1:=by rfl
theorem Qmx:b4T P0 30=some false:=by rfl
theorem Qmy:a1M P0 35=some 2:=by rfl
theorem Qmz:b4T P0 35=some true:=by rfl
theorem Qna:a1M P0 36=some 1:=by rfl
theorem Qnb:b4T P0 36=some false:=by rfl
attribute [local simp] a7O a0K a0I a0v a0V a1h a1F opE ev evs evo a0D a2H a0u a0m St.get St.put tgp tgl a1w a0Z sc a0W a1b a0E a3B a1K a6x lenOf a2u Tryz.underlying56 a0b V.fit a5z anb a4Z bT storeAt setCells a3a a3b fill Qms Qmt Qmu Qmv Qmw Qmx Qmy Qmz Qna Qnb
theorem Qnc{call:PV.Calls}{n:Nat}{a b e f i k:Int}{c d g h:ByteArray}{j:Bool}{T:V}(hTf:T= .nils\/∃ys,T= .sl none ys)(i0:call.inl 51=none)(c0:call.cbv 51 [T,T] []=some (bV true,[])):a7O P0 call n 19 [Qmr a b c d e f g h i j k T,Qmr a b c d e f g h i j k T] []=some (bV true,[]):=by
 have rB:∀(g:G) (nx:Nat),a5t 19 g nx (bV true)=some (bV true,[],[]):=λ g nx=>b1O (by rfl) (d0n (b9J a9t));have hT:isD T:=by grind[a6n,b4K]
 have d0:∀(g:G) (nx:Nat),a1q call.cbv g nx 51 [T,T]=some {v:=bV true}:=λ g nx=>b1v (all_cons (b9J hT) (all_cons (b9J hT) d2G)) c0 (d0n (b9J a9t));have q0:∀x y,a3w P0 .eql 30 x y (iV a) (iV a)=some (bV true):=λ x y=>by rw[a0l al1,BEq.rfl]
 unfold Qmr;rcases hTf with rfl|⟨ys,rfl⟩<;>simp[P0,Tryz.func19,Tryz.f19,a0w,a0G,rB,a1u,i0,d0,q0,Qmg,Qmf,V.cells,a0r]
end
theorem Qca{t:Nat}{d:TypeDesc}{x y:Operand}{a b:Int}{k:IntKind}(hd:P0.underlying t=some d)(h:b≠0):a3w P0 .rem t x y (.lit (.int k a)) (.lit (.int k b))=some (.lit (.int k (a.tmod b))):=by
 simp_all[a6Z,Go.binOp,Op.intDiv,a0t,a1w,a0Z,sc,a0c,pure]
theorem Qcc:∃i,P0.info? 63=some i/\i.size=7/\i.zero=some (.agg #[.string ⟨#[]⟩,.int .i64 0,.string ⟨#[]⟩,.string ⟨#[]⟩,.int .i64 0,.int .u64 0,.int .u64 0])/\¬i.bytes>1000:=⟨_,rfl,rfl,rfl,by decide⟩
theorem Qcd{ys:List V}{i:TypeInfo}(h2:i.size=7)(h4:¬i.bytes>1000)(hy:∀y∈ys,Qar y):(ys.any (λ y=>y.cells.length≠i.size)||(Value.agg #[.string ⟨#[]⟩,.int .i64 0,.string ⟨#[]⟩,.string ⟨#[]⟩,.int .i64 0,.int .u64 0,.int .u64 0]).cells.size≠i.size||i.size=0||i.bytes>1000|| !a2P (.slice 63))=false:=by
 have e:(Value.agg #[.string ⟨#[]⟩,.int .i64 0,.string ⟨#[]⟩,.string ⟨#[]⟩,.int .i64 0,.int .u64 0,.int .u64 0]).cells.size=7:=rfl;have e2:(ys.any λ y=>decide (y.cells.length≠7))=false:=by
  rw[Ax5];intro y h;obtain⟨a,b,c,d,e,f,g,rfl⟩:=hy y h;simp[Qam,V.cells]
 grind[a2P]
theorem Qce{g:G}{nx:Nat}{x:V}{ys:List V}(hs:a4j g x=some ys)(hy:∀y∈ys,Qar y)(h0:ys≠[])(hl:ys.length<=10000000):
  a0M P0 g nx 25 25 .nils x=some {v:= .row nx 7 0 ys.length,upd:=[(nx,some (.row 63 7 ys false))],cnt:=1}:=by
 grind[Qcc,b3i,Qal,Tryz.underlying25,Qcd,a2Z]
theorem Qcf{g:G}{nx:Nat}{x:V}(hs:a4j g x=some []):a0M P0 g nx 25 25 .nils x=some {v:= .nils,cnt:=1}:=by
 obtain⟨i,h1,h2,h3,h4⟩:=Qcc;unfold a0M;have:=Qcd (ys:=[]) h2 h4 (λ _ h=>(by cases h));simp_all[Qal]
theorem Qcg{g:G}{nx id:Nat}{x:V}{ys zs:List V}(hs:a4j g x=some ys)(hy:∀y∈ys,Qar y)(hg:g id=some (.row 63 7 zs false))(hl:zs.length+ys.length<=10000000):
  a0M P0 g nx 25 25 (.row id 7 0 zs.length) x=some {v:= .row nx 7 0 (zs.length+ys.length),upd:=[(nx,some (.row 63 7 (zs++ys) false)),(id,none)],cnt:=1}:=by
 obtain⟨i,h1,h2,h3,h4⟩:=Qcc;have:=b7i (nx:=nx) (id:=id) (n:=zs.length) (xs:=zs) Qal h1 h3 Tryz.underlying25 hs (Qcd h2 h4 hy) (by grind) (ay3 _) (by grind[a2Z]);grind
theorem Qch{a:V}(h:Qar a):pD a:=by
 obtain⟨h,p,t,r,f,x,y,rfl⟩:=h;exact c4A (by repeat' first|exact d2G|refine all_cons ?_ ?_|exact a6N|exact c3R)
theorem Qci{v:V}(h:pD v){d:Nat}{g:G}{ms:List Nat}:a0C (d+2) g ms v=some (v,ms):=by
 rcases h with h|⟨cs,rfl,h⟩
 .exact h.1 _ _ _
 .rw[a0C]
  rw[PV.a2i λ a ha=>(h a ha).1 d g ms]
theorem Qcj{f:a7F}{g:G}{nx k id:Nat}{zs r:List V}{v:V}(hg:g id=some (.row 63 7 zs false))(hz:∀z∈zs,Qar z)(hr:∀a∈r,pD a)(hf:f k (.sl none zs::r) []=some (v,[]))(hv:rD v):
  a1q f g nx k (.row id 7 0 zs.length::r)=some {v:=v,upd:=[(id,some (.row 63 7 zs true))]}:=by
 have e1:a1y 4 g ([],[]) (.row id 7 0 zs.length)=some (.sl none zs,[id],[]):=by
  rw[Qgj (λ _ _ e=>by cases e) (λ _ _ _ e=>by cases e),a5E,a0C];simp only[hg,as4,ay3,an9,aw4,Ax3,List.take_length];rw[PV.a2i λ a ha=>Qci (d:=157) (Qch (hz a ha))];rfl
 unfold a1q;grind[a0G,PV.a2i,c3T,a1u,a3y,a2s,d2Q]
theorem Qck{f:a7F}{g:G}{nx k id:Nat}{zs r:List V}(hg:g id=some (.row 63 7 zs false))(hz:∀z∈zs,Qar z)(hr:∀a∈r,pD a)(hf:f k (.sl none zs::r) []=none):a1q f g nx k (.row id 7 0 zs.length::r)=none:=by
 have e1:a1y 4 g ([],[]) (.row id 7 0 zs.length)=some (.sl none zs,[id],[]):=by
  rw[Qgj (λ _ _ e=>by cases e) (λ _ _ _ e=>by cases e),a5E,a0C];simp only[hg,as4,ay3,an9,aw4,Ax3,List.take_length];rw[PV.a2i λ a ha=>Qci (d:=157) (Qch (hz a ha))];rfl
 grind[a1q,a0G,PV.a2i,c3T]
theorem Qcl{f:a7F}{g:G}{nx k:Nat}{xa:List V}(h:∀a∈xa,pD a)(hf:f k xa []=none):a1q f g nx k xa=none:=by
 grind[a1q,PV.a2i,c3T,a0G]
def Qcm:TD:= .agg [.str 65536,kI,.str 65536,.str 65536,.str 65536,.bool,.bool,kI,kI]
def Qcn:List TD:=[kI,kI,.str 17592186044416,.str 17592186044416,kI,kI,.str 17592186044416,.str 17592186044416,kI,.bool,kU,.sl false 64 Qcm]
def Qco(v:V):Prop:=ShOk (.agg (Qcn.map .td)) v
theorem Qcp{v:V}(h:InD g0 N0 Qcm v):Qmd v:=by
 unfold Qcm at h;cases h with
 | @agg _ _ _ cs h1 h2=>
   match cs,h1 with
   |[c0,c1,c2,c3,c4,c5,c6,c7,c8],_=>
    have m0:=h2 0 _ c0 rfl rfl;have m1:=h2 1 _ c1 rfl rfl;have m2:=h2 2 _ c2 rfl rfl;have m3:=h2 3 _ c3 rfl rfl;have m4:=h2 4 _ c4 rfl rfl;have m5:=h2 5 _ c5 rfl rfl;have m6:=h2 6 _ c6 rfl rfl;have m7:=h2 7 _ c7 rfl rfl;have m8:=h2 8 _ c8 rfl rfl;cases m0 with|str _=>cases m1 with|int _ _=>cases m2 with|str _=>cases m3 with|str _=>cases m4 with|str _=>cases m5 with|bool=>cases m6 with|bool=>cases m7 with|int _ _=>cases m8 with|int _ _=>
    exact⟨_,_,_,_,_,_,_,_,_,rfl⟩
theorem Qcq{v:V}(h:Qco v):pD v:=by
 obtain⟨cs,rfl,h1,h2⟩:=b7J h;refine c4A λ c hc=> ?_;obtain⟨j,hj⟩:=List.getElem?_of_mem hc;have hlt:=(ay0.1 hj).1;have hlt':j<Qcn.length:=by grind
 have hb:=h2 j Qcn[j] c (At6 hlt') hj;have:∀d∈Qcn,(∃k lo hi,d= .int k lo hi)\/(∃hi,d= .str hi)\/d= .bool\/∃hi e,d= .sl false hi e:=by
  intro d hd;simp only[Qcn,ay4,av0,ar1,kI,kU]at hd;grind
 rcases this _ (au2 hlt')with⟨k,lo,hi,e⟩|⟨hi,e⟩|e|⟨hi,q,e⟩<;>rw[e]at hb<;>cases hb
 .exact a6N
 all_goals grind[c3R,a9t,a6n,b4K]
theorem Qcr{v:V}(hv:Qco v):Qnd 19 [v,v] (bV true):=by
 obtain⟨w,hw,_⟩:=Qng (Qnh (i:=429) (k:=19) (by omega) rfl) (xs:=[.agg Qcn,.agg Qcn]) (ps:=[.td .bool]) (by decide +kernel) (vs:=[v,v]) (ShL.cons.2 ⟨hv,ShL.cons.2 ⟨hv,ShL.nil⟩⟩);obtain⟨cs,rfl,h1,h2⟩:=b7J hv
 match cs,h1 with
 |[c0,c1,c2,c3,c4,c5,c6,c7,c8,c9,c10,c11],_=>
  have m0:=h2 0 _ c0 rfl rfl;have m1:=h2 1 _ c1 rfl rfl;have m2:=h2 2 _ c2 rfl rfl;have m3:=h2 3 _ c3 rfl rfl;have m4:=h2 4 _ c4 rfl rfl;have m5:=h2 5 _ c5 rfl rfl;have m6:=h2 6 _ c6 rfl rfl;have m7:=h2 7 _ c7 rfl rfl;have m8:=h2 8 _ c8 rfl rfl;have m9:=h2 9 _ c9 rfl rfl;have m10:=h2 10 _ c10 rfl rfl;have m11:InD g0 N0 (.sl false 64 Qcm) c11:=h2 11 _ c11 rfl rfl;cases m0 with|int _ _=>cases m1 with|int _ _=>cases m2 with|str _=>cases m3 with|str _=>cases m4 with|int _ _=>cases m5 with|int _ _=>cases m6 with|str _=>cases m7 with|str _=>cases m8 with|int _ _=>cases m9 with|bool=>cases m10 with|int _ _=>
  have hT:(c11= .nils\/∃ys,c11= .sl none ys)/\∃ys,(c11= .nils/\ys=[]\/c11= .sl none ys)/\(∀y∈ys,Qmd y)/\ys.length<=64:=by
   cases m11 with
   |nils=>grind
   |sl hl hx=>grind[Qcp]
  obtain⟨hT,ys,hys,hx,hl⟩:=hT;obtain⟨z,⟨M,hM⟩,_⟩:=Qng (Qnh (i:=428) (k:=51) (by omega) rfl) (xs:=[.cell (.sl false 64 Qcm),.cell (.sl false 64 Qcm)]) (ps:=[.td .bool]) (by decide +kernel) (vs:=[c11,c11]) (ShL.cons.2 ⟨.td m11,ShL.cons.2 ⟨.td m11,ShL.nil⟩⟩);have hz:z=bV true:=by
   obtain⟨N,k1,k2⟩:=a9P (m:=65) rfl ⟨M,hM⟩;rw[Qmq hys hx (by omega) (by omega)]at k2;simp only[az0,az8,ao0]at k2;exact k2.symm
  subst hz;have hwv:w=bV true:=by
   obtain⟨N,k1,k2⟩:=a9P (m:=M) rfl hw;have k3:=k2.symm.trans (Qnc hT (a4G rfl) (Qbn hM k1));exact an8 Prod.fst (ax8 k3)
  grind
theorem Qcs{a:V×V}(ha:Wd a){s:ByteArray}(hs:s.size<=1048576):∃v,Qnd 15 [a.1,a.2,sV s] v/\Qco v:=by
 obtain⟨n,e,n0,n1⟩:=ha.t;obtain⟨v,h1,q,hq,h2⟩:=Qng (Qnh (i:=496) (k:=15) (by omega) rfl) (xs:=[.cell (.sl false 1048576 Qne),.cell kU,.cell (.str 1048576)]) (ps:=[.agg (Qcn.map .td)]) (by decide +kernel) (vs:=[a.1,a.2,sV s])
  (ShL.cons.2 ⟨.td ha.w,ShL.cons.2 ⟨.td (by rw[e];exact .int n0 n1),ShL.cons.2 ⟨.td (.str (by omega)),ShL.nil⟩⟩⟩)
 rw[az7.1 hq]at h2;exact⟨v,h1,h2⟩
theorem Qlb:a4h P0 63=some (.agg [sV ⟨#[]⟩,iV 0,sV ⟨#[]⟩,sV ⟨#[]⟩,iV 0,Qaa 0,Qaa 0]):=by rfl
section
attribute [local simp] a0K a0I a0v a0V a1h a1F opE ev evs evo a0D a2H a0u a0m St.get St.put tgp tgl a1w a0Z sc a0W a1b a0E a3B a1K a6x lenOf a2u am5 am8 Tryz.underlying25 Tryz.underlying63 a0b V.fit a5z anb a4Z bT V.cells storeAt setCells a3a a3b fill a1H Qae Qaf Qlb Qal sz3 sz9 ag3 ag9 a0r
end
theorem Qli{s:ByteArray}{t:Nat}:a0t P0 (Builtin.len_ #[9] t #[.string s])=some (iV s.size):=by
 simp only[a0t,Builtin.len_,Az0];have e0:(#[Value.string s]:Array Value)[0]?=some (.string s):=rfl;have e1:(#[9]:Array Nat)[0]?=some 9:=rfl;simp only[e0,e1,a0a,a0g (P:=P0) am6,az1,a0i,goInt];rfl
section
attribute [local simp] a0K a0I a0v a0V a1h a1F opE ev evs evo a0D a2H a0u St.get St.put tgp tgl a1w a0Z sc a0W a1b lenOf a2u am5 am8 am6 Tryz.underlying25 a0b Qal a1s Qli
end
theorem Qlo{fit:V->Bool}{r:List V}:∀{l:List V},(∀a∈l,fit a=false)->Qbc fit (l++r)=Qbc fit r
 |[],_=>rfl
 |a::l,h=>by
  rw[ap4,Qbc,h a (ay1 ..)];exact Qlo λ b hb=>h b (az9 _ hb)
theorem Qlp{f g:V->Bool}:∀{l:List V},(∀a∈l,f a=g a)->Qbc f l=Qbc g l
 |[],_=>rfl
 |a::l,h=>by
  rw[Qbc,Qbc,h a (ay1 ..),Qlp λ b hb=>h b (az9 _ hb)]
def Qlq:TD:= .agg [.str 253,kI,.str 8193,.str 134217728,.int .i64 0 4,.int .u64 0 0,.int .u64 0 0]
theorem Qlr{a:V}(h:InD g0 N0 Qlq a):InD g0 N0 Qne a:=h.le (by decide)
theorem Qls{d e:TD}{r:V}(h:ShOk (.tup [.td d,.td e]) r):∃x y,r= .tup [x,y]/\InD g0 N0 d x/\InD g0 N0 e y:=by
 cases h with
 | @tup _ cs h1 h3=>
   match cs,h1 with
   |[x,y],_=>
    have k1:=h3 0 _ x rfl rfl;have k2:=h3 1 _ y rfl rfl;cases k1 with|td k1=>cases k2 with|td k2=>exact⟨x,y,rfl,k1,k2⟩
theorem Qlt{sv:V}(h:InD g0 N0 (.sl false 9223372036854775807 (.int .u8 0 255)) sv):∃s L,Qnd 9 [sv] (.tup [sV s,L])/\s.size<=193/\∃xs,(L= .nils/\xs=[]\/L= .sl none xs)/\(∀a∈xs,InD g0 N0 Qlq a)/\xs.length<=30:=by
 obtain⟨v,h1,q,hq,h2⟩:=Qng (Qnh (i:=233) (k:=9) (by omega) rfl) (xs:=[.cell (.sl false 9223372036854775807 (.int .u8 0 255))]) (ps:=[.tup [.td (.str 193),.td (.sl false 30 Qlq)]]) (by decide +kernel) (vs:=[sv]) (ShL.cons.2 ⟨.td h,ShL.nil⟩);rw[az7.1 hq]at h2;obtain⟨x,y,rfl,k1,k2⟩:=Qls h2;cases k1 with
 | @str _ _ _ s hs=>
   refine⟨s,y,h1,by omega,?_⟩;cases k2 with
   |nils=>exact⟨[],.inl ⟨rfl,rfl⟩,λ _ h=>(by cases h),by simp⟩
   |sl hl hx=>exact⟨_,.inr rfl,hx,by omega⟩
theorem Qlu{L:V}{xs:List V}{now:Int}(hL:L= .nils/\xs=[]\/L= .sl none xs)(hx:∀a∈xs,InD g0 N0 Qne a)(hl:xs.length<=1000)(h0:0<=now)(h1:now<=18446744073709551615):Wd (L,Qaa now):=by
 refine⟨?_,?_,⟨now,rfl,h0,h1⟩⟩
 .rcases hL with⟨rfl,_⟩|rfl<;>rfl
 .rcases hL with⟨rfl,_⟩|rfl
  .exact .nils (by omega)
  .exact .sl (by omega) hx
theorem Qlv{a:V}(h:InD g0 N0 Qne a):Qar a:=by
 obtain⟨h,p,t,r,f,x,y,e,_⟩:=Qbo h;exact⟨h,p,t,r,f,x,y,e⟩
theorem Qlx{sv:V}(hs:InD g0 N0 (.sl false 9223372036854775807 (.int .u8 0 255)) sv):isD sv:=by cases hs<;>first|exact a6n|exact b4K
noncomputable def Qde:Code:=match Tryz.f5.body with
 |some (.seq _ (.seq _ (.seq _ (.seq _ (.seq _ (.seq _ (.seq (.seq _ (.block _ (.loop x))) _)))))))=>x
 |_=> .skip
theorem Qdf{x y:Operand}{a b:Int}{k:IntKind}:a3w P0 .lss 3 x y (.lit (.int k a)) (.lit (.int k b))=some (bV (decide (a<b))):=a2f am5
theorem Qdg{x y:Operand}{a b:Int}{k:IntKind}:a3w P0 .add 3 x y (.lit (.int k a)) (.lit (.int k b))=some (.lit (.int k (k.wrap (a+b)))):=a2V am5
theorem Qdh{x y:Operand}{a b:Int}{k:IntKind}:a3w P0 .neq 23 x y (.lit (.int k a)) (.lit (.int k b))=some (bV (a !=b)):=a7Y Tryz.underlying23
def Qdi(now:Int)(z:V):Prop:=∃h p t r f x y,z=Qam h p t r f x y/\InD g0 N0 Qne z/\((x=1125899906842624/\y=0)\/(x=0/\y=now/\now≠0))
def Qdj(st:St)(zs:List V):Prop:=(T.get 8 st.env 13= .nils/\zs=[])\/∃id,T.get 8 st.env 13= .row id 7 0 zs.length/\a0b st.h id=some (.row 63 7 zs false)/\id<st.nx/\zs≠[]
theorem Qdk{h t r:ByteArray}{p f x y x' y':Int}(ha:InD g0 N0 Qne (Qam h p t r f x y))(hx:0<=x'/\x'<=18446744073709551615)(hy:0<=y'/\y'<=18446744073709551615):InD g0 N0 Qne (Qam h p t r f x' y'):=by
 unfold Qne Qam at ha⊢;cases ha with
 |agg h1 h2=>
  refine .agg rfl λ j d c hd hc=> ?_
  match j with
  |0=>exact h2 0 d c hd hc
  |1=>exact h2 1 d c hd hc
  |2=>exact h2 2 d c hd hc
  |3=>exact h2 3 d c hd hc
  |4=>exact h2 4 d c hd hc
  |5=>simp[kU]at hd hc;subst hd;subst hc;exact .int hx.1 hx.2
  |6=>simp[kU]at hd hc;subst hd;subst hc;exact .int hy.1 hy.2
  |j+7=>simp at hd
section
attribute [local simp] a0K a0I a0v a0V a1h a1F opE ev evs evo a0D a2H a0u a0m St.get St.put tgp tgl a1w a0Z sc a0W a1b a0E a3B a1K a6x lenOf a2u am5 Tryz.underlying23 Tryz.underlying25 Tryz.underlying63 a0b V.fit a5z anb a4Z bT V.cells storeAt setCells a3a a3b fill a1H Qae Qaf Qlb Qal sz3 sz9 Qaj Qak ag3 ag9 a0r
def Qdl(s:ByteArray)(now later:Int)(L:V)(ms zs:List V)(i:Nat)(st:St):Prop:=
 st.sz=81/\T.get 8 st.env 1=Qaa now/\T.get 8 st.env 2=Qaa later/\T.get 8 st.env 9=sV s/\T.get 8 st.env 10=L/\T.get 8 st.env 33= .sl none ms/\T.get 8 st.env 34=iV ms.length/\T.get 8 st.env 35=iV i/\Qdj st zs/\(∀z∈zs,Qdi now z)
def Qdm(s:ByteArray)(now later:Int)(L:V)(ms:List V)(i:Nat)(o:Option (Ex×St))(Q:St->Prop):Prop:=∃st1,o=some (.normal,st1)/\st1.sz=81/\T.get 8 st1.env 1=Qaa now/\T.get 8 st1.env 2=Qaa later/\T.get 8 st1.env 9=sV s/\T.get 8 st1.env 10=L/\T.get 8 st1.env 33= .sl none ms/\T.get 8 st1.env 34=iV ms.length/\T.get 8 st1.env 35=iV ((i:Int)+1)/\Q st1
attribute [local simp] Qde Tryz.f5 Qdf Qdh Qdg at7
set_option maxHeartbeats 1000000 in
theorem Qdn{call:PV.Calls}{n:Nat}{s:ByteArray}{now later:Int}{L:V}{ms zs:List V}{i:Nat}{st:St}{a:V}(hl:Qdl s now later L ms zs i st)(hy:ms[i]?=some a)(ha:InD g0 N0 Qne a)(hn:0<=now/\now<=1099511627776)(hlen:ms.length<=1000)(hz:zs.length<=i):
  ∃st1 zs1,a0K P0 call n Qde st=some (.normal,st1)/\Qdl s now later L ms zs1 (i+1) st1/\zs1.length<=i+1:=by
 obtain⟨e,hh,nx,sz⟩:=st;obtain⟨h1,e1,e2,e9,e10,e33,e34,e35,hacc,hE⟩:=hl;simp only at h1 e1 e2 e9 e10 e33 e34 e35;subst h1;have hil:i<ms.length:=(ay0.1 hy).1;have hw:IntKind.i64.wrap ((i:Int)+1)=i+1:=a2h (by omega) (by omega);have hy':ms[i]'hil=a:=(ay0.1 hy).2;have hr:∀x y,a3w P0 .rem 3 x y (iV i) (iV 2)=some (iV ((i:Int).tmod 2)):=λ x y=>Qca am5 (by omega);have hq:∀x y,a3w P0 .eql 3 x y (iV ((i:Int).tmod 2)) (iV 0)=some (bV ((i:Int).tmod 2==0)):=λ x y=>a0l am5;obtain⟨h,p,t,r,f,x,y,rfl,_,_⟩:=Qbo ha;have n0:¬nx=nx+1:=by omega
 generalize ((i:Int).tmod 2==0)=ev at hq;have w50:=Qdk ha (x':=1125899906842624) (y':=0) (by omega) (by omega);have wn:=Qdk ha (x':=0) (y':=now) (by omega) (by omega);have one:∀{x y:Int} (w:V),w∈[Qam h p t r f x y]->w=Qam h p t r f x y:=λ w hw=>az7.1 hw;have grow:∀{x y:Int} {st1:St},Qdi now (Qam h p t r f x y)->st1.sz=81->T.get 8 st1.env 1=Qaa now->T.get 8 st1.env 2=Qaa later->T.get 8 st1.env 9=sV s->T.get 8 st1.env 10=L->T.get 8 st1.env 33= .sl none ms->T.get 8 st1.env 34=iV ms.length->T.get 8 st1.env 35=iV ((i:Int)+1)->
   T.get 8 st1.env 13= .row (nx+2) 7 0 (zs.length+1)->a0b st1.h (nx+2)=some (.row 63 7 (zs++[.agg [sV h,iV p,sV t,sV r,iV f,Qaa x,Qaa y]]) false)->nx+2<st1.nx->Qdl s now later L ms (zs++[Qam h p t r f x y]) (i+1) st1:=by
  intro x y st1 hx k1 k2 k3 k4 k5 k6 k7 k8 k9 k10 k11;refine⟨k1,k2,k3,k4,k5,k6,k7,by rw[k8];rfl,.inr ⟨nx+2,by rw[k9,ar0];rfl,k10,k11,by simp⟩,λ z hz2=> ?_⟩;rcases ax1.1 hz2 with hz2|hz2
  .exact hE z hz2
  .rw[one z hz2];exact hx
 have l1:∀b:V,(zs++[b]).length<=i+1:=λ b=>by rw[ar0,ao9];omega
 have E50:Qdi now (Qam h p t r f 1125899906842624 0):=⟨_,_,_,_,_,_,_,rfl,w50,.inl ⟨rfl,rfl⟩⟩;rcases hacc with⟨h13,hz0⟩|⟨id,h13,hid,hlt,hne⟩
 .simp only at h13
  have hap:∀(x y:Int) (g:G),g (nx+1)=some (.row 63 7 [.agg [sV h,iV p,sV t,sV r,iV f,Qaa x,Qaa y]] false)->a0M P0 g (nx+2) 25 25 .nils (.row (nx+1) 7 0 1)=some {v:= .row (nx+2) 7 0 1,upd:=[(nx+2,some (.row 63 7 [.agg [sV h,iV p,sV t,sV r,iV f,Qaa x,Qaa y]] false))],cnt:=1}:=λ x y g g1=>
   Qce (ys:=[.agg [sV h,iV p,sV t,sV r,iV f,Qaa x,Qaa y]]) (by simp[a4j,a4Q,g1]) (by intro y' hy2;rw[az7.1 hy2];exact⟨_,_,_,_,_,_,_,rfl⟩) (by simp) (by simp)
  have hapA:=hap 1125899906842624 0;have hapB:=hap 0 now;clear hap;cases ev with
  |false=>
   have key:Qdm s now later L ms i (a0K P0 call n Qde {env:=e,h:=hh,nx:=nx,sz:=81}) λ st1=>T.get 8 st1.env 13= .row (nx+2) 7 0 (zs.length+1)/\a0b st1.h (nx+2)=some (.row 63 7 (zs++[.agg [sV h,iV p,sV t,sV r,iV f,Qaa 1125899906842624,Qaa 0]]) false)/\nx+2<st1.nx:=by
    unfold Qam at*;simp[Qdm,e1,e2,e9,e10,e33,e34,e35,h13,hil,hy',hr,hq,n0,hw,hapA,hz0]
   obtain⟨st1,k0,k1,k2,k3,k4,k5,k6,k7,k8,k9,k10,k11⟩:=key;exact⟨st1,_,k0,grow E50 k1 k2 k3 k4 k5 k6 k7 k8 k9 k10 k11,l1 _⟩
  |true=>
   by_cases hn0:now=0
   .have key:Qdm s now later L ms i (a0K P0 call n Qde {env:=e,h:=hh,nx:=nx,sz:=81}) λ st1=>T.get 8 st1.env 13= .nils:=by
     unfold Qam at*;subst hn0;simp[Qdm,e1,e2,e9,e10,e33,e34,e35,h13,hil,hy',hr,hq,n0,hw]
    obtain⟨st1,k0,k1,k2,k3,k4,k5,k6,k7,k8,k9⟩:=key;exact⟨st1,zs,k0,⟨k1,k2,k3,k4,k5,k6,k7,by rw[k8];rfl,.inl ⟨k9,hz0⟩,hE⟩,by omega⟩
   .have En:Qdi now (Qam h p t r f 0 now):=⟨_,_,_,_,_,_,_,rfl,wn,.inr ⟨rfl,rfl,hn0⟩⟩
    have key:Qdm s now later L ms i (a0K P0 call n Qde {env:=e,h:=hh,nx:=nx,sz:=81}) λ st1=>T.get 8 st1.env 13= .row (nx+2) 7 0 (zs.length+1)/\a0b st1.h (nx+2)=some (.row 63 7 (zs++[.agg [sV h,iV p,sV t,sV r,iV f,Qaa 0,Qaa now]]) false)/\nx+2<st1.nx:=by
     unfold Qam at*;have hnb:(now !=0)=true:=by simpa using hn0
     simp[Qdm,e1,e2,e9,e10,e33,e34,e35,h13,hil,hy',hr,hq,n0,hw,hapB,hz0,hnb]
    obtain⟨st1,k0,k1,k2,k3,k4,k5,k6,k7,k8,k9,k10,k11⟩:=key;exact⟨st1,_,k0,grow En k1 k2 k3 k4 k5 k6 k7 k8 k9 k10 k11,l1 _⟩
 .simp only at h13 hid hlt
  have n1:¬id=nx:=by omega
  have n2:¬id=nx+1:=by omega
  have n4:¬nx=id:=by omega
  have n5:¬nx+1=id:=by omega
  have hap:∀(x y:Int) (g:G),g (nx+1)=some (.row 63 7 [.agg [sV h,iV p,sV t,sV r,iV f,Qaa x,Qaa y]] false)->g id=some (.row 63 7 zs false)->a0M P0 g (nx+2) 25 25 (.row id 7 0 zs.length) (.row (nx+1) 7 0 1)=some {v:= .row (nx+2) 7 0 (zs.length+1),upd:=[(nx+2,some (.row 63 7 (zs++[.agg [sV h,iV p,sV t,sV r,iV f,Qaa x,Qaa y]]) false)),(id,none)],cnt:=1}:=λ x y g g1 g2=>
   Qcg (ys:=[.agg [sV h,iV p,sV t,sV r,iV f,Qaa x,Qaa y]]) (by simp[a4j,a4Q,g1]) (by intro y' hy2;rw[az7.1 hy2];exact⟨_,_,_,_,_,_,_,rfl⟩) g2 (by simp;omega)
  have hapA:=hap 1125899906842624 0;have hapB:=hap 0 now;clear hap;cases ev with
  |false=>
   have key:Qdm s now later L ms i (a0K P0 call n Qde {env:=e,h:=hh,nx:=nx,sz:=81}) λ st1=>T.get 8 st1.env 13= .row (nx+2) 7 0 (zs.length+1)/\a0b st1.h (nx+2)=some (.row 63 7 (zs++[.agg [sV h,iV p,sV t,sV r,iV f,Qaa 1125899906842624,Qaa 0]]) false)/\nx+2<st1.nx:=by
    unfold Qam at*;simp[Qdm,e1,e2,e9,e10,e33,e34,e35,h13,hil,hy',hr,hq,n0,hw,hapA,hid,n1,n2,n4,n5]
   obtain⟨st1,k0,k1,k2,k3,k4,k5,k6,k7,k8,k9,k10,k11⟩:=key;exact⟨st1,_,k0,grow E50 k1 k2 k3 k4 k5 k6 k7 k8 k9 k10 k11,l1 _⟩
  |true=>
   by_cases hn0:now=0
   .have key:Qdm s now later L ms i (a0K P0 call n Qde {env:=e,h:=hh,nx:=nx,sz:=81}) λ st1=>T.get 8 st1.env 13= .row id 7 0 zs.length/\a0b st1.h id=some (.row 63 7 zs false)/\id<st1.nx:=by
     unfold Qam at*;subst hn0;simp[Qdm,e1,e2,e9,e10,e33,e34,e35,h13,hil,hy',hr,hq,n0,hw,hid,n1,n2,n4,n5];omega
    obtain⟨st1,k0,k1,k2,k3,k4,k5,k6,k7,k8,k9,k10,k11⟩:=key;exact⟨st1,zs,k0,⟨k1,k2,k3,k4,k5,k6,k7,by rw[k8];rfl,.inr ⟨id,k9,k10,k11,hne⟩,hE⟩,by omega⟩
   .have En:Qdi now (Qam h p t r f 0 now):=⟨_,_,_,_,_,_,_,rfl,wn,.inr ⟨rfl,rfl,hn0⟩⟩
    have key:Qdm s now later L ms i (a0K P0 call n Qde {env:=e,h:=hh,nx:=nx,sz:=81}) λ st1=>T.get 8 st1.env 13= .row (nx+2) 7 0 (zs.length+1)/\a0b st1.h (nx+2)=some (.row 63 7 (zs++[.agg [sV h,iV p,sV t,sV r,iV f,Qaa 0,Qaa now]]) false)/\nx+2<st1.nx:=by
     unfold Qam at*;have hnb:(now !=0)=true:=by simpa using hn0
     simp[Qdm,e1,e2,e9,e10,e33,e34,e35,h13,hil,hy',hr,hq,n0,hw,hapB,hid,n1,n2,n4,n5,hnb]
    obtain⟨st1,k0,k1,k2,k3,k4,k5,k6,k7,k8,k9,k10,k11⟩:=key;exact⟨st1,_,k0,grow En k1 k2 k3 k4 k5 k6 k7 k8 k9 k10 k11,l1 _⟩
end
theorem Qdo:a4h P0 56=some (.agg [iV 0,iV 0,sV ⟨#[]⟩,sV ⟨#[]⟩,iV 0,iV 0,sV ⟨#[]⟩,sV ⟨#[]⟩,iV 0,bV false,Qaa 0,.nils]):=by rfl
theorem Qdp{call:PV.Calls}{n:Nat}{s:ByteArray}{now later:Int}{L:V}{ms:List V}(hA:∀a∈ms,InD g0 N0 Qne a)(hn:0<=now/\now<=1099511627776)(hlen:ms.length<=1000):∀(m i:Nat) (zs:List V) (st:St),Qdl s now later L ms zs i st->i<=ms.length->zs.length<=i->ms.length-i<m->
  ∃st1 zs1,iter (a0K P0 call n Qde) m st=some (.exit 0,st1)/\Qdl s now later L ms zs1 ms.length st1/\zs1.length<=ms.length
 |0,_,_,_,_,_,_,hm=>by omega
 |m+1,i,zs,st,hl,hi,hz,hm=>by
  by_cases e:i=ms.length
  .subst e
   obtain⟨e,hh,nx,sz⟩:=st;obtain⟨h1,e1,e2,e9,e10,e33,e34,e35,hacc,hE⟩:=hl;simp only at h1 e1 e2 e9 e10 e33 e34 e35;subst h1;refine⟨{env:=T.put 8 e 36 (bV false),h:=hh,nx:=nx,sz:=81},zs,?_,?_,hz⟩
   .simp[a0K,a0I,a0v,a0V,a1h,a1F,opE,ev,a2H,St.get,St.put,tgp,a0b,a1w,a0Z,sc,iter,Qde,Tryz.f5,e34,e35,a2f am5]
   .have hg:∀j,j≠36->j<256->T.get 8 (T.put 8 e 36 (bV false)) j=T.get 8 e j:=λ j hj h2=>by rw[tgp (by omega) h2,ay9 hj]
    refine⟨rfl,?_,?_,?_,?_,?_,?_,?_,?_,hE⟩
    .exact(hg 1 (by decide) (by decide)).trans e1
    .exact(hg 2 (by decide) (by decide)).trans e2
    .exact(hg 9 (by decide) (by decide)).trans e9
    .exact(hg 10 (by decide) (by decide)).trans e10
    .exact(hg 33 (by decide) (by decide)).trans e33
    .exact(hg 34 (by decide) (by decide)).trans e34
    .exact(hg 35 (by decide) (by decide)).trans e35
    .rcases hacc with⟨k1,k2⟩|⟨id,k1,k2,k3,k4⟩
     .exact .inl ⟨(hg 13 (by decide) (by decide)).trans k1,k2⟩
     .exact .inr ⟨id,(hg 13 (by decide) (by decide)).trans k1,k2,k3,k4⟩
  .have hlt:i<ms.length:=by omega
   obtain⟨st1,zs1,h1,h2,h3⟩:=Qdn (call:=call) (n:=n) hl (At6 hlt) (hA _ (au2 hlt)) hn hlen hz;obtain⟨st2,zs2,h4,h5,h6⟩:=Qdp hA hn hlen m (i+1) zs1 st1 h2 (by omega) h3 (by omega);exact⟨st2,zs2,by simp only[iter,h1];exact h4,h5,h6⟩
section
attribute [local simp] a0K a0I a0v a0V a1h a1F opE ev evs evo a0D a2H a0u St.get St.put tgp tgl a1w a0Z sc a0W a1b a0E a6x lenOf a2u am5 Tryz.underlying23 Tryz.underlying25 Tryz.underlying56 a0b V.fit V.cells a5z anb a4Z bT storeAt setCells a0r Qal a1s Qms Qmt Qdo
def Qdq(sv ov:V)(now later:Int)(st:St):Prop:=st.sz=81/\T.get 8 st.env 0=sv/\T.get 8 st.env 1=Qaa now/\T.get 8 st.env 2=Qaa later/\T.get 8 st.env 3=ov
def Qdr(s:ByteArray)(now later:Int)(L M:V)(st:St):Prop:=st.sz=81/\T.get 8 st.env 1=Qaa now/\T.get 8 st.env 2=Qaa later/\T.get 8 st.env 9=sV s/\T.get 8 st.env 10=L/\T.get 8 st.env 12=M/\T.get 8 st.env 13= .nils
def Qds(s:ByteArray)(now later:Int)(L:V)(zs:List V)(st:St):Prop:=st.sz=81/\T.get 8 st.env 1=Qaa now/\T.get 8 st.env 2=Qaa later/\T.get 8 st.env 9=sV s/\T.get 8 st.env 10=L/\Qdj st zs
set_option maxHeartbeats 2000000 in
theorem Qdt{call:PV.Calls}{n:Nat}{sv ov L M v:V}{s s2:ByteArray}{now later:Int}{xs ms:List V}(hn:ms.length<n)(hsv:isD sv)(hov:isD ov)(i8:call.inl 8=none)(i9:call.inl 9=none)(i15:call.inl 15=none)(i19:call.inl 19=none)
  (c8:call.cbv 8 [] []=some (bV true,[])) (c9:call.cbv 9 [sv] []=some (.tup [sV s,L],[])) (c9':call.cbv 9 [ov] []=some (.tup [sV s2,M],[])) (hL:L= .nils/\xs=[]\/L= .sl none xs) (hM:M= .nils/\ms=[]\/M= .sl none ms)
  (hA:∀a∈xs,Qar a) (hlen:xs.length<=1000) (hMA:∀a∈ms,InD g0 N0 Qne a) (hmlen:ms.length<=1000) (h0:0<=now) {a b e f i k:Int} {c d g h:ByteArray} {j:Bool} {tr:V} (hve:v=Qmr a b c d e f g h i j k tr) (hT:tr= .nils\/∃ys,tr= .sl none ys) (hv:pD v)
  (c15:call.cbv 15 [L,Qaa (now.tmod 1099511627776),sV s] []=some (v,[])) (c15':call.cbv 15 [L,Qaa (later.tmod 1099511627776),sV s] []=some (v,[]))
  (c15'':∀zs:List V,zs.length<=ms.length->(∀z∈zs,Qdi (now.tmod 1099511627776) z)->∀q,call.cbv 15 [if zs++xs=[]then .nils else .sl none (zs++xs),Qaa (now.tmod 1099511627776),sV s] []=some q->q=(v,[])) (c19:call.cbv 19 [v,v] []=some (bV true,[])) {r:V×List (List V)}
  (hb:a7O P0 call n 5 [sv,Qaa now,Qaa later,ov] []=some r):r=(bV true,[]):=by
 have hLD:isD L:=by rcases hL with⟨rfl,_⟩|rfl<;>first|exact a6n|exact b4K
 have hMD:isD M:=by rcases hM with⟨rfl,_⟩|rfl<;>first|exact a6n|exact b4K
 have rB:∀(g:G) (nx:Nat),a5t 5 g nx (bV true)=some (bV true,[],[]):=λ g nx=>b1O (by rfl) (d0n (b9J a9t));have d8:∀(g:G) (nx:Nat),a1q call.cbv g nx 8 []=some {v:=bV true}:=λ g nx=>b1v d2G c8 (d0n (b9J a9t));have d9:∀(g:G) (nx:Nat),a1q call.cbv g nx 9 [sv]=some {v:= .tup [sV s,L]}:=λ g nx=>b1v (all_cons (b9J hsv) d2G) c9 (d4t (all_cons (b9J c3R) (all_cons (b9J hLD) d2G)));have d9':∀(g:G) (nx:Nat),a1q call.cbv g nx 9 [ov]=some {v:= .tup [sV s2,M]}:=λ g nx=>b1v (all_cons (b9J hov) d2G) c9' (d4t (all_cons (b9J c3R) (all_cons (b9J hMD) d2G)));have d15:∀(g:G) (nx:Nat),a1q call.cbv g nx 15 [L,Qaa (now.tmod 1099511627776),sV s]=some {v:=v}:=λ g nx=>b1v (all_cons (b9J hLD) (all_cons (b9J a6N) (all_cons (b9J c3R) d2G))) c15 (d0n hv);have d15':∀(g:G) (nx:Nat),a1q call.cbv g nx 15 [L,Qaa (later.tmod 1099511627776),sV s]=some {v:=v}:=λ g nx=>b1v (all_cons (b9J hLD) (all_cons (b9J a6N) (all_cons (b9J c3R) d2G))) c15' (d0n hv);have d19:∀(g:G) (nx:Nat),a1q call.cbv g nx 19 [v,v]=some {v:=bV true}:=λ g nx=>b1v (all_cons hv (all_cons hv d2G)) c19 (d0n (b9J a9t));have hr1:∀x y,a3w P0 .rem 23 x y (Qaa now) (Qaa 1099511627776)=some (Qaa (now.tmod 1099511627776)):=λ x y=>Qca Tryz.underlying23 (by omega);have hr2:∀x y,a3w P0 .rem 23 x y (Qaa later) (Qaa 1099511627776)=some (Qaa (later.tmod 1099511627776)):=λ x y=>Qca Tryz.underlying23 (by omega);have m0:0<=now.tmod 1099511627776:=Int.tmod_nonneg _ h0;have m1:now.tmod 1099511627776<1099511627776:=Int.tmod_lt_of_pos _ (by omega);generalize now.tmod 1099511627776=now' at*;generalize later.tmod 1099511627776=later' at*;have hfn:P0.funcs[5]?=some Tryz.f5:=Tryz.func5;have hm:max ([sv,Qaa now,Qaa later,ov]:List V).length Tryz.f5.ntmps=81:=by simp[Tryz.f5]
 have fin:∀{c:Code} {st:St},Tryz.f5.body=some c->a0K P0 call n c {env:=a0u [sv,Qaa now,Qaa later,ov] 0 .leaf,h:=[],nx:=0,sz:=81}=some (.ret,st)->T.get 8 st.env 8=bV true->a7O P0 call n 5 [sv,Qaa now,Qaa later,ov] []=some (bV true,[]):=by
  intro c st hc he hg;unfold a7O;simp only[Az0,hfn,az1,hc,a0w,List.length_nil,hm,he];have hr:a0m P0 Tryz.f5 st=some (bV true):=by simp[a0m,Tryz.f5,a0D,St.get,hg]
  simp only[hr,az1,rB,am3,a0G];rfl
 have fin0:∀{c:Code},Tryz.f5.body=some c->a0K P0 call n c {env:=a0u [sv,Qaa now,Qaa later,ov] 0 .leaf,h:=[],nx:=0,sz:=81}=none->False:=by
  intro c hc he;unfold a7O at hb;simp only[Az0,hfn,az1,hc,a0w,List.length_nil,hm,he,Option.bind_none]at hb;cases hb
 suffices hs:a7O P0 call n 5 [sv,Qaa now,Qaa later,ov] []=some (bV true,[])by
  rw[hs]at hb;exact(ax8 hb).symm
 have hX:∃r0 r1 r2 r3 r4 r5 r6 r7 r16 r17,Tryz.f5.body=some (.seq (.region 0 r0 false) (.seq (.seq (.region 1 r1 false) (.cond (.tmp 18) (.seq (.region 2 r2 false) .ret) .skip)) (.seq (.region 3 r3 false) (.seq (.region 4 r4 false) (.seq (.region 5 r5 false) (.seq (.region 6 r6 false) (.seq (.seq (.region 7 r7 false) (.block 0 (.loop Qde))) (.seq (.region 16 r16 false) (.seq (.region 17 r17 true) .ret)))))))))/\
   (∃s0 s1,a0K P0 call n (.region 0 r0 false) {env:=a0u [sv,Qaa now,Qaa later,ov] 0 .leaf,h:=[],nx:=0,sz:=81}=some (.normal,s0)/\a0K P0 call n (.seq (.region 1 r1 false) (.cond (.tmp 18) (.seq (.region 2 r2 false) .ret) .skip)) s0=some (.normal,s1)/\Qdq sv ov now later s1)/\
   (∀st,Qdq sv ov now later st->∃s3 s4 s5 s6,a0K P0 call n (.region 3 r3 false) st=some (.normal,s3)/\a0K P0 call n (.region 4 r4 false) s3=some (.normal,s4)/\a0K P0 call n (.region 5 r5 false) s4=some (.normal,s5)/\a0K P0 call n (.region 6 r6 false) s5=some (.normal,s6)/\Qdr s now' later' L M s6)/\
   (∀st,Qdr s now' later' L M st->M= .nils->∃st1,a0K P0 call n (.seq (.region 7 r7 false) (.block 0 (.loop Qde))) st=some (.normal,st1)/\Qds s now' later' L [] st1)/\
   (∀st,Qdr s now' later' L M st->M= .sl none ms->∃st1,a0K P0 call n (.region 7 r7 false) st=some (.normal,st1)/\Qdl s now' later' L ms [] 0 st1)/\
   (∀st zs,Qds s now' later' L zs st->zs.length<=ms.length->(∀z∈zs,Qdi now' z)->a0K P0 call n (.seq (.region 16 r16 false) (.seq (.region 17 r17 true) .ret)) st=none\/∃st1,a0K P0 call n (.seq (.region 16 r16 false) (.seq (.region 17 r17 true) .ret)) st=some (.ret,st1)/\T.get 8 st1.env 8=bV true):=by
  refine⟨_,_,_,_,_,_,_,_,_,_,rfl,?_,?_,?_,?_,?_⟩
  .simp[Qdq,i8,d8]
  .rintro⟨e,hh,nx,sz⟩ ⟨h1,h2,h3,h4,h5⟩
   simp only at h1 h2 h3 h4 h5;subst h1;simp[h2,h3,h4,h5,i9,d9,d9',hr1,hr2,Qdr]
  .rintro⟨e,hh,nx,sz⟩ ⟨h1,h2,h3,h4,h5,h6,h7⟩ hMn
   simp only at h1 h2 h3 h4 h5 h6 h7;subst h1;subst hMn;obtain⟨m,rfl⟩:∃m,n=m+1:=⟨n-1,by omega⟩;simp[h2,h3,h4,h5,h6,h7,Qds,Qdj,iter,Qde,Tryz.f5,a2f am5]
  .rintro⟨e,hh,nx,sz⟩ ⟨h1,h2,h3,h4,h5,h6,h7⟩ hMn
   simp only at h1 h2 h3 h4 h5 h6 h7;subst h1;subst hMn;simp[h2,h3,h4,h5,h6,h7,Qdl,Qdj]
  .rintro⟨e,hh,nx,sz⟩ zs ⟨h1,h2,h3,h4,h5,hacc⟩ hzl hE
   simp only at h1 h2 h3 h4 h5;subst h1;have cz:=c15'' zs hzl hE;have hsrc:∀g:G,a4j g L=some xs:=λ g=>by rcases hL with⟨rfl,rfl⟩|rfl<;>simp[a4j,a4Q]
   have hz:∀z∈zs++xs,Qar z:=by
    intro z hz;rcases ax1.1 hz with hz|hz
    .obtain⟨h,p,t,r,f,x,y,rfl,_⟩:=hE z hz
     exact⟨_,_,_,_,_,_,_,rfl⟩
    .exact hA z hz
   rcases hacc with⟨h13,rfl⟩|⟨id,h13,hid,hlt,hne⟩
   .simp only[ao8]at h13 cz hz
    by_cases hx:xs=[]
    .rw[ax3 hx]at cz
     have hap:∀(g:G) (k:Nat),a0M P0 g k 25 25 .nils L=some {v:= .nils,cnt:=1}:=λ g k=>Qcf (by rw[hsrc g,hx]);cases hq:call.cbv 15 [.nils,Qaa now',sV s] []with
     |none=>
      refine .inl ?_;have d15z:∀(g:G) (nx:Nat),a1q call.cbv g nx 15 [.nils,Qaa now',sV s]=none:=λ g nx=>Qcl (all_cons (b9J a6n) (all_cons (b9J a6N) (all_cons (b9J c3R) d2G))) hq;unfold Qmr at hve;subst hve;rcases hT with rfl|⟨ys,rfl⟩<;>simp[h2,h3,h4,h5,h13,i15,i19,d15,d15',d15z,d19,hap]
     |some q=>
     have cz:=(hq.trans (an8 some (cz q hq)));refine .inr ?_;have d15z:∀(g:G) (nx:Nat),a1q call.cbv g nx 15 [.nils,Qaa now',sV s]=some {v:=v}:=λ g nx=>b1v (all_cons (b9J a6n) (all_cons (b9J a6N) (all_cons (b9J c3R) d2G))) cz (d0n hv);unfold Qmr at hve;subst hve;rcases hT with rfl|⟨ys,rfl⟩<;>simp[h2,h3,h4,h5,h13,i15,i19,d15,d15',d15z,d19,hap]
    .rw[ay9 hx]at cz
     have hap:∀(g:G) (k:Nat),a0M P0 g k 25 25 .nils L=some {v:= .row k 7 0 xs.length,upd:=[(k,some (.row 63 7 xs false))],cnt:=1}:=λ g k=>Qce (hsrc g) hz hx (by omega);cases hq:call.cbv 15 [.sl none xs,Qaa now',sV s] []with
     |none=>
      refine .inl ?_;have d15z:∀(g:G) (nx id2:Nat),g id2=some (.row 63 7 xs false)->a1q call.cbv g nx 15 [.row id2 7 0 xs.length,Qaa now',sV s]=none:=λ g nx id2 hg=>Qck hg hz (all_cons (b9J a6N) (all_cons (b9J c3R) d2G)) hq;unfold Qmr at hve;subst hve;rcases hT with rfl|⟨ys,rfl⟩<;>simp[h2,h3,h4,h5,h13,i15,i19,d15,d15',d15z,d19,hap]
     |some q=>
     have cz:=(hq.trans (an8 some (cz q hq)));refine .inr ?_;have d15z:∀(g:G) (nx id2:Nat),g id2=some (.row 63 7 xs false)->a1q call.cbv g nx 15 [.row id2 7 0 xs.length,Qaa now',sV s]=some {v:=v,upd:=[(id2,some (.row 63 7 xs true))]}:=λ g nx id2 hg=>Qcj hg hz (all_cons (b9J a6N) (all_cons (b9J c3R) d2G)) cz (d0n hv);unfold Qmr at hve;subst hve;rcases hT with rfl|⟨ys,rfl⟩<;>simp[h2,h3,h4,h5,h13,i15,i19,d15,d15',d15z,d19,hap]
   .simp only at h13 hid hlt
    have n1:¬id=nx:=by omega
    have n2:¬id=nx+1:=by omega
    have n4:¬nx=id:=by omega
    have n5:¬nx+1=id:=by omega
    rw[ay9 (by intro e0;exact hne (List.append_eq_nil_iff.1 e0).1)]at cz;have hap:∀(g:G) (k:Nat),g id=some (.row 63 7 zs false)->a0M P0 g k 25 25 (.row id 7 0 zs.length) L=some {v:= .row k 7 0 (zs.length+xs.length),upd:=[(k,some (.row 63 7 (zs++xs) false)),(id,none)],cnt:=1}:=λ g k hg=>Qcg (hsrc g) hA hg (by omega);cases hq:call.cbv 15 [.sl none (zs++xs),Qaa now',sV s] []with
    |none=>
     refine .inl ?_;have d15z:∀(g:G) (nx id2:Nat),g id2=some (.row 63 7 (zs++xs) false)->a1q call.cbv g nx 15 [.row id2 7 0 (zs.length+xs.length),Qaa now',sV s]=none:=λ g nx id2 hg=>by
      rw[<-ar0];exact Qck hg hz (all_cons (b9J a6N) (all_cons (b9J c3R) d2G)) hq
     unfold Qmr at hve;subst hve;rcases hT with rfl|⟨ys,rfl⟩<;>simp[h2,h3,h4,h5,h13,hid,n1,n2,n4,n5,i15,i19,d15,d15',d15z,d19,hap]
    |some q=>
    have cz:=(hq.trans (an8 some (cz q hq)));refine .inr ?_;have d15z:∀(g:G) (nx id2:Nat),g id2=some (.row 63 7 (zs++xs) false)->a1q call.cbv g nx 15 [.row id2 7 0 (zs.length+xs.length),Qaa now',sV s]=some {v:=v,upd:=[(id2,some (.row 63 7 (zs++xs) true))]}:=λ g nx id2 hg=>by
     rw[<-ar0];exact Qcj hg hz (all_cons (b9J a6N) (all_cons (b9J c3R) d2G)) cz (d0n hv)
    unfold Qmr at hve;subst hve;rcases hT with rfl|⟨ys,rfl⟩<;>simp[h2,h3,h4,h5,h13,hid,n1,n2,n4,n5,i15,i19,d15,d15',d15z,d19,hap]
 obtain⟨r0,r1,r2,r3,r4,r5,r6,r7,r16,r17,hbo,⟨s0,s1,a0,a1,pa1⟩,hB,hC0,hC1,hD⟩:=hX;obtain⟨s3,s4,s5,s6,k3,k4,k5,k6,pb⟩:=hB s1 pa1;have hE:∃s7 zs,a0K P0 call n (.seq (.region 7 r7 false) (.block 0 (.loop Qde))) s6=some (.normal,s7)/\Qds s now' later' L zs s7/\zs.length<=ms.length/\∀z∈zs,Qdi now' z:=by
  rcases hM with⟨hM,hm0⟩|hM
  .obtain⟨s7,k7,pc⟩:=hC0 s6 pb hM
   exact⟨s7,[],k7,pc,aw7 _,λ _ h=>(by cases h)⟩
  .obtain⟨s7,k7,li⟩:=hC1 s6 pb hM
   obtain⟨s8,zs,k8,li2,hz⟩:=Qdp (call:=call) (n:=n) hMA ⟨m0,by omega⟩ hmlen n 0 [] s7 li (by omega) (by simp) (by omega);obtain⟨q1,q2,q3,q4,q5,_,_,_,q6,q7⟩:=li2;exact⟨s8,zs,by rw[Qmi k7,Qmj k8],⟨q1,q2,q3,q4,q5,q6⟩,hz,q7⟩
 obtain⟨s7,zs,k7,pc,hz,hE⟩:=hE;rcases hD s7 zs pc hz hE with k9|⟨s9,k9,k10⟩
 .refine(fin0 hbo ?_).elim
  rw[Qmi a0,Qmi a1,Qmi k3,Qmi k4,Qmi k5,Qmi k6,Qmi k7];exact k9
 refine fin (st:=s9) hbo ?_ k10;rw[Qmi a0,Qmi a1,Qmi k3,Qmi k4,Qmi k5,Qmi k6,Qmi k7];exact k9
end
abbrev Qdu:TD:= .sl false 9223372036854775807 (.int .u8 0 255)
theorem Qdv{oh tt:ByteArray}{op n m:Int}{a:V}(h:InD g0 N0 Qlq a)(hn:0<=n)(hm:0<=m):Qbm oh op tt n a=Qbm oh op tt m a:=by
 have h1:=Qlr h;obtain⟨hh,p,t,r,f,x,y,rfl,_,_⟩:=Qbo h1;have e:x=0/\y=0:=by
  unfold Qlq Qam at h;cases h with
  |agg k1 k2=>
   have a5:=k2 5 _ _ rfl rfl;have a6:=k2 6 _ _ rfl rfl;cases a5 with|int b1 b2=>cases a6 with|int b3 b4=>grind
 obtain⟨rfl,rfl⟩:=e;grind[Qam,Qbm,Qan]
theorem Qdw{oh tt:ByteArray}{op n:Int}{z:V}(h:Qdi n z)(hn:0<=n/\n<=1099511627776):Qbm oh op tt n z=false:=by
 obtain⟨hh,p,t,r,f,x,y,rfl,_,⟨rfl,rfl⟩|⟨rfl,rfl,_⟩⟩:=h;all_goals grind[Qam,Qbm,Qan]
theorem Qdx{v:V}(h:Qco v):∃a b c d e f g h' i j k tr,v=Qmr a b c d e f g h' i j k tr/\(tr= .nils\/∃ys,tr= .sl none ys):=by
 obtain⟨cs,rfl,h1,h2⟩:=b7J h
 match cs,h1 with
 |[c0,c1,c2,c3,c4,c5,c6,c7,c8,c9,c10,c11],_=>
  have m0:=h2 0 _ c0 rfl rfl;have m1:=h2 1 _ c1 rfl rfl;have m2:=h2 2 _ c2 rfl rfl;have m3:=h2 3 _ c3 rfl rfl;have m4:=h2 4 _ c4 rfl rfl;have m5:=h2 5 _ c5 rfl rfl;have m6:=h2 6 _ c6 rfl rfl;have m7:=h2 7 _ c7 rfl rfl;have m8:=h2 8 _ c8 rfl rfl;have m9:=h2 9 _ c9 rfl rfl;have m10:=h2 10 _ c10 rfl rfl;have m11:InD g0 N0 (.sl false 64 Qcm) c11:=h2 11 _ c11 rfl rfl;cases m0 with|int _ _=>cases m1 with|int _ _=>cases m2 with|str _=>cases m3 with|str _=>cases m4 with|int _ _=>cases m5 with|int _ _=>cases m6 with|str _=>cases m7 with|str _=>cases m8 with|int _ _=>cases m9 with|bool=>cases m10 with|int _ _=>
  exact⟨_,_,_,_,_,_,_,_,_,_,_,c11,rfl,by cases m11<;>simp⟩
theorem Qdy{a b:V×V}(ha:Wd a)(hb:Wd b)(hask:∀u r r',Qnt u->Qnd 124 [a.1,u,a.2] r->Qnd 124 [b.1,u,b.2] r'->r=r'){s:ByteArray}(hs:s.size<=1048576){v:V}(hv:Qnd 15 [a.1,a.2,sV s] v):Qnd 15 [b.1,b.2,sV s] v:=by
 obtain⟨w,hw,_⟩:=Qcs hb hs;rw[Qoa ha hb hask hs hv hw];exact hw
theorem Qdz{sv ov:V}{now later:Int}(hs:InD g0 N0 Qdu sv)(ho:InD g0 N0 Qdu ov)(hn0:0<=now)(hn1:now<=18446744073709551615)(hl0:0<=later)(hl1:later<=18446744073709551615):Qnd 5 [sv,Qaa now,Qaa later,ov] (bV true):=by
 obtain⟨w,hw,_⟩:=Qng (Qnh (i:=500) (k:=5) (by omega) rfl) (xs:=[.cell Qdu,.cell kU,.cell kU,.cell Qdu]) (ps:=[.td .bool]) (by decide +kernel) (vs:=[sv,Qaa now,Qaa later,ov])
  (ShL.cons.2 ⟨.td hs,ShL.cons.2 ⟨.td (.int hn0 hn1),ShL.cons.2 ⟨.td (.int hl0 hl1),ShL.cons.2 ⟨.td ho,ShL.nil⟩⟩⟩⟩)
 obtain⟨M8,h8⟩:Qnd 8 [] (bV true):=a68.2;obtain⟨s,L,⟨M9,h9⟩,hss,xs,hL,hx0,hlen⟩:=Qlt hs;obtain⟨s2,M,⟨Mo,ho9⟩,_,ms,hM,hm0,hmlen⟩:=Qlt ho;have hx:∀a∈xs,InD g0 N0 Qne a:=λ a ha=>Qlr (hx0 a ha);have hm:∀a∈ms,InD g0 N0 Qne a:=λ a ha=>Qlr (hm0 a ha);have t0:0<=now.tmod 1099511627776:=Int.tmod_nonneg _ hn0;have t1:now.tmod 1099511627776<1099511627776:=Int.tmod_lt_of_pos _ (by omega);have t2:0<=later.tmod 1099511627776:=Int.tmod_nonneg _ hl0;have t3:later.tmod 1099511627776<1099511627776:=Int.tmod_lt_of_pos _ (by omega);have wa:=Qlu (now:=now.tmod 1099511627776) hL hx (by omega) t0 (by omega);have wb:=Qlu (now:=later.tmod 1099511627776) hL hx (by omega) t2 (by omega);obtain⟨v,hv,hvV⟩:=Qcs wa (s:=s) (by omega);have hvb:=Qdy wa wb (λ u r r' hu h1 h2=>by
  obtain⟨vb,oh,tt,op,hk⟩:=Qbw hu;rw[hk L xs _ hL hx (by omega) t0 (by omega) r h1,hk L xs _ hL hx (by omega) t2 (by omega) r' h2];grind[Qlp,Qdv]) (s:=s) (by omega) hv
 have hvc:∀zs:List V,zs.length<=ms.length->(∀z∈zs,Qdi (now.tmod 1099511627776) z)->Qnd 15 [if zs++xs=[]then .nils else .sl none (zs++xs),Qaa (now.tmod 1099511627776),sV s] v:=by
  intro zs hzl hE;have hB:∃(B:V),B=(if zs++xs=[]then V.nils else V.sl none (zs++xs))/\(B=V.nils/\zs++xs=[]\/B=V.sl none (zs++xs)):=by
   by_cases h:zs++xs=[]
   .grind
   .grind
  obtain⟨B,hBe,hBf⟩:=hB;have hzx:∀a∈zs++xs,InD g0 N0 Qne a:=by
   intro a ha;rcases ax1.1 ha with ha|ha
   .obtain⟨_,_,_,_,_,_,_,_,h,_⟩:=hE a ha
    exact h
   .grind
  have hzl2:(zs++xs).length<=60:=by rw[ar0];omega
  have wc:=Qlu (now:=now.tmod 1099511627776) hBf hzx (by omega) t0 (by omega);rw[<-hBe];exact Qdy wa wc (λ u r r' hu h1 h2=>by
   obtain⟨vb,oh,tt,op,hk⟩:=Qbw hu;rw[hk L xs _ hL hx (by omega) t0 (by omega) r h1,hk B _ _ hBf hzx (by omega) t0 (by omega) r' h2];grind[Qlo,Qdw]) (s:=s) (by omega) hv
 obtain⟨M1,hv1⟩:=hv;obtain⟨M2,hv2⟩:=hvb;obtain⟨M3,h19⟩:=Qcr hvV;obtain⟨a,b,c,d,e,f,g,h',i,j,k,tr,hve,htr⟩:=Qdx hvV;obtain⟨N,k1,k2⟩:=a9P (m:=max M8 (max M9 (max Mo (max M1 (max M2 (max M3 31)))))) rfl hw;have k3:=Qdt (n:=N) (xs:=xs) (ms:=ms) (r:=(w,[])) (by omega) (Qlx hs) (Qlx ho) (a4G rfl) (a4G rfl) (a4G rfl) (a4G rfl) (Qbn h8 (by omega)) (Qbn h9 (by omega)) (Qbn ho9 (by omega)) hL hM (λ a ha=>Qlv (hx a ha)) (by omega) hm (by omega) hn0 hve htr (Qcq hvV) (Qbn hv1 (by omega)) (Qbn hv2 (by omega)) (λ zs hzl hE q hq=>by
   obtain⟨K,hK⟩:=hvc zs hzl hE;exact Qjn hq hK) (Qbn h19 (by omega)) k2
 grind
end
end Go.SB
