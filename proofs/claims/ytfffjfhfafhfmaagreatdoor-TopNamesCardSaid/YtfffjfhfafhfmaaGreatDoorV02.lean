import Derived.Test.YtfffjfhfafhfmaaGreatDoorV00
import Derived.Test.YtfffjfhfafhfmaaGreatDoorV01
import Derived.Orders
import Derived.Test.YtfffjfhfafhfmaaGreatDoorProg
import Derived.Shelf.Small.Strs
import Derived.Shelf.Strings.Search3
import Derived.Shelf.Strings.Cut
import Derived.Shelf.Strings.Split
import Derived.Shelf.Strings.Replace
import Derived.Shelf.Strings.OnBuilder
import Derived.Shelf.Strings.IndexAnyAll
import Derived.Shelf.Strings.Trim
import Derived.Shelf.Strings.FieldsFuncAny
import Derived.KernelRfl
import Derived.WalkSmall
import Derived.Lib.SplitLaws
import Derived.WalkKit
import Derived.WalkSpells
import Derived.WalkLawsBesides
import Derived.Lib.Hide
import Derived.Lib.FieldsP
import Derived.Shelf.Strings.BuilderF
import Derived.Shelf.Strings.AsciiSet
import Derived.Lib.ConvBytes
import Derived.Laws.IdiomStrings
import Derived.Below
import Derived.Lib.Bytealg
import Derived.Lib.Strings
import Derived.Laws.Strings
set_option linter.all false
namespace Go.PV
section
open Go.RowKit
section
variable {P:Program} {base:Nat} {C:List Nat} {D w:World} {M H M2:Mem} {μ F B:Pl} {g:G} {a:Act} {call:Calls}
def ArgLe(s b:List Nat×List Nat):Prop:=s.1⊆b.1/\s.2<+:b.2/\(s.2.Nodup->b.2.Nodup)
theorem ArgLe.refl(s:List Nat×List Nat):ArgLe s s:=⟨a1a _,Av8 _,λ h=>h⟩
theorem ArgLe.trans{a b c:List Nat×List Nat}(h:ArgLe a b)(k:ArgLe b c):ArgLe a c:=⟨aw3 h.1 k.1,Ay9 h.2.1 k.2.1,λ x=>k.2.2 (h.2.2 x)⟩
theorem a6f{g:G}:∀(d:Nat) (s:List Nat×List Nat) (v c:V) (e:List Nat×List Nat),a1y d g s v=some (c,e)->ArgLe s e
 |0,_,_,_,_,h=>by simp[a1y]at h
 |d+1,(ms,ps),v,c,e,h=>by
  have hm:∀{l r:List V} {i j:List Nat×List Nat},a0G (a1y d g) i l=some (r,j)->ArgLe i j:=
   λ h=>(a1C (le:=ArgLe) ArgLe.refl ArgLe.trans (a6f d) h).1
  have dat:(match a0C ED g ms v with
    |some (v,ms)=>some (v,ms,ps)
    |none=>none)=some (c,e)->ArgLe (ms,ps) e:=by
   intro h;split at h
   .next m k he=>
    simp only[az0,az8]at h;obtain⟨_,rfl⟩:=h;exact⟨a3N ED _ _ _ _ he,Av8 _,λ h=>h⟩
   .cases h
  simp only[a1y]at h;split at h
  .next id off=>
   split at h
   .cases h
   .split at h
    .simp only[az0,az8]at h;obtain⟨_,rfl⟩:=h;exact ArgLe.refl _
    .next hn=>
     simp only[az0,az8]at h;obtain⟨_,rfl⟩:=h;refine⟨a1a _,List.prefix_append _ _,λ hd=> ?_⟩;have:id∉ps:=by simpa[List.idxOf?_eq_none_iff]using hn
     exact Av4.2 ⟨hd,by simp,λ a ha b hb=>by simp at hb;subst hb;rintro rfl;exact this ha⟩
  .next f x y=>
   split at h
   .cases h
   .next l i h1=>
    split at h
    .cases h
    .next l2 j h2=>
     simp only[az0,az8]at h;obtain⟨_,rfl⟩:=h;exact(hm h1).trans (hm h2)
  .exact dat h
def c4i(μ B:Pl)(ps:List Nat):Prop:=∀(j id:Nat),ps[j]?=some id->B j=μ id
variable {id:Nat}
theorem b2g{l l':List Nat}{j:Nat}(h:l<+:l')(hj:l[j]?=some id):l'[j]?=some id:=by
 obtain⟨t,rfl⟩:=h;grind
variable {u:Value}
theorem c8I{off:Nat}(h:RepV M μ (.ptr id off) u):∃b cap,μ id=some (b,cap)/\u= .pointer (some ⟨b,off,none⟩):=by
 cases h with
 |rep h=>cases h
 |ptr h=>exact⟨_,_,h,rfl⟩
theorem b8l(hI:Inv base C D M μ g w){msF psF:List Nat}(hP:c4i μ B psF):∀(d:Nat) (s i:List Nat×List Nat) (v c:V) (u:Value),a1y d g s v=some (c,i)->i.1⊆msF->i.2<+:psF->
  RepV M μ v u->RepV (ext M μ g w msF) B c u
 |0,_,_,_,_,_,h,_,_,_=>by simp[a1y]at h
 |d+1,(ms,ps),i,v,c,u,h,hF,hQ,hr=>by
  have e:∀{l r:List V} {o k:List Nat×List Nat} {us:List Value},a0G (a1y d g) o l=some (r,k)->k.1⊆msF->k.2<+:psF->ListRep M μ l us->ListRep (ext M μ g w msF) B r us:=by
   intro l r o k us hm h1 h2 hl;obtain⟨_,k2,k3⟩:=a1C (le:=ArgLe) ArgLe.refl ArgLe.trans (a6f d) hm;refine⟨by rw[k2];exact hl.1,λ j x y hx hy=> ?_⟩;have m:j<l.length:=by rw[<-k2];exact(ay0.1 hx).1
   obtain⟨t1,t2,t,_,q⟩:=k3 j l[j] x (az5 m) hx;exact b8l hI hP d t1 t2 l[j] x y t (aw3 q.1 h1) (Ay9 q.2.1 h2) (hl.2 j l[j] y (az5 m) hy)
  have dat:(match a0C ED g ms v with
    |some (v,ms)=>some (v,ms,ps)
    |none=>none)=some (c,i)->RepV (ext M μ g w msF) B c u:=by
   intro h;split at h
   .next A z he=>
    simp only[az0,az8]at h;obtain⟨rfl,rfl⟩:=h;exact .rep (b4n hI ED _ _ msF v _ u he hF hr)
   .cases h
  simp only[a1y]at h;split at h
  .next id off=>
   split at h
   .cases h
   .next h0=>
    have h0:off=0:=by simpa using h0
    subst h0;obtain⟨b,cap,hp,rfl⟩:=c8I hr;split at h
    .next j hj=>
     simp only[az0,az8]at h;obtain⟨rfl,rfl⟩:=h;have p:ps[j]?=some id:=by
      obtain⟨h1,h2,_⟩:=At9.1 hj;rw[az5 h1,h2]
     exact .ptr (by rw[hP j id (b2g hQ p)];exact hp)
    .simp only[az0,az8]at h;obtain⟨rfl,rfl⟩:=h;exact .ptr (by rw[hP ps.length id (b2g hQ (by simp))];exact hp)
  .next f x y=>
   split at h
   .cases h
   .next l o h1=>
    split at h
    .cases h
    .next l2 k h2=>
     simp only[az0,az8]at h;obtain⟨rfl,rfl⟩:=h;obtain⟨X,Y,rfl,hX,hY⟩:=b2J hr;have n:=(a1C (le:=ArgLe) ArgLe.refl ArgLe.trans (a6f d) h2).1;have r1:=e h1 (aw3 n.1 hF) (Ay9 n.2.1 hQ) hX;have r2:=e h2 hF hQ hY;exact .fn (by simpa using r1.1) (by simpa using r2.1) (λ j c u a b=>r1.2 j c u a (by simpa using b)) (λ j c u a b=>r2.2 j c u a (by simpa using b))
  .exact dat h
variable {msF:List Nat} {s:List Nat×List Nat} {l:List V} {us:List Value}
theorem d1c(hI:Inv base C D M μ g w){psF:List Nat}(hP:c4i μ B psF){c:List Nat×List Nat}{r:List V}(h:a0G (a1y 4 g) s l=some (r,c))(hF:c.1⊆msF)(hQ:c.2<+:psF)
  (hl:ListRep M μ l us):ListRep (ext M μ g w msF) B r us:=by
 obtain⟨_,k2,k3⟩:=a1C (le:=ArgLe) ArgLe.refl ArgLe.trans (a6f 4) h;refine⟨by rw[k2];exact hl.1,λ j x y hx hy=> ?_⟩;have b:j<l.length:=by rw[<-k2];exact(ay0.1 hx).1
 obtain⟨t1,t2,e,_,d⟩:=k3 j l[j] x (az5 b) hx;exact b8l hI hP 4 t1 t2 l[j] x y e (aw3 d.1 hF) (Ay9 d.2.1 hQ) (hl.2 j l[j] y (az5 b) hy)
def a7h(M2:Mem)(μ:Pl)(g:G)(w:World)(id:Nat)(l:List V)(os:List (Option (Nat×Box))):Prop:=
 ∃b cap T d,μ id=some (b,cap)/\(∃cs,g id=some (.var cs))/\w.heap[b]?=some (.cells d T (0,0))/\os.length=l.length/\l.length=d.toList.length/\(∀c∈l,a0r c=true)/\
  (∀(j:Nat) (o:Option (Nat×Box)) (c:V) (u:Value),os[j]?=some o->l[j]?=some c->d.toList[j]?=some u->OutC M2 μ g w o c u)/\
  (∀(j:Nat) (u:Value),l[j]?=some (.dptr [])->d.toList[j]?=some u->u= .pointer (some ⟨b,0,none⟩))/\(bk l=true->T=bT)
theorem b7p(h:bk l=true):∃c,l=[.lit (.pointer none),c]:=by
 unfold bk at h;split at h
 .next c d=>
  unfold a4Z at h;split at h
  .exact⟨d,rfl⟩
  .cases h
 .cases h
variable {v:V}
theorem c4w{s:HP×Nat}(h:(a0J s v).1= .lit (.pointer none)):v= .lit (.pointer none):=by
 unfold a0J at h;split at h
 .cases h
 .exact h
variable {i:Nat}
theorem c3b(h:a0H i v= .lit (.pointer none)):v= .lit (.pointer none):=by
 unfold a0H at h;split at h
 .cases h
 .exact h
theorem c0d(h:a0S i v= .lit (.pointer none)):v= .lit (.pointer none):=by
 unfold a0S at h;split at h
 .split at h
  .cases h
  .cases h
 .exact h
theorem d3G{h:HP}{nx:Nat}{b:List V}(hb:bk ((a0f (h,nx) b).1.map (a0H i))=true):bk b=true:=by
 obtain⟨c,hc⟩:=b7p hb
 match b,hc with
 |[x,y],hc=>simp only[a0f,av2,Az2]at hc;have:=c4w (c3b hc.1);subst this;rfl
 |[],hc=>simp[a0f]at hc
 |[x],hc=>simp[a0f]at hc
 |x::y::z::l,hc=>simp[a0f]at hc
variable {E:List Nat×List Nat}
theorem c1j{g:G}(h:a0h g s v=some (.dptr [],E)):v= .dptr []:=by
 have no:∀{d:Nat} {ms ms':List Nat} {v:V},a0C d g ms v=some (.dptr [],ms')->False:=by
  intro d ms ms' v h;cases d with
  |zero=>simp[a0C]at h
  |succ d=>cases v<;>simp only[a0C]at h<;>(try cases h)<;>(repeat' split at h)<;>(try cases h)
 have datE:∀{v:V},(match a0C ED g s.1 v with
   |some (v,ms)=>some (v,ms,s.2)
   |none=>none)=some (.dptr [],E)->False:=by
  intro v h;split at h
  .next he=>
   simp only[az0,az8]at h;obtain⟨rfl,_⟩:=h;exact no he
  .cases h
 unfold a0h at h;split at h
 .split at h
  .split at h
   .split at h
    .simp at h
    .cases h
   .exact(datE h).elim
  .cases h
 .rfl
 .exact(datE h).elim
theorem c1u{g:G}(h:a0h g s v=some (.lit (.pointer none),E)):v= .lit (.pointer none):=by
 have no:∀{d:Nat} {ms ms':List Nat} {v:V},a0C d g ms v=some (.lit (.pointer none),ms')->v= .lit (.pointer none):=by
  intro d ms ms' v h;cases d with
  |zero=>simp[a0C]at h
  |succ d=>cases v<;>simp only[a0C]at h<;>(try cases h)<;>(repeat' split at h)<;>(try cases h)<;>rfl
 have datE:∀{v:V},(match a0C ED g s.1 v with
   |some (v,ms)=>some (v,ms,s.2)
   |none=>none)=some (.lit (.pointer none),E)->v= .lit (.pointer none):=by
  intro v h;split at h
  .next he=>
   simp only[az0,az8]at h;obtain⟨rfl,_⟩:=h;exact no he
  .cases h
 unfold a0h at h;split at h
 .split at h
  .split at h
   .split at h
    .simp at h
    .cases h
   .have:=datE h;cases this
  .cases h
 .simp at h
 .exact datE h
theorem d4G{g:G}{b:List Nat×List Nat}{cs:List V}(h:a0G (a0h g) s (cs.map (a0S id))=some (l,b))(hb:bk l=true):bk cs=true:=by
 obtain⟨_,k2,k3⟩:=a1C (le:=λ _ _:List Nat×List Nat=>True) (λ _=>av5) (λ _ _=>av5) (λ _ _ _ _ _=>av5) h;obtain⟨c,rfl⟩:=b7p hb;rw[ap3]at k2
 match cs,k2 with
 |[x,y],_=>obtain⟨t1,t2,d,_,_⟩:=k3 0 (a0S id x) _ rfl rfl;have:=c0d (c1u d);subst this;rfl
theorem c1A(h:a6J v=false)(e:a0S id v= .dptr []):v= .ptr id 0:=by
 unfold a0S at e;split at e
 .grind
 grind[a6J]
theorem b7D(h:RepV M μ v u):RepV M μ (a0S id v) u:=by
 unfold a0S;split
 .split
  .cases h with
   |rep h=>cases h
   |ptr h=>exact .dptr (λ _=>undef) rfl (λ j c hc=>by simp at hc) (λ j c hc=>by simp at hc) (λ c hc=>by simp at hc)
  .exact h
 .exact h
theorem c0J(h:a0r v=true):a0r (a0S id v)=true:=by
 unfold a0S;split
 .split<;>rfl
 .exact h
theorem c4Y(hI:Inv base C D M μ g w){i:List Nat×List Nat}(h:a1x g s id=some (l,i))(hF:i.1⊆msF):
  ∃os,a7h (ext M μ g w msF) μ g w id l os/\s.1⊆i.1/\i.2=(os.flatMap a2y).reverse++s.2/\(s.2.Nodup->i.2.Nodup):=by
 unfold a1x at h;split at h
 .next cs hg=>
  obtain⟨b,cap,hp⟩:=hI.pl hg;obtain⟨⟨T,k,hb,hc,m⟩,_⟩:=hI.at_ hg hp;split at h
  .cases h
  next d=>
  have d:∀c∈cs,a6J c=false:=λ c hc=>by
   cases hd:a6J c with
   |false=>rfl
   |true=>exact absurd (ar4.2 ⟨c,hc,hd⟩) d
  have n:CellsRep M μ (cs.map (a0S id)) k.toList:=⟨by rw[ap3];exact hc.1,λ c h=>by
   obtain⟨y,hy,rfl⟩:=ax5.1 h;exact c0J (hc.2.1 y hy),λ j c u h1 h2=>by
   rw[au3,az2]at h1;obtain⟨y,hy,rfl⟩:=h1;exact b7D (hc.2.2 j y u hy h2)⟩
  obtain⟨os,e1,e2,e0,e3,e4,e5,e6⟩:=a6M hI h hF n;refine⟨os,⟨b,cap,T,k,hp,⟨cs,hg⟩,hb,e1,e2,e0,e3,λ j u hj hu=> ?_,λ hl=>m (d4G h hl)⟩,e4,e5,e6⟩;obtain⟨_,k2,k3⟩:=a1C (le:=λ _ _:List Nat×List Nat=>True) (λ _=>av5) (λ _ _=>av5) (λ _ _ _ _ _=>av5) h;have e:j<cs.length:=by rw[<-ap3 (f:=a0S id),<-k2];exact(ay0.1 hj).1
  obtain⟨t1,t2,o,_,_⟩:=k3 j (a0S id cs[j]) _ (by rw[au3,az5 e];rfl) hj;have hs:=c1A (d _ (au2 e)) (c1j o);have hr:=hc.2.2 j cs[j] u (az5 e) hu;rw[hs]at hr;cases hr with
  |rep h=>cases h
  |ptr h=>
   rw[hp]at h;injection h with h;injection h with h1 h2;subst h1
   rfl
 .cases h
theorem a4N(hI:Inv base C D M μ g w){msF:List Nat}:∀{ps:List Nat} {bs:List (List V)} {s b:List Nat×List Nat},a0G (a1x g) s ps=some (bs,b)->b.1⊆msF->
  ∃oss:List (List (Option (Nat×Box))),oss.length=ps.length/\bs.length=ps.length/\(∀(j id:Nat) (l:List V) (os:List (Option (Nat×Box))),ps[j]?=some id->bs[j]?=some l->oss[j]?=some os->a7h (ext M μ g w msF) μ g w id l os)/\
   s.1⊆b.1/\b.2=(oss.flatten.flatMap a2y).reverse++s.2/\(s.2.Nodup->b.2.Nodup)
 |[],bs,s,b,h,_=>by
  simp only[a0G,az0,az8]at h;simp_all
 |id::ps,bs,s,b,h,hF=>by
  simp only[a0G]at h;split at h
  .cases h
  .next l k h1=>
   split at h
   .cases h
   .next c m h2=>
    simp only[az0,az8]at h;obtain⟨rfl,rfl⟩:=h;obtain⟨oss,e1,e2,e3,e4,e5,e6⟩:=a4N hI h2 hF;obtain⟨os,n,d,o,e⟩:=c4Y hI h1 (aw3 e4 hF);refine⟨os::oss,by simp[e1],by simp[e2],λ j f l' i k1 k2 k3=> ?_,aw3 d e4,?_,λ hn=>e6 (e hn)⟩;all_goals grind
theorem c2J{s:HP×Nat}{c:V}(h:(a0J s c).1= .dptr []):c= .dptr []:=by
 unfold a0J at h;grind
theorem a8a:∀{l:List V} {s:HP×Nat} {j:Nat},(a0f s l).1[j]?=some (.dptr [])->l[j]?=some (.dptr [])
 |[],_,_,h=>by simp[a0f]at h
 |c::l,s,0,h=>by
  grind[a0f,c2J]
 |c::l,s,j+1,h=>by
  simp only[a0f,ao1]at h;simpa using a8a h
theorem b9P{M2:Mem}{d:Pl}{k b cap:Nat}(hc:CellsRep M2 d l us)(hk:d k=some (b,cap))(hs:∀(j:Nat)(u:Value),l[j]?=some (.dptr [])->us[j]?=some u->u= .pointer (some ⟨b,0,none⟩)):CellsRep M2 d (l.map (a0H k)) us:=by
 refine⟨by rw[ap3];exact hc.1,λ c h=> ?_,λ j c u h1 h2=> ?_⟩
 .obtain⟨y,hy,rfl⟩:=ax5.1 h;unfold a0H;split
  .rfl
  .exact hc.2.1 y hy
 .rw[au3,az2]at h1;obtain⟨y,hy,rfl⟩:=h1;unfold a0H;split
  .rw[hs j u hy h2];exact .ptr hk
  .exact hc.2.2 j y u hy h2
theorem b2z:∀{bs:List (List V)} {ps:List Nat} {oss:List (List (Option (Nat×Box)))} {i:Nat} {h:HP} {nx:Nat},i+bs.length<=nx->oss.length=ps.length->bs.length=ps.length->
  (∀(j id:Nat) (l:List V) (os:List (Option (Nat×Box))),ps[j]?=some id->bs[j]?=some l->oss[j]?=some os->a7h M2 μ g w id l os)->
  ∃(L:List (Nat×Box)) (ls:List (List V)),L.map (·.1)=oss.flatten.flatMap a2y/\ls.length=bs.length/\(a0w i (h,nx) bs).2=nx+L.length/\(∀p∈L,b2D M2 μ g w p.1 p.2)/\
   (∀k,a0b (a0w i (h,nx) bs).1 k=if nx<=k/\k<nx+L.length then(L[k-nx]?).map (·.2)else if i<=k/\k<i+bs.length then(ls[k-i]?).map .var else a0b h k)/\
   ∀μ',Placed μ μ' L nx->(∀(j id:Nat),ps[j]?=some id->μ' (i+j)=μ id)->∀(j id:Nat) (l:List V),ps[j]?=some id->ls[j]?=some l->∃b cap,μ id=some (b,cap)/\(∃cs,g id=some (.var cs))/\BoxAt M2 μ' w b cap (.var l)
 |[],ps,oss,i,h,nx,_,h1,h2,_=>by
  have:ps=[]:=aw6 h2.symm;subst this;have:oss=[]:=aw6 h1;subst this;refine⟨[],[],rfl,rfl,rfl,λ p hp=>by simp at hp,λ k=> ?_,λ μ' _ _ j id l hj=>by simp at hj⟩;show a0b h k=_;grind
 |b::bs,ps,oss,i,h,nx,h0,h1,h2,h3=>by
  match ps,oss,h1,h2,h3 with
  |[],_,_,h2,_=>grind
  |_::_,[],h1,_,_=>grind
  |id::ps,os::oss,h1,h2,h3=>
   obtain⟨bb,cap,T,cur,v1,v2,v3,v4,v5,v0,v6,v7,v8⟩:=h3 0 id b os rfl rfl rfl;obtain⟨L1,a1,a2,a3⟩:=a6r (h:=h) (nx:=nx) v4 v5 v0 v6;have hnx:=a2.num;obtain⟨L2,ls,b1,b2,b3,b4,b5,b6⟩:=b2z (bs:=bs) (ps:=ps) (oss:=oss) (i:=i+1) (h:=(i,some (.var ((a0f (h,nx) b).1.map (a0H i))))::(a0f (h,nx) b).2.1) (nx:=(a0f (h,nx) b).2.2)
    (by grind) (by grind) (by grind) (λ j id l os k1 k2 k3=>h3 (j+1) id l os (by grind) (by grind) (by grind))
   have he:a0w i (h,nx) (b::bs)=a0w (i+1) ((i,some (.var ((a0f (h,nx) b).1.map (a0H i))))::(a0f (h,nx) b).2.1,(a0f (h,nx) b).2.2) bs:=rfl;refine⟨L1++L2,((a0f (h,nx) b).1.map (a0H i))::ls,by grind,by simp[b2],by grind,λ p hp=>(ax1.1 hp).elim (a2.rows p) (b4 p),λ k=> ?_,λ μ' hp hpi j id' l hj hl=> ?_⟩
   .rw[he,b5 k];simp only[ar0,an0]at h0|-;by_cases k1:(a0f (h,nx) b).2.2<=k/\k<(a0f (h,nx) b).2.2+L2.length
    .grind
    .rw[ay9 k1];by_cases k2:i+1<=k/\k<i+1+bs.length
     .grind
     .rw[ay9 k2];simp only[a0b];by_cases k3:k=i
      .grind
      .rw[ay9 k3,a2.get k];grind
   .cases j with
    |zero=>simp at hj hl;subst hj;subst hl;exact⟨bb,cap,v1,v2,T,cur,v3,b9P (a3 μ' hp.left) (by rw[<-v1];exact hpi 0 id rfl) λ j u hj hu=>v7 j u (a8a hj) hu,λ hl=>v8 (d3G hl)⟩
    |succ j=>exact b6 μ' (by rw[hnx];exact hp.right) (λ j id hj=>by have:=hpi (j+1) id (by grind);rwa [show i+1+j=i+(j+1)by omega]) j id' l (by grind) (by grind)
end
end
section
open Go.RowKit
variable {l:List Nat}
theorem b0R:l.reverse.Nodup↔l.Nodup:=by
 grind
theorem b1b(h:l.Nodup){i j:Nat}(hi:i<l.length)(hj:j<l.length)(e:l[i]=l[j]):i=j:=by
 grind[List.pairwise_iff_getElem]
def a3E:V->Nat
 | .agg _=>1
 | .tup _=>2
 |_=>0
variable {g:G} {c v:V}
theorem c5o{d:Nat}{ms b:List Nat}(h:a0C d g ms v=some (c,b)):a3E c=a3E v:=by
 cases d with
 |zero=>simp[a0C]at h
 |succ d=>
  cases v with
  |lit u=>simp only[a0C,az0,az8]at h;obtain⟨rfl,_⟩:=h;rfl
  |nils=>simp only[a0C,az0,az8]at h;grind
  |sl o xs=>simp only[a0C,az0,az8]at h;obtain⟨rfl,_⟩:=h;rfl
  |slf xs=>simp only[a0C,az0,az8]at h;obtain⟨rfl,_⟩:=h;rfl
  |agg cs=>
   simp only[a0C]at h;split at h
   .simp only[az0,az8]at h;obtain⟨rfl,_⟩:=h;rfl
   .cases h
  |tup cs=>
   simp only[a0C]at h;split at h
   .simp only[az0,az8]at h;obtain⟨rfl,_⟩:=h;rfl
   .cases h
  |row id sz off n=>
   simp only[a0C]at h;split at h
   .split at h
    .split at h
     .simp only[az0,az8]at h;obtain⟨rfl,_⟩:=h;rfl
     .cases h
    .cases h
   .cases h
  |_=>simp[a0C]at h
theorem b5X{s b:List Nat×List Nat}(h:a0h g s v=some (c,b)):a3E c=a3E v:=by
 have d:(match a0C ED g s.1 v with
   |some (v,ms)=>some (v,ms,s.2)
   |none=>none)=some (c,b)->a3E c=a3E v:=by
  intro h;split at h
  .grind[c5o]
  .cases h
 unfold a0h at h;split at h
 .split at h
  .split at h
   .split at h
    .simp only[az0,az8]at h;obtain⟨rfl,_⟩:=h;rfl
    .cases h
   .grind
  .cases h
 all_goals grind
variable {s:HP×Nat}
theorem a4X(h:a3E v≠1):a2B s v=a0J s v:=by
 cases v<;>first|rfl|exact absurd rfl h
theorem a6a(h:a3E v≠2):a1R s v=a2B s v:=by
 cases v<;>first|rfl|exact absurd rfl h
section
variable {P:Program} {base:Nat} {C:List Nat} {D w:World} {M F M2:Mem} {μ E B:Pl} {g:G} {a:Act} {call:Calls}
def Imp(M2:Mem)(μ:Pl)(g:G)(w:World)(os:List (Option (Nat×Box)))(imp:HP×Nat->V×HP×Nat)(u:Value):Prop:=
 ∀(h:HP) (nx:Nat),∃L,L.map (·.1)=os.flatMap a2y/\Bring M2 μ g w L h nx (imp (h,nx)).2.1 (imp (h,nx)).2.2/\∀b,Placed μ b L nx->RepV M2 b (imp (h,nx)).1 u
def a9q(os:List (Option (Nat×Box)))(s b:List Nat×List Nat):Prop:=s.1⊆b.1/\b.2=(os.flatMap a2y).reverse++s.2/\(s.2.Nodup->b.2.Nodup)
variable {msF:List Nat} {b s:List Nat×List Nat} {c v:V} {u:Value}
theorem c7Q(hI:Inv base C D M μ g w)(h:a0h g s v=some (c,b))(hF:b.1⊆msF)(hr:RepV M μ v u):
  ∃os,Imp (ext M μ g w msF) μ g w os (λ s=>a0J s c) u/\a9q os s b:=by
 obtain⟨o,h1,_,h2,h3,h4⟩:=b1T hI h hF hr;refine⟨[o],λ hh nx=> ?_,h2,by rw[h3];cases o<;>simp[a2y],λ hn=> ?_⟩
 .obtain⟨L,a1,a2,a3⟩:=b4F (h:=hh) (nx:=nx) h1;exact⟨L,by grind,a2,λ d hp=>(a3 d hp).1⟩
 .rw[h3];cases o with
  |none=>grind[a2y]
  |some p=>grind[a2y]
theorem b8z(hI:Inv base C D M μ g w)(h:a0O g s v=some (c,b))(hF:b.1⊆msF)(hr:RepV M μ v u):
  a3E c=a3E v/\∃os,Imp (ext M μ g w msF) μ g w os (λ s=>a2B s c) u/\a9q os s b:=by
 by_cases hv:∃cs,v= .agg cs
 .obtain⟨cs,rfl⟩:=hv;simp only[a0O]at h;split at h
  .next l t hl=>
   simp only[az0,az8]at h;obtain⟨rfl,rfl⟩:=h;obtain⟨us,rfl,hc⟩:=b3l hr;obtain⟨os,e1,e2,e0,e3,e4,e5,e6⟩:=a6M hI hl hF hc;refine⟨rfl,os,λ hh nx=> ?_,e4,e5,e6⟩;obtain⟨L,a1,a2,a3⟩:=a6r (h:=hh) (nx:=nx) e1 e2 e0 e3;refine⟨L,a1,a2,λ d hp=> ?_⟩;have:=(a3 d hp).agg;simp_all[a2B]
  .cases h
 .have hk:a3E v≠1:=λ e=>hv (by cases v<;>first|exact⟨_,rfl⟩|cases e);have i:a0h g s v=some (c,b):=by cases v<;>first|exact h|grind
  have f:=b5X i;obtain⟨os,a1,a2⟩:=c7Q hI i hF hr;refine⟨f,os,λ hh nx=> ?_,a2⟩;have:=a1 hh nx;simpa only[a4X (v:=c) (by grind)]using this
theorem b5M(hI:Inv base C D M μ g w){msF:List Nat}:∀{vs cs:List V} {us:List Value} {s e:List Nat×List Nat},a0G (a0O g) s vs=some (cs,e)->e.1⊆msF->ListRep M μ vs us->
  ∃os,a9q os s e/\∀(h:HP) (nx:Nat),∃L,L.map (·.1)=os.flatMap a2y/\Bring (ext M μ g w msF) μ g w L h nx (a1Z (h,nx) cs).2.1 (a1Z (h,nx) cs).2.2/\∀d,Placed μ d L nx->ListRep (ext M μ g w msF) d (a1Z (h,nx) cs).1 us
 |[],cs,us,s,e,h,_,hl=>by
  simp only[a0G,az0,az8]at h;obtain⟨rfl,rfl⟩:=h;have:us=[]:=aw6 hl.1.symm;subst this;exact⟨[],⟨a1a _,rfl,λ h=>h⟩,λ h nx=>⟨[],rfl,.nil,λ d _=>⟨rfl,λ j c u hc=>by grind⟩⟩⟩
 |v::vs,cs,us,s,e,h,hF,hl=>by
  simp only[a0G]at h;split at h
  .cases h
  .next c r h1=>
   split at h
   .cases h
   .next l t h2=>
    simp only[az0,az8]at h;obtain⟨rfl,rfl⟩:=h
    match us,hl with
    |[],hl=>exact absurd hl.1 (by simp)
    |u::us,hl=>
     obtain⟨f,⟨f1,f2,f3⟩,b⟩:=b5M hI h2 hF (us:=us) ⟨by simpa using hl.1,λ j c u h1 h2=>hl.2 (j+1) c u (by grind) (by grind)⟩;obtain⟨_,i,a,⟨g1,g2,g3⟩⟩:=b8z hI h1 (aw3 f1 hF) (hl.2 0 v u rfl rfl);refine⟨i++f,⟨aw3 g1 f1,by grind,λ hn=>f3 (g3 hn)⟩,λ hh nx=> ?_⟩;obtain⟨m,z,k,n⟩:=a hh nx;obtain⟨o,A,p,q⟩:=b (a2B (hh,nx) c).2.1 (a2B (hh,nx) c).2.2;refine⟨m++o,by grind,k.trans p,λ d hp=> ?_⟩;have r1:=n d hp.left;have r2:=q d (by rw[k.num];exact hp.right);refine⟨by simp[a1Z,r2.1],λ j x y hx hy=> ?_⟩;cases j with
     |zero=>simp[a1Z]at hx hy;subst hx;subst hy;exact r1
     |succ j=>exact r2.2 j x y (by grind[a1Z]) (by grind)
theorem c9e{vs:List V}(h:RepV M μ (.tup vs) u):∃us:Array Value,u= .tuple us/\ListRep M μ vs us.toList:=by
 cases h with
 |tup h1 h2=>exact⟨_,rfl,by simpa using h1,λ j c u a b=>h2 j c u a (by grind)⟩
 |rep h=>cases h with|tup h1 h2=>exact⟨_,rfl,by grind,λ j c u a b=> .rep (h2 j c u a (by grind))⟩
theorem c4I(hI:Inv base C D M μ g w){d:List Nat×List Nat}(h:a2q g s v=some (c,d))(hF:d.1⊆msF)(hr:RepV M μ v u):
  ∃os,Imp (ext M μ g w msF) μ g w os (λ s=>a1R s c) u/\a9q os s d:=by
 by_cases hv:∃vs,v= .tup vs
 .obtain⟨vs,rfl⟩:=hv;simp only[a2q]at h;split at h
  .next l t hl=>
   simp only[az0,az8]at h;obtain⟨rfl,rfl⟩:=h;obtain⟨us,rfl,hc⟩:=c9e hr;obtain⟨os,f,b⟩:=b5M hI hl hF hc;refine⟨os,λ hh nx=> ?_,f⟩;obtain⟨L,a1,a2,a3⟩:=b hh nx;refine⟨L,a1,a2,λ i hp=> ?_⟩;have:=(a3 i hp).tup;simp_all[a1R]
  .cases h
 .have hk:a3E v≠2:=λ e=>hv (by cases v<;>first|exact⟨_,rfl⟩|cases e);have j:a0O g s v=some (c,d):=by cases v<;>first|exact h|grind
  obtain⟨k,os,a1,a2⟩:=b8z hI j hF hr;refine⟨os,λ hh nx=> ?_,a2⟩;have:=a1 hh nx;simpa only[a6a (v:=c) (by grind)]using this
theorem b3C(hI:Inv base C D M μ g w){id b cap:Nat}{x:Box}{o:Nat}(hg:g id=some x)(hp:μ id=some (b,cap))(h:ext M μ g w msF b o=some u):
  o<x.held\/∃ty sz xs f,x= .row ty sz xs f/\id∈msF/\o<xs.length*sz:=by
 unfold ext at h;cases hM:M b o with
 |some y=>exact .inl (hI.sep id x b cap o y hg hp hM)
 |none=>
  rw[hM]at h;simp only at h;split at h
  .next e=>
   obtain⟨c,ty,sz,xs,f,d,h1,h2,h3,h4⟩:=e;have:c=id:=hI.inj c id b d cap ⟨_,h2⟩ ⟨_,hg⟩ h3 hp;subst this;rw[h2]at hg;injection hg with hg
   exact .inr ⟨ty,sz,xs,f,hg.symm,h1,h4⟩
  .cases h
theorem c1m(hI:Inv base C D M μ g w){ps:List Nat}{bs:List (List V)}{ks:List Nat}{ms0:List Nat}(hps:ps.Nodup)(hv:a0G (a1x g) (ms0,[]) ps=some (bs,msF,ks))(hfree:a1u g msF ks=true):
  bs.length=ps.length/\∃(B:Pl) (ptc:List Nat),(∀j id,ps[j]?=some id->B j=μ id)/\(∀i,(a0w 0 ([],bs.length) bs).2<=i->B i=none)/\
   Inv w.heap.size ptc w (ext M μ g w msF) B (a0b (a0w 0 ([],bs.length) bs).1) w/\∀b∈ptc,∃id cap x,g id=some x/\μ id=some (b,cap)/\(id∈ps\/id∈ks):=by
 obtain⟨oss,e1,e2,e3,e4,e5,e6⟩:=a4N hI hv (a1a _);obtain⟨L,ls,b1,b2,b3,b4,b5,b6⟩:=b2z (M2:=ext M μ g w msF) (μ:=μ) (g:=g) (w:=w) (i:=0) (h:=[]) (nx:=bs.length) (bs:=bs) (ps:=ps) (oss:=oss) (by omega) e1 e2 e3;have hks:ks=(L.map (·.1)).reverse:=by rw[b1];simpa using e5
 have hkn:(L.map (·.1)).Nodup:=by
  have:=e6 (by simp);simp only at this;rw[hks]at this;exact b0R.1 this
 refine⟨e2,?_⟩;let B:Pl:=λ i=>if i<bs.length then(ps[i]?).bind μ else(L[i-bs.length]?).bind λ p=>μ p.1
 have hpl:Placed μ B L bs.length:=λ j p hj=>by
  show(if bs.length+j<bs.length then _ else _)=_;rw[ay9 (by omega),show bs.length+j-bs.length=j by omega,hj];rfl
 have hpt:∀j id,ps[j]?=some id->B j=μ id:=λ j id hj=>by
  have:j<bs.length:=by rw[e2];exact(ay0.1 hj).1
  show(if j<bs.length then _ else _)=_;rw[ax3 this,hj];rfl
 have hbox:∀k x,a0b (a0w 0 ([],bs.length) bs).1 k=some x->∃old y b cap,B k=μ old/\μ old=some (b,cap)/\g old=some y/\BoxAt (ext M μ g w msF) B w b cap x/\
   ((k<bs.length/\ps[k]?=some old/\∃l,x= .var l)\/(bs.length<=k/\(L[k-bs.length]?).map (·.1)=some old/\∃ty sz xs xs' f,y= .row ty sz xs f/\x= .row ty sz xs' f/\xs'.length=xs.length)):=by
  intro k x hk;rw[b5 k]at hk;by_cases k1:bs.length<=k/\k<bs.length+L.length
  .rw[ax3 k1]at hk;simp only[az2]at hk;obtain⟨p,hp,rfl⟩:=hk;obtain⟨b,cap,ty,sz,xs,xs',f,r1,r2,r3,r4,r5⟩:=b4 p (ax4 hp);refine⟨p.1,_,b,cap,?_,r1,r2,r5 B,.inr ⟨k1.1,by rw[hp];rfl,ty,sz,xs,xs',f,rfl,r3,r4⟩⟩;have:=hpl (k-bs.length) p hp
   rwa [show bs.length+(k-bs.length)=k by omega]at this
  .rw[ay9 k1]at hk;by_cases k2:0<=k/\k<0+bs.length
   .rw[ax3 k2]at hk;simp only[az2]at hk;obtain⟨l,hl,rfl⟩:=hk;have hlt:k<ps.length:=by omega
    obtain⟨b,cap,r1,⟨cs,r2⟩,r3⟩:=b6 B hpl (λ j id hj=>by rw[as4];exact hpt j id hj) k ps[k] l (az5 hlt) (by simpa using hl);exact⟨ps[k],_,b,cap,hpt k _ (az5 hlt),r1,r2,r3,.inl ⟨by omega,az5 hlt,l,rfl⟩⟩
   .rw[ay9 k2]at hk;simp[a0b]at hk
 let blocks:List Nat:=(ps++ks).filterMap λ id=>(μ id).map (·.1);have hbk:∀b∈blocks,∃id cap x,g id=some x/\μ id=some (b,cap)/\(id∈ps\/id∈ks):=by
  intro b hb;obtain⟨id,hid,hp⟩:=Az5.1 hb;simp only[az2]at hp;obtain⟨⟨b',cap⟩,hp,rfl⟩:=hp;rcases ax1.1 hid with h|h
  .obtain⟨j,hj⟩:=List.getElem?_of_mem h;have hlt:j<ps.length:=(ay0.1 hj).1;obtain⟨bb,cc,TT,cur,z1,⟨cs,z2⟩,_⟩:=e3 j id (bs[j]'(by omega)) (oss[j]'(by omega)) hj (az5 (by omega)) (az5 (by omega));exact⟨id,cap,_,z2,hp,.inl h⟩
  .have h':=h;rw[hks,Av9]at h';obtain⟨p,hpL,rfl⟩:=ax5.1 h';obtain⟨b,cap',ty,sz,xs,xs',f,r1,r2,r3,r4,r5⟩:=b4 p hpL;exact⟨p.1,cap,_,r2,hp,.inr h⟩
 refine⟨B,blocks,hpt,λ i hi=> ?_,⟨c2M hI,?_,?_,?_,rfl,rfl,rfl,ay3 _,λ b _ _=>rfl,hI.glb λ b hb=>by obtain⟨i,c,x,h1,h2,_⟩:=hbk b hb;exact⟨i,c,x,h1,h2⟩⟩,?_⟩
 .rw[b3]at hi;show(if i<bs.length then _ else _)=_;rw[ay9 (by omega),an7 (by omega)];rfl
 .intro k x hk;obtain⟨old,y,b,cap,r1,r2,r3,r4,r5⟩:=hbox k x hk;refine⟨b,cap,by rw[r1,r2],r4,.inr ?_⟩;refine Az5.2 ⟨old,?_,by rw[r2];rfl⟩;rcases r5 with⟨_,r5,_⟩|⟨_,r5,_⟩
  .exact av4 _ (ax4 r5)
  .refine aw2 _ ?_;rw[hks,Av9];refine ax4 (i:=k-bs.length) ?_;simpa using r5
 .rintro i j b c c' ⟨x,hx⟩ ⟨y,hy⟩ hi hj;obtain⟨o1,y1,b1',cap1,r1,r2,r3,_,r5⟩:=hbox i x hx;obtain⟨o2,y2,b2',cap2,s1,s2,s3,_,s5⟩:=hbox j y hy;have h1:μ o1=some (b,c):=by rw[<-r1];exact hi
  have h2:μ o2=some (b,c'):=by rw[<-s1];exact hj
  have ho:o1=o2:=hI.inj o1 o2 b c c' ⟨_,r3⟩ ⟨_,s3⟩ h1 h2;subst ho;rw[r3]at s3;injection s3 with s3
  subst s3;rcases r5 with⟨l1,p1,v1⟩|⟨l1,p1,ty1,sz1,xs1,xs1',f1,q1,q2,q3⟩
  .rcases s5 with⟨l2,p2,v2⟩|⟨l2,p2,ty2,sz2,xs2,xs2',f2,t1,t2,t3⟩
   .have i1:i<ps.length:=by omega
    have j1:j<ps.length:=by omega
    rw[az5 i1]at p1;rw[az5 j1]at p2;injection p1 with p1;injection p2 with p2
    exact b1b hps i1 j1 (p1.trans p2.symm)
   .subst t1;obtain⟨bb,cc,TT,cur,z1,⟨cs,z2⟩,_⟩:=e3 i o1 (bs[i]) (oss[i]'(by omega)) p1 (az5 l1) (az5 (by omega));rw[r3]at z2;cases z2
  .rcases s5 with⟨l2,p2,v2⟩|⟨l2,p2,ty2,sz2,xs2,xs2',f2,t1,t2,t3⟩
   .subst q1;obtain⟨bb,cc,TT,cur,z1,⟨cs,z2⟩,_⟩:=e3 j o1 (bs[j]) (oss[j]'(by omega)) p2 (az5 l2) (az5 (by omega));rw[r3]at z2;cases z2
   .have e:i-bs.length=j-bs.length:=by
     have i1:i-bs.length<(L.map (·.1)).length:=by
      rcases as5 (i-bs.length) L.length with h|h
      .simpa using h
      .rw[an7 h]at p1;cases p1
     have j1:j-bs.length<(L.map (·.1)).length:=by
      rcases as5 (j-bs.length) L.length with h|h
      .simpa using h
      .rw[an7 h]at p2;cases p2
     have a1:(L.map (·.1))[i-bs.length]=o1:=by
      have:(L.map (·.1))[i-bs.length]?=some o1:=by simpa using p1
      rw[az5 i1]at this;injection this
     have a2:(L.map (·.1))[j-bs.length]=o1:=by
      have:(L.map (·.1))[j-bs.length]?=some o1:=by simpa using p2
      rw[az5 j1]at this;injection this
     exact b1b hkn i1 j1 (a1.trans a2.symm)
    omega
 .intro k x b cap o u hx hm hM;obtain⟨old,y,b',cap',r1,r2,r3,_,r5⟩:=hbox k x hx;have hold:μ old=some (b,cap):=by rw[<-r1];exact hm
  have hs:=b3C hI r3 hold hM;rcases r5 with⟨_,p1,l,rfl⟩|⟨_,p1,ty,sz,xs,xs',f,rfl,rfl,q3⟩
  .have hlt:k<ps.length:=(ay0.1 p1).1;obtain⟨bb,cc,TT,cur,z1,⟨cs,z2⟩,_⟩:=e3 k old (bs[k]'(by omega)) (oss[k]'(by omega)) p1 (az5 (by omega)) (az5 (by omega));rw[r3]at z2;injection z2 with z2
   subst z2;rcases hs with hs|⟨_,_,_,_,hs,_⟩
   .exact absurd hs (as0 _)
   .cases hs
  .rcases hs with hs|⟨ty2,sz2,xs2,f2,hs,hid,hs2⟩
   .cases f with
    |false=>exact absurd hs (as0 _)
    |true=>show o<xs'.length*sz;rw[q3];exact hs
   .injection hs with h1 h2 h3 h4
    subst h1;subst h2;subst h3;subst h4;have hin:old∈ks:=by
     rw[hks,Av9];refine ax4 (i:=k-bs.length) ?_;simpa using p1
    have:=ay5.1 hfree old hin;rw[r3]at this;have hc:msF.contains old=true:=by simpa using hid
    rw[hc]at this;simp only[aq4,As1]at this;subst this;show o<xs'.length*sz;rw[q3];exact hs2
 .exact hbk
end
end
section
open Go.RowKit
variable {H h:HP} {nx:Nat} {c:V}
theorem b0O:a0J (h++H,nx) c=((a0J (h,nx) c).1,(a0J (h,nx) c).2.1++H,(a0J (h,nx) c).2.2):=by
 unfold a0J;split<;>rfl
theorem a5R{H:HP}:∀{l:List V} {h:HP} {nx:Nat},a0f (h++H,nx) l=((a0f (h,nx) l).1,(a0f (h,nx) l).2.1++H,(a0f (h,nx) l).2.2)
 |[],h,nx=>rfl
 |c::l,h,nx=>by
  simp only[a0f,b0O];rw[a5R]
theorem b0B:a2B (h++H,nx) c=((a2B (h,nx) c).1,(a2B (h,nx) c).2.1++H,(a2B (h,nx) c).2.2):=by
 by_cases h1:a3E c=1
 .cases c<;>first|(simp only[a2B,a5R];done)|cases h1
 grind[a4X,b0O]
theorem a8T{H:HP}:∀{l:List V} {h:HP} {nx:Nat},a1Z (h++H,nx) l=((a1Z (h,nx) l).1,(a1Z (h,nx) l).2.1++H,(a1Z (h,nx) l).2.2)
 |[],h,nx=>rfl
 |c::l,h,nx=>by
  simp only[a1Z,b0B];rw[a8T]
theorem c0D:a1R (h++H,nx) c=((a1R (h,nx) c).1,(a1R (h,nx) c).2.1++H,(a1R (h,nx) c).2.2):=by
 by_cases h1:a3E c=2
 .cases c<;>first|(simp only[a1R,a8T];done)|cases h1
 grind[a6a,b0B]
theorem b0Z{H:HP}:∀{ps:List Nat} {bs:List (List V)} {h c:HP} {nx nx':Nat},a2s (h,nx) ps bs=some (c,nx')->a2s (h++H,nx) ps bs=some (c++H,nx')
 |[],[],h,c,nx,nx',e=>by
  simp only[a2s,az0,az8]at e|-;grind
 |[],_::_,_,_,_,_,e=>by simp[a2s]at e
 |_::_,[],_,_,_,_,e=>by simp[a2s]at e
 |id::ps,b::bs,h,c,nx,nx',e=>by
  simp only[a2s,a5R]at e|-;rw[<-ap4];exact b0Z e
section
variable {P:Program} {base:Nat} {I:List Nat} {J w:World} {M O M2:Mem} {μ N K:Pl} {g:G} {a:Act} {call:Calls}
theorem a5B{μn:Pl}:∀{ps:List Nat} {bs:List (List V)} {oss:List (List (Option (Nat×Box)))} {ids:List Nat} {h:HP} {nx:Nat},(∀id∈ps,id<nx)->ps.Nodup->oss.length=ps.length->bs.length=ps.length->ids.length=ps.length->
  (∀(j id:Nat) (l:List V) (os:List (Option (Nat×Box))),ids[j]?=some id->bs[j]?=some l->oss[j]?=some os->a7h M2 μn g w id l os)->
  ∃(L:List (Nat×Box)) (ls:List (List V)) (h2:HP),a2s (h,nx) ps bs=some (h2,nx+L.length)/\L.map (·.1)=oss.flatten.flatMap a2y/\ls.length=ps.length/\(∀p∈L,b2D M2 μn g w p.1 p.2)/\
   (∀(k:Nat),nx<=k/\k<nx+L.length->a0b h2 k=(L[k-nx]?).map (·.2))/\(∀(j k:Nat),ps[j]?=some k->a0b h2 k=(ls[j]?).map .var)/\(∀(k:Nat),k∉ps->¬(nx<=k/\k<nx+L.length)->a0b h2 k=a0b h k)/\
   ∀c,Placed μn c L nx->(∀(j p id:Nat),ps[j]?=some p->ids[j]?=some id->c p=μn id)->∀(j id:Nat) (l:List V),ids[j]?=some id->ls[j]?=some l->∃b cap,μn id=some (b,cap)/\(∃cs,g id=some (.var cs))/\BoxAt M2 c w b cap (.var l)
 |[],bs,oss,ids,h,nx,_,_,h1,h2,h3,_=>by
  have:bs=[]:=aw6 h2;subst this;have:oss=[]:=aw6 h1;subst this;have:ids=[]:=aw6 h3;subst this;exact⟨[],[],h,rfl,rfl,rfl,λ p hp=>by simp at hp,λ k hk=>by grind,λ j k hj=>by simp at hj,λ k _ _=>rfl,λ c _ _ j id l hj=>by simp at hj⟩
 |p::ps,bs,oss,ids,h,nx,f,hn,h1,h2,h3,h4=>by
  match bs,oss,ids,h1,h2,h3,h4 with
  |[],_,_,_,h2,_,_=>grind
  |_::_,[],_,h1,_,_,_=>grind
  |_::_,_::_,[],_,_,h3,_=>grind
  |b::bs,os::oss,id::ids,h1,h2,h3,h4=>
   obtain⟨bb,cap,T,m,v1,v,x,v4,y,v0,v6,z,A⟩:=h4 0 id b os rfl rfl rfl;obtain⟨B,a1,a2,a3⟩:=a6r (h:=h) (nx:=nx) v4 y v0 v6;have n:=a2.num;obtain⟨C,o⟩:=Aw0.1 hn;have D:=f p (ay1 ..);obtain⟨E,ls,F,b1,b2,b3,b4,b5,b6,b7,b8⟩:=a5B (bs:=bs) (ps:=ps) (oss:=oss) (ids:=ids) (h:=(p,some (.var ((a0f (h,nx) b).1.map (a0H p))))::(a0f (h,nx) b).2.1) (nx:=(a0f (h,nx) b).2.2)
    (λ i hi=>by grind) o (by grind) (by grind) (by grind)
    (λ j id l os k1 k2 k3=>h4 (j+1) id l os (by grind) (by grind) (by grind))
   have r:∀k,nx<=k->k∉ps:=λ k hk hm=>by grind
   refine⟨B++E,((a0f (h,nx) b).1.map (a0H p))::ls,F,?_,by grind,by simp[b3],λ q hq=>(ax1.1 hq).elim (a2.rows q) (b4 q),λ k hk=> ?_,λ j k hj=> ?_,λ k d s=> ?_,λ c hp e j t l hj hl=> ?_⟩
   .grind[a2s]
   .simp only[ar0]at hk;by_cases k1:(a0f (h,nx) b).2.2<=k
    .grind
    .rw[b7 k (r k hk.1) (by omega)];simp only[a0b];rw[ay9 (by omega),a2.get k,ax3 ⟨hk.1,by omega⟩,aw1 (by omega)]
   .cases j with
    |zero=>grind[a0b]
    |succ j=>grind
   .simp only[ar0]at s;simp only[ay4,ap6]at d;rw[b7 k d.2 (by omega)];simp only[a0b];rw[ay9 d.1,a2.get k,ay9 (by omega)]
   .cases j with
    |zero=>simp at hj hl;subst hj;subst hl;exact⟨bb,cap,v1,v,T,m,x,b9P (a3 c hp.left) (by rw[<-v1];exact e 0 p id rfl rfl) λ j u hj hu=>z j u (a8a hj) hu,λ hl=>A (d3G hl)⟩
    |succ j=>exact b8 c (by rw[n];exact hp.right) (λ j p id h1 h2=>e (j+1) p id (by grind) (by grind)) j t l (by grind) (by grind)
def d6f(base:Nat)(c:List Nat)(J:World)(M:Mem)(μ:Pl)(m:Nat)(v:V)(bs:List (List V))(u:Value)(w:World):Prop:=
 ∃(d:Mem) (b:Pl) (g1:G) (msF:List Nat) (ov:List (Option (Nat×Box))) (oss:List (List (Option (Nat×Box)))),M.le d/\NewMem base c M d/\μ.le b/\Inv base c J d b g1 w/\
  Imp (ext d b g1 w msF) b g1 w ov (λ s=>a1R s v) u/\oss.length=m/\bs.length=m/\
  (∀(j:Nat) (l:List V) (os:List (Option (Nat×Box))),j<m->bs[j]?=some l->oss[j]?=some os->a7h (ext d b g1 w msF) b g1 w j l os)/\
  ((ov++oss.flatten).flatMap a2y).Nodup/\a1u g1 msF ((ov++oss.flatten).flatMap a2y)=true
def c6H(P:Program)(call:a7F):Prop:=∀{k:Nat} {asq:List V} {bs:List (List V)} {v:V} {b:List (List V)},call k asq bs=some (v,b)->b6L P k=true/\
 ∀{w:World} {M:Mem} {μ:Pl} {us:Array Value} {c:List Nat},Inv w.heap.size c w M μ (a0b (a0w 0 ([],bs.length) bs).1) w->(∀i,(a0w 0 ([],bs.length) bs).2<=i->μ i=none)->ListRep M μ asq us.toList->
  Go.Calls P k us w (Ret λ u d=>d6f w.heap.size c w M μ bs.length v b u d)
variable {ks msF:List Nat}
theorem c6Q{id ty sz:Nat}{xs:List V}{f:Bool}(h:a1u g msF ks=true)(hk:id∈ks)(hm:id∈msF)(hg:g id=some (.row ty sz xs f)):f=true:=by
 have:=ay5.1 h id hk;grind
theorem b7q(hI:Inv base I J M μ g w):NewMem base I M (ext M μ g w msF):=by
 intro b o u h;unfold ext at h;cases hM:M b o with
 |some x=>grind
 |none=>
  rw[hM]at h;simp only at h;split at h
  .next c=>
   obtain⟨id,ty,sz,xs,f,cap,h1,h2,h3,h4⟩:=c;exact .inr (hI.at_ h2 h3).2
  .cases h
theorem b5F{H:HP}{ms:List Nat}(k:Nat):a0b (ks.map (λ id=>(id,none))++a3y (a0b H) ms++H) k=if k∈ks then none else match a0b H k with
  |some (.row ty sz xs f)=>if k∈ms then some (.row ty sz xs true)else some (.row ty sz xs f)
  |o=>o:=by
 have hm:∀(ms:List Nat),a0b (a3y (a0b H) ms++H) k=match a0b H k with
   |some (.row ty sz xs f)=>if k∈ms then some (.row ty sz xs true)else some (.row ty sz xs f)
   |o=>o:=by
  intro ms;induction ms with
  |nil=>show a0b H k=_;grind
  |cons id ms ih=>
   simp only[a3y];cases hg:a0b H id with
   |none=>grind
   |some x=>
    cases x with
    |row ty sz xs f=>simp only[ap4,a0b];by_cases e:k=id;all_goals grind
    |_=>grind
 rw[Ay5];induction ks with
 |nil=>grind
 |cons id ks ih=>simp only[av2,ap4,a0b];grind
end
end
section
open Go.RowKit
section
variable {P:Program} {base:Nat} {m:List Nat} {n w:World} {M:Mem} {d:Pl} {H:HP} {nx k:Nat} {args:List V} {s:Array Value} {call:a7F} {r:Out}
theorem d0r(hc:c6H P call)(hI:Inv base m n M d (a0b H) w)(hn:∀i,nx<=i->i<nx+r.cnt->d i=none)(ha:ListRep M d args s.toList)(h:a1q call (a0b H) nx k args=some r):
  b6L P k=true/\Go.Calls P k s w (Ret λ u w'=>∃M' μ',M.le M'/\NewMem base m M M'/\d.le μ'/\RepV M' μ' r.v u/\Inv base m n M' μ' (a0b (r.upd++H)) w'/\∀i,d i=none->¬(nx<=i/\i<nx+r.cnt)->μ' i=none):=by
 unfold a1q at h;split at h
 .cases h
 .next asq ms ps hargs=>
  split at h
  .cases h
  .next bs ms' ks hvars=>
   split at h
   .cases h
   .next hfree0=>
    have hfreeP:a1u (a0b H) ms' ks=true/\∀id∈ps,id<nx:=by
     simpa using hfree0
    have hfree:=hfreeP.1;split at h
    .cases h
    .next v bs' hcall=>
     split at h
     .cases h
     .next t hback=>
      obtain⟨h2,nx2⟩:=t;injection h with h
      obtain⟨_,_,k3⟩:=a1C (le:=ArgLe) ArgLe.refl ArgLe.trans (a6f 4) hargs;have hps:ps.Nodup:=(a1C (le:=ArgLe) ArgLe.refl ArgLe.trans (a6f 4) hargs).1.2.2 (by simp);obtain⟨oss0,f1,f2,f3,f4,_,_⟩:=a4N hI hvars (a1a _);obtain⟨hlen,μc,ptc,hpt,hnewc,hIc,hptc⟩:=c1m hI hps hvars hfree;have hargs':=d1c hI (msF:=ms') (psF:=ps) hpt hargs f4 (Av8 _) ha;obtain⟨hok,hcal⟩:=hc hcall;refine⟨hok,(hcal hIc hnewc hargs').mono λ e w' he=> ?_⟩;cases e with
      |panicked c=>exact he.elim
      |outgrown=>exact he.elim
      |returned u=>
       obtain⟨M1,μ1,g1,msF1,ov,oss,hle1,hnew1,hμ1,hI1,himp,hol,hbl,hvar,hnd,hfr⟩:=he;show∃M' μ',_;have hptr:∀(j id:Nat),ps[j]?=some id->∃b cap,d id=some (b,cap)/\∃cs,a0b H id=some (.var cs):=λ j id hj=>by
        have hlt:=(ay0.1 hj).1;obtain⟨b,cap,T,cur,z1,z2,_⟩:=f3 j id (bs[j]'(by omega)) (oss0[j]'(by omega)) hj (az5 (by omega)) (az5 (by omega));exact⟨b,cap,z1,z2⟩
       have hlt:=hfreeP.2;obtain⟨L1,ls,h2',b1,b2,b3,b4,b5,b6,b7,b8⟩:=a5B (M2:=ext M1 μ1 g1 w' msF1) (μn:=μ1) (g:=g1) (w:=w') (ps:=ps) (bs:=bs') (oss:=oss) (ids:=List.range ps.length)
        (h:=ks.map (λ id=>(id,none))++a3y (a0b H) ms'++H) (nx:=nx) hlt hps (by omega) (by omega) (by simp) (λ j id l os k1 k2 k3=>by
         have hj:j<ps.length:=by have:=(ay0.1 k1).1;simpa using this
         have:id=j:=by rw[ao6 hj]at k1;injection k1 with k1;exact k1.symm
         subst this;exact hvar id l os (by omega) k2 k3)
       have hb2:=b0Z (H:=H) hback;rw[b1]at hb2;simp only[az0,az8]at hb2;obtain⟨hh2,hnx2⟩:=hb2;subst hh2;obtain⟨L2,c1,c2,c3⟩:=himp (h2++H) nx2;simp only[c0D]at c2 c3;subst h;simp only;have hnx3:=c2.num;replace hn:∀i,nx<=i->i<nx+((a1R (h2,nx2) v).2.2-nx)->d i=none:=hn;have hcnt:nx+((a1R (h2,nx2) v).2.2-nx)=(a1R (h2,nx2) v).2.2:=by omega
       let L:=L1++L2;let μ2:Pl:=λ i=>if nx<=i/\i<nx+L.length then(L[i-nx]?).bind λ p=>μ1 p.1 else d i
       have hold:∀i,¬(nx<=i/\i<nx+L.length)->μ2 i=d i:=λ i hi=>ay9 hi;have hLl:L.length=L1.length+L2.length:=ar0;have hpl:Placed μ1 μ2 L nx:=λ j p hj=>by
        have:=(ay0.1 hj).1;show(if nx<=nx+j/\nx+j<nx+L.length then _ else _)=_;rw[ax3 (by omega),show nx+j-nx=j by omega,hj];rfl
       have hpl1:Placed μ1 μ2 L1 nx:=hpl.left;have hpl2:Placed μ1 μ2 L2 nx2:=by rw[<-hnx2];exact hpl.right
       have hμ2:d.le μ2:=λ i p hp=>by
        have:¬(nx<=i/\i<nx+L.length):=λ h=>by
         rw[hn i h.1 (by omega)]at hp;cases hp
        rw[hold i this];exact hp
       have hLn:(L.map (·.1)).Nodup:=by
        show((L1++L2).map (·.1)).Nodup;rw[Aw1,b2,c1];rw[Az9]at hnd;have:=Av4.1 hnd;exact Av4.2 ⟨this.2.1,this.1,λ a ha b hb e=>this.2.2 b hb a ha e.symm⟩
       have hLmem:∀p∈L,p.1∈(ov++oss.flatten).flatMap a2y:=λ p hp=>by
        have:p.1∈L.map (·.1):=Aw7 hp;have e:L.map (·.1)=oss.flatten.flatMap a2y++ov.flatMap a2y:=by show(L1++L2).map (·.1)=_;rw[Aw1,b2,c1]
        rw[e,ax1]at this;rw[Az9,ax1];exact this.symm
       have hLrow:∀p∈L,b2D (ext M1 μ1 g1 w' msF1) μ1 g1 w' p.1 p.2:=λ p hp=>(ax1.1 hp).elim (b4 p) (c2.rows p);have hMle:M.le (ext M1 μ1 g1 w' msF1):=Mem.le_trans a8H (Mem.le_trans hle1 a8H);have hloc:∀b,b∈ptc->base<=b\/b∈m:=λ b hb=>by
        obtain⟨id,cap,x,z1,z2,_⟩:=hptc b hb;exact(hI.at_ z1 z2).2
       have hloc2:∀b,(w.heap.size<=b\/b∈ptc)->base<=b\/b∈m:=λ b hb=>hb.elim (λ h=> .inl (av9 hI.size h)) (hloc b);have hget3:∀i,a0b ((a1R (h2,nx2) v).2.1++H) i=if nx2<=i/\i<(a1R (h2,nx2) v).2.2 then(L2[i-nx2]?).map (·.2)else a0b (h2++H) i:=c2.get
       have hself:∀(j p id:Nat),ps[j]?=some p->(List.range ps.length)[j]?=some id->μ2 p=μ1 id:=λ j p id hj hid=>by
        have hjl:j<ps.length:=(ay0.1 hj).1;rw[ao6 hjl]at hid;injection hid with hid
        subst hid;obtain⟨b',cap',y1,_⟩:=hptr j p hj;rw[hold p (λ h=>absurd (hlt p (ax4 hj)) (by omega)),y1];exact(hμ1 j _ (by rw[hpt j p hj];exact y1)).symm
       have hbox:∀i x,a0b ((a1R (h2,nx2) v).2.1++H) i=some x->
         (∃(j b cap:Nat) (cs:List V),¬(nx<=i/\i<nx+L.length)/\ps[j]?=some i/\j<ps.length/\d i=some (b,cap)/\μ1 j=some (b,cap)/\g1 j=some (.var cs)/\(∃l,x= .var l)/\BoxAt (ext M1 μ1 g1 w' msF1) μ2 w' b cap x)\/
         (∃p,nx<=i/\L[i-nx]?=some p/\p.2=x/\p∈L)\/
         (∃y b cap,¬(nx<=i/\i<nx+L.length)/\i∉ps/\i∉ks/\a0b H i=some y/\d i=some (b,cap)/\y.held<=x.held/\BoxAt M d w b cap x):=by
        intro i x hx;rw[hget3 i]at hx;by_cases i1:nx2<=i/\i<(a1R (h2,nx2) v).2.2
        .rw[ax3 i1]at hx;simp only[az2]at hx;obtain⟨p,hp,rfl⟩:=hx;refine .inr (.inl ⟨p,by omega,?_,rfl,aw2 _ (ax4 hp)⟩);show(L1++L2)[i-nx]?=_;rw[av3 (by omega),show i-nx-L1.length=i-nx2 by omega];exact hp
        .rw[ay9 i1]at hx;by_cases i2:nx<=i/\i<nx+L1.length
         .rw[b5 i i2]at hx;simp only[az2]at hx;obtain⟨p,hp,rfl⟩:=hx;refine .inr (.inl ⟨p,i2.1,?_,rfl,av4 _ (ax4 hp)⟩);show(L1++L2)[i-nx]?=_;rw[aw1 (by omega)];exact hp
         .by_cases i3:i∈ps
          .obtain⟨j,hj⟩:=List.getElem?_of_mem i3;rw[b6 j i hj]at hx;simp only[az2]at hx;obtain⟨l,hl,rfl⟩:=hx;have hjl:j<ps.length:=(ay0.1 hj).1;obtain⟨b,cap,z1,⟨cs,z2⟩,z3⟩:=b8 μ2 hpl1 hself j j l (ao6 hjl) hl;obtain⟨b',cap',y1,_⟩:=hptr j i hj;have e:μ1 j=some (b',cap'):=hμ1 j _ (by rw[hpt j i hj];exact y1);rw[z1]at e;injection e with e;injection e with e1 e2;subst e1;subst e2;exact .inl ⟨j,b,cap,cs,(λ h=>absurd (hlt i i3) (by omega)),hj,hjl,y1,z1,z2,⟨l,rfl⟩,z3⟩
          .rw[b7 i i3 i2,b5F]at hx;split at hx
           .cases hx
           .next hik=>
            have hy:∃y,a0b H i=some y/\y.held<=x.held/\∀{b cap:Nat},BoxAt M d w b cap y->BoxAt M d w b cap x:=by
             cases hg:a0b H i with
             |none=>rw[hg]at hx;cases hx
             |some y=>
              rw[hg]at hx;cases y with
              |row ty sz xs f=>
               simp only at hx;split at hx
               .cases hx;exact⟨_,rfl,by cases f<;>simp[Box.held],λ hb=>hb⟩
               .cases hx;exact⟨_,rfl,ay3 _,λ hb=>hb⟩
              |var cs=>cases hx;exact⟨_,rfl,ay3 _,λ hb=>hb⟩
              |map es=>cases hx;exact⟨_,rfl,ay3 _,λ hb=>hb⟩
            obtain⟨y,hy1,hy2,hy3⟩:=hy;obtain⟨b,cap,hp⟩:=hI.pl hy1;have hinx:¬(nx<=i/\i<nx+L.length):=λ h=>by
             rw[hn i h.1 (by omega)]at hp;cases hp
            exact .inr (.inr ⟨y,b,cap,hinx,i3,hik,hy1,hp,hy2,hy3 (hI.at_ hy1 hp).1⟩)
       have hstay:∀{i b cap:Nat} {y:Box},a0b H i=some y->d i=some (b,cap)->i∉ps->i∉ks->b<w.heap.size/\b∉ptc:=λ {i b cap y} hy hp i1 i2=>by
        refine⟨(hI.at_ hy hp).1.lt,λ hb=> ?_⟩;obtain⟨id,cap',x,z1,z2,z3⟩:=hptc b hb;have:id=i:=hI.inj id i b cap' cap ⟨_,z1⟩ ⟨_,hy⟩ z2 hp;subst this;exact z3.elim i1 i2
       have hnewb:∀{b o:Nat} {u:Value},ext M1 μ1 g1 w' msF1 b o=some u->b<w.heap.size->b∉ptc->ext M d (a0b H) w ms' b o=some u:=λ {b o u} hu h1 h2=>by
        rcases b7q hI1 b o u hu with hu|hu|hu
        .rcases hnew1 b o u hu with hu|hu|hu
         .exact hu
         .omega
         .exact absurd hu h2
        .omega
        .exact absurd hu h2
       refine⟨ext M1 μ1 g1 w' msF1,μ2,hMle,λ b o u hu=> ?_,hμ2,c3 μ2 hpl2,⟨c2M hI1,λ i x hx=> ?_,?_,λ i x b cap o u hx hm hM=> ?_,hI1.os.trans hI.os,hI1.tape.trans hI.tape,hI1.output.trans hI.output,av9 hI.size hI1.size,λ b hb hbp=> ?_,hI.gl⟩,λ i hi hj=> ?_⟩
       .rcases b7q hI1 b o u hu with hu|hu
        .rcases hnew1 b o u hu with hu|hu
         .rcases b7q hI b o u hu with hu|hu
          .exact .inl hu
          .exact .inr hu
         .exact .inr (hloc2 b hu)
        .exact .inr (hloc2 b hu)
       .rcases hbox i x hx with⟨j,b,cap,cs,i1,_,_,i2,i3,i4,_,i5⟩|⟨p,i1,i2,rfl,i4⟩|⟨y,b,cap,i1,i2,i3,i4,i5,_,i7⟩
        .exact⟨b,cap,by rw[hold i i1];exact i2,i5,hloc2 b (hI1.at_ i4 i3).2⟩
        .obtain⟨b,cap,ty,sz,xs,xs',f,r1,r2,r3,r4,r5⟩:=hLrow p i4;have:=hpl (i-nx) p i2;rw[show nx+(i-nx)=i by omega,r1]at this;exact⟨b,cap,this,r5 μ2,hloc2 b (hI1.at_ r2 r1).2⟩
        .obtain⟨s1,s2⟩:=hstay i4 i5 i2 i3;exact⟨b,cap,by rw[hold i i1];exact i5,(i7.block (hI1.frame b s1 s2)).mono hMle hμ2,(hI.at_ i4 i5).2⟩
       .rintro i j b c c' ⟨x,hx⟩ ⟨y,hy⟩ hi hj;rcases hbox i x hx with⟨ji,b1',cap1,cs1,i1,i0,il,i2,i3,i4,_,_⟩|⟨p,i1,i2,rfl,i4⟩|⟨y1,b1',cap1,i1,i2,i3,i4,i5,_,_⟩
        .rw[hold i i1]at hi;rcases hbox j y hy with⟨jj,b2',cap2,cs2,j1,j0,jl,j2,j3,j4,_,_⟩|⟨q,j1,j2,rfl,j4⟩|⟨y2,b2',cap2,j1,j2,j3,j4,j5,_,_⟩
         .rw[hold j j1]at hj;obtain⟨_,_,_,cs,z⟩:=hptr ji i i0;obtain⟨_,_,_,cs',z'⟩:=hptr jj j j0;exact hI.inj i j b c c' ⟨_,z⟩ ⟨_,z'⟩ hi hj
         .obtain⟨bb,cap,ty,sz,xs,xs',f,r1,r2,r3,r4,r5⟩:=hLrow q j4;have hq:=hpl (j-nx) q j2;rw[show nx+(j-nx)=j by omega,hj]at hq;rw[hi]at i2;injection i2 with i2;injection i2 with e1 e2;subst e1;subst e2;have:=hI1.inj ji q.1 b c c' ⟨_,i4⟩ ⟨_,r2⟩ i3 hq.symm;subst this;rw[i4]at r2;cases r2
         .rw[hold j j1]at hj;obtain⟨_,_,_,cs,z⟩:=hptr ji i i0;exact hI.inj i j b c c' ⟨_,z⟩ ⟨_,j4⟩ hi hj
        .obtain⟨bb,cap,ty,sz,xs,xs',f,r1,r2,r3,r4,r5⟩:=hLrow p i4;have hp:=hpl (i-nx) p i2;rw[show nx+(i-nx)=i by omega,hi]at hp;rcases hbox j y hy with⟨jj,b2',cap2,cs2,j1,j0,jl,j2,j3,j4,_,_⟩|⟨q,j1,j2,rfl,j4⟩|⟨y2,b2',cap2,j1,j2,j3,j4,j5,_,_⟩
         .rw[hold j j1,j2]at hj;injection hj with hj;injection hj with e1 e2;subst e1;subst e2
          have:=hI1.inj jj p.1 b2' cap2 c ⟨_,j4⟩ ⟨_,r2⟩ j3 hp.symm;subst this;rw[j4]at r2;cases r2
         .obtain⟨bb',cap',ty',sz',ys,ys',f',s1,s2,s3,s4,s5⟩:=hLrow q j4;have hq:=hpl (j-nx) q j2;rw[show nx+(j-nx)=j by omega,hj]at hq;have e:p.1=q.1:=hI1.inj p.1 q.1 b c c' ⟨_,r2⟩ ⟨_,s2⟩ hp.symm hq.symm;have h1:(L.map (·.1))[i-nx]?=some p.1:=by rw[au3,i2];rfl
          have h2:(L.map (·.1))[j-nx]?=some q.1:=by rw[au3,j2];rfl
          obtain⟨l1,g1'⟩:=ay0.1 h1;obtain⟨l2,g2'⟩:=ay0.1 h2;have:=b1b hLn l1 l2 (by rw[g1',g2',e]);omega
         .rw[hold j j1]at hj;obtain⟨t1,t2⟩:=hstay j4 hj j2 j3;rcases(hI1.at_ r2 hp.symm).2 with h|h
          .omega
          .exact absurd h t2
        .rw[hold i i1]at hi;obtain⟨t1,t2⟩:=hstay i4 hi i2 i3;rcases hbox j y hy with⟨jj,b2',cap2,cs2,j1,j0,jl,j2,j3,j4,_,_⟩|⟨q,j1,j2,rfl,j4⟩|⟨y2,b2',cap2,j1,j2,j3,j4,j5,_,_⟩
         .rw[hold j j1]at hj;obtain⟨_,_,_,cs',z'⟩:=hptr jj j j0;exact hI.inj i j b c c' ⟨_,i4⟩ ⟨_,z'⟩ hi hj
         .obtain⟨bb',cap',ty',sz',ys,ys',f',s1,s2,s3,s4,s5⟩:=hLrow q j4;have hq:=hpl (j-nx) q j2;rw[show nx+(j-nx)=j by omega,hj]at hq;rcases(hI1.at_ s2 hq.symm).2 with h|h
          .omega
          .exact absurd h t2
         .rw[hold j j1]at hj;exact hI.inj i j b c c' ⟨_,i4⟩ ⟨_,j4⟩ hi hj
       .rcases hbox i x hx with⟨j,b',cap',cs,i1,_,_,i2,i3,i4,⟨l,rfl⟩,_⟩|⟨p,i1,i2,rfl,i4⟩|⟨y,b',cap',i1,i2,i3,i4,i5,i6,_⟩
        .rw[hold i i1,i2]at hm;injection hm with hm;injection hm with e1 e2;subst e1;subst e2
         rcases b3C hI1 i4 i3 hM with hs|⟨_,_,_,_,hs,_⟩
         .exact absurd hs (as0 _)
         .cases hs
        .obtain⟨bb,cap',ty,sz,xs,xs',f,r1,r2,r3,r4,r5⟩:=hLrow p i4;have hp:=hpl (i-nx) p i2;rw[show nx+(i-nx)=i by omega,hm]at hp;rw[r3];rcases b3C hI1 r2 hp.symm hM with hs|⟨ty2,sz2,xs2,f2,hs,hid,hs2⟩
         .cases f with
          |false=>exact absurd hs (as0 _)
          |true=>show o<xs'.length*sz;rw[r4];exact hs
         .injection hs with h1 h2 h3 h4
          subst h1;subst h2;subst h3;subst h4;have:=c6Q hfr (hLmem p i4) hid r2;subst this;show o<xs'.length*sz;rw[r4];exact hs2
        .rw[hold i i1,i5]at hm;injection hm with hm;injection hm with e1 e2;subst e1;subst e2
         obtain⟨s1,s2⟩:=hstay i4 i5 i2 i3;have hM':=hnewb hM s1 s2;rcases b3C hI i4 i5 hM' with hs|⟨ty2,sz2,xs2,f2,rfl,hid,hs2⟩
         .exact aw9 hs i6
         .
          have hx3:x= .row ty2 sz2 xs2 true:=by
           replace hx:a0b ((a1R (h2,nx2) v).2.1++H) i=some x:=hx;rw[hget3 i,ay9 (by omega),b7 i i2 (by omega),b5F,ay9 i3,i4]at hx;simp only[hid,aw4]at hx;injection hx with hx
           exact hx.symm
          subst hx3;exact hs2
       .rw[hI1.frame b (aw9 hb hI.size) (λ hbc=> ?_)]
        .exact hI.frame b hb hbp
        .rcases hloc b hbc with h|h
         .omega
         .exact hbp h
       .rw[hold i (λ h=>hj (by
         show _/\i<nx+((a1R (h2,nx2) v).2.2-nx);omega))]
        exact hi
end
end
section
open Go.RowKit
def a2R(P:Program)(k:Nat)(asq:List V)(bs:List (List V))(v:V)(b:List (List V)):Prop:=b6L P k=true/\
 ∀{w:World} {M:Mem} {μ:Pl} {us:Array Value} {a:List Nat},Inv w.heap.size a w M μ (a0b (a0w 0 ([],bs.length) bs).1) w->(∀i,(a0w 0 ([],bs.length) bs).2<=i->μ i=none)->ListRep M μ asq us.toList->
  Go.Calls P k us w (Ret λ u c=>d6f w.heap.size a w M μ bs.length v b u c)
variable {P:Program}
theorem b6j{call:Calls}{n k:Nat}{args:List V}{h:HP}{nx:Nat}{q:V×St}(c0L:∀(k:Nat)(fn:Func),P.funcs[k]?=some fn->fn.name≠ "runtime.NumGoroutine")
  (hb:a1j P call n k args h nx=some q):b6L P k=true:=by
 grind[a1j,az3,b6L]
theorem c5d{prim:Nat->Option Fp}{inl:Nat->Bool}
  (c0L:∀(k:Nat) (fn:Func),P.funcs[k]?=some fn->fn.name≠ "runtime.NumGoroutine") (p:∀call,CallsOk P call->b5A P call)
  (g:∀k f asq bs v b,prim k=some f->f asq bs=some (v,b)->a2R P k asq bs v b):∀n,c6H P (a0d P prim inl n).cbv/\CallsOk P (a0d P prim inl n):=by
 intro n;induction n with
 |zero=>
  have h1:c6H P (a0d P prim inl 0).cbv:=λ h=>by simp[a0d]at h
  refine⟨h1,⟨λ hI hn ha h=>d0r h1 hI hn ha h,λ hk hI hn ha h=> ?_⟩⟩;grind[a0d]
 |succ n ih=>
  obtain⟨_,hc⟩:=ih;have hd:b5A P (a0d P prim inl n):= @p _ hc;have h1:c6H P (a0d P prim inl (n+1)).cbv:=by
   intro k asq bs v b h;simp only[a0d]at h;split at h
   .next f hf=>exact g k f asq bs v b hf h
   .simp only[Az0,az3]at h;obtain⟨⟨v1,s⟩,hb,⟨F,t⟩,a,⟨l,ms,ks⟩,i,h⟩:=h;split at h
    .cases h
    .next d=>
     have q:a1u (a0b s.h) ms ks=true:=by simpa using d
     injection h with h;injection h with e1 e2;subst e1;subst e2
     refine⟨b6j c0L hb,λ {w M μ us G} hI hn ha=>(b8v hc hd hI hn ha hb).mono λ e A he=> ?_⟩;cases e with
     |panicked c=>exact he.elim
     |outgrown=>exact he.elim
     |returned u=>
      obtain⟨B,m,H,I,J,C,o,Q⟩:=he;obtain⟨oss,e1,e2,e3,e4,e5,e6⟩:=a4N o i (a1a _);have r:∃ov,Imp (ext B m (a0b s.h) A ms) m (a0b s.h) A ov (λ s=>a1R s F) u/\t.2=(ov.flatMap a2y).reverse/\t.2.Nodup:=by
       unfold a5t at a;split at a
       .obtain⟨ov,g1,g2,g3,g4⟩:=c4I (msF:=ms) o a e4 C;grind
       .unfold c6k at a;split at a
        .next v0 K x y=>
         split at a
         .next z=>
          simp only[az0,az8]at a;obtain⟨rfl,rfl⟩:=a;obtain⟨ov,g1,g2,g3,g4⟩:=c4I (msF:=ms) o y e4 C;have D:ov.flatMap a2y=[]:=by
           have L:x.length=s.nx:=z;have:=an8 List.length g3;simp only[ar0,List.length_reverse,aq8]at this;exact ay7.1 (by omega)
          grind
         .cases a
        .cases a
      obtain⟨ov,g1,g3,g4⟩:=r;have N:ks=((ov++oss.flatten).flatMap a2y).reverse:=by
       have:=e5;simp only at this;rw[this,g3];simp
      have E:bs.length=(List.range bs.length).length:=by simp
      refine⟨B,m,a0b s.h,ms,ov,oss,H,I,J,o,g1,by grind,by grind,λ j l os hj h1 h2=>e3 j j l os (ao6 hj) h1 h2,?_,?_⟩
      .grind[b0R]
      grind[a1u]
  refine⟨h1,⟨λ hI hn ha h=>d0r h1 hI hn ha h,λ {base O R w M μ h nx k args us fn v S nx'} hk hI hn ha h=> ?_⟩⟩;simp only[a0d]at hk;grind[az2,b6j,b8v]
end
section
theorem a6v{A B:Type}{f f':A->Option B}:∀{l:List A},(∀a∈l,f a=f' a)->a0D f l=a0D f' l
 |[],_=>rfl
 |a::l,h=>by
  simp only[a0D];rw[h a (ay1 ..),a6v λ b hb=>h b (az9 _ hb)]
theorem a2N{S A B:Type}{f f':S->A->Option (B×S)}:∀{l:List A} {s:S},(∀a∈l,∀s,f s a=f' s a)->a0G f s l=a0G f' s l
 |[],_,_=>rfl
 |a::l,s,h=>by
  simp only[a0G];rw[h a (ay1 ..)];cases f' s a with
  |none=>rfl
  |some p=>obtain⟨b,c⟩:=p;simp only;rw[a2N λ b hb=>h b (az9 _ hb)]
def Agree(g g':G)(l:List Nat):Prop:=∀id∈l,g id=g' id
variable {g g':G} {l l':List Nat}
theorem Agree.left(h:Agree g g' (l++l')):Agree g g' l:=λ id hi=>h id (av4 _ hi)
theorem Agree.right(h:Agree g g' (l++l')):Agree g g' l':=λ id hi=>h id (aw2 _ hi)
theorem Agree.flat{A:Type}{f:A->List Nat}{l:List A}(h:Agree g g' (l.flatMap f)){a:A}(ha:a∈l):Agree g g' (f a):=λ id hi=>h id (ax9.2 ⟨a,ha,hi⟩)
section
variable {g g':G}
theorem a3T:∀(d:Nat) (ms:List Nat) (v:V),Agree g g' (a1O d g v)->a0C d g ms v=a0C d g' ms v/\a1O d g v=a1O d g' v
 |0,_,_,_=>⟨rfl,rfl⟩
 |d+1,ms,v,h=>by
  have hl:∀(l:List V),Agree g g' (l.flatMap (a1O d g))->(∀ms,a0G (a0C d g) ms l=a0G (a0C d g') ms l)/\l.flatMap (a1O d g)=l.flatMap (a1O d g'):=λ l h=>
   ⟨λ ms=>a2N λ a ha s=>(a3T d s a (h.flat ha)).1,by
    have:∀a∈l,a1O d g a=a1O d g' a:=λ a ha=>(a3T d [] a (h.flat ha)).2;clear h;induction l with
    |nil=>rfl
    |cons a l ih=>grind⟩
  cases v with
  |agg cs=>simp only[a1O]at h;obtain⟨h1,h2⟩:=hl cs h;simp_all[a0C,a1O]
  |tup cs=>simp only[a1O]at h;obtain⟨h1,h2⟩:=hl cs h;simp_all[a0C,a1O]
  |row id sz off n=>
   simp only[a1O]at h;have h0:=h id (ay1 ..);have b:Agree g g' (match g id with
    |some (.row _ _ xs _)=>((xs.drop off).take n).flatMap (a1O d g)
    |_=>[]):=λ i hi=>h i (az9 _ hi)
   simp only[a0C,a1O,<-h0];grind
  |_=>exact⟨rfl,rfl⟩
theorem b3T{A:Type}{f f':A->List Nat}:∀{l:List A},(∀a∈l,f a=f' a)->l.flatMap f=l.flatMap f'
 |[],_=>rfl
 |a::l,h=>by simp only[List.flatMap_cons];rw[h a (ay1 ..),b3T λ b hb=>h b (az9 _ hb)]
theorem a3X:∀(d:Nat) (s:List Nat×List Nat) (v:V),Agree g g' (a2D d g v)->a1y d g s v=a1y d g' s v/\a2D d g v=a2D d g' v
 |0,_,_,_=>⟨rfl,rfl⟩
 |d+1,(ms,ps),v,h=>by
  have dat:Agree g g' (a1O ED g v)->((match a0C ED g ms v with
    |some (v,ms)=>some (v,ms,ps)
    |none=>none)=(match a0C ED g' ms v with
    |some (v,ms)=>some (v,ms,ps)
    |none=>none))/\a1O ED g v=a1O ED g' v:=λ h=>by
   grind[a3T]
  cases v with
  |ptr id off=>
   simp only[a2D]at h;have h0:=h id (ay1 ..);refine⟨rfl,?_⟩;simp only[a2D,<-h0];have e:Agree g g' (match g id with
    |some (.var cs)=>cs.flatMap (a1O (ED+1) g)
    |_=>[]):=λ i hi=>h i (az9 _ hi)
   cases hg:g id with
   |none=>rfl
   |some x=>
    cases x with
    |var cs=>rw[hg]at e;simp only;rw[b3T λ a ha=>(a3T (ED+1) [] a (e.flat ha)).2]
    |_=>rfl
  |fn f a b=>simp only[a2D]at h;have h1:a0G (a1y d g) (ms,ps) a=a0G (a1y d g') (ms,ps) a:=a2N λ x hx s=>(a3X d s x (h.left.flat hx)).1;have h2:∀s,a0G (a1y d g) s b=a0G (a1y d g') s b:=λ s=>a2N λ x hx s=>(a3X d s x (h.right.flat hx)).1;have e1:a.flatMap (a2D d g)=a.flatMap (a2D d g'):=b3T λ x hx=>(a3X d ([],[]) x (h.left.flat hx)).2;have e2:b.flatMap (a2D d g)=b.flatMap (a2D d g'):=b3T λ x hx=>(a3X d ([],[]) x (h.right.flat hx)).2;simp_all[a1y,a2D]
  |lit u=>exact dat (by grind[a2D])
  |nils=>exact dat (by grind[a2D])
  |slf xs=>exact dat (by grind[a2D])
  |sl o xs=>exact dat (by grind[a2D])
  |agg cs=>exact dat (by grind[a2D])
  |tup cs=>exact dat (by grind[a2D])
  |row a b c d=>exact dat (by grind[a2D])
  |eptr a b c d=>exact dat (by grind[a2D])
  |dptr cs=>exact dat (by grind[a2D])
  |map id=>exact dat (by grind[a2D])
  |und=>exact dat (by grind[a2D])
variable {p:V}
theorem b3b(h:Agree g g' (a2z p)):a0E g p=a0E g' p:=by
 cases p with
 |ptr id off=>have:=h id (by simp[a2z]);simp[a0E,this]
 |eptr id sz i off=>have:=h id (by simp[a2z]);simp[a0E,this]
 |_=>rfl
theorem b0m(h:Agree g g' (a2z p)):a4Q g p=a4Q g' p:=by
 cases p with
 |row id sz off n=>have:=h id (by simp[a2z]);simp[a4Q,this]
 |_=>rfl
theorem b7X(h:Agree g g' (a2z p)):a4j g p=a4j g' p:=by
 cases p with
 |lit u=>cases u<;>rfl
 |row id sz off n=>exact b0m h
 |_=>rfl
theorem b4a{vs:List V}(h:Agree g g' (a2z p)):storeAt g p vs=storeAt g' p vs:=by
 cases p with
 |ptr id off=>have:=h id (by simp[a2z]);simp[storeAt,this]
 |eptr id sz i off=>have:=h id (by simp[a2z]);simp[storeAt,this]
 |_=>rfl
theorem b2Y{P:Program}{nx t u:Nat}{a x:V}(h1:Agree g g' (a2z a))(h2:Agree g g' (a2z x)):a0M P g nx t u a x=a0M P g' nx t u a x:=by
 unfold a0M;rw[b7X h2];cases a with
 |row id z off n=>have:=h1 id (by simp[a2z]);simp only[this]
 |_=>rfl
end
end
section
variable {g g':G}
theorem b1h:∀(d:Nat) (v:V),a1O d g v⊆a1O (d+1) g v
 |0,v=>λ _ h=>by simp[a1O]at h
 |d+1,v=>by
  have hl:∀(l:List V),l.flatMap (a1O d g)⊆l.flatMap (a1O (d+1) g):=λ l x hx=>by
   obtain⟨a,ha,hx⟩:=ax9.1 hx;exact ax9.2 ⟨a,ha,b1h d a hx⟩
  cases v with
  |agg cs=>exact hl cs
  |tup cs=>exact hl cs
  |row id sz off n=>
   simp only[a1O];intro x hx;rcases ay4.1 hx with rfl|hx
   .exact ay1 ..
   .refine az9 _ ?_;split at hx
    .next ty z xs f hg=>
     exact hl _ hx
    .cases hx
  |_=>exact λ _ h=>h
theorem b2M:∀(d:Nat) (ms:List Nat) (v j:V) (e:List Nat),a0C d g ms v=some (j,e)->∀x∈e,x∈ms\/x∈a1O d g v
 |0,_,_,_,_,h=>by simp[a0C]at h
 |d+1,ms,v,j,e,h=>by
  have hm:∀{l r:List V} {s i:List Nat},a0G (a0C d g) s l=some (r,i)->∀x∈i,x∈s\/x∈l.flatMap (a1O d g):=by
   intro l;induction l with
   |nil=>intro r s i h x hx;simp only[a0G,az0,az8]at h;exact .inl (h.2▸hx)
   |cons a l ih=>
    intro r s i h x hx;simp only[a0G]at h;split at h
    .cases h
    .next b k h1=>
     split at h
     .cases h
     .next bs p h2=>
      simp only[az0,az8]at h;obtain⟨_,rfl⟩:=h;rcases ih h2 x hx with h|h
      .rcases b2M d _ _ _ _ h1 x h with h|h
       .grind
       .grind
      .obtain⟨c,hc,h⟩:=ax9.1 h;exact .inr (ax9.2 ⟨c,az9 _ hc,h⟩)
  intro x hx;cases v with
  |lit u=>simp only[a0C,az0,az8]at h;exact .inl (h.2▸hx)
  |nils=>grind[a0C]
  |sl o xs=>grind[a0C]
  |slf xs=>grind[a0C]
  |agg cs=>
   simp only[a0C]at h;split at h
   .next l m hl=>simp only[az0,az8]at h;exact hm hl x (h.2▸hx)
   .cases h
  |tup cs=>
   simp only[a0C]at h;split at h
   .next l m hl=>simp only[az0,az8]at h;exact hm hl x (h.2▸hx)
   .cases h
  |row id sz off n=>
   simp only[a0C]at h;split at h
   .next ty z xs f hg=>
    split at h
    .split at h
     .next l m hl=>
      simp only[az0,az8]at h;obtain⟨_,rfl⟩:=h;simp only[a1O,hg];rcases hm hl x hx with h|h
      .rcases ay4.1 h with rfl|h
       .grind
       .grind
      .grind
     .cases h
    .cases h
   .cases h
  |_=>simp[a0C]at h
theorem b8Y{d:Nat}:∀{l r:List V} {s e:List Nat},a0G (a0C d g) s l=some (r,e)->∀x∈e,x∈s\/x∈l.flatMap (a1O d g)
 |[],r,s,e,h,x,hx=>by simp only[a0G,az0,az8]at h;exact .inl (h.2▸hx)
 |a::l,r,s,e,h,x,hx=>by
  simp only[a0G]at h;split at h
  .cases h
  .next b f h1=>
   split at h
   .cases h
   .next bs i h2=>
    simp only[az0,az8]at h;obtain⟨_,rfl⟩:=h;rcases b8Y h2 x hx with h|h
    .rcases b2M d _ _ _ _ h1 x h with h|h
     .exact .inl h
     .exact .inr (ax9.2 ⟨a,ay1 ..,h⟩)
    .obtain⟨c,hc,h⟩:=ax9.1 h;exact .inr (ax9.2 ⟨c,az9 _ hc,h⟩)
variable {s:List Nat×List Nat} {v:V}
theorem a7E(h:Agree g g' (a1O (ED+1) g v)):a0h g s v=a0h g' s v/\
  ∀c b,a0h g s v=some (c,b)->(∀x∈b.1,x∈s.1\/x∈a1O (ED+1) g v)/\∀x∈b.2,x∈s.2\/x∈a1O (ED+1) g v:=by
 have h8:Agree g g' (a1O ED g v):=λ i hi=>h i (b1h ED v hi);have dat:(match a0C ED g s.1 v with
   |some (v,ms)=>some (v,ms,s.2)
   |none=>none)=(match a0C ED g' s.1 v with
   |some (v,ms)=>some (v,ms,s.2)
   |none=>none):=by grind[a3T]
 have d:∀c b,(match a0C ED g s.1 v with
   |some (v,ms)=>some (v,ms,s.2)
   |none=>none)=some (c,b)->(∀x∈b.1,x∈s.1\/x∈a1O (ED+1) g v)/\∀x∈b.2,x∈s.2\/x∈a1O (ED+1) g v:=by
  intro c b h;split at h
  .next he=>
   simp only[az0,az8]at h;obtain⟨_,rfl⟩:=h;exact⟨λ x hx=>(b2M ED _ _ _ _ he x hx).imp (λ h=>h) (λ h=>b1h ED v h),λ x hx=> .inl hx⟩
  .cases h
 cases v with
 |row id sz off n=>
  have h0:=h id (by simp[a1O]);simp only[a0h,<-h0];cases hg:g id with
  |none=>exact⟨rfl,λ c b h=>by cases h⟩
  |some x=>
   cases x with
   |row ty z xs f=>
    simp only;split
    .next hc=>
     obtain⟨rfl,rfl,rfl,_⟩:=hc;have hx:Agree g g' (xs.flatMap (a1O ED g)):=λ i hi=>h i (by
      simp only[a1O,hg];refine az9 _ ?_;simpa[a1O]using hi)
     have e:a0G (a0C ED g) s.1 xs=a0G (a0C ED g') s.1 xs:=a2N λ a ha s=>(a3T ED s a (hx.flat ha)).1;rw[<-e];refine⟨rfl,λ c b h=> ?_⟩;split at h
     .next l m hl=>
      simp only[az0,az8]at h;obtain⟨_,rfl⟩:=h;refine⟨λ x hx=>(b8Y hl x hx).imp (λ h=>h) λ h=> ?_,λ x hx=> ?_⟩
      .simp only[a1O,hg];refine az9 _ ?_;simpa[a1O]using h
      .rcases ay4.1 hx with rfl|hx;all_goals grind[a1O]
     .cases h
    .exact⟨dat,d⟩
   |_=>grind
 |dptr cs=>
  cases cs with
  |nil=>exact⟨rfl,λ c b h=>by
    simp only[a0h,az0,az8]at h;obtain⟨_,rfl⟩:=h;exact⟨λ x hx=> .inl hx,λ x hx=> .inl hx⟩⟩
  |cons _ _=>exact⟨dat,d⟩
 |_=>exact⟨dat,d⟩
variable {id:Nat}
theorem b7g:∀i∈a1O (ED+1) g (a0S id v),i∈a1O (ED+1) g v:=by
 intro i hi;unfold a0S at hi;split at hi
 .split at hi
  .simp[a1O]at hi
  .exact hi
 .exact hi
theorem a5F{cs:List V}:∀i∈(cs.map (a0S id)).flatMap (a1O (ED+1) g),i∈cs.flatMap (a1O (ED+1) g):=by
 intro i hi;obtain⟨x,hx,hi⟩:=ax9.1 hi;obtain⟨y,hy,rfl⟩:=ax5.1 hx;exact ax9.2 ⟨y,hy,b7g i hi⟩
theorem a8F(h0:g id=g' id)(h:∀cs,g id=some (.var cs)->Agree g g' (cs.flatMap (a1O (ED+1) g))):a1x g s id=a1x g' s id/\
  ∀c d,a1x g s id=some (c,d)->∃cs,g id=some (.var cs)/\(∀x∈d.1,x∈s.1\/x∈cs.flatMap (a1O (ED+1) g))/\∀x∈d.2,x∈s.2\/x∈cs.flatMap (a1O (ED+1) g):=by
 unfold a1x;rw[<-h0];cases hg:g id with
 |none=>exact⟨rfl,λ c d h=>by cases h⟩
 |some x=>
  cases x with
  |var cs=>
   have f:=h cs hg;have hc:Agree g g' ((cs.map (a0S id)).flatMap (a1O (ED+1) g)):=λ i hi=>f i (a5F i hi);simp only;split
   .exact⟨rfl,λ c d h=>by cases h⟩
   refine⟨a2N λ a ha s=>(a7E (hc.flat ha)).1,λ c d h=>⟨cs,rfl,?_⟩⟩;clear hg h0;have key:∀(cs:List V) {c:List V} {s d:List Nat×List Nat},Agree g g' (cs.flatMap (a1O (ED+1) g))->a0G (a0h g) s cs=some (c,d)->(∀x∈d.1,x∈s.1\/x∈cs.flatMap (a1O (ED+1) g))/\∀x∈d.2,x∈s.2\/x∈cs.flatMap (a1O (ED+1) g):=by
    intro cs;induction cs with
    |nil=>intro c s d _ h;simp only[a0G,az0,az8]at h;obtain⟨_,rfl⟩:=h;exact⟨λ x hx=> .inl hx,λ x hx=> .inl hx⟩
    |cons a cs ih=>
     intro c s d ha h;simp only[a0G]at h;split at h
     .cases h
     .next b q h1=>
      split at h
      .cases h
      .next bs r h2=>
       simp only[az0,az8]at h;obtain⟨_,rfl⟩:=h;have j:Agree g g' (a1O (ED+1) g a):=ha.flat (ay1 ..);obtain⟨k,l⟩:=(a7E j).2 _ _ h1;obtain⟨m,n⟩:=ih (λ i hi=>ha i (by
        obtain⟨x,hx,hi⟩:=ax9.1 hi;exact ax9.2 ⟨x,az9 _ hx,hi⟩)) h2
       have up:∀x,x∈a1O (ED+1) g a->x∈(a::cs).flatMap (a1O (ED+1) g):=λ x hx=>ax9.2 ⟨a,ay1 ..,hx⟩;have e:∀x,x∈cs.flatMap (a1O (ED+1) g)->x∈(a::cs).flatMap (a1O (ED+1) g):=λ x hx=>by
        obtain⟨y,hy,hx⟩:=ax9.1 hx;exact ax9.2 ⟨y,az9 _ hy,hx⟩
       exact⟨λ x hx=>(m x hx).elim (λ h=>(k x h).imp (λ h=>h) (up x)) (λ h=> .inr (e x h)),λ x hx=>(n x hx).elim (λ h=>(l x h).imp (λ h=>h) (up x)) (λ h=> .inr (e x h))⟩
   obtain⟨o,p⟩:=key _ hc h;exact⟨λ x hx=>(o x hx).imp (λ h=>h) (a5F x),λ x hx=>(p x hx).imp (λ h=>h) (a5F x)⟩
  |_=>grind
theorem b8V:∀(d:Nat) (s j:List Nat×List Nat) (v c:V),a1y d g s v=some (c,j)->(∀x∈j.1,x∈s.1\/x∈a2D d g v)/\
  ∀x∈j.2,x∈s.2\/(x∈a2D d g v/\∀cs,g x=some (.var cs)->cs.flatMap (a1O (ED+1) g)⊆a2D d g v)
 |0,_,_,_,_,h=>by simp[a1y]at h
 |d+1,(ms,ps),j,v,c,h=>by
  have hm:∀(l:List V) {r:List V} {s j:List Nat×List Nat},a0G (a1y d g) s l=some (r,j)->(∀x∈j.1,x∈s.1\/x∈l.flatMap (a2D d g))/\
    ∀x∈j.2,x∈s.2\/(x∈l.flatMap (a2D d g)/\∀cs,g x=some (.var cs)->cs.flatMap (a1O (ED+1) g)⊆l.flatMap (a2D d g)):=by
   intro l;induction l with
   |nil=>intro r s j h;simp only[a0G,az0,az8]at h;obtain⟨_,rfl⟩:=h;exact⟨λ x hx=> .inl hx,λ x hx=> .inl hx⟩
   |cons a l ih=>
    intro r s j h;simp only[a0G]at h;split at h
    .cases h
    .next b u h1=>
     split at h
     .cases h
     .next bs w h2=>
      simp only[az0,az8]at h;obtain⟨_,rfl⟩:=h;obtain⟨n,o⟩:=b8V d _ _ _ _ h1;obtain⟨p,q⟩:=ih h2;have up:a2D d g a⊆(a::l).flatMap (a2D d g):=λ x hx=>ax9.2 ⟨a,ay1 ..,hx⟩;have m:l.flatMap (a2D d g)⊆(a::l).flatMap (a2D d g):=λ x hx=>by
       obtain⟨y,hy,hx⟩:=ax9.1 hx;exact ax9.2 ⟨y,az9 _ hy,hx⟩
      refine⟨λ x hx=>(p x hx).elim (λ h=>(n x h).imp (λ h=>h) (λ h=>up h)) (λ h=> .inr (m h)),λ x hx=> ?_⟩;rcases q x hx with h|⟨h,k⟩
      .rcases o x h with h|⟨h,k⟩
       .exact .inl h
       .exact .inr ⟨up h,λ cs i=>aw3 (k cs i) up⟩
      .exact .inr ⟨m h,λ cs i=>aw3 (k cs i) m⟩
  have t:a2D (d+1) g v=a1O ED g v->(match a0C ED g ms v with
    |some (v,ms)=>some (v,ms,ps)
    |none=>none)=some (c,j)->(∀x∈j.1,x∈ms\/x∈a2D (d+1) g v)/\∀x∈j.2,x∈ps\/(x∈a2D (d+1) g v/\∀cs,g x=some (.var cs)->cs.flatMap (a1O (ED+1) g)⊆a2D (d+1) g v):=by
   intro e h;rw[e];split at h
   .next he=>
    simp only[az0,az8]at h;obtain⟨_,rfl⟩:=h;exact⟨λ x hx=>b2M ED _ _ _ _ he x hx,λ x hx=> .inl hx⟩
   .cases h
  cases v with
  |ptr id off=>
   simp only[a1y]at h;split at h
   .cases h
   .split at h
    .simp only[az0,az8]at h;obtain⟨_,rfl⟩:=h;exact⟨λ x hx=> .inl hx,λ x hx=> .inl hx⟩
    .simp only[az0,az8]at h;obtain⟨_,rfl⟩:=h;refine⟨λ x hx=> .inl hx,λ x hx=> ?_⟩;rcases ax1.1 hx with h|h
     .exact .inl h
     .have:x=id:=by simpa using h
      subst this;refine .inr ⟨by simp[a2D],λ cs i=> ?_⟩;simp only[a2D,i];exact λ y hy=>az9 _ hy
  |fn f a b=>
   simp only[a1y]at h;split at h
   .cases h
   .next l1 u h1=>
    split at h
    .cases h
    .next l2 w h2=>
     simp only[az0,az8]at h;obtain⟨_,rfl⟩:=h;obtain⟨n,o⟩:=hm a h1;obtain⟨p,q⟩:=hm b h2;simp only[a2D];refine⟨λ x hx=>(p x hx).elim (λ h=>(n x h).imp (λ h=>h) (λ h=>av4 _ h)) (λ h=> .inr (aw2 _ h)),λ x hx=> ?_⟩;rcases q x hx with h|⟨h,k⟩
     .rcases o x h with h|⟨h,k⟩
      .exact .inl h
      .exact .inr ⟨av4 _ h,λ cs i=>aw3 (k cs i) (List.subset_append_left _ _)⟩
     .exact .inr ⟨aw2 _ h,λ cs i=>aw3 (k cs i) (List.subset_append_right _ _)⟩
  |_=>exact t rfl h
end
section
variable {g g':G}
theorem b6t{d:Nat}:∀{l r:List V} {s c:List Nat×List Nat},a0G (a1y d g) s l=some (r,c)->(∀x∈c.1,x∈s.1\/x∈l.flatMap (a2D d g))/\
  ∀x∈c.2,x∈s.2\/(x∈l.flatMap (a2D d g)/\∀cs,g x=some (.var cs)->cs.flatMap (a1O (ED+1) g)⊆l.flatMap (a2D d g))
 |[],r,s,c,h=>by
  simp only[a0G,az0,az8]at h;grind
 |a::l,r,s,c,h=>by
  simp only[a0G]at h;split at h
  .cases h
  .next b n h1=>
   split at h
   .cases h
   .next bs o h2=>
    simp only[az0,az8]at h;obtain⟨_,rfl⟩:=h;obtain⟨f,i⟩:=b8V d _ _ _ _ h1;obtain⟨j,m⟩:=b6t h2;have up:a2D d g a⊆(a::l).flatMap (a2D d g):=λ x hx=>ax9.2 ⟨a,ay1 ..,hx⟩;have e:l.flatMap (a2D d g)⊆(a::l).flatMap (a2D d g):=λ x hx=>by
     grind
    refine⟨λ x hx=>(j x hx).elim (λ h=>(f x h).imp (λ h=>h) (λ h=>up h)) (λ h=> .inr (e h)),λ x hx=> ?_⟩;rcases m x hx with h|⟨h,k⟩
    .rcases i x h with h|⟨h,k⟩
     .grind
     .grind
    .grind
variable {A ps:List Nat}
theorem c2n{o:List Nat×List Nat->Nat->Option (List V×List Nat×List Nat)}:∀{s:List Nat×List Nat},(∀x∈ps,∀s c a,o s x=some (c,a)->(∀y∈a.1,y∈s.1\/y∈A)/\∀y∈a.2,y∈s.2\/y∈A)->
  ∀r a,a0G o s ps=some (r,a)->(∀x∈a.1,x∈s.1\/x∈A)/\∀x∈a.2,x∈s.2\/x∈A:=by
 induction ps with
 |nil=>intro s _ r a h;simp only[a0G,az0,az8]at h;grind
 |cons id ps ih=>
  intro s h r a hr;have d:=λ x hx=>h x (az9 id hx);have h0:=h id (ay1 ..) s;cases hv:o s id with
  |none=>grind[a0G]
  |some p=>
   obtain⟨b,e⟩:=p;have i2:=ih (s:=e) d;simp only[a0G,hv]at hr;cases h3:a0G o e ps with
   |none=>grind
   |some q=>obtain⟨bs,l⟩:=q;rw[h3]at hr;simp only[az0,az8]at hr;obtain⟨_,rfl⟩:=hr;obtain⟨f,i⟩:=h0 _ _ hv;obtain⟨j,k⟩:=i2 _ _ h3;exact⟨λ x hx=>(j x hx).elim (f x) .inr,λ x hx=>(k x hx).elim (i x) .inr⟩
variable {s:List Nat×List Nat}
theorem c2I(hA:Agree g g' A){x:Nat}(hx:x∈A)(hc:∀cs,g x=some (.var cs)->cs.flatMap (a1O (ED+1) g)⊆A){c:List V}{b:List Nat×List Nat}(h:a1x g s x=some (c,b)):(∀y∈b.1,y∈s.1\/y∈A)/\∀y∈b.2,y∈s.2\/y∈A:=by
 obtain⟨cs,a,d,e⟩:=(a8F (s:=s) (hA x hx) (λ cs a=>λ i hi=>hA i (hc cs a hi))).2 c b h;have hs:=hc cs a;revert d e hs;generalize cs.flatMap (a1O (ED+1) g)=L;intro d e hs;exact⟨λ y hy=>(d y hy).imp id (λ h=>hs h),λ y hy=>(e y hy).imp id (λ h=>hs h)⟩
theorem c0A(hA:Agree g g' A)(h:∀x∈ps,x∈A/\∀cs,g x=some (.var cs)->cs.flatMap (a1O (ED+1) g)⊆A):a0G (a1x g) s ps=a0G (a1x g') s ps/\
  ∀r a,a0G (a1x g) s ps=some (r,a)->(∀x∈a.1,x∈s.1\/x∈A)/\∀x∈a.2,x∈s.2\/x∈A:=
 ⟨a2N λ x hx s=>(a8F (s:=s) (hA x (h x hx).1) (λ cs b=>λ i hi=>hA i ((h x hx).2 cs b hi))).1,
  c2n λ x hx s c a e=>c2I hA (h x hx).1 (h x hx).2 e⟩
def Keys(h:HP)(nx:Nat)(h2:HP)(nx2:Nat)(A:List Nat):Prop:=nx<=nx2/\∀p∈h2,p∈h\/(nx<=p.1/\p.1<nx2)\/p.1∈A
variable {h:HP} {nx:Nat}
theorem Keys.refl:Keys h nx h nx A:=⟨ay3 _,λ p hp=> .inl hp⟩
theorem Keys.trans{h1 h2:HP}{c nx2:Nat}(a:Keys h nx h1 c A)(b:Keys h1 c h2 nx2 A):Keys h nx h2 nx2 A:=by
 refine⟨av9 a.1 b.1,λ p hp=> ?_⟩;have h1:=a.1;have h2:=b.1;rcases b.2 p hp with h|h|h
 .rcases a.2 p h with h|h|h
  .grind
  .grind
  .grind
 .grind
 .grind
variable {c:V}
theorem a9O:Keys h nx (a0J (h,nx) c).2.1 (a0J (h,nx) c).2.2 A:=by
 unfold a0J;split
 .refine⟨by simp,λ p hp=> ?_⟩;rcases ay4.1 hp with rfl|hp
  .exact .inr (.inl (by simp))
  .grind
 .exact Keys.refl
theorem a5u{A:List Nat}:∀{l:List V} {h:HP} {nx:Nat},Keys h nx (a0f (h,nx) l).2.1 (a0f (h,nx) l).2.2 A
 |[],_,_=>Keys.refl
 |c::l,h,nx=>(a9O (c:=c)).trans (a5u (l:=l))
theorem b0K:Keys h nx (a2B (h,nx) c).2.1 (a2B (h,nx) c).2.2 A:=by
 by_cases h1:a3E c=1
 .cases c<;>first|exact a5u|cases h1
 .rw[a4X h1];exact a9O
theorem a8D{A:List Nat}:∀{l:List V} {h:HP} {nx:Nat},Keys h nx (a1Z (h,nx) l).2.1 (a1Z (h,nx) l).2.2 A
 |[],_,_=>Keys.refl
 |c::l,h,nx=>(b0K (c:=c)).trans (a8D (l:=l))
theorem c0U:Keys h nx (a1R (h,nx) c).2.1 (a1R (h,nx) c).2.2 A:=by
 by_cases h1:a3E c=2
 .cases c<;>first|exact a8D|cases h1
 .rw[a6a h1];exact b0K
theorem a9W{A:List Nat}:∀{ps:List Nat} {bs:List (List V)} {h h2:HP} {nx nx2:Nat},(∀x∈ps,x∈A)->a2s (h,nx) ps bs=some (h2,nx2)->Keys h nx h2 nx2 A
 |[],[],h,h2,nx,nx2,_,e=>by
  simp only[a2s,az0,az8]at e;grind[Keys.refl]
 |[],_::_,_,_,_,_,_,e=>by simp[a2s]at e
 |_::_,[],_,_,_,_,_,e=>by simp[a2s]at e
 |id::ps,b::bs,h,h2,nx,nx2,hA,e=>by
  simp only[a2s]at e;have k:=a9W (λ x hx=>hA x (az9 _ hx)) e;refine Keys.trans (a5u (l:=b)) ⟨k.1,λ p hp=> ?_⟩;rcases k.2 p hp with h|h
  .rcases ay4.1 h with rfl|h
   .grind
   .grind
  .grind
variable {ms:List Nat}
theorem c0Q:∀p∈a3y g ms,p.1∈ms:=by
 induction ms with
 |nil=>intro p hp;cases hp
 |cons id ms ih=>
  intro p hp;simp only[a3y]at hp;split at hp
  .rcases ay4.1 hp with rfl|hp
   .grind
   .grind
  .grind
theorem b8f(h:Agree g g' ms):a3y g ms=a3y g' ms:=by
 induction ms with
 |nil=>rfl
 |cons id ms ih=>simp only[a3y];rw[h id (ay1 ..),ih λ x hx=>h x (az9 _ hx)]
theorem b5T{ks:List Nat}(h:Agree g g' ks):a1u g ms ks=a1u g' ms ks:=by
 unfold a1u;induction ks with
 |nil=>rfl
 |cons id ks ih=>simp only[Az3];rw[h id (ay1 ..),ih λ x hx=>h x (az9 _ hx)]
theorem b0z{call:a7F}{k:Nat}{args:List V}(h:Agree g g' (args.flatMap (a2D 4 g))):a1q call g nx k args=a1q call g' nx k args/\
  ∀r,a1q call g nx k args=some r->∀p∈r.upd,p.1∈args.flatMap (a2D 4 g)\/(nx<=p.1/\p.1<nx+r.cnt):=by
 unfold a1q;have e1:a0G (a1y 4 g) ([],[]) args=a0G (a1y 4 g') ([],[]) args:=a2N λ a ha s=>(a3X 4 s a (h.flat ha)).1;rw[<-e1];cases hm:a0G (a1y 4 g) ([],[]) args with
 |none=>grind
 |some t=>
  obtain⟨asq,ms,ps⟩:=t;simp only;obtain⟨i,j⟩:=b6t hm;have b:∀x∈ps,x∈args.flatMap (a2D 4 g)/\∀cs,g x=some (.var cs)->cs.flatMap (a1O (ED+1) g)⊆args.flatMap (a2D 4 g):=λ x hx=>(j x hx).resolve_left (by simp);obtain⟨e2,e3⟩:=c0A (s:=(ms,[])) h b;rw[<-e2];cases hv:a0G (a1x g) (ms,[]) ps with
  |none=>grind
  |some t=>
   obtain⟨bs,d,ks⟩:=t;simp only;obtain⟨l,m⟩:=e3 _ _ hv;have f:∀x∈d,x∈args.flatMap (a2D 4 g):=λ x hx=>(l x hx).elim (λ h=>(i x h).resolve_left (by simp)) (λ h=>h);have e:∀x∈ks,x∈args.flatMap (a2D 4 g):=λ x hx=>(m x hx).resolve_left (by simp);rw[<-b5T (g:=g) (g':=g') (ms:=d) λ x hx=>h x (e x hx),<-b8f (g:=g) (g':=g') λ x hx=>h x (f x hx)];refine⟨rfl,λ r hr=> ?_⟩;split at hr
   .cases hr
   .split at hr
    .cases hr
    .next v n hc=>
     split at hr
     .cases hr
     .next t hb=>
      obtain⟨h2,nx2⟩:=t;injection hr with hr
      subst hr;have k1:=a9W (A:=args.flatMap (a2D 4 g)) (λ x hx=>(b x hx).1) hb;have k2:=c0U (h:=h2) (nx:=nx2) (c:=v) (A:=args.flatMap (a2D 4 g));have k:=k1.trans k2;intro p hp;have o:=k.1;rcases k.2 p hp with h|h|h
      .rcases ax1.1 h with h|h
       .obtain⟨id,hid,rfl⟩:=ax5.1 h;exact .inl (e id hid)
       grind[c0Q]
      .refine .inr ⟨h.1,?_⟩;show p.1<nx+((a1R (h2,nx2) v).2.2-nx);omega
      .grind
end
section
variable {P:Program} {get w:Nat->V}
variable {xs:Array Operand}
theorem b0x(h:∀x∈xs,ev get x=ev w x):evs get xs=evs w xs:=a6v λ a ha=>h a (Array.mem_def.2 ha)
theorem a9Q{x:Option Operand}(h:∀y∈x.toArray,ev get y=ev w y):evo get x=evo w x:=by
 cases x with
 |none=>rfl
 |some x=>simp only[evo,h x (by simp)]
variable {call:Calls} {nx:Nat}
theorem d1J{g:G}(o:Oper)(h:∀x∈o.op.operands,ev get x=ev w x):opE P call get g nx o=opE P call w g nx o:=by
 obtain⟨d,op,type,pos,after,guard⟩:=o;have one:∀{x:Operand},x∈op.operands->ev get x=ev w x:=λ hx=>h _ hx;unfold opE;cases op;case call c=>
  grind[b0x,Op.operands,Call.operands]
 case build t ps=>
  have hp:∀pl,a0D (a3b get pl) ps.toList=a0D (a3b w pl) ps.toList:=λ pl=>a6v λ p hp=>by
   simp only[a3b];rw[one (x:=p.2) (by simp only[Op.operands,List.mem_toArray];grind)]
  simp only[hp]
 case buildSlice t n ps=>
  have hp:a0D (a3a get) ps.toList=a0D (a3a w) ps.toList:=a6v λ p hp=>by
   simp only[a3a];rw[one (x:=p.2) (by simp only[Op.operands,List.mem_toArray];grind)]
  simp only[hp]
 case makeFunc fn first cap=>
  have h1:evs get first=evs w first:=b0x λ x hx=>one (by simp[Op.operands,hx])
  have h2:evs get cap=evs w cap:=b0x λ x hx=>one (by simp[Op.operands,hx]);cases fn<;>grind
 case makeMap t r=>cases r<;>rfl
 case slice t x lo hi mx=>
  have h0:ev get x=ev w x:=one (by simp[Op.operands]);have h1:evo get lo=evo w lo:=a9Q λ y hy=>one (by grind[Op.operands]);have h2:evo get hi=evo w hi:=a9Q λ y hy=>one (by grind[Op.operands]);have h3:evo get mx=evo w mx:=a9Q λ y hy=>one (by grind[Op.operands]);simp only[h0,h1,h2,h3]
 case pick c a b=>
  have h0:ev get c=ev w c:=one (by simp[Op.operands]);have h1:ev get a=ev w a:=one (by simp[Op.operands]);have h2:ev get b=ev w b:=one (by simp[Op.operands]);have h3:∀t:Bool,ev get (if t then a else b)=ev w (if t then a else b):=λ t=>by grind
  simp only[h0,h3]
 case mapUpdate t m k x=>
  have h0:ev get m=ev w m:=one (by simp[Op.operands]);have h1:ev get k=ev w k:=one (by simp[Op.operands]);have h2:ev get x=ev w x:=one (by simp[Op.operands]);simp only[h0,h1,h2]
 case insert t m k x=>
  have h0:ev get m=ev w m:=one (by simp[Op.operands]);have h1:ev get k=ev w k:=one (by simp[Op.operands]);have h2:ev get x=ev w x:=one (by simp[Op.operands]);simp only[h0,h1,h2]
 all_goals first
  |rfl
  |grind[Op.operands]
  |grind[Op.operands]
  |grind[Op.operands]
  |(rename_i x y z
    have h0:ev get x=ev w x:=one (by simp[Op.operands]);have h1:ev get y=ev w y:=one (by simp[Op.operands]);simp only[h0,h1];done)
  |skip
theorem c6A(h:∀t,Operand.tmp t∈xs->get t=w t):∀x∈xs,ev get x=ev w x:=λ x hx=>by
 cases x with
 |tmp t=>simp only[ev,h t hx]
 |_=>rfl
theorem a7P{x:Operand}{v:V}(h:ev get x=some v):a5V get x=a2z v:=by simp only[a5V,h]
theorem a3h{A B:Type}{f:A->Option B}:∀{l:List A} {r:List B},a0D f l=some r->r.length=l.length/\(∀b∈r,∃a∈l,f a=some b)/\∀(i:Nat) (a:A),l[i]?=some a->∃b,r[i]?=some b/\f a=some b
 |[],r,h=>by
  simp only[a0D,az0]at h;grind
 |a::l,r,h=>by
  simp only[a0D]at h;split at h
  .cases h
  .next b h1=>
   split at h
   .cases h
   .next bs h2=>
    injection h with h
    subst h;obtain⟨p,q,s⟩:=a3h h2;refine⟨by simp[p],λ c hc=> ?_,λ i x hx=> ?_⟩
    .rcases ay4.1 hc with rfl|hc
     .grind
     .grind
    .cases i with
     |zero=>grind
     |succ i=>grind
variable {g g':G}
theorem d2H(o:Oper)(h:Agree g g' (a3q get o++a2w get g o)):opE P call get g nx o=opE P call get g' nx o:=by
 obtain⟨l,op,type,pos,after,guard⟩:=o;have hr:=h.left;have hw:=h.right;clear h;unfold opE;cases op;case load t a=>
  simp only;cases ha:ev get a with
  |none=>rfl
  |some p=>grind[a3q,a7P,b3b]
 case store t a x=>
  simp only;cases ha:ev get a with
  |none=>rfl
  |some p=>simp only[a2w,a7P ha]at hw;simp only[Az0,az1,b4a hw]
 case convert s d x=>
  simp only;cases ha:ev get x with
  |none=>rfl
  |some p=>simp only[a3q,a7P ha]at hr;simp only[Az0,az1,b0m hr]
 case insert t m k x=>
  simp only;cases ha:ev get m with
  |none=>rfl
  |some p=>
   simp only[a2w,a7P ha]at hw;simp only[Az0,az1];cases p with
   |map id=>have e:=hw id (by simp[a2z]);grind
   |_=>grind
 case mapUpdate t m k x=>
  simp only;cases ha:ev get m with
  |none=>rfl
  |some p=>
   simp only[a2w,a7P ha]at hw;simp only[Az0,az1];cases p with
   |map id=>have e:=hw id (by simp[a2z]);grind
   |_=>grind
 case lookup t m k b=>
  simp only;cases ha:ev get m with
  |none=>rfl
  |some p=>
   simp only[a3q,a7P ha]at hr;simp only[Az0,az1];cases p with
   |map id=>have e:=hr id (by simp[a2z]);grind
   |_=>grind
 case call c=>
  obtain⟨callee,args,i⟩:=c;simp only;cases ha:evs get args with
  |none=>rfl
  |some asq=>
   simp only[Az0,az1];obtain⟨l1,l2,l3⟩:=a3h ha;cases callee with
   |builtin b=>
    cases b;case append=>
     simp only;split
     .next a x t u _=>
      have e0:∀y,args[0]?=some y->ev get y=some a:=λ y hy=>by
       obtain⟨b,hb,e⟩:=l3 0 y (by grind);grind
      have e1:∀y,args[1]?=some y->ev get y=some x:=λ y hy=>by
       obtain⟨b,hb,e⟩:=l3 1 y (by grind);grind
      have j:args.size=2:=by simpa using l1.symm
      obtain⟨n,h0⟩:∃y,args[0]?=some y:=⟨args[0],by simp[j]⟩;obtain⟨q,h1⟩:∃y,args[1]?=some y:=⟨args[1],by simp[j]⟩;simp only[a2w,h0,a7P (e0 n h0)]at hw;simp only[a3q,h1,a7P (e1 q h1)]at hr;exact b2Y hw hr
     .rfl
    all_goals rfl
   |invoke r m=>rfl
   |value f=>
    simp only;cases hf:ev get f with
    |none=>rfl
    |some v=>
     simp only[az1];cases v with
     |fn k a b=>
      simp only;split
      .rfl
      .refine(b0z ?_).1;simp only[a2w,hf,d5h]at hw;intro id hid;refine hw id ?_;simp only[Az9,ax1]at hid|-;rcases hid with(hid|hid)|hid
       .grind
       .obtain⟨v,hv,hid⟩:=ax9.1 hid;obtain⟨y,hy,e⟩:=l2 v hv;exact .inr (ax9.2 ⟨y,hy,by grind⟩)
       .grind
     |_=>rfl
 case makeFunc fn first cap=>cases fn<;>rfl
 case makeMap t r=>cases r<;>rfl
 all_goals rfl
end
section
def Turns(L:List Nat)(nx:Nat)(x:Option Out):Prop:=∀r,x=some r->∀p∈r.upd,p.1∈L\/(nx<=p.1/\p.1<nx+r.cnt)
variable {L:List Nat} {nx:Nat}
theorem Turns.none:Turns L nx none:=nofun
theorem Turns.bind{A:Type}{x:Option A}{f:A->Option Out}(h:∀a,x=some a->Turns L nx (f a)):Turns L nx (x.bind f):=by
 cases x with
 |none=>exact Turns.none
 |some a=>exact h a rfl
variable {k:Nat} {v:V}
theorem Turns.nil:Turns L nx (some {v:=v,upd:=[],cnt:=k}):=λ r h p hp=>by
 cases h;cases hp
theorem a4C:Turns L nx (pure {v:=v,upd:=[],cnt:=k}):=Turns.nil
variable {b:Option Box}
theorem Turns.new:Turns L nx (some {v:=v,upd:=[(nx,b)],cnt:=1}):=λ r h p hp=>by
 cases h;have:p=(nx,b):=by simpa using hp
 subst this;exact .inr ⟨ay3 _,au5 _⟩
theorem a6y:Turns L nx (pure {v:=v,upd:=[(nx,b)],cnt:=1}):=Turns.new
theorem Turns.one{id:Nat}(h:id∈L):Turns L nx (pure {v:=v,upd:=[(id,b)],cnt:=k}):=λ r a p hp=>by
 injection a with a;subst a
 have:p=(id,b):=by simpa using hp
 subst this;exact .inl h
theorem b5b{g:G}{p:V}{vs:List V}{u:HP}(h:storeAt g p vs=some u):∀q∈u,q.1∈a2z p:=by
 unfold storeAt at h;split at h
 .split at h
  .split at h
   .split at h
    .cases h
    cases h;intro q hq;have:q.1=_:=an8 Prod.fst (az7.1 hq);simp[a2z,this]
   .cases h
  .cases h
 .split at h
  .simp only[Az0]at h;obtain⟨x,_,h⟩:=az3.1 h;split at h
   .obtain⟨a,_,h⟩:=az3.1 h;cases h;intro q hq;have:q.1=_:=an8 Prod.fst (az7.1 hq);simp[a2z,this]
   .cases h
  .cases h
 .cases h
theorem b4j{P:Program}{g:G}{t u:Nat}{a x:V}:Turns (a2z a) nx (a0M P g nx t u a x):=by
 unfold a0M;simp only[Az0];refine Turns.bind λ e _=>Turns.bind λ i _=>Turns.bind λ z _=>Turns.bind λ d _=>Turns.bind λ b _=> ?_;split
 .exact Turns.none
 .split
  .split
   .exact a4C
   .split
    .exact Turns.none
    .exact a6y
  .split
   .exact a4C
   .split
    .exact Turns.none
    .exact a6y
  .split
   .split
    .exact Turns.none
    .intro r h p hp;cases h;rcases ay4.1 hp with rfl|hp
     .exact .inr ⟨ay3 _,au5 _⟩
     .have:p=_:=az7.1 hp;subst this;exact .inl (by simp[a2z])
   .exact Turns.none
  .exact Turns.none
variable {P:Program} {get:Nat->V} {g:G}
theorem c4z{call:Calls}(o:Oper):Turns (a2w get g o) nx (opE P call get g nx o):=by
 obtain⟨dst,op,type,pos,after,guard⟩:=o;unfold opE;simp only[Az0];cases op;case store t a x=>
  simp only;refine Turns.bind λ p hp=>Turns.bind λ v _=>Turns.bind λ n _=> ?_;split
  .exact Turns.none
  .refine Turns.bind λ u hu=> ?_;intro r h q hq;cases h;exact .inl (by simp only[a2w,a7P hp];grind[b5b])
 case insert t m k x=>
  simp only;refine Turns.bind λ p hp=> ?_;split
  .next id _ _ _=>
   split
   .refine Turns.bind λ key _=>Turns.bind λ ku _=>Turns.bind λ v _=> ?_;split
    .exact Turns.none
    .refine Turns.bind λ fk _=> ?_;split
     .split
      .exact Turns.one (by simp[a2w,a7P hp,a2z])
      .exact Turns.none
     .exact Turns.one (by simp[a2w,a7P hp,a2z])
   .exact Turns.none
  .exact Turns.none
 case mapUpdate t m k x=>
  simp only;refine Turns.bind λ p hp=> ?_;split
  .next id _ _ _=>
   split
   .refine Turns.bind λ key _=>Turns.bind λ ku _=>Turns.bind λ v _=> ?_;split
    .exact Turns.none
    .refine Turns.bind λ fk _=> ?_;split
     .split
      .exact Turns.one (by simp[a2w,a7P hp,a2z])
      .exact Turns.none
     .exact Turns.one (by simp[a2w,a7P hp,a2z])
   .exact Turns.none
  .exact Turns.none
 case call c=>
  obtain⟨callee,args,argTypes⟩:=c;simp only;refine Turns.bind λ asq ha=> ?_;obtain⟨l1,l2,l3⟩:=a3h ha;cases callee with
  |builtin b=>
   cases b;case append=>
    simp only;split
    .next a x t u _=>
     have hsz:args.size=2:=by simpa using l1.symm
     obtain⟨y0,h0⟩:∃y,args[0]?=some y:=⟨args[0],by simp[hsz]⟩;have e0:ev get y0=some a:=by
      obtain⟨b,hb,e⟩:=l3 0 y0 (by rw[<-ap9]at h0;exact h0);simp only[as6,az0]at hb;subst hb;exact e
     simp_all[a2w,a7P,b4j]
    .exact Turns.none
   all_goals
    simp only;repeat' first|exact Turns.none|exact a4C|(refine Turns.bind λ _ _=> ?_)|split
  |invoke r m=>exact Turns.none
  |value f=>
   simp only;refine Turns.bind λ v hf=> ?_;cases v with
   |fn k a b=>
    simp only;split
    .exact Turns.none
    .intro r hr p hp;rcases(b0z (g:=g) (g':=g) (λ id _=>rfl)).2 r hr p hp with h|h
     .refine .inl ?_;simp only[a2w,hf,d5h];simp only[Az9,ax1]at h|-;rcases h with(h|h)|h
      .grind
      .obtain⟨v,hv,hid⟩:=ax9.1 h;obtain⟨y,hy,e⟩:=l2 v hv;exact .inr (ax9.2 ⟨y,hy,by grind⟩)
      .grind
     .grind
   |_=>exact Turns.none
 case makeFunc fn first cap=>
  cases fn<;>first|exact Turns.none|skip
  grind[Turns.bind,a4C]
 case makeMap t r=>cases r<;>grind[a6y,Turns.none]
 all_goals first
  |exact Turns.none
  |(simp only
    repeat' first|exact Turns.none|exact a4C|exact a6y|(refine Turns.bind λ _ _=> ?_)|split)
end
section
def a5p(a:Array Nat)(o:Oper):Array Nat:=a.push (o.after.foldl (λ s e=>if Region.binds .any e then s|||2^e.on|||a.getD e.on 0 else s) 0)
def SpecB(L:List Oper)(a:Array Nat):Prop:=a.size=L.length/\∀(j:Nat) (o:Oper) (i:Nat),L[j]?=some o->(a.getD j 0).testBit i=true->
 ∃e∈o.after,Region.binds .any e=true/\(i=e.on\/(e.on<j/\(a.getD e.on 0).testBit i=true))
theorem d4N{a:Array Nat}{i:Nat}:∀(l:List Edge) (s:Nat),(l.foldl (λ s e=>if Region.binds .any e then s|||2^e.on|||a.getD e.on 0 else s) s).testBit i=true->
  s.testBit i=true\/∃e∈l,Region.binds .any e=true/\(i=e.on\/(a.getD e.on 0).testBit i=true)
 |[],s,h=> .inl h
 |e::l,s,h=>by
  rw[Au2]at h;rcases d4N l _ h with h|⟨b,he,h⟩;all_goals grind
variable {a:Array Nat}
theorem b3d{j i:Nat}(h:(a.getD j 0).testBit i=true):j<a.size:=by
 grind
theorem SpecB.step{L:List Oper}{o:Oper}(h:SpecB L a):SpecB (L++[o]) (a5p a o):=by
 obtain⟨h1,h2⟩:=h;have old:∀k,k<a.size->(a5p a o).getD k 0=a.getD k 0:=λ k hk=>by
  simp_all[a5p,As5]
 refine⟨by simp[a5p,h1],λ j c i hj hb=> ?_⟩;rcases as5 j L.length with hl|hl
 .grind
 .have b:j=L.length:=by
   have:=(ay0.1 hj).1;simp at this;omega
  subst b;have:o=c:=by simpa using hj
  subst this;have hv:(a5p a o).getD L.length 0=o.after.foldl (λ s e=>if Region.binds .any e then s|||2^e.on|||a.getD e.on 0 else s) 0:=by
   unfold a5p;rw[<-h1,ax6,At8];rfl
  rw[hv,<-Az6]at hb;rcases d4N _ _ hb with h|⟨e,he,d,h⟩;all_goals grind
theorem b2H:∀(l L:List Oper) (a:Array Nat),SpecB L a->SpecB (L++l) (l.foldl a5p a)
 |[],L,a,h=>by grind
 |o::l,L,a,h=>by
  have:=b2H l (L++[o]) (a5p a o) h.step;simpa using this
theorem a9L(ops:Array Oper):SpecB ops.toList (Region.before ops):=by
 have h0:SpecB [] #[]:=⟨rfl,λ j o i h=>by simp at h⟩;have:=b2H ops.toList [] #[] h0;have e:Region.before ops=ops.toList.foldl a5p #[]:=by
  unfold Region.before;rw[<-Az6];rfl
 grind
def Cl(ops:Array Oper)(D:Nat->Bool):Prop:=∀(j:Nat) (o:Oper),ops[j]?=some o->D j=true->∀e∈o.after,Region.binds .any e=true->D e.on=true
theorem Cl.before{ops:Array Oper}{D:Nat->Bool}(h:Cl ops D):∀(j i:Nat),D j=true->((Region.before ops).getD j 0).testBit i=true->D i=true:=by
 intro j;induction j using Nat.strongRecOn with
 |ind j ih=>
  intro i hj hb;have hs:=a9L ops;have a:=b3d hb;have hl:j<ops.toList.length:=by rw[<-hs.1];exact a
  have ho:ops.toList[j]?=some ops.toList[j]:=az5 hl;obtain⟨e,he,b,c⟩:=hs.2 j _ i ho hb;have hd:=h j _ (by grind) hj e he b;grind
end
section
open Go.RowKit
section
def Ones(x:Option Out):Prop:=∀r,x=some r->r.cnt=1
theorem Ones.none:Ones none:=nofun
theorem Ones.bind{A:Type}{x:Option A}{f:A->Option Out}(h:∀a,x=some a->Ones (f a)):Ones (x.bind f):=by
 cases x with
 |none=>exact Ones.none
 |some a=>grind
theorem Ones.one{v:V}{u:HP}:Ones (some {v:=v,upd:=u,cnt:=1}):=λ r h=>by grind
theorem Ones.one'{v:V}{u:HP}:Ones (pure {v:=v,upd:=u,cnt:=1}):=Ones.one
variable {P:Program} {base:Nat} {B:List Nat} {C w:World} {M E:Mem} {μ D:Pl} {g g':G} {get:Nat->V} {a:Act} {nx:Nat} {call:Calls} {o:Oper} {r:Out}
theorem b4Q{t u:Nat}{a x:V}:Ones (a0M P g nx t u a x):=by
 unfold a0M;simp only[Az0];repeat' first|exact Ones.none|exact Ones.one'|(refine Ones.bind λ _ _=> ?_)|split
def a9k:Op->Bool
 | .alloc _| .box _ _| .buildSlice _ _ _| .makeMap _ none| .makeSlice _ _ _=>true
 | .call {callee:= .builtin .append,.. }=>true
 |_=>false
theorem b9a(hm:a9k o.op=true):Ones (opE P call get g nx o):=by
 obtain⟨dst,op,type,pos,after,guard⟩:=o;unfold opE;simp only[Az0];cases op;case alloc t=>
  grind[Ones.none,Ones.one',Ones.bind]
 case box t x=>
  grind[Ones.none,Ones.one',Ones.bind]
 case buildSlice t n ps=>
  grind[Ones.one',Ones.bind]
 case makeMap t x=>
  cases x with
  |none=>exact Ones.one'
  |some x=>simp[a9k]at hm
 case makeSlice t l c=>
  simp only;repeat' first|exact Ones.none|exact Ones.one'|(refine Ones.bind λ _ _=> ?_)|split
 case call c=>
  obtain⟨callee,args,ts⟩:=c;cases callee with
  |builtin b=>
   cases b;case append=>
    grind[Ones.bind,b4Q,Ones.none]
   all_goals simp[a9k]at hm
  |_=>simp[a9k]at hm
 all_goals simp[a9k]at hm
theorem d2i(hm:0<r.cnt->μ nx=none)(hI:Inv base B C M μ g w)(hS:Slots M μ get a)(hv:∀c f,o.op= .call c->c.callee≠ .value f)(h:opE P call get g nx o=some r):
  OpOk P base B C M μ g w a nx o r:=by
 have one:a9k o.op=true->μ nx=none:=λ e=>hm (by rw[b9a e r h];decide);cases ho:o.op with
 |move x=>grind[b3S]
 |assign x=>exact b3S (.inr ho) hI hS h
 |pick c x y=>grind[c1W]
 |alloc t=>exact b8s ho (one (by rw[ho];rfl)) hI h
 |box t x=>exact c9q ho (one (by rw[ho];rfl)) hI hS h
 |build t parts=>grind[b9C]
 |buildSlice t n parts=>exact a7J ho (one (by rw[ho];rfl)) hI hS h
 |load t x=>grind[c5v]
 |store t x y=>grind[b9V]
 |nilCheck x=>grind[a9R]
 |fieldAddr t x f=>grind[a9a]
 |field t x f=>grind[b9A]
 |indexAddr t x i=>grind[a8z]
 |index t x i=>grind[b9x]
 |slice t x l u m=>grind[b9R]
 |binOp op t x y u=>grind[c9G]
 |unOp op t x=>grind[d3K]
 |convert s d x=>grind[b2k]
 |makeFunc f xs j=>
  cases f with
  |func f=>grind[b0u]
  |_=>simp[opE,ho]at h
 |makeMap t x=>
  cases x with
  |none=>exact b1S ho (one (by rw[ho];rfl)) hI h
  |some x=>simp[opE,ho]at h
 |insert t m k x=>exact a4u (.inr ho) hI hS h
 |mapUpdate t m k x=>grind[a4u]
 |lookup t m k ok=>grind[b5f]
 |makeSlice t l c=>exact a8K ho (one (by rw[ho];rfl)) hI hS h
 |extract x i=>grind[b2b]
 |call c=>
  obtain⟨callee,args,p⟩:=c;cases callee with
  |value f=>grind
  |invoke x n=>simp[opE,ho]at h
  |builtin b=>
   cases b with
   |append=>exact b5H ho (one (by rw[ho];rfl)) hI hS h
   |len=>grind[a3U]
   |min=>grind[a3U]
   |max=>grind[a3U]
   |_=>simp[opE,ho]at h
 |_=>simp[opE,ho]at h
theorem c6M{H:HP}(hc:CallsOk P call)(hI:Inv base B C M μ (a0b H) w)(hS:Slots M μ get a)(hn:∀i,nx<=i->i<nx+r.cnt->μ i=none)
  (b:opE P call get (a0b H) nx o=some r) (next:Act->World->Prop) (Q:Exit->Act->World->Prop)
  (j:∀u q p d,M.le p->NewMem base B M p->μ.le d->RepV p d r.v u->Inv base B C p d (a0b (r.upd++H)) q->(∀i,μ i=none->¬(nx<=i/\i<nx+r.cnt)->d i=none)->next (a.put o.dst u) q):
  o.wp P a w next Q:=by
 by_cases hv:∀c f,o.op= .call c->c.callee≠ .value f
 .obtain⟨u,q,p,d,k1,k2,k3,k4,k5,k6⟩:=d2i (λ h0=>hn _ (ay3 _) (by omega)) hI hS hv b;subst k1;have t:=j u q _ d (Mem.le_refl _) NewMem.refl k2 k4 (by grind[a5e]) (λ i hi hw=>k6 i hi (by omega));unfold Oper.wp;grind[Oper.upon_value,Oper.upon_skip]
 .simp only[Classical.not_forall]at hv;obtain⟨c,f,ho,h⟩:=hv;obtain⟨callee,asq,z⟩:=c;have h:=Classical.not_not.1 h;simp only at h;subst h;simp only[opE,ho,Az0,az3]at b;obtain⟨l,hl,A,hf,b⟩:=b;split at b
  .next k x y=>
   split at b
   .cases b
   .obtain⟨X,Y,hu,hX,hY⟩:=b2J (a0A hS hf);have m:=b7u hS hl;obtain⟨s,n⟩:=hc.cbv (us:=X++asq.map a.eval++Y) hI hn (by simp only[Aw8];exact(hX.append m).append hY) b;unfold Oper.wp;rw[b0i ho hu s,Oper.upon_enter];refine n.mono λ e q he=> ?_;cases e with
    |returned v=>obtain⟨p,d,k1,k0,k2,k3,k4,k5⟩:=he;grind
    |panicked c=>exact he.elim
    |outgrown=>exact he.elim
  .cases b
end
end
end Go.PV
namespace Go.SN
section
open Go.PV
def b7W:TD->Bool
 | .bool| .int _ _ _| .str _| .lit _| .fns _=>true
 | .sl r _ _=> !r
 | .agg l=>l.all λ d=>match d with
   | .bool| .int _ _ _| .str _| .lit _| .fns _=>true
   | .sl r _ _=> !r
   |_=>false
 | .val r _=> !r
 | .rel l=>l.all λ d=>match d with
   | .bool| .int _ _ _| .str _| .lit _| .fns _=>true
   | .sl r _ _=> !r
   |_=>false
 |_=>false
def b0Y:Nat->AS->AV->Option (List Nat)
 |0,_,_=>none
 |n+1,a,v=>match v with
  | .bool _| .int _ _| .str _| .has _| .lit _| .nils| .fns _=>some []
  | .dat r _ d=>if r then(if(a3x 8 d).isSome then some [0]else none)else some []
  | .row nm sz off e=>match a4U a nm with
    |some (.row _ _ _ d _)=>if b7W d then some [nm+1]else if(a3x 8 d).isSome then some [nm+1,0]else none
    |_=>none
  | .agg l| .tup l=>(a0D (b0Y n a) l).map List.flatten
  |_=>none
def d2f(a:AS):AV->Option (List Nat)
 | .ptr _ _=>some []
 |v=>b0Y 6 a v
def b3L:Nat->AS->AV->Option (List Nat)
 |0,_,_=>none
 |n+1,a,v=>match v with
  | .ptr nm _=>match a4U a nm with
    |some (.var l)=>(a0D (d2f a) l).map λ x=>(nm+1)::x.flatten
    |_=>none
  | .fn _ x y=>match a0D (b3L n a) x,a0D (b3L n a) y with
    |some x,some y=>some (x.flatten++y.flatten)
    |_,_=>none
  |v=>b0Y 6 a v
def b4c(a:AS):AV->Option (List Nat)
 | .ptr nm _| .eptr nm _ _ _| .row nm _ _ _=>if(a4U a nm).isSome then some [nm+1]else none
 | .cptr _=>some [0]
 | .dat r _ _=>if r then some [0]else some []
 | .nils| .str _| .has _| .int _ _| .bool _| .lit _| .slf _ _=>some []
 |_=>none
def c8i(a:AS)(o:Oper):Option (List Nat×List Nat):=
 match o.op with
 | .load _ x=>((evA a x).bind (b4c a)).map λ l=>(l,[])
 | .convert _ _ x=>((evA a x).bind (b4c a)).map λ l=>(l,[])
 | .store _ x _=>((evA a x).bind (b4c a)).map λ l=>([],l)
 | .lookup .. | .insert .. | .mapUpdate .. =>none
 | .call {callee:= .builtin .append,args,.. }=>match c2c a args.toList with
   |some [x,y]=>match b4c a x,b4c a y with
    |some w,some r=>some (r,w)
    |_,_=>none
   |_=>none
 | .call {callee:= .value f,args,.. }=>match evA a f,c2c a args.toList with
   |some (.fn _ x y),some l=>(a0D (b3L 4 a) (x++l++y)).map λ l=>([],l.flatten)
   |some (.fns _),some l=>(a0D (b3L 4 a) l).map λ l=>([],l.flatten)
   |_,_=>none
 |_=>some ([],[])
section
variable {P:Program} {a:AS} {Γ:Gm} {s:St}
def Cov(Γ:Gm)(l:List Nat)(id:Nat):Prop:=(∃nm,nm<Γ.m/\Γ.ν nm=id/\nm+1∈l/\Γ.N id)\/(¬Γ.N id/\(∃ty sz xs f,Γ.g id=some (.row ty sz xs f))/\0∈l)
variable {l:List Nat}
theorem Cov.mono{l':List Nat}{id:Nat}(h:Cov Γ l id)(k:∀x∈l,x∈l'):Cov Γ l' id:=by
 rcases h with⟨nm,h1,h2,h3,h4⟩|⟨h1,h2,h3⟩
 .exact .inl ⟨nm,h1,h2,k _ h3,h4⟩
 .exact .inr ⟨h1,h2,k _ h3⟩
theorem b2V{g:G}{N:Nat->Prop}:∀(K:Nat) {d:TD} {x:V},b7W d=true->InD g N d x->a1O K g x=[]
 |0,_,_,_,_=>rfl
 |K+1,d,x,hp,hx=>by
  have b:∀{d:TD} {x:V},(match d with
   | .bool| .int _ _ _| .str _| .lit _| .fns _=>true
   | .sl r _ _=> !r
   |_=>false)=true->InD g N d x->∀K,a1O K g x=[]:=by
   intro d x hp hx K;cases K with
   |zero=>rfl
   |succ K=>cases hx<;>first|rfl|(simp at hp)
  have agg:∀{l:List TD} {cs:List V},(l.all λ d=>match d with
   | .bool| .int _ _ _| .str _| .lit _| .fns _=>true
   | .sl r _ _=> !r
   |_=>false)=true->l.length=cs.length->(∀(j:Nat) (d:TD) (c:V),l[j]?=some d->cs[j]?=some c->InD g N d c)->cs.flatMap (a1O K g)=[]:=by
   intro l cs h1 h2 h3;rw[List.flatMap_eq_nil_iff];intro c hc;obtain⟨j,hj⟩:=List.getElem?_of_mem hc;have e:j<l.length:=by rw[h2];exact(ay0.1 hj).1
   exact b (ay5.1 h1 l[j] (au2 e)) (h3 j l[j] c (az5 e) hj) K
  cases hx with
  |any=>simp[b7W]at hp
  |bool=>rfl
  |int=>rfl
  |str=>rfl
  |lit=>rfl
  |nils=>rfl
  |sl=>rfl
  |row=>simp[b7W]at hp
  |agg h1 h2=>simp only[b7W]at hp;simp only[a1O];exact agg hp h1 h2
  |fns=>rfl
  |rel h1 _=>
   simp only[b7W]at hp;cases h1 with
   |agg h1 h2=>simp only[a1O];exact agg hp h1 h2
  | @val _ _ r hi _ h1=>
    simp only[b7W,ax2]at hp;subst hp;cases h1 with
    |agg h1 h2=>simp only[a1O];exact agg rfl h1 h2
theorem a9v{g:G}{N:Nat->Prop}:∀(k K:Nat) {d m:TD} {x:V},a3x k d=some m->InD g N d x->∀id∈a1O K g x,¬N id/\∃ty sz xs f,g id=some (.row ty sz xs f)
 |0,_,_,_,_,h,_,_,_=>by cases h
 |k+1,0,_,_,_,_,_,_,hid=>by cases hid
 |k+1,K+1,d,m,x,hd,hx,id,hid=>by
  have agg:∀{l l':List TD} {cs:List V},a0D (a3x k) l=some l'->l.length=cs.length->(∀(j:Nat) (d:TD) (c:V),l[j]?=some d->cs[j]?=some c->InD g N d c)->∀id∈cs.flatMap (a1O K g),¬N id/\∃ty sz xs f,g id=some (.row ty sz xs f):=by
   intro l l' cs hl h1 h2 id hid;obtain⟨l1,l2⟩:=a2g hl;obtain⟨c,hc,hid⟩:=ax9.1 hid;obtain⟨j,hj⟩:=List.getElem?_of_mem hc;have b:j<l.length:=by rw[h1];exact(ay0.1 hj).1
   have i:j<l'.length:=by omega
   exact a9v k K (l2 j l[j] l'[j] (az5 b) (az5 i)) (h2 j l[j] c (az5 b) hj) id hid
  cases hx with
  |any=>simp[a3x]at hd
  |bool=>cases hid
  |int=>cases hid
  |str=>cases hid
  |lit=>cases hid
  |nils=>cases hid
  |sl=>cases hid
  |fns=>cases hid
  | @row _ _ hi d0 o ty sz off n xs f h1 h2 h3 h4 h5 h6=>
    simp only[a3x,aw4,az2]at hd;obtain⟨d1,hd,_⟩:=hd;simp only[a1O,h1]at hid;rcases ay4.1 hid with rfl|hid
    .exact⟨h2,ty,sz,xs,f,h1⟩
    .obtain⟨c,hc,hid⟩:=ax9.1 hid;exact a9v k K hd (h6 c hc) id hid
  |agg h1 h2=>simp only[a3x,az2]at hd;obtain⟨l',hl,_⟩:=hd;simp only[a1O]at hid;exact agg hl h1 h2 id hid
  | @val _ _ r hi _ h1=>
    simp only[a3x]at hd;split at hd
    .cases hd
    next hr=>
    simp only[ay8,ap6,at1]at hr;rw[hr.1]at h1;have:a1O (K+1) g x=[]:=b2V (K+1) (d:= .val false hi) rfl (.val h1);rw[this]at hid;cases hid
  | @rel _ _ l _ h1 h2=>
    unfold a3x at hd;split at hd;all_goals first
     |(next e=>cases e;done)
     |(next e=>
       injection e with e
       subst e;have:a1O (K+1) g x=[]:=b2V (K+1) (d:= .rel _) rfl (.rel h1 h2);rw[this]at hid;cases hid)
     |cases hd
theorem c3D(h:Ok a Γ s){nm:Nat}{b:ABox}(hb:a4U a nm=some b):nm<Γ.m/\Γ.N (Γ.ν nm):=by
 have:=h.named (a0N hb);exact⟨by rw[h.m];exact this.2.2,this.2.1⟩
theorem a4T{f:AV->Option (List Nat)}{F:V->List Nat}{l:List AV}{cs:List V}{r:List (List Nat)}(hf:∀x∈l,∀c L,In Γ x c->f x=some L->∀id∈F c,Cov Γ L id)(hl:InL Γ l cs)(hr:a0D f l=some r):∀id∈cs.flatMap F,Cov Γ r.flatten id:=by
 intro id hid;obtain⟨c,hc,hid⟩:=ax9.1 hid;obtain⟨j,hj⟩:=List.getElem?_of_mem hc;obtain⟨l1,l2⟩:=a2g hr;have b:j<l.length:=by rw[hl.1];exact(ay0.1 hj).1
 have d:j<r.length:=by omega
 refine(hf l[j] (au2 b) c r[j] (hl.2 j l[j] c (az5 b) hj) (l2 j l[j] r[j] (az5 b) (az5 d)) id hid).mono λ x hx=> ?_;grind[List.mem_flatten]
theorem a9x(h:Ok a Γ s):∀(n K:Nat) {av:AV} {v:V} {l:List Nat},In Γ av v->b0Y n a av=some l->∀id∈a1O K Γ.g v,Cov Γ l id
 |0,_,_,_,_,_,hr,_,_=>by cases hr
 |n+1,0,_,_,_,_,_,_,hid=>by cases hid
 |n+1,K+1,av,v,l,hv,hr,id,hid=>by
  cases hv with
  |bool=>cases hid
  |int=>cases hid
  |str=>cases hid
  |has=>cases hid
  |lit=>cases hid
  |nils=>cases hid
  |fns=>cases hid
  | @dat r e d hi v m h1 h2 h3 h4=>
    simp only[b0Y]at hr;cases r with
    |false=>cases h2<;>cases hid
    |true=>
     simp only[aw4]at hr;split at hr
     .next g=>
      injection hr with hr
      subst hr;obtain⟨w,i⟩:=at0.1 g;have j:a3x (8+1) (.sl true hi d)=some (.sl false hi w):=by
       show(a3x 8 d).map (TD.sl false hi)=_;rw[i];rfl
      obtain⟨p,q⟩:=a9v 9 (K+1) j h2 id hid;exact .inr ⟨p,q,az7.2 rfl⟩
     .cases hr
  | @row nm sz off e o m h0 h1 h2 h3 h4=>
    simp only[b0Y]at hr;split at hr
    .next ty z k d f hb=>
     obtain⟨y,A⟩:=c3D h hb;obtain⟨_,b,t,u⟩:=h.box _ (a0N hb);cases u with
     | @row _ _ _ _ _ f' xs k1 k2 k3 k4=>
       simp only[a1O,t]at hid;split at hr
       .next hp=>
        injection hr with hr
        subst hr;rcases ay4.1 hid with rfl|hid
        .exact .inl ⟨nm,y,rfl,az7.2 rfl,A⟩
        .obtain⟨c,hc,hid⟩:=ax9.1 hid;rw[b2V K hp (k3 c (at9 (au4 hc)))]at hid;cases hid
       .split at hr
        .next g=>
         injection hr with hr
         subst hr;obtain⟨w,i⟩:=at0.1 g;rcases ay4.1 hid with rfl|hid
         .exact .inl ⟨nm,y,rfl,ay1 ..,A⟩
         .obtain⟨c,hc,hid⟩:=ax9.1 hid;obtain⟨p,q⟩:=a9v 8 K i (k3 c (at9 (au4 hc))) id hid;exact .inr ⟨p,q,az9 _ (az7.2 rfl)⟩
        .cases hr
    .cases hr
  |agg h1 h2=>simp only[b0Y,az2]at hr;obtain⟨r,hr,rfl⟩:=hr;simp only[a1O]at hid;exact a4T (λ x _ c L hc hL=>a9x h n K hc hL) ⟨h1,h2⟩ hr id hid
  |tup h1 h2=>simp only[b0Y,az2]at hr;obtain⟨r,hr,rfl⟩:=hr;simp only[a1O]at hid;exact a4T (λ x _ c L hc hL=>a9x h n K hc hL) ⟨h1,h2⟩ hr id hid
  |_=>simp[b0Y]at hr
variable {av:AV} {v:V}
theorem c8W(h:Ok a Γ s)(hv:In Γ av v)(hr:d2f a av=some l):∀id∈a1O (ED+1) Γ.g v,Cov Γ l id:=by
 unfold d2f at hr;split at hr
 .intro id hid;cases hv;simp[a1O]at hid
 grind[a9x]
theorem a9p(h:Ok a Γ s):∀(n K:Nat) {av:AV} {v:V} {l:List Nat},In Γ av v->b3L n a av=some l->∀id∈a2D K Γ.g v,Cov Γ l id
 |0,_,_,_,_,_,hr,_,_=>by cases hr
 |n+1,0,_,_,_,_,_,_,hid=>by cases hid
 |n+1,K+1,av,v,l,hv,hr,id,hid=>by
  have data:b0Y 6 a av=some l->a2D (K+1) Γ.g v=a1O ED Γ.g v->Cov Γ l id:=λ h1 h2=>by
   grind[a9x]
  cases hv with
  | @ptr nm off h0=>
    simp only[b3L]at hr;split at hr
    .next l0 hb=>
     simp only[az2]at hr;obtain⟨r,hr,rfl⟩:=hr;obtain⟨i,j⟩:=c3D h hb;obtain⟨_,b,d,e⟩:=h.box _ (a0N hb);cases e with
     | @var _ cs k1=>
       simp only[a2D,d]at hid;rcases ay4.1 hid with rfl|hid
       .exact .inl ⟨nm,i,rfl,ay1 ..,j⟩
       .exact(a4T (λ x _ c L hc hL=>c8W h hc hL) k1 hr id hid).mono λ x hx=>az9 _ hx
    .cases hr
  |fn h1 h2 h3 h4=>
   simp only[b3L]at hr;split at hr
   .next k m f g=>
    injection hr with hr
    subst hr;simp only[a2D]at hid;rcases ax1.1 hid with hid|hid
    .exact(a4T (λ x _ c L hc hL=>a9p h n K hc hL) ⟨h1,h3⟩ f id hid).mono λ x hx=>av4 _ hx
    .exact(a4T (λ x _ c L hc hL=>a9p h n K hc hL) ⟨h2,h4⟩ g id hid).mono λ x hx=>aw2 _ hx
   .cases hr
  |bool=>exact data hr rfl
  |int=>exact data hr rfl
  |str=>exact data hr rfl
  |has=>exact data hr rfl
  |lit=>exact data hr rfl
  |nils=>exact data hr rfl
  |fns=>grind[a2D]
  |dat h1 h2 h3 h4=>cases h2<;>exact data hr rfl
  |row h0 h1 h2 h3 h4=>exact data hr rfl
  |agg h1 h2=>exact data hr rfl
  |tup h1 h2=>exact data hr rfl
  |_=>grind[b3L,b0Y]
theorem b4o(h:Ok a Γ s)(hv:In Γ av v)(hr:b4c a av=some l):∀id∈a2z v,Cov Γ l id:=by
 intro id hid;have c:∀{nm:Nat},(if(a4U a nm).isSome then some [nm+1]else none)=some l->Cov Γ l (Γ.ν nm):=by
  intro nm hr;split at hr
  .next hs=>
   injection hr with hr
   subst hr;obtain⟨b,hb⟩:=at0.1 hs;obtain⟨f,g⟩:=c3D h hb;exact .inl ⟨nm,f,rfl,az7.2 rfl,g⟩
  .cases hr
 cases hv with
 |ptr h0=>rw[az7.1 hid];exact c hr
 |eptr h0 h1 h2=>rw[az7.1 hid];exact c hr
 |row h0=>rw[az7.1 hid];exact c hr
 |cptr=>cases hid
 |cptrR h1 h2 h3 h4 h5=>
  injection hr with hr
  subst hr;rw[az7.1 hid];exact .inr ⟨h2,⟨_,_,_,_,h1⟩,az7.2 rfl⟩
 | @dat r e d hi v m h1 h2 h3 h4=>
   cases h2 with
   |nils=>cases hid
   |sl=>cases hid
   |row k1 k2 k3 k4 k5 k6=>simp only[b4c,aw4,az0]at hr;subst hr;rw[az7.1 hid];exact .inr ⟨k2,⟨_,_,_,_,k1⟩,az7.2 rfl⟩
 |bool=>cases hid
 |int=>cases hid
 |str=>cases hid
 |has=>cases hid
 |lit=>cases hid
 |nils=>cases hid
 |slf=>cases hid
 |_=>simp[b4c]at hr
theorem b3t{get:Nat->V}{x:Operand}(h:ev get x=some v):a5V get x=a2z v:=by grind[a5V]
theorem c7V(h:Ok a Γ s){o:Oper}{r w:List Nat}(hf:c8i a o=some (r,w)):(∀id∈a3q s.get o,Cov Γ r id)/\∀id∈a2w s.get (a0b s.h) o,Cov Γ w id:=by
 have j:∀{l:List Nat},l=[]->∀id∈l,Cov Γ w id:=λ e id hid=>by rw[e]at hid;cases hid
 have d:∀{l:List Nat},l=[]->∀id∈l,Cov Γ r id:=λ e id hid=>by rw[e]at hid;cases hid
 have at_:∀{x:Operand} {l:List Nat},(evA a x).bind (b4c a)=some l->∀id∈a5V s.get x,Cov Γ l id:=by
  intro x l hx id hid;rw[az3]at hx;obtain⟨av,h1,h2⟩:=hx;obtain⟨v,v1,A⟩:=a1n h h1;rw[b3t v1]at hid;exact b4o h A h2 id hid
 have args:∀{xs:Array Operand} {L:List AV} {vs:List V} {r:List (List Nat)},evs s.get xs=some vs->InL Γ L vs->a0D (b3L 4 a) L=some r->∀id∈xs.toList.flatMap (λ x=>match ev s.get x with|some v=>a2D 4 (a0b s.h) v|none=>[]),Cov Γ r.flatten id:=by
  intro xs L vs r h1 h2 h3 id hid;obtain⟨x,hx,hid⟩:=ax9.1 hid;obtain⟨l1,l2,l3⟩:=a3h h1;obtain⟨i,hi⟩:=List.getElem?_of_mem hx;obtain⟨v,v1,A⟩:=l3 i x hi;rw[A]at hid;rw[<-h.g]at hid;exact a4T (F:=a2D 4 Γ.g) (λ x _ c L hc hL=>a9p h 4 4 hc hL) h2 h3 id (ax9.2 ⟨v,ax4 v1,hid⟩)
 unfold c8i at hf;split at hf
 .next t x ho=>
  simp only[az2,az8]at hf;obtain⟨l,hl,rfl,rfl⟩:=hf;exact⟨by simp only[a3q,ho];exact at_ hl,j (by simp only[a2w,ho])⟩
 .next t1 t2 x ho=>
  simp only[az2,az8]at hf;obtain⟨l,hl,rfl,rfl⟩:=hf;exact⟨by simp only[a3q,ho];exact at_ hl,j (by simp only[a2w,ho])⟩
 .next t x y ho=>
  simp only[az2,az8]at hf;obtain⟨l,hl,rfl,rfl⟩:=hf;exact⟨d (by simp only[a3q,ho]),by simp only[a2w,ho];exact at_ hl⟩
 .cases hf
 .cases hf
 .cases hf
 .next xs D ho=>
  split at hf
  .next x y m=>
   split at hf
   .next K M hw hr=>
    injection hf with hf;injection hf with e1 e2;subst e1;subst e2
    obtain⟨vs,e1,e2⟩:=a4R h m;obtain⟨l1,l2,l3⟩:=a3h e1;have g:∀(i:Nat) (x:Operand) (av:AV),xs[i]?=some x->[x,x].length=2->True:=λ _ _ _ _ _=>av5;cases vs with
    |nil=>cases e2.1
    |cons p vs=>cases vs with
     |nil=>have:=e2.1;simp at this
     |cons q vs=>
      have p0:=e2.2 0 _ p rfl rfl;have E:=e2.2 1 _ q rfl rfl;refine⟨λ id hid=> ?_,λ id hid=> ?_⟩
      .simp only[a3q,ho]at hid;split at hid
       .next z hz=>
        obtain⟨b,b1,b2⟩:=l3 1 z (by rw[<-ap9]at hz;exact hz);simp only[ao1,as6,az0]at b1;subst b1;rw[b3t b2]at hid;exact b4o h E hr id hid
       .cases hid
      .simp only[a2w,ho]at hid;split at hid
       .next z hz=>
        obtain⟨b,b1,b2⟩:=l3 0 z (by rw[<-ap9]at hz;exact hz);simp only[as6,az0]at b1;subst b1;rw[b3t b2]at hid;exact b4o h p0 hw id hid
       .cases hid
   .cases hf
  .cases hf
 .next f xs D ho=>
  split at hf
  .next k x y l n m=>
   simp only[az2,az8]at hf;obtain⟨r0,u,rfl,rfl⟩:=hf;obtain⟨vs,e1,e2⟩:=a4R h m;obtain⟨fv,f1,f2⟩:=a1n h n;refine⟨d (by simp only[a3q,ho]),λ id hid=> ?_⟩;simp only[a2w,ho,f1]at hid;cases f2 with
   | @fn _ _ _ asq bs G H I J=>
     have B:InL Γ (x++l++y) (asq++vs++bs):=((show InL Γ _ _ from⟨G,I⟩).append e2).append ⟨H,J⟩;have C:=a4T (F:=a2D 4 Γ.g) (λ x _ c L hc hL=>a9p h 4 4 hc hL) B u;rcases ax1.1 hid with hid|hid
     .simp only[d5h]at hid;rw[<-h.g]at hid;refine C id ?_;simp only[Az9,ax1];rcases ax1.1 hid with hid|hid
      .exact .inl (.inl hid)
      .exact .inr hid
     .obtain⟨z,hz,hid⟩:=ax9.1 hid;obtain⟨l1,l2,l3⟩:=a3h e1;obtain⟨i,hi⟩:=List.getElem?_of_mem hz;obtain⟨v,v1,A⟩:=l3 i z hi;rw[A,<-h.g]at hid;refine C id (ax9.2 ⟨v,?_,hid⟩);exact av4 _ (aw2 _ (ax4 v1))
  .next ks l n m=>
   simp only[az2,az8]at hf;obtain⟨r0,u,rfl,rfl⟩:=hf;obtain⟨vs,e1,e2⟩:=a4R h m;obtain⟨fv,f1,f2⟩:=a1n h n;refine⟨d (by simp only[a3q,ho]),λ id hid=> ?_⟩;simp only[a2w,ho,f1]at hid;cases f2 with
   |fns hk=>simp only[d5h,List.flatMap_nil,ap8,ao8]at hid;exact args e1 e2 u id hid
  .cases hf
 .next h1 h2 h3 h4 h5 h6 h7 h8=>
  injection hf with hf;injection hf with e1 e2;subst e1;subst e2
  refine⟨d ?_,j ?_⟩
  .unfold a3q;split
   .next ho=>exact absurd ho (h1 _ _)
   .next ho=>exact absurd ho (h2 _ _ _)
   .next ho=>exact absurd ho (h4 _ _ _ _)
   .next ho=>exact absurd ho (h7 _ _)
   .rfl
  .unfold a2w;split
   .next ho=>exact absurd ho (h3 _ _ _)
   .next ho=>exact absurd ho (h5 _ _ _ _)
   .next ho=>exact absurd ho (h6 _ _ _ _)
   .next ho=>exact absurd ho (h7 _ _)
   .next ho=>exact absurd ho (h8 _ _ _)
   .rfl
end
end
end Go.SN
namespace Go.PV
section
open Go.RowKit
def a9H{z:Type}(v0:z)(y:Nat->Bool)(new:Nat->z)(D:Nat->Bool):Nat->z
 |0=>v0
 |k+1=>if D k&&y k then new k else a9H v0 y new D k
section
variable {z:Type} {v0:z} {y:Nat->Bool} {new:Nat->z} {D A:Nat->Bool}
theorem a4K:∀{k:Nat},(∀j,j<k->y j=true->D j=A j)->a9H v0 y new D k=a9H v0 y new A k
 |0,_=>rfl
 |k+1,h=>by
  have ih:=a4K (k:=k) λ j hj=>h j (Av3 hj);simp only[a9H,ih];grind
theorem b0W{i:Nat}:∀{n:Nat},i<=n->(∀j,i<=j->j<n->D j=true->y j=false)->a9H v0 y new D n=a9H v0 y new D i
 |0,hi,_=>by grind
 |n+1,hi,h=>by
  rcases as5 n i with b|a
  .grind
  .have ih:=b0W a λ j h1 h2=>h j h1 (Av3 h2);simp_all[a9H]
theorem c6N{i n:Nat}(hi:i<=n)(h1:∀j,i<=j->j<n->D j=true->y j=false)(h2:∀j,j<i->D j=false->y j=false):
  a9H v0 y new D n=a9H v0 y new (λ _=>true) i:=by
 rw[b0W hi h1];grind[a4K]
theorem c8g{i n:Nat}(hi:i<n)(hD:D i=false)(h1:y i=true->∀j,i<j->j<n->D j=true->y j=false):
  a9H v0 y new (λ j=>j==i||D j) n=if y i then new i else a9H v0 y new D n:=by
 by_cases hw:y i=true
 .rw[ax3 hw,b0W (i:=i+1) hi];all_goals grind[a9H]
 .rw[ay9 hw];refine a4K λ j _ a=> ?_;have:j≠i:=λ e=>hw (e▸a);simp[this]
end
structure Run (P:Program) (call:Calls) (ops:Array Oper) (S:Nat->St) (R:Nat->Out) (F:Nat->List Nat×List Nat):Prop where
 next:∀k o,ops[k]?=some o->S (k+1)=a2H {S k with h:=(R k).upd++(S k).h,nx:=(S k).nx+(R k).cnt} o.dst (R k).v
 yes:∀k o,ops[k]?=some o->a0V ops o (S k).get=true->opE P call (S k).get (a0b (S k).h) (S k).nx o=some (R k)/\
  F k=a5A ops o (a3q (S k).get o) (a2w (S k).get (a0b (S k).h) o++List.range' (S k).nx (R k).cnt)
 no:∀k o,ops[k]?=some o->a0V ops o (S k).get=false->R k={v:= .und}/\F k=a5A ops o [] []
theorem a4F{s:St}{d:Option Tmp}{v:V}:(a2H s d v).h=s.h/\(a2H s d v).nx=s.nx/\(a2H s d v).sz=s.sz:=by
 cases d with
 |none=>exact⟨rfl,rfl,rfl⟩
 |some d=>simp only[a2H,St.put];grind
theorem b8C{P:Program}{call:Calls}{ops:Array Oper}:∀(l:List Oper) (m:Nat) (s e:St) (fs:List (List Nat×List Nat)),a4g P call ops l s=some (fs,e)->(∀k,l[k]?=ops[m+k]?)->
  fs.length=l.length/\∃(S:Nat->St) (R:Nat->Out),S m=s/\S (m+l.length)=e/\∀k o,m<=k->ops[k]?=some o->
   S (k+1)=a2H {S k with h:=(R k).upd++(S k).h,nx:=(S k).nx+(R k).cnt} o.dst (R k).v/\
   (a0V ops o (S k).get=true->opE P call (S k).get (a0b (S k).h) (S k).nx o=some (R k)/\
    fs[k-m]?=some (a5A ops o (a3q (S k).get o) (a2w (S k).get (a0b (S k).h) o++List.range' (S k).nx (R k).cnt)))/\
   (a0V ops o (S k).get=false->R k={v:= .und}/\fs[k-m]?=some (a5A ops o [] []))
 |[],m,s,e,fs,h,hl=>by
  simp only[a4g,az0,az8]at h;obtain⟨rfl,rfl⟩:=h;refine⟨rfl,λ _=>s,λ _=>{v:= .und},rfl,rfl,λ k o hk ho=> ?_⟩;have:=hl (k-m);grind
 |o::l,m,s,e,fs,h,hl=>by
  have ho:ops[m]?=some o:=by have:=hl 0;simpa using this.symm
  have i:∀k,l[k]?=ops[m+1+k]?:=λ k=>by
   have:=hl (k+1);grind
  simp only[a4g]at h;cases hs:a0v P call ops o s with
  |none=>grind
  |some j=>
   simp only[hs]at h;cases hf:a4g P call ops l j with
   |none=>grind
   |some q=>
    obtain⟨b,p⟩:=q;simp only[hf]at h;obtain⟨c,S,R,u,n,hS⟩:=b8C l (m+1) j p b hf i;have first:∃r f,fs=f::b/\p=e/\j=a2H {s with h:=r.upd++s.h,nx:=s.nx+r.cnt} o.dst r.v/\
      (a0V ops o s.get=true->opE P call s.get (a0b s.h) s.nx o=some r/\f=a5A ops o (a3q s.get o) (a2w s.get (a0b s.h) o++List.range' s.nx r.cnt))/\
      (a0V ops o s.get=false->r={v:= .und}/\f=a5A ops o [] []):=by
     unfold a0v at hs;by_cases hw:a0V ops o s.get=true
     .rw[ax3 hw]at hs h;split at h
      .next hi=>
       simp only[az0,az8]at h;obtain⟨rfl,rfl⟩:=h;simp only[az2]at hs;obtain⟨⟨v,x⟩,hs,rfl⟩:=hs;unfold a1h at hs;simp only[hi,az2,az8]at hs;obtain⟨r,hr,rfl,rfl⟩:=hs;refine⟨r,_,rfl,rfl,rfl,λ _=>⟨hr,?_⟩,λ h0=>by grind⟩;have:(a2H {s with h:=r.upd++s.h,nx:=s.nx+r.cnt} o.dst r.v).nx-s.nx=r.cnt:=by
        rw[a4F.2.1];simp
       rw[this]
      .cases h
     .rw[ay9 hw]at hs h;simp only[az0,az8]at h;obtain⟨rfl,rfl⟩:=h;simp_all
    obtain⟨r,f,rfl,rfl,w,hy,hn⟩:=first
    refine⟨by simp[c],λ k=>if k=m then s else S k,λ k=>if k=m then r else R k,by simp,?_,?_⟩
    .have:m+(o::l).length≠m:=by simp
     simp only[ay9 this];rw[<-n];congr 1;simp;omega
    .intro k t hk a;by_cases d:k=m
     .subst d;have:o=t:=by rw[ho]at a;injection a
      simp_all
     .have h1:¬k+1=m:=by omega
      simp only[ay9 d,ay9 h1];have g:k-m=(k-(m+1))+1:=by omega
      rw[g,ao1];exact hS k t (by omega) a
theorem c8P{P:Program}{call:Calls}{ops:Array Oper}{s e:St}{fs:List (List Nat×List Nat)}(h:a4g P call ops ops.toList s=some (fs,e)):
  fs.length=ops.size/\∃S R,S 0=s/\S ops.size=e/\Run P call ops S R (λ k=>fs.getD k ([],[])):=by
 obtain⟨h1,S,R,h2,h3,h4⟩:=b8C ops.toList 0 s e fs h (λ k=>by simp);refine⟨by grind,S,R,h2,by grind,⟨λ k o ho=>(h4 k o (aw7 _) ho).1,λ k o ho hw=> ?_,λ k o ho hw=> ?_⟩⟩;all_goals simp_all
end
section
open Go.RowKit
def c2l(h:HP)(R:Nat->Out)(D:Nat->Bool):Nat->HP
 |0=>h
 |k+1=>if D k then(R k).upd++c2l h R D k else c2l h R D k
def wrB(R:Nat->Out)(l k:Nat):Bool:=(R k).upd.any λ p=>p.1==l
def newB(R:Nat->Out)(l k:Nat):Option Box:=((R k).upd.find? λ p=>p.1==l).bind (·.2)
theorem a3l{h:HP}{R:Nat->Out}{D:Nat->Bool}{l:Nat}:∀{k:Nat},a0b (c2l h R D k) l=a9H (a0b h l) (wrB R l) (newB R l) D k
 |0=>rfl
 |k+1=>by
  have ih:=a3l (h:=h) (R:=R) (D:=D) (l:=l) (k:=k);simp only[c2l,a9H];cases hd:D k with
  |false=>grind
  |true=>simp only[aw4,a5e,As0];grind[upd,wrB,newB]
def wrS(ops:Array Oper)(sz t k:Nat):Bool:=((ops[k]?).bind (·.dst))==some t&&decide (t<sz)
def b8o(ops:Array Oper)(s:St)(R:Nat->Out)(D:Nat->Bool)(k:Nat)(t:Nat):V:=a9H (s.get t) (wrS ops s.sz t) (λ k=>(R k).v) D k
section
variable {P:Program} {call:Calls} {ops:Array Oper} {S:Nat->St} {R:Nat->Out} {F:Nat->List Nat×List Nat} {D:Nat->Bool}
theorem Run.at_(h:Run P call ops S R F)(hs:(S 0).sz<=256):∀{k:Nat},k<=ops.size->(S k).sz=(S 0).sz/\(S k).h=c2l (S 0).h R (λ _=>true) k/\∀t,(S k).get t=b8o ops (S 0) R (λ _=>true) k t
 |0,_=>⟨rfl,rfl,λ _=>rfl⟩
 |k+1,hk=>by
  obtain⟨h1,h2,h3⟩:=h.at_ hs (k:=k) (by omega);have ho:ops[k]?=some ops[k]:=aw0 (by omega);have hn:=h.next k _ ho;refine⟨by rw[hn,a4F.2.2];exact h1,by rw[hn,a4F.1];simp[c2l,h2],λ t=> ?_⟩;rw[hn];have e0:∀t,St.get {S k with h:=(R k).upd++(S k).h,nx:=(S k).nx+(R k).cnt} t=(S k).get t:=λ t=>rfl;simp only[b8o,a9H,As0];have hb:(ops[k]?).bind (·.dst)=ops[k].dst:=by rw[ho];rfl
  cases hd:ops[k].dst with
  |none=>
   have:wrS ops (S 0).sz t k=false:=by unfold wrS;rw[hb,hd];rfl
   rw[this];simp only[a2H,e0];exact h3 t
  |some d=>
   simp only[a2H];rw[St.get_put (by simp only;rw[h1];exact hs),e0];by_cases hc:t=d/\d<(S k).sz
   .obtain⟨rfl,hc⟩:=hc;have:wrS ops (S 0).sz t k=true:=by unfold wrS;rw[hb,hd];simp[<-h1,hc]
    rw[this,ax3 ⟨rfl,hc⟩];rfl
   .have:wrS ops (S 0).sz t k=false:=by
     unfold wrS;rw[hb,hd,<-h1];simp only[Aw3,Ax6];by_cases e:d=t
     .subst e;exact .inr λ h=>hc ⟨rfl,h⟩
     .exact .inl (by simp[e])
    rw[this,ay9 hc];exact h3 t
theorem Run.nx_step(h:Run P call ops S R F){k:Nat}(hk:k<ops.size):(S (k+1)).nx=(S k).nx+(R k).cnt:=by
 rw[h.next k _ (aw0 hk),a4F.2.1]
theorem Run.nx_mono(h:Run P call ops S R F){i:Nat}:∀{j:Nat},i<=j->j<=ops.size->(S i).nx<=(S j).nx
 |0,hi,_=>by grind
 |j+1,hi,hj=>by
  rcases as5 j i with b|a
  .grind
  .have:=h.nx_mono a (by omega);rw[h.nx_step (by omega)];omega
theorem Run.wrB_foot(h:Run P call ops S R F){l k:Nat}(hk:k<ops.size)(hw:wrB R l k=true):2*l∈(F k).2:=by
 have ho:ops[k]?=some ops[k]:=aw0 hk;cases a:a0V ops ops[k] (S k).get with
 |false=>rw[wrB,(h.no k _ ho a).1]at hw;cases hw
 |true=>
  obtain⟨h1,h2⟩:=h.yes k _ ho a;unfold wrB at hw;obtain⟨p,hp,e⟩:=ar4.1 hw;have e:p.1=l:=by simpa using e
  subst e;rw[h2];simp only[a5A,ax1,ax5];refine .inl ⟨p.1,?_,rfl⟩;rcases c4z ops[k] (R k) h1 p hp with h|h
  .exact .inl h
  .refine .inr ?_;rw[an2];exact h
theorem Run.wrS_foot(h:Run P call ops S R F){t sz k:Nat}(hk:k<ops.size)(hw:wrS ops sz t k=true):2*t+1∈(F k).2:=by
 have ho:ops[k]?=some ops[k]:=aw0 hk;unfold wrS at hw;rw[ho]at hw;simp only[az1,az6,aw5]at hw;have key:∀r w,2*t+1∈(a5A ops ops[k] r w).2:=λ r w=>by
  simp only[a5A,ax1,ax5,Option.mem_toList];grind
 cases a:a0V ops ops[k] (S k).get with
 |false=>rw[(h.no k _ ho a).2];exact key _ _
 |true=>rw[(h.yes k _ ho a).2];exact key _ _
theorem Run.slot_foot(h:Run P call ops S R F){t k:Nat}(hk:k<ops.size)(ht:t∈a5n ops ops[k]):2*t+1∈(F k).1:=by
 have ho:ops[k]?=some ops[k]:=aw0 hk;have key:∀r w,2*t+1∈(a5A ops ops[k] r w).1:=λ r w=>by
  simp only[a5A,ax1,ax5];grind
 cases a:a0V ops ops[k] (S k).get with
 |false=>rw[(h.no k _ ho a).2];exact key _ _
 |true=>rw[(h.yes k _ ho a).2];exact key _ _
theorem a4V{a b:List Nat×List Nat}(h:a7k a b=false):(∀x∈a.2,x∉b.1/\x∉b.2)/\∀x∈b.2,x∉a.1:=by
 simp_all[a7k]
def d2U(ops:Array Oper)(F:Nat->List Nat×List Nat):Prop:=∀i j,i<j->j<ops.size->((Region.before ops).getD j 0).testBit i=true\/a7k (F i) (F j)=false
theorem b1p{fs:List (List Nat×List Nat)}(hl:fs.length=ops.size)(h:a6F ops fs=true):a8E ops=true/\d2U ops (λ k=>fs.getD k ([],[])):=by
 unfold a6F at h;simp only[az6,ay5,ay8,ax2]at h;refine⟨h.1,λ i j a hj=> ?_⟩;have b:j<fs.length:=by omega
 have h1:=h.2 (fs[j],j) (by grind);have h2:=h1 (fs[i]'(by omega),i) (by
  grind)
 grind
structure Turn (ops:Array Oper) (F:Nat->List Nat×List Nat) (D:Nat->Bool) (i:Nat):Prop where
 lt:i<ops.size
 not:D i=false
 after:∀j,i<j->j<ops.size->D j=true->a7k (F i) (F j)=false
 before:∀j,j<i->D j=false->a7k (F j) (F i)=false
theorem Turn.of(c:d2U ops F)(d:Cl ops D){i:Nat}(hi:i<ops.size)(hD:D i=false)(he:∀e∈ops[i].after,Region.binds .any e=true->D e.on=true):Turn ops F D i/\Cl ops (λ j=>j==i||D j):=by
 have b:Cl ops (λ j=>j==i||D j):=λ j o ho hj e hm hb=>by
  by_cases a:j=i
  .subst a;have:o=ops[j]:=by rw[aw0 hi]at ho;injection ho with ho;exact ho.symm
   subst this;simp[he e hm hb]
  .have f:D j=true:=by simpa[a]using hj
   simp[d j o ho f e hm hb]
 refine⟨⟨hi,hD,λ j g hj hd=> ?_,λ j a hd=> ?_⟩,b⟩
 .refine(c i j g hj).resolve_left λ hb=> ?_;rw[d.before j i hd hb]at hD;cases hD
 .refine(c j i a hi).resolve_left λ hb=> ?_;have:=b.before i j (by simp) hb;have h:j≠i:=by omega
  simp[h,hd]at this
theorem Turn.see{i:Nat}(ht:Turn ops F D i){c:Type}{v0:c}{a:Nat->Bool}{new:Nat->c}{x:Nat}(hw:∀k,k<ops.size->a k=true->x∈(F k).2)(hx:x∈(F i).1\/x∈(F i).2):
  a9H v0 a new D ops.size=a9H v0 a new (λ _=>true) i:=by
 refine c6N (aq5 ht.lt) (λ j h1 h2 hd=> ?_) (λ j hj hd=> ?_)
 .cases b:a j with
  |false=>rfl
  |true=>
   have d:j≠i:=λ e=>by rw[e,ht.not]at hd;cases hd
   obtain⟨p,q⟩:=a4V (ht.after j (by omega) h2 hd);grind
 .cases b:a j with
  |false=>rfl
  |true=>obtain⟨p,q⟩:=a4V (ht.before j hj hd);have f:=p x (hw j (by have:=ht.lt;omega) b);grind
theorem Turn.set{i:Nat}(ht:Turn ops F D i){d:Type}{v0:d}{a:Nat->Bool}{new:Nat->d}{x:Nat}(hw:∀k,k<ops.size->a k=true->x∈(F k).2):
  a9H v0 a new (λ j=>j==i||D j) ops.size=if a i then new i else a9H v0 a new D ops.size:=by
 refine c8g ht.lt ht.not λ b j h1 h2 hd=> ?_;cases c:a j with
 |false=>rfl
 |true=>exact absurd (hw j h2 c) ((a4V (ht.after j h1 h2 hd)).1 x (hw i ht.lt b)).2
end
end
end Go.PV
namespace Go.SN
section
open Go.PV
theorem b4k{a:Array Nat}{i:Nat}:∀(l:List Edge) (s:Nat),(s.testBit i=true\/∃e∈l,Region.binds .any e=true/\(i=e.on\/(a.getD e.on 0).testBit i=true))->
  (l.foldl (λ s e=>if Region.binds .any e then s|||2^e.on|||a.getD e.on 0 else s) s).testBit i=true
 |[],s,h=>by
  grind
 |e::l,s,h=>by
  rw[Au2];refine b4k l _ ?_;grind
def SpecC(L:List Oper)(a:Array Nat):Prop:=a.size=L.length/\∀(j:Nat) (o:Oper) (e:Edge),L[j]?=some o->e∈o.after->Region.binds .any e=true->e.on<j->
 (a.getD j 0).testBit e.on=true/\∀i,(a.getD e.on 0).testBit i=true->(a.getD j 0).testBit i=true
theorem SpecC.step{L:List Oper}{a:Array Nat}{o:Oper}(h:SpecC L a):SpecC (L++[o]) (a5p a o):=by
 obtain⟨h1,h2⟩:=h;have old:∀k,k<a.size->(a5p a o).getD k 0=a.getD k 0:=λ k hk=>by
  simp_all[a5p,As5]
 refine⟨by simp[a5p,h1],λ j d e hj he hb f=> ?_⟩;rcases as5 j L.length with hl|hl
 .grind
 .have c:j=L.length:=by
   have:=(ay0.1 hj).1;simp at this;omega
  subst c;have:o=d:=by simpa using hj
  subst this;have hv:(a5p a o).getD L.length 0=o.after.foldl (λ s e=>if Region.binds .any e then s|||2^e.on|||a.getD e.on 0 else s) 0:=by
   unfold a5p;rw[<-h1,ax6,At8];rfl
  rw[hv,<-Az6,old e.on (by omega)];have b:e∈o.after.toList:=by simpa using he
  exact⟨b4k _ 0 (.inr ⟨e,b,hb,.inl rfl⟩),λ i hi=>b4k _ 0 (.inr ⟨e,b,hb,.inr hi⟩)⟩
theorem a9X:∀(l L:List Oper) (a:Array Nat),SpecC L a->SpecC (L++l) (l.foldl a5p a)
 |[],L,a,h=>by grind
 |o::l,L,a,h=>by
  have:=a9X l (L++[o]) (a5p a o) h.step;simpa using this
theorem b5G(ops:Array Oper):SpecC ops.toList (Region.before ops):=by
 have h0:SpecC [] #[]:=⟨rfl,λ j o e h=>by simp at h⟩;have:=a9X ops.toList [] #[] h0;have e:Region.before ops=ops.toList.foldl a5p #[]:=by
  unfold Region.before;rw[<-Az6];rfl
 grind
theorem b6G{ops:Array Oper}(he:a8E ops=true):∀(j k i:Nat),((Region.before ops).getD j 0).testBit k=true->((Region.before ops).getD k 0).testBit i=true->((Region.before ops).getD j 0).testBit i=true:=by
 intro j;induction j using Nat.strongRecOn with
 |ind j ih=>
  intro k i hk hi;have hs:=a9L ops;have hc:=b5G ops;have b:=b3d hk;have hl:j<ops.toList.length:=by rw[<-hs.1];exact b
  have ho:ops.toList[j]?=some ops.toList[j]:=az5 hl;obtain⟨e,c,a,f⟩:=hs.2 j _ k ho hk;have d:e.on<j:=by
   unfold a8E at he;rw[ay5]at he;have h1:=he (ops.toList[j],j) (by grind);rw[ay5]at h1;have h2:=h1 e (by grind);rw[a]at h2;simpa using h2
  obtain⟨c1,c2⟩:=hc.2 j _ e ho c a d;grind
def Zero(x:Option Out):Prop:=∀r,x=some r->r.cnt=0
theorem Zero.none:Zero none:=nofun
theorem Zero.bind{A:Type}{x:Option A}{f:A->Option Out}(h:∀a,x=some a->Zero (f a)):Zero (x.bind f):=by
 cases x with
 |none=>exact Zero.none
 |some a=>grind
theorem Zero.one{v:V}{u:HP}:Zero (pure {v:=v,upd:=u}):=λ r h=>by grind
theorem Zero.one'{v:V}{u:HP}:Zero (some {v:=v,upd:=u}):=λ r h=>by grind
def b5c:Op->Bool
 | .call {callee:= .value _,.. }=>true
 |_=>false
theorem c8H{P:Program}{call:PV.Calls}{get:Nat->V}{g:G}{nx:Nat}{o:Oper}(hm:a9k o.op=false)(hc:b5c o.op=false):Zero (opE P call get g nx o):=by
 obtain⟨dst,op,type,pos,after,guard⟩:=o;unfold opE;simp only[Az0];cases op;case call c=>
  obtain⟨callee,args,ts⟩:=c;grind[a9k,Zero.none,Zero.one',Zero.bind,b5c]
 case makeMap t x=>cases x<;>grind[a9k,Zero.none]
 case makeFunc f x y=>
  cases f<;>first|exact Zero.none|skip
  grind[Zero.bind,Zero.one]
 all_goals first
  |grind[a9k]
  |exact Zero.none
  |(simp only
    repeat' first|exact Zero.none|exact Zero.one|exact Zero.one'|(refine Zero.bind λ _ _=> ?_)|split)
end
section
open Go.PV
def d0D(Γ:Gm)(l:List Nat)(id:Nat):Prop:=(∃nm,nm<Γ.m/\Γ.ν nm=id/\2*(nm+1)∈l/\Γ.N id)\/(¬Γ.N id/\(∃ty sz xs f,Γ.g id=some (.row ty sz xs f))/\0∈l)
structure StepF (Γ Γ1:Gm) (fC fA:List Nat×List Nat):Prop where
 le:Γ.le Γ1
 νlt:∀i,i<Γ.m->Γ.ν i<Γ.nx
 νinj:∀i j,i<Γ.m->j<Γ.m->Γ.ν i=Γ.ν j->i=j
 name:∀id,Γ.N id->∃nm,nm<Γ.m/\Γ.ν nm=id
 here:∀id,Γ.nx<=id->Γ.g id=none
 R:∀x∈fC.1,(∃t,x=2*t+1/\x∈fA.1)\/∃id,x=2*id/\d0D Γ fA.1 id
 W:∀x∈fC.2,(∃t,x=2*t+1/\x∈fA.2)\/∃id,x=2*id/\(d0D Γ fA.2 id\/(Γ.nx<=id/\id<Γ1.nx))
 new:∀nm,Γ.m<=nm->nm<Γ1.m->2*(nm+1)∈fA.2
 new0:∀id,Γ.nx<=id->id<Γ1.nx->Γ1.N id\/0∈fA.2
 van:∀nm,nm<Γ.m->Γ.N (Γ.ν nm)->Γ1.N (Γ.ν nm)\/(2*(nm+1)∈fA.2/\0∈fA.2)
section
variable {n:Nat} {G:Nat->Gm} {C A:Nat->List Nat×List Nat} {bit:Nat->Nat->Prop}
def d7w(a b:List Nat×List Nat):Prop:=∃x,(x∈a.2/\(x∈b.1\/x∈b.2))\/(x∈b.2/\x∈a.1)
theorem a8h(h:∀k,k<n->StepF (G k) (G (k+1)) (C k) (A k)):∀{i j:Nat},i<=j->j<=n->(G i).le (G j)
 |i,0,hi,_=>by simp_all[Gm.le.refl]
 |i,j+1,hi,hj=>by
  rcases as5 j i with hl|hl
  .grind[Gm.le.refl]
  .exact(a8h h hl (by omega)).trans (h j (by omega)).le
theorem d8N{id:Nat}:∀{j i:Nat},i<=j->(G i).N id->¬(G j).N id->∃k,i<=k/\k<j/\(G k).N id/\¬(G (k+1)).N id
 |0,i,hi,h1,h2=>by grind
 |j+1,i,hi,h1,h2=>by
  rcases as5 j i with hl|hl
  .grind
  .by_cases hj:(G j).N id
   .grind
   .obtain⟨k,k1,k2,k3⟩:=d8N hl h1 hj;grind
theorem c7t(h:∀k,k<n->StepF (G k) (G (k+1)) (C k) (A k))(hb:∀i j,i<j->j<n->d7w (A i) (A j)->bit j i)(ht:∀j k i,bit j k->bit k i->bit j i){i j:Nat}(a:i<j)(hj:j<n)(hC:d7w (C i) (C j)):bit j i:=by
 have hi:i<n:=by omega
 have r:=h i hi;have E:=h j hj;have l:=a8h h (aq5 a) (aq5 hj);have y:=a8h h (show i+1<=j by omega) (aq5 hj);have z:∀{id nm k:Nat},i+1<=k->k<=j->(G i).nx<=id->id<(G (i+1)).nx->nm<(G k).m->(G k).ν nm=id->2*(nm+1)∈(A i).2:=by
  intro id nm k hk B h1 h2 h3 h4;have o:=a8h h (show i<=k by omega) (by omega);have D:=a8h h hk (by omega);refine r.new nm ?_ ?_
  .refine Av7 λ p=> ?_;have:=r.νlt nm p;rw[o.ν nm p]at h4;omega
  .refine Ax7 λ u=> ?_;have:=D.new nm u h3;omega
 have gone:∀{id nm k:Nat} {lj:List Nat},i<=k->k<j->(G k).N id->¬(G (k+1)).N id->nm<(G k).m->(G k).ν nm=id->(lj=(A j).1\/lj=(A j).2)->0∈lj->(k=i\/((2*(nm+1)∈(A i).1\/2*(nm+1)∈(A i).2)))->bit j i:=by
  intro id nm k lj hk B n1 n2 hm F b h0 c;subst F;rcases(h k (by omega)).van nm hm n1 with h3|⟨h3,h4⟩
  .exact absurd h3 n2
  .have v:bit j k:=hb k j B hj ⟨0,.inl ⟨h4,by rcases b with rfl|rfl<;>simp[h0]⟩⟩;rcases c with rfl|c
   .exact v
   .rcases as5 i k with p|L
    .refine ht j k i v (hb i k p (by omega) ⟨2*(nm+1),?_⟩);rcases c with c|c
     .exact .inr ⟨h3,c⟩
     .exact .inl ⟨c,.inr h3⟩
    .have:k=i:=by omega
     subst this;exact v
 have c6j:∀{id:Nat} {li lj:List Nat},((li=(A i).2/\(lj=(A j).1\/lj=(A j).2))\/(li=(A i).1/\lj=(A j).2))->d0D (G i) li id->d0D (G j) lj id->bit j i:=by
  intro id li lj hl ci cj;have s:∀x,x∈li->x∈lj->bit j i:=by
   intro x h1 h2;refine hb i j a hj ⟨x,?_⟩;rcases hl with⟨rfl,rfl|rfl⟩|⟨rfl,rfl⟩
   .exact .inl ⟨h1,.inl h2⟩
   .exact .inl ⟨h1,.inr h2⟩
   .exact .inr ⟨h2,h1⟩
  have b:lj=(A j).1\/lj=(A j).2:=by rcases hl with⟨_,h⟩|⟨_,h⟩;exact h;exact .inr h
  have H:∀x,x∈li->x∈(A i).1\/x∈(A i).2:=by
   intro x hx;rcases hl with⟨rfl,_⟩|⟨rfl,_⟩
   .exact .inr hx
   .exact .inl hx
  rcases ci with⟨nm,c1,c2,c3,c4⟩|⟨c1,⟨ty,sz,xs,f,c2⟩,c3⟩<;>rcases cj with⟨w,d1,d2,d3,d4⟩|⟨d1,d2,d3⟩
  .have e:(G j).ν nm=(G j).ν w:=by rw[l.ν nm c1,c2,d2]
   have:=E.νinj nm w (aw9 c1 l.m) d1 e;subst this;exact s _ c3 d3
  .obtain⟨k,k1,k2,k3,k4⟩:=d8N (aq5 a) c4 d1;have o:=a8h h k1 (by omega);exact gone k1 k2 k3 k4 (aw9 c1 o.m) (by rw[o.ν nm c1];exact c2) b d3 (.inr (H _ c3))
  .exact absurd d4 (l.keeps id ty sz xs f c2 c1).1
  .exact s 0 c3 d3
 have d:∀{id:Nat} {lj:List Nat},(lj=(A j).1\/lj=(A j).2)->(G i).nx<=id->id<(G (i+1)).nx->d0D (G j) lj id->bit j i:=by
  intro id lj b h1 h2 cj;rcases cj with⟨w,d1,d2,d3,d4⟩|⟨d1,d2,d3⟩
  .have:=z (k:=j) (by omega) (ay3 _) h1 h2 d1 d2;exact hb i j a hj ⟨_,.inl ⟨this,by rcases b with rfl|rfl<;>simp[d3]⟩⟩
  .rcases r.new0 id h1 h2 with h0|h0
   .obtain⟨k,k1,k2,k3,k4⟩:=d8N (show i+1<=j by omega) h0 d1;obtain⟨nm,m1,m2⟩:=(h k (by omega)).name id k3;have:=z (k:=k) k1 (by omega) h1 h2 m1 m2;exact gone (by omega) k2 k3 k4 m1 m2 b d3 (.inr (.inr this))
   .exact hb i j a hj ⟨0,.inl ⟨h0,by rcases b with rfl|rfl<;>simp[d3]⟩⟩
 have old:∀{id:Nat} {li:List Nat},d0D (G i) li id->id<(G i).nx:=by
  intro id li ci;rcases ci with⟨nm,c1,c2,_⟩|⟨_,⟨ty,sz,xs,f,c2⟩,_⟩
  .rw[<-c2];exact r.νlt nm c1
  .refine Ax7 λ u=> ?_;rw[r.here id u]at c2;cases c2
 have J:=l.nx;have I:=y.nx;obtain⟨x,hx⟩:=hC;rcases hx with⟨hw,hr|hr⟩|⟨hw,hr⟩
 .rcases r.W x hw with⟨t,e1,h1⟩|⟨id,e1,h1⟩<;>rcases E.R x hr with⟨K,e2,h2⟩|⟨g,e2,h2⟩
  .exact hb i j a hj ⟨x,.inl ⟨h1,.inl h2⟩⟩
  .omega
  .omega
  .have:id=g:=by omega
   subst this;rcases h1 with h1|⟨h1,q⟩
   .exact c6j (.inl ⟨rfl,.inl rfl⟩) h1 h2
   .exact d (.inl rfl) h1 q h2
 .rcases r.W x hw with⟨t,e1,h1⟩|⟨id,e1,h1⟩<;>rcases E.W x hr with⟨K,e2,h2⟩|⟨g,e2,h2⟩
  .exact hb i j a hj ⟨x,.inl ⟨h1,.inr h2⟩⟩
  .omega
  .omega
  .have:id=g:=by omega
   subst this;rcases h1 with h1|⟨h1,q⟩<;>rcases h2 with h2|⟨h2,M⟩
   .exact c6j (.inl ⟨rfl,.inr rfl⟩) h1 h2
   .have:=old h1;omega
   .exact d (.inr rfl) h1 q h2
   .omega
 .rcases E.W x hw with⟨t,e1,h1⟩|⟨id,e1,h1⟩<;>rcases r.R x hr with⟨K,e2,h2⟩|⟨g,e2,h2⟩
  .exact hb i j a hj ⟨x,.inr ⟨h1,h2⟩⟩
  .omega
  .omega
  .have:id=g:=by omega
   subst this;rcases h1 with h1|⟨h1,q⟩
   .exact c6j (.inr ⟨rfl,rfl⟩) h2 h1
   .have:=old h2;omega
end
end
section
open Go.PV
def d4e(a T:AS):List Nat:=(List.range' a.m (T.m-a.m)).map (· +1)
def c6p(a T:AS):List Nat:=match(a.bx.filter λ p=>(a4U T p.1).isNone).map (λ p=>p.1+1)with
 |[]=>[]
 |l=>0::l
def b5R(a T:AS)(o:Oper):List Nat:=if b5c o.op then [0]else if a9k o.op then(if decide (T.m=a.m+1)&&(a4U T a.m).isSome then []else [0])else []
def c9M(ops:Array Oper)(a:AS)(o:Oper)(p:Bool×AS):Option (List Nat×List Nat):=
 if p.1 then(c8i a o).map λ q=>a5A ops o q.1 (q.2++(d4e a p.2++(c6p a p.2++b5R a p.2 o)))
 else if(c6p a p.2).isEmpty&&decide (p.2.m=a.m)then some (a5A ops o [] [])else none
section
variable (P:Program) (ctx:Nat->List SumA) (inl:Nat->Bool)
def c2w(ops:Array Oper):List Oper->AS->Option (List (List (List Nat×List Nat)×AS))
 |[],a=>some [([],a)]
 |o::r,a=>match c7j P ctx inl ops o a with
  |none=>none
  |some l=>a1f (λ p=>match c9M ops a o p with
   |none=>none
   |some f=>(c2w ops r p.2).map λ l=>l.map λ q=>(f::q.1,q.2)) l
def drS(ops:Array Oper)(a:AS):Option (List AS):=match c2w P ctx inl ops ops.toList a with
 |none=>none
 |some l=>if l.all (λ q=>a6F ops q.1)then some (l.map (·.2))else none
end
section
variable {P:Program} {prim:Nat->Option Fp} {inl:Nat->Bool} {ctx:Nat->List SumA}
variable {a T:AS} {Γ S:Gm} {s U:St}
variable {l:List Nat}
theorem b6P{x:Nat}(h:x∈l)(r:List Nat):2*x∈l.map (2* ·)++r:=av4 _ (ax5.2 ⟨x,h,rfl⟩)
theorem Cov.two{r:List Nat}{id:Nat}(h:Cov Γ l id):d0D Γ (l.map (2* ·)++r) id:=by
 rcases h with⟨nm,h1,h2,h3,h4⟩|⟨h1,h2,h3⟩
 .exact .inl ⟨nm,h1,h2,b6P h3 r,h4⟩
 .exact .inr ⟨h1,h2,b6P h3 r⟩
theorem c9P(h:Ok a Γ s)(f:Ok T S U)(hl:Γ.le S){nm:Nat}(hm:nm<Γ.m)(hN:Γ.N (Γ.ν nm)):S.N (Γ.ν nm)\/(nm+1∈c6p a T/\0∈c6p a T):=by
 obtain⟨p,hp,e⟩:=(h.N _).1 hN;have c:=h.νinj p.1 nm (h.box p hp).1 hm e;cases hg:a4U T nm with
 |some b=>left;refine(f.N _).2 ⟨(nm,b),a0N hg,?_⟩;exact hl.ν nm hm
 |none=>
  right;have d:nm+1∈(a.bx.filter λ p=>(a4U T p.1).isNone).map (λ p=>p.1+1):=by
   refine ax5.2 ⟨p,as2.2 ⟨hp,?_⟩,by rw[c]⟩;rw[c,hg];rfl
  unfold c6p;split
  .grind
  .grind
theorem a8G(h:Ok a Γ s):(∀i,i<Γ.m->Γ.ν i<Γ.nx)/\(∀id,Γ.N id->∃nm,nm<Γ.m/\Γ.ν nm=id)/\∀id,Γ.nx<=id->Γ.g id=none:=by
 refine⟨λ i hi=>by rw[h.nxe];exact h.νlt i hi,λ id hid=> ?_,λ id hid=>by rw[h.g];exact h.nx id (by rw[<-h.nxe];exact hid)⟩;obtain⟨p,hp,e⟩:=(h.N id).1 hid;exact⟨p.1,(h.box p hp).1,e⟩
variable {ops:Array Oper} {o:Oper}
theorem c5S(h:Ok a Γ s)(e:Ok T S U)(hl:Γ.le S){call:PV.Calls}{r:Out}(f:opE P call s.get (a0b s.h) s.nx o=some r)(l:U=a2H {s with h:=r.upd++s.h,nx:=s.nx+r.cnt} o.dst r.v){R W:List Nat}(hf:c8i a o=some (R,W)):
  StepF Γ S (a5A ops o (a3q s.get o) (a2w s.get (a0b s.h) o++List.range' s.nx (U.nx-s.nx))) (a5A ops o R (W++(d4e a T++(c6p a T++b5R a T o)))):=by
 obtain⟨c1,c2,c3⟩:=a8G h;obtain⟨f1,f2⟩:=c7V h hf;have g:U.nx=s.nx+r.cnt:=by grind[PV.a4F]
 have up:∀{x:Nat},x∈W++(d4e a T++(c6p a T++b5R a T o))->2*x∈(a5A ops o R (W++(d4e a T++(c6p a T++b5R a T o)))).2:=λ hx=>b6P hx _;refine⟨hl,c1,h.νinj,c2,c3,λ x hx=> ?_,λ x hx=> ?_,λ nm h1 h2=>up ?_,λ id h1 h2=> ?_,λ nm hm hN=> ?_⟩
 .simp only[a5A,ax1,ax5]at hx;rcases hx with⟨id,hid,rfl⟩|⟨t,ht,rfl⟩
  .exact .inr ⟨id,rfl,(f1 id hid).two⟩
  .exact .inl ⟨t,rfl,by simp only[a5A,ax1,ax5];grind⟩
 .simp only[a5A,ax1,ax5]at hx;rcases hx with⟨id,hid|hid,rfl⟩|⟨t,ht,rfl⟩
  .exact .inr ⟨id,rfl,.inl ((f2 id hid).mono (λ x hx=>av4 _ hx)|>.two)⟩
  .rw[an2]at hid;exact .inr ⟨id,rfl,.inr ⟨by rw[h.nxe];exact hid.1,by rw[e.nxe];omega⟩⟩
  .exact .inl ⟨t,rfl,by simp only[a5A,ax1,ax5];grind⟩
 .refine aw2 _ (av4 _ (ax5.2 ⟨nm,an2.2 ⟨by rw[<-h.m];exact h1,?_⟩,rfl⟩));have:=h.m;have:=e.m;omega
 .rw[h.nxe]at h1;rw[e.nxe,g]at h2;have k:0∈b5R a T o->0∈(a5A ops o R (W++(d4e a T++(c6p a T++b5R a T o)))).2:=λ hz=>up (x:=0) (aw2 _ (aw2 _ (aw2 _ hz)));by_cases c:b5c o.op=true
  .right;refine k ?_;unfold b5R;rw[ax3 c];exact az7.2 rfl
  .have c:b5c o.op=false:=by simpa using c
   by_cases i:a9k o.op=true
   .have m:=b9a i r f;by_cases d:(decide (T.m=a.m+1)&&(a4U T a.m).isSome)=true
    .left;rw[az6,ay2]at d;obtain⟨n1,n2⟩:=d;obtain⟨b,hb⟩:=at0.1 n2;have j:=a0N hb;have n:Γ.nx<=S.ν a.m:=hl.new a.m (by rw[h.m];exact ay3 _) (by rw[e.m,n1];grind);have p:=e.νlt a.m (by rw[e.m,n1];grind);rw[h.nxe]at n;have:S.ν a.m=id:=by omega
     exact(e.N _).2 ⟨_,j,this⟩
    .right;refine k ?_;unfold b5R;rw[c,i,ay9 (by decide),ax3 rfl,ay9 d];exact az7.2 rfl
   .have:=c8H (by grind) c r f;omega
 .rcases c9P h e hl hm hN with h1|⟨h1,h2⟩
  .grind
  .exact .inr ⟨up (aw2 _ (aw2 _ (av4 _ h1))),up (x:=0) (aw2 _ (aw2 _ (av4 _ h2)))⟩
theorem c7M(h:Ok a Γ s)(c:Ok T S U)(hl:Γ.le S)(d:U.nx=s.nx)(hv:(c6p a T).isEmpty=true)(hm:T.m=a.m):StepF Γ S (a5A ops o [] []) (a5A ops o [] []):=by
 obtain⟨c1,c2,c3⟩:=a8G h;refine⟨hl,c1,h.νinj,c2,c3,λ x hx=> ?_,λ x hx=> ?_,λ nm h1 h2=> ?_,λ id h1 h2=> ?_,λ nm e hN=> ?_⟩
 .refine .inl ?_;have b:=hx;simp only[a5A,ar8,ao8,ax5]at hx;obtain⟨t,_,rfl⟩:=hx;exact⟨t,rfl,b⟩
 .refine .inl ?_;have b:=hx;simp only[a5A,ar8,ao8,ax5]at hx;obtain⟨t,_,rfl⟩:=hx;exact⟨t,rfl,b⟩
 .rw[h.m]at h1;rw[c.m,hm]at h2;omega
 .rw[h.nxe]at h1;rw[c.nxe,d]at h2;omega
 .rcases c9P h c hl e hN with h1|⟨h1,_⟩
  .grind
  .grind
theorem b8E(hc:a9d P prim inl ctx){ops:Array Oper}:∀{l:List Oper} {a:AS} {Γ:Gm} {s:St} {r:List (List (List Nat×List Nat)×AS)},Ok a Γ s->c2w P ctx inl ops l a=some r->
  ∃N fs U,a4g P (Lv P prim inl N) ops l s=some (fs,U)/\∃q∈r,∃S,Γ.le S/\Ok q.2 S U/\fs.length=l.length/\q.1.length=l.length/\
   ∃G:Nat->Gm,G 0=Γ/\∀k,k<l.length->StepF (G k) (G (k+1)) (fs.getD k ([],[])) (q.1.getD k ([],[]))
 |[],a,Γ,s,r,h,hr=>by
  simp only[c2w,az0]at hr;subst hr;exact⟨0,[],s,rfl,_,az7.2 rfl,Γ,Gm.le.refl Γ,h,rfl,rfl,λ _=>Γ,rfl,λ k hk=>by simp at hk⟩
 |o::l,a,Γ,s,r,h,hr=>by
  simp only[c2w]at hr;split at hr
  .cases hr
  next sl x=>
  obtain⟨N,u,n1,j,p,I,H,y,l1,o1⟩:=b8M hc h x (ops:=ops) (prim:=prim);obtain⟨z,w,J⟩:=a2x hr p I;split at w
  .cases w
  next f hf=>
  simp only[az2]at w;obtain⟨O,A,rfl⟩:=w;obtain⟨M,fs,B,m1,q,K,C,l2,o2,m,n,G,g0,gs⟩:=b8E hc (l:=l) o1 A;have d:a0v P (Lv P prim inl (max N M)) ops o s=some u:=a7N (ar5 N M) n1;have t:a4g P (Lv P prim inl (max N M)) ops l u=some (fs,B):=b0c (a0L (ar6 N M)) m1;have first:∃fc,a4g P (Lv P prim inl (max N M)) ops (o::l) s=some (fc::fs,B)/\StepF Γ y fc f:=by
   unfold c9M at hf;cases hw:a0V ops o s.get with
   |true=>
    rw[H,hw]at hf;simp only[aw4,az2]at hf;obtain⟨⟨R,W⟩,D,rfl⟩:=hf;have e:a1F (Lv P prim inl (max N M)) s.get o=some none:=b2w (a0L (ar5 N M)) (j hw);have g:∃r,opE P (Lv P prim inl (max N M)) s.get (a0b s.h) s.nx o=some r/\u=a2H {s with h:=r.upd++s.h,nx:=s.nx+r.cnt} o.dst r.v:=by
     have b:=d;unfold a0v at b;rw[ax3 hw]at b;simp only[az2]at b;obtain⟨⟨v,Q⟩,i,rfl⟩:=b;unfold a1h at i;simp only[e,az2,az8]at i;obtain⟨r,hr,rfl,rfl⟩:=i;exact⟨r,hr,rfl⟩
    obtain⟨r,r1,r2⟩:=g;refine⟨_,?_,c5S h o1 l1 r1 r2 D⟩;simp only[a4g,d,t,hw,aw4,e]
   |false=>
    rw[H,hw]at hf;simp only[ay6,av8]at hf;split at hf
    .next c=>
     rw[az6,ay2]at c;injection hf with hf
     subst hf;have E:u.nx=s.nx:=by
      have b:=d;unfold a0v at b;rw[ay9 (by grind)]at b;injection b with b
      grind[PV.a4F]
     refine⟨_,?_,c7M h o1 l1 E c.1 c.2⟩;simp only[a4g,d,t,hw,ay6,av8]
    .cases hf
  obtain⟨fc,F,L⟩:=first
  refine⟨max N M,fc::fs,B,F,(f::q.1,q.2),J _ (ax5.2 ⟨q,K,rfl⟩),C,l1.trans l2,o2,by simp[m],by simp[n],λ k=>match k with|0=>Γ|k+1=>G k,rfl,λ k hk=> ?_⟩;cases k with
  |zero=>grind
  |succ k=>grind
theorem d4D(hc:a9d P prim inl ctx):d6j P prim inl (drS P ctx inl):=by
 intro ops a Γ s l h hr;unfold drS at hr;split at hr
 .cases hr
 next r c=>
 split at hr
 .next o=>
  injection hr with hr
  subst hr;obtain⟨N,fs,U,n1,q,H,S,l1,o1,p,t,G,g0,gs⟩:=b8E hc h c;have z:=ay5.1 o q H;have u:q.1.length=ops.size:=by simpa using t
  have d:fs.length=ops.size:=by simpa using p
  obtain⟨he,hA⟩:=b1p u z;refine⟨N,fs,U,n1,?_,q.2,ax5.2 ⟨q,H,rfl⟩,S,l1,o1⟩;unfold a6F;simp only[az6,ay5,ay8,ax2];refine⟨he,λ x hx y hy=> ?_⟩;obtain⟨fj,j⟩:=x;obtain⟨fi,i⟩:=y;have hj:=List.getElem?_of_mem hx;obtain⟨I,e⟩:=hj;rw[List.getElem?_zipIdx]at e;simp only[as4,az2,az8]at e;obtain⟨B,v,rfl,rfl⟩:=e;obtain⟨J,hi'⟩:=List.getElem?_of_mem hy;rw[List.getElem?_zipIdx]at hi';simp only[as4,az2,az8]at hi';obtain⟨D,b,rfl,rfl⟩:=hi';rw[av1]at b;split at b
  .next E=>
   have F:I<ops.size:=by rw[<-d];exact(ay0.1 v).1
   have eC:∀{k f},fs[k]?=some f->fs.getD k ([],[])=f:=λ h=>by grind
   cases g:a7k D B with
   |false=>grind
   |true=>
    left;refine c7t (n:=ops.size) (G:=G) (C:=λ k=>fs.getD k ([],[])) (A:=λ k=>q.1.getD k ([],[])) (bit:=λ j i=>((Region.before ops).getD j 0).testBit i=true) (λ k hk=>gs k (by grind)) (λ i j h1 h2 m=> ?_) (λ j k i h1 h2=>b6G he j k i h1 h2) E F ?_
    .refine(hA i j h1 h2).resolve_right λ hm=> ?_;obtain⟨m1,m2⟩:=a4V hm;obtain⟨x,hx⟩:=m;rcases hx with⟨w,r|r⟩|⟨w,r⟩
     .grind
     .grind
     .grind
    .show d7w (fs.getD J ([],[])) (fs.getD I ([],[]));rw[eC b,eC v];unfold a7k at g;simp only[ay8,ar4,au1]at g;rcases g with⟨x,h1,h2⟩|⟨x,h1,h2⟩
     .exact⟨x,.inl ⟨h1,h2⟩⟩
     .exact⟨x,.inr ⟨h1,h2⟩⟩
  .cases b
 .cases hr
end
end
section
open Go.PV
structure Row where
 k:Nat
 c:SumA
 ann:List (Nat×List Ann)
 deriving Inhabited
def lkA(l:List (Nat×List Ann))(b:Nat):List Ann:=(l.lookup b).getD []
def b6W:Nat->List Row->Nat->List SumA
 |0,_,_=>[]
 |_,[],_=>[]
 |n+1,r::l,k=>if r.k==k then r.c::b6W n l k else b6W n l k
def lkI(l:List (Nat×List (Nat×List Ann)))(k:Nat)(b:Nat):List Ann:=lkA ((l.lookup k).getD []) b
def b7y(P:Program)(pr:List Nat)(inl:Nat->Bool)(ai:List (Nat×List (Nat×List Ann)))(rows:List Row)(i:Nat):Bool:=
 match rows[i]? with
 |none=>true
 |some r=> !pr.contains r.k&&b4D P (b6W i rows) inl (irL P (b6W i rows) inl (drS P (b6W i rows) inl) (lkI ai) 3) (drS P (b6W i rows) inl) (lkA r.ann) r.k r.c
section
variable {P:Program} {prim:Nat->Option Fp} {inl:Nat->Bool} {pr:List Nat} {ai:List (Nat×List (Nat×List Ann))} {rows:List Row}
theorem b2T:∀{n:Nat} {l:List Row} {k:Nat} {c:SumA},c∈b6W n l k->∃j r,j<n/\l[j]?=some r/\r.k=k/\r.c=c
 |0,_,_,_,h=>by simp[b6W]at h
 |_+1,[],_,_,h=>by simp[b6W]at h
 |n+1,r::l,k,c,h=>by
  simp only[b6W]at h;split at h
  .next e=>
   rcases ay4.1 h with rfl|h
   .exact⟨0,r,by omega,rfl,by simpa using e,rfl⟩
   .obtain⟨j,a,h1,h2,h3⟩:=b2T h;exact⟨j+1,a,by omega,by simpa using h2,h3⟩
  .obtain⟨j,a,h1,h2,h3⟩:=b2T h;exact⟨j+1,a,by omega,by simpa using h2,h3⟩
def RowsOk(P:Program)(prim:Nat->Option Fp)(inl:Nat->Bool)(rows:List Row)(n:Nat):Prop:=
 ∀i r,i<n->rows[i]?=some r->a1p (λ N=>(Lv P prim inl N).cbv) r.k r.c
theorem RowsOk.ctx{n:Nat}(h:RowsOk P prim inl rows n):a9d P prim inl (b6W n rows):=by
 intro k c hc;obtain⟨j,r,h1,h2,rfl,rfl⟩:=b2T hc;exact h j r h1 h2
theorem RowsOk.more(hp:∀k,pr.contains k=false->prim k=none){lo:Nat}(h:RowsOk P prim inl rows lo):∀(n:Nat),((List.range n).all λ d=>b7y P pr inl ai rows (lo+d))=true->RowsOk P prim inl rows (lo+n):=by
 intro n;induction n with
 |zero=>intro _;exact h
 |succ n ih=>
  intro hc;have a:∀d,d<n+1->b7y P pr inl ai rows (lo+d)=true:=λ d hd=>ay5.1 hc d (aq2.2 hd);have h0:=ih (ay5.2 λ d hd=>a d (by have:=aq2.1 hd;omega));intro i r hi hr;by_cases e:i<lo+n
  .exact h0 i r e hr
  have e:i=lo+n:=by omega
  subst e;have h1:=a n (by omega);unfold b7y at h1;rw[hr]at h1;simp only[az6,ax2]at h1;have hd:=d4D (inl:=inl) h0.ctx;exact c4x h0.ctx (d5V h0.ctx hd 3) hd (hp _ h1.1) h1.2
theorem RowsOk.one{n:Nat}(h:RowsOk P prim inl rows n)(h1:∀r,rows[n]?=some r->a1p (λ N=>(Lv P prim inl N).cbv) r.k r.c):RowsOk P prim inl rows (n+1):=by
 intro i r hi hr;by_cases e:i<n
 .exact h i r e hr
 .have e:i=n:=by omega
  subst e;exact h1 r hr
end
end
section
open Go.PV
noncomputable section
namespace D
variable(α:AB)(β γ δ ε ζ η θ:AV)(ι κ:Ann)(μ:Bool)(ν ξ ο π:Bool×Nat×List Nat×Int)(ρ σ τ υ φ χ:Ce)(ψ ω Γ Δ Θ Ξ Υ Φ Ψ Ω Α Β:Int)(Ε:IntKind)(Ζ:LE)(Η Ι:LinF)(Κ:List (Bool×Nat×List Nat×Int))(Μ:List (List Ce))(Ν:List (Nat×List Ann))(Ο:List (Nat×List Pt))(Ρ:List (Nat×Pt))(Τ:List (Sy×Int))(Χ ϊ:List AV)(ϋ:List Ann)(ό:List Ce)(ύ:List LE)(ώ:List LinF)(ϐ:List Nat)(ϑ:List Pa)(ϒ:List PostA)(ϓ:List Pt)(ϔ:List Sy)(ϕ:List TD)(ϖ ϗ Ϙ ϙ Ϛ ϛ Ϝ:Nat)(ϝ:Nat×List Ann)(Ϟ:Nat×List Pt)(ϟ:Nat×Pt)(Ϡ ϡ:Pa)(zA zB:PostA)(zC zD zE:Pt)(zF zG zH zI zJ:Sy)(zK zL zM:Sy×Int)(zN zO zP zQ zR zS zT zU:TD)
def l5:Sy:=⟨ϖ,-9223372036854775808,ψ⟩
def aB:=l5 9223372036854775807 ϖ
def l6:TD:=.int Ε (-9223372036854775808) ψ
def kl:Sy:=⟨ϖ,ψ,17592186044416⟩
def lr:AV:=.str ⟨ψ,Τ⟩
def l7:=l6 9223372036854775807 Ε
def iX:AV:=.int Ε ⟨ψ,Τ⟩
def ab:Sy:=⟨ϖ,0,ψ⟩
def g5:Ce:=.av (iX ψ Ε Τ)
def hw:Ce:=.av (lr ψ Τ)
def aE:=ab 1048576 ϖ
def kT:Ce:=.av (.bool α)
def iq:=g5 ψ .i64 Τ
def aj:=l7 .i64
def bi:TD:=.str 16384
def ls:Bool×Nat×List Nat×Int:=(false,ϖ,ϐ,ψ)
def b8:=ab 1099511627776 ϖ
def hy:AV:=.dat false Ζ zN
def ef:Sy×Int:=(ab ψ ϖ,ω)
def gA:TD:=.str 65536
def l8:TD:=.str 4611686018427387904
def bD:Row:=⟨ϖ,⟨ϗ,ϔ,Χ,Μ,ύ,ϒ⟩,Ν⟩
def bj:=ef ψ 1 ϖ
def bE:=ls ψ [] ϖ
def t:TD:=.str 1048576
def fM:TD:=.sl false ψ zN
def lu:PostA:=⟨ϖ,ϔ,.pa Ϡ,Μ,ύ⟩
def dQ:List (Sy×Int):=[bj ψ ϖ]
def eN:LE:=⟨ψ,dQ ω ϖ⟩
def l9:TD:=.int Ε ψ 18446744073709551615
def lv:=hw ψ (dQ ω ϖ)
def cS:LinF:=⟨0,Κ⟩
def fO:PostA:=⟨ϖ,ϔ,.tup ϑ,Μ,ύ⟩
def lw:AB:=.c false
def a5:TD:=.str 134217728
def i:Pt:=.td aj
def cy:=lu Μ ύ ϔ ϖ (.ce ρ)
def I:AV:=.bool .unk
def cT:=kl 0 ϖ
def lx:=dQ 18446744073709551615 ϖ
def eO:=iq 0 Τ
def p:=aB 1
def l:Ce:=.av .nils
def ds:=hy Ζ (.agg ϕ)
def J:=cT 0
def kV:=lr 0 Τ
def j:=eO []
def ly:TD:=.int .i64 ψ ω
def kW:=cS [ν,ξ]
def kX:=kW (bE ψ ϖ) ν
def g6:=kX (bE ω ϗ) ψ ϖ
def jT:=iX ψ .i64 Τ
def r:=kT lw
def P:=aE 0
def cl:=kV (dQ ψ ϖ)
def gB:=bD Μ Ν Χ [] ϒ ϔ ϖ ϗ
def o:=kT .unk
def km:LE:=⟨0,Τ⟩
def ma:=eO [zK]
def kn:=ma (zF,ψ)
def mb:=kn ψ (aB ϖ)
def jU:=hw 0 Τ
def g:=jU []
def dt:=ab 18446744073709551615 ϖ
def au:=lv 0 ψ ϖ
def a6:=au 65536 ϖ
def fP:=gB [] Ν Χ ϒ ϔ ϖ ϗ
def eP:=g6 ψ (-1) ϖ ϗ
def mc:=kV [zK]
def lz:=mc (zF,ψ)
def md:=lz ψ (cT ϖ)
def lA:Ann:=⟨Ρ,Ο,ώ,eP ψ ϖ ϗ⟩
def lB:AB:=.c true
def fQ:=eN ψ 2147483648 ϖ
def kY:Pt:=.own ϖ ϗ 4294967296 zN
def me:TD:=.val μ 1048576
def C:Pt:=.td l8
def hz:=cy ρ [] ύ ϔ ϖ
def U:Pt:=.boolc false
def iY:=fM ψ (.agg ϕ)
def cm:=ab 2147483648 ϖ
def hA:Ce:=.av (ds Ζ ϕ)
def kZ:=ls ψ [ϗ] ϖ
def mf:List Pa:=[Ϡ,.ce ρ]
def lC:=fO Μ ύ (mf ρ Ϡ) ϔ ϖ
def hB:=lC ρ Μ ύ ϔ ϖ (.agg ό)
def fR:=fP [] Χ ϒ ϔ ϖ ϗ
def mg:=kn Γ ⟨ϖ,ψ,ω⟩
def a7:=me false
def k0:=kW (kZ ψ ϖ ϗ) ν
def lD:=lC σ Μ ύ ϔ ϖ (.ce ρ)
def iZ:=lu Μ ύ ϔ ϖ (.agg ό)
def cU:=hz ρ [] ϔ ϖ
def ko:Bool×Nat×List Nat×Int:=(true,ϖ,ϐ,ψ)
def ai:=kT lB
def aF:=ab 65536 ϖ
def bt:=kZ (-1) ϖ ϗ
def bK:TD:=.str 16378
def aD:=mb 1 ϖ
def kp:=g5 ψ .u64 Τ
def gC:=eN 0 ψ ϖ
def g7:Ce:=.av (hy Ζ zN)
def mh:=l9 ψ .u64
def lE:=kW (ko ψ ϐ ϖ) ν
def lF:=jT 0 Τ
def da:=lz 1 zF
def ae:=da J
def i1:Ce:=.own ϖ ϗ Ζ (.agg ϕ)
def kq:=fM ψ bi
def fS:=ab 16384 ϖ
def mi:TD:=.int .u8 ψ ω
def bL:=cl 65536 ϖ
def eg:=da (b8 ϖ)
def mj:=lF [zK]
def bM:=cU ρ [] ϖ
def kr:=mj (zF,ψ)
def ml:=kr ψ (aB ϖ)
def aN:=ef ψ (-1) ϖ
def db:=mh 0
def ir:=cl 16384 ϖ
def k1:=ko (-1) ϐ ϖ
def mm:=jU [zK]
def mn:=mm (zF,ψ)
def bF:=mn 1 zF
def dc:=md 1 ϖ
def mo:=lE (bt ϗ Ϙ) ψ ϐ ϖ
def cz:List AV:=[.agg Χ]
def eh:=bE (-1) ϖ
def aL:=bF (aE ϖ)
def jV:List TD:=[ly ψ ω,zN,zO,zP]
def k2:=jV ψ ω zN (kq Γ) zO
def lG:=k2 ψ ω Γ bi zN
def k3:=lG ψ ω Γ (fM Δ zN)
def ah:=cT 2
def ei:=ds (gC ψ ϖ) ϕ
def bN:=fR (cz Χ) ϒ ϔ ϖ ϗ
def a2:=ab 4096 ϖ
def k4:=km [zK]
def du:=ab 1073741824 ϖ
def ej:=lG ψ ω Γ (iY Δ ϕ)
def lH:=mi ψ 255
def fU:=lH 0
def mq:=kX (k1 ϐ ϗ) ψ ϖ
def ac:=eP 1 ϖ ϗ
def mr:AV:=.ptr 0 ϖ
def aC:=mr 0
def gD:=hB ρ [] ό ύ ϔ ϖ
def ms:=lA ψ [] Ρ ώ ϖ ϗ
def mu:=k4 (zF,ψ)
def hC:=mu 1 zF
def ad:=bF P
def dR:=hy (gC ψ ϖ) zN
def mv:=k0 (k1 ϐ Ϙ) ψ ϖ ϗ
def al:=aE 2
def bG:=eO (dQ ψ ϖ)
def mw:=kp ψ (lx ϖ)
def jW:=hC P
def g8:=km [zK,zL]
def aw:=b8 0
def cH:Sy:=⟨ϖ,ψ,1048576⟩
def b9:=au 253 ϖ
def ay:List Sy:=[ab ψ ϖ]
def mx:=kr ψ p
def aa:=mx 1
def my:AV:=.lit (.pointer none)
def ag:=cT 1
def lI:LE:=⟨-1,Τ⟩
def is:=iZ [] ό ύ ϔ ϖ
def cn:=lD ρ σ [] ύ ϔ ϖ
def aJ:=au 4096 ϖ
def k5:=au 12573 ϖ
def aG:=cT 4
def mz:=kn ψ p
def af:=mz 1
def fX:=cl 1073741824 ϖ
def a0:=hA (gC ψ ϖ) ϕ
def it:=iY 1048576 ϕ
def a8:=eN (-1) ψ ϖ
def bO:=ml 1 ϖ
def fY:=bM r ϖ
def fZ:=g8 (zF,ψ) zK
def f0:=gD ρ ό [] ϔ ϖ
def mA:=k0 (bt Ϙ ϙ) ψ ϖ ϗ
def bu:=aD 5
def aK:=mg ψ ω 1 ϖ
def fd:Sy:=⟨ϖ,5,ψ⟩
def lJ:=ef 65536 ψ ϖ
def aY:=cT 3
def an:=ab ψ 2
def iu:=hC (aE ϖ)
def eQ:=i1 (gC ψ Ϙ) ϕ ϖ ϗ
def f1:=is ό [] ϔ ϖ
def cI:=bE 1 ϖ
def a9:=dc 2
def dd:=ms 1 Ρ ώ ϖ ϗ
def bl:=dc 4
def bP:AV:=.agg [β,γ,δ,ε]
def cp:=aD 2
def mB:=mq ψ [] ϖ ϗ
def jX:TD:=.rel (k3 ψ ω Γ Δ zN)
def ek:Ann:=⟨Ρ,Ο,ώ,⟨ψ,Κ⟩⟩
def mC:=fM ψ .any
def de:=cn ρ σ [] ϔ ϖ
def ak:=aB 0
def f2:=bM ai ϖ
def cq:TD:=.str 12573
def aO:Pa:=.ce j
def ao:=b8 1
def aq:=fS 1
def lK:=fZ 1 zF zK
def i2:=kX (bt ϗ Ϙ) ψ ϖ
def cJ:=g7 (gC ψ ϖ) zN
def el:List Sy:=[⟨ϖ,ψ,ω⟩]
def cr:=dc 3
def cV:=cU ρ (ay ψ ϗ) ϖ
def mD:=hy (fQ ψ ϖ) zN
def bm:=fY 1
def ks:=a8 18446744073709551615 ϖ
def f3:=dd Ρ [Η,Ι] ϖ ϗ
def gE:=f3 (ac ϖ ϗ) Η Ρ Ϙ ϙ
def mE:=gE (cS Κ) Ρ ϖ ϗ Ϙ ϙ
def eR:=fR Χ [zA,zB] ϔ ϖ ϗ
def mF:=fP [ϝ] Χ ϒ ϔ ϖ ϗ
def gF:=au 16384 ϖ
def az:=ir 1
def aI:=hC p
def hD:=mF Χ ϒ ϔ ϖ ϗ (Ϙ,ϋ)
def aP:=iq ψ []
def g9:=bF J
def aA:=dc 1
def i3:=mC 0
def f4:=b9 4
def f5:=k5 3
def kt:=hD Χ ϋ ϒ ϔ ϖ ϗ 0
def dv:=f1 ό [] ϖ
def mG:=ej ψ ω Γ Δ (k3 Θ Ξ Υ Φ zN)
def i4:=f0 (aK ψ ω ϗ) ό ϔ ϖ
def aT:=aE 1
def lL:=kr ω (fd ψ ϖ)
def mH:=mo 1 ϐ ϖ ϗ Ϙ
def lM:=mH [ϗ] ϖ Ϙ ϙ
def em:Ann:=⟨Ρ,Ο,ώ,cS Κ⟩
def mI:List TD:=[zN,zO,zP,zQ,zR,.bool,zS,zT,zU]
def mJ:=mI zN zO zP zQ zR .bool zS zT
def mK:=mJ gA zN zO zP zQ zR zS
def mL:=mK aj zN zO zP zQ zR
def mM:=mL gA zN zO zP zQ
def mN:=mM gA zN zO zP
def mO:=mN gA zN zO
def mP:=mO aj zN
def ba:=mP aj
def hE:=lF (dQ ψ ϖ)
def ca:=f2 1
def en:List (Bool×Nat×List Nat×Int):=[cI ϖ]
def b1:=mE (en Ϙ) Ρ ϖ ϗ ϙ Ϛ
def mQ:=iX ψ Ε (dQ ω ϖ)
def mR:=lK zF (zG,ψ)
def dS:=mR (-1) zF zG
def eS:=dR ψ ϖ bi
def mS:=kq 1048576
def cA:TD:=.str 253
def mT:=gB Μ [] Χ ϒ ϔ ϖ ϗ
def aH:=bO 0
def mU:=lE (eh ϗ) ψ ϐ ϖ
def cb:=ab 253 ϖ
def ku:LE:=⟨ψ,[zK]⟩
def a1:=b8 2
def ax:=mB 1 ϖ ϗ
def eT:=km []
def mV:=kp ψ []
def ar:=mV 0
def aM:=an 8
def bQ:Pa:=.ce r
def aU:=i4 Γ Δ ό (el ψ ω ϗ) ϖ Ϙ
def fe:=hz ρ ύ (ay ψ ϗ) ϖ
def ff:=dS P zF
def eU:=ko ψ [] ϖ
def aQ:=eg 0
def i5:=g7 (iu ϖ) zN
def hF:TD:=.str 17592186044416
def cs:=ab ψ 3
def ct:=kY ϖ ϗ (.agg ϕ)
def mW:=ds (fQ ψ ϖ) ϕ
def mX:List Pa:=[.agg ό,Ϡ,ϡ]
def f6:=fO Μ ύ (mX ό Ϡ ϡ) ϔ ϖ
def dw:=f6 Μ ό ύ ϔ ϖ (.ce ρ) Ϡ
def aV:=aB 2
def aW:=cs 8
def mY:=iX ψ .u64 Τ
def mZ:=mY ψ (lx ϖ)
def kv:=aN 2147483648 ϖ
def eV:=au 1073741824 ϖ
def bA:=ff p
def aZ:=dt 1
def m0:=hA jW ϕ
def gG:=mw 0 ϖ
def b2:=gG 1
def m1:=mv 1 ϐ ϖ ϗ Ϙ
def lN:=m1 [ϙ] ϖ ϗ Ϙ
def m2:=mQ ψ ω .u8 ϖ
def lO:=m2 ψ 255 ϖ
def m3:List TD:=[zN,zO,.bool]
def m4:=m3 t zN
def cK:=m4 t
def bn:=it cK
def fg:Pt:=.boolc true
def bb:=gE (ax Ϙ ϙ) Ρ ϖ ϗ Ϛ ϛ
def a3:=aB 5
def ha:=eR Χ ϔ ϖ 1 zA zB
def bR:=da P
def cu:=cS (en ϖ)
def m5:TD:=.rel (jV ψ ω zN zO zP)
def bc:=aE 3
def lP:Pt:=.td (.str ψ)
def bd:=aB 6
def be:=aD 8
def cB:Pt:=.td db
def m6:=lM ϖ 0 ϗ Ϙ
def aR:=m6 ϖ ϗ 0
def cc:=kt Χ [ι] ϒ ϔ ϖ ϗ
def iv:LE:=⟨ψ,[zK,zL]⟩
def eo:=iv ψ zK (aN ω ϖ)
def cC:=bj 65536 ϖ
def hb:Nat×Pt:=(ϖ,.nils)
def m7:TD:=.int .u64 ψ ω
def bo:=aD 6
def lQ:=fM 1048576 zN
def m8:=k0 (eh Ϙ) ψ ϖ ϗ
def cd:=aD 12
def bv:=aD 3
def kw:=ay 255 ϖ
def m9:=bP β γ (eS ψ ϖ) δ
def jY:=de ρ (aK ψ ω ϗ) ϔ ϖ
def bB:=aB 3
def cf:=fR Χ [zA] ϔ ϖ ϗ
def df:=ha [β] ϔ ϖ zA zB
def bS:=cV (au ω Ϙ) ψ ϖ ϗ
def jZ:=m9 β γ (ei ω ϕ ϗ) ψ ϖ
def na:=eQ ψ ϕ 44 ϖ ϗ
def nb:=na ψ ba ϖ ϗ
def hc:Ce:=.own ϖ ϗ Ζ fU
def i6:=kw 0
def a4:List Sy:=[J]
def ep:=aK ψ 1048576 ϖ
def bp:=bN Χ [zA] ϔ ϖ ϗ
def k6:=bp Χ ϔ ϖ ϗ (dv ό Ϙ)
def lR:=ku 4096 zK
def f7:=ab 134217728 ϖ
def bw:=ab 64 ϖ
def dg:Ce:=.av my
def b3:=eo ψ Γ ϗ (bj ω ϖ)
def bf:=mT [ό] Χ ϒ ϔ ϖ ϗ
def bU:=b8 3
def bW:=a6 2
def dx:=mG ψ ω Γ Δ Θ Ξ Υ Φ a7
def lS:=lI [zK,zL]
def cL:=aD 13
def cM:=a6 10
def nc:=cy ρ Μ [] ϔ ϖ
def b4:=gF 1
def er:=mA 1 ϖ ϗ Ϙ ϙ
def b5:=a6 4
def dy:Pt:=.td mS
def nd:TD:=.lit (.pointer none)
def gH:TD:=.str 16377
def nf:=mU ψ [] ϖ ϗ
def gI:=au 134217728 ϖ
def gJ:=cl 134217728 ϖ
def cW:=a6 11
def cN:List AV:=[aC]
def es:=lS zK (aN ψ ϖ)
def cg:=aL 2
def ng:=bj 4294967280 ϖ
def dz:=ab 255 ϖ
def bH:=ej ψ ω Γ Δ (dx Θ Ξ Υ Φ Ψ Ω Α Β)
def fh:=lA 1 Ο Ρ ώ ϖ ϗ
def hG:TD:=.str 1048575
def i7:AV:=.has (gC ψ ϖ)
def hH:=cl 4096 ϖ
def f8:=cs 12573
def iw:Sy:=⟨ϖ,ψ,1099511627776⟩
def j0:=lK zF (aN ψ ϖ)
def kx:=g8 zK (bj ψ ϖ)
def et:=an 253
def cD:=fe (au ω Ϙ) ψ ύ ϖ ϗ
def nh:=df (lO ψ ϗ) ϔ ϖ zA zB
def k7:List Ce:=[.self,ρ]
def cv:=jY ρ Γ Δ (el ψ ω ϗ) ϖ Ϙ
def ni:=jX ψ ω 10 Γ zN
def fi:=ni ψ ω 10 zN
def ky:=aN 65536 ϖ
def nj:=cl 4294967280 ϖ
def cO:=eg 1
def dh:List AV:=[.agg Χ,β]
def nk:=em (en ϖ) Ο Ρ ώ
def cw:=jZ (lL ψ ω ϖ) β Γ Δ ϕ ϗ Ϙ
def i9:=mD 0 ϖ zN
def k8:=kY ϖ 1 zN
def hI:=an 1048575
def gK:AV:=.bool lw
def cX:=hb 5
def cY:=eh 4
def cZ:=eg 3
def c0:=cm 0
def c1:=aE 8
def c2:=a6 9
def bg:=bf cN ό ϒ ϔ ϖ ϗ
def k9:=fd 7 ϖ
def bq:=k9 0
def nl:AV:=.lit .nilIface
def nm:=dQ 86400 ϖ
def j1:=nb ψ 9 ϖ
def eu:=k7 l
def ew:=an 64
def ix:=eU 1 ϖ
def ex:=eh 34
def eW:=er ϖ 0 ϗ Ϙ
def eX:=i9 ϖ t
def di:=aB 7
def nn:=k6 Χ ό ϔ 50 ϖ ϗ
def dj:=a6 3
def dk:=a6 0
def np:=lN ϖ 0 ϗ Ϙ
def bX:=np ϖ ϗ 0
def nq:=m0 [zN,zO,zP,zQ,zR,zS,zT]
def nr:=nq a5 zN zO zP zQ zR zS
def ns:=nr aj zN zO zP zQ zR
def nt:=ns a5 zN zO zP zQ
def nu:=nt a5 zN zO zP
def nv:=nu aj zN zO
def nw:=nv db zN
def f9:=nw db
def aS:=ab ψ 1
def kz:=g7 Ζ fU
def nx:=kz jW
def iy:=bD Μ [] Χ ύ ϒ ϔ ϖ ϗ
def dT:=gD j ό ύ ϔ ϖ
def fj:=fZ ψ zF (bj ω ϖ)
def ch:=i2 1 ϖ ϗ Ϙ
def dA:=kx ω ϗ (aN ψ ϖ)
def dB:=fY 2
def cE:=cc (b1 Ρ Ϙ ϙ Ϛ ϛ Ϝ) Χ ϒ ϔ ϖ ϗ
def dC:=cm 3
def dD:=cT 5
def hJ:TD:=.str 8193
def hK:Pt:=.td .bool
def dE:=a6 7
def ny:=k7 (hc Ζ ϖ ϗ)
def nz:=fh Ο [ϟ] ώ ϖ ϗ
def b6:=cJ ψ ϖ bi
def ga:=dS J zF
def ey:=ab ψ 0
def ez:=hA (iu ϖ) ϕ
def aX:=nf 1 ϖ ϗ
def dU:=du 0
def dV:=eg 2
def dW:=ir 4
def dY:=fS 4
def nA:=nz Ο ώ ϗ Ϙ (ϖ,zC)
def dZ:=nA Ο ώ ϖ ϗ Ϙ i
def gb:List Pt:=[zC,zD,.nils,zE]
def j2:=gb zC zD .nils
def d0:=ey 7
def d1:=bO 3
def d2:=aB 8
def cP:=kn 1 zF
def iz:=hC aw
def dF:=bG 255 ϖ
def cj:=au ψ 2
def hL:=cj 1048575
def nB:=df β a4 ϖ zA zB
def eY:=nB ae ϖ zA zB
def nC:=ei 64 ϕ ϖ
def gL:=a0 64 ϕ ϖ
def gd:=ab 86400 ϖ
def cx:=nc ρ [ό] ϔ ϖ
def gM:=lP 256
def gN:=fi ψ ω (fi Γ Δ zN)
def gf:=fO Μ [] ϑ ϔ ϖ
def d3:=hz ρ [Ζ] ϔ ϖ
def ck:=f0 j ό ϔ ϖ
def eA:=b9 2
def eB:=aD 0
def eC:=aD 7
def eZ:=kp ψ (nm ϖ)
def gO:Pa:=.ce ai
def eD:=hA (eN ψ ω ϖ) ϕ
def gg:=kV []
def d4:=cf Χ ϔ ϖ ϗ (dv ό Ϙ)
def ja:=fM 2147483648 zN
def nD:List TD:=[zN,zO,zP,zQ,zR,.bool,zS]
def nE:=nD zN zO zP zQ zR .bool
def lT:=nE zN aj zO zP zQ
def lU:=lT zN zO gA zP
def nF:=lU gA zN zO
def nG:=nF gA zN
def bI:=nG gA
def eE:=mZ 0 ϖ
def d5:=eE 1
def j3:=fj ψ 52776558133279 ϖ zF
def nH:=lN ϖ 1 ϗ Ϙ
def dG:=nH ϖ ϗ 1
def e0:=b8 4
def e1:=cm 2
def e2:=aE 6
def e3:=aE 4
def bh:=mW 0 ϕ ϖ
def e4:=aE 5
def hM:=lS zK (zF,ψ)
def hd:LinF:=⟨ψ,[ν]⟩
def e5:=hd (eh ϖ) ψ
def jb:=ei 1073741824 ϕ ϖ
def gh:Pa:=.ce (aK ψ ω ϖ)
def nI:=k8 ϖ fU
def c3:=nI 5
def la:=de ρ j ϔ ϖ
def br:List AV:=[ae]
def dm:=cS [ν,ξ,ο,π]
def kA:=dm ν ξ ο (bt ϖ ϗ)
def kB:=ek ψ Κ [] Ρ ώ
def he:Pa:=.ce g
def gP:=da aT
def cF:=a8 ψ 2
def lV:=ku ψ (zF,ω)
def fk:=ix 4
def fl:=aB 4
def fm:=eg 4
def fo:=fS 6
def fp:=bO 5
def fq:=fY 4
def fr:=aE 7
def fs:=bO 2
def ft:=aP 8
def fu:=bL 4
def fv:=aF 4
def dH:=eW ϖ ϗ 1
def fw:Ann:=⟨Ρ,Ο,ώ,dH ϖ ϗ⟩
def lW:=hy eT zN
def nJ:=lM ϖ 1 ϗ Ϙ
def gi:=nJ ϖ ϗ 1
def nK:=m5 ψ ω zN i3 zO
def lb:=nK ψ ω zN i3
def lc:=lb ψ ω bi
def nL:=ko 1 ϐ ϖ
def d6:=nL [ϗ] ϖ
def gj:=ff (cH ψ ϖ)
def kC:AV:=.fn ϖ Χ []
def eF:=ab ψ 7
def nM:=bP β γ (eX ϖ) δ
def kD:=lJ 6 ϖ
def gk:=f2 2
def nN:=nh ψ i6 ϖ ϗ zA zB
def lX:=nN ψ ϖ ϗ zA bm
def nO:=lX ψ ϖ ϗ ca
def c4:=nk [] Ρ ώ ϖ
def gl:=eh 3
def gm:=ix 3
def gn:=a2 4
def e6:=fP Ν (cz Χ) ϒ ϔ ϖ ϗ
def hf:=lW bi
def gp:=eF 8
def gq:=dc 5
def gr:=f2 4
def lY:Pt:=.td (lQ zN)
def gs:=aB 9
def nP:=nn Χ ό ϔ 5 ϖ
def nQ:=nP Χ ό ϔ 5
def nR:=nQ Χ [ρ,σ] ϔ
def nS:=nR g9 ρ Χ ϔ
def nT:=nS af Χ ϔ
def gQ:=k4 (kv ϖ)
def hg:=aF 10
def lZ:=cT 15
def hh:=aB 10
def gu:=cb 4
def iA:=es 1048575 ϖ zK
def e7:=gL (jV ψ ω zN zO zP) ϖ
def hN:=hE ψ 0
def d7:=hN 7
def j4:=ay 4294967280 ϖ
def b7:=au ψ 1
def iB:TD:=.str 64
def fx:=cl 253 ϖ
def hO:TD:=.str 0
def fy:=nM β γ (i9 ϗ zN) ϖ
def l0:AV:=.agg [β,γ,δ,ε,ζ,η,θ]
def dI:=hM (-1) zF zK
def ld:AV:=.lit (.string ⟨#[48]⟩)
def e8:=gE (ac Ϙ ϙ) Ρ ϖ ϗ Ϛ ϛ
def hi:Ce:=.av (i7 ψ ϖ)
def bJ:=m8 1 ϖ ϗ Ϙ
def d8:=k1 [] ϖ
def dn:=f0 ρ ό [] ϖ
def gR:=bL 0
def gS:=aF 0
def gT:=fS 0
def gU:=fX 0
def gV:=eh 5
def gv:=f1 ό (ay ψ ϗ) ϖ
def gW:=bO 6
def iC:=cF 253
def gX:=bL 9
def gY:=aF 9
def j5:=aK ψ 2147483647 ϖ
def j6:=el ψ 2147483647 ϖ
def gZ:=aL 8
def lf:=ay 9223372036854775807 ϖ
def hP:=aP (-1)
def nU:=lI [zK]
def eG:=k8 9 zN
def fz:=eY ϖ zA (dT ό ύ ϔ ϗ)
def hQ:=lW a7
def fC:=kA ν ξ (d6 ϖ ϗ) Ϙ ϙ
def hR:=eG bi
def hS:=lY fU
def jc:=lP 4096
def hT:=aB 12
def hU:=bF lZ
def hV:=aB 14
def kE:=aN 4096 ϖ
def j7:=de ρ σ [] ϖ
def d9:=j0 ψ ϖ J
def nV:=k3 ψ ω Γ Δ a7
def iD:=dh (.agg ϊ) Χ
def nW:=nT Χ [zF,zG,zH,zI,zJ]
def nX:=nW Χ J zF zG zH zI
def nY:=nX Χ p zF zG zH
def nZ:=nY Χ ah zF zG
def n0:=nZ Χ aY zF
def n1:=n0 Χ aG
def kF:TD:=.str 1048574
def gw:=i1 (fQ ψ Ϙ) ϕ ϖ ϗ
def hj:=ng 0
def bY:=cf Χ ϔ ϖ 1 zA
def n2:=nU (zF,ψ)
def ea:=n2 1 zF
def hk:=ix 5
def gx:=kY 153 ϖ zN
def bx:=lD ρ σ [ό] ύ ϔ ϖ
def hl:=hb 2
def hm:=k4 (aN ψ ϖ)
def hn:=bL 3
def ho:=bL 2
def hp:=aF 3
def hq:=aF 2
def n3:List Ce:=[ρ,σ,τ,υ,φ,χ,j1 ψ ϖ]
def n4:=n3 f9 ρ σ τ υ φ ψ ϖ
def n5:=n4 b2 ρ σ τ υ ψ ϖ
def n6:=n5 cp ρ σ τ ψ ϖ
def n7:=n6 f5 ρ σ ψ ϖ
def n8:=n7 f4 ρ ψ ϖ
def jd:=n8 bu ψ ϖ
def hW:List (List Ce):=[jd ψ ϖ]
def e9:=dw ρ (hW ψ ϗ) ό ύ ϔ ϖ Ϡ
def eb:=cx ρ ό [] ϖ
def hX:=i5 ϖ fU
def eH:=lV ψ (-1) zF
def n9:=dZ [Ϟ] ώ ϖ ϗ Ϙ
def oa:=nC [zN,zO] ϖ
def ob:=oa ϖ bK zN
def kG:=ob ϖ bK
def fa:=kG 2
def oc:=n1 [β,γ,δ,ε,ζ,η,θ]
def od:=oc ae β γ δ ε ζ η
def oe:=od aa β γ δ ε ζ
def og:=oe a9 β γ δ ε
def oh:=og cr β γ δ
def oi:=oh bl β γ
def oj:=oi I β
def bs:=oj I
def bZ:List LE:=[a8 ψ ϖ]
def lg:=hC al
def bC:=cc ι Χ [zA] ϔ ϖ ϗ
def iE:=ea J
def iF:=ga ag
def iG:=aJ 12
def iH:=a2 12
def je:=aP 261
def iI:=aB 13
def iJ:=aF 11
def iK:=aD 14
def kH:=cs 1048575
def hY:List Pa:=[.ce ρ,Ϡ,ϡ]
def om:=hY ρ (.ce σ) Ϡ
def bz:=kt Χ [ι,κ] ϒ ϔ ϖ ϗ
def hr:=ab ψ 8
def g1:=hr 8
def on:=gi 3 ϖ
def c5:=on 3
def j8:=eS ψ 2
def eI:=j8 8
def jf:=ly 0 ψ
def oo:=jf 110
def oq:=m7 0 ψ
def c6:=oq 0
def hZ:=nj 0
def h0:=dz 1
def h1:=ir 0
def fD:=i5 ϖ t
def cQ:List Sy:=[P]
def os:=nO 0 ϖ ϗ
def cR:=os ϖ 0
def h2:=dt 2
def h3:=hb 4
def h4:=a2 3
def h5:=ir 6
def h6:=k9 5
def jg:=n9 ώ ϖ Ϙ ϙ (ϗ,ϓ)
def ot:=j2 i zC
def fE:=ot C
def h7:=bw 7
def h8:=bO 4
def h9:=a6 5
def ia:=aE 9
def ib:=jf 0
def ic:=aD 9
def kJ:=bG 1073741824 ϖ
def ie:=cm 4
def ig:=aL 7
def dq:=lJ 3 ϖ
def lh:TD:=.str 1073741824
def dr:=ab ψ 6
def j9:=hE 1000000 ϖ
def jh:Pt:=.td oo
def ji:Ce:=.av nl
def jj:Pt:=.td nd
def li:=ey 4294967280
def hs:=d3 (cP zF) Ζ ϔ ϖ
def c7:List Sy:=[al]
def lj:=ey 4294967296
def lk:=kZ 1 ϖ ϗ
def fb:=gf Μ ϑ [] ϖ
def jk:=bF a1
def gy:=kC [] ϖ
def jl:=ga ah
def fG:=j7 ρ r ϖ
def jm:=bF ag
def ou:=aR 3 ϖ
def dJ:=ou 3
def jn:=bG ψ 5
def ih:=jn 6
def jo:=bF ah
def ka:=kl ψ 3
def fH:=ka 1
def ov:=dG 3 ϖ
def dK:=ov 3
def ow:=lc 0 ψ
def dL:=ow 7
def ll:=au 35184372088833 ϖ
def ox:=l0 β γ δ ε ζ I η
def dM:=ox β γ δ ε ζ I
def kK:Pt:=.pre ϖ ϗ 4294967296 zN
def jq:=lQ t
def jr:=bL 11
def js:=bL 10
def ht:=lk ϖ 0
def ij:=ht 7
def jt:=aD 10
def ju:=aD 11
def jv:=aB 11
def kL:=a0 1073741824 ϕ ϖ
def jw:=ky 10
def ik:=g8 zK (aN ψ ϖ)
def oy:=iy Μ Χ ύ ϒ ϔ ϖ 2
def iL:=ks 1
def iM:=cb 1
def iN:=a2 2
def kM:=an 12573
def kN:=jn 20001
def iO:=aL 6
def iP:=kG 7
def kO:TD:=.str 4096
def iQ:=bO 8
def lm:=cs 134217728
def iR:=bL 6
def iS:=aF 6
def iT:=a6 6
def b0:=eR [β,γ] ϔ ϖ ϗ zA zB
def c8:=km [zK,zL,zM]
def l1:AV:=.lit (.string ⟨#[123, 125]⟩)
def c9:=la ρ [zF] ϖ
def il:=bG 110 ϖ
def oz:=bX 0 ϖ
def ec:=oz 0
def kb:=cl 262144 ϖ
def g2:=fO Μ ύ (om ρ σ Ϡ) ϔ ϖ
def dN:List Sy:=[aw]
def l2:=hN 9223372036854775807
def dO:List Ce:=[nx]
def fJ:=d3 ρ Ζ [] ϖ
def dP:=ch ϖ 3 ϗ
def ln:=ei 8 ϕ ϖ
def fL:=is ό ύ [] ϖ
def g3:=hB ρ (hW ψ ϗ) ό ύ ϔ ϖ
def lo:=lO 0 ϖ
def iU:=lo 0
def l3:AV:=.lit (.string ⟨#[58, 47]⟩)
def l4:AV:=.lit (.string ⟨#[63, 35]⟩)
def hu:=oy Μ Χ ύ ϒ [zF,zG] ϖ
def ed:=hu Μ Χ ύ ϒ ϖ zF p
def eJ:=ac 0 ϖ
def kP:AV:=.bool lB
def oA:=nV ψ 7 ω Γ
def oB:=oA ψ 0 ω
def kQ:=oB ψ 0
def eK:=kQ 5
def im:=g7 (eN ψ ω ϖ) zN
def cG:=jg ώ ϓ ϖ 3 ϗ Ϙ
def eL:=ln ϕ 3
def kR:TD:=.str 100
def ip:=hM ω (cH ψ ϖ) zK
def oC:=aR 0 ϖ
def eM:=oC 0
def kc:=bF aw
def jx:=lo 1
def oD:=ny Ζ 5 ϖ
def kS:=oD Ζ 1
def jy:=kS iz
def iW:=kS (gC ψ ϖ)
def jz:=hX 3
def kd:=kz lg
def jA:=a2 5
def oE:=lR (zF,ψ)
def ke:=oE (-1) zF
def gz:=ke J
def ee:=lV ψ 1 zF
def oF:=lL 7 ψ ϖ
def lp:=oF 1 ϖ
def fc:=lp 0
def jB:=cT 6
def jC:=aP 6
def kf:=cu 26
def g4:=kB ψ [ν] Ρ ώ
def hv:=g4 (eh ϖ) ψ Ρ ώ
def jD:=bL 5
def jE:=hH 4
def jF:=hH 3
def jG:=aF 5
def jH:=aJ 9
def jI:=a2 9
def lq:=cj 1048574
def kg:=aJ 10
def kh:=a2 10
def ki:=aJ 11
def kj:=a2 11
def jJ:=fX 1
def jK:=du 1
def jL:=lR (ky ϖ)
def jM:=bO 7
def jN:=kE 7
def jO:=kD 6
def jP:=kD 5
def jQ:=kD 4
def jR:=kD 2
def kk:=cP al
def jS:=aL 1
end D
open D
def r0:Row:=b0 hZ gP [li,aT] 27 2 (g2 jk (jU [hj,(aT,-1),(a1,-1)]) [] [c8 hj (aT,-1) (a1,-1)] [a1] 3 gO) (fb [] (hY (au 4294967280 0) he bQ) 2)
def r1:Row:=bY [aQ] dN 29 (bM kc 1)
def r2:Row:=bY [l2] (lf 0) 48 (bS 20 20 2 1 1)
def r3:Row:=bY [l2] (lf 0) 93 (bS 20 20 2 1 1)
def r4:Row:=bY [eE 0] [dt 0] 94 (bS 20 20 2 1 1)
def r5:Row:=bY [aQ] dN 100 (bM kc 1)
def r6:Row:=b0 hZ gP [li,aT] 132 2 (bM hP 2) (hs (c8 hj (aT,-1) (a1,-1)) [a1] 3 a1)
def r7:Row:=cf [dR 64 0 bK,cl 2 1] [bw 0,aS 2] 145 2 (bS 1048318 1048318 3 2 2)
def r8:Row:=cf [hy jW t,gP] [P,aT] 145 2 (bS 2199023255552 2199023255552 3 2 2)
def r9:Row:=bY [eE 0] [dt 0] 170 (bS 20 20 2 1 1)
def r10:Row:=b0 hZ gP [li,aT] 226 2 (bM hP 2) (hs (c8 hj (aT,-1) (a1,-1)) [a1] 3 a1)
def r11:Row:=b0 aQ jx [aw,h0] 247 2 (bM hP 2) (hs (dI a1 (aw,1)) [a1] 3 a1)
def r12:Row:=bg [dg,l] [eb g [dg,l] 0] [] 259 0
def r13:Row:=bg eu [eb g eu 0] [] 259 0
def r14:Row:=bg [dg,hc iz 5 1] [eb kc [dg,kz iz] 1] dN 259 1
def r15:Row:=bg jy [eb kc (k7 (kz iz)) 1] dN 259 1
def r16:Row:=bg [dg,l] [eb g [dg,l] 0] [] 259 0
def r17:Row:=ha [hZ,l3] (j4 0) 266 (bM hP 1) (hs (dI ao hj) [ao] 2 ao)
def r18:Row:=ha [hZ,.lit (.string ⟨#[13, 10]⟩)] (j4 0) 266 (bM hP 1) (hs (dI ao hj) [ao] 2 ao)
def r19:Row:=ha [hZ,l4] (j4 0) 266 (bM hP 1) (hs (dI ao hj) [ao] 2 ao)
def r20:Row:=ha [hZ,l1] (j4 0) 266 (bM hP 1) (hs (dI ao hj) [ao] 2 ao)
def r21:Row:=ha [hZ,l3] (j4 0) 266 (bM hP 1) (hs (dI ao hj) [ao] 2 ao)
def r22:Row:=iy [] [gR,cl 1 1,cl 3 2] (bZ 1 1) [cD 196608 196608 [ik 196608 3 (dq 0)] 4 3 3] [gS,aS 1,an 3] 286 3
def r23:Row:=iy [] [h1,az,ir 2] (bZ 16384 1) [bS 268435456 268435456 4 3 3] [gT,aq,fS 2] 286 3
def r24:Row:=iy [] [bR,gP,da al] [ea aT] [cU (bF bU) [bU] 4] [P,aT,al] 286 3
def r25:Row:=cf [i7 16384 0,i7 1 1] [gT,aS 1] 288 2 (fe (b6 16385 2) 16385 [eN (-2) 16385 2,b3 1 16384 16385 0 2] 3 2)
def r26:Row:=hu [] [h1,gP] [ea aT] [fe (b6 16385 2) 16385 [cF 16385,b3 1 16384 16385 0 2] 3 2] 288 gT aT
def r27:Row:=hu [] [bR,gP] [ea aT] [fe (cJ 1048577 2 t) 1048577 [cF 1048577,eo 1 1048577 2 (P,1)] 3 2] 288 P aT
def r28:Row:=bg [dg,l] [fb [eu] [] 0] [] 345 0
def r29:Row:=bg eu [fb [eu] [] 0] [] 345 0
def r30:Row:=bg [dg,hc iz 5 1] [fb [jy] [] 1] dN 345 1
def r31:Row:=bg jy [fb [jy] [] 1] dN 345 1
def r32:Row:=bg [dg,l] [fb [eu] [] 0] [] 345 0
def r33:Row:=bY [bR,gy 349] cQ 348 (d3 (fD 1) (ff aT) [aT] 2)
def r34:Row:=bY [aQ,ld] dN 397 (d3 (bF ao) (dS aw ao) [ao] 2)
def r35:Row:=bY [aQ,.lit (.string ⟨#[43, 45]⟩)] dN 397 (d3 (bF ao) (dS aw ao) [ao] 2)
def r36:Row:=bY [aQ,ld] dN 397 (d3 (bF ao) (dS aw ao) [ao] 2)
def r37:Row:=bY [aQ,ld] dN 398 (d3 (bF ao) (dS aw ao) [ao] 2)
def r38:Row:=b0 aQ aa [aw,p] 409 2 (fO [] [dS aw (iw 1 3),hM 1 (iw 1 3) (p,-1),aI,iv 4 (p,1) (iw 1 3,-1)] (hY (bG 1114111 2) (gh 1 1099511627776 3) aO) [an 1114111,iw 1 3] 4) (gf [] [aO,aO,gh 1 40 2] (el 1 40 2) 3)
def r39:Row:=df aH [ak] 411 (cn (b7 4) j (bZ 4 1) (ay 4 1) 2) (cv g 1 40 1 40 2 1 1)
def r56:Row:=bY [i7 16384 0,iX 47 .u8 []] [gT] 202 (fe (b6 16385 1) 16385 [eN (-2) 16385 1,b3 1 16384 16385 0 1] 2 1)
def d9e:Row:=bY [bR] cQ 381 (cU (fD 1) [aT] 2)
def d8R:Row:=bY [dR 9223372036854775807 0 fU] (lf 0) 9 (cn (b7 193) (a0 30 [cA,aj,hJ,a5,jf 4,c6,c6] 2) [cF 30,a8 193 1] [aS 193,an 30] 3)
def r261:Row:=fz [aP 1,b7 4349,eA,j] [eo 248 4349 1 (J,6),eo 254 4349 1 (J,3),ik 253 2 (bj 4349 1),es 253 2 (J,1),eo 258 4349 1 (J,1),gz,ee (-5) J,iC,a8 4349 1] [aS 4349,et] 62 3 (aU 3 80 3 80 [j,g,g,j] 2 1 1)
def r270:Row:=fz [aP 2,b7 959,eA,j] [eo 197 959 1 (J,3),ik 253 2 (bj 959 1),es 253 2 (J,1),gz,ee (-7) J,iC,a8 959 1] [aS 959,et] 63 3 (aU 1 80 1 80 [j,g,g,j] 2 1 1)
def r293:Row:=fz [aP 3,hi 12573 1,eA,bv] [ik 253 2 (bj 12573 1),d9 253 2,eo 8477 12573 1 (J,1),iE,gz,iC,a8 12573 1] [aS 12573,et,bB] 64 4 (aU 1 71 1 71 [j,g,g,j] 2 1 1)
def r392:Row:=df bR cQ 361 (cv g 130 144 130 144 2 1 1) (cn (b7 63) j [eo 17 63 1 (P,6),eo 20 63 1 (P,3),eo 22 63 1 (P,1),ea P,a8 63 1] (ay 63 1) 2)
def d9c:Row:=cE [(4,i),(8,i)] [bh [aj,t,t,aj] 0,bP aa a9 cr h8] [cU (j5 (-1) 5) (j6 (-1) 5) 6] [c0,p,ah,aY,fl] 91 5 7 8 8 7 8
def d9o:Row:=b0 (bh [aj,t,t,aj] 0) (bP aa a9 cr h8) [c0,p,ah,aY,fl] 44 5 (f2 5) (fY 5)
def r442:Row:=fz [aP 4,aJ 1,eA,bv] [ik 253 2 (bj 4096 1),eN (-4) 4096 1,gz,ee (-4) J,iC] [a2 1,et,bB] 65 4 (aU 1 110 1 110 [j,g,g,j] 2 1 1)
def r447:Row:=fR [bR,aa] [f6 [] [j,g,j] [] (el 4 130 2) 3 aO (gh 4 130 2),dw (cP P) [] [aP 1,g,cP P] [bA,bA,bA,aI] [] 2 aO,dw (ep 2 4) [] [aP 3,hL,bG 1048575 3] [bA,ip 2 1 4 (p,-1),gj 2 4,fj (-1) 1048575 3 p,iA 3 (P,1),iA 2 (P,1),aI] [hI,kH,cH 2 4] 5 aO,dw (ep 1 4) [] [aP 4,cg,bG 1048575 3] [bA,ip 1 1 4 (p,-1),gj 1 4,fj (-1) 1048575 3 p,iA 3 (P,1),ff al,aI,ea al] [al,kH,cH 1 4] 5 aO,dw (ep 4 4) [] [aP 5,cj 5,bG 1048575 3] [bA,ip 4 1 4 (p,-1),gj 4 4,fj (-1) 1048575 3 p,iA 3 (P,1),j0 5 2 P,aI,cF 5] [an 5,kH,cH 4 4] 5 aO,dw (ep 1 4) [] [aP 2,cj 4,bG 1048575 3] [bA,ip 1 1 4 (p,-1),gj 1 4,fj (-1) 1048575 3 p,iA 3 (P,1),aI,cF 4] [an 4,kH,cH 1 4] 5 aO] [P,p] 162 2
def d8W:Row:=bY [aQ] dN 82 (dw bu [] [af,cg,fD 3,i5 4 a7] [] [p,al,bc,e3,a3,bd] 7 (.ce bo))
def r461:Row:=cf [] [] 8 0 (f2 0)
def d8J:Row:=df aQ dN 10 (aU 1 110 1 110 [j,g,g,j] 2 1 1) (dT [aK 1 4 1,k5 2,b9 3,aD 4] [cF 12573,a8 253 3] [⟨1,1,4⟩,kM,cb 3,fl] 5)
def rows:List Row:=[r0,r1,r2,r3,r4,r5,r6,r7,r8,r9,r10,r11,r12,r13,r14,r15,r16,r17,r18,r19,r20,r21,r22,r23,r24,r25,r26,r27,r28,r29,r30,r31,r32,r33,r34,r35,r36,r37,r38,r39,ed [dO] [aC,aa] [ea p] [cy (dF 2) [[jz]] [ff bc,es 255 2 (p,1)] [an 255,bc] 4] 60 P,hu [dO] [aC,dR 64 1 iB] (bZ 64 1) [cx (cj 64) [jz] [ew,bc] 4] 116 P (bw 1),hu [dO] [aC,eX 1] [fQ (-1) 1] [cx cg [jz] [al,bc] 4] 116 P (cm 1),bg dO [cx (b7 64) [kd] [bw 1,al] 3] cQ 131 1,bg dO [cy (b7 193) [[kd]] (bZ 193 1) [aS 193,al] 3] cQ 59 1,cc (bb [(4,U),(5,i)] 1 5 5 5 1 5) [iU,aA] [gk,dB] [dz 0,ag] 184 2,bC (bb [(4,i),(5,i)] 0 5 5 5 0 5) [ae,aA] [J,ag] 99 2 (hs jl [ah] 3 ah),b0 aQ cO [aw,ao] 185 2 gk dB,cR 299,cR 300,cR 188,cR 367,bY [iU] i6 368 (cV (g5 0 .u8 (dQ 255 1)) 255 2 1),ed [] [ae,aa] [aI,ga p] [cn (g5 0 .u8 (dQ 255 2)) ai [iv (-3) (J,1) (p,-1)] (kw 2) 3,fG (g5 0 .u8 []) 2] 296 J,bY [iU] i6 297 (cD 3 3 [eN (-3) 3 1] 2 1 1),bz (dd [(4,C),(5,i),hb 6,(7,i)] [ac 7 6] 0 6) (e8 [(4,C),(5,i),(6,c3),(7,i)] 7 6 0 6 0 6) [ae,aA] [cv g 1 5 1 5 3 2 2,cn (gF 2) j [d9 16384 2] [fS 2] 3] [J,ag] 186 2,r56,bz (dd [cX,(6,i),(7,i)] [eJ 7,ax 7 7,aX 6 6,ax 6 6] 0 7) (dd [(5,eG (.str 16383)),(6,i),(7,i)] [eJ 7,ac 7 6,ac 6 5] 0 7) [h1,jx] [fe (b6 16385 2) 16385 [b3 1 16384 16385 0 2,cF 16385] 3 2] [gT,h0] 202 2,bz (dd [cX,(6,i),(7,i)] [eJ 7,ax 7 7,aX 6 6,ax 6 6] 0 7) (dd [(5,eG (.str 1073741823)),(6,i),(7,i)] [eJ 7,ac 7 6,ac 6 5] 0 7) [gU,jx] [fe (cJ 1073741825 2 lh) 1073741825 [cF 1073741825] 3 2] [dU,h0] 202 2,bD [] [(2,[bb [(6,cB),(7,i),(9,cB),(10,i)] 0 10 10 10 0 10]),(0,[bb [(6,cB),(7,i),(8,i)] 0 8 8 8 0 8])] [ae,d5,eE 2] [iL,ks 2] [cv ar 1 4 1 4 4 3 3,c9 (gG 3) 4 (dt 3)] [J,aZ,h2] 371 3,hu [] [ae,d5] [iL] [cv ar 1 6 1 6 3 2 2,c9 (gG 2) 3 h2] 302 J aZ,cE [(2,U),(12,i)] [gU] [bm,ca] [dU] 191 1 11 12 12 11 12,cc (bb [(2,U),(3,i)] 0 3 3 3 0 3) br [bm,ca] a4 369 1,cc (bb [(2,U),(3,i)] 0 3 3 3 0 3) br [bm,ca] a4 370 1,cE [(2,U),(10,i)] [gU] [bm,ca] [dU] 298 1 9 10 10 9 10,eY 187 (cv g 3 50 3 50 2 1 1) (cn g9 j [iE,eH 253 J] [] 1),eY 101 (aU 3 80 3 80 [g,g] 2 1 1) (ck [b7 4089,eA] [aS 4089,et] 3),bp [ae,aA] [J,ag] 102 2 (bM (hw 6 [(J,1),(ag,1)]) 2),bz (f3 (cu 5) (dm hk gV fk cY) [(2,C),(3,i),(5,i),h3] 0 5) (e8 [(2,C),(3,i),(5,i),(4,c3)] 5 4 0 5 0 5) [h1] [j7 g (aP 2) 1,c9 b4 2 aq] [gT] 189 1,bz (f3 (cu 5) (dm hk gV fk cY) [(2,C),(3,i),(5,i),h3] 0 5) (e8 [(2,C),(3,i),(5,i),(4,c3)] 5 4 0 5 0 5) br [cv g 2 5 2 5 2 1 1,c9 b4 2 aq] a4 189 1,cR 301,fP [(0,[b1 [(2,U),(16,i)] 15 16 16 15 16]),(2,[bb [(2,U),(5,i)] 4 5 5 5 4 5])] br [bm,fJ ai (eH 64 J) 1] a4 190 1,hD br [b1 [(3,i),(5,i)] 4 5 5 4 5] [aU 1 80 1 80 [g,g] 2 1 1,ck [b7 64,eA] [bw 1,et] 3] a4 103 1 1,bC (gE (eP 3 6 5) [(5,C),(6,i)] 0 6 0 6) [ae,aA] [J,ag] 192 2 (cD 52776558133248 52776558133248 [fZ 3 J (aN 52776558133248 2)] 3 2 2),bp [ae,aA] [J,ag] 104 2 (cD 70368744177672 70368744177672 [⟨8,[(J,3),(ag,3),aN 70368744177672 2]⟩] 3 2 2),cc (bb [(2,U),(3,i)] 0 3 3 3 0 3) br [bm,ca] a4 372 1,b0 ae aA [J,ag] 200 2 (fJ ai iF 2) dB,fz [b7 16383,cj 16382,gF 3,au 16383 4,au 16383 5,o,o,o,o] [d9 16383 5,d9 16383 4,d9 16382 2] [aS 16383,an 16382,fS 3,ab 16383 4,ab 16383 5] 303 6 (i4 5 6 [g,g,g,g,g,r,r,r,r] [fd 6 1] 2 1),eY 373 (j7 j (aP 51) 1) (c9 af 2 p),fz [b9 1,cp] [d9 253 1,a8 253 1] [iM,aV] 304 3 (aU 3 51 3 51 [g,j] 2 1 1),bC (kB 1 (en 3) [(2,C),(3,i)] [aX 3 3,⟨1,en 3⟩]) br a4 374 1 (cD 17592186044415 17592186044415 [d9 17592186044415 1] 2 1 1),bC (c4 [(3,C),(4,C)] [dm gm fk gl cY] 3) br a4 305 1 (d3 jm iF [ag] 2),k6 [ae,aa,a9,cr,bl,I,I] [g9,af] [J,p,ah,aY,aG] 307 5 5,bY [aH] [ak] 92 (bS 21 21 2 1 1),bp [ae,aa] [J,p] 306 2 (cD 17592186044438 17592186044438 [fj (-1) 17592186044438 2 J,eo 22 17592186044438 2 (J,1)] 3 2 2),bp [ae,aa,a9,cr,bl,kP,gK] [J,p,ah,aY,aG] 219 5 (bM (hw 1 [(ah,1),(aY,1)]) 5),bp [ae,aa,a9,cr,bl,I,I] [J,p,ah,aY,aG] 219 5 (cD 35184372088833 35184372088833 [⟨1,[(ah,1),(aY,1),aN 35184372088833 5]⟩,fj (-1) 35184372088833 5 ah] 6 5 5),bp [ae,aa,a9,cr,bl,kP,gK] [J,p,ah,aY,aG] 194 5 (fe (hi 52776558133279 5) 52776558133279 [j3 (-1) 5 aY,j3 (-1) 5 J] 6 5),bp [ae,aa,a9,cr,bl,I,I] [J,p,ah,aY,aG] 194 5 (fe (hi 70368744177696 5) 70368744177696 [⟨32,[(J,1),(ah,1),(aY,1),(aG,1),aN 70368744177696 5]⟩,fj (-1) 70368744177696 5 ah] 6 5),fz [b9 1,cp,aJ 3,aJ 4,aJ 5,o,o] [d9 253 1,a8 253 1] [iM,aV,h4,gn,jA] 193 6 (aU 1 71 1 71 [g,j,g,g,g,r,r] 2 1 1),eY 105 (aU 1 71 1 71 [j,g,g,j] 2 1 1) (ck [aP 3,hi 12573 1,eA,bv] [aS 12573,et,bB] 4),cc (bb [(2,U),(3,i)] 0 3 3 3 0 3) br [bm,fJ ai iE 1] a4 201 1,cR 203,bC (gE (eP 3 4 3) [(3,C),(4,i)] 0 4 0 4) [h1] [gT] 204 1 (bS 49152 49152 2 1 1),bC (gE (eP 3 4 3) [(3,C),(4,i)] 0 4 0 4) br a4 204 1 (bS 52776558133248 52776558133248 2 1 1),fP [(3,[gE (eP 49153 63 10) [(3,i),(10,C),(63,i)] 62 63 62 63]),(5,[bb [(3,i),(13,i)] 12 13 13 13 12 13]),(1,[b1 [(3,i),(48,i)] 47 48 48 47 48])] br [aU 1 100 1 100 [g,g] 2 1 1,dT [b7 4091,cj 201084923] [gz] [aS 4091,an 201084923] 3] a4 109 1,bp [ae,aA] [J,ag] 197 2 (bM (hw 5 [(J,1),(ag,1)]) 2),bN [aQ,cO] [gf [] (hY l (.agg [g,j]) (gh 1 100 2)) (el 1 100 2) 3,gf [] (hY (b6 4089 2) (.agg [g,j]) (gh 3 51 3)) [an 4089,⟨3,3,51⟩] 4,fO [] [ee (-3) aw,cF 4089] (hY (b6 4089 2) (.agg [b9 3,aD 4]) aO) [an 4089,cb 3,fl] 5] [aw,ao] 205 2,cc (gE (eP 49153 26 7) [(3,i),(7,C),(26,i)] 25 26 25 26) (cz [aQ,cO]) [aU 1 110 1 110 [g,j,g,g,g,r,r] 3 2 2,dT [eA,bv,hi 4096 4,g,g,r,r] [ee (-3) aw] [et,bB,gn] 5] [aw,ao] 110 2,bN [aQ,aa,dV,cZ,fm,I,I] [fY 5,f2 5] [aw,p,a1,bU,e0] 321 5,e6 [(0,[dd [(3,i),(5,C),(58,i)] [ac 57 58,cu 58,⟨49153,[bE 49153 58,gV]⟩] 57 58]),(2,[bb [(3,i),(8,i)] 7 8 8 8 7 8])] [fx 0,aa,i7 4096 2,gg,gg,gK,gK] [i4 5 110 [g,g] [fd 110 3] 4 3,ck [au 3 3,au 4088 4] [cs 3,ab 4088 4] 5] [cb 0,p,iN] 308 3,bN [aQ,cO] [aU 1 110 1 110 [g,g] 3 2 2,ck [cj 3,au 4088 3] [an 3,cs 4088] 4] [aw,ao] 195 2,bN [aQ,cO] [aU 1 100 1 100 [g,j] 3 2 2,ck [eA,bv] [et,bB] 4] [aw,ao] 196 2,eY 106 (aU 1 110 1 110 [j,g,g,j] 2 1 1) (ck [aP 4,aJ 1,eA,bv] [a2 1,et,bB] 4),fz [aK 1 4 1,k5 2,b9 3,aD 4] [gz] [⟨1,1,4⟩,kM,cb 3,fl] 53 5 (aU 1 110 1 110 [j,g,g,j] 2 1 1),bf [aC,cl 12573 1] dO [cx l [kd] c7 3,cx (a0 2 [.str 12579,fM 1 (.str 1),fM 1 iB] 2) [jz] [an 2,bc] 4] [P,aS 12573] 199 2,bf [aC,aA] dO [cx l [kd] c7 3,cx (a0 2 [.str 17592186044422,fM 1 (.str 1),fM 1 iB] 2) [jz] [an 2,bc] 4] [P,ag] 199 2,d4 [] [aP 7,g,l,l] [] 310 0 0,d4 [h1] [aP 5,gF 0,l,l] [gT] 216 1 1,d4 br [aP 5,g9,l,l] a4 216 1 1,d4 [cw az 7 1 8 8 eK 0 2 3,dW,bP (lp 5) h5 hf hQ] [aK 5 7 0,b4,im 1 8 2 bi,eD 1 8 eK 3] [bq,aq,aM,aW,dY,h6,fo] 213 7 7,d4 [cw az 7 1 8 8 (dx 5 7 8 8 5 7 0 0) 0 2 3,dW,cw h5 7 1 8 8 eK 5 7 8] [aK 5 7 0,b4,im 1 8 2 bi,eD 1 8 (dx 5 7 8 8 5 7 0 0) 3] [bq,aq,aM,aW,dY,h6,fo,gp,g1] 213 9 9,d4 [cw az 7 1 8 8 (bH 5 7 8 8 5 7 8 8 5 7 0 0) 0 2 3,dW,cw h5 7 1 8 8 (dx 5 7 8 8 5 7 0 0) 5 7 8] [aK 5 7 0,b4,im 1 8 2 bi,eD 1 8 (bH 5 7 8 8 5 7 8 8 5 7 0 0) 3] [bq,aq,aM,aW,dY,h6,fo,gp,g1] 213 9 9,d4 [cw az 7 1 8 8 (ej 5 7 8 8 (bH 5 7 8 8 5 7 8 8 5 7 0 0)) 0 2 3,dW,cw h5 7 1 8 8 (bH 5 7 8 8 5 7 8 8 5 7 0 0) 5 7 8] [aK 5 7 0,b4,im 1 8 2 bi,eD 1 8 (ej 5 7 8 8 (bH 5 7 8 8 5 7 8 8 5 7 0 0)) 3] [bq,aq,aM,aW,dY,h6,fo,gp,g1] 213 9 9,d4 [fy aH aA 2 3 a7,bl,fy fp (dc 6) 7 8 a7] [eB,jm,g7 (fQ 1 2) hF,hA (fQ 1 3) [aj,hF,ja t,ja a7]] [ak,ag,e1,dC,aG,a3,jB,cm 7,cm 8] 213 9 9,d4 [cw az 7 1 8 8 eK 0 2 3,dW,bP (lp 5) h5 hf hQ] [aK 5 7 0,b4,im 1 8 2 bi,eD 1 8 eK 3] [bq,aq,aM,aW,dY,h6,fo] 309 7 7,d4 [cw az 7 1 8 8 (dx 5 7 8 8 5 7 0 0) 0 2 3,dW,cw h5 7 1 8 8 eK 5 7 8] [aK 5 7 0,b4,im 1 8 2 bi,eD 1 8 (dx 5 7 8 8 5 7 0 0) 3] [bq,aq,aM,aW,dY,h6,fo,gp,g1] 309 9 9,d4 [cw az 7 1 8 8 (bH 5 7 8 8 5 7 8 8 5 7 0 0) 0 2 3,dW,cw h5 7 1 8 8 (dx 5 7 8 8 5 7 0 0) 5 7 8] [aK 5 7 0,b4,im 1 8 2 bi,eD 1 8 (bH 5 7 8 8 5 7 8 8 5 7 0 0) 3] [bq,aq,aM,aW,dY,h6,fo,gp,g1] 309 9 9,d4 [cw az 7 1 8 8 (ej 5 7 8 8 (bH 5 7 8 8 5 7 8 8 5 7 0 0)) 0 2 3,dW,cw h5 7 1 8 8 (bH 5 7 8 8 5 7 8 8 5 7 0 0) 5 7 8] [aK 5 7 0,b4,im 1 8 2 bi,eD 1 8 (ej 5 7 8 8 (bH 5 7 8 8 5 7 8 8 5 7 0 0)) 3] [bq,aq,aM,aW,dY,h6,fo,gp,g1] 309 9 9,d4 [fy aH aA 2 3 a7,bl,fy fp (dc 6) 7 8 a7] [eB,jm,g7 (fQ 1 2) hF,hA (fQ 1 3) [aj,hF,ja t,ja a7]] [ak,ag,e1,dC,aG,a3,jB,cm 7,cm 8] 309 9 9,bz (cG [dP 9 1,dJ,bX 3 3,aX 9 9] fE 9 8 9) (cG [dP 9 3,c5,dJ,bX 3 3,bJ 3 3 9,ac 8 9] (gb i C (gx 4 (lc 5 5))) 9 8 9) [eS 8 0] [dv [jC,g,l,cJ 8 0 (lc 5 5)] 1] (ay 8 0) 214 1,bz (cG [dP 9 1,dJ,bX 3 3,aX 9 9] fE 9 8 9) (cG [dP 9 3,c5,dJ,bX 3 3,bJ 3 3 9,ac 8 9] (gb i C (gx 4 (lb 5 5 t))) 9 8 9) [eX 0] [dv [jC,g,l,g7 (fQ 0 0) (lb 5 5 t)] 1] [c0] 214 1,e6 [(2,[jg [gi 4 4,aR 4 4,bX 4 4,cu 70,fC (ix 70) (eh 70) 4 3 4 3] fE 70 4 69 70,jg [er 4 3 4 1,ch 70 4 3,aR 4 4,bX 4 4,ac 69 70] (gb i C (gx 4 (.rel (k2 7 7 3 hO (iY 3 (dx 5 7 8 8 5 7 0 0)))))) 70 4 69 70]),(0,[c4 [(36,i)] [cu 36] 36])] [h1,eS 8 1,hf,ds eT [bi,bi,bi],ln [bi,kq 8,kq 8] 2] [gv 3 [aP 7,g,b6 3 3,a0 3 (ej 5 7 8 8 (bH 5 7 8 8 5 7 8 8 5 7 0 0)) 3] 4 3] [gT,aS 8,aM] 198 3,cf [cw az 7 1 8 8 eK 0 2 3,dW,ir 5] [bq,aq,aM,aW,dY,fS 5] 212 6 (is [aK 5 7 0,b4,b6 9 6,a0 9 eK 7] [b3 1 8 9 3 7,b3 1 8 9 2 6] [dr 9,eF 9] 8),cf [fy aH aA 2 3 a7,bl,gq] [ak,ag,e1,dC,aG,dD] 212 6 (f1 [eB,jm,cJ 2147483649 6 hF,a0 2147483649 [aj,hF,ja t,ja a7] 7] [dr 2147483649,eF 2147483649] 8),d4 [cw az 7 1 8 8 eK 0 2 3,dW,ds eT cK] [aK 5 7 0,b4,b6 8 2,a0 8 eK 3] [bq,aq,aM,aW,dY] 215 5 5,d4 [cw az 7 1 8 8 (dx 5 7 8 8 5 7 0 0) 0 2 3,dW,ds eT cK] [aK 5 7 0,b4,b6 8 2,a0 8 (dx 5 7 8 8 5 7 0 0) 3] [bq,aq,aM,aW,dY] 215 5 5,bz (ek 8 [ex] [(4,fE)] [(34,i)] [gi 4 4,aR 4 4,bX 4 4,aX 34 34,ax 34 34]) (ek 8 [ex] [(4,gb i C (ct (k2 7 7 4 hO (iY 4 eK)) 153 4))] [(34,i)] [er 4 3 4 1,ch 34 4 3,bX 4 4,hd (bt 4 0) 7,ac 33 34]) (cz [h1,eS 8 1,ds eT cK,ln [bi,bi,bi,bi,iY 0 cK,iY 0 cK] 2]) [f1 [aP 7,g,b6 3 3,a0 3 (bH 5 7 8 8 5 7 8 8 5 7 0 0) 4] [cs 3,ab 3 4] 5] [gT,aS 8,aM] 118 3,bC (c4 [(4,i),(6,i),(26,i)] [kf,ac 6 25,aX 6 6] 6) [bP fc az hf hQ,j9 2] [bq,aq,an 1000000] 312 3 (cV (bG 1 3) 1 4 3),bC (hv 20001 [(4,i),(6,i),(26,i)] [kf,ax 6 6,e5 20000 6] 6) [cw az 7 1 8 8 eK 0 2 3,j9 4] [bq,aq,aM,aW,ab 1000000 4] 312 5 (cV kN 20001 6 5),bC (hv 20001 [(4,i),(6,i),(26,i)] [kf,ax 6 6,e5 20000 6] 6) [cw az 7 1 8 8 (dx 5 7 8 8 5 7 0 0) 0 2 3,j9 4] [bq,aq,aM,aW,ab 1000000 4] 312 5 (cV kN 20001 6 5),bC (hv 20001 [(4,i),(6,i),(26,i)] [kf,ax 6 6,e5 20000 6] 6) [cw az 7 1 8 8 (bH 5 7 8 8 5 7 8 8 5 7 0 0) 0 2 3,j9 4] [bq,aq,aM,aW,ab 1000000 4] 312 5 (cV kN 20001 6 5),bC (hv 20001 [(4,i),(6,i),(26,i)] [kf,ax 6 6,e5 20000 6] 6) [cw az 7 1 8 8 (ej 5 7 8 8 (bH 5 7 8 8 5 7 8 8 5 7 0 0)) 0 2 3,j9 4] [bq,aq,aM,aW,ab 1000000 4] 312 5 (cV kN 20001 6 5),bC (bb [(3,i)] 0 3 3 3 0 3) br a4 422 1 (cU (cP ag) [ag] 2),ed [] [ae,aa] [aI] [cU jo [ah] 3] 405 J,bY br a4 403 (cV (bG 35184372088832 1) 35184372088832 2 1),bC (bb [(4,i),(5,i)] 0 5 5 5 0 5) br a4 404 1 (cU af [p] 2),bD [] [(0,[g4 cY 7 [(3,i),(4,i)] [eJ 4,ax 4 4]])] br [iE,eH 7 J] [cU af [p] 2] a4 429 1,df aH [ak] 432 (hz ai [hC ak,eH 1114111 ak] [] 1) bm,df aH [ak] 430 (cn (b7 4) j [hC ak,eH 1114111 ak] (ay 4 1) 2) (j7 g (aP 4) 1),bD [] [(0,[hv 5 [(4,i),(5,i),(6,i),(7,i)] [ax 7 7,e5 5 7] 7])] [ae,aa] [aI] [gf [] [aO,aO,gh 4 7 2] (el 4 7 2) 3,g2 (bG 1114111 2) (cP fH) [] [hM 1 fH (p,-1),ga fH] [an 1114111,fH] 4 aO] [J,p] 423 2,bC (dd [(2,i),(4,i),(3,i)] [ac 4 3,cu 3,eJ 4] 0 4) br a4 406 1 (cU (cP (kl (-1) 1)) [kl (-1) 1] 2),eY 376 ca bm,bY [eS 1 0] (ay 1 0) 315 (bM (b6 1 0) 1),bz ⟨[cX,(3,dy),(4,dy)],[],[cS [d8 3,d8 4,d8 5,cI 3,cI 4,cI 5],dm gm (eU 6 4) gl (bE (-6) 4),dm (eU 3 3) fk (bE (-3) 3) cY],g6 1 1 3 4⟩ ⟨[(5,hR),(3,dy),(4,dy)],[],[cS [gm,fk,hk,gl,cY,gV],cS [d8 3,d8 4,d8 5,cI 3,cI 4,cI 5]],g6 1 1 3 4⟩ [eS 2 0] [bM (b6 2 0) 1] (ay 2 0) 315 1,bz ⟨[cX,(3,dy),(4,dy)],[],[cS [d8 3,d8 4,d8 5,cI 3,cI 4,cI 5],dm gm (eU 6 4) gl (bE (-6) 4),dm (eU 3 3) fk (bE (-3) 3) cY],g6 1 1 3 4⟩ ⟨[(5,hR),(3,dy),(4,dy)],[],[cS [gm,fk,hk,gl,cY,gV],cS [d8 3,d8 4,d8 5,cI 3,cI 4,cI 5]],g6 1 1 3 4⟩ [eS 3 0] [fe (b6 3 1) 3 [dA 3 3 0 1] 2 1] (ay 3 0) 315 1,bz ⟨[cX,(3,dy),(4,dy)],[],[cS [d8 3,d8 4,d8 5,cI 3,cI 4,cI 5],dm gm (eU 6 4) gl (bE (-6) 4),dm (eU 3 3) fk (bE (-3) 3) cY],g6 1 1 3 4⟩ ⟨[(5,hR),(3,dy),(4,dy)],[],[cS [gm,fk,hk,gl,cY,gV]],g6 1 1 3 4⟩ [eS 5 0] [cV (b6 5 1) 5 2 1] (ay 5 0) 315 1,bz ⟨[cX,(3,dy),(4,dy)],[],[dm gm (eU 6 4) gl (bE (-6) 4),dm (eU 3 3) fk (bE (-3) 3) cY],g6 1 1 3 4⟩ ⟨[(5,hR),(3,dy),(4,dy)],[],[cS [gm,fk,hk,gl,cY,gV]],g6 1 1 3 4⟩ [eS 9 0] [cV (b6 10 1) 10 2 1] (ay 9 0) 315 1,cE [(2,U),(10,i)] [eS 9 0] [bm,ca] (ay 9 0) 377 1 9 10 10 9 10,hD (cz [fc,az,hf,hQ]) [c4 [(2,U),(107,i)] [cu 107] 107] [gk,dB] [bq,aq] 313 2 1,hD (cz [fc,az,eI,eL eK]) [b1 [(2,U),(107,i)] 106 107 107 106 107] [gr,fq] [bq,aq,aM,aW] 313 4 1,hD (cz [fc,az,eI,eL (dx 5 7 8 8 5 7 0 0)]) [b1 [(2,U),(107,i)] 106 107 107 106 107] [gr,fq] [bq,aq,aM,aW] 313 4 1,hD (cz [fc,az,eI,eL (bH 5 7 8 8 5 7 8 8 5 7 0 0)]) [b1 [(2,U),(107,i)] 106 107 107 106 107] [gr,fq] [bq,aq,aM,aW] 313 4 1,hD (cz [fc,az,eI,eL (ej 5 7 8 8 (bH 5 7 8 8 5 7 8 8 5 7 0 0))]) [b1 [(2,U),(107,i)] 106 107 107 106 107] [gr,fq] [bq,aq,aM,aW] 313 4 1,bN [fc,az,eI,eL (ej 5 7 8 8 (bH 5 7 8 8 5 7 8 8 5 7 0 0))] [gr,fq] [bq,aq,aM,aW] 208 4,e6 [(2,[c4 [(2,U),(28,i)] [cu 28] 28]),(0,[c4 [(3,i),(14,i)] [cu 14,aX 3 3,ax 3 3] 3])] [fc,az,hf,hQ] [dB] [bq,aq] 209 2,e6 [(2,[b1 [(2,U),(28,i)] 27 28 28 27 28]),(0,[b1 [(3,i),(14,i)] 13 14 14 13 14])] [fc,az,eI,eL eK] [gr,fq] [bq,aq,aM,aW] 209 4,e6 [(2,[b1 [(2,U),(28,i)] 27 28 28 27 28]),(0,[b1 [(3,i),(14,i)] 13 14 14 13 14])] [fc,az,eI,eL (dx 5 7 8 8 5 7 0 0)] [gr,fq] [bq,aq,aM,aW] 209 4,e6 [(2,[b1 [(2,U),(28,i)] 27 28 28 27 28]),(0,[b1 [(3,i),(14,i)] 13 14 14 13 14])] [fc,az,eI,eL (bH 5 7 8 8 5 7 8 8 5 7 0 0)] [gr,fq] [bq,aq,aM,aW] 209 4,e6 [(2,[b1 [(2,U),(28,i)] 27 28 28 27 28]),(0,[b1 [(3,i),(14,i)] 13 14 14 13 14])] [fc,az,eI,eL (ej 5 7 8 8 (bH 5 7 8 8 5 7 8 8 5 7 0 0))] [gr,fq] [bq,aq,aM,aW] 209 4,bC (c4 [(5,U),(14,i)] [cu 14] 14) [bP d7 az hf hQ,ir 2] [d0,aq,fS 2] 316 3 (dn r [j,g,l,l] 3),cc (f3 (ch 14 4 0) (ac 13 14) [(5,U),(14,i)] 13 14) [jZ d7 az 8 8 (kQ 0) 2 3,dW] [dn r [j,g,l,l] 5,f0 ai [jn 7,gF 6,g7 eT bi,g7 eT a7] [ab 7 5,fo] 7] [d0,aq,aM,aW,dY] 316 5,cc (f3 (ch 14 4 0) (ac 13 14) [(5,U),(14,i)] 13 14) [jZ d7 az 8 8 (dx 0 7 8 8 0 7 0 0) 2 3,dW] [dn r [j,g,l,l] 5,f0 ai [jn 7,gF 6,b6 8 7,a0 8 (kQ 0) 8] [ab 7 5,fo,gp,g1] 9] [d0,aq,aM,aW,dY] 316 5,cc (f3 (ch 14 4 0) (ac 13 14) [(5,U),(14,i)] 13 14) [jZ d7 az 8 8 (bH 0 7 8 8 0 7 8 8 0 7 0 0) 2 3,dW] [dn r [j,g,l,l] 5,f0 ai [jn 7,gF 6,b6 8 7,a0 8 (dx 0 7 8 8 0 7 0 0) 8] [ab 7 5,fo,gp,g1] 9] [d0,aq,aM,aW,dY] 316 5,cc (f3 (ch 14 4 0) (ac 13 14) [(5,U),(14,i)] 13 14) [jZ d7 az 8 8 (ej 0 7 8 8 (bH 0 7 8 8 0 7 8 8 0 7 0 0)) 2 3,dW] [dn r [j,g,l,l] 5,f0 ai [jn 7,gF 6,b6 8 7,a0 8 (bH 0 7 8 8 0 7 8 8 0 7 0 0) 8] [ab 7 5,fo,gp,g1] 9] [d0,aq,aM,aW,dY] 316 5,cc (f3 (ch 14 4 0) (ac 13 14) [(5,U),(14,i)] 13 14) [fy aH aA 2 3 a7,bl] [dn r [j,g,l,l] 5,f0 ai [bu,iO,fD 7,i5 8 a7] [a3,e2,fr,c1] 9] [ak,ag,e1,dC,aG] 316 5,e6 [(2,[c4 [(38,i)] [cu 38] 38]),(0,[c4 [(21,i)] [cu 21] 21])] [d7,az,hf,hQ] [dv [bG 7 0,b4,l,l] 2] [d0,aq] 211 2,e6 [(2,[cG [c5,dK,eW 3 1 0,dJ,aX 38 38,ax 38 38] fE 38 37 38,cG [er 3 2 3 3,dP 38 2,dP 37 2,c5,dK,eW 3 1 0,eW 1 3 0,bJ 3 3 38] [i,C,hR,gx 4 dL] 38 37 38]),(0,[cG [c5,dK,dJ,bX 3 3,aX 21 21,ax 21 21] fE 21 20 21,cG [dP 21 3,c5,dK,dJ,bX 3 3,bJ 3 3 21,ac 19 21] (gb i C (gx 4 dL)) 21 20 21])] [d7,az,eI,eL (kQ 0)] [dv [jC,b4,l,cJ 8 3 dL] 4,gv 10 [bG 7 0,b4,b6 10 4,cJ 10 4 dL] 5 4] [d0,aq,aM,aW] 211 4,e6 [(2,[cG [c5,dK,eW 3 1 0,dJ,aX 38 38,ax 38 38] fE 38 37 38,cG [er 3 2 3 3,dP 38 2,dP 37 2,c5,dK,eW 3 1 0,eW 1 3 0,bJ 3 3 38] [i,C,hR,gx 4 (fi 0 7 dL)] 38 37 38]),(0,[cG [c5,dK,dJ,bX 3 3,aX 21 21,ax 21 21] fE 21 20 21,cG [dP 21 3,c5,dK,dJ,bX 3 3,bJ 3 3 21,ac 19 21] (gb i C (gx 4 (fi 0 7 dL))) 21 20 21])] [d7,az,eI,eL (dx 0 7 8 8 0 7 0 0)] [dv [jC,b4,l,cJ 8 3 (fi 0 7 dL)] 4,gv 10 [bG 7 0,b4,b6 10 4,cJ 10 4 (fi 0 7 dL)] 5 4] [d0,aq,aM,aW] 211 4,e6 [(2,[cG [c5,dK,eW 3 1 0,dJ,aX 38 38,ax 38 38] fE 38 37 38,cG [er 3 2 3 3,dP 38 2,dP 37 2,c5,dK,eW 3 1 0,eW 1 3 0,bJ 3 3 38] [i,C,hR,gx 4 (gN 0 7 0 7 dL)] 38 37 38]),(0,[cG [c5,dK,dJ,bX 3 3,aX 21 21,ax 21 21] fE 21 20 21,cG [dP 21 3,c5,dK,dJ,bX 3 3,bJ 3 3 21,ac 19 21] (gb i C (gx 4 (gN 0 7 0 7 dL))) 21 20 21])] [d7,az,eI,eL (bH 0 7 8 8 0 7 8 8 0 7 0 0)] [dv [jC,b4,l,cJ 8 3 (gN 0 7 0 7 dL)] 4,gv 10 [bG 7 0,b4,b6 10 4,cJ 10 4 (gN 0 7 0 7 dL)] 5 4] [d0,aq,aM,aW] 211 4,e6 [(2,[cG [c5,dK,eW 3 1 0,dJ,aX 38 38,ax 38 38] fE 38 37 38,cG [er 3 2 3 3,dP 38 2,dP 37 2,c5,dK,eW 3 1 0,eW 1 3 0,bJ 3 3 38] [i,C,hR,gx 4 (gN 0 7 0 7 (fi 0 7 dL))] 38 37 38]),(0,[cG [c5,dK,dJ,bX 3 3,aX 21 21,ax 21 21] fE 21 20 21,cG [dP 21 3,c5,dK,dJ,bX 3 3,bJ 3 3 21,ac 19 21] (gb i C (gx 4 (gN 0 7 0 7 (fi 0 7 dL)))) 21 20 21])] [d7,az,eI,eL (ej 0 7 8 8 (bH 0 7 8 8 0 7 8 8 0 7 0 0))] [dv [jC,b4,l,cJ 8 3 (gN 0 7 0 7 (fi 0 7 dL))] 4,gv 10 [bG 7 0,b4,b6 10 4,cJ 10 4 (gN 0 7 0 7 (fi 0 7 dL))] 5 4] [d0,aq,aM,aW] 211 4,cc (dd [(4,c3),(5,i)] [eJ 5,ax 5 5,⟨6,[bE 6 5,cY]⟩] 0 5) br [jY g 5 7 [k9 1] 2 1,cn (b7 6291463) j [eo 7 6291463 1 (J,6)] (ay 6291463 1) 2] a4 314 1,bD [] [(1,[c4 [cX,(34,i)] [ac 34 5] 5])] (cz [d7,az,hf,hQ]) [ku 112 (ef 7 (-16) 0)] [bS 98311 98311 3 2 2] [d0,aq] 210 2,bD [] [(1,[g4 ex 45 [cX,(34,i)] [hd ex 44,ac 34 5],g4 ex 45 [(5,c3),(34,i)] [ac 33 34,eP 196624 34 5]])] (cz [d7,az,j8 10,dR 10 3 (jX 0 7 0 0 a7)]) [⟨112,[ef 7 (-16) 0,bj 10 2,aN 10 3]⟩] [bS 1966242 1966242 5 4 4] [d0,aq,an 10,cs 10] 210 4,bD [] [(1,[g4 ex 45 [cX,(34,i)] [hd ex 44,ac 34 5],g4 ex 45 [(5,c3),(34,i)] [ac 33 34,eP 2064555 34 5]])] (cz [d7,az,j8 10,dR 10 3 (fi 0 7 (jX 0 7 0 0 a7))]) [⟨112,[ef 7 (-16) 0,bj 10 2,aN 10 3]⟩] [bS 20645552 20645552 5 4 4] [d0,aq,an 10,cs 10] 210 4,bD [] [(1,[g4 ex 45 [cX,(34,i)] [hd ex 44,ac 34 5],g4 ex 45 [(5,c3),(34,i)] [ac 33 34,eP 20743865 34 5]])] (cz [d7,az,j8 10,dR 10 3 (gN 0 7 0 7 (jX 0 7 0 0 a7))]) [⟨112,[ef 7 (-16) 0,bj 10 2,aN 10 3]⟩] [bS 207438652 207438652 5 4 4] [d0,aq,an 10,cs 10] 210 4,bD [] [(1,[g4 ex 45 [cX,(34,i)] [hd ex 44,ac 34 5],g4 ex 45 [(5,c3),(34,i)] [ac 33 34,eP 207536965 34 5]])] (cz [d7,az,j8 10,dR 10 3 (gN 0 7 0 7 (fi 0 7 (jX 0 7 0 0 a7)))]) [⟨112,[ef 7 (-16) 0,bj 10 2,aN 10 3]⟩] [bS 2075369652 2075369652 5 4 4] [d0,aq,an 10,cs 10] 210 4,bN [fc,az,eI,eL (ej 5 7 8 8 (bH 5 7 8 8 5 7 8 8 5 7 0 0))] [cv g 8 142 8 142 5 4 4,c9 (aL 4) 5 e3] [bq,aq,aM,aW] 117 4,gB [dO] [(1,[dZ [(11,j2 C .nils),(0,[hS])] [aR 11 11,bX 11 11,cu 52,fC (ix 52) (eh 52) 11 3 11 3,fC (d6 0 0) (bt 0 0) 11 3 11 3] 52 51 52,dZ [(11,gb C .nils (ct [.str 4,hO,cq,hO,i3,i3] 160 6)),(0,[hS])] [aR 11 11,ac 51 52,ax 52 52,⟨1,[cI 52,bt 11 3]⟩,fC (d6 0 0) (bt 0 0) 11 1 11 1] 52 51 52,dZ [(11,j2 C (eG cq)),(0,[hS])] [ch 52 11 1,aR 11 11,ac 51 52,fC (d6 0 0) (bt 0 0) 11 3 11 3] 52 51 52,dZ [(11,gb C (eG cq) (ct [.str 4,hO,cq,hO,i3,i3] 160 6)),(0,[hS])] [ch 52 11 3,aR 11 11,ac 50 52,⟨1,[cI 52,bt 11 1]⟩] 52 51 52])] [aC,bP aa (cl 12573 2) (fx 3) h8,dR 4 5 cq] [bx iO (au 64 7) [hX 8] [] [e2,h7,c1] 9] [P,p,kM,cb 3,fl,ab 4 5] 107 6,bg dO [cx (a0 2 [.str 13,iB] 1) [kd] [aS 2,al] 3] cQ 108 1,bC (hv 2 [(4,C),(21,i)] [ac 20 21,ax 4 4,⟨16488,[bE 16488 21,cY]⟩] 21) (cz [hN 9,hE 999 1,ei 2 [kR,bi] 2]) [ey 9,aS 999,an 2] 46 3 (cD 49466 49466 (bZ 49466 3) 4 3 3),bC (hv 2 [(4,C),(21,i)] [ac 20 21,ax 4 4,⟨65640,[bE 65640 21,cY]⟩] 21) (cz [hN 9,hE 999 1,ei 2 [kR,gA] 2]) [ey 9,aS 999,an 2] 46 3 (cD 196922 196922 (bZ 196922 3) 4 3 3),bC (dd [(4,C),(21,i)] [ac 4 21,ac 19 21,ax 4 4,⟨16488,[bE 16488 21,cY]⟩] 20 21) (cz [hN 9,hE 999 1,ei 16 [kR,bi] 2]) [ey 9,aS 999,an 16] 46 3 (cD 280298 280298 [dA 16 280298 2 3] 4 3 3),bC (dd [(4,C),(21,i)] [ac 19 21,ax 4 4,⟨32760,[bE 32760 21,cY]⟩] 20 21) (cz [aH,aa,fa]) [ak,p,ew] 46 3 (bS 2129402 2129402 4 3 3),bC (c4 [(5,C),(0,C)] [aX 0 0,aX 5 5] 5) [gg,jT 50 []] [] 47 0 (bS 5 5 1 0 0),bC (c4 [(5,C),(0,C)] [dm (eU 73 0) (bE (-73) 0) hk gV] 0) [bR,jT 50 []] cQ 47 1 (bS 76546053 76546053 2 1 1),bC (c4 [(5,C),(0,C)] [dm (eU 25 0) (bE (-25) 0) hk gV] 0) [ae,aa] [J,p] 47 2 (bS 439804651110405 439804651110405 3 2 2),cf [hN 999,gg,gg,ei 1 [.str 8,bi] 1,I] [ey 999,aS 1] 17 2 (cD 49471 49471 [cF 49471] 3 2 2),cf [hN 999,gg,gg,ei 1 [.str 8,gA] 1,I] [ey 999,aS 1] 17 2 (cD 196927 196927 [eo 196921 196927 2 (ef 1 6 1),cF 196927] 3 2 2),cf [hN 999,cl 100 1,da al,ei 12 [kR,bi] 3,I] [ey 999,aS 100,al,cs 12] 17 4 (cD 76826351 76826351 [⟨76826345,[ef 100 6 1,(al,6),ef 12 6 3,aN 76826351 4]⟩,dA 12 76826351 3 4,a8 76826351 4] 5 4 4),cf (dh jD [fx 0,aa,hH 2,jF,jE,I,I]) [cb 0,p,iN,h4,gn,jG] 121 6 (gv 8193 [b9 0,af,au 8193 6,h9,j,ar,ar] 7 6),cf (dh (gJ 5) [fx 0,aa,hH 2,jF,jE,I,I]) [cb 0,p,iN,h4,gn,f7 5] 121 6 (gv 8193 [b9 0,af,au 8193 6,gI 5,j,ar,ar] 7 6),cf (dh gq [ae,aa,a9,cr,bl,I,I]) [J,p,ah,aY,aG,dD] 121 6 (gv 35184372088833 [g9,af,ll 6,bF dD,j,ar,ar] 7 6),bf [aC,dM (fx 1) fs jF jE (hH 5)] dO [iZ [[hX 9]] [b9 1,cp,au 8193 6,au 49471 7,bG 4 8,ar,ar] [] [dr 8193,eF 49471,hr 4,ia] 10] [P,iM,aV,h4,gn,jA] 111 6,bf [aC,dM aA fs cr bl gq] dO [iZ [[hX 9]] [jm,cp,ll 6,au 49471 7,bG 4 8,ar,ar] [] [dr 35184372088833,eF 49471,hr 4,ia] 10] [P,ag,aV,aY,aG,dD] 111 6,gB [dO] [(0,[fh [(4,[gM,i,jc,jc,jc,hK,hK]),(0,[hS])] [hb 7,(8,i)] [ax 8 8] 2 7,fh [(4,[gM,jh,gM,gM,gM,U,U]),(0,[hS])] [(7,kK 63 7 (.agg [iB,ib,hJ,.str 49471,ib,c6,c6])),(8,i)] [bJ 7 0 7,ac 8 7,ac 2 7] 2 7])] [aC,dM (fx 1) fs jF jE (hH 5),hE 6 6] [cx (eQ 7 [iB,ib,hJ,.str 49471,ib,c6,c6] 63 7 7) [hX 8] [eF 7,c1] 9] [P,iM,aV,h4,gn,jA,dr 6] 206 7,bf [aC,dM (fx 1) fs jF jE (hH 5),gJ 6] dO [cy (eQ 7 [cA,aj,hJ,a5,ib,c6,c6] 63 7 7) [[hX 8]] (bZ 7 7) [eF 7,c1] 9] [P,iM,aV,h4,gn,jA,f7 6] 112 7,bf [aC,dM aA fs cr bl gq,dc 6] dO [cx (eQ 7 [hF,aj,.str 35184372088833,hF,ib,c6,c6] 63 7 7) [hX 8] [eF 7,c1] 9] [P,ag,aV,aY,aG,dD,jB] 112 7,bN [aH,aA,a9,d1] [fq,fJ ai (ke ag) 4] [ak,ag,ah,bB] 311 4,b0 (bP aH aA a9 d1) bl [ak,ag,ah,bB,aG] 207 5 (dn ft [g,j,g,g,g,r,r] 5) (dT [jo,bv,bF aG,g,g,r,r] [ke ag] [] 5),bp [aH,aA,a9,d1] [ak,ag,ah,bB] 113 4 (gD (bG 8 8) [aJ 4,bu,au 22 6,aJ 7,g,o,r] [j0 4096 4 ah] [gn,a3,dr 22,a2 7,g1] 9),bp [aH,aA,a9,d1] [ak,ag,ah,bB] 114 4 (gD (bG 8 7) [bF aG,bu,au 27 6,g,g,r,r] [dS ah aG] [aG,a3,dr 27,gp] 8),bp [aH,aA,a9,d1] [ak,ag,ah,bB] 115 4 (gD (bG 8 7) [bF aG,bu,au 1 6,g,g,r,r] [dS ah aG] [aG,a3,dr 1,gp] 8),bp [fx 0,aa,hH 2,jF,jE,I,I] [cb 0,p,iN,h4,gn] 119 5 (f1 [b9 0,af,au 8193 5,au 49471 6,j,ar,ar] [ab 8193 5,dr 49471] 7),bp [ae,aa,a9,cr,bl,I,I] [J,p,ah,aY,aG] 119 5 (f1 [g9,af,ll 5,au 49471 6,j,ar,ar] [ab 35184372088833 5,dr 49471] 7),bz (bb [cX,(11,i)] 10 11 11 11 10 11) (e8 [(5,ct [t,t,t,t,bn,bn] 160 6),(11,i)] 10 11 11 5 10 11) [bP ae (eX 1) (bh cK 2) (bh [t,t,t,t,bn,bn] 3),bl] [cU (hA (fQ 0 5) [t,t,t,t,bn,bn]) [cm 5] 6] [J,cm 1,e1,dC,aG] 217 5,bz (dd [h3,(5,i),(6,i),hl,(3,U)] [eJ 6,ax 6 6,aX 5 5,ax 5 5] 0 6) (dd [(4,eG (.str 1073741819)),(5,i),(6,i),hl,(3,U)] [eJ 6,ac 6 5,ac 5 4] 0 6) [gU] [fG l 1,de (cJ 1 1 lh) r (ay 1 1) 2,cn (cJ 1073741825 1 lh) ai [b3 1 1073741824 1073741825 0 1] (ay 1073741825 1) 2] [dU] 317 1,cc (hv 4097 [(8,C),(4,C),(5,i),(23,i)] [ac 22 23,ax 23 23,⟨1073745920,[bE 1073745920 23,eh 8]⟩] 23) [ae,aA] [jY g 5 230 [fd 230 2] 3 2,c9 (aJ 2) 3 iN] [J,ag] 218 2,cc (f3 (ch 15 4 1) (ac 14 15) [(5,i),(15,i)] 14 15) [bP ae (eX 1) (bh cK 2) (bh [t,t,t,t,bn,bn] 3),bl] [aU 230 271 230 271 [g,j,g,g,g,r,r] 6 5 5,ck [b9 5,bo,aJ 7,aJ 8,jH,o,o] [cb 5,bd,a2 7,a2 8,jI] 10] [J,cm 1,e1,dC,aG] 120 5,bz (bb [cX,(11,i)] 10 11 11 11 10 11) (e8 [(5,eG bK),(11,i)] 10 11 11 5 10 11) (dh cZ [aH,aa,fa]) [cV (cJ 64 4 bK) 64 5 4] [ak,p,ew,bU] 318 4,bz (bb [cX,(11,i)] 10 11 11 11 10 11) (e8 [(5,eG bK),(11,i)] 10 11 11 5 10 11) (dh cZ [aH,aa,fa]) [cV (cJ 64 4 bK) 64 5 4] [ak,p,ew,bU] 318 4,cc (gE (eP 16380 15 7) [(7,C),(15,i)] 14 15 14 15) (dh cZ [aH,aa,fa]) [fG g 4,de (au 1048320 4) ai (ay 1048320 4) 5] [ak,p,ew,bU] 220 4,cc (gE (eP 16380 15 7) [(7,C),(15,i)] 14 15 14 15) (dh cZ [aH,aa,fa]) [fG g 4,de (au 1048320 4) ai (ay 1048320 4) 5] [ak,p,ew,bU] 220 4,cR 378,bD [] [(0,[bb [(1,i)] 0 1 1 1 0 1])] [ae,aa] [aI,ga p] [hz (cP ah) [fZ (-1) p (ah,1),jl] [ah] 3] [J,p] 319 2,cR 379,cR 424,bD [] [(0,[bb [(7,i)] 0 7 7 7 0 7])] [ae,aa] [aI,ga p] [fb [] [he,aO,bQ] 2,g2 jo (cP fH) [] [hM 1 fH (p,-1),ga fH,jl] [ah,fH] 4 gO] [J,p] 407 2,bD [] [(0,[dd [(4,C),(5,i),(6,U),(8,i),(7,C)] [ac 8 7,eJ 8,ax 8 8] 0 8])] [ae,aa] [aI] [fb [] [he,aO,bQ] 2,g2 (cj 17592186044415) (cP (ka 2)) [] [hM 1 (ka 2) (p,-1),ga (ka 2),es 17592186044415 2 (J,1)] [an 17592186044415,ka 2] 4 gO] [J,p] 425 2,ed [] [ae,aa] [aI,ga p] [fb [] [he,aO,bQ] 2,g2 jo (cP fH) [] [hM 1 fH (p,-1),ga fH,jl] [ah,fH] 4 gO] 408 J,ed [] [aQ,aa] [aI,dS aw p] [f6 [] [g,g] [] [] 2 aO bQ,dw (aK 1 1099511627776 4) [] [jk,bF bU] [hM 1 (iw 1 4) (p,-1),dS aw (iw 1 4),dS aw bU,dS aw a1] [a1,bU,iw 1 4] 5 gO] 380 aw,d9e,bD [] [(2,[fh [(8,[C,.nils,.nils])] [(5,i),(6,U),(9,U),(1,i)] [aR 8 8,aX 1 1,ax 1 1] 0 1,fh [(8,[C,lY t,ct [t,t] 61 2])] [(5,i),(6,U),(9,fg),(1,i)] [ch 1 8 2,aR 8 8,eJ 1,ax 1 1] 0 1,fh [(8,[C,.nils,ct [t,t] 61 2])] [(5,i),(6,U),(9,U),(1,i)] [ch 1 8 2,aR 8 8,eJ 1,ax 1 1] 0 1]),(0,[bb [(5,i),(6,U),(7,i)] 0 7 7 7 0 7])] [bR,aa] [aI,dI p (P,1)] [f6 [] [g,l,l] [] [] 2 aO bQ,dw (ep 2 5) [] [lq,fD 3,ez [t,t] 4] [ip 2 1 5 (p,-1),gj 2 5] [an 1048574,bc,e3,cH 2 5] 6 gO] [P,p] 320 2,bz (bb [(5,i),hl,(3,i),h3] 0 5 5 5 0 5) (e8 [(5,i),hl,(3,i),(4,ct [kF,jq,it [t,t]] 235 3)] 5 4 0 5 0 5) [bR] [cn l (aK 6 161 1) [ea P] (el 6 161 1) 2,c9 (ez [kF,jq,it [t,t]] 1) 2 aT] cQ 221 1,fP [(0,[b1 [(4,C),(5,U),(12,i)] 11 12 12 11 12]),(2,[b1 [(4,C),(5,U),(19,i)] 18 19 19 18 19])] [bh [t,jq,it [t,t]] 0,cO] [de cg ai c7 3,fG g 2] [c0,ao] 222 2,bC (kB 1 (en 5) [(4,C),(5,i)] [aX 5 5,⟨1,en 5⟩]) (iD [ae,aA,a9,cr,bl,I,I,I,I] [gq,dc 6,dc 7,dc 8,dc 9,I,I,I,I]) [J,ag,ah,aY,aG,dD,jB,cT 7,cT 8,cT 9] 382 10 (cD 35184372088832 35184372088832 [⟨1,[(J,1),(ag,1),(ah,1),(aY,1),(aG,1),(dD,1),(jB,1),(cT 7,1),(cT 8,1),(cT 9,1),aN 35184372088832 10]⟩] 11 10 10),cf (iD [aQ,cO,dV,cZ,fm,I,I,I,I] [eg 5,eg 6,eg 7,eg 8,eg 9,I,I,I,I]) [aw,ao,a1,bU,e0,b8 5,b8 6,b8 7,b8 8,b8 9] 322 10 (f1 [bF (b8 10),bF (b8 11),au 10995116277761 12,bF (b8 13),bF (b8 9),o,o,o,o] [b8 10,b8 11,ab 10995116277761 12,b8 13] 14),bp [ae,aA,a9,cr,bl,I,I,I,I] [J,ag,ah,aY,aG] 323 5 (cD 87960930222085 87960930222085 [⟨5,[(J,1),(ag,1),(ah,1),(aY,1),(aG,1),aN 87960930222085 5]⟩] 6 5 5),eR (dh (eg 5) [aQ,aa,dV,cZ,fm,I,I]) [aw,p,a1,bU,e0,b8 5] 223 6 (aU 1 253 1 253 [g,j,g,g,g,r,r] 7 6 6) (ck [b9 6,eC,aJ 8,jH,kg,o,o] [cb 6,di,a2 8,jI,kh] 11),eR (iD [aQ,aa,dV,cZ,fm,I,I] [fp,gW,iP]) [aw,p,a1,bU,e0,a3,bd,h7] 122 8 (dn je [g,j,g,g,g,r,r] 8) (ck [b9 8,ic,kg,ki,iG,o,o] [cb 8,gs,kh,kj,iH] 13),eR (iD [aQ,aa,dV,cZ,fm,I,I] [fp,gW,iP]) [aw,p,a1,bU,e0,a3,bd,h7] 122 8 (dn je [g,j,g,g,g,r,r] 8) (ck [b9 8,ic,kg,ki,iG,o,o] [cb 8,gs,kh,kj,iH] 13),bf [aC,bP aa (cl 12573 2) (fx 3) h8,dR 4 5 cq] dO [cy (eQ 15 [cA,aj,hJ,a5,jf 4,c6,c6] 63 7 6) [[hX 7]] (bZ 15 6) [dr 15,fr] 8] [P,p,kM,cb 3,fl,ab 4 5] 54 6,bg dO [bx (b7 193) (a0 30 [cA,aj,hJ,a5,jf 4,c6,c6] 2) [jz] [cF 30,a8 193 1] [aS 193,an 30,bc] 4] cQ 25 1,d8R,bY [i9 0 fU] [c0] 9 (cn (b7 193) (a0 30 [cA,aj,hJ,a5,jf 4,c6,c6] 2) [cF 30,a8 193 1] [aS 193,an 30] 3),b0 aQ cO [aw,ao] 150 2 gk dB,eY 242 (gf [] [he,he,gh 5 60 1] [fd 60 1] 2) (g2 (b7 4090) (cj 4090) [] [es 4090 2 (J,1),es 4090 1 (J,1),gz,ee (-5) J] [aS 4090,an 4090] 3 aO),cR 284,cR 383,bY [iU] i6 386 (cV (g5 0 .u8 (dQ 255 1)) 255 2 1),ed [] [ae,aa] [aI] [cn (g5 0 .u8 (dQ 255 2)) ai [iv (-3) (J,1) (p,-1)] (kw 2) 3,fG (g5 0 .u8 []) 2] 334 J,cR 354,cR 336,b0 iU cO [dz 0,ao] 337 2 dB gk,cR 246,bf [aC,iU] [l] [fO [[hc (gC 3 1) 5 1]] [eN (-3) 3 1] [] (ay 3 1) 2] i6 255 1,bf [aC,jx] [hc (gC 4294967296 0) 5 1] [fb [[hc (eN 3 4294967296 0) 5 1]] [] 2] [lj,h0] 255 2,bz (fh [(6,[.nils])] [(4,C),(5,i),(7,i)] [aX 7 7,ax 7 7] 0 7) (fh [(6,[c3])] [(4,C),(5,i),(7,i)] [ch 7 6 0,eJ 7] 0 7) [aQ,cO] [cn g (aK 1 5 2) [ea aw] (el 1 5 2) 3,cn (gF 2) j [j0 16384 2 aw,eH 16384 aw] [fS 2] 3] [aw,ao] 243 2,cE [(4,U),(8,i)] [ae,gy 284] [bm,ca] a4 385 1 7 8 8 7 8,eY 329 bm ca,bY [iU] i6 362 (cV (kp 0 (dQ 265 1)) 265 2 1),bD [] [(2,[bb [(8,cB),(9,i),(11,cB),(30,i)] 29 30 30 30 29 30]),(0,[b1 [(8,cB),(9,i),(18,i)] 17 18 18 17 18])] [ae,d5,eE 2,gy 284] [iL,ks 2] [cv ar 1 4 1 4 4 3 3,c9 (gG 3) 4 (dt 3)] [J,aZ,h2] 283 3,bD [] [(2,[bb [(8,cB),(9,i),(11,cB),(30,i)] 29 30 30 30 29 30]),(0,[b1 [(8,cB),(9,i),(18,i)] 17 18 18 17 18])] [ae,d5,eE 2,gy 383] [iL,ks 2] [cv ar 1 4 1 4 4 3 3,c9 (gG 3) 4 (dt 3)] [J,aZ,h2] 283 3,hu [] [ae,d5] [iL] [cv ar 1 4 1 4 3 2 2,c9 (gG 2) 3 h2] 169 J aZ,hu [] [ae,d5] [iL] [cv ar 1 6 1 6 3 2 2,c9 (gG 2) 3 h2] 324 J aZ,cc (hv 256 [(2,U),(15,i)] [e5 255 15,cu 15] 15) [bR] [bm,ca] cQ 250 1,cE [(2,U),(26,i)] br [bm,ca] a4 387 1 25 26 26 25 26,cc (c4 [(2,U),(0,C)] [aX 0 0] 0) [gU] [bm,ca] [dU] 335 1,eY 244 (cv g 3 50 3 50 2 1 1) (cn g9 j [iE,eH 253 J] [] 1),fz [b7 4090,eA] [es 253 2 (J,1),es 4090 1 (J,1),gz,ee (-5) J,iC,a8 4090 1] [aS 4090,et] 133 3 (aU 3 80 3 80 [g,g] 2 1 1),bp [ae,aA] [J,ag] 134 2 (bM (hw 6 [(J,1),(ag,1)]) 2),r261,ha [bR,l4] cQ 245 bm ca,ha [bR,l1] cQ 245 bm ca,bz (f3 (cu 5) (dm hk gV fk cY) [(2,C),(3,i),(5,i),h3] 0 5) (e8 [(2,C),(3,i),(5,i),(4,c3)] 5 4 0 5 0 5) br [cv g 2 5 2 5 2 1 1,cn b4 j [d9 16384 1] [aq] 2] a4 248 1,cR 338,cE [(2,U),(3,hK),(7,i)] br [bm,fJ ai (eH 64 J) 1] a4 249 1 6 7 7 6 7,cE [(3,i),(41,i)] br [aU 1 80 1 80 [g,g] 2 1 1,dT [b7 64,eA] [es 253 2 (J,1),gz,ee (-7) J,iC] [bw 1,et] 3] a4 135 1 40 41 41 40 41,bz (jg [aX 10 10,ax 10 10] [.nils] 10 5 9 10) (jg [i2 3 10 5 0,eJ 10] [c3] 10 5 9 10) [gU,jJ] [cD 3221225472 3221225472 [ik 3221225472 2 (ef 1073741824 3 0)] 3 2 2] [dU,jK] 142 2,bp [gU,jJ] [dU,jK] 136 2 (cD 4294967304 4294967304 [⟨8,[ef 1073741824 3 0,ef 1073741824 3 1,aN 4294967304 2]⟩,dA 1073741824 4294967304 1 2] 3 2 2),r270,cE [(2,U),(6,i)] br [bm,ca] a4 267 1 5 6 6 5 6,b0 ae aA [J,ag] 363 2 (fJ ai iF 2) dB,b0 ae aA [J,ag] 285 2 (cn (jU [(J,1),(ag,-1)]) ai [iF] [] 2) (fG g9 2),b0 ae aA [J,ag] 171 2 (cn (jU [(J,1),(ag,-1)]) ai [iF] [] 2) (fG g9 2),fz [b7 16383,cj 16382,gF 3,au 16383 4,au 16383 5,o,o,o,o] [d9 16383 5,d9 16383 4,d9 16384 3,d9 16382 2] [aS 16383,an 16382,fS 3,ab 16383 4,ab 16383 5] 151 6 (i4 5 6 [g,g,g,g,g,r,r,r,r] [fd 6 1] 2 1),b0 bR gP [P,aT] 251 2 dB gk,eY 339 (j7 j (aP 51) 1) (c9 af 2 p),df gU [dU] 252 (aU 3 51 3 51 [g,j] 2 1 1) (dT [b9 1,cp] [ik 253 1 (bj 1073741824 0),a8 253 1] [iM,aV] 3),b0 ae aA [J,ag] 340 2 (fJ ai iF 2) dB,cf [ae,aA] [J,ag] 388 2 (d3 jo jl [ah] 3),cf [ae,aA] [J,ag] 341 2 (d3 jo jl [ah] 3),bC (kB 1 (en 5) [(4,i),(5,i)] [aX 5 5,⟨1,en 5⟩]) [ae,jx] [J,h0] 389 2 (d3 (aK (-1) 17592186044415 2) (dI ⟨2,-1,17592186044415⟩ (J,1)) (el (-1) 17592186044415 2) 3),cf [ae,jx] [J,h0] 342 2 (d3 (aK (-1) 17592186044415 2) (dI ⟨2,-1,17592186044415⟩ (J,1)) (el (-1) 17592186044415 2) 3),bC (c4 [(0,C),(3,kK 5 1 fU)] [bJ 3 0 3,dm (ix 0) gm (eh 0) gl] 0) [cl 1000000 0] (ay 1000000 0) 253 1 (cD 1000000 1000000 [ik 1000000 1 (bj 1000000 0)] 2 1 1),bC (c4 [(0,C),(3,kK 5 1 fU)] [bJ 3 0 3,dm (ix 0) gm (eh 0) gl] 0) [cl 1000000 0] (ay 1000000 0) 253 1 (bS 1000000 1000000 2 1 1),bs,bp [ae,aa] [J,p] 49 2 (cD 17592186044438 17592186044438 [fj (-1) 17592186044438 2 J,eo 22 17592186044438 2 (J,1)] 3 2 2),bp [ae,aa,a9,cr,bl,kP,gK] [J,p,ah,aY,aG] 16 5 (bM (hw 1 [(ah,1),(aY,1)]) 5),bp [ae,aa,a9,cr,bl,I,I] [J,p,ah,aY,aG] 16 5 (cD 35184372088833 35184372088833 [⟨1,[(ah,1),(aY,1),aN 35184372088833 5]⟩,fj (-1) 35184372088833 5 ah] 6 5 5),bp [ae,aa,a9,cr,bl,kP,gK] [J,p,ah,aY,aG] 18 5 (fe (hi 52776558133279 5) 52776558133279 [⟨31,[(J,1),(ah,1),(aY,1),(aG,1),aN 52776558133279 5]⟩,j3 (-1) 5 aY,j3 (-1) 5 ah,j3 (-1) 5 J,a8 52776558133279 5] 6 5),bp [ae,aa,a9,cr,bl,I,I] [J,p,ah,aY,aG] 18 5 (fe (hi 70368744177696 5) 70368744177696 [⟨32,[(J,1),(ah,1),(aY,1),(aG,1),aN 70368744177696 5]⟩,fj (-1) 70368744177696 5 ah,fj (-1) 70368744177696 5 J,a8 70368744177696 5] 6 5),fz [b9 1,cp,aJ 3,aJ 4,aJ 5,o,o] [d9 4096 3,d9 253 1,gz,a8 253 1] [iM,aV,h4,gn,jA] 137 6 (aU 1 71 1 71 [g,j,g,g,g,r,r] 2 1 1),r293,cE [(2,U),(6,i)] br [bm,fJ ai iE 1] a4 172 1 5 6 6 5 6,df aQ dN 173 (jY (b7 49152) 1 5 [aS 49152,⟨2,1,5⟩] 3 2) (cn (b7 49152) j [fZ 3 aw (aN 49152 1)] (ay 49152 1) 2),b0 ae aA [J,ag] 287 2 gk dB,b0 ae aA [J,ag] 174 2 gk dB,fz [b7 4090,cj 12270] [gz,ee (-4) J] [aS 4090,an 12270] 95 3 (aU 1 100 1 100 [g,g] 2 1 1),bp [ae,aA] [J,ag] 140 2 (bM (hw 5 [(J,1),(ag,1)]) 2),bN [aQ,cO] [aU 1 100 1 100 [g,j] 3 2 2,dT [eA,bv] [iv 4091 (aw,-1) (ao,-1),j0 253 2 ao,iC] [et,bB] 4] [aw,ao] 139 2,bf [aC,az] [il 0] [cy (hi 49153 2) [[il 3]] [cF 49153] [an 49153,cs 110] 4] [ey 110,aq] 290 2,bf [aC,gU] [dg,l] [bx j ji eu [hm 1073741824 0] [] 1,bx (kJ 0) ji (iW 1073741824 0) [] [] 1] [dU] 257 1,bf [aC,gU] eu [bx j ji eu [] [] 1,bx (kJ 0) ji (iW 1073741824 0) [] [] 1] [dU] 257 1,bf [aC,jJ] [dg,hc (gC 4294967296 0) 5 1] [bx (kJ 1) ji (kS (kx 1073741824 1 (bj 4294967296 0))) [] [] 2] [lj,jK] 257 2,bf [aC,jJ] (iW 4294967296 0) [bx (kJ 1) ji (kS (kx 1073741824 1 (bj 4294967296 0))) [] [] 2] [lj,jK] 257 2,gB [[il 0]] [(0,[dZ [(5,[jj,.nils]),(1,[jh])] [aX 10 10,cu 10] 10 9 10,dZ [(5,[.self,c3]),(1,[jh])] [ac 9 10,i2 49153 10 5 1] 10 9 10])] [eS 16385 1,kC cN 290] [cx (cj 805371905) [il 3] [an 805371905,cs 110] 4] [ey 110,aS 16385] 289 2,bN [aQ,cO] [aU 1 110 1 110 [g,j,g,g,g,r,r] 3 2 2,dT [eA,bv,hi 4096 4,g,g,r,r] [ea ao] [et,bB,gn] 5] [aw,ao] 175 2,bN [aQ,aa,dV,cZ,fm,I,I] [fY 5,hz ai [ke aw,ke a1] [] 5] [aw,p,a1,bU,e0] 76 5,gB [[il 0]] [(0,[jg [ec,hd (bt 0 0) 110,ac 9 10,ax 10 10] [i] 10 0 9 10])] [aC,az] [cy (cj 147457) [[il 3]] [cF 147457] [an 147457,cs 110] 4] [ey 110,aq] 343 2,bN [gR,aa,ho,hn,fu,I,I] [dv [g,j,g,g,g,r,r,j,ai,ft,g,j,g,g,g,r,r,j,j,l,g,l,l] 5,is [dk,af,bW,dj,g,o,r,j,r,j,g,j,g,g,g,r,r,j,j,l,g,l,a0 1 (lU kO kO hO) 5] [jL 2,jL 0] (ay 1 5) 6] [gS,p,hq,hp,fv] 34 5,bN [aQ,aa,dV,cZ,fm,I,I] [dv [g,j,g,g,g,r,r,j,ai,ft,g,j,g,g,g,r,r,j,j,l,g,l,l] 5,gv 1 [kc,af,jk,bF bU,g,o,r,j,r,j,g,j,g,g,g,r,r,j,j,l,g,l,a0 1 (lT kO kO (.str 1099511627776) hO) 5] 6 5] [aw,p,a1,bU,e0] 34 5,df (bh bI 0) [c0] 154 (fJ l (gQ 0) 1) (bM (gw 0 bI 42 7 0) 1),df (bh ba 0) [c0] 155 (fJ l (gQ 0) 1) (bM (gw 0 ba 44 9 0) 1),df (bh [t,t] 0) [c0] 156 (bM l 1) (bM (gw 0 [t,t] 61 2 0) 1),bN [gR,aa,ho,hn,fu,I,I,hE 6 5,gK,gW,bL 7,iQ,gX,js,jr,I,I,bO 12,bO 13,ds eT [bK,bK],gg,ei 7 ba 14,ei 7 bI 15] [fL [dk,af,bW,dj,b5,o,o,ih,r,bo,dE,be,c2,cM,cW,o,o,cd,cL,l,g,l,l] [hm 7 15,hm 7 14] 16,fL [dk,af,bW,dj,b5,o,o,ih,r,bo,dE,be,c2,cM,cW,o,o,cd,cL,i1 eT [t,t] 61 2,g,l,l] [hm 7 15,hm 7 14] 16,fL [dk,af,bW,dj,b5,o,o,ih,r,bo,dE,be,c2,cM,cW,o,o,cd,cL,l,g,j1 7 14,l] [hm 7 15] 16,fL [dk,af,bW,dj,b5,o,o,ih,r,bo,dE,be,c2,cM,cW,o,o,cd,cL,i1 eT [t,t] 61 2,g,j1 7 14,l] [hm 7 15] 16,fL [dk,af,bW,dj,b5,o,o,ih,r,bo,dE,be,c2,cM,cW,o,o,cd,cL,l,g,l,eQ 7 bI 42 7 15] [hm 7 14] 16,fL [dk,af,bW,dj,b5,o,o,ih,r,bo,dE,be,c2,cM,cW,o,o,cd,cL,i1 eT [t,t] 61 2,g,l,eQ 7 bI 42 7 15] [hm 7 14] 16,dv [dk,af,bW,dj,b5,o,o,ih,r,bo,dE,be,c2,cM,cW,o,o,cd,cL,l,g,j1 7 14,eQ 7 bI 42 7 15] 16,dv [dk,af,bW,dj,b5,o,o,ih,r,bo,dE,be,c2,cM,cW,o,o,cd,cL,i1 eT [t,t] 61 2,g,j1 7 14,eQ 7 bI 42 7 15] 16] [gS,p,hq,hp,fv,ab 6 5,bd,aF 7,d2,gY,hg,iJ,hT,iI,ab 7 14,ab 7 15] 77 16,bN [gR,aa,ho,hn,fu,I,I,fp,I,gW,bL 7,iQ,gX,js,jr,I,I,bO 12,bO 13,kG 14,dc 15,bh ba 16,bh bI 17] [fL [dk,af,bW,dj,b5,o,o,bu,o,bo,dE,be,c2,cM,cW,o,o,cd,cL,l,hU,l,l] [gQ 17,gQ 16] 18,fL [dk,af,bW,dj,b5,o,o,bu,o,bo,dE,be,c2,cM,cW,o,o,cd,cL,eQ 64 [t,t] 61 2 14,hU,l,l] [gQ 17,gQ 16] 18,fL [dk,af,bW,dj,b5,o,o,bu,o,bo,dE,be,c2,cM,cW,o,o,cd,cL,l,hU,gw 0 ba 44 9 16,l] [gQ 17] 18,fL [dk,af,bW,dj,b5,o,o,bu,o,bo,dE,be,c2,cM,cW,o,o,cd,cL,eQ 64 [t,t] 61 2 14,hU,gw 0 ba 44 9 16,l] [gQ 17] 18,fL [dk,af,bW,dj,b5,o,o,bu,o,bo,dE,be,c2,cM,cW,o,o,cd,cL,l,hU,l,gw 0 bI 42 7 17] [gQ 16] 18,fL [dk,af,bW,dj,b5,o,o,bu,o,bo,dE,be,c2,cM,cW,o,o,cd,cL,eQ 64 [t,t] 61 2 14,hU,l,gw 0 bI 42 7 17] [gQ 16] 18,dv [dk,af,bW,dj,b5,o,o,bu,o,bo,dE,be,c2,cM,cW,o,o,cd,cL,l,hU,gw 0 ba 44 9 16,gw 0 bI 42 7 17] 18,dv [dk,af,bW,dj,b5,o,o,bu,o,bo,dE,be,c2,cM,cW,o,o,cd,cL,eQ 64 [t,t] 61 2 14,hU,gw 0 ba 44 9 16,gw 0 bI 42 7 17] 18] [gS,p,hq,hp,fv,a3,bd,aF 7,d2,gY,hg,iJ,hT,iI,bw 14,lZ,cm 16,cm 17] 77 18,k6 [gJ 0,aa,gJ 2,gJ 3,h8,eE 5,eE 6] [gI 0,af] [f7 0,p,an 134217728,lm,fl,dt 5,dt 6] 123 7 7,b0 (bP ae aa a9 (eE 3)) (l0 (gJ 4) fp (gJ 6) (gJ 7) iQ (eE 9) (eE 10)) [J,p,ah,dt 3,f7 4,a3,f7 6,f7 7,d2,dt 9,dt 10] 225 11 (f2 11) (fY 11),cE [(4,i),(8,i)] [bh [a5,aj,a5,a5,aj,db,db] 0,kC (cz [cl 4294967296 1,fs,cl 4294967296 3,eE 4]) 225] [d3 (j5 (-1) 5) (dI ⟨5,-1,2147483647⟩ (bj 2147483648 0)) (j6 (-1) 5) 6] [c0,aS 4294967296,aV,cs 4294967296,dt 4] 224 5 7 8 8 7 8,eR [jb [a5,aj,a5,a5,aj,db,db] 0,dM jJ fs (fX 3) (fX 4) (fX 5),eE 6] [dU,jK,aV,du 3,du 4,du 5,dt 6] 124 7 (cv g 8 243 8 243 8 7 7) (cn (gI 7) j (bZ 1073741824 0) (ay 134217728 7) 8),bg [ad,o] [cy (b7 1048574) [[lq,ai]] [es 1048574 2 (P,1),es 1048574 1 (P,1)] [aS 1048574,an 1048574] 3,eb ad [g,r] 1] cQ 228 1,cE [(2,U),(7,i)] br [bm,ca] a4 230 1 6 7 7 6 7,eY 227 (dn r [j,j,l] 1) (gD ai [dF 1,cp,l] [ee (-13) J] [h0,aV] 3),cR 271,cE [(2,U),(6,i)] br [bm,fJ ai iE 1] a4 229 1 5 6 6 5 6,cR 325,fP [(2,[c4 [(0,C)] [aX 0 0] 0]),(0,[c4 [(0,C)] [aX 0 0] 0])] br [d3 jm iF [ag] 2] a4 231 1,hD br [ek 1 [ht 6] [(7,[i,i,.nils]),(6,[C,U])] [(3,i),(4,i)] [cS [ij],fC (d6 7 0) (bt 7 0) 7 2 7 2],ek 1 [ht 6] [(7,[i,i,.nils]),(6,[C,fg])] [(3,i),(4,i)] [dG 7 7,aR 7 7,bX 7 7,fC (d6 7 1) (bt 7 1) 7 2 7 2,fC (d6 6 0) (bt 6 0) 7 2 7 2],ek 1 [ht 6] [(7,[i,i,ct [gH,.str 16376] 61 2]),(6,[C,fg])] [(3,i),(4,i)] [aR 7 7,bX 7 7,fC (d6 6 0) (bt 6 0) 7 2 7 2],ek 1 [ht 6] [(7,[i,i,ct [bK,gH] 61 2]),(6,[C,U])] [(3,i),(4,i)] [hd (bt 7 2) 64,aR 7 7,cS [ij]]] [f6 [] [j,j,l] [] (el 142 191 1) 2 aO (gh 142 191 1),dw (aK 17 16384 4) [] [dF 1,cp,gL [bK,gH] 3] [ga ⟨4,17,16384⟩] [h0,aV,cs 64,⟨4,17,16384⟩] 5 aO] a4 125 1 1,df aH [ak] 78 ca bm,bz (bb [cX,(11,i)] 10 11 11 11 10 11) (e8 [(5,eG bK),(11,i)] 10 11 11 5 10 11) (dh cZ [aH,aa,fa]) [cV (cJ 64 4 bK) 64 5 4] [ak,p,ew,bU] 144 4,bz (bb [cX,(11,i)] 10 11 11 11 10 11) (e8 [(5,eG bK),(11,i)] 10 11 11 5 10 11) (dh cZ [aH,aa,fa]) [cV (cJ 64 4 bK) 64 5 4] [ak,p,ew,bU] 144 4,eR (dh cZ [aH,aa,fa]) [ak,p,ew,bU] 72 4 (de (au 1048318 4) r (ay 1048318 4) 5) (de (au 1048318 4) ai (ay 1048318 4) 5),eR (dh cZ [aH,aa,fa]) [ak,p,ew,bU] 72 4 (de (au 1048318 4) r (ay 1048318 4) 5) (de (au 1048318 4) ai (ay 1048318 4) 5),bg [gI 0,b2] [cy j [[lv (-2) 134217728 0,b2]] [eN (-2) 134217728 0] [] 2,cx (aK 190 191 2) [gI 0,b2] (el 190 191 2) 3] [f7 0,aZ] 327 2,bg [gI 0,b2] [bx (gI 2) (aK 190 191 3) [gI 4,b2] [] [an 134217728,⟨3,190,191⟩,f7 4] 5,bx (cj 134217726) j [au 134217726 3,b2] [es 134217726 3 (bj 134217728 0)] [an 134217726,cs 134217726] 4] [f7 0,aZ] 328 2,hu [] [ae,d5] [iL] [cv ar 1 4 1 4 3 2 2,c9 (gG 2) 3 h2] 384 J aZ,gB [[gI 0,b2]] [(0,[⟨[(3,i)],[],[bJ 0 0 3,ax 3 3],bJ 0 0 3⟩])] cN [cx (aK 190 191 2) [gI 3,b2] [⟨2,190,191⟩,lm] 4,cy j [[cj 134217726,gG 3]] [es 134217726 2 (bj 134217728 0)] [an 134217726,dt 3] 4] [f7 0,aZ] 326 2,bg [dg,l] [eb j [dg,l] 0] [] 258 0,bg eu [eb j eu 0] [] 258 0,bg [dg,hc iz 5 1] [eb (cP aw) [dg,hc iz 5 1] 1] dN 258 1,bg jy [eb (cP aw) jy 1] dN 258 1,fP [(3,[em [ij] [(7,[C,cB])] [(4,C),(5,i)] [aR 7 7]]),(0,[em [ij] [(7,[C,cB]),(6,[jj,.nils])] [(4,C),(5,i)] [aR 7 7],em [ij] [(7,[C,cB]),(6,[.self,c3])] [(4,C),(5,i)] [kA (d6 6 1) (d6 7 0) (bt 6 1) 7 0,ch 1 6 1]])] [gJ 0,kr 1 aT] [cv g 142 191 142 191 3 2 2,la cg c7 3] [f7 0,aT] 232 2,fP [(3,[em [ij] [(7,[C,cB])] [(4,C),(5,i)] [aR 7 7]]),(0,[em [ij] [(7,[C,cB]),(6,[jj,.nils])] [(4,C),(5,i)] [aR 7 7],em [ij] [(7,[C,cB]),(6,[.self,c3])] [(4,C),(5,i)] [kA (d6 6 1) (d6 7 0) (bt 6 1) 7 0,ch 1 6 1]])] [bR,aa] [cv g 142 191 142 191 3 2 2,la lq (ay 1048574 2) 3] [P,p] 232 2,cE [(2,cB),(3,U),(22,i)] [bR] [fG ar 1,de b2 ai [aZ] 2] cQ 233 1 21 22 22 21 22,eR [.agg [aH,aa,fa],gJ 3,jT 1048576 []] [ak,p,ew,lm] 126 4 (c9 (aL 4) 5 e3) (cv g 142 191 142 191 5 4 4),eR [.agg [aH,aa,fa],da bc,h8] [ak,p,ew,bc,fl] 126 5 (cv g 4 191 4 191 6 5 5) (c9 (aL 5) 6 e4),fR [jb [a5,aj,a5,a5,aj,db,db] 0,d5,dM (fX 2) d1 (fX 4) (fX 5) (fX 6)] [dw iK [] [aJ 7,be,jH,eV 10,eV 11,o,o,dF 12,cL,l,g,l] [] [a2 7,d2,jI,du 10,du 11,dz 12,iI,hV,⟨15,8,243⟩] 16 (gh 8 243 15),dw ju [] [eV 2,bv,eV 4,eV 5,eV 6,o,o,dF 7,be,gL [bK,gH] 9,aL 10,l] (bZ 1073741824 0) [dz 7,d2,bw 9,aE 10,jv] 12 aO,dw jt [] [eV 2,bv,eV 4,eV 5,eV 6,o,o,dF 7,be,gL [bK,gH] 9,g,l] [] [dz 7,d2,bw 9,hh,⟨11,142,191⟩] 12 (gh 142 191 11)] [dU,aZ,du 2,bB,du 4,du 5,du 6] 56 7,cf (iD [gR,bL 1,kb 2,hn,fu,I,I,I,I] [jD,iR,kb 7,bL 8,gX,I,I,I,I]) [gS,aF 1,an 262144,hp,fv,jG,iS,eF 262144,aF 8,gY] 268 10 (bS 524288 524288 11 10 10),cf (iD [ae,aA,a9,cr,bl,I,I,I,I] [gq,dc 6,dc 7,dc 8,dc 9,I,I,I,I]) [J,ag,ah,aY,aG,dD,jB,cT 7,cT 8,cT 9] 268 10 (bS 35184372088832 35184372088832 11 10 10),cf (iD [gR,bL 1,kb 2,hn,fu,I,I,I,I] [jD,iR,kb 7,bL 8,gX,I,I,I,I]) [gS,aF 1,an 262144,hp,fv,jG,iS,eF 262144,aF 8,gY] 152 10 (f1 [cM,cW,au 524288 12,a6 13,c2,o,o,o,o] [hg,iJ,ab 524288 12,aF 13] 14),bf [I,dR 2 0 t,aC] [dg,l] [fb [eu] [] 1,gf [iW 2097152 1] [] (ay 2097152 1) 2,fb [[dg,l]] [] 1] (ay 2 0) 269 1,bf [I,dR 2 0 t,aC] eu [fb [eu] [] 1,gf [iW 2097152 1] [] (ay 2097152 1) 2] (ay 2 0) 269 1,bf [I,dR 2 1 t,aC] (iW 1073741824 0) [fO [iW 1075838976 2] [⟨2097150,[bj 1073741824 0,bj 2 1,aN 1075838976 2]⟩] [] (ay 1075838976 2) 3] [dU,aS 2] 269 2,bp [gR,bL 1,kb 2,hn,fu,I,I,I,I] [gS,aF 1,an 262144,hp,fv] 153 5 (bS 10485759 10485759 6 5 5),bp [bR,gP,da al,da bc,da e3,I,I,I,I] [P,aT,al,bc,e3] 153 5 (bS 10485759 10485759 6 5 5),eR (dh (eg 5) [aQ,aa,dV,cZ,fm,I,I]) [aw,p,a1,bU,e0,b8 5] 75 6 (aU 1 253 1 253 [g,j,g,g,g,r,r] 7 6 6) (ck [b9 6,eC,aJ 8,jH,kg,o,o] [cb 6,di,a2 8,jI,kh] 11),cE [(4,i),(8,i)] [bh bI 0,dM aA fs cr bl gq] [cU (j5 (-1) 6) (j6 (-1) 6) 7] [c0,ag,aV,aY,aG,dD] 270 6 7 8 8 7 8,b0 (bh bI 0) (dM aA fs cr bl gq) [c0,ag,aV,aY,aG,dD] 157 6 (f2 6) (fY 6),eR [dM aQ aa dV cZ fm,.agg [fp,gW,iP],bh bI 8,bO 9] [aw,p,a1,bU,e0,a3,bd,h7,cm 8,gs] 79 10 (aU 250 253 250 253 [g,j,g,g,g,r,r] 11 10 10) (dT [b9 10,ju,iG,aJ 13,g,o,r] [eH 4 gs] [cb 10,jv,iH,a2 13] 14),eR [dM aQ aa dV cZ fm,.agg [fp,gW,iP],bh bI 8,bO 9] [aw,p,a1,bU,e0,a3,bd,h7,cm 8,gs] 79 10 (aU 250 253 250 253 [g,j,g,g,g,r,r] 11 10 10) (ck [b9 10,ju,iG,aJ 13,g,o,r] [cb 10,jv,iH,a2 13] 14),fR [jb [a5,aj,a5,a5,aj,db,db] 0,d5,.agg [ho,d1,fu,jD,iR,I,I,hE 6 7,gK,iQ,gX,bO 10,jr,bL 12,bL 13,I,I,bO 14,bO 15,ds eT [bK,bK],gg,ei 7 ba 16,ei 7 bI 17]] [is [b9 18,aD 19,aJ 20,aJ 21,g,o,r,iq 1 (dQ 6 7),r,be,g,j,g,g,g,r,r,j,j,l,g,eD 1 7 ba 16,eD 1 7 bI 17] [a8 1073741824 0,ku 4 (aN 6 7)] [cb 18,aB 19,a2 20,a2 21] 22,is [bW,bv,b5,h9,iT,o,o,bG 6 7,ai,aD 18,aJ 19,aD 20,aJ 21,a6 22,a6 23,o,o,dF 24,aD 25,l,aL 26,eD 1 7 ba 16,a0 7 bI 17] [g8 (cC 6) (ky 23),g8 (cC 5) (ky 22),g8 (cC 4) (kE 21),g8 (cC 2) (kE 19)] [aB 18,a2 19,aB 20,a2 21,aF 22,aF 23,dz 24,aB 25,aE 26] 27,is [bW,bv,b5,h9,iT,o,o,bG 6 7,ai,be,bW,bv,b5,h9,iT,o,o,dF 18,aD 19,gL [bK,gH] 20,aL 21,eD 1 7 ba 16,a0 7 bI 17] (bZ 1073741824 0) [dz 18,aB 19,bw 20,aE 21] 22] [dU,aZ,hq,bB,fv,jG,iS,eF 6,d2,gY,hh,iJ,aF 12,aF 13,hV,aB 15,ab 7 16,ab 7 17] 35 18,fR [jb [a5,aj,a5,a5,aj,db,db] 0,d5,.agg [ho,d1,fu,jD,iR,I,I,jM,I,iQ,gX,bO 10,jr,bL 12,bL 13,I,I,bO 14,bO 15,kG 16,fX 17,jb ba 18,jb bI 19]] [f1 [a6 20,aD 21,a6 22,a6 23,a6 24,o,o,aD 25,o,be,a6 26,aD 27,a6 28,a6 29,a6 30,o,o,aD 31,aD 32,l,eV 33,a0 1073741825 ba 34,a0 1073741825 bI 35] [aF 20,aB 21,aF 22,aF 23,aF 24,aB 25,aF 26,aB 27,aF 28,aF 29,aF 30,aB 31,aB 32,du 33,ab 1073741825 34,ab 1073741825 35] 36,f1 [bW,bv,b5,h9,iT,o,o,eC,ai,aD 20,aJ 21,aD 22,aJ 23,a6 24,a6 25,o,o,dF 26,aD 27,l,aL 28,eD 1 1073741824 ba 18,kL bI 19] [aB 20,a2 21,aB 22,a2 23,aF 24,aF 25,dz 26,aB 27,aE 28] 29,f1 [bW,bv,b5,h9,iT,o,o,eC,ai,be,bW,bv,b5,h9,iT,o,o,dF 20,aD 21,gL [bK,gH] 22,aL 23,eD 1 1073741824 ba 18,kL bI 19] [dz 20,aB 21,bw 22,aE 23] 24,dv [bW,bv,b5,h9,iT,o,o,eC,o,be,c2,jt,cW,a6 12,a6 13,o,o,iK,aD 15,gL [t,t] 16,eV 17,kL ba 18,kL bI 19] 20] [dU,aZ,hq,bB,fv,jG,iS,di,d2,gY,hh,iJ,aF 12,aF 13,hV,aB 15,bw 16,du 17,du 18,du 19] 35 20,fR [ds jW [a5,aj,a5,a5,aj,db,db],d5,dM ho d1 fu jD iR] [dn ft [g,j,g,g,g,r,r,j,j,l,g,l] 7,gD (aD 15) [aJ 7,be,jH,cM,g,o,o,dF 11,cd,l,aL 13,a0 6 ba 14] [⟨1,[(P,6),jR,jQ,jP,jO,aN 6 14]⟩,⟨4090,[(P,6),jR,jQ,jP,jO,jw]⟩,⟨4090,[(P,6),jR,jQ,jP,jO,kE 9]⟩,⟨247,[(P,6),jR,jQ,jP,jO,jN]⟩,⟨4093,[(P,3),dq 2,dq 4,dq 5,dq 6,jw]⟩,⟨250,[(P,3),dq 2,dq 4,dq 5,dq 6,jN]⟩,⟨4095,[(P,1),cC 2,cC 4,cC 5,cC 6,jw]⟩,⟨252,[(P,1),cC 2,cC 4,cC 5,cC 6,jN]⟩,jL 2,jL 4,a8 6 14] [a2 7,d2,jI,hg,dz 11,hT,aE 13,ab 6 14,aB 15] 16,dT [aJ 7,be,jH,cM,g,o,o,dF 11,cd,gL [bK,gH] 13,aL 14,a0 6 ba 15] [⟨4090,[(P,6),jR,jQ,jP,jO,jw]⟩,⟨247,[(P,6),jR,jQ,jP,jO,jN]⟩,⟨4093,[(P,3),dq 2,dq 4,dq 5,dq 6,jw]⟩,⟨250,[(P,3),dq 2,dq 4,dq 5,dq 6,jN]⟩,⟨4095,[(P,1),cC 2,cC 4,cC 5,cC 6,jw]⟩,⟨252,[(P,1),cC 2,cC 4,cC 5,cC 6,jN]⟩,jL 2,jL 4,ea P,a8 6 15] [a2 7,d2,jI,hg,dz 11,hT,bw 13,aE 14,ab 6 15] 16] [P,aZ,hq,bB,fv,jG,iS] 12 7,bf [aC,dM iR jM (bL 8) gX js] [f9,b2,cp,f5,f4,bu,l] [hB ft [[f9,b2,cp,f5,f4,bu,l]] [g,j,g,g,g,r,r,j,j,l,g,l] [] [] 11,g3 (aD 19) 6 [ki,cd,aJ 13,a6 14,g,o,o,dF 15,aD 16,l,aL 17,a0 6 ba 18] (bZ 6 18) [kj,hT,a2 13,aF 14,dz 15,aB 16,aE 17,ab 6 18,aB 19] 20 18,g3 j 6 [ki,cd,aJ 13,a6 14,g,o,o,dF 15,aD 16,gL [bK,gH] 17,aL 18,a0 6 ba 19] (bZ 6 19) [kj,hT,a2 13,aF 14,dz 15,aB 16,bw 17,aE 18,ab 6 19] 20 19] [P,aZ,aV,f8,gu,a3,iS,di,aF 8,gY,hg] 67 11,bf [aC,dM (bL 7) iQ gX js jr] (jd 60 6) [g3 ft 60 [g,j,g,g,g,r,r,j,j,l,g,l] [] [] 12 6,g3 (aD 20) 66 [iG,cL,aJ 14,a6 15,g,o,o,dF 16,aD 17,l,aL 18,a0 6 ba 19] [b3 6 60 66 6 21,dA 60 66 6 21,a8 66 21] [iH,iI,a2 14,aF 15,dz 16,aB 17,aE 18,ab 6 19,aB 20,ab 66 21] 22 21,g3 j 66 [iG,cL,aJ 14,a6 15,g,o,o,dF 16,aD 17,gL [bK,gH] 18,aL 19,a0 6 ba 20] [b3 6 60 66 6 21,dA 60 66 6 21,dA 6 66 20 21,a8 6 20] [iH,iI,a2 14,aF 15,dz 16,aB 17,bw 18,aE 19,ab 6 20,ab 66 21] 22 21] [P,aZ,aV,f8,gu,a3,dr 60,aF 7,d2,gY,hg,iJ] 67 12,df aH [ak] 36 (hz j [ee (-200) ak,eH 200 ak] [] 1) (cU (aK 260 261 1) (el 260 261 1) 2),bg [ad,af] [eb ai [ad,af] 2,cy r [[ad,af]] [dI p (P,1)] [] 2] [P,p] 147 2,bD [[ad,af]] [(0,[fw [(0,[C,i])] [] [dH 0 0,dG 0 0,eM,ec] 0 0])] [aC,gy 271] [aI,bA] [cy cg [[ad,eO [(p,1),(al,1)]]] [c8 (P,1) (p,-1) (al,-1)] c7 3] [P,p] 261 2,ed [[ad,af]] cN [aI,bA] [bx cg ai [ad,eO [(p,1),(al,1)]] [c8 (P,1) (p,-1) (al,-1),ea al] c7 3,bx g r [ad,af] [] [] 2] 159 P,cR 262,iy [[ad,af]] [aC,lo 2] [aI,bA] [eb r [ad,af] 3,cy ai [[ad,iq 1 [(p,1)]]] [dI p (P,1)] [] 3] [P,p,an 255] 148 3,lX 0 347 0 (fJ ai (eN (-9) 255 0) 1),bD [[ad,af]] [(0,[⟨[(2,C),(3,U),h3],[(0,[C,i])],[gi 0 0,dG 0 0,eM,ec],bJ 0 0 4⟩,⟨[(2,C),(3,U),(4,k8 5 (lH 9))],[(0,[C,i])],[dH 0 0,dG 0 0,eM,ec,bJ 0 1 4],bJ 0 0 4⟩])] cN [aI,bA] [bx g r [ad,kk] [fZ (-1) p (al,1),ff al] c7 3,bx hL ai [ad,ep 2 3] [gj 2 3,ip 2 1 3 (p,-1)] [hI,cH 2 3] 4] [P,p] 272 2,ed [[ad,af]] cN [aI,bA] [bx cg o [ad,cP bc] [ff bc,fZ (-1) p (bc,1)] [al,bc] 4] 160 P,cE [(2,U),(8,i)] (cz [ae,aA,bh [t,t] 2]) [fY 3,f2 3] [J,ag,e1] 273 3 7 8 8 7 8,cE [(4,U),(9,i)] (dh (eX 3) [ae,aA,bh [t,t] 2]) [fq,gr] [J,ag,e1,dC] 161 4 8 9 9 8 9,bN [ae,aA,bh [t,t] 2] [fY 3,f2 3] [J,ag,e1] 81 3,bD [[ad,af]] [(0,[fw [(0,[C,i])] [] [dH 0 0,dG 0 0,eM,ec] 0 0])] [aC,gy 354] [aI,bA] [cy cg [[ad,eO [(p,1),(al,1)]]] [c8 (P,1) (p,-1) (al,-1)] c7 3] [P,p] 274 2,bD [[ad,af]] [(0,[fw [(0,[C,i])] [] [dH 0 0,dG 0 0,eM,ec] 0 0])] [aC,gy 284] [aI,bA] [cy cg [[ad,eO [(p,1),(al,1)]]] [c8 (P,1) (p,-1) (al,-1)] c7 3] [P,p] 274 2,cR 275,bg [ad,af] [bx (cj 4) j [ad,eO [(p,1),bj 4 2]] [cF 4,c8 (P,1) (p,-1) (aN 4 2)] (ay 4 2) 3,bx g (aP 7) [ad,af] [] [] 2] [P,p] 393 2,ed [[ad,af]] cN [aI,bA] [bx j r [ad,af] [] [] 2,bx cp ai [ad,iq 6 [(p,1)]] [iv (-6) (P,1) (p,-1)] [aV] 3] 410 P,ed [[ad,af]] cN [aI,bA] [cx (g5 0 .u8 (dQ 255 2)) [ad,af] (kw 2) 3] 412 P,ed [[ad,af]] cN [aI,dI p (P,1)] [bx g (aK 7 130 2) [ad,ep 1 3] [] [⟨2,7,130⟩,cH 1 3] 4,bx (cj 4) j [ad,ep 2 3] [c8 (p,-1) (aN 4 2) (cH 2 3,1),gj 2 3,cF 4] [an 4,cH 2 3] 4] 394 P,bD [[ad,af]] [(0,[fw [(4,[jj,.nils]),(0,[C,i])] [(2,C),(3,i)] [gi 0 0,dG 0 0,eM,ec] 0 0,fw [(4,[.self,c3]),(0,[C,i])] [(2,C),(3,i)] [dH 0 0,dG 0 0,eM,ec,er 0 1 4 1] 0 0])] cN [aI,dI p (P,1)] [bx hL j [ad,ep 2 3] [gj 2 3,ip 2 1 3 (p,-1),iA 2 (P,1)] [hI,cH 2 3] 4,bx g (aK 7 130 2) [ad,ep 1 3] [] [⟨2,7,130⟩,cH 1 3] 4] [P,p] 355 2,iy [[ad,af]] [aC,dV] [aI,bA] [eb r [ad,af] 3,cy ai [[ad,iq 1 [(p,1)]]] [dI p (P,1)] [] 3] [P,p,a1] 395 3,iy [[ad,af]] [aC,fs] [aI,bA,hC aV,dS p aV] [fO [[ad,cP bc]] [fZ (-1) aV (bc,1),ff bc] [] [bc] 4] [P,p,aV] 396 3,ed [[ad,af]] cN [aI,bA] [bx g r [ad,kk] [] c7 3,bx cg ai [ad,eO [(p,1),(al,1)]] [ea al,c8 (P,1) (p,-1) (al,-1)] c7 3] 356 P,ed [[ad,af]] cN [aI,bA] [fO [[ad,cP P]] [fZ (-1) P (p,1)] (hY (aP 1) he aO) [] 2,g2 (aP 3) hL [[ad,ep 2 3]] [ip 2 1 3 (p,-1),gj 2 3,iA 2 (P,1)] [hI,cH 2 3] 4 aO,gf [[ad,ep 1 3]] (hY (aP 3) he (gh 7 130 2)) [⟨2,7,130⟩,cH 1 3] 4,gf [[ad,kk]] [aO,he,.ce (aP 130)] c7 3,g2 (aP 4) cg [[ad,eO [(p,1),(al,1)]]] [ea al,c8 (P,1) (p,-1) (al,-1)] c7 3 aO,g2 (aP 5) (cj 5) [[ad,eO [(p,1),bj 5 2]]] [c8 (P,1) (p,-1) (aN 5 2),cF 5,iv (-4) (p,1) (bj 5 2)] (ay 5 2) 3 aO,g2 (aP 2) (cj 4) [[ad,iq 1 [(p,1)]]] [dI p (P,1),cF 4] (ay 4 2) 3 aO] 276 P,bN [aH,aA,fs] [f2 3,fY 3] [ak,ag,aV] 358 3,bY [aQ] dN 399 (cU af [p] 2),r392,cc (bb [(5,U),(11,i)] 10 11 11 11 10 11) [fy aH aA 2 3 a7,bl] [f0 ai [bu,iO,fD 7,i5 8 a7] [a3,e2,fr,c1] 9,dn r [j,g,l,l] 5] [ak,ag,e1,dC,aG] 180 5,bf [aC,aa] [eB] [gf [[cp]] [] [aV] 3] [ak,p] 281 2,bf [aC,fy aa a9 3 4 a7] [eB] [cy (bF dD) [[bo]] [dS ah dD] [dD,bd] 7] [ak,p,ah,dC,ie] 166 5,bf [aC,fy aa a9 3 4 a7,gq] [eB] [cx iO [eC] [e2,di] 8] [ak,p,ah,dC,ie,dD] 164 6,bp [aH,aA,eX 2,i9 3 a7] [ak,ag,e1,dC] 282 4 (cU (bG 2147483648 4) [ie] 5),bf [aC,fy aa a9 3 4 a7,gq,gW,jM] [eB] [iZ [[be]] [j,g,l,l] [] [d2] 9,iZ [[j]] [bo,gZ,fD 9,i5 10 a7] [] [c1,ia,aE 10] 11] [ak,p,ah,dC,ie,dD,bd,di] 165 8,gB [[eB]] [(0,[fh [(0,[i])] [hb 9,(21,i)] [ax 21 21] 20 9,fh [(0,[i])] [(9,ct cK 351 3),(21,i)] [ac 21 9,bJ 10 3 9] 20 9])] [aC,fy aa a9 3 4 a7,gq,I] [cx (ez cK 6) [eC] [e2,di] 8] [ak,p,ah,dC,ie,dD] 167 6,bf [aC,fy aa a9 3 4 a7] [eB] [iZ [[ju]] [aL 5,iO,ig,gZ,ez cK 9,ez cK 10] [] [e4,e2,fr,c1,ia,aE 10,jv] 12] [ak,p,ah,dC,ie] 168 5,e6 [(2,[dZ [(5,[C,eG t,.td bn,.nils]),(4,[i])] [gi 5 5,aR 5 5,aX 40 40,ax 40 40] 40 39 40,dZ [(5,[C,.nils,.td bn,.nils]),(4,[i])] [ch 40 5 1,aR 5 5,bJ 5 3 40] 40 39 40,dZ [(5,[C,.nils,.td bn,ct [t,t,t,t,bn,bn] 160 6]),(4,[i])] [ch 40 5 3,aR 5 5,ac 39 40] 40 39 40,dZ [(5,[C,eG t,.td bn,ct [t,t,t,t,bn,bn] 160 6]),(4,[i])] [ch 40 5 3,gi 5 5,aR 5 5,ac 38 40] 40 39 40]),(0,[dZ [(5,j2 C .nils),(4,[i])] [aR 5 5,bJ 5 3 21,ax 21 21] 21 20 21,dZ [(5,j2 C (eG t)),(4,[i])] [ch 21 5 1,ch 20 5 1,aR 5 5,bJ 5 1 21] 21 20 21])] [aH,aA,eX 2,i9 3 a7] [dn (aP 160) [g,l,l,l] 4,f0 (aD 4) [g,l,l,l] [fl] 5,ck [aL 4,fD 5,ez cK 6,ez [t,t,t,t,bn,bn] 7] [e3,e4,e2,fr] 8] [ak,ag,e1,dC] 83 4,bz (bb [cX,(11,i)] 10 11 11 11 10 11) (e8 [(5,ct [t,t,t,t,.sl true 1048576 (.agg cK),.sl true 1048576 (.agg cK)] 160 6),(11,i)] 10 11 11 5 10 11) [bP ae (eX 1) (bh cK 2) (bh [t,t,t,t,bn,bn] 3),bl] [d3 (hA (fQ 0 5) [t,t,t,t,bn,bn]) (g8 (bj 2147483648 3) (kv 5)) [cm 5] 6] [J,cm 1,e1,dC,aG] 85 5,d9c,d9o,eY 89 (de b2 ai [aZ] 2) (fG ar 1),bz (bb [(2,cB),(3,U),(4,cB),(5,U),(12,i)] 11 12 12 12 11 12) (bb [(2,cB),(3,U),(4,cB),(5,fg),(12,i)] 11 12 12 12 11 12) [bh [t,t] 0] [de b2 r [aZ] 2,de b2 ai [aZ] 2] [c0] 88 1,cf [eE 0,d5] [dt 0,aZ] 90 2 (cU (gG 2) [h2] 3),df bR cQ 344 bm ca,bD [[ad,af]] [(0,[fw [(0,[C,i])] [(2,C),(3,U)] [dH 0 0,dG 0 0,eM,ec] 0 0])] cN [aI,bA] [bx g r [ad,kk] [fZ (-1) p (al,1),ff al] c7 3,bx hL ai [ad,ep 1 3] [c8 (p,-1) (aN 1048575 2) (cH 1 3,1),gj 1 3] [hI,cH 1 3] 4] [P,p] 263 2,df (iX 0 .i32 [(⟨0,-2147483648,2147483647⟩,1)]) (j6 (-2147483648) 0) 349 ca bm,cE [hl,(7,i)] [bh [t,t] 0] [cU (fD 1) [aT] 2] [c0] 265 1 6 7 7 6 7,fP [(0,[b1 [(4,C),(5,U),(12,i)] 11 12 12 11 12]),(2,[b1 [(4,C),(5,U),(19,i)] 18 19 19 18 19])] [bh [t,jq,it [t,t]] 0,cO] [de cg ai c7 3,fG g 2] [c0,ao] 74 2,cE [(4,U),(13,i)] [bh [aj,t,t,aj] 0,bh [aj,t,t,aj] 1] [dB,hz ai [g8 (bj 2147483648 0) (kv 1),kx 2147483648 1 (kv 0)] [] 2] [c0,cm 1] 14 2 12 13 13 12 13,bs,bs,bs,bs,bs,bs,bs,bs,bs,bs,bs,bs,bs,bs,bs,bs,bs,bs,bs,bs,bs,bs,bs,bs,bs,gB [[il 0]] [(0,[dZ [(5,[jj,.nils]),(1,[jh])] [aX 10 10,cu 10] 10 9 10,dZ [(5,[.self,c3]),(1,[jh])] [ac 9 10,i2 147457 10 5 1] 10 9 10])] [eS 16385 1,kC cN 343] [cx (cj 2416082945) [il 3] [an 2416082945,cs 110] 4] [ey 110,aS 16385] 289 2,bN [fx 0,aa,i7 4096 2,gg,gg,gK,gK] [aU 1 110 1 110 [g,g] 4 3 3,ck [au 3 3,au 4088 4] [cs 3,ab 4088 4] 5] [cb 0,p,iN] 254 3,bN [aQ,cO] [aU 1 110 1 110 [g,g] 3 2 2,ck [cj 3,au 4088 3] [an 3,cs 4088] 4] [aw,ao] 138 2,r442,bD [[ad,af]] [(0,[fw [(0,[C,i])] [] [dH 0 0,dG 0 0,eM,ec] 0 0])] [aC,gy 262] [aI,bA] [cy cg [[ad,eO [(p,1),(al,1)]]] [c8 (P,1) (p,-1) (al,-1)] c7 3] [P,p] 261 2,ed [[ad,af]] cN [aI,bA] [fO [[ad,kk]] [fZ (-1) p (al,1),ff al] [] c7 3] 146 P,kt [bR] [em [] [(6,[C,C,.nils]),(12,[C,i])] [(3,i),(7,U),(8,U)] [],em [] [(6,[C,C,.nils]),(12,[C,i])] [(3,i),(7,U),(8,fg)] [],ek 2 [ht 12,bt 6 2] [(6,[C,C,.nils]),(12,[C,i])] [(3,i),(7,fg),(8,fg)] [gi 12 12,dG 12 12,bX 12 12,gi 6 6,aR 6 6,bX 6 6,fC (d6 12 0) (bt 12 0) 6 2 6 2],em [] [(6,[C,C,ct [t,t] 61 2]),(12,[C,i])] [(3,i),(7,U),(8,hK)] [],ek 2 [ht 12,bt 6 2] [(6,[C,C,ct [kF,t] 61 2]),(12,[C,i])] [(3,i),(7,hK),(8,hK)] [dH 12 12,er 12 1 6 2,er 12 1 6 1,kA (d6 6 0) (d6 12 0) (bt 6 0) 12 0,aR 6 6,bX 6 6]] [dn (aP 200) [g,g,l] 1,ck [jS,cg,ez [kF,t] 3] [aT,al,bc] 4] cQ 80 1,bD [[ad,af]] [(0,[fw [(0,[C,i])] [] [dH 0 0,dG 0 0,eM,ec] 0 0])] [aC,gy 275] [aI,bA] [cy cg [[ad,eO [(p,1),(al,1)]]] [c8 (P,1) (p,-1) (al,-1)] c7 3] [P,p] 274 2,r447,d8W,bN [gR,aa,ho,hn,fu,I,I,fp,gW,iP,eg 8,bh ba 9] [f0 jt [g,l,l,l] [hh] 11,ck [aL 10,fD 11,ez cK 12,ez [t,t,t,t,bn,bn] 13] [aE 10,aE 11,aE 12,aE 13] 14] [gS,p,hq,hp,fv,a3,bd,h7,b8 8,cm 9] 37 10,cE [(4,i),(8,i)] [eX 0,gy 344] [cU (j5 (-1) 1) (j6 (-1) 1) 2] [c0] 84 1 7 8 8 7 8,ha [eX 0,gy 344] [c0] 40 ca bm,bz (fw [(5,[C,i])] [hl,(3,U),h3] [dH 5 5,cS [lk 5 1],aR 5 5] 5 5) (fw [(5,[C,i])] [hl,(3,U),(4,ct [t,t] 61 2)] [dH 5 5,aR 5 5,bJ 5 1 4] 5 5) [bR] [fG l 1,de (ez [t,t] 1) ai [aT] 2] cQ 87 1,bp [aH,aa,fa] [ak,p,ew] 42 3 (gv 86400 [o,eZ 0 3] 4 3),bp [aH,aa,fa] [ak,p,ew] 42 3 (gv 86400 [o,eZ 0 3] 4 3),df bR cQ 256 bm ca,kt [bR,gP] [ek 1 (en 8) [(7,[jj,.nils])] [(8,C),(9,fg),(4,C),(5,i)] [aX 8 8],ek 1 (en 8) [(7,[.self,.nils])] [(8,C),(9,fg),(4,C),(5,i)] [fC (eU 4096 8) (bE (-4096) 8) 7 1 7 1],ek 1 (en 8) [(7,[.self,c3])] [(8,C),(9,fg),(4,C),(5,i)] [fC (eU 4096 8) (bE (-4096) 8) 7 1 7 1],em [] [(7,[.self,c3])] [(8,C),(9,U),(4,C),(5,i)] [hd (bt 7 1) 4096],em [] [(7,[.self,.nils])] [(8,C),(9,U),(4,C),(5,i)] []] [jY g 5 230 [fd 230 2] 3 2,c9 (aJ 2) 3 iN] [P,aT] 143 2,cc (f3 (ch 15 4 1) (ac 14 15) [(5,i),(15,i)] 14 15) [bP bR (hy (iu 1) t) (ds lg cK) (ds (iu 3) [t,t,t,t,bn,bn]),bP h8 (da e4) (da e2) jM] [aU 230 271 230 271 [g,j,g,g,g,r,r] 9 8 8,dT [b9 8,ic,kg,ki,iG,o,o] [ea bc] [cb 8,gs,kh,kj,iH] 13] [P,aT,al,bc,fl,e4,e2,di] 69 8,ed [[ad,af]] cN [aI,bA] [hB ai [[ad,ep 1 4]] [cg,aL 3] [c8 (p,-1) (al,-1) (cH 1 4,1),gj 1 4] [al,bc,cH 1 4] 5,hB r [[ad,cP e3]] [hL,aL 3] [c8 (p,-1) (aN 1048575 2) (e3,1),ff e3] [hI,bc,e3] 5] 264 P,bD [[ad,af]] [(0,[ek 1 [ht 0,bt 6 2] [(6,[C,.nils,.nils]),(0,[C,i])] [(5,fg)] [gi 0 0,dG 0 0,eM,ec,er 0 1 6 0,aR 6 6,bX 6 6],em [] [(6,[C,.nils,.nils]),(0,[C,i])] [(5,U)] [gi 0 0,dG 0 0,eM,ec,er 6 2 6 0],ek 1 [ht 0,bt 6 2] [(6,[C,.nils,ct [hG,t] 61 2]),(0,[C,i])] [(5,fg)] [dH 0 0,dG 0 0,eM,ec,er 0 1 6 2,aR 6 6],em [] [(6,[C,.nils,ct [hG,t] 61 2]),(0,[C,i])] [(5,U)] [dH 0 0,eM,ec,er 0 1 6 2,aR 6 6]])] cN [aI,bA] [hB ai [[ad,cP e4]] [hL,fD 3,ez [hG,t] 4] [c8 (p,-1) (aN 1048575 2) (e4,1),ff e4] [hI,bc,e3,e4] 6,hB r [[ad,cP e4]] [hL,fD 3,ez [hG,t] 4] [] [hI,bc,e3,e4] 6] [P,p] 149 2,bz (fw [(5,[C,i])] [hl,(3,i),h3] [dH 5 5,cS [lk 5 1],aR 5 5] 5 5) (fw [(5,[C,i])] [hl,(3,i),(4,ct [hG,jq,it [hG,t]] 235 3)] [dH 5 5,aR 5 5,bJ 5 1 4] 5 5) [bR] [cv l 6 161 6 161 2 1 1,c9 (ez [hG,jq,it [hG,t]] 1) 2 aT] cQ 73 1,r461,d8J,bN [aH,cO,dV,d1] [fq,gr] [ak,ao,a1,bB] 30 4,b0 (bP aH cO dV d1) fm [ak,ao,a1,bB,e0] 141 5 (dn ft [g,j,g,g,g,r,r] 5) (ck [jk,bv,bF e0,g,g,r,r] [] 5),bN [aH,jJ,fX 2,d1] [i4 5 8 [g,j,g,g,g,r,r] [fd 8 4] 5 4,ck [eV 2,bv,au 22 4,aJ 5,g,ai,r] [ab 22 4,jA] 6] [ak,jK,du 2,bB] 66 4,b0 aQ cO [aw,ao] 39 2 dB gk,bf [fm,aC] [eB,jS,cg,bv] [eb r [eB,jS,cg,bv] 5,eb ai [eB,jS,cg,bv] 5] [ak,aT,al,bB,e0] 38 5,gB [[eB,jS,cg,bv]] [(0,[b1 [(4,i),(8,i)] 7 8 8 7 8])] [eX 4,.fn 38 [] cN] [cx (j5 (-1) 5) [bo,ig,gZ,ic] [⟨5,-1,2147483647⟩,bd,fr,c1,gs] 10] [ak,aT,al,bB,ie] 84 5,bf [eX 4,.fn 38 [] cN] [eB,jS,cg,bv] [cx ai [bu,iO,ig,be] [a3,e2,fr,d2] 9,cx r [bu,iO,ig,be] [a3,e2,fr,d2] 9] [ak,aT,al,bB,ie] 40 5,fP [(0,[e8 [hb 7,(16,i)] 15 16 16 7 15 16,dd [(7,ct (jV 1 4 cq cA aj) 29 4),(16,i)] [ac 15 16,ax 16 16,ac 1 7] 15 16]),(2,[dd [(7,ct (jV 1 4 cq cA aj) 29 4),(22,i)] [ac 21 22,cu 22,ac 1 7] 21 22,bb [hb 7,(22,i)] 21 22 22 22 21 22])] [bP aH aA a9 d1,jT 64 [],dR 64 4 (fM 4294967296 t)] [cV (e7 1 4 5 cq cA aj) 64 6 5] [ak,ag,ah,bB,bw 4] 86 5,bz (dd [cX,(11,i)] [ac 11 5] 10 5) (e8 [(5,eG t),(11,i)] 11 5 10 5 10 5) [bP bR (hy (iu 1) t) (ds lg cK) (ds (iu 3) [t,t,t,t,bn,bn]),bP h8 (da e4) (da e2) jM] [cV (e7 1 4 8 cq cA aj) 64 9 8] [P,aT,al,bc,fl,e4,e2,di] 41 8,bN [aH,cO,dV,d1] [dn ft [g,j,g,g,g,r,r] 4,ck [jk,bv,au 27 4,g,g,r,r] (ay 27 4) 5] [ak,ao,a1,bB] 68 4,bN [aH,cO,dV,d1] [dn ft [g,j,g,g,g,r,r] 4,ck [jk,bv,au 1 4,g,g,r,r] (ay 1 4) 5] [ak,ao,a1,bB] 71 4,bs,bs,fR (dh (bP (bO 10) (cl 12573 11) (fx 12) (bO 13)) [gR,aa,ho,hn,fu,I,I,fp,gW,iP,eg 8,bh ba 9]) [aU 160 270 160 270 [j,g,g,j,l,j,r,ar,l] 15 14 14,gD iK [j,g,g,j,l,j,r,ar,l] [ee (-200) bd,eH 200 bd] [hV] 15,dT [iK,aL 15,aL 16,aD 17,e7 1 4 18 cq cA aj,j,o,eZ 0 19,l] [ee (-200) bd,eH 200 bd] [hV,aE 15,aE 16,aB 17,bw 18,gd 19] 20] [gS,p,hq,hp,fv,a3,bd,h7,b8 8,cm 9,hh,ab 12573 11,cb 12,iI] 13 14,fR (dh (bP (bO 10) (da (aE 11)) (da (aE 12)) (bO 13)) [gR,aa,ho,hn,fu,I,I,fp,gW,iP,da c1,ds (iu 9) ba]) [aU 160 270 160 270 [j,g,g,j,l,j,r,ar,l] 15 14 14,gD iK [j,g,g,j,l,j,r,ar,l] [ee (-200) bd,eH 200 bd] [hV] 15,dT [iK,aL 15,aL 16,aD 17,e7 1 4 18 cq cA aj,j,o,eZ 0 19,l] [ee (-200) bd,eH 200 bd] [hV,aE 15,aE 16,aB 17,bw 18,gd 19] 20] [gS,p,hq,hp,fv,a3,bd,h7,c1,ia,hh,aE 11,aE 12,iI] 13 14,bg [f9,b2,cp,f5,f4,bu,l] [dw (aK 5 8 6) [[f9,b2,cp,f5,f4,bu,l]] [j,g,g,j,l,j,r,ar,l] [] [fd 8 6] 7 bQ,e9 bo 6 [j,g,g,j,l,j,r,ar,l] (bZ 6 7) [bd,eF 6] 8 7 bQ,e9 je 6 [j,g,g,j,l,j,r,ar,l] (bZ 6 6) (ay 6 6) 7 6 gO,f6 (hW 6 12) [bo,ig,gZ,ic,e7 1 4 10 cq cA aj,j,o,eZ 0 11,l] (bZ 6 12) [bd,fr,c1,gs,bw 10,gd 11,ab 6 12] 13 aO bQ] [P,aZ,aV,f8,gu,a3] 31 6,bg (jd 40 6) [e9 (aK 5 270 7) 46 [j,g,g,j,l,j,r,ar,l] [b3 6 40 46 6 8,dA 40 46 6 8] [fd 270 7,hr 46] 9 8 bQ,e9 eC 46 [j,g,g,j,l,j,r,ar,l] [b3 6 40 46 6 8,dA 40 46 6 8] [di,hr 46] 9 8 bQ,e9 je 46 [j,g,g,j,l,j,r,ar,l] [b3 6 40 46 6 7,dA 40 46 6 7] (ay 46 7) 8 7 gO,f6 (hW 46 13) [eC,gZ,aL 9,jt,e7 1 4 11 cq cA aj,j,o,eZ 0 12,l] [b3 6 40 46 6 13,dA 40 46 6 13] [di,c1,ia,hh,bw 11,gd 12,ab 46 13] 14 aO bQ] [P,aZ,aV,f8,gu,a3,dr 40] 31 7,bf [aC,dM iR jM (bL 8) gX js] [f9,b2,cp,f5,f4,bu,l] [hB ft [[f9,b2,cp,f5,f4,bu,l]] [j,g,g,j,l,j,r,ar,l] [] [] 11,g3 ju 6 [j,g,g,j,l,j,r,ar,l] [] [jv,ab 6 12] 13 12,g3 j 6 [ju,aL 12,aL 13,iK,e7 1 4 15 cq cA aj,j,o,eZ 0 16,l] [] [jv,aE 12,aE 13,hV,bw 15,gd 16,ab 6 17] 18 17] [P,aZ,aV,f8,gu,a3,iS,di,aF 8,gY,hg] 70 11,bf [aC,dM (bL 7) iQ gX js jr] (jd 60 6) [g3 (aK 8 270 12) 66 [j,g,g,j,l,j,r,ar,l] [b3 6 60 66 6 13,dA 60 66 6 13] [⟨12,8,270⟩,ab 66 13] 14 13,g3 cd 66 [j,g,g,j,l,j,r,ar,l] [b3 6 60 66 6 13,dA 60 66 6 13] [hT,ab 66 13] 14 13,g3 j 66 [cd,aL 13,aL 14,aD 15,e7 1 4 16 cq cA aj,j,o,eZ 0 17,l] [b3 6 60 66 6 18,dA 60 66 6 18] [hT,aE 13,aE 14,aB 15,bw 16,gd 17,ab 66 18] 19 18] [P,aZ,aV,f8,gu,a3,dr 60,aF 7,d2,gY,hg,iJ] 70 12,bg [f9,b2,cp,f5,f4,bu,l] [dw ft [[f9,b2,cp,f5,f4,bu,l]] [j,g,g,j,l,j,r,ar,l] [] [] 6 bQ,e9 bo 12 [j,g,g,j,l,j,r,ar,l] (bZ 12 7) [bd,eF 12] 8 7 bQ,f6 (hW 12 12) [bo,ig,gZ,ic,e7 1 4 10 cq cA aj,j,o,eZ 0 11,l] (bZ 12 12) [bd,fr,c1,gs,bw 10,gd 11,ab 12 12] 13 aO bQ,e9 je 6 [j,g,g,j,l,j,r,ar,l] (bZ 6 6) (ay 6 6) 7 6 gO] [P,aZ,aV,f8,gu,a3] 32 6,bg (jd 40 6) [e9 (aK 8 271 7) 52 [j,g,g,j,l,j,r,ar,l] [b3 12 40 52 6 8,dA 40 52 6 8] [⟨7,8,271⟩,hr 52] 9 8 bQ,e9 eC 52 [j,g,g,j,l,j,r,ar,l] [b3 12 40 52 6 8,a8 52 8] [di,hr 52] 9 8 bQ,f6 (hW 52 13) [eC,gZ,aL 9,jt,e7 1 4 11 cq cA aj,j,o,eZ 0 12,l] [b3 12 40 52 6 13,a8 52 13] [di,c1,ia,hh,bw 11,gd 12,ab 52 13] 14 aO bQ,e9 je 46 [j,g,g,j,l,j,r,ar,l] [b3 6 40 46 6 7,a8 46 7] (ay 46 7) 8 7 gO] [P,aZ,aV,f8,gu,a3,dr 40] 32 7,bg [f9,b2,cp,f5,f4,bu,l] [dw ft [[f9,b2,cp,f5,f4,bu,l]] [j,g,g,j,l,j,r,ar,l] [] [] 6 bQ,e9 bo 12 [j,g,g,j,l,j,r,ar,l] (bZ 12 7) [bd,eF 12] 8 7 bQ,f6 (hW 12 12) [bo,ig,gZ,ic,e7 1 4 10 cq cA aj,j,o,eZ 0 11,l] (bZ 12 12) [bd,fr,c1,gs,bw 10,gd 11,ab 12 12] 13 aO bQ] [P,aZ,aV,f8,gu,a3] 33 6,bg (jd 40 6) [e9 (aK 8 270 7) 52 [j,g,g,j,l,j,r,ar,l] [b3 12 40 52 6 8,dA 40 52 6 8] [⟨7,8,270⟩,hr 52] 9 8 bQ,e9 eC 52 [j,g,g,j,l,j,r,ar,l] [b3 12 40 52 6 8,a8 52 8] [di,hr 52] 9 8 bQ,f6 (hW 52 13) [eC,gZ,aL 9,jt,e7 1 4 11 cq cA aj,j,o,eZ 0 12,l] [b3 12 40 52 6 13,a8 52 13] [di,c1,ia,hh,bw 11,gd 12,ab 52 13] 14 aO bQ] [P,aZ,aV,f8,gu,a3,dr 40] 33 7,fR [ds jW [a5,aj,a5,a5,aj,db,db],d5,bP fs (cl 12573 3) (fx 4) fp] [i4 5 8 [j,g,g,j,l,j,r,ar,l] [fd 8 6] 7 6,gD eC [j,g,g,j,l,j,r,ar,a0 24 ba 6] (bZ 24 6) [dr 24,di] 8,dT [bo,ig,gZ,ic,e7 1 4 10 cq cA aj,aK 1 3 11,o,eZ 0 12,a0 24 ba 13] (bZ 24 13) [bd,fr,c1,gs,bw 10,⟨11,1,3⟩,gd 12,ab 24 13] 14] [P,aZ,aV,f8,gu,a3] 11 6,b0 (dR 9223372036854775807 0 fU) d5 [ey 9223372036854775807,aZ] 3 2 dB gk,b0 (i9 0 fU) d5 [c0,aZ] 3 2 dB gk]
def aI:List (FuncId × List (Nat × List Ann)):=[(206,[(0,[fh [(4,[gM,i,jc,jc,jc,hK,hK]),(0,[hS])] [hb 7,(8,i)] [ac 7 8,ac 2 8,aX 8 8,ax 8 8,e5 302 8,e5 5 8,e5 2 8,e5 1 8,e5 20 8,⟨1,en 8⟩,cu 8,ac 8 7,ac 2 7,aX 7 7,ax 7 7] 2 7,fh [(4,[gM,jh,gM,gM,gM,U,U]),(0,[hS])] [(7,kK 63 7 (.agg [iB,ib,hJ,.str 49471,ib,c6,c6])),(8,i)] [bJ 7 0 7,ac 7 8,ac 2 8,ax 8 8,e5 302 8,e5 20 8,⟨1,en 8⟩,cu 8,ac 8 7,ac 2 7,ax 7 7,⟨1,[cI 8,eh 7]⟩,i2 42 8 4 2,⟨42,[bE 42 8,bt 4 2]⟩,i2 64 8 4 0,⟨64,[bE 64 8,bt 4 0]⟩] 2 7])])]
end
end
section
open Go.PV
open Go.Proofs
def inlS(k:Nat):Bool:=[26,158,28,206,163,277,278,279,280,357,359,360].contains k
def prL:List Nat:=[27,29,48,93,94,100,132,145,170,226,247,259,266,286,288,345,348,397,398,409,411]
noncomputable def rk(lo n:Nat):Bool:=(List.range n).all λ d=>b7y Tryz.prog prL inlS aI rows (lo+d)
end
end Go.SN
namespace Go.PV
section
open Go.RowKit
variable {P:Program} {base:Nat} {f n:List Nat} {p w d:World} {M m:Mem} {μ q:Pl} {g:G}
theorem Inv.below(hI:Inv base n p M μ g w)(hb:Below w.heap.size w d):Inv base n p M μ g d:=
 hI.grow (row:=none) ⟨hb.os,hb.tape,hb.output,hb.size,λ k hk _=>hb.block k hk⟩ (Pl.le_refl _) (λ b hb=>by cases hb) (λ id x hx=> .inl ⟨hx,λ _ _ _=>by simp⟩)
variable {v:V} {u:Value}
theorem b9w(hv:∀s,a1R s v=(v,s))(hr:∀a,RepV M a v u):Imp M μ g w [] (λ s=>a1R s v) u:=by
 intro h nx;refine⟨[],rfl,?_,λ a _=> ?_⟩;all_goals grind[Bring.nil]
theorem a5Q(hv:∀s,a1R s v=(v,s))(hI:Inv base f p m μ g d)(hM:M.le m)(hn:NewMem base f M m)(hr:Rep m v u):d6f base f p M μ 0 v [] u d:=
 ⟨m,μ,g,[],[],[],hM,hn,Pl.le_refl _,hI,b9w hv λ _=> .rep (hr.mono a8H),rfl,rfl,λ j l os hj=>by omega,by simp,rfl⟩
theorem b8d:∀{us0 us:List Value},ListRep M μ (us0.map .lit) us->us=us0
 |[],us,h=>ay7.1 (by simpa using h.1.symm)
 |x::l,[],h=>by simpa using h.1
 |x::l,u::us,h=>by
  have h1:=h.2 0 (.lit x) u rfl rfl;have h2:u=x:=by
   cases h1 with
   |rep h=>cases h;rfl
  rw[h2,b8d (us0:=l) (us:=us) ⟨by simpa using h.1,λ j c u hc hu=>h.2 (j+1) c u (by grind) (by grind)⟩]
variable {us0:List Value} {k:Nat}
theorem a2b(a:b6L P k=true)(hv:∀s,a1R s v=(v,s))(hr:Rep (λ _ _=>none) v u)
  (hc:∀w:World,GlW w->Go.Calls P k us0.toArray w λ e d=>e= .returned u/\Below w.heap.size w d):a2R P k (us0.map .lit) [] v []:=by
 refine⟨a,λ {w M μ us f} hI hn ha=> ?_⟩;have e:=b8d ha;have e:us=us0.toArray:=by rw[<-e]
 subst e;refine(hc w hI.glw).mono λ e d he=> ?_;obtain⟨rfl,hb⟩:=he;exact a5Q hv (hI.below hb) (Mem.le_refl _) NewMem.refl (hr.mono λ _ _ _ h=>by cases h)
variable {xs:List Value}
theorem b8t{us0:Array Value}{vs:List V}(hok:b6L P k=true)(hx:∀x∈xs,sc x=true)(hvs:∀(M:Mem)(μ:Pl)(us:Array Value),ListRep M μ vs us.toList->us=us0)
  (hc:∀w:World,GlW w->Go.Calls P k us0 w λ e d=>∃A c,e= .returned (.slice (some ⟨A,0,none⟩) xs.length c)/\xs.length<=c/\w.heap.size<=A/\(∀(i:Nat) x,xs[i]?=some x->d.cell? ⟨A,i,none⟩=some x)/\Below w.heap.size w d):
  a2R P k vs [] (.sl none (xs.map .lit)) []:=by
 refine⟨hok,λ {w M μ us f} hI hn ha=> ?_⟩;have e:=hvs M μ us ha;subst e;refine(hc w hI.glw).mono λ e d he=> ?_;obtain⟨A,c,rfl,hc,hA,hcell,hb⟩:=he;have hI1:=hI.below hb;have hM0:∀o,M A o=none:=λ o=>by
  cases hm:M A o with
  |none=>rfl
  |some u=>exact absurd (b7U (hI.mem _ _ _ hm)) (aq9.2 hA)
 let m:Mem:=λ b o=>if b=A then xs[o]? else M b o
 have hle:M.le m:=λ b o u h=>by
  grind
 have hnew:∀b o u,m b o=some u->M b o=some u\/b=A:=λ b o u h=>by
  grind
 have hnb:∀id x b cap,a0b (a0w 0 ([],([]:List (List V)).length) []).1 id=some x->μ id=some (b,cap)->b≠A:=λ id x b cap hx hm e=>by
  have:=(hI.at_ hx hm).1.lt;omega
 have hI2:Inv w.heap.size f w m μ (a0b (a0w 0 ([],([]:List (List V)).length) []).1) d:=by
  refine⟨λ b o u h=> ?_,λ id x hx=> ?_,hI1.inj,λ id x b cap o u hx hm h=> ?_,hI1.os,hI1.tape,hI1.output,hI1.size,hI1.frame,hI1.gl⟩
  .replace h:(if b=A then xs[o]? else M b o)=some u:=h;split at h
   .grind
   .exact hI1.mem b o u h
  .obtain⟨b,cap,h1,h2,h3⟩:=hI1.box id x hx;exact⟨b,cap,h1,h2.mono hle (Pl.le_refl _),h3⟩
  .rcases hnew b o u h with h|h
   .exact hI1.sep id x b cap o u hx hm h
   grind
 refine a5Q (λ s=>rfl) hI2 hle (λ b o u h=>(hnew b o u h).imp_right λ e=> .inl (by grind)) ?_;have hone:∀x∈xs,V.cells (.lit x)=[.lit x]/\V.fit (.lit x)=true:=λ x hx'=>by
  have:=hx x hx';cases x<;>first|exact⟨rfl,rfl⟩|(simp[sc]at this)
 have hlen:xs.length=(xs.map V.lit).length:=by simp
 rw[hlen];refine Rep.sl (sz:=1) (λ i j=>(xs[i]?).getD undef) (by grind) rfl (λ x hx'=> ?_) (λ i x j c' hi hj=> ?_) (λ i x j c' hi hj=> ?_)
 .grind
 .grind
 .rw[au3]at hi;obtain⟨y,hy,rfl⟩:=az2.1 hi;have hm:=ax4 hy;rw[(hone y hm).1]at hj;have:j=0:=by
   cases j with
   |zero=>rfl
   |succ j=>simp at hj
  subst this;simp at hj;subst hj;rw[hy];exact .lit (hx y hm)
theorem d1y(a:b6L P k=true)(hx:∀x∈xs,sc x=true)
  (hc:∀w:World,GlW w->Go.Calls P k us0.toArray w λ e d=>∃A c,e= .returned (.slice (some ⟨A,0,none⟩) xs.length c)/\xs.length<=c/\w.heap.size<=A/\(∀(i:Nat) x,xs[i]?=some x->d.cell? ⟨A,i,none⟩=some x)/\Below w.heap.size w d):
  a2R P k (us0.map .lit) [] (.sl none (xs.map .lit)) []:=b8t a hx (λ M μ us ha=>by grind[b8d]) hc
end
end Go.PV
namespace Go.Proofs
section
open Go.Shelf
def shR:Go.Shelf.Ren:=⟨fun|99=>340|100=>174|101=>341|103=>171|119=>392|120=>431|137=>247|138=>400|143=>226|144=>251|145=>27|146=>288|149=>342|150=>245|151=>427|152=>350|153=>266|154=>364|155=>286|156=>145|161=>397|162=>398|165=>260|166=>257|169=>259|170=>258|195=>419|197=>401|206=>363|207=>287|208=>388|210=>285|217=>238|218=>420|219=>132|220=>61|221=>365|222=>389|224=>240|225=>239|226=>351|227=>352|228=>353|229=>348|231=>413|232=>416|233=>414|234=>417|235=>415|236=>418|240=>345|241=>346|260=>421|266=>332|267=>241|268=>402|271=>428|276=>390|277=>391|314=>333|362=>448|n=>n,fun|0=>0|1=>1|2=>2|3=>3|4=>4|5=>5|7=>7|8=>8|9=>9|10=>10|11=>11|12=>12|13=>13|14=>14|15=>15|16=>16|17=>17|18=>18|20=>20|21=>21|22=>106|23=>226|24=>135|25=>269|26=>114|27=>183|28=>291|31=>68|37=>22|40=>391|41=>233|46=>315|51=>383|53=>23|55=>314|59=>79|60=>80|61=>354|63=>441|64=>392|65=>406|66=>353|67=>229|68=>415|69=>84|70=>322|71=>323|72=>324|73=>330|74=>325|75=>326|76=>327|77=>328|80=>308|81=>329|83=>115|102=>370|103=>424|104=>107|105=>425|106=>426|111=>144|113=>407|114=>126|115=>393|116=>394|117=>395|118=>396|119=>442|120=>390|122=>436|123=>437|124=>423|127=>389|131=>432|137=>443|138=>444|139=>445|146=>384|150=>427|151=>385|152=>420|153=>421|154=>422|164=>417|165=>418|166=>419|214=>410|238=>446|239=>447|240=>448|241=>449|242=>450|245=>453|248=>456|n=>n,fun|1=>0|3=>2|4=>3|n=>n⟩
theorem d7N:Lays.n143 Tryz.prog shR:=by constructor<;>first|(intro _;kernel_rfl)|kernel_rfl
theorem d7Z:Lays.n219 Tryz.prog shR:=by constructor<;>first|(intro _;kernel_rfl)|kernel_rfl
theorem d5H:Lays.n137 Tryz.prog shR:=by constructor<;>first|(intro _;kernel_rfl)|kernel_rfl
theorem d7g:Lays.n145 Tryz.prog shR:=by constructor<;>first|(intro _;kernel_rfl)|kernel_rfl
theorem d8I:Lays.n146 Tryz.prog shR:=by constructor<;>first|(intro _;kernel_rfl)|kernel_rfl
theorem d8n:Lays.n155 Tryz.prog shR:=by constructor<;>first|(intro _;kernel_rfl)|kernel_rfl
theorem d2Z:Lays.n156 Tryz.prog shR:=by constructor<;>first|(intro _;kernel_rfl)|kernel_rfl
theorem d1V:Lays.n153 Tryz.prog shR:=by constructor<;>first|(intro _;kernel_rfl)|kernel_rfl
theorem d8a:Lays.n161 Tryz.prog shR:=by constructor<;>first|(intro _;kernel_rfl)|kernel_rfl
theorem d8P:Lays.n162 Tryz.prog shR:=by constructor<;>first|(intro _;kernel_rfl)|kernel_rfl
theorem d8L:Lays.n229 Tryz.prog shR:=by constructor<;>first|(intro _;kernel_rfl)|kernel_rfl
theorem d5R:Lays.n240 Tryz.prog shR:=by constructor<;>first|(intro _;kernel_rfl)|kernel_rfl
theorem d2M:Lays.n169 Tryz.prog shR:=by constructor<;>first|(intro _;kernel_rfl)|kernel_rfl
theorem d2E:Builder.X72 Tryz.prog shR:=by constructor<;>first|(intro _;kernel_rfl)|kernel_rfl
theorem shX:Builder.Extra Tryz.prog shR:=by constructor<;>first|exact d2E|(intro _;kernel_rfl)|kernel_rfl|decide
end
end Go.Proofs
namespace Go.PV
section
open Go.RowKit Go.Proofs
abbrev a5o:=List V->List (List V)->Option (V×List (List V))
def vS(l:List UInt8):V:= .lit (.string ⟨l.toArray⟩)
def vI(i:Int):V:= .lit (.int .i64 i)
def shS:Nat:=4294967281
def shM:Nat:=140737488355328
def a7p:a5o:=λ a bs=>match a,bs with
 |[.lit (.string s),.lit (.string t)],[]=>if s.size<shS then some (vI (Lib.index s.data.toList t.data.toList),[])else none
 |_,_=>none
def a4H:a5o:=λ a bs=>match a,bs with
 |[.lit (.string s),.lit (.int .u8 c)],[]=>some (vI (Lib.indexByte s.data.toList c.toNat.toUInt8),[])
 |_,_=>none
def c6t:a5o:=λ a bs=>match a,bs with
 |[.lit (.string s),.lit (.string t)],[]=>if s.size<shS then
   some (.tup [vS (Lib.cut s.data.toList t.data.toList).1,vS (Lib.cut s.data.toList t.data.toList).2.1,.lit (.bool (Lib.cut s.data.toList t.data.toList).2.2)],[])else none
 |_,_=>none
def a2l:a5o:=λ a bs=>match a,bs with
 |[.lit (.string s),.lit (.string o),.lit (.string n)],[]=>if s.size<shS/\1<=o.size/\s.size+Lib.countB s o*n.size<=shM then
   some (vS (Lib.replaceAll s.data.toList o.data.toList n.data.toList),[])else none
 |_,_=>none
def a8V:a5o:=λ a bs=>match a,bs with
 |[.lit (.string s),.lit (.string t)],[]=>if s.size<shS/\1<=t.size then
   some (.sl none (((Lib.splitB t 0 (Lib.countB s t) s).map Value.string).map .lit),[])else none
 |_,_=>none
def a4E:a5o:=λ a bs=>match a,bs with
 |[.lit (.string s),.lit (.string ⟨⟨[c]⟩⟩)],[]=>if c.toNat<128/\s.size<=9223372036854775807 then some (vS (Lib.trimRightB s.data.toList c),[])else none
 |_,_=>none
variable {w:World}
theorem GlW.max(h:GlW w):∃m,w.cell? ⟨0,0,none⟩=some (.int .i64 m):=by
 obtain⟨⟨m,t,fr,h⟩,_⟩:=h;grind[World.cell?]
theorem a1J{M:Mem}{v:Value}(h:sc v=true):Rep M (.lit v) v:= .lit h
theorem a6c{a:World}(h:a=w):Below w.heap.size w a:=by grind[Below.refl]
variable {bs:List (List V)} {v:V}
theorem b5k{k:Nat}(b:b6L Tryz.prog k=true)
  (hc:∀(s sub:ByteArray) (m:Int) (w:World),s.size<4294967281->w.cell? ⟨0,0,none⟩=some (.int .i64 m)->
   Go.Calls Tryz.prog k #[.string s,.string sub] w λ e c=>e= .returned (.int .i64 (Lib.index s.data.toList sub.data.toList))/\c=w)
  {d:List V} {a:List (List V)} (h:a7p d bs=some (v,a)):a2R Tryz.prog k d bs v a:=by
 unfold a7p at h;split at h
 .next s t=>
  split at h
  .next hs=>
   simp only[az0,az8]at h;obtain⟨rfl,rfl⟩:=h;refine a2b (us0:=[.string s,.string t]) b (λ _=>rfl) (a1J rfl) λ w hw=> ?_;obtain⟨m,hm⟩:=hw.max;exact(hc s t m w hs hm).mono λ e c ⟨h1,h2⟩=>⟨h1,a6c h2⟩
  .cases h
 .cases h
variable {f:List (List V)} {g:List V}
theorem d7B(h:a7p g bs=some (v,f)):a2R Tryz.prog 226 g bs v f:=
 b5k (by decide+kernel) (λ s t m w hs hm=>Any.strings_Index d7N s t m w hs hm) h
theorem d7W(h:a7p g bs=some (v,f)):a2R Tryz.prog 132 g bs v f:=
 b5k (by decide+kernel) (λ s t m w hs hm=>Any.stringslite_Index d7Z s t m w hs hm) h
theorem d7s(h:a4H g bs=some (v,f)):a2R Tryz.prog 247 g bs v f:=by
 unfold a4H at h;split at h
 .next s c=>
  simp only[az0,az8]at h;obtain⟨rfl,rfl⟩:=h;refine a2b (us0:=[.string s,.int .u8 c]) (by decide+kernel) (λ _=>rfl) (a1J rfl) λ w hw=> ?_;exact(Any.strings_IndexByte d5H s c w).mono λ e w' ⟨h1,h2⟩=>⟨h1,a6c h2⟩
 .cases h
theorem d9D(h:c6t g bs=some (v,f)):a2R Tryz.prog 27 g bs v f:=by
 unfold c6t at h;split at h
 .next s t=>
  split at h
  .next hs=>
   simp only[az0,az8]at h;obtain⟨rfl,rfl⟩:=h;refine a2b (us0:=[.string s,.string t]) (u:= .tuple #[.string ⟨(Lib.cut s.data.toList t.data.toList).1.toArray⟩,.string ⟨(Lib.cut s.data.toList t.data.toList).2.1.toArray⟩,.bool (Lib.cut s.data.toList t.data.toList).2.2])
    (by decide+kernel) (λ _=>rfl) (.tup rfl λ j c u hc hu=> ?_) λ w hw=> ?_
   .match j,hc,hu with
    |0,hc,hu=>cases hc;cases hu;exact a1J rfl
    |1,hc,hu=>cases hc;cases hu;exact a1J rfl
    |2,hc,hu=>cases hc;cases hu;exact a1J rfl
    |j+3,hc,hu=>simp at hc
   .obtain⟨m,hm⟩:=hw.max;exact(Any.strings_Cut d7g s t m w hs hm).mono λ e w' ⟨h1,n,h2⟩=>⟨h1,by grind[below_drewN,Below.refl]⟩
  .cases h
 .cases h
theorem d8j(h:a2l g bs=some (v,f)):a2R Tryz.prog 286 g bs v f:=by
 unfold a2l at h;split at h
 .next s o n=>
  split at h
  .next hs=>
   simp only[az0,az8]at h;obtain⟨rfl,rfl⟩:=h;refine a2b (us0:=[.string s,.string o,.string n]) (by decide+kernel) (λ _=>rfl) (a1J rfl) λ w hw=> ?_;obtain⟨m,hm⟩:=hw.max;exact Any.strings_ReplaceAll d8n shX s o n m w hs.1 hm hs.2.1 hs.2.2
  .cases h
 .cases h
theorem d7S(h:a4E g bs=some (v,f)):a2R Tryz.prog 398 g bs v f:=by
 unfold a4E at h;split at h
 .next s c=>
  split at h
  .next hs=>
   simp only[az0,az8]at h;obtain⟨rfl,rfl⟩:=h;refine a2b (us0:=[.string s,.string ⟨⟨[c]⟩⟩]) (by decide+kernel) (λ _=>rfl) (a1J rfl) λ w hw=> ?_;exact(Any.strings_TrimRight_one d8P s c hs.1 w hs.2).mono λ e w' ⟨h1,h2⟩=>⟨h1,a6c h2⟩
  .cases h
 .cases h
theorem d6R(h:a8V g bs=some (v,f)):a2R Tryz.prog 288 g bs v f:=by
 unfold a8V at h;split at h
 .next s t=>
  split at h
  .next hs=>
   simp only[az0,az8]at h;obtain⟨rfl,rfl⟩:=h;refine d1y (us0:=[.string s,.string t]) (by decide+kernel) (λ x hx=> ?_) λ w hw=> ?_
   .obtain⟨y,_,rfl⟩:=ax5.1 hx;rfl
   .obtain⟨m,hm⟩:=hw.max;refine(Any.strings_Split d8I (by kernel_rfl) s t m w hs.1 hm hs.2).mono λ e w' ⟨h1,h2⟩=> ?_;have hl:((Lib.splitB t 0 (Lib.countB s t) s).map Value.string).length=Lib.countB s t+1:=by
     rw[ap3];exact Lib.splitB_all t hs.2 0 _ s rfl
    refine⟨w.heap.size,Lib.countB s t+1,by rw[h1,hl],by grind,ay3 _,λ i x hx=> ?_,by rw[h2];exact(Below.refl _ w).alloc (ay3 _) _⟩;simp_all
  .cases h
 .cases h
end
section
open Go.RowKit Go.Proofs
def b1q:List V->Option (List ByteArray)
 |[]=>some []
 | .lit (.string s)::r=>(b1q r).map (s:: ·)
 |_::_=>none
def c0G:a5o:=λ a bs=>match a,bs with
 |[.nils,.lit (.string _)],[]=>some (vS [],[])
 |[.sl _ xs,.lit (.string t)],[]=>match b1q xs with
  |some l=>if l.length<=shM/\(Lib.join (l.map (·.data.toList)) t.data.toList).length<=shM then some (vS (Lib.join (l.map (·.data.toList)) t.data.toList),[])else none
  |none=>none
 |_,_=>none
theorem b6J:∀{xs:List V} {l:List ByteArray},b1q xs=some l->xs=l.map λ s=> .lit (.string s)
 |[],l,h=>by grind[b1q]
 |x::r,l,h=>by
  unfold b1q at h;split at h
  .grind
  .next s a e=>
   cases e;obtain⟨l',h1,rfl⟩:=az2.1 h;rw[b6J h1];rfl
  .cases h
variable {M:Mem} {μ:Pl} {u:Value}
theorem RepV.lit_eq{v:Value}(h:RepV M μ (.lit v) u):u=v:=by
 cases h with
 |rep h=>cases h;rfl
variable {us:Array Value} {a:V}
theorem two{b:V}(h:ListRep M μ [a,b] us.toList):∃u v,us= #[u,v]/\RepV M μ a u/\RepV M μ b v:=by
 obtain⟨l⟩:=us
 match l,h with
 |[u,v],h=>exact⟨u,v,rfl,h.2 0 a u rfl rfl,h.2 1 b v rfl rfl⟩
 |[],h=>cases h.1
 |[_],h=>cases h.1
 |_::_::_::_,h=>have:=h.1;simp at this
theorem one'(h:ListRep M μ [a] us.toList):∃u,us= #[u]/\RepV M μ a u:=by
 obtain⟨l⟩:=us
 match l,h with
 |[u],h=>exact⟨u,rfl,h.2 0 a u rfl rfl⟩
 |[],h=>cases h.1
 |_::_::_,h=>have:=h.1;simp at this
theorem c8r{o:Option (Nat×Nat×Bool)}{l:List ByteArray}(h:Rep M (.sl o (l.map λ s=> .lit (.string s))) u):
  ∃b off cap,u= .slice (some ⟨b,off,none⟩) l.length cap/\l.length<=cap/\∀(j:Nat) x,l[j]?=some x->M b (off+j)=some (.string x):=by
 generalize hx:(l.map λ s=>V.lit (.string s))=xs at h;cases h with
 | @sl _ _ A sz cap us h1 h2 h3 h4 h5=>
   subst hx;obtain⟨b,off,c⟩:=A;simp only at h2;subst h2;refine⟨b,off,cap,by simp,by simpa using h1,λ j x hj=> ?_⟩;have a:(l.map λ s=>V.lit (.string s))[j]?=some (.lit (.string x)):=by simp[hj]
   have hz:=(h3 _ (ax4 a)).1;have hz:sz=1:=by simpa[V.cells]using hz.symm
   subst hz;have e1:=h4 j _ 0 (.lit (.string x)) a rfl;have e2:=h5 j _ 0 (.lit (.string x)) a rfl;generalize us j 0=q at e1 e2;cases e2;simpa using e1
theorem d7J{xa:List V}{bs bs':List (List V)}{v:V}(h:c0G xa bs=some (v,bs')):a2R Tryz.prog 145 xa bs v bs':=by
 unfold c0G at h;split at h
 .next t=>
  simp only[az0,az8]at h;obtain⟨rfl,rfl⟩:=h;refine⟨by decide+kernel,λ {w M μ us ptc} hI hn ha=> ?_⟩;obtain⟨u1,u2,rfl,r1,r2⟩:=two ha;have:=r2.lit_eq;subst this;have:u1= .slice none 0 0:=by
   cases r1 with
   |rep h=>cases h;rfl
  subst this;refine(Any.strings_Join_none d2Z shX none 0 t w).mono λ e w' he=> ?_;obtain⟨rfl,rfl⟩:=he;exact a5Q (λ _=>rfl) hI (Mem.le_refl _) NewMem.refl (a1J rfl)
 .next o xs t=>
  split at h
  .next l hl=>
   split at h
   .next hb=>
    simp only[az0,az8]at h;obtain⟨rfl,rfl⟩:=h;have hx:=b6J hl;subst hx;refine⟨by decide+kernel,λ {w M μ us ptc} hI hn ha=> ?_⟩;obtain⟨u1,u2,rfl,r1,r2⟩:=two ha;have:=r2.lit_eq;subst this;have r1:Rep M (.sl o (l.map λ s=> .lit (.string s))) u1:=by
     cases r1 with
     |rep h=>exact h
    obtain⟨b,off,cap,rfl,hcap,hcell⟩:=c8r r1;have hcell':∀(j:Nat) x,l[j]?=some x->w.cell? ⟨b,off+j,none⟩=some (.string x):=λ j x hj=>hI.mem _ _ _ (hcell j x hj);cases l with
    |nil=>refine(Any.strings_Join_none d2Z shX (some ⟨b,off,none⟩) cap t w).mono λ e w' he=> ?_;obtain⟨rfl,rfl⟩:=he;exact a5Q (λ _=>rfl) hI (Mem.le_refl _) NewMem.refl (a1J rfl)
    |cons x r=>refine(Any.strings_Join d2Z shX b off cap (x::r) t w hcell' (b7U (hcell' 0 x rfl)) hb.1 hcap hb.2).mono λ e w' he=> ?_;obtain⟨rfl,hbel⟩:=he;exact a5Q (λ _=>rfl) (hI.below hbel) (Mem.le_refl _) NewMem.refl (a1J rfl)
   .cases h
  .cases h
 .cases h
end
section
open Go.RowKit Go.Proofs Go.Shelf
def a5k(x:Nat):Bool:=x==32||x==9
def a8i:a5o:=λ a bs=>match a,bs with
 |[.lit (.string s),.fn 349 [] []],[]=>if s.size<=4294967296 then some (.sl none (((Lib.goFieldsP a5k s).map Value.string).map .lit),[])else none
 |_,_=>none
theorem c5c{a b:Bool}(h:a=b):Ending.returned (.bool a)= .returned (.bool b):=by rw[h]
theorem d2q(x:Nat)(hx:x<=1114111)(w:World):Go.Calls Tryz.prog 349 #[.int .i32 (x:Int)] w λ e w'=>e= .returned (.bool (a5k x))/\w=w':=by
 have hb:a5k x=(((x:Int)==32)||((x:Int)==9)):=by
  rw[ao7];simp[a5k];omega
 have HB:=Lib.hid hb;clear hb
 go_enter Tryz.func349,Tryz.ntmps349
 go_wp2
 all_goals
  go_ret
  exact⟨c5c (by rw[HB.out];try simp[*]),rfl⟩
theorem c0Z(w:World):PredAtRunes Tryz.prog 349 #[] a5k w:=λ W x hx _=>
 (d2q x hx W).mono λ _ _ ⟨he,hw⟩=>⟨he,0,hw.symm⟩
theorem b4E(args:Array Value)(w:World):(callFunc 349 args).run Tryz.prog w= .ok (.enter 349 args) w:=
 enters_of Tryz.func349 (by kernel_rfl) rfl args w
theorem d7p{xa:List V}{bs bs':List (List V)}{v:V}(h:a8i xa bs=some (v,bs')):a2R Tryz.prog 348 xa bs v bs':=by
 unfold a8i at h;split at h
 .next s=>
  split at h
  .next hs=>
   simp only[az0,az8]at h;obtain⟨rfl,rfl⟩:=h;refine b8t (us0:= #[.string s,.func (.func 349) #[] #[]]) (by decide+kernel) (λ x hx=> ?_) (λ M μ us ha=> ?_) λ w hw=> ?_
   .obtain⟨y,_,rfl⟩:=ax5.1 hx;rfl
   .obtain⟨u1,u2,rfl,r1,r2⟩:=two ha;have:=r1.lit_eq;subst this;have:u2= .func (.func 349) #[] #[]:=by
     cases r2 with
     |rep h=>cases h with
      |fn h1 h2 _ _=>grind
     |fn h1 h2 _ _=>grind
    rw[this]
   .refine(Any.strings_FieldsFunc_runes d8L 349 #[] b4E a5k s w hs (c0Z w) (by kernel_rfl) (by kernel_rfl)).mono λ e w' he=> ?_;obtain⟨A,h1,hA,hown,hb⟩:=he;refine⟨A,(Lib.goFieldsP a5k s).length,by grind,by grind,hA,λ i x hx=> ?_,hb⟩;have:=(World.ownsRowF_of hown).cells (g:=A) rfl i x hx;grind[a2X]
  .cases h
 .cases h
end
section
open Go.RowKit Go.Proofs Go.Shelf
variable {P:Program} {base:Nat} {n q:List Nat} {t w p:World} {M r:Mem} {μ A:Pl} {g:G}
variable {b:Nat}
theorem Inv.put'(hI:Inv base q t M μ g w){id cap:Nat}{x h:Box}(hg:g id=some x)(hm:μ id=some (b,cap))(h0:x.held=0)(k:w.grownBy p (some b))
  (hx:BoxAt M μ p b cap h):Inv base q t M μ (upd [(id,some h)] g) p:=by
 obtain⟨_,hb⟩:=hI.at_ hg hm;have a:∀o u,M b o≠some u:=λ o u hM=>by have:=hI.sep id x b cap o u hg hm hM;omega
 refine hI.grow k (Pl.le_refl μ) (λ b' d=> ?_) ?_
 .injection d with d;subst d
  exact⟨hb,λ o u hM=>absurd hM (a o u)⟩
 .intro j y hy;by_cases e:id=j
  .subst e;have:y=h:=by simpa[upd]using hy.symm
   subst this;refine .inr ⟨b,cap,hm,hx,hb,λ o u hM=>absurd hM (a o u),λ i c z hi hz hc=> ?_⟩;have l:g i=some z:=by simpa[upd,hi,as7 hi]using hz
   exact hi (hI.inj i id b c cap ⟨z,l⟩ ⟨x,hg⟩ hc hm)
  .have f:g j=some y:=by simpa[upd,e]using hy
   exact .inl ⟨f,λ b' c hc m=>e (by injection m with m;subst m;exact hI.inj id j b' cap c ⟨x,hg⟩ ⟨y,f⟩ hm hc)⟩
variable {ms:List Nat} {v:V} {u:Value}
theorem b3D{m:Nat}{l:List (List V)}{ks:List Nat}(hv:∀s,a1R s v=(v,s))(hI:Inv base n t r μ g p)(hM:M.le r)(hn:NewMem base n M r)(hr:Rep r v u)
  (b:a0G (a1x g) ([],[]) (List.range m)=some (l,ms,ks)) (a:a1u g ms ks=true):d6f base n t M μ m v l u p:=by
 obtain⟨oss,e1,e2,e3,e4,e5,e6⟩:=a4N hI b (a1a _);have c:ks=(oss.flatten.flatMap a2y).reverse:=by simpa using e5
 refine⟨r,μ,g,ms,[],oss,hM,hn,Pl.le_refl _,hI,b9w hv λ _=> .rep (hr.mono a8H),by rw[e1];simp,by rw[e2];simp,λ j l os hj h1 h2=>e3 j j l os (ao6 hj) h1 h2,?_,?_⟩
 .have:=e6 (by simp);simp only at this;rw[c]at this;simpa using b0R.1 this
 .rw[c]at a;unfold a1u at a|-;rw[List.all_reverse]at a;simpa using a
def d0g:V->Bool
 | .lit (.int .u8 _)=>true
 |_=>false
theorem b2X:∃d,ED=d+1:=⟨159,by unfold ED;rfl⟩
theorem d2B{g:G}{x:V}(h:d0g x=true):a0C ED g ms x=some (x,ms):=by
 obtain⟨d,hd⟩:=b2X;rw[hd];unfold d0g at h;split at h
 .rfl
 .cases h
theorem b9u{g:G}{ms:List Nat}:∀{l:List V},l.all d0g=true->a0G (a0C ED g) ms l=some (l,ms)
 |[],_=>rfl
 |x::l,h=>by
  simp only[Az3,az6]at h;simp only[a0G,d2B h.1,b9u h.2]
theorem b5B{g:G}:a0C ED g ms .nils=some (.nils,ms):=by
 obtain⟨d,hd⟩:=b2X;rw[hd];rfl
def b3x:a5o:=λ a bs=>match a,bs with
 |[.ptr 0 0],[[c,.nils]]=>if a4Z c||a6J c then some (.tup [],[[.dptr [],.nils]])else none
 |[.ptr 0 0],[[c,.sl (some (ty,1,f)) l]]=>if(a4Z c||a6J c)&&l.all d0g then some (.tup [],[[.dptr [],.sl (some (ty,1,f)) l]])else none
 |_,_=>none
theorem b5n{w:World}{x y:Value}{T:Nat}{fr:Nat×Nat}(h:w.heap[b]?=some (.cells #[x,y] T fr))(v:Value):(w.setCell ⟨b,0,none⟩ v).heap[b]?=some (.cells #[v,y] T fr):=by
 grind[World.setCell]
theorem b4W{c b':V}{w:World}(hI:Inv w.heap.size n w M μ g w)(hg:g 0=some (.var [c,b']))(hc:c= .lit (.pointer none)\/c= .ptr 0 0)(hu:RepV M μ (.ptr 0 0) u):
  Go.Calls Tryz.prog 345 #[u] w λ e p=>e= .returned (.tuple #[])/\Inv w.heap.size n w M μ (upd [(0,some (.var [.ptr 0 0,b']))] g) p:=by
 obtain⟨b,cap,h1⟩:=hI.pl hg;obtain⟨⟨T,f,hb,a,i⟩,_⟩:=hI.at_ hg h1;have hu:u= .pointer (some ⟨b,0,none⟩):=by
  cases hu with
  |rep h=>cases h
  |ptr h=>grind
 subst hu;obtain⟨l⟩:=f
 match l,a with
 |[x,y],a=>
  have hx:=a.2.2 0 c x rfl rfl;have hy:=a.2.2 1 b' y rfl rfl;have d:w.cell? ⟨b,0,none⟩=some x:=by rw[a3z hb];rfl
  rcases hc with rfl|rfl
  .have:=hx.lit_eq;subst this;have hT:T=324:=i rfl;subst hT;refine(Any.Builder_copyCheck_fresh d5R d2E b w d (by simp[World.shape?,hb];rfl) (by simp[World.frozen?,hb])).mono λ e p he=> ?_;obtain⟨rfl,rfl⟩:=he;refine⟨rfl,hI.put' hg h1 rfl ⟨rfl,rfl,rfl,by simp_all,λ k hk m=>Below.heap_setCell w _ _ k λ e=>m (by rw[e])⟩ ?_⟩;refine⟨324,#[.pointer (some ⟨b,0,none⟩),y],b5n hb _,⟨rfl,λ z hz=> ?_,λ j z u hz hu=> ?_⟩,λ h=>by cases h⟩
   .rcases ay4.1 hz with rfl|hz
    .rfl
    .exact a.2.1 z (az9 _ hz)
   grind
  .have hx:x= .pointer (some ⟨b,0,none⟩):=by
    cases hx with
    |rep h=>cases h
    |ptr h=>grind
   subst hx;refine(Any.Builder_copyCheck_used d5R d2E b w d).mono λ e p he=> ?_;obtain⟨rfl,rfl⟩:=he;refine⟨rfl,hI.congr λ j=> ?_⟩;grind[upd]
 |[],a=>cases a.1
 |[_],a=>cases a.1
 |_::_::_::_,a=>have:=a.1;simp at this
theorem d8m{xa:List V}{bs bs':List (List V)}(h:b3x xa bs=some (v,bs')):a2R Tryz.prog 345 xa bs v bs':=by
 have hc':∀{c:V},(a4Z c||a6J c)=true->a0H 0 (a0J (([]:HP),1) c).1= .lit (.pointer none)\/a0H 0 (a0J (([]:HP),1) c).1= .ptr 0 0:=λ {c} h=>by
  unfold a4Z a6J at h;split at h
  .exact .inl rfl
  .split at h
   .exact .inr rfl
   .cases h
 have hc2:∀{c:V},(a4Z c||a6J c)=true->a0J (([]:HP),1) c=(c,[],1):=λ {c} h=>by
  unfold a4Z a6J at h;split at h
  .rfl
  .split at h
   .rfl
   .cases h
 unfold b3x at h;split at h
 .next c=>
  split at h
  .next hc=>
   simp only[az0,az8]at h;obtain⟨rfl,rfl⟩:=h;refine⟨by decide+kernel,λ {w M μ us n} hI hn ha=> ?_⟩;obtain⟨u,rfl,r1⟩:=one' ha;have hg:a0b (a0w 0 ([],[[c,V.nils]].length) [[c,V.nils]]).1 0=some (.var [a0H 0 c,.nils]):=by
    simp[a0w,a0f,hc2 hc,a0b];rfl
   have hc'':=hc' hc;rw[hc2 hc]at hc'';refine(b4W hI hg hc'' r1).mono λ e p he=> ?_;obtain⟨rfl,hI'⟩:=he;refine b3D (ms:=[]) (ks:=[]) (λ _=>rfl) hI' (Mem.le_refl _) NewMem.refl (.tup rfl λ j c u hc=>by simp at hc) ?_ rfl;show a0G _ _ [0]=_;simp[a0G,a1x,upd,a6J,a0S,a0h,b5B]
  .cases h
 .next c ty f l=>
  split at h
  .next hc=>
   simp only[az6]at hc;simp only[az0,az8]at h;obtain⟨rfl,rfl⟩:=h;refine⟨by decide+kernel,λ {w M μ us n} hI hn ha=> ?_⟩;obtain⟨u,rfl,r1⟩:=one' ha;have hbx:a0w 0 ([],1) [[c,V.sl (some (ty,1,f)) l]]=([(0,some (.var [a0H 0 c,.row 1 1 0 l.length])),(1,some (.row ty 1 l f))],2):=by
    simp only[a0w,a0f,hc2 hc.1];rfl
   have hg:a0b (a0w 0 ([],[[c,V.sl (some (ty,1,f)) l]].length) [[c,V.sl (some (ty,1,f)) l]]).1 0=some (.var [a0H 0 c,.row 1 1 0 l.length]):=by
    show a0b (a0w 0 ([],1) _).1 0=_;rw[hbx];rfl
   have hg1:a0b (a0w 0 ([],1) [[c,V.sl (some (ty,1,f)) l]]).1 1=some (.row ty 1 l f):=by
    rw[hbx];simp[a0b]
   have hc'':=hc' hc.1;rw[hc2 hc.1]at hc'';refine(b4W hI hg hc'' r1).mono λ e p he=> ?_;obtain⟨rfl,hI'⟩:=he;refine b3D (ms:=[]) (ks:=[1]) (λ _=>rfl) hI' (Mem.le_refl _) NewMem.refl (.tup rfl λ j c u hc=>by simp at hc) ?_ rfl;show a0G _ _ [0]=_;simp[a0G,a1x,upd,a6J,a0S,a0h,hg1,b9u hc.2]
  .cases h
 .cases h
end
section
open Go.RowKit Go.Proofs Go.Shelf
variable {base:Nat} {A D:List Nat} {E w t:World} {M B:Mem} {μ C:Pl} {g:G}
def Froze(gb:Nat)(w t:World):Prop:=w.grownBy t (some gb)/\∀a fz,w.heap[gb]?=some (.cells a 5 fz)->∃b,t.heap[gb]?=some (.cells a 5 b)
theorem Froze.drew{gb:Nat}:Froze gb w w.drew:=⟨⟨rfl,rfl,rfl,ay3 _,λ _ _ _=>rfl⟩,λ a fz h=>⟨fz,h⟩⟩
variable {gb:Nat}
theorem b0d{o:Obj}:Froze gb w (w.drew.alloc o):=
 ⟨⟨rfl,rfl,rfl,(a4Y w.drew o none).size,λ k hk _=>(a4Y w.drew o none).block k hk (by simp)⟩,λ a fz h=>⟨fz,((a4Y w.drew o none).block gb (a6k h) (by simp)).trans h⟩⟩
theorem Froze.freeze{gb n:Nat}:Froze gb w (w.drew.freeze ⟨gb,0,none⟩ n):=by
 unfold World.freeze;split
 .exact Froze.drew
 .refine⟨⟨rfl,rfl,rfl,Nat.le_of_eq ?_,λ k hk a=> ?_⟩,λ b (lo,hi) h=>⟨if lo==hi then(0,0+n)else(min lo 0,max hi (0+n)),?_⟩⟩
  .simp_all
  .have:gb≠k:=λ e=>a (by rw[e]);show(w.heap.modify gb _)[k]?=_;grind
  .show(w.heap.modify gb _)[gb]?=_;grind
variable {b:Nat} {T:Nat} {p:Value}
set_option maxHeartbeats 2000000 in
set_option maxRecDepth 100000 in
theorem d0I(hbk:w.heap[b]?=some (.cells #[p,.slice none 0 0] T (0,0)))(gb:Nat):
  Go.Calls Tryz.prog 259 #[.pointer (some ⟨b,0,none⟩)] w λ e t=>e= .returned (.string ⟨#[]⟩)/\Froze gb w t:=by
 have hUS:∀(W:World) (q:Option Addr),(Builtin.unsafeString_ #[389,3] 9 #[.pointer q,.int .i64 0]).run Tryz.prog W= .ok (.string .empty) W:=λ W q=>Any.unsafeString_none d2M shX W q;have c1:w.drew.cell? ⟨b,1,none⟩=some (.slice none 0 0):=by
  have:w.drew.heap[b]?=some (.cells #[p,.slice none 0 0] T (0,0)):=hbk;rw[Lib.cell_of_heap this];rfl
 have hSD:(Builtin.unsafeSliceData_ #[22] 389 #[.slice none 0 0]).run Tryz.prog w.drew= .ok (.pointer none) w.drew:=rfl;have b6A:Tryz.prog.follows Departure.mixedOrders=true:=by kernel_rfl
 go_enter Tryz.func259,Tryz.ntmps259
 go_wp2
 go_region_o
 all_goals (go_wp2;go_ret;exact⟨rfl,Froze.drew⟩)
variable {cap:Nat}
set_option maxHeartbeats 2000000 in
set_option maxRecDepth 100000 in
theorem c8B(hbk:w.heap[b]?=some (.cells #[p,.slice (some ⟨gb,0,none⟩) 0 cap] T (0,0)))(hc0:cap≠0):
  Go.Calls Tryz.prog 259 #[.pointer (some ⟨b,0,none⟩)] w λ e t=>e= .returned (.string ⟨#[]⟩)/\Froze gb w t:=by
 have hUS:∀(W:World) (q:Option Addr),(Builtin.unsafeString_ #[389,3] 9 #[.pointer q,.int .i64 0]).run Tryz.prog W= .ok (.string .empty) W:=λ W q=>Any.unsafeString_none d2M shX W q;have c1:w.drew.cell? ⟨b,1,none⟩=some (.slice (some ⟨gb,0,none⟩) 0 cap):=by
  have:w.drew.heap[b]?=some (.cells #[p,.slice (some ⟨gb,0,none⟩) 0 cap] T (0,0)):=hbk;rw[Lib.cell_of_heap this];rfl
 have hSD:(Builtin.unsafeSliceData_ #[22] 389 #[.slice (some ⟨gb,0,none⟩) 0 cap]).run Tryz.prog w.drew= .ok (.pointer (some ⟨gb,0,none⟩)) w.drew:=
  Lib.run_unsafeSliceData_row _ _ _ _ _ _ hc0
 clear hc0;have b6A:Tryz.prog.follows Departure.mixedOrders=true:=by kernel_rfl
 go_enter Tryz.func259,Tryz.ntmps259
 go_wp2
 go_region_o
 all_goals (go_wp2;go_ret;exact⟨rfl,Froze.drew⟩)
variable {m:Array Value} {fz:Nat×Nat}
set_option maxHeartbeats 2000000 in
set_option maxRecDepth 100000 in
theorem c0i(hbk:w.heap[b]?=some (.cells #[p,.slice (some ⟨gb,0,none⟩) 0 0] T (0,0)))(hg:w.heap[gb]?=some (.cells m 5 fz)):
  Go.Calls Tryz.prog 259 #[.pointer (some ⟨b,0,none⟩)] w λ e t=>e= .returned (.string ⟨#[]⟩)/\Froze gb w t:=by
 have hUS:∀(W:World) (q:Option Addr),(Builtin.unsafeString_ #[389,3] 9 #[.pointer q,.int .i64 0]).run Tryz.prog W= .ok (.string .empty) W:=λ W q=>Any.unsafeString_none d2M shX W q;have hlt:b<w.heap.size:=a6k hbk;have c1:w.drew.cell? ⟨b,1,none⟩=some (.slice (some ⟨gb,0,none⟩) 0 0):=by
  have:w.drew.heap[b]?=some (.cells #[p,.slice (some ⟨gb,0,none⟩) 0 0] T (0,0)):=hbk;rw[Lib.cell_of_heap this];rfl
 have hSD:(Builtin.unsafeSliceData_ #[22] 389 #[.slice (some ⟨gb,0,none⟩) 0 0]).run Tryz.prog w.drew= .ok (.pointer (some ⟨w.drew.heap.size,0,none⟩)) (w.drew.alloc (.view ⟨gb,0,none⟩ 5)):=
  Lib.run_unsafeSliceData_zero w.drew _ _ 5 (by kernel_rfl) ⟨gb,0,none⟩ 0 (5,m.size) (by have hg':w.drew.heap[gb]?=some (.cells m 5 fz):=hg;simp[World.shape?,hg'])
 have c2:(w.drew.alloc (.view ⟨gb,0,none⟩ 5)).cell? ⟨b,1,none⟩=some (.slice (some ⟨gb,0,none⟩) 0 0):=by
  have:(w.drew.alloc (.view ⟨gb,0,none⟩ 5)).heap[b]?=_:=(Lib.alloc_old w.drew _ b hlt).trans hbk;rw[Lib.cell_of_heap this];rfl
 have c3:(w.alloc (.view ⟨gb,0,none⟩ 5)).drew.cell? ⟨b,1,none⟩=some (.slice (some ⟨gb,0,none⟩) 0 0):=c2;have c0:w.cell? ⟨b,1,none⟩=some (.slice (some ⟨gb,0,none⟩) 0 0):=c1;have b6A:Tryz.prog.follows Departure.mixedOrders=true:=by kernel_rfl
 go_enter Tryz.func259,Tryz.ntmps259
 go_wp2
 go_region_o
 all_goals (go_wp2;go_ret;exact⟨rfl,b0d⟩)
set_option maxHeartbeats 2000000 in
set_option maxRecDepth 100000 in
theorem d1r{l:List UInt8}(h0:l≠[])(hbk:w.heap[b]?=some (.cells #[p,.slice (some ⟨gb,0,none⟩) l.length cap] T (0,0)))
  (hg:w.heap[gb]?=some (.cells m 5 fz)) (hc:l.length<=cap) (hcm:cap<=maxLen) (hcs:m.size=cap) (hcell:∀(j:Nat) x,l[j]?=some x->m[j]?=some (.int .u8 x.toNat)):
  Go.Calls Tryz.prog 259 #[.pointer (some ⟨b,0,none⟩)] w λ e t=>e= .returned (.string ⟨l.toArray⟩)/\Froze gb w t:=by
 have hl0:l.length≠0:=by simpa using h0
 have c1:w.drew.cell? ⟨b,1,none⟩=some (.slice (some ⟨gb,0,none⟩) l.length cap):=by
  have:w.drew.heap[b]?=some (.cells #[p,.slice (some ⟨gb,0,none⟩) l.length cap] T (0,0)):=hbk;rw[Lib.cell_of_heap this];rfl
 have hSD:(Builtin.unsafeSliceData_ #[22] 389 #[.slice (some ⟨gb,0,none⟩) l.length cap]).run Tryz.prog w.drew= .ok (.pointer (some ⟨gb,0,none⟩)) w.drew:=
  Lib.run_unsafeSliceData_row _ _ _ _ _ _ (by omega)
 have hg':w.drew.heap[gb]?=some (.cells m 5 fz):=hg;have hUS:(Builtin.unsafeString_ #[389,3] 9 #[.pointer (some ⟨gb,0,none⟩),.int .i64 l.length]).run Tryz.prog w.drew= .ok (.string ⟨l.toArray⟩) (w.drew.freeze ⟨gb,0,none⟩ l.length):=by
  refine Lib.run_unsafeString_row w.drew 389 3 9 5 (by kernel_rfl) (by kernel_rfl) gb m.size (by simp[World.shape?,hg']) l h0 (by omega) (by unfold maxLen at hcm;omega) ?_;intro j x hx;rw[a2X,a3z hg'];simpa using hcell j x hx
 clear hcm hl0 hc hcell hcs;have b6A:Tryz.prog.follows Departure.mixedOrders=true:=by kernel_rfl
 go_enter Tryz.func259,Tryz.ntmps259
 go_wp2
 go_region_o
 all_goals (go_wp2;go_ret;exact⟨rfl,Froze.freeze⟩)
def b8R:V->Option UInt8
 | .lit (.int .u8 n)=>if 0<=n/\n<256 then some (UInt8.ofNat n.toNat)else none
 |_=>none
def a7c:List V->Option (List UInt8)
 |[]=>some []
 |x::r=>match b8R x,a7c r with
  |some b,some l=>some (b::l)
  |_,_=>none
def a5b:a5o:=λ a bs=>match a,bs with
 |[.ptr 0 0],[[c,.nils]]=>if a4Z c||a6J c then some (vS [],[[c,.nils]])else none
 |[.ptr 0 0],[[c,.sl (some (5,1,f)) l]]=>if a4Z c||a6J c then(match a7c l with
  |some r=>some (vS r,[[c,.sl none l]])
  |none=>none)else none
 |_,_=>none
theorem a6X:∀{l:List V} {r:List UInt8},a7c l=some r->r.length=l.length/\l.all d0g=true/\∀(j:Nat) x,r[j]?=some x->l[j]?=some (.lit (.int .u8 x.toNat))
 |[],r,h=>by simp[a7c]at h;grind
 |y::l,r,h=>by
  unfold a7c at h;split at h
  .next b a hb hr=>
   injection h with h
   subst h;obtain⟨h1,h2,h3⟩:=a6X hr;unfold b8R at hb;grind[d0g,UInt8.toNat_ofNat']
  .cases h
theorem Froze.below(h:Froze w.heap.size w t):Below w.heap.size w t:=
 ⟨h.1.os,h.1.tape,h.1.output,h.1.size,λ k hk=>h.1.block k hk (by simp;omega)⟩
variable {c:V}
theorem c2d(h:(a4Z c||a6J c)=true):a0J (([]:HP),1) c=(c,[],1)/\a6J (a0H 0 c)=false/\a0S 0 (a0H 0 c)=c/\∀(g:G) (s:List Nat×List Nat),a0h g s c=some (c,s):=by
 unfold a4Z a6J at h;split at h
 .refine⟨rfl,rfl,rfl,λ g s=> ?_⟩;grind[b2X,a0h,a0C]
 .split at h
  .exact⟨rfl,rfl,by simp[a0H,a0S],λ g s=>rfl⟩
  .cases h
theorem b9y{g:G}{x a:V}{b:List Nat×List Nat}(hg:g 0=some (.var [a0H 0 c,x]))(k2:a6J (a0H 0 c)=false)(k3:a0S 0 (a0H 0 c)=c)(k4:∀(g:G)(s:List Nat×List Nat),a0h g s c=some (c,s))
  (hx:a6J x=false) (hs:a0S 0 x=x) (d:a0h g ([],[]) x=some (a,b)):a0G (a1x g) ([],[]) [0]=some ([[c,a]],b):=by
 simp_all[a1x,a0G]
theorem d8q{xa:List V}{bs bs':List (List V)}{v:V}(h:a5b xa bs=some (v,bs')):a2R Tryz.prog 259 xa bs v bs':=by
 unfold a5b at h;split at h
 .next c=>
  split at h
  .next hc=>
   simp only[az0,az8]at h;obtain⟨rfl,rfl⟩:=h;obtain⟨k1,k2,k3,k4⟩:=c2d hc;refine⟨by decide+kernel,λ {w M μ us A} hI hn ha=> ?_⟩;obtain⟨u,rfl,r1⟩:=one' ha;have hbx:a0w 0 ([],1) [[c,V.nils]]=([(0,some (.var [a0H 0 c,.nils]))],1):=by
    simp only[a0w,a0f,k1];rfl
   have hg:a0b (a0w 0 ([],[[c,V.nils]].length) [[c,V.nils]]).1 0=some (.var [a0H 0 c,.nils]):=by
    show a0b (a0w 0 ([],1) _).1 0=_;rw[hbx];rfl
   obtain⟨b,cap,h1⟩:=hI.pl hg;obtain⟨⟨T,m,hb,hcs,hbk⟩,_⟩:=hI.at_ hg h1;have hu:u= .pointer (some ⟨b,0,none⟩):=by
    cases r1 with
    |rep h=>cases h
    |ptr h=>rw[h1]at h;cases h;rfl
   subst hu;obtain⟨l⟩:=m
   match l,hcs with
   |[x,y],hcs=>
    have hy:y= .slice none 0 0:=by
     have:=hcs.2.2 1 .nils y rfl rfl;cases this with
     |rep h=>cases h;rfl
    subst hy;refine(d0I hb w.heap.size).mono λ e t he=> ?_;obtain⟨rfl,hf⟩:=he;refine b3D (ms:=[]) (ks:=[]) (λ _=>rfl) (hI.below hf.below) (Mem.le_refl _) NewMem.refl (a1J rfl) ?_ rfl;show a0G _ _ [0]=_;have hg':a0b (a0w 0 ([],1) [[c,V.nils]]).1 0=some (.var [a0H 0 c,.nils]):=hg;exact b9y hg' k2 k3 k4 rfl rfl (by simp[a0h,b5B])
   |[],hcs=>cases hcs.1
   |[_],hcs=>cases hcs.1
   |_::_::_::_,hcs=>have:=hcs.1;simp at this
  .cases h
 .next c f l=>
  split at h
  .next hc=>
   split at h
   .next r hr=>
    simp only[az0,az8]at h;obtain⟨rfl,rfl⟩:=h;obtain⟨k1,k2,k3,k4⟩:=c2d hc;obtain⟨b1,b2,b3⟩:=a6X hr;refine⟨by decide+kernel,λ {w M μ us A} hI hn ha=> ?_⟩;obtain⟨u,rfl,r1⟩:=one' ha;have hbx:a0w 0 ([],1) [[c,V.sl (some (5,1,f)) l]]=([(0,some (.var [a0H 0 c,.row 1 1 0 l.length])),(1,some (.row 5 1 l f))],2):=by
     simp only[a0w,a0f,k1];rfl
    replace hI:Inv w.heap.size A w M μ (a0b [(0,some (.var [a0H 0 c,.row 1 1 0 l.length])),(1,some (.row 5 1 l f))]) w:=by
     have:=hI;simp only[an0,List.length_nil,as4,hbx]at this;exact this
    have hg0:a0b [(0,some (.var [a0H 0 c,.row 1 1 0 l.length])),(1,some (.row 5 1 l f))] 0=some (.var [a0H 0 c,.row 1 1 0 l.length]):=rfl;have hg1:a0b [(0,some (.var [a0H 0 c,.row 1 1 0 l.length])),(1,some (.row 5 1 l f))] 1=some (.row 5 1 l f):=by simp[a0b]
    obtain⟨b,cap,h1⟩:=hI.pl hg0;obtain⟨⟨T,m,hb,hcs,hbk⟩,hbl⟩:=hI.at_ hg0 h1;obtain⟨gb,cap1,h2⟩:=hI.pl hg1;obtain⟨⟨cu,hgb,_,hsz,hle,hmx,_,hcell⟩,hgl⟩:=hI.at_ hg1 h2;have hne:b≠gb:=λ e=>by
     subst e;exact absurd (hI.inj 0 1 b cap cap1 ⟨_,hg0⟩ ⟨_,hg1⟩ h1 h2) (by omega)
    have hin:gb∈A:=hgl.elim (λ h=>absurd (a6k hgb) (aq9.2 h)) id;have hbytes:∀(j:Nat) x,r[j]?=some x->cu[j]?=some (.int .u8 x.toNat):=λ j x hj=>by
     obtain⟨u,hu,hrep⟩:=hcell j _ 0 _ (b3 j x hj) rfl;rw[hrep.lit_eq]at hu;simpa using hu
    have hu:u= .pointer (some ⟨b,0,none⟩):=by
     cases r1 with
     |rep h=>cases h
     |ptr h=>rw[h1]at h;cases h;rfl
    subst hu;obtain⟨cl⟩:=m
    match cl,hcs with
    |[x,y],hcs=>
     have hx:=hcs.2.2 0 _ x rfl rfl;have hy:y= .slice (some ⟨gb,0,none⟩) r.length cap1:=by
      have:=hcs.2.2 1 _ y rfl rfl;cases this with
      |rep h=>cases h
      |row h h'=>rw[h2]at h;cases h;simp[b1]
     subst hy;have hwalk:Go.Calls Tryz.prog 259 #[.pointer (some ⟨b,0,none⟩)] w λ e t=>e= .returned (.string ⟨r.toArray⟩)/\Froze gb w t:=by
      cases r with
      |nil=>
       by_cases hc0:cap1=0
       .subst hc0;exact c0i hb hgb
       .exact c8B hb hc0
      |cons z r=>exact d1r (by simp) hb hgb (by omega) hmx (by omega) hbytes
     refine hwalk.mono λ e t he=> ?_;obtain⟨rfl,hf⟩:=he;let B:Mem:=λ bb o=>if bb=gb then(r[o]?).map (λ x=>Value.int .u8 x.toNat)else M bb o
     have hM1:∀o (x:UInt8),r[o]?=some x->B gb o=some (.int .u8 x.toNat):=λ o x h=>by
      show(if gb=gb then _ else _)=_;rw[ax3 rfl,h];rfl
     have hM2:∀{bb:Nat} (o:Nat),bb≠gb->B bb o=M bb o:=λ o h=>ay9 h;have hM3:∀{o:Nat} {u:Value},B gb o=some u->cu[o]?=some u:=λ {o u} h=>by
      replace h:(if gb=gb then(r[o]?).map (λ x=>Value.int .u8 x.toNat)else _)=some u:=h;rw[ax3 rfl,az2]at h;obtain⟨x,h,rfl⟩:=h;exact hbytes o x h
     have hle1:M.le B:=λ bb o u h=>by
      by_cases e:bb=gb
      .subst e;have ho:=hI.sep 1 _ bb cap1 o u hg1 h2 h;have ho:o<l.length:=by
        cases f with
        |false=>exact absurd ho (as0 _)
        |true=>replace ho:o<l.length*1:=ho;omega
       have hcu:=hI.mem _ _ _ h;rw[a3z hgb]at hcu;have hlt:o<r.length:=by omega
       have hb':=hbytes o r[o] (az5 hlt);rw[hcu]at hb';rw[hb'];exact hM1 o _ (az5 hlt)
      .rw[hM2 o e];exact h
     obtain⟨fz',hgb'⟩:=hf.2 cu _ hgb;have hcells:CellsRep B μ [a0H 0 c,.sl none l] [x,.slice (some ⟨gb,0,none⟩) r.length cap1]:=by
      refine⟨rfl,λ z hz=> ?_,λ j z u hz hu=> ?_⟩
      .rcases ay4.1 hz with rfl|hz
       .exact hcs.2.1 _ (ay1 ..)
       .rw[az7.1 hz];rfl
      .match j,hz,hu with
       |0,hz,hu=>cases hz;cases hu;exact hx.mono hle1 (Pl.le_refl _)
       |1,hz,hu=>
        cases hz;cases hu;refine .rep ?_;rw[b1];have hall:∀z∈l,∃n,z=V.lit (.int .u8 n):=λ z hz=>by
         have:=ay5.1 b2 z hz;unfold d0g at this;split at this
         .exact⟨_,rfl⟩
         .cases this
        refine Rep.sl (sz:=1) (λ i _=>((l[i]?).bind λ z=>match z with| .lit v=>some v|_=>none).getD undef) hle rfl (λ z hz=> ?_) (λ i z j c' hi hj=> ?_) (λ i z j c' hi hj=> ?_)
        .obtain⟨n,rfl⟩:=hall z hz;exact⟨rfl,rfl⟩
        .obtain⟨n,rfl⟩:=hall z (ax4 hi);have:j=0:=by
          cases j with
          |zero=>rfl
          |succ j=>simp[V.cells]at hj
         subst this;have hlt:i<r.length:=by have:=(ay0.1 hi).1;omega
         have e:=b3 i r[i] (az5 hlt);rw[hi]at e;injection e with e;injection e with e;injection e with _ e
         subst e;show B gb (0+(i*1+0))=_;rw[show 0+(i*1+0)=i by omega,hM1 i _ (az5 hlt),hi];rfl
        .obtain⟨n,rfl⟩:=hall z (ax4 hi);have:j=0:=by
          cases j with
          |zero=>rfl
          |succ j=>simp[V.cells]at hj
         subst this;simp[V.cells]at hj;subst hj;rw[hi];exact .lit rfl
       |j+2,hz,hu=>simp at hz
     let g1:G:=a0b [(0,some (.var [a0H 0 c,.sl none l]))];have hg1':∀{id z},g1 id=some z->id=0/\z= .var [a0H 0 c,.sl none l]:=λ {id z} h=>by
      by_cases e:id=0
      .subst e;exact⟨rfl,by cases h;rfl⟩
      .have e':¬0=id:=λ h=>e h.symm;have:g1 id=none:=by
        show a0b [(0,_)] id=none;unfold a0b;rw[ay9 e];rfl
       rw[this]at h;cases h
     have hI1:Inv w.heap.size A w B μ g1 t:=by
      refine⟨λ bb o u h=> ?_,λ id z h=> ?_,λ i j bb cc cc' ⟨z,hz⟩ ⟨z',hz'⟩ _ _=>(hg1' hz).1.trans (hg1' hz').1.symm,λ id z bb cc o u hz hm h=> ?_,hf.1.os,hf.1.tape,hf.1.output,hf.1.size,λ bb hbb hp=> ?_,hI.gl⟩
      .by_cases e:bb=gb
       .subst e;rw[a3z hgb'];exact hM3 h
       .rw[hM2 o e]at h;exact hf.1.cell (hI.mem _ _ _ h) (by simpa using e)
      .obtain⟨rfl,rfl⟩:=hg1' h;exact⟨b,cap,h1,⟨T,_,(hf.1.block b (a6k hb) (by simpa using hne)).trans hb,hcells,λ h=>hbk (by
        obtain⟨q,hq⟩:=b7p h;simp only[Az2]at hq;rw[hq.1];rfl)⟩,hbl⟩
      .obtain⟨rfl,rfl⟩:=hg1' hz;rw[h1]at hm;injection hm with hm;injection hm with e1 e2;subst e1;rw[hM2 o hne]at h;exact absurd (hI.sep 0 _ b cap o u hg0 h1 h) (as0 _)
      .refine hf.1.block bb hbb λ e=> ?_;injection e with e
       subst e;exact hp hin
     refine b3D (ms:=[]) (ks:=[]) (λ _=>rfl) hI1 hle1 (λ bb o u h=> ?_) (a1J rfl) ?_ rfl
     .by_cases e:bb=gb
      .subst e;exact .inr (.inr hin)
      .rw[hM2 o e]at h;exact .inl h
     .show a0G _ _ [0]=_;obtain⟨d,hd⟩:=b2X;have hg':g1 0=some (.var [a0H 0 c,.sl none l]):=rfl;exact b9y hg' k2 k3 k4 rfl rfl (by simp[a0h,hd,a0C])
    |[],hcs=>cases hcs.1
    |[_],hcs=>cases hcs.1
    |_::_::_::_,hcs=>have:=hcs.1;simp at this
   .cases h
  .cases h
 .cases h
end
section
open Go.RowKit Go.Proofs Go.Shelf
set_option maxHeartbeats 2000000 in
set_option maxRecDepth 1000000 in
theorem c3Q(s:ByteArray)(cs:List UInt8)(b:Nat)(w:World)(hcell:∀x:UInt8,w.cell? ⟨b,x.toNat,none⟩=some (.bool (cs.contains x))):
  Go.Calls Tryz.prog 414 #[.string s,.pointer (some ⟨b,0,none⟩)] w λ e w'=>e= .returned (.string ⟨(s.data.toList.dropWhile (cs.contains ·)).toArray⟩)/\w'=w:=by
 have HC:Aside (∀x:UInt8,w.cell? ⟨b,x.toNat,none⟩=some (.bool (cs.contains x))):=hcell;clear hcell;obtain⟨r,hr⟩:∃r,s.data.toList.dropWhile (cs.contains ·)=r:=⟨_,rfl⟩;rw[hr];have HR:Aside (s.data.toList.dropWhile (cs.contains ·)=r):=hr;clear hr;have b6A:Tryz.prog.follows Departure.mixedOrders=true:=by kernel_rfl
 have e353:∀args w,(callFunc 353 args).run Tryz.prog w= .ok (.enter 353 args) w:=enters_of Tryz.func353 (by kernel_rfl) rfl
 go_enter Tryz.func414,Tryz.ntmps414
 go_wp2
 go_loop [0] (λ v=>∃k:Nat,k<=s.size/\v= .string ⟨(s.data.toList.drop k).toArray⟩/\∀(j:Nat) b,j<k->s.data.toList[j]?=some b->cs.contains b=true) (λ v=>Lib.strSize v)
 case atStart=>exact⟨0,aw7 _,by simp,λ j b hj=>absurd hj (as0 _)⟩
 case round=>
  obtain⟨k,hk,rfl,hc⟩:=hrel;have hts:(⟨(s.data.toList.drop k).toArray⟩:ByteArray).size=s.size-k:=by grind[Lib.size_eq]
  have hb0:∀h,s.data.toList[k]?=some ((⟨(s.data.toList.drop k).toArray⟩:ByteArray)[0]'h):=by
   intro h;rw[<-Lib.getElem_mk (s.data.toList.drop k) 0 h,at5];rfl
  have hx1:(⟨(s.data.toList.drop k).toArray⟩:ByteArray).extract 1 (s.size-k)=⟨(s.data.toList.drop (k+1)).toArray⟩:=by
   rw[Lib.extract_mk,List.drop_drop,List.take_of_length_le (by simp;omega)]
  have hK:Lib.Kept (∀(j:Nat) b,j<k->s.data.toList[j]?=some b->cs.contains b=true):=hc;clear hc;generalize ht:(⟨(s.data.toList.drop k).toArray⟩:ByteArray)=t at hts hb0 hx1|-;have hK3:Lib.Kept ((⟨(s.data.toList.drop k).toArray⟩:ByteArray)=t):=ht;clear ht;have hkl:Lib.Kept (k<=s.data.toList.length):=by rw[<-Lib.size_eq];exact hk
  by_cases h0:0<t.size
  .have hbk:=hb0 h0;clear hb0;cases heq:cs.contains (t[0]'h0)
   .have hK2:Lib.Kept (s.data.toList[k]?=some (t[0]'h0)):=hbk;clear hbk;have HE:Lib.Kept (cs.contains (t[0]'h0)=false):=heq;have hcon:=Any.asciiSet_contains (P:=Tryz.prog) (ρ:=shR) (by constructor<;>first|(intro _;kernel_rfl)|kernel_rfl) b (t[0]'h0) false w (by rw[HC.out,heq]);clear heq
    go_wp2_with (go_at_fn 353;refine hcon.mono ?_;rintro e w' ⟨rfl,hw⟩;rw[hw])
    go_ret
    refine⟨?_,rfl⟩;have ht':(⟨(s.data.toList.drop k).toArray⟩:ByteArray)=t:=hK3;show Ending.returned (Value.string t)=_;rw[<-HR.out,Lib.dropWhile_drop (cs.contains ·) s.data.toList k hK (λ b hb=>by
     have h2:s.data.toList[k]?=some (t[0]'h0):=hK2;rw[h2]at hb;rw[<-ax8 hb];have h3:cs.contains (t[0]'h0)=false:=HE;simpa using h3) hkl,ht']
   .have hK2:Lib.Kept (s.data.toList[k]?=some (t[0]'h0)):=hbk;clear hbk;have HE:Lib.Kept (cs.contains (t[0]'h0)=true):=heq;have hcon:=Any.asciiSet_contains (P:=Tryz.prog) (ρ:=shR) (by constructor<;>first|(intro _;kernel_rfl)|kernel_rfl) b (t[0]'h0) true w (by rw[HC.out,heq]);clear heq
    go_wp2_with (go_at_fn 353;refine hcon.mono ?_;rintro e w' ⟨rfl,hw⟩;rw[hw])
    refine⟨⟨k+1,by omega,rfl,λ j b hj hb=> ?_⟩,?_⟩
    .by_cases e:j=k
     .subst e;have h2:s.data.toList[j]?=some (t[0]'h0):=hK2;have h3:s.data.toList[j]?=some b:=by simpa using hb
      rw[h2]at h3;rw[<-ax8 h3];exact HE
     .exact hK j b (by omega) (by grind)
    grind[Lib.strSize_string,Lib.size_eq]
  .clear hb0
   go_wp2
   go_ret
   refine⟨?_,rfl⟩;have ht':(⟨(s.data.toList.drop k).toArray⟩:ByteArray)=t:=hK3;show Ending.returned (Value.string t)=_;rw[<-HR.out,Lib.dropWhile_drop (cs.contains ·) s.data.toList k hK (λ b hb=>by
    grind[Lib.size_eq]) hkl,ht']
theorem c9o(a b:UInt8)(h1:a.toNat<128)(h2:b.toNat<128):∀(j:Nat) c,([a,b]:List UInt8)[j]?=some c->c.toNat<128:=λ j c h=>by
 grind
theorem c5w:∀w,(zeroValue 394).run Tryz.prog w= .ok (.agg (Array.replicate 256 (.bool false))) w:=by intro _;kernel_rfl
set_option maxHeartbeats 2000000 in
set_option maxRecDepth 1000000 in
theorem c5X(s:ByteArray)(a b:UInt8)(h1:a.toNat<128)(h2:b.toNat<128)(w:World):
  Go.Calls Tryz.prog 397 #[.string s,.string ⟨#[a,b]⟩] w λ e w'=>e= .returned (.string ⟨(s.data.toList.dropWhile (([a,b]:List UInt8).contains ·)).toArray⟩)/\Below w.heap.size w w':=by
 obtain⟨cs,hcs⟩:∃cs:ByteArray,⟨#[a,b]⟩=cs:=⟨_,rfl⟩;have hl:cs.data.toList=[a,b]:=by grind
 have hM:=Any.strings_makeASCIISet (P:=Tryz.prog) (ρ:=shR) (by constructor<;>first|(intro _;kernel_rfl)|kernel_rfl) c5w (by kernel_rfl) cs w (by grind[Lib.size_eq]) (by grind);have hT:=c3Q s cs.data.toList;obtain⟨r,hr⟩:∃r,s.data.toList.dropWhile (([a,b]:List UInt8).contains ·)=r:=⟨_,rfl⟩;rw[hr,hcs];rw[hl]at hM hT;replace hM:Go.Calls Tryz.prog 352 #[.string cs] w λ e w'=>e= .returned (.tuple #[.agg (Lib.setCells [a,b]),.bool true])/\w'=w.alloc (.cells (Lib.setCells [a,b]) 394):=hM;simp only[hr]at hT;have hemp:cs.toList.isEmpty=false:=by rw[Lib.toList_data,hl];rfl
 have hn1:((cs.size:Int)==1)=false:=by rw[Lib.size_eq,hl];rfl
 have hsc:(storeCells ⟨w.heap.size+1,0,none⟩ (Lib.setCells [a,b]).toList 0).run Tryz.prog ((w.alloc (.cells (Lib.setCells [a,b]) 394)).alloc (.cells Tryz.zeroCells394 394))= .ok () ((w.alloc (.cells (Lib.setCells [a,b]) 394)).alloc (.cells (Lib.setCells [a,b]) 394)):=by
  have:=run_storeCells_new (P:=Tryz.prog) (w.alloc (.cells (Lib.setCells [a,b]) 394)) 394 Tryz.zeroCells394 (Lib.setCells [a,b]) (by rw[Lib.setCells_size];kernel_rfl) (by simp_all[Lib.setCells_size]) (Lib.setCells_one _);simpa using this
 have hsz:=Lib.setCells_size [a,b];have hcellAt:∀x:UInt8,((w.alloc (.cells (Lib.setCells [a,b]) 394)).alloc (.cells (Lib.setCells [a,b]) 394)).cell? ⟨w.heap.size+1,x.toNat,none⟩=some (.bool (([a,b]:List UInt8).contains x)):=λ x=>by
  rw[World.cell?_alloc_at _ _ _ _ (by simp),Lib.setCells_at]
 have hT':=hT (w.heap.size+1) _ hcellAt;have hBel:Below w.heap.size w ((w.alloc (.cells (Lib.setCells [a,b]) 394)).alloc (.cells (Lib.setCells [a,b]) 394)):=((Below.refl _ w).alloc (ay3 _) _).alloc (by simp) _;clear hcellAt hT;have hemS:s.toList.isEmpty=true->r=[]:=λ h=>by
  simp_all[Lib.toList_data]
 clear hr hl hcs;have b6A:Tryz.prog.follows Departure.mixedOrders=true:=by kernel_rfl
 have e352:∀args w,(callFunc 352 args).run Tryz.prog w= .ok (.enter 352 args) w:=enters_of Tryz.func352 (by kernel_rfl) rfl;have e414:∀args w,(callFunc 414 args).run Tryz.prog w= .ok (.enter 414 args) w:=enters_of Tryz.func414 (by kernel_rfl) rfl
 go_enter Tryz.func397,Tryz.ntmps397
 cases hS:s.toList.isEmpty
 .go_wp2_with (first
   |(go_at_fn 352;refine hM.mono ?_;rintro e w' ⟨rfl,hw⟩;rw[hw])
   |(go_at_fn 414;refine hT'.mono ?_;rintro e w' ⟨rfl,hw⟩;rw[hw]))
  go_ret
  exact⟨rfl,hBel⟩
 .go_wp2
  go_ret
  refine⟨?_,Below.refl _ _⟩;rw[hemS hS];have:s=⟨#[]⟩:=by
   rw[Lib.toList_data]at hS;exact Ay3 (Az4.1 (Ax8.1 hS))
  rw[this];rfl
def a4b:a5o:=λ d bs=>match d,bs with
 |[.lit (.string s),.lit (.string ⟨⟨[c]⟩⟩)],[]=>if c.toNat<128 then some (vS (Lib.trimLeftB s.data.toList c),[])else none
 |[.lit (.string s),.lit (.string ⟨⟨[a,b]⟩⟩)],[]=>if a.toNat<128/\b.toNat<128 then some (vS (s.data.toList.dropWhile (([a,b]:List UInt8).contains ·)),[])else none
 |_,_=>none
theorem d7z{xa:List V}{bs bs':List (List V)}{v:V}(h:a4b xa bs=some (v,bs')):a2R Tryz.prog 397 xa bs v bs':=by
 unfold a4b at h;split at h
 .next s c=>
  split at h
  .next hs=>
   simp only[az0,az8]at h;obtain⟨rfl,rfl⟩:=h;refine a2b (us0:=[.string s,.string ⟨⟨[c]⟩⟩]) (by decide+kernel) (λ _=>rfl) (a1J rfl) λ w hw=> ?_;exact(Any.strings_TrimLeft_one d8a s c hs w).mono λ e w' ⟨h1,h2⟩=>⟨h1,a6c h2⟩
  .cases h
 .next s a b=>
  split at h
  .next hs=>
   simp only[az0,az8]at h;obtain⟨rfl,rfl⟩:=h;exact a2b (us0:=[.string s,.string ⟨⟨[a,b]⟩⟩]) (by decide+kernel) (λ _=>rfl) (a1J rfl) λ w hw=>c5X s a b hs.1 hs.2 w
  .cases h
 .cases h
end
end Go.PV
namespace Go.Proofs.YtfffjfhfafhfmaaGreatDoor
section
open Go.RowKit
theorem b8g{w:World}{g:Nat}{o:Obj}(h:w.heap[g]?=some o):g<w.heap.size:=(as3.1 h).1
def BytesAt(w:World)(g:Nat)(e:Nat)(l:List UInt8):Prop:=
 ∃C:Array Value,w.heap[g]?=some (.cells C e (C.size,C.size+1))/\∀j (h:j<l.length),C[j]?=some (.int .u8 (l[j].toNat:Int))
section
variable {w:World} {g:Nat} {e:Nat} {l:List UInt8} {j:Nat}
theorem BytesAt.cell(h:BytesAt w g e l)(hj:j<l.length):w.cell? ⟨g,j,none⟩=some (.int .u8 (l[j].toNat:Int)):=by
 obtain⟨C,h1,h2⟩:=h;grind[World.cell?]
theorem BytesAt.frozen(h:BytesAt w g e l)(hj:j<l.length):w.frozen? ⟨g,j,none⟩=false:=by
 obtain⟨C,h1,h2⟩:=h;grind[World.frozen?]
theorem BytesAt.set(h:BytesAt w g e l)(hj:j<l.length)(u:UInt8):BytesAt (w.setCell ⟨g,j,none⟩ (.int .u8 (u.toNat:Int))) g e (l.set j u):=by
 obtain⟨C,h1,h2⟩:=h;have a:j<C.size:=(as3.1 (h2 j hj)).1;refine⟨C.setIfInBounds j (.int .u8 (u.toNat:Int)),?_,λ i hi=> ?_⟩
 .grind[World.setCell]
 grind
theorem BytesAt.new(w:World)(e:Nat)(s:ByteArray):BytesAt (Lib.bytesWorld w e s) w.heap.size e s.data.toList:=by
 refine⟨_,Lib.bytesWorld_at_new w e s,λ j hj=> ?_⟩;have a:j<s.data.size:=by simpa using hj
 unfold Lib.bytesCells;grind
theorem BytesAt.back{P:Program}(h:BytesAt w g e l)(src a:Nat)(cap n:Nat)(hn:n=l.length)(hs:P.underlying src=some (.slice e))(he:P.underlying e=some (.int .u8))(hd:P.underlying a=some .string):
  (convert src a (.slice (some ⟨g,0,none⟩) n cap)).run P w= .ok (.string ⟨l.toArray⟩) w:=by
 subst hn;refine run_convert_bytes_back w src a e _ cap l hs he hd λ j hj=> ?_;have:(⟨g,0,none⟩:Addr).add j=⟨g,j,none⟩:=by unfold Addr.add;grind
 rw[this];exact h.cell hj
end
theorem b0I(w:World)(e:Nat)(s:ByteArray):Below w.heap.size w (Lib.bytesWorld w e s):=by
 refine⟨?_,?_,?_,?_,λ k hk=>Lib.bytesWorld_at_old w e s k hk⟩
 .simp[Lib.bytesWorld,World.freeze]<;>rfl
 .simp[Lib.bytesWorld,World.freeze]<;>rfl
 .simp[Lib.bytesWorld,World.freeze]<;>rfl
 grind[Lib.bytesWorld_size]
end
def a5k(n:Nat):Bool:=n==32||n==9
theorem b0N(s:ByteArray):s.data.toList.length=s.size:=rfl
theorem a5Y(s:ByteArray)(k:Nat)(h:k<s.size):s.data.toList.drop k=s[k]::s.data.toList.drop (k+1):=by
 rw[Az7 (by simpa using h)];rfl
def S(l:List UInt8):ByteArray:=⟨l.toArray⟩
theorem b2a(l:List UInt8):(S l).size=l.length:=by simp[S,ByteArray.size]
def upB(b:UInt8):Bool:=65<=b.toNat&&b.toNat<=90
def a4s(b:UInt8):UInt8:=if upB b then b+32 else b
def lowerL(l:List UInt8):List UInt8:=l.map a4s
def a9U(l:List UInt8)(k:Nat):List UInt8:=lowerL (l.take k)++l.drop k
theorem b3U(l:List UInt8)(k:Nat):(a9U l k).length=l.length:=by grind[a9U,lowerL]
theorem a8u(l:List UInt8)(k:Nat)(h:k<l.length):(a9U l k)[k]'(by grind[b3U])=l[k]:=by
 grind[a9U,lowerL]
theorem a4O(l:List UInt8)(k:Nat)(h:k<l.length):a9U l (k+1)=(a9U l k).set k (a4s l[k]):=by
 have e1:l.take (k+1)=l.take k++[l[k]]:=List.take_succ_eq_append_getElem h;have e2:l.drop k=l[k]::l.drop (k+1):=Az7 h;have a:(lowerL (l.take k)).length=k:=by simp[lowerL];omega
 simp only[a9U,e1];rw[e2,List.set_append_right _ _ (by omega),a,Nat.sub_self,List.set_cons_zero];simp only[lowerL,Aw1,av2,ar8,Ay5,ap4,ao8]
theorem b4S(l:List UInt8):a9U l 0=l:=by simp[a9U,lowerL]
theorem b8U(l:List UInt8)(k:Nat)(h:l.length<=k):a9U l k=lowerL l:=by
 grind[a9U,List.take_of_length_le]
theorem lowerL_len(l:List UInt8):(lowerL l).length=l.length:=by simp[lowerL]
theorem b5D{b:UInt8}(h:65<=(b.toNat:Int))(a:(b.toNat:Int)<=90):((a4s b).toNat:Int)=b.toNat+32:=by
 have:upB b=true:=by simp[upB];omega
 simp only[a4s,this,aw4];rw[UInt8.toNat_add];have:(32:UInt8).toNat=32:=rfl;omega
theorem a6s{b:UInt8}(h:¬(65<=(b.toNat:Int)/\(b.toNat:Int)<=90)):a4s b=b:=by
 grind[upB,a4s]
theorem c3p(b:UInt8):(b.toNat:Int)<=255:=by have:=b.toNat_lt;omega
def a2r(r:Nat):Bool:=r<=1114111&&(r<55296||57343<r)
def a5r(b:UInt8):Bool:=128<=b.toNat&&b.toNat<192
def a6D(b:UInt8):Nat:=b.toNat % 64
def c0I(l:List UInt8):Option (Nat×Nat):=
 match l with
 |[]=>none
 |a::t=>
  if a.toNat<128 then some (a.toNat,1)
  else if a.toNat<192 then none
  else if a.toNat<224 then
   match t with
   |b::_=>if a5r b&&decide (128<=a.toNat % 32*64+a6D b)then some (a.toNat % 32*64+a6D b,2)else none
   |_=>none
  else if a.toNat<240 then
   match t with
   |b::c::_=>if a5r b&&a5r c&&decide (2048<=(a.toNat % 16*64+a6D b)*64+a6D c)&&a2r ((a.toNat % 16*64+a6D b)*64+a6D c)then some ((a.toNat % 16*64+a6D b)*64+a6D c,3)else none
   |_=>none
  else if a.toNat<248 then
   match t with
   |b::c::d::_=>if a5r b&&a5r c&&a5r d&&decide (65536<=((a.toNat % 8*64+a6D b)*64+a6D c)*64+a6D d)&&a2r (((a.toNat % 8*64+a6D b)*64+a6D c)*64+a6D d)then some (((a.toNat % 8*64+a6D b)*64+a6D c)*64+a6D d,4)else none
   |_=>none
  else none
def B(n:Nat):UInt8:=UInt8.ofNat n
theorem d2l{n:Nat}(h:n<256):(B n).toNat=n:=At4 h
def a7G(r:Nat):List UInt8:=
 if r<128 then [B r]
 else if r<2048 then [B (192+r/64),B (128+r % 64)]
 else if r<65536 then [B (224+r/4096),B (128+r/64 % 64),B (128+r % 64)]
 else [B (240+r/262144),B (128+r/4096 % 64),B (128+r/64 % 64),B (128+r % 64)]
def d3c(l:List UInt8):Nat:=
 match l with
 |[]=>0
 |[a]=>a.toNat
 |[a,b]=>a.toNat % 32*64+a6D b
 |[a,b,c]=>(a.toNat % 16*64+a6D b)*64+a6D c
 |a::b::c::d::_=>((a.toNat % 8*64+a6D b)*64+a6D c)*64+a6D d
theorem lt6(b:UInt8):a6D b<64:=At5 _ (by decide)
def mkN(i:Nat):Nat:=match i with|0=>0|1=>192|2=>224|_=>240
def msN(i:Nat):Nat:=match i with|0=>127|1=>31|2=>15|_=>7
def lsN(i:Nat):Nat:=match i with|0=>0|1=>128|2=>2048|_=>65536
def a3I(i:Nat)(a:UInt8):Bool:=(a.toNat&&&(255-msN i))==mkN i
def b0a(i:Nat)(a:UInt8):Nat:=a.toNat&&&msN i
def a3G:List UInt8->Nat->Nat->Option Nat
 |_,0,r=>some r
 |[],_+1,_=>none
 |b::t,n+1,r=>if a5r b then a3G t n (r*64+a6D b)else none
def c7x(i:Nat)(o:Option Nat):Option (Nat×Nat):=
 match o with
 |none=>none
 |some r=>if decide (lsN i<=r)&&a2r r then some (r,i+1)else none
def a3A:Nat->Nat->List UInt8->Option (Nat×Nat)
 |0,_,_=>none
 |f+1,i,l=>match l with
  |[]=>none
  |a::t=>if a3I i a then(if t.length<i then none else c7x i (a3G t i (b0a i a)))else a3A f (i+1) l
theorem c0h:∀n:Fin 256,((n.val&&&(255-msN 0))==mkN 0)=decide (n.val<128)/\((n.val&&&(255-msN 1))==mkN 1)=decide (192<=n.val/\n.val<224)/\
  ((n.val&&&(255-msN 2))==mkN 2)=decide (224<=n.val/\n.val<240)/\((n.val&&&(255-msN 3))==mkN 3)=decide (240<=n.val/\n.val<248):=by decide+kernel
theorem c5t:∀n:Fin 256,n.val&&&msN 0=n.val % 128/\n.val&&&msN 1=n.val % 32/\n.val&&&msN 2=n.val % 16/\n.val&&&msN 3=n.val % 8:=by decide+kernel
theorem c9c(l:List UInt8):a3A 4 0 l=c0I l:=by
 match l with
 |[]=>rfl
 |a::t=>
  obtain⟨h0,h1,h2,h3⟩:=c0h ⟨a.toNat,a.toNat_lt⟩;obtain⟨v0,v1,e,f⟩:=c5t ⟨a.toNat,a.toNat_lt⟩;have k0:a3I 0 a=decide (a.toNat<128):=h0;have k1:a3I 1 a=decide (192<=a.toNat/\a.toNat<224):=h1;have k2:a3I 2 a=decide (224<=a.toNat/\a.toNat<240):=h2;have k3:a3I 3 a=decide (240<=a.toNat/\a.toNat<248):=h3;have g:b0a 0 a=a.toNat % 128:=v0;have h:b0a 1 a=a.toNat % 32:=v1;have j:b0a 2 a=a.toNat % 16:=e;have m:b0a 3 a=a.toNat % 8:=f;simp only[a3A,as4,Nat.reduceAdd,k0,k1,k2,k3,g,h,j,m,c0I,ay2];by_cases c0:a.toNat<128
  .grind[a2r,a3G,c7x,lsN]
  .by_cases c1:a.toNat<192
   .grind
   .by_cases c2:a.toNat<224
    .have d1:192<=a.toNat:=by omega
     match t with
     |[]=>grind
     |b::t=>grind[a2r,lt6,a3G,c7x,lsN]
    .have d1:¬(192<=a.toNat/\a.toNat<224):=by omega
     by_cases c3:a.toNat<240
     .have d2:224<=a.toNat:=by omega
      match t with
      |[]=>grind
      |[b]=>grind
      |b::c::t=>grind[a3G,c7x,lsN]
     .have d2:¬(224<=a.toNat/\a.toNat<240):=by omega
      by_cases c4:a.toNat<248
      .have d3:240<=a.toNat:=by omega
       match t with
       |[]=>grind
       |[b]=>grind
       |[b,c]=>grind
       |b::c::d::t=>grind[a3G,c7x,lsN]
      grind
section
variable {s:ByteArray} {at_ i k r:Nat} {X:Option (Nat×Nat)} {Y:Option Nat}
theorem c8j(hi:i<=4)(h:¬i<4)(H:a3A (4-i) i (s.data.toList.drop at_)=X):X=none:=by
 rw[show 4-i=0 by omega]at H;exact H.symm
theorem c8e(ha:at_<s.size)(hi:i<4)(a:¬a3I i s[at_]=true)(H:a3A (4-i) i (s.data.toList.drop at_)=X):a3A (4-(i+1)) (i+1) (s.data.toList.drop at_)=X:=by
 rw[<-H,show 4-i=(4-(i+1))+1 by omega,a5Y s at_ ha];grind[a3A]
theorem c4e(ha:at_<s.size)(hi:i<4)(a:a3I i s[at_]=true)(hl:s.size<at_+1+i)(H:a3A (4-i) i (s.data.toList.drop at_)=X):X=none:=by
 rw[<-H,show 4-i=(4-(i+1))+1 by omega,a5Y s at_ ha];simp only[a3A,a,aw4];rw[ax3 (by grind[b0N])]
theorem d5T(ha:at_<s.size)(hi:i<4)(a:a3I i s[at_]=true)(hl:¬s.size<at_+1+i)(H:a3A (4-i) i (s.data.toList.drop at_)=X):
  c7x i (a3G (s.data.toList.drop (at_+1)) i (b0a i s[at_]))=X:=by
 rw[<-H,show 4-i=(4-(i+1))+1 by omega,a5Y s at_ ha];simp only[a3A,a,aw4];rw[ay9 (by grind[b0N])]
theorem c1s(hk:k<=i)(ha:at_+k<s.size)(hc:a5r s[at_+k]=true)(H:a3G (s.data.toList.drop (at_+k)) (i+1-k) r=Y):
  a3G (s.data.toList.drop (at_+(k+1))) (i+1-(k+1)) (r*64+a6D s[at_+k])=Y:=by
 rw[<-H,show i+1-k=(i+1-(k+1))+1 by omega,a5Y s (at_+k) ha];simp_all[a3G,at7]
theorem c1Y(hk:k<=i)(ha:at_+k<s.size)(hc:a5r s[at_+k]=false)(H:a3G (s.data.toList.drop (at_+k)) (i+1-k) r=Y):Y=none:=by
 rw[<-H,show i+1-k=(i+1-(k+1))+1 by omega,a5Y s (at_+k) ha];simp[a3G,hc]
theorem c2Q(hk:k<=i+1)(a:¬k<=i)(H:a3G (s.data.toList.drop (at_+k)) (i+1-k) r=Y):Y=some r:=by
 rw[<-H,show i+1-k=0 by omega];cases s.data.toList.drop (at_+k)<;>rfl
end
theorem c3r:∀n:Fin 256,((n.val&&&192)==128)=(decide (128<=n.val)&&decide (n.val<192)):=by decide+kernel
theorem c3o(b:UInt8):((b.toNat&&&192)==128)=a5r b:=c3r ⟨b.toNat,b.toNat_lt⟩
theorem c1C{k r x:Nat}(h:(k=1/\r<256)\/(k=2/\r<16384)\/(k=3/\r<1048576)\/(k=4/\r<67108864))(hk:k<=3)(hx:x<64):
  (k+1=1/\r*64+x<256)\/(k+1=2/\r*64+x<16384)\/(k+1=3/\r*64+x<1048576)\/(k+1=4/\r*64+x<67108864):=by omega
end Go.Proofs.YtfffjfhfafhfmaaGreatDoor
