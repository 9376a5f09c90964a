/- A part of the proof of the statement TopErrors: for every input the law returns true. -/
import Derived.Test.YtfffjfhfafhfmaaGreatDoorV00
import Derived.Lib.ConvBytes
import Derived.Laws.IdiomStrings
import Derived.Below
import Derived.WalkSmall
import Derived.Lib.Bytealg
import Derived.Lib.Strings
import Derived.Laws.Strings
import Derived.Test.YtfffjfhfafhfmaaGreatDoorV02
import Derived.Test.YtfffjfhfafhfmaaGreatDoorRows
import Derived.WalkKit
import Derived.WalkSpells
import Derived.WalkLawsBesides
import Derived.Lib.Hide
import Derived.Deep.QuietTactic
import Derived.BigQuiet
import Derived.Laws.BitsAllLaws
import Derived.Laws.BitsLemmas
import Derived.LoopN
import Derived.Laws.Runes
import Derived.WalkMore
import Derived.Lib.OthersKept
import Derived.Test.YtfffjfhfafhfmaaGreatDoorV01
set_option linter.all false
namespace Go.Proofs.YtfffjfhfafhfmaaGreatDoor
section
open Go.RowKit
theorem b8g{w:World}{g:Nat}{o:Obj}(h:w.heap[g]?=some o):g<w.heap.size:=(as3.1 h).1
def BytesAt(w:World)(g:Nat)(e:Nat)(l:List UInt8):Prop:=
 ∃C:Array Value,w.heap[g]?=some (.cells C e (C.size,C.size+1))/\∀j (h:j<l.length),C[j]?=some (.int .u8 (l[j].toNat:Int))
section
variable {w:World} {g:Nat} {e:Nat} {l:List UInt8} {j:Nat}
theorem BytesAt.lt(h:BytesAt w g e l):g<w.heap.size:=by obtain⟨C,h,_⟩:=h;exact b8g h
theorem BytesAt.cell(h:BytesAt w g e l)(hj:j<l.length):w.cell? ⟨g,j,none⟩=some (.int .u8 (l[j].toNat:Int)):=by
 obtain⟨C,h1,h2⟩:=h;grind[World.cell?]
theorem BytesAt.frozen(h:BytesAt w g e l)(hj:j<l.length):w.frozen? ⟨g,j,none⟩=false:=by
 obtain⟨C,h1,h2⟩:=h;grind[World.frozen?]
theorem BytesAt.set(h:BytesAt w g e l)(hj:j<l.length)(u:UInt8):BytesAt (w.setCell ⟨g,j,none⟩ (.int .u8 (u.toNat:Int))) g e (l.set j u):=by
 obtain⟨C,h1,h2⟩:=h;have a:j<C.size:=(as3.1 (h2 j hj)).1;refine⟨C.setIfInBounds j (.int .u8 (u.toNat:Int)),?_,λ i hi=> ?_⟩
 .grind[World.setCell]
 grind
theorem BytesAt.new(w:World)(e:Nat)(s:ByteArray):BytesAt (Lib.bytesWorld w e s) w.heap.size e s.data.toList:=by
 refine⟨_,Lib.bytesWorld_at_new w e s,λ j hj=> ?_⟩;have a:j<s.data.size:=by simpa using hj
 unfold Lib.bytesCells;grind
theorem BytesAt.back{P:Program}(h:BytesAt w g e l)(src a:Nat)(cap n:Nat)(hn:n=l.length)(hs:P.underlying src=some (.slice e))(he:P.underlying e=some (.int .u8))(hd:P.underlying a=some .string):
  (convert src a (.slice (some ⟨g,0,none⟩) n cap)).run P w= .ok (.string ⟨l.toArray⟩) w:=by
 subst hn;refine run_convert_bytes_back w src a e _ cap l hs he hd λ j hj=> ?_;have:(⟨g,0,none⟩:Addr).add j=⟨g,j,none⟩:=by unfold Addr.add;grind
 rw[this];exact h.cell hj
end
theorem b0I(w:World)(e:Nat)(s:ByteArray):Below w.heap.size w (Lib.bytesWorld w e s):=by
 refine⟨?_,?_,?_,?_,λ k hk=>Lib.bytesWorld_at_old w e s k hk⟩
 .simp[Lib.bytesWorld,World.freeze]<;>rfl
 .simp[Lib.bytesWorld,World.freeze]<;>rfl
 .simp[Lib.bytesWorld,World.freeze]<;>rfl
 grind[Lib.bytesWorld_size]
end
def a5k(n:Nat):Bool:=n==32||n==9
theorem b0N(s:ByteArray):s.data.toList.length=s.size:=rfl
theorem a5Y(s:ByteArray)(k:Nat)(h:k<s.size):s.data.toList.drop k=s[k]::s.data.toList.drop (k+1):=by
 rw[Az7 (by simpa using h)];rfl
def S(l:List UInt8):ByteArray:=⟨l.toArray⟩
theorem b2a(l:List UInt8):(S l).size=l.length:=by simp[S,ByteArray.size]
def upB(b:UInt8):Bool:=65<=b.toNat&&b.toNat<=90
def a4s(b:UInt8):UInt8:=if upB b then b+32 else b
def lowerL(l:List UInt8):List UInt8:=l.map a4s
def a9U(l:List UInt8)(k:Nat):List UInt8:=lowerL (l.take k)++l.drop k
theorem b3U(l:List UInt8)(k:Nat):(a9U l k).length=l.length:=by grind[a9U,lowerL]
theorem a8u(l:List UInt8)(k:Nat)(h:k<l.length):(a9U l k)[k]'(by grind[b3U])=l[k]:=by
 grind[a9U,lowerL]
theorem a4O(l:List UInt8)(k:Nat)(h:k<l.length):a9U l (k+1)=(a9U l k).set k (a4s l[k]):=by
 have e1:l.take (k+1)=l.take k++[l[k]]:=List.take_succ_eq_append_getElem h;have e2:l.drop k=l[k]::l.drop (k+1):=Az7 h;have a:(lowerL (l.take k)).length=k:=by simp[lowerL];omega
 simp only[a9U,e1];rw[e2,List.set_append_right _ _ (by omega),a,Nat.sub_self,List.set_cons_zero];simp only[lowerL,Aw1,av2,ar8,Ay5,ap4,ao8]
theorem b4S(l:List UInt8):a9U l 0=l:=by simp[a9U,lowerL]
theorem b8U(l:List UInt8)(k:Nat)(h:l.length<=k):a9U l k=lowerL l:=by
 grind[a9U,List.take_of_length_le]
theorem lowerL_len(l:List UInt8):(lowerL l).length=l.length:=by simp[lowerL]
theorem b5D{b:UInt8}(h:65<=(b.toNat:Int))(a:(b.toNat:Int)<=90):((a4s b).toNat:Int)=b.toNat+32:=by
 have:upB b=true:=by simp[upB];omega
 simp only[a4s,this,aw4];rw[UInt8.toNat_add];have:(32:UInt8).toNat=32:=rfl;omega
theorem a6s{b:UInt8}(h:¬(65<=(b.toNat:Int)/\(b.toNat:Int)<=90)):a4s b=b:=by
 grind[upB,a4s]
theorem c3p(b:UInt8):(b.toNat:Int)<=255:=by have:=b.toNat_lt;omega
def a2r(r:Nat):Bool:=r<=1114111&&(r<55296||57343<r)
def a5r(b:UInt8):Bool:=128<=b.toNat&&b.toNat<192
def a6D(b:UInt8):Nat:=b.toNat % 64
def c0I(l:List UInt8):Option (Nat×Nat):=
 match l with
 |[]=>none
 |a::t=>
  if a.toNat<128 then some (a.toNat,1)
  else if a.toNat<192 then none
  else if a.toNat<224 then
   match t with
   |b::_=>if a5r b&&decide (128<=a.toNat % 32*64+a6D b)then some (a.toNat % 32*64+a6D b,2)else none
   |_=>none
  else if a.toNat<240 then
   match t with
   |b::c::_=>if a5r b&&a5r c&&decide (2048<=(a.toNat % 16*64+a6D b)*64+a6D c)&&a2r ((a.toNat % 16*64+a6D b)*64+a6D c)then some ((a.toNat % 16*64+a6D b)*64+a6D c,3)else none
   |_=>none
  else if a.toNat<248 then
   match t with
   |b::c::d::_=>if a5r b&&a5r c&&a5r d&&decide (65536<=((a.toNat % 8*64+a6D b)*64+a6D c)*64+a6D d)&&a2r (((a.toNat % 8*64+a6D b)*64+a6D c)*64+a6D d)then some (((a.toNat % 8*64+a6D b)*64+a6D c)*64+a6D d,4)else none
   |_=>none
  else none
def B(n:Nat):UInt8:=UInt8.ofNat n
theorem d2l{n:Nat}(h:n<256):(B n).toNat=n:=At4 h
def a7G(r:Nat):List UInt8:=
 if r<128 then [B r]
 else if r<2048 then [B (192+r/64),B (128+r % 64)]
 else if r<65536 then [B (224+r/4096),B (128+r/64 % 64),B (128+r % 64)]
 else [B (240+r/262144),B (128+r/4096 % 64),B (128+r/64 % 64),B (128+r % 64)]
def d3c(l:List UInt8):Nat:=
 match l with
 |[]=>0
 |[a]=>a.toNat
 |[a,b]=>a.toNat % 32*64+a6D b
 |[a,b,c]=>(a.toNat % 16*64+a6D b)*64+a6D c
 |a::b::c::d::_=>((a.toNat % 8*64+a6D b)*64+a6D c)*64+a6D d
theorem lt6(b:UInt8):a6D b<64:=At5 _ (by decide)
def mkN(i:Nat):Nat:=match i with|0=>0|1=>192|2=>224|_=>240
def msN(i:Nat):Nat:=match i with|0=>127|1=>31|2=>15|_=>7
def lsN(i:Nat):Nat:=match i with|0=>0|1=>128|2=>2048|_=>65536
def a3I(i:Nat)(a:UInt8):Bool:=(a.toNat&&&(255-msN i))==mkN i
def b0a(i:Nat)(a:UInt8):Nat:=a.toNat&&&msN i
def a3G:List UInt8->Nat->Nat->Option Nat
 |_,0,r=>some r
 |[],_+1,_=>none
 |b::t,n+1,r=>if a5r b then a3G t n (r*64+a6D b)else none
def c7x(i:Nat)(o:Option Nat):Option (Nat×Nat):=
 match o with
 |none=>none
 |some r=>if decide (lsN i<=r)&&a2r r then some (r,i+1)else none
def a3A:Nat->Nat->List UInt8->Option (Nat×Nat)
 |0,_,_=>none
 |f+1,i,l=>match l with
  |[]=>none
  |a::t=>if a3I i a then(if t.length<i then none else c7x i (a3G t i (b0a i a)))else a3A f (i+1) l
theorem c0h:∀n:Fin 256,((n.val&&&(255-msN 0))==mkN 0)=decide (n.val<128)/\((n.val&&&(255-msN 1))==mkN 1)=decide (192<=n.val/\n.val<224)/\
  ((n.val&&&(255-msN 2))==mkN 2)=decide (224<=n.val/\n.val<240)/\((n.val&&&(255-msN 3))==mkN 3)=decide (240<=n.val/\n.val<248):=by decide+kernel
theorem c5t:∀n:Fin 256,n.val&&&msN 0=n.val % 128/\n.val&&&msN 1=n.val % 32/\n.val&&&msN 2=n.val % 16/\n.val&&&msN 3=n.val % 8:=by decide+kernel
theorem c9c(l:List UInt8):a3A 4 0 l=c0I l:=by
 match l with
 |[]=>rfl
 |a::t=>
  obtain⟨h0,h1,h2,h3⟩:=c0h ⟨a.toNat,a.toNat_lt⟩;obtain⟨v0,v1,e,f⟩:=c5t ⟨a.toNat,a.toNat_lt⟩;have k0:a3I 0 a=decide (a.toNat<128):=h0;have k1:a3I 1 a=decide (192<=a.toNat/\a.toNat<224):=h1;have k2:a3I 2 a=decide (224<=a.toNat/\a.toNat<240):=h2;have k3:a3I 3 a=decide (240<=a.toNat/\a.toNat<248):=h3;have g:b0a 0 a=a.toNat % 128:=v0;have h:b0a 1 a=a.toNat % 32:=v1;have j:b0a 2 a=a.toNat % 16:=e;have m:b0a 3 a=a.toNat % 8:=f;simp only[a3A,as4,Nat.reduceAdd,k0,k1,k2,k3,g,h,j,m,c0I,ay2];by_cases c0:a.toNat<128
  .grind[a2r,a3G,c7x,lsN]
  .by_cases c1:a.toNat<192
   .grind
   .by_cases c2:a.toNat<224
    .have d1:192<=a.toNat:=by omega
     match t with
     |[]=>grind
     |b::t=>grind[a2r,lt6,a3G,c7x,lsN]
    .have d1:¬(192<=a.toNat/\a.toNat<224):=by omega
     by_cases c3:a.toNat<240
     .have d2:224<=a.toNat:=by omega
      match t with
      |[]=>grind
      |[b]=>grind
      |b::c::t=>grind[a3G,c7x,lsN]
     .have d2:¬(224<=a.toNat/\a.toNat<240):=by omega
      by_cases c4:a.toNat<248
      .have d3:240<=a.toNat:=by omega
       match t with
       |[]=>grind
       |[b]=>grind
       |[b,c]=>grind
       |b::c::d::t=>grind[a3G,c7x,lsN]
      grind
section
variable {s:ByteArray} {at_ i k r:Nat} {X:Option (Nat×Nat)} {Y:Option Nat}
theorem c8j(hi:i<=4)(h:¬i<4)(H:a3A (4-i) i (s.data.toList.drop at_)=X):X=none:=by
 rw[show 4-i=0 by omega]at H;exact H.symm
theorem c8e(ha:at_<s.size)(hi:i<4)(a:¬a3I i s[at_]=true)(H:a3A (4-i) i (s.data.toList.drop at_)=X):a3A (4-(i+1)) (i+1) (s.data.toList.drop at_)=X:=by
 rw[<-H,show 4-i=(4-(i+1))+1 by omega,a5Y s at_ ha];grind[a3A]
theorem c4e(ha:at_<s.size)(hi:i<4)(a:a3I i s[at_]=true)(hl:s.size<at_+1+i)(H:a3A (4-i) i (s.data.toList.drop at_)=X):X=none:=by
 rw[<-H,show 4-i=(4-(i+1))+1 by omega,a5Y s at_ ha];simp only[a3A,a,aw4];rw[ax3 (by grind[b0N])]
theorem d5T(ha:at_<s.size)(hi:i<4)(a:a3I i s[at_]=true)(hl:¬s.size<at_+1+i)(H:a3A (4-i) i (s.data.toList.drop at_)=X):
  c7x i (a3G (s.data.toList.drop (at_+1)) i (b0a i s[at_]))=X:=by
 rw[<-H,show 4-i=(4-(i+1))+1 by omega,a5Y s at_ ha];simp only[a3A,a,aw4];rw[ay9 (by grind[b0N])]
theorem c1s(hk:k<=i)(ha:at_+k<s.size)(hc:a5r s[at_+k]=true)(H:a3G (s.data.toList.drop (at_+k)) (i+1-k) r=Y):
  a3G (s.data.toList.drop (at_+(k+1))) (i+1-(k+1)) (r*64+a6D s[at_+k])=Y:=by
 rw[<-H,show i+1-k=(i+1-(k+1))+1 by omega,a5Y s (at_+k) ha];simp_all[a3G,at7]
theorem c1Y(hk:k<=i)(ha:at_+k<s.size)(hc:a5r s[at_+k]=false)(H:a3G (s.data.toList.drop (at_+k)) (i+1-k) r=Y):Y=none:=by
 rw[<-H,show i+1-k=(i+1-(k+1))+1 by omega,a5Y s (at_+k) ha];simp[a3G,hc]
theorem c2Q(hk:k<=i+1)(a:¬k<=i)(H:a3G (s.data.toList.drop (at_+k)) (i+1-k) r=Y):Y=some r:=by
 rw[<-H,show i+1-k=0 by omega];cases s.data.toList.drop (at_+k)<;>rfl
end
theorem c3r:∀n:Fin 256,((n.val&&&192)==128)=(decide (128<=n.val)&&decide (n.val<192)):=by decide+kernel
theorem c3o(b:UInt8):((b.toNat&&&192)==128)=a5r b:=c3r ⟨b.toNat,b.toNat_lt⟩
theorem c1C{k r x:Nat}(h:(k=1/\r<256)\/(k=2/\r<16384)\/(k=3/\r<1048576)\/(k=4/\r<67108864))(hk:k<=3)(hx:x<64):
  (k+1=1/\r*64+x<256)\/(k+1=2/\r*64+x<16384)\/(k+1=3/\r*64+x<1048576)\/(k+1=4/\r*64+x<67108864):=by omega
section
open Go.RowKit
theorem c5c{a b:Bool}(h:a=b):Ending.returned (.bool a)= .returned (.bool b):=by rw[h]
theorem c8O{a b:ByteArray}(h:a=b):Ending.returned (.string a)= .returned (.string b):=by rw[h]
def a3r:Array Value:= #[.int .u8 0,.int .u8 127,.int .i64 0,.int .u8 192,.int .u8 31,.int .i64 128,.int .u8 224,.int .u8 15,.int .i64 2048,.int .u8 240,.int .u8 7,.int .i64 65536]
def Forms(w:World):Prop:=∃t fr,w.heap[1]?=some (.cells a3r t fr)
set_option maxHeartbeats 400000 in
theorem c4r(r:Int)(w:World):
  Calls Tryz.prog 426 #[.int .i64 r] w λ e w'=>e= .returned (.bool (decide (0<=r)&&a2r r.toNat))/\w=w':=by
 go_enter Tryz.func426,Tryz.ntmps426
 go_wp2
 all_goals
  go_ret
  exact⟨c5c (by rw[ao7];grind[a2r]),rfl⟩
theorem a8k(r:Nat)(w:World):
  Calls Tryz.prog 426 #[.int .i64 r] w λ e a=>e= .returned (.bool (a2r r))/\w=a:=
 (c4r r w).mono λ e a ⟨h1,h2⟩=>⟨h1.trans (c5c (by simp)),h2⟩
theorem c4f(w:World):(Instr.index 440 (.agg a3r) (.int .i64 0)).run Tryz.prog w= .ok (.agg #[.int .u8 0,.int .u8 127,.int .i64 0]) w:=by kernel_rfl
theorem c3U(w:World):(Instr.index 440 (.agg a3r) (.int .i64 1)).run Tryz.prog w= .ok (.agg #[.int .u8 192,.int .u8 31,.int .i64 128]) w:=by kernel_rfl
theorem c1O(w:World):(Instr.index 440 (.agg a3r) (.int .i64 2)).run Tryz.prog w= .ok (.agg #[.int .u8 224,.int .u8 15,.int .i64 2048]) w:=by kernel_rfl
theorem c2e(w:World):(Instr.index 440 (.agg a3r) (.int .i64 3)).run Tryz.prog w= .ok (.agg #[.int .u8 240,.int .u8 7,.int .i64 65536]) w:=by kernel_rfl
theorem c9a(i:Nat)(hi:i<4)(w:World):(Instr.index 440 (.agg a3r) (.int .i64 (i:Int))).run Tryz.prog w= .ok (.agg #[.int .u8 (mkN i),.int .u8 (msN i),.int .i64 (lsN i)]) w:=
 match i,hi with
 |0,_=>c4f w
 |1,_=>c3U w
 |2,_=>c1O w
 |3,_=>c2e w
theorem d1f(r x:Nat)(hr:r<67108864)(hx:x<64):bits .or .i64 ((r:Int)*64) (x:Int)=((r*64+x:Nat):Int):=by
 have h:=bits_join .i64 62 (by decide) (λ n h0 h1=>by rw[IntKind.wrap_i64];omega) 6 ((r:Int)*64) (x:Int) (by omega) (by omega) (by omega) (by omega) (by omega) (by omega);rw[h];simp
def d6A(at_:Nat)(o:Option (Nat×Nat)):Value:=
 match o with
 |some (r,n)=> .tuple #[.int .i64 r,.int .i64 (at_+n:Nat),.int .i64 0]
 |none=> .tuple #[.int .i64 0,.int .i64 0,.int .i64 7]
variable {at_:Nat} {X:Option (Nat×Nat)}
theorem a7l(h:X=none):Ending.returned (.tuple #[.int .i64 0,.int .i64 0,.int .i64 7])= .returned (d6A at_ X):=by rw[h];rfl
theorem c6X{i r:Nat}(h:X=some (r,i+1)){a b:Int}(ha:a=r)(hb:b=at_+i+1):Ending.returned (.tuple #[.int .i64 a,.int .i64 b,.int .i64 0])= .returned (d6A at_ X):=by
 rw[h,ha,hb];show _=Ending.returned (.tuple #[.int .i64 (r:Int),.int .i64 ((at_+(i+1):Nat):Int),.int .i64 0]);grind
variable {a w:World}
theorem c7z{B:Nat}(h:Below B a w)(n:Nat):Below B a (w.drewN n):=⟨h.os,h.tape,h.output,h.size,h.block⟩
theorem c0o(b:UInt8):bits .and .u8 (b.toNat:Int) 63=((a6D b:Nat):Int):=by
 have:=b.toNat_lt;grind[u8_and63,a6D]
theorem d3y(b:UInt8):bits .and .u8 (b.toNat:Int) 192=((b.toNat&&&192:Nat):Int):=u8_and_nat _ 192 (by have:=b.toNat_lt;omega) (by omega)
theorem a6m{o:Obj}{n:Nat}(h:Below w.heap.size w a):Below w.heap.size w ((a.alloc o).drewN n):=
 c7z (h.alloc h.size o) n
set_option maxHeartbeats 1000000 in
theorem c6S(s:ByteArray)(at_:Nat)(hs:s.size<=4611686018427387904)(w:World)(hf:Forms w)(h1:at_<s.size):
  Calls Tryz.prog 409 #[.string s,.int .i64 at_] w λ e w'=>e= .returned (d6A at_ (c0I (s.data.toList.drop at_)))/\Below w.heap.size w w':=by
 obtain⟨t,fr,hf⟩:=hf;have d0:decide ((at_:Int)<0)=false:=by simp
 have d1:decide ((s.size:Int)<=(at_:Int))=false:=by simp;omega
 go_enter Tryz.func409,Tryz.ntmps409
 go_wp2_with (refine wpList_load_row rfl 440 _ rfl 1 rfl t _ fr _ hf Tryz.underlying440 rfl (by kernel_rfl) ?_)
 go_loopw [20] (λ v wr=>∃i:Nat,i<=4/\v= .int .i64 i/\a3A (4-i) i (s.data.toList.drop at_)=c0I (s.data.toList.drop at_)/\Below w.heap.size w wr) (λ v _=>4-(intOf v).toNat)
 case atStart=>grind[c9c,Below.refl]
 case round=>
  obtain⟨i,hi,rfl,hd,hB⟩:=hrel;have HD:=Lib.hid hd;clear hd hf;by_cases hlt:i<4
  .have hix:=c9a i hlt;have d2:decide ((i:Int)<4)=true:=by simp;omega
   have hb:=c3p s[at_];have hm:(msN i:Int)<=127:=by unfold msN;grind
   have hl:(lsN i:Int)<=65536:=by unfold lsN;grind
   have hmN:msN i<=127:=by omega
   have e1:bits .andNot .u8 (s[at_].toNat:Int) (msN i:Int)=((s[at_].toNat&&&(255-msN i):Nat):Int):=u8_andNot_nat _ _ (by omega) (by omega);have e2:bits .and .u8 (s[at_].toNat:Int) (msN i:Int)=((b0a i s[at_]:Nat):Int):=u8_and_nat _ _ (by omega) (by omega);by_cases hok:a3I i s[at_]=true
   .have e3:(((s[at_].toNat&&&(255-msN i):Nat):Int) !=(mkN i:Int))=false:=by
     have:s[at_].toNat&&&(255-msN i)=mkN i:=by simpa[a3I]using hok
     rw[this];simp
    have hv:(b0a i s[at_]:Int)<=255:=by have:= @Nat.and_le_left s[at_].toNat (msN i);unfold b0a;omega
    by_cases hlen:s.size<at_+1+i
    .have HX:=Lib.hid (c4e h1 hlt hok hlen HD.out);clear hok HD;generalize b0a i s[at_]=hv0 at*;generalize mkN i=mk at*;generalize msN i=ms at*;generalize lsN i=ls at*
     go_wp2
     go_quiet (fail)
     go_wp2
     go_quiet (fail)
     go_wp2
     go_ret3
     exact⟨a7l HX.out,a6m hB⟩
    .have d3:decide ((s.size:Int)-(at_:Int)-1<(i:Int))=false:=by simp;omega
     have HX:=Lib.hid (d5T h1 hlt hok hlen HD.out);have HL:Hid (c7x i=λ o=>match o with|none=>none|some r=>if decide (lsN i<=r)&&a2r r then some (r,i+1)else none):=rfl;clear hok HD;generalize b0a i s[at_]=hv0 at*;generalize mkN i=mk at*;generalize msN i=ms at*;generalize lsN i=ls at*
     go_wp2
     go_quiet (fail)
     go_wp2
     go_quiet (fail)
     go_wp2
     clear e1 e2 e3 hix hb
     go_loop [9,10] (λ u v=>∃k r:Nat,1<=k/\k<=i+1/\v= .int .i64 k/\u= .int .i64 r/\((k=1/\r<256)\/(k=2/\r<16384)\/(k=3/\r<1048576)\/(k=4/\r<67108864))/\a3G (s.data.toList.drop (at_+k)) (i+1-k) r=a3G (s.data.toList.drop (at_+1)) i hv0) (λ _ v=>5-(intOf v).toNat)
     case atStart=>exact⟨1,hv0,by omega,by omega,rfl,rfl,by omega,rfl⟩
     case round=>
      obtain⟨k,r,hk0,hk,rfl,rfl,hrb,hco⟩:=hrel;have HC:=Lib.hid hco;have HR:=Lib.hid hrb;have hr0:r<67108864:=by omega
      clear hco hrb;by_cases hki:k<=i
      .have hak:at_+k<s.size:=by omega
       have hb:=c3p s[at_+k];have f1:=d3y s[at_+k];have f2:=c0o s[at_+k];have hx6:=lt6 s[at_+k];have f3:=d1f r (a6D s[at_+k]) hr0 hx6;have hca:=c3o s[at_+k];by_cases hcb:a5r s[at_+k]=true
       .have f4:(((s[at_+k].toNat&&&192:Nat):Int) !=128)=false:=by
         rw[hcb]at hca;have:s[at_+k].toNat&&&192=128:=by simpa using hca
         rw[this];rfl
        have HS:=Lib.hid (c1s hki hak hcb HC.out);have HB2:=Lib.hid (c1C HR.out (by omega) hx6);clear hca hcb;generalize a6D s[at_+k]=x6 at*
        go_wp2
        go_round
        case rel=>exact⟨k+1,r*64+x6,by omega,by omega,by go_num,rfl,HB2.out,HS.out⟩
        case measure=>simp[intOf];omega
       .have hcb':a5r s[at_+k]=false:=by simpa using hcb
        have f4:(((s[at_+k].toNat&&&192:Nat):Int) !=128)=true:=by
         rw[hcb']at hca;have:¬s[at_+k].toNat&&&192=128:=by simpa using hca
         rw[Av2];omega
        have HN:=Lib.hid (c1Y hki hak hcb' HC.out);clear hca hcb hcb'
        go_wp2
        go_ret3
        exact⟨a7l (by rw[<-HX.out,HN.out];rfl),a6m hB⟩
      .have HE:=Lib.hid (c2Q hk hki HC.out);have hF:c7x i (some r)=c0I (s.data.toList.drop at_):=by rw[<-HX.out,HE.out]
       rw[HL.out]at hF;have HF:=Lib.hid hF;clear hF HL;by_cases hls:ls<=r
       .by_cases hp:a2r r=true
        .have HY:=Lib.hid (show c0I (s.data.toList.drop at_)=some (r,i+1)from by rw[<-HF.out];simp[hls,hp]);clear HF
         go_wp2_with (go_at_call 426;refine(a8k _ _).mono ?_;rintro e w' ⟨rfl,rfl⟩)
         go_ret3
         exact⟨c6X HY.out rfl rfl,a6m hB⟩
        .have hp':a2r r=false:=by simpa using hp
         have HY:=Lib.hid (show c0I (s.data.toList.drop at_)=none from by rw[<-HF.out];simp[hls,hp']);clear HF hp
         go_wp2_with (go_at_call 426;refine(a8k _ _).mono ?_;rintro e w' ⟨rfl,rfl⟩)
         go_ret3
         exact⟨a7l HY.out,a6m hB⟩
       .have HY:=Lib.hid (show c0I (s.data.toList.drop at_)=none from by rw[<-HF.out];simp[hls]);clear HF
        go_wp2
        go_ret3
        exact⟨a7l HY.out,a6m hB⟩
   .have e3:(((s[at_].toNat&&&(255-msN i):Nat):Int) !=(mkN i:Int))=true:=by
     have:¬s[at_].toNat&&&(255-msN i)=mkN i:=by simpa[a3I]using hok
     rw[Av2];omega
    have HX:=Lib.hid (c8e h1 hlt hok HD.out);generalize mkN i=mk at*;generalize msN i=ms at*;generalize lsN i=ls at*;clear hok
    go_wp2
    go_quiet (fail)
    go_wp2
    go_roundw
    case rel=>exact⟨i+1,by omega,by go_num,HX.out,a6m hB⟩
    case measure=>simp[intOf];omega
  .have HX:=Lib.hid (c8j hi hlt HD.out)
   go_wp2
   go_ret3
   exact⟨a7l HX.out,hB⟩
end
end Go.Proofs.YtfffjfhfafhfmaaGreatDoor
namespace Go.PV
section
open Go.RowKit Go.Proofs Go.Shelf Go.Proofs.YtfffjfhfafhfmaaGreatDoor
def a4y:a5o:=λ b bs=>match b,bs with
 |[.lit (.string s),.lit (.int .i64 a)],[]=>if s.size<=4611686018427387904 then
   (if 0<=a/\a<s.size then(match c0I (s.data.toList.drop a.toNat)with
    |some (r,n)=>some (.tup [vI r,vI (a.toNat+n:Nat),vI 0],[])
    |none=>some (.tup [vI 0,vI 0,vI 7],[]))
   else some (.tup [vI 0,vI 0,vI 4],[]))else none
 |_,_=>none
theorem GlW.forms{w:World}(h:GlW w):Forms w:=by
 obtain⟨_,t,fr,h⟩:=h;exact⟨t,fr,h⟩
theorem d8k{M:Mem}{a b c:Int}:Rep M (.tup [vI a,vI b,vI c]) (.tuple #[.int .i64 a,.int .i64 b,.int .i64 c]):= .tup rfl λ j x u hx hu=>by
 match j,hx,hu with
 |0,hx,hu=>cases hx;cases hu;exact a1J rfl
 |1,hx,hu=>cases hx;cases hu;exact a1J rfl
 |2,hx,hu=>cases hx;cases hu;exact a1J rfl
 |j+3,hx,hu=>simp at hx
set_option maxHeartbeats 400000 in
theorem c0Y(s:ByteArray)(a:Int)(h:¬(0<=a/\a<s.size))(w:World):
  Go.Calls Tryz.prog 409 #[.string s,.int .i64 a] w λ e w'=>e= .returned (.tuple #[.int .i64 0,.int .i64 0,.int .i64 4])/\Below w.heap.size w w':=by
 by_cases h0:a<0
 .have h0':decide (a<0)=true:=by simp;omega
  go_enter Tryz.func409,Tryz.ntmps409
  go_wp2
  go_ret3
  exact⟨rfl,Below.refl _ _⟩
 .have h1:(s.size:Int)<=a:=by omega
  have h0':decide (a<0)=false:=by simp;omega
  clear h
  go_enter Tryz.func409,Tryz.ntmps409
  go_wp2
  go_ret3
  exact⟨rfl,Below.refl _ _⟩
theorem d7t{xa:List V}{bs bs':List (List V)}{v:V}(h:a4y xa bs=some (v,bs')):a2R Tryz.prog 409 xa bs v bs':=by
 unfold a4y at h;split at h
 .next s a=>
  split at h
  .next hs=>
   split at h
   .next ha=>
    have hw:∀w:World,GlW w->Go.Calls Tryz.prog 409 #[.string s,.int .i64 a] w λ e w'=>e= .returned (d6A a.toNat (c0I (s.data.toList.drop a.toNat)))/\Below w.heap.size w w':=λ w hw=>by
     have:=c6S s a.toNat hs w hw.forms (by omega)
     rwa [show((a.toNat:Nat):Int)=a by omega]at this
    split at h
    .next r n hd=>
     simp only[az0,az8]at h;obtain⟨rfl,rfl⟩:=h;rw[hd]at hw;refine a2b (us0:=[.string s,.int .i64 a]) (by decide+kernel) (λ _=>rfl) d8k λ w h=> ?_;exact hw w h
    .next hd=>
     simp only[az0,az8]at h;obtain⟨rfl,rfl⟩:=h;rw[hd]at hw;refine a2b (us0:=[.string s,.int .i64 a]) (by decide+kernel) (λ _=>rfl) d8k λ w h=> ?_;exact hw w h
   .next ha=>
    simp only[az0,az8]at h;obtain⟨rfl,rfl⟩:=h;exact a2b (us0:=[.string s,.int .i64 a]) (by decide+kernel) (λ _=>rfl) d8k λ w _=>c0Y s a ha w
  .cases h
 .cases h
end
end Go.PV
namespace Go.Proofs.YtfffjfhfafhfmaaGreatDoor
section
open Go.RowKit
theorem Forms.cell{w:World}(h:Forms w)(i:Nat):w.cell? ⟨1,i,none⟩=a3r[i]?:=by
 obtain⟨t,fr,h⟩:=h;grind[cell_of_row]
theorem Forms.alloc{w:World}(h:Forms w)(o:Obj):Forms (w.alloc o):=by
 obtain⟨t,fr,h⟩:=h;exact⟨t,fr,(Below.heap_alloc w o _ (b8g h)).trans h⟩
variable {n:Nat} {a w:World}
theorem Forms.below(h:Forms w)(hb:Below n w a)(hn:1<n):Forms a:=by
 obtain⟨t,fr,h⟩:=h;exact⟨t,fr,(hb.block _ hn).trans h⟩
theorem Forms.lt(h:Forms w):1<w.heap.size:=by
 obtain⟨t,fr,h⟩:=h;exact b8g h
theorem d6p(h:Forms w)(hb:Below w.heap.size w a):Forms a:=h.below hb h.lt
theorem c4B(x:Nat)(hx:x<4611686018427387904):bits .and .i64 (x:Int) 63=((x % 64:Nat):Int):=by
 have h:=bits_mask .i64 62 (by decide) (λ n h0 h1=>by rw[IntKind.wrap_i64];omega) 6 (by decide) (x:Int) (by omega) (by omega);simp at h|-;exact h
theorem b2l(x:Nat)(hx:x<4611686018427387904):bits .or .u8 128 (bits .and .i64 (x:Int) 63 % 256)=((128+x % 64:Nat):Int):=by
 grind[u8_or128,c4B]
theorem a9s(w:World)(l:List UInt8)(cap:Nat)(C:Array Value)(hC:C=(l.map λ b=>Value.int .u8 (b.toNat:Int)).toArray):
  (convert 22 9 (.slice (some ⟨w.heap.size,0,none⟩) l.length cap)).run Tryz.prog (w.alloc (.cells C 5))= .ok (.string (S l)) (w.alloc (.cells C 5)):=by
 subst hC;refine run_convert_bytes_back (P:=Tryz.prog) _ 22 9 5 _ cap l al0 am8 am6 λ j hj=> ?_;have:(⟨w.heap.size,0,none⟩:Addr).add j=⟨w.heap.size,j,none⟩:=by unfold Addr.add;grind
 simp_all
theorem Bc(h:n<256):((B n).toNat:Int)=(n:Int):=by rw[d2l h]
theorem d5A(r:Nat)(h1:(r:Int)<128):a7G r=[B (r)]:=by
 unfold a7G;grind
theorem d6Z(r:Nat)(h1:(r:Int)<128)(w:World):(convert 22 9 (.slice (some ⟨w.heap.size,0,none⟩) 1 1)).run Tryz.prog (w.alloc (.cells #[.int .u8 ((r:Int))] 5))= .ok (.string (S (a7G r))) (w.alloc (.cells #[.int .u8 ((r:Int))] 5)):=by
 rw[d5A r h1];refine a9s w [B (r)] 1 _ ?_;grind[Bc]
set_option maxRecDepth 100000 in
set_option maxHeartbeats 1000000 in
theorem c2V(r:Nat)(h1:(r:Int)<128)(hp:a2r r=true)(w:World)(hf:Forms w):
  Calls Tryz.prog 411 #[.int .i64 r] w λ e w'=>e= .returned (.tuple #[.string (S (a7G r)),.int .i64 0])/\Below w.heap.size w w':=by
 have c5:w.cell? ⟨1,5,none⟩=some (.int .i64 128):=hf.cell 5;have m0:∀o,(w.alloc o).cell? ⟨1,0,none⟩=some (.int .u8 0):=λ o=>(hf.alloc o).cell 0;have hmk:∀w,(Instr.makeSlice 22 (.int .i64 1) (.int .i64 1)).run Tryz.prog w= .ok (.slice (some ⟨w.heap.size,0,none⟩) 1 1) (w.alloc (.cells #[.int .u8 0] 5)):=λ _=>by kernel_rfl
 have om:bits .or .u8 0 ((r:Int))=((r:Nat):Int):=by have h:=u8_or_nat 0 r (by omega) (by omega);simpa using h
 have hcv:=d6Z r h1 w
 go_enter Tryz.func411,Tryz.ntmps411
 go_wp2_with (go_at_call 426;refine(a8k _ _).mono ?_;rintro e w' ⟨rfl,rfl⟩)
 refine wp_loop_rounds 1 ?_;rw[rounds_succ]
 go_wp2
 refine wp_loop_rounds 1 ?_;rw[rounds_succ]
 go_wp2
 go_ret2
 exact⟨rfl,(Below.refl _ _).alloc (ay3 _) _⟩
theorem d3N(r:Nat)(h0:128<=(r:Int))(h1:(r:Int)<2048):a7G r=[B (192+r/64),B (128+r % 64)]:=by
 unfold a7G;grind
theorem d8B(r:Nat)(h0:128<=(r:Int))(h1:(r:Int)<2048)(w:World):(convert 22 9 (.slice (some ⟨w.heap.size,0,none⟩) 2 2)).run Tryz.prog (w.alloc (.cells #[.int .u8 (192+(r:Int)/64),.int .u8 (128+(r:Int) % 64)] 5))= .ok (.string (S (a7G r))) (w.alloc (.cells #[.int .u8 (192+(r:Int)/64),.int .u8 (128+(r:Int) % 64)] 5)):=by
 rw[d3N r h0 h1];refine a9s w [B (192+r/64),B (128+r % 64)] 2 _ ?_;simp only[av2,ar8];rw[Bc (n:=192+r/64) (by omega),Bc (n:=128+r % 64) (by omega),show((192+r/64:Nat):Int)=192+(r:Int)/64 by omega,show((128+r % 64:Nat):Int)=128+(r:Int) % 64 by omega]
set_option maxRecDepth 100000 in
set_option maxHeartbeats 1000000 in
theorem c4b(r:Nat)(h0:128<=(r:Int))(h1:(r:Int)<2048)(hp:a2r r=true)(w:World)(hf:Forms w):
  Calls Tryz.prog 411 #[.int .i64 r] w λ e w'=>e= .returned (.tuple #[.string (S (a7G r)),.int .i64 0])/\Below w.heap.size w w':=by
 have c5:w.cell? ⟨1,5,none⟩=some (.int .i64 128):=hf.cell 5;have c8:w.cell? ⟨1,8,none⟩=some (.int .i64 2048):=hf.cell 8;have m0:∀o,(w.alloc o).cell? ⟨1,3,none⟩=some (.int .u8 192):=λ o=>(hf.alloc o).cell 3;have hmk:∀w,(Instr.makeSlice 22 (.int .i64 2) (.int .i64 2)).run Tryz.prog w= .ok (.slice (some ⟨w.heap.size,0,none⟩) 2 2) (w.alloc (.cells #[.int .u8 0,.int .u8 0] 5)):=λ _=>by kernel_rfl
 have o0:bits .or .u8 128 (bits .and .i64 (r:Int) 63 % 256)=128+(r:Int) % 64:=by
  have h:=b2l (r) (by omega);rw[show((r:Nat):Int)=(r:Int)by omega]at h;exact h.trans (by omega)
 have om:bits .or .u8 192 (((r:Int)/64))=192+(r:Int)/64:=by
  have h:=u8_or192 (y:=((r:Int)/64)) (by omega) (by omega);exact h.trans (by omega)
 have hcv:=d8B r h0 h1 w;have qn:((r:Int)/64)<=255:=by omega
 have q0:0<=(r:Int):=by omega
 have d1:decide ((128:Int)<=(r:Int))=true:=by simp;omega
 have d2:decide ((2048:Int)<=(r:Int))=false:=by simp;omega
 clear h0 h1
 go_enter Tryz.func411,Tryz.ntmps411
 go_wp2_with (go_at_call 426;refine(a8k _ _).mono ?_;rintro e w' ⟨rfl,rfl⟩)
 refine wp_loop_rounds 2 ?_;rw[rounds_succ]
 go_wp2
 rw[rounds_succ]
 go_wp2
 refine wp_loop_rounds 2 ?_;rw[rounds_succ]
 go_wp2
 rw[rounds_succ]
 go_wp2
 go_ret2
 exact⟨rfl,(Below.refl _ _).alloc (ay3 _) _⟩
theorem d4g(r:Nat)(h0:2048<=(r:Int))(h1:(r:Int)<65536):a7G r=[B (224+r/4096),B (128+r/64 % 64),B (128+r % 64)]:=by
 unfold a7G;grind
theorem d7j(r:Nat)(h0:2048<=(r:Int))(h1:(r:Int)<65536)(w:World):(convert 22 9 (.slice (some ⟨w.heap.size,0,none⟩) 3 3)).run Tryz.prog (w.alloc (.cells #[.int .u8 (224+(r:Int)/4096),.int .u8 (128+(r:Int)/64 % 64),.int .u8 (128+(r:Int) % 64)] 5))= .ok (.string (S (a7G r))) (w.alloc (.cells #[.int .u8 (224+(r:Int)/4096),.int .u8 (128+(r:Int)/64 % 64),.int .u8 (128+(r:Int) % 64)] 5)):=by
 rw[d4g r h0 h1];refine a9s w [B (224+r/4096),B (128+r/64 % 64),B (128+r % 64)] 3 _ ?_;simp only[av2,ar8];rw[Bc (n:=224+r/4096) (by omega),Bc (n:=128+r/64 % 64) (by omega),Bc (n:=128+r % 64) (by omega),show((224+r/4096:Nat):Int)=224+(r:Int)/4096 by omega,show((128+r/64 % 64:Nat):Int)=128+(r:Int)/64 % 64 by omega,show((128+r % 64:Nat):Int)=128+(r:Int) % 64 by omega]
set_option maxRecDepth 100000 in
set_option maxHeartbeats 1000000 in
theorem c3c(r:Nat)(h0:2048<=(r:Int))(h1:(r:Int)<65536)(hp:a2r r=true)(w:World)(hf:Forms w):
  Calls Tryz.prog 411 #[.int .i64 r] w λ e w'=>e= .returned (.tuple #[.string (S (a7G r)),.int .i64 0])/\Below w.heap.size w w':=by
 have c5:w.cell? ⟨1,5,none⟩=some (.int .i64 128):=hf.cell 5;have c8:w.cell? ⟨1,8,none⟩=some (.int .i64 2048):=hf.cell 8;have c11:w.cell? ⟨1,11,none⟩=some (.int .i64 65536):=hf.cell 11;have m0:∀o,(w.alloc o).cell? ⟨1,6,none⟩=some (.int .u8 224):=λ o=>(hf.alloc o).cell 6;have hmk:∀w,(Instr.makeSlice 22 (.int .i64 3) (.int .i64 3)).run Tryz.prog w= .ok (.slice (some ⟨w.heap.size,0,none⟩) 3 3) (w.alloc (.cells #[.int .u8 0,.int .u8 0,.int .u8 0] 5)):=λ _=>by kernel_rfl
 have o0:bits .or .u8 128 (bits .and .i64 (r:Int) 63 % 256)=128+(r:Int) % 64:=by
  have h:=b2l (r) (by omega);rw[show((r:Nat):Int)=(r:Int)by omega]at h;exact h.trans (by omega)
 have o1:bits .or .u8 128 (bits .and .i64 ((r:Int)/64) 63 % 256)=128+(r:Int)/64 % 64:=by
  have h:=b2l (r/64) (by omega);rw[show((r/64:Nat):Int)=((r:Int)/64)by omega]at h;exact h.trans (by omega)
 have om:bits .or .u8 224 ((((r:Int)/64)/64))=224+(r:Int)/4096:=by
  have h:=u8_or224 (y:=(((r:Int)/64)/64)) (by omega) (by omega);exact h.trans (by omega)
 have hcv:=d7j r h0 h1 w;have qn:(((r:Int)/64)/64)<=255:=by omega
 have q0:0<=(r:Int):=by omega
 have d1:decide ((128:Int)<=(r:Int))=true:=by simp;omega
 have d2:decide ((2048:Int)<=(r:Int))=true:=by simp;omega
 have d3:decide ((65536:Int)<=(r:Int))=false:=by simp;omega
 clear h0 h1
 go_enter Tryz.func411,Tryz.ntmps411
 go_wp2_with (go_at_call 426;refine(a8k _ _).mono ?_;rintro e w' ⟨rfl,rfl⟩)
 refine wp_loop_rounds 3 ?_;rw[rounds_succ]
 go_wp2
 rw[rounds_succ]
 go_wp2
 rw[rounds_succ]
 go_wp2
 refine wp_loop_rounds 3 ?_;rw[rounds_succ]
 go_wp2
 rw[rounds_succ]
 go_wp2
 rw[rounds_succ]
 go_wp2
 go_ret2
 exact⟨rfl,(Below.refl _ _).alloc (ay3 _) _⟩
theorem d4w(r:Nat)(h0:65536<=(r:Int))(h1:(r:Int)<=1114111):a7G r=[B (240+r/262144),B (128+r/4096 % 64),B (128+r/64 % 64),B (128+r % 64)]:=by
 unfold a7G;grind
theorem d8z(r:Nat)(h0:65536<=(r:Int))(h1:(r:Int)<=1114111)(w:World):(convert 22 9 (.slice (some ⟨w.heap.size,0,none⟩) 4 4)).run Tryz.prog (w.alloc (.cells #[.int .u8 (240+(r:Int)/262144),.int .u8 (128+(r:Int)/4096 % 64),.int .u8 (128+(r:Int)/64 % 64),.int .u8 (128+(r:Int) % 64)] 5))= .ok (.string (S (a7G r))) (w.alloc (.cells #[.int .u8 (240+(r:Int)/262144),.int .u8 (128+(r:Int)/4096 % 64),.int .u8 (128+(r:Int)/64 % 64),.int .u8 (128+(r:Int) % 64)] 5)):=by
 rw[d4w r h0 h1];refine a9s w [B (240+r/262144),B (128+r/4096 % 64),B (128+r/64 % 64),B (128+r % 64)] 4 _ ?_;simp only[av2,ar8];rw[Bc (n:=240+r/262144) (by omega),Bc (n:=128+r/4096 % 64) (by omega),Bc (n:=128+r/64 % 64) (by omega),Bc (n:=128+r % 64) (by omega),show((240+r/262144:Nat):Int)=240+(r:Int)/262144 by omega,show((128+r/4096 % 64:Nat):Int)=128+(r:Int)/4096 % 64 by omega,show((128+r/64 % 64:Nat):Int)=128+(r:Int)/64 % 64 by omega,show((128+r % 64:Nat):Int)=128+(r:Int) % 64 by omega]
set_option maxRecDepth 100000 in
set_option maxHeartbeats 1000000 in
theorem c1Q(r:Nat)(h0:65536<=(r:Int))(h1:(r:Int)<=1114111)(hp:a2r r=true)(w:World)(hf:Forms w):
  Calls Tryz.prog 411 #[.int .i64 r] w λ e w'=>e= .returned (.tuple #[.string (S (a7G r)),.int .i64 0])/\Below w.heap.size w w':=by
 have c5:w.cell? ⟨1,5,none⟩=some (.int .i64 128):=hf.cell 5;have c8:w.cell? ⟨1,8,none⟩=some (.int .i64 2048):=hf.cell 8;have c11:w.cell? ⟨1,11,none⟩=some (.int .i64 65536):=hf.cell 11;have m0:∀o,(w.alloc o).cell? ⟨1,9,none⟩=some (.int .u8 240):=λ o=>(hf.alloc o).cell 9;have hmk:∀w,(Instr.makeSlice 22 (.int .i64 4) (.int .i64 4)).run Tryz.prog w= .ok (.slice (some ⟨w.heap.size,0,none⟩) 4 4) (w.alloc (.cells #[.int .u8 0,.int .u8 0,.int .u8 0,.int .u8 0] 5)):=λ _=>by kernel_rfl
 have o0:bits .or .u8 128 (bits .and .i64 (r:Int) 63 % 256)=128+(r:Int) % 64:=by
  have h:=b2l (r) (by omega);rw[show((r:Nat):Int)=(r:Int)by omega]at h;exact h.trans (by omega)
 have o1:bits .or .u8 128 (bits .and .i64 ((r:Int)/64) 63 % 256)=128+(r:Int)/64 % 64:=by
  have h:=b2l (r/64) (by omega);rw[show((r/64:Nat):Int)=((r:Int)/64)by omega]at h;exact h.trans (by omega)
 have o2:bits .or .u8 128 (bits .and .i64 (((r:Int)/64)/64) 63 % 256)=128+(r:Int)/4096 % 64:=by
  have h:=b2l (r/4096) (by omega);rw[show((r/4096:Nat):Int)=(((r:Int)/64)/64)by omega]at h;exact h.trans (by omega)
 have om:bits .or .u8 240 (((((r:Int)/64)/64)/64))=240+(r:Int)/262144:=by
  have h:=u8_or240 (y:=((((r:Int)/64)/64)/64)) (by omega) (by omega);exact h.trans (by omega)
 have hcv:=d8z r h0 h1 w;have qn:((((r:Int)/64)/64)/64)<=255:=by omega
 have q0:0<=(r:Int):=by omega
 have d1:decide ((128:Int)<=(r:Int))=true:=by simp;omega
 have d2:decide ((2048:Int)<=(r:Int))=true:=by simp;omega
 have d3:decide ((65536:Int)<=(r:Int))=true:=by simp;omega
 clear h0 h1
 go_enter Tryz.func411,Tryz.ntmps411
 go_wp2_with (go_at_call 426;refine(a8k _ _).mono ?_;rintro e w' ⟨rfl,rfl⟩)
 refine wp_loop_rounds 4 ?_;rw[rounds_succ]
 go_wp2
 rw[rounds_succ]
 go_wp2
 rw[rounds_succ]
 go_wp2
 rw[rounds_succ]
 go_wp2
 refine wp_loop_rounds 4 ?_;rw[rounds_succ]
 go_wp2
 rw[rounds_succ]
 go_wp2
 rw[rounds_succ]
 go_wp2
 rw[rounds_succ]
 go_wp2
 go_ret2
 exact⟨rfl,(Below.refl _ _).alloc (ay3 _) _⟩
end
end Go.Proofs.YtfffjfhfafhfmaaGreatDoor
namespace Go.PV
section
open Go.RowKit Go.Proofs Go.Shelf Go.Proofs.YtfffjfhfafhfmaaGreatDoor
def a5P:a5o:=λ a bs=>match a,bs with
 |[.lit (.int .i64 r)],[]=>if decide (0<=r)&&a2r r.toNat then some (.tup [vS (a7G r.toNat),vI 0],[])else some (.tup [vS [],vI 4],[])
 |_,_=>none
set_option maxHeartbeats 400000 in
theorem c6z(r:Int)(h:(decide (0<=r)&&a2r r.toNat)=false)(w:World):
  Go.Calls Tryz.prog 411 #[.int .i64 r] w λ e w'=>e= .returned (.tuple #[.string ⟨#[]⟩,.int .i64 4])/\Below w.heap.size w w':=by
 have c:=λ w=>(c4r r w).mono (R':=λ e w'=>e= .returned (.bool false)/\w=w') λ e w' ⟨h1,h2⟩=>⟨h1.trans (Go.PV.c5c h),h2⟩;have C:=Lib.hid c;clear c h
 go_enter Tryz.func411,Tryz.ntmps411
 go_wp2_with (go_at_call 426;refine(C.out _).mono ?_;rintro e w' ⟨rfl,rfl⟩)
 go_ret2
 exact⟨rfl,Below.refl _ _⟩
theorem d9m{M:Mem}{a:ByteArray}{c:Int}:Rep M (.tup [.lit (.string a),vI c]) (.tuple #[.string a,.int .i64 c]):= .tup rfl λ j x u hx hu=>by
 match j,hx,hu with
 |0,hx,hu=>cases hx;cases hu;exact a1J rfl
 |1,hx,hu=>cases hx;cases hu;exact a1J rfl
 |j+2,hx,hu=>simp at hx
theorem d8c{xa:List V}{bs bs':List (List V)}{v:V}(h:a5P xa bs=some (v,bs')):a2R Tryz.prog 411 xa bs v bs':=by
 unfold a5P at h;split at h
 .next r=>
  split at h
  .next hr=>
   simp only[az0,az8]at h;obtain⟨rfl,rfl⟩:=h;refine a2b (us0:=[.int .i64 r]) (by decide+kernel) (λ _=>rfl) d9m λ w hw=> ?_;have hf:=hw.forms;have h':=hr;simp only[az6,ay2]at h';obtain⟨n,rfl⟩:∃n:Nat,r=n:=⟨r.toNat,by omega⟩;have hp:a2r n=true:=by simpa using h'.2
   have hp':=hp;simp only[a2r,az6,ay2]at hp';by_cases h1:n<128
   .exact c2V n (by omega) hp w hf
   .by_cases h2:n<2048
    .exact c4b n (by omega) (by omega) hp w hf
    .by_cases h3:n<65536
     .exact c3c n (by omega) (by omega) hp w hf
     .exact c1Q n (by omega) (by omega) hp w hf
  .next hr=>
   simp only[az0,az8]at h;obtain⟨rfl,rfl⟩:=h;exact a2b (us0:=[.int .i64 r]) (by decide+kernel) (λ _=>rfl) d9m λ w hw=>c6z r (by grind) w
 .cases h
end
end Go.PV
namespace Go.Proofs.YtfffjfhfafhfmaaGreatDoor
section
open Go.RowKit
def U(n:Nat):Prop:=0<=n/\n<=18446744073709551615
def dig(n:Nat):UInt8:=UInt8.ofNat (48+n % 10)
theorem a7z(n:Nat):(dig n).toNat=48+n % 10:=At4 (by grind)
def b2L:Nat->Nat->List UInt8
 |0,n=>[dig n]
 |f+1,n=>if n<10 then [dig n]else b2L f (n/10)++[dig n]
def fmtL(n:Nat):List UInt8:=b2L 19 n
def pw:Nat->Nat
 |0=>10
 |k+1=>10*pw k
theorem d8y:pw 19=100000000000000000000:=by decide
variable {f n:Nat}
theorem b0v(h:n<10):b2L f n=[dig n]:=by cases f<;>simp[b2L,h]
theorem b7E(hf:0<f)(h:¬n<10):b2L f n=b2L (f-1) (n/10)++[dig n]:=by
 obtain⟨g,rfl⟩:∃g,f=g+1:=⟨f-1,by omega⟩;simp[b2L,h]
theorem c2u(h:n<pw f)(a:¬n<10):0<f/\n/10<pw (f-1):=by
 cases f with
 |zero=>grind[pw]
 |succ g=>grind[pw]
def Tail(w:World)(g:Nat)(k:Nat)(b:List UInt8):Prop:=
 ∃C:Array Value,w.heap[g]?=some (.cells C 268 (0,0))/\C.size=20/\k+1+b.length=20/\∀j (h:j<b.length),C[k+1+j]?=some (.int .u8 (b[j].toNat:Int))
section
variable {w:World} {g k:Nat} {b:List UInt8}
theorem Tail.cell(h:Tail w g k b):∃v,w.cell? ⟨g,k,none⟩=some v:=by
 obtain⟨C,h1,h2,h3,_⟩:=h;exact⟨C[k]'(by omega),by rw[cell_of_row w g k C _ _ h1];grind⟩
theorem Tail.frozen(h:Tail w g k b)(j:Nat):w.frozen? ⟨g,j,none⟩=false:=by
 obtain⟨C,h1,_⟩:=h;simp[World.frozen?,h1]
theorem Tail.set(h:Tail w g k b)(d:UInt8)(a:Nat)(hk:a+1=k):Tail (w.setCell ⟨g,k,none⟩ (.int .u8 (d.toNat:Int))) g a (d::b):=by
 obtain⟨C,h1,h2,h3,h4⟩:=h;refine⟨C.setIfInBounds k (.int .u8 (d.toNat:Int)),?_,by simp[h2],by simp;omega,λ j hj=> ?_⟩
 .grind[World.setCell]
 grind
set_option maxRecDepth 100000 in
theorem Tail.conv(h:Tail w g k b)(d:UInt8):(convert 22 9 (.slice (some ⟨g,k,none⟩) (20-k) (20-k))).run Tryz.prog (w.setCell ⟨g,k,none⟩ (.int .u8 (d.toNat:Int)))= .ok (.string (S (d::b))) (w.setCell ⟨g,k,none⟩ (.int .u8 (d.toNat:Int))):=by
 obtain⟨C,h1,h2,h3,h4⟩:=h;have hl:20-k=(d::b).length:=by simp;omega
 have hlen:(20-k,20-k)=((d::b).length,20-k):=by rw[<-hl]
 injection hlen with e1 _
 conv=>lhs;rw[show Value.slice (some ⟨g,k,none⟩) (20-k) (20-k)=Value.slice (some ⟨g,k,none⟩) (d::b).length (20-k)from an8 (λ x=>Value.slice (some ⟨g,k,none⟩) x (20-k)) e1]
 refine run_convert_bytes_back (P:=Tryz.prog) _ 22 9 5 _ _ (d::b) al0 am8 am6 λ j hj=> ?_;have:(⟨g,k,none⟩:Addr).add j=⟨g,k+j,none⟩:=by unfold Addr.add;grind
 have hg:(w.setCell ⟨g,k,none⟩ (.int .u8 (d.toNat:Int))).heap[g]?=some (.cells (C.setIfInBounds k (.int .u8 (d.toNat:Int))) 268 (0,0)):=by simp[World.setCell,Array.getElem?_modify,h1]
 rw[this,cell_of_row _ g _ _ _ _ hg,Ay7];grind
end
theorem d4z(w:World):(sizeOf (Tryz.prog.elem 268)).run Tryz.prog w= .ok 1 w:=by kernel_rfl
theorem d3I:Tryz.prog.arrayLen 268=20:=by kernel_rfl
theorem d1Z(w:World)(g k:Nat)(hk:k<=19):(Instr.sliceAt 268 (.pointer (some ⟨g,0,none⟩)) (some (.int .i64 (k:Int))) none none).run Tryz.prog w= .ok (.slice (some ⟨g,k,none⟩) (20-k) (20-k)) w:=by
 rw[run_sliceAt_array_l (P:=Tryz.prog) w 268 ⟨g,0,none⟩ (by kernel_rfl) .i64 (k:Int) (by omega) (by rw[d3I];omega),d4z];simp only[Result.andThen,slicedAt,d3I,Av5];rw[ay9 (by omega),Nat.mul_one];grind[Addr.add]
set_option maxHeartbeats 1000000 in
set_option maxRecDepth 100000 in
theorem c6Z(n:Nat)(hn:U n)(w:World):
  Calls Tryz.prog 94 #[.int .u64 n] w λ e w'=>e= .returned (.string (S (fmtL n)))/\Below w.heap.size w w':=by
 have hp:n<pw 19:=by unfold U at hn;rw[d8y];omega
 have HP:=Lib.hid hp;have HU:=Lib.hid hn;clear hn hp
 go_enter Tryz.func94,Tryz.ntmps94
 go_wp2_with fail
 have hT:Tail (w.alloc (.cells #[.int .u8 0,.int .u8 0,.int .u8 0,.int .u8 0,.int .u8 0,.int .u8 0,.int .u8 0,.int .u8 0,.int .u8 0,.int .u8 0,.int .u8 0,.int .u8 0,.int .u8 0,.int .u8 0,.int .u8 0,.int .u8 0,.int .u8 0,.int .u8 0,.int .u8 0,.int .u8 0] 268)) w.heap.size 19 []:=
  ⟨_,heap_alloc_new w _,rfl,rfl,λ j hj=>by simp at hj⟩
 have hB:=(Below.refl w.heap.size w).alloc (ay3 _) (.cells #[.int .u8 0,.int .u8 0,.int .u8 0,.int .u8 0,.int .u8 0,.int .u8 0,.int .u8 0,.int .u8 0,.int .u8 0,.int .u8 0,.int .u8 0,.int .u8 0,.int .u8 0,.int .u8 0,.int .u8 0,.int .u8 0,.int .u8 0,.int .u8 0,.int .u8 0,.int .u8 0] 268);generalize w.alloc (.cells #[.int .u8 0,.int .u8 0,.int .u8 0,.int .u8 0,.int .u8 0,.int .u8 0,.int .u8 0,.int .u8 0,.int .u8 0,.int .u8 0,.int .u8 0,.int .u8 0,.int .u8 0,.int .u8 0,.int .u8 0,.int .u8 0,.int .u8 0,.int .u8 0,.int .u8 0,.int .u8 0] 268)=w0 at*
 go_loopw [0,4] (λ u v wr=>∃m k:Nat,∃b:List UInt8,k<=19/\u= .int .u64 m/\v= .int .i64 k/\m<=n/\m<pw k/\b2L k m++b=fmtL n/\Tail wr w.heap.size k b/\Below w.heap.size w wr) (λ u _ _=>(intOf u).toNat)
 case atStart=>exact⟨n,19,[],by omega,rfl,rfl,ay3 _,HP.out,by simp[fmtL],hT,hB⟩
 case round=>
  clear hT hB;obtain⟨m,k,b,hk,rfl,rfl,hmn,hpw,hd,hT,hB⟩:=hrel;have hu:=HU.out.2;have hm2:(m:Int)<=18446744073709551615:=by omega
  have HD:=Lib.hid hd;have HPW:=Lib.hid hpw;clear hd hpw hu;have hf:=hT.frozen k;obtain⟨v0,hc⟩:=hT.cell;by_cases h10:m<10
  .have hsl:=λ w'=>d1Z w' w.heap.size k hk;have hcv:=hT.conv (dig m);have HX:=Lib.hid (show b2L k m++b=dig m::b from by grind[b0v]);have hz:((dig m).toNat:Int)=48+m:=by rw[a7z];omega
   rw[hz]at hcv;clear hz;have HM:=Lib.hid hm2;have h10':(m:Int)<10:=by omega
   clear hm2 hmn h10
   go_wp2_with fail
   go_ret
   exact⟨c8O (by rw[<-HD.out,HX.out]),hB.setCell (ay3 _) _⟩
  .obtain⟨hk0,hq⟩:=c2u HPW.out h10;obtain⟨k',rfl⟩:∃k',k=k'+1:=⟨k-1,by omega⟩;have HX:=Lib.hid (show b2L k' (m/10)++dig m::b=fmtL n from by rw[<-HD.out,b7E hk0 h10];simp);have hset:=hT.set (dig m) k' rfl;rw[show((dig m).toNat:Int)=48+(m:Int) % 10 by rw[a7z];omega]at hset;have HQ:=Lib.hid hq;clear hq
   go_wp2_with fail
   go_roundw
   case rel=>exact⟨m/10,k',dig m::b,by omega,by go_num,by go_num,by omega,HQ.out,HX.out,hset,hB.setCell (ay3 _) _⟩
   case measure=>grind[intOf]
theorem c9r(w:World)(d:UInt8):(convert 22 9 (.slice (some ⟨w.heap.size,0,none⟩) 1 1)).run Tryz.prog (w.alloc (.cells #[.int .u8 (d.toNat:Int)] 5))= .ok (.string (S [d])) (w.alloc (.cells #[.int .u8 (d.toNat:Int)] 5)):=by
 refine run_convert_bytes_back (P:=Tryz.prog) _ 22 9 5 _ _ [d] al0 am8 am6 λ j hj=> ?_;have:(⟨w.heap.size,0,none⟩:Addr).add j=⟨w.heap.size,j,none⟩:=by unfold Addr.add;grind
 rw[this,cell_of_row _ _ j _ _ _ (heap_alloc_new w _)];grind
set_option maxHeartbeats 1000000 in
set_option maxRecDepth 100000 in
theorem c3Y(n:Nat)(hn:U n)(w:World):
  Calls Tryz.prog 170 #[.int .u64 n] w λ e w'=>e= .returned (.string (S (fmtL n)))/\Below w.heap.size w w':=by
 have hp:n<pw 19:=by unfold U at hn;rw[d8y];omega
 have HP:=Lib.hid hp;have HU:=Lib.hid hn;clear hn hp
 go_enter Tryz.func170,Tryz.ntmps170
 go_wp2_with fail
 go_loopw [0,3] (λ u v wr=>∃m k:Nat,∃b:List UInt8,u= .int .u64 m/\v= .string (S b)/\k<=19/\(S b).size=19-k/\m<=n/\m<pw k/\b2L k m++b=fmtL n/\Below w.heap.size w wr) (λ u _ _=>(intOf u).toNat)
 case atStart=>exact⟨n,19,[],rfl,rfl,by omega,rfl,ay3 _,HP.out,by simp[fmtL],Below.refl _ _⟩
 case round=>
  obtain⟨m,k,b,rfl,rfl,hk,hsz,hmn,hpw,hd,hB⟩:=hrel;have hu:=HU.out.2;have hm2:(m:Int)<=18446744073709551615:=by omega
  have HD:=Lib.hid hd;have HPW:=Lib.hid hpw;have HSZ:=Lib.hid hsz;have hsz1:(S b).size<=19:=by omega
  have hcv:=λ w=>c9r w (dig m);rw[show((dig m).toNat:Int)=48+(m:Int) % 10 by rw[a7z];omega]at hcv;have happ:S [dig m]++S b=S (dig m::b):=by apply Ay3;apply Az4.1;simp[S]
  have HAPP:=Lib.hid happ;have hone:(S [dig m]).size<=1:=by rw[b2a];simp
  clear hd hpw hu hsz happ;by_cases h10:m<10
  .have HX:=Lib.hid (show b2L k m++b=dig m::b from by grind[b0v]);have hq:((m:Int)/10==0)=true:=by simp;omega
   go_wp2_with fail
   go_ret
   exact⟨c8O (by rw[HAPP.out,<-HD.out,HX.out]),hB.alloc hB.size _⟩
  .obtain⟨hk0,hq⟩:=c2u HPW.out h10;obtain⟨k',rfl⟩:∃k',k=k'+1:=⟨k-1,by omega⟩;have HX:=Lib.hid (show b2L k' (m/10)++dig m::b=fmtL n from by rw[<-HD.out,b7E hk0 h10];simp);have HQ:=Lib.hid hq;have hq0:((m:Int)/10==0)=false:=by simp;omega
   have HS2:=Lib.hid (show(S (dig m::b)).size=19-k' from by have:=HSZ.out;grind[b2a]);clear hq
   go_wp2_with fail
   go_roundw
   case rel=>exact⟨m/10,k',dig m::b,by go_num,an8 _ HAPP.out,by omega,HS2.out,by omega,HQ.out,HX.out,hB.alloc hB.size _⟩
   case measure=>grind[intOf]
end
end Go.Proofs.YtfffjfhfafhfmaaGreatDoor
namespace Go.PV
section
open Go.RowKit Go.Proofs Go.Shelf Go.Proofs.YtfffjfhfafhfmaaGreatDoor
def a5w:a5o:=λ a bs=>match a,bs with
 |[.lit (.int .u64 n)],[]=>if 0<=n/\n<=18446744073709551615 then some (vS (fmtL n.toNat),[])else none
 |_,_=>none
variable {bs:List (List V)} {v:V}
theorem c9S{k:Nat}(b:b6L Tryz.prog k=true)(hc:∀(n:Nat),U n->∀w:World,Go.Calls Tryz.prog k #[.int .u64 n] w λ e d=>e= .returned (.string (S (fmtL n)))/\Below w.heap.size w d)
  {c:List V} {a:List (List V)} (h:a5w c bs=some (v,a)):a2R Tryz.prog k c bs v a:=by
 unfold a5w at h;split at h
 .next n=>
  split at h
  .next hn=>
   simp only[az0,az8]at h;obtain⟨rfl,rfl⟩:=h;obtain⟨m,rfl⟩:∃m:Nat,n=m:=⟨n.toNat,by omega⟩;exact a2b (us0:=[.int .u64 m]) b (λ _=>rfl) (a1J rfl) λ w hw=>hc m (by grind[U]) w
  .cases h
 .cases h
variable {f:List (List V)} {g:List V}
theorem d9S(h:a5w g bs=some (v,f)):a2R Tryz.prog 94 g bs v f:=
 c9S (by decide+kernel) (λ n hn w=>c6Z n hn w) h
theorem d7A(h:a5w g bs=some (v,f)):a2R Tryz.prog 170 g bs v f:=
 c9S (by decide+kernel) (λ n hn w=>c3Y n hn w) h
end
end Go.PV
namespace Go.Proofs.YtfffjfhfafhfmaaGreatDoor
section
open Go.RowKit
set_option maxHeartbeats 400000 in
theorem d2h(s:ByteArray)(hs:s.size<=9223372036854775807)(w:World):
  Calls Tryz.prog 29 #[.string s] w λ e w'=>e= .returned (.string (S (lowerL s.data.toList)))/\Below w.heap.size w w':=by
 have hcv:=λ w=>Lib.run_convert_string_bytes (P:=Tryz.prog) w 9 22 5 s am6 al0 am8
 go_enter Tryz.func29,Tryz.ntmps29
 go_wp2
 clear hcv;have hB0:=BytesAt.new w 5 s;have hW0:=b0I w 5 s;have hl:s.data.toList.length=s.size:=rfl;have Hl:=Lib.hid hl;clear hl;generalize Lib.bytesWorld w 5 s=w0 at*
 go_loopw [10] (λ i wr=>∃k:Nat,k<=s.size/\i= .int .i64 k/\BytesAt wr w.heap.size 5 (a9U s.data.toList k)/\Below w.heap.size w wr) (λ i _=>s.size-(intOf i).toNat)
 case atStart=>exact⟨0,aw7 _,rfl,by grind[b4S],hW0⟩
 case round=>
  clear hB0 hW0;obtain⟨k,hk,rfl,hB,hW⟩:=hrel;by_cases hlt:k<s.size
  .have hkl:k<(a9U s.data.toList k).length:=by rw[b3U];exact hlt
   have hc:=hB.cell hkl;have hf:=hB.frozen hkl;rw[a8u _ _ hlt]at hc;have hset:=hB.set hkl (a4s (s.data.toList[k]'hlt));rw[<-a4O _ _ hlt]at hset
   go_wp2
   .go_roundw
    case rel=>
     rw[b5D ‹_› ‹_›]at hset;exact⟨k+1,by omega,by go_num,hset,hW.setCell (ay3 _) _⟩
    case measure=>simp[intOf];omega
   .go_roundw
    case rel=>
     have e:a9U s.data.toList (k+1)=a9U s.data.toList k:=by
      rw[a4O _ _ hlt,a6s (by simp;omega),<-a8u _ _ hlt];exact Ay6 _
     exact⟨k+1,by omega,by go_num,e▸hB,hW⟩
    case measure=>simp[intOf];omega
   .go_roundw
    case rel=>
     have e:a9U s.data.toList (k+1)=a9U s.data.toList k:=by
      rw[a4O _ _ hlt,a6s (by simp;omega),<-a8u _ _ hlt];exact Ay6 _
     exact⟨k+1,by omega,by go_num,e▸hB,hW⟩
    case measure=>simp[intOf];omega
  .have hcv:=λ cap=>(b8U s.data.toList k (Av7 hlt)▸hB).back (P:=Tryz.prog) 22 9 cap s.size (by rw[lowerL_len];exact Hl.out.symm) al0 am8 am6
   go_wp2
   go_ret
   exact⟨rfl,hW⟩
set_option maxHeartbeats 400000 in
theorem c7H(s:ByteArray)(hs:s.size<=9223372036854775807)(w:World):
  Calls Tryz.prog 100 #[.string s] w λ e w'=>e= .returned (.string (S (lowerL s.data.toList)))/\Below w.heap.size w w':=by
 have hcv:=λ w=>Lib.run_convert_string_bytes (P:=Tryz.prog) w 9 22 5 s am6 al0 am8
 go_enter Tryz.func100,Tryz.ntmps100
 go_wp2
 clear hcv;have hB0:=BytesAt.new w 5 s;have hW0:=b0I w 5 s;have hl:s.data.toList.length=s.size:=rfl;have Hl:=Lib.hid hl;clear hl;generalize Lib.bytesWorld w 5 s=w0 at*
 go_loopw [9] (λ i wr=>∃k:Nat,k<=s.size/\i= .int .i64 k/\BytesAt wr w.heap.size 5 (a9U s.data.toList k)/\Below w.heap.size w wr) (λ i _=>s.size-(intOf i).toNat)
 case atStart=>exact⟨0,aw7 _,rfl,by grind[b4S],hW0⟩
 case round=>
  clear hB0 hW0;obtain⟨k,hk,rfl,hB,hW⟩:=hrel;by_cases hlt:k<s.size
  .have hkl:k<(a9U s.data.toList k).length:=by rw[b3U];exact hlt
   have hc:=hB.cell hkl;have hf:=hB.frozen hkl;rw[a8u _ _ hlt]at hc;have hset:=hB.set hkl (a4s (s.data.toList[k]'hlt));rw[<-a4O _ _ hlt]at hset
   go_wp2
   .go_roundw
    case rel=>
     rw[b5D ‹_› ‹_›]at hset;exact⟨k+1,by omega,by go_num,hset,hW.setCell (ay3 _) _⟩
    case measure=>simp[intOf];omega
   .go_roundw
    case rel=>
     have e:a9U s.data.toList (k+1)=a9U s.data.toList k:=by
      rw[a4O _ _ hlt,a6s (by simp;omega),<-a8u _ _ hlt];exact Ay6 _
     exact⟨k+1,by omega,by go_num,e▸hB,hW⟩
    case measure=>simp[intOf];omega
   .go_roundw
    case rel=>
     have e:a9U s.data.toList (k+1)=a9U s.data.toList k:=by
      rw[a4O _ _ hlt,a6s (by simp;omega),<-a8u _ _ hlt];exact Ay6 _
     exact⟨k+1,by omega,by go_num,e▸hB,hW⟩
    case measure=>simp[intOf];omega
  .have hcv:=λ cap=>(b8U s.data.toList k (Av7 hlt)▸hB).back (P:=Tryz.prog) 22 9 cap s.size (by rw[lowerL_len];exact Hl.out.symm) al0 am8 am6
   go_wp2
   go_ret
   exact⟨rfl,hW⟩
end
end Go.Proofs.YtfffjfhfafhfmaaGreatDoor
namespace Go.PV
section
open Go.RowKit Go.Proofs Go.Shelf Go.Proofs.YtfffjfhfafhfmaaGreatDoor
def a3o:a5o:=λ a bs=>match a,bs with
 |[.lit (.string s)],[]=>if s.size<=9223372036854775807 then some (vS (lowerL s.data.toList),[])else none
 |_,_=>none
variable {bs:List (List V)} {v:V}
theorem d0t{k:Nat}(b:b6L Tryz.prog k=true)(hc:∀(s:ByteArray),s.size<=9223372036854775807->∀w:World,Go.Calls Tryz.prog k #[.string s] w λ e d=>e= .returned (.string (S (lowerL s.data.toList)))/\Below w.heap.size w d)
  {c:List V} {a:List (List V)} (h:a3o c bs=some (v,a)):a2R Tryz.prog k c bs v a:=by
 unfold a3o at h;split at h
 .next s=>
  split at h
  .next hn=>
   simp only[az0,az8]at h;obtain⟨rfl,rfl⟩:=h;exact a2b (us0:=[.string s]) b (λ _=>rfl) (a1J rfl) λ w hw=>hc s hn w
  .cases h
 .cases h
variable {f:List (List V)} {g:List V}
theorem d9N(h:a3o g bs=some (v,f)):a2R Tryz.prog 29 g bs v f:=
 d0t (by decide+kernel) (λ s hs w=>d2h s hs w) h
theorem d6S(h:a3o g bs=some (v,f)):a2R Tryz.prog 100 g bs v f:=
 d0t (by decide+kernel) (λ s hs w=>c7H s hs w) h
end
end Go.PV
namespace Go.Proofs.YtfffjfhfafhfmaaGreatDoor
section
open Go.RowKit
set_option maxHeartbeats 1000000 in
set_option maxRecDepth 100000 in
theorem c3E(n:Nat)(hn:(n:Int)<=9223372036854775807)(w:World):
  Calls Tryz.prog 48 #[.int .i64 n] w λ e w'=>e= .returned (.string (S (fmtL n)))/\Below w.heap.size w w':=by
 have hp:n<pw 19:=by rw[d8y];omega
 have HP:=Lib.hid hp;have HU:=Lib.hid hn;clear hn hp
 go_enter Tryz.func48,Tryz.ntmps48
 go_wp2_with fail
 go_loopw [0,3] (λ u v wr=>∃m k:Nat,∃suf:List UInt8,u= .int .i64 m/\v= .string (S suf)/\k<=19/\(S suf).size=19-k/\m<=n/\m<pw k/\b2L k m++suf=fmtL n/\Below w.heap.size w wr) (λ u _ _=>(intOf u).toNat)
 case atStart=>exact⟨n,19,[],rfl,rfl,by omega,rfl,ay3 _,HP.out,by simp[fmtL],Below.refl _ _⟩
 case round=>
  obtain⟨m,k,suf,rfl,rfl,hk,hsz,hmn,hpw,hd,hB⟩:=hrel;have hu:=HU.out;have hm2:(m:Int)<=9223372036854775807:=by omega
  have HD:=Lib.hid hd;have HPW:=Lib.hid hpw;have HSZ:=Lib.hid hsz;have hsz1:(S suf).size<=19:=by omega
  have hcv:=λ w=>c9r w (dig m);rw[show((dig m).toNat:Int)=48+(m:Int) % 10 by rw[a7z];omega]at hcv;have happ:S [dig m]++S suf=S (dig m::suf):=by apply Ay3;apply Az4.1;simp[S]
  have HAPP:=Lib.hid happ;have hone:(S [dig m]).size<=1:=by rw[b2a];simp
  clear hd hpw hu hsz happ;by_cases h10:m<10
  .have HX:=Lib.hid (show b2L k m++suf=dig m::suf from by grind[b0v]);have hq:((m:Int)/10==0)=true:=by simp;omega
   go_wp2_with fail
   go_ret
   exact⟨c8O (by rw[HAPP.out,<-HD.out,HX.out]),hB.alloc hB.size _⟩
  .obtain⟨hk0,hq⟩:=c2u HPW.out h10;obtain⟨k',rfl⟩:∃k',k=k'+1:=⟨k-1,by omega⟩;have HX:=Lib.hid (show b2L k' (m/10)++dig m::suf=fmtL n from by rw[<-HD.out,b7E hk0 h10];simp);have HQ:=Lib.hid hq;have hq0:((m:Int)/10==0)=false:=by simp;omega
   have HS2:=Lib.hid (show(S (dig m::suf)).size=19-k' from by have:=HSZ.out;grind[b2a]);clear hq
   go_wp2_with fail
   go_roundw
   case rel=>exact⟨m/10,k',dig m::suf,by go_num,an8 _ HAPP.out,by omega,HS2.out,by omega,HQ.out,HX.out,hB.alloc hB.size _⟩
   case measure=>grind[intOf]
end
section
open Go.RowKit
def b5S(n:Nat):UInt8:=if n % 16<10 then UInt8.ofNat (48+n % 16)else UInt8.ofNat (87+n % 16)
def c1p:Nat->Nat->List UInt8
 |0,n=>[b5S n]
 |f+1,n=>if n<16 then [b5S n]else c1p f (n/16)++[b5S n]
def hexL(n:Nat):List UInt8:=c1p 15 n
def pwh:Nat->Nat
 |0=>16
 |k+1=>16*pwh k
theorem d8C:pwh 15=18446744073709551616:=by decide
variable {f n:Nat}
theorem c5e(h:n<16):c1p f n=[b5S n]:=by cases f<;>simp[c1p,h]
theorem d0x(hf:0<f)(h:¬n<16):c1p f n=c1p (f-1) (n/16)++[b5S n]:=by
 obtain⟨g,rfl⟩:∃g,f=g+1:=⟨f-1,by omega⟩;simp[c1p,h]
theorem d2g(h:n<pwh f)(a:¬n<16):0<f/\n/16<pwh (f-1):=by
 cases f with
 |zero=>grind[pwh]
 |succ g=>grind[pwh]
theorem d8M(m:Nat):(⟨#[48,49,50,51,52,53,54,55,56,57,97,98,99,100,101,102]⟩:ByteArray).extract ((m:Int) % 16).toNat ((m:Int) % 16+1).toNat=S [b5S m]:=by
 have h1:((m:Int) % 16).toNat=m % 16:=by omega
 have h2:((m:Int) % 16+1).toNat=m % 16+1:=by omega
 rw[h1,h2];have hd:S [b5S m]=S [b5S (m % 16)]:=by unfold b5S;simp
 rw[hd];have:∀x,x<16->(⟨#[48,49,50,51,52,53,54,55,56,57,97,98,99,100,101,102]⟩:ByteArray).extract x (x+1)=S [b5S x]:=by decide
 exact this _ (by omega)
set_option maxHeartbeats 1000000 in
set_option maxRecDepth 100000 in
theorem d8e(n:Nat)(hn:(n:Int)<=9223372036854775807)(w:World):
  Calls Tryz.prog 93 #[.int .i64 n] w λ e w'=>e= .returned (.string (S (hexL n)))/\Below w.heap.size w w':=by
 have hp:n<pwh 15:=by rw[d8C];omega
 have HP:=Lib.hid hp;have HU:=Lib.hid hn;clear hn hp
 go_enter Tryz.func93,Tryz.ntmps93
 go_wp2_with fail
 go_loopw [0,3] (λ u v wr=>∃m k:Nat,∃suf:List UInt8,u= .int .i64 m/\v= .string (S suf)/\k<=15/\(S suf).size=15-k/\m<=n/\m<pwh k/\c1p k m++suf=hexL n/\Below w.heap.size w wr) (λ u _ _=>(intOf u).toNat)
 case atStart=>exact⟨n,15,[],rfl,rfl,by omega,rfl,ay3 _,HP.out,by simp[hexL],Below.refl _ _⟩
 case round=>
  obtain⟨m,k,suf,rfl,rfl,hk,hsz,hmn,hpw,hd,hB⟩:=hrel;have hu:=HU.out;have hm2:(m:Int)<=9223372036854775807:=by omega
  have HD:=Lib.hid hd;have HPW:=Lib.hid hpw;have HSZ:=Lib.hid hsz;have hsz1:(S suf).size<=15:=by omega
  have hex1:=d8M m;have happ:S [b5S m]++S suf=S (b5S m::suf):=by apply Ay3;apply Az4.1;simp[S]
  have HAPP:=Lib.hid happ;have hone:(S [b5S m]).size<=1:=by rw[b2a];simp
  clear hd hpw hu hsz happ;by_cases h16:m<16
  .have HX:=Lib.hid (show c1p k m++suf=b5S m::suf from by grind[c5e]);have hq:((m:Int)/16==0)=true:=by simp;omega
   go_wp2_with fail
   go_ret
   exact⟨c8O (by rw[HAPP.out,<-HD.out,HX.out]),hB⟩
  .obtain⟨hk0,hq⟩:=d2g HPW.out h16;obtain⟨k',rfl⟩:∃k',k=k'+1:=⟨k-1,by omega⟩;have HX:=Lib.hid (show c1p k' (m/16)++b5S m::suf=hexL n from by rw[<-HD.out,d0x hk0 h16];simp);have HQ:=Lib.hid hq;have hq0:((m:Int)/16==0)=false:=by simp;omega
   have HS2:=Lib.hid (show(S (b5S m::suf)).size=15-k' from by have:=HSZ.out;grind[b2a]);clear hq
   go_wp2_with fail
   go_roundw
   case rel=>exact⟨m/16,k',b5S m::suf,by go_num,an8 _ HAPP.out,by omega,HS2.out,by omega,HQ.out,HX.out,hB⟩
   case measure=>grind[intOf]
end
end Go.Proofs.YtfffjfhfafhfmaaGreatDoor
namespace Go.PV
section
open Go.RowKit Go.Proofs Go.Shelf Go.Proofs.YtfffjfhfafhfmaaGreatDoor
def c6o(f:Nat->List UInt8):a5o:=λ a bs=>match a,bs with
 |[.lit (.int .i64 n)],[]=>if 0<=n/\n<=9223372036854775807 then some (vS (f n.toNat),[])else none
 |_,_=>none
variable {bs:List (List V)} {v:V}
theorem d0k{k:Nat}{f:Nat->List UInt8}(b:b6L Tryz.prog k=true)(hc:∀(n:Nat),(n:Int)<=9223372036854775807->∀w:World,Go.Calls Tryz.prog k #[.int .i64 n] w λ e d=>e= .returned (.string (S (f n)))/\Below w.heap.size w d)
  {c:List V} {a:List (List V)} (h:c6o f c bs=some (v,a)):a2R Tryz.prog k c bs v a:=by
 unfold c6o at h;split at h
 .next n=>
  split at h
  .next hn=>
   simp only[az0,az8]at h;obtain⟨rfl,rfl⟩:=h;obtain⟨m,rfl⟩:∃m:Nat,n=m:=⟨n.toNat,by omega⟩;exact a2b (us0:=[.int .i64 m]) b (λ _=>rfl) (a1J rfl) λ w hw=>hc m hn.2 w
  .cases h
 .cases h
variable {g:List (List V)} {i:List V}
theorem d9M(h:c6o fmtL i bs=some (v,g)):a2R Tryz.prog 48 i bs v g:=
 d0k (by decide+kernel) (λ n hn w=>c3E n hn w) h
theorem e0n(h:c6o hexL i bs=some (v,g)):a2R Tryz.prog 93 i bs v g:=
 d0k (by decide+kernel) (λ n hn w=>d8e n hn w) h
end
section
open Go.RowKit Go.Proofs Go.Shelf
theorem c8m(r:Int)(h:128<=r):∃(k:Nat) (x:UInt8),(Utf8.encode r).size=k+1/\1<=k/\k<=3/\128<=x.toNat/\∀hh,(Utf8.encode r)[k]'hh=x:=by
 have e:∀n:Nat,128<=(UInt8.ofNat (128+n % 64)).toNat:=λ n=>by
  rw[UInt8.toNat_ofNat'];omega
 obtain⟨c,hc⟩:∃c,(if Utf8.valid r=true then r.toNat else Utf8.runeError)=c:=⟨_,rfl⟩;have hc2:¬c<0x80:=by
  split at hc
  .omega
  .subst hc;decide
 have key:∀b:ByteArray,Utf8.encode r=b->(∃(k:Nat) (x:UInt8),b.size=k+1/\1<=k/\k<=3/\128<=x.toNat/\∀hh,b[k]'hh=x)->∃(k:Nat) (x:UInt8),(Utf8.encode r).size=k+1/\1<=k/\k<=3/\128<=x.toNat/\∀hh,(Utf8.encode r)[k]'hh=x:=λ b hb h=>by grind
 by_cases h1:c<0x800
 .exact key ⟨#[UInt8.ofNat (0xC0+c/64),UInt8.ofNat (0x80+c % 64)]⟩ (by simp_all[Utf8.encode]) ⟨1,_,rfl,by omega,by omega,e c,λ _=>rfl⟩
 .by_cases h2:c<0x10000
  .exact key ⟨#[UInt8.ofNat (0xE0+c/4096),UInt8.ofNat (0x80+c/64 % 64),UInt8.ofNat (0x80+c % 64)]⟩ (by simp_all[Utf8.encode,ay9]) ⟨2,_,rfl,by omega,by omega,e c,λ _=>rfl⟩
  .exact key ⟨#[UInt8.ofNat (0xF0+c/262144),UInt8.ofNat (0x80+c/4096 % 64),UInt8.ofNat (0x80+c/64 % 64),UInt8.ofNat (0x80+c % 64)]⟩ (by simp_all[Utf8.encode,ay9]) ⟨3,_,rfl,by omega,by omega,e c,λ _=>rfl⟩
set_option maxHeartbeats 2000000 in
set_option maxRecDepth 1000000 in
theorem c0N(cs:ByteArray)(hs:cs.size=2)(has:∀(j:Nat) b,cs.data.toList[j]?=some b->b.toNat<128)(r:Int)(h0:128<=r)(w:World):
  Go.Calls Tryz.prog 350 #[.string cs,.int .i32 r] w λ e w'=>e= .returned (.int .i64 (-1))/\Below w.heap.size w w':=by
 have b6A:Tryz.prog.follows Departure.mixedOrders=true:=by kernel_rfl
 have e247:∀args w,(callFunc 247 args).run Tryz.prog w= .ok (.enter 247 args) w:=enters_of Tryz.func247 (by kernel_rfl) rfl;have e392:∀args w,(callFunc 392 args).run Tryz.prog w= .ok (.enter 392 args) w:=enters_of Tryz.func392 (by kernel_rfl) rfl;have hr1:decide (r<128)=false:=an1 (by omega)
 go_enter Tryz.func350,Tryz.ntmps350
 by_cases hre:r=65533
 .subst hre;have HA:Aside (∀(j:Nat) b,cs.data.toList[j]?=some b->b.toNat<128):=has;clear has hs
  go_wp2
  go_loopg [5,6] cs.size (λ g _ _ wx=>∃i:Nat,i+g=cs.size/\wx=w.iter cs i)
  case atStart=>grind
  case round=>
   obtain⟨i,hig,rfl⟩:=hrel;cases gk with
   |zero=>
    obtain rfl:i=cs.size:=by omega
    have hnx:=run_next_end (P:=Tryz.prog) w cs cs.size
    go_wp2
    go_ret
    exact⟨rfl,(Below.refl _ _).alloc (ay3 _) _⟩
   |succ g=>
    have hi:i<cs.size:=by omega
    obtain⟨x,hx⟩:∃x:UInt8,cs[i]'hi=x:=⟨_,rfl⟩;have hx128:x.toNat<128:=HA.out i x (by grind[Lib.data_getElem?]);have hnx:=λ ty=>run_next_ascii (P:=Tryz.prog) w cs i ty hi (by grind);rw[hx]at hnx;have hne:((x.toNat:Int)==65533)=false:=Ay8.2 (by omega);clear hx
    go_wp2
    go_roundg g
    all_goals grind
 .have hre':(r==65533)=false:=Ay8.2 hre;obtain⟨k,x,hk,hk1,hk3,hx,hkx⟩:=c8m r h0;have hcv:∀w,(convert 21 9 (.int .i32 r)).run Tryz.prog w= .ok (.string (Utf8.encode r)) w:=λ w=>run_convert_int_string w 21 9 .i32 r (by kernel_rfl) (by kernel_rfl);generalize hq:Utf8.encode r=q at*;have hkw:IntKind.i64.wrap ((q.size:Int)-1)=(k:Int):=by rw[wrap_small _ (by omega) (by omega)];omega
  go_wp2
  all_goals first
   |(go_ret;exact⟨rfl,Below.refl _ _⟩)
   |(apply wp_scope_straight;go_wp2;go_loop [9] (λ v=>v= .int .i64 (k:Int)) (λ _=>0))
  all_goals first
   |rfl
   |skip
  all_goals
   first
    |(rename_i hrel;subst hrel)
    |skip
  all_goals
   by_cases hk2:k=1
   .subst hk2;have hkc:1<cs.size:=by omega
    have hkq:1<q.size:=by omega
    obtain⟨y,hy⟩:∃y:UInt8,cs[1]'hkc=y:=⟨_,rfl⟩;have hy2:y.toNat<128:=has 1 y (by rw[<-hy];exact Lib.data_getElem? cs 1 hkc);have hkx1:=hkx hkq;have hne:((y.toNat:Int) !=(x.toNat:Int))=true:=Av2.2 (by omega);have hIB:∀w,Go.Calls Tryz.prog 247 #[.string ByteArray.empty,.int .u8 (x.toNat:Int)] w λ e w'=>e= .returned (.int .i64 (-1))/\w'=w:=λ w=>Any.strings_IndexByte d5H ByteArray.empty (x.toNat:Int) w;have hw2:IntKind.i64.wrap 2=2:=by decide
    clear hkx has
    go_wp2
    apply wp_scope_straight
    go_wp2
    go_quiet (fail)
    go_wp2
    go_quiet (exact(hIB _).mono λ _ _ ⟨he,hm⟩=>⟨he,_,hm⟩)
    go_wp2
    dsimp +zetaDelta only[Exit.noGoto,Exit.inBlock,Exit.then]
    go_ret
    exact⟨rfl,below_drewN (Below.refl _ _) _⟩
   .have hlt:decide ((k:Int)<(cs.size:Int))=false:=an1 (by omega)
    go_wp2
    go_ret
    exact⟨rfl,Below.refl _ _⟩
theorem d2o(s:ByteArray)(i:Nat):1<=(Utf8.decode s i).2:=by
 grind[Utf8.decode]
def b6N(cs:List UInt8)(s:ByteArray):Nat->Nat->Int
 |0,_=> -1
 |f+1,i=>if i<s.size then(if(Utf8.decode s i).1<128/\0<=Lib.indexByte cs (Utf8.decode s i).1.toUInt8 then i else b6N cs s f (i+(Utf8.decode s i).2))else -1
set_option maxHeartbeats 2000000 in
set_option maxRecDepth 1000000 in
theorem b5j(s cs:ByteArray)(h2:cs.size=2)(has:∀(j:Nat) b,cs.data.toList[j]?=some b->b.toNat<128)(h8:s.size<=8)(w:World):
  Go.Calls Tryz.prog 266 #[.string s,.string cs] w λ e w'=>e= .returned (.int .i64 (b6N cs.data.toList s s.size 0))/\Below w.heap.size w w':=by
 have hHI:=c0N cs h2 has;have hLO:∀(r:Int) (w:World),0<=r->r<128->Go.Calls Tryz.prog 350 #[.string cs,.int .i32 r] w λ e w'=>e= .returned (.int .i64 (Lib.indexByte cs.data.toList r.toNat.toUInt8))/\w'=w:=λ r w h0 h1=>Any.strings_IndexRune_ascii {d1V with} cs r w h0 h1;clear has;have hemp:cs.toList.isEmpty=false:=by
  rw[Lib.toList_data];cases h:cs.data.toList with
  |nil=>grind[Lib.size_eq]
  |cons _ _=>rfl
 have hn1:((cs.size:Int)==1)=false:=Ay8.2 (by omega);have h8z:decide ((8:Int)<(s.size:Int))=false:=an1 (by omega);obtain⟨R,hR⟩:∃R,b6N cs.data.toList s s.size 0=R:=⟨_,rfl⟩;rw[hR];have HR:Aside (b6N cs.data.toList s s.size 0=R):=hR;clear hR h2 h8;have e350:∀args w,(callFunc 350 args).run Tryz.prog w= .ok (.enter 350 args) w:=enters_of Tryz.func350 (by kernel_rfl) rfl;have e351:∀args w,(callFunc 351 args).run Tryz.prog w= .ok (.enter 351 args) w:=enters_of Tryz.func351 (by kernel_rfl) rfl
 go_enter Tryz.func266,Tryz.ntmps266
 go_wp2_with (go_at_fn 351;refine(Any.strings_shouldUseASCIISet (ρ:=shR) {d1V with} _ _).mono ?_;rintro e w' ⟨rfl,hw⟩;rw[hw,h8z])
 go_loopg [9,10] s.size (λ g _ _ wx=>∃i f:Nat,s.size-i=g/\s.size<=i+f/\Below w.heap.size w wx/\wx.heap[w.heap.size]?=some (.stringIter s i)/\b6N cs.data.toList s f i=R)
 case atStart=>exact⟨0,s.size,by omega,by omega,(Below.refl _ _).alloc (ay3 _) _,World.iter_heap ..,HR.out⟩
 case round=>
  obtain⟨i,f,hig,hif,hbel,hit,hres⟩:=hrel;have HS:Aside (b6N cs.data.toList s f i=R):=hres;clear hres HR;by_cases hi:i<s.size
  .have hnx:=λ ty=>Go.Lib.run_next_any_at (P:=Tryz.prog) wr w.heap.size s i ty hit hi;have hdp:=d2o s i;have hb1:Below w.heap.size w (wr.iterAt w.heap.size s (i+(Utf8.decode s i).2)):=Go.Lib.below_iterAt hbel (ay3 _) s _;have hit1:=Go.Lib.iterAt_heap wr w.heap.size s i (i+(Utf8.decode s i).2) hit;obtain⟨f,rfl⟩:∃f',f=f'+1:=⟨f-1,by omega⟩;have hs1:=HS.out;rw[b6N,ax3 hi]at hs1;clear HS hit hbel;generalize wr.iterAt w.heap.size s (i+(Utf8.decode s i).2)=w1 at hnx hb1 hit1;generalize (Utf8.decode s i).2=n at hnx hdp hit1 hs1;generalize (Utf8.decode s i).1=r at hnx hs1;have hlt1:w.heap.size<w1.heap.size:=(as3.1 hit1).1;by_cases hr:r<128
   .have hL:=hLO r w1 (by omega) (by omega);have e8:(r:Int).toNat.toUInt8=r.toUInt8:=rfl;rw[e8]at hL;obtain⟨x,hxe⟩:∃x,Lib.indexByte cs.data.toList r.toUInt8=x:=⟨_,rfl⟩;rw[hxe]at hL hs1;clear hxe;by_cases hx:0<=x
    .rw[ax3 ⟨hr,hx⟩]at hs1;have HS:Aside ((i:Int)=R):=hs1;clear hs1 hHI hLO
     go_wp2_with (go_at_fn 350;refine hL.mono ?_;rintro e w' ⟨rfl,hw⟩;rw[hw])
     go_ret
     exact⟨by rw[HS.out];rfl,hb1⟩
    .rw[ay9 (λ h=>hx h.2)]at hs1;have HS:Aside (b6N cs.data.toList s f (i+n)=R):=hs1;clear hs1 hHI hLO
     go_wp2_with (go_at_fn 350;refine hL.mono ?_;rintro e w' ⟨rfl,hw⟩;rw[hw])
     go_roundg (s.size-(i+n))
     case measure=>omega
     case rel=>exact⟨i+n,f,rfl,by omega,hb1,hit1,HS.out⟩
   .rw[ay9 (λ h=>hr h.1)]at hs1;have HS:Aside (b6N cs.data.toList s f (i+n)=R):=hs1;have hH:=hHI r (by omega) w1;clear hs1 hHI hLO
    go_wp2_with (go_at_fn 350;refine hH.mono ?_;rintro e w2 ⟨rfl,hw⟩)
    go_roundg (s.size-(i+n))
    case measure=>omega
    case rel=>exact⟨i+n,f,rfl,by omega,hb1.trans ⟨hw.os,hw.tape,hw.output,by have:=hw.size;omega,λ k hk=>hw.block k (by omega)⟩,by rw[hw.block _ hlt1];exact hit1,HS.out⟩
  .have hnx:=λ ty=>Go.Lib.run_next_end_at (P:=Tryz.prog) wr w.heap.size s i ty hit hi
   go_wp2
   go_ret
   refine⟨?_,hbel⟩;have h1:(-1:Int)=R:=by
    have h1:=HS.out;cases f with
    |zero=>grind[b6N]
    |succ f=>grind[b6N]
   rw[h1];rfl
def a4M:a5o:=λ c bs=>match c,bs with
 |[.lit (.string s),.lit (.string ⟨⟨[a,b]⟩⟩)],[]=>if a.toNat<128/\b.toNat<128/\s.size<4294967281 then some (vI (if 8<s.size then Lib.indexAny s.data.toList [a,b]else b6N [a,b] s s.size 0),[])else none
 |_,_=>none
theorem d8v{xa:List V}{bs bs':List (List V)}{v:V}(h:a4M xa bs=some (v,bs')):a2R Tryz.prog 266 xa bs v bs':=by
 unfold a4M at h;split at h
 .next s a b=>
  split at h
  .next hs=>
   simp only[az0,az8]at h;obtain⟨rfl,rfl⟩:=h;refine a2b (us0:=[.string s,.string ⟨⟨[a,b]⟩⟩]) (by decide+kernel) (λ _=>rfl) (a1J rfl) λ w hw=> ?_;have has:=c9o a b hs.1 hs.2.1;by_cases h8:8<s.size
   .rw[ax3 h8];refine(Any.strings_IndexAny_long d1V c5w (by kernel_rfl) s ⟨⟨[a,b]⟩⟩ w (ay3 2) h8 hs.2.2 (show 2<4294967281 by omega) has).mono λ e w' ⟨h1,h2⟩=>⟨h1,?_⟩;rw[h2];exact((Below.refl _ _).alloc (ay3 _) _).alloc (by simp) _
   .rw[ay9 h8];exact b5j s ⟨⟨[a,b]⟩⟩ rfl has (by omega) w
  .cases h
 .cases h
end
end Go.PV
namespace Go.SN
section
open Go Go.PV
def a4w:Nat->Option Fp:=λ k=>match k with
 |27=>some c6t|29=>some a3o|48=>some (c6o Go.Proofs.YtfffjfhfafhfmaaGreatDoor.fmtL)|93=>some (c6o Go.Proofs.YtfffjfhfafhfmaaGreatDoor.hexL)|94=>some a5w|100=>some a3o|132=>some a7p|145=>some c0G|170=>some a5w|226=>some a7p|247=>some a4H|259=>some a5b
 |266=>some a4M|286=>some a2l|288=>some a8V|345=>some b3x|348=>some a8i|397=>some a4b|398=>some a4E|409=>some a4y|411=>some a5P|_=>none
theorem b2x:∀k,prL.contains k=false->a4w k=none:=λ k h=>by
 unfold a4w;split;all_goals first|rfl|(exact absurd h (by decide))
end
end Go.SN
namespace Go.PV
section
section
variable (P:Program)
def a0K(call:Calls)(n:Nat):Code->St->Option (Ex×St)
 | .skip,s| .label _,s=>some (.normal,s)
 | .region _ ops _,s=>(a0I P call ops ops.toList s).map (.normal, ·)
 | .seq a b,s=>match a0K call n a s with
   |some (.normal,s)=>a0K call n b s
   |r=>r
 | .cond c a b,s=>match ev s.get c with
   |some (.lit (.bool t))=>if t then a0K call n a s else a0K call n b s
   |_=>none
 | .block id b,s=>match a0K call n b s with
   |some (.exit j,s)=>some (if j=id then .normal else .exit j,s)
   |r=>r
 | .loop b,s=>iter (a0K call n b) n s
 | .scope b,s=>a0K call n b s
 | .exit id,s=>some (.exit id,s)
 | .ret,s=>some (.ret,s)
 |_,_=>none
def a7O(call:Calls)(n:Nat)(k:Nat)(args:List V)(bs:List (List V)):Option (V×List (List V)):=do
 let(h,nx):=a0w 0 ([],bs.length) bs;let fn<-P.funcs[k]?;let sz:=max args.length fn.ntmps;let(x,s)<-a0K P call n (<-fn.body) {env:=a0u args 0 .leaf,h:=h,nx:=nx,sz:=sz}
 match x with
 | .exit _=>none
 |_=>do
  let v<-a0m P fn s;let(v,w)<-a5t k (a0b s.h) s.nx v;let(l,ms,ks)<-a0G (a1x (a0b s.h)) w (List.range bs.length)
  if !(a1u (a0b s.h) ms ks)then none
  pure (v,l)
end
variable {P:Program} {call:Calls}
theorem b1a{ops:Array Oper}:∀{l:List Oper} {s e:St} {fs:List (List Nat×List Nat)},a4g P call ops l s=some (fs,e)->a0I P call ops l s=some e
 |[],s,e,fs,h=>by
  grind[a4g,a0I]
 |o::r,s,e,fs,h=>by
  unfold a4g at h;unfold a0I;cases h1:a0v P call ops o s with
  |none=>grind
  |some a=>
   simp only[h1]at h|-;cases h2:a4g P call ops r a with
   |none=>grind
   |some q=>
    obtain⟨b,c⟩:=q;simp only[h2]at h;have:c=e:=by
     split at h
     .grind
     .grind
    rw[<-this];exact b1a h2
theorem c3n{f g:St->Option (Ex×St)}(a:∀s r,f s=some r->g s=some r):∀{n:Nat} {s:St} {r:Ex×St},iter f n s=some r->iter g n s=some r
 |0,s,r,h=>by cases h
 |n+1,s,r,h=>by
  unfold iter at h|-;cases h1:f s with
  |none=>simp[h1]at h
  |some q=>
   obtain⟨x,b⟩:=q;rw[a _ _ h1];rw[h1]at h;cases x with
   |normal=>exact c3n a h
   |exit i=>exact h
   |ret=>exact h
variable {n:Nat}
theorem c8K:∀{c:Code} {s:St} {r:Ex×St},a0e P call n c s=some r->a0K P call n c s=some r:=by
 intro c;induction c with
 |region i ops d=>
  intro s r h;cases d with
  |false=>grind[a0e,a0K]
  |true=>
   simp only[a0e]at h;cases h1:a4g P call ops ops.toList s with
   |none=>grind
   |some q=>
    obtain⟨fs,e⟩:=q;simp only[h1]at h;split at h
    .simp only[a0K,b1a h1,ax0];exact h
    .cases h
 |seq a b f j=>
  intro s r h;simp only[a0e]at h;simp only[a0K];cases h1:a0e P call n a s with
  |none=>grind
  |some q=>grind
 |cond c a b f j=>intro s r h;simp only[a0e]at h;simp only[a0K];grind
 |block id b ih=>grind[a0e,a0K]
 |loop b ih=>grind[a0e,a0K,c3n]
 |scope b ih=>grind[a0e,a0K]
 |_=>grind[a0e,a0K]
variable {args:List V} {k:Nat}
theorem b8S{prim:Nat->Option Fp}{inl:Nat->Bool}{bs:List (List V)}{r:V×List (List V)}(hp:prim k=none)
  (h:(a0d P prim inl (n+1)).cbv k args bs=some r):a7O P (a0d P prim inl n) n k args bs=some r:=by
 simp only[a0d,hp,a1j,Az0,az3]at h;obtain⟨⟨v,s⟩,h1,h2⟩:=h;obtain⟨fn,f1,h1⟩:=h1;split at h1
 .cases h1
 simp only[Az1,az3]at h1;obtain⟨c,f2,⟨x,a⟩,f3,h1⟩:=h1;unfold a7O;simp only[Az0,f1,az1,f2,c8K f3];cases x with
 |exit i=>cases h1
 |normal=>grind[az3]
 |ret=>grind[az3]
theorem a2i{S A:Type}{f:S->A->Option (A×S)}{s:S}:∀{l:List A},(∀a∈l,f s a=some (a,s))->a0G f s l=some (l,s)
 |[],_=>rfl
 |a::l,h=>by
  rw[a0G,h a (ay1 ..)];simp only;rw[a2i λ b hb=>h b (az9 _ hb)]
def isD(v:V):Prop:=(∀d g ms,a0C (d+1) g ms v=some (v,ms))/\(∀s,a0J s v=(v,s))/\(∀g s,a0h g s v=some (v,s))/\(∀d g s,a1y (d+1) g s v=some (v,s))/\a6J v=false/\(∀i,a0S i v=v)/\(∀i,a0H i v=v)/\v.cells=[v]/\a0r v=true/\a4Z v=false/\(∀cs,v≠ .agg cs)/\(∀xs,v≠ .tup xs)
variable {g:G} {s:List Nat×List Nat} {v:V}
theorem b3j{d:Nat}(h:∀d g ms,a0C (d+1) g ms v=some (v,ms))(h1:∀i o,v≠ .ptr i o)(h2:∀f a b,v≠ .fn f a b):a1y (d+1) g s v=some (v,s):=by
 obtain⟨ms,ps⟩:=s;have e:a0C ED g ms v=some (v,ms):=by rw[a5E];exact h _ _ _
 cases v<;>first|(exact absurd rfl (h1 _ _))|(exact absurd rfl (h2 _ _ _))|grind[a1y]
theorem a8d(h:∀d g ms,a0C (d+1) g ms v=some (v,ms))(h1:∀a b c d,v≠ .row a b c d)(h2:∀l,v≠ .dptr l):a0h g s v=some (v,s):=by
 have e:a0C ED g s.1 v=some (v,s.1):=by rw[a5E];exact h _ _ _
 cases v<;>first|(exact absurd rfl (h1 _ _ _ _))|(exact absurd rfl (h2 _))|grind[a0h]
theorem a2L{v:Value}(h:v≠ .pointer none):isD (.lit v):=by
 have e:∀d g ms,a0C (d+1) g ms (.lit v)=some (.lit v,ms):=λ d g ms=>rfl;refine⟨e,λ s=>rfl,λ g s=>a8d e nofun nofun,λ d g s=>b3j e nofun nofun,rfl,λ i=>rfl,λ i=>rfl,rfl,rfl,?_,nofun,nofun⟩;cases v with
 |pointer p=>cases p<;>first|rfl|exact absurd rfl h
 |_=>rfl
theorem a6n:isD .nils:=by
 have e:∀d g ms,a0C (d+1) g ms .nils=some (.nils,ms):=λ d g ms=>rfl;exact⟨e,λ s=>rfl,λ g s=>a8d e nofun nofun,λ d g s=>b3j e nofun nofun,rfl,λ i=>rfl,λ i=>rfl,rfl,rfl,rfl,nofun,nofun⟩
variable {xs:List V}
theorem b4K:isD (.sl none xs):=by
 have e:∀d g ms,a0C (d+1) g ms (.sl none xs)=some (.sl none xs,ms):=λ d g ms=>rfl;exact⟨e,λ s=>rfl,λ g s=>a8d e nofun nofun,λ d g s=>b3j e nofun nofun,rfl,λ i=>rfl,λ i=>rfl,rfl,rfl,rfl,nofun,nofun⟩
theorem a6N{k:IntKind}{n:Int}:isD (.lit (.int k n)):=a2L nofun
theorem c3R{s:ByteArray}:isD (.lit (.string s)):=a2L nofun
theorem a9t{b:Bool}:isD (.lit (.bool b)):=a2L nofun
def pD(v:V):Prop:=isD v\/∃cs,v= .agg cs/\∀c∈cs,isD c
theorem c4A{cs:List V}(h:∀c∈cs,isD c):pD (.agg cs):= .inr ⟨cs,rfl,h⟩
theorem c3T(h:pD v):a1y 4 g s v=some (v,s):=by
 rcases h with h|⟨cs,rfl,h⟩
 .exact h.2.2.2.1 3 g s
 .obtain⟨ms,ps⟩:=s;have e:a0C ED g ms (.agg cs)=some (.agg cs,ms):=by
   rw[a5E,a0C];rw[a2i λ a ha=>(h a ha).1 158 g ms]
  simp only[a1y,e]
theorem b5Q{s:HP×Nat}:∀{l:List V},(∀c∈l,isD c)->a0f s l=(l,s)
 |[],_=>rfl
 |v::l,h=>by
  rw[a0f,(h v (ay1 ..)).2.1 s];simp only;rw[b5Q λ c hc=>h c (az9 _ hc)]
theorem d4S(h:pD v){s:HP×Nat}:a2B s v=(v,s):=by
 rcases h with h|⟨cs,rfl,h⟩
 .have h2:=h.2.1 s;have h3:=h.2.2.2.2.2.2.2.2.2.2.1;cases v<;>first|exact h2|grind
 .rw[a2B,b5Q h]
theorem b5r{s:HP×Nat}:∀{l:List V},(∀v∈l,pD v)->a1Z s l=(l,s)
 |[],_=>rfl
 |v::l,h=>by
  rw[a1Z,d4S (h v (ay1 ..))];simp only;rw[b5r λ c hc=>h c (az9 _ hc)]
def rD(v:V):Prop:=pD v\/∃xs,v= .tup xs/\∀x∈xs,pD x
theorem d2Q(h:rD v){s:HP×Nat}:a1R s v=(v,s):=by
 rcases h with h|⟨xs,rfl,h⟩
 .have h2:=d4S h (s:=s);rcases h with h|⟨cs,rfl,h⟩
  .have h3:=h.2.2.2.2.2.2.2.2.2.2.2;cases v<;>first|exact h2|grind
  .exact h2
 .rw[a1R,b5r h]
variable {nx:Nat}
theorem b1v{f:a7F}(h:∀a∈args,pD a)(hf:f k args []=some (v,[]))(hv:rD v):a1q f g nx k args=some {v:=v}:=by
 unfold a1q;grind[a2i,c3T,a0G,a1u,a3y,a2s,d2Q]
theorem b9J(h:isD v):pD v:= .inl h
theorem d0n(h:pD v):rD v:= .inl h
theorem d4t(h:∀x∈xs,pD x):rD (.tup xs):= .inr ⟨xs,rfl,h⟩
variable {A:Type} {p:A->Prop}
theorem d2G:∀a∈([]:List A),p a:=nofun
theorem all_cons{a:A}{l:List A}(h:p a)(h2:∀a∈l,p a):∀b∈a::l,p b:=au6.2 ⟨h,h2⟩
theorem b1E(h:pD v):a0O g s v=some (v,s):=by
 rcases h with h|⟨cs,rfl,h⟩
 .have h2:=h.2.2.1 g s;have h3:=h.2.2.2.2.2.2.2.2.2.2.1;cases v<;>first|exact h2|grind
 .simp only[a0O];rw[a2i λ a ha=>(h a ha).2.2.1 g s]
theorem c7g(h:rD v):a2q g s v=some (v,s):=by
 rcases h with h|⟨cs,rfl,h⟩
 .have h2:=b1E h (g:=g) (s:=s);rcases h with h|⟨cs,rfl,h⟩
  .have h3:=h.2.2.2.2.2.2.2.2.2.2.2;cases v<;>first|exact h2|grind
  .exact h2
 grind[a2q,a2i,b1E]
theorem b1O(hk:d1T k=false)(h:rD v):a5t k g nx v=some (v,[],[]):=by
 simp_all[a5t,c6k,c7g]
def dX(xs:List V):Prop:=∀y∈xs,pD y
section
variable {s:HP×Nat} {v:Value} {o:Option (List V)} {xs:List V} {g:G} {w:List Nat×List Nat} {i:Nat}
variable {ms:List Nat} {d:Nat}
theorem c5E(h:dX xs):a0G (a0C (d+2) g) ms xs=some (xs,ms):=a2i λ a ha=>by
 rcases h a ha with h|⟨cs,rfl,h⟩
 .exact h.1 (d+1) g ms
 .rw[a0C,a2i λ a ha=>(h a ha).1 d g ms]
variable {f:Bool} {id n t z:Nat}
theorem d3H(h:g id=some (.row t z xs f))(hn:n=xs.length)(hd:dX xs)(hw:id∉w.2):a0h g w (.row id z 0 n)=some (.sl (some (t,z,f)) xs,w.1,id::w.2):=by
 grind[a5E,c5E,a0h]
theorem exR(h:g id=some (.row t z xs f))(hm:dX xs):a0C (d+3) g ms (.row id z 0 xs.length)=some (.sl none xs,id::ms):=by
 rw[a0C];simp_all[c5E]
theorem d2C(h:g id=some (.row t z xs f))(hn:n=xs.length)(hm:dX xs)(hw:id∈w.2):a0h g w (.row id z 0 n)=some (.sl none xs,id::w.1,w.2):=by
 have e:a0C ED g w.1 (.row id z 0 n)=some (.sl none xs,id::w.1):=by rw[a5E,hn];exact exR h hm
 subst hn;simp only[a0h,h];rw[ay9 (by simp[hw]),e]
end
def d1e(e sz:Nat)(g:G)(nx:Nat)(a:V)(b:List V):Option Go.PV.Out:=
 match a with
 | .nils=>if b.isEmpty then some {v:=a,cnt:=1}else if b.length>a2Z then none else some {v:= .row nx sz 0 b.length,upd:=[(nx,some (.row e sz b false))],cnt:=1}
 | .slf zs=>if b.isEmpty then some {v:=a,cnt:=1}else
   if zs.any (λ y=>y.cells.length≠sz)||zs.length+b.length>a2Z then none else
   some {v:= .row nx sz 0 (zs.length+b.length),upd:=[(nx,some (.row e sz (zs++b) false))],cnt:=1}
 | .row id z off n=>match g id with
   |some (.row ty d xs c)=>if ty≠e||z≠sz||d≠sz||off≠0||n>xs.length||(n<xs.length&&c)||n+b.length>a2Z then none else
     some {v:= .row nx sz 0 (n+b.length),upd:=[(nx,some (.row e sz (xs.take n++b) c)),(id,none)],cnt:=1}
   |_=>none
 |_=>none
end
end Go.PV
namespace Go.SE
section
open Go.PV Go.SN
variable {v:V}
theorem _root_.Go.PV.isD.ex(h:isD v):∀d g ms,a0C (d+1) g ms v=some (v,ms):=h.1
theorem _root_.Go.PV.isD.ci(h:isD v):∀s,a0J s v=(v,s):=h.2.1
theorem _root_.Go.PV.isD.co(h:isD v):∀g s,a0h g s v=some (v,s):=h.2.2.1
theorem _root_.Go.PV.isD.dp(h:isD v):a6J v=false:=h.2.2.2.2.1
theorem _root_.Go.PV.isD.so(h:isD v):∀i,a0S i v=v:=h.2.2.2.2.2.1
theorem _root_.Go.PV.isD.si(h:isD v):∀i,a0H i v=v:=h.2.2.2.2.2.2.1
theorem _root_.Go.PV.isD.cl(h:isD v):v.cells=[v]:=h.2.2.2.2.2.2.2.1
theorem _root_.Go.PV.isD.ok(h:isD v):a0r v=true:=h.2.2.2.2.2.2.2.2.1
theorem _root_.Go.PV.isD.np(h:isD v):a4Z v=false:=h.2.2.2.2.2.2.2.2.2.1
theorem _root_.Go.PV.isD.forms(h:isD v):(∃w,v= .lit w)\/v= .nils\/∃xs,v= .sl none xs:=by
 have h1:=h.ex 0 (λ _=>none) [];have h2:=h.ci ([],0);cases v with
 |lit w=>grind
 |nils=>grind
 |sl o xs=>cases o with
  |none=>grind
  |some q=>grind[a0J]
 |agg cs=>exact absurd rfl (h.2.2.2.2.2.2.2.2.2.2.1 cs)
 |tup cs=>exact absurd rfl (h.2.2.2.2.2.2.2.2.2.2.2 cs)
 |_=>simp[a0C]at h1
def lst:V->List V
 | .sl _ xs=>xs
 |_=>[]
structure Th where
 v:Nat->V
 len:Nat->Nat
 d:∀n,isD (v n)/\dX (lst (v n))
def tk(n:Nat):V:= .lit (.chan (some n))
def spr(n:Nat):V:= .lit (.map (some n))
def big:Nat:=1000000000000
def b7V(θ:Th)(n:Nat):Nat:=if n<big then n else θ.len (n-big)
def a3Z:Value->Option Nat
 | .chan (some n)=>some n
 |_=>none
def c1E:V->Option Nat
 | .lit (.map (some n))=>some n
 |_=>none
mutual
def sub(θ:Th):V->V
 | .lit v=>match a3Z v with
   |some n=>θ.v n
   |none=> .lit v
 | .nils=> .nils
 | .slf xs=> .slf (a3v θ xs)
 | .sl o xs=> .sl o (a3v θ xs)
 | .agg cs=> .agg (a1d θ cs)
 | .tup cs=> .tup (a1d θ cs)
 | .fn f a b=> .fn f (a1d θ a) (a1d θ b)
 | .row id sz off n=> .row id sz off (b7V θ n)
 | .ptr a b=> .ptr a b
 | .eptr a b c d=> .eptr a b c d
 | .dptr cs=> .dptr (a1d θ cs)
 | .map id=> .map id
 | .und=> .und
def a1d(θ:Th):List V->List V
 |[]=>[]
 |c::r=>sub θ c::a1d θ r
def a3v(θ:Th):List V->List V
 |[]=>[]
 |c::r=>(match c1E c with
  |some n=>lst (θ.v n)
  |none=>[sub θ c])++a3v θ r
end
def c1J(l:List V):Bool:=l.all λ v=>(c1E v).isNone
section
variable {θ:Th}
theorem a2t:∀{l:List V},a1d θ l=l.map (sub θ)
 |[]=>rfl
 |c::r=>by rw[a1d,a2t];rfl
theorem b1d:∀{a b:List V},a3v θ (a++b)=a3v θ a++a3v θ b
 |[],b=>rfl
 |c::r,b=>by rw[ap4,a3v,a3v,b1d,Ay5]
theorem a5a:∀{l:List V},c1J l=true->a3v θ l=a1d θ l
 |[],_=>rfl
 |c::r,h=>by
  simp only[c1J,Az3,az6,Au9]at h;rw[a3v,a1d,h.1,a5a (l:=r) h.2];rfl
variable {l:List V}
theorem a0U:(a1d θ l).length=l.length:=by grind[a2t]
theorem a5g{a b:List V}:a1d θ (a++b)=a1d θ a++a1d θ b:=by simp[a2t]
variable {i:Nat}
theorem b2W:(a1d θ l)[i]?=(l[i]?).map (sub θ):=by grind[a2t]
theorem a5O:a1d θ (l.drop i)=(a1d θ l).drop i:=by simp[a2t]
theorem c6a:a1d θ (l.take i)=(a1d θ l).take i:=by simp[a2t]
theorem c5m:(a1d θ l).head?=(l.head?).map (sub θ):=by cases l<;>rfl
variable {w:Value}
theorem a1k(h:a3Z w=none):sub θ (.lit w)= .lit w:=by rw[sub,h]
variable {v:V}
theorem a2v:(sub θ v).cells=a1d θ v.cells:=by
 cases v with
 |lit w=>
  rw[sub];cases h:a3Z w with
  |none=>grind[V.cells,a1d,sub]
  |some n=>simp only[V.cells,a1d,sub,h];exact(θ.d n).1.cl
 |_=>grind[sub,V.cells,a1d]
theorem d4Z:a0r (sub θ v)=a0r v:=by
 cases v with
 |lit w=>
  rw[sub];cases h:a3Z w with
  |none=>rfl
  |some n=>exact(θ.d n).1.ok
 |_=>simp only[sub,a0r]
theorem d5O:a4Z (sub θ v)=a4Z v:=by
 cases v with
 |lit w=>
  rw[sub];cases h:a3Z w with
  |none=>rfl
  |some n=>
   have:a4Z (.lit w)=false:=by
    cases w with
    |pointer a=>simp[a3Z]at h
    |_=>rfl
   rw[this];exact(θ.d n).1.np
 |_=>simp only[sub,a4Z]
theorem b4f:(sub θ v).fit=v.fit:=by
 grind[V.fit,a2v,a2t,d4Z]
theorem c9x:bk (a1d θ l)=bk l:=by
 match l with
 |[]=>rfl
 |[a]=>rfl
 |[a,b]=>exact d5O
 |a::b::c::r=>rfl
theorem a5C:∀{cs:List V} {o:Nat} {vs:List V},setCells (a1d θ cs) o (a1d θ vs)=a1d θ (setCells cs o vs)
 |cs,0,vs=>by
  grind[setCells,a5g,a0U,a5O]
 |[],o+1,vs=>rfl
 |c::cs,o+1,vs=>by simp only[a1d,setCells,a5C]
theorem b2B(h:a0Z w=some v):sub θ v=v:=by
 unfold a0Z at h;split at h
 .split at h
  .cases h;rfl
  .cases h
 .split at h
  .next hs=>
   injection h with h
   subst h;refine a1k ?_;cases w<;>first|rfl|grind[sc]
  .cases h
theorem a5X:∀{l:List Value} {r:List V},a0D a0Z l=some r->a1d θ r=r
 |[],r,h=>by simp only[a0D,az0]at h;subst h;rfl
 |a::l,r,h=>by
  simp only[a0D]at h;cases h1:a0Z a with
  |none=>grind
  |some b=>
   cases h2:a0D a0Z l with
   |none=>grind
   |some bs=>simp only[h1,h2,az0]at h;subst h;rw[a1d,b2B h1,a5X h2]
theorem b0l(h:a1w w=some v):sub θ v=v:=by
 unfold a1w at h;split at h
 .simp only[az2]at h;obtain⟨r,h1,rfl⟩:=h;rw[sub,a5X h1]
 .split at h
  .cases h;rfl
  .cases h
 .exact b2B h
theorem b3O{P:Program}{t:Nat}{z:V}(h:a4h P t=some z):sub θ z=z:=by
 grind[a4h,az3,b0l]
end
def b9K(θ:Th):Box->Box
 | .var cs=> .var (a1d θ cs)
 | .row ty z xs f=> .row ty z (a3v θ xs) f
 | .map es=> .map es
def a4f(θ:Th)(g:G):G:=λ i=>(g i).map (b9K θ)
def a5M(θ:Th)(h:HP):HP:=h.map λ q=>(q.1,q.2.map (b9K θ))
def c1n(θ:Th):T->T
 | .leaf=> .leaf
 | .one v=> .one (sub θ v)
 | .node l r=> .node (c1n θ l) (c1n θ r)
def a1Q(θ:Th)(s:St):St:={env:=c1n θ s.env,h:=a5M θ s.h,nx:=s.nx,sz:=s.sz}
def b1x(θ:Th)(o:Out):Out:={v:=sub θ o.v,upd:=a5M θ o.upd,cnt:=o.cnt}
section
variable {θ:Th}
theorem a5i:∀{h:HP},a0b (a5M θ h)=a4f θ (a0b h)
 |[]=>rfl
 |(j,b)::r=>by
  funext i
  have ih:=congrFun (a5i (h:=r)) i;unfold a4f at ih|-;simp only[a5M,av2,a0b];by_cases e:i=j
  .simp[e]
  .rw[ay9 e,ay9 e];exact ih
theorem b0J{a b:HP}:a5M θ (a++b)=a5M θ a++a5M θ b:=by simp[a5M]
theorem b0b:∀(d:Nat) (t:T) (i:Nat),T.get d (c1n θ t) i=sub θ (T.get d t i)
 |0,.leaf,_=>rfl
 |0,.one _,_=>rfl
 |0,.node _ _,_=>rfl
 |_+1,.leaf,_=>rfl
 |_+1,.one _,_=>rfl
 |d+1,.node l r,i=>by
  simp only[c1n,T.get];split
  .exact b0b d l _
  .exact b0b d r _
theorem a5W:∀(d:Nat) (t:T) (i:Nat) (v:V),T.put d (c1n θ t) i (sub θ v)=c1n θ (T.put d t i v)
 |0,t,_,_=>by cases t<;>rfl
 |d+1,t,i,v=>by
  have l0:=a5W d .leaf (i/2) v;cases t with
  |node l r=>
   simp only[c1n,T.put];split
   .rw[a5W d l];rfl
   .rw[a5W d r];rfl
  |leaf=>grind[c1n,T.put]
  |one x=>grind[c1n,T.put]
variable {s:St}
theorem get_sub:(a1Q θ s).get=λ i=>sub θ (s.get i):=by
 funext i
 unfold St.get;split
 .exact b0b 8 s.env i
 .rfl
variable {v:V}
theorem put_sub{i:Nat}:(a1Q θ s).put i (sub θ v)=a1Q θ (s.put i v):=by
 grind[St.put,a1Q,a5W]
theorem b2R{d:Option Tmp}:a2H (a1Q θ s) d (sub θ v)=a1Q θ (a2H s d v):=by
 cases d with
 |none=>rfl
 |some d=>exact put_sub
variable {get:Nat->V}
theorem ev_sub{x:Operand}:ev (λ i=>sub θ (get i)) x=(ev get x).map (sub θ):=by
 cases x with
 |tmp t=>rfl
 |const v=>
  simp only[ev];cases h:a1w v with
  |none=>rfl
  |some w=>simp[b0l h]
 |func f=>rfl
 |_=>rfl
theorem a6Q{l:Array Operand}:evs (λ i=>sub θ (get i)) l=(evs get l).map (a1d θ):=by
 unfold evs;generalize l.toList=l;induction l with
 |nil=>rfl
 |cons a l ih=>
  simp only[a0D,ev_sub];cases ev get a with
  |none=>rfl
  |some v=>
   simp only[ax0,ih];cases a0D (ev get) l with
   |none=>rfl
   |some r=>rfl
theorem b3M{P:Program}{t:Nat}{cs:List V}(h:a6x P t cs=some v):a6x P t (a1d θ cs)=some (sub θ v):=by
 unfold a6x at h|-;simp only[Az0,az3]at h|-;obtain⟨n,h1,a,h2,h⟩:=h;refine⟨n,h1,a,h2,?_⟩;split at h
 .next ha=>
  rw[ax3 ha,a0U];split at h
  .cases h
  .next hn=>
   rw[ay9 hn];grind[sub,c6a]
 simp_all[c5m]
end
end
section
open Go.PV Go.SN
section
variable (P:Program)
def c6T(g:G)(id:Nat):Bool:=match g id with
 |some (.row _ _ xs _)=>c1J xs
 |_=>false
def c7Z:HP->Bool
 |[]=>true
 |(_,some (.row _ _ xs _))::r=>c1J xs&&c7Z r
 |_::r=>c7Z r
def c0t:V->Bool
 | .dptr _| .ptr _ _=>true
 |_=>false
def c6V:PV.Calls:=⟨λ _ _ _=>none,λ _=>none⟩
def opD(get:Nat->V)(g:G)(nx:Nat)(o:Oper):Option Out:=
 match o.op with
 | .move _| .assign _| .alloc _| .box _ _| .build _ _| .makeFunc _ _ _| .extract _ _| .nilCheck _| .fieldAddr _ _ _| .field _ _ _=>opE P c6V get g nx o
 | .buildSlice _ n _=>match opE P c6V get g nx o with
   |some r=>if c7Z r.upd&&decide (n<big)then some r else none
   |none=>none
 | .load _ a=>match ev get a with
   |some (.eptr id _ _ _)=>if c6T g id then opE P c6V get g nx o else none
   |some v=>if c0t v then opE P c6V get g nx o else none
   |none=>none
 | .store _ a _=>match ev get a with
   |some (.ptr _ _)=>opE P c6V get g nx o
   |_=>none
 | .indexAddr _ x _=>match ev get x with
   |some (.row _ _ _ m)=>if m<big then opE P c6V get g nx o else none
   |some (.sl _ xs)=>if c1J xs then opE P c6V get g nx o else none
   |_=>none
 |_=>none
end
section
variable {P:Program} {θ:Th} {get:Nat->V} {g:G} {nx:Nat}
theorem b0e{p:V}{cs:List V}(hp:∀id sz i off,p= .eptr id sz i off->c6T g id=true)(h:a0E g p=some cs)(h2:c0t p=true\/∃id sz i off,p= .eptr id sz i off):a0E (a4f θ g) (sub θ p)=some (a1d θ cs):=by
 unfold a0E at h;split at h
 .grind[sub,a0E,a4f,b9K,a5O]
 .next id sz i off=>
  have a:=hp id sz i off rfl;split at h
  .next z xs f hg=>
   split at h
   .next hz=>
    simp only[az2]at h;obtain⟨x,hx,rfl⟩:=h;simp_all[c6T,sub,a0E,a4f,b9K,a5a,b2W,a2v,a5O]
   .cases h
  .cases h
 all_goals grind[sub,a0E]
theorem c1N{o:Nat}{v w:V}(h:a3B o v=some w):a3B o (sub θ v)=some (sub θ w):=by
 unfold a3B at h;grind[sub,a3B,a5O]
theorem c1M{v:V}{n:Nat}(h:a2u v=some n):sub θ v=v:=by
 unfold a2u at h;split at h
 .rfl
 .cases h
theorem b6k{pl:List (Nat×Nat)}:∀{l:List (Nat×Operand)} {r:List (Nat×Nat×V)},a0D (a3b get pl) l=some r->a0D (a3b (λ i=>sub θ (get i)) pl) l=some (r.map λ q=>(q.1,q.2.1,sub θ q.2.2))
 |[],r,h=>by grind[a0D]
 |a::l,r,h=>by
  simp only[a0D]at h;cases h1:a3b get pl a with
  |none=>grind
  |some b=>
   cases h2:a0D (a3b get pl) l with
   |none=>grind
   |some bs=>
    simp only[h1,h2,az0]at h;subst h;have h3:a3b (λ i=>sub θ (get i)) pl a=some (b.1,b.2.1,sub θ b.2.2):=by
     unfold a3b at h1|-;rw[ev_sub];cases hp:pl[a.1]? with
     |none=>grind
     |some q=>grind
    simp only[a0D,h3,b6k h2,av2]
theorem b9Y:∀{l:List (Nat×Nat×V)} {cs ds:List V},fill cs l=some ds->fill (a1d θ cs) (l.map λ q=>(q.1,q.2.1,sub θ q.2.2))=some (a1d θ ds)
 |[],cs,ds,h=>by grind[fill]
 |(off,size,v)::r,cs,ds,h=>by
  simp only[fill]at h;split at h
  .cases h
  .next hn=>
   simp only[av2,fill,a2v,a0U,b4f,a5C];rw[ay9 hn];exact b9Y h
theorem b4y:∀{l:List (Nat×Operand)} {r:List (Nat×V)},a0D (a3a get) l=some r->a0D (a3a (λ i=>sub θ (get i))) l=some (r.map λ q=>(q.1,sub θ q.2))
 |[],r,h=>by grind[a0D]
 |a::l,r,h=>by
  simp only[a0D]at h;cases h1:a3a get a with
  |none=>grind
  |some b=>
   cases h2:a0D (a3a get) l with
   |none=>grind
   |some bs=>
    simp only[h1,h2,az0]at h;subst h;have h3:a3a (λ i=>sub θ (get i)) a=some (b.1,sub θ b.2):=by
     unfold a3a at h1|-;rw[ev_sub];simp only[az2]at h1;obtain⟨v,e,rfl⟩:=h1;rw[e];rfl
    simp only[a0D,h3,b4y h2,av2]
theorem b2j{sz:Nat}:∀{l:List (Nat×V)} {xs a:List V},a1H xs sz l=some a->a1H (a1d θ xs) sz (l.map λ q=>(q.1,sub θ q.2))=some (a1d θ a)
 |[],xs,a,h=>by grind[a1H]
 |(i,v)::r,xs,a,h=>by
  simp only[a1H]at h;split at h
  .next hn=>
   simp only[av2,a1H,a2v,a0U,b4f];rw[ax3 hn];have:(a1d θ xs).set i (sub θ v)=a1d θ (xs.set i v):=by simp[a2t,List.map_set]
   rw[this];exact b2j h
  .cases h
theorem c5l{o:Oper}{out:Out}(h:opD P get g nx o=some out)(c:PV.Calls):opE P c (λ i=>sub θ (get i)) (a4f θ g) nx o=some (b1x θ out):=by
 obtain⟨k,op,type,pos,after,guard⟩:=o;cases op;case move x=>
  simp only[opD,opE,Az0,az3,Az1,az0]at h|-;obtain⟨v,h1,rfl⟩:=h;exact⟨sub θ v,by rw[ev_sub,h1];rfl,rfl⟩
 case assign x=>
  simp only[opD,opE,Az0,az3,Az1,az0]at h|-;obtain⟨v,h1,rfl⟩:=h;exact⟨sub θ v,by rw[ev_sub,h1];rfl,rfl⟩
 case alloc t=>
  simp only[opD,opE,Az0,az3,Az1]at h|-;obtain⟨z,h1,h⟩:=h;refine⟨z,h1,?_⟩;split at h
  .cases h
  .next hn=>
   rw[ay9 hn];injection h with h
   subst h;have:a1d θ z.cells=z.cells:=by rw[<-a2v,b3O h1]
   grind[b1x,sub,a5M,b9K]
 case box t x=>
  simp only[opD,opE,Az0,az3,Az1]at h|-;obtain⟨v,h1,h⟩:=h;refine⟨sub θ v,by rw[ev_sub,h1];rfl,?_⟩;rw[b4f,a2v,c9x];split at h
  .cases h
  .next hn=>
   rw[ay9 hn];grind[b1x,sub,a5M,b9K]
 case build t ps=>
  simp only[opD,opE,Az0,az3,Az1]at h|-;obtain⟨z,h1,h⟩:=h;refine⟨z,h1,?_⟩;split at h
  .next fs C=>
   simp only[az3,az0]at h|-;obtain⟨pl,d,q,B,w,l,rfl⟩:=h;refine⟨pl,d,_,b6k B,a1d θ w,?_,rfl⟩;have:a1d θ z.cells=z.cells:=by rw[<-a2v,b3O h1]
   grind[b9Y]
  .cases h
 case buildSlice t n ps=>
  simp only[opD]at h;split at h
  .next r hr=>
   split at h
   .next hc=>
    injection h with h
    subst h;simp only[az6,ay2]at hc;simp only[opE,Az0,az3,Az1]at hr|-;obtain⟨e,e1,z,D,sz,y,hr⟩:=hr;refine⟨e,e1,z,D,sz,y,?_⟩;split at hr
    .cases hr
    .next hn=>
     rw[ay9 hn];simp only[az3,az0]at hr|-;obtain⟨q,B,xs,E,rfl⟩:=hr;have A:c1J xs=true:=by simpa[c7Z]using hc.1
     refine⟨_,b4y B,a1d θ xs,?_,?_⟩
     .have F:=b2j (θ:=θ) E;grind[a2t,List.map_replicate,b3O]
     simp_all[b1x,sub,b7V,a5M,b9K,a5a]
   .cases h
  .cases h
 case load t a=>
  have key:∀v,ev get a=some v->(∀id sz i off,v= .eptr id sz i off->c6T g id=true)->(c0t v=true\/∃id sz i off,v= .eptr id sz i off)->opE P c6V get g nx ⟨k,.load t a,type,pos,after,guard⟩=some out->opE P c (λ i=>sub θ (get i)) (a4f θ g) nx ⟨k,.load t a,type,pos,after,guard⟩=some (b1x θ out):=by
   intro v h1 h2 h3 h;simp only[opE,Az0,az3,Az1,az0]at h|-;obtain⟨p,d,cs,c1,w,l,rfl⟩:=h;rw[h1]at d;injection d with d
   subst d;exact⟨sub θ v,by rw[ev_sub,h1];rfl,a1d θ cs,b0e h2 c1 h3,sub θ w,b3M l,rfl⟩
  simp only[opD]at h;split at h
  .next id sz i off h1=>
   split at h
   .next hn=>exact key _ h1 (λ _ _ _ _ e=>by grind) (.inr ⟨_,_,_,_,rfl⟩) h
   .cases h
  all_goals grind
 case store t a x=>
  simp only[opD]at h;split at h
  .next id off h1=>
   simp only[opE,Az0,az3,Az1]at h|-;obtain⟨p,d,v,v1,n,n1,h⟩:=h;rw[h1]at d;injection d with d
   subst d;refine⟨.ptr id off,by rw[ev_sub,h1];rfl,sub θ v,by rw[ev_sub,v1];rfl,n,n1,?_⟩;rw[a2v,a0U,b4f];split at h
   .cases h
   .next hn=>
    rw[ay9 hn];simp only[az3,az0]at h|-;obtain⟨u,j,rfl⟩:=h;refine⟨a5M θ u,?_,rfl⟩;simp only[storeAt]at j|-;split at j
    .next cs hg=>
     simp only[a4f,hg,ax0,b9K,a0U,a5C,c9x];split at j
     .next h3=>
      rw[ax3 h3];split at j
      .cases j
      .next h4=>
       rw[ay9 h4];injection j with j
       subst j;rfl
     .cases j
    .cases j
  .cases h
 case nilCheck x=>
  simp only[opD,opE,Az0,az3,Az1]at h|-;obtain⟨v,h1,h⟩:=h;refine⟨sub θ v,by rw[ev_sub,h1];rfl,?_⟩;split at h<;>first|(cases h;rfl)|cases h
 case fieldAddr t x f=>
  simp only[opD,opE,Az0,az3,Az1]at h|-;obtain⟨⟨o,ft⟩,h1,s,y,h⟩:=h;refine⟨(o,ft),h1,s,y,?_⟩;split at h
  .cases h
  .next hn=>
   rw[ay9 hn];simp only[az3,az0]at h|-;obtain⟨v,v1,w,l,rfl⟩:=h;exact⟨sub θ v,by rw[ev_sub,v1];rfl,sub θ w,c1N l,rfl⟩
 case field t x f=>
  simp only[opD,opE,Az0,az3,Az1]at h|-;obtain⟨⟨o,ft⟩,h1,v,v1,h⟩:=h;refine⟨(o,ft),h1,sub θ v,by rw[ev_sub,v1];rfl,?_⟩;split at h
  .next cs=>
   simp only[az3,az0]at h;obtain⟨w,l,rfl⟩:=h;simp only[sub,<-a5O,b3M l,az1];rfl
  .cases h
 case indexAddr t x i=>
  have key:∀v,ev get x=some v->(∀id sz off m,v= .row id sz off m->m<big)->((∃id sz off m,v= .row id sz off m)\/∃o xs,v= .sl o xs/\c1J xs=true)->opE P c6V get g nx ⟨k,.indexAddr t x i,type,pos,after,guard⟩=some out->opE P c (λ i=>sub θ (get i)) (a4f θ g) nx ⟨k,.indexAddr t x i,type,pos,after,guard⟩=some (b1x θ out):=by
   intro v h1 h2 h3 h;simp only[opE,Az0,az3,Az1]at h|-;obtain⟨iv,i1,n,n1,e,e1,sz,y,p,d,h⟩:=h;rw[h1]at d;injection d with d
   subst d;refine⟨iv,by rw[ev_sub,i1];exact an8 some (c1M n1),n,n1,e,e1,sz,y,sub θ v,by rw[ev_sub,h1];rfl,?_⟩;rcases h3 with⟨id,z,off,m,rfl⟩|⟨o,xs,rfl,A⟩
   .simp only[sub,b7V,ax3 (h2 _ _ _ _ rfl)]at h|-;split at h
    .next hn=>rw[ax3 hn];cases h;rfl
    .cases h
   .simp only[sub,a5a A,az3]at h|-;obtain⟨w,l,h⟩:=h;refine⟨sub θ w,by grind[b2W],?_⟩;rw[a2v,a0U];split at h
    .cases h
    .next hn=>
     rw[ay9 hn];injection h with h
     subst h;rfl
  simp only[opD]at h;split at h
  .next id sz off m h1=>
   split at h
   .next hn=>exact key _ h1 (λ _ _ _ _ e=>by grind) (.inl ⟨_,_,_,_,rfl⟩) h
   .cases h
  all_goals simp_all
 case makeFunc fn first cap=>
  cases fn with
  |func f=>simp only[opD,opE,Az0,az3,Az1,az0]at h|-;obtain⟨a,a1,b,b1,rfl⟩:=h;exact⟨a1d θ a,by rw[a6Q,a1];rfl,a1d θ b,by rw[a6Q,b1];rfl,rfl⟩
  |_=>cases h
 case extract x i=>
  simp only[opD,opE,Az0,az3,Az1]at h|-;obtain⟨v,h1,h⟩:=h;refine⟨sub θ v,by rw[ev_sub,h1];rfl,?_⟩;split at h
  .next vs=>
   simp only[az3,az0]at h;obtain⟨w,l,rfl⟩:=h;simp only[sub,b2W,l,ax0,az1];rfl
  .cases h
 all_goals grind[opD]
end
end
section
open Go.PV Go.SN
inductive Kd where
 |int (k:IntKind)|str|bool
 deriving DecidableEq
def Kd.ok:Kd->Value->Prop
 | .int k,u=>∃m,u= .int k m
 | .str,u=>∃b,u= .string b
 | .bool,u=>∃b,u= .bool b
section
variable (P:Program)
def eqK:Nat->Nat->List Kd->List Kd->Bool
 |0,_,_,_=>false
 |d+1,t,x,y=>match P.underlying t with
  |some .bool=>match x,y with
   | .bool::_,.bool::_=>true
   |_,_=>false
  |some (.int _)=>match x,y with
   | .int k::_,.int a::_=>k==a
   |_,_=>false
  |some .string=>match x,y with
   | .str::_,.str::_=>true
   |_,_=>false
  |some (.struct fs)=> !P.stoodInHeld t&&fs.toList.all λ f=>match a1M P f.type with
   |some n=>decide (f.offset+n<=x.length)&&(decide (f.offset+n<=y.length)&&eqK d f.type ((x.drop f.offset).take n) ((y.drop f.offset).take n))
   |none=>false
  |_=>false
def d6e(t:Nat)(x y:List Kd):Bool:=(!P.eqGuardType P.depth t&&eqK P 6 t x y)&&(match P.underlying t with|some (.struct _)=>true|_=>false)
end
section
variable {P:Program}
def Kds(x:List Kd)(us:List Value):Prop:=x.length=us.length/\∀(j:Nat) (a:Kd) (u:Value),x[j]?=some a->us[j]?=some u->a.ok u
theorem Kds.part{x:List Kd}{us:List Value}(h:Kds x us)(o n:Nat):Kds ((x.drop o).take n) ((us.drop o).take n):=by
 refine⟨by simp[h.1],λ j a u ha hu=> ?_⟩;rw[av1]at ha hu;split at ha
 .next hj=>
  rw[ax3 hj,at5]at hu;rw[at5]at ha;exact h.2 _ a u ha hu
 .cases ha
theorem c0E(a:ByteArray):(a==a)=true:=by
 cases a with
 |mk d=>exact(show(d==d)=true from by simp)
theorem a8l{A:Type}{f:A->Option Bool×Unit->Sem (ForInStep (Option Bool×Unit))}:∀{l:List A},(∀x∈l,∀b,a0c P (f x b)=some (.yield (none,())))->a0c P (forIn l ((none,()):Option Bool×Unit) f)=some (none,())
 |[],_=>rfl
 |x::l,h=>by
  rw[Aw2,a0a,h x (ay1 ..) _,az1];exact a8l λ y hy=>h y (az9 _ hy)
theorem b2d{A a:Type}{f f':A->a->Sem (ForInStep a)}:∀{l:List A} {b:a},(∀x∈l,∀b,∃r,a0c P (f x b)=some r/\a0c P (f' x b)=some r)->∃r,a0c P (forIn l b f)=some r/\a0c P (forIn l b f')=some r
 |[],b,_=>⟨b,rfl,rfl⟩
 |x::l,b,h=>by
  obtain⟨r,hr,c⟩:=h x (ay1 ..) b;rw[Aw2,a0a,hr,az1,Aw2,a0a,c,az1];cases r with
  |done b=>exact⟨b,rfl,rfl⟩
  |yield b=>exact b2d λ y hy=>h y (az9 _ hy)
theorem c1z(a b:ByteArray):(a==b)=(b==a):=by
 cases a with
 |mk a=>cases b with
  |mk b=>exact(show(a==b)=(b==a)from by grind)
theorem b8Z:∀(d:Nat) (t:Nat) (x y:List Kd) (us vs:List Value),eqK P d t x y=true->Kds x us->Kds y vs->∀D,d<=D->∃b,a0c P (Op.equalIn D t (pk P t us) (pk P t vs))=some b/\a0c P (Op.equalIn D t (pk P t vs) (pk P t us))=some b/\(us=vs->b=true)
 |0,t,x,y,us,vs,h,_,_,D,_=>by cases h
 |d+1,t,x,y,us,vs,h,hx,hy,0,hD=>by omega
 |d+1,t,x,y,us,vs,h,hx,hy,D+1,hD=>by
  unfold eqK at h;split at h
  .next ht=>
   split at h
   .next z A=>
    cases us with
    |nil=>cases hx.1
    |cons u us=>cases vs with
     |nil=>cases hy.1
     |cons v vs=>obtain⟨a,rfl⟩:=hx.2 0 _ u rfl rfl;obtain⟨b,rfl⟩:=hy.2 0 _ v rfl rfl;simp only[pk,ht,Ay1,Op.equalIn,a0a,a0g ht,az1,a0i];grind
   .cases h
  .next k0 ht=>
   split at h
   .next k1 z k2 A=>
    have h:k1=k2:=by simpa using h
    subst h;cases us with
    |nil=>cases hx.1
    |cons u us=>cases vs with
     |nil=>cases hy.1
     |cons v vs=>obtain⟨a,rfl⟩:=hx.2 0 _ u rfl rfl;obtain⟨b,rfl⟩:=hy.2 0 _ v rfl rfl;simp only[pk,ht,Ay1,Op.equalIn,a0a,a0g ht,az1,aw4,a0i];grind
   .cases h
  .next ht=>
   split at h
   .next z A=>
    cases us with
    |nil=>cases hx.1
    |cons u us=>cases vs with
     |nil=>cases hy.1
     |cons v vs=>obtain⟨a,rfl⟩:=hx.2 0 _ u rfl rfl;obtain⟨b,rfl⟩:=hy.2 0 _ v rfl rfl;simp only[pk,ht,Ay1,Op.equalIn,a0a,a0g ht,az1,a0i];exact⟨_,rfl,an8 some (c1z _ _),λ e=>by grind[c0E]⟩
   .cases h
  .next fs ht=>
   rw[az6,ax2,ay5]at h;obtain⟨o,m⟩:=h;have step:∀f∈fs.toList,∃b,a0c P (do Op.equalIn D f.type (<-part f.type us.toArray f.offset) (<-part f.type vs.toArray f.offset))=some b/\a0c P (do Op.equalIn D f.type (<-part f.type vs.toArray f.offset) (<-part f.type us.toArray f.offset))=some b/\(us=vs->b=true):=by
    intro f hf;have i:=m f hf;split at i
    .next n hn=>
     simp only[az6,ay2]at i;obtain⟨l1,l2,he⟩:=i;rw[hx.1]at l1;rw[hy.1]at l2;obtain⟨b,hb,C,E⟩:=b8Z d f.type _ _ _ _ he (hx.part f.offset n) (hy.part f.offset n) D (by omega);have F:∃dd,P.underlying f.type=some dd/\((∃fs,dd= .struct fs)\/((∀fs,dd≠ .struct fs)/\(∀k e,dd≠ .array k e)/\0<n)):=by
      have B:∀{q r:List Kd},eqK P d f.type q r=true->(q=[]->(∃fs,P.underlying f.type=some (.struct fs))):=by
       intro q r hq p;subst p;cases d with
       |zero=>cases hq
       |succ d=>grind[eqK]
      cases hu:P.underlying f.type with
      |none=>
       cases d with
       |zero=>cases he
       |succ d=>simp[eqK,hu]at he
      |some dd=>
       refine⟨dd,rfl,?_⟩;cases dd;case struct fs=>grind
       case array k e=>
        cases d with
        |zero=>cases he
        |succ d=>simp[eqK,hu]at he
       all_goals
        grind
     grind[a0a,a4B]
    .cases i
   have e:pk P t us= .agg us.toArray:=by simp only[pk,ht]
   have G:pk P t vs= .agg vs.toArray:=by simp only[pk,ht]
   rw[e,G];simp only[Op.equalIn,a0a,a0g ht,az1];have j:a0c P Go.program=some P:=rfl;simp only[j,az1,o,ay6,av8];have one:∀(us vs:List Value) (f:Field) (b:Option Bool×Unit) (q:Bool),a0c P (do Op.equalIn D f.type (<-part f.type us.toArray f.offset) (<-part f.type vs.toArray f.offset))=some q->a0c P (if f.name≠ "_" then do
        let c<-part f.type us.toArray f.offset;let g<-part f.type vs.toArray f.offset;let c<-Op.equalIn D f.type c g
        if(!c)=true then pure (ForInStep.done ((some false,()):Option Bool×Unit))
         else pure (ForInStep.yield (none,()))
       else pure (ForInStep.yield (none,())))=some (if f.name≠ "_" then(if q then .yield (none,())else .done (some false,()))else .yield (none,())):=by
    intro us vs f b q hq;split
    .rw[a0a]at hq|-;cases h1:a0c P (part f.type us.toArray f.offset)with
     |none=>grind
     |some J=>
      rw[h1,az1,a0a]at hq;rw[az1,a0a];cases h2:a0c P (part f.type vs.toArray f.offset)with
      |none=>grind
      |some K=>rw[h2,az1]at hq;rw[az1,a0a,hq,az1];cases q<;>rfl
    .rfl
   have hh:∃r,a0c P (forIn fs.toList ((none,()):Option Bool×Unit) λ f s=>if f.name≠ "_" then do
           let c<-part f.type us.toArray f.offset;let g<-part f.type vs.toArray f.offset;let c<-Op.equalIn D f.type c g
           if(!c)=true then pure (ForInStep.done ((some false,()):Option Bool×Unit))
            else pure (ForInStep.yield (none,()))
          else pure (ForInStep.yield (none,())))=some r/\a0c P (forIn fs.toList ((none,()):Option Bool×Unit) λ f s=>if f.name≠ "_" then do
           let c<-part f.type vs.toArray f.offset;let g<-part f.type us.toArray f.offset;let c<-Op.equalIn D f.type c g
           if(!c)=true then pure (ForInStep.done ((some false,()):Option Bool×Unit))
            else pure (ForInStep.yield (none,()))
          else pure (ForInStep.yield (none,())))=some r/\(us=vs->r=(none,())):=by
    by_cases w:us=vs
    .subst w;refine⟨(none,()),a8l λ f hf b=> ?_,a8l λ f hf b=> ?_,λ _=>rfl⟩;all_goals
      simp_all
    .obtain⟨r,h1,h2⟩:=b2d (P:=P) (l:=fs.toList) (b:=((none,()):Option Bool×Unit)) λ f hf b=>by
      obtain⟨q,H,I,L⟩:=step f hf;exact⟨_,one us vs f b q H,one vs us f b q I⟩
     grind
   obtain⟨r,h1,h2,h3⟩:=hh;rw[<-Av1,<-Av1,a0a,h1,az1,a0a,h2,az1];obtain⟨r1,r2⟩:=r;cases r1 with
   |none=>exact⟨_,rfl,rfl,λ _=>rfl⟩
   |some q=>exact⟨_,rfl,rfl,λ e=>by cases h3 e⟩
  .cases h
def Kl(x:List Kd)(cs:List V):Prop:=∃us,cs=us.map V.lit/\Kds x us
theorem a3e:∀{us:List Value},a0D a1b (us.map V.lit)=some us
 |[]=>rfl
 |u::us=>by simp only[av2,a0D,a1b,a3e]
theorem c4T{t:Nat}{x y:List Kd}{cs ds:List V}(h:d6e P t x y=true)(hx:Kl x cs)(hy:Kl y ds):∃b,(cs=ds->b=true)/\∀p q,a3w P .eql t p q (.agg cs) (.agg ds)=some (.lit (.bool b))/\a3w P .neq t p q (.agg cs) (.agg ds)=some (.lit (.bool !b))/\a3w P .eql t p q (.agg ds) (.agg cs)=some (.lit (.bool b)):=by
 unfold d6e at h;rw[az6]at h;obtain⟨h0,hst⟩:=h;simp only[az6,ax2]at h0;obtain⟨hg,ht⟩:=h0;obtain⟨us,rfl,u2⟩:=hx;obtain⟨vs,rfl,v2⟩:=hy;obtain⟨b,hb,hbs,hb2⟩:=b8Z 6 t x y us vs ht u2 v2 Op.maxDepth (by decide);split at hst;case h_2=>cases hst
 next fs hu=>
 have hpk:∀l,pk P t l= .agg l.toArray:=λ l=>by grind[pk]
 rw[hpk,hpk]at hb hbs;have hprog:a0c P Go.program=some P:=rfl;have hguard:∀p q (op:BinOp) (us vs:List Value),op= .eql\/op= .neq->a0c P (eqGuard op t p q (.agg us.toArray) (.agg vs.toArray))=some ():=by
  intro p q op us vs ho;unfold eqGuard;rcases ho with rfl|rfl<;>
   (simp only[aq4,ay6,av8,a0a,hprog,az1,hg,am4,aw4];rfl)
 have heq:a0c P (Op.equal t (.agg us.toArray) (.agg vs.toArray))=some b:=hb;have heqs:a0c P (Op.equal t (.agg vs.toArray) (.agg us.toArray))=some b:=hbs;refine⟨b,λ e=>hb2 ?_,λ p q=>⟨?_,?_,?_⟩⟩
 .have:=an8 (a0D a1b) e;grind[a3e]
 .unfold a3w;simp only[Az0,hu,az1,a2U,ay6,av8,a0W,a3e,ax0,a0t,a0a,hguard p q .eql us vs (.inl rfl)];show(a0c P (do pure (Value.bool (<-Op.equal t (.agg us.toArray) (.agg vs.toArray))))).bind a1w=_;rw[a0a,heq];rfl
 .unfold a3w;simp only[Az0,hu,az1,a2U,ay6,av8,a0W,a3e,ax0,a0t,a0a,hguard p q .neq us vs (.inr rfl)];show(a0c P (do pure (Value.bool (!(<-Op.equal t (.agg us.toArray) (.agg vs.toArray)))))).bind a1w=_;rw[a0a,heq];rfl
 .unfold a3w;simp only[Az0,hu,az1,a2U,ay6,av8,a0W,a3e,ax0,a0t,a0a,hguard p q .eql vs us (.inl rfl)];show(a0c P (do pure (Value.bool (<-Op.equal t (.agg vs.toArray) (.agg us.toArray))))).bind a1w=_;rw[a0a,heqs];rfl
end
end
section
open Go.PV Go.SN
def a6I:BinOp->Int->Int->Bool
 | .eql,a,b=>a==b
 | .neq,a,b=>a !=b
 | .lss,a,b=>decide (a<b)
 | .leq,a,b=>decide (a<=b)
 | .gtr,a,b=>decide (a>b)
 | .geq,a,b=>decide (a>=b)
 |_,_,_=>false
inductive Fact where
 |ty (n:Nat) (d:TD)
 |boo (n:Nat) (b:Bool)
 |icmp (op:BinOp) (a b:V) (c:Bool)
 |seq (t:Nat) (a b:V) (c:Bool)
 |len (m o:Nat)
 |slen (m s:Nat)
 |idx (o i:Nat) (x:V)
 |rl (t:Nat) (xs:List V)
 |emp (o:Nat) (b:Bool)
 |call (k:Nat) (asq:List V) (v:V)
abbrev Rel:=Nat->List V->V->Prop
def Fact.ok(P:Program)(R:Rel)(θ:Th):Fact->Prop
 | .ty n d=>InD g0 N0 d (θ.v n)
 | .boo n b=>θ.v n= .lit (.bool b)
 | .icmp op a b c=>∃k m n,sub θ a= .lit (.int k m)/\sub θ b= .lit (.int k n)/\a6I op m n=c
 | .seq t a b c=>∀p q,a3w P .eql t p q (sub θ a) (sub θ b)=some (.lit (.bool c))/\a3w P .neq t p q (sub θ a) (sub θ b)=some (.lit (.bool !c))
 | .len m o=>θ.v m= .lit (.int .i64 (lst (θ.v o)).length)
 | .slen m s=>∃b,θ.v s= .lit (.string b)/\θ.v m= .lit (.int .i64 b.size)
 | .idx o i x=>(lst (θ.v o))[i]?=some (sub θ x)
 | .rl t xs=>θ.len t=(a3v θ xs).length
 | .emp o b=>(lst (θ.v o)).isEmpty=b
 | .call k asq v=>R k (a1d θ asq) (sub θ v)
structure Ks where
 n:Nat
 m:Nat
 fs:List Fact
 c:Nat:=0
def Sat(P:Program)(R:Rel)(θ:Th)(K:Ks):Prop:=∀f∈K.fs,f.ok P R θ
mutual
def vlt(n m:Nat):V->Bool
 | .lit (.chan (some i))| .lit (.map (some i))=>decide (i<n)
 | .agg cs| .tup cs| .sl _ cs| .slf cs| .dptr cs=>a9f n m cs
 | .fn _ a b=>a9f n m a&&a9f n m b
 | .row _ _ _ i=>decide (i<big)||decide (i-big<m)
 |_=>true
def a9f(n m:Nat):List V->Bool
 |[]=>true
 |c::r=>vlt n m c&&a9f n m r
end
structure Agr (θ u:Th) (n m:Nat):Prop where
 v:∀i,i<n->u.v i=θ.v i
 len:∀i,i<m->u.len i=θ.len i
theorem Agr.refl{θ:Th}{n m:Nat}:Agr θ θ n m:=⟨λ _ _=>rfl,λ _ _=>rfl⟩
theorem Agr.trans{θ u a:Th}{n m n' b:Nat}(h:Agr θ u n m)(c:Agr u a n' b)(hn:n<=n')(hm:m<=b):Agr θ a n m:=
 ⟨λ i hi=>(c.v i (by omega)).trans (h.v i hi),λ i hi=>(c.len i (by omega)).trans (h.len i hi)⟩
theorem a2A{w:Value}{i:Nat}(h:a3Z w=some i):w= .chan (some i):=by
 unfold a3Z at h;grind
theorem b5u{v:V}{i:Nat}(h:c1E v=some i):v= .lit (.map (some i)):=by
 unfold c1E at h;grind
section
variable {θ u:Th} {n m:Nat}
mutual
theorem a5d(ha:Agr θ u n m):∀(v:V),vlt n m v=true->sub u v=sub θ v
 | .lit w,h=>by
   simp only[sub];cases e:a3Z w with
   |none=>rfl
   |some i=>have:=a2A e;subst this;simp only[vlt,ay2]at h;exact ha.v i h
 | .nils,_=>by rw[sub,sub]
 | .slf xs,h=>by rw[sub,sub,a6b ha xs (by grind[vlt])]
 | .sl _ xs,h=>by rw[sub,sub,a6b ha xs (by grind[vlt])]
 | .agg xs,h=>by rw[sub,sub,a3J ha xs (by grind[vlt])]
 | .tup xs,h=>by rw[sub,sub,a3J ha xs (by grind[vlt])]
 | .dptr xs,h=>by rw[sub,sub,a3J ha xs (by grind[vlt])]
 | .fn _ a b,h=>by
   simp only[vlt,az6]at h;rw[sub,sub,a3J ha a h.1,a3J ha b h.2]
 | .row _ _ _ i,h=>by
   simp only[vlt,ay8,ay2]at h;rw[sub,sub];unfold b7V;split
   .rfl
   .rw[ha.len _ (by omega)]
 | .ptr _ _,_=>by rw[sub,sub]
 | .eptr _ _ _ _,_=>by rw[sub,sub]
 | .map _,_=>by rw[sub,sub]
 | .und,_=>by rw[sub,sub]
theorem a3J(ha:Agr θ u n m):∀(l:List V),a9f n m l=true->a1d u l=a1d θ l
 |[],_=>by rw[a1d,a1d]
 |c::r,h=>by
  simp only[a9f,az6]at h;rw[a1d,a1d,a5d ha c h.1,a3J ha r h.2]
theorem a6b(ha:Agr θ u n m):∀(l:List V),a9f n m l=true->a3v u l=a3v θ l
 |[],_=>by rw[a3v,a3v]
 |c::r,h=>by
  simp only[a9f,az6]at h;rw[a3v,a3v,a6b ha r h.2,a5d ha c h.1];cases e:c1E c with
  |none=>rfl
  |some i=>have:=b5u e;subst this;simp only[vlt,ay2]at h;simp only[ha.v i h.1]
end
end
def Fact.lt(n m:Nat):Fact->Bool
 | .ty i _| .boo i _| .emp i _=>decide (i<n)
 | .icmp _ a b _| .seq _ a b _=>vlt n m a&&vlt n m b
 | .len i j| .slen i j=>decide (i<n)&&decide (j<n)
 | .idx o _ x=>decide (o<n)&&vlt n m x
 | .rl t xs=>decide (t<m)&&a9f n m xs
 | .call _ asq v=>a9f n m asq&&vlt n m v
def WF(K:Ks):Prop:=∀f∈K.fs,f.lt K.n K.m=true
section
variable {P:Program} {R:Rel} {θ u:Th} {n m:Nat}
theorem Fact.agr{f:Fact}(ha:Agr θ u n m)(hl:f.lt n m=true)(h:f.ok P R θ):f.ok P R u:=by
 cases f<;>simp only[Fact.lt,az6,ay2]at hl<;>simp only[Fact.ok]at h|-;case ty i d=>rw[ha.v i hl];exact h
 case boo i b=>rw[ha.v i hl];exact h
 case emp i b=>rw[ha.v i hl];exact h
 case icmp op a b c=>grind[a5d]
 case seq t a b c=>grind[a5d]
 case len i j=>rw[ha.v i hl.1,ha.v j hl.2];exact h
 case slen i j=>rw[ha.v i hl.1,ha.v j hl.2];exact h
 case idx o i x=>rw[ha.v o hl.1,a5d ha _ hl.2];exact h
 case rl t xs=>rw[ha.len t hl.1,a6b ha _ hl.2];exact h
 grind[a3J,a5d]
mutual
theorem a4v{n' m':Nat}(hn:n<=n')(hm:m<=m'):∀(v:V),vlt n m v=true->vlt n' m' v=true
 | .lit w,h=>by
   unfold vlt at h|-;grind
 | .nils,_=>rfl
 | .slf xs,h=>by simp only[vlt]at h|-;exact a2e hn hm xs h
 | .sl _ xs,h=>by simp only[vlt]at h|-;exact a2e hn hm xs h
 | .agg xs,h=>by simp only[vlt]at h|-;exact a2e hn hm xs h
 | .tup xs,h=>by simp only[vlt]at h|-;exact a2e hn hm xs h
 | .dptr xs,h=>by simp only[vlt]at h|-;exact a2e hn hm xs h
 | .fn _ a b,h=>by
   simp only[vlt,az6]at h|-;exact⟨a2e hn hm a h.1,a2e hn hm b h.2⟩
 | .row _ _ _ i,h=>by
   simp only[vlt,ay8,ay2]at h|-;omega
 | .ptr _ _,_=>rfl
 | .eptr _ _ _ _,_=>rfl
 | .map _,_=>rfl
 | .und,_=>rfl
theorem a2e{n' m':Nat}(hn:n<=n')(hm:m<=m'):∀(l:List V),a9f n m l=true->a9f n' m' l=true
 |[],_=>rfl
 |c::r,h=>by
  simp only[a9f,az6]at h|-;exact⟨a4v hn hm c h.1,a2e hn hm r h.2⟩
end
theorem a8A{f:Fact}{n' a:Nat}(hn:n<=n')(hm:m<=a)(h:f.lt n m=true):f.lt n' a=true:=by
 cases f<;>simp only[Fact.lt,az6,ay2]at h|-;case icmp=>grind[a4v]
 case seq=>grind[a4v]
 case idx=>grind[a4v]
 case rl=>grind[a2e]
 all_goals grind[a2e,a4v]
end
def d6J(v:Nat->V)(n:Nat)(w:V)(i:Nat):V:=if i=n then w else v i
variable {n:Nat} {θ:Th} {w:V}
theorem d4Q(hw:isD w/\dX (lst w))(i:Nat):isD (d6J θ.v n w i)/\dX (lst (d6J θ.v n w i)):=by
 unfold d6J;split
 .exact hw
 .exact θ.d i
def Th.set(θ:Th)(n:Nat)(w:V)(hw:isD w/\dX (lst w)):Th:={v:=d6J θ.v n w,len:=θ.len,d:=d4Q hw}
theorem a3K{hw:isD w/\dX (lst w)}:(θ.set n w hw).v n=w:=ax3 rfl
def Th.setL(θ:Th)(m l:Nat):Th:={v:=θ.v,len:=λ i=>if i=m then l else θ.len i,d:=θ.d}
theorem Agr.set{θ:Th}{n m:Nat}{w:V}{hw:isD w/\dX (lst w)}:Agr θ (θ.set n w hw) n m:=⟨λ i hi=>ay9 (by omega),λ _ _=>rfl⟩
theorem Agr.setL{θ:Th}{n m l:Nat}:Agr θ (θ.setL m l) n m:=⟨λ _ _=>rfl,λ i hi=>ay9 (by omega)⟩
def Ks.le(K K':Ks):Prop:=∀f∈K.fs,f∈K'.fs
variable {K:Ks}
theorem Ks.le.refl:K.le K:=λ _ h=>h
theorem Ks.le.trans{A B C:Ks}(h:A.le B)(k:B.le C):A.le C:=λ f hf=>k f (h f hf)
theorem Sat.le{P:Program}{R:Rel}{K':Ks}(h:K.le K')(s:Sat P R θ K'):Sat P R θ K:=λ f hf=>s f (h f hf)
structure Cv (P:Program) (R:Rel) (K:Ks) (θ:Th) (K':Ks) (u:Th):Prop where
 wf:WF K'
 sat:Sat P R u K'
 agr:Agr θ u K.n K.m
 n:K.n<=K'.n
 m:K.m<=K'.m
def Cov{A:Type}(P:Program)(R:Rel)(K:Ks)(L:List (Ks×A)):Prop:=WF K->∀θ,Sat P R θ K->∃x∈L,∃u,Cv P R K θ x.1 u
theorem Cv.refl{P:Program}{R:Rel}{K:Ks}{θ:Th}(hw:WF K)(hs:Sat P R θ K):Cv P R K θ K θ:=⟨hw,hs,Agr.refl,ay3 _,ay3 _⟩
theorem Cv.trans{P:Program}{R:Rel}{K K' b:Ks}{θ u a:Th}(h:Cv P R K θ K' u)(k:Cv P R K' u b a):Cv P R K θ b a:=
 ⟨k.wf,k.sat,h.agr.trans k.agr h.n h.m,av9 h.n k.n,av9 h.m k.m⟩
structure Does {A:Type} (P:Program) (R:Rel) (K:Ks) (L:List (Ks×A)) (S:Th->A->Prop):Prop where
 le:∀x∈L,K.le x.1
 say:∀x∈L,∀θ,Sat P R θ x.1->S θ x.2
 cov:Cov P R K L
section
variable {P:Program} {R:Rel} {A B:Type} {K:Ks}
variable {S:Th->A->Prop}
theorem Does.one{a:A}(h:∀θ,Sat P R θ K->S θ a):Does P R K [(K,a)] S:=
 ⟨λ x hx=>by grind[Ks.le.refl],λ x hx θ hs=>by grind,λ hw θ hs=>⟨_,az7.2 rfl,θ,Cv.refl hw hs⟩⟩
variable {L:List (Ks×A)}
theorem Does.mono{S':Th->A->Prop}(h:Does P R K L S)(hm:∀x∈L,∀θ,Sat P R θ x.1->S θ x.2->S' θ x.2):Does P R K L S':=
 ⟨h.le,λ x hx θ hs=>hm x hx θ hs (h.say x hx θ hs),h.cov⟩
theorem Does.map{L:List (Ks×A)}{S:Th->A->Prop}{S':Th->B->Prop}(h:Does P R K L S)(f:A->B)(hm:∀x∈L,∀θ,Sat P R θ x.1->S θ x.2->S' θ (f x.2)):Does P R K (L.map λ x=>(x.1,f x.2)) S':=
 ⟨λ y hy=>by
  obtain⟨x,hx,rfl⟩:=ax5.1 hy;exact h.le x hx,λ y hy θ hs=>by
  obtain⟨x,hx,rfl⟩:=ax5.1 hy;exact hm x hx θ hs (h.say x hx θ hs),λ hw θ hs=>by
  obtain⟨x,hx,h2⟩:=h.cov hw θ hs;exact⟨_,ax5.2 ⟨x,hx,rfl⟩,h2⟩⟩
theorem Does.bind{S':Th->B->Prop}{f:Ks×A->Option (List (Ks×B))}{r:List (Ks×B)}(h:Does P R K L S)(hb:a1f f L=some r)
  (hf:∀x∈L,∀l,f x=some l->Does P R x.1 l λ θ b=>S θ x.2->S' θ b):Does P R K r S':=by
 have g:∀{L:List (Ks×A)} {r:List (Ks×B)},a1f f L=some r->∀y∈r,∃x∈L,∃l,f x=some l/\y∈l:=by
  intro L;induction L with
  |nil=>grind[a1f]
  |cons a L ih=>grind[a1f]
 refine⟨λ y hy=> ?_,λ y hy θ hs=> ?_,λ hw θ hs=> ?_⟩
 .obtain⟨x,hx,l,hl,e⟩:=g hb y hy;exact(h.le x hx).trans ((hf x hx l hl).le y e)
 .obtain⟨x,hx,l,hl,e⟩:=g hb y hy;have d:=hf x hx l hl;exact d.say y e θ hs (h.say x hx θ (hs.le (d.le y e)))
 .obtain⟨x,hx,u,c⟩:=h.cov hw θ hs;obtain⟨l,hl,i⟩:=a2x hb x hx;obtain⟨y,hy,j,k⟩:=(hf x hx l hl).cov c.wf u c.sat
  exact⟨y,i y hy,j,c.trans k⟩
def Ks.add(K:Ks)(f:Fact):Ks:={K with fs:=f::K.fs,c:=K.c+1}
variable {f:Fact}
theorem a1D:K.le (K.add f):=λ _ h=>az9 _ h
theorem Cv.add{f:Fact}{θ:Th}(hw:WF K)(hs:Sat P R θ K)(hl:f.lt K.n K.m=true)(h:f.ok P R θ):Cv P R K θ (K.add f) θ:=
 ⟨λ g hg=>by
  rcases ay4.1 hg with rfl|hg
  .exact hl
  .exact hw g hg,λ g hg=>by
  rcases ay4.1 hg with rfl|hg
  .exact h
  .exact hs g hg,Agr.refl,ay3 _,ay3 _⟩
theorem Sat.hd{θ:Th}(h:Sat P R θ (K.add f)):f.ok P R θ:=h f (ay1 ..)
def Ks.new(K:Ks)(f:Nat->Fact):Ks:={n:=K.n+1,m:=K.m,fs:=f K.n::K.fs,c:=K.c+1}
theorem a5x{f:Nat->Fact}:K.le (K.new f):=λ _ h=>az9 _ h
theorem Cv.new{f:Nat->Fact}{θ:Th}(hw:WF K)(hs:Sat P R θ K){w:V}(hd:isD w/\dX (lst w))(hl:(f K.n).lt (K.n+1) K.m=true)(h:(f K.n).ok P R (θ.set K.n w hd)):Cv P R K θ (K.new f) (θ.set K.n w hd):=
 ⟨λ g hg=>by
  rcases ay4.1 hg with rfl|hg
  .exact hl
  .exact a8A (at3 _) (ay3 _) (hw g hg),λ g hg=>by
  rcases ay4.1 hg with rfl|hg
  .exact h
  .exact Fact.agr Agr.set (hw g hg) (hs g hg),Agr.set,at3 _,ay3 _⟩
def Ks.newL(K:Ks)(f:Nat->Fact):Ks:={n:=K.n,m:=K.m+1,fs:=f K.m::K.fs,c:=K.c+1}
theorem b1G{f:Nat->Fact}:K.le (K.newL f):=λ _ h=>az9 _ h
theorem Cv.newL{f:Nat->Fact}{θ:Th}(hw:WF K)(hs:Sat P R θ K){l:Nat}(hl:(f K.m).lt K.n (K.m+1)=true)(h:(f K.m).ok P R (θ.setL K.m l)):Cv P R K θ (K.newL f) (θ.setL K.m l):=
 ⟨λ g hg=>by
  rcases ay4.1 hg with rfl|hg
  .exact hl
  .exact a8A (ay3 _) (at3 _) (hw g hg),λ g hg=>by
  rcases ay4.1 hg with rfl|hg
  .exact h
  .exact Fact.agr Agr.setL (hw g hg) (hs g hg),Agr.setL,ay3 _,at3 _⟩
end
end
section
open Go.PV Go.SN
inductive Sh where
 |td (d:TD)
 |ne (d:TD)
 |lit (w:Value)
 |nils
 |agg (l:List Sh)
 |tup (l:List Sh)
 deriving Inhabited
inductive ShOk:Sh->V->Prop
 |td {d:TD} {v:V}:InD g0 N0 d v->ShOk (.td d) v
 |ne {d:TD} {v:V}:InD g0 N0 d v->(lst v).isEmpty=false->ShOk (.ne d) v
 |lit {w:Value}:ShOk (.lit w) (.lit w)
 |nils:ShOk .nils .nils
 |agg {l:List Sh} {cs:List V}:l.length=cs.length->(∀(j:Nat) (s:Sh) (c:V),l[j]?=some s->cs[j]?=some c->ShOk s c)->ShOk (.agg l) (.agg cs)
 |tup {l:List Sh} {cs:List V}:l.length=cs.length->(∀(j:Nat) (s:Sh) (c:V),l[j]?=some s->cs[j]?=some c->ShOk s c)->ShOk (.tup l) (.tup cs)
def ShL(l:List Sh)(cs:List V):Prop:=l.length=cs.length/\∀(j:Nat) (s:Sh) (c:V),l[j]?=some s->cs[j]?=some c->ShOk s c
variable {v:V}
theorem ShL.cons{s:Sh}{l:List Sh}{vs:List V}:ShL (s::l) (v::vs)↔ShOk s v/\ShL l vs:=by
 constructor
 .intro h;exact⟨h.2 0 s v rfl rfl,by have:=h.1;simpa using this,λ j a c ha hc=>h.2 (j+1) a c (by grind) (by grind)⟩
 .rintro⟨h1,h2,h3⟩;refine⟨by simp[h2],λ j a c ha hc=> ?_⟩;grind
theorem ShL.nil:ShL [] []:=⟨rfl,λ j s c h=>by simp at h⟩
def b2A:TD->Bool
 | .bool| .int _ _ _| .str _| .sl _ _ _=>true
 |_=>false
def okE:TD->Bool
 | .agg l=>l.all b2A
 | .val _ _=>true
 |d=>b2A d
def okC:TD->Bool
 | .bool| .int _ _ _| .str _=>true
 | .sl _ _ d=>okE d
 |_=>false
variable {d:TD}
theorem c8v(h:InD g0 N0 d v)(hd:b2A d=true):isD v:=by
 cases h with
 |bool=>exact a2L nofun
 |int _ _=>exact a2L nofun
 |str _=>exact a2L nofun
 |nils _=>exact a6n
 |sl _ _=>exact b4K
 |row h1 _ _ _ _ _=>cases h1
 |_=>simp[b2A]at hd
theorem d0Y(h:InD g0 N0 d v)(hd:okE d=true):pD v:=by
 have agg:∀{l:List TD} {cs:List V},l.length=cs.length->(∀(j:Nat) (d:TD) (c:V),l[j]?=some d->cs[j]?=some c->InD g0 N0 d c)->l.all b2A=true->pD (.agg cs):=by
  intro l cs h1 h2 h3;refine c4A λ c hc=> ?_;obtain⟨j,hj⟩:=List.getElem?_of_mem hc;have a:j<l.length:=by rw[h1];exact(ay0.1 hj).1
  exact c8v (h2 j l[j] c (az5 a) hj) (ay5.1 h3 _ (au2 a))
 cases h with
 |agg h1 h2=>exact agg h1 h2 hd
 |val h1=>cases h1 with|agg h1 h2=>exact agg h1 h2 rfl
 |bool=>grind[b9J,a2L]
 |int _ _=>grind[b9J,a2L]
 |str _=>grind[b9J,a2L]
 |nils _=>exact b9J a6n
 |sl _ _=>exact b9J b4K
 |row h1 _ _ _ _ _=>cases h1
 |_=>grind[okE,b2A]
theorem b3W(h:InD g0 N0 d v)(hd:okC d=true):isD v/\dX (lst v):=by
 cases h with
 |bool=>exact⟨a2L nofun,nofun⟩
 |int _ _=>exact⟨a2L nofun,nofun⟩
 |str _=>exact⟨a2L nofun,nofun⟩
 |nils _=>exact⟨a6n,nofun⟩
 |sl _ h2=>exact⟨b4K,λ y hy=>d0Y (h2 y hy) hd⟩
 |row h1 _ _ _ _ _=>cases h1
 |_=>simp[okC]at hd
mutual
def a7Q(K:Ks):Sh->V×Ks
 | .td d=>(tk K.n,K.new λ n=> .ty n d)
 | .ne d=>(tk K.n,(K.new λ n=> .ty n d).add (.emp K.n false))
 | .lit w=>(.lit w,K)
 | .nils=>(.nils,K)
 | .agg l=>(.agg (a6B K l).1,(a6B K l).2)
 | .tup l=>(.tup (a6B K l).1,(a6B K l).2)
def a6B(K:Ks):List Sh->List V×Ks
 |[]=>([],K)
 |s::r=>((a7Q K s).1::(a6B (a7Q K s).2 r).1,(a6B (a7Q K s).2 r).2)
end
mutual
def c6u:Sh->Bool
 | .td d=>okC d
 | .ne d=>okC d
 | .lit w=>(a3Z w).isNone&&(c1E (.lit w)).isNone
 | .nils=>true
 | .agg l=>c4O l
 | .tup l=>c4O l
def c4O:List Sh->Bool
 |[]=>true
 |s::r=>c6u s&&c4O r
end
section
variable {P:Program} {R:Rel} {K:Ks} {θ:Th}
mutual
theorem b3m:∀(s:Sh) (K:Ks),K.le (a7Q K s).2
 | .td d,K=>by rw[a7Q];exact a5x
 | .ne d,K=>by rw[a7Q];exact a5x.trans a1D
 | .lit w,K=>by rw[a7Q];exact Ks.le.refl
 | .nils,K=>by rw[a7Q];exact Ks.le.refl
 | .agg l,K=>by rw[a7Q];exact b4h l K
 | .tup l,K=>by rw[a7Q];exact b4h l K
theorem b4h:∀(l:List Sh) (K:Ks),K.le (a6B K l).2
 |[],K=>by rw[a6B];exact Ks.le.refl
 |s::r,K=>by rw[a6B];exact(b3m s K).trans (b4h r _)
end
theorem d2k{w:Value}{n m:Nat}(h:a3Z w=none)(h2:c1E (.lit w)=none):vlt n m (.lit w)=true:=by
 cases w with
 |chan r=>cases r<;>first|rfl|grind[a3Z]
 |map r=>cases r<;>first|rfl|grind[c1E]
 |_=>rfl
mutual
theorem b3B:∀(s:Sh) (K:Ks) (θ:Th) (v:V),c6u s=true->ShOk s v->WF K->Sat P R θ K->∃θ',Cv P R K θ (a7Q K s).2 θ'/\sub θ' (a7Q K s).1=v/\vlt (a7Q K s).2.n (a7Q K s).2.m (a7Q K s).1=true
 | .td d,K,θ,v,hs,h,hw,hsat=>by
   cases h with
   |td h=>
    rw[a7Q];have hd:=b3W h (by grind[c6u]);refine⟨θ.set K.n v hd,Cv.new (f:=λ n=> .ty n d) hw hsat hd (by simp[Fact.lt]) ?_,?_,?_⟩
    .show InD g0 N0 d ((θ.set K.n v hd).v K.n);rw[a3K];exact h
    .show sub _ (tk K.n)=v;unfold tk;rw[sub];exact a3K
    .simp[tk,vlt,Ks.new]
 | .ne d,K,θ,v,hs,h,hw,hsat=>by
   cases h with
   |ne h he=>
    rw[a7Q];have hd:=b3W h (by grind[c6u]);have c1:Cv P R K θ (K.new λ n=> .ty n d) (θ.set K.n v hd):=Cv.new (f:=λ n=> .ty n d) hw hsat hd (by simp[Fact.lt]) (by
     show InD g0 N0 d ((θ.set K.n v hd).v K.n);rw[a3K];exact h)
    refine⟨θ.set K.n v hd,c1.trans (Cv.add c1.wf c1.sat (by simp[Fact.lt,Ks.new]) ?_),?_,?_⟩
    .show(lst ((θ.set K.n v hd).v K.n)).isEmpty=false;rw[a3K];exact he
    .show sub _ (tk K.n)=v;unfold tk;rw[sub];exact a3K
    .simp[tk,vlt,Ks.new,Ks.add]
 | .lit w,K,θ,v,hs,h,hw,hsat=>by
   cases h with
   |lit=>simp only[c6u,az6,Au9]at hs;rw[a7Q];exact⟨θ,Cv.refl hw hsat,a1k hs.1,d2k hs.1 hs.2⟩
 | .nils,K,θ,v,hs,h,hw,hsat=>by
   cases h with
   |nils=>rw[a7Q];exact⟨θ,Cv.refl hw hsat,rfl,rfl⟩
 | .agg l,K,θ,v,hs,h,hw,hsat=>by
   cases h with
   |agg h1 h2=>
    rw[a7Q];obtain⟨θ',c,e,t⟩:=b0g l K θ _ (by grind[c6u]) ⟨h1,h2⟩ hw hsat
    grind[sub,vlt]
 | .tup l,K,θ,v,hs,h,hw,hsat=>by
   cases h with
   |tup h1 h2=>
    rw[a7Q];obtain⟨θ',c,e,t⟩:=b0g l K θ _ (by grind[c6u]) ⟨h1,h2⟩ hw hsat
    grind[sub,vlt]
theorem b0g:∀(l:List Sh) (K:Ks) (θ:Th) (vs:List V),c4O l=true->ShL l vs->WF K->Sat P R θ K->∃θ',Cv P R K θ (a6B K l).2 θ'/\a1d θ' (a6B K l).1=vs/\a9f (a6B K l).2.n (a6B K l).2.m (a6B K l).1=true
 |[],K,θ,vs,hs,h,hw,hsat=>by
  have:vs=[]:=ay7.1 h.1.symm;subst this;rw[a6B];exact⟨θ,Cv.refl hw hsat,rfl,rfl⟩
 |s::r,K,θ,[],hs,h,hw,hsat=>by cases h.1
 |s::r,K,θ,v::vs,hs,h,hw,hsat=>by
  simp only[c4O,az6]at hs;obtain⟨h1,h2⟩:=ShL.cons.1 h;obtain⟨θ1,c1,e1,t1⟩:=b3B s K θ v hs.1 h1 hw hsat
  obtain⟨θ2,c2,e2,t2⟩:=b0g r (a7Q K s).2 θ1 vs hs.2 h2 c1.wf c1.sat
  rw[a6B];refine⟨θ2,c1.trans c2,?_,?_⟩
  .rw[a1d,e2,a5d c2.agr _ t1,e1]
  .rw[a9f,a4v c2.n c2.m _ t1,t2];rfl
end
end
def c6P(K:Ks)(i:Nat)(p:TD->Bool):Bool:=K.fs.any λ f=>match f with
 | .ty j d=>j==i&&p d
 |_=>false
theorem b9E{P:Program}{R:Rel}{K:Ks}{θ:Th}{i:Nat}{p:TD->Bool}(hs:Sat P R θ K)(h:c6P K i p=true):∃d,p d=true/\InD g0 N0 d (θ.v i):=by
 unfold c6P at h;obtain⟨f,hf,h2⟩:=ar4.1 h;split at h2
 .next j d=>
  simp only[az6,aw5]at h2;have h3:=hs _ hf;rw[h2.1]at h3;exact⟨d,h2.2,h3⟩
 .cases h2
mutual
def b9L(K:Ks):Sh->V->Bool
 | .td d,.lit w=>match a3Z w with
   |some i=>c6P K i λ d'=>d'.le d
   |none=>match d,w with
    | .int k lo hi,.int k' n=>k==k'&&(decide (lo<=n)&&decide (n<=hi))
    | .str hi,.string b=>decide ((b.size:Int)<=hi)
    | .bool,.bool _=>true
    |_,_=>false
 | .td (.sl _ hi _),.nils=>decide (0<=hi)
 | .agg l,.agg cs=>d3e K l cs
 |_,_=>false
def d3e(K:Ks):List Sh->List V->Bool
 |[],[]=>true
 |s::r,v::vs=>b9L K s v&&d3e K r vs
 |_,_=>false
end
section
variable {P:Program} {R:Rel} {K:Ks} {θ:Th}
mutual
theorem a8g(hs:Sat P R θ K):∀(s:Sh) (v:V),b9L K s v=true->ShOk s (sub θ v)
 | .td d,.lit w,h=>by
   simp only[b9L]at h;rw[sub];cases e:a3Z w with
   |some i=>simp only[e]at h;obtain⟨d',h1,h2⟩:=b9E hs h;exact .td (h2.le h1)
   |none=>
    simp only[e]at h;split at h
    .simp only[az6,aw5,ay2]at h;obtain⟨rfl,h1,h2⟩:=h;exact .td (.int h1 h2)
    .simp only[ay2]at h;exact .td (.str h)
    .exact .td .bool
    .cases h
 | .td d,.nils,h=>by
   cases d<;>simp only[b9L]at h<;>first|grind|skip
   simp only[ay2]at h;exact .td (.nils h)
 | .agg l,.agg cs,h=>by
   simp only[b9L]at h;rw[sub];have:=a8m hs l cs h;exact .agg this.1 this.2
 | .td d,.slf _,h=>by cases d<;>cases h
 | .td d,.sl _ _,h=>by cases d<;>cases h
 | .td d,.agg _,h=>by cases d<;>cases h
 | .td d,.tup _,h=>by cases d<;>cases h
 | .td d,.fn _ _ _,h=>by cases d<;>cases h
 | .td d,.row _ _ _ _,h=>by cases d<;>cases h
 | .td d,.ptr _ _,h=>by cases d<;>cases h
 | .td d,.eptr _ _ _ _,h=>by cases d<;>cases h
 | .td d,.dptr _,h=>by cases d<;>cases h
 | .td d,.map _,h=>by cases d<;>cases h
 | .td d,.und,h=>by cases d<;>cases h
 | .lit _,v,h=>by cases v<;>cases h
 | .ne _,v,h=>by cases v<;>cases h
 | .nils,v,h=>by cases v<;>cases h
 | .tup _,v,h=>by cases v<;>cases h
 | .agg _,.lit _,h=>by cases h
 | .agg _,.nils,h=>by cases h
 | .agg _,.slf _,h=>by cases h
 | .agg _,.sl _ _,h=>by cases h
 | .agg _,.tup _,h=>by cases h
 | .agg _,.fn _ _ _,h=>by cases h
 | .agg _,.row _ _ _ _,h=>by cases h
 | .agg _,.ptr _ _,h=>by cases h
 | .agg _,.eptr _ _ _ _,h=>by cases h
 | .agg _,.dptr _,h=>by cases h
 | .agg _,.map _,h=>by cases h
 | .agg _,.und,h=>by cases h
theorem a8m(hs:Sat P R θ K):∀(l:List Sh) (vs:List V),d3e K l vs=true->ShL l (a1d θ vs)
 |[],[],_=>ShL.nil
 |[],_::_,h=>by cases h
 |_::_,[],h=>by cases h
 |s::r,v::vs,h=>by
  simp only[d3e,az6]at h;rw[a1d];exact ShL.cons.2 ⟨a8g hs s v h.1,a8m hs r vs h.2⟩
end
end
end
section
open Go.PV Go.SN
def d1q:Value->Value->Bool
 | .bool a,.bool b=>a==b
 | .int k a,.int c b=>k==c&&a==b
 | .string a,.string b=>a.data.toList==b.data.toList
 | .chan (some a),.chan (some b)| .map (some a),.map (some b)=>a==b
 | .nilFunc,.nilFunc| .nilIface,.nilIface| .pointer none,.pointer none| .map none,.map none=>true
 |_,_=>false
theorem c8N{a b:Value}(h:d1q a b=true):a=b:=by
 unfold d1q at h;split at h
 .grind
 .grind
 .next a b=>
  have h:a.data.toList=b.data.toList:=by simpa using h
  exact an8 Value.string (Ay3 (Az4.1 h))
 .grind
 all_goals grind
mutual
def vEq:V->V->Bool
 | .lit a,.lit b=>d1q a b
 | .nils,.nils=>true
 | .agg a,.agg b=>c6q a b
 | .tup a,.tup b=>c6q a b
 | .sl none a,.sl none b=>c6q a b
 | .row a b c d,.row a' b' c' d'=>a==a'&&(b==b'&&(c==c'&&d==d'))
 | .ptr a b,.ptr a' b'=>a==a'&&b==b'
 |_,_=>false
def c6q:List V->List V->Bool
 |[],[]=>true
 |a::r,b::r'=>vEq a b&&c6q r r'
 |_,_=>false
end
mutual
theorem a5m:∀(a b:V),vEq a b=true->a=b
 | .lit a,.lit b,h=>by grind[vEq,c8N]
 | .nils,b,h=>by cases b<;>first|rfl|cases h
 | .agg a,.agg b,h=>by simp only[vEq]at h;rw[a5f a b h]
 | .tup a,.tup b,h=>by simp only[vEq]at h;rw[a5f a b h]
 | .sl none a,.sl none b,h=>by simp only[vEq]at h;rw[a5f a b h]
 | .row a b c d,.row a' b' c' d',h=>by
   simp_all[vEq]
 | .ptr a b,.ptr a' b',h=>by
   simp_all[vEq]
 | .lit _,.nils,h| .lit _,.slf _,h| .lit _,.sl _ _,h| .lit _,.agg _,h| .lit _,.tup _,h| .lit _,.fn _ _ _,h| .lit _,.row _ _ _ _,h| .lit _,.ptr _ _,h| .lit _,.eptr _ _ _ _,h| .lit _,.dptr _,h| .lit _,.map _,h| .lit _,.und,h=>by cases h
 | .agg _,.lit _,h| .agg _,.nils,h| .agg _,.slf _,h| .agg _,.sl _ _,h| .agg _,.tup _,h| .agg _,.fn _ _ _,h| .agg _,.row _ _ _ _,h| .agg _,.ptr _ _,h| .agg _,.eptr _ _ _ _,h| .agg _,.dptr _,h| .agg _,.map _,h| .agg _,.und,h=>by cases h
 | .tup _,.lit _,h| .tup _,.nils,h| .tup _,.slf _,h| .tup _,.sl _ _,h| .tup _,.agg _,h| .tup _,.fn _ _ _,h| .tup _,.row _ _ _ _,h| .tup _,.ptr _ _,h| .tup _,.eptr _ _ _ _,h| .tup _,.dptr _,h| .tup _,.map _,h| .tup _,.und,h=>by cases h
 | .sl none _,.lit _,h| .sl none _,.nils,h| .sl none _,.slf _,h| .sl none _,.sl (some _) _,h| .sl none _,.tup _,h| .sl none _,.agg _,h| .sl none _,.fn _ _ _,h| .sl none _,.row _ _ _ _,h| .sl none _,.ptr _ _,h| .sl none _,.eptr _ _ _ _,h| .sl none _,.dptr _,h| .sl none _,.map _,h| .sl none _,.und,h=>by cases h
 | .row _ _ _ _,.lit _,h| .row _ _ _ _,.nils,h| .row _ _ _ _,.slf _,h| .row _ _ _ _,.sl _ _,h| .row _ _ _ _,.tup _,h| .row _ _ _ _,.agg _,h| .row _ _ _ _,.fn _ _ _,h| .row _ _ _ _,.ptr _ _,h| .row _ _ _ _,.eptr _ _ _ _,h| .row _ _ _ _,.dptr _,h| .row _ _ _ _,.map _,h| .row _ _ _ _,.und,h=>by cases h
 | .ptr _ _,.lit _,h| .ptr _ _,.nils,h| .ptr _ _,.slf _,h| .ptr _ _,.sl _ _,h| .ptr _ _,.tup _,h| .ptr _ _,.agg _,h| .ptr _ _,.fn _ _ _,h| .ptr _ _,.row _ _ _ _,h| .ptr _ _,.eptr _ _ _ _,h| .ptr _ _,.dptr _,h| .ptr _ _,.map _,h| .ptr _ _,.und,h=>by cases h
 | .sl (some _) _,b,h=>by cases b<;>cases h
 | .slf _,b,h=>by cases b<;>cases h
 | .fn _ _ _,b,h=>by cases b<;>cases h
 | .eptr _ _ _ _,b,h=>by cases b<;>cases h
 | .dptr _,b,h=>by cases b<;>cases h
 | .map _,b,h=>by cases b<;>cases h
 | .und,b,h=>by cases b<;>cases h
theorem a5f:∀(a b:List V),c6q a b=true->a=b
 |[],[],_=>rfl
 |[],_::_,h=>by cases h
 |_::_,[],h=>by cases h
 |a::r,b::r',h=>by
  simp only[c6q,az6]at h;rw[a5m a b h.1,a5f r r' h.2]
end
section
variable {P:Program} {R:Rel} {K:Ks}
def d7a(K:Ks)(n:Nat):Option Bool:=K.fs.findSome? λ f=>match f with
 | .boo i b=>if i=n then some b else none
 |_=>none
def c8d(K:Ks)(v:V):Option (List (Ks×Bool)):=
 match v with
 | .lit (.bool b)=>some [(K,b)]
 | .lit w=>match a3Z w with
   |some n=>match d7a K n with
    |some b=>some [(K,b)]
    |none=>if c6P K n (λ d=>match d with| .bool=>true|_=>false)&&decide (n<K.n)then some [(K.add (.boo n true),true),(K.add (.boo n false),false)]else none
   |none=>none
 |_=>none
theorem Does.two{A:Type}{f g:Fact}{a b:A}{S:Th->A->Prop}(hl:f.lt K.n K.m=true)(c:g.lt K.n K.m=true)(hc:∀θ,Sat P R θ K->f.ok P R θ\/g.ok P R θ)(hf:∀θ,Sat P R θ K->f.ok P R θ->S θ a)(hg:∀θ,Sat P R θ K->g.ok P R θ->S θ b):
  Does P R K [(K.add f,a),(K.add g,b)] S:=by
 refine⟨λ x hx=> ?_,λ x hx θ hs=> ?_,λ hw θ hs=> ?_⟩
 .simp only[ay4,av0,ar1]at hx;grind[a1D]
 .simp only[ay4,av0,ar1]at hx;rcases hx with rfl|rfl
  .exact hf θ (hs.le a1D) hs.hd
  .exact hg θ (hs.le a1D) hs.hd
 .rcases hc θ hs with h|h
  .exact⟨_,ay1 ..,θ,Cv.add hw hs hl h⟩
  .exact⟨_,az9 _ (ay1 ..),θ,Cv.add hw hs c h⟩
variable {L:List (Ks×Bool)} {v:V}
theorem a5L(h:c8d K v=some L):Does P R K L λ θ b=>sub θ v= .lit (.bool b):=by
 unfold c8d at h;split at h
 .injection h with h
  subst h;exact Does.one λ θ _=>rfl
 .next w _=>
  split at h
  .next n hn=>
   have:=a2A hn;subst this;split at h
   .next b hb=>
    injection h with h
    subst h;refine Does.one λ θ hs=> ?_;obtain⟨f,hf,h2⟩:=au0 hb;split at h2
    .next i b'=>
     split at h2
     .next e=>
      injection h2 with h2
      subst h2;subst e;rw[sub];exact hs _ hf
     .cases h2
    .cases h2
   .split at h
    .next hc=>
     simp only[az6,ay2]at hc;injection h with h
     subst h;refine Does.two (by grind[Fact.lt]) (by grind[Fact.lt]) (λ θ hs=> ?_) (λ θ _ h=>by rw[sub];exact h) (λ θ _ h=>by rw[sub];exact h);obtain⟨d,h1,h2⟩:=b9E hs hc.1;split at h1
     .show θ.v _=_\/θ.v _=_;generalize θ.v _=x at h2|-;cases h2 with
      | @bool _ _ t=>simp_all
     .cases h1
    .cases h
  .cases h
 .cases h
def c8C(K:Ks):V->Option IntKind
 | .lit (.int k _)=>some k
 | .lit w=>match a3Z w with
   |some n=>K.fs.findSome? λ f=>match f with
    | .ty i (.int k _ _)=>if i=n then some k else none
    |_=>none
   |none=>none
 |_=>none
variable {θ:Th}
theorem b8A{k:IntKind}(hs:Sat P R θ K)(h:c8C K v=some k):∃m,sub θ v= .lit (.int k m):=by
 unfold c8C at h;split at h
 .cases h;exact⟨_,rfl⟩
 .split at h
  .next n hn=>
   have:=a2A hn;subst this;obtain⟨f,hf,h2⟩:=au0 h;split at h2
   .split at h2
    .next e=>
     injection h2 with h2
     subst h2;subst e;have:=hs _ hf;rw[sub];simp only[Fact.ok]at this;show∃m,θ.v _=_;generalize θ.v _=x at this|-;cases this with
     |int _ _=>grind
    .cases h2
   .cases h2
  .cases h
 .cases h
def b1H:BinOp->Bool
 | .eql| .neq| .lss| .leq| .gtr| .geq=>true
 |_=>false
def d3l:V->Option Int
 | .lit (.int _ n)=>some n
 |_=>none
def c3q(K:Ks)(op:BinOp)(a b:V):Option Bool:=K.fs.findSome? λ f=>match f with
 | .icmp e g b' c=>
   if e==op&&(vEq g a&&vEq b' b)then some c
   else if e== .eql&&(op== .eql&&(vEq g b&&vEq b' a))then some c
   else if e== .eql&&(op== .eql&&(c&&vEq g a))then(match d3l b',d3l b with
    |some i,some j=>if i=j then none else some false
    |_,_=>none)
   else none
 | .ty n (.int k lo hi)=>if op== .eql&&vEq a (tk n)then(match b with
   | .lit (.int h j)=>if k=h/\(j<lo\/hi<j)then some false else none
   |_=>none)else none
 |_=>none
def c8V(K:Ks)(a:V):Option Nat:=K.fs.findSome? λ f=>match f with
 | .slen m s=>if vEq a (tk m)then some s else none
 |_=>none
def d6h(K:Ks)(op:BinOp)(a b:V)(K':Ks):Ks:=if op== .gtr then(match c8V K a,b with
 |some s,.lit (.int .i64 j)=>if s<K.n then K'.add (.ty s (.str j))else K'
 |_,_=>K')else K'
def d7C(K:Ks)(op:BinOp)(a b:V):Option (List (Ks×Bool)):=
 match c8C K a,c8C K b with
 |some k,some e=>if k≠e|| !(vlt K.n K.m a&&vlt K.n K.m b)|| !b1H op then none else
  match d3l a,d3l b with
  |some i,some j=>some [(K,a6I op i j)]
  |_,_=>if op== .eql&&vEq a b then some [(K,true)]else
   match c3q K op a b with
   |some c=>some [(K,c)]
   |none=>some [(K.add (.icmp op a b true),true),(d6h K op a b (K.add (.icmp op a b false)),false)]
 |_,_=>none
def d7R(op:BinOp)(a b:V)(θ:Th)(c:Bool):Prop:=∃k m n,sub θ a= .lit (.int k m)/\sub θ b= .lit (.int k n)/\a6I op m n=c
theorem a7r{i:Int}(h:d3l v=some i):∃k,v= .lit (.int k i):=by
 unfold d3l at h;grind
theorem a4m{n:Nat}:sub θ (tk n)=θ.v n:=by unfold tk;rw[sub];rfl
variable {op:BinOp} {a b:V}
theorem b6r{c:Bool}(hs:Sat P R θ K)(h:c3q K op a b=some c)(hk:∃k m n,sub θ a= .lit (.int k m)/\sub θ b= .lit (.int k n)):d7R op a b θ c:=by
 obtain⟨f,hf,h2⟩:=au0 h;have l:=hs _ hf;obtain⟨k,m,n,ha,hb⟩:=hk;split at h2
 .next r u b' v=>
  split at h2
  .next e=>
   simp only[az6,aw5]at e;injection h2 with h2
   subst h2;obtain⟨rfl,e1,e2⟩:=e;rw[<-a5m _ _ e1,<-a5m _ _ e2];exact l
  .split at h2
   .next e=>
    simp only[az6,aw5]at e;injection h2 with h2
    subst h2;obtain⟨rfl,rfl,e1,e2⟩:=e;obtain⟨k3,m3,n3,o,p,q⟩:=l;rw[a5m _ _ e1]at o;rw[a5m _ _ e2]at p;refine⟨k3,n3,m3,p,o,?_⟩;rw[<-q];simp only[a6I];grind
   split at h2
   .next e=>
    simp only[az6,aw5]at e;obtain⟨rfl,rfl,rfl,e1⟩:=e;split at h2
    .next i j hi hj=>
     split at h2
     .cases h2
     .next s=>
      injection h2 with h2
      subst h2;obtain⟨k1,rfl⟩:=a7r hi;obtain⟨k2,rfl⟩:=a7r hj;obtain⟨k3,m3,n3,o,p,q⟩:=l;rw[a5m _ _ e1]at o;rw[ha]at o;rw[a1k rfl]at p hb;injection o with o;injection o with w o
      injection p with p;injection p with _ p
      have g:=hb;injection g with g;injection g with _ g
      refine⟨k,m,n,ha,by rw[a1k rfl];exact hb,?_⟩;simp_all[a6I]
    .cases h2
   .cases h2
 .next n' z lo hi=>
  split at h2
  .next e=>
   simp only[az6,aw5]at e;obtain⟨rfl,e1⟩:=e;split at h2
   .next k2 j=>
    split at h2
    .next hc=>
     injection h2 with h2
     subst h2;have:=a5m _ _ e1;subst this;rw[a4m]at ha;rw[a1k rfl]at hb;have g:=hb;injection g with g;injection g with _ g
     simp only[Fact.ok]at l;rw[ha]at l;cases l with
     |int r1 r2=>refine⟨_,m,n,by rw[a4m];exact ha,by rw[a1k rfl];exact hb,?_⟩;grind[a6I]
    .cases h2
   .cases h2
  .cases h2
 .cases h2
theorem c8G{s:Nat}(hs:Sat P R θ K)(h:c8V K a=some s):∃b,θ.v s= .lit (.string b)/\sub θ a= .lit (.int .i64 b.size):=by
 obtain⟨f,hf,h2⟩:=au0 h;split at h2
 .next m c=>
  split at h2
  .next e=>
   injection h2 with h2
   subst h2;obtain⟨b,b1,b2⟩:=hs _ hf;grind[a5m,a4m]
  .cases h2
 .cases h2
theorem c1g{K':Ks}:d6h K op a b K'=K'\/∃s j,op= .gtr/\c8V K a=some s/\b= .lit (.int .i64 j)/\s<K.n/\d6h K op a b K'=K'.add (.ty s (.str j)):=by
 unfold d6h;grind
theorem c2P(h:d7C K op a b=some L):Does P R K L (d7R op a b):=by
 unfold d7C at h;split at h;case h_2=>cases h
 next k k' hk hk'=>
 split at h
 .cases h
 next hc=>
 simp only[ay8,ay2,ax2,Aw3,ap6,Au8,au9,av7]at hc;obtain⟨⟨rfl,hlt⟩,hop⟩:=hc;have kd:∀θ,Sat P R θ K->∃k m n,sub θ a= .lit (.int k m)/\sub θ b= .lit (.int k n):=λ θ hs=>by
  grind[b8A]
 split at h
 .next i j hi hj=>
  injection h with h
  subst h;refine Does.one λ θ hs=> ?_;obtain⟨k1,rfl⟩:=a7r hi;obtain⟨k2,rfl⟩:=a7r hj;obtain⟨k,m,n,q1,q2⟩:=kd θ hs;rw[a1k rfl]at q1 q2;injection q1 with q1;injection q1 with q1 q1'
  injection q2 with q2;injection q2 with q2 q2'
  subst q1;subst q2;exact⟨_,i,j,a1k rfl,a1k rfl,rfl⟩
 .split at h
  .next e=>
   simp only[az6,aw5]at e;obtain⟨rfl,e⟩:=e;injection h with h
   subst h;refine Does.one λ θ hs=> ?_;obtain⟨k,m,n,q1,q2⟩:=kd θ hs;rw[<-a5m _ _ e]at q2|-;exact⟨k,m,m,q1,q1,by simp[a6I]⟩
  .split at h
   .grind[Does.one,b6r]
   .injection h with h
    subst h;have l1:∀c,(Fact.icmp op a b c).lt K.n K.m=true:=λ c=>by grind[Fact.lt]
    have d0:Does P R K [(K.add (.icmp op a b true),true),(K.add (.icmp op a b false),false)] (d7R op a b):=by
     refine Does.two (l1 _) (l1 _) (λ θ hs=> ?_) (λ θ _ h=>h) (λ θ _ h=>h);obtain⟨k,m,n,q1,q2⟩:=kd θ hs;cases hcc:a6I op m n with
     |true=>exact .inl ⟨k,m,n,q1,q2,hcc⟩
     |false=>exact .inr ⟨k,m,n,q1,q2,hcc⟩
    rcases c1g (K:=K) (op:=op) (a:=a) (b:=b) (K':=K.add (.icmp op a b false))with e|⟨s,j,rfl,hsz,rfl,hlts,e⟩
    .grind
    .rw[e];refine⟨λ x hx=> ?_,λ x hx θ hs=> ?_,λ hw θ hs=> ?_⟩
     .simp only[ay4,av0,ar1]at hx;rcases hx with rfl|rfl
      .exact a1D
      .exact a1D.trans a1D
     .simp only[ay4,av0,ar1]at hx;rcases hx with rfl|rfl
      .exact d0.say _ (ay1 ..) θ hs
      .exact d0.say (K.add (.icmp .gtr a _ false),false) (az9 _ (ay1 ..)) θ (hs.le a1D)
     .obtain⟨x,hx,θ',c⟩:=d0.cov hw θ hs;simp only[ay4,av0,ar1]at hx;rcases hx with rfl|rfl
      .exact⟨_,ay1 ..,θ',c⟩
      .refine⟨_,az9 _ (ay1 ..),θ',c.trans (Cv.add c.wf c.sat (Ax1 hlts) ?_)⟩;obtain⟨bb,b1,b2⟩:=c8G (c.sat.le a1D) hsz;obtain⟨k,m,n,q1,q2,q3⟩:=c.sat.hd;rw[b2]at q1;rw[a1k rfl]at q2;injection q1 with q1;injection q1 with _ q1
       injection q2 with q2;injection q2 with _ q2
       show InD g0 N0 (.str _) (θ'.v s);rw[b1];refine .str ?_;grind[a6I]
end
section
variable {P:Program} {t:Nat} {d:TypeDesc} {x y:Operand} {k:IntKind}
theorem b8H(op:BinOp){a b:Int}(hd:P.underlying t=some d)(h:op≠ .shl)(c:op≠ .shr):a3w P op t x y (.lit (.int k a)) (.lit (.int k b))=a0t P (Go.binOp op t (.int k a) (.int k b)):=by
 unfold a3w;rw[hd];have:a2U d (.lit (.int k a)) (.lit (.int k b))=false:=by cases d<;>rfl
 simp only[Az0,az1,this,a0W,a1b,ay6,av8];cases op<;>first|rfl|(exact absurd rfl h)|(exact absurd rfl c)
theorem c8z{op:BinOp}{a b:Int}{r:V}(ho:b1H op=true)(h:a3w P op t x y (.lit (.int k a)) (.lit (.int k b))=some r):r= .lit (.bool (a6I op a b)):=by
 have hd:∃d,P.underlying t=some d:=by
  unfold a3w at h;simp only[Az0,az3]at h;obtain⟨d,h1,_⟩:=h;exact⟨d,h1⟩
 obtain⟨d,hd⟩:=hd;cases op<;>first|grind[b1H]|skip
 all_goals
  rw[b8H _ hd (by decide) (by decide)]at h;refine(ax8 (Eq.trans ?_ h)).symm;simp[Go.binOp,Op.intCmp,a0t,a1w,a0Z,sc,a6I];rfl
end
end
section
open Go.PV Go.SN
def b2e{A:Type}(K:Ks)(i:Nat)(p:TD->Option A):Option A:=K.fs.findSome? λ f=>match f with
 | .ty j d=>if j=i then p d else none
 |_=>none
theorem a5H{A:Type}{P:Program}{R:Rel}{K:Ks}{θ:Th}{i:Nat}{p:TD->Option A}{a:A}(hs:Sat P R θ K)(h:b2e K i p=some a):∃d,p d=some a/\InD g0 N0 d (θ.v i):=by
 obtain⟨f,hf,h2⟩:=au0 h;split at h2
 .next j d=>
  split at h2
  .next e=>subst e;exact⟨d,h2,hs _ hf⟩
  .cases h2
 .cases h2
def kdV(K:Ks):V->Option Kd
 | .lit (.int k _)=>some (.int k)
 | .lit (.string _)=>some .str
 | .lit (.bool _)=>some .bool
 | .lit w=>match a3Z w with
   |some n=>b2e K n λ d=>match d with
    | .int k _ _=>some (.int k)
    | .str _=>some .str
    | .bool=>some .bool
    |_=>none
   |none=>none
 |_=>none
section
variable {P:Program} {R:Rel} {K:Ks} {θ:Th}
variable {v:V}
theorem d3D{k:Kd}(hs:Sat P R θ K)(h:kdV K v=some k):∃u,sub θ v= .lit u/\k.ok u:=by
 unfold kdV at h;split at h
 .cases h;exact⟨_,a1k rfl,_,rfl⟩
 .cases h;exact⟨_,a1k rfl,_,rfl⟩
 .cases h;exact⟨_,a1k rfl,_,rfl⟩
 .split at h
  .next n hn=>
   have:=a2A hn;subst this;obtain⟨d,h1,h2⟩:=a5H hs h;rw[show sub θ (.lit (.chan (some n)))=θ.v n from a4m];generalize θ.v n=x at h2|-;split at h1<;>first|grind|(cases h1)
   .cases h2 with|int _ _=>exact⟨_,rfl,_,rfl⟩
   .cases h2 with|str _=>exact⟨_,rfl,_,rfl⟩
   .cases h2 with|bool=>exact⟨_,rfl,_,rfl⟩
  .cases h
 .cases h
theorem c2G(hs:Sat P R θ K):∀{cs:List V} {x:List Kd},a0D (kdV K) cs=some x->Kl x (a1d θ cs)
 |[],x,h=>by simp only[a0D,az0]at h;subst h;exact⟨[],rfl,rfl,λ j a u h=>by simp at h⟩
 |c::cs,x,h=>by
  simp only[a0D]at h;cases h1:kdV K c with
  |none=>grind
  |some k=>
   cases h2:a0D (kdV K) cs with
   |none=>grind
   |some ks=>simp only[h1,h2,az0]at h;subst h;obtain⟨u,b,d⟩:=d3D hs h1;obtain⟨us,e,l1,l2⟩:=c2G hs h2;refine⟨u::us,by grind[a1d],by simp[l1],λ j a w ha hw=> ?_⟩;grind
def d8Z(P:Program)(t:Nat)(a b:V)(θ:Th)(c:Bool):Prop:=∀p q,a3w P .eql t p q (sub θ a) (sub θ b)=some (.lit (.bool c))/\a3w P .neq t p q (sub θ a) (sub θ b)=some (.lit (.bool !c))
def a8Q(K:Ks)(t:Nat)(a b:V):Option Bool:=K.fs.findSome? λ f=>match f with
 | .seq d e b' c=>if d==t&&(vEq e a&&vEq b' b)then some c else none
 |_=>none
def d7D(P:Program)(K:Ks)(t:Nat)(cs ds:List V):Option (List (Ks×Bool)):=
 match a0D (kdV K) cs,a0D (kdV K) ds with
 |some x,some y=>if !(d6e P t x y&&(a9f K.n K.m cs&&a9f K.n K.m ds))then none else
  if c6q cs ds then some [(K,true)]else match a8Q K t (.agg cs) (.agg ds)with
   |some c=>some [(K,c)]
   |none=>some [(K.add (.seq t (.agg cs) (.agg ds) true),true),(K.add (.seq t (.agg cs) (.agg ds) false),false)]
 |_,_=>none
variable {t:Nat}
theorem c2T{cs ds:List V}{L:List (Ks×Bool)}(h:d7D P K t cs ds=some L):Does P R K L (d8Z P t (.agg cs) (.agg ds)):=by
 unfold d7D at h;split at h;case h_2=>cases h
 next x y hx hy=>
 split at h
 .cases h
 next hc=>
 simp only[ax2,av7,az6]at hc;obtain⟨he,hl1,hl2⟩:=hc;have key:∀θ,Sat P R θ K->∃b,(a1d θ cs=a1d θ ds->b=true)/\d8Z P t (.agg cs) (.agg ds) θ b:=λ θ hs=>by
  obtain⟨b,b1,b2⟩:=c4T he (c2G hs hx) (c2G hs hy);exact⟨b,b1,λ p q=>by grind[sub]⟩
 split at h
 .grind[Does.one,a5f]
 .split at h
  .next c hk=>
   injection h with h
   subst h;refine Does.one λ θ hs=> ?_;obtain⟨f,hf,h2⟩:=au0 hk;split at h2
   .split at h2
    .next e=>
     simp only[az6,aw5]at e;injection h2 with h2
     subst h2;obtain⟨rfl,e1,e2⟩:=e;rw[<-a5m _ _ e1,<-a5m _ _ e2];exact hs _ hf
    .cases h2
   .cases h2
  .injection h with h
   subst h;have l1:∀c,(Fact.seq t (.agg cs) (.agg ds) c).lt K.n K.m=true:=λ c=>by grind[Fact.lt,vlt]
   refine Does.two (l1 _) (l1 _) (λ θ hs=> ?_) (λ θ _ h=>h) (λ θ _ h=>h);obtain⟨b,_,b2⟩:=key θ hs;cases b with
   |true=>exact .inl b2
   |false=>exact .inr b2
def slT:TD->Option (Int×TD)
 | .sl _ hi d=>some (hi,d)
 |_=>none
def d8X:TD->Option Int
 | .str hi=>some hi
 |_=>none
def c2g(K:Ks)(o:Nat):Option Nat:=K.fs.findSome? λ f=>match f with
 | .len m i=>if i=o then some m else none
 |_=>none
def c7I(K:Ks)(o:Nat):Option Nat:=K.fs.findSome? λ f=>match f with
 | .slen m i=>if i=o then some m else none
 |_=>none
def d6Y(P:Program)(K:Ks)(t:Nat)(v:V):Option (List (Ks×V)):=
 match v with
 | .nils=>if(a2G P t).isSome then some [(K,.lit (.int .i64 0))]else none
 | .row _ _ _ n=>if n<big/\(a2G P t).isSome then some [(K,.lit (.int .i64 n))]else none
 | .sl _ xs=>if c1J xs=true/\(a2G P t).isSome then some [(K,.lit (.int .i64 xs.length))]else none
 | .lit (.string b)=>(match P.underlying t with|some .string=>some [(K,.lit (.int .i64 b.size))]|_=>none)
 | .lit w=>match a3Z w with
   |some i=>if !(decide (i<K.n))then none else match P.underlying t,b2e K i slT,b2e K i d8X with
    |some (.slice _),some (hi,_),_=>(match c2g K i with
     |some m=>some [(K,tk m)]
     |none=>some [((K.new λ n=> .len n i).add (.ty K.n (.int .i64 0 hi)),tk K.n)])
    |some .string,_,some hi=>(match c7I K i with
     |some m=>some [(K,tk m)]
     |none=>some [((K.new λ n=> .slen n i).add (.ty K.n (.int .i64 0 hi)),tk K.n)])
    |_,_,_=>none
   |none=>none
 |_=>none
def d4m(P:Program)(t:Nat)(v:V)(θ:Th)(r:V):Prop:=(∃b,P.underlying t=some .string/\sub θ v= .lit (.string b)/\sub θ r= .lit (.int .i64 b.size))\/((∀w,sub θ v≠ .lit w)/\(a2G P t).isSome=true/\∃n,lenOf (sub θ v)=some n/\sub θ r= .lit (.int .i64 n))
variable {d:TD}
theorem c3Z{hi:Int}{r:Bool}(h:InD g0 N0 (.sl r hi d) v):lenOf v=some (lst v).length/\((lst v).length:Int)<=hi/\∀w,v≠ .lit w:=by
 cases h with
 |nils h=>exact⟨rfl,by grind[lst],nofun⟩
 |sl h1 h2=>exact⟨rfl,h1,nofun⟩
 |row h1 _ _ _ _ _=>cases h1
theorem c2Y{q:Int×TD}(h:slT d=some q):∃r,d= .sl r q.1 q.2:=by
 unfold slT at h;grind
variable {L:List (Ks×V)}
theorem c2m(h:d6Y P K t v=some L):Does P R K L (d4m P t v):=by
 unfold d6Y at h;split at h
 .split at h
  .next he=>cases h;exact Does.one λ θ hs=> .inr ⟨nofun,he,0,rfl,by rw[a1k rfl];rfl⟩
  .cases h
 .split at h
  .next n hn=>
   cases h;exact Does.one λ θ hs=> .inr ⟨by rw[sub];nofun,hn.2,n,by grind[sub,lenOf,b7V],a1k rfl⟩
  .cases h
 .split at h
  .next hn=>
   cases h;exact Does.one λ θ hs=> .inr ⟨by rw[sub];nofun,hn.2,_,by grind[sub,a5a,lenOf,a0U],a1k rfl⟩
  .cases h
 .split at h
  .next ht=>cases h;exact Does.one λ θ hs=> .inl ⟨_,ht,a1k rfl,a1k rfl⟩
  .cases h
 .split at h;case h_2=>cases h
  next i hi=>
  have:=a2A hi;subst this;split at h
  .cases h
  next hlt=>
  have hlt:i<K.n:=by simpa using hlt
  have e0:∀θ,sub θ (V.lit (.chan (some i)))=θ.v i:=λ θ=>a4m;split at h
  .next hi' el ht hsl=>
   have key:∀θ,Sat P R θ K->lenOf (θ.v i)=some (lst (θ.v i)).length/\((lst (θ.v i)).length:Int)<=hi'/\∀w,θ.v i≠ .lit w:=λ θ hs=>by
    obtain⟨d,d1,d2⟩:=a5H hs hsl;obtain⟨r,rfl⟩:=c2Y d1;exact c3Z d2
   split at h
   .next m hm=>
    cases h;refine Does.one λ θ hs=> ?_;obtain⟨f,hf,h2⟩:=au0 hm;split at h2
    .split at h2
     .next e=>
      injection h2 with h2
      subst h2;subst e;obtain⟨k1,k2,k3⟩:=key θ hs;refine .inr ⟨by grind,by grind[a2G],_,by rw[e0];exact k1,?_⟩;rw[a4m];exact hs _ hf
     .cases h2
    .cases h2
   .cases h;refine⟨λ x hx=> ?_,λ x hx θ hs=> ?_,λ hw θ hs=> ?_⟩
    .rw[az7.1 hx];exact a5x.trans a1D
    .rw[az7.1 hx]at hs|-;have hs':=hs.le a1D;obtain⟨k1,k2,k3⟩:=key θ (hs'.le a5x);refine .inr ⟨by grind,by grind[a2G],_,by rw[e0];exact k1,?_⟩;rw[a4m];exact hs' (.len K.n i) (ay1 ..)
    .obtain⟨k1,k2,k3⟩:=key θ hs;have hd:isD (V.lit (.int .i64 ((lst (θ.v i)).length:Int)))/\dX (lst (V.lit (.int .i64 ((lst (θ.v i)).length:Int)))):=⟨a6N,nofun⟩;have c1:Cv P R K θ (K.new λ n=> .len n i) (θ.set K.n _ hd):=Cv.new (f:=λ n=> .len n i) hw hs hd (by grind[Fact.lt]) (by
      simp only[Fact.ok];rw[a3K,show(θ.set K.n _ hd).v i=θ.v i from ay9 (by omega)])
     refine⟨_,az7.2 rfl,_,c1.trans (Cv.add c1.wf c1.sat (by simp[Fact.lt,Ks.new]) ?_)⟩;show InD g0 N0 _ ((θ.set K.n _ hd).v K.n);rw[a3K];exact .int (by omega) k2
  .next _ hi' ht hst=>
   have key:∀θ,Sat P R θ K->∃b,θ.v i= .lit (.string b)/\(b.size:Int)<=hi':=λ θ hs=>by
    obtain⟨d,d1,d2⟩:=a5H hs hst;unfold d8X at d1;split at d1
    .injection d1 with d1
     subst d1;generalize θ.v i=x at d2|-;cases d2 with|str h=>grind
    .cases d1
   split at h
   .next m hm=>
    cases h;refine Does.one λ θ hs=> ?_;obtain⟨f,hf,h2⟩:=au0 hm;split at h2
    .split at h2
     .next e=>
      injection h2 with h2
      subst h2;subst e;obtain⟨b,b1,b2⟩:=hs _ hf;exact .inl ⟨b,ht,by grind,by grind[a4m]⟩
     .cases h2
    .cases h2
   .cases h;refine⟨λ x hx=> ?_,λ x hx θ hs=> ?_,λ hw θ hs=> ?_⟩
    .rw[az7.1 hx];exact a5x.trans a1D
    .rw[az7.1 hx]at hs|-;have hs':=hs.le a1D;obtain⟨b,b1,b2⟩:=hs' (.slen K.n i) (ay1 ..);exact .inl ⟨b,ht,by grind,by grind[a4m]⟩
    .obtain⟨b,k1,k2⟩:=key θ hs;have hd:isD (V.lit (.int .i64 (b.size:Int)))/\dX (lst (V.lit (.int .i64 (b.size:Int)))):=⟨a6N,nofun⟩;have c1:Cv P R K θ (K.new λ n=> .slen n i) (θ.set K.n _ hd):=Cv.new (f:=λ n=> .slen n i) hw hs hd (by grind[Fact.lt]) (by
      simp only[Fact.ok];rw[a3K,show(θ.set K.n _ hd).v i=θ.v i from ay9 (by omega)];exact⟨b,k1,rfl⟩)
     refine⟨_,az7.2 rfl,_,c1.trans (Cv.add c1.wf c1.sat (by simp[Fact.lt,Ks.new]) ?_)⟩;show InD g0 N0 _ ((θ.set K.n _ hd).v K.n);rw[a3K];exact .int (by omega) k2
  .cases h
 .cases h
def shE:TD->Sh
 | .agg l=> .agg (l.map .td)
 |d=> .td d
def d1h(K:Ks)(o:Nat):Option V:=K.fs.findSome? λ f=>match f with
 | .idx i 0 x=>if i=o then some x else none
 |_=>none
def d1m(K:Ks)(o:Nat):Bool:=match c2g K o with
 |some m=>(c3q K .eql (tk m) (.lit (.int .i64 0)))==some false
 |none=>false
def d6B(K:Ks)(i:Nat):Option (List (Ks×V)):=
 match d1h K i with
 |some x=>some [(K,x)]
 |none=>if !(decide (i<K.n)&&d1m K i)then none else match b2e K i slT with
  |some (_,d)=>if !(c6u (shE d))then none else some [((a7Q K (shE d)).2.add (.idx i 0 (a7Q K (shE d)).1),(a7Q K (shE d)).1)]
  |none=>none
def d3S(i:Nat)(θ:Th)(x:V):Prop:=(lst (θ.v i))[0]?=some (sub θ x)
variable {i:Nat}
theorem c8X(hs:Sat P R θ K)(h:d1m K i=true):∃x r,lst (θ.v i)=x::r:=by
 unfold d1m at h;split at h
 .next m hm=>
  obtain⟨f,hf,h2⟩:=au0 hm;split at h2
  .split at h2
   .next e=>
    injection h2 with h2
    subst h2;subst e;have h3:=hs _ hf;simp only[Fact.ok]at h3;obtain⟨k,a,b,e1,e2,e3⟩:=b6r hs (by simpa using h) ⟨_,_,_,by rw[a4m];exact h3,a1k rfl⟩;rw[a4m,h3]at e1;rw[a1k rfl]at e2;injection e1 with e1;injection e1 with _ e1
    injection e2 with e2;injection e2 with _ e2
    cases hl:lst (θ.v _)with
    |nil=>grind[a6I]
    |cons x r=>grind
   .cases h2
  .cases h2
 .cases h
theorem d0m(h:InD g0 N0 d v):ShOk (shE d) v:=by
 cases d with
 |agg l=>
  cases h with
  |agg h1 h2=>
   refine .agg (by grind) λ j s c hs hc=> ?_;rw[au3]at hs;cases hl:l[j]? with
   |none=>grind
   |some d=>rw[hl]at hs;cases hs;exact .td (h2 j d c hl hc)
 |_=>exact .td h
theorem c3l(h:d6B K i=some L):Does P R K L (d3S i):=by
 unfold d6B at h;split at h
 .next x hx=>
  cases h;refine Does.one λ θ hs=> ?_;obtain⟨f,hf,h2⟩:=au0 hx;split at h2
  .split at h2
   .next e=>cases h2;subst e;exact hs _ hf
   .cases h2
  .cases h2
 .split at h
  .cases h
  next hc=>
  simp only[ax2,av7,az6,ay2]at hc;split at h
  .next hi d hd=>
   split at h
   .cases h
   next hk=>
   have hk:c6u (shE d)=true:=by simpa using hk
   cases h;refine⟨λ x hx=> ?_,λ x hx θ hs=> ?_,λ hw θ hs=> ?_⟩
   .rw[az7.1 hx];exact(b3m _ K).trans a1D
   .rw[az7.1 hx]at hs|-;exact hs.hd
   .obtain⟨j,d1,d2⟩:=a5H hs hd;obtain⟨r,rfl⟩:=c2Y d1;obtain⟨x,b,hl⟩:=c8X hs hc.2;have hx:InD g0 N0 d x:=by
     generalize θ.v i=y at d2 hl;cases d2 with
     |nils _=>cases hl
     |sl _ h2=>grind[lst]
     |row h1 _ _ _ _ _=>cases h1
    obtain⟨a,c,e,g⟩:=b3B (P:=P) (R:=R) (shE d) K θ x hk (d0m hx) hw hs;refine⟨_,az7.2 rfl,a,c.trans (Cv.add c.wf c.sat ?_ ?_)⟩
    .simp only[Fact.lt,az6,ay2];exact⟨aw9 hc.1 c.n,g⟩
    .show(lst (a.v i))[0]?=_;rw[c.agr.v i hc.1,hl,e];rfl
  .cases h
end
end
section
open Go.PV Go.SN
def d4a(K:Ks)(t:Nat)(xs:List V):Bool:=K.fs.any λ f=>match f with
 | .rl b a=>b==t&&c6q a xs
 |_=>false
def whole(K:Ks)(g:G)(id z n:Nat):Option (Nat×List V×Bool):=match g id with
 |some (.row ty b xs a)=>if b==z&&((c1J xs&&(decide (n<big)&&n==xs.length))||(decide (big<=n)&&d4a K (n-big) xs))then some (ty,xs,a)else none
 |_=>none
def d7F(K:Ks)(g:G):V->Option (List V)
 | .nils=>some []
 | .sl none xs=>some xs
 | .row id z 0 n=>(whole K g id z n).map (·.2.1)
 | .lit w=>match a3Z w with
   |some i=>match b2e K i slT with
    |some _=>some [spr i]
    |none=>none
   |none=>none
 |_=>none
def b0s(K:Ks)(nx e sz:Nat)(zs:List V)(b:Bool)(a:HP):Option (List (Ks×Out)):=
 if c1J zs&&decide (zs.length<big)then some [(K,{v:= .row nx sz 0 zs.length,upd:=(nx,some (.row e sz zs b))::a,cnt:=1})]
 else if a9f K.n K.m zs then some [(K.newL λ m=> .rl m zs,{v:= .row nx sz 0 (big+K.m),upd:=(nx,some (.row e sz zs b))::a,cnt:=1})]else none
def d2d(K:Ks)(o:Nat):Option Bool:=K.fs.findSome? λ f=>match f with
 | .emp i b=>if i=o then some b else none
 |_=>none
def d8t(K:Ks)(o:Nat):List (Ks×Bool):=match d2d K o with
 |some b=>[(K,b)]
 |none=>if o<K.n then [(K.add (.emp o true),true),(K.add (.emp o false),false)]else []
def d8s(P:Program)(K:Ks)(g:G)(nx:Nat)(t:Nat)(a x:V):Option (List (Ks×Out)):=
 match a2G P t,d7F K g x with
 |some e,some b=>match P.info? e with
  |none=>none
  |some i=>match a with
   | .nils=>(match b with
     |[]=>some [(K,{v:= .nils,cnt:=1})]
     |[y]=>(match c1E y with
      |none=>b0s K nx e i.size b false []
      |some o=>if !(decide (o<K.n))then none else a1f (λ q=>if q.2 then some [(q.1,{v:= .nils,cnt:=1})]else b0s q.1 nx e i.size b false []) (d8t K o))
     |_=>if c1J b then b0s K nx e i.size b false []else none)
   | .row id z 0 n=>(match whole K g id z n with
     |some (_,xs,c)=>b0s K nx e i.size (xs++b) c [(id,none)]
     |none=>none)
   |_=>none
 |_,_=>none
section
variable {P:Program} {R:Rel} {K:Ks} {θ:Th} {g:G}
theorem a9o{id z n ty:Nat}{xs:List V}{a:Bool}(hs:Sat P R θ K)(h:whole K g id z n=some (ty,xs,a)):a4f θ g id=some (.row ty z (a3v θ xs) a)/\b7V θ n=(a3v θ xs).length/\g id=some (.row ty z xs a):=by
 unfold whole at h;split at h
 .next c e d b hg=>
  split at h
  .next hc=>
   simp only[az0,az8]at h;obtain⟨rfl,rfl,rfl⟩:=h;simp only[az6,aw5,ay8,ay2]at hc;obtain⟨rfl,hc⟩:=hc;refine⟨by simp only[a4f,hg,ax0,b9K],?_,hg⟩;rcases hc with⟨h1,h2,h3⟩|⟨h1,h2⟩
   .rw[a5a h1,a0U,b7V,ax3 h2,h3]
   .rw[b7V,ay9 (by omega)];unfold d4a at h2;obtain⟨f,hf,h3⟩:=ar4.1 h2;split at h3
    .simp only[az6,aw5]at h3;have:=hs _ hf;simp only[Fact.ok]at this;grind[a5f]
    .cases h3
  .cases h
 .cases h
theorem d1U{x:V}{a:List V}(hs:Sat P R θ K)(h:d7F K g x=some a):a4j (a4f θ g) (sub θ x)=some (a3v θ a):=by
 unfold d7F at h;split at h
 .cases h;rfl
 .cases h;rfl
 .simp only[az2]at h;obtain⟨⟨ty,xs,b⟩,h1,rfl⟩:=h;obtain⟨h2,h3,_⟩:=a9o hs h1;rw[sub,h3];simp[a4j,a4Q,h2]
 .split at h
  .next i hi=>
   have:=a2A hi;subst this;split at h
   .next q hq=>
    cases h;obtain⟨d,d1,d2⟩:=a5H hs hq;obtain⟨r,rfl⟩:=c2Y d1;rw[show sub θ (.lit (.chan (some i)))=θ.v i from a4m];have e:a3v θ [spr i]=lst (θ.v i):=by
     have:c1E (spr i)=some i:=rfl;rw[a3v,this];simp[a3v]
    rw[e];generalize θ.v i=y at d2;cases d2 with
    |nils _=>rfl
    |sl _ _=>rfl
    |row h1 _ _ _ _ _=>cases h1
   .cases h
  .cases h
 .cases h
theorem b1u{nx e sz:Nat}{zs:List V}{b:Bool}{a:HP}{L:List (Ks×Out)}(h:b0s K nx e sz zs b a=some L):
  Does P R K L λ θ out=>b1x θ out={v:= .row nx sz 0 (a3v θ zs).length,upd:=(nx,some (.row e sz (a3v θ zs) b))::a5M θ a,cnt:=1}:=by
 unfold b0s at h;split at h
 .next hc=>
  simp only[az6,ay2]at hc;cases h;exact Does.one λ θ hs=>by simp_all[b1x,sub,b7V,a5a,a0U,a5M,b9K]
 .split at h
  .next hl=>
   cases h;refine⟨λ x hx=> ?_,λ x hx θ hs=> ?_,λ hw θ hs=> ?_⟩
   .grind[b1G]
   .rw[az7.1 hx]at hs|-;have h1:θ.len K.m=(a3v θ zs).length:=hs (.rl K.m zs) (ay1 ..);have h2:b7V θ (big+K.m)=(a3v θ zs).length:=by rw[b7V,ay9 (by omega),Nat.add_sub_cancel_left,h1]
    simp only[b1x,sub,h2,a5M,av2,ax0,b9K]
   .refine⟨_,az7.2 rfl,_,Cv.newL (f:=λ m=> .rl m zs) (l:=(a3v θ zs).length) hw hs ?_ ?_⟩
    .simp only[Fact.lt,az6,ay2];exact⟨au5 _,a2e (ay3 _) (at3 _) _ hl⟩
    .show(θ.setL K.m _).len K.m=_;rw[show(θ.setL K.m (a3v θ zs).length).len K.m=(a3v θ zs).length from ax3 rfl,a6b (Agr.setL (θ:=θ) (n:=K.n) (m:=K.m)) _ hl]
  .cases h
theorem c4d{o:Nat}(ho:o<K.n):Does P R K (d8t K o) λ θ b=>(lst (θ.v o)).isEmpty=b:=by
 unfold d8t;split
 .next b hb=>
  refine Does.one λ θ hs=> ?_;obtain⟨f,hf,h2⟩:=au0 hb;split at h2
  .split at h2
   .next e=>cases h2;subst e;exact hs _ hf
   .cases h2
  .cases h2
 .rw[ax3 ho];refine Does.two (by grind[Fact.lt]) (by grind[Fact.lt]) (λ θ hs=> ?_) (λ θ _ h=>h) (λ θ _ h=>h);simp only[Fact.ok];cases(lst (θ.v o)).isEmpty<;>simp
theorem d2I{nx:Nat}{t u:Nat}{a x:V}{L:List (Ks×Out)}(h:d8s P K g nx t a x=some L):
  Does P R K L λ θ out=>∀r,a0M P (a4f θ g) nx t u (sub θ a) (sub θ x)=some r->r=b1x θ out:=by
 unfold d8s at h;split at h;case h_2=>cases h
 next e ys he hy=>
 split at h
 .cases h
 next i hi=>
 have app:∀θ r a',Sat P R θ K->a0M P (a4f θ g) nx t u a' (sub θ x)=some r->d1e e i.size (a4f θ g) nx a' (a3v θ ys)=some r:=by
  intro θ r a' hs hr;unfold a0M at hr;simp only[he,hi,d1U hs hy,Az0,az1,az3]at hr;obtain⟨z,z1,d,d1,hr⟩:=hr;split at hr
  .cases hr
  .unfold d1e;omega
 have nw:∀{K':Ks} {L:List (Ks×Out)},K.le K'->b0s K' nx e i.size ys false []=some L->(∀θ,Sat P R θ K'->a3v θ ys≠[])->Does P R K' L λ θ out=>∀r,a0M P (a4f θ g) nx t u (sub θ .nils) (sub θ x)=some r->r=b1x θ out:=by
  intro K' L hle hL hne;have d0:=b1u (P:=P) (R:=R) hL;refine d0.mono λ y hy θ hs hS r hr=> ?_;have h1:=app θ r _ (hs.le (hle.trans (d0.le y hy))) hr;have hne:=hne θ (hs.le (d0.le y hy));have hie:(a3v θ ys).isEmpty=false:=by grind
  simp only[sub,d1e,hie,ay6,av8]at h1;split at h1
  .cases h1
  .injection h1 with h1
   rw[hS,<-h1];rfl
 split at h
 .split at h
  .cases h;refine Does.one λ θ hs r hr=> ?_;have h1:=app θ r _ hs hr;simp only[sub,a3v,d1e,List.isEmpty_nil,aw4,az0]at h1;rw[<-h1];rfl
  .next y=>
   split at h
   .next hsp=>
    refine nw Ks.le.refl h λ θ hs=> ?_;rw[a3v,hsp];simp
   .next o ho=>
    split at h
    .cases h
    next hlt=>
    have hlt:o<K.n:=by simpa using hlt
    have ey:∀θ,a3v θ [y]=lst (θ.v o):=λ θ=>by grind[a3v]
    refine(c4d (P:=P) (R:=R) hlt).bind h λ q hq l hl=> ?_;have hle:=(c4d (P:=P) (R:=R) hlt).le q hq;obtain⟨K',b⟩:=q;cases b with
    |true=>
     simp only[aw4,az0]at hl;subst hl;refine Does.one λ θ hs hb r hr=> ?_;have h1:=app θ r _ (hs.le hle) hr;have hie:(a3v θ [y]).isEmpty=true:=by rw[ey];exact hb
     simp only[sub,d1e,hie,aw4,az0]at h1;rw[<-h1];rfl
    |false=>
     simp only[ay6,av8]at hl;have d0:=b1u (P:=P) (R:=R) hl;refine d0.mono λ z hz θ hs hS hb r hr=> ?_;have h1:=app θ r _ (hs.le (hle.trans (d0.le z hz))) hr;have hie:(a3v θ [y]).isEmpty=false:=by rw[ey];exact hb
     simp only[sub,d1e,hie,ay6,av8]at h1;split at h1
     .cases h1
     .injection h1 with h1
      rw[hS,<-h1];rfl
  .next h0 h1=>
   split at h
   .next hns=>
    refine nw Ks.le.refl h λ θ hs=> ?_;rw[a5a hns];cases ys with
    |nil=>grind
    |cons a b=>rw[a1d];simp
   .cases h
 .next id z n=>
  split at h
  .next ty xs frz hwh=>
   have d0:=b1u (P:=P) (R:=R) h;refine d0.mono λ y hy θ hs hS r hr=> ?_;have hs0:=hs.le (d0.le y hy);obtain⟨g1,g2,_⟩:=a9o hs0 hwh;have h1:=app θ r _ hs0 hr;rw[sub]at h1;simp only[d1e,g1]at h1;split at h1
   .cases h1
   .injection h1 with h1
    rw[hS,<-h1,g2,b1d,ar0,List.take_length];rfl
  .cases h
 .cases h
end
end
section
open Go.PV Go.SN
mutual
theorem a3S{θ:Th}:∀(v:V),vlt 0 0 v=true->sub θ v=v
 | .lit w,h=>by
   refine a1k ?_;cases e:a3Z w with
   |none=>rfl
   |some i=>have:=a2A e;subst this;simp[vlt]at h
 | .nils,_=>by rw[sub]
 | .slf xs,h=>by rw[sub,a6R xs (by simpa only[vlt]using h)]
 | .sl _ xs,h=>by rw[sub,a6R xs (by simpa only[vlt]using h)]
 | .agg xs,h=>by rw[sub,a3g xs (by grind[vlt])]
 | .tup xs,h=>by rw[sub,a3g xs (by grind[vlt])]
 | .dptr xs,h=>by rw[sub,a3g xs (by grind[vlt])]
 | .fn _ a b,h=>by
   simp only[vlt,az6]at h;rw[sub,a3g a h.1,a3g b h.2]
 | .row _ _ _ i,h=>by
   simp only[vlt,ay8,ay2]at h;rw[sub,b7V,ax3 (by omega)]
 | .ptr _ _,_=>by rw[sub]
 | .eptr _ _ _ _,_=>by rw[sub]
 | .map _,_=>by rw[sub]
 | .und,_=>by rw[sub]
theorem a3g{θ:Th}:∀(l:List V),a9f 0 0 l=true->a1d θ l=l
 |[],_=>by rw[a1d]
 |c::r,h=>by
  simp only[a9f,az6]at h;rw[a1d,a3S c h.1,a3g r h.2]
theorem a6R{θ:Th}:∀(l:List V),a9f 0 0 l=true->a3v θ l=l
 |[],_=>by rw[a3v]
 |c::r,h=>by
  simp only[a9f,az6]at h;rw[a3v,a6R r h.2,a3S c h.1];cases e:c1E c with
  |none=>rfl
  |some i=>have:=b5u e;subst this;simp[vlt]at h
end
def d3m(b c:Bool):Bool:=if b then !c else c
def d4p(P:Program)(K:Ks)(op:BinOp)(t:Nat)(x y:Operand)(a b:V):Option (List (Ks×V)):=
 let cl:Option (List (Ks×V)):=if vlt 0 0 a&&vlt 0 0 b then(a3w P op t x y a b).map λ v=>[(K,v)]else none
 if b1H op then match d7C K (if op= .neq then .eql else op) a b with
  |some L=>some (L.map λ q=>(q.1,.lit (.bool (d3m (op== .neq) q.2))))
  |none=>match a,b with
   | .agg cs,.agg ds=>if op= .eql\/op= .neq then(d7D P K t cs ds).map λ L=>L.map λ q=>(q.1,.lit (.bool (d3m (op== .neq) q.2)))else none
   |_,_=>cl
 else cl
def opS(P:Program)(K:Ks)(get:Nat->V)(g:G)(nx:Nat)(o:Oper):Option (List (Ks×Out)):=
 match o.op with
 | .pick c a b=>match ev get c,ev get a,ev get b with
   |some cv,some av,some bv=>(c8d K cv).map λ L=>L.map λ q=>(q.1,{v:=if q.2 then av else bv})
   |_,_,_=>none
 | .unOp .not _ x=>match ev get x with
   |some v=>(c8d K v).map λ L=>L.map λ q=>(q.1,{v:= .lit (.bool !q.2)})
   |none=>none
 | .binOp op t x y _=>match ev get x,ev get y with
   |some a,some b=>(d4p P K op t x y a b).map λ L=>L.map λ q=>(q.1,{v:=q.2})
   |_,_=>none
 | .indexAddr _ x i=>match ev get x with
   |some (.lit w)=>(match a3Z w,ev get i with
    |some j,some (.lit (.int .i64 0))=>(d6B K j).map λ L=>L.map λ q=>(q.1,{v:= .dptr q.2.cells})
    |_,_=>none)
   |_=>(opD P get g nx o).map λ r=>[(K,r)]
 | .call {callee:= .builtin .len,args,argTypes}=>match evs get args,argTypes[0]? with
   |some [v],some t=>(d6Y P K t v).map λ L=>L.map λ q=>(q.1,{v:=q.2})
   |_,_=>none
 | .call {callee:= .builtin .append,args,argTypes}=>match evs get args,argTypes.toList with
   |some [a,x],[t,_]=>d8s P K g nx t a x
   |_,_=>none
 |_=>(opD P get g nx o).map λ r=>[(K,r)]
section
variable {P:Program} {R:Rel} {K:Ks} {θ:Th} {g:G}
variable {op:BinOp} {x y:Operand} {t:Nat} {a b:V}
theorem c8Z{v:V}(h:a3w P op t x y a b=some v):sub θ v=v:=by
 unfold a3w at h;simp only[Az0,az3]at h;obtain⟨d,_,h⟩:=h;split at h
 .split at h<;>first|(cases h;exact a1k rfl)|cases h
 .simp only[Az0,az3,a0t]at h;obtain⟨_,_,_,_,_,_,h⟩:=h;exact b0l h
theorem d2x{L:List (Ks×V)}(h:d4p P K op t x y a b=some L):
  Does P R K L λ θ v=>∀r,a3w P op t x y (sub θ a) (sub θ b)=some r->r=sub θ v:=by
 have cl:∀{L},(if vlt 0 0 a&&vlt 0 0 b then(a3w P op t x y a b).map λ v=>[(K,v)]else none)=some L->Does P R K L λ θ v=>∀r,a3w P op t x y (sub θ a) (sub θ b)=some r->r=sub θ v:=by
  intro L h;split at h
  .next hc=>
   simp only[az6]at hc;simp only[az2]at h;obtain⟨v,h1,rfl⟩:=h;refine Does.one λ θ _ r hr=> ?_;rw[a3S a hc.1,a3S b hc.2,h1]at hr;injection hr with hr
   rw[<-hr,c8Z h1]
  .cases h
 unfold d4p at h;simp only at h;split at h
 .next c=>
  split at h
  .next L' hL=>
   injection h with h
   subst h;refine(c2P (P:=P) (R:=R) hL).map (λ b=>V.lit (.bool (d3m (op== .neq) b))) λ q _ θ hs hS r hr=> ?_;obtain⟨k,m,n,e1,e2,e3⟩:=hS;rw[e1,e2]at hr;rw[c8z c hr,a1k rfl,<-e3];by_cases hn:op= .neq
   .subst hn;rfl
   .rw[ay9 hn];have:(op==BinOp.neq)=false:=by simpa using hn
    rw[this];rfl
  .split at h
   .next cs ds=>
    split at h
    .next ho=>
     simp only[az2]at h;obtain⟨L',hL,rfl⟩:=h;refine(c2T (P:=P) (R:=R) hL).map (λ b=>V.lit (.bool (d3m (op== .neq) b))) λ q _ θ hs hS r hr=> ?_;rcases ho with rfl|rfl
     .rw[(hS x y).1]at hr;injection hr with hr
      rw[<-hr,a1k rfl];rfl
     .rw[(hS x y).2]at hr;injection hr with hr
      rw[<-hr,a1k rfl];rfl
    .cases h
   .exact cl h
 .exact cl h
def d9t(P:Program)(get:Nat->V)(g:G)(nx:Nat)(o:Oper)(θ:Th)(out:Out):Prop:=∀(c:PV.Calls) r,opE P c (λ i=>sub θ (get i)) (a4f θ g) nx o=some r->r=b1x θ out
variable {L:List (Ks×Out)} {nx:Nat} {get:Nat->V} {o:Oper}
theorem c9U(h:((opD P get g nx o).map λ r=>[(K,r)])=some L):Does P R K L (d9t P get g nx o):=by
 simp only[az2]at h;obtain⟨r0,h1,rfl⟩:=h;refine Does.one λ θ _ c r hr=> ?_;rw[c5l h1 c]at hr;exact(ax8 hr).symm
theorem c9n(h:opS P K get g nx o=some L):Does P R K L (d9t P get g nx o):=by
 obtain⟨f,op,type,pos,after,guard⟩:=o;unfold opS at h;split at h
 .next c a b ho=>
  simp only at ho;subst ho;split at h
  .next cv av bv h1 h2 h3=>
   simp only[az2]at h;obtain⟨L',hL,rfl⟩:=h;refine(a5L (P:=P) (R:=R) hL).map (λ b=>({v:=if b then av else bv}:Out)) λ q _ θ hs hS cc r hr=> ?_;simp only[opE,Az0,ev_sub,h1,ax0,az1,hS]at hr;cases hq:q.2 with
   |true=>rw[hq]at hr;simp only[aw4,h2,ax0,az1,Az1,az0]at hr;rw[<-hr];rfl
   |false=>rw[hq]at hr;simp only[ay6,av8,h3,ax0,az1,Az1,az0]at hr;rw[<-hr];rfl
  .cases h
 .next t x ho=>
  simp only at ho;subst ho;split at h
  .next v h1=>
   simp only[az2]at h;obtain⟨L',hL,rfl⟩:=h;refine(a5L (P:=P) (R:=R) hL).map (λ b=>({v:= .lit (.bool !b)}:Out)) λ q _ θ hs hS cc r hr=> ?_;simp only[opE,Az0,ev_sub,h1,ax0,az1,hS,a0W,a1b]at hr;have e:a0t P (Op.unary .not (.bool q.2))=some (.lit (.bool !q.2)):=rfl;simp only[e,az1,Az1,az0]at hr;rw[<-hr];rfl
  .cases h
 .next op t x y z ho=>
  simp only at ho;subst ho;split at h
  .next a b h1 h2=>
   simp only[az2]at h;obtain⟨L',hL,rfl⟩:=h;refine(d2x (P:=P) (R:=R) hL).map (λ v=>({v:=v}:Out)) λ q _ θ hs hS cc r hr=> ?_;simp only[opE,Az0,ev_sub,h1,h2,ax0,az1,az3,Az1,az0]at hr;obtain⟨v,v1,rfl⟩:=hr;rw[hS v v1];rfl
  .cases h
 .next t x i ho=>
  simp only at ho;subst ho;split at h
  .next w h1=>
   split at h
   .next j hj h2=>
    have:=a2A hj;subst this;simp only[az2]at h;obtain⟨L',hL,rfl⟩:=h;refine(c3l (P:=P) (R:=R) hL).map (λ x=>({v:= .dptr x.cells}:Out)) λ q _ θ hs hS cc r hr=> ?_;have e1:ev (λ i=>sub θ (get i)) x=some (θ.v j):=by rw[ev_sub,h1];exact an8 some a4m
    have e2:ev (λ i=>sub θ (get i)) i=some (.lit (.int .i64 0)):=by rw[ev_sub,h2];exact an8 some (a1k rfl)
    simp only[opE,Az0,e1,e2,az1,a2u,az3]at hr;obtain⟨n,hn,e,_,sz,_,hr⟩:=hr;have hn:n=0:=by simpa using hn.symm
    subst hn;have hS:(lst (θ.v j))[0]?=some (sub θ q.2):=hS;rcases(θ.d j).1.forms with⟨w,hw⟩|hw|⟨xs,hw⟩
    .rw[hw]at hr;cases hr
    .rw[hw]at hr;cases hr
    .rw[hw]at hr hS;simp only[lst]at hS;simp only[hS,az1]at hr;split at hr
     .cases hr
     .simp only[Az1,az0]at hr;rw[<-hr,a2v];rfl
   .cases h
  .exact c9U h
 .next args d ho=>
  simp only at ho;subst ho;split at h
  .next v t h1 h2=>
   simp only[az2]at h;obtain⟨L',hL,rfl⟩:=h;refine(c2m (P:=P) (R:=R) hL).map (λ v=>({v:=v}:Out)) λ q _ θ hs hS cc r hr=> ?_;have e1:evs (λ i=>sub θ (get i)) args=some [sub θ v]:=by rw[a6Q,h1];rfl
   simp only[opE,Az0,e1,az1]at hr;rcases hS with⟨b,b1,b2,b3⟩|⟨n1,_,n,n2,n3⟩
   .rw[b2]at hr;have e:a0t P (Builtin.len_ d type #[.string b])=some (.lit (.int .i64 b.size)):=by
     simp only[a0t,Builtin.len_,h2,Az0];have e0:(#[Value.string b]:Array Value)[0]?=some (.string b):=rfl;simp only[e0,a0a,a0g b1,az1,a0i,goInt];rfl
    simp only[e,az1,Az1,az0]at hr;rw[<-hr,<-b3];rfl
   .generalize hv:sub θ v=k at hr n1 n2;cases k;case lit w=>exact absurd rfl (n1 w)
    all_goals
     simp only[h2,az1,n2,az3,Az1,az0]at hr;obtain⟨_,_,hr⟩:=hr;rw[<-hr,<-n3];rfl
  .cases h
 .next args d ho=>
  simp only at ho;subst ho;split at h
  .next a x t u h1 h2=>
   refine(d2I (P:=P) (R:=R) (u:=u) h).mono λ q _ θ hs hS cc r hr=> ?_;have e1:evs (λ i=>sub θ (get i)) args=some [sub θ a,sub θ x]:=by rw[a6Q,h1];rfl
   simp only[opE,Az0,e1,az1,h2]at hr;exact hS r hr
  .cases h
 .exact c9U h
end
end
section
open Go.PV Go.SN
section
variable {e:Type}
def d7H(w:Value)(k:Value->e):e:=match w with
 | .int a i=>fI i λ i=>k (.int a i)
 | .chan (some n)=>fN n λ n=>k (.chan (some n))
 | .map (some n)=>fN n λ n=>k (.map (some n))
 |w=>k w
def fW:Nat->V->(V->e)->e
 |0,v,k=>k v
 |n+1,v,k=>match v with
  | .lit w=>d7H w λ w=>k (.lit w)
  | .agg l=>fLs (fW n) l λ l=>k (.agg l)
  | .tup l=>fLs (fW n) l λ l=>k (.tup l)
  | .sl o l=>fLs (fW n) l λ l=>k (.sl o l)
  | .dptr l=>fLs (fW n) l λ l=>k (.dptr l)
  | .fn f a b=>fLs (fW n) a λ a=>fLs (fW n) b λ b=>k (.fn f a b)
  | .row a b c d=>fN a λ a=>fN b λ b=>fN c λ c=>fN d λ d=>k (.row a b c d)
  | .ptr a b=>fN a λ a=>fN b λ b=>k (.ptr a b)
  | .eptr a b c d=>fN a λ a=>fN b λ b=>fN c λ c=>fN d λ d=>k (.eptr a b c d)
  |v=>k v
def fB(b:Bool)(k:Bool->e):e:=match b with
 |true=>k true
 |false=>k false
def fF(f:Fact)(k:Fact->e):e:=match f with
 | .ty n d=>fN n λ n=>k (.ty n d)
 | .boo n b=>fN n λ n=>fB b λ b=>k (.boo n b)
 | .icmp op a b c=>fW 4 a λ a=>fW 4 b λ b=>fB c λ c=>k (.icmp op a b c)
 | .seq t a b c=>fW 4 a λ a=>fW 4 b λ b=>fB c λ c=>k (.seq t a b c)
 | .len m o=>fN m λ m=>fN o λ o=>k (.len m o)
 | .slen m o=>fN m λ m=>fN o λ o=>k (.slen m o)
 | .idx o i x=>fN o λ o=>fN i λ i=>fW 4 x λ x=>k (.idx o i x)
 | .rl t xs=>fN t λ t=>fLs (fW 4) xs λ xs=>k (.rl t xs)
 | .emp o b=>fN o λ o=>fB b λ b=>k (.emp o b)
 | .call j asq v=>fN j λ j=>fLs (fW 4) asq λ asq=>fW 4 v λ v=>k (.call j asq v)
def d4L(q:Nat×Option Box)(k:Nat×Option Box->e):e:=match q with
 |(i,b)=>fN i λ i=>match b with
  |some (.var l)=>fLs (fW 4) l λ l=>k (i,some (.var l))
  |some (.row t z l f)=>fN z λ z=>fLs (fW 4) l λ l=>fB f λ f=>k (i,some (.row t z l f))
  |some (.map l)=>k (i,some (.map l))
  |none=>k (i,none)
def fT:T->(T->e)->e
 | .leaf,k=>k .leaf
 | .one v,k=>fW 4 v λ v=>k (.one v)
 | .node l r,k=>fT l λ l=>fT r λ r=>k (.node l r)
def fKS(K:Ks)(s:St)(k:Ks->St->e):e:=match K,s with
 |⟨n,m,fs,c⟩,⟨env,h,nx,sz⟩=>fN n λ n=>fN m λ m=>fLs fF fs λ fs=>fN c λ c=>fT env λ env=>fLs d4L h λ h=>fN nx λ nx=>fN sz λ sz=>k ⟨n,m,fs,c⟩ ⟨env,h,nx,sz⟩
def fFs:Nat->List Fact->(List Fact->e)->e
 |0,l,k=>k l
 |_+1,[],k=>k []
 |n+1,f::r,k=>fF f λ f=>fFs n r λ r=>k (f::r)
def fK(c0:Nat)(K:Ks)(k:Ks->e):e:=match K with
 |⟨n,m,fs,c⟩=>fN n λ n=>fN m λ m=>fN c λ c=>fFs (c-c0) fs λ fs=>k ⟨n,m,fs,c⟩
def d8K(o:Out)(k:Out->e):e:=match o with
 |⟨v,u,c⟩=>fW 4 v λ v=>fLs d4L u λ u=>fN c λ c=>k ⟨v,u,c⟩
def d6k:HP->HP->(HP->e)->e
 |[],h,k=>k h
 |q::r,h,k=>d6k r h λ h=>k (q::h)
def d0Q:Nat->T->Nat->V->(T->e)->e
 |0,_,_,v,k=>k (.one v)
 |d+1,.node l r,i,v,k=>if i % 2=0 then d0Q d l (i/2) v λ l=>k (.node l r)else d0Q d r (i/2) v λ r=>k (.node l r)
 |d+1,_,i,v,k=>if i % 2=0 then d0Q d .leaf (i/2) v λ l=>k (.node l .leaf)else d0Q d .leaf (i/2) v λ r=>k (.node .leaf r)
def b7h(s:St)(d:Option Tmp)(o:Out)(k:St->e):e:=match s with
 |⟨env,h,nx,sz⟩=>d6k o.upd h λ h=>fN (nx+o.cnt) λ nx=>match d with
  |none=>k ⟨env,h,nx,sz⟩
  |some d=>if d<sz then d0Q 8 env d o.v λ env=>k ⟨env,h,nx,sz⟩else k ⟨env,h,nx,sz⟩
theorem d0Z(w:Value)(k:Value->e):d7H w k=k w:=by
 unfold d7H;grind[c2N,a4i]
theorem c0c:∀(n:Nat) (v:V) (k:V->e),fW n v k=k v
 |0,v,k=>rfl
 |n+1,v,k=>by
  cases v<;>simp only[fW,d0Z,a4i,a3t (c0c n)]
theorem c7s(b:Bool)(k:Bool->e):fB b k=k b:=by cases b<;>rfl
theorem d4X(f:Fact)(k:Fact->e):fF f k=k f:=by
 cases f<;>simp only[fF,a4i,c7s,c0c,a3t (c0c 4)]
theorem c3w(q:Nat×Option Box)(k:Nat×Option Box->e):d4L q k=k q:=by
 grind[d4L,a4i,c7s,a3t,c0c]
theorem d5u:∀(t:T) (k:T->e),fT t k=k t
 | .leaf,k=>rfl
 | .one v,k=>by simp only[fT,c0c]
 | .node l r,k=>by simp only[fT,d5u]
theorem c9C(K:Ks)(s:St)(k:Ks->St->e):fKS K s k=k K s:=by
 simp_all[fKS,a4i,d5u,a3t,d4X,c3w]
theorem c9D:∀(n:Nat) (l:List Fact) (k:List Fact->e),fFs n l k=k l
 |0,_,_=>rfl
 |_+1,[],_=>rfl
 |n+1,f::r,k=>by simp only[fFs,d4X,c9D n]
theorem d5F(c:Nat)(K:Ks)(k:Ks->e):fK c K k=k K:=by
 simp_all[fK,a4i,c9D]
theorem d1A(o:Out)(k:Out->e):d8K o k=k o:=by
 simp_all[d8K,a4i,c0c,a3t,c3w]
theorem b6S:∀(a b:HP) (k:HP->e),d6k a b k=k (a++b)
 |[],_,_=>rfl
 |q::r,b,k=>by simp only[d6k,b6S,ap4]
theorem c1Z:∀(d:Nat) (t:T) (i:Nat) (v:V) (k:T->e),d0Q d t i v k=k (T.put d t i v)
 |0,t,i,v,k=>by cases t<;>rfl
 |d+1,t,i,v,k=>by
  cases t<;>simp only[d0Q,T.put]<;>split<;>simp only[c1Z d]
theorem a9E(s:St)(d:Option Tmp)(o:Out)(k:St->e):b7h s d o k=k (a2H {s with h:=o.upd++s.h,nx:=s.nx+o.cnt} d o.v):=by
 cases s;grind[b7h,b6S,a4i,a2H,St.put,c1Z]
end
end
section
open Go.PV Go.SN
abbrev ClF:=Ks->G->Nat->Nat->List V->Option (List (Ks×Out))
abbrev OpF:=Ks->(Nat->V)->G->Nat->Oper->Option (List (Ks×Out))
def d1H:V->Bool
 | .lit _=>true
 |_=>false
def c0W(K:Ks)(s:St)(o:Oper):List (Ks×St):=[(K,a2H s o.dst .und)]
def c9O(f:OpF)(K:Ks)(s:St)(o:Oper):Option (List (Ks×St)):=(f K s.get (a0b s.h) s.nx o).map λ L=>L.map λ q=>(q.1,a2H {s with h:=q.2.upd++s.h,nx:=s.nx+q.2.cnt} o.dst q.2.v)
def b6R(f:OpF)(ops:Array Oper)(o:Oper)(K:Ks)(s:St):Option (List (Ks×St)):=
 match o.guard with
 |none=>c9O f K s o
 |some (j,b)=>match(ops[j]?).bind (·.dst)with
  |none=>some (c0W K s o)
  |some d=>if d1H (s.get d)then(match c8d K (s.get d)with
    |some L=>a1f (λ q=>if q.2==b then c9O f q.1 s o else some (c0W q.1 s o)) L
    |none=>none)
   else some (c0W K s o)
section
variable {B:Type}
def bnd(x:Option (List (Ks×St)))(k:Ks->St->Option (List B)):Option (List B):=match x with
 |none=>none
 |some L=>a1f (λ q=>k q.1 q.2) L
def d6m(f:OpF)(K:Ks)(s:St)(o:Oper)(k:Ks->St->Option (List B)):Option (List B):=match f K s.get (a0b s.h) s.nx o with
 |none=>none
 |some L=>a1f (λ q=>d8K q.2 λ out=>fK K.c q.1 λ K'=>b7h s o.dst out (k K')) L
def c5N(K:Ks)(s:St)(o:Oper)(k:Ks->St->Option (List B)):Option (List B):=a1f (λ q=>b7h s o.dst {v:= .und} (k q)) [K]
def d1G(f:OpF)(ops:Array Oper)(o:Oper)(K:Ks)(s:St)(k:Ks->St->Option (List B)):Option (List B):=
 match o.guard with
 |none=>d6m f K s o k
 |some (j,b)=>match(ops[j]?).bind (·.dst)with
  |none=>c5N K s o k
  |some d=>if d1H (s.get d)then(match c8d K (s.get d)with
    |some L=>a1f (λ q=>fK K.c q.1 λ K'=>if q.2==b then d6m f K' s o k else c5N K' s o k) L
    |none=>none)
   else c5N K s o k
def a7X(f:OpF)(ops:Array Oper):List Oper->Ks->St->Option (List (Ks×St))
 |[],K,s=>some [(K,s)]
 |o::r,K,s=>d1G f ops o K s (a7X f ops r)
theorem b6c{A b:Type}{f:b->Option (List B)}{g:A->b}:∀{l:List A},a1f f (l.map g)=a1f (λ x=>f (g x)) l
 |[]=>rfl
 |a::l=>by simp only[av2,a1f,b6c]
theorem b4v{A:Type}{f:A->Option (List B)}:∀{x y:List A},a1f f (x++y)=match a1f f x with
  |none=>none
  |some l=>match a1f f y with
   |none=>none
   |some r=>some (l++r)
 |[],y=>by
  grind[a1f]
 |a::x,y=>by
  simp only[ap4,a1f,b4v (x:=x)];cases f a with
  |none=>rfl
  |some u=>grind
theorem b5o{A:Type}{f:A->Option (List (Ks×St))}{k:Ks->St->Option (List B)}:∀{l:List A},bnd (a1f f l) k=a1f (λ x=>bnd (f x) k) l
 |[]=>rfl
 |a::l=>by
  have ih:=b5o (f:=f) (k:=k) (l:=l);simp only[a1f];grind[bnd,b4v]
variable {K:Ks} {k:Ks->St->Option (List B)} {f:OpF} {o:Oper} {s:St}
theorem c3J:d6m f K s o k=bnd (c9O f K s o) k:=by
 unfold d6m c9O bnd;grind[b6c,d1A,d5F,a9E]
theorem b4l:c5N K s o k=bnd (some (c0W K s o)) k:=by
 simp_all[c5N,bnd,c0W,a1f,a9E]
theorem c7m{ops:Array Oper}:d1G f ops o K s k=bnd (b6R f ops o K s) k:=by
 unfold d1G b6R;cases o.guard with
 |none=>exact c3J
 |some p=>
  obtain⟨j,b⟩:=p;simp only;cases(ops[j]?).bind (·.dst)with
  |none=>exact b4l
  |some d=>
   simp only;by_cases hd:d1H (s.get d)=true
   .rw[ax3 hd,ax3 hd];cases c8d K (s.get d)with
    |none=>rfl
    |some L=>
     simp only[b5o,d5F]
     congr 1
     funext q
     by_cases e:(q.2==b)=true;all_goals simp_all[c3J,b4l]
   simp_all[b4l]
end
theorem a8I{f:OpF}{ops:Array Oper}{o:Oper}{r:List Oper}{K:Ks}{s:St}:a7X f ops (o::r) K s=match b6R f ops o K s with
  |none=>none
  |some L=>a1f (λ q=>a7X f ops r q.1 q.2) L:=by
 rw[a7X,c7m];rfl
section
variable (P:Program) (cl:ClF)
def opK(K:Ks)(get:Nat->V)(g:G)(nx:Nat)(o:Oper):Option (List (Ks×Out)):=
 match o.op with
 | .call {callee:= .value f,args,.. }=>match ev get f,evs get args with
   |some (.fn k a b),some l=>cl K g nx k (a++l++b)
   |_,_=>none
 |_=>opS P K get g nx o
def d8S:=c9O (opK P cl)
def d4n:=b6R (opK P cl)
def b7c:=a7X (opK P cl)
def b7Q(f:Ks->St->Option (List (Ks×(Ex×St)))):Nat->Ks->St->Option (List (Ks×(Ex×St)))
 |0,_,_=>none
 |n+1,K,s=>match f K s with
  |none=>none
  |some L=>a1f (λ q=>match q.2.1 with
   | .normal=>b7Q f n q.1 q.2.2
   |_=>some [q]) L
def a6U(n:Nat):Code->Ks->St->Option (List (Ks×(Ex×St)))
 | .skip,K,s| .label _,K,s=>some [(K,.normal,s)]
 | .region _ ops _,K,s=>(b7c P cl ops ops.toList K s).map λ L=>L.map λ q=>(q.1,.normal,q.2)
 | .seq a b,K,s=>match a6U n a K s with
   |none=>none
   |some L=>a1f (λ q=>match q.2.1 with
    | .normal=>a6U n b q.1 q.2.2
    |_=>some [q]) L
 | .cond c a b,K,s=>match ev s.get c with
   |some v=>(match c8d K v with
    |some L=>a1f (λ q=>if q.2 then a6U n a q.1 s else a6U n b q.1 s) L
    |none=>none)
   |none=>none
 | .block id b,K,s=>(a6U n b K s).map λ L=>L.map λ q=>(q.1,(match q.2.1 with
   | .exit j=>if j=id then .normal else .exit j
   |x=>x),q.2.2)
 | .loop b,K,s=>b7Q (a6U n b) n K s
 | .scope b,K,s=>a6U n b K s
 | .exit id,K,s=>some [(K,.exit id,s)]
 | .ret,K,s=>some [(K,.ret,s)]
 |_,_,_=>none
end
section
variable {P:Program} {R:Rel} {cl:ClF} {prim:Nat->Option Fp} {inl:Nat->Bool} {K:Ks}
def d2e(P:Program)(R:Rel)(prim:Nat->Option Fp)(inl:Nat->Bool)(cl:ClF):Prop:=∀K g nx k args L,cl K g nx k args=some L->
 inl k=false/\Does P R K L λ θ out=>∀N r,a1q (a0d P prim inl N).cbv (a4f θ g) nx k (a1d θ args)=some r->r=b1x θ out
theorem a4G{N:Nat}{k:Nat}(h:inl k=false):(a0d P prim inl N).inl k=none:=by
 cases N<;>simp[a0d,h]
variable {o:Oper} {s:St}
theorem d4Y(hc:d2e P R prim inl cl){L:List (Ks×Out)}(h:opK P cl K s.get (a0b s.h) s.nx o=some L):
  Does P R K L λ θ out=>∀N r,a1h P (a0d P prim inl N) o (a1Q θ s)=some r->r=(sub θ out.v,{a1Q θ s with h:=a5M θ out.upd++a5M θ s.h,nx:=s.nx+out.cnt}):=by
 unfold opK at h;split at h
 .next f args e ho=>
  split at h
  .next k a b l h1 h2=>
   obtain⟨hi,d⟩:=hc _ _ _ _ _ _ h;refine d.mono λ q _ θ hs hS N r hr=> ?_;have e1:ev (a1Q θ s).get f=some (.fn k (a1d θ a) (a1d θ b)):=by rw[get_sub,ev_sub,h1];simp only[ax0,sub]
   have e2:evs (a1Q θ s).get args=some (a1d θ l):=by rw[get_sub,a6Q,h2];rfl
   have e3:a1F (a0d P prim inl N) (a1Q θ s).get o=some none:=by simp only[a1F,ho,e1,a4G hi]
   simp only[a1h,e3,az2]at hr;obtain⟨out,h3,rfl⟩:=hr;simp only[opE,ho,Az0,e2,e1,az1,a4G hi]at h3;rw[<-a5g,<-a5g,show a0b (a1Q θ s).h=a4f θ (a0b s.h)from a5i]at h3;rw[hS N out h3];rfl
  .cases h
 .next c=>
  refine(c9n (P:=P) (R:=R) h).mono λ q _ θ hs hS N r hr=> ?_;have e3:a1F (a0d P prim inl N) (a1Q θ s).get o=some none:=by
   unfold a1F;split
   .next f args e ho=>exact absurd ho (c _ _ _)
   .rfl
  simp only[a1h,e3,az2]at hr;obtain⟨out,h3,rfl⟩:=hr;rw[get_sub,show a0b (a1Q θ s).h=a4f θ (a0b s.h)from a5i]at h3;rw[hS _ out h3];rfl
variable {L:List (Ks×St)}
theorem c5W(hc:d2e P R prim inl cl)(h:d8S P cl K s o=some L):
  Does P R K L λ θ a=>∀N r,a1h P (a0d P prim inl N) o (a1Q θ s)=some r->a2H r.2 o.dst r.1=a1Q θ a:=by
 unfold d8S c9O at h;simp only[az2]at h;obtain⟨L',hL,rfl⟩:=h;refine(d4Y (P:=P) (R:=R) hc hL).map (fun(q:Out)=>a2H {s with h:=q.upd++s.h,nx:=s.nx+q.cnt} o.dst q.v) λ q _ θ hs hS N r hr=> ?_;rw[hS N r hr,<-b2R];simp only[a1Q,b0J]
theorem a6h:Does P R K (c0W K s o) λ θ a=>a2H (a1Q θ s) o.dst .und=a1Q θ a:=
 Does.one λ θ _=>by rw[<-b2R];rfl
def d8A(P:Program)(prim:Nat->Option Fp)(inl:Nat->Bool)(ops:Array Oper)(o:Oper)(s:St)(θ:Th)(a:St):Prop:=∀N r,a0v P (a0d P prim inl N) ops o (a1Q θ s)=some r->r=a1Q θ a
variable {ops:Array Oper} {a:St} {θ:Th}
theorem c1R(hw:a0V ops o (a1Q θ s).get=true)(h:∀N r,a1h P (a0d P prim inl N) o (a1Q θ s)=some r->a2H r.2 o.dst r.1=a1Q θ a):d8A P prim inl ops o s θ a:=λ N r hr=>by
 unfold a0v at hr;rw[ax3 hw]at hr;grind[az2]
theorem b3z(hw:a0V ops o (a1Q θ s).get=false)(h:a2H (a1Q θ s) o.dst .und=a1Q θ a):d8A P prim inl ops o s θ a:=λ N r hr=>by
 simp_all[a0v]
theorem c7D(hc:d2e P R prim inl cl)(h:d4n P cl ops o K s=some L):Does P R K L (d8A P prim inl ops o s):=by
 unfold d4n b6R at h;split at h
 .next hg=>exact(c5W (P:=P) (R:=R) hc h).mono λ q _ θ _ hS=>c1R (by simp only[a0V,hg]) hS
 .next j b hg=>
  split at h
  .next hd=>
   cases h;exact(a6h (P:=P) (R:=R)).mono λ q _ θ _ hS=>b3z (by simp only[a0V,hg,hd]) hS
  .next d hd=>
   split at h
   .split at h
    .next L' hL=>
     refine(a5L (P:=P) (R:=R) hL).bind h λ q hq l hl=> ?_;have hw:∀θ,sub θ (s.get d)= .lit (.bool q.2)->a0V ops o (a1Q θ s).get=(q.2==b):=λ θ e=>by simp only[a0V,hg,hd,get_sub,e]
     split at hl
     .next e=>exact(c5W (P:=P) (R:=R) hc hl).mono λ q _ θ _ hS hb=>c1R ((hw θ hb).trans e) hS
     .next e=>
      cases hl;have e:(q.2==b)=false:=by simpa using e
      exact(a6h (P:=P) (R:=R)).mono λ q _ θ _ hS hb=>b3z ((hw θ hb).trans e) hS
    .cases h
   .next hl=>
    cases h;refine(a6h (P:=P) (R:=R)).mono λ q _ θ _ hS=>b3z ?_ hS;simp only[a0V,hg,hd,get_sub];cases e:s.get d with
    |lit w=>rw[e]at hl;exact absurd rfl hl
    |_=>simp only[sub]
theorem b1W(hc:d2e P R prim inl cl){ops:Array Oper}:∀{l:List Oper} {K:Ks} {s:St} {L:List (Ks×St)},b7c P cl ops l K s=some L->Does P R K L λ θ a=>∀N r,a0I P (a0d P prim inl N) ops l (a1Q θ s)=some r->r=a1Q θ a
 |[],K,s,L,h=>by
  cases h;exact Does.one λ θ _ N r hr=>(ax8 hr).symm
 |o::l,K,s,L,h=>by
  simp only[b7c,a8I]at h;split at h
  .cases h
  .next L' hL=>
   refine(c7D (P:=P) (R:=R) hc hL).bind h λ q hq l' hl=> ?_;refine(b1W hc hl).mono λ z _ θ hs hS hb N r hr=> ?_;simp only[a0I]at hr;split at hr
   .cases hr
   .next b h1=>
    rw[hb N b h1]at hr;exact hS N r hr
def d3k(P:Program)(prim:Nat->Option Fp)(inl:Nat->Bool)(c:Code)(s:St)(θ:Th)(q:Ex×St):Prop:=∀N n r,a0K P (a0d P prim inl N) n c (a1Q θ s)=some r->r=(q.1,a1Q θ q.2)
theorem b8L{f:Ks->St->Option (List (Ks×(Ex×St)))}{c:Code}(hf:∀K s L,f K s=some L->Does P R K L (d3k P prim inl c s)):∀{m:Nat} {K:Ks} {s:St} {L:List (Ks×(Ex×St))},b7Q f m K s=some L->Does P R K L λ θ q=>∀N n i r,iter (a0K P (a0d P prim inl N) n c) i (a1Q θ s)=some r->r=(q.1,a1Q θ q.2)
 |0,K,s,L,h=>by cases h
 |m+1,K,s,L,h=>by
  simp only[b7Q]at h;split at h
  .cases h
  .next L' hL=>
   refine(hf K s L' hL).bind h λ q hq l hl=> ?_;obtain⟨K',x,a⟩:=q;have out:x≠ .normal->l=[(K',x,a)]->Does P R K' l λ θ q=>d3k P prim inl c s θ (x,a)->∀N n i r,iter (a0K P (a0d P prim inl N) n c) i (a1Q θ s)=some r->r=(q.1,a1Q θ q.2):=by
    rintro hx rfl;refine Does.one λ θ _ hb N n i r hr=> ?_;cases i with
    |zero=>cases hr
    |succ i=>
     simp only[iter]at hr;cases h1:a0K P (a0d P prim inl N) n c (a1Q θ s)with
     |none=>grind
     |some w=>have:=hb N n w h1;grind
   cases x with
   |normal=>
    refine(b8L hf hl).mono λ z _ θ hs hS hb N n i r hr=> ?_;cases i with
    |zero=>cases hr
    |succ i=>
     simp only[iter]at hr;cases h1:a0K P (a0d P prim inl N) n c (a1Q θ s)with
     |none=>grind
     |some w=>have:=hb N n w h1;grind
   |exit j=>grind
   |ret=>grind
theorem c7R(hc:d2e P R prim inl cl){m:Nat}:∀{c:Code} {K:Ks} {s:St} {L:List (Ks×(Ex×St))},a6U P cl m c K s=some L->Does P R K L (d3k P prim inl c s):=by
 intro c;induction c with
 |skip=>intro K s L h;cases h;exact Does.one λ θ _ N n r hr=>(ax8 hr).symm
 |label i=>intro K s L h;cases h;exact Does.one λ θ _ N n r hr=>(ax8 hr).symm
 |region i ops d=>intro K s L h;simp only[a6U,az2]at h;obtain⟨L',hL,rfl⟩:=h;refine(b1W (P:=P) (R:=R) hc hL).map (λ s=>((.normal,s):Ex×St)) λ q _ θ _ hS N n r hr=> ?_;simp only[a0K,az2]at hr;grind
 |seq a b f g=>
  intro K s L h;simp only[a6U]at h;split at h
  .cases h
  .next L' hL=>
   refine(f hL).bind h λ q hq l hl=> ?_;obtain⟨K',x,o⟩:=q;have out:x≠ .normal->l=[(K',x,o)]->Does P R K' l λ θ q=>d3k P prim inl a s θ (x,o)->d3k P prim inl (.seq a b) s θ q:=by
    rintro hx rfl;refine Does.one λ θ _ hb N n r hr=> ?_;simp only[a0K]at hr;cases h1:a0K P (a0d P prim inl N) n a (a1Q θ s)with
    |none=>grind
    |some w=>have:=hb N n w h1;grind
   cases x with
   |normal=>
    refine(g hl).mono λ z _ θ hs hS hb N n r hr=> ?_;simp only[a0K]at hr;cases h1:a0K P (a0d P prim inl N) n a (a1Q θ s)with
    |none=>grind
    |some w=>have:=hb N n w h1;subst this;rw[h1]at hr;exact hS N n r hr
   |exit j=>grind
   |ret=>grind
 |cond c a b f g=>
  intro K s L h;simp only[a6U]at h;split at h
  .next v hv=>
   split at h
   .next L' hL=>
    refine(a5L (P:=P) (R:=R) hL).bind h λ q hq l hl=> ?_;have e:∀θ,sub θ v= .lit (.bool q.2)->ev (a1Q θ s).get c=some (.lit (.bool q.2)):=λ θ e=>by rw[get_sub,ev_sub,hv,ax0,e]
    cases k:q.2 with
    |true=>rw[k]at hl e;simp only[aw4]at hl;refine(f hl).mono λ z _ θ hs hS hb N n r hr=> ?_;simp only[a0K,e θ hb,aw4]at hr;exact hS N n r hr
    |false=>rw[k]at hl e;simp only[ay6,av8]at hl;refine(g hl).mono λ z _ θ hs hS hb N n r hr=> ?_;simp only[a0K,e θ hb,ay6,av8]at hr;exact hS N n r hr
   .cases h
  .cases h
 |block id b ih=>
  intro K s L h;simp only[a6U,az2]at h;obtain⟨L',hL,rfl⟩:=h;refine(ih hL).map (fun(q:Ex×St)=>((match q.1 with
   | .exit j=>if j=id then .normal else .exit j
   |x=>x,q.2):Ex×St)) λ q _ θ _ hS N n r hr=> ?_
  simp only[a0K]at hr;cases h1:a0K P (a0d P prim inl N) n b (a1Q θ s)with
  |none=>grind
  |some w=>have:=hS N n w h1;grind
 |loop b ih=>intro K s L h;simp only[a6U]at h;refine(b8L (P:=P) (R:=R) (λ K s L h=>ih h) h).mono λ q _ θ _ hS N n r hr=> ?_;grind[a0K]
 |scope b ih=>intro K s L h;simp only[a6U]at h;refine(ih h).mono λ q _ θ _ hS N n r hr=> ?_;simp only[a0K]at hr;exact hS N n r hr
 |exit id=>intro K s L h;cases h;exact Does.one λ θ _ N n r hr=>(ax8 hr).symm
 |ret=>intro K s L h;cases h;exact Does.one λ θ _ N n r hr=>(ax8 hr).symm
 |_=>intro K s L h;cases h
end
end
section
open Go.PV Go.SN
def d0o:V->Bool
 | .lit (.pointer none)=>false
 | .lit _| .nils| .sl none _=>true
 |_=>false
def c1I:V->Bool
 | .agg cs=>cs.all d0o
 |v=>d0o v
def c6l:V->Bool
 | .tup xs=>xs.all c1I
 |v=>c1I v
def d6F(xs:List V):Bool:=xs.all λ v=>(c1E v).isSome||c1I v
section
variable {θ:Th}
theorem a4S{v:V}(h:d0o v=true):isD (sub θ v):=by
 unfold d0o at h;split at h
 .cases h
 .next w hw=>
  rw[sub];cases e:a3Z w with
  |some i=>exact(θ.d i).1
  |none=>grind[a2L]
 all_goals grind[sub,a6n,b4K]
theorem b0p{v:V}(h:c1I v=true):pD (sub θ v):=by
 unfold c1I at h;split at h
 .next cs=>
  rw[sub];grind[c4A,a2t,a4S]
 .exact b9J (a4S h)
theorem b2K{v:V}(h:c6l v=true):rD (sub θ v):=by
 unfold c6l at h;split at h
 .next cs=>
  rw[sub];grind[d4t,a2t,b0p]
 .exact d0n (b0p h)
theorem b8a:∀{xs:List V},d6F xs=true->dX (a3v θ xs)
 |[],_=>λ y hy=>by simp[a3v]at hy
 |c::r,h=>λ y hy=>by
  simp only[d6F,Az3,az6,ay8]at h;rw[a3v]at hy;rcases ax1.1 hy with hy|hy
  .cases e:c1E c with
   |some i=>rw[e]at hy;exact(θ.d i).2 y hy
   |none=>grind[b0p]
  .exact b8a h.2 y hy
end
theorem a7t{S S':Type}{f:S->V->Option (V×S)}{f':S'->V->Option (V×S')}{θ:Th}{ι:S->S'}(h:∀s v w c,f s v=some (w,c)->f' (ι s) (sub θ v)=some (sub θ w,ι c)):∀{l r:List V} {s c:S},a0G f s l=some (r,c)->a0G f' (ι s) (a1d θ l)=some (a1d θ r,ι c)
 |[],r,s,c,e=>by
  simp only[a0G,az0,az8]at e;obtain⟨rfl,rfl⟩:=e;rfl
 |a::l,r,s,c,e=>by
  simp only[a0G]at e;cases h1:f s a with
  |none=>grind
  |some q=>
   obtain⟨b,d⟩:=q;rw[h1]at e;simp only at e;cases h2:a0G f d l with
   |none=>grind
   |some q=>obtain⟨bs,i⟩:=q;simp only[h2,az0,az8]at e;obtain⟨rfl,rfl⟩:=e;simp only[a1d,a0G,h _ _ _ _ h1,a7t h h2]
def d3h(ps:List Nat)(v:V):Option (V×List Nat):=match v with
 | .ptr id off=>if off≠0 then none else match ps.idxOf? id with
   |some j=>some (.ptr j 0,ps)
   |none=>some (.ptr ps.length 0,ps++[id])
 |v=>if c1I v then some (v,ps)else none
def c1o(K:Ks)(g:G)(ks:List Nat)(v:V):Option (V×List Nat):=match v with
 | .row a z 0 n=>match whole K g a z n with
   |some (ty,xs,b)=>if d6F xs&& !(ks.contains a)then some (.sl (some (ty,z,b)) xs,a::ks)else none
   |none=>none
 |v=>if d0o v then some (v,ks)else none
def d2N(K:Ks)(g:G)(ks:List Nat)(id:Nat):Option (List V×List Nat):=match g id with
 |some (.var cs)=>a0G (c1o K g) ks cs
 |_=>none
section
variable {P:Program} {R:Rel} {K:Ks} {θ:Th} {g:G}
theorem d2A{ps:List Nat}{v w:V}{a ms:List Nat}{b:G}(h:d3h ps v=some (w,a)):a1y 4 b (ms,ps) (sub θ v)=some (sub θ w,ms,a):=by
 unfold d3h at h;split at h
 .next id off=>
  split at h
  .cases h
  .next h0=>
   rw[sub];simp only[a1y];rw[ay9 h0];split at h
   .next j hj=>
    simp only[az0,az8]at h;obtain⟨rfl,rfl⟩:=h;simp only[hj];rfl
   .next hj=>
    simp only[az0,az8]at h;obtain⟨rfl,rfl⟩:=h;simp only[hj];rfl
 grind[c3T,b0p]
theorem b9Z(hs:Sat P R θ K){ks a ms:List Nat}{v w:V}(h:c1o K g ks v=some (w,a)):a0h (a4f θ g) (ms,ks) (sub θ v)=some (sub θ w,ms,a)/\a6J (sub θ v)=false/\∀i,a0S i (sub θ v)=sub θ v:=by
 unfold c1o at h;split at h
 .next b z n=>
  split at h
  .next ty xs c hw=>
   split at h
   .next hc=>
    simp only[az6,ax2,List.contains_eq_mem,Ax6]at hc;simp only[az0,az8]at h;obtain⟨rfl,rfl⟩:=h;obtain⟨g1,g2,_⟩:=a9o hs hw;rw[sub,sub];exact⟨d3H g1 g2 (b8a hc.1) hc.2,rfl,λ _=>rfl⟩
   .cases h
  .cases h
 .split at h
  .next ho=>
   simp only[az0,az8]at h;obtain⟨rfl,rfl⟩:=h;have:=a4S (θ:=θ) ho;exact⟨this.co _ _,this.dp,this.so⟩
  .cases h
theorem d2z(hs:Sat P R θ K){ks c ms:List Nat}{id:Nat}{cs:List V}(h:d2N K g ks id=some (cs,c)):a1x (a4f θ g) (ms,ks) id=some (a1d θ cs,ms,c):=by
 unfold d2N at h;split at h
 .next xs hg=>
  have all:∀{l r:List V} {ks c:List Nat},a0G (c1o K g) ks l=some (r,c)->∀x∈l,a6J (sub θ x)=false/\∀i,a0S i (sub θ x)=sub θ x:=by
   intro l;induction l with
   |nil=>intro r ks c _ x hx;cases hx
   |cons a l ih=>
    intro r ks c h x hx;simp only[a0G]at h;cases h1:c1o K g ks a with
    |none=>simp[h1]at h
    |some q=>
     obtain⟨b,e⟩:=q;rw[h1]at h;simp only at h;cases h2:a0G (c1o K g) e l with
     |none=>simp[h2]at h
     |some q=>
      rcases ay4.1 hx with rfl|hx
      .exact(b9Z hs (ms:=[]) h1).2
      .exact ih (show _=some (q.1,q.2)from h2) x hx
  have d:=all h;unfold a1x;simp only[a4f,hg,ax0,b9K];have e1:(a1d θ xs).any a6J=false:=by
   rw[Ax5];intro y hy;rw[a2t]at hy;obtain⟨x,hx,rfl⟩:=ax5.1 hy;rw[(d x hx).1];decide
  have e2:(a1d θ xs).map (a0S id)=a1d θ xs:=by
   rw[a2t,List.map_map];exact Az8 λ x hx=>(d x hx).2 id
  rw[ay9 (by rw[e1];decide),e2];exact a7t (ι:=λ ks=>(ms,ks)) (f':=a0h (a4f θ g)) (λ s v w f h=>(b9Z hs h).1) h
 .cases h
theorem b1o(hs:Sat P R θ K):∀{ps:List Nat} {ks a ms:List Nat} {bs:List (List V)},a0G (d2N K g) ks ps=some (bs,a)->a0G (a1x (a4f θ g)) (ms,ks) ps=some (bs.map (a1d θ),ms,a)
 |[],ks,a,ms,bs,h=>by
  simp only[a0G,az0,az8]at h;obtain⟨rfl,rfl⟩:=h;rfl
 |p::ps,ks,a,ms,bs,h=>by
  simp only[a0G]at h;cases h1:d2N K g ks p with
  |none=>grind
  |some q=>
   obtain⟨b,c⟩:=q;rw[h1]at h;simp only at h;cases h2:a0G (d2N K g) c ps with
   |none=>grind
   |some q=>obtain⟨d,e⟩:=q;simp only[h2,az0,az8]at h;obtain⟨rfl,rfl⟩:=h;simp only[a0G,d2z hs h1,b1o hs h2,av2]
end
structure Grow (P:Program) (R:Rel) (K K':Ks):Prop where
 le:K.le K'
 cov:WF K->∀θ,Sat P R θ K->∃θ',Cv P R K θ K' θ'
section
variable {P:Program} {R:Rel} {K:Ks}
theorem Grow.refl:Grow P R K K:=⟨Ks.le.refl,λ hw θ hs=>⟨θ,Cv.refl hw hs⟩⟩
theorem Grow.trans{A B C:Ks}(h:Grow P R A B)(k:Grow P R B C):Grow P R A C:=⟨h.le.trans k.le,λ hw θ hs=>by
 obtain⟨a,c1⟩:=h.cov hw θ hs;obtain⟨b,c2⟩:=k.cov c1.wf a c1.sat
 exact⟨b,c1.trans c2⟩⟩
theorem Grow.does{A:Type}{K':Ks}{L:List (Ks×A)}{S:Th->A->Prop}(h:Grow P R K K')(d:Does P R K' L S):Does P R K L S:=
 ⟨λ x hx=>h.le.trans (d.le x hx),d.say,λ hw θ hs=>by
  obtain⟨a,c1⟩:=h.cov hw θ hs;obtain⟨x,hx,b,c2⟩:=d.cov c1.wf a c1.sat
  exact⟨x,hx,b,c1.trans c2⟩⟩
abbrev Bk:=Ks×HP×Nat
def b8i(q:Bk)(v:V):Option (V×Bk):=match v with
 | .sl (some (ty,z,a)) xs=>
   if c1J xs&&decide (xs.length<big)then some (.row q.2.2 z 0 xs.length,q.1,(q.2.2,some (.row ty z xs a))::q.2.1,q.2.2+1)
   else if a9f q.1.n q.1.m xs then some (.row q.2.2 z 0 (big+q.1.m),q.1.newL λ m=> .rl m xs,(q.2.2,some (.row ty z xs a))::q.2.1,q.2.2+1)else none
 |v=>if d0o v then some (v,q)else none
theorem c6I{q a:Bk}{v w:V}(h:b8i q v=some (w,a)):Grow P R q.1 a.1/\∀θ,Sat P R θ a.1->a0J (a5M θ q.2.1,q.2.2) (sub θ v)=(sub θ w,a5M θ a.2.1,a.2.2)/\∀i,a0H i (sub θ w)=sub θ w:=by
 unfold b8i at h;split at h
 .next ty z b xs=>
  split at h
  .next hc=>
   simp only[az6,ay2]at hc;simp only[az0,az8]at h;obtain⟨rfl,rfl⟩:=h;refine⟨Grow.refl,λ θ hs=>⟨?_,λ i=>by rw[sub];rfl⟩⟩;simp_all[sub,a0J,b7V,a5a,a0U,a5M,b9K]
  .split at h
   .next hl=>
    simp only[az0,az8]at h;obtain⟨rfl,rfl⟩:=h;refine⟨⟨b1G,λ hw θ hs=>⟨_,Cv.newL (f:=λ m=> .rl m xs) (l:=(a3v θ xs).length) hw hs ?_ ?_⟩⟩,λ θ hs=>⟨?_,λ i=>by rw[sub];rfl⟩⟩
    .simp only[Fact.lt,az6,ay2];exact⟨au5 _,a2e (ay3 _) (at3 _) _ hl⟩
    .show(θ.setL q.1.m _).len q.1.m=_;rw[show(θ.setL q.1.m (a3v θ xs).length).len q.1.m=(a3v θ xs).length from ax3 rfl,a6b (Agr.setL (θ:=θ) (n:=q.1.n) (m:=q.1.m)) _ hl]
    .have h1:θ.len q.1.m=(a3v θ xs).length:=hs (.rl q.1.m xs) (ay1 ..);simp_all[b7V,ay9,sub,a0J,a5M,b9K]
   .cases h
 .split at h
  .next ho=>
   simp only[az0,az8]at h;obtain⟨rfl,rfl⟩:=h;exact⟨Grow.refl,λ θ hs=>⟨(a4S ho).ci _,(a4S ho).si⟩⟩
  .cases h
theorem a9S:∀{l r:List V} {q c:Bk},a0G b8i q l=some (r,c)->Grow P R q.1 c.1/\∀θ,Sat P R θ c.1->PV.a0f (a5M θ q.2.1,q.2.2) (a1d θ l)=(a1d θ r,a5M θ c.2.1,c.2.2)/\∀i,(a1d θ r).map (a0H i)=a1d θ r
 |[],r,q,c,h=>by
  simp only[a0G,az0,az8]at h;obtain⟨rfl,rfl⟩:=h;exact⟨Grow.refl,λ θ _=>⟨rfl,λ _=>rfl⟩⟩
 |a::l,r,q,c,h=>by
  simp only[a0G]at h;cases h1:b8i q a with
  |none=>grind
  |some x=>
   obtain⟨b,d⟩:=x;rw[h1]at h;simp only at h;cases h2:a0G b8i d l with
   |none=>grind
   |some x=>obtain⟨bs,e⟩:=x;simp only[h2,az0,az8]at h;obtain⟨rfl,rfl⟩:=h;obtain⟨g1,k1⟩:=c6I (P:=P) (R:=R) h1;obtain⟨g2,k2⟩:=a9S h2;refine⟨g1.trans g2,λ θ hs=> ?_⟩;obtain⟨e1,e2⟩:=k1 θ (hs.le g2.le);grind[a1d,PV.a0f]
def c7o:Bk->List Nat->List (List V)->Option Bk
 |q,[],[]=>some q
 |q,id::ps,cs::bs=>match a0G b8i q cs with
  |some (l,a)=>c7o (a.1,(id,some (.var l))::a.2.1,a.2.2) ps bs
  |none=>none
 |_,_,_=>none
theorem b8r:∀{ps:List Nat} {bs:List (List V)} {q a:Bk},c7o q ps bs=some a->Grow P R q.1 a.1/\∀θ,Sat P R θ a.1->a2s (a5M θ q.2.1,q.2.2) ps (bs.map (a1d θ))=some (a5M θ a.2.1,a.2.2)
 |[],[],q,a,h=>by
  cases h;exact⟨Grow.refl,λ θ _=>rfl⟩
 |[],_::_,_,_,h=>by cases h
 |_::_,[],_,_,h=>by cases h
 |id::ps,cs::bs,q,a,h=>by
  simp only[c7o]at h;split at h
  .next l b h1=>
   obtain⟨g1,k1⟩:=a9S (P:=P) (R:=R) h1;obtain⟨g2,k2⟩:=b8r h;refine⟨g1.trans g2,λ θ hs=> ?_⟩;obtain⟨e1,e2⟩:=k1 θ (hs.le g2.le);have e3:=k2 θ hs;simp only[av2,a2s,e1,e2];exact e3
  .cases h
def b9N:Nat->Bk->List (List V)->Option Bk
 |_,q,[]=>some q
 |i,q,cs::bs=>match a0G b8i q cs with
  |some (l,a)=>b9N (i+1) (a.1,(i,some (.var l))::a.2.1,a.2.2) bs
  |none=>none
theorem b6v:∀{bs:List (List V)} {i:Nat} {q a:Bk},b9N i q bs=some a->Grow P R q.1 a.1/\∀θ,Sat P R θ a.1->a0w i (a5M θ q.2.1,q.2.2) (bs.map (a1d θ))=(a5M θ a.2.1,a.2.2)
 |[],i,q,a,h=>by
  cases h;exact⟨Grow.refl,λ θ _=>rfl⟩
 |cs::bs,i,q,a,h=>by
  simp only[b9N]at h;split at h
  .next l b h1=>
   obtain⟨g1,k1⟩:=a9S (P:=P) (R:=R) h1;obtain⟨g2,k2⟩:=b6v h;refine⟨g1.trans g2,λ θ hs=> ?_⟩;obtain⟨e1,e2⟩:=k1 θ (hs.le g2.le);have e3:=k2 θ hs;simp only[av2,a0w,e1,e2];exact e3
  .cases h
end
end
section
open Go.PV Go.SN
section
variable (P:Program)
def b9g(fn:Func)(s:St):Bool:=fn.results.toList.all λ r=>match r with
 | .tmp _=>true
 | .cell a _=>c0t (s.get a)
def c1l(K:Ks)(g:G)(nx:Nat)(ms:List Nat)(v:V):Option (V×List Nat):=match v with
 | .row a z 0 n=>match whole K g a z n with
   |some (_,xs,_)=>if d6F xs&&decide (a<nx)then some (.sl none xs,a::ms)else none
   |none=>none
 |v=>if d0o v then some (v,ms)else none
def c8l(K:Ks)(g:G)(nx:Nat)(ms:List Nat)(v:V):Option (V×List Nat):=match v with
 | .agg cs=>match a0G (c1l K g nx) ms cs with
   |some (l,ms)=>some (.agg l,ms)
   |none=>none
 |v=>c1l K g nx ms v
def d7b(K:Ks)(g:G)(nx:Nat)(v:V):Option (V×List Nat):=match v with
 | .tup xs=>match a0G (c8l K g nx) [] xs with
   |some (l,ms)=>some (.tup l,ms)
   |none=>none
 |v=>c8l K g nx [] v
def d9s(fn:Func)(nb:Nat)(q:Ks×(Ex×St)):Option (List (Ks×(V×List (List V)))):=
 match q.2.1 with
 | .exit _=>none
 |_=>if !(b9g fn q.2.2)then none else match a0m P fn q.2.2 with
  |none=>none
  |some v=>match d7b q.1 (a0b q.2.2.h) q.2.2.nx v with
   |none=>none
   |some (a,ms)=>match a0G (d2N q.1 (a0b q.2.2.h)) [] (List.range nb)with
    |none=>none
    |some (bs,ks)=>if ks.all λ id=> !(ms.contains id)then some [(q.1,a,bs)]else none
def c4g(pr:List Nat)(cl:ClF)(m:Nat)(K:Ks)(k:Nat)(asq:List V)(bs:List (List V)):Option (List (Ks×(V×List (List V)))):=
 if d1T k||pr.contains k then none else match P.funcs[k]? with
 |none=>none
 |some fn=>match fn.body,b9N 0 (K,[],bs.length) bs with
  |some c,some q=>(match fKS q.1 {env:=a0u asq 0 .leaf,h:=q.2.1,nx:=q.2.2,sz:=max asq.length fn.ntmps} (a6U P cl m c)with
   |some L=>a1f (d9s P fn bs.length) L
   |none=>none)
  |_,_=>none
end
section
variable {P:Program} {R:Rel} {K:Ks} {θ:Th} {g:G} {prim:Nat->Option Fp} {inl:Nat->Bool}
variable {a ms:List Nat} {nx:Nat} {v w:V}
theorem b9G(hs:Sat P R θ K)(h:c1l K g nx ms v=some (w,a)):a0h (a4f θ g) (ms,List.range nx) (sub θ v)=some (sub θ w,a,List.range nx):=by
 unfold c1l at h;split at h
 .next b z n=>
  split at h
  .next ty xs c hw=>
   split at h
   .next hc=>
    simp only[az6,ay2]at hc;simp only[az0,az8]at h;obtain⟨rfl,rfl⟩:=h;obtain⟨g1,g2,_⟩:=a9o hs hw;rw[sub,sub];exact d2C g1 g2 (b8a hc.1) (aq2.2 hc.2)
   .cases h
  .cases h
 .split at h
  .next ho=>
   simp only[az0,az8]at h;obtain⟨rfl,rfl⟩:=h;exact(a4S ho).co _ _
  .cases h
theorem b7f{K:Ks}(h:c1l K g nx ms v=some (w,a)):(∀cs,sub θ v≠ .agg cs)/\∀cs,sub θ v≠ .tup cs:=by
 unfold c1l at h;split at h
 .rw[sub];exact⟨nofun,nofun⟩
 .split at h
  .next ho=>
   have:=a4S (θ:=θ) ho;exact⟨this.2.2.2.2.2.2.2.2.2.2.1,this.2.2.2.2.2.2.2.2.2.2.2⟩
  .cases h
theorem b9i(hs:Sat P R θ K)(h:c8l K g nx ms v=some (w,a)):PV.a0O (a4f θ g) (ms,List.range nx) (sub θ v)=some (sub θ w,a,List.range nx)/\∀cs,sub θ v≠ .tup cs:=by
 unfold c8l at h;split at h
 .next cs=>
  split at h
  .next l b hm=>
   simp only[az0,az8]at h;obtain⟨rfl,rfl⟩:=h;rw[sub,sub];refine⟨?_,nofun⟩;simp only[PV.a0O];rw[a7t (ι:=λ ms=>(ms,List.range nx)) (f':=a0h (a4f θ g)) (λ s v w d h=>b9G hs h) hm]
  .cases h
 .obtain⟨n1,n2⟩:=b7f (θ:=θ) h;have:=b9G hs h;refine⟨?_,n2⟩;generalize sub θ v=c at this n1;cases c with
  |agg cs=>exact absurd rfl (n1 cs)
  |_=>exact this
theorem d2m(hs:Sat P R θ K)(h:d7b K g nx v=some (w,ms)):a2q (a4f θ g) ([],List.range nx) (sub θ v)=some (sub θ w,ms,List.range nx):=by
 unfold d7b at h;split at h
 .next cs=>
  split at h
  .next l a hm=>
   simp only[az0,az8]at h;obtain⟨rfl,rfl⟩:=h;rw[sub,sub];simp only[a2q];rw[a7t (ι:=λ ms=>(ms,List.range nx)) (f':=PV.a0O (a4f θ g)) (λ s v w c h=>(b9i hs h).1) hm]
  .cases h
 .obtain⟨h1,h2⟩:=b9i (θ:=θ) hs h;generalize sub θ v=b at h1 h2;cases b with
  |tup cs=>exact absurd rfl (h2 cs)
  |_=>exact h1
theorem a8w{fn:Func}{s:St}(ha:b9g fn s=true)(h:a0m P fn s=some v):a0m P fn (a1Q θ s)=some (sub θ v):=by
 unfold a0m at h|-;have hm:∀{l:List ResultVar} {vs:List V},(l.all λ r=>match r with
   | .tmp _=>true
   | .cell a _=>c0t (s.get a))=true->a0D (fun(r:ResultVar)=>match r with
   | .tmp t=>some (s.get t)
   | .cell a t=>do a6x P t (<-a0E (a0b s.h) (s.get a))) l=some vs->a0D (fun(r:ResultVar)=>match r with
   | .tmp t=>some ((a1Q θ s).get t)
   | .cell a t=>do a6x P t (<-a0E (a0b (a1Q θ s).h) ((a1Q θ s).get a))) l=some (a1d θ vs):=by
  intro l;induction l with
  |nil=>intro vs _ h;simp only[a0D,az0]at h;subst h;rfl
  |cons r l ih=>
   intro vs hl h;simp only[Az3,az6]at hl;simp only[a0D]at h|-;split at h
   .cases h
   .next w hw=>
    split at h
    .cases h
    .next ws c=>
     cases h;rw[ih hl.2 c];cases r with
     |tmp t=>cases hw;simp only[get_sub,a1d]
     |cell a t=>simp only[Az0,az3]at hw;obtain⟨cs,c1,c2⟩:=hw;have hh:c0t (s.get a)=true:=hl.1;have c3:=b0e (θ:=θ) (λ id sz i off e=>by rw[e]at hh;cases hh) c1 (.inl hh);have e1:a0b (a1Q θ s).h=a4f θ (a0b s.h):=a5i;simp only[get_sub,e1,Az0,c3,az1,b3M c2,a1d]
 simp only[Az0,az3]at h|-;obtain⟨vs,h1,h⟩:=h;refine⟨a1d θ vs,hm ha h1,?_⟩
 match vs with
 |[]=>cases h;rfl
 |[a]=>cases h;rfl
 |a::b::r=>cases h;rfl
theorem a7a:∀{l:List V} {i:Nat} {t:T},a0u (a1d θ l) i (c1n θ t)=c1n θ (a0u l i t)
 |[],_,_=>rfl
 |v::r,i,t=>by simp only[a1d,a0u,a5W,a7a]
def d6d(P:Program)(prim:Nat->Option Fp)(inl:Nat->Bool)(k:Nat)(asq:List V)(bs:List (List V))(θ:Th)(q:V×List (List V)):Prop:=
 ∀N r,(a0d P prim inl N).cbv k (a1d θ asq) (bs.map (a1d θ))=some r->r=(sub θ q.1,q.2.map (a1d θ))
variable {k:Nat}
theorem b9b{pr:List Nat}{cl:ClF}(hp:∀k,pr.contains k=false->prim k=none)(hc:d2e P R prim inl cl){m:Nat}{asq:List V}{bs:List (List V)}{L:List (Ks×(V×List (List V)))}(h:c4g P pr cl m K k asq bs=some L):Does P R K L (d6d P prim inl k asq bs):=by
 unfold c4g at h;split at h
 .cases h
 next hown=>
 simp only[ay8,ap6,at1]at hown;split at h
 .cases h
 next fn hfn=>
 split at h;case h_2=>cases h
 next c q hb hbx=>
 rw[c9C]at h;split at h;case h_2=>cases h
 next L' hL=>
 obtain⟨gr,kb⟩:=b6v (P:=P) (R:=R) hbx;refine gr.does ?_;have dc:=c7R (P:=P) (R:=R) hc hL;refine(dc.mono (S':=λ θ x=>Sat P R θ q.1/\d3k P prim inl c _ θ x) λ x hx θ hs hS=>⟨hs.le (dc.le x hx),hS⟩).bind h λ x hx l hl=> ?_;obtain⟨K',ex,s⟩:=x;unfold d9s at hl;split at hl
 .cases hl
 next hex=>
 split at hl
 .cases hl
 next hsrc=>
 have hsrc':b9g fn s=true:=by simpa using hsrc
 split at hl
 .cases hl
 next v hv=>
 split at hl
 .cases hl
 next v' ms hr=>
 split at hl
 .cases hl
 next bs' ks hks=>
 split at hl;case isFalse=>cases hl
 next hfree=>
 cases hl;refine Does.one λ θ hs ⟨hs0,hS⟩ N r hcall=> ?_;cases N with
 |zero=>simp[a0d]at hcall
 |succ N=>
  have hbody:=b8S (hp k hown.2) hcall;unfold a7O at hbody;simp only[Az0,hfn,az1,hb,az3]at hbody;have e0:=kb θ hs0;simp only[ap3]at hbody;rw[show(([],bs.length):HP×Nat)=(a5M θ [],bs.length)from rfl,e0]at hbody;obtain⟨⟨x,s1⟩,h1,hbody⟩:=hbody;have e1:({env:=a0u (a1d θ asq) 0 .leaf,h:=a5M θ q.2.1,nx:=q.2.2,sz:=max (a1d θ asq).length fn.ntmps}:St)=a1Q θ {env:=a0u asq 0 .leaf,h:=q.2.1,nx:=q.2.2,sz:=max asq.length fn.ntmps}:=by
   simp only[a1Q,a0U];rw[show(T.leaf)=c1n θ .leaf from rfl,a7a];rfl
  simp only at h1;rw[e1]at h1;have h2:=hS N N _ h1;simp only[az8]at h2;obtain⟨h2a,rfl⟩:=h2;subst h2a;have e2:a0b (a1Q θ s).h=a4f θ (a0b s.h):=a5i;have fin:(do
   let v<-a0m P fn (a1Q θ s);let(v,w)<-a5t k (a0b (a1Q θ s).h) (a1Q θ s).nx v;let(l,ms,ks)<-a0G (a1x (a0b (a1Q θ s).h)) w (List.range bs.length)
   if !(a1u (a0b (a1Q θ s).h) ms ks)then none
   pure (v,l))=some r->r=(sub θ v',bs'.map (a1d θ)):=by
   intro hf;have e3:a5t k (a4f θ (a0b s.h)) s.nx (sub θ v)=some (sub θ v',ms,[]):=by
    unfold a5t;rw[ay9 (by rw[hown.1];decide)];unfold c6k;simp only[d2m hs hr,aq8,aw4]
   have e4:(a1Q θ s).nx=s.nx:=rfl;simp only[Az0,a8w hsrc' hv,az1,e2,e4,e3,b1o hs hks]at hf;split at hf
   .cases hf
   .simp only[Az1,az0]at hf;exact hf.symm
  cases x with
  |exit j=>exact absurd rfl (hex j)
  |normal=>exact fin (by simpa only[Az0]using hbody)
  |ret=>exact fin (by simpa only[Az0]using hbody)
def c3S(a:Ks->Nat->List V->List (List V)->Option (List (Ks×(V×List (List V)))))(K:Ks)(g:G)(nx:Nat)(k:Nat)(args:List V):Option (List (Ks×Out)):=
 match a0G d3h [] args with
 |none=>none
 |some (asq,ps)=>match a0G (d2N K g) [] ps with
  |none=>none
  |some (bs,ks)=>match a K k asq bs with
   |none=>none
   |some L=>a1f (λ q=>if !(c6l q.2.1)then none else match c7o (q.1,ks.map (λ id=>(id,none)),nx) ps q.2.2 with
    |some b=>some [(b.1,{v:=q.2.1,upd:=b.2.1,cnt:=b.2.2-nx})]
    |none=>none) L
theorem c1L{ks:List Nat}:a5M θ (ks.map λ id=>(id,none))=ks.map λ id=>(id,none):=by
 simp[a5M]
variable {L:List (Ks×Out)} {args:List V}
theorem c6R{body:Ks->Nat->List V->List (List V)->Option (List (Ks×(V×List (List V))))}(hb:∀K k asq bs L,body K k asq bs=some L->Does P R K L (d6d P prim inl k asq bs))(h:c3S body K g nx k args=some L):
  Does P R K L λ θ out=>∀N r,a1q (a0d P prim inl N).cbv (a4f θ g) nx k (a1d θ args)=some r->r=b1x θ out:=by
 unfold c3S at h;split at h
 .cases h
 next asq ps h1=>
 split at h
 .cases h
 next bs ks h2=>
 split at h
 .cases h
 next L' hL=>
 have d:=hb K k asq bs L' hL;refine(d.mono (S':=λ θ x=>Sat P R θ K/\d6d P prim inl k asq bs θ x) λ x hx θ hs hS=>⟨hs.le (d.le x hx),hS⟩).bind h λ q hq l hl=> ?_;split at hl
 .cases hl
 next hr=>
 have hr:c6l q.2.1=true:=by simpa using hr
 split at hl;case h_2=>cases hl
 next b hbk=>
 cases hl;obtain⟨gr,kb⟩:=b8r (P:=P) (R:=R) hbk;refine gr.does (Does.one λ θ hs ⟨hs0,hS⟩ N r hcall=> ?_);unfold a1q at hcall;have e1:a0G (a1y 4 (a4f θ g)) ([],[]) (a1d θ args)=some (a1d θ asq,[],ps):=a7t (ι:=λ ps=>(([],ps):List Nat×List Nat)) (f':=a1y 4 (a4f θ g)) (λ s v w s1 h=>d2A h) h1;have e2:=b1o (ms:=[]) hs0 h2;rw[e1]at hcall;simp only[e2]at hcall;split at hcall
 .cases hcall
 split at hcall
 .cases hcall
 next v1 bs1 hc=>
 have hc1:=hS N _ hc;simp only[az8]at hc1;obtain⟨rfl,rfl⟩:=hc1;have e3:=kb θ hs;simp only[c1L]at e3;simp only[a3y,ap8,e3,d2Q (b2K hr)]at hcall;exact(ax8 hcall).symm
abbrev RC(P:Program)(prim:Nat->Option Fp)(inl:Nat->Bool):Rel:=λ k asq v=>∃N,(a0d P prim inl N).cbv k asq []=some (v,[])
def c3u(R:Rel)(b:Nat->Option (List Sh×List Sh)):Prop:=∀k a p,b k=some (a,p)->∀asq,ShL a asq->∃v,R k asq v/\∃s∈p,ShOk s v
def c7h(K:Ks)(k:Nat)(asq:List V):Option V:=K.fs.findSome? λ f=>match f with
 | .call b a v=>if b==k&&c6q a asq then some v else none
 |_=>none
def b6U(b:Nat->Nat)(c:Nat->Option (List Sh×List Sh))(inl:Nat->Bool)(K:Ks)(k:Nat)(args:List V):Option (List (Ks×Out)):=
 if inl k|| !(args.all c1I)then none else match c (b k)with
 |none=>none
 |some (a,p)=>if !(d3e K a args&&(a9f K.n K.m args&&p.all c6u))then none else match c7h K (b k) args with
  |some v=>if c6l v then some [(K,{v:=v})]else none
  |none=>a0D (λ s=>if c6l (a7Q K s).1 then some ((a7Q K s).2.add (.call (b k) args (a7Q K s).1),({v:=(a7Q K s).1}:Out))else none) p
def c4q(R:Rel)(b:Nat->Nat)(c:Nat->Option (List Sh×List Sh)):Prop:=∀k a p asq v,c (b k)=some (a,p)->ShL a asq->R (b k) asq v->R k asq v
theorem b3K(h:args.all c1I=true):∀a∈a1d θ args,pD a:=λ a ha=>by
 grind[a2t,b0p]
theorem c2x(b:args.all c1I=true)(hr:c6l v=true)(hv:RC P prim inl k (a1d θ args) (sub θ v)):∀N r,a1q (a0d P prim inl N).cbv (a4f θ g) nx k (a1d θ args)=some r->r=b1x θ {v:=v}:=by
 intro N r hc;obtain⟨M,hM⟩:=hv;unfold a1q at hc;rw[a2i λ a ha=>c3T (b3K b a ha)]at hc;simp only[a0G]at hc;split at hc
 .cases hc
 split at hc
 .cases hc
 next v1 c h1=>
 have h2:=(a0L (P:=P) (prim:=prim) (inl:=inl) (ar5 N M)).cbv _ _ _ _ h1;have h3:=(a0L (P:=P) (prim:=prim) (inl:=inl) (ar6 N M)).cbv _ _ _ _ hM;rw[h3]at h2;simp only[az0,az8]at h2;obtain⟨rfl,rfl⟩:=h2;simp only[ar8,ao8,a3y,a2s,d2Q (b2K hr)]at hc;grind[b1x,a5M]
theorem a3h{A B:Type}{f:A->Option B}:∀{l:List A} {r:List B},a0D f l=some r->(∀b∈r,∃a∈l,f a=some b)/\∀a∈l,∃b∈r,f a=some b
 |[],r,h=>by
  grind[a0D]
 |a::l,r,h=>by
  simp only[a0D]at h;cases h1:f a with
  |none=>grind
  |some b=>
   cases h2:a0D f l with
   |none=>grind
   |some bs=>simp only[h1,h2,az0]at h;subst h;obtain⟨k1,k2⟩:=a3h h2;grind
theorem b3k{b:Nat->Nat}{l:Nat->Option (List Sh×List Sh)}(u:c4q (RC P prim inl) b l)(w:c3u (RC P prim inl) l)(h:b6U b l inl K k args=some L):
  inl k=false/\Does P (RC P prim inl) K L λ θ out=>∀N r,a1q (a0d P prim inl N).cbv (a4f θ g) nx k (a1d θ args)=some r->r=b1x θ out:=by
 unfold b6U at h;split at h
 .cases h
 next hc=>
 simp only[ay8,ap6,at1,ax2,av7]at hc;obtain⟨hi,n⟩:=hc;refine⟨hi,?_⟩;split at h
 .cases h
 next a p i=>
 split at h
 .cases h
 next hc=>
 simp only[ax2,av7,az6]at hc;obtain⟨j,o,y⟩:=hc;have q:∀{θ v},Sat P (RC P prim inl) θ K->c6l v=true->RC P prim inl (b k) (a1d θ args) (sub θ v)->∀N r,a1q (a0d P prim inl N).cbv (a4f θ g) nx k (a1d θ args)=some r->r=b1x θ {v:=v}:=λ hs hr hv=>c2x n hr (u k a p _ _ i (a8m hs _ _ j) hv);split at h
 .next v hv=>
  split at h
  .next hr=>
   cases h;refine Does.one λ θ hs=>q hs hr ?_;obtain⟨f,hf,h2⟩:=au0 hv;split at h2
   .split at h2
    .next e=>
     simp only[az6,aw5]at e;injection h2 with h2
     subst h2;obtain⟨e1,e2⟩:=e;rw[<-e1,<-a5f _ _ e2];exact hs _ hf
    .cases h2
   .cases h2
  .cases h
 .obtain⟨m1,m2⟩:=a3h h;refine⟨λ x hx=> ?_,λ x hx θ hs=> ?_,λ hw θ hs=> ?_⟩
  .obtain⟨s,t,d⟩:=m1 x hx;split at d
   .cases d;exact(b3m s K).trans a1D
   .cases d
  .obtain⟨s,t,d⟩:=m1 x hx;split at d
   .next hr=>
    cases d;exact q (hs.le ((b3m s K).trans a1D)) hr hs.hd
   .cases d
  .obtain⟨v,v1,s,t,d⟩:=w _ _ _ i (a1d θ args) (a8m hs _ _ j);obtain⟨x,A,z⟩:=m2 s t;split at z
   .cases z;obtain⟨m,c,e,B⟩:=b3B (P:=P) (R:=RC P prim inl) s K θ v (ay5.1 y s t) d hw hs;refine⟨_,A,m,c.trans (Cv.add c.wf c.sat ?_ ?_)⟩
    .simp only[Fact.lt,az6];exact⟨a2e c.n c.m _ o,B⟩
    .show RC P prim inl (b k) (a1d m args) (sub m _);rw[a3J c.agr _ o,e];exact v1
   .cases z
def clD(P:Program)(pr:List Nat)(inl:Nat->Bool)(a:Nat->Nat)(b:Nat->Option (List Sh×List Sh))(ru:List Nat)(m:Nat):Nat->ClF
 |0=>λ K _ _ k args=>b6U a b inl K k args
 |d+1=>λ K g nx k args=>if ru.contains k&& !(inl k)then c3S (λ K k asq bs=>c4g P pr (clD P pr inl a b ru m d) m K k asq bs) K g nx k args else b6U a b inl K k args
theorem c9p{pr:List Nat}{e:Nat->Nat}{a:Nat->Option (List Sh×List Sh)}{ru:List Nat}{m:Nat}(hp:∀k,pr.contains k=false->prim k=none)(b:c4q (RC P prim inl) e a)(c:c3u (RC P prim inl) a):∀d,d2e P (RC P prim inl) prim inl (clD P pr inl e a ru m d)
 |0=>λ K g nx k args L h=>b3k b c h
 |d+1=>λ K g nx k args L h=>by
  simp only[clD]at h;split at h
  .next hc=>
   simp only[az6,ax2]at hc;exact⟨hc.2,c6R (λ K k asq bs L h=>b9b hp (c9p hp b c d) h) h⟩
  .exact b3k b c h
end
end
section
open Go.PV Go.SN
section
variable (P:Program) (cl:ClF)
def c8R(K:Ks)(get:Nat->V)(o:Oper):Bool:=
 match o.op with
 | .binOp _ t _ _ _=>(P.underlying t).isSome
 | .indexAddr t x _=>match ev get x with
   |some (.lit w)=>(match a3Z w,(a2G P t).bind (a1M P)with
    |some j,some sz=>(match d6B K j with
     |some L=>L.all λ q=>q.2.cells.length==sz
     |none=>false)
    |_,_=>false)
   |_=>true
 | .call {callee:= .builtin .append,.. }=>false
 |_=>true
def opT(K:Ks)(get:Nat->V)(g:G)(nx:Nat)(o:Oper):Option (List (Ks×Out)):=
 match o.op with
 | .call {callee:= .value f,args,.. }=>match ev get f,evs get args with
   |some (.fn k a b),some l=>cl K g nx k (a++l++b)
   |_,_=>none
 |_=>if c8R P K get o then opS P K get g nx o else none
def d8V:=c9O (opT P cl)
def d5N:=b6R (opT P cl)
def b7C:=a7X (opT P cl)
def a7f(n:Nat):Code->Ks->St->Option (List (Ks×(Ex×St)))
 | .skip,K,s| .label _,K,s=>some [(K,.normal,s)]
 | .region _ ops false,K,s=>(b7C P cl ops ops.toList K s).map λ L=>L.map λ q=>(q.1,.normal,q.2)
 | .seq a b,K,s=>match a7f n a K s with
   |none=>none
   |some L=>a1f (λ q=>match q.2.1 with
    | .normal=>a7f n b q.1 q.2.2
    |_=>some [q]) L
 | .cond c a b,K,s=>match ev s.get c with
   |some v=>(match c8d K v with
    |some L=>a1f (λ q=>if q.2 then a7f n a q.1 s else a7f n b q.1 s) L
    |none=>none)
   |none=>none
 | .block id b,K,s=>(a7f n b K s).map λ L=>L.map λ q=>(q.1,(match q.2.1 with
   | .exit j=>if j=id then .normal else .exit j
   |x=>x),q.2.2)
 | .loop b,K,s=>b7Q (a7f n b) n K s
 | .scope b,K,s=>a7f n b K s
 | .exit id,K,s=>some [(K,.exit id,s)]
 | .ret,K,s=>some [(K,.ret,s)]
 |_,_,_=>none
end
section
variable {P:Program} {R:Rel} {cl:ClF} {prim:Nat->Option Fp} {inl:Nat->Bool} {K:Ks}
variable {op:BinOp} {x y:Operand} {t:Nat}
theorem d1o{d:TypeDesc}{k:IntKind}{a b:Int}(hd:P.underlying t=some d)(ho:b1H op=true):a3w P op t x y (.lit (.int k a)) (.lit (.int k b))=some (.lit (.bool (a6I op a b))):=by
 cases op<;>first|grind[b1H]|skip
 all_goals
  rw[b8H _ hd (by decide) (by decide)];simp[Go.binOp,Op.intCmp,a0t,a1w,a0Z,sc,a6I];rfl
theorem c9b{a b:V}{L:List (Ks×V)}(ht:(P.underlying t).isSome=true)(h:d4p P K op t x y a b=some L):
  Does P R K L λ θ _=>∃r,a3w P op t x y (sub θ a) (sub θ b)=some r:=by
 obtain⟨d,hd⟩:=at0.1 ht;have cl:∀{L},(if vlt 0 0 a&&vlt 0 0 b then(a3w P op t x y a b).map λ v=>[(K,v)]else none)=some L->Does P R K L λ θ _=>∃r,a3w P op t x y (sub θ a) (sub θ b)=some r:=by
  intro L h;split at h
  .next hc=>
   simp only[az6]at hc;grind[az2,Does.one,a3S]
  .cases h
 unfold d4p at h;simp only at h;split at h
 .next c=>
  split at h
  .next L' hL=>
   injection h with h
   subst h;refine(c2P (P:=P) (R:=R) hL).map (λ b=>V.lit (.bool (d3m (op== .neq) b))) λ q _ θ hs hS=> ?_;obtain⟨k,m,n,e1,e2,e3⟩:=hS;simp_all[d1o]
  .split at h
   .next cs ds=>
    split at h
    .next ho=>
     simp only[az2]at h;obtain⟨L',hL,rfl⟩:=h;refine(c2T (P:=P) (R:=R) hL).map (λ b=>V.lit (.bool (d3m (op== .neq) b))) λ q _ θ hs hS=> ?_;rcases ho with rfl|rfl
     .exact⟨_,(hS x y).1⟩
     .exact⟨_,(hS x y).2⟩
    .cases h
   .exact cl h
 .exact cl h
theorem d0K{s:St}{o:Oper}{L:List (Ks×Out)}(d:c8R P K s.get o=true)(h:opS P K s.get (a0b s.h) s.nx o=some L):
  Does P R K L λ θ _=>∀c:PV.Calls,∃r,opE P c (λ i=>sub θ (s.get i)) (a4f θ (a0b s.h)) s.nx o=some r:=by
 have k:∀{L},((opD P s.get (a0b s.h) s.nx o).map λ r=>[(K,r)])=some L->Does P R K L λ θ _=>∀c:PV.Calls,∃r,opE P c (λ i=>sub θ (s.get i)) (a4f θ (a0b s.h)) s.nx o=some r:=by
  intro L h;simp only[az2]at h;obtain⟨r0,h1,rfl⟩:=h;exact Does.one λ θ _ c=>⟨_,c5l h1 c⟩
 obtain⟨p,op,type,pos,after,guard⟩:=o;unfold opS at h;split at h
 .next c a b ho=>
  simp only at ho;subst ho;split at h
  .next cv av bv h1 h2 h3=>
   simp only[az2]at h;obtain⟨L',hL,rfl⟩:=h;refine(a5L (P:=P) (R:=R) hL).map (λ b=>({v:=if b then av else bv}:Out)) λ q _ θ hs hS cc=> ?_;simp only[opE,Az0,ev_sub,h1,ax0,az1,hS];cases hq:q.2 with
   |true=>simp_all
   |false=>simp_all
  .cases h
 .next t x ho=>
  simp only at ho;subst ho;split at h
  .next v h1=>
   simp only[az2]at h;obtain⟨L',hL,rfl⟩:=h;refine(a5L (P:=P) (R:=R) hL).map (λ b=>({v:= .lit (.bool !b)}:Out)) λ q _ θ hs hS cc=> ?_;simp only[opE,Az0,ev_sub,h1,ax0,az1,hS,a0W,a1b];have e:a0t P (Op.unary .not (.bool q.2))=some (.lit (.bool !q.2)):=rfl;simp_all
  .cases h
 .next op t x y z ho=>
  simp only at ho;subst ho;split at h
  .next a b h1 h2=>
   simp only[az2]at h;obtain⟨L',hL,rfl⟩:=h;refine(c9b (P:=P) (R:=R) d hL).map (λ v=>({v:=v}:Out)) λ q _ θ hs hS cc=> ?_;obtain⟨r,hr⟩:=hS;simp_all[opE,ev_sub]
  .cases h
 .next t x i ho=>
  simp only at ho;subst ho;split at h
  .next w h1=>
   split at h
   .next j hj h2=>
    simp only[c8R,h1,hj]at d;split at d
    .next A sz g l=>
     injection g with g
     subst g;split at d
     .next B f=>
      have:=a2A hj;subst this;simp only[az2]at h;obtain⟨L',hL,rfl⟩:=h;rw[hL]at f;injection f with f
      subst f;refine(c3l (P:=P) (R:=R) hL).map (λ x=>({v:= .dptr x.cells}:Out)) λ q hq θ hs hS cc=> ?_;have e1:ev (λ i=>sub θ (s.get i)) x=some (θ.v j):=by rw[ev_sub,h1];exact an8 some a4m
      have e2:ev (λ i=>sub θ (s.get i)) i=some (.lit (.int .i64 0)):=by rw[ev_sub,h2];exact an8 some (a1k rfl)
      simp only[az3]at l;obtain⟨e,he,hz⟩:=l;have hS:(lst (θ.v j))[0]?=some (sub θ q.2):=hS;have m:(sub θ q.2).cells.length=sz:=by
       rw[a2v,a0U];simpa using ay5.1 d q hq
      simp only[opE,Az0,e1,e2,az1,a2u,he,hz];rcases(θ.d j).1.forms with⟨w,hw⟩|hw|⟨xs,hw⟩
      .rw[hw]at hS;cases hS
      .rw[hw]at hS;cases hS
      simp_all[lst]
     .cases d
    .cases d
   .cases h
  .exact k h
 .next args u ho=>
  simp only at ho;subst ho;split at h
  .next v t h1 h2=>
   simp only[az2]at h;obtain⟨L',hL,rfl⟩:=h;refine(c2m (P:=P) (R:=R) hL).map (λ v=>({v:=v}:Out)) λ q _ θ hs hS cc=> ?_;have e1:evs (λ i=>sub θ (s.get i)) args=some [sub θ v]:=by rw[a6Q,h1];rfl
   simp only[opE,Az0,e1,az1];rcases hS with⟨b,b1,b2,b3⟩|⟨n1,n0,n,n2,n3⟩
   .rw[b2];have e:a0t P (Builtin.len_ u type #[.string b])=some (.lit (.int .i64 b.size)):=by
     simp only[a0t,Builtin.len_,h2,Az0];have e0:(#[Value.string b]:Array Value)[0]?=some (.string b):=rfl;simp only[e0,a0a,a0g b1,az1,a0i,goInt];rfl
    simp_all
   .obtain⟨e,he⟩:=at0.1 n0;simp_all
  .cases h
 .grind[c8R]
 .exact k h
end
end
section
open Go.PV Go.SN
section
variable {P:Program} {R:Rel} {cl:ClF} {prim:Nat->Option Fp} {inl:Nat->Bool} {K:Ks}
variable {A:Type} {L:List (Ks×A)} {S:Th->A->Prop}
theorem Does.and{S':Th->A->Prop}(h:Does P R K L S)(k:Does P R K L S'):Does P R K L λ θ a=>S θ a/\S' θ a:=
 ⟨h.le,λ x hx θ hs=>⟨h.say x hx θ hs,k.say x hx θ hs⟩,h.cov⟩
theorem Does.sat(h:Does P R K L S):Does P R K L λ θ a=>S θ a/\Sat P R θ K:=
 ⟨h.le,λ x hx θ hs=>⟨h.say x hx θ hs,hs.le (h.le x hx)⟩,h.cov⟩
def ClT(P:Program)(R:Rel)(prim:Nat->Option Fp)(inl:Nat->Bool)(cl:ClF):Prop:=∀K g nx k args L,cl K g nx k args=some L->
 inl k=false/\Does P R K L λ θ out=>∃N,a1q (a0d P prim inl N).cbv (a4f θ g) nx k (a1d θ args)=some (b1x θ out)
variable {o:Oper} {s:St}
theorem d4h(hc:ClT P R prim inl cl){L:List (Ks×Out)}(h:opT P cl K s.get (a0b s.h) s.nx o=some L):
  Does P R K L λ θ out=>∃N,a1h P (a0d P prim inl N) o (a1Q θ s)=some (sub θ out.v,{a1Q θ s with h:=a5M θ out.upd++a5M θ s.h,nx:=s.nx+out.cnt}):=by
 unfold opT at h;split at h
 .next f args g ho=>
  split at h
  .next k a b l h1 h2=>
   obtain⟨hi,d⟩:=hc _ _ _ _ _ _ h;refine d.mono λ q _ θ hs ⟨N,hN⟩=>⟨N,?_⟩;have e1:ev (a1Q θ s).get f=some (.fn k (a1d θ a) (a1d θ b)):=by rw[get_sub,ev_sub,h1];simp only[ax0,sub]
   have e2:evs (a1Q θ s).get args=some (a1d θ l):=by rw[get_sub,a6Q,h2];rfl
   have e3:a1F (a0d P prim inl N) (a1Q θ s).get o=some none:=by simp only[a1F,ho,e1,a4G hi]
   have e4:a0b (a1Q θ s).h=a4f θ (a0b s.h):=a5i;have e5:(a1Q θ s).nx=s.nx:=rfl;simp only[a5g]at hN;simp only[a1h,e3,opE,ho,Az0,e2,e1,az1,a4G hi,e4,e5,hN,ax0];rfl
  .cases h
 .next e=>
  split at h
  .next c=>
   refine((c9n (P:=P) (R:=R) h).and (d0K (P:=P) (R:=R) c h)).mono λ q _ θ hs ⟨hS,hT⟩=>⟨0,?_⟩;have e3:a1F (a0d P prim inl 0) (a1Q θ s).get o=some none:=by
    unfold a1F;split
    .next f args g ho=>exact absurd ho (e _ _ _)
    .rfl
   obtain⟨r,hr⟩:=hT (a0d P prim inl 0);have hq:=hS _ r hr;have e4:a0b (a1Q θ s).h=a4f θ (a0b s.h):=a5i;have e5:(a1Q θ s).nx=s.nx:=rfl;unfold a1h;rw[e3];simp only[get_sub,e4,e5,hr,ax0,hq];rfl
  .cases h
theorem c6c(hc:ClT P R prim inl cl){L:List (Ks×St)}(h:d8V P cl K s o=some L):
  Does P R K L λ θ a=>∃N r,a1h P (a0d P prim inl N) o (a1Q θ s)=some r/\a2H r.2 o.dst r.1=a1Q θ a:=by
 unfold d8V c9O at h;simp only[az2]at h;obtain⟨L',hL,rfl⟩:=h;refine(d4h (P:=P) (R:=R) hc hL).map (fun(q:Out)=>a2H {s with h:=q.upd++s.h,nx:=s.nx+q.cnt} o.dst q.v) λ q _ θ hs ⟨N,hN⟩=>⟨N,_,hN,?_⟩;rw[<-b2R];simp only[a1Q,b0J]
def d8D(P:Program)(prim:Nat->Option Fp)(inl:Nat->Bool)(ops:Array Oper)(o:Oper)(s:St)(θ:Th)(a:St):Prop:=∃N,a0v P (a0d P prim inl N) ops o (a1Q θ s)=some (a1Q θ a)
variable {ops:Array Oper} {a:St} {θ:Th}
theorem c3s(hw:a0V ops o (a1Q θ s).get=true)(h:∃N r,a1h P (a0d P prim inl N) o (a1Q θ s)=some r/\a2H r.2 o.dst r.1=a1Q θ a):d8D P prim inl ops o s θ a:=by
 obtain⟨N,r,h1,h2⟩:=h;refine⟨N,?_⟩;unfold a0v;rw[ax3 hw,h1,<-h2];rfl
theorem b3e(hw:a0V ops o (a1Q θ s).get=false)(h:a2H (a1Q θ s) o.dst .und=a1Q θ a):d8D P prim inl ops o s θ a:=by
 refine⟨0,?_⟩;unfold a0v;rw[ay9 (by grind),h]
theorem c7O(hc:ClT P R prim inl cl){L:List (Ks×St)}(h:d5N P cl ops o K s=some L):Does P R K L (d8D P prim inl ops o s):=by
 unfold d5N b6R at h;split at h
 .next hg=>exact(c6c (P:=P) (R:=R) hc h).mono λ q _ θ _ hS=>c3s (by simp only[a0V,hg]) hS
 .next j b hg=>
  split at h
  .next hd=>
   cases h;exact(a6h (P:=P) (R:=R)).mono λ q _ θ _ hS=>b3e (by simp only[a0V,hg,hd]) hS
  .next d hd=>
   split at h
   .split at h
    .next L' hL=>
     refine(a5L (P:=P) (R:=R) hL).bind h λ q hq l hl=> ?_;have hw:∀θ,sub θ (s.get d)= .lit (.bool q.2)->a0V ops o (a1Q θ s).get=(q.2==b):=λ θ e=>by simp only[a0V,hg,hd,get_sub,e]
     split at hl
     .next e=>exact(c6c (P:=P) (R:=R) hc hl).mono λ q _ θ _ hS hb=>c3s ((hw θ hb).trans e) hS
     .next e=>
      cases hl;have e:(q.2==b)=false:=by simpa using e
      exact(a6h (P:=P) (R:=R)).mono λ q _ θ _ hS hb=>b3e ((hw θ hb).trans e) hS
    .cases h
   .next hl=>
    cases h;refine(a6h (P:=P) (R:=R)).mono λ q _ θ _ hS=>b3e ?_ hS;simp only[a0V,hg,hd,get_sub];cases e:s.get d with
    |lit w=>rw[e]at hl;exact absurd rfl hl
    |_=>simp only[sub]
theorem b1N(hc:ClT P R prim inl cl){ops:Array Oper}:∀{l:List Oper} {K:Ks} {s:St} {L:List (Ks×St)},b7C P cl ops l K s=some L->Does P R K L λ θ a=>∃N,a0I P (a0d P prim inl N) ops l (a1Q θ s)=some (a1Q θ a)
 |[],K,s,L,h=>by
  cases h;exact Does.one λ θ _=>⟨0,rfl⟩
 |o::l,K,s,L,h=>by
  simp only[b7C,a8I]at h;split at h
  .cases h
  .next L' hL=>
   refine(c7O (P:=P) (R:=R) hc hL).bind h λ q hq l' hl=> ?_;refine(b1N hc hl).mono λ z _ θ hs ⟨N,hN⟩ ⟨M,hM⟩=>⟨max N M,?_⟩;have h1:=a4p (a0L (P:=P) (prim:=prim) (inl:=inl) (ar6 N M)) hM;have h2:=a4q (a0L (P:=P) (prim:=prim) (inl:=inl) (ar5 N M)) hN;simp only[a0I,h1,h2]
def d4W(P:Program)(prim:Nat->Option Fp)(inl:Nat->Bool)(c:Code)(s:St)(θ:Th)(q:Ex×St):Prop:=∃N,a0e P (a0d P prim inl N) N c (a1Q θ s)=some (q.1,a1Q θ q.2)
theorem a5K{N M:Nat}(h:N<=M){c:Code}{r:Ex×St}(e:a0e P (a0d P prim inl N) N c s=some r):a0e P (a0d P prim inl M) M c s=some r:=a3f (a0L h) h e
theorem b8u{f:Ks->St->Option (List (Ks×(Ex×St)))}{c:Code}(hf:∀K s L,f K s=some L->Does P R K L (d4W P prim inl c s)):∀{m:Nat} {K:Ks} {s:St} {L:List (Ks×(Ex×St))},b7Q f m K s=some L->Does P R K L λ θ q=>∃N i,iter (a0e P (a0d P prim inl N) N c) i (a1Q θ s)=some (q.1,a1Q θ q.2)
 |0,K,s,L,h=>by cases h
 |m+1,K,s,L,h=>by
  simp only[b7Q]at h;split at h
  .cases h
  .next L' hL=>
   refine(hf K s L' hL).bind h λ q hq l hl=> ?_;obtain⟨K',x,a⟩:=q;have out:x≠ .normal->l=[(K',x,a)]->Does P R K' l λ θ q=>d4W P prim inl c s θ (x,a)->∃N i,iter (a0e P (a0d P prim inl N) N c) i (a1Q θ s)=some (q.1,a1Q θ q.2):=by
    rintro hx rfl;refine Does.one λ θ _ ⟨N,hN⟩=>⟨N,1,?_⟩;simp only[iter,hN];cases x with
    |normal=>grind
    |_=>rfl
   cases x with
   |normal=>refine(b8u hf hl).mono λ z _ θ hs ⟨N,i,hN⟩ ⟨M,hM⟩=>⟨max N M,i+1,?_⟩;have h1:=a5K (ar6 N M) hM;have h2:=a4d (λ s r h=>a5K (P:=P) (prim:=prim) (inl:=inl) (c:=c) (ar5 N M) h) (ay3 i) hN;grind[iter]
   |exit j=>grind
   |ret=>grind
variable {m:Nat}
theorem c8F(hc:ClT P R prim inl cl):∀{c:Code} {K:Ks} {s:St} {L:List (Ks×(Ex×St))},a7f P cl m c K s=some L->Does P R K L (d4W P prim inl c s):=by
 intro c;induction c with
 |skip=>intro K s L h;cases h;exact Does.one λ θ _=>⟨0,rfl⟩
 |label i=>intro K s L h;cases h;exact Does.one λ θ _=>⟨0,rfl⟩
 |region i ops d=>
  intro K s L h;cases d with
  |true=>cases h
  |false=>simp only[a7f,az2]at h;obtain⟨L',hL,rfl⟩:=h;refine(b1N (P:=P) (R:=R) hc hL).map (λ s=>((.normal,s):Ex×St)) λ q _ θ _ ⟨N,hN⟩=>⟨N,?_⟩;grind[a0e]
 |seq a b f g=>
  intro K s L h;simp only[a7f]at h;split at h
  .cases h
  .next L' hL=>
   refine(f hL).bind h λ q hq l hl=> ?_;obtain⟨K',x,n⟩:=q;have out:x≠ .normal->l=[(K',x,n)]->Does P R K' l λ θ q=>d4W P prim inl a s θ (x,n)->d4W P prim inl (.seq a b) s θ q:=by
    rintro hx rfl;refine Does.one λ θ _ ⟨N,hN⟩=>⟨N,?_⟩;simp only[a0e,hN];cases x with
    |normal=>grind
    |_=>rfl
   cases x with
   |normal=>refine(g hl).mono λ z _ θ hs ⟨N,hN⟩ ⟨M,hM⟩=>⟨max N M,?_⟩;grind[a5K,ar6,a0e]
   |exit j=>grind
   |ret=>grind
 |cond c a b f g=>
  intro K s L h;simp only[a7f]at h;split at h
  .next v hv=>
   split at h
   .next L' hL=>
    refine(a5L (P:=P) (R:=R) hL).bind h λ q hq l hl=> ?_;have e:∀θ,sub θ v= .lit (.bool q.2)->ev (a1Q θ s).get c=some (.lit (.bool q.2)):=λ θ e=>by rw[get_sub,ev_sub,hv,ax0,e]
    cases k:q.2 with
    |true=>rw[k]at hl e;simp only[aw4]at hl;refine(f hl).mono λ z _ θ hs ⟨N,hN⟩ hb=>⟨N,?_⟩;simp_all[a0e]
    |false=>rw[k]at hl e;simp only[ay6,av8]at hl;refine(g hl).mono λ z _ θ hs ⟨N,hN⟩ hb=>⟨N,?_⟩;simp_all[a0e]
   .cases h
  .cases h
 |block id b ih=>
  intro K s L h;simp only[a7f,az2]at h;obtain⟨L',hL,rfl⟩:=h;refine(ih hL).map (fun(q:Ex×St)=>((match q.1 with
   | .exit j=>if j=id then .normal else .exit j
   |x=>x,q.2):Ex×St)) λ q _ θ _ ⟨N,hN⟩=>⟨N,?_⟩
  grind[a0e]
 |loop b ih=>intro K s L h;simp only[a7f]at h;refine(b8u (P:=P) (R:=R) (λ K s L h=>ih h) h).mono λ q _ θ _ ⟨N,i,hN⟩=>⟨max N i,?_⟩;grind[a0e,a4d,a5K,ar6]
 |scope b ih=>intro K s L h;simp only[a7f]at h;refine(ih h).mono λ q _ θ _ ⟨N,hN⟩=>⟨N,?_⟩;grind[a0e]
 |exit id=>intro K s L h;cases h;exact Does.one λ θ _=>⟨0,rfl⟩
 |ret=>intro K s L h;cases h;exact Does.one λ θ _=>⟨0,rfl⟩
 |_=>intro K s L h;cases h
def d3A(R:Rel)(tot:Nat->Option (List Sh)):Prop:=∀k a,tot k=some a->∀asq,ShL a asq->∃v,R k asq v
def clT(P:Program)(pr:List Nat)(inl:Nat->Bool)(b:Nat->Nat)(c:Nat->Option (List Sh×List Sh))(ru:List Nat)(tot:Nat->Option (List Sh))(m d:Nat):ClF:=λ K g nx k args=>
 if ru.contains k&& !(inl k)then match tot k with
  |some a=>if d3e K a args&&args.all c1I then c3S (λ K k asq bs=>c4g P pr (clD P pr inl b c ru m d) m K k asq bs) K g nx k args else none
  |none=>none
 else b6U b c inl K k args
theorem b2G:∀{args:List V} {ps:List Nat},args.all c1I=true->a0G d3h ps args=some (args,ps)
 |[],_,_=>rfl
 |a::l,ps,h=>by
  simp only[Az3,az6]at h;have e:d3h ps a=some (a,ps):=by
   unfold d3h;split
   .simp[c1I,d0o]at h
   .grind
  simp only[a0G,e,b2G h.2]
variable {k:Nat}
theorem c4F{b:Nat->Nat}{c:Nat->Option (List Sh×List Sh)}(i:c4q (RC P prim inl) b c)(n:c3u (RC P prim inl) c){g:G}{nx:Nat}{args:List V}{L:List (Ks×Out)}(h:b6U b c inl K k args=some L):
  inl k=false/\Does P (RC P prim inl) K L λ θ out=>∃N,a1q (a0d P prim inl N).cbv (a4f θ g) nx k (a1d θ args)=some (b1x θ out):=by
 obtain⟨hi,d⟩:=b3k (prim:=prim) (g:=g) (nx:=nx) i n h;refine⟨hi,d.le,λ x hx θ hs=> ?_,d.cov⟩;unfold b6U at h;split at h
 .cases h
 next hc=>
 simp only[ay8,ap6,at1,ax2,av7]at hc;split at h
 .cases h
 next a p j=>
 split at h
 .cases h
 next l=>
 simp only[ax2,av7,az6]at l;have o:=hs.le (d.le x hx);have m:∀v,c6l v=true->RC P prim inl (b k) (a1d θ args) (sub θ v)->∃N,a1q (a0d P prim inl N).cbv (a4f θ g) nx k (a1d θ args)=some (b1x θ {v:=v}):=λ v hr hv=>by
  obtain⟨N,hN⟩:=i k a p _ _ j (a8m o _ _ l.1) hv;exact⟨N,b1v (b3K hc.2) hN (b2K hr)⟩
 split at h
 .next v hv=>
  split at h
  .next hr=>
   cases h;rw[az7.1 hx]at hs|-;refine m v hr ?_;obtain⟨f,hf,h2⟩:=au0 hv;split at h2
   .split at h2
    .next e=>
     simp only[az6,aw5]at e;injection h2 with h2
     subst h2;obtain⟨e1,e2⟩:=e;rw[<-e1,<-a5f _ _ e2];exact hs _ hf
    .cases h2
   .cases h2
  .cases h
 .obtain⟨m1,m2⟩:=a3h h;obtain⟨s,r,q⟩:=m1 x hx;split at q
  .next hr=>
   cases q;exact m _ hr hs.hd
  .cases q
theorem c3g{pr:List Nat}{ali:Nat->Nat}{orc:Nat->Option (List Sh×List Sh)}{ru:List Nat}{tot:Nat->Option (List Sh)}{d:Nat}(hp:∀k,pr.contains k=false->prim k=none)(hal:c4q (RC P prim inl) ali orc)(hor:c3u (RC P prim inl) orc)(htot:d3A (RC P prim inl) tot):ClT P (RC P prim inl) prim inl (clT P pr inl ali orc ru tot m d):=by
 intro K g nx k args L h;unfold clT at h;split at h
 .next hc=>
  simp only[az6,ax2]at hc;split at h;case h_2=>cases h
  next a ha=>
  split at h;case isFalse=>cases h
  next hfit=>
  simp only[az6]at hfit;have hb:∀K k asq bs L,c4g P pr (clD P pr inl ali orc ru m d) m K k asq bs=some L->Does P (RC P prim inl) K L (d6d P prim inl k asq bs):=λ K k asq bs L h=>b9b hp (c9p hp hal hor d) h;refine⟨hc.2,?_⟩;unfold c3S at h;rw[b2G hfit.2]at h;simp only[a0G]at h;split at h
  .cases h
  next L' hL=>
  refine((hb _ _ _ _ _ hL).sat).bind h λ q hq l hl=> ?_;split at hl
  .cases hl
  next hr=>
  have hr:c6l q.2.1=true:=by simpa using hr
  split at hl;case h_2=>cases hl
  next b hbk=>
  cases hl;cases hq2:q.2.2 with
  |cons x r=>rw[hq2]at hbk;cases hbk
  |nil=>
   rw[hq2]at hbk;injection hbk with hbk
   subst hbk;refine Does.one λ θ hs ⟨hS,hs0⟩=> ?_;obtain⟨v,N,hN⟩:=htot k a ha (a1d θ args) (a8m hs0 _ _ hfit.1);have h1:=hS N _ hN;simp only[hq2,ar8,az8,ao0]at h1;subst h1;refine⟨N,?_⟩;rw[b1v (b3K hfit.2) hN (b2K hr)];simp[b1x,a5M]
 .exact c4F hal hor h
def c3A:V->Bool
 | .lit (.bool true)=>true
 |_=>false
def d7V(P:Program)(cl:ClF)(m:Nat)(K:Ks)(k:Nat)(asq:List V):Bool:=match P.funcs[k]? with
 |none=>false
 |some fn=>match fn.body with
  |none=>false
  |some c=>decide (max asq.length fn.ntmps<=256)&&(match fKS K {env:=a0u asq 0 .leaf,h:=[],nx:=0,sz:=max asq.length fn.ntmps} (a7f P cl m c)with
   |none=>false
   |some L=>L.all λ q=>(match q.2.1 with
    | .exit _=>false
    |_=>true)&&(b9g fn q.2.2&&match a0m P fn q.2.2 with
     |some v=>c3A v
     |none=>false))
theorem c3y{v:V}(h:c3A v=true):v= .lit (.bool true):=by
 grind[c3A]
theorem d0z(hp:prim k=none)(ho:d1T k=false)(hc:ClT P (RC P prim inl) prim inl cl){asq:List V}(h:d7V P cl m K k asq=true)(hw:WF K)(hs:Sat P (RC P prim inl) θ K)(hlt:a9f K.n K.m asq=true):∃N,(a0d P prim inl N).cbv k (a1d θ asq) []=some (.lit (.bool true),[]):=by
 unfold d7V at h;split at h
 .cases h
 next fn hfn=>
 split at h
 .cases h
 next c hb=>
 simp only[az6,ay2]at h;obtain⟨hsz,h⟩:=h;rw[c9C]at h;split at h
 .cases h
 next L hL=>
 have d:=c8F (P:=P) (R:=RC P prim inl) hc hL;obtain⟨x,hx,θ',cv⟩:=d.cov hw θ hs;have hx2:=ay5.1 h x hx;simp only[az6]at hx2;obtain⟨hex,hsrc,hres⟩:=hx2;split at hres;case h_2=>cases hres
 next v hv=>
 have hv1:=c3y hres;subst hv1;obtain⟨N,hN⟩:=d.say x hx θ' cv.sat
 have e1:a1Q θ' {env:=a0u asq 0 .leaf,h:=[],nx:=0,sz:=max asq.length fn.ntmps}={env:=a0u (a1d θ asq) 0 .leaf,h:=[],nx:=0,sz:=max (a1d θ asq).length fn.ntmps}:=by
  rw[<-a3J cv.agr asq hlt];simp only[a1Q,a0U];rw[<-a7a];rfl
 rw[e1]at hN;have e2:=a8w (θ:=θ') hsrc hv;rw[a1k rfl]at e2;have hbody:a1j P (a0d P prim inl N) N k (a1d θ asq) [] 0=some (.lit (.bool true),a1Q θ' x.2.2):=by
  unfold a1j;simp only[Az0,hfn,az1,hb,a0U];simp only[a0U]at hN;rw[ay9 (by omega),hN];simp only[az1];cases hq:x.2.1 with
  |exit j=>grind
  |normal=>grind
  |ret=>grind
 refine⟨N+1,?_⟩;simp only[a0d,hp,a0w,List.length_nil,am3,a0G,hbody,Az0,az1,b1O ho (d0n (b9J a9t))];rfl
end
end
section
open Go.PV Go.SN
inductive Ar where
 |cell (d:TD)
 |agg (l:List TD)
def Ar.sh:Ar->Sh
 | .cell d=> .td d
 | .agg l=> .agg (l.map .td)
def sy1(i:Nat)(e:LE):Option Sy:=match e with
 |⟨0,[(s,1)]⟩=>if s.id=i then some s else none
 |_=>none
def b4Y(i:Nat):TD->AV->Option (List Sy)
 | .int k lo hi,.int a e=>match sy1 i e with
   |some s=>if k=a/\s.lo<=lo/\hi<=s.hi then some [s]else none
   |none=>none
 | .str hi,.str e=>match sy1 i e with
   |some s=>if s.lo<=0/\hi<=s.hi then some [s]else none
   |none=>none
 | .sl r hi d,.dat b e c=>match sy1 i e with
   |some s=>if s.lo<=0/\hi<=s.hi/\TD.le (.sl r hi d) (.sl b hi c)=true then some [s]else none
   |none=>none
 | .bool,.bool .unk=>some []
 |_,_=>none
def b3r(i:Nat):List TD->List AV->Option (List Sy)
 |[],[]=>some []
 |d::r,a::b=>match b4Y i d a with
  |some l=>match b3r (i+l.length) r b with
   |some l'=>some (l++l')
   |none=>none
  |none=>none
 |_,_=>none
def d1W(i:Nat):Ar->AV->Option (List Sy)
 | .cell d,a=>b4Y i d a
 | .agg l,.agg l'=>b3r i l l'
 |_,_=>none
def b2N(i:Nat):List Ar->List AV->Option (List Sy)
 |[],[]=>some []
 |d::r,a::b=>match d1W i d a with
  |some l=>match b2N (i+l.length) r b with
   |some l'=>some (l++l')
   |none=>none
  |none=>none
 |_,_=>none
def d3Q:TD->V->List Int
 | .int _ _ _,.lit (.int _ n)=>[n]
 | .str _,.lit (.string b)=>[b.size]
 | .sl _ _ _,v=>[(lst v).length]
 |_,_=>[]
def d3c:List TD->List V->List Int
 |d::r,v::vs=>d3Q d v++d3c r vs
 |_,_=>[]
def d6M:Ar->V->List Int
 | .cell d,v=>d3Q d v
 | .agg l,.agg cs=>d3c l cs
 |_,_=>[]
def b3X:List Ar->List V->List Int
 |d::r,v::vs=>d6M d v++b3X r vs
 |_,_=>[]
section
variable {ρ:Nat->Int} {n:Nat}
variable {i:Nat} {s:Sy}
theorem b2y{e:LE}(h:sy1 i e=some s):s.id=i/\e=⟨0,[(s,1)]⟩:=by
 unfold sy1 at h;grind
theorem ev1:LE.ev ρ ⟨0,[(s,1)]⟩=ρ s.id:=by simp[LE.ev,tsv]
theorem ok1(h:s.ok ρ n):LE.ok ρ n ⟨0,[(s,1)]⟩:=λ p hp=>by grind
def Vals(ρ:Nat->Int)(i:Nat)(l:List Sy)(vs:List Int):Prop:=l.length=vs.length/\∀(j:Nat) (s:Sy) (x:Int),l[j]?=some s->vs[j]?=some x->s.id=i+j/\s.lo<=x/\x<=s.hi
variable {l:List Sy}
theorem Vals.append{l':List Sy}{vs a:List Int}(h:Vals ρ i l vs)(k:Vals ρ (i+l.length) l' a):Vals ρ i (l++l') (vs++a):=by
 refine⟨by simp[h.1,k.1],λ j s x hs hx=> ?_⟩;by_cases hj:j<l.length
 .rw[aw1 hj]at hs;rw[aw1 (by rw[<-h.1];exact hj)]at hx;exact h.2 j s x hs hx
 .rw[av3 (by omega)]at hs;rw[av3 (by rw[<-h.1];omega),<-h.1]at hx;have:=k.2 _ s x hs hx;grind
theorem Vals.one{x:Int}(h:s.id=i)(h1:s.lo<=x)(h2:x<=s.hi):Vals ρ i [s] [x]:=⟨rfl,λ j a b hs hx=>by
 grind⟩
variable {a:AV} {d:TD} {v:V}
theorem a6o(h:b4Y i d a=some l)(hv:InD g0 N0 d v):Vals ρ i l (d3Q d v):=by
 unfold b4Y at h;split at h
 .split at h
  .next s hs=>
   split at h
   .next hc=>
    cases h;cases hv with
    |int h1 h2=>exact Vals.one (b2y hs).1 (by omega) (by omega)
   .cases h
  .cases h
 .split at h
  .next s hs=>
   split at h
   .next hc=>
    cases h;cases hv with
    |str h1=>exact Vals.one (b2y hs).1 (by omega) (by omega)
   .cases h
  .cases h
 .split at h
  .next s hs=>
   split at h
   .next hc=>
    cases h;have:=(c3Z hv).2.1;exact Vals.one (b2y hs).1 (by omega) (by omega)
   .cases h
  .cases h
 .cases h;cases hv with
  |bool=>exact⟨rfl,λ j s x hs=>by simp at hs⟩
 .cases h
theorem b2i:∀{l:List TD} {xa:List AV} {i:Nat} {r:List Sy} {vs:List V},b3r i l xa=some r->l.length=vs.length->(∀(j:Nat) (d:TD) (c:V),l[j]?=some d->vs[j]?=some c->InD g0 N0 d c)->Vals ρ i r (d3c l vs)
 |[],[],i,r,vs,h,_,_=>by
  simp only[b3r,az0]at h;subst h;cases vs<;>exact⟨rfl,λ j s x hs=>by simp at hs⟩
 |[],_::_,_,_,_,h,_,_=>by cases h
 |_::_,[],_,_,_,h,_,_=>by cases h
 |d::l,a::xa,i,r,[],h,hl,_=>by cases hl
 |d::l,a::xa,i,r,v::vs,h,hl,hv=>by
  simp only[b3r]at h;cases h1:b4Y i d a with
  |none=>grind
  |some q=>
   cases h2:b3r (i+q.length) l xa with
   |none=>grind
   |some b=>simp only[h1,h2,az0]at h;subst h;exact(a6o h1 (hv 0 d v rfl rfl)).append (b2i h2 (by grind) λ j d c hd hc=>hv (j+1) d c (by grind) (by grind))
theorem b7J{l:List TD}(h:ShOk (.agg (l.map .td)) v):∃cs,v= .agg cs/\l.length=cs.length/\∀(j:Nat) (d:TD) (c:V),l[j]?=some d->cs[j]?=some c->InD g0 N0 d c:=by
 cases h with
 |agg h1 h2=>
  refine⟨_,rfl,by grind,λ j d c hd hc=> ?_⟩;cases h2 j (.td d) c (by grind) hc with
  |td h=>exact h
theorem b6y{d:Ar}(h:d1W i d a=some l)(hv:ShOk d.sh v):Vals ρ i l (d6M d v):=by
 cases d with
 |cell d=>cases hv with|td hv=>exact a6o h hv
 |agg ds=>
  cases a<;>first|grind[d1W]|skip
  obtain⟨cs,rfl,h1,h2⟩:=b7J hv;exact b2i h h1 h2
theorem b2m:∀{l:List Ar} {xa:List AV} {i:Nat} {r:List Sy} {vs:List V},b2N i l xa=some r->ShL (l.map Ar.sh) vs->Vals ρ i r (b3X l vs)
 |[],[],i,r,vs,h,hv=>by
  simp only[b2N,az0]at h;subst h;cases vs<;>exact⟨rfl,λ j s x hs=>by simp at hs⟩
 |[],_::_,_,_,_,h,_=>by cases h
 |_::_,[],_,_,_,h,_=>by cases h
 |d::l,a::xa,i,r,[],h,hv=>by cases hv.1
 |d::l,a::xa,i,r,v::vs,h,hv=>by
  simp only[b2N]at h;obtain⟨b,c⟩:=ShL.cons.1 hv;cases h1:d1W i d a with
  |none=>grind
  |some q=>
   cases h2:b2N (i+q.length) l xa with
   |none=>grind
   |some e=>simp only[h1,h2,az0]at h;subst h;exact(b6y h1 b).append (b2m h2 c)
def Goes'(ρ:Nat->Int)(i:Nat)(vs:List Int):Prop:=∀(j:Nat) (x:Int),vs[j]?=some x->ρ (i+j)=x
variable {b:List Int}
theorem Goes'.left{a:List Int}(h:Goes' ρ i (a++b)):Goes' ρ i a:=λ j x hx=>h j x (by grind)
theorem Goes'.right{a:List Int}(h:Goes' ρ i (a++b)):Goes' ρ (i+a.length) b:=λ j x hx=>by
 rw[at7];exact h _ x (by grind)
variable {Γ:Gm}
theorem b9D(h:b4Y i d a=some l)(hv:InD g0 N0 d v)(hg:Goes' Γ.ρ i (d3Q d v))(hn:i+l.length<=Γ.n):In Γ a v:=by
 have c:=a6o (ρ:=Γ.ρ) h hv;unfold b4Y at h;split at h
 .split at h
  .next s hs=>
   split at h
   .next hc=>
    cases h;obtain⟨e1,rfl⟩:=b2y hs;obtain⟨rfl,_,_⟩:=hc;cases hv with
    | @int _ _ _ _ _ m h1 h2=>have e2:=hg 0 m rfl;have e3:=(c.2 0 s m rfl rfl).2;simp only[ao9,ap1]at hn e2;exact .int (ok1 ⟨by omega,by grind,by grind⟩) (by rw[ev1,e1,e2])
   .cases h
  .cases h
 .split at h
  .next s hs=>
   split at h
   .next hc=>
    cases h;obtain⟨e1,rfl⟩:=b2y hs;cases hv with
    | @str _ _ _ b h1=>have e2:=hg 0 b.size rfl;have e3:=(c.2 0 s b.size rfl rfl).2;simp only[ao9,ap1]at hn e2;exact .str (ok1 ⟨by omega,by grind,by grind⟩) (by rw[ev1,e1,e2])
   .cases h
  .cases h
 .split at h
  .next s hs=>
   split at h
   .next hc=>
    cases h;obtain⟨e1,rfl⟩:=b2y hs;obtain⟨h1,h2,h3⟩:=c3Z hv;have e2:=hg 0 (lst v).length rfl;have e3:=(c.2 0 s (lst v).length rfl rfl).2;simp only[ao9,ap1]at hn e2;exact .dat (ok1 ⟨by omega,by grind,by grind⟩) ((hv.le hc.2.2).zero) h1 (by rw[ev1,e1,e2])
   .cases h
  .cases h
 .cases hv with|bool=>exact .bool av5 av5
 .cases h
theorem b8X{Γ:Gm}:∀{l:List TD} {xa:List AV} {i:Nat} {r:List Sy} {vs:List V},b3r i l xa=some r->l.length=vs.length->(∀(j:Nat) (d:TD) (c:V),l[j]?=some d->vs[j]?=some c->InD g0 N0 d c)->Goes' Γ.ρ i (d3c l vs)->i+r.length<=Γ.n->InL Γ xa vs
 |[],[],i,r,vs,h,hl,_,_,_=>by
  have:vs=[]:=ay7.1 hl.symm;subst this;exact⟨rfl,λ j a c ha=>by simp at ha⟩
 |[],_::_,_,_,_,h,_,_,_,_=>by cases h
 |_::_,[],_,_,_,h,_,_,_,_=>by cases h
 |d::l,a::xa,i,r,[],h,hl,_,_,_=>by cases hl
 |d::l,a::xa,i,r,v::vs,h,hl,hv,hg,hn=>by
  simp only[b3r]at h;cases h1:b4Y i d a with
  |none=>grind
  |some q=>
   cases h2:b3r (i+q.length) l xa with
   |none=>grind
   |some b=>
    simp only[h1,h2,az0]at h;subst h;rw[ar0]at hn;have hq:=(a6o (ρ:=Γ.ρ) h1 (hv 0 d v rfl rfl)).1;have hg:Goes' Γ.ρ i (d3Q d v++d3c l vs):=hg;have i1:=b9D h1 (hv 0 d v rfl rfl) hg.left (by omega);have i2:=b8X h2 (by simpa using hl) (λ j d c hd hc=>hv (j+1) d c (by grind) (by grind)) (by rw[hq];exact hg.right) (by omega);refine⟨by simp[i2.1],λ j x c hx hc=> ?_⟩;cases j with
    |zero=>grind
    |succ j=>exact i2.2 j x c (by grind) (by grind)
theorem d2P{d:Ar}(h:d1W i d a=some l)(hv:ShOk d.sh v)(hg:Goes' Γ.ρ i (d6M d v))(hn:i+l.length<=Γ.n):In Γ a v:=by
 cases d with
 |cell d=>cases hv with|td hv=>exact b9D h hv hg hn
 |agg ds=>
  cases a<;>first|grind[d1W]|skip
  obtain⟨cs,rfl,h1,h2⟩:=b7J hv;have:=b8X h h1 h2 hg hn;exact .agg this.1 this.2
theorem b8k{Γ:Gm}:∀{l:List Ar} {xa:List AV} {i:Nat} {r:List Sy} {vs:List V},b2N i l xa=some r->ShL (l.map Ar.sh) vs->Goes' Γ.ρ i (b3X l vs)->i+r.length<=Γ.n->InL Γ xa vs
 |[],[],i,r,vs,h,hv,_,_=>by
  have:vs=[]:=ay7.1 hv.1.symm;subst this;exact⟨rfl,λ j a c ha=>by simp at ha⟩
 |[],_::_,_,_,_,h,_,_,_=>by cases h
 |_::_,[],_,_,_,h,_,_,_=>by cases h
 |d::l,a::xa,i,r,[],h,hv,_,_=>by cases hv.1
 |d::l,a::xa,i,r,v::vs,h,hv,hg,hn=>by
  simp only[b2N]at h;obtain⟨b,e⟩:=ShL.cons.1 hv;cases h1:d1W i d a with
  |none=>grind
  |some q=>
   cases h2:b2N (i+q.length) l xa with
   |none=>grind
   |some f=>
    simp only[h1,h2,az0]at h;subst h;rw[ar0]at hn;have hq:=(b6y (ρ:=Γ.ρ) h1 b).1;have hg:Goes' Γ.ρ i (d6M d v++b3X l vs):=hg;have i1:=d2P h1 b hg.left (by omega);have i2:=b8k h2 e (by rw[hq];exact hg.right) (by omega);refine⟨by simp[i2.1],λ j x c hx hc=> ?_⟩;cases j with
    |zero=>grind
    |succ j=>exact i2.2 j x c (by grind) (by grind)
end
def d7d(c:SumA)(xa:List Ar):Bool:=decide (c.boxes.length=0)&&(decide (c.cs=[])&&(c.posts.all λ p=>p.boxes.isEmpty)&&match b2N 0 xa c.args with
 |some l=>decide (c.syms=l)&&decide (c.n=l.length)
 |none=>false)
def hiE(e:LE):Int:= -(e.neg.min)
def d6n:Sh->Ce->List LE->Bool
 | .td (.int k lo hi),.av (.int a e),_=>k==a&&(decide (lo<=e.min)&&decide (hiE e<=hi))
 | .td (.str hi),.av (.str e),_| .td (.str hi),.av (.has e),_=>decide (hiE e<=hi)
 | .td (.sl _ hi d),.av (.dat _ e f),_=>decide (hiE e<=hi)&&f.le d
 | .ne (.sl _ hi d),.av (.dat _ e f),cs=>decide (hiE e<=hi)&&(f.le d&&cs.any λ g=>decide (g=e.addc (-1)))
 | .td .bool,.av (.bool _),_=>true
 | .nils,.av .nils,_=>true
 | .td (.sl _ hi _),.av .nils,_=>decide (0<=hi)
 | .lit (.int k n),.av (.int a e),_=>k==a&&decide (e=⟨n,[]⟩)
 | .lit (.string b),.av (.str e),_=>decide (e=⟨0,[]⟩)&&decide (b.data.toList=[])
 | .lit (.bool b),.av (.bool (.c b')),_=>b==b'
 |_,_,_=>false
def d6l(cs:List LE):List Sh->List Ce->Bool
 |[],[]=>true
 |s::r,c::a=>d6n s c cs&&d6l cs r a
 |_,_=>false
def d6H(cs:List LE):Sh->Pa->Bool
 | .agg l,.agg l'=>d6l cs l l'
 |s,.ce c=>d6n s c cs
 |_,_=>false
def c7a(cs:List LE):List Sh->List Pa->Bool
 |[],[]=>true
 |s::r,c::a=>d6H cs s c&&c7a cs r a
 |_,_=>false
def d6x(cs:List LE):Sh->Re->Bool
 | .tup l,.tup l'=>c7a cs l l'
 |s,.pa p=>d6H cs s p
 |_,_=>false
section
variable {ρ:Nat->Int} {n:Nat}
variable {e:LE}
theorem b9I(h:e.ok ρ n):e.ev ρ<=hiE e:=by
 have:=a3W (a1g h);grind[a1m,hiE]
variable {Γ:Gm} {v:V}
theorem c9N{r c:Bool}{d a:TD}{hi:Int}(h:In (Γ.bare 0) (.dat c e a) v)(h1:hiE e<=hi)(h2:a.le d=true):InD g0 N0 (.sl r hi d) v/\((lst v).length:Int)=e.ev Γ.ρ:=by
 cases h with
 |dat k1 k2 k3 k4=>
  have f:=b9I k1;have k4:(_:Int)=e.ev Γ.ρ:=k4;cases k2 with
  |nils _=>have:(0:Nat)=_:=ax8 k3;subst this;exact⟨.nils (by grind),k4⟩
  |sl b g=>have:(_:Nat)=_:=ax8 k3;subst this;exact⟨.sl (by grind) λ x hx=>(g x hx).le h2,k4⟩
  |row b _ _ _ _ _=>cases b
variable {cs:List LE} {s:Sh}
theorem c4l{c:Ce}(h:d6n s c cs=true)(hc:InC Γ c v)(hcs:a2W Γ.ρ Γ.n cs):ShOk s v:=by
 unfold d6n at h;split at h
 .simp only[az6,aw5,ay2]at h;obtain⟨rfl,h1,h2⟩:=h;cases hc with
  |av _ hc=>
   cases hc with
   |int k1 k2=>have a1:=a3W k1;have a2:=b9I k1;exact .td (.int (by omega) (by omega))
 .simp only[ay2]at h;cases hc with
  |av _ hc=>
   cases hc with
   |str k1 k2=>have a2:=b9I k1;exact .td (.str (by omega))
 .simp only[ay2]at h;cases hc with
  |av _ hc=>
   cases hc with
   |has k1 k2 k3=>have a2:=b9I k1;exact .td (.str (by omega))
 .simp only[az6,ay2]at h;cases hc with
  |av _ hc=>exact .td (c9N hc h.1 h.2).1
 .simp only[az6,ay2,ar4]at h;obtain⟨h1,h2,g,g1,g2⟩:=h;cases hc with
  |av _ hc=>obtain⟨k1,k2⟩:=c9N hc h1 h2;refine .ne k1 ?_;have h3:=(hcs g g1).2;grind[a0j]
 .cases hc with|av _ hc=>cases hc with|bool _ _=>exact .td .bool
 .cases hc with|av _ hc=>cases hc with|nils=>exact .nils
 .simp only[ay2]at h;cases hc with|av _ hc=>cases hc with|nils=>exact .td (.nils h)
 .simp only[az6,aw5,ay2]at h;obtain⟨rfl,rfl⟩:=h;cases hc with
  |av _ hc=>
   cases hc with
   |int k1 k2=>simp only[LE.ev,tsv,Int.add_zero]at k2;subst k2;exact .lit
 .simp only[az6,ay2]at h;obtain⟨rfl,h2⟩:=h;cases hc with
  |av _ hc=>
   cases hc with
   | @str _ b' k1 k2=>
     simp only[LE.ev,tsv,Int.add_zero]at k2;have:b'.data.toList=[]:=by
      apply ay7.1;have:b'.size=b'.data.toList.length:=rfl;omega
     have e:∀{a b:ByteArray},a.data.toList=b.data.toList->a=b:=λ h=>Ay3 (Az4.1 h);rw[e (this.trans h2.symm)];exact .lit
 .have h:=eq_of_beq h;subst h;cases hc with
  |av _ hc=>
   cases hc with
   |bool k1 k2=>simp only[AB.holds]at k2;subst k2;exact .lit
 .cases h
theorem c3K{Γ:Gm}{cs:List LE}(b:a2W Γ.ρ Γ.n cs):∀{l:List Sh} {l':List Ce} {vs:List V},d6l cs l l'=true->InCs Γ l' vs->ShL l vs
 |[],[],vs,_,hc=>by
  have:vs=[]:=ay7.1 hc.1.symm;grind[ShL.nil]
 |[],_::_,_,h,_=>by cases h
 |_::_,[],_,h,_=>by cases h
 |s::l,c::l',[],h,hc=>by cases hc.1
 |s::l,c::l',v::vs,h,hc=>by
  simp only[d6l,az6]at h;exact ShL.cons.2 ⟨c4l h.1 (hc.2 0 c v rfl rfl) b,c3K b h.2 ⟨by simpa using hc.1,λ j a x ha hx=>hc.2 (j+1) a x (by grind) (by grind)⟩⟩
theorem c2r(a:a2W Γ.ρ Γ.n cs){p:Pa}(h:d6H cs s p=true)(hp:InP Γ p v):ShOk s v:=by
 unfold d6H at h;split at h
 .cases hp with
  |agg hp=>have:=c3K a h hp;exact .agg this.1 this.2
 .cases hp with|ce hp _ _=>grind[c4l]
 .cases h
theorem b8P{Γ:Gm}{cs:List LE}(b:a2W Γ.ρ Γ.n cs):∀{l:List Sh} {l':List Pa} {vs:List V},c7a cs l l'=true->InPs Γ l' vs->ShL l vs
 |[],[],vs,_,hc=>by
  have:vs=[]:=ay7.1 hc.1.symm;grind[ShL.nil]
 |[],_::_,_,h,_=>by cases h
 |_::_,[],_,h,_=>by cases h
 |s::l,c::l',[],h,hc=>by cases hc.1
 |s::l,c::l',v::vs,h,hc=>by
  simp only[c7a,az6]at h;exact ShL.cons.2 ⟨c2r b h.1 (hc.2 0 c v rfl rfl),b8P b h.2 ⟨by simpa using hc.1,λ j a x ha hx=>hc.2 (j+1) a x (by grind) (by grind)⟩⟩
theorem d1N(a:a2W Γ.ρ Γ.n cs){p:Re}(h:d6x cs s p=true)(hp:InR Γ p v):ShOk s v:=by
 unfold d6x at h;split at h
 .cases hp with
  |tup hp=>have:=b8P a h hp;exact .tup this.1 this.2
 .cases hp with|pa hp=>grind[c2r]
 .cases h
end
section
variable {P:Program} {prim:Nat->Option Fp} {inl:Nat->Bool}
def c7T(vs:List Int)(i:Nat):Int:=(vs[i]?).getD 0
theorem b9z{k:Nat}{c:SumA}{xa:List Ar}(hh:a1p (λ N=>(a0d P prim inl N).cbv) k c)(hf:d7d c xa=true){vs:List V}(hv:ShL (xa.map Ar.sh) vs):∃v,RC P prim inl k vs v/\∃p∈c.posts,∀s,d6x p.cs s p.res=true->ShOk s v:=by
 unfold d7d at hf;simp only[az6,ay2]at hf;obtain⟨hb,⟨hcs,hpb⟩,hf⟩:=hf;split at hf;case h_2=>cases hf
 next l hl=>
 simp only[az6,ay2]at hf;obtain⟨hsy,hn⟩:=hf;have hbn:c.boxes=[]:=ay7.1 hb;have hvals:=b2m (ρ:=c7T (b3X xa vs)) hl hv;have hgo:Goes' (c7T (b3X xa vs)) 0 (b3X xa vs):=λ j x hx=>by simp_all[c7T]
 obtain⟨N,v,bs',h1,p,p1,ρ',r1,r2,r3,r4,r5,r6⟩:=hh (c7T (b3X xa vs)) vs [] (λ sy hsy'=>by
  rw[hsy]at hsy';obtain⟨j,hj⟩:=List.getElem?_of_mem hsy';have hlt:j<l.length:=(ay0.1 hj).1;have hlt2:j<(b3X xa vs).length:=by rw[<-hvals.1];exact hlt
  obtain⟨q1,q2,q3⟩:=hvals.2 j sy _ hj (az5 hlt2);have:=hgo j _ (az5 hlt2);rw[as4]at this q1;exact⟨by grind,by grind,by grind⟩)
  (by rw[hcs];exact nofun) (b8k hl hv hgo (by simp[GB,hn])) (by rw[hbn];exact⟨rfl,λ j a c ha=>by simp at ha⟩)
 have hlen:bs'=[]:=by
  have:=ay5.1 hpb p p1;have e:=r6.1;rw[Ax8.1 this]at e;exact ay7.1 e.symm
 subst hlen;exact⟨v,⟨N,h1⟩,p,p1,λ s hs=>d1N (Γ:=GB ρ' p.n 0) r4 hs r5⟩
end
end
section
open Go.PV Go.SN
section
variable {g:Type}
def fU8(b:UInt8)(k:UInt8->g):g:=fN b.toNat λ n=>k (UInt8.ofNat n)
def fBA(b:ByteArray)(k:ByteArray->g):g:=match b with
 |⟨⟨l⟩⟩=>fLs fU8 l λ l=>k ⟨⟨l⟩⟩
def d1O(deep:Bool)(w:Value)(k:Value->g):g:=match w with
 | .int a i=>fI i λ i=>k (.int a i)
 | .bool b=>fB b λ b=>k (.bool b)
 | .string s=>if deep then fBA s λ s=>k (.string s)else k (.string s)
 |w=>k w
def fWD(deep:Bool):Nat->V->(V->g)->g
 |0,v,k=>k v
 |n+1,v,k=>match v with
  | .lit w=>d1O deep w λ w=>k (.lit w)
  | .agg l=>fLs (fWD deep n) l λ l=>k (.agg l)
  | .tup l=>fLs (fWD deep n) l λ l=>k (.tup l)
  | .sl o l=>fLs (fWD deep n) l λ l=>k (.sl o l)
  | .dptr l=>fLs (fWD deep n) l λ l=>k (.dptr l)
  | .fn f a b=>fLs (fWD deep n) a λ a=>fLs (fWD deep n) b λ b=>k (.fn f a b)
  | .row a b c d=>fN a λ a=>fN b λ b=>fN c λ c=>fN d λ d=>k (.row a b c d)
  | .ptr a b=>fN a λ a=>fN b λ b=>k (.ptr a b)
  | .eptr a b c d=>fN a λ a=>fN b λ b=>fN c λ c=>fN d λ d=>k (.eptr a b c d)
  |v=>k v
def d3u(deep:Bool)(q:Nat×Option Box)(k:Nat×Option Box->g):g:=match q with
 |(i,b)=>fN i λ i=>match b with
  |some (.var l)=>fLs (fWD deep 5) l λ l=>k (i,some (.var l))
  |some (.row t z l f)=>fN z λ z=>fLs (fWD deep 5) l λ l=>fB f λ f=>k (i,some (.row t z l f))
  |some (.map l)=>k (i,some (.map l))
  |none=>k (i,none)
def d8F(deep:Bool)(o:Out)(k:Out->g):g:=match o with
 |⟨v,u,c⟩=>fWD deep 6 v λ v=>fLs (d3u deep) u λ u=>fN c λ c=>k ⟨v,u,c⟩
def e0b(o:Oper):Bool:=match o.op with
 | .binOp _ _ _ _ _| .slice _ _ _ _ _| .convert _ _ _| .call _| .index _ _ _=>true
 |_=>false
theorem d3V(b:UInt8)(k:UInt8->g):fU8 b k=k b:=by
 unfold fU8;rw[a4i,UInt8.ofNat_toNat]
theorem d4R(b:ByteArray)(k:ByteArray->g):fBA b k=k b:=by
 simp_all[fBA,a3t,d3V]
theorem c7r(deep:Bool)(w:Value)(k:Value->g):d1O deep w k=k w:=by
 unfold d1O;grind[c2N,c7s,d4R]
theorem b6C(deep:Bool):∀(n:Nat) (v:V) (k:V->g),fWD deep n v k=k v
 |0,v,k=>rfl
 |n+1,v,k=>by
  cases v<;>simp only[fWD,c7r,a4i,a3t (b6C deep n)]
theorem c2a(deep:Bool)(q:Nat×Option Box)(k:Nat×Option Box->g):d3u deep q k=k q:=by
 grind[d3u,a4i,c7s,a3t,b6C]
theorem d0y(deep:Bool)(o:Out)(k:Out->g):d8F deep o k=k o:=by
 simp_all[d8F,a4i,b6C,a3t,c2a]
variable (P:Program)
def a9G(call:PV.Calls)(ops:Array Oper)(o:Oper)(s:St)(d:g)(k:St->g):g:=
 if a0V ops o s.get then match a1F call s.get o with
  |none=>d
  |some (some (xs,fn))=>(match fn xs s.h s.nx with
   |none=>d
   |some r=>fWD true 6 r.1 λ v=>k (a2H {s with h:=r.2.1,nx:=r.2.2} o.dst v))
  |some none=>(match opE P call s.get (a0b s.h) s.nx o with
   |none=>d
   |some out=>d8F (e0b o) out λ out=>b7h s o.dst out k)
 else b7h s o.dst {v:= .und} k
theorem b0L{call:PV.Calls}{ops:Array Oper}{o:Oper}{s:St}{d:g}{k:St->g}:a9G P call ops o s d k=match a0v P call ops o s with
  |none=>d
  |some a=>k a:=by
 unfold a9G a0v a1h;by_cases hw:a0V ops o s.get=true
 .rw[ax3 hw,ax3 hw];grind[d0y,a9E,b6C]
 simp_all[a9E]
end
section
variable (P:Program)
def a9y(call:PV.Calls)(ops:Array Oper):List Oper->St->Option St
 |[],s=>some s
 |o::r,s=>a9G P call ops o s none (a9y call ops r)
theorem b1l{call:PV.Calls}{ops:Array Oper}:∀{l:List Oper} {s:St},a9y P call ops l s=a0I P call ops l s
 |[],_=>rfl
 |o::r,s=>by
  rw[a9y,b0L,a0I];cases a0v P call ops o s with
  |none=>rfl
  |some a=>exact b1l
def c6Y(call:PV.Calls)(ops:Array Oper):List Oper->St->Option (List (List Nat×List Nat)×St)
 |[],s=>some ([],s)
 |o::r,s=>a9G P call ops o s none λ a=>match c6Y call ops r a with
   |none=>none
   |some (fs,e)=>
    if a0V ops o s.get then
     (match a1F call s.get o with
      |some none=>some (a5A ops o (a3q s.get o) (a2w s.get (a0b s.h) o++List.range' s.nx (a.nx-s.nx))::fs,e)
      |_=>none)
    else some (a5A ops o [] []::fs,e)
theorem b9j{call:PV.Calls}{ops:Array Oper}:∀{l:List Oper} {s:St},c6Y P call ops l s=a4g P call ops l s
 |[],_=>rfl
 |o::r,s=>by
  rw[c6Y,b0L,a4g];cases a0v P call ops o s with
  |none=>rfl
  |some a=>simp only[b9j];rfl
def a3M(call:PV.Calls)(n:Nat):Code->St->Option (Ex×St)
 | .skip,s| .label _,s=>some (.normal,s)
 | .region _ ops false,s=>(a9y P call ops ops.toList s).map (.normal, ·)
 | .region _ ops true,s=>match c6Y P call ops ops.toList s with
   |none=>none
   |some (fs,e)=>if a6F ops fs then some (.normal,e)else none
 | .seq a b,s=>match a3M call n a s with
   |some (.normal,s)=>a3M call n b s
   |r=>r
 | .cond c a b,s=>match ev s.get c with
   |some (.lit (.bool t))=>if t then a3M call n a s else a3M call n b s
   |_=>none
 | .block id b,s=>match a3M call n b s with
   |some (.exit j,s)=>some (if j=id then .normal else .exit j,s)
   |r=>r
 | .loop b,s=>iter (a3M call n b) n s
 | .scope b,s=>a3M call n b s
 | .exit id,s=>some (.exit id,s)
 | .ret,s=>some (.ret,s)
 |_,_=>none
variable {n:Nat} {call:PV.Calls}
theorem b8j:∀{c:Code},a3M P call n c=a0e P call n c:=by
 intro c;induction c with
 |region i ops d=>
  funext s
  cases d with
  |false=>grind[a3M,a0e,b1l]
  |true=>grind[a3M,a0e,b9j]
 |seq a b e f=>funext s;simp only[a3M,a0e,e,f];rfl
 |cond c a b e f=>funext s;simp only[a3M,a0e,e,f];rfl
 |block id b ih=>funext s;simp only[a3M,a0e,ih];rfl
 |loop b ih=>grind[a3M,a0e]
 |scope b ih=>simp_all[a3M,a0e]
 |_=>funext s;rfl
def c0e(call:PV.Calls)(n:Nat)(k:Nat)(xs:List V)(h:HP)(nx:Nat):Option (V×St):=do
 let fn<-P.funcs[k]?;let sz:=max xs.length fn.ntmps
 if sz>256 then none
 let c<-fn.body;let(x,s)<-fLs (fWD true 6) xs λ xs=>fLs (d3u true) h λ h=>fN sz λ sz=>fN nx λ nx=>a3M P call n c {env:=a0u xs 0 .leaf,h:=h,nx:=nx,sz:=sz}
 match x with
 | .exit _=>none
 |_=>pure (<-a0m P fn s,s)
theorem b3y{k:Nat}{xs:List V}{h:HP}{nx:Nat}:c0e P call n k xs h nx=a1j P call n k xs h nx:=by
 unfold c0e a1j;simp only[a3t (b6C true 6),a3t (c2a true),a4i,b8j,Az0];grind
end
end
section
open Go.PV Go.SN
abbrev Ent:=Nat×List V×V
def b6I:List Ent->Nat->List V->Option V
 |[],_,_=>none
 |e::r,k,xs=>if e.1==k&&c6q e.2.1 xs then some e.2.2 else b6I r k xs
section
variable (P:Program) (prim:Nat->Option Fp) (inl:Nat->Bool) (T:List Ent) (F:Nat)
def a3H:Nat->PV.Calls
 |0=>{cbv:=λ k xs bs=>match bs with
   |[]=>(b6I T k xs).map λ v=>(v,[])
   |_=>none,inl:=λ k=>if inl k then some (λ _ _ _=>none)else none}
 |n+1=>{
   cbv:=λ k xs bs=>match(match bs with
    |[]=>b6I T k xs
    |_=>none)with
    |some v=>some (v,[])
    |none=>match prim k with
     |some f=>f xs bs
     |none=>do
      let(h,nx):=a0w 0 ([],bs.length) bs;let(v,s)<-c0e P (a3H n) F k xs h nx;let(v,w)<-a5t k (a0b s.h) s.nx v;let(l,ms,ks)<-a0G (a1x (a0b s.h)) w (List.range bs.length)
      if !(a1u (a0b s.h) ms ks)then none
      pure (v,l)
   inl:=λ k=>if inl k then some (λ xs h nx=>(c0e P (a3H n) F k xs h nx).map λ r=>(r.1,r.2.h,r.2.nx))else none}
def d7P(d:Nat)(e:Ent):Bool:=match(a3H P prim inl T F d).cbv e.1 e.2.1 []with
 |some (v,[])=>vEq v e.2.2
 |_=>false
end
section
variable {P:Program} {prim:Nat->Option Fp} {inl:Nat->Bool} {T:List Ent} {F:Nat}
theorem b8y{k:Nat}{v:V}:∀{T:List Ent} {xs:List V},b6I T k xs=some v->∃e∈T,e.1=k/\e.2.1=xs/\e.2.2=v
 |[],_,h=>by cases h
 |e::r,xs,h=>by
  simp only[b6I]at h;split at h
  .next hc=>
   simp only[az6,aw5]at hc;grind[a5f]
  .obtain⟨a,h1,h2⟩:=b8y h;grind
theorem b6o{N0:Nat}(hT:∀e∈T,(a0d P prim inl N0).cbv e.1 e.2.1 []=some (e.2.2,[]))(hF:F<=N0):∀n,(a3H P prim inl T F n).le (a0d P prim inl (N0+n)):=by
 have c:∀{n:Nat} {k:Nat} {xs:List V} {v:V},b6I T k xs=some v->(a0d P prim inl (N0+n)).cbv k xs []=some (v,[]):=by
  intro n k xs v h;obtain⟨e,h1,rfl,rfl,rfl⟩:=b8y h;exact(a0L (P:=P) (prim:=prim) (inl:=inl) (Nat.le_add_right N0 n)).cbv _ _ _ _ (hT e h1)
 have nn:∀{n:Nat} {k:Nat},inl k=false->(a0d P prim inl n).inl k=none:=λ h=>a4G h;intro n;induction n with
 |zero=>
  refine⟨λ k xs bs r h=> ?_,λ k h=> ?_,λ k f h=> ?_⟩
  .simp only[a3H]at h;cases bs with
   |nil=>simp only[az2]at h;obtain⟨v,h1,rfl⟩:=h;exact c h1
   |cons a b=>cases h
  .grind[a3H]
  .simp only[a3H]at h;split at h
   .next hi=>
    cases h;cases hN:N0+0 with
    |zero=>grind[a0d]
    |succ m=>simp_all[a0d]
   .cases h
 |succ n ih=>
  refine⟨λ k xs bs r h=> ?_,λ k h=> ?_,λ k f h=> ?_⟩
  .simp only[a3H]at h;split at h
   .next v hv=>
    cases bs with
    |nil=>simp_all
    |cons a b=>cases hv
   .rw[show N0+(n+1)=(N0+n)+1 from rfl];simp only[a0d];cases hp:prim k with
    |some f=>grind
    |none=>rw[hp]at h;simp only[Az0,az3]at h|-;obtain⟨q,h1,h2⟩:=h;exact⟨q,a6q ih (by omega) (b3y P▸h1),h2⟩
  .grind[a3H]
  .simp only[a3H]at h;split at h
   .next hi=>
    cases h;refine⟨λ xs h nx=>(a1j P (a0d P prim inl (N0+n)) (N0+n) k xs h nx).map λ r=>(r.1,r.2.h,r.2.nx),?_,λ xs h nx r hr=> ?_⟩
    .rw[show N0+(n+1)=(N0+n)+1 from rfl];simp_all[a0d]
    .simp only[az2]at hr|-;obtain⟨q,h1,h2⟩:=hr;exact⟨q,a6q ih (by omega) (b3y P▸h1),h2⟩
   .cases h
theorem c2s:∀{T:List Ent},(∀e∈T,RC P prim inl e.1 e.2.1 e.2.2)->∃N0,F<=N0/\∀e∈T,(a0d P prim inl N0).cbv e.1 e.2.1 []=some (e.2.2,[])
 |[],_=>⟨F,ay3 _,nofun⟩
 |e::r,h=>by
  obtain⟨N0,h0,h1⟩:=c2s (T:=r) λ e he=>h e (az9 _ he);obtain⟨M,hM⟩:=h e (ay1 ..);refine⟨max N0 M,by omega,λ b a=> ?_⟩;rcases ay4.1 a with rfl|a
  .exact(a0L (P:=P) (prim:=prim) (inl:=inl) (ar6 N0 M)).cbv _ _ _ _ hM
  .exact(a0L (P:=P) (prim:=prim) (inl:=inl) (ar5 N0 M)).cbv _ _ _ _ (h1 b a)
theorem e0d{d:Nat}{e:Ent}(hT:∀e∈T,RC P prim inl e.1 e.2.1 e.2.2)(h:d7P P prim inl T F d e=true):RC P prim inl e.1 e.2.1 e.2.2:=by
 obtain⟨N0,h0,h1⟩:=c2s (F:=F) hT;unfold d7P at h;split at h
 .next v hv=>
  rw[<-a5m _ _ h];exact⟨N0+d,(b6o h1 h0 d).cbv _ _ _ _ hv⟩
 .cases h
end
def hxL:Nat->Nat->List UInt8->List UInt8
 |0,_,a=>a
 |n+1,x,a=>hxL n (x/256) (UInt8.ofNat (x % 256)::a)
def hx(n x:Nat):V:= .lit (.string ⟨(hxL n x []).toArray⟩)
end
section
open Go.PV Go.SN
def c8E:Code->List Code×Code
 | .seq a b=>(a::(c8E b).1,(c8E b).2)
 |c=>([],c)
section
variable (P:Program) (call:PV.Calls) (n:Nat)
def d4V:List Code->St->Option St
 |[],s=>some s
 |c::r,s=>match a3M P call n c s with
  |some (.normal,s)=>d4V r s
  |_=>none
def b8W(f:St->Option (Ex×St)):Nat->St->Option St
 |0,s=>some s
 |m+1,s=>match f s with
  |some (.normal,s)=>b8W f m s
  |_=>none
def b1Q(k:Nat)(xs:List V):Option St:=do
 let fn<-P.funcs[k]?;let c<-fn.body;let sz:=max xs.length fn.ntmps
 if sz>256 then none
 fN sz λ sz=>d4V P call n (c8E c).1 {env:=a0u xs 0 .leaf,h:=[],nx:=0,sz:=sz}
def b9B(k:Nat):Option (Nat×Code):=(P.funcs[k]?).bind λ fn=>fn.body.bind λ c=>match(c8E c).2 with
 | .block id (.loop b)=>some (id,b)
 |_=>none
def b2o(k:Nat)(m:Nat)(s:St):Option St:=(b9B P k).bind λ b=>b8W (a3M P call n b.2) m s
def b2q(k:Nat)(n':Nat)(s:St):Option V:=do
 let fn<-P.funcs[k]?;let b<-b9B P k;let(x,s)<-iter (a3M P call n b.2) n' s;let x:=match x with
  | .exit j=>if j=b.1 then Ex.normal else .exit j
  |x=>x
 match x with
 | .exit _=>none
 |_=>
  let v<-a0m P fn s;let(v,w)<-a5t k (a0b s.h) s.nx v
  if !(a1u (a0b s.h) w.1 w.2)then none
  pure v
end
section
variable {P:Program} {call:PV.Calls} {n:Nat}
theorem d2u:∀{c:Code} {s d:St},d4V P call n (c8E c).1 s=some d->a3M P call n c s=a3M P call n (c8E c).2 d:=by
 intro c;induction c with
 |seq a b _ ih=>grind[c8E,d4V,a3M]
 |_=>grind[c8E,d4V]
theorem b8J{f:St->Option (Ex×St)}:∀{m:Nat} {s a:St} {k:Nat},b8W f m s=some a->iter f (m+k) s=iter f k a
 |0,s,a,k,h=>by
  cases h;grind
 |m+1,s,a,k,h=>by
  simp only[b8W]at h;split at h
  .next b h1=>
   rw[show m+1+k=(m+k)+1 by omega];simp only[iter,h1];exact b8J h
  .cases h
theorem c8A{k m n2:Nat}{xs:List V}{g e:St}{v:V}(h1:b1Q P call n k xs=some g)(h2:b2o P call n k m g=some e)(h3:b2q P call n k n2 e=some v)(hn:m+n2=n):
  ∃v0 s w,c0e P call n k xs [] 0=some (v0,s)/\a5t k (a0b s.h) s.nx v0=some (v,w)/\a1u (a0b s.h) w.1 w.2=true:=by
 rw[b3y];unfold a1j;unfold b1Q at h1;unfold b2o b9B at h2;unfold b2q b9B at h3;cases hf:P.funcs[k]? with
 |none=>grind
 |some fn=>
  cases hb:fn.body with
  |none=>grind
  |some c=>
   simp only[hf,hb,az1,Az0,a4i]at h1 h2 h3|-;by_cases hz:max xs.length fn.ntmps>256
   .grind
   .simp only[hz,av8]at h1|-;have h1:=d2u h1;rw[<-b8j,h1];cases hd:(c8E c).2 with
    |block id b=>
     cases b with
     |loop b=>
      simp only[hd,az1]at h2 h3|-;have h4:=b8J (k:=n2) h2;rw[hn]at h4;simp only[a3M,h4];cases hi:iter (a3M P call n b) n2 e with
      |none=>grind
      |some q=>
       obtain⟨x,s⟩:=q;simp only[hi,az1]at h3;have f:((a0m P fn s).bind λ v=>(a5t k (a0b s.h) s.nx v).bind λ q=>if(!a1u (a0b s.h) q.2.1 q.2.2)=true then(none:Option PUnit).bind λ _=>pure q.1 else pure q.1)=some v->
         ∃v0 w,a0m P fn s=some v0/\a5t k (a0b s.h) s.nx v0=some (v,w)/\a1u (a0b s.h) w.1 w.2=true:=by
        intro h;cases hv:a0m P fn s with
        |none=>grind
        |some v0=>
         simp only[hv,az1]at h;cases hr:a5t k (a0b s.h) s.nx v0 with
         |none=>grind
         |some q=>grind
       have a:∀{x:Ex} (_:∀j,x≠ .exit j),(a0m P fn s).bind (λ v=>(a5t k (a0b s.h) s.nx v).bind λ q=>if(!a1u (a0b s.h) q.2.1 q.2.2)=true then(none:Option PUnit).bind λ _=>pure q.1 else pure q.1)=some v->
         ∃v0 d w,(match x with
          | .exit _=>none
          |_=>(a0m P fn s).bind λ v=>some (v,s))=some (v0,d)/\a5t k (a0b d.h) d.nx v0=some (v,w)/\a1u (a0b d.h) w.1 w.2=true:=by
        intro x hx h;obtain⟨v0,w,a1,a2,a3⟩:=f h;refine⟨v0,s,w,?_,a2,a3⟩;cases x with
        |exit j=>grind
        |_=>simp[a1]
       cases x with
       |exit j=>
        by_cases hj:j=id
        .simp only[hj,aw4]at h3|-;exact a (x:= .normal) (λ _=>nofun) h3
        .grind
       |normal=>exact a (x:= .normal) (nofun) h3
       |ret=>exact a (x:= .ret) (nofun) h3
     |_=>grind
    |_=>grind
end
section
variable {P:Program} {prim:Nat->Option Fp} {inl:Nat->Bool} {T:List Ent} {F:Nat}
theorem d2s{d k m n2:Nat}{xs:List V}{a b:St}{v:V}(hT:∀e∈T,RC P prim inl e.1 e.2.1 e.2.2)(hp:prim k=none)(ht:b6I T k xs=none)(hn:m+n2=F)
  (h1:b1Q P (a3H P prim inl T F d) F k xs=some a) (h2:b2o P (a3H P prim inl T F d) F k m a=some b) (h3:b2q P (a3H P prim inl T F d) F k n2 b=some v):RC P prim inl k xs v:=by
 obtain⟨v0,s,w,b1,b2,b3⟩:=c8A h1 h2 h3 hn;obtain⟨N0,h0,hN⟩:=c2s (F:=F) hT;refine⟨N0+(d+1),(b6o hN h0 (d+1)).cbv k xs [] _ ?_⟩;simp only[a3H,ht,hp];show((c0e P (a3H P prim inl T F d) F k xs [] 0).bind _)=_;grind[a0G]
end
end
end Go.SE
