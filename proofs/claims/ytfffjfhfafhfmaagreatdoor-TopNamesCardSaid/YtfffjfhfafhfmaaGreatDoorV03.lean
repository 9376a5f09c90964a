import Derived.Test.YtfffjfhfafhfmaaGreatDoorV00
import Derived.Test.YtfffjfhfafhfmaaGreatDoorRows
import Derived.WalkKit
import Derived.WalkSpells
import Derived.WalkLawsBesides
import Derived.Lib.Hide
import Derived.Deep.QuietTactic
import Derived.BigQuiet
import Derived.Laws.BitsAllLaws
import Derived.Laws.BitsLemmas
import Derived.Test.YtfffjfhfafhfmaaGreatDoorV02
import Derived.LoopN
import Derived.Laws.Runes
import Derived.WalkMore
import Derived.Lib.OthersKept
import Derived.Test.YtfffjfhfafhfmaaGreatDoorV01
import Derived.Shelf.Vars
import Derived.OpenShut
import Derived.Deep.Strs
import Derived.LaidLaws
set_option linter.all false
namespace Go.Proofs.YtfffjfhfafhfmaaGreatDoor
section
open Go.RowKit
theorem c5c{a b:Bool}(h:a=b):Ending.returned (.bool a)= .returned (.bool b):=by rw[h]
theorem c8O{a b:ByteArray}(h:a=b):Ending.returned (.string a)= .returned (.string b):=by rw[h]
def a3r:Array Value:= #[.int .u8 0,.int .u8 127,.int .i64 0,.int .u8 192,.int .u8 31,.int .i64 128,.int .u8 224,.int .u8 15,.int .i64 2048,.int .u8 240,.int .u8 7,.int .i64 65536]
def Forms(w:World):Prop:=∃t fr,w.heap[1]?=some (.cells a3r t fr)
set_option maxHeartbeats 400000 in
theorem c4r(r:Int)(w:World):
  Calls Tryz.prog 426 #[.int .i64 r] w λ e w'=>e= .returned (.bool (decide (0<=r)&&a2r r.toNat))/\w=w':=by
 go_enter Tryz.func426,Tryz.ntmps426
 go_wp2
 all_goals
  go_ret
  exact⟨c5c (by rw[ao7];grind[a2r]),rfl⟩
theorem a8k(r:Nat)(w:World):
  Calls Tryz.prog 426 #[.int .i64 r] w λ e a=>e= .returned (.bool (a2r r))/\w=a:=
 (c4r r w).mono λ e a ⟨h1,h2⟩=>⟨h1.trans (c5c (by simp)),h2⟩
theorem c4f(w:World):(Instr.index 440 (.agg a3r) (.int .i64 0)).run Tryz.prog w= .ok (.agg #[.int .u8 0,.int .u8 127,.int .i64 0]) w:=by kernel_rfl
theorem c3U(w:World):(Instr.index 440 (.agg a3r) (.int .i64 1)).run Tryz.prog w= .ok (.agg #[.int .u8 192,.int .u8 31,.int .i64 128]) w:=by kernel_rfl
theorem c1O(w:World):(Instr.index 440 (.agg a3r) (.int .i64 2)).run Tryz.prog w= .ok (.agg #[.int .u8 224,.int .u8 15,.int .i64 2048]) w:=by kernel_rfl
theorem c2e(w:World):(Instr.index 440 (.agg a3r) (.int .i64 3)).run Tryz.prog w= .ok (.agg #[.int .u8 240,.int .u8 7,.int .i64 65536]) w:=by kernel_rfl
theorem c9a(i:Nat)(hi:i<4)(w:World):(Instr.index 440 (.agg a3r) (.int .i64 (i:Int))).run Tryz.prog w= .ok (.agg #[.int .u8 (mkN i),.int .u8 (msN i),.int .i64 (lsN i)]) w:=
 match i,hi with
 |0,_=>c4f w
 |1,_=>c3U w
 |2,_=>c1O w
 |3,_=>c2e w
theorem d1f(r x:Nat)(hr:r<67108864)(hx:x<64):bits .or .i64 ((r:Int)*64) (x:Int)=((r*64+x:Nat):Int):=by
 have h:=bits_join .i64 62 (by decide) (λ n h0 h1=>by rw[IntKind.wrap_i64];omega) 6 ((r:Int)*64) (x:Int) (by omega) (by omega) (by omega) (by omega) (by omega) (by omega);rw[h];simp
def d6A(at_:Nat)(o:Option (Nat×Nat)):Value:=
 match o with
 |some (r,n)=> .tuple #[.int .i64 r,.int .i64 (at_+n:Nat),.int .i64 0]
 |none=> .tuple #[.int .i64 0,.int .i64 0,.int .i64 7]
variable {at_:Nat} {X:Option (Nat×Nat)}
theorem a7l(h:X=none):Ending.returned (.tuple #[.int .i64 0,.int .i64 0,.int .i64 7])= .returned (d6A at_ X):=by rw[h];rfl
theorem c6X{i r:Nat}(h:X=some (r,i+1)){a b:Int}(ha:a=r)(hb:b=at_+i+1):Ending.returned (.tuple #[.int .i64 a,.int .i64 b,.int .i64 0])= .returned (d6A at_ X):=by
 rw[h,ha,hb];show _=Ending.returned (.tuple #[.int .i64 (r:Int),.int .i64 ((at_+(i+1):Nat):Int),.int .i64 0]);grind
variable {a w:World}
theorem c7z{B:Nat}(h:Below B a w)(n:Nat):Below B a (w.drewN n):=⟨h.os,h.tape,h.output,h.size,h.block⟩
theorem c0o(b:UInt8):bits .and .u8 (b.toNat:Int) 63=((a6D b:Nat):Int):=by
 have:=b.toNat_lt;grind[u8_and63,a6D]
theorem d3y(b:UInt8):bits .and .u8 (b.toNat:Int) 192=((b.toNat&&&192:Nat):Int):=u8_and_nat _ 192 (by have:=b.toNat_lt;omega) (by omega)
theorem a6m{o:Obj}{n:Nat}(h:Below w.heap.size w a):Below w.heap.size w ((a.alloc o).drewN n):=
 c7z (h.alloc h.size o) n
set_option maxHeartbeats 1000000 in
theorem c6S(s:ByteArray)(at_:Nat)(hs:s.size<=4611686018427387904)(w:World)(hf:Forms w)(h1:at_<s.size):
  Calls Tryz.prog 409 #[.string s,.int .i64 at_] w λ e w'=>e= .returned (d6A at_ (c0I (s.data.toList.drop at_)))/\Below w.heap.size w w':=by
 obtain⟨t,fr,hf⟩:=hf;have d0:decide ((at_:Int)<0)=false:=by simp
 have d1:decide ((s.size:Int)<=(at_:Int))=false:=by simp;omega
 go_enter Tryz.func409,Tryz.ntmps409
 go_wp2_with (refine wpList_load_row rfl 440 _ rfl 1 rfl t _ fr _ hf Tryz.underlying440 rfl (by kernel_rfl) ?_)
 go_loopw [20] (λ v wr=>∃i:Nat,i<=4/\v= .int .i64 i/\a3A (4-i) i (s.data.toList.drop at_)=c0I (s.data.toList.drop at_)/\Below w.heap.size w wr) (λ v _=>4-(intOf v).toNat)
 case atStart=>grind[c9c,Below.refl]
 case round=>
  obtain⟨i,hi,rfl,hd,hB⟩:=hrel;have HD:=Lib.hid hd;clear hd hf;by_cases hlt:i<4
  .have hix:=c9a i hlt;have d2:decide ((i:Int)<4)=true:=by simp;omega
   have hb:=c3p s[at_];have hm:(msN i:Int)<=127:=by unfold msN;grind
   have hl:(lsN i:Int)<=65536:=by unfold lsN;grind
   have hmN:msN i<=127:=by omega
   have e1:bits .andNot .u8 (s[at_].toNat:Int) (msN i:Int)=((s[at_].toNat&&&(255-msN i):Nat):Int):=u8_andNot_nat _ _ (by omega) (by omega);have e2:bits .and .u8 (s[at_].toNat:Int) (msN i:Int)=((b0a i s[at_]:Nat):Int):=u8_and_nat _ _ (by omega) (by omega);by_cases hok:a3I i s[at_]=true
   .have e3:(((s[at_].toNat&&&(255-msN i):Nat):Int) !=(mkN i:Int))=false:=by
     have:s[at_].toNat&&&(255-msN i)=mkN i:=by simpa[a3I]using hok
     rw[this];simp
    have hv:(b0a i s[at_]:Int)<=255:=by have:= @Nat.and_le_left s[at_].toNat (msN i);unfold b0a;omega
    by_cases hlen:s.size<at_+1+i
    .have HX:=Lib.hid (c4e h1 hlt hok hlen HD.out);clear hok HD;generalize b0a i s[at_]=hv0 at*;generalize mkN i=mk at*;generalize msN i=ms at*;generalize lsN i=ls at*
     go_wp2
     go_quiet (fail)
     go_wp2
     go_quiet (fail)
     go_wp2
     go_ret3
     exact⟨a7l HX.out,a6m hB⟩
    .have d3:decide ((s.size:Int)-(at_:Int)-1<(i:Int))=false:=by simp;omega
     have HX:=Lib.hid (d5T h1 hlt hok hlen HD.out);have HL:Hid (c7x i=λ o=>match o with|none=>none|some r=>if decide (lsN i<=r)&&a2r r then some (r,i+1)else none):=rfl;clear hok HD;generalize b0a i s[at_]=hv0 at*;generalize mkN i=mk at*;generalize msN i=ms at*;generalize lsN i=ls at*
     go_wp2
     go_quiet (fail)
     go_wp2
     go_quiet (fail)
     go_wp2
     clear e1 e2 e3 hix hb
     go_loop [9,10] (λ u v=>∃k r:Nat,1<=k/\k<=i+1/\v= .int .i64 k/\u= .int .i64 r/\((k=1/\r<256)\/(k=2/\r<16384)\/(k=3/\r<1048576)\/(k=4/\r<67108864))/\a3G (s.data.toList.drop (at_+k)) (i+1-k) r=a3G (s.data.toList.drop (at_+1)) i hv0) (λ _ v=>5-(intOf v).toNat)
     case atStart=>exact⟨1,hv0,by omega,by omega,rfl,rfl,by omega,rfl⟩
     case round=>
      obtain⟨k,r,hk0,hk,rfl,rfl,hrb,hco⟩:=hrel;have HC:=Lib.hid hco;have HR:=Lib.hid hrb;have hr0:r<67108864:=by omega
      clear hco hrb;by_cases hki:k<=i
      .have hak:at_+k<s.size:=by omega
       have hb:=c3p s[at_+k];have f1:=d3y s[at_+k];have f2:=c0o s[at_+k];have hx6:=lt6 s[at_+k];have f3:=d1f r (a6D s[at_+k]) hr0 hx6;have hca:=c3o s[at_+k];by_cases hcb:a5r s[at_+k]=true
       .have f4:(((s[at_+k].toNat&&&192:Nat):Int) !=128)=false:=by
         rw[hcb]at hca;have:s[at_+k].toNat&&&192=128:=by simpa using hca
         rw[this];rfl
        have HS:=Lib.hid (c1s hki hak hcb HC.out);have HB2:=Lib.hid (c1C HR.out (by omega) hx6);clear hca hcb;generalize a6D s[at_+k]=x6 at*
        go_wp2
        go_round
        case rel=>exact⟨k+1,r*64+x6,by omega,by omega,by go_num,rfl,HB2.out,HS.out⟩
        case measure=>simp[intOf];omega
       .have hcb':a5r s[at_+k]=false:=by simpa using hcb
        have f4:(((s[at_+k].toNat&&&192:Nat):Int) !=128)=true:=by
         rw[hcb']at hca;have:¬s[at_+k].toNat&&&192=128:=by simpa using hca
         rw[Av2];omega
        have HN:=Lib.hid (c1Y hki hak hcb' HC.out);clear hca hcb hcb'
        go_wp2
        go_ret3
        exact⟨a7l (by rw[<-HX.out,HN.out];rfl),a6m hB⟩
      .have HE:=Lib.hid (c2Q hk hki HC.out);have hF:c7x i (some r)=c0I (s.data.toList.drop at_):=by rw[<-HX.out,HE.out]
       rw[HL.out]at hF;have HF:=Lib.hid hF;clear hF HL;by_cases hls:ls<=r
       .by_cases hp:a2r r=true
        .have HY:=Lib.hid (show c0I (s.data.toList.drop at_)=some (r,i+1)from by rw[<-HF.out];simp[hls,hp]);clear HF
         go_wp2_with (go_at_call 426;refine(a8k _ _).mono ?_;rintro e w' ⟨rfl,rfl⟩)
         go_ret3
         exact⟨c6X HY.out rfl rfl,a6m hB⟩
        .have hp':a2r r=false:=by simpa using hp
         have HY:=Lib.hid (show c0I (s.data.toList.drop at_)=none from by rw[<-HF.out];simp[hls,hp']);clear HF hp
         go_wp2_with (go_at_call 426;refine(a8k _ _).mono ?_;rintro e w' ⟨rfl,rfl⟩)
         go_ret3
         exact⟨a7l HY.out,a6m hB⟩
       .have HY:=Lib.hid (show c0I (s.data.toList.drop at_)=none from by rw[<-HF.out];simp[hls]);clear HF
        go_wp2
        go_ret3
        exact⟨a7l HY.out,a6m hB⟩
   .have e3:(((s[at_].toNat&&&(255-msN i):Nat):Int) !=(mkN i:Int))=true:=by
     have:¬s[at_].toNat&&&(255-msN i)=mkN i:=by simpa[a3I]using hok
     rw[Av2];omega
    have HX:=Lib.hid (c8e h1 hlt hok HD.out);generalize mkN i=mk at*;generalize msN i=ms at*;generalize lsN i=ls at*;clear hok
    go_wp2
    go_quiet (fail)
    go_wp2
    go_roundw
    case rel=>exact⟨i+1,by omega,by go_num,HX.out,a6m hB⟩
    case measure=>simp[intOf];omega
  .have HX:=Lib.hid (c8j hi hlt HD.out)
   go_wp2
   go_ret3
   exact⟨a7l HX.out,hB⟩
end
end Go.Proofs.YtfffjfhfafhfmaaGreatDoor
namespace Go.PV
section
open Go.RowKit Go.Proofs Go.Shelf Go.Proofs.YtfffjfhfafhfmaaGreatDoor
def a4y:a5o:=λ b bs=>match b,bs with
 |[.lit (.string s),.lit (.int .i64 a)],[]=>if s.size<=4611686018427387904 then
   (if 0<=a/\a<s.size then(match c0I (s.data.toList.drop a.toNat)with
    |some (r,n)=>some (.tup [vI r,vI (a.toNat+n:Nat),vI 0],[])
    |none=>some (.tup [vI 0,vI 0,vI 7],[]))
   else some (.tup [vI 0,vI 0,vI 4],[]))else none
 |_,_=>none
theorem GlW.forms{w:World}(h:GlW w):Forms w:=by
 obtain⟨_,t,fr,h⟩:=h;exact⟨t,fr,h⟩
theorem d8k{M:Mem}{a b c:Int}:Rep M (.tup [vI a,vI b,vI c]) (.tuple #[.int .i64 a,.int .i64 b,.int .i64 c]):= .tup rfl λ j x u hx hu=>by
 match j,hx,hu with
 |0,hx,hu=>cases hx;cases hu;exact a1J rfl
 |1,hx,hu=>cases hx;cases hu;exact a1J rfl
 |2,hx,hu=>cases hx;cases hu;exact a1J rfl
 |j+3,hx,hu=>simp at hx
set_option maxHeartbeats 400000 in
theorem c0Y(s:ByteArray)(a:Int)(h:¬(0<=a/\a<s.size))(w:World):
  Go.Calls Tryz.prog 409 #[.string s,.int .i64 a] w λ e w'=>e= .returned (.tuple #[.int .i64 0,.int .i64 0,.int .i64 4])/\Below w.heap.size w w':=by
 by_cases h0:a<0
 .have h0':decide (a<0)=true:=by simp;omega
  go_enter Tryz.func409,Tryz.ntmps409
  go_wp2
  go_ret3
  exact⟨rfl,Below.refl _ _⟩
 .have h1:(s.size:Int)<=a:=by omega
  have h0':decide (a<0)=false:=by simp;omega
  clear h
  go_enter Tryz.func409,Tryz.ntmps409
  go_wp2
  go_ret3
  exact⟨rfl,Below.refl _ _⟩
theorem d7t{xa:List V}{bs bs':List (List V)}{v:V}(h:a4y xa bs=some (v,bs')):a2R Tryz.prog 409 xa bs v bs':=by
 unfold a4y at h;split at h
 .next s a=>
  split at h
  .next hs=>
   split at h
   .next ha=>
    have hw:∀w:World,GlW w->Go.Calls Tryz.prog 409 #[.string s,.int .i64 a] w λ e w'=>e= .returned (d6A a.toNat (c0I (s.data.toList.drop a.toNat)))/\Below w.heap.size w w':=λ w hw=>by
     have:=c6S s a.toNat hs w hw.forms (by omega)
     rwa [show((a.toNat:Nat):Int)=a by omega]at this
    split at h
    .next r n hd=>
     simp only[az0,az8]at h;obtain⟨rfl,rfl⟩:=h;rw[hd]at hw;refine a2b (us0:=[.string s,.int .i64 a]) (by decide+kernel) (λ _=>rfl) d8k λ w h=> ?_;exact hw w h
    .next hd=>
     simp only[az0,az8]at h;obtain⟨rfl,rfl⟩:=h;rw[hd]at hw;refine a2b (us0:=[.string s,.int .i64 a]) (by decide+kernel) (λ _=>rfl) d8k λ w h=> ?_;exact hw w h
   .next ha=>
    simp only[az0,az8]at h;obtain⟨rfl,rfl⟩:=h;exact a2b (us0:=[.string s,.int .i64 a]) (by decide+kernel) (λ _=>rfl) d8k λ w _=>c0Y s a ha w
  .cases h
 .cases h
end
end Go.PV
namespace Go.Proofs.YtfffjfhfafhfmaaGreatDoor
section
open Go.RowKit
theorem Forms.cell{w:World}(h:Forms w)(i:Nat):w.cell? ⟨1,i,none⟩=a3r[i]?:=by
 obtain⟨t,fr,h⟩:=h;grind[cell_of_row]
theorem Forms.alloc{w:World}(h:Forms w)(o:Obj):Forms (w.alloc o):=by
 obtain⟨t,fr,h⟩:=h;exact⟨t,fr,(Below.heap_alloc w o _ (b8g h)).trans h⟩
variable {n:Nat} {a w:World}
theorem c4B(x:Nat)(hx:x<4611686018427387904):bits .and .i64 (x:Int) 63=((x % 64:Nat):Int):=by
 have h:=bits_mask .i64 62 (by decide) (λ n h0 h1=>by rw[IntKind.wrap_i64];omega) 6 (by decide) (x:Int) (by omega) (by omega);simp at h|-;exact h
theorem b2l(x:Nat)(hx:x<4611686018427387904):bits .or .u8 128 (bits .and .i64 (x:Int) 63 % 256)=((128+x % 64:Nat):Int):=by
 grind[u8_or128,c4B]
theorem a9s(w:World)(l:List UInt8)(cap:Nat)(C:Array Value)(hC:C=(l.map λ b=>Value.int .u8 (b.toNat:Int)).toArray):
  (convert 22 9 (.slice (some ⟨w.heap.size,0,none⟩) l.length cap)).run Tryz.prog (w.alloc (.cells C 5))= .ok (.string (S l)) (w.alloc (.cells C 5)):=by
 subst hC;refine run_convert_bytes_back (P:=Tryz.prog) _ 22 9 5 _ cap l al0 am8 am6 λ j hj=> ?_;have:(⟨w.heap.size,0,none⟩:Addr).add j=⟨w.heap.size,j,none⟩:=by unfold Addr.add;grind
 simp_all
theorem Bc(h:n<256):((B n).toNat:Int)=(n:Int):=by rw[d2l h]
theorem d5A(r:Nat)(h1:(r:Int)<128):a7G r=[B (r)]:=by
 unfold a7G;grind
theorem d6Z(r:Nat)(h1:(r:Int)<128)(w:World):(convert 22 9 (.slice (some ⟨w.heap.size,0,none⟩) 1 1)).run Tryz.prog (w.alloc (.cells #[.int .u8 ((r:Int))] 5))= .ok (.string (S (a7G r))) (w.alloc (.cells #[.int .u8 ((r:Int))] 5)):=by
 rw[d5A r h1];refine a9s w [B (r)] 1 _ ?_;grind[Bc]
set_option maxRecDepth 100000 in
set_option maxHeartbeats 1000000 in
theorem c2V(r:Nat)(h1:(r:Int)<128)(hp:a2r r=true)(w:World)(hf:Forms w):
  Calls Tryz.prog 411 #[.int .i64 r] w λ e w'=>e= .returned (.tuple #[.string (S (a7G r)),.int .i64 0])/\Below w.heap.size w w':=by
 have c5:w.cell? ⟨1,5,none⟩=some (.int .i64 128):=hf.cell 5;have m0:∀o,(w.alloc o).cell? ⟨1,0,none⟩=some (.int .u8 0):=λ o=>(hf.alloc o).cell 0;have hmk:∀w,(Instr.makeSlice 22 (.int .i64 1) (.int .i64 1)).run Tryz.prog w= .ok (.slice (some ⟨w.heap.size,0,none⟩) 1 1) (w.alloc (.cells #[.int .u8 0] 5)):=λ _=>by kernel_rfl
 have om:bits .or .u8 0 ((r:Int))=((r:Nat):Int):=by have h:=u8_or_nat 0 r (by omega) (by omega);simpa using h
 have hcv:=d6Z r h1 w
 go_enter Tryz.func411,Tryz.ntmps411
 go_wp2_with (go_at_call 426;refine(a8k _ _).mono ?_;rintro e w' ⟨rfl,rfl⟩)
 refine wp_loop_rounds 1 ?_;rw[rounds_succ]
 go_wp2
 refine wp_loop_rounds 1 ?_;rw[rounds_succ]
 go_wp2
 go_ret2
 exact⟨rfl,(Below.refl _ _).alloc (ay3 _) _⟩
theorem d3N(r:Nat)(h0:128<=(r:Int))(h1:(r:Int)<2048):a7G r=[B (192+r/64),B (128+r % 64)]:=by
 unfold a7G;grind
theorem d8B(r:Nat)(h0:128<=(r:Int))(h1:(r:Int)<2048)(w:World):(convert 22 9 (.slice (some ⟨w.heap.size,0,none⟩) 2 2)).run Tryz.prog (w.alloc (.cells #[.int .u8 (192+(r:Int)/64),.int .u8 (128+(r:Int) % 64)] 5))= .ok (.string (S (a7G r))) (w.alloc (.cells #[.int .u8 (192+(r:Int)/64),.int .u8 (128+(r:Int) % 64)] 5)):=by
 rw[d3N r h0 h1];refine a9s w [B (192+r/64),B (128+r % 64)] 2 _ ?_;simp only[av2,ar8];rw[Bc (n:=192+r/64) (by omega),Bc (n:=128+r % 64) (by omega),show((192+r/64:Nat):Int)=192+(r:Int)/64 by omega,show((128+r % 64:Nat):Int)=128+(r:Int) % 64 by omega]
set_option maxRecDepth 100000 in
set_option maxHeartbeats 1000000 in
theorem c4b(r:Nat)(h0:128<=(r:Int))(h1:(r:Int)<2048)(hp:a2r r=true)(w:World)(hf:Forms w):
  Calls Tryz.prog 411 #[.int .i64 r] w λ e w'=>e= .returned (.tuple #[.string (S (a7G r)),.int .i64 0])/\Below w.heap.size w w':=by
 have c5:w.cell? ⟨1,5,none⟩=some (.int .i64 128):=hf.cell 5;have c8:w.cell? ⟨1,8,none⟩=some (.int .i64 2048):=hf.cell 8;have m0:∀o,(w.alloc o).cell? ⟨1,3,none⟩=some (.int .u8 192):=λ o=>(hf.alloc o).cell 3;have hmk:∀w,(Instr.makeSlice 22 (.int .i64 2) (.int .i64 2)).run Tryz.prog w= .ok (.slice (some ⟨w.heap.size,0,none⟩) 2 2) (w.alloc (.cells #[.int .u8 0,.int .u8 0] 5)):=λ _=>by kernel_rfl
 have o0:bits .or .u8 128 (bits .and .i64 (r:Int) 63 % 256)=128+(r:Int) % 64:=by
  have h:=b2l (r) (by omega);rw[show((r:Nat):Int)=(r:Int)by omega]at h;exact h.trans (by omega)
 have om:bits .or .u8 192 (((r:Int)/64))=192+(r:Int)/64:=by
  have h:=u8_or192 (y:=((r:Int)/64)) (by omega) (by omega);exact h.trans (by omega)
 have hcv:=d8B r h0 h1 w;have qn:((r:Int)/64)<=255:=by omega
 have q0:0<=(r:Int):=by omega
 have d1:decide ((128:Int)<=(r:Int))=true:=by simp;omega
 have d2:decide ((2048:Int)<=(r:Int))=false:=by simp;omega
 clear h0 h1
 go_enter Tryz.func411,Tryz.ntmps411
 go_wp2_with (go_at_call 426;refine(a8k _ _).mono ?_;rintro e w' ⟨rfl,rfl⟩)
 refine wp_loop_rounds 2 ?_;rw[rounds_succ]
 go_wp2
 rw[rounds_succ]
 go_wp2
 refine wp_loop_rounds 2 ?_;rw[rounds_succ]
 go_wp2
 rw[rounds_succ]
 go_wp2
 go_ret2
 exact⟨rfl,(Below.refl _ _).alloc (ay3 _) _⟩
theorem d4g(r:Nat)(h0:2048<=(r:Int))(h1:(r:Int)<65536):a7G r=[B (224+r/4096),B (128+r/64 % 64),B (128+r % 64)]:=by
 unfold a7G;grind
theorem d7j(r:Nat)(h0:2048<=(r:Int))(h1:(r:Int)<65536)(w:World):(convert 22 9 (.slice (some ⟨w.heap.size,0,none⟩) 3 3)).run Tryz.prog (w.alloc (.cells #[.int .u8 (224+(r:Int)/4096),.int .u8 (128+(r:Int)/64 % 64),.int .u8 (128+(r:Int) % 64)] 5))= .ok (.string (S (a7G r))) (w.alloc (.cells #[.int .u8 (224+(r:Int)/4096),.int .u8 (128+(r:Int)/64 % 64),.int .u8 (128+(r:Int) % 64)] 5)):=by
 rw[d4g r h0 h1];refine a9s w [B (224+r/4096),B (128+r/64 % 64),B (128+r % 64)] 3 _ ?_;simp only[av2,ar8];rw[Bc (n:=224+r/4096) (by omega),Bc (n:=128+r/64 % 64) (by omega),Bc (n:=128+r % 64) (by omega),show((224+r/4096:Nat):Int)=224+(r:Int)/4096 by omega,show((128+r/64 % 64:Nat):Int)=128+(r:Int)/64 % 64 by omega,show((128+r % 64:Nat):Int)=128+(r:Int) % 64 by omega]
set_option maxRecDepth 100000 in
set_option maxHeartbeats 1000000 in
theorem c3c(r:Nat)(h0:2048<=(r:Int))(h1:(r:Int)<65536)(hp:a2r r=true)(w:World)(hf:Forms w):
  Calls Tryz.prog 411 #[.int .i64 r] w λ e w'=>e= .returned (.tuple #[.string (S (a7G r)),.int .i64 0])/\Below w.heap.size w w':=by
 have c5:w.cell? ⟨1,5,none⟩=some (.int .i64 128):=hf.cell 5;have c8:w.cell? ⟨1,8,none⟩=some (.int .i64 2048):=hf.cell 8;have c11:w.cell? ⟨1,11,none⟩=some (.int .i64 65536):=hf.cell 11;have m0:∀o,(w.alloc o).cell? ⟨1,6,none⟩=some (.int .u8 224):=λ o=>(hf.alloc o).cell 6;have hmk:∀w,(Instr.makeSlice 22 (.int .i64 3) (.int .i64 3)).run Tryz.prog w= .ok (.slice (some ⟨w.heap.size,0,none⟩) 3 3) (w.alloc (.cells #[.int .u8 0,.int .u8 0,.int .u8 0] 5)):=λ _=>by kernel_rfl
 have o0:bits .or .u8 128 (bits .and .i64 (r:Int) 63 % 256)=128+(r:Int) % 64:=by
  have h:=b2l (r) (by omega);rw[show((r:Nat):Int)=(r:Int)by omega]at h;exact h.trans (by omega)
 have o1:bits .or .u8 128 (bits .and .i64 ((r:Int)/64) 63 % 256)=128+(r:Int)/64 % 64:=by
  have h:=b2l (r/64) (by omega);rw[show((r/64:Nat):Int)=((r:Int)/64)by omega]at h;exact h.trans (by omega)
 have om:bits .or .u8 224 ((((r:Int)/64)/64))=224+(r:Int)/4096:=by
  have h:=u8_or224 (y:=(((r:Int)/64)/64)) (by omega) (by omega);exact h.trans (by omega)
 have hcv:=d7j r h0 h1 w;have qn:(((r:Int)/64)/64)<=255:=by omega
 have q0:0<=(r:Int):=by omega
 have d1:decide ((128:Int)<=(r:Int))=true:=by simp;omega
 have d2:decide ((2048:Int)<=(r:Int))=true:=by simp;omega
 have d3:decide ((65536:Int)<=(r:Int))=false:=by simp;omega
 clear h0 h1
 go_enter Tryz.func411,Tryz.ntmps411
 go_wp2_with (go_at_call 426;refine(a8k _ _).mono ?_;rintro e w' ⟨rfl,rfl⟩)
 refine wp_loop_rounds 3 ?_;rw[rounds_succ]
 go_wp2
 rw[rounds_succ]
 go_wp2
 rw[rounds_succ]
 go_wp2
 refine wp_loop_rounds 3 ?_;rw[rounds_succ]
 go_wp2
 rw[rounds_succ]
 go_wp2
 rw[rounds_succ]
 go_wp2
 go_ret2
 exact⟨rfl,(Below.refl _ _).alloc (ay3 _) _⟩
theorem d4w(r:Nat)(h0:65536<=(r:Int))(h1:(r:Int)<=1114111):a7G r=[B (240+r/262144),B (128+r/4096 % 64),B (128+r/64 % 64),B (128+r % 64)]:=by
 unfold a7G;grind
theorem d8z(r:Nat)(h0:65536<=(r:Int))(h1:(r:Int)<=1114111)(w:World):(convert 22 9 (.slice (some ⟨w.heap.size,0,none⟩) 4 4)).run Tryz.prog (w.alloc (.cells #[.int .u8 (240+(r:Int)/262144),.int .u8 (128+(r:Int)/4096 % 64),.int .u8 (128+(r:Int)/64 % 64),.int .u8 (128+(r:Int) % 64)] 5))= .ok (.string (S (a7G r))) (w.alloc (.cells #[.int .u8 (240+(r:Int)/262144),.int .u8 (128+(r:Int)/4096 % 64),.int .u8 (128+(r:Int)/64 % 64),.int .u8 (128+(r:Int) % 64)] 5)):=by
 rw[d4w r h0 h1];refine a9s w [B (240+r/262144),B (128+r/4096 % 64),B (128+r/64 % 64),B (128+r % 64)] 4 _ ?_;simp only[av2,ar8];rw[Bc (n:=240+r/262144) (by omega),Bc (n:=128+r/4096 % 64) (by omega),Bc (n:=128+r/64 % 64) (by omega),Bc (n:=128+r % 64) (by omega),show((240+r/262144:Nat):Int)=240+(r:Int)/262144 by omega,show((128+r/4096 % 64:Nat):Int)=128+(r:Int)/4096 % 64 by omega,show((128+r/64 % 64:Nat):Int)=128+(r:Int)/64 % 64 by omega,show((128+r % 64:Nat):Int)=128+(r:Int) % 64 by omega]
set_option maxRecDepth 100000 in
set_option maxHeartbeats 1000000 in
theorem c1Q(r:Nat)(h0:65536<=(r:Int))(h1:(r:Int)<=1114111)(hp:a2r r=true)(w:World)(hf:Forms w):
  Calls Tryz.prog 411 #[.int .i64 r] w λ e w'=>e= .returned (.tuple #[.string (S (a7G r)),.int .i64 0])/\Below w.heap.size w w':=by
 have c5:w.cell? ⟨1,5,none⟩=some (.int .i64 128):=hf.cell 5;have c8:w.cell? ⟨1,8,none⟩=some (.int .i64 2048):=hf.cell 8;have c11:w.cell? ⟨1,11,none⟩=some (.int .i64 65536):=hf.cell 11;have m0:∀o,(w.alloc o).cell? ⟨1,9,none⟩=some (.int .u8 240):=λ o=>(hf.alloc o).cell 9;have hmk:∀w,(Instr.makeSlice 22 (.int .i64 4) (.int .i64 4)).run Tryz.prog w= .ok (.slice (some ⟨w.heap.size,0,none⟩) 4 4) (w.alloc (.cells #[.int .u8 0,.int .u8 0,.int .u8 0,.int .u8 0] 5)):=λ _=>by kernel_rfl
 have o0:bits .or .u8 128 (bits .and .i64 (r:Int) 63 % 256)=128+(r:Int) % 64:=by
  have h:=b2l (r) (by omega);rw[show((r:Nat):Int)=(r:Int)by omega]at h;exact h.trans (by omega)
 have o1:bits .or .u8 128 (bits .and .i64 ((r:Int)/64) 63 % 256)=128+(r:Int)/64 % 64:=by
  have h:=b2l (r/64) (by omega);rw[show((r/64:Nat):Int)=((r:Int)/64)by omega]at h;exact h.trans (by omega)
 have o2:bits .or .u8 128 (bits .and .i64 (((r:Int)/64)/64) 63 % 256)=128+(r:Int)/4096 % 64:=by
  have h:=b2l (r/4096) (by omega);rw[show((r/4096:Nat):Int)=(((r:Int)/64)/64)by omega]at h;exact h.trans (by omega)
 have om:bits .or .u8 240 (((((r:Int)/64)/64)/64))=240+(r:Int)/262144:=by
  have h:=u8_or240 (y:=((((r:Int)/64)/64)/64)) (by omega) (by omega);exact h.trans (by omega)
 have hcv:=d8z r h0 h1 w;have qn:((((r:Int)/64)/64)/64)<=255:=by omega
 have q0:0<=(r:Int):=by omega
 have d1:decide ((128:Int)<=(r:Int))=true:=by simp;omega
 have d2:decide ((2048:Int)<=(r:Int))=true:=by simp;omega
 have d3:decide ((65536:Int)<=(r:Int))=true:=by simp;omega
 clear h0 h1
 go_enter Tryz.func411,Tryz.ntmps411
 go_wp2_with (go_at_call 426;refine(a8k _ _).mono ?_;rintro e w' ⟨rfl,rfl⟩)
 refine wp_loop_rounds 4 ?_;rw[rounds_succ]
 go_wp2
 rw[rounds_succ]
 go_wp2
 rw[rounds_succ]
 go_wp2
 rw[rounds_succ]
 go_wp2
 refine wp_loop_rounds 4 ?_;rw[rounds_succ]
 go_wp2
 rw[rounds_succ]
 go_wp2
 rw[rounds_succ]
 go_wp2
 rw[rounds_succ]
 go_wp2
 go_ret2
 exact⟨rfl,(Below.refl _ _).alloc (ay3 _) _⟩
end
end Go.Proofs.YtfffjfhfafhfmaaGreatDoor
namespace Go.PV
section
open Go.RowKit Go.Proofs Go.Shelf Go.Proofs.YtfffjfhfafhfmaaGreatDoor
def a5P:a5o:=λ a bs=>match a,bs with
 |[.lit (.int .i64 r)],[]=>if decide (0<=r)&&a2r r.toNat then some (.tup [vS (a7G r.toNat),vI 0],[])else some (.tup [vS [],vI 4],[])
 |_,_=>none
set_option maxHeartbeats 400000 in
theorem c6z(r:Int)(h:(decide (0<=r)&&a2r r.toNat)=false)(w:World):
  Go.Calls Tryz.prog 411 #[.int .i64 r] w λ e w'=>e= .returned (.tuple #[.string ⟨#[]⟩,.int .i64 4])/\Below w.heap.size w w':=by
 have c:=λ w=>(c4r r w).mono (R':=λ e w'=>e= .returned (.bool false)/\w=w') λ e w' ⟨h1,h2⟩=>⟨h1.trans (Go.PV.c5c h),h2⟩;have C:=Lib.hid c;clear c h
 go_enter Tryz.func411,Tryz.ntmps411
 go_wp2_with (go_at_call 426;refine(C.out _).mono ?_;rintro e w' ⟨rfl,rfl⟩)
 go_ret2
 exact⟨rfl,Below.refl _ _⟩
theorem d9m{M:Mem}{a:ByteArray}{c:Int}:Rep M (.tup [.lit (.string a),vI c]) (.tuple #[.string a,.int .i64 c]):= .tup rfl λ j x u hx hu=>by
 match j,hx,hu with
 |0,hx,hu=>cases hx;cases hu;exact a1J rfl
 |1,hx,hu=>cases hx;cases hu;exact a1J rfl
 |j+2,hx,hu=>simp at hx
theorem d8c{xa:List V}{bs bs':List (List V)}{v:V}(h:a5P xa bs=some (v,bs')):a2R Tryz.prog 411 xa bs v bs':=by
 unfold a5P at h;split at h
 .next r=>
  split at h
  .next hr=>
   simp only[az0,az8]at h;obtain⟨rfl,rfl⟩:=h;refine a2b (us0:=[.int .i64 r]) (by decide+kernel) (λ _=>rfl) d9m λ w hw=> ?_;have hf:=hw.forms;have h':=hr;simp only[az6,ay2]at h';obtain⟨n,rfl⟩:∃n:Nat,r=n:=⟨r.toNat,by omega⟩;have hp:a2r n=true:=by simpa using h'.2
   have hp':=hp;simp only[a2r,az6,ay2]at hp';by_cases h1:n<128
   .exact c2V n (by omega) hp w hf
   .by_cases h2:n<2048
    .exact c4b n (by omega) (by omega) hp w hf
    .by_cases h3:n<65536
     .exact c3c n (by omega) (by omega) hp w hf
     .exact c1Q n (by omega) (by omega) hp w hf
  .next hr=>
   simp only[az0,az8]at h;obtain⟨rfl,rfl⟩:=h;exact a2b (us0:=[.int .i64 r]) (by decide+kernel) (λ _=>rfl) d9m λ w hw=>c6z r (by grind) w
 .cases h
end
end Go.PV
namespace Go.Proofs.YtfffjfhfafhfmaaGreatDoor
section
open Go.RowKit
def U(n:Nat):Prop:=0<=n/\n<=18446744073709551615
def dig(n:Nat):UInt8:=UInt8.ofNat (48+n % 10)
theorem a7z(n:Nat):(dig n).toNat=48+n % 10:=At4 (by grind)
def b2L:Nat->Nat->List UInt8
 |0,n=>[dig n]
 |f+1,n=>if n<10 then [dig n]else b2L f (n/10)++[dig n]
def fmtL(n:Nat):List UInt8:=b2L 19 n
def pw:Nat->Nat
 |0=>10
 |k+1=>10*pw k
theorem d8y:pw 19=100000000000000000000:=by decide
variable {f n:Nat}
theorem b0v(h:n<10):b2L f n=[dig n]:=by cases f<;>simp[b2L,h]
theorem b7E(hf:0<f)(h:¬n<10):b2L f n=b2L (f-1) (n/10)++[dig n]:=by
 obtain⟨g,rfl⟩:∃g,f=g+1:=⟨f-1,by omega⟩;simp[b2L,h]
theorem c2u(h:n<pw f)(a:¬n<10):0<f/\n/10<pw (f-1):=by
 cases f with
 |zero=>grind[pw]
 |succ g=>grind[pw]
def Tail(w:World)(g:Nat)(k:Nat)(b:List UInt8):Prop:=
 ∃C:Array Value,w.heap[g]?=some (.cells C 268 (0,0))/\C.size=20/\k+1+b.length=20/\∀j (h:j<b.length),C[k+1+j]?=some (.int .u8 (b[j].toNat:Int))
section
variable {w:World} {g k:Nat} {b:List UInt8}
theorem Tail.cell(h:Tail w g k b):∃v,w.cell? ⟨g,k,none⟩=some v:=by
 obtain⟨C,h1,h2,h3,_⟩:=h;exact⟨C[k]'(by omega),by rw[cell_of_row w g k C _ _ h1];grind⟩
theorem Tail.frozen(h:Tail w g k b)(j:Nat):w.frozen? ⟨g,j,none⟩=false:=by
 obtain⟨C,h1,_⟩:=h;simp[World.frozen?,h1]
theorem Tail.set(h:Tail w g k b)(d:UInt8)(a:Nat)(hk:a+1=k):Tail (w.setCell ⟨g,k,none⟩ (.int .u8 (d.toNat:Int))) g a (d::b):=by
 obtain⟨C,h1,h2,h3,h4⟩:=h;refine⟨C.setIfInBounds k (.int .u8 (d.toNat:Int)),?_,by simp[h2],by simp;omega,λ j hj=> ?_⟩
 .grind[World.setCell]
 grind
set_option maxRecDepth 100000 in
theorem Tail.conv(h:Tail w g k b)(d:UInt8):(convert 22 9 (.slice (some ⟨g,k,none⟩) (20-k) (20-k))).run Tryz.prog (w.setCell ⟨g,k,none⟩ (.int .u8 (d.toNat:Int)))= .ok (.string (S (d::b))) (w.setCell ⟨g,k,none⟩ (.int .u8 (d.toNat:Int))):=by
 obtain⟨C,h1,h2,h3,h4⟩:=h;have hl:20-k=(d::b).length:=by simp;omega
 have hlen:(20-k,20-k)=((d::b).length,20-k):=by rw[<-hl]
 injection hlen with e1 _
 conv=>lhs;rw[show Value.slice (some ⟨g,k,none⟩) (20-k) (20-k)=Value.slice (some ⟨g,k,none⟩) (d::b).length (20-k)from an8 (λ x=>Value.slice (some ⟨g,k,none⟩) x (20-k)) e1]
 refine run_convert_bytes_back (P:=Tryz.prog) _ 22 9 5 _ _ (d::b) al0 am8 am6 λ j hj=> ?_;have:(⟨g,k,none⟩:Addr).add j=⟨g,k+j,none⟩:=by unfold Addr.add;grind
 have hg:(w.setCell ⟨g,k,none⟩ (.int .u8 (d.toNat:Int))).heap[g]?=some (.cells (C.setIfInBounds k (.int .u8 (d.toNat:Int))) 268 (0,0)):=by simp[World.setCell,Array.getElem?_modify,h1]
 rw[this,cell_of_row _ g _ _ _ _ hg,Ay7];grind
end
theorem d4z(w:World):(sizeOf (Tryz.prog.elem 268)).run Tryz.prog w= .ok 1 w:=by kernel_rfl
theorem d3I:Tryz.prog.arrayLen 268=20:=by kernel_rfl
theorem d1Z(w:World)(g k:Nat)(hk:k<=19):(Instr.sliceAt 268 (.pointer (some ⟨g,0,none⟩)) (some (.int .i64 (k:Int))) none none).run Tryz.prog w= .ok (.slice (some ⟨g,k,none⟩) (20-k) (20-k)) w:=by
 rw[run_sliceAt_array_l (P:=Tryz.prog) w 268 ⟨g,0,none⟩ (by kernel_rfl) .i64 (k:Int) (by omega) (by rw[d3I];omega),d4z];simp only[Result.andThen,slicedAt,d3I,Av5];rw[ay9 (by omega),Nat.mul_one];grind[Addr.add]
set_option maxHeartbeats 1000000 in
set_option maxRecDepth 100000 in
theorem c6Z(n:Nat)(hn:U n)(w:World):
  Calls Tryz.prog 94 #[.int .u64 n] w λ e w'=>e= .returned (.string (S (fmtL n)))/\Below w.heap.size w w':=by
 have hp:n<pw 19:=by unfold U at hn;rw[d8y];omega
 have HP:=Lib.hid hp;have HU:=Lib.hid hn;clear hn hp
 go_enter Tryz.func94,Tryz.ntmps94
 go_wp2_with fail
 have hT:Tail (w.alloc (.cells #[.int .u8 0,.int .u8 0,.int .u8 0,.int .u8 0,.int .u8 0,.int .u8 0,.int .u8 0,.int .u8 0,.int .u8 0,.int .u8 0,.int .u8 0,.int .u8 0,.int .u8 0,.int .u8 0,.int .u8 0,.int .u8 0,.int .u8 0,.int .u8 0,.int .u8 0,.int .u8 0] 268)) w.heap.size 19 []:=
  ⟨_,heap_alloc_new w _,rfl,rfl,λ j hj=>by simp at hj⟩
 have hB:=(Below.refl w.heap.size w).alloc (ay3 _) (.cells #[.int .u8 0,.int .u8 0,.int .u8 0,.int .u8 0,.int .u8 0,.int .u8 0,.int .u8 0,.int .u8 0,.int .u8 0,.int .u8 0,.int .u8 0,.int .u8 0,.int .u8 0,.int .u8 0,.int .u8 0,.int .u8 0,.int .u8 0,.int .u8 0,.int .u8 0,.int .u8 0] 268);generalize w.alloc (.cells #[.int .u8 0,.int .u8 0,.int .u8 0,.int .u8 0,.int .u8 0,.int .u8 0,.int .u8 0,.int .u8 0,.int .u8 0,.int .u8 0,.int .u8 0,.int .u8 0,.int .u8 0,.int .u8 0,.int .u8 0,.int .u8 0,.int .u8 0,.int .u8 0,.int .u8 0,.int .u8 0] 268)=w0 at*
 go_loopw [0,4] (λ u v wr=>∃m k:Nat,∃b:List UInt8,k<=19/\u= .int .u64 m/\v= .int .i64 k/\m<=n/\m<pw k/\b2L k m++b=fmtL n/\Tail wr w.heap.size k b/\Below w.heap.size w wr) (λ u _ _=>(intOf u).toNat)
 case atStart=>exact⟨n,19,[],by omega,rfl,rfl,ay3 _,HP.out,by simp[fmtL],hT,hB⟩
 case round=>
  clear hT hB;obtain⟨m,k,b,hk,rfl,rfl,hmn,hpw,hd,hT,hB⟩:=hrel;have hu:=HU.out.2;have hm2:(m:Int)<=18446744073709551615:=by omega
  have HD:=Lib.hid hd;have HPW:=Lib.hid hpw;clear hd hpw hu;have hf:=hT.frozen k;obtain⟨v0,hc⟩:=hT.cell;by_cases h10:m<10
  .have hsl:=λ w'=>d1Z w' w.heap.size k hk;have hcv:=hT.conv (dig m);have HX:=Lib.hid (show b2L k m++b=dig m::b from by grind[b0v]);have hz:((dig m).toNat:Int)=48+m:=by rw[a7z];omega
   rw[hz]at hcv;clear hz;have HM:=Lib.hid hm2;have h10':(m:Int)<10:=by omega
   clear hm2 hmn h10
   go_wp2_with fail
   go_ret
   exact⟨c8O (by rw[<-HD.out,HX.out]),hB.setCell (ay3 _) _⟩
  .obtain⟨hk0,hq⟩:=c2u HPW.out h10;obtain⟨k',rfl⟩:∃k',k=k'+1:=⟨k-1,by omega⟩;have HX:=Lib.hid (show b2L k' (m/10)++dig m::b=fmtL n from by rw[<-HD.out,b7E hk0 h10];simp);have hset:=hT.set (dig m) k' rfl;rw[show((dig m).toNat:Int)=48+(m:Int) % 10 by rw[a7z];omega]at hset;have HQ:=Lib.hid hq;clear hq
   go_wp2_with fail
   go_roundw
   case rel=>exact⟨m/10,k',dig m::b,by omega,by go_num,by go_num,by omega,HQ.out,HX.out,hset,hB.setCell (ay3 _) _⟩
   case measure=>grind[intOf]
theorem c9r(w:World)(d:UInt8):(convert 22 9 (.slice (some ⟨w.heap.size,0,none⟩) 1 1)).run Tryz.prog (w.alloc (.cells #[.int .u8 (d.toNat:Int)] 5))= .ok (.string (S [d])) (w.alloc (.cells #[.int .u8 (d.toNat:Int)] 5)):=by
 refine run_convert_bytes_back (P:=Tryz.prog) _ 22 9 5 _ _ [d] al0 am8 am6 λ j hj=> ?_;have:(⟨w.heap.size,0,none⟩:Addr).add j=⟨w.heap.size,j,none⟩:=by unfold Addr.add;grind
 rw[this,cell_of_row _ _ j _ _ _ (heap_alloc_new w _)];grind
set_option maxHeartbeats 1000000 in
set_option maxRecDepth 100000 in
theorem c3Y(n:Nat)(hn:U n)(w:World):
  Calls Tryz.prog 170 #[.int .u64 n] w λ e w'=>e= .returned (.string (S (fmtL n)))/\Below w.heap.size w w':=by
 have hp:n<pw 19:=by unfold U at hn;rw[d8y];omega
 have HP:=Lib.hid hp;have HU:=Lib.hid hn;clear hn hp
 go_enter Tryz.func170,Tryz.ntmps170
 go_wp2_with fail
 go_loopw [0,3] (λ u v wr=>∃m k:Nat,∃b:List UInt8,u= .int .u64 m/\v= .string (S b)/\k<=19/\(S b).size=19-k/\m<=n/\m<pw k/\b2L k m++b=fmtL n/\Below w.heap.size w wr) (λ u _ _=>(intOf u).toNat)
 case atStart=>exact⟨n,19,[],rfl,rfl,by omega,rfl,ay3 _,HP.out,by simp[fmtL],Below.refl _ _⟩
 case round=>
  obtain⟨m,k,b,rfl,rfl,hk,hsz,hmn,hpw,hd,hB⟩:=hrel;have hu:=HU.out.2;have hm2:(m:Int)<=18446744073709551615:=by omega
  have HD:=Lib.hid hd;have HPW:=Lib.hid hpw;have HSZ:=Lib.hid hsz;have hsz1:(S b).size<=19:=by omega
  have hcv:=λ w=>c9r w (dig m);rw[show((dig m).toNat:Int)=48+(m:Int) % 10 by rw[a7z];omega]at hcv;have happ:S [dig m]++S b=S (dig m::b):=by apply Ay3;apply Az4.1;simp[S]
  have HAPP:=Lib.hid happ;have hone:(S [dig m]).size<=1:=by rw[b2a];simp
  clear hd hpw hu hsz happ;by_cases h10:m<10
  .have HX:=Lib.hid (show b2L k m++b=dig m::b from by grind[b0v]);have hq:((m:Int)/10==0)=true:=by simp;omega
   go_wp2_with fail
   go_ret
   exact⟨c8O (by rw[HAPP.out,<-HD.out,HX.out]),hB.alloc hB.size _⟩
  .obtain⟨hk0,hq⟩:=c2u HPW.out h10;obtain⟨k',rfl⟩:∃k',k=k'+1:=⟨k-1,by omega⟩;have HX:=Lib.hid (show b2L k' (m/10)++dig m::b=fmtL n from by rw[<-HD.out,b7E hk0 h10];simp);have HQ:=Lib.hid hq;have hq0:((m:Int)/10==0)=false:=by simp;omega
   have HS2:=Lib.hid (show(S (dig m::b)).size=19-k' from by have:=HSZ.out;grind[b2a]);clear hq
   go_wp2_with fail
   go_roundw
   case rel=>exact⟨m/10,k',dig m::b,by go_num,an8 _ HAPP.out,by omega,HS2.out,by omega,HQ.out,HX.out,hB.alloc hB.size _⟩
   case measure=>grind[intOf]
end
end Go.Proofs.YtfffjfhfafhfmaaGreatDoor
namespace Go.PV
section
open Go.RowKit Go.Proofs Go.Shelf Go.Proofs.YtfffjfhfafhfmaaGreatDoor
def a5w:a5o:=λ a bs=>match a,bs with
 |[.lit (.int .u64 n)],[]=>if 0<=n/\n<=18446744073709551615 then some (vS (fmtL n.toNat),[])else none
 |_,_=>none
variable {bs:List (List V)} {v:V}
theorem c9S{k:Nat}(b:b6L Tryz.prog k=true)(hc:∀(n:Nat),U n->∀w:World,Go.Calls Tryz.prog k #[.int .u64 n] w λ e d=>e= .returned (.string (S (fmtL n)))/\Below w.heap.size w d)
  {c:List V} {a:List (List V)} (h:a5w c bs=some (v,a)):a2R Tryz.prog k c bs v a:=by
 unfold a5w at h;split at h
 .next n=>
  split at h
  .next hn=>
   simp only[az0,az8]at h;obtain⟨rfl,rfl⟩:=h;obtain⟨m,rfl⟩:∃m:Nat,n=m:=⟨n.toNat,by omega⟩;exact a2b (us0:=[.int .u64 m]) b (λ _=>rfl) (a1J rfl) λ w hw=>hc m (by grind[U]) w
  .cases h
 .cases h
variable {f:List (List V)} {g:List V}
theorem d9S(h:a5w g bs=some (v,f)):a2R Tryz.prog 94 g bs v f:=
 c9S (by decide+kernel) (λ n hn w=>c6Z n hn w) h
theorem d7A(h:a5w g bs=some (v,f)):a2R Tryz.prog 170 g bs v f:=
 c9S (by decide+kernel) (λ n hn w=>c3Y n hn w) h
end
end Go.PV
namespace Go.Proofs.YtfffjfhfafhfmaaGreatDoor
section
open Go.RowKit
set_option maxHeartbeats 400000 in
theorem d2h(s:ByteArray)(hs:s.size<=9223372036854775807)(w:World):
  Calls Tryz.prog 29 #[.string s] w λ e w'=>e= .returned (.string (S (lowerL s.data.toList)))/\Below w.heap.size w w':=by
 have hcv:=λ w=>Lib.run_convert_string_bytes (P:=Tryz.prog) w 9 22 5 s am6 al0 am8
 go_enter Tryz.func29,Tryz.ntmps29
 go_wp2
 clear hcv;have hB0:=BytesAt.new w 5 s;have hW0:=b0I w 5 s;have hl:s.data.toList.length=s.size:=rfl;have Hl:=Lib.hid hl;clear hl;generalize Lib.bytesWorld w 5 s=w0 at*
 go_loopw [10] (λ i wr=>∃k:Nat,k<=s.size/\i= .int .i64 k/\BytesAt wr w.heap.size 5 (a9U s.data.toList k)/\Below w.heap.size w wr) (λ i _=>s.size-(intOf i).toNat)
 case atStart=>exact⟨0,aw7 _,rfl,by grind[b4S],hW0⟩
 case round=>
  clear hB0 hW0;obtain⟨k,hk,rfl,hB,hW⟩:=hrel;by_cases hlt:k<s.size
  .have hkl:k<(a9U s.data.toList k).length:=by rw[b3U];exact hlt
   have hc:=hB.cell hkl;have hf:=hB.frozen hkl;rw[a8u _ _ hlt]at hc;have hset:=hB.set hkl (a4s (s.data.toList[k]'hlt));rw[<-a4O _ _ hlt]at hset
   go_wp2
   .go_roundw
    case rel=>
     rw[b5D ‹_› ‹_›]at hset;exact⟨k+1,by omega,by go_num,hset,hW.setCell (ay3 _) _⟩
    case measure=>simp[intOf];omega
   .go_roundw
    case rel=>
     have e:a9U s.data.toList (k+1)=a9U s.data.toList k:=by
      rw[a4O _ _ hlt,a6s (by simp;omega),<-a8u _ _ hlt];exact Ay6 _
     exact⟨k+1,by omega,by go_num,e▸hB,hW⟩
    case measure=>simp[intOf];omega
   .go_roundw
    case rel=>
     have e:a9U s.data.toList (k+1)=a9U s.data.toList k:=by
      rw[a4O _ _ hlt,a6s (by simp;omega),<-a8u _ _ hlt];exact Ay6 _
     exact⟨k+1,by omega,by go_num,e▸hB,hW⟩
    case measure=>simp[intOf];omega
  .have hcv:=λ cap=>(b8U s.data.toList k (Av7 hlt)▸hB).back (P:=Tryz.prog) 22 9 cap s.size (by rw[lowerL_len];exact Hl.out.symm) al0 am8 am6
   go_wp2
   go_ret
   exact⟨rfl,hW⟩
set_option maxHeartbeats 400000 in
theorem c7H(s:ByteArray)(hs:s.size<=9223372036854775807)(w:World):
  Calls Tryz.prog 100 #[.string s] w λ e w'=>e= .returned (.string (S (lowerL s.data.toList)))/\Below w.heap.size w w':=by
 have hcv:=λ w=>Lib.run_convert_string_bytes (P:=Tryz.prog) w 9 22 5 s am6 al0 am8
 go_enter Tryz.func100,Tryz.ntmps100
 go_wp2
 clear hcv;have hB0:=BytesAt.new w 5 s;have hW0:=b0I w 5 s;have hl:s.data.toList.length=s.size:=rfl;have Hl:=Lib.hid hl;clear hl;generalize Lib.bytesWorld w 5 s=w0 at*
 go_loopw [9] (λ i wr=>∃k:Nat,k<=s.size/\i= .int .i64 k/\BytesAt wr w.heap.size 5 (a9U s.data.toList k)/\Below w.heap.size w wr) (λ i _=>s.size-(intOf i).toNat)
 case atStart=>exact⟨0,aw7 _,rfl,by grind[b4S],hW0⟩
 case round=>
  clear hB0 hW0;obtain⟨k,hk,rfl,hB,hW⟩:=hrel;by_cases hlt:k<s.size
  .have hkl:k<(a9U s.data.toList k).length:=by rw[b3U];exact hlt
   have hc:=hB.cell hkl;have hf:=hB.frozen hkl;rw[a8u _ _ hlt]at hc;have hset:=hB.set hkl (a4s (s.data.toList[k]'hlt));rw[<-a4O _ _ hlt]at hset
   go_wp2
   .go_roundw
    case rel=>
     rw[b5D ‹_› ‹_›]at hset;exact⟨k+1,by omega,by go_num,hset,hW.setCell (ay3 _) _⟩
    case measure=>simp[intOf];omega
   .go_roundw
    case rel=>
     have e:a9U s.data.toList (k+1)=a9U s.data.toList k:=by
      rw[a4O _ _ hlt,a6s (by simp;omega),<-a8u _ _ hlt];exact Ay6 _
     exact⟨k+1,by omega,by go_num,e▸hB,hW⟩
    case measure=>simp[intOf];omega
   .go_roundw
    case rel=>
     have e:a9U s.data.toList (k+1)=a9U s.data.toList k:=by
      rw[a4O _ _ hlt,a6s (by simp;omega),<-a8u _ _ hlt];exact Ay6 _
     exact⟨k+1,by omega,by go_num,e▸hB,hW⟩
    case measure=>simp[intOf];omega
  .have hcv:=λ cap=>(b8U s.data.toList k (Av7 hlt)▸hB).back (P:=Tryz.prog) 22 9 cap s.size (by rw[lowerL_len];exact Hl.out.symm) al0 am8 am6
   go_wp2
   go_ret
   exact⟨rfl,hW⟩
end
end Go.Proofs.YtfffjfhfafhfmaaGreatDoor
namespace Go.PV
section
open Go.RowKit Go.Proofs Go.Shelf Go.Proofs.YtfffjfhfafhfmaaGreatDoor
def a3o:a5o:=λ a bs=>match a,bs with
 |[.lit (.string s)],[]=>if s.size<=9223372036854775807 then some (vS (lowerL s.data.toList),[])else none
 |_,_=>none
variable {bs:List (List V)} {v:V}
theorem d0t{k:Nat}(b:b6L Tryz.prog k=true)(hc:∀(s:ByteArray),s.size<=9223372036854775807->∀w:World,Go.Calls Tryz.prog k #[.string s] w λ e d=>e= .returned (.string (S (lowerL s.data.toList)))/\Below w.heap.size w d)
  {c:List V} {a:List (List V)} (h:a3o c bs=some (v,a)):a2R Tryz.prog k c bs v a:=by
 unfold a3o at h;split at h
 .next s=>
  split at h
  .next hn=>
   simp only[az0,az8]at h;obtain⟨rfl,rfl⟩:=h;exact a2b (us0:=[.string s]) b (λ _=>rfl) (a1J rfl) λ w hw=>hc s hn w
  .cases h
 .cases h
variable {f:List (List V)} {g:List V}
theorem d9N(h:a3o g bs=some (v,f)):a2R Tryz.prog 29 g bs v f:=
 d0t (by decide+kernel) (λ s hs w=>d2h s hs w) h
theorem d6S(h:a3o g bs=some (v,f)):a2R Tryz.prog 100 g bs v f:=
 d0t (by decide+kernel) (λ s hs w=>c7H s hs w) h
end
end Go.PV
namespace Go.Proofs.YtfffjfhfafhfmaaGreatDoor
section
open Go.RowKit
set_option maxHeartbeats 1000000 in
set_option maxRecDepth 100000 in
theorem c3E(n:Nat)(hn:(n:Int)<=9223372036854775807)(w:World):
  Calls Tryz.prog 48 #[.int .i64 n] w λ e w'=>e= .returned (.string (S (fmtL n)))/\Below w.heap.size w w':=by
 have hp:n<pw 19:=by rw[d8y];omega
 have HP:=Lib.hid hp;have HU:=Lib.hid hn;clear hn hp
 go_enter Tryz.func48,Tryz.ntmps48
 go_wp2_with fail
 go_loopw [0,3] (λ u v wr=>∃m k:Nat,∃suf:List UInt8,u= .int .i64 m/\v= .string (S suf)/\k<=19/\(S suf).size=19-k/\m<=n/\m<pw k/\b2L k m++suf=fmtL n/\Below w.heap.size w wr) (λ u _ _=>(intOf u).toNat)
 case atStart=>exact⟨n,19,[],rfl,rfl,by omega,rfl,ay3 _,HP.out,by simp[fmtL],Below.refl _ _⟩
 case round=>
  obtain⟨m,k,suf,rfl,rfl,hk,hsz,hmn,hpw,hd,hB⟩:=hrel;have hu:=HU.out;have hm2:(m:Int)<=9223372036854775807:=by omega
  have HD:=Lib.hid hd;have HPW:=Lib.hid hpw;have HSZ:=Lib.hid hsz;have hsz1:(S suf).size<=19:=by omega
  have hcv:=λ w=>c9r w (dig m);rw[show((dig m).toNat:Int)=48+(m:Int) % 10 by rw[a7z];omega]at hcv;have happ:S [dig m]++S suf=S (dig m::suf):=by apply Ay3;apply Az4.1;simp[S]
  have HAPP:=Lib.hid happ;have hone:(S [dig m]).size<=1:=by rw[b2a];simp
  clear hd hpw hu hsz happ;by_cases h10:m<10
  .have HX:=Lib.hid (show b2L k m++suf=dig m::suf from by grind[b0v]);have hq:((m:Int)/10==0)=true:=by simp;omega
   go_wp2_with fail
   go_ret
   exact⟨c8O (by rw[HAPP.out,<-HD.out,HX.out]),hB.alloc hB.size _⟩
  .obtain⟨hk0,hq⟩:=c2u HPW.out h10;obtain⟨k',rfl⟩:∃k',k=k'+1:=⟨k-1,by omega⟩;have HX:=Lib.hid (show b2L k' (m/10)++dig m::suf=fmtL n from by rw[<-HD.out,b7E hk0 h10];simp);have HQ:=Lib.hid hq;have hq0:((m:Int)/10==0)=false:=by simp;omega
   have HS2:=Lib.hid (show(S (dig m::suf)).size=19-k' from by have:=HSZ.out;grind[b2a]);clear hq
   go_wp2_with fail
   go_roundw
   case rel=>exact⟨m/10,k',dig m::suf,by go_num,an8 _ HAPP.out,by omega,HS2.out,by omega,HQ.out,HX.out,hB.alloc hB.size _⟩
   case measure=>grind[intOf]
end
section
open Go.RowKit
def b5S(n:Nat):UInt8:=if n % 16<10 then UInt8.ofNat (48+n % 16)else UInt8.ofNat (87+n % 16)
def c1p:Nat->Nat->List UInt8
 |0,n=>[b5S n]
 |f+1,n=>if n<16 then [b5S n]else c1p f (n/16)++[b5S n]
def hexL(n:Nat):List UInt8:=c1p 15 n
def pwh:Nat->Nat
 |0=>16
 |k+1=>16*pwh k
theorem d8C:pwh 15=18446744073709551616:=by decide
variable {f n:Nat}
theorem c5e(h:n<16):c1p f n=[b5S n]:=by cases f<;>simp[c1p,h]
theorem d0x(hf:0<f)(h:¬n<16):c1p f n=c1p (f-1) (n/16)++[b5S n]:=by
 obtain⟨g,rfl⟩:∃g,f=g+1:=⟨f-1,by omega⟩;simp[c1p,h]
theorem d2g(h:n<pwh f)(a:¬n<16):0<f/\n/16<pwh (f-1):=by
 cases f with
 |zero=>grind[pwh]
 |succ g=>grind[pwh]
theorem d8M(m:Nat):(⟨#[48,49,50,51,52,53,54,55,56,57,97,98,99,100,101,102]⟩:ByteArray).extract ((m:Int) % 16).toNat ((m:Int) % 16+1).toNat=S [b5S m]:=by
 have h1:((m:Int) % 16).toNat=m % 16:=by omega
 have h2:((m:Int) % 16+1).toNat=m % 16+1:=by omega
 rw[h1,h2];have hd:S [b5S m]=S [b5S (m % 16)]:=by unfold b5S;simp
 rw[hd];have:∀x,x<16->(⟨#[48,49,50,51,52,53,54,55,56,57,97,98,99,100,101,102]⟩:ByteArray).extract x (x+1)=S [b5S x]:=by decide
 exact this _ (by omega)
set_option maxHeartbeats 1000000 in
set_option maxRecDepth 100000 in
theorem d8e(n:Nat)(hn:(n:Int)<=9223372036854775807)(w:World):
  Calls Tryz.prog 93 #[.int .i64 n] w λ e w'=>e= .returned (.string (S (hexL n)))/\Below w.heap.size w w':=by
 have hp:n<pwh 15:=by rw[d8C];omega
 have HP:=Lib.hid hp;have HU:=Lib.hid hn;clear hn hp
 go_enter Tryz.func93,Tryz.ntmps93
 go_wp2_with fail
 go_loopw [0,3] (λ u v wr=>∃m k:Nat,∃suf:List UInt8,u= .int .i64 m/\v= .string (S suf)/\k<=15/\(S suf).size=15-k/\m<=n/\m<pwh k/\c1p k m++suf=hexL n/\Below w.heap.size w wr) (λ u _ _=>(intOf u).toNat)
 case atStart=>exact⟨n,15,[],rfl,rfl,by omega,rfl,ay3 _,HP.out,by simp[hexL],Below.refl _ _⟩
 case round=>
  obtain⟨m,k,suf,rfl,rfl,hk,hsz,hmn,hpw,hd,hB⟩:=hrel;have hu:=HU.out;have hm2:(m:Int)<=9223372036854775807:=by omega
  have HD:=Lib.hid hd;have HPW:=Lib.hid hpw;have HSZ:=Lib.hid hsz;have hsz1:(S suf).size<=15:=by omega
  have hex1:=d8M m;have happ:S [b5S m]++S suf=S (b5S m::suf):=by apply Ay3;apply Az4.1;simp[S]
  have HAPP:=Lib.hid happ;have hone:(S [b5S m]).size<=1:=by rw[b2a];simp
  clear hd hpw hu hsz happ;by_cases h16:m<16
  .have HX:=Lib.hid (show c1p k m++suf=b5S m::suf from by grind[c5e]);have hq:((m:Int)/16==0)=true:=by simp;omega
   go_wp2_with fail
   go_ret
   exact⟨c8O (by rw[HAPP.out,<-HD.out,HX.out]),hB⟩
  .obtain⟨hk0,hq⟩:=d2g HPW.out h16;obtain⟨k',rfl⟩:∃k',k=k'+1:=⟨k-1,by omega⟩;have HX:=Lib.hid (show c1p k' (m/16)++b5S m::suf=hexL n from by rw[<-HD.out,d0x hk0 h16];simp);have HQ:=Lib.hid hq;have hq0:((m:Int)/16==0)=false:=by simp;omega
   have HS2:=Lib.hid (show(S (b5S m::suf)).size=15-k' from by have:=HSZ.out;grind[b2a]);clear hq
   go_wp2_with fail
   go_roundw
   case rel=>exact⟨m/16,k',b5S m::suf,by go_num,an8 _ HAPP.out,by omega,HS2.out,by omega,HQ.out,HX.out,hB⟩
   case measure=>grind[intOf]
end
end Go.Proofs.YtfffjfhfafhfmaaGreatDoor
namespace Go.PV
section
open Go.RowKit Go.Proofs Go.Shelf Go.Proofs.YtfffjfhfafhfmaaGreatDoor
def c6o(f:Nat->List UInt8):a5o:=λ a bs=>match a,bs with
 |[.lit (.int .i64 n)],[]=>if 0<=n/\n<=9223372036854775807 then some (vS (f n.toNat),[])else none
 |_,_=>none
variable {bs:List (List V)} {v:V}
theorem d0k{k:Nat}{f:Nat->List UInt8}(b:b6L Tryz.prog k=true)(hc:∀(n:Nat),(n:Int)<=9223372036854775807->∀w:World,Go.Calls Tryz.prog k #[.int .i64 n] w λ e d=>e= .returned (.string (S (f n)))/\Below w.heap.size w d)
  {c:List V} {a:List (List V)} (h:c6o f c bs=some (v,a)):a2R Tryz.prog k c bs v a:=by
 unfold c6o at h;split at h
 .next n=>
  split at h
  .next hn=>
   simp only[az0,az8]at h;obtain⟨rfl,rfl⟩:=h;obtain⟨m,rfl⟩:∃m:Nat,n=m:=⟨n.toNat,by omega⟩;exact a2b (us0:=[.int .i64 m]) b (λ _=>rfl) (a1J rfl) λ w hw=>hc m hn.2 w
  .cases h
 .cases h
variable {g:List (List V)} {i:List V}
theorem d9M(h:c6o fmtL i bs=some (v,g)):a2R Tryz.prog 48 i bs v g:=
 d0k (by decide+kernel) (λ n hn w=>c3E n hn w) h
theorem e0n(h:c6o hexL i bs=some (v,g)):a2R Tryz.prog 93 i bs v g:=
 d0k (by decide+kernel) (λ n hn w=>d8e n hn w) h
end
section
open Go.RowKit Go.Proofs Go.Shelf
theorem c8m(r:Int)(h:128<=r):∃(k:Nat) (x:UInt8),(Utf8.encode r).size=k+1/\1<=k/\k<=3/\128<=x.toNat/\∀hh,(Utf8.encode r)[k]'hh=x:=by
 have e:∀n:Nat,128<=(UInt8.ofNat (128+n % 64)).toNat:=λ n=>by
  rw[UInt8.toNat_ofNat'];omega
 obtain⟨c,hc⟩:∃c,(if Utf8.valid r=true then r.toNat else Utf8.runeError)=c:=⟨_,rfl⟩;have hc2:¬c<0x80:=by
  split at hc
  .omega
  .subst hc;decide
 have key:∀b:ByteArray,Utf8.encode r=b->(∃(k:Nat) (x:UInt8),b.size=k+1/\1<=k/\k<=3/\128<=x.toNat/\∀hh,b[k]'hh=x)->∃(k:Nat) (x:UInt8),(Utf8.encode r).size=k+1/\1<=k/\k<=3/\128<=x.toNat/\∀hh,(Utf8.encode r)[k]'hh=x:=λ b hb h=>by grind
 by_cases h1:c<0x800
 .exact key ⟨#[UInt8.ofNat (0xC0+c/64),UInt8.ofNat (0x80+c % 64)]⟩ (by simp_all[Utf8.encode]) ⟨1,_,rfl,by omega,by omega,e c,λ _=>rfl⟩
 .by_cases h2:c<0x10000
  .exact key ⟨#[UInt8.ofNat (0xE0+c/4096),UInt8.ofNat (0x80+c/64 % 64),UInt8.ofNat (0x80+c % 64)]⟩ (by simp_all[Utf8.encode,ay9]) ⟨2,_,rfl,by omega,by omega,e c,λ _=>rfl⟩
  .exact key ⟨#[UInt8.ofNat (0xF0+c/262144),UInt8.ofNat (0x80+c/4096 % 64),UInt8.ofNat (0x80+c/64 % 64),UInt8.ofNat (0x80+c % 64)]⟩ (by simp_all[Utf8.encode,ay9]) ⟨3,_,rfl,by omega,by omega,e c,λ _=>rfl⟩
set_option maxHeartbeats 2000000 in
set_option maxRecDepth 1000000 in
theorem c0N(cs:ByteArray)(hs:cs.size=2)(has:∀(j:Nat) b,cs.data.toList[j]?=some b->b.toNat<128)(r:Int)(h0:128<=r)(w:World):
  Go.Calls Tryz.prog 350 #[.string cs,.int .i32 r] w λ e w'=>e= .returned (.int .i64 (-1))/\Below w.heap.size w w':=by
 have b6A:Tryz.prog.follows Departure.mixedOrders=true:=by kernel_rfl
 have e247:∀args w,(callFunc 247 args).run Tryz.prog w= .ok (.enter 247 args) w:=enters_of Tryz.func247 (by kernel_rfl) rfl;have e392:∀args w,(callFunc 392 args).run Tryz.prog w= .ok (.enter 392 args) w:=enters_of Tryz.func392 (by kernel_rfl) rfl;have hr1:decide (r<128)=false:=an1 (by omega)
 go_enter Tryz.func350,Tryz.ntmps350
 by_cases hre:r=65533
 .subst hre;have HA:Aside (∀(j:Nat) b,cs.data.toList[j]?=some b->b.toNat<128):=has;clear has hs
  go_wp2
  go_loopg [5,6] cs.size (λ g _ _ wx=>∃i:Nat,i+g=cs.size/\wx=w.iter cs i)
  case atStart=>grind
  case round=>
   obtain⟨i,hig,rfl⟩:=hrel;cases gk with
   |zero=>
    obtain rfl:i=cs.size:=by omega
    have hnx:=run_next_end (P:=Tryz.prog) w cs cs.size
    go_wp2
    go_ret
    exact⟨rfl,(Below.refl _ _).alloc (ay3 _) _⟩
   |succ g=>
    have hi:i<cs.size:=by omega
    obtain⟨x,hx⟩:∃x:UInt8,cs[i]'hi=x:=⟨_,rfl⟩;have hx128:x.toNat<128:=HA.out i x (by grind[Lib.data_getElem?]);have hnx:=λ ty=>run_next_ascii (P:=Tryz.prog) w cs i ty hi (by grind);rw[hx]at hnx;have hne:((x.toNat:Int)==65533)=false:=Ay8.2 (by omega);clear hx
    go_wp2
    go_roundg g
    all_goals grind
 .have hre':(r==65533)=false:=Ay8.2 hre;obtain⟨k,x,hk,hk1,hk3,hx,hkx⟩:=c8m r h0;have hcv:∀w,(convert 21 9 (.int .i32 r)).run Tryz.prog w= .ok (.string (Utf8.encode r)) w:=λ w=>run_convert_int_string w 21 9 .i32 r (by kernel_rfl) (by kernel_rfl);generalize hq:Utf8.encode r=q at*;have hkw:IntKind.i64.wrap ((q.size:Int)-1)=(k:Int):=by rw[wrap_small _ (by omega) (by omega)];omega
  go_wp2
  all_goals first
   |(go_ret;exact⟨rfl,Below.refl _ _⟩)
   |(apply wp_scope_straight;go_wp2;go_loop [9] (λ v=>v= .int .i64 (k:Int)) (λ _=>0))
  all_goals first
   |rfl
   |skip
  all_goals
   first
    |(rename_i hrel;subst hrel)
    |skip
  all_goals
   by_cases hk2:k=1
   .subst hk2;have hkc:1<cs.size:=by omega
    have hkq:1<q.size:=by omega
    obtain⟨y,hy⟩:∃y:UInt8,cs[1]'hkc=y:=⟨_,rfl⟩;have hy2:y.toNat<128:=has 1 y (by rw[<-hy];exact Lib.data_getElem? cs 1 hkc);have hkx1:=hkx hkq;have hne:((y.toNat:Int) !=(x.toNat:Int))=true:=Av2.2 (by omega);have hIB:∀w,Go.Calls Tryz.prog 247 #[.string ByteArray.empty,.int .u8 (x.toNat:Int)] w λ e w'=>e= .returned (.int .i64 (-1))/\w'=w:=λ w=>Any.strings_IndexByte d5H ByteArray.empty (x.toNat:Int) w;have hw2:IntKind.i64.wrap 2=2:=by decide
    clear hkx has
    go_wp2
    apply wp_scope_straight
    go_wp2
    go_quiet (fail)
    go_wp2
    go_quiet (exact(hIB _).mono λ _ _ ⟨he,hm⟩=>⟨he,_,hm⟩)
    go_wp2
    dsimp +zetaDelta only[Exit.noGoto,Exit.inBlock,Exit.then]
    go_ret
    exact⟨rfl,below_drewN (Below.refl _ _) _⟩
   .have hlt:decide ((k:Int)<(cs.size:Int))=false:=an1 (by omega)
    go_wp2
    go_ret
    exact⟨rfl,Below.refl _ _⟩
theorem d2o(s:ByteArray)(i:Nat):1<=(Utf8.decode s i).2:=by
 grind[Utf8.decode]
def b6N(cs:List UInt8)(s:ByteArray):Nat->Nat->Int
 |0,_=> -1
 |f+1,i=>if i<s.size then(if(Utf8.decode s i).1<128/\0<=Lib.indexByte cs (Utf8.decode s i).1.toUInt8 then i else b6N cs s f (i+(Utf8.decode s i).2))else -1
set_option maxHeartbeats 2000000 in
set_option maxRecDepth 1000000 in
theorem b5j(s cs:ByteArray)(h2:cs.size=2)(has:∀(j:Nat) b,cs.data.toList[j]?=some b->b.toNat<128)(h8:s.size<=8)(w:World):
  Go.Calls Tryz.prog 266 #[.string s,.string cs] w λ e w'=>e= .returned (.int .i64 (b6N cs.data.toList s s.size 0))/\Below w.heap.size w w':=by
 have hHI:=c0N cs h2 has;have hLO:∀(r:Int) (w:World),0<=r->r<128->Go.Calls Tryz.prog 350 #[.string cs,.int .i32 r] w λ e w'=>e= .returned (.int .i64 (Lib.indexByte cs.data.toList r.toNat.toUInt8))/\w'=w:=λ r w h0 h1=>Any.strings_IndexRune_ascii {d1V with} cs r w h0 h1;clear has;have hemp:cs.toList.isEmpty=false:=by
  rw[Lib.toList_data];cases h:cs.data.toList with
  |nil=>grind[Lib.size_eq]
  |cons _ _=>rfl
 have hn1:((cs.size:Int)==1)=false:=Ay8.2 (by omega);have h8z:decide ((8:Int)<(s.size:Int))=false:=an1 (by omega);obtain⟨R,hR⟩:∃R,b6N cs.data.toList s s.size 0=R:=⟨_,rfl⟩;rw[hR];have HR:Aside (b6N cs.data.toList s s.size 0=R):=hR;clear hR h2 h8;have e350:∀args w,(callFunc 350 args).run Tryz.prog w= .ok (.enter 350 args) w:=enters_of Tryz.func350 (by kernel_rfl) rfl;have e351:∀args w,(callFunc 351 args).run Tryz.prog w= .ok (.enter 351 args) w:=enters_of Tryz.func351 (by kernel_rfl) rfl
 go_enter Tryz.func266,Tryz.ntmps266
 go_wp2_with (go_at_fn 351;refine(Any.strings_shouldUseASCIISet (ρ:=shR) {d1V with} _ _).mono ?_;rintro e w' ⟨rfl,hw⟩;rw[hw,h8z])
 go_loopg [9,10] s.size (λ g _ _ wx=>∃i f:Nat,s.size-i=g/\s.size<=i+f/\Below w.heap.size w wx/\wx.heap[w.heap.size]?=some (.stringIter s i)/\b6N cs.data.toList s f i=R)
 case atStart=>exact⟨0,s.size,by omega,by omega,(Below.refl _ _).alloc (ay3 _) _,World.iter_heap ..,HR.out⟩
 case round=>
  obtain⟨i,f,hig,hif,hbel,hit,hres⟩:=hrel;have HS:Aside (b6N cs.data.toList s f i=R):=hres;clear hres HR;by_cases hi:i<s.size
  .have hnx:=λ ty=>Go.Lib.run_next_any_at (P:=Tryz.prog) wr w.heap.size s i ty hit hi;have hdp:=d2o s i;have hb1:Below w.heap.size w (wr.iterAt w.heap.size s (i+(Utf8.decode s i).2)):=Go.Lib.below_iterAt hbel (ay3 _) s _;have hit1:=Go.Lib.iterAt_heap wr w.heap.size s i (i+(Utf8.decode s i).2) hit;obtain⟨f,rfl⟩:∃f',f=f'+1:=⟨f-1,by omega⟩;have hs1:=HS.out;rw[b6N,ax3 hi]at hs1;clear HS hit hbel;generalize wr.iterAt w.heap.size s (i+(Utf8.decode s i).2)=w1 at hnx hb1 hit1;generalize (Utf8.decode s i).2=n at hnx hdp hit1 hs1;generalize (Utf8.decode s i).1=r at hnx hs1;have hlt1:w.heap.size<w1.heap.size:=(as3.1 hit1).1;by_cases hr:r<128
   .have hL:=hLO r w1 (by omega) (by omega);have e8:(r:Int).toNat.toUInt8=r.toUInt8:=rfl;rw[e8]at hL;obtain⟨x,hxe⟩:∃x,Lib.indexByte cs.data.toList r.toUInt8=x:=⟨_,rfl⟩;rw[hxe]at hL hs1;clear hxe;by_cases hx:0<=x
    .rw[ax3 ⟨hr,hx⟩]at hs1;have HS:Aside ((i:Int)=R):=hs1;clear hs1 hHI hLO
     go_wp2_with (go_at_fn 350;refine hL.mono ?_;rintro e w' ⟨rfl,hw⟩;rw[hw])
     go_ret
     exact⟨by rw[HS.out];rfl,hb1⟩
    .rw[ay9 (λ h=>hx h.2)]at hs1;have HS:Aside (b6N cs.data.toList s f (i+n)=R):=hs1;clear hs1 hHI hLO
     go_wp2_with (go_at_fn 350;refine hL.mono ?_;rintro e w' ⟨rfl,hw⟩;rw[hw])
     go_roundg (s.size-(i+n))
     case measure=>omega
     case rel=>exact⟨i+n,f,rfl,by omega,hb1,hit1,HS.out⟩
   .rw[ay9 (λ h=>hr h.1)]at hs1;have HS:Aside (b6N cs.data.toList s f (i+n)=R):=hs1;have hH:=hHI r (by omega) w1;clear hs1 hHI hLO
    go_wp2_with (go_at_fn 350;refine hH.mono ?_;rintro e w2 ⟨rfl,hw⟩)
    go_roundg (s.size-(i+n))
    case measure=>omega
    case rel=>exact⟨i+n,f,rfl,by omega,hb1.trans ⟨hw.os,hw.tape,hw.output,by have:=hw.size;omega,λ k hk=>hw.block k (by omega)⟩,by rw[hw.block _ hlt1];exact hit1,HS.out⟩
  .have hnx:=λ ty=>Go.Lib.run_next_end_at (P:=Tryz.prog) wr w.heap.size s i ty hit hi
   go_wp2
   go_ret
   refine⟨?_,hbel⟩;have h1:(-1:Int)=R:=by
    have h1:=HS.out;cases f with
    |zero=>grind[b6N]
    |succ f=>grind[b6N]
   rw[h1];rfl
def a4M:a5o:=λ c bs=>match c,bs with
 |[.lit (.string s),.lit (.string ⟨⟨[a,b]⟩⟩)],[]=>if a.toNat<128/\b.toNat<128/\s.size<4294967281 then some (vI (if 8<s.size then Lib.indexAny s.data.toList [a,b]else b6N [a,b] s s.size 0),[])else none
 |_,_=>none
theorem d8v{xa:List V}{bs bs':List (List V)}{v:V}(h:a4M xa bs=some (v,bs')):a2R Tryz.prog 266 xa bs v bs':=by
 unfold a4M at h;split at h
 .next s a b=>
  split at h
  .next hs=>
   simp only[az0,az8]at h;obtain⟨rfl,rfl⟩:=h;refine a2b (us0:=[.string s,.string ⟨⟨[a,b]⟩⟩]) (by decide+kernel) (λ _=>rfl) (a1J rfl) λ w hw=> ?_;have has:=c9o a b hs.1 hs.2.1;by_cases h8:8<s.size
   .rw[ax3 h8];refine(Any.strings_IndexAny_long d1V c5w (by kernel_rfl) s ⟨⟨[a,b]⟩⟩ w (ay3 2) h8 hs.2.2 (show 2<4294967281 by omega) has).mono λ e w' ⟨h1,h2⟩=>⟨h1,?_⟩;rw[h2];exact((Below.refl _ _).alloc (ay3 _) _).alloc (by simp) _
   .rw[ay9 h8];exact b5j s ⟨⟨[a,b]⟩⟩ rfl has (by omega) w
  .cases h
 .cases h
end
end Go.PV
namespace Go.SN
section
open Go Go.PV
def a4w:Nat->Option Fp:=λ k=>match k with
 |27=>some c6t|29=>some a3o|48=>some (c6o Go.Proofs.YtfffjfhfafhfmaaGreatDoor.fmtL)|93=>some (c6o Go.Proofs.YtfffjfhfafhfmaaGreatDoor.hexL)|94=>some a5w|100=>some a3o|132=>some a7p|145=>some c0G|170=>some a5w|226=>some a7p|247=>some a4H|259=>some a5b
 |266=>some a4M|286=>some a2l|288=>some a8V|345=>some b3x|348=>some a8i|397=>some a4b|398=>some a4E|409=>some a4y|411=>some a5P|_=>none
theorem b2x:∀k,prL.contains k=false->a4w k=none:=λ k h=>by
 unfold a4w;split;all_goals first|rfl|(exact absurd h (by decide))
end
end Go.SN
namespace Go.PV
section
open Go.RowKit
section
variable {P:Program} {call:Calls} {ops:Array Oper} {S:Nat->St} {R:Nat->Out} {F:Nat->List Nat×List Nat} {D:Nat->Bool} {base:Nat} {E:List Nat} {I w:World} {J:Mem} {H:Pl} {a:Act}
def Mix(ops:Array Oper)(S:Nat->St)(R:Nat->Out)(base:Nat)(E:List Nat)(I:World)(J:Mem)(H:Pl)(D:Nat->Bool)(a:Act)(w:World):Prop:=
 ∃M μ,J.le M/\NewMem base E J M/\H.le μ/\Inv base E I M μ (a0b (c2l (S 0).h R D ops.size)) w/\Slots M μ (b8o ops (S 0) R D ops.size) a/\
  (∀i,(S 0).nx<=i->μ i≠none->∃j,j<ops.size/\D j=true/\(S j).nx<=i/\i<(S (j+1)).nx)/\a.defers=[]/\a.tmps.size=(S 0).sz
variable {M:Mem} {μ:Pl}
theorem Inv.congrG{g g':G}(h:Inv base E I M μ g w)(e:∀i,g i=g' i):Inv base E I M μ g' w:=by
 have:g=g':=Ax9 e;rw[<-this];exact h
variable {b get:Nat->V} {d:Option Tmp} {u:Value}
theorem c9z{sz:Nat}{v:V}(hS:Slots M μ get a)(hv:RepV M μ v u)(hz:a.tmps.size=sz)(he:∀t,b t=if d=some t/\t<sz then v else get t):Slots M μ b (a.put d u):=by
 intro t;rw[he t];cases d with
 |none=>simpa[Act.put]using hS t
 |some d=>
  show RepV M μ _ ((a.tmps.setIfInBounds d u).getD t undef);by_cases hd:some d=some t/\t<sz
  .simp_all
  .rw[ay9 hd];have:(a.tmps.setIfInBounds d u).getD t undef=a.tmps.getD t undef:=by
    simp only[ax6,Ay7];by_cases e:d=t
    .grind
    .simp[e]
   rw[this];exact hS t
theorem a9J:(a.put d u).tmps.size=a.tmps.size/\(a.put d u).defers=a.defers:=by
 cases d<;>simp[Act.put]
variable {o:Oper}
theorem c2Z(h:∀t∈a5n ops o,get t=b t):a0V ops o get=a0V ops o b:=by
 grind[a0V,a5n]
theorem c4Z(hS:Slots M μ get a):a0V ops o get=Region.wanted o (yielded ops a.tmps):=by
 unfold a0V Region.wanted;cases o.guard with
 |none=>rfl
 |some p=>
  obtain⟨j,b⟩:=p;simp only;unfold yielded;cases hd:(ops[j]?).bind (·.dst)with
  |none=>simp
  |some d=>simp only[az1];have hr:=hS d;rw[ax6]at hr;grind[a1z,undef,b6h]
theorem Mix.step(hc:CallsOk P call)(hR:Run P call ops S R F)(hs:(S 0).sz<=256){i:Nat}(ht:Turn ops F D i)(hm:Mix ops S R base E I J H D a w){K:Act->World->Prop}{Q:Exit->Act->World->Prop}
  (hK:∀y o,Mix ops S R base E I J H (λ j=>j==i||D j) y o->K y o):wpOp P ops Q i K a w:=by
 have hi:=ht.lt;have ho:ops[i]?=some ops[i]:=aw0 hi;obtain⟨M,μ,m1,m2,m3,m4,m5,m6,m7,m8⟩:=hm;obtain⟨C,z,A⟩:=hR.at_ hs (aq5 hi);have b:∀t∈a5n ops ops[i],b8o ops (S 0) R D ops.size t=(S i).get t:=λ t hx=>by
  rw[A t];exact ht.see (λ k hk hw=>hR.wrS_foot hk hw) (.inl (hR.slot_foot hi hx))
 have hw:a0V ops ops[i] (b8o ops (S 0) R D ops.size)=a0V ops ops[i] (S i).get:=c2Z b;have d:∀t,b8o ops (S 0) R (λ j=>j==i||D j) ops.size t=if ops[i].dst=some t/\t<(S 0).sz then(R i).v else b8o ops (S 0) R D ops.size t:=λ t=>by
  rw[b8o,ht.set (λ k hk hw=>hR.wrS_foot hk hw)];have:wrS ops (S 0).sz t i=decide (ops[i].dst=some t/\t<(S 0).sz):=by
   unfold wrS;rw[ho];simp only[az1,Bool.decide_and]
   congr 1
   grind
  rw[this];by_cases hc:ops[i].dst=some t/\t<(S 0).sz
  .grind
  .rw[ay9 hc];simp only[hc,decide_false];rfl
 unfold wpOp;rw[ho];simp only;rw[<-c4Z m5,hw];cases e:a0V ops ops[i] (S i).get with
 |false=>
  simp only[ay6,av8];obtain⟨hr,_⟩:=hR.no i _ ho e;refine hK _ _ ⟨M,μ,m1,m2,m3,m4.congrG λ l=> ?_,c9z m5 .und m8 (λ t=>by grind),λ l hl hp=> ?_,by grind[a9J],by grind[a9J]⟩
  .rw[a3l,a3l,ht.set (x:=2*l) (λ k hk hw=>hR.wrB_foot hk hw)];grind[wrB]
  grind
 |true=>
  simp only[aw4];obtain⟨q,hF⟩:=hR.yes i _ ho e;have f:Agree (a0b (c2l (S 0).h R D ops.size)) (a0b (S i).h) (a3q (S i).get ops[i]++a2w (S i).get (a0b (S i).h) ops[i]):=λ l hl=>by
   rw[z,a3l,a3l];refine ht.see (x:=2*l) (λ k hk hw=>hR.wrB_foot hk hw) ?_;rw[hF];simp only[a5A,ax1,ax5];grind
  have r:∀x∈ops[i].op.operands,ev (b8o ops (S 0) R D ops.size) x=ev (S i).get x:=c6A λ t hx=>b t (by
   simp only[a5n,ax1,Az5];exact .inr ⟨.tmp t,by grind,rfl⟩)
  have g:opE P call (b8o ops (S 0) R D ops.size) (a0b (c2l (S 0).h R D ops.size)) (S i).nx ops[i]=some (R i):=by
   rw[d1J _ r,<-q];have c:Agree (a0b (S i).h) (a0b (c2l (S 0).h R D ops.size)) (a3q (S i).get ops[i]++a2w (S i).get (a0b (S i).h) ops[i]):=λ l hl=>(f l hl).symm;exact(d2H _ c).symm
  have m:∀l,(S i).nx<=l->l<(S i).nx+(R i).cnt->μ l=none:=λ l h1 h2=>by
   refine At1 λ hp=> ?_;obtain⟨j,j1,j2,j3,j4⟩:=m6 l (av9 (hR.nx_mono (aw7 i) (aq5 hi)) h1) hp;rw[<-hR.nx_step hi]at h2;rcases Nat.lt_trichotomy i j with h|h|h
   .have:=hR.nx_mono (i:=i+1) (j:=j) h (aq5 j1);omega
   .subst h;rw[ht.not]at j2;cases j2
   .have:=hR.nx_mono (i:=j+1) (j:=i) h (aq5 hi);omega
  refine .inl (c6M hc m4 m5 m g K Q λ u o B s k1 k2 k3 k4 k5 k6=>hK _ _ ?_);refine⟨B,s,Mem.le_trans m1 k1,m2.trans k2,Pl.le_trans m3 k3,k5.congrG λ l=> ?_,c9z (λ t=>(m5 t).mono k1 k3) k4 m8 d,λ l hl hp=> ?_,by grind[a9J],by grind[a9J]⟩
  .have e1:a0b ((R i).upd++c2l (S 0).h R D ops.size) l=a9H (a0b (S 0).h l) (wrB R l) (newB R l) (λ j=>j==i||D j) ops.size:=by
    rw[ht.set (x:=2*l) (λ k hk hw=>hR.wrB_foot hk hw),<-a3l (h:=(S 0).h)];rw[a5e];unfold upd;cases hf:(R i).upd.find? (λ p=>p.1==l)with
    |none=>grind[wrB]
    |some p=>grind[wrB,newB]
   rw[e1,a3l]
  .by_cases n:(S i).nx<=l/\l<(S i).nx+(R i).cnt
   .exact⟨i,hi,by simp,n.1,by rw[hR.nx_step hi];exact n.2⟩
   grind
theorem c6G{b:Array Bool}(hz:b.size=ops.size)(he:a8E ops=true)(hr:Region.ready .any ops b=[]):∀j,j<ops.size->b.getD j false=true:=by
 intro j;induction j using Nat.strongRecOn with
 |ind j ih=>
  intro hj;cases hd:b.getD j false with
  |true=>rfl
  |false=>
   have:j∈Region.ready .any ops b:=by
    rw[mem_ready];have c:j<b.size:=by omega
    refine⟨by grind,ops[j],aw0 hj,λ e hm hb=> ?_⟩;unfold a8E at he;rw[ay5]at he;have h1:=he (ops[j],j) (by grind);rw[ay5]at h1;have h2:=h1 e (by grind);rw[hb]at h2;have h3:e.on<j:=by simpa using h2
    exact ih e.on h3 (by omega)
   grind
theorem b8K(hR:Run P call ops S R F)(hs:(S 0).sz<=256)(hD:∀j,j<ops.size->D j=true)(hm:Mix ops S R base E I J H D a w):StOk P base E I J H (S ops.size) a w:=by
 obtain⟨M,μ,m1,m2,m3,m4,m5,m6,m7,m8⟩:=hm;obtain⟨c,d,b⟩:=hR.at_ hs (ay3 _);refine⟨M,μ,m1,m2,m3,m4.congrG λ l=> ?_,λ t=> ?_,λ l hl=> ?_,m7,by grind,by grind⟩
 .grind[a3l,a4K]
 .rw[b t];have e:b8o ops (S 0) R D ops.size t=b8o ops (S 0) R (λ _=>true) ops.size t:=a4K λ j hj _=>hD j hj;rw[<-e];exact m5 t
 .refine At1 λ hp=> ?_;obtain⟨j,j1,j2,j3,j4⟩:=m6 l (av9 (hR.nx_mono (aw7 _) (ay3 _)) hl) hp;have:=hR.nx_mono (i:=j+1) (j:=ops.size) j1 (ay3 _);omega
theorem c9Q(hc:CallsOk P call)(hR:Run P call ops S R F)(hs:(S 0).sz<=256)(he:a8E ops=true)(c:d2U ops F){Q:Exit->Act->World->Prop}(hQ:∀a w,StOk P base E I J H (S ops.size) a w->Q .normal a w):
  ∀(fuel:Nat) (b:Array Bool) (a:Act) (w:World),b.size=ops.size->b.toList.count false<=fuel->Cl ops (λ j=>b.getD j false)->Mix ops S R base E I J H (λ j=>b.getD j false) a w->
   wpAny P .any ops Q fuel b a w
 |0,b,a,w,hz,hf,d,hm=>by
  have e:∀j,j<ops.size->b.getD j false=true:=λ j hj=>by
   have g:j<b.size:=by omega
   rw[ax6,aw0 g,an3];grind[ar7]
  refine⟨?_,hQ _ _ (b8K hR hs e hm)⟩;apply List.eq_nil_iff_forall_not_mem.2;grind[mem_ready]
 |fuel+1,b,a,w,hz,hf,d,hm=>by
  refine⟨λ hr=>hQ _ _ (b8K hR hs (c6G hz he hr) hm),λ i hi=> ?_⟩;obtain⟨h0,o,ho,h⟩:=mem_ready.1 hi;have f:i<ops.size:=(as3.1 ho).1;have k:i<b.size:=by omega
  have l:o=ops[i]:=by rw[aw0 f]at ho;injection ho with ho;exact ho.symm
  subst l;have m:b.getD i false=false:=by
   rw[ax6,aw0 k]at h0|-;exact h0
  have p:(λ j=>(b.setIfInBounds i true).getD j false)=λ j=>j==i||b.getD j false:=by
   funext j
   by_cases q:j=i
   .simp_all
   .simp_all[as7]
  obtain⟨ht,n⟩:=Turn.of (D:=λ j=>b.getD j false) c d f m h;refine Mix.step hc hR hs ht hm λ r s t=>c9Q hc hR hs he c hQ fuel _ r s (by grind) ?_ (by grind) (by grind);simp_all[List.count_set]
theorem d3R(hf:P.follows .mixedOrders=true)(hc:CallsOk P call):b5A P call:=by
 intro base E I w J H a id ops s n fs b c f;obtain⟨hl,S,R,g,m,hR⟩:=c8P c;obtain⟨he,d⟩:=b1p hl f;obtain⟨M,μ,b⟩:=b;subst g;refine wp_region_any hf (c9Q hc hR b.small he d (λ a w h=>⟨av5,by rw[<-m];exact h⟩) _ _ _ _ (by simp) (by simp) ?_ ?_)
 .intro j o _ hj;by_cases h:j<ops.size<;>simp[h]at hj
 .have e:∀l k,a9H (a0b (S 0).h l) (wrB R l) (newB R l) (λ j=>(Array.replicate ops.size false).getD j false) k=a0b (S 0).h l:=λ l k=>by
   induction k with
   |zero=>rfl
   |succ k ih=>
    have:(Array.replicate ops.size false).getD k false=false:=by by_cases h:k<ops.size<;>simp[h]
    simp_all[a9H]
  have e2:∀t k,b8o ops (S 0) R (λ j=>(Array.replicate ops.size false).getD j false) k t=(S 0).get t:=λ t k=>by
   induction k with
   |zero=>rfl
   |succ k ih=>
    have:(Array.replicate ops.size false).getD k false=false:=by by_cases h:k<ops.size<;>simp[h]
    simp_all[b8o,a9H]
  refine⟨M,μ,b.le,b.fresh,b.ple,(b.inv.drawn _).congrG λ l=> ?_,λ t=> ?_,λ i hi hp=>absurd (b.new i hi) hp,b.defers,b.size⟩
  .rw[a3l,e]
  .rw[e2];exact b.slots t
end
end
section
section
variable (P:Program)
def a0K(call:Calls)(n:Nat):Code->St->Option (Ex×St)
 | .skip,s| .label _,s=>some (.normal,s)
 | .region _ ops _,s=>(a0I P call ops ops.toList s).map (.normal, ·)
 | .seq a b,s=>match a0K call n a s with
   |some (.normal,s)=>a0K call n b s
   |r=>r
 | .cond c a b,s=>match ev s.get c with
   |some (.lit (.bool t))=>if t then a0K call n a s else a0K call n b s
   |_=>none
 | .block id b,s=>match a0K call n b s with
   |some (.exit j,s)=>some (if j=id then .normal else .exit j,s)
   |r=>r
 | .loop b,s=>iter (a0K call n b) n s
 | .scope b,s=>a0K call n b s
 | .exit id,s=>some (.exit id,s)
 | .ret,s=>some (.ret,s)
 |_,_=>none
def a7O(call:Calls)(n:Nat)(k:Nat)(args:List V)(bs:List (List V)):Option (V×List (List V)):=do
 let(h,nx):=a0w 0 ([],bs.length) bs;let fn<-P.funcs[k]?;let sz:=max args.length fn.ntmps;let(x,s)<-a0K P call n (<-fn.body) {env:=a0u args 0 .leaf,h:=h,nx:=nx,sz:=sz}
 match x with
 | .exit _=>none
 |_=>do
  let v<-a0m P fn s;let(v,w)<-a5t k (a0b s.h) s.nx v;let(l,ms,ks)<-a0G (a1x (a0b s.h)) w (List.range bs.length)
  if !(a1u (a0b s.h) ms ks)then none
  pure (v,l)
end
variable {P:Program} {call:Calls}
theorem b1a{ops:Array Oper}:∀{l:List Oper} {s e:St} {fs:List (List Nat×List Nat)},a4g P call ops l s=some (fs,e)->a0I P call ops l s=some e
 |[],s,e,fs,h=>by
  grind[a4g,a0I]
 |o::r,s,e,fs,h=>by
  unfold a4g at h;unfold a0I;cases h1:a0v P call ops o s with
  |none=>grind
  |some a=>
   simp only[h1]at h|-;cases h2:a4g P call ops r a with
   |none=>grind
   |some q=>
    obtain⟨b,c⟩:=q;simp only[h2]at h;have:c=e:=by
     split at h
     .grind
     .grind
    rw[<-this];exact b1a h2
theorem c3n{f g:St->Option (Ex×St)}(a:∀s r,f s=some r->g s=some r):∀{n:Nat} {s:St} {r:Ex×St},iter f n s=some r->iter g n s=some r
 |0,s,r,h=>by cases h
 |n+1,s,r,h=>by
  unfold iter at h|-;cases h1:f s with
  |none=>simp[h1]at h
  |some q=>
   obtain⟨x,b⟩:=q;rw[a _ _ h1];rw[h1]at h;cases x with
   |normal=>exact c3n a h
   |exit i=>exact h
   |ret=>exact h
variable {n:Nat}
theorem c8K:∀{c:Code} {s:St} {r:Ex×St},a0e P call n c s=some r->a0K P call n c s=some r:=by
 intro c;induction c with
 |region i ops d=>
  intro s r h;cases d with
  |false=>grind[a0e,a0K]
  |true=>
   simp only[a0e]at h;cases h1:a4g P call ops ops.toList s with
   |none=>grind
   |some q=>
    obtain⟨fs,e⟩:=q;simp only[h1]at h;split at h
    .simp only[a0K,b1a h1,ax0];exact h
    .cases h
 |seq a b f j=>
  intro s r h;simp only[a0e]at h;simp only[a0K];cases h1:a0e P call n a s with
  |none=>grind
  |some q=>grind
 |cond c a b f j=>intro s r h;simp only[a0e]at h;simp only[a0K];grind
 |block id b ih=>grind[a0e,a0K]
 |loop b ih=>grind[a0e,a0K,c3n]
 |scope b ih=>grind[a0e,a0K]
 |_=>grind[a0e,a0K]
variable {args:List V} {k:Nat}
theorem b8S{prim:Nat->Option Fp}{inl:Nat->Bool}{bs:List (List V)}{r:V×List (List V)}(hp:prim k=none)
  (h:(a0d P prim inl (n+1)).cbv k args bs=some r):a7O P (a0d P prim inl n) n k args bs=some r:=by
 simp only[a0d,hp,a1j,Az0,az3]at h;obtain⟨⟨v,s⟩,h1,h2⟩:=h;obtain⟨fn,f1,h1⟩:=h1;split at h1
 .cases h1
 simp only[Az1,az3]at h1;obtain⟨c,f2,⟨x,a⟩,f3,h1⟩:=h1;unfold a7O;simp only[Az0,f1,az1,f2,c8K f3];cases x with
 |exit i=>cases h1
 |normal=>grind[az3]
 |ret=>grind[az3]
theorem a2i{S A:Type}{f:S->A->Option (A×S)}{s:S}:∀{l:List A},(∀a∈l,f s a=some (a,s))->a0G f s l=some (l,s)
 |[],_=>rfl
 |a::l,h=>by
  rw[a0G,h a (ay1 ..)];simp only;rw[a2i λ b hb=>h b (az9 _ hb)]
def isD(v:V):Prop:=(∀d g ms,a0C (d+1) g ms v=some (v,ms))/\(∀s,a0J s v=(v,s))/\(∀g s,a0h g s v=some (v,s))/\(∀d g s,a1y (d+1) g s v=some (v,s))/\a6J v=false/\(∀i,a0S i v=v)/\(∀i,a0H i v=v)/\v.cells=[v]/\a0r v=true/\a4Z v=false/\(∀cs,v≠ .agg cs)/\(∀xs,v≠ .tup xs)
variable {g:G} {s:List Nat×List Nat} {v:V}
theorem b3j{d:Nat}(h:∀d g ms,a0C (d+1) g ms v=some (v,ms))(h1:∀i o,v≠ .ptr i o)(h2:∀f a b,v≠ .fn f a b):a1y (d+1) g s v=some (v,s):=by
 obtain⟨ms,ps⟩:=s;have e:a0C ED g ms v=some (v,ms):=by rw[a5E];exact h _ _ _
 cases v<;>first|(exact absurd rfl (h1 _ _))|(exact absurd rfl (h2 _ _ _))|grind[a1y]
theorem a8d(h:∀d g ms,a0C (d+1) g ms v=some (v,ms))(h1:∀a b c d,v≠ .row a b c d)(h2:∀l,v≠ .dptr l):a0h g s v=some (v,s):=by
 have e:a0C ED g s.1 v=some (v,s.1):=by rw[a5E];exact h _ _ _
 cases v<;>first|(exact absurd rfl (h1 _ _ _ _))|(exact absurd rfl (h2 _))|grind[a0h]
theorem a2L{v:Value}(h:v≠ .pointer none):isD (.lit v):=by
 have e:∀d g ms,a0C (d+1) g ms (.lit v)=some (.lit v,ms):=λ d g ms=>rfl;refine⟨e,λ s=>rfl,λ g s=>a8d e nofun nofun,λ d g s=>b3j e nofun nofun,rfl,λ i=>rfl,λ i=>rfl,rfl,rfl,?_,nofun,nofun⟩;cases v with
 |pointer p=>cases p<;>first|rfl|exact absurd rfl h
 |_=>rfl
theorem a6n:isD .nils:=by
 have e:∀d g ms,a0C (d+1) g ms .nils=some (.nils,ms):=λ d g ms=>rfl;exact⟨e,λ s=>rfl,λ g s=>a8d e nofun nofun,λ d g s=>b3j e nofun nofun,rfl,λ i=>rfl,λ i=>rfl,rfl,rfl,rfl,nofun,nofun⟩
variable {xs:List V}
theorem b4K:isD (.sl none xs):=by
 have e:∀d g ms,a0C (d+1) g ms (.sl none xs)=some (.sl none xs,ms):=λ d g ms=>rfl;exact⟨e,λ s=>rfl,λ g s=>a8d e nofun nofun,λ d g s=>b3j e nofun nofun,rfl,λ i=>rfl,λ i=>rfl,rfl,rfl,rfl,nofun,nofun⟩
theorem a6N{k:IntKind}{n:Int}:isD (.lit (.int k n)):=a2L nofun
theorem c3R{s:ByteArray}:isD (.lit (.string s)):=a2L nofun
theorem a9t{b:Bool}:isD (.lit (.bool b)):=a2L nofun
def pD(v:V):Prop:=isD v\/∃cs,v= .agg cs/\∀c∈cs,isD c
theorem c4A{cs:List V}(h:∀c∈cs,isD c):pD (.agg cs):= .inr ⟨cs,rfl,h⟩
theorem c3T(h:pD v):a1y 4 g s v=some (v,s):=by
 rcases h with h|⟨cs,rfl,h⟩
 .exact h.2.2.2.1 3 g s
 .obtain⟨ms,ps⟩:=s;have e:a0C ED g ms (.agg cs)=some (.agg cs,ms):=by
   rw[a5E,a0C];rw[a2i λ a ha=>(h a ha).1 158 g ms]
  simp only[a1y,e]
theorem b5Q{s:HP×Nat}:∀{l:List V},(∀c∈l,isD c)->a0f s l=(l,s)
 |[],_=>rfl
 |v::l,h=>by
  rw[a0f,(h v (ay1 ..)).2.1 s];simp only;rw[b5Q λ c hc=>h c (az9 _ hc)]
theorem d4S(h:pD v){s:HP×Nat}:a2B s v=(v,s):=by
 rcases h with h|⟨cs,rfl,h⟩
 .have h2:=h.2.1 s;have h3:=h.2.2.2.2.2.2.2.2.2.2.1;cases v<;>first|exact h2|grind
 .rw[a2B,b5Q h]
theorem b5r{s:HP×Nat}:∀{l:List V},(∀v∈l,pD v)->a1Z s l=(l,s)
 |[],_=>rfl
 |v::l,h=>by
  rw[a1Z,d4S (h v (ay1 ..))];simp only;rw[b5r λ c hc=>h c (az9 _ hc)]
def rD(v:V):Prop:=pD v\/∃xs,v= .tup xs/\∀x∈xs,pD x
theorem d2Q(h:rD v){s:HP×Nat}:a1R s v=(v,s):=by
 rcases h with h|⟨xs,rfl,h⟩
 .have h2:=d4S h (s:=s);rcases h with h|⟨cs,rfl,h⟩
  .have h3:=h.2.2.2.2.2.2.2.2.2.2.2;cases v<;>first|exact h2|grind
  .exact h2
 .rw[a1R,b5r h]
variable {nx:Nat}
theorem b1v{f:a7F}(h:∀a∈args,pD a)(hf:f k args []=some (v,[]))(hv:rD v):a1q f g nx k args=some {v:=v}:=by
 unfold a1q;grind[a2i,c3T,a0G,a1u,a3y,a2s,d2Q]
theorem b9J(h:isD v):pD v:= .inl h
theorem d0n(h:pD v):rD v:= .inl h
theorem d4t(h:∀x∈xs,pD x):rD (.tup xs):= .inr ⟨xs,rfl,h⟩
variable {A:Type} {p:A->Prop}
theorem d2G:∀a∈([]:List A),p a:=nofun
theorem all_cons{a:A}{l:List A}(h:p a)(h2:∀a∈l,p a):∀b∈a::l,p b:=au6.2 ⟨h,h2⟩
theorem b1E(h:pD v):a0O g s v=some (v,s):=by
 rcases h with h|⟨cs,rfl,h⟩
 .have h2:=h.2.2.1 g s;have h3:=h.2.2.2.2.2.2.2.2.2.2.1;cases v<;>first|exact h2|grind
 .simp only[a0O];rw[a2i λ a ha=>(h a ha).2.2.1 g s]
theorem c7g(h:rD v):a2q g s v=some (v,s):=by
 rcases h with h|⟨cs,rfl,h⟩
 .have h2:=b1E h (g:=g) (s:=s);rcases h with h|⟨cs,rfl,h⟩
  .have h3:=h.2.2.2.2.2.2.2.2.2.2.2;cases v<;>first|exact h2|grind
  .exact h2
 grind[a2q,a2i,b1E]
theorem b1O(hk:d1T k=false)(h:rD v):a5t k g nx v=some (v,[],[]):=by
 simp_all[a5t,c6k,c7g]
def dX(xs:List V):Prop:=∀y∈xs,pD y
section
variable {s:HP×Nat} {v:Value} {o:Option (List V)} {xs:List V} {g:G} {w:List Nat×List Nat} {i:Nat}
variable {ms:List Nat} {d:Nat}
theorem c5E(h:dX xs):a0G (a0C (d+2) g) ms xs=some (xs,ms):=a2i λ a ha=>by
 rcases h a ha with h|⟨cs,rfl,h⟩
 .exact h.1 (d+1) g ms
 .rw[a0C,a2i λ a ha=>(h a ha).1 d g ms]
variable {f:Bool} {id n t z:Nat}
theorem d3H(h:g id=some (.row t z xs f))(hn:n=xs.length)(hd:dX xs)(hw:id∉w.2):a0h g w (.row id z 0 n)=some (.sl (some (t,z,f)) xs,w.1,id::w.2):=by
 grind[a5E,c5E,a0h]
theorem exR(h:g id=some (.row t z xs f))(hm:dX xs):a0C (d+3) g ms (.row id z 0 xs.length)=some (.sl none xs,id::ms):=by
 rw[a0C];simp_all[c5E]
theorem d2C(h:g id=some (.row t z xs f))(hn:n=xs.length)(hm:dX xs)(hw:id∈w.2):a0h g w (.row id z 0 n)=some (.sl none xs,id::w.1,w.2):=by
 have e:a0C ED g w.1 (.row id z 0 n)=some (.sl none xs,id::w.1):=by rw[a5E,hn];exact exR h hm
 subst hn;simp only[a0h,h];rw[ay9 (by simp[hw]),e]
end
def d1e(e sz:Nat)(g:G)(nx:Nat)(a:V)(b:List V):Option Go.PV.Out:=
 match a with
 | .nils=>if b.isEmpty then some {v:=a,cnt:=1}else if b.length>a2Z then none else some {v:= .row nx sz 0 b.length,upd:=[(nx,some (.row e sz b false))],cnt:=1}
 | .slf zs=>if b.isEmpty then some {v:=a,cnt:=1}else
   if zs.any (λ y=>y.cells.length≠sz)||zs.length+b.length>a2Z then none else
   some {v:= .row nx sz 0 (zs.length+b.length),upd:=[(nx,some (.row e sz (zs++b) false))],cnt:=1}
 | .row id z off n=>match g id with
   |some (.row ty d xs c)=>if ty≠e||z≠sz||d≠sz||off≠0||n>xs.length||(n<xs.length&&c)||n+b.length>a2Z then none else
     some {v:= .row nx sz 0 (n+b.length),upd:=[(nx,some (.row e sz (xs.take n++b) c)),(id,none)],cnt:=1}
   |_=>none
 |_=>none
end
end Go.PV
namespace Go.SE
section
open Go.PV Go.SN
variable {v:V}
theorem _root_.Go.PV.isD.ex(h:isD v):∀d g ms,a0C (d+1) g ms v=some (v,ms):=h.1
theorem _root_.Go.PV.isD.ci(h:isD v):∀s,a0J s v=(v,s):=h.2.1
theorem _root_.Go.PV.isD.co(h:isD v):∀g s,a0h g s v=some (v,s):=h.2.2.1
theorem _root_.Go.PV.isD.dp(h:isD v):a6J v=false:=h.2.2.2.2.1
theorem _root_.Go.PV.isD.so(h:isD v):∀i,a0S i v=v:=h.2.2.2.2.2.1
theorem _root_.Go.PV.isD.si(h:isD v):∀i,a0H i v=v:=h.2.2.2.2.2.2.1
theorem _root_.Go.PV.isD.cl(h:isD v):v.cells=[v]:=h.2.2.2.2.2.2.2.1
theorem _root_.Go.PV.isD.ok(h:isD v):a0r v=true:=h.2.2.2.2.2.2.2.2.1
theorem _root_.Go.PV.isD.np(h:isD v):a4Z v=false:=h.2.2.2.2.2.2.2.2.2.1
theorem _root_.Go.PV.isD.forms(h:isD v):(∃w,v= .lit w)\/v= .nils\/∃xs,v= .sl none xs:=by
 have h1:=h.ex 0 (λ _=>none) [];have h2:=h.ci ([],0);cases v with
 |lit w=>grind
 |nils=>grind
 |sl o xs=>cases o with
  |none=>grind
  |some q=>grind[a0J]
 |agg cs=>exact absurd rfl (h.2.2.2.2.2.2.2.2.2.2.1 cs)
 |tup cs=>exact absurd rfl (h.2.2.2.2.2.2.2.2.2.2.2 cs)
 |_=>simp[a0C]at h1
def lst:V->List V
 | .sl _ xs=>xs
 |_=>[]
section
variable {l:List V}
variable {i:Nat}
variable {w:Value}
variable {v:V}
end
section
variable {s:St}
variable {v:V}
variable {get:Nat->V}
end
end
section
open Go.PV Go.SN
section
variable (P:Program)
end
section
variable {P:Program} {get:Nat->V} {g:G} {nx:Nat}
end
end
section
open Go.PV Go.SN
inductive Kd where
 |int (k:IntKind)|str|bool
 deriving DecidableEq
def Kd.ok:Kd->Value->Prop
 | .int k,u=>∃m,u= .int k m
 | .str,u=>∃b,u= .string b
 | .bool,u=>∃b,u= .bool b
section
variable (P:Program)
def eqK:Nat->Nat->List Kd->List Kd->Bool
 |0,_,_,_=>false
 |d+1,t,x,y=>match P.underlying t with
  |some .bool=>match x,y with
   | .bool::_,.bool::_=>true
   |_,_=>false
  |some (.int _)=>match x,y with
   | .int k::_,.int a::_=>k==a
   |_,_=>false
  |some .string=>match x,y with
   | .str::_,.str::_=>true
   |_,_=>false
  |some (.struct fs)=> !P.stoodInHeld t&&fs.toList.all λ f=>match a1M P f.type with
   |some n=>decide (f.offset+n<=x.length)&&(decide (f.offset+n<=y.length)&&eqK d f.type ((x.drop f.offset).take n) ((y.drop f.offset).take n))
   |none=>false
  |_=>false
def d6e(t:Nat)(x y:List Kd):Bool:=(!P.eqGuardType P.depth t&&eqK P 6 t x y)&&(match P.underlying t with|some (.struct _)=>true|_=>false)
end
section
variable {P:Program}
def Kds(x:List Kd)(us:List Value):Prop:=x.length=us.length/\∀(j:Nat) (a:Kd) (u:Value),x[j]?=some a->us[j]?=some u->a.ok u
theorem Kds.part{x:List Kd}{us:List Value}(h:Kds x us)(o n:Nat):Kds ((x.drop o).take n) ((us.drop o).take n):=by
 refine⟨by simp[h.1],λ j a u ha hu=> ?_⟩;rw[av1]at ha hu;split at ha
 .next hj=>
  rw[ax3 hj,at5]at hu;rw[at5]at ha;exact h.2 _ a u ha hu
 .cases ha
theorem c0E(a:ByteArray):(a==a)=true:=by
 cases a with
 |mk d=>exact(show(d==d)=true from by simp)
theorem a8l{A:Type}{f:A->Option Bool×Unit->Sem (ForInStep (Option Bool×Unit))}:∀{l:List A},(∀x∈l,∀b,a0c P (f x b)=some (.yield (none,())))->a0c P (forIn l ((none,()):Option Bool×Unit) f)=some (none,())
 |[],_=>rfl
 |x::l,h=>by
  rw[Aw2,a0a,h x (ay1 ..) _,az1];exact a8l λ y hy=>h y (az9 _ hy)
theorem b2d{A a:Type}{f f':A->a->Sem (ForInStep a)}:∀{l:List A} {b:a},(∀x∈l,∀b,∃r,a0c P (f x b)=some r/\a0c P (f' x b)=some r)->∃r,a0c P (forIn l b f)=some r/\a0c P (forIn l b f')=some r
 |[],b,_=>⟨b,rfl,rfl⟩
 |x::l,b,h=>by
  obtain⟨r,hr,c⟩:=h x (ay1 ..) b;rw[Aw2,a0a,hr,az1,Aw2,a0a,c,az1];cases r with
  |done b=>exact⟨b,rfl,rfl⟩
  |yield b=>exact b2d λ y hy=>h y (az9 _ hy)
theorem c1z(a b:ByteArray):(a==b)=(b==a):=by
 cases a with
 |mk a=>cases b with
  |mk b=>exact(show(a==b)=(b==a)from by grind)
theorem b8Z:∀(d:Nat) (t:Nat) (x y:List Kd) (us vs:List Value),eqK P d t x y=true->Kds x us->Kds y vs->∀D,d<=D->∃b,a0c P (Op.equalIn D t (pk P t us) (pk P t vs))=some b/\a0c P (Op.equalIn D t (pk P t vs) (pk P t us))=some b/\(us=vs->b=true)
 |0,t,x,y,us,vs,h,_,_,D,_=>by cases h
 |d+1,t,x,y,us,vs,h,hx,hy,0,hD=>by omega
 |d+1,t,x,y,us,vs,h,hx,hy,D+1,hD=>by
  unfold eqK at h;split at h
  .next ht=>
   split at h
   .next z A=>
    cases us with
    |nil=>cases hx.1
    |cons u us=>cases vs with
     |nil=>cases hy.1
     |cons v vs=>obtain⟨a,rfl⟩:=hx.2 0 _ u rfl rfl;obtain⟨b,rfl⟩:=hy.2 0 _ v rfl rfl;simp only[pk,ht,Ay1,Op.equalIn,a0a,a0g ht,az1,a0i];grind
   .cases h
  .next k0 ht=>
   split at h
   .next k1 z k2 A=>
    have h:k1=k2:=by simpa using h
    subst h;cases us with
    |nil=>cases hx.1
    |cons u us=>cases vs with
     |nil=>cases hy.1
     |cons v vs=>obtain⟨a,rfl⟩:=hx.2 0 _ u rfl rfl;obtain⟨b,rfl⟩:=hy.2 0 _ v rfl rfl;simp only[pk,ht,Ay1,Op.equalIn,a0a,a0g ht,az1,aw4,a0i];grind
   .cases h
  .next ht=>
   split at h
   .next z A=>
    cases us with
    |nil=>cases hx.1
    |cons u us=>cases vs with
     |nil=>cases hy.1
     |cons v vs=>obtain⟨a,rfl⟩:=hx.2 0 _ u rfl rfl;obtain⟨b,rfl⟩:=hy.2 0 _ v rfl rfl;simp only[pk,ht,Ay1,Op.equalIn,a0a,a0g ht,az1,a0i];exact⟨_,rfl,an8 some (c1z _ _),λ e=>by grind[c0E]⟩
   .cases h
  .next fs ht=>
   rw[az6,ax2,ay5]at h;obtain⟨o,m⟩:=h;have step:∀f∈fs.toList,∃b,a0c P (do Op.equalIn D f.type (<-part f.type us.toArray f.offset) (<-part f.type vs.toArray f.offset))=some b/\a0c P (do Op.equalIn D f.type (<-part f.type vs.toArray f.offset) (<-part f.type us.toArray f.offset))=some b/\(us=vs->b=true):=by
    intro f hf;have i:=m f hf;split at i
    .next n hn=>
     simp only[az6,ay2]at i;obtain⟨l1,l2,he⟩:=i;rw[hx.1]at l1;rw[hy.1]at l2;obtain⟨b,hb,C,E⟩:=b8Z d f.type _ _ _ _ he (hx.part f.offset n) (hy.part f.offset n) D (by omega);have F:∃dd,P.underlying f.type=some dd/\((∃fs,dd= .struct fs)\/((∀fs,dd≠ .struct fs)/\(∀k e,dd≠ .array k e)/\0<n)):=by
      have B:∀{q r:List Kd},eqK P d f.type q r=true->(q=[]->(∃fs,P.underlying f.type=some (.struct fs))):=by
       intro q r hq p;subst p;cases d with
       |zero=>cases hq
       |succ d=>grind[eqK]
      cases hu:P.underlying f.type with
      |none=>
       cases d with
       |zero=>cases he
       |succ d=>simp[eqK,hu]at he
      |some dd=>
       refine⟨dd,rfl,?_⟩;cases dd;case struct fs=>grind
       case array k e=>
        cases d with
        |zero=>cases he
        |succ d=>simp[eqK,hu]at he
       all_goals
        grind
     grind[a0a,a4B]
    .cases i
   have e:pk P t us= .agg us.toArray:=by simp only[pk,ht]
   have G:pk P t vs= .agg vs.toArray:=by simp only[pk,ht]
   rw[e,G];simp only[Op.equalIn,a0a,a0g ht,az1];have j:a0c P Go.program=some P:=rfl;simp only[j,az1,o,ay6,av8];have one:∀(us vs:List Value) (f:Field) (b:Option Bool×Unit) (q:Bool),a0c P (do Op.equalIn D f.type (<-part f.type us.toArray f.offset) (<-part f.type vs.toArray f.offset))=some q->a0c P (if f.name≠ "_" then do
        let c<-part f.type us.toArray f.offset;let g<-part f.type vs.toArray f.offset;let c<-Op.equalIn D f.type c g
        if(!c)=true then pure (ForInStep.done ((some false,()):Option Bool×Unit))
         else pure (ForInStep.yield (none,()))
       else pure (ForInStep.yield (none,())))=some (if f.name≠ "_" then(if q then .yield (none,())else .done (some false,()))else .yield (none,())):=by
    intro us vs f b q hq;split
    .rw[a0a]at hq|-;cases h1:a0c P (part f.type us.toArray f.offset)with
     |none=>grind
     |some J=>
      rw[h1,az1,a0a]at hq;rw[az1,a0a];cases h2:a0c P (part f.type vs.toArray f.offset)with
      |none=>grind
      |some K=>rw[h2,az1]at hq;rw[az1,a0a,hq,az1];cases q<;>rfl
    .rfl
   have hh:∃r,a0c P (forIn fs.toList ((none,()):Option Bool×Unit) λ f s=>if f.name≠ "_" then do
           let c<-part f.type us.toArray f.offset;let g<-part f.type vs.toArray f.offset;let c<-Op.equalIn D f.type c g
           if(!c)=true then pure (ForInStep.done ((some false,()):Option Bool×Unit))
            else pure (ForInStep.yield (none,()))
          else pure (ForInStep.yield (none,())))=some r/\a0c P (forIn fs.toList ((none,()):Option Bool×Unit) λ f s=>if f.name≠ "_" then do
           let c<-part f.type vs.toArray f.offset;let g<-part f.type us.toArray f.offset;let c<-Op.equalIn D f.type c g
           if(!c)=true then pure (ForInStep.done ((some false,()):Option Bool×Unit))
            else pure (ForInStep.yield (none,()))
          else pure (ForInStep.yield (none,())))=some r/\(us=vs->r=(none,())):=by
    by_cases w:us=vs
    .subst w;refine⟨(none,()),a8l λ f hf b=> ?_,a8l λ f hf b=> ?_,λ _=>rfl⟩;all_goals
      simp_all
    .obtain⟨r,h1,h2⟩:=b2d (P:=P) (l:=fs.toList) (b:=((none,()):Option Bool×Unit)) λ f hf b=>by
      obtain⟨q,H,I,L⟩:=step f hf;exact⟨_,one us vs f b q H,one vs us f b q I⟩
     grind
   obtain⟨r,h1,h2,h3⟩:=hh;rw[<-Av1,<-Av1,a0a,h1,az1,a0a,h2,az1];obtain⟨r1,r2⟩:=r;cases r1 with
   |none=>exact⟨_,rfl,rfl,λ _=>rfl⟩
   |some q=>exact⟨_,rfl,rfl,λ e=>by cases h3 e⟩
  .cases h
def Kl(x:List Kd)(cs:List V):Prop:=∃us,cs=us.map V.lit/\Kds x us
theorem a3e:∀{x:List Kd}{us:List Value},Kds x us->a0D a1b (us.map V.lit)=some us
 |_,[],_=>rfl
 |[],_::_,h=>by cases h.1
 |a::x,u::us,h=>by
  have ih:=a3e (x:=x) (us:=us) ⟨by simpa using h.1,λ j a u ha hu=>h.2 (j+1) a u ha hu⟩;have h0:=h.2 0 a u rfl rfl
  cases a<;>(obtain⟨m,rfl⟩:=h0;simp only[List.map_cons,a0D,a1b,ih])
theorem c4T{t:Nat}{x y:List Kd}{cs ds:List V}(h:d6e P t x y=true)(hx:Kl x cs)(hy:Kl y ds):∃b,(cs=ds->b=true)/\∀p q,a3w P .eql t p q (.agg cs) (.agg ds)=some (.lit (.bool b))/\a3w P .neq t p q (.agg cs) (.agg ds)=some (.lit (.bool !b))/\a3w P .eql t p q (.agg ds) (.agg cs)=some (.lit (.bool b)):=by
 unfold d6e at h;rw[az6]at h;obtain⟨h0,hst⟩:=h;simp only[az6,ax2]at h0;obtain⟨hg,ht⟩:=h0;obtain⟨us,rfl,u2⟩:=hx;obtain⟨vs,rfl,v2⟩:=hy;obtain⟨b,hb,hbs,hb2⟩:=b8Z 6 t x y us vs ht u2 v2 Op.maxDepth (by decide);split at hst;case h_2=>cases hst
 next fs hu=>
 have hpk:∀l,pk P t l= .agg l.toArray:=λ l=>by grind[pk]
 rw[hpk,hpk]at hb hbs;have hprog:a0c P Go.program=some P:=rfl;have hguard:∀p q (op:BinOp) (us vs:List Value),op= .eql\/op= .neq->a0c P (eqGuard op t p q (.agg us.toArray) (.agg vs.toArray))=some ():=by
  intro p q op us vs ho;unfold eqGuard;rcases ho with rfl|rfl<;>
   (simp only[aq4,ay6,av8,a0a,hprog,az1,hg,am4,aw4];rfl)
 have heq:a0c P (Op.equal t (.agg us.toArray) (.agg vs.toArray))=some b:=hb;have heqs:a0c P (Op.equal t (.agg vs.toArray) (.agg us.toArray))=some b:=hbs;refine⟨b,λ e=>hb2 ?_,λ p q=>⟨?_,?_,?_⟩⟩
 .have:=an8 (a0D a1b) e;rw[a3e u2,a3e v2]at this;exact Option.some.inj this
 .unfold a3w;simp only[Az0,hu,az1,a2U,ay6,av8,a0W,a3e u2,a3e v2,ax0,a0t,a0a,hguard p q .eql us vs (.inl rfl)];show(a0c P (do pure (Value.bool (<-Op.equal t (.agg us.toArray) (.agg vs.toArray))))).bind a1w=_;rw[a0a,heq];rfl
 .unfold a3w;simp only[Az0,hu,az1,a2U,ay6,av8,a0W,a3e u2,a3e v2,ax0,a0t,a0a,hguard p q .neq us vs (.inr rfl)];show(a0c P (do pure (Value.bool (!(<-Op.equal t (.agg us.toArray) (.agg vs.toArray)))))).bind a1w=_;rw[a0a,heq];rfl
 .unfold a3w;simp only[Az0,hu,az1,a2U,ay6,av8,a0W,a3e u2,a3e v2,ax0,a0t,a0a,hguard p q .eql vs us (.inl rfl)];show(a0c P (do pure (Value.bool (<-Op.equal t (.agg vs.toArray) (.agg us.toArray))))).bind a1w=_;rw[a0a,heqs];rfl
end
end
section
open Go.PV Go.SN
abbrev Rel:=Nat->List V->V->Prop
section
variable {n m:Nat}
end
section
variable {P:Program} {R:Rel} {n m:Nat}
end
variable {n:Nat} {w:V}
section
variable {P:Program} {R:Rel} {A B:Type}
end
end
section
open Go.PV Go.SN
inductive Sh where
 |td (d:TD)
 |ne (d:TD)
 |lit (w:Value)
 |nils
 |agg (l:List Sh)
 |tup (l:List Sh)
 deriving Inhabited
inductive ShOk:Sh->V->Prop
 |td {d:TD} {v:V}:InD g0 N0 d v->ShOk (.td d) v
 |ne {d:TD} {v:V}:InD g0 N0 d v->(lst v).isEmpty=false->ShOk (.ne d) v
 |lit {w:Value}:ShOk (.lit w) (.lit w)
 |nils:ShOk .nils .nils
 |agg {l:List Sh} {cs:List V}:l.length=cs.length->(∀(j:Nat) (s:Sh) (c:V),l[j]?=some s->cs[j]?=some c->ShOk s c)->ShOk (.agg l) (.agg cs)
 |tup {l:List Sh} {cs:List V}:l.length=cs.length->(∀(j:Nat) (s:Sh) (c:V),l[j]?=some s->cs[j]?=some c->ShOk s c)->ShOk (.tup l) (.tup cs)
def ShL(l:List Sh)(cs:List V):Prop:=l.length=cs.length/\∀(j:Nat) (s:Sh) (c:V),l[j]?=some s->cs[j]?=some c->ShOk s c
variable {v:V}
theorem ShL.cons{s:Sh}{l:List Sh}{vs:List V}:ShL (s::l) (v::vs)↔ShOk s v/\ShL l vs:=by
 constructor
 .intro h;exact⟨h.2 0 s v rfl rfl,by have:=h.1;simpa using this,λ j a c ha hc=>h.2 (j+1) a c (by grind) (by grind)⟩
 .rintro⟨h1,h2,h3⟩;refine⟨by simp[h2],λ j a c ha hc=> ?_⟩;grind
theorem ShL.nil:ShL [] []:=⟨rfl,λ j s c h=>by simp at h⟩
variable {d:TD}
section
variable {P:Program} {R:Rel}
end
section
variable {P:Program} {R:Rel}
end
end
end Go.SE
namespace Go.SN
section
open Go Go.PV Go.RowKit Go.Proofs
set_option maxRecDepth 100000
theorem d5Z(k:Nat)(f:List V->List (List V)->Option (V×List (List V)))(b:List V)(bs:List (List V))(v:V)(a:List (List V))(h:a4w k=some f)(hf:f b bs=some (v,a)):a2R Tryz.prog k b bs v a:=by
 unfold a4w at h;split at h;all_goals first
  |(cases h;first
    |exact d9D hf|exact d9N hf|exact d9M hf|exact e0n hf|exact d9S hf|exact d6S hf|exact d7W hf|exact d7J hf|exact d7A hf|exact d7B hf|exact d7s hf|exact d8q hf|exact d8v hf
    |exact d8j hf|exact d6R hf|exact d8m hf|exact d7p hf|exact d7z hf|exact d7S hf|exact d7t hf|exact d8c hf)
  |cases h
def nmB(f:Func):Bool:=f.name != "runtime.NumGoroutine"
theorem d7X:(Tryz.prog.funcs.toList.all nmB)=true:=by decide+kernel
theorem c0L(k:Nat)(fn:Func)(h:Tryz.prog.funcs[k]?=some fn):fn.name≠ "runtime.NumGoroutine" :=by
 grind[d7X,nmB]
theorem b6A:Tryz.prog.follows .mixedOrders=true:=by decide+kernel
theorem d1F(n:Nat):CallsOk Tryz.prog (a0d Tryz.prog a4w inlS n):=(c5d c0L (λ _ hc=>d3R b6A hc) d5Z n).2
def d3O(W:World):Mem:=λ b o=>W.cell? ⟨b,o,none⟩
theorem c4S{W:World}(hg:GlW W)(hs:glN<=W.heap.size):Inv W.heap.size [] W (d3O W) (λ _=>none) (a0b []) W:=
 ⟨λ _ _ _ h=>h,(λ id x h=>by simp[a0b]at h),(λ i j b c a ⟨x,hx⟩=>by grind),(λ id x b cap o u h=>by grind),rfl,rfl,rfl,ay3 _,λ _ _ _=>rfl,⟨hg,hs,nofun⟩⟩
theorem b6l{g:G}:∀{xs:List V} {s:List Nat×List Nat},(∀x∈xs,isD x)->a0G (a1y 4 g) s xs=some (xs,s)
 |[],_,_=>rfl
 |x::r,s,h=>by
  have e:a1y 4 g s x=some (x,s):=(h x (ay1 ..)).2.2.2.1 3 g s;simp only[a0G,e,b6l λ y hy=>h y (az9 _ hy)]
theorem c3j{k n:Nat}{xs:List V}{us:Array Value}{W:World}(hg:GlW W)(hs:glN<=W.heap.size)(hx:ListRep (d3O W) (λ _=>none) xs us.toList)
  (ha:∀x∈xs,isD x) (h:(a0d Tryz.prog a4w inlS n).cbv k xs []=some (.lit (.bool true),[])):
  Calls Tryz.prog k us W λ e a=>e= .returned (.bool true)/\Below W.heap.size W a:=by
 have hd:a1q (a0d Tryz.prog a4w inlS n).cbv (a0b []) 0 k xs=some {v:= .lit (.bool true),upd:=[],cnt:=0}:=by
  unfold a1q;simp only[b6l ha,a0G];simp[h,a2s,a3y,a1u,a1R];exact⟨rfl,rfl,rfl⟩
 refine((d1F n).cbv (c4S hg hs) (λ _ _ _=>rfl) hx hd).2.mono ?_;rintro(u|_|_) a he<;>first|cases he;done|skip
 obtain⟨c,b,_,_,_,hr,hI,_⟩:=he;refine⟨?_,hI.os,hI.tape,hI.output,hI.size,λ k hk=>hI.frame k hk (by simp)⟩;cases hr with
 |rep hr=>cases hr with|lit _=>rfl
end
end Go.SN
namespace Go.Proofs.YtfffjfhfafhfmaaGreatDoor
section
open Go.RowKit Go.Deep
theorem gForms:Tryz.prog.globalNamed "webfinger/utf8text.forms" =some 1:=by kernel_rfl
theorem gFormsType:(Tryz.prog.globals[1]?).map (·.type)=some 440:=by kernel_rfl
theorem c7i:Tryz.prog.cellsOf 440=12:=by kernel_rfl
theorem c2F:Tryz.prog.cellsOf 439=3:=by kernel_rfl
theorem d2F:Tryz.prog.cellsOf 5=1:=by kernel_rfl
theorem c7K:Tryz.prog.cellsOf 3=1:=by kernel_rfl
theorem a9l{H:Type}{enc:Nat×Value->H}{w:World}{base:Nat}{spare:Nat->Bool}{held:Bool}{fuel:Nat}{c0 c1 c2:Value}{a b c:Int}{q:List MemPlace}
  (h:DataW.trod enc Tryz.prog w base spare held fuel 439 [c0,c1,c2]=some (.agg [.lit (.int .u8 a),.lit (.int .u8 b),.lit (.int .i64 c)],q)):
  c0= .int .u8 a/\c1= .int .u8 b/\c2= .int .i64 c:=by
 obtain⟨y0,y1,y2,n,hx,_,t0,t1,t2⟩:=trod_struct3 Tryz.underlying439 h;grind[d2F,c7K,DataW.trod_int,am8,am5]
variable {W:World}
theorem c3H{P:Program}{n:String}{d:DataW Unit}{r:List (String×DataW Unit)}{ps:List MemPlace}(h:DataW.LaidVars P W ((n,d)::r) ps):
  (∃g t cs fuel p,P.globalNamed n=some g/\(P.globals[g]?).map (·.type)=some t/\W.var? P n=some cs/\DataW.trod (λ _=>()) P W 0 (λ _=>true) false fuel t cs.toList=some (d,p))/\∃q,DataW.LaidVars P W r q:=by
 obtain⟨g,t,cs,fuel,p,q,h1,h2,h3,h4,h5,_⟩:=h;grind
set_option maxRecDepth 100000 in
theorem b2Z(h:laidMetH Tryz.prog Rows.topErrorsRow.laid W):Forms W:=by
 have h0:∃ps,DataW.LaidVars Tryz.prog W [("unicode/utf8.acceptRanges",Rows.laid_unicode_utf8_acceptRanges),("webfinger/utf8text.forms",Rows.laid_webfinger_utf8text_forms),("unicode/utf8.first",Rows.laid_unicode_utf8_first)] ps:=by
  obtain⟨ps,h,_⟩:=show laidMet Tryz.prog Rows.topErrorsRow.laid W from h
  exact⟨ps,h⟩
 obtain⟨ps,h0⟩:=h0;obtain⟨_,q,h0⟩:=c3H h0;obtain⟨⟨g',t',cs,fuel,p,hg',ht',hvar,hd⟩,_⟩:=c3H h0;obtain rfl:=ax8 (gForms.symm.trans hg');obtain rfl:=ax8 (gFormsType.symm.trans ht');obtain⟨xs,m,_,hx,hl,hlen,hat⟩:=DataW.trod_array Tryz.underlying440 hd;rw[c7i]at hl;have hcs:cs=a3r:=by
  obtain⟨l⟩:=cs;simp only at hl hat
  match l,hl with
  |[c0,c1,c2,c3,c4,c5,c6,c7,c8,c9,c10,c11],_=>
   match xs,hlen with
   |[x0,x1,x2,x3],_=>simp only[Rows.laid_webfinger_utf8text_forms,av2,ar8,az8,DataW.agg.injEq,Az2,ao0]at hx;obtain⟨⟨e0,e1,e2,e3⟩,_⟩:=hx;have a0:=hat 0 (by omega);have a1:=hat 1 (by omega);have a2:=hat 2 (by omega);have a3:=hat 3 (by omega);simp only[c2F]at a0 a1 a2 a3;obtain⟨d0,q0⟩:=x0;obtain⟨d1,q1⟩:=x1;obtain⟨d2,q2⟩:=x2;obtain⟨d3,q3⟩:=x3;simp only at e0 e1 e2 e3;subst e0 e1 e2 e3;simp only[Nat.zero_mul,Nat.one_mul,Nat.reduceMul,Ax3,List.drop_succ_cons,Aw6,List.take_zero,as6,ao1]at a0 a1 a2 a3;obtain⟨rfl,rfl,rfl⟩:=a9l a0;obtain⟨rfl,rfl,rfl⟩:=a9l a1;obtain⟨rfl,rfl,rfl⟩:=a9l a2;obtain⟨rfl,rfl,rfl⟩:=a9l a3;rfl
 grind[World.var?,Forms]
theorem d5J(h:laidMetH Tryz.prog Rows.topErrorsRow.laid W)(hs:W.ShapedOpen Tryz.prog):PV.GlW W/\PV.glN<=W.heap.size:=by
 obtain⟨t1,f1,hF⟩:=b2Z h;have h0:((begin Tryz.prog (λ _ _=>0) default).world.heap[0]?).bind Obj.row?=some (#[.int .i64 0],3):=by kernel_rfl
 obtain⟨cs,hh,hsz,_⟩:=hs.1 0 _ _ (by decide+kernel) h0;obtain⟨m,hm⟩:=Go.Proofs.cell_of_shapedOpen_int hs (by decide+kernel) h0 rfl (by kernel_rfl) (by kernel_rfl) am5;have h3:(((begin Tryz.prog (λ _ _=>0) default).world.heap[3]?).bind Obj.row?).isSome=true:=by kernel_rfl
 obtain⟨⟨z3,t3⟩,h3⟩:=at0.1 h3;obtain⟨c3,hh3,_⟩:=hs.1 3 z3 t3 (by decide+kernel) h3;refine⟨⟨⟨m,3,(0,0),?_⟩,t1,f1,?_⟩,?_⟩
 .show(if(0:Nat)<PV.glN then W.heap[0]? else none)=_;rw[ax3 (by decide),hh];obtain⟨l⟩:=cs
  match l,hsz with
  |[u],_=>grind[World.cell?]
 .show(if(1:Nat)<PV.glN then W.heap[1]? else none)=_;rw[ax3 (by decide)];exact hF
 .have:3<W.heap.size:=(as3.1 hh3).1;show 4<=_;omega
def d4s:DataW Unit->List Value
 | .lit (.int k n)=>[.int k n]
 |_=>[]
def d7c:DataW Unit->List Value
 | .agg l=>l.flatMap d4s
 |d=>d4s d
def d2n:DataW Unit->List Value
 | .agg l=>l.flatMap d7c
 |_=>[]
def d8Q(cs:List Value):Obj->Obj
 | .cells _ t frozen=> .cells cs.toArray t frozen
 |o=>o
noncomputable def a9Y(os:Os):World:=
 {World.holding Tryz.prog os ⟨#[],#[],[]⟩with
  heap:=(((World.holding Tryz.prog os ⟨#[],#[],[]⟩).heap.modify 1 (d8Q (d2n Rows.laid_webfinger_utf8text_forms))).modify 2 (d8Q (d2n Rows.laid_unicode_utf8_first))).modify 3 (d8Q (d2n Rows.laid_unicode_utf8_acceptRanges))}
theorem c8u(os:Os):laidMet Tryz.prog Rows.topErrorsRow.laid ((a9Y os).forCall (λ _ _=>0) ⟨#[],#[.slice none 0 0,.int .u64 0,.string ByteArray.empty],[]⟩).memory:=
 laidMet_of_run' 8 (by kernel_rfl) (by kernel_rfl)
end
end Go.Proofs.YtfffjfhfafhfmaaGreatDoor
namespace Go.SE
section
open Go.PV Go.SN
def d1q:Value->Value->Bool
 | .bool a,.bool b=>a==b
 | .int k a,.int c b=>k==c&&a==b
 | .string a,.string b=>a.data.toList==b.data.toList
 | .chan (some a),.chan (some b)| .map (some a),.map (some b)=>a==b
 | .nilFunc,.nilFunc| .nilIface,.nilIface| .pointer none,.pointer none| .map none,.map none=>true
 |_,_=>false
theorem c8N{a b:Value}(h:d1q a b=true):a=b:=by
 unfold d1q at h;split at h
 .grind
 .grind
 .next a b=>
  have h:a.data.toList=b.data.toList:=by simpa using h
  exact an8 Value.string (Ay3 (Az4.1 h))
 .grind
 all_goals grind
mutual
def vEq:V->V->Bool
 | .lit a,.lit b=>d1q a b
 | .nils,.nils=>true
 | .agg a,.agg b=>c6q a b
 | .tup a,.tup b=>c6q a b
 | .sl none a,.sl none b=>c6q a b
 | .row a b c d,.row a' b' c' d'=>a==a'&&(b==b'&&(c==c'&&d==d'))
 | .ptr a b,.ptr a' b'=>a==a'&&b==b'
 |_,_=>false
def c6q:List V->List V->Bool
 |[],[]=>true
 |a::r,b::r'=>vEq a b&&c6q r r'
 |_,_=>false
end
mutual
theorem a5m:∀(a b:V),vEq a b=true->a=b
 | .lit a,.lit b,h=>by grind[vEq,c8N]
 | .nils,b,h=>by cases b<;>first|rfl|cases h
 | .agg a,.agg b,h=>by simp only[vEq]at h;rw[a5f a b h]
 | .tup a,.tup b,h=>by simp only[vEq]at h;rw[a5f a b h]
 | .sl none a,.sl none b,h=>by simp only[vEq]at h;rw[a5f a b h]
 | .row a b c d,.row a' b' c' d',h=>by
   simp_all[vEq]
 | .ptr a b,.ptr a' b',h=>by
   simp_all[vEq]
 | .lit _,.nils,h| .lit _,.slf _,h| .lit _,.sl _ _,h| .lit _,.agg _,h| .lit _,.tup _,h| .lit _,.fn _ _ _,h| .lit _,.row _ _ _ _,h| .lit _,.ptr _ _,h| .lit _,.eptr _ _ _ _,h| .lit _,.dptr _,h| .lit _,.map _,h| .lit _,.und,h=>by cases h
 | .agg _,.lit _,h| .agg _,.nils,h| .agg _,.slf _,h| .agg _,.sl _ _,h| .agg _,.tup _,h| .agg _,.fn _ _ _,h| .agg _,.row _ _ _ _,h| .agg _,.ptr _ _,h| .agg _,.eptr _ _ _ _,h| .agg _,.dptr _,h| .agg _,.map _,h| .agg _,.und,h=>by cases h
 | .tup _,.lit _,h| .tup _,.nils,h| .tup _,.slf _,h| .tup _,.sl _ _,h| .tup _,.agg _,h| .tup _,.fn _ _ _,h| .tup _,.row _ _ _ _,h| .tup _,.ptr _ _,h| .tup _,.eptr _ _ _ _,h| .tup _,.dptr _,h| .tup _,.map _,h| .tup _,.und,h=>by cases h
 | .sl none _,.lit _,h| .sl none _,.nils,h| .sl none _,.slf _,h| .sl none _,.sl (some _) _,h| .sl none _,.tup _,h| .sl none _,.agg _,h| .sl none _,.fn _ _ _,h| .sl none _,.row _ _ _ _,h| .sl none _,.ptr _ _,h| .sl none _,.eptr _ _ _ _,h| .sl none _,.dptr _,h| .sl none _,.map _,h| .sl none _,.und,h=>by cases h
 | .row _ _ _ _,.lit _,h| .row _ _ _ _,.nils,h| .row _ _ _ _,.slf _,h| .row _ _ _ _,.sl _ _,h| .row _ _ _ _,.tup _,h| .row _ _ _ _,.agg _,h| .row _ _ _ _,.fn _ _ _,h| .row _ _ _ _,.ptr _ _,h| .row _ _ _ _,.eptr _ _ _ _,h| .row _ _ _ _,.dptr _,h| .row _ _ _ _,.map _,h| .row _ _ _ _,.und,h=>by cases h
 | .ptr _ _,.lit _,h| .ptr _ _,.nils,h| .ptr _ _,.slf _,h| .ptr _ _,.sl _ _,h| .ptr _ _,.tup _,h| .ptr _ _,.agg _,h| .ptr _ _,.fn _ _ _,h| .ptr _ _,.row _ _ _ _,h| .ptr _ _,.eptr _ _ _ _,h| .ptr _ _,.dptr _,h| .ptr _ _,.map _,h| .ptr _ _,.und,h=>by cases h
 | .sl (some _) _,b,h=>by cases b<;>cases h
 | .slf _,b,h=>by cases b<;>cases h
 | .fn _ _ _,b,h=>by cases b<;>cases h
 | .eptr _ _ _ _,b,h=>by cases b<;>cases h
 | .dptr _,b,h=>by cases b<;>cases h
 | .map _,b,h=>by cases b<;>cases h
 | .und,b,h=>by cases b<;>cases h
theorem a5f:∀(a b:List V),c6q a b=true->a=b
 |[],[],_=>rfl
 |[],_::_,h=>by cases h
 |_::_,[],h=>by cases h
 |a::r,b::r',h=>by
  simp only[c6q,az6]at h;rw[a5m a b h.1,a5f r r' h.2]
end
section
variable {P:Program} {R:Rel}
variable {v:V}
variable {op:BinOp} {a b:V}
end
section
variable {P:Program} {t:Nat} {d:TypeDesc} {x y:Operand} {k:IntKind}
end
end
section
open Go.PV Go.SN
section
variable {P:Program} {R:Rel}
variable {v:V}
variable {t:Nat}
variable {d:TD}
theorem c3Z{hi:Int}{r:Bool}(h:InD g0 N0 (.sl r hi d) v):lenOf v=some (lst v).length/\((lst v).length:Int)<=hi/\∀w,v≠ .lit w:=by
 cases h with
 |nils h=>exact⟨rfl,by grind[lst],nofun⟩
 |sl h1 h2=>exact⟨rfl,h1,nofun⟩
 |row h1 _ _ _ _ _=>cases h1
variable {i:Nat}
end
end
section
open Go.PV Go.SN
section
variable {P:Program} {R:Rel} {g:G}
end
end
section
open Go.PV Go.SN
section
variable {P:Program} {R:Rel} {g:G}
variable {op:BinOp} {x y:Operand} {t:Nat} {a b:V}
variable {nx:Nat} {get:Nat->V} {o:Oper}
end
end
section
open Go.PV Go.SN
section
variable {e:Type}
def fB(b:Bool)(k:Bool->e):e:=match b with
 |true=>k true
 |false=>k false
def d6k:HP->HP->(HP->e)->e
 |[],h,k=>k h
 |q::r,h,k=>d6k r h λ h=>k (q::h)
def d0Q:Nat->T->Nat->V->(T->e)->e
 |0,_,_,v,k=>k (.one v)
 |d+1,.node l r,i,v,k=>if i % 2=0 then d0Q d l (i/2) v λ l=>k (.node l r)else d0Q d r (i/2) v λ r=>k (.node l r)
 |d+1,_,i,v,k=>if i % 2=0 then d0Q d .leaf (i/2) v λ l=>k (.node l .leaf)else d0Q d .leaf (i/2) v λ r=>k (.node .leaf r)
def b7h(s:St)(d:Option Tmp)(o:Out)(k:St->e):e:=match s with
 |⟨env,h,nx,sz⟩=>d6k o.upd h λ h=>fN (nx+o.cnt) λ nx=>match d with
  |none=>k ⟨env,h,nx,sz⟩
  |some d=>if d<sz then d0Q 8 env d o.v λ env=>k ⟨env,h,nx,sz⟩else k ⟨env,h,nx,sz⟩
theorem c7s(b:Bool)(k:Bool->e):fB b k=k b:=by cases b<;>rfl
theorem b6S:∀(a b:HP) (k:HP->e),d6k a b k=k (a++b)
 |[],_,_=>rfl
 |q::r,b,k=>by simp only[d6k,b6S,ap4]
theorem c1Z:∀(d:Nat) (t:T) (i:Nat) (v:V) (k:T->e),d0Q d t i v k=k (T.put d t i v)
 |0,t,i,v,k=>by cases t<;>rfl
 |d+1,t,i,v,k=>by
  cases t<;>simp only[d0Q,T.put]<;>split<;>simp only[c1Z d]
theorem a9E(s:St)(d:Option Tmp)(o:Out)(k:St->e):b7h s d o k=k (a2H {s with h:=o.upd++s.h,nx:=s.nx+o.cnt} d o.v):=by
 cases s;grind[b7h,b6S,a4i,a2H,St.put,c1Z]
end
end
section
open Go.PV Go.SN
section
variable {B:Type}
variable {o:Oper} {s:St}
end
section
variable (P:Program)
end
section
variable {P:Program} {R:Rel} {prim:Nat->Option Fp} {inl:Nat->Bool}
theorem a4G{N:Nat}{k:Nat}(h:inl k=false):(a0d P prim inl N).inl k=none:=by
 cases N<;>simp[a0d,h]
variable {o:Oper} {s:St}
variable {ops:Array Oper} {a:St}
end
end
section
open Go.PV Go.SN
section
end
section
variable {P:Program} {R:Rel} {g:G}
end
section
variable {P:Program} {R:Rel}
end
end
section
open Go.PV Go.SN
section
variable (P:Program)
end
section
variable {P:Program} {R:Rel} {g:G} {prim:Nat->Option Fp} {inl:Nat->Bool}
variable {a ms:List Nat} {nx:Nat} {v w:V}
variable {k:Nat}
variable {args:List V}
abbrev RC(P:Program)(prim:Nat->Option Fp)(inl:Nat->Bool):Rel:=λ k asq v=>∃N,(a0d P prim inl N).cbv k asq []=some (v,[])
end
end
section
open Go.PV Go.SN
section
variable (P:Program)
end
section
variable {P:Program} {R:Rel} {prim:Nat->Option Fp} {inl:Nat->Bool}
variable {op:BinOp} {x y:Operand} {t:Nat}
end
end
section
open Go.PV Go.SN
section
variable {P:Program} {R:Rel} {prim:Nat->Option Fp} {inl:Nat->Bool}
variable {A:Type}
variable {o:Oper} {s:St}
variable {ops:Array Oper} {a:St}
variable {m:Nat}
variable {k:Nat}
end
end
section
open Go.PV Go.SN
inductive Ar where
 |cell (d:TD)
 |agg (l:List TD)
def Ar.sh:Ar->Sh
 | .cell d=> .td d
 | .agg l=> .agg (l.map .td)
def sy1(i:Nat)(e:LE):Option Sy:=match e with
 |⟨0,[(s,1)]⟩=>if s.id=i then some s else none
 |_=>none
def b4Y(i:Nat):TD->AV->Option (List Sy)
 | .int k lo hi,.int a e=>match sy1 i e with
   |some s=>if k=a/\s.lo<=lo/\hi<=s.hi then some [s]else none
   |none=>none
 | .str hi,.str e=>match sy1 i e with
   |some s=>if s.lo<=0/\hi<=s.hi then some [s]else none
   |none=>none
 | .sl r hi d,.dat b e c=>match sy1 i e with
   |some s=>if s.lo<=0/\hi<=s.hi/\TD.le (.sl r hi d) (.sl b hi c)=true then some [s]else none
   |none=>none
 | .bool,.bool .unk=>some []
 |_,_=>none
def b3r(i:Nat):List TD->List AV->Option (List Sy)
 |[],[]=>some []
 |d::r,a::b=>match b4Y i d a with
  |some l=>match b3r (i+l.length) r b with
   |some l'=>some (l++l')
   |none=>none
  |none=>none
 |_,_=>none
def d1W(i:Nat):Ar->AV->Option (List Sy)
 | .cell d,a=>b4Y i d a
 | .agg l,.agg l'=>b3r i l l'
 |_,_=>none
def b2N(i:Nat):List Ar->List AV->Option (List Sy)
 |[],[]=>some []
 |d::r,a::b=>match d1W i d a with
  |some l=>match b2N (i+l.length) r b with
   |some l'=>some (l++l')
   |none=>none
  |none=>none
 |_,_=>none
def d3Q:TD->V->List Int
 | .int _ _ _,.lit (.int _ n)=>[n]
 | .str _,.lit (.string b)=>[b.size]
 | .sl _ _ _,v=>[(lst v).length]
 |_,_=>[]
def d3c:List TD->List V->List Int
 |d::r,v::vs=>d3Q d v++d3c r vs
 |_,_=>[]
def d6M:Ar->V->List Int
 | .cell d,v=>d3Q d v
 | .agg l,.agg cs=>d3c l cs
 |_,_=>[]
def b3X:List Ar->List V->List Int
 |d::r,v::vs=>d6M d v++b3X r vs
 |_,_=>[]
section
variable {ρ:Nat->Int} {n:Nat}
variable {i:Nat} {s:Sy}
theorem b2y{e:LE}(h:sy1 i e=some s):s.id=i/\e=⟨0,[(s,1)]⟩:=by
 unfold sy1 at h;grind
theorem ev1:LE.ev ρ ⟨0,[(s,1)]⟩=ρ s.id:=by simp[LE.ev,tsv]
theorem ok1(h:s.ok ρ n):LE.ok ρ n ⟨0,[(s,1)]⟩:=λ p hp=>by grind
def Vals(ρ:Nat->Int)(i:Nat)(l:List Sy)(vs:List Int):Prop:=l.length=vs.length/\∀(j:Nat) (s:Sy) (x:Int),l[j]?=some s->vs[j]?=some x->s.id=i+j/\s.lo<=x/\x<=s.hi
variable {l:List Sy}
theorem Vals.append{l':List Sy}{vs a:List Int}(h:Vals ρ i l vs)(k:Vals ρ (i+l.length) l' a):Vals ρ i (l++l') (vs++a):=by
 refine⟨by simp[h.1,k.1],λ j s x hs hx=> ?_⟩;by_cases hj:j<l.length
 .rw[aw1 hj]at hs;rw[aw1 (by rw[<-h.1];exact hj)]at hx;exact h.2 j s x hs hx
 .rw[av3 (by omega)]at hs;rw[av3 (by rw[<-h.1];omega),<-h.1]at hx;have:=k.2 _ s x hs hx;grind
theorem Vals.one{x:Int}(h:s.id=i)(h1:s.lo<=x)(h2:x<=s.hi):Vals ρ i [s] [x]:=⟨rfl,λ j a b hs hx=>by
 grind⟩
variable {a:AV} {d:TD} {v:V}
theorem a6o(h:b4Y i d a=some l)(hv:InD g0 N0 d v):Vals ρ i l (d3Q d v):=by
 unfold b4Y at h;split at h
 .split at h
  .next s hs=>
   split at h
   .next hc=>
    cases h;cases hv with
    |int h1 h2=>exact Vals.one (b2y hs).1 (by omega) (by omega)
   .cases h
  .cases h
 .split at h
  .next s hs=>
   split at h
   .next hc=>
    cases h;cases hv with
    |str h1=>exact Vals.one (b2y hs).1 (by omega) (by omega)
   .cases h
  .cases h
 .split at h
  .next s hs=>
   split at h
   .next hc=>
    cases h;have:=(c3Z hv).2.1;exact Vals.one (b2y hs).1 (by omega) (by omega)
   .cases h
  .cases h
 .cases h;cases hv with
  |bool=>exact⟨rfl,λ j s x hs=>by simp at hs⟩
 .cases h
theorem b2i:∀{l:List TD} {xa:List AV} {i:Nat} {r:List Sy} {vs:List V},b3r i l xa=some r->l.length=vs.length->(∀(j:Nat) (d:TD) (c:V),l[j]?=some d->vs[j]?=some c->InD g0 N0 d c)->Vals ρ i r (d3c l vs)
 |[],[],i,r,vs,h,_,_=>by
  simp only[b3r,az0]at h;subst h;cases vs<;>exact⟨rfl,λ j s x hs=>by simp at hs⟩
 |[],_::_,_,_,_,h,_,_=>by cases h
 |_::_,[],_,_,_,h,_,_=>by cases h
 |d::l,a::xa,i,r,[],h,hl,_=>by cases hl
 |d::l,a::xa,i,r,v::vs,h,hl,hv=>by
  simp only[b3r]at h;cases h1:b4Y i d a with
  |none=>grind
  |some q=>
   cases h2:b3r (i+q.length) l xa with
   |none=>grind
   |some b=>simp only[h1,h2,az0]at h;subst h;exact(a6o h1 (hv 0 d v rfl rfl)).append (b2i h2 (by grind) λ j d c hd hc=>hv (j+1) d c (by grind) (by grind))
theorem b7J{l:List TD}(h:ShOk (.agg (l.map .td)) v):∃cs,v= .agg cs/\l.length=cs.length/\∀(j:Nat) (d:TD) (c:V),l[j]?=some d->cs[j]?=some c->InD g0 N0 d c:=by
 cases h with
 |agg h1 h2=>
  refine⟨_,rfl,by grind,λ j d c hd hc=> ?_⟩;cases h2 j (.td d) c (by grind) hc with
  |td h=>exact h
theorem b6y{d:Ar}(h:d1W i d a=some l)(hv:ShOk d.sh v):Vals ρ i l (d6M d v):=by
 cases d with
 |cell d=>cases hv with|td hv=>exact a6o h hv
 |agg ds=>
  cases a<;>first|grind[d1W]|skip
  obtain⟨cs,rfl,h1,h2⟩:=b7J hv;exact b2i h h1 h2
theorem b2m:∀{l:List Ar} {xa:List AV} {i:Nat} {r:List Sy} {vs:List V},b2N i l xa=some r->ShL (l.map Ar.sh) vs->Vals ρ i r (b3X l vs)
 |[],[],i,r,vs,h,hv=>by
  simp only[b2N,az0]at h;subst h;cases vs<;>exact⟨rfl,λ j s x hs=>by simp at hs⟩
 |[],_::_,_,_,_,h,_=>by cases h
 |_::_,[],_,_,_,h,_=>by cases h
 |d::l,a::xa,i,r,[],h,hv=>by cases hv.1
 |d::l,a::xa,i,r,v::vs,h,hv=>by
  simp only[b2N]at h;obtain⟨b,c⟩:=ShL.cons.1 hv;cases h1:d1W i d a with
  |none=>grind
  |some q=>
   cases h2:b2N (i+q.length) l xa with
   |none=>grind
   |some e=>simp only[h1,h2,az0]at h;subst h;exact(b6y h1 b).append (b2m h2 c)
def Goes'(ρ:Nat->Int)(i:Nat)(vs:List Int):Prop:=∀(j:Nat) (x:Int),vs[j]?=some x->ρ (i+j)=x
variable {b:List Int}
theorem Goes'.left{a:List Int}(h:Goes' ρ i (a++b)):Goes' ρ i a:=λ j x hx=>h j x (by grind)
theorem Goes'.right{a:List Int}(h:Goes' ρ i (a++b)):Goes' ρ (i+a.length) b:=λ j x hx=>by
 rw[at7];exact h _ x (by grind)
variable {Γ:Gm}
theorem b9D(h:b4Y i d a=some l)(hv:InD g0 N0 d v)(hg:Goes' Γ.ρ i (d3Q d v))(hn:i+l.length<=Γ.n):In Γ a v:=by
 have c:=a6o (ρ:=Γ.ρ) h hv;unfold b4Y at h;split at h
 .split at h
  .next s hs=>
   split at h
   .next hc=>
    cases h;obtain⟨e1,rfl⟩:=b2y hs;obtain⟨rfl,_,_⟩:=hc;cases hv with
    | @int _ _ _ _ _ m h1 h2=>have e2:=hg 0 m rfl;have e3:=(c.2 0 s m rfl rfl).2;simp only[ao9,ap1]at hn e2;exact .int (ok1 ⟨by omega,by grind,by grind⟩) (by rw[ev1,e1,e2])
   .cases h
  .cases h
 .split at h
  .next s hs=>
   split at h
   .next hc=>
    cases h;obtain⟨e1,rfl⟩:=b2y hs;cases hv with
    | @str _ _ _ b h1=>have e2:=hg 0 b.size rfl;have e3:=(c.2 0 s b.size rfl rfl).2;simp only[ao9,ap1]at hn e2;exact .str (ok1 ⟨by omega,by grind,by grind⟩) (by rw[ev1,e1,e2])
   .cases h
  .cases h
 .split at h
  .next s hs=>
   split at h
   .next hc=>
    cases h;obtain⟨e1,rfl⟩:=b2y hs;obtain⟨h1,h2,h3⟩:=c3Z hv;have e2:=hg 0 (lst v).length rfl;have e3:=(c.2 0 s (lst v).length rfl rfl).2;simp only[ao9,ap1]at hn e2;exact .dat (ok1 ⟨by omega,by grind,by grind⟩) ((hv.le hc.2.2).zero) h1 (by rw[ev1,e1,e2])
   .cases h
  .cases h
 .cases hv with|bool=>exact .bool av5 av5
 .cases h
theorem b8X{Γ:Gm}:∀{l:List TD} {xa:List AV} {i:Nat} {r:List Sy} {vs:List V},b3r i l xa=some r->l.length=vs.length->(∀(j:Nat) (d:TD) (c:V),l[j]?=some d->vs[j]?=some c->InD g0 N0 d c)->Goes' Γ.ρ i (d3c l vs)->i+r.length<=Γ.n->InL Γ xa vs
 |[],[],i,r,vs,h,hl,_,_,_=>by
  have:vs=[]:=ay7.1 hl.symm;subst this;exact⟨rfl,λ j a c ha=>by simp at ha⟩
 |[],_::_,_,_,_,h,_,_,_,_=>by cases h
 |_::_,[],_,_,_,h,_,_,_,_=>by cases h
 |d::l,a::xa,i,r,[],h,hl,_,_,_=>by cases hl
 |d::l,a::xa,i,r,v::vs,h,hl,hv,hg,hn=>by
  simp only[b3r]at h;cases h1:b4Y i d a with
  |none=>grind
  |some q=>
   cases h2:b3r (i+q.length) l xa with
   |none=>grind
   |some b=>
    simp only[h1,h2,az0]at h;subst h;rw[ar0]at hn;have hq:=(a6o (ρ:=Γ.ρ) h1 (hv 0 d v rfl rfl)).1;have hg:Goes' Γ.ρ i (d3Q d v++d3c l vs):=hg;have i1:=b9D h1 (hv 0 d v rfl rfl) hg.left (by omega);have i2:=b8X h2 (by simpa using hl) (λ j d c hd hc=>hv (j+1) d c (by grind) (by grind)) (by rw[hq];exact hg.right) (by omega);refine⟨by simp[i2.1],λ j x c hx hc=> ?_⟩;cases j with
    |zero=>grind
    |succ j=>exact i2.2 j x c (by grind) (by grind)
theorem d2P{d:Ar}(h:d1W i d a=some l)(hv:ShOk d.sh v)(hg:Goes' Γ.ρ i (d6M d v))(hn:i+l.length<=Γ.n):In Γ a v:=by
 cases d with
 |cell d=>cases hv with|td hv=>exact b9D h hv hg hn
 |agg ds=>
  cases a<;>first|grind[d1W]|skip
  obtain⟨cs,rfl,h1,h2⟩:=b7J hv;have:=b8X h h1 h2 hg hn;exact .agg this.1 this.2
theorem b8k{Γ:Gm}:∀{l:List Ar} {xa:List AV} {i:Nat} {r:List Sy} {vs:List V},b2N i l xa=some r->ShL (l.map Ar.sh) vs->Goes' Γ.ρ i (b3X l vs)->i+r.length<=Γ.n->InL Γ xa vs
 |[],[],i,r,vs,h,hv,_,_=>by
  have:vs=[]:=ay7.1 hv.1.symm;subst this;exact⟨rfl,λ j a c ha=>by simp at ha⟩
 |[],_::_,_,_,_,h,_,_,_=>by cases h
 |_::_,[],_,_,_,h,_,_,_=>by cases h
 |d::l,a::xa,i,r,[],h,hv,_,_=>by cases hv.1
 |d::l,a::xa,i,r,v::vs,h,hv,hg,hn=>by
  simp only[b2N]at h;obtain⟨b,e⟩:=ShL.cons.1 hv;cases h1:d1W i d a with
  |none=>grind
  |some q=>
   cases h2:b2N (i+q.length) l xa with
   |none=>grind
   |some f=>
    simp only[h1,h2,az0]at h;subst h;rw[ar0]at hn;have hq:=(b6y (ρ:=Γ.ρ) h1 b).1;have hg:Goes' Γ.ρ i (d6M d v++b3X l vs):=hg;have i1:=d2P h1 b hg.left (by omega);have i2:=b8k h2 e (by rw[hq];exact hg.right) (by omega);refine⟨by simp[i2.1],λ j x c hx hc=> ?_⟩;cases j with
    |zero=>grind
    |succ j=>exact i2.2 j x c (by grind) (by grind)
end
def d7d(c:SumA)(xa:List Ar):Bool:=decide (c.boxes.length=0)&&(decide (c.cs=[])&&(c.posts.all λ p=>p.boxes.isEmpty)&&match b2N 0 xa c.args with
 |some l=>decide (c.syms=l)&&decide (c.n=l.length)
 |none=>false)
def hiE(e:LE):Int:= -(e.neg.min)
def d6n:Sh->Ce->List LE->Bool
 | .td (.int k lo hi),.av (.int a e),_=>k==a&&(decide (lo<=e.min)&&decide (hiE e<=hi))
 | .td (.str hi),.av (.str e),_| .td (.str hi),.av (.has e),_=>decide (hiE e<=hi)
 | .td (.sl _ hi d),.av (.dat _ e f),_=>decide (hiE e<=hi)&&f.le d
 | .ne (.sl _ hi d),.av (.dat _ e f),cs=>decide (hiE e<=hi)&&(f.le d&&cs.any λ g=>decide (g=e.addc (-1)))
 | .td .bool,.av (.bool _),_=>true
 | .nils,.av .nils,_=>true
 | .td (.sl _ hi _),.av .nils,_=>decide (0<=hi)
 | .lit (.int k n),.av (.int a e),_=>k==a&&decide (e=⟨n,[]⟩)
 | .lit (.string b),.av (.str e),_=>decide (e=⟨0,[]⟩)&&decide (b.data.toList=[])
 | .lit (.bool b),.av (.bool (.c b')),_=>b==b'
 |_,_,_=>false
def d6l(cs:List LE):List Sh->List Ce->Bool
 |[],[]=>true
 |s::r,c::a=>d6n s c cs&&d6l cs r a
 |_,_=>false
def d6H(cs:List LE):Sh->Pa->Bool
 | .agg l,.agg l'=>d6l cs l l'
 |s,.ce c=>d6n s c cs
 |_,_=>false
def c7a(cs:List LE):List Sh->List Pa->Bool
 |[],[]=>true
 |s::r,c::a=>d6H cs s c&&c7a cs r a
 |_,_=>false
def d6x(cs:List LE):Sh->Re->Bool
 | .tup l,.tup l'=>c7a cs l l'
 |s,.pa p=>d6H cs s p
 |_,_=>false
section
variable {ρ:Nat->Int} {n:Nat}
variable {e:LE}
theorem b9I(h:e.ok ρ n):e.ev ρ<=hiE e:=by
 have:=a3W (a1g h);grind[a1m,hiE]
variable {Γ:Gm} {v:V}
theorem c9N{r c:Bool}{d a:TD}{hi:Int}(h:In (Γ.bare 0) (.dat c e a) v)(h1:hiE e<=hi)(h2:a.le d=true):InD g0 N0 (.sl r hi d) v/\((lst v).length:Int)=e.ev Γ.ρ:=by
 cases h with
 |dat k1 k2 k3 k4=>
  have f:=b9I k1;have k4:(_:Int)=e.ev Γ.ρ:=k4;cases k2 with
  |nils _=>have:(0:Nat)=_:=ax8 k3;subst this;exact⟨.nils (by grind),k4⟩
  |sl b g=>have:(_:Nat)=_:=ax8 k3;subst this;exact⟨.sl (by grind) λ x hx=>(g x hx).le h2,k4⟩
  |row b _ _ _ _ _=>cases b
variable {cs:List LE} {s:Sh}
theorem c4l{c:Ce}(h:d6n s c cs=true)(hc:InC Γ c v)(hcs:a2W Γ.ρ Γ.n cs):ShOk s v:=by
 unfold d6n at h;split at h
 .simp only[az6,aw5,ay2]at h;obtain⟨rfl,h1,h2⟩:=h;cases hc with
  |av _ hc=>
   cases hc with
   |int k1 k2=>have a1:=a3W k1;have a2:=b9I k1;exact .td (.int (by omega) (by omega))
 .simp only[ay2]at h;cases hc with
  |av _ hc=>
   cases hc with
   |str k1 k2=>have a2:=b9I k1;exact .td (.str (by omega))
 .simp only[ay2]at h;cases hc with
  |av _ hc=>
   cases hc with
   |has k1 k2 k3=>have a2:=b9I k1;exact .td (.str (by omega))
 .simp only[az6,ay2]at h;cases hc with
  |av _ hc=>exact .td (c9N hc h.1 h.2).1
 .simp only[az6,ay2,ar4]at h;obtain⟨h1,h2,g,g1,g2⟩:=h;cases hc with
  |av _ hc=>obtain⟨k1,k2⟩:=c9N hc h1 h2;refine .ne k1 ?_;have h3:=(hcs g g1).2;grind[a0j]
 .cases hc with|av _ hc=>cases hc with|bool _ _=>exact .td .bool
 .cases hc with|av _ hc=>cases hc with|nils=>exact .nils
 .simp only[ay2]at h;cases hc with|av _ hc=>cases hc with|nils=>exact .td (.nils h)
 .simp only[az6,aw5,ay2]at h;obtain⟨rfl,rfl⟩:=h;cases hc with
  |av _ hc=>
   cases hc with
   |int k1 k2=>simp only[LE.ev,tsv,Int.add_zero]at k2;subst k2;exact .lit
 .simp only[az6,ay2]at h;obtain⟨rfl,h2⟩:=h;cases hc with
  |av _ hc=>
   cases hc with
   | @str _ b' k1 k2=>
     simp only[LE.ev,tsv,Int.add_zero]at k2;have:b'.data.toList=[]:=by
      apply ay7.1;have:b'.size=b'.data.toList.length:=rfl;omega
     have e:∀{a b:ByteArray},a.data.toList=b.data.toList->a=b:=λ h=>Ay3 (Az4.1 h);rw[e (this.trans h2.symm)];exact .lit
 .have h:=eq_of_beq h;subst h;cases hc with
  |av _ hc=>
   cases hc with
   |bool k1 k2=>simp only[AB.holds]at k2;subst k2;exact .lit
 .cases h
theorem c3K{Γ:Gm}{cs:List LE}(b:a2W Γ.ρ Γ.n cs):∀{l:List Sh} {l':List Ce} {vs:List V},d6l cs l l'=true->InCs Γ l' vs->ShL l vs
 |[],[],vs,_,hc=>by
  have:vs=[]:=ay7.1 hc.1.symm;grind[ShL.nil]
 |[],_::_,_,h,_=>by cases h
 |_::_,[],_,h,_=>by cases h
 |s::l,c::l',[],h,hc=>by cases hc.1
 |s::l,c::l',v::vs,h,hc=>by
  simp only[d6l,az6]at h;exact ShL.cons.2 ⟨c4l h.1 (hc.2 0 c v rfl rfl) b,c3K b h.2 ⟨by simpa using hc.1,λ j a x ha hx=>hc.2 (j+1) a x (by grind) (by grind)⟩⟩
theorem c2r(a:a2W Γ.ρ Γ.n cs){p:Pa}(h:d6H cs s p=true)(hp:InP Γ p v):ShOk s v:=by
 unfold d6H at h;split at h
 .cases hp with
  |agg hp=>have:=c3K a h hp;exact .agg this.1 this.2
 .cases hp with|ce hp _ _=>grind[c4l]
 .cases h
theorem b8P{Γ:Gm}{cs:List LE}(b:a2W Γ.ρ Γ.n cs):∀{l:List Sh} {l':List Pa} {vs:List V},c7a cs l l'=true->InPs Γ l' vs->ShL l vs
 |[],[],vs,_,hc=>by
  have:vs=[]:=ay7.1 hc.1.symm;grind[ShL.nil]
 |[],_::_,_,h,_=>by cases h
 |_::_,[],_,h,_=>by cases h
 |s::l,c::l',[],h,hc=>by cases hc.1
 |s::l,c::l',v::vs,h,hc=>by
  simp only[c7a,az6]at h;exact ShL.cons.2 ⟨c2r b h.1 (hc.2 0 c v rfl rfl),b8P b h.2 ⟨by simpa using hc.1,λ j a x ha hx=>hc.2 (j+1) a x (by grind) (by grind)⟩⟩
theorem d1N(a:a2W Γ.ρ Γ.n cs){p:Re}(h:d6x cs s p=true)(hp:InR Γ p v):ShOk s v:=by
 unfold d6x at h;split at h
 .cases hp with
  |tup hp=>have:=b8P a h hp;exact .tup this.1 this.2
 .cases hp with|pa hp=>grind[c2r]
 .cases h
end
section
variable {P:Program} {prim:Nat->Option Fp} {inl:Nat->Bool}
def c7T(vs:List Int)(i:Nat):Int:=(vs[i]?).getD 0
theorem b9z{k:Nat}{c:SumA}{xa:List Ar}(hh:a1p (λ N=>(a0d P prim inl N).cbv) k c)(hf:d7d c xa=true){vs:List V}(hv:ShL (xa.map Ar.sh) vs):∃v,RC P prim inl k vs v/\∃p∈c.posts,∀s,d6x p.cs s p.res=true->ShOk s v:=by
 unfold d7d at hf;simp only[az6,ay2]at hf;obtain⟨hb,⟨hcs,hpb⟩,hf⟩:=hf;split at hf;case h_2=>cases hf
 next l hl=>
 simp only[az6,ay2]at hf;obtain⟨hsy,hn⟩:=hf;have hbn:c.boxes=[]:=ay7.1 hb;have hvals:=b2m (ρ:=c7T (b3X xa vs)) hl hv;have hgo:Goes' (c7T (b3X xa vs)) 0 (b3X xa vs):=λ j x hx=>by simp_all[c7T]
 obtain⟨N,v,bs',h1,p,p1,ρ',r1,r2,r3,r4,r5,r6⟩:=hh (c7T (b3X xa vs)) vs [] (λ sy hsy'=>by
  rw[hsy]at hsy';obtain⟨j,hj⟩:=List.getElem?_of_mem hsy';have hlt:j<l.length:=(ay0.1 hj).1;have hlt2:j<(b3X xa vs).length:=by rw[<-hvals.1];exact hlt
  obtain⟨q1,q2,q3⟩:=hvals.2 j sy _ hj (az5 hlt2);have:=hgo j _ (az5 hlt2);rw[as4]at this q1;exact⟨by grind,by grind,by grind⟩)
  (by rw[hcs];exact nofun) (b8k hl hv hgo (by simp[GB,hn])) (by rw[hbn];exact⟨rfl,λ j a c ha=>by simp at ha⟩)
 have hlen:bs'=[]:=by
  have:=ay5.1 hpb p p1;have e:=r6.1;rw[Ax8.1 this]at e;exact ay7.1 e.symm
 subst hlen;exact⟨v,⟨N,h1⟩,p,p1,λ s hs=>d1N (Γ:=GB ρ' p.n 0) r4 hs r5⟩
end
end
section
open Go.PV Go.SN
section
variable {g:Type}
def fU8(b:UInt8)(k:UInt8->g):g:=fN b.toNat λ n=>k (UInt8.ofNat n)
def fBA(b:ByteArray)(k:ByteArray->g):g:=match b with
 |⟨⟨l⟩⟩=>fLs fU8 l λ l=>k ⟨⟨l⟩⟩
def d1O(deep:Bool)(w:Value)(k:Value->g):g:=match w with
 | .int a i=>fI i λ i=>k (.int a i)
 | .bool b=>fB b λ b=>k (.bool b)
 | .string s=>if deep then fBA s λ s=>k (.string s)else k (.string s)
 |w=>k w
def fWD(deep:Bool):Nat->V->(V->g)->g
 |0,v,k=>k v
 |n+1,v,k=>match v with
  | .lit w=>d1O deep w λ w=>k (.lit w)
  | .agg l=>fLs (fWD deep n) l λ l=>k (.agg l)
  | .tup l=>fLs (fWD deep n) l λ l=>k (.tup l)
  | .sl o l=>fLs (fWD deep n) l λ l=>k (.sl o l)
  | .dptr l=>fLs (fWD deep n) l λ l=>k (.dptr l)
  | .fn f a b=>fLs (fWD deep n) a λ a=>fLs (fWD deep n) b λ b=>k (.fn f a b)
  | .row a b c d=>fN a λ a=>fN b λ b=>fN c λ c=>fN d λ d=>k (.row a b c d)
  | .ptr a b=>fN a λ a=>fN b λ b=>k (.ptr a b)
  | .eptr a b c d=>fN a λ a=>fN b λ b=>fN c λ c=>fN d λ d=>k (.eptr a b c d)
  |v=>k v
def d3u(deep:Bool)(q:Nat×Option Box)(k:Nat×Option Box->g):g:=match q with
 |(i,b)=>fN i λ i=>match b with
  |some (.var l)=>fLs (fWD deep 5) l λ l=>k (i,some (.var l))
  |some (.row t z l f)=>fN z λ z=>fLs (fWD deep 5) l λ l=>fB f λ f=>k (i,some (.row t z l f))
  |some (.map l)=>k (i,some (.map l))
  |none=>k (i,none)
def d8F(deep:Bool)(o:Out)(k:Out->g):g:=match o with
 |⟨v,u,c⟩=>fWD deep 6 v λ v=>fLs (d3u deep) u λ u=>fN c λ c=>k ⟨v,u,c⟩
def e0b(o:Oper):Bool:=match o.op with
 | .binOp _ _ _ _ _| .slice _ _ _ _ _| .convert _ _ _| .call _| .index _ _ _=>true
 |_=>false
theorem d3V(b:UInt8)(k:UInt8->g):fU8 b k=k b:=by
 unfold fU8;rw[a4i,UInt8.ofNat_toNat]
theorem d4R(b:ByteArray)(k:ByteArray->g):fBA b k=k b:=by
 simp_all[fBA,a3t,d3V]
theorem c7r(deep:Bool)(w:Value)(k:Value->g):d1O deep w k=k w:=by
 unfold d1O;grind[c2N,c7s,d4R]
theorem b6C(deep:Bool):∀(n:Nat) (v:V) (k:V->g),fWD deep n v k=k v
 |0,v,k=>rfl
 |n+1,v,k=>by
  cases v<;>simp only[fWD,c7r,a4i,a3t (b6C deep n)]
theorem c2a(deep:Bool)(q:Nat×Option Box)(k:Nat×Option Box->g):d3u deep q k=k q:=by
 grind[d3u,a4i,c7s,a3t,b6C]
theorem d0y(deep:Bool)(o:Out)(k:Out->g):d8F deep o k=k o:=by
 simp_all[d8F,a4i,b6C,a3t,c2a]
variable (P:Program)
def a9G(call:PV.Calls)(ops:Array Oper)(o:Oper)(s:St)(d:g)(k:St->g):g:=
 if a0V ops o s.get then match a1F call s.get o with
  |none=>d
  |some (some (xs,fn))=>(match fn xs s.h s.nx with
   |none=>d
   |some r=>fWD true 6 r.1 λ v=>k (a2H {s with h:=r.2.1,nx:=r.2.2} o.dst v))
  |some none=>(match opE P call s.get (a0b s.h) s.nx o with
   |none=>d
   |some out=>d8F (e0b o) out λ out=>b7h s o.dst out k)
 else b7h s o.dst {v:= .und} k
theorem b0L{call:PV.Calls}{ops:Array Oper}{o:Oper}{s:St}{d:g}{k:St->g}:a9G P call ops o s d k=match a0v P call ops o s with
  |none=>d
  |some a=>k a:=by
 unfold a9G a0v a1h;by_cases hw:a0V ops o s.get=true
 .rw[ax3 hw,ax3 hw];grind[d0y,a9E,b6C]
 simp_all[a9E]
end
section
variable (P:Program)
def a9y(call:PV.Calls)(ops:Array Oper):List Oper->St->Option St
 |[],s=>some s
 |o::r,s=>a9G P call ops o s none (a9y call ops r)
theorem b1l{call:PV.Calls}{ops:Array Oper}:∀{l:List Oper} {s:St},a9y P call ops l s=a0I P call ops l s
 |[],_=>rfl
 |o::r,s=>by
  rw[a9y,b0L,a0I];cases a0v P call ops o s with
  |none=>rfl
  |some a=>exact b1l
def c6Y(call:PV.Calls)(ops:Array Oper):List Oper->St->Option (List (List Nat×List Nat)×St)
 |[],s=>some ([],s)
 |o::r,s=>a9G P call ops o s none λ a=>match c6Y call ops r a with
   |none=>none
   |some (fs,e)=>
    if a0V ops o s.get then
     (match a1F call s.get o with
      |some none=>some (a5A ops o (a3q s.get o) (a2w s.get (a0b s.h) o++List.range' s.nx (a.nx-s.nx))::fs,e)
      |_=>none)
    else some (a5A ops o [] []::fs,e)
theorem b9j{call:PV.Calls}{ops:Array Oper}:∀{l:List Oper} {s:St},c6Y P call ops l s=a4g P call ops l s
 |[],_=>rfl
 |o::r,s=>by
  rw[c6Y,b0L,a4g];cases a0v P call ops o s with
  |none=>rfl
  |some a=>simp only[b9j];rfl
def a3M(call:PV.Calls)(n:Nat):Code->St->Option (Ex×St)
 | .skip,s| .label _,s=>some (.normal,s)
 | .region _ ops false,s=>(a9y P call ops ops.toList s).map (.normal, ·)
 | .region _ ops true,s=>match c6Y P call ops ops.toList s with
   |none=>none
   |some (fs,e)=>if a6F ops fs then some (.normal,e)else none
 | .seq a b,s=>match a3M call n a s with
   |some (.normal,s)=>a3M call n b s
   |r=>r
 | .cond c a b,s=>match ev s.get c with
   |some (.lit (.bool t))=>if t then a3M call n a s else a3M call n b s
   |_=>none
 | .block id b,s=>match a3M call n b s with
   |some (.exit j,s)=>some (if j=id then .normal else .exit j,s)
   |r=>r
 | .loop b,s=>iter (a3M call n b) n s
 | .scope b,s=>a3M call n b s
 | .exit id,s=>some (.exit id,s)
 | .ret,s=>some (.ret,s)
 |_,_=>none
variable {n:Nat} {call:PV.Calls}
theorem b8j:∀{c:Code},a3M P call n c=a0e P call n c:=by
 intro c;induction c with
 |region i ops d=>
  funext s
  cases d with
  |false=>grind[a3M,a0e,b1l]
  |true=>grind[a3M,a0e,b9j]
 |seq a b e f=>funext s;simp only[a3M,a0e,e,f];rfl
 |cond c a b e f=>funext s;simp only[a3M,a0e,e,f];rfl
 |block id b ih=>funext s;simp only[a3M,a0e,ih];rfl
 |loop b ih=>grind[a3M,a0e]
 |scope b ih=>simp_all[a3M,a0e]
 |_=>funext s;rfl
def c0e(call:PV.Calls)(n:Nat)(k:Nat)(xs:List V)(h:HP)(nx:Nat):Option (V×St):=do
 let fn<-P.funcs[k]?;let sz:=max xs.length fn.ntmps
 if sz>256 then none
 let c<-fn.body;let(x,s)<-fLs (fWD true 6) xs λ xs=>fLs (d3u true) h λ h=>fN sz λ sz=>fN nx λ nx=>a3M P call n c {env:=a0u xs 0 .leaf,h:=h,nx:=nx,sz:=sz}
 match x with
 | .exit _=>none
 |_=>pure (<-a0m P fn s,s)
theorem b3y{k:Nat}{xs:List V}{h:HP}{nx:Nat}:c0e P call n k xs h nx=a1j P call n k xs h nx:=by
 unfold c0e a1j;simp only[a3t (b6C true 6),a3t (c2a true),a4i,b8j,Az0];grind
end
end
section
open Go.PV Go.SN
abbrev Ent:=Nat×List V×V
def b6I:List Ent->Nat->List V->Option V
 |[],_,_=>none
 |e::r,k,xs=>if e.1==k&&c6q e.2.1 xs then some e.2.2 else b6I r k xs
section
variable (P:Program) (prim:Nat->Option Fp) (inl:Nat->Bool) (T:List Ent) (F:Nat)
def a3H:Nat->PV.Calls
 |0=>{cbv:=λ k xs bs=>match bs with
   |[]=>(b6I T k xs).map λ v=>(v,[])
   |_=>none,inl:=λ k=>if inl k then some (λ _ _ _=>none)else none}
 |n+1=>{
   cbv:=λ k xs bs=>match(match bs with
    |[]=>b6I T k xs
    |_=>none)with
    |some v=>some (v,[])
    |none=>match prim k with
     |some f=>f xs bs
     |none=>do
      let(h,nx):=a0w 0 ([],bs.length) bs;let(v,s)<-c0e P (a3H n) F k xs h nx;let(v,w)<-a5t k (a0b s.h) s.nx v;let(l,ms,ks)<-a0G (a1x (a0b s.h)) w (List.range bs.length)
      if !(a1u (a0b s.h) ms ks)then none
      pure (v,l)
   inl:=λ k=>if inl k then some (λ xs h nx=>(c0e P (a3H n) F k xs h nx).map λ r=>(r.1,r.2.h,r.2.nx))else none}
def d7P(d:Nat)(e:Ent):Bool:=match(a3H P prim inl T F d).cbv e.1 e.2.1 []with
 |some (v,[])=>vEq v e.2.2
 |_=>false
end
section
variable {P:Program} {prim:Nat->Option Fp} {inl:Nat->Bool} {T:List Ent} {F:Nat}
theorem b8y{k:Nat}{v:V}:∀{T:List Ent} {xs:List V},b6I T k xs=some v->∃e∈T,e.1=k/\e.2.1=xs/\e.2.2=v
 |[],_,h=>by cases h
 |e::r,xs,h=>by
  simp only[b6I]at h;split at h
  .next hc=>
   simp only[az6,aw5]at hc;grind[a5f]
  .obtain⟨a,h1,h2⟩:=b8y h;grind
theorem b6o{N0:Nat}(hT:∀e∈T,(a0d P prim inl N0).cbv e.1 e.2.1 []=some (e.2.2,[]))(hF:F<=N0):∀n,(a3H P prim inl T F n).le (a0d P prim inl (N0+n)):=by
 have c:∀{n:Nat} {k:Nat} {xs:List V} {v:V},b6I T k xs=some v->(a0d P prim inl (N0+n)).cbv k xs []=some (v,[]):=by
  intro n k xs v h;obtain⟨e,h1,rfl,rfl,rfl⟩:=b8y h;exact(a0L (P:=P) (prim:=prim) (inl:=inl) (Nat.le_add_right N0 n)).cbv _ _ _ _ (hT e h1)
 have nn:∀{n:Nat} {k:Nat},inl k=false->(a0d P prim inl n).inl k=none:=λ h=>a4G h;intro n;induction n with
 |zero=>
  refine⟨λ k xs bs r h=> ?_,λ k h=> ?_,λ k f h=> ?_⟩
  .simp only[a3H]at h;cases bs with
   |nil=>simp only[az2]at h;obtain⟨v,h1,rfl⟩:=h;exact c h1
   |cons a b=>cases h
  .grind[a3H]
  .simp only[a3H]at h;split at h
   .next hi=>
    cases h;cases hN:N0+0 with
    |zero=>grind[a0d]
    |succ m=>simp_all[a0d]
   .cases h
 |succ n ih=>
  refine⟨λ k xs bs r h=> ?_,λ k h=> ?_,λ k f h=> ?_⟩
  .simp only[a3H]at h;split at h
   .next v hv=>
    cases bs with
    |nil=>simp_all
    |cons a b=>cases hv
   .rw[show N0+(n+1)=(N0+n)+1 from rfl];simp only[a0d];cases hp:prim k with
    |some f=>grind
    |none=>rw[hp]at h;simp only[Az0,az3]at h|-;obtain⟨q,h1,h2⟩:=h;exact⟨q,a6q ih (by omega) (b3y P▸h1),h2⟩
  .grind[a3H]
  .simp only[a3H]at h;split at h
   .next hi=>
    cases h;refine⟨λ xs h nx=>(a1j P (a0d P prim inl (N0+n)) (N0+n) k xs h nx).map λ r=>(r.1,r.2.h,r.2.nx),?_,λ xs h nx r hr=> ?_⟩
    .rw[show N0+(n+1)=(N0+n)+1 from rfl];simp_all[a0d]
    .simp only[az2]at hr|-;obtain⟨q,h1,h2⟩:=hr;exact⟨q,a6q ih (by omega) (b3y P▸h1),h2⟩
   .cases h
theorem c2s:∀{T:List Ent},(∀e∈T,RC P prim inl e.1 e.2.1 e.2.2)->∃N0,F<=N0/\∀e∈T,(a0d P prim inl N0).cbv e.1 e.2.1 []=some (e.2.2,[])
 |[],_=>⟨F,ay3 _,nofun⟩
 |e::r,h=>by
  obtain⟨N0,h0,h1⟩:=c2s (T:=r) λ e he=>h e (az9 _ he);obtain⟨M,hM⟩:=h e (ay1 ..);refine⟨max N0 M,by omega,λ b a=> ?_⟩;rcases ay4.1 a with rfl|a
  .exact(a0L (P:=P) (prim:=prim) (inl:=inl) (ar6 N0 M)).cbv _ _ _ _ hM
  .exact(a0L (P:=P) (prim:=prim) (inl:=inl) (ar5 N0 M)).cbv _ _ _ _ (h1 b a)
theorem e0d{d:Nat}{e:Ent}(hT:∀e∈T,RC P prim inl e.1 e.2.1 e.2.2)(h:d7P P prim inl T F d e=true):RC P prim inl e.1 e.2.1 e.2.2:=by
 obtain⟨N0,h0,h1⟩:=c2s (F:=F) hT;unfold d7P at h;split at h
 .next v hv=>
  rw[<-a5m _ _ h];exact⟨N0+d,(b6o h1 h0 d).cbv _ _ _ _ hv⟩
 .cases h
end
def hxL:Nat->Nat->List UInt8->List UInt8
 |0,_,a=>a
 |n+1,x,a=>hxL n (x/256) (UInt8.ofNat (x % 256)::a)
def hx(n x:Nat):V:= .lit (.string ⟨(hxL n x []).toArray⟩)
end
section
open Go.PV Go.SN
def c8E:Code->List Code×Code
 | .seq a b=>(a::(c8E b).1,(c8E b).2)
 |c=>([],c)
section
variable (P:Program) (call:PV.Calls) (n:Nat)
def d4V:List Code->St->Option St
 |[],s=>some s
 |c::r,s=>match a3M P call n c s with
  |some (.normal,s)=>d4V r s
  |_=>none
def b8W(f:St->Option (Ex×St)):Nat->St->Option St
 |0,s=>some s
 |m+1,s=>match f s with
  |some (.normal,s)=>b8W f m s
  |_=>none
def b1Q(k:Nat)(xs:List V):Option St:=do
 let fn<-P.funcs[k]?;let c<-fn.body;let sz:=max xs.length fn.ntmps
 if sz>256 then none
 fN sz λ sz=>d4V P call n (c8E c).1 {env:=a0u xs 0 .leaf,h:=[],nx:=0,sz:=sz}
def b9B(k:Nat):Option (Nat×Code):=(P.funcs[k]?).bind λ fn=>fn.body.bind λ c=>match(c8E c).2 with
 | .block id (.loop b)=>some (id,b)
 |_=>none
def b2o(k:Nat)(m:Nat)(s:St):Option St:=(b9B P k).bind λ b=>b8W (a3M P call n b.2) m s
def b2q(k:Nat)(n':Nat)(s:St):Option V:=do
 let fn<-P.funcs[k]?;let b<-b9B P k;let(x,s)<-iter (a3M P call n b.2) n' s;let x:=match x with
  | .exit j=>if j=b.1 then Ex.normal else .exit j
  |x=>x
 match x with
 | .exit _=>none
 |_=>
  let v<-a0m P fn s;let(v,w)<-a5t k (a0b s.h) s.nx v
  if !(a1u (a0b s.h) w.1 w.2)then none
  pure v
end
section
variable {P:Program} {call:PV.Calls} {n:Nat}
theorem d2u:∀{c:Code} {s d:St},d4V P call n (c8E c).1 s=some d->a3M P call n c s=a3M P call n (c8E c).2 d:=by
 intro c;induction c with
 |seq a b _ ih=>grind[c8E,d4V,a3M]
 |_=>grind[c8E,d4V]
theorem b8J{f:St->Option (Ex×St)}:∀{m:Nat} {s a:St} {k:Nat},b8W f m s=some a->iter f (m+k) s=iter f k a
 |0,s,a,k,h=>by
  cases h;grind
 |m+1,s,a,k,h=>by
  simp only[b8W]at h;split at h
  .next b h1=>
   rw[show m+1+k=(m+k)+1 by omega];simp only[iter,h1];exact b8J h
  .cases h
theorem c8A{k m n2:Nat}{xs:List V}{g e:St}{v:V}(h1:b1Q P call n k xs=some g)(h2:b2o P call n k m g=some e)(h3:b2q P call n k n2 e=some v)(hn:m+n2=n):
  ∃v0 s w,c0e P call n k xs [] 0=some (v0,s)/\a5t k (a0b s.h) s.nx v0=some (v,w)/\a1u (a0b s.h) w.1 w.2=true:=by
 rw[b3y];unfold a1j;unfold b1Q at h1;unfold b2o b9B at h2;unfold b2q b9B at h3;cases hf:P.funcs[k]? with
 |none=>grind
 |some fn=>
  cases hb:fn.body with
  |none=>grind
  |some c=>
   simp only[hf,hb,az1,Az0,a4i]at h1 h2 h3|-;by_cases hz:max xs.length fn.ntmps>256
   .grind
   .simp only[hz,av8]at h1|-;have h1:=d2u h1;rw[<-b8j,h1];cases hd:(c8E c).2 with
    |block id b=>
     cases b with
     |loop b=>
      simp only[hd,az1]at h2 h3|-;have h4:=b8J (k:=n2) h2;rw[hn]at h4;simp only[a3M,h4];cases hi:iter (a3M P call n b) n2 e with
      |none=>grind
      |some q=>
       obtain⟨x,s⟩:=q;simp only[hi,az1]at h3;have f:((a0m P fn s).bind λ v=>(a5t k (a0b s.h) s.nx v).bind λ q=>if(!a1u (a0b s.h) q.2.1 q.2.2)=true then(none:Option PUnit).bind λ _=>pure q.1 else pure q.1)=some v->
         ∃v0 w,a0m P fn s=some v0/\a5t k (a0b s.h) s.nx v0=some (v,w)/\a1u (a0b s.h) w.1 w.2=true:=by
        intro h;cases hv:a0m P fn s with
        |none=>grind
        |some v0=>
         simp only[hv,az1]at h;cases hr:a5t k (a0b s.h) s.nx v0 with
         |none=>grind
         |some q=>grind
       have a:∀{x:Ex} (_:∀j,x≠ .exit j),(a0m P fn s).bind (λ v=>(a5t k (a0b s.h) s.nx v).bind λ q=>if(!a1u (a0b s.h) q.2.1 q.2.2)=true then(none:Option PUnit).bind λ _=>pure q.1 else pure q.1)=some v->
         ∃v0 d w,(match x with
          | .exit _=>none
          |_=>(a0m P fn s).bind λ v=>some (v,s))=some (v0,d)/\a5t k (a0b d.h) d.nx v0=some (v,w)/\a1u (a0b d.h) w.1 w.2=true:=by
        intro x hx h;obtain⟨v0,w,a1,a2,a3⟩:=f h;refine⟨v0,s,w,?_,a2,a3⟩;cases x with
        |exit j=>grind
        |_=>simp[a1]
       cases x with
       |exit j=>
        by_cases hj:j=id
        .simp only[hj,aw4]at h3|-;exact a (x:= .normal) (λ _=>nofun) h3
        .grind
       |normal=>exact a (x:= .normal) (nofun) h3
       |ret=>exact a (x:= .ret) (nofun) h3
     |_=>grind
    |_=>grind
end
section
variable {P:Program} {prim:Nat->Option Fp} {inl:Nat->Bool} {T:List Ent} {F:Nat}
theorem d2s{d k m n2:Nat}{xs:List V}{a b:St}{v:V}(hT:∀e∈T,RC P prim inl e.1 e.2.1 e.2.2)(hp:prim k=none)(ht:b6I T k xs=none)(hn:m+n2=F)
  (h1:b1Q P (a3H P prim inl T F d) F k xs=some a) (h2:b2o P (a3H P prim inl T F d) F k m a=some b) (h3:b2q P (a3H P prim inl T F d) F k n2 b=some v):RC P prim inl k xs v:=by
 obtain⟨v0,s,w,b1,b2,b3⟩:=c8A h1 h2 h3 hn;obtain⟨N0,h0,hN⟩:=c2s (F:=F) hT;refine⟨N0+(d+1),(b6o hN h0 (d+1)).cbv k xs [] _ ?_⟩;simp only[a3H,ht,hp];show((c0e P (a3H P prim inl T F d) F k xs [] 0).bind _)=_;grind[a0G]
end
end
end Go.SE
