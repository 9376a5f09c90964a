import GoSem.Dispatch
import Derived.Test.YtfffjfhfafhfmaaGreatDoorProg
import Derived.Below
import Derived.Calls
import Derived.Orders
import Derived.Laws.Cells
import Derived.Laws.BytesArg
import Derived.Laws.AppendOwn
import Derived.Lib.AppendStr
import Derived.MapKept
import Derived.Laws.Strings
set_option linter.all false
namespace Go
def Az0:=@Option.bind_eq_bind
def Az1:=@Option.pure_def
def Az2:=@List.cons.injEq
def Az3:=@List.all_cons
def Az4:=@Array.toList_inj
def Az5:=@List.mem_filterMap
def Az6:=@Array.foldl_toList
def Az7:=@List.drop_eq_getElem_cons
def Az8:=@List.map_congr_left
def Az9:=@List.flatMap_append
def Ay0:=@Option.isSome_none
def Ay1:=@List.headD_cons
def Ay2:=@List.find?_some
def Ay3:=@ByteArray.ext
def Ay4:=@List.getElem?_set_self
def Ay5:=@List.append_assoc
def Ay6:=@List.set_getElem_self
def Ay7:=@Array.getElem?_setIfInBounds
def Ay8:=@beq_eq_false_iff_ne
def Ay9:=@List.IsPrefix.trans
def Ax0:=@Int.emod_lt_of_pos
def Ax1:=@decide_eq_true
def Ax2:=@List.mem_or_eq_of_mem_set
def Ax3:=@List.drop_zero
def Ax4:=@Nat.not_le
def Ax5:=@List.any_eq_false
def Ax6:=@decide_eq_false_iff_not
def Ax7:=@Nat.lt_of_not_le
def Ax8:=@List.isEmpty_iff
def Ax9:=@funext
def Aw0:=@List.nodup_cons
def Aw1:=@List.map_append
def Aw2:=@List.forIn_cons
def Aw3:=@Bool.and_eq_false_iff
def Aw4:=@List.getElem?_set_ne
def Aw5:=@Nat.mul_le_mul
def Aw6:=@List.take_succ_cons
def Aw7:=@List.mem_map_of_mem
def Aw8:=@Array.toList_append
def Aw9:=@List.mem_replicate
def Av0:=@Int.natCast_nonneg
def Av1:=@Array.forIn_toList
def Av2:=@bne_iff_ne
def Av3:=@Nat.lt_succ_of_lt
def Av4:=@List.nodup_append
def Av5:=@Int.toNat_natCast
def Av6:=@Nat.pow_succ
def Av7:=@Nat.le_of_not_lt
def Av8:=@List.prefix_refl
def Av9:=@List.mem_reverse
def Au0:=@Int.ediv_le_self
def Au1:=@Array.toList_map
def Au2:=@List.foldl_cons
def Au3:=@List.find?_cons
def Au4:=@Int.emod_nonneg
def Au5:=@Array.getElem?_append_right
def Au6:=@Int.tmod_eq_emod_of_nonneg
def Au7:=@Int.tdiv_eq_ediv_of_nonneg
def Au8:=@ne_eq
def Au9:=@Option.isNone_iff_eq_none
def At0:=@Int.lt_of_mul_lt_mul_left
def At1:=@Classical.byContradiction
def At2:=@Array.mapM_eq_mapM_toList
def At3:=@Go.Value.int.injEq
def At4:=@UInt8.toNat_ofNat_of_lt'
def At5:=@Nat.mod_lt
def At6:=@List.getElem?_eq_getElem
def At7:=@Array.getElem?_replicate
def At8:=@Array.getElem?_push_size
def At9:=@List.idxOf?_eq_some_iff
def As0:=@Bool.true_and
def As1:=@Bool.false_or
def As2:=@Nat.le_of_succ_le_succ
def As3:=@List.length_eq_one_iff
def As4:=@Int.le_ediv_iff_mul_le
def As5:=@Array.getElem?_push_lt
theorem az0:∀{α:Type _}(val val_1:α),(some val=some val_1)=(val=val_1):=@Option.some.injEq
theorem az1:∀{α:Type _}{β:Type _}(a:α)(f:α→Option β),Option.bind (some a) f=f a:=@Option.bind_some
theorem az2:∀{α:Type _}{b:α}{α_1:Type _}{x:Option α_1}{f:α_1→α},Option.map f x=some b↔∃ a,x=some a∧f a=b:=@Option.map_eq_some_iff
theorem az3:∀{α:Type _}{b:α}{α_1:Type _}{x:Option α_1}{f:α_1→Option α},Option.bind x f=some b↔∃ a,x=some a∧f a=some b:=@Option.bind_eq_some_iff
theorem az5:∀{α:Type _}{l:List α}{i:Nat}(h:i<List.length l),l[i]?=some l[i]:=@List.getElem?_eq_getElem
theorem az6:∀(a b:Bool),((a && b)=true)=(a=true∧b=true):=@Bool.and_eq_true
theorem az7:∀{α:Type _}{a b:α},a ∈ [b]↔a=b:=@List.mem_singleton
theorem az8:∀{α:Type _}{β:Type _}(fst:α)(snd:β)(fst_1:α)(snd_1:β),((fst,snd)=(fst_1,snd_1))=(fst=fst_1∧snd=snd_1):=@Prod.mk.injEq
theorem az9:∀{α:Type _}(y:α){a:α}{l:List α},a ∈ l→a ∈ y :: l:=@List.mem_cons_of_mem
theorem ay0:∀{α:Type _}{i:Nat}{a:α}{l:List α},l[i]?=some a↔∃ h,l[i]=a:=@List.getElem?_eq_some_iff
theorem ay1:∀{α:Type _}{a:α}{l:List α},a ∈ a :: l:=@List.mem_cons_self
theorem ay2:∀{p:Prop} [inst:Decidable p],(decide p=true)=p:=@decide_eq_true_eq
theorem ay3:∀(n:Nat),n≤n:=@Nat.le_refl
theorem ay4:∀{α:Type _}{b:α}{l:List α}{a:α},a ∈ b :: l↔a=b∨a ∈ l:=@List.mem_cons
theorem ay5:∀{α:Type _}{p:α→Bool}{l:List α},List.all l p=true↔∀(x:α),x ∈ l→p x=true:=@List.all_eq_true
theorem ay6:(false=true)=False:=@Bool.false_eq_true
theorem ay7:∀{α:Type _}{l:List α},List.length l=0↔l=[]:=@List.length_eq_zero_iff
theorem ay8:∀(a b:Bool),((a || b)=true)=(a=true∨b=true):=@Bool.or_eq_true
theorem ay9:∀{c:Prop}{h:Decidable c},¬c→∀{α:Sort _}{t e:α},(if c then t else e)=e:=@if_neg
theorem ax0:∀{α:Type _}{β:Type _}(a:α)(f:α→β),Option.map f (some a)=some (f a):=@Option.map_some
theorem ax1:∀{α:Type _}{a:α}{s t:List α},a ∈ s ++ t↔a ∈ s∨a ∈ t:=@List.mem_append
theorem ax2:∀(b:Bool),((!b)=true)=(b=false):=@Bool.not_eq_true'
theorem ax3:∀{c:Prop}{h:Decidable c},c→∀{α:Sort _}{t e:α},(if c then t else e)=t:=@if_pos
theorem ax4:∀{α:Type _}{l:List α}{i:Nat}{a:α},l[i]?=some a→a ∈ l:=@List.mem_of_getElem?
theorem ax5:∀{α:Type _}{β:Type _}{b:β}{f:α→β}{l:List α},b ∈ List.map f l↔∃ a,a ∈ l∧f a=b:=@List.mem_map
theorem ax6:∀{α:Type _}{xs:Array α}{i:Nat}{d:α},Array.getD xs i d=Option.getD xs[i]? d:=@Array.getD_eq_getD_getElem?
theorem ax8:∀{α:Type _}{val val_1:α},some val=some val_1→val=val_1:=@Option.some.inj
theorem ax9:∀{α:Type _}{β:Type _}{f:α→List β}{b:β}{l:List α},b ∈ List.flatMap f l↔∃ a,a ∈ l∧b ∈ f a:=@List.mem_flatMap
theorem aw0:∀{α:Type _}{xs:Array α}{i:Nat}(h:i<Array.size xs),xs[i]?=some xs[i]:=@Array.getElem?_eq_getElem
theorem aw1:∀{α:Type _}{l₁ l₂:List α}{i:Nat},i<List.length l₁→(l₁ ++ l₂)[i]?=l₁[i]?:=@List.getElem?_append_left
theorem aw2:∀{α:Type _}{b:α}(l1:List α){bs:List α},b ∈ bs→b ∈ l1 ++ bs:=@List.mem_append_right
theorem aw3:∀{α:Type _}{l₁ l₂ l₃:List α},l₁ ⊆ l₂→l₂ ⊆ l₃→l₁ ⊆ l₃:=@List.Subset.trans
theorem aw4:∀{α:Sort _}{x:Decidable True}(t e:α),(if True then t else e)=t:=@if_true
theorem aw5:∀{α:Type _} [inst:BEq α] [LawfulBEq α] {a b:α},(a == b)=true↔a=b:=@beq_iff_eq
theorem aw6:∀{α:Type _}{l:List α},List.length l=0→l=[]:=@List.eq_nil_of_length_eq_zero
theorem aw7:∀(n:Nat),0≤n:=@Nat.zero_le
theorem aw8:∀{n m:Nat}(k:Nat),n≤m→n * k≤m * k:=@Nat.mul_le_mul_right
theorem aw9:∀{n m k:Nat},n<m→m≤k→n<k:=@Nat.lt_of_lt_of_le
theorem av0:∀{α:Type _}{a:α},¬a ∈ []:=@List.not_mem_nil
theorem av1:∀{α:Type _}{l:List α}{i j:Nat},(List.take i l)[j]?=if j<i then l[j]? else none:=@List.getElem?_take
theorem av2:∀{α:Type _}{β:Type _}{f:α→β}{a:α}{l:List α},List.map f (a :: l)=f a :: List.map f l:=@List.map_cons
theorem av3:∀{α:Type _}{l₁ l₂:List α}{i:Nat},List.length l₁≤i→(l₁ ++ l₂)[i]?=l₂[i - List.length l₁]?:=@List.getElem?_append_right
theorem av4:∀{α:Type _}{a:α}{l1:List α}(bs:List α),a ∈ l1→a ∈ l1 ++ bs:=@List.mem_append_left
theorem av5:True:=@trivial
theorem av7:∀(b:Bool),(¬b=false)=(b=true):=@Bool.not_eq_false
theorem av8:∀{α:Sort _}{x:Decidable False}(t e:α),(if False then t else e)=e:=@if_false
theorem av9:∀{n m k:Nat},n≤m→m≤k→n≤k:=@Nat.le_trans
theorem au0:∀{α:Type _}{β:Type _}{b:β}{l:List α}{f:α→Option β},List.findSome? f l=some b→∃ a,a ∈ l∧f a=some b:=@List.exists_of_findSome?_eq_some
theorem au1:∀{α:Type _} [inst:BEq α] [LawfulBEq α] {a:α}{l1:List α},List.contains l1 a=true↔a ∈ l1:=@List.contains_iff_mem
theorem au2:∀{α:Type _}{l:List α}{n:Nat}(h:n<List.length l),l[n] ∈ l:=@List.getElem_mem
theorem au3:∀{α:Type _}{β:Type _}{f:α→β}{l:List α}{i:Nat},(List.map f l)[i]?=Option.map f l[i]?:=@List.getElem?_map
theorem au4:∀{α:Type _}{i:Nat}{a:α}{l:List α},a ∈ List.take i l→a ∈ l:=@List.mem_of_mem_take
theorem au5:∀(n:Nat),n<Nat.succ n:=@Nat.lt_succ_self
theorem au6:∀{α:Type _}{p:α→Prop}{a:α}{l:List α},(∀(x:α),x ∈ a :: l→p x)↔p a∧∀(x:α),x ∈ l→p x:=@List.forall_mem_cons
theorem au7:∀{α:Type _}{i:Nat}{l:List α},List.length (List.take i l)=min i (List.length l):=@List.length_take
theorem au8:∀{a b:Nat},a≤b→min a b=a:=@Nat.min_eq_left
theorem au9:∀{p:Prop} [Decidable p],¬¬p↔p:=@Decidable.not_not
theorem at0:∀{α:Type _}{x:Option α},Option.isSome x=true↔∃ a,x=some a:=@Option.isSome_iff_exists
theorem at1:∀(b:Bool),(¬b=true)=(b=false):=@Bool.not_eq_true
theorem at3:∀(n:Nat),n≤Nat.succ n:=@Nat.le_succ
theorem at4:∀{α:Type _} [inst:BEq α] {a:α}{l₁ l₂:List α},List.count a (l₁ ++ l₂)=List.count a l₁+List.count a l₂:=@List.count_append
theorem at5:∀{α:Type _}{xs:List α}{i j:Nat},(List.drop i xs)[j]?=xs[i+j]?:=@List.getElem?_drop
theorem at6:∀{α:Type _} [inst:BEq α] {a b:α}{l:List α},List.count a (b :: l)=List.count a l+if (b == a)=true then 1 else 0:=@List.count_cons
theorem at7:∀(n m k:Nat),n+m+k=n+(m+k):=@Nat.add_assoc
theorem at8:∀{p:Prop} [inst:Decidable p],decide p=true→p:=@of_decide_eq_true
theorem at9:∀{α:Type _}{a:α}{i:Nat}{l:List α},a ∈ List.drop i l→a ∈ l:=@List.mem_of_mem_drop
theorem as0:∀(n:Nat),¬n<0:=@Nat.not_lt_zero
theorem as2:∀{α:Type _}{p:α→Bool}{l1:List α}{x:α},x ∈ List.filter p l1↔x ∈ l1∧p x=true:=@List.mem_filter
theorem as3:∀{α:Type _}{i:Nat}{b:α}{xs:Array α},xs[i]?=some b↔∃ h,xs[i]=b:=@Array.getElem?_eq_some_iff
theorem as4:∀(n:Nat),0+n=n:=@Nat.zero_add
theorem as5:∀(n m:Nat),n<m∨n ≥ m:=@Nat.lt_or_ge
theorem as6:∀{α:Type _}{a:α}{l:List α},(a :: l)[0]?=some a:=@List.getElem?_cons_zero
theorem as7:∀{α:Sort _}{a b:α},a ≠ b→b ≠ a:=@Ne.symm
theorem as8:∀{α:Type _}{i:Nat}{l:List α},List.length (List.drop i l)=List.length l - i:=@List.length_drop
theorem ar0:∀{α:Type _}{l1 bs:List α},List.length (l1 ++ bs)=List.length l1+List.length bs:=@List.length_append
theorem ar1:∀(p:Prop),(p∨False)=p:=@or_false
theorem ar2:∀(n m k:Nat),(n+m) * k=n * k+m * k:=@Nat.add_mul
theorem ar3:∀{α:Type _}{p:α→Bool}{a:α}{l:List α},List.find? p l=some a→a ∈ l:=@List.mem_of_find?_eq_some
theorem ar4:∀{α:Type _}{p:α→Bool}{l:List α},List.any l p=true↔∃ x,x ∈ l∧p x=true:=@List.any_eq_true
theorem ar5:∀(a b:Nat),a≤max a b:=@Nat.le_max_left
theorem ar6:∀(a b:Nat),b≤max a b:=@Nat.le_max_right
theorem ar7:∀{α:Type _} [inst:BEq α] [LawfulBEq α] {a:α}{l:List α},0<List.count a l↔a ∈ l:=@List.count_pos_iff
theorem ar8:∀{α:Type _}{β:Type _}{f:α→β},List.map f []=[]:=@List.map_nil
theorem ar9:∀(a:Int),a≤a:=@Int.le_refl
theorem aq0:∀{α:Type _}{l:List α}{i:Nat}{a:α},List.getD l i a=Option.getD l[i]? a:=@List.getD_eq_getElem?_getD
theorem aq1:∀{a b c:Int},a≤b→0≤c→c * a≤c * b:=@Int.mul_le_mul_of_nonneg_left
theorem aq2:∀{m n:Nat},m ∈ List.range n↔m<n:=@List.mem_range
theorem aq3:∀{a b:Int},a<b→a≤b:=@Int.le_of_lt
theorem aq4:(!true)=false:=@Bool.not_true
theorem aq5:∀{n m:Nat},n<m→n≤m:=@Nat.le_of_lt
theorem aq6:∀{α:Type _} [inst:BEq α] [ReflBEq α] (a:α),(a == a)=true:=@beq_self_eq_true
theorem aq7:∀{a b c:Int},a≤0→c≤b→a * b≤a * c:=@Int.mul_le_mul_of_nonpos_left
theorem aq8:∀{n:Nat},List.length (List.range n)=n:=@List.length_range
theorem aq9:∀{a b:Nat},¬a<b↔b≤a:=@Nat.not_lt
theorem ap0:(¬True)=False:=@not_true_eq_false
theorem ap1:∀(n:Nat),n+0=n:=@Nat.add_zero
theorem ap2:∀{α:Type _}{xs:Array α},Array.size xs=0→xs=#[]:=@Array.eq_empty_of_size_eq_zero
theorem ap3:∀{α:Type _}{β:Type _}{l1:List α}(f:α→β),List.length (List.map f l1)=List.length l1:=@List.length_map
theorem ap4:∀{α:Type _}{a:α}{l1 bs:List α},a :: l1 ++ bs=a :: (l1 ++ bs):=@List.cons_append
theorem ap6:∀{p q:Prop},¬(p∨q)↔¬p∧¬q:=@not_or
theorem ap7:∀{α:Type _}{n:Nat}{a:α},List.length (List.replicate n a)=n:=@List.length_replicate
theorem ap8:∀{α:Type _}(l1:List α),l1 ++ []=l1:=@List.append_nil
theorem ap9:∀{α:Type _}{xs:Array α}{i:Nat},(Array.toList xs)[i]?=xs[i]?:=@Array.getElem?_toList
theorem ao0:∀(p:Prop),(p∧True)=p:=@and_true
theorem ao1:∀{α:Type _}{a:α}{i:Nat}{l:List α},(a :: l)[i+1]?=l[i]?:=@List.getElem?_cons_succ
theorem ao2:∀(a b:Int),b * (a / b)+a % b=a:=@Int.mul_ediv_add_emod
theorem ao3:∀{a b:Int},0≤a→0≤b→0≤a * b:=@Int.mul_nonneg
theorem ao4:∀{a:ByteArray}{b e:Nat},ByteArray.size (ByteArray.extract a b e)=min e (ByteArray.size a) - b:=@ByteArray.size_extract
theorem ao5:∀(p:Prop),(True∧p)=p:=@true_and
theorem ao6:∀{i n:Nat},i<n→(List.range n)[i]?=some i:=@List.getElem?_range
theorem ao7:∀{a b:Bool},a=b↔(a=true↔b=true):=@Bool.eq_iff_iff
theorem ao8:∀{α:Type _}(l1:List α),[] ++ l1=l1:=@List.nil_append
theorem ao9:∀{α:Type _}{a:α},List.length [a]=1:=@List.length_singleton
theorem an0:∀{α:Type _}{a:α}{l1:List α},List.length (a :: l1)=List.length l1+1:=@List.length_cons
theorem an1:∀{p:Prop} [inst:Decidable p],¬p→decide p=false:=@decide_eq_false
theorem an2:∀{s n m:Nat},m ∈ List.range' s n↔s≤m∧m<s+n:=@List.mem_range'_1
theorem an3:∀{α:Type _}{a b:α},Option.getD (some a) b=a:=@Option.getD_some
theorem an4:∀(n m:Nat),Nat.succ n * m=n * m+m:=@Nat.succ_mul
theorem an5:∀(b:Bool),(b && b)=b:=@Bool.and_self
theorem an6:∀{m:Nat}(n:Nat),0<m→n≤n * m:=@Nat.le_mul_of_pos_right
theorem an7:∀{α:Type _}{l:List α}{i:Nat},List.length l≤i→l[i]?=none:=@List.getElem?_eq_none
theorem an8:∀{α:Sort _}{β:Sort _}{a₁ a₂:α}(f:α→β),a₁=a₂→f a₁=f a₂:=@congrArg
theorem an9:∀(p:Prop),(p∧p)=p:=@and_self
theorem am0:∀(n:Nat),n=0∨n > 0:=@Nat.eq_zero_or_pos
theorem am1:∀{a b:Int},0≤a→0≤b→0≤a / b:=@Int.ediv_nonneg
theorem am2:∀(n m:Nat),n * m=m * n:=@Nat.mul_comm
theorem am3:List.range 0=[]:=@List.range_zero
theorem am4:(!false)=true:=@Bool.not_false
theorem am5:Go.Program.underlying Go.Proofs.Tryz.prog 3=some (Go.TypeDesc.int Go.IntKind.i64):=@Go.Proofs.Tryz.underlying3
theorem am6:Go.Program.underlying Go.Proofs.Tryz.prog 9=some Go.TypeDesc.string:=@Go.Proofs.Tryz.underlying9
theorem am7:(Go.Program.funcs Go.Proofs.Tryz.prog)[277]?=some Go.Proofs.Tryz.f277:=@Go.Proofs.Tryz.func277
theorem am8:Go.Program.underlying Go.Proofs.Tryz.prog 5=some (Go.TypeDesc.int Go.IntKind.u8):=@Go.Proofs.Tryz.underlying5
theorem am9:Go.Program.underlying Go.Proofs.Tryz.prog 250=some (Go.TypeDesc.slice 399):=@Go.Proofs.Tryz.underlying250
theorem al0:Go.Program.underlying Go.Proofs.Tryz.prog 22=some (Go.TypeDesc.slice 5):=@Go.Proofs.Tryz.underlying22
theorem al1:Go.Program.underlying Go.Proofs.Tryz.prog 30=some (Go.TypeDesc.int Go.IntKind.i64):=@Go.Proofs.Tryz.underlying30
theorem al2:(Go.Program.funcs Go.Proofs.Tryz.prog)[381]?=some Go.Proofs.Tryz.f381:=@Go.Proofs.Tryz.func381
theorem al3:(Go.Program.funcs Go.Proofs.Tryz.prog)[278]?=some Go.Proofs.Tryz.f278:=@Go.Proofs.Tryz.func278
theorem al4:(Go.Program.funcs Go.Proofs.Tryz.prog)[163]?=some Go.Proofs.Tryz.f163:=@Go.Proofs.Tryz.func163
end Go
namespace Go.SN
structure Sy where
 id:Nat
 lo:Int
 hi:Int
 deriving DecidableEq,Inhabited,Repr
structure LE where
 c:Int
 ts:List (Sy×Int)
 deriving DecidableEq,Inhabited,Repr
def LE.k(c:Int):LE:=⟨c,[]⟩
def LE.sy(s:Sy):LE:=⟨0,[(s,1)]⟩
def d0s(s:Sy)(a:Int):List (Sy×Int)->List (Sy×Int)
 |[]=>if a=0 then []else [(s,a)]
 |(c,b)::r=>
  if s.id<c.id then(if a=0 then(c,b)::r else(s,a)::(c,b)::r)
  else if s=c then(if a+b=0 then r else(c,a+b)::r)
  else(c,b)::d0s s a r
def b7K:List (Sy×Int)->List (Sy×Int)->List (Sy×Int)
 |[],l=>l
 |(s,a)::r,l=>b7K r (d0s s a l)
def LE.add(a b:LE):LE:=⟨a.c+b.c,b7K a.ts b.ts⟩
def c1h(k:Int):List (Sy×Int)->List (Sy×Int)
 |[]=>[]
 |(s,x)::r=>(s,k*x)::c1h k r
def LE.smul(k:Int)(a:LE):LE:=if k=0 then .k 0 else⟨k*a.c,c1h k a.ts⟩
def LE.sub(a b:LE):LE:=a.add (b.smul (-1))
def LE.addc(a:LE)(k:Int):LE:=⟨a.c+k,a.ts⟩
def LE.neg(a:LE):LE:=a.smul (-1)
def c2X:List (Sy×Int)->Int->Int
 |[],c=>c
 |(s,a)::r,c=>c2X r (c+(if 0<a then a*s.lo else a*s.hi))
def LE.min(e:LE):Int:=c2X e.ts e.c
def a3C(s:Sy):List (Sy×Int)->Int
 |[]=>0
 |(b,a)::r=>if s=b then a else a3C s r
def c1K(e g:LE):List (Sy×Int)->Option (Int×LE)
 |[]=>none
 |(s,a)::r=>
  let b:=a3C s g.ts
  if 0<a/\0<b then(if a % b=0 then some (1,e.sub (g.smul (a/b)))else some (b,(e.smul b).sub (g.smul a)))
  else if a<0/\b<0 then(if a % b=0 then some (1,e.sub (g.smul (a/b)))else some (-b,(e.smul (-b)).sub (g.smul (-a))))
  else c1K e g r
def d4F:List (Sy×Int)->Int->Int
 |[],c=>c
 |(s,a)::r,c=>d4F r (c+(if 0<a then a*s.hi else a*s.lo))
def d6E(F:Int->LE->Bool)(k:Int)(e:LE)(s:Sy)(a:Int):List LE->Bool
 |[]=>false
 |g::r=>(match c1K e g [(s,a)]with
  |some (b,c)=>F (k*b) c
  |none=>false)||d6E F k e s a r
def d4P(all:List LE):Nat->Nat->Int->LE->Bool
 |0,_,k,e=>decide (-k<e.min)
 |n+1,f,k,e=>if -k<e.min then true else if f=0 then false else if d4F e.ts e.c<= -k then false else match e.ts with
  |[]=>false
  |(s,a)::r=>d6E (d4P all n (f-1)) k e s a all||d4P all n f k ⟨e.c+(if 0<a then a*s.lo else a*s.hi),r⟩
def ent(all:List LE)(f:Nat)(e:LE):Bool:=d4P all 24 f 1 e
def lowerL(f:LE->Int)(e:LE):List LE->Int->Int
 |[],m=>m
 |g::r,m=>lowerL f e r (match c1K e g e.ts with
  |some (1,a)=>Max.max m (f a)
  |_=>m)
def a4s(cs:List LE):Nat->LE->Int
 |0,e=>e.min
 |n+1,e=>if e.ts.isEmpty then e.c else lowerL (a4s cs n) e cs e.min
def b6K(B:List (Nat×Int×Int))(s:Sy):Int×Int:=match B.find? (λ q=>q.1==s.id)with
 |some (_,l,h)=>(if s.lo<=l then l else s.lo,if h<=s.hi then h else s.hi)
 |none=>(s.lo,s.hi)
def d3i(B:List (Nat×Int×Int)):List (Sy×Int)->Int->Int
 |[],c=>c
 |(s,a)::r,c=>d3i B r (c+(if 0<a then a*(b6K B s).1 else a*(b6K B s).2))
def d3f(B:List (Nat×Int×Int))(s0:Sy):List (Sy×Int)->Int->Int
 |[],c=>c
 |(s,a)::r,c=>d3f B s0 r (if s=s0 then c else c+(if 0<a then a*(b6K B s).2 else a*(b6K B s).1))
def d2R(B:List (Nat×Int×Int))(s:Sy)(l h:Int):List (Nat×Int×Int):=(s.id,l,h)::B.filter λ q=>q.1 !=s.id
def d3a(s0:Sy):List (Sy×Int)->Int
 |[]=>0
 |(s,a)::r=>(if s=s0 then a else 0)+d3a s0 r
def c2f(B:List (Nat×Int×Int))(g:LE)(p:Sy×Int):List (Nat×Int×Int):=
 let b:=b6K B p.1;let a:=d3a p.1 g.ts;let R:=d3f B p.1 g.ts g.c
 if 0<a then let l:= -(R/a);if b.1<l then d2R B p.1 l b.2 else B
 else if a<0 then let h:=R/(-a);if h<b.2 then d2R B p.1 b.1 h else B
 else B
def c6h(g:LE):List (Nat×Int×Int)->List (Sy×Int)->List (Nat×Int×Int)
 |B,[]=>B
 |B,p::r=>c6h g (c2f B g p) r
def b1F:List LE->List (Nat×Int×Int)->List (Nat×Int×Int)
 |[],B=>B
 |g::r,B=>let B:=b1F r B;c6h g B g.ts
def b9O(cs:List LE)(e:LE):Int:=d3i (b1F cs (b1F cs [])) e.ts e.c
def tsv(ρ:Nat->Int):List (Sy×Int)->Int
 |[]=>0
 |(s,a)::r=>a*ρ s.id+tsv ρ r
def LE.ev(ρ:Nat->Int)(e:LE):Int:=e.c+tsv ρ e.ts
def Sy.ok(ρ:Nat->Int)(n:Nat)(s:Sy):Prop:=s.id<n/\s.lo<=ρ s.id/\ρ s.id<=s.hi
def b9S(ρ:Nat->Int)(n:Nat)(l:List (Sy×Int)):Prop:=∀p∈l,p.1.ok ρ n
def LE.ok(ρ:Nat->Int)(n:Nat)(e:LE):Prop:=b9S ρ n e.ts
section
variable {ρ ρ':Nat->Int} {n n':Nat}
theorem a1P(c:Int):(LE.k c).ev ρ=c:=by simp[LE.k,LE.ev,tsv]
theorem a1W(c:Int):(LE.k c).ok ρ n:=λ p h=>by cases h
theorem a6w(s:Sy):(LE.sy s).ev ρ=ρ s.id:=by simp[LE.sy,LE.ev,tsv]
variable {s:Sy}
theorem a9r(h:s.ok ρ n):(LE.sy s).ok ρ n:=λ p hp=>by
 grind[LE.sy]
theorem c2W(s:Sy)(a:Int):∀l,tsv ρ (d0s s a l)=a*ρ s.id+tsv ρ l
 |[]=>by
  grind[d0s,tsv]
 |(c,b)::r=>by
  have ih:=c2W s a r;grind[d0s,tsv]
theorem b8Q{s:Sy}{a:Int}(hs:s.ok ρ n):∀{l},b9S ρ n l->b9S ρ n (d0s s a l)
 |[],h=>by
  unfold d0s;split
  .exact h
  .intro p hp;grind
 |(c,b)::r,h=>by
  have hr:b9S ρ n r:=λ p hp=>h p (az9 _ hp);have ih:=b8Q (a:=a) hs hr;unfold d0s;split
  .split
   .exact h
   .intro p hp;rcases ay4.1 hp with rfl|hp
    .exact hs
    .exact h p hp
  .split
   .split
    .exact hr
    .intro p hp;rcases ay4.1 hp with rfl|hp
     .grind
     .exact hr p hp
   .intro p hp;rcases ay4.1 hp with rfl|hp
    .exact h _ (ay1 ..)
    .exact ih p hp
theorem c4V:∀a b,tsv ρ (b7K a b)=tsv ρ a+tsv ρ b
 |[],b=>by simp[b7K,tsv]
 |(s,x)::r,b=>by rw[b7K,c4V r,c2W];simp only[tsv];omega
theorem b8D:∀{a b},b9S ρ n a->b9S ρ n b->b9S ρ n (b7K a b)
 |[],b,_,h=>h
 |(s,x)::r,b,h,k=>by
  rw[b7K];exact b8D (λ p hp=>h p (az9 _ hp)) (b8Q (h (s,x) (ay1 ..)) k)
theorem a1B(a b:LE):(a.add b).ev ρ=a.ev ρ+b.ev ρ:=by grind[LE.add,LE.ev,c4V]
variable {a b:LE}
theorem a1A(h:a.ok ρ n)(k:b.ok ρ n):(a.add b).ok ρ n:=b8D h k
theorem b6n(k:Int):∀l,tsv ρ (c1h k l)=k*tsv ρ l
 |[]=>by simp[c1h,tsv]
 |(s,x)::r=>by simp only[c1h,tsv,b6n k r,Int.mul_add,Int.mul_assoc]
theorem b5P{k:Int}{p:Sy×Int}:∀{l},p∈c1h k l->∃x,(p.1,x)∈l
 |[],h=>by cases h
 |(s,x)::r,h=>by
  rcases ay4.1 h with rfl|h
  .grind
  .obtain⟨y,hy⟩:=b5P h;grind
theorem a0R(k:Int)(a:LE):(a.smul k).ev ρ=k*a.ev ρ:=by
 grind[LE.smul,a1P,LE.ev,b6n]
variable {k:Int}
theorem a0Q(h:a.ok ρ n):(a.smul k).ok ρ n:=by
 unfold LE.smul;split
 .exact a1W 0
 .intro p hp;obtain⟨x,hx⟩:=b5P hp;exact h (p.1,x) hx
theorem a0s(a b:LE):(a.sub b).ev ρ=a.ev ρ-b.ev ρ:=by rw[LE.sub,a1B,a0R];omega
theorem a0o(h:a.ok ρ n)(k:b.ok ρ n):(a.sub b).ok ρ n:=a1A h (a0Q k)
theorem a1m(a:LE):a.neg.ev ρ= -a.ev ρ:=by rw[LE.neg,a0R];omega
theorem a1g(h:a.ok ρ n):a.neg.ok ρ n:=a0Q h
theorem a0j(a:LE)(k:Int):(a.addc k).ev ρ=a.ev ρ+k:=by grind[LE.addc,LE.ev]
theorem a0k(h:a.ok ρ n):(a.addc k).ok ρ n:=h
theorem c0a:∀(l:List (Sy×Int)) (c:Int),b9S ρ n l->c2X l c<=c+tsv ρ l
 |[],c,_=>by simp[c2X,tsv]
 |(s,a)::r,c,h=>by
  have ih:=c0a r (c+(if 0<a then a*s.lo else a*s.hi)) (λ p hp=>h p (az9 _ hp));obtain⟨_,h1,h2⟩:=h (s,a) (ay1 ..);have:(if 0<a then a*s.lo else a*s.hi)<=a*ρ s.id:=by
   split
   .simp_all
   .simp_all[aq7]
  grind[c2X,tsv]
variable {e:LE}
theorem a3W(h:e.ok ρ n):e.min<=e.ev ρ:=c0a e.ts e.c h
theorem b2Q{e g:LE}(he:e.ok ρ n)(hg:g.ok ρ n)(h0:0<=g.ev ρ):∀{l b d},c1K e g l=some (b,d)->0<b/\d.ev ρ<=b*e.ev ρ/\d.ok ρ n
 |[],b,d,h=>by cases h
 |(s,a)::r,b,d,h=>by
  unfold c1K at h;simp only at h;generalize a3C s g.ts=q at h;split at h
  .next c=>
   split at h
   .injection h with h;injection h with h1 h2;subst h1;subst h2
    have:0<=(a/q)*g.ev ρ:=ao3 (am1 (aq3 c.1) (aq3 c.2)) h0;exact⟨by decide,by rw[a0s,a0R];omega,a0o he (a0Q hg)⟩
   .injection h with h;injection h with h1 h2;subst h1;subst h2
    have:0<=a*g.ev ρ:=ao3 (aq3 c.1) h0;exact⟨c.2,by rw[a0s,a0R,a0R];omega,a0o (a0Q he) (a0Q hg)⟩
  .split at h
   .next c=>
    split at h
    .next hm=>
     injection h with h;injection h with h1 h2;subst h1;subst h2
     have h3:0<=a/q:=by
      refine Int.not_lt.1 λ hl=> ?_;have h4:=ao2 a q;have h5:0<q*(a/q):=Int.mul_pos_of_neg_of_neg c.2 hl;omega
     have:0<=(a/q)*g.ev ρ:=ao3 h3 h0;exact⟨by decide,by rw[a0s,a0R];omega,a0o he (a0Q hg)⟩
    .injection h with h;injection h with h1 h2;subst h1;subst h2
     have:0<=(-a)*g.ev ρ:=ao3 (by omega) h0;exact⟨by omega,by rw[a0s,a0R,a0R];omega,a0o (a0Q he) (a0Q hg)⟩
   .exact b2Q he hg h0 h
def a2W(ρ:Nat->Int)(n:Nat)(cs:List LE):Prop:=∀g∈cs,g.ok ρ n/\0<=g.ev ρ
theorem c2b{F:Int->LE->Bool}{k:Int}{e:LE}{y:Sy}{a:Int}(he:e.ok ρ n)(hk:0<k)(hF:∀k e,0<k->e.ok ρ n->F k e=true-> -k<e.ev ρ):∀{l},a2W ρ n l->d6E F k e y a l=true-> -k<e.ev ρ
 |[],_,h=>by cases h
 |g::r,hc,h=>by
  unfold d6E at h;rw[ay8]at h;rcases h with h|h
  .split at h
   .next b c hm=>
    obtain⟨hg,h0⟩:=hc g (ay1 ..);obtain⟨h1,h2,h3⟩:=b2Q he hg h0 hm;have h4:=hF (k*b) c (Int.mul_pos hk h1) h3 h;have h5:b*(-k)<b*e.ev ρ:=by
     have:b*(-k)= -(k*b):=by rw[Int.mul_neg,Int.mul_comm]
     omega
    exact At0 h5 (aq3 h1)
   .cases h
  .exact c2b he hk hF (λ g hg=>hc g (az9 _ hg)) h
theorem b7A{all:List LE}(hc:a2W ρ n all):∀(m f:Nat) (k:Int) (e:LE),0<k->e.ok ρ n->d4P all m f k e=true-> -k<e.ev ρ
 |0,f,k,e,_,he,h=>by
  have h:=at8 h;have:=a3W he;omega
 |m+1,f,k,e,hk,he,h=>by
  unfold d4P at h;split at h
  .next h=>
   have:=a3W he;omega
  .split at h
   .cases h
   .split at h
    .cases h
    .split at h
     .cases h
     .next y a r ht=>
      rw[ay8]at h;rcases h with h|h
      .exact c2b he hk (b7A hc m (f-1)) hc h
      .have hy:=he (y,a) (by grind);have hb:(if 0<a then a*y.lo else a*y.hi)<=a*ρ y.id:=by
        split
        .next ha=>exact aq1 hy.2.1 (aq3 ha)
        .next ha=>exact aq7 (by omega) hy.2.2
       have h1:=b7A hc m f k ⟨e.c+(if 0<a then a*y.lo else a*y.hi),r⟩ hk (λ p hp=>he p (by grind)) h;have h2:e.ev ρ=e.c+(a*ρ y.id+tsv ρ r):=by rw[LE.ev,ht];rfl
       have h3:(⟨e.c+(if 0<a then a*y.lo else a*y.hi),r⟩:LE).ev ρ=e.c+(if 0<a then a*y.lo else a*y.hi)+tsv ρ r:=rfl;grind
theorem c9v{all:List LE}{f:Nat}(hc:a2W ρ n all)(he:e.ok ρ n)(h:ent all f e=true):0<=e.ev ρ:=by
 have:=b7A hc 24 f 1 e (by decide) he h;omega
theorem b4M{f:LE->Int}{e:LE}(he:e.ok ρ n)(hf:∀e,e.ok ρ n->f e<=e.ev ρ):∀{l m},a2W ρ n l->m<=e.ev ρ->lowerL f e l m<=e.ev ρ
 |[],m,_,h=>h
 |g::r,m,hc,h=>by
  unfold lowerL;refine b4M he hf (λ g hg=>hc g (az9 _ hg)) ?_;split
  .next a hm=>
   obtain⟨hg,h0⟩:=hc g (ay1 ..);obtain⟨_,h2,h3⟩:=b2Q he hg h0 hm;grind
  .exact h
theorem b0D{cs:List LE}(hc:a2W ρ n cs):∀(k:Nat) (e:LE),e.ok ρ n->a4s cs k e<=e.ev ρ
 |0,e,he=>a3W he
 |k+1,e,he=>by
  unfold a4s;split
  .grind[LE.ev,tsv]
  .exact b4M he (b0D hc k) hc (a3W he)
def Bok(ρ:Nat->Int)(B:List (Nat×Int×Int)):Prop:=∀q∈B,q.2.1<=ρ q.1/\ρ q.1<=q.2.2
variable {B:List (Nat×Int×Int)}
theorem b7o(hB:Bok ρ B)(hs:s.ok ρ n):(b6K B s).1<=ρ s.id/\ρ s.id<=(b6K B s).2:=by
 obtain⟨_,h1,h2⟩:=hs;unfold b6K;split
 .next x l h hf=>
  have hm:=ar3 hf;have he:=Ay2 hf;simp only[aw5]at he;subst he;obtain⟨k1,k2⟩:=hB _ hm;grind
 .grind
theorem b7B{B:List (Nat×Int×Int)}(hB:Bok ρ B):∀(l:List (Sy×Int)) (c:Int),b9S ρ n l->d3i B l c<=c+tsv ρ l
 |[],c,_=>by simp[tsv,d3i]
 |(s,a)::r,c,h=>by
  obtain⟨h1,h2⟩:=b7o hB (h (s,a) (ay1 ..));have ih:=b7B hB r (c+(if 0<a then a*(b6K B s).1 else a*(b6K B s).2)) (λ p hp=>h p (az9 _ hp));have hb:(if 0<a then a*(b6K B s).1 else a*(b6K B s).2)<=a*ρ s.id:=by
   split
   .simp_all
   .simp_all[aq7]
  grind[d3i,tsv]
def oth(ρ:Nat->Int)(s0:Sy):List (Sy×Int)->Int
 |[]=>0
 |(s,a)::r=>(if s=s0 then 0 else a*ρ s.id)+oth ρ s0 r
theorem b4C{s0:Sy}:∀{l:List (Sy×Int)},tsv ρ l=d3a s0 l*ρ s0.id+oth ρ s0 l
 |[]=>by simp[tsv,d3a,oth]
 |(s,a)::r=>by
  simp only[tsv,d3a,oth,b4C (s0:=s0) (l:=r)];grind
theorem b8b{B:List (Nat×Int×Int)}(hB:Bok ρ B){s0:Sy}:∀(l:List (Sy×Int)) (c:Int),b9S ρ n l->c+oth ρ s0 l<=d3f B s0 l c
 |[],c,_=>by simp[oth,d3f]
 |(s,a)::r,c,h=>by
  have hr:b9S ρ n r:=λ p hp=>h p (az9 _ hp);simp only[d3f,oth];split
  .next e=>have:=b8b hB (s0:=s0) r c hr;omega
  .next e=>
   obtain⟨h1,h2⟩:=b7o hB (h (s,a) (ay1 ..));have ih:=b8b hB (s0:=s0) r (c+(if 0<a then a*(b6K B s).2 else a*(b6K B s).1)) hr;have hb:a*ρ s.id<=(if 0<a then a*(b6K B s).2 else a*(b6K B s).1):=by
    split
    .simp_all
    .simp_all[aq7]
   omega
theorem b9e(hB:Bok ρ B){l h:Int}(h1:l<=ρ s.id)(h2:ρ s.id<=h):Bok ρ (d2R B s l h):=λ q hq=>by
 rcases ay4.1 hq with rfl|hq
 .grind
 .exact hB q (as2.1 hq).1
theorem c2U(hB:Bok ρ B){g:LE}(hg:g.ok ρ n)(h0:0<=g.ev ρ){p:Sy×Int}(hp:p∈g.ts):Bok ρ (c2f B g p):=by
 obtain⟨b1,b2⟩:=b7o hB (hg p hp);have hR:=b8b hB (s0:=p.1) g.ts g.c hg;have hs:=b4C (ρ:=ρ) (s0:=p.1) (l:=g.ts);have b:0<=g.c+tsv ρ g.ts:=h0;unfold c2f;simp only;generalize d3a p.1 g.ts=a at*;generalize d3f B p.1 g.ts g.c=R at*;split
 .next ha=>
  split
  .refine b9e hB ?_ b2;have h1: -R<=a*ρ p.1.id:=by omega
   have h2:a*(-(R/a))<=a*ρ p.1.id+(a-1):=by
    have:=ao2 R a;have h3:=Ax0 R ha;rw[Int.mul_neg];omega
   have h4:a*(-(R/a))<a*(ρ p.1.id+1):=by rw[Int.mul_add,Int.mul_one];omega
   have:=At0 h4 (aq3 ha);omega
  .exact hB
 .split
  .next ha=>
   split
   .refine b9e hB b1 ?_;have h1:(-a)*ρ p.1.id<=R:=by rw[Int.neg_mul];omega
    exact(As4 (by omega)).2 (by rw[Int.mul_comm];exact h1)
   .exact hB
  .exact hB
theorem b4L{g:LE}(hg:g.ok ρ n)(h0:0<=g.ev ρ):∀{l:List (Sy×Int)} {B:List (Nat×Int×Int)},(∀p∈l,p∈g.ts)->Bok ρ B->Bok ρ (c6h g B l)
 |[],_,_,hB=>hB
 |p::r,_,hl,hB=>b4L hg h0 (l:=r) (λ q hq=>hl q (az9 _ hq)) (c2U hB hg h0 (hl p (ay1 ..)))
theorem a5D:∀{cs:List LE} {B:List (Nat×Int×Int)},a2W ρ n cs->Bok ρ B->Bok ρ (b1F cs B)
 |[],_,_,hB=>hB
 |g::r,_,hc,hB=>by
  have h1:=a5D (cs:=r) (λ g hg=>hc g (az9 _ hg)) hB;obtain⟨hg,h0⟩:=hc g (ay1 ..);exact b4L hg h0 (λ _ h=>h) h1
theorem a9T{cs:List LE}(hc:a2W ρ n cs)(he:e.ok ρ n):b9O cs e<=e.ev ρ:=
 b7B (a5D hc (a5D hc (λ _ h=>by cases h))) e.ts e.c he
theorem b6e:∀{l:List (Sy×Int)},b9S ρ n l->(∀i,i<n->ρ' i=ρ i)->tsv ρ' l=tsv ρ l
 |[],_,_=>rfl
 |(s,a)::r,h,e=>by
  simp only[tsv];rw[e _ (h (s,a) (ay1 ..)).1,b6e (λ p hp=>h p (az9 _ hp)) e]
theorem a0q(h:e.ok ρ n)(k:∀i,i<n->ρ' i=ρ i):e.ev ρ'=e.ev ρ:=by
 simp only[LE.ev,b6e h k]
theorem a0p(h:e.ok ρ n)(hn:n<=n')(k:∀i,i<n->ρ' i=ρ i):e.ok ρ' n':=λ p hp=>by
 obtain⟨h1,h2,h3⟩:=h p hp;exact⟨by omega,by grind,by grind⟩
end
end Go.SN
namespace Go.PV
inductive V where
 |lit (v:Value)
 |nils
 |slf (xs:List V)
 |sl (own:Option (Nat×Nat×Bool)) (xs:List V)
 |agg (cs:List V)
 |tup (xs:List V)
 |fn (f:Nat) (first cap:List V)
 |row (id sz off n:Nat)
 |ptr (id off:Nat)
 |eptr (id sz i off:Nat)
 |dptr (cs:List V)
 |map (id:Nat)
 |und
 deriving Inhabited
inductive Box where
 |var (cs:List V)
 |row (ty sz:Nat) (xs:List V) (frz:Bool)
 |map (es:List (V×V))
 deriving Inhabited
abbrev HP:=List (Nat×Option Box)
abbrev G:=Nat->Option Box
def a0b:HP->G
 |[],_=>none
 |(j,b)::r,i=>if i=j then b else a0b r i
inductive T where
 |leaf
 |one (v:V)
 |node (l r:T)
def T.get:Nat->T->Nat->V
 |0,.one v,_=>v
 |d+1,.node l r,i=>if i % 2=0 then T.get d l (i/2)else T.get d r (i/2)
 |_,_,_=> .und
def T.put:Nat->T->Nat->V->T
 |0,_,_,v=> .one v
 |d+1,.node l r,i,v=>if i % 2=0 then .node (T.put d l (i/2) v) r else .node l (T.put d r (i/2) v)
 |d+1,_,i,v=>if i % 2=0 then .node (T.put d .leaf (i/2) v) .leaf else .node .leaf (T.put d .leaf (i/2) v)
structure St where
 env:T
 h:HP
 nx:Nat
 sz:Nat
def St.get(s:St)(i:Nat):V:=if i<256 then T.get 8 s.env i else .und
def St.put(s:St)(i:Nat)(v:V):St:=if i<s.sz then {s with env:=T.put 8 s.env i v}else s
def a0D{A B:Type}(f:A->Option B):List A->Option (List B)
 |[]=>some []
 |a::r=>match f a with
  |none=>none
  |some b=>match a0D f r with
   |none=>none
   |some bs=>some (b::bs)
def sc:Value->Bool
 | .bool _| .int _ _| .string _| .nilFunc| .nilIface| .pointer none| .map none=>true
 |_=>false
def a0Z:Value->Option V
 | .slice none n c=>if n=0/\c=0 then some .nils else none
 |v=>if sc v then some (.lit v)else none
def a1w:Value->Option V
 | .agg cs=>(a0D a0Z cs.toList).map .agg
 | .func (.func f) a b=>if a.size=0/\b.size=0 then some (.fn f [] [])else none
 |v=>a0Z v
def a1b:V->Option Value
 | .lit (.chan _)=>none
 | .lit v=>some v
 | .nils=>some (.slice none 0 0)
 |_=>none
def a0W:V->Option Value
 | .agg cs=>(a0D a1b cs).map λ l=> .agg l.toArray
 |v=>a1b v
def a0c{b:Type}(P:Program):Sem b->Option b
 | .pure a=>some a
 | .program k=>a0c P (k P)
 | .mark _ k=>a0c P k
 |_=>none
def V.cells:V->List V
 | .agg cs=>cs
 |v=>[v]
def a0r:V->Bool
 | .agg _| .tup _| .und=>false
 |_=>true
def V.fit(v:V):Bool:=v.cells.all a0r
def a0G{S A B:Type}(f:S->A->Option (B×S)):S->List A->Option (List B×S)
 |s,[]=>some ([],s)
 |s,a::r=>match f s a with
  |none=>none
  |some (b,s)=>match a0G f s r with
   |none=>none
   |some (bs,s)=>some (b::bs,s)
def setCells:List V->Nat->List V->List V
 |cs,0,vs=>vs++cs.drop vs.length
 |[],_,_=>[]
 |c::cs,o+1,vs=>c::setCells cs o vs
structure Out where
 v:V
 upd:HP:=[]
 cnt:Nat:=0
def a0E(g:G):V->Option (List V)
 | .ptr id off=>match g id with|some (.var cs)=>some (cs.drop off)|_=>none
 | .eptr id sz i off=>match g id with|some (.row _ z xs _)=>if z=sz then(xs[i]?).map λ x=>x.cells.drop off else none|_=>none
 | .dptr cs=>some cs
 |_=>none
def a3B(o:Nat):V->Option V
 | .ptr id off=>some (.ptr id (off+o))
 | .eptr id sz i off=>some (.eptr id sz i (off+o))
 | .dptr cs=>some (.dptr (cs.drop o))
 |_=>none
def a4Q(g:G):V->Option (List V)
 | .nils=>some []
 | .sl _ xs| .slf xs=>some xs
 | .row id sz off n=>match g id with|some (.row _ z xs _)=>if z=sz/\off+n<=xs.length then some ((xs.drop off).take n)else none|_=>none
 |_=>none
def lenOf:V->Option Nat
 | .nils=>some 0
 | .sl _ xs| .slf xs=>some xs.length
 | .row _ _ _ n=>some n
 |_=>none
def a2u:V->Option Nat
 | .lit (.int _ n)=>if 0<=n then some n.toNat else none
 |_=>none
def a7v:V->Option UInt8
 | .lit (.int .u8 n)=>some (UInt8.ofNat n.toNat)
 |_=>none
def a2F(s:ByteArray):List V:=s.data.toList.map λ b=> .lit (.int .u8 b.toNat)
@[irreducible] def ED:Nat:=160
theorem c7d:8<=ED:=by unfold ED;decide
theorem a5E:ED=159+1:=by unfold ED;rfl
def a0C:Nat->G->List Nat->V->Option (V×List Nat)
 |0,_,_,_=>none
 |d+1,g,ms,v=>
  match v with
  | .lit _| .nils=>some (v,ms)
  | .sl _ xs| .slf xs=>some (.sl none xs,ms)
  | .agg cs=>match a0G (a0C d g) ms cs with
    |some (l,ms)=>some (.agg l,ms)
    |none=>none
  | .tup cs=>match a0G (a0C d g) ms cs with
    |some (l,ms)=>some (.tup l,ms)
    |none=>none
  | .row id sz off n=>match g id with
    |some (.row _ z xs _)=>if z=sz/\off+n<=xs.length then
      match a0G (a0C d g) (id::ms) ((xs.drop off).take n)with
      |some (l,ms)=>some (.sl none l,ms)
      |none=>none
     else none
    |_=>none
  |_=>none
def a1y:Nat->G->List Nat×List Nat->V->Option (V×List Nat×List Nat)
 |0,_,_,_=>none
 |d+1,g,(ms,ps),v=>
  match v with
  | .ptr id off=>if off≠0 then none else match ps.idxOf? id with
    |some j=>some (.ptr j 0,ms,ps)
    |none=>some (.ptr ps.length 0,ms,ps++[id])
  | .fn f a b=>match a0G (a1y d g) (ms,ps) a with
    |none=>none
    |some (a,s)=>match a0G (a1y d g) s b with
     |none=>none
     |some (b,s)=>some (.fn f a b,s)
  |v=>match a0C ED g ms v with
   |some (v,ms)=>some (v,ms,ps)
   |none=>none
def a0h(g:G)(s:List Nat×List Nat)(v:V):Option (V×List Nat×List Nat):=
 match v with
 | .row id sz off n=>match g id with
   |some (.row ty z xs a)=>
    if z=sz/\off=0/\n=xs.length/\ !s.2.contains id then
     match a0G (a0C ED g) s.1 xs with
     |some (l,ms)=>some (.sl (some (ty,sz,a)) l,ms,id::s.2)
     |none=>none
    else match a0C ED g s.1 v with
     |some (v,ms)=>some (v,ms,s.2)
     |none=>none
   |_=>none
 | .dptr []=>some (.dptr [],s)
 |v=>match a0C ED g s.1 v with
  |some (v,ms)=>some (v,ms,s.2)
  |none=>none
def a1u(g:G)(ms ks:List Nat):Bool:=ks.all λ id=> !ms.contains id||(match g id with|some (.row _ _ _ f)=>f|_=>false)
def a6J:V->Bool
 | .dptr []=>true
 |_=>false
def a0S(id:Nat):V->V
 | .ptr i off=>if i=id/\off=0 then .dptr []else .ptr i off
 |v=>v
def a0H(id:Nat):V->V
 | .dptr []=> .ptr id 0
 |v=>v
def a1x(g:G)(s:List Nat×List Nat)(id:Nat):Option (List V×List Nat×List Nat):=
 match g id with
 |some (.var cs)=>if cs.any a6J then none else a0G (a0h g) s (cs.map (a0S id))
 |_=>none
def a0O(g:G)(s:List Nat×List Nat)(v:V):Option (V×List Nat×List Nat):=
 match v with
 | .agg cs=>match a0G (a0h g) s cs with
   |some (l,s)=>some (.agg l,s)
   |none=>none
 |v=>a0h g s v
def a2q(g:G)(s:List Nat×List Nat)(v:V):Option (V×List Nat×List Nat):=
 match v with
 | .tup xs=>match a0G (a0O g) s xs with
   |some (l,s)=>some (.tup l,s)
   |none=>none
 |v=>a0O g s v
def d1T(k:Nat):Bool:=[154,155,156,77,54,112,206,24,57,58,128,129,130,215,234,235,237,330,331].contains k
def c6k(g:G)(nx:Nat)(v:V):Option (V×List Nat×List Nat):=match a2q g ([],List.range nx) v with
 |some (v,ms,ks)=>if ks.length=nx then some (v,ms,[])else none
 |none=>none
def a5t(k:Nat)(g:G)(nx:Nat)(v:V):Option (V×List Nat×List Nat):=if d1T k then a2q g ([],[]) v else c6k g nx v
def a0J(s:HP×Nat)(v:V):V×HP×Nat:=
 match v with
 | .sl (some (ty,sz,a)) xs=>(.row s.2 sz 0 xs.length,(s.2,some (.row ty sz xs a))::s.1,s.2+1)
 |v=>(v,s)
def a0f(s:HP×Nat):List V->List V×HP×Nat
 |[]=>([],s)
 |c::cs=>let(c,s):=a0J s c;let(cs,s):=a0f s cs;(c::cs,s)
def a2B(s:HP×Nat)(v:V):V×HP×Nat:=
 match v with
 | .agg cs=>let(l,s):=a0f s cs;(.agg l,s)
 |v=>a0J s v
def a1Z(s:HP×Nat):List V->List V×HP×Nat
 |[]=>([],s)
 |c::cs=>let(c,s):=a2B s c;let(cs,s):=a1Z s cs;(c::cs,s)
def a1R(s:HP×Nat)(v:V):V×HP×Nat:=
 match v with
 | .tup xs=>let(l,s):=a1Z s xs;(.tup l,s)
 |v=>a2B s v
def a2s(s:HP×Nat):List Nat->List (List V)->Option (HP×Nat)
 |[],[]=>some s
 |id::ps,cs::bs=>let(l,h,nx):=a0f s cs;a2s ((id,some (.var (l.map (a0H id))))::h,nx) ps bs
 |_,_=>none
abbrev a7F:=Nat->List V->List (List V)->Option (V×List (List V))
abbrev d9Z:=Nat->Option (List V->HP->Nat->Option (V×HP×Nat))
abbrev Fp:=List V->List (List V)->Option (V×List (List V))
structure Calls where
 cbv:a7F
 inl:d9Z
def a3y(g:G):List Nat->HP
 |[]=>[]
 |id::r=>match g id with
  |some (.row ty sz xs _)=>(id,some (.row ty sz xs true))::a3y g r
  |_=>a3y g r
def a1q(call:a7F)(g:G)(nx:Nat)(k:Nat)(args:List V):Option Out:=
 match a0G (a1y 4 g) ([],[]) args with
 |none=>none
 |some (asq,ms,ps)=>match a0G (a1x g) (ms,[]) ps with
  |none=>none
  |some (bs,ms,ks)=>if !(a1u g ms ks&&ps.all (· <nx))then none else match call k asq bs with
   |none=>none
   |some (v,bs)=>match a2s (ks.map (λ id=>(id,none))++a3y g ms,nx) ps bs with
    |none=>none
    |some s=>let(v,h,nx'):=a1R s v;some {v:=v,upd:=h,cnt:=nx'-nx}
section
variable (P:Program)
def a1M(t:Nat):Option Nat:=(P.info? t).map (·.size)
def b4T(t:Nat):Option Bool:=(P.underlying t).map fun| .struct _| .array _ _=>true|_=>false
def a4h(t:Nat):Option V:=do a1w (<-(<-P.info? t).zero)
def a2G(t:Nat):Option Nat:=match P.underlying t with|some (.slice e)=>some e|_=>none
def a6x(t:Nat)(cs:List V):Option V:=do
 let n<-a1M P t
 if<-b4T P t then(if cs.length<n then none else some (.agg (cs.take n)))else cs.head?
def ev(get:Nat->V):Operand->Option V
 | .tmp t=>some (get t)
 | .const v=>a1w v
 | .func f=>some (.fn f [] [])
 | .global _=>none
def evs(get:Nat->V)(xs:Array Operand):Option (List V):=a0D (ev get) xs.toList
def evo(get:Nat->V):Option Operand->Option (Option V)
 |none=>some none
 |some x=>(ev get x).map some
def a1K(t:Nat)(i:Nat):Option (Nat×Nat):=
 match P.underlying t with
 |some (.struct fs)=>(fs[i]?).map λ f=>(f.offset,f.type)
 |_=>none
def b3G(p:V×V):Option MapEntry:=(a0W p.1).map λ k=>{key:=k,val:= .bool false,born:=0}
def findKey(empty:Bool)(t:Nat)(k:Value)(es:List (V×V)):Option (Option Nat):=
 match a0D b3G es,a0c P (Instr.checkKey empty 10000 t k)with
 |some ms,some _=>(a0c P (Instr.findKey t k ms)).map λ r=>r.map (·.1)
 |_,_=>none
def d1S(es:List (V×V))(i:Nat)(k:Value):Bool:=match(es[i]?).bind λ p=>a0W p.1 with
 |some o=>Instr.sameBits 10000 o k
 |none=>false
def a0t(s:Sem Value):Option V:=do a1w (<-a0c P s)
def fill:List V->List (Nat×Nat×V)->Option (List V)
 |cs,[]=>some cs
 |cs,(off,size,v)::r=>if v.cells.length≠size||off+size>cs.length|| !v.fit then none else fill (setCells cs off v.cells) r
def a1H:List V->Nat->List (Nat×V)->Option (List V)
 |xs,_,[]=>some xs
 |xs,sz,(i,v)::r=>if v.cells.length=sz/\i<xs.length/\v.fit=true then a1H (xs.set i v) sz r else none
def a4Z:V->Bool
 | .lit (.pointer none)=>true
 |_=>false
def bk:List V->Bool
 |[c,_]=>a4Z c
 |_=>false
def bT:Nat:=324
def storeAt(g:G)(p:V)(vs:List V):Option HP:=
 match p with
 | .ptr id off=>match g id with
   |some (.var cs)=>if off+vs.length<=cs.length then(if bk (setCells cs off vs)&& !bk cs then none else some [(id,some (.var (setCells cs off vs)))])else none
   |_=>none
 | .eptr id sz i off=>match g id with
   |some (.row ty z xs false)=>do
    let x<-xs[i]?
    if z=sz/\off+vs.length<=x.cells.length then
     let cs:=setCells x.cells off vs;let a<-(match x with| .agg _=>some (V.agg cs)|_=>cs.head?)
     pure [(id,some (.row ty sz (xs.set i a) false))]
    else none
   |_=>none
 |_=>none
def a2U:TypeDesc->V->V->Bool
 | .slice _,.sl _ _,.nils| .slice _,.slf _,.nils| .slice _,.row ..,.nils=>true
 | .func ..,.fn ..,.lit .nilFunc=>true
 | .pointer _,.ptr ..,.lit (.pointer none)| .pointer _,.eptr ..,.lit (.pointer none)| .pointer _,.dptr _,.lit (.pointer none)=>true
 | .map ..,.map _,.lit (.map none)=>true
 |_,_,_=>false
def a3w(op:BinOp)(t:Nat)(x y:Operand)(a b:V):Option V:=do
 let d<-P.underlying t
 if a2U d a b then match op with
  | .eql=>some (.lit (.bool false))
  | .neq=>some (.lit (.bool true))
  |_=>none
 else
  let u<-a0W a;let v<-a0W b
  a0t P (do eqGuard op t x y u v;Go.binOp op t u v)
def b2C(sz:Nat):List V->Bool
 |[]=>true
 |y::_=>y.cells.length==sz
def a3d(t:Nat)(v:V)(lo hi mx:Option V):Option V:=
 match v with
 | .lit (.string s)=>do
   let f (x:Option V):Option (Option Value):=match x with|none=>some none|some y=>(a0W y).map some
   a0t P (Instr.sliceAt t (.string s) (<-f lo) (<-f hi) (<-f mx))
 |v=>do
  let e<-a2G P t;let sz<-a1M P e;let n<-lenOf v;let l<-(match lo with|none=>some 0|some y=>a2u y);let u<-(match hi with|none=>some n|some y=>a2u y)
  if l>u||u>n then none else
  match mx with
  |some y=>do
   if(<-a2u y)=u/\lo.isNone/\hi.isSome then match v with
    | .nils=>some .nils
    | .sl _ a| .slf a=>some (.slf (a.take u))
    |_=>none
   else none
  |none=>match v with
   | .nils=>some .nils
   | .row id z off _=>if z≠sz then none else if l=u/\l≠0 then some (.sl none [])else some (.row id z (off+l) (u-l))
   | .sl _ a| .slf a=>if b2C sz a then some (.sl none ((a.take u).drop l))else none
   |_=>none
def a4j(g:G):V->Option (List V)
 | .lit (.string b)=>some (a2F b)
 |x=>a4Q g x
def a2Z:Nat:=100000000000
def a2P:TypeDesc->Bool
 | .slice _| .string=>true
 |_=>false
def a0M(g:G)(nx:Nat)(t u:Nat)(a x:V):Option Out:=do
 let e<-a2G P t;let i<-P.info? e;let z<-i.zero;let d<-P.underlying u;let b<-a4j g x
 if b.any (λ y=>y.cells.length≠i.size)||z.cells.size≠i.size||i.size=0||i.bytes>1000|| !a2P d then none
 match a with
 | .nils=>if b.isEmpty then pure {v:=a,cnt:=1}else if b.length>a2Z then none else pure {v:= .row nx i.size 0 b.length,upd:=[(nx,some (.row e i.size b false))],cnt:=1}
 | .slf zs=>if b.isEmpty then pure {v:=a,cnt:=1}else
   if zs.any (λ y=>y.cells.length≠i.size)||zs.length+b.length>a2Z then none else
   pure {v:= .row nx i.size 0 (zs.length+b.length),upd:=[(nx,some (.row e i.size (zs++b) false))],cnt:=1}
 | .row id z off n=>match g id with
   |some (.row ty f xs c)=>if ty≠e||z≠i.size||f≠i.size||off≠0||n>xs.length||(n<xs.length&&c)||n+b.length>a2Z then none else
     pure {v:= .row nx i.size 0 (n+b.length),upd:=[(nx,some (.row e i.size (xs.take n++b) c)),(id,none)],cnt:=1}
   |_=>none
 |_=>none
def a3b(get:Nat->V)(pl:List (Nat×Nat))(p:Nat×Operand):Option (Nat×Nat×V):=
 match pl[p.1]?,ev get p.2 with
 |some (off,n),some v=>some (off,n,v)
 |_,_=>none
def a3a(get:Nat->V)(p:Nat×Operand):Option (Nat×V):=(ev get p.2).map λ v=>(p.1,v)
def opE(call:Calls)(get:Nat->V)(g:G)(nx:Nat)(o:Oper):Option Out:=
 match o.op with
 | .move x| .assign x=>do pure {v:=<-ev get x}
 | .pick c a b=>do match<-ev get c with
   | .lit (.bool t)=>pure {v:=<-ev get (if t then a else b)}
   |_=>none
 | .alloc t=>do let z<-a4h P t;if bk z.cells&&t !=bT then none else pure {v:= .ptr nx 0,upd:=[(nx,some (.var z.cells))],cnt:=1}
 | .box t x=>do let v<-ev get x;if !v.fit||(bk v.cells&&t !=bT)then none else pure {v:= .ptr nx 0,upd:=[(nx,some (.var v.cells))],cnt:=1}
 | .build t parts=>do
   let z<-a4h P t
   match P.underlying t with
   |some (.struct fs)=>
    let pl<-a0D (fun(f:Field)=>(a1M P f.type).map λ n=>(f.offset,n)) fs.toList;let ps<-a0D (a3b get pl) parts.toList
    pure {v:= .agg (<-fill z.cells ps)}
   |_=>none
 | .buildSlice t n parts=>do
   let e<-a2G P t;let z<-a4h P e;let sz<-a1M P e
   if sz=0||n*sz>16777216||z.cells.length≠sz then none
   let vs<-a0D (a3a get) parts.toList;let xs<-a1H (List.replicate n z) sz vs
   pure {v:= .row nx sz 0 n,upd:=[(nx,some (.row e sz xs false))],cnt:=1}
 | .load t a=>do let cs<-a0E g (<-ev get a);pure {v:=<-a6x P t cs}
 | .store t a x=>do
   let p<-ev get a;let v<-ev get x
   if v.cells.length≠(<-a1M P t)|| !v.fit then none
   pure {v:= .und,upd:=<-storeAt g p v.cells}
 | .nilCheck x=>do match<-ev get x with
   | .ptr id off=>pure {v:= .ptr id off}
   | .eptr id sz i off=>pure {v:= .eptr id sz i off}
   | .dptr cs=>pure {v:= .dptr cs}
   | .fn f a b=>pure {v:= .fn f a b}
   |_=>none
 | .fieldAddr t x f=>do
   let(o,ft)<-a1K P t f
   if(<-a1M P ft)=0 then none
   pure {v:=<-a3B o (<-ev get x)}
 | .field t x f=>do
   let(o,ft)<-a1K P t f
   match<-ev get x with
   | .agg cs=>pure {v:=<-a6x P ft (cs.drop o)}
   |_=>none
 | .indexAddr t x i=>do
   let n<-a2u (<-ev get i);let e<-a2G P t;let sz<-a1M P e
   match<-ev get x with
   | .sl _ xs| .slf xs=>let v<-xs[n]?;if v.cells.length≠sz then none else pure {v:= .dptr v.cells}
   | .row id z off m=>if n<m&&z=sz then pure {v:= .eptr id sz (off+n) 0}else none
   |_=>none
 | .index t x i=>do pure {v:=<-a0t P (Instr.index t (<-a0W (<-ev get x)) (<-a0W (<-ev get i)))}
 | .slice t x lo hi mx=>do pure {v:=<-a3d P t (<-ev get x) (<-evo get lo) (<-evo get hi) (<-evo get mx)}
 | .binOp op t x y _=>do pure {v:=<-a3w P op t x y (<-ev get x) (<-ev get y)}
 | .unOp op _ x=>do pure {v:=<-a0t P (Op.unary op (<-a0W (<-ev get x)))}
 | .convert src d x=>do
   let v<-ev get x
   match P.underlying src,P.underlying d with
   |some (.slice e),some .string=>match P.underlying e with
    |some (.int .u8)=>do let l<-a4Q g v;let b<-a0D a7v l;pure {v:= .lit (.string ⟨b.toArray⟩)}
    |_=>none
   |_,_=>do pure {v:=<-a0t P (Go.convert src d (<-a0W v))}
 | .makeFunc (.func f) first cap=>do pure {v:= .fn f (<-evs get first) (<-evs get cap)}
 | .makeMap _ none=>pure {v:= .map nx,upd:=[(nx,some (.map []))],cnt:=1}
 | .insert t m k x| .mapUpdate t m k x=>do
   match P.underlying t,<-ev get m with
   |some (.map kt _),.map id=>match g id with
    |some (.map es)=>
     let key<-ev get k;let ku<-a0W key;let v<-ev get x
     if !(a0r v)then none
     match<-findKey P false kt ku es with
     |some i=>if d1S es i ku then pure {v:= .und,upd:=[(id,some (.map (es.set i (key,v))))]}else none
     |none=>pure {v:= .und,upd:=[(id,some (.map (es++[(key,v)])))]}
    |_=>none
   |_,_=>none
 | .lookup t m k ok=>do
   match P.underlying t,<-ev get m with
   |some (.map kt et),.map id=>match g id with
    |some (.map es)=>
     let r<-findKey P es.isEmpty kt (<-a0W (<-ev get k)) es;let(v,b)<-(match r with|some i=>(es[i]?).map λ p=>(p.2,true)|none=>(a4h P et).map λ z=>(z,false))
     pure {v:=if ok then .tup [v,.lit (.bool b)]else v}
    |_=>none
   |_,_=>none
 | .makeSlice t l c=>do
   let e<-a2G P t;let n<-a2u (<-ev get l);let m<-a2u (<-ev get c);let i<-P.info? e;let z<-a4h P e;let sz<-a1M P e
   if n>m||m>1000000||i.bytes>1000||sz=0||z.cells.length≠sz then none
   pure {v:= .row nx sz 0 n,upd:=[(nx,some (.row e sz (List.replicate n z) false))],cnt:=1}
 | .extract x i=>do match<-ev get x with
   | .tup vs=>pure {v:=<-vs[i]?}
   |_=>none
 | .call c=>do
   let args<-evs get c.args
   match c.callee with
   | .builtin .len=>match args with
     |[.lit v]=>do pure {v:=<-a0t P (Builtin.len_ c.argTypes o.type #[<-a1b (.lit v)])}
     |[v]=>do let _<-a2G P (<-c.argTypes[0]?);pure {v:= .lit (.int .i64 (<-lenOf v))}
     |_=>none
   | .builtin .append=>match args,c.argTypes.toList with
     |[a,x],[t,u]=>a0M P g nx t u a x
     |_,_=>none
   | .builtin .min=>do pure {v:=<-a0t P (Builtin.min_ c.argTypes o.type (<-a0D a0W args).toArray)}
   | .builtin .max=>do pure {v:=<-a0t P (Builtin.max_ c.argTypes o.type (<-a0D a0W args).toArray)}
   | .value f=>do match<-ev get f with
     | .fn k a b=>match call.inl k with
       |some _=>none
       |none=>a1q call.cbv g nx k (a++args++b)
     |_=>none
   |_=>none
 |_=>none
def a2z:V->List Nat
 | .row id _ _ _| .ptr id _| .eptr id _ _ _| .map id=>[id]
 | .agg cs| .tup cs=>c cs
 | .fn _ a b=>c a++c b
 |_=>[]
where c:List V->List Nat
 |[]=>[]
 |v::r=>a2z v++c r
def a1O:Nat->G->V->List Nat
 |0,_,_=>[]
 |d+1,g,v=>match v with
  | .agg cs| .tup cs=>cs.flatMap (a1O d g)
  | .row id _ off n=>id::(match g id with
    |some (.row _ _ xs _)=>((xs.drop off).take n).flatMap (a1O d g)
    |_=>[])
  |_=>[]
def a2D:Nat->G->V->List Nat
 |0,_,_=>[]
 |d+1,g,v=>match v with
  | .ptr id _=>id::(match g id with
    |some (.var cs)=>cs.flatMap (a1O (ED+1) g)
    |_=>[])
  | .fn _ a b=>a.flatMap (a2D d g)++b.flatMap (a2D d g)
  |v=>a1O ED g v
def d5h(g:G):V->List Nat
 | .fn _ a b=>a.flatMap (a2D 4 g)++b.flatMap (a2D 4 g)
 |_=>[]
def a5V(get:Nat->V)(x:Operand):List Nat:=match ev get x with|some v=>a2z v|none=>[]
def a3q(get:Nat->V)(o:Oper):List Nat:=
 match o.op with
 | .load _ a=>a5V get a
 | .convert _ _ x=>a5V get x
 | .lookup _ m _ _=>a5V get m
 | .call {callee:= .builtin .append,args,.. }=>match args[1]? with|some x=>a5V get x|none=>[]
 |_=>[]
def a2w(get:Nat->V)(g:G)(o:Oper):List Nat:=
 match o.op with
 | .store _ a _=>a5V get a
 | .insert _ m _ _| .mapUpdate _ m _ _=>a5V get m
 | .call {callee:= .builtin .append,args,.. }=>match args[0]? with|some x=>a5V get x|none=>[]
 | .call {callee:= .value f,args,.. }=>(match ev get f with|some v=>d5h g v|none=>[])++args.toList.flatMap λ x=>match ev get x with|some v=>a2D 4 g v|none=>[]
 |_=>[]
def a5n(ops:Array Oper)(o:Oper):List Nat:=(match o.guard with
 |some (j,_)=>((ops[j]?).bind (·.dst)).toList
 |none=>[])++o.op.operands.toList.filterMap fun| .tmp t=>some t|_=>none
def a5A(ops:Array Oper)(o:Oper)(r w:List Nat):List Nat×List Nat:=
 (r.map (2* ·)++(a5n ops o).map (2* · +1),w.map (2* ·)++o.dst.toList.map (2* · +1))
def a0V(ops:Array Oper)(o:Oper)(get:Nat->V):Bool:=
 match o.guard with
 |none=>true
 |some (j,b)=>match(ops[j]?).bind (·.dst)with
  |some d=>match get d with
   | .lit (.bool t)=>t==b
   |_=>false
  |none=>false
def a1F(call:Calls)(get:Nat->V)(o:Oper):Option (Option (List V×(List V->HP->Nat->Option (V×HP×Nat)))):=
 match o.op with
 | .call {callee:= .value f,args,.. }=>match ev get f with
   |some (.fn k a b)=>match call.inl k with
    |some fn=>(evs get args).map λ l=>some (a++l++b,fn)
    |none=>some none
   |_=>some none
 |_=>some none
def a1h(call:Calls)(o:Oper)(s:St):Option (V×St):=
 match a1F call s.get o with
 |none=>none
 |some (some (args,fn))=>(fn args s.h s.nx).map λ r=>(r.1,{s with h:=r.2.1,nx:=r.2.2})
 |some none=>(opE P call s.get (a0b s.h) s.nx o).map λ r=>(r.v,{s with h:=r.upd++s.h,nx:=s.nx+r.cnt})
def a2H(s:St)(d:Option Tmp)(v:V):St:=match d with|some d=>s.put d v|none=>s
def a0v(call:Calls)(ops:Array Oper)(o:Oper)(s:St):Option St:=
 if a0V ops o s.get then(a1h P call o s).map λ r=>a2H r.2 o.dst r.1
 else some (a2H s o.dst .und)
def a0I(call:Calls)(ops:Array Oper):List Oper->St->Option St
 |[],s=>some s
 |o::r,s=>match a0v P call ops o s with
  |none=>none
  |some s=>a0I call ops r s
def a4g(call:Calls)(ops:Array Oper):List Oper->St->Option (List (List Nat×List Nat)×St)
 |[],s=>some ([],s)
 |o::r,s=>match a0v P call ops o s with
  |none=>none
  |some a=>match a4g call ops r a with
   |none=>none
   |some (fs,e)=>
    if a0V ops o s.get then
     (match a1F call s.get o with
      |some none=>some (a5A ops o (a3q s.get o) (a2w s.get (a0b s.h) o++List.range' s.nx (a.nx-s.nx))::fs,e)
      |_=>none)
    else some (a5A ops o [] []::fs,e)
def a7k(a b:List Nat×List Nat):Bool:=
 a.2.any (λ x=>b.1.contains x||b.2.contains x)||b.2.any (λ x=>a.1.contains x)
def a8E(ops:Array Oper):Bool:=ops.toList.zipIdx.all fun(o,j)=>o.after.toList.all λ e=> !Region.binds .any e||e.on<j
def a6F(ops:Array Oper)(fs:List (List Nat×List Nat)):Bool:=
 let b:=Region.before ops
 a8E ops&&fs.zipIdx.all fun(fj,j)=>(fs.take j).zipIdx.all fun(fi,i)=>(b.getD j 0).testBit i|| !a7k fi fj
inductive Ex where
 |normal|exit (id:Nat)|ret
 deriving Inhabited
def iter(f:St->Option (Ex×St)):Nat->St->Option (Ex×St)
 |0,_=>none
 |n+1,s=>match f s with
  |some (.normal,s)=>iter f n s
  |r=>r
def a0e(call:Calls)(n:Nat):Code->St->Option (Ex×St)
 | .skip,s| .label _,s=>some (.normal,s)
 | .region _ ops false,s=>(a0I P call ops ops.toList s).map (.normal, ·)
 | .region _ ops true,s=>match a4g P call ops ops.toList s with
   |none=>none
   |some (fs,e)=>if a6F ops fs then some (.normal,e)else none
 | .seq a b,s=>match a0e call n a s with
   |some (.normal,s)=>a0e call n b s
   |r=>r
 | .cond c a b,s=>match ev s.get c with
   |some (.lit (.bool t))=>if t then a0e call n a s else a0e call n b s
   |_=>none
 | .block id b,s=>match a0e call n b s with
   |some (.exit j,s)=>some (if j=id then .normal else .exit j,s)
   |r=>r
 | .loop b,s=>iter (a0e call n b) n s
 | .scope b,s=>a0e call n b s
 | .exit id,s=>some (.exit id,s)
 | .ret,s=>some (.ret,s)
 |_,_=>none
def a0u:List V->Nat->T->T
 |[],_,t=>t
 |v::r,i,t=>a0u r (i+1) (T.put 8 t i v)
def a0w(i:Nat)(s:HP×Nat):List (List V)->HP×Nat
 |[]=>s
 |cs::r=>let(l,h,nx):=a0f s cs;a0w (i+1) ((i,some (.var (l.map (a0H i))))::h,nx) r
def a0m(fn:Func)(s:St):Option V:=do
 let vs<-a0D (fun(r:ResultVar)=>match r with
  | .tmp t=>some (s.get t)
  | .cell a t=>do a6x P t (<-a0E (a0b s.h) (s.get a))) fn.results.toList
 match vs with
 |[v]=>some v
 |vs=>some (.tup vs)
def a1j(call:Calls)(n:Nat)(k:Nat)(args:List V)(h:HP)(nx:Nat):Option (V×St):=do
 let fn<-P.funcs[k]?;let sz:=max args.length fn.ntmps
 if sz>256 then none
 let(x,s)<-a0e P call n (<-fn.body) {env:=a0u args 0 .leaf,h:=h,nx:=nx,sz:=sz}
 match x with
 | .exit _=>none
 |_=>pure (<-a0m P fn s,s)
def a0d(prim:Nat->Option Fp)(inl:Nat->Bool):Nat->Calls
 |0=>⟨λ _ _ _=>none,λ k=>if inl k then some (λ _ _ _=>none)else none⟩
 |n+1=>{
   cbv:=λ k args bs=>match prim k with
    |some f=>f args bs
    |none=>do
     let(h,nx):=a0w 0 ([],bs.length) bs;let(v,s)<-a1j P (a0d prim inl n) n k args h nx;let(v,w)<-a5t k (a0b s.h) s.nx v;let(l,ms,ks)<-a0G (a1x (a0b s.h)) w (List.range bs.length)
     if !(a1u (a0b s.h) ms ks)then none
     pure (v,l)
   inl:=λ k=>if inl k then some (λ args h nx=>(a1j P (a0d prim inl n) n k args h nx).map λ r=>(r.1,r.2.h,r.2.nx))else none}
end
def glN:Nat:=4
def GlP(f:Nat->Option Obj):Prop:=
 (∃m t fr,f 0=some (.cells #[.int .i64 m] t fr))/\
 ∃t fr,f 1=some (.cells #[.int .u8 0,.int .u8 127,.int .i64 0,.int .u8 192,.int .u8 31,.int .i64 128,.int .u8 224,.int .u8 15,.int .i64 2048,.int .u8 240,.int .u8 7,.int .i64 65536] t fr)
def GlW(w:World):Prop:=GlP λ b=>if b<glN then w.heap[b]? else none
theorem GlW.of{w a:World}(h:GlW w)(he:∀b,b<glN->a.heap[b]?=w.heap[b]?):GlW a:=by
 grind[GlW]
def GlB(base:Nat)(a:List Nat)(c:World):Prop:=GlW c/\glN<=base/\∀b∈a,glN<=b
section
open Go.RowKit
variable {b:Nat} {w:World}
theorem a6k{o:Obj}(h:w.heap[b]?=some o):b<w.heap.size:=(as3.1 h).1
abbrev Mem:=Nat->Nat->Option Value
abbrev Pl:=Nat->Option (Nat×Nat)
def Mem.le(M a:Mem):Prop:=∀b o u,M b o=some u->a b o=some u
def Pl.le(μ a:Pl):Prop:=∀i p,μ i=some p->a i=some p
theorem Mem.le_refl(M:Mem):M.le M:=λ _ _ _ h=>h
theorem Pl.le_refl(μ:Pl):μ.le μ:=λ _ _ h=>h
theorem Mem.le_trans{A B C:Mem}(h:A.le B)(k:B.le C):A.le C:=λ b o u x=>k b o u (h b o u x)
theorem Pl.le_trans{A B C:Pl}(h:A.le B)(k:B.le C):A.le C:=λ i p x=>k i p (h i p x)
inductive Rep (M:Mem):V->Value->Prop
 |lit {v:Value}:sc v=true->Rep M (.lit v) v
 |nils:Rep M .nils (.slice none 0 0)
 |sl {own:Option (Nat×Nat×Bool)} {xs:List V} {A:Addr} {sz cap:Nat} (us:Nat->Nat->Value):xs.length<=cap->A.spot=none->(∀x∈xs,x.cells.length=sz/\x.fit=true)->
   (∀(i:Nat) (x:V) (j:Nat) (c:V),xs[i]?=some x->x.cells[j]?=some c->M A.block (A.off+(i*sz+j))=some (us i j))->
   (∀(i:Nat) (x:V) (j:Nat) (c:V),xs[i]?=some x->x.cells[j]?=some c->Rep M c (us i j))->Rep M (.sl own xs) (.slice (some A) xs.length cap)
 |slf {xs:List V} {A:Addr} {sz:Nat} (us:Nat->Nat->Value):A.spot=none->(∀x∈xs,x.cells.length=sz/\x.fit=true)->
   (∀(i:Nat) (x:V) (j:Nat) (c:V),xs[i]?=some x->x.cells[j]?=some c->M A.block (A.off+(i*sz+j))=some (us i j))->
   (∀(i:Nat) (x:V) (j:Nat) (c:V),xs[i]?=some x->x.cells[j]?=some c->Rep M c (us i j))->Rep M (.slf xs) (.slice (some A) xs.length xs.length)
 |agg {cs:List V} {us:Array Value}:cs.length=us.size->(∀c∈cs,a0r c=true)->
   (∀(j:Nat) (c:V) (u:Value),cs[j]?=some c->us[j]?=some u->Rep M c u)->Rep M (.agg cs) (.agg us)
 |tup {cs:List V} {us:Array Value}:cs.length=us.size->
   (∀(j:Nat) (c:V) (u:Value),cs[j]?=some c->us[j]?=some u->Rep M c u)->Rep M (.tup cs) (.tuple us)
 |fn {f:Nat} {asq bs:List V} {us ws:Array Value}:asq.length=us.size->bs.length=ws.size->
   (∀(j:Nat) (c:V) (u:Value),asq[j]?=some c->us[j]?=some u->Rep M c u)->
   (∀(j:Nat) (c:V) (u:Value),bs[j]?=some c->ws[j]?=some u->Rep M c u)->Rep M (.fn f asq bs) (.func (.func f) us ws)
variable {M:Mem} {v:V} {u:Value}
theorem Rep.mono{d:Mem}(hM:M.le d)(h:Rep M v u):Rep d v u:=by
 induction h with
 |lit h=>exact .lit h
 |nils=>exact .nils
 |sl us h0 h1 h2 h3 _ ih=>exact .sl us h0 h1 h2 (λ i x j c hx hc=>hM _ _ _ (h3 i x j c hx hc)) ih
 |slf us h1 h2 h3 _ ih=>exact .slf us h1 h2 (λ i x j c hx hc=>hM _ _ _ (h3 i x j c hx hc)) ih
 |agg h1 h2 _ ih=>exact .agg h1 h2 ih
 |tup h1 _ ih=>exact .tup h1 ih
 |fn h1 h2 _ _ a b=>exact .fn h1 h2 a b
inductive RepV (M:Mem) (μ:Pl):V->Value->Prop
 |rep {v:V} {u:Value}:Rep M v u->RepV M μ v u
 |row {id sz off n b cap:Nat}:μ id=some (b,cap)->off+n<=cap->RepV M μ (.row id sz off n) (.slice (some ⟨b,off*sz,none⟩) n (cap-off))
 |ptr {id off b cap:Nat}:μ id=some (b,cap)->RepV M μ (.ptr id off) (.pointer (some ⟨b,off,none⟩))
 |eptr {id sz i off b cap:Nat}:μ id=some (b,cap)->RepV M μ (.eptr id sz i off) (.pointer (some ⟨b,i*sz+off,none⟩))
 |dptr {cs:List V} {A:Addr} (us:Nat->Value):A.spot=none->(∀(j:Nat) (c:V),cs[j]?=some c->M A.block (A.off+j)=some (us j))->
   (∀(j:Nat) (c:V),cs[j]?=some c->Rep M c (us j))->(∀c∈cs,a0r c=true)->RepV M μ (.dptr cs) (.pointer (some A))
 |map {id b cap:Nat}:μ id=some (b,cap)->RepV M μ (.map id) (.map (some b))
 |agg {cs:List V} {us:Array Value}:cs.length=us.size->(∀c∈cs,a0r c=true)->
   (∀(j:Nat) (c:V) (u:Value),cs[j]?=some c->us[j]?=some u->RepV M μ c u)->RepV M μ (.agg cs) (.agg us)
 |tup {cs:List V} {us:Array Value}:cs.length=us.size->
   (∀(j:Nat) (c:V) (u:Value),cs[j]?=some c->us[j]?=some u->RepV M μ c u)->RepV M μ (.tup cs) (.tuple us)
 |fn {f:Nat} {asq bs:List V} {us ws:Array Value}:asq.length=us.size->bs.length=ws.size->
   (∀(j:Nat) (c:V) (u:Value),asq[j]?=some c->us[j]?=some u->RepV M μ c u)->
   (∀(j:Nat) (c:V) (u:Value),bs[j]?=some c->ws[j]?=some u->RepV M μ c u)->RepV M μ (.fn f asq bs) (.func (.func f) us ws)
 |und:RepV M μ .und undef
theorem RepV.mono{M f:Mem}{μ b:Pl}(hM:M.le f)(a:μ.le b){v:V}{u:Value}(h:RepV M μ v u):RepV f b v u:=by
 induction h with
 |rep h=>exact .rep (h.mono hM)
 |row h g=>exact .row (a _ _ h) g
 |ptr h=>exact .ptr (a _ _ h)
 |eptr h=>exact .eptr (a _ _ h)
 |dptr us h1 h2 h3 h4=>exact .dptr us h1 (λ j c hc=>hM _ _ _ (h2 j c hc)) (λ j c hc=>(h3 j c hc).mono hM) h4
 |map h=>exact .map (a _ _ h)
 |agg h1 h2 _ ih=>exact .agg h1 h2 ih
 |tup h1 _ ih=>exact .tup h1 ih
 |fn h1 h2 _ _ d e=>exact .fn h1 h2 d e
 |und=>exact .und
theorem Rep.oneCell(h:Rep M v u)(hc:a0r v=true):u.oneCell'=true:=by
 cases h<;>first|rfl|grind[a0r]|skip
 case lit hv=>cases u<;>first|rfl|grind[sc]
theorem RepV.oneCell{M:Mem}{μ:Pl}{v:V}{u:Value}(h:RepV M μ v u)(hc:a0r v=true):u.oneCell'=true:=by
 cases h with
 |rep h=>exact h.oneCell hc
 |agg=>simp[a0r]at hc
 |tup=>simp[a0r]at hc
 |und=>simp[a0r]at hc
 |_=>rfl
def CellsRep(M:Mem)(μ:Pl)(cs:List V)(us:List Value):Prop:=
 cs.length=us.length/\(∀c∈cs,a0r c=true)/\∀(j:Nat) (c:V) (u:Value),cs[j]?=some c->us[j]?=some u->RepV M μ c u
theorem CellsRep.mono{M d:Mem}{μ a:Pl}(hM:M.le d)(b:μ.le a){cs:List V}{us:List Value}(h:CellsRep M μ cs us):CellsRep d a cs us:=
 ⟨h.1,h.2.1,λ j c u hc hu=>(h.2.2 j c u hc hu).mono hM b⟩
theorem RepV.cells{M:Mem}{μ:Pl}{v:V}{u:Value}(h:RepV M μ v u)(hf:v.fit=true):CellsRep M μ v.cells u.cells.toList:=by
 have one:∀(v:V) (u:Value),v.cells=[v]->u.cells= #[u]->v.fit=true->RepV M μ v u->CellsRep M μ v.cells u.cells.toList:=by
  intro v u hv hu hf h;refine⟨by grind,?_,?_⟩
  .grind[V.fit]
  .grind
 have h0:=h;cases h with
 |agg h1 h2 h3=>exact⟨by grind[V.cells,Value.cells],h2,λ j c u hc hu=>h3 j c u hc (by grind[Value.cells])⟩
 |rep h=>
  cases h with
  |agg h1 h2 h3=>exact⟨by grind[V.cells,Value.cells],h2,λ j c u hc hu=> .rep (h3 j c u hc (by grind[Value.cells]))⟩
  |lit hv=>refine one _ _ rfl ?_ hf h0;cases u<;>first|rfl|grind[sc]
  |_=>exact one _ _ rfl rfl hf h0
 |und=>grind[V.fit,V.cells,a0r]
 |_=>exact one _ _ rfl rfl hf h0
def BoxAt(M:Mem)(μ:Pl)(w:World)(b cap:Nat):Box->Prop
 | .var cs=>∃T a,w.heap[b]?=some (.cells a T (0,0))/\CellsRep M μ cs a.toList/\(bk cs=true->T=bT)
 | .row ty sz xs _=>∃a,w.heap[b]?=some (.cells a ty (0,0))/\0<sz/\a.size=cap*sz/\xs.length<=cap/\cap<=maxLen/\
   (∀x∈xs,x.cells.length=sz/\x.fit=true)/\
   ∀(i:Nat) (x:V) (j:Nat) (c:V),xs[i]?=some x->x.cells[j]?=some c->∃u,a[i*sz+j]?=some u/\RepV M μ c u
 | .map es=>∃ms clock,w.heap[b]?=some (.map ms clock)/\es.length=ms.size/\
   ∀(i:Nat) (k v:V) (m:MapEntry),es[i]?=some (k,v)->ms[i]?=some m->RepV M μ k m.key/\RepV M μ v m.val/\a0r v=true/\a0W k=some m.key
theorem BoxAt.mono{M n:Mem}{μ l:Pl}(hM:M.le n)(e:μ.le l){w:World}{b cap:Nat}{x:Box}(h:BoxAt M μ w b cap x):BoxAt n l w b cap x:=by
 cases x with
 |var cs=>obtain⟨T,g,h1,h2,h3⟩:=h;exact⟨T,g,h1,h2.mono hM e,h3⟩
 |row ty sz xs f=>obtain⟨g,h1,h2,h3,h4,h5,h6,h7⟩:=h;refine⟨g,h1,h2,h3,h4,h5,h6,λ i x j c hx hc=> ?_⟩;obtain⟨u,hu,hr⟩:=h7 i x j c hx hc;exact⟨u,hu,hr.mono hM e⟩
 |map es=>obtain⟨ms,cl,h1,h2,h3⟩:=h;exact⟨ms,cl,h1,h2,λ i k v m he hm=>let⟨a,b,c,d⟩:=h3 i k v m he hm;⟨a.mono hM e,b.mono hM e,c,d⟩⟩
variable {x:Box} {cap:Nat} {μ:Pl}
theorem BoxAt.block{c:World}(h:BoxAt M μ w b cap x)(hb:c.heap[b]?=w.heap[b]?):BoxAt M μ c b cap x:=by
 cases x with
 |var cs=>obtain⟨T,a,h1,h2⟩:=h;exact⟨T,a,hb.trans h1,h2⟩
 |row ty sz xs f=>obtain⟨a,h1,h2⟩:=h;exact⟨a,hb.trans h1,h2⟩
 |map es=>obtain⟨ms,cl,h1,h2⟩:=h;exact⟨ms,cl,hb.trans h1,h2⟩
theorem BoxAt.lt(h:BoxAt M μ w b cap x):b<w.heap.size:=by
 have:∃o,w.heap[b]?=some o:=by
  cases x with
  |var cs=>obtain⟨T,a,h1,_⟩:=h;exact⟨_,h1⟩
  |row ty sz xs f=>obtain⟨a,h1,_⟩:=h;exact⟨_,h1⟩
  |map es=>obtain⟨ms,cl,h1,_⟩:=h;exact⟨_,h1⟩
 grind
def Box.held:Box->Nat
 | .row _ sz xs true=>xs.length*sz
 |_=>0
structure Inv (base:Nat) (pts:List Nat) (w0:World) (M:Mem) (μ:Pl) (g:G) (w:World):Prop where
 mem:∀b o u,M b o=some u->w.cell? ⟨b,o,none⟩=some u
 box:∀id x,g id=some x->∃b cap,μ id=some (b,cap)/\BoxAt M μ w b cap x/\(base<=b\/b∈pts)
 inj:∀i j b c c',(∃x,g i=some x)->(∃x,g j=some x)->μ i=some (b,c)->μ j=some (b,c')->i=j
 sep:∀id x b cap o u,g id=some x->μ id=some (b,cap)->M b o=some u->o<x.held
 os:w.os=w0.os
 tape:w.tape=w0.tape
 output:w.output=w0.output
 size:base<=w.heap.size
 frame:∀b,b<base->b∉pts->w.heap[b]?=w0.heap[b]?
 gl:GlB base pts w0
def upd(us:HP)(g:G):G:=λ id=>match us.find? (λ p=>p.1==id)with|some p=>p.2|none=>g id
end
section
open Go.RowKit
section
variable {base:Nat} {r:List Nat} {t w v:World} {M:Mem} {μ s:Pl} {g g':G} {row:Option Nat}
variable {b:Nat}
theorem b7U{o:Nat}{u:Value}(h:w.cell? ⟨b,o,none⟩=some u):b<w.heap.size:=World.block_lt_of_cell? w ⟨b,o,none⟩ h
variable {x:Box} {cap id:Nat}
theorem Inv.at_(hI:Inv base r t M μ g w)(hg:g id=some x)(c:μ id=some (b,cap)):BoxAt M μ w b cap x/\(base<=b\/b∈r):=by
 obtain⟨b',a,h1,h2,h3⟩:=hI.box id x hg;grind
theorem Inv.pl(hI:Inv base r t M μ g w)(hg:g id=some x):∃b cap,μ id=some (b,cap):=by
 obtain⟨b,cap,h,_⟩:=hI.box id x hg;exact⟨b,cap,h⟩
theorem Inv.glw(hI:Inv base r t M μ g w):GlW w:=
 hI.gl.1.of λ b hb=>hI.frame b (aw9 hb hI.gl.2.1) λ h=>aq9.2 (hI.gl.2.2 b h) hb
theorem Inv.glb(hI:Inv base r t M μ g w){a:List Nat}(hp:∀b∈a,∃id cap x,g id=some x/\μ id=some (b,cap)):GlB w.heap.size a w:=by
 refine⟨hI.glw,av9 hI.gl.2.1 hI.size,λ b hb=> ?_⟩;obtain⟨id,cap,x,h1,h2⟩:=hp b hb;rcases(hI.at_ h1 h2).2 with h|h
 .exact av9 hI.gl.2.1 h
 .exact hI.gl.2.2 b h
theorem Inv.grow(hI:Inv base r t M μ g w)(a:w.grownBy v row)(k:μ.le s)
  (l:∀b,row=some b->(base<=b\/b∈r)/\∀o u,M b o=some u->v.cell? ⟨b,o,none⟩=some u)
  (d:∀id x,g' id=some x->(g id=some x/\∀b c,μ id=some (b,c)->some b≠row)\/
   ∃b cap,s id=some (b,cap)/\BoxAt M s v b cap x/\(base<=b\/b∈r)/\(∀o u,M b o=some u->o<x.held)/\∀j c y,j≠id->g' j=some y->s j≠some (b,c)):
  Inv base r t M s g' v:=by
 have old:∀{id x b c},g id=some x->s id=some (b,c)->μ id=some (b,c):=by
  intro id x b c hg hm;obtain⟨b',q,h⟩:=hI.pl hg;rw[k _ _ h]at hm;rw[h,hm]
 refine⟨?_,?_,?_,?_,a.os.trans hI.os,a.tape.trans hI.tape,a.output.trans hI.output,av9 hI.size a.size,?_,hI.gl⟩
 .intro b o u hm;by_cases hr:some b=row
  .grind
  .exact a.cell (hI.mem b o u hm) hr
 .intro id x hx;rcases d id x hx with⟨hg,f⟩|⟨b,cap,h1,h2,h3,_⟩
  .obtain⟨b,cap,h1,h2,h3⟩:=hI.box id x hg;exact⟨b,cap,k _ _ h1,(h2.block (a.block b h2.lt (f b cap h1))).mono (Mem.le_refl M) k,h3⟩
  grind
 .rintro i j b c q ⟨x,hx⟩ ⟨y,hy⟩ hi hj;rcases Decidable.em (i=j)with e|f
  .exact e
  rcases d i x hx with⟨m,_⟩|⟨b1,c1,h1,_,_,_,h5⟩
  .rcases d j y hy with⟨n,_⟩|⟨b2,c2,k1,_,_,_,k5⟩
   .exact hI.inj i j b c q ⟨x,m⟩ ⟨y,n⟩ (old m hi) (old n hj)
   grind
  grind
 .intro id x b cap o u hx hm hM;rcases d id x hx with⟨hg,_⟩|⟨b1,c1,h1,_,_,h4,_⟩
  .exact hI.sep id x b cap o u hg (old hg hm) hM
  grind
 .intro b hb hp;have p:b<w.heap.size:=aw9 hb hI.size;have f:some b≠row:=by
   intro e;rcases(l b e.symm).1 with h|h
   .grind
   .exact hp h
  exact(a.block b p f).trans (hI.frame b hb hp)
def Pl.set(μ:Pl)(i:Nat)(p:Nat×Nat):Pl:=λ j=>if j=i then some p else μ j
variable {i:Nat} {p:Nat×Nat}
theorem a1I(h:μ i=none):μ.le (μ.set i p):=by
 intro j q hq;grind[Pl.set]
theorem a1Y:μ.set i p i=some p:=by simp[Pl.set]
theorem a4Y(w:World)(o:Obj)(row:Option Nat):w.grownBy (w.alloc o) row:=
 ⟨rfl,rfl,rfl,by simp,λ k hk _=>Below.heap_alloc w o k hk⟩
theorem a7H(w:World)(o:Obj):(w.alloc o).heap[w.heap.size]?=some o:=heap_alloc_new w o
theorem Inv.new(hI:Inv base r t M μ g w){nx:Nat}{o:Obj}(hm:μ nx=none)
  (hx:BoxAt M (μ.set nx (w.heap.size,cap)) (w.alloc o) w.heap.size cap x):
  Inv base r t M (μ.set nx (w.heap.size,cap)) (upd [(nx,some x)] g) (w.alloc o):=by
 refine hI.grow (a4Y w o none) (a1I hm) (λ b hb=>by cases hb) ?_;intro id y hy;by_cases e:nx=id
 .subst e;have:y=x:=by simpa[upd]using hy.symm
  subst this;refine .inr ⟨w.heap.size,cap,a1Y,hx,.inl hI.size,?_,?_⟩
  .intro f u hM;exact absurd (b7U (hI.mem _ _ _ hM)) (Nat.lt_irrefl _)
  .intro j c z hj hz hc;have d:g j=some z:=by simpa[upd,as7 hj,hj]using hz
   obtain⟨b,a,h1,h2,_⟩:=hI.box j z d;have:μ.set nx (w.heap.size,cap) j=some (b,a):=a1I hm _ _ h1;rw[this]at hc;injection hc with hc;injection hc with hc _
   have:=h2.lt;omega
 grind[upd]
theorem Inv.drawn(hI:Inv base r t M μ g w)(n:Nat):Inv base r t M μ g {w with drawn:=n}:=
 ⟨hI.mem,λ id x hx=>by
   obtain⟨b,cap,h1,h2,h3⟩:=hI.box id x hx;exact⟨b,cap,h1,h2.block rfl,h3⟩,hI.inj,hI.sep,hI.os,hI.tape,hI.output,hI.size,hI.frame,hI.gl⟩
end
end
section
open Go.RowKit
theorem a2p{A B:Type}{f:A->Option B}:∀{l:List A} {r:List B},a0D f l=some r->r.length=l.length/\∀(j:Nat) (a:A) (b:B),l[j]?=some a->r[j]?=some b->f a=some b
 |[],r,h=>by simp[a0D]at h;grind
 |x::l,r,h=>by
  simp only[a0D]at h;cases hx:f x with
  |none=>grind
  |some y=>
   cases hl:a0D f l with
   |none=>grind
   |some c=>simp[hx,hl]at h;subst h;obtain⟨h1,h2⟩:=a2p hl;grind
theorem a1T{P:Program}{c:Type}:∀{s:Sem c} {a:c},a0c P s=some a->∀w,s.run P w= .ok a w
 | .pure b,a,h,w=>by simp_all[a0c]
 | .program k,a,h,w=>by
   simp only[a0c]at h;have:=a1T h w;grind[Sem.run]
 | .mark m k,a,h,w=>by
   simp only[a0c]at h;have:=a1T h w;grind[Sem.run]
 | .load ..,_,h,_=>by simp[a0c]at h
 | .store ..,_,h,_=>by simp[a0c]at h
 | .new ..,_,h,_=>by simp[a0c]at h
 | .shape ..,_,h,_=>by simp[a0c]at h
 | .freeze ..,_,h,_=>by simp[a0c]at h
 | .frozen ..,_,h,_=>by simp[a0c]at h
 | .getObj ..,_,h,_=>by simp[a0c]at h
 | .setObj ..,_,h,_=>by simp[a0c]at h
 | .choose ..,_,h,_=>by simp[a0c]at h
 | .sys ..,_,h,_=>by simp[a0c]at h
 | .halt ..,_,h,_=>by simp[a0c]at h
variable {M:Mem} {v:V} {u:Value}
theorem a4L(h:a0Z u=some v):Rep M v u/\a0r v=true:=by
 unfold a0Z at h;split at h
 .split at h
  .next e=>obtain⟨rfl,rfl⟩:=e;cases h;exact⟨.nils,rfl⟩
  .cases h
 .split at h
  .next hs=>cases h;exact⟨.lit hs,rfl⟩
  .cases h
theorem a3V(h:a1w u=some v):Rep M v u:=by
 unfold a1w at h;split at h
 .next cs=>
  cases hm:a0D a0Z cs.toList with
  |none=>grind
  |some l=>
   simp[hm]at h;subst h;obtain⟨h1,h2⟩:=a2p hm;refine .agg (by grind) ?_ ?_
   .intro c hc;obtain⟨j,hj⟩:=List.getElem?_of_mem hc;have d:j<cs.toList.length:=by rw[<-h1];exact(ay0.1 hj).1
    exact(a4L (M:=M) (h2 j _ c (az5 d) hj)).2
   grind[a4L]
 .next f a b=>
  split at h
  .next e=>
   injection h with h
   subst h;exact .fn (by grind) (by grind) (λ j c u hc=>by simp at hc) (λ j c u hc=>by simp at hc)
  .cases h
 grind[a4L]
theorem a5y(h:a1w u=some v):v.fit=true:=by
 unfold a1w at h;split at h
 .next cs=>
  cases hm:a0D a0Z cs.toList with
  |none=>grind
  |some l=>
   simp[hm]at h;subst h;obtain⟨h1,h2⟩:=a2p hm;simp only[V.fit,V.cells,ay5];intro c hc;obtain⟨j,hj⟩:=List.getElem?_of_mem hc;have b:j<cs.toList.length:=by rw[<-h1];exact(ay0.1 hj).1
   exact(a4L (M:=λ _ _=>none) (h2 j _ c (az5 b) hj)).2
 .split at h
  .cases h;rfl
  .cases h
 .have:=(a4L (M:=λ _ _=>none) h).2;unfold a0Z at h;split at h
  .split at h
   .cases h;rfl
   .cases h
  .split at h
   .cases h;rfl
   .cases h
theorem a7n{P:Program}{s:Sem Value}(h:a0t P s=some v):∃u,(∀w,s.run P w= .ok u w)/\Rep M v u:=by
 unfold a0t at h;cases hs:a0c P s with
 |none=>grind
 |some u=>simp_all[a1T,a3V]
variable {μ:Pl} {b:Value}
theorem a8N(h:a1b v=some u)(hr:RepV M μ v b):b=u:=by
 unfold a1b at h;split at h
 .cases h
 .cases h;cases hr with|rep hr=>cases hr;rfl
 .cases h;cases hr with|rep hr=>cases hr;rfl
 .cases h
theorem a1X(h:a0W v=some u)(hr:RepV M μ v b):b=u:=by
 unfold a0W at h;split at h
 .next cs=>
  cases hm:a0D a1b cs with
  |none=>grind
  |some l=>
   simp[hm]at h;subst h;obtain⟨h1,h2⟩:=a2p hm;have key:∀us:Array Value,cs.length=us.size->(∀(j:Nat) (c:V) (u:Value),cs[j]?=some c->us[j]?=some u->RepV M μ c u)->us=l.toArray:=by
    intro us hl hc;apply Array.ext_getElem?;intro j;by_cases hj:j<us.size
    .grind[a8N]
    .grind
   cases hr with
   |agg a1 a2 a3=>grind
   |rep hr=>cases hr with|agg a1 a2 a3=>rw[key _ a1 (λ j c u x y=> .rep (a3 j c u x y))]
 grind[a8N]
section
variable {P:Program} {base:Nat} {n:List Nat} {p w:World} {M:Mem} {μ:Pl} {g:G} {get:Nat->V} {a:Act} {nx:Nat}
def Slots(M:Mem)(μ:Pl)(get:Nat->V)(a:Act):Prop:=∀t,RepV M μ (get t) (a.tmps.getD t undef)
theorem a0A(hS:Slots M μ get a){x:Operand}{v:V}(h:ev get x=some v):RepV M μ v (a.eval x):=by
 cases x with
 |tmp t=>simp[ev]at h;subst h;exact hS t
 |const u=>exact .rep (a3V h)
 |global _=>simp[ev]at h
 |func f=>simp[ev]at h;subst h;exact .rep (.fn rfl rfl (λ j c u hc=>by simp at hc) (λ j c u hc=>by simp at hc))
def OpOk(P:Program)(base:Nat)(n:List Nat)(p:World)(M:Mem)(μ:Pl)(g:G)(w:World)(a:Act)(nx:Nat)(o:Oper)(r:Out):Prop:=
 ∃u c d b,d=M/\μ.le b/\((execOp a.eval o).run P w= .ok (.value u) c\/((execOp a.eval o).run P w= .ok .skip c/\u=undef))/\
  RepV d b r.v u/\Inv base n p d b (upd r.upd g) c/\∀i,μ i=none->(i<nx\/nx+r.cnt<=i)->b i=none
theorem OpOk.same(hI:Inv base n p M μ g w){o:Oper}{v:V}{u:Value}(hr:(execOp a.eval o).run P w= .ok (.value u) w)(hv:RepV M μ v u):
  OpOk P base n p M μ g w a nx o {v:=v}:=
 ⟨u,w,M,μ,rfl,Pl.le_refl _,.inl hr,hv,hI,λ _ h _=>h⟩
end
end
section
open Go.RowKit
section
variable {P:Program} {base:Nat} {l:List Nat} {m w:World} {M:Mem} {μ:Pl} {g:G} {get:Nat->V} {a:Act} {nx:Nat} {call:Calls} {o:Oper} {r:Out}
variable {x:Operand}
theorem b3S(ho:o.op= .move x\/o.op= .assign x)(hI:Inv base l m M μ g w)(hS:Slots M μ get a)(h:opE P call get g nx o=some r):OpOk P base l m M μ g w a nx o r:=by
 rcases ho with ho|ho<;>
 .simp[opE,ho]at h;cases hx:ev get x with
  |none=>grind
  |some v=>simp[hx]at h;subst h;exact OpOk.same hI (by simp[execOp,ho]) (a0A hS hx)
variable {u:Value}
theorem a1z{v:Value}(h:RepV M μ (.lit v) u):u=v:=by
 cases h with|rep h=>cases h;rfl
variable {y:Operand}
theorem c1W{c:Operand}(ho:o.op= .pick c x y)(hI:Inv base l m M μ g w)(hS:Slots M μ get a)(h:opE P call get g nx o=some r):OpOk P base l m M μ g w a nx o r:=by
 simp[opE,ho]at h;cases hc:ev get c with
 |none=>grind
 |some cv=>
  have b:=a0A hS hc;simp[hc]at h;split at h
  .next t=>
   have hb:=a1z b;cases hx:ev get (if t=true then x else y)with
   |none=>grind
   |some v=>simp[hx]at h;subst h;refine OpOk.same hI (u:=a.eval (if t=true then x else y)) ?_ (a0A hS hx);simp[execOp,ho,hb,asBool];grind
  .cases h
theorem a7b{s:Sem Value}{v:V}(hI:Inv base l m M μ g w)(he:(execOp a.eval o).run P w=(s.run P w).andThen λ u b=> .ok (.value u) b)(h:a0t P s=some v):
  OpOk P base l m M μ g w a nx o {v:=v}:=by
 obtain⟨u,hu,hr⟩:=a7n (M:=M) h;exact OpOk.same hI (by simp_all) (.rep hr)
variable {t:Nat}
theorem d3K{op:UnOp}(ho:o.op= .unOp op t x)(hI:Inv base l m M μ g w)(hS:Slots M μ get a)(h:opE P call get g nx o=some r):OpOk P base l m M μ g w a nx o r:=by
 simp[opE,ho,az3]at h;obtain⟨b,hx,u,hu,v,hp,rfl⟩:=h;have:=a1X hu (a0A hS hx);exact a7b hI (by simp_all[execOp]) hp
theorem b9x{i:Operand}(ho:o.op= .index t x i)(hI:Inv base l m M μ g w)(hS:Slots M μ get a)(h:opE P call get g nx o=some r):OpOk P base l m M μ g w a nx o r:=by
 simp[opE,ho,az3]at h;obtain⟨c,hx,u,hu,d,hy,e,b,v,hp,rfl⟩:=h;have e1:=a1X hu (a0A hS hx);have e2:=a1X b (a0A hS hy);exact a7b hI (by simp_all[execOp]) hp
theorem a6A{b c d:Type}(r:Result b)(f:b->World->Result c)(k:c->World->Result d):(r.andThen f).andThen k=r.andThen λ a w=>(f a w).andThen k:=by
 cases r<;>rfl
variable {xs:List V}
theorem d2r{own:Option (Nat×Nat×Bool)}(h:RepV M μ (.sl own xs) u):∃A n c,u= .slice (some A) n c:=by
 cases h with|rep h=>cases h;grind
theorem c8k(h:RepV M μ (.slf xs) u):∃A n c,u= .slice (some A) n c:=by
 cases h with|rep h=>cases h;grind
variable {id off sz:Nat}
theorem c8D{n:Nat}(h:RepV M μ (.row id sz off n) u):∃A n c,u= .slice (some A) n c:=by
 cases h with
 |rep h=>cases h
 |row=>grind
variable {f:Nat}
theorem c3F{asq bs:List V}(h:RepV M μ (.fn f asq bs) u):∃x y,u= .func (.func f) x y:=by
 cases h with
 |rep h=>cases h;exact⟨_,_,rfl⟩
 |fn=>grind
theorem b9l(h:RepV M μ (.ptr id off) u):∃A,u= .pointer (some A):=by
 cases h with
 |rep h=>cases h
 |ptr=>grind
variable {i:Nat}
theorem b4J(h:RepV M μ (.eptr id sz i off) u):∃A,u= .pointer (some A):=by
 cases h with
 |rep h=>cases h
 |eptr=>grind
theorem b5V{cs:List V}(h:RepV M μ (.dptr cs) u):∃A,u= .pointer (some A):=by
 cases h with
 |rep h=>cases h
 |dptr=>grind
theorem c8n(h:RepV M μ (.map id) u):∃b,u= .map (some b):=by
 cases h with
 |rep h=>cases h
 |map=>grind
theorem a2T(h:RepV M μ .nils u):u= .slice none 0 0:=by
 cases h with|rep h=>cases h;rfl
def a9w(d:TypeDesc)(u h:Value):Prop:=
 (∃e A n c,d= .slice e/\u= .slice (some A) n c/\h= .slice none 0 0)\/(∃p r v f x y,d= .func p r v/\u= .func (.func f) x y/\h= .nilFunc)\/
 (∃e A,d= .pointer e/\u= .pointer (some A)/\h= .pointer none)\/(∃k e b,d= .map k e/\u= .map (some b)/\h= .map none)
variable {d:TypeDesc}
theorem b4A{e f:V}{i:Value}(h:a2U d e f=true)(ha:RepV M μ e u)(hb:RepV M μ f i):a9w d u i:=by
 unfold a2U at h;split at h
 .obtain⟨A,n,c,rfl⟩:=d2r ha;exact .inl ⟨_,A,n,c,rfl,rfl,a2T hb⟩
 .obtain⟨A,n,c,rfl⟩:=c8k ha;exact .inl ⟨_,A,n,c,rfl,rfl,a2T hb⟩
 .obtain⟨A,n,c,rfl⟩:=c8D ha;exact .inl ⟨_,A,n,c,rfl,rfl,a2T hb⟩
 .obtain⟨x,y,rfl⟩:=c3F ha;exact .inr (.inl ⟨_,_,_,_,x,y,rfl,rfl,a1z hb⟩)
 .obtain⟨A,rfl⟩:=b9l ha;exact .inr (.inr (.inl ⟨_,A,rfl,rfl,a1z hb⟩))
 .obtain⟨A,rfl⟩:=b4J ha;exact .inr (.inr (.inl ⟨_,A,rfl,rfl,a1z hb⟩))
 .obtain⟨A,rfl⟩:=b5V ha;exact .inr (.inr (.inl ⟨_,A,rfl,rfl,a1z hb⟩))
 .obtain⟨b,rfl⟩:=c8n ha;exact .inr (.inr (.inr ⟨_,_,b,rfl,rfl,a1z hb⟩))
 .cases h
variable {b:Value}
theorem b7e(n:Nat)(hd:P.underlying t=some d)(h:a9w d u b)(w:World):(Op.equalIn (n+1) t u b).run P w= .ok false w:=by
 rcases h with⟨_,_,_,_,rfl,rfl,rfl⟩|⟨_,_,_,_,_,_,rfl,rfl,rfl⟩|⟨_,_,rfl,rfl,rfl⟩|⟨_,_,_,rfl,rfl,rfl⟩<;>simp[Op.equalIn,run_underlying hd]
variable {op:BinOp}
theorem b6Z(h:a9w d u b)(w:World):(eqGuard op t x y u b).run P w= .ok () w:=by
 rcases h with⟨_,_,_,_,rfl,rfl,rfl⟩|⟨_,_,_,_,_,_,rfl,rfl,rfl⟩|⟨_,_,rfl,rfl,rfl⟩|⟨_,_,_,rfl,rfl,rfl⟩<;>simp_all[eqGuard]
theorem b4u(c:op= .eql\/op= .neq)(h:a9w d u b):
  Go.binOp op t u b=(if op= .eql then(do pure (.bool (<-Op.equal t u b)):Sem Value)else(do pure (.bool (!(<-Op.equal t u b))))):=by
 rcases h with⟨_,_,_,_,rfl,rfl,rfl⟩|⟨_,_,_,_,_,_,rfl,rfl,rfl⟩|⟨_,_,rfl,rfl,rfl⟩|⟨_,_,_,rfl,rfl,rfl⟩<;>(rcases c with rfl|rfl<;>simp[Go.binOp])
theorem c9G{f:Nat}(ho:o.op= .binOp op t x y f)(hI:Inv base l m M μ g w)(hS:Slots M μ get a)(h:opE P call get g nx o=some r):OpOk P base l m M μ g w a nx o r:=by
 simp[opE,ho,az3]at h;obtain⟨i,hx,j,hy,v,hv,rfl⟩:=h;have c:=a0A hS hx;have e:=a0A hS hy;unfold a3w at hv;simp[az3]at hv;obtain⟨d,hd,hv⟩:=hv;split at hv
 .next hn=>
  have hf:=b4A hn c e;have e1:=b6Z (P:=P) (op:=op) (t:=t) (x:=x) (y:=y) hf w;have e3:(Op.equal t (a.eval x) (a.eval y)).run P w= .ok false w:=b7e 9999 hd hf w;split at hv
  .cases hv;have e2:=b4u (t:=t) (.inl rfl) hf;exact OpOk.same hI (u:= .bool false) (by simp_all[execOp]) (.rep (.lit rfl))
  .cases hv;have e2:=b4u (t:=t) (.inr rfl) hf;exact OpOk.same hI (u:= .bool true) (by simp_all[execOp]) (.rep (.lit rfl))
  .cases hv
 .simp[az3]at hv;obtain⟨u,hu,k,b,hp⟩:=hv;have e1:=a1X hu c;have e2:=a1X b e;exact a7b hI (by simp_all[execOp,a6A]) hp
theorem b2b(ho:o.op= .extract x i)(hI:Inv base l m M μ g w)(hS:Slots M μ get a)(h:opE P call get g nx o=some r):OpOk P base l m M μ g w a nx o r:=by
 simp[opE,ho,az3]at h;obtain⟨e,hx,h⟩:=h;have d:=a0A hS hx;split at h
 .next vs=>
  simp[az3]at h;obtain⟨v,hv,rfl⟩:=h;have key:∃us:Array Value,a.eval x= .tuple us/\vs.length=us.size/\∀(j:Nat) (c:V) (u:Value),vs[j]?=some c->us[j]?=some u->RepV M μ c u:=by
   generalize a.eval x=U at d;cases d with
   |tup h1 h2=>grind
   |rep h=>cases h with|tup h1 h2=>exact⟨_,rfl,h1,λ j c u x y=> .rep (h2 j c u x y)⟩
  obtain⟨us,hu,hl,hc⟩:=key;have b:i<us.size:=by rw[<-hl];exact(ay0.1 hv).1
  exact OpOk.same hI (u:=us[i]) (by simp_all[execOp,Instr.extract]) (hc i v _ hv (aw0 b))
 .cases h
theorem b0n(hS:Slots M μ get a){xs:Array Operand}{vs:List V}(h:evs get xs=some vs):
  vs.length=(xs.map a.eval).size/\∀(j:Nat) (c:V) (u:Value),vs[j]?=some c->(xs.map a.eval)[j]?=some u->RepV M μ c u:=by
 obtain⟨h1,h2⟩:=a2p h;refine⟨by grind,λ j c u hc hu=> ?_⟩;grind[a0A]
theorem b0u{first cap:Array Operand}(ho:o.op= .makeFunc (.func f) first cap)(hI:Inv base l m M μ g w)(hS:Slots M μ get a)(h:opE P call get g nx o=some r):OpOk P base l m M μ g w a nx o r:=by
 simp[opE,ho,az3]at h;obtain⟨asq,ha,bs,hb,rfl⟩:=h;obtain⟨a1,a2⟩:=b0n hS ha;obtain⟨b1,b2⟩:=b0n hS hb;exact OpOk.same hI (by simp[execOp,ho,Instr.makeFunc]) (.fn a1 b1 a2 b2)
end
end
section
open Go.RowKit
section
variable {P:Program} {base:Nat} {s:List Nat} {B w:World} {M:Mem} {μ:Pl} {g:G} {get:Nat->V} {a:Act} {nx:Nat} {call:Calls} {o:Oper} {r:Out}
variable {x:Operand}
theorem a9R(ho:o.op= .nilCheck x)(hI:Inv base s B M μ g w)(hS:Slots M μ get a)(h:opE P call get g nx o=some r):OpOk P base s B M μ g w a nx o r:=by
 simp[opE,ho,az3]at h;obtain⟨c,hx,h⟩:=h;have b:=a0A hS hx;split at h
 .cases h;obtain⟨A,hA⟩:=b9l b;simp_all[OpOk.same,execOp]
 .cases h;obtain⟨A,hA⟩:=b4J b;simp_all[OpOk.same,execOp]
 .cases h;obtain⟨A,hA⟩:=b5V b;simp_all[OpOk.same,execOp]
 .cases h;obtain⟨p,q,hA⟩:=c3F b;simp_all[OpOk.same,execOp]
 .cases h
variable {n:Nat}
theorem a2n{t:Nat}(h:a1M P t=some n)(w:World):(sizeOf t).run P w= .ok n w:=by
 unfold a1M at h;cases hi:P.info? t with
 |none=>grind
 |some i=>simp_all[sizeOf,typeInfo]
theorem a6z{t:Nat}{b:Bool}(h:b4T P t=some b)(w:World):(isAgg t).run P w= .ok b w:=by
 unfold b4T at h;cases hi:P.underlying t with
 |none=>grind
 |some d=>simp[hi]at h;cases d<;>simp_all[isAgg,underlying]
theorem CellsRep.drop{cs:List V}{us:List Value}(h:CellsRep M μ cs us)(n:Nat):CellsRep M μ (cs.drop n) (us.drop n):=
 ⟨by simp[h.1],λ c hc=>h.2.1 c (at9 hc),λ j c u hc hu=>h.2.2 (n+j) c u (by grind) (by grind)⟩
theorem CellsRep.take{cs:List V}{us:List Value}(h:CellsRep M μ cs us)(n:Nat):CellsRep M μ (cs.take n) (us.take n):=by
 refine⟨by simp[h.1],λ c hc=>h.2.1 c (au4 hc),λ j c u hc hu=> ?_⟩;rw[av1]at hc hu;split at hc
 .next hj=>rw[ax3 hj]at hu;exact h.2.2 j c u hc hu
 .cases hc
theorem CellsRep.agg{cs:List V}{us:List Value}(h:CellsRep M μ cs us):RepV M μ (.agg cs) (.agg us.toArray):=
 .agg (by simpa using h.1) h.2.1 λ j c u hc hu=>h.2.2 j c u hc (by grind)
variable {cs:List V} {t:Nat} {v:V}
theorem a8t{us:List Value}(h:a6x P t cs=some v)(hc:CellsRep M μ cs us):
  (∃n,a1M P t=some n/\b4T P t=some true/\n<=us.length/\RepV M μ v (.agg (us.take n).toArray))\/
  (b4T P t=some false/\∃u,us[0]?=some u/\RepV M μ v u):=by
 unfold a6x at h;cases hn:a1M P t with
 |none=>grind
 |some n=>
  cases hb:b4T P t with
  |none=>grind
  |some b=>
   cases b with
   |true=>simp[hn,hb]at h;obtain⟨c,rfl⟩:=h;exact .inl ⟨n,rfl,rfl,by rw[<-hc.1];omega,(hc.take n).agg⟩
   |false=>
    simp[hn,hb]at h;rw[List.head?_eq_getElem?]at h;have c:0<us.length:=by rw[<-hc.1];exact(ay0.1 h).1
    exact .inr ⟨rfl,us[0],az5 c,hc.2.2 0 v _ h (az5 c)⟩
theorem c0V{us:Array Value}(h:a6x P t (cs.drop n)=some v)(hc:CellsRep M μ cs us.toList)(w:World):
  ∃u,(part t us n).run P w= .ok u w/\RepV M μ v u:=by
 rcases a8t h (hc.drop n)with⟨k,h1,h2,h3,h4⟩|⟨h2,u,h3,h4⟩
 .refine⟨_,?_,h4⟩;simp only[part,Sem.run_bind,a6z h2,Result.andThen_ok,aw4,a2n h1,Sem.run_pure]
  congr 2
  grind
 simp_all[part,a6z]
variable {u:Value}
theorem b3l(h:RepV M μ (.agg cs) u):∃us:Array Value,u= .agg us/\CellsRep M μ cs us.toList:=by
 cases h with
 |agg h1 h2 h3=>exact⟨_,rfl,by grind,h2,λ j c u hc hu=>h3 j c u hc (by grind)⟩
 |rep h=>cases h with|agg h1 h2 h3=>exact⟨_,rfl,by grind,h2,λ j c u hc hu=> .rep (h3 j c u hc (by grind))⟩
variable {i:Nat}
theorem a8O{off ft:Nat}(h:a1K P t i=some (off,ft)):∃fs f,P.underlying t=some (.struct fs)/\fs[i]?=some f/\f.offset=off/\f.type=ft:=by
 grind[a1K]
theorem b9A(ho:o.op= .field t x i)(hI:Inv base s B M μ g w)(hS:Slots M μ get a)(h:opE P call get g nx o=some r):OpOk P base s B M μ g w a nx o r:=by
 simp[opE,ho,az3]at h;obtain⟨off,ft,hf,e,hx,h⟩:=h;obtain⟨fs,f,hu,b,rfl,rfl⟩:=a8O hf;have c:=a0A hS hx;split at h
 .next cs=>
  simp[az3]at h;obtain⟨v,hv,rfl⟩:=h;obtain⟨us,d,hc⟩:=b3l c;obtain⟨u,h1,h2⟩:=c0V hv hc w;simp_all[OpOk.same,execOp,Instr.field,run_underlying,asAgg]
 .cases h
theorem a2X(b o j:Nat):(⟨b,o,none⟩:Addr).add j=⟨b,o+j,none⟩:=by
 grind[Addr.add]
theorem a3z{b:Nat}{c:Array Value}{T:Nat}{fz:Nat×Nat}{j:Nat}(h:w.heap[b]?=some (.cells c T fz)):w.cell? ⟨b,j,none⟩=c[j]?:=by
 simp[World.cell?,h]
theorem a7B(hI:Inv base s B M μ g w){p:V}(hp:RepV M μ p u)(h:a0E g p=some cs):
  ∃A us,u= .pointer (some A)/\CellsRep M μ cs us/\∀j x,us[j]?=some x->w.cell? (A.add j)=some x:=by
 unfold a0E at h;split at h
 .next id off=>
  split at h
  .next b hg=>
   injection h with h;subst h
   cases hp with
   |rep hp=>cases hp
   |ptr hm=>obtain⟨⟨T,d,h1,h2,_⟩,_⟩:=hI.at_ hg hm;refine⟨_,_,rfl,h2.drop off,λ j x hx=> ?_⟩;grind[a2X,a3z]
  .cases h
 .next id sz i off=>
  split at h
  .next ty z xs fz hg=>
   split at h
   .next hz=>
    subst hz;cases hx:xs[i]? with
    |none=>grind
    |some x=>
     simp[hx]at h;subst h;cases hp with
     |rep hp=>cases hp
     |eptr hm=>
      obtain⟨⟨d,h1,h2,h3,h4,h5,h6,h7⟩,_⟩:=hI.at_ hg hm;obtain⟨hl,hf⟩:=h6 x (ax4 hx);have hi:i<xs.length:=(ay0.1 hx).1;have k:i*z+z<=d.size:=by
       rw[h3,show i*z+z=(i+1)*z by grind];exact aw8 _ (by omega)
      have f:CellsRep M μ x.cells ((d.toList.drop (i*z)).take z):=by
       refine⟨by grind,λ c hc=>by grind[V.fit],λ j c u hc hu=> ?_⟩;obtain⟨m,l,hr⟩:=h7 i x j c hx hc;rw[av1]at hu;split at hu
       .grind
       .cases hu
      refine⟨_,_,rfl,f.drop off,λ j y hy=> ?_⟩;grind[a2X,a3z]
   .cases h
  .cases h
 .next b=>
  injection h with h;subst h
  cases hp with
  |rep hp=>cases hp
  |dptr us h1 h2 h3 h4=>
   rename_i A;refine⟨A,(List.range b.length).map us,rfl,⟨by simp,h4,λ j c u hc hu=> ?_⟩,λ j x hx=> ?_⟩
   .simp only[au3,az2]at hu;obtain⟨q,hq,rfl⟩:=hu;obtain⟨_,rfl⟩:q<b.length/\j=q:=by grind
    exact .rep (h3 _ c hc)
   .simp only[au3,az2]at hx;obtain⟨q,hq,rfl⟩:=hx;obtain⟨hj,rfl⟩:q<b.length/\j=q:=by grind
    have:=hI.mem _ _ _ (h2 j _ (az5 hj));have e:A.add j=⟨A.block,A.off+j,none⟩:=by
     unfold Addr.add;split
     .next e=>subst e;cases A;grind
     .rfl
    rw[e];exact this
 .cases h
theorem c5v(ho:o.op= .load t x)(hI:Inv base s B M μ g w)(hS:Slots M μ get a)(h:opE P call get g nx o=some r):OpOk P base s B M μ g w a nx o r:=by
 simp[opE,ho,az3]at h;obtain⟨e,hx,cs,c,v,hv,rfl⟩:=h;have d:=a0A hS hx;obtain⟨A,us,hA,hc,b⟩:=a7B hI d c;rcases a8t hv hc with⟨n,h1,h2,h3,h4⟩|⟨h2,u,h3,h4⟩
 .refine OpOk.same hI ?_ h4;have hl:=run_loadCells_list (P:=P) w A (us.take n) (λ j x hx=>by
   grind)
  simp_all[execOp,Instr.loadAt,Instr.sureAddr,loadVar,a6z,a2n]
 .refine OpOk.same hI ?_ h4;have:=b 0 u h3;simp_all[Addr.add,execOp,Instr.loadAt,Instr.sureAddr,loadVar,a6z]
end
end
section
open Go.RowKit
section
variable {P:Program} {base:Nat} {D:List Nat} {E w:World} {M:Mem} {μ:Pl} {g:G} {get:Nat->V} {a:Act} {nx:Nat} {call:Calls} {o:Oper} {r:Out}
theorem a9z{A:Addr}(h:A.spot=none)(j:Nat):A.add j=⟨A.block,A.off+j,none⟩:=by
 unfold Addr.add;split
 .next e=>subst e;cases A;simp at h;subst h;rfl
 .rfl
variable {n:Nat} {u:Value}
theorem b7Y{p q:V}(hp:RepV M μ p u)(h:a3B n p=some q):∃A,u= .pointer (some A)/\RepV M μ q (.pointer (some (A.add n))):=by
 unfold a3B at h;split at h
 .cases h;cases hp with
  |rep hp=>cases hp
  |ptr hm=>exact⟨_,rfl,by rw[a2X];exact .ptr hm⟩
 .cases h;cases hp with
  |rep hp=>cases hp
  |eptr hm=>exact⟨_,rfl,by rw[a2X,at7];exact .eptr hm⟩
 .cases h;cases hp with
  |rep hp=>cases hp
  |dptr us h1 h2 h3 h4=>refine⟨_,rfl,?_⟩;rw[a9z h1];refine .dptr (λ j=>us (n+j)) rfl (λ j c hc=> ?_) (λ j c hc=>h3 (n+j) c (by grind)) λ c hc=>h4 c (at9 hc);grind
 .cases h
variable {x:Operand} {t:Nat}
theorem a9a{i:Nat}(ho:o.op= .fieldAddr t x i)(hI:Inv base D E M μ g w)(hS:Slots M μ get a)(h:opE P call get g nx o=some r):OpOk P base D E M μ g w a nx o r:=by
 simp[opE,ho,az3]at h;obtain⟨off,ft,hf,n,hn,b,d,hx,v,hv,rfl⟩:=h;obtain⟨fs,f,hu,c,rfl,rfl⟩:=a8O hf;obtain⟨A,hA,hr⟩:=b7Y (a0A hS hx) hv;simp_all[OpOk.same,execOp,Instr.fieldAt,run_underlying,Instr.sureAddr,fieldPlace,a2n]
variable {v:V}
theorem a4W(h:a2u v=some n)(hr:RepV M μ v u):∃k,u= .int k (n:Int):=by
 unfold a2u at h;grind[a1z]
theorem a3R{e:Nat}(h:a2G P t=some e):P.underlying t=some (.slice e)/\P.elem t=e:=by
 grind[a2G,Program.elem]
theorem a8z{i:Operand}(ho:o.op= .indexAddr t x i)(hI:Inv base D E M μ g w)(hS:Slots M μ get a)(h:opE P call get g nx o=some r):OpOk P base D E M μ g w a nx o r:=by
 simp[opE,ho,az3]at h;obtain⟨iv,hi,n,hn,e,he,sz,s,C,hx,h⟩:=h;obtain⟨hu,l⟩:=a3R he;have u:P.underlying t=some (.slice (P.elem t)):=by rw[l];exact hu
 obtain⟨k,hk⟩:=a4W hn (a0A hS hi);have b:=a0A hS hx;have f:∀{A:Addr} {m c:Nat} {v:V},a.eval x= .slice (some A) m c->n<m->RepV M μ v (.pointer (some (A.add (n*sz))))->OpOk P base D E M μ g w a nx o {v:=v}:=by
  intro A m c v hA p hr;refine OpOk.same hI ?_ hr;have q:(n:Int)<(m:Int):=by omega
  simp[execOp,ho,hA,hk,run_indexAt_slice w t A m c k (n:Int) u,l,a2n s,q]
 have data:∀{xs:List V} {A:Addr} {d:Nat} {us:Nat->Nat->Value} {y:V},A.spot=none->(∀x∈xs,x.cells.length=d/\x.fit=true)->
   (∀(i:Nat) (x:V) (j:Nat) (c:V),xs[i]?=some x->x.cells[j]?=some c->M A.block (A.off+(i*d+j))=some (us i j))->
   (∀(i:Nat) (x:V) (j:Nat) (c:V),xs[i]?=some x->x.cells[j]?=some c->Rep M c (us i j))->xs[n]?=some y->y.cells.length=sz->
   RepV M μ (.dptr y.cells) (.pointer (some (A.add (n*sz)))):=by
  intro xs A d us y h1 h2 h3 h4 hy hl;obtain⟨e1,e2⟩:=h2 y (ax4 hy);have e3:d=sz:=e1.symm.trans hl;subst e3;rw[a9z h1];refine .dptr (us n) rfl (λ j c hc=> ?_) (λ j c hc=>h4 n y j c hy hc) λ c hc=>by grind[V.fit]
  have:=h3 n y j c hy hc;simpa[at7]using this
 split at h
 .next own xs=>
  simp[az3]at h;obtain⟨y,hy,hl,rfl⟩:=h;generalize hU:a.eval x=U at b;cases b with
  |rep b=>
   cases b with
   |sl us h0 h1 h2 h3 h4=>exact f hU (ay0.1 hy).1 (data h1 h2 h3 h4 hy hl)
 .next xs=>
  simp[az3]at h;obtain⟨y,hy,hl,rfl⟩:=h;generalize hU:a.eval x=U at b;cases b with
  |rep b=>
   cases b with
   |slf us h1 h2 h3 h4=>exact f hU (ay0.1 hy).1 (data h1 h2 h3 h4 hy hl)
 .next id z off m=>
  simp at h;obtain⟨⟨p,rfl⟩,rfl⟩:=h;generalize hU:a.eval x=U at b;cases b with
  |rep b=>cases b
  |row hm B=>refine f hU p ?_;rw[a2X,<-ar2];exact .eptr (off:=0) hm
 .cases h
theorem c1x(h:lenOf v=some n)(hr:RepV M μ v u):∃A c,u= .slice A n c:=by
 unfold lenOf at h;split at h
 .grind[a2T]
 .cases h;cases hr with|rep hr=>cases hr;exact⟨_,_,rfl⟩
 .cases h;cases hr with|rep hr=>cases hr;exact⟨_,_,rfl⟩
 .cases h;cases hr with
  |rep hr=>cases hr
  |row=>grind
 .cases h
end
end
section
open Go.RowKit
section
variable {P:Program} {base:Nat} {C:List Nat} {D w:World} {M:Mem} {μ:Pl} {g:G} {get:Nat->V} {a:Act} {nx:Nat} {call:Calls} {o:Oper} {r:Out}
abbrev c5n(M:Mem)(μ:Pl)(w:World)(xs:List V)(A:Option Addr):Prop:=
 (A=none->xs=[])/\∀ad,A=some ad->ad.spot=none/\∃sz,(∀x∈xs,x.cells.length=sz/\x.fit=true)/\
  ∀(i:Nat) (x:V) (j:Nat) (c:V),xs[i]?=some x->x.cells[j]?=some c->∃y,w.cell? ⟨ad.block,ad.off+(i*sz+j),none⟩=some y/\RepV M μ c y
theorem a6V(hI:Inv base C D M μ g w){v:V}{u:Value}{xs:List V}(hv:RepV M μ v u)(h:a4Q g v=some xs):
  ∃A c,u= .slice A xs.length c/\c5n M μ w xs A/\(A=none->c=0):=by
 unfold a4Q at h;split at h
 .grind[a2T]
 .cases h;cases hv with
  |rep hv=>
   cases hv with
   |sl us h0 h1 h2 h3 h4=>refine⟨_,_,rfl,⟨(λ h=>by cases h),λ ad h=> ?_⟩,(λ h=>by cases h)⟩;cases h;exact⟨h1,_,h2,λ i x j c hx hc=>⟨_,hI.mem _ _ _ (h3 i x j c hx hc),.rep (h4 i x j c hx hc)⟩⟩
 .cases h;cases hv with
  |rep hv=>
   cases hv with
   |slf us h1 h2 h3 h4=>refine⟨_,_,rfl,⟨(λ h=>by cases h),λ ad h=> ?_⟩,(λ h=>by cases h)⟩;cases h;exact⟨h1,_,h2,λ i x j c hx hc=>⟨_,hI.mem _ _ _ (h3 i x j c hx hc),.rep (h4 i x j c hx hc)⟩⟩
 .next id sz off n=>
  split at h
  .next ty z e fz hg=>
   split at h
   .next hz=>
    obtain⟨rfl,f⟩:=hz;cases h;cases hv with
    |rep hv=>cases hv
    |row hm _=>
     rename_i b cap _;obtain⟨⟨k,h1,h2,h3,h4,h5,h6,h7⟩,_⟩:=hI.at_ hg hm;have d:((e.drop off).take n).length=n:=by simp;omega
     refine⟨_,_,by rw[d],⟨(λ h=>by cases h),λ ad h=> ?_⟩,(λ h=>by cases h)⟩;cases h;refine⟨rfl,z,λ x hx=>h6 x (at9 (au4 hx)),λ i x j c hx hc=> ?_⟩;grind[a3z]
   .cases h
  .cases h
 .cases h
def d2p:V->Int
 | .lit (.int _ n)=>n
 |_=>0
theorem b7T{v:V}{b:UInt8}(h:a7v v=some b):v= .lit (.int .u8 (d2p v))/\b=UInt8.ofNat (d2p v).toNat:=by
 unfold a7v at h;split at h
 .cases h;exact⟨rfl,rfl⟩
 .cases h
theorem b2c:∀{xs:List V} {bs:List UInt8},a0D a7v xs=some bs->bs=(xs.map d2p).map (λ n=>UInt8.ofNat n.toNat)/\∀x∈xs,x= .lit (.int .u8 (d2p x))
 |[],bs,h=>by simp[a0D]at h;grind
 |x::xs,bs,h=>by
  simp only[a0D]at h;cases hx:a7v x with
  |none=>grind
  |some b=>
   cases hr:a0D a7v xs with
   |none=>grind
   |some r=>simp[hx,hr]at h;subst h;obtain⟨e1,e2⟩:=b2c hr;grind[b7T]
theorem b2k{src f:Nat}{x:Operand}(ho:o.op= .convert src f x)(hI:Inv base C D M μ g w)(hS:Slots M μ get a)(h:opE P call get g nx o=some r):OpOk P base C D M μ g w a nx o r:=by
 simp[opE,ho,az3]at h;obtain⟨B,hx,h⟩:=h;have z:=a0A hS hx;split at h
 .next e hs hd=>
  split at h
  .next he=>
   simp[az3]at h;obtain⟨l,hl,b,hb,rfl⟩:=h;obtain⟨A,c,hu,⟨n,hA⟩,_⟩:=a6V hI z hl;obtain⟨f1,f2⟩:=b2c hb;have k:({data:=b.toArray}:ByteArray)=strOfNums (l.map d2p):=by rw[f1];rfl
   refine OpOk.same hI (u:= .string ⟨b.toArray⟩) ?_ (.rep (.lit rfl));cases A with
   |none=>
    have m:=n rfl;subst m;have p:b=[]:=by simpa using f1
    subst p;simp[execOp,ho,hu,run_convert_bytes_nil w src e hs he _ _ f hd];rfl
   |some ad=>
    obtain⟨h1,sz,h2,h3⟩:=hA ad rfl;have q:ad=⟨ad.block,ad.off,none⟩:=by cases ad;simp at h1;subst h1;rfl
    have j:∀i,i<l.length->w.cell? ⟨ad.block,ad.off+i,none⟩=some (.int .u8 ((l.map d2p).getD i 0)):=by
     intro i hi;have s:l[i]?=some l[i]:=az5 hi;have d:=f2 l[i] (au2 hi);have t:sz=1:=by
      have:=(h2 l[i] (au2 hi)).1;rw[d]at this;simpa[V.cells]using this.symm
     subst t;obtain⟨y,hy,hr⟩:=h3 i l[i] 0 l[i] s (by rw[d];rfl);rw[d]at hr;have:=a1z hr;subst this;simpa[List.getD,hi]using hy
    rw[k];have:=run_convert_bytes_arg (P:=P) w src e hs he ad.block ad.off l.length c (l.map d2p) (by simp) j f hd;rw[<-q]at this;simp[execOp,ho,hu,this]
  .cases h
 .simp[az3]at h;obtain⟨u,hu,v,hp,rfl⟩:=h;have e1:=a1X hu z;exact a7b hI (by simp[execOp,ho,e1]) hp
end
end
section
open Go.RowKit
section
variable {P:Program} {base:Nat} {k:List Nat} {l w:World} {M:Mem} {μ:Pl} {g:G} {get:Nat->V} {a:Act} {nx:Nat} {call:Calls} {o:Oper} {r:Out}
variable {vs:List V}
theorem b1m(hS:Slots M μ get a){xs:Array Operand}(h:evs get xs=some vs):vs.length=(xs.map a.eval).toList.length/\
  ∀(j:Nat) (c:V) (u:Value),vs[j]?=some c->(xs.map a.eval).toList[j]?=some u->RepV M μ c u:=by
 grind[b0n]
theorem b2v{us:List Value}{ws:List Value}(hl:vs.length=us.length)(hr:∀(j:Nat)(c:V)(u:Value),vs[j]?=some c->us[j]?=some u->RepV M μ c u)(h:a0D a0W vs=some ws):us=ws:=by
 obtain⟨h1,h2⟩:=a2p h;apply List.ext_getElem?;intro j;by_cases hj:j<vs.length
 .have e1:vs[j]?=some vs[j]:=az5 hj;grind[a1X]
 grind
variable {args:Array Operand} {b:Builtin}
theorem a3s{d:Array Nat}(ho:o.op= .call {callee:= .builtin b,args:=args,argTypes:=d}):
  ∃c,(execOp a.eval o).run P w=(builtin b d o.type c (args.map a.eval)).run P w:=
 ⟨_,by simp only[execOp,ho,resolve,invoke,Sem.run_bind,Sem.run_pure,Result.andThen_ok];rfl⟩
theorem a3U{i:Array Nat}(hb:b= .len\/b= .min\/b= .max)(ho:o.op= .call {callee:= .builtin b,args:=args,argTypes:=i})(hI:Inv base k l M μ g w)(hS:Slots M μ get a)(h:opE P call get g nx o=some r):OpOk P base k l M μ g w a nx o r:=by
 rcases hb with rfl|rfl|rfl
 .simp[opE,ho,az3]at h;obtain⟨vs,d,h⟩:=h;obtain⟨h1,h2⟩:=b1m hS d;have one:∀{v:V},vs=[v]->∃u,args.map a.eval= #[u]/\RepV M μ v u:=by
   intro v hv;subst hv;have hl:(args.map a.eval).toList.length=1:=by rw[<-h1];rfl
   obtain⟨u,hu⟩:=As3.1 hl;exact⟨u,Array.ext' hu,h2 0 v u rfl (by grind)⟩
  split at h
  .next v=>
   obtain⟨u,hu,hr⟩:=one rfl;have:=a1z hr;subst this;simp[az3]at h;obtain⟨z,hz,y,hp,rfl⟩:=h;cases a8N hz hr;obtain⟨cs,hx⟩:=a3s (P:=P) (w:=w) (a:=a) ho;exact a7b hI (by rw[hx,hu];simp[builtin]) hp
  .next v hn=>
   obtain⟨u,hu,hr⟩:=one rfl;simp[az3]at h;obtain⟨t,ht,⟨e,he⟩,n,hn,rfl⟩:=h;obtain⟨hd,_⟩:=a3R he;obtain⟨A,c,rfl⟩:=c1x hn hr;obtain⟨cs,hx⟩:=a3s (P:=P) (w:=w) (a:=a) ho;exact OpOk.same hI (u:= .int .i64 n) (by rw[hx,hu];simp[builtin,Builtin.len_,ht,run_underlying hd,goInt]) (.rep (.lit rfl))
  .cases h
 .simp[opE,ho,az3]at h;obtain⟨vs,d,us,f,y,hp,rfl⟩:=h;obtain⟨h1,h2⟩:=b1m hS d;have:=b2v h1 h2 f;have e1:args.map a.eval=us.toArray:=by grind
  obtain⟨cs,hx⟩:=a3s (P:=P) (w:=w) (a:=a) ho;exact a7b hI (by simp_all[builtin]) hp
 .simp[opE,ho,az3]at h;obtain⟨vs,d,us,f,y,hp,rfl⟩:=h;obtain⟨h1,h2⟩:=b1m hS d;have:=b2v h1 h2 f;have e1:args.map a.eval=us.toArray:=by grind
  obtain⟨cs,hx⟩:=a3s (P:=P) (w:=w) (a:=a) ho;exact a7b hI (by simp_all[builtin]) hp
theorem c3e(hI:Inv base k l M μ g w)(hm:μ nx=none){cs:List V}{us:Array Value}{T:Nat}(hc:CellsRep M μ cs us.toList)(hk:bk cs=true->T=bT):
  Inv base k l M (μ.set nx (w.heap.size,1)) (upd [(nx,some (.var cs))] g) (w.alloc (.cells us T)):=
 hI.new hm ⟨T,us,a7H w _,hc.mono (Mem.le_refl M) (a1I hm),hk⟩
variable {t:Nat}
theorem c9q{x:Operand}(ho:o.op= .box t x)(hm:μ nx=none)(hI:Inv base k l M μ g w)(hS:Slots M μ get a)(h:opE P call get g nx o=some r):OpOk P base k l M μ g w a nx o r:=by
 simp[opE,ho,az3]at h;obtain⟨v,hv,⟨hf,hk⟩,rfl⟩:=h;have hc:=(a0A hS hv).cells hf;refine⟨.pointer (some ⟨w.heap.size,0,none⟩),w.alloc (.cells (a.eval x).cells t),M,μ.set nx (w.heap.size,1),rfl,a1I hm,.inl ?_,.ptr a1Y,c3e hI hm hc hk,λ i hi hn=> ?_⟩
 .simp[execOp,ho,Instr.box,newVar,newRow]
 .simp[Pl.set];grind
theorem a4I{z:V}(h:a4h P t=some z):∃i v,P.info? t=some i/\i.zero=some v/\a1w v=some z:=by
 grind[a4h,az3]
theorem a7j{i:TypeInfo}{v:Value}(hi:P.info? t=some i)(hv:i.zero=some v)(w:World):(zeroValue t).run P w= .ok v w:=by
 simp[zeroValue,typeInfo,hi,hv]
theorem b8s(ho:o.op= .alloc t)(hm:μ nx=none)(hI:Inv base k l M μ g w)(h:opE P call get g nx o=some r):OpOk P base k l M μ g w a nx o r:=by
 simp[opE,ho,az3]at h;obtain⟨z,hz,hk,rfl⟩:=h;obtain⟨i,v,hi,hv,b⟩:=a4I hz;have hr:RepV M μ z v:= .rep (a3V b);have hc:=hr.cells (a5y b);refine⟨.pointer (some ⟨w.heap.size,0,none⟩),w.alloc (.cells v.cells t),M,μ.set nx (w.heap.size,1),rfl,a1I hm,.inl ?_,.ptr a1Y,c3e hI hm hc hk,λ i hi hn=> ?_⟩
 .simp_all[execOp,Instr.alloc,a7j,newVar,newRow]
 .simp[Pl.set];grind
end
end
section
open Go.RowKit
section
variable {P:Program} {base:Nat} {R:List Nat} {S w:World} {M:Mem} {μ:Pl} {g:G} {get:Nat->V} {a:Act} {nx:Nat} {call:Calls} {o:Oper} {r:Out}
theorem a4c:∀(cs:List V) (off:Nat) (vs:List V),off<=cs.length->setCells cs off vs=cs.take off++(vs++cs.drop (off+vs.length))
 |cs,0,vs,_=>by simp[setCells]
 |[],o+1,vs,h=>by simp at h
 |c::cs,o+1,vs,h=>by
  simp only[setCells,Aw6,ap4];rw[a4c cs o vs (by simpa using h),show o+1+vs.length=(o+vs.length)+1 by omega,List.drop_succ_cons]
variable {cs:List V} {us:List Value}
theorem CellsRep.append{b:List V}{d:List Value}(h:CellsRep M μ cs us)(k:CellsRep M μ b d):CellsRep M μ (cs++b) (us++d):=by
 refine⟨by simp[h.1,k.1],λ c hc=>(ax1.1 hc).elim (h.2.1 c) (k.2.1 c),λ j c u hc hu=> ?_⟩;by_cases hj:j<cs.length
 .rw[aw1 hj]at hc;rw[aw1 (by rw[<-h.1];exact hj)]at hu;exact h.2.2 j c u hc hu
 .rw[av3 (by omega)]at hc;rw[av3 (by rw[<-h.1];omega),<-h.1]at hu;exact k.2.2 _ c u hc hu
theorem CellsRep.oneCell{cs:List V}{us:List Value}(h:CellsRep M μ cs us):∀u∈us,u.oneCell'=true:=by
 intro u hu;obtain⟨j,hj⟩:=List.getElem?_of_mem hu;have b:j<cs.length:=by rw[h.1];exact(ay0.1 hj).1
 exact(h.2.2 j _ u (az5 b) hj).oneCell (h.2.1 _ (au2 b))
variable {vs:List V} {ws:List Value} {off:Nat}
theorem CellsRep.set(h:CellsRep M μ cs us)(k:CellsRep M μ vs ws)(b:off+vs.length<=cs.length):
  CellsRep M μ (setCells cs off vs) (us.take off++ws++us.drop (off+ws.length)):=by
 rw[a4c _ _ _ (by omega),Ay5,<-k.1];exact(h.take off).append (k.append (h.drop _))
theorem a8J(w:World)(b:Nat)(cs:Array Value):w.grownBy (w.setRow b cs) (some b):=
 ⟨rfl,rfl,rfl,by simp[World.setRow],λ k _ hk=>setRow_other w b k _ (λ e=>hk (by simp[e]))⟩
theorem Inv.put(hI:Inv base R S M μ g w){id b cap:Nat}{x l:Box}{f:Array Value}(hg:g id=some x)(hm:μ id=some (b,cap))(h0:x.held=0)
  (hx:BoxAt M μ (w.setRow b f) b cap l):Inv base R S M μ (upd [(id,some l)] g) (w.setRow b f):=by
 obtain⟨_,hb⟩:=hI.at_ hg hm;have d:∀o u,M b o≠some u:=λ o u hM=>by have:=hI.sep id x b cap o u hg hm hM;omega
 refine hI.grow (a8J w b f) (Pl.le_refl μ) (λ b' h=> ?_) ?_
 .injection h with h;subst h
  exact⟨hb,λ o u hM=>absurd hM (d o u)⟩
 .intro j y hy;by_cases e:id=j
  .subst e;have:y=l:=by simpa[upd]using hy.symm
   subst this;refine .inr ⟨b,cap,hm,hx,hb,λ o u hM=>absurd hM (d o u),λ i c z hi hz hc=> ?_⟩;have m:g i=some z:=by simpa[upd,hi,as7 hi]using hz
   exact hi (hI.inj i id b c cap ⟨z,m⟩ ⟨x,hg⟩ hc hm)
  .have k:g j=some y:=by simpa[upd,e]using hy
   exact .inl ⟨k,λ b' c hc n=>e (by injection n with n;subst n;exact hI.inj id j b' cap c ⟨x,hg⟩ ⟨y,k⟩ hm hc)⟩
theorem a6p{l:List Value}{p k:Nat}(h:p+ws.length<=l.length):
  (l.take p++ws++l.drop (p+ws.length))[k]?=if k<p then l[k]? else if k<p+ws.length then ws[k-p]? else l[k]?:=by
 by_cases h1:k<p
 .grind
 .rw[ay9 h1];by_cases h2:k<p+ws.length
  .grind
  .rw[ay9 h2,av3 (by simp;omega),at5]
   congr 1;simp;omega
theorem b5h{v:V}(h:a0r v=true):v.cells=[v]:=by cases v<;>first|rfl|(simp[a0r]at h)
theorem b6x(h:off<=cs.length){c:V}(hc:c∈setCells cs off vs):c∈cs\/c∈vs:=by
 rw[a4c _ _ _ h]at hc;rcases ax1.1 hc with hc|hc
 .grind
 .rcases ax1.1 hc with hc|hc
  .grind
  .grind
theorem a5N(h:off+vs.length<=cs.length):(setCells cs off vs).length=cs.length:=by
 rw[a4c _ _ _ (by omega)];simp;omega
theorem b4q(hI:Inv base R S M μ g w){p:V}{u:Value}{us:HP}(hp:RepV M μ p u)(hv:CellsRep M μ vs ws)(h:storeAt g p vs=some us):
  ∃A,u= .pointer (some A)/\∃H,(storeCells A ws).run P w= .ok () H/\Inv base R S M μ (upd us g) H:=by
 unfold storeAt at h;split at h
 .next id off=>
  split at h
  .next cs hg=>
   split at h
   .next m=>
    split at h
    .cases h
    next J=>
    cases h;cases hp with
    |rep hp=>cases hp
    |ptr hm=>
     rename_i b cap;obtain⟨⟨T,d,h1,h2,h3⟩,_⟩:=hI.at_ hg hm;have hl:=h2.1;have hr:=run_storeCells_at P b off T ws 0 d w h1 (by rw[<-hv.1];simp at hl|-;omega) hv.oneCell;refine⟨_,rfl,_,hr,hI.put hg hm rfl ⟨T,_,setRow_heap w b d _ T _ h1,?_,λ hb=>h3 ?_⟩⟩
     .simpa using h2.set hv m
     grind
   .cases h
  .cases h
 .next id sz i off=>
  split at h
  .next ty z xs hg=>
   simp only[Az0,az3]at h;obtain⟨x,hx,h⟩:=h;split at h
   .next hz=>
    obtain⟨rfl,m⟩:=hz;simp only[az3,Az1,az0]at h;obtain⟨F,f,rfl⟩:=h;cases hp with
    |rep hp=>cases hp
    |eptr hm=>
     rename_i b cap;obtain⟨⟨d,h1,h2,h3,h4,h5,h6,h7⟩,_⟩:=hI.at_ hg hm;obtain⟨hl,hf⟩:=h6 x (ax4 hx);have hi:i<xs.length:=(ay0.1 hx).1;have K:i*z+z<=d.size:=by
      rw[h3,show i*z+z=(i+1)*z by grind];exact aw8 _ (by omega)
     have I:i*z+off+ws.length<=d.size:=by rw[<-hv.1];omega
     have hr:=run_storeCells_at P b (i*z+off) ty ws 0 d w h1 (by grind) hv.oneCell;have B:∀c∈setCells x.cells off vs,a0r c=true:=by
      intro c hc;rcases b6x (by omega) hc with hc|hc
      .grind[V.fit]
      .exact hv.2.1 c hc
     have G:F.cells=setCells x.cells off vs/\F.fit=true:=by
      split at f
      .injection f with f;subst f
       exact⟨rfl,by grind[V.fit,V.cells]⟩
      .next L=>
       have C:x.cells=[x]:=by cases x<;>first|rfl|grind
       have D:(setCells x.cells off vs).length=1:=by rw[a5N m,C];rfl
       obtain⟨y,hy⟩:=As3.1 D;rw[hy]at f B|-;simp at f;subst f;have:=B y (by simp);exact⟨b5h this,by grind[V.fit,b5h]⟩
     have E:CellsRep M μ x.cells ((d.toList.drop (i*z)).take z):=by
      refine⟨by grind,λ c hc=>by grind[V.fit],λ j c u hc hu=> ?_⟩;obtain⟨Q,s,hr⟩:=h7 i x j c hx hc;rw[av1]at hu;split at hu
      .grind
      .cases hu
     have q:=E.set hv m;refine⟨_,rfl,_,hr,hI.put hg hm rfl ⟨_,setRow_heap w b d _ ty _ h1,h2,?_,by grind,h5,?_,?_⟩⟩
     .simp;omega
     .intro y hy;rcases Ax2 hy with hy|rfl
      .grind
      .grind[a4c]
     .intro t y j c hy hc;have N:=hv.1;have key:=a6p (l:=d.toList) (ws:=ws) (p:=i*z+off) (k:=t*z+j) (by grind);have O:∀k:Nat,(d.toList.take (i*z+off+0)++ws++d.toList.drop (i*z+off+0+ws.length)).toArray[k]?=(d.toList.take (i*z+off)++ws++d.toList.drop (i*z+off+ws.length))[k]?:=by intro k;simp
      rw[O,key];by_cases e:i=t
      .subst e;have n:y=F:=by rw[Ay4 hi]at hy;exact(ax8 hy).symm
       subst n;rw[G.1]at hc;have hj:j<z:=by have:=(ay0.1 hc).1;rw[a5N m,hl]at this;exact this
       have hu:∃u,(((d.toList.drop (i*z)).take z).take off++ws++((d.toList.drop (i*z)).take z).drop (off+ws.length))[j]?=some u:=by
        have h1:=q.1;rw[a5N m,hl]at h1;exact⟨_,az5 (by omega)⟩
       obtain⟨u,hu⟩:=hu;refine⟨u,?_,q.2.2 j c u hc hu⟩;rw[a6p (by simp;omega)]at hu;by_cases a1:j<off
       .grind
       .rw[ay9 a1]at hu;rw[ay9 (by omega)];by_cases a2:j<off+ws.length
        .rw[ax3 a2]at hu;rw[ax3 (by omega),<-hu];congr 1;omega
        grind
      .have n:xs[t]?=some y:=by rw[Aw4 e]at hy;exact hy
       obtain⟨u,hu,hr⟩:=h7 t y j c n hc;have hj:j<z:=by have:=(ay0.1 hc).1;rw[(h6 y (ax4 n)).1]at this;exact this
       refine⟨u,?_,hr⟩;have s:d.toList[t*z+j]?=some u:=by simpa using hu
       rcases Nat.lt_or_gt_of_ne e with v|v
       .have:(i+1)*z<=t*z:=aw8 _ v;rw[an4]at this;rw[ay9 (by omega),ay9 (by omega)];exact s
       .have:(t+1)*z<=i*z:=aw8 _ v;rw[an4]at this;rw[ax3 (by omega)];exact s
   .cases h
  .cases h
 .cases h
theorem b9V{t:Nat}{x y:Operand}(ho:o.op= .store t x y)(hI:Inv base R S M μ g w)(hS:Slots M μ get a)(h:opE P call get g nx o=some r):OpOk P base R S M μ g w a nx o r:=by
 simp[opE,ho,az3]at h;obtain⟨p,hp,v,hv,n,hn,⟨c,hf⟩,us,d,rfl⟩:=h;have hc:=(a0A hS hv).cells hf;obtain⟨A,hA,f,hr,e⟩:=b4q (P:=P) hI (a0A hS hp) hc d;have b:(a.eval y).cells.size=n:=by rw[<-c,hc.1];simp
 refine⟨undef,f,M,μ,rfl,Pl.le_refl μ,.inr ⟨?_,rfl⟩,.und,e,λ _ h _=>h⟩;simp[execOp,ho,Instr.storeAt,hA,Instr.sureAddr,storeVar,b,a2n hn,hr]
end
end
section
open Go.RowKit
section
variable {P:Program} {base:Nat} {pts:List Nat} {w0 w:World} {M:Mem} {μ:Pl} {g:G} {get:Nat->V} {a:Act} {nx:Nat} {call:Calls} {o:Oper} {r:Out}
theorem c5q(hS:Slots M μ get a){x:Option Operand}{v:Option V}(h:evo get x=some v):
  (x=none/\v=none)\/∃y z,x=some y/\v=some z/\RepV M μ z (a.eval y):=by
 cases x with
 |none=>simp[evo]at h;grind
 |some y=>
  cases hy:ev get y with
  |none=>grind[evo]
  |some z=>simp[evo,hy]at h;grind[a0A]
variable {n:Nat} {v:V} {u:Value}
theorem c5A(h:lenOf v=some n)(hr:RepV M μ v u):∃A c,u= .slice A n c/\n<=c:=by
 unfold lenOf at h;split at h
 .cases h;exact⟨_,_,a2T hr,ay3 _⟩
 .cases h;cases hr with|rep hr=>cases hr with|sl us h0=>grind
 .cases h;cases hr with|rep hr=>cases hr;grind
 .cases h;cases hr with
  |rep hr=>cases hr
  |row _ b=>grind
 .cases h
theorem a4P{y:Nat}{code:BoundsCode}(h:a2u v=some n)(hr:RepV M μ v u)(b:n<=y)(w:World):(Instr.sliceBound u y code).run P w= .ok n w:=by
 obtain⟨k,rfl⟩:=a4W h hr;simp_all[Instr.sliceBound,asIntOf]
variable {A:Addr} {sz:Nat} {own:Option (Nat×Nat×Bool)}
theorem c5z{b:List V}{cap l u:Nat}(h:Rep M (.sl own b) (.slice (some A) b.length cap))(p:b2C sz b=true)(hl:l<=u)(hu:u<=b.length):
  Rep M (.sl none ((b.take u).drop l)) (.slice (some (if cap=l then A else A.add (l*sz))) (u-l) (cap-l)):=by
 cases h with
 |sl us h0 h1 h2 h3 h4=>
  rename_i d;have f:((b.take u).drop l).length=u-l:=by simp;omega
  have k:∀x∈(b.take u).drop l,x∈b:=λ x hx=>au4 (at9 hx);rw[<-f];by_cases hc:cap=l
  .rw[ax3 hc];have he:(b.take u).drop l=[]:=aw6 (by omega);rw[he];exact .sl (sz:=0) us (by simp) h1 (λ x hx=>by simp at hx) (λ i x j c hx=>by simp at hx) (λ i x j c hx=>by simp at hx)
  .rw[ay9 hc,a9z h1];refine .sl (sz:=d) (λ i j=>us (l+i) j) (by omega) rfl (λ x hx=>h2 x (k x hx)) (λ i x j c hx m=> ?_) (λ i x j c hx m=> ?_);all_goals
    have n:b[l+i]?=some x:=by
     rw[at5,av1]at hx;split at hx
     .exact hx
     .cases hx
   .have e:d=sz:=by
     cases b with
     |nil=>simp at n
     |cons y t=>grind[b2C]
    grind
   grind
theorem b3u{id off:Nat}(h:RepV M μ (.row id sz off n) u):∃b cap,u= .slice (some ⟨b,off*sz,none⟩) n (cap-off)/\μ id=some (b,cap)/\off+n<=cap:=by
 cases h with
 |rep h=>cases h
 |row hm c=>grind
variable {xs:List V}
theorem c2j(h:RepV M μ (.sl own xs) u):∃A cap,u= .slice (some A) xs.length cap/\xs.length<=cap/\Rep M (.sl own xs) u:=by
 cases h with|rep h=>have b:=h;cases h with|sl us h0=>grind
theorem a9C(h:RepV M μ (.slf xs) u):∃A,u= .slice (some A) xs.length xs.length/\Rep M (.slf xs) u/\Rep M (.sl none xs) u:=by
 cases h with|rep h=>have b:=h;cases h with|slf us h1 h2 h3 h4=>exact⟨_,rfl,b,.sl us (ay3 _) h1 h2 h3 h4⟩
theorem b6B{u:Nat}{c:Nat}(h:Rep M (.sl none xs) (.slice (some A) xs.length c))(hu:u<=xs.length):Rep M (.slf (xs.take u)) (.slice (some A) u u):=by
 cases h with
 |sl us h0 h1 h2 h3 h4=>
  have hlen:(xs.take u).length=u:=by simp;omega
  have:Rep M (.slf (xs.take u)) (.slice (some A) (xs.take u).length (xs.take u).length):=by
   refine .slf us h1 (λ x hx=>h2 x (au4 hx)) (λ i x j c hx hc=> ?_) (λ i x j c hx hc=> ?_);all_goals
    have hx':xs[i]?=some x:=by
     rw[av1]at hx;split at hx
     .exact hx
     .cases hx
   .grind
   .grind
  rwa [hlen]at this
theorem c9g{b:Option (Nat×Nat×Bool)}(h:Rep M (.sl own xs) u):Rep M (.sl b xs) u:=by
 cases h with|sl us h0 h1 h2 h3 h4=>exact .sl us h0 h1 h2 h3 h4
variable {t:Nat}
theorem b5U{z:V}{U:Value}{lo hi mx:Option V}{C hi' D:Option Value}(hv:RepV M μ v U)
  (L:(lo=none/\C=none)\/∃y d,lo=some y/\C=some d/\RepV M μ y d)
  (I:(hi=none/\hi'=none)\/∃y d,hi=some y/\hi'=some d/\RepV M μ y d)
  (S:(mx=none/\D=none)\/∃y d,mx=some y/\D=some d/\RepV M μ y d)
  (h:a3d P t v lo hi mx=some z) (w:World):∃u,(Instr.sliceAt t U C hi' D).run P w= .ok u w/\RepV M μ z u:=by
 unfold a3d at h;split at h
 .next s=>
  have hU:=a1z hv;subst hU;have T:∀{x:Option V} {R y:Option Value},((x=none/\R=none)\/∃y d,x=some y/\R=some d/\RepV M μ y d)->
    (match x with|none=>some none|some y=>(a0W y).map some)=some y->R=y:=by
   intro x R y hx hy;rcases hx with⟨rfl,rfl⟩|⟨q,q',rfl,rfl,hr⟩
   .grind
   .grind[az2,a1X]
  simp only[Az0,az3]at h;obtain⟨l,hl,u,hu,m,hm,h⟩:=h;obtain⟨y,hy,hr⟩:=a7n (M:=M) h;rw[T L hl,T I hu,T S hm];exact⟨y,hy w,.rep hr⟩
 .simp only[Az0,az3]at h;obtain⟨e,he,sz,N,n,hn,l,hl,u,hu,h⟩:=h;obtain⟨hd,_⟩:=a3R he;split at h
  .cases h
  .next F=>
   simp only[ay8,ay2,ap6,aq9]at F;obtain⟨G,f⟩:=F;obtain⟨A,c,rfl,J⟩:=c5A hn hv;split at h
   .next y=>
    simp only[az3]at h;obtain⟨k,hk,h⟩:=h;split at h
    .next hc=>
     obtain⟨rfl,X,Y⟩:=hc;obtain⟨d,rfl,hy⟩:∃d,D=some d/\RepV M μ y d:=by
      grind
     obtain⟨rfl,rfl⟩:lo=none/\C=none:=by
      grind
     obtain⟨p,K,rfl,rfl,hp⟩:∃p K,hi=some p/\hi'=some K/\RepV M μ p K:=by
      grind
     obtain rfl:0=l:=ax8 hl;have hb:(Instr.sliceBounds true n c none (some K) (some d)).run P w= .ok (0,k,k) w:=by
      simp[Instr.sliceBounds,a4P (code:= .slice3Acap) hk hy (av9 f J) w,a4P (code:= .slice3B) hu hp (ay3 k) w]
     have E:(Instr.sliceAt t (.slice A n c) none (some K) (some d)).run P w= .ok (.slice A k k) w:=by
      simp[Instr.sliceAt,Instr.slice,run_underlying hd,hb,a2n N];intro _;cases A with
      |none=>rfl
      |some B=>simp[Addr.add]
     refine⟨_,E,?_⟩;split at h
     .grind[a2T]
     .cases h;simp[lenOf]at hn;subst hn;obtain⟨B,cap,hs,F,hr⟩:=c2j hv;injection hs with h1 h2 h3
      subst h1;subst h3;exact .rep (b6B (c9g hr) f)
     .cases h;simp[lenOf]at hn;subst hn;obtain⟨B,hs,_,hr⟩:=a9C hv;injection hs with h1 h2 h3
      subst h1;subst h3;exact .rep (b6B hr f)
     .cases h
    .cases h
   .obtain⟨_,rfl⟩:True/\D=none:=by
     grind
    have E:(Instr.sliceAt t (.slice A n c) C hi' none).run P w= .ok (.slice (if c=l then A else A.map (·.add (l*sz))) (u-l) (c-l)) w:=by
     have hb:(Instr.sliceBounds true n c C hi' none).run P w= .ok (l,u,c) w:=by
      rcases L with⟨rfl,rfl⟩|⟨q,q',rfl,rfl,hr⟩
      .obtain rfl:0=l:=ax8 hl;rcases I with⟨rfl,rfl⟩|⟨p,K,rfl,rfl,hp⟩
       .obtain rfl:n=u:=ax8 hu;simp[Instr.sliceBounds]
       .simp[Instr.sliceBounds,a4P (code:= .sliceAcap) hu hp (av9 f J) w]
      .rcases I with⟨rfl,rfl⟩|⟨p,K,rfl,rfl,hp⟩
       .obtain rfl:n=u:=ax8 hu;simp[Instr.sliceBounds,a4P (code:= .sliceB) hl hr G w]
       .simp[Instr.sliceBounds,a4P (code:= .sliceAcap) hu hp (av9 f J) w,a4P (code:= .sliceB) hl hr G w]
     simp[Instr.sliceAt,Instr.slice,run_underlying hd,hb,a2n N]
    refine⟨_,E,?_⟩;split at h
    .grind[a2T]
    .next id O off m _=>
     simp[lenOf]at hn;subst hn;obtain⟨b,cap,hs,hm,Z⟩:=b3u hv;injection hs with h1 h2 h3
     subst h1;subst h3;split at h
     .cases h
     .next hz=>
      have W:O=sz:=au9.1 hz;subst W;split at h
      .next H=>
       cases h;obtain⟨rfl,_⟩:=H;rw[Nat.sub_self];have key:∀(B:Addr) (q:Nat),B.spot=none->RepV M μ (.sl none []) (.slice (some B) 0 q):=λ B q hB=>
        .rep (.sl (sz:=0) (λ _ _=>undef) (aw7 _) hB (λ x hx=>by simp at hx) (λ i x j c hx=>by simp at hx) (λ i x j c hx=>by simp at hx))
       grind[a2X]
      .next H=>
       cases h;have Q:(if cap-off=l then some (⟨b,off*O,none⟩:Addr)else(some (⟨b,off*O,none⟩:Addr)).map (·.add (l*O)))=some ⟨b,(off+l)*O,none⟩:=by
        split
        .grind
        .grind[a2X,ar2]
       rw[Q,Nat.sub_sub];exact .row hm (by omega)
    .next own ys=>
     split at h
     .next hf=>
      cases h;simp[lenOf]at hn;subst hn;obtain⟨B,cap,hs,F,hr⟩:=c2j hv;injection hs with h1 h2 h3
      subst h1;subst h3;have:=c5z (l:=l) (u:=u) hr hf G f;split
      .next e=>rw[ax3 e]at this;exact .rep this
      .next e=>rw[ay9 e]at this;exact .rep this
     .cases h
    .next ys=>
     split at h
     .next hf=>
      cases h;simp[lenOf]at hn;subst hn;obtain⟨B,hs,_,hr⟩:=a9C hv;injection hs with h1 h2 h3
      subst h1;subst h3;have:=c5z (l:=l) (u:=u) hr hf G f;split
      .next e=>rw[ax3 e]at this;exact .rep this
      .next e=>rw[ay9 e]at this;exact .rep this
     .cases h
    .cases h
theorem b9R{x:Operand}{lo hi mx:Option Operand}(ho:o.op= .slice t x lo hi mx)(hI:Inv base pts w0 M μ g w)(hS:Slots M μ get a)(h:opE P call get g nx o=some r):OpOk P base pts w0 M μ g w a nx o r:=by
 simp only[opE,ho,Az0,az3,Az1,az0]at h;obtain⟨v,hv,l,hl,u,hu,m,hm,z,hz,rfl⟩:=h;have b:∀{x:Option Operand} {v:Option V},evo get x=some v->(v=none/\x.map a.eval=none)\/∃y c,v=some y/\x.map a.eval=some c/\RepV M μ y c:=by
  intro x v hx;rcases c5q hS hx with⟨rfl,rfl⟩|⟨y,z,rfl,rfl,hr⟩
  .grind
  .grind
 obtain⟨y,hy,hr⟩:=b5U (a0A hS hv) (b hl) (b hu) (b hm) hz w;simp_all[OpOk.same,execOp]
end
end
section
open Go.RowKit
section
variable {P:Program} {w:World}
def a3F(P:Program)(w:World)(size m:Nat)(X:Value)(a:List Value):Prop:=
 ∀b:World,b.heap=w.heap->(Builtin.lenOf X).run P b= .ok m b/\(Builtin.firstCells size m X).run P b= .ok a.toArray b
variable {m size:Nat}
theorem a8U{c:Nat}{A:Addr}{a:List Value}(hl:a.length=m*size)(h:∀j u,a[j]?=some u->w.cell? (A.add j)=some u):
  a3F P w size m (.slice (some A) m c) a:=by
 intro b hw;refine⟨by simp[Builtin.lenOf],run_firstCells_some (P:=P) b size m A m c a hl λ j u hj=> ?_⟩;grind[World.cell?]
theorem b1X:a3F P w size 0 (.slice none 0 0) []:=by
 intro a _;simp_all[Builtin.lenOf,Builtin.firstCells]
theorem a7s(s:ByteArray):a3F P w size s.size (.string s) (Lib.strCells s):=by
 intro a _;simp_all[Builtin.lenOf,Lib.run_firstCells_string]
variable {k:List Value} {g f:Nat} {X:Value}
set_option maxHeartbeats 2000000 in
theorem b6X(t u ty e:Nat)(i:TypeInfo)(d:TypeDesc)(ht:P.underlying t=some (.slice e))(hd:P.underlying u=some d)(hn:a2P d=true)(hi:P.info? e=some i)
  {b:Nat} {cur:Array Value} (hg:w.heap[b]?=some (.cells cur e (0,0))) (hs:a3F P w i.size m X k) (h1:∀v∈k,v.oneCell'=true)
  (hroom:f+m<=g) (hfit:f*i.size+k.length<=cur.size):
  (Builtin.append_ #[t,u] ty #[.slice (some ⟨b,0,none⟩) f g,X]).run P w=
   .ok (.slice (some ⟨b,0,none⟩) (f+m) g) (w.setRow b (cur.toList.take (f*i.size)++k++cur.toList.drop (f*i.size+k.length)).toArray):=by
 obtain⟨hl,hf⟩:=hs w rfl;have hst:=run_storeCells_at P b (f*i.size) e k 0 cur w hg (by grind) h1;simp only[ap1]at hst;cases d<;>first|grind[a2P]|simp[Builtin.append_,run_underlying ht,run_underlying hd,sizeOf,typeInfo,hi,hl,hroom,hf,a2X,hst]
set_option maxHeartbeats 2000000 in
theorem b7R(t u ty e:Nat)(i:TypeInfo)(z:Value)(d:TypeDesc)(ht:P.underlying t=some (.slice e))(hd:P.underlying u=some d)(hn:a2P d=true)(hi:P.info? e=some i)(hz:i.zero=some z)
  {B:Option Addr} {olds:List Value} (ho:a3F P w i.size f (.slice B f g) olds) (hs:a3F P w i.size m X k)
  (hgt:g<f+m) (h63:((f+m:Nat):Int)<=9223372036854775807) (hfit:Builtin.nextslicecap (f+m) g*i.bytes<=281474976710656):
  (Builtin.append_ #[t,u] ty #[.slice B f g,X]).run P w=
   .ok (.slice (some ⟨w.heap.size,0,none⟩) (f+m) (grownCap w (f+m) g e))
    (w.drew.alloc (.cells (olds.toArray++k.toArray++Builtin.zeroCells z.cells (grownCap w (f+m) g e-(f+m))) e)):=by
 obtain⟨hl,_⟩:=hs w rfl;obtain⟨_,hf⟩:=hs w.drew rfl;obtain⟨_,hfo⟩:=ho w.drew rfl;have hn':¬(f+m<=g):=by omega
 have h63':¬(9223372036854775807<((f:Int)+(m:Int))):=by omega
 have h48':¬(281474976710656<Builtin.nextslicecap (f+m) g*i.bytes):=by omega
 cases d<;>first
  |grind[a2P]
  |(simp[Builtin.append_,run_underlying ht,run_underlying hd,sizeOf,typeInfo,zeroValue,hi,hz,hl,hn',h63',h48',Question.forced,hf,hfo,newRow,grownCap];grind)
end
end
section
open Go.RowKit
section
variable {P:Program} {base:Nat} {q:List Nat} {t w:World} {M:Mem} {μ:Pl} {g:G} {get:Nat->V} {a:Act} {nx:Nat} {call:Calls} {o:Oper} {r:Out}
def RowRep(M:Mem)(μ:Pl)(sz:Nat)(xs:List V)(l:List Value):Prop:=
 l.length=xs.length*sz/\(∀x∈xs,x.cells.length=sz/\x.fit=true)/\
 ∀(i:Nat) (x:V) (j:Nat) (c:V),xs[i]?=some x->x.cells[j]?=some c->∃u,l[i*sz+j]?=some u/\RepV M μ c u
theorem RowRep.mono{e:Mem}{b:Pl}(hM:M.le e)(d:μ.le b){sz:Nat}{xs:List V}{l:List Value}(h:RowRep M μ sz xs l):RowRep e b sz xs l:=
 ⟨h.1,h.2.1,λ i x j c hx hc=>let⟨u,hu,hr⟩:=h.2.2 i x j c hx hc;⟨u,hu,hr.mono hM d⟩⟩
variable {xs:List V} {l:List Value} {sz:Nat}
theorem RowRep.append{b:List V}{l':List Value}(h:RowRep M μ sz xs l)(k:RowRep M μ sz b l'):RowRep M μ sz (xs++b) (l++l'):=by
 refine⟨by simp[h.1,k.1,ar2],λ x hx=>(ax1.1 hx).elim (h.2.1 x) (k.2.1 x),λ i x j c hx hc=> ?_⟩;by_cases hi:i<xs.length
 .rw[aw1 hi]at hx;obtain⟨u,hu,hr⟩:=h.2.2 i x j c hx hc;grind
 .rw[av3 (by omega)]at hx;obtain⟨u,hu,hr⟩:=k.2.2 _ x j c hx hc;have e:(i-xs.length)*sz+xs.length*sz=i*sz:=by grind[Nat.sub_add_cancel]
  refine⟨u,?_,hr⟩;rw[av3 (by rw[h.1];omega),h.1,<-hu]
  congr 1
  omega
theorem RowRep.take{sz:Nat}{xs:List V}{l:List Value}(h:RowRep M μ sz xs l)(n:Nat)(hn:n<=xs.length):RowRep M μ sz (xs.take n) (l.take (n*sz)):=by
 have hle:n*sz<=xs.length*sz:=aw8 _ hn;refine⟨by rw[au7,au7,h.1,au8 hle,au8 hn],λ x hx=>h.2.1 x (au4 hx),λ i x j c hx hc=> ?_⟩;rw[av1]at hx;split at hx
 .next hi=>
  obtain⟨u,hu,hr⟩:=h.2.2 i x j c hx hc;have hj:j<sz:=by have:=(ay0.1 hc).1;rwa [(h.2.1 x (ax4 hx)).1]at this
  have:(i+1)*sz<=n*sz:=aw8 _ hi;grind
 .cases hx
theorem RowRep.nil:RowRep M μ sz [] []:=⟨by simp,λ x hx=>by simp at hx,λ i x j c hx=>by simp at hx⟩
theorem RowRep.oneCell{sz:Nat}{xs:List V}{l:List Value}(h:RowRep M μ sz xs l):∀u∈l,u.oneCell'=true:=by
 intro u hu;obtain⟨k,hk⟩:=List.getElem?_of_mem hu;have d:k<xs.length*sz:=by rw[<-h.1];exact(ay0.1 hk).1
 have c:0<sz:=by grind
 have hi:k/sz<xs.length:=Nat.div_lt_of_lt_mul (by grind);have hj:k % sz<sz:=At5 _ c;have hx:xs[k/sz]?=some xs[k/sz]:=az5 hi;obtain⟨h1,h2⟩:=h.2.1 _ (au2 hi);have hc:(xs[k/sz]).cells[k % sz]?=some (xs[k/sz]).cells[k % sz]:=az5 (by omega);obtain⟨f,b,hr⟩:=h.2.2 _ _ _ _ hx hc;have e:k/sz*sz+k % sz=k:=by rw[am2];exact Nat.div_add_mod k sz
 rw[e,hk]at b;injection b with b
 subst b;simp only[V.fit,ay5]at h2;exact hr.oneCell (h2 _ (au2 _))
theorem a8P{A:Option Addr}{c:Nat}(h:c5n M μ w xs A)(hsz:∀x∈xs,x.cells.length=sz)(hc:A=none->c=0):
  ∃l,RowRep M μ sz xs l/\a3F P w sz xs.length (.slice A xs.length c) l:=by
 cases A with
 |none=>obtain rfl:=h.1 rfl;obtain rfl:=hc rfl;exact⟨[],RowRep.nil,b1X⟩
 |some ad=>
  obtain⟨h1,sz',h2,h3⟩:=h.2 ad rfl;have had:∀j,ad.add j=⟨ad.block,ad.off+j,none⟩:=a9z h1;have full:∀(i:Nat) (x:V) (j:Nat) (c:V),xs[i]?=some x->x.cells[j]?=some c->∃y,w.cell? (ad.add (i*sz+j))=some y/\RepV M μ c y:=by
   intro i x j c hx hc;have hm:=ax4 hx;have e:sz'=sz:=(h2 x hm).1.symm.trans (hsz x hm);subst e;rw[had];exact h3 i x j c hx hc
  let l:=(List.range (xs.length*sz)).map λ k=>(w.cell? (ad.add k)).getD undef;have a0b:∀k,k<xs.length*sz->l[k]?=some ((w.cell? (ad.add k)).getD undef):=λ k hk=>by grind
  have hlt:∀(i:Nat) (x:V) (j:Nat) (c:V),xs[i]?=some x->x.cells[j]?=some c->i*sz+j<xs.length*sz:=by
   intro i x j c hx hc;have hi:i<xs.length:=(ay0.1 hx).1;have hj:j<sz:=by have:=(ay0.1 hc).1;rwa [hsz x (ax4 hx)]at this
   have:(i+1)*sz<=xs.length*sz:=aw8 _ hi;rw[an4]at this;omega
  refine⟨l,⟨by simp[l],λ x hx=>⟨hsz x hx,(h2 x hx).2⟩,λ i x j c hx hc=> ?_⟩,a8U (by simp[l]) λ k u hk=> ?_⟩
  .grind
  .have hk':k<xs.length*sz:=by have:=(ay0.1 hk).1;simpa[l]using this
   have hszp:0<sz:=by grind
   have hi:k/sz<xs.length:=Nat.div_lt_of_lt_mul (by grind);have hj:k % sz<sz:=At5 _ hszp;have hx:xs[k/sz]?=some xs[k/sz]:=az5 hi;have hcl:=hsz _ (au2 hi);obtain⟨y,hy,_⟩:=full _ _ (k % sz) _ hx (az5 (by omega));grind[Nat.div_add_mod]
theorem b4P(s:ByteArray):RowRep M μ 1 (a2F s) (Lib.strCells s):=by
 refine⟨by simp[a2F,Lib.strCells],λ x hx=> ?_,λ i x j c hx hc=> ?_⟩
 .simp only[a2F,ax5]at hx;obtain⟨b,_,rfl⟩:=hx;exact⟨rfl,rfl⟩
 .simp only[a2F,au3,az2]at hx;obtain⟨b,hb,rfl⟩:=hx;cases j with
  |succ j=>simp[V.cells]at hc
  |zero=>simp[V.cells]at hc;subst hc;exact⟨.int .u8 b.toNat,by simp[Lib.strCells,hb],.rep (.lit rfl)⟩
theorem BoxAt.ofRow{b cap ty:Nat}{d:Array Value}{f:Bool}(h:RowRep M μ sz xs l)(hb:w.heap[b]?=some (.cells d ty (0,0)))(k:0<sz)
  (hc:d.size=cap*sz) (m:xs.length<=cap) (e:cap<=maxLen) (p:d.toList.take (xs.length*sz)=l):BoxAt M μ w b cap (.row ty sz xs f):=by
 refine⟨d,hb,k,hc,m,e,h.2.1,λ i x j c hx n=> ?_⟩;obtain⟨u,hu,hr⟩:=h.2.2 i x j c hx n;grind
end
end
section
open Go.RowKit
section
variable {P:Program} {base:Nat} {E:List Nat} {F w:World} {M:Mem} {μ:Pl} {g g':G} {get:Nat->V} {a:Act} {nx:Nat} {call:Calls} {o:Oper} {r:Out}
theorem Inv.sub(hI:Inv base E F M μ g w)(h:∀j x,g' j=some x->g j=some x):Inv base E F M μ g' w:=
 ⟨hI.mem,λ id x hx=>hI.box id x (h id x hx),λ i j b c d ⟨x,hx⟩ ⟨y,hy⟩=>hI.inj i j b c d ⟨x,h i x hx⟩ ⟨y,h j y hy⟩,
  λ id x b cap o u hx=>hI.sep id x b cap o u (h id x hx),hI.os,hI.tape,hI.output,hI.size,hI.frame,hI.gl⟩
theorem Inv.congr(hI:Inv base E F M μ g w)(h:∀j,g' j=g j):Inv base E F M μ g' w:=hI.sub λ j x hx=>by grind
theorem Inv.drew(hI:Inv base E F M μ g w):Inv base E F M μ g w.drew:=hI.drawn _
variable {f:Bool} {l:List Value} {sz:Nat}
theorem Inv.newRow(hI:Inv base E F M μ g w)(hm:μ nx=none){ty cap:Nat}{xs:List V}{b:Array Value}(h:RowRep M μ sz xs l)(e:0<sz)
  (hc:b.size=cap*sz) (i:xs.length<=cap) (c:cap<=maxLen) (d:b.toList.take (xs.length*sz)=l):
  Inv base E F M (μ.set nx (w.heap.size,cap)) (upd [(nx,some (.row ty sz xs f))] g) (w.alloc (.cells b ty)):=
 hI.new hm (.ofRow (h.mono (Mem.le_refl M) (a1I hm)) (a7H w _) e hc i c d)
theorem a6g{i:Nat}{p:Nat×Nat}(h:μ i=none)(hn:i≠nx):μ.set nx p i=none:=by grind[Pl.set]
variable {e:Nat} {z:Value}
theorem c0v{need old:Nat}(hz:z.cells.size=sz)(hl:l.length=need*sz):
  (l.toArray++Builtin.zeroCells z.cells (grownCap w need old e-need)).size=grownCap w need old e*sz:=by
 have:=grownCap_ge w need old e;simp only[Array.size_append,List.size_toArray,size_zeroCells,hz,hl,<-ar2]
 congr 1;omega
variable {zs:List V} {olds:List Value} {B:Option Addr} {d:TypeDesc} {t ty u:Nat} {i:TypeInfo} {X:Value}
theorem b1K(hI:Inv base E F M μ g w)(hm:μ nx=none)(ht:P.underlying t=some (.slice e))(hd:P.underlying u=some d)(hn:a2P d=true)
  (hi:P.info? e=some i) (hz:i.zero=some z) (q:z.cells.size=i.size) (s:0<i.size) (v:i.bytes<=1000)
  {b:Nat} {h:List V} {c:List Value} (ho:a3F P w i.size zs.length (.slice B zs.length b) olds) (hs:a3F P w i.size h.length X c)
  (x:RowRep M μ i.size zs olds) (y:RowRep M μ i.size h c) (m:b<zs.length+h.length) (j:zs.length+h.length<=a2Z) :
  ∃cap,(Builtin.append_ #[t,u] ty #[.slice B zs.length b,X]).run P w= .ok (.slice (some ⟨w.heap.size,0,none⟩) (zs.length+h.length) cap)
    (w.drew.alloc (.cells (olds.toArray++c.toArray++Builtin.zeroCells z.cells (cap-(zs.length+h.length))) e))/\zs.length+h.length<=cap/\
   Inv base E F M (μ.set nx (w.heap.size,cap)) (upd [(nx,some (.row e i.size (zs++h) f))] g) (w.drew.alloc (.cells (olds.toArray++c.toArray++Builtin.zeroCells z.cells (cap-(zs.length+h.length))) e)):=by
 unfold a2Z at j;have n:Builtin.nextslicecap (zs.length+h.length) b*i.bytes<=281474976710656:=by
  refine growslice_fits m ?_;have:=Aw5 j v;omega
 have p:=b7R (P:=P) (w:=w) t u ty e i z d ht hd hn hi hz ho hs m (by omega) n;have A:=grownCap_ge w (zs.length+h.length) b e;have C:grownCap w (zs.length+h.length) b e<=maxLen:=grownCap_le_maxLen w _ _ e (by grind[maxLen]);refine⟨_,p,A,?_⟩;have k:=x.append y;have hl:=k.1;have D:=c0v (w:=w) (e:=e) (old:=b) (need:=zs.length+h.length) (l:=olds++c) q (by grind);refine hI.drew.newRow hm k s ?_ (by grind) C ?_;all_goals grind
theorem b0h(hI:Inv base E F M μ g w)(hm:μ nx=none)(ht:P.underlying t=some (.slice e))(hd:P.underlying u=some d)(hn:a2P d=true)
  (hi:P.info? e=some i) (hz:i.zero=some z) (m:z.cells.size=i.size) (p:0<i.size) (q:i.bytes<=1000)
  {c:List V} {h:List Value} (ho:a3F P w i.size zs.length (.slice B zs.length zs.length) olds) (hs:a3F P w i.size c.length X h)
  (s:RowRep M μ i.size zs olds) (v:RowRep M μ i.size c h) (k:c≠[]) (l:zs.length+c.length<=a2Z):
  ∃x y b,μ.le b/\(Builtin.append_ #[t,u] ty #[.slice B zs.length zs.length,X]).run P w= .ok x y/\RepV M b (.row nx i.size 0 (zs.length+c.length)) x/\
   Inv base E F M b (upd [(nx,some (.row e i.size (zs++c) false))] g) y/\∀j,μ j=none->j≠nx->b j=none:=by
 have A:0<c.length:=by grind
 obtain⟨cap,h1,h2,h3⟩:=b1K (nx:=nx) (f:=false) (ty:=ty) hI hm ht hd hn hi hz m p q ho hs s v (by omega) l;refine⟨_,_,_,a1I hm,h1,?_,h3,λ j hj k=>a6g hj k⟩;have:=RepV.row (M:=M) (μ:=μ.set nx (w.heap.size,cap)) (sz:=i.size) (off:=0) (n:=zs.length+c.length) (id:=nx) a1Y (by omega);simpa using this
theorem b1f(ht:P.underlying t=some (.slice e))(hd:P.underlying u=some d)(hn:a2P d=true)(hi:P.info? e=some i)
  {n c:Nat} (b:n<=c) (hs:a3F P w i.size 0 X []):(Builtin.append_ #[t,u] ty #[.slice B n c,X]).run P w= .ok (.slice B n c) w:=by
 obtain⟨hl,hf⟩:=hs w rfl;cases d<;>first|grind[a2P]|(cases B<;>simp[Builtin.append_,run_underlying ht,run_underlying hd,sizeOf,typeInfo,hi,hl,b,hf,storeCells])
end
end
section
open Go.RowKit
section
variable {P:Program} {base:Nat} {m:List Nat} {q w:World} {M:Mem} {μ:Pl} {g g':G} {get:Nat->V} {a:Act} {nx:Nat} {call:Calls} {o:Oper} {r:Out}
theorem b5g{b cap ty sz:Nat}{xs:List V}{f:Bool}{cur:Array Value}(hb:w.heap[b]?=some (.cells cur ty (0,0)))(h:BoxAt M μ w b cap (.row ty sz xs f)):
  0<sz/\cur.size=cap*sz/\xs.length<=cap/\cap<=maxLen/\RowRep M μ sz xs (cur.toList.take (xs.length*sz)):=by
 obtain⟨cur',h1,h2,h3,h4,h5,h6,h7⟩:=h;rw[hb]at h1;injection h1 with h1;injection h1 with h1
 subst h1;have hle:xs.length*sz<=cap*sz:=aw8 _ h4;refine⟨h2,h3,h4,h5,by rw[au7];exact au8 (by simpa[h3]using hle),h6,λ i x j c hx hc=> ?_⟩;obtain⟨u,hu,hr⟩:=h7 i x j c hx hc;have hi:i<xs.length:=(ay0.1 hx).1;have hj:j<sz:=by have:=(ay0.1 hc).1;rwa [(h6 x (ax4 hx)).1]at this
 have:(i+1)*sz<=xs.length*sz:=aw8 _ hi;rw[an4]at this;exact⟨u,by rw[av1,ax3 (by omega)];simpa using hu,hr⟩
theorem b7j{id:Nat}{x:Box}(b:nx≠id)(j:Nat):upd [(nx,some x),(id,none)] g j=if j=nx then some x else if j=id then none else g j:=by
 by_cases h1:nx=j
 .grind[upd]
 .by_cases h2:id=j;all_goals simp_all[upd,as7]
theorem c1v(hI:Inv base m q M μ g w)(hm:μ nx=none){t u ty e:Nat}{i:TypeInfo}{z:Value}{d:TypeDesc}(ht:P.underlying t=some (.slice e))(hd:P.underlying u=some d)(hn:a2P d=true)
  (hi:P.info? e=some i) (hz:i.zero=some z) (hzs:z.cells.size=i.size) (hby:i.bytes<=1000)
  {id b cap n:Nat} {xs ys:List V} {f:Bool} {news:List Value} {X:Value} (hg:g id=some (.row e i.size xs f)) (hp:μ id=some (b,cap)) (hnx:n<=xs.length) (hf:n<xs.length->f=false)
  (hs:a3F P w i.size ys.length X news) (hyr:RowRep M μ i.size ys news) (hlim:n+ys.length<=a2Z):
  ∃v' w' μ',μ.le μ'/\(Builtin.append_ #[t,u] ty #[.slice (some ⟨b,0,none⟩) n cap,X]).run P w= .ok v' w'/\RepV M μ' (.row nx i.size 0 (n+ys.length)) v'/\
   Inv base m q M μ' (upd [(nx,some (.row e i.size (xs.take n++ys) f)),(id,none)] g) w'/\∀j,μ j=none->j≠nx->μ' j=none:=by
 have hne:nx≠id:=λ h=>by rw[h,hp]at hm;cases hm
 obtain⟨hbox,hbp⟩:=hI.at_ hg hp;obtain⟨cur,hcur⟩:∃cur,w.heap[b]?=some (.cells cur e (0,0)):=by obtain⟨cur,h,_⟩:=hbox;exact⟨cur,h⟩
 obtain⟨hsz,hcs,hxc,hcap,hrow⟩:=b5g hcur hbox;have hle1:n*i.size<=xs.length*i.size:=aw8 _ hnx;have hle2:xs.length*i.size<=cap*i.size:=aw8 _ hxc;have hzr:RowRep M μ i.size (xs.take n) (cur.toList.take (n*i.size)):=by
  have:=hrow.take n hnx
  rwa [List.take_take,au8 hle1]at this
 have hln:(xs.take n).length=n:=by simp;omega
 by_cases hroom:n+ys.length<=cap
 .have hfit:n*i.size+news.length<=cur.size:=by rw[hyr.1,hcs,<-ar2];exact aw8 _ hroom
  have hrun:=b6X (P:=P) (w:=w) t u ty e i d ht hd hn hi hcur hs hyr.oneCell hroom hfit;refine⟨_,_,μ.set nx (b,cap),a1I hm,hrun,?_,?_,λ j hj h=>a6g hj h⟩
  .have:=RepV.row (M:=M) (μ:=μ.set nx (b,cap)) (sz:=i.size) (off:=0) (n:=n+ys.length) (id:=nx) a1Y (by omega);simpa using this
  .have hnew:(w.setRow b (cur.toList.take (n*i.size)++news++cur.toList.drop (n*i.size+news.length)).toArray).heap[b]?=some (.cells (cur.toList.take (n*i.size)++news++cur.toList.drop (n*i.size+news.length)).toArray e (0,0)):=setRow_heap w b cur _ e _ hcur;have hheld:∀o u,M b o=some u->f=true/\o<n*i.size:=by
    intro o u hM;have h1:=hI.sep id _ b cap o u hg hp hM;cases f with
    |false=>simp[Box.held]at h1
    |true=>
     simp only[Box.held]at h1;have:n=xs.length:=by
      rcases as5 n xs.length with h|h
      .have:=hf h;cases this
      .omega
     rw[this];exact⟨rfl,h1⟩
   refine hI.grow (a8J w b _) (a1I hm) (λ b' hb'=> ?_) ?_
   .injection hb' with hb';subst hb'
    refine⟨hbp,λ o u hM=> ?_⟩;obtain⟨_,ho⟩:=hheld o u hM;have h1:=hI.mem _ _ _ hM;rw[a3z hcur]at h1;rw[a3z hnew];have h2:=a6p (l:=cur.toList) (ws:=news) (p:=n*i.size) (k:=o) (by simpa using hfit);rw[ax3 ho]at h2;simp only[List.getElem?_toArray,h2];simpa using h1
   .intro j y hy;rw[b7j hne]at hy;by_cases e1:j=nx
    .subst e1;rw[ax3 rfl]at hy;cases hy;refine .inr ⟨b,cap,a1Y,.ofRow ((hzr.append hyr).mono (Mem.le_refl M) (a1I hm)) hnew hsz (by simp;rw[<-hcs];omega) (by simp[hln];omega) hcap ?_,hbp,λ o u hM=> ?_,λ k c y hk hy hc=> ?_⟩
     .rw[show(xs.take n++ys).length*i.size=(cur.toList.take (n*i.size)++news).length from(hzr.append hyr).1.symm];exact List.take_left
     .obtain⟨rfl,ho⟩:=hheld o u hM;simp only[Box.held,ar0,hln,ar2];omega
     .rw[b7j hne,ay9 hk]at hy;split at hy
      .cases hy
      .next hk'=>
       obtain⟨b',c',h1,_⟩:=hI.box k y hy;have h2:=a1I (p:=(b,cap)) hm _ _ h1;rw[h2]at hc;injection hc with hc;injection hc with hc _
       subst hc;exact hk' (hI.inj k id b' c' cap ⟨y,hy⟩ ⟨_,hg⟩ h1 hp)
    .rw[ay9 e1]at hy;split at hy
     .cases hy
     .next e2=>
      exact .inl ⟨hy,λ b' c hc e'=>e2 (by injection e' with e';subst e';exact hI.inj j id b' c cap ⟨y,hy⟩ ⟨_,hg⟩ hc hp)⟩
 .have hsrc:a3F P w i.size n (.slice (some ⟨b,0,none⟩) n cap) (cur.toList.take (n*i.size)):=
   a8U (by simp;omega) λ j u hj=>by
    rw[a2X,a3z hcur];rw[av1]at hj;split at hj
    .simpa using hj
    .cases hj
  have hsrc':a3F P w i.size (xs.take n).length (.slice (some ⟨b,0,none⟩) (xs.take n).length cap) (cur.toList.take (n*i.size)):=by rw[hln];exact hsrc
  obtain⟨cap',h1,h2,h3⟩:=b1K (nx:=nx) (f:=f) (ty:=ty) hI hm ht hd hn hi hz hzs hsz hby hsrc' hs hzr hyr (by rw[hln];omega) (by rw[hln];exact hlim);rw[hln]at h1 h2 h3;refine⟨_,_,_,a1I hm,h1,?_,h3.sub λ j y hy=> ?_,λ j hj h=>a6g hj h⟩
  .have:=RepV.row (M:=M) (μ:=μ.set nx (w.heap.size,cap')) (sz:=i.size) (off:=0) (n:=n+ys.length) (id:=nx) a1Y (by omega);simpa using this
  .rw[b7j hne]at hy;by_cases e1:j=nx
   .subst e1;rw[ax3 rfl]at hy;simpa[upd]using hy
   .rw[ay9 e1]at hy;split at hy
    .cases hy
    .simpa[upd,as7 e1]using hy
end
end
section
open Go.RowKit
section
variable {P:Program} {base:Nat} {n:List Nat} {p w:World} {M:Mem} {μ:Pl} {g g':G} {get:Nat->V} {a:Act} {nx:Nat} {call:Calls} {o:Oper} {r:Out}
theorem c5H(hI:Inv base n p M μ g w){x:V}{k:Value}{e:List V}{sz:Nat}(hx:RepV M μ x k)
  (h:a4j g x=some e) (f:∀y∈e,y.cells.length=sz):
  ∃d,RowRep M μ sz e d/\a3F P w sz e.length k d:=by
 by_cases hs:∃b,x= .lit (.string b)
 .obtain⟨b,rfl⟩:=hs;cases h;have:=a1z hx;subst this;have i:(a2F b).length=b.size:=by simp[a2F]
  rcases am0 b.size with h0|h0
  .have j:a2F b=[]:=aw6 (by omega);have l:Lib.strCells b=[]:=aw6 (by grind[Lib.strCells_length]);rw[j];have:=a7s (P:=P) (w:=w) (size:=sz) b;grind[RowRep.nil]
  .have h1:sz=1:=by
    cases hb:a2F b with
    |nil=>grind
    |cons y t=>
     have:=f y (by grind);have hy:y∈a2F b:=by rw[hb];simp
     simp only[a2F,ax5]at hy;obtain⟨c,_,rfl⟩:=hy;grind[V.cells]
   subst h1;rw[i];exact⟨_,b4P b,a7s b⟩
 .have m:a4Q g x=some e:=by
   unfold a4j at h;split at h
   .grind
   .exact h
  obtain⟨A,c,rfl,hA,hc⟩:=a6V hI hx m;exact a8P hA f hc
end
end
section
open Go.RowKit
section
variable {P:Program} {base:Nat} {Y:List Nat} {Z w:World} {M:Mem} {μ:Pl} {g g':G} {get:Nat->V} {a:Act} {nx:Nat} {call:Calls} {o:Oper} {r:Out}
theorem b4m(hI:Inv base Y Z M μ g w)(hm:μ nx=none){t u ty:Nat}{x y:V}{N O:Value}(hx:RepV M μ x N)(hy:RepV M μ y O)(h:a0M P g nx t u x y=some r):
  ∃D E k,μ.le k/\(Builtin.append_ #[t,u] ty #[N,O]).run P w= .ok D E/\RepV M k r.v D/\Inv base Y Z M k (upd r.upd g) E/\∀j,μ j=none->(j<nx\/nx+r.cnt<=j)->k j=none:=by
 simp only[a0M,Az0,az3]at h;obtain⟨e,he,i,hi,z,hz,d,hd,Q,H,h⟩:=h;obtain⟨ht,_⟩:=a3R he;split at h
 .cases h
 .next hc=>
  simp only[ay8,ar4,ay2,ap6,not_exists,not_and,au9,ax2,av7]at hc;obtain⟨⟨⟨⟨I,F⟩,R⟩,T⟩,hn⟩:=hc;obtain⟨v,p,hs⟩:=c5H (P:=P) hI hy H (λ y hy=>I y hy);split at h
  .have:=a2T hx;subst this;split at h
   .next l=>
    cases h;have q:Q=[]:=by simpa using l
    subst q;obtain rfl:v=[]:=aw6 (by simpa using p.1);exact⟨_,w,μ,Pl.le_refl μ,b1f ht hd hn hi (ay3 0) (by grind),hx,hI,λ _ h _=>h⟩
   .next l=>
    split at h
    .cases h
    .next m=>
     cases h;obtain⟨D,E,k,h1,h2,h3,h4,h5⟩:=b0h (nx:=nx) (ty:=ty) (B:=none) (zs:=[]) (olds:=[]) hI hm ht hd hn hi hz F (by omega) (by omega) b1X hs RowRep.nil p (by grind) (by grind);exact⟨D,E,k,h1,by grind,by grind,by grind,λ j hj hh=>h5 j hj (by grind)⟩
  .next zs=>
   obtain⟨A,c,G,hA,J⟩:=a6V hI hx (show a4Q g (.slf zs)=some zs from rfl);obtain⟨W,C,_⟩:=a9C hx;rw[G]at C;injection C with e1 e2 e3
   subst e1;subst e3;subst G;split at h
   .next l=>
    cases h;have q:Q=[]:=by simpa using l
    subst q;obtain rfl:v=[]:=aw6 (by simpa using p.1);exact⟨_,w,μ,Pl.le_refl μ,b1f ht hd hn hi (ay3 _) (by grind),hx,hI,λ _ h _=>h⟩
   .next l=>
    split at h
    .cases h
    .next m=>
     cases h;simp only[ay8,ar4,ay2,ap6,not_exists,not_and,au9]at m;obtain⟨olds,K,ho⟩:=a8P (P:=P) hA (λ y hy=>m.1 y hy) J;obtain⟨D,E,k,h1,h2,h3,h4,h5⟩:=b0h (nx:=nx) (ty:=ty) hI hm ht hd hn hi hz F (by omega) (by omega) ho hs K p (by grind) (by omega);grind
  .next id sz off n=>
   split at h
   .next U X xs f hg=>
    split at h
    .cases h
    .next s=>
     cases h;simp only[ay8,az6,ay2,ap6,not_and,au9,aq9,at1]at s;obtain⟨⟨⟨⟨⟨⟨rfl,rfl⟩,rfl⟩,rfl⟩,L⟩,hf⟩,m⟩:=s;obtain⟨b,cap,rfl,hp,S⟩:=b3u hx;obtain⟨D,E,k,h1,h2,h3,h4,h5⟩:=c1v (nx:=nx) (ty:=ty) hI hm ht hd hn hi hz F (by omega) hg hp L hf hs p m;exact⟨D,E,k,h1,by grind,h3,h4,λ j hj hh=>h5 j hj (by grind)⟩
   .cases h
  .cases h
theorem b5H{args:Array Operand}{j:Array Nat}(ho:o.op= .call {callee:= .builtin .append,args:=args,argTypes:=j})(hm:μ nx=none)(hI:Inv base Y Z M μ g w)(hS:Slots M μ get a)(h:opE P call get g nx o=some r):OpOk P base Y Z M μ g w a nx o r:=by
 simp[opE,ho,az3]at h;obtain⟨vs,f,h⟩:=h;obtain⟨h1,h2⟩:=b1m hS f;split at h
 .next x y t u k=>
  have c:j= #[t,u]:=Array.ext' (by grind);obtain⟨d,e,hu⟩:∃d e,(args.map a.eval).toList=[d,e]:=by
   match hl:(args.map a.eval).toList with
   |[p,q]=>grind
   |[]=>rw[hl]at h1;simp at h1
   |[_]=>grind
   |_::_::_::_=>grind
  rw[hu]at h2;have l:=h2 0 x d rfl rfl;have m:=h2 1 y e rfl rfl;obtain⟨n,s,i,k1,k2,k3,k4,k5⟩:=b4m (ty:=o.type) hI hm l m h;obtain⟨cs,hx⟩:=a3s (P:=P) (w:=w) (a:=a) ho;have b:args.map a.eval= #[d,e]:=Array.ext' hu;exact⟨n,s,M,i,rfl,k1,.inl (by rw[hx,b,c];simp[builtin,k2]),k3,k4,k5⟩
 .cases h
end
end
section
open Go.RowKit
section
variable {P:Program} {base:Nat} {b:List Nat} {c w:World} {M:Mem} {μ:Pl} {g g':G} {get:Nat->V} {a:Act} {nx:Nat} {call:Calls} {o:Oper} {r:Out}
theorem b1S{t:Nat}(ho:o.op= .makeMap t none)(hm:μ nx=none)(hI:Inv base b c M μ g w)(h:opE P call get g nx o=some r):OpOk P base b c M μ g w a nx o r:=by
 simp[opE,ho]at h;subst h;refine⟨.map (some w.heap.size),w.alloc (.map #[] 0),M,μ.set nx (w.heap.size,0),rfl,a1I hm,.inl ?_,.map a1Y,hI.new hm ⟨#[],0,a7H w _,rfl,λ i k v m he=>by simp at he⟩,λ i hi hn=> ?_⟩
 .simp[execOp,ho,Instr.makeMap]
 grind[a6g]
end
end
section
open Go.RowKit
section
variable {P:Program} {base:Nat} {s:List Nat} {y w:World} {M:Mem} {μ:Pl} {g g':G} {get:Nat->V} {a:Act} {nx:Nat} {call:Calls} {o:Oper} {r:Out}
theorem b4i{A D:List Value}{v:Value}{p n:Nat}(h:A.length=p):(A++v::D).take (p+1)=A++[v]/\(A++v::D).drop (p+1+n)=D.drop n:=by
 subst h;constructor
 .grind
 .rw[List.drop_append,List.drop_eq_nil_of_le (by omega),show A.length+1+n-A.length=n+1 by omega];rfl
theorem b0f:∀(vs:List Value) (cs:Array Value) (off k:Nat),off+k+vs.length<=cs.size->
  (((vs.zipIdx k).foldl (λ cs (p:Value×Nat)=>cs.setIfInBounds (off+p.2) p.1) cs).toList=cs.toList.take (off+k)++vs++cs.toList.drop (off+k+vs.length))
 |[],cs,off,k,_=>by simp
 |v::vs,cs,off,k,h=>by
  simp only[List.zipIdx_cons,Au2];rw[b0f vs _ off (k+1) (by grind)];have b:off+k<cs.toList.length:=by simp at h|-;omega
  simp only[Array.toList_setIfInBounds,an0];rw[List.set_eq_take_append_cons_drop,ax3 b];have e1:(List.take (off+k) cs.toList).length=off+k:=by simp;simp at b;omega
  grind[b4i,List.drop_drop]
theorem a6d{v:V}{u:Value}(h:RepV M μ v u)(hf:v.fit=true):v.cells.length=u.cells.size:=by
 have:=(h.cells hf).1;simpa using this
theorem b2h{place:Nat->Option (Nat×Nat)}:∀{ps:List (Nat×Nat×V)} {us:List (Nat×Value)} {cs b:List V} {zs:Array Value},
  ps.length=us.length->(∀(j:Nat) (p:Nat×Nat×V) (q:Nat×Value),ps[j]?=some p->us[j]?=some q->place q.1=some (p.1,p.2.1)/\RepV M μ p.2.2 q.2)->
  CellsRep M μ cs zs.toList->fill cs ps=some b->∃c,Instr.fill place zs us=some c/\CellsRep M μ b c.toList
 |[],[],cs,b,zs,_,_,hc,h=>by
  simp[fill]at h;subst h;exact⟨zs,rfl,hc⟩
 |[],_::_,_,_,_,hl,_,_,_=>by simp at hl
 |_::_,[],_,_,_,hl,_,_,_=>by simp at hl
 |(off,size,v)::ps,(i,u)::us,cs,b,zs,hl,hp,hc,h=>by
  simp only[fill]at h;split at h
  .cases h
  .next hn=>
   simp only[ay8,ay2,ap6,au9,aq9,ax2,av7]at hn;obtain⟨⟨h1,h2⟩,h3⟩:=hn;obtain⟨d,hr⟩:=hp 0 _ _ rfl rfl;simp only at d hr;have f:=hr.cells h3;have hs:=a6d hr h3;have l:cs.length=zs.size:=by simpa using hc.1
   simp only[Instr.fill,d];rw[ay9 (by simp;omega)];have k:=hc.set (off:=off) f (by omega);have e:=b0f u.cells.toList zs off 0 (by simp;omega);simp only[ap1]at e;refine b2h (by grind) (λ j p q hj hq=>hp (j+1) p q (by grind) (by grind)) ?_ h;have m:(u.cells.zipIdx.foldl (λ cs (p:Value×Nat)=>cs.setIfInBounds (off+p.2) p.1) zs).toList=zs.toList.take off++u.cells.toList++zs.toList.drop (off+u.cells.toList.length):=by
    rw[<-e,<-Az6];simp
   grind
theorem c1k{fs:Array Field}{pl:List (Nat×Nat)}(h:a0D (fun(f:Field)=>(a1M P f.type).map λ n=>(f.offset,n)) fs.toList=some pl)(w:World):
  (fs.mapM (m:=Sem) λ f=>Functor.map (Prod.mk f.offset) (sizeOf f.type)).run P w= .ok pl.toArray w:=by
 rw[At2];have key:∀(l:List Field) (r:List (Nat×Nat)),a0D (fun(f:Field)=>(a1M P f.type).map λ n=>(f.offset,n)) l=some r->
   (l.mapM (m:=Sem) λ f=>Functor.map (Prod.mk f.offset) (sizeOf f.type)).run P w= .ok r w:=by
  intro l;induction l with
  |nil=>simp_all[a0D]
  |cons f l ih=>
   intro r h;simp only[a0D]at h;cases hs:a1M P f.type with
   |none=>grind
   |some n=>
    simp only[hs,ax0]at h;cases hl:a0D (fun(f:Field)=>(a1M P f.type).map λ n=>(f.offset,n)) l with
    |none=>grind
    |some b=>simp_all[a2n]
 simp_all
theorem b9C{t:Nat}{parts:Array (Nat×Operand)}(ho:o.op= .build t parts)(hI:Inv base s y M μ g w)(hS:Slots M μ get a)(h:opE P call get g nx o=some r):OpOk P base s y M μ g w a nx o r:=by
 simp only[opE,ho,Az0,az3]at h;obtain⟨z,hz,h⟩:=h;split at h
 .next fs c=>
  simp only[az3]at h;obtain⟨pl,d,ps,e,cs,f,h⟩:=h;cases h;obtain⟨i,v,hi,hv,b⟩:=a4I hz;have hr:RepV M μ z v:= .rep (a3V b);have hc:=hr.cells (a5y b);obtain⟨h1,h2⟩:=a2p e;obtain⟨l,e1,e2⟩:=b2h (us:=(parts.map fun(i,x)=>(i,a.eval x)).toList) (place:=(pl.toArray[·]?)) (by simp[h1]) (λ j p q hj hq=>by
   simp only[Au1,au3,az2]at hq;obtain⟨⟨k,x⟩,hk,rfl⟩:=hq;grind[a3b,a0A]) hc f
  refine OpOk.same hI (u:= .agg l) ?_ ?_
  .simp at e1;simp[execOp,ho,Instr.build,a7j hi hv,run_underlying c,c1k d,e1,Result.andThen]
  .have:=CellsRep.agg e2;simpa using this
 .cases h
end
end
section
open Go.RowKit
section
variable {P:Program} {base:Nat} {F:List Nat} {H w:World} {M:Mem} {μ:Pl} {g g':G} {get:Nat->V} {a:Act} {nx:Nat} {call:Calls} {o:Oper} {r:Out}
theorem b9s{z:V}{v:Value}{sz n:Nat}(h:RepV M μ z v)(hf:z.fit=true)(hz:z.cells.length=sz)(h0:0<sz):
  RowRep M μ sz (List.replicate n z) ((Array.range (n*sz)).map λ i=>v.cells[i % v.cells.size]!).toList:=by
 have hc:=h.cells hf;have hs:v.cells.size=sz:=by rw[<-hz];exact(a6d h hf).symm
 refine⟨by simp,λ x hx=> ?_,λ i x j c hx hj=> ?_⟩
 .grind
 .have hi:i<n:=by
   have:=(ay0.1 hx).1;simpa using this
  have d:x=z:=by
   rw[List.getElem?_replicate,ax3 hi]at hx;injection hx with hx;exact hx.symm
  subst d;have e:j<sz:=by rw[<-hz];exact(ay0.1 hj).1
  have f:i*sz+j<n*sz:=by
   have:=aw8 sz (show i+1<=n from hi);rw[ar2]at this;omega
  have b:(i*sz+j) % sz=j:=by rw[am2,Nat.mul_add_mod];exact Nat.mod_eq_of_lt e
  refine⟨v.cells[j]'(by omega),?_,?_⟩
  .simp only[Au1,au3,Array.toList_range,ao6 f,ax0,hs,b];grind
  .refine hc.2.2 j c _ hj ?_;grind
theorem RowRep.set{sz:Nat}{xs:List V}{l:List Value}{i:Nat}{v:V}{u:Value}(h:RowRep M μ sz xs l)(hv:RepV M μ v u)(hf:v.fit=true)(hs:v.cells.length=sz)(hi:i<xs.length):
  RowRep M μ sz (xs.set i v) (l.take (i*sz)++u.cells.toList++l.drop (i*sz+u.cells.toList.length)):=by
 have d:u.cells.toList.length=sz:=by have:=a6d hv hf;simp;omega
 have m:i*sz+u.cells.toList.length<=l.length:=by
  rw[h.1,d];have:=aw8 sz (show i+1<=xs.length from hi);rw[ar2]at this;omega
 refine⟨?_,λ x hx=> ?_,λ k x j c hx hj=> ?_⟩
 .simp only[ar0,au7,as8,List.length_set];rw[<-h.1];omega
 .rcases Ax2 hx with hx|rfl
  .exact h.2.1 x hx
  .grind
 .rw[a6p m,d];by_cases e:i=k
  .subst e;have:x=v:=by
    rw[Ay4 hi]at hx;injection hx with hx;exact hx.symm
   subst this;have n:j<sz:=by rw[<-hs];exact(ay0.1 hj).1
   rw[ay9 (by omega),ax3 (by omega),show i*sz+j-i*sz=j by omega];have hc:=hv.cells hf;have b:j<u.cells.toList.length:=by omega
   exact⟨_,az5 b,hc.2.2 j c _ hj (az5 b)⟩
  .have f:xs[k]?=some x:=by rw[Aw4 e]at hx;exact hx
   obtain⟨s,p,hr⟩:=h.2.2 k x j c f hj;have n:j<sz:=by rw[<-(h.2.1 x (ax4 f)).1];exact(ay0.1 hj).1
   refine⟨s,?_,hr⟩;rcases Nat.lt_or_gt_of_ne e with b|q
   .have:=aw8 sz (show i+1<=k from b);rw[ar2]at this;rw[ay9 (by omega),ay9 (by omega)];exact p
   .have:=aw8 sz (show k+1<=i from q);grind
theorem a8L{sz:Nat}:∀{ps:List (Nat×V)} {us:List (Nat×Value)} {xs b:List V} {zs:Array Value},
  ps.length=us.length->(∀(j:Nat) (p:Nat×V) (q:Nat×Value),ps[j]?=some p->us[j]?=some q->q.1=p.1/\RepV M μ p.2 q.2)->
  RowRep M μ sz xs zs.toList->a1H xs sz ps=some b->b.length=xs.length/\∃d,Instr.fill (λ i=>some (i*sz,sz)) zs us=some d/\RowRep M μ sz b d.toList
 |[],[],xs,b,zs,_,_,hc,h=>by
  simp[a1H]at h;subst h;exact⟨rfl,zs,rfl,hc⟩
 |[],_::_,_,_,_,hl,_,_,_=>by simp at hl
 |_::_,[],_,_,_,hl,_,_,_=>by simp at hl
 |(i,v)::ps,(c,u)::us,xs,b,zs,hl,hp,hc,h=>by
  simp only[a1H]at h;split at h
  .next hn=>
   obtain⟨h1,h2,h3⟩:=hn;obtain⟨f,hr⟩:=hp 0 _ _ rfl rfl;simp only at f hr;subst f;have hs:=a6d hr h3;have l:zs.size=xs.length*sz:=by simpa using hc.1
   have m:c*sz+sz<=zs.size:=by
    rw[l];have:=aw8 sz (show c+1<=xs.length from h2);rw[ar2]at this;omega
   simp only[Instr.fill];rw[ay9 (by simp;omega)];have k:=hc.set hr h3 h1 h2;have e:=b0f u.cells.toList zs (c*sz) 0 (by simp;omega);simp only[ap1]at e;have n:(u.cells.zipIdx.foldl (λ cs (p:Value×Nat)=>cs.setIfInBounds (c*sz+p.2) p.1) zs).toList=zs.toList.take (c*sz)++u.cells.toList++zs.toList.drop (c*sz+u.cells.toList.length):=by
    rw[<-e,<-Az6];simp
   obtain⟨k1,k2⟩:=a8L (by simpa using hl) (λ j p q hj hq=>hp (j+1) p q (by grind) (by grind)) (by rw[n];exact k) h;exact⟨by grind,k2⟩
  .cases h
theorem a7J{t:Nat}{n:Nat}{parts:Array (Nat×Operand)}(ho:o.op= .buildSlice t n parts)(hm:μ nx=none)(hI:Inv base F H M μ g w)(hS:Slots M μ get a)(h:opE P call get g nx o=some r):OpOk P base F H M μ g w a nx o r:=by
 simp only[opE,ho,Az0,az3]at h;obtain⟨e,he,z,hz,sz,d,h⟩:=h;obtain⟨ht,_⟩:=a3R he;split at h
 .cases h
 .next hn=>
  simp only[ay8,ay2,ap6,aq9,au9]at hn;obtain⟨⟨h0,b⟩,u⟩:=hn;simp only[az3]at h;obtain⟨vs,y,xs,A,h⟩:=h;cases h;obtain⟨i,v,hi,hv,f⟩:=a4I hz;have hr:RepV M μ z v:= .rep (a3V f);obtain⟨h1,h2⟩:=a2p y;have l:=b9s (n:=n) hr (a5y f) u (by omega);obtain⟨k0,m,k1,k2⟩:=a8L (us:=(parts.map fun(i,x)=>(i,a.eval x)).toList) (by simp[h1]) (λ j p q hj hq=>by
   simp only[Au1,au3,az2]at hq;obtain⟨⟨k,x⟩,hk,rfl⟩:=hq;have:=h2 j _ _ hk hj;simp only[a3a,az2]at this;obtain⟨E,B,rfl⟩:=this;exact⟨rfl,a0A hS B⟩) l A
  have C:xs.length=n:=by simpa using k0
  have c:m.size=n*sz:=by have:=k2.1;simp at this;grind
  refine⟨.slice (some ⟨w.heap.size,0,none⟩) n n,w.alloc (.cells m e),M,μ.set nx (w.heap.size,n),rfl,a1I hm,.inl ?_,?_,?_,λ i hi hh=>a6g hi (by grind)⟩
  .have D:¬(n*sz>2^24):=by simpa using b
   by_cases s:n*sz=0
   .have:n=0:=by rcases Nat.mul_eq_zero.1 s with h|h;exact h;omega
    subst this;simp only[Nat.zero_mul]at k1;simp[execOp,ho,Instr.buildSlice,run_underlying ht,a2n d,newRow,Result.andThen];simp at k1;simp only[show Array.range 0= #[]from rfl,List.map_toArray,ar8]at k1|-;simp_all
   .simp[execOp,ho,Instr.buildSlice,run_underlying ht,a2n d,a7j hi hv,newRow,Result.andThen,s,aq9.2 b];simp_all
  .have:=RepV.row (M:=M) (μ:=μ.set nx (w.heap.size,n)) (sz:=sz) (off:=0) (n:=n) (id:=nx) a1Y (by omega);simpa using this
  .refine hI.newRow hm k2 (by omega) c (by omega) (by unfold maxLen;have:=Nat.mul_le_mul_left n (show 1<=sz by omega);omega) ?_;grind[List.take_of_length_le]
end
end
section
open Go.RowKit
theorem a1r{P:Program}{b c:Type}{f:b->Sem c}:∀(s:Sem b),a0c P (s>>=f)=(a0c P s).bind λ a=>a0c P (f a)
 | .pure a=>rfl
 | .program k=>by
   show a0c P (Sem.bind (.program k) f)=_;simp only[Sem.bind,a0c];exact a1r (k P)
 | .mark m k=>by
   show a0c P (Sem.bind (.mark m k) f)=_;simp only[Sem.bind,a0c];exact a1r k
 | .load .. | .store .. | .new .. | .shape .. | .freeze .. | .frozen .. | .getObj .. | .setObj .. | .choose .. | .sys .. | .halt .. =>rfl
def SameKeys(ps ms:List MapEntry):Prop:=ps.length=ms.length/\∀(i:Nat) (p m:MapEntry),ps[i]?=some p->ms[i]?=some m->p.key=m.key
def SameFind(ms:List MapEntry)(i:Nat)(r b:Option (Nat×Value)):Prop:=
 match r,b with
 |none,none=>True
 |some (j,_),some (c,v)=>j=c/\i<=j/\∃m,ms[j-i]?=some m/\m.val=v
 |_,_=>False
variable {ms ps:List MapEntry} {m:MapEntry}
theorem SameKeys.tail{p:MapEntry}(h:SameKeys (p::ps) (m::ms)):p.key=m.key/\SameKeys ps ms:=
 ⟨h.2 0 p m rfl rfl,by simpa using h.1,λ i a b ha hb=>h.2 (i+1) a b (by grind) (by grind)⟩
variable {r:Option (Nat×Value)}
theorem SameFind.cons{i:Nat}{b:Option (Nat×Value)}(h:SameFind ms (i+1) r b):SameFind (m::ms) i r b:=by
 unfold SameFind at*;grind
theorem a8Y{d:TypeDesc}{k:Value}:∀{ps ms:List MapEntry} {i:Nat},SameKeys ps ms->
  match Instr.findNow d k ps i with
  |none=>Instr.findNow d k ms i=none
  |some r=>∃c,Instr.findNow d k ms i=some c/\SameFind ms i r c
 |[],[],i,_=>⟨none,rfl,av5⟩
 |[],_::_,_,h=>by simp[SameKeys]at h
 |_::_,[],_,h=>by simp[SameKeys]at h
 |p::ps,m::ms,i,h=>by
  obtain⟨hk,ht⟩:=h.tail;simp only[Instr.findNow,hk];cases hs:Instr.sameNow d k m.key with
  |none=>simp
  |some b=>
   cases b with
   |true=>exact⟨_,rfl,rfl,ay3 i,m,by simp,rfl⟩
   |false=>
    have:=a8Y (d:=d) (k:=k) (i:=i+1) ht;revert this;cases Instr.findNow d k ps (i+1)with
    |none=>grind
    |some r=>exact fun⟨c,h1,h2⟩=>⟨c,h1,h2.cons⟩
theorem a5T{P:Program}{kt:Nat}{k:Value}:∀{ps ms:List MapEntry} {i:Nat} {r:Option (Nat×Value)},SameKeys ps ms->a0c P (Instr.findAsking kt k ps i)=some r->
  ∃c,(∀w,(Instr.findAsking kt k ms i).run P w= .ok c w)/\SameFind ms i r c
 |[],[],i,r,_,h=>by
  simp[Instr.findAsking]at h;have:r=none:=by injection h with h;exact h.symm
  subst this;exact⟨none,λ w=>rfl,av5⟩
 |[],_::_,_,_,h,_=>by simp[SameKeys]at h
 |_::_,[],_,_,h,_=>by simp[SameKeys]at h
 |p::ps,m::ms,i,r,h,hr=>by
  obtain⟨hk,ht⟩:=h.tail;unfold Instr.findAsking at hr|-;rw[a1r]at hr;rw[hk]at hr;cases he:a0c P (Op.equal kt k m.key)with
  |none=>grind
  |some b=>
   simp only[he,az1]at hr;cases b with
   |true=>
    simp only[aw4]at hr;have:r=some (i,p.val):=by
     have:some (some (i,p.val))=some r:=hr;injection this with this;exact this.symm
    subst this;exact⟨some (i,m.val),λ w=>by simp_all[a1T],rfl,ay3 i,m,by simp,rfl⟩
   |false=>simp only[ay6,av8]at hr;obtain⟨c,h1,h2⟩:=a5T (i:=i+1) ht hr;exact⟨c,λ w=>by simp_all[a1T],h2.cons⟩
theorem b5i{P:Program}{kt:Nat}{k:Value}(hs:SameKeys ps ms)(h:a0c P (Instr.findKey kt k ps)=some r):
  ∃b,(∀w,(Instr.findKey kt k ms).run P w= .ok b w)/\SameFind ms 0 r b:=by
 unfold Instr.findKey at h|-;rw[a1r]at h;cases hu:a0c P (underlying kt)with
 |none=>grind
 |some d=>
  simp only[hu,az1]at h;have hn:=a8Y (d:=d) (k:=k) (i:=0) hs;split at hn
  .next he=>
   simp only[he]at h;obtain⟨b,h1,h2⟩:=a5T hs h;simp_all[a1T]
  .next r0 he=>
   obtain⟨b,h1,h2⟩:=hn;simp only[he]at h;have:r=r0:=by
    have:some r0=some r:=h;injection this with this;exact this.symm
   simp_all[a1T]
section
variable {P:Program} {base:Nat} {Q:List Nat} {R w:World} {M:Mem} {μ:Pl} {g g':G} {get:Nat->V} {a:Act} {nx:Nat} {call:Calls} {o:Oper} {r:Out}
theorem a7q{es:List (V×V)}{ms:Array MapEntry}{e:Bool}{kt:TypeId}{k:Value}{q:Option Nat}(hl:es.length=ms.size)
  (hk:∀(i:Nat) (x v:V) (m:MapEntry),es[i]?=some (x,v)->ms[i]?=some m->a0W x=some m.key) (h:findKey P e kt k es=some q):
  (∀w,(Instr.checkKey e 10000 kt k).run P w= .ok () w)/\∃r,(∀w,(Instr.findKey kt k ms.toList).run P w= .ok r w)/\
   match q,r with
   |none,none=>True
   |some i,some (j,v)=>i=j/\∃m,ms[i]?=some m/\m.val=v
   |_,_=>False:=by
 unfold findKey at h;split at h
 .next ps x c hc=>
  cases hf:a0c P (Instr.findKey kt k ps)with
  |none=>simp[hf]at h
  |some r=>
   simp only[hf,Option.map_some]at h;injection h with h
   obtain⟨d,f⟩:=a2p c;have b:SameKeys ps ms.toList:=by
    refine⟨by rw[d,hl];simp,λ i p m hp hm=> ?_⟩;have hi:i<es.length:=by rw[<-d];exact(List.getElem?_eq_some_iff.1 hp).1
    have:=f i es[i] p (At6 hi) hp;simp only[b3G,Option.map_eq_some_iff]at this;obtain⟨u,hu,rfl⟩:=this;have:=hk i es[i].1 es[i].2 m (At6 hi) (by simpa using hm);rw[hu]at this;injection this
   obtain⟨l,h1,h2⟩:=b5i b hf;refine⟨a1T hc,l,h1,?_⟩;subst h;unfold SameFind at h2;split at h2
   .trivial
   .obtain⟨e1,_,m,e2,e3⟩:=h2;exact⟨e1,m,by simpa[e1]using e2,e3⟩
   .exact h2.elim
 .cases h
variable {b cap id:Nat}
theorem c9t{u:Value}(h:RepV M μ (.map id) u)(hp:μ id=some (b,cap)):u= .map (some b):=by
 cases h with
 |rep h=>cases h
 |map h=>grind
variable {k m:Operand} {t:Nat}
theorem b5f{ok:Bool}(ho:o.op= .lookup t m k ok)(hI:Inv base Q R M μ g w)(hS:Slots M μ get a)(h:opE P call get g nx o=some r):OpOk P base Q R M μ g w a nx o r:=by
 simp only[opE,ho,Az0,az3]at h;obtain⟨N,y,h⟩:=h;split at h
 .next kt et id hu=>
  split at h
  .next es hg=>
   simp only[az3]at h;obtain⟨O,A,ku,B,q,hq,⟨v,b⟩,d,h⟩:=h;cases h;have C:=a0A hS y;have l:=a1X B (a0A hS A);obtain⟨b0,cap,n⟩:=hI.pl hg;obtain⟨⟨ms,cl,hb,hl,f⟩,_⟩:=hI.at_ hg n;have s:a.eval m= .map (some b0):=c9t C n;have hz:es.isEmpty=ms.isEmpty:=by
    cases es<;>simp_all
    .grind
    .grind
   obtain⟨hc,K,hf,D⟩:=a7q hl (λ i x v m h1 h2=>(f i x v m h1 h2).2.2.2) hq;rw[hz]at hc;cases q with
   |none=>
    cases K with
    |some p=>grind
    |none=>
     simp only[az2]at d;obtain⟨z,E,e⟩:=d;injection e with e1 e2;subst e1;subst e2
     obtain⟨i,v,hi,hv,F⟩:=a4I E;refine OpOk.same hI (u:=if ok then .tuple #[v,.bool false]else v) ?_ ?_
     .cases ok<;>simp[execOp,ho,Instr.lookup,run_underlying hu,s,MapKept.run_getObj_map hb,l,hc,hf,a7j hi hv,Result.andThen]
     .have G:RepV M μ z v:= .rep (a3V F);cases ok with
      |false=>exact G
      |true=>exact .tup rfl (λ j c u hc hu=>by
        match j with
        |0=>grind
        |1=>simp at hc hu;subst hc;subst hu;exact .rep (.lit rfl)
        |j+2=>simp at hc)
   |some i=>
    cases K with
    |none=>grind
    |some p=>
     obtain⟨j,L⟩:=p;obtain⟨rfl,mm,H,I⟩:=D;simp only[az2]at d;obtain⟨⟨x,v⟩,J,e⟩:=d;injection e with e1 e2;subst e1;subst e2
     obtain⟨_,hv,_,_⟩:=f i x v mm J H;rw[I]at hv;refine OpOk.same hI (u:=if ok then .tuple #[L,.bool true]else L) ?_ ?_
     .cases ok<;>simp[execOp,ho,Instr.lookup,run_underlying hu,s,MapKept.run_getObj_map hb,l,hc,hf,Result.andThen]
     .cases ok with
      |false=>exact hv
      |true=>exact .tup rfl (λ j c u hc hu=>by
        match j with
        |0=>grind
        |1=>simp at hc hu;subst hc;subst hu;exact .rep (.lit rfl)
        |j+2=>simp at hc)
  .cases h
 .cases h
theorem b5x(w:World)(b:Nat)(ob:Obj):w.grownBy {w with heap:=w.heap.setIfInBounds b ob} (some b):=
 ⟨rfl,rfl,rfl,by simp,λ k _ hk=>by
  grind⟩
theorem Inv.putMap(hI:Inv base Q R M μ g w){x k:Box}{ob:Obj}(hg:g id=some x)(hm:μ id=some (b,cap))(h0:x.held=0)
  (hx:BoxAt M μ {w with heap:=w.heap.setIfInBounds b ob} b cap k):Inv base Q R M μ (upd [(id,some k)] g) {w with heap:=w.heap.setIfInBounds b ob}:=by
 obtain⟨_,hb⟩:=hI.at_ hg hm;have d:∀o u,M b o≠some u:=λ o u hM=>by have:=hI.sep id x b cap o u hg hm hM;omega
 refine hI.grow (b5x w b ob) (Pl.le_refl μ) (λ b' f=> ?_) ?_
 .injection f with f;subst f
  exact⟨hb,λ o u hM=>absurd hM (d o u)⟩
 .intro j y hy;by_cases e:id=j
  .subst e;have:y=k:=by simpa[upd]using hy.symm
   subst this;refine .inr ⟨b,cap,hm,hx,hb,λ o u hM=>absurd hM (d o u),λ i c z hi hz hc=> ?_⟩;have l:g i=some z:=by simpa[upd,hi,as7 hi]using hz
   exact hi (hI.inj i id b c cap ⟨z,l⟩ ⟨x,hg⟩ hc hm)
  .have h:g j=some y:=by simpa[upd,e]using hy
   exact .inl ⟨h,λ b' c hc m=>e (by injection m with m;subst m;exact hI.inj id j b' cap c ⟨x,hg⟩ ⟨y,h⟩ hm hc)⟩
theorem a4u{x:Operand}(ho:o.op= .mapUpdate t m k x\/o.op= .insert t m k x)(hI:Inv base Q R M μ g w)(hS:Slots M μ get a)(h:opE P call get g nx o=some r):OpOk P base Q R M μ g w a nx o r:=by
 have he:(execOp a.eval o).run P w=((Instr.mapUpdate t (a.eval m) (a.eval k) (a.eval x)).run P w).andThen λ _ w'=> .ok .skip w':=by
  rcases ho with ho|ho<;>simp[execOp,ho]
 have h':∃vm kt et id es vk ku vx q,ev get m=some vm/\P.underlying t=some (.map kt et)/\vm= .map id/\g id=some (.map es)/\ev get k=some vk/\a0W vk=some ku/\ev get x=some vx/\a0r vx=true/\
   findKey P false kt ku es=some q/\match q with
    |some i=>d1S es i ku=true/\r={v:= .und,upd:=[(id,some (.map (es.set i (vk,vx))))]}
    |none=>r={v:= .und,upd:=[(id,some (.map (es++[(vk,vx)])))]}:=by
  rcases ho with ho|ho;all_goals
   simp only[opE,ho,Az0,az3]at h;obtain⟨vm,hvm,h⟩:=h;split at h
   .next kt et id hu=>
    split at h
    .next es hg=>
     simp only[az3]at h;obtain⟨vk,hvk,ku,hku,vx,hvx,h⟩:=h;split at h
     .cases h
     .next hcell=>
      simp only[az3]at h;obtain⟨q,hq,h⟩:=h;refine⟨_,kt,et,id,es,vk,ku,vx,q,hvm,hu,rfl,hg,hvk,hku,hvx,by simpa using hcell,hq,?_⟩;cases q with
      |none=>injection h with h;exact h.symm
      |some i=>
       simp only at h;split at h
       .next hst=>injection h with h;exact⟨hst,h.symm⟩
       .cases h
    .cases h
   .cases h
 obtain⟨vm,kt,et,id,es,vk,ku,vx,q,hvm,hu,rfl,hg,hvk,hku,hvx,hcell,hq,hr⟩:=h';have hrm:=a0A hS hvm;have hrk:=a1X hku (a0A hS hvk);have hkk:RepV M μ vk ku:=by have:=a0A hS hvk;rwa [hrk]at this
 obtain⟨b0,cap,hpl⟩:=hI.pl hg;obtain⟨⟨ms,cl,hb,hl,hall⟩,_⟩:=hI.at_ hg hpl;have hu':a.eval m= .map (some b0):=c9t hrm hpl;obtain⟨hc,r',hf,hr'⟩:=a7q hl (λ i x v m h1 h2=>(hall i x v m h1 h2).2.2.2) hq;have hlt:b0<w.heap.size:=a6k hb;have hnew:∀ob,({w with heap:=w.heap.setIfInBounds b0 ob}:World).heap[b0]?=some ob:=λ ob=>by
  show(w.heap.setIfInBounds b0 ob)[b0]?=_;rw[Array.getElem?_setIfInBounds_self_of_lt hlt]
 cases q with
 |none=>
  cases r' with
  |some p=>exact hr'.elim
  |none=>
   simp only at hr;subst hr;refine⟨undef,{w with heap:=w.heap.setIfInBounds b0 (.map (ms.push {key:=ku,val:=a.eval x,born:=cl}) (cl+1))},M,μ,rfl,Pl.le_refl μ,.inr ⟨?_,rfl⟩,.und,hI.putMap hg hpl rfl ?_,λ i hi _=>hi⟩
   .rw[he];simp[Instr.mapUpdate,run_underlying hu,hu',MapKept.run_getObj_map hb,MapKept.run_setObj_map _ hb,hrk,hc,hf,Result.andThen]
   .refine⟨_,_,hnew _,by simp[hl],λ i x' v' m' h1 h2=> ?_⟩;by_cases hi:i<es.length
    .rw[aw1 hi]at h1;rw[Array.getElem?_push,ay9 (by omega)]at h2;exact hall i x' v' m' h1 h2
    .have hie:i=es.length:=by
      have:=(ay0.1 h1).1;simp at this;omega
     subst hie;rw[Array.getElem?_push,ax3 hl]at h2;cases h2;simp at h1;obtain⟨rfl,rfl⟩:=h1;exact⟨hkk,a0A hS hvx,hcell,hku⟩
 |some i=>
  cases r' with
  |none=>exact hr'.elim
  |some p=>
   obtain⟨j,v'⟩:=p;obtain⟨rfl,mm,hm1,hm2⟩:=hr';simp only at hr;obtain⟨hst,rfl⟩:=hr;have hi:i<es.length:=by rw[hl];exact(as3.1 hm1).1
   have hsb:Instr.sameBits 10000 mm.key ku=true:=by
    unfold d1S at hst;rw[az5 hi]at hst;have:=(hall i es[i].1 es[i].2 mm (az5 hi) hm1).2.2.2;simp only[az1,this]at hst;exact hst
   refine⟨undef,{w with heap:=w.heap.setIfInBounds b0 (.map (ms.modify i λ e=>{e with key:=ku,val:=a.eval x}) cl)},M,μ,rfl,Pl.le_refl μ,.inr ⟨?_,rfl⟩,.und,hI.putMap hg hpl rfl ?_,λ i hi _=>hi⟩
   .rw[he];simp[Instr.mapUpdate,run_underlying hu,hu',MapKept.run_getObj_map hb,MapKept.run_setObj_map _ hb,hrk,hc,hf,hm1,Instr.keyThatStays,hsb,Result.andThen]
   .refine⟨_,_,hnew _,by simp[hl],λ j x' v' m' h1 h2=> ?_⟩;rw[Array.getElem?_modify]at h2;by_cases e:i=j
    .subst e;rw[ax3 rfl,hm1]at h2;simp at h2;subst h2;rw[Ay4 hi]at h1;injection h1 with h1;injection h1 with e1 e2;subst e1;subst e2
     exact⟨hkk,a0A hS hvx,hcell,hku⟩
    .rw[ay9 e]at h2;rw[Aw4 e]at h1;exact hall j x' v' m' h1 h2
theorem a8K{l c:Operand}(ho:o.op= .makeSlice t l c)(hm:μ nx=none)(hI:Inv base Q R M μ g w)(hS:Slots M μ get a)(h:opE P call get g nx o=some r):OpOk P base Q R M μ g w a nx o r:=by
 simp only[opE,ho,Az0,az3]at h;obtain⟨e,he,F,B,n,hn,G,C,m,p,i,hi,z,hz,sz,q,h⟩:=h;obtain⟨ht,_⟩:=a3R he;split at h
 .cases h
 .next j=>
  simp only[ay8,ay2,ap6,aq9,au9]at j;obtain⟨⟨⟨⟨h1,h2⟩,h3⟩,h4⟩,h5⟩:=j;cases h;obtain⟨k1,e1⟩:=a4W hn (a0A hS B);obtain⟨k2,e2⟩:=a4W p (a0A hS C);obtain⟨H,v,hi',hv,s⟩:=a4I hz;rw[hi]at hi';injection hi' with hi';subst hi'
  have hr:RepV M μ z v:= .rep (a3V s);have u:=b9s (n:=m) hr (a5y s) h5 (by omega);have hs:i.size=sz:=by
   have:=q;simp[a1M,hi]at this;exact this
  have D:IntKind.i64.wrap (n:Int)=n:=by rw[IntKind.wrap_i64];omega
  have E:IntKind.i64.wrap (m:Int)=m:=by rw[IntKind.wrap_i64];omega
  have hb:¬((i.bytes:Int)*(m:Int)>2^48):=by
   have:i.bytes*m<=1000*1000000:=Aw5 h3 h2;omega
  have x:∀w,(typeInfo e).run P w= .ok i w:=λ w=>by simp[typeInfo,hi]
  have k:=a2n q;refine⟨.slice (some ⟨w.heap.size,0,none⟩) n m,w.alloc (.cells ((Array.range (m*sz)).map λ i=>v.cells[i % v.cells.size]!) e),M,μ.set nx (w.heap.size,m),rfl,a1I hm,.inl ?_,?_,?_,λ i hi hh=>a6g hi (by simp at hh;omega)⟩
  .have y:¬((i.bytes:Int)*(m:Int)>281474976710656):=by simpa using hb
   have b:∀w,(askRoom (m*i.bytes)).run P w= .ok () w:=λ w=>by
    unfold askRoom;split<;>rfl
   have d:¬(((m:Int)<0\/(n:Int)<0)\/m<n):=by omega
   by_cases A:m*sz=0
   .simp[execOp,ho,Instr.makeSlice,run_underlying ht,e1,e2,asInt,asIntOf,x,k,D,E,y,newRow,Result.andThen,b,A];rw[ay9 d];simp[show Array.range 0= #[]from rfl]
   .simp[execOp,ho,Instr.makeSlice,run_underlying ht,e1,e2,asInt,asIntOf,x,k,a7j hi hv,D,E,y,newRow,Result.andThen,b,A];rw[ay9 d]
  .have:=RepV.row (M:=M) (μ:=μ.set nx (w.heap.size,m)) (sz:=sz) (off:=0) (n:=n) (id:=nx) a1Y (by omega);simpa using this
  .have f:=u.take n (by simp;omega);rw[List.take_replicate,au8 h1]at f;exact hI.newRow (cap:=m) hm f (by omega) (by simp) (by simp;omega) (by unfold maxLen;omega) (by simp)
end
end
section
open Go.RowKit
theorem T.get_put:∀(d:Nat) (t:T) (i j:Nat) (v:V),i<2^d->j<2^d->T.get d (T.put d t i v) j=if j=i then v else T.get d t j
 |0,t,i,j,v,hi,hj=>by
  grind[T.put,T.get]
 |d+1,t,i,j,v,hi,hj=>by
  have b:i/2<2^d:=by rw[Av6]at hi;omega
  have c:j/2<2^d:=by rw[Av6]at hj;omega
  have e:j=i↔j % 2=i % 2/\j/2=i/2:=by omega
  have hl:∀k,T.get d .leaf k= .und:=λ k=>by cases d<;>rfl
  have hn:∀l r,T.get (d+1) (.node l r) j=if j % 2=0 then T.get d l (j/2)else T.get d r (j/2):=λ l r=>rfl
  have key:∀l r,T.get (d+1) (if i % 2=0 then .node (T.put d l (i/2) v) r else .node l (T.put d r (i/2) v)) j=if j=i then v else(if j % 2=0 then T.get d l (j/2)else T.get d r (j/2)):=by
   intro l r;by_cases h:i % 2=0
   .rw[ax3 h,hn,T.get_put d l (i/2) (j/2) v b c];grind
   .rw[ay9 h,hn,T.get_put d r (i/2) (j/2) v b c];grind
  cases t with
  |node l r=>exact key l r
  |leaf=>have:=key .leaf .leaf;simp only[hl,ite_self]at this;exact this
  |one x=>have:=key .leaf .leaf;simp only[hl,ite_self]at this;exact this
theorem St.get_put{s:St}{i j:Nat}{v:V}(hs:s.sz<=256):(s.put i v).get j=if j=i/\i<s.sz then v else s.get j:=by
 unfold St.put;by_cases hi:i<s.sz
 .rw[ax3 hi];unfold St.get;by_cases hj:j<256
  .simp only[ax3 hj,T.get_put 8 s.env i j v (by omega) (by omega),hi,ao0]
  grind
 grind
section
variable {P:Program} {base:Nat} {q:List Nat} {D w:World} {M E:Mem} {μ z:Pl} {g g':G} {get:Nat->V} {a:Act} {nx:Nat} {call:Calls} {o:Oper} {r:Out}
theorem Slots.put{s:St}{d:Option Tmp}{v:V}{u:Value}(h:Slots M μ s.get a)(hv:RepV M μ v u)(hz:a.tmps.size=s.sz)(hs:s.sz<=256):Slots M μ (a2H s d v).get (a.put d u):=by
 cases d with
 |none=>exact h
 |some d=>
  intro t;show RepV M μ ((s.put d v).get t) ((a.tmps.setIfInBounds d u).getD t undef);rw[St.get_put hs];by_cases hd:t=d/\d<s.sz
  .simp_all
  .rw[ay9 hd];have:(a.tmps.setIfInBounds d u).getD t undef=a.tmps.getD t undef:=by
    simp only[ax6,Ay7];by_cases e:d=t
    .grind
    .simp[e]
   rw[this];exact h t
def NewMem(base:Nat)(q:List Nat)(M c:Mem):Prop:=∀b o u,c b o=some u->M b o=some u\/base<=b\/b∈q
theorem NewMem.refl{base:Nat}{q:List Nat}{M:Mem}:NewMem base q M M:=λ _ _ _ h=> .inl h
theorem NewMem.trans{base:Nat}{q:List Nat}{A B C:Mem}(h:NewMem base q A B)(k:NewMem base q B C):NewMem base q A C:=λ b o u hu=>(k b o u hu).elim (λ c=>h b o u c) .inr
structure StRel (P:Program) (base:Nat) (q:List Nat) (D:World) (E:Mem) (z:Pl) (s:St) (a:Act) (w:World) (M:Mem) (μ:Pl):Prop where
 le:E.le M
 fresh:NewMem base q E M
 ple:z.le μ
 inv:Inv base q D M μ (a0b s.h) w
 slots:Slots M μ s.get a
 new:∀i,s.nx<=i->μ i=none
 defers:a.defers=[]
 size:a.tmps.size=s.sz
 small:s.sz<=256
def StOk(P:Program)(base:Nat)(q:List Nat)(D:World)(E:Mem)(z:Pl)(s:St)(a:Act)(w:World):Prop:=∃M μ,StRel P base q D E z s a w M μ
theorem a5e{us h:HP}:a0b (us++h)=upd us (a0b h):=by
 funext i
 induction us with
 |nil=>rfl
 |cons p us ih=>
  obtain⟨j,b⟩:=p;simp only[ap4,a0b,upd,List.find?_cons];by_cases e:i=j
  .grind
  .rw[ay9 e,ih];have:(j==i)=false:=by simpa using as7 e
   simp only[this];rfl
theorem d5P(hm:μ nx=none)(hI:Inv base q D M μ g w)(hS:Slots M μ get a)(hv:∀c f,o.op= .call c->c.callee≠ .value f)(h:opE P call get g nx o=some r):
  OpOk P base q D M μ g w a nx o r:=by
 cases ho:o.op with
 |move x=>grind[b3S]
 |assign x=>exact b3S (.inr ho) hI hS h
 |pick c x y=>grind[c1W]
 |alloc t=>grind[b8s]
 |box t x=>grind[c9q]
 |build t parts=>grind[b9C]
 |buildSlice t n parts=>grind[a7J]
 |load t x=>grind[c5v]
 |store t x y=>grind[b9V]
 |nilCheck x=>grind[a9R]
 |fieldAddr t x f=>grind[a9a]
 |field t x f=>grind[b9A]
 |indexAddr t x i=>grind[a8z]
 |index t x i=>grind[b9x]
 |slice t x l u m=>grind[b9R]
 |binOp op t x y u=>grind[c9G]
 |unOp op t x=>grind[d3K]
 |convert s d x=>grind[b2k]
 |makeFunc f xs e=>
  cases f with
  |func f=>grind[b0u]
  |_=>simp[opE,ho]at h
 |makeMap t x=>
  cases x with
  |none=>grind[b1S]
  |some x=>simp[opE,ho]at h
 |insert t m k x=>exact a4u (.inr ho) hI hS h
 |mapUpdate t m k x=>grind[a4u]
 |lookup t m k ok=>grind[b5f]
 |makeSlice t l c=>grind[a8K]
 |extract x i=>grind[b2b]
 |call c=>
  obtain⟨callee,args,j⟩:=c;cases callee with
  |value f=>grind
  |invoke x n=>simp[opE,ho]at h
  |builtin b=>
   cases b with
   |append=>grind[b5H]
   |len=>grind[a3U]
   |min=>grind[a3U]
   |max=>grind[a3U]
   |_=>simp[opE,ho]at h
 |_=>simp[opE,ho]at h
end
end
end Go.PV
namespace Go.SN
section
open Go.PV
inductive AB where
 |c (b:Bool)
 |ge (e:LE)
 |eq (e:LE)
 |ne (e:LE)
 |teq (e:LE)
 |feq (e:LE)
 |unk
 deriving Inhabited,DecidableEq,Repr
inductive TD where
 |any
 |bool
 |int (k:IntKind) (lo hi:Int)
 |str (hi:Int)
 |lit (v:Value)
 |sl (r:Bool) (hi:Int) (d:TD)
 |agg (l:List TD)
 |fns (l:List Nat)
 |val (r:Bool) (hi:Int)
 |rel (l:List TD)
 deriving Inhabited
inductive AV where
 |any
 |und
 |bool (b:AB)
 |int (k:IntKind) (e:LE)
 |str (e:LE)
 |has (e:LE)
 |lit (v:Value)
 |nils
 |dat (r:Bool) (e:LE) (d:TD)
 |row (nm sz:Nat) (off e:LE)
 |agg (l:List AV)
 |tup (l:List AV)
 |fn (f:Nat) (a b:List AV)
 |fns (l:List Nat)
 |ptr (nm off:Nat)
 |eptr (nm sz:Nat) (e:LE) (off:Nat)
 |cptr (l:List AV)
 |slf (e:LE) (d:TD)
 deriving Inhabited
inductive ABox where
 |var (l:List AV)
 |row (ty sz:Nat) (e:LE) (d:TD) (frz:Bool)
 deriving Inhabited
def b7v(k:IntKind):Int:=match k with
 | .i8=> -128| .i16=> -32768| .i32=> -2147483648| .i64=> -9223372036854775808|_=>0
def b1A(k:IntKind):Int:=match k with
 | .i8=>127| .i16=>32767| .i32=>2147483647| .i64=>9223372036854775807
 | .u8=>255| .u16=>65535| .u32=>4294967295| .u64=>18446744073709551615
def b2S(r:Bool)(hi:Int):List TD:=[.int .i64 (b7v .i64) (b1A .i64),.str hi,.sl r hi (.str hi),.sl r hi (.val r hi)]
inductive Tr where
 |leaf
 |one (v:AV)
 |node (l r:Tr)
 deriving Inhabited
def Tr.get:Nat->Tr->Nat->AV
 |0,.one v,_=>v
 |d+1,.node l r,i=>if i % 2=0 then Tr.get d l (i/2)else Tr.get d r (i/2)
 |_,_,_=> .any
def Tr.put:Nat->Tr->Nat->AV->Tr
 |0,_,_,v=> .one v
 |d+1,.node l r,i,v=>if i % 2=0 then .node (Tr.put d l (i/2) v) r else .node l (Tr.put d r (i/2) v)
 |d+1,_,i,v=>if i % 2=0 then .node (Tr.put d .leaf (i/2) v) .leaf else .node .leaf (Tr.put d .leaf (i/2) v)
theorem Tr.get_put:∀(d:Nat) (t:Tr) (i j:Nat) (v:AV),i<2^d->j<2^d->Tr.get d (Tr.put d t i v) j=if j=i then v else Tr.get d t j
 |0,t,i,j,v,hi,hj=>by
  have:i=0:=by simpa using hi
  have:j=0:=by simpa using hj
  subst i;subst j;simp[Tr.put,Tr.get]
 |d+1,t,i,j,v,hi,hj=>by
  have b:i/2<2^d:=by rw[Av6]at hi;omega
  have c:j/2<2^d:=by rw[Av6]at hj;omega
  have f:j=i↔j % 2=i % 2/\j/2=i/2:=by omega
  have hl:∀k,Tr.get d .leaf k= .any:=λ k=>by cases d<;>rfl
  have hn:∀l r,Tr.get (d+1) (.node l r) j=if j % 2=0 then Tr.get d l (j/2)else Tr.get d r (j/2):=λ l r=>rfl
  have key:∀l r,Tr.get (d+1) (if i % 2=0 then .node (Tr.put d l (i/2) v) r else .node l (Tr.put d r (i/2) v)) j=if j=i then v else(if j % 2=0 then Tr.get d l (j/2)else Tr.get d r (j/2)):=by
   intro l r;by_cases h:i % 2=0
   .rw[ax3 h,hn,Tr.get_put d l (i/2) (j/2) v b c];by_cases a:j % 2=0
    .simp[a,f,h]
    .rw[ay9 a,ay9 (λ e=>a (by rw[e];exact h)),ay9 a]
   .rw[ay9 h,hn,Tr.get_put d r (i/2) (j/2) v b c];by_cases a:j % 2=0
    .rw[ax3 a,ay9 (λ e=>h (by rw[<-e];exact a)),ax3 a]
    .rw[ay9 a,ay9 a];by_cases e:j/2=i/2
     .rw[ax3 e,ax3 (by omega)]
     .rw[ay9 e,ay9 (λ m=>e (by rw[m]))]
  cases t with
  |node l r=>exact key l r
  |leaf=>have:=key .leaf .leaf;simp only[hl,ite_self]at this;exact this
  |one x=>have:=key .leaf .leaf;simp only[hl,ite_self]at this;exact this
structure AS where
 env:Tr
 bx:List (Nat×ABox)
 cs:List LE
 n:Nat
 m:Nat
 sz:Nat
 lv:Nat:=0
 nb:Nat:=0
 deriving Inhabited
def AS.get(s:AS)(i:Nat):AV:=if i<256 then Tr.get 8 s.env i else .any
def AS.put(s:AS)(i:Nat)(v:AV):AS:=if i<s.sz then {s with env:=Tr.put 8 s.env i v}else s
def c5G:Value->Value->Bool
 | .nilFunc,.nilFunc| .nilIface,.nilIface| .pointer none,.pointer none| .map none,.map none=>true
 | .string a,.string b=>a.data.toList==b.data.toList
 | .chan (some a),.chan (some b)=>a==b
 |_,_=>false
theorem b4d{a b:Value}(h:c5G a b=true):a=b:=by
 unfold c5G at h;split at h;case h_5 a b=>
  have h:a.data.toList=b.data.toList:=by simpa using h
  have h:a.data=b.data:=Az4.1 h;exact an8 Value.string (Ay3 h)
 case h_6 a b=>rw[eq_of_beq h]
 all_goals first|rfl|cases h
def a4x:TD->Option Nat
 | .any=>none
 | .agg l=>some l.length
 | .val _ _=>some 4
 | .rel l=>some l.length
 |_=>some 1
def d2L(a:Int):List TD->Bool
 |[.int .i64 lo hi,.str h,.sl _ h1 (.str b),.sl _ h2 (.val _ h3)]=>decide (lo<=b7v .i64)&&(decide (b1A .i64<=hi)&&(decide (a<=h)&&(decide (a<=h1)&&(decide (a<=b)&&(decide (a<=h2)&&decide (a<=h3))))))
 |_=>false
mutual
def TD.le:TD->TD->Bool
 |_,.any=>true
 | .bool,.bool=>true
 | .int k a b,.int k' c d=>k==k'&&(decide (c<=a)&&decide (b<=d))
 | .str a,.str b=>decide (a<=b)
 | .lit a,.lit b=>c5G a b
 | .sl r a d,.sl r' b d'=>(!r||r')&&(decide (a<=b)&&(if r then TD.le d d'&&a4x d'==a4x d else decide (a=0)||TD.le d d'))
 | .agg l,.agg l'=>leL l l'
 | .agg l,.val r hi=>leL l (b2S r hi)
 | .rel l,.agg l'=>leL l l'
 | .rel l,.rel l'=>leL l l'
 | .rel l,.val r hi=>leL l (b2S r hi)
 | .val r a,.val r' b=>(!r||r')&&decide (a<=b)
 | .val r a,.agg l'=> !r&&d2L a l'
 | .fns l,.fns l'=>l.all (l'.contains ·)
 |_,_=>false
def leL:List TD->List TD->Bool
 |[],[]=>true
 |a::r,b::r'=>TD.le a b&&leL r r'
 |_,_=>false
end
structure Gm where
 ρ:Nat->Int
 n:Nat
 ν:Nat->Nat
 m:Nat
 nx:Nat
 g:G
 N:Nat->Prop
def g0:G:=λ _=>none
def N0:Nat->Prop:=λ _=>False
def d0l(v:V):Prop:=∃k x ks is a b,v= .agg [.lit (.int .i64 k),x,ks,is]/\lenOf ks=some a/\lenOf is=some b/\0<=112+(a:Int)-b-16*k
inductive InD:G->(Nat->Prop)->TD->V->Prop
 |any {g:G} {N:Nat->Prop} {v:V}:InD g N .any v
 |bool {g:G} {N:Nat->Prop} {t:Bool}:InD g N .bool (.lit (.bool t))
 |int {g:G} {N:Nat->Prop} {k:IntKind} {lo hi n:Int}:lo<=n->n<=hi->InD g N (.int k lo hi) (.lit (.int k n))
 |str {g:G} {N:Nat->Prop} {hi:Int} {s:ByteArray}:(s.size:Int)<=hi->InD g N (.str hi) (.lit (.string s))
 |lit {g:G} {N:Nat->Prop} {v:Value}:InD g N (.lit v) (.lit v)
 |nils {g:G} {N:Nat->Prop} {r:Bool} {hi:Int} {d:TD}:0<=hi->InD g N (.sl r hi d) .nils
 |sl {g:G} {N:Nat->Prop} {r:Bool} {hi:Int} {d:TD} {xs:List V}:(xs.length:Int)<=hi->(∀x∈xs,InD g0 N0 d x)->InD g N (.sl r hi d) (.sl none xs)
 |row {g:G} {N:Nat->Prop} {hi:Int} {d:TD} {id ty sz off n:Nat} {xs:List V} {f:Bool}:g id=some (.row ty sz xs f)->¬N id->off+n<=xs.length->(n:Int)<=hi->a4x d=some sz->(∀x∈(xs.drop off).take n,InD g N d x)->InD g N (.sl true hi d) (.row id sz off n)
 |agg {g:G} {N:Nat->Prop} {l:List TD} {cs:List V}:l.length=cs.length->(∀(j:Nat) (d:TD) (c:V),l[j]?=some d->cs[j]?=some c->InD g N d c)->InD g N (.agg l) (.agg cs)
 |fns {g:G} {N:Nat->Prop} {l:List Nat} {f:Nat}:f∈l->InD g N (.fns l) (.fn f [] [])
 |val {g:G} {N:Nat->Prop} {r:Bool} {hi:Int} {v:V}:InD g N (.agg (b2S r hi)) v->InD g N (.val r hi) v
 |rel {g:G} {N:Nat->Prop} {l:List TD} {v:V}:InD g N (.agg l) v->d0l v->InD g N (.rel l) v
theorem c7L{a:Int}{l:List TD}(h:d2L a l=true):leL (b2S false a) l=true:=by
 unfold d2L at h;split at h;all_goals simp_all[b2S,leL,TD.le]
theorem b9o:∀{l l':List TD},leL l l'=true->l.length=l'.length/\∀(j:Nat) (d c:TD),l[j]?=some d->l'[j]?=some c->d.le c=true
 |[],[],_=>⟨rfl,λ j d c h=>by simp at h⟩
 |a::r,b::e,h=>by
  rw[leL,az6]at h;obtain⟨h1,h2⟩:=b9o h.2;grind
 |[],_::_,h=>by simp[leL]at h
 |_::_,[],h=>by simp[leL]at h
section
variable {g g':G} {N w:Nat->Prop}
theorem InD.le{d:TD}{v:V}(h:InD g N d v):∀{a:TD},d.le a=true->InD g N a v:=by
 induction h with
 |any=>intro a hd;cases a<;>first|exact .any|(simp[TD.le]at hd)
 |bool=>intro a hd;cases a<;>first|exact .any|exact .bool|(simp[TD.le]at hd)
 |int h1 h2=>
  intro a hd;cases a<;>first|exact .any|(simp[TD.le]at hd;done)|skip
  simp only[TD.le,az6,aw5,ay2]at hd;obtain⟨rfl,h3,h4⟩:=hd;exact .int (by omega) (by omega)
 |str h1=>
  intro a hd;cases a<;>first|exact .any|(simp[TD.le]at hd;done)|skip
  simp only[TD.le,ay2]at hd;exact .str (by omega)
 |lit=>
  intro a hd;cases a<;>first|exact .any|(simp[TD.le]at hd;done)|skip
  rw[TD.le]at hd;rw[b4d hd];exact .lit
 |nils h1=>
  intro a hd;cases a<;>first|exact .any|(simp[TD.le]at hd;done)|skip
  simp only[TD.le,az6,ay2]at hd;exact .nils (by omega)
 | @sl g N r hi d xs h1 h2 ih=>
   intro a hd;cases a<;>first|exact .any|(simp[TD.le]at hd;done)|skip
   simp only[TD.le,az6,ay2]at hd;obtain⟨_,h3,h4⟩:=hd;refine .sl (by omega) λ x hx=> ?_;split at h4
   .rw[az6]at h4;exact ih x hx h4.1
   .simp only[ay8,ay2]at h4;rcases h4 with h4|h4
    .have:xs.length=0:=by omega
     rw[ay7.1 this]at hx;cases hx
    .exact ih x hx h4
 | @row g N hi d id ty sz off n xs f h1 h2 h3 h4 h5 h6 ih=>
   intro a hd;cases a<;>first|exact .any|(simp[TD.le]at hd;done)|skip
   simp only[TD.le,az6,ay8,ay2,aq4,ay6,false_or,aw4,aw5]at hd;obtain⟨hr,h7,h8,h9⟩:=hd;subst hr;exact .row h1 h2 h3 (by omega) (h9.trans h5) λ x hx=>ih x hx h8
 | @agg g N l cs h1 h2 ih=>
   intro a hd;have key:∀l',leL l l'=true->InD g N (.agg l') (.agg cs):=by
    intro l' hl;obtain⟨h3,h4⟩:=b9o hl;refine .agg (by omega) λ j d c hj hc=> ?_;have e:j<l.length:=by have:=(ay0.1 hj).1;omega
    exact ih j l[j] c (az5 e) hc (h4 j l[j] d (az5 e) hj)
   cases a<;>first|exact .any|(simp[TD.le]at hd;done)|skip
   case agg l'=>rw[TD.le]at hd;exact key l' hd
   case val r hi=>rw[TD.le]at hd;exact .val (key _ hd)
 |fns h1=>
  intro a hd;cases a<;>first|exact .any|(simp[TD.le]at hd;done)|skip
  simp only[TD.le,ay5,au1]at hd;exact .fns (hd _ h1)
 | @val g N r hi v h1 ih=>
   intro a hd;cases a<;>first|exact .any|(simp[TD.le]at hd;done)|skip
   case agg l'=>
    simp only[TD.le,az6,ax2]at hd;obtain⟨rfl,hd⟩:=hd;exact ih (by rw[TD.le];exact c7L hd)
   case val i b=>
    refine .val (ih ?_);simp only[TD.le,az6,ay2]at hd;simp only[TD.le,b2S,leL,a4x,az6,ay2,hd.1,hd.2,aq6,ar9,an9,ao5];split<;>simp
 | @rel g N l v h1 h2 ih=>
   intro a hd;cases a<;>first|exact .any|(simp[TD.le]at hd;done)|skip
   case agg l'=>exact ih (by simp only[TD.le]at hd|-;exact hd)
   case val r hi=>exact ih (by simp only[TD.le]at hd|-;exact hd)
   case rel l'=>exact .rel (ih (by simp only[TD.le]at hd|-;exact hd)) h2
def Keeps(g g':G)(N w:Nat->Prop):Prop:=∀id ty sz xs f,g id=some (.row ty sz xs f)->¬N id->¬w id/\∃f',g' id=some (.row ty sz xs f')
theorem Keeps.refl:Keeps g g N N:=λ _ _ _ _ f h k=>⟨k,f,h⟩
theorem Keeps.trans{a:G}{b:Nat->Prop}(h:Keeps g g' N w)(k:Keeps g' a w b):Keeps g a N b:=λ id ty sz xs f h1 h2=>by
 obtain⟨h3,f',h4⟩:=h id ty sz xs f h1 h2;exact k id ty sz xs f' h4 h3
theorem InD.mono(hk:Keeps g g' N w){d:TD}{v:V}(h:InD g N d v):InD g' w d v:=by
 induction h generalizing g' w with
 |any=>exact .any
 |bool=>exact .bool
 |int h1 h2=>exact .int h1 h2
 |str h1=>exact .str h1
 |lit=>exact .lit
 |nils h1=>exact .nils h1
 |sl h1 h2 _=>exact .sl h1 h2
 |row h1 h2 h3 h4 h5 _ ih=>obtain⟨h6,f',h7⟩:=hk _ _ _ _ _ h1 h2;exact .row h7 h6 h3 h4 h5 λ x hx=>ih x hx hk
 |agg h1 h2 ih=>exact .agg h1 λ j d c hj hc=>ih j d c hj hc hk
 |fns h1=>exact .fns h1
 |val h1 ih=>exact .val (ih hk)
 |rel h1 h2 ih=>exact .rel (ih hk) h2
theorem Keeps.zero:Keeps g0 g N0 N:=λ _ _ _ _ _ h _=>(by cases h)
theorem InD.zero{d:TD}{v:V}(h:InD g0 N0 d v):InD g N d v:=h.mono Keeps.zero
end
def AB.ok(ρ:Nat->Int)(n:Nat):AB->Prop
 | .c _| .unk=>True
 | .ge e| .eq e| .ne e| .teq e| .feq e=>e.ok ρ n
def AB.holds(ρ:Nat->Int)(t:Bool):AB->Prop
 | .c b=>t=b
 | .unk=>True
 | .ge e=>t=true↔0<=e.ev ρ
 | .eq e=>t=true↔e.ev ρ=0
 | .ne e=>t=true↔e.ev ρ≠0
 | .teq e=>t=true->e.ev ρ=0
 | .feq e=>t=false->e.ev ρ=0
inductive In (Γ:Gm):AV->V->Prop
 |any {v:V}:In Γ .any v
 |und:In Γ .und .und
 |bool {b:AB} {t:Bool}:b.ok Γ.ρ Γ.n->b.holds Γ.ρ t->In Γ (.bool b) (.lit (.bool t))
 |int {k:IntKind} {e:LE} {m:Int}:e.ok Γ.ρ Γ.n->m=e.ev Γ.ρ->In Γ (.int k e) (.lit (.int k m))
 |str {e:LE} {s:ByteArray}:e.ok Γ.ρ Γ.n->(s.size:Int)=e.ev Γ.ρ->In Γ (.str e) (.lit (.string s))
 |has {e:LE} {s:ByteArray}:e.ok Γ.ρ Γ.n->(s.size:Int)=e.ev Γ.ρ->(47:UInt8)∈s.data.toList->In Γ (.has e) (.lit (.string s))
 |lit {v:Value}:In Γ (.lit v) (.lit v)
 |nils:In Γ .nils .nils
 |dat {r:Bool} {e:LE} {d:TD} {hi:Int} {v:V} {m:Nat}:e.ok Γ.ρ Γ.n->InD Γ.g Γ.N (.sl r hi d) v->lenOf v=some m->(m:Int)=e.ev Γ.ρ->In Γ (.dat r e d) v
 |row {nm sz:Nat} {off e:LE} {o m:Nat}:nm<Γ.m->off.ok Γ.ρ Γ.n->e.ok Γ.ρ Γ.n->(o:Int)=off.ev Γ.ρ->(m:Int)=e.ev Γ.ρ->In Γ (.row nm sz off e) (.row (Γ.ν nm) sz o m)
 |agg {l:List AV} {cs:List V}:l.length=cs.length->(∀(j:Nat) (a:AV) (c:V),l[j]?=some a->cs[j]?=some c->In Γ a c)->In Γ (.agg l) (.agg cs)
 |tup {l:List AV} {cs:List V}:l.length=cs.length->(∀(j:Nat) (a:AV) (c:V),l[j]?=some a->cs[j]?=some c->In Γ a c)->In Γ (.tup l) (.tup cs)
 |fn {f:Nat} {l k:List AV} {asq bs:List V}:l.length=asq.length->k.length=bs.length->(∀(j:Nat) (a:AV) (c:V),l[j]?=some a->asq[j]?=some c->In Γ a c)->
   (∀(j:Nat) (a:AV) (c:V),k[j]?=some a->bs[j]?=some c->In Γ a c)->In Γ (.fn f l k) (.fn f asq bs)
 |fns {l:List Nat} {f:Nat}:f∈l->In Γ (.fns l) (.fn f [] [])
 |ptr {nm off:Nat}:nm<Γ.m->In Γ (.ptr nm off) (.ptr (Γ.ν nm) off)
 |eptr {nm sz off i:Nat} {e:LE}:nm<Γ.m->e.ok Γ.ρ Γ.n->(i:Int)<e.ev Γ.ρ->In Γ (.eptr nm sz e off) (.eptr (Γ.ν nm) sz i off)
 |cptr {l:List AV} {cs:List V}:l.length=cs.length->(∀(j:Nat) (a:AV) (c:V),l[j]?=some a->cs[j]?=some c->In Γ a c)->In Γ (.cptr l) (.dptr cs)
 |cptrR {l:List AV} {id ty sz i off:Nat} {xs:List V} {f:Bool} {x:V}:Γ.g id=some (.row ty sz xs f)->¬Γ.N id->xs[i]?=some x->l.length=(x.cells.drop off).length->
   (∀(j:Nat) (a:AV) (c:V),l[j]?=some a->(x.cells.drop off)[j]?=some c->In Γ a c)->In Γ (.cptr l) (.eptr id sz i off)
 |slf {e:LE} {d:TD} {xs:List V}:e.ok Γ.ρ Γ.n->(xs.length:Int)=e.ev Γ.ρ->(∀x∈xs,InD g0 N0 d x)->In Γ (.slf e d) (.slf xs)
def InL(Γ:Gm)(l:List AV)(cs:List V):Prop:=l.length=cs.length/\∀(j:Nat) (a:AV) (c:V),l[j]?=some a->cs[j]?=some c->In Γ a c
structure Gm.le (Γ u:Gm):Prop where
 n:Γ.n<=u.n
 m:Γ.m<=u.m
 nx:Γ.nx<=u.nx
 ρ:∀i,i<Γ.n->u.ρ i=Γ.ρ i
 ν:∀i,i<Γ.m->u.ν i=Γ.ν i
 new:∀i,Γ.m<=i->i<u.m->Γ.nx<=u.ν i
 keeps:Keeps Γ.g u.g Γ.N u.N
theorem Gm.le.refl(Γ:Gm):Γ.le Γ:=⟨ay3 _,ay3 _,ay3 _,λ _ _=>rfl,λ _ _=>rfl,λ i h k=>absurd h (Ax4.2 k),Keeps.refl⟩
theorem Gm.le.trans{A B C:Gm}(h:A.le B)(k:B.le C):A.le C:=
 ⟨av9 h.n k.n,av9 h.m k.m,av9 h.nx k.nx,λ i hi=>(k.ρ i (aw9 hi h.n)).trans (h.ρ i hi),λ i hi=>(k.ν i (aw9 hi h.m)).trans (h.ν i hi),λ i h1 h2=>by
  rcases as5 i B.m with h3|h3
  .rw[k.ν i h3];exact h.new i h1 h3
  .exact av9 h.nx (k.new i h3 h2),h.keeps.trans k.keeps⟩
section
variable {Γ u:Gm}
theorem c0S(h:Γ.le u){b:AB}(hb:b.ok Γ.ρ Γ.n):b.ok u.ρ u.n:=by
 cases b<;>first|trivial|exact a0p hb h.n h.ρ
theorem b3s(h:Γ.le u){b:AB}{t:Bool}(hb:b.ok Γ.ρ Γ.n)(hh:b.holds Γ.ρ t):b.holds u.ρ t:=by
 cases b<;>first|exact hh|(simp only[AB.holds,a0q hb h.ρ]at hh|-;exact hh)
theorem In.mono(h:Γ.le u){a:AV}{v:V}(hv:In Γ a v):In u a v:=by
 induction hv with
 |any=>exact .any
 |und=>exact .und
 |bool h1 h2=>exact .bool (c0S h h1) (b3s h h1 h2)
 |int h1 h2=>exact .int (a0p h1 h.n h.ρ) (by rw[a0q h1 h.ρ];exact h2)
 |str h1 h2=>exact .str (a0p h1 h.n h.ρ) (by rw[a0q h1 h.ρ];exact h2)
 |has h1 h2 h3=>exact .has (a0p h1 h.n h.ρ) (by rw[a0q h1 h.ρ];exact h2) h3
 |lit=>exact .lit
 |nils=>exact .nils
 |dat h1 h2 h3 h4=>exact .dat (a0p h1 h.n h.ρ) (h2.mono h.keeps) h3 (by rw[a0q h1 h.ρ];exact h4)
 | @row nm sz off e o m h0 h1 h2 h3 h4=>rw[<-h.ν nm h0];exact .row (aw9 h0 h.m) (a0p h1 h.n h.ρ) (a0p h2 h.n h.ρ) (by rw[a0q h1 h.ρ];exact h3) (by rw[a0q h2 h.ρ];exact h4)
 |agg h1 _ ih=>exact .agg h1 ih
 |tup h1 _ ih=>exact .tup h1 ih
 |fn h1 h2 _ _ b c=>exact .fn h1 h2 b c
 |fns h1=>exact .fns h1
 | @ptr nm off h0=>rw[<-h.ν nm h0];exact .ptr (aw9 h0 h.m)
 | @eptr nm sz off i e h0 h1 h2=>rw[<-h.ν nm h0];exact .eptr (aw9 h0 h.m) (a0p h1 h.n h.ρ) (by rw[a0q h1 h.ρ];exact h2)
 |cptr h1 _ ih=>exact .cptr h1 ih
 |cptrR h1 h2 h3 h4 _ ih=>obtain⟨h6,f',h7⟩:=h.keeps _ _ _ _ _ h1 h2;exact .cptrR h7 h6 h3 h4 ih
 |slf h1 h2 h3=>exact .slf (a0p h1 h.n h.ρ) (by rw[a0q h1 h.ρ];exact h2) h3
theorem InL.mono(h:Γ.le u){l:List AV}{cs:List V}(hl:InL Γ l cs):InL u l cs:=⟨hl.1,λ j a c ha hc=>(hl.2 j a c ha hc).mono h⟩
end
inductive InB (Γ:Gm):ABox->Box->Prop
 |var {l:List AV} {cs:List V}:InL Γ l cs->InB Γ (.var l) (.var cs)
 |row {ty sz:Nat} {e:LE} {d:TD} {frz f:Bool} {xs:List V}:e.ok Γ.ρ Γ.n->(xs.length:Int)=e.ev Γ.ρ->(∀x∈xs,InD Γ.g Γ.N d x)->(f=true->frz=true)->InB Γ (.row ty sz e d frz) (.row ty sz xs f)
theorem InB.mono{Γ u:Gm}(h:Γ.le u){b:ABox}{x:Box}(hb:InB Γ b x):InB u b x:=by
 cases hb with
 |var h1=>exact .var (h1.mono h)
 |row h1 h2 h3 h4=>exact .row (a0p h1 h.n h.ρ) (by rw[a0q h1 h.ρ];exact h2) (λ x hx=>(h3 x hx).mono h.keeps) h4
structure Ok (a:AS) (Γ:Gm) (s:St):Prop where
 n:Γ.n=a.n
 m:Γ.m=a.m
 nxe:Γ.nx=s.nx
 νlt:∀i,i<Γ.m->Γ.ν i<s.nx
 νinj:∀i j,i<Γ.m->j<Γ.m->Γ.ν i=Γ.ν j->i=j
 g:Γ.g=a0b s.h
 N:∀id,Γ.N id↔∃p∈a.bx,Γ.ν p.1=id
 sz:a.sz=s.sz
 small:s.sz<=256
 env:∀i,In Γ (a.get i) (s.get i)
 cons:a2W Γ.ρ Γ.n a.cs
 box:∀p∈a.bx,p.1<Γ.m/\∃b,Γ.g (Γ.ν p.1)=some b/\InB Γ p.2 b
 inj:∀p∈a.bx,∀q∈a.bx,Γ.ν p.1=Γ.ν q.1->p=q
 nx:∀i,s.nx<=i->a0b s.h i=none
def a4U(s:AS)(nm:Nat):Option ABox:=(s.bx.find? (λ p=>p.1==nm)).map (·.2)
theorem a0N{s:AS}{nm:Nat}{b:ABox}(h:a4U s nm=some b):(nm,b)∈s.bx:=by
 grind[a4U,az2]
theorem AS.get_put{s:AS}{i j:Nat}{v:AV}(hs:s.sz<=256):(s.put i v).get j=if j=i/\i<s.sz then v else s.get j:=by
 unfold AS.put;by_cases hi:i<s.sz
 .rw[ax3 hi];unfold AS.get;by_cases hj:j<256
  .simp only[ax3 hj,Tr.get_put 8 s.env i j v (by omega) (by omega),hi,ao0]
  grind
 grind
theorem b0M{s:AS}{i:Nat}{v:AV}:(s.put i v).bx=s.bx/\(s.put i v).cs=s.cs/\(s.put i v).n=s.n/\(s.put i v).sz=s.sz/\(s.put i v).m=s.m:=by
 unfold AS.put;grind
def d6r(s:AS)(d:Option Tmp)(v:AV):AS:=match d with|some d=>s.put d v|none=>s
theorem Ok.put{a:AS}{Γ:Gm}{s:St}(h:Ok a Γ s){d:Option Tmp}{av:AV}{v:V}(hv:In Γ av v):Ok (d6r a d av) Γ (a2H s d v):=by
 cases d with
 |none=>exact h
 |some d=>
  obtain⟨e1,e2,e3,e4,e5⟩:=b0M (s:=a) (i:=d) (v:=av);have es:(s.put d v).h=s.h/\(s.put d v).nx=s.nx/\(s.put d v).sz=s.sz:=by unfold St.put;grind
  obtain⟨f1,f2,f3⟩:=es;show Ok (a.put d av) Γ (s.put d v);refine⟨by rw[e3];exact h.n,by rw[e5];exact h.m,by rw[f2];exact h.nxe,by rw[f2];exact h.νlt,h.νinj,by rw[f1];exact h.g,by rw[e1];exact h.N,by rw[e4,f3];exact h.sz,by rw[f3];exact h.small,λ i=> ?_,by rw[e2];exact h.cons,by rw[e1];exact h.box,by rw[e1];exact h.inj,by rw[f1,f2];exact h.nx⟩;rw[AS.get_put (by rw[h.sz];exact h.small),St.get_put h.small,h.sz];split
  .exact hv
  .exact h.env i
end
section
open Go.PV
def AS.ent(s:AS)(e:LE):Bool:=decide (0<=e.min)||decide (0<=b9O s.cs e)||SN.ent s.cs 4 e
def AS.entq(s:AS)(e:LE):Bool:=SN.ent s.cs 4 e
def AS.with(s:AS)(e:LE):AS:=if 0<=e.min then s else {s with cs:=e::s.cs}
def fresh(s:AS)(lo hi:Int):LE×AS:=if lo=hi then(.k lo,s)else(.sy ⟨s.n,lo,hi⟩,{s with n:=s.n+1})
def lower(s:AS)(e:LE):Int:=Max.max (a4s s.cs 2 e) (b9O s.cs e)
def upper(s:AS)(e:LE):Int:= -Max.max (a4s s.cs 2 e.neg) (b9O s.cs e.neg)
def eqn(s:AS)(e:LE)(t:Bool):Option AS:=
 if t then
  if s.entq (e.addc (-1))||s.entq (e.neg.addc (-1))then none
  else some ((s.with e).with e.neg)
 else if s.entq e then(if s.entq e.neg then none else some (s.with (e.addc (-1))))
 else if s.entq e.neg then some (s.with (e.neg.addc (-1)))
 else some s
def assume(s:AS)(b:AB)(t:Bool):Option AS:=
 match b with
 | .c x=>if x=t then some s else none
 | .unk=>some s
 | .ge e=>
   let e:=if t then e else e.neg.addc (-1)
   if s.entq (e.neg.addc (-1))then none else some (s.with e)
 | .eq e=>eqn s e t
 | .ne e=>eqn s e (!t)
 | .teq e=>if t then eqn s e true else some s
 | .feq e=>if t then some s else eqn s e true
def AB.not:AB->AB
 | .c b=> .c !b
 | .ge e=> .ge (e.neg.addc (-1))
 | .eq e=> .ne e
 | .ne e=> .eq e
 | .teq e=> .feq e
 | .feq e=> .teq e
 | .unk=> .unk
def a4k(f:AS->TD->AV×AS):AS->List TD->List AV×AS
 |s,[]=>([],s)
 |s,d::r=>((f s d).1::(a4k f (f s d).2 r).1,(a4k f (f s d).2 r).2)
def d7u:AV->Option LE
 | .nils=>some (.k 0)
 | .dat _ e _| .row _ _ _ e| .slf e _=>some e
 |_=>none
def d6z:List AV->Option LE
 |[.int .i64 k,_,x,y]=>match d7u x,d7u y with
  |some a,some b=>some (((a.sub b).sub (k.smul 16)).addc 112)
  |_,_=>none
 |_=>none
def d7G(q:List AV×AS):AS:=match d6z q.1 with
 |some e=>q.2.with e
 |none=>q.2
def d3C(s:AS)(l:List AV):Bool:=match d6z l with
 |some e=>s.ent e
 |none=>false
def b3h:Nat->AS->TD->AV×AS
 |0,s,_=>(.any,s)
 |n+1,s,d=>match d with
  | .any=>(.any,s)
  | .bool=>(.bool .unk,s)
  | .int k lo hi=>(.int k (fresh s lo hi).1,(fresh s lo hi).2)
  | .str hi=>(.str (fresh s 0 hi).1,(fresh s 0 hi).2)
  | .lit v=>(.lit v,s)
  | .sl r hi d=>(.dat r (fresh s 0 hi).1 d,(fresh s 0 hi).2)
  | .agg l=>(.agg (a4k (b3h n) s l).1,(a4k (b3h n) s l).2)
  | .fns l=>(.fns l,s)
  | .val r hi=>(.agg (a4k (b3h n) s (b2S r hi)).1,(a4k (b3h n) s (b2S r hi)).2)
  | .rel l=>(.agg (a4k (b3h n) s l).1,d7G (a4k (b3h n) s l))
def a9h(s:AS)(d:TD):AV×AS:=b3h 4 s d
def d1K(s:AS)(nm:Nat):AS:={s with bx:=s.bx.filter λ p=>p.1 !=nm}
def setB(s:AS)(nm:Nat)(b:ABox):AS:={s with bx:=s.bx.map λ p=>if p.1=nm then(nm,b)else p}
def newB(s:AS)(b:ABox):Nat×AS:=(s.m,{s with bx:=(s.m,b)::s.bx,m:=s.m+1})
def d3t:Int:=1048576
def a6C(f:AS->AV->TD×AS):AS->List AV->List TD×AS
 |s,[]=>([],s)
 |s,v::r=>((f s v).1::(a6C f (f s v).2 r).1,(a6C f (f s v).2 r).2)
def d8x:List TD->Bool
 |[_,_,_,.sl _ h (.val _ _)]=>decide (0<h)
 |_=>false
def b1c:Nat->AS->AV->TD×AS
 |0,s,_=>(.any,s)
 |n+1,s,v=>match v with
  | .bool _=>(.bool,s)
  | .int k e=>(.int k (lower s e) (upper s e),s)
  | .str e=>(.str (upper s e),s)
  | .has e=>(.str (upper s e),s)
  | .lit v=>(.lit v,s)
  | .nils=>(.sl false 0 .any,s)
  | .dat r e d=>(.sl r (upper s e) d,s)
  | .row nm sz off e=>match a4U s nm with
    |some (.row _ z k d _)=>if z==sz&&a4x d==some sz&&s.ent (k.sub (off.add e))then(.sl true (upper s e) d,d1K s nm)else(.any,s)
    |_=>(.any,s)
  | .agg l=>
    let q:=a6C (b1c n) s l
    (if q.1.length==4&&leL q.1 (b2S false d3t)&&d8x q.1 then .val false d3t else if d3C s l then .rel q.1 else .agg q.1,q.2)
  | .fn f [] []=>(.fns [f],s)
  | .fns l=>(.fns l,s)
  |_=>(.any,s)
def a2O(s:AS)(v:AV):TD×AS:=b1c 4 s v
def d8O:TD->Int
 | .str s=>s
 |_=>0
def d5W:TD->Int
 | .val _ s=>s
 |_=>0
def d5j(a:Int):List TD->TD
 |[.int .i64 _ _,.str h,.sl r1 h1 d1,.sl r2 h2 d2]=> .agg [.int .i64 (b7v .i64) (b1A .i64),.str (Max.max h a),.sl r1 (Max.max h1 a) (.str (Max.max (d8O d1) a)),.sl r2 (Max.max h2 a) (.val false (Max.max (d5W d2) a))]
 |_=> .any
mutual
def TD.join:TD->TD->TD
 | .bool,.bool=> .bool
 | .int k a b,.int k' c d=>if k=k' then .int k (Min.min a c) (Max.max b d)else .any
 | .str a,.str b=> .str (Max.max a b)
 | .lit v,.lit _=> .lit v
 | .sl r a d,.sl r' b d'=>if a=0 then .sl (r||r') b d' else if b=0 then .sl (r||r') a d else .sl (r||r') (Max.max a b) (TD.join d d')
 | .agg l,.agg l'| .rel l,.agg l'| .agg l,.rel l'=> .agg (d0N l l')
 | .rel l,.rel l'=> .rel (d0N l l')
 | .agg l,.val r a| .rel l,.val r a=>if leL l (b2S r a)then .val r a else d5j a l
 | .val r a,.agg l| .val r a,.rel l=>if leL l (b2S r a)then .val r a else d5j a l
 | .val r a,.val r' b=> .val (r||r') (Max.max a b)
 | .fns l,.fns l'=> .fns (l++l')
 |_,_=> .any
def d0N:List TD->List TD->List TD
 |a::r,b::r'=>TD.join a b::d0N r r'
 |_,_=>[]
end
def a7d(d e:TD):TD:=let j:=d.join e;if d.le j&&e.le j then j else .any
variable {g:G} {N:Nat->Prop} {d e:TD} {v:V}
theorem b3P(h:InD g N d v):InD g N (a7d d e) v:=by
 unfold a7d;simp only;split
 .next hc=>rw[az6]at hc;exact h.le hc.1
 .exact .any
theorem b3Y(h:InD g N e v):InD g N (a7d d e) v:=by
 unfold a7d;simp only;split
 .next hc=>rw[az6]at hc;exact h.le hc.2
 .exact .any
section
variable {a:AS} {Γ:Gm} {s:St} {e:LE}
variable {n:Nat} {ρ:Nat->Int}
theorem b0j(hs:a2W ρ n a.cs)(he:e.ok ρ n)(hc:a.ent e=true):0<=e.ev ρ:=by
 unfold AS.ent at hc;simp only[ay8,ay2]at hc;rcases hc with(hc|hc)|hc
 .exact Int.le_trans hc (a3W he)
 .exact Int.le_trans hc (a9T hs he)
 .exact c9v hs he hc
theorem Ok.ent(h:Ok a Γ s)(he:e.ok Γ.ρ Γ.n)(hc:a.ent e=true):0<=e.ev Γ.ρ:=b0j h.cons he hc
theorem Ok.entq(h:Ok a Γ s)(he:e.ok Γ.ρ Γ.n)(hc:a.entq e=true):0<=e.ev Γ.ρ:=c9v h.cons he hc
theorem Ok.with(h:Ok a Γ s)(he:e.ok Γ.ρ Γ.n)(h0:0<=e.ev Γ.ρ):Ok (a.with e) Γ s:=by
 unfold AS.with
 split
 .exact h
 .refine⟨h.n,h.m,h.nxe,h.νlt,h.νinj,h.g,h.N,h.sz,h.small,h.env,λ g hg=> ?_,h.box,h.inj,h.nx⟩;rcases ay4.1 hg with rfl|hg
  .grind
  .exact h.cons g hg
theorem Ok.lower(h:Ok a Γ s)(he:e.ok Γ.ρ Γ.n):lower a e<=e.ev Γ.ρ:=by
 have h1:=b0D h.cons 2 e he;have h2:=a9T h.cons he;unfold SN.lower;omega
theorem Ok.upper(h:Ok a Γ s)(he:e.ok Γ.ρ Γ.n):e.ev Γ.ρ<=upper a e:=by
 have h1:=b0D h.cons 2 e.neg (a1g he);have h2:=a9T h.cons (a1g he);grind[a1m,SN.upper]
theorem Ok.eqn(h:Ok a Γ s)(he:e.ok Γ.ρ Γ.n){t:Bool}(ht:t=true↔e.ev Γ.ρ=0):∃d,eqn a e t=some d/\Ok d Γ s:=by
 unfold SN.eqn;have hn:=a1g he;have hv:=a1m (ρ:=Γ.ρ) e;by_cases b:t=true
 .rw[ax3 b];have h0:=ht.1 b;split
  .next hc=>
   rw[ay8]at hc;rcases hc with hc|hc
   .have:=h.entq (a0k he) hc;grind[a0j]
   .have:=h.entq (a0k hn) hc;grind[a0j]
  .refine⟨_,rfl,(h.with he (by omega)).with hn (by omega)⟩
 .rw[ay9 b];have h0:e.ev Γ.ρ≠0:=λ e0=>b (ht.2 e0);split
  .next hc=>
   have h1:=h.entq he hc;split
   .next c=>
    have:=h.entq hn c;omega
   .exact⟨_,rfl,h.with (a0k he) (by rw[a0j];omega)⟩
  .split
   .next c=>
    have:=h.entq hn c;exact⟨_,rfl,h.with (a0k hn) (by rw[a0j];omega)⟩
   grind
theorem Ok.assume(h:Ok a Γ s){b:AB}(hb:b.ok Γ.ρ Γ.n){t:Bool}(ht:b.holds Γ.ρ t):∃d,assume a b t=some d/\Ok d Γ s:=by
 unfold SN.assume;cases b with
 |c x=>simp only[AB.holds]at ht;grind
 |unk=>grind
 |ge e=>
  simp only[AB.ok]at hb;simp only[AB.holds]at ht;simp only;have hn:=a1g hb;have hv:=a1m (ρ:=Γ.ρ) e;cases t with
  |true=>
   have h0:=ht.1 rfl;simp only[aw4];split
   .next hc=>have:=h.entq (a0k hn) hc;grind[a0j]
   .exact⟨_,rfl,h.with hb h0⟩
  |false=>
   have h0:¬0<=e.ev Γ.ρ:=λ h1=>by grind
   simp only[ay6,av8];split
   .next hc=>
    have:=h.entq (a0k (a1g (a0k hn))) hc;grind[a0j,a1m]
   .exact⟨_,rfl,h.with (a0k hn) (by rw[a0j];omega)⟩
 |eq e=>exact h.eqn hb ht
 |ne e=>simp only[AB.holds]at ht;refine h.eqn hb ?_;grind
 |teq e=>
  simp only[AB.holds]at ht;cases t with
  |true=>simp only[aw4];exact h.eqn hb (by grind)
  |false=>grind
 |feq e=>
  simp only[AB.holds]at ht;cases t with
  |true=>grind
  |false=>simp only[ay6,av8];exact h.eqn hb (by grind)
variable {b:AB}
theorem b5L(h:b.ok ρ n):b.not.ok ρ n:=by
 cases b<;>first|trivial|exact h|exact a0k (a1g h)
theorem a8M{t:Bool}(h:b.holds ρ t):b.not.holds ρ (!t):=by
 cases b with
 |c x=>grind[AB.holds,AB.not]
 |unk=>trivial
 |ge e=>grind[AB.holds,AB.not,a0j,a1m]
 |eq e=>grind[AB.holds,AB.not]
 |ne e=>grind[AB.holds,AB.not]
 |teq e=>grind[AB.holds,AB.not]
 |feq e=>grind[AB.holds,AB.not]
theorem Ok.ext(h:Ok a Γ s){ρ':Nat->Int}{n':Nat}(hn:Γ.n<=n')(c:∀i,i<Γ.n->ρ' i=Γ.ρ i):Γ.le {Γ with ρ:=ρ',n:=n'}/\Ok {a with n:=n'} {Γ with ρ:=ρ',n:=n'} s:=by
 have hl:Γ.le {Γ with ρ:=ρ',n:=n'}:=⟨hn,ay3 _,ay3 _,c,λ _ _=>rfl,λ i h k=>absurd h (Ax4.2 k),Keeps.refl⟩;refine⟨hl,rfl,h.m,h.nxe,h.νlt,h.νinj,h.g,h.N,h.sz,h.small,λ i=>(h.env i).mono hl,λ g hg=> ?_,λ p hp=> ?_,h.inj,h.nx⟩
 .obtain⟨h1,h2⟩:=h.cons g hg;grind[a0p,a0q]
 .obtain⟨h1,b,h2,h3⟩:=h.box p hp;exact⟨h1,b,h2,h3.mono hl⟩
theorem Ok.fresh(h:Ok a Γ s){lo hi x:Int}(h1:lo<=x)(h2:x<=hi):∃b,Γ.le b/\b.g=Γ.g/\b.N=Γ.N/\Ok (fresh a lo hi).2 b s/\(fresh a lo hi).1.ok b.ρ b.n/\(fresh a lo hi).1.ev b.ρ=x:=by
 unfold SN.fresh;split
 .grind[Gm.le.refl,a1W,a1P]
 .obtain⟨hl,ho⟩:=h.ext (ρ':=λ i=>if i=Γ.n then x else Γ.ρ i) (n':=Γ.n+1) (at3 _) (λ i hi=>by grind);refine⟨_,hl,rfl,rfl,?_,a9r ?_,?_⟩
  .simp only[h.n]at ho|-;exact ho
  .rw[<-h.n];exact⟨au5 _,by simp[h1],by simp[h2]⟩
  .rw[a6w];simp[h.n]
def d3J(f:AS->TD->AV×AS):Prop:=∀(a:AS) (Γ:Gm) (s:St) (d:TD) (v:V),Ok a Γ s->InD Γ.g Γ.N d v->∃b,Γ.le b/\b.g=Γ.g/\b.N=Γ.N/\Ok (f a d).2 b s/\In b (f a d).1 v
theorem a7w{f:AS->TD->AV×AS}(hf:d3J f):∀{l:List TD} {cs:List V} {a:AS} {Γ:Gm},Ok a Γ s->l.length=cs.length->(∀(j:Nat) (d:TD) (c:V),l[j]?=some d->cs[j]?=some c->InD Γ.g Γ.N d c)->
  ∃b,Γ.le b/\b.g=Γ.g/\b.N=Γ.N/\Ok (a4k f a l).2 b s/\InL b (a4k f a l).1 cs
 |[],cs,a,Γ,h,hl,_=>by
  have:cs=[]:=ay7.1 hl.symm;subst this;exact⟨Γ,Gm.le.refl Γ,rfl,rfl,h,rfl,λ j _ _ hj=>by grind⟩
 |d::r,[],a,Γ,h,hl,_=>by cases hl
 |d::r,c::cs,a,Γ,h,hl,hd=>by
  obtain⟨i,l1,g1,n1,o1,i1⟩:=hf _ _ _ _ _ h (hd 0 d c rfl rfl);obtain⟨g,l2,g2,n2,o2,i2⟩:=a7w hf (l:=r) (cs:=cs) o1 (by grind) (λ j d c hj hc=>(hd (j+1) d c (by grind) (by grind)).mono l1.keeps);refine⟨g,l1.trans l2,g2.trans g1,n2.trans n1,o2,?_,λ j x y hx hy=> ?_⟩
  .simp only[a4k,an0];rw[i2.1]
  .cases j with
   |zero=>simp[a4k]at hx hy;subst hx;subst hy;exact i1.mono l2
   |succ j=>exact i2.2 j x y (by grind[a4k]) (by grind)
variable {v:V}
theorem c6f{Γ:Gm}{x:AV}{e:LE}(h:In Γ x v)(he:d7u x=some e):e.ok Γ.ρ Γ.n/\∃m,lenOf v=some m/\(m:Int)=e.ev Γ.ρ:=by
 cases h with
 |nils=>cases he;exact⟨a1W 0,0,rfl,by rw[a1P];rfl⟩
 |dat h1 h2 h3 h4=>cases he;grind
 |row h0 h1 h2 h3 h4=>cases he;exact⟨h2,_,rfl,h4⟩
 |slf h1 h2 h3=>cases he;exact⟨h1,_,rfl,h2⟩
 |_=>cases he
variable {cs:List V}
theorem c3z{Γ:Gm}{l:List AV}{e:LE}(h:InL Γ l cs)(he:d6z l=some e):
  e.ok Γ.ρ Γ.n/\∃k x ks is a b,cs=[.lit (.int .i64 k),x,ks,is]/\lenOf ks=some a/\lenOf is=some b/\e.ev Γ.ρ=112+(a:Int)-b-16*k:=by
 unfold d6z at he;split at he
 .next k x y z=>
  split at he
  .next a b ha hb=>
   simp only[az0]at he;subst he
   match cs,h with
   |[v0,v1,c,d],h=>
    have h0:=h.2 0 _ v0 rfl rfl;obtain⟨a1,m1,a2,a3⟩:=c6f (h.2 2 _ c rfl rfl) ha;obtain⟨b1,m2,b2,b3⟩:=c6f (h.2 3 _ d rfl rfl) hb;cases h0 with
    |int c1 c2=>refine⟨a0k (a0o (a0o a1 b1) (a0Q c1)),_,_,_,_,_,_,rfl,a2,b2,?_⟩;rw[a0j,a0s,a0s,a0R,<-a3,<-b3,<-c2];omega
   |[],h=>cases h.1
   |[_],h=>cases h.1
   |[_,_],h=>cases h.1
   |[_,_,_],h=>cases h.1
   |_::_::_::_::_::_,h=>have:=h.1;simp at this
  .cases he
 .cases he
theorem d0W{Γ:Gm}{q:List AV×AS}(h:Ok q.2 Γ s)(hl:InL Γ q.1 cs)(hr:d0l (.agg cs)):Ok (d7G q) Γ s:=by
 unfold d7G;split
 .next e he=>
  obtain⟨h1,k,x,ks,is,a,b,rfl,h2,h3,h4⟩:=c3z hl he;obtain⟨f,g,c,d,i,b',e1,e2,e3,e4⟩:=hr;simp only[V.agg.injEq,Az2,V.lit.injEq,At3,ao5,ao0]at e1;obtain⟨rfl,rfl,rfl,rfl⟩:=e1;rw[h2]at e2;rw[h3]at e3;cases e2;cases e3;exact h.with h1 (by grind)
 .exact h
theorem a7I:∀n,d3J (b3h n)
 |0=>by
  intro a Γ s d v h _;exact⟨Γ,Gm.le.refl Γ,rfl,rfl,h,.any⟩
 |n+1=>by
  intro a Γ s d v h hd;have ih:=a7I n;have c:∀{av:AV},In Γ av v->∃g,Γ.le g/\g.g=Γ.g/\g.N=Γ.N/\Ok a g s/\In g av v:=λ hi=>⟨Γ,Gm.le.refl Γ,rfl,rfl,h,hi⟩;cases hd with
  |any=>exact c .any
  |bool=>exact c (.bool av5 av5)
  |int h1 h2=>obtain⟨b,l1,g1,n1,o1,k1,e1⟩:=h.fresh h1 h2;exact⟨b,l1,g1,n1,o1,.int k1 e1.symm⟩
  |str h1=>obtain⟨b,l1,g1,n1,o1,k1,e1⟩:=h.fresh (Av0 _) h1;exact⟨b,l1,g1,n1,o1,.str k1 e1.symm⟩
  |lit=>exact c .lit
  | @nils _ _ r hi d h1=>obtain⟨b,l1,g1,n1,o1,k1,e1⟩:=h.fresh (ar9 0) h1;exact⟨b,l1,g1,n1,o1,.dat (hi:=hi) (m:=0) k1 (.nils h1) rfl (by grind)⟩
  | @sl _ _ r hi d xs h1 h2=>obtain⟨b,l1,g1,n1,o1,k1,e1⟩:=h.fresh (Av0 xs.length) h1;exact⟨b,l1,g1,n1,o1,.dat (hi:=hi) (m:=xs.length) k1 ((InD.sl h1 h2).mono l1.keeps) rfl e1.symm⟩
  | @row _ _ hi d id ty sz off n xs f h1 h2 h3 h4 h5 h6=>obtain⟨b,l1,g1,n1,o1,k1,e1⟩:=h.fresh (Av0 n) h4;exact⟨b,l1,g1,n1,o1,.dat (hi:=hi) (m:=n) k1 ((InD.row h1 h2 h3 h4 h5 h6).mono l1.keeps) rfl e1.symm⟩
  |agg h1 h2=>obtain⟨b,l1,g1,n1,o1,i1⟩:=a7w ih h h1 h2;exact⟨b,l1,g1,n1,o1,.agg i1.1 i1.2⟩
  |fns h1=>exact c (.fns h1)
  | @val _ _ r hi v h1=>
    cases h1 with
    |agg h1 h2=>obtain⟨b,l1,g1,n1,o1,i1⟩:=a7w ih h h1 h2;exact⟨b,l1,g1,n1,o1,.agg i1.1 i1.2⟩
  | @rel _ _ l v h1 h3=>
    cases h1 with
    |agg h1 h2=>obtain⟨b,l1,g1,n1,o1,i1⟩:=a7w ih h h1 h2;exact⟨b,l1,g1,n1,d0W o1 i1 h3,.agg i1.1 i1.2⟩
theorem Ok.fewer(h:Ok a Γ s){bx:List (Nat×ABox)}(hb:∀p∈bx,p∈a.bx):Γ.le {Γ with N:=λ id=>∃p∈bx,Γ.ν p.1=id}/\Ok {a with bx:=bx} {Γ with N:=λ id=>∃p∈bx,Γ.ν p.1=id} s:=by
 have hl:Γ.le {Γ with N:=λ id=>∃p∈bx,Γ.ν p.1=id}:=⟨ay3 _,ay3 _,ay3 _,λ _ _=>rfl,λ _ _=>rfl,λ i h k=>absurd h (Ax4.2 k),λ id ty sz xs f h1 h2=>⟨fun⟨p,hp,e⟩=>h2 ((h.N id).2 ⟨p,hb p hp,e⟩),f,h1⟩⟩;refine⟨hl,⟨h.n,h.m,h.nxe,h.νlt,h.νinj,h.g,λ id=>Iff.rfl,h.sz,h.small,λ i=>(h.env i).mono hl,h.cons,λ p hp=> ?_,λ p hp q hq e=>h.inj p (hb p hp) q (hb q hq) e,h.nx⟩⟩;obtain⟨h1,b,h2,h3⟩:=h.box p (hb p hp);exact⟨h1,b,h2,h3.mono hl⟩
def c9l(f:AS->AV->TD×AS):Prop:=∀(a:AS) (Γ:Gm) (s:St) (av:AV) (v:V),Ok a Γ s->In Γ av v->∃b,Γ.le b/\b.g=Γ.g/\b.n=Γ.n/\b.ρ=Γ.ρ/\b.ν=Γ.ν/\Ok (f a av).2 b s/\InD b.g b.N (f a av).1 v
theorem b6i{f:AS->AV->TD×AS}(hf:c9l f):∀{l:List AV} {cs:List V} {a:AS} {Γ:Gm},Ok a Γ s->InL Γ l cs->
  ∃b,Γ.le b/\b.g=Γ.g/\b.n=Γ.n/\b.ρ=Γ.ρ/\b.ν=Γ.ν/\Ok (a6C f a l).2 b s/\(a6C f a l).1.length=cs.length/\∀(j:Nat) (d:TD) (c:V),(a6C f a l).1[j]?=some d->cs[j]?=some c->InD b.g b.N d c
 |[],cs,a,Γ,h,hl=>by
  have:cs=[]:=ay7.1 hl.1.symm;subst this;exact⟨Γ,Gm.le.refl Γ,rfl,rfl,rfl,rfl,h,rfl,λ j _ _ hj=>by grind⟩
 |v::r,[],a,Γ,h,hl=>by cases hl.1
 |v::r,c::cs,a,Γ,h,hl=>by
  obtain⟨i,l1,g1,n1,r1,v1,o1,i1⟩:=hf _ _ _ _ _ h (hl.2 0 v c rfl rfl);obtain⟨g,l2,g2,n2,r2,k,o2,i2,i3⟩:=b6i hf (l:=r) (cs:=cs) o1 ⟨by simpa using hl.1,λ j x y hx hy=>(hl.2 (j+1) x y (by grind) (by grind)).mono l1⟩;refine⟨g,l1.trans l2,g2.trans g1,n2.trans n1,r2.trans r1,k.trans v1,o2,by grind[a6C],λ j x y hx hy=> ?_⟩;cases j with
  |zero=>simp[a6C]at hx hy;subst hx;subst hy;exact i1.mono l2.keeps
  |succ j=>grind[a6C]
theorem InD.hi{g:G}{N:Nat->Prop}{r:Bool}{hi hi':Int}{d:TD}{m:Nat}(h:InD g N (.sl r hi d) v)(hl:lenOf v=some m)(hm:(m:Int)<=hi'):InD g N (.sl r hi' d) v:=by
 cases h with
 |nils h1=>simp only[lenOf,az0]at hl;subst hl;exact .nils (by grind)
 |sl h1 h2=>simp only[lenOf,az0]at hl;subst hl;exact .sl hm h2
 |row h1 h2 h3 h4 h5 h6=>simp only[lenOf,az0]at hl;subst hl;exact .row h1 h2 h3 hm h5 h6
theorem a3p:∀n,c9l (b1c n)
 |0=>by
  intro a Γ s av v h _;exact⟨Γ,Gm.le.refl Γ,rfl,rfl,rfl,rfl,h,.any⟩
 |n+1=>by
  intro a Γ s av v h hv;have ih:=a3p n;have c:∀{d:TD},InD Γ.g Γ.N d v->∃g,Γ.le g/\g.g=Γ.g/\g.n=Γ.n/\g.ρ=Γ.ρ/\g.ν=Γ.ν/\Ok a g s/\InD g.g g.N d v:=λ hi=>⟨Γ,Gm.le.refl Γ,rfl,rfl,rfl,rfl,h,hi⟩;cases hv with
  |any=>exact c .any
  |und=>exact c .any
  |bool h1 h2=>exact c .bool
  |int h1 h2=>exact c (.int (by rw[h2];exact h.lower h1) (by rw[h2];exact h.upper h1))
  |str h1 h2=>exact c (.str (by rw[h2];exact h.upper h1))
  |has h1 h2 _=>exact c (.str (by rw[h2];exact h.upper h1))
  |lit=>exact c .lit
  |nils=>exact c (.nils (ar9 0))
  |dat h1 h2 h3 h4=>exact c (h2.hi h3 (by rw[h4];exact h.upper h1))
  | @row nm sz off e o m h0 h1 h2 h3 h4=>
    unfold b1c;simp only;split
    .next ty z k d f hb=>
     split
     .next q=>
      rw[az6,az6,aw5,aw5]at q;obtain⟨⟨hz,t⟩,hc⟩:=q;subst hz;have i:=a0N hb;obtain⟨_,b,u,w⟩:=h.box _ i;cases w with
      | @row _ _ _ _ _ f' xs k1 k2 k3 k4=>obtain⟨l1,o1⟩:=h.fewer (bx:=a.bx.filter λ p=>p.1 !=nm) (λ p hp=>(as2.1 hp).1);refine⟨_,l1,rfl,rfl,rfl,rfl,o1,?_⟩;have r:=h.ent (a0o k1 (a1A h1 h2)) hc;rw[a0s,a1B]at r;refine .row (xs:=xs) (f:=f') u ?_ (by omega) (by rw[h4];exact h.upper h2) t λ x hx=>(k3 x (at9 (au4 hx))).mono l1.keeps;rintro⟨p,hp,e⟩;obtain⟨y,A⟩:=as2.1 hp;have:=h.inj p y _ i e;grind
     .exact c .any
    .exact c .any
  |agg h1 h2=>
   obtain⟨j,l1,g1,n1,r1,v1,o1,i1,i2⟩:=b6i ih h ⟨h1,h2⟩;have base:InD j.g j.N (.agg _) _:= .agg i1 i2;refine⟨j,l1,g1,n1,r1,v1,o1,?_⟩;simp only[b1c];split
   .next hc=>
    rw[az6,az6]at hc;exact base.le (by grind[TD.le])
   .split
    .next hc=>
     refine .rel base ?_;unfold d3C at hc;split at hc
     .next e he=>
      obtain⟨h3,k,x,ks,is,B,b',rfl,h4,h5,h6⟩:=c3z ⟨h1,h2⟩ he;exact⟨_,_,_,_,_,_,rfl,h4,h5,by rw[<-h6];exact h.ent h3 hc⟩
     .cases hc
    .exact base
  |tup h1 h2=>exact c .any
  |slf h1 h2 h3=>exact c .any
  | @fn f l k asq bs h1 h2 h3 h4=>
    unfold b1c;simp only;cases l with
    |nil=>
     cases k with
     |nil=>have e1:asq=[]:=ay7.1 h1.symm;have e2:bs=[]:=ay7.1 h2.symm;subst e1;subst e2;exact c (.fns (az7.2 rfl))
     |cons=>exact c .any
    |cons=>cases k<;>exact c .any
  |fns h1=>exact c (.fns h1)
  |ptr h1=>exact c .any
  |eptr h1 h2 h3=>exact c .any
  |cptr h1 h2=>exact c .any
  |cptrR h1 h2 h3 h4 h5=>exact c .any
end
end
section
open Go.PV
abbrev R:=Option (List (AV×AS))
def one(v:AV)(s:AS):R:=some [(v,s)]
def GoodP(c:List (AV×AS))(Γ:Gm)(s:St)(v:V):Prop:=∃p∈c,∃b,Γ.le b/\In b p.1 v/\Ok p.2 b s
def a0x(e:LE):Option Int:=if e.ts.isEmpty then some e.c else none
def c9K(s:AS)(k:IntKind)(e:LE):Bool:=s.ent (e.addc (- b7v k))&&s.ent (e.neg.addc (b1A k))
def c9i(s:AS)(k:IntKind):R:=one (.int k (fresh s (b7v k) (b1A k)).1) (fresh s (b7v k) (b1A k)).2
def b5d(s:AS)(k:IntKind)(e:LE):R:=if c9K s k e then one (.int k e) s else c9i s k
def d6G(s:AS)(k:IntKind)(x y:LE):R:=
 match a0x y with
 |some c=>if 0<c/\c<=b1A k then
   (if s.ent x&&s.ent (x.neg.addc (b1A k))then
    let r:=fresh s 0 (upper s x/c)
    one (.int k r.1) ((r.2.with (x.sub (r.1.smul c))).with (((r.1.smul c).addc (c-1)).sub x))
   else c9i s k)
  else none
 |none=>if s.ent (y.addc (-1))&&s.ent x&&s.ent (x.neg.addc (b1A k))then
   let r:=fresh s 0 (b1A k)
   one (.int k r.1) (r.2.with (x.sub r.1))
  else none
def d6o(s:AS)(k:IntKind)(x y:LE):R:=
 match a0x y with
 |some c=>if 0<c then
   (if s.ent x then let r:=fresh s 0 (c-1);one (.int k r.1) (r.2.with (x.sub r.1))
   else let r:=fresh s (1-c) (c-1);one (.int k r.1) r.2)
  else none
 |none=>if s.ent (y.addc (-1))&&s.ent x then
   let r:=fresh s 0 (upper s x)
   one (.int k r.1) ((r.2.with (x.sub r.1)).with ((y.sub r.1).addc (-1)))
  else none
def d9f(s:AS)(k:IntKind)(y:LE):R:=
 match a0x y with
 |some c=>if 0<=c/\c<=b1A k then let r:=fresh s 0 c;one (.int k r.1) r.2 else c9i s k
 |none=>c9i s k
def d8T(s:AS)(k:IntKind)(x y:LE):R:=
 match a0x x with
 |some c=>b5d s k (y.smul c)
 |none=>match a0x y with
  |some c=>b5d s k (x.smul c)
  |none=>c9i s k
def c6n(k:IntKind)(y:LE):Int:=match a0x y with
 |some c=>if 0<=c/\c<=k.bits then 2^c.toNat else 1
 |none=>1
def d7o(s:AS)(k:IntKind)(x y:LE):R:=
 if s.ent y&&s.ent x then let r:=fresh s 0 (upper s x/c6n k y);one (.int k r.1) (r.2.with (x.sub r.1))else none
def b1D(op:BinOp)(k:IntKind)(x y:LE)(s:AS):R:=
 match op with
 | .add=>b5d s k (x.add y)
 | .sub=>b5d s k (x.sub y)
 | .mul=>d8T s k x y
 | .lss=>one (.bool (.ge ((y.sub x).addc (-1)))) s
 | .leq=>one (.bool (.ge (y.sub x))) s
 | .gtr=>one (.bool (.ge ((x.sub y).addc (-1)))) s
 | .geq=>one (.bool (.ge (x.sub y))) s
 | .eql=>one (.bool (.eq (x.sub y))) s
 | .neq=>one (.bool (.ne (x.sub y))) s
 | .quo=>d6G s k x y
 | .rem=>d6o s k x y
 | .and=>d9f s k y
 | .or| .xor| .andNot=>c9i s k
 | .shr=>d7o s k x y
 | .shl=>if s.ent y then c9i s k else none
def d8h(op:BinOp)(x y:LE)(s:AS):R:=
 match op with
 | .add=>if s.ent ((x.add y).neg.addc (b1A .i64))then one (.str (x.add y)) s else none
 | .eql=>one (.bool (if a0x x=some 0||a0x y=some 0 then .eq (x.sub y)else .teq (x.sub y))) s
 | .neq=>one (.bool (if a0x x=some 0||a0x y=some 0 then .ne (x.sub y)else .feq (x.sub y))) s
 | .lss| .leq| .gtr| .geq=>one (.bool .unk) s
 |_=>none
section
variable {P:Program} {a:AS} {Γ:Gm} {s:St}
theorem GoodP.one{av:AV}{c:AS}{b:Gm}{v:V}(hl:Γ.le b)(hv:In b av v)(ho:Ok c b s):GoodP [(av,c)] Γ s v:=⟨_,az7.2 rfl,b,hl,hv,ho⟩
def d1v(b:R)(Γ:Gm)(s:St)(k:IntKind)(m:Int):Prop:=∃l,b=some l/\GoodP l Γ s (.lit (.int k m))
theorem a0X(k:IntKind)(x:Int):b7v k<=k.wrap x/\k.wrap x<=b1A k:=by
 cases k<;>simp[IntKind.wrap,IntKind.bits,IntKind.signed,b7v,b1A]<;>(try split)<;>omega
theorem a2h(k:IntKind)(x:Int)(h1:b7v k<=x)(h2:x<=b1A k):k.wrap x=x:=by
 cases k<;>simp[IntKind.wrap,IntKind.bits,IntKind.signed,b7v,b1A]at h1 h2|-<;>(try split)<;>omega
variable {m:Int} {k:IntKind}
theorem a5c(h:Ok a Γ s)(h1:b7v k<=m)(h2:m<=b1A k):d1v (c9i a k) Γ s k m:=by
 obtain⟨b,l1,_,_,o1,k1,e1⟩:=h.fresh h1 h2;exact⟨_,rfl,GoodP.one l1 (.int k1 e1.symm) o1⟩
variable {e:LE}
theorem a6l(h:Ok a Γ s)(he:e.ok Γ.ρ Γ.n)(hm:m=e.ev Γ.ρ):d1v (b5d a k e) Γ s k (k.wrap m):=by
 unfold b5d;split
 .next hc=>
  unfold c9K at hc;rw[az6]at hc;have h1:=h.ent (a0k he) hc.1;have h2:=h.ent (a0k (a1g he)) hc.2;rw[a0j]at h1;rw[a0j,a1m]at h2;refine⟨_,rfl,GoodP.one (Gm.le.refl Γ) (.int he ?_) h⟩;grind[a2h]
 grind[a5c,a0X]
variable {c:Int}
theorem a0B(h:a0x e=some c)(ρ:Nat->Int):e.ev ρ=c:=by
 grind[a0x,LE.ev,tsv]
theorem c5M{x:Int}(h0:0<=c)(h1:c<=b1A k):0<=k.wrap ((BitVec.ofInt k.bits x&&&BitVec.ofInt k.bits c).toNat:Int)/\k.wrap ((BitVec.ofInt k.bits x&&&BitVec.ofInt k.bits c).toNat:Int)<=c:=by
 have hb:(BitVec.ofInt k.bits x&&&BitVec.ofInt k.bits c).toNat<=(BitVec.ofInt k.bits c).toNat:=by
  rw[BitVec.toNat_and];exact Nat.and_le_right
 have hc:((BitVec.ofInt k.bits c).toNat:Int)=c:=by
  rw[BitVec.toNat_ofInt];have:c<2^k.bits:=by cases k<;>simp[b1A,IntKind.bits]at h1|-<;>omega
  rw[Int.emod_eq_of_lt h0 (by grind)];exact Int.toNat_of_nonneg h0
 have h2:((BitVec.ofInt k.bits x&&&BitVec.ofInt k.bits c).toNat:Int)<=c:=by omega
 rw[a2h k _ (by cases k<;>simp[b7v]<;>omega) (by omega)];omega
theorem d1B(h:Ok a Γ s){op:BinOp}{C:IntKind}{x y:LE}(hx:x.ok Γ.ρ Γ.n)(hy:y.ok Γ.ρ Γ.n){l:List (AV×AS)}(hr:b1D op k x y a=some l)(hk:k=C\/op= .shl\/op= .shr){t:Nat}:
  ∃u v,a0c P (Go.binOp op t (.int k (x.ev Γ.ρ)) (.int C (y.ev Γ.ρ)))=some u/\a1w u=some v/\GoodP l Γ s v:=by
 have f:∀{m:Int} {u:Value},d1v (b1D op k x y a) Γ s k m->u= .int k m->∃v,a1w u=some v/\GoodP l Γ s v:=by
  rintro m u ⟨l',e,hg⟩ rfl;rw[hr]at e;injection e with e
  subst e;exact⟨_,rfl,hg⟩
 have j:∀{b:AB} {t:Bool} {u:Value},b1D op k x y a=one (.bool b) a->b.ok Γ.ρ Γ.n->b.holds Γ.ρ t->u= .bool t->∃v,a1w u=some v/\GoodP l Γ s v:=by
  rintro b t u e hb ht rfl;rw[hr]at e;injection e with e
  subst e;exact⟨_,rfl,GoodP.one (Gm.le.refl Γ) (.bool hb ht) h⟩
 have d:∀{u:Value},a0c P (Go.binOp op t (.int k (x.ev Γ.ρ)) (.int C (y.ev Γ.ρ)))=some u->(∃v,a1w u=some v/\GoodP l Γ s v)->∃u v,a0c P (Go.binOp op t (.int k (x.ev Γ.ρ)) (.int C (y.ev Γ.ρ)))=some u/\a1w u=some v/\GoodP l Γ s v:=
  λ h1 ⟨v,h2,h3⟩=>⟨_,v,h1,h2,h3⟩
 have w:=a0o hx hy;have D:=a0o hy hx;have A:=a0s (ρ:=Γ.ρ) x y;have E:=a0s (ρ:=Γ.ρ) y x;cases op;case shl=>
  simp only[b1D]at hr;split at hr
  .next hc=>
   have h0:=h.ent hy hc;refine d (u:= .int k (k.wrap (x.ev Γ.ρ*2^(min (y.ev Γ.ρ).toNat k.bits)))) ?_ (f (by simp only[b1D,ax3 hc];grind[a5c,a0X]) rfl);simp only[Go.binOp,Op.shift];rw[ay9 (by omega)];rfl
  .cases hr
 case shr=>
  simp only[b1D,d7o]at hr;split at hr
  .next hc=>
   rw[az6]at hc;have h0:=h.ent hy hc.1;have h1:=h.ent hx hc.2;refine d (u:= .int k ((x.ev Γ.ρ).fdiv (2^(min (y.ev Γ.ρ).toNat k.bits)))) ?_ (f ?_ rfl)
   .simp only[Go.binOp,Op.shift];rw[ay9 (by omega)];rfl
   .simp only[b1D,d7o,hc.1,hc.2,an5,aw4];have hp:(0:Int)<2^(min (y.ev Γ.ρ).toNat k.bits):=Int.pow_pos (by decide);have z:0<c6n k y/\c6n k y<=2^(min (y.ev Γ.ρ).toNat k.bits):=by
     unfold c6n;split
     .next c I=>
      split
      .simp_all[a0B]
      grind
     .grind
    generalize (2^(min (y.ev Γ.ρ).toNat k.bits):Int)=q at hp z;have e:(x.ev Γ.ρ).fdiv q=x.ev Γ.ρ/q:=Int.fdiv_eq_ediv_of_nonneg _ (aq3 hp);have d0:0<=x.ev Γ.ρ/q:=am1 h1 (aq3 hp);have d1:x.ev Γ.ρ/q<=x.ev Γ.ρ:=Au0 _ h1;rw[e];have hu:=h.upper hx;have d2:x.ev Γ.ρ/q<=upper a x/c6n k y:=by
     have e2:x.ev Γ.ρ/q<=x.ev Γ.ρ/c6n k y:=by
      rw[As4 z.1];have m1:x.ev Γ.ρ/q*c6n k y<=x.ev Γ.ρ/q*q:=aq1 z.2 d0;have m2:x.ev Γ.ρ/q*q<=x.ev Γ.ρ:=Int.ediv_mul_le _ (by omega);omega
     have e3:x.ev Γ.ρ/c6n k y<=upper a x/c6n k y:=Int.ediv_le_ediv z.1 hu;omega
    obtain⟨o,l1,_,_,o1,k1,e1⟩:=h.fresh d0 (hi:=upper a x/c6n k y) d2;have p:=a0p hx l1.n l1.ρ;have J:=a0q hx l1.ρ;exact⟨_,rfl,GoodP.one l1 (.int k1 e1.symm) (o1.with (a0o p k1) (by grind[a0s]))⟩
  .cases hr
 all_goals
  have F:k=C:=by grind
  subst F
 case add=>
  refine d (u:= .int k (k.wrap (x.ev Γ.ρ+y.ev Γ.ρ))) (by simp[Go.binOp,Op.intArith,a0c,pure]) (f (by simp only[b1D];grind[a6l,a1A,a1B]) rfl)
 case sub=>
  refine d (u:= .int k (k.wrap (x.ev Γ.ρ-y.ev Γ.ρ))) (by simp[Go.binOp,Op.intArith,a0c,pure]) (f (by grind[b1D,a6l]) rfl)
 case mul=>
  refine d (u:= .int k (k.wrap (x.ev Γ.ρ*y.ev Γ.ρ))) (by simp[Go.binOp,Op.intArith,a0c,pure]) (f ?_ rfl);grind[b1D,d8T,a6l,a0Q,a0R,a0B,a5c,a0X]
 case lss=>exact d (u:= .bool (decide (x.ev Γ.ρ<y.ev Γ.ρ))) (by simp[Go.binOp,Op.intCmp,a0c,pure]) (j rfl (a0k D) (by simp only[AB.holds,a0j,E,ay2];omega) rfl)
 case leq=>exact d (u:= .bool (decide (x.ev Γ.ρ<=y.ev Γ.ρ))) (by simp[Go.binOp,Op.intCmp,a0c,pure]) (j rfl D (by simp_all[AB.holds]) rfl)
 case gtr=>exact d (u:= .bool (decide (x.ev Γ.ρ>y.ev Γ.ρ))) (by simp[Go.binOp,Op.intCmp,a0c,pure]) (j rfl (a0k w) (by simp only[AB.holds,a0j,A,ay2];omega) rfl)
 case geq=>exact d (u:= .bool (decide (x.ev Γ.ρ>=y.ev Γ.ρ))) (by simp[Go.binOp,Op.intCmp,a0c,pure]) (j rfl w (by simp_all[AB.holds]) rfl)
 case eql=>exact d (u:= .bool (x.ev Γ.ρ==y.ev Γ.ρ)) (by simp[Go.binOp,Op.intCmp,a0c,pure]) (j rfl w (by simp only[AB.holds,A,aw5];omega) rfl)
 case neq=>exact d (u:= .bool (x.ev Γ.ρ !=y.ev Γ.ρ)) (by simp[Go.binOp,Op.intCmp,a0c,pure]) (j rfl w (by simp only[AB.holds,A,Av2,Au8];omega) rfl)
 case quo=>
  simp only[b1D,d6G]at hr;have key:y.ev Γ.ρ≠0->a0c P (Go.binOp .quo t (.int k (x.ev Γ.ρ)) (.int k (y.ev Γ.ρ)))=some (.int k (k.wrap ((x.ev Γ.ρ).tdiv (y.ev Γ.ρ)))):=λ h0=>by
   simp[Go.binOp,Op.intDiv,h0,a0c,pure]
  split at hr
  .next c hc=>
   have ey:=a0B hc Γ.ρ;split at hr
   .next i=>
    refine d (key (by omega)) (f ?_ rfl);simp only[b1D,d6G,hc,ax3 i];split
    .next hb=>
     rw[az6]at hb;have g:=h.ent hx hb.1;have p:=h.ent (a0k (a1g hx)) hb.2;rw[a0j,a1m]at p;rw[ey,Au7 g];have d0:0<=x.ev Γ.ρ/c:=am1 g (by omega);have d1:x.ev Γ.ρ/c<=x.ev Γ.ρ:=Au0 _ g;have hu:=h.upper hx;have d2:x.ev Γ.ρ/c<=upper a x/c:=Int.ediv_le_ediv i.1 hu;have d3:=ao2 (x.ev Γ.ρ) c;have d4:=Au4 (x.ev Γ.ρ) (show c≠0 by omega);have d5:=Ax0 (x.ev Γ.ρ) i.1;rw[a2h k _ (by cases k<;>simp[b7v]<;>omega) (by omega)];obtain⟨o,l1,_,_,o1,k1,e1⟩:=h.fresh d0 d2;have n:=a0p hx l1.n l1.ρ;have r:=a0q hx l1.ρ;refine⟨_,rfl,GoodP.one l1 (.int k1 e1.symm) ((o1.with (a0o n (a0Q k1)) ?_).with (a0o (a0k (a0Q k1)) n) ?_)⟩
     .rw[a0s,a0R,r,e1];omega
     .rw[a0s,a0j,a0R,r,e1];omega
    grind[a5c,a0X]
   .cases hr
  .next hc=>
   split at hr
   .next hb=>
    simp only[az6]at hb;have B:=h.ent (a0k hy) hb.1.1;have g:=h.ent hx hb.1.2;have p:=h.ent (a0k (a1g hx)) hb.2;rw[a0j]at B;rw[a0j,a1m]at p;refine d (key (by omega)) (f ?_ rfl);simp only[b1D,d6G,hc,hb.1.1,hb.1.2,hb.2,an5,aw4];rw[Au7 g];have d0:0<=x.ev Γ.ρ/y.ev Γ.ρ:=am1 g (by omega);have d1:x.ev Γ.ρ/y.ev Γ.ρ<=x.ev Γ.ρ:=Au0 _ g;rw[a2h k _ (by cases k<;>simp[b7v]<;>omega) (by omega)];obtain⟨o,l1,_,_,o1,k1,e1⟩:=h.fresh d0 (hi:=b1A k) (by omega);have n:=a0p hx l1.n l1.ρ;have r:=a0q hx l1.ρ;exact⟨_,rfl,GoodP.one l1 (.int k1 e1.symm) (o1.with (a0o n k1) (by grind[a0s]))⟩
   .cases hr
 case rem=>
  simp only[b1D,d6o]at hr;have key:y.ev Γ.ρ≠0->a0c P (Go.binOp .rem t (.int k (x.ev Γ.ρ)) (.int k (y.ev Γ.ρ)))=some (.int k ((x.ev Γ.ρ).tmod (y.ev Γ.ρ))):=λ h0=>by
   simp[Go.binOp,Op.intDiv,h0,a0c,pure]
  split at hr
  .next c hc=>
   have ey:=a0B hc Γ.ρ;split at hr
   .next i=>
    refine d (key (by omega)) (f ?_ rfl);simp only[b1D,d6o,hc,ax3 i];split
    .next hb=>
     have g:=h.ent hx hb;rw[ey,Au6 g];have d4:=Au4 (x.ev Γ.ρ) (show c≠0 by omega);have d5:=Ax0 (x.ev Γ.ρ) i;have d6:x.ev Γ.ρ % c<=x.ev Γ.ρ:=by
      have:=ao2 (x.ev Γ.ρ) c;have:0<=c*(x.ev Γ.ρ/c):=ao3 (by omega) (am1 g (by omega));omega
     obtain⟨o,l1,_,_,o1,k1,e1⟩:=h.fresh d4 (hi:=c-1) (by omega);have n:=a0p hx l1.n l1.ρ;have r:=a0q hx l1.ρ;exact⟨_,rfl,GoodP.one l1 (.int k1 e1.symm) (o1.with (a0o n k1) (by grind[a0s]))⟩
    .rw[ey];have d1:=Int.tmod_lt_of_pos (x.ev Γ.ρ) i;have d2: -c<(x.ev Γ.ρ).tmod c:=Int.lt_tmod_of_pos (x.ev Γ.ρ) i;obtain⟨o,l1,_,_,o1,k1,e1⟩:=h.fresh (lo:=1-c) (x:=(x.ev Γ.ρ).tmod c) (hi:=c-1) (by omega) (by omega);exact⟨_,rfl,GoodP.one l1 (.int k1 e1.symm) o1⟩
   .cases hr
  .next hc=>
   split at hr
   .next hb=>
    simp only[az6]at hb;have B:=h.ent (a0k hy) hb.1;have g:=h.ent hx hb.2;rw[a0j]at B;refine d (key (by omega)) (f ?_ rfl);simp only[b1D,d6o,hc,hb.1,hb.2,an5,aw4];rw[Au6 g];have d4:=Au4 (x.ev Γ.ρ) (show y.ev Γ.ρ≠0 by omega);have d5:=Ax0 (x.ev Γ.ρ) (show 0<y.ev Γ.ρ by omega);have d6:x.ev Γ.ρ % y.ev Γ.ρ<=x.ev Γ.ρ:=by
     have:=ao2 (x.ev Γ.ρ) (y.ev Γ.ρ);have:0<=y.ev Γ.ρ*(x.ev Γ.ρ/y.ev Γ.ρ):=ao3 (by omega) (am1 g (by omega));omega
    have hu:=h.upper hx;obtain⟨o,l1,_,_,o1,k1,e1⟩:=h.fresh d4 (hi:=upper a x) (by omega);have n:=a0p hx l1.n l1.ρ;have r:=a0q hx l1.ρ;have G:=a0p hy l1.n l1.ρ;have H:=a0q hy l1.ρ;refine⟨_,rfl,GoodP.one l1 (.int k1 e1.symm) ((o1.with (a0o n k1) (by grind[a0s])).with (a0k (a0o G k1)) (by rw[a0j,a0s,H,e1];omega))⟩
   .cases hr
 case and=>
  refine d (u:= .int k (k.wrap ((BitVec.ofInt k.bits (x.ev Γ.ρ)&&&BitVec.ofInt k.bits (y.ev Γ.ρ)).toNat:Int))) (by simp[Go.binOp,Op.intBits,a0c,pure]) (f ?_ rfl);simp only[b1D,d9f];split
  .next c hc=>
   split
   .next i=>
    rw[a0B hc Γ.ρ];obtain⟨d0,d1⟩:=c5M (x:=x.ev Γ.ρ) i.1 i.2;obtain⟨o,l1,_,_,o1,k1,e1⟩:=h.fresh d0 d1;exact⟨_,rfl,GoodP.one l1 (.int k1 e1.symm) o1⟩
   grind[a5c,a0X]
  grind[a5c,a0X]
 case or=>exact d (u:= .int k (k.wrap ((BitVec.ofInt k.bits (x.ev Γ.ρ)|||BitVec.ofInt k.bits (y.ev Γ.ρ)).toNat:Int))) (by simp[Go.binOp,Op.intBits,a0c,pure]) (f (by grind[b1D,a5c,a0X]) rfl)
 case xor=>exact d (u:= .int k (k.wrap ((BitVec.ofInt k.bits (x.ev Γ.ρ)^^^BitVec.ofInt k.bits (y.ev Γ.ρ)).toNat:Int))) (by simp[Go.binOp,Op.intBits,a0c,pure]) (f (by grind[b1D,a5c,a0X]) rfl)
 case andNot=>exact d (u:= .int k (k.wrap ((BitVec.ofInt k.bits (x.ev Γ.ρ)&&& ~~~(BitVec.ofInt k.bits (y.ev Γ.ρ))).toNat:Int))) (by simp[Go.binOp,Op.intBits,a0c,pure]) (f (by grind[b1D,a5c,a0X]) rfl)
end
end
section
open Go.PV
theorem a1r{P:Program}{b c:Type}:∀(x:Sem b) (f:b->Sem c),a0c P (x.bind f)=(a0c P x).bind λ a=>a0c P (f a)
 | .pure a,f=>rfl
 | .program k,f=>by simp only[Sem.bind,a0c];exact a1r _ _
 | .mark m k,f=>by simp only[Sem.bind,a0c];exact a1r _ _
 | .load ..,_| .store ..,_| .new ..,_| .shape ..,_| .freeze ..,_| .frozen ..,_| .getObj ..,_| .setObj ..,_| .choose ..,_| .sys ..,_| .halt ..,_=>rfl
variable {P:Program} {b:Type}
theorem a0a{c:Type}(x:Sem b)(f:b->Sem c):a0c P (x>>=f)=(a0c P x).bind λ a=>a0c P (f a):=a1r x f
theorem a0i(a:b):a0c P (Pure.pure a:Sem b)=some a:=rfl
theorem a0g{t:Nat}{d:TypeDesc}(h:P.underlying t=some d):a0c P (Go.underlying t)=some d:=by
 show a0c P (match P.underlying t with|some d=>(Pure.pure d:Sem TypeDesc)|none=>stuck "no such type")=_;rw[h];rfl
def elA(s:AS):AV->Option (LE×TD)
 | .nils=>some (.k 0,.any)
 | .dat _ e d=>some (e,d)
 | .row nm sz off e=>match a4U s nm with
   |some (.row _ z k d _)=>if z==sz&&s.ent ((k.sub off).sub e)then some (e,d)else none
   |_=>none
 |_=>none
def c1G:AV->Option LE
 | .nils=>some (.k 0)
 | .dat _ e _| .row _ _ _ e=>some e
 |_=>none
section
variable {P:Program} {a:AS} {Γ:Gm} {s:St}
theorem a9A{g:G}{N:Nat->Prop}{d:TD}{v:V}{n:Nat}(h:InD g N d v)(hd:a4x d=some n):v.cells.length=n:=by
 cases h with
 |any=>cases hd
 |agg h1 h2=>grind[a4x,V.cells]
 |val h1=>
  cases h1 with
  |agg h1 h2=>grind[a4x,V.cells,b2S,List.length_nil]
 |rel h1 _=>
  cases h1 with
  |agg h1 h2=>grind[a4x,V.cells]
 |_=>grind[a4x,V.cells]
theorem d0u(h:Ok a Γ s){av:AV}{v:V}(hv:In Γ av v){e:LE}{d:TD}(he:elA a av=some (e,d)):
  e.ok Γ.ρ Γ.n/\∃xs,a4Q (a0b s.h) v=some xs/\(xs.length:Int)=e.ev Γ.ρ/\∀x∈xs,InD Γ.g Γ.N d x:=by
 cases hv with
 |nils=>simp only[elA,az0,az8]at he;obtain⟨rfl,rfl⟩:=he;exact⟨a1W 0,[],rfl,by rw[a1P];rfl,λ x hx=>by cases hx⟩
 | @dat r l p hi v m h1 h2 h3 h4=>
   simp only[elA,az0,az8]at he;obtain⟨rfl,rfl⟩:=he;refine⟨h1,?_⟩;cases h2 with
   |nils k1=>simp only[lenOf,az0]at h3;subst h3;exact⟨[],rfl,h4,λ x hx=>by cases hx⟩
   |sl k1 k2=>simp only[lenOf,az0]at h3;subst h3;exact⟨_,rfl,h4,λ x hx=>(k2 x hx).zero⟩
   | @row _ _ _ _ id ty sz off n xs f k1 k2 k3 k4 k6 k5=>
     simp only[lenOf,az0]at h3;subst h3;refine⟨(xs.drop off).take n,?_,?_,k5⟩
     .simp only[a4Q,<-h.g,k1,ao5,k3,aw4]
     grind
 | @row nm sz off l o m h0 h1 h2 h3 h4=>
   simp only[elA]at he;split at he
   .next ty z k p f hb=>
    split at he
    .next hc=>
     rw[az6,aw5]at hc;obtain⟨hz,hc⟩:=hc;subst hz;simp only[az0,az8]at he;obtain⟨rfl,rfl⟩:=he;obtain⟨_,b,g,i⟩:=h.box _ (a0N hb);cases i with
     | @row _ _ _ _ _ f' xs k1 k2 k3 k4=>
       have c:=h.ent (a0o (a0o k1 h1) h2) hc;rw[a0s,a0s]at c;have j:a0b s.h (Γ.ν nm)=some (.row ty z xs f'):=by rw[<-h.g];exact g
       refine⟨h2,(xs.drop o).take m,?_,?_,λ x hx=>k3 x (at9 (au4 hx))⟩
       .have:o+m<=xs.length:=by omega
        simp_all[a4Q]
       grind
    .cases he
   .cases he
 |_=>simp[elA]at he
theorem b3Z{av:AV}{v:V}(hv:In Γ av v){e:LE}(he:c1G av=some e):e.ok Γ.ρ Γ.n/\∃m,lenOf v=some m/\(m:Int)=e.ev Γ.ρ:=by
 cases hv with
 |nils=>simp only[c1G,az0]at he;subst he;exact⟨a1W 0,0,rfl,by rw[a1P];rfl⟩
 |dat h1 h2 h3 h4=>grind[c1G]
 |row h0 h1 h2 h3 h4=>simp only[c1G,az0]at he;subst he;exact⟨h2,_,rfl,h4⟩
 |_=>simp[c1G]at he
def d8g(P:Program)(x:Sem Value)(l:List (AV×AS))(Γ:Gm)(s:St):Prop:=∃u v,a0c P x=some u/\a1w u=some v/\GoodP l Γ s v
theorem a8q(b:ByteArray):b.toList.length=b.size:=by rw[ByteArray.toList_eq];rfl
theorem d5S{b:ByteArray}(h:b.size=0):b.toList=[]:=ay7.1 (by rw[a8q,h])
theorem d0J(h:Ok a Γ s){op:BinOp}{x y:LE}{b c:ByteArray}(hx:x.ok Γ.ρ Γ.n)(hy:y.ok Γ.ρ Γ.n)(ex:(b.size:Int)=x.ev Γ.ρ)(ey:(c.size:Int)=y.ev Γ.ρ){l:List (AV×AS)}(hr:d8h op x y a=some l){t:Nat}:
  d8g P (Go.binOp op t (.string b) (.string c)) l Γ s:=by
 have f:=a0o hx hy;have g:=a0s (ρ:=Γ.ρ) x y;have d:∀{q:AB} {t:Bool},some l=one (.bool q) a->q.ok Γ.ρ Γ.n->q.holds Γ.ρ t->GoodP l Γ s (.lit (.bool t)):=by
  intro q t e hb ht;injection e with e
  subst e;exact GoodP.one (Gm.le.refl Γ) (.bool hb ht) h
 have i:b.toList==c.toList->x.ev Γ.ρ-y.ev Γ.ρ=0:=λ e=>by
  have e:b.toList=c.toList:=by simpa using e
  have:=an8 List.length e;grind[a8q]
 have zero:(a0x x=some 0||a0x y=some 0)=true->x.ev Γ.ρ-y.ev Γ.ρ=0->b.toList==c.toList:=λ hc h0=>by
  have:b.size=0/\c.size=0:=by
   simp only[ay8,ay2]at hc;rcases hc with hc|hc
   .grind[a0B]
   .grind[a0B]
  simp_all
 cases op;case add=>
  simp only[d8h]at hr;split at hr
  .next hc=>
   have h0:=h.ent (a0k (a1g (a1A hx hy))) hc;rw[a0j,a1m,a1B]at h0;injection hr with hr
   subst hr;refine⟨.string (b++c),_,?_,rfl,GoodP.one (Gm.le.refl Γ) (.str (a1A hx hy) (by grind[a1B])) h⟩;simp only[Go.binOp,Op.stringOp];rw[ay9 (by
    have:IntKind.max .i64=b1A .i64:=rfl;rw[this];omega)]
   rfl
  .cases hr
 case eql=>
  refine⟨.bool (b.toList==c.toList),_,rfl,rfl,d hr.symm ?_ ?_⟩
  .split<;>exact f
  grind[AB.holds]
 case neq=>
  refine⟨.bool (!(b.toList==c.toList)),_,rfl,rfl,d hr.symm ?_ ?_⟩
  .split<;>exact f
  grind[AB.holds]
 case lss=>exact⟨.bool _,_,rfl,rfl,d hr.symm av5 av5⟩
 case leq=>exact⟨.bool _,_,rfl,rfl,d hr.symm av5 av5⟩
 case gtr=>exact⟨.bool _,_,rfl,rfl,d hr.symm av5 av5⟩
 case geq=>exact⟨.bool _,_,rfl,rfl,d hr.symm av5 av5⟩
 all_goals cases hr
end
end
section
open Go.PV
def a8B(s:AS)(b:LE):Option AV->Option LE
 |none=>some b
 |some (.int _ e)=>some e
 |_=>none
def a7i(s:AS)(l h n:LE):Bool:=s.ent l&&s.ent (h.sub l)&&s.ent (n.sub h)
section
variable (P:Program)
def b3g(t:Nat):Bool:=match P.underlying t with|some .string=>true|_=>false
def d5r(sz:Nat)(v:AV)(l h n:LE)(s:AS):R:=
 match v with
 | .nils=>one .nils s
 | .row nm z off _=>if z !=sz then none else
   if a0x l=some 0||s.ent ((h.sub l).addc (-1))then one (.row nm sz (off.add l) (h.sub l)) s
   else match(a2O s v).1 with
    | .sl r _ d=>one (.dat r (h.sub l) d) (a2O s v).2
    |_=>none
 | .dat r _ d=>if a4x d==some sz||a0x n==some 0&& !r then one (.dat r (h.sub l) d) s else none
 |_=>none
def c5u(t:Nat)(v:AV)(lo hi mx:Option AV)(s:AS):R:=
 match lo,hi,mx,v with
 |none,some (.int _ n),some (.int _ m),.dat false e d=>if(a2G P t).isSome&&((a2G P t).bind (a1M P)).isSome&& !b3g P t&&(decide (n=m)&&(s.ent n&&s.ent (e.sub n)))then some [(.nils,s.with n.neg),(.slf n d,s)]else none
 |_,_,_,_=>none
def c5f(t:Nat)(v:AV)(lo hi mx:Option AV)(s:AS):R:=
 if mx.isSome then c5u P t v lo hi mx s else
 match v with
 | .str n=>if !b3g P t then none else
   match a8B s (.k 0) lo,a8B s n hi with
   |some l,some h=>if a7i s l h n then one (.str (h.sub l)) s else none
   |_,_=>none
 |v=>match a2G P t with
  |none=>none
  |some e=>match a1M P e,c1G v with
   |some sz,some n=>match a8B s (.k 0) lo,a8B s n hi with
    |some l,some h=>if a7i s l h n then d5r sz v l h n s else none
    |_,_=>none
   |_,_=>none
end
section
variable {P:Program} {a:AS} {Γ:Gm} {s:St}
def b5E(Γ:Gm)(x:Option AV)(v:Option V):Prop:=match x,v with
 |none,none=>True
 |some a,some v=>In Γ a v
 |_,_=>False
theorem a6e{Γ:Gm}{x:Option AV}{v:Option V}{b e:LE}(hx:b5E Γ x v)(hd:b.ok Γ.ρ Γ.n)(hb:a8B a b x=some e):
  e.ok Γ.ρ Γ.n/\((v=none/\e=b)\/∃k,v=some (.lit (.int k (e.ev Γ.ρ)))):=by
 cases x with
 |none=>
  cases v with
  |none=>simp only[a8B,az0]at hb;grind
  |some v=>exact hx.elim
 |some x=>
  cases v with
  |none=>exact hx.elim
  |some v=>
   have hx:In Γ x v:=hx;cases hx with
   |int h1 h2=>grind[a8B]
   |_=>simp[a8B]at hb
variable {k:IntKind}
theorem a1G{i:Int}{y:Nat}{c:BoundsCode}(h0:0<=i)(h1:i<=y):a0c P (Instr.sliceBound (.int k i) y c)=some i.toNat:=by
 simp only[Instr.sliceBound,asIntOf];show a0c P (if 0<=i/\i<=(y:Int)then(Pure.pure i.toNat:Sem Nat)else _)=_;rw[ax3 ⟨h0,h1⟩];rfl
variable {hi lo:Option V} {t:Nat}
theorem b7I(h:Ok a Γ s){b:ByteArray}{n l u:LE}(ht:b3g P t=true)(hn:n.ok Γ.ρ Γ.n)(hl:l.ok Γ.ρ Γ.n)(hu:u.ok Γ.ρ Γ.n)(en:(b.size:Int)=n.ev Γ.ρ)
  (j:(lo=none/\l= .k 0)\/∃k,lo=some (.lit (.int k (l.ev Γ.ρ)))) (m:(hi=none/\u=n)\/∃k,hi=some (.lit (.int k (u.ev Γ.ρ)))) (hb:a7i a l u n=true):
  ∃v,a3d P t (.lit (.string b)) lo hi none=some v/\In Γ (.str (u.sub l)) v:=by
 unfold a7i at hb;simp only[az6]at hb;have h1:=h.ent hl hb.1.1;have h2:=h.ent (a0o hu hl) hb.1.2;have h3:=h.ent (a0o hn hu) hb.2;rw[a0s]at h2 h3;have c:P.underlying t=some .string:=by
  unfold b3g at ht;split at ht
  .grind
  .cases ht
 have key:∀(lv hv:Option Value),(lv=none/\l.ev Γ.ρ=0\/∃k,lv=some (.int k (l.ev Γ.ρ)))->(hv=none/\u.ev Γ.ρ=b.size\/∃k,hv=some (.int k (u.ev Γ.ρ)))->
   a0c P (Instr.sliceAt t (.string b) lv hv none)=some (.string (b.extract (l.ev Γ.ρ).toNat (u.ev Γ.ρ).toNat)):=by
  intro lv hv d f;simp only[Instr.sliceAt,a0a,a0g c,az1,Instr.slice];have hh:a0c P (match hv with|some v=>Instr.sliceBound v b.size .sliceAlen|none=>(Pure.pure b.size:Sem Nat))=some (u.ev Γ.ρ).toNat:=by
   rcases f with⟨rfl,e⟩|⟨k,rfl⟩
   .rw[e];rfl
   .grind[a1G]
  have o:a0c P (match lv with|some v=>Instr.sliceBound v (u.ev Γ.ρ).toNat .sliceB|none=>(Pure.pure 0:Sem Nat))=some (l.ev Γ.ρ).toNat:=by
   rcases d with⟨rfl,e⟩|⟨k,rfl⟩
   .rw[e];rfl
   .grind[a1G]
  have g:a0c P (Instr.sliceBounds false b.size b.size lv hv none)=some ((l.ev Γ.ρ).toNat,(u.ev Γ.ρ).toNat,b.size):=by
   rcases f with⟨rfl,e⟩|⟨k,rfl⟩<;>rcases d with⟨rfl,p⟩|⟨i,rfl⟩
   .simp_all[Instr.sliceBounds,Pure.pure,Bind.bind,Sem.bind,a0c]
   .simp only[Instr.sliceBounds,a0a,a0i,az1];grind
   .simp only[Instr.sliceBounds,a0a,a0i,az1];grind
   .simp only[Instr.sliceBounds,a0a,a0i,az1];grind
  simp only[Ay0,ay6,av8,Pure.pure,Bind.bind,a1r,a0c,g,az1]
 refine⟨.lit (.string (b.extract (l.ev Γ.ρ).toNat (u.ev Γ.ρ).toNat)),?_,.str (a0o hu hl) (by rw[ao4,a0s];omega)⟩;simp only[a3d];rcases j with⟨rfl,rfl⟩|⟨k,rfl⟩<;>rcases m with⟨rfl,rfl⟩|⟨i,rfl⟩
 .simp only[Az0,az1,a0t,key none none (.inl ⟨rfl,a1P 0⟩) (.inl ⟨rfl,en.symm⟩)];rfl
 .simp only[a0W,a1b,ax0,Az0,az1,a0t,key none _ (.inl ⟨rfl,a1P 0⟩) (.inr ⟨i,rfl⟩)];rfl
 .simp only[a0W,a1b,ax0,Az0,az1,a0t,key _ none (.inr ⟨k,rfl⟩) (.inl ⟨rfl,en.symm⟩)];rfl
 .simp only[a0W,a1b,ax0,Az0,az1,a0t,key _ _ (.inr ⟨k,rfl⟩) (.inr ⟨i,rfl⟩)];rfl
def c5J(sz l u:Nat):V->Option V
 | .nils=>some .nils
 | .row id z off _=>if z≠sz then none else if l=u/\l≠0 then some (.sl none [])else some (.row id z (off+l) (u-l))
 | .sl _ b| .slf b=>if b2C sz b then some (.sl none ((b.take u).drop l))else none
 |_=>none
def Bd(x:Option V)(d n:Nat):Prop:=(x=none/\n=d)\/∃y,x=some y/\a2u y=some n
variable {l n sz u:Nat} {e:Nat} {v:V}
theorem b0E(hn:lenOf v=some n)(he:a2G P t=some e)(b:a1M P e=some sz)(c:Bd lo 0 l)(d:Bd hi n u)(f:l<=u)(g:u<=n):
  a3d P t v lo hi none=c5J sz l u v:=by
 have guard:¬(decide (l>u)||decide (u>n))=true:=by simp;omega
 have hv:∀s,v≠ .lit (.string s):=λ s e=>by subst e;cases hn
 unfold a3d;split
 .grind
 .simp only[he,b,hn,Az0,az1];rcases c with⟨rfl,rfl⟩|⟨y,rfl,hy⟩<;>rcases d with⟨rfl,rfl⟩|⟨z,rfl,hz⟩;all_goals
   simp only[az1, *];rw[ay9 (by grind)];cases v<;>first|rfl|(simp[lenOf]at hn)
variable {hi':Option V}
theorem InD.sub{g:G}{N:Nat->Prop}{r:Bool}{hi:Int}{d:TD}(hd:InD g N (.sl r hi d) v)(hn:lenOf v=some n)(c:l<=u)(h:u<=n)(hs:a4x d=some sz\/(n=0/\r=false))
  (he:a2G P t=some e) (j:a1M P e=some sz) (o:Bd lo 0 l) (p:Bd hi' n u):
  ∃k,a3d P t v lo hi' none=some k/\InD g N (.sl r hi d) k/\lenOf k=some (u-l):=by
 rw[b0E hn he j o p c h]
 cases hd with
 |nils k1=>
  simp only[lenOf,az0]at hn;subst hn
  exact⟨.nils,rfl,.nils k1,by have:u-l=0:=by omega
                              rw[this];rfl⟩
 | @sl _ _ _ _ _ xs k1 k2=>
   simp only[lenOf,az0]at hn;subst hn
   have hf:b2C sz xs=true:=by
    cases xs with
    |nil=>rfl
    |cons y w=>
     rcases hs with hs|hs
     .simp only[b2C,aw5];grind[a9A,ay1]
     .simp at hs
   refine⟨.sl none ((xs.take u).drop l),?_,.sl ?_ (λ x hx=>k2 x (au4 (at9 hx))),by grind[lenOf]⟩
   .simp_all[c5J]
   grind
 | @row _ _ _ _ id ty b off m xs f k1 k2 k3 k4 k6 k5=>
   simp only[lenOf,az0]at hn;subst hn
   have hz:b=sz:=by
    rcases hs with hs|hs
    .grind
    .grind
   subst hz
   by_cases hc:l=u/\l≠0
   .refine⟨.sl none [],?_,.sl (by simp;omega) (nofun),by grind[lenOf]⟩;simp only[c5J,Au8,ap0,av8,ax3 hc]
   .refine⟨.row id b (off+l) (u-l),?_,.row k1 k2 (by omega) (by omega) k6 (λ x hx=>k5 x ?_),rfl⟩
    .simp_all[c5J]
    .obtain⟨i,hi⟩:=List.getElem?_of_mem hx;rw[av1]at hi;split at hi
     .next q=>
      rw[at5]at hi
      refine ax4 (i:=l+i) ?_
      grind
     .cases hi
theorem a4J{m:Int}(h:0<=m):a2u (.lit (.int k m))=some m.toNat:=by simp_all[a2u]
variable {av:AV} {mx:Option AV}
theorem c2q(h:Ok a Γ s)(hv:In Γ av v){lo hi:Option AV}{b g:Option V}(i:b5E Γ lo b)(c:b5E Γ hi hi')(f:b5E Γ mx g){q:List (AV×AS)}(hr:c5u P t av lo hi mx a=some q):
  ∃r,a3d P t v b hi' g=some r/\GoodP q Γ s r:=by
 unfold c5u at hr;split at hr
 .next k n y m e d=>
  split at hr
  .next hc=>
   simp only[az6,ay2]at hc;obtain⟨⟨⟨z,u⟩,F⟩,rfl,A,B⟩:=hc;injection hr with hr
   subst hr;have j:b=none:=by cases b with|none=>rfl|some x=>exact i.elim
   subst j;cases hi' with
   |none=>exact c.elim
   |some l=>cases g with
    |none=>exact f.elim
    |some o=>
     have c:In Γ (.int k n) l:=c;have f:In Γ (.int y n) o:=f;cases c with
     |int n1 n2=>
      cases f with
      |int n3 n4=>
       have e1:=h.ent n1 A;cases hv with
       | @dat _ _ _ C _ len d1 d2 d3 d4=>
         have e2:=h.ent (a0o d1 n1) B;rw[a0s]at e2;obtain⟨el,p⟩:=at0.1 z;rw[p,az1]at u;obtain⟨sz,D⟩:=at0.1 u;subst n2;subst n4;have hu:∀kk,a2u (.lit (.int kk (n.ev Γ.ρ)))=some (n.ev Γ.ρ).toNat:=λ kk=>a4J e1;have w:¬(decide (0>(n.ev Γ.ρ).toNat)||decide ((n.ev Γ.ρ).toNat>len))=true:=by
          simp only[ay8,ay2,ap6];omega
         cases d2 with
         |nils=>simp only[lenOf,az0]at d3;subst d3;refine⟨.nils,?_,⟨_,ay1 ..,Γ,Gm.le.refl Γ,.nils,h.with (a1g n1) (by rw[a1m];omega)⟩⟩;simp_all[a3d,lenOf]
         | @sl _ _ _ _ _ xs G E=>
           simp only[lenOf,az0]at d3;refine⟨.slf (xs.take (n.ev Γ.ρ).toNat),?_,⟨_,az9 _ (ay1 ..),Γ,Gm.le.refl Γ,.slf n1 ?_ λ x hx=>E x (au4 hx),h⟩⟩
           .simp_all[a3d,lenOf]
           grind
  .cases hr
 .cases hr
theorem c3P(h:Ok a Γ s)(hv:In Γ av v){lo hi:Option AV}{i c:Option V}(w:b5E Γ lo i)(y:b5E Γ hi hi')(H:b5E Γ mx c){O:List (AV×AS)}(hr:c5f P t av lo hi mx a=some O):
  ∃g,a3d P t v i hi' c=some g/\GoodP O Γ s g:=by
 unfold c5f at hr;split at hr
 .grind[c2q]
 next I=>
 have J:c=none:=by
  cases mx with
  |some x=>simp at I
  |none=>cases c with
   |none=>rfl
   |some x=>exact H.elim
 subst J;split at hr
 .next n=>
  split at hr
  .cases hr
  next j=>
  have j:b3g P t=true:=by simpa using j
  split at hr
  .next l u hl hu=>
   split at hr
   .next hb=>
    injection hr with hr
    subst hr;cases hv with
    |str k1 k2=>obtain⟨l1,l2⟩:=a6e w (a1W 0) hl;obtain⟨A,K⟩:=a6e y k1 hu;obtain⟨g,e1,e2⟩:=b7I h j k1 l1 A k2 l2 K hb;exact⟨g,e1,GoodP.one (Gm.le.refl Γ) e2 h⟩
   .cases hr
  .cases hr
 .next R=>
  split at hr
  .cases hr
  next e he=>
  split at hr
  .next sz n f hn=>
   split at hr
   .next l u hl hu=>
    split at hr
    .next hb=>
     obtain⟨n1,m,n2,n3⟩:=b3Z hv hn;obtain⟨l1,l2⟩:=a6e w (a1W 0) hl;obtain⟨A,K⟩:=a6e y n1 hu;unfold a7i at hb;simp only[az6]at hb;have h1:=h.ent l1 hb.1.1;have h2:=h.ent (a0o A l1) hb.1.2;have h3:=h.ent (a0o n1 A) hb.2;rw[a0s]at h2 h3;have E:Bd i 0 (l.ev Γ.ρ).toNat:=by
      rcases l2 with⟨rfl,rfl⟩|⟨k,rfl⟩
      .exact .inl ⟨rfl,by rw[a1P];rfl⟩
      .exact .inr ⟨_,rfl,a4J h1⟩
     have F:Bd hi' m (u.ev Γ.ρ).toNat:=by
      rcases K with⟨rfl,rfl⟩|⟨k,rfl⟩
      .exact .inl ⟨rfl,by omega⟩
      .exact .inr ⟨_,rfl,a4J (by omega)⟩
     have b:=a0o A l1;have Q:=a0s (ρ:=Γ.ρ) u l;unfold d5r at hr;cases hv with
     |nils=>
      injection hr with hr
      subst hr;refine⟨.nils,?_,GoodP.one (Gm.le.refl Γ) .nils h⟩;rw[b0E n2 he f E F (by omega) (by omega)];rfl
     | @dat r G d B v p k1 k2 k3 k4=>
       simp only at hr;split at hr
       .next hs=>
        injection hr with hr
        subst hr;rw[k3]at n2;injection n2 with n2;subst n2
        have L:a4x d=some sz\/(p=0/\r=false):=by
         simp only[ay8,az6,aw5,ax2]at hs;rcases hs with hs|hs
         .grind
         .grind[a0B]
        obtain⟨g,e1,e2,e3⟩:=k2.sub (P:=P) k3 (l:=(l.ev Γ.ρ).toNat) (u:=(u.ev Γ.ρ).toNat) (by omega) (by omega) L he f E F;exact⟨g,e1,GoodP.one (Gm.le.refl Γ) (.dat b e2 e3 (by grind)) h⟩
       .cases hr
     | @row nm z off G o p k0 k1 k2 k3 k4=>
       simp only[lenOf,az0]at n2;subst n2;simp only at hr;split at hr
       .cases hr
       next hz=>
       have hz:z=sz:=by simpa using hz
       subst hz;split at hr
       .next hc=>
        injection hr with hr
        subst hr;have S:¬((l.ev Γ.ρ).toNat=(u.ev Γ.ρ).toNat/\(l.ev Γ.ρ).toNat≠0):=by
         rw[ay8,ay2]at hc;rcases hc with hc|hc
         .grind[a0B]
         .have:=h.ent (a0k b) hc;grind[a0j]
        refine⟨.row (Γ.ν nm) z (o+(l.ev Γ.ρ).toNat) ((u.ev Γ.ρ).toNat-(l.ev Γ.ρ).toNat),?_,GoodP.one (Gm.le.refl Γ) (.row k0 (a1A k1 l1) b (by rw[a1B];omega) (by grind)) h⟩;rw[b0E (n:=p) rfl he f E F (by omega) (by omega)];simp_all[c5J]
       .have M:In Γ (.row nm z off G) (.row (Γ.ν nm) z o p):= .row k0 k1 k2 k3 k4;obtain⟨C,g1,g2,g3,g4,g5,g6,g7⟩:=a3p 4 _ _ _ _ _ h M;split at hr
        .next r B d hq=>
         injection hr with hr
         subst hr;have D:InD C.g C.N (.sl r B d) (.row (Γ.ν nm) z o p):=by
          have:(a2O a (.row nm z off G)).1=(b1c 4 a (.row nm z off G)).1:=rfl;rw[this]at hq;rw[hq]at g7;exact g7
         have N:a4x d=some z:=by cases D with|row _ _ _ _ q _=>exact q
         obtain⟨g,e1,e2,e3⟩:=D.sub (P:=P) (n:=p) rfl (l:=(l.ev Γ.ρ).toNat) (u:=(u.ev Γ.ρ).toNat) (by omega) (by omega) (.inl N) he f E F;exact⟨g,e1,GoodP.one g1 (.dat (a0p b g1.n g1.ρ) e2 e3 (by grind)) g6⟩
        .cases hr
     |_=>grind
    .cases hr
   .cases hr
  .cases hr
end
end
section
open Go.PV
def c8p:TD->Bool
 | .int .u8 _ _=>true
 |_=>false
section
variable (P:Program)
def d1k(src b:Nat)(v:AV)(s:AS):R:=
 match P.underlying src,P.underlying b with
 |some (.slice e),some .string=>match P.underlying e with
  |some (.int .u8)=>match elA s v with
   |some (e,d)=>if c8p d||a0x e==some 0 then one (.str e) s else none
   |none=>none
  |_=>none
 |some (.int _),some (.int k)=>match v with
  | .int _ e=>b5d s k e
  |_=>none
 |some (.int _),some .string=>match v with
  | .int _ _=>one (.str (fresh s 1 4).1) (fresh s 1 4).2
  |_=>none
 |some .string,some .string=>match v with
  | .str e=>one (.str e) s
  |_=>none
 |_,_=>none
def c2H(t:Nat)(v i:AV)(s:AS):R:=
 match v,i with
 | .str m,.int _ n=>if b3g P t&&(s.ent n&&s.ent ((m.sub n).addc (-1)))then one (.int .u8 (fresh s 0 255).1) (fresh s 0 255).2 else none
 |_,_=>none
def unA(op:UnOp)(v:AV)(s:AS):R:=
 match op,v with
 | .not,.bool b=>one (.bool b.not) s
 | .neg,.int k e=>b5d s k e.neg
 |_,_=>none
def d6s(d:TypeDesc)(x y:AV):Option AB:=
 match d,x,y with
 | .slice _,.nils,.nils=>some (.c true)
 | .slice _,.row ..,.nils=>some (.c false)
 | .slice _,.dat _ e _,.nils=>some (.teq e)
 | .func ..,.fn ..,.lit .nilFunc| .func ..,.fns _,.lit .nilFunc=>some (.c false)
 | .func ..,.lit .nilFunc,.lit .nilFunc=>some (.c true)
 | .pointer _,.ptr ..,.lit (.pointer none)| .pointer _,.eptr ..,.lit (.pointer none)| .pointer _,.cptr _,.lit (.pointer none)=>some (.c false)
 | .pointer _,.lit (.pointer none),.lit (.pointer none)=>some (.c true)
 | .bool,.bool _,.bool _=>some .unk
 |_,_,_=>none
end
section
variable {P:Program} {a:AS} {Γ:Gm} {s:St}
theorem b9d{g:G}{N:Nat->Prop}{d:TD}(hd:c8p d=true):∀{xs:List V},(∀x∈xs,InD g N d x)->∃l,a0D a7v xs=some l/\l.length=xs.length
 |[],_=>⟨[],rfl,rfl⟩
 |x::xs,h=>by
  obtain⟨l,h1,h2⟩:=b9d hd (xs:=xs) λ y hy=>h y (az9 _ hy);have hx:=h x (ay1 ..);cases hx<;>first|(simp[c8p]at hd;done)|skip
  rename_i k lo hi n k1 k2;cases k<;>first|(simp[c8p]at hd;done)|skip
  exact⟨UInt8.ofNat n.toNat::l,by simp only[a0D,a7v,h1],by simp[h2]⟩
theorem b7M(m:Int):1<=(Utf8.encode m).size/\(Utf8.encode m).size<=4:=by
 grind[Utf8.encode,ByteArray.size]
variable {av:AV} {g:List (AV×AS)} {v:V}
theorem c7v(h:Ok a Γ s){src b:Nat}(hv:In Γ av v)(hr:d1k P src b av a=some g)(o:Operand)(ho:ev s.get o=some v){call:PV.Calls}{op:Oper}(c:op.op= .convert src b o):
  ∃i,opE P call s.get (a0b s.h) s.nx op=some {v:=i}/\GoodP g Γ s i:=by
 unfold d1k at hr;simp only[opE,c,ho,Az0,az1];split at hr
 .next e hs hd=>
  split at hr
  .next he=>
   split at hr
   .next m d f=>
    split at hr
    .next hc=>
     injection hr with hr
     subst hr;obtain⟨h1,xs,h2,h3,h4⟩:=d0u h hv f;have:∃l,a0D a7v xs=some l/\l.length=xs.length:=by
      rw[ay8,aw5]at hc;rcases hc with hc|hc
      .exact b9d hc h4
      .have:=a0B hc Γ.ρ;have:xs=[]:=ay7.1 (by omega);subst this;exact⟨[],rfl,rfl⟩
     obtain⟨l,l1,l2⟩:=this;refine⟨.lit (.string ⟨l.toArray⟩),?_,GoodP.one (Gm.le.refl Γ) (.str h1 ?_) h⟩;all_goals grind[ByteArray.size]
    .cases hr
   .cases hr
  .cases hr
 .next k0 k hs hd=>
  split at hr
  .next k1 e=>
   cases hv with
   |int h1 h2=>
    obtain⟨l,e1,e2⟩:=a6l h (k:=k) h1 h2;rw[hr]at e1;injection e1 with e1
    subst e1;refine⟨_,?_,e2⟩;simp only[hs,hd,a0W,a1b,az1,a0t,Go.convert,a0a,a0g hs,a0g hd,Conv.intToInt,a0i];rfl
  .cases hr
 .next k0 hs hd=>
  split at hr
  .next k1 e=>
   injection hr with hr
   subst hr;cases hv with
   | @int _ _ m h1 h2=>obtain⟨n1,n4⟩:=b7M m;obtain⟨j,l1,_,_,o1,n,e1⟩:=h.fresh (lo:=1) (hi:=4) (x:=((Utf8.encode m).size:Int)) (by omega) (by omega);refine⟨.lit (.string (Utf8.encode m)),?_,GoodP.one l1 (.str n e1.symm) o1⟩;simp only[hs,hd,a0W,a1b,az1,a0t,Go.convert,a0a,a0g hs,a0g hd,Conv.intToString,a0i];rfl
  .cases hr
 .next hs hd=>
  split at hr
  .next e=>
   injection hr with hr
   subst hr;cases hv with
   |str h1 h2=>refine⟨_,?_,GoodP.one (Gm.le.refl Γ) (.str h1 h2) h⟩;simp only[hs,hd,a0W,a1b,az1,a0t,Go.convert,a0a,a0g hs,a0g hd,a0i];rfl
  .cases hr
 .cases hr
variable {t:Nat}
theorem c3a(h:Ok a Γ s){ai:AV}{i:V}(hv:In Γ av v)(hi:In Γ ai i)(hr:c2H P t av ai a=some g):
  ∃u w,a0W v=some u/\a0W i=some w/\∃j,a0t P (Instr.index t u w)=some j/\GoodP g Γ s j:=by
 unfold c2H at hr;split at hr
 .next m k n=>
  split at hr
  .next hc=>
   simp only[az6]at hc;obtain⟨ht,c,d⟩:=hc;have e:P.underlying t=some .string:=by
    unfold b3g at ht;split at ht
    .next h=>exact h
    .cases ht
   injection hr with hr
   subst hr;cases hv with
   | @str _ b h1 h2=>
     cases hi with
     | @int _ _ q h3 h4=>
       have n0:=h.ent h3 c;have n1:=h.ent (a0k (a0o h1 h3)) d;rw[a0j,a0s]at n1;have f:q.toNat<b.size:=by omega
       obtain⟨l,l1,_,_,o1,k1,e1⟩:=h.fresh (lo:=0) (hi:=255) (x:=(b[q.toNat].toNat:Int)) (by omega) (by have:=b[q.toNat].toNat_lt;omega);refine⟨_,_,rfl,rfl,.lit (.int .u8 b[q.toNat].toNat),?_,GoodP.one l1 (.int k1 e1.symm) o1⟩;have a0b:(if 0<=q then b[q.toNat]? else none)=some b[q.toNat]:=by
        rw[ax3 (by omega),getElem?_pos b q.toNat f]
       simp only[a0t,Instr.index,asIntOf,a0a,a0i,a0g e,az1,a0b,Az0];rfl
  .cases hr
 .cases hr
theorem d3X(h:Ok a Γ s){op:UnOp}(hv:In Γ av v){b:List (AV×AS)}(hr:unA op av a=some b):
  ∃u,a0W v=some u/\∃c,a0t P (Op.unary op u)=some c/\GoodP b Γ s c:=by
 unfold unA at hr;split at hr
 .injection hr with hr
  subst hr;cases hv with
  |bool h1 h2=>exact⟨_,rfl,_,rfl,GoodP.one (Gm.le.refl Γ) (.bool (b5L h1) (a8M h2)) h⟩
 .rename_i d e;cases hv with
  | @int _ _ m h1 h2=>
    obtain⟨l,e1,e2⟩:=a6l h (k:=d) (a1g h1) (m:=0-m) (by rw[a1m];omega);rw[hr]at e1;injection e1 with e1
    subst e1;exact⟨_,rfl,_,rfl,e2⟩
 .cases hr
theorem a3n{op:BinOp}{x y:Operand}{u v:Value}(h:(∀a b,u= .agg a->v≠ .agg b)/\(u≠ .nilIface)):a0c P (eqGuard op t x y u v)=some ():=by
 unfold eqGuard;by_cases ho:(!(match op with| .eql| .neq=>true|_=>false))=true
 .cases op<;>first|rfl|(simp at ho)
 .cases op<;>first|(simp at ho;done)|skip
  all_goals
   cases u<;>first|rfl|(exact absurd rfl h.2)|skip
   cases v<;>first|rfl|(exact absurd rfl (h.1 _ _ rfl))
theorem d0L{d:TypeDesc}{x y:AV}{u:V}(hx:In Γ x u)(hy:In Γ y v){q:AB}(hq:d6s d x y=some q)(ht:P.underlying t=some d):
  q.ok Γ.ρ Γ.n/\∃b,q.holds Γ.ρ b/\((a2U d u v=true/\b=false)\/(a2U d u v=false/\∃m n,a0W u=some m/\a0W v=some n/\(∀a b,m= .agg a->n≠ .agg b)/\m≠ .nilIface/\
   a0c P (Go.binOp .eql t m n)=some (.bool b)/\a0c P (Go.binOp .neq t m n)=some (.bool !b))):=by
 have eq:∀{m n:Value} {b:Bool},(∀D,a0c P (Op.equalIn (D+1) t m n)=some b)->(∀k i,m≠ .int k i)->(∀k i,m≠ .float k i)->(∀k i j,m≠ .complex k i j)->(∀s,m≠ .string s)->
   a0c P (Go.binOp .eql t m n)=some (.bool b)/\a0c P (Go.binOp .neq t m n)=some (.bool !b):=by
  intro m n b h h1 h2 h3 h4;have e1:Go.binOp .eql t m n=(do pure (.bool (<-Op.equal t m n))):=by
   cases m<;>first|rfl|grind|grind|grind|grind
  have e2:Go.binOp .neq t m n=(do pure (.bool (!(<-Op.equal t m n)))):=by
   cases m<;>first|rfl|grind|grind|grind|grind
  have e3:a0c P (Op.equal t m n)=some b:=h 9999;rw[e1,e2];simp only[a0a,e3,az1,a0i];exact⟨av5,av5⟩
 unfold d6s at hq;split at hq;all_goals first|(cases hq;done)|(cases hq)
 .cases hx;cases hy;refine⟨av5,true,rfl,.inr ⟨rfl,_,_,rfl,rfl,(nofun),(nofun),eq ?_ (nofun) (nofun) (nofun) (nofun)⟩⟩;intro D;simp only[Op.equalIn,a0a,a0g ht,az1,a0i];rfl
 .cases hx<;>cases hy<;>exact⟨av5,false,rfl,.inl ⟨rfl,rfl⟩⟩
 .cases hy;cases hx with
  |dat h1 h2 h3 h4=>
   cases h2 with
   |nils k1=>simp only[lenOf,az0]at h3;subst h3;refine⟨h1,true,(λ _=>by grind),.inr ⟨rfl,_,_,rfl,rfl,(nofun),(nofun),eq ?_ (nofun) (nofun) (nofun) (nofun)⟩⟩;intro D;simp only[Op.equalIn,a0a,a0g ht,az1,a0i];rfl
   |sl k1 k2=>exact⟨h1,false,(nofun),.inl ⟨rfl,rfl⟩⟩
   |row k1 k2 k3 k4 k5 k6=>exact⟨h1,false,(nofun),.inl ⟨rfl,rfl⟩⟩
 .cases hx<;>cases hy<;>exact⟨av5,false,rfl,.inl ⟨rfl,rfl⟩⟩
 .cases hx<;>cases hy<;>exact⟨av5,false,rfl,.inl ⟨rfl,rfl⟩⟩
 .cases hx;cases hy;refine⟨av5,true,rfl,.inr ⟨rfl,_,_,rfl,rfl,(nofun),(nofun),eq ?_ (nofun) (nofun) (nofun) (nofun)⟩⟩;intro D;simp only[Op.equalIn,a0a,a0g ht,az1,a0i]
 .cases hx<;>cases hy<;>exact⟨av5,false,rfl,.inl ⟨rfl,rfl⟩⟩
 .cases hx<;>cases hy<;>exact⟨av5,false,rfl,.inl ⟨rfl,rfl⟩⟩
 .cases hx<;>cases hy<;>exact⟨av5,false,rfl,.inl ⟨rfl,rfl⟩⟩
 .cases hx;cases hy;refine⟨av5,true,rfl,.inr ⟨rfl,_,_,rfl,rfl,(nofun),(nofun),eq ?_ (nofun) (nofun) (nofun) (nofun)⟩⟩;intro D;simp only[Op.equalIn,a0a,a0g ht,az1,a0i];rfl
 .cases hx with
  | @bool _ b1 _ _=>cases hy with
    | @bool _ b2 _ _=>refine⟨av5,b1==b2,av5,.inr ⟨rfl,_,_,rfl,rfl,(nofun),(nofun),eq ?_ (nofun) (nofun) (nofun) (nofun)⟩⟩;intro D;simp only[Op.equalIn,a0a,a0g ht,az1,a0i]
end
end
section
open Go.PV
section
variable (P:Program)
def c9y:Nat->Nat->List AV->List AV->Bool
 |0,_,_,_=>false
 |d+1,t,x,y=>match P.underlying t with
  |some .bool=>match x,y with
   | .bool _::_,.bool _::_=>true
   |_,_=>false
  |some (.int _)=>match x,y with
   | .int k _::_,.int b _::_=>k==b
   |_,_=>false
  |some .string=>match x,y with
   | .str _::_,.str _::_=>true
   |_,_=>false
  |some (.struct fs)=> !P.stoodInHeld t&&fs.toList.all λ f=>match a1M P f.type with
   |some n=>decide (f.offset+n<=x.length)&&(decide (f.offset+n<=y.length)&&c9y d f.type ((x.drop f.offset).take n) ((y.drop f.offset).take n))
   |none=>false
  |_=>false
def d5U:AV->Bool
 | .bool _| .int _ _| .str _=>true
 |_=>false
def c7E(t:Nat)(x y:List AV):Bool:=x.all d5U&&(y.all d5U&&(!P.eqGuardType P.depth t&&c9y P 6 t x y))&&(match P.underlying t with|some (.struct _)=>true|_=>false)
end
section
variable {P:Program} {a:AS} {Γ:Gm} {s:St}
def Lits(Γ:Gm)(x:List AV)(us:List Value):Prop:=x.length=us.length/\∀(j:Nat) (a:AV) (u:Value),x[j]?=some a->us[j]?=some u->In Γ a (.lit u)
variable {x:List AV} {us:List Value}
theorem Lits.part(h:Lits Γ x us)(o n:Nat):Lits Γ ((x.drop o).take n) ((us.drop o).take n):=by
 refine⟨by simp[h.1],λ j a u ha hu=> ?_⟩;rw[av1]at ha hu;split at ha
 .next hj=>
  rw[ax3 hj,at5]at hu;rw[at5]at ha;exact h.2 _ a u ha hu
 .cases ha
theorem c8a{x:AV}{v:V}(hx:d5U x=true)(h:In Γ x v):∃u,v= .lit u/\a1b v=some u/\u≠ .nilIface/\a0r v=true:=by
 cases h<;>first|grind[d5U]|exact⟨_,rfl,rfl,(nofun),rfl⟩
theorem b6Q:∀{x:List AV} {cs:List V},x.all d5U=true->InL Γ x cs->∃us,a0D a1b cs=some us/\Lits Γ x us
 |[],[],_,_=>⟨[],rfl,rfl,λ j a u h=>by simp at h⟩
 |[],_::_,_,h=>by cases h.1
 |_::_,[],_,h=>by cases h.1
 |a::x,c::cs,ha,h=>by
  rw[Az3,az6]at ha;obtain⟨us,h1,h2⟩:=b6Q (x:=x) (cs:=cs) ha.2 ⟨by simpa using h.1,λ j p q hp hq=>h.2 (j+1) p q (by grind) (by grind)⟩;have hc:=h.2 0 a c rfl rfl;obtain⟨u,e1,e2,_,_⟩:=c8a ha.1 hc;refine⟨u::us,by grind[a0D],by simp[h2.1],λ j p q hp hq=> ?_⟩;cases j with
  |zero=>grind
  |succ j=>exact h2.2 j p q (by grind) (by grind)
def pk(P:Program)(t:Nat)(us:List Value):Value:=match P.underlying t with
 |some (.struct _)=> .agg us.toArray
 |_=>us.headD .nilIface
theorem b2F{A c:Type}{f:A->c->Sem (ForInStep c)}:∀{l:List A} {b:c},(∀x∈l,∀b,∃r,a0c P (f x b)=some r)->∃r,a0c P (forIn l b f)=some r
 |[],b,_=>⟨b,rfl⟩
 |x::l,b,h=>by
  obtain⟨r,hr⟩:=h x (ay1 ..) b;rw[Aw2,a0a,hr,az1];cases r with
  |done b=>exact⟨b,rfl⟩
  |yield b=>exact b2F λ y hy=>h y (az9 _ hy)
variable {n:Nat} {t:Nat}
theorem b6w(h:a1M P t=some n):a0c P (sizeOf t)=some n:=by
 unfold a1M at h;simp only[az2]at h;obtain⟨i,hi,rfl⟩:=h;show a0c P (do pure (<-typeInfo t).size)=_;have:a0c P (typeInfo t)=some i:=by
  show a0c P (match P.info? t with|some i=>(Pure.pure i:Sem TypeInfo)|none=>stuck "no such type")=_;rw[hi];rfl
 rw[a0a,this];rfl
def c6b:TypeDesc->Bool
 | .struct _| .array _ _=>true
 |_=>false
variable {d:TypeDesc}
theorem b8h(h:P.underlying t=some d):a0c P (isAgg t)=some (c6b d):=by
 unfold isAgg;rw[a0a,a0g h,az1];cases d<;>rfl
theorem a4B{o:Nat}(h:P.underlying t=some d)(hs:a1M P t=some n)(hl:o+n<=us.length)(hd:(∃fs,d= .struct fs)\/((∀fs,d≠ .struct fs)/\(∀k e,d≠ .array k e)/\0<n)):
  a0c P (part t us.toArray o)=some (pk P t ((us.drop o).take n)):=by
 unfold part;rw[a0a,b8h h,az1];rcases hd with⟨fs,rfl⟩|⟨h1,h2,h3⟩
 .simp only[c6b,aw4,a0a,b6w hs,az1,a0i,pk,h];grind
 .have e:c6b d=false:=by
   cases d<;>first|rfl|grind|grind
  rw[e];simp only[ay6,av8];have b:o<us.length:=by omega
  have e2:us.toArray[o]?=some us[o]:=by simp[b]
  rw[e2];simp only[a0i,pk,h];have e3:((us.drop o).take n).headD .nilIface=us[o]:=by
   rw[List.headD_eq_head?_getD,List.head?_take,ay9 (by omega),List.head?_drop,az5 b];rfl
  grind
theorem b5q:∀(d:Nat) (t:Nat) (x y:List AV) (us vs:List Value),c9y P d t x y=true->Lits Γ x us->Lits Γ y vs->∀D,d<=D->∃b,a0c P (Op.equalIn D t (pk P t us) (pk P t vs))=some b
 |0,t,x,y,us,vs,h,_,_,D,_=>by cases h
 |d+1,t,x,y,us,vs,h,hx,hy,0,hD=>by omega
 |d+1,t,x,y,us,vs,h,hx,hy,D+1,hD=>by
  unfold c9y at h;split at h
  .next ht=>
   split at h
   .next b1 w b2 z=>
    cases us with
    |nil=>cases hx.1
    |cons u us=>cases vs with
     |nil=>cases hy.1
     |cons v vs=>have h1:=hx.2 0 _ u rfl rfl;have h2:=hy.2 0 _ v rfl rfl;cases h1;cases h2;simp only[pk,ht,Ay1,Op.equalIn,a0a,a0g ht,az1,a0i];exact⟨_,rfl⟩
   .cases h
  .next k0 ht=>
   split at h
   .next k1 e1 w k2 e2 z=>
    have h:k1=k2:=by simpa using h
    subst h;cases us with
    |nil=>cases hx.1
    |cons u us=>cases vs with
     |nil=>cases hy.1
     |cons v vs=>have h1:=hx.2 0 _ u rfl rfl;have h2:=hy.2 0 _ v rfl rfl;cases h1;cases h2;simp only[pk,ht,Ay1,Op.equalIn,a0a,a0g ht,az1,aw4,a0i];exact⟨_,rfl⟩
   .cases h
  .next ht=>
   split at h
   .next e1 w e2 z=>
    cases us with
    |nil=>cases hx.1
    |cons u us=>cases vs with
     |nil=>cases hy.1
     |cons v vs=>have h1:=hx.2 0 _ u rfl rfl;have h2:=hy.2 0 _ v rfl rfl;cases h1;cases h2;simp only[pk,ht,Ay1,Op.equalIn,a0a,a0g ht,az1,a0i];exact⟨_,rfl⟩
   .cases h
  .next fs ht=>
   rw[az6,ax2,ay5]at h;obtain⟨o,l⟩:=h;have step:∀f∈fs.toList,∃b,a0c P (do Op.equalIn D f.type (<-part f.type us.toArray f.offset) (<-part f.type vs.toArray f.offset))=some b:=by
    intro f hf;have i:=l f hf;split at i
    .next n hn=>
     simp only[az6,ay2]at i;obtain⟨l1,l2,he⟩:=i;rw[hx.1]at l1;rw[hy.1]at l2;obtain⟨b,hb⟩:=b5q d f.type _ _ _ _ he (hx.part f.offset n) (hy.part f.offset n) D (by omega);have B:∃dd,P.underlying f.type=some dd/\((∃fs,dd= .struct fs)\/((∀fs,dd≠ .struct fs)/\(∀k e,dd≠ .array k e)/\0<n)):=by
      have A:∀{q r:List AV},c9y P d f.type q r=true->(q=[]->(∃fs,P.underlying f.type=some (.struct fs))):=by
       intro q r hq p;subst p;cases d with
       |zero=>cases hq
       |succ d=>grind[c9y]
      cases hu:P.underlying f.type with
      |none=>
       cases d with
       |zero=>cases he
       |succ d=>simp[c9y,hu]at he
      |some dd=>
       refine⟨dd,rfl,?_⟩;cases dd;case struct fs=>grind
       case array k e=>
        cases d with
        |zero=>cases he
        |succ d=>simp[c9y,hu]at he
       all_goals
        grind
     grind[a0a,a4B]
    .cases i
   have e:pk P t us= .agg us.toArray:=by simp only[pk,ht]
   have C:pk P t vs= .agg vs.toArray:=by simp only[pk,ht]
   rw[e,C];simp only[Op.equalIn,a0a,a0g ht,az1];have j:a0c P Go.program=some P:=rfl;simp only[j,az1,o,ay6,av8];rw[<-Av1];rw[a0a];have m:∃r,a0c P (forIn fs.toList ((none,()):Option Bool×Unit) λ f E=>
       if f.name≠ "_" then do
        let c<-part f.type us.toArray f.offset;let g<-part f.type vs.toArray f.offset;let c<-Op.equalIn D f.type c g
        if(!c)=true then pure (ForInStep.done (some false,()))
         else pure (ForInStep.yield (none,()))
       else pure (ForInStep.yield (none,())))=some r:=by
    refine b2F λ f hf b=> ?_;split
    .obtain⟨q,hq⟩:=step f hf;rw[a0a]at hq|-;cases h1:a0c P (part f.type us.toArray f.offset)with
     |none=>grind
     |some F=>
      rw[h1,az1,a0a]at hq;rw[az1,a0a];cases h2:a0c P (part f.type vs.toArray f.offset)with
      |none=>grind
      |some G=>
       rw[h2,az1]at hq;rw[az1,a0a,hq,az1];cases q
       .exact⟨_,rfl⟩
       .exact⟨_,rfl⟩
    .exact⟨_,rfl⟩
   obtain⟨r,hr⟩:=m;rw[hr,az1];obtain⟨r1,r2⟩:=r;cases r1 with
   |none=>exact⟨_,rfl⟩
   |some q=>exact⟨_,rfl⟩
  .cases h
theorem c7c{y:List AV}{cs ds:List V}(h:c7E P t x y=true)(hx:InL Γ x cs)(hy:InL Γ y ds){p q:Operand}:
  ∃u v,a0W (.agg cs)=some (.agg u)/\a0W (.agg ds)=some (.agg v)/\a0c P (eqGuard .eql t p q (.agg u) (.agg v))=some ()/\a0c P (eqGuard .neq t p q (.agg u) (.agg v))=some ()/\
   ∃b,a0c P (Go.binOp .eql t (.agg u) (.agg v))=some (.bool b)/\a0c P (Go.binOp .neq t (.agg u) (.agg v))=some (.bool !b):=by
 unfold c7E at h;rw[az6]at h;obtain⟨h0,i⟩:=h;simp only[az6,ax2]at h0;obtain⟨f,g,hg,ht⟩:=h0;obtain⟨us,m,j⟩:=b6Q f hx;obtain⟨vs,v1,k⟩:=b6Q g hy;obtain⟨b,hb⟩:=b5q 6 t x y us vs ht j k Op.maxDepth (by decide);have e:∀l,pk P t l= .agg l.toArray:=λ l=>by
  grind[pk]
 rw[e,e]at hb;have d:a0c P Go.program=some P:=rfl;have c:∀(op:BinOp),op= .eql\/op= .neq->a0c P (eqGuard op t p q (.agg us.toArray) (.agg vs.toArray))=some ():=by
  intro op ho;unfold eqGuard;rcases ho with rfl|rfl<;>
   (simp only[aq4,ay6,av8,a0a,d,az1,hg,am4,aw4];rfl)
 refine⟨us.toArray,vs.toArray,by grind[a0W],by grind[a0W],c _ (.inl rfl),c _ (.inr rfl),b,?_,?_⟩
 .show a0c P (do pure (Value.bool (<-Op.equal t (.agg us.toArray) (.agg vs.toArray))))=_;rw[a0a];have:a0c P (Op.equal t (.agg us.toArray) (.agg vs.toArray))=some b:=hb;rw[this];rfl
 .show a0c P (do pure (Value.bool (!(<-Op.equal t (.agg us.toArray) (.agg vs.toArray)))))=_;rw[a0a];have:a0c P (Op.equal t (.agg us.toArray) (.agg vs.toArray))=some b:=hb;rw[this];rfl
end
end
section
open Go.PV
def Good(c:List (AV×AS))(Γ:Gm)(s:St)(r:Out):Prop:=∃p∈c,∃b,Γ.le b/\In b p.1 r.v/\Ok p.2 b {s with h:=r.upd++s.h,nx:=s.nx+r.cnt}
section
variable {P:Program} {a:AS} {Γ:Gm} {s:St}
variable {v:V}
theorem GoodP.good{b:List (AV×AS)}(h:GoodP b Γ s v):Good b Γ s {v:=v}:=h
variable {av:AV}
theorem Good.one{c:AS}{b:Gm}{r:Out}(hl:Γ.le b)(hv:In b av r.v)(ho:Ok c b {s with h:=r.upd++s.h,nx:=s.nx+r.cnt}):Good [(av,c)] Γ s r:=⟨_,az7.2 rfl,b,hl,hv,ho⟩
variable {us:HP}
theorem b3o{h:HP}{id:Nat}(hk:∀p∈us,p.1≠id):a0b (us++h) id=a0b h id:=by
 induction us with
 |nil=>rfl
 |cons p us ih=>obtain⟨j,b⟩:=p;have hj:j≠id:=hk (j,b) (ay1 ..);simp only[ap4,a0b];rw[ay9 (as7 hj),ih λ q hq=>hk q (az9 _ hq)]
theorem c2R(us h:HP)(id:Nat):(∃p∈us,p.1=id/\a0b (us++h) id=p.2)\/((∀p∈us,p.1≠id)/\a0b (us++h) id=a0b h id):=by
 induction us with
 |nil=>grind
 |cons p us ih=>
  obtain⟨j,b⟩:=p;by_cases e:id=j
  .subst e;exact .inl ⟨(id,b),ay1 ..,rfl,by simp[a0b]⟩
  .have e2:a0b (((j,b)::us)++h) id=a0b (us++h) id:=by simp only[ap4,a0b];grind
   rw[e2];rcases ih with⟨p,hp,h1,h2⟩|⟨h1,h2⟩
   .grind
   .refine .inr ⟨λ p hp=> ?_,h2⟩;rcases ay4.1 hp with rfl|hp
    .grind
    .grind
def d4o(h:HP)(p:Nat×Option Box):Prop:=∃ty sz xs f f',a0b h p.1=some (.row ty sz xs f)/\p.2=some (.row ty sz xs f')
theorem Ok.upd(h:Ok a Γ s){bx:List (Nat×ABox)}{nx m:Nat}{ν:Nat->Nat}(hm:a.m<=m)(c:∀i,i<a.m->ν i=Γ.ν i)(n:s.nx<=nx)
  (o:∀i,a.m<=i->i<m->s.nx<=ν i/\ν i<nx) (w:∀i j,a.m<=i->i<m->a.m<=j->j<m->ν i=ν j->i=j)
  (hk:∀p∈us,(Γ.N p.1\/a0b s.h p.1=none\/d4o s.h p)/\p.1<nx)
  (r:∀p∈bx,(p∈a.bx/\∀q∈us,q.1≠Γ.ν p.1)\/(p.1<m/\(Γ.N (ν p.1)\/a0b s.h (ν p.1)=none)/\∃b,a0b (us++s.h) (ν p.1)=some b/\InB Γ p.2 b))
  (t:∀p∈bx,∀q∈bx,ν p.1=ν q.1->p=q):
  Γ.le ⟨Γ.ρ,Γ.n,ν,m,nx,a0b (us++s.h),λ id=>∃p∈bx,ν p.1=id⟩/\Ok {a with bx:=bx,m:=m} ⟨Γ.ρ,Γ.n,ν,m,nx,a0b (us++s.h),λ id=>∃p∈bx,ν p.1=id⟩ {s with h:=us++s.h,nx:=nx}:=by
 have hl:Γ.le ⟨Γ.ρ,Γ.n,ν,m,nx,a0b (us++s.h),λ id=>∃p∈bx,ν p.1=id⟩:=by
  refine⟨ay3 _,by rw[h.m];exact hm,by rw[h.nxe];exact n,λ _ _=>rfl,λ i hi=>c i (by rw[<-h.m];exact hi),λ i h1 h2=>by rw[h.nxe];exact(o i (by rw[<-h.m];exact h1) h2).1,λ id ty sz xs f h1 h2=> ?_⟩;have l:a0b s.h id=some (.row ty sz xs f):=by rw[<-h.g];exact h1
  have hid:id<s.nx:=by
   refine Ax7 λ x=> ?_;rw[h.nx id x]at l;cases l
  have u:∃f',a0b (us++s.h) id=some (.row ty sz xs f'):=by
   rcases c2R us s.h id with⟨p,hp,e,h3⟩|⟨_,h3⟩
   .rcases(hk p hp).1 with hk|hk|⟨A,B,C,f1,f2,k,D⟩
    .grind
    .grind
    .rw[e,l]at k;injection k with k;injection k with E F G H
     subst E;subst F;subst G;exact⟨f2,by grind⟩
   .grind
  refine⟨?_,u⟩
  .rintro⟨p,hp,e⟩;rcases r p hp with⟨d,_⟩|⟨_,d,_⟩
   .refine h2 ((h.N id).2 ⟨p,d,?_⟩);rw[<-c p.1 (by rw[<-h.m];exact(h.box p d).1)];exact e
   grind
 refine⟨hl,⟨h.n,rfl,rfl,λ i hi=> ?_,λ i j hi hj e=> ?_,rfl,λ id=>Iff.rfl,h.sz,h.small,λ i=>(h.env i).mono hl,λ g hg=> ?_,λ p hp=> ?_,t,λ i hi=> ?_⟩⟩
 .show ν i<nx;rcases as5 i a.m with h1|h1
  .rw[c i h1];have:=h.νlt i (by rw[h.m];exact h1);omega
  grind
 .have e:ν i=ν j:=e;rcases as5 i a.m with h1|h1<;>rcases as5 j a.m with h2|h2
  .rw[c i h1,c j h2]at e;exact h.νinj i j (by rw[h.m];exact h1) (by rw[h.m];exact h2) e
  .have:=h.νlt i (by rw[h.m];exact h1);grind
  .have:=h.νlt j (by rw[h.m];exact h2);grind
  grind
 .obtain⟨h1,h2⟩:=h.cons g hg;grind
 .rcases r p hp with⟨d,v⟩|⟨y,_,b,hb,z⟩
  .obtain⟨h1,b,h2,h3⟩:=h.box p d;have e:ν p.1=Γ.ν p.1:=c p.1 (by rw[<-h.m];exact h1);refine⟨aw9 h1 hl.m,b,?_,h3.mono hl⟩;show a0b (us++s.h) (ν p.1)=_;rw[e,b3o v,<-h.g];exact h2
  .exact⟨y,b,hb,z.mono hl⟩
 .show a0b (us++s.h) i=none;rw[b3o]
  .exact h.nx i (av9 n hi)
  grind
theorem Ok.named(h:Ok a Γ s){p:Nat×ABox}(hp:p∈a.bx):Γ.ν p.1<s.nx/\Γ.N (Γ.ν p.1)/\p.1<a.m:=by
 obtain⟨h1,b,h2,_⟩:=h.box p hp;exact⟨h.νlt _ h1,(h.N _).2 ⟨p,hp,rfl⟩,by rw[<-h.m];exact h1⟩
theorem Ok.newB(h:Ok a Γ s){b:ABox}{x:Box}(hb:InB Γ b x):∃c,Γ.le c/\c.ρ=Γ.ρ/\c.ν a.m=s.nx/\a.m<c.m/\Ok (newB a b).2 c {s with h:=[(s.nx,some x)]++s.h,nx:=s.nx+1}:=by
 obtain⟨l1,o1⟩:=h.upd (bx:=(a.m,b)::a.bx) (us:=[(s.nx,some x)]) (nx:=s.nx+1) (m:=a.m+1) (ν:=fun i=>if i=a.m then s.nx else Γ.ν i) (at3 _) (fun i hi=>by grind) (at3 _)
  (fun i h1 h2=>by grind) (fun i j h1 h2 h3 h4 _=>by omega)
  (fun p hp=>by have:p=(s.nx,some x):=az7.1 hp
                subst this;exact⟨.inr (.inl (h.nx _ (ay3 _))),au5 _⟩)
  (fun p hp=>by
   rcases ay4.1 hp with rfl|hp
   .refine .inr ⟨au5 _,.inr (by simp only[aw4];exact h.nx _ (ay3 _)),x,by simp[a0b],hb⟩
   .refine .inl ⟨hp,fun q hq=> ?_⟩;have:q=(s.nx,some x):=az7.1 hq;subst this;have:=(h.named hp).1;grind)
  (fun p hp q hq e=>by
   have key:∀r∈a.bx,(if r.1=a.m then s.nx else Γ.ν r.1)=Γ.ν r.1/\Γ.ν r.1≠s.nx:=fun r hr=>by
    obtain⟨d,_,f⟩:=h.named hr;grind
   rcases ay4.1 hp with rfl|hp<;>rcases ay4.1 hq with rfl|hq
   .rfl
   .rw[ax3 rfl,(key q hq).1]at e;exact absurd e.symm (key q hq).2
   .rw[ax3 rfl,(key p hp).1]at e;exact absurd e (key p hp).2
   .rw[(key p hp).1,(key q hq).1]at e;exact h.inj p hp q hq e)
 exact⟨_,l1,rfl,by simp,au5 _,o1⟩
theorem Ok.nxUp(h:Ok a Γ s){k:Nat}(hk:s.nx<=k):Γ.le {Γ with nx:=k}/\Ok a {Γ with nx:=k} {s with nx:=k}:=by
 have hl:Γ.le {Γ with nx:=k}:=⟨ay3 _,ay3 _,by rw[h.nxe];exact hk,λ _ _=>rfl,λ _ _=>rfl,λ i h k=>absurd h (Ax4.2 k),Keeps.refl⟩;refine⟨hl,h.n,h.m,rfl,λ i hi=>aw9 (h.νlt i hi) hk,h.νinj,h.g,h.N,h.sz,h.small,λ i=>(h.env i).mono hl,h.cons,λ p hp=> ?_,h.inj,λ i hi=>h.nx i (av9 hk hi)⟩;obtain⟨h1,b,h2,h3⟩:=h.box p hp;exact⟨h1,b,h2,h3.mono hl⟩
theorem Ok.setB(h:Ok a Γ s){nm:Nat}{b b':ABox}{x:Box}(hb:(nm,b)∈a.bx)(hx:InB Γ b' x):∃c,Γ.le c/\Ok (setB a nm b') c {s with h:=[(Γ.ν nm,some x)]++s.h,nx:=s.nx}:=by
 have d:∀p∈a.bx,Γ.ν p.1=Γ.ν nm->p.1=nm:=λ p hp e=>by rw[h.inj p hp _ hb e]
 obtain⟨l1,o1⟩:=h.upd (bx:=a.bx.map λ p=>if p.1=nm then(nm,b')else p) (us:=[(Γ.ν nm,some x)]) (nx:=s.nx) (m:=a.m) (ν:=Γ.ν) (ay3 _) (λ _ _=>rfl) (ay3 _) (λ i h1 h2=>by omega) (λ i j h1 h2 h3 h4 _=>by omega)
  (λ p hp=>by
   have:p=(Γ.ν nm,some x):=az7.1 hp;subst this;exact⟨.inl (h.named hb).2.1,(h.named hb).1⟩)
  (λ p hp=>by
   obtain⟨q,hq,rfl⟩:=ax5.1 hp;by_cases e:q.1=nm
   .rw[ax3 e];exact .inr ⟨(h.named hb).2.2,.inl (h.named hb).2.1,x,by simp[a0b],hx⟩
   .rw[ay9 e];refine .inl ⟨hq,λ r hr e2=> ?_⟩;have:r=(Γ.ν nm,some x):=az7.1 hr;subst this;exact e (d q hq e2.symm))
  (λ p hp q hq e=>by
   obtain⟨k,f,rfl⟩:=ax5.1 hp;obtain⟨l,g,rfl⟩:=ax5.1 hq;by_cases e1:k.1=nm<;>by_cases e2:l.1=nm
   .grind
   .grind
   .grind
   .rw[ay9 e1,ay9 e2]at e|-;exact h.inj k f l g e)
 refine⟨_,l1,?_⟩;exact o1
def d0w:AV->Bool
 | .any| .und| .agg _| .tup _=>false
 |_=>true
def AV.cells:AV->List AV
 | .agg l=>l
 |v=>[v]
def a4z:AV->Bool
 | .any=>false
 |_=>true
def b9L(v:AV):Bool:=v.cells.all d0w
theorem c6W(h:In Γ av v)(hc:d0w av=true):a0r v=true:=by
 cases h with
 |any=>cases hc
 |und=>cases hc
 |agg=>cases hc
 |tup=>cases hc
 |dat h1 h2=>cases h2<;>rfl
 |_=>rfl
theorem In.cells{av:AV}{v:V}(h:In Γ av v)(hk:a4z av=true):InL Γ av.cells v.cells:=by
 have one:∀{av:AV} {v:V},In Γ av v->InL Γ [av] [v]:=λ h=>⟨rfl,λ j a c ha hc=>by
  cases j with
  |zero=>simp at ha hc;subst ha;subst hc;exact h
  |succ j=>simp at ha⟩
 have h0:=h;cases h with
 |any=>cases hk
 |agg h1 h2=>exact⟨h1,h2⟩
 |dat h1 h2=>cases h2<;>exact one h0
 |_=>exact one h0
theorem a8g(h:In Γ av v)(hf:b9L av=true):a4z av=true/\v.fit=true/\InL Γ av.cells v.cells:=by
 have hk:a4z av=true:=by
  cases av<;>first|rfl|(simp[b9L,AV.cells,d0w]at hf)
 have hc:=h.cells hk;refine⟨hk,?_,hc⟩;unfold b9L at hf;rw[ay5]at hf;unfold V.fit;rw[ay5];intro x hx;obtain⟨j,hj⟩:=List.getElem?_of_mem hx;have b:j<av.cells.length:=by rw[hc.1];exact(ay0.1 hj).1
 exact c6W (hc.2 j _ x (az5 b) hj) (hf _ (au2 b))
theorem InL.drop{l:List AV}{cs:List V}(h:InL Γ l cs)(o:Nat):InL Γ (l.drop o) (cs.drop o):=
 ⟨by simp[h.1],λ j a c ha hc=>by rw[at5]at ha hc;exact h.2 _ a c ha hc⟩
theorem InL.take{l:List AV}{cs:List V}(h:InL Γ l cs)(n:Nat):InL Γ (l.take n) (cs.take n):=by
 refine⟨by simp[h.1],λ j a c ha hc=> ?_⟩;rw[av1]at ha hc;split at ha
 .next hj=>rw[ax3 hj]at hc;exact h.2 _ a c ha hc
 .cases ha
variable {l:List AV} {cs:List V}
theorem InL.append{l':List AV}{b:List V}(h:InL Γ l cs)(k:InL Γ l' b):InL Γ (l++l') (cs++b):=by
 refine⟨by simp[h.1,k.1],λ j a c ha hc=> ?_⟩;by_cases hj:j<l.length
 .rw[aw1 hj]at ha;rw[aw1 (by rw[<-h.1];exact hj)]at hc;exact h.2 j a c ha hc
 .rw[av3 (by omega)]at ha;rw[av3 (by rw[<-h.1];omega),<-h.1]at hc;exact k.2 _ a c ha hc
theorem InL.nil:InL Γ [] []:=⟨rfl,λ j a c h=>by simp at h⟩
variable {x:AV}
theorem InL.cons(h:In Γ x v)(k:InL Γ l cs):InL Γ (x::l) (v::cs):=by
 refine⟨by simp[k.1],λ j a c ha hc=> ?_⟩;cases j with
 |zero=>grind
 |succ j=>exact k.2 j a c (by grind) (by grind)
theorem InL.tail(h:InL Γ (x::l) (v::cs)):In Γ x v/\InL Γ l cs:=
 ⟨h.2 0 x v rfl rfl,by simpa using h.1,λ j a c ha hc=>h.2 (j+1) a c (by grind) (by grind)⟩
def a2S:List AV->Nat->List AV->List AV
 |cs,0,vs=>vs++cs.drop vs.length
 |[],_,_=>[]
 |c::cs,o+1,vs=>c::a2S cs o vs
theorem a3Y:∀{o:Nat} {l vs:List AV} {cs us:List V},InL Γ l cs->InL Γ vs us->InL Γ (a2S l o vs) (setCells cs o us)
 |0,l,vs,cs,us,h,k=>by
  have e1:a2S l 0 vs=vs++l.drop vs.length:=by cases l<;>rfl
  have e2:setCells cs 0 us=us++cs.drop us.length:=by cases cs<;>rfl
  rw[e1,e2,<-k.1];exact k.append (h.drop _)
 |o+1,[],vs,[],us,h,k=>InL.nil
 |o+1,[],vs,_::_,us,h,k=>by cases h.1
 |o+1,_::_,vs,[],us,h,k=>by cases h.1
 |o+1,x::l,vs,c::cs,us,h,k=>InL.cons h.tail.1 (a3Y h.tail.2 k)
def c5b:List AV->List (Nat×Nat×AV)->Option (List AV)
 |cs,[]=>some cs
 |cs,(off,size,v)::r=>if v.cells.length≠size||off+size>cs.length|| !b9L v then none else c5b (a2S cs off v.cells) r
theorem c5Y:∀{ps:List (Nat×Nat×AV)} {b:List (Nat×Nat×V)} {l r:List AV} {cs:List V},InL Γ l cs->ps.length=b.length->(∀(j:Nat) (p:Nat×Nat×AV) (q:Nat×Nat×V),ps[j]?=some p->b[j]?=some q->p.1=q.1/\p.2.1=q.2.1/\In Γ p.2.2 q.2.2)->c5b l ps=some r->
  ∃us,fill cs b=some us/\InL Γ r us
 |[],[],l,r,cs,h,_,_,hr=>by
  simp only[c5b,az0]at hr;subst hr;exact⟨cs,rfl,h⟩
 |[],_::_,_,_,_,_,hl,_,_=>by cases hl
 |_::_,[],_,_,_,_,hl,_,_=>by cases hl
 |(off,size,v)::ps,(d,c,u)::b,l,r,cs,h,hl,hp,hr=>by
  obtain⟨e1,e2,e3⟩:=hp 0 _ _ rfl rfl;simp only at e1 e2 e3;subst e1;subst e2;simp only[c5b]at hr;split at hr
  .cases hr
  next hc=>
  simp only[ay8,ay2,ax2,ap6,av7]at hc;obtain⟨⟨c1,c2⟩,c3⟩:=hc;obtain⟨_,f1,f2⟩:=a8g e3 c3;obtain⟨us,h1,h2⟩:=c5Y (a3Y (o:=off) h f2) (by simpa using hl) (λ j p q hj hq=>hp (j+1) p q (by grind) (by grind)) hr;refine⟨us,?_,h2⟩;simp only[fill];rw[ay9]
  .exact h1
  .simp only[ay8,ay2,ax2,ap6,av7];rw[<-f2.1,<-h.1];grind
variable (P)
def c5g(t:Nat)(l:List AV):Option AV:=match a1M P t,b4T P t with
 |some n,some true=>if l.length<n then none else some (.agg (l.take n))
 |some _,some false=>l.head?
 |_,_=>none
variable {P}
theorem b6T{t:Nat}(h:InL Γ l cs)(hp:c5g P t l=some av):∃v,a6x P t cs=some v/\In Γ av v:=by
 unfold c5g at hp;unfold a6x;simp only[Az0];split at hp
 .next n hn ha=>
  split at hp
  .cases hp
  .next hl=>
   injection hp with hp
   subst hp;refine⟨.agg (cs.take n),?_,.agg (h.take n).1 (h.take n).2⟩;simp only[hn,ha,az1,aw4];rw[ay9 (by rw[<-h.1];exact hl)]
 .next n hn ha=>
  cases l with
  |nil=>cases hp
  |cons x l=>
   cases cs with
   |nil=>cases h.1
   |cons c cs=>simp only[List.head?_cons,az0]at hp;subst hp;exact⟨c,by grind,h.tail.1⟩
 .cases hp
def b4z(s:AS):AV->Option (List AV×AS)
 | .ptr nm off=>match a4U s nm with
   |some (.var l)=>some (l.drop off,s)
   |_=>none
 | .eptr nm sz e off=>match a4U s nm with
   |some (.row _ z k d _)=>if z==sz&&e=k&&a4z (a9h s d).1 then some ((a9h s d).1.cells.drop off,(a9h s d).2)else none
   |_=>none
 | .cptr l=>some (l,s)
 |_=>none
theorem c7N(h:Ok a Γ s)(hv:In Γ av v){p:AS}(hc:b4z a av=some (l,p)):∃cs c,a0E (a0b s.h) v=some cs/\Γ.le c/\Ok p c s/\InL c l cs:=by
 cases hv with
 | @ptr nm off h0=>
   simp only[b4z]at hc;split at hc
   .next l0 hb=>
    injection hc with hc;injection hc with e1 e2;subst e1;subst e2
    obtain⟨_,b,g,j⟩:=h.box _ (a0N hb);cases j with
    |var k1=>refine⟨_,Γ,?_,Gm.le.refl Γ,h,k1.drop off⟩;simp only[a0E,<-h.g,g]
   .cases hc
 | @eptr nm sz off i e h0 h1 h2=>
   simp only[b4z]at hc;split at hc
   .next ty z k d f hb=>
    split at hc
    .next hq=>
     simp only[az6,aw5,ay2]at hq;obtain⟨⟨rfl,rfl⟩,n⟩:=hq;injection hc with hc;injection hc with e1 e2;subst e1;subst e2
     obtain⟨_,b,g,j⟩:=h.box _ (a0N hb);cases j with
     | @row _ _ _ _ _ f' xs k1 k2 k3 k4=>
       have m:i<xs.length:=by omega
       obtain⟨o,l1,_,_,o1,i1⟩:=a7I 4 _ _ _ _ _ h (k3 xs[i] (au2 m));refine⟨xs[i].cells.drop off,o,?_,l1,o1,(i1.cells n).drop off⟩;simp only[a0E,<-h.g,g,aw4,az5 m,ax0]
    .cases hc
   .cases hc
 |cptr h1 h2=>
  injection hc with hc;injection hc with e1 e2;subst e1;subst e2
  exact⟨_,Γ,rfl,Gm.le.refl Γ,h,h1,h2⟩
 | @cptrR _ id ty sz i off xs f x h1 h2 h3 h4 h5=>
   injection hc with hc;injection hc with e1 e2;subst e1;subst e2
   refine⟨x.cells.drop off,Γ,?_,Gm.le.refl Γ,h,h4,h5⟩;simp only[a0E,<-h.g,h1,aw4,h3,ax0]
 |_=>simp[b4z]at hc
end
end
section
open Go.PV
def ofC:Value->Option AV
 | .bool b=>some (.bool (.c b))
 | .int k n=>some (.int k (.k n))
 | .string s=>some (if s.data.toList.contains 47 then .has (.k s.size)else .str (.k s.size))
 | .slice none n c=>if n=0/\c=0 then some .nils else none
 |v=>if sc v then some (.lit v)else none
def ofV:Value->Option AV
 | .agg cs=>(a0D ofC cs.toList).map .agg
 | .func (.func f) a b=>if a.size=0/\b.size=0 then some (.fn f [] [])else none
 |v=>ofC v
def evA(s:AS):Operand->Option AV
 | .tmp t=>some (s.get t)
 | .const v=>ofV v
 | .func f=>some (.fn f [] [])
 | .global _=>none
def c2c(s:AS)(l:List Operand):Option (List AV):=a0D (evA s) l
def evC(s:AS)(x:Operand):Option AV:=match x with
 | .const (.string b)=>if b.size=1||b.size=2 then some (.lit (.string b))else evA s x
 |x=>evA s x
def d9h(s:AS)(l:List Operand):Option (List AV):=a0D (evC s) l
def d3b(s:AS):Option Operand->Option (Option AV)
 |none=>some none
 |some x=>(evA s x).map some
section
variable {P:Program} {a:AS} {Γ:Gm} {s:St}
def d0U:AV->AV
 | .has e=> .str e
 |v=>v
def b0H:AV->AV
 | .agg l=> .agg (l.map d0U)
 |v=>d0U v
variable {av:AV} {v:V}
theorem b8m(h:In Γ av v):In Γ (d0U av) v:=by
 cases h with
 |has h1 h2 _=>exact .str h1 h2
 |any=>exact .any
 |und=>exact .und
 |bool h1 h2=>exact .bool h1 h2
 |int h1 h2=>exact .int h1 h2
 |str h1 h2=>exact .str h1 h2
 |lit=>exact .lit
 |nils=>exact .nils
 |dat h1 h2 h3 h4=>exact .dat h1 h2 h3 h4
 |row h0 h1 h2 h3 h4=>exact .row h0 h1 h2 h3 h4
 |agg h1 h2=>exact .agg h1 h2
 |tup h1 h2=>exact .tup h1 h2
 |fn h1 h2 h3 h4=>exact .fn h1 h2 h3 h4
 |fns h1=>exact .fns h1
 |ptr h0=>exact .ptr h0
 |eptr h0 h1 h2=>exact .eptr h0 h1 h2
 |cptr h1 h2=>exact .cptr h1 h2
 |cptrR h1 h2 h3 h4 h5=>exact .cptrR h1 h2 h3 h4 h5
 |slf h1 h2 h3=>exact .slf h1 h2 h3
theorem a3j(h:In Γ av v):In Γ (b0H av) v:=by
 have h0:=h;cases h with
 |agg h1 h2=>refine .agg (by grind) λ j a c ha hc=> ?_;rw[au3,az2]at ha;obtain⟨b,hb,rfl⟩:=ha;exact b8m (h2 j b c hb hc)
 |_=>exact b8m h0
theorem c9B{u:Value}(h:ofC u=some av):a4z av=true/\∃v,a0Z u=some v/\In Γ av v:=by
 unfold ofC at h;split at h
 .cases h;exact⟨rfl,_,rfl,.bool av5 rfl⟩
 .cases h;exact⟨rfl,_,rfl,.int (a1W _) (by rw[a1P])⟩
 .next s=>
  cases h;split
  .next hm=>exact⟨rfl,_,rfl,.has (a1W _) (by rw[a1P]) (au1.1 hm)⟩
  .exact⟨rfl,_,rfl,.str (a1W _) (by rw[a1P])⟩
 .split at h
  .next e=>cases h;exact⟨rfl,.nils,by simp_all[a0Z],.nils⟩
  .cases h
 .next h1 h2 h3 h4=>
  split at h
  .next hs=>
   injection h with h
   subst h;refine⟨rfl,.lit u,?_,.lit⟩;unfold a0Z;split
   .grind
   .grind
  .cases h
theorem b1s{A:Type}{f:A->Option AV}{g:A->Option V}(b:∀x av,f x=some av->∃v,g x=some v/\In Γ av v):∀{l:List A} {r:List AV},a0D f l=some r->∃cs,a0D g l=some cs/\InL Γ r cs
 |[],r,h=>by
  simp only[a0D,az0]at h;subst h;exact⟨[],rfl,InL.nil⟩
 |x::l,r,h=>by
  simp only[a0D]at h;cases hx:f x with
  |none=>grind
  |some av=>
   cases hl:a0D f l with
   |none=>grind
   |some c=>simp only[hx,hl,az0]at h;subst h;obtain⟨v,h1,h2⟩:=b x av hx;obtain⟨cs,h3,h4⟩:=b1s b hl;exact⟨v::cs,by grind[a0D],InL.cons h2 h4⟩
theorem d0b{u:Value}(h:ofV u=some av):a4z av=true/\∃v,a1w u=some v/\In Γ av v:=by
 unfold ofV at h;split at h
 .next cs=>
  simp only[az2]at h;obtain⟨l,hl,rfl⟩:=h;obtain⟨vs,h1,h2⟩:=b1s (Γ:=Γ) (g:=a0Z) (λ x av hx=>(c9B hx).2) hl;exact⟨rfl,.agg vs,by grind[a1w],.agg h2.1 h2.2⟩
 .next f x y=>
  split at h
  .next e=>cases h;exact⟨rfl,.fn f [] [],by simp_all[a1w],.fn rfl rfl (λ j p q h=>by simp at h) (λ j p q h=>by simp at h)⟩
  .cases h
 .next h1 h2=>
  obtain⟨hk,v,h3,h4⟩:=c9B (Γ:=Γ) h;refine⟨hk,v,?_,h4⟩;unfold a1w;split
  .grind
  .grind
  .exact h3
theorem a1n(h:Ok a Γ s){x:Operand}(he:evA a x=some av):∃v,ev s.get x=some v/\In Γ av v:=by
 cases x with
 |tmp t=>simp only[evA,az0]at he;subst he;exact⟨_,rfl,h.env t⟩
 |const v=>exact(d0b he).2
 |func f=>simp only[evA,az0]at he;subst he;exact⟨_,rfl,.fn rfl rfl (λ j p q h=>by simp at h) (λ j p q h=>by simp at h)⟩
 |global _=>cases he
variable {xs:Array Operand} {l:List AV}
theorem a4R(h:Ok a Γ s)(he:c2c a xs.toList=some l):∃vs,evs s.get xs=some vs/\InL Γ l vs:=
 b1s (λ _ _ hx=>a1n h hx) he
theorem d5B(h:Ok a Γ s){x:Operand}(he:evC a x=some av):∃v,ev s.get x=some v/\In Γ av v:=by
 unfold evC at he;split at he
 .next b=>
  split at he
  .injection he with he
   subst he;exact⟨.lit (.string b),rfl,.lit⟩
  .exact a1n h he
 .exact a1n h he
theorem c5I(h:Ok a Γ s)(he:d9h a xs.toList=some l):∃vs,evs s.get xs=some vs/\InL Γ l vs:=
 b1s (λ _ _ hx=>d5B h hx) he
theorem b6V(h:Ok a Γ s){x:Option Operand}{av:Option AV}(he:d3b a x=some av):∃v,evo s.get x=some v/\b5E Γ av v:=by
 cases x with
 |none=>simp only[d3b,az0]at he;subst he;exact⟨none,rfl,av5⟩
 |some x=>simp only[d3b,az2]at he;obtain⟨b,h1,rfl⟩:=he;obtain⟨v,h2,h3⟩:=a1n h h1;exact⟨some v,by simp only[evo,h2,ax0],h3⟩
variable (P)
def c0x(t:Nat):Option AV:=(P.info? t).bind λ i=>i.zero.bind ofV
variable {P}
variable {t:Nat}
theorem a9F(h:c0x P t=some av):a4z av=true/\∃v,a4h P t=some v/\v.fit=true/\In Γ av v:=by
 unfold c0x at h;rw[az3]at h;obtain⟨i,h1,h2⟩:=h;rw[az3]at h2;obtain⟨u,h2,h3⟩:=h2;obtain⟨h4,v,h5,h6⟩:=d0b (Γ:=Γ) h3;refine⟨h4,v,?_,a5y h5,h6⟩;simp only[a4h,Az0,h1,h2,h5,az1]
def d0X(s:AS)(b:AB)(x y:AS->List (AV×AS)):List (AV×AS):=
 (match assume s b true with|some s=>x s|none=>[])++(match assume s b false with|some s=>y s|none=>[])
theorem b0w(h:Ok a Γ s){b:AB}{t:Bool}(hb:b.ok Γ.ρ Γ.n)(ht:b.holds Γ.ρ t){x y:AS->List (AV×AS)}{r:Out}(hx:t=true->∀c,Ok c Γ s->Good (x c) Γ s r)(hy:t=false->∀c,Ok c Γ s->Good (y c) Γ s r):Good (d0X a b x y) Γ s r:=by
 obtain⟨c,h1,h2⟩:=h.assume hb ht;cases t with
 |true=>obtain⟨p,hp,hg⟩:=hx rfl c h2;refine⟨p,?_,hg⟩;grind[d0X]
 |false=>obtain⟨p,hp,hg⟩:=hy rfl c h2;refine⟨p,?_,hg⟩;grind[d0X]
def d5k(op:BinOp)(q:Option AB)(s:AS):R:=
 match op,q with
 | .eql,some q=>one (.bool q) s
 | .neq,some q=>one (.bool q.not) s
 |_,_=>none
variable {op:BinOp}
theorem b6d{s:AS}:d5k op none s=none:=by cases op<;>rfl
variable (P)
def d6t(op:BinOp)(t:Nat)(x y:AV)(s:AS):R:=
 match P.underlying t with
 |none=>none
 |some d=>match x,y with
  | .int k e,.int c b=>if k=c||op== .shl||op== .shr then b1D op k e b s else none
  | .str e,.str b=>d8h op e b s
  | .agg l,.agg l'=>d5k op (if c7E P t l l' then some .unk else none) s
  |x,y=>d5k op (d6s d x y) s
variable {P}
variable {x y:AV} {p q:Operand} {u:V}
theorem c1X(h:Ok a Γ s)(hx:In Γ x u)(hy:In Γ y v){g:List (AV×AS)}(hr:d6t P op t x y a=some g):
  ∃w,a3w P op t p q u v=some w/\GoodP g Γ s w:=by
 unfold d6t at hr;split at hr
 .cases hr
 next d hd=>
 have b4R:∀{m n:Value} {w:Value} {z:V},a2U d u v=false->a0W u=some m->a0W v=some n->a0c P (eqGuard op t p q m n)=some ()->a0c P (Go.binOp op t m n)=some w->a1w w=some z->a3w P op t p q u v=some z:=by
  intro m n w z h1 h2 h3 h4 h5 h6;unfold a3w;simp only[hd,Az0,az1,h1,ay6,av8,h2,h3,a0t,a0a,h4,h5,h6]
 split at hr
 .next k e j o=>
  split at hr
  .next hk=>
   have f:k=j\/op= .shl\/op= .shr:=by
    simp only[ay8,ay2,aw5]at hk;rcases hk with(hk|hk)|hk
    .exact .inl hk
    .exact .inr (.inl hk)
    .exact .inr (.inr hk)
   cases hx with
   |int h1 h2=>cases hy with
    |int h3 h4=>subst h2;subst h4;obtain⟨w,z,k1,k2,k3⟩:=d1B (P:=P) h h1 h3 hr f (t:=t);exact⟨z,b4R (by cases d<;>rfl) rfl rfl (a3n ⟨(nofun),(nofun)⟩) k1 k2,k3⟩
  .cases hr
 .next e o=>
  cases hx with
  |str h1 h2=>cases hy with
   |str h3 h4=>obtain⟨w,z,k1,k2,k3⟩:=d0J (P:=P) h h1 h3 h2 h4 hr (t:=t);exact⟨z,b4R (by cases d<;>rfl) rfl rfl (a3n ⟨(nofun),(nofun)⟩) k1 k2,k3⟩
 .next l l'=>
  cases hx with
  |agg h1 h2=>cases hy with
   |agg h3 h4=>
    by_cases he:c7E P t l l'=true
    .rw[ax3 he]at hr;obtain⟨m,n,k1,k2,k3,k4,b,k5,k6⟩:=c7c he ⟨h1,h2⟩ ⟨h3,h4⟩ (p:=p) (q:=q);unfold d5k at hr;split at hr
     .next i e0=>
      injection hr with hr;injection e0 with e0
      subst hr;subst e0;exact⟨_,b4R (by cases d<;>rfl) k1 k2 k3 k5 rfl,GoodP.one (Gm.le.refl Γ) (.bool av5 av5) h⟩
     .next i e0=>
      injection hr with hr;injection e0 with e0
      subst hr;subst e0;exact⟨_,b4R (by cases d<;>rfl) k1 k2 k4 k6 rfl,GoodP.one (Gm.le.refl Γ) (.bool av5 av5) h⟩
     .cases hr
    .rw[ay9 he]at hr;rw[b6d]at hr;cases hr
 .cases hn:d6s d x y with
  |none=>rw[hn,b6d]at hr;cases hr
  |some i=>
   rw[hn]at hr;obtain⟨h1,b,h2,h3⟩:=d0L hx hy hn hd;have key:∀(c:BinOp) (b':Bool),op=c->(c= .eql/\b'=b)\/(c= .neq/\b'= !b)->a3w P op t p q u v=some (.lit (.bool b')):=by
    rintro c b' rfl ho;rcases h3 with⟨h3,rfl⟩|⟨h3,m,n,k1,k2,k3,k4,k5,k6⟩
    .unfold a3w;simp only[hd,Az0,az1,h3,aw4];rcases ho with⟨rfl,rfl⟩|⟨rfl,rfl⟩<;>rfl
    .rcases ho with⟨rfl,rfl⟩|⟨rfl,rfl⟩
     .exact b4R h3 k1 k2 (a3n ⟨k3,k4⟩) k5 rfl
     .exact b4R h3 k1 k2 (a3n ⟨k3,k4⟩) k6 rfl
   unfold d5k at hr;split at hr
   .next r e1=>
    injection hr with hr;injection e1 with e1
    subst hr;subst e1;exact⟨_,key _ _ rfl (.inl ⟨rfl,rfl⟩),GoodP.one (Gm.le.refl Γ) (.bool h1 h2) h⟩
   .next r e1=>
    injection hr with hr;injection e1 with e1
    subst hr;subst e1;exact⟨_,key _ _ rfl (.inr ⟨rfl,rfl⟩),GoodP.one (Gm.le.refl Γ) (.bool (b5L h1) (a8M h2)) h⟩
   .cases hr
def d2c:AV->Bool
 | .has _=>true
 |_=>false
def c3L:AV->Bool
 | .has _| .str _=>true
 |_=>false
def d4M:AV->AV
 | .str e=> .has e
 |v=>v
variable (P)
def d7h(op:BinOp)(t:Nat)(x y:AV)(s:AS):R:=
 if op== .add&&(c3L x&&c3L y&&(d2c x||d2c y))then(d6t P op t (b0H x) (b0H y) s).map λ l=>l.map λ p=>(d4M p.1,p.2)
 else d6t P op t (b0H x) (b0H y) s
variable {P}
theorem b5K(hx:In Γ x u)(hs:c3L x=true):∃b:ByteArray,u= .lit (.string b)/\(d2c x=true->(47:UInt8)∈b.data.toList):=by
 cases hx with
 |str h1 h2=>exact⟨_,rfl,nofun⟩
 |has h1 h2 h3=>grind
 |_=>cases hs
theorem d1b{a b:ByteArray}{w:V}(ho:op= .add)(h:a3w P op t p q (.lit (.string a)) (.lit (.string b))=some w):w= .lit (.string (a++b)):=by
 subst ho;unfold a3w at h;simp only[Az0,az3]at h;obtain⟨d,hd,h⟩:=h;have hn:a2U d (.lit (.string a)) (.lit (.string b))=false:=by cases d<;>rfl
 rw[hn]at h;simp only[ay6,av8,a0W,a1b,az1,a0t,a0a,Az0]at h;rw[a3n (u:= .string a) (v:= .string b) ⟨(λ _ _ h=>by cases h),(λ h=>by cases h)⟩]at h;simp only[az1,Go.binOp,Op.stringOp]at h;split at h
 .simp[a0c,unsupported]at h
 .simp only[a0i,az1,a1w,a0Z,sc,aw4,az0]at h;exact h.symm
theorem d0H(h:Ok a Γ s)(hx:In Γ x u)(hy:In Γ y v){f:List (AV×AS)}(hr:d7h P op t x y a=some f):
  ∃w,a3w P op t p q u v=some w/\GoodP f Γ s w:=by
 unfold d7h at hr;split at hr
 .next hc=>
  simp only[az6,ay8,aw5]at hc;obtain⟨ho,⟨b,c⟩,hh⟩:=hc;rw[az2]at hr;obtain⟨l,hl,rfl⟩:=hr;obtain⟨w,h1,p0,hp,d,h2,h3,h4⟩:=c1X h (a3j hx) (a3j hy) hl (p:=p) (q:=q);refine⟨w,h1,(d4M p0.1,p0.2),ax5.2 ⟨p0,hp,rfl⟩,d,h2,?_,h4⟩;obtain⟨b1,rfl,m1⟩:=b5K hx b;obtain⟨b2,rfl,m2⟩:=b5K hy c;have hw:=d1b ho h1;subst hw;obtain⟨av,g⟩:=p0;simp only at h3|-;cases h3 with
  |str k1 k2=>
   refine .has k1 k2 ?_;have e:(b1++b2).data.toList=b1.data.toList++b2.data.toList:=by simp
   grind
  |any=>exact .any
  |has k1 k2 k3=>exact .has k1 k2 k3
  |lit=>exact .lit
  |dat _ k2=>cases k2
 .exact c1X h (a3j hx) (a3j hy) hr
end
end
end Go.SN
