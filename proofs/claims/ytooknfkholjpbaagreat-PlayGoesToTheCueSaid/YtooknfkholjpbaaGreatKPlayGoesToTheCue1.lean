/- Parts of the proof of PlayGoesToTheCue, in order. -/
import Derived.Orders
import Derived.Below
import Derived.WalkKit
import Derived.Laws.StructEq
import Derived.Laws.Append
import Derived.Laws.AppendOwn
namespace Go.Proofs.YtooknfkholjpbaaGreat
set_option linter.unusedVariables false
set_option linter.unusedSimpArgs false
set_option linter.unusedSectionVars false
set_option maxRecDepth 1000000
noncomputable section
open List renaming drop_eq_nil_of_le->aC0,filter_cons->aEo,map_append->Z6,mem_replicate->Xl,mem_singleton->TV,getElem?_eq_getElem->aEh,getElem?_concat_length->aDZ,find?_cons->aDr,getElem?_drop->ZW,foldl_cons->V4,append_nil->VT,getD->U1,perm_middle->aC2,size_toArray->Zs,flatten_append->aDj,getElem?_append_right->aD3,drop_eq_getElem_cons->UG,map_nil->Vl,all_cons->aDz,length_cons->YZ,map_map->YG,getElem?_append_left->aEb,mem_cons_self->YJ,getElem?_take->aCY,mem_iff_getElem->T5,mem_flatten->aCT,getElem?_take_of_lt->WG,length_replicate->Vk,getElem_cons_drop->aD6,flatten_cons->XS,toList_toArray->aDi,take_append_drop->YN,mem_map_of_mem->aDg,mem_of_find?_eq_some->aEd,headD_cons->aDT,mem_filter->Tx,flatMap_cons->Xm,extract_eq_take_drop->aEe,getElem?_eq_some_iff->aEa,length_append->ZY,eq_nil_of_length_eq_zero->aDO,replicate->Z3,eraseIdx_eq_take_drop_succ->Ty
open Nat renaming zero_add->YW,div_mul_le_self->aDk,blt->ZQ,le_mul_of_pos_right->aEm,le_trans->UT,le_of_mul_le_mul_right->Yv
open Go.Op renaming stringOp->aDQ,intCmp->aEl,intArith->aDP,bytesLess->WR,equalIn->Uf
open _root_.Array renaming getElem?_eq_getElem->aEc,getElem?_setIfInBounds_ne->Vf,getD->aDu,size_append->WZ,length_toList->Y8,getElem?_eq_some_iff->aD4,toList_filter->Vh,getD_eq_getD_getElem?->aDY,toList_append->aDU,eraseIdxIfInBounds->ZU,getElem?_toList->UE,getElem?_setIfInBounds->YS,range->aDR
open Go.Act renaming put->aDf
open Go.Program renaming cellsOf->aDS
open Go.Instr renaming findNow->Zx,range->aDF,checkKey->Xn,next->UX,buildSlice->aCU,sliceBounds->UZ,mapUpdate->aDV,sliceBound->VG,slice->Zk,sameNow->Xq,findKey->aDq,sliceAt->aEi,findAsking->Z1,indexAt->aDs,sureAddr->V2,sameBits->Z4
open Option renaming some->δ,none->μ,bind_eq_some_iff->aEk
open Go.World renaming cell?->Xd
open Prod.mk renaming injEq->T4
open Bool renaming true->θ,not_false->Yx,false_eq_true->YQ,not_eq_false'->aDv,not_eq_true'->UK,true_and->aDh,false->ι,not_true->Ur
open Go.IntKind renaming i64->ξ
open Go.Region renaming binds->XB
open Go.Builtin renaming lenOf->U6,append_->Xr,copy_->Xi,cap_->aC1,delete_->aC7,clear_->Vy,len_->W9,zeroCells->T6,firstCells->XF
open Classical renaming choose->To,choose_spec->Vm,byContradiction->aEf
open Go.Question renaming forced->U3
open Go.MapKept renaming heap_alloc->Uc
open Go renaming run_choose_drew->aD7
open IntKind renaming i64->ξ
open Go.Sem renaming run_bind->Ts,run_pure->X8,run->U8
open Go.Result renaming andThen_ok->UM
open Int renaming toNat_natCast->TS
open Option.some renaming injEq->Θ
theorem aJ{α:Type _}{β:Type _}(a:α)(f:α->Option β):(δ a).bind f=f a:=rfl
theorem cR{α:Type _}{β:Type _}(a:α)(f:α->β):(δ a).map f=δ (f a):=rfl
theorem cH{α:Type _}{x:α}{xs:List α}{d:α}:(x::xs).getD 0 d=x:=rfl
theorem dr{α:Type _}{x:α}{xs:List α}{n:Nat}{d:α}:(x::xs).getD (n+1) d=xs.getD n d:=rfl
theorem bQ{α:Sort _}(a b:α):cond ι a b=b:=rfl
theorem cU{α:Sort _}(a b:α):cond θ a b=a:=rfl
theorem eP{α:Type _}{β:Type _}{f:α->β}{a:α}{l:List α}:(a::l).map f=f a::l.map f:=rfl
theorem bG:type_of% @aEa:=@aEa
theorem ct:type_of% @aEk:=@aEk
theorem cC:type_of% @aEh:=@aEh
theorem dm:type_of% @List.mem_of_getElem?:=@List.mem_of_getElem?
theorem fF:type_of% @Option.map_eq_some_iff:=@Option.map_eq_some_iff
theorem jq:type_of% @aD3:=@aD3
theorem iS:type_of% @aEb:=@aEb
theorem bN:type_of% @Nat.le_refl:=@Nat.le_refl
theorem mP:type_of% @aD4:=@aD4
theorem jW:type_of% @Bool.and_eq_true:=@Bool.and_eq_true
theorem sx:type_of% @aDY:=@aDY
theorem kE:type_of% @List.getElem?_set:=@List.getElem?_set
theorem xB:type_of% @Nat.lt_of_lt_of_le:=@Nat.lt_of_lt_of_le
theorem lp:type_of% @List.append_assoc:=@List.append_assoc
theorem nv:type_of% @List.getElem?_set_self:=@List.getElem?_set_self
theorem qw:type_of% @Bool.or_eq_false_iff:=@Bool.or_eq_false_iff
theorem mQ:type_of% @List.drop_drop:=@List.drop_drop
theorem lT:type_of% @Nat.add_assoc:=@Nat.add_assoc
theorem iG:type_of% @Nat.add_mul:=@Nat.add_mul
theorem nP:type_of% @Nat.add_le_add:=@Nat.add_le_add
theorem rK:type_of% @List.getElem?_eq_none:=@List.getElem?_eq_none
theorem jP:type_of% @List.mem_cons:=@List.mem_cons
theorem sy:type_of% @List.set_append_right:=@List.set_append_right
theorem wA:type_of% @List.length_eq_one_iff:=@List.length_eq_one_iff
theorem oI:type_of% @Array.toList_inj:=@Array.toList_inj
theorem uy:type_of% @List.mem_iff_getElem?:=@List.mem_iff_getElem?
theorem tM:type_of% @Nat.mul_le_mul_right:=@Nat.mul_le_mul_right
theorem xC:type_of% @aDO:=@aDO
theorem gh:type_of% @List.mem_map:=@List.mem_map
theorem jQ:type_of% @List.mem_append:=@List.mem_append
theorem wB:type_of% @aEc:=@aEc
theorem pM:type_of% @Bool.eq_iff_iff:=@Bool.eq_iff_iff
theorem tN:type_of% @List.mem_cons_of_mem:=@List.mem_cons_of_mem
theorem rM:type_of% @List.length_take:=@List.length_take
theorem n9:type_of% @List.take_of_length_le:=@List.take_of_length_le
theorem aP:type_of% @if_pos:=@if_pos
theorem aO:type_of% @if_neg:=@if_neg
theorem cL:type_of% @decide_eq_true:=@decide_eq_true
theorem cO:type_of% @decide_eq_false:=@decide_eq_false
theorem xD:type_of% @aEd:=@aEd
theorem pN:type_of% @List.nodup_cons:=@List.nodup_cons
theorem sA:type_of% @List.mem_of_mem_take:=@List.mem_of_mem_take
theorem rN:type_of% @List.all_eq_true:=@List.all_eq_true
theorem kW:type_of% @Nat.zero_le:=@Nat.zero_le
theorem oJ:type_of% @List.cons_append:=@List.cons_append
theorem uz:type_of% @List.getElem?_map:=@List.getElem?_map
theorem E8:type_of% @aDZ:=@aDZ
inductive AV where
 |undef
 |int(k:IntKind)(n:Int)
 |bool(b:Bool)
 |str(s:ByteArray)
 |agg(cs:List AV)
 |aM(vs:List AV)
 |sl(sz:Nat)(es:List (List AV))
 |aA
 |ez
 |rp(cs:List AV)
 |np
 |op(id off:Nat)
 |oe(id g i off:Nat)
 |os(id g sz off len:Nat)
 |om(id:Nat)
 |fm(es:List (AV×AV))
 |nm
 |fn(f:Nat)(caps:List AV)
 |CB
 |lbx(cs:List AV)
 deriving Inhabited
open AV renaming bool->Λ,int->Wz,agg->Φ,aA->Zg,str->Xo,sl->Yh,aM->Yu
inductive aW where
 |box(cs:List AV)
 |arr(g sz:Nat)(es:List (List AV))
 |sB(g sz:Nat)(es:List (List AV))
 |map(es:List (AV×AV))
 |it(cur left:List (AV×AV))
 deriving Inhabited
def J8(es:List (AV×AV)):Prop:=(∀p∈es,∃n s,p.1=.agg [.int ξ n,.str s])/\(es.map (·.1)).Nodup
abbrev Heap:=List aW
inductive AX where
 |normal
 |exit(id:Nat)
 |ret
 deriving DecidableEq,Inhabited
namespace A
def cond{α:Type}(c:AV)(t e:Option α):Option α:=match c with|.bool b=>bif b then t else e|_=>μ
def guard{α:Type}(c:AV)(want:Bool)(t e:Option α):Option α:=match c with|.bool b=>bif b==want then t else e|.aM []=>e|_=>μ
def pick(c a b:AV):Option AV:=match c with|.bool c=>δ (bif c then a else b)|_=>μ
def cell(v:AV):Option AV:=match v with|.undef=>μ|.agg _=>μ|.aM _=>μ|.lbx _=>μ|v=>δ v
def cells(n:Nat)(v:AV):Option (List AV):=match v with|.agg cs=>if cs.length=n then δ cs else μ|_=>μ
def lb(v:AV):Option (List AV):=match v with|.lbx cs=>δ cs|_=>μ
def ak(off:Nat)(cs:List AV):Option AV:=(cs[off]?).bind cell
def aD(off n:Nat)(cs:List AV):Option AV:=if off+n<=cs.length then δ (.agg ((cs.drop off).take n))else μ
def aB(off:Nat)(new cs:List AV):Option (List AV):=if off+new.length<=cs.length then δ (cs.take off++new++cs.drop (off+new.length))else μ
def deref(v:AV)(σ:Heap):Option (List AV):=match v with
 |.rp cs=>δ cs
 |.op id off=>match σ[id]? with|some (.box cs)=>δ (cs.drop off)|_=>μ
 |.oe id g i off=>match σ[id]? with|some (.arr g' _ es)=>if g=g' then(es[i]?).map (·.drop off)else μ|_=>μ
 |_=>μ
def storeAt(v:AV)(new:List AV)(σ:Heap):Option Heap:=match v with
 |.op id off=>match σ[id]? with|some (.box cs)=>(aB off new cs).map λcs=>σ.set id (.box cs)|_=>μ
 |.oe id g i off=>match σ[id]? with
  |some (.arr g' sz es)=>if g=g' then(es[i]?).bind λe=>(aB off new e).map λe=>σ.set id (.arr g sz (es.set i e))else μ
  |_=>μ
 |_=>μ
def aQ(off:Nat)(v:AV):Option AV:=match v with
 |.rp cs=>δ (.rp (cs.drop off))
 |.op id o=>δ (.op id (o+off))
 |.oe id g i o=>δ (.oe id g i (o+off))
 |_=>μ
def idx(len:Nat)(i:AV):Option Nat:=match i with|.int _ n=>if 0<=n/\n<len then δ n.toNat else μ|_=>μ
def bw(sz:Nat)(x i:AV):Option AV:=match x with
 |.sl sz' es=>(idx es.length i).bind λj=>if sz=sz' then(es[j]?).map .rp else μ
 |.os id g sz' off len=>(idx len i).bind λj=>if sz=sz' then δ (.oe id g (off+j) 0)else μ
 |_=>μ
def Cc(len sz:Nat)(x i:AV):Option AV:=(idx len i).bind λj=>match x with
 |.rp cs=>δ (.rp (cs.drop (j*sz)))
 |.op id o=>δ (.op id (o+j*sz))
 |.oe id g k o=>δ (.oe id g k (o+j*sz))
 |_=>μ
def bI(x:AV):Option AV:=match x with|.rp cs=>δ (.rp cs)|.op id o=>δ (.op id o)|.oe id g i o=>δ (.oe id g i o)|.fn f c=>δ (.fn f c)|_=>μ
def ext(i:Nat)(x:AV):Option AV:=match x with|.aM vs=>vs[i]? |_=>μ
def add(x y:AV):Option AV:=match x,y with
 |.int k a,.int k' b=>if k=k' then δ (.int k (k.wrap (a+b)))else μ
 |.str a,.str b=>if a.size+b.size<=9223372036854775807 then δ (.str (a++b))else μ
 |_,_=>μ
def sub(x y:AV):Option AV:=match x,y with|.int k a,.int k' b=>if k=k' then δ (.int k (k.wrap (a-b)))else μ|_,_=>μ
def mul(x y:AV):Option AV:=match x,y with|.int k a,.int k' b=>if k=k' then δ (.int k (k.wrap (a*b)))else μ|_,_=>μ
def quo(x y:AV):Option AV:=match x,y with|.int k a,.int k' b=>if k=k'/\b≠0 then δ (.int k (k.wrap (a.tdiv b)))else μ|_,_=>μ
def rem(x y:AV):Option AV:=match x,y with|.int k a,.int k' b=>if k=k'/\b≠0 then δ (.int k (a.tmod b))else μ|_,_=>μ
def shl(x y:AV):Option AV:=match x,y with|.int k a,.int _ b=>if b<0 then μ else δ (.int k (k.wrap (a*2 ^ min b.toNat k.bits)))|_,_=>μ
def shr(x y:AV):Option AV:=match x,y with|.int k a,.int _ b=>if b<0 then μ else δ (.int k (a.fdiv (2 ^ min b.toNat k.bits)))|_,_=>μ
def lss(x y:AV):Option AV:=match x,y with|.int k a,.int k' b=>if k=k' then δ (.bool (decide (a<b)))else μ|.str a,.str b=>δ (.bool (WR a.toList b.toList))|_,_=>μ
def leq(x y:AV):Option AV:=match x,y with|.int k a,.int k' b=>if k=k' then δ (.bool (decide (a<=b)))else μ|_,_=>μ
def gtr(x y:AV):Option AV:=match x,y with|.int k a,.int k' b=>if k=k' then δ (.bool (decide (a>b)))else μ|_,_=>μ
def geq(x y:AV):Option AV:=match x,y with|.int k a,.int k' b=>if k=k' then δ (.bool (decide (a>=b)))else μ|_,_=>μ
def qH(x y:AV):Option Bool:=match x,y with|.int k a,.int k' b=>if k=k' then δ (a==b)else μ|_,_=>μ
def Ai(x y:AV):Option Bool:=match x,y with|.bool a,.bool b=>δ (a==b)|_,_=>μ
def tV(x y:AV):Option Bool:=match x,y with|.str a,.str b=>δ (a==b)|_,_=>μ
def ZX(x y:AV):Option Bool:=match x,y with
 |.np,.np=>δ θ
 |.np,.rp _=>δ ι
 |.np,.op _ _=>δ ι
 |.rp _,.np=>δ ι
 |.op _ _,.np=>δ ι
 |_,_=>μ
def qi(k:Nat)(x y:AV):Option Bool:=match k with|0=>qH x y|1=>Ai x y|2=>tV x y|_=>μ
def jm:List Nat->List AV->List AV->Option Bool
 |[],[],[]=>δ θ
 |k::ks,x::xs,y::ys=>(qi k x y).bind λb=>(jm ks xs ys).map λc=>b&&c
 |_,_,_=>μ
inductive EK where
 |i|b|z|p
 |s(ks:List Nat)
def gz(k:EK)(x y:AV):Option Bool:=match k with
 |.i=>qH x y
 |.b=>Ai x y
 |.z=>tV x y
 |.p=>ZX x y
 |.s ks=>match x,y with|.agg xs,.agg ys=>jm ks xs ys|_,_=>μ
def eql(k:EK)(x y:AV):Option AV:=(gz k x y).map .bool
def neq(k:EK)(x y:AV):Option AV:=(gz k x y).map λb=>.bool (!b)
def S3(x y:AV):Option Bool:=match y with
 |.aA=>(match x with|.aA=>δ θ|.sl _ (_::_)=>δ ι|.os _ _ _ _ _=>δ ι|_=>μ)
 |_=>μ
def wO(x y:AV):Option AV:=(S3 x y).map .bool
def neN(x y:AV):Option AV:=(S3 x y).map λb=>.bool (!b)
def NF(x:AV):Option AV:=match x with|.aA=>δ (.int ξ 0)|.ez=>δ (.int ξ 0)|_=>μ
def not(x:AV):Option AV:=match x with|.bool b=>δ (.bool (!b))|_=>μ
def neg(x:AV):Option AV:=match x with|.int k n=>δ (.int k (k.wrap (0-n)))|_=>μ
def conv(k:IntKind)(x:AV):Option AV:=match x with|.int _ n=>δ (.int k (k.wrap n))|_=>μ
def ag7(x:AV):Option AV:=match x with|.str s=>δ (.str s)|_=>μ
def max(x y:AV):Option AV:=match x,y with|.int k a,.int _ b=>δ (.int k (if b>a then b else a))|_,_=>μ
def min(x y:AV):Option AV:=match x,y with|.int k a,.int _ b=>δ (.int k (if b<a then b else a))|_,_=>μ
def yE(x:AV):Option AV:=match x with|.str s=>δ (.int ξ s.size)|_=>μ
def bu(x:AV):Option AV:=match x with
 |.sl _ es=>δ (.int ξ es.length)
 |.aA=>δ (.int ξ 0)
 |.ez=>δ (.int ξ 0)
 |.os _ _ _ _ n=>δ (.int ξ n)
 |_=>μ
def ah4(x:AV)(σ:Heap):Option AV:=match x with
 |.nm=>δ (.int ξ 0)
 |.fm es=>δ (.int ξ es.length)
 |.om id=>match σ[id]? with|some (.map es)=>δ (.int ξ es.length)|_=>μ
 |_=>μ
def qy(x i:AV):Option AV:=match x with|.str s=>(idx s.size i).bind λj=>(s[j]?).map λb=>.int .u8 b.toNat|_=>μ
def bound(y:Nat)(dflt:Nat)(x:Option AV):Option Nat:=match x with
 |none=>δ dflt
 |some (.int _ i)=>if 0<=i/\i<=y then δ i.toNat else μ
 |_=>μ
def XR(x:AV)(lo hi:Option AV):Option AV:=match x with
 |.str s=>(bound s.size s.size hi).bind λh=>(bound h 0 lo).map λl=>.str (s.extract l h)
 |_=>μ
def room(σ:Heap)(id g sz off len:Nat):Nat:=match σ[id]? with
 |some (.arr g' sz' es)=>if g=g'/\sz=sz'/\off+len<=es.length then es.length-off else len
 |_=>len
def eA(sz:Nat)(x:AV)(lo hi:Option AV)(σ:Heap):Option AV:=match x with
 |.sl sz' es=>if sz=sz' then(bound es.length es.length hi).bind λh=>(bound h 0 lo).map λl=>.sl sz ((es.take h).drop l)else μ
 |.aA=>(bound 0 0 hi).bind λh=>(bound h 0 lo).map λ_=>.aA
 |.ez=>(bound 0 0 hi).bind λh=>(bound h 0 lo).map λ_=>.ez
 |.os id g sz' off len=>if sz=sz' then(bound (room σ id g sz off len) len hi).bind λh=>(bound h 0 lo).map λl=>.os id g sz (off+l) (h-l)else μ
 |_=>μ
def slice3(x:AV)(lo:Option AV)(hi mx:AV):Option AV:=(bu x).bind λn=>match n with
 |.int _ n=>(bound n.toNat 0 (δ mx)).bind λm=>(bound m 0 (δ hi)).bind λh=>(bound h 0 lo).map λ_=>if m=0 then .ez else .undef
 |_=>μ
def elems(sz:Nat)(x:AV)(σ:Heap):Option (List (List AV)):=match x with
 |.aA=>δ []
 |.ez=>δ []
 |.sl sz' es=>if sz=sz' then δ es else μ
 |.os id g je off len=>match σ[id]? with
  |some (.arr g' sz' es)=>if g=g'/\sz=sz'/\je=sz/\off+len<=es.length then δ ((es.drop off).take len)else μ
  |some (.sB g' sz' es)=>if g=g'/\sz=sz'/\je=sz/\off+len<=es.length then δ ((es.drop off).take len)else μ
  |_=>μ
 |_=>μ
def p6(sz most:Nat)(x:AV)(ys:List (List AV))(σ:Heap):Option (AV×Heap):=match x with
 |.aA=>if ys=[]then δ (.aA,σ)else if ys.length<=most then δ (.os σ.length ys.length sz 0 ys.length,σ++[.arr ys.length sz ys])else μ
 |.ez=>if ys=[]then δ (.ez,σ)else if ys.length<=most then δ (.os σ.length ys.length sz 0 ys.length,σ++[.arr ys.length sz ys])else μ
 |.os id g je off len=>match σ[id]? with
  | some (.arr g' sz' es) => if g = g' /\ sz = sz' /\ je = sz /\ off + len <= es.length /\ len + ys.length <= most then
    (if ys=[]then δ (.os id g sz off len,σ)else if off+len+ys.length<=es.length then δ (.os id g sz off (len+ys.length),σ.set id (.arr g sz (es.take (off+len)++ys++es.drop (off+len+ys.length))))
    else δ (.os id (g+ys.length) sz 0 (len+ys.length),σ.set id (.arr (g+ys.length) sz ((es.drop off).take len++ys))))else μ
  | some (.sB g' sz' es) => if g = g' /\ sz = sz' /\ je = sz /\ off + len <= es.length /\ len + ys.length <= most /\ es.length < off + len + ys.length then
    δ (.os σ.length (len+ys.length) sz 0 (len+ys.length),σ++[.arr (len+ys.length) sz ((es.drop off).take len++ys)])else μ
  |_=>μ
 |_=>μ
def append(sz most:Nat)(x y:AV)(σ:Heap):Option (AV×Heap):=(elems sz y σ).bind λys=>p6 sz most x ys σ
def AF(sz most:Nat)(zs:List AV)(x n:AV)(σ:Heap):Option (AV×Heap):=match n with
 |.int _ k=>if 0<=k/\k<=most then p6 sz most x (Z3 k.toNat zs) σ else μ
 |_=>μ
def n5(sz:Nat)(x y:AV)(σ:Heap):Option (AV×Heap):=(elems sz y σ).bind λys=>match x with
 |.aA=>δ (.int ξ 0,σ)
 |.ez=>δ (.int ξ 0,σ)
 |.os id g je off len=>match σ[id]? with
  | some (.arr g' sz' es) => if g = g' /\ sz = sz' /\ je = sz /\ off + len <= es.length then (if ys.length = 0 \/ len = 0 then δ (.int ξ 0, σ) else
    δ (.int ξ (ys.take len).length,σ.set id (.arr g sz (es.take off++ys.take len++es.drop (off+(ys.take len).length)))))else μ
  |_=>μ
 |_=>μ
def all {R:Type} (p:Nat->Prop) (k:Nat->Option R):Option R:=open Classical in if h:∃r,∀n,p n->k n=δ r then δ (To h)else μ
def Fe {R:Type} (x:AV) (σ:Heap) (k:Nat->Heap->Option R):Option R:=match x with
 |.os id g sz off len=>match σ[id]? with
  |some (.arr g' sz' es)=>if g=g'/\sz=sz'/\off+len<=es.length then all (λc=>len<=c/\es.length<=off+c) (λc=>k c (if c=len then σ.set id (.sB g sz es)else σ.set id (.arr g sz (es++Z3 (off+c-es.length) (Z3 sz .undef)))))else μ
  |_=>μ
 |_=>μ
def Ks{R:Type}(v:AV)(k:Nat->List (List AV)->Option R):Option R:=match v with|.sl sz es=>bif es.length==0 then μ else k sz es|_=>μ
def Fc{R:Type}(v:Option AV)(k:AV->Option R)(u:Option R):Option R:=match v with|some v=>k v|none=>u
def zC(m:AV):Option (List (AV×AV)):=match m with
 |.nm=>δ []
 |.fm es=>δ es
 |_=>μ
def xA {R:Type} (i:AV) (σ:Heap) (k:AV->Heap->Option R):Option R:=match i with
 |.op id 0=>match σ[id]? with
  |some (.it _ [])=>k (.aM [.bool ι]) σ
  |some (.it _ (e::left))=>all (λj=>j<(e::left).length) (λj=>match(e::left)[j]? with
   |some p=>k (.aM [.bool θ,p.1,p.2]) (σ.set id (.it [p] ((e::left).eraseIdx j)))
   |none=>μ)
  |_=>μ
 |_=>μ
def zz(i:AV)(σ:Heap):Option AV:=match i with
 |.op id 0=>match σ[id]? with
  |some (.it [p] _)=>δ (.aM [p.1,p.2])
  |_=>μ
 |_=>μ
def GG(sz:Nat)(zs:List AV)(x:AV)(σ:Heap):Option Heap:=match x with
 |.aA=>δ σ
 |.ez=>δ σ
 |.sl _ []=>δ σ
 |.os id g je off len=>match σ[id]? with
  |some (.arr g' sz' es)=>if g=g'/\sz=sz'/\je=sz/\off+len<=es.length then(if len=0 then δ σ else δ (σ.set id (.arr g sz (es.take off++Z3 len zs++es.drop (off+len)))))else μ
  |_=>μ
 |_=>μ
def find(e:EK)(k:AV):List (AV×AV)->Option (Option AV)
 |[]=>δ μ
 |(k',v)::r=>(gz e k k').bind λb=>bif b then δ (δ v)else find e k r
def xw(e:EK)(k:AV):List (AV×AV)->Nat->Option (Option Nat)
 |[],_=>δ μ
 |(k',_)::r,i=>(gz e k k').bind λb=>bif b then δ (δ i)else xw e k r (i+1)
def upd(e:EK)(k v:AV):List (AV×AV)->Option (List (AV×AV))
 |[]=>δ [(k,v)]
 |(k',v')::r=>(gz e k k').bind λb=>bif b then δ ((k,v)::r)else(upd e k v r).map ((k',v')::·)
def del(e:EK)(k:AV):List (AV×AV)->Option (List (AV×AV))
 |[]=>δ []
 |(k',v')::r=>(gz e k k').bind λb=>bif b then δ r else(del e k r).map ((k',v')::·)
def entries(m:AV)(σ:Heap):Option (List (AV×AV)):=match m with
 |.nm=>δ []
 |.fm es=>δ es
 |.om id=>match σ[id]? with|some (.map es)=>δ es|_=>μ
 |_=>μ
def lS(e:EK)(k:AV):Bool:=match e,k with
 |.i,.int _ _=>θ
 |.b,.bool _=>θ
 |.z,.str _=>θ
 |.s ks,.agg xs=>xs.length==ks.length
 |_,_=>ι
def look(e:EK)(m k zero:AV)(σ:Heap):Option AV:=bif lS e k then(entries m σ).bind λes=>(find e k es).map λr=>r.getD zero else μ
def GM(e:EK)(m k zero:AV)(σ:Heap):Option AV:=bif lS e k then(entries m σ).bind λes=>(find e k es).map λr=>.aM [r.getD zero,.bool r.isSome]else μ
def jX(e:EK)(m k v:AV)(σ:Heap):Option Heap:=bif lS e k then(match m with
 |.om id=>match σ[id]? with|some (.map es)=>(upd e k v es).map λes=>σ.set id (.map es)|_=>μ
 |_=>μ)else μ
def Ho(e:EK)(m k:AV)(σ:Heap):Option Heap:=bif lS e k then(match m with
 |.nm=>δ σ
 |.om id=>match σ[id]? with|some (.map es)=>(del e k es).map λes=>σ.set id (.map es)|_=>μ
 |_=>μ)else μ
def quiet (r:Option (AV×Heap)) (σ:Heap):Option AV:=r.bind λp=>open Classical in if p.2=σ then δ p.1 else μ
def l8(dyn:Nat->List AV->Heap->Option (AV×Heap))(f:AV)(args:List AV)(σ:Heap):Option (AV×Heap):=match f with|.fn n caps=>dyn n (args++caps) σ|_=>μ
def tab{α:Type}(d:α):List (Nat×α)->Nat->α
 |[],_=>d
 |(m,x)::r,n=>bif n==m then x else tab d r n
def iter(f:List AV->Heap->Option (AX×List AV×Heap)):Nat->List AV->Heap->Option (AX×List AV×Heap)
 |0,_,_=>μ
 |n+1,v,σ=>(f v σ).bind λr=>match r.1 with|.normal=>iter f n r.2.1 r.2.2|_=>δ r
def loop (f:List AV->Heap->Option (AX×List AV×Heap)) (v:List AV) (σ:Heap):Option (AX×List AV×Heap):=
 open Classical in if h:∃n r,iter f n v σ=δ r then δ (To (Vm h))else μ
def AR{R:Type}(f:List AV->Heap->(AX×List AV×Heap->Option R)->Option R):Nat->List AV->Heap->(AX×List AV×Heap->Option R)->Option R
 |0,_,_,_=>μ
 |n+1,v,σ,K=>f v σ λr=>match r.1 with|.normal=>AR f n r.2.1 r.2.2 K|_=>K r
def Dn {R:Type} (f:List AV->Heap->(AX×List AV×Heap->Option R)->Option R) (v:List AV) (σ:Heap) (K:AX×List AV×Heap->Option R):Option R:=
 open Classical in if h:∃r,∃n,∀m,n<=m->AR f m v σ K=δ r then δ (To h)else μ
mutual
def bV(σ:Heap)(n:Nat):Nat->AV->Option AV
 |_,.int k a=>δ (.int k a)
 |_,.bool b=>δ (.bool b)
 |_,.str s=>δ (.str s)
 |_,.aA=>δ .aA
 |_,.ez=>δ .ez
 |_,.np=>δ .np
 |_,.nm=>δ .nm
 |_,.CB=>δ .CB
 |d,.agg cs=>(gP σ n d cs).map .agg
 |d,.aM cs=>(gP σ n d cs).map .aM
 |d,.sl sz es=>(lK σ n d es).map (.sl sz)
 |d,.rp cs=>(gP σ n d cs).map .rp
 |d,.fm es=>(uF σ n d es).map .fm
 |d,.fn f cs=>(gP σ n d cs).map (.fn f)
 |0,_=>μ
 |d+1,.om id=>if id<n then δ (.om id)else match σ[id]? with
  |some (.map es)=>(E0 σ n d es).map .fm
  |_=>μ
 |d+1,.op id off=>if id<n then δ (.op id off)else match σ[id]? with
  |some (.box cs)=>(yw σ n d (cs.drop off)).map .rp
  |_=>μ
 |d+1,.oe id g i off=>if id<n then δ (.oe id g i off)else match σ[id]? with
  |some (.arr g' _ es)=>if g=g' then(match es[i]? with|some e=>(yw σ n d (e.drop off)).map .rp|none=>μ)else μ
  |_=>μ
 |d+1,.os id g je off len=>if id<n then δ (.os id g je off len)else match σ[id]? with
  |some (.arr g' sz es)=>if g=g'/\je=sz/\off+len<=es.length then(MO σ n d ((es.drop off).take len)).map (.sl sz)else μ
  |_=>μ
 |_,_=>μ
def gP(σ:Heap)(n:Nat):Nat->List AV->Option (List AV)
 |_,[]=>δ []
 |d,x::r=>(bV σ n d x).bind λy=>(gP σ n d r).map (y::·)
def yw(σ:Heap)(n:Nat):Nat->List AV->Option (List AV)
 |_,[]=>δ []
 |d,x::r=>(bV σ n d x).bind λy=>(yw σ n d r).map (y::·)
def uF(σ:Heap)(n:Nat):Nat->List (AV×AV)->Option (List (AV×AV))
 |_,[]=>δ []
 |d,(k,v)::r=>(bV σ n d k).bind λk=>(bV σ n d v).bind λv=>(uF σ n d r).map ((k,v)::·)
def E0(σ:Heap)(n:Nat):Nat->List (AV×AV)->Option (List (AV×AV))
 |_,[]=>δ []
 |d,(k,v)::r=>(bV σ n d k).bind λk=>(bV σ n d v).bind λv=>(E0 σ n d r).map ((k,v)::·)
def lK(σ:Heap)(n:Nat):Nat->List (List AV)->Option (List (List AV))
 |_,[]=>δ []
 |d,x::r=>(gP σ n d x).bind λy=>(lK σ n d r).map (y::·)
def MO(σ:Heap)(n:Nat):Nat->List (List AV)->Option (List (List AV))
 |_,[]=>δ []
 |d,x::r=>(gP σ n d x).bind λy=>(MO σ n d r).map (y::·)
end
end A
open A renaming look->Yt,eql->ZA,lss->YY,cells->ψ,not->Wk,ext->Yn,guard->η,bound->Wb,pick->UD,elems->VB,bI->ZP,aQ->WC,leq->Ze,entries->US,find->Wh,cell->Ψ,mul->Tu,bu->UY,lb->Tv,add->WE,gz->WN,bw->Zo,neq->UP,aD->VU,aB->ir,room->aDD,sub->Uk,deref->χ,gtr->YK,loop->Y7,storeAt->XZ,eA->Wf,cond->φ,append->WK,bV->X4,geq->YI,quiet->Wi,jm->WS,ak->Γ
abbrev au:Option AV:=(δ (Yu []))
abbrev aR:AV:=(Λ ι)
abbrev bE:AV:=(Xo ⟨#[]⟩)
abbrev dz:AV:=(Λ θ)
abbrev Dt:List AV:=[Zg,Zg,Zg,Zg,Zg]
abbrev aj(l:List AV)(n:Nat):AV:=l.getD n AV.undef
abbrev AV.ah(n:Int):AV:=Wz ξ n
abbrev aF:=Option (AV×Heap)
abbrev aq:=List AV
section
structure yK where
 slot:Nat
 off:Nat
 tag:Option (Nat×Bool)
structure AS where
 sl:List AV
 A:Nat->Option yK
 σ:Heap
structure Fx where
 P:Program
 nm:List Nat
 call:FuncId->List AV->Heap->Option (AV×Heap)
 dyn:Nat->List AV->Heap->Option (AV×Heap)
 L:List Nat
 O:List Nat
 n:Nat
 W:List Nat
inductive qA where
 |n
 |s(a b:qA)
 |c(live:List Nat)(a b:qA)
 |j(a b:qA)
 |b(a:qA)
 |l(live:List Nat)(xs:List AX)(a:qA)
 |lc(live:List Nat)(xs:List AX)(a:qA)
noncomputable section
def EY:Value->AV
 |.int k n=>.int k n
 |.bool b=>.bool b
 |.string s=>.str s
 |.slice μ 0 0=>.aA
 |.pointer μ=>.np
 |.map μ=>.nm
 |.nilFunc=>.CB
 |_=>.undef
def fS:Value->Bool
 |.agg _=>ι
 |.tuple _=>ι
 |_=>θ
def zM:Value->AV
 |.agg cs=>bif cs.toList.all fS then .agg (cs.toList.map EY)else .undef
 |v=>EY v
section
variable {R : Type} (X : Fx)
def GK(t:TypeId):Bool:=match X.P.underlying t with|some (.struct _)=>θ|some (.array _ _)=>θ|_=>ι
def yC(t:TypeId):Option (List AV):=match X.P.info? t with|some i=>(match i.zero with|some v=>bif v.cells.toList.all fS then δ (v.cells.toList.map EY)else μ|none=>μ)|none=>μ
def ev(s:AS):Operand->AV
 |.tmp t=>bif X.L.contains t then .undef else s.sl.getD t .undef
 |.const v=>zM v
 |.global _=>.undef
 |.func f=>.fn (X.nm.getD f 0) []
def tj(d:Nat):Option yK->Option yK
 |some p=>(match p.tag with|some (g,_)=>bif g==d then μ else δ p|none=>δ p)
 |none=>μ
def AS.put(X:Fx)(d:Option Nat)(v:AV)(s:AS):AS:=
 match d with
 |some d=>⟨s.sl.set d (bif X.L.contains d then .undef else v),λt=>bif t==d then μ else tj d (s.A t),s.σ⟩
 |none=>s
def AS.qB(X:Fx)(d:Option Nat)(b off:Nat)(tag:Option (Nat×Bool))(s:AS):AS:=
 match d with
 |some d=>⟨s.sl.set d .undef,λt=>bif t==d then(bif X.L.contains d||!ZQ d X.n then μ else match tag with|some (g,w)=>(bif g==d then μ else δ ⟨b,off,δ (g,w)⟩)|none=>δ ⟨b,off,μ⟩)else tj d (s.A t),s.σ⟩
 |none=>s
def AS.tD(d:Nat)(cs:List AV)(s:AS):AS:=
 ⟨s.sl.set d (.lbx cs),λt=>bif t==d then μ else match tj d (s.A t)with|some p=>bif p.slot==d then μ else δ p|none=>μ,s.σ⟩
def AS.heap(σ:Heap)(s:AS):AS:=⟨s.sl,s.A,σ⟩
def place(s:AS)(tag:Option (Nat×Bool)):Operand->Option (Nat×Nat)
 |.tmp t=>bif X.L.contains t then δ (t,0)else match s.A t with
  |some p=>bif X.L.contains p.slot then(match p.tag with|none=>δ (p.slot,p.off)|some g=>bif tag==δ g then δ (p.slot,p.off)else μ)else μ
  |none=>μ
 |_=>μ
def Dq(t:TypeId)(off:Nat)(cs:List AV):Option AV:=match X.P.underlying t with
 |none=>μ
 |some _=>bif GK X t then VU off (X.P.cellsOf t) cs else Γ off cs
def B3(t:TypeId)(v:AV):Option (List AV):=match X.P.underlying t with
 |none=>μ
 |some _=>bif GK X t then ψ (X.P.cellsOf t) v else bif X.P.cellsOf t==1 then(Ψ v).bind λv=>δ [v]else μ
def tG(s:AS)(place:Nat->Option (Nat×TypeId)):List (Nat×Operand)->List AV->Option (List AV)
 |[],cs=>δ cs
 |(i,x)::r,cs=>match place i with
  |none=>μ
  |some (off,t)=>(B3 X t (ev X s x)).bind λnew=>(ir off new cs).bind λcs=>tG s place r cs
def EM(t:TypeId)(f:Nat):Option (Nat×TypeId):=match X.P.underlying t with
 |some (.struct fs)=>(match fs[f]? with|some f=>δ (f.offset,f.type)|none=>μ)
 |_=>μ
def Cm(f:TypeId->Bool)(size:TypeId->Nat):List Field->Nat->Option Nat
 |[],off=>δ off
 | x :: r, off => bif x.name != "_" && x.offset == off && f x.type then Cm f size r (off + size x.type) else μ
def nR(P:Program):Nat->TypeId->Bool
 |0,_=>ι
 |d+1,t=>match P.underlying t with
  |some .bool=>P.cellsOf t==1
  |some (.int _)=>P.cellsOf t==1
  |some .string=>P.cellsOf t==1
  |some (.struct fs)=>!P.stoodInHeld t&&Cm (nR P d) P.cellsOf fs.toList 0==δ (P.cellsOf t)
  |_=>ι
def kinds(P:Program):Nat->TypeId->List Nat
 |0,_=>[]
 |d+1,t=>match P.underlying t with
  |some .bool=>[1]
  |some (.int _)=>[0]
  |some .string=>[2]
  |some (.struct fs)=>fs.toList.flatMap λf=>kinds P d f.type
  |_=>[]
def qh(t:TypeId):Option A.EK:=match X.P.underlying t with
 |some .bool=>δ .b
 |some (.int _)=>δ .i
 |some .string=>δ .z
 |some (.pointer e)=>bif X.P.cellsOf e !=0 then δ .p else μ
 |some (.struct _)=>bif nR X.P 9 t&&!X.P.eqGuardType X.P.depth t then δ (.s (kinds X.P 9 t))else μ
 |_=>μ
def Yo(op:BinOp)(t:TypeId)(x y:AV):Option AV:=match op with
 |.add=>WE x y|.sub=>Uk x y|.mul=>Tu x y|.quo=>A.quo x y|.rem=>A.rem x y
 |.lss=>YY x y|.leq=>Ze x y|.gtr=>YK x y|.geq=>YI x y
 |.eql=>(match qh X t with|some e=>ZA e x y|none=>match X.P.underlying t with|some (.slice _)=>A.wO x y|_=>μ)
 |.neq=>(match qh X t with|some e=>UP e x y|none=>match X.P.underlying t with|some (.slice _)=>A.neN x y|_=>μ)
 |.shl=>A.shl x y|.shr=>A.shr x y|_=>μ
def iP(sz:Nat):Nat->List AV->List (List AV)
 |0,_=>[]
 |n+1,l=>l.take sz::iP sz n (l.drop sz)
def jA(o:Oper)(s:AS)(tag:Option (Nat×Bool)):Option AV:=
 match o.op with
 |.move x=>δ (ev X s x)
 |.assign x=>δ (ev X s x)
 |.pick c a b=>UD (ev X s c) (ev X s a) (ev X s b)
 |.alloc t=>(match yC X t with|some cs=>δ (.rp cs)|none=>μ)
 |.box t x=>(B3 X t (ev X s x)).bind λcs=>δ (.rp cs)
 |.build t ps=>(match yC X t,X.P.underlying t with
  |some zs,δ (.struct fs)=>bif fs.toList.all (λf=>(X.P.info? f.type).isSome)then(tG X s (EM X t) ps.toList zs).bind λcs=>δ (.agg cs)else μ
  |_,_=>μ)
 |.buildSlice t len ps=>(match X.P.underlying t with
  |some (.slice e)=>(match X.P.info? e,yC X e with
   |some i,δ zs=>bif (i.size==0||zs.length !=i.size)then μ else bif ZQ 16777216 (len*i.size)then μ
    else(tG X s (λj=>δ (j*i.size,e)) ps.toList ((Z3 len zs).flatten)).bind λcs=>δ (bif len==0 then .ez else .sl i.size (iP i.size len cs))
   |_,_=>μ)
  |_=>μ)
 |.load t x=>(match place X s tag x with
  |some (b,off)=>(Tv (s.sl.getD b .undef)).bind λcs=>Dq X t off cs
  |none=>(χ (ev X s x) s.σ).bind λcs=>Dq X t 0 cs)
 |.nilCheck x=>ZP (ev X s x)
 |.binOp op t x y _=>Yo X op t (ev X s x) (ev X s y)
 |.unOp op _ x=>(match op with
  |.not=>Wk (ev X s x)
  |.neg=>A.neg (ev X s x)
  |_=>μ)
 |.convert src dst x=>(match X.P.underlying src,X.P.underlying dst with
  |some (.int _),δ (.int j)=>A.conv j (ev X s x)
  |some .string,δ .string=>A.ag7 (ev X s x)
  |_,_=>μ)
 |.makeInterface t _=>(match X.P.underlying t with|some (.interface _)=>μ|some _=>δ .undef|none=>μ)
 |.makeFunc fn first caps=>(match fn with|.func f=>bif first.toList.isEmpty then δ (.fn (X.nm.getD f 0) (caps.toList.map (ev X s)))else μ|_=>μ)
 |.slice t x lo hi mx=>(match mx with
  |none=>(match X.P.underlying t with
   |some .string=>A.XR (ev X s x) (lo.map (ev X s)) (hi.map (ev X s))
   |some (.slice e)=>(match X.P.info? e with|some i=>Wf i.size (ev X s x) (lo.map (ev X s)) (hi.map (ev X s)) s.σ|none=>μ)
   |_=>μ)
  |some mx=>(match X.P.underlying t,hi with
   |some (.slice e),δ hi=>(match X.P.info? e with|some _=>A.slice3 (ev X s x) (lo.map (ev X s)) (ev X s hi) (ev X s mx)|none=>μ)
   |_,_=>μ))
 |.fieldAddr t x f=>(match EM X t f with
  |some (off,ft)=>(match X.P.info? ft with|some i=>bif i.size==0 then μ else WC off (ev X s x)|none=>μ)
  |none=>μ)
 |.field t x f=>(match EM X t f with
  |some (off,ft)=>(ψ (X.P.cellsOf t) (ev X s x)).bind λcs=>Dq X ft off cs
  |none=>μ)
 |.indexAddr t x i=>(match X.P.underlying t with
  |some (.slice e)=>(match X.P.info? e with|some j=>Zo j.size (ev X s x) (ev X s i)|none=>μ)
  |some (.array len e)=>(match X.P.info? e with|some j=>A.Cc len j.size (ev X s x) (ev X s i)|none=>μ)
  |_=>μ)
 |.index t x i=>(match X.P.underlying t with
  |some .string=>A.qy (ev X s x) (ev X s i)
  |_=>μ)
 |.lookup t m i ok=>(match X.P.underlying t with
  |some (.map kt e)=>(match X.P.info? e,qh X kt with
   |some inf,δ ek=>(match inf.zero with
    |some z=>bif ok then A.GM ek (ev X s m) (ev X s i) (zM z) s.σ else Yt ek (ev X s m) (ev X s i) (zM z) s.σ
    |none=>μ)
   |_,_=>μ)
  |_=>μ)
 |.extract x i=>Yn i (ev X s x)
 |.entry i=>A.zz (ev X s i) s.σ
 |.call c=>(match c.callee with
  |.builtin b=>(match b,c.argTypes.toList,c.args.toList.map (ev X s)with
   |.len,[t],[x]=>(match X.P.underlying t with
    |some .string=>A.yE x
    |some (.slice _)=>UY x
    |some (.map _ _)=>A.ah4 x s.σ
    |_=>μ)
   |.cap,[t],[x]=>(match X.P.underlying t with|some (.slice _)=>A.NF x|_=>μ)
   |.max,_,[x,y]=>A.max x y
   |.min,_,[x,y]=>A.min x y
   |_,_,_=>μ)
  |.value (.func f)=>Wi (X.call f (c.args.toList.map (ev X s)) s.σ) s.σ
  |.value x=>Wi (A.l8 X.dyn (ev X s x) (c.args.toList.map (ev X s)) s.σ) s.σ
  |_=>μ)
 |_=>μ
def mX(o:Oper)(s:AS)(tag:Option (Nat×Bool)):Option (Nat×Option Nat):=
 match o.op with
 |.nilCheck x=>(match place X s tag x with|some (b,off)=>δ (b,(Tv (s.sl.getD b .undef)).bind λ_=>δ off)|none=>μ)
 |.fieldAddr t x f=>(match place X s tag x with
  |some (b,o')=>δ (b,match EM X t f with
   |some (off,ft)=>(match X.P.info? ft with|some i=>bif i.size==0 then μ else(Tv (s.sl.getD b .undef)).bind λ_=>δ (o'+off)|none=>μ)
   |none=>μ)
  |none=>μ)
 |.indexAddr t x i=>(match place X s tag x with
  |some (b,o')=>δ (b,match X.P.underlying t with
   |some (.array len e)=>(match X.P.info? e with|some ie=>(Tv (s.sl.getD b .undef)).bind λ_=>(A.idx len (ev X s i)).bind λj=>δ (o'+j*ie.size)|none=>μ)
   |_=>μ)
  |none=>μ)
 |_=>μ
def rD(i:TypeInfo):Bool:=i.size==0||i.bytes==0||(match i.zero with|some z=>z.cells.size !=i.size||!z.cells.toList.all fS|none=>θ)
def jT(q:Bool)(o:Oper)(s:AS)(k:AS->Option R):Option R:=
 match mX X o s μ with
 |some (b,r)=>r.bind λoff=>k (s.qB X o.dst b off μ)
 |none=>
 match o.op with
 |.alloc t=>(match o.dst with
  |some d=>bif X.L.contains d then(match yC X t with|some cs=>k (s.tD d cs)|none=>μ)
   else bif X.O.contains d then(match yC X t with|some cs=>k ((s.heap (s.σ++[.box cs])).put X (δ d) (.op s.σ.length 0))|none=>μ)
   else(jA X o s μ).bind λv=>k (s.put X o.dst v)
  |none=>μ)
 |.box t x=>(match o.dst with
  |some d=>bif X.L.contains d then(B3 X t (ev X s x)).bind λcs=>k (s.tD d cs)
   else bif X.O.contains d then(B3 X t (ev X s x)).bind λcs=>k ((s.heap (s.σ++[.box cs])).put X (δ d) (.op s.σ.length 0))
   else(jA X o s μ).bind λv=>k (s.put X o.dst v)
  |none=>μ)
 |.store t x v=>(match place X s μ x with
  |some (b,off)=>(Tv (s.sl.getD b .undef)).bind λcs=>(B3 X t (ev X s v)).bind λnew=>(ir off new cs).bind λcs=>k ((⟨s.sl.set b (.lbx cs),s.A,s.σ⟩:AS).put X o.dst (.aM []))
  |none=>(B3 X t (ev X s v)).bind λnew=>(XZ (ev X s x) new s.σ).bind λσ=>k ((s.heap σ).put X o.dst (.aM [])))
 |.buildSlice t n ps=>(match o.dst with
  |some d=>bif X.O.contains d then(jA X o s μ).bind λv=>A.Ks v λsz es=>k ((s.heap (s.σ++[.arr es.length sz es])).put X (δ d) (.os s.σ.length es.length sz 0 es.length))
   else(jA X o s μ).bind λv=>k (s.put X o.dst v)
  |none=>(jA X o s μ).bind λv=>k (s.put X o.dst v))
 |.makeMap t r=>(match r with
  |none=>k ((s.heap (s.σ++[.map []])).put X o.dst (.om s.σ.length))
  |some _=>μ)
 |.mapUpdate t m i v=>(match X.P.underlying t with
  |some (.map kt _)=>(match qh X kt with|some ek=>(A.jX ek (ev X s m) (ev X s i) (ev X s v) s.σ).bind λσ=>k ((s.heap σ).put X o.dst (.aM []))|none=>μ)
  |_=>μ)
 |.range t x=>(match X.P.underlying t with
  |some (.map _ _)=>(A.zC (ev X s x)).bind λes=>k ((s.heap (s.σ++[.it [] es])).put X o.dst (.op s.σ.length 0))
  |_=>μ)
 |.next i str=>bif q||str then μ else A.xA (ev X s i) s.σ (λv σ=>k ((s.heap σ).put X o.dst v))
 |.call c=>(match c.callee with
  |.builtin .append=>(match c.argTypes.toList,c.args.toList.map (ev X s)with
   |[t,u],[x,y]=>(match X.P.underlying t,X.P.underlying u with
    |some (.slice e),δ (.slice _)=>(match X.P.info? e with
     |some i=>bif rD i then μ else(WK i.size (140737488355328 / i.bytes) x y s.σ).bind λr=>k ((s.heap r.2).put X o.dst r.1)
     |none=>μ)
    |some (.slice e),δ (.int _)=>(match X.P.info? e,yC X e with
     |some i,δ zs=>bif rD i then μ else(A.AF i.size (140737488355328 / i.bytes) zs x y s.σ).bind λr=>k ((s.heap r.2).put X o.dst r.1)
     |_,_=>μ)
    |_,_=>μ)
   |_,_=>μ)
  |.builtin .copy=>(match c.argTypes.toList,c.args.toList.map (ev X s)with
   |[t,u],[x,y]=>(match X.P.underlying t,X.P.underlying u with
    |some (.slice e),δ (.slice _)=>(match X.P.info? e with
     |some i=>bif rD i then μ else(A.n5 i.size x y s.σ).bind λr=>k ((s.heap r.2).put X o.dst r.1)
     |none=>μ)
    |_,_=>μ)
   |_,_=>μ)
  | .builtin .cap => A.Fc (jA X o s μ) (λv => k (s.put X o.dst v)) (bif q then μ else (match c.argTypes.toList, c.args.toList.map (ev X s) with
    |[t],[x]=>(match X.P.underlying t with|some (.slice _)=>A.Fe x s.σ (λc σ=>k ((s.heap σ).put X o.dst (.int ξ c)))|_=>μ)
    |_,_=>μ))
  |.builtin .clear=>(match c.argTypes.toList,c.args.toList.map (ev X s)with
   |[t],[x]=>(match X.P.underlying t with
    |some (.slice e)=>(match X.P.info? e,yC X e with
     |some i,δ zs=>bif rD i then μ else(A.GG i.size zs x s.σ).bind λσ=>k ((s.heap σ).put X o.dst (.aM []))
     |_,_=>μ)
    |_=>μ)
   |_,_=>μ)
  |.builtin .delete=>(match c.argTypes.toList,c.args.toList.map (ev X s)with
   |[t,_],[m,key]=>(match X.P.underlying t with
    |some (.map kt _)=>(match qh X kt with|some ek=>(A.Ho ek m key s.σ).bind λσ=>k ((s.heap σ).put X o.dst (.aM []))|none=>μ)
    |_=>μ)
   |_,_=>μ)
  |.builtin _=>(jA X o s μ).bind λv=>k (s.put X o.dst v)
  | .value (.func f) => bif q && !X.W.contains f then (jA X o s μ).bind λv => k (s.put X o.dst v)
    else(X.call f (c.args.toList.map (ev X s)) s.σ).bind λr=>k ((s.heap r.2).put X o.dst r.1)
  | .value x => bif q then (jA X o s μ).bind λv => k (s.put X o.dst v)
    else(A.l8 X.dyn (ev X s x) (c.args.toList.map (ev X s)) s.σ).bind λr=>k ((s.heap r.2).put X o.dst r.1)
  |_=>μ)
 |_=>(jA X o s μ).bind λv=>k (s.put X o.dst v)
def Kf(o:Oper):Option (FuncId×List Operand):=match o.op with
 |.call c=>(match c.callee with|.value (.func f)=>bif X.W.contains f then δ (f,c.args.toList)else μ|_=>μ)
 |_=>μ
def Mt(o:Oper)(d:Nat):Bool:=X.L.contains d||(match o.dst with|some d=>X.L.contains d||X.O.contains d|none=>ι)
def qL(q:Bool)(ops:Array Oper)(o:Oper)(s:AS)(k:AS->Option R):Option R:=
 match o.guard with
 |none=>jT X q o s k
 |some (j,want)=>match(ops[j]?).bind (·.dst)with
  |some d=>bif Mt X o d then μ else(match Kf X o with
   |some (f,as')=>(η (s.sl.getD d .undef) want (X.call f (as'.map (ev X s)) s.σ) (δ (.aM [],s.σ))).bind λr=>k ((s.heap r.2).put X o.dst r.1)
   |none=>(match mX X o s (δ (d,want))with
    |some (b,r)=>r.bind λoff=>k (s.qB X o.dst b off (δ (d,want)))
    |none=>(η (s.sl.getD d .undef) want (jA X o s (δ (d,want))) (δ (.aM []))).bind λv=>k (s.put X o.dst v)))
  |none=>μ
def force{R:Type}:List AV->(List AV->Option R)->Option R
 |[],k=>k []
 |x::l,k=>force l λl=>k (x::l)
def xH(q:Bool)(ops:Array Oper):List Oper->AS->(AS->Option R)->Option R
 |[],s,k=>k s
 |o::r,s,k=>qL X q ops o s λs=>xH q ops r s k
def NX(q:Bool)(ops:Array Oper):List Oper->AS->(AS->Option R)->Option R
 |[],s,k=>k s
 |o::r,s,k=>qL X q ops o s λs=>force s.sl λsl=>NX q ops r ⟨sl,s.A,s.σ⟩ k
def rL(o:Oper):Bool:=match o.op with|.load ..|.store ..|.fieldAddr ..|.indexAddr ..|.nilCheck ..=>θ|_=>ι
def rH(o:Oper):Bool:=match o.op with|.load ..|.store ..|.lookup ..|.mapUpdate ..|.call ..|.makeMap ..|.alloc ..|.box ..|.range ..|.next ..|.entry ..|.slice ..|.buildSlice ..=>θ|_=>ι
def wH(o:Oper):Bool:=match o.op with
 |.store ..|.mapUpdate ..|.makeMap ..|.range ..|.next ..=>θ
 |.alloc ..|.box ..|.buildSlice ..=>(match o.dst with|some d=>X.O.contains d|none=>ι)
 |.call c=>(match c.callee with|.builtin .len=>ι|.builtin .max=>ι|.builtin .min=>ι|.builtin _=>θ|.value (.func f)=>X.W.contains f|_=>ι)
 |_=>ι
def tH:AV->Bool
 |.oe ..=>ι
 |_=>θ
def B4(Bt:List Nat)(o:Oper):Bool:=match o.op with
 |.move (.tmp t)=>Bt.contains t
 |.assign (.tmp t)=>Bt.contains t
 |.nilCheck (.tmp t)=>Bt.contains t
 |.fieldAddr _ (.tmp t) _=>Bt.contains t
 |_=>ι
def at1(o:Oper):Option Nat:=match o.op with
 |.move (.tmp t)=>δ t
 |.assign (.tmp t)=>δ t
 |.nilCheck (.tmp t)=>δ t
 |.fieldAddr _ (.tmp t) _=>δ t
 |.load _ (.tmp t)=>δ t
 |_=>μ
def auR(ops:List Oper)(sl:List AV):List Nat:=(ops.filterMap at1).filter λt=>!(ops.any λo=>o.dst==δ t)&&tH (sl.getD t .undef)
def agI:List Oper->List Nat->List Nat
 |[],acc=>acc
 |o::r,acc=>agI r (match o.dst with|some d=>(bif B4 acc o then d::acc else acc)|none=>acc)
def soft(Bt:List Nat)(o:Oper):Bool:=match o.op with|.load _ (.tmp t)=>Bt.contains t|_=>ι
def FL(o:Oper):Bool:=match o.op with
 |.makeMap ..=>θ
 |.mapUpdate ..=>θ
 |.call c=>(match c.callee with|.builtin .append=>θ|_=>ι)
 |_=>ι
def aB1(Bt:List Nat)(o:Oper):Bool:=match o.dst with
 |some d=>!Bt.contains d||B4 Bt o
 |none=>θ
def sI(o:Oper):Option Operand:=match o.op with
 |.load _ x=>δ x
 |.store _ x _=>δ x
 |.fieldAddr _ x _=>δ x
 |.indexAddr _ x _=>δ x
 |.nilCheck x=>δ x
 |_=>μ
def yy(o:Oper):Bool:=match o.op with|.fieldAddr ..=>θ|.indexAddr ..=>θ|.nilCheck ..=>θ|_=>ι
def CI(Rt:List (Nat×Nat)):Operand->Option Nat
 |.tmp t=>bif X.L.contains t then δ t else Rt.lookup t
 |_=>μ
def rt(Rt:List (Nat×Nat))(o:Oper):Option Nat:=match sI o with|some x=>CI X Rt x|none=>μ
def aAQ:List Oper->List (Nat×Nat)->List (Nat×Nat)
 |[],Rt=>Rt
 |o::r,Rt=>aAQ r (match o.dst with|some d=>(bif yy o then(match rt X Rt o with|some b=>(d,b)::Rt|none=>Rt)else Rt)|none=>Rt)
def Yj(Rt:List (Nat×Nat))(o:Oper):Bool:=match o.dst with
 |some d=>X.L.contains d||Rt.lookup d==(bif yy o then rt X Rt o else μ)
 |none=>θ
def qd:AV->Bool
 |.undef=>θ
 |.aM []=>θ
 |_=>ι
def atA(Rt:List (Nat×Nat))(sl:List AV):Bool:=Rt.all λp=>qd (sl.getD p.1 .undef)
def wb(Rt:List (Nat×Nat))(o:Oper):Option Nat:=match o.op with|.store ..=>rt X Rt o|_=>μ
def yZ(Rt:List (Nat×Nat))(o:Oper):Bool:=match o.op with
 |.load ..=>(rt X Rt o).isNone
 |.store ..=>(rt X Rt o).isNone
 |.alloc ..|.box ..|.buildSlice ..=>(match o.dst with|some d=>X.O.contains d|none=>ι)
 |_=>rH o
def uZ(Rt:List (Nat×Nat))(o:Oper):Bool:=match o.op with
 |.store ..=>(rt X Rt o).isNone
 |_=>wH X o
def Cd(Rt:List (Nat×Nat))(Bt:List Nat)(x y:Oper):Bool:=
 (match wb X Rt x with|some b=>rt X Rt y==δ b|none=>ι)||(match x.dst with|some d=>X.L.contains d&&rt X Rt y==δ d|none=>ι)||(uZ X Rt x&&((yZ X Rt y&&!(soft Bt y&&FL x))||uZ X Rt y))
def indep(Rt:List (Nat×Nat))(Bt:List Nat)(ops:Array Oper)(x y:Oper):Bool:=x.apart ops y&&!Cd X Rt Bt x y&&!Cd X Rt Bt y x
def Sa:List Oper->List Nat->List Nat
 |[],acc=>acc
 |o::r,acc=>Sa r (acc++[o.after.toList.foldl (λs e=>bif XB .any e then s ||| 2 ^ e.on ||| acc.getD e.on 0 else s) 0])
def RX:List Oper->Nat->Bool
 |[],_=>θ
 |o::r,i=>o.after.toList.all (λe=>!XB .any e||ZQ e.on i)&&RX r (i+1)
def RO(Rt:List (Nat×Nat))(Bt:List Nat)(ops:Array Oper)(Oi:List Nat):List Oper->Nat->Bool
 |[],_=>θ
 |o::r,i=>(ops.toList.take i).zipIdx.all (λp=>(Oi.getD i 0).testBit p.2||indep X Rt Bt ops p.1 o)&&RO Rt Bt ops Oi r (i+1)
def QZ(Rt:List (Nat×Nat))(Bt:List Nat)(ops:Array Oper)(sl:List AV):Bool:=X.P.follows .mixedOrders&&RX ops.toList 0&&RO X Rt Bt ops (Sa ops.toList []) ops.toList 0&&ops.toList.all (Yj X Rt)&&atA Rt sl&&Rt.all (λp=>X.L.contains p.2)&&ops.toList.all (aB1 Bt)&&Bt.all (λt=>tH (sl.getD t .undef))
def Mx(ops:Array Oper)(sl:List AV):Bool:=QZ X (aAQ X ops.toList []) [] ops sl||QZ X (aAQ X ops.toList []) (agI ops.toList (auR ops.toList sl)) ops sl
def gY:Code->List Nat
 |.region _ ops _=>ops.toList.filterMap (·.dst)
 |.seq a b=>gY a++gY b
 |.cond _ a b=>gY a++gY b
 |.block _ c=>gY c
 |.loop c=>gY c
 |_=>[]
def Ay(sl:List AV):List Nat->List AV
 |[]=>sl
 |d::r=>Ay (sl.set d .undef) r
def J5(vs:List AV):List AV->List Nat->Nat->List AV
 |sl,d::r,j=>J5 vs (sl.set d (vs.getD j .undef)) r (j+1)
 |sl,[],_=>sl
def vals(sl:List AV)(live:List Nat):List AV:=live.map (sl.getD · .undef)
def AS.meet(s:AS)(mods live:List Nat)(vs:List AV)(σ:Heap):AS:=⟨J5 vs (Ay s.sl mods) live 0,λ_=>μ,σ⟩
def leave(live:List Nat)(e:AX)(s:AS):Option (AX×List AV×Heap):=δ (e,vals s.sl live,s.σ)
def R4(live:List Nat)(e:AX)(s:AS):Option (List AV×Heap):=match e with|.normal=>δ (vals s.sl live,s.σ)|_=>μ
def A.sel{R:Type}(e:AX)(k:AX->Option R):List AX->Option R
 |[]=>μ
 |x::r=>bif e==x then k x else A.sel e k r
def exec:{R:Type}->qA->Code->AS->(AX->AS->Option R)->Option R
 |_,_,.skip,s,k=>k .normal s
 |_,_,.label _,s,k=>k .normal s
 | _, _, .region _ ops draw, s, k => bif draw then (bif Mx X ops s.sl then NX X θ ops ops.toList ⟨s.sl, λ_ => μ, s.σ⟩ λs => k .normal ⟨s.sl, λ_ => μ, s.σ⟩ else μ)
   else NX X ι ops ops.toList s λs=>k .normal ⟨s.sl,λ_=>μ,s.σ⟩
 |_,.s a b,.seq x y,s,k=>exec a x s λe s=>match e with|.normal=>exec b y s k|e=>k e s
 |_,.c live a b,.cond c x y,s,k=>bif !(live.all λd=>(gY x++gY y++X.L).contains d)then μ else(φ (ev X s c) (exec a x s (R4 live)) (exec b y s (R4 live))).bind λr=>force (s.meet (gY x++gY y++X.L) live r.1 r.2).sl λsl=>k .normal ⟨sl,λ_=>μ,r.2⟩
 |_,.j a b,.cond c x y,s,k=>φ (ev X s c) (exec a x s k) (exec b y s k)
 |_,.b a,.block id c,s,k=>exec a c s λe s=>match e with|.exit i=>bif i==id then k .normal s else k (.exit i) s|e=>k e s
 |_,.l live xs a,.loop c,s,k=>bif !(live.all λd=>(gY c++X.L).contains d)then μ else(Y7 (λvs σ=>force (s.meet (gY c++X.L) live vs σ).sl λsl=>exec a c ⟨sl,λ_=>μ,σ⟩ (leave live)) (vals s.sl live) s.σ).bind λr=>A.sel r.1 (λe=>force (s.meet (gY c++X.L) live r.2.1 r.2.2).sl λsl=>k e ⟨sl,λ_=>μ,r.2.2⟩) xs
 |_,.lc live xs a,.loop c,s,k=>bif !(live.all λd=>(gY c++X.L).contains d)then μ else A.Dn (λvs σ K=>force (s.meet (gY c++X.L) live vs σ).sl λsl=>exec a c ⟨sl,λ_=>μ,σ⟩ λe s'=>K (e,vals s'.sl live,s'.σ)) (vals s.sl live) s.σ λr=>A.sel r.1 (λe=>force (s.meet (gY c++X.L) live r.2.1 r.2.2).sl λsl=>k e ⟨sl,λ_=>μ,r.2.2⟩) xs
 |_,_,.exit id,s,k=>k (.exit id) s
 |_,_,.ret,s,k=>k .ret s
 |_,_,_,_,_=>μ
def DL(s:AS):List ResultVar->(List AV->Option R)->Option R
 |[],k=>k []
 |.tmp t::r,k=>DL s r λvs=>k (ev X s (.tmp t)::vs)
 |.cell a t::r,k=>(match place X s μ (.tmp a)with
  |some (b,off)=>((Tv (s.sl.getD b .undef)).bind λcs=>Dq X t off cs).bind λv=>DL s r λvs=>k (v::vs)
  |none=>((χ (ev X s (.tmp a)) s.σ).bind λcs=>Dq X t 0 cs).bind λv=>DL s r λvs=>k (v::vs))
def one:List AV->AV
 |[v]=>v
 |vs=>.aM vs
def A.fin(σ:Heap)(r:AV)(σ':Heap):Option (AV×Heap):=open Classical in
 if σ'=σ then δ (r,σ)else if σ'.take σ.length=σ then(X4 σ' σ.length 8 r).map λr=>(r,σ)else μ
def A.Cl (es:List (AV×AV)):List (AV×AV):=To (p:=λl:List (AV×AV)=>l.Perm es) ⟨es,.refl _⟩
def A.can (x:AV):AV:=match x with
 |.fm es=>open Classical in if J8 es then .fm (A.Cl es)else .fm es
 |x=>x
def A.Fh (σ:Heap) (n:Nat) (x:aW):Option aW:=match x with
 |.box cs=>(A.gP σ n 8 cs).map λcs=>.box (cs.map A.can)
 |.arr g sz es=>(A.lK σ n 8 es).map λes=>.arr g sz (es.map (·.map A.can))
 |.sB g sz es=>(A.lK σ n 8 es).map λes=>.sB g sz (es.map (·.map A.can))
 |.map es=>(A.uF σ n 8 es).map .map
 |.it _ _=>μ
def A.zJ (σ:Heap) (n:Nat):Heap->Heap->Option Heap
 |[],_=>δ []
 |_::_,[]=>μ
 |b::r,b'::r'=>open Classical in (if b'=b then δ b else A.Fh σ n b').bind λx=>(A.zJ σ n r r').map (x::·)
def A.DD (σ:Heap) (v:AV) (σ':Heap):Option (AV×Heap):=(A.zJ σ' σ.length σ σ').bind λτ=>(X4 σ' σ.length 8 v).map λr=>(r,τ)
inductive vB where
 |K
 |F
  |N(f:AV->AV)
  |G
  |R
def A.gen:List AV->Nat
 |[]=>0
 |x::r=>(match x with|.os _ g _ _ len=>g+len|.sl _ es=>es.length|_=>0)+A.gen r
def A.rowsOf:List AV->List (List AV)
 |[]=>[]
 |x::r=>(match x with|.sl _ es=>es|_=>[])++A.rowsOf r
def A.merge(args:List AV)(σ:Heap)(sz:Nat)(seg:List (List AV))(id:Nat)(σ':Heap):Option (AV×Heap):=match args with
 |.os mW _ _ _ _::_=>match σ[mW]? with
  | some (.arr g1 Es Aj) => open Classical in if id = σ.length /\ σ'.length = σ.length + 1 /\ Es = sz /\ g1 < A.gen args + 1 /\ (∀ j, j < σ.length -> j ≠ mW -> σ'[j]? = σ[j]?) /\ σ'[mW]? = δ (.sB g1 Es Aj) /\ (∀ y ∈ seg, y ∈ Aj \/ y ∈ A.rowsOf args) then
    δ (.os mW (A.gen args+1) sz 0 seg.length,σ.set mW (.arr (A.gen args+1) sz seg))else μ
  |_=>μ
 |_=>μ
def A.ahG:List AV->Bool
 |.os ..::_=>θ
 |_=>ι
def A.renew(args:List AV)(σ:Heap)(v:AV)(σ':Heap):Option (AV×Heap):=match v with
 |.os id g sz off len=>match σ'[id]? with
  | some (.arr g' sz' es) => if g = g' /\ sz = sz' /\ off + len <= es.length /\ g < A.gen args + 1 then
    (if id<σ.length\/A.ahG args=ι then δ (.os id (A.gen args+1) sz 0 len,σ'.set id (.arr (A.gen args+1) sz ((es.drop off).take len)))else A.merge args σ sz ((es.drop off).take len) id σ')else μ
  |_=>μ
 |.aA=>δ (.aA,σ')
 |.ez=>δ (.ez,σ')
 |.sl sz []=>δ (.sl sz [],σ')
 |_=>μ
def vB.run(f:vB)(args:List AV)(σ:Heap)(v:AV)(σ':Heap):Option (AV×Heap):=match f with
 |.K=>δ (v,σ')
 |.F=>A.fin σ v σ'
 |.N g=>(A.fin σ v σ').map λp=>(g p.1,p.2)
 |.G=>A.DD σ v σ'
 |.R=>A.renew args σ v σ'
def vI(fin:vB)(dg:qA)(fn:Func)(args:List AV)(σ:Heap):Option (AV×Heap):=
 match fn.body with
 |some c=>bif !(Nat.ble args.length fn.ntmps&&X.n==fn.ntmps)then μ else exec X dg c ⟨args++Z3 (fn.ntmps-args.length) (.aM []),λ_=>μ,σ⟩ λe s=>match e with
  |.exit _=>μ
  |_=>DL X s fn.results.toList λvs=>fin.run args σ (one vs) s.σ
 |none=>μ
end
end
end
open AS renaming put->aCZ
abbrev aV:qA:=(.s .n .n)
abbrev bh:qA:=(.s .n (.j aV .n))
abbrev cW:qA:=(.j .n .n)
structure Pl where
 b:Nat
 base:Nat
 g:Nat
 sz:Nat
 vM:Nat
structure RC where
 w:World
 E:List Pl
 X:Nat->Prop
 nm:List Nat
def rZ(es:Array MapEntry)(aK:Nat):Prop:=(∀e∈es.toList,e.born<aK)/\(es.toList.map (·.born)).Nodup
def afZ(es:List (AV×AV))(l L:List MapEntry):Prop:=l=L\/(l.Perm L/\J8 es)
mutual
def ay(c:RC):AV->Value->Prop
 |.undef,_=>True
 |.int k n,v=>v=.int k n
 |.bool b,v=>v=.bool b
 |.str s,v=>v=.string s
 |.agg cs,v=>∃vs,v=.agg vs/\aX c cs vs.toList/\∀x∈vs.toList,fS x=θ
 |.aM cs,v=>∃vs,v=.tuple vs/\aX c cs vs.toList
 |.sl sz es,v=>∃a cap,v=.slice a es.length cap/\es.length<=cap/\0<sz/\(es=[]\/∃b off,a=δ ⟨b,off,μ⟩/\b<c.w.heap.size/\¬c.X b/\cA c sz b off es)
 |.aA,v=>v=.slice μ 0 0
 |.ez,v=>∃a,v=.slice a 0 0
 |.rp cs,v=>∃b off,v=.pointer (δ ⟨b,off,μ⟩)/\b<c.w.heap.size/\¬c.X b/\bY c b off cs
 |.np,v=>v=.pointer μ
 |.op id off,v=>∃p,c.E[id]? =δ p/\p.g=0/\v=.pointer (δ ⟨p.b,off,μ⟩)
 |.oe id g i off,v=>0<g/\∃p,c.E[id]? =δ p/\g<=p.g/\∃a,v=.pointer (δ a)/\(g=p.g->a=⟨p.b,p.base+i*p.sz+off,μ⟩)
 |.os id g sz off len,v=>0<g/\∃p,c.E[id]? =δ p/\g<=p.g/\∃a cap,v=.slice (δ a) len cap/\len<=cap/\(g=p.g->p.sz=sz/\(cap=0\/a=⟨p.b,p.base+off*p.sz,μ⟩)/\p.base+(off+cap)*p.sz=p.vM)
 |.om id,v=>∃p,c.E[id]? =δ p/\p.g=0/\v=.map (δ p.b)
 |.fm es,v=>∃b,v=.map (δ b)/\b<c.w.heap.size/\¬c.X b/\∃bP aK,c.w.heap[b]? =δ (.map bP aK)/\rZ bP aK/\∃l,eB c es l/\afZ es l bP.toList
 |.nm,v=>v=.map μ
 |.fn n caps,v=>∃f vs,v=.func (.func f) #[] vs/\c.nm.getD f 0=n/\aX c caps vs.toList
 |.CB,v=>v=.nilFunc
 |.lbx _,_=>False
def aX(c:RC):List AV->List Value->Prop
 |[],vs=>vs=[]
 |a::r,vs=>∃v vs',vs=v::vs'/\ay c a v/\aX c r vs'
def eB(c:RC):List (AV×AV)->List MapEntry->Prop
 |[],es=>es=[]
 |(k,v)::r,es=>∃e es',es=e::es'/\ay c k e.key/\ay c v e.val/\eB c r es'
def bY(c:RC)(b:Nat):Nat->List AV->Prop
 |_,[]=>True
 |off,a::r=>(∃v,c.w.cell? ⟨b,off,μ⟩=δ v/\fS v=θ/\ay c a v)/\bY c b (off+1) r
def cA(c:RC)(sz b:Nat):Nat->List (List AV)->Prop
 |_,[]=>True
 |off,e::r=>e.length=sz/\bY c b off e/\cA c sz b (off+sz) r
end
structure Ext (c c' : RC) : Prop where
 size:c.w.heap.size<=c'.w.heap.size
 stay:∀b,b<c.w.heap.size->¬c.X b->c'.w.heap[b]? =c.w.heap[b]? /\¬c'.X b
 env:∀(i:Nat)(p:Pl),c.E[i]? =δ p->∃p':Pl,c'.E[i]? =δ p'/\(p'=p\/(0<p.g/\p.g<p'.g))
 nm:c'.nm=c.nm
theorem cell_of_block{w w':World}{b off:Nat}(h:w'.heap[b]? =w.heap[b]?):w'.cell? ⟨b,off,μ⟩=w.cell? ⟨b,off,μ⟩:=by simp [Xd,h]
mutual
theorem ay.mono{c c':RC}(h:Ext c c'):∀(a:AV)(v:Value),ay c a v->ay c' a v
 |.undef,_,_=>by simp [ay]
 |.int k n,v,r=>by simpa [ay]using r
 |.bool b,v,r=>by simpa [ay]using r
 |.str s,v,r=>by simpa [ay]using r
 |.agg cs,v,r=>by simp only[ay]at r ⊢;obtain⟨vs,e,r,k⟩:=r;exact⟨vs,e,aX.mono h cs _ r,k⟩
 |.aM cs,v,r=>by simp only[ay]at r ⊢;obtain⟨vs,e,r⟩:=r;exact⟨vs,e,aX.mono h cs _ r⟩
 |.sl sz es,v,r=>by
  simp only[ay]at r ⊢;obtain⟨a,cap,e,h1,h2,r⟩:=r;refine⟨a,cap,e,h1,h2,?_⟩;rcases r with r|⟨b,off,e,hb,hx,r⟩
  ·exact .inl r
  ·exact .inr ⟨b,off,e,xB hb h.size,(h.stay b hb hx).2,cA.mono h sz b (h.stay b hb hx).1 es off r⟩
 |.aA,v,r=>by simpa [ay]using r
 |.ez,v,r=>by simpa [ay]using r
 |.rp cs,v,r=>by simp only[ay]at r ⊢;obtain⟨b,off,e,hb,hx,r⟩:=r;exact⟨b,off,e,xB hb h.size,(h.stay b hb hx).2,bY.mono h b (h.stay b hb hx).1 cs off r⟩
 |.np,v,r=>by simpa [ay]using r
 |.op id off,v,r=>by
  simp only[ay]at r ⊢;obtain⟨p,h1,h2,e⟩:=r;obtain⟨p',h3,h4⟩:=h.env _ _ h1;rcases h4 with rfl|⟨h4,_⟩
  ·exact⟨p',h3,h2,e⟩
  ·omega
 |.oe id g i off,v,r=>by
  simp only[ay]at r ⊢;obtain⟨hg,p,h1,h2,a,e,r⟩:=r;obtain⟨p',h3,h4⟩:=h.env _ _ h1;rcases h4 with rfl|⟨h4,h5⟩
  ·exact⟨hg,p',h3,h2,a,e,r⟩
  ·exact⟨hg,p',h3,by omega,a,e,λk=>by omega⟩
 |.os id g sz off len,v,r=>by
  simp only[ay]at r ⊢;obtain⟨hg,p,h1,h2,a,cap,e,h6,r⟩:=r;obtain⟨p',h3,h4⟩:=h.env _ _ h1;rcases h4 with rfl|⟨h4,h5⟩
  ·exact⟨hg,p',h3,h2,a,cap,e,h6,r⟩
  ·exact⟨hg,p',h3,by omega,a,cap,e,h6,λk=>by omega⟩
 |.om id,v,r=>by
  simp only[ay]at r ⊢;obtain⟨p,h1,h2,e⟩:=r;obtain⟨p',h3,h4⟩:=h.env _ _ h1;rcases h4 with rfl|⟨h4,_⟩
  ·exact⟨p',h3,h2,e⟩
  ·omega
 |.nm,v,r=>by simpa [ay]using r
 |.fm es,v,r=>by simp only[ay]at r ⊢;obtain⟨b,e,hb,hx,bP,aK,h1,hw,l,h2,h3⟩:=r;exact⟨b,e,xB hb h.size,(h.stay b hb hx).2,bP,aK,(h.stay b hb hx).1.trans h1,hw,l,eB.X9 h es _ h2,h3⟩
 |.fn n caps,v,r=>by simp only[ay]at r ⊢;obtain⟨f,vs,e,h1,r⟩:=r;exact⟨f,vs,e,by rw[h.nm];exact h1,aX.mono h caps _ r⟩
 |.CB,v,r=>by simpa [ay]using r
 |.lbx _,v,r=>by simp [ay]at r
theorem eB.X9{c c':RC}(h:Ext c c'):∀(l:List (AV×AV))(es:List MapEntry),eB c l es->eB c' l es
 |[],es,r=>by simpa [eB]using r
 |(k,v)::l,es,r=>by simp only[eB]at r ⊢;obtain⟨e,es',h1,h2,h3,h4⟩:=r;exact⟨e,es',h1,ay.mono h k _ h2,ay.mono h v _ h3,eB.X9 h l es' h4⟩
theorem aX.mono{c c':RC}(h:Ext c c'):∀(l:List AV)(vs:List Value),aX c l vs->aX c' l vs
 |[],vs,r=>by simpa [aX]using r
 |a::l,vs,r=>by simp only[aX]at r ⊢;obtain⟨v,vs',e,h1,h2⟩:=r;exact⟨v,vs',e,ay.mono h a v h1,aX.mono h l vs' h2⟩
theorem bY.mono{c c':RC}(h:Ext c c')(b:Nat)(hb:c'.w.heap[b]? =c.w.heap[b]?):∀(l:List AV)(off:Nat),bY c b off l->bY c' b off l
 |[],off,r=>by simp [bY]
 |a::l,off,r=>by simp only[bY]at r ⊢;obtain⟨⟨v,h1,h2,h3⟩,r⟩:=r;exact⟨⟨v,by rw[cell_of_block hb];exact h1,h2,ay.mono h a v h3⟩,bY.mono h b hb l (off+1) r⟩
theorem cA.mono{c c':RC}(h:Ext c c')(sz b:Nat)(hb:c'.w.heap[b]? =c.w.heap[b]?):∀(l:List (List AV))(off:Nat),cA c sz b off l->cA c' sz b off l
 |[],off,r=>by simp [cA]
 |e::l,off,r=>by simp only[cA]at r ⊢;obtain⟨h1,h2,r⟩:=r;exact⟨h1,bY.mono h b hb e off h2,cA.mono h sz b hb l (off+sz) r⟩
end
open aX renaming mono->Vz
open ay renaming mono->YF
theorem Ext.trans{a b c:RC}(h:Ext a b)(k:Ext b c):Ext a c:=by
 refine⟨UT h.size k.size,λx hx hn=>?_,λi p hp=>?_,k.nm.trans h.nm⟩
 ·obtain⟨h1,h2⟩:=h.stay x hx hn;obtain⟨h3,h4⟩:=k.stay x (xB hx h.size) h2;exact⟨h3.trans h1,h4⟩
 ·obtain⟨p',h1,h2⟩:=h.env i p hp;obtain⟨p'',h3,h4⟩:=k.env i p' h1;refine⟨p'',h3,?_⟩;rcases h2 with rfl|⟨h2,h5⟩
  ·exact h4
  ·rcases h4 with rfl|⟨h6,h7⟩
   ·exact .inr ⟨h2,h5⟩
   ·exact .inr ⟨h2,by omega⟩
theorem aX.length{c:RC}:∀{l:List AV}{vs:List Value},aX c l vs->l.length=vs.length
 |[],vs,h=>by simp only[aX]at h;subst h;rfl
 |a::l,vs,h=>by simp only[aX]at h;obtain⟨v,vs',rfl,_,h2⟩:=h;simp [aX.length h2]
theorem aX.nth{c:RC}:∀{l:List AV}{vs:List Value}{i:Nat}{a:AV},aX c l vs->l[i]? =δ a->∃v,vs[i]? =δ v/\ay c a v
 |[],vs,i,a,h,k=>by simp at k
 |x::l,vs,0,a,h,k=>by simp only[aX]at h;obtain⟨v,vs',rfl,h1,_⟩:=h;simp at k;subst k;exact⟨v,rfl,h1⟩
 |x::l,vs,i+1,a,h,k=>by simp only[aX]at h;obtain⟨v,vs',rfl,_,h2⟩:=h;simp at k;obtain⟨u,h3,h4⟩:=aX.nth h2 k;exact⟨u,by simpa using h3,h4⟩
theorem aX.append{c:RC}:∀{l m:List AV}{vs us:List Value},aX c l vs->aX c m us->aX c (l++m) (vs++us)
 |[],m,vs,us,h,k=>by simp only[aX]at h;subst h;simpa using k
 |a::l,m,vs,us,h,k=>by simp only[aX]at h;obtain⟨v,vs',rfl,h1,h2⟩:=h;simp only[oJ,aX];exact⟨v,_,rfl,h1,h2.append k⟩
theorem aX.take{c:RC}:∀{l:List AV}{vs:List Value}(n:Nat),aX c l vs->aX c (l.take n) (vs.take n)
 |[],vs,n,h=>by simp only[aX]at h;subst h;simp [aX]
 |a::l,vs,0,h=>by simp [aX]
 |a::l,vs,n+1,h=>by simp only[aX]at h;obtain⟨v,vs',rfl,h1,h2⟩:=h;simp only[List.take_succ_cons,aX];exact⟨v,_,rfl,h1,h2.take n⟩
theorem aX.drop{c:RC}:∀{l:List AV}{vs:List Value}(n:Nat),aX c l vs->aX c (l.drop n) (vs.drop n)
 |[],vs,n,h=>by simp only[aX]at h;subst h;simp [aX]
 |a::l,vs,0,h=>by simpa using h
 |a::l,vs,n+1,h=>by simp only[aX]at h;obtain⟨v,vs',rfl,h1,h2⟩:=h;simp only[List.drop_succ_cons];exact h2.drop n
theorem aX.map{c:RC}{α:Type}(f:α->AV)(g:α->Value):∀(l:List α),(∀x∈l,ay c (f x) (g x))->aX c (l.map f) (l.map g)
 |[],_=>by simp [aX]
 |a::l,h=>by simp only[eP,aX];exact⟨_,_,rfl,h a (by simp),aX.map f g l (λx hx=>h x (by simp [hx]))⟩
theorem aX.single{c:RC}{a:AV}{v:Value}(h:ay c a v):aX c [a] [v]:=by simp only[aX];exact⟨v,[],rfl,h,rfl⟩
theorem bY.nth{c:RC}{b:Nat}:∀{l:List AV}{off i:Nat}{a:AV},bY c b off l->l[i]? =δ a->∃v,c.w.cell? ⟨b,off+i,μ⟩=δ v/\fS v=θ/\ay c a v
 |[],off,i,a,h,k=>by simp at k
 |x::l,off,0,a,h,k=>by simp only[bY]at h;simp at k;subst k;exact h.1
 |x::l,off,i+1,a,h,k=>by simp only[bY]at h;simp at k;have:=bY.nth h.2 k;rwa[show off+1+i=off+(i+1) by omega]at this
open bY renaming nth->aDt
theorem bY.of{c:RC}{b:Nat}:∀{l:List AV}{off:Nat},(∀i a,l[i]? =δ a->∃v,c.w.cell? ⟨b,off+i,μ⟩=δ v/\fS v=θ/\ay c a v)->bY c b off l
 |[],off,h=>by simp [bY]
 |x::l,off,h=>by simp only[bY];refine⟨by simpa using h 0 x rfl,bY.of λi a hi=>?_⟩;have:=h (i+1) a (by simpa using hi);rwa[show off+(i+1)=off+1+i by omega]at this
open bY renaming of->aD5
theorem bY.drop{c:RC}{b:Nat}{l:List AV}{off:Nat}(n:Nat)(h:bY c b off l):bY c b (off+n) (l.drop n):=
 aD5 λi a hi=>by have:=aDt h (i:=n+i) (a:=a) (by rw[<-hi,ZW]);rwa[show off+(n+i)=off+n+i by omega]at this
theorem bY.take{c:RC}{b:Nat}{l:List AV}{off:Nat}(n:Nat)(h:bY c b off l):bY c b off (l.take n):=
 aD5 λi a hi=>by
  have:l[i]? =δ a:=by
   rw[aCY]at hi;split at hi
   ·exact hi
   ·cases hi
  exact aDt h this
theorem cA.nth{c:RC}{sz b:Nat}:∀{l:List (List AV)}{off i:Nat}{e:List AV},cA c sz b off l->l[i]? =δ e->e.length=sz/\bY c b (off+i*sz) e
 |[],off,i,e,h,k=>by simp at k
 |x::l,off,0,e,h,k=>by simp only[cA]at h;simp at k;subst k;exact⟨h.1,by simpa using h.2.1⟩
 |x::l,off,i+1,e,h,k=>by simp only[cA]at h;simp at k;have:=cA.nth h.2.2 k;rwa[show off+sz+i*sz=off+(i+1)*sz by rw[iG];omega]at this
theorem cA.of{c:RC}{sz b:Nat}:∀{l:List (List AV)}{off:Nat},(∀i e,l[i]? =δ e->e.length=sz/\bY c b (off+i*sz) e)->cA c sz b off l
 |[],off,h=>by simp [cA]
 |x::l,off,h=>by simp only[cA];have h0:=h 0 x rfl;simp at h0;refine⟨h0.1,h0.2,cA.of λi e hi=>?_⟩;have:=h (i+1) e (by simpa using hi);rwa[show off+(i+1)*sz=off+sz+i*sz by rw[iG];omega]at this
theorem cA.drop{c:RC}{sz b:Nat}{l:List (List AV)}{off:Nat}(n:Nat)(h:cA c sz b off l):cA c sz b (off+n*sz) (l.drop n):=
 cA.of λi e hi=>by have:=cA.nth h (i:=n+i) (e:=e) (by rw[<-hi,ZW]);rwa[show off+(n+i)*sz=off+n*sz+i*sz by rw[iG];omega]at this
theorem cA.take{c:RC}{sz b:Nat}{l:List (List AV)}{off:Nat}(n:Nat)(h:cA c sz b off l):cA c sz b off (l.take n):=
 cA.of λi e hi=>by
  have:l[i]? =δ e:=by
   rw[aCY]at hi;split at hi
   ·exact hi
   ·cases hi
  exact cA.nth h this
section
open Go.RowKit
def Df(c:RC)(b:Nat)(cs:List AV):Prop:=(∃arr t,c.w.heap[b]? =δ (.cells arr t (0,0))/\arr.size=cs.length)/\bY c b 0 cs
def Yi(c:RC)(b:Nat):Prop:=∀arr t fz,c.w.heap[b]? =δ (.cells arr t fz)->∀x∈arr.toList,fS x=θ
def avR(c:RC)(b:Nat)(cur left:List (AV×AV)):Prop:=(cur=[]/\left=[]/\∃since seen last,c.w.heap[b]? =δ (.mapIter μ since seen last))\/ ∃m seen bP aK,c.w.heap[b]? =δ (.mapIter (δ m) aK seen aK)/\m<c.w.heap.size/\¬c.X m/\c.w.heap[m]? =δ (.map bP aK)/\rZ bP aK/\(∃l,eB c left l/\l.Perm (bP.toList.filter λe=>!seen.contains e.born))/\ (cur=[]\/∃k v e,cur=[(k,v)]/\seen.back? =δ e.born/\e∈bP.toList/\ay c k e.key/\ay c v e.val)
def ur(c:RC)(p:Pl):aW->Prop
 |.box cs=>p.g=0/\Df c p.b cs
 |.arr g sz es=>p.g=g/\0<g/\p.sz=sz/\0<sz/\(∃arr t,c.w.heap[p.b]? =δ (.cells arr t (0,0))/\arr.size=p.vM)/\p.base+es.length*sz<=p.vM/\cA c sz p.b p.base es/\Yi c p.b
 |.sB g sz es=>p.g=g/\0<g/\p.sz=sz/\0<sz/\(∃arr t,c.w.heap[p.b]? =δ (.cells arr t (0,0))/\arr.size=p.vM)/\p.base+es.length*sz=p.vM/\cA c sz p.b p.base es/\Yi c p.b
 |.map es=>p.g=0/\∃bP aK,c.w.heap[p.b]? =δ (.map bP aK)/\rZ bP aK/\eB c es bP.toList
 |.it cur left=>p.g=0/\avR c p.b cur left
structure kL (c : RC) (σ : Heap) : Prop where
 len:c.E.length=σ.length
 inj:∀(i j:Nat)(p q:Pl),c.E[i]? =δ p->c.E[j]? =δ q->p.b=q.b->i=j
 blk:∀(i:Nat)(p:Pl)(x:aW),c.E[i]? =δ p->σ[i]? =δ x->ur c p x
structure Z where
 w:World
 E:List Pl
 X:Nat->Prop
 nm:List Nat
def ctx(z:Z)(w:World)(E:List Pl)(pb:Nat->Option Nat):RC:=⟨w,E,λb=>z.X b\/(∃p∈E,p.b=b)\/∃i,pb i=δ b,z.nm⟩
structure Out (z : Z) (w : World) (E : List Pl) : Prop where
 os:w.os=z.w.os
 tape:w.tape=z.w.tape
 output:w.output=z.w.output
 size:z.w.heap.size<=w.heap.size
 stay:∀b,b<z.w.heap.size->(∀p∈z.E,p.b≠b)->w.heap[b]? =z.w.heap[b]?
 fresh':∀(i:Nat)(p:Pl),E[i]? =δ p->z.w.heap.size<=p.b\/∃q:Pl,z.E[i]? =δ q/\q.b=p.b
 env:∀(i:Nat)(p:Pl),z.E[i]? =δ p->∃p':Pl,E[i]? =δ p'/\(p'=p\/(0<p.g/\p.g<p'.g))
 lt:∀b,z.X b->b<z.w.heap.size
 mine:∀p∈z.E,p.b<z.w.heap.size
theorem Out.fresh{z:Z}{w:World}{E:List Pl}(h:Out z w E)(p:Pl)(hp:p∈E):z.w.heap.size<=p.b\/∃q∈z.E,q.b=p.b:=by
 obtain⟨i,hi,rfl⟩:=T5.1 hp;rcases h.fresh' i E[i] (by simp [hi])with k|⟨q,hq,k⟩
 ·exact .inl k
 ·exact .inr ⟨q,dm hq,k⟩
def Slot(c:RC)(pb:Nat->Option Nat)(i:Nat)(av:AV)(v:Value):Prop:=match av with
 |.lbx cs=>∃b,pb i=δ b/\v=.pointer (δ ⟨b,0,μ⟩)/\Df c b cs
 |av=>ay c av v
def vA(a:Act):Option (Nat×Bool)->Prop
 |none=>True
 |some (g,want)=>a.tmps.getD g undef=.bool want
structure St (X : Fx) (z : Z) (s : AS) (a : Act) (w : World) (E : List Pl) (pb : Nat -> Option Nat) : Prop where
 len:a.tmps.size=s.sl.length
 vG:s.sl.length=X.n
 slot:∀i av,s.sl[i]? =δ av->Slot (ctx z w E pb) pb i av (a.tmps.getD i undef)
 box:∀i cs,s.sl[i]? =δ (.lbx cs)->X.L.contains i=θ
 qB:∀t p,s.A t=δ p->vA a p.tag->∃b,pb p.slot=δ b/\a.tmps.getD t undef=.pointer (δ ⟨b,p.off,μ⟩)
 priv:∀i b,pb i=δ b->z.w.heap.size<=b/\b<w.heap.size/\∀p∈E,p.b≠b
 inj:∀i j b,pb i=δ b->pb j=δ b->i=j
 heap:kL (ctx z w E pb) s.σ
 defers:a.defers=[]
 out:Out z w E
 nm:X.nm=z.nm
theorem Df.mono{c c':RC}(h:Ext c c'){b:Nat}{cs:List AV}(hb:c'.w.heap[b]? =c.w.heap[b]?)(k:Df c b cs):Df c' b cs:=
 ⟨by rw[hb];exact k.1,bY.mono h b hb cs 0 k.2⟩
theorem eB.mono{c c':RC}(h:Ext c c'){l:List (AV×AV)}{es:List MapEntry}(r:eB c l es):eB c' l es:=eB.X9 h l es r
theorem EP{c:RC}{b:Nat}{arr:Array Value}{t:TypeId}{fz:Nat×Nat}(h:c.w.heap[b]? =δ (.cells arr t fz))(ho:∀x∈arr.toList,fS x=θ):Yi c b:=λzQ t' fz' e=>by rw[h]at e;injection e with e;injection e with e1;subst e1;exact ho
theorem ur.mono{c c':RC}(h:Ext c c'){p:Pl}{x:aW}(hb:c'.w.heap[p.b]? =c.w.heap[p.b]?)(k:ur c p x):ur c' p x:=by
 cases x with
 |box cs=>exact⟨k.1,k.2.mono h hb⟩
 |arr g sz es=>obtain⟨h1,h2,h3,h4,h5,h6,h7,h8⟩:=k;exact⟨h1,h2,h3,h4,by rw[hb];exact h5,h6,cA.mono h sz _ hb es _ h7,λarr t fz e=>h8 arr t fz (hb▸e)⟩
 |sB g sz es=>obtain⟨h1,h2,h3,h4,h5,h6,h7,h8⟩:=k;exact⟨h1,h2,h3,h4,by rw[hb];exact h5,h6,cA.mono h sz _ hb es _ h7,λarr t fz e=>h8 arr t fz (hb▸e)⟩
 |map es=>obtain⟨h1,bP,aK,h2,hw,h3⟩:=k;exact⟨h1,bP,aK,by rw[hb];exact h2,hw,h3.mono h⟩
 |it cur left=>
  obtain⟨h1,h2⟩:=k;refine⟨h1,?_⟩;rcases h2 with⟨h2,h2',since,seen,last,h3⟩|⟨m,seen,bP,aK,h3,h4,h5,h6,h7,h8,h9⟩
  ·exact .inl ⟨h2,h2',since,seen,last,by rw[hb];exact h3⟩
  ·refine .inr ⟨m,seen,bP,aK,by rw[hb];exact h3,xB h4 h.size,(h.stay m h4 h5).2,by rw[(h.stay m h4 h5).1];exact h6,h7,h8.imp λ_ q=>⟨q.1.mono h,q.2⟩,?_⟩;rcases h9 with h9|⟨k,v,e,e1,e2,e3,e4,e5⟩
   ·exact .inl h9
   ·exact .inr ⟨k,v,e,e1,e2,e3,YF h _ _ e4,YF h _ _ e5⟩
theorem ur.lt{c:RC}{p:Pl}{x:aW}(k:ur c p x):p.b<c.w.heap.size:=by
 have key:∀o,c.w.heap[p.b]? =δ o->p.b<c.w.heap.size:=λo ho=>(mP.1 ho).1
 cases x with
 |box cs=>obtain⟨_,⟨⟨arr,t,h,_⟩,_⟩⟩:=k;exact key _ h
 |arr g sz es=>obtain⟨_,_,_,_,⟨arr,t,h,_⟩,_⟩:=k;exact key _ h
 |sB g sz es=>obtain⟨_,_,_,_,⟨arr,t,h,_⟩,_⟩:=k;exact key _ h
 |map es=>obtain⟨_,bP,aK,h,_⟩:=k;exact key _ h
 |it cur left=>obtain⟨_,⟨_,_,_,_,_,h⟩|⟨_,_,_,_,h,_⟩⟩:=k<;>exact key _ h
theorem kL.lt{c:RC}{σ:Heap}(h:kL c σ){p:Pl}(hp:p∈c.E):p.b<c.w.heap.size:=by
 obtain⟨i,hi,rfl⟩:=T5.1 hp;have hs:i<σ.length:=by rw[<-h.len];exact hi
 exact(h.blk i _ σ[i] (by simp [hi]) (by simp [hs])).lt
theorem kL.mono{c c':RC}{σ:Heap}(h:kL c σ)(hx:Ext c c')(hE:c'.E=c.E)(hb:∀p∈c.E,c'.w.heap[p.b]? =c.w.heap[p.b]?):kL c' σ:=by refine⟨by rw[hE];exact h.len,by rw[hE];exact h.inj,λi p x hi eZ=>?_⟩;rw[hE]at hi;exact(h.blk i p x hi eZ).mono hx (hb p (dm hi))
theorem Slot.rep{c:RC}{pb:Nat->Option Nat}{i:Nat}{av:AV}{v:Value}(h:Slot c pb i av v)(k:∀cs,av≠.lbx cs):ay c av v:=by cases av<;>first|exact h|exact absurd rfl (k _)
theorem Slot.of{c:RC}{pb:Nat->Option Nat}{i:Nat}{av:AV}{v:Value}(h:ay c av v):Slot c pb i av v:=by cases av<;>first|exact h|(simp [ay]at h)
section
variable {X : Fx} {z : Z} {s : AS} {a : Act} {w w' : World} {E : List Pl} {pb : Nat -> Option Nat}
theorem St.ext(h:St X z s a w E pb){E':List Pl}{dN:Nat->Option Nat}{σ':Heap}(hx:Ext (ctx z w E pb) (ctx z w' E' dN))
  (hp:∀i b,pb i=δ b->dN i=δ b/\w'.heap[b]? =w.heap[b]?) (avy:∀i b,dN i=δ b->z.w.heap.size<=b/\b<w'.heap.size/\∀p∈E',p.b≠b)
  (hinj:∀i j b,dN i=δ b->dN j=δ b->i=j) (hh:kL (ctx z w' E' dN) σ') (ho:Out z w' E'):St X z (s.heap σ') a w' E' dN:=by
 refine⟨h.len,h.vG,λi av hi=>?_,h.box,λt p hp' ht=>?_,avy,hinj,hh,h.defers,ho,h.nm⟩
 ·have k:=h.slot i av hi;cases av with
  |lbx cs=>obtain⟨b,h1,h2,h3⟩:=k;exact⟨b,(hp i b h1).1,h2,h3.mono hx (hp i b h1).2⟩
  |_=>exact YF hx _ _ k
 ·obtain⟨b,h1,h2⟩:=h.qB t p hp' ht;exact⟨b,(hp _ b h1).1,h2⟩
theorem zm(g:Below w.heap.size w w'):Ext (ctx z w E pb) (ctx z w' E pb):=
 ⟨g.size,λb hb hX=>⟨g.block b hb,hX⟩,λi p h=>⟨p,h,.inl rfl⟩,rfl⟩
theorem Out.grow(h:Out z w E)(g:Below w.heap.size w w'):Out z w' E:=
 ⟨g.os.trans h.os,g.tape.trans h.tape,g.output.trans h.output,UT h.size g.size,λb hb hp=>(g.block b (xB hb h.size)).trans (h.stay b hb hp),h.fresh',h.env,h.lt,h.mine⟩
theorem St.grow(h:St X z s a w E pb)(g:Below w.heap.size w w'):St X z s a w' E pb:=by
 have hx:Ext (ctx z w E pb) (ctx z w' E pb):=zm g
 exact h.ext (σ':=s.σ) hx (λi b hb=>⟨hb,g.block b (h.priv i b hb).2.1⟩) (λi b hb=>⟨(h.priv i b hb).1,xB (h.priv i b hb).2.1 g.size,(h.priv i b hb).2.2⟩) h.inj
  (h.heap.mono hx rfl λp hp=>g.block _ (h.heap.lt hp)) (h.out.grow g)
theorem St.fresh(h:St X z s a w E pb):¬(ctx z w E pb).X w.heap.size:=by
 rintro(h1|⟨p,hp,e⟩|⟨i,hi⟩)
 ·have:=h.out.lt _ h1;have:=h.out.size;omega
 ·have:=h.heap.lt hp;simp only[ctx]at this;omega
 ·have:=(h.priv i _ hi).2.1;omega
theorem JA(l:Array Value)(d i:Nat)(v:Value):(l.setIfInBounds d v).getD i undef=if i=d/\d<l.size then v else l.getD i undef:=by
 by_cases h:d=i
 ·subst h;by_cases hd:d<l.size
  ·simp [aDu,hd]
  ·simp [aDu,hd]
 ·have h':¬i=d:=λe=>h e.symm
  simp [sx,Vf h,h']
theorem abi{d:Nat}{o:Option yK}{p:yK}(h:tj d o=δ p):o=δ p/\∀g w,p.tag=δ (g,w)->g≠d:=by
 cases o with
 |none=>simp [tj]at h
 |some q=>
  simp only[tj]at h;cases hq:q.tag with
  |none=>rw[hq]at h;simp at h;subst h;exact⟨rfl,λg w e=>by rw[hq]at e;cases e⟩
  |some gw=>
   obtain⟨g,w⟩:=gw;rw[hq]at h;simp only at h;by_cases e:g=d
   ·simp [e]at h
   ·have:(g==d)=ι:=by simpa using e
    rw[this]at h;simp at h;subst h;exact⟨rfl,λg' w' e'=>by rw[hq]at e';injection e' with e';injection e' with e1 e2;subst e1;exact e⟩
theorem Wx{d:Nat}{v:Value}{tag:Option (Nat×Bool)}(h:∀g w,tag=δ (g,w)->g≠d)(k:vA (a.put (δ d) v) tag):vA a tag:=by
 cases tag with
 |none=>trivial
 |some gw=>obtain⟨g,want⟩:=gw;have hg:=h g want rfl;simp only[vA,aDf]at k ⊢;rw[JA]at k;rwa[aO (λe=>hg e.1)]at k
theorem St.put(h:St X z s a w E pb)(d:Option Nat){av:AV}{v:Value}(hr:ay (ctx z w E pb) av v):St X z (s.put X d av) (a.put d v) w E pb:=by
 cases d with
 |none=>exact h
 |some d=>
  refine⟨by simp [aCZ,aDf,h.len],by simp [aCZ,h.vG],λi x hi=>?_,λi cs hi=>?_,λt p hp ht=>?_,h.priv,h.inj,h.heap,h.defers,h.out,h.nm⟩
  ·simp only[aCZ,aDf]at hi ⊢;rw[JA];rw[kE]at hi;by_cases e:d=i
   ·subst e;rw[aP rfl]at hi;by_cases hd:d<s.sl.length
    ·rw[aP hd]at hi;rw[aP ⟨rfl,by rw[h.len];exact hd⟩];injection hi with hi
     subst hi;cases X.L.contains d
     ·exact Slot.of hr
     ·exact trivial
    ·rw[aO hd]at hi;cases hi
   ·rw[aO e]at hi;rw[aO (λk=>e k.1.symm)];exact h.slot i x hi
  ·simp only[aCZ]at hi;rw[kE]at hi;by_cases e:d=i
   ·subst e;rw[aP rfl]at hi;split at hi
    ·injection hi with hi
     cases hL:X.L.contains d
     ·rw[hL]at hi;simp at hi;subst hi;simp [ay]at hr
     ·rfl
    ·cases hi
   ·rw[aO e]at hi;exact h.box i cs hi
  ·simp only[aCZ]at hp;by_cases e:t=d
   ·subst e;simp at hp
   ·have:(t==d)=ι:=by simpa using e
    rw[this]at hp;simp at hp;obtain⟨hp,hg⟩:=abi hp;obtain⟨b,h1,h2⟩:=h.qB t p hp (Wx hg ht);refine⟨b,h1,?_⟩;simp only[aDf];rw[JA,aO (λk=>e k.1)];exact h2
theorem St.azZ(h:St X z s a w E pb)(d:Option Nat){sl off:Nat}{tag:Option (Nat×Bool)}{v:Value}(hv:vA a tag->∃b,pb sl=δ b/\v=.pointer (δ ⟨b,off,μ⟩)):
  St X z (s.qB X d sl off tag) (a.put d v) w E pb:=by
 cases d with
 |none=>exact h
 |some d=>
  have hput:=h.put (δ d) (av:=.undef) (v:=v) (by simp [ay])
  have mV:(s.put X (δ d) .undef).sl=(s.qB X (δ d) sl off tag).sl:=by simp only[aCZ,AS.qB];cases X.L.contains d<;>rfl
  refine⟨by rw[<-mV];exact hput.len,by rw[<-mV];exact hput.vG,by rw[<-mV];exact hput.slot,by rw[<-mV];exact hput.box,λt p hp ht=>?_,h.priv,h.inj,h.heap,h.defers,h.out,h.nm⟩;by_cases e:t=d
  ·subst e;simp only[AS.qB]at hp;simp only[beq_self_eq_true,cU]at hp;cases hL:(X.L.contains t||!ZQ t X.n)
   ·rw[hL]at hp;simp only[bQ]at hp
    have hlt:t<a.tmps.size:=by rw[h.len,h.vG];simp only[qw,aDv]at hL;exact Nat.blt_eq.mp hL.2
    have key:p.slot=sl/\p.off=off/\vA a tag:=by
     cases tag with
     |none=>simp at hp;subst hp;exact⟨rfl,rfl,trivial⟩
     |some gw=>
      obtain⟨g,want⟩:=gw;simp only at hp;by_cases eg:g=t
      ·subst eg;simp at hp
      ·have:(g==t)=ι:=by simpa using eg
       rw[this]at hp;simp at hp;subst hp;exact⟨rfl,rfl,Wx (d:=t) (v:=v) (λg' w' e'=>by injection e' with e';injection e' with e1;subst e1;exact eg) ht⟩
    obtain⟨k1,k2,k3⟩:=key;obtain⟨b,h1,h2⟩:=hv k3;refine⟨b,by rw[k1];exact h1,?_⟩;simp only[aDf];rw[JA,aP ⟨rfl,hlt⟩,k2];exact h2
   ·rw[hL]at hp;simp at hp
  ·have hp':(s.put X (δ d) .undef).A t=δ p:=by
    simp only[AS.qB]at hp;simp only[aCZ];have:(t==d)=ι:=by simpa using e
    rw[this]at hp ⊢;exact hp
   exact hput.qB t p hp' ht
def _root_.Go.World.fO(w:World)(b:Nat)(o:Obj):World:={w with heap:=w.heap.setIfInBounds b o}
theorem adl(b k:Nat)(o:Obj):(w.fO b o).heap[k]? =if b=k/\b<w.heap.size then δ o else w.heap[k]? :=by
 simp only[World.fO,YS];by_cases h:b=k
 ·subst h;by_cases hb:b<w.heap.size
  ·simp [hb]
  ·simp [hb]
 ·simp [h]
theorem xh{b:Nat}(o:Obj)(hb:b<w.heap.size):(w.fO b o).heap[b]? =δ o:=by rw[adl,aP ⟨rfl,hb⟩]
theorem xX{b k:Nat}(o:Obj)(h:b≠k):(w.fO b o).heap[k]? =w.heap[k]? :=by rw[adl,aO (λe=>h e.1)]
theorem zk(b:Nat)(o:Obj):(w.fO b o).heap.size=w.heap.size:=by simp [World.fO]
theorem azU{b:Nat}{o:Obj}(hX:(ctx z w E pb).X b):Ext (ctx z w E pb) (ctx z (w.fO b o) E pb):=
 ⟨by simp [ctx,zk],λk hk hn=>⟨xX o (λe=>hn (e▸hX)),hn⟩,λi p h=>⟨p,h,.inl rfl⟩,rfl⟩
theorem BE{w:World}{b off:Nat}{arr:Array Value}{t:TypeId}{fz:Nat×Nat}(h:w.heap[b]? =δ (.cells arr t fz)):w.cell? ⟨b,off,μ⟩=arr[off]? :=by simp [Xd,h]
theorem bY.CC{c:RC}{b:Nat}{arr:Array Value}{t:TypeId}{fz:Nat×Nat}(h:c.w.heap[b]? =δ (.cells arr t fz)){cs:List AV}{off:Nat}{vs:List Value}
  (hr:aX c cs vs) (ho:∀x∈vs,fS x=θ) (hv:∀i,i<vs.length->arr[off+i]? =vs[i]?):bY c b off cs:=by
 refine aD5 λi a hi=>?_
 obtain⟨v,h1,h2⟩:=hr.nth hi;have hl:i<vs.length:=(bG.1 h1).1;exact⟨v,by rw[BE h,hv i hl,h1],ho v (dm h1),h2⟩
theorem bY.O4{c:RC}{b:Nat}:∀{cs:List AV}{off:Nat},bY c b off cs->∃vs,aX c cs vs/\(∀x∈vs,fS x=θ)/\∀j v,vs[j]? =δ v->c.w.cell? ⟨b,off+j,μ⟩=δ v
 |[],off,_=>⟨[],by simp [aX],by simp,by simp⟩
 |x::l,off,h=>by
  simp only[bY]at h;obtain⟨⟨v,h1,h2,h3⟩,h4⟩:=h;obtain⟨vs,k1,k2,k3⟩:=bY.O4 h4;refine⟨v::vs,by simp only[aX];exact⟨v,vs,rfl,h3,k1⟩,by simpa [h2]using k2,λj u hj=>?_⟩;cases j with
  |zero=>simp at hj;subst hj;exact h1
  |succ j=>simp at hj;have:=k3 j u hj;rwa[show off+1+j=off+(j+1) by omega]at this
theorem St.tD(h:St X z s a w E pb)(d:Nat)(hL:X.L.contains d=θ){cs:List AV}{vs:List Value}(t:TypeId)(hr:aX (ctx z w E pb) cs vs)(ho:∀x∈vs,fS x=θ):
  ∃dN,St X z (s.tD d cs) (a.put (δ d) (.pointer (δ ⟨w.heap.size,0,μ⟩))) (w.alloc (.cells vs.toArray t)) E dN:=by
 have g:Below w.heap.size w (w.alloc (.cells vs.toArray t)):=(Below.refl _ _).alloc (bN _) _;have h1:=h.grow g;obtain⟨dN,aBG⟩:∃dN:Nat->Option Nat,dN=λi=>if i=d then δ w.heap.size else pb i:=⟨_,rfl⟩
 have e1:∀i,i≠d->dN i=pb i:=λi hi=>by rw[aBG];simp [hi]
 have e2:dN d=δ w.heap.size:=by rw[aBG];simp
 clear aBG
 have hx:Ext (ctx z w E pb) (ctx z (w.alloc (.cells vs.toArray t)) E dN):=by
  refine⟨g.size,λb hb hn=>⟨g.block b hb,?_⟩,λi p h=>⟨p,h,.inl rfl⟩,rfl⟩;rintro(k|k|⟨i,k⟩)
  ·exact hn (.inl k)
  ·exact hn (.inr (.inl k))
  ·by_cases e:i=d
   ·subst e;rw[e2]at k;injection k with k;simp [ctx]at hb;omega
   ·rw[e1 i e]at k;exact hn (.inr (.inr ⟨i,k⟩))
 have lC:Df (ctx z (w.alloc (.cells vs.toArray t)) E dN) w.heap.size cs:=by have hb:(w.alloc (.cells vs.toArray t)).heap[w.heap.size]? =δ (.cells vs.toArray t (0,0)):=(Uc w _).1;exact⟨⟨vs.toArray,t,hb,by simp [hr.length]⟩,bY.CC hb (Vz hx _ _ hr) ho (λi hi=>by simp)⟩
 refine⟨dN,by simp [AS.tD,aDf,h.len],by simp [AS.tD,h.vG],λi x hi=>?_,λi cs' hi=>?_,λt' p hp ht=>?_,λi b hb=>?_,λi j b hi hj=>?_,h.heap.mono hx rfl λp hp=>g.block _ (h.heap.lt hp),h.defers,h.out.grow g,h.nm⟩
 ·simp only[AS.tD,aDf]at hi ⊢;rw[JA];rw[kE]at hi;by_cases e:d=i
  ·subst e;rw[aP rfl]at hi;by_cases hd:d<s.sl.length
   ·rw[aP hd]at hi;rw[aP ⟨rfl,by rw[h.len];exact hd⟩];injection hi with hi
    subst hi;exact⟨_,e2,rfl,lC⟩
   ·rw[aO hd]at hi;cases hi
  ·rw[aO e]at hi;rw[aO (λk=>e k.1.symm)];have k:=h.slot i x hi;cases x with
   |lbx cs'=>obtain⟨b,k1,k2,k3⟩:=k;exact⟨b,by rw[e1 i (λe'=>e e'.symm)];exact k1,k2,k3.mono hx (g.block b (h.priv i b k1).2.1)⟩
   |_=>exact YF hx _ _ k
 ·simp only[AS.tD]at hi;rw[kE]at hi;by_cases e:d=i
  ·subst e;exact hL
  ·rw[aO e]at hi;exact h.box i cs' hi
 ·simp only[AS.tD]at hp;by_cases e:t'=d
  ·subst e;simp at hp
  ·have:(t'==d)=ι:=by simpa using e
   rw[this]at hp;simp only[bQ]at hp;cases hk:tj d (s.A t')with
   |none=>rw[hk]at hp;simp at hp
   |some q=>
    rw[hk]at hp;simp only at hp;by_cases eq:q.slot=d
    ·simp [eq]at hp
    ·have:(q.slot==d)=ι:=by simpa using eq
     rw[this]at hp;simp at hp;subst hp;obtain⟨hp,hg⟩:=abi hk;obtain⟨b,k1,k2⟩:=h.qB t' q hp (Wx hg ht);refine⟨b,by rw[e1 _ eq];exact k1,?_⟩;simp only[aDf];rw[JA,aO (λk=>e k.1)];exact k2
 ·by_cases e:i=d
  ·subst e;rw[e2]at hb;injection hb with hb;subst hb
   exact⟨h.out.size,by simp,λp hp=>by have:=h.heap.lt hp;simp only[ctx]at this;omega⟩
  ·rw[e1 i e]at hb;exact⟨(h.priv i b hb).1,by have:=(h.priv i b hb).2.1;simp;omega,(h.priv i b hb).2.2⟩
 ·by_cases ei:i=d
  ·by_cases ej:j=d
   ·rw[ei,ej]
   ·subst ei;rw[e2]at hi;rw[e1 j ej]at hj;injection hi with hi;have:=(h.priv j b hj).2.1;omega
  ·by_cases ej:j=d
   ·subst ej;rw[e2]at hj;rw[e1 i ei]at hi;injection hj with hj;have:=(h.priv i b hi).2.1;omega
   ·rw[e1 i ei]at hi;rw[e1 j ej]at hj;exact h.inj i j b hi hj
theorem St.auM(h:St X z s a w E pb){i b:Nat}(hb:pb i=δ b)(hi:∃cs0,s.sl[i]? =δ (.lbx cs0)){cs:List AV}{arr:Array Value}{t:TypeId}
  (hr:aX (ctx z w E pb) cs arr.toList) (ho:∀x∈arr.toList,fS x=θ):St X z ⟨s.sl.set i (.lbx cs),s.A,s.σ⟩ a (w.fO b (.cells arr t (0,0))) E pb:=by
 have hlt:=(h.priv i b hb).2.1;have hX:(ctx z w E pb).X b:=.inr (.inr ⟨i,hb⟩);have hx:Ext (ctx z w E pb) (ctx z (w.fO b (.cells arr t (0,0))) E pb):=azU hX
 have lC:Df (ctx z (w.fO b (.cells arr t (0,0))) E pb) b cs:=by have hh:=xh (w:=w) (.cells arr t (0,0)) hlt;exact⟨⟨arr,t,hh,by have:=hr.length;simpa using this.symm⟩,bY.CC hh (Vz hx _ _ hr) ho (λj hj=>by simp)⟩
 have auj:∀p∈E,(w.fO b (.cells arr t (0,0))).heap[p.b]? =w.heap[p.b]? :=λp hp=>xX _ (λe=>(h.priv i b hb).2.2 p hp e.symm)
 obtain⟨cs0,hi⟩:=hi;have hil:i<s.sl.length:=(bG.1 hi).1;refine⟨by simp [h.len],by simp [h.vG],λj x hj=>?_,λj cs' hj=>?_,h.qB,λj b' hj=>⟨(h.priv j b' hj).1,by rw[zk];exact(h.priv j b' hj).2.1,(h.priv j b' hj).2.2⟩,h.inj,h.heap.mono hx rfl auj,h.defers,?_,h.nm⟩
 ·simp only at hj;rw[kE]at hj;by_cases e:i=j
  ·subst e;rw[aP rfl,aP hil]at hj;injection hj with hj;subst hj
   have k:=h.slot i _ hi;obtain⟨b',k1,k2,_⟩:=k;rw[hb]at k1;injection k1 with k1;subst k1
   exact⟨b,hb,k2,lC⟩
  ·rw[aO e]at hj;have k:=h.slot j x hj;cases x with
   |lbx cs'=>obtain⟨b',k1,k2,k3⟩:=k;exact⟨b',k1,k2,k3.mono hx (xX _ (λe'=>e (h.inj i j b hb (e'▸k1))))⟩
   |_=>exact YF hx _ _ k
 ·simp only at hj;rw[kE]at hj;by_cases e:i=j
  ·subst e;exact h.box i cs0 hi
  ·rw[aO e]at hj;exact h.box j cs' hj
 ·have o:=h.out;exact⟨o.os,o.tape,o.output,by rw[zk];exact o.size,λk hk hp=>by rw[xX _ (by have:=(h.priv i b hb).1;omega)];exact o.stay k hk hp,o.fresh',o.env,o.lt,o.mine⟩
theorem St.C9(h:St X z s a w E pb)(o:Obj)(blk:aW)(p:Pl)(hp:p.b=w.heap.size)
  (hk:Ext (ctx z w E pb) (ctx z (w.alloc o) (E++[p]) pb)->ur (ctx z (w.alloc o) (E++[p]) pb) p blk):St X z (s.heap (s.σ++[blk])) a (w.alloc o) (E++[p]) pb:=by
 have g:Below w.heap.size w (w.alloc o):=(Below.refl _ _).alloc (bN _) _
 have hx:Ext (ctx z w E pb) (ctx z (w.alloc o) (E++[p]) pb):=by
  refine⟨g.size,λb hb hn=>⟨g.block b hb,?_⟩,λi q hq=>⟨q,?_,.inl rfl⟩,rfl⟩
  ·rintro(k|⟨q,hq,k⟩|k)
   ·exact hn (.inl k)
   ·rcases jQ.1 hq with hq|hq
    ·exact hn (.inr (.inl ⟨q,hq,k⟩))
    ·simp at hq;subst hq;simp [ctx]at hb;omega
   ·exact hn (.inr (.inr k))
  ·simp only[ctx]at hq ⊢;rw[iS (bG.1 hq).1];exact hq
 have hlen:=h.heap.len;simp only[ctx]at hlen;refine h.ext hx (λi b hb=>⟨hb,g.block b (h.priv i b hb).2.1⟩) (λi b hb=>⟨(h.priv i b hb).1,by have:=(h.priv i b hb).2.1;simp;omega,λq hq=>?_⟩) h.inj ⟨by simp [ctx,hlen],λi j q r hq hr he=>?_,λi q x hq eZ=>?_⟩ ?_
 ·rcases jQ.1 hq with hq|hq
  ·exact(h.priv i b hb).2.2 q hq
  ·simp at hq;subst hq;have:=(h.priv i b hb).2.1;omega
 ·simp only[ctx]at hq hr
  have key:∀(i:Nat)(q:Pl),(E++[p])[i]? =δ q->(i<E.length/\E[i]? =δ q)\/(i=E.length/\q=p):=λi q hq=>by
   by_cases hi:i<E.length
   ·rw[iS hi]at hq;exact .inl ⟨hi,hq⟩
   ·rw[jq (by omega)]at hq
    have:i-E.length=0:=by
     rcases Nat.eq_zero_or_pos (i-E.length)with e|e
     ·exact e
     ·rw[rK (by simp;omega)]at hq;cases hq
    rw[this]at hq;simp at hq;exact .inr ⟨by omega,hq.symm⟩
  rcases key i q hq with⟨hi,Am⟩|⟨hi,eq⟩<;>rcases key j r hr with⟨hj,tY⟩|⟨hj,er⟩
  ·exact h.heap.inj i j q r Am tY he
  ·have:=h.heap.lt (p:=q) (dm Am);simp only[ctx]at this;rw[er]at he;omega
  ·have:=h.heap.lt (p:=r) (dm tY);simp only[ctx]at this;rw[eq]at he;omega
  ·omega
 ·simp only[ctx]at hq;by_cases hi:i<E.length
  ·rw[iS hi]at hq;rw[iS (by omega)]at eZ;exact(h.heap.blk i q x hq eZ).mono hx (g.block _ (h.heap.lt (p:=q) (dm hq)))
  ·rw[jq (by omega)]at hq eZ
   have:i-E.length=0:=by
    rcases Nat.eq_zero_or_pos (i-E.length)with e|e
    ·exact e
    ·rw[rK (by simp;omega)]at hq;cases hq
   rw[this]at hq;rw[show i-s.σ.length=0 by omega]at eZ;simp at hq eZ;subst hq;subst eZ;exact hk hx
 ·have o':=h.out.grow g;refine⟨o'.os,o'.tape,o'.output,o'.size,o'.stay,λi q hq=>?_,λi q hq=>?_,o'.lt,o'.mine⟩
  ·by_cases hi:i<E.length
   ·rw[iS hi]at hq;exact o'.fresh' i q hq
   ·rw[jq (by omega)]at hq
    have:q=p:=by have:=dm hq;simpa using this
    subst this;exact .inl (by rw[hp];exact h.out.size)
  ·obtain⟨p',k1,k2⟩:=o'.env i q hq;exact⟨p',by rw[iS (bG.1 k1).1];exact k1,k2⟩
theorem St.B9(h:St X z s a w E pb){i:Nat}{p:Pl}(hi:E[i]? =δ p)(o:Obj)(blk:aW)
  (hk:Ext (ctx z w E pb) (ctx z (w.fO p.b o) E pb)->ur (ctx z (w.fO p.b o) E pb) p blk):St X z (s.heap (s.σ.set i blk)) a (w.fO p.b o) E pb:=by
 have hm:p∈E:=dm hi;have hX:(ctx z w E pb).X p.b:=.inr (.inl ⟨p,hm,rfl⟩);have hx:Ext (ctx z w E pb) (ctx z (w.fO p.b o) E pb):=azU hX
 refine h.ext hx (λj b hb=>⟨hb,xX _ (λe=>(h.priv j b hb).2.2 p hm e)⟩) (λj b hb=>⟨(h.priv j b hb).1,by rw[zk];exact(h.priv j b hb).2.1,(h.priv j b hb).2.2⟩) h.inj
  ⟨by have:=h.heap.len;simpa [ctx]using this,h.heap.inj,λj q x hq eZ=>?_⟩ ?_
 ·by_cases e:i=j
  ·subst e;simp only[ctx]at hq;rw[hi]at hq;injection hq with hq;subst hq
   rw[kE]at eZ;rw[aP rfl]at eZ;split at eZ
   ·injection eZ with eZ;subst eZ;exact hk hx
   ·cases eZ
  ·rw[kE,aO e]at eZ;exact(h.heap.blk j q x hq eZ).mono hx (xX _ (λe'=>e (h.heap.inj i j p q hi hq e')))
 ·have o':=h.out;refine⟨o'.os,o'.tape,o'.output,by rw[zk];exact o'.size,λk hk hp=>?_,o'.fresh',o'.env,o'.lt,o'.mine⟩;rw[xX]
  ·exact o'.stay k hk hp
  ·rintro rfl;rcases o'.fresh p hm with e|⟨q,hq,e⟩
   ·omega
   ·exact hp q hq e
end
end
section
open Go.RowKit
theorem aBQ(c:RC)(v:Value):ay c (EY v) v:=by unfold EY;split<;>simp [ay]
theorem adu(c:RC)(v:Value):ay c (zM v) v:=by
 unfold zM;split
 ·rename_i cs;cases h:cs.toList.all fS
  ·simp [ay]
  ·simp only[cU,ay];refine⟨cs,rfl,?_,rN.1 h⟩;have:=aX.map (c:=c) EY id cs.toList (λx _=>aBQ c x);simpa using this
 ·exact aBQ c _
section
variable {X : Fx} {z : Z} {s : AS} {a : Act} {w w' : World} {E : List Pl} {pb : Nat -> Option Nat}
theorem gX(h:St X z s a w E pb)(x:Operand):ay (ctx z w E pb) (ev X s x) (a.eval x):=by
 cases x with
 |tmp t=>
  simp only[ev,Act.eval];cases hL:X.L.contains t
  ·simp only[bQ];by_cases ht:t<s.sl.length
   ·have hs:s.sl[t]? =δ s.sl[t]:=by simp [ht]
    have e:s.sl.getD t .undef=s.sl[t]:=by simp [U1,ht]
    rw[e];refine(h.slot t _ hs).rep λcs k=>?_
    have:=h.box t cs (by rw[hs,k]);rw[hL]at this;cases this
   ·have e:s.sl.getD t .undef=.undef:=by simp [U1,Nat.le_of_not_lt ht]
    rw[e];simp [ay]
  ·simp [ay]
 |const v=>exact adu _ v
 |global g=>simp [ev,ay]
 |func f=>simp only[ev,Act.eval,ay];exact⟨f,#[],rfl,by rw[h.nm];rfl,by simp [aX]⟩
theorem JK(h:St X z s a w E pb)(xs:List Operand):aX (ctx z w E pb) (xs.map (ev X s)) (xs.map a.eval):=aX.map _ _ xs λx _=>gX h x
end
section
variable {P : Program} {c : RC} (w : World)
theorem ae1{t:TypeId}{d:TypeDesc}(h:P.underlying t=δ d):∃i,P.info? t=δ i:=by
 unfold Program.underlying at h;split at h
 ·rename_i u e;exact⟨_,by assumption⟩
 ·rename_i i e;exact⟨_,by assumption⟩
 ·cases h
theorem zc{t:TypeId}{i:TypeInfo}(h:P.info? t=δ i):(typeInfo t).run P w=.ok i w:=by simp [typeInfo,h]
theorem L6{t:TypeId}{i:TypeInfo}(h:P.info? t=δ i):(sizeOf t).run P w=.ok (P.cellsOf t) w:=by simp [sizeOf,zc w h,aDS,h]
theorem Ve{t:TypeId}{d:TypeDesc}(h:P.underlying t=δ d):(sizeOf t).run P w=.ok (P.cellsOf t) w:=by obtain⟨i,hi⟩:=ae1 h;exact L6 w hi
theorem acH(X:Fx){t:TypeId}{d:TypeDesc}(h:X.P.underlying t=δ d):(isAgg t).run X.P w=.ok (GK X t) w:=by unfold isAgg;simp only[Ts,run_underlying h,UM];unfold GK;rw[h];cases d<;>rfl
theorem aCn{av x:AV}{v:Value}(h:Ψ av=δ x)(r:ay c av v):x=av/\fS v=θ:=by
 cases av<;>simp only[Ψ]at h<;>first|(cases h;done)|skip
 all_goals
  injection h with h
  refine⟨h.symm,?_⟩;simp only[ay]at r
 case int=>subst r;rfl
 case bool=>subst r;rfl
 case str=>subst r;rfl
 case fm=>obtain⟨_,rfl,_⟩:=r;rfl
 case sl=>obtain⟨_,_,rfl,_⟩:=r;rfl
 case aA=>subst r;rfl
 case ez=>obtain⟨_,rfl⟩:=r;rfl
 case rp=>obtain⟨_,_,rfl,_⟩:=r;rfl
 case np=>subst r;rfl
 case op=>obtain⟨_,_,_,rfl⟩:=r;rfl
 case oe=>obtain⟨_,_,_,_,_,rfl,_⟩:=r;rfl
 case os=>obtain⟨_,_,_,_,_,_,rfl,_⟩:=r;rfl
 case om=>obtain⟨_,_,_,rfl⟩:=r;rfl
 case nm=>subst r;rfl
 case fn=>obtain⟨_,_,rfl,_⟩:=r;rfl
 case CB=>subst r;rfl
theorem cells_one{v:Value}(h:fS v=θ):v.cells=#[v]:=by cases v<;>first|rfl|(simp [fS]at h)
theorem Jk(X:Fx){t:TypeId}{av:AV}{cs:List AV}{v:Value}(h:B3 X t av=δ cs)(r:ay c av v):
  aX c cs v.cells.toList/\(∀x∈v.cells.toList,fS x=θ)/\v.cells.size=X.P.cellsOf t/\∃d,X.P.underlying t=δ d:=by
 unfold B3 at h;cases hd:X.P.underlying t with
 |none=>rw[hd]at h;cases h
 |some d=>
  rw[hd]at h;simp only at h;cases ha:GK X t
  ·rw[ha]at h;simp only[bQ]at h;cases hc:(X.P.cellsOf t==1)
   ·rw[hc]at h;cases h
   ·rw[hc]at h;simp only[cU]at h;obtain⟨x,h1,h2⟩:=ct.1 h;injection h2 with h2
    obtain⟨e,h3⟩:=aCn h1 r;subst h2;subst e;rw[cells_one h3];exact⟨by simpa using aX.single r,by simpa using h3,by simpa using(beq_iff_eq.1 hc).symm,d,rfl⟩
  ·rw[ha]at h;simp only[cU]at h;cases av<;>simp only[ψ]at h<;>first|(cases h;done)|skip
   rename_i l;split at h
   ·injection h with h
    subst h;simp only[ay]at r;obtain⟨vs,rfl,r1,r2⟩:=r;refine⟨r1,r2,?_,d,rfl⟩;have:=r1.length;simp only[Value.cells];rw[<-Y8,<-this];assumption
   ·cases h
theorem th(b o n:Nat):(⟨b,o,μ⟩:Addr).add n=⟨b,o+n,μ⟩:=by
 unfold Addr.add;split
 ·subst_vars;rfl
 ·rfl
theorem QK(X:Fx)(hw:c.w=w){t:TypeId}{b off o:Nat}{cs:List AV}{av:AV}(r:bY c b off cs)(h:Dq X t o cs=δ av):
  ∃v,(loadVar t ⟨b,off+o,μ⟩).run X.P w=.ok v w/\ay c av v:=by
 unfold Dq at h;cases hd:X.P.underlying t with
 |none=>rw[hd]at h;cases h
 |some d=>
  rw[hd]at h;simp only at h;unfold loadVar;simp only[Ts,acH w X hd,UM];cases ha:GK X t
  ·rw[ha]at h;simp only[bQ,Γ]at h;obtain⟨x,h1,h2⟩:=ct.1 h;obtain⟨v,k1,k2,k3⟩:=aDt r h1;obtain⟨e,_⟩:=aCn h2 k3;subst e;refine⟨v,?_,k3⟩;rw[hw]at k1;simp [run_load,k1]
  ·rw[ha]at h;simp only[cU,VU]at h;split at h
   ·rename_i hle;injection h with h
    subst h;obtain⟨vs,k1,k2,k3⟩:=bY.O4 ((r.drop o).take (X.P.cellsOf t));have hl:vs.length=X.P.cellsOf t:=by rw[<-k1.length];simp;omega
    refine⟨.agg vs.toArray,?_,by simp only[ay];exact⟨vs.toArray,rfl,by simpa using k1,by simpa using k2⟩⟩;have hrun:=run_loadCells_list (P:=X.P) w ⟨b,off+o,μ⟩ vs (λj v hj=>by rw[th];have:=k3 j v hj;rwa[hw]at this);rw[hl]at hrun;simp [Ve w hd,hrun]
   ·cases h
theorem aod(X:Fx){t:TypeId}{o:Nat}{cs:List AV}{av:AV}{vs:Array Value}(r:aX c cs vs.toList)(k:∀x∈vs.toList,fS x=θ)(h:Dq X t o cs=δ av):
  ∃v,(part t vs o).run X.P w=.ok v w/\ay c av v:=by
 unfold Dq at h;cases hd:X.P.underlying t with
 |none=>rw[hd]at h;cases h
 |some d=>
  rw[hd]at h;simp only at h;unfold part;simp only[Ts,acH w X hd,UM];cases ha:GK X t
  ·rw[ha]at h;simp only[bQ,Γ]at h;obtain⟨x,h1,h2⟩:=ct.1 h;obtain⟨v,k1,k3⟩:=r.nth h1;obtain⟨e,_⟩:=aCn h2 k3;subst e;refine⟨v,?_,k3⟩;have:vs[o]? =δ v:=by rw[<-UE];exact k1
   simp [this]
  ·rw[ha]at h;simp only[cU,VU]at h;split at h
   ·rename_i hle;injection h with h
    subst h;refine⟨.agg (vs.extract o (o+X.P.cellsOf t)),by simp [Ve w hd],?_⟩;simp only[ay];have e:(vs.extract o (o+X.P.cellsOf t)).toList=(vs.toList.drop o).take (X.P.cellsOf t):=by simp [Array.toList_extract,aEe]
    refine⟨_,rfl,by rw[e];exact(r.drop o).take _,?_⟩;rw[e];exact λx hx=>k x (List.mem_of_mem_drop (sA hx))
   ·cases h
end
section
variable {P : Program} {c : RC} (w : World)
theorem Nb(a b:ByteArray):(a==b)=(a.toList==b.toList):=beq_toListBytes a b
theorem arN{t:TypeId}{x y av:AV}{v u:Value}(h:WE x y=δ av)(r:ay c x v)(q:ay c y u):∃k,(binOp .add t v u).run P w=.ok k w/\ay c av k:=by
 unfold WE at h;split at h
 ·simp only[ay]at r q;subst r;subst q;split at h
  ·injection h with h;subst h;subst_vars
   exact⟨_,by simp [binOp,aDP];rfl,by simp [ay]⟩
  ·cases h
 ·simp only[ay]at r q;subst r;subst q;split at h
  ·rename_i a b hs;injection h with h;subst h
   refine⟨.string (a++b),?_,by simp [ay]⟩;have:¬((a.size+b.size:Nat):Int)>ξ.max:=by rw[IntKind.max_i64];omega
   simp only[binOp,aDQ,aO this];rfl
  ·cases h
 ·cases h
theorem JB{f:IntKind->Int->Int->Option AV}{op:BinOp}{t:TypeId}{x y av:AV}{v u:Value}
  (hf:∀k a b av,f k a b=δ av->∃n,(binOp op t (.int k a) (.int k b)).run P w=.ok n w/\ay c av n)
  (h:(match x,y with|.int k a,.int k' b=>if k=k' then f k a b else μ|_,_=>μ)=δ av) (r:ay c x v) (q:ay c y u):∃k,(binOp op t v u).run P w=.ok k w/\ay c av k:=by
 split at h
 ·simp only[ay]at r q;subst r;subst q;split at h
  ·subst_vars;exact hf _ _ _ _ h
  ·cases h
 ·cases h
theorem atC{t:TypeId}{x y av:AV}{v u:Value}(h:Uk x y=δ av)(r:ay c x v)(q:ay c y u):∃k,(binOp .sub t v u).run P w=.ok k w/\ay c av k:=
 JB w (f:=λk a b=>δ (.int k (k.wrap (a-b)))) (λk a b av e=>by injection e with e;subst e;exact⟨_,by simp [binOp,aDP];rfl,by simp [ay]⟩) h r q
theorem as4{t:TypeId}{x y av:AV}{v u:Value}(h:Tu x y=δ av)(r:ay c x v)(q:ay c y u):∃k,(binOp .mul t v u).run P w=.ok k w/\ay c av k:=
 JB w (f:=λk a b=>δ (.int k (k.wrap (a*b)))) (λk a b av e=>by injection e with e;subst e;exact⟨_,by simp [binOp,aDP];rfl,by simp [ay]⟩) h r q
theorem asZ{t:TypeId}{x y av:AV}{v u:Value}(h:YY x y=δ av)(r:ay c x v)(q:ay c y u):∃k,(binOp .lss t v u).run P w=.ok k w/\ay c av k:=by
 unfold YY at h;split at h
 ·exact JB w (x:=.int _ _) (y:=.int _ _) (f:=λk a b=>δ (.bool (decide (a<b)))) (λk a b av e=>by injection e with e;subst e;exact⟨_,by simp [binOp,aEl];rfl,by simp [ay]⟩) h r q
 ·simp only[ay]at r q;subst r;subst q;injection h with h;subst h
  exact⟨.bool _,by simp only[binOp,aDQ];rfl,by simp [ay]⟩
 ·cases h
theorem asU{t:TypeId}{x y av:AV}{v u:Value}(h:Ze x y=δ av)(r:ay c x v)(q:ay c y u):∃k,(binOp .leq t v u).run P w=.ok k w/\ay c av k:=
 JB w (f:=λk a b=>δ (.bool (decide (a<=b)))) (λk a b av e=>by injection e with e;subst e;exact⟨_,by simp [binOp,aEl];rfl,by simp [ay]⟩) h r q
theorem asF{t:TypeId}{x y av:AV}{v u:Value}(h:YK x y=δ av)(r:ay c x v)(q:ay c y u):∃k,(binOp .gtr t v u).run P w=.ok k w/\ay c av k:=
 JB w (f:=λk a b=>δ (.bool (decide (a>b)))) (λk a b av e=>by injection e with e;subst e;exact⟨.bool (decide (a>b)),by simp [binOp,aEl],by simp [ay]⟩) h r q
theorem asB{t:TypeId}{x y av:AV}{v u:Value}(h:YI x y=δ av)(r:ay c x v)(q:ay c y u):∃k,(binOp .geq t v u).run P w=.ok k w/\ay c av k:=
 JB w (f:=λk a b=>δ (.bool (decide (a>=b)))) (λk a b av e=>by injection e with e;subst e;exact⟨.bool (decide (a>=b)),by simp [binOp,aEl],by simp [ay]⟩) h r q
theorem atm{t:TypeId}{x y av:AV}{v u:Value}(h:A.quo x y=δ av)(r:ay c x v)(q:ay c y u):∃k,(binOp .quo t v u).run P w=.ok k w/\ay c av k:=by
 unfold A.quo at h;split at h
 ·simp only[ay]at r q;subst r;subst q;split at h
  ·rename_i hk;obtain⟨rfl,hb⟩:=hk;injection h with h;subst h
   exact⟨_,by simp [binOp,Op.intDiv,hb];rfl,by simp [ay]⟩
  ·cases h
 ·cases h
theorem atn{t:TypeId}{x y av:AV}{v u:Value}(h:A.rem x y=δ av)(r:ay c x v)(q:ay c y u):∃k,(binOp .rem t v u).run P w=.ok k w/\ay c av k:=by
 unfold A.rem at h;split at h
 ·simp only[ay]at r q;subst r;subst q;split at h
  ·rename_i hk;obtain⟨rfl,hb⟩:=hk;injection h with h;subst h
   exact⟨_,by simp [binOp,Op.intDiv,hb];rfl,by simp [ay]⟩
  ·cases h
 ·cases h
theorem atx{t:TypeId}{x y av:AV}{v u:Value}(h:A.shl x y=δ av)(r:ay c x v)(q:ay c y u):∃k,(binOp .shl t v u).run P w=.ok k w/\ay c av k:=by
 unfold A.shl at h;split at h
 ·simp only[ay]at r q;subst r;subst q;split at h
  ·cases h
  ·rename_i hb;injection h with h;subst h
   exact⟨_,by simp only[binOp,Op.shift,aO hb];rfl,by simp [ay]⟩
 ·cases h
theorem aty{t:TypeId}{x y av:AV}{v u:Value}(h:A.shr x y=δ av)(r:ay c x v)(q:ay c y u):∃k,(binOp .shr t v u).run P w=.ok k w/\ay c av k:=by
 unfold A.shr at h;split at h
 ·simp only[ay]at r q;subst r;subst q;split at h
  ·cases h
  ·rename_i hb;injection h with h;subst h
   exact⟨_,by simp only[binOp,Op.shift,aO hb];rfl,by simp [ay]⟩
 ·cases h
theorem abF:∀{k1 k2:List Nat}{xs ys:List AV}{b:Bool},WS (k1++k2) xs ys=δ b->∃p q,WS k1 (xs.take k1.length) (ys.take k1.length)=δ p/\WS k2 (xs.drop k1.length) (ys.drop k1.length)=δ q/\b=(p&&q)
 |[],k2,xs,ys,b,h=>⟨θ,b,by simp [WS],by simpa using h,by simp⟩
 |k::k1,k2,[],[],b,h=>by simp [WS]at h
 |k::k1,k2,[],_::_,b,h=>by simp [WS]at h
 |k::k1,k2,_::_,[],b,h=>by simp [WS]at h
 |k::k1,k2,x::xs,y::ys,b,h=>by simp only[oJ,WS]at h;obtain⟨p,h1,h2⟩:=ct.1 h;obtain⟨q,h3,h4⟩:=fF.1 h2;obtain⟨p',q',OT,k2',k3'⟩:=abF h3;exact⟨p&&p',q',by simp [WS,h1,OT],by simpa using k2',by rw[<-h4,k3',Bool.and_assoc]⟩
def rz(P:Program)(t:TypeId)(vs:List Value):Value:=match P.underlying t with
 |some (.struct _)=>.agg vs.toArray
 |_=>vs.headD undef
theorem aCt{t:TypeId}{d:Nat}(hk:nR P (d+1) t=θ){vs:Array Value}{off:Nat}(h:off+P.cellsOf t<=vs.size):
  (part t vs off).run P w=.ok (rz P t ((vs.toList.drop off).take (P.cellsOf t))) w:=by
 unfold nR at hk
 have scalar:∀de,P.underlying t=δ de->(∀fs,de≠.struct fs)->(∀n e,de≠.array n e)->P.cellsOf t=1->(part t vs off).run P w=.ok (rz P t ((vs.toList.drop off).take (P.cellsOf t))) w:=by
  intro de hd h1 h2 h3
  have ha:(isAgg t).run P w=.ok ι w:=by unfold isAgg;simp only[Ts,run_underlying hd,UM];cases de<;>first|rfl|exact absurd rfl (h1 _)|exact absurd rfl (h2 _ _)
  have e:rz P t ((vs.toList.drop off).take (P.cellsOf t))=vs[off]'(by omega):=by
   unfold rz;rw[hd]
   have:(vs.toList.drop off).take (P.cellsOf t)=[vs[off]'(by omega)]:=by
    have hlt:off<vs.toList.length:=by rw[Y8];omega
    rw[h3,UG hlt];simp
   rw[this];cases de<;>first|rfl|exact absurd rfl (h1 _)
  rw[e];unfold part;simp [ha,wB (show off<vs.size by omega)]
 cases hd:P.underlying t with
 |none=>rw[hd]at hk;cases hk
 |some de=>
  rw[hd]at hk;cases de<;>simp only at hk<;>first|(cases hk;done)|skip
  case bool=>exact scalar _ hd (by intro _ e;cases e) (by intro _ _ e;cases e) (by simpa using hk)
  case int=>exact scalar _ hd (by intro _ e;cases e) (by intro _ _ e;cases e) (by simpa using hk)
  case string=>exact scalar _ hd (by intro _ e;cases e) (by intro _ _ e;cases e) (by simpa using hk)
  case struct fs=>
   have ha:(isAgg t).run P w=.ok θ w:=by unfold isAgg;simp only[Ts,run_underlying hd,UM];rfl
   unfold part;simp only[Ts,ha,UM,if_true,Ve w hd,X8];congr 1;simp only[rz,hd];congr 1;apply oI.1;simp [Array.toList_extract,aEe]
theorem ac6:∀{ks:List Nat}{xs ys:List AV}{b:Bool},WS ks xs ys=δ b->xs.length=ks.length/\ys.length=ks.length
 |[],[],[],_,_=>⟨rfl,rfl⟩
 |[],[],_::_,_,h=>by simp [WS]at h
 |[],_::_,_,_,h=>by simp [WS]at h
 |_::_,[],_,_,h=>by simp [WS]at h
 |_::_,_::_,[],_,h=>by simp [WS]at h
 |k::ks,x::xs,y::ys,b,h=>by simp only[WS]at h;obtain⟨p,h1,h2⟩:=ct.1 h;obtain⟨q,h3,h4⟩:=fF.1 h2;have:=ac6 h3;simp [this]
theorem Rc{d:Nat}(ih:∀t,nR P d t=θ->(kinds P d t).length=P.cellsOf t):∀(fs:List Field)(off tot:Nat),Cm (nR P d) P.cellsOf fs off=δ tot->off+(fs.flatMap λf=>kinds P d f.type).length=tot
 |[],off,tot,h=>by simpa [Cm]using h
 |f::fs,off,tot,h=>by
  simp only[Cm]at h;cases hc : (f.name != "_" && f.offset == off && nR P d f.type)
  ·rw[hc]at h;cases h
  ·rw[hc]at h;simp only[cU]at h;simp only[jW]at hc;have:=Rc ih fs _ _ h;have:=ih _ hc.2;simp only[Xm,ZY];omega
theorem Jt:∀(d:Nat)(t:TypeId),nR P d t=θ->(kinds P d t).length=P.cellsOf t
 |0,t,h=>by simp [nR]at h
 |d+1,t,h=>by
  unfold nR at h;unfold kinds;cases hd:P.underlying t with
  |none=>rw[hd]at h;cases h
  |some de=>
   rw[hd]at h;cases de<;>simp only at h<;>first|(cases h;done)|skip
   case bool=>simpa using(beq_iff_eq.1 h).symm
   case int=>simpa using(beq_iff_eq.1 h).symm
   case string=>simpa using(beq_iff_eq.1 h).symm
   case struct fs=>
    simp only[jW,beq_iff_eq]at h;have:=Rc (λt=>Jt d t) fs.toList 0 _ h.2;simpa using this
theorem aef{d D:Nat}(ih:∀(t:TypeId) (xs ys:List AV) (vs us:List Value) (b:Bool),nR P d t=θ->WS (kinds P d t) xs ys=δ b->aX c xs vs->aX c ys us->vs.length=P.cellsOf t->us.length=P.cellsOf t->
   (Uf D t (rz P t vs) (rz P t us)).run P w=.ok b w):
  ∀(fs:List Field)(off tot:Nat)(xs ys:List AV)(vs us:Array Value)(b:Bool),Cm (nR P d) P.cellsOf fs off=δ tot->tot=vs.size->tot=us.size->WS (fs.flatMap λf=>kinds P d f.type) (xs.drop off) (ys.drop off)=δ b->aX c xs vs.toList->aX c ys us.toList->
   (Op.eqFields D vs us fs).run P w=.ok b w
 |[],off,tot,xs,ys,vs,us,b,h,h1,h2,h3,h4,h5=>by
  simp only[Cm]at h;injection h with h
  have l1:=h4.length;have:xs.drop off=[]:=aC0 (by rw[l1];simp;omega);rw[this]at h3;have l2:=h5.length;have:ys.drop off=[]:=aC0 (by rw[l2];simp;omega);rw[this]at h3;simp only[List.flatMap_nil,WS]at h3;injection h3 with h3
  subst h3;simp [Op.eqFields]
 |f::fs,off,tot,xs,ys,vs,us,b,h,h1,h2,h3,h4,h5=>by
  simp only[Cm]at h;cases hc : (f.name != "_" && f.offset == off && nR P d f.type)
  ·rw[hc]at h;cases h
  ·rw[hc]at h;simp only[cU]at h;simp only[jW,bne_iff_ne,beq_iff_eq]at hc;obtain⟨⟨hn,ho⟩,hk⟩:=hc;have hle:=Rc (λt=>Jt d t) fs _ _ h;have wS:=Jt d f.type hk;rw[Xm]at h3;obtain⟨p,q,k1,k2,k3⟩:=abF h3;rw[wS]at k1 k2;rw[mQ,mQ]at k2
   obtain⟨d',rfl⟩:∃d',d=d'+1:=by
    cases d with
    |zero=>simp [nR]at hk
    |succ d'=>exact⟨d',rfl⟩
   have r1:=aCt w hk (vs:=vs) (off:=off) (by omega);have r2:=aCt w hk (vs:=us) (off:=off) (by omega);have e1:=ih f.type _ _ _ _ p hk k1 ((h4.drop off).take _) ((h5.drop off).take _) (by simp;omega) (by simp;omega);have ihf:=aef ih fs (off+P.cellsOf f.type) tot xs ys vs us q h h1 h2 k2 h4 h5;simp only[Op.eqFields,Sem.run_ite,aP hn];simp only[Ts,ho,r1,r2,UM,e1];cases p
   ·simp [k3]
   ·simp only[Ur,YQ,if_false,ihf,k3,aDh]
theorem aeg:∀(d D:Nat)(hD:d<=D)(t:TypeId)(xs ys:List AV)(vs us:List Value)(b:Bool),nR P d t=θ->WS (kinds P d t) xs ys=δ b->aX c xs vs->aX c ys us->vs.length=P.cellsOf t->us.length=P.cellsOf t->
   (Uf D t (rz P t vs) (rz P t us)).run P w=.ok b w
 |0,_,_,t,xs,ys,vs,us,b,hk,_,_,_,_,_=>by simp [nR]at hk
 |d+1,0,hD,_,_,_,_,_,_,_,_,_,_,_,_=>by omega
 |d+1,D+1,hD,t,xs,ys,vs,us,b,hk,h,r,q,l1,l2=>by
  unfold nR at hk;unfold kinds at h;cases hd:P.underlying t with
  |none=>rw[hd]at hk;cases hk
  |some de=>
   rw[hd]at hk h
   have scalar:∀k,WS [k] xs ys=δ b->P.cellsOf t=1->∃x y v u,xs=[x]/\ys=[y]/\vs=[v]/\us=[u]/\A.qi k x y=δ b/\ay c x v/\ay c y u:=by intro k h h1;rw[h1]at l1 l2;have m1:=r.length;have m2:=q.length;obtain⟨x,rfl⟩:=wA.1 (m1.trans l1);obtain⟨y,rfl⟩:=wA.1 (m2.trans l2);obtain⟨v,rfl⟩:=wA.1 l1;obtain⟨u,rfl⟩:=wA.1 l2;simp only[WS]at h;obtain⟨p,h2,h3⟩:=ct.1 h;simp at h3;subst h3;obtain⟨v',k1,k2⟩:=r.nth (i:=0) (a:=x) rfl;obtain⟨u',k3,k4⟩:=q.nth (i:=0) (a:=y) rfl;simp at k1 k3;subst k1;subst k3;exact⟨x,y,v,u,rfl,rfl,rfl,rfl,h2,k2,k4⟩
   cases de<;>simp only at hk h<;>first|(cases hk;done)|skip
   case bool=>
    obtain⟨x,y,v,u,rfl,rfl,rfl,rfl,e,r1,q1⟩:=scalar _ h (by simpa using hk);simp only[rz,hd,aDT];simp only[A.qi,A.Ai]at e;split at e
    ·simp only[ay]at r1 q1;injection e with e;subst_vars
     exact run_equalIn_bool' w D t _ _ hd
    ·cases e
   case int kk=>
    obtain⟨x,y,v,u,rfl,rfl,rfl,rfl,e,r1,q1⟩:=scalar _ h (by simpa using hk);simp only[rz,hd,aDT];simp only[A.qi,A.qH]at e;split at e
    ·simp only[ay]at r1 q1;split at e
     ·injection e with e;subst_vars
      exact run_equalIn_int w D t _ kk _ _ hd
     ·cases e
    ·cases e
   case string=>
    obtain⟨x,y,v,u,rfl,rfl,rfl,rfl,e,r1,q1⟩:=scalar _ h (by simpa using hk);simp only[rz,hd,aDT];simp only[A.qi,A.tV]at e;split at e
    ·simp only[ay]at r1 q1;injection e with e;subst_vars
     rw[Nb];exact run_equalIn_string w D t _ _ hd
    ·cases e
   case struct fs=>
    simp only[jW,UK,beq_iff_eq]at hk;have hf:P.fieldsOf t=fs:=by simp [Program.fieldsOf,hd]
    simp only[rz,hd];rw[run_equalIn_struct w D t _ _ (by rw[hf];exact hd) hk.1,hf];exact aef w (λt xs ys vs us b=>aeg d D (by omega) t xs ys vs us b) fs.toList 0 _ xs ys vs.toArray us.toArray b hk.2 (by simp [l1]) (by simp [l2]) (by simpa using h) (by simpa using r) (by simpa using q)
theorem Mv{el:TypeId}(d:Nat)(t:TypeId)(p:Option Addr)(h:P.underlying t=δ (.pointer el)):(Uf (d+1) t (.pointer μ) (.pointer p)).run P w=.ok p.isNone w:=by simp [Uf,run_underlying h]
theorem Mw{el:TypeId}(d:Nat)(t:TypeId)(p:Addr)(h:P.underlying t=δ (.pointer el)):(Uf (d+1) t (.pointer (δ p)) (.pointer μ)).run P w=.ok ι w:=by simp [Uf,run_underlying h]
theorem Xg(X:Fx){t:TypeId}{e:A.EK}{x y:AV}{b:Bool}{v u:Value}(ht:qh X t=δ e)(h:WN e x y=δ b)(r:ay c x v)(q:ay c y u):
  (Op.equal t v u).run X.P w=.ok b w/\((∃xs ys,v=.agg xs/\u=.agg ys/\X.P.eqGuardType X.P.depth t=ι)\/(∃k m n,v=.int k m/\u=.int k n/\b=(m==n))\/(∃m n,v=.string m/\u=.string n/\b=(m==n))\/(∃m n,v=.bool m/\u=.bool n/\b=(m==n))\/∃m n,v=.pointer m/\u=.pointer n):=by
 unfold qh at ht;cases hd:X.P.underlying t with
 |none=>rw[hd]at ht;cases ht
 |some de=>
  rw[hd]at ht;cases de<;>simp only at ht<;>first|(cases ht;done)|skip
  case bool=>
   injection ht with ht;subst ht
   simp only[WN,A.Ai]at h;split at h
   ·simp only[ay]at r q;injection h with h;subst_vars
    exact⟨run_equalIn_bool' w _ t _ _ hd,.inr (.inr (.inr (.inl ⟨_,_,rfl,rfl,rfl⟩)))⟩
   ·cases h
  case int kk=>
   injection ht with ht;subst ht
   simp only[WN,A.qH]at h;split at h
   ·simp only[ay]at r q;split at h
    ·injection h with h;subst_vars
     exact⟨run_equalIn_int w _ t _ kk _ _ hd,.inr (.inl ⟨_,_,_,rfl,rfl,rfl⟩)⟩
    ·cases h
   ·cases h
  case string=>
   injection ht with ht;subst ht
   simp only[WN,A.tV]at h;split at h
   ·simp only[ay]at r q;injection h with h;subst_vars
    refine⟨?_,.inr (.inr (.inl ⟨_,_,rfl,rfl,rfl⟩))⟩;rw[Nb];exact run_equalIn_string w _ t _ _ hd
   ·cases h
  case pointer el=>
   cases hc:(X.P.cellsOf el !=0)
   ·rw[hc]at ht;cases ht
   ·rw[hc]at ht;injection ht with ht;subst ht
    simp only[WN,A.ZX]at h;split at h<;>first|(cases h;done)|skip
    all_goals
     simp only[ay]at r q;injection h with h;subst h
    ·subst r;subst q;exact⟨by first|exact Mv w 9999 t _ hd|exact Mw w 9999 t _ hd,.inr (.inr (.inr (.inr ⟨_,_,rfl,rfl⟩)))⟩
    ·subst r;obtain⟨b,off,rfl,_⟩:=q;exact⟨by first|exact Mv w 9999 t _ hd|exact Mw w 9999 t _ hd,.inr (.inr (.inr (.inr ⟨_,_,rfl,rfl⟩)))⟩
    ·subst r;obtain⟨p,_,_,rfl⟩:=q;exact⟨by first|exact Mv w 9999 t _ hd|exact Mw w 9999 t _ hd,.inr (.inr (.inr (.inr ⟨_,_,rfl,rfl⟩)))⟩
    ·subst q;obtain⟨b,off,rfl,_⟩:=r;exact⟨by first|exact Mv w 9999 t _ hd|exact Mw w 9999 t _ hd,.inr (.inr (.inr (.inr ⟨_,_,rfl,rfl⟩)))⟩
    ·subst q;obtain⟨p,_,_,rfl⟩:=r;exact⟨by first|exact Mv w 9999 t _ hd|exact Mw w 9999 t _ hd,.inr (.inr (.inr (.inr ⟨_,_,rfl,rfl⟩)))⟩
  case struct fs=>
   cases hc:(nR X.P 9 t&&!X.P.eqGuardType X.P.depth t)
   ·rw[hc]at ht;cases ht
   ·rw[hc]at ht;injection ht with ht;subst ht
    simp only[jW,UK]at hc;simp only[WN]at h;split at h
    ·simp only[ay]at r q;obtain⟨vs,rfl,r1,_⟩:=r;obtain⟨us,rfl,q1,_⟩:=q;have hl:=ac6 h;rw[Jt 9 t hc.1]at hl;have e:=aeg w 9 Op.maxDepth (by decide) t _ _ _ _ b hc.1 h r1 q1 (by rw[<-r1.length];exact hl.1) (by rw[<-q1.length];exact hl.2);simp only[rz,hd,Array.toArray_toList]at e;exact⟨e,.inl ⟨_,_,rfl,rfl,hc.2⟩⟩
    ·cases h
theorem asl(X:Fx){t:TypeId}{ox oy:Operand}{e:A.EK}{x y av:AV}{v u:Value}(ht:qh X t=δ e)(h:ZA e x y=δ av)(r:ay c x v)(q:ay c y u):
  ∃k,(do eqGuard .eql t ox oy v u;binOp .eql t v u:Sem Value).run X.P w=.ok k w/\ay c av k:=by
 obtain⟨b,h1,h2⟩:=fF.1 h;subst h2;obtain⟨h3,h4⟩:=Xg w X ht h1 r q;refine⟨.bool b,?_,by simp [ay]⟩;rcases h4 with⟨xs,ys,rfl,rfl,hg⟩|⟨k,m,n,rfl,rfl,rfl⟩|⟨m,n,rfl,rfl,rfl⟩|⟨m,n,rfl,rfl,hb⟩|⟨m,n,rfl,rfl⟩
 ·simp only[Ts,run_eqGuard_agg w .eql t ox oy xs ys hg,UM];simp [binOp,h3]
 ·simp [eqGuard_at_int,binOp_eql]
 ·rw[Nb];simp [eqGuard_at_string,binOp,aDQ]
 ·simp only[eqGuard_at_bool,Ts,X8,UM];simp [binOp,h3]
 ·simp only[eqGuard_at_pointer,Ts,X8,UM];simp [binOp,h3]
theorem as6(X:Fx){t:TypeId}{ox oy:Operand}{e:A.EK}{x y av:AV}{v u:Value}(ht:qh X t=δ e)(h:UP e x y=δ av)(r:ay c x v)(q:ay c y u):
  ∃k,(do eqGuard .neq t ox oy v u;binOp .neq t v u:Sem Value).run X.P w=.ok k w/\ay c av k:=by
 obtain⟨b,h1,h2⟩:=fF.1 h;subst h2;obtain⟨h3,h4⟩:=Xg w X ht h1 r q;refine⟨.bool (!b),?_,by simp [ay]⟩;rcases h4 with⟨xs,ys,rfl,rfl,hg⟩|⟨k,m,n,rfl,rfl,rfl⟩|⟨m,n,rfl,rfl,rfl⟩|⟨m,n,rfl,rfl,hb⟩|⟨m,n,rfl,rfl⟩
 ·simp only[Ts,run_eqGuard_agg w .neq t ox oy xs ys hg,UM];simp [binOp,h3]
 ·simp [eqGuard_at_int,binOp_neq];rfl
 ·rw[Nb];simp [eqGuard_at_string,binOp,aDQ]
 ·simp only[eqGuard_at_bool,Ts,X8,UM];simp [binOp,h3]
 ·simp only[eqGuard_at_pointer,Ts,X8,UM];simp [binOp,h3]
theorem agK{P:Program}{el:TypeId}(d:Nat)(t:TypeId)(a:Option Addr)(n m:Nat)(h:P.underlying t=δ (.slice el)):(Uf (d+1) t (.slice a n m) (.slice μ 0 0)).run P w=.ok a.isNone w:=by cases a<;>simp [Uf,run_underlying h]
theorem afr{P:Program}{t e:TypeId}{x y:AV}{b:Bool}{v u:Value}(ht:P.underlying t=δ (.slice e))(h:A.S3 x y=δ b)(r:ay c x v)(q:ay c y u):
  ∃a n m,v=.slice a n m/\u=.slice μ 0 0/\(Op.equal t v u).run P w=.ok b w:=by
 cases y<;>simp only[A.S3]at h<;>first|(cases h;done)|skip
 simp only[ay]at q;subst q
 have hs:∃a n m,v=.slice a n m/\b=a.isNone:=by
  split at h<;>first|(cases h;done)|skip
  all_goals injection h with h;subst h;simp only[ay]at r
  ·exact⟨μ,0,0,r,rfl⟩
  ·obtain⟨a,cap,e1,_,_,k|⟨b,off,rfl,_⟩⟩:=r
   ·cases k
   ·exact⟨_,_,_,e1,rfl⟩
  ·obtain⟨_,p,_,_,a,cap,rfl,_⟩:=r;exact⟨_,_,_,rfl,rfl⟩
 obtain⟨a,n,m,rfl,rfl⟩:=hs;exact⟨a,n,m,rfl,rfl,agK w 9999 t a n m ht⟩
theorem arQ(X:Fx){op:BinOp}{t:TypeId}{ox oy:Operand}{x y av:AV}{v u:Value}(h:Yo X op t x y=δ av)(r:ay c x v)(q:ay c y u):
  ∃k,(do eqGuard op t ox oy v u;binOp op t v u:Sem Value).run X.P w=.ok k w/\ay c av k:=by
 cases op<;>simp only[Yo]at h<;>first|(cases h;done)|skip
 case add=>obtain⟨k,h1,h2⟩:=arN (P:=X.P) (t:=t) w h r q;exact⟨k,by simp [eqGuard_add,h1],h2⟩
 case sub=>obtain⟨k,h1,h2⟩:=atC (P:=X.P) (t:=t) w h r q;exact⟨k,by simp [eqGuard_sub,h1],h2⟩
 case mul=>obtain⟨k,h1,h2⟩:=as4 (P:=X.P) (t:=t) w h r q;exact⟨k,by simp [eqGuard_mul,h1],h2⟩
 case quo=>obtain⟨k,h1,h2⟩:=atm (P:=X.P) (t:=t) w h r q;exact⟨k,by simp [eqGuard_quo,h1],h2⟩
 case rem=>obtain⟨k,h1,h2⟩:=atn (P:=X.P) (t:=t) w h r q;exact⟨k,by simp [eqGuard_rem,h1],h2⟩
 case lss=>obtain⟨k,h1,h2⟩:=asZ (P:=X.P) (t:=t) w h r q;exact⟨k,by simp [eqGuard_lss,h1],h2⟩
 case leq=>obtain⟨k,h1,h2⟩:=asU (P:=X.P) (t:=t) w h r q;exact⟨k,by simp [eqGuard_leq,h1],h2⟩
 case gtr=>obtain⟨k,h1,h2⟩:=asF (P:=X.P) (t:=t) w h r q;exact⟨k,by simp [eqGuard_gtr,h1],h2⟩
 case geq=>obtain⟨k,h1,h2⟩:=asB (P:=X.P) (t:=t) w h r q;exact⟨k,by simp [eqGuard_geq,h1],h2⟩
 case shl=>obtain⟨k,h1,h2⟩:=atx (P:=X.P) (t:=t) w h r q;exact⟨k,by simp [eqGuard_shl,h1],h2⟩
 case shr=>obtain⟨k,h1,h2⟩:=aty (P:=X.P) (t:=t) w h r q;exact⟨k,by simp [eqGuard_shr,h1],h2⟩
 case eql=>
  cases he:qh X t with
  |none=>
   rw[he]at h;simp only at h;split at h
   ·rename_i e ht;obtain⟨b,h1,rfl⟩:=fF.1 h;obtain⟨a,n,m,rfl,rfl,k2⟩:=afr (P:=X.P) w ht h1 r q;exact⟨.bool b,by simp [eqGuard,binOp,k2],by simp [ay]⟩
   ·cases h
  |some e=>rw[he]at h;exact asl w X he h r q
 case neq=>
  cases he:qh X t with
  |none=>
   rw[he]at h;simp only at h;split at h
   ·rename_i e ht;obtain⟨b,h1,rfl⟩:=fF.1 h;obtain⟨a,n,m,rfl,rfl,k2⟩:=afr (P:=X.P) w ht h1 r q;exact⟨.bool (!b),by simp [eqGuard,binOp,k2],by simp [ay]⟩
   ·cases h
  |some e=>rw[he]at h;exact as6 w X he h r q
theorem MD{n j:Nat}{i:AV}{v:Value}(h:A.idx n i=δ j)(r:ay c i v):∃k,v=.int k (j:Int)/\j<n:=by
 unfold A.idx at h;split at h
 ·simp only[ay]at r;split at h
  ·rename_i k m hm;injection h with h
   subst r;exact⟨_,by rw[<-h];congr 1;omega,by omega⟩
  ·cases h
 ·cases h
def tO(c:RC):Option AV->Option Value->Prop
 |none,μ=>True
 |some x,δ v=>ay c x v
 |_,_=>False
theorem Jr{y d j:Nat}{x:Option AV}{v:Option Value}{code:BoundsCode}(h:Wb y d x=δ j)(r:tO c x v):
  (x=μ/\v=μ/\j=d)\/∃a u,x=δ a/\v=δ u/\(VG u y code).run P w=.ok j w/\j<=y:=by
 cases x with
 |none=>cases v with
  |none=>simp only[Wb]at h;injection h with h;exact .inl ⟨rfl,rfl,h.symm⟩
  |some u=>exact r.elim
 |some a=>cases v with
  |none=>exact r.elim
  |some u=>
   simp only[tO]at r;cases a<;>simp only[Wb]at h<;>first|(cases h;done)|skip
   rename_i k m;split at h
   ·rename_i hm;injection h with h
    simp only[ay]at r;subst r;refine .inr ⟨_,_,rfl,rfl,?_,by omega⟩;simp [VG,asIntOf,hm,h]
   ·cases h
theorem LK{Ic:Bool}{y len cap l h:Nat}{lo hi:Option AV}{vl vh:Option Value}(hc:len<=cap)(hy:y<=cap)(hh:Wb y len hi=δ h)(hl:Wb h 0 lo=δ l)
  (rh:tO c hi vh) (rl:tO c lo vl):
  (UZ Ic len cap vl vh μ).run P w=.ok (l,h,cap) w/\l<=h/\(h<=y\/h<=len):=by
 have big:∀{u:Value}{code:BoundsCode},(VG u y code).run P w=.ok h w->(VG u cap code).run P w=.ok h w:=by
  intro u code e;unfold VG at e ⊢;simp only[Ts]at e ⊢;generalize (asIntOf u).run P w=r at *
  cases r with
  |halt x w'=>simp at e
  |ok p w'=>
   obtain⟨k,i⟩:=p;simp only[UM,Sem.run_ite]at e ⊢;split at e
   ·rename_i hi;rw[aP ⟨hi.1,by omega⟩];exact e
   ·simp only[boundsPanic,Ts]at e;exfalso;revert e;split
    ·simp [runtimePanic,goPanic];split<;>simp [runtimePanic,goPanic]
    ·simp [runtimePanic,goPanic]
 rcases Jr (P:=P) (code:=if Ic then .sliceAcap else .sliceAlen) w hh rh with⟨rfl,rfl,rfl⟩|⟨x,u,rfl,rfl,e1,e2⟩
 ·rcases Jr (P:=P) (code:=.sliceB) w hl rl with⟨rfl,rfl,rfl⟩|⟨y,q,rfl,rfl,e3,e4⟩
  ·exact⟨by simp [UZ],kW _,.inr (bN _)⟩
  ·exact⟨by simp [UZ,e3],e4,.inr (bN _)⟩
 ·rcases Jr (P:=P) (code:=.sliceB) w hl rl with⟨rfl,rfl,rfl⟩|⟨y,q,rfl,rfl,e3,e4⟩
  ·exact⟨by simp [UZ,big e1],kW _,.inl e2⟩
  ·exact⟨by simp [UZ,big e1,e3],e4,.inl e2⟩
theorem aqg{y y' d d' j:Nat}{x:AV}(h:Wb y d (δ x)=δ j)(hy:y<=y'):Wb y' d' (δ x)=δ j:=by
 cases x<;>simp only[Wb]at h ⊢<;>first|(cases h;done)|skip
 split at h
 ·rename_i hm;rw[aP ⟨hm.1,by omega⟩];exact h
 ·cases h
theorem aoA{t e:TypeId}{i:TypeInfo}{x hi mx av:AV}{lo:Option AV}{v vh vm:Value}{vl:Option Value}(ht:P.underlying t=δ (.slice e))(hi':P.info? e=δ i)
  (h:A.slice3 x lo hi mx=δ av) (r:ay c x v) (rl:tO c lo vl) (rh:ay c hi vh) (rm:ay c mx vm):∃k,(Zk t v vl (δ vh) (δ vm)).run P w=.ok k w/\ay c av k:=by
 have hsz:(sizeOf e).run P w=.ok i.size w:=by simp [sizeOf,zc w hi']
 unfold A.slice3 at h;obtain⟨n,h0,h⟩:=ct.1 h
 have hv:∃a len cap,v=.slice a len cap/\len<=cap/\n=.int ξ (len:Nat):=by
  cases x<;>simp only[UY]at h0<;>first|(cases h0;done)|skip
  all_goals injection h0 with h0;subst h0;simp only[ay]at r
  case sl=>obtain⟨a,cap,rfl,hc,_⟩:=r;exact⟨a,_,cap,rfl,hc,rfl⟩
  case aA=>subst r;exact⟨μ,0,0,rfl,bN _,rfl⟩
  case ez=>obtain⟨a,rfl⟩:=r;exact⟨a,0,0,rfl,bN _,rfl⟩
  case os=>obtain⟨_,p,_,_,a,cap,rfl,hc,_⟩:=r;exact⟨δ a,_,cap,rfl,hc,rfl⟩
 obtain⟨a,len,cap,rfl,hc,rfl⟩:=hv;simp only[TS]at h;obtain⟨m,h1,h⟩:=ct.1 h;obtain⟨h',h2,h⟩:=ct.1 h;obtain⟨l,h3,rfl⟩:=fF.1 h;rcases Jr (P:=P) (code:=.slice3Acap) w (aqg (d':=0) h1 hc) (show tO c (δ mx) (δ vm)from rm)with⟨k,_⟩|⟨_,u,_,q1,e1,_⟩
 ·cases k
 injection q1 with q1;subst q1
 rcases Jr (P:=P) (code:=.slice3B) w h2 (show tO c (δ hi) (δ vh)from rh)with⟨k,_⟩|⟨_,u,_,q2,e2,hle⟩
 ·cases k
 injection q2 with q2;subst q2
 rcases Jr (P:=P) (code:=.slice3C) w h3 rl with⟨rfl,rfl,rfl⟩|⟨y,q,rfl,rfl,e3,e4⟩
 ·refine⟨_,by simp [Zk,run_underlying ht,UZ,e1,e2,hsz];rfl,?_⟩;by_cases hm:m=0
  ·subst hm;have:h'=0:=by omega
   subst this;simp [ay]
  ·rw[aO hm];simp [ay]
 ·refine⟨_,by simp [Zk,run_underlying ht,UZ,e1,e2,e3,hsz];rfl,?_⟩;by_cases hm:m=0
  ·subst hm;have:h'=0:=by omega
   subst this;have:l=0:=by omega
   subst this;simp [ay]
  ·rw[aO hm];simp [ay]
theorem aoC{t:TypeId}{x av:AV}{lo hi:Option AV}{v:Value}{vl vh:Option Value}(ht:P.underlying t=δ .string)
  (h:A.XR x lo hi=δ av) (r:ay c x v) (rl:tO c lo vl) (rh:tO c hi vh):∃k,(Zk t v vl vh μ).run P w=.ok k w/\ay c av k:=by
 cases x<;>simp only[A.XR]at h<;>first|(cases h;done)|skip
 rename_i s;obtain⟨h',h1,h2⟩:=ct.1 h;obtain⟨l,h3,h4⟩:=fF.1 h2;simp only[ay]at r;subst r;subst h4;obtain⟨e,_,_⟩:=LK (P:=P) (Ic:=ι) w (bN _) (bN _) h1 h3 rh rl;exact⟨.string (s.extract l h'),by simp [Zk,run_underlying ht,e],by simp [ay]⟩
theorem room_le{σ:Heap}(hh:kL c σ){id g sz off len cap:Nat}{p:Pl}(h1:c.E[id]? =δ p)(hc:len<=cap)(hsz:0<sz)(r:g=p.g->p.sz=sz/\p.base+(off+cap)*p.sz=p.vM):aDD σ id g sz off len<=cap:=by
 unfold aDD;split
 ·rename_i g' sz' es hs;split
  ·rename_i sO;obtain⟨rfl,rfl,hle⟩:=sO;obtain⟨j1,j2,j3,j4,j5,j7,j8,j9⟩:=hh.blk id p _ h1 hs;obtain⟨k1,k3⟩:=r j1.symm;rw[k1]at k3;have:es.length*sz<=(off+cap)*sz:=by omega
   have:=Yv this j4;omega
  ·exact hc
 ·exact hc
theorem aoB{t e:TypeId}{i:TypeInfo}{x av:AV}{lo hi:Option AV}{v:Value}{vl vh:Option Value}{σ:Heap}(hh0:kL c σ)(ht:P.underlying t=δ (.slice e))(hi':P.info? e=δ i)
  (h:Wf i.size x lo hi σ=δ av) (r:ay c x v) (rl:tO c lo vl) (rh:tO c hi vh):∃k,(Zk t v vl vh μ).run P w=.ok k w/\ay c av k:=by
 have hsz:(sizeOf e).run P w=.ok i.size w:=by simp [sizeOf,zc w hi']
 cases x<;>simp only[Wf]at h<;>first|(cases h;done)|skip
 case sl sz es=>
  split at h
  ·rename_i hs;subst hs;obtain⟨h',h1,h2⟩:=ct.1 h;obtain⟨l,h3,h4⟩:=fF.1 h2;subst h4;simp only[ay]at r;obtain⟨a,cap,rfl,hcap,hp,r⟩:=r;obtain⟨e1,hl,hh⟩:=LK (P:=P) (Ic:=θ) w hcap hcap h1 h3 rh rl;refine⟨.slice (if cap=l then a else a.map (·.add (l*i.size))) (h'-l) (cap-l),by simp [Zk,run_underlying ht,e1,hsz],?_⟩;simp only[ay];have hlen:((es.take h').drop l).length=h'-l:=by simp;omega
   refine⟨_,_,by rw[hlen],by rw[hlen];omega,hp,?_⟩;by_cases hz:h'=l
   ·left;apply aC0;simp;omega
   ·right;rcases r with r|⟨b,off,rfl,hb,hX,r⟩
    ·subst r;simp at hh;omega
    ·refine⟨b,off+l*i.size,?_,hb,hX,(r.take h').drop l⟩;rw[aO (by omega)];simp [th]
  ·cases h
 case aA=>
  obtain⟨h',h1,h2⟩:=ct.1 h;obtain⟨l,h3,h4⟩:=fF.1 h2;subst h4;simp only[ay]at r;subst r;obtain⟨e1,hl,hh⟩:=LK (P:=P) (Ic:=θ) w (bN 0) (bN 0) h1 h3 rh rl;refine⟨.slice μ 0 0,?_,by simp [ay]⟩;have:h'=0:=by omega
  have:l=0:=by omega
  subst_vars;simp [Zk,run_underlying ht,e1,hsz]
 case ez=>
  obtain⟨h',h1,h2⟩:=ct.1 h;obtain⟨l,h3,h4⟩:=fF.1 h2;subst h4;simp only[ay]at r;obtain⟨q,rfl⟩:=r;obtain⟨e1,hl,hh⟩:=LK (P:=P) (Ic:=θ) w (bN 0) (bN 0) h1 h3 rh rl;refine⟨.slice q 0 0,?_,by simp [ay]⟩;have:h'=0:=by omega
  have:l=0:=by omega
  subst_vars;simp [Zk,run_underlying ht,e1,hsz]
 case os id g sz off len=>
  split at h
  ·rename_i hs;subst hs;obtain⟨h',h1,h2⟩:=ct.1 h;obtain⟨l,h3,h4⟩:=fF.1 h2;subst h4;simp only[ay]at r;obtain⟨hg,p,hp1,hp2,a,cap,rfl,hcap,r⟩:=r
   obtain⟨e1,hl,hh⟩:=LK (P:=P) (Ic:=θ) w hcap (by
    by_cases hz:i.size=0
    ·have:aDD σ id g i.size off len=len:=by
      unfold aDD;split
      ·rename_i g' sz' es hs;split
       ·rename_i sO;obtain⟨rfl,rfl,hle⟩:=sO;obtain⟨_,_,_,j4,_⟩:=hh0.blk id p _ hp1 hs;omega
       ·rfl
      ·rfl
     rw[this];exact hcap
    ·exact room_le hh0 hp1 hcap (by omega) (λk=>⟨(r k).1,(r k).2.2⟩)) h1 h3 rh rl
   have hle:h'<=cap:=by
    rcases hh with hh|hh
    ·refine UT hh ?_;by_cases hz:i.size=0
     ·have:aDD σ id g i.size off len=len:=by
       unfold aDD;split
       ·rename_i g' sz' es hs;split
        ·rename_i sO;obtain⟨rfl,rfl,hle⟩:=sO;obtain⟨_,_,_,j4,_⟩:=hh0.blk id p _ hp1 hs;omega
        ·rfl
       ·rfl
      rw[this];exact hcap
     ·exact room_le hh0 hp1 hcap (by omega) (λk=>⟨(r k).1,(r k).2.2⟩)
    ·omega
   refine⟨.slice (if cap=l then δ a else(δ a).map (·.add (l*i.size))) (h'-l) (cap-l),by simp [Zk,run_underlying ht,e1,hsz],?_⟩;simp only[ay];refine⟨hg,p,hp1,hp2,(if cap=l then a else a.add (l*i.size)),cap-l,by by_cases e:cap=l<;>simp [e],by omega,λhgp=>?_⟩;obtain⟨k1,k2,k3⟩:=r hgp;refine⟨k1,?_,?_⟩
   ·by_cases e:cap=l
    ·left;omega
    ·right;rw[aO e];rcases k2 with k2|k2
     ·omega
     ·rw[k2,th,k1,iG];congr 1;omega
   ·rw[show off+l+(cap-l)=off+cap by omega];exact k3
  ·cases h
end
end
section
open Go.RowKit
def iY(arr:Array Value)(off:Nat)(l:List Value):Array Value:=(arr.toList.take off++l++arr.toList.drop (off+l.length)).toArray
theorem afS(arr:Array Value)(off:Nat):iY arr off []=arr:=by simp [iY]
theorem aeX(arr:Array Value)(off:Nat)(x:Value)(l:List Value)(h:off+(l.length+1)<=arr.size):iY arr off (x::l)=iY (arr.setIfInBounds off x) (off+1) l:=by
 unfold iY;congr 1;have hlt:off<arr.toList.length:=by simp;omega
 simp only[Array.toList_setIfInBounds,YZ];rw[List.take_succ_eq_append_getElem (by simpa using hlt),List.getElem_set_self,List.take_set_of_le (bN _),List.drop_set_of_lt (by omega)];simp [lT,Nat.add_comm 1 l.length]
theorem aBs(arr:Array Value)(off:Nat)(l:List Value)(h:off+l.length<=arr.size):(iY arr off l).size=arr.size:=by simp [iY];omega
theorem aen(off:Nat):∀(l:List Value)(k:Nat)(arr:Array Value),off+k+l.length<=arr.size->(l.zipIdx k).foldl (λcs(p:Value×Nat)=>cs.setIfInBounds (off+p.2) p.1) arr=iY arr (off+k) l
 |[],k,arr,h=>by simp [afS]
 |x::l,k,arr,h=>by simp only[List.zipIdx_cons,V4];rw[aen off l (k+1) _ (by simp at h ⊢;omega),aeX _ _ _ _ (by simpa using h)];rfl
theorem Mp{w:World}{b:Nat}{o:Obj}(h:w.heap[b]? =δ o):w.fO b o=w:=by
 unfold World.fO;have hb:=(mP.1 h)
 obtain⟨hb,e⟩:=hb
 have:w.heap.setIfInBounds b o=w.heap:=by
  apply Array.ext_getElem?;intro i;rw[YS];by_cases hi:b=i
  ·subst hi;rw[aP rfl,aP hb,h]
  ·rw[aO hi]
 rw[this]
theorem apZ(w:World)(b:Nat)(o o':Obj):(w.fO b o).fO b o'=w.fO b o':=by unfold World.fO;simp
theorem ami{w:World}{b off:Nat}{arr:Array Value}{t:TypeId}{fz:Nat×Nat}(h:w.heap[b]? =δ (.cells arr t fz))(v:Value):
  w.setCell ⟨b,off,μ⟩ v=w.fO b (.cells (arr.setIfInBounds off v) t fz):=by
 unfold World.setCell World.fO;obtain⟨hb,e⟩:=mP.1 h;congr 1;apply Array.ext_getElem?;intro i;rw[Array.getElem?_modify,YS];by_cases hi:b=i
 ·subst hi;simp [h,hb,e]
 ·simp [hi]
section
variable {P : Program} {c : RC}
theorem ap5{v:Value}(h:fS v=θ)(w:World)(a:Addr):(store a v).run P w=stored P w a v .plain:=by cases v<;>first|exact run_store P w a _ .plain rfl|(simp [fS]at h)
theorem IW{b off:Nat}{t:TypeId}:∀(vs:List Value)(i:Nat)(w:World)(arr:Array Value),w.heap[b]? =δ (.cells arr t (0,0))->off+i+vs.length<=arr.size->(∀x∈vs,fS x=θ)->
  (storeCells ⟨b,off,μ⟩ vs i).run P w=.ok () (w.fO b (.cells (iY arr (off+i) vs) t (0,0)))
 |[],i,w,arr,h,hl,ho=>by simp [storeCells,afS,Mp h]
 |v::vs,i,w,arr,h,hl,ho=>by
  have hc:w.cell? ⟨b,off+i,μ⟩=δ (arr[off+i]'(by simp at hl;omega)):=by
   rw[BE h,wB]
  have hf:w.frozen? ⟨b,off+i,μ⟩=ι:=by simp [World.frozen?,h]
  have hs:(store ((⟨b,off,μ⟩:Addr).add i) v).run P w=.ok () (w.fO b (.cells (arr.setIfInBounds (off+i) v) t (0,0))):=by rw[th,ap5 (ho v (by simp)),stored];simp [hc,hf,ami h]
  have hb:b<w.heap.size:=(mP.1 h).1;have ih:=IW (off:=off) vs (i+1) (w.fO b (.cells (arr.setIfInBounds (off+i) v) t (0,0))) (arr.setIfInBounds (off+i) v) (xh _ hb) (by simp at hl ⊢;omega) (λx hx=>ho x (by simp [hx]));simp only[storeCells,Ts,hs,UM,ih,apZ];rw[aeX _ _ _ _ (by simpa using hl)];rfl
theorem aX.iY{cs new cs':List AV}{arr:Array Value}{vs:List Value}{off:Nat}(h:ir off new cs=δ cs')(r:aX c cs arr.toList)(q:aX c new vs):aX c cs' (Proofs.YtooknfkholjpbaaGreat.iY arr off vs).toList/\off+vs.length<=arr.size:=by
 unfold ir at h;split at h
 ·injection h with h
  subst h;have l1:=r.length;have l2:=q.length;simp at l1;refine⟨?_,by omega⟩;simp only[Proofs.YtooknfkholjpbaaGreat.iY,aDi];rw[<-l2];exact((r.take off).append q).append (r.drop _)
 ·cases h
theorem JQ{arr:Array Value}{vs:List Value}{off:Nat}(h:∀x∈arr.toList,fS x=θ)(k:∀x∈vs,fS x=θ):∀x∈(iY arr off vs).toList,fS x=θ:=by
 intro x hx;simp only[iY,aDi,jQ]at hx;rcases hx with(hx|hx)|hx
 ·exact h x (sA hx)
 ·exact k x hx
 ·exact h x (List.mem_of_mem_drop hx)
theorem QA(sz:Nat):∀(n:Nat)(l:List AV),(iP sz n l).length=n
 |0,_=>rfl
 |n+1,l=>by simp [iP,QA sz n]
theorem aAe{sz b:Nat}:∀(n off:Nat)(l:List AV),l.length=n*sz->bY c b off l->cA c sz b off (iP sz n l)
 |0,off,l,_,_=>by simp [iP,cA]
 |n+1,off,l,hl,r=>by simp only[iP,cA];rw[iG]at hl;refine⟨by simp;omega,r.take sz,aAe n (off+sz) _ (by simp;omega) (r.drop sz)⟩
theorem range_zero(z:List Value)(hz:0<z.length):∀n,((List.range (n*z.length)).map λi=>(z.toArray)[i % z.toArray.size]!)=(Z3 n z).flatten
 |0=>by simp
 |n+1=>by
  rw[iG,Nat.one_mul,List.range_add,Z6,range_zero z hz n,List.replicate_succ',aDj];congr 1;simp only[YG,XS,List.flatten_nil,VT];apply List.ext_getElem
  ·simp
  ·intro i h1 h2;simp at h1;simp only[List.getElem_map,List.getElem_range,Function.comp,Zs];rw[Nat.add_comm,Nat.add_mul_mod_self_right,Nat.mod_eq_of_lt h1];simp [h1]
theorem aX.flatten{zs:List AV}{vs:List Value}(h:aX c zs vs):∀n,aX c (Z3 n zs).flatten (Z3 n vs).flatten
 |0=>by simp [aX]
 |n+1=>by simp only[List.replicate_succ,XS];exact h.append (aX.flatten h n)
end
section
variable {X : Fx} {z : Z} {s : AS} {a : Act} {w w' : World} {E : List Pl} {pb : Nat -> Option Nat}
theorem Jv(h:St X z s a w E pb){tag:Option (Nat×Bool)}(ht:vA a tag){x:Operand}{b off:Nat}{cs:List AV}(hp:place X s tag x=δ (b,off))(hb:Tv (s.sl.getD b .undef)=δ cs):
  ∃k,pb b=δ k/\a.eval x=.pointer (δ ⟨k,off,μ⟩)/\Df (ctx z w E pb) k cs/\s.sl[b]? =δ (.lbx cs):=by
 have mV:s.sl[b]? =δ (.lbx cs):=by
  by_cases hlt:b<s.sl.length
  ·have e:s.sl.getD b .undef=s.sl[b]:=by simp [U1,hlt]
   rw[e]at hb;rw[cC hlt];generalize s.sl[b]=y at *
   cases y<;>simp only[Tv]at hb<;>first|(cases hb;done)|(injection hb with hb;subst hb;rfl)
  ·have e:s.sl.getD b .undef=.undef:=by simp [U1,Nat.le_of_not_lt hlt]
   rw[e]at hb;cases hb
 obtain⟨k,k1,k2,k3⟩:=h.slot b _ mV;refine⟨k,k1,?_,k3,mV⟩;cases x with
 |tmp t=>
  simp only[place]at hp;cases hL:X.L.contains t
  ·rw[hL]at hp;simp only[bQ]at hp;cases hA:s.A t with
   |none=>rw[hA]at hp;cases hp
   |some p=>
    rw[hA]at hp;simp only at hp;cases hLs:X.L.contains p.slot
    ·rw[hLs]at hp;cases hp
    rw[hLs]at hp;simp only[cU]at hp
    have key:p.slot=b/\p.off=off/\vA a p.tag:=by
     cases Fp:p.tag with
     |none=>rw[Fp]at hp;simp only[Θ,T4]at hp;exact⟨hp.1,hp.2,trivial⟩
     |some g=>
      rw[Fp]at hp;simp only at hp;cases hg:(tag==δ g)
      ·rw[hg]at hp;cases hp
      ·rw[hg]at hp;simp only[cU,Θ,T4]at hp;have:tag=δ g:=by simpa using hg
       exact⟨hp.1,hp.2,this▸ht⟩
    obtain⟨e1,e2,e3⟩:=key;obtain⟨k',j1,j2⟩:=h.qB t p hA e3;rw[e1,k1]at j1;injection j1 with j1;subst j1
    rw[e2]at j2;exact j2
  ·rw[hL]at hp;simp only[cU,Θ,T4]at hp;obtain⟨rfl,rfl⟩:=hp;exact k2
 |_=>simp [place]at hp
theorem ac3{c:RC}{σ:Heap}(hh:kL c σ){x:AV}{cs:List AV}{v:Value}(h:χ x σ=δ cs)(r:ay c x v):∃b off,v=.pointer (δ ⟨b,off,μ⟩)/\bY c b off cs:=by
 cases x<;>simp only[χ]at h<;>first|(cases h;done)|skip
 case rp l=>
  injection h with h;subst h
  simp only[ay]at r;obtain⟨b,off,e,_,_,r⟩:=r;exact⟨b,off,e,r⟩
 case op id off=>
  simp only[ay]at r;obtain⟨p,h1,h2,e⟩:=r;split at h
  ·rename_i cs0 hs;injection h with h;subst h
   obtain⟨_,h3⟩:=hh.blk id p _ h1 hs;exact⟨_,_,e,by simpa using h3.2.drop off⟩
  ·cases h
 case oe id g i off=>
  simp only[ay]at r;obtain⟨hg,p,h1,h2,q,e,r⟩:=r;split at h
  ·rename_i g' sz es hs;split at h
   ·rename_i hgg;obtain⟨el,h3,h4⟩:=fF.1 h;subst h4;obtain⟨k1,k2,k3,k4,k5,k6,k7,_⟩:=hh.blk id p _ h1 hs;have hq:=r (by rw[hgg,k1]);subst hq;refine⟨_,_,e,?_⟩;rw[k3];exact(cA.nth k7 h3).2.drop off
   ·cases h
  ·cases h
theorem Re{c:RC}{ρ:Operand->Value}(jx:∀x,ay c (ev X s x) (ρ x)){pl:Nat->Option (Nat×TypeId)}{place:Nat->Option (Nat×Nat)}(hp:∀i off t,pl i=δ (off,t)->place i=δ (off,X.P.cellsOf t)):
  ∀(ps:List (Nat×Operand))(cs cs':List AV)(arr:Array Value),tG X s pl ps cs=δ cs'->aX c cs arr.toList->(∀x∈arr.toList,fS x=θ)->
   ∃zQ,Instr.fill place arr (ps.map λp=>(p.1,ρ p.2))=δ zQ/\aX c cs' zQ.toList/\∀x∈zQ.toList,fS x=θ
 |[],cs,cs',arr,h,r,o=>by
  simp only[tG]at h;injection h with h;subst h
  exact⟨arr,by simp [Instr.fill],r,o⟩
 |(i,x)::ps,cs,cs',arr,h,r,o=>by
  simp only[tG]at h;cases hpl:pl i with
  |none=>rw[hpl]at h;cases h
  |some ot=>
   obtain⟨off,t⟩:=ot;rw[hpl]at h;simp only at h;obtain⟨new,h1,h2⟩:=ct.1 h;obtain⟨c2,h3,h4⟩:=ct.1 h2;obtain⟨r1,r2,r3,_⟩:=Jk X h1 (jx x);obtain⟨r4,r5⟩:=r.iY h3 r1;have r5':off+(ρ x).cells.size<=arr.size:=by simpa using r5
   obtain⟨zQ,k1,k2,k3⟩:=Re jx hp ps c2 cs' (iY arr off (ρ x).cells.toList) h4 r4 (JQ o r2);refine⟨zQ,?_,k2,k3⟩;simp only[eP,Instr.fill,hp i off t hpl];have hz:((ρ x).cells.size≠X.P.cellsOf t||decide (off+(ρ x).cells.size>arr.size))=ι:=by simp [r3];omega
   have hf:(ρ x).cells.zipIdx.foldl (λcs(p:Value×Nat)=>cs.setIfInBounds (off+p.2) p.1) arr=iY arr off (ρ x).cells.toList:=by have:=aen off (ρ x).cells.toList 0 arr (by simpa using r5');rw[<-Array.foldl_toList];simpa using this
   simp only[hz];rw[<-k1,<-hf];rfl
end
end
section
open Go.RowKit
section
variable {c : RC} (w : World)
theorem amx{P:Program}(fs:List Field)(body:Field->PUnit->Sem (ForInStep PUnit))(h:∀f∈fs,(body f ⟨⟩).run P w=.ok (.yield ⟨⟩) w):(forIn fs PUnit.unit body:Sem PUnit).run P w=.ok ⟨⟩ w:=by
 induction fs with
 |nil=>simp
 |cons f fs ih=>simp only[List.forIn_cons,Ts,h f (by simp),UM];exact ih λg hg=>h g (by simp [hg])
theorem aee {P : Program} {d : Nat} : ∀ (fs : List Field) (off tot : Nat), Cm (nR P d) P.cellsOf fs off = δ tot -> ∀ f ∈ fs, f.name ≠ "_" /\ nR P d f.type = θ /\ f.offset + P.cellsOf f.type <= tot
 |[],off,tot,h,f,hf=>by simp at hf
 |g::fs,off,tot,h,f,hf=>by
  simp only[Cm]at h;cases hc : (g.name != "_" && g.offset == off && nR P d g.type)
  ·rw[hc]at h;cases h
  ·rw[hc]at h;simp only[cU]at h;simp only[jW,bne_iff_ne,beq_iff_eq]at hc;obtain⟨⟨hn,ho⟩,hk⟩:=hc;have hle:=Rc (λt=>Jt d t) fs _ _ h;rcases jP.1 hf with rfl|hf
   ·exact⟨hn,hk,by omega⟩
   ·exact aee fs _ _ h f hf
theorem abc{P:Program}{em:Bool}:∀(d D:Nat)(hD:d<=D)(t:TypeId)(vs:List Value),nR P d t=θ->vs.length=P.cellsOf t->(Xn em D t (rz P t vs)).run P w=.ok () w
 |0,_,_,t,vs,h,_=>by simp [nR]at h
 |d+1,0,hD,_,_,_,_=>by omega
 |d+1,D+1,hD,t,vs,h,l=>by
  unfold nR at h;cases hd:P.underlying t with
  |none=>rw[hd]at h;cases h
  |some de=>
   rw[hd]at h;cases de<;>simp only at h<;>first|(cases h;done)|skip
   case bool=>unfold Xn;simp [run_underlying hd,rz,hd]
   case int=>unfold Xn;simp [run_underlying hd,rz,hd]
   case string=>unfold Xn;simp [run_underlying hd,rz,hd]
   case struct fs=>
    simp only[jW,UK,beq_iff_eq]at h;have hm:=aee fs.toList 0 _ h.2;unfold Xn;simp only[Ts,run_underlying hd,rz,hd,UM];rw[<-Array.forIn_toList,amx w]
    ·first|done|simp
    ·intro f hf;obtain⟨hn,hk,hle⟩:=hm f hf
     obtain⟨d',rfl⟩:∃d',d=d'+1:=by
      cases d with
      |zero=>simp [nR]at hk
      |succ d'=>exact⟨d',rfl⟩
     have r1:=aCt w hk (vs:=vs.toArray) (off:=f.offset) (by simp;omega);have e1:=abc (em:=em) (d'+1) D (by omega) f.type _ hk (show((vs.toArray.toList.drop f.offset).take (P.cellsOf f.type)).length=_ by simp;omega);simp [hn,r1,e1]
theorem Qo(X:Fx){kt:TypeId}{ek:A.EK}(ht:qh X kt=δ ek){k:AV}{key:Value}(hk:A.lS ek k=θ)(r:ay c k key)(em:Bool):(Xn em 10000 kt key).run X.P w=.ok () w:=by
 unfold qh at ht;cases hd:X.P.underlying kt with
 |none=>rw[hd]at ht;cases ht
 |some de=>
  rw[hd]at ht;cases de<;>simp only at ht<;>first|(cases ht;done)|skip
  case bool=>show(Xn em (9999+1) kt key).run X.P w=_;unfold Xn;simp [run_underlying hd]
  case int=>show(Xn em (9999+1) kt key).run X.P w=_;unfold Xn;simp [run_underlying hd]
  case string=>show(Xn em (9999+1) kt key).run X.P w=_;unfold Xn;simp [run_underlying hd]
  case pointer el=>
   cases hc:(X.P.cellsOf el !=0)
   ·rw[hc]at ht;cases ht
   ·rw[hc]at ht;injection ht with ht;subst ht;cases k<;>simp [A.lS]at hk
  case struct fs=>
   cases hc:(nR X.P 9 kt&&!X.P.eqGuardType X.P.depth kt)
   ·rw[hc]at ht;cases ht
   ·rw[hc]at ht;injection ht with ht;subst ht
    simp only[jW,UK]at hc;cases k<;>simp only[A.lS]at hk<;>first|(cases hk;done)|skip
    rename_i xs;simp only[ay]at r;obtain⟨vs,rfl,r1,_⟩:=r;have hl:vs.toList.length=X.P.cellsOf kt:=by rw[<-r1.length,beq_iff_eq.1 hk,Jt 9 kt hc.1]
    have:=abc w (em:=em) 9 10000 (by decide) kt vs.toList hc.1 hl;simpa [rz,hd]using this
def WY(c:RC)(es:List MapEntry):Option AV->Option (Nat×Value)->Prop
 |none,μ=>True
 |some av,δ (i,v)=>ay c av v/\∃e,es[i]? =δ e/\e.val=v
 |_,_=>False
theorem abG(X:Fx){kt:TypeId}{ek:A.EK}(ht:qh X kt=δ ek){k:AV}{key:Value}(rk:ay c k key):∀(bP:List (AV×AV))(es lY:List MapEntry)(i:Nat)(r:Option AV),Wh ek k bP=δ r->eB c bP es->(∀j,es[j]? =lY[i+j]?)->
  ∃res,(Z1 kt key es i).run X.P w=.ok res w/\WY c lY r res/\A.xw ek k bP i=δ (res.map (·.1))
 |[],es,lY,i,r,h,re,he=>by
  simp only[Wh]at h;injection h with h;subst h
  simp only[eB]at re;subst re;exact⟨μ,by simp [Z1],trivial,rfl⟩
 |(k',v')::bP,es,lY,i,r,h,re,he=>by
  simp only[Wh]at h;obtain⟨b,h1,h2⟩:=ct.1 h;obtain⟨e,es',rfl,r1,r2,r3⟩:=re;have hq:=(Xg w X ht h1 rk r1).1;cases b
  ·simp only[bQ]at h2;obtain⟨res,k1,k2⟩:=abG X ht rk bP es' lY (i+1) r h2 r3 (λj=>by have:=he (j+1);simp at this;rw[show i+1+j=i+(j+1) by omega];exact this);exact⟨res,by simp [Z1,hq,k1],k2.1,by simp [A.xw,h1,k2.2]⟩
  ·simp only[cU]at h2;injection h2 with h2;subst h2
   have h0:=he 0;simp at h0;exact⟨δ (i,e.val),by simp [Z1,hq],⟨r2,e,h0.symm,rfl⟩,by simp [A.xw,h1]⟩
theorem ael(X:Fx){kt:TypeId}{ek:A.EK}{d:TypeDesc}(hd:X.P.underlying kt=δ d)(ht:qh X kt=δ ek)(KR:∀fs,d≠.struct fs)(hnp:∀e,d≠.pointer e){k:AV}{key:Value}(rk:ay c k key):
  ∀(bP:List (AV×AV))(es lY:List MapEntry)(i:Nat)(r:Option AV),Wh ek k bP=δ r->eB c bP es->(∀j,es[j]? =lY[i+j]?)->
  ∃res,Zx d key es i=δ res/\WY c lY r res/\A.xw ek k bP i=δ (res.map (·.1))
 |[],es,lY,i,r,h,re,he=>by
  simp only[Wh]at h;injection h with h;subst h
  simp only[eB]at re;subst re;exact⟨μ,by simp [Zx],trivial,rfl⟩
 |(k',v')::bP,es,lY,i,r,h,re,he=>by
  simp only[Wh]at h;obtain⟨b,h1,h2⟩:=ct.1 h;obtain⟨e,es',rfl,r1,r2,r3⟩:=re
  have hsame:Xq d key e.key=δ b:=by
   unfold qh at ht;rw[hd]at ht;cases d<;>simp only at ht<;>first|(cases ht;done)|exact absurd rfl (KR _)|exact absurd rfl (hnp _)|skip
   case bool=>
    injection ht with ht;subst ht
    simp only[WN,A.Ai]at h1;split at h1
    ·simp only[ay]at rk r1;injection h1 with h1;rw[rk,r1];simp [Xq,h1]
    ·cases h1
   case int=>
    injection ht with ht;subst ht
    simp only[WN,A.qH]at h1;split at h1
    ·split at h1
     ·simp only[ay]at rk r1;injection h1 with h1;rw[rk,r1];simp [Xq,h1];assumption
     ·cases h1
    ·cases h1
   case string=>
    injection ht with ht;subst ht
    simp only[WN,A.tV]at h1;split at h1
    ·simp only[ay]at rk r1;injection h1 with h1;rw[rk,r1];simp [Xq,h1]
    ·cases h1
  cases b
  ·simp only[bQ]at h2;obtain⟨res,k1,k2⟩:=ael X hd ht KR hnp rk bP es' lY (i+1) r h2 r3 (λj=>by have:=he (j+1);simp at this;rw[show i+1+j=i+(j+1) by omega];exact this);exact⟨res,by simp [Zx,hsame,k1],k2.1,by simp [A.xw,h1,k2.2]⟩
  ·simp only[cU]at h2;injection h2 with h2;subst h2
   have h0:=he 0;simp at h0;exact⟨δ (i,e.val),by simp [Zx,hsame],⟨r2,e,h0.symm,rfl⟩,by simp [A.xw,h1]⟩
theorem WI(X:Fx){kt:TypeId}{ek:A.EK}(ht:qh X kt=δ ek){k:AV}{key:Value}(hk:A.lS ek k=θ)(rk:ay c k key){bP:List (AV×AV)}{es:List MapEntry}{r:Option AV}(h:Wh ek k bP=δ r)(re:eB c bP es):
  ∃res,(aDq kt key es).run X.P w=.ok res w/\WY c es r res/\A.xw ek k bP 0=δ (res.map (·.1)):=by
 cases hd:X.P.underlying kt with
 |none=>unfold qh at ht;rw[hd]at ht;cases ht
 |some d=>
  by_cases hs:∃fs,d=.struct fs
  ·obtain⟨fs,rfl⟩:=hs;cases es with
   |nil=>
    cases bP with
    |nil=>simp only[Wh]at h;injection h with h;subst h;exact⟨μ,by simp [aDq,run_underlying hd,Zx],trivial,rfl⟩
    |cons p bP=>obtain⟨k',v'⟩:=p;simp [eB]at re
   |cons e es'=>
    obtain⟨res,k1,k2⟩:=abG w X ht rk bP (e::es') (e::es') 0 r h re (λj=>by simp);refine⟨res,?_,k2⟩;have:Zx (.struct fs) key (e::es') 0=μ:=by simp [Zx,Xq]
    simp [aDq,run_underlying hd,this,k1]
  ·have hp:∀e,d≠.pointer e:=by
    rintro e rfl;unfold qh at ht;rw[hd]at ht;simp only at ht;cases hc:(X.P.cellsOf e !=0)
    ·rw[hc]at ht;cases ht
    ·rw[hc]at ht;injection ht with ht;subst ht;cases k<;>simp [A.lS]at hk
   obtain⟨res,k1,k2⟩:=ael X hd ht (λfs e=>hs ⟨fs,e⟩) hp rk bP es es 0 r h re (λj=>by simp);exact⟨res,by simp [aDq,run_underlying hd,k1],k2⟩
theorem eB.length{c:RC}:∀{l:List (AV×AV)}{es:List MapEntry},eB c l es->l.length=es.length
 |[],es,h=>by simp only[eB]at h;subst h;rfl
 |(k,v)::l,es,h=>by obtain⟨e,es',rfl,_,_,h⟩:=h;simp [eB.length h]
theorem are{c:RC}{l L:List MapEntry}(hp:l.Perm L):∀{es:List (AV×AV)},eB c es l->∃lY,eB c lY L/\lY.Perm es:=by
 induction hp with
 |nil=>intro es h;exact⟨es,h,List.Perm.refl _⟩
 |cons x _ ih=>
  intro es h;cases es with
  |nil=>simp [eB]at h
  |cons p es=>
   obtain⟨e,es',h1,h2,h3,h4⟩:=h;injection h1 with h1 h5
   subst h1 h5;obtain⟨lY,k1,k2⟩:=ih h4;exact⟨p::lY,⟨_,_,rfl,h2,h3,k1⟩,k2.cons p⟩
 |swap x y l=>
  intro es h
  match es,h with
  |[],h=>simp [eB]at h
  |[p],h=>obtain⟨e,es',h1,h2,h3,h4⟩:=h;simp only[eB]at h4;subst h4;cases h1
  |p::q::es,h=>
   obtain⟨e,es',h1,h2,h3,h4⟩:=h;obtain⟨e',azE,h5,h6,h7,h8⟩:=h4;subst h5;injection h1 with h1 h9
   injection h9 with h9 D7
   subst h1 h9 D7;exact⟨q::p::es,⟨_,_,rfl,h6,h7,_,_,rfl,h2,h3,h8⟩,List.Perm.swap _ _ _⟩
 |trans _ _ ih1 ih2=>intro es h;obtain⟨Aj,k1,k2⟩:=ih1 h;obtain⟨vO,k3,k4⟩:=ih2 k1;exact⟨vO,k3,k4.trans k2⟩
theorem ac9{e:A.EK}{k v:AV}:∀{es:List (AV×AV)},Wh e k es=δ (δ v)->∃p∈es,p.2=v/\WN e k p.1=δ θ
 |[],h=>by simp [Wh]at h
 |(k',v')::r,h=>by
  simp only[Wh]at h;obtain⟨b,h1,h2⟩:=ct.1 h;cases b
  ·obtain⟨p,q1,q2,q3⟩:=ac9 h2;exact⟨p,tN _ q1,q2,q3⟩
  ·injection h2 with h2;injection h2 with h2
   exact⟨(k',v'),YJ,h2,h1⟩
theorem ac8{e:A.EK}{k:AV}:∀{es:List (AV×AV)},Wh e k es=δ μ->∀p∈es,WN e k p.1=δ ι
 |[],h=>by simp
 |(k',v')::r,h=>by
  simp only[Wh]at h;obtain⟨b,h1,h2⟩:=ct.1 h;cases b
  ·intro p hp;rcases jP.1 hp with rfl|hp
   ·exact h1
   ·exact ac8 h2 p hp
  ·injection h2 with h2;cases h2
theorem abe{e:A.EK}{k:AV}:∀{es:List (AV×AV)},(∀p∈es,WN e k p.1=δ ι)->Wh e k es=δ μ
 |[],_=>rfl
 |(k',v')::r,h=>by simp only[Wh,h (k',v') YJ,aJ,bQ];exact abe λp hp=>h p (tN _ hp)
theorem abf{e:A.EK}{k:AV}{p:AV×AV}(h1:WN e k p.1=δ θ):∀{es:List (AV×AV)},p∈es->(es.map (·.1)).Nodup->(∀q∈es,q.1≠p.1->WN e k q.1=δ ι)->Wh e k es=δ (δ p.2)
 |[],hm,_,_=>by simp at hm
 |(k',v')::r,hm,hn,h=>by
  rcases jP.1 hm with rfl|hm
  ·simp only[Wh,h1,aJ,cU]
  ·simp only[eP,pN]at hn;have hne:k'≠p.1:=λq=>hn.1 (by rw[q];exact aDg hm)
   simp only[Wh,h (k',v') YJ hne,aJ,bQ];exact abf h1 hm hn.2 λq hq=>h q (tN _ hq)
theorem bqB(s t:ByteArray):(s==t)=decide (s=t):=by obtain⟨a⟩:=s;obtain⟨b⟩:=t;show(a==b)=_;rw[pM];simp
theorem asi{q:Nat}{x:AV}{n:Int}{b:Bool}(h:A.qi q x (.int ξ n)=δ b):q=0/\∃a,x=.int ξ a/\b=(a==n):=by
 match q,h with
 |0,h=>
  cases x<;>simp only[A.qi,A.qH]at h<;>first|(cases h;done)|skip
  split at h
  ·rename_i hk;injection h with h
   exact⟨rfl,_,by rw[hk],h.symm⟩
  ·cases h
 |1,h=>cases x<;>simp [A.qi,A.Ai]at h
 |2,h=>cases x<;>simp [A.qi,A.tV]at h
 |q+3,h=>simp [A.qi]at h
theorem asj{q:Nat}{x:AV}{n:ByteArray}{b:Bool}(h:A.qi q x (.str n)=δ b):q=2/\∃a,x=.str a/\b=(a==n):=by
 match q,h with
 |0,h=>cases x<;>simp [A.qi,A.qH]at h
 |1,h=>cases x<;>simp [A.qi,A.Ai]at h
 |2,h=>
  cases x<;>simp only[A.qi,A.tV]at h<;>first|(cases h;done)|skip
  injection h with h
  exact⟨rfl,_,rfl,h.symm⟩
 |q+3,h=>simp [A.qi]at h
theorem apc{e:A.EK}{k:AV}{n m:Int}{s t:ByteArray}(h:WN e k (.agg [.int ξ n,.str s])=δ θ)(hne:(Φ [.int ξ m,.str t])≠.agg [.int ξ n,.str s]):WN e k (.agg [.int ξ m,.str t])=δ ι:=by
 unfold WN at h ⊢;cases e with
 |i=>cases k<;>simp [A.qH]at h
 |b=>cases k<;>simp [A.Ai]at h
 |z=>cases k<;>simp [A.tV]at h
 |p=>cases k<;>simp [A.ZX]at h
 |s ks=>
  cases k<;>simp only[reduceCtorEq]at h ⊢;rename_i xs
  have hk:∃k1 k2 x y,ks=[k1,k2]/\xs=[x,y]:=by
   match ks,xs,h with
   |[],[],h=>simp [WS]at h
   |[],_::_,h=>simp [WS]at h
   |_::_,[],h=>simp [WS]at h
   |[_],[_],h=>simp [WS]at h
   |[_],_::_::_,h=>simp [WS]at h
   |_::_::_,[_],h=>simp [WS]at h
   |[k1,k2],[x,y],h=>exact⟨_,_,_,_,rfl,rfl⟩
   |[_,_],_::_::_::_,h=>simp [WS]at h
   |_::_::_::_,[_,_],h=>simp [WS]at h
   |_::_::_::_,_::_::_::_,h=>simp [WS]at h
  obtain⟨k1,k2,x,y,rfl,rfl⟩:=hk;simp only[WS]at h ⊢;obtain⟨b1,h1,h2⟩:=ct.1 h;obtain⟨b2,h3,h4⟩:=fF.1 h2;obtain⟨b3,h5,h6⟩:=ct.1 h3;simp only[cR,Θ,Bool.and_true]at h6;subst h6;simp only[jW]at h4;obtain⟨rfl,rfl⟩:=h4;obtain⟨rfl,a,rfl,e1⟩:=asi h1;obtain⟨rfl,z,rfl,e2⟩:=asj h5;have e1:=eq_of_beq e1.symm;rw[bqB]at e2;have e2:=of_decide_eq_true e2.symm;subst e1 e2;simp only[A.qi,A.qH,A.tV,if_true,aJ,cR,Θ,Bool.and_eq_false_iff,Bool.and_true,bqB];by_cases e1:a=m
  ·right;rw[decide_eq_false_iff_not];intro e2;exact hne (by rw[e1,e2])
  ·left;rw[beq_eq_false_iff_ne];exact e1
theorem apf{e:A.EK}{k:AV}{es lY:List (AV×AV)}{r:Option AV}(hd:J8 es)(hp:lY.Perm es)(h:Wh e k es=δ r):Wh e k lY=δ r:=by
 cases r with
 |none=>exact abe λp hm=>ac8 h p (hp.mem_iff.1 hm)
 |some v=>
  obtain⟨p,h1,rfl,h3⟩:=ac9 h;refine abf h3 (hp.mem_iff.2 h1) ((hp.map _).nodup_iff.2 hd.2) λq hq hne=>?_
  obtain⟨n,s,e1⟩:=hd.1 p h1;obtain⟨m,t,e2⟩:=hd.1 q (hp.mem_iff.1 hq);rw[e1]at h3 hne;rw[e2]at hne ⊢;exact apc h3 hne
theorem apN{c:RC}{es:List (AV×AV)}{l L:List MapEntry}(h:eB c es l)(hp:afZ es l L):∃lY,eB c lY L/\lY.length=es.length/\∀e k r,Wh e k es=δ r->Wh e k lY=δ r:=by
 rcases hp with rfl|⟨hp,hd⟩
 ·exact⟨es,h,rfl,λ_ _ _ q=>q⟩
 ·obtain⟨lY,k1,k2⟩:=are hp h;exact⟨lY,k1,k2.length_eq,λ_ _ _ q=>apf hd k2 q⟩
theorem abE{P:Program}(hw:c.w=w){σ:Heap}(hh:kL c σ){m:AV}{v:Value}{bP:List (AV×AV)}(h:US m σ=δ bP)(r:ay c m v):
  ∃(es:Array MapEntry)(nu:List (AV×AV)),eB c nu es.toList/\nu.length=bP.length/\(∀e k r,Wh e k bP=δ r->Wh e k nu=δ r)/\((v=.map μ/\es=#[])\/∃b aK,v=.map (δ b)/\(getObj b).run P w=.ok (.map es aK) w):=by
 cases m<;>simp only[US]at h<;>first|(cases h;done)|skip
 case nm=>
  injection h with h;subst h
  simp only[ay]at r;exact⟨#[],[],by simp [eB],rfl,λ_ _ _ q=>q,.inl ⟨r,rfl⟩⟩
 case fm lY=>
  injection h with h;subst h
  simp only[ay]at r;obtain⟨b,e,_,_,es,aK,k1,_,l,k2,k3⟩:=r;rw[hw]at k1;obtain⟨Aj,j1,j2,j3⟩:=apN k2 k3;exact⟨es,Aj,j1,j2,j3,.inr ⟨b,aK,e,by simp [getObj,U8,k1]⟩⟩
 case om id=>
  simp only[ay]at r;obtain⟨p,h1,h2,e⟩:=r;split at h
  ·rename_i lY hs;injection h with h;subst h
   obtain⟨_,es,aK,k1,_,k2⟩:=hh.blk id p _ h1 hs;rw[hw]at k1;exact⟨es,_,k2,rfl,λ_ _ _ q=>q,.inr ⟨p.b,aK,e,by simp [getObj,U8,k1]⟩⟩
  ·cases h
theorem aq2(X:Fx)(hw:c.w=w){σ:Heap}(hh:kL c σ){t kt et:TypeId}{inf:TypeInfo}{zv:Value}{ek:A.EK}{ok:Bool}{m k av:AV}{mv key:Value}(ht:X.P.underlying t=δ (.map kt et))(hi:X.P.info? et=δ inf)(hz:inf.zero=δ zv)(he:qh X kt=δ ek)
  (h:(bif ok then A.GM ek m k (zM zv) σ else Yt ek m k (zM zv) σ)=δ av) (rm:ay c m mv) (rk:ay c k key):∃v,(Instr.lookup t mv key ok).run X.P w=.ok v w/\ay c av v:=by
 have axL:∃bP r,A.lS ek k=θ/\US m σ=δ bP/\Wh ek k bP=δ r/\av=(bif ok then .aM [r.getD (zM zv),.bool r.isSome]else r.getD (zM zv)):=by
  cases ok<;>simp only[cU,bQ,Yt,A.GM]at h
  all_goals
   cases hk:A.lS ek k
   ·rw[hk]at h;cases h
   ·rw[hk]at h;simp only[cU]at h;obtain⟨bP,h1,h2⟩:=ct.1 h;obtain⟨r,h3,h4⟩:=fF.1 h2;exact⟨bP,r,rfl,h1,h3,h4.symm⟩
 obtain⟨bP,r,hk,h1,h2,rfl⟩:=axL;obtain⟨es,nu,k1,_,kf,k2⟩:=abE (P:=X.P) w hw hh h1 rm;obtain⟨res,k3,k4,_⟩:=WI w X he hk rk (kf _ _ _ h2) k1;have vX:(zeroValue et).run X.P w=.ok zv w:=by simp [zeroValue,zc w hi,hz]
 have Cx:=Qo w X he hk rk es.isEmpty
 have main:∀v b,(res=μ->v=zv/\b=ι)->(∀i u,res=δ (i,u)->v=u/\b=θ)->(Instr.lookup t mv key ok).run X.P w=.ok (if ok then .tuple #[v,.bool b]else v) w:=by
  intro v b hn hs;unfold Instr.lookup;simp only[Ts,run_underlying ht,UM];rcases k2 with⟨rfl,rfl⟩|⟨bb,aK,rfl,hg⟩
  ·simp only[X8,UM,Cx,Ts,k3];cases res with
   |none=>obtain⟨rfl,rfl⟩:=hn rfl;simp [vX]
   |some p=>obtain⟨i,u⟩:=p;obtain⟨rfl,rfl⟩:=hs i u rfl;simp
  ·simp only[Ts,hg,X8,UM,Cx,k3];cases res with
   |none=>obtain⟨rfl,rfl⟩:=hn rfl;simp [vX]
   |some p=>obtain⟨i,u⟩:=p;obtain⟨rfl,rfl⟩:=hs i u rfl;simp
 have fin:∀v b,ay c (r.getD (zM zv)) v->r.isSome=b->ay c (bif ok then .aM [r.getD (zM zv),.bool r.isSome]else r.getD (zM zv)) (if ok then .tuple #[v,.bool b]else v):=by
  intro v b h1 h2;cases ok
  ·simpa using h1
  ·simp only[cU,if_true,ay];refine⟨_,rfl,?_⟩;simp only[aX];exact⟨v,_,rfl,h1,_,_,rfl,by simp [ay,h2],rfl⟩
 cases res with
 |none=>
  cases r with
  |none=>exact⟨_,main zv ι (λ_=>⟨rfl,rfl⟩) (λi u e=>by cases e),fin zv ι (adu c zv) rfl⟩
  |some x=>exact k4.elim
 |some p=>
  obtain⟨i,u⟩:=p;cases r with
  |none=>exact k4.elim
  |some x=>exact⟨_,main u θ (λe=>by cases e) (λi' u' e=>by injection e with e;injection e with _ e;exact⟨e,rfl⟩),fin u θ k4.1 rfl⟩
theorem find_born{f:MapEntry->Nat}:∀{l:List MapEntry}{e:MapEntry},(l.map f).Nodup->e∈l->l.find? (λx=>f x==f e)=δ e
 |[],e,_,h=>by simp at h
 |x::l,e,hn,h=>by
  simp only[eP,pN]at hn;rcases jP.1 h with rfl|h
  ·simp
  ·have hne:f x≠f e:=λk=>hn.1 (gh.2 ⟨e,h,k.symm⟩)
   have:(f x==f e)=ι:=by simpa using hne
   rw[aDr,this];exact find_born hn.2 h
theorem apb{P:Program}(hw:c.w=w){σ:Heap}(hh:kL c σ){i av:AV}{v:Value}(hk:A.zz i σ=δ av)(ri:ay c i v):∃v',(Instr.entry v).run P w=.ok v' w/\ay c av v':=by
 subst hw;unfold A.zz at hk;split at hk
 ·rename_i id;simp only[ay]at ri;obtain⟨p,e1,e2,rfl⟩:=ri;split at hk
  ·rename_i q left hs;injection hk with hk
   subst hk;obtain⟨hg,hit⟩:=hh.blk id p _ e1 hs;rcases hit with⟨hn,_⟩|⟨m,seen,bP,aK,h3,h4,h5,h6,h7,h8,h9⟩
   ·cases hn
   ·rcases h9 with h9|⟨k',v',e,e3,e4,e5,e6,e7⟩
    ·cases h9
    ·injection e3 with e3
     subst e3;have kR:(getObj p.b).run P c.w=.ok (.mapIter (δ m) aK seen aK) c.w:=by simp [getObj,U8,show c.w.heap[p.b]? =_ from h3]
     have xy:(getObj m).run P c.w=.ok (.map bP aK) c.w:=by simp [getObj,U8,show c.w.heap[m]? =_ from h6]
     have hf:bP.find? (λx=>x.born==e.born)=δ e:=by rw[<-Array.find?_toList];exact find_born (f:=(·.born)) h7.2 e5
     refine⟨.tuple #[e.key,e.val],by simp [Instr.entry,kR,xy,e4,hf],?_⟩;simp only[ay];exact⟨_,rfl,by simp only[aX];exact⟨_,_,rfl,e6,_,_,rfl,e7,rfl⟩⟩
  ·cases hk
 ·cases hk
end
end
section
open Go.RowKit
section
variable {X : Fx} {z : Z} {s : AS} {a : Act} {w w' : World} {E : List Pl} {pb : Nat -> Option Nat}
def gW(X:Fx)(z:Z)(a:Act)(w:World)(E:List Pl)(pb:Nat->Option Nat)(o:Oper)(av:AV):Prop:=∃v w',(execOp a.eval o).run X.P w=.ok (.value v) w'/\Below w.heap.size w w'/\ay (ctx z w' E pb) av v
theorem gW.same{o:Oper}{av:AV}{v:Value}(h:(execOp a.eval o).run X.P w=.ok (.value v) w)(r:ay (ctx z w E pb) av v):gW X z a w E pb o av:=⟨v,w,h,Below.refl _ _,r⟩
theorem QH(h:St X z s a w E pb)(t:TypeId){cs:List AV}{arr:Array Value}(r:aX (ctx z w E pb) cs arr.toList)(ho:∀x∈arr.toList,fS x=θ):
  Below w.heap.size w (w.alloc (.cells arr t))/\w.heap.size<(w.alloc (.cells arr t)).heap.size/\¬(ctx z (w.alloc (.cells arr t)) E pb).X w.heap.size/\bY (ctx z (w.alloc (.cells arr t)) E pb) w.heap.size 0 cs:=by
 have g:Below w.heap.size w (w.alloc (.cells arr t)):=(Below.refl _ _).alloc (bN _) _;have hx:Ext (ctx z w E pb) (ctx z (w.alloc (.cells arr t)) E pb):=zm g;have hb:(w.alloc (.cells arr t)).heap[w.heap.size]? =δ (.cells arr t (0,0)):=(Uc w _).1;exact⟨g,by simp,h.fresh,bY.CC hb (Vz hx _ _ r) ho (λi hi=>by simp)⟩
theorem BN{P:Program}(t:TypeId)(arr:Array Value):(newRow t arr).run P w=.ok ⟨w.heap.size,0,μ⟩ (w.alloc (.cells arr t)):=by rfl
theorem BS{t:TypeId}{zs:List AV}(h:yC X t=δ zs)(c:RC):∃i v,X.P.info? t=δ i/\i.zero=δ v/\(zeroValue t).run X.P w=.ok v w/\zs=v.cells.toList.map EY/\aX c zs v.cells.toList/\∀x∈v.cells.toList,fS x=θ:=by
 unfold yC at h;split at h
 ·rename_i i hi;split at h
  ·rename_i v hv;cases ho:v.cells.toList.all fS
   ·rw[ho]at h;cases h
   ·rw[ho]at h;simp only[cU]at h;injection h with h
    refine⟨i,v,hi,hv,by simp [zeroValue,zc w hi,hv],h.symm,?_,rN.1 ho⟩;rw[<-h];have:=aX.map (c:=c) EY id v.cells.toList (λx _=>aBQ c x);simpa using this
  ·cases h
 ·cases h
theorem tO.map(h:St X z s a w E pb)(x:Option Operand):tO (ctx z w E pb) (x.map (ev X s)) (x.map a.eval):=by
 cases x with
 |none=>trivial
 |some x=>exact gX h x
theorem alM(h:St X z s a w E pb){dst:Option Tmp}{t ty:TypeId}{pos:String}{af:Array Edge}{g:Option (Nat×Bool)}{cs:List AV}(hz:yC X t=δ cs):
  gW X z a w E pb ⟨dst,.alloc t,ty,pos,af,g⟩ (.rp cs):=by
 obtain⟨i,v,h1,h2,h3,h4,h5,h6⟩:=BS (w:=w) hz (ctx z w E pb);obtain⟨k1,k2,k3,k4⟩:=QH h t h5 h6;refine⟨.pointer (δ ⟨w.heap.size,0,μ⟩),_,?_,k1,by simp only[ay];exact⟨_,_,rfl,k2,k3,k4⟩⟩;simp [execOp,Instr.alloc,h3,newVar,BN]
theorem anA(h:St X z s a w E pb){dst:Option Tmp}{t ty:TypeId}{x:Operand}{pos:String}{af:Array Edge}{g:Option (Nat×Bool)}{cs:List AV}(hc:B3 X t (ev X s x)=δ cs):
  gW X z a w E pb ⟨dst,.box t x,ty,pos,af,g⟩ (.rp cs):=by
 obtain⟨h5,h6,_,_⟩:=Jk X hc (gX h x);obtain⟨k1,k2,k3,k4⟩:=QH h t h5 h6;refine⟨.pointer (δ ⟨w.heap.size,0,μ⟩),_,?_,k1,by simp only[ay];exact⟨_,_,rfl,k2,k3,k4⟩⟩;simp [execOp,Instr.box,newVar,BN]
theorem Qf{t:TypeId}{f off:Nat}{ft:TypeId}(h:EM X t f=δ (off,ft)):∃fs fl,X.P.underlying t=δ (.struct fs)/\fs[f]? =δ fl/\fl.offset=off/\fl.type=ft:=by
 unfold EM at h;split at h
 ·rename_i fs hd;split at h
  ·rename_i fl hf;simp only[Θ,T4]at h;exact⟨fs,fl,hd,hf,h.1,h.2⟩
  ·cases h
 ·cases h
theorem abM{P:Program}:∀(fs:List Field),fs.all (λf=>(P.info? f.type).isSome)=θ->(fs.mapM (λf=>do pure (f.offset,<-sizeOf f.type)):Sem (List (Nat×Nat))).run P w=.ok (fs.map λf=>(f.offset,P.cellsOf f.type)) w
 |[],_=>by simp
 |f::fs,h=>by simp only[aDz,jW]at h;obtain⟨i,hi⟩:=Option.isSome_iff_exists.1 h.1;have ih:=abM fs h.2;simp only[List.mapM_cons,Ts,L6 w hi,UM,X8,ih,eP]
theorem alN(h:St X z s a w E pb){dst:Option Tmp}{t ty:TypeId}{ps:Array (Nat×Operand)}{pos:String}{af:Array Edge}{g:Option (Nat×Bool)}{zs cs:List AV}{fs:Array Field}(hz:yC X t=δ zs)(hd:X.P.underlying t=δ (.struct fs))
  (hi:fs.toList.all (λf=>(X.P.info? f.type).isSome)=θ) (hf:tG X s (EM X t) ps.toList zs=δ cs):gW X z a w E pb ⟨dst,.build t ps,ty,pos,af,g⟩ (.agg cs):=by
 obtain⟨i,v,h1,h2,h3,h4,h5,h6⟩:=BS (w:=w) hz (ctx z w E pb);have hpl:=abM (w:=w) fs.toList hi
 obtain⟨arr,k1,k2,k3⟩:=Re (c:=ctx z w E pb) (ρ:=a.eval) (λx=>gX h x) (pl:=EM X t) (place:=λj=>((fs.toList.map λf=>(f.offset,X.P.cellsOf f.type)).toArray)[j]?) (λj off t' hj=>by
   obtain⟨fs',fl,e1,e2,e3,e4⟩:=Qf hj;rw[hd]at e1;injection e1 with e1;injection e1 with e1;subst e1
   simp [e2,e3,e4]) ps.toList _ cs v.cells hf h5 h6
 refine gW.same (v:=.agg arr) ?_ (by simp only[ay];exact⟨arr,rfl,k2,k3⟩);have hps:(ps.map λ(p:Nat×Operand)=>(p.1,a.eval p.2)).toList=ps.toList.map λp=>(p.1,a.eval p.2):=by simp
 simp only[execOp,Instr.build,Ts,run_underlying hd,UM,h3,Array.mapM_eq_mapM_toList,Sem.run_map,hpl,hps];rw[k1];simp
theorem aj2(h:St X z s a w E pb){dst:Option Tmp}{t e ty:TypeId}{len:Nat}{ps:Array (Nat×Operand)}{pos:String}{af:Array Edge}{g:Option (Nat×Bool)}{zs cs:List AV}{i:TypeInfo}{av:AV}
  (hd:X.P.underlying t=δ (.slice e)) (hi:X.P.info? e=δ i) (hz:yC X e=δ zs) (h0:i.size≠0) (hl:zs.length=i.size) (hm:¬16777216<len*i.size) (HV:(len=0/\av=.ez)\/av=.sl i.size (iP i.size len cs))
  (hf:tG X s (λj=>δ (j*i.size,e)) ps.toList (Z3 len zs).flatten=δ cs):gW X z a w E pb ⟨dst,.buildSlice t len ps,ty,pos,af,g⟩ av:=by
 obtain⟨i',v,h1,h2,h3,h4,h5,h6⟩:=BS (w:=w) hz (ctx z w E pb);rw[hi]at h1;injection h1 with h1;subst h1
 have hvl:v.cells.toList.length=i.size:=by rw[<-h5.length];exact hl
 have hce:X.P.cellsOf e=i.size:=by simp [aDS,hi]
 have hsz:(sizeOf e).run X.P w=.ok i.size w:=by rw[<-hce];exact L6 w hi
 obtain⟨zr,vX,NV⟩:∃zr:Array Value,((len*i.size=0/\zr=#[])\/(¬len*i.size=0/\zr=v.cells))/\((aDR (len*i.size)).map (zr[· % zr.size]!)).toList=(Z3 len v.cells.toList).flatten:=by
  by_cases gQ:len*i.size=0
  ·have:len=0:=(Nat.mul_eq_zero.1 gQ).resolve_right h0;subst this;exact⟨#[],.inl ⟨gQ,rfl⟩,by simp⟩
  ·refine⟨v.cells,.inr ⟨gQ,rfl⟩,?_⟩;have:=range_zero v.cells.toList (by omega) len;rw[hvl]at this;rw[<-this];simp
 obtain⟨arr,k1,k2,k3⟩:=Re (c:=ctx z w E pb) (ρ:=a.eval) (λx=>gX h x) (pl:=λj=>δ (j*i.size,e)) (place:=λj=>δ (j*i.size,i.size)) (λj off t' hj=>by simp only[Θ,T4]at hj;obtain⟨rfl,rfl⟩:=hj;rw[hce]) ps.toList _ cs
  ((aDR (len*i.size)).map (zr[· % zr.size]!)) hf (by rw[NV];exact h5.flatten len) (by
   rw[NV];intro x hx;obtain⟨l,sQ,rS⟩:=aCT.1 hx;rw[Xl]at sQ
   exact h6 x (sQ.2▸rS))
 obtain⟨j1,j2,j3,j4⟩:=QH h e k2 k3
 have iI:cs.length=len*i.size:=by
  have hlen:∀(ps:List (Nat×Operand))(cs cs':List AV),tG X s (λj=>δ (j*i.size,e)) ps cs=δ cs'->cs'.length=cs.length:=by
   intro ps;induction ps with
   |nil=>intro cs cs' e;simp only[tG]at e;injection e with e;rw[e]
   |cons p ps ih=>
    intro cs cs' e;obtain⟨q,x⟩:=p;simp only[tG]at e;obtain⟨new,e1,e2⟩:=ct.1 e;obtain⟨c2,e3,e4⟩:=ct.1 e2;rw[ih _ _ e4];unfold ir at e3;split at e3
    ·injection e3 with e3;subst e3;simp;omega
    ·cases e3
  rw[hlen _ _ _ hf];simp [List.length_flatten,hl]
 refine⟨.slice (δ ⟨w.heap.size,0,μ⟩) len len,_,?_,j1,?_⟩
 ·have hps:(ps.map λ(p:Nat×Operand)=>(p.1,a.eval p.2)).toList=ps.toList.map λp=>(p.1,a.eval p.2):=by simp
  have hm':¬len*i.size>2 ^ 24:=hm;rcases vX with⟨e1,e2⟩|⟨e1,e2⟩
  ·simp only[execOp,aCU,Ts,run_underlying hd,UM,hsz,aO hm',aP e1,X8,hps];rw[<-e2,k1];simp [BN]
  ·simp only[execOp,aCU,Ts,run_underlying hd,UM,hsz,aO hm',aO e1,h3,X8,hps];rw[<-e2,k1];simp [BN]
 ·rcases HV with⟨rfl,rfl⟩|rfl
  ·simp [ay]
  simp only[ay];refine⟨_,_,by rw[QA],by rw[QA];exact bN _,by omega,?_⟩;by_cases hl0:len=0
  ·left;subst hl0;rfl
  ·right;exact⟨_,_,rfl,j2,j3,aAe len 0 cs iI j4⟩
theorem akP(h:St X z s a w E pb){dst:Option Tmp}{t e ty:TypeId}{len:Nat}{ps:Array (Nat×Operand)}{pos:String}{af:Array Edge}{g:Option (Nat×Bool)}{zs cs:List AV}{i:TypeInfo}
  (hd:X.P.underlying t=δ (.slice e)) (hi:X.P.info? e=δ i) (hz:yC X e=δ zs) (h0:i.size≠0) (hl:zs.length=i.size) (hm:¬16777216<len*i.size)
  (hf:tG X s (λj=>δ (j*i.size,e)) ps.toList (Z3 len zs).flatten=δ cs):∃arr:Array Value,(execOp a.eval ⟨dst,.buildSlice t len ps,ty,pos,af,g⟩).run X.P w=.ok (.value (.slice (δ ⟨w.heap.size,0,μ⟩) len len)) (w.alloc (.cells arr e))/\arr.size=len*i.size/\aX (ctx z w E pb) cs arr.toList/\(∀x∈arr.toList,fS x=θ)/\cs.length=len*i.size:=by
 obtain⟨i',v,h1,h2,h3,h4,h5,h6⟩:=BS (w:=w) hz (ctx z w E pb);rw[hi]at h1;injection h1 with h1;subst h1
 have hvl:v.cells.toList.length=i.size:=by rw[<-h5.length];exact hl
 have hce:X.P.cellsOf e=i.size:=by simp [aDS,hi]
 have hsz:(sizeOf e).run X.P w=.ok i.size w:=by rw[<-hce];exact L6 w hi
 obtain⟨zr,vX,NV⟩:∃zr:Array Value,((len*i.size=0/\zr=#[])\/(¬len*i.size=0/\zr=v.cells))/\((aDR (len*i.size)).map (zr[· % zr.size]!)).toList=(Z3 len v.cells.toList).flatten:=by
  by_cases gQ:len*i.size=0
  ·have:len=0:=(Nat.mul_eq_zero.1 gQ).resolve_right h0;subst this;exact⟨#[],.inl ⟨gQ,rfl⟩,by simp⟩
  ·refine⟨v.cells,.inr ⟨gQ,rfl⟩,?_⟩;have:=range_zero v.cells.toList (by omega) len;rw[hvl]at this;rw[<-this];simp
 obtain⟨arr,k1,k2,k3⟩:=Re (c:=ctx z w E pb) (ρ:=a.eval) (λx=>gX h x) (pl:=λj=>δ (j*i.size,e)) (place:=λj=>δ (j*i.size,i.size)) (λj off t' hj=>by simp only[Θ,T4]at hj;obtain⟨rfl,rfl⟩:=hj;rw[hce]) ps.toList _ cs
  ((aDR (len*i.size)).map (zr[· % zr.size]!)) hf (by rw[NV];exact h5.flatten len) (by
   rw[NV];intro x hx;obtain⟨l,sQ,rS⟩:=aCT.1 hx;rw[Xl]at sQ
   exact h6 x (sQ.2▸rS))
 obtain⟨j1,j2,j3,j4⟩:=QH h e k2 k3
 have iI:cs.length=len*i.size:=by
  have hlen:∀(ps:List (Nat×Operand))(cs cs':List AV),tG X s (λj=>δ (j*i.size,e)) ps cs=δ cs'->cs'.length=cs.length:=by
   intro ps;induction ps with
   |nil=>intro cs cs' e;simp only[tG]at e;injection e with e;rw[e]
   |cons p ps ih=>
    intro cs cs' e;obtain⟨q,x⟩:=p;simp only[tG]at e;obtain⟨new,e1,e2⟩:=ct.1 e;obtain⟨c2,e3,e4⟩:=ct.1 e2;rw[ih _ _ e4];unfold ir at e3;split at e3
    ·injection e3 with e3;subst e3;simp;omega
    ·cases e3
  rw[hlen _ _ _ hf];simp [List.length_flatten,hl]
 refine⟨arr,?_,by have:=k2.length;rw[iI]at this;simpa using this.symm,k2,k3,iI⟩
 ·have hps:(ps.map λ(p:Nat×Operand)=>(p.1,a.eval p.2)).toList=ps.toList.map λp=>(p.1,a.eval p.2):=by simp
  have hm':¬len*i.size>2 ^ 24:=hm;rcases vX with⟨e1,e2⟩|⟨e1,e2⟩
  ·simp only[execOp,aCU,Ts,run_underlying hd,UM,hsz,aO hm',aP e1,X8,hps];rw[<-e2,k1];simp [BN]
  ·simp only[execOp,aCU,Ts,run_underlying hd,UM,hsz,aO hm',aO e1,h3,X8,hps];rw[<-e2,k1];simp [BN]
theorem akO(h:St X z s a w E pb){d t n:Nat}{ps:Array (Nat×Operand)}{ty:TypeId}{pos:String}{af:Array Edge}{g:Option (Nat×Bool)}{sz:Nat}{es:List (List AV)}
  (hv:jA X ⟨δ d,.buildSlice t n ps,ty,pos,af,g⟩ s μ=δ (.sl sz es)):∃(arr:Array Value)(et:TypeId),(execOp a.eval ⟨δ d,.buildSlice t n ps,ty,pos,af,g⟩).run X.P w=.ok (.value (.slice (δ ⟨w.heap.size,0,μ⟩) es.length es.length)) (w.alloc (.cells arr et))/\
   arr.size=es.length*sz/\0<sz/\(∀c',c'.w.heap[w.heap.size]? =δ (.cells arr et (0,0))->Ext (ctx z w E pb) c'->cA c' sz w.heap.size 0 es)/\∀x∈arr.toList,fS x=θ:=by
 simp only[jA]at hv;split at hv
 ·rename_i e hd;split at hv
  ·rename_i i zs hi hz;cases h0:(i.size==0||zs.length !=i.size)
   ·rw[h0]at hv;simp only[bQ]at hv;simp only[qw,beq_eq_false_iff_ne,bne_eq_false_iff_eq]at h0;cases hm:ZQ 16777216 (n*i.size)
    ·rw[hm]at hv;simp only[bQ]at hv;obtain⟨cs,h1,h2⟩:=ct.1 hv;cases hn:(n==0)
     ·rw[hn]at h2;simp only[bQ,Θ,Yh.injEq]at h2;obtain⟨rfl,rfl⟩:=h2;obtain⟨arr,k1,k2,k3,k4,k5⟩:=akP (dst:=δ d) (ty:=ty) (pos:=pos) (af:=af) (g:=g) h hd hi hz h0.1 h0.2 (λk=>by rw[show ZQ 16777216 (n*i.size)=θ from by simpa [Nat.blt_eq]using k]at hm;cases hm) h1;rw[QA];exact⟨arr,e,k1,k2,Nat.pos_of_ne_zero h0.1,λc' hb hx=>aAe n 0 cs k5 (bY.CC hb (Vz hx _ _ k3) k4 (λj hj=>by simp)),k4⟩
     ·rw[hn]at h2;cases h2
    ·rw[hm]at hv;cases hv
   ·rw[h0]at hv;cases hv
  ·cases hv
 ·cases hv
theorem atf(h:St X z s a w E pb){tag:Option (Nat×Bool)}(ht:vA a tag){o:Oper}{av:AV}(hv:jA X o s tag=δ av)(hc:∀c,o.op=.call c->∃b,c.callee=.builtin b):gW X z a w E pb o av:=by
 obtain⟨dst,op,ty,pos,af,g⟩:=o;cases op<;>simp only[jA]at hv<;>first|(cases hv;done)|skip
 case move x=>injection hv with hv;subst hv;exact gW.same (by simp [execOp]) (gX h x)
 case assign x=>injection hv with hv;subst hv;exact gW.same (by simp [execOp]) (gX h x)
 case pick x y u=>
  have r:=gX h x;generalize ev X s x=vx at *
  cases vx<;>simp only[UD]at hv<;>first|(cases hv;done)|skip
  rename_i b;injection hv with hv
  simp only[ay]at r;cases b
  ·simp only[bQ]at hv;subst hv;exact gW.same (v:=a.eval u) (by simp [execOp,r,asBool]) (gX h u)
  ·simp only[cU]at hv;subst hv;exact gW.same (v:=a.eval y) (by simp [execOp,r,asBool]) (gX h y)
 case alloc t=>
  split at hv
  ·injection hv with hv;subst hv;exact alM h (by assumption)
  ·cases hv
 case box t x=>
  obtain⟨cs,h1,h2⟩:=ct.1 hv;injection h2 with h2;subst h2
  exact anA h h1
 case build t ps=>
  split at hv
  ·rename_i zs fs hz hd;cases hi:fs.toList.all (λf=>(X.P.info? f.type).isSome)
   ·rw[hi]at hv;cases hv
   ·rw[hi]at hv;simp only[cU]at hv;obtain⟨cs,h1,h2⟩:=ct.1 hv;injection h2 with h2;subst h2
    exact alN h hz hd hi h1
  ·cases hv
 case buildSlice t len ps=>
  split at hv
  ·rename_i e hd;split at hv
   ·rename_i i zs hi hz;cases h0:(i.size==0||zs.length !=i.size)
    ·rw[h0]at hv;simp only[bQ]at hv;simp only[qw,beq_eq_false_iff_ne,bne_eq_false_iff_eq]at h0;cases hm:ZQ 16777216 (len*i.size)
     ·rw[hm]at hv;simp only[bQ]at hv;obtain⟨cs,h1,h2⟩:=ct.1 hv;injection h2 with h2;subst h2
      refine aj2 h hd hi hz h0.1 h0.2 (λk=>by rw[show ZQ 16777216 (len*i.size)=θ from by simpa [Nat.blt_eq]using k]at hm;cases hm) ?_ h1;by_cases hl:len=0
      ·subst hl;exact .inl ⟨rfl,rfl⟩
      ·exact .inr (by rw[show(len==0)=ι by simpa using hl];rfl)
     ·rw[hm]at hv;cases hv
    ·rw[h0]at hv;cases hv
   ·cases hv
  ·cases hv
 case load t x=>
  split at hv
  ·rename_i b off hp;obtain⟨cs,h1,h2⟩:=ct.1 hv;obtain⟨k,k1,k2,k3,k4⟩:=Jv h ht hp h1;obtain⟨v,j1,j2⟩:=QK (c:=ctx z w E pb) w X rfl k3.2 h2;rw[YW]at j1;exact gW.same (by simp [execOp,Instr.loadAt,k2,V2,j1]) j2
  ·obtain⟨cs,h1,h2⟩:=ct.1 hv;obtain⟨b,off,k2,k3⟩:=ac3 h.heap h1 (gX h x);obtain⟨v,j1,j2⟩:=QK (c:=ctx z w E pb) w X rfl k3 h2;rw[Nat.add_zero]at j1;exact gW.same (by simp [execOp,Instr.loadAt,k2,V2,j1]) j2
 case nilCheck x=>
  have r:=gX h x;generalize ev X s x=vx at *
  cases vx<;>simp only[ZP]at hv<;>first|(cases hv;done)|skip
  all_goals
   injection hv with hv;subst hv
   have r':=r;simp only[ay]at r
  case rp=>obtain⟨b,off,e,_⟩:=r;exact gW.same (v:=a.eval x) (by simp [execOp,e]) r'
  case op=>obtain⟨p,_,_,e⟩:=r;exact gW.same (v:=a.eval x) (by simp [execOp,e]) r'
  case oe=>obtain⟨_,p,_,_,q,e,_⟩:=r;exact gW.same (v:=a.eval x) (by simp [execOp,e]) r'
  case fn=>obtain⟨f,vs,e,_⟩:=r;exact gW.same (v:=a.eval x) (by simp [execOp,e]) r'
 case binOp op t x y u=>
  obtain⟨k,h1,h2⟩:=arQ (c:=ctx z w E pb) w X (ox:=x) (oy:=y) hv (gX h x) (gX h y);exact gW.same (v:=k) (by simp only[execOp];rw[Ts,h1];rfl) h2
 case unOp op t x=>
  have r:=gX h x;generalize ev X s x=vx at *
  cases op<;>simp only at hv<;>first|(cases hv;done)|skip
  case neg=>
   cases vx<;>simp only[A.neg]at hv<;>first|(cases hv;done)|skip
   rename_i k n;injection hv with hv;subst hv
   simp only[ay]at r;exact gW.same (v:=.int k (k.wrap (0-n))) (by simp [execOp,r,Op.unary,aDP]) (by simp [ay])
  case not=>
   cases vx<;>simp only[Wk]at hv<;>first|(cases hv;done)|skip
   rename_i b;injection hv with hv;subst hv
   simp only[ay]at r;exact gW.same (v:=.bool (!b)) (by simp [execOp,r,Op.unary]) (by simp [ay])
 case convert src dst' x=>
  have r:=gX h x;generalize ev X s x=vx at *
  split at hv
  ·rename_i k1 k2 hs hd;cases vx<;>simp only[A.conv]at hv<;>first|(cases hv;done)|skip
   rename_i k n;injection hv with hv;subst hv
   simp only[ay]at r;exact gW.same (v:=.int k2 (k2.wrap n)) (by simp [execOp,convert,r,run_underlying hs,run_underlying hd,Conv.intToInt]) (by simp [ay])
  ·rename_i hs hd;cases vx<;>simp only[A.ag7]at hv<;>first|(cases hv;done)|skip
   rename_i str;injection hv with hv;subst hv
   simp only[ay]at r;exact gW.same (v:=.string str) (by simp [execOp,convert,r,run_underlying hs,run_underlying hd]) (by simp [ay])
  ·cases hv
 case makeInterface t x=>
  split at hv
  ·cases hv
  ·rename_i d hn hd;injection hv with hv;subst hv
   have:X.P.concrete t=θ:=by unfold Program.concrete;rw[hd];cases d<;>first|rfl|exact absurd rfl (hn _)
   exact gW.same (v:=.iface t (a.eval x)) (by simp [execOp,run_makeInterface w t _ this]) (by simp [ay])
  ·cases hv
 case makeFunc fn first caps=>
  split at hv
  ·rename_i f;cases hf:first.toList.isEmpty
   ·rw[hf]at hv;cases hv
   ·rw[hf]at hv;simp only[cU]at hv;injection hv with hv;subst hv
    have:first=#[]:=by simpa using hf
    subst this;refine gW.same (v:=.func (.func f) #[] (caps.map a.eval)) (by simp [execOp,Instr.makeFunc]) ?_;simp only[ay];refine⟨f,_,rfl,by rw[h.nm];rfl,?_⟩
    simpa using JK h caps.toList
  ·cases hv
 case slice t x lo hi mx=>
  split at hv
  ·split at hv
   ·rename_i hd;obtain⟨k,k1,k2⟩:=aoC (P:=X.P) (c:=ctx z w E pb) w hd hv (gX h x) (tO.map h lo) (tO.map h hi);refine gW.same (v:=k) ?_ k2;simp [execOp,aEi,run_underlying hd,k1]
   ·rename_i e hd;split at hv
    ·rename_i i hi';obtain⟨k,k1,k2⟩:=aoB (P:=X.P) (c:=ctx z w E pb) w h.heap hd hi' hv (gX h x) (tO.map h lo) (tO.map h hi);refine gW.same (v:=k) ?_ k2;simp [execOp,aEi,run_underlying hd,k1]
    ·cases hv
   ·cases hv
  ·split at hv
   ·rename_i e hi1 hd;split at hv
    ·rename_i i hi';obtain⟨k,k1,k2⟩:=aoA (P:=X.P) (c:=ctx z w E pb) w hd hi' hv (gX h x) (tO.map h lo) (gX h _) (gX h _);refine gW.same (v:=k) ?_ k2;simp [execOp,aEi,run_underlying hd,k1]
    ·cases hv
   ·cases hv
 case entry i=>
  obtain⟨v',k1,k2⟩:=apb (P:=X.P) (c:=ctx z w E pb) w rfl h.heap hv (gX h i);exact gW.same (v:=v') (by simp [execOp,k1]) k2
 case fieldAddr t x f=>
  split at hv
  ·rename_i off ft hf;split at hv
   ·rename_i i hi;cases h0:(i.size==0)
    ·rw[h0]at hv;simp only[bQ]at hv;obtain⟨fs,fl,e1,e2,e3,e4⟩:=Qf hf;have r:=gX h x;generalize ev X s x=vx at *
     have hsz:(sizeOf fl.type).run X.P w=.ok i.size w:=by rw[e4];simp [sizeOf,zc w hi]
     have mG:¬i.size=0:=by simpa using h0
     have run:∀q,a.eval x=.pointer (δ q)->(execOp a.eval ⟨dst,.fieldAddr t x f,ty,pos,af,g⟩).run X.P w=.ok (.value (.pointer (δ (q.add off)))) w:=by intro q e;simp [execOp,Instr.fieldAt,run_underlying e1,e2,e,V2,fieldPlace,hsz,mG,e3]
     cases vx<;>simp only[WC]at hv<;>first|(cases hv;done)|skip
     case rp cs=>
      injection hv with hv;subst hv
      simp only[ay]at r;obtain⟨b,o,e,hb,hx,r⟩:=r;exact gW.same (run _ e) (by simp only[ay,th];exact⟨b,o+off,rfl,hb,hx,r.drop off⟩)
     case op id o=>
      injection hv with hv;subst hv
      simp only[ay]at r;obtain⟨p,k1,k2,e⟩:=r;exact gW.same (run _ e) (by simp only[ay,th];exact⟨p,k1,k2,rfl⟩)
     case oe id gg i' o=>
      injection hv with hv;subst hv
      simp only[ay]at r;obtain⟨hg,p,k1,k2,q,e,r⟩:=r;exact gW.same (run _ e) (by simp only[ay];exact⟨hg,p,k1,k2,_,rfl,λk=>by rw[r k,th,lT]⟩)
    ·rw[h0]at hv;cases hv
   ·cases hv
  ·cases hv
 case field t x f=>
  split at hv
  ·rename_i off ft hf;obtain⟨fs,fl,e1,e2,e3,e4⟩:=Qf hf;obtain⟨cs,h1,h2⟩:=ct.1 hv;have r:=gX h x;generalize ev X s x=vx at *
   cases vx<;>simp only[ψ]at h1<;>first|(cases h1;done)|skip
   split at h1
   ·injection h1 with h1;subst h1
    simp only[ay]at r;obtain⟨vs,e,r1,r2⟩:=r;obtain⟨v,k1,k2⟩:=aod (c:=ctx z w E pb) w X r1 r2 h2;exact gW.same (v:=v) (by simp [execOp,Instr.field,run_underlying e1,e2,e,asAgg,e3,e4,k1]) k2
   ·cases h1
  ·cases hv
 case indexAddr t x i=>
  split at hv
  ·rename_i e hd;split at hv
   ·rename_i j hj;have hsz:(sizeOf e).run X.P w=.ok j.size w:=by simp [sizeOf,zc w hj]
    have r:=gX h x;have ri:=gX h i;generalize ev X s x=vx at *
    cases vx<;>simp only[Zo]at hv<;>first|(cases hv;done)|skip
    case sl sz es=>
     obtain⟨n,h1,h2⟩:=ct.1 hv;obtain⟨k,e1,e2⟩:=MD (c:=ctx z w E pb) h1 ri;split at h2
     ·rename_i hs;subst hs;obtain⟨el,h3,h4⟩:=fF.1 h2;subst h4;simp only[ay]at r;obtain⟨q,cap,e3,_,_,r⟩:=r;rcases r with r|⟨b,off,e4,hb,hx,r⟩
      ·subst r;simp at h3
      ·subst e4;refine gW.same (v:=.pointer (δ ⟨b,off+n*j.size,μ⟩)) ?_ (by simp only[ay];exact⟨_,_,rfl,hb,hx,(cA.nth r h3).2⟩);simp [execOp,aDs,run_underlying hd,e1,e3,asIntOf,hsz,e2,th]
     ·cases h2
    case os id gg sz off len=>
     obtain⟨n,h1,h2⟩:=ct.1 hv;obtain⟨k,e1,e2⟩:=MD (c:=ctx z w E pb) h1 ri;split at h2
     ·rename_i hs;subst hs;injection h2 with h2;subst h2
      simp only[ay]at r;obtain⟨hg,p,k1,k2,q,cap,e3,hcap,r⟩:=r;refine gW.same (v:=.pointer (δ (q.add (n*j.size)))) ?_ ?_
      ·simp [execOp,aDs,run_underlying hd,e1,e3,asIntOf,hsz,e2]
      ·simp only[ay];refine⟨hg,p,k1,k2,_,rfl,λk=>?_⟩;obtain⟨j1,j2,j3⟩:=r k;rcases j2 with j2|j2
       ·omega
       ·rw[j2,th,j1,iG];congr 1;omega
     ·cases h2
   ·cases hv
  ·rename_i len e hd;split at hv
   ·rename_i j hj;have hsz:(sizeOf e).run X.P w=.ok j.size w:=by simp [sizeOf,zc w hj]
    obtain⟨n,h1,h2⟩:=ct.1 hv;obtain⟨k,e1,e2⟩:=MD (c:=ctx z w E pb) h1 (gX h i);have r:=gX h x;generalize ev X s x=vx at *
    have run:∀q,a.eval x=.pointer (δ q)->(execOp a.eval ⟨dst,.indexAddr t x i,ty,pos,af,g⟩).run X.P w=.ok (.value (.pointer (δ (q.add (n*j.size))))) w:=by intro q e;simp [execOp,aDs,run_underlying hd,e1,e,asIntOf,hsz,e2,V2]
    cases vx<;>simp only at h2<;>first|(cases h2;done)|skip
    case rp cs=>
     injection h2 with h2;subst h2
     simp only[ay]at r;obtain⟨b,o,e,hb,hx,r⟩:=r;exact gW.same (run _ e) (by simp only[ay,th];exact⟨b,_,rfl,hb,hx,r.drop _⟩)
    case op id o=>
     injection h2 with h2;subst h2
     simp only[ay]at r;obtain⟨p,k1,k2,e⟩:=r;exact gW.same (run _ e) (by simp only[ay,th];exact⟨p,k1,k2,rfl⟩)
    case oe id gg i' o=>
     injection h2 with h2;subst h2
     simp only[ay]at r;obtain⟨hg,p,k1,k2,q,e,r⟩:=r;exact gW.same (run _ e) (by simp only[ay];exact⟨hg,p,k1,k2,_,rfl,λk=>by rw[r k,th,lT]⟩)
   ·cases hv
  ·cases hv
 case index t x i=>
  split at hv
  ·rename_i hd;have r:=gX h x;generalize ev X s x=vx at *
   cases vx<;>simp only[A.qy]at hv<;>first|(cases hv;done)|skip
   rename_i str;obtain⟨n,h1,h2⟩:=ct.1 hv;obtain⟨by',h3,h4⟩:=fF.1 h2;subst h4;obtain⟨k,e1,e2⟩:=MD (c:=ctx z w E pb) h1 (gX h i);simp only[ay]at r;refine gW.same (v:=.int .u8 by'.toNat) ?_ (by simp [ay]);have this:=h3;simp [execOp,Instr.index,run_underlying hd,e1,r,asIntOf,this]
  ·cases hv
 case lookup t m i ok=>
  split at hv
  ·rename_i kt e hd;split at hv
   ·rename_i inf ek hi he;split at hv
    ·rename_i zv hz;obtain⟨v,k1,k2⟩:=aq2 (c:=ctx z w E pb) w X rfl h.heap hd hi hz he hv (gX h m) (gX h i);exact gW.same (v:=v) (by simp [execOp,k1]) k2
    ·cases hv
   ·cases hv
  ·cases hv
 case extract x i=>
  have r:=gX h x;generalize ev X s x=vx at *
  cases vx<;>simp only[Yn]at hv<;>first|(cases hv;done)|skip
  simp only[ay]at r;obtain⟨vs,e,r⟩:=r;obtain⟨v,k1,k2⟩:=r.nth hv;refine gW.same (v:=v) ?_ k2;have:vs[i]? =δ v:=by rw[<-UE];exact k1
  simp [execOp,Instr.extract,e,this]
 case call c=>
  obtain⟨b,hb⟩:=hc c rfl;rw[hb]at hv;simp only at hv;have re:=JK h c.args.toList;have hargs:c.args.map a.eval=(c.args.toList.map a.eval).toArray:=by apply oI.1;simp
  obtain⟨cb,hrun⟩:∃cb,(execOp a.eval ⟨dst,.call c,ty,pos,af,g⟩).run X.P w=(builtin b c.argTypes ty cb (c.args.map a.eval)).run X.P w:=by simp only[execOp,resolve,hb,Ts,X8,UM,invoke];exact⟨_,rfl⟩
  rw[hargs]at hrun;split at hv
  ·rename_i t x h1 h2;rw[h2]at re;generalize c.args.toList.map a.eval=vs at *
   simp only[aX]at re;obtain⟨v,_,rfl,r,rfl⟩:=re;have h1':c.argTypes=#[t]:=by apply oI.1;simpa using h1
   rw[h1']at hrun;split at hv
   ·rename_i hd;cases x<;>simp only[A.yE]at hv<;>first|(cases hv;done)|skip
    injection hv with hv;subst hv
    simp only[ay]at r;subst r;exact gW.same (by rw[hrun];simp [builtin,W9,run_underlying hd,goInt];rfl) (by simp [ay])
   ·rename_i e hd;cases x<;>simp only[UY]at hv<;>first|(cases hv;done)|skip
    all_goals
     injection hv with hv;subst hv
     simp only[ay]at r
    case sl sz es=>
     obtain⟨q,cap,rfl,_⟩:=r;exact gW.same (v:=.int ξ es.length) (by rw[hrun];simp [builtin,W9,run_underlying hd,goInt]) (by simp [ay])
    case aA=>
     subst r;exact gW.same (v:=.int ξ 0) (by rw[hrun];simp [builtin,W9,run_underlying hd,goInt]) (by simp [ay])
    case ez=>
     obtain⟨q,rfl⟩:=r;exact gW.same (v:=.int ξ 0) (by rw[hrun];simp [builtin,W9,run_underlying hd,goInt]) (by simp [ay])
    case os id gg sz off len=>
     obtain⟨_,p,_,_,q,cap,rfl,_⟩:=r;exact gW.same (v:=.int ξ len) (by rw[hrun];simp [builtin,W9,run_underlying hd,goInt]) (by simp [ay])
   ·rename_i kt e hd
    have:∃bP,US x s.σ=δ bP/\av=.int ξ bP.length:=by
     cases x<;>simp only[A.ah4]at hv<;>first|(cases hv;done)|skip
     case om id=>
      split at hv
      ·rename_i es hs;injection hv with hv
       exact⟨es,by simp [US,hs],hv.symm⟩
      ·cases hv
     case nm=>injection hv with hv;exact⟨[],rfl,by simpa using hv.symm⟩
     case fm es=>injection hv with hv;exact⟨es,rfl,hv.symm⟩
    obtain⟨bP,k1,rfl⟩:=this;obtain⟨es,nu,k2,kl,_,k3⟩:=abE (P:=X.P) (c:=ctx z w E pb) w rfl h.heap k1 r;have hl:=k2.length;rw[kl]at hl;refine gW.same (v:=.int ξ bP.length) ?_ (by simp [ay]);rcases k3 with⟨rfl,rfl⟩|⟨bb,aK,rfl,hg⟩
    ·rw[hrun];simp at hl;simp [builtin,W9,run_underlying hd,goInt,hl]
    ·rw[hrun];simp at hl;simp [builtin,W9,run_underlying hd,goInt,hg,hl]
   ·cases hv
  ·rename_i t x h1 h2;rw[h2]at re;generalize c.args.toList.map a.eval=vs at *
   simp only[aX]at re;obtain⟨v,_,rfl,r,rfl⟩:=re;have h1':c.argTypes=#[t]:=by apply oI.1;simpa using h1
   rw[h1']at hrun;split at hv
   ·rename_i e hd;cases x<;>simp only[A.NF]at hv<;>first|(cases hv;done)|skip
    all_goals
     injection hv with hv;subst hv
     simp only[ay]at r
    case aA=>
     subst r;exact gW.same (v:=.int ξ 0) (by rw[hrun];simp [builtin,aC1,run_underlying hd,goInt]) (by simp [ay])
    case ez=>
     obtain⟨q,rfl⟩:=r;exact gW.same (v:=.int ξ 0) (by rw[hrun];simp [builtin,aC1,run_underlying hd,goInt]) (by simp [ay])
   ·cases hv
  ·rename_i x y h2;rw[h2]at re;generalize c.args.toList.map a.eval=vs at *
   simp only[aX]at re;obtain⟨v,_,rfl,r,u,_,rfl,q,rfl⟩:=re;unfold A.max at hv;split at hv
   ·rename_i k m k' n;injection hv with hv;subst hv
    simp only[ay]at r q;subst r;subst q;exact gW.same (v:=.int k (if n>m then n else m)) (by rw[hrun];simp [builtin,Builtin.max_,Builtin.max2]) (by simp [ay])
   ·cases hv
  ·rename_i x y h2;rw[h2]at re;generalize c.args.toList.map a.eval=vs at *
   simp only[aX]at re;obtain⟨v,_,rfl,r,u,_,rfl,q,rfl⟩:=re;unfold A.min at hv;split at hv
   ·rename_i k m k' n;injection hv with hv;subst hv
    simp only[ay]at r q;subst r;subst q;exact gW.same (v:=.int k (if n<m then n else m)) (by rw[hrun];simp [builtin,Builtin.min_,Builtin.min2]) (by simp [ay])
   ·cases hv
  ·cases hv
end
end
section
open Go.RowKit
def eW:Nat->Option Nat:=λ_=>μ
def arG(P:Program)(nm:List Nat)(f:FuncId)(args:List AV)(σ:Heap)(r:AV)(σ':Heap):Prop:=∃g,(∀eD w,(callFunc f eD).run P w=.ok (.enter g eD) w)/\∀(z:Z)(vs:Array Value),z.nm=nm->(∀b,z.X b->b<z.w.heap.size)->kL (ctx z z.w z.E eW) σ->aX (ctx z z.w z.E eW) args vs.toList->Calls P g vs z.w λe w'=>∃v E',e=.returned v/\Out z w' E'/\kL (ctx z w' E' eW) σ'/\ay (ctx z w' E' eW) r v
def arH(P:Program)(nm:List Nat)(f:FuncId)(args:List AV)(σ:Heap)(r:AV)(σ':Heap):Prop:=∀(z:Z)(vs:Array Value),z.nm=nm->(∀b,z.X b->b<z.w.heap.size)->kL (ctx z z.w z.E eW) σ->aX (ctx z z.w z.E eW) args vs.toList->∃v w' E',(callFunc f vs).run P z.w=.ok (.value v) w'/\Out z w' E'/\kL (ctx z w' E' eW) σ'/\ay (ctx z w' E' eW) r v
def rE(P:Program)(nm:List Nat)(f:FuncId)(args:List AV)(σ:Heap)(r:AV)(σ':Heap):Prop:=arG P nm f args σ r σ'\/arH P nm f args σ r σ'
structure fA (X : Fx) : Prop where
 call:∀f args σ r σ',X.call f args σ=δ (r,σ')->rE X.P X.nm f args σ r σ'
 dyn:∀f args σ r σ',X.dyn (X.nm.getD f 0) args σ=δ (r,σ')->rE X.P X.nm f args σ r σ'
section
variable {X : Fx} {z : Z} {s : AS} {a : Act} {w w' : World} {E : List Pl} {pb : Nat -> Option Nat}
theorem Ext.same{c c':RC}(hw:c'.w=c.w)(hE:c'.E=c.E)(hX:∀b,c'.X b->c.X b)(hn:c'.nm=c.nm):Ext c c':=
 ⟨by rw[hw];exact bN _,λb _ hx=>⟨by rw[hw],λk=>hx (hX b k)⟩,λi p h=>⟨p,by rw[hE];exact h,.inl rfl⟩,hn⟩
def below(z:Z)(w:World)(E:List Pl)(pb:Nat->Option Nat):Z:=⟨w,E,λb=>z.X b\/∃i,pb i=δ b,z.nm⟩
theorem ar6:Ext (ctx z w E pb) (ctx (below z w E pb) w E eW):=
 Ext.same rfl rfl (λb k=>by
  rcases k with(k|k)|k|⟨i,k⟩
  ·exact .inl k
  ·exact .inr (.inr k)
  ·exact .inr (.inl k)
  ·cases k) rfl
theorem VP{w':World}{E':List Pl}:Ext (ctx (below z w E pb) w' E' eW) (ctx z w' E' pb):=
 Ext.same rfl rfl (λb k=>by
  rcases k with k|k|k
  ·exact .inl (.inl k)
  ·exact .inr (.inl k)
  ·exact .inl (.inr k)) rfl
theorem St.called(h:St X z s a w E pb){w':World}{E':List Pl}{σ':Heap}(ho:Out (below z w E pb) w' E')(hh:kL (ctx (below z w E pb) w' E' eW) σ'):St X z (s.heap σ') a w' E' pb:=by
 have agp:∀p∈E',w.heap.size<=p.b\/∃q∈E,q.b=p.b:=ho.fresh
 have hx:Ext (ctx z w E pb) (ctx z w' E' pb):=by
  refine⟨ho.size,λb hb hn=>⟨ho.stay b hb (λp hp e=>hn (.inr (.inl ⟨p,hp,e⟩))),?_⟩,ho.env,rfl⟩;rintro(k|⟨p,hp,k⟩|k)
  ·exact hn (.inl k)
  ·rcases agp p hp with e|⟨q,hq,e⟩
   ·simp only[ctx]at hb;omega
   ·exact hn (.inr (.inl ⟨q,hq,e.trans k⟩))
  ·exact hn (.inr (.inr k))
 refine h.ext hx (λi b hb=>⟨hb,ho.stay b (h.priv i b hb).2.1 (h.priv i b hb).2.2⟩) (λi b hb=>⟨(h.priv i b hb).1,xB (h.priv i b hb).2.1 ho.size,λp hp e=>?_⟩) h.inj
  (hh.mono VP rfl (λp hp=>rfl)) ?_
 ·rcases agp p hp with k|⟨q,hq,k⟩
  ·have:=(h.priv i b hb).2.1;omega
  ·exact(h.priv i b hb).2.2 q hq (k.trans e)
 ·have o:=h.out;refine⟨ho.os.trans o.os,ho.tape.trans o.tape,ho.output.trans o.output,UT o.size ho.size,λb hb hp=>?_,λi p hp=>?_,λi p hp=>?_,o.lt,o.mine⟩
  ·rw[ho.stay b (xB hb o.size) (λp hpE e=>?_)]
   ·exact o.stay b hb hp
   ·rcases o.fresh p hpE with k|⟨q,hq,k⟩
    ·omega
    ·exact hp q hq (k.trans e)
  ·rcases ho.fresh' i p hp with k|⟨q,hq,k⟩
   ·exact .inl (UT o.size k)
   ·rcases o.fresh' i q hq with k'|⟨q',Ee,k'⟩
    ·exact .inl (k▸k')
    ·exact .inr ⟨q',Ee,k'.trans k⟩
  ·obtain⟨p',h1,h2⟩:=o.env i p hp;obtain⟨p'',h3,h4⟩:=ho.env i p' h1;refine⟨p'',h3,?_⟩;rcases h2 with rfl|⟨h2,h5⟩
   ·exact h4
   ·rcases h4 with rfl|⟨h6,h7⟩
    ·exact .inr ⟨h2,h5⟩
    ·exact .inr ⟨h2,by omega⟩
theorem ab1(h:St X z s a w E pb):kL (ctx (below z w E pb) w E eW) s.σ:=h.heap.mono ar6 rfl (λp hp=>rfl)
theorem ad4(h:St X z s a w E pb):∀b,(below z w E pb).X b->b<(below z w E pb).w.heap.size:=by
 rintro b (k|⟨i,k⟩)
 ·exact xB (h.out.lt b k) h.out.size
 ·exact(h.priv i b k).2.1
theorem MA(h:St X z s a w E pb){f:FuncId}{args:List AV}{vs:Array Value}{r:AV}{σ':Heap}(hc:rE X.P X.nm f args s.σ r σ')(ha:aX (ctx z w E pb) args vs.toList){o:Oper}{K:Act->World->Prop}{Q:Exit->Act->World->Prop}
  (ho:(execOp a.eval o).run X.P w=(callFunc f vs).run X.P w) (hK:∀v w' E',St X z (s.heap σ') a w' E' pb->ay (ctx z w' E' pb) r v->K (a.put o.dst v) w'):o.wp X.P a w K Q:=by
 rcases hc with hc|hc
 ·obtain⟨g,hg,hc⟩:=hc;unfold Oper.wp;rw[ho,hg,Oper.upon_enter];refine(hc (below z w E pb) vs h.nm.symm (ad4 h) (ab1 h) (Vz ar6 _ _ ha)).mono ?_;rintro e w' ⟨v,E',rfl,h1,h2,h3⟩;exact hK v w' E' (h.called h1 h2) (YF VP _ _ h3)
 ·obtain⟨v,w',E',k1,h1,h2,h3⟩:=hc (below z w E pb) vs h.nm.symm (ad4 h) (ab1 h) (Vz ar6 _ _ ha);unfold Oper.wp;rw[ho,show(callFunc f vs).run X.P w=_ from k1,Oper.upon_value];exact hK v w' E' (h.called h1 h2) (YF VP _ _ h3)
theorem aaR{f:FuncId}{c:Call}(hc:c.callee=.value (.func f)){dst:Option Tmp}{ty:TypeId}{pos:String}{af:Array Edge}{g:Option (Nat×Bool)}:
  (execOp a.eval ⟨dst,.call c,ty,pos,af,g⟩).run X.P w=(callFunc f (c.args.map a.eval)).run X.P w:=by
 simp [execOp,resolve,hc,Act.eval,Deferred.ofValue,invoke]
theorem aBO{f:FuncId}{caps:Array Value}{x:Operand}{c:Call}(hc:c.callee=.value x)(hx:a.eval x=.func (.func f) #[] caps){dst:Option Tmp}{ty:TypeId}{pos:String}{af:Array Edge}{g:Option (Nat×Bool)}:
  (execOp a.eval ⟨dst,.call c,ty,pos,af,g⟩).run X.P w=(callFunc f (c.args.map a.eval++caps)).run X.P w:=by
 simp [execOp,resolve,hc,hx,Deferred.ofValue,invoke]
theorem agF(hs:fA X)(h:St X z s a w E pb){tag:Option (Nat×Bool)}(ht:vA a tag){o:Oper}{av:AV}(hv:jA X o s tag=δ av){K:Act->World->Prop}{Q:Exit->Act->World->Prop}
  (hK:∀v w' E',St X z s a w' E' pb->ay (ctx z w' E' pb) av v->K (a.put o.dst v) w'):o.wp X.P a w K Q:=by
 by_cases hc:∀c,o.op=.call c->∃b,c.callee=.builtin b
 ·obtain⟨v,w',h1,h2,h3⟩:=atf h ht hv hc;unfold Oper.wp;rw[h1,Oper.upon_value];exact hK v w' E (h.grow h2) h3
 ·obtain⟨dst,op,ty,pos,af,g⟩:=o
  have:∃c,op=.call c/\∀b,c.callee≠.builtin b:=by refine aEf λhn=>hc λc e=>aEf λhb=>hn ⟨c,e,λb e'=>hb ⟨b,e'⟩⟩
  obtain⟨c,rfl,hb⟩:=this;simp only[jA]at hv
  have quiet:∀r,Wi r s.σ=δ av->r=δ (av,s.σ):=by
   intro r hr;unfold Wi at hr;obtain⟨p,h1,h2⟩:=ct.1 hr;split at h2
   ·rename_i he;injection h2 with h2
    rw[h1,<-he,<-h2]
   ·cases h2
  have hargs:(c.args.map a.eval).toList=c.args.toList.map a.eval:=by simp
  have hheap:s.heap s.σ=s:=rfl;cases Kk:c.callee with
  |builtin b=>exact absurd Kk (hb b)
  |invoke rr m=>rw[Kk]at hv;cases hv
  |value x=>
   rw[Kk]at hv;cases x with
   |func f=>simp only at hv;have hq:=hs.call _ _ _ _ _ (quiet _ hv);refine MA h hq (by rw[hargs];exact JK h _) (aaR Kk) (λv w' E' h1 h2=>?_);exact hK v w' E' h1 h2
   |tmp t=>
    simp only at hv;have hq:=quiet _ hv;have r:=gX h (.tmp t);generalize ev X s (.tmp t)=vx at *
    cases vx<;>simp only[A.l8]at hq<;>first|(cases hq;done)|skip
    rename_i fn0 MZ;simp only[ay]at r;obtain⟨f,cs,e1,e2,e3⟩:=r;rw[<-e2]at hq;have Ee:X.dyn (X.nm.getD f 0) (c.args.toList.map (ev X s)++MZ) s.σ=δ (av,s.σ):=by rw[h.nm];exact hq
    refine MA h (hs.dyn _ _ _ _ _ Ee) (vs:=c.args.map a.eval++cs) (by rw[aDU,hargs];exact(JK h _).append e3) (aBO Kk e1) (λv w' E' h1 h2=>?_);exact hK v w' E' h1 h2
   |const v=>
    simp only at hv;have hq:=quiet _ hv;have r:=gX h (.const v);generalize ev X s (.const v)=vx at *
    cases vx<;>simp only[A.l8]at hq<;>first|(cases hq;done)|skip
    rename_i fn0 MZ;simp only[ay]at r;obtain⟨f,cs,e1,e2,e3⟩:=r;rw[<-e2]at hq;have Ee:X.dyn (X.nm.getD f 0) (c.args.toList.map (ev X s)++MZ) s.σ=δ (av,s.σ):=by rw[h.nm];exact hq
    refine MA h (hs.dyn _ _ _ _ _ Ee) (vs:=c.args.map a.eval++cs) (by rw[aDU,hargs];exact(JK h _).append e3) (aBO Kk e1) (λv w' E' h1 h2=>?_);exact hK v w' E' h1 h2
   |global g=>simp only[ev,A.l8]at hv;have:=quiet _ hv;cases this
theorem agE(h:St X z s a w E pb){tag:Option (Nat×Bool)}(ht:vA a tag){o:Oper}{b off:Nat}(hv:mX X o s tag=δ (b,δ off)):
  (∃k,pb b=δ k/\(execOp a.eval o).run X.P w=.ok (.value (.pointer (δ ⟨k,off,μ⟩))) w):=by
 obtain⟨dst,op,ty,pos,af,g⟩:=o;cases op<;>simp only[mX]at hv<;>first|(cases hv;done)|skip
 case nilCheck x=>
  split at hv
  ·rename_i b' off' hp;injection hv with hv
   injection hv with hb hv
   subst hb;obtain⟨cs,h1,h2⟩:=ct.1 hv;simp only[Θ]at h2;subst h2;obtain⟨k,k1,k2,_⟩:=Jv h ht hp h1;exact⟨k,k1,by simp [execOp,k2]⟩
  ·cases hv
 case fieldAddr t x f=>
  split at hv
  ·rename_i b' off' hp;injection hv with hv
   injection hv with hb hv
   subst hb;split at hv
   ·rename_i fo ft hf;split at hv
    ·rename_i i hi;cases h0:(i.size==0)
     ·rw[h0]at hv;simp only[bQ]at hv;obtain⟨cs,h1,h2⟩:=ct.1 hv;simp only[Θ]at h2;subst h2;obtain⟨k,k1,k2,_⟩:=Jv h ht hp h1;obtain⟨fs,fl,e1,e2,e3,e4⟩:=Qf hf;have hsz:(sizeOf fl.type).run X.P w=.ok i.size w:=by rw[e4];simp [sizeOf,zc w hi]
      have mG:¬i.size=0:=by simpa using h0
      exact⟨k,k1,by simp [execOp,Instr.fieldAt,run_underlying e1,e2,k2,V2,fieldPlace,hsz,mG,e3,th]⟩
     ·rw[h0]at hv;cases hv
    ·cases hv
   ·cases hv
  ·cases hv
 case indexAddr t x i=>
  split at hv
  ·rename_i b' off' hp;injection hv with hv
   injection hv with hb hv
   subst hb;split at hv
   ·rename_i len e hd;split at hv
    ·rename_i ie hie;obtain⟨cs,h1,h2⟩:=ct.1 hv;obtain⟨n,h3,h4⟩:=ct.1 h2;simp only[Θ]at h4;subst h4;obtain⟨k,k1,k2,_⟩:=Jv h ht hp h1;obtain⟨kk,e1,e2⟩:=MD (c:=ctx z w E pb) h3 (gX h i);have hsz:(sizeOf e).run X.P w=.ok ie.size w:=by simp [sizeOf,zc w hie]
     exact⟨k,k1,by simp [execOp,aDs,run_underlying hd,e1,k2,asIntOf,hsz,e2,V2,th]⟩
    ·cases hv
   ·cases hv
  ·cases hv
theorem aeb{c:RC}{b:Nat}{cs:List AV}(h:Df c b cs):∃arr t,c.w.heap[b]? =δ (.cells arr t (0,0))/\aX c cs arr.toList/\∀x∈arr.toList,fS x=θ:=by
 obtain⟨⟨arr,t,h1,h2⟩,h3⟩:=h;obtain⟨vs,k1,k2,k3⟩:=h3.O4
 have:arr.toList=vs:=by
  apply List.ext_getElem?;intro i;by_cases hi:i<vs.length
  ·have:=k3 i vs[i] (by simp [hi]);rw[YW,BE h1]at this;rw[UE,this];simp [hi]
  ·have hl:=k1.length;rw[rK (by simp;omega),rK (by omega)]
 rw[<-this]at k1 k2;exact⟨arr,t,h1,k1,k2⟩
theorem VH{P:Program}{t:TypeId}{b off:Nat}{v:Value}{arr:Array Value}{bt:TypeId}(hb:w.heap[b]? =δ (.cells arr bt (0,0)))(hsz:v.cells.size=P.cellsOf t)(ht:(P.info? t).isSome=θ)(ho:∀x∈v.cells.toList,fS x=θ)(hl:off+v.cells.toList.length<=arr.size):
  (Instr.storeAt t (.pointer (δ ⟨b,off,μ⟩)) v).run P w=.ok () (w.fO b (.cells (iY arr off v.cells.toList) bt (0,0))):=by
 obtain⟨i,hi⟩:=Option.isSome_iff_exists.1 ht;have:=IW (P:=P) (b:=b) (off:=off) (t:=bt) v.cells.toList 0 w arr hb (by simpa using hl) ho;simp [Instr.storeAt,V2,storeVar,L6 w hi,hsz,this]
theorem aa3{P:Program}{t:TypeId}{d:TypeDesc}(h:P.underlying t=δ d):(P.info? t).isSome=θ:=by obtain⟨i,hi⟩:=ae1 h;rw[hi];rfl
theorem ES(arr:Array Value)(o:Nat)(l:List Value)(h:o+l.length<=arr.size)(j:Nat):(iY arr o l)[j]? =if o<=j/\j<o+l.length then l[j-o]? else arr[j]? :=by
 unfold iY;rw[List.getElem?_toArray];have h1:(arr.toList.take o).length=o:=by simp;omega
 by_cases hj:j<o
 ·rw[aO (by omega),lp,iS (by omega),WG hj,UE]
 ·rw[lp,jq (by omega),h1];by_cases hk:j<o+l.length
  ·rw[aP ⟨by omega,hk⟩,iS (by omega)]
  ·rw[aO (by omega),jq (by omega),ZW,UE];congr 1;omega
theorem aoF(h:St X z s a w E pb){t:TypeId}{x:AV}{pv v:Value}{vv:AV}{new:List AV}{σ':Heap}(hc:B3 X t vv=δ new)(rv:ay (ctx z w E pb) vv v)(hst:XZ x new s.σ=δ σ')(rx:ay (ctx z w E pb) x pv):
  ∃w',(Instr.storeAt t pv v).run X.P w=.ok () w'/\St X z (s.heap σ') a w' E pb:=by
 obtain⟨r1,r2,r3,d,hd⟩:=Jk X hc rv;have hi:=aa3 hd;cases x<;>simp only[XZ]at hst<;>first|(cases hst;done)|skip
 case op id off=>
  simp only[ay]at rx;obtain⟨p,e1,e2,rfl⟩:=rx;split at hst
  ·rename_i cs hs;obtain⟨cs',h1,h2⟩:=fF.1 hst;subst h2;obtain⟨hg,aw9⟩:=h.heap.blk id p _ e1 hs;obtain⟨arr,bt,k1,k2,k3⟩:=aeb aw9;obtain⟨k4,k5⟩:=k2.iY h1 r1;refine⟨_,VH k1 r3 hi r2 k5,h.B9 e1 _ _ λhx=>?_⟩;have hlt:p.b<w.heap.size:=h.heap.lt (p:=p) (dm e1);have hh:=xh (w:=w) (.cells (iY arr off v.cells.toList) bt (0,0)) hlt;have k6:=Vz hx _ _ k4;exact⟨hg,⟨_,_,hh,by have:=k6.length;simpa using this.symm⟩,bY.CC hh k6 (JQ k3 r2) (λi hi=>by simp)⟩
  ·cases hst
 case oe id g i off=>
  simp only[ay]at rx;obtain⟨HY,p,e1,e2,q,rfl,rx⟩:=rx;split at hst
  ·rename_i g' sz es hs;split at hst
   ·rename_i hgg;subst hgg;obtain⟨e,h1,h2⟩:=ct.1 hst;obtain⟨e',h3,h4⟩:=fF.1 h2;subst h4;obtain⟨j1,j2,j3,j4,⟨arr,bt,j5,j6⟩,j7,j8,j9⟩:=h.heap.blk id p _ e1 hs;have hq:=rx j1.symm;subst hq;obtain⟨hel,hcs⟩:=cA.nth j8 h1
    have hsp:off+new.length<=e.length/\e'=e.take off++new++e.drop (off+new.length):=by
     unfold ir at h3;split at h3
     ·injection h3 with h3;exact⟨by assumption,h3.symm⟩
     ·cases h3
    have hlen:i<es.length:=(bG.1 h1).1
    have hbound:p.base+i*sz+sz<=arr.size:=by have:(i+1)*sz<=es.length*sz:=tM _ hlen;rw[iG]at this;rw[j6];omega
    have hl:new.length=v.cells.toList.length:=r1.length;have k5:p.base+i*p.sz+off+v.cells.toList.length<=arr.size:=by rw[j3];omega
    refine⟨_,VH j5 r3 hi r2 k5,h.B9 e1 _ _ λhx=>?_⟩;have hlt:p.b<w.heap.size:=h.heap.lt (p:=p) (dm e1);have hh:=xh (w:=w) (.cells (iY arr (p.base+i*p.sz+off) v.cells.toList) bt (0,0)) hlt;have hcell:∀j,(w.fO p.b (.cells (iY arr (p.base+i*p.sz+off) v.cells.toList) bt (0,0))).cell? ⟨p.b,j,μ⟩=(iY arr (p.base+i*p.sz+off) v.cells.toList)[j]? :=λj=>BE hh
    have hold:∀j,w.cell? ⟨p.b,j,μ⟩=arr[j]? :=λj=>BE j5
    obtain⟨azT,Zf⟩:=hsp;have hsz:p.sz=sz:=j3;rw[hsz]at k5 hcell
    have out:∀j,(j<p.base+i*sz+off\/p.base+i*sz+off+new.length<=j)->(w.fO p.b (.cells (iY arr (p.base+i*p.sz+off) v.cells.toList) bt (0,0))).cell? ⟨p.b,j,μ⟩=w.cell? ⟨p.b,j,μ⟩:=by intro j hj;rw[hsz,hcell,hold,ES _ _ _ k5,aO (by omega)]
    refine⟨j1,j2,j3,j4,⟨_,_,hh,by rw[hsz,aBs _ _ _ k5];exact j6⟩,by simpa using j7,cA.of λj x hj=>?_,EP hh (JQ (j9 _ _ _ j5) r2)⟩;rw[kE]at hj;by_cases hij:i=j
    ·subst hij;rw[aP rfl,aP hlen]at hj;injection hj with hj;subst hj
     refine⟨by rw[Zf];simp;omega,aD5 λk av hk=>?_⟩;by_cases hin:off<=k/\k<off+new.length
     ·have hnk:new[k-off]? =δ av:=by rw[Zf,lp,jq (by simp;omega)]at hk;rw[iS (by simp;omega)]at hk;rw[<-hk];congr 1;simp;omega
      obtain⟨u,m1,m2⟩:=r1.nth hnk;refine⟨u,?_,r2 u (dm m1),YF hx _ _ m2⟩;show(w.fO p.b (.cells (iY arr (p.base+i*p.sz+off) v.cells.toList) bt (0,0))).cell? ⟨p.b,p.base+i*sz+k,μ⟩=_;rw[hsz,hcell,ES _ _ _ k5,aP (by omega),<-m1];congr 1;omega
     ·have hek:e[k]? =δ av:=by
       rw[Zf]at hk;by_cases hk1:k<off
       ·rw[lp,iS (by simp;omega),WG hk1]at hk;exact hk
       ·rw[jq (by simp;omega),ZW]at hk;rw[<-hk];congr 1;simp;omega
      obtain⟨u,m1,m2,m3⟩:=aDt hcs hek;refine⟨u,?_,m2,YF hx _ _ m3⟩;rw[<-m1];exact out _ (by omega)
    ·rw[aO hij]at hj;obtain⟨m1,m2⟩:=cA.nth j8 hj;refine⟨m1,aD5 λk av hk=>?_⟩;obtain⟨u,n1,n2,n3⟩:=aDt m2 hk;refine⟨u,?_,n2,YF hx _ _ n3⟩;rw[<-n1];have wS:k<sz:=by rw[<-m1];exact(bG.1 hk).1
     refine out _ ?_;rcases Nat.lt_or_gt_of_ne hij with hlt'|hgt
     ·right;have:(i+1)*sz<=j*sz:=tM _ hlt';rw[iG]at this;omega
     ·left;have:(j+1)*sz<=i*sz:=tM _ hgt;rw[iG]at this;omega
   ·cases hst
  ·cases hst
end
end
section
open Go.RowKit
section
variable {X : Fx} {z : Z} {s : AS} {a : Act} {w w' : World} {E : List Pl} {pb : Nat -> Option Nat}
theorem St.move(h:St X z s a w E pb){id:Nat}{p p':Pl}{blk:aW}(hi:E[id]? =δ p)(hg:0<p.g/\p.g<p'.g)(hos:w'.os=w.os)(htp:w'.tape=w.tape)(hout:w'.output=w.output)(hsz:w.heap.size<=w'.heap.size)
  (Si:∀b,b≠p.b->b<w.heap.size->w'.heap[b]? =w.heap[b]?) (hb:p'.b=p.b\/(w.heap.size<=p'.b/\p'.b<w'.heap.size))
  (hk:Ext (ctx z w E pb) (ctx z w' (E.set id p') pb)->ur (ctx z w' (E.set id p') pb) p' blk):
  St X z (s.heap (s.σ.set id blk)) a w' (E.set id p') pb/\Ext (ctx z w E pb) (ctx z w' (E.set id p') pb):=by
 have hm:p∈E:=dm hi;have hid:id<E.length:=(bG.1 hi).1;have hX:(ctx z w E pb).X p.b:=.inr (.inl ⟨p,hm,rfl⟩)
 have hmem:∀q∈E.set id p',q=p'\/(q∈E):=λq hq=>by
  rcases List.mem_or_eq_of_mem_set hq with e|e
  ·exact .inr e
  ·exact .inl e
 have kR:∀(j:Nat)(q:Pl),(E.set id p')[j]? =δ q->(j=id/\q=p')\/(j≠id/\E[j]? =δ q):=λj q hq=>by
  rw[kE]at hq;by_cases e:id=j
  ·subst e;rw[aP rfl,aP hid]at hq;injection hq with hq;exact .inl ⟨rfl,hq.symm⟩
  ·rw[aO e]at hq;exact .inr ⟨λe'=>e e'.symm,hq⟩
 have hx:Ext (ctx z w E pb) (ctx z w' (E.set id p') pb):=by
  refine⟨hsz,λb oU hn=>⟨Si b (λe=>hn (e▸hX)) oU,?_⟩,λj q hq=>?_,rfl⟩
  ·rintro(k|⟨q,hq,k⟩|k)
   ·exact hn (.inl k)
   ·rcases hmem q hq with rfl|hq
    ·rcases hb with e|⟨e,_⟩
     ·exact hn (by rw[<-k,e];exact hX)
     ·simp only[ctx]at oU;omega
    ·exact hn (.inr (.inl ⟨q,hq,k⟩))
   ·exact hn (.inr (.inr k))
  ·by_cases e:id=j
   ·subst e;simp only[ctx]at hq;rw[hi]at hq;injection hq with hq;subst hq
    exact⟨p',by simp [ctx,hid],.inr hg⟩
   ·exact⟨q,by simp only[ctx]at hq ⊢;rw[kE,aO e];exact hq,.inl rfl⟩
 refine⟨h.ext hx (λi b hpb=>⟨hpb,Si b (λe=>(h.priv i b hpb).2.2 p hm e.symm) (h.priv i b hpb).2.1⟩) (λi b hpb=>⟨(h.priv i b hpb).1,xB (h.priv i b hpb).2.1 hsz,λq hq=>?_⟩) h.inj
  ⟨by have:=h.heap.len;simpa [ctx]using this,λi j q r hq hr he=>?_,λj q x hq eZ=>?_⟩ ?_,hx⟩
 ·rcases hmem q hq with rfl|hq
  ·rcases hb with e|⟨e,_⟩
   ·rw[e];exact(h.priv i b hpb).2.2 p hm
   ·have:=(h.priv i b hpb).2.1;omega
  ·exact(h.priv i b hpb).2.2 q hq
 ·have lt:∀(j:Nat)(q:Pl),E[j]? =δ q->q.b<w.heap.size:=λj q hq=>h.heap.lt (p:=q) (dm hq)
  rcases kR i q hq with⟨e1,e2⟩|⟨e1,e2⟩<;>rcases kR j r hr with⟨e3,e4⟩|⟨e3,e4⟩
  ·rw[e1,e3]
  ·exfalso;rw[e2]at he;rcases hb with e|⟨e,_⟩
   ·exact e3 (h.heap.inj j id r p e4 hi (by rw[<-he,e]))
   ·have:=lt j r e4;omega
  ·exfalso;rw[e4]at he;rcases hb with e|⟨e,_⟩
   ·exact e1 (h.heap.inj i id q p e2 hi (by rw[he,e]))
   ·have:=lt i q e2;omega
  ·exact h.heap.inj i j q r e2 e4 he
 ·rcases kR j q hq with⟨e1,e2⟩|⟨e1,e2⟩
  ·subst e1;subst e2;rw[kE,aP rfl]at eZ;split at eZ
   ·injection eZ with eZ;subst eZ;exact hk hx
   ·cases eZ
  ·rw[kE,aO (λe=>e1 e.symm)]at eZ;exact(h.heap.blk j q x e2 eZ).mono hx (Si q.b (λe=>e1 (h.heap.inj j id q p e2 hi e)) (h.heap.lt (p:=q) (dm e2)))
 ·have o:=h.out;refine⟨hos.trans o.os,htp.trans o.tape,hout.trans o.output,UT o.size hsz,λb oU hp=>?_,λj q hq=>?_,λj q hq=>?_,o.lt,o.mine⟩
  ·rw[Si b (λe=>?_) (xB oU o.size)]
   ·exact o.stay b oU hp
   ·rcases o.fresh p hm with k|⟨r,hr,k⟩
    ·omega
    ·exact hp r hr (k.trans e.symm)
  ·rcases kR j q hq with⟨e1,e2⟩|⟨e1,e2⟩
   ·subst e1;subst e2;rcases hb with e|⟨e,_⟩
    ·rcases o.fresh' j p hi with k|⟨r,hr,k⟩
     ·exact .inl (by rw[e];exact k)
     ·exact .inr ⟨r,hr,by rw[e];exact k⟩
    ·exact .inl (UT o.size e)
   ·exact o.fresh' j q e2
  ·obtain⟨q',h1,h2⟩:=o.env j q hq;by_cases e:id=j
   ·subst e;rw[hi]at h1;injection h1 with h1;subst h1
    refine⟨p',by simp [hid],?_⟩;rcases h2 with rfl|⟨h2,h3⟩
    ·exact .inr hg
    ·exact .inr ⟨h2,by omega⟩
   ·exact⟨q',by rw[kE,aO e];exact h1,h2⟩
theorem cA.cells{c:RC}{sz b:Nat}:∀{es:List (List AV)}{off:Nat},cA c sz b off es->bY c b off es.flatten/\es.flatten.length=es.length*sz
 |[],off,h=>by simp [bY]
 |e::es,off,h=>by
  simp only[cA]at h;obtain⟨h1,h2,h3⟩:=h;obtain⟨k1,k2⟩:=cA.cells h3;refine⟨aD5 λi av hi=>?_,by simp [k2,h1,iG];omega⟩;simp only[XS]at hi;by_cases hl:i<e.length
  ·rw[iS hl]at hi;exact aDt h2 hi
  ·rw[jq (by omega)]at hi;have:=aDt k1 hi;rwa[show off+sz+(i-e.length)=off+i by omega]at this
theorem ab7{P:Program}{c:RC}{σ:Heap}(hh:kL c σ){sz:Nat}{y:AV}{v:Value}{ys:List (List AV)}(h:VB sz y σ=δ ys)(r:ay c y v):
  ∃(q:Option Addr)(cap:Nat)(cs:List Value),v=.slice q ys.length cap/\(∀w2:World,w2.heap=c.w.heap->(XF sz ys.length v).run P w2=.ok cs.toArray w2)/\aX c ys.flatten cs/\(∀x∈cs,fS x=θ)/\cs.length=ys.length*sz/\(∀e∈ys,e.length=sz)/\(∀n,n<=ys.length->∀w2:World,w2.heap=c.w.heap->(XF sz n v).run P w2=.ok (cs.take (n*sz)).toArray w2):=by
 have main:∀(q:Option Addr)(cap:Nat)(ys:List (List AV)),(ys=[]\/∃b off,q=δ ⟨b,off,μ⟩/\cA c sz b off ys)->
   ∃cs:List Value,(∀w2:World,w2.heap=c.w.heap->(XF sz ys.length (.slice q ys.length cap)).run P w2=.ok cs.toArray w2)/\aX c ys.flatten cs/\(∀x∈cs,fS x=θ)/\cs.length=ys.length*sz/\(∀e∈ys,e.length=sz)/\(∀n,n<=ys.length->∀w2:World,w2.heap=c.w.heap->(XF sz n (.slice q ys.length cap)).run P w2=.ok (cs.take (n*sz)).toArray w2):=by
  intro q cap ys hq;rcases hq with rfl|⟨b,off,rfl,r⟩
  ·refine⟨[],λw2 _=>?_,by simp [aX],by simp,by simp,by simp,λn hn w2 _=>by
    simp at hn;subst hn
    cases q<;>simp [XF,loadCells,loadCellsFrom]⟩
   cases q with
   |none=>simp [XF]
   |some q=>simp [XF,loadCells,loadCellsFrom]
  ·obtain⟨k1,k2⟩:=r.cells;obtain⟨vs,j1,j2,j3⟩:=k1.O4;have hl:vs.length=ys.length*sz:=by rw[<-j1.length,k2]
   refine⟨vs,λw2 hw=>?_,j1,j2,hl,λe he=>?_,λn hn w2 hw=>?_⟩
   ·have:=run_loadCells_list (P:=P) w2 ⟨b,off,μ⟩ vs (λj v hj=>by rw[th];have:=j3 j v hj;simpa [Xd,hw]using this);rw[hl]at this;simp [XF,this]
   ·obtain⟨i,hi,rfl⟩:=T5.1 he;exact(cA.nth r (i:=i) (by simp [hi])).1
   ·have hnl:n*sz<=vs.length:=by rw[hl];exact tM _ hn
    have:=run_loadCells_list (P:=P) w2 ⟨b,off,μ⟩ (vs.take (n*sz)) (λj v hj=>by
     rw[th];have:=j3 j v (by rw[aCY]at hj;split at hj;exact hj;cases hj)
     simpa [Xd,hw]using this)
    rw[rM,Nat.min_eq_left hnl]at this;simp [XF,this]
 cases y<;>simp only[VB]at h<;>first|(cases h;done)|skip
 case aA=>
  injection h with h;subst h
  simp only[ay]at r;subst r;obtain⟨cs,k⟩:=main μ 0 [] (.inl rfl);exact⟨μ,0,cs,rfl,k⟩
 case ez=>
  injection h with h;subst h
  simp only[ay]at r;obtain⟨q,rfl⟩:=r;obtain⟨cs,k⟩:=main q 0 [] (.inl rfl);exact⟨q,0,cs,rfl,k⟩
 case sl sz' es=>
  split at h
  ·rename_i hs;subst hs;injection h with h;subst h
   simp only[ay]at r;obtain⟨q,cap,rfl,hcap,_,r⟩:=r
   obtain⟨cs,k⟩:=main q cap es (by
    rcases r with r|⟨b,off,e,_,_,r⟩
    ·exact .inl r
    ·exact .inr ⟨b,off,e,r⟩)
   exact⟨q,cap,cs,rfl,k⟩
  ·cases h
 case os id g je off len=>
  simp only[ay]at r;obtain⟨hg,p,e1,e2,q,cap,rfl,hcap,r⟩:=r;split at h
  ·rename_i g' sz' es hs;split at h
   ·rename_i hc;obtain⟨rfl,rfl,rfl,hle⟩:=hc;injection h with h;subst h
    obtain⟨j1,j2,j3,j4,j5,j6,j7,_⟩:=hh.blk id p _ e1 hs;obtain⟨k1,k2,k3⟩:=r j1.symm;have hlen:((es.drop off).take len).length=len:=by simp;omega
    obtain⟨cs,k⟩:=main (δ q) cap ((es.drop off).take len) (by
     by_cases hz:len=0
     ·left;subst hz;simp
     ·right;rcases k2 with k2|k2
      ·omega
      ·exact⟨_,_,by rw[k2],by rw[j3];exact(j7.drop off).take len⟩)
    rw[hlen]at k ⊢;exact⟨δ q,cap,cs,rfl,k⟩
   ·cases h
  ·rename_i g' sz' es hs;split at h
   ·rename_i hc;obtain⟨rfl,rfl,rfl,hle⟩:=hc;injection h with h;subst h
    obtain⟨j1,j2,j3,j4,j5,j6,j7,_⟩:=hh.blk id p _ e1 hs;obtain⟨k1,k2,k3⟩:=r j1.symm;have hlen:((es.drop off).take len).length=len:=by simp;omega
    obtain⟨cs,k⟩:=main (δ q) cap ((es.drop off).take len) (by
     by_cases hz:len=0
     ·left;subst hz;simp
     ·right;rcases k2 with k2|k2
      ·omega
      ·exact⟨_,_,by rw[k2],by rw[j3];exact(j7.drop off).take len⟩)
    rw[hlen]at k ⊢;exact⟨δ q,cap,cs,rfl,k⟩
   ·cases h
  ·cases h
theorem ar7{P:Program}{c:RC}{σ:Heap}(hh:kL c σ){sz:Nat}{y:AV}{v:Value}{ys:List (List AV)}(h:VB sz y σ=δ ys)(r:ay c y v):
  ∃(q:Option Addr)(cap:Nat)(cs:List Value),v=.slice q ys.length cap/\(∀w2:World,w2.heap=c.w.heap->(XF sz ys.length v).run P w2=.ok cs.toArray w2)/\aX c ys.flatten cs/\(∀x∈cs,fS x=θ)/\cs.length=ys.length*sz/\(∀e∈ys,e.length=sz):=by
 obtain⟨q,cap,cs,h1,h2,h3,h4,h5,h6,_⟩:=ab7 (P:=P) hh h r;exact⟨q,cap,cs,h1,h2,h3,h4,h5,h6⟩
theorem abg{sz:Nat}:∀{ys:List (List AV)}{n:Nat},(∀y∈ys,y.length=sz)->n<=ys.length->(ys.take n).flatten=ys.flatten.take (n*sz)
 |[],n,_,hn=>by simp
 |y::ys,0,_,_=>by simp
 |y::ys,n+1,h,hn=>by
  simp at hn;rw[List.take_succ_cons,XS,XS,abg (λx hx=>h x (by simp [hx])) hn,List.take_append,h y (by simp),iG,Nat.one_mul];congr 1
  ·rw[n9 (by rw[h y (by simp)];omega)]
  ·congr 1;omega
theorem aoO(P:Program){e:TypeId}{i:TypeInfo}{zv:Value}(hi:P.info? e=δ i)(hz:i.zero=δ zv)(w:World):(zeroValue e).run P w=.ok zv w:=by simp [zeroValue,zc w hi,hz]
theorem ak9{P:Program}{t u e e' ty:TypeId}{i:TypeInfo}{zv:Value}(ht:P.underlying t=δ (.slice e))(hu:P.underlying u=δ (.slice e'))(hi:P.info? e=δ i)(hz:i.zero=δ zv)(hb0:i.bytes≠0)
  {base q:Option Addr} {sLen sCap n cap:Nat} {olds news:List Value} (hold:(XF i.size sLen (.slice base sLen sCap)).run P w.drew=.ok olds.toArray w.drew) (hnew:(XF i.size n (.slice q n cap)).run P w.drew=.ok news.toArray w.drew)
  (hg:sCap<sLen+n) (hm:sLen+n<=140737488355328 / i.bytes):
  (Xr #[t,u] ty #[.slice base sLen sCap,.slice q n cap]).run P w=
   .ok (.slice (δ ⟨w.heap.size,0,μ⟩) (sLen+n) (grownCap w (sLen+n) sCap e)) (w.drew.alloc (.cells (olds.toArray++news.toArray++T6 zv.cells (grownCap w (sLen+n) sCap e-(sLen+n))) e)):=by
 have Sc:(sLen+n)*i.bytes<=140737488355328:=by have:=tM i.bytes hm;have:=aDk 140737488355328 i.bytes;omega
 have h48:=growslice_fits hg Sc;have hn:¬(sLen+n<=sCap):=by omega
 have NK:¬(281474976710656<Builtin.nextslicecap (sLen+n) sCap*i.bytes):=by omega
 simp [Xr,run_underlying ht,run_underlying hu,sizeOf,typeInfo,zeroValue,hi,hz,U6,hn,NK,hb0,U3,hold,hnew,newRow,grownCap];congr 2;apply Array.ext';simp [lp]
theorem bY.sub{c:RC}{b:Nat}{arr:Array Value}{t:TypeId}{fz:Nat×Nat}(h:c.w.heap[b]? =δ (.cells arr t fz)){cs:List AV}{vs pre suf:List Value}(ha:arr.toList=pre++vs++suf)(hr:aX c cs vs)(ho:∀x∈vs,fS x=θ):bY c b pre.length cs:=by
 refine bY.CC h hr ho λi hi=>?_
 rw[<-UE,ha,lp,jq (by omega),iS (by omega)];congr 1;omega
theorem bY.Hu{c:RC}{sz b:Nat}:∀{es:List (List AV)}{off:Nat},(∀e∈es,e.length=sz)->bY c b off es.flatten->cA c sz b off es
 |[],off,_,_=>by simp [cA]
 |e::es,off,hl,h=>by
  simp only[XS]at h;have he:=hl e (by simp);simp only[cA];refine⟨he,?_,bY.Hu (λx hx=>hl x (by simp [hx])) ?_⟩
  ·have:=h.take e.length;simpa using this
  ·have:=h.drop e.length;rw[he]at this;simpa [<-he]using this
theorem cA.append{c:RC}{sz b:Nat}:∀{l m:List (List AV)}{off:Nat},cA c sz b off l->cA c sz b (off+l.length*sz) m->cA c sz b off (l++m)
 |[],m,off,h,k=>by simpa using k
 |e::l,m,off,h,k=>by simp only[cA,oJ]at h ⊢;refine⟨h.1,h.2.1,cA.append h.2.2 ?_⟩;rw[show off+sz+l.length*sz=off+(e::l).length*sz by simp [iG];omega];exact k
theorem cA.keep{c c':RC}(hx:Ext c c'){sz b:Nat}{es:List (List AV)}{off:Nat}(h:cA c sz b off es)(hc:∀j,off<=j->j<off+es.length*sz->c'.w.cell? ⟨b,j,μ⟩=c.w.cell? ⟨b,j,μ⟩):cA c' sz b off es:=by
 refine cA.of λi e hi=>?_
 obtain⟨h1,h2⟩:=cA.nth h hi;refine⟨h1,aD5 λk av hk=>?_⟩;obtain⟨u,k1,k2,k3⟩:=aDt h2 hk;refine⟨u,?_,k2,YF hx _ _ k3⟩;have hil:i<es.length:=(bG.1 hi).1;have wS:k<sz:=by rw[<-h1];exact(bG.1 hk).1
 have:(i+1)*sz<=es.length*sz:=tM _ hil;rw[iG]at this;rw[<-k1];exact hc _ (by omega) (by omega)
theorem Q5(h:St X z s a w E pb){id:Nat}{p:Pl}{g sz i:Nat}{es ys:List (List AV)}{arr:Array Value}{bt:TypeId}{news:List Value}(e1:E[id]? =δ p)(hs:s.σ[id]? =δ (.arr g sz es))(hb:w.heap[p.b]? =δ (.cells arr bt (0,0)))
  (hfit:i+ys.length<=es.length) (hr:aX (ctx z w E pb) ys.flatten news) (ho:∀x∈news,fS x=θ) (hy:∀y∈ys,y.length=sz) (hn:news.length=ys.length*sz):
  p.base+i*sz+news.length<=arr.size/\St X z (s.heap (s.σ.set id (.arr g sz (es.take i++ys++es.drop (i+ys.length))))) a (w.fO p.b (.cells (iY arr (p.base+i*sz) news) bt (0,0))) E pb:=by
 obtain⟨j1,j2,j3,j4,⟨zQ,bt',j5,j6⟩,j7,j8,j9⟩:=h.heap.blk id p _ e1 hs;have j5c:w.heap[p.b]? =δ (.cells zQ bt' (0,0)):=j5;rw[hb]at j5c;injection j5c with j5d
 injection j5d with j5e j5f
 subst j5e j5f;have hm:(i+ys.length)*sz<=es.length*sz:=tM _ hfit;rw[iG]at hm;have E3:p.base+i*sz+news.length<=arr.size:=by rw[hn,j6];omega
 refine⟨E3,h.B9 e1 _ _ λhx=>?_⟩;have hlt:p.b<w.heap.size:=h.heap.lt (p:=p) (dm e1);have hh:=xh (w:=w) (.cells (iY arr (p.base+i*sz) news) bt (0,0)) hlt;have hcell:∀j,(w.fO p.b (.cells (iY arr (p.base+i*sz) news) bt (0,0))).cell? ⟨p.b,j,μ⟩=(iY arr (p.base+i*sz) news)[j]? :=λj=>BE hh
 have hold:∀j,w.cell? ⟨p.b,j,μ⟩=arr[j]? :=λj=>BE hb
 have out:∀j,(j<p.base+i*sz\/p.base+i*sz+news.length<=j)->(w.fO p.b (.cells (iY arr (p.base+i*sz) news) bt (0,0))).cell? ⟨p.b,j,μ⟩=w.cell? ⟨p.b,j,μ⟩:=by intro j hj;rw[hcell,hold,ES _ _ _ E3,aO (by omega)]
 have hti:(es.take i).length=i:=by simp;omega
 refine⟨j1,j2,j3,j4,⟨_,_,hh,by rw[aBs _ _ _ E3];exact j6⟩,?_,?_,EP hh (JQ (j9 _ _ _ hb) ho)⟩
 ·have:(es.take i++ys++es.drop (i+ys.length)).length=es.length:=by simp;omega
  rw[this];exact j7
 ·refine cA.append (cA.append (cA.keep hx (j8.take i) λj hj1 hj2=>?_) ?_) (cA.keep hx ?_ λj hj1 hj2=>?_)
  ·rw[hti]at hj2;exact out j (.inl hj2)
  ·rw[hti];refine bY.Hu hy ?_;refine bY.CC hh (Vz hx _ _ hr) ho λj hj=>?_
   show(iY arr (p.base+i*sz) news)[p.base+i*sz+j]? =_;rw[ES _ _ _ E3,aP (by omega)];congr 1;omega
  ·have:=j8.drop (i+ys.length);have e:(es.take i++ys).length=i+ys.length:=by simp;omega
   rw[e];exact this
  ·have e:(es.take i++ys).length=i+ys.length:=by simp;omega
   rw[e,iG]at hj1;refine out j (.inr ?_);rw[hn];omega
theorem Qa{zv:Value}{sz:Nat}(h:zv.cells.size=sz)(h0:sz≠0)(n:Nat):(T6 zv.cells n).toList=(Z3 n zv.cells.toList).flatten:=by have:=range_zero zv.cells.toList (by simp;omega) n;rw[<-this];simp [T6]
theorem aqq(h:St X z s a w E pb){t e ty:TypeId}{i:TypeInfo}{zv:Value}{zs:List AV}(ht:X.P.underlying t=δ (.slice e))(hzv:∀w,(zeroValue e).run X.P w=.ok zv w)(hzs:zv.cells.size=i.size)(h0:i.size≠0)
  (vX:∀c,aX c zs zv.cells.toList) (hone:∀x∈zv.cells.toList,fS x=θ) {x:AV} {v:Value} {σ':Heap} (iI:A.GG i.size zs x s.σ=δ σ') (rx:ay (ctx z w E pb) x v):
  ∃w',(Vy #[t] ty #[v]).run X.P w=.ok (.tuple #[]) w'/\St X z (s.heap σ') a w' E pb:=by
 unfold A.GG at iI;have hs:s.heap s.σ=s:=rfl;split at iI
 ·injection iI with iI;subst iI
  simp only[ay]at rx;subst rx;exact⟨w,by simp [Vy,run_underlying ht],by rw[hs];exact h⟩
 ·injection iI with iI;subst iI
  simp only[ay]at rx;obtain⟨q,rfl⟩:=rx;exact⟨w,by cases q<;>simp [Vy,run_underlying ht],by rw[hs];exact h⟩
 ·injection iI with iI;subst iI
  simp only[ay]at rx;obtain⟨q,cap,rfl,_⟩:=rx;exact⟨w,by cases q<;>simp [Vy,run_underlying ht],by rw[hs];exact h⟩
 ·rename_i id g je off len;simp only[ay]at rx;obtain⟨hg,p,e1,e2,qa,cp,rfl,hcap,rx⟩:=rx;split at iI
  ·rename_i g' sz' es hs';split at iI
   ·rename_i hc;obtain⟨hc1,wQ,Eb,OD⟩:=hc;subst hc1;subst wQ;subst Eb;obtain⟨j1,j2,j3,j4,⟨arr,bt,j5,j6⟩,j7,j8,j9⟩:=h.heap.blk id p _ e1 hs';obtain⟨k1,k2,k3⟩:=rx j1.symm;split at iI
    ·rename_i hl;subst hl;injection iI with iI;subst iI
     exact⟨w,by simp [Vy,run_underlying ht],by rw[hs];exact h⟩
    ·rename_i hl;injection iI with iI;subst iI
     have Br:qa=⟨p.b,p.base+off*p.sz,μ⟩:=by
      rcases k2 with k2|k2
      ·omega
      ·exact k2
     have hsz:p.sz=i.size:=j3;have hzl:zs.length=i.size:=by rw[(vX (ctx z w E pb)).length];simpa using hzs
     have Fo:aX (ctx z w E pb) (Z3 len zs).flatten (T6 zv.cells len).toList:=by rw[Qa hzs h0];exact(vX _).flatten len
     have ahj:∀x∈(T6 zv.cells len).toList,fS x=θ:=by rw[Qa hzs h0];intro x hx;obtain⟨l,sQ,rS⟩:=aCT.1 hx;rw[Xl]at sQ;exact hone x (sQ.2▸rS)
     have hlen:(T6 zv.cells len).toList.length=len*i.size:=by rw[Y8,size_zeroCells,hzs]
     obtain⟨q1,q2⟩:=Q5 h (i:=off) (ys:=Z3 len zs) e1 hs' j5 (by simpa using OD) Fo ahj (λy hy=>by rw[(Xl.1 hy).2];exact hzl) (by simpa using hlen);have hst:=IW (P:=X.P) (b:=p.b) (off:=p.base+off*i.size) (t:=bt) (T6 zv.cells len).toList 0 w arr j5 (by omega) ahj;rw[Vk]at q2;refine⟨_,?_,q2⟩;obtain⟨m,rfl⟩:∃m,len=m+1:=⟨len-1,by omega⟩
     rw[Br,hsz];simp [Vy,run_underlying ht,hzv,hst]
   ·cases iI
  ·cases iI
 ·cases iI
structure au1 (P : Program) (t u : TypeId) (vy : Value) (e : TypeId) (i : TypeInfo) (zv : Value) (n : Nat) (news : List Value) (w : World) : Prop where
 KX:∀(w2:World)(ty:TypeId)(base:Option Addr)(sLen sCap:Nat),w2.heap=w.heap->sLen+n<=sCap->
  (Xr #[t,u] ty #[.slice base sLen sCap,vy]).run P w2=((match base with|some a=>storeCells (a.add (sLen*i.size)) news 0|none=>pure ()) >>= λ_=>pure (Value.slice base (sLen+n) sCap):Sem Value).run P w2
 new:∀(ty:TypeId)(base:Option Addr)(sLen sCap:Nat)(olds:List Value),(XF i.size sLen (.slice base sLen sCap)).run P w.drew=.ok olds.toArray w.drew->sCap<sLen+n->sLen+n<=140737488355328 / i.bytes->
  (Xr #[t,u] ty #[.slice base sLen sCap,vy]).run P w=
   .ok (.slice (δ ⟨w.heap.size,0,μ⟩) (sLen+n) (grownCap w (sLen+n) sCap e)) (w.drew.alloc (.cells (olds.toArray++news.toArray++T6 zv.cells (grownCap w (sLen+n) sCap e-(sLen+n))) e))
theorem adx{zv:Value}{sz:Nat}(hzs:zv.cells.size=sz)(h0:sz≠0)(hone:∀x∈zv.cells.toList,fS x=θ)(n:Nat):∀x∈(T6 zv.cells n).toList,fS x=θ:=by rw[Qa hzs h0];intro x hx;obtain⟨l,sQ,rS⟩:=aCT.1 hx;rw[Xl]at sQ;exact hone x (sQ.2▸rS)
theorem RN{zv:Value}{sz:Nat}(hzs:zv.cells.size=sz)(h0:sz≠0)(hone:∀x∈zv.cells.toList,fS x=θ){olds news:List Value}(h1:∀x∈olds,fS x=θ)(h2:∀x∈news,fS x=θ)(n:Nat):
  ∀x∈(olds.toArray++news.toArray++T6 zv.cells n).toList,fS x=θ:=by
 intro x hx;simp only[aDU,aDi,jQ]at hx;rcases hx with(hx|hx)|hx
 ·exact h1 x hx
 ·exact h2 x hx
 ·exact adx hzs h0 hone n x hx
theorem abY(h:St X z s a w E pb){t u e ty:TypeId}{i:TypeInfo}{zv:Value}(hzs:zv.cells.size=i.size)(h0:i.size≠0)(hone:∀x∈zv.cells.toList,fS x=θ)
  {x:AV} {v vy:Value} {r:AV} {σ':Heap} {ys:List (List AV)} {news:List Value} (hs2:au1 X.P t u vy e i zv ys.length news w) (hn2:aX (ctx z w E pb) ys.flatten news) (rT:∀x∈news,fS x=θ) (vU:news.length=ys.length*i.size) (yV:∀y∈ys,y.length=i.size)
  (hap:A.p6 i.size (140737488355328 / i.bytes) x ys s.σ=δ (r,σ')) (rx:ay (ctx z w E pb) x v):
  ∃k w' E',(Xr #[t,u] ty #[v,vy]).run X.P w=.ok k w'/\St X z (s.heap σ') a w' E' pb/\ay (ctx z w' E' pb) r k:=by
 unfold A.p6 at hap;have hne:ys≠[]->0<ys.length:=λk=>by cases ys with|nil=>exact absurd rfl k|cons y ys=>simp
 have SE:∀k,(T6 zv.cells k).size=k*i.size:=λk=>by rw[size_zeroCells,hzs]
 cases x<;>simp only at hap<;>first|(cases hap;done)|skip
 case aA=>
  simp only[ay]at rx;subst rx;split at hap
  ·rename_i hys;subst hys;simp only[Θ,T4]at hap;obtain⟨rfl,rfl⟩:=hap;exact⟨.slice μ 0 0,w,E,by have:=hs2.KX w ty μ 0 0 rfl (by simp);simpa using this,h,by simp [ay]⟩
  ·rename_i hys;have hpos:=hne hys;split at hap
   ·rename_i avv;simp only[Θ,T4]at hap;obtain⟨rfl,rfl⟩:=hap;have hrun:=hs2.new ty μ 0 0 [] (by simp [XF]) (by omega) (by omega);simp only[YW]at hrun;refine⟨_,_,E++[⟨w.heap.size,0,ys.length,i.size,(news.toArray++T6 zv.cells (grownCap w ys.length 0 e-ys.length)).size⟩],hrun,?_,?_⟩
    ·have hst:=(h.grow (w':=w.drew) ((Below.refl _ _).drew)).C9 (.cells (#[]++news.toArray++T6 zv.cells (grownCap w ys.length 0 e-ys.length)) e) (.arr ys.length i.size ys)
      ⟨w.heap.size,0,ys.length,i.size,(news.toArray++T6 zv.cells (grownCap w ys.length 0 e-ys.length)).size⟩ rfl (λhx=>?_)
     ·exact hst
     ·have hb:(w.drew.alloc (.cells (#[]++news.toArray++T6 zv.cells (grownCap w ys.length 0 e-ys.length)) e)).heap[w.heap.size]? =δ (.cells (#[]++news.toArray++T6 zv.cells (grownCap w ys.length 0 e-ys.length)) e (0,0)):=(Uc w.drew _).1;refine⟨rfl,hpos,rfl,by omega,⟨_,_,hb,by simp⟩,by simp [vU],bY.Hu yV ?_,EP hb (RN hzs h0 hone (olds:=[]) (by simp) rT _)⟩;exact bY.sub (pre:=[]) (suf:=(T6 zv.cells (grownCap w ys.length 0 e-ys.length)).toList) hb (by simp) (Vz (Ext.trans (zm ((Below.refl _ _).drew)) hx) _ _ hn2) rT
    ·simp only[ay];have hlen:=h.heap.len;simp only[ctx]at hlen;refine⟨hpos,⟨w.heap.size,0,ys.length,i.size,_⟩,by show(E++[_])[s.σ.length]? =_;rw[<-hlen];exact E8,bN _,_,_,rfl,grownCap_ge _ _ _ _,λ_=>⟨rfl,.inr (by simp),?_⟩⟩;have:=grownCap_ge w ys.length 0 e;simp only[WZ,SE,Zs,vU,YW];rw[<-iG];congr 1;omega
   ·cases hap
 case ez=>
  simp only[ay]at rx;obtain⟨qb,rfl⟩:=rx;split at hap
  ·rename_i hys;subst hys;simp only[Θ,T4]at hap;obtain⟨rfl,rfl⟩:=hap;have hnews:news=[]:=by simpa using vU
   subst hnews;exact⟨.slice qb 0 0,w,E,by have:=hs2.KX w ty qb 0 0 rfl (by simp);cases qb<;>simpa [storeCells]using this,h,by simp [ay]⟩
  ·rename_i hys;have hpos:=hne hys;split at hap
   ·rename_i avv;simp only[Θ,T4]at hap;obtain⟨rfl,rfl⟩:=hap;have hrun:=hs2.new ty qb 0 0 [] (by cases qb<;>simp [XF,loadCells,loadCellsFrom]) (by omega) (by omega);simp only[YW]at hrun;refine⟨_,_,E++[⟨w.heap.size,0,ys.length,i.size,(news.toArray++T6 zv.cells (grownCap w ys.length 0 e-ys.length)).size⟩],hrun,?_,?_⟩
    ·have hst:=(h.grow (w':=w.drew) ((Below.refl _ _).drew)).C9 (.cells (#[]++news.toArray++T6 zv.cells (grownCap w ys.length 0 e-ys.length)) e) (.arr ys.length i.size ys)
      ⟨w.heap.size,0,ys.length,i.size,(news.toArray++T6 zv.cells (grownCap w ys.length 0 e-ys.length)).size⟩ rfl (λhx=>?_)
     ·exact hst
     ·have hb:(w.drew.alloc (.cells (#[]++news.toArray++T6 zv.cells (grownCap w ys.length 0 e-ys.length)) e)).heap[w.heap.size]? =δ (.cells (#[]++news.toArray++T6 zv.cells (grownCap w ys.length 0 e-ys.length)) e (0,0)):=(Uc w.drew _).1;refine⟨rfl,hpos,rfl,by omega,⟨_,_,hb,by simp⟩,by simp [vU],bY.Hu yV ?_,EP hb (RN hzs h0 hone (olds:=[]) (by simp) rT _)⟩;exact bY.sub (pre:=[]) (suf:=(T6 zv.cells (grownCap w ys.length 0 e-ys.length)).toList) hb (by simp) (Vz (Ext.trans (zm ((Below.refl _ _).drew)) hx) _ _ hn2) rT
    ·simp only[ay];have hlen:=h.heap.len;simp only[ctx]at hlen;refine⟨hpos,⟨w.heap.size,0,ys.length,i.size,_⟩,by show(E++[_])[s.σ.length]? =_;rw[<-hlen];exact E8,bN _,_,_,rfl,grownCap_ge _ _ _ _,λ_=>⟨rfl,.inr (by simp),?_⟩⟩;have:=grownCap_ge w ys.length 0 e;simp only[WZ,SE,Zs,vU,YW];rw[<-iG];congr 1;omega
   ·cases hap
 case os CD og je off len=>
  have rx0:=rx;simp only[ay]at rx;obtain⟨hg,p,e1,e2,qa,cp,rfl,hcap,rx⟩:=rx;split at hap
  ·rename_i g' sz' es hs;split at hap
   ·rename_i hc;obtain⟨hc1,wQ,Eb,OD,hc5⟩:=hc;subst hc1;subst wQ;subst Eb;obtain⟨j1,j2,j3,j4,⟨arr,bt,j5,j6⟩,j7,j8,j9⟩:=h.heap.blk CD p _ e1 hs;obtain⟨k1,k2,k3⟩:=rx j1.symm;split at hap
    ·rename_i hys;subst hys;simp only[Θ,T4]at hap;obtain⟨rfl,rfl⟩:=hap;have hnews:news=[]:=by simpa using vU
     subst hnews;exact⟨.slice (δ qa) len cp,w,E,by have:=hs2.KX w ty (δ qa) len cp rfl (by simpa using hcap);simpa [storeCells]using this,h,rx0⟩
    ·rename_i hys;have hpos:=hne hys;have YV:(off+cp)*i.size=p.vM-p.base:=by rw[<-j3];omega
     split at hap
     ·rename_i hin;simp only[Θ,T4]at hap;obtain⟨rfl,rfl⟩:=hap;obtain⟨q1,q2⟩:=Q5 h (i:=off+len) (ys:=ys) e1 hs j5 (by omega) hn2 rT yV vU
      have iI:es.length<=off+cp:=by
       have h1:es.length*i.size<=(off+cp)*i.size:=by rw[YV];omega
       exact Yv h1 (by omega)
      have hroom:len+ys.length<=cp:=by omega
      have Br:qa=⟨p.b,p.base+off*p.sz,μ⟩:=by
       rcases k2 with k2|k2
       ·omega
       ·exact k2
      have hsz:p.sz=i.size:=j3;have hst:=IW (P:=X.P) (b:=p.b) (off:=p.base+(off+len)*i.size) (t:=bt) news 0 w arr j5 (by omega) rT
      have hrun:(Xr #[t,u] ty #[.slice (δ qa) len cp,vy]).run X.P w=.ok (.slice (δ qa) (len+ys.length) cp) (w.fO p.b (.cells (iY arr (p.base+(off+len)*i.size) news) bt (0,0))):=by
       have Am:qa.add (len*i.size)=⟨p.b,p.base+(off+len)*i.size,μ⟩:=by rw[Br,th,hsz];congr 1;rw[iG];omega
       rw[hs2.KX w ty (δ qa) len cp rfl hroom];simp [Am,hst]
      refine⟨_,_,E,hrun,q2,?_⟩;simp only[ay];exact⟨hg,p,e1,e2,qa,cp,rfl,hroom,λ_=>⟨hsz,.inr Br,k3⟩⟩
     simp only[Θ,T4]at hap;obtain⟨rfl,rfl⟩:=hap;have pP:((es.drop off).take len).length=len:=by simp;omega
     by_cases hroom:len+ys.length<=cp
     ·-- room
      have Br:qa=⟨p.b,p.base+off*p.sz,μ⟩:=by
       rcases k2 with k2|k2
       ·omega
       ·exact k2
      have hsz:p.sz=i.size:=j3;have KP:(off+(len+ys.length))*i.size<=(off+cp)*i.size:=tM _ (by omega);rw[hsz]at k3;have azF:(off+len)*i.size=off*i.size+len*i.size:=iG _ _ _;have azn:(off+(len+ys.length))*i.size=(off+len)*i.size+ys.length*i.size:=by rw[<-lT,iG]
      have hfit:p.base+(off+len)*i.size+0+news.length<=arr.size:=by rw[vU,j6];omega
      have hst:=IW (P:=X.P) (b:=p.b) (off:=p.base+(off+len)*i.size) (t:=bt) news 0 w arr j5 hfit rT
      have hrun:(Xr #[t,u] ty #[.slice (δ qa) len cp,vy]).run X.P w=.ok (.slice (δ qa) (len+ys.length) cp) (w.fO p.b (.cells (iY arr (p.base+(off+len)*i.size) news) bt (0,0))):=by
       have Am:qa.add (len*i.size)=⟨p.b,p.base+(off+len)*i.size,μ⟩:=by rw[Br,th,hsz];congr 1;omega
       rw[hs2.KX w ty (δ qa) len cp rfl hroom];simp [Am,hst]
      have hlt:p.b<w.heap.size:=h.heap.lt (p:=p) (dm e1);have hh:=xh (w:=w) (.cells (iY arr (p.base+(off+len)*i.size) news) bt (0,0)) hlt;have E3:p.base+(off+len)*i.size+news.length<=arr.size:=by omega
      have oV:=h.move (id:=CD) (p:=p) (p':=⟨p.b,p.base+off*i.size,og+ys.length,i.size,p.vM⟩) (w':=w.fO p.b (.cells (iY arr (p.base+(off+len)*i.size) news) bt (0,0))) (blk:=.arr (og+ys.length) i.size ((es.drop off).take len++ys)) e1
       ⟨by omega,by show p.g<og+ys.length;omega⟩ rfl rfl rfl (by rw[zk];exact bN _) (λb hb _=>xX _ (λe=>hb e.symm)) (.inl rfl) (λhx=>by
        have hcell:∀j,(w.fO p.b (.cells (iY arr (p.base+(off+len)*i.size) news) bt (0,0))).cell? ⟨p.b,j,μ⟩=(iY arr (p.base+(off+len)*i.size) news)[j]? :=λj=>BE hh
        have hold:∀j,w.cell? ⟨p.b,j,μ⟩=arr[j]? :=λj=>BE j5
        refine⟨rfl,by show 0<og+ys.length;omega,rfl,by omega,⟨_,_,hh,by rw[aBs _ _ _ E3];exact j6⟩,?_,?_,EP hh (JQ (j9 _ _ _ j5) rT)⟩
        ·simp only[ZY,pP,iG];omega
        ·refine cA.append (cA.keep hx ((j8.drop off).take len) λj hj1 hj2=>?_) ?_
         ·rw[pP]at hj2;replace hj1:p.base+off*i.size<=j:=hj1;replace hj2:j<p.base+off*i.size+len*i.size:=hj2;show(w.fO p.b _).cell? _=w.cell? _;rw[hcell,hold,ES _ _ _ E3,aO (by omega)]
         ·rw[pP];refine bY.Hu yV ?_;refine bY.CC hh (Vz hx _ _ hn2) rT λj hj=>?_
          show(iY arr (p.base+(off+len)*i.size) news)[p.base+off*i.size+len*i.size+j]? =_;rw[ES _ _ _ E3,aP (by omega)]
          congr 1;omega)
      refine⟨_,_,_,hrun,oV.1,?_⟩;simp only[ay];have hid:CD<E.length:=(bG.1 e1).1;refine⟨by omega,⟨p.b,p.base+off*i.size,og+ys.length,i.size,p.vM⟩,by simp [ctx,hid],bN _,qa,cp,rfl,hroom,λ_=>⟨rfl,.inr (by rw[Br,hsz];simp),?_⟩⟩;simp only[YW];rw[iG]at k3;omega
     ·have hel:VB i.size (.os CD og i.size off len) s.σ=δ ((es.drop off).take len):=by simp only[VB,hs];rw[aP (by simp;omega)]
      obtain⟨q2,awU,olds,Oq,wT,ho2,OH,OI,ho5⟩:=ar7 (P:=X.P) h.heap hel rx0;rw[pP]at wT OI;injection Oq with e2a e2b e2c
      have hrun:=hs2.new ty _ _ _ _ (wT w.drew rfl) (by omega) hc5;obtain⟨nc,hnc⟩:∃nc,nc=grownCap w (len+ys.length) cp e:=⟨_,rfl⟩
      have M3:len+ys.length<=nc:=by rw[hnc];exact grownCap_ge _ _ _ _
      rw[<-hnc]at hrun;obtain⟨row,hrow⟩:∃row,row=olds.toArray++news.toArray++T6 zv.cells (nc-(len+ys.length)):=⟨_,rfl⟩
      have NS:row.size=nc*i.size:=by rw[hrow];simp only[WZ,SE,Zs,vU,OI];rw[<-iG,<-iG];congr 1;omega
      have hrl:row.toList=olds++news++(T6 zv.cells (nc-(len+ys.length))).toList:=by rw[hrow];simp
      rw[<-hrow]at hrun;have hb:(w.drew.alloc (.cells row e)).heap[w.heap.size]? =δ (.cells row e (0,0)):=(Uc w.drew _).1
      have oV:=h.move (id:=CD) (p:=p) (p':=⟨w.heap.size,0,og+ys.length,i.size,row.size⟩) (w':=w.drew.alloc (.cells row e)) (blk:=.arr (og+ys.length) i.size ((es.drop off).take len++ys)) e1
       ⟨by omega,by show p.g<og+ys.length;omega⟩ rfl rfl rfl (by simp) (λb hb' hlt=>by rw[Below.heap_alloc w.drew _ b (by simpa using hlt)];rfl) (.inr ⟨bN _,by simp⟩) (λhx=>by
        refine⟨rfl,by show 0<og+ys.length;omega,rfl,by omega,⟨_,_,hb,rfl⟩,?_,bY.Hu (λx hx'=>?_) ?_,EP hb (by rw[hrow];exact RN hzs h0 hone OH rT _)⟩
        ·simp only[ZY,pP,YW,NS];exact tM _ M3
        ·rcases jQ.1 hx' with hx'|hx'
         ·exact ho5 x hx'
         ·exact yV x hx'
        ·rw[aDj]
         exact bY.sub (pre:=[]) (vs:=olds++news) (suf:=(T6 zv.cells (nc-(len+ys.length))).toList) hb (by rw[hrl];simp) (Vz hx _ _ (ho2.append hn2)) (λx hx'=>by
          rcases jQ.1 hx' with hx'|hx'
          ·exact OH x hx'
          ·exact rT x hx'))
      refine⟨_,_,_,hrun,oV.1,?_⟩;simp only[ay];have hid:CD<E.length:=(bG.1 e1).1;refine⟨by omega,⟨w.heap.size,0,og+ys.length,i.size,row.size⟩,by simp [ctx,hid],bN _,_,_,rfl,M3,λ_=>⟨rfl,.inr (by simp),?_⟩⟩;simp only[YW,NS]
   ·cases hap
  ·rename_i g' sz' es hs;split at hap
   ·rename_i hc;obtain⟨hc1,wQ,Eb,OD,hc5,hc6⟩:=hc;subst hc1;subst wQ;subst Eb;obtain⟨j1,j2,j3,j4,⟨arr,bt,j5,j6⟩,j7,j8,j9⟩:=h.heap.blk CD p _ e1 hs;obtain⟨k1,k2,k3⟩:=rx j1.symm;simp only[Θ,T4]at hap;obtain⟨rfl,rfl⟩:=hap;have pP:((es.drop off).take len).length=len:=by simp;omega
    have YV:(off+cp)*i.size=es.length*i.size:=by rw[<-j3]at j7 ⊢;omega
    have hco:off+cp=es.length:=Nat.eq_of_mul_eq_mul_right j4 YV
    have hel:VB i.size (.os CD og i.size off len) s.σ=δ ((es.drop off).take len):=by simp only[VB,hs];rw[aP (by simp;omega)]
    obtain⟨q2,awU,olds,Oq,wT,ho2,OH,OI,ho5⟩:=ar7 (P:=X.P) h.heap hel rx0;rw[pP]at wT OI;injection Oq with e2a e2b e2c
    have hrun:=hs2.new ty _ _ _ _ (wT w.drew rfl) (by omega) hc5;obtain⟨nc,hnc⟩:∃nc,nc=grownCap w (len+ys.length) cp e:=⟨_,rfl⟩
    have M3:len+ys.length<=nc:=by rw[hnc];exact grownCap_ge _ _ _ _
    rw[<-hnc]at hrun;obtain⟨row,hrow⟩:∃row,row=olds.toArray++news.toArray++T6 zv.cells (nc-(len+ys.length)):=⟨_,rfl⟩
    have NS:row.size=nc*i.size:=by rw[hrow];simp only[WZ,SE,Zs,vU,OI];rw[<-iG,<-iG];congr 1;omega
    have hrl:row.toList=olds++news++(T6 zv.cells (nc-(len+ys.length))).toList:=by rw[hrow];simp
    rw[<-hrow]at hrun;have hb:(w.drew.alloc (.cells row e)).heap[w.heap.size]? =δ (.cells row e (0,0)):=(Uc w.drew _).1
    have hst:=(h.grow (w':=w.drew) ((Below.refl _ _).drew)).C9 (.cells row e) (.arr (len+ys.length) i.size ((es.drop off).take len++ys))
      ⟨w.heap.size,0,len+ys.length,i.size,row.size⟩ rfl (λhx=>by
      refine⟨rfl,by show 0<len+ys.length;omega,rfl,by omega,⟨_,_,hb,rfl⟩,?_,bY.Hu (λx hx'=>?_) ?_,EP hb (by rw[hrow];exact RN hzs h0 hone OH rT _)⟩
      ·simp only[ZY,pP,YW,NS];exact tM _ M3
      ·rcases jQ.1 hx' with hx'|hx'
       ·exact ho5 x hx'
       ·exact yV x hx'
      ·rw[aDj]
       exact bY.sub (pre:=[]) (vs:=olds++news) (suf:=(T6 zv.cells (nc-(len+ys.length))).toList) hb (by rw[hrl];simp) (Vz (Ext.trans (zm ((Below.refl _ _).drew)) hx) _ _ (ho2.append hn2)) (λx hx'=>by
        rcases jQ.1 hx' with hx'|hx'
        ·exact OH x hx'
        ·exact rT x hx'))
    refine⟨_,_,_,hrun,hst,?_⟩;simp only[ay];have hlen:=h.heap.len;simp only[ctx]at hlen;refine⟨by omega,⟨w.heap.size,0,len+ys.length,i.size,row.size⟩,by show(E++[_])[s.σ.length]? =_;rw[<-hlen];exact E8,bN _,_,_,rfl,M3,λ_=>⟨rfl,.inr (by simp),?_⟩⟩;simp only[YW,NS]
   ·cases hap
  ·cases hap
theorem aoX(h:St X z s a w E pb){t u e e' ty:TypeId}{i:TypeInfo}{zv:Value}(ht:X.P.underlying t=δ (.slice e))(hu:X.P.underlying u=δ (.slice e'))(hi:X.P.info? e=δ i)(hz:i.zero=δ zv)(hzs:zv.cells.size=i.size)(h0:i.size≠0)(hb0:i.bytes≠0)(hone:∀x∈zv.cells.toList,fS x=θ)
  {x y:AV} {v vy:Value} {r:AV} {σ':Heap} (hap:WK i.size (140737488355328 / i.bytes) x y s.σ=δ (r,σ')) (rx:ay (ctx z w E pb) x v) (ry:ay (ctx z w E pb) y vy):
  ∃k w' E',(Xr #[t,u] ty #[v,vy]).run X.P w=.ok k w'/\St X z (s.heap σ') a w' E' pb/\ay (ctx z w' E' pb) r k:=by
 unfold WK at hap;obtain⟨ys,hy,hap⟩:=ct.1 hap;obtain⟨q,cap,news,rfl,hn1,hn2,rT,vU,yV⟩:=ar7 (P:=X.P) h.heap hy ry;refine abY h hzs h0 hone ⟨λw2 ty base sLen sCap hw hr=>?_,λty base sLen sCap olds ho hg hm=>ak9 ht hu hi hz hb0 ho (hn1 w.drew rfl) hg hm⟩ hn2 rT vU yV hap rx;cases base<;>simp [Xr,run_underlying ht,run_underlying hu,sizeOf,typeInfo,hi,U6,hn1 w2 hw,hr]
theorem aa0(zs:Array Value):T6 zs 0=#[]:=by apply oI.1;apply xC;rw[Y8,size_zeroCells];simp
theorem ak8{P:Program}{t u e ty:TypeId}{k k':IntKind}{i:TypeInfo}{zv:Value}(ht:P.underlying t=δ (.slice e))(hu:P.underlying u=δ (.int k))(hi:P.info? e=δ i)(hz:i.zero=δ zv)(hb0:i.bytes≠0)(h0:i.size≠0)
  {base:Option Addr} {sLen sCap n:Nat} {w2:World} (hm:n<=140737488355328 / i.bytes) (hr:sLen+n<=sCap):
  (Xr #[t,u] ty #[.slice base sLen sCap,.int k' n]).run P w2=((match base with|some a=>storeCells (a.add (sLen*i.size)) (T6 zv.cells n).toList 0|none=>pure ()) >>= λ_=>pure (Value.slice base (sLen+n) sCap):Sem Value).run P w2:=by
 have Sc:n*i.bytes<=140737488355328:=by have:=tM i.bytes hm;have:=aDk 140737488355328 i.bytes;omega
 have hle:n<=n*i.bytes:=aEm _ (by omega);have hw:ξ.wrap (n:Int)=(n:Int):=by rw[IntKind.wrap_i64];omega
 have hl:¬((281474976710656:Int)<(n:Int)*(i.bytes:Int)):=by
  have:(n:Int)*(i.bytes:Int)=((n*i.bytes:Nat):Int):=by simp
  omega
 have hlf:¬((n:Int)<0):=by omega
 by_cases hn0:n=0
 ·subst hn0;have hw0:ξ.wrap 0=0:=by decide
  have hr':sLen<=sCap:=by omega
  cases base<;>simp [Xr,run_underlying ht,run_underlying hu,sizeOf,typeInfo,hi,asInt,asIntOf,hw0,hr',aa0]
 ·have KR:n*i.size≠0:=Nat.mul_ne_zero hn0 h0;cases base<;>simp [Xr,run_underlying ht,run_underlying hu,sizeOf,typeInfo,zeroValue,hi,hz,asInt,asIntOf,hw,hl,hlf,hr,KR]
theorem akD{P:Program}{t u e ty:TypeId}{k k':IntKind}{i:TypeInfo}{zv:Value}(ht:P.underlying t=δ (.slice e))(hu:P.underlying u=δ (.int k))(hi:P.info? e=δ i)(hz:i.zero=δ zv)(hb0:i.bytes≠0)(h0:i.size≠0)
  {base:Option Addr} {sLen sCap n:Nat} {olds:List Value} (hold:(XF i.size sLen (.slice base sLen sCap)).run P w.drew=.ok olds.toArray w.drew)
  (hg:sCap<sLen+n) (hm:sLen+n<=140737488355328 / i.bytes):
  (Xr #[t,u] ty #[.slice base sLen sCap,.int k' n]).run P w=
   .ok (.slice (δ ⟨w.heap.size,0,μ⟩) (sLen+n) (grownCap w (sLen+n) sCap e)) (w.drew.alloc (.cells (olds.toArray++(T6 zv.cells n).toList.toArray++T6 zv.cells (grownCap w (sLen+n) sCap e-(sLen+n))) e)):=by
 have Sc:(sLen+n)*i.bytes<=140737488355328:=by have:=tM i.bytes hm;have:=aDk 140737488355328 i.bytes;omega
 have hle:sLen+n<=(sLen+n)*i.bytes:=aEm _ (by omega);have h48:=growslice_fits hg Sc;have hn:¬(sLen+n<=sCap):=by omega
 have NK:¬(281474976710656<Builtin.nextslicecap (sLen+n) sCap*i.bytes):=by omega
 have hw:ξ.wrap (n:Int)=(n:Int):=by rw[IntKind.wrap_i64];omega
 have hnb:n*i.bytes<=(sLen+n)*i.bytes:=tM _ (by omega)
 have hl:¬((281474976710656:Int)<(n:Int)*(i.bytes:Int)):=by
  have:(n:Int)*(i.bytes:Int)=((n*i.bytes:Nat):Int):=by simp
  omega
 have hlf:¬((n:Int)<0):=by omega
 have Bq:¬((9223372036854775807:Int)<(sLen:Int)+(n:Int)):=by omega
 by_cases hn0:n=0
 ·subst hn0;have hw0:ξ.wrap 0=0:=by decide
  have axr:¬((9223372036854775807:Int)<(sLen:Int)):=by omega
  simp only[Nat.add_zero]at hn NK ⊢;simp [Xr,run_underlying ht,run_underlying hu,sizeOf,typeInfo,zeroValue,hi,hz,asInt,asIntOf,hw0,hn,NK,hb0,U3,hold,newRow,grownCap,aa0,axr]
 ·have KR:n*i.size≠0:=Nat.mul_ne_zero hn0 h0;simp [Xr,run_underlying ht,run_underlying hu,sizeOf,typeInfo,zeroValue,hi,hz,asInt,asIntOf,hw,hl,hlf,hn,KR,NK,hb0,U3,hold,newRow,grownCap,Bq]
theorem anx(h:St X z s a w E pb){t u e ty:TypeId}{kk:IntKind}{i:TypeInfo}{zv:Value}{zs:List AV}(ht:X.P.underlying t=δ (.slice e))(hu:X.P.underlying u=δ (.int kk))(hi:X.P.info? e=δ i)(hz:i.zero=δ zv)(hzs:zv.cells.size=i.size)(h0:i.size≠0)(hb0:i.bytes≠0)
  (vX:∀c,aX c zs zv.cells.toList) (hone:∀x∈zv.cells.toList,fS x=θ)
  {x y:AV} {v vy:Value} {r:AV} {σ':Heap} (hap:A.AF i.size (140737488355328 / i.bytes) zs x y s.σ=δ (r,σ')) (rx:ay (ctx z w E pb) x v) (ry:ay (ctx z w E pb) y vy):
  ∃k w' E',(Xr #[t,u] ty #[v,vy]).run X.P w=.ok k w'/\St X z (s.heap σ') a w' E' pb/\ay (ctx z w' E' pb) r k:=by
 unfold A.AF at hap;split at hap
 ·rename_i k n;simp only[ay]at ry;subst ry;split at hap
  ·rename_i hn;obtain⟨hn1,hn2⟩:=hn;obtain⟨m,rfl⟩:∃m:Nat,n=m:=⟨n.toNat,by omega⟩
   simp only[TS]at hap;have hzl:zs.length=i.size:=by rw[(vX (ctx z w E pb)).length];simpa using hzs
   have hm:m<=140737488355328 / i.bytes:=by omega
   refine abY (e:=e) h hzs h0 hone (ys:=Z3 m zs) (news:=(T6 zv.cells m).toList) ⟨λw2 ty base sLen sCap hw hr=>?_,λty base sLen sCap olds ho hg hmm=>?_⟩ ?_ (adx hzs h0 hone m) ?_ (λy hy=>by rw[(Xl.1 hy).2];exact hzl) hap rx
   ·rw[Vk]at hr ⊢;exact ak8 ht hu hi hz hb0 h0 hm hr
   ·rw[Vk]at hg hmm ⊢;exact akD ht hu hi hz hb0 h0 ho hg hmm
   ·rw[Qa hzs h0];exact(vX _).flatten m
   ·rw[Y8,size_zeroCells,hzs,Vk]
  ·cases hap
 ·cases hap
theorem asb(h:St X z s a w E pb){t u e e' ty:TypeId}{i:TypeInfo}(ht:X.P.underlying t=δ (.slice e))(hu:X.P.underlying u=δ (.slice e'))(hi:X.P.info? e=δ i)(h0:i.size≠0)
  {x y:AV} {v vy:Value} {r:AV} {σ':Heap} (tX:A.n5 i.size x y s.σ=δ (r,σ')) (rx:ay (ctx z w E pb) x v) (ry:ay (ctx z w E pb) y vy):
  ∃k w',(Xi #[t,u] ty #[v,vy]).run X.P w=.ok k w'/\St X z (s.heap σ') a w' E pb/\ay (ctx z w' E pb) r k:=by
 unfold A.n5 at tX;obtain⟨ys,hy,tX⟩:=ct.1 tX;obtain⟨q,cap,news,rfl,hn1,hn2,rT,vU,yV,hn6⟩:=ab7 (P:=X.P) h.heap hy ry;have hs0:s.heap s.σ=s:=rfl
 have OG:(XF i.size 0 (.slice q ys.length cap)).run X.P w=.ok #[] w:=by have:=hn6 0 (kW _) w rfl;simpa using this
 cases x<;>simp only at tX<;>first|(cases tX;done)|skip
 case aA=>
  simp only[Θ,T4]at tX;obtain⟨rfl,rfl⟩:=tX;simp only[ay]at rx;subst rx;exact⟨goInt 0,w,by simp [Xi,run_underlying ht,sizeOf,typeInfo,hi,U6,OG,Nat.min],by rw[hs0];exact h,by simp [ay,goInt]⟩
 case ez=>
  simp only[Θ,T4]at tX;obtain⟨rfl,rfl⟩:=tX;simp only[ay]at rx;obtain⟨qb,rfl⟩:=rx;exact⟨goInt 0,w,by cases qb<;>simp [Xi,run_underlying ht,sizeOf,typeInfo,hi,U6,OG,storeCells],by rw[hs0];exact h,by simp [ay,goInt]⟩
 case os=>
  rename_i CD og je off len azH;simp only[ay]at rx;obtain⟨hg,p,e1,e2,qa,cp,rfl,hcap,rx⟩:=rx;split at tX
  ·rename_i g' sz' es hs;split at tX
   ·rename_i hc;obtain⟨hc1,wQ,Eb,OD⟩:=hc;subst hc1;subst wQ;subst Eb;obtain⟨j1,j2,j3,j4,⟨arr,bt,j5,j6⟩,j7,j8,j9⟩:=h.heap.blk CD p _ e1 hs;obtain⟨k1,k2,k3⟩:=rx j1.symm;have hmin:Nat.min ys.length len=(ys.take len).length:=by rw[rM];exact Nat.min_comm _ _
    split at tX
    ·rename_i hz;simp only[Θ,T4]at tX;obtain⟨rfl,rfl⟩:=tX;have hm0:Nat.min ys.length len=0:=by rcases hz with k|k<;>rw[k]<;>simp [Nat.min_def]
     refine⟨goInt 0,w,?_,by rw[hs0];exact h,by simp [ay,goInt]⟩;simp [Xi,run_underlying ht,sizeOf,typeInfo,hi,U6,hm0,OG,storeCells]
    ·rename_i hz;simp only[Θ,T4]at tX;obtain⟨rfl,rfl⟩:=tX
     have Br:qa=⟨p.b,p.base+off*p.sz,μ⟩:=by
      rcases k2 with k2|k2
      ·omega
      ·exact k2
     have hsz:p.sz=i.size:=j3;obtain⟨n,hn⟩:∃n,n=(ys.take len).length:=⟨_,rfl⟩
     have hnl:n<=ys.length/\n<=len:=by rw[hn,rM];omega
     have SV:=hn6 n hnl.1 w rfl;have hyt:ys.take len=ys.take n:=by rw[hn,rM];rw[List.take_eq_take_iff];omega
     have avr:(news.take (n*i.size)).length=n*i.size:=by rw[rM,vU];exact Nat.min_eq_left (tM _ hnl.1)
     have Fo:aX (ctx z w E pb) (ys.take n).flatten (news.take (n*i.size)):=by have:(ys.take n).flatten=ys.flatten.take (n*i.size):=abg yV hnl.1;rw[this];exact hn2.take _
     obtain⟨q1,q2⟩:=Q5 h (i:=off) (ys:=ys.take n) e1 hs j5 (by rw[rM];omega) Fo (λx hx=>rT x (sA hx)) (λy hy=>yV y (sA hy)) (by rw[avr,rM];congr 1;omega);have hst:=IW (P:=X.P) (b:=p.b) (off:=p.base+off*i.size) (t:=bt) (news.take (n*i.size)) 0 w arr j5 (by omega) (λx hx=>rT x (sA hx));rw[hyt];have hln:(ys.take n).length=n:=by rw[rM];omega
     refine⟨goInt n,_,?_,q2,?_⟩
     ·rw[Br,hsz];simp [Xi,run_underlying ht,sizeOf,typeInfo,hi,U6,hmin,<-hn,SV,hst]
     ·rw[hln];simp [ay,goInt]
   ·cases tX
  ·cases tX
theorem all_some{R:Type}{p:Nat->Prop}{k:Nat->Option R}{r:R}(h:A.all p k=δ r){n:Nat}(hn:p n):k n=δ r:=by
 unfold A.all at h;split at h
 ·rename_i hx;injection h with h
  rw[<-h];exact Vm hx n hn
 ·cases h
theorem arY(h:St X z s a w E pb){R:Type}{k:Nat->Heap->Option R}{r:R}{t e ty:TypeId}(ht:X.P.underlying t=δ (.slice e)){x:AV}{v:Value}(hk:A.Fe x s.σ k=δ r)(rx:ay (ctx z w E pb) x v):
  ∃c σ',k c σ'=δ r/\(aC1 #[t] ty #[v]).run X.P w=.ok (.int ξ (c:Int)) w/\St X z (s.heap σ') a w E pb:=by
 unfold A.Fe at hk;cases x<;>simp only at hk<;>first|(cases hk;done)|skip
 rename_i id g sz off len;simp only[ay]at rx;obtain⟨hg,p,e1,e2,qa,cp,rfl,hcap,rx⟩:=rx;split at hk
 ·rename_i g' sz' es hs;split at hk
  ·rename_i hc;obtain⟨hc1,wQ,OD⟩:=hc;subst hc1;subst wQ;obtain⟨j1,j2,j3,j4,⟨arr,bt,j5,j6⟩,j7,j8,j9⟩:=h.heap.blk id p _ e1 hs;obtain⟨k1,k2,k3⟩:=rx j1.symm;rw[k1]at k3;have hle:es.length<=off+cp:=Yv (show es.length*sz<=(off+cp)*sz by omega) j4;have hk2:=all_some hk (n:=cp) ⟨hcap,hle⟩;by_cases htt:cp=len
   ·rw[aP htt]at hk2;refine⟨cp,_,hk2,by simp [aC1,run_underlying ht,goInt],?_⟩;have CA:w.heap[p.b]? =δ (.cells arr bt (0,0)):=j5;have hel:es.length=off+cp:=by omega
    have hst:=h.B9 e1 (.cells arr bt (0,0)) (.sB g sz es) (λhx=>by
     have hsame:w.fO p.b (.cells arr bt (0,0))=w:=Mp CA;rw[hsame]
     exact⟨j1,j2,j3,j4,⟨arr,bt,j5,j6⟩,by rw[hel];omega,j8,j9⟩)
    rw[Mp CA]at hst;exact hst
   rw[aO htt]at hk2;refine⟨cp,_,hk2,by simp [aC1,run_underlying ht,goInt],?_⟩;have CA:w.heap[p.b]? =δ (.cells arr bt (0,0)):=j5
   have hst:=h.B9 e1 (.cells arr bt (0,0)) (.arr g sz (es++Z3 (off+cp-es.length) (Z3 sz .undef))) (λhx=>by
    have hsame:w.fO p.b (.cells arr bt (0,0))=w:=Mp CA;rw[hsame];refine⟨j1,j2,j3,j4,⟨arr,bt,j5,j6⟩,?_,cA.append j8 (cA.of λj x hj=>?_),j9⟩
    ·rw[ZY,Vk,show es.length+(off+cp-es.length)=off+cp by omega];omega
    ·have hjl:=(bG.1 hj).1;rw[Vk]at hjl;have hx':=dm hj;rw[Xl]at hx';rw[hx'.2];refine⟨Vk,aD5 λm av hm=>?_⟩;have hml:=(bG.1 hm).1;rw[Vk]at hml;have HV:=dm hm;rw[Xl]at HV;have hmul:(es.length+(j+1))*sz<=(off+cp)*sz:=tM _ (by omega);rw[iG,iG]at hmul;have hin:p.base+es.length*sz+j*sz+m<arr.size:=by rw[j6];omega
     refine⟨arr[p.base+es.length*sz+j*sz+m],?_,j9 _ _ _ j5 _ (by simp),by rw[HV.2];simp [ay]⟩;show w.cell? _=_
     rw[BE CA,wB hin])
   rw[Mp CA]at hst;exact hst
  ·cases hk
 ·cases hk
end
end
section
open Go.RowKit
section
variable {c : RC}
theorem Rb{k:Nat}{x y:AV}{v u:Value}(n:Nat)(h:A.qi k x y=δ θ)(r:ay c x v)(q:ay c y u):Z4 n u v=θ:=by
 unfold A.qi at h;split at h
 ·unfold A.qH at h;split at h
  ·simp only[ay]at r q;split at h
   ·injection h with h;subst_vars;simp at h;subst h;simp [Z4]
   ·cases h
  ·cases h
 ·unfold A.Ai at h;split at h
  ·simp only[ay]at r q;injection h with h;subst_vars;simp at h;subst h;simp [Z4]
  ·cases h
 ·unfold A.tV at h;split at h
  ·simp only[ay]at r q;injection h with h;subst_vars;simp only[Z4];rename_i a b
   rw[Nb]at h ⊢;rw[beq_iff_eq]at h ⊢;exact h.symm
  ·cases h
 ·cases h
theorem ab8(n:Nat):∀{ks:List Nat}{xs ys:List AV}{vs us:List Value},WS ks xs ys=δ θ->aX c xs vs->aX c ys us->us.length=vs.length/\((us.zip vs).all λ(p:Value×Value)=>Z4 n p.1 p.2)=θ
 |[],[],[],vs,us,_,r,q=>by simp only[aX]at r q;subst r;subst q;simp
 |[],[],_::_,_,_,h,_,_=>by simp [WS]at h
 |[],_::_,_,_,_,h,_,_=>by simp [WS]at h
 |_::_,[],_,_,_,h,_,_=>by simp [WS]at h
 |_::_,_::_,[],_,_,h,_,_=>by simp [WS]at h
 |k::ks,x::xs,y::ys,vs,us,h,r,q=>by simp only[WS]at h;obtain⟨p,h1,h2⟩:=ct.1 h;obtain⟨p',h3,h4⟩:=fF.1 h2;simp only[jW]at h4;obtain⟨rfl,rfl⟩:=h4;simp only[aX]at r q;obtain⟨v,vs',rfl,r1,r2⟩:=r;obtain⟨u,us',rfl,q1,q2⟩:=q;obtain⟨i1,i2⟩:=ab8 n h3 r2 q2;exact⟨by simp [i1],by simp [Rb n h1 r1 q1];simpa using i2⟩
theorem aqH{e:A.EK}{x y:AV}{v u:Value}(hk:A.lS e x=θ)(h:WN e x y=δ θ)(r:ay c x v)(q:ay c y u):Z4 10000 u v=θ:=by
 cases e<;>simp only[WN]at h;case i=>exact Rb (k:=0) _ h r q
 case b=>exact Rb (k:=1) _ h r q
 case z=>exact Rb (k:=2) _ h r q
 case p=>cases x<;>simp [A.lS]at hk
 case s ks=>
  split at h
  ·simp only[ay]at r q;obtain⟨vs,rfl,r1,_⟩:=r;obtain⟨us,rfl,q1,_⟩:=q;obtain⟨i1,i2⟩:=ab8 9999 h r1 q1;show Z4 (9999+1) _ _=θ;simp only[Z4,jW];exact⟨by simpa using i1,i2⟩
  ·cases h
theorem agP{e:A.EK}{k v:AV}:∀{bP nu:List (AV×AV)}{i:Nat}{ix:Option Nat},A.upd e k v bP=δ nu->A.xw e k bP i=δ ix->
  (ix=μ/\nu=bP++[(k,v)])\/∃j p,ix=δ (i+j)/\bP[j]? =δ p/\WN e k p.1=δ θ/\nu=bP.set j (k,v)
 |[],nu,i,ix,h,g=>by simp only[A.upd,A.xw]at h g;injection h with h;injection g with g;exact .inl ⟨g.symm,by simpa using h.symm⟩
 |(k',v')::bP,nu,i,ix,h,g=>by
  simp only[A.upd,A.xw]at h g;obtain⟨b,h1,h2⟩:=ct.1 h;rw[h1,aJ]at g;cases b
  ·simp only[bQ]at h2 g;obtain⟨e2,h3,h4⟩:=fF.1 h2;rcases agP h3 g with⟨rfl,rfl⟩|⟨j,p,rfl,k1,k2,rfl⟩
   ·exact .inl ⟨rfl,by simpa using h4.symm⟩
   ·exact .inr ⟨j+1,p,by congr 1;omega,by simpa using k1,k2,by simpa using h4.symm⟩
  ·simp only[cU]at h2 g;injection h2 with h2;injection g with g
   exact .inr ⟨0,(k',v'),g.symm,rfl,h1,by simpa using h2.symm⟩
theorem agb{e:A.EK}{k:AV}:∀{bP nu:List (AV×AV)}{i:Nat}{ix:Option Nat},A.del e k bP=δ nu->A.xw e k bP i=δ ix->
  (ix=μ/\nu=bP)\/∃j,ix=δ (i+j)/\j<bP.length/\nu=bP.eraseIdx j
 |[],nu,i,ix,h,g=>by simp only[A.del,A.xw]at h g;injection h with h;injection g with g;exact .inl ⟨g.symm,h.symm⟩
 |(k',v')::bP,nu,i,ix,h,g=>by
  simp only[A.del,A.xw]at h g;obtain⟨b,h1,h2⟩:=ct.1 h;rw[h1,aJ]at g;cases b
  ·simp only[bQ]at h2 g;obtain⟨e2,h3,h4⟩:=fF.1 h2;rcases agb h3 g with⟨rfl,rfl⟩|⟨j,rfl,k1,rfl⟩
   ·exact .inl ⟨rfl,by simpa using h4.symm⟩
   ·exact .inr ⟨j+1,by congr 1;omega,by simpa using k1,by simpa using h4.symm⟩
  ·simp only[cU]at h2 g;injection h2 with h2;injection g with g
   exact .inr ⟨0,g.symm,by simp,by simpa using h2.symm⟩
theorem adp{e:A.EK}{k v:AV}:∀{bP nu:List (AV×AV)},A.upd e k v bP=δ nu->∃r,Wh e k bP=δ r
 |[],nu,_=>⟨μ,rfl⟩
 |(k',v')::bP,nu,g=>by
  simp only[A.upd]at g;obtain⟨b,h1,h2⟩:=ct.1 g;cases b
  ·obtain⟨e2,h3,_⟩:=fF.1 (by simpa using h2);obtain⟨r,hr⟩:=adp h3;exact⟨r,by simp [Wh,h1,hr]⟩
  ·exact⟨δ v',by simp [Wh,h1]⟩
theorem ado{e:A.EK}{k:AV}:∀{bP nu:List (AV×AV)},A.del e k bP=δ nu->∃r,Wh e k bP=δ r
 |[],nu,_=>⟨μ,rfl⟩
 |(k',v')::bP,nu,g=>by
  simp only[A.del]at g;obtain⟨b,h1,h2⟩:=ct.1 g;cases b
  ·obtain⟨e2,h3,_⟩:=fF.1 (by simpa using h2);obtain⟨r,hr⟩:=ado h3;exact⟨r,by simp [Wh,h1,hr]⟩
  ·exact⟨δ v',by simp [Wh,h1]⟩
theorem eB.nth:∀{l:List (AV×AV)}{es:List MapEntry}{i:Nat}{p:AV×AV},eB c l es->l[i]? =δ p->∃e,es[i]? =δ e/\ay c p.1 e.key/\ay c p.2 e.val
 |[],es,i,p,h,k=>by simp at k
 |(a,b)::l,es,0,p,h,k=>by obtain⟨e,es',rfl,h1,h2,_⟩:=h;simp at k;subst k;exact⟨e,rfl,h1,h2⟩
 |(a,b)::l,es,i+1,p,h,k=>by obtain⟨e,es',rfl,_,_,h3⟩:=h;simp at k;obtain⟨e',k1,k2⟩:=eB.nth h3 k;exact⟨e',by simpa using k1,k2⟩
theorem eB.set{k v:AV}{key val:Value}(rk:ay c k key)(rv:ay c v val):∀{l:List (AV×AV)}{es:List MapEntry}(j:Nat),eB c l es->eB c (l.set j (k,v)) (es.modify j λe=>{e with key,val})
 |[],es,j,h=>by simp only[eB]at h;subst h;simp [eB]
 |(a,b)::l,es,0,h=>by obtain⟨e,es',rfl,h1,h2,h3⟩:=h;exact⟨_,_,rfl,rk,rv,h3⟩
 |(a,b)::l,es,j+1,h=>by obtain⟨e,es',rfl,h1,h2,h3⟩:=h;exact⟨e,_,rfl,h1,h2,eB.set rk rv j h3⟩
theorem eB.push{k v:AV}{key val:Value}{n:Nat}(rk:ay c k key)(rv:ay c v val):∀{l:List (AV×AV)}{es:List MapEntry},eB c l es->eB c (l++[(k,v)]) (es++[⟨key,val,n⟩])
 |[],es,h=>by simp only[eB]at h;subst h;exact⟨_,_,rfl,rk,rv,rfl⟩
 |(a,b)::l,es,h=>by obtain⟨e,es',rfl,h1,h2,h3⟩:=h;exact⟨e,_,rfl,h1,h2,eB.push rk rv h3⟩
theorem eB.erase:∀{l:List (AV×AV)}{es:List MapEntry}(j:Nat),eB c l es->eB c (l.eraseIdx j) (es.eraseIdx j)
 |[],es,j,h=>by simp only[eB]at h;subst h;simp [eB]
 |(a,b)::l,es,0,h=>by obtain⟨e,es',rfl,h1,h2,h3⟩:=h;exact h3
 |(a,b)::l,es,j+1,h=>by obtain⟨e,es',rfl,h1,h2,h3⟩:=h;exact⟨e,_,rfl,h1,h2,eB.erase j h3⟩
end
theorem rZ.push{es:Array MapEntry}{aK:Nat}{key val:Value}(h:rZ es aK):rZ (es.push ⟨key,val,aK⟩) (aK+1):=by
 refine⟨λe he=>?_,?_⟩
 ·simp only[Array.toList_push,jQ,TV]at he;rcases he with he|rfl
  ·have:=h.1 e he;omega
  ·exact Nat.lt_succ_self _
 ·simp only[Array.toList_push,Z6,eP,Vl];rw[List.nodup_append];refine⟨h.2,by simp,λa ha b hb=>?_⟩;obtain⟨e,he,rfl⟩:=gh.1 ha;have:=h.1 e he;simp at hb;omega
theorem abN(key val:Value):∀(l:List MapEntry)(i:Nat),(l.modify i λe=>{e with key,val}).map (·.born)=l.map (·.born)
 |[],i=>by simp
 |e::l,0=>by simp
 |e::l,i+1=>by simp [abN key val l i]
theorem rZ.modify{es:Array MapEntry}{aK i:Nat}{key val:Value}(h:rZ es aK):rZ (es.modify i λe=>{e with key,val}) aK:=by
 have hb:(es.modify i λe=>{e with key,val}).toList.map (·.born)=es.toList.map (·.born):=by rw[Array.toList_modify,abN]
 refine⟨λe he=>?_,by rw[hb];exact h.2⟩;have:e.born∈es.toList.map (·.born):=by rw[<-hb];exact gh.2 ⟨e,he,rfl⟩
 obtain⟨e',he',e1⟩:=gh.1 this;rw[<-e1];exact h.1 e' he'
theorem rZ.erase{es:Array MapEntry}{aK i:Nat}(h:rZ es aK):rZ (es.eraseIdxIfInBounds i) aK:=by
 by_cases hi:i<es.size
 ·have hee:(es.eraseIdxIfInBounds i).toList=es.toList.eraseIdx i:=by simp [ZU,hi]
  refine⟨λe he=>h.1 e (by rw[hee]at he;exact List.mem_of_mem_eraseIdx he),?_⟩;rw[hee];exact h.2.sublist ((List.eraseIdx_sublist _ _).map _)
 ·have:es.eraseIdxIfInBounds i=es:=by simp [ZU,hi]
  rw[this];exact h
theorem rZ.empty:rZ #[] 0:=⟨by simp,by simp⟩
section
variable {X : Fx} {z : Z} {s : AS} {a : Act} {w w' : World} {E : List Pl} {pb : Nat -> Option Nat}
theorem QN{P:Program}{b:Nat}{es:Array MapEntry}{aK:Nat}(o:Obj)(h:w.heap[b]? =δ (.map es aK)):(setObj b o).run P w=.ok () (w.fO b o):=by simp [setObj,U8,h,World.fO]
theorem as5(h:St X z s a w E pb){t kt et:TypeId}{ek:A.EK}{m k v:AV}{mv key val:Value}{σ':Heap}(ht:X.P.underlying t=δ (.map kt et))(he:qh X kt=δ ek)(hu:A.jX ek m k v s.σ=δ σ')
  (rm:ay (ctx z w E pb) m mv) (rk:ay (ctx z w E pb) k key) (rv:ay (ctx z w E pb) v val):∃w',(aDV t mv key val).run X.P w=.ok () w'/\St X z (s.heap σ') a w' E pb:=by
 unfold A.jX at hu;cases hk:A.lS ek k
 ·rw[hk]at hu;cases hu
 ·rw[hk]at hu;simp only[cU]at hu;cases m<;>simp only at hu<;>first|(cases hu;done)|skip
  rename_i id;simp only[ay]at rm;obtain⟨p,e1,e2,rfl⟩:=rm;split at hu
  ·rename_i bP hs;obtain⟨nu,h1,h2⟩:=fF.1 hu;subst h2;obtain⟨hg,es,aK,k1,kw,k2⟩:=h.heap.blk id p _ e1 hs;obtain⟨r,hr⟩:=adp h1;obtain⟨res,f1,f2,f3⟩:=WI (c:=ctx z w E pb) w X he hk rk hr k2;have Cx:=Qo (c:=ctx z w E pb) w X he hk rk ι;have kR:(getObj p.b).run X.P w=.ok (.map es aK) w:=by simp [getObj,U8,show w.heap[p.b]? =_ from k1]
   have hlt:p.b<w.heap.size:=h.heap.lt (p:=p) (dm e1);rcases agP h1 f3 with⟨e3,rfl⟩|⟨j,q,e3,q1,q2,rfl⟩
   ·have hres:res=μ:=by cases res with|none=>rfl|some x=>simp at e3
    subst hres;refine⟨w.fO p.b (.map (es.push ⟨key,val,aK⟩) (aK+1)),?_,h.B9 e1 _ _ λhx=>⟨hg,_,_,xh _ hlt,kw.push,?_⟩⟩
    ·simp [aDV,run_underlying ht,kR,Cx,f1,QN _ (show w.heap[p.b]? =_ from k1)]
    ·have:=eB.push (n:=aK) (YF hx _ _ rk) (YF hx _ _ rv) (k2.mono hx);simpa using this
   ·obtain⟨i,u,hres,hi⟩:∃i u,res=δ (i,u)/\i=j:=by
     cases res with
     |none=>simp at e3
     |some x=>exact⟨x.1,x.2,rfl,by simpa using e3⟩
    subst hi;subst hres;obtain⟨e,n1,n2,_⟩:=k2.nth q1;have hsame:=aqH (c:=ctx z w E pb) hk q2 rk n2;have qJ:es[i]? =δ e:=by rw[<-UE];exact n1
    refine⟨w.fO p.b (.map (es.modify i λe=>{e with key,val}) aK),?_,h.B9 e1 _ _ λhx=>⟨hg,_,_,xh _ hlt,kw.modify,?_⟩⟩
    ·simp [aDV,run_underlying ht,kR,Cx,f1,qJ,Instr.keyThatStays,hsame,QN _ (show w.heap[p.b]? =_ from k1)]
    ·have:=eB.set (YF hx _ _ rk) (YF hx _ _ rv) i (k2.mono hx);simpa using this
  ·cases hu
theorem as1(h:St X z s a w E pb){t kt et u ty:TypeId}{ek:A.EK}{m k:AV}{mv key:Value}{σ':Heap}(ht:X.P.underlying t=δ (.map kt et))(he:qh X kt=δ ek)(hu:A.Ho ek m k s.σ=δ σ')
  (rm:ay (ctx z w E pb) m mv) (rk:ay (ctx z w E pb) k key):∃w',(aC7 #[t,u] ty #[mv,key]).run X.P w=.ok (.tuple #[]) w'/\St X z (s.heap σ') a w' E pb:=by
 unfold A.Ho at hu;cases hk:A.lS ek k
 ·rw[hk]at hu;cases hu
 ·rw[hk]at hu;simp only[cU]at hu;cases m<;>simp only at hu<;>first|(cases hu;done)|skip
  case nm=>
   injection hu with hu;subst hu
   simp only[ay]at rm;subst rm;exact⟨w,by simp [aC7,run_underlying ht,Qo (c:=ctx z w E pb) w X he hk rk θ],h⟩
  case om id=>
   simp only[ay]at rm;obtain⟨p,e1,e2,rfl⟩:=rm;split at hu
   ·rename_i bP hs;obtain⟨nu,h1,h2⟩:=fF.1 hu;subst h2;obtain⟨hg,es,aK,k1,kw,k2⟩:=h.heap.blk id p _ e1 hs;obtain⟨r,hr⟩:=ado h1;obtain⟨res,f1,f2,f3⟩:=WI (c:=ctx z w E pb) w X he hk rk hr k2;have Cx:=Qo (c:=ctx z w E pb) w X he hk rk es.isEmpty;have kR:(getObj p.b).run X.P w=.ok (.map es aK) w:=by simp [getObj,U8,show w.heap[p.b]? =_ from k1]
    have hlt:p.b<w.heap.size:=h.heap.lt (p:=p) (dm e1);rcases agb h1 f3 with⟨e3,rfl⟩|⟨j,e3,q1,rfl⟩
    ·have hres:res=μ:=by cases res with|none=>rfl|some x=>simp at e3
     subst hres;refine⟨w.fO p.b (.map es aK),?_,h.B9 e1 _ _ λhx=>⟨hg,_,_,xh _ hlt,kw,k2.mono hx⟩⟩;simp [aC7,run_underlying ht,kR,Cx,f1,QN _ (show w.heap[p.b]? =_ from k1)]
    ·obtain⟨i,u',hres,hi⟩:∃i u,res=δ (i,u)/\i=j:=by
      cases res with
      |none=>simp at e3
      |some x=>exact⟨x.1,x.2,rfl,by simpa using e3⟩
     subst hi;subst hres;refine⟨w.fO p.b (.map (es.eraseIdxIfInBounds i) aK),?_,h.B9 e1 _ _ λhx=>⟨hg,_,_,xh _ hlt,kw.erase,?_⟩⟩
     ·simp [aC7,run_underlying ht,kR,Cx,f1,QN _ (show w.heap[p.b]? =_ from k1)]
     ·have hl:=k2.length;have:i<es.size:=by simp at hl;omega
      have hee:(es.eraseIdxIfInBounds i).toList=es.toList.eraseIdx i:=by simp [ZU,this]
      rw[hee];exact eB.erase i (k2.mono hx)
   ·cases hu
theorem abd{f:MapEntry->Nat}:∀{l:List MapEntry}{j:Nat}{e:MapEntry},(l.map f).Nodup->l[j]? =δ e->(l.filter λx=>!(f x==f e))=l.eraseIdx j
 |[],j,e,_,h=>by simp at h
 |x::l,0,e,hn,h=>by
  simp at h;subst h;simp only[eP,pN]at hn;simp only[aEo,beq_self_eq_true,Ur,List.eraseIdx_cons_zero];rw[List.filter_eq_self.2]
  ·simp
  ·intro y hy;have:f y≠f x:=λe=>hn.1 (gh.2 ⟨y,hy,e⟩)
   simp [this]
 |x::l,j+1,e,hn,h=>by
  simp only[eP,pN]at hn;simp at h;have hne:f x≠f e:=λk=>hn.1 (gh.2 ⟨e,dm h,k.symm⟩)
  simp only[aEo,List.eraseIdx_cons_succ];have:(f x==f e)=ι:=by simpa using hne
  rw[this];simp only[Yx,if_true];rw[abd hn.2 h]
theorem choose_lt{P:Program}(w:World){n:Nat}(hn:0<n):∃j w',j<n/\(choose (.mapNext n)).run P w=.ok j w'/\Below w.heap.size w w'/\w'.heap=w.heap:=by
 by_cases h1:n<=1
 ·exact⟨0,w,hn,by simp [choose,U8,U3,h1],Below.refl _ _,rfl⟩
 ·refine⟨_,w.drew,?_,by simp [choose,U8,U3,h1];rfl,(Below.refl _ _).drew,rfl⟩;simp only[Question.cut];exact Nat.mod_lt _ hn
theorem rZ.Yc{es:Array MapEntry}{aK:Nat}(h:rZ es aK)(b:Bool):(!b&&!es.isEmpty&&es.all λe=>decide (e.born>=aK))=ι:=by
 cases b
 ·by_cases he:es.isEmpty=θ
  ·simp [he]
  ·have hs:0<es.size:=by rw[Array.isEmpty_iff]at he;exact Nat.pos_of_ne_zero λk=>he (Array.eq_empty_of_size_eq_zero k)
   have:=h.1 es[0] (by simp)
   have:¬(es.all λe=>decide (e.born>=aK))=θ:=by intro k;rw[Array.all_eq_true]at k;have:=k 0 hs;simp at this;omega
   simp only[Bool.not_eq_true]at this;rw[this];simp
 ·simp
theorem filter_all{l:Array MapEntry}{aK:Nat}(h:∀e∈l.toList,e.born<aK):l.filter (λe=>decide (e.born<aK))=l/\l.filter (λe=>decide (e.born>=aK))=#[]:=by
 constructor
 ·apply oI.1;rw[Vh,List.filter_eq_self.2];intro e he;simpa using h e he
 ·apply oI.1;rw[Vh];show _=[]
  rw[List.filter_eq_nil_iff];intro e he;have:=h e he;simp;omega
theorem afJ{α:Type}{l:List α}{j:Nat}(hj:j<l.length):(l[j]::l.eraseIdx j).Perm l:=by
 have e:l=l.take j++l[j]::l.drop (j+1):=by rw[aD6,YN]
 rw[Ty];conv=>rhs;rw[e]
 exact aC2.symm
theorem as9(h:St X z s a w E pb){R:Type}{k:AV->Heap->Option R}{r:R}{i:AV}{v:Value}{ty:TypeId}(hk:A.xA i s.σ k=δ r)(ri:ay (ctx z w E pb) i v):
  ∃av σ' v' w',k av σ'=δ r/\(UX v ι ty).run X.P w=.ok v' w'/\St X z (s.heap σ') a w' E pb/\ay (ctx z w' E pb) av v':=by
 unfold A.xA at hk;split at hk
 ·rename_i id;simp only[ay]at ri;obtain⟨p,e1,e2,rfl⟩:=ri;have hlt:p.b<w.heap.size:=h.heap.lt (p:=p) (dm e1);have avw:ay (ctx z w E pb) (.aM [.bool ι]) (.tuple #[.bool ι]):=by simp [ay,aX]
  have hs0:s.heap s.σ=s:=rfl;split at hk
  ·rename_i cur hs;obtain⟨hg,hit⟩:=h.heap.blk id p _ e1 hs;rcases hit with⟨_,_,since,seen,last,h3⟩|⟨m,seen,bP,aK,h3,h4,h5,h6,h7,h8,h9⟩
   ·have kR:(getObj p.b).run X.P w=.ok (.mapIter μ since seen last) w:=by simp [getObj,U8,show w.heap[p.b]? =_ from h3]
    exact⟨_,_,_,w,hk,by simp [UX,kR],by rw[hs0];exact h,avw⟩
   ·have kR:(getObj p.b).run X.P w=.ok (.mapIter (δ m) aK seen aK) w:=by simp [getObj,U8,show w.heap[p.b]? =_ from h3]
    have xy:(getObj m).run X.P w=.ok (.map bP aK) w:=by simp [getObj,U8,show w.heap[m]? =_ from h6]
    obtain⟨l,h8,rU⟩:=h8;simp only[eB]at h8;subst h8;have hl:bP.filter (λe=>!seen.contains e.born)=#[]:=by apply oI.1;rw[Vh];exact rU.nil_eq.symm
    obtain⟨j,w',hj,hch,hb,hw⟩:=choose_lt (P:=X.P) w (n:=1) (by omega);have hj0:j=0:=by omega
    subst hj0;have hst:=h7.Yc seen.isEmpty;refine⟨_,_,.tuple #[.bool ι],w',hk,?_,by rw[hs0];exact h.grow hb,by simp [ay,aX]⟩
    simp only[UX,Ts,kR,UM,xy,hst,hl];simp [-Go.run_choose,-aD7,hch]
  ·rename_i cur x left hs;obtain⟨hg,hit⟩:=h.heap.blk id p _ e1 hs;rcases hit with⟨_,hn,_⟩|⟨m,seen,bP,aK,h3,h4,h5,h6,h7,h8,h9⟩
   ·cases hn
   ·have kR:(getObj p.b).run X.P w=.ok (.mapIter (δ m) aK seen aK) w:=by simp [getObj,U8,show w.heap[p.b]? =_ from h3]
    have xy:(getObj m).run X.P w=.ok (.map bP aK) w:=by simp [getObj,U8,show w.heap[m]? =_ from h6]
    obtain⟨L,hL⟩:∃L,L=bP.filter (λe=>!seen.contains e.born):=⟨_,rfl⟩
    have D9:L.toList=bP.toList.filter (λe=>!seen.contains e.born):=by rw[hL,Vh]
    rw[<-D9]at h8;obtain⟨l,h8,rU⟩:=h8;have hlen:=h8.length;rw[rU.length_eq]at hlen;simp only[Y8]at hlen;have hlt':∀e∈L.toList,e.born<aK:=λe he=>h7.1 e (by rw[D9]at he;exact(Tx.1 he).1)
    obtain⟨f1,f2⟩:=filter_all hlt'
    have hne:L.isEmpty=ι:=by rw[Array.isEmpty_eq_false_iff];intro k;rw[k]at hlen;simp at hlen
    obtain⟨j,w',hj,hch,hb,hw⟩:=choose_lt (P:=X.P) w (n:=L.size) (by rw[<-hlen];simp);have hst:=h7.Yc seen.isEmpty;obtain⟨e,Oy⟩:∃e,L[j]? =δ e:=⟨_,wB hj⟩
    have n1:L.toList[j]? =δ e:=by rw[UE];exact Oy
    obtain⟨i,hil,hie⟩:=T5.1 (rU.mem_iff.2 (dm n1));have Y6:i<(x::left).length:=by rw[h8.length];exact hil
    have hk2:=all_some hk Y6;rw[cC Y6]at hk2;simp only at hk2;obtain⟨e',S8,n2,n3⟩:=eB.nth h8 (cC Y6);have hee:e=e':=by rw[cC hil]at S8;injection S8 with S8;rw[<-S8,hie]
    subst hee
    have hpE:(l.eraseIdx i).Perm (L.toList.eraseIdx j):=by
     have p1:(e::l.eraseIdx i).Perm l:=by have:=afJ hil;rwa[hie]at this
     obtain⟨hjj,hje⟩:=bG.1 n1;have p2:(e::L.toList.eraseIdx j).Perm L.toList:=by have:=afJ hjj;rwa[hje]at this
     exact List.Perm.cons_inv ((p1.trans rU).trans p2.symm)
    have hg2:=h.grow hb;have hmp:p.b≠m:=λk=>h5 (.inr (.inl ⟨p,dm e1,k⟩))
    have h3':w'.heap[p.b]? =δ (.mapIter (δ m) aK seen aK):=by rw[hw];exact h3
    have sG:(setObj p.b (.mapIter (δ m) aK (seen.push e.born) aK)).run X.P w'=.ok () (w'.fO p.b (.mapIter (δ m) aK (seen.push e.born) aK)):=by simp [setObj,U8,h3',World.fO]
    refine⟨_,_,.tuple #[.bool θ,e.key,e.val],w'.fO p.b (.mapIter (δ m) aK (seen.push e.born) aK),hk2,?_,hg2.B9 e1 _ _ λhx=>⟨hg,.inr ⟨m,seen.push e.born,bP,aK,?_,?_,?_,?_,h7,?_,?_⟩⟩,?_⟩
    ·simp only[UX,Ts,kR,UM,xy,hst,<-hL,f1,f2,hne];simp [-Go.run_choose,-aD7,hch,Oy,sG]
    ·exact xh _ (by rw[hw];exact hlt)
    ·show m<(w'.fO p.b _).heap.size;rw[zk,hw];exact h4
    ·exact h5
    ·show(w'.fO p.b _).heap[m]? =_;rw[xX _ hmp,hw];exact h6
    ·have hx2:Ext (ctx z w E pb) (ctx z (w'.fO p.b (.mapIter (δ m) aK (seen.push e.born) aK)) E pb):=(zm hb).trans hx
     have hfe:(bP.toList.filter λe'=>!(seen.push e.born).contains e'.born)=L.toList.eraseIdx j:=by rw[D9];have hnd:((bP.toList.filter λe=>!seen.contains e.born).map (·.born)).Nodup:=h7.2.sublist ((List.filter_sublist).map _);rw[<-abd (f:=(·.born)) (e:=e) hnd (by rw[<-D9];exact n1),List.filter_filter];congr 1;funext y;simp only[Array.contains_push,Bool.not_or];rw[Bool.and_comm]
     rw[hfe];exact⟨_,(eB.erase i h8).mono hx2,hpE⟩
    ·refine .inr ⟨_,_,e,rfl,by simp,?_,?_,?_⟩
     ·have:=dm n1;rw[D9]at this;exact(Tx.1 this).1
     ·exact YF ((zm hb).trans hx) _ _ n2
     ·exact YF ((zm hb).trans hx) _ _ n3
    ·have hx:Ext (ctx z w' E pb) (ctx z (w'.fO p.b (.mapIter (δ m) aK (seen.push e.born) aK)) E pb):=azU (.inr (.inl ⟨p,dm e1,rfl⟩));have hx2:=(zm hb).trans hx;simp only[ay];exact⟨_,rfl,by simp only[aX];exact⟨_,_,rfl,rfl,_,_,rfl,YF hx2 _ _ n2,_,_,rfl,YF hx2 _ _ n3,rfl⟩⟩
  ·cases hk
 ·cases hk
theorem ari(h:St X z s a w E pb){t kt et:TypeId}{x:AV}{v:Value}{es:List (AV×AV)}(ht:X.P.underlying t=δ (.map kt et))(hr:A.zC x=δ es)(rx:ay (ctx z w E pb) x v):
  ∃o,(aDF t v).run X.P w=.ok (.pointer (δ ⟨w.heap.size,0,μ⟩)) (w.alloc o)/\St X z (s.heap (s.σ++[.it [] es])) a (w.alloc o) (E++[⟨w.heap.size,0,0,0,0⟩]) pb:=by
 unfold A.zC at hr;split at hr
 ·injection hr with hr
  subst hr;simp only[ay]at rx;subst rx;refine⟨.mapIter μ 0 #[] 0,by simp [aDF,run_underlying ht,newObj,U8],h.C9 _ _ ⟨w.heap.size,0,0,0,0⟩ rfl λhx=>⟨rfl,.inl ⟨rfl,rfl,_,_,_,(Uc w _).1⟩⟩⟩
 ·injection hr with hr
  subst hr;simp only[ay]at rx;obtain⟨b,rfl,hb,hX,bP,aK,k1,kw,l,k2,k3⟩:=rx;have xy:(getObj b).run X.P w=.ok (.map bP aK) w:=by simp [getObj,U8,show w.heap[b]? =_ from k1]
  refine⟨.mapIter (δ b) aK #[] aK,by simp [aDF,run_underlying ht,xy,newObj,U8],h.C9 _ _ ⟨w.heap.size,0,0,0,0⟩ rfl λhx=>⟨rfl,.inr ⟨b,#[],bP,aK,(Uc w _).1,?_,(hx.stay b hb hX).2,?_,kw,?_,.inl rfl⟩⟩⟩
  ·exact xB hb hx.size
  ·exact(hx.stay b hb hX).1.trans k1
  ·have:(bP.toList.filter λe=>!(#[]:Array Nat).contains e.born)=bP.toList:=by rw[List.filter_eq_self];intro e _;simp
   rw[this];exact⟨l,k2.mono hx,by rcases k3 with rfl|⟨k3,_⟩<;>first|exact List.Perm.refl _|exact k3⟩
 ·cases hr
end
end
end
end Go.Proofs.YtooknfkholjpbaaGreat
