/- Parts of the proof of PickUnitsMatchSpec, in order. -/
import Derived.Orders
import Derived.Below
import Derived.WalkKit
import Derived.Laws.StructEq
import Derived.Laws.Append
import Derived.Laws.AppendOwn
namespace Go.Proofs.Ytgjglkakhmikjaa
set_option linter.unusedVariables false
set_option linter.unusedSimpArgs false
set_option linter.unusedSectionVars false
set_option maxRecDepth 1000000
noncomputable section
open List renaming flatten_cons->Ul,size_toArray->VQ,eq_nil_of_length_eq_zero->aqh,getD->RU,getElem?_concat_length->aqt,toList_toArray->apX,Perm->aqP,headD_cons->aqm,mem_filter->Ve,length_cons->ZT,mem_singleton->Yg,mem_cons_self->ZA,all_cons->ap8,mem_iff_getElem->Ut,extract_eq_take_drop->aqG,getElem?_eq_some_iff->aqC,getElem?_drop->Zg,take_append_drop->Wq,length_append->PU,getElem?_eq_getElem->aqJ,filter_eq_self->apW,mem_map_of_mem->apV,getElem?_take->Vj,getElem?_append_right->aqw,getElem?_append_left->aqD,drop_eq_nil_of_le->apD,map_append->Zw,getElem?_take_of_lt->Vp,mem_of_find?_eq_some->aqF,foldl_cons->Wv,mem_replicate->X5,flatMap_cons->apQ,ext_getElem?->aqd,append_nil->TB,eraseIdx_eq_take_drop_succ->aqR,length_replicate->YF,replicate->ZB,filter_cons->Sn,mem_flatten->apY,flatten_append->aqn,drop_eq_getElem_cons->Ss
open Go.Instr renaming sameBits->Yh,mapUpdate->aqp,findNow->V5,findKey->ap1,findAsking->V0,slice->U1,sliceBounds->VP,next->aqz,sliceBound->Tr,sliceAt->aqK,sameNow->XV,sureAddr->Yu,indexAt->ap2,buildSlice->XG,checkKey->Wa
open _root_.Array renaming toList_filter->Sj,getD_eq_getD_getElem?->aqs,getElem?_setIfInBounds->YZ,toList_append->aqo,getElem?_eq_getElem->aqE,getElem?_eq_some_iff->aqx,getElem?_setIfInBounds_ne->Ti,range->aqk,eraseIdxIfInBounds->SY,getElem?_toList->ZQ,size_append->Yv,getD->ap5,length_toList->Tq
open Go.Sem renaming run_bind->Zm,run->TV,run_pure->ZW
open Go.Op renaming intCmp->aqO,equalIn->Wj,stringOp->aqj,intArith->aqi,bytesLess->Sv
open Classical renaming byContradiction->aqH,choose->UN,choose_spec->SA
open Go.Question renaming forced->XF
open Go.MapKept renaming heap_alloc->ZF
open Bool renaming not_true->YV,not_eq_false'->apC,true_and->ap7,not_eq_true'->apR,false->ι,false_eq_true->ZD,true->η
open Nat renaming blt->TO,le_of_mul_le_mul_right->W0,le_trans->ZL,div_mul_le_self->apZ,le_mul_of_pos_right->aqQ,zero_add->Z3
open Go.Builtin renaming delete_->apL,append_->ZV,cap_->apE,copy_->Wz,zeroCells->Y7,clear_->WY,len_->UW,firstCells->ZC,lenOf->T4
open Option renaming some->δ,isSome_iff_exists->apS,bind_eq_some_iff->aqN,none->μ
open Prod.mk renaming injEq->ir
open Go.IntKind renaming i64->Θ
open Go.Program renaming cellsOf->aql
open Go.Region renaming binds->Rv
open Go.World renaming cell?->apP
open Go.Act renaming put->apU
open IntKind renaming i64->Θ
open Option.some renaming injEq->ψ
open Go.Result renaming andThen_ok->Yl
theorem aO{α:Type _}{β:Type _}(a:α)(f:α->Option β):(δ a).bind f=f a:=rfl
theorem ff{α:Type _}{β:Type _}(a:α)(f:α->β):(δ a).map f=δ (f a):=rfl
theorem bN{α:Type _}{x:α}{xs:List α}{d:α}:(x::xs).getD 0 d=x:=rfl
theorem cW{α:Type _}{x:α}{xs:List α}{n:Nat}{d:α}:(x::xs).getD (n+1) d=xs.getD n d:=rfl
theorem bk{α:Sort _}(a b:α):cond ι a b=b:=rfl
theorem bz{α:Sort _}(a b:α):cond η a b=a:=rfl
theorem dH{α:Type _}{β:Type _}{f:α->β}{a:α}{l:List α}:(a::l).map f=f a::l.map f:=rfl
theorem bG:type_of% @aqC:=@aqC
theorem bD:type_of% @aqN:=@aqN
theorem dg:type_of% @aqJ:=@aqJ
theorem ct:type_of% @List.mem_of_getElem?:=@List.mem_of_getElem?
theorem cO:type_of% @Option.map_eq_some_iff:=@Option.map_eq_some_iff
theorem kC:type_of% @aqw:=@aqw
theorem gZ:type_of% @aqD:=@aqD
theorem bR:type_of% @Nat.le_refl:=@Nat.le_refl
theorem wz:type_of% @aqx:=@aqx
theorem fy:type_of% @Bool.and_eq_true:=@Bool.and_eq_true
theorem mO:type_of% @aqs:=@aqs
theorem gd:type_of% @List.getElem?_set:=@List.getElem?_set
theorem qB:type_of% @Nat.lt_of_lt_of_le:=@Nat.lt_of_lt_of_le
theorem nG:type_of% @List.append_assoc:=@List.append_assoc
theorem kT:type_of% @List.getElem?_set_self:=@List.getElem?_set_self
theorem mP:type_of% @Bool.or_eq_false_iff:=@Bool.or_eq_false_iff
theorem nH:type_of% @List.drop_drop:=@List.drop_drop
theorem kU:type_of% @Nat.add_assoc:=@Nat.add_assoc
theorem fQ:type_of% @Nat.add_mul:=@Nat.add_mul
theorem sF:type_of% @Nat.add_le_add:=@Nat.add_le_add
theorem kD:type_of% @List.getElem?_eq_none:=@List.getElem?_eq_none
theorem fA:type_of% @List.mem_cons:=@List.mem_cons
theorem zM:type_of% @List.set_append_right:=@List.set_append_right
theorem uW:type_of% @List.length_eq_one_iff:=@List.length_eq_one_iff
theorem mz:type_of% @Array.toList_inj:=@Array.toList_inj
theorem wA:type_of% @List.mem_iff_getElem?:=@List.mem_iff_getElem?
theorem mQ:type_of% @Nat.mul_le_mul_right:=@Nat.mul_le_mul_right
theorem tE:type_of% @aqh:=@aqh
theorem i6:type_of% @List.mem_map:=@List.mem_map
theorem fB:type_of% @List.mem_append:=@List.mem_append
theorem tF:type_of% @aqE:=@aqE
theorem kE:type_of% @Bool.eq_iff_iff:=@Bool.eq_iff_iff
theorem jU:type_of% @List.mem_cons_of_mem:=@List.mem_cons_of_mem
theorem qC:type_of% @List.length_take:=@List.length_take
theorem mR:type_of% @List.take_of_length_le:=@List.take_of_length_le
theorem aH:type_of% @if_pos:=@if_pos
theorem aF:type_of% @if_neg:=@if_neg
theorem fF:type_of% @decide_eq_true:=@decide_eq_true
theorem gq:type_of% @decide_eq_false:=@decide_eq_false
theorem wB:type_of% @aqF:=@aqF
theorem zN:type_of% @List.nodup_cons:=@List.nodup_cons
theorem yp:type_of% @List.mem_of_mem_take:=@List.mem_of_mem_take
theorem jC:type_of% @List.all_eq_true:=@List.all_eq_true
theorem jK:type_of% @Nat.zero_le:=@Nat.zero_le
theorem kF:type_of% @List.cons_append:=@List.cons_append
theorem tG:type_of% @List.getElem?_map:=@List.getElem?_map
theorem yq:type_of% @aqt:=@aqt
inductive AV where
 |undef
 |int(k:IntKind)(n:Int)
 |bool(b:Bool)
 |str(s:ByteArray)
 |agg(cs:List AV)
 |aJ(vs:List AV)
 |sl(sz:Nat)(es:List (List AV))
 |aC
 |ez
 |rp(cs:List AV)
 |np
 |op(id off:Nat)
 |oe(id g i off:Nat)
 |os(id g sz off len:Nat)
 |om(id:Nat)
 |fm(es:List (AV×AV))
 |nm
 |fn(f:Nat)(caps:List AV)
 |vC
 |lbx(cs:List AV)
 deriving Inhabited
open AV renaming bool->χ,sl->U0,int->UB,aJ->Zz,str->ap3,agg->Y8
inductive aP where
 |box(cs:List AV)
 |arr(g sz:Nat)(es:List (List AV))
 |qD(g sz:Nat)(es:List (List AV))
 |map(es:List (AV×AV))
 |it(cur left:List (AV×AV))
 deriving Inhabited
def EG(es:List (AV×AV)):Prop:=(∀p∈es,∃n s,p.1=.agg [.int Θ n,.str s])/\(es.map (·.1)).Nodup
abbrev Heap:=List aP
inductive AX where
 |normal
 |exit(id:Nat)
 |ret
 deriving DecidableEq,Inhabited
namespace A
def cond{α:Type}(c:AV)(t e:Option α):Option α:=match c with|.bool b=>bif b then t else e|_=>μ
def guard{α:Type}(c:AV)(want:Bool)(t e:Option α):Option α:=match c with|.bool b=>bif b==want then t else e|.aJ []=>e|_=>μ
def pick(c a b:AV):Option AV:=match c with|.bool c=>δ (bif c then a else b)|_=>μ
def cell(v:AV):Option AV:=match v with|.undef=>μ|.agg _=>μ|.aJ _=>μ|.lbx _=>μ|v=>δ v
def cells(n:Nat)(v:AV):Option (List AV):=match v with|.agg cs=>if cs.length=n then δ cs else μ|_=>μ
def lb(v:AV):Option (List AV):=match v with|.lbx cs=>δ cs|_=>μ
def ay(off:Nat)(cs:List AV):Option AV:=(cs[off]?).bind cell
def aR(off n:Nat)(cs:List AV):Option AV:=if off+n<=cs.length then δ (.agg ((cs.drop off).take n))else μ
def aQ(off:Nat)(new cs:List AV):Option (List AV):=if off+new.length<=cs.length then δ (cs.take off++new++cs.drop (off+new.length))else μ
def deref(v:AV)(σ:Heap):Option (List AV):=match v with
 |.rp cs=>δ cs
 |.op id off=>match σ[id]? with|some (.box cs)=>δ (cs.drop off)|_=>μ
 |.oe id g i off=>match σ[id]? with|some (.arr g' _ es)=>if g=g' then(es[i]?).map (·.drop off)else μ|_=>μ
 |_=>μ
def storeAt(v:AV)(new:List AV)(σ:Heap):Option Heap:=match v with
 |.op id off=>match σ[id]? with|some (.box cs)=>(aQ off new cs).map λcs=>σ.set id (.box cs)|_=>μ
 |.oe id g i off=>match σ[id]? with
  |some (.arr g' sz es)=>if g=g' then(es[i]?).bind λe=>(aQ off new e).map λe=>σ.set id (.arr g sz (es.set i e))else μ
  |_=>μ
 |_=>μ
def dh(off:Nat)(v:AV):Option AV:=match v with
 |.rp cs=>δ (.rp (cs.drop off))
 |.op id o=>δ (.op id (o+off))
 |.oe id g i o=>δ (.oe id g i (o+off))
 |_=>μ
def idx(len:Nat)(i:AV):Option Nat:=match i with|.int _ n=>if 0<=n/\n<len then δ n.toNat else μ|_=>μ
def aS(sz:Nat)(x i:AV):Option AV:=match x with
 |.sl sz' es=>(idx es.length i).bind λj=>if sz=sz' then(es[j]?).map .rp else μ
 |.os id g sz' off len=>(idx len i).bind λj=>if sz=sz' then δ (.oe id g (off+j) 0)else μ
 |_=>μ
def uU(len sz:Nat)(x i:AV):Option AV:=(idx len i).bind λj=>match x with
 |.rp cs=>δ (.rp (cs.drop (j*sz)))
 |.op id o=>δ (.op id (o+j*sz))
 |.oe id g k o=>δ (.oe id g k (o+j*sz))
 |_=>μ
def jJ(x:AV):Option AV:=match x with|.rp cs=>δ (.rp cs)|.op id o=>δ (.op id o)|.oe id g i o=>δ (.oe id g i o)|.fn f c=>δ (.fn f c)|_=>μ
def ext(i:Nat)(x:AV):Option AV:=match x with|.aJ vs=>vs[i]? |_=>μ
def add(x y:AV):Option AV:=match x,y with
 |.int k a,.int k' b=>if k=k' then δ (.int k (k.wrap (a+b)))else μ
 |.str a,.str b=>if a.size+b.size<=9223372036854775807 then δ (.str (a++b))else μ
 |_,_=>μ
def sub(x y:AV):Option AV:=match x,y with|.int k a,.int k' b=>if k=k' then δ (.int k (k.wrap (a-b)))else μ|_,_=>μ
def mul(x y:AV):Option AV:=match x,y with|.int k a,.int k' b=>if k=k' then δ (.int k (k.wrap (a*b)))else μ|_,_=>μ
def quo(x y:AV):Option AV:=match x,y with|.int k a,.int k' b=>if k=k'/\b≠0 then δ (.int k (k.wrap (a.tdiv b)))else μ|_,_=>μ
def rem(x y:AV):Option AV:=match x,y with|.int k a,.int k' b=>if k=k'/\b≠0 then δ (.int k (a.tmod b))else μ|_,_=>μ
def shl(x y:AV):Option AV:=match x,y with|.int k a,.int _ b=>if b<0 then μ else δ (.int k (k.wrap (a*2 ^ min b.toNat k.bits)))|_,_=>μ
def shr(x y:AV):Option AV:=match x,y with|.int k a,.int _ b=>if b<0 then μ else δ (.int k (a.fdiv (2 ^ min b.toNat k.bits)))|_,_=>μ
def lss(x y:AV):Option AV:=match x,y with|.int k a,.int k' b=>if k=k' then δ (.bool (decide (a<b)))else μ|.str a,.str b=>δ (.bool (Sv a.toList b.toList))|_,_=>μ
def leq(x y:AV):Option AV:=match x,y with|.int k a,.int k' b=>if k=k' then δ (.bool (decide (a<=b)))else μ|_,_=>μ
def gtr(x y:AV):Option AV:=match x,y with|.int k a,.int k' b=>if k=k' then δ (.bool (decide (a>b)))else μ|_,_=>μ
def geq(x y:AV):Option AV:=match x,y with|.int k a,.int k' b=>if k=k' then δ (.bool (decide (a>=b)))else μ|_,_=>μ
def nO(x y:AV):Option Bool:=match x,y with|.int k a,.int k' b=>if k=k' then δ (a==b)else μ|_,_=>μ
def vA(x y:AV):Option Bool:=match x,y with|.bool a,.bool b=>δ (a==b)|_,_=>μ
def qc(x y:AV):Option Bool:=match x,y with|.str a,.str b=>δ (a==b)|_,_=>μ
def PR(x y:AV):Option Bool:=match x,y with
 |.np,.np=>δ η
 |.np,.rp _=>δ ι
 |.np,.op _ _=>δ ι
 |.rp _,.np=>δ ι
 |.op _ _,.np=>δ ι
 |_,_=>μ
def mW(k:Nat)(x y:AV):Option Bool:=match k with|0=>nO x y|1=>vA x y|2=>qc x y|_=>μ
def eY:List Nat->List AV->List AV->Option Bool
 |[],[],[]=>δ η
 |k::ks,x::xs,y::ys=>(mW k x y).bind λb=>(eY ks xs ys).map λc=>b&&c
 |_,_,_=>μ
inductive EK where
 |i|b|z|p
 |s(ks:List Nat)
def eC(k:EK)(x y:AV):Option Bool:=match k with
 |.i=>nO x y
 |.b=>vA x y
 |.z=>qc x y
 |.p=>PR x y
 |.s ks=>match x,y with|.agg xs,.agg ys=>eY ks xs ys|_,_=>μ
def eql(k:EK)(x y:AV):Option AV:=(eC k x y).map .bool
def neq(k:EK)(x y:AV):Option AV:=(eC k x y).map λb=>.bool (!b)
def JH(x y:AV):Option Bool:=match y with
 |.aC=>(match x with|.aC=>δ η|.sl _ (_::_)=>δ ι|.os _ _ _ _ _=>δ ι|_=>μ)
 |_=>μ
def Jy(x y:AV):Option AV:=(JH x y).map .bool
def neN(x y:AV):Option AV:=(JH x y).map λb=>.bool (!b)
def zS(x:AV):Option AV:=match x with|.aC=>δ (.int Θ 0)|.ez=>δ (.int Θ 0)|_=>μ
def not(x:AV):Option AV:=match x with|.bool b=>δ (.bool (!b))|_=>μ
def neg(x:AV):Option AV:=match x with|.int k n=>δ (.int k (k.wrap (0-n)))|_=>μ
def conv(k:IntKind)(x:AV):Option AV:=match x with|.int _ n=>δ (.int k (k.wrap n))|_=>μ
def WG(x:AV):Option AV:=match x with|.str s=>δ (.str s)|_=>μ
def max(x y:AV):Option AV:=match x,y with|.int k a,.int _ b=>δ (.int k (if b>a then b else a))|_,_=>μ
def min(x y:AV):Option AV:=match x,y with|.int k a,.int _ b=>δ (.int k (if b<a then b else a))|_,_=>μ
def rD(x:AV):Option AV:=match x with|.str s=>δ (.int Θ s.size)|_=>μ
def aZ(x:AV):Option AV:=match x with
 |.sl _ es=>δ (.int Θ es.length)
 |.aC=>δ (.int Θ 0)
 |.ez=>δ (.int Θ 0)
 |.os _ _ _ _ n=>δ (.int Θ n)
 |_=>μ
def XJ(x:AV)(σ:Heap):Option AV:=match x with
 |.nm=>δ (.int Θ 0)
 |.fm es=>δ (.int Θ es.length)
 |.om id=>match σ[id]? with|some (.map es)=>δ (.int Θ es.length)|_=>μ
 |_=>μ
def lJ(x i:AV):Option AV:=match x with|.str s=>(idx s.size i).bind λj=>(s[j]?).map λb=>.int .u8 b.toNat|_=>μ
def bound(y:Nat)(dflt:Nat)(x:Option AV):Option Nat:=match x with
 |none=>δ dflt
 |some (.int _ i)=>if 0<=i/\i<=y then δ i.toNat else μ
 |_=>μ
def Nv(x:AV)(lo hi:Option AV):Option AV:=match x with
 |.str s=>(bound s.size s.size hi).bind λh=>(bound h 0 lo).map λl=>.str (s.extract l h)
 |_=>μ
def room(σ:Heap)(id g sz off len:Nat):Nat:=match σ[id]? with
 |some (.arr g' sz' es)=>if g=g'/\sz=sz'/\off+len<=es.length then es.length-off else len
 |_=>len
def gQ(sz:Nat)(x:AV)(lo hi:Option AV)(σ:Heap):Option AV:=match x with
 |.sl sz' es=>if sz=sz' then(bound es.length es.length hi).bind λh=>(bound h 0 lo).map λl=>.sl sz ((es.take h).drop l)else μ
 |.aC=>(bound 0 0 hi).bind λh=>(bound h 0 lo).map λ_=>.aC
 |.ez=>(bound 0 0 hi).bind λh=>(bound h 0 lo).map λ_=>.ez
 |.os id g sz' off len=>if sz=sz' then(bound (room σ id g sz off len) len hi).bind λh=>(bound h 0 lo).map λl=>.os id g sz (off+l) (h-l)else μ
 |_=>μ
def slice3(x:AV)(lo:Option AV)(hi mx:AV):Option AV:=(aZ x).bind λn=>match n with
 |.int _ n=>(bound n.toNat 0 (δ mx)).bind λm=>(bound m 0 (δ hi)).bind λh=>(bound h 0 lo).map λ_=>if m=0 then .ez else .undef
 |_=>μ
def elems(sz:Nat)(x:AV)(σ:Heap):Option (List (List AV)):=match x with
 |.aC=>δ []
 |.ez=>δ []
 |.sl sz' es=>if sz=sz' then δ es else μ
 |.os id g pL off len=>match σ[id]? with
  |some (.arr g' sz' es)=>if g=g'/\sz=sz'/\pL=sz/\off+len<=es.length then δ ((es.drop off).take len)else μ
  |some (.qD g' sz' es)=>if g=g'/\sz=sz'/\pL=sz/\off+len<=es.length then δ ((es.drop off).take len)else μ
  |_=>μ
 |_=>μ
def kS(sz most:Nat)(x:AV)(ys:List (List AV))(σ:Heap):Option (AV×Heap):=match x with
 |.aC=>if ys=[]then δ (.aC,σ)else if ys.length<=most then δ (.os σ.length ys.length sz 0 ys.length,σ++[.arr ys.length sz ys])else μ
 |.ez=>if ys=[]then δ (.ez,σ)else if ys.length<=most then δ (.os σ.length ys.length sz 0 ys.length,σ++[.arr ys.length sz ys])else μ
 |.os id g pL off len=>match σ[id]? with
  | some (.arr g' sz' es) => if g = g' /\ sz = sz' /\ pL = sz /\ off + len <= es.length /\ len + ys.length <= most then
    (if ys=[]then δ (.os id g sz off len,σ)else if off+len+ys.length<=es.length then δ (.os id g sz off (len+ys.length),σ.set id (.arr g sz (es.take (off+len)++ys++es.drop (off+len+ys.length))))
    else δ (.os id (g+ys.length) sz 0 (len+ys.length),σ.set id (.arr (g+ys.length) sz ((es.drop off).take len++ys))))else μ
  | some (.qD g' sz' es) => if g = g' /\ sz = sz' /\ pL = sz /\ off + len <= es.length /\ len + ys.length <= most /\ es.length < off + len + ys.length then
    δ (.os σ.length (len+ys.length) sz 0 (len+ys.length),σ++[.arr (len+ys.length) sz ((es.drop off).take len++ys)])else μ
  |_=>μ
 |_=>μ
def append(sz most:Nat)(x y:AV)(σ:Heap):Option (AV×Heap):=(elems sz y σ).bind λys=>kS sz most x ys σ
def tg(sz most:Nat)(zs:List AV)(x n:AV)(σ:Heap):Option (AV×Heap):=match n with
 |.int _ k=>if 0<=k/\k<=most then kS sz most x (ZB k.toNat zs) σ else μ
 |_=>μ
def NA(sz:Nat)(x y:AV)(σ:Heap):Option (AV×Heap):=(elems sz y σ).bind λys=>match x with
 |.aC=>δ (.int Θ 0,σ)
 |.ez=>δ (.int Θ 0,σ)
 |.os id g pL off len=>match σ[id]? with
  | some (.arr g' sz' es) => if g = g' /\ sz = sz' /\ pL = sz /\ off + len <= es.length then (if ys.length = 0 \/ len = 0 then δ (.int Θ 0, σ) else
    δ (.int Θ (ys.take len).length,σ.set id (.arr g sz (es.take off++ys.take len++es.drop (off+(ys.take len).length)))))else μ
  |_=>μ
 |_=>μ
def all {R:Type} (p:Nat->Prop) (k:Nat->Option R):Option R:=open Classical in if h:∃r,∀n,p n->k n=δ r then δ (UN h)else μ
def yw {R:Type} (x:AV) (σ:Heap) (k:Nat->Heap->Option R):Option R:=match x with
 |.os id g sz off len=>match σ[id]? with
  |some (.arr g' sz' es)=>if g=g'/\sz=sz'/\off+len<=es.length then all (λc=>len<=c/\es.length<=off+c) (λc=>k c (if c=len then σ.set id (.qD g sz es)else σ.set id (.arr g sz (es++ZB (off+c-es.length) (ZB sz .undef)))))else μ
  |_=>μ
 |_=>μ
def ve{R:Type}(v:AV)(k:Nat->List (List AV)->Option R):Option R:=match v with|.sl sz es=>bif es.length==0 then μ else k sz es|_=>μ
def uY{R:Type}(v:Option AV)(k:AV->Option R)(u:Option R):Option R:=match v with|some v=>k v|none=>u
def Nr(m:AV):Option (List (AV×AV)):=match m with
 |.nm=>δ []
 |.fm es=>δ es
 |_=>μ
def yl {R:Type} (i:AV) (σ:Heap) (k:AV->Heap->Option R):Option R:=match i with
 |.op id 0=>match σ[id]? with
  |some (.it _ [])=>k (.aJ [.bool ι]) σ
  |some (.it _ (e::left))=>all (λj=>j<(e::left).length) (λj=>match(e::left)[j]? with
   |some p=>k (.aJ [.bool η,p.1,p.2]) (σ.set id (.it [p] ((e::left).eraseIdx j)))
   |none=>μ)
  |_=>μ
 |_=>μ
def Ng(i:AV)(σ:Heap):Option AV:=match i with
 |.op id 0=>match σ[id]? with
  |some (.it [p] _)=>δ (.aJ [p.1,p.2])
  |_=>μ
 |_=>μ
def zB(sz:Nat)(zs:List AV)(x:AV)(σ:Heap):Option Heap:=match x with
 |.aC=>δ σ
 |.ez=>δ σ
 |.sl _ []=>δ σ
 |.os id g pL off len=>match σ[id]? with
  |some (.arr g' sz' es)=>if g=g'/\sz=sz'/\pL=sz/\off+len<=es.length then(if len=0 then δ σ else δ (σ.set id (.arr g sz (es.take off++ZB len zs++es.drop (off+len)))))else μ
  |_=>μ
 |_=>μ
def find(e:EK)(k:AV):List (AV×AV)->Option (Option AV)
 |[]=>δ μ
 |(k',v)::r=>(eC e k k').bind λb=>bif b then δ (δ v)else find e k r
def qz(e:EK)(k:AV):List (AV×AV)->Nat->Option (Option Nat)
 |[],_=>δ μ
 |(k',_)::r,i=>(eC e k k').bind λb=>bif b then δ (δ i)else qz e k r (i+1)
def upd(e:EK)(k v:AV):List (AV×AV)->Option (List (AV×AV))
 |[]=>δ [(k,v)]
 |(k',v')::r=>(eC e k k').bind λb=>bif b then δ ((k,v)::r)else(upd e k v r).map ((k',v')::·)
def del(e:EK)(k:AV):List (AV×AV)->Option (List (AV×AV))
 |[]=>δ []
 |(k',v')::r=>(eC e k k').bind λb=>bif b then δ r else(del e k r).map ((k',v')::·)
def entries(m:AV)(σ:Heap):Option (List (AV×AV)):=match m with
 |.nm=>δ []
 |.fm es=>δ es
 |.om id=>match σ[id]? with|some (.map es)=>δ es|_=>μ
 |_=>μ
def fP(e:EK)(k:AV):Bool:=match e,k with
 |.i,.int _ _=>η
 |.b,.bool _=>η
 |.z,.str _=>η
 |.s ks,.agg xs=>xs.length==ks.length
 |_,_=>ι
def look(e:EK)(m k zero:AV)(σ:Heap):Option AV:=bif fP e k then(entries m σ).bind λes=>(find e k es).map λr=>r.getD zero else μ
def pR(e:EK)(m k zero:AV)(σ:Heap):Option AV:=bif fP e k then(entries m σ).bind λes=>(find e k es).map λr=>.aJ [r.getD zero,.bool r.isSome]else μ
def dL(e:EK)(m k v:AV)(σ:Heap):Option Heap:=bif fP e k then(match m with
 |.om id=>match σ[id]? with|some (.map es)=>(upd e k v es).map λes=>σ.set id (.map es)|_=>μ
 |_=>μ)else μ
def OH(e:EK)(m k:AV)(σ:Heap):Option Heap:=bif fP e k then(match m with
 |.nm=>δ σ
 |.om id=>match σ[id]? with|some (.map es)=>(del e k es).map λes=>σ.set id (.map es)|_=>μ
 |_=>μ)else μ
def quiet (r:Option (AV×Heap)) (σ:Heap):Option AV:=r.bind λp=>open Classical in if p.2=σ then δ p.1 else μ
def nC(dyn:Nat->List AV->Heap->Option (AV×Heap))(f:AV)(args:List AV)(σ:Heap):Option (AV×Heap):=match f with|.fn n caps=>dyn n (args++caps) σ|_=>μ
def tab{α:Type}(d:α):List (Nat×α)->Nat->α
 |[],_=>d
 |(m,x)::r,n=>bif n==m then x else tab d r n
def iter(f:List AV->Heap->Option (AX×List AV×Heap)):Nat->List AV->Heap->Option (AX×List AV×Heap)
 |0,_,_=>μ
 |n+1,v,σ=>(f v σ).bind λr=>match r.1 with|.normal=>iter f n r.2.1 r.2.2|_=>δ r
def loop (f:List AV->Heap->Option (AX×List AV×Heap)) (v:List AV) (σ:Heap):Option (AX×List AV×Heap):=
 open Classical in if h:∃n r,iter f n v σ=δ r then δ (UN (SA h))else μ
def EN{R:Type}(f:List AV->Heap->(AX×List AV×Heap->Option R)->Option R):Nat->List AV->Heap->(AX×List AV×Heap->Option R)->Option R
 |0,_,_,_=>μ
 |n+1,v,σ,K=>f v σ λr=>match r.1 with|.normal=>EN f n r.2.1 r.2.2 K|_=>K r
def NN {R:Type} (f:List AV->Heap->(AX×List AV×Heap->Option R)->Option R) (v:List AV) (σ:Heap) (K:AX×List AV×Heap->Option R):Option R:=
 open Classical in if h:∃r,∃n,∀m,n<=m->EN f m v σ K=δ r then δ (UN h)else μ
mutual
def bA(σ:Heap)(n:Nat):Nat->AV->Option AV
 |_,.int k a=>δ (.int k a)
 |_,.bool b=>δ (.bool b)
 |_,.str s=>δ (.str s)
 |_,.aC=>δ .aC
 |_,.ez=>δ .ez
 |_,.np=>δ .np
 |_,.nm=>δ .nm
 |_,.vC=>δ .vC
 |d,.agg cs=>(dF σ n d cs).map .agg
 |d,.aJ cs=>(dF σ n d cs).map .aJ
 |d,.sl sz es=>(lG σ n d es).map (.sl sz)
 |d,.rp cs=>(dF σ n d cs).map .rp
 |d,.fm es=>(qE σ n d es).map .fm
 |d,.fn f cs=>(dF σ n d cs).map (.fn f)
 |0,_=>μ
 |d+1,.om id=>if id<n then δ (.om id)else match σ[id]? with
  |some (.map es)=>(tu σ n d es).map .fm
  |_=>μ
 |d+1,.op id off=>if id<n then δ (.op id off)else match σ[id]? with
  |some (.box cs)=>(sD σ n d (cs.drop off)).map .rp
  |_=>μ
 |d+1,.oe id g i off=>if id<n then δ (.oe id g i off)else match σ[id]? with
  |some (.arr g' _ es)=>if g=g' then(match es[i]? with|some e=>(sD σ n d (e.drop off)).map .rp|none=>μ)else μ
  |_=>μ
 |d+1,.os id g pL off len=>if id<n then δ (.os id g pL off len)else match σ[id]? with
  |some (.arr g' sz es)=>if g=g'/\pL=sz/\off+len<=es.length then(ED σ n d ((es.drop off).take len)).map (.sl sz)else μ
  |_=>μ
 |_,_=>μ
def dF(σ:Heap)(n:Nat):Nat->List AV->Option (List AV)
 |_,[]=>δ []
 |d,x::r=>(bA σ n d x).bind λy=>(dF σ n d r).map (y::·)
def sD(σ:Heap)(n:Nat):Nat->List AV->Option (List AV)
 |_,[]=>δ []
 |d,x::r=>(bA σ n d x).bind λy=>(sD σ n d r).map (y::·)
def qE(σ:Heap)(n:Nat):Nat->List (AV×AV)->Option (List (AV×AV))
 |_,[]=>δ []
 |d,(k,v)::r=>(bA σ n d k).bind λk=>(bA σ n d v).bind λv=>(qE σ n d r).map ((k,v)::·)
def tu(σ:Heap)(n:Nat):Nat->List (AV×AV)->Option (List (AV×AV))
 |_,[]=>δ []
 |d,(k,v)::r=>(bA σ n d k).bind λk=>(bA σ n d v).bind λv=>(tu σ n d r).map ((k,v)::·)
def lG(σ:Heap)(n:Nat):Nat->List (List AV)->Option (List (List AV))
 |_,[]=>δ []
 |d,x::r=>(dF σ n d x).bind λy=>(lG σ n d r).map (y::·)
def ED(σ:Heap)(n:Nat):Nat->List (List AV)->Option (List (List AV))
 |_,[]=>δ []
 |d,x::r=>(dF σ n d x).bind λy=>(ED σ n d r).map (y::·)
end
end A
open A renaming pick->ZM,aZ->ZO,elems->Vl,eC->Yt,cells->Φ,storeAt->ZX,dL->Uj,bound->Sq,lb->Z2,append->ZI,look->ZJ,leq->Wr,aQ->Zv,aS->Zp,entries->R2,cell->ZS,find->ZE,dh->SN,guard->θ,ay->Δ,cond->ξ,eY->Ud,add->Zn,bA->X0,dF->Xu,neq->Tn,deref->Γ,aR->Z0,lss->ZN,gtr->Zx,sub->YR,loop->Zo,eql->Zt,not->ZR,ext->Zl,quiet->Zu
abbrev az:Option AV:=(δ (Zz []))
abbrev aT:AV:=(χ ι)
abbrev br:AV:=(χ η)
abbrev cK:AV:=(ap3 ⟨#[]⟩)
abbrev aj(l:List AV)(n:Nat):AV:=l.getD n AV.undef
abbrev AV.ah(n:Int):AV:=UB Θ n
abbrev aB:=Option (AV×Heap)
abbrev aq:=List AV
section
structure rK where
 slot:Nat
 off:Nat
 tag:Option (Nat×Bool)
structure AS where
 sl:List AV
 A:Nat->Option rK
 σ:Heap
structure Fx where
 P:Program
 nm:List Nat
 call:FuncId->List AV->Heap->Option (AV×Heap)
 dyn:Nat->List AV->Heap->Option (AV×Heap)
 L:List Nat
 O:List Nat
 n:Nat
 W:List Nat
inductive lK where
 |n
 |s(a b:lK)
 |c(live:List Nat)(a b:lK)
 |j(a b:lK)
 |b(a:lK)
 |l(live:List Nat)(xs:List AX)(a:lK)
 |lc(live:List Nat)(xs:List AX)(a:lK)
noncomputable section
def xX:Value->AV
 |.int k n=>.int k n
 |.bool b=>.bool b
 |.string s=>.str s
 |.slice μ 0 0=>.aC
 |.pointer μ=>.np
 |.map μ=>.nm
 |.nilFunc=>.vC
 |_=>.undef
def cR:Value->Bool
 |.agg _=>ι
 |.tuple _=>ι
 |_=>η
def sE:Value->AV
 |.agg cs=>bif cs.toList.all cR then .agg (cs.toList.map xX)else .undef
 |v=>xX v
section
variable {R : Type} (X : Fx)
def zD(t:TypeId):Bool:=match X.P.underlying t with|some (.struct _)=>η|some (.array _ _)=>η|_=>ι
def rz(t:TypeId):Option (List AV):=match X.P.info? t with|some i=>(match i.zero with|some v=>bif v.cells.toList.all cR then δ (v.cells.toList.map xX)else μ|none=>μ)|none=>μ
def ev(s:AS):Operand->AV
 |.tmp t=>bif X.L.contains t then .undef else s.sl.getD t .undef
 |.const v=>sE v
 |.global _=>.undef
 |.func f=>.fn (X.nm.getD f 0) []
def nr(d:Nat):Option rK->Option rK
 |some p=>(match p.tag with|some (g,_)=>bif g==d then μ else δ p|none=>δ p)
 |none=>μ
def AS.put(X:Fx)(d:Option Nat)(v:AV)(s:AS):AS:=
 match d with
 |some d=>⟨s.sl.set d (bif X.L.contains d then .undef else v),λt=>bif t==d then μ else nr d (s.A t),s.σ⟩
 |none=>s
def AS.lM(X:Fx)(d:Option Nat)(b off:Nat)(tag:Option (Nat×Bool))(s:AS):AS:=
 match d with
 |some d=>⟨s.sl.set d .undef,λt=>bif t==d then(bif X.L.contains d||!TO d X.n then μ else match tag with|some (g,w)=>(bif g==d then μ else δ ⟨b,off,δ (g,w)⟩)|none=>δ ⟨b,off,μ⟩)else nr d (s.A t),s.σ⟩
 |none=>s
def AS.nA(d:Nat)(cs:List AV)(s:AS):AS:=
 ⟨s.sl.set d (.lbx cs),λt=>bif t==d then μ else match nr d (s.A t)with|some p=>bif p.slot==d then μ else δ p|none=>μ,s.σ⟩
def AS.heap(σ:Heap)(s:AS):AS:=⟨s.sl,s.A,σ⟩
def place(s:AS)(tag:Option (Nat×Bool)):Operand->Option (Nat×Nat)
 |.tmp t=>bif X.L.contains t then δ (t,0)else match s.A t with
  |some p=>bif X.L.contains p.slot then(match p.tag with|none=>δ (p.slot,p.off)|some g=>bif tag==δ g then δ (p.slot,p.off)else μ)else μ
  |none=>μ
 |_=>μ
def wu(t:TypeId)(off:Nat)(cs:List AV):Option AV:=match X.P.underlying t with
 |none=>μ
 |some _=>bif zD X t then Z0 off (X.P.cellsOf t) cs else Δ off cs
def uK(t:TypeId)(v:AV):Option (List AV):=match X.P.underlying t with
 |none=>μ
 |some _=>bif zD X t then Φ (X.P.cellsOf t) v else bif X.P.cellsOf t==1 then(ZS v).bind λv=>δ [v]else μ
def nD(s:AS)(place:Nat->Option (Nat×TypeId)):List (Nat×Operand)->List AV->Option (List AV)
 |[],cs=>δ cs
 |(i,x)::r,cs=>match place i with
  |none=>μ
  |some (off,t)=>(uK X t (ev X s x)).bind λnew=>(Zv off new cs).bind λcs=>nD s place r cs
def xM(t:TypeId)(f:Nat):Option (Nat×TypeId):=match X.P.underlying t with
 |some (.struct fs)=>(match fs[f]? with|some f=>δ (f.offset,f.type)|none=>μ)
 |_=>μ
def u9(f:TypeId->Bool)(size:TypeId->Nat):List Field->Nat->Option Nat
 |[],off=>δ off
 | x :: r, off => bif x.name != "_" && x.offset == off && f x.type then u9 f size r (off + size x.type) else μ
def jD(P:Program):Nat->TypeId->Bool
 |0,_=>ι
 |d+1,t=>match P.underlying t with
  |some .bool=>P.cellsOf t==1
  |some (.int _)=>P.cellsOf t==1
  |some .string=>P.cellsOf t==1
  |some (.struct fs)=>!P.stoodInHeld t&&u9 (jD P d) P.cellsOf fs.toList 0==δ (P.cellsOf t)
  |_=>ι
def kinds(P:Program):Nat->TypeId->List Nat
 |0,_=>[]
 |d+1,t=>match P.underlying t with
  |some .bool=>[1]
  |some (.int _)=>[0]
  |some .string=>[2]
  |some (.struct fs)=>fs.toList.flatMap λf=>kinds P d f.type
  |_=>[]
def k9(t:TypeId):Option A.EK:=match X.P.underlying t with
 |some .bool=>δ .b
 |some (.int _)=>δ .i
 |some .string=>δ .z
 |some (.pointer e)=>bif X.P.cellsOf e !=0 then δ .p else μ
 |some (.struct _)=>bif jD X.P 9 t&&!X.P.eqGuardType X.P.depth t then δ (.s (kinds X.P 9 t))else μ
 |_=>μ
def N0(op:BinOp)(t:TypeId)(x y:AV):Option AV:=match op with
 |.add=>Zn x y|.sub=>YR x y|.mul=>A.mul x y|.quo=>A.quo x y|.rem=>A.rem x y
 |.lss=>ZN x y|.leq=>Wr x y|.gtr=>Zx x y|.geq=>A.geq x y
 |.eql=>(match k9 X t with|some e=>Zt e x y|none=>match X.P.underlying t with|some (.slice _)=>A.Jy x y|_=>μ)
 |.neq=>(match k9 X t with|some e=>Tn e x y|none=>match X.P.underlying t with|some (.slice _)=>A.neN x y|_=>μ)
 |.shl=>A.shl x y|.shr=>A.shr x y|_=>μ
def dW(sz:Nat):Nat->List AV->List (List AV)
 |0,_=>[]
 |n+1,l=>l.take sz::dW sz n (l.drop sz)
def eF(o:Oper)(s:AS)(tag:Option (Nat×Bool)):Option AV:=
 match o.op with
 |.move x=>δ (ev X s x)
 |.assign x=>δ (ev X s x)
 |.pick c a b=>ZM (ev X s c) (ev X s a) (ev X s b)
 |.alloc t=>(match rz X t with|some cs=>δ (.rp cs)|none=>μ)
 |.box t x=>(uK X t (ev X s x)).bind λcs=>δ (.rp cs)
 |.build t ps=>(match rz X t,X.P.underlying t with
  |some zs,δ (.struct fs)=>bif fs.toList.all (λf=>(X.P.info? f.type).isSome)then(nD X s (xM X t) ps.toList zs).bind λcs=>δ (.agg cs)else μ
  |_,_=>μ)
 |.buildSlice t len ps=>(match X.P.underlying t with
  |some (.slice e)=>(match X.P.info? e,rz X e with
   |some i,δ zs=>bif (i.size==0||zs.length !=i.size)then μ else bif TO 16777216 (len*i.size)then μ
    else(nD X s (λj=>δ (j*i.size,e)) ps.toList ((ZB len zs).flatten)).bind λcs=>δ (bif len==0 then .ez else .sl i.size (dW i.size len cs))
   |_,_=>μ)
  |_=>μ)
 |.load t x=>(match place X s tag x with
  |some (b,off)=>(Z2 (s.sl.getD b .undef)).bind λcs=>wu X t off cs
  |none=>(Γ (ev X s x) s.σ).bind λcs=>wu X t 0 cs)
 |.nilCheck x=>A.jJ (ev X s x)
 |.binOp op t x y _=>N0 X op t (ev X s x) (ev X s y)
 |.unOp op _ x=>(match op with
  |.not=>ZR (ev X s x)
  |.neg=>A.neg (ev X s x)
  |_=>μ)
 |.convert src dst x=>(match X.P.underlying src,X.P.underlying dst with
  |some (.int _),δ (.int j)=>A.conv j (ev X s x)
  |some .string,δ .string=>A.WG (ev X s x)
  |_,_=>μ)
 |.makeInterface t _=>(match X.P.underlying t with|some (.interface _)=>μ|some _=>δ .undef|none=>μ)
 |.makeFunc fn first caps=>(match fn with|.func f=>bif first.toList.isEmpty then δ (.fn (X.nm.getD f 0) (caps.toList.map (ev X s)))else μ|_=>μ)
 |.slice t x lo hi mx=>(match mx with
  |none=>(match X.P.underlying t with
   |some .string=>A.Nv (ev X s x) (lo.map (ev X s)) (hi.map (ev X s))
   |some (.slice e)=>(match X.P.info? e with|some i=>A.gQ i.size (ev X s x) (lo.map (ev X s)) (hi.map (ev X s)) s.σ|none=>μ)
   |_=>μ)
  |some mx=>(match X.P.underlying t,hi with
   |some (.slice e),δ hi=>(match X.P.info? e with|some _=>A.slice3 (ev X s x) (lo.map (ev X s)) (ev X s hi) (ev X s mx)|none=>μ)
   |_,_=>μ))
 |.fieldAddr t x f=>(match xM X t f with
  |some (off,ft)=>(match X.P.info? ft with|some i=>bif i.size==0 then μ else SN off (ev X s x)|none=>μ)
  |none=>μ)
 |.field t x f=>(match xM X t f with
  |some (off,ft)=>(Φ (X.P.cellsOf t) (ev X s x)).bind λcs=>wu X ft off cs
  |none=>μ)
 |.indexAddr t x i=>(match X.P.underlying t with
  |some (.slice e)=>(match X.P.info? e with|some j=>Zp j.size (ev X s x) (ev X s i)|none=>μ)
  |some (.array len e)=>(match X.P.info? e with|some j=>A.uU len j.size (ev X s x) (ev X s i)|none=>μ)
  |_=>μ)
 |.index t x i=>(match X.P.underlying t with
  |some .string=>A.lJ (ev X s x) (ev X s i)
  |_=>μ)
 |.lookup t m i ok=>(match X.P.underlying t with
  |some (.map kt e)=>(match X.P.info? e,k9 X kt with
   |some inf,δ ek=>(match inf.zero with
    |some z=>bif ok then A.pR ek (ev X s m) (ev X s i) (sE z) s.σ else ZJ ek (ev X s m) (ev X s i) (sE z) s.σ
    |none=>μ)
   |_,_=>μ)
  |_=>μ)
 |.extract x i=>Zl i (ev X s x)
 |.entry i=>A.Ng (ev X s i) s.σ
 |.call c=>(match c.callee with
  |.builtin b=>(match b,c.argTypes.toList,c.args.toList.map (ev X s)with
   |.len,[t],[x]=>(match X.P.underlying t with
    |some .string=>A.rD x
    |some (.slice _)=>ZO x
    |some (.map _ _)=>A.XJ x s.σ
    |_=>μ)
   |.cap,[t],[x]=>(match X.P.underlying t with|some (.slice _)=>A.zS x|_=>μ)
   |.max,_,[x,y]=>A.max x y
   |.min,_,[x,y]=>A.min x y
   |_,_,_=>μ)
  |.value (.func f)=>Zu (X.call f (c.args.toList.map (ev X s)) s.σ) s.σ
  |.value x=>Zu (A.nC X.dyn (ev X s x) (c.args.toList.map (ev X s)) s.σ) s.σ
  |_=>μ)
 |_=>μ
def iR(o:Oper)(s:AS)(tag:Option (Nat×Bool)):Option (Nat×Option Nat):=
 match o.op with
 |.nilCheck x=>(match place X s tag x with|some (b,off)=>δ (b,(Z2 (s.sl.getD b .undef)).bind λ_=>δ off)|none=>μ)
 |.fieldAddr t x f=>(match place X s tag x with
  |some (b,o')=>δ (b,match xM X t f with
   |some (off,ft)=>(match X.P.info? ft with|some i=>bif i.size==0 then μ else(Z2 (s.sl.getD b .undef)).bind λ_=>δ (o'+off)|none=>μ)
   |none=>μ)
  |none=>μ)
 |.indexAddr t x i=>(match place X s tag x with
  |some (b,o')=>δ (b,match X.P.underlying t with
   |some (.array len e)=>(match X.P.info? e with|some ie=>(Z2 (s.sl.getD b .undef)).bind λ_=>(A.idx len (ev X s i)).bind λj=>δ (o'+j*ie.size)|none=>μ)
   |_=>μ)
  |none=>μ)
 |_=>μ
def mq(i:TypeInfo):Bool:=i.size==0||i.bytes==0||(match i.zero with|some z=>z.cells.size !=i.size||!z.cells.toList.all cR|none=>η)
def fq(q:Bool)(o:Oper)(s:AS)(k:AS->Option R):Option R:=
 match iR X o s μ with
 |some (b,r)=>r.bind λoff=>k (s.lM X o.dst b off μ)
 |none=>
 match o.op with
 |.alloc t=>(match o.dst with
  |some d=>bif X.L.contains d then(match rz X t with|some cs=>k (s.nA d cs)|none=>μ)
   else bif X.O.contains d then(match rz X t with|some cs=>k ((s.heap (s.σ++[.box cs])).put X (δ d) (.op s.σ.length 0))|none=>μ)
   else(eF X o s μ).bind λv=>k (s.put X o.dst v)
  |none=>μ)
 |.box t x=>(match o.dst with
  |some d=>bif X.L.contains d then(uK X t (ev X s x)).bind λcs=>k (s.nA d cs)
   else bif X.O.contains d then(uK X t (ev X s x)).bind λcs=>k ((s.heap (s.σ++[.box cs])).put X (δ d) (.op s.σ.length 0))
   else(eF X o s μ).bind λv=>k (s.put X o.dst v)
  |none=>μ)
 |.store t x v=>(match place X s μ x with
  |some (b,off)=>(Z2 (s.sl.getD b .undef)).bind λcs=>(uK X t (ev X s v)).bind λnew=>(Zv off new cs).bind λcs=>k ((⟨s.sl.set b (.lbx cs),s.A,s.σ⟩:AS).put X o.dst (.aJ []))
  |none=>(uK X t (ev X s v)).bind λnew=>(ZX (ev X s x) new s.σ).bind λσ=>k ((s.heap σ).put X o.dst (.aJ [])))
 |.buildSlice t n ps=>(match o.dst with
  |some d=>bif X.O.contains d then(eF X o s μ).bind λv=>A.ve v λsz es=>k ((s.heap (s.σ++[.arr es.length sz es])).put X (δ d) (.os s.σ.length es.length sz 0 es.length))
   else(eF X o s μ).bind λv=>k (s.put X o.dst v)
  |none=>(eF X o s μ).bind λv=>k (s.put X o.dst v))
 |.makeMap t r=>(match r with
  |none=>k ((s.heap (s.σ++[.map []])).put X o.dst (.om s.σ.length))
  |some _=>μ)
 |.mapUpdate t m i v=>(match X.P.underlying t with
  |some (.map kt _)=>(match k9 X kt with|some ek=>(Uj ek (ev X s m) (ev X s i) (ev X s v) s.σ).bind λσ=>k ((s.heap σ).put X o.dst (.aJ []))|none=>μ)
  |_=>μ)
 |.range t x=>(match X.P.underlying t with
  |some (.map _ _)=>(A.Nr (ev X s x)).bind λes=>k ((s.heap (s.σ++[.it [] es])).put X o.dst (.op s.σ.length 0))
  |_=>μ)
 |.next i str=>bif q||str then μ else A.yl (ev X s i) s.σ (λv σ=>k ((s.heap σ).put X o.dst v))
 |.call c=>(match c.callee with
  |.builtin .append=>(match c.argTypes.toList,c.args.toList.map (ev X s)with
   |[t,u],[x,y]=>(match X.P.underlying t,X.P.underlying u with
    |some (.slice e),δ (.slice _)=>(match X.P.info? e with
     |some i=>bif mq i then μ else(ZI i.size (140737488355328 / i.bytes) x y s.σ).bind λr=>k ((s.heap r.2).put X o.dst r.1)
     |none=>μ)
    |some (.slice e),δ (.int _)=>(match X.P.info? e,rz X e with
     |some i,δ zs=>bif mq i then μ else(A.tg i.size (140737488355328 / i.bytes) zs x y s.σ).bind λr=>k ((s.heap r.2).put X o.dst r.1)
     |_,_=>μ)
    |_,_=>μ)
   |_,_=>μ)
  |.builtin .copy=>(match c.argTypes.toList,c.args.toList.map (ev X s)with
   |[t,u],[x,y]=>(match X.P.underlying t,X.P.underlying u with
    |some (.slice e),δ (.slice _)=>(match X.P.info? e with
     |some i=>bif mq i then μ else(A.NA i.size x y s.σ).bind λr=>k ((s.heap r.2).put X o.dst r.1)
     |none=>μ)
    |_,_=>μ)
   |_,_=>μ)
  | .builtin .cap => A.uY (eF X o s μ) (λv => k (s.put X o.dst v)) (bif q then μ else (match c.argTypes.toList, c.args.toList.map (ev X s) with
    |[t],[x]=>(match X.P.underlying t with|some (.slice _)=>A.yw x s.σ (λc σ=>k ((s.heap σ).put X o.dst (.int Θ c)))|_=>μ)
    |_,_=>μ))
  |.builtin .clear=>(match c.argTypes.toList,c.args.toList.map (ev X s)with
   |[t],[x]=>(match X.P.underlying t with
    |some (.slice e)=>(match X.P.info? e,rz X e with
     |some i,δ zs=>bif mq i then μ else(A.zB i.size zs x s.σ).bind λσ=>k ((s.heap σ).put X o.dst (.aJ []))
     |_,_=>μ)
    |_=>μ)
   |_,_=>μ)
  |.builtin .delete=>(match c.argTypes.toList,c.args.toList.map (ev X s)with
   |[t,_],[m,key]=>(match X.P.underlying t with
    |some (.map kt _)=>(match k9 X kt with|some ek=>(A.OH ek m key s.σ).bind λσ=>k ((s.heap σ).put X o.dst (.aJ []))|none=>μ)
    |_=>μ)
   |_,_=>μ)
  |.builtin _=>(eF X o s μ).bind λv=>k (s.put X o.dst v)
  | .value (.func f) => bif q && !X.W.contains f then (eF X o s μ).bind λv => k (s.put X o.dst v)
    else(X.call f (c.args.toList.map (ev X s)) s.σ).bind λr=>k ((s.heap r.2).put X o.dst r.1)
  | .value x => bif q then (eF X o s μ).bind λv => k (s.put X o.dst v)
    else(A.nC X.dyn (ev X s x) (c.args.toList.map (ev X s)) s.σ).bind λr=>k ((s.heap r.2).put X o.dst r.1)
  |_=>μ)
 |_=>(eF X o s μ).bind λv=>k (s.put X o.dst v)
def CH(o:Oper):Option (FuncId×List Operand):=match o.op with
 |.call c=>(match c.callee with|.value (.func f)=>bif X.W.contains f then δ (f,c.args.toList)else μ|_=>μ)
 |_=>μ
def Ej(o:Oper)(d:Nat):Bool:=X.L.contains d||(match o.dst with|some d=>X.L.contains d||X.O.contains d|none=>ι)
def lS(q:Bool)(ops:Array Oper)(o:Oper)(s:AS)(k:AS->Option R):Option R:=
 match o.guard with
 |none=>fq X q o s k
 |some (j,want)=>match(ops[j]?).bind (·.dst)with
  |some d=>bif Ej X o d then μ else(match CH X o with
   |some (f,as')=>(θ (s.sl.getD d .undef) want (X.call f (as'.map (ev X s)) s.σ) (δ (.aJ [],s.σ))).bind λr=>k ((s.heap r.2).put X o.dst r.1)
   |none=>(match iR X o s (δ (d,want))with
    |some (b,r)=>r.bind λoff=>k (s.lM X o.dst b off (δ (d,want)))
    |none=>(θ (s.sl.getD d .undef) want (eF X o s (δ (d,want))) (δ (.aJ []))).bind λv=>k (s.put X o.dst v)))
  |none=>μ
def force{R:Type}:List AV->(List AV->Option R)->Option R
 |[],k=>k []
 |x::l,k=>force l λl=>k (x::l)
def qG(q:Bool)(ops:Array Oper):List Oper->AS->(AS->Option R)->Option R
 |[],s,k=>k s
 |o::r,s,k=>lS X q ops o s λs=>qG q ops r s k
def E9(q:Bool)(ops:Array Oper):List Oper->AS->(AS->Option R)->Option R
 |[],s,k=>k s
 |o::r,s,k=>lS X q ops o s λs=>force s.sl λsl=>E9 q ops r ⟨sl,s.A,s.σ⟩ k
def rL(o:Oper):Bool:=match o.op with|.load ..|.store ..|.fieldAddr ..|.indexAddr ..|.nilCheck ..=>η|_=>ι
def rH(o:Oper):Bool:=match o.op with|.load ..|.store ..|.lookup ..|.mapUpdate ..|.call ..|.makeMap ..|.alloc ..|.box ..|.range ..|.next ..|.entry ..|.slice ..|.buildSlice ..=>η|_=>ι
def wH(o:Oper):Bool:=match o.op with
 |.store ..|.mapUpdate ..|.makeMap ..|.range ..|.next ..=>η
 |.alloc ..|.box ..|.buildSlice ..=>(match o.dst with|some d=>X.O.contains d|none=>ι)
 |.call c=>(match c.callee with|.builtin .len=>ι|.builtin .max=>ι|.builtin .min=>ι|.builtin _=>η|.value (.func f)=>X.W.contains f|_=>ι)
 |_=>ι
def nE:AV->Bool
 |.oe ..=>ι
 |_=>η
def uL(Bt:List Nat)(o:Oper):Bool:=match o.op with
 |.move (.tmp t)=>Bt.contains t
 |.assign (.tmp t)=>Bt.contains t
 |.nilCheck (.tmp t)=>Bt.contains t
 |.fieldAddr _ (.tmp t) _=>Bt.contains t
 |_=>ι
def agD(o:Oper):Option Nat:=match o.op with
 |.move (.tmp t)=>δ t
 |.assign (.tmp t)=>δ t
 |.nilCheck (.tmp t)=>δ t
 |.fieldAddr _ (.tmp t) _=>δ t
 |.load _ (.tmp t)=>δ t
 |_=>μ
def ag8(ops:List Oper)(sl:List AV):List Nat:=(ops.filterMap agD).filter λt=>!(ops.any λo=>o.dst==δ t)&&nE (sl.getD t .undef)
def aoX:List Oper->List Nat->List Nat
 |[],acc=>acc
 |o::r,acc=>aoX r (match o.dst with|some d=>(bif uL acc o then d::acc else acc)|none=>acc)
def soft(Bt:List Nat)(o:Oper):Bool:=match o.op with|.load _ (.tmp t)=>Bt.contains t|_=>ι
def yN(o:Oper):Bool:=match o.op with
 |.makeMap ..=>η
 |.mapUpdate ..=>η
 |.call c=>(match c.callee with|.builtin .append=>η|_=>ι)
 |_=>ι
def NV(Bt:List Nat)(o:Oper):Bool:=match o.dst with
 |some d=>!Bt.contains d||uL Bt o
 |none=>η
def mV(o:Oper):Option Operand:=match o.op with
 |.load _ x=>δ x
 |.store _ x _=>δ x
 |.fieldAddr _ x _=>δ x
 |.indexAddr _ x _=>δ x
 |.nilCheck x=>δ x
 |_=>μ
def rj(o:Oper):Bool:=match o.op with|.fieldAddr ..=>η|.indexAddr ..=>η|.nilCheck ..=>η|_=>ι
def vG(Rt:List (Nat×Nat)):Operand->Option Nat
 |.tmp t=>bif X.L.contains t then δ t else Rt.lookup t
 |_=>μ
def rt(Rt:List (Nat×Nat))(o:Oper):Option Nat:=match mV o with|some x=>vG X Rt x|none=>μ
def Ns:List Oper->List (Nat×Nat)->List (Nat×Nat)
 |[],Rt=>Rt
 |o::r,Rt=>Ns r (match o.dst with|some d=>(bif rj o then(match rt X Rt o with|some b=>(d,b)::Rt|none=>Rt)else Rt)|none=>Rt)
def NX(Rt:List (Nat×Nat))(o:Oper):Bool:=match o.dst with
 |some d=>X.L.contains d||Rt.lookup d==(bif rj o then rt X Rt o else μ)
 |none=>η
def kV:AV->Bool
 |.undef=>η
 |.aJ []=>η
 |_=>ι
def agm(Rt:List (Nat×Nat))(sl:List AV):Bool:=Rt.all λp=>kV (sl.getD p.1 .undef)
def wb(Rt:List (Nat×Nat))(o:Oper):Option Nat:=match o.op with|.store ..=>rt X Rt o|_=>μ
def sj(Rt:List (Nat×Nat))(o:Oper):Bool:=match o.op with
 |.load ..=>(rt X Rt o).isNone
 |.store ..=>(rt X Rt o).isNone
 |.alloc ..|.box ..|.buildSlice ..=>(match o.dst with|some d=>X.O.contains d|none=>ι)
 |_=>rH o
def oN(Rt:List (Nat×Nat))(o:Oper):Bool:=match o.op with
 |.store ..=>(rt X Rt o).isNone
 |_=>wH X o
def uV(Rt:List (Nat×Nat))(Bt:List Nat)(x y:Oper):Bool:=
 (match wb X Rt x with|some b=>rt X Rt y==δ b|none=>ι)||(match x.dst with|some d=>X.L.contains d&&rt X Rt y==δ d|none=>ι)||(oN X Rt x&&((sj X Rt y&&!(soft Bt y&&yN x))||oN X Rt y))
def indep(Rt:List (Nat×Nat))(Bt:List Nat)(ops:Array Oper)(x y:Oper):Bool:=x.apart ops y&&!uV X Rt Bt x y&&!uV X Rt Bt y x
def IW:List Oper->List Nat->List Nat
 |[],acc=>acc
 |o::r,acc=>IW r (acc++[o.after.toList.foldl (λs e=>bif Rv .any e then s ||| 2 ^ e.on ||| acc.getD e.on 0 else s) 0])
def IF:List Oper->Nat->Bool
 |[],_=>η
 |o::r,i=>o.after.toList.all (λe=>!Rv .any e||TO e.on i)&&IF r (i+1)
def Iz(Rt:List (Nat×Nat))(Bt:List Nat)(ops:Array Oper)(FA:List Nat):List Oper->Nat->Bool
 |[],_=>η
 |o::r,i=>(ops.toList.take i).zipIdx.all (λp=>(FA.getD i 0).testBit p.2||indep X Rt Bt ops p.1 o)&&Iz Rt Bt ops FA r (i+1)
def HQ(Rt:List (Nat×Nat))(Bt:List Nat)(ops:Array Oper)(sl:List AV):Bool:=X.P.follows .mixedOrders&&IF ops.toList 0&&Iz X Rt Bt ops (IW ops.toList []) ops.toList 0&&ops.toList.all (NX X Rt)&&agm Rt sl&&Rt.all (λp=>X.L.contains p.2)&&ops.toList.all (NV Bt)&&Bt.all (λt=>nE (sl.getD t .undef))
def Ep(ops:Array Oper)(sl:List AV):Bool:=HQ X (Ns X ops.toList []) [] ops sl||HQ X (Ns X ops.toList []) (aoX ops.toList (ag8 ops.toList sl)) ops sl
def dD:Code->List Nat
 |.region _ ops _=>ops.toList.filterMap (·.dst)
 |.seq a b=>dD a++dD b
 |.cond _ a b=>dD a++dD b
 |.block _ c=>dD c
 |.loop c=>dD c
 |_=>[]
def sZ(sl:List AV):List Nat->List AV
 |[]=>sl
 |d::r=>sZ (sl.set d .undef) r
def CD(vs:List AV):List AV->List Nat->Nat->List AV
 |sl,d::r,j=>CD vs (sl.set d (vs.getD j .undef)) r (j+1)
 |sl,[],_=>sl
def vals(sl:List AV)(live:List Nat):List AV:=live.map (sl.getD · .undef)
def AS.meet(s:AS)(mods live:List Nat)(vs:List AV)(σ:Heap):AS:=⟨CD vs (sZ s.sl mods) live 0,λ_=>μ,σ⟩
def leave(live:List Nat)(e:AX)(s:AS):Option (AX×List AV×Heap):=δ (e,vals s.sl live,s.σ)
def IL(live:List Nat)(e:AX)(s:AS):Option (List AV×Heap):=match e with|.normal=>δ (vals s.sl live,s.σ)|_=>μ
def A.sel{R:Type}(e:AX)(k:AX->Option R):List AX->Option R
 |[]=>μ
 |x::r=>bif e==x then k x else A.sel e k r
def exec:{R:Type}->lK->Code->AS->(AX->AS->Option R)->Option R
 |_,_,.skip,s,k=>k .normal s
 |_,_,.label _,s,k=>k .normal s
 | _, _, .region _ ops draw, s, k => bif draw then (bif Ep X ops s.sl then E9 X η ops ops.toList ⟨s.sl, λ_ => μ, s.σ⟩ λs => k .normal ⟨s.sl, λ_ => μ, s.σ⟩ else μ)
   else E9 X ι ops ops.toList s λs=>k .normal ⟨s.sl,λ_=>μ,s.σ⟩
 |_,.s a b,.seq x y,s,k=>exec a x s λe s=>match e with|.normal=>exec b y s k|e=>k e s
 |_,.c live a b,.cond c x y,s,k=>bif !(live.all λd=>(dD x++dD y++X.L).contains d)then μ else(ξ (ev X s c) (exec a x s (IL live)) (exec b y s (IL live))).bind λr=>force (s.meet (dD x++dD y++X.L) live r.1 r.2).sl λsl=>k .normal ⟨sl,λ_=>μ,r.2⟩
 |_,.j a b,.cond c x y,s,k=>ξ (ev X s c) (exec a x s k) (exec b y s k)
 |_,.b a,.block id c,s,k=>exec a c s λe s=>match e with|.exit i=>bif i==id then k .normal s else k (.exit i) s|e=>k e s
 |_,.l live xs a,.loop c,s,k=>bif !(live.all λd=>(dD c++X.L).contains d)then μ else(Zo (λvs σ=>force (s.meet (dD c++X.L) live vs σ).sl λsl=>exec a c ⟨sl,λ_=>μ,σ⟩ (leave live)) (vals s.sl live) s.σ).bind λr=>A.sel r.1 (λe=>force (s.meet (dD c++X.L) live r.2.1 r.2.2).sl λsl=>k e ⟨sl,λ_=>μ,r.2.2⟩) xs
 |_,.lc live xs a,.loop c,s,k=>bif !(live.all λd=>(dD c++X.L).contains d)then μ else A.NN (λvs σ K=>force (s.meet (dD c++X.L) live vs σ).sl λsl=>exec a c ⟨sl,λ_=>μ,σ⟩ λe s'=>K (e,vals s'.sl live,s'.σ)) (vals s.sl live) s.σ λr=>A.sel r.1 (λe=>force (s.meet (dD c++X.L) live r.2.1 r.2.2).sl λsl=>k e ⟨sl,λ_=>μ,r.2.2⟩) xs
 |_,_,.exit id,s,k=>k (.exit id) s
 |_,_,.ret,s,k=>k .ret s
 |_,_,_,_,_=>μ
def wK(s:AS):List ResultVar->(List AV->Option R)->Option R
 |[],k=>k []
 |.tmp t::r,k=>wK s r λvs=>k (ev X s (.tmp t)::vs)
 |.cell a t::r,k=>(match place X s μ (.tmp a)with
  |some (b,off)=>((Z2 (s.sl.getD b .undef)).bind λcs=>wu X t off cs).bind λv=>wK s r λvs=>k (v::vs)
  |none=>((Γ (ev X s (.tmp a)) s.σ).bind λcs=>wu X t 0 cs).bind λv=>wK s r λvs=>k (v::vs))
def one:List AV->AV
 |[v]=>v
 |vs=>.aJ vs
def A.fin(σ:Heap)(r:AV)(σ':Heap):Option (AV×Heap):=open Classical in
 if σ'=σ then δ (r,σ)else if σ'.take σ.length=σ then(X0 σ' σ.length 8 r).map λr=>(r,σ)else μ
def A.Xe (es:List (AV×AV)):List (AV×AV):=UN (p:=λl:List (AV×AV)=>l.Perm es) ⟨es,.refl _⟩
def A.can (x:AV):AV:=match x with
 |.fm es=>open Classical in if EG es then .fm (A.Xe es)else .fm es
 |x=>x
def A.Of (σ:Heap) (n:Nat) (x:aP):Option aP:=match x with
 |.box cs=>(Xu σ n 8 cs).map λcs=>.box (cs.map A.can)
 |.arr g sz es=>(A.lG σ n 8 es).map λes=>.arr g sz (es.map (·.map A.can))
 |.qD g sz es=>(A.lG σ n 8 es).map λes=>.qD g sz (es.map (·.map A.can))
 |.map es=>(A.qE σ n 8 es).map .map
 |.it _ _=>μ
def A.CF (σ:Heap) (n:Nat):Heap->Heap->Option Heap
 |[],_=>δ []
 |_::_,[]=>μ
 |b::r,b'::r'=>open Classical in (if b'=b then δ b else A.Of σ n b').bind λx=>(A.CF σ n r r').map (x::·)
def A.E0 (σ:Heap) (v:AV) (σ':Heap):Option (AV×Heap):=(A.CF σ' σ.length σ σ').bind λτ=>(X0 σ' σ.length 8 v).map λr=>(r,τ)
inductive oq where
 |K
 |F
  |N(f:AV->AV)
  |G
  |R
def A.gen:List AV->Nat
 |[]=>0
 |x::r=>(match x with|.os _ g _ _ len=>g+len|.sl _ es=>es.length|_=>0)+A.gen r
def A.rowsOf:List AV->List (List AV)
 |[]=>[]
 |x::r=>(match x with|.sl _ es=>es|_=>[])++A.rowsOf r
def A.merge(args:List AV)(σ:Heap)(sz:Nat)(seg:List (List AV))(id:Nat)(σ':Heap):Option (AV×Heap):=match args with
 |.os gU _ _ _ _::_=>match σ[gU]? with
  | some (.arr g1 xx tQ) => open Classical in if id = σ.length /\ σ'.length = σ.length + 1 /\ xx = sz /\ g1 < A.gen args + 1 /\ (∀ j, j < σ.length -> j ≠ gU -> σ'[j]? = σ[j]?) /\ σ'[gU]? = δ (.qD g1 xx tQ) /\ (∀ y ∈ seg, y ∈ tQ \/ y ∈ A.rowsOf args) then
    δ (.os gU (A.gen args+1) sz 0 seg.length,σ.set gU (.arr (A.gen args+1) sz seg))else μ
  |_=>μ
 |_=>μ
def A.aja:List AV->Bool
 |.os ..::_=>η
 |_=>ι
def A.renew(args:List AV)(σ:Heap)(v:AV)(σ':Heap):Option (AV×Heap):=match v with
 |.os id g sz off len=>match σ'[id]? with
  | some (.arr g' sz' es) => if g = g' /\ sz = sz' /\ off + len <= es.length /\ g < A.gen args + 1 then
    (if id<σ.length\/A.aja args=ι then δ (.os id (A.gen args+1) sz 0 len,σ'.set id (.arr (A.gen args+1) sz ((es.drop off).take len)))else A.merge args σ sz ((es.drop off).take len) id σ')else μ
  |_=>μ
 |.aC=>δ (.aC,σ')
 |.ez=>δ (.ez,σ')
 |.sl sz []=>δ (.sl sz [],σ')
 |_=>μ
def oq.run(f:oq)(args:List AV)(σ:Heap)(v:AV)(σ':Heap):Option (AV×Heap):=match f with
 |.K=>δ (v,σ')
 |.F=>A.fin σ v σ'
 |.N g=>(A.fin σ v σ').map λp=>(g p.1,p.2)
 |.G=>A.E0 σ v σ'
 |.R=>A.renew args σ v σ'
def nN(fin:oq)(bK:lK)(fn:Func)(args:List AV)(σ:Heap):Option (AV×Heap):=
 match fn.body with
 |some c=>bif !(Nat.ble args.length fn.ntmps&&X.n==fn.ntmps)then μ else exec X bK c ⟨args++ZB (fn.ntmps-args.length) (.aJ []),λ_=>μ,σ⟩ λe s=>match e with
  |.exit _=>μ
  |_=>wK X s fn.results.toList λvs=>fin.run args σ (one vs) s.σ
 |none=>μ
end
end
end
open AS renaming put->SF
abbrev aW:lK:=(.s .n .n)
abbrev bF:lK:=(.s .n (.j aW .n))
abbrev bP:lK:=(.j .n .n)
structure Pl where
 b:Nat
 base:Nat
 g:Nat
 sz:Nat
 o7:Nat
structure RC where
 w:World
 E:List Pl
 X:Nat->Prop
 nm:List Nat
def oc(es:Array MapEntry)(bu:Nat):Prop:=(∀e∈es.toList,e.born<bu)/\(es.toList.map (·.born)).Nodup
def VK(es:List (AV×AV))(l L:List MapEntry):Prop:=l=L\/(l.Perm L/\EG es)
mutual
def an(c:RC):AV->Value->Prop
 |.undef,_=>True
 |.int k n,v=>v=.int k n
 |.bool b,v=>v=.bool b
 |.str s,v=>v=.string s
 |.agg cs,v=>∃vs,v=.agg vs/\aN c cs vs.toList/\∀x∈vs.toList,cR x=η
 |.aJ cs,v=>∃vs,v=.tuple vs/\aN c cs vs.toList
 |.sl sz es,v=>∃a cap,v=.slice a es.length cap/\es.length<=cap/\0<sz/\(es=[]\/∃b off,a=δ ⟨b,off,μ⟩/\b<c.w.heap.size/\¬c.X b/\bC c sz b off es)
 |.aC,v=>v=.slice μ 0 0
 |.ez,v=>∃a,v=.slice a 0 0
 |.rp cs,v=>∃b off,v=.pointer (δ ⟨b,off,μ⟩)/\b<c.w.heap.size/\¬c.X b/\bp c b off cs
 |.np,v=>v=.pointer μ
 |.op id off,v=>∃p,c.E[id]? =δ p/\p.g=0/\v=.pointer (δ ⟨p.b,off,μ⟩)
 |.oe id g i off,v=>0<g/\∃p,c.E[id]? =δ p/\g<=p.g/\∃a,v=.pointer (δ a)/\(g=p.g->a=⟨p.b,p.base+i*p.sz+off,μ⟩)
 |.os id g sz off len,v=>0<g/\∃p,c.E[id]? =δ p/\g<=p.g/\∃a cap,v=.slice (δ a) len cap/\len<=cap/\(g=p.g->p.sz=sz/\(cap=0\/a=⟨p.b,p.base+off*p.sz,μ⟩)/\p.base+(off+cap)*p.sz=p.o7)
 |.om id,v=>∃p,c.E[id]? =δ p/\p.g=0/\v=.map (δ p.b)
 |.fm es,v=>∃b,v=.map (δ b)/\b<c.w.heap.size/\¬c.X b/\∃bn bu,c.w.heap[b]? =δ (.map bn bu)/\oc bn bu/\∃l,bW c es l/\VK es l bn.toList
 |.nm,v=>v=.map μ
 |.fn n caps,v=>∃f vs,v=.func (.func f) #[] vs/\c.nm.getD f 0=n/\aN c caps vs.toList
 |.vC,v=>v=.nilFunc
 |.lbx _,_=>False
def aN(c:RC):List AV->List Value->Prop
 |[],vs=>vs=[]
 |a::r,vs=>∃v vs',vs=v::vs'/\an c a v/\aN c r vs'
def bW(c:RC):List (AV×AV)->List MapEntry->Prop
 |[],es=>es=[]
 |(k,v)::r,es=>∃e es',es=e::es'/\an c k e.key/\an c v e.val/\bW c r es'
def bp(c:RC)(b:Nat):Nat->List AV->Prop
 |_,[]=>True
 |off,a::r=>(∃v,c.w.cell? ⟨b,off,μ⟩=δ v/\cR v=η/\an c a v)/\bp c b (off+1) r
def bC(c:RC)(sz b:Nat):Nat->List (List AV)->Prop
 |_,[]=>True
 |off,e::r=>e.length=sz/\bp c b off e/\bC c sz b (off+sz) r
end
structure Ext (c c' : RC) : Prop where
 size:c.w.heap.size<=c'.w.heap.size
 stay:∀b,b<c.w.heap.size->¬c.X b->c'.w.heap[b]? =c.w.heap[b]? /\¬c'.X b
 env:∀(i:Nat)(p:Pl),c.E[i]? =δ p->∃p':Pl,c'.E[i]? =δ p'/\(p'=p\/(0<p.g/\p.g<p'.g))
 nm:c'.nm=c.nm
theorem cell_of_block{w w':World}{b off:Nat}(h:w'.heap[b]? =w.heap[b]?):w'.cell? ⟨b,off,μ⟩=w.cell? ⟨b,off,μ⟩:=by simp [apP,h]
mutual
theorem an.mono{c c':RC}(h:Ext c c'):∀(a:AV)(v:Value),an c a v->an c' a v
 |.undef,_,_=>by simp [an]
 |.int k n,v,r=>by simpa [an]using r
 |.bool b,v,r=>by simpa [an]using r
 |.str s,v,r=>by simpa [an]using r
 |.agg cs,v,r=>by simp only[an]at r ⊢;obtain⟨vs,e,r,k⟩:=r;exact⟨vs,e,aN.mono h cs _ r,k⟩
 |.aJ cs,v,r=>by simp only[an]at r ⊢;obtain⟨vs,e,r⟩:=r;exact⟨vs,e,aN.mono h cs _ r⟩
 |.sl sz es,v,r=>by
  simp only[an]at r ⊢;obtain⟨a,cap,e,h1,h2,r⟩:=r;refine⟨a,cap,e,h1,h2,?_⟩;rcases r with r|⟨b,off,e,hb,hx,r⟩
  ·exact .inl r
  ·exact .inr ⟨b,off,e,qB hb h.size,(h.stay b hb hx).2,bC.mono h sz b (h.stay b hb hx).1 es off r⟩
 |.aC,v,r=>by simpa [an]using r
 |.ez,v,r=>by simpa [an]using r
 |.rp cs,v,r=>by simp only[an]at r ⊢;obtain⟨b,off,e,hb,hx,r⟩:=r;exact⟨b,off,e,qB hb h.size,(h.stay b hb hx).2,bp.mono h b (h.stay b hb hx).1 cs off r⟩
 |.np,v,r=>by simpa [an]using r
 |.op id off,v,r=>by
  simp only[an]at r ⊢;obtain⟨p,h1,h2,e⟩:=r;obtain⟨p',h3,h4⟩:=h.env _ _ h1;rcases h4 with rfl|⟨h4,_⟩
  ·exact⟨p',h3,h2,e⟩
  ·omega
 |.oe id g i off,v,r=>by
  simp only[an]at r ⊢;obtain⟨hg,p,h1,h2,a,e,r⟩:=r;obtain⟨p',h3,h4⟩:=h.env _ _ h1;rcases h4 with rfl|⟨h4,h5⟩
  ·exact⟨hg,p',h3,h2,a,e,r⟩
  ·exact⟨hg,p',h3,by omega,a,e,λk=>by omega⟩
 |.os id g sz off len,v,r=>by
  simp only[an]at r ⊢;obtain⟨hg,p,h1,h2,a,cap,e,h6,r⟩:=r;obtain⟨p',h3,h4⟩:=h.env _ _ h1;rcases h4 with rfl|⟨h4,h5⟩
  ·exact⟨hg,p',h3,h2,a,cap,e,h6,r⟩
  ·exact⟨hg,p',h3,by omega,a,cap,e,h6,λk=>by omega⟩
 |.om id,v,r=>by
  simp only[an]at r ⊢;obtain⟨p,h1,h2,e⟩:=r;obtain⟨p',h3,h4⟩:=h.env _ _ h1;rcases h4 with rfl|⟨h4,_⟩
  ·exact⟨p',h3,h2,e⟩
  ·omega
 |.nm,v,r=>by simpa [an]using r
 |.fm es,v,r=>by simp only[an]at r ⊢;obtain⟨b,e,hb,hx,bn,bu,h1,hw,l,h2,h3⟩:=r;exact⟨b,e,qB hb h.size,(h.stay b hb hx).2,bn,bu,(h.stay b hb hx).1.trans h1,hw,l,bW.NO h es _ h2,h3⟩
 |.fn n caps,v,r=>by simp only[an]at r ⊢;obtain⟨f,vs,e,h1,r⟩:=r;exact⟨f,vs,e,by rw[h.nm];exact h1,aN.mono h caps _ r⟩
 |.vC,v,r=>by simpa [an]using r
 |.lbx _,v,r=>by simp [an]at r
theorem bW.NO{c c':RC}(h:Ext c c'):∀(l:List (AV×AV))(es:List MapEntry),bW c l es->bW c' l es
 |[],es,r=>by simpa [bW]using r
 |(k,v)::l,es,r=>by simp only[bW]at r ⊢;obtain⟨e,es',h1,h2,h3,h4⟩:=r;exact⟨e,es',h1,an.mono h k _ h2,an.mono h v _ h3,bW.NO h l es' h4⟩
theorem aN.mono{c c':RC}(h:Ext c c'):∀(l:List AV)(vs:List Value),aN c l vs->aN c' l vs
 |[],vs,r=>by simpa [aN]using r
 |a::l,vs,r=>by simp only[aN]at r ⊢;obtain⟨v,vs',e,h1,h2⟩:=r;exact⟨v,vs',e,an.mono h a v h1,aN.mono h l vs' h2⟩
theorem bp.mono{c c':RC}(h:Ext c c')(b:Nat)(hb:c'.w.heap[b]? =c.w.heap[b]?):∀(l:List AV)(off:Nat),bp c b off l->bp c' b off l
 |[],off,r=>by simp [bp]
 |a::l,off,r=>by simp only[bp]at r ⊢;obtain⟨⟨v,h1,h2,h3⟩,r⟩:=r;exact⟨⟨v,by rw[cell_of_block hb];exact h1,h2,an.mono h a v h3⟩,bp.mono h b hb l (off+1) r⟩
theorem bC.mono{c c':RC}(h:Ext c c')(sz b:Nat)(hb:c'.w.heap[b]? =c.w.heap[b]?):∀(l:List (List AV))(off:Nat),bC c sz b off l->bC c' sz b off l
 |[],off,r=>by simp [bC]
 |e::l,off,r=>by simp only[bC]at r ⊢;obtain⟨h1,h2,r⟩:=r;exact⟨h1,bp.mono h b hb e off h2,bC.mono h sz b hb l (off+sz) r⟩
end
open aN renaming mono->U3
open an renaming mono->TK
theorem Ext.trans{a b c:RC}(h:Ext a b)(k:Ext b c):Ext a c:=by
 refine⟨ZL h.size k.size,λx hx hn=>?_,λi p hp=>?_,k.nm.trans h.nm⟩
 ·obtain⟨h1,h2⟩:=h.stay x hx hn;obtain⟨h3,h4⟩:=k.stay x (qB hx h.size) h2;exact⟨h3.trans h1,h4⟩
 ·obtain⟨p',h1,h2⟩:=h.env i p hp;obtain⟨p'',h3,h4⟩:=k.env i p' h1;refine⟨p'',h3,?_⟩;rcases h2 with rfl|⟨h2,h5⟩
  ·exact h4
  ·rcases h4 with rfl|⟨h6,h7⟩
   ·exact .inr ⟨h2,h5⟩
   ·exact .inr ⟨h2,by omega⟩
theorem aN.length{c:RC}:∀{l:List AV}{vs:List Value},aN c l vs->l.length=vs.length
 |[],vs,h=>by simp only[aN]at h;subst h;rfl
 |a::l,vs,h=>by simp only[aN]at h;obtain⟨v,vs',rfl,_,h2⟩:=h;simp [aN.length h2]
theorem aN.nth{c:RC}:∀{l:List AV}{vs:List Value}{i:Nat}{a:AV},aN c l vs->l[i]? =δ a->∃v,vs[i]? =δ v/\an c a v
 |[],vs,i,a,h,k=>by simp at k
 |x::l,vs,0,a,h,k=>by simp only[aN]at h;obtain⟨v,vs',rfl,h1,_⟩:=h;simp at k;subst k;exact⟨v,rfl,h1⟩
 |x::l,vs,i+1,a,h,k=>by simp only[aN]at h;obtain⟨v,vs',rfl,_,h2⟩:=h;simp at k;obtain⟨u,h3,h4⟩:=aN.nth h2 k;exact⟨u,by simpa using h3,h4⟩
theorem aN.append{c:RC}:∀{l m:List AV}{vs us:List Value},aN c l vs->aN c m us->aN c (l++m) (vs++us)
 |[],m,vs,us,h,k=>by simp only[aN]at h;subst h;simpa using k
 |a::l,m,vs,us,h,k=>by simp only[aN]at h;obtain⟨v,vs',rfl,h1,h2⟩:=h;simp only[kF,aN];exact⟨v,_,rfl,h1,h2.append k⟩
theorem aN.take{c:RC}:∀{l:List AV}{vs:List Value}(n:Nat),aN c l vs->aN c (l.take n) (vs.take n)
 |[],vs,n,h=>by simp only[aN]at h;subst h;simp [aN]
 |a::l,vs,0,h=>by simp [aN]
 |a::l,vs,n+1,h=>by simp only[aN]at h;obtain⟨v,vs',rfl,h1,h2⟩:=h;simp only[List.take_succ_cons,aN];exact⟨v,_,rfl,h1,h2.take n⟩
theorem aN.drop{c:RC}:∀{l:List AV}{vs:List Value}(n:Nat),aN c l vs->aN c (l.drop n) (vs.drop n)
 |[],vs,n,h=>by simp only[aN]at h;subst h;simp [aN]
 |a::l,vs,0,h=>by simpa using h
 |a::l,vs,n+1,h=>by simp only[aN]at h;obtain⟨v,vs',rfl,h1,h2⟩:=h;simp only[List.drop_succ_cons];exact h2.drop n
theorem aN.map{c:RC}{α:Type}(f:α->AV)(g:α->Value):∀(l:List α),(∀x∈l,an c (f x) (g x))->aN c (l.map f) (l.map g)
 |[],_=>by simp [aN]
 |a::l,h=>by simp only[dH,aN];exact⟨_,_,rfl,h a (by simp),aN.map f g l (λx hx=>h x (by simp [hx]))⟩
theorem aN.single{c:RC}{a:AV}{v:Value}(h:an c a v):aN c [a] [v]:=by simp only[aN];exact⟨v,[],rfl,h,rfl⟩
theorem bp.nth{c:RC}{b:Nat}:∀{l:List AV}{off i:Nat}{a:AV},bp c b off l->l[i]? =δ a->∃v,c.w.cell? ⟨b,off+i,μ⟩=δ v/\cR v=η/\an c a v
 |[],off,i,a,h,k=>by simp at k
 |x::l,off,0,a,h,k=>by simp only[bp]at h;simp at k;subst k;exact h.1
 |x::l,off,i+1,a,h,k=>by simp only[bp]at h;simp at k;have:=bp.nth h.2 k;rwa[show off+1+i=off+(i+1) by omega]at this
open bp renaming nth->ap4
theorem bp.of{c:RC}{b:Nat}:∀{l:List AV}{off:Nat},(∀i a,l[i]? =δ a->∃v,c.w.cell? ⟨b,off+i,μ⟩=δ v/\cR v=η/\an c a v)->bp c b off l
 |[],off,h=>by simp [bp]
 |x::l,off,h=>by simp only[bp];refine⟨by simpa using h 0 x rfl,bp.of λi a hi=>?_⟩;have:=h (i+1) a (by simpa using hi);rwa[show off+(i+1)=off+1+i by omega]at this
open bp renaming of->aqy
theorem bp.drop{c:RC}{b:Nat}{l:List AV}{off:Nat}(n:Nat)(h:bp c b off l):bp c b (off+n) (l.drop n):=
 aqy λi a hi=>by have:=ap4 h (i:=n+i) (a:=a) (by rw[<-hi,Zg]);rwa[show off+(n+i)=off+n+i by omega]at this
theorem bp.take{c:RC}{b:Nat}{l:List AV}{off:Nat}(n:Nat)(h:bp c b off l):bp c b off (l.take n):=
 aqy λi a hi=>by
  have:l[i]? =δ a:=by
   rw[Vj]at hi;split at hi
   ·exact hi
   ·cases hi
  exact ap4 h this
theorem bC.nth{c:RC}{sz b:Nat}:∀{l:List (List AV)}{off i:Nat}{e:List AV},bC c sz b off l->l[i]? =δ e->e.length=sz/\bp c b (off+i*sz) e
 |[],off,i,e,h,k=>by simp at k
 |x::l,off,0,e,h,k=>by simp only[bC]at h;simp at k;subst k;exact⟨h.1,by simpa using h.2.1⟩
 |x::l,off,i+1,e,h,k=>by simp only[bC]at h;simp at k;have:=bC.nth h.2.2 k;rwa[show off+sz+i*sz=off+(i+1)*sz by rw[fQ];omega]at this
open bC renaming nth->aqe
theorem bC.of{c:RC}{sz b:Nat}:∀{l:List (List AV)}{off:Nat},(∀i e,l[i]? =δ e->e.length=sz/\bp c b (off+i*sz) e)->bC c sz b off l
 |[],off,h=>by simp [bC]
 |x::l,off,h=>by simp only[bC];have h0:=h 0 x rfl;simp at h0;refine⟨h0.1,h0.2,bC.of λi e hi=>?_⟩;have:=h (i+1) e (by simpa using hi);rwa[show off+(i+1)*sz=off+sz+i*sz by rw[fQ];omega]at this
theorem bC.drop{c:RC}{sz b:Nat}{l:List (List AV)}{off:Nat}(n:Nat)(h:bC c sz b off l):bC c sz b (off+n*sz) (l.drop n):=
 bC.of λi e hi=>by have:=aqe h (i:=n+i) (e:=e) (by rw[<-hi,Zg]);rwa[show off+(n+i)*sz=off+n*sz+i*sz by rw[fQ];omega]at this
theorem bC.take{c:RC}{sz b:Nat}{l:List (List AV)}{off:Nat}(n:Nat)(h:bC c sz b off l):bC c sz b off (l.take n):=
 bC.of λi e hi=>by
  have:l[i]? =δ e:=by
   rw[Vj]at hi;split at hi
   ·exact hi
   ·cases hi
  exact aqe h this
def ES(w:World)(free:Nat->Prop):Prop:=True
theorem ES.to{w w':World}{free free':Nat->Prop}(h:ES w free)(hs:w.heap.size<=w'.heap.size)(hk:∀b,b<w.heap.size->¬free b->w'.heap[b]? =w.heap[b]?)(hf:∀b,b<w.heap.size->free' b->free b):ES w' free':=trivial
section
open Go.RowKit
def wk(c:RC)(b:Nat)(cs:List AV):Prop:=(∃arr t,c.w.heap[b]? =δ (.cells arr t (0,0))/\arr.size=cs.length)/\bp c b 0 cs
def NW(c:RC)(b:Nat):Prop:=∀arr t fz,c.w.heap[b]? =δ (.cells arr t fz)->∀x∈arr.toList,cR x=η
def ahP(c:RC)(b:Nat)(cur left:List (AV×AV)):Prop:=(cur=[]/\left=[]/\∃since seen last,c.w.heap[b]? =δ (.mapIter μ since seen last))\/ ∃m seen bn bu,c.w.heap[b]? =δ (.mapIter (δ m) bu seen bu)/\m<c.w.heap.size/\¬c.X m/\c.w.heap[m]? =δ (.map bn bu)/\oc bn bu/\(∃l,bW c left l/\l.Perm (bn.toList.filter λe=>!seen.contains e.born))/\ (cur=[]\/∃k v e,cur=[(k,v)]/\seen.back? =δ e.born/\e∈bn.toList/\an c k e.key/\an c v e.val)
def oa(c:RC)(p:Pl):aP->Prop
 |.box cs=>p.g=0/\wk c p.b cs
 |.arr g sz es=>p.g=g/\0<g/\p.sz=sz/\0<sz/\(∃arr t,c.w.heap[p.b]? =δ (.cells arr t (0,0))/\arr.size=p.o7)/\p.base+es.length*sz<=p.o7/\bC c sz p.b p.base es/\NW c p.b
 |.qD g sz es=>p.g=g/\0<g/\p.sz=sz/\0<sz/\(∃arr t,c.w.heap[p.b]? =δ (.cells arr t (0,0))/\arr.size=p.o7)/\p.base+es.length*sz=p.o7/\bC c sz p.b p.base es/\NW c p.b
 |.map es=>p.g=0/\∃bn bu,c.w.heap[p.b]? =δ (.map bn bu)/\oc bn bu/\bW c es bn.toList
 |.it cur left=>p.g=0/\ahP c p.b cur left
structure fO (c : RC) (σ : Heap) : Prop where
 len:c.E.length=σ.length
 inj:∀(i j:Nat)(p q:Pl),c.E[i]? =δ p->c.E[j]? =δ q->p.b=q.b->i=j
 blk:∀(i:Nat)(p:Pl)(x:aP),c.E[i]? =δ p->σ[i]? =δ x->oa c p x
structure Z where
 w:World
 E:List Pl
 X:Nat->Prop
 nm:List Nat
def ctx(z:Z)(w:World)(E:List Pl)(pb:Nat->Option Nat):RC:=⟨w,E,λb=>z.X b\/(∃p∈E,p.b=b)\/∃i,pb i=δ b,z.nm⟩
def ahN(z:Z)(b:Nat):Prop:=z.X b\/∃p∈z.E,p.b=b
structure sK (z : Z) : Prop where
 f:∀b,z.X b->b<z.w.heap.size
 tab:ES z.w (ahN z)
instance {z : Z} : CoeFun (sK z) (λ_ => ∀ b, z.X b -> b < z.w.heap.size) := ⟨sK.f⟩
theorem sK.none{z:Z}(h:sK z){nm:List Nat}:sK ⟨z.w,[],λ_=>False,nm⟩:=
 ⟨λ_(k:False)=>k.elim,h.tab.to (bR _) (λ_ _ _=>rfl) λb _ k=>by rcases k with k|⟨p,hp,_⟩;exact(show False from k).elim;cases hp⟩
structure Out (z : Z) (w : World) (E : List Pl) : Prop where
 os:w.os=z.w.os
 tape:w.tape=z.w.tape
 output:w.output=z.w.output
 size:z.w.heap.size<=w.heap.size
 stay:∀b,b<z.w.heap.size->(∀p∈z.E,p.b≠b)->w.heap[b]? =z.w.heap[b]?
 fresh':∀(i:Nat)(p:Pl),E[i]? =δ p->z.w.heap.size<=p.b\/∃q:Pl,z.E[i]? =δ q/\q.b=p.b
 env:∀(i:Nat)(p:Pl),z.E[i]? =δ p->∃p':Pl,E[i]? =δ p'/\(p'=p\/(0<p.g/\p.g<p'.g))
 lt:sK z
 mine:∀p∈z.E,p.b<z.w.heap.size
theorem Out.fresh{z:Z}{w:World}{E:List Pl}(h:Out z w E)(p:Pl)(hp:p∈E):z.w.heap.size<=p.b\/∃q∈z.E,q.b=p.b:=by
 obtain⟨i,hi,rfl⟩:=Ut.1 hp;rcases h.fresh' i E[i] (by simp [hi])with k|⟨q,hq,k⟩
 ·exact .inl k
 ·exact .inr ⟨q,ct hq,k⟩
def Slot(c:RC)(pb:Nat->Option Nat)(i:Nat)(av:AV)(v:Value):Prop:=match av with
 |.lbx cs=>∃b,pb i=δ b/\v=.pointer (δ ⟨b,0,μ⟩)/\wk c b cs
 |av=>an c av v
def oU(a:Act):Option (Nat×Bool)->Prop
 |none=>True
 |some (g,want)=>a.tmps.getD g undef=.bool want
structure St (X : Fx) (z : Z) (s : AS) (a : Act) (w : World) (E : List Pl) (pb : Nat -> Option Nat) : Prop where
 len:a.tmps.size=s.sl.length
 oW:s.sl.length=X.n
 slot:∀i av,s.sl[i]? =δ av->Slot (ctx z w E pb) pb i av (a.tmps.getD i undef)
 box:∀i cs,s.sl[i]? =δ (.lbx cs)->X.L.contains i=η
 lM:∀t p,s.A t=δ p->oU a p.tag->∃b,pb p.slot=δ b/\a.tmps.getD t undef=.pointer (δ ⟨b,p.off,μ⟩)
 priv:∀i b,pb i=δ b->z.w.heap.size<=b/\b<w.heap.size/\∀p∈E,p.b≠b
 inj:∀i j b,pb i=δ b->pb j=δ b->i=j
 heap:fO (ctx z w E pb) s.σ
 defers:a.defers=[]
 out:Out z w E
 nm:X.nm=z.nm
theorem wk.mono{c c':RC}(h:Ext c c'){b:Nat}{cs:List AV}(hb:c'.w.heap[b]? =c.w.heap[b]?)(k:wk c b cs):wk c' b cs:=
 ⟨by rw[hb];exact k.1,bp.mono h b hb cs 0 k.2⟩
theorem bW.mono{c c':RC}(h:Ext c c'){l:List (AV×AV)}{es:List MapEntry}(r:bW c l es):bW c' l es:=bW.NO h l es r
theorem xP{c:RC}{b:Nat}{arr:Array Value}{t:TypeId}{fz:Nat×Nat}(h:c.w.heap[b]? =δ (.cells arr t fz))(ho:∀x∈arr.toList,cR x=η):NW c b:=λyu t' fz' e=>by rw[h]at e;injection e with e;injection e with e1;subst e1;exact ho
theorem oa.mono{c c':RC}(h:Ext c c'){p:Pl}{x:aP}(hb:c'.w.heap[p.b]? =c.w.heap[p.b]?)(k:oa c p x):oa c' p x:=by
 cases x with
 |box cs=>exact⟨k.1,k.2.mono h hb⟩
 |arr g sz es=>obtain⟨h1,h2,h3,h4,h5,h6,h7,h8⟩:=k;exact⟨h1,h2,h3,h4,by rw[hb];exact h5,h6,bC.mono h sz _ hb es _ h7,λarr t fz e=>h8 arr t fz (hb▸e)⟩
 |qD g sz es=>obtain⟨h1,h2,h3,h4,h5,h6,h7,h8⟩:=k;exact⟨h1,h2,h3,h4,by rw[hb];exact h5,h6,bC.mono h sz _ hb es _ h7,λarr t fz e=>h8 arr t fz (hb▸e)⟩
 |map es=>obtain⟨h1,bn,bu,h2,hw,h3⟩:=k;exact⟨h1,bn,bu,by rw[hb];exact h2,hw,h3.mono h⟩
 |it cur left=>
  obtain⟨h1,h2⟩:=k;refine⟨h1,?_⟩;rcases h2 with⟨h2,h2',since,seen,last,h3⟩|⟨m,seen,bn,bu,h3,h4,h5,h6,h7,h8,h9⟩
  ·exact .inl ⟨h2,h2',since,seen,last,by rw[hb];exact h3⟩
  ·refine .inr ⟨m,seen,bn,bu,by rw[hb];exact h3,qB h4 h.size,(h.stay m h4 h5).2,by rw[(h.stay m h4 h5).1];exact h6,h7,h8.imp λ_ q=>⟨q.1.mono h,q.2⟩,?_⟩;rcases h9 with h9|⟨k,v,e,e1,e2,e3,e4,e5⟩
   ·exact .inl h9
   ·exact .inr ⟨k,v,e,e1,e2,e3,TK h _ _ e4,TK h _ _ e5⟩
theorem oa.lt{c:RC}{p:Pl}{x:aP}(k:oa c p x):p.b<c.w.heap.size:=by
 have key:∀o,c.w.heap[p.b]? =δ o->p.b<c.w.heap.size:=λo ho=>(wz.1 ho).1
 cases x with
 |box cs=>obtain⟨_,⟨⟨arr,t,h,_⟩,_⟩⟩:=k;exact key _ h
 |arr g sz es=>obtain⟨_,_,_,_,⟨arr,t,h,_⟩,_⟩:=k;exact key _ h
 |qD g sz es=>obtain⟨_,_,_,_,⟨arr,t,h,_⟩,_⟩:=k;exact key _ h
 |map es=>obtain⟨_,bn,bu,h,_⟩:=k;exact key _ h
 |it cur left=>obtain⟨_,⟨_,_,_,_,_,h⟩|⟨_,_,_,_,h,_⟩⟩:=k<;>exact key _ h
theorem fO.lt{c:RC}{σ:Heap}(h:fO c σ){p:Pl}(hp:p∈c.E):p.b<c.w.heap.size:=by
 obtain⟨i,hi,rfl⟩:=Ut.1 hp;have hs:i<σ.length:=by rw[<-h.len];exact hi
 exact(h.blk i _ σ[i] (by simp [hi]) (by simp [hs])).lt
theorem fO.mono{c c':RC}{σ:Heap}(h:fO c σ)(hx:Ext c c')(hE:c'.E=c.E)(hb:∀p∈c.E,c'.w.heap[p.b]? =c.w.heap[p.b]?):fO c' σ:=by refine⟨by rw[hE];exact h.len,by rw[hE];exact h.inj,λi p x hi dO=>?_⟩;rw[hE]at hi;exact(h.blk i p x hi dO).mono hx (hb p (ct hi))
theorem Slot.rep{c:RC}{pb:Nat->Option Nat}{i:Nat}{av:AV}{v:Value}(h:Slot c pb i av v)(k:∀cs,av≠.lbx cs):an c av v:=by cases av<;>first|exact h|exact absurd rfl (k _)
theorem Slot.of{c:RC}{pb:Nat->Option Nat}{i:Nat}{av:AV}{v:Value}(h:an c av v):Slot c pb i av v:=by cases av<;>first|exact h|(simp [an]at h)
section
variable {X : Fx} {z : Z} {s : AS} {a : Act} {w w' : World} {E : List Pl} {pb : Nat -> Option Nat}
theorem St.ext(h:St X z s a w E pb){E':List Pl}{bJ:Nat->Option Nat}{σ':Heap}(hx:Ext (ctx z w E pb) (ctx z w' E' bJ))
  (hp:∀i b,pb i=δ b->bJ i=δ b/\w'.heap[b]? =w.heap[b]?) (ahF:∀i b,bJ i=δ b->z.w.heap.size<=b/\b<w'.heap.size/\∀p∈E',p.b≠b)
  (hinj:∀i j b,bJ i=δ b->bJ j=δ b->i=j) (hh:fO (ctx z w' E' bJ) σ') (ho:Out z w' E'):St X z (s.heap σ') a w' E' bJ:=by
 refine⟨h.len,h.oW,λi av hi=>?_,h.box,λt p hp' ht=>?_,ahF,hinj,hh,h.defers,ho,h.nm⟩
 ·have k:=h.slot i av hi;cases av with
  |lbx cs=>obtain⟨b,h1,h2,h3⟩:=k;exact⟨b,(hp i b h1).1,h2,h3.mono hx (hp i b h1).2⟩
  |_=>exact TK hx _ _ k
 ·obtain⟨b,h1,h2⟩:=h.lM t p hp' ht;exact⟨b,(hp _ b h1).1,h2⟩
theorem uE(g:Below w.heap.size w w'):Ext (ctx z w E pb) (ctx z w' E pb):=
 ⟨g.size,λb hb hX=>⟨g.block b hb,hX⟩,λi p h=>⟨p,h,.inl rfl⟩,rfl⟩
theorem Out.grow(h:Out z w E)(g:Below w.heap.size w w'):Out z w' E:=
 ⟨g.os.trans h.os,g.tape.trans h.tape,g.output.trans h.output,ZL h.size g.size,λb hb hp=>(g.block b (qB hb h.size)).trans (h.stay b hb hp),h.fresh',h.env,h.lt,h.mine⟩
theorem St.grow(h:St X z s a w E pb)(g:Below w.heap.size w w'):St X z s a w' E pb:=by
 have hx:Ext (ctx z w E pb) (ctx z w' E pb):=uE g
 exact h.ext (σ':=s.σ) hx (λi b hb=>⟨hb,g.block b (h.priv i b hb).2.1⟩) (λi b hb=>⟨(h.priv i b hb).1,qB (h.priv i b hb).2.1 g.size,(h.priv i b hb).2.2⟩) h.inj
  (h.heap.mono hx rfl λp hp=>g.block _ (h.heap.lt hp)) (h.out.grow g)
theorem St.fresh(h:St X z s a w E pb):¬(ctx z w E pb).X w.heap.size:=by
 rintro(h1|⟨p,hp,e⟩|⟨i,hi⟩)
 ·have:=h.out.lt _ h1;have:=h.out.size;omega
 ·have:=h.heap.lt hp;simp only[ctx]at this;omega
 ·have:=(h.priv i _ hi).2.1;omega
theorem Ce(l:Array Value)(d i:Nat)(v:Value):(l.setIfInBounds d v).getD i undef=if i=d/\d<l.size then v else l.getD i undef:=by
 by_cases h:d=i
 ·subst h;by_cases hd:d<l.size
  ·simp [ap5,hd]
  ·simp [ap5,hd]
 ·have h':¬i=d:=λe=>h e.symm
  simp [mO,Ti h,h']
theorem RW{d:Nat}{o:Option rK}{p:rK}(h:nr d o=δ p):o=δ p/\∀g w,p.tag=δ (g,w)->g≠d:=by
 cases o with
 |none=>simp [nr]at h
 |some q=>
  simp only[nr]at h;cases hq:q.tag with
  |none=>rw[hq]at h;simp at h;subst h;exact⟨rfl,λg w e=>by rw[hq]at e;cases e⟩
  |some gw=>
   obtain⟨g,w⟩:=gw;rw[hq]at h;simp only at h;by_cases e:g=d
   ·simp [e]at h
   ·have:(g==d)=ι:=by simpa using e
    rw[this]at h;simp at h;subst h;exact⟨rfl,λg' w' e'=>by rw[hq]at e';injection e' with e';injection e' with e1 e2;subst e1;exact e⟩
theorem Mu{d:Nat}{v:Value}{tag:Option (Nat×Bool)}(h:∀g w,tag=δ (g,w)->g≠d)(k:oU (a.put (δ d) v) tag):oU a tag:=by
 cases tag with
 |none=>trivial
 |some gw=>obtain⟨g,want⟩:=gw;have hg:=h g want rfl;simp only[oU,apU]at k ⊢;rw[Ce]at k;rwa[aF (λe=>hg e.1)]at k
theorem St.put(h:St X z s a w E pb)(d:Option Nat){av:AV}{v:Value}(hr:an (ctx z w E pb) av v):St X z (s.put X d av) (a.put d v) w E pb:=by
 cases d with
 |none=>exact h
 |some d=>
  refine⟨by simp [SF,apU,h.len],by simp [SF,h.oW],λi x hi=>?_,λi cs hi=>?_,λt p hp ht=>?_,h.priv,h.inj,h.heap,h.defers,h.out,h.nm⟩
  ·simp only[SF,apU]at hi ⊢;rw[Ce];rw[gd]at hi;by_cases e:d=i
   ·subst e;rw[aH rfl]at hi;by_cases hd:d<s.sl.length
    ·rw[aH hd]at hi;rw[aH ⟨rfl,by rw[h.len];exact hd⟩];injection hi with hi
     subst hi;cases X.L.contains d
     ·exact Slot.of hr
     ·exact trivial
    ·rw[aF hd]at hi;cases hi
   ·rw[aF e]at hi;rw[aF (λk=>e k.1.symm)];exact h.slot i x hi
  ·simp only[SF]at hi;rw[gd]at hi;by_cases e:d=i
   ·subst e;rw[aH rfl]at hi;split at hi
    ·injection hi with hi
     cases hL:X.L.contains d
     ·rw[hL]at hi;simp at hi;subst hi;simp [an]at hr
     ·rfl
    ·cases hi
   ·rw[aF e]at hi;exact h.box i cs hi
  ·simp only[SF]at hp;by_cases e:t=d
   ·subst e;simp at hp
   ·have:(t==d)=ι:=by simpa using e
    rw[this]at hp;simp at hp;obtain⟨hp,hg⟩:=RW hp;obtain⟨b,h1,h2⟩:=h.lM t p hp (Mu hg ht);refine⟨b,h1,?_⟩;simp only[apU];rw[Ce,aF (λk=>e k.1)];exact h2
theorem St.NZ(h:St X z s a w E pb)(d:Option Nat){sl off:Nat}{tag:Option (Nat×Bool)}{v:Value}(hv:oU a tag->∃b,pb sl=δ b/\v=.pointer (δ ⟨b,off,μ⟩)):
  St X z (s.lM X d sl off tag) (a.put d v) w E pb:=by
 cases d with
 |none=>exact h
 |some d=>
  have hput:=h.put (δ d) (av:=.undef) (v:=v) (by simp [an])
  have kN:(s.put X (δ d) .undef).sl=(s.lM X (δ d) sl off tag).sl:=by simp only[SF,AS.lM];cases X.L.contains d<;>rfl
  refine⟨by rw[<-kN];exact hput.len,by rw[<-kN];exact hput.oW,by rw[<-kN];exact hput.slot,by rw[<-kN];exact hput.box,λt p hp ht=>?_,h.priv,h.inj,h.heap,h.defers,h.out,h.nm⟩;by_cases e:t=d
  ·subst e;simp only[AS.lM]at hp;simp only[beq_self_eq_true,bz]at hp;cases hL:(X.L.contains t||!TO t X.n)
   ·rw[hL]at hp;simp only[bk]at hp
    have hlt:t<a.tmps.size:=by rw[h.len,h.oW];simp only[mP,apC]at hL;exact Nat.blt_eq.mp hL.2
    have key:p.slot=sl/\p.off=off/\oU a tag:=by
     cases tag with
     |none=>simp at hp;subst hp;exact⟨rfl,rfl,trivial⟩
     |some gw=>
      obtain⟨g,want⟩:=gw;simp only at hp;by_cases eg:g=t
      ·subst eg;simp at hp
      ·have:(g==t)=ι:=by simpa using eg
       rw[this]at hp;simp at hp;subst hp;exact⟨rfl,rfl,Mu (d:=t) (v:=v) (λg' w' e'=>by injection e' with e';injection e' with e1;subst e1;exact eg) ht⟩
    obtain⟨k1,k2,k3⟩:=key;obtain⟨b,h1,h2⟩:=hv k3;refine⟨b,by rw[k1];exact h1,?_⟩;simp only[apU];rw[Ce,aH ⟨rfl,hlt⟩,k2];exact h2
   ·rw[hL]at hp;simp at hp
  ·have hp':(s.put X (δ d) .undef).A t=δ p:=by
    simp only[AS.lM]at hp;simp only[SF];have:(t==d)=ι:=by simpa using e
    rw[this]at hp ⊢;exact hp
   exact hput.lM t p hp' ht
def _root_.Go.World.dn(w:World)(b:Nat)(o:Obj):World:={w with heap:=w.heap.setIfInBounds b o}
theorem Ty(b k:Nat)(o:Obj):(w.dn b o).heap[k]? =if b=k/\b<w.heap.size then δ o else w.heap[k]? :=by
 simp only[World.dn,YZ];by_cases h:b=k
 ·subst h;by_cases hb:b<w.heap.size
  ·simp [hb]
  ·simp [hb]
 ·simp [h]
theorem sV{b:Nat}(o:Obj)(hb:b<w.heap.size):(w.dn b o).heap[b]? =δ o:=by rw[Ty,aH ⟨rfl,hb⟩]
theorem vL{b k:Nat}(o:Obj)(h:b≠k):(w.dn b o).heap[k]? =w.heap[k]? :=by rw[Ty,aF (λe=>h e.1)]
theorem zu(b:Nat)(o:Obj):(w.dn b o).heap.size=w.heap.size:=by simp [World.dn]
theorem MM{b:Nat}{o:Obj}(hX:(ctx z w E pb).X b):Ext (ctx z w E pb) (ctx z (w.dn b o) E pb):=
 ⟨by simp [ctx,zu],λk hk hn=>⟨vL o (λe=>hn (e▸hX)),hn⟩,λi p h=>⟨p,h,.inl rfl⟩,rfl⟩
theorem uq{w:World}{b off:Nat}{arr:Array Value}{t:TypeId}{fz:Nat×Nat}(h:w.heap[b]? =δ (.cells arr t fz)):w.cell? ⟨b,off,μ⟩=arr[off]? :=by simp [apP,h]
theorem bp.vD{c:RC}{b:Nat}{arr:Array Value}{t:TypeId}{fz:Nat×Nat}(h:c.w.heap[b]? =δ (.cells arr t fz)){cs:List AV}{off:Nat}{vs:List Value}
  (hr:aN c cs vs) (ho:∀x∈vs,cR x=η) (hv:∀i,i<vs.length->arr[off+i]? =vs[i]?):bp c b off cs:=by
 refine aqy λi a hi=>?_
 obtain⟨v,h1,h2⟩:=hr.nth hi;have hl:i<vs.length:=(bG.1 h1).1;exact⟨v,by rw[uq h,hv i hl,h1],ho v (ct h1),h2⟩
theorem bp.J1{c:RC}{b:Nat}:∀{cs:List AV}{off:Nat},bp c b off cs->∃vs,aN c cs vs/\(∀x∈vs,cR x=η)/\∀j v,vs[j]? =δ v->c.w.cell? ⟨b,off+j,μ⟩=δ v
 |[],off,_=>⟨[],by simp [aN],by simp,by simp⟩
 |x::l,off,h=>by
  simp only[bp]at h;obtain⟨⟨v,h1,h2,h3⟩,h4⟩:=h;obtain⟨vs,k1,k2,k3⟩:=bp.J1 h4;refine⟨v::vs,by simp only[aN];exact⟨v,vs,rfl,h3,k1⟩,by simpa [h2]using k2,λj u hj=>?_⟩;cases j with
  |zero=>simp at hj;subst hj;exact h1
  |succ j=>simp at hj;have:=k3 j u hj;rwa[show off+1+j=off+(j+1) by omega]at this
theorem St.nA(h:St X z s a w E pb)(d:Nat)(hL:X.L.contains d=η){cs:List AV}{vs:List Value}(t:TypeId)(hr:aN (ctx z w E pb) cs vs)(ho:∀x∈vs,cR x=η):
  ∃bJ,St X z (s.nA d cs) (a.put (δ d) (.pointer (δ ⟨w.heap.size,0,μ⟩))) (w.alloc (.cells vs.toArray t)) E bJ:=by
 have g:Below w.heap.size w (w.alloc (.cells vs.toArray t)):=(Below.refl _ _).alloc (bR _) _;have h1:=h.grow g;obtain⟨bJ,Oz⟩:∃bJ:Nat->Option Nat,bJ=λi=>if i=d then δ w.heap.size else pb i:=⟨_,rfl⟩
 have e1:∀i,i≠d->bJ i=pb i:=λi hi=>by rw[Oz];simp [hi]
 have e2:bJ d=δ w.heap.size:=by rw[Oz];simp
 clear Oz
 have hx:Ext (ctx z w E pb) (ctx z (w.alloc (.cells vs.toArray t)) E bJ):=by
  refine⟨g.size,λb hb hn=>⟨g.block b hb,?_⟩,λi p h=>⟨p,h,.inl rfl⟩,rfl⟩;rintro(k|k|⟨i,k⟩)
  ·exact hn (.inl k)
  ·exact hn (.inr (.inl k))
  ·by_cases e:i=d
   ·subst e;rw[e2]at k;injection k with k;simp [ctx]at hb;omega
   ·rw[e1 i e]at k;exact hn (.inr (.inr ⟨i,k⟩))
 have sN:wk (ctx z (w.alloc (.cells vs.toArray t)) E bJ) w.heap.size cs:=by have hb:(w.alloc (.cells vs.toArray t)).heap[w.heap.size]? =δ (.cells vs.toArray t (0,0)):=(ZF w _).1;exact⟨⟨vs.toArray,t,hb,by simp [hr.length]⟩,bp.vD hb (U3 hx _ _ hr) ho (λi hi=>by simp)⟩
 refine⟨bJ,by simp [AS.nA,apU,h.len],by simp [AS.nA,h.oW],λi x hi=>?_,λi cs' hi=>?_,λt' p hp ht=>?_,λi b hb=>?_,λi j b hi hj=>?_,h.heap.mono hx rfl λp hp=>g.block _ (h.heap.lt hp),h.defers,h.out.grow g,h.nm⟩
 ·simp only[AS.nA,apU]at hi ⊢;rw[Ce];rw[gd]at hi;by_cases e:d=i
  ·subst e;rw[aH rfl]at hi;by_cases hd:d<s.sl.length
   ·rw[aH hd]at hi;rw[aH ⟨rfl,by rw[h.len];exact hd⟩];injection hi with hi
    subst hi;exact⟨_,e2,rfl,sN⟩
   ·rw[aF hd]at hi;cases hi
  ·rw[aF e]at hi;rw[aF (λk=>e k.1.symm)];have k:=h.slot i x hi;cases x with
   |lbx cs'=>obtain⟨b,k1,k2,k3⟩:=k;exact⟨b,by rw[e1 i (λe'=>e e'.symm)];exact k1,k2,k3.mono hx (g.block b (h.priv i b k1).2.1)⟩
   |_=>exact TK hx _ _ k
 ·simp only[AS.nA]at hi;rw[gd]at hi;by_cases e:d=i
  ·subst e;exact hL
  ·rw[aF e]at hi;exact h.box i cs' hi
 ·simp only[AS.nA]at hp;by_cases e:t'=d
  ·subst e;simp at hp
  ·have:(t'==d)=ι:=by simpa using e
   rw[this]at hp;simp only[bk]at hp;cases hk:nr d (s.A t')with
   |none=>rw[hk]at hp;simp at hp
   |some q=>
    rw[hk]at hp;simp only at hp;by_cases eq:q.slot=d
    ·simp [eq]at hp
    ·have:(q.slot==d)=ι:=by simpa using eq
     rw[this]at hp;simp at hp;subst hp;obtain⟨hp,hg⟩:=RW hk;obtain⟨b,k1,k2⟩:=h.lM t' q hp (Mu hg ht);refine⟨b,by rw[e1 _ eq];exact k1,?_⟩;simp only[apU];rw[Ce,aF (λk=>e k.1)];exact k2
 ·by_cases e:i=d
  ·subst e;rw[e2]at hb;injection hb with hb;subst hb
   exact⟨h.out.size,by simp,λp hp=>by have:=h.heap.lt hp;simp only[ctx]at this;omega⟩
  ·rw[e1 i e]at hb;exact⟨(h.priv i b hb).1,by have:=(h.priv i b hb).2.1;simp;omega,(h.priv i b hb).2.2⟩
 ·by_cases ei:i=d
  ·by_cases ej:j=d
   ·rw[ei,ej]
   ·subst ei;rw[e2]at hi;rw[e1 j ej]at hj;injection hi with hi;have:=(h.priv j b hj).2.1;omega
  ·by_cases ej:j=d
   ·subst ej;rw[e2]at hj;rw[e1 i ei]at hi;injection hj with hj;have:=(h.priv i b hi).2.1;omega
   ·rw[e1 i ei]at hi;rw[e1 j ej]at hj;exact h.inj i j b hi hj
theorem St.ag6(h:St X z s a w E pb){i b:Nat}(hb:pb i=δ b)(hi:∃cs0,s.sl[i]? =δ (.lbx cs0)){cs:List AV}{arr:Array Value}{t:TypeId}
  (hr:aN (ctx z w E pb) cs arr.toList) (ho:∀x∈arr.toList,cR x=η):St X z ⟨s.sl.set i (.lbx cs),s.A,s.σ⟩ a (w.dn b (.cells arr t (0,0))) E pb:=by
 have hlt:=(h.priv i b hb).2.1;have hX:(ctx z w E pb).X b:=.inr (.inr ⟨i,hb⟩);have hx:Ext (ctx z w E pb) (ctx z (w.dn b (.cells arr t (0,0))) E pb):=MM hX
 have sN:wk (ctx z (w.dn b (.cells arr t (0,0))) E pb) b cs:=by have hh:=sV (w:=w) (.cells arr t (0,0)) hlt;exact⟨⟨arr,t,hh,by have:=hr.length;simpa using this.symm⟩,bp.vD hh (U3 hx _ _ hr) ho (λj hj=>by simp)⟩
 have agO:∀p∈E,(w.dn b (.cells arr t (0,0))).heap[p.b]? =w.heap[p.b]? :=λp hp=>vL _ (λe=>(h.priv i b hb).2.2 p hp e.symm)
 obtain⟨cs0,hi⟩:=hi;have hil:i<s.sl.length:=(bG.1 hi).1;refine⟨by simp [h.len],by simp [h.oW],λj x hj=>?_,λj cs' hj=>?_,h.lM,λj b' hj=>⟨(h.priv j b' hj).1,by rw[zu];exact(h.priv j b' hj).2.1,(h.priv j b' hj).2.2⟩,h.inj,h.heap.mono hx rfl agO,h.defers,?_,h.nm⟩
 ·simp only at hj;rw[gd]at hj;by_cases e:i=j
  ·subst e;rw[aH rfl,aH hil]at hj;injection hj with hj;subst hj
   have k:=h.slot i _ hi;obtain⟨b',k1,k2,_⟩:=k;rw[hb]at k1;injection k1 with k1;subst k1
   exact⟨b,hb,k2,sN⟩
  ·rw[aF e]at hj;have k:=h.slot j x hj;cases x with
   |lbx cs'=>obtain⟨b',k1,k2,k3⟩:=k;exact⟨b',k1,k2,k3.mono hx (vL _ (λe'=>e (h.inj i j b hb (e'▸k1))))⟩
   |_=>exact TK hx _ _ k
 ·simp only at hj;rw[gd]at hj;by_cases e:i=j
  ·subst e;exact h.box i cs0 hi
  ·rw[aF e]at hj;exact h.box j cs' hj
 ·have o:=h.out;exact⟨o.os,o.tape,o.output,by rw[zu];exact o.size,λk hk hp=>by rw[vL _ (by have:=(h.priv i b hb).1;omega)];exact o.stay k hk hp,o.fresh',o.env,o.lt,o.mine⟩
theorem St.we(h:St X z s a w E pb)(o:Obj)(blk:aP)(p:Pl)(hp:p.b=w.heap.size)
  (hk:Ext (ctx z w E pb) (ctx z (w.alloc o) (E++[p]) pb)->oa (ctx z (w.alloc o) (E++[p]) pb) p blk):St X z (s.heap (s.σ++[blk])) a (w.alloc o) (E++[p]) pb:=by
 have g:Below w.heap.size w (w.alloc o):=(Below.refl _ _).alloc (bR _) _
 have hx:Ext (ctx z w E pb) (ctx z (w.alloc o) (E++[p]) pb):=by
  refine⟨g.size,λb hb hn=>⟨g.block b hb,?_⟩,λi q hq=>⟨q,?_,.inl rfl⟩,rfl⟩
  ·rintro(k|⟨q,hq,k⟩|k)
   ·exact hn (.inl k)
   ·rcases fB.1 hq with hq|hq
    ·exact hn (.inr (.inl ⟨q,hq,k⟩))
    ·simp at hq;subst hq;simp [ctx]at hb;omega
   ·exact hn (.inr (.inr k))
  ·simp only[ctx]at hq ⊢;rw[gZ (bG.1 hq).1];exact hq
 have hlen:=h.heap.len;simp only[ctx]at hlen;refine h.ext hx (λi b hb=>⟨hb,g.block b (h.priv i b hb).2.1⟩) (λi b hb=>⟨(h.priv i b hb).1,by have:=(h.priv i b hb).2.1;simp;omega,λq hq=>?_⟩) h.inj ⟨by simp [ctx,hlen],λi j q r hq hr he=>?_,λi q x hq dO=>?_⟩ ?_
 ·rcases fB.1 hq with hq|hq
  ·exact(h.priv i b hb).2.2 q hq
  ·simp at hq;subst hq;have:=(h.priv i b hb).2.1;omega
 ·simp only[ctx]at hq hr
  have key:∀(i:Nat)(q:Pl),(E++[p])[i]? =δ q->(i<E.length/\E[i]? =δ q)\/(i=E.length/\q=p):=λi q hq=>by
   by_cases hi:i<E.length
   ·rw[gZ hi]at hq;exact .inl ⟨hi,hq⟩
   ·rw[kC (by omega)]at hq
    have:i-E.length=0:=by
     rcases Nat.eq_zero_or_pos (i-E.length)with e|e
     ·exact e
     ·rw[kD (by simp;omega)]at hq;cases hq
    rw[this]at hq;simp at hq;exact .inr ⟨by omega,hq.symm⟩
  rcases key i q hq with⟨hi,yR⟩|⟨hi,eq⟩<;>rcases key j r hr with⟨hj,mE⟩|⟨hj,er⟩
  ·exact h.heap.inj i j q r yR mE he
  ·have:=h.heap.lt (p:=q) (ct yR);simp only[ctx]at this;rw[er]at he;omega
  ·have:=h.heap.lt (p:=r) (ct mE);simp only[ctx]at this;rw[eq]at he;omega
  ·omega
 ·simp only[ctx]at hq;by_cases hi:i<E.length
  ·rw[gZ hi]at hq;rw[gZ (by omega)]at dO;exact(h.heap.blk i q x hq dO).mono hx (g.block _ (h.heap.lt (p:=q) (ct hq)))
  ·rw[kC (by omega)]at hq dO
   have:i-E.length=0:=by
    rcases Nat.eq_zero_or_pos (i-E.length)with e|e
    ·exact e
    ·rw[kD (by simp;omega)]at hq;cases hq
   rw[this]at hq;rw[show i-s.σ.length=0 by omega]at dO;simp at hq dO;subst hq;subst dO;exact hk hx
 ·have o':=h.out.grow g;refine⟨o'.os,o'.tape,o'.output,o'.size,o'.stay,λi q hq=>?_,λi q hq=>?_,o'.lt,o'.mine⟩
  ·by_cases hi:i<E.length
   ·rw[gZ hi]at hq;exact o'.fresh' i q hq
   ·rw[kC (by omega)]at hq
    have:q=p:=by have:=ct hq;simpa using this
    subst this;exact .inl (by rw[hp];exact h.out.size)
  ·obtain⟨p',k1,k2⟩:=o'.env i q hq;exact⟨p',by rw[gZ (bG.1 k1).1];exact k1,k2⟩
theorem St.uR(h:St X z s a w E pb){i:Nat}{p:Pl}(hi:E[i]? =δ p)(o:Obj)(blk:aP)
  (hk:Ext (ctx z w E pb) (ctx z (w.dn p.b o) E pb)->oa (ctx z (w.dn p.b o) E pb) p blk):St X z (s.heap (s.σ.set i blk)) a (w.dn p.b o) E pb:=by
 have hm:p∈E:=ct hi;have hX:(ctx z w E pb).X p.b:=.inr (.inl ⟨p,hm,rfl⟩);have hx:Ext (ctx z w E pb) (ctx z (w.dn p.b o) E pb):=MM hX
 refine h.ext hx (λj b hb=>⟨hb,vL _ (λe=>(h.priv j b hb).2.2 p hm e)⟩) (λj b hb=>⟨(h.priv j b hb).1,by rw[zu];exact(h.priv j b hb).2.1,(h.priv j b hb).2.2⟩) h.inj
  ⟨by have:=h.heap.len;simpa [ctx]using this,h.heap.inj,λj q x hq dO=>?_⟩ ?_
 ·by_cases e:i=j
  ·subst e;simp only[ctx]at hq;rw[hi]at hq;injection hq with hq;subst hq
   rw[gd]at dO;rw[aH rfl]at dO;split at dO
   ·injection dO with dO;subst dO;exact hk hx
   ·cases dO
  ·rw[gd,aF e]at dO;exact(h.heap.blk j q x hq dO).mono hx (vL _ (λe'=>e (h.heap.inj i j p q hi hq e')))
 ·have o':=h.out;refine⟨o'.os,o'.tape,o'.output,by rw[zu];exact o'.size,λk hk hp=>?_,o'.fresh',o'.env,o'.lt,o'.mine⟩;rw[vL]
  ·exact o'.stay k hk hp
  ·rintro rfl;rcases o'.fresh p hm with e|⟨q,hq,e⟩
   ·omega
   ·exact hp q hq e
end
end
section
open Go.RowKit
theorem L4(c:RC)(v:Value):an c (xX v) v:=by unfold xX;split<;>simp [an]
theorem TE(c:RC)(v:Value):an c (sE v) v:=by
 unfold sE;split
 ·rename_i cs;cases h:cs.toList.all cR
  ·simp [an]
  ·simp only[bz,an];refine⟨cs,rfl,?_,jC.1 h⟩;have:=aN.map (c:=c) xX id cs.toList (λx _=>L4 c x);simpa using this
 ·exact L4 c _
section
variable {X : Fx} {z : Z} {s : AS} {a : Act} {w w' : World} {E : List Pl} {pb : Nat -> Option Nat}
theorem dB(h:St X z s a w E pb)(x:Operand):an (ctx z w E pb) (ev X s x) (a.eval x):=by
 cases x with
 |tmp t=>
  simp only[ev,Act.eval];cases hL:X.L.contains t
  ·simp only[bk];by_cases ht:t<s.sl.length
   ·have hs:s.sl[t]? =δ s.sl[t]:=by simp [ht]
    have e:s.sl.getD t .undef=s.sl[t]:=by simp [RU,ht]
    rw[e];refine(h.slot t _ hs).rep λcs k=>?_
    have:=h.box t cs (by rw[hs,k]);rw[hL]at this;cases this
   ·have e:s.sl.getD t .undef=.undef:=by simp [RU,Nat.le_of_not_lt ht]
    rw[e];simp [an]
  ·simp [an]
 |const v=>exact TE _ v
 |global g=>simp [ev,an]
 |func f=>simp only[ev,Act.eval,an];exact⟨f,#[],rfl,by rw[h.nm];rfl,by simp [aN]⟩
theorem Co(h:St X z s a w E pb)(xs:List Operand):aN (ctx z w E pb) (xs.map (ev X s)) (xs.map a.eval):=aN.map _ _ xs λx _=>dB h x
end
section
variable {P : Program} {c : RC} (w : World)
theorem UM{t:TypeId}{d:TypeDesc}(h:P.underlying t=δ d):∃i,P.info? t=δ i:=by
 unfold Program.underlying at h;split at h
 ·rename_i u e;exact⟨_,by assumption⟩
 ·rename_i i e;exact⟨_,by assumption⟩
 ·cases h
theorem sW{t:TypeId}{i:TypeInfo}(h:P.info? t=δ i):(typeInfo t).run P w=.ok i w:=by simp [typeInfo,h]
theorem DW{t:TypeId}{i:TypeInfo}(h:P.info? t=δ i):(sizeOf t).run P w=.ok (P.cellsOf t) w:=by simp [sizeOf,sW w h,aql,h]
theorem Lp{t:TypeId}{d:TypeDesc}(h:P.underlying t=δ d):(sizeOf t).run P w=.ok (P.cellsOf t) w:=by obtain⟨i,hi⟩:=UM h;exact DW w hi
theorem SZ(X:Fx){t:TypeId}{d:TypeDesc}(h:X.P.underlying t=δ d):(isAgg t).run X.P w=.ok (zD X t) w:=by unfold isAgg;simp only[Zm,run_underlying h,Yl];unfold zD;rw[h];cases d<;>rfl
theorem Lb{av x:AV}{v:Value}(h:ZS av=δ x)(r:an c av v):x=av/\cR v=η:=by
 cases av<;>simp only[ZS]at h<;>first|(cases h;done)|skip
 all_goals
  injection h with h
  refine⟨h.symm,?_⟩;simp only[an]at r
 case int=>subst r;rfl
 case bool=>subst r;rfl
 case str=>subst r;rfl
 case fm=>obtain⟨_,rfl,_⟩:=r;rfl
 case sl=>obtain⟨_,_,rfl,_⟩:=r;rfl
 case aC=>subst r;rfl
 case ez=>obtain⟨_,rfl⟩:=r;rfl
 case rp=>obtain⟨_,_,rfl,_⟩:=r;rfl
 case np=>subst r;rfl
 case op=>obtain⟨_,_,_,rfl⟩:=r;rfl
 case oe=>obtain⟨_,_,_,_,_,rfl,_⟩:=r;rfl
 case os=>obtain⟨_,_,_,_,_,_,rfl,_⟩:=r;rfl
 case om=>obtain⟨_,_,_,rfl⟩:=r;rfl
 case nm=>subst r;rfl
 case fn=>obtain⟨_,_,rfl,_⟩:=r;rfl
 case vC=>subst r;rfl
theorem adL{v:Value}(h:cR v=η):v.cells=#[v]:=by cases v<;>first|rfl|(simp [cR]at h)
theorem BX(X:Fx){t:TypeId}{av:AV}{cs:List AV}{v:Value}(h:uK X t av=δ cs)(r:an c av v):
  aN c cs v.cells.toList/\(∀x∈v.cells.toList,cR x=η)/\v.cells.size=X.P.cellsOf t/\∃d,X.P.underlying t=δ d:=by
 unfold uK at h;cases hd:X.P.underlying t with
 |none=>rw[hd]at h;cases h
 |some d=>
  rw[hd]at h;simp only at h;cases ha:zD X t
  ·rw[ha]at h;simp only[bk]at h;cases hc:(X.P.cellsOf t==1)
   ·rw[hc]at h;cases h
   ·rw[hc]at h;simp only[bz]at h;obtain⟨x,h1,h2⟩:=bD.1 h;injection h2 with h2
    obtain⟨e,h3⟩:=Lb h1 r;subst h2;subst e;rw[adL h3];exact⟨by simpa using aN.single r,by simpa using h3,by simpa using(beq_iff_eq.1 hc).symm,d,rfl⟩
  ·rw[ha]at h;simp only[bz]at h;cases av<;>simp only[Φ]at h<;>first|(cases h;done)|skip
   rename_i l;split at h
   ·injection h with h
    subst h;simp only[an]at r;obtain⟨vs,rfl,r1,r2⟩:=r;refine⟨r1,r2,?_,d,rfl⟩;have:=r1.length;simp only[Value.cells];rw[<-Tq,<-this];assumption
   ·cases h
theorem nh(b o n:Nat):(⟨b,o,μ⟩:Addr).add n=⟨b,o+n,μ⟩:=by
 unfold Addr.add;split
 ·subst_vars;rfl
 ·rfl
theorem HD(X:Fx)(hw:c.w=w){t:TypeId}{b off o:Nat}{cs:List AV}{av:AV}(r:bp c b off cs)(h:wu X t o cs=δ av):
  ∃v,(loadVar t ⟨b,off+o,μ⟩).run X.P w=.ok v w/\an c av v:=by
 unfold wu at h;cases hd:X.P.underlying t with
 |none=>rw[hd]at h;cases h
 |some d=>
  rw[hd]at h;simp only at h;unfold loadVar;simp only[Zm,SZ w X hd,Yl];cases ha:zD X t
  ·rw[ha]at h;simp only[bk,Δ]at h;obtain⟨x,h1,h2⟩:=bD.1 h;obtain⟨v,k1,k2,k3⟩:=ap4 r h1;obtain⟨e,_⟩:=Lb h2 k3;subst e;refine⟨v,?_,k3⟩;rw[hw]at k1;simp [run_load,k1]
  ·rw[ha]at h;simp only[bz,Z0]at h;split at h
   ·rename_i hle;injection h with h
    subst h;obtain⟨vs,k1,k2,k3⟩:=bp.J1 ((r.drop o).take (X.P.cellsOf t));have hl:vs.length=X.P.cellsOf t:=by rw[<-k1.length];simp;omega
    refine⟨.agg vs.toArray,?_,by simp only[an];exact⟨vs.toArray,rfl,by simpa using k1,by simpa using k2⟩⟩;have hrun:=run_loadCells_list (P:=X.P) w ⟨b,off+o,μ⟩ vs (λj v hj=>by rw[nh];have:=k3 j v hj;rwa[hw]at this);rw[hl]at hrun;simp [Lp w hd,hrun]
   ·cases h
theorem ac7(X:Fx){t:TypeId}{o:Nat}{cs:List AV}{av:AV}{vs:Array Value}(r:aN c cs vs.toList)(k:∀x∈vs.toList,cR x=η)(h:wu X t o cs=δ av):
  ∃v,(part t vs o).run X.P w=.ok v w/\an c av v:=by
 unfold wu at h;cases hd:X.P.underlying t with
 |none=>rw[hd]at h;cases h
 |some d=>
  rw[hd]at h;simp only at h;unfold part;simp only[Zm,SZ w X hd,Yl];cases ha:zD X t
  ·rw[ha]at h;simp only[bk,Δ]at h;obtain⟨x,h1,h2⟩:=bD.1 h;obtain⟨v,k1,k3⟩:=r.nth h1;obtain⟨e,_⟩:=Lb h2 k3;subst e;refine⟨v,?_,k3⟩;have:vs[o]? =δ v:=by rw[<-ZQ];exact k1
   simp [this]
  ·rw[ha]at h;simp only[bz,Z0]at h;split at h
   ·rename_i hle;injection h with h
    subst h;refine⟨.agg (vs.extract o (o+X.P.cellsOf t)),by simp [Lp w hd],?_⟩;simp only[an];have e:(vs.extract o (o+X.P.cellsOf t)).toList=(vs.toList.drop o).take (X.P.cellsOf t):=by simp [Array.toList_extract,aqG]
    refine⟨_,rfl,by rw[e];exact(r.drop o).take _,?_⟩;rw[e];exact λx hx=>k x (List.mem_of_mem_drop (yp hx))
   ·cases h
end
section
variable {P : Program} {c : RC} (w : World)
theorem ER(a b:ByteArray):(a==b)=(a.toList==b.toList):=beq_toListBytes a b
theorem afs{t:TypeId}{x y av:AV}{v u:Value}(h:Zn x y=δ av)(r:an c x v)(q:an c y u):∃k,(binOp .add t v u).run P w=.ok k w/\an c av k:=by
 unfold Zn at h;split at h
 ·simp only[an]at r q;subst r;subst q;split at h
  ·injection h with h;subst h;subst_vars
   exact⟨_,by simp [binOp,aqi];rfl,by simp [an]⟩
  ·cases h
 ·simp only[an]at r q;subst r;subst q;split at h
  ·rename_i a b hs;injection h with h;subst h
   refine⟨.string (a++b),?_,by simp [an]⟩;have:¬((a.size+b.size:Nat):Int)>Θ.max:=by rw[IntKind.max_i64];omega
   simp only[binOp,aqj,aF this];rfl
  ·cases h
 ·cases h
theorem Cf{f:IntKind->Int->Int->Option AV}{op:BinOp}{t:TypeId}{x y av:AV}{v u:Value}
  (hf:∀k a b av,f k a b=δ av->∃n,(binOp op t (.int k a) (.int k b)).run P w=.ok n w/\an c av n)
  (h:(match x,y with|.int k a,.int k' b=>if k=k' then f k a b else μ|_,_=>μ)=δ av) (r:an c x v) (q:an c y u):∃k,(binOp op t v u).run P w=.ok k w/\an c av k:=by
 split at h
 ·simp only[an]at r q;subst r;subst q;split at h
  ·subst_vars;exact hf _ _ _ _ h
  ·cases h
 ·cases h
theorem agn{t:TypeId}{x y av:AV}{v u:Value}(h:YR x y=δ av)(r:an c x v)(q:an c y u):∃k,(binOp .sub t v u).run P w=.ok k w/\an c av k:=
 Cf w (f:=λk a b=>δ (.int k (k.wrap (a-b)))) (λk a b av e=>by injection e with e;subst e;exact⟨_,by simp [binOp,aqi];rfl,by simp [an]⟩) h r q
theorem af1{t:TypeId}{x y av:AV}{v u:Value}(h:A.mul x y=δ av)(r:an c x v)(q:an c y u):∃k,(binOp .mul t v u).run P w=.ok k w/\an c av k:=
 Cf w (f:=λk a b=>δ (.int k (k.wrap (a*b)))) (λk a b av e=>by injection e with e;subst e;exact⟨_,by simp [binOp,aqi];rfl,by simp [an]⟩) h r q
theorem afZ{t:TypeId}{x y av:AV}{v u:Value}(h:ZN x y=δ av)(r:an c x v)(q:an c y u):∃k,(binOp .lss t v u).run P w=.ok k w/\an c av k:=by
 unfold ZN at h;split at h
 ·exact Cf w (x:=.int _ _) (y:=.int _ _) (f:=λk a b=>δ (.bool (decide (a<b)))) (λk a b av e=>by injection e with e;subst e;exact⟨_,by simp [binOp,aqO];rfl,by simp [an]⟩) h r q
 ·simp only[an]at r q;subst r;subst q;injection h with h;subst h
  exact⟨.bool _,by simp only[binOp,aqj];rfl,by simp [an]⟩
 ·cases h
theorem afY{t:TypeId}{x y av:AV}{v u:Value}(h:Wr x y=δ av)(r:an c x v)(q:an c y u):∃k,(binOp .leq t v u).run P w=.ok k w/\an c av k:=
 Cf w (f:=λk a b=>δ (.bool (decide (a<=b)))) (λk a b av e=>by injection e with e;subst e;exact⟨_,by simp [binOp,aqO];rfl,by simp [an]⟩) h r q
theorem afS{t:TypeId}{x y av:AV}{v u:Value}(h:Zx x y=δ av)(r:an c x v)(q:an c y u):∃k,(binOp .gtr t v u).run P w=.ok k w/\an c av k:=
 Cf w (f:=λk a b=>δ (.bool (decide (a>b)))) (λk a b av e=>by injection e with e;subst e;exact⟨.bool (decide (a>b)),by simp [binOp,aqO],by simp [an]⟩) h r q
theorem afP{t:TypeId}{x y av:AV}{v u:Value}(h:A.geq x y=δ av)(r:an c x v)(q:an c y u):∃k,(binOp .geq t v u).run P w=.ok k w/\an c av k:=
 Cf w (f:=λk a b=>δ (.bool (decide (a>=b)))) (λk a b av e=>by injection e with e;subst e;exact⟨.bool (decide (a>=b)),by simp [binOp,aqO],by simp [an]⟩) h r q
theorem age{t:TypeId}{x y av:AV}{v u:Value}(h:A.quo x y=δ av)(r:an c x v)(q:an c y u):∃k,(binOp .quo t v u).run P w=.ok k w/\an c av k:=by
 unfold A.quo at h;split at h
 ·simp only[an]at r q;subst r;subst q;split at h
  ·rename_i hk;obtain⟨rfl,hb⟩:=hk;injection h with h;subst h
   exact⟨_,by simp [binOp,Op.intDiv,hb];rfl,by simp [an]⟩
  ·cases h
 ·cases h
theorem agh{t:TypeId}{x y av:AV}{v u:Value}(h:A.rem x y=δ av)(r:an c x v)(q:an c y u):∃k,(binOp .rem t v u).run P w=.ok k w/\an c av k:=by
 unfold A.rem at h;split at h
 ·simp only[an]at r q;subst r;subst q;split at h
  ·rename_i hk;obtain⟨rfl,hb⟩:=hk;injection h with h;subst h
   exact⟨_,by simp [binOp,Op.intDiv,hb];rfl,by simp [an]⟩
  ·cases h
 ·cases h
theorem agk{t:TypeId}{x y av:AV}{v u:Value}(h:A.shl x y=δ av)(r:an c x v)(q:an c y u):∃k,(binOp .shl t v u).run P w=.ok k w/\an c av k:=by
 unfold A.shl at h;split at h
 ·simp only[an]at r q;subst r;subst q;split at h
  ·cases h
  ·rename_i hb;injection h with h;subst h
   exact⟨_,by simp only[binOp,Op.shift,aF hb];rfl,by simp [an]⟩
 ·cases h
theorem agl{t:TypeId}{x y av:AV}{v u:Value}(h:A.shr x y=δ av)(r:an c x v)(q:an c y u):∃k,(binOp .shr t v u).run P w=.ok k w/\an c av k:=by
 unfold A.shr at h;split at h
 ·simp only[an]at r q;subst r;subst q;split at h
  ·cases h
  ·rename_i hb;injection h with h;subst h
   exact⟨_,by simp only[binOp,Op.shift,aF hb];rfl,by simp [an]⟩
 ·cases h
theorem Se:∀{k1 k2:List Nat}{xs ys:List AV}{b:Bool},Ud (k1++k2) xs ys=δ b->∃p q,Ud k1 (xs.take k1.length) (ys.take k1.length)=δ p/\Ud k2 (xs.drop k1.length) (ys.drop k1.length)=δ q/\b=(p&&q)
 |[],k2,xs,ys,b,h=>⟨η,b,by simp [Ud],by simpa using h,by simp⟩
 |k::k1,k2,[],[],b,h=>by simp [Ud]at h
 |k::k1,k2,[],_::_,b,h=>by simp [Ud]at h
 |k::k1,k2,_::_,[],b,h=>by simp [Ud]at h
 |k::k1,k2,x::xs,y::ys,b,h=>by simp only[kF,Ud]at h;obtain⟨p,h1,h2⟩:=bD.1 h;obtain⟨q,h3,h4⟩:=cO.1 h2;obtain⟨p',q',Gm,k2',k3'⟩:=Se h3;exact⟨p&&p',q',by simp [Ud,h1,Gm],by simpa using k2',by rw[<-h4,k3',Bool.and_assoc]⟩
def mm(P:Program)(t:TypeId)(vs:List Value):Value:=match P.underlying t with
 |some (.struct _)=>.agg vs.toArray
 |_=>vs.headD undef
theorem KJ{t:TypeId}{d:Nat}(hk:jD P (d+1) t=η){vs:Array Value}{off:Nat}(h:off+P.cellsOf t<=vs.size):
  (part t vs off).run P w=.ok (mm P t ((vs.toList.drop off).take (P.cellsOf t))) w:=by
 unfold jD at hk
 have scalar:∀de,P.underlying t=δ de->(∀fs,de≠.struct fs)->(∀n e,de≠.array n e)->P.cellsOf t=1->(part t vs off).run P w=.ok (mm P t ((vs.toList.drop off).take (P.cellsOf t))) w:=by
  intro de hd h1 h2 h3
  have ha:(isAgg t).run P w=.ok ι w:=by unfold isAgg;simp only[Zm,run_underlying hd,Yl];cases de<;>first|rfl|exact absurd rfl (h1 _)|exact absurd rfl (h2 _ _)
  have e:mm P t ((vs.toList.drop off).take (P.cellsOf t))=vs[off]'(by omega):=by
   unfold mm;rw[hd]
   have:(vs.toList.drop off).take (P.cellsOf t)=[vs[off]'(by omega)]:=by
    have hlt:off<vs.toList.length:=by rw[Tq];omega
    rw[h3,Ss hlt];simp
   rw[this];cases de<;>first|rfl|exact absurd rfl (h1 _)
  rw[e];unfold part;simp [ha,tF (show off<vs.size by omega)]
 cases hd:P.underlying t with
 |none=>rw[hd]at hk;cases hk
 |some de=>
  rw[hd]at hk;cases de<;>simp only at hk<;>first|(cases hk;done)|skip
  case bool=>exact scalar _ hd (by intro _ e;cases e) (by intro _ _ e;cases e) (by simpa using hk)
  case int=>exact scalar _ hd (by intro _ e;cases e) (by intro _ _ e;cases e) (by simpa using hk)
  case string=>exact scalar _ hd (by intro _ e;cases e) (by intro _ _ e;cases e) (by simpa using hk)
  case struct fs=>
   have ha:(isAgg t).run P w=.ok η w:=by unfold isAgg;simp only[Zm,run_underlying hd,Yl];rfl
   unfold part;simp only[Zm,ha,Yl,if_true,Lp w hd,ZW];congr 1;simp only[mm,hd];congr 1;apply mz.1;simp [Array.toList_extract,aqG]
theorem Tp:∀{ks:List Nat}{xs ys:List AV}{b:Bool},Ud ks xs ys=δ b->xs.length=ks.length/\ys.length=ks.length
 |[],[],[],_,_=>⟨rfl,rfl⟩
 |[],[],_::_,_,h=>by simp [Ud]at h
 |[],_::_,_,_,h=>by simp [Ud]at h
 |_::_,[],_,_,h=>by simp [Ud]at h
 |_::_,_::_,[],_,h=>by simp [Ud]at h
 |k::ks,x::xs,y::ys,b,h=>by simp only[Ud]at h;obtain⟨p,h1,h2⟩:=bD.1 h;obtain⟨q,h3,h4⟩:=cO.1 h2;have:=Tp h3;simp [this]
theorem H7{d:Nat}(ih:∀t,jD P d t=η->(kinds P d t).length=P.cellsOf t):∀(fs:List Field)(off tot:Nat),u9 (jD P d) P.cellsOf fs off=δ tot->off+(fs.flatMap λf=>kinds P d f.type).length=tot
 |[],off,tot,h=>by simpa [u9]using h
 |f::fs,off,tot,h=>by
  simp only[u9]at h;cases hc : (f.name != "_" && f.offset == off && jD P d f.type)
  ·rw[hc]at h;cases h
  ·rw[hc]at h;simp only[bz]at h;simp only[fy]at hc;have:=H7 ih fs _ _ h;have:=ih _ hc.2;simp only[apQ,PU];omega
theorem B6:∀(d:Nat)(t:TypeId),jD P d t=η->(kinds P d t).length=P.cellsOf t
 |0,t,h=>by simp [jD]at h
 |d+1,t,h=>by
  unfold jD at h;unfold kinds;cases hd:P.underlying t with
  |none=>rw[hd]at h;cases h
  |some de=>
   rw[hd]at h;cases de<;>simp only at h<;>first|(cases h;done)|skip
   case bool=>simpa using(beq_iff_eq.1 h).symm
   case int=>simpa using(beq_iff_eq.1 h).symm
   case string=>simpa using(beq_iff_eq.1 h).symm
   case struct fs=>
    simp only[fy,beq_iff_eq]at h;have:=H7 (λt=>B6 d t) fs.toList 0 _ h.2;simpa using this
theorem Uh{d D:Nat}(ih:∀(t:TypeId) (xs ys:List AV) (vs us:List Value) (b:Bool),jD P d t=η->Ud (kinds P d t) xs ys=δ b->aN c xs vs->aN c ys us->vs.length=P.cellsOf t->us.length=P.cellsOf t->
   (Wj D t (mm P t vs) (mm P t us)).run P w=.ok b w):
  ∀(fs:List Field)(off tot:Nat)(xs ys:List AV)(vs us:Array Value)(b:Bool),u9 (jD P d) P.cellsOf fs off=δ tot->tot=vs.size->tot=us.size->Ud (fs.flatMap λf=>kinds P d f.type) (xs.drop off) (ys.drop off)=δ b->aN c xs vs.toList->aN c ys us.toList->
   (Op.eqFields D vs us fs).run P w=.ok b w
 |[],off,tot,xs,ys,vs,us,b,h,h1,h2,h3,h4,h5=>by
  simp only[u9]at h;injection h with h
  have l1:=h4.length;have:xs.drop off=[]:=apD (by rw[l1];simp;omega);rw[this]at h3;have l2:=h5.length;have:ys.drop off=[]:=apD (by rw[l2];simp;omega);rw[this]at h3;simp only[List.flatMap_nil,Ud]at h3;injection h3 with h3
  subst h3;simp [Op.eqFields]
 |f::fs,off,tot,xs,ys,vs,us,b,h,h1,h2,h3,h4,h5=>by
  simp only[u9]at h;cases hc : (f.name != "_" && f.offset == off && jD P d f.type)
  ·rw[hc]at h;cases h
  ·rw[hc]at h;simp only[bz]at h;simp only[fy,bne_iff_ne,beq_iff_eq]at hc;obtain⟨⟨hn,ho⟩,hk⟩:=hc;have hle:=H7 (λt=>B6 d t) fs _ _ h;have rU:=B6 d f.type hk;rw[apQ]at h3;obtain⟨p,q,k1,k2,k3⟩:=Se h3;rw[rU]at k1 k2;rw[nH,nH]at k2
   obtain⟨d',rfl⟩:∃d',d=d'+1:=by
    cases d with
    |zero=>simp [jD]at hk
    |succ d'=>exact⟨d',rfl⟩
   have r1:=KJ w hk (vs:=vs) (off:=off) (by omega);have r2:=KJ w hk (vs:=us) (off:=off) (by omega);have e1:=ih f.type _ _ _ _ p hk k1 ((h4.drop off).take _) ((h5.drop off).take _) (by simp;omega) (by simp;omega);have ihf:=Uh ih fs (off+P.cellsOf f.type) tot xs ys vs us q h h1 h2 k2 h4 h5;simp only[Op.eqFields,Sem.run_ite,aH hn];simp only[Zm,ho,r1,r2,Yl,e1];cases p
   ·simp [k3]
   ·simp only[YV,ZD,if_false,ihf,k3,ap7]
theorem aor:∀(d D:Nat)(hD:d<=D)(t:TypeId)(xs ys:List AV)(vs us:List Value)(b:Bool),jD P d t=η->Ud (kinds P d t) xs ys=δ b->aN c xs vs->aN c ys us->vs.length=P.cellsOf t->us.length=P.cellsOf t->
   (Wj D t (mm P t vs) (mm P t us)).run P w=.ok b w
 |0,_,_,t,xs,ys,vs,us,b,hk,_,_,_,_,_=>by simp [jD]at hk
 |d+1,0,hD,_,_,_,_,_,_,_,_,_,_,_,_=>by omega
 |d+1,D+1,hD,t,xs,ys,vs,us,b,hk,h,r,q,l1,l2=>by
  unfold jD at hk;unfold kinds at h;cases hd:P.underlying t with
  |none=>rw[hd]at hk;cases hk
  |some de=>
   rw[hd]at hk h
   have scalar:∀k,Ud [k] xs ys=δ b->P.cellsOf t=1->∃x y v u,xs=[x]/\ys=[y]/\vs=[v]/\us=[u]/\A.mW k x y=δ b/\an c x v/\an c y u:=by intro k h h1;rw[h1]at l1 l2;have m1:=r.length;have m2:=q.length;obtain⟨x,rfl⟩:=uW.1 (m1.trans l1);obtain⟨y,rfl⟩:=uW.1 (m2.trans l2);obtain⟨v,rfl⟩:=uW.1 l1;obtain⟨u,rfl⟩:=uW.1 l2;simp only[Ud]at h;obtain⟨p,h2,h3⟩:=bD.1 h;simp at h3;subst h3;obtain⟨v',k1,k2⟩:=r.nth (i:=0) (a:=x) rfl;obtain⟨u',k3,k4⟩:=q.nth (i:=0) (a:=y) rfl;simp at k1 k3;subst k1;subst k3;exact⟨x,y,v,u,rfl,rfl,rfl,rfl,h2,k2,k4⟩
   cases de<;>simp only at hk h<;>first|(cases hk;done)|skip
   case bool=>
    obtain⟨x,y,v,u,rfl,rfl,rfl,rfl,e,r1,q1⟩:=scalar _ h (by simpa using hk);simp only[mm,hd,aqm];simp only[A.mW,A.vA]at e;split at e
    ·simp only[an]at r1 q1;injection e with e;subst_vars
     exact run_equalIn_bool' w D t _ _ hd
    ·cases e
   case int kk=>
    obtain⟨x,y,v,u,rfl,rfl,rfl,rfl,e,r1,q1⟩:=scalar _ h (by simpa using hk);simp only[mm,hd,aqm];simp only[A.mW,A.nO]at e;split at e
    ·simp only[an]at r1 q1;split at e
     ·injection e with e;subst_vars
      exact run_equalIn_int w D t _ kk _ _ hd
     ·cases e
    ·cases e
   case string=>
    obtain⟨x,y,v,u,rfl,rfl,rfl,rfl,e,r1,q1⟩:=scalar _ h (by simpa using hk);simp only[mm,hd,aqm];simp only[A.mW,A.qc]at e;split at e
    ·simp only[an]at r1 q1;injection e with e;subst_vars
     rw[ER];exact run_equalIn_string w D t _ _ hd
    ·cases e
   case struct fs=>
    simp only[fy,apR,beq_iff_eq]at hk;have hf:P.fieldsOf t=fs:=by simp [Program.fieldsOf,hd]
    simp only[mm,hd];rw[run_equalIn_struct w D t _ _ (by rw[hf];exact hd) hk.1,hf];exact Uh w (λt xs ys vs us b=>aor d D (by omega) t xs ys vs us b) fs.toList 0 _ xs ys vs.toArray us.toArray b hk.2 (by simp [l1]) (by simp [l2]) (by simpa using h) (by simpa using r) (by simpa using q)
theorem En{el:TypeId}(d:Nat)(t:TypeId)(p:Option Addr)(h:P.underlying t=δ (.pointer el)):(Wj (d+1) t (.pointer μ) (.pointer p)).run P w=.ok p.isNone w:=by simp [Wj,run_underlying h]
theorem Eo{el:TypeId}(d:Nat)(t:TypeId)(p:Addr)(h:P.underlying t=δ (.pointer el)):(Wj (d+1) t (.pointer (δ p)) (.pointer μ)).run P w=.ok ι w:=by simp [Wj,run_underlying h]
theorem MW(X:Fx){t:TypeId}{e:A.EK}{x y:AV}{b:Bool}{v u:Value}(ht:k9 X t=δ e)(h:Yt e x y=δ b)(r:an c x v)(q:an c y u):
  (Op.equal t v u).run X.P w=.ok b w/\((∃xs ys,v=.agg xs/\u=.agg ys/\X.P.eqGuardType X.P.depth t=ι)\/(∃k m n,v=.int k m/\u=.int k n/\b=(m==n))\/(∃m n,v=.string m/\u=.string n/\b=(m==n))\/(∃m n,v=.bool m/\u=.bool n/\b=(m==n))\/∃m n,v=.pointer m/\u=.pointer n):=by
 unfold k9 at ht;cases hd:X.P.underlying t with
 |none=>rw[hd]at ht;cases ht
 |some de=>
  rw[hd]at ht;cases de<;>simp only at ht<;>first|(cases ht;done)|skip
  case bool=>
   injection ht with ht;subst ht
   simp only[Yt,A.vA]at h;split at h
   ·simp only[an]at r q;injection h with h;subst_vars
    exact⟨run_equalIn_bool' w _ t _ _ hd,.inr (.inr (.inr (.inl ⟨_,_,rfl,rfl,rfl⟩)))⟩
   ·cases h
  case int kk=>
   injection ht with ht;subst ht
   simp only[Yt,A.nO]at h;split at h
   ·simp only[an]at r q;split at h
    ·injection h with h;subst_vars
     exact⟨run_equalIn_int w _ t _ kk _ _ hd,.inr (.inl ⟨_,_,_,rfl,rfl,rfl⟩)⟩
    ·cases h
   ·cases h
  case string=>
   injection ht with ht;subst ht
   simp only[Yt,A.qc]at h;split at h
   ·simp only[an]at r q;injection h with h;subst_vars
    refine⟨?_,.inr (.inr (.inl ⟨_,_,rfl,rfl,rfl⟩))⟩;rw[ER];exact run_equalIn_string w _ t _ _ hd
   ·cases h
  case pointer el=>
   cases hc:(X.P.cellsOf el !=0)
   ·rw[hc]at ht;cases ht
   ·rw[hc]at ht;injection ht with ht;subst ht
    simp only[Yt,A.PR]at h;split at h<;>first|(cases h;done)|skip
    all_goals
     simp only[an]at r q;injection h with h;subst h
    ·subst r;subst q;exact⟨by first|exact En w 9999 t _ hd|exact Eo w 9999 t _ hd,.inr (.inr (.inr (.inr ⟨_,_,rfl,rfl⟩)))⟩
    ·subst r;obtain⟨b,off,rfl,_⟩:=q;exact⟨by first|exact En w 9999 t _ hd|exact Eo w 9999 t _ hd,.inr (.inr (.inr (.inr ⟨_,_,rfl,rfl⟩)))⟩
    ·subst r;obtain⟨p,_,_,rfl⟩:=q;exact⟨by first|exact En w 9999 t _ hd|exact Eo w 9999 t _ hd,.inr (.inr (.inr (.inr ⟨_,_,rfl,rfl⟩)))⟩
    ·subst q;obtain⟨b,off,rfl,_⟩:=r;exact⟨by first|exact En w 9999 t _ hd|exact Eo w 9999 t _ hd,.inr (.inr (.inr (.inr ⟨_,_,rfl,rfl⟩)))⟩
    ·subst q;obtain⟨p,_,_,rfl⟩:=r;exact⟨by first|exact En w 9999 t _ hd|exact Eo w 9999 t _ hd,.inr (.inr (.inr (.inr ⟨_,_,rfl,rfl⟩)))⟩
  case struct fs=>
   cases hc:(jD X.P 9 t&&!X.P.eqGuardType X.P.depth t)
   ·rw[hc]at ht;cases ht
   ·rw[hc]at ht;injection ht with ht;subst ht
    simp only[fy,apR]at hc;simp only[Yt]at h;split at h
    ·simp only[an]at r q;obtain⟨vs,rfl,r1,_⟩:=r;obtain⟨us,rfl,q1,_⟩:=q;have hl:=Tp h;rw[B6 9 t hc.1]at hl;have e:=aor w 9 Op.maxDepth (by decide) t _ _ _ _ b hc.1 h r1 q1 (by rw[<-r1.length];exact hl.1) (by rw[<-q1.length];exact hl.2);simp only[mm,hd,Array.toArray_toList]at e;exact⟨e,.inl ⟨_,_,rfl,rfl,hc.2⟩⟩
    ·cases h
theorem afG(X:Fx){t:TypeId}{ox oy:Operand}{e:A.EK}{x y av:AV}{v u:Value}(ht:k9 X t=δ e)(h:Zt e x y=δ av)(r:an c x v)(q:an c y u):
  ∃k,(do eqGuard .eql t ox oy v u;binOp .eql t v u:Sem Value).run X.P w=.ok k w/\an c av k:=by
 obtain⟨b,h1,h2⟩:=cO.1 h;subst h2;obtain⟨h3,h4⟩:=MW w X ht h1 r q;refine⟨.bool b,?_,by simp [an]⟩;rcases h4 with⟨xs,ys,rfl,rfl,hg⟩|⟨k,m,n,rfl,rfl,rfl⟩|⟨m,n,rfl,rfl,rfl⟩|⟨m,n,rfl,rfl,hb⟩|⟨m,n,rfl,rfl⟩
 ·simp only[Zm,run_eqGuard_agg w .eql t ox oy xs ys hg,Yl];simp [binOp,h3]
 ·simp [eqGuard_at_int,binOp_eql]
 ·rw[ER];simp [eqGuard_at_string,binOp,aqj]
 ·simp only[eqGuard_at_bool,Zm,ZW,Yl];simp [binOp,h3]
 ·simp only[eqGuard_at_pointer,Zm,ZW,Yl];simp [binOp,h3]
theorem af3(X:Fx){t:TypeId}{ox oy:Operand}{e:A.EK}{x y av:AV}{v u:Value}(ht:k9 X t=δ e)(h:Tn e x y=δ av)(r:an c x v)(q:an c y u):
  ∃k,(do eqGuard .neq t ox oy v u;binOp .neq t v u:Sem Value).run X.P w=.ok k w/\an c av k:=by
 obtain⟨b,h1,h2⟩:=cO.1 h;subst h2;obtain⟨h3,h4⟩:=MW w X ht h1 r q;refine⟨.bool (!b),?_,by simp [an]⟩;rcases h4 with⟨xs,ys,rfl,rfl,hg⟩|⟨k,m,n,rfl,rfl,rfl⟩|⟨m,n,rfl,rfl,rfl⟩|⟨m,n,rfl,rfl,hb⟩|⟨m,n,rfl,rfl⟩
 ·simp only[Zm,run_eqGuard_agg w .neq t ox oy xs ys hg,Yl];simp [binOp,h3]
 ·simp [eqGuard_at_int,binOp_neq];rfl
 ·rw[ER];simp [eqGuard_at_string,binOp,aqj]
 ·simp only[eqGuard_at_bool,Zm,ZW,Yl];simp [binOp,h3]
 ·simp only[eqGuard_at_pointer,Zm,ZW,Yl];simp [binOp,h3]
theorem Wm{P:Program}{el:TypeId}(d:Nat)(t:TypeId)(a:Option Addr)(n m:Nat)(h:P.underlying t=δ (.slice el)):(Wj (d+1) t (.slice a n m) (.slice μ 0 0)).run P w=.ok a.isNone w:=by cases a<;>simp [Wj,run_underlying h]
theorem Va{P:Program}{t e:TypeId}{x y:AV}{b:Bool}{v u:Value}(ht:P.underlying t=δ (.slice e))(h:A.JH x y=δ b)(r:an c x v)(q:an c y u):
  ∃a n m,v=.slice a n m/\u=.slice μ 0 0/\(Op.equal t v u).run P w=.ok b w:=by
 cases y<;>simp only[A.JH]at h<;>first|(cases h;done)|skip
 simp only[an]at q;subst q
 have hs:∃a n m,v=.slice a n m/\b=a.isNone:=by
  split at h<;>first|(cases h;done)|skip
  all_goals injection h with h;subst h;simp only[an]at r
  ·exact⟨μ,0,0,r,rfl⟩
  ·obtain⟨a,cap,e1,_,_,k|⟨b,off,rfl,_⟩⟩:=r
   ·cases k
   ·exact⟨_,_,_,e1,rfl⟩
  ·obtain⟨_,p,_,_,a,cap,rfl,_⟩:=r;exact⟨_,_,_,rfl,rfl⟩
 obtain⟨a,n,m,rfl,rfl⟩:=hs;exact⟨a,n,m,rfl,rfl,Wm w 9999 t a n m ht⟩
theorem afu(X:Fx){op:BinOp}{t:TypeId}{ox oy:Operand}{x y av:AV}{v u:Value}(h:N0 X op t x y=δ av)(r:an c x v)(q:an c y u):
  ∃k,(do eqGuard op t ox oy v u;binOp op t v u:Sem Value).run X.P w=.ok k w/\an c av k:=by
 cases op<;>simp only[N0]at h<;>first|(cases h;done)|skip
 case add=>obtain⟨k,h1,h2⟩:=afs (P:=X.P) (t:=t) w h r q;exact⟨k,by simp [eqGuard_add,h1],h2⟩
 case sub=>obtain⟨k,h1,h2⟩:=agn (P:=X.P) (t:=t) w h r q;exact⟨k,by simp [eqGuard_sub,h1],h2⟩
 case mul=>obtain⟨k,h1,h2⟩:=af1 (P:=X.P) (t:=t) w h r q;exact⟨k,by simp [eqGuard_mul,h1],h2⟩
 case quo=>obtain⟨k,h1,h2⟩:=age (P:=X.P) (t:=t) w h r q;exact⟨k,by simp [eqGuard_quo,h1],h2⟩
 case rem=>obtain⟨k,h1,h2⟩:=agh (P:=X.P) (t:=t) w h r q;exact⟨k,by simp [eqGuard_rem,h1],h2⟩
 case lss=>obtain⟨k,h1,h2⟩:=afZ (P:=X.P) (t:=t) w h r q;exact⟨k,by simp [eqGuard_lss,h1],h2⟩
 case leq=>obtain⟨k,h1,h2⟩:=afY (P:=X.P) (t:=t) w h r q;exact⟨k,by simp [eqGuard_leq,h1],h2⟩
 case gtr=>obtain⟨k,h1,h2⟩:=afS (P:=X.P) (t:=t) w h r q;exact⟨k,by simp [eqGuard_gtr,h1],h2⟩
 case geq=>obtain⟨k,h1,h2⟩:=afP (P:=X.P) (t:=t) w h r q;exact⟨k,by simp [eqGuard_geq,h1],h2⟩
 case shl=>obtain⟨k,h1,h2⟩:=agk (P:=X.P) (t:=t) w h r q;exact⟨k,by simp [eqGuard_shl,h1],h2⟩
 case shr=>obtain⟨k,h1,h2⟩:=agl (P:=X.P) (t:=t) w h r q;exact⟨k,by simp [eqGuard_shr,h1],h2⟩
 case eql=>
  cases he:k9 X t with
  |none=>
   rw[he]at h;simp only at h;split at h
   ·rename_i e ht;obtain⟨b,h1,rfl⟩:=cO.1 h;obtain⟨a,n,m,rfl,rfl,k2⟩:=Va (P:=X.P) w ht h1 r q;exact⟨.bool b,by simp [eqGuard,binOp,k2],by simp [an]⟩
   ·cases h
  |some e=>rw[he]at h;exact afG w X he h r q
 case neq=>
  cases he:k9 X t with
  |none=>
   rw[he]at h;simp only at h;split at h
   ·rename_i e ht;obtain⟨b,h1,rfl⟩:=cO.1 h;obtain⟨a,n,m,rfl,rfl,k2⟩:=Va (P:=X.P) w ht h1 r q;exact⟨.bool (!b),by simp [eqGuard,binOp,k2],by simp [an]⟩
   ·cases h
  |some e=>rw[he]at h;exact af3 w X he h r q
theorem Ex{n j:Nat}{i:AV}{v:Value}(h:A.idx n i=δ j)(r:an c i v):∃k,v=.int k (j:Int)/\j<n:=by
 unfold A.idx at h;split at h
 ·simp only[an]at r;split at h
  ·rename_i k m hm;injection h with h
   subst r;exact⟨_,by rw[<-h];congr 1;omega,by omega⟩
  ·cases h
 ·cases h
def nI(c:RC):Option AV->Option Value->Prop
 |none,μ=>True
 |some x,δ v=>an c x v
 |_,_=>False
theorem B5{y d j:Nat}{x:Option AV}{v:Option Value}{code:BoundsCode}(h:Sq y d x=δ j)(r:nI c x v):
  (x=μ/\v=μ/\j=d)\/∃a u,x=δ a/\v=δ u/\(Tr u y code).run P w=.ok j w/\j<=y:=by
 cases x with
 |none=>cases v with
  |none=>simp only[Sq]at h;injection h with h;exact .inl ⟨rfl,rfl,h.symm⟩
  |some u=>exact r.elim
 |some a=>cases v with
  |none=>exact r.elim
  |some u=>
   simp only[nI]at r;cases a<;>simp only[Sq]at h<;>first|(cases h;done)|skip
   rename_i k m;split at h
   ·rename_i hm;injection h with h
    simp only[an]at r;subst r;refine .inr ⟨_,_,rfl,rfl,?_,by omega⟩;simp [Tr,asIntOf,hm,h]
   ·cases h
theorem DH{AY:Bool}{y len cap l h:Nat}{lo hi:Option AV}{vl vh:Option Value}(hc:len<=cap)(hy:y<=cap)(hh:Sq y len hi=δ h)(hl:Sq h 0 lo=δ l)
  (rh:nI c hi vh) (rl:nI c lo vl):
  (VP AY len cap vl vh μ).run P w=.ok (l,h,cap) w/\l<=h/\(h<=y\/h<=len):=by
 have big:∀{u:Value}{code:BoundsCode},(Tr u y code).run P w=.ok h w->(Tr u cap code).run P w=.ok h w:=by
  intro u code e;unfold Tr at e ⊢;simp only[Zm]at e ⊢;generalize (asIntOf u).run P w=r at *
  cases r with
  |halt x w'=>simp at e
  |ok p w'=>
   obtain⟨k,i⟩:=p;simp only[Yl,Sem.run_ite]at e ⊢;split at e
   ·rename_i hi;rw[aH ⟨hi.1,by omega⟩];exact e
   ·simp only[boundsPanic,Zm]at e;exfalso;revert e;split
    ·simp [runtimePanic,goPanic];split<;>simp [runtimePanic,goPanic]
    ·simp [runtimePanic,goPanic]
 rcases B5 (P:=P) (code:=if AY then .sliceAcap else .sliceAlen) w hh rh with⟨rfl,rfl,rfl⟩|⟨x,u,rfl,rfl,e1,e2⟩
 ·rcases B5 (P:=P) (code:=.sliceB) w hl rl with⟨rfl,rfl,rfl⟩|⟨y,q,rfl,rfl,e3,e4⟩
  ·exact⟨by simp [VP],jK _,.inr (bR _)⟩
  ·exact⟨by simp [VP,e3],e4,.inr (bR _)⟩
 ·rcases B5 (P:=P) (code:=.sliceB) w hl rl with⟨rfl,rfl,rfl⟩|⟨y,q,rfl,rfl,e3,e4⟩
  ·exact⟨by simp [VP,big e1],jK _,.inl e2⟩
  ·exact⟨by simp [VP,big e1,e3],e4,.inl e2⟩
theorem aeD{y y' d d' j:Nat}{x:AV}(h:Sq y d (δ x)=δ j)(hy:y<=y'):Sq y' d' (δ x)=δ j:=by
 cases x<;>simp only[Sq]at h ⊢<;>first|(cases h;done)|skip
 split at h
 ·rename_i hm;rw[aH ⟨hm.1,by omega⟩];exact h
 ·cases h
theorem adn{t e:TypeId}{i:TypeInfo}{x hi mx av:AV}{lo:Option AV}{v vh vm:Value}{vl:Option Value}(ht:P.underlying t=δ (.slice e))(hi':P.info? e=δ i)
  (h:A.slice3 x lo hi mx=δ av) (r:an c x v) (rl:nI c lo vl) (rh:an c hi vh) (rm:an c mx vm):∃k,(U1 t v vl (δ vh) (δ vm)).run P w=.ok k w/\an c av k:=by
 have hsz:(sizeOf e).run P w=.ok i.size w:=by simp [sizeOf,sW w hi']
 unfold A.slice3 at h;obtain⟨n,h0,h⟩:=bD.1 h
 have hv:∃a len cap,v=.slice a len cap/\len<=cap/\n=.int Θ (len:Nat):=by
  cases x<;>simp only[ZO]at h0<;>first|(cases h0;done)|skip
  all_goals injection h0 with h0;subst h0;simp only[an]at r
  case sl=>obtain⟨a,cap,rfl,hc,_⟩:=r;exact⟨a,_,cap,rfl,hc,rfl⟩
  case aC=>subst r;exact⟨μ,0,0,rfl,bR _,rfl⟩
  case ez=>obtain⟨a,rfl⟩:=r;exact⟨a,0,0,rfl,bR _,rfl⟩
  case os=>obtain⟨_,p,_,_,a,cap,rfl,hc,_⟩:=r;exact⟨δ a,_,cap,rfl,hc,rfl⟩
 obtain⟨a,len,cap,rfl,hc,rfl⟩:=hv;simp only[Int.toNat_natCast]at h;obtain⟨m,h1,h⟩:=bD.1 h;obtain⟨h',h2,h⟩:=bD.1 h;obtain⟨l,h3,rfl⟩:=cO.1 h;rcases B5 (P:=P) (code:=.slice3Acap) w (aeD (d':=0) h1 hc) (show nI c (δ mx) (δ vm)from rm)with⟨k,_⟩|⟨_,u,_,q1,e1,_⟩
 ·cases k
 injection q1 with q1;subst q1
 rcases B5 (P:=P) (code:=.slice3B) w h2 (show nI c (δ hi) (δ vh)from rh)with⟨k,_⟩|⟨_,u,_,q2,e2,hle⟩
 ·cases k
 injection q2 with q2;subst q2
 rcases B5 (P:=P) (code:=.slice3C) w h3 rl with⟨rfl,rfl,rfl⟩|⟨y,q,rfl,rfl,e3,e4⟩
 ·refine⟨_,by simp [U1,run_underlying ht,VP,e1,e2,hsz];rfl,?_⟩;by_cases hm:m=0
  ·subst hm;have:h'=0:=by omega
   subst this;simp [an]
  ·rw[aF hm];simp [an]
 ·refine⟨_,by simp [U1,run_underlying ht,VP,e1,e2,e3,hsz];rfl,?_⟩;by_cases hm:m=0
  ·subst hm;have:h'=0:=by omega
   subst this;have:l=0:=by omega
   subst this;simp [an]
  ·rw[aF hm];simp [an]
theorem adp{t:TypeId}{x av:AV}{lo hi:Option AV}{v:Value}{vl vh:Option Value}(ht:P.underlying t=δ .string)
  (h:A.Nv x lo hi=δ av) (r:an c x v) (rl:nI c lo vl) (rh:nI c hi vh):∃k,(U1 t v vl vh μ).run P w=.ok k w/\an c av k:=by
 cases x<;>simp only[A.Nv]at h<;>first|(cases h;done)|skip
 rename_i s;obtain⟨h',h1,h2⟩:=bD.1 h;obtain⟨l,h3,h4⟩:=cO.1 h2;simp only[an]at r;subst r;subst h4;obtain⟨e,_,_⟩:=DH (P:=P) (AY:=ι) w (bR _) (bR _) h1 h3 rh rl;exact⟨.string (s.extract l h'),by simp [U1,run_underlying ht,e],by simp [an]⟩
theorem room_le{σ:Heap}(hh:fO c σ){id g sz off len cap:Nat}{p:Pl}(h1:c.E[id]? =δ p)(hc:len<=cap)(hsz:0<sz)(r:g=p.g->p.sz=sz/\p.base+(off+cap)*p.sz=p.o7):A.room σ id g sz off len<=cap:=by
 unfold A.room;split
 ·rename_i g' sz' es hs;split
  ·rename_i FY;obtain⟨rfl,rfl,hle⟩:=FY;obtain⟨j1,j2,j3,j4,j5,j7,j8,j9⟩:=hh.blk id p _ h1 hs;obtain⟨k1,k3⟩:=r j1.symm;rw[k1]at k3;have:es.length*sz<=(off+cap)*sz:=by omega
   have:=W0 this j4;omega
  ·exact hc
 ·exact hc
theorem ado{t e:TypeId}{i:TypeInfo}{x av:AV}{lo hi:Option AV}{v:Value}{vl vh:Option Value}{σ:Heap}(mY:fO c σ)(ht:P.underlying t=δ (.slice e))(hi':P.info? e=δ i)
  (h:A.gQ i.size x lo hi σ=δ av) (r:an c x v) (rl:nI c lo vl) (rh:nI c hi vh):∃k,(U1 t v vl vh μ).run P w=.ok k w/\an c av k:=by
 have hsz:(sizeOf e).run P w=.ok i.size w:=by simp [sizeOf,sW w hi']
 cases x<;>simp only[A.gQ]at h<;>first|(cases h;done)|skip
 case sl sz es=>
  split at h
  ·rename_i hs;subst hs;obtain⟨h',h1,h2⟩:=bD.1 h;obtain⟨l,h3,h4⟩:=cO.1 h2;subst h4;simp only[an]at r;obtain⟨a,cap,rfl,hcap,hp,r⟩:=r;obtain⟨e1,hl,hh⟩:=DH (P:=P) (AY:=η) w hcap hcap h1 h3 rh rl;refine⟨.slice (if cap=l then a else a.map (·.add (l*i.size))) (h'-l) (cap-l),by simp [U1,run_underlying ht,e1,hsz],?_⟩;simp only[an];have hlen:((es.take h').drop l).length=h'-l:=by simp;omega
   refine⟨_,_,by rw[hlen],by rw[hlen];omega,hp,?_⟩;by_cases hz:h'=l
   ·left;apply apD;simp;omega
   ·right;rcases r with r|⟨b,off,rfl,hb,hX,r⟩
    ·subst r;simp at hh;omega
    ·refine⟨b,off+l*i.size,?_,hb,hX,(r.take h').drop l⟩;rw[aF (by omega)];simp [nh]
  ·cases h
 case aC=>
  obtain⟨h',h1,h2⟩:=bD.1 h;obtain⟨l,h3,h4⟩:=cO.1 h2;subst h4;simp only[an]at r;subst r;obtain⟨e1,hl,hh⟩:=DH (P:=P) (AY:=η) w (bR 0) (bR 0) h1 h3 rh rl;refine⟨.slice μ 0 0,?_,by simp [an]⟩;have:h'=0:=by omega
  have:l=0:=by omega
  subst_vars;simp [U1,run_underlying ht,e1,hsz]
 case ez=>
  obtain⟨h',h1,h2⟩:=bD.1 h;obtain⟨l,h3,h4⟩:=cO.1 h2;subst h4;simp only[an]at r;obtain⟨q,rfl⟩:=r;obtain⟨e1,hl,hh⟩:=DH (P:=P) (AY:=η) w (bR 0) (bR 0) h1 h3 rh rl;refine⟨.slice q 0 0,?_,by simp [an]⟩;have:h'=0:=by omega
  have:l=0:=by omega
  subst_vars;simp [U1,run_underlying ht,e1,hsz]
 case os id g sz off len=>
  split at h
  ·rename_i hs;subst hs;obtain⟨h',h1,h2⟩:=bD.1 h;obtain⟨l,h3,h4⟩:=cO.1 h2;subst h4;simp only[an]at r;obtain⟨hg,p,hp1,hp2,a,cap,rfl,hcap,r⟩:=r
   obtain⟨e1,hl,hh⟩:=DH (P:=P) (AY:=η) w hcap (by
    by_cases hz:i.size=0
    ·have:A.room σ id g i.size off len=len:=by
      unfold A.room;split
      ·rename_i g' sz' es hs;split
       ·rename_i FY;obtain⟨rfl,rfl,hle⟩:=FY;obtain⟨_,_,_,j4,_⟩:=mY.blk id p _ hp1 hs;omega
       ·rfl
      ·rfl
     rw[this];exact hcap
    ·exact room_le mY hp1 hcap (by omega) (λk=>⟨(r k).1,(r k).2.2⟩)) h1 h3 rh rl
   have hle:h'<=cap:=by
    rcases hh with hh|hh
    ·refine ZL hh ?_;by_cases hz:i.size=0
     ·have:A.room σ id g i.size off len=len:=by
       unfold A.room;split
       ·rename_i g' sz' es hs;split
        ·rename_i FY;obtain⟨rfl,rfl,hle⟩:=FY;obtain⟨_,_,_,j4,_⟩:=mY.blk id p _ hp1 hs;omega
        ·rfl
       ·rfl
      rw[this];exact hcap
     ·exact room_le mY hp1 hcap (by omega) (λk=>⟨(r k).1,(r k).2.2⟩)
    ·omega
   refine⟨.slice (if cap=l then δ a else(δ a).map (·.add (l*i.size))) (h'-l) (cap-l),by simp [U1,run_underlying ht,e1,hsz],?_⟩;simp only[an];refine⟨hg,p,hp1,hp2,(if cap=l then a else a.add (l*i.size)),cap-l,by by_cases e:cap=l<;>simp [e],by omega,λhgp=>?_⟩;obtain⟨k1,k2,k3⟩:=r hgp;refine⟨k1,?_,?_⟩
   ·by_cases e:cap=l
    ·left;omega
    ·right;rw[aF e];rcases k2 with k2|k2
     ·omega
     ·rw[k2,nh,k1,fQ];congr 1;omega
   ·rw[show off+l+(cap-l)=off+cap by omega];exact k3
  ·cases h
end
end
section
open Go.RowKit
def eR(arr:Array Value)(off:Nat)(l:List Value):Array Value:=(arr.toList.take off++l++arr.toList.drop (off+l.length)).toArray
theorem VD(arr:Array Value)(off:Nat):eR arr off []=arr:=by simp [eR]
theorem UJ(arr:Array Value)(off:Nat)(x:Value)(l:List Value)(h:off+(l.length+1)<=arr.size):eR arr off (x::l)=eR (arr.setIfInBounds off x) (off+1) l:=by
 unfold eR;congr 1;have hlt:off<arr.toList.length:=by simp;omega
 simp only[Array.toList_setIfInBounds,ZT];rw[List.take_succ_eq_append_getElem (by simpa using hlt),List.getElem_set_self,List.take_set_of_le (bR _),List.drop_set_of_lt (by omega)];simp [kU,Nat.add_comm 1 l.length]
theorem MN(arr:Array Value)(off:Nat)(l:List Value)(h:off+l.length<=arr.size):(eR arr off l).size=arr.size:=by simp [eR];omega
theorem Uo(off:Nat):∀(l:List Value)(k:Nat)(arr:Array Value),off+k+l.length<=arr.size->(l.zipIdx k).foldl (λcs(p:Value×Nat)=>cs.setIfInBounds (off+p.2) p.1) arr=eR arr (off+k) l
 |[],k,arr,h=>by simp [VD]
 |x::l,k,arr,h=>by simp only[List.zipIdx_cons,Wv];rw[Uo off l (k+1) _ (by simp at h ⊢;omega),UJ _ _ _ _ (by simpa using h)];rfl
theorem Ed{w:World}{b:Nat}{o:Obj}(h:w.heap[b]? =δ o):w.dn b o=w:=by
 unfold World.dn;have hb:=(wz.1 h)
 obtain⟨hb,e⟩:=hb
 have:w.heap.setIfInBounds b o=w.heap:=by
  apply Array.ext_getElem?;intro i;rw[YZ];by_cases hi:b=i
  ·subst hi;rw[aH rfl,aH hb,h]
  ·rw[aF hi]
 rw[this]
theorem aer(w:World)(b:Nat)(o o':Obj):(w.dn b o).dn b o'=w.dn b o':=by unfold World.dn;simp
theorem abr{w:World}{b off:Nat}{arr:Array Value}{t:TypeId}{fz:Nat×Nat}(h:w.heap[b]? =δ (.cells arr t fz))(v:Value):
  w.setCell ⟨b,off,μ⟩ v=w.dn b (.cells (arr.setIfInBounds off v) t fz):=by
 unfold World.setCell World.dn;obtain⟨hb,e⟩:=wz.1 h;congr 1;apply Array.ext_getElem?;intro i;rw[Array.getElem?_modify,YZ];by_cases hi:b=i
 ·subst hi;simp [h,hb,e]
 ·simp [hi]
section
variable {P : Program} {c : RC}
theorem aet{v:Value}(h:cR v=η)(w:World)(a:Addr):(store a v).run P w=stored P w a v .plain:=by cases v<;>first|exact run_store P w a _ .plain rfl|(simp [cR]at h)
theorem Bz{b off:Nat}{t:TypeId}:∀(vs:List Value)(i:Nat)(w:World)(arr:Array Value),w.heap[b]? =δ (.cells arr t (0,0))->off+i+vs.length<=arr.size->(∀x∈vs,cR x=η)->
  (storeCells ⟨b,off,μ⟩ vs i).run P w=.ok () (w.dn b (.cells (eR arr (off+i) vs) t (0,0)))
 |[],i,w,arr,h,hl,ho=>by simp [storeCells,VD,Ed h]
 |v::vs,i,w,arr,h,hl,ho=>by
  have hc:w.cell? ⟨b,off+i,μ⟩=δ (arr[off+i]'(by simp at hl;omega)):=by
   rw[uq h,tF]
  have hf:w.frozen? ⟨b,off+i,μ⟩=ι:=by simp [World.frozen?,h]
  have hs:(store ((⟨b,off,μ⟩:Addr).add i) v).run P w=.ok () (w.dn b (.cells (arr.setIfInBounds (off+i) v) t (0,0))):=by rw[nh,aet (ho v (by simp)),stored];simp [hc,hf,abr h]
  have hb:b<w.heap.size:=(wz.1 h).1;have ih:=Bz (off:=off) vs (i+1) (w.dn b (.cells (arr.setIfInBounds (off+i) v) t (0,0))) (arr.setIfInBounds (off+i) v) (sV _ hb) (by simp at hl ⊢;omega) (λx hx=>ho x (by simp [hx]));simp only[storeCells,Zm,hs,Yl,ih,aer];rw[UJ _ _ _ _ (by simpa using hl)];rfl
theorem aN.eR{cs new cs':List AV}{arr:Array Value}{vs:List Value}{off:Nat}(h:Zv off new cs=δ cs')(r:aN c cs arr.toList)(q:aN c new vs):aN c cs' (Proofs.Ytgjglkakhmikjaa.eR arr off vs).toList/\off+vs.length<=arr.size:=by
 unfold Zv at h;split at h
 ·injection h with h
  subst h;have l1:=r.length;have l2:=q.length;simp at l1;refine⟨?_,by omega⟩;simp only[Proofs.Ytgjglkakhmikjaa.eR,apX];rw[<-l2];exact((r.take off).append q).append (r.drop _)
 ·cases h
theorem Cr{arr:Array Value}{vs:List Value}{off:Nat}(h:∀x∈arr.toList,cR x=η)(k:∀x∈vs,cR x=η):∀x∈(eR arr off vs).toList,cR x=η:=by
 intro x hx;simp only[eR,apX,fB]at hx;rcases hx with(hx|hx)|hx
 ·exact h x (yp hx)
 ·exact k x hx
 ·exact h x (List.mem_of_mem_drop hx)
theorem Hw(sz:Nat):∀(n:Nat)(l:List AV),(dW sz n l).length=n
 |0,_=>rfl
 |n+1,l=>by simp [dW,Hw sz n]
theorem LV{sz b:Nat}:∀(n off:Nat)(l:List AV),l.length=n*sz->bp c b off l->bC c sz b off (dW sz n l)
 |0,off,l,_,_=>by simp [dW,bC]
 |n+1,off,l,hl,r=>by simp only[dW,bC];rw[fQ]at hl;refine⟨by simp;omega,r.take sz,LV n (off+sz) _ (by simp;omega) (r.drop sz)⟩
theorem range_zero(z:List Value)(hz:0<z.length):∀n,((List.range (n*z.length)).map λi=>(z.toArray)[i % z.toArray.size]!)=(ZB n z).flatten
 |0=>by simp
 |n+1=>by
  rw[fQ,Nat.one_mul,List.range_add,Zw,range_zero z hz n,List.replicate_succ',aqn];congr 1;simp only[List.map_map,Ul,List.flatten_nil,TB];apply List.ext_getElem
  ·simp
  ·intro i h1 h2;simp at h1;simp only[List.getElem_map,List.getElem_range,Function.comp,VQ];rw[Nat.add_comm,Nat.add_mul_mod_self_right,Nat.mod_eq_of_lt h1];simp [h1]
theorem aN.flatten{zs:List AV}{vs:List Value}(h:aN c zs vs):∀n,aN c (ZB n zs).flatten (ZB n vs).flatten
 |0=>by simp [aN]
 |n+1=>by simp only[List.replicate_succ,Ul];exact h.append (aN.flatten h n)
end
section
variable {X : Fx} {z : Z} {s : AS} {a : Act} {w w' : World} {E : List Pl} {pb : Nat -> Option Nat}
theorem B9(h:St X z s a w E pb){tag:Option (Nat×Bool)}(ht:oU a tag){x:Operand}{b off:Nat}{cs:List AV}(hp:place X s tag x=δ (b,off))(hb:Z2 (s.sl.getD b .undef)=δ cs):
  ∃k,pb b=δ k/\a.eval x=.pointer (δ ⟨k,off,μ⟩)/\wk (ctx z w E pb) k cs/\s.sl[b]? =δ (.lbx cs):=by
 have kN:s.sl[b]? =δ (.lbx cs):=by
  by_cases hlt:b<s.sl.length
  ·have e:s.sl.getD b .undef=s.sl[b]:=by simp [RU,hlt]
   rw[e]at hb;rw[dg hlt];generalize s.sl[b]=y at *
   cases y<;>simp only[Z2]at hb<;>first|(cases hb;done)|(injection hb with hb;subst hb;rfl)
  ·have e:s.sl.getD b .undef=.undef:=by simp [RU,Nat.le_of_not_lt hlt]
   rw[e]at hb;cases hb
 obtain⟨k,k1,k2,k3⟩:=h.slot b _ kN;refine⟨k,k1,?_,k3,kN⟩;cases x with
 |tmp t=>
  simp only[place]at hp;cases hL:X.L.contains t
  ·rw[hL]at hp;simp only[bk]at hp;cases hA:s.A t with
   |none=>rw[hA]at hp;cases hp
   |some p=>
    rw[hA]at hp;simp only at hp;cases YH:X.L.contains p.slot
    ·rw[YH]at hp;cases hp
    rw[YH]at hp;simp only[bz]at hp
    have key:p.slot=b/\p.off=off/\oU a p.tag:=by
     cases yD:p.tag with
     |none=>rw[yD]at hp;simp only[ψ,ir]at hp;exact⟨hp.1,hp.2,trivial⟩
     |some g=>
      rw[yD]at hp;simp only at hp;cases hg:(tag==δ g)
      ·rw[hg]at hp;cases hp
      ·rw[hg]at hp;simp only[bz,ψ,ir]at hp;have:tag=δ g:=by simpa using hg
       exact⟨hp.1,hp.2,this▸ht⟩
    obtain⟨e1,e2,e3⟩:=key;obtain⟨k',j1,j2⟩:=h.lM t p hA e3;rw[e1,k1]at j1;injection j1 with j1;subst j1
    rw[e2]at j2;exact j2
  ·rw[hL]at hp;simp only[bz,ψ,ir]at hp;obtain⟨rfl,rfl⟩:=hp;exact k2
 |_=>simp [place]at hp
theorem To{c:RC}{σ:Heap}(hh:fO c σ){x:AV}{cs:List AV}{v:Value}(h:Γ x σ=δ cs)(r:an c x v):∃b off,v=.pointer (δ ⟨b,off,μ⟩)/\bp c b off cs:=by
 cases x<;>simp only[Γ]at h<;>first|(cases h;done)|skip
 case rp l=>
  injection h with h;subst h
  simp only[an]at r;obtain⟨b,off,e,_,_,r⟩:=r;exact⟨b,off,e,r⟩
 case op id off=>
  simp only[an]at r;obtain⟨p,h1,h2,e⟩:=r;split at h
  ·rename_i cs0 hs;injection h with h;subst h
   obtain⟨_,h3⟩:=hh.blk id p _ h1 hs;exact⟨_,_,e,by simpa using h3.2.drop off⟩
  ·cases h
 case oe id g i off=>
  simp only[an]at r;obtain⟨hg,p,h1,h2,q,e,r⟩:=r;split at h
  ·rename_i g' sz es hs;split at h
   ·rename_i Qd;obtain⟨el,h3,h4⟩:=cO.1 h;subst h4;obtain⟨k1,k2,k3,k4,k5,k6,k7,_⟩:=hh.blk id p _ h1 hs;have hq:=r (by rw[Qd,k1]);subst hq;refine⟨_,_,e,?_⟩;rw[k3];exact(aqe k7 h3).2.drop off
   ·cases h
  ·cases h
theorem H9{c:RC}{ρ:Operand->Value}(eE:∀x,an c (ev X s x) (ρ x)){pl:Nat->Option (Nat×TypeId)}{place:Nat->Option (Nat×Nat)}(hp:∀i off t,pl i=δ (off,t)->place i=δ (off,X.P.cellsOf t)):
  ∀(ps:List (Nat×Operand))(cs cs':List AV)(arr:Array Value),nD X s pl ps cs=δ cs'->aN c cs arr.toList->(∀x∈arr.toList,cR x=η)->
   ∃yu,Instr.fill place arr (ps.map λp=>(p.1,ρ p.2))=δ yu/\aN c cs' yu.toList/\∀x∈yu.toList,cR x=η
 |[],cs,cs',arr,h,r,o=>by
  simp only[nD]at h;injection h with h;subst h
  exact⟨arr,by simp [Instr.fill],r,o⟩
 |(i,x)::ps,cs,cs',arr,h,r,o=>by
  simp only[nD]at h;cases hpl:pl i with
  |none=>rw[hpl]at h;cases h
  |some ot=>
   obtain⟨off,t⟩:=ot;rw[hpl]at h;simp only at h;obtain⟨new,h1,h2⟩:=bD.1 h;obtain⟨c2,h3,h4⟩:=bD.1 h2;obtain⟨r1,r2,r3,_⟩:=BX X h1 (eE x);obtain⟨r4,r5⟩:=r.eR h3 r1;have r5':off+(ρ x).cells.size<=arr.size:=by simpa using r5
   obtain⟨yu,k1,k2,k3⟩:=H9 eE hp ps c2 cs' (eR arr off (ρ x).cells.toList) h4 r4 (Cr o r2);refine⟨yu,?_,k2,k3⟩;simp only[dH,Instr.fill,hp i off t hpl];have hz:((ρ x).cells.size≠X.P.cellsOf t||decide (off+(ρ x).cells.size>arr.size))=ι:=by simp [r3];omega
   have hf:(ρ x).cells.zipIdx.foldl (λcs(p:Value×Nat)=>cs.setIfInBounds (off+p.2) p.1) arr=eR arr off (ρ x).cells.toList:=by have:=Uo off (ρ x).cells.toList 0 arr (by simpa using r5');rw[<-Array.foldl_toList];simpa using this
   simp only[hz];rw[<-k1,<-hf];rfl
end
end
section
open Go.RowKit
section
variable {c : RC} (w : World)
theorem abW{P:Program}(fs:List Field)(body:Field->PUnit->Sem (ForInStep PUnit))(h:∀f∈fs,(body f ⟨⟩).run P w=.ok (.yield ⟨⟩) w):(forIn fs PUnit.unit body:Sem PUnit).run P w=.ok ⟨⟩ w:=by
 induction fs with
 |nil=>simp
 |cons f fs ih=>simp only[List.forIn_cons,Zm,h f (by simp),Yl];exact ih λg hg=>h g (by simp [hg])
theorem aoN {P : Program} {d : Nat} : ∀ (fs : List Field) (off tot : Nat), u9 (jD P d) P.cellsOf fs off = δ tot -> ∀ f ∈ fs, f.name ≠ "_" /\ jD P d f.type = η /\ f.offset + P.cellsOf f.type <= tot
 |[],off,tot,h,f,hf=>by simp at hf
 |g::fs,off,tot,h,f,hf=>by
  simp only[u9]at h;cases hc : (g.name != "_" && g.offset == off && jD P d g.type)
  ·rw[hc]at h;cases h
  ·rw[hc]at h;simp only[bz]at h;simp only[fy,bne_iff_ne,beq_iff_eq]at hc;obtain⟨⟨hn,ho⟩,hk⟩:=hc;have hle:=H7 (λt=>B6 d t) fs _ _ h;rcases fA.1 hf with rfl|hf
   ·exact⟨hn,hk,by omega⟩
   ·exact aoN fs _ _ h f hf
theorem ao8{P:Program}{em:Bool}:∀(d D:Nat)(hD:d<=D)(t:TypeId)(vs:List Value),jD P d t=η->vs.length=P.cellsOf t->(Wa em D t (mm P t vs)).run P w=.ok () w
 |0,_,_,t,vs,h,_=>by simp [jD]at h
 |d+1,0,hD,_,_,_,_=>by omega
 |d+1,D+1,hD,t,vs,h,l=>by
  unfold jD at h;cases hd:P.underlying t with
  |none=>rw[hd]at h;cases h
  |some de=>
   rw[hd]at h;cases de<;>simp only at h<;>first|(cases h;done)|skip
   case bool=>unfold Wa;simp [run_underlying hd,mm,hd]
   case int=>unfold Wa;simp [run_underlying hd,mm,hd]
   case string=>unfold Wa;simp [run_underlying hd,mm,hd]
   case struct fs=>
    simp only[fy,apR,beq_iff_eq]at h;have hm:=aoN fs.toList 0 _ h.2;unfold Wa;simp only[Zm,run_underlying hd,mm,hd,Yl];rw[<-Array.forIn_toList,abW w]
    ·first|done|simp
    ·intro f hf;obtain⟨hn,hk,hle⟩:=hm f hf
     obtain⟨d',rfl⟩:∃d',d=d'+1:=by
      cases d with
      |zero=>simp [jD]at hk
      |succ d'=>exact⟨d',rfl⟩
     have r1:=KJ w hk (vs:=vs.toArray) (off:=f.offset) (by simp;omega);have e1:=ao8 (em:=em) (d'+1) D (by omega) f.type _ hk (show((vs.toArray.toList.drop f.offset).take (P.cellsOf f.type)).length=_ by simp;omega);simp [hn,r1,e1]
theorem Ho(X:Fx){kt:TypeId}{ek:A.EK}(ht:k9 X kt=δ ek){k:AV}{key:Value}(hk:A.fP ek k=η)(r:an c k key)(em:Bool):(Wa em 10000 kt key).run X.P w=.ok () w:=by
 unfold k9 at ht;cases hd:X.P.underlying kt with
 |none=>rw[hd]at ht;cases ht
 |some de=>
  rw[hd]at ht;cases de<;>simp only at ht<;>first|(cases ht;done)|skip
  case bool=>show(Wa em (9999+1) kt key).run X.P w=_;unfold Wa;simp [run_underlying hd]
  case int=>show(Wa em (9999+1) kt key).run X.P w=_;unfold Wa;simp [run_underlying hd]
  case string=>show(Wa em (9999+1) kt key).run X.P w=_;unfold Wa;simp [run_underlying hd]
  case pointer el=>
   cases hc:(X.P.cellsOf el !=0)
   ·rw[hc]at ht;cases ht
   ·rw[hc]at ht;injection ht with ht;subst ht;cases k<;>simp [A.fP]at hk
  case struct fs=>
   cases hc:(jD X.P 9 kt&&!X.P.eqGuardType X.P.depth kt)
   ·rw[hc]at ht;cases ht
   ·rw[hc]at ht;injection ht with ht;subst ht
    simp only[fy,apR]at hc;cases k<;>simp only[A.fP]at hk<;>first|(cases hk;done)|skip
    rename_i xs;simp only[an]at r;obtain⟨vs,rfl,r1,_⟩:=r;have hl:vs.toList.length=X.P.cellsOf kt:=by rw[<-r1.length,beq_iff_eq.1 hk,B6 9 kt hc.1]
    have:=ao8 w (em:=em) 9 10000 (by decide) kt vs.toList hc.1 hl;simpa [mm,hd]using this
def MQ(c:RC)(es:List MapEntry):Option AV->Option (Nat×Value)->Prop
 |none,μ=>True
 |some av,δ (i,v)=>an c av v/\∃e,es[i]? =δ e/\e.val=v
 |_,_=>False
theorem Sf(X:Fx){kt:TypeId}{ek:A.EK}(ht:k9 X kt=δ ek){k:AV}{key:Value}(rk:an c k key):∀(bn:List (AV×AV))(es gS:List MapEntry)(i:Nat)(r:Option AV),ZE ek k bn=δ r->bW c bn es->(∀j,es[j]? =gS[i+j]?)->
  ∃res,(V0 kt key es i).run X.P w=.ok res w/\MQ c gS r res/\A.qz ek k bn i=δ (res.map (·.1))
 |[],es,gS,i,r,h,re,he=>by
  simp only[ZE]at h;injection h with h;subst h
  simp only[bW]at re;subst re;exact⟨μ,by simp [V0],trivial,rfl⟩
 |(k',v')::bn,es,gS,i,r,h,re,he=>by
  simp only[ZE]at h;obtain⟨b,h1,h2⟩:=bD.1 h;obtain⟨e,es',rfl,r1,r2,r3⟩:=re;have hq:=(MW w X ht h1 rk r1).1;cases b
  ·simp only[bk]at h2;obtain⟨res,k1,k2⟩:=Sf X ht rk bn es' gS (i+1) r h2 r3 (λj=>by have:=he (j+1);simp at this;rw[show i+1+j=i+(j+1) by omega];exact this);exact⟨res,by simp [V0,hq,k1],k2.1,by simp [A.qz,h1,k2.2]⟩
  ·simp only[bz]at h2;injection h2 with h2;subst h2
   have h0:=he 0;simp at h0;exact⟨δ (i,e.val),by simp [V0,hq],⟨r2,e,h0.symm,rfl⟩,by simp [A.qz,h1]⟩
theorem aob(X:Fx){kt:TypeId}{ek:A.EK}{d:TypeDesc}(hd:X.P.underlying kt=δ d)(ht:k9 X kt=δ ek)(Da:∀fs,d≠.struct fs)(hnp:∀e,d≠.pointer e){k:AV}{key:Value}(rk:an c k key):
  ∀(bn:List (AV×AV))(es gS:List MapEntry)(i:Nat)(r:Option AV),ZE ek k bn=δ r->bW c bn es->(∀j,es[j]? =gS[i+j]?)->
  ∃res,V5 d key es i=δ res/\MQ c gS r res/\A.qz ek k bn i=δ (res.map (·.1))
 |[],es,gS,i,r,h,re,he=>by
  simp only[ZE]at h;injection h with h;subst h
  simp only[bW]at re;subst re;exact⟨μ,by simp [V5],trivial,rfl⟩
 |(k',v')::bn,es,gS,i,r,h,re,he=>by
  simp only[ZE]at h;obtain⟨b,h1,h2⟩:=bD.1 h;obtain⟨e,es',rfl,r1,r2,r3⟩:=re
  have hsame:XV d key e.key=δ b:=by
   unfold k9 at ht;rw[hd]at ht;cases d<;>simp only at ht<;>first|(cases ht;done)|exact absurd rfl (Da _)|exact absurd rfl (hnp _)|skip
   case bool=>
    injection ht with ht;subst ht
    simp only[Yt,A.vA]at h1;split at h1
    ·simp only[an]at rk r1;injection h1 with h1;rw[rk,r1];simp [XV,h1]
    ·cases h1
   case int=>
    injection ht with ht;subst ht
    simp only[Yt,A.nO]at h1;split at h1
    ·split at h1
     ·simp only[an]at rk r1;injection h1 with h1;rw[rk,r1];simp [XV,h1];assumption
     ·cases h1
    ·cases h1
   case string=>
    injection ht with ht;subst ht
    simp only[Yt,A.qc]at h1;split at h1
    ·simp only[an]at rk r1;injection h1 with h1;rw[rk,r1];simp [XV,h1]
    ·cases h1
  cases b
  ·simp only[bk]at h2;obtain⟨res,k1,k2⟩:=aob X hd ht Da hnp rk bn es' gS (i+1) r h2 r3 (λj=>by have:=he (j+1);simp at this;rw[show i+1+j=i+(j+1) by omega];exact this);exact⟨res,by simp [V5,hsame,k1],k2.1,by simp [A.qz,h1,k2.2]⟩
  ·simp only[bz]at h2;injection h2 with h2;subst h2
   have h0:=he 0;simp at h0;exact⟨δ (i,e.val),by simp [V5,hsame],⟨r2,e,h0.symm,rfl⟩,by simp [A.qz,h1]⟩
theorem MC(X:Fx){kt:TypeId}{ek:A.EK}(ht:k9 X kt=δ ek){k:AV}{key:Value}(hk:A.fP ek k=η)(rk:an c k key){bn:List (AV×AV)}{es:List MapEntry}{r:Option AV}(h:ZE ek k bn=δ r)(re:bW c bn es):
  ∃res,(ap1 kt key es).run X.P w=.ok res w/\MQ c es r res/\A.qz ek k bn 0=δ (res.map (·.1)):=by
 cases hd:X.P.underlying kt with
 |none=>unfold k9 at ht;rw[hd]at ht;cases ht
 |some d=>
  by_cases hs:∃fs,d=.struct fs
  ·obtain⟨fs,rfl⟩:=hs;cases es with
   |nil=>
    cases bn with
    |nil=>simp only[ZE]at h;injection h with h;subst h;exact⟨μ,by simp [ap1,run_underlying hd,V5],trivial,rfl⟩
    |cons p bn=>obtain⟨k',v'⟩:=p;simp [bW]at re
   |cons e es'=>
    obtain⟨res,k1,k2⟩:=Sf w X ht rk bn (e::es') (e::es') 0 r h re (λj=>by simp);refine⟨res,?_,k2⟩;have:V5 (.struct fs) key (e::es') 0=μ:=by simp [V5,XV]
    simp [ap1,run_underlying hd,this,k1]
  ·have hp:∀e,d≠.pointer e:=by
    rintro e rfl;unfold k9 at ht;rw[hd]at ht;simp only at ht;cases hc:(X.P.cellsOf e !=0)
    ·rw[hc]at ht;cases ht
    ·rw[hc]at ht;injection ht with ht;subst ht;cases k<;>simp [A.fP]at hk
   obtain⟨res,k1,k2⟩:=aob X hd ht (λfs e=>hs ⟨fs,e⟩) hp rk bn es es 0 r h re (λj=>by simp);exact⟨res,by simp [ap1,run_underlying hd,k1],k2⟩
theorem bW.length{c:RC}:∀{l:List (AV×AV)}{es:List MapEntry},bW c l es->l.length=es.length
 |[],es,h=>by simp only[bW]at h;subst h;rfl
 |(k,v)::l,es,h=>by obtain⟨e,es',rfl,_,_,h⟩:=h;simp [bW.length h]
theorem ae5{c:RC}{l L:List MapEntry}(hp:l.Perm L):∀{es:List (AV×AV)},bW c es l->∃gS,bW c gS L/\gS.Perm es:=by
 induction hp with
 |nil=>intro es h;exact⟨es,h,aqP.refl _⟩
 |cons x _ ih=>
  intro es h;cases es with
  |nil=>simp [bW]at h
  |cons p es=>
   obtain⟨e,es',h1,h2,h3,h4⟩:=h;injection h1 with h1 h5
   subst h1 h5;obtain⟨gS,k1,k2⟩:=ih h4;exact⟨p::gS,⟨_,_,rfl,h2,h3,k1⟩,k2.cons p⟩
 |swap x y l=>
  intro es h
  match es,h with
  |[],h=>simp [bW]at h
  |[p],h=>obtain⟨e,es',h1,h2,h3,h4⟩:=h;simp only[bW]at h4;subst h4;cases h1
  |p::q::es,h=>
   obtain⟨e,es',h1,h2,h3,h4⟩:=h;obtain⟨e',amW,h5,h6,h7,h8⟩:=h4;subst h5;injection h1 with h1 h9
   injection h9 with h9 h10
   subst h1 h9 h10;exact⟨q::p::es,⟨_,_,rfl,h6,h7,_,_,rfl,h2,h3,h8⟩,aqP.swap _ _ _⟩
 |trans _ _ ih1 ih2=>intro es h;obtain⟨tQ,k1,k2⟩:=ih1 h;obtain⟨C2,k3,k4⟩:=ih2 k1;exact⟨C2,k3,k4.trans k2⟩
theorem aoY{e:A.EK}{k v:AV}:∀{es:List (AV×AV)},ZE e k es=δ (δ v)->∃p∈es,p.2=v/\Yt e k p.1=δ η
 |[],h=>by simp [ZE]at h
 |(k',v')::r,h=>by
  simp only[ZE]at h;obtain⟨b,h1,h2⟩:=bD.1 h;cases b
  ·obtain⟨p,q1,q2,q3⟩:=aoY h2;exact⟨p,jU _ q1,q2,q3⟩
  ·injection h2 with h2;injection h2 with h2
   exact⟨(k',v'),ZA,h2,h1⟩
theorem aoj{e:A.EK}{k:AV}:∀{es:List (AV×AV)},ZE e k es=δ μ->∀p∈es,Yt e k p.1=δ ι
 |[],h=>by simp
 |(k',v')::r,h=>by
  simp only[ZE]at h;obtain⟨b,h1,h2⟩:=bD.1 h;cases b
  ·intro p hp;rcases fA.1 hp with rfl|hp
   ·exact h1
   ·exact aoj h2 p hp
  ·injection h2 with h2;cases h2
theorem RS{e:A.EK}{k:AV}:∀{es:List (AV×AV)},(∀p∈es,Yt e k p.1=δ ι)->ZE e k es=δ μ
 |[],_=>rfl
 |(k',v')::r,h=>by simp only[ZE,h (k',v') ZA,aO,bk];exact RS λp hp=>h p (jU _ hp)
theorem RT{e:A.EK}{k:AV}{p:AV×AV}(h1:Yt e k p.1=δ η):∀{es:List (AV×AV)},p∈es->(es.map (·.1)).Nodup->(∀q∈es,q.1≠p.1->Yt e k q.1=δ ι)->ZE e k es=δ (δ p.2)
 |[],hm,_,_=>by simp at hm
 |(k',v')::r,hm,hn,h=>by
  rcases fA.1 hm with rfl|hm
  ·simp only[ZE,h1,aO,bz]
  ·simp only[dH,zN]at hn;have hne:k'≠p.1:=λq=>hn.1 (by rw[q];exact apV hm)
   simp only[ZE,h (k',v') ZA hne,aO,bk];exact RT h1 hm hn.2 λq hq=>h q (jU _ hq)
theorem aoi(s t:ByteArray):(s==t)=decide (s=t):=by obtain⟨a⟩:=s;obtain⟨b⟩:=t;show(a==b)=_;rw[kE];simp
theorem afE{q:Nat}{x:AV}{n:Int}{b:Bool}(h:A.mW q x (.int Θ n)=δ b):q=0/\∃a,x=.int Θ a/\b=(a==n):=by
 match q,h with
 |0,h=>
  cases x<;>simp only[A.mW,A.nO]at h<;>first|(cases h;done)|skip
  split at h
  ·rename_i hk;injection h with h
   exact⟨rfl,_,by rw[hk],h.symm⟩
  ·cases h
 |1,h=>cases x<;>simp [A.mW,A.vA]at h
 |2,h=>cases x<;>simp [A.mW,A.qc]at h
 |q+3,h=>simp [A.mW]at h
theorem afF{q:Nat}{x:AV}{n:ByteArray}{b:Bool}(h:A.mW q x (.str n)=δ b):q=2/\∃a,x=.str a/\b=(a==n):=by
 match q,h with
 |0,h=>cases x<;>simp [A.mW,A.nO]at h
 |1,h=>cases x<;>simp [A.mW,A.vA]at h
 |2,h=>
  cases x<;>simp only[A.mW,A.qc]at h<;>first|(cases h;done)|skip
  injection h with h
  exact⟨rfl,_,rfl,h.symm⟩
 |q+3,h=>simp [A.mW]at h
theorem adU{e:A.EK}{k:AV}{n m:Int}{s t:ByteArray}(h:Yt e k (.agg [.int Θ n,.str s])=δ η)(hne:(Y8 [.int Θ m,.str t])≠.agg [.int Θ n,.str s]):Yt e k (.agg [.int Θ m,.str t])=δ ι:=by
 unfold Yt at h ⊢;cases e with
 |i=>cases k<;>simp [A.nO]at h
 |b=>cases k<;>simp [A.vA]at h
 |z=>cases k<;>simp [A.qc]at h
 |p=>cases k<;>simp [A.PR]at h
 |s ks=>
  cases k<;>simp only[reduceCtorEq]at h ⊢;rename_i xs
  have hk:∃k1 k2 x y,ks=[k1,k2]/\xs=[x,y]:=by
   match ks,xs,h with
   |[],[],h=>simp [Ud]at h
   |[],_::_,h=>simp [Ud]at h
   |_::_,[],h=>simp [Ud]at h
   |[_],[_],h=>simp [Ud]at h
   |[_],_::_::_,h=>simp [Ud]at h
   |_::_::_,[_],h=>simp [Ud]at h
   |[k1,k2],[x,y],h=>exact⟨_,_,_,_,rfl,rfl⟩
   |[_,_],_::_::_::_,h=>simp [Ud]at h
   |_::_::_::_,[_,_],h=>simp [Ud]at h
   |_::_::_::_,_::_::_::_,h=>simp [Ud]at h
  obtain⟨k1,k2,x,y,rfl,rfl⟩:=hk;simp only[Ud]at h ⊢;obtain⟨b1,h1,h2⟩:=bD.1 h;obtain⟨b2,h3,h4⟩:=cO.1 h2;obtain⟨b3,h5,h6⟩:=bD.1 h3;simp only[ff,ψ,Bool.and_true]at h6;subst h6;simp only[fy]at h4;obtain⟨rfl,rfl⟩:=h4;obtain⟨rfl,a,rfl,e1⟩:=afE h1;obtain⟨rfl,z,rfl,e2⟩:=afF h5;have e1:=eq_of_beq e1.symm;rw[aoi]at e2;have e2:=of_decide_eq_true e2.symm;subst e1 e2;simp only[A.mW,A.nO,A.qc,if_true,aO,ff,ψ,Bool.and_eq_false_iff,Bool.and_true,aoi];by_cases e1:a=m
  ·right;rw[decide_eq_false_iff_not];intro e2;exact hne (by rw[e1,e2])
  ·left;rw[beq_eq_false_iff_ne];exact e1
theorem adW{e:A.EK}{k:AV}{es gS:List (AV×AV)}{r:Option AV}(hd:EG es)(hp:gS.Perm es)(h:ZE e k es=δ r):ZE e k gS=δ r:=by
 cases r with
 |none=>exact RS λp hm=>aoj h p (hp.mem_iff.1 hm)
 |some v=>
  obtain⟨p,h1,rfl,h3⟩:=aoY h;refine RT h3 (hp.mem_iff.2 h1) ((hp.map _).nodup_iff.2 hd.2) λq hq hne=>?_
  obtain⟨n,s,e1⟩:=hd.1 p h1;obtain⟨m,t,e2⟩:=hd.1 q (hp.mem_iff.1 hq);rw[e1]at h3 hne;rw[e2]at hne ⊢;exact adU h3 hne
theorem aed{c:RC}{es:List (AV×AV)}{l L:List MapEntry}(h:bW c es l)(hp:VK es l L):∃gS,bW c gS L/\gS.length=es.length/\∀e k r,ZE e k es=δ r->ZE e k gS=δ r:=by
 rcases hp with rfl|⟨hp,hd⟩
 ·exact⟨es,h,rfl,λ_ _ _ q=>q⟩
 ·obtain⟨gS,k1,k2⟩:=ae5 hp h;exact⟨gS,k1,k2.length_eq,λ_ _ _ q=>adW hd k2 q⟩
theorem Sd{P:Program}(hw:c.w=w){σ:Heap}(hh:fO c σ){m:AV}{v:Value}{bn:List (AV×AV)}(h:R2 m σ=δ bn)(r:an c m v):
  ∃(es:Array MapEntry)(iY:List (AV×AV)),bW c iY es.toList/\iY.length=bn.length/\(∀e k r,ZE e k bn=δ r->ZE e k iY=δ r)/\((v=.map μ/\es=#[])\/∃b bu,v=.map (δ b)/\(getObj b).run P w=.ok (.map es bu) w):=by
 cases m<;>simp only[R2]at h<;>first|(cases h;done)|skip
 case nm=>
  injection h with h;subst h
  simp only[an]at r;exact⟨#[],[],by simp [bW],rfl,λ_ _ _ q=>q,.inl ⟨r,rfl⟩⟩
 case fm gS=>
  injection h with h;subst h
  simp only[an]at r;obtain⟨b,e,_,_,es,bu,k1,_,l,k2,k3⟩:=r;rw[hw]at k1;obtain⟨tQ,j1,j2,j3⟩:=aed k2 k3;exact⟨es,tQ,j1,j2,j3,.inr ⟨b,bu,e,by simp [getObj,TV,k1]⟩⟩
 case om id=>
  simp only[an]at r;obtain⟨p,h1,h2,e⟩:=r;split at h
  ·rename_i gS hs;injection h with h;subst h
   obtain⟨_,es,bu,k1,_,k2⟩:=hh.blk id p _ h1 hs;rw[hw]at k1;exact⟨es,_,k2,rfl,λ_ _ _ q=>q,.inr ⟨p.b,bu,e,by simp [getObj,TV,k1]⟩⟩
  ·cases h
theorem aeZ(X:Fx)(hw:c.w=w){σ:Heap}(hh:fO c σ){t kt et:TypeId}{inf:TypeInfo}{zv:Value}{ek:A.EK}{ok:Bool}{m k av:AV}{mv key:Value}(ht:X.P.underlying t=δ (.map kt et))(hi:X.P.info? et=δ inf)(hz:inf.zero=δ zv)(he:k9 X kt=δ ek)
  (h:(bif ok then A.pR ek m k (sE zv) σ else ZJ ek m k (sE zv) σ)=δ av) (rm:an c m mv) (rk:an c k key):∃v,(Instr.lookup t mv key ok).run X.P w=.ok v w/\an c av v:=by
 have ajn:∃bn r,A.fP ek k=η/\R2 m σ=δ bn/\ZE ek k bn=δ r/\av=(bif ok then .aJ [r.getD (sE zv),.bool r.isSome]else r.getD (sE zv)):=by
  cases ok<;>simp only[bz,bk,ZJ,A.pR]at h
  all_goals
   cases hk:A.fP ek k
   ·rw[hk]at h;cases h
   ·rw[hk]at h;simp only[bz]at h;obtain⟨bn,h1,h2⟩:=bD.1 h;obtain⟨r,h3,h4⟩:=cO.1 h2;exact⟨bn,r,rfl,h1,h3,h4.symm⟩
 obtain⟨bn,r,hk,h1,h2,rfl⟩:=ajn;obtain⟨es,iY,k1,_,kf,k2⟩:=Sd (P:=X.P) w hw hh h1 rm;obtain⟨res,k3,k4,_⟩:=MC w X he hk rk (kf _ _ _ h2) k1;have pe:(zeroValue et).run X.P w=.ok zv w:=by simp [zeroValue,sW w hi,hz]
 have yO:=Ho w X he hk rk es.isEmpty
 have main:∀v b,(res=μ->v=zv/\b=ι)->(∀i u,res=δ (i,u)->v=u/\b=η)->(Instr.lookup t mv key ok).run X.P w=.ok (if ok then .tuple #[v,.bool b]else v) w:=by
  intro v b hn hs;unfold Instr.lookup;simp only[Zm,run_underlying ht,Yl];rcases k2 with⟨rfl,rfl⟩|⟨bb,bu,rfl,hg⟩
  ·simp only[ZW,Yl,yO,Zm,k3];cases res with
   |none=>obtain⟨rfl,rfl⟩:=hn rfl;simp [pe]
   |some p=>obtain⟨i,u⟩:=p;obtain⟨rfl,rfl⟩:=hs i u rfl;simp
  ·simp only[Zm,hg,ZW,Yl,yO,k3];cases res with
   |none=>obtain⟨rfl,rfl⟩:=hn rfl;simp [pe]
   |some p=>obtain⟨i,u⟩:=p;obtain⟨rfl,rfl⟩:=hs i u rfl;simp
 have fin:∀v b,an c (r.getD (sE zv)) v->r.isSome=b->an c (bif ok then .aJ [r.getD (sE zv),.bool r.isSome]else r.getD (sE zv)) (if ok then .tuple #[v,.bool b]else v):=by
  intro v b h1 h2;cases ok
  ·simpa using h1
  ·simp only[bz,if_true,an];refine⟨_,rfl,?_⟩;simp only[aN];exact⟨v,_,rfl,h1,_,_,rfl,by simp [an,h2],rfl⟩
 cases res with
 |none=>
  cases r with
  |none=>exact⟨_,main zv ι (λ_=>⟨rfl,rfl⟩) (λi u e=>by cases e),fin zv ι (TE c zv) rfl⟩
  |some x=>exact k4.elim
 |some p=>
  obtain⟨i,u⟩:=p;cases r with
  |none=>exact k4.elim
  |some x=>exact⟨_,main u η (λe=>by cases e) (λi' u' e=>by injection e with e;injection e with _ e;exact⟨e,rfl⟩),fin u η k4.1 rfl⟩
theorem find_born{f:MapEntry->Nat}:∀{l:List MapEntry}{e:MapEntry},(l.map f).Nodup->e∈l->l.find? (λx=>f x==f e)=δ e
 |[],e,_,h=>by simp at h
 |x::l,e,hn,h=>by
  simp only[dH,zN]at hn;rcases fA.1 h with rfl|h
  ·simp
  ·have hne:f x≠f e:=λk=>hn.1 (i6.2 ⟨e,h,k.symm⟩)
   have:(f x==f e)=ι:=by simpa using hne
   rw[List.find?_cons,this];exact find_born hn.2 h
theorem adT{P:Program}(hw:c.w=w){σ:Heap}(hh:fO c σ){i av:AV}{v:Value}(hk:A.Ng i σ=δ av)(ri:an c i v):∃v',(Instr.entry v).run P w=.ok v' w/\an c av v':=by
 subst hw;unfold A.Ng at hk;split at hk
 ·rename_i id;simp only[an]at ri;obtain⟨p,e1,e2,rfl⟩:=ri;split at hk
  ·rename_i q left hs;injection hk with hk
   subst hk;obtain⟨hg,hit⟩:=hh.blk id p _ e1 hs;rcases hit with⟨hn,_⟩|⟨m,seen,bn,bu,h3,h4,h5,h6,h7,h8,h9⟩
   ·cases hn
   ·rcases h9 with h9|⟨k',v',e,e3,e4,e5,e6,e7⟩
    ·cases h9
    ·injection e3 with e3
     subst e3;have kG:(getObj p.b).run P c.w=.ok (.mapIter (δ m) bu seen bu) c.w:=by simp [getObj,TV,show c.w.heap[p.b]? =_ from h3]
     have zG:(getObj m).run P c.w=.ok (.map bn bu) c.w:=by simp [getObj,TV,show c.w.heap[m]? =_ from h6]
     have hf:bn.find? (λx=>x.born==e.born)=δ e:=by rw[<-Array.find?_toList];exact find_born (f:=(·.born)) h7.2 e5
     refine⟨.tuple #[e.key,e.val],by simp [Instr.entry,kG,zG,e4,hf],?_⟩;simp only[an];exact⟨_,rfl,by simp only[aN];exact⟨_,_,rfl,e6,_,_,rfl,e7,rfl⟩⟩
  ·cases hk
 ·cases hk
end
end
section
open Go.RowKit
section
variable {X : Fx} {z : Z} {s : AS} {a : Act} {w w' : World} {E : List Pl} {pb : Nat -> Option Nat}
def dA(X:Fx)(z:Z)(a:Act)(w:World)(E:List Pl)(pb:Nat->Option Nat)(o:Oper)(av:AV):Prop:=∃v w',(execOp a.eval o).run X.P w=.ok (.value v) w'/\Below w.heap.size w w'/\an (ctx z w' E pb) av v
theorem dA.same{o:Oper}{av:AV}{v:Value}(h:(execOp a.eval o).run X.P w=.ok (.value v) w)(r:an (ctx z w E pb) av v):dA X z a w E pb o av:=⟨v,w,h,Below.refl _ _,r⟩
theorem HC(h:St X z s a w E pb)(t:TypeId){cs:List AV}{arr:Array Value}(r:aN (ctx z w E pb) cs arr.toList)(ho:∀x∈arr.toList,cR x=η):
  Below w.heap.size w (w.alloc (.cells arr t))/\w.heap.size<(w.alloc (.cells arr t)).heap.size/\¬(ctx z (w.alloc (.cells arr t)) E pb).X w.heap.size/\bp (ctx z (w.alloc (.cells arr t)) E pb) w.heap.size 0 cs:=by
 have g:Below w.heap.size w (w.alloc (.cells arr t)):=(Below.refl _ _).alloc (bR _) _;have hx:Ext (ctx z w E pb) (ctx z (w.alloc (.cells arr t)) E pb):=uE g;have hb:(w.alloc (.cells arr t)).heap[w.heap.size]? =δ (.cells arr t (0,0)):=(ZF w _).1;exact⟨g,by simp,h.fresh,bp.vD hb (U3 hx _ _ r) ho (λi hi=>by simp)⟩
theorem uz{P:Program}(t:TypeId)(arr:Array Value):(newRow t arr).run P w=.ok ⟨w.heap.size,0,μ⟩ (w.alloc (.cells arr t)):=by rfl
theorem uD{t:TypeId}{zs:List AV}(h:rz X t=δ zs)(c:RC):∃i v,X.P.info? t=δ i/\i.zero=δ v/\(zeroValue t).run X.P w=.ok v w/\zs=v.cells.toList.map xX/\aN c zs v.cells.toList/\∀x∈v.cells.toList,cR x=η:=by
 unfold rz at h;split at h
 ·rename_i i hi;split at h
  ·rename_i v hv;cases ho:v.cells.toList.all cR
   ·rw[ho]at h;cases h
   ·rw[ho]at h;simp only[bz]at h;injection h with h
    refine⟨i,v,hi,hv,by simp [zeroValue,sW w hi,hv],h.symm,?_,jC.1 ho⟩;rw[<-h];have:=aN.map (c:=c) xX id v.cells.toList (λx _=>L4 c x);simpa using this
  ·cases h
 ·cases h
theorem nI.map(h:St X z s a w E pb)(x:Option Operand):nI (ctx z w E pb) (x.map (ev X s)) (x.map a.eval):=by
 cases x with
 |none=>trivial
 |some x=>exact dB h x
theorem aaS(h:St X z s a w E pb){dst:Option Tmp}{t ty:TypeId}{pos:String}{af:Array Edge}{g:Option (Nat×Bool)}{cs:List AV}(hz:rz X t=δ cs):
  dA X z a w E pb ⟨dst,.alloc t,ty,pos,af,g⟩ (.rp cs):=by
 obtain⟨i,v,h1,h2,h3,h4,h5,h6⟩:=uD (w:=w) hz (ctx z w E pb);obtain⟨k1,k2,k3,k4⟩:=HC h t h5 h6;refine⟨.pointer (δ ⟨w.heap.size,0,μ⟩),_,?_,k1,by simp only[an];exact⟨_,_,rfl,k2,k3,k4⟩⟩;simp [execOp,Instr.alloc,h3,newVar,uz]
theorem acG(h:St X z s a w E pb){dst:Option Tmp}{t ty:TypeId}{x:Operand}{pos:String}{af:Array Edge}{g:Option (Nat×Bool)}{cs:List AV}(hc:uK X t (ev X s x)=δ cs):
  dA X z a w E pb ⟨dst,.box t x,ty,pos,af,g⟩ (.rp cs):=by
 obtain⟨h5,h6,_,_⟩:=BX X hc (dB h x);obtain⟨k1,k2,k3,k4⟩:=HC h t h5 h6;refine⟨.pointer (δ ⟨w.heap.size,0,μ⟩),_,?_,k1,by simp only[an];exact⟨_,_,rfl,k2,k3,k4⟩⟩;simp [execOp,Instr.box,newVar,uz]
theorem Hf{t:TypeId}{f off:Nat}{ft:TypeId}(h:xM X t f=δ (off,ft)):∃fs fl,X.P.underlying t=δ (.struct fs)/\fs[f]? =δ fl/\fl.offset=off/\fl.type=ft:=by
 unfold xM at h;split at h
 ·rename_i fs hd;split at h
  ·rename_i fl hf;simp only[ψ,ir]at h;exact⟨fs,fl,hd,hf,h.1,h.2⟩
  ·cases h
 ·cases h
theorem Si{P:Program}:∀(fs:List Field),fs.all (λf=>(P.info? f.type).isSome)=η->(fs.mapM (λf=>do pure (f.offset,<-sizeOf f.type)):Sem (List (Nat×Nat))).run P w=.ok (fs.map λf=>(f.offset,P.cellsOf f.type)) w
 |[],_=>by simp
 |f::fs,h=>by simp only[ap8,fy]at h;obtain⟨i,hi⟩:=apS.1 h.1;have ih:=Si fs h.2;simp only[List.mapM_cons,Zm,DW w hi,Yl,ZW,ih,dH]
theorem aaT(h:St X z s a w E pb){dst:Option Tmp}{t ty:TypeId}{ps:Array (Nat×Operand)}{pos:String}{af:Array Edge}{g:Option (Nat×Bool)}{zs cs:List AV}{fs:Array Field}(hz:rz X t=δ zs)(hd:X.P.underlying t=δ (.struct fs))
  (hi:fs.toList.all (λf=>(X.P.info? f.type).isSome)=η) (hf:nD X s (xM X t) ps.toList zs=δ cs):dA X z a w E pb ⟨dst,.build t ps,ty,pos,af,g⟩ (.agg cs):=by
 obtain⟨i,v,h1,h2,h3,h4,h5,h6⟩:=uD (w:=w) hz (ctx z w E pb);have hpl:=Si (w:=w) fs.toList hi
 obtain⟨arr,k1,k2,k3⟩:=H9 (c:=ctx z w E pb) (ρ:=a.eval) (λx=>dB h x) (pl:=xM X t) (place:=λj=>((fs.toList.map λf=>(f.offset,X.P.cellsOf f.type)).toArray)[j]?) (λj off t' hj=>by
   obtain⟨fs',fl,e1,e2,e3,e4⟩:=Hf hj;rw[hd]at e1;injection e1 with e1;injection e1 with e1;subst e1
   simp [e2,e3,e4]) ps.toList _ cs v.cells hf h5 h6
 refine dA.same (v:=.agg arr) ?_ (by simp only[an];exact⟨arr,rfl,k2,k3⟩);have hps:(ps.map λ(p:Nat×Operand)=>(p.1,a.eval p.2)).toList=ps.toList.map λp=>(p.1,a.eval p.2):=by simp
 simp only[execOp,Instr.build,Zm,run_underlying hd,Yl,h3,Array.mapM_eq_mapM_toList,Sem.run_map,hpl,hps];rw[k1];simp
theorem anh(h:St X z s a w E pb){dst:Option Tmp}{t e ty:TypeId}{len:Nat}{ps:Array (Nat×Operand)}{pos:String}{af:Array Edge}{g:Option (Nat×Bool)}{zs cs:List AV}{i:TypeInfo}{av:AV}
  (hd:X.P.underlying t=δ (.slice e)) (hi:X.P.info? e=δ i) (hz:rz X e=δ zs) (h0:i.size≠0) (hl:zs.length=i.size) (hm:¬16777216<len*i.size) (AK:(len=0/\av=.ez)\/av=.sl i.size (dW i.size len cs))
  (hf:nD X s (λj=>δ (j*i.size,e)) ps.toList (ZB len zs).flatten=δ cs):dA X z a w E pb ⟨dst,.buildSlice t len ps,ty,pos,af,g⟩ av:=by
 obtain⟨i',v,h1,h2,h3,h4,h5,h6⟩:=uD (w:=w) hz (ctx z w E pb);rw[hi]at h1;injection h1 with h1;subst h1
 have hvl:v.cells.toList.length=i.size:=by rw[<-h5.length];exact hl
 have hce:X.P.cellsOf e=i.size:=by simp [aql,hi]
 have hsz:(sizeOf e).run X.P w=.ok i.size w:=by rw[<-hce];exact DW w hi
 obtain⟨zr,pe,E7⟩:∃zr:Array Value,((len*i.size=0/\zr=#[])\/(¬len*i.size=0/\zr=v.cells))/\((aqk (len*i.size)).map (zr[· % zr.size]!)).toList=(ZB len v.cells.toList).flatten:=by
  by_cases dU:len*i.size=0
  ·have:len=0:=(Nat.mul_eq_zero.1 dU).resolve_right h0;subst this;exact⟨#[],.inl ⟨dU,rfl⟩,by simp⟩
  ·refine⟨v.cells,.inr ⟨dU,rfl⟩,?_⟩;have:=range_zero v.cells.toList (by omega) len;rw[hvl]at this;rw[<-this];simp
 obtain⟨arr,k1,k2,k3⟩:=H9 (c:=ctx z w E pb) (ρ:=a.eval) (λx=>dB h x) (pl:=λj=>δ (j*i.size,e)) (place:=λj=>δ (j*i.size,i.size)) (λj off t' hj=>by simp only[ψ,ir]at hj;obtain⟨rfl,rfl⟩:=hj;rw[hce]) ps.toList _ cs
  ((aqk (len*i.size)).map (zr[· % zr.size]!)) hf (by rw[E7];exact h5.flatten len) (by
   rw[E7];intro x hx;obtain⟨l,rV,o8⟩:=apY.1 hx;rw[X5]at rV
   exact h6 x (rV.2▸o8))
 obtain⟨j1,j2,j3,j4⟩:=HC h e k2 k3
 have gf:cs.length=len*i.size:=by
  have hlen:∀(ps:List (Nat×Operand))(cs cs':List AV),nD X s (λj=>δ (j*i.size,e)) ps cs=δ cs'->cs'.length=cs.length:=by
   intro ps;induction ps with
   |nil=>intro cs cs' e;simp only[nD]at e;injection e with e;rw[e]
   |cons p ps ih=>
    intro cs cs' e;obtain⟨q,x⟩:=p;simp only[nD]at e;obtain⟨new,e1,e2⟩:=bD.1 e;obtain⟨c2,e3,e4⟩:=bD.1 e2;rw[ih _ _ e4];unfold Zv at e3;split at e3
    ·injection e3 with e3;subst e3;simp;omega
    ·cases e3
  rw[hlen _ _ _ hf];simp [List.length_flatten,hl]
 refine⟨.slice (δ ⟨w.heap.size,0,μ⟩) len len,_,?_,j1,?_⟩
 ·have hps:(ps.map λ(p:Nat×Operand)=>(p.1,a.eval p.2)).toList=ps.toList.map λp=>(p.1,a.eval p.2):=by simp
  have hm':¬len*i.size>2 ^ 24:=hm;rcases pe with⟨e1,e2⟩|⟨e1,e2⟩
  ·simp only[execOp,XG,Zm,run_underlying hd,Yl,hsz,aF hm',aH e1,ZW,hps];rw[<-e2,k1];simp [uz]
  ·simp only[execOp,XG,Zm,run_underlying hd,Yl,hsz,aF hm',aF e1,h3,ZW,hps];rw[<-e2,k1];simp [uz]
 ·rcases AK with⟨rfl,rfl⟩|rfl
  ·simp [an]
  simp only[an];refine⟨_,_,by rw[Hw],by rw[Hw];exact bR _,by omega,?_⟩;by_cases JG:len=0
  ·left;subst JG;rfl
  ·right;exact⟨_,_,rfl,j2,j3,LV len 0 cs gf j4⟩
theorem aaq(h:St X z s a w E pb){dst:Option Tmp}{t e ty:TypeId}{len:Nat}{ps:Array (Nat×Operand)}{pos:String}{af:Array Edge}{g:Option (Nat×Bool)}{zs cs:List AV}{i:TypeInfo}
  (hd:X.P.underlying t=δ (.slice e)) (hi:X.P.info? e=δ i) (hz:rz X e=δ zs) (h0:i.size≠0) (hl:zs.length=i.size) (hm:¬16777216<len*i.size)
  (hf:nD X s (λj=>δ (j*i.size,e)) ps.toList (ZB len zs).flatten=δ cs):∃arr:Array Value,(execOp a.eval ⟨dst,.buildSlice t len ps,ty,pos,af,g⟩).run X.P w=.ok (.value (.slice (δ ⟨w.heap.size,0,μ⟩) len len)) (w.alloc (.cells arr e))/\arr.size=len*i.size/\aN (ctx z w E pb) cs arr.toList/\(∀x∈arr.toList,cR x=η)/\cs.length=len*i.size:=by
 obtain⟨i',v,h1,h2,h3,h4,h5,h6⟩:=uD (w:=w) hz (ctx z w E pb);rw[hi]at h1;injection h1 with h1;subst h1
 have hvl:v.cells.toList.length=i.size:=by rw[<-h5.length];exact hl
 have hce:X.P.cellsOf e=i.size:=by simp [aql,hi]
 have hsz:(sizeOf e).run X.P w=.ok i.size w:=by rw[<-hce];exact DW w hi
 obtain⟨zr,pe,E7⟩:∃zr:Array Value,((len*i.size=0/\zr=#[])\/(¬len*i.size=0/\zr=v.cells))/\((aqk (len*i.size)).map (zr[· % zr.size]!)).toList=(ZB len v.cells.toList).flatten:=by
  by_cases dU:len*i.size=0
  ·have:len=0:=(Nat.mul_eq_zero.1 dU).resolve_right h0;subst this;exact⟨#[],.inl ⟨dU,rfl⟩,by simp⟩
  ·refine⟨v.cells,.inr ⟨dU,rfl⟩,?_⟩;have:=range_zero v.cells.toList (by omega) len;rw[hvl]at this;rw[<-this];simp
 obtain⟨arr,k1,k2,k3⟩:=H9 (c:=ctx z w E pb) (ρ:=a.eval) (λx=>dB h x) (pl:=λj=>δ (j*i.size,e)) (place:=λj=>δ (j*i.size,i.size)) (λj off t' hj=>by simp only[ψ,ir]at hj;obtain⟨rfl,rfl⟩:=hj;rw[hce]) ps.toList _ cs
  ((aqk (len*i.size)).map (zr[· % zr.size]!)) hf (by rw[E7];exact h5.flatten len) (by
   rw[E7];intro x hx;obtain⟨l,rV,o8⟩:=apY.1 hx;rw[X5]at rV
   exact h6 x (rV.2▸o8))
 obtain⟨j1,j2,j3,j4⟩:=HC h e k2 k3
 have gf:cs.length=len*i.size:=by
  have hlen:∀(ps:List (Nat×Operand))(cs cs':List AV),nD X s (λj=>δ (j*i.size,e)) ps cs=δ cs'->cs'.length=cs.length:=by
   intro ps;induction ps with
   |nil=>intro cs cs' e;simp only[nD]at e;injection e with e;rw[e]
   |cons p ps ih=>
    intro cs cs' e;obtain⟨q,x⟩:=p;simp only[nD]at e;obtain⟨new,e1,e2⟩:=bD.1 e;obtain⟨c2,e3,e4⟩:=bD.1 e2;rw[ih _ _ e4];unfold Zv at e3;split at e3
    ·injection e3 with e3;subst e3;simp;omega
    ·cases e3
  rw[hlen _ _ _ hf];simp [List.length_flatten,hl]
 refine⟨arr,?_,by have:=k2.length;rw[gf]at this;simpa using this.symm,k2,k3,gf⟩
 ·have hps:(ps.map λ(p:Nat×Operand)=>(p.1,a.eval p.2)).toList=ps.toList.map λp=>(p.1,a.eval p.2):=by simp
  have hm':¬len*i.size>2 ^ 24:=hm;rcases pe with⟨e1,e2⟩|⟨e1,e2⟩
  ·simp only[execOp,XG,Zm,run_underlying hd,Yl,hsz,aF hm',aH e1,ZW,hps];rw[<-e2,k1];simp [uz]
  ·simp only[execOp,XG,Zm,run_underlying hd,Yl,hsz,aF hm',aF e1,h3,ZW,hps];rw[<-e2,k1];simp [uz]
theorem aap(h:St X z s a w E pb){d t n:Nat}{ps:Array (Nat×Operand)}{ty:TypeId}{pos:String}{af:Array Edge}{g:Option (Nat×Bool)}{sz:Nat}{es:List (List AV)}
  (hv:eF X ⟨δ d,.buildSlice t n ps,ty,pos,af,g⟩ s μ=δ (.sl sz es)):∃(arr:Array Value)(et:TypeId),(execOp a.eval ⟨δ d,.buildSlice t n ps,ty,pos,af,g⟩).run X.P w=.ok (.value (.slice (δ ⟨w.heap.size,0,μ⟩) es.length es.length)) (w.alloc (.cells arr et))/\
   arr.size=es.length*sz/\0<sz/\(∀c',c'.w.heap[w.heap.size]? =δ (.cells arr et (0,0))->Ext (ctx z w E pb) c'->bC c' sz w.heap.size 0 es)/\∀x∈arr.toList,cR x=η:=by
 simp only[eF]at hv;split at hv
 ·rename_i e hd;split at hv
  ·rename_i i zs hi hz;cases h0:(i.size==0||zs.length !=i.size)
   ·rw[h0]at hv;simp only[bk]at hv;simp only[mP,beq_eq_false_iff_ne,bne_eq_false_iff_eq]at h0;cases hm:TO 16777216 (n*i.size)
    ·rw[hm]at hv;simp only[bk]at hv;obtain⟨cs,h1,h2⟩:=bD.1 hv;cases hn:(n==0)
     ·rw[hn]at h2;simp only[bk,ψ,U0.injEq]at h2;obtain⟨rfl,rfl⟩:=h2;obtain⟨arr,k1,k2,k3,k4,k5⟩:=aaq (dst:=δ d) (ty:=ty) (pos:=pos) (af:=af) (g:=g) h hd hi hz h0.1 h0.2 (λk=>by rw[show TO 16777216 (n*i.size)=η from by simpa [Nat.blt_eq]using k]at hm;cases hm) h1;rw[Hw];exact⟨arr,e,k1,k2,Nat.pos_of_ne_zero h0.1,λc' hb hx=>LV n 0 cs k5 (bp.vD hb (U3 hx _ _ k3) k4 (λj hj=>by simp)),k4⟩
     ·rw[hn]at h2;cases h2
    ·rw[hm]at hv;cases hv
   ·rw[h0]at hv;cases hv
  ·cases hv
 ·cases hv
theorem af9(h:St X z s a w E pb){tag:Option (Nat×Bool)}(ht:oU a tag){o:Oper}{av:AV}(hv:eF X o s tag=δ av)(hc:∀c,o.op=.call c->∃b,c.callee=.builtin b):dA X z a w E pb o av:=by
 obtain⟨dst,op,ty,pos,af,g⟩:=o;cases op<;>simp only[eF]at hv<;>first|(cases hv;done)|skip
 case move x=>injection hv with hv;subst hv;exact dA.same (by simp [execOp]) (dB h x)
 case assign x=>injection hv with hv;subst hv;exact dA.same (by simp [execOp]) (dB h x)
 case pick x y u=>
  have r:=dB h x;generalize ev X s x=vx at *
  cases vx<;>simp only[ZM]at hv<;>first|(cases hv;done)|skip
  rename_i b;injection hv with hv
  simp only[an]at r;cases b
  ·simp only[bk]at hv;subst hv;exact dA.same (v:=a.eval u) (by simp [execOp,r,asBool]) (dB h u)
  ·simp only[bz]at hv;subst hv;exact dA.same (v:=a.eval y) (by simp [execOp,r,asBool]) (dB h y)
 case alloc t=>
  split at hv
  ·injection hv with hv;subst hv;exact aaS h (by assumption)
  ·cases hv
 case box t x=>
  obtain⟨cs,h1,h2⟩:=bD.1 hv;injection h2 with h2;subst h2
  exact acG h h1
 case build t ps=>
  split at hv
  ·rename_i zs fs hz hd;cases hi:fs.toList.all (λf=>(X.P.info? f.type).isSome)
   ·rw[hi]at hv;cases hv
   ·rw[hi]at hv;simp only[bz]at hv;obtain⟨cs,h1,h2⟩:=bD.1 hv;injection h2 with h2;subst h2
    exact aaT h hz hd hi h1
  ·cases hv
 case buildSlice t len ps=>
  split at hv
  ·rename_i e hd;split at hv
   ·rename_i i zs hi hz;cases h0:(i.size==0||zs.length !=i.size)
    ·rw[h0]at hv;simp only[bk]at hv;simp only[mP,beq_eq_false_iff_ne,bne_eq_false_iff_eq]at h0;cases hm:TO 16777216 (len*i.size)
     ·rw[hm]at hv;simp only[bk]at hv;obtain⟨cs,h1,h2⟩:=bD.1 hv;injection h2 with h2;subst h2
      refine anh h hd hi hz h0.1 h0.2 (λk=>by rw[show TO 16777216 (len*i.size)=η from by simpa [Nat.blt_eq]using k]at hm;cases hm) ?_ h1;by_cases hl:len=0
      ·subst hl;exact .inl ⟨rfl,rfl⟩
      ·exact .inr (by rw[show(len==0)=ι by simpa using hl];rfl)
     ·rw[hm]at hv;cases hv
    ·rw[h0]at hv;cases hv
   ·cases hv
  ·cases hv
 case load t x=>
  split at hv
  ·rename_i b off hp;obtain⟨cs,h1,h2⟩:=bD.1 hv;obtain⟨k,k1,k2,k3,k4⟩:=B9 h ht hp h1;obtain⟨v,j1,j2⟩:=HD (c:=ctx z w E pb) w X rfl k3.2 h2;rw[Z3]at j1;exact dA.same (by simp [execOp,Instr.loadAt,k2,Yu,j1]) j2
  ·obtain⟨cs,h1,h2⟩:=bD.1 hv;obtain⟨b,off,k2,k3⟩:=To h.heap h1 (dB h x);obtain⟨v,j1,j2⟩:=HD (c:=ctx z w E pb) w X rfl k3 h2;rw[Nat.add_zero]at j1;exact dA.same (by simp [execOp,Instr.loadAt,k2,Yu,j1]) j2
 case nilCheck x=>
  have r:=dB h x;generalize ev X s x=vx at *
  cases vx<;>simp only[A.jJ]at hv<;>first|(cases hv;done)|skip
  all_goals
   injection hv with hv;subst hv
   have r':=r;simp only[an]at r
  case rp=>obtain⟨b,off,e,_⟩:=r;exact dA.same (v:=a.eval x) (by simp [execOp,e]) r'
  case op=>obtain⟨p,_,_,e⟩:=r;exact dA.same (v:=a.eval x) (by simp [execOp,e]) r'
  case oe=>obtain⟨_,p,_,_,q,e,_⟩:=r;exact dA.same (v:=a.eval x) (by simp [execOp,e]) r'
  case fn=>obtain⟨f,vs,e,_⟩:=r;exact dA.same (v:=a.eval x) (by simp [execOp,e]) r'
 case binOp op t x y u=>
  obtain⟨k,h1,h2⟩:=afu (c:=ctx z w E pb) w X (ox:=x) (oy:=y) hv (dB h x) (dB h y);exact dA.same (v:=k) (by simp only[execOp];rw[Zm,h1];rfl) h2
 case unOp op t x=>
  have r:=dB h x;generalize ev X s x=vx at *
  cases op<;>simp only at hv<;>first|(cases hv;done)|skip
  case neg=>
   cases vx<;>simp only[A.neg]at hv<;>first|(cases hv;done)|skip
   rename_i k n;injection hv with hv;subst hv
   simp only[an]at r;exact dA.same (v:=.int k (k.wrap (0-n))) (by simp [execOp,r,Op.unary,aqi]) (by simp [an])
  case not=>
   cases vx<;>simp only[ZR]at hv<;>first|(cases hv;done)|skip
   rename_i b;injection hv with hv;subst hv
   simp only[an]at r;exact dA.same (v:=.bool (!b)) (by simp [execOp,r,Op.unary]) (by simp [an])
 case convert src dst' x=>
  have r:=dB h x;generalize ev X s x=vx at *
  split at hv
  ·rename_i k1 k2 hs hd;cases vx<;>simp only[A.conv]at hv<;>first|(cases hv;done)|skip
   rename_i k n;injection hv with hv;subst hv
   simp only[an]at r;exact dA.same (v:=.int k2 (k2.wrap n)) (by simp [execOp,convert,r,run_underlying hs,run_underlying hd,Conv.intToInt]) (by simp [an])
  ·rename_i hs hd;cases vx<;>simp only[A.WG]at hv<;>first|(cases hv;done)|skip
   rename_i str;injection hv with hv;subst hv
   simp only[an]at r;exact dA.same (v:=.string str) (by simp [execOp,convert,r,run_underlying hs,run_underlying hd]) (by simp [an])
  ·cases hv
 case makeInterface t x=>
  split at hv
  ·cases hv
  ·rename_i d hn hd;injection hv with hv;subst hv
   have:X.P.concrete t=η:=by unfold Program.concrete;rw[hd];cases d<;>first|rfl|exact absurd rfl (hn _)
   exact dA.same (v:=.iface t (a.eval x)) (by simp [execOp,run_makeInterface w t _ this]) (by simp [an])
  ·cases hv
 case makeFunc fn first caps=>
  split at hv
  ·rename_i f;cases hf:first.toList.isEmpty
   ·rw[hf]at hv;cases hv
   ·rw[hf]at hv;simp only[bz]at hv;injection hv with hv;subst hv
    have:first=#[]:=by simpa using hf
    subst this;refine dA.same (v:=.func (.func f) #[] (caps.map a.eval)) (by simp [execOp,Instr.makeFunc]) ?_;simp only[an];refine⟨f,_,rfl,by rw[h.nm];rfl,?_⟩
    simpa using Co h caps.toList
  ·cases hv
 case slice t x lo hi mx=>
  split at hv
  ·split at hv
   ·rename_i hd;obtain⟨k,k1,k2⟩:=adp (P:=X.P) (c:=ctx z w E pb) w hd hv (dB h x) (nI.map h lo) (nI.map h hi);refine dA.same (v:=k) ?_ k2;simp [execOp,aqK,run_underlying hd,k1]
   ·rename_i e hd;split at hv
    ·rename_i i hi';obtain⟨k,k1,k2⟩:=ado (P:=X.P) (c:=ctx z w E pb) w h.heap hd hi' hv (dB h x) (nI.map h lo) (nI.map h hi);refine dA.same (v:=k) ?_ k2;simp [execOp,aqK,run_underlying hd,k1]
    ·cases hv
   ·cases hv
  ·split at hv
   ·rename_i e hi1 hd;split at hv
    ·rename_i i hi';obtain⟨k,k1,k2⟩:=adn (P:=X.P) (c:=ctx z w E pb) w hd hi' hv (dB h x) (nI.map h lo) (dB h _) (dB h _);refine dA.same (v:=k) ?_ k2;simp [execOp,aqK,run_underlying hd,k1]
    ·cases hv
   ·cases hv
 case entry i=>
  obtain⟨v',k1,k2⟩:=adT (P:=X.P) (c:=ctx z w E pb) w rfl h.heap hv (dB h i);exact dA.same (v:=v') (by simp [execOp,k1]) k2
 case fieldAddr t x f=>
  split at hv
  ·rename_i off ft hf;split at hv
   ·rename_i i hi;cases h0:(i.size==0)
    ·rw[h0]at hv;simp only[bk]at hv;obtain⟨fs,fl,e1,e2,e3,e4⟩:=Hf hf;have r:=dB h x;generalize ev X s x=vx at *
     have hsz:(sizeOf fl.type).run X.P w=.ok i.size w:=by rw[e4];simp [sizeOf,sW w hi]
     have iz:¬i.size=0:=by simpa using h0
     have run:∀q,a.eval x=.pointer (δ q)->(execOp a.eval ⟨dst,.fieldAddr t x f,ty,pos,af,g⟩).run X.P w=.ok (.value (.pointer (δ (q.add off)))) w:=by intro q e;simp [execOp,Instr.fieldAt,run_underlying e1,e2,e,Yu,fieldPlace,hsz,iz,e3]
     cases vx<;>simp only[SN]at hv<;>first|(cases hv;done)|skip
     case rp cs=>
      injection hv with hv;subst hv
      simp only[an]at r;obtain⟨b,o,e,hb,hx,r⟩:=r;exact dA.same (run _ e) (by simp only[an,nh];exact⟨b,o+off,rfl,hb,hx,r.drop off⟩)
     case op id o=>
      injection hv with hv;subst hv
      simp only[an]at r;obtain⟨p,k1,k2,e⟩:=r;exact dA.same (run _ e) (by simp only[an,nh];exact⟨p,k1,k2,rfl⟩)
     case oe id gg i' o=>
      injection hv with hv;subst hv
      simp only[an]at r;obtain⟨hg,p,k1,k2,q,e,r⟩:=r;exact dA.same (run _ e) (by simp only[an];exact⟨hg,p,k1,k2,_,rfl,λk=>by rw[r k,nh,kU]⟩)
    ·rw[h0]at hv;cases hv
   ·cases hv
  ·cases hv
 case field t x f=>
  split at hv
  ·rename_i off ft hf;obtain⟨fs,fl,e1,e2,e3,e4⟩:=Hf hf;obtain⟨cs,h1,h2⟩:=bD.1 hv;have r:=dB h x;generalize ev X s x=vx at *
   cases vx<;>simp only[Φ]at h1<;>first|(cases h1;done)|skip
   split at h1
   ·injection h1 with h1;subst h1
    simp only[an]at r;obtain⟨vs,e,r1,r2⟩:=r;obtain⟨v,k1,k2⟩:=ac7 (c:=ctx z w E pb) w X r1 r2 h2;exact dA.same (v:=v) (by simp [execOp,Instr.field,run_underlying e1,e2,e,asAgg,e3,e4,k1]) k2
   ·cases h1
  ·cases hv
 case indexAddr t x i=>
  split at hv
  ·rename_i e hd;split at hv
   ·rename_i j hj;have hsz:(sizeOf e).run X.P w=.ok j.size w:=by simp [sizeOf,sW w hj]
    have r:=dB h x;have ri:=dB h i;generalize ev X s x=vx at *
    cases vx<;>simp only[Zp]at hv<;>first|(cases hv;done)|skip
    case sl sz es=>
     obtain⟨n,h1,h2⟩:=bD.1 hv;obtain⟨k,e1,e2⟩:=Ex (c:=ctx z w E pb) h1 ri;split at h2
     ·rename_i hs;subst hs;obtain⟨el,h3,h4⟩:=cO.1 h2;subst h4;simp only[an]at r;obtain⟨q,cap,e3,_,_,r⟩:=r;rcases r with r|⟨b,off,e4,hb,hx,r⟩
      ·subst r;simp at h3
      ·subst e4;refine dA.same (v:=.pointer (δ ⟨b,off+n*j.size,μ⟩)) ?_ (by simp only[an];exact⟨_,_,rfl,hb,hx,(aqe r h3).2⟩);simp [execOp,ap2,run_underlying hd,e1,e3,asIntOf,hsz,e2,nh]
     ·cases h2
    case os id gg sz off len=>
     obtain⟨n,h1,h2⟩:=bD.1 hv;obtain⟨k,e1,e2⟩:=Ex (c:=ctx z w E pb) h1 ri;split at h2
     ·rename_i hs;subst hs;injection h2 with h2;subst h2
      simp only[an]at r;obtain⟨hg,p,k1,k2,q,cap,e3,hcap,r⟩:=r;refine dA.same (v:=.pointer (δ (q.add (n*j.size)))) ?_ ?_
      ·simp [execOp,ap2,run_underlying hd,e1,e3,asIntOf,hsz,e2]
      ·simp only[an];refine⟨hg,p,k1,k2,_,rfl,λk=>?_⟩;obtain⟨j1,j2,j3⟩:=r k;rcases j2 with j2|j2
       ·omega
       ·rw[j2,nh,j1,fQ];congr 1;omega
     ·cases h2
   ·cases hv
  ·rename_i len e hd;split at hv
   ·rename_i j hj;have hsz:(sizeOf e).run X.P w=.ok j.size w:=by simp [sizeOf,sW w hj]
    obtain⟨n,h1,h2⟩:=bD.1 hv;obtain⟨k,e1,e2⟩:=Ex (c:=ctx z w E pb) h1 (dB h i);have r:=dB h x;generalize ev X s x=vx at *
    have run:∀q,a.eval x=.pointer (δ q)->(execOp a.eval ⟨dst,.indexAddr t x i,ty,pos,af,g⟩).run X.P w=.ok (.value (.pointer (δ (q.add (n*j.size))))) w:=by intro q e;simp [execOp,ap2,run_underlying hd,e1,e,asIntOf,hsz,e2,Yu]
    cases vx<;>simp only at h2<;>first|(cases h2;done)|skip
    case rp cs=>
     injection h2 with h2;subst h2
     simp only[an]at r;obtain⟨b,o,e,hb,hx,r⟩:=r;exact dA.same (run _ e) (by simp only[an,nh];exact⟨b,_,rfl,hb,hx,r.drop _⟩)
    case op id o=>
     injection h2 with h2;subst h2
     simp only[an]at r;obtain⟨p,k1,k2,e⟩:=r;exact dA.same (run _ e) (by simp only[an,nh];exact⟨p,k1,k2,rfl⟩)
    case oe id gg i' o=>
     injection h2 with h2;subst h2
     simp only[an]at r;obtain⟨hg,p,k1,k2,q,e,r⟩:=r;exact dA.same (run _ e) (by simp only[an];exact⟨hg,p,k1,k2,_,rfl,λk=>by rw[r k,nh,kU]⟩)
   ·cases hv
  ·cases hv
 case index t x i=>
  split at hv
  ·rename_i hd;have r:=dB h x;generalize ev X s x=vx at *
   cases vx<;>simp only[A.lJ]at hv<;>first|(cases hv;done)|skip
   rename_i str;obtain⟨n,h1,h2⟩:=bD.1 hv;obtain⟨aol,h3,h4⟩:=cO.1 h2;subst h4;obtain⟨k,e1,e2⟩:=Ex (c:=ctx z w E pb) h1 (dB h i);simp only[an]at r;refine dA.same (v:=.int .u8 aol.toNat) ?_ (by simp [an]);have this:=h3;simp [execOp,Instr.index,run_underlying hd,e1,r,asIntOf,this]
  ·cases hv
 case lookup t m i ok=>
  split at hv
  ·rename_i kt e hd;split at hv
   ·rename_i inf ek hi he;split at hv
    ·rename_i zv hz;obtain⟨v,k1,k2⟩:=aeZ (c:=ctx z w E pb) w X rfl h.heap hd hi hz he hv (dB h m) (dB h i);exact dA.same (v:=v) (by simp [execOp,k1]) k2
    ·cases hv
   ·cases hv
  ·cases hv
 case extract x i=>
  have r:=dB h x;generalize ev X s x=vx at *
  cases vx<;>simp only[Zl]at hv<;>first|(cases hv;done)|skip
  simp only[an]at r;obtain⟨vs,e,r⟩:=r;obtain⟨v,k1,k2⟩:=r.nth hv;refine dA.same (v:=v) ?_ k2;have:vs[i]? =δ v:=by rw[<-ZQ];exact k1
  simp [execOp,Instr.extract,e,this]
 case call c=>
  obtain⟨b,hb⟩:=hc c rfl;rw[hb]at hv;simp only at hv;have re:=Co h c.args.toList;have hargs:c.args.map a.eval=(c.args.toList.map a.eval).toArray:=by apply mz.1;simp
  obtain⟨cb,hrun⟩:∃cb,(execOp a.eval ⟨dst,.call c,ty,pos,af,g⟩).run X.P w=(builtin b c.argTypes ty cb (c.args.map a.eval)).run X.P w:=by simp only[execOp,resolve,hb,Zm,ZW,Yl,invoke];exact⟨_,rfl⟩
  rw[hargs]at hrun;split at hv
  ·rename_i t x h1 h2;rw[h2]at re;generalize c.args.toList.map a.eval=vs at *
   simp only[aN]at re;obtain⟨v,_,rfl,r,rfl⟩:=re;have h1':c.argTypes=#[t]:=by apply mz.1;simpa using h1
   rw[h1']at hrun;split at hv
   ·rename_i hd;cases x<;>simp only[A.rD]at hv<;>first|(cases hv;done)|skip
    injection hv with hv;subst hv
    simp only[an]at r;subst r;exact dA.same (by rw[hrun];simp [builtin,UW,run_underlying hd,goInt];rfl) (by simp [an])
   ·rename_i e hd;cases x<;>simp only[ZO]at hv<;>first|(cases hv;done)|skip
    all_goals
     injection hv with hv;subst hv
     simp only[an]at r
    case sl sz es=>
     obtain⟨q,cap,rfl,_⟩:=r;exact dA.same (v:=.int Θ es.length) (by rw[hrun];simp [builtin,UW,run_underlying hd,goInt]) (by simp [an])
    case aC=>
     subst r;exact dA.same (v:=.int Θ 0) (by rw[hrun];simp [builtin,UW,run_underlying hd,goInt]) (by simp [an])
    case ez=>
     obtain⟨q,rfl⟩:=r;exact dA.same (v:=.int Θ 0) (by rw[hrun];simp [builtin,UW,run_underlying hd,goInt]) (by simp [an])
    case os id gg sz off len=>
     obtain⟨_,p,_,_,q,cap,rfl,_⟩:=r;exact dA.same (v:=.int Θ len) (by rw[hrun];simp [builtin,UW,run_underlying hd,goInt]) (by simp [an])
   ·rename_i kt e hd
    have:∃bn,R2 x s.σ=δ bn/\av=.int Θ bn.length:=by
     cases x<;>simp only[A.XJ]at hv<;>first|(cases hv;done)|skip
     case om id=>
      split at hv
      ·rename_i es hs;injection hv with hv
       exact⟨es,by simp [R2,hs],hv.symm⟩
      ·cases hv
     case nm=>injection hv with hv;exact⟨[],rfl,by simpa using hv.symm⟩
     case fm es=>injection hv with hv;exact⟨es,rfl,hv.symm⟩
    obtain⟨bn,k1,rfl⟩:=this;obtain⟨es,iY,k2,kl,_,k3⟩:=Sd (P:=X.P) (c:=ctx z w E pb) w rfl h.heap k1 r;have hl:=k2.length;rw[kl]at hl;refine dA.same (v:=.int Θ bn.length) ?_ (by simp [an]);rcases k3 with⟨rfl,rfl⟩|⟨bb,bu,rfl,hg⟩
    ·rw[hrun];simp at hl;simp [builtin,UW,run_underlying hd,goInt,hl]
    ·rw[hrun];simp at hl;simp [builtin,UW,run_underlying hd,goInt,hg,hl]
   ·cases hv
  ·rename_i t x h1 h2;rw[h2]at re;generalize c.args.toList.map a.eval=vs at *
   simp only[aN]at re;obtain⟨v,_,rfl,r,rfl⟩:=re;have h1':c.argTypes=#[t]:=by apply mz.1;simpa using h1
   rw[h1']at hrun;split at hv
   ·rename_i e hd;cases x<;>simp only[A.zS]at hv<;>first|(cases hv;done)|skip
    all_goals
     injection hv with hv;subst hv
     simp only[an]at r
    case aC=>
     subst r;exact dA.same (v:=.int Θ 0) (by rw[hrun];simp [builtin,apE,run_underlying hd,goInt]) (by simp [an])
    case ez=>
     obtain⟨q,rfl⟩:=r;exact dA.same (v:=.int Θ 0) (by rw[hrun];simp [builtin,apE,run_underlying hd,goInt]) (by simp [an])
   ·cases hv
  ·rename_i x y h2;rw[h2]at re;generalize c.args.toList.map a.eval=vs at *
   simp only[aN]at re;obtain⟨v,_,rfl,r,u,_,rfl,q,rfl⟩:=re;unfold A.max at hv;split at hv
   ·rename_i k m k' n;injection hv with hv;subst hv
    simp only[an]at r q;subst r;subst q;exact dA.same (v:=.int k (if n>m then n else m)) (by rw[hrun];simp [builtin,Builtin.max_,Builtin.max2]) (by simp [an])
   ·cases hv
  ·rename_i x y h2;rw[h2]at re;generalize c.args.toList.map a.eval=vs at *
   simp only[aN]at re;obtain⟨v,_,rfl,r,u,_,rfl,q,rfl⟩:=re;unfold A.min at hv;split at hv
   ·rename_i k m k' n;injection hv with hv;subst hv
    simp only[an]at r q;subst r;subst q;exact dA.same (v:=.int k (if n<m then n else m)) (by rw[hrun];simp [builtin,Builtin.min_,Builtin.min2]) (by simp [an])
   ·cases hv
  ·cases hv
end
end
section
open Go.RowKit
def cz:Nat->Option Nat:=λ_=>μ
def afn(P:Program)(nm:List Nat)(f:FuncId)(args:List AV)(σ:Heap)(r:AV)(σ':Heap):Prop:=∃g,(∀cH w,(callFunc f cH).run P w=.ok (.enter g cH) w)/\∀(z:Z)(vs:Array Value),z.nm=nm->sK z->fO (ctx z z.w z.E cz) σ->aN (ctx z z.w z.E cz) args vs.toList->Calls P g vs z.w λe w'=>∃v E',e=.returned v/\Out z w' E'/\fO (ctx z w' E' cz) σ'/\an (ctx z w' E' cz) r v
def afo(P:Program)(nm:List Nat)(f:FuncId)(args:List AV)(σ:Heap)(r:AV)(σ':Heap):Prop:=∀(z:Z)(vs:Array Value),z.nm=nm->sK z->fO (ctx z z.w z.E cz) σ->aN (ctx z z.w z.E cz) args vs.toList->∃v w' E',(callFunc f vs).run P z.w=.ok (.value v) w'/\Out z w' E'/\fO (ctx z w' E' cz) σ'/\an (ctx z w' E' cz) r v
def nu(P:Program)(nm:List Nat)(f:FuncId)(args:List AV)(σ:Heap)(r:AV)(σ':Heap):Prop:=afn P nm f args σ r σ'\/afo P nm f args σ r σ'
structure cP (X : Fx) : Prop where
 call:∀f args σ r σ',X.call f args σ=δ (r,σ')->nu X.P X.nm f args σ r σ'
 dyn:∀f args σ r σ',X.dyn (X.nm.getD f 0) args σ=δ (r,σ')->nu X.P X.nm f args σ r σ'
section
variable {X : Fx} {z : Z} {s : AS} {a : Act} {w w' : World} {E : List Pl} {pb : Nat -> Option Nat}
theorem Ext.same{c c':RC}(hw:c'.w=c.w)(hE:c'.E=c.E)(hX:∀b,c'.X b->c.X b)(hn:c'.nm=c.nm):Ext c c':=
 ⟨by rw[hw];exact bR _,λb _ hx=>⟨by rw[hw],λk=>hx (hX b k)⟩,λi p h=>⟨p,by rw[hE];exact h,.inl rfl⟩,hn⟩
def below(z:Z)(w:World)(E:List Pl)(pb:Nat->Option Nat):Z:=⟨w,E,λb=>z.X b\/∃i,pb i=δ b,z.nm⟩
theorem Mz:Ext (ctx z w E pb) (ctx (below z w E pb) w E cz):=
 Ext.same rfl rfl (λb k=>by
  rcases k with(k|k)|k|⟨i,k⟩
  ·exact .inl k
  ·exact .inr (.inr k)
  ·exact .inr (.inl k)
  ·cases k) rfl
theorem LU{w':World}{E':List Pl}:Ext (ctx (below z w E pb) w' E' cz) (ctx z w' E' pb):=
 Ext.same rfl rfl (λb k=>by
  rcases k with k|k|k
  ·exact .inl (.inl k)
  ·exact .inr (.inl k)
  ·exact .inl (.inr k)) rfl
theorem St.called(h:St X z s a w E pb){w':World}{E':List Pl}{σ':Heap}(ho:Out (below z w E pb) w' E')(hh:fO (ctx (below z w E pb) w' E' cz) σ'):St X z (s.heap σ') a w' E' pb:=by
 have ao0:∀p∈E',w.heap.size<=p.b\/∃q∈E,q.b=p.b:=ho.fresh
 have hx:Ext (ctx z w E pb) (ctx z w' E' pb):=by
  refine⟨ho.size,λb hb hn=>⟨ho.stay b hb (λp hp e=>hn (.inr (.inl ⟨p,hp,e⟩))),?_⟩,ho.env,rfl⟩;rintro(k|⟨p,hp,k⟩|k)
  ·exact hn (.inl k)
  ·rcases ao0 p hp with e|⟨q,hq,e⟩
   ·simp only[ctx]at hb;omega
   ·exact hn (.inr (.inl ⟨q,hq,e.trans k⟩))
  ·exact hn (.inr (.inr k))
 refine h.ext hx (λi b hb=>⟨hb,ho.stay b (h.priv i b hb).2.1 (h.priv i b hb).2.2⟩) (λi b hb=>⟨(h.priv i b hb).1,qB (h.priv i b hb).2.1 ho.size,λp hp e=>?_⟩) h.inj
  (hh.mono LU rfl (λp hp=>rfl)) ?_
 ·rcases ao0 p hp with k|⟨q,hq,k⟩
  ·have:=(h.priv i b hb).2.1;omega
  ·exact(h.priv i b hb).2.2 q hq (k.trans e)
 ·have o:=h.out;refine⟨ho.os.trans o.os,ho.tape.trans o.tape,ho.output.trans o.output,ZL o.size ho.size,λb hb hp=>?_,λi p hp=>?_,λi p hp=>?_,o.lt,o.mine⟩
  ·rw[ho.stay b (qB hb o.size) (λp Qn e=>?_)]
   ·exact o.stay b hb hp
   ·rcases o.fresh p Qn with k|⟨q,hq,k⟩
    ·omega
    ·exact hp q hq (k.trans e)
  ·rcases ho.fresh' i p hp with k|⟨q,hq,k⟩
   ·exact .inl (ZL o.size k)
   ·rcases o.fresh' i q hq with k'|⟨q',xe,k'⟩
    ·exact .inl (k▸k')
    ·exact .inr ⟨q',xe,k'.trans k⟩
  ·obtain⟨p',h1,h2⟩:=o.env i p hp;obtain⟨p'',h3,h4⟩:=ho.env i p' h1;refine⟨p'',h3,?_⟩;rcases h2 with rfl|⟨h2,h5⟩
   ·exact h4
   ·rcases h4 with rfl|⟨h6,h7⟩
    ·exact .inr ⟨h2,h5⟩
    ·exact .inr ⟨h2,by omega⟩
theorem Sy(h:St X z s a w E pb):fO (ctx (below z w E pb) w E cz) s.σ:=h.heap.mono Mz rfl (λp hp=>rfl)
theorem T9(h:St X z s a w E pb):sK (below z w E pb):=by
 refine⟨?_,h.out.lt.tab.to h.out.size (λb hb hn=>h.out.stay b hb λp hp e=>hn (.inr ⟨p,hp,e⟩)) ?_⟩
 ·rintro b (k|⟨i,k⟩)
  ·exact qB (h.out.lt b k) h.out.size
  ·exact(h.priv i b k).2.1
 ·rintro b hb ((k|⟨i,k⟩)|⟨p,hp,k⟩)
  ·exact .inl k
  ·have:=(h.priv i b k).1;omega
  ·rcases h.out.fresh p hp with q|⟨q,hq,e⟩
   ·omega
   ·exact .inr ⟨q,hq,e.trans k⟩
theorem Es(h:St X z s a w E pb){f:FuncId}{args:List AV}{vs:Array Value}{r:AV}{σ':Heap}(hc:nu X.P X.nm f args s.σ r σ')(ha:aN (ctx z w E pb) args vs.toList){o:Oper}{K:Act->World->Prop}{Q:Exit->Act->World->Prop}
  (ho:(execOp a.eval o).run X.P w=(callFunc f vs).run X.P w) (hK:∀v w' E',St X z (s.heap σ') a w' E' pb->an (ctx z w' E' pb) r v->K (a.put o.dst v) w'):o.wp X.P a w K Q:=by
 rcases hc with hc|hc
 ·obtain⟨g,hg,hc⟩:=hc;unfold Oper.wp;rw[ho,hg,Oper.upon_enter];refine(hc (below z w E pb) vs h.nm.symm (T9 h) (Sy h) (U3 Mz _ _ ha)).mono ?_;rintro e w' ⟨v,E',rfl,h1,h2,h3⟩;exact hK v w' E' (h.called h1 h2) (TK LU _ _ h3)
 ·obtain⟨v,w',E',k1,h1,h2,h3⟩:=hc (below z w E pb) vs h.nm.symm (T9 h) (Sy h) (U3 Mz _ _ ha);unfold Oper.wp;rw[ho,show(callFunc f vs).run X.P w=_ from k1,Oper.upon_value];exact hK v w' E' (h.called h1 h2) (TK LU _ _ h3)
theorem RA{f:FuncId}{c:Call}(hc:c.callee=.value (.func f)){dst:Option Tmp}{ty:TypeId}{pos:String}{af:Array Edge}{g:Option (Nat×Bool)}:
  (execOp a.eval ⟨dst,.call c,ty,pos,af,g⟩).run X.P w=(callFunc f (c.args.map a.eval)).run X.P w:=by
 simp [execOp,resolve,hc,Act.eval,Deferred.ofValue,invoke]
theorem KI{f:FuncId}{caps:Array Value}{x:Operand}{c:Call}(hc:c.callee=.value x)(hx:a.eval x=.func (.func f) #[] caps){dst:Option Tmp}{ty:TypeId}{pos:String}{af:Array Edge}{g:Option (Nat×Bool)}:
  (execOp a.eval ⟨dst,.call c,ty,pos,af,g⟩).run X.P w=(callFunc f (c.args.map a.eval++caps)).run X.P w:=by
 simp [execOp,resolve,hc,hx,Deferred.ofValue,invoke]
theorem We(hs:cP X)(h:St X z s a w E pb){tag:Option (Nat×Bool)}(ht:oU a tag){o:Oper}{av:AV}(hv:eF X o s tag=δ av){K:Act->World->Prop}{Q:Exit->Act->World->Prop}
  (hK:∀v w' E',St X z s a w' E' pb->an (ctx z w' E' pb) av v->K (a.put o.dst v) w'):o.wp X.P a w K Q:=by
 by_cases hc:∀c,o.op=.call c->∃b,c.callee=.builtin b
 ·obtain⟨v,w',h1,h2,h3⟩:=af9 h ht hv hc;unfold Oper.wp;rw[h1,Oper.upon_value];exact hK v w' E (h.grow h2) h3
 ·obtain⟨dst,op,ty,pos,af,g⟩:=o
  have:∃c,op=.call c/\∀b,c.callee≠.builtin b:=by refine aqH λhn=>hc λc e=>aqH λhb=>hn ⟨c,e,λb e'=>hb ⟨b,e'⟩⟩
  obtain⟨c,rfl,hb⟩:=this;simp only[eF]at hv
  have quiet:∀r,Zu r s.σ=δ av->r=δ (av,s.σ):=by
   intro r hr;unfold Zu at hr;obtain⟨p,h1,h2⟩:=bD.1 hr;split at h2
   ·rename_i he;injection h2 with h2
    rw[h1,<-he,<-h2]
   ·cases h2
  have hargs:(c.args.map a.eval).toList=c.args.toList.map a.eval:=by simp
  have hheap:s.heap s.σ=s:=rfl;cases CM:c.callee with
  |builtin b=>exact absurd CM (hb b)
  |invoke rr m=>rw[CM]at hv;cases hv
  |value x=>
   rw[CM]at hv;cases x with
   |func f=>simp only at hv;have hq:=hs.call _ _ _ _ _ (quiet _ hv);refine Es h hq (by rw[hargs];exact Co h _) (RA CM) (λv w' E' h1 h2=>?_);exact hK v w' E' h1 h2
   |tmp t=>
    simp only at hv;have hq:=quiet _ hv;have r:=dB h (.tmp t);generalize ev X s (.tmp t)=vx at *
    cases vx<;>simp only[A.nC]at hq<;>first|(cases hq;done)|skip
    rename_i fn0 EI;simp only[an]at r;obtain⟨f,cs,e1,e2,e3⟩:=r;rw[<-e2]at hq;have xe:X.dyn (X.nm.getD f 0) (c.args.toList.map (ev X s)++EI) s.σ=δ (av,s.σ):=by rw[h.nm];exact hq
    refine Es h (hs.dyn _ _ _ _ _ xe) (vs:=c.args.map a.eval++cs) (by rw[aqo,hargs];exact(Co h _).append e3) (KI CM e1) (λv w' E' h1 h2=>?_);exact hK v w' E' h1 h2
   |const v=>
    simp only at hv;have hq:=quiet _ hv;have r:=dB h (.const v);generalize ev X s (.const v)=vx at *
    cases vx<;>simp only[A.nC]at hq<;>first|(cases hq;done)|skip
    rename_i fn0 EI;simp only[an]at r;obtain⟨f,cs,e1,e2,e3⟩:=r;rw[<-e2]at hq;have xe:X.dyn (X.nm.getD f 0) (c.args.toList.map (ev X s)++EI) s.σ=δ (av,s.σ):=by rw[h.nm];exact hq
    refine Es h (hs.dyn _ _ _ _ _ xe) (vs:=c.args.map a.eval++cs) (by rw[aqo,hargs];exact(Co h _).append e3) (KI CM e1) (λv w' E' h1 h2=>?_);exact hK v w' E' h1 h2
   |global g=>simp only[ev,A.nC]at hv;have:=quiet _ hv;cases this
theorem Wd(h:St X z s a w E pb){tag:Option (Nat×Bool)}(ht:oU a tag){o:Oper}{b off:Nat}(hv:iR X o s tag=δ (b,δ off)):
  (∃k,pb b=δ k/\(execOp a.eval o).run X.P w=.ok (.value (.pointer (δ ⟨k,off,μ⟩))) w):=by
 obtain⟨dst,op,ty,pos,af,g⟩:=o;cases op<;>simp only[iR]at hv<;>first|(cases hv;done)|skip
 case nilCheck x=>
  split at hv
  ·rename_i b' off' hp;injection hv with hv
   injection hv with hb hv
   subst hb;obtain⟨cs,h1,h2⟩:=bD.1 hv;simp only[ψ]at h2;subst h2;obtain⟨k,k1,k2,_⟩:=B9 h ht hp h1;exact⟨k,k1,by simp [execOp,k2]⟩
  ·cases hv
 case fieldAddr t x f=>
  split at hv
  ·rename_i b' off' hp;injection hv with hv
   injection hv with hb hv
   subst hb;split at hv
   ·rename_i fo ft hf;split at hv
    ·rename_i i hi;cases h0:(i.size==0)
     ·rw[h0]at hv;simp only[bk]at hv;obtain⟨cs,h1,h2⟩:=bD.1 hv;simp only[ψ]at h2;subst h2;obtain⟨k,k1,k2,_⟩:=B9 h ht hp h1;obtain⟨fs,fl,e1,e2,e3,e4⟩:=Hf hf;have hsz:(sizeOf fl.type).run X.P w=.ok i.size w:=by rw[e4];simp [sizeOf,sW w hi]
      have iz:¬i.size=0:=by simpa using h0
      exact⟨k,k1,by simp [execOp,Instr.fieldAt,run_underlying e1,e2,k2,Yu,fieldPlace,hsz,iz,e3,nh]⟩
     ·rw[h0]at hv;cases hv
    ·cases hv
   ·cases hv
  ·cases hv
 case indexAddr t x i=>
  split at hv
  ·rename_i b' off' hp;injection hv with hv
   injection hv with hb hv
   subst hb;split at hv
   ·rename_i len e hd;split at hv
    ·rename_i ie JF;obtain⟨cs,h1,h2⟩:=bD.1 hv;obtain⟨n,h3,h4⟩:=bD.1 h2;simp only[ψ]at h4;subst h4;obtain⟨k,k1,k2,_⟩:=B9 h ht hp h1;obtain⟨kk,e1,e2⟩:=Ex (c:=ctx z w E pb) h3 (dB h i);have hsz:(sizeOf e).run X.P w=.ok ie.size w:=by simp [sizeOf,sW w JF]
     exact⟨k,k1,by simp [execOp,ap2,run_underlying hd,e1,k2,asIntOf,hsz,e2,Yu,nh]⟩
    ·cases hv
   ·cases hv
  ·cases hv
theorem Ub{c:RC}{b:Nat}{cs:List AV}(h:wk c b cs):∃arr t,c.w.heap[b]? =δ (.cells arr t (0,0))/\aN c cs arr.toList/\∀x∈arr.toList,cR x=η:=by
 obtain⟨⟨arr,t,h1,h2⟩,h3⟩:=h;obtain⟨vs,k1,k2,k3⟩:=h3.J1
 have:arr.toList=vs:=by
  apply aqd;intro i;by_cases hi:i<vs.length
  ·have:=k3 i vs[i] (by simp [hi]);rw[Z3,uq h1]at this;rw[ZQ,this];simp [hi]
  ·have hl:=k1.length;rw[kD (by simp;omega),kD (by omega)]
 rw[<-this]at k1 k2;exact⟨arr,t,h1,k1,k2⟩
theorem LN{P:Program}{t:TypeId}{b off:Nat}{v:Value}{arr:Array Value}{bt:TypeId}(hb:w.heap[b]? =δ (.cells arr bt (0,0)))(hsz:v.cells.size=P.cellsOf t)(ht:(P.info? t).isSome=η)(ho:∀x∈v.cells.toList,cR x=η)(hl:off+v.cells.toList.length<=arr.size):
  (Instr.storeAt t (.pointer (δ ⟨b,off,μ⟩)) v).run P w=.ok () (w.dn b (.cells (eR arr off v.cells.toList) bt (0,0))):=by
 obtain⟨i,hi⟩:=apS.1 ht;have:=Bz (P:=P) (b:=b) (off:=off) (t:=bt) v.cells.toList 0 w arr hb (by simpa using hl) ho;simp [Instr.storeAt,Yu,storeVar,DW w hi,hsz,this]
theorem RG{P:Program}{t:TypeId}{d:TypeDesc}(h:P.underlying t=δ d):(P.info? t).isSome=η:=by obtain⟨i,hi⟩:=UM h;rw[hi];rfl
theorem Cv(arr:Array Value)(o:Nat)(l:List Value)(h:o+l.length<=arr.size)(j:Nat):(eR arr o l)[j]? =if o<=j/\j<o+l.length then l[j-o]? else arr[j]? :=by
 unfold eR;rw[List.getElem?_toArray];have h1:(arr.toList.take o).length=o:=by simp;omega
 by_cases hj:j<o
 ·rw[aF (by omega),nG,gZ (by omega),Vp hj,ZQ]
 ·rw[nG,kC (by omega),h1];by_cases hk:j<o+l.length
  ·rw[aH ⟨by omega,hk⟩,gZ (by omega)]
  ·rw[aF (by omega),kC (by omega),Zg,ZQ];congr 1;omega
theorem adt(h:St X z s a w E pb){t:TypeId}{x:AV}{pv v:Value}{vv:AV}{new:List AV}{σ':Heap}(hc:uK X t vv=δ new)(rv:an (ctx z w E pb) vv v)(hst:ZX x new s.σ=δ σ')(rx:an (ctx z w E pb) x pv):
  ∃w',(Instr.storeAt t pv v).run X.P w=.ok () w'/\St X z (s.heap σ') a w' E pb:=by
 obtain⟨r1,r2,r3,d,hd⟩:=BX X hc rv;have hi:=RG hd;cases x<;>simp only[ZX]at hst<;>first|(cases hst;done)|skip
 case op id off=>
  simp only[an]at rx;obtain⟨p,e1,e2,rfl⟩:=rx;split at hst
  ·rename_i cs hs;obtain⟨cs',h1,h2⟩:=cO.1 hst;subst h2;obtain⟨hg,ai9⟩:=h.heap.blk id p _ e1 hs;obtain⟨arr,bt,k1,k2,k3⟩:=Ub ai9;obtain⟨k4,k5⟩:=k2.eR h1 r1;refine⟨_,LN k1 r3 hi r2 k5,h.uR e1 _ _ λhx=>?_⟩;have hlt:p.b<w.heap.size:=h.heap.lt (p:=p) (ct e1);have hh:=sV (w:=w) (.cells (eR arr off v.cells.toList) bt (0,0)) hlt;have k6:=U3 hx _ _ k4;exact⟨hg,⟨_,_,hh,by have:=k6.length;simpa using this.symm⟩,bp.vD hh k6 (Cr k3 r2) (λi hi=>by simp)⟩
  ·cases hst
 case oe id g i off=>
  simp only[an]at rx;obtain⟨AN,p,e1,e2,q,rfl,rx⟩:=rx;split at hst
  ·rename_i g' sz es hs;split at hst
   ·rename_i Qd;subst Qd;obtain⟨e,h1,h2⟩:=bD.1 hst;obtain⟨e',h3,h4⟩:=cO.1 h2;subst h4;obtain⟨j1,j2,j3,j4,⟨arr,bt,j5,j6⟩,j7,j8,j9⟩:=h.heap.blk id p _ e1 hs;have hq:=rx j1.symm;subst hq;obtain⟨hel,hcs⟩:=aqe j8 h1
    have hsp:off+new.length<=e.length/\e'=e.take off++new++e.drop (off+new.length):=by
     unfold Zv at h3;split at h3
     ·injection h3 with h3;exact⟨by assumption,h3.symm⟩
     ·cases h3
    have hlen:i<es.length:=(bG.1 h1).1
    have hbound:p.base+i*sz+sz<=arr.size:=by have:(i+1)*sz<=es.length*sz:=mQ _ hlen;rw[fQ]at this;rw[j6];omega
    have hl:new.length=v.cells.toList.length:=r1.length;have k5:p.base+i*p.sz+off+v.cells.toList.length<=arr.size:=by rw[j3];omega
    refine⟨_,LN j5 r3 hi r2 k5,h.uR e1 _ _ λhx=>?_⟩;have hlt:p.b<w.heap.size:=h.heap.lt (p:=p) (ct e1);have hh:=sV (w:=w) (.cells (eR arr (p.base+i*p.sz+off) v.cells.toList) bt (0,0)) hlt;have hcell:∀j,(w.dn p.b (.cells (eR arr (p.base+i*p.sz+off) v.cells.toList) bt (0,0))).cell? ⟨p.b,j,μ⟩=(eR arr (p.base+i*p.sz+off) v.cells.toList)[j]? :=λj=>uq hh
    have hold:∀j,w.cell? ⟨p.b,j,μ⟩=arr[j]? :=λj=>uq j5
    obtain⟨am4,OB⟩:=hsp;have hsz:p.sz=sz:=j3;rw[hsz]at k5 hcell
    have out:∀j,(j<p.base+i*sz+off\/p.base+i*sz+off+new.length<=j)->(w.dn p.b (.cells (eR arr (p.base+i*p.sz+off) v.cells.toList) bt (0,0))).cell? ⟨p.b,j,μ⟩=w.cell? ⟨p.b,j,μ⟩:=by intro j hj;rw[hsz,hcell,hold,Cv _ _ _ k5,aF (by omega)]
    refine⟨j1,j2,j3,j4,⟨_,_,hh,by rw[hsz,MN _ _ _ k5];exact j6⟩,by simpa using j7,bC.of λj x hj=>?_,xP hh (Cr (j9 _ _ _ j5) r2)⟩;rw[gd]at hj;by_cases hij:i=j
    ·subst hij;rw[aH rfl,aH hlen]at hj;injection hj with hj;subst hj
     refine⟨by rw[OB];simp;omega,aqy λk av hk=>?_⟩;by_cases hin:off<=k/\k<off+new.length
     ·have hnk:new[k-off]? =δ av:=by rw[OB,nG,kC (by simp;omega)]at hk;rw[gZ (by simp;omega)]at hk;rw[<-hk];congr 1;simp;omega
      obtain⟨u,m1,m2⟩:=r1.nth hnk;refine⟨u,?_,r2 u (ct m1),TK hx _ _ m2⟩;show(w.dn p.b (.cells (eR arr (p.base+i*p.sz+off) v.cells.toList) bt (0,0))).cell? ⟨p.b,p.base+i*sz+k,μ⟩=_;rw[hsz,hcell,Cv _ _ _ k5,aH (by omega),<-m1];congr 1;omega
     ·have hek:e[k]? =δ av:=by
       rw[OB]at hk;by_cases hk1:k<off
       ·rw[nG,gZ (by simp;omega),Vp hk1]at hk;exact hk
       ·rw[kC (by simp;omega),Zg]at hk;rw[<-hk];congr 1;simp;omega
      obtain⟨u,m1,m2,m3⟩:=ap4 hcs hek;refine⟨u,?_,m2,TK hx _ _ m3⟩;rw[<-m1];exact out _ (by omega)
    ·rw[aF hij]at hj;obtain⟨m1,m2⟩:=aqe j8 hj;refine⟨m1,aqy λk av hk=>?_⟩;obtain⟨u,n1,n2,n3⟩:=ap4 m2 hk;refine⟨u,?_,n2,TK hx _ _ n3⟩;rw[<-n1];have rU:k<sz:=by rw[<-m1];exact(bG.1 hk).1
     refine out _ ?_;rcases Nat.lt_or_gt_of_ne hij with hlt'|hgt
     ·right;have:(i+1)*sz<=j*sz:=mQ _ hlt';rw[fQ]at this;omega
     ·left;have:(j+1)*sz<=i*sz:=mQ _ hgt;rw[fQ]at this;omega
   ·cases hst
  ·cases hst
end
end
section
open Go.RowKit
section
variable {X : Fx} {z : Z} {s : AS} {a : Act} {w w' : World} {E : List Pl} {pb : Nat -> Option Nat}
theorem St.move(h:St X z s a w E pb){id:Nat}{p p':Pl}{blk:aP}(hi:E[id]? =δ p)(hg:0<p.g/\p.g<p'.g)(hos:w'.os=w.os)(htp:w'.tape=w.tape)(hout:w'.output=w.output)(hsz:w.heap.size<=w'.heap.size)
  (I1:∀b,b≠p.b->b<w.heap.size->w'.heap[b]? =w.heap[b]?) (hb:p'.b=p.b\/(w.heap.size<=p'.b/\p'.b<w'.heap.size))
  (hk:Ext (ctx z w E pb) (ctx z w' (E.set id p') pb)->oa (ctx z w' (E.set id p') pb) p' blk):
  St X z (s.heap (s.σ.set id blk)) a w' (E.set id p') pb/\Ext (ctx z w E pb) (ctx z w' (E.set id p') pb):=by
 have hm:p∈E:=ct hi;have hid:id<E.length:=(bG.1 hi).1;have hX:(ctx z w E pb).X p.b:=.inr (.inl ⟨p,hm,rfl⟩)
 have hmem:∀q∈E.set id p',q=p'\/(q∈E):=λq hq=>by
  rcases List.mem_or_eq_of_mem_set hq with e|e
  ·exact .inr e
  ·exact .inl e
 have kG:∀(j:Nat)(q:Pl),(E.set id p')[j]? =δ q->(j=id/\q=p')\/(j≠id/\E[j]? =δ q):=λj q hq=>by
  rw[gd]at hq;by_cases e:id=j
  ·subst e;rw[aH rfl,aH hid]at hq;injection hq with hq;exact .inl ⟨rfl,hq.symm⟩
  ·rw[aF e]at hq;exact .inr ⟨λe'=>e e'.symm,hq⟩
 have hx:Ext (ctx z w E pb) (ctx z w' (E.set id p') pb):=by
  refine⟨hsz,λb mC hn=>⟨I1 b (λe=>hn (e▸hX)) mC,?_⟩,λj q hq=>?_,rfl⟩
  ·rintro(k|⟨q,hq,k⟩|k)
   ·exact hn (.inl k)
   ·rcases hmem q hq with rfl|hq
    ·rcases hb with e|⟨e,_⟩
     ·exact hn (by rw[<-k,e];exact hX)
     ·simp only[ctx]at mC;omega
    ·exact hn (.inr (.inl ⟨q,hq,k⟩))
   ·exact hn (.inr (.inr k))
  ·by_cases e:id=j
   ·subst e;simp only[ctx]at hq;rw[hi]at hq;injection hq with hq;subst hq
    exact⟨p',by simp [ctx,hid],.inr hg⟩
   ·exact⟨q,by simp only[ctx]at hq ⊢;rw[gd,aF e];exact hq,.inl rfl⟩
 refine⟨h.ext hx (λi b hpb=>⟨hpb,I1 b (λe=>(h.priv i b hpb).2.2 p hm e.symm) (h.priv i b hpb).2.1⟩) (λi b hpb=>⟨(h.priv i b hpb).1,qB (h.priv i b hpb).2.1 hsz,λq hq=>?_⟩) h.inj
  ⟨by have:=h.heap.len;simpa [ctx]using this,λi j q r hq hr he=>?_,λj q x hq dO=>?_⟩ ?_,hx⟩
 ·rcases hmem q hq with rfl|hq
  ·rcases hb with e|⟨e,_⟩
   ·rw[e];exact(h.priv i b hpb).2.2 p hm
   ·have:=(h.priv i b hpb).2.1;omega
  ·exact(h.priv i b hpb).2.2 q hq
 ·have lt:∀(j:Nat)(q:Pl),E[j]? =δ q->q.b<w.heap.size:=λj q hq=>h.heap.lt (p:=q) (ct hq)
  rcases kG i q hq with⟨e1,e2⟩|⟨e1,e2⟩<;>rcases kG j r hr with⟨e3,e4⟩|⟨e3,e4⟩
  ·rw[e1,e3]
  ·exfalso;rw[e2]at he;rcases hb with e|⟨e,_⟩
   ·exact e3 (h.heap.inj j id r p e4 hi (by rw[<-he,e]))
   ·have:=lt j r e4;omega
  ·exfalso;rw[e4]at he;rcases hb with e|⟨e,_⟩
   ·exact e1 (h.heap.inj i id q p e2 hi (by rw[he,e]))
   ·have:=lt i q e2;omega
  ·exact h.heap.inj i j q r e2 e4 he
 ·rcases kG j q hq with⟨e1,e2⟩|⟨e1,e2⟩
  ·subst e1;subst e2;rw[gd,aH rfl]at dO;split at dO
   ·injection dO with dO;subst dO;exact hk hx
   ·cases dO
  ·rw[gd,aF (λe=>e1 e.symm)]at dO;exact(h.heap.blk j q x e2 dO).mono hx (I1 q.b (λe=>e1 (h.heap.inj j id q p e2 hi e)) (h.heap.lt (p:=q) (ct e2)))
 ·have o:=h.out;refine⟨hos.trans o.os,htp.trans o.tape,hout.trans o.output,ZL o.size hsz,λb mC hp=>?_,λj q hq=>?_,λj q hq=>?_,o.lt,o.mine⟩
  ·rw[I1 b (λe=>?_) (qB mC o.size)]
   ·exact o.stay b mC hp
   ·rcases o.fresh p hm with k|⟨r,hr,k⟩
    ·omega
    ·exact hp r hr (k.trans e.symm)
  ·rcases kG j q hq with⟨e1,e2⟩|⟨e1,e2⟩
   ·subst e1;subst e2;rcases hb with e|⟨e,_⟩
    ·rcases o.fresh' j p hi with k|⟨r,hr,k⟩
     ·exact .inl (by rw[e];exact k)
     ·exact .inr ⟨r,hr,by rw[e];exact k⟩
    ·exact .inl (ZL o.size e)
   ·exact o.fresh' j q e2
  ·obtain⟨q',h1,h2⟩:=o.env j q hq;by_cases e:id=j
   ·subst e;rw[hi]at h1;injection h1 with h1;subst h1
    refine⟨p',by simp [hid],?_⟩;rcases h2 with rfl|⟨h2,h3⟩
    ·exact .inr hg
    ·exact .inr ⟨h2,by omega⟩
   ·exact⟨q',by rw[gd,aF e];exact h1,h2⟩
theorem bC.cells{c:RC}{sz b:Nat}:∀{es:List (List AV)}{off:Nat},bC c sz b off es->bp c b off es.flatten/\es.flatten.length=es.length*sz
 |[],off,h=>by simp [bp]
 |e::es,off,h=>by
  simp only[bC]at h;obtain⟨h1,h2,h3⟩:=h;obtain⟨k1,k2⟩:=bC.cells h3;refine⟨aqy λi av hi=>?_,by simp [k2,h1,fQ];omega⟩;simp only[Ul]at hi;by_cases hl:i<e.length
  ·rw[gZ hl]at hi;exact ap4 h2 hi
  ·rw[kC (by omega)]at hi;have:=ap4 k1 hi;rwa[show off+sz+(i-e.length)=off+i by omega]at this
theorem SC{P:Program}{c:RC}{σ:Heap}(hh:fO c σ){sz:Nat}{y:AV}{v:Value}{ys:List (List AV)}(h:Vl sz y σ=δ ys)(r:an c y v):
  ∃(q:Option Addr)(cap:Nat)(cs:List Value),v=.slice q ys.length cap/\(∀w2:World,w2.heap=c.w.heap->(ZC sz ys.length v).run P w2=.ok cs.toArray w2)/\aN c ys.flatten cs/\(∀x∈cs,cR x=η)/\cs.length=ys.length*sz/\(∀e∈ys,e.length=sz)/\(∀n,n<=ys.length->∀w2:World,w2.heap=c.w.heap->(ZC sz n v).run P w2=.ok (cs.take (n*sz)).toArray w2):=by
 have main:∀(q:Option Addr)(cap:Nat)(ys:List (List AV)),(ys=[]\/∃b off,q=δ ⟨b,off,μ⟩/\bC c sz b off ys)->
   ∃cs:List Value,(∀w2:World,w2.heap=c.w.heap->(ZC sz ys.length (.slice q ys.length cap)).run P w2=.ok cs.toArray w2)/\aN c ys.flatten cs/\(∀x∈cs,cR x=η)/\cs.length=ys.length*sz/\(∀e∈ys,e.length=sz)/\(∀n,n<=ys.length->∀w2:World,w2.heap=c.w.heap->(ZC sz n (.slice q ys.length cap)).run P w2=.ok (cs.take (n*sz)).toArray w2):=by
  intro q cap ys hq;rcases hq with rfl|⟨b,off,rfl,r⟩
  ·refine⟨[],λw2 _=>?_,by simp [aN],by simp,by simp,by simp,λn hn w2 _=>by
    simp at hn;subst hn
    cases q<;>simp [ZC,loadCells,loadCellsFrom]⟩
   cases q with
   |none=>simp [ZC]
   |some q=>simp [ZC,loadCells,loadCellsFrom]
  ·obtain⟨k1,k2⟩:=r.cells;obtain⟨vs,j1,j2,j3⟩:=k1.J1;have hl:vs.length=ys.length*sz:=by rw[<-j1.length,k2]
   refine⟨vs,λw2 hw=>?_,j1,j2,hl,λe he=>?_,λn hn w2 hw=>?_⟩
   ·have:=run_loadCells_list (P:=P) w2 ⟨b,off,μ⟩ vs (λj v hj=>by rw[nh];have:=j3 j v hj;simpa [apP,hw]using this);rw[hl]at this;simp [ZC,this]
   ·obtain⟨i,hi,rfl⟩:=Ut.1 he;exact(aqe r (i:=i) (by simp [hi])).1
   ·have hnl:n*sz<=vs.length:=by rw[hl];exact mQ _ hn
    have:=run_loadCells_list (P:=P) w2 ⟨b,off,μ⟩ (vs.take (n*sz)) (λj v hj=>by
     rw[nh];have:=j3 j v (by rw[Vj]at hj;split at hj;exact hj;cases hj)
     simpa [apP,hw]using this)
    rw[qC,Nat.min_eq_left hnl]at this;simp [ZC,this]
 cases y<;>simp only[Vl]at h<;>first|(cases h;done)|skip
 case aC=>
  injection h with h;subst h
  simp only[an]at r;subst r;obtain⟨cs,k⟩:=main μ 0 [] (.inl rfl);exact⟨μ,0,cs,rfl,k⟩
 case ez=>
  injection h with h;subst h
  simp only[an]at r;obtain⟨q,rfl⟩:=r;obtain⟨cs,k⟩:=main q 0 [] (.inl rfl);exact⟨q,0,cs,rfl,k⟩
 case sl sz' es=>
  split at h
  ·rename_i hs;subst hs;injection h with h;subst h
   simp only[an]at r;obtain⟨q,cap,rfl,hcap,_,r⟩:=r
   obtain⟨cs,k⟩:=main q cap es (by
    rcases r with r|⟨b,off,e,_,_,r⟩
    ·exact .inl r
    ·exact .inr ⟨b,off,e,r⟩)
   exact⟨q,cap,cs,rfl,k⟩
  ·cases h
 case os id g pL off len=>
  simp only[an]at r;obtain⟨hg,p,e1,e2,q,cap,rfl,hcap,r⟩:=r;split at h
  ·rename_i g' sz' es hs;split at h
   ·rename_i hc;obtain⟨rfl,rfl,rfl,hle⟩:=hc;injection h with h;subst h
    obtain⟨j1,j2,j3,j4,j5,j6,j7,_⟩:=hh.blk id p _ e1 hs;obtain⟨k1,k2,k3⟩:=r j1.symm;have hlen:((es.drop off).take len).length=len:=by simp;omega
    obtain⟨cs,k⟩:=main (δ q) cap ((es.drop off).take len) (by
     by_cases hz:len=0
     ·left;subst hz;simp
     ·right;rcases k2 with k2|k2
      ·omega
      ·exact⟨_,_,by rw[k2],by rw[j3];exact(j7.drop off).take len⟩)
    rw[hlen]at k ⊢;exact⟨δ q,cap,cs,rfl,k⟩
   ·cases h
  ·rename_i g' sz' es hs;split at h
   ·rename_i hc;obtain⟨rfl,rfl,rfl,hle⟩:=hc;injection h with h;subst h
    obtain⟨j1,j2,j3,j4,j5,j6,j7,_⟩:=hh.blk id p _ e1 hs;obtain⟨k1,k2,k3⟩:=r j1.symm;have hlen:((es.drop off).take len).length=len:=by simp;omega
    obtain⟨cs,k⟩:=main (δ q) cap ((es.drop off).take len) (by
     by_cases hz:len=0
     ·left;subst hz;simp
     ·right;rcases k2 with k2|k2
      ·omega
      ·exact⟨_,_,by rw[k2],by rw[j3];exact(j7.drop off).take len⟩)
    rw[hlen]at k ⊢;exact⟨δ q,cap,cs,rfl,k⟩
   ·cases h
  ·cases h
theorem Mf{P:Program}{c:RC}{σ:Heap}(hh:fO c σ){sz:Nat}{y:AV}{v:Value}{ys:List (List AV)}(h:Vl sz y σ=δ ys)(r:an c y v):
  ∃(q:Option Addr)(cap:Nat)(cs:List Value),v=.slice q ys.length cap/\(∀w2:World,w2.heap=c.w.heap->(ZC sz ys.length v).run P w2=.ok cs.toArray w2)/\aN c ys.flatten cs/\(∀x∈cs,cR x=η)/\cs.length=ys.length*sz/\(∀e∈ys,e.length=sz):=by
 obtain⟨q,cap,cs,h1,h2,h3,h4,h5,h6,_⟩:=SC (P:=P) hh h r;exact⟨q,cap,cs,h1,h2,h3,h4,h5,h6⟩
theorem aoc{sz:Nat}:∀{ys:List (List AV)}{n:Nat},(∀y∈ys,y.length=sz)->n<=ys.length->(ys.take n).flatten=ys.flatten.take (n*sz)
 |[],n,_,hn=>by simp
 |y::ys,0,_,_=>by simp
 |y::ys,n+1,h,hn=>by
  simp at hn;rw[List.take_succ_cons,Ul,Ul,aoc (λx hx=>h x (by simp [hx])) hn,List.take_append,h y (by simp),fQ,Nat.one_mul];congr 1
  ·rw[mR (by rw[h y (by simp)];omega)]
  ·congr 1;omega
theorem adC(P:Program){e:TypeId}{i:TypeInfo}{zv:Value}(hi:P.info? e=δ i)(hz:i.zero=δ zv)(w:World):(zeroValue e).run P w=.ok zv w:=by simp [zeroValue,sW w hi,hz]
theorem aaA{P:Program}{t u e e' ty:TypeId}{i:TypeInfo}{zv:Value}(ht:P.underlying t=δ (.slice e))(hu:P.underlying u=δ (.slice e'))(hi:P.info? e=δ i)(hz:i.zero=δ zv)(hb0:i.bytes≠0)
  {base q:Option Addr} {sLen sCap n cap:Nat} {olds news:List Value} (hold:(ZC i.size sLen (.slice base sLen sCap)).run P w.drew=.ok olds.toArray w.drew) (hnew:(ZC i.size n (.slice q n cap)).run P w.drew=.ok news.toArray w.drew)
  (hg:sCap<sLen+n) (hm:sLen+n<=140737488355328 / i.bytes):
  (ZV #[t,u] ty #[.slice base sLen sCap,.slice q n cap]).run P w=
   .ok (.slice (δ ⟨w.heap.size,0,μ⟩) (sLen+n) (grownCap w (sLen+n) sCap e)) (w.drew.alloc (.cells (olds.toArray++news.toArray++Y7 zv.cells (grownCap w (sLen+n) sCap e-(sLen+n))) e)):=by
 have IZ:(sLen+n)*i.bytes<=140737488355328:=by have:=mQ i.bytes hm;have:=apZ 140737488355328 i.bytes;omega
 have h48:=growslice_fits hg IZ;have hn:¬(sLen+n<=sCap):=by omega
 have E1:¬(281474976710656<Builtin.nextslicecap (sLen+n) sCap*i.bytes):=by omega
 simp [ZV,run_underlying ht,run_underlying hu,sizeOf,typeInfo,zeroValue,hi,hz,T4,hn,E1,hb0,XF,hold,hnew,newRow,grownCap];congr 2;apply Array.ext';simp [nG]
theorem bp.sub{c:RC}{b:Nat}{arr:Array Value}{t:TypeId}{fz:Nat×Nat}(h:c.w.heap[b]? =δ (.cells arr t fz)){cs:List AV}{vs pre suf:List Value}(ha:arr.toList=pre++vs++suf)(hr:aN c cs vs)(ho:∀x∈vs,cR x=η):bp c b pre.length cs:=by
 refine bp.vD h hr ho λi hi=>?_
 rw[<-ZQ,ha,nG,kC (by omega),gZ (by omega)];congr 1;omega
theorem bp.Af{c:RC}{sz b:Nat}:∀{es:List (List AV)}{off:Nat},(∀e∈es,e.length=sz)->bp c b off es.flatten->bC c sz b off es
 |[],off,_,_=>by simp [bC]
 |e::es,off,hl,h=>by
  simp only[Ul]at h;have he:=hl e (by simp);simp only[bC];refine⟨he,?_,bp.Af (λx hx=>hl x (by simp [hx])) ?_⟩
  ·have:=h.take e.length;simpa using this
  ·have:=h.drop e.length;rw[he]at this;simpa [<-he]using this
theorem bC.append{c:RC}{sz b:Nat}:∀{l m:List (List AV)}{off:Nat},bC c sz b off l->bC c sz b (off+l.length*sz) m->bC c sz b off (l++m)
 |[],m,off,h,k=>by simpa using k
 |e::l,m,off,h,k=>by simp only[bC,kF]at h ⊢;refine⟨h.1,h.2.1,bC.append h.2.2 ?_⟩;rw[show off+sz+l.length*sz=off+(e::l).length*sz by simp [fQ];omega];exact k
theorem bC.keep{c c':RC}(hx:Ext c c'){sz b:Nat}{es:List (List AV)}{off:Nat}(h:bC c sz b off es)(hc:∀j,off<=j->j<off+es.length*sz->c'.w.cell? ⟨b,j,μ⟩=c.w.cell? ⟨b,j,μ⟩):bC c' sz b off es:=by
 refine bC.of λi e hi=>?_
 obtain⟨h1,h2⟩:=aqe h hi;refine⟨h1,aqy λk av hk=>?_⟩;obtain⟨u,k1,k2,k3⟩:=ap4 h2 hk;refine⟨u,?_,k2,TK hx _ _ k3⟩;have hil:i<es.length:=(bG.1 hi).1;have rU:k<sz:=by rw[<-h1];exact(bG.1 hk).1
 have:(i+1)*sz<=es.length*sz:=mQ _ hil;rw[fQ]at this;rw[<-k1];exact hc _ (by omega) (by omega)
theorem MA(h:St X z s a w E pb){id:Nat}{p:Pl}{g sz i:Nat}{es ys:List (List AV)}{arr:Array Value}{bt:TypeId}{news:List Value}(e1:E[id]? =δ p)(hs:s.σ[id]? =δ (.arr g sz es))(hb:w.heap[p.b]? =δ (.cells arr bt (0,0)))
  (hfit:i+ys.length<=es.length) (hr:aN (ctx z w E pb) ys.flatten news) (ho:∀x∈news,cR x=η) (hy:∀y∈ys,y.length=sz) (hn:news.length=ys.length*sz):
  p.base+i*sz+news.length<=arr.size/\St X z (s.heap (s.σ.set id (.arr g sz (es.take i++ys++es.drop (i+ys.length))))) a (w.dn p.b (.cells (eR arr (p.base+i*sz) news) bt (0,0))) E pb:=by
 obtain⟨j1,j2,j3,j4,⟨yu,bt',j5,j6⟩,j7,j8,j9⟩:=h.heap.blk id p _ e1 hs;have Y6:w.heap[p.b]? =δ (.cells yu bt' (0,0)):=j5;rw[hb]at Y6;injection Y6 with j5d
 injection j5d with j5e j5f
 subst j5e j5f;have hm:(i+ys.length)*sz<=es.length*sz:=mQ _ hfit;rw[fQ]at hm;have yg:p.base+i*sz+news.length<=arr.size:=by rw[hn,j6];omega
 refine⟨yg,h.uR e1 _ _ λhx=>?_⟩;have hlt:p.b<w.heap.size:=h.heap.lt (p:=p) (ct e1);have hh:=sV (w:=w) (.cells (eR arr (p.base+i*sz) news) bt (0,0)) hlt;have hcell:∀j,(w.dn p.b (.cells (eR arr (p.base+i*sz) news) bt (0,0))).cell? ⟨p.b,j,μ⟩=(eR arr (p.base+i*sz) news)[j]? :=λj=>uq hh
 have hold:∀j,w.cell? ⟨p.b,j,μ⟩=arr[j]? :=λj=>uq hb
 have out:∀j,(j<p.base+i*sz\/p.base+i*sz+news.length<=j)->(w.dn p.b (.cells (eR arr (p.base+i*sz) news) bt (0,0))).cell? ⟨p.b,j,μ⟩=w.cell? ⟨p.b,j,μ⟩:=by intro j hj;rw[hcell,hold,Cv _ _ _ yg,aF (by omega)]
 have YX:(es.take i).length=i:=by simp;omega
 refine⟨j1,j2,j3,j4,⟨_,_,hh,by rw[MN _ _ _ yg];exact j6⟩,?_,?_,xP hh (Cr (j9 _ _ _ hb) ho)⟩
 ·have:(es.take i++ys++es.drop (i+ys.length)).length=es.length:=by simp;omega
  rw[this];exact j7
 ·refine bC.append (bC.append (bC.keep hx (j8.take i) λj F1 hj2=>?_) ?_) (bC.keep hx ?_ λj F1 hj2=>?_)
  ·rw[YX]at hj2;exact out j (.inl hj2)
  ·rw[YX];refine bp.Af hy ?_;refine bp.vD hh (U3 hx _ _ hr) ho λj hj=>?_
   show(eR arr (p.base+i*sz) news)[p.base+i*sz+j]? =_;rw[Cv _ _ _ yg,aH (by omega)];congr 1;omega
  ·have:=j8.drop (i+ys.length);have e:(es.take i++ys).length=i+ys.length:=by simp;omega
   rw[e];exact this
  ·have e:(es.take i++ys).length=i+ys.length:=by simp;omega
   rw[e,fQ]at F1;refine out j (.inr ?_);rw[hn];omega
theorem G7{zv:Value}{sz:Nat}(h:zv.cells.size=sz)(h0:sz≠0)(n:Nat):(Y7 zv.cells n).toList=(ZB n zv.cells.toList).flatten:=by have:=range_zero zv.cells.toList (by simp;omega) n;rw[<-this];simp [Y7]
theorem aeJ(h:St X z s a w E pb){t e ty:TypeId}{i:TypeInfo}{zv:Value}{zs:List AV}(ht:X.P.underlying t=δ (.slice e))(hzv:∀w,(zeroValue e).run X.P w=.ok zv w)(hzs:zv.cells.size=i.size)(h0:i.size≠0)
  (pe:∀c,aN c zs zv.cells.toList) (hone:∀x∈zv.cells.toList,cR x=η) {x:AV} {v:Value} {σ':Heap} (gf:A.zB i.size zs x s.σ=δ σ') (rx:an (ctx z w E pb) x v):
  ∃w',(WY #[t] ty #[v]).run X.P w=.ok (.tuple #[]) w'/\St X z (s.heap σ') a w' E pb:=by
 unfold A.zB at gf;have hs:s.heap s.σ=s:=rfl;split at gf
 ·injection gf with gf;subst gf
  simp only[an]at rx;subst rx;exact⟨w,by simp [WY,run_underlying ht],by rw[hs];exact h⟩
 ·injection gf with gf;subst gf
  simp only[an]at rx;obtain⟨q,rfl⟩:=rx;exact⟨w,by cases q<;>simp [WY,run_underlying ht],by rw[hs];exact h⟩
 ·injection gf with gf;subst gf
  simp only[an]at rx;obtain⟨q,cap,rfl,_⟩:=rx;exact⟨w,by cases q<;>simp [WY,run_underlying ht],by rw[hs];exact h⟩
 ·rename_i id g pL off len;simp only[an]at rx;obtain⟨hg,p,e1,e2,qa,cp,rfl,hcap,rx⟩:=rx;split at gf
  ·rename_i g' sz' es hs';split at gf
   ·rename_i hc;obtain⟨tU,jI,AL,FZ⟩:=hc;subst tU;subst jI;subst AL;obtain⟨j1,j2,j3,j4,⟨arr,bt,j5,j6⟩,j7,j8,j9⟩:=h.heap.blk id p _ e1 hs';obtain⟨k1,k2,k3⟩:=rx j1.symm;split at gf
    ·rename_i hl;subst hl;injection gf with gf;subst gf
     exact⟨w,by simp [WY,run_underlying ht],by rw[hs];exact h⟩
    ·rename_i hl;injection gf with gf;subst gf
     have xg:qa=⟨p.b,p.base+off*p.sz,μ⟩:=by
      rcases k2 with k2|k2
      ·omega
      ·exact k2
     have hsz:p.sz=i.size:=j3;have hzl:zs.length=i.size:=by rw[(pe (ctx z w E pb)).length];simpa using hzs
     have OA:aN (ctx z w E pb) (ZB len zs).flatten (Y7 zv.cells len).toList:=by rw[G7 hzs h0];exact(pe _).flatten len
     have WS:∀x∈(Y7 zv.cells len).toList,cR x=η:=by rw[G7 hzs h0];intro x hx;obtain⟨l,rV,o8⟩:=apY.1 hx;rw[X5]at rV;exact hone x (rV.2▸o8)
     have hlen:(Y7 zv.cells len).toList.length=len*i.size:=by rw[Tq,size_zeroCells,hzs]
     obtain⟨q1,q2⟩:=MA h (i:=off) (ys:=ZB len zs) e1 hs' j5 (by simpa using FZ) OA WS (λy hy=>by rw[(X5.1 hy).2];exact hzl) (by simpa using hlen);have hst:=Bz (P:=X.P) (b:=p.b) (off:=p.base+off*i.size) (t:=bt) (Y7 zv.cells len).toList 0 w arr j5 (by omega) WS;rw[YF]at q2;refine⟨_,?_,q2⟩;obtain⟨m,rfl⟩:∃m,len=m+1:=⟨len-1,by omega⟩
     rw[xg,hsz];simp [WY,run_underlying ht,hzv,hst]
   ·cases gf
  ·cases gf
 ·cases gf
structure aha (P : Program) (t u : TypeId) (vy : Value) (e : TypeId) (i : TypeInfo) (zv : Value) (n : Nat) (news : List Value) (w : World) : Prop where
 De:∀(w2:World)(ty:TypeId)(base:Option Addr)(sLen sCap:Nat),w2.heap=w.heap->sLen+n<=sCap->
  (ZV #[t,u] ty #[.slice base sLen sCap,vy]).run P w2=((match base with|some a=>storeCells (a.add (sLen*i.size)) news 0|none=>pure ()) >>= λ_=>pure (Value.slice base (sLen+n) sCap):Sem Value).run P w2
 new:∀(ty:TypeId)(base:Option Addr)(sLen sCap:Nat)(olds:List Value),(ZC i.size sLen (.slice base sLen sCap)).run P w.drew=.ok olds.toArray w.drew->sCap<sLen+n->sLen+n<=140737488355328 / i.bytes->
  (ZV #[t,u] ty #[.slice base sLen sCap,vy]).run P w=
   .ok (.slice (δ ⟨w.heap.size,0,μ⟩) (sLen+n) (grownCap w (sLen+n) sCap e)) (w.drew.alloc (.cells (olds.toArray++news.toArray++Y7 zv.cells (grownCap w (sLen+n) sCap e-(sLen+n))) e))
theorem TH{zv:Value}{sz:Nat}(hzs:zv.cells.size=sz)(h0:sz≠0)(hone:∀x∈zv.cells.toList,cR x=η)(n:Nat):∀x∈(Y7 zv.cells n).toList,cR x=η:=by rw[G7 hzs h0];intro x hx;obtain⟨l,rV,o8⟩:=apY.1 hx;rw[X5]at rV;exact hone x (rV.2▸o8)
theorem Iy{zv:Value}{sz:Nat}(hzs:zv.cells.size=sz)(h0:sz≠0)(hone:∀x∈zv.cells.toList,cR x=η){olds news:List Value}(h1:∀x∈olds,cR x=η)(h2:∀x∈news,cR x=η)(n:Nat):
  ∀x∈(olds.toArray++news.toArray++Y7 zv.cells n).toList,cR x=η:=by
 intro x hx;simp only[aqo,apX,fB]at hx;rcases hx with(hx|hx)|hx
 ·exact h1 x hx
 ·exact h2 x hx
 ·exact TH hzs h0 hone n x hx
theorem apr(h:St X z s a w E pb){t u e ty:TypeId}{i:TypeInfo}{zv:Value}(hzs:zv.cells.size=i.size)(h0:i.size≠0)(hone:∀x∈zv.cells.toList,cR x=η)
  {x:AV} {v vy:Value} {r:AV} {σ':Heap} {ys:List (List AV)} {news:List Value} (kM:aha X.P t u vy e i zv ys.length news w) (hn2:aN (ctx z w E pb) ys.flatten news) (mD:∀x∈news,cR x=η) (o9:news.length=ys.length*i.size) (rW:∀y∈ys,y.length=i.size)
  (hap:A.kS i.size (140737488355328 / i.bytes) x ys s.σ=δ (r,σ')) (rx:an (ctx z w E pb) x v):
  ∃k w' E',(ZV #[t,u] ty #[v,vy]).run X.P w=.ok k w'/\St X z (s.heap σ') a w' E' pb/\an (ctx z w' E' pb) r k:=by
 unfold A.kS at hap;have hne:ys≠[]->0<ys.length:=λk=>by cases ys with|nil=>exact absurd rfl k|cons y ys=>simp
 have Jg:∀k,(Y7 zv.cells k).size=k*i.size:=λk=>by rw[size_zeroCells,hzs]
 cases x<;>simp only at hap<;>first|(cases hap;done)|skip
 case aC=>
  simp only[an]at rx;subst rx;split at hap
  ·rename_i hys;subst hys;simp only[ψ,ir]at hap;obtain⟨rfl,rfl⟩:=hap;exact⟨.slice μ 0 0,w,E,by have:=kM.De w ty μ 0 0 rfl (by simp);simpa using this,h,by simp [an]⟩
  ·rename_i hys;have hpos:=hne hys;split at hap
   ·rename_i ahB;simp only[ψ,ir]at hap;obtain⟨rfl,rfl⟩:=hap;have hrun:=kM.new ty μ 0 0 [] (by simp [ZC]) (by omega) (by omega);simp only[Z3]at hrun;refine⟨_,_,E++[⟨w.heap.size,0,ys.length,i.size,(news.toArray++Y7 zv.cells (grownCap w ys.length 0 e-ys.length)).size⟩],hrun,?_,?_⟩
    ·have hst:=(h.grow (w':=w.drew) ((Below.refl _ _).drew)).we (.cells (#[]++news.toArray++Y7 zv.cells (grownCap w ys.length 0 e-ys.length)) e) (.arr ys.length i.size ys)
      ⟨w.heap.size,0,ys.length,i.size,(news.toArray++Y7 zv.cells (grownCap w ys.length 0 e-ys.length)).size⟩ rfl (λhx=>?_)
     ·exact hst
     ·have hb:(w.drew.alloc (.cells (#[]++news.toArray++Y7 zv.cells (grownCap w ys.length 0 e-ys.length)) e)).heap[w.heap.size]? =δ (.cells (#[]++news.toArray++Y7 zv.cells (grownCap w ys.length 0 e-ys.length)) e (0,0)):=(ZF w.drew _).1;refine⟨rfl,hpos,rfl,by omega,⟨_,_,hb,by simp⟩,by simp [o9],bp.Af rW ?_,xP hb (Iy hzs h0 hone (olds:=[]) (by simp) mD _)⟩;exact bp.sub (pre:=[]) (suf:=(Y7 zv.cells (grownCap w ys.length 0 e-ys.length)).toList) hb (by simp) (U3 (Ext.trans (uE ((Below.refl _ _).drew)) hx) _ _ hn2) mD
    ·simp only[an];have hlen:=h.heap.len;simp only[ctx]at hlen;refine⟨hpos,⟨w.heap.size,0,ys.length,i.size,_⟩,by show(E++[_])[s.σ.length]? =_;rw[<-hlen];exact yq,bR _,_,_,rfl,grownCap_ge _ _ _ _,λ_=>⟨rfl,.inr (by simp),?_⟩⟩;have:=grownCap_ge w ys.length 0 e;simp only[Yv,Jg,VQ,o9,Z3];rw[<-fQ];congr 1;omega
   ·cases hap
 case ez=>
  simp only[an]at rx;obtain⟨qb,rfl⟩:=rx;split at hap
  ·rename_i hys;subst hys;simp only[ψ,ir]at hap;obtain⟨rfl,rfl⟩:=hap;have hnews:news=[]:=by simpa using o9
   subst hnews;exact⟨.slice qb 0 0,w,E,by have:=kM.De w ty qb 0 0 rfl (by simp);cases qb<;>simpa [storeCells]using this,h,by simp [an]⟩
  ·rename_i hys;have hpos:=hne hys;split at hap
   ·rename_i ahB;simp only[ψ,ir]at hap;obtain⟨rfl,rfl⟩:=hap;have hrun:=kM.new ty qb 0 0 [] (by cases qb<;>simp [ZC,loadCells,loadCellsFrom]) (by omega) (by omega);simp only[Z3]at hrun;refine⟨_,_,E++[⟨w.heap.size,0,ys.length,i.size,(news.toArray++Y7 zv.cells (grownCap w ys.length 0 e-ys.length)).size⟩],hrun,?_,?_⟩
    ·have hst:=(h.grow (w':=w.drew) ((Below.refl _ _).drew)).we (.cells (#[]++news.toArray++Y7 zv.cells (grownCap w ys.length 0 e-ys.length)) e) (.arr ys.length i.size ys)
      ⟨w.heap.size,0,ys.length,i.size,(news.toArray++Y7 zv.cells (grownCap w ys.length 0 e-ys.length)).size⟩ rfl (λhx=>?_)
     ·exact hst
     ·have hb:(w.drew.alloc (.cells (#[]++news.toArray++Y7 zv.cells (grownCap w ys.length 0 e-ys.length)) e)).heap[w.heap.size]? =δ (.cells (#[]++news.toArray++Y7 zv.cells (grownCap w ys.length 0 e-ys.length)) e (0,0)):=(ZF w.drew _).1;refine⟨rfl,hpos,rfl,by omega,⟨_,_,hb,by simp⟩,by simp [o9],bp.Af rW ?_,xP hb (Iy hzs h0 hone (olds:=[]) (by simp) mD _)⟩;exact bp.sub (pre:=[]) (suf:=(Y7 zv.cells (grownCap w ys.length 0 e-ys.length)).toList) hb (by simp) (U3 (Ext.trans (uE ((Below.refl _ _).drew)) hx) _ _ hn2) mD
    ·simp only[an];have hlen:=h.heap.len;simp only[ctx]at hlen;refine⟨hpos,⟨w.heap.size,0,ys.length,i.size,_⟩,by show(E++[_])[s.σ.length]? =_;rw[<-hlen];exact yq,bR _,_,_,rfl,grownCap_ge _ _ _ _,λ_=>⟨rfl,.inr (by simp),?_⟩⟩;have:=grownCap_ge w ys.length 0 e;simp only[Yv,Jg,VQ,o9,Z3];rw[<-fQ];congr 1;omega
   ·cases hap
 case os vE og pL off len=>
  have QY:=rx;simp only[an]at rx;obtain⟨hg,p,e1,e2,qa,cp,rfl,hcap,rx⟩:=rx;split at hap
  ·rename_i g' sz' es hs;split at hap
   ·rename_i hc;obtain⟨tU,jI,AL,FZ,P6⟩:=hc;subst tU;subst jI;subst AL;obtain⟨j1,j2,j3,j4,⟨arr,bt,j5,j6⟩,j7,j8,j9⟩:=h.heap.blk vE p _ e1 hs;obtain⟨k1,k2,k3⟩:=rx j1.symm;split at hap
    ·rename_i hys;subst hys;simp only[ψ,ir]at hap;obtain⟨rfl,rfl⟩:=hap;have hnews:news=[]:=by simpa using o9
     subst hnews;exact⟨.slice (δ qa) len cp,w,E,by have:=kM.De w ty (δ qa) len cp rfl (by simpa using hcap);simpa [storeCells]using this,h,QY⟩
    ·rename_i hys;have hpos:=hne hys;have Oh:(off+cp)*i.size=p.o7-p.base:=by rw[<-j3];omega
     split at hap
     ·rename_i hin;simp only[ψ,ir]at hap;obtain⟨rfl,rfl⟩:=hap;obtain⟨q1,q2⟩:=MA h (i:=off+len) (ys:=ys) e1 hs j5 (by omega) hn2 mD rW o9
      have gf:es.length<=off+cp:=by
       have h1:es.length*i.size<=(off+cp)*i.size:=by rw[Oh];omega
       exact W0 h1 (by omega)
      have hroom:len+ys.length<=cp:=by omega
      have xg:qa=⟨p.b,p.base+off*p.sz,μ⟩:=by
       rcases k2 with k2|k2
       ·omega
       ·exact k2
      have hsz:p.sz=i.size:=j3;have hst:=Bz (P:=X.P) (b:=p.b) (off:=p.base+(off+len)*i.size) (t:=bt) news 0 w arr j5 (by omega) mD
      have hrun:(ZV #[t,u] ty #[.slice (δ qa) len cp,vy]).run X.P w=.ok (.slice (δ qa) (len+ys.length) cp) (w.dn p.b (.cells (eR arr (p.base+(off+len)*i.size) news) bt (0,0))):=by
       have yR:qa.add (len*i.size)=⟨p.b,p.base+(off+len)*i.size,μ⟩:=by rw[xg,nh,hsz];congr 1;rw[fQ];omega
       rw[kM.De w ty (δ qa) len cp rfl hroom];simp [yR,hst]
      refine⟨_,_,E,hrun,q2,?_⟩;simp only[an];exact⟨hg,p,e1,e2,qa,cp,rfl,hroom,λ_=>⟨hsz,.inr xg,k3⟩⟩
     simp only[ψ,ir]at hap;obtain⟨rfl,rfl⟩:=hap;have lQ:((es.drop off).take len).length=len:=by simp;omega
     by_cases hroom:len+ys.length<=cp
     ·-- room
      have xg:qa=⟨p.b,p.base+off*p.sz,μ⟩:=by
       rcases k2 with k2|k2
       ·omega
       ·exact k2
      have hsz:p.sz=i.size:=j3;have C7:(off+(len+ys.length))*i.size<=(off+cp)*i.size:=mQ _ (by omega);rw[hsz]at k3;have amX:(off+len)*i.size=off*i.size+len*i.size:=fQ _ _ _;have amF:(off+(len+ys.length))*i.size=(off+len)*i.size+ys.length*i.size:=by rw[<-kU,fQ]
      have hfit:p.base+(off+len)*i.size+0+news.length<=arr.size:=by rw[o9,j6];omega
      have hst:=Bz (P:=X.P) (b:=p.b) (off:=p.base+(off+len)*i.size) (t:=bt) news 0 w arr j5 hfit mD
      have hrun:(ZV #[t,u] ty #[.slice (δ qa) len cp,vy]).run X.P w=.ok (.slice (δ qa) (len+ys.length) cp) (w.dn p.b (.cells (eR arr (p.base+(off+len)*i.size) news) bt (0,0))):=by
       have yR:qa.add (len*i.size)=⟨p.b,p.base+(off+len)*i.size,μ⟩:=by rw[xg,nh,hsz];congr 1;omega
       rw[kM.De w ty (δ qa) len cp rfl hroom];simp [yR,hst]
      have hlt:p.b<w.heap.size:=h.heap.lt (p:=p) (ct e1);have hh:=sV (w:=w) (.cells (eR arr (p.base+(off+len)*i.size) news) bt (0,0)) hlt;have yg:p.base+(off+len)*i.size+news.length<=arr.size:=by omega
      have C9:=h.move (id:=vE) (p:=p) (p':=⟨p.b,p.base+off*i.size,og+ys.length,i.size,p.o7⟩) (w':=w.dn p.b (.cells (eR arr (p.base+(off+len)*i.size) news) bt (0,0))) (blk:=.arr (og+ys.length) i.size ((es.drop off).take len++ys)) e1
       ⟨by omega,by show p.g<og+ys.length;omega⟩ rfl rfl rfl (by rw[zu];exact bR _) (λb hb _=>vL _ (λe=>hb e.symm)) (.inl rfl) (λhx=>by
        have hcell:∀j,(w.dn p.b (.cells (eR arr (p.base+(off+len)*i.size) news) bt (0,0))).cell? ⟨p.b,j,μ⟩=(eR arr (p.base+(off+len)*i.size) news)[j]? :=λj=>uq hh
        have hold:∀j,w.cell? ⟨p.b,j,μ⟩=arr[j]? :=λj=>uq j5
        refine⟨rfl,by show 0<og+ys.length;omega,rfl,by omega,⟨_,_,hh,by rw[MN _ _ _ yg];exact j6⟩,?_,?_,xP hh (Cr (j9 _ _ _ j5) mD)⟩
        ·simp only[PU,lQ,fQ];omega
        ·refine bC.append (bC.keep hx ((j8.drop off).take len) λj F1 hj2=>?_) ?_
         ·rw[lQ]at hj2;replace F1:p.base+off*i.size<=j:=F1;replace hj2:j<p.base+off*i.size+len*i.size:=hj2;show(w.dn p.b _).cell? _=w.cell? _;rw[hcell,hold,Cv _ _ _ yg,aF (by omega)]
         ·rw[lQ];refine bp.Af rW ?_;refine bp.vD hh (U3 hx _ _ hn2) mD λj hj=>?_
          show(eR arr (p.base+(off+len)*i.size) news)[p.base+off*i.size+len*i.size+j]? =_;rw[Cv _ _ _ yg,aH (by omega)]
          congr 1;omega)
      refine⟨_,_,_,hrun,C9.1,?_⟩;simp only[an];have hid:vE<E.length:=(bG.1 e1).1;refine⟨by omega,⟨p.b,p.base+off*i.size,og+ys.length,i.size,p.o7⟩,by simp [ctx,hid],bR _,qa,cp,rfl,hroom,λ_=>⟨rfl,.inr (by rw[xg,hsz];simp),?_⟩⟩;simp only[Z3];rw[fQ]at k3;omega
     ·have hel:Vl i.size (.os vE og i.size off len) s.σ=δ ((es.drop off).take len):=by simp only[Vl,hs];rw[aH (by simp;omega)]
      obtain⟨q2,aiS,olds,wU,F2,Qk,F3,F4,Ql⟩:=Mf (P:=X.P) h.heap hel QY;rw[lQ]at F2 F4;injection wU with e2a e2b e2c
      have hrun:=kM.new ty _ _ _ _ (F2 w.drew rfl) (by omega) P6;obtain⟨nc,hnc⟩:∃nc,nc=grownCap w (len+ys.length) cp e:=⟨_,rfl⟩
      have EM:len+ys.length<=nc:=by rw[hnc];exact grownCap_ge _ _ _ _
      rw[<-hnc]at hrun;obtain⟨row,hrow⟩:∃row,row=olds.toArray++news.toArray++Y7 zv.cells (nc-(len+ys.length)):=⟨_,rfl⟩
      have E6:row.size=nc*i.size:=by rw[hrow];simp only[Yv,Jg,VQ,o9,F4];rw[<-fQ,<-fQ];congr 1;omega
      have hrl:row.toList=olds++news++(Y7 zv.cells (nc-(len+ys.length))).toList:=by rw[hrow];simp
      rw[<-hrow]at hrun;have hb:(w.drew.alloc (.cells row e)).heap[w.heap.size]? =δ (.cells row e (0,0)):=(ZF w.drew _).1
      have C9:=h.move (id:=vE) (p:=p) (p':=⟨w.heap.size,0,og+ys.length,i.size,row.size⟩) (w':=w.drew.alloc (.cells row e)) (blk:=.arr (og+ys.length) i.size ((es.drop off).take len++ys)) e1
       ⟨by omega,by show p.g<og+ys.length;omega⟩ rfl rfl rfl (by simp) (λb hb' hlt=>by rw[Below.heap_alloc w.drew _ b (by simpa using hlt)];rfl) (.inr ⟨bR _,by simp⟩) (λhx=>by
        refine⟨rfl,by show 0<og+ys.length;omega,rfl,by omega,⟨_,_,hb,rfl⟩,?_,bp.Af (λx hx'=>?_) ?_,xP hb (by rw[hrow];exact Iy hzs h0 hone F3 mD _)⟩
        ·simp only[PU,lQ,Z3,E6];exact mQ _ EM
        ·rcases fB.1 hx' with hx'|hx'
         ·exact Ql x hx'
         ·exact rW x hx'
        ·rw[aqn]
         exact bp.sub (pre:=[]) (vs:=olds++news) (suf:=(Y7 zv.cells (nc-(len+ys.length))).toList) hb (by rw[hrl];simp) (U3 hx _ _ (Qk.append hn2)) (λx hx'=>by
          rcases fB.1 hx' with hx'|hx'
          ·exact F3 x hx'
          ·exact mD x hx'))
      refine⟨_,_,_,hrun,C9.1,?_⟩;simp only[an];have hid:vE<E.length:=(bG.1 e1).1;refine⟨by omega,⟨w.heap.size,0,og+ys.length,i.size,row.size⟩,by simp [ctx,hid],bR _,_,_,rfl,EM,λ_=>⟨rfl,.inr (by simp),?_⟩⟩;simp only[Z3,E6]
   ·cases hap
  ·rename_i g' sz' es hs;split at hap
   ·rename_i hc;obtain⟨tU,jI,AL,FZ,P6,hc6⟩:=hc;subst tU;subst jI;subst AL;obtain⟨j1,j2,j3,j4,⟨arr,bt,j5,j6⟩,j7,j8,j9⟩:=h.heap.blk vE p _ e1 hs;obtain⟨k1,k2,k3⟩:=rx j1.symm;simp only[ψ,ir]at hap;obtain⟨rfl,rfl⟩:=hap;have lQ:((es.drop off).take len).length=len:=by simp;omega
    have Oh:(off+cp)*i.size=es.length*i.size:=by rw[<-j3]at j7 ⊢;omega
    have hco:off+cp=es.length:=Nat.eq_of_mul_eq_mul_right j4 Oh
    have hel:Vl i.size (.os vE og i.size off len) s.σ=δ ((es.drop off).take len):=by simp only[Vl,hs];rw[aH (by simp;omega)]
    obtain⟨q2,aiS,olds,wU,F2,Qk,F3,F4,Ql⟩:=Mf (P:=X.P) h.heap hel QY;rw[lQ]at F2 F4;injection wU with e2a e2b e2c
    have hrun:=kM.new ty _ _ _ _ (F2 w.drew rfl) (by omega) P6;obtain⟨nc,hnc⟩:∃nc,nc=grownCap w (len+ys.length) cp e:=⟨_,rfl⟩
    have EM:len+ys.length<=nc:=by rw[hnc];exact grownCap_ge _ _ _ _
    rw[<-hnc]at hrun;obtain⟨row,hrow⟩:∃row,row=olds.toArray++news.toArray++Y7 zv.cells (nc-(len+ys.length)):=⟨_,rfl⟩
    have E6:row.size=nc*i.size:=by rw[hrow];simp only[Yv,Jg,VQ,o9,F4];rw[<-fQ,<-fQ];congr 1;omega
    have hrl:row.toList=olds++news++(Y7 zv.cells (nc-(len+ys.length))).toList:=by rw[hrow];simp
    rw[<-hrow]at hrun;have hb:(w.drew.alloc (.cells row e)).heap[w.heap.size]? =δ (.cells row e (0,0)):=(ZF w.drew _).1
    have hst:=(h.grow (w':=w.drew) ((Below.refl _ _).drew)).we (.cells row e) (.arr (len+ys.length) i.size ((es.drop off).take len++ys))
      ⟨w.heap.size,0,len+ys.length,i.size,row.size⟩ rfl (λhx=>by
      refine⟨rfl,by show 0<len+ys.length;omega,rfl,by omega,⟨_,_,hb,rfl⟩,?_,bp.Af (λx hx'=>?_) ?_,xP hb (by rw[hrow];exact Iy hzs h0 hone F3 mD _)⟩
      ·simp only[PU,lQ,Z3,E6];exact mQ _ EM
      ·rcases fB.1 hx' with hx'|hx'
       ·exact Ql x hx'
       ·exact rW x hx'
      ·rw[aqn]
       exact bp.sub (pre:=[]) (vs:=olds++news) (suf:=(Y7 zv.cells (nc-(len+ys.length))).toList) hb (by rw[hrl];simp) (U3 (Ext.trans (uE ((Below.refl _ _).drew)) hx) _ _ (Qk.append hn2)) (λx hx'=>by
        rcases fB.1 hx' with hx'|hx'
        ·exact F3 x hx'
        ·exact mD x hx'))
    refine⟨_,_,_,hrun,hst,?_⟩;simp only[an];have hlen:=h.heap.len;simp only[ctx]at hlen;refine⟨by omega,⟨w.heap.size,0,len+ys.length,i.size,row.size⟩,by show(E++[_])[s.σ.length]? =_;rw[<-hlen];exact yq,bR _,_,_,rfl,EM,λ_=>⟨rfl,.inr (by simp),?_⟩⟩;simp only[Z3,E6]
   ·cases hap
  ·cases hap
theorem adE(h:St X z s a w E pb){t u e e' ty:TypeId}{i:TypeInfo}{zv:Value}(ht:X.P.underlying t=δ (.slice e))(hu:X.P.underlying u=δ (.slice e'))(hi:X.P.info? e=δ i)(hz:i.zero=δ zv)(hzs:zv.cells.size=i.size)(h0:i.size≠0)(hb0:i.bytes≠0)(hone:∀x∈zv.cells.toList,cR x=η)
  {x y:AV} {v vy:Value} {r:AV} {σ':Heap} (hap:ZI i.size (140737488355328 / i.bytes) x y s.σ=δ (r,σ')) (rx:an (ctx z w E pb) x v) (ry:an (ctx z w E pb) y vy):
  ∃k w' E',(ZV #[t,u] ty #[v,vy]).run X.P w=.ok k w'/\St X z (s.heap σ') a w' E' pb/\an (ctx z w' E' pb) r k:=by
 unfold ZI at hap;obtain⟨ys,hy,hap⟩:=bD.1 hap;obtain⟨q,cap,news,rfl,hn1,hn2,mD,o9,rW⟩:=Mf (P:=X.P) h.heap hy ry;refine apr h hzs h0 hone ⟨λw2 ty base sLen sCap hw hr=>?_,λty base sLen sCap olds ho hg hm=>aaA ht hu hi hz hb0 ho (hn1 w.drew rfl) hg hm⟩ hn2 mD o9 rW hap rx;cases base<;>simp [ZV,run_underlying ht,run_underlying hu,sizeOf,typeInfo,hi,T4,hn1 w2 hw,hr]
theorem RE(zs:Array Value):Y7 zs 0=#[]:=by apply mz.1;apply tE;rw[Tq,size_zeroCells];simp
theorem aaz{P:Program}{t u e ty:TypeId}{k k':IntKind}{i:TypeInfo}{zv:Value}(ht:P.underlying t=δ (.slice e))(hu:P.underlying u=δ (.int k))(hi:P.info? e=δ i)(hz:i.zero=δ zv)(hb0:i.bytes≠0)(h0:i.size≠0)
  {base:Option Addr} {sLen sCap n:Nat} {w2:World} (hm:n<=140737488355328 / i.bytes) (hr:sLen+n<=sCap):
  (ZV #[t,u] ty #[.slice base sLen sCap,.int k' n]).run P w2=((match base with|some a=>storeCells (a.add (sLen*i.size)) (Y7 zv.cells n).toList 0|none=>pure ()) >>= λ_=>pure (Value.slice base (sLen+n) sCap):Sem Value).run P w2:=by
 have IZ:n*i.bytes<=140737488355328:=by have:=mQ i.bytes hm;have:=apZ 140737488355328 i.bytes;omega
 have hle:n<=n*i.bytes:=aqQ _ (by omega);have hw:Θ.wrap (n:Int)=(n:Int):=by rw[IntKind.wrap_i64];omega
 have hl:¬((281474976710656:Int)<(n:Int)*(i.bytes:Int)):=by
  have:(n:Int)*(i.bytes:Int)=((n*i.bytes:Nat):Int):=by simp
  omega
 have hlf:¬((n:Int)<0):=by omega
 by_cases hn0:n=0
 ·subst hn0;have hw0:Θ.wrap 0=0:=by decide
  have hr':sLen<=sCap:=by omega
  cases base<;>simp [ZV,run_underlying ht,run_underlying hu,sizeOf,typeInfo,hi,asInt,asIntOf,hw0,hr',RE]
 ·have Da:n*i.size≠0:=Nat.mul_ne_zero hn0 h0;cases base<;>simp [ZV,run_underlying ht,run_underlying hu,sizeOf,typeInfo,zeroValue,hi,hz,asInt,asIntOf,hw,hl,hlf,hr,Da]
theorem aal{P:Program}{t u e ty:TypeId}{k k':IntKind}{i:TypeInfo}{zv:Value}(ht:P.underlying t=δ (.slice e))(hu:P.underlying u=δ (.int k))(hi:P.info? e=δ i)(hz:i.zero=δ zv)(hb0:i.bytes≠0)(h0:i.size≠0)
  {base:Option Addr} {sLen sCap n:Nat} {olds:List Value} (hold:(ZC i.size sLen (.slice base sLen sCap)).run P w.drew=.ok olds.toArray w.drew)
  (hg:sCap<sLen+n) (hm:sLen+n<=140737488355328 / i.bytes):
  (ZV #[t,u] ty #[.slice base sLen sCap,.int k' n]).run P w=
   .ok (.slice (δ ⟨w.heap.size,0,μ⟩) (sLen+n) (grownCap w (sLen+n) sCap e)) (w.drew.alloc (.cells (olds.toArray++(Y7 zv.cells n).toList.toArray++Y7 zv.cells (grownCap w (sLen+n) sCap e-(sLen+n))) e)):=by
 have IZ:(sLen+n)*i.bytes<=140737488355328:=by have:=mQ i.bytes hm;have:=apZ 140737488355328 i.bytes;omega
 have hle:sLen+n<=(sLen+n)*i.bytes:=aqQ _ (by omega);have h48:=growslice_fits hg IZ;have hn:¬(sLen+n<=sCap):=by omega
 have E1:¬(281474976710656<Builtin.nextslicecap (sLen+n) sCap*i.bytes):=by omega
 have hw:Θ.wrap (n:Int)=(n:Int):=by rw[IntKind.wrap_i64];omega
 have hnb:n*i.bytes<=(sLen+n)*i.bytes:=mQ _ (by omega)
 have hl:¬((281474976710656:Int)<(n:Int)*(i.bytes:Int)):=by
  have:(n:Int)*(i.bytes:Int)=((n*i.bytes:Nat):Int):=by simp
  omega
 have hlf:¬((n:Int)<0):=by omega
 have AP:¬((9223372036854775807:Int)<(sLen:Int)+(n:Int)):=by omega
 by_cases hn0:n=0
 ·subst hn0;have hw0:Θ.wrap 0=0:=by decide
  have aje:¬((9223372036854775807:Int)<(sLen:Int)):=by omega
  simp only[Nat.add_zero]at hn E1 ⊢;simp [ZV,run_underlying ht,run_underlying hu,sizeOf,typeInfo,zeroValue,hi,hz,asInt,asIntOf,hw0,hn,E1,hb0,XF,hold,newRow,grownCap,RE,aje]
 ·have Da:n*i.size≠0:=Nat.mul_ne_zero hn0 h0;simp [ZV,run_underlying ht,run_underlying hu,sizeOf,typeInfo,zeroValue,hi,hz,asInt,asIntOf,hw,hl,hlf,hn,Da,E1,hb0,XF,hold,newRow,grownCap,AP]
theorem acE(h:St X z s a w E pb){t u e ty:TypeId}{kk:IntKind}{i:TypeInfo}{zv:Value}{zs:List AV}(ht:X.P.underlying t=δ (.slice e))(hu:X.P.underlying u=δ (.int kk))(hi:X.P.info? e=δ i)(hz:i.zero=δ zv)(hzs:zv.cells.size=i.size)(h0:i.size≠0)(hb0:i.bytes≠0)
  (pe:∀c,aN c zs zv.cells.toList) (hone:∀x∈zv.cells.toList,cR x=η)
  {x y:AV} {v vy:Value} {r:AV} {σ':Heap} (hap:A.tg i.size (140737488355328 / i.bytes) zs x y s.σ=δ (r,σ')) (rx:an (ctx z w E pb) x v) (ry:an (ctx z w E pb) y vy):
  ∃k w' E',(ZV #[t,u] ty #[v,vy]).run X.P w=.ok k w'/\St X z (s.heap σ') a w' E' pb/\an (ctx z w' E' pb) r k:=by
 unfold A.tg at hap;split at hap
 ·rename_i k n;simp only[an]at ry;subst ry;split at hap
  ·rename_i hn;obtain⟨hn1,hn2⟩:=hn;obtain⟨m,rfl⟩:∃m:Nat,n=m:=⟨n.toNat,by omega⟩
   simp only[Int.toNat_natCast]at hap;have hzl:zs.length=i.size:=by rw[(pe (ctx z w E pb)).length];simpa using hzs
   have hm:m<=140737488355328 / i.bytes:=by omega
   refine apr (e:=e) h hzs h0 hone (ys:=ZB m zs) (news:=(Y7 zv.cells m).toList) ⟨λw2 ty base sLen sCap hw hr=>?_,λty base sLen sCap olds ho hg hmm=>?_⟩ ?_ (TH hzs h0 hone m) ?_ (λy hy=>by rw[(X5.1 hy).2];exact hzl) hap rx
   ·rw[YF]at hr ⊢;exact aaz ht hu hi hz hb0 h0 hm hr
   ·rw[YF]at hg hmm ⊢;exact aal ht hu hi hz hb0 h0 ho hg hmm
   ·rw[G7 hzs h0];exact(pe _).flatten m
   ·rw[Tq,size_zeroCells,hzs,YF]
  ·cases hap
 ·cases hap
theorem afB(h:St X z s a w E pb){t u e e' ty:TypeId}{i:TypeInfo}(ht:X.P.underlying t=δ (.slice e))(hu:X.P.underlying u=δ (.slice e'))(hi:X.P.info? e=δ i)(h0:i.size≠0)
  {x y:AV} {v vy:Value} {r:AV} {σ':Heap} (nP:A.NA i.size x y s.σ=δ (r,σ')) (rx:an (ctx z w E pb) x v) (ry:an (ctx z w E pb) y vy):
  ∃k w',(Wz #[t,u] ty #[v,vy]).run X.P w=.ok k w'/\St X z (s.heap σ') a w' E pb/\an (ctx z w' E pb) r k:=by
 unfold A.NA at nP;obtain⟨ys,hy,nP⟩:=bD.1 nP;obtain⟨q,cap,news,rfl,hn1,hn2,mD,o9,rW,YQ⟩:=SC (P:=X.P) h.heap hy ry;have hs0:s.heap s.σ=s:=rfl
 have F0:(ZC i.size 0 (.slice q ys.length cap)).run X.P w=.ok #[] w:=by have:=YQ 0 (jK _) w rfl;simpa using this
 cases x<;>simp only at nP<;>first|(cases nP;done)|skip
 case aC=>
  simp only[ψ,ir]at nP;obtain⟨rfl,rfl⟩:=nP;simp only[an]at rx;subst rx;exact⟨goInt 0,w,by simp [Wz,run_underlying ht,sizeOf,typeInfo,hi,T4,F0,Nat.min],by rw[hs0];exact h,by simp [an,goInt]⟩
 case ez=>
  simp only[ψ,ir]at nP;obtain⟨rfl,rfl⟩:=nP;simp only[an]at rx;obtain⟨qb,rfl⟩:=rx;exact⟨goInt 0,w,by cases qb<;>simp [Wz,run_underlying ht,sizeOf,typeInfo,hi,T4,F0,storeCells],by rw[hs0];exact h,by simp [an,goInt]⟩
 case os=>
  rename_i vE og pL off len amZ;simp only[an]at rx;obtain⟨hg,p,e1,e2,qa,cp,rfl,hcap,rx⟩:=rx;split at nP
  ·rename_i g' sz' es hs;split at nP
   ·rename_i hc;obtain⟨tU,jI,AL,FZ⟩:=hc;subst tU;subst jI;subst AL;obtain⟨j1,j2,j3,j4,⟨arr,bt,j5,j6⟩,j7,j8,j9⟩:=h.heap.blk vE p _ e1 hs;obtain⟨k1,k2,k3⟩:=rx j1.symm;have hmin:Nat.min ys.length len=(ys.take len).length:=by rw[qC];exact Nat.min_comm _ _
    split at nP
    ·rename_i hz;simp only[ψ,ir]at nP;obtain⟨rfl,rfl⟩:=nP;have hm0:Nat.min ys.length len=0:=by rcases hz with k|k<;>rw[k]<;>simp [Nat.min_def]
     refine⟨goInt 0,w,?_,by rw[hs0];exact h,by simp [an,goInt]⟩;simp [Wz,run_underlying ht,sizeOf,typeInfo,hi,T4,hm0,F0,storeCells]
    ·rename_i hz;simp only[ψ,ir]at nP;obtain⟨rfl,rfl⟩:=nP
     have xg:qa=⟨p.b,p.base+off*p.sz,μ⟩:=by
      rcases k2 with k2|k2
      ·omega
      ·exact k2
     have hsz:p.sz=i.size:=j3;obtain⟨n,hn⟩:∃n,n=(ys.take len).length:=⟨_,rfl⟩
     have hnl:n<=ys.length/\n<=len:=by rw[hn,qC];omega
     have JD:=YQ n hnl.1 w rfl;have hyt:ys.take len=ys.take n:=by rw[hn,qC];rw[List.take_eq_take_iff];omega
     have ahA:(news.take (n*i.size)).length=n*i.size:=by rw[qC,o9];exact Nat.min_eq_left (mQ _ hnl.1)
     have OA:aN (ctx z w E pb) (ys.take n).flatten (news.take (n*i.size)):=by have:(ys.take n).flatten=ys.flatten.take (n*i.size):=aoc rW hnl.1;rw[this];exact hn2.take _
     obtain⟨q1,q2⟩:=MA h (i:=off) (ys:=ys.take n) e1 hs j5 (by rw[qC];omega) OA (λx hx=>mD x (yp hx)) (λy hy=>rW y (yp hy)) (by rw[ahA,qC];congr 1;omega);have hst:=Bz (P:=X.P) (b:=p.b) (off:=p.base+off*i.size) (t:=bt) (news.take (n*i.size)) 0 w arr j5 (by omega) (λx hx=>mD x (yp hx));rw[hyt];have hln:(ys.take n).length=n:=by rw[qC];omega
     refine⟨goInt n,_,?_,q2,?_⟩
     ·rw[xg,hsz];simp [Wz,run_underlying ht,sizeOf,typeInfo,hi,T4,hmin,<-hn,JD,hst]
     ·rw[hln];simp [an,goInt]
   ·cases nP
  ·cases nP
theorem all_some{R:Type}{p:Nat->Prop}{k:Nat->Option R}{r:R}(h:A.all p k=δ r){n:Nat}(hn:p n):k n=δ r:=by
 unfold A.all at h;split at h
 ·rename_i hx;injection h with h
  rw[<-h];exact SA hx n hn
 ·cases h
theorem afw(h:St X z s a w E pb){R:Type}{k:Nat->Heap->Option R}{r:R}{t e ty:TypeId}(ht:X.P.underlying t=δ (.slice e)){x:AV}{v:Value}(hk:A.yw x s.σ k=δ r)(rx:an (ctx z w E pb) x v):
  ∃c σ',k c σ'=δ r/\(apE #[t] ty #[v]).run X.P w=.ok (.int Θ (c:Int)) w/\St X z (s.heap σ') a w E pb:=by
 unfold A.yw at hk;cases x<;>simp only at hk<;>first|(cases hk;done)|skip
 rename_i id g sz off len;simp only[an]at rx;obtain⟨hg,p,e1,e2,qa,cp,rfl,hcap,rx⟩:=rx;split at hk
 ·rename_i g' sz' es hs;split at hk
  ·rename_i hc;obtain⟨tU,jI,FZ⟩:=hc;subst tU;subst jI;obtain⟨j1,j2,j3,j4,⟨arr,bt,j5,j6⟩,j7,j8,j9⟩:=h.heap.blk id p _ e1 hs;obtain⟨k1,k2,k3⟩:=rx j1.symm;rw[k1]at k3;have hle:es.length<=off+cp:=W0 (show es.length*sz<=(off+cp)*sz by omega) j4;have hk2:=all_some hk (n:=cp) ⟨hcap,hle⟩;by_cases YY:cp=len
   ·rw[aH YY]at hk2;refine⟨cp,_,hk2,by simp [apE,run_underlying ht,goInt],?_⟩;have Df:w.heap[p.b]? =δ (.cells arr bt (0,0)):=j5;have hel:es.length=off+cp:=by omega
    have hst:=h.uR e1 (.cells arr bt (0,0)) (.qD g sz es) (λhx=>by
     have hsame:w.dn p.b (.cells arr bt (0,0))=w:=Ed Df;rw[hsame]
     exact⟨j1,j2,j3,j4,⟨arr,bt,j5,j6⟩,by rw[hel];omega,j8,j9⟩)
    rw[Ed Df]at hst;exact hst
   rw[aF YY]at hk2;refine⟨cp,_,hk2,by simp [apE,run_underlying ht,goInt],?_⟩;have Df:w.heap[p.b]? =δ (.cells arr bt (0,0)):=j5
   have hst:=h.uR e1 (.cells arr bt (0,0)) (.arr g sz (es++ZB (off+cp-es.length) (ZB sz .undef))) (λhx=>by
    have hsame:w.dn p.b (.cells arr bt (0,0))=w:=Ed Df;rw[hsame];refine⟨j1,j2,j3,j4,⟨arr,bt,j5,j6⟩,?_,bC.append j8 (bC.of λj x hj=>?_),j9⟩
    ·rw[PU,YF,show es.length+(off+cp-es.length)=off+cp by omega];omega
    ·have hjl:=(bG.1 hj).1;rw[YF]at hjl;have hx':=ct hj;rw[X5]at hx';rw[hx'.2];refine⟨YF,aqy λm av hm=>?_⟩;have hml:=(bG.1 hm).1;rw[YF]at hml;have AK:=ct hm;rw[X5]at AK;have hmul:(es.length+(j+1))*sz<=(off+cp)*sz:=mQ _ (by omega);rw[fQ,fQ]at hmul;have hin:p.base+es.length*sz+j*sz+m<arr.size:=by rw[j6];omega
     refine⟨arr[p.base+es.length*sz+j*sz+m],?_,j9 _ _ _ j5 _ (by simp),by rw[AK.2];simp [an]⟩;show w.cell? _=_
     rw[uq Df,tF hin])
   rw[Ed Df]at hst;exact hst
  ·cases hk
 ·cases hk
end
end
section
open Go.RowKit
section
variable {c : RC}
theorem H6{k:Nat}{x y:AV}{v u:Value}(n:Nat)(h:A.mW k x y=δ η)(r:an c x v)(q:an c y u):Yh n u v=η:=by
 unfold A.mW at h;split at h
 ·unfold A.nO at h;split at h
  ·simp only[an]at r q;split at h
   ·injection h with h;subst_vars;simp at h;subst h;simp [Yh]
   ·cases h
  ·cases h
 ·unfold A.vA at h;split at h
  ·simp only[an]at r q;injection h with h;subst_vars;simp at h;subst h;simp [Yh]
  ·cases h
 ·unfold A.qc at h;split at h
  ·simp only[an]at r q;injection h with h;subst_vars;simp only[Yh];rename_i a b
   rw[ER]at h ⊢;rw[beq_iff_eq]at h ⊢;exact h.symm
  ·cases h
 ·cases h
theorem SD(n:Nat):∀{ks:List Nat}{xs ys:List AV}{vs us:List Value},Ud ks xs ys=δ η->aN c xs vs->aN c ys us->us.length=vs.length/\((us.zip vs).all λ(p:Value×Value)=>Yh n p.1 p.2)=η
 |[],[],[],vs,us,_,r,q=>by simp only[aN]at r q;subst r;subst q;simp
 |[],[],_::_,_,_,h,_,_=>by simp [Ud]at h
 |[],_::_,_,_,_,h,_,_=>by simp [Ud]at h
 |_::_,[],_,_,_,h,_,_=>by simp [Ud]at h
 |_::_,_::_,[],_,_,h,_,_=>by simp [Ud]at h
 |k::ks,x::xs,y::ys,vs,us,h,r,q=>by simp only[Ud]at h;obtain⟨p,h1,h2⟩:=bD.1 h;obtain⟨p',h3,h4⟩:=cO.1 h2;simp only[fy]at h4;obtain⟨rfl,rfl⟩:=h4;simp only[aN]at r q;obtain⟨v,vs',rfl,r1,r2⟩:=r;obtain⟨u,us',rfl,q1,q2⟩:=q;obtain⟨i1,i2⟩:=SD n h3 r2 q2;exact⟨by simp [i1],by simp [H6 n h1 r1 q1];simpa using i2⟩
theorem aeN{e:A.EK}{x y:AV}{v u:Value}(hk:A.fP e x=η)(h:Yt e x y=δ η)(r:an c x v)(q:an c y u):Yh 10000 u v=η:=by
 cases e<;>simp only[Yt]at h;case i=>exact H6 (k:=0) _ h r q
 case b=>exact H6 (k:=1) _ h r q
 case z=>exact H6 (k:=2) _ h r q
 case p=>cases x<;>simp [A.fP]at hk
 case s ks=>
  split at h
  ·simp only[an]at r q;obtain⟨vs,rfl,r1,_⟩:=r;obtain⟨us,rfl,q1,_⟩:=q;obtain⟨i1,i2⟩:=SD 9999 h r1 q1;show Yh (9999+1) _ _=η;simp only[Yh,fy];exact⟨by simpa using i1,i2⟩
  ·cases h
theorem Wo{e:A.EK}{k v:AV}:∀{bn iY:List (AV×AV)}{i:Nat}{ix:Option Nat},A.upd e k v bn=δ iY->A.qz e k bn i=δ ix->
  (ix=μ/\iY=bn++[(k,v)])\/∃j p,ix=δ (i+j)/\bn[j]? =δ p/\Yt e k p.1=δ η/\iY=bn.set j (k,v)
 |[],iY,i,ix,h,g=>by simp only[A.upd,A.qz]at h g;injection h with h;injection g with g;exact .inl ⟨g.symm,by simpa using h.symm⟩
 |(k',v')::bn,iY,i,ix,h,g=>by
  simp only[A.upd,A.qz]at h g;obtain⟨b,h1,h2⟩:=bD.1 h;rw[h1,aO]at g;cases b
  ·simp only[bk]at h2 g;obtain⟨e2,h3,h4⟩:=cO.1 h2;rcases Wo h3 g with⟨rfl,rfl⟩|⟨j,p,rfl,k1,k2,rfl⟩
   ·exact .inl ⟨rfl,by simpa using h4.symm⟩
   ·exact .inr ⟨j+1,p,by congr 1;omega,by simpa using k1,k2,by simpa using h4.symm⟩
  ·simp only[bz]at h2 g;injection h2 with h2;injection g with g
   exact .inr ⟨0,(k',v'),g.symm,rfl,h1,by simpa using h2.symm⟩
theorem aof{e:A.EK}{k:AV}:∀{bn iY:List (AV×AV)}{i:Nat}{ix:Option Nat},A.del e k bn=δ iY->A.qz e k bn i=δ ix->
  (ix=μ/\iY=bn)\/∃j,ix=δ (i+j)/\j<bn.length/\iY=bn.eraseIdx j
 |[],iY,i,ix,h,g=>by simp only[A.del,A.qz]at h g;injection h with h;injection g with g;exact .inl ⟨g.symm,h.symm⟩
 |(k',v')::bn,iY,i,ix,h,g=>by
  simp only[A.del,A.qz]at h g;obtain⟨b,h1,h2⟩:=bD.1 h;rw[h1,aO]at g;cases b
  ·simp only[bk]at h2 g;obtain⟨e2,h3,h4⟩:=cO.1 h2;rcases aof h3 g with⟨rfl,rfl⟩|⟨j,rfl,k1,rfl⟩
   ·exact .inl ⟨rfl,by simpa using h4.symm⟩
   ·exact .inr ⟨j+1,by congr 1;omega,by simpa using k1,by simpa using h4.symm⟩
  ·simp only[bz]at h2 g;injection h2 with h2;injection g with g
   exact .inr ⟨0,g.symm,by simp,by simpa using h2.symm⟩
theorem TA{e:A.EK}{k v:AV}:∀{bn iY:List (AV×AV)},A.upd e k v bn=δ iY->∃r,ZE e k bn=δ r
 |[],iY,_=>⟨μ,rfl⟩
 |(k',v')::bn,iY,g=>by
  simp only[A.upd]at g;obtain⟨b,h1,h2⟩:=bD.1 g;cases b
  ·obtain⟨e2,h3,_⟩:=cO.1 (by simpa using h2);obtain⟨r,hr⟩:=TA h3;exact⟨r,by simp [ZE,h1,hr]⟩
  ·exact⟨δ v',by simp [ZE,h1]⟩
theorem Tz{e:A.EK}{k:AV}:∀{bn iY:List (AV×AV)},A.del e k bn=δ iY->∃r,ZE e k bn=δ r
 |[],iY,_=>⟨μ,rfl⟩
 |(k',v')::bn,iY,g=>by
  simp only[A.del]at g;obtain⟨b,h1,h2⟩:=bD.1 g;cases b
  ·obtain⟨e2,h3,_⟩:=cO.1 (by simpa using h2);obtain⟨r,hr⟩:=Tz h3;exact⟨r,by simp [ZE,h1,hr]⟩
  ·exact⟨δ v',by simp [ZE,h1]⟩
theorem bW.nth:∀{l:List (AV×AV)}{es:List MapEntry}{i:Nat}{p:AV×AV},bW c l es->l[i]? =δ p->∃e,es[i]? =δ e/\an c p.1 e.key/\an c p.2 e.val
 |[],es,i,p,h,k=>by simp at k
 |(a,b)::l,es,0,p,h,k=>by obtain⟨e,es',rfl,h1,h2,_⟩:=h;simp at k;subst k;exact⟨e,rfl,h1,h2⟩
 |(a,b)::l,es,i+1,p,h,k=>by obtain⟨e,es',rfl,_,_,h3⟩:=h;simp at k;obtain⟨e',k1,k2⟩:=bW.nth h3 k;exact⟨e',by simpa using k1,k2⟩
theorem bW.set{k v:AV}{key val:Value}(rk:an c k key)(rv:an c v val):∀{l:List (AV×AV)}{es:List MapEntry}(j:Nat),bW c l es->bW c (l.set j (k,v)) (es.modify j λe=>{e with key,val})
 |[],es,j,h=>by simp only[bW]at h;subst h;simp [bW]
 |(a,b)::l,es,0,h=>by obtain⟨e,es',rfl,h1,h2,h3⟩:=h;exact⟨_,_,rfl,rk,rv,h3⟩
 |(a,b)::l,es,j+1,h=>by obtain⟨e,es',rfl,h1,h2,h3⟩:=h;exact⟨e,_,rfl,h1,h2,bW.set rk rv j h3⟩
theorem bW.push{k v:AV}{key val:Value}{n:Nat}(rk:an c k key)(rv:an c v val):∀{l:List (AV×AV)}{es:List MapEntry},bW c l es->bW c (l++[(k,v)]) (es++[⟨key,val,n⟩])
 |[],es,h=>by simp only[bW]at h;subst h;exact⟨_,_,rfl,rk,rv,rfl⟩
 |(a,b)::l,es,h=>by obtain⟨e,es',rfl,h1,h2,h3⟩:=h;exact⟨e,_,rfl,h1,h2,bW.push rk rv h3⟩
theorem bW.erase:∀{l:List (AV×AV)}{es:List MapEntry}(j:Nat),bW c l es->bW c (l.eraseIdx j) (es.eraseIdx j)
 |[],es,j,h=>by simp only[bW]at h;subst h;simp [bW]
 |(a,b)::l,es,0,h=>by obtain⟨e,es',rfl,h1,h2,h3⟩:=h;exact h3
 |(a,b)::l,es,j+1,h=>by obtain⟨e,es',rfl,h1,h2,h3⟩:=h;exact⟨e,_,rfl,h1,h2,bW.erase j h3⟩
end
theorem oc.push{es:Array MapEntry}{bu:Nat}{key val:Value}(h:oc es bu):oc (es.push ⟨key,val,bu⟩) (bu+1):=by
 refine⟨λe he=>?_,?_⟩
 ·simp only[Array.toList_push,fB,Yg]at he;rcases he with he|rfl
  ·have:=h.1 e he;omega
  ·exact Nat.lt_succ_self _
 ·simp only[Array.toList_push,Zw,dH,List.map_nil];rw[List.nodup_append];refine⟨h.2,by simp,λa ha b hb=>?_⟩;obtain⟨e,he,rfl⟩:=i6.1 ha;have:=h.1 e he;simp at hb;omega
theorem ao9(key val:Value):∀(l:List MapEntry)(i:Nat),(l.modify i λe=>{e with key,val}).map (·.born)=l.map (·.born)
 |[],i=>by simp
 |e::l,0=>by simp
 |e::l,i+1=>by simp [ao9 key val l i]
theorem oc.modify{es:Array MapEntry}{bu i:Nat}{key val:Value}(h:oc es bu):oc (es.modify i λe=>{e with key,val}) bu:=by
 have hb:(es.modify i λe=>{e with key,val}).toList.map (·.born)=es.toList.map (·.born):=by rw[Array.toList_modify,ao9]
 refine⟨λe he=>?_,by rw[hb];exact h.2⟩;have:e.born∈es.toList.map (·.born):=by rw[<-hb];exact i6.2 ⟨e,he,rfl⟩
 obtain⟨e',he',e1⟩:=i6.1 this;rw[<-e1];exact h.1 e' he'
theorem oc.erase{es:Array MapEntry}{bu i:Nat}(h:oc es bu):oc (es.eraseIdxIfInBounds i) bu:=by
 by_cases hi:i<es.size
 ·have hee:(es.eraseIdxIfInBounds i).toList=es.toList.eraseIdx i:=by simp [SY,hi]
  refine⟨λe he=>h.1 e (by rw[hee]at he;exact List.mem_of_mem_eraseIdx he),?_⟩;rw[hee];exact h.2.sublist ((List.eraseIdx_sublist _ _).map _)
 ·have:es.eraseIdxIfInBounds i=es:=by simp [SY,hi]
  rw[this];exact h
theorem oc.empty:oc #[] 0:=⟨by simp,by simp⟩
section
variable {X : Fx} {z : Z} {s : AS} {a : Act} {w w' : World} {E : List Pl} {pb : Nat -> Option Nat}
theorem HE{P:Program}{b:Nat}{es:Array MapEntry}{bu:Nat}(o:Obj)(h:w.heap[b]? =δ (.map es bu)):(setObj b o).run P w=.ok () (w.dn b o):=by simp [setObj,TV,h,World.dn]
theorem af2(h:St X z s a w E pb){t kt et:TypeId}{ek:A.EK}{m k v:AV}{mv key val:Value}{σ':Heap}(ht:X.P.underlying t=δ (.map kt et))(he:k9 X kt=δ ek)(hu:Uj ek m k v s.σ=δ σ')
  (rm:an (ctx z w E pb) m mv) (rk:an (ctx z w E pb) k key) (rv:an (ctx z w E pb) v val):∃w',(aqp t mv key val).run X.P w=.ok () w'/\St X z (s.heap σ') a w' E pb:=by
 unfold Uj at hu;cases hk:A.fP ek k
 ·rw[hk]at hu;cases hu
 ·rw[hk]at hu;simp only[bz]at hu;cases m<;>simp only at hu<;>first|(cases hu;done)|skip
  rename_i id;simp only[an]at rm;obtain⟨p,e1,e2,rfl⟩:=rm;split at hu
  ·rename_i bn hs;obtain⟨iY,h1,h2⟩:=cO.1 hu;subst h2;obtain⟨hg,es,bu,k1,kw,k2⟩:=h.heap.blk id p _ e1 hs;obtain⟨r,hr⟩:=TA h1;obtain⟨res,f1,f2,f3⟩:=MC (c:=ctx z w E pb) w X he hk rk hr k2;have yO:=Ho (c:=ctx z w E pb) w X he hk rk ι;have kG:(getObj p.b).run X.P w=.ok (.map es bu) w:=by simp [getObj,TV,show w.heap[p.b]? =_ from k1]
   have hlt:p.b<w.heap.size:=h.heap.lt (p:=p) (ct e1);rcases Wo h1 f3 with⟨e3,rfl⟩|⟨j,q,e3,q1,q2,rfl⟩
   ·have hres:res=μ:=by cases res with|none=>rfl|some x=>simp at e3
    subst hres;refine⟨w.dn p.b (.map (es.push ⟨key,val,bu⟩) (bu+1)),?_,h.uR e1 _ _ λhx=>⟨hg,_,_,sV _ hlt,kw.push,?_⟩⟩
    ·simp [aqp,run_underlying ht,kG,yO,f1,HE _ (show w.heap[p.b]? =_ from k1)]
    ·have:=bW.push (n:=bu) (TK hx _ _ rk) (TK hx _ _ rv) (k2.mono hx);simpa using this
   ·obtain⟨i,u,hres,hi⟩:∃i u,res=δ (i,u)/\i=j:=by
     cases res with
     |none=>simp at e3
     |some x=>exact⟨x.1,x.2,rfl,by simpa using e3⟩
    subst hi;subst hres;obtain⟨e,n1,n2,_⟩:=k2.nth q1;have hsame:=aeN (c:=ctx z w E pb) hk q2 rk n2;have Qb:es[i]? =δ e:=by rw[<-ZQ];exact n1
    refine⟨w.dn p.b (.map (es.modify i λe=>{e with key,val}) bu),?_,h.uR e1 _ _ λhx=>⟨hg,_,_,sV _ hlt,kw.modify,?_⟩⟩
    ·simp [aqp,run_underlying ht,kG,yO,f1,Qb,Instr.keyThatStays,hsame,HE _ (show w.heap[p.b]? =_ from k1)]
    ·have:=bW.set (TK hx _ _ rk) (TK hx _ _ rv) i (k2.mono hx);simpa using this
  ·cases hu
theorem af0(h:St X z s a w E pb){t kt et u ty:TypeId}{ek:A.EK}{m k:AV}{mv key:Value}{σ':Heap}(ht:X.P.underlying t=δ (.map kt et))(he:k9 X kt=δ ek)(hu:A.OH ek m k s.σ=δ σ')
  (rm:an (ctx z w E pb) m mv) (rk:an (ctx z w E pb) k key):∃w',(apL #[t,u] ty #[mv,key]).run X.P w=.ok (.tuple #[]) w'/\St X z (s.heap σ') a w' E pb:=by
 unfold A.OH at hu;cases hk:A.fP ek k
 ·rw[hk]at hu;cases hu
 ·rw[hk]at hu;simp only[bz]at hu;cases m<;>simp only at hu<;>first|(cases hu;done)|skip
  case nm=>
   injection hu with hu;subst hu
   simp only[an]at rm;subst rm;exact⟨w,by simp [apL,run_underlying ht,Ho (c:=ctx z w E pb) w X he hk rk η],h⟩
  case om id=>
   simp only[an]at rm;obtain⟨p,e1,e2,rfl⟩:=rm;split at hu
   ·rename_i bn hs;obtain⟨iY,h1,h2⟩:=cO.1 hu;subst h2;obtain⟨hg,es,bu,k1,kw,k2⟩:=h.heap.blk id p _ e1 hs;obtain⟨r,hr⟩:=Tz h1;obtain⟨res,f1,f2,f3⟩:=MC (c:=ctx z w E pb) w X he hk rk hr k2;have yO:=Ho (c:=ctx z w E pb) w X he hk rk es.isEmpty;have kG:(getObj p.b).run X.P w=.ok (.map es bu) w:=by simp [getObj,TV,show w.heap[p.b]? =_ from k1]
    have hlt:p.b<w.heap.size:=h.heap.lt (p:=p) (ct e1);rcases aof h1 f3 with⟨e3,rfl⟩|⟨j,e3,q1,rfl⟩
    ·have hres:res=μ:=by cases res with|none=>rfl|some x=>simp at e3
     subst hres;refine⟨w.dn p.b (.map es bu),?_,h.uR e1 _ _ λhx=>⟨hg,_,_,sV _ hlt,kw,k2.mono hx⟩⟩;simp [apL,run_underlying ht,kG,yO,f1,HE _ (show w.heap[p.b]? =_ from k1)]
    ·obtain⟨i,u',hres,hi⟩:∃i u,res=δ (i,u)/\i=j:=by
      cases res with
      |none=>simp at e3
      |some x=>exact⟨x.1,x.2,rfl,by simpa using e3⟩
     subst hi;subst hres;refine⟨w.dn p.b (.map (es.eraseIdxIfInBounds i) bu),?_,h.uR e1 _ _ λhx=>⟨hg,_,_,sV _ hlt,kw.erase,?_⟩⟩
     ·simp [apL,run_underlying ht,kG,yO,f1,HE _ (show w.heap[p.b]? =_ from k1)]
     ·have hl:=k2.length;have:i<es.size:=by simp at hl;omega
      have hee:(es.eraseIdxIfInBounds i).toList=es.toList.eraseIdx i:=by simp [SY,this]
      rw[hee];exact bW.erase i (k2.mono hx)
   ·cases hu
theorem RR{f:MapEntry->Nat}:∀{l:List MapEntry}{j:Nat}{e:MapEntry},(l.map f).Nodup->l[j]? =δ e->(l.filter λx=>!(f x==f e))=l.eraseIdx j
 |[],j,e,_,h=>by simp at h
 |x::l,0,e,hn,h=>by
  simp at h;subst h;simp only[dH,zN]at hn;simp only[Sn,beq_self_eq_true,YV,List.eraseIdx_cons_zero];rw[apW.2]
  ·simp
  ·intro y hy;have:f y≠f x:=λe=>hn.1 (i6.2 ⟨y,hy,e⟩)
   simp [this]
 |x::l,j+1,e,hn,h=>by
  simp only[dH,zN]at hn;simp at h;have hne:f x≠f e:=λk=>hn.1 (i6.2 ⟨e,ct h,k.symm⟩)
  simp only[Sn,List.eraseIdx_cons_succ];have:(f x==f e)=ι:=by simpa using hne
  rw[this];simp only[Bool.not_false,if_true];rw[RR hn.2 h]
theorem choose_lt{P:Program}(w:World){n:Nat}(hn:0<n):∃j w',j<n/\(choose (.mapNext n)).run P w=.ok j w'/\Below w.heap.size w w'/\w'.heap=w.heap:=by
 by_cases h1:n<=1
 ·exact⟨0,w,hn,by simp [choose,TV,XF,h1],Below.refl _ _,rfl⟩
 ·refine⟨_,w.drew,?_,by simp [choose,TV,XF,h1];rfl,(Below.refl _ _).drew,rfl⟩;simp only[Question.cut];exact Nat.mod_lt _ hn
theorem oc.W5{es:Array MapEntry}{bu:Nat}(h:oc es bu)(b:Bool):(!b&&!es.isEmpty&&es.all λe=>decide (e.born>=bu))=ι:=by
 cases b
 ·by_cases he:es.isEmpty=η
  ·simp [he]
  ·have hs:0<es.size:=by rw[Array.isEmpty_iff]at he;exact Nat.pos_of_ne_zero λk=>he (Array.eq_empty_of_size_eq_zero k)
   have:=h.1 es[0] (by simp)
   have:¬(es.all λe=>decide (e.born>=bu))=η:=by intro k;rw[Array.all_eq_true]at k;have:=k 0 hs;simp at this;omega
   simp only[Bool.not_eq_true]at this;rw[this];simp
 ·simp
theorem filter_all{l:Array MapEntry}{bu:Nat}(h:∀e∈l.toList,e.born<bu):l.filter (λe=>decide (e.born<bu))=l/\l.filter (λe=>decide (e.born>=bu))=#[]:=by
 constructor
 ·apply mz.1;rw[Sj,apW.2];intro e he;simpa using h e he
 ·apply mz.1;rw[Sj];show _=[]
  rw[List.filter_eq_nil_iff];intro e he;have:=h e he;simp;omega
theorem Vw{α:Type}{l:List α}{j:Nat}(hj:j<l.length):(l[j]::l.eraseIdx j).Perm l:=by
 have e:l=l.take j++l[j]::l.drop (j+1):=by rw[List.getElem_cons_drop,Wq]
 rw[aqR];conv=>rhs;rw[e]
 exact List.perm_middle.symm
theorem af5(h:St X z s a w E pb){R:Type}{k:AV->Heap->Option R}{r:R}{i:AV}{v:Value}{ty:TypeId}(hk:A.yl i s.σ k=δ r)(ri:an (ctx z w E pb) i v):
  ∃av σ' v' w',k av σ'=δ r/\(aqz v ι ty).run X.P w=.ok v' w'/\St X z (s.heap σ') a w' E pb/\an (ctx z w' E pb) av v':=by
 unfold A.yl at hk;split at hk
 ·rename_i id;simp only[an]at ri;obtain⟨p,e1,e2,rfl⟩:=ri;have hlt:p.b<w.heap.size:=h.heap.lt (p:=p) (ct e1);have ahC:an (ctx z w E pb) (.aJ [.bool ι]) (.tuple #[.bool ι]):=by simp [an,aN]
  have hs0:s.heap s.σ=s:=rfl;split at hk
  ·rename_i cur hs;obtain⟨hg,hit⟩:=h.heap.blk id p _ e1 hs;rcases hit with⟨_,_,since,seen,last,h3⟩|⟨m,seen,bn,bu,h3,h4,h5,h6,h7,h8,h9⟩
   ·have kG:(getObj p.b).run X.P w=.ok (.mapIter μ since seen last) w:=by simp [getObj,TV,show w.heap[p.b]? =_ from h3]
    exact⟨_,_,_,w,hk,by simp [aqz,kG],by rw[hs0];exact h,ahC⟩
   ·have kG:(getObj p.b).run X.P w=.ok (.mapIter (δ m) bu seen bu) w:=by simp [getObj,TV,show w.heap[p.b]? =_ from h3]
    have zG:(getObj m).run X.P w=.ok (.map bn bu) w:=by simp [getObj,TV,show w.heap[m]? =_ from h6]
    obtain⟨l,h8,w8⟩:=h8;simp only[bW]at h8;subst h8;have hl:bn.filter (λe=>!seen.contains e.born)=#[]:=by apply mz.1;rw[Sj];exact w8.nil_eq.symm
    obtain⟨j,w',hj,hch,hb,hw⟩:=choose_lt (P:=X.P) w (n:=1) (by omega);have hj0:j=0:=by omega
    subst hj0;have hst:=h7.W5 seen.isEmpty;refine⟨_,_,.tuple #[.bool ι],w',hk,?_,by rw[hs0];exact h.grow hb,by simp [an,aN]⟩
    simp only[aqz,Zm,kG,Yl,zG,hst,hl];simp [-Go.run_choose,-Go.run_choose_drew,hch]
  ·rename_i cur x left hs;obtain⟨hg,hit⟩:=h.heap.blk id p _ e1 hs;rcases hit with⟨_,hn,_⟩|⟨m,seen,bn,bu,h3,h4,h5,h6,h7,h8,h9⟩
   ·cases hn
   ·have kG:(getObj p.b).run X.P w=.ok (.mapIter (δ m) bu seen bu) w:=by simp [getObj,TV,show w.heap[p.b]? =_ from h3]
    have zG:(getObj m).run X.P w=.ok (.map bn bu) w:=by simp [getObj,TV,show w.heap[m]? =_ from h6]
    obtain⟨L,hL⟩:∃L,L=bn.filter (λe=>!seen.contains e.born):=⟨_,rfl⟩
    have FV:L.toList=bn.toList.filter (λe=>!seen.contains e.born):=by rw[hL,Sj]
    rw[<-FV]at h8;obtain⟨l,h8,w8⟩:=h8;have hlen:=h8.length;rw[w8.length_eq]at hlen;simp only[Tq]at hlen;have hlt':∀e∈L.toList,e.born<bu:=λe he=>h7.1 e (by rw[FV]at he;exact(Ve.1 he).1)
    obtain⟨f1,f2⟩:=filter_all hlt'
    have hne:L.isEmpty=ι:=by rw[Array.isEmpty_eq_false_iff];intro k;rw[k]at hlen;simp at hlen
    obtain⟨j,w',hj,hch,hb,hw⟩:=choose_lt (P:=X.P) w (n:=L.size) (by rw[<-hlen];simp);have hst:=h7.W5 seen.isEmpty;obtain⟨e,YG⟩:∃e,L[j]? =δ e:=⟨_,tF hj⟩
    have n1:L.toList[j]? =δ e:=by rw[ZQ];exact YG
    obtain⟨i,hil,JF⟩:=Ut.1 (w8.mem_iff.2 (ct n1));have Ou:i<(x::left).length:=by rw[h8.length];exact hil
    have hk2:=all_some hk Ou;rw[dg Ou]at hk2;simp only at hk2;obtain⟨e',JO,n2,n3⟩:=bW.nth h8 (dg Ou);have hee:e=e':=by rw[dg hil]at JO;injection JO with JO;rw[<-JO,JF]
    subst hee
    have Qn:(l.eraseIdx i).Perm (L.toList.eraseIdx j):=by
     have p1:(e::l.eraseIdx i).Perm l:=by have:=Vw hil;rwa[JF]at this
     obtain⟨hjj,hje⟩:=bG.1 n1;have p2:(e::L.toList.eraseIdx j).Perm L.toList:=by have:=Vw hjj;rwa[hje]at this
     exact aqP.cons_inv ((p1.trans w8).trans p2.symm)
    have AO:=h.grow hb;have hmp:p.b≠m:=λk=>h5 (.inr (.inl ⟨p,ct e1,k⟩))
    have h3':w'.heap[p.b]? =δ (.mapIter (δ m) bu seen bu):=by rw[hw];exact h3
    have rC:(setObj p.b (.mapIter (δ m) bu (seen.push e.born) bu)).run X.P w'=.ok () (w'.dn p.b (.mapIter (δ m) bu (seen.push e.born) bu)):=by simp [setObj,TV,h3',World.dn]
    refine⟨_,_,.tuple #[.bool η,e.key,e.val],w'.dn p.b (.mapIter (δ m) bu (seen.push e.born) bu),hk2,?_,AO.uR e1 _ _ λhx=>⟨hg,.inr ⟨m,seen.push e.born,bn,bu,?_,?_,?_,?_,h7,?_,?_⟩⟩,?_⟩
    ·simp only[aqz,Zm,kG,Yl,zG,hst,<-hL,f1,f2,hne];simp [-Go.run_choose,-Go.run_choose_drew,hch,YG,rC]
    ·exact sV _ (by rw[hw];exact hlt)
    ·show m<(w'.dn p.b _).heap.size;rw[zu,hw];exact h4
    ·exact h5
    ·show(w'.dn p.b _).heap[m]? =_;rw[vL _ hmp,hw];exact h6
    ·have hx2:Ext (ctx z w E pb) (ctx z (w'.dn p.b (.mapIter (δ m) bu (seen.push e.born) bu)) E pb):=(uE hb).trans hx
     have hfe:(bn.toList.filter λe'=>!(seen.push e.born).contains e'.born)=L.toList.eraseIdx j:=by rw[FV];have hnd:((bn.toList.filter λe=>!seen.contains e.born).map (·.born)).Nodup:=h7.2.sublist ((List.filter_sublist).map _);rw[<-RR (f:=(·.born)) (e:=e) hnd (by rw[<-FV];exact n1),List.filter_filter];congr 1;funext y;simp only[Array.contains_push,Bool.not_or];rw[Bool.and_comm]
     rw[hfe];exact⟨_,(bW.erase i h8).mono hx2,Qn⟩
    ·refine .inr ⟨_,_,e,rfl,by simp,?_,?_,?_⟩
     ·have:=ct n1;rw[FV]at this;exact(Ve.1 this).1
     ·exact TK ((uE hb).trans hx) _ _ n2
     ·exact TK ((uE hb).trans hx) _ _ n3
    ·have hx:Ext (ctx z w' E pb) (ctx z (w'.dn p.b (.mapIter (δ m) bu (seen.push e.born) bu)) E pb):=MM (.inr (.inl ⟨p,ct e1,rfl⟩));have hx2:=(uE hb).trans hx;simp only[an];exact⟨_,rfl,by simp only[aN];exact⟨_,_,rfl,rfl,_,_,rfl,TK hx2 _ _ n2,_,_,rfl,TK hx2 _ _ n3,rfl⟩⟩
  ·cases hk
 ·cases hk
theorem ae8(h:St X z s a w E pb){t kt et:TypeId}{x:AV}{v:Value}{es:List (AV×AV)}(ht:X.P.underlying t=δ (.map kt et))(hr:A.Nr x=δ es)(rx:an (ctx z w E pb) x v):
  ∃o,(Instr.range t v).run X.P w=.ok (.pointer (δ ⟨w.heap.size,0,μ⟩)) (w.alloc o)/\St X z (s.heap (s.σ++[.it [] es])) a (w.alloc o) (E++[⟨w.heap.size,0,0,0,0⟩]) pb:=by
 unfold A.Nr at hr;split at hr
 ·injection hr with hr
  subst hr;simp only[an]at rx;subst rx;refine⟨.mapIter μ 0 #[] 0,by simp [Instr.range,run_underlying ht,newObj,TV],h.we _ _ ⟨w.heap.size,0,0,0,0⟩ rfl λhx=>⟨rfl,.inl ⟨rfl,rfl,_,_,_,(ZF w _).1⟩⟩⟩
 ·injection hr with hr
  subst hr;simp only[an]at rx;obtain⟨b,rfl,hb,hX,bn,bu,k1,kw,l,k2,k3⟩:=rx;have zG:(getObj b).run X.P w=.ok (.map bn bu) w:=by simp [getObj,TV,show w.heap[b]? =_ from k1]
  refine⟨.mapIter (δ b) bu #[] bu,by simp [Instr.range,run_underlying ht,zG,newObj,TV],h.we _ _ ⟨w.heap.size,0,0,0,0⟩ rfl λhx=>⟨rfl,.inr ⟨b,#[],bn,bu,(ZF w _).1,?_,(hx.stay b hb hX).2,?_,kw,?_,.inl rfl⟩⟩⟩
  ·exact qB hb hx.size
  ·exact(hx.stay b hb hX).1.trans k1
  ·have:(bn.toList.filter λe=>!(#[]:Array Nat).contains e.born)=bn.toList:=by rw[apW];intro e _;simp
   rw[this];exact⟨l,k2.mono hx,by rcases k3 with rfl|⟨k3,_⟩<;>first|exact aqP.refl _|exact k3⟩
 ·cases hr
end
end
end
end Go.Proofs.Ytgjglkakhmikjaa
