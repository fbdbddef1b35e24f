/- Parts of the proof of PickUnitsAreUnits, in order. -/
import Derived.Orders
import Derived.Below
import Derived.WalkKit
import Derived.Test.YtkdafecbdncmiaaDoorRows
import Derived.Lib.LaidTab
import Derived.Lib.ItoaNum
import Derived.KernelRfl
import Derived.Laws.StructEq
import Derived.Laws.Append
import Derived.Laws.AppendOwn
namespace Go.Proofs.YtkdafecbdncmiaaDoor
set_option linter.unusedVariables false
set_option linter.unusedSimpArgs false
set_option linter.unusedSectionVars false
set_option maxRecDepth 1000000
noncomputable section
open Nat renaming zero_add->Gs,blt->alM,le_of_mul_le_mul_right->Wb,div_mul_le_self->al9,le_mul_of_pos_right->am3,le_trans->o8
open Option renaming some->δ,none->η,isSome_iff_exists->al3,bind_eq_some_iff->am0
open _root_.Array renaming getD_eq_getD_getElem?->amE,toList_filter->W2,getElem?_setIfInBounds_ne->XS,range->amw,getD->amh,size_append->XG,length_toList->Z7,eraseIdxIfInBounds->Ws,getElem?_eq_getElem->amP,toList_append->amz,getElem?_setIfInBounds->XD,getElem?_eq_some_iff->amJ,getElem?_toList->YT
open Go.Builtin renaming copy_->Yb,clear_->Xv,append_->z8,cap_->alT,delete_->alY,len_->Zo,zeroCells->Ω,firstCells->o9,lenOf->Xh
open List renaming getElem?_append_right->amI,getElem?_append_left->amO,eq_nil_of_length_eq_zero->amt,getElem?_concat_length->amF,length_cons->b9,getElem?_drop->WI,filter_cons->Wy,map_map->Y3,mem_flatten->Zw,toList_toArray->al8,getElem?_take->X4,all_cons->amm,filter_eq_self->al7,append_nil->X0,getElem?_eq_getElem->amU,size_toArray->WA,eraseIdx_eq_take_drop_succ->am4,range->ami,length_replicate->ZM,drop_eq_getElem_cons->alZ,extract_eq_take_drop->amQ,mem_map_of_mem->al6,flatten_cons->WK,headD_cons->aml,mem_replicate->Yq,take_append_drop->WD,length_append->Λ,flatMap_cons->Yw,mem_cons_self->u0,mem_filter->Y2,Perm->am2,mem_singleton->X3,getD->Yn,foldl_cons->Zc,getElem?_eq_some_iff->amN,mem_iff_getElem->Wg,map_append->Tm,getElem?_take_of_lt->Wo,replicate->e8,drop_eq_nil_of_le->alS,flatten_append->amy
open Option.some renaming injEq->ξ
open Go.Sem renaming run->Yt,run_pure->M6,run_bind->b7
open Go.Op renaming intArith->amu,stringOp->amv,intCmp->am1,equalIn->Wi,bytesLess->alK
open Go.Instr renaming findAsking->alN,mapUpdate->amA,sliceAt->amW,checkKey->Wl,findNow->WO,sliceBounds->Xc,findKey->amd,sameNow->Y8,next->amL,sliceBound->WB,buildSlice->alO,slice->Zb,sameBits->ZJ,indexAt->ame,sureAddr->Yp
open Go.Region renaming binds->Wz
open Bool renaming true->ι,false_eq_true->X6,not_eq_false'->alR,not_true->Wq,false->θ
open Go.IntKind renaming i64->Ξ
open Go.MapKept renaming heap_alloc->Zs
open Prod.mk renaming injEq->Δ
open Go.Result renaming andThen_ok->Ψ
open Classical renaming choose->alL,byContradiction->amR,choose_spec->Yl
open Go.Program renaming cellsOf->amx
open Go.Act renaming put->al5
open Go.Question renaming forced->WU
open IntKind renaming i64->Ξ
open Int renaming toNat_natCast->amV
theorem aL{α:Type _}{β:Type _}(a:α)(f:α->Option β):(δ a).bind f=f a:=rfl
theorem dL{α:Type _}{β:Type _}(a:α)(f:α->β):(δ a).map f=δ (f a):=rfl
theorem bW{α:Type _}{x:α}{xs:List α}{d:α}:(x::xs).getD 0 d=x:=rfl
theorem eM{α:Type _}{x:α}{xs:List α}{n:Nat}{d:α}:(x::xs).getD (n+1) d=xs.getD n d:=rfl
theorem aS{α:Sort _}(a b:α):cond θ a b=b:=rfl
theorem bg{α:Sort _}(a b:α):cond ι a b=a:=rfl
theorem bU{α:Type _}{β:Type _}{f:α->β}{a:α}{l:List α}:(a::l).map f=f a::l.map f:=rfl
theorem bB:type_of% @amN:=@amN
theorem bl:type_of% @am0:=@am0
theorem cA:type_of% @amU:=@amU
theorem bR:type_of% @List.mem_of_getElem?:=@List.mem_of_getElem?
theorem bX:type_of% @Option.map_eq_some_iff:=@Option.map_eq_some_iff
theorem iH:type_of% @amI:=@amI
theorem fZ:type_of% @amO:=@amO
theorem bJ:type_of% @Nat.le_refl:=@Nat.le_refl
theorem tu:type_of% @amJ:=@amJ
theorem eF:type_of% @Bool.and_eq_true:=@Bool.and_eq_true
theorem jY:type_of% @amE:=@amE
theorem fO:type_of% @List.getElem?_set:=@List.getElem?_set
theorem nQ:type_of% @Nat.lt_of_lt_of_le:=@Nat.lt_of_lt_of_le
theorem nR:type_of% @List.append_assoc:=@List.append_assoc
theorem iU:type_of% @List.getElem?_set_self:=@List.getElem?_set_self
theorem jZ:type_of% @Bool.or_eq_false_iff:=@Bool.or_eq_false_iff
theorem lV:type_of% @List.drop_drop:=@List.drop_drop
theorem iV:type_of% @Nat.add_assoc:=@Nat.add_assoc
theorem fB:type_of% @Nat.add_mul:=@Nat.add_mul
theorem qO:type_of% @Nat.add_le_add:=@Nat.add_le_add
theorem iW:type_of% @List.getElem?_eq_none:=@List.getElem?_eq_none
theorem eo:type_of% @List.mem_cons:=@List.mem_cons
theorem xQ:type_of% @List.set_append_right:=@List.set_append_right
theorem tv:type_of% @List.length_eq_one_iff:=@List.length_eq_one_iff
theorem jJ:type_of% @Array.toList_inj:=@Array.toList_inj
theorem rX:type_of% @List.mem_iff_getElem?:=@List.mem_iff_getElem?
theorem kU:type_of% @Nat.mul_le_mul_right:=@Nat.mul_le_mul_right
theorem uG:type_of% @amt:=@amt
theorem fK:type_of% @List.mem_map:=@List.mem_map
theorem eG:type_of% @List.mem_append:=@List.mem_append
theorem rY:type_of% @amP:=@amP
theorem nS:type_of% @Bool.eq_iff_iff:=@Bool.eq_iff_iff
theorem iB:type_of% @List.mem_cons_of_mem:=@List.mem_cons_of_mem
theorem nT:type_of% @List.length_take:=@List.length_take
theorem lW:type_of% @List.take_of_length_le:=@List.take_of_length_le
theorem aC:type_of% @if_pos:=@if_pos
theorem aB:type_of% @if_neg:=@if_neg
theorem ga:type_of% @decide_eq_true:=@decide_eq_true
theorem ia:type_of% @decide_eq_false:=@decide_eq_false
theorem xR:type_of% @List.nodup_cons:=@List.nodup_cons
theorem wq:type_of% @List.mem_of_mem_take:=@List.mem_of_mem_take
theorem iX:type_of% @List.all_eq_true:=@List.all_eq_true
theorem jK:type_of% @Nat.zero_le:=@Nat.zero_le
theorem iI:type_of% @List.cons_append:=@List.cons_append
theorem wu:type_of% @List.getElem?_map:=@List.getElem?_map
theorem wv:type_of% @amF:=@amF
inductive AV where
 |undef
 |int(k:IntKind)(n:Int)
 |bool(b:Bool)
 |str(s:ByteArray)
 |agg(cs:List AV)
 |aN(vs:List AV)
 |sl(sz:Nat)(es:List (List AV))
 |aH
 |ez
 |rp(cs:List AV)
 |np
 |op(id off:Nat)
 |oe(id g i off:Nat)
 |os(id g sz off len:Nat)
 |om(id:Nat)
 |fm(es:List (AV×AV))
 |nm
 |fn(f:Nat)(caps:List AV)
 |tU
 |lbx(cs:List AV)
 deriving Inhabited
open AV renaming str->u5,agg->l8,sl->WV,aN->YM,int->amf,bool->φ
inductive aM where
 |box(cs:List AV)
 |arr(g sz:Nat)(es:List (List AV))
 |oO(g sz:Nat)(es:List (List AV))
 |map(es:List (AV×AV))
 |it(cur left:List (AV×AV))
 deriving Inhabited
def Cs(es:List (AV×AV)):Prop:=(∀p∈es,∃n s,p.1=.agg [.int Ξ n,.str s])/\(es.map (·.1)).Nodup
abbrev Heap:=List aM
inductive AX where
 |normal
 |exit(id:Nat)
 |ret
 deriving DecidableEq,Inhabited
namespace A
def cond{α:Type}(c:AV)(t e:Option α):Option α:=match c with|.bool b=>bif b then t else e|_=>η
def guard{α:Type}(c:AV)(want:Bool)(t e:Option α):Option α:=match c with|.bool b=>bif b==want then t else e|.aN []=>e|_=>η
def pick(c a b:AV):Option AV:=match c with|.bool c=>δ (bif c then a else b)|_=>η
def cell(v:AV):Option AV:=match v with|.undef=>η|.agg _=>η|.aN _=>η|.lbx _=>η|v=>δ v
def cells(n:Nat)(v:AV):Option (List AV):=match v with|.agg cs=>if cs.length=n then δ cs else η|_=>η
def lb(v:AV):Option (List AV):=match v with|.lbx cs=>δ cs|_=>η
def ay(off:Nat)(cs:List AV):Option AV:=(cs[off]?).bind cell
def bp(off n:Nat)(cs:List AV):Option AV:=if off+n<=cs.length then δ (.agg ((cs.drop off).take n))else η
def aU(off:Nat)(new cs:List AV):Option (List AV):=if off+new.length<=cs.length then δ (cs.take off++new++cs.drop (off+new.length))else η
def deref(v:AV)(σ:Heap):Option (List AV):=match v with
 |.rp cs=>δ cs
 |.op id off=>match σ[id]? with|some (.box cs)=>δ (cs.drop off)|_=>η
 |.oe id g i off=>match σ[id]? with|some (.arr g' _ es)=>if g=g' then(es[i]?).map (·.drop off)else η|_=>η
 |_=>η
def storeAt(v:AV)(new:List AV)(σ:Heap):Option Heap:=match v with
 |.op id off=>match σ[id]? with|some (.box cs)=>(aU off new cs).map λcs=>σ.set id (.box cs)|_=>η
 |.oe id g i off=>match σ[id]? with
  |some (.arr g' sz es)=>if g=g' then(es[i]?).bind λe=>(aU off new e).map λe=>σ.set id (.arr g sz (es.set i e))else η
  |_=>η
 |_=>η
def cQ(off:Nat)(v:AV):Option AV:=match v with
 |.rp cs=>δ (.rp (cs.drop off))
 |.op id o=>δ (.op id (o+off))
 |.oe id g i o=>δ (.oe id g i (o+off))
 |_=>η
def idx(len:Nat)(i:AV):Option Nat:=match i with|.int _ n=>if 0<=n/\n<len then δ n.toNat else η|_=>η
def aX(sz:Nat)(x i:AV):Option AV:=match x with
 |.sl sz' es=>(idx es.length i).bind λj=>if sz=sz' then(es[j]?).map .rp else η
 |.os id g sz' off len=>(idx len i).bind λj=>if sz=sz' then δ (.oe id g (off+j) 0)else η
 |_=>η
def th(len sz:Nat)(x i:AV):Option AV:=(idx len i).bind λj=>match x with
 |.rp cs=>δ (.rp (cs.drop (j*sz)))
 |.op id o=>δ (.op id (o+j*sz))
 |.oe id g k o=>δ (.oe id g k (o+j*sz))
 |_=>η
def gZ(x:AV):Option AV:=match x with|.rp cs=>δ (.rp cs)|.op id o=>δ (.op id o)|.oe id g i o=>δ (.oe id g i o)|.fn f c=>δ (.fn f c)|_=>η
def ext(i:Nat)(x:AV):Option AV:=match x with|.aN vs=>vs[i]? |_=>η
def add(x y:AV):Option AV:=match x,y with
 |.int k a,.int k' b=>if k=k' then δ (.int k (k.wrap (a+b)))else η
 |.str a,.str b=>if a.size+b.size<=9223372036854775807 then δ (.str (a++b))else η
 |_,_=>η
def sub(x y:AV):Option AV:=match x,y with|.int k a,.int k' b=>if k=k' then δ (.int k (k.wrap (a-b)))else η|_,_=>η
def mul(x y:AV):Option AV:=match x,y with|.int k a,.int k' b=>if k=k' then δ (.int k (k.wrap (a*b)))else η|_,_=>η
def quo(x y:AV):Option AV:=match x,y with|.int k a,.int k' b=>if k=k'/\b≠0 then δ (.int k (k.wrap (a.tdiv b)))else η|_,_=>η
def rem(x y:AV):Option AV:=match x,y with|.int k a,.int k' b=>if k=k'/\b≠0 then δ (.int k (a.tmod b))else η|_,_=>η
def shl(x y:AV):Option AV:=match x,y with|.int k a,.int _ b=>if b<0 then η else δ (.int k (k.wrap (a*2 ^ min b.toNat k.bits)))|_,_=>η
def shr(x y:AV):Option AV:=match x,y with|.int k a,.int _ b=>if b<0 then η else δ (.int k (a.fdiv (2 ^ min b.toNat k.bits)))|_,_=>η
def lss(x y:AV):Option AV:=match x,y with|.int k a,.int k' b=>if k=k' then δ (.bool (decide (a<b)))else η|.str a,.str b=>δ (.bool (alK a.toList b.toList))|_,_=>η
def leq(x y:AV):Option AV:=match x,y with|.int k a,.int k' b=>if k=k' then δ (.bool (decide (a<=b)))else η|_,_=>η
def gtr(x y:AV):Option AV:=match x,y with|.int k a,.int k' b=>if k=k' then δ (.bool (decide (a>b)))else η|_,_=>η
def geq(x y:AV):Option AV:=match x,y with|.int k a,.int k' b=>if k=k' then δ (.bool (decide (a>=b)))else η|_,_=>η
def lz(x y:AV):Option Bool:=match x,y with|.int k a,.int k' b=>if k=k' then δ (a==b)else η|_,_=>η
def tO(x y:AV):Option Bool:=match x,y with|.bool a,.bool b=>δ (a==b)|_,_=>η
def oc(x y:AV):Option Bool:=match x,y with|.str a,.str b=>δ (a==b)|_,_=>η
def MZ(x y:AV):Option Bool:=match x,y with
 |.np,.np=>δ ι
 |.np,.rp _=>δ θ
 |.np,.op _ _=>δ θ
 |.rp _,.np=>δ θ
 |.op _ _,.np=>δ θ
 |_,_=>η
def kC(k:Nat)(x y:AV):Option Bool:=match k with|0=>lz x y|1=>tO x y|2=>oc x y|_=>η
def ef:List Nat->List AV->List AV->Option Bool
 |[],[],[]=>δ ι
 |k::ks,x::xs,y::ys=>(kC k x y).bind λb=>(ef ks xs ys).map λc=>b&&c
 |_,_,_=>η
inductive EK where
 |i|b|z|p
 |s(ks:List Nat)
def dH(k:EK)(x y:AV):Option Bool:=match k with
 |.i=>lz x y
 |.b=>tO x y
 |.z=>oc x y
 |.p=>MZ x y
 |.s ks=>match x,y with|.agg xs,.agg ys=>ef ks xs ys|_,_=>η
def eql(k:EK)(x y:AV):Option AV:=(dH k x y).map .bool
def neq(k:EK)(x y:AV):Option AV:=(dH k x y).map λb=>.bool (!b)
def Hf(x y:AV):Option Bool:=match y with
 |.aH=>(match x with|.aH=>δ ι|.sl _ (_::_)=>δ θ|.os _ _ _ _ _=>δ θ|_=>η)
 |_=>η
def GZ(x y:AV):Option AV:=(Hf x y).map .bool
def neN(x y:AV):Option AV:=(Hf x y).map λb=>.bool (!b)
def xX(x:AV):Option AV:=match x with|.aH=>δ (.int Ξ 0)|.ez=>δ (.int Ξ 0)|_=>η
def not(x:AV):Option AV:=match x with|.bool b=>δ (.bool (!b))|_=>η
def neg(x:AV):Option AV:=match x with|.int k n=>δ (.int k (k.wrap (0-n)))|_=>η
def conv(k:IntKind)(x:AV):Option AV:=match x with|.int _ n=>δ (.int k (k.wrap n))|_=>η
def Tk(x:AV):Option AV:=match x with|.str s=>δ (.str s)|_=>η
def max(x y:AV):Option AV:=match x,y with|.int k a,.int _ b=>δ (.int k (if b>a then b else a))|_,_=>η
def min(x y:AV):Option AV:=match x,y with|.int k a,.int _ b=>δ (.int k (if b<a then b else a))|_,_=>η
def uK(x:AV):Option AV:=match x with|.str s=>δ (.int Ξ s.size)|_=>η
def bk(x:AV):Option AV:=match x with
 |.sl _ es=>δ (.int Ξ es.length)
 |.aH=>δ (.int Ξ 0)
 |.ez=>δ (.int Ξ 0)
 |.os _ _ _ _ n=>δ (.int Ξ n)
 |_=>η
def Uv(x:AV)(σ:Heap):Option AV:=match x with
 |.nm=>δ (.int Ξ 0)
 |.fm es=>δ (.int Ξ es.length)
 |.om id=>match σ[id]? with|some (.map es)=>δ (.int Ξ es.length)|_=>η
 |_=>η
def oZ(x i:AV):Option AV:=match x with|.str s=>(idx s.size i).bind λj=>(s[j]?).map λb=>.int .u8 b.toNat|_=>η
def bound(y:Nat)(dflt:Nat)(x:Option AV):Option Nat:=match x with
 |none=>δ dflt
 |some (.int _ i)=>if 0<=i/\i<=y then δ i.toNat else η
 |_=>η
def KC(x:AV)(lo hi:Option AV):Option AV:=match x with
 |.str s=>(bound s.size s.size hi).bind λh=>(bound h 0 lo).map λl=>.str (s.extract l h)
 |_=>η
def room(σ:Heap)(id g sz off len:Nat):Nat:=match σ[id]? with
 |some (.arr g' sz' es)=>if g=g'/\sz=sz'/\off+len<=es.length then es.length-off else len
 |_=>len
def gD(sz:Nat)(x:AV)(lo hi:Option AV)(σ:Heap):Option AV:=match x with
 |.sl sz' es=>if sz=sz' then(bound es.length es.length hi).bind λh=>(bound h 0 lo).map λl=>.sl sz ((es.take h).drop l)else η
 |.aH=>(bound 0 0 hi).bind λh=>(bound h 0 lo).map λ_=>.aH
 |.ez=>(bound 0 0 hi).bind λh=>(bound h 0 lo).map λ_=>.ez
 |.os id g sz' off len=>if sz=sz' then(bound (room σ id g sz off len) len hi).bind λh=>(bound h 0 lo).map λl=>.os id g sz (off+l) (h-l)else η
 |_=>η
def slice3(x:AV)(lo:Option AV)(hi mx:AV):Option AV:=(bk x).bind λn=>match n with
 |.int _ n=>(bound n.toNat 0 (δ mx)).bind λm=>(bound m 0 (δ hi)).bind λh=>(bound h 0 lo).map λ_=>if m=0 then .ez else .undef
 |_=>η
def elems(sz:Nat)(x:AV)(σ:Heap):Option (List (List AV)):=match x with
 |.aH=>δ []
 |.ez=>δ []
 |.sl sz' es=>if sz=sz' then δ es else η
 |.os id g ng off len=>match σ[id]? with
  |some (.arr g' sz' es)=>if g=g'/\sz=sz'/\ng=sz/\off+len<=es.length then δ ((es.drop off).take len)else η
  |some (.oO g' sz' es)=>if g=g'/\sz=sz'/\ng=sz/\off+len<=es.length then δ ((es.drop off).take len)else η
  |_=>η
 |_=>η
def kM(sz most:Nat)(x:AV)(ys:List (List AV))(σ:Heap):Option (AV×Heap):=match x with
 |.aH=>if ys=[]then δ (.aH,σ)else if ys.length<=most then δ (.os σ.length ys.length sz 0 ys.length,σ++[.arr ys.length sz ys])else η
 |.ez=>if ys=[]then δ (.ez,σ)else if ys.length<=most then δ (.os σ.length ys.length sz 0 ys.length,σ++[.arr ys.length sz ys])else η
 |.os id g ng off len=>match σ[id]? with
  | some (.arr g' sz' es) => if g = g' /\ sz = sz' /\ ng = sz /\ off + len <= es.length /\ len + ys.length <= most then
    (if ys=[]then δ (.os id g sz off len,σ)else if off+len+ys.length<=es.length then δ (.os id g sz off (len+ys.length),σ.set id (.arr g sz (es.take (off+len)++ys++es.drop (off+len+ys.length))))
    else δ (.os id (g+ys.length) sz 0 (len+ys.length),σ.set id (.arr (g+ys.length) sz ((es.drop off).take len++ys))))else η
  | some (.oO g' sz' es) => if g = g' /\ sz = sz' /\ ng = sz /\ off + len <= es.length /\ len + ys.length <= most /\ es.length < off + len + ys.length then
    δ (.os σ.length (len+ys.length) sz 0 (len+ys.length),σ++[.arr (len+ys.length) sz ((es.drop off).take len++ys)])else η
  |_=>η
 |_=>η
def append(sz most:Nat)(x y:AV)(σ:Heap):Option (AV×Heap):=(elems sz y σ).bind λys=>kM sz most x ys σ
def rK(sz most:Nat)(zs:List AV)(x n:AV)(σ:Heap):Option (AV×Heap):=match n with
 |.int _ k=>if 0<=k/\k<=most then kM sz most x (e8 k.toNat zs) σ else η
 |_=>η
def KM(sz:Nat)(x y:AV)(σ:Heap):Option (AV×Heap):=(elems sz y σ).bind λys=>match x with
 |.aH=>δ (.int Ξ 0,σ)
 |.ez=>δ (.int Ξ 0,σ)
 |.os id g ng off len=>match σ[id]? with
  | some (.arr g' sz' es) => if g = g' /\ sz = sz' /\ ng = sz /\ off + len <= es.length then (if ys.length = 0 \/ len = 0 then δ (.int Ξ 0, σ) else
    δ (.int Ξ (ys.take len).length,σ.set id (.arr g sz (es.take off++ys.take len++es.drop (off+(ys.take len).length)))))else η
  |_=>η
 |_=>η
def all {R:Type} (p:Nat->Prop) (k:Nat->Option R):Option R:=open Classical in if h:∃r,∀n,p n->k n=δ r then δ (alL h)else η
def wB {R:Type} (x:AV) (σ:Heap) (k:Nat->Heap->Option R):Option R:=match x with
 |.os id g sz off len=>match σ[id]? with
  |some (.arr g' sz' es)=>if g=g'/\sz=sz'/\off+len<=es.length then all (λc=>len<=c/\es.length<=off+c) (λc=>k c (if c=len then σ.set id (.oO g sz es)else σ.set id (.arr g sz (es++e8 (off+c-es.length) (e8 sz .undef)))))else η
  |_=>η
 |_=>η
def wJ{R:Type}(v:AV)(k:Nat->List (List AV)->Option R):Option R:=match v with|.sl sz es=>bif es.length==0 then η else k sz es|_=>η
def tD{R:Type}(v:Option AV)(k:AV->Option R)(u:Option R):Option R:=match v with|some v=>k v|none=>u
def Ky(m:AV):Option (List (AV×AV)):=match m with
 |.nm=>δ []
 |.fm es=>δ es
 |_=>η
def wm {R:Type} (i:AV) (σ:Heap) (k:AV->Heap->Option R):Option R:=match i with
 |.op id 0=>match σ[id]? with
  |some (.it _ [])=>k (.aN [.bool θ]) σ
  |some (.it _ (e::left))=>all (λj=>j<(e::left).length) (λj=>match(e::left)[j]? with
   |some p=>k (.aN [.bool ι,p.1,p.2]) (σ.set id (.it [p] ((e::left).eraseIdx j)))
   |none=>η)
  |_=>η
 |_=>η
def Kn(i:AV)(σ:Heap):Option AV:=match i with
 |.op id 0=>match σ[id]? with
  |some (.it [p] _)=>δ (.aN [p.1,p.2])
  |_=>η
 |_=>η
def xG(sz:Nat)(zs:List AV)(x:AV)(σ:Heap):Option Heap:=match x with
 |.aH=>δ σ
 |.ez=>δ σ
 |.sl _ []=>δ σ
 |.os id g ng off len=>match σ[id]? with
  |some (.arr g' sz' es)=>if g=g'/\sz=sz'/\ng=sz/\off+len<=es.length then(if len=0 then δ σ else δ (σ.set id (.arr g sz (es.take off++e8 len zs++es.drop (off+len)))))else η
  |_=>η
 |_=>η
def find(e:EK)(k:AV):List (AV×AV)->Option (Option AV)
 |[]=>δ η
 |(k',v)::r=>(dH e k k').bind λb=>bif b then δ (δ v)else find e k r
def oK(e:EK)(k:AV):List (AV×AV)->Nat->Option (Option Nat)
 |[],_=>δ η
 |(k',_)::r,i=>(dH e k k').bind λb=>bif b then δ (δ i)else oK e k r (i+1)
def upd(e:EK)(k v:AV):List (AV×AV)->Option (List (AV×AV))
 |[]=>δ [(k,v)]
 |(k',v')::r=>(dH e k k').bind λb=>bif b then δ ((k,v)::r)else(upd e k v r).map ((k',v')::·)
def del(e:EK)(k:AV):List (AV×AV)->Option (List (AV×AV))
 |[]=>δ []
 |(k',v')::r=>(dH e k k').bind λb=>bif b then δ r else(del e k r).map ((k',v')::·)
def entries(m:AV)(σ:Heap):Option (List (AV×AV)):=match m with
 |.nm=>δ []
 |.fm es=>δ es
 |.om id=>match σ[id]? with|some (.map es)=>δ es|_=>η
 |_=>η
def eY(e:EK)(k:AV):Bool:=match e,k with
 |.i,.int _ _=>ι
 |.b,.bool _=>ι
 |.z,.str _=>ι
 |.s ks,.agg xs=>xs.length==ks.length
 |_,_=>θ
def look(e:EK)(m k zero:AV)(σ:Heap):Option AV:=bif eY e k then(entries m σ).bind λes=>(find e k es).map λr=>r.getD zero else η
def nI(e:EK)(m k zero:AV)(σ:Heap):Option AV:=bif eY e k then(entries m σ).bind λes=>(find e k es).map λr=>.aN [r.getD zero,.bool r.isSome]else η
def cL(e:EK)(m k v:AV)(σ:Heap):Option Heap:=bif eY e k then(match m with
 |.om id=>match σ[id]? with|some (.map es)=>(upd e k v es).map λes=>σ.set id (.map es)|_=>η
 |_=>η)else η
def L5(e:EK)(m k:AV)(σ:Heap):Option Heap:=bif eY e k then(match m with
 |.nm=>δ σ
 |.om id=>match σ[id]? with|some (.map es)=>(del e k es).map λes=>σ.set id (.map es)|_=>η
 |_=>η)else η
def quiet (r:Option (AV×Heap)) (σ:Heap):Option AV:=r.bind λp=>open Classical in if p.2=σ then δ p.1 else η
def gP(dyn:Nat->List AV->Heap->Option (AV×Heap))(f:AV)(args:List AV)(σ:Heap):Option (AV×Heap):=match f with|.fn n caps=>dyn n (args++caps) σ|_=>η
def tab{α:Type}(d:α):List (Nat×α)->Nat->α
 |[],_=>d
 |(m,x)::r,n=>bif n==m then x else tab d r n
def iter(f:List AV->Heap->Option (AX×List AV×Heap)):Nat->List AV->Heap->Option (AX×List AV×Heap)
 |0,_,_=>η
 |n+1,v,σ=>(f v σ).bind λr=>match r.1 with|.normal=>iter f n r.2.1 r.2.2|_=>δ r
def loop (f:List AV->Heap->Option (AX×List AV×Heap)) (v:List AV) (σ:Heap):Option (AX×List AV×Heap):=
 open Classical in if h:∃n r,iter f n v σ=δ r then δ (alL (Yl h))else η
def CA{R:Type}(f:List AV->Heap->(AX×List AV×Heap->Option R)->Option R):Nat->List AV->Heap->(AX×List AV×Heap->Option R)->Option R
 |0,_,_,_=>η
 |n+1,v,σ,K=>f v σ λr=>match r.1 with|.normal=>CA f n r.2.1 r.2.2 K|_=>K r
def KX {R:Type} (f:List AV->Heap->(AX×List AV×Heap->Option R)->Option R) (v:List AV) (σ:Heap) (K:AX×List AV×Heap->Option R):Option R:=
 open Classical in if h:∃r,∃n,∀m,n<=m->CA f m v σ K=δ r then δ (alL h)else η
mutual
def br(σ:Heap)(n:Nat):Nat->AV->Option AV
 |_,.int k a=>δ (.int k a)
 |_,.bool b=>δ (.bool b)
 |_,.str s=>δ (.str s)
 |_,.aH=>δ .aH
 |_,.ez=>δ .ez
 |_,.np=>δ .np
 |_,.nm=>δ .nm
 |_,.tU=>δ .tU
 |d,.agg cs=>(cU σ n d cs).map .agg
 |d,.aN cs=>(cU σ n d cs).map .aN
 |d,.sl sz es=>(iA σ n d es).map (.sl sz)
 |d,.rp cs=>(cU σ n d cs).map .rp
 |d,.fm es=>(oQ σ n d es).map .fm
 |d,.fn f cs=>(cU σ n d cs).map (.fn f)
 |0,_=>η
 |d+1,.om id=>if id<n then δ (.om id)else match σ[id]? with
  |some (.map es)=>(rT σ n d es).map .fm
  |_=>η
 |d+1,.op id off=>if id<n then δ (.op id off)else match σ[id]? with
  |some (.box cs)=>(qK σ n d (cs.drop off)).map .rp
  |_=>η
 |d+1,.oe id g i off=>if id<n then δ (.oe id g i off)else match σ[id]? with
  |some (.arr g' _ es)=>if g=g' then(match es[i]? with|some e=>(qK σ n d (e.drop off)).map .rp|none=>η)else η
  |_=>η
 |d+1,.os id g ng off len=>if id<n then δ (.os id g ng off len)else match σ[id]? with
  |some (.arr g' sz es)=>if g=g'/\ng=sz/\off+len<=es.length then(Cq σ n d ((es.drop off).take len)).map (.sl sz)else η
  |_=>η
 |_,_=>η
def cU(σ:Heap)(n:Nat):Nat->List AV->Option (List AV)
 |_,[]=>δ []
 |d,x::r=>(br σ n d x).bind λy=>(cU σ n d r).map (y::·)
def qK(σ:Heap)(n:Nat):Nat->List AV->Option (List AV)
 |_,[]=>δ []
 |d,x::r=>(br σ n d x).bind λy=>(qK σ n d r).map (y::·)
def oQ(σ:Heap)(n:Nat):Nat->List (AV×AV)->Option (List (AV×AV))
 |_,[]=>δ []
 |d,(k,v)::r=>(br σ n d k).bind λk=>(br σ n d v).bind λv=>(oQ σ n d r).map ((k,v)::·)
def rT(σ:Heap)(n:Nat):Nat->List (AV×AV)->Option (List (AV×AV))
 |_,[]=>δ []
 |d,(k,v)::r=>(br σ n d k).bind λk=>(br σ n d v).bind λv=>(rT σ n d r).map ((k,v)::·)
def iA(σ:Heap)(n:Nat):Nat->List (List AV)->Option (List (List AV))
 |_,[]=>δ []
 |d,x::r=>(cU σ n d x).bind λy=>(iA σ n d r).map (y::·)
def Cq(σ:Heap)(n:Nat):Nat->List (List AV)->Option (List (List AV))
 |_,[]=>δ []
 |d,x::r=>(cU σ n d x).bind λy=>(Cq σ n d r).map (y::·)
end
end A
open A renaming look->Z8,deref->ψ,sub->Yd,loop->s9,cL->Z9,ay->Θ,storeAt->u7,add->o7,guard->μ,neq->XP,bp->Ze,quiet->Wd,not->Wc,lss->p9,entries->W9,cell->l5,dH->YB,cQ->WN,elems->WZ,gtr->W7,pick->l6,lb->l9,aX->EY,bk->WJ,ef->Yu,eql->z7,ext->WG,cond->χ,append->wh,find->ZD,aU->y9,br->Ya,bound->Wf,cells->i7,cU->XT
abbrev az:Option AV:=(δ (YM []))
abbrev aZ:AV:=(φ θ)
abbrev bF:AV:=(φ ι)
abbrev gz:AV:=(u5 ⟨#[]⟩)
abbrev aj(l:List AV)(n:Nat):AV:=l.getD n AV.undef
abbrev AV.ah(n:Int):AV:=amf Ξ n
abbrev aG:=Option (AV×Heap)
abbrev aq:=List AV
section
structure qh where
 slot:Nat
 off:Nat
 tag:Option (Nat×Bool)
structure AS where
 sl:List AV
 A:Nat->Option qh
 σ:Heap
structure Fx where
 P:Program
 nm:List Nat
 call:FuncId->List AV->Heap->Option (AV×Heap)
 dyn:Nat->List AV->Heap->Option (AV×Heap)
 L:List Nat
 O:List Nat
 n:Nat
 W:List Nat
inductive jx where
 |n
 |s(a b:jx)
 |c(live:List Nat)(a b:jx)
 |j(a b:jx)
 |b(a:jx)
 |l(live:List Nat)(xs:List AX)(a:jx)
 |lc(live:List Nat)(xs:List AX)(a:jx)
noncomputable section
def vZ:Value->AV
 |.int k n=>.int k n
 |.bool b=>.bool b
 |.string s=>.str s
 |.slice η 0 0=>.aH
 |.pointer η=>.np
 |.map η=>.nm
 |.nilFunc=>.tU
 |_=>.undef
def bY:Value->Bool
 |.agg _=>θ
 |.tuple _=>θ
 |_=>ι
def qL:Value->AV
 |.agg cs=>bif cs.toList.all bY then .agg (cs.toList.map vZ)else .undef
 |v=>vZ v
section
variable {R : Type} (X : Fx)
def xI(t:TypeId):Bool:=match X.P.underlying t with|some (.struct _)=>ι|some (.array _ _)=>ι|_=>θ
def pY(t:TypeId):Option (List AV):=match X.P.info? t with|some i=>(match i.zero with|some v=>bif v.cells.toList.all bY then δ (v.cells.toList.map vZ)else η|none=>η)|none=>η
def ev(s:AS):Operand->AV
 |.tmp t=>bif X.L.contains t then .undef else s.sl.getD t .undef
 |.const v=>qL v
 |.global _=>.undef
 |.func f=>.fn (X.nm.getD f 0) []
def kO(d:Nat):Option qh->Option qh
 |some p=>(match p.tag with|some (g,_)=>bif g==d then η else δ p|none=>δ p)
 |none=>η
def AS.put(X:Fx)(d:Option Nat)(v:AV)(s:AS):AS:=
 match d with
 |some d=>⟨s.sl.set d (bif X.L.contains d then .undef else v),λt=>bif t==d then η else kO d (s.A t),s.σ⟩
 |none=>s
def AS.jy(X:Fx)(d:Option Nat)(b off:Nat)(tag:Option (Nat×Bool))(s:AS):AS:=
 match d with
 |some d=>⟨s.sl.set d .undef,λt=>bif t==d then(bif X.L.contains d||!alM d X.n then η else match tag with|some (g,w)=>(bif g==d then η else δ ⟨b,off,δ (g,w)⟩)|none=>δ ⟨b,off,η⟩)else kO d (s.A t),s.σ⟩
 |none=>s
def AS.kQ(d:Nat)(cs:List AV)(s:AS):AS:=
 ⟨s.sl.set d (.lbx cs),λt=>bif t==d then η else match kO d (s.A t)with|some p=>bif p.slot==d then η else δ p|none=>η,s.σ⟩
def AS.heap(σ:Heap)(s:AS):AS:=⟨s.sl,s.A,σ⟩
def place(s:AS)(tag:Option (Nat×Bool)):Operand->Option (Nat×Nat)
 |.tmp t=>bif X.L.contains t then δ (t,0)else match s.A t with
  |some p=>bif X.L.contains p.slot then(match p.tag with|none=>δ (p.slot,p.off)|some g=>bif tag==δ g then δ (p.slot,p.off)else η)else η
  |none=>η
 |_=>η
def uD(t:TypeId)(off:Nat)(cs:List AV):Option AV:=match X.P.underlying t with
 |none=>η
 |some _=>bif xI X t then Ze off (X.P.cellsOf t) cs else Θ off cs
def sY(t:TypeId)(v:AV):Option (List AV):=match X.P.underlying t with
 |none=>η
 |some _=>bif xI X t then i7 (X.P.cellsOf t) v else bif X.P.cellsOf t==1 then(l5 v).bind λv=>δ [v]else η
def kR(s:AS)(place:Nat->Option (Nat×TypeId)):List (Nat×Operand)->List AV->Option (List AV)
 |[],cs=>δ cs
 |(i,x)::r,cs=>match place i with
  |none=>η
  |some (off,t)=>(sY X t (ev X s x)).bind λnew=>(y9 off new cs).bind λcs=>kR s place r cs
def vS(t:TypeId)(f:Nat):Option (Nat×TypeId):=match X.P.underlying t with
 |some (.struct fs)=>(match fs[f]? with|some f=>δ (f.offset,f.type)|none=>η)
 |_=>η
def tF(f:TypeId->Bool)(size:TypeId->Nat):List Field->Nat->Option Nat
 |[],off=>δ off
 | x :: r, off => bif x.name != "_" && x.offset == off && f x.type then tF f size r (off + size x.type) else η
def gU(P:Program):Nat->TypeId->Bool
 |0,_=>θ
 |d+1,t=>match P.underlying t with
  |some .bool=>P.cellsOf t==1
  |some (.int _)=>P.cellsOf t==1
  |some .string=>P.cellsOf t==1
  |some (.struct fs)=>!P.stoodInHeld t&&tF (gU P d) P.cellsOf fs.toList 0==δ (P.cellsOf t)
  |_=>θ
def kinds(P:Program):Nat->TypeId->List Nat
 |0,_=>[]
 |d+1,t=>match P.underlying t with
  |some .bool=>[1]
  |some (.int _)=>[0]
  |some .string=>[2]
  |some (.struct fs)=>fs.toList.flatMap λf=>kinds P d f.type
  |_=>[]
def je(t:TypeId):Option A.EK:=match X.P.underlying t with
 |some .bool=>δ .b
 |some (.int _)=>δ .i
 |some .string=>δ .z
 |some (.pointer e)=>bif X.P.cellsOf e !=0 then δ .p else η
 |some (.struct _)=>bif gU X.P 9 t&&!X.P.eqGuardType X.P.depth t then δ (.s (kinds X.P 9 t))else η
 |_=>η
def Ln(op:BinOp)(t:TypeId)(x y:AV):Option AV:=match op with
 |.add=>o7 x y|.sub=>Yd x y|.mul=>A.mul x y|.quo=>A.quo x y|.rem=>A.rem x y
 |.lss=>p9 x y|.leq=>A.leq x y|.gtr=>W7 x y|.geq=>A.geq x y
 |.eql=>(match je X t with|some e=>z7 e x y|none=>match X.P.underlying t with|some (.slice _)=>A.GZ x y|_=>η)
 |.neq=>(match je X t with|some e=>XP e x y|none=>match X.P.underlying t with|some (.slice _)=>A.neN x y|_=>η)
 |.shl=>A.shl x y|.shr=>A.shr x y|_=>η
def eO(sz:Nat):Nat->List AV->List (List AV)
 |0,_=>[]
 |n+1,l=>l.take sz::eO sz n (l.drop sz)
def dN(o:Oper)(s:AS)(tag:Option (Nat×Bool)):Option AV:=
 match o.op with
 |.move x=>δ (ev X s x)
 |.assign x=>δ (ev X s x)
 |.pick c a b=>l6 (ev X s c) (ev X s a) (ev X s b)
 |.alloc t=>(match pY X t with|some cs=>δ (.rp cs)|none=>η)
 |.box t x=>(sY X t (ev X s x)).bind λcs=>δ (.rp cs)
 |.build t ps=>(match pY X t,X.P.underlying t with
  |some zs,δ (.struct fs)=>bif fs.toList.all (λf=>(X.P.info? f.type).isSome)then(kR X s (vS X t) ps.toList zs).bind λcs=>δ (.agg cs)else η
  |_,_=>η)
 |.buildSlice t len ps=>(match X.P.underlying t with
  |some (.slice e)=>(match X.P.info? e,pY X e with
   |some i,δ zs=>bif (i.size==0||zs.length !=i.size)then η else bif alM 16777216 (len*i.size)then η
    else(kR X s (λj=>δ (j*i.size,e)) ps.toList ((e8 len zs).flatten)).bind λcs=>δ (bif len==0 then .ez else .sl i.size (eO i.size len cs))
   |_,_=>η)
  |_=>η)
 |.load t x=>(match place X s tag x with
  |some (b,off)=>(l9 (s.sl.getD b .undef)).bind λcs=>uD X t off cs
  |none=>(ψ (ev X s x) s.σ).bind λcs=>uD X t 0 cs)
 |.nilCheck x=>A.gZ (ev X s x)
 |.binOp op t x y _=>Ln X op t (ev X s x) (ev X s y)
 |.unOp op _ x=>(match op with
  |.not=>Wc (ev X s x)
  |.neg=>A.neg (ev X s x)
  |_=>η)
 |.convert src dst x=>(match X.P.underlying src,X.P.underlying dst with
  |some (.int _),δ (.int j)=>A.conv j (ev X s x)
  |some .string,δ .string=>A.Tk (ev X s x)
  |_,_=>η)
 |.makeInterface t _=>(match X.P.underlying t with|some (.interface _)=>η|some _=>δ .undef|none=>η)
 |.makeFunc fn first caps=>(match fn with|.func f=>bif first.toList.isEmpty then δ (.fn (X.nm.getD f 0) (caps.toList.map (ev X s)))else η|_=>η)
 |.slice t x lo hi mx=>(match mx with
  |none=>(match X.P.underlying t with
   |some .string=>A.KC (ev X s x) (lo.map (ev X s)) (hi.map (ev X s))
   |some (.slice e)=>(match X.P.info? e with|some i=>A.gD i.size (ev X s x) (lo.map (ev X s)) (hi.map (ev X s)) s.σ|none=>η)
   |_=>η)
  |some mx=>(match X.P.underlying t,hi with
   |some (.slice e),δ hi=>(match X.P.info? e with|some _=>A.slice3 (ev X s x) (lo.map (ev X s)) (ev X s hi) (ev X s mx)|none=>η)
   |_,_=>η))
 |.fieldAddr t x f=>(match vS X t f with
  |some (off,ft)=>(match X.P.info? ft with|some i=>bif i.size==0 then η else WN off (ev X s x)|none=>η)
  |none=>η)
 |.field t x f=>(match vS X t f with
  |some (off,ft)=>(i7 (X.P.cellsOf t) (ev X s x)).bind λcs=>uD X ft off cs
  |none=>η)
 |.indexAddr t x i=>(match X.P.underlying t with
  |some (.slice e)=>(match X.P.info? e with|some j=>EY j.size (ev X s x) (ev X s i)|none=>η)
  |some (.array len e)=>(match X.P.info? e with|some j=>A.th len j.size (ev X s x) (ev X s i)|none=>η)
  |_=>η)
 |.index t x i=>(match X.P.underlying t with
  |some .string=>A.oZ (ev X s x) (ev X s i)
  |_=>η)
 |.lookup t m i ok=>(match X.P.underlying t with
  |some (.map kt e)=>(match X.P.info? e,je X kt with
   |some inf,δ ek=>(match inf.zero with
    |some z=>bif ok then A.nI ek (ev X s m) (ev X s i) (qL z) s.σ else Z8 ek (ev X s m) (ev X s i) (qL z) s.σ
    |none=>η)
   |_,_=>η)
  |_=>η)
 |.extract x i=>WG i (ev X s x)
 |.entry i=>A.Kn (ev X s i) s.σ
 |.call c=>(match c.callee with
  |.builtin b=>(match b,c.argTypes.toList,c.args.toList.map (ev X s)with
   |.len,[t],[x]=>(match X.P.underlying t with
    |some .string=>A.uK x
    |some (.slice _)=>WJ x
    |some (.map _ _)=>A.Uv x s.σ
    |_=>η)
   |.cap,[t],[x]=>(match X.P.underlying t with|some (.slice _)=>A.xX x|_=>η)
   |.max,_,[x,y]=>A.max x y
   |.min,_,[x,y]=>A.min x y
   |_,_,_=>η)
  |.value (.func f)=>Wd (X.call f (c.args.toList.map (ev X s)) s.σ) s.σ
  |.value x=>Wd (A.gP X.dyn (ev X s x) (c.args.toList.map (ev X s)) s.σ) s.σ
  |_=>η)
 |_=>η
def gB(o:Oper)(s:AS)(tag:Option (Nat×Bool)):Option (Nat×Option Nat):=
 match o.op with
 |.nilCheck x=>(match place X s tag x with|some (b,off)=>δ (b,(l9 (s.sl.getD b .undef)).bind λ_=>δ off)|none=>η)
 |.fieldAddr t x f=>(match place X s tag x with
  |some (b,o')=>δ (b,match vS X t f with
   |some (off,ft)=>(match X.P.info? ft with|some i=>bif i.size==0 then η else(l9 (s.sl.getD b .undef)).bind λ_=>δ (o'+off)|none=>η)
   |none=>η)
  |none=>η)
 |.indexAddr t x i=>(match place X s tag x with
  |some (b,o')=>δ (b,match X.P.underlying t with
   |some (.array len e)=>(match X.P.info? e with|some ie=>(l9 (s.sl.getD b .undef)).bind λ_=>(A.idx len (ev X s i)).bind λj=>δ (o'+j*ie.size)|none=>η)
   |_=>η)
  |none=>η)
 |_=>η
def jH(i:TypeInfo):Bool:=i.size==0||i.bytes==0||(match i.zero with|some z=>z.cells.size !=i.size||!z.cells.toList.all bY|none=>ι)
def ey(q:Bool)(o:Oper)(s:AS)(k:AS->Option R):Option R:=
 match gB X o s η with
 |some (b,r)=>r.bind λoff=>k (s.jy X o.dst b off η)
 |none=>
 match o.op with
 |.alloc t=>(match o.dst with
  |some d=>bif X.L.contains d then(match pY X t with|some cs=>k (s.kQ d cs)|none=>η)
   else bif X.O.contains d then(match pY X t with|some cs=>k ((s.heap (s.σ++[.box cs])).put X (δ d) (.op s.σ.length 0))|none=>η)
   else(dN X o s η).bind λv=>k (s.put X o.dst v)
  |none=>η)
 |.box t x=>(match o.dst with
  |some d=>bif X.L.contains d then(sY X t (ev X s x)).bind λcs=>k (s.kQ d cs)
   else bif X.O.contains d then(sY X t (ev X s x)).bind λcs=>k ((s.heap (s.σ++[.box cs])).put X (δ d) (.op s.σ.length 0))
   else(dN X o s η).bind λv=>k (s.put X o.dst v)
  |none=>η)
 |.store t x v=>(match place X s η x with
  |some (b,off)=>(l9 (s.sl.getD b .undef)).bind λcs=>(sY X t (ev X s v)).bind λnew=>(y9 off new cs).bind λcs=>k ((⟨s.sl.set b (.lbx cs),s.A,s.σ⟩:AS).put X o.dst (.aN []))
  |none=>(sY X t (ev X s v)).bind λnew=>(u7 (ev X s x) new s.σ).bind λσ=>k ((s.heap σ).put X o.dst (.aN [])))
 |.buildSlice t n ps=>(match o.dst with
  |some d=>bif X.O.contains d then(dN X o s η).bind λv=>A.wJ v λsz es=>k ((s.heap (s.σ++[.arr es.length sz es])).put X (δ d) (.os s.σ.length es.length sz 0 es.length))
   else(dN X o s η).bind λv=>k (s.put X o.dst v)
  |none=>(dN X o s η).bind λv=>k (s.put X o.dst v))
 |.makeMap t r=>(match r with
  |none=>k ((s.heap (s.σ++[.map []])).put X o.dst (.om s.σ.length))
  |some _=>η)
 |.mapUpdate t m i v=>(match X.P.underlying t with
  |some (.map kt _)=>(match je X kt with|some ek=>(Z9 ek (ev X s m) (ev X s i) (ev X s v) s.σ).bind λσ=>k ((s.heap σ).put X o.dst (.aN []))|none=>η)
  |_=>η)
 |.range t x=>(match X.P.underlying t with
  |some (.map _ _)=>(A.Ky (ev X s x)).bind λes=>k ((s.heap (s.σ++[.it [] es])).put X o.dst (.op s.σ.length 0))
  |_=>η)
 |.next i str=>bif q||str then η else A.wm (ev X s i) s.σ (λv σ=>k ((s.heap σ).put X o.dst v))
 |.call c=>(match c.callee with
  |.builtin .append=>(match c.argTypes.toList,c.args.toList.map (ev X s)with
   |[t,u],[x,y]=>(match X.P.underlying t,X.P.underlying u with
    |some (.slice e),δ (.slice _)=>(match X.P.info? e with
     |some i=>bif jH i then η else(wh i.size (140737488355328 / i.bytes) x y s.σ).bind λr=>k ((s.heap r.2).put X o.dst r.1)
     |none=>η)
    |some (.slice e),δ (.int _)=>(match X.P.info? e,pY X e with
     |some i,δ zs=>bif jH i then η else(A.rK i.size (140737488355328 / i.bytes) zs x y s.σ).bind λr=>k ((s.heap r.2).put X o.dst r.1)
     |_,_=>η)
    |_,_=>η)
   |_,_=>η)
  |.builtin .copy=>(match c.argTypes.toList,c.args.toList.map (ev X s)with
   |[t,u],[x,y]=>(match X.P.underlying t,X.P.underlying u with
    |some (.slice e),δ (.slice _)=>(match X.P.info? e with
     |some i=>bif jH i then η else(A.KM i.size x y s.σ).bind λr=>k ((s.heap r.2).put X o.dst r.1)
     |none=>η)
    |_,_=>η)
   |_,_=>η)
  | .builtin .cap => A.tD (dN X o s η) (λv => k (s.put X o.dst v)) (bif q then η else (match c.argTypes.toList, c.args.toList.map (ev X s) with
    |[t],[x]=>(match X.P.underlying t with|some (.slice _)=>A.wB x s.σ (λc σ=>k ((s.heap σ).put X o.dst (.int Ξ c)))|_=>η)
    |_,_=>η))
  |.builtin .clear=>(match c.argTypes.toList,c.args.toList.map (ev X s)with
   |[t],[x]=>(match X.P.underlying t with
    |some (.slice e)=>(match X.P.info? e,pY X e with
     |some i,δ zs=>bif jH i then η else(A.xG i.size zs x s.σ).bind λσ=>k ((s.heap σ).put X o.dst (.aN []))
     |_,_=>η)
    |_=>η)
   |_,_=>η)
  |.builtin .delete=>(match c.argTypes.toList,c.args.toList.map (ev X s)with
   |[t,_],[m,key]=>(match X.P.underlying t with
    |some (.map kt _)=>(match je X kt with|some ek=>(A.L5 ek m key s.σ).bind λσ=>k ((s.heap σ).put X o.dst (.aN []))|none=>η)
    |_=>η)
   |_,_=>η)
  |.builtin _=>(dN X o s η).bind λv=>k (s.put X o.dst v)
  | .value (.func f) => bif q && !X.W.contains f then (dN X o s η).bind λv => k (s.put X o.dst v)
    else(X.call f (c.args.toList.map (ev X s)) s.σ).bind λr=>k ((s.heap r.2).put X o.dst r.1)
  | .value x => bif q then (dN X o s η).bind λv => k (s.put X o.dst v)
    else(A.gP X.dyn (ev X s x) (c.args.toList.map (ev X s)) s.σ).bind λr=>k ((s.heap r.2).put X o.dst r.1)
  |_=>η)
 |_=>(dN X o s η).bind λv=>k (s.put X o.dst v)
def AO(o:Oper):Option (FuncId×List Operand):=match o.op with
 |.call c=>(match c.callee with|.value (.func f)=>bif X.W.contains f then δ (f,c.args.toList)else η|_=>η)
 |_=>η
def Ca(o:Oper)(d:Nat):Bool:=X.L.contains d||(match o.dst with|some d=>X.L.contains d||X.O.contains d|none=>θ)
def jD(q:Bool)(ops:Array Oper)(o:Oper)(s:AS)(k:AS->Option R):Option R:=
 match o.guard with
 |none=>ey X q o s k
 |some (j,want)=>match(ops[j]?).bind (·.dst)with
  |some d=>bif Ca X o d then η else(match AO X o with
   |some (f,as')=>(μ (s.sl.getD d .undef) want (X.call f (as'.map (ev X s)) s.σ) (δ (.aN [],s.σ))).bind λr=>k ((s.heap r.2).put X o.dst r.1)
   |none=>(match gB X o s (δ (d,want))with
    |some (b,r)=>r.bind λoff=>k (s.jy X o.dst b off (δ (d,want)))
    |none=>(μ (s.sl.getD d .undef) want (dN X o s (δ (d,want))) (δ (.aN []))).bind λv=>k (s.put X o.dst v)))
  |none=>η
def force{R:Type}:List AV->(List AV->Option R)->Option R
 |[],k=>k []
 |x::l,k=>force l λl=>k (x::l)
def oR(q:Bool)(ops:Array Oper):List Oper->AS->(AS->Option R)->Option R
 |[],s,k=>k s
 |o::r,s,k=>jD X q ops o s λs=>oR q ops r s k
def CU(q:Bool)(ops:Array Oper):List Oper->AS->(AS->Option R)->Option R
 |[],s,k=>k s
 |o::r,s,k=>jD X q ops o s λs=>force s.sl λsl=>CU q ops r ⟨sl,s.A,s.σ⟩ k
def rL(o:Oper):Bool:=match o.op with|.load ..|.store ..|.fieldAddr ..|.indexAddr ..|.nilCheck ..=>ι|_=>θ
def rH(o:Oper):Bool:=match o.op with|.load ..|.store ..|.lookup ..|.mapUpdate ..|.call ..|.makeMap ..|.alloc ..|.box ..|.range ..|.next ..|.entry ..|.slice ..|.buildSlice ..=>ι|_=>θ
def wH(o:Oper):Bool:=match o.op with
 |.store ..|.mapUpdate ..|.makeMap ..|.range ..|.next ..=>ι
 |.alloc ..|.box ..|.buildSlice ..=>(match o.dst with|some d=>X.O.contains d|none=>θ)
 |.call c=>(match c.callee with|.builtin .len=>θ|.builtin .max=>θ|.builtin .min=>θ|.builtin _=>ι|.value (.func f)=>X.W.contains f|_=>θ)
 |_=>θ
def kS:AV->Bool
 |.oe ..=>θ
 |_=>ι
def chainB(Bt:List Nat)(o:Oper):Bool:=match o.op with
 |.move (.tmp t)=>Bt.contains t
 |.assign (.tmp t)=>Bt.contains t
 |.nilCheck (.tmp t)=>Bt.contains t
 |.fieldAddr _ (.tmp t) _=>Bt.contains t
 |_=>θ
def acZ(o:Oper):Option Nat:=match o.op with
 |.move (.tmp t)=>δ t
 |.assign (.tmp t)=>δ t
 |.nilCheck (.tmp t)=>δ t
 |.fieldAddr _ (.tmp t) _=>δ t
 |.load _ (.tmp t)=>δ t
 |_=>η
def adE(ops:List Oper)(sl:List AV):List Nat:=(ops.filterMap acZ).filter λt=>!(ops.any λo=>o.dst==δ t)&&kS (sl.getD t .undef)
def SU:List Oper->List Nat->List Nat
 |[],acc=>acc
 |o::r,acc=>SU r (match o.dst with|some d=>(bif chainB acc o then d::acc else acc)|none=>acc)
def soft(Bt:List Nat)(o:Oper):Bool:=match o.op with|.load _ (.tmp t)=>Bt.contains t|_=>θ
def wN(o:Oper):Bool:=match o.op with
 |.makeMap ..=>ι
 |.mapUpdate ..=>ι
 |.call c=>(match c.callee with|.builtin .append=>ι|_=>θ)
 |_=>θ
def Lf(Bt:List Nat)(o:Oper):Bool:=match o.dst with
 |some d=>!Bt.contains d||chainB Bt o
 |none=>ι
def kj(o:Oper):Option Operand:=match o.op with
 |.load _ x=>δ x
 |.store _ x _=>δ x
 |.fieldAddr _ x _=>δ x
 |.indexAddr _ x _=>δ x
 |.nilCheck x=>δ x
 |_=>η
def pS(o:Oper):Bool:=match o.op with|.fieldAddr ..=>ι|.indexAddr ..=>ι|.nilCheck ..=>ι|_=>θ
def uc(Rt:List (Nat×Nat)):Operand->Option Nat
 |.tmp t=>bif X.L.contains t then δ t else Rt.lookup t
 |_=>η
def rt(Rt:List (Nat×Nat))(o:Oper):Option Nat:=match kj o with|some x=>uc X Rt x|none=>η
def Kz:List Oper->List (Nat×Nat)->List (Nat×Nat)
 |[],Rt=>Rt
 |o::r,Rt=>Kz r (match o.dst with|some d=>(bif pS o then(match rt X Rt o with|some b=>(d,b)::Rt|none=>Rt)else Rt)|none=>Rt)
def Lh(Rt:List (Nat×Nat))(o:Oper):Bool:=match o.dst with
 |some d=>X.L.contains d||Rt.lookup d==(bif pS o then rt X Rt o else η)
 |none=>ι
def iY:AV->Bool
 |.undef=>ι
 |.aN []=>ι
 |_=>θ
def acC(Rt:List (Nat×Nat))(sl:List AV):Bool:=Rt.all λp=>iY (sl.getD p.1 .undef)
def wb(Rt:List (Nat×Nat))(o:Oper):Option Nat:=match o.op with|.store ..=>rt X Rt o|_=>η
def qx(Rt:List (Nat×Nat))(o:Oper):Bool:=match o.op with
 |.load ..=>(rt X Rt o).isNone
 |.store ..=>(rt X Rt o).isNone
 |.alloc ..|.box ..|.buildSlice ..=>(match o.dst with|some d=>X.O.contains d|none=>θ)
 |_=>rH o
def mA(Rt:List (Nat×Nat))(o:Oper):Bool:=match o.op with
 |.store ..=>(rt X Rt o).isNone
 |_=>wH X o
def tj(Rt:List (Nat×Nat))(Bt:List Nat)(x y:Oper):Bool:=
 (match wb X Rt x with|some b=>rt X Rt y==δ b|none=>θ)||(match x.dst with|some d=>X.L.contains d&&rt X Rt y==δ d|none=>θ)||(mA X Rt x&&((qx X Rt y&&!(soft Bt y&&wN x))||mA X Rt y))
def indep(Rt:List (Nat×Nat))(Bt:List Nat)(ops:Array Oper)(x y:Oper):Bool:=x.apart ops y&&!tj X Rt Bt x y&&!tj X Rt Bt y x
def Gf:List Oper->List Nat->List Nat
 |[],acc=>acc
 |o::r,acc=>Gf r (acc++[o.after.toList.foldl (λs e=>bif Wz .any e then s ||| 2 ^ e.on ||| acc.getD e.on 0 else s) 0])
def F5:List Oper->Nat->Bool
 |[],_=>ι
 |o::r,i=>o.after.toList.all (λe=>!Wz .any e||alM e.on i)&&F5 r (i+1)
def F0(Rt:List (Nat×Nat))(Bt:List Nat)(ops:Array Oper)(Df:List Nat):List Oper->Nat->Bool
 |[],_=>ι
 |o::r,i=>(ops.toList.take i).zipIdx.all (λp=>(Df.getD i 0).testBit p.2||indep X Rt Bt ops p.1 o)&&F0 Rt Bt ops Df r (i+1)
def Ft(Rt:List (Nat×Nat))(Bt:List Nat)(ops:Array Oper)(sl:List AV):Bool:=X.P.follows .mixedOrders&&F5 ops.toList 0&&F0 X Rt Bt ops (Gf ops.toList []) ops.toList 0&&ops.toList.all (Lh X Rt)&&acC Rt sl&&Rt.all (λp=>X.L.contains p.2)&&ops.toList.all (Lf Bt)&&Bt.all (λt=>kS (sl.getD t .undef))
def Cg(ops:Array Oper)(sl:List AV):Bool:=Ft X (Kz X ops.toList []) [] ops sl||Ft X (Kz X ops.toList []) (SU ops.toList (adE ops.toList sl)) ops sl
def cI:Code->List Nat
 |.region _ ops _=>ops.toList.filterMap (·.dst)
 |.seq a b=>cI a++cI b
 |.cond _ a b=>cI a++cI b
 |.block _ c=>cI c
 |.loop c=>cI c
 |_=>[]
def rI(sl:List AV):List Nat->List AV
 |[]=>sl
 |d::r=>rI (sl.set d .undef) r
def AK(vs:List AV):List AV->List Nat->Nat->List AV
 |sl,d::r,j=>AK vs (sl.set d (vs.getD j .undef)) r (j+1)
 |sl,[],_=>sl
def vals(sl:List AV)(live:List Nat):List AV:=live.map (sl.getD · .undef)
def AS.meet(s:AS)(mods live:List Nat)(vs:List AV)(σ:Heap):AS:=⟨AK vs (rI s.sl mods) live 0,λ_=>η,σ⟩
def leave(live:List Nat)(e:AX)(s:AS):Option (AX×List AV×Heap):=δ (e,vals s.sl live,s.σ)
def F9(live:List Nat)(e:AX)(s:AS):Option (List AV×Heap):=match e with|.normal=>δ (vals s.sl live,s.σ)|_=>η
def A.sel{R:Type}(e:AX)(k:AX->Option R):List AX->Option R
 |[]=>η
 |x::r=>bif e==x then k x else A.sel e k r
def exec:{R:Type}->jx->Code->AS->(AX->AS->Option R)->Option R
 |_,_,.skip,s,k=>k .normal s
 |_,_,.label _,s,k=>k .normal s
 | _, _, .region _ ops draw, s, k => bif draw then (bif Cg X ops s.sl then CU X ι ops ops.toList ⟨s.sl, λ_ => η, s.σ⟩ λs => k .normal ⟨s.sl, λ_ => η, s.σ⟩ else η)
   else CU X θ ops ops.toList s λs=>k .normal ⟨s.sl,λ_=>η,s.σ⟩
 |_,.s a b,.seq x y,s,k=>exec a x s λe s=>match e with|.normal=>exec b y s k|e=>k e s
 |_,.c live a b,.cond c x y,s,k=>bif !(live.all λd=>(cI x++cI y++X.L).contains d)then η else(χ (ev X s c) (exec a x s (F9 live)) (exec b y s (F9 live))).bind λr=>force (s.meet (cI x++cI y++X.L) live r.1 r.2).sl λsl=>k .normal ⟨sl,λ_=>η,r.2⟩
 |_,.j a b,.cond c x y,s,k=>χ (ev X s c) (exec a x s k) (exec b y s k)
 |_,.b a,.block id c,s,k=>exec a c s λe s=>match e with|.exit i=>bif i==id then k .normal s else k (.exit i) s|e=>k e s
 |_,.l live xs a,.loop c,s,k=>bif !(live.all λd=>(cI c++X.L).contains d)then η else(s9 (λvs σ=>force (s.meet (cI c++X.L) live vs σ).sl λsl=>exec a c ⟨sl,λ_=>η,σ⟩ (leave live)) (vals s.sl live) s.σ).bind λr=>A.sel r.1 (λe=>force (s.meet (cI c++X.L) live r.2.1 r.2.2).sl λsl=>k e ⟨sl,λ_=>η,r.2.2⟩) xs
 |_,.lc live xs a,.loop c,s,k=>bif !(live.all λd=>(cI c++X.L).contains d)then η else A.KX (λvs σ K=>force (s.meet (cI c++X.L) live vs σ).sl λsl=>exec a c ⟨sl,λ_=>η,σ⟩ λe s'=>K (e,vals s'.sl live,s'.σ)) (vals s.sl live) s.σ λr=>A.sel r.1 (λe=>force (s.meet (cI c++X.L) live r.2.1 r.2.2).sl λsl=>k e ⟨sl,λ_=>η,r.2.2⟩) xs
 |_,_,.exit id,s,k=>k (.exit id) s
 |_,_,.ret,s,k=>k .ret s
 |_,_,_,_,_=>η
def uM(s:AS):List ResultVar->(List AV->Option R)->Option R
 |[],k=>k []
 |.tmp t::r,k=>uM s r λvs=>k (ev X s (.tmp t)::vs)
 |.cell a t::r,k=>(match place X s η (.tmp a)with
  |some (b,off)=>((l9 (s.sl.getD b .undef)).bind λcs=>uD X t off cs).bind λv=>uM s r λvs=>k (v::vs)
  |none=>((ψ (ev X s (.tmp a)) s.σ).bind λcs=>uD X t 0 cs).bind λv=>uM s r λvs=>k (v::vs))
def one:List AV->AV
 |[v]=>v
 |vs=>.aN vs
def A.fin(σ:Heap)(r:AV)(σ':Heap):Option (AV×Heap):=open Classical in
 if σ'=σ then δ (r,σ)else if σ'.take σ.length=σ then(Ya σ' σ.length 8 r).map λr=>(r,σ)else η
def A.TR (es:List (AV×AV)):List (AV×AV):=alL (p:=λl:List (AV×AV)=>l.Perm es) ⟨es,.refl _⟩
def A.can (x:AV):AV:=match x with
 |.fm es=>open Classical in if Cs es then .fm (A.TR es)else .fm es
 |x=>x
def A.LB (σ:Heap) (n:Nat) (x:aM):Option aM:=match x with
 |.box cs=>(XT σ n 8 cs).map λcs=>.box (cs.map A.can)
 |.arr g sz es=>(A.iA σ n 8 es).map λes=>.arr g sz (es.map (·.map A.can))
 |.oO g sz es=>(A.iA σ n 8 es).map λes=>.oO g sz (es.map (·.map A.can))
 |.map es=>(A.oQ σ n 8 es).map .map
 |.it _ _=>η
def A.AN (σ:Heap) (n:Nat):Heap->Heap->Option Heap
 |[],_=>δ []
 |_::_,[]=>η
 |b::r,b'::r'=>open Classical in (if b'=b then δ b else A.LB σ n b').bind λx=>(A.AN σ n r r').map (x::·)
def A.CM (σ:Heap) (v:AV) (σ':Heap):Option (AV×Heap):=(A.AN σ' σ.length σ σ').bind λτ=>(Ya σ' σ.length 8 v).map λr=>(r,τ)
inductive lX where
 |K
 |F
  |N(f:AV->AV)
  |G
  |R
def A.gen:List AV->Nat
 |[]=>0
 |x::r=>(match x with|.os _ g _ _ len=>g+len|.sl _ es=>es.length|_=>0)+A.gen r
def A.rowsOf:List AV->List (List AV)
 |[]=>[]
 |x::r=>(match x with|.sl _ es=>es|_=>[])++A.rowsOf r
def A.merge(args:List AV)(σ:Heap)(sz:Nat)(seg:List (List AV))(id:Nat)(σ':Heap):Option (AV×Heap):=match args with
 |.os fR _ _ _ _::_=>match σ[fR]? with
  | some (.arr g1 vD sC) => open Classical in if id = σ.length /\ σ'.length = σ.length + 1 /\ vD = sz /\ g1 < A.gen args + 1 /\ (∀ j, j < σ.length -> j ≠ fR -> σ'[j]? = σ[j]?) /\ σ'[fR]? = δ (.oO g1 vD sC) /\ (∀ y ∈ seg, y ∈ sC \/ y ∈ A.rowsOf args) then
    δ (.os fR (A.gen args+1) sz 0 seg.length,σ.set fR (.arr (A.gen args+1) sz seg))else η
  |_=>η
 |_=>η
def A.afU:List AV->Bool
 |.os ..::_=>ι
 |_=>θ
def A.renew(args:List AV)(σ:Heap)(v:AV)(σ':Heap):Option (AV×Heap):=match v with
 |.os id g sz off len=>match σ'[id]? with
  | some (.arr g' sz' es) => if g = g' /\ sz = sz' /\ off + len <= es.length /\ g < A.gen args + 1 then
    (if id<σ.length\/A.afU args=θ then δ (.os id (A.gen args+1) sz 0 len,σ'.set id (.arr (A.gen args+1) sz ((es.drop off).take len)))else A.merge args σ sz ((es.drop off).take len) id σ')else η
  |_=>η
 |.aH=>δ (.aH,σ')
 |.ez=>δ (.ez,σ')
 |.sl sz []=>δ (.sl sz [],σ')
 |_=>η
def lX.run(f:lX)(args:List AV)(σ:Heap)(v:AV)(σ':Heap):Option (AV×Heap):=match f with
 |.K=>δ (v,σ')
 |.F=>A.fin σ v σ'
 |.N g=>(A.fin σ v σ').map λp=>(g p.1,p.2)
 |.G=>A.CM σ v σ'
 |.R=>A.renew args σ v σ'
def lu(fin:lX)(bH:jx)(fn:Func)(args:List AV)(σ:Heap):Option (AV×Heap):=
 match fn.body with
 |some c=>bif !(Nat.ble args.length fn.ntmps&&X.n==fn.ntmps)then η else exec X bH c ⟨args++e8 (fn.ntmps-args.length) (.aN []),λ_=>η,σ⟩ λe s=>match e with
  |.exit _=>η
  |_=>uM X s fn.results.toList λvs=>fin.run args σ (one vs) s.σ
 |none=>η
end
end
end
open AS renaming put->alQ
abbrev bw:jx:=(.s .n .n)
abbrev cr:jx:=(.s .n (.j bw .n))
abbrev dr:jx:=(.j .n .n)
structure Pl where
 b:Nat
 base:Nat
 g:Nat
 sz:Nat
 mP:Nat
structure RC where
 w:World
 E:List Pl
 X:Nat->Prop
 nm:List Nat
def lT(es:Array MapEntry)(bf:Nat):Prop:=(∀e∈es.toList,e.born<bf)/\(es.toList.map (·.born)).Nodup
def Sj(es:List (AV×AV))(l L:List MapEntry):Prop:=l=L\/(l.Perm L/\Cs es)
mutual
def ak(c:RC):AV->Value->Prop
 |.undef,_=>True
 |.int k n,v=>v=.int k n
 |.bool b,v=>v=.bool b
 |.str s,v=>v=.string s
 |.agg cs,v=>∃vs,v=.agg vs/\aJ c cs vs.toList/\∀x∈vs.toList,bY x=ι
 |.aN cs,v=>∃vs,v=.tuple vs/\aJ c cs vs.toList
 |.sl sz es,v=>∃a cap,v=.slice a es.length cap/\es.length<=cap/\0<sz/\(es=[]\/∃b off,a=δ ⟨b,off,η⟩/\b<c.w.heap.size/\¬c.X b/\bh c sz b off es)
 |.aH,v=>v=.slice η 0 0
 |.ez,v=>∃a,v=.slice a 0 0
 |.rp cs,v=>∃b off,v=.pointer (δ ⟨b,off,η⟩)/\b<c.w.heap.size/\¬c.X b/\aY c b off cs
 |.np,v=>v=.pointer η
 |.op id off,v=>∃p,c.E[id]? =δ p/\p.g=0/\v=.pointer (δ ⟨p.b,off,η⟩)
 |.oe id g i off,v=>0<g/\∃p,c.E[id]? =δ p/\g<=p.g/\∃a,v=.pointer (δ a)/\(g=p.g->a=⟨p.b,p.base+i*p.sz+off,η⟩)
 |.os id g sz off len,v=>0<g/\∃p,c.E[id]? =δ p/\g<=p.g/\∃a cap,v=.slice (δ a) len cap/\len<=cap/\(g=p.g->p.sz=sz/\(cap=0\/a=⟨p.b,p.base+off*p.sz,η⟩)/\p.base+(off+cap)*p.sz=p.mP)
 |.om id,v=>∃p,c.E[id]? =δ p/\p.g=0/\v=.map (δ p.b)
 |.fm es,v=>∃b,v=.map (δ b)/\b<c.w.heap.size/\¬c.X b/\∃aW bf,c.w.heap[b]? =δ (.map aW bf)/\lT aW bf/\∃l,bL c es l/\Sj es l aW.toList
 |.nm,v=>v=.map η
 |.fn n caps,v=>∃f vs,v=.func (.func f) #[] vs/\c.nm.getD f 0=n/\aJ c caps vs.toList
 |.tU,v=>v=.nilFunc
 |.lbx _,_=>False
def aJ(c:RC):List AV->List Value->Prop
 |[],vs=>vs=[]
 |a::r,vs=>∃v vs',vs=v::vs'/\ak c a v/\aJ c r vs'
def bL(c:RC):List (AV×AV)->List MapEntry->Prop
 |[],es=>es=[]
 |(k,v)::r,es=>∃e es',es=e::es'/\ak c k e.key/\ak c v e.val/\bL c r es'
def aY(c:RC)(b:Nat):Nat->List AV->Prop
 |_,[]=>True
 |off,a::r=>(∃v,c.w.cell? ⟨b,off,η⟩=δ v/\bY v=ι/\ak c a v)/\aY c b (off+1) r
def bh(c:RC)(sz b:Nat):Nat->List (List AV)->Prop
 |_,[]=>True
 |off,e::r=>e.length=sz/\aY c b off e/\bh c sz b (off+sz) r
end
structure Ext (c c' : RC) : Prop where
 size:c.w.heap.size<=c'.w.heap.size
 stay:∀b,b<c.w.heap.size->¬c.X b->c'.w.heap[b]? =c.w.heap[b]? /\¬c'.X b
 env:∀(i:Nat)(p:Pl),c.E[i]? =δ p->∃p':Pl,c'.E[i]? =δ p'/\(p'=p\/(0<p.g/\p.g<p'.g))
 nm:c'.nm=c.nm
theorem cell_of_block{w w':World}{b off:Nat}(h:w'.heap[b]? =w.heap[b]?):w'.cell? ⟨b,off,η⟩=w.cell? ⟨b,off,η⟩:=by simp [World.cell?,h]
mutual
theorem ak.mono{c c':RC}(h:Ext c c'):∀(a:AV)(v:Value),ak c a v->ak c' a v
 |.undef,_,_=>by simp [ak]
 |.int k n,v,r=>by simpa [ak]using r
 |.bool b,v,r=>by simpa [ak]using r
 |.str s,v,r=>by simpa [ak]using r
 |.agg cs,v,r=>by simp only[ak]at r ⊢;obtain⟨vs,e,r,k⟩:=r;exact⟨vs,e,aJ.mono h cs _ r,k⟩
 |.aN cs,v,r=>by simp only[ak]at r ⊢;obtain⟨vs,e,r⟩:=r;exact⟨vs,e,aJ.mono h cs _ r⟩
 |.sl sz es,v,r=>by
  simp only[ak]at r ⊢;obtain⟨a,cap,e,h1,h2,r⟩:=r;refine⟨a,cap,e,h1,h2,?_⟩;rcases r with r|⟨b,off,e,hb,hx,r⟩
  ·exact .inl r
  ·exact .inr ⟨b,off,e,nQ hb h.size,(h.stay b hb hx).2,bh.mono h sz b (h.stay b hb hx).1 es off r⟩
 |.aH,v,r=>by simpa [ak]using r
 |.ez,v,r=>by simpa [ak]using r
 |.rp cs,v,r=>by simp only[ak]at r ⊢;obtain⟨b,off,e,hb,hx,r⟩:=r;exact⟨b,off,e,nQ hb h.size,(h.stay b hb hx).2,aY.mono h b (h.stay b hb hx).1 cs off r⟩
 |.np,v,r=>by simpa [ak]using r
 |.op id off,v,r=>by
  simp only[ak]at r ⊢;obtain⟨p,h1,h2,e⟩:=r;obtain⟨p',h3,h4⟩:=h.env _ _ h1;rcases h4 with rfl|⟨h4,_⟩
  ·exact⟨p',h3,h2,e⟩
  ·omega
 |.oe id g i off,v,r=>by
  simp only[ak]at r ⊢;obtain⟨hg,p,h1,h2,a,e,r⟩:=r;obtain⟨p',h3,h4⟩:=h.env _ _ h1;rcases h4 with rfl|⟨h4,h5⟩
  ·exact⟨hg,p',h3,h2,a,e,r⟩
  ·exact⟨hg,p',h3,by omega,a,e,λk=>by omega⟩
 |.os id g sz off len,v,r=>by
  simp only[ak]at r ⊢;obtain⟨hg,p,h1,h2,a,cap,e,h6,r⟩:=r;obtain⟨p',h3,h4⟩:=h.env _ _ h1;rcases h4 with rfl|⟨h4,h5⟩
  ·exact⟨hg,p',h3,h2,a,cap,e,h6,r⟩
  ·exact⟨hg,p',h3,by omega,a,cap,e,h6,λk=>by omega⟩
 |.om id,v,r=>by
  simp only[ak]at r ⊢;obtain⟨p,h1,h2,e⟩:=r;obtain⟨p',h3,h4⟩:=h.env _ _ h1;rcases h4 with rfl|⟨h4,_⟩
  ·exact⟨p',h3,h2,e⟩
  ·omega
 |.nm,v,r=>by simpa [ak]using r
 |.fm es,v,r=>by simp only[ak]at r ⊢;obtain⟨b,e,hb,hx,aW,bf,h1,hw,l,h2,h3⟩:=r;exact⟨b,e,nQ hb h.size,(h.stay b hb hx).2,aW,bf,(h.stay b hb hx).1.trans h1,hw,l,bL.KY h es _ h2,h3⟩
 |.fn n caps,v,r=>by simp only[ak]at r ⊢;obtain⟨f,vs,e,h1,r⟩:=r;exact⟨f,vs,e,by rw[h.nm];exact h1,aJ.mono h caps _ r⟩
 |.tU,v,r=>by simpa [ak]using r
 |.lbx _,v,r=>by simp [ak]at r
theorem bL.KY{c c':RC}(h:Ext c c'):∀(l:List (AV×AV))(es:List MapEntry),bL c l es->bL c' l es
 |[],es,r=>by simpa [bL]using r
 |(k,v)::l,es,r=>by simp only[bL]at r ⊢;obtain⟨e,es',h1,h2,h3,h4⟩:=r;exact⟨e,es',h1,ak.mono h k _ h2,ak.mono h v _ h3,bL.KY h l es' h4⟩
theorem aJ.mono{c c':RC}(h:Ext c c'):∀(l:List AV)(vs:List Value),aJ c l vs->aJ c' l vs
 |[],vs,r=>by simpa [aJ]using r
 |a::l,vs,r=>by simp only[aJ]at r ⊢;obtain⟨v,vs',e,h1,h2⟩:=r;exact⟨v,vs',e,ak.mono h a v h1,aJ.mono h l vs' h2⟩
theorem aY.mono{c c':RC}(h:Ext c c')(b:Nat)(hb:c'.w.heap[b]? =c.w.heap[b]?):∀(l:List AV)(off:Nat),aY c b off l->aY c' b off l
 |[],off,r=>by simp [aY]
 |a::l,off,r=>by simp only[aY]at r ⊢;obtain⟨⟨v,h1,h2,h3⟩,r⟩:=r;exact⟨⟨v,by rw[cell_of_block hb];exact h1,h2,ak.mono h a v h3⟩,aY.mono h b hb l (off+1) r⟩
theorem bh.mono{c c':RC}(h:Ext c c')(sz b:Nat)(hb:c'.w.heap[b]? =c.w.heap[b]?):∀(l:List (List AV))(off:Nat),bh c sz b off l->bh c' sz b off l
 |[],off,r=>by simp [bh]
 |e::l,off,r=>by simp only[bh]at r ⊢;obtain⟨h1,h2,r⟩:=r;exact⟨h1,aY.mono h b hb e off h2,bh.mono h sz b hb l (off+sz) r⟩
end
open ak renaming mono->X5
open aJ renaming mono->WR
theorem Ext.trans{a b c:RC}(h:Ext a b)(k:Ext b c):Ext a c:=by
 refine⟨o8 h.size k.size,λx hx hn=>?_,λi p hp=>?_,k.nm.trans h.nm⟩
 ·obtain⟨h1,h2⟩:=h.stay x hx hn;obtain⟨h3,h4⟩:=k.stay x (nQ hx h.size) h2;exact⟨h3.trans h1,h4⟩
 ·obtain⟨p',h1,h2⟩:=h.env i p hp;obtain⟨p'',h3,h4⟩:=k.env i p' h1;refine⟨p'',h3,?_⟩;rcases h2 with rfl|⟨h2,h5⟩
  ·exact h4
  ·rcases h4 with rfl|⟨h6,h7⟩
   ·exact .inr ⟨h2,h5⟩
   ·exact .inr ⟨h2,by omega⟩
theorem aJ.length{c:RC}:∀{l:List AV}{vs:List Value},aJ c l vs->l.length=vs.length
 |[],vs,h=>by simp only[aJ]at h;subst h;rfl
 |a::l,vs,h=>by simp only[aJ]at h;obtain⟨v,vs',rfl,_,h2⟩:=h;simp [aJ.length h2]
theorem aJ.nth{c:RC}:∀{l:List AV}{vs:List Value}{i:Nat}{a:AV},aJ c l vs->l[i]? =δ a->∃v,vs[i]? =δ v/\ak c a v
 |[],vs,i,a,h,k=>by simp at k
 |x::l,vs,0,a,h,k=>by simp only[aJ]at h;obtain⟨v,vs',rfl,h1,_⟩:=h;simp at k;subst k;exact⟨v,rfl,h1⟩
 |x::l,vs,i+1,a,h,k=>by simp only[aJ]at h;obtain⟨v,vs',rfl,_,h2⟩:=h;simp at k;obtain⟨u,h3,h4⟩:=aJ.nth h2 k;exact⟨u,by simpa using h3,h4⟩
theorem aJ.append{c:RC}:∀{l m:List AV}{vs us:List Value},aJ c l vs->aJ c m us->aJ c (l++m) (vs++us)
 |[],m,vs,us,h,k=>by simp only[aJ]at h;subst h;simpa using k
 |a::l,m,vs,us,h,k=>by simp only[aJ]at h;obtain⟨v,vs',rfl,h1,h2⟩:=h;simp only[iI,aJ];exact⟨v,_,rfl,h1,h2.append k⟩
theorem aJ.take{c:RC}:∀{l:List AV}{vs:List Value}(n:Nat),aJ c l vs->aJ c (l.take n) (vs.take n)
 |[],vs,n,h=>by simp only[aJ]at h;subst h;simp [aJ]
 |a::l,vs,0,h=>by simp [aJ]
 |a::l,vs,n+1,h=>by simp only[aJ]at h;obtain⟨v,vs',rfl,h1,h2⟩:=h;simp only[List.take_succ_cons,aJ];exact⟨v,_,rfl,h1,h2.take n⟩
theorem aJ.drop{c:RC}:∀{l:List AV}{vs:List Value}(n:Nat),aJ c l vs->aJ c (l.drop n) (vs.drop n)
 |[],vs,n,h=>by simp only[aJ]at h;subst h;simp [aJ]
 |a::l,vs,0,h=>by simpa using h
 |a::l,vs,n+1,h=>by simp only[aJ]at h;obtain⟨v,vs',rfl,h1,h2⟩:=h;simp only[List.drop_succ_cons];exact h2.drop n
theorem aJ.map{c:RC}{α:Type}(f:α->AV)(g:α->Value):∀(l:List α),(∀x∈l,ak c (f x) (g x))->aJ c (l.map f) (l.map g)
 |[],_=>by simp [aJ]
 |a::l,h=>by simp only[bU,aJ];exact⟨_,_,rfl,h a (by simp),aJ.map f g l (λx hx=>h x (by simp [hx]))⟩
theorem aJ.single{c:RC}{a:AV}{v:Value}(h:ak c a v):aJ c [a] [v]:=by simp only[aJ];exact⟨v,[],rfl,h,rfl⟩
theorem aY.nth{c:RC}{b:Nat}:∀{l:List AV}{off i:Nat}{a:AV},aY c b off l->l[i]? =δ a->∃v,c.w.cell? ⟨b,off+i,η⟩=δ v/\bY v=ι/\ak c a v
 |[],off,i,a,h,k=>by simp at k
 |x::l,off,0,a,h,k=>by simp only[aY]at h;simp at k;subst k;exact h.1
 |x::l,off,i+1,a,h,k=>by simp only[aY]at h;simp at k;have:=aY.nth h.2 k;rwa[show off+1+i=off+(i+1) by omega]at this
open aY renaming nth->amg
theorem aY.of{c:RC}{b:Nat}:∀{l:List AV}{off:Nat},(∀i a,l[i]? =δ a->∃v,c.w.cell? ⟨b,off+i,η⟩=δ v/\bY v=ι/\ak c a v)->aY c b off l
 |[],off,h=>by simp [aY]
 |x::l,off,h=>by simp only[aY];refine⟨by simpa using h 0 x rfl,aY.of λi a hi=>?_⟩;have:=h (i+1) a (by simpa using hi);rwa[show off+(i+1)=off+1+i by omega]at this
open aY renaming of->amK
theorem aY.drop{c:RC}{b:Nat}{l:List AV}{off:Nat}(n:Nat)(h:aY c b off l):aY c b (off+n) (l.drop n):=
 amK λi a hi=>by have:=amg h (i:=n+i) (a:=a) (by rw[<-hi,WI]);rwa[show off+(n+i)=off+n+i by omega]at this
theorem aY.take{c:RC}{b:Nat}{l:List AV}{off:Nat}(n:Nat)(h:aY c b off l):aY c b off (l.take n):=
 amK λi a hi=>by
  have:l[i]? =δ a:=by
   rw[X4]at hi;split at hi
   ·exact hi
   ·cases hi
  exact amg h this
theorem bh.nth{c:RC}{sz b:Nat}:∀{l:List (List AV)}{off i:Nat}{e:List AV},bh c sz b off l->l[i]? =δ e->e.length=sz/\aY c b (off+i*sz) e
 |[],off,i,e,h,k=>by simp at k
 |x::l,off,0,e,h,k=>by simp only[bh]at h;simp at k;subst k;exact⟨h.1,by simpa using h.2.1⟩
 |x::l,off,i+1,e,h,k=>by simp only[bh]at h;simp at k;have:=bh.nth h.2.2 k;rwa[show off+sz+i*sz=off+(i+1)*sz by rw[fB];omega]at this
open bh renaming nth->amr
theorem bh.of{c:RC}{sz b:Nat}:∀{l:List (List AV)}{off:Nat},(∀i e,l[i]? =δ e->e.length=sz/\aY c b (off+i*sz) e)->bh c sz b off l
 |[],off,h=>by simp [bh]
 |x::l,off,h=>by simp only[bh];have h0:=h 0 x rfl;simp at h0;refine⟨h0.1,h0.2,bh.of λi e hi=>?_⟩;have:=h (i+1) e (by simpa using hi);rwa[show off+(i+1)*sz=off+sz+i*sz by rw[fB];omega]at this
theorem bh.drop{c:RC}{sz b:Nat}{l:List (List AV)}{off:Nat}(n:Nat)(h:bh c sz b off l):bh c sz b (off+n*sz) (l.drop n):=
 bh.of λi e hi=>by have:=amr h (i:=n+i) (e:=e) (by rw[<-hi,WI]);rwa[show off+(n+i)*sz=off+n*sz+i*sz by rw[fB];omega]at this
theorem bh.take{c:RC}{sz b:Nat}{l:List (List AV)}{off:Nat}(n:Nat)(h:bh c sz b off l):bh c sz b off (l.take n):=
 bh.of λi e hi=>by
  have:l[i]? =δ e:=by
   rw[X4]at hi;split at hi
   ·exact hi
   ·cases hi
  exact amr h this
theorem LD : Tryd.prog.globalNamed "internal/strconv.uint64pow10" = δ 1 := by kernel_rfl
def xO (w : World) (free : Nat -> Prop) : Prop := Lib.TabIs Tryd.prog w "internal/strconv.uint64pow10" .u64 Lib.pow10Tab /\ 1 < w.heap.size /\ ¬ free 1
theorem xO.to{w w':World}{free free':Nat->Prop}(h:xO w free)(hs:w.heap.size<=w'.heap.size)(hk:∀b,b<w.heap.size->¬free b->w'.heap[b]? =w.heap[b]?)(hf:∀b,b<w.heap.size->free' b->free b):xO w' free':=by obtain⟨h1,h2,h3⟩:=h;refine⟨?_,nQ h2 hs,λk=>h3 (hf _ h2 k)⟩;have e:=hk _ h2 h3;unfold Lib.TabIs World.var? at h1 ⊢;rw[LD,aL]at h1 ⊢;rw[e];exact h1
section
open Go.RowKit
def uA(c:RC)(b:Nat)(cs:List AV):Prop:=(∃arr t,c.w.heap[b]? =δ (.cells arr t (0,0))/\arr.size=cs.length)/\aY c b 0 cs
def Lg(c:RC)(b:Nat):Prop:=∀arr t fz,c.w.heap[b]? =δ (.cells arr t fz)->∀x∈arr.toList,bY x=ι
def aex(c:RC)(b:Nat)(cur left:List (AV×AV)):Prop:=(cur=[]/\left=[]/\∃since seen last,c.w.heap[b]? =δ (.mapIter η since seen last))\/ ∃m seen aW bf,c.w.heap[b]? =δ (.mapIter (δ m) bf seen bf)/\m<c.w.heap.size/\¬c.X m/\c.w.heap[m]? =δ (.map aW bf)/\lT aW bf/\(∃l,bL c left l/\l.Perm (aW.toList.filter λe=>!seen.contains e.born))/\ (cur=[]\/∃k v e,cur=[(k,v)]/\seen.back? =δ e.born/\e∈aW.toList/\ak c k e.key/\ak c v e.val)
def lS(c:RC)(p:Pl):aM->Prop
 |.box cs=>p.g=0/\uA c p.b cs
 |.arr g sz es=>p.g=g/\0<g/\p.sz=sz/\0<sz/\(∃arr t,c.w.heap[p.b]? =δ (.cells arr t (0,0))/\arr.size=p.mP)/\p.base+es.length*sz<=p.mP/\bh c sz p.b p.base es/\Lg c p.b
 |.oO g sz es=>p.g=g/\0<g/\p.sz=sz/\0<sz/\(∃arr t,c.w.heap[p.b]? =δ (.cells arr t (0,0))/\arr.size=p.mP)/\p.base+es.length*sz=p.mP/\bh c sz p.b p.base es/\Lg c p.b
 |.map es=>p.g=0/\∃aW bf,c.w.heap[p.b]? =δ (.map aW bf)/\lT aW bf/\bL c es aW.toList
 |.it cur left=>p.g=0/\aex c p.b cur left
structure eX (c : RC) (σ : Heap) : Prop where
 len:c.E.length=σ.length
 inj:∀(i j:Nat)(p q:Pl),c.E[i]? =δ p->c.E[j]? =δ q->p.b=q.b->i=j
 blk:∀(i:Nat)(p:Pl)(x:aM),c.E[i]? =δ p->σ[i]? =δ x->lS c p x
structure Z where
 w:World
 E:List Pl
 X:Nat->Prop
 nm:List Nat
def ctx(z:Z)(w:World)(E:List Pl)(pb:Nat->Option Nat):RC:=⟨w,E,λb=>z.X b\/(∃p∈E,p.b=b)\/∃i,pb i=δ b,z.nm⟩
def aev(z:Z)(b:Nat):Prop:=z.X b\/∃p∈z.E,p.b=b
structure qS (z : Z) : Prop where
 f:∀b,z.X b->b<z.w.heap.size
 tab:xO z.w (aev z)
instance {z : Z} : CoeFun (qS z) (λ_ => ∀ b, z.X b -> b < z.w.heap.size) := ⟨qS.f⟩
theorem qS.none{z:Z}(h:qS z){nm:List Nat}:qS ⟨z.w,[],λ_=>False,nm⟩:=
 ⟨λ_(k:False)=>k.elim,h.tab.to (bJ _) (λ_ _ _=>rfl) λb _ k=>by rcases k with k|⟨p,hp,_⟩;exact(show False from k).elim;cases hp⟩
structure Out (z : Z) (w : World) (E : List Pl) : Prop where
 os:w.os=z.w.os
 tape:w.tape=z.w.tape
 output:w.output=z.w.output
 size:z.w.heap.size<=w.heap.size
 stay:∀b,b<z.w.heap.size->(∀p∈z.E,p.b≠b)->w.heap[b]? =z.w.heap[b]?
 fresh':∀(i:Nat)(p:Pl),E[i]? =δ p->z.w.heap.size<=p.b\/∃q:Pl,z.E[i]? =δ q/\q.b=p.b
 env:∀(i:Nat)(p:Pl),z.E[i]? =δ p->∃p':Pl,E[i]? =δ p'/\(p'=p\/(0<p.g/\p.g<p'.g))
 lt:qS z
 mine:∀p∈z.E,p.b<z.w.heap.size
theorem Out.fresh{z:Z}{w:World}{E:List Pl}(h:Out z w E)(p:Pl)(hp:p∈E):z.w.heap.size<=p.b\/∃q∈z.E,q.b=p.b:=by
 obtain⟨i,hi,rfl⟩:=Wg.1 hp;rcases h.fresh' i E[i] (by simp [hi])with k|⟨q,hq,k⟩
 ·exact .inl k
 ·exact .inr ⟨q,bR hq,k⟩
def Slot(c:RC)(pb:Nat->Option Nat)(i:Nat)(av:AV)(v:Value):Prop:=match av with
 |.lbx cs=>∃b,pb i=δ b/\v=.pointer (δ ⟨b,0,η⟩)/\uA c b cs
 |av=>ak c av v
def mK(a:Act):Option (Nat×Bool)->Prop
 |none=>True
 |some (g,want)=>a.tmps.getD g undef=.bool want
structure St (X : Fx) (z : Z) (s : AS) (a : Act) (w : World) (E : List Pl) (pb : Nat -> Option Nat) : Prop where
 len:a.tmps.size=s.sl.length
 mM:s.sl.length=X.n
 slot:∀i av,s.sl[i]? =δ av->Slot (ctx z w E pb) pb i av (a.tmps.getD i undef)
 box:∀i cs,s.sl[i]? =δ (.lbx cs)->X.L.contains i=ι
 jy:∀t p,s.A t=δ p->mK a p.tag->∃b,pb p.slot=δ b/\a.tmps.getD t undef=.pointer (δ ⟨b,p.off,η⟩)
 priv:∀i b,pb i=δ b->z.w.heap.size<=b/\b<w.heap.size/\∀p∈E,p.b≠b
 inj:∀i j b,pb i=δ b->pb j=δ b->i=j
 heap:eX (ctx z w E pb) s.σ
 defers:a.defers=[]
 out:Out z w E
 nm:X.nm=z.nm
theorem uA.mono{c c':RC}(h:Ext c c'){b:Nat}{cs:List AV}(hb:c'.w.heap[b]? =c.w.heap[b]?)(k:uA c b cs):uA c' b cs:=
 ⟨by rw[hb];exact k.1,aY.mono h b hb cs 0 k.2⟩
theorem bL.mono{c c':RC}(h:Ext c c'){l:List (AV×AV)}{es:List MapEntry}(r:bL c l es):bL c' l es:=bL.KY h l es r
theorem vU{c:RC}{b:Nat}{arr:Array Value}{t:TypeId}{fz:Nat×Nat}(h:c.w.heap[b]? =δ (.cells arr t fz))(ho:∀x∈arr.toList,bY x=ι):Lg c b:=λwA t' fz' e=>by rw[h]at e;injection e with e;injection e with e1;subst e1;exact ho
theorem lS.mono{c c':RC}(h:Ext c c'){p:Pl}{x:aM}(hb:c'.w.heap[p.b]? =c.w.heap[p.b]?)(k:lS c p x):lS c' p x:=by
 cases x with
 |box cs=>exact⟨k.1,k.2.mono h hb⟩
 |arr g sz es=>obtain⟨h1,h2,h3,h4,h5,h6,h7,h8⟩:=k;exact⟨h1,h2,h3,h4,by rw[hb];exact h5,h6,bh.mono h sz _ hb es _ h7,λarr t fz e=>h8 arr t fz (hb▸e)⟩
 |oO g sz es=>obtain⟨h1,h2,h3,h4,h5,h6,h7,h8⟩:=k;exact⟨h1,h2,h3,h4,by rw[hb];exact h5,h6,bh.mono h sz _ hb es _ h7,λarr t fz e=>h8 arr t fz (hb▸e)⟩
 |map es=>obtain⟨h1,aW,bf,h2,hw,h3⟩:=k;exact⟨h1,aW,bf,by rw[hb];exact h2,hw,h3.mono h⟩
 |it cur left=>
  obtain⟨h1,h2⟩:=k;refine⟨h1,?_⟩;rcases h2 with⟨h2,h2',since,seen,last,h3⟩|⟨m,seen,aW,bf,h3,h4,h5,h6,h7,h8,h9⟩
  ·exact .inl ⟨h2,h2',since,seen,last,by rw[hb];exact h3⟩
  ·refine .inr ⟨m,seen,aW,bf,by rw[hb];exact h3,nQ h4 h.size,(h.stay m h4 h5).2,by rw[(h.stay m h4 h5).1];exact h6,h7,h8.imp λ_ q=>⟨q.1.mono h,q.2⟩,?_⟩;rcases h9 with h9|⟨k,v,e,e1,e2,e3,e4,e5⟩
   ·exact .inl h9
   ·exact .inr ⟨k,v,e,e1,e2,e3,X5 h _ _ e4,X5 h _ _ e5⟩
theorem lS.lt{c:RC}{p:Pl}{x:aM}(k:lS c p x):p.b<c.w.heap.size:=by
 have key:∀o,c.w.heap[p.b]? =δ o->p.b<c.w.heap.size:=λo ho=>(tu.1 ho).1
 cases x with
 |box cs=>obtain⟨_,⟨⟨arr,t,h,_⟩,_⟩⟩:=k;exact key _ h
 |arr g sz es=>obtain⟨_,_,_,_,⟨arr,t,h,_⟩,_⟩:=k;exact key _ h
 |oO g sz es=>obtain⟨_,_,_,_,⟨arr,t,h,_⟩,_⟩:=k;exact key _ h
 |map es=>obtain⟨_,aW,bf,h,_⟩:=k;exact key _ h
 |it cur left=>obtain⟨_,⟨_,_,_,_,_,h⟩|⟨_,_,_,_,h,_⟩⟩:=k<;>exact key _ h
theorem eX.lt{c:RC}{σ:Heap}(h:eX c σ){p:Pl}(hp:p∈c.E):p.b<c.w.heap.size:=by
 obtain⟨i,hi,rfl⟩:=Wg.1 hp;have hs:i<σ.length:=by rw[<-h.len];exact hi
 exact(h.blk i _ σ[i] (by simp [hi]) (by simp [hs])).lt
theorem eX.mono{c c':RC}{σ:Heap}(h:eX c σ)(hx:Ext c c')(hE:c'.E=c.E)(hb:∀p∈c.E,c'.w.heap[p.b]? =c.w.heap[p.b]?):eX c' σ:=by refine⟨by rw[hE];exact h.len,by rw[hE];exact h.inj,λi p x hi cM=>?_⟩;rw[hE]at hi;exact(h.blk i p x hi cM).mono hx (hb p (bR hi))
theorem Slot.rep{c:RC}{pb:Nat->Option Nat}{i:Nat}{av:AV}{v:Value}(h:Slot c pb i av v)(k:∀cs,av≠.lbx cs):ak c av v:=by cases av<;>first|exact h|exact absurd rfl (k _)
theorem Slot.of{c:RC}{pb:Nat->Option Nat}{i:Nat}{av:AV}{v:Value}(h:ak c av v):Slot c pb i av v:=by cases av<;>first|exact h|(simp [ak]at h)
section
variable {X : Fx} {z : Z} {s : AS} {a : Act} {w w' : World} {E : List Pl} {pb : Nat -> Option Nat}
theorem St.ext(h:St X z s a w E pb){E':List Pl}{bC:Nat->Option Nat}{σ':Heap}(hx:Ext (ctx z w E pb) (ctx z w' E' bC))
  (hp:∀i b,pb i=δ b->bC i=δ b/\w'.heap[b]? =w.heap[b]?) (aem:∀i b,bC i=δ b->z.w.heap.size<=b/\b<w'.heap.size/\∀p∈E',p.b≠b)
  (hinj:∀i j b,bC i=δ b->bC j=δ b->i=j) (hh:eX (ctx z w' E' bC) σ') (ho:Out z w' E'):St X z (s.heap σ') a w' E' bC:=by
 refine⟨h.len,h.mM,λi av hi=>?_,h.box,λt p hp' ht=>?_,aem,hinj,hh,h.defers,ho,h.nm⟩
 ·have k:=h.slot i av hi;cases av with
  |lbx cs=>obtain⟨b,h1,h2,h3⟩:=k;exact⟨b,(hp i b h1).1,h2,h3.mono hx (hp i b h1).2⟩
  |_=>exact X5 hx _ _ k
 ·obtain⟨b,h1,h2⟩:=h.jy t p hp' ht;exact⟨b,(hp _ b h1).1,h2⟩
theorem rJ(g:Below w.heap.size w w'):Ext (ctx z w E pb) (ctx z w' E pb):=
 ⟨g.size,λb hb hX=>⟨g.block b hb,hX⟩,λi p h=>⟨p,h,.inl rfl⟩,rfl⟩
theorem Out.grow(h:Out z w E)(g:Below w.heap.size w w'):Out z w' E:=
 ⟨g.os.trans h.os,g.tape.trans h.tape,g.output.trans h.output,o8 h.size g.size,λb hb hp=>(g.block b (nQ hb h.size)).trans (h.stay b hb hp),h.fresh',h.env,h.lt,h.mine⟩
theorem St.grow(h:St X z s a w E pb)(g:Below w.heap.size w w'):St X z s a w' E pb:=by
 have hx:Ext (ctx z w E pb) (ctx z w' E pb):=rJ g
 exact h.ext (σ':=s.σ) hx (λi b hb=>⟨hb,g.block b (h.priv i b hb).2.1⟩) (λi b hb=>⟨(h.priv i b hb).1,nQ (h.priv i b hb).2.1 g.size,(h.priv i b hb).2.2⟩) h.inj
  (h.heap.mono hx rfl λp hp=>g.block _ (h.heap.lt hp)) (h.out.grow g)
theorem St.fresh(h:St X z s a w E pb):¬(ctx z w E pb).X w.heap.size:=by
 rintro(h1|⟨p,hp,e⟩|⟨i,hi⟩)
 ·have:=h.out.lt _ h1;have:=h.out.size;omega
 ·have:=h.heap.lt hp;simp only[ctx]at this;omega
 ·have:=(h.priv i _ hi).2.1;omega
theorem Al(l:Array Value)(d i:Nat)(v:Value):(l.setIfInBounds d v).getD i undef=if i=d/\d<l.size then v else l.getD i undef:=by
 by_cases h:d=i
 ·subst h;by_cases hd:d<l.size
  ·simp [amh,hd]
  ·simp [amh,hd]
 ·have h':¬i=d:=λe=>h e.symm
  simp [jY,XS h,h']
theorem OF{d:Nat}{o:Option qh}{p:qh}(h:kO d o=δ p):o=δ p/\∀g w,p.tag=δ (g,w)->g≠d:=by
 cases o with
 |none=>simp [kO]at h
 |some q=>
  simp only[kO]at h;cases hq:q.tag with
  |none=>rw[hq]at h;simp at h;subst h;exact⟨rfl,λg w e=>by rw[hq]at e;cases e⟩
  |some gw=>
   obtain⟨g,w⟩:=gw;rw[hq]at h;simp only at h;by_cases e:g=d
   ·simp [e]at h
   ·have:(g==d)=θ:=by simpa using e
    rw[this]at h;simp at h;subst h;exact⟨rfl,λg' w' e'=>by rw[hq]at e';injection e' with e';injection e' with e1 e2;subst e1;exact e⟩
theorem JG{d:Nat}{v:Value}{tag:Option (Nat×Bool)}(h:∀g w,tag=δ (g,w)->g≠d)(k:mK (a.put (δ d) v) tag):mK a tag:=by
 cases tag with
 |none=>trivial
 |some gw=>obtain⟨g,want⟩:=gw;have hg:=h g want rfl;simp only[mK,al5]at k ⊢;rw[Al]at k;rwa[aB (λe=>hg e.1)]at k
theorem St.put(h:St X z s a w E pb)(d:Option Nat){av:AV}{v:Value}(hr:ak (ctx z w E pb) av v):St X z (s.put X d av) (a.put d v) w E pb:=by
 cases d with
 |none=>exact h
 |some d=>
  refine⟨by simp [alQ,al5,h.len],by simp [alQ,h.mM],λi x hi=>?_,λi cs hi=>?_,λt p hp ht=>?_,h.priv,h.inj,h.heap,h.defers,h.out,h.nm⟩
  ·simp only[alQ,al5]at hi ⊢;rw[Al];rw[fO]at hi;by_cases e:d=i
   ·subst e;rw[aC rfl]at hi;by_cases hd:d<s.sl.length
    ·rw[aC hd]at hi;rw[aC ⟨rfl,by rw[h.len];exact hd⟩];injection hi with hi
     subst hi;cases X.L.contains d
     ·exact Slot.of hr
     ·exact trivial
    ·rw[aB hd]at hi;cases hi
   ·rw[aB e]at hi;rw[aB (λk=>e k.1.symm)];exact h.slot i x hi
  ·simp only[alQ]at hi;rw[fO]at hi;by_cases e:d=i
   ·subst e;rw[aC rfl]at hi;split at hi
    ·injection hi with hi
     cases hL:X.L.contains d
     ·rw[hL]at hi;simp at hi;subst hi;simp [ak]at hr
     ·rfl
    ·cases hi
   ·rw[aB e]at hi;exact h.box i cs hi
  ·simp only[alQ]at hp;by_cases e:t=d
   ·subst e;simp at hp
   ·have:(t==d)=θ:=by simpa using e
    rw[this]at hp;simp at hp;obtain⟨hp,hg⟩:=OF hp;obtain⟨b,h1,h2⟩:=h.jy t p hp (JG hg ht);refine⟨b,h1,?_⟩;simp only[al5];rw[Al,aB (λk=>e k.1)];exact h2
theorem St.Lm(h:St X z s a w E pb)(d:Option Nat){sl off:Nat}{tag:Option (Nat×Bool)}{v:Value}(hv:mK a tag->∃b,pb sl=δ b/\v=.pointer (δ ⟨b,off,η⟩)):
  St X z (s.jy X d sl off tag) (a.put d v) w E pb:=by
 cases d with
 |none=>exact h
 |some d=>
  have hput:=h.put (δ d) (av:=.undef) (v:=v) (by simp [ak])
  have jR:(s.put X (δ d) .undef).sl=(s.jy X (δ d) sl off tag).sl:=by simp only[alQ,AS.jy];cases X.L.contains d<;>rfl
  refine⟨by rw[<-jR];exact hput.len,by rw[<-jR];exact hput.mM,by rw[<-jR];exact hput.slot,by rw[<-jR];exact hput.box,λt p hp ht=>?_,h.priv,h.inj,h.heap,h.defers,h.out,h.nm⟩;by_cases e:t=d
  ·subst e;simp only[AS.jy]at hp;simp only[beq_self_eq_true,bg]at hp;cases hL:(X.L.contains t||!alM t X.n)
   ·rw[hL]at hp;simp only[aS]at hp
    have hlt:t<a.tmps.size:=by rw[h.len,h.mM];simp only[jZ,alR]at hL;exact Nat.blt_eq.mp hL.2
    have key:p.slot=sl/\p.off=off/\mK a tag:=by
     cases tag with
     |none=>simp at hp;subst hp;exact⟨rfl,rfl,trivial⟩
     |some gw=>
      obtain⟨g,want⟩:=gw;simp only at hp;by_cases eg:g=t
      ·subst eg;simp at hp
      ·have:(g==t)=θ:=by simpa using eg
       rw[this]at hp;simp at hp;subst hp;exact⟨rfl,rfl,JG (d:=t) (v:=v) (λg' w' e'=>by injection e' with e';injection e' with e1;subst e1;exact eg) ht⟩
    obtain⟨k1,k2,k3⟩:=key;obtain⟨b,h1,h2⟩:=hv k3;refine⟨b,by rw[k1];exact h1,?_⟩;simp only[al5];rw[Al,aC ⟨rfl,hlt⟩,k2];exact h2
   ·rw[hL]at hp;simp at hp
  ·have hp':(s.put X (δ d) .undef).A t=δ p:=by
    simp only[AS.jy]at hp;simp only[alQ];have:(t==d)=θ:=by simpa using e
    rw[this]at hp ⊢;exact hp
   exact hput.jy t p hp' ht
def _root_.Go.World.cz(w:World)(b:Nat)(o:Obj):World:={w with heap:=w.heap.setIfInBounds b o}
theorem P0(b k:Nat)(o:Obj):(w.cz b o).heap[k]? =if b=k/\b<w.heap.size then δ o else w.heap[k]? :=by
 simp only[World.cz,XD];by_cases h:b=k
 ·subst h;by_cases hb:b<w.heap.size
  ·simp [hb]
  ·simp [hb]
 ·simp [h]
theorem rE{b:Nat}(o:Obj)(hb:b<w.heap.size):(w.cz b o).heap[b]? =δ o:=by rw[P0,aC ⟨rfl,hb⟩]
theorem uh{b k:Nat}(o:Obj)(h:b≠k):(w.cz b o).heap[k]? =w.heap[k]? :=by rw[P0,aB (λe=>h e.1)]
theorem xA(b:Nat)(o:Obj):(w.cz b o).heap.size=w.heap.size:=by simp [World.cz]
theorem JV{b:Nat}{o:Obj}(hX:(ctx z w E pb).X b):Ext (ctx z w E pb) (ctx z (w.cz b o) E pb):=
 ⟨by simp [ctx,xA],λk hk hn=>⟨uh o (λe=>hn (e▸hX)),hn⟩,λi p h=>⟨p,h,.inl rfl⟩,rfl⟩
theorem sN{w:World}{b off:Nat}{arr:Array Value}{t:TypeId}{fz:Nat×Nat}(h:w.heap[b]? =δ (.cells arr t fz)):w.cell? ⟨b,off,η⟩=arr[off]? :=by simp [World.cell?,h]
theorem aY.tV{c:RC}{b:Nat}{arr:Array Value}{t:TypeId}{fz:Nat×Nat}(h:c.w.heap[b]? =δ (.cells arr t fz)){cs:List AV}{off:Nat}{vs:List Value}
  (hr:aJ c cs vs) (ho:∀x∈vs,bY x=ι) (hv:∀i,i<vs.length->arr[off+i]? =vs[i]?):aY c b off cs:=by
 refine amK λi a hi=>?_
 obtain⟨v,h1,h2⟩:=hr.nth hi;have hl:i<vs.length:=(bB.1 h1).1;exact⟨v,by rw[sN h,hv i hl,h1],ho v (bR h1),h2⟩
theorem aY.HI{c:RC}{b:Nat}:∀{cs:List AV}{off:Nat},aY c b off cs->∃vs,aJ c cs vs/\(∀x∈vs,bY x=ι)/\∀j v,vs[j]? =δ v->c.w.cell? ⟨b,off+j,η⟩=δ v
 |[],off,_=>⟨[],by simp [aJ],by simp,by simp⟩
 |x::l,off,h=>by
  simp only[aY]at h;obtain⟨⟨v,h1,h2,h3⟩,h4⟩:=h;obtain⟨vs,k1,k2,k3⟩:=aY.HI h4;refine⟨v::vs,by simp only[aJ];exact⟨v,vs,rfl,h3,k1⟩,by simpa [h2]using k2,λj u hj=>?_⟩;cases j with
  |zero=>simp at hj;subst hj;exact h1
  |succ j=>simp at hj;have:=k3 j u hj;rwa[show off+1+j=off+(j+1) by omega]at this
theorem St.kQ(h:St X z s a w E pb)(d:Nat)(hL:X.L.contains d=ι){cs:List AV}{vs:List Value}(t:TypeId)(hr:aJ (ctx z w E pb) cs vs)(ho:∀x∈vs,bY x=ι):
  ∃bC,St X z (s.kQ d cs) (a.put (δ d) (.pointer (δ ⟨w.heap.size,0,η⟩))) (w.alloc (.cells vs.toArray t)) E bC:=by
 have g:Below w.heap.size w (w.alloc (.cells vs.toArray t)):=(Below.refl _ _).alloc (bJ _) _;have h1:=h.grow g;obtain⟨bC,LW⟩:∃bC:Nat->Option Nat,bC=λi=>if i=d then δ w.heap.size else pb i:=⟨_,rfl⟩
 have e1:∀i,i≠d->bC i=pb i:=λi hi=>by rw[LW];simp [hi]
 have e2:bC d=δ w.heap.size:=by rw[LW];simp
 clear LW
 have hx:Ext (ctx z w E pb) (ctx z (w.alloc (.cells vs.toArray t)) E bC):=by
  refine⟨g.size,λb hb hn=>⟨g.block b hb,?_⟩,λi p h=>⟨p,h,.inl rfl⟩,rfl⟩;rintro(k|k|⟨i,k⟩)
  ·exact hn (.inl k)
  ·exact hn (.inr (.inl k))
  ·by_cases e:i=d
   ·subst e;rw[e2]at k;injection k with k;simp [ctx]at hb;omega
   ·rw[e1 i e]at k;exact hn (.inr (.inr ⟨i,k⟩))
 have qU:uA (ctx z (w.alloc (.cells vs.toArray t)) E bC) w.heap.size cs:=by have hb:(w.alloc (.cells vs.toArray t)).heap[w.heap.size]? =δ (.cells vs.toArray t (0,0)):=(Zs w _).1;exact⟨⟨vs.toArray,t,hb,by simp [hr.length]⟩,aY.tV hb (WR hx _ _ hr) ho (λi hi=>by simp)⟩
 refine⟨bC,by simp [AS.kQ,al5,h.len],by simp [AS.kQ,h.mM],λi x hi=>?_,λi cs' hi=>?_,λt' p hp ht=>?_,λi b hb=>?_,λi j b hi hj=>?_,h.heap.mono hx rfl λp hp=>g.block _ (h.heap.lt hp),h.defers,h.out.grow g,h.nm⟩
 ·simp only[AS.kQ,al5]at hi ⊢;rw[Al];rw[fO]at hi;by_cases e:d=i
  ·subst e;rw[aC rfl]at hi;by_cases hd:d<s.sl.length
   ·rw[aC hd]at hi;rw[aC ⟨rfl,by rw[h.len];exact hd⟩];injection hi with hi
    subst hi;exact⟨_,e2,rfl,qU⟩
   ·rw[aB hd]at hi;cases hi
  ·rw[aB e]at hi;rw[aB (λk=>e k.1.symm)];have k:=h.slot i x hi;cases x with
   |lbx cs'=>obtain⟨b,k1,k2,k3⟩:=k;exact⟨b,by rw[e1 i (λe'=>e e'.symm)];exact k1,k2,k3.mono hx (g.block b (h.priv i b k1).2.1)⟩
   |_=>exact X5 hx _ _ k
 ·simp only[AS.kQ]at hi;rw[fO]at hi;by_cases e:d=i
  ·subst e;exact hL
  ·rw[aB e]at hi;exact h.box i cs' hi
 ·simp only[AS.kQ]at hp;by_cases e:t'=d
  ·subst e;simp at hp
  ·have:(t'==d)=θ:=by simpa using e
   rw[this]at hp;simp only[aS]at hp;cases hk:kO d (s.A t')with
   |none=>rw[hk]at hp;simp at hp
   |some q=>
    rw[hk]at hp;simp only at hp;by_cases eq:q.slot=d
    ·simp [eq]at hp
    ·have:(q.slot==d)=θ:=by simpa using eq
     rw[this]at hp;simp at hp;subst hp;obtain⟨hp,hg⟩:=OF hk;obtain⟨b,k1,k2⟩:=h.jy t' q hp (JG hg ht);refine⟨b,by rw[e1 _ eq];exact k1,?_⟩;simp only[al5];rw[Al,aB (λk=>e k.1)];exact k2
 ·by_cases e:i=d
  ·subst e;rw[e2]at hb;injection hb with hb;subst hb
   exact⟨h.out.size,by simp,λp hp=>by have:=h.heap.lt hp;simp only[ctx]at this;omega⟩
  ·rw[e1 i e]at hb;exact⟨(h.priv i b hb).1,by have:=(h.priv i b hb).2.1;simp;omega,(h.priv i b hb).2.2⟩
 ·by_cases ei:i=d
  ·by_cases ej:j=d
   ·rw[ei,ej]
   ·subst ei;rw[e2]at hi;rw[e1 j ej]at hj;injection hi with hi;have:=(h.priv j b hj).2.1;omega
  ·by_cases ej:j=d
   ·subst ej;rw[e2]at hj;rw[e1 i ei]at hi;injection hj with hj;have:=(h.priv i b hi).2.1;omega
   ·rw[e1 i ei]at hi;rw[e1 j ej]at hj;exact h.inj i j b hi hj
theorem St.adB(h:St X z s a w E pb){i b:Nat}(hb:pb i=δ b)(hi:∃cs0,s.sl[i]? =δ (.lbx cs0)){cs:List AV}{arr:Array Value}{t:TypeId}
  (hr:aJ (ctx z w E pb) cs arr.toList) (ho:∀x∈arr.toList,bY x=ι):St X z ⟨s.sl.set i (.lbx cs),s.A,s.σ⟩ a (w.cz b (.cells arr t (0,0))) E pb:=by
 have hlt:=(h.priv i b hb).2.1;have hX:(ctx z w E pb).X b:=.inr (.inr ⟨i,hb⟩);have hx:Ext (ctx z w E pb) (ctx z (w.cz b (.cells arr t (0,0))) E pb):=JV hX
 have qU:uA (ctx z (w.cz b (.cells arr t (0,0))) E pb) b cs:=by have hh:=rE (w:=w) (.cells arr t (0,0)) hlt;exact⟨⟨arr,t,hh,by have:=hr.length;simpa using this.symm⟩,aY.tV hh (WR hx _ _ hr) ho (λj hj=>by simp)⟩
 have ade:∀p∈E,(w.cz b (.cells arr t (0,0))).heap[p.b]? =w.heap[p.b]? :=λp hp=>uh _ (λe=>(h.priv i b hb).2.2 p hp e.symm)
 obtain⟨cs0,hi⟩:=hi;have hil:i<s.sl.length:=(bB.1 hi).1;refine⟨by simp [h.len],by simp [h.mM],λj x hj=>?_,λj cs' hj=>?_,h.jy,λj b' hj=>⟨(h.priv j b' hj).1,by rw[xA];exact(h.priv j b' hj).2.1,(h.priv j b' hj).2.2⟩,h.inj,h.heap.mono hx rfl ade,h.defers,?_,h.nm⟩
 ·simp only at hj;rw[fO]at hj;by_cases e:i=j
  ·subst e;rw[aC rfl,aC hil]at hj;injection hj with hj;subst hj
   have k:=h.slot i _ hi;obtain⟨b',k1,k2,_⟩:=k;rw[hb]at k1;injection k1 with k1;subst k1
   exact⟨b,hb,k2,qU⟩
  ·rw[aB e]at hj;have k:=h.slot j x hj;cases x with
   |lbx cs'=>obtain⟨b',k1,k2,k3⟩:=k;exact⟨b',k1,k2,k3.mono hx (uh _ (λe'=>e (h.inj i j b hb (e'▸k1))))⟩
   |_=>exact X5 hx _ _ k
 ·simp only at hj;rw[fO]at hj;by_cases e:i=j
  ·subst e;exact h.box i cs0 hi
  ·rw[aB e]at hj;exact h.box j cs' hj
 ·have o:=h.out;exact⟨o.os,o.tape,o.output,by rw[xA];exact o.size,λk hk hp=>by rw[uh _ (by have:=(h.priv i b hb).1;omega)];exact o.stay k hk hp,o.fresh',o.env,o.lt,o.mine⟩
theorem St.ux(h:St X z s a w E pb)(o:Obj)(blk:aM)(p:Pl)(hp:p.b=w.heap.size)
  (hk:Ext (ctx z w E pb) (ctx z (w.alloc o) (E++[p]) pb)->lS (ctx z (w.alloc o) (E++[p]) pb) p blk):St X z (s.heap (s.σ++[blk])) a (w.alloc o) (E++[p]) pb:=by
 have g:Below w.heap.size w (w.alloc o):=(Below.refl _ _).alloc (bJ _) _
 have hx:Ext (ctx z w E pb) (ctx z (w.alloc o) (E++[p]) pb):=by
  refine⟨g.size,λb hb hn=>⟨g.block b hb,?_⟩,λi q hq=>⟨q,?_,.inl rfl⟩,rfl⟩
  ·rintro(k|⟨q,hq,k⟩|k)
   ·exact hn (.inl k)
   ·rcases eG.1 hq with hq|hq
    ·exact hn (.inr (.inl ⟨q,hq,k⟩))
    ·simp at hq;subst hq;simp [ctx]at hb;omega
   ·exact hn (.inr (.inr k))
  ·simp only[ctx]at hq ⊢;rw[fZ (bB.1 hq).1];exact hq
 have hlen:=h.heap.len;simp only[ctx]at hlen;refine h.ext hx (λi b hb=>⟨hb,g.block b (h.priv i b hb).2.1⟩) (λi b hb=>⟨(h.priv i b hb).1,by have:=(h.priv i b hb).2.1;simp;omega,λq hq=>?_⟩) h.inj ⟨by simp [ctx,hlen],λi j q r hq hr he=>?_,λi q x hq cM=>?_⟩ ?_
 ·rcases eG.1 hq with hq|hq
  ·exact(h.priv i b hb).2.2 q hq
  ·simp at hq;subst hq;have:=(h.priv i b hb).2.1;omega
 ·simp only[ctx]at hq hr
  have key:∀(i:Nat)(q:Pl),(E++[p])[i]? =δ q->(i<E.length/\E[i]? =δ q)\/(i=E.length/\q=p):=λi q hq=>by
   by_cases hi:i<E.length
   ·rw[fZ hi]at hq;exact .inl ⟨hi,hq⟩
   ·rw[iH (by omega)]at hq
    have:i-E.length=0:=by
     rcases Nat.eq_zero_or_pos (i-E.length)with e|e
     ·exact e
     ·rw[iW (by simp;omega)]at hq;cases hq
    rw[this]at hq;simp at hq;exact .inr ⟨by omega,hq.symm⟩
  rcases key i q hq with⟨hi,wO⟩|⟨hi,eq⟩<;>rcases key j r hr with⟨hj,jQ⟩|⟨hj,er⟩
  ·exact h.heap.inj i j q r wO jQ he
  ·have:=h.heap.lt (p:=q) (bR wO);simp only[ctx]at this;rw[er]at he;omega
  ·have:=h.heap.lt (p:=r) (bR jQ);simp only[ctx]at this;rw[eq]at he;omega
  ·omega
 ·simp only[ctx]at hq;by_cases hi:i<E.length
  ·rw[fZ hi]at hq;rw[fZ (by omega)]at cM;exact(h.heap.blk i q x hq cM).mono hx (g.block _ (h.heap.lt (p:=q) (bR hq)))
  ·rw[iH (by omega)]at hq cM
   have:i-E.length=0:=by
    rcases Nat.eq_zero_or_pos (i-E.length)with e|e
    ·exact e
    ·rw[iW (by simp;omega)]at hq;cases hq
   rw[this]at hq;rw[show i-s.σ.length=0 by omega]at cM;simp at hq cM;subst hq;subst cM;exact hk hx
 ·have o':=h.out.grow g;refine⟨o'.os,o'.tape,o'.output,o'.size,o'.stay,λi q hq=>?_,λi q hq=>?_,o'.lt,o'.mine⟩
  ·by_cases hi:i<E.length
   ·rw[fZ hi]at hq;exact o'.fresh' i q hq
   ·rw[iH (by omega)]at hq
    have:q=p:=by have:=bR hq;simpa using this
    subst this;exact .inl (by rw[hp];exact h.out.size)
  ·obtain⟨p',k1,k2⟩:=o'.env i q hq;exact⟨p',by rw[fZ (bB.1 k1).1];exact k1,k2⟩
theorem St.tg(h:St X z s a w E pb){i:Nat}{p:Pl}(hi:E[i]? =δ p)(o:Obj)(blk:aM)
  (hk:Ext (ctx z w E pb) (ctx z (w.cz p.b o) E pb)->lS (ctx z (w.cz p.b o) E pb) p blk):St X z (s.heap (s.σ.set i blk)) a (w.cz p.b o) E pb:=by
 have hm:p∈E:=bR hi;have hX:(ctx z w E pb).X p.b:=.inr (.inl ⟨p,hm,rfl⟩);have hx:Ext (ctx z w E pb) (ctx z (w.cz p.b o) E pb):=JV hX
 refine h.ext hx (λj b hb=>⟨hb,uh _ (λe=>(h.priv j b hb).2.2 p hm e)⟩) (λj b hb=>⟨(h.priv j b hb).1,by rw[xA];exact(h.priv j b hb).2.1,(h.priv j b hb).2.2⟩) h.inj
  ⟨by have:=h.heap.len;simpa [ctx]using this,h.heap.inj,λj q x hq cM=>?_⟩ ?_
 ·by_cases e:i=j
  ·subst e;simp only[ctx]at hq;rw[hi]at hq;injection hq with hq;subst hq
   rw[fO]at cM;rw[aC rfl]at cM;split at cM
   ·injection cM with cM;subst cM;exact hk hx
   ·cases cM
  ·rw[fO,aB e]at cM;exact(h.heap.blk j q x hq cM).mono hx (uh _ (λe'=>e (h.heap.inj i j p q hi hq e')))
 ·have o':=h.out;refine⟨o'.os,o'.tape,o'.output,by rw[xA];exact o'.size,λk hk hp=>?_,o'.fresh',o'.env,o'.lt,o'.mine⟩;rw[uh]
  ·exact o'.stay k hk hp
  ·rintro rfl;rcases o'.fresh p hm with e|⟨q,hq,e⟩
   ·omega
   ·exact hp q hq e
end
end
section
open Go.RowKit
theorem Je(c:RC)(v:Value):ak c (vZ v) v:=by unfold vZ;split<;>simp [ak]
theorem P7(c:RC)(v:Value):ak c (qL v) v:=by
 unfold qL;split
 ·rename_i cs;cases h:cs.toList.all bY
  ·simp [ak]
  ·simp only[bg,ak];refine⟨cs,rfl,?_,iX.1 h⟩;have:=aJ.map (c:=c) vZ id cs.toList (λx _=>Je c x);simpa using this
 ·exact Je c _
section
variable {X : Fx} {z : Z} {s : AS} {a : Act} {w w' : World} {E : List Pl} {pb : Nat -> Option Nat}
theorem cH(h:St X z s a w E pb)(x:Operand):ak (ctx z w E pb) (ev X s x) (a.eval x):=by
 cases x with
 |tmp t=>
  simp only[ev,Act.eval];cases hL:X.L.contains t
  ·simp only[aS];by_cases ht:t<s.sl.length
   ·have hs:s.sl[t]? =δ s.sl[t]:=by simp [ht]
    have e:s.sl.getD t .undef=s.sl[t]:=by simp [Yn,ht]
    rw[e];refine(h.slot t _ hs).rep λcs k=>?_
    have:=h.box t cs (by rw[hs,k]);rw[hL]at this;cases this
   ·have e:s.sl.getD t .undef=.undef:=by simp [Yn,Nat.le_of_not_lt ht]
    rw[e];simp [ak]
  ·simp [ak]
 |const v=>exact P7 _ v
 |global g=>simp [ev,ak]
 |func f=>simp only[ev,Act.eval,ak];exact⟨f,#[],rfl,by rw[h.nm];rfl,by simp [aJ]⟩
theorem As(h:St X z s a w E pb)(xs:List Operand):aJ (ctx z w E pb) (xs.map (ev X s)) (xs.map a.eval):=aJ.map _ _ xs λx _=>cH h x
end
section
variable {P : Program} {c : RC} (w : World)
theorem Ra{t:TypeId}{d:TypeDesc}(h:P.underlying t=δ d):∃i,P.info? t=δ i:=by
 unfold Program.underlying at h;split at h
 ·rename_i u e;exact⟨_,by assumption⟩
 ·rename_i i e;exact⟨_,by assumption⟩
 ·cases h
theorem rF{t:TypeId}{i:TypeInfo}(h:P.info? t=δ i):(typeInfo t).run P w=.ok i w:=by simp [typeInfo,h]
theorem BV{t:TypeId}{i:TypeInfo}(h:P.info? t=δ i):(sizeOf t).run P w=.ok (P.cellsOf t) w:=by simp [sizeOf,rF w h,amx,h]
theorem IC{t:TypeId}{d:TypeDesc}(h:P.underlying t=δ d):(sizeOf t).run P w=.ok (P.cellsOf t) w:=by obtain⟨i,hi⟩:=Ra h;exact BV w hi
theorem Pt(X:Fx){t:TypeId}{d:TypeDesc}(h:X.P.underlying t=δ d):(isAgg t).run X.P w=.ok (xI X t) w:=by unfold isAgg;simp only[b7,run_underlying h,Ψ];unfold xI;rw[h];cases d<;>rfl
theorem It{av x:AV}{v:Value}(h:l5 av=δ x)(r:ak c av v):x=av/\bY v=ι:=by
 cases av<;>simp only[l5]at h<;>first|(cases h;done)|skip
 all_goals
  injection h with h
  refine⟨h.symm,?_⟩;simp only[ak]at r
 case int=>subst r;rfl
 case bool=>subst r;rfl
 case str=>subst r;rfl
 case fm=>obtain⟨_,rfl,_⟩:=r;rfl
 case sl=>obtain⟨_,_,rfl,_⟩:=r;rfl
 case aH=>subst r;rfl
 case ez=>obtain⟨_,rfl⟩:=r;rfl
 case rp=>obtain⟨_,_,rfl,_⟩:=r;rfl
 case np=>subst r;rfl
 case op=>obtain⟨_,_,_,rfl⟩:=r;rfl
 case oe=>obtain⟨_,_,_,_,_,rfl,_⟩:=r;rfl
 case os=>obtain⟨_,_,_,_,_,_,rfl,_⟩:=r;rfl
 case om=>obtain⟨_,_,_,rfl⟩:=r;rfl
 case nm=>subst r;rfl
 case fn=>obtain⟨_,_,rfl,_⟩:=r;rfl
 case tU=>subst r;rfl
theorem cells_one{v:Value}(h:bY v=ι):v.cells=#[v]:=by cases v<;>first|rfl|(simp [bY]at h)
theorem zW(X:Fx){t:TypeId}{av:AV}{cs:List AV}{v:Value}(h:sY X t av=δ cs)(r:ak c av v):
  aJ c cs v.cells.toList/\(∀x∈v.cells.toList,bY x=ι)/\v.cells.size=X.P.cellsOf t/\∃d,X.P.underlying t=δ d:=by
 unfold sY at h;cases hd:X.P.underlying t with
 |none=>rw[hd]at h;cases h
 |some d=>
  rw[hd]at h;simp only at h;cases ha:xI X t
  ·rw[ha]at h;simp only[aS]at h;cases hc:(X.P.cellsOf t==1)
   ·rw[hc]at h;cases h
   ·rw[hc]at h;simp only[bg]at h;obtain⟨x,h1,h2⟩:=bl.1 h;injection h2 with h2
    obtain⟨e,h3⟩:=It h1 r;subst h2;subst e;rw[cells_one h3];exact⟨by simpa using aJ.single r,by simpa using h3,by simpa using(beq_iff_eq.1 hc).symm,d,rfl⟩
  ·rw[ha]at h;simp only[bg]at h;cases av<;>simp only[i7]at h<;>first|(cases h;done)|skip
   rename_i l;split at h
   ·injection h with h
    subst h;simp only[ak]at r;obtain⟨vs,rfl,r1,r2⟩:=r;refine⟨r1,r2,?_,d,rfl⟩;have:=r1.length;simp only[Value.cells];rw[<-Z7,<-this];assumption
   ·cases h
theorem kI(b o n:Nat):(⟨b,o,η⟩:Addr).add n=⟨b,o+n,η⟩:=by
 unfold Addr.add;split
 ·subst_vars;rfl
 ·rfl
theorem Fb(X:Fx)(hw:c.w=w){t:TypeId}{b off o:Nat}{cs:List AV}{av:AV}(r:aY c b off cs)(h:uD X t o cs=δ av):
  ∃v,(loadVar t ⟨b,off+o,η⟩).run X.P w=.ok v w/\ak c av v:=by
 unfold uD at h;cases hd:X.P.underlying t with
 |none=>rw[hd]at h;cases h
 |some d=>
  rw[hd]at h;simp only at h;unfold loadVar;simp only[b7,Pt w X hd,Ψ];cases ha:xI X t
  ·rw[ha]at h;simp only[aS,Θ]at h;obtain⟨x,h1,h2⟩:=bl.1 h;obtain⟨v,k1,k2,k3⟩:=amg r h1;obtain⟨e,_⟩:=It h2 k3;subst e;refine⟨v,?_,k3⟩;rw[hw]at k1;simp [run_load,k1]
  ·rw[ha]at h;simp only[bg,Ze]at h;split at h
   ·rename_i hle;injection h with h
    subst h;obtain⟨vs,k1,k2,k3⟩:=aY.HI ((r.drop o).take (X.P.cellsOf t));have hl:vs.length=X.P.cellsOf t:=by rw[<-k1.length];simp;omega
    refine⟨.agg vs.toArray,?_,by simp only[ak];exact⟨vs.toArray,rfl,by simpa using k1,by simpa using k2⟩⟩;have hrun:=run_loadCells_list (P:=X.P) w ⟨b,off+o,η⟩ vs (λj v hj=>by rw[kI];have:=k3 j v hj;rwa[hw]at this);rw[hl]at hrun;simp [IC w hd,hrun]
   ·cases h
theorem Zq(X:Fx){t:TypeId}{o:Nat}{cs:List AV}{av:AV}{vs:Array Value}(r:aJ c cs vs.toList)(k:∀x∈vs.toList,bY x=ι)(h:uD X t o cs=δ av):
  ∃v,(part t vs o).run X.P w=.ok v w/\ak c av v:=by
 unfold uD at h;cases hd:X.P.underlying t with
 |none=>rw[hd]at h;cases h
 |some d=>
  rw[hd]at h;simp only at h;unfold part;simp only[b7,Pt w X hd,Ψ];cases ha:xI X t
  ·rw[ha]at h;simp only[aS,Θ]at h;obtain⟨x,h1,h2⟩:=bl.1 h;obtain⟨v,k1,k3⟩:=r.nth h1;obtain⟨e,_⟩:=It h2 k3;subst e;refine⟨v,?_,k3⟩;have:vs[o]? =δ v:=by rw[<-YT];exact k1
   simp [this]
  ·rw[ha]at h;simp only[bg,Ze]at h;split at h
   ·rename_i hle;injection h with h
    subst h;refine⟨.agg (vs.extract o (o+X.P.cellsOf t)),by simp [IC w hd],?_⟩;simp only[ak];have e:(vs.extract o (o+X.P.cellsOf t)).toList=(vs.toList.drop o).take (X.P.cellsOf t):=by simp [Array.toList_extract,amQ]
    refine⟨_,rfl,by rw[e];exact(r.drop o).take _,?_⟩;rw[e];exact λx hx=>k x (List.mem_of_mem_drop (wq hx))
   ·cases h
end
section
variable {P : Program} {c : RC} (w : World)
theorem CF(a b:ByteArray):(a==b)=(a.toList==b.toList):=beq_toListBytes a b
theorem abz{t:TypeId}{x y av:AV}{v u:Value}(h:o7 x y=δ av)(r:ak c x v)(q:ak c y u):∃k,(binOp .add t v u).run P w=.ok k w/\ak c av k:=by
 unfold o7 at h;split at h
 ·simp only[ak]at r q;subst r;subst q;split at h
  ·injection h with h;subst h;subst_vars
   exact⟨_,by simp [binOp,amu];rfl,by simp [ak]⟩
  ·cases h
 ·simp only[ak]at r q;subst r;subst q;split at h
  ·rename_i a b hs;injection h with h;subst h
   refine⟨.string (a++b),?_,by simp [ak]⟩;have:¬((a.size+b.size:Nat):Int)>Ξ.max:=by rw[IntKind.max_i64];omega
   simp only[binOp,amv,aB this];rfl
  ·cases h
 ·cases h
theorem Am{f:IntKind->Int->Int->Option AV}{op:BinOp}{t:TypeId}{x y av:AV}{v u:Value}
  (hf:∀k a b av,f k a b=δ av->∃n,(binOp op t (.int k a) (.int k b)).run P w=.ok n w/\ak c av n)
  (h:(match x,y with|.int k a,.int k' b=>if k=k' then f k a b else η|_,_=>η)=δ av) (r:ak c x v) (q:ak c y u):∃k,(binOp op t v u).run P w=.ok k w/\ak c av k:=by
 split at h
 ·simp only[ak]at r q;subst r;subst q;split at h
  ·subst_vars;exact hf _ _ _ _ h
  ·cases h
 ·cases h
theorem acD{t:TypeId}{x y av:AV}{v u:Value}(h:Yd x y=δ av)(r:ak c x v)(q:ak c y u):∃k,(binOp .sub t v u).run P w=.ok k w/\ak c av k:=
 Am w (f:=λk a b=>δ (.int k (k.wrap (a-b)))) (λk a b av e=>by injection e with e;subst e;exact⟨_,by simp [binOp,amu];rfl,by simp [ak]⟩) h r q
theorem acd{t:TypeId}{x y av:AV}{v u:Value}(h:A.mul x y=δ av)(r:ak c x v)(q:ak c y u):∃k,(binOp .mul t v u).run P w=.ok k w/\ak c av k:=
 Am w (f:=λk a b=>δ (.int k (k.wrap (a*b)))) (λk a b av e=>by injection e with e;subst e;exact⟨_,by simp [binOp,amu];rfl,by simp [ak]⟩) h r q
theorem ab8{t:TypeId}{x y av:AV}{v u:Value}(h:p9 x y=δ av)(r:ak c x v)(q:ak c y u):∃k,(binOp .lss t v u).run P w=.ok k w/\ak c av k:=by
 unfold p9 at h;split at h
 ·exact Am w (x:=.int _ _) (y:=.int _ _) (f:=λk a b=>δ (.bool (decide (a<b)))) (λk a b av e=>by injection e with e;subst e;exact⟨_,by simp [binOp,am1];rfl,by simp [ak]⟩) h r q
 ·simp only[ak]at r q;subst r;subst q;injection h with h;subst h
  exact⟨.bool _,by simp only[binOp,amv];rfl,by simp [ak]⟩
 ·cases h
theorem ab7{t:TypeId}{x y av:AV}{v u:Value}(h:A.leq x y=δ av)(r:ak c x v)(q:ak c y u):∃k,(binOp .leq t v u).run P w=.ok k w/\ak c av k:=
 Am w (f:=λk a b=>δ (.bool (decide (a<=b)))) (λk a b av e=>by injection e with e;subst e;exact⟨_,by simp [binOp,am1];rfl,by simp [ak]⟩) h r q
theorem ab3{t:TypeId}{x y av:AV}{v u:Value}(h:W7 x y=δ av)(r:ak c x v)(q:ak c y u):∃k,(binOp .gtr t v u).run P w=.ok k w/\ak c av k:=
 Am w (f:=λk a b=>δ (.bool (decide (a>b)))) (λk a b av e=>by injection e with e;subst e;exact⟨.bool (decide (a>b)),by simp [binOp,am1],by simp [ak]⟩) h r q
theorem ab0{t:TypeId}{x y av:AV}{v u:Value}(h:A.geq x y=δ av)(r:ak c x v)(q:ak c y u):∃k,(binOp .geq t v u).run P w=.ok k w/\ak c av k:=
 Am w (f:=λk a b=>δ (.bool (decide (a>=b)))) (λk a b av e=>by injection e with e;subst e;exact⟨.bool (decide (a>=b)),by simp [binOp,am1],by simp [ak]⟩) h r q
theorem acr{t:TypeId}{x y av:AV}{v u:Value}(h:A.quo x y=δ av)(r:ak c x v)(q:ak c y u):∃k,(binOp .quo t v u).run P w=.ok k w/\ak c av k:=by
 unfold A.quo at h;split at h
 ·simp only[ak]at r q;subst r;subst q;split at h
  ·rename_i hk;obtain⟨rfl,hb⟩:=hk;injection h with h;subst h
   exact⟨_,by simp [binOp,Op.intDiv,hb];rfl,by simp [ak]⟩
  ·cases h
 ·cases h
theorem acu{t:TypeId}{x y av:AV}{v u:Value}(h:A.rem x y=δ av)(r:ak c x v)(q:ak c y u):∃k,(binOp .rem t v u).run P w=.ok k w/\ak c av k:=by
 unfold A.rem at h;split at h
 ·simp only[ak]at r q;subst r;subst q;split at h
  ·rename_i hk;obtain⟨rfl,hb⟩:=hk;injection h with h;subst h
   exact⟨_,by simp [binOp,Op.intDiv,hb];rfl,by simp [ak]⟩
  ·cases h
 ·cases h
theorem acz{t:TypeId}{x y av:AV}{v u:Value}(h:A.shl x y=δ av)(r:ak c x v)(q:ak c y u):∃k,(binOp .shl t v u).run P w=.ok k w/\ak c av k:=by
 unfold A.shl at h;split at h
 ·simp only[ak]at r q;subst r;subst q;split at h
  ·cases h
  ·rename_i hb;injection h with h;subst h
   exact⟨_,by simp only[binOp,Op.shift,aB hb];rfl,by simp [ak]⟩
 ·cases h
theorem acA{t:TypeId}{x y av:AV}{v u:Value}(h:A.shr x y=δ av)(r:ak c x v)(q:ak c y u):∃k,(binOp .shr t v u).run P w=.ok k w/\ak c av k:=by
 unfold A.shr at h;split at h
 ·simp only[ak]at r q;subst r;subst q;split at h
  ·cases h
  ·rename_i hb;injection h with h;subst h
   exact⟨_,by simp only[binOp,Op.shift,aB hb];rfl,by simp [ak]⟩
 ·cases h
theorem OR:∀{k1 k2:List Nat}{xs ys:List AV}{b:Bool},Yu (k1++k2) xs ys=δ b->∃p q,Yu k1 (xs.take k1.length) (ys.take k1.length)=δ p/\Yu k2 (xs.drop k1.length) (ys.drop k1.length)=δ q/\b=(p&&q)
 |[],k2,xs,ys,b,h=>⟨ι,b,by simp [Yu],by simpa using h,by simp⟩
 |k::k1,k2,[],[],b,h=>by simp [Yu]at h
 |k::k1,k2,[],_::_,b,h=>by simp [Yu]at h
 |k::k1,k2,_::_,[],b,h=>by simp [Yu]at h
 |k::k1,k2,x::xs,y::ys,b,h=>by simp only[iI,Yu]at h;obtain⟨p,h1,h2⟩:=bl.1 h;obtain⟨q,h3,h4⟩:=bX.1 h2;obtain⟨p',q',k1',k2',k3'⟩:=OR h3;exact⟨p&&p',q',by simp [Yu,h1,k1'],by simpa using k2',by rw[<-h4,k3',Bool.and_assoc]⟩
def jF(P:Program)(t:TypeId)(vs:List Value):Value:=match P.underlying t with
 |some (.struct _)=>.agg vs.toArray
 |_=>vs.headD undef
theorem Ii{t:TypeId}{d:Nat}(hk:gU P (d+1) t=ι){vs:Array Value}{off:Nat}(h:off+P.cellsOf t<=vs.size):
  (part t vs off).run P w=.ok (jF P t ((vs.toList.drop off).take (P.cellsOf t))) w:=by
 unfold gU at hk
 have scalar:∀de,P.underlying t=δ de->(∀fs,de≠.struct fs)->(∀n e,de≠.array n e)->P.cellsOf t=1->(part t vs off).run P w=.ok (jF P t ((vs.toList.drop off).take (P.cellsOf t))) w:=by
  intro de hd h1 h2 h3
  have ha:(isAgg t).run P w=.ok θ w:=by unfold isAgg;simp only[b7,run_underlying hd,Ψ];cases de<;>first|rfl|exact absurd rfl (h1 _)|exact absurd rfl (h2 _ _)
  have e:jF P t ((vs.toList.drop off).take (P.cellsOf t))=vs[off]'(by omega):=by
   unfold jF;rw[hd]
   have:(vs.toList.drop off).take (P.cellsOf t)=[vs[off]'(by omega)]:=by
    have hlt:off<vs.toList.length:=by rw[Z7];omega
    rw[h3,alZ hlt];simp
   rw[this];cases de<;>first|rfl|exact absurd rfl (h1 _)
  rw[e];unfold part;simp [ha,rY (show off<vs.size by omega)]
 cases hd:P.underlying t with
 |none=>rw[hd]at hk;cases hk
 |some de=>
  rw[hd]at hk;cases de<;>simp only at hk<;>first|(cases hk;done)|skip
  case bool=>exact scalar _ hd (by intro _ e;cases e) (by intro _ _ e;cases e) (by simpa using hk)
  case int=>exact scalar _ hd (by intro _ e;cases e) (by intro _ _ e;cases e) (by simpa using hk)
  case string=>exact scalar _ hd (by intro _ e;cases e) (by intro _ _ e;cases e) (by simpa using hk)
  case struct fs=>
   have ha:(isAgg t).run P w=.ok ι w:=by unfold isAgg;simp only[b7,run_underlying hd,Ψ];rfl
   unfold part;simp only[b7,ha,Ψ,if_true,IC w hd,M6];congr 1;simp only[jF,hd];congr 1;apply jJ.1;simp [Array.toList_extract,amQ]
theorem PS:∀{ks:List Nat}{xs ys:List AV}{b:Bool},Yu ks xs ys=δ b->xs.length=ks.length/\ys.length=ks.length
 |[],[],[],_,_=>⟨rfl,rfl⟩
 |[],[],_::_,_,h=>by simp [Yu]at h
 |[],_::_,_,_,h=>by simp [Yu]at h
 |_::_,[],_,_,h=>by simp [Yu]at h
 |_::_,_::_,[],_,h=>by simp [Yu]at h
 |k::ks,x::xs,y::ys,b,h=>by simp only[Yu]at h;obtain⟨p,h1,h2⟩:=bl.1 h;obtain⟨q,h3,h4⟩:=bX.1 h2;have:=PS h3;simp [this]
theorem FE{d:Nat}(ih:∀t,gU P d t=ι->(kinds P d t).length=P.cellsOf t):∀(fs:List Field)(off tot:Nat),tF (gU P d) P.cellsOf fs off=δ tot->off+(fs.flatMap λf=>kinds P d f.type).length=tot
 |[],off,tot,h=>by simpa [tF]using h
 |f::fs,off,tot,h=>by
  simp only[tF]at h;cases hc : (f.name != "_" && f.offset == off && gU P d f.type)
  ·rw[hc]at h;cases h
  ·rw[hc]at h;simp only[bg]at h;simp only[eF]at hc;have:=FE ih fs _ _ h;have:=ih _ hc.2;simp only[Yw,Λ];omega
theorem Ad:∀(d:Nat)(t:TypeId),gU P d t=ι->(kinds P d t).length=P.cellsOf t
 |0,t,h=>by simp [gU]at h
 |d+1,t,h=>by
  unfold gU at h;unfold kinds;cases hd:P.underlying t with
  |none=>rw[hd]at h;cases h
  |some de=>
   rw[hd]at h;cases de<;>simp only at h<;>first|(cases h;done)|skip
   case bool=>simpa using(beq_iff_eq.1 h).symm
   case int=>simpa using(beq_iff_eq.1 h).symm
   case string=>simpa using(beq_iff_eq.1 h).symm
   case struct fs=>
    simp only[eF,beq_iff_eq]at h;have:=FE (λt=>Ad d t) fs.toList 0 _ h.2;simpa using this
theorem QE{d D:Nat}(ih:∀(t:TypeId) (xs ys:List AV) (vs us:List Value) (b:Bool),gU P d t=ι->Yu (kinds P d t) xs ys=δ b->aJ c xs vs->aJ c ys us->vs.length=P.cellsOf t->us.length=P.cellsOf t->
   (Wi D t (jF P t vs) (jF P t us)).run P w=.ok b w):
  ∀(fs:List Field)(off tot:Nat)(xs ys:List AV)(vs us:Array Value)(b:Bool),tF (gU P d) P.cellsOf fs off=δ tot->tot=vs.size->tot=us.size->Yu (fs.flatMap λf=>kinds P d f.type) (xs.drop off) (ys.drop off)=δ b->aJ c xs vs.toList->aJ c ys us.toList->
   (Op.eqFields D vs us fs).run P w=.ok b w
 |[],off,tot,xs,ys,vs,us,b,h,h1,h2,h3,h4,h5=>by
  simp only[tF]at h;injection h with h
  have l1:=h4.length;have:xs.drop off=[]:=alS (by rw[l1];simp;omega);rw[this]at h3;have l2:=h5.length;have:ys.drop off=[]:=alS (by rw[l2];simp;omega);rw[this]at h3;simp only[List.flatMap_nil,Yu]at h3;injection h3 with h3
  subst h3;simp [Op.eqFields]
 |f::fs,off,tot,xs,ys,vs,us,b,h,h1,h2,h3,h4,h5=>by
  simp only[tF]at h;cases hc : (f.name != "_" && f.offset == off && gU P d f.type)
  ·rw[hc]at h;cases h
  ·rw[hc]at h;simp only[bg]at h;simp only[eF,bne_iff_ne,beq_iff_eq]at hc;obtain⟨⟨hn,ho⟩,hk⟩:=hc;have hle:=FE (λt=>Ad d t) fs _ _ h;have tQ:=Ad d f.type hk;rw[Yw]at h3;obtain⟨p,q,k1,k2,k3⟩:=OR h3;rw[tQ]at k1 k2;rw[lV,lV]at k2
   obtain⟨d',rfl⟩:∃d',d=d'+1:=by
    cases d with
    |zero=>simp [gU]at hk
    |succ d'=>exact⟨d',rfl⟩
   have r1:=Ii w hk (vs:=vs) (off:=off) (by omega);have r2:=Ii w hk (vs:=us) (off:=off) (by omega);have e1:=ih f.type _ _ _ _ p hk k1 ((h4.drop off).take _) ((h5.drop off).take _) (by simp;omega) (by simp;omega);have ihf:=QE ih fs (off+P.cellsOf f.type) tot xs ys vs us q h h1 h2 k2 h4 h5;simp only[Op.eqFields,Sem.run_ite,aC hn];simp only[b7,ho,r1,r2,Ψ,e1];cases p
   ·simp [k3]
   ·simp only[Wq,X6,if_false,ihf,k3,Bool.true_and]
theorem QF:∀(d D:Nat)(hD:d<=D)(t:TypeId)(xs ys:List AV)(vs us:List Value)(b:Bool),gU P d t=ι->Yu (kinds P d t) xs ys=δ b->aJ c xs vs->aJ c ys us->vs.length=P.cellsOf t->us.length=P.cellsOf t->
   (Wi D t (jF P t vs) (jF P t us)).run P w=.ok b w
 |0,_,_,t,xs,ys,vs,us,b,hk,_,_,_,_,_=>by simp [gU]at hk
 |d+1,0,hD,_,_,_,_,_,_,_,_,_,_,_,_=>by omega
 |d+1,D+1,hD,t,xs,ys,vs,us,b,hk,h,r,q,l1,l2=>by
  unfold gU at hk;unfold kinds at h;cases hd:P.underlying t with
  |none=>rw[hd]at hk;cases hk
  |some de=>
   rw[hd]at hk h
   have scalar:∀k,Yu [k] xs ys=δ b->P.cellsOf t=1->∃x y v u,xs=[x]/\ys=[y]/\vs=[v]/\us=[u]/\A.kC k x y=δ b/\ak c x v/\ak c y u:=by intro k h h1;rw[h1]at l1 l2;have m1:=r.length;have m2:=q.length;obtain⟨x,rfl⟩:=tv.1 (m1.trans l1);obtain⟨y,rfl⟩:=tv.1 (m2.trans l2);obtain⟨v,rfl⟩:=tv.1 l1;obtain⟨u,rfl⟩:=tv.1 l2;simp only[Yu]at h;obtain⟨p,h2,h3⟩:=bl.1 h;simp at h3;subst h3;obtain⟨v',k1,k2⟩:=r.nth (i:=0) (a:=x) rfl;obtain⟨u',k3,k4⟩:=q.nth (i:=0) (a:=y) rfl;simp at k1 k3;subst k1;subst k3;exact⟨x,y,v,u,rfl,rfl,rfl,rfl,h2,k2,k4⟩
   cases de<;>simp only at hk h<;>first|(cases hk;done)|skip
   case bool=>
    obtain⟨x,y,v,u,rfl,rfl,rfl,rfl,e,r1,q1⟩:=scalar _ h (by simpa using hk);simp only[jF,hd,aml];simp only[A.kC,A.tO]at e;split at e
    ·simp only[ak]at r1 q1;injection e with e;subst_vars
     exact run_equalIn_bool' w D t _ _ hd
    ·cases e
   case int kk=>
    obtain⟨x,y,v,u,rfl,rfl,rfl,rfl,e,r1,q1⟩:=scalar _ h (by simpa using hk);simp only[jF,hd,aml];simp only[A.kC,A.lz]at e;split at e
    ·simp only[ak]at r1 q1;split at e
     ·injection e with e;subst_vars
      exact run_equalIn_int w D t _ kk _ _ hd
     ·cases e
    ·cases e
   case string=>
    obtain⟨x,y,v,u,rfl,rfl,rfl,rfl,e,r1,q1⟩:=scalar _ h (by simpa using hk);simp only[jF,hd,aml];simp only[A.kC,A.oc]at e;split at e
    ·simp only[ak]at r1 q1;injection e with e;subst_vars
     rw[CF];exact run_equalIn_string w D t _ _ hd
    ·cases e
   case struct fs=>
    simp only[eF,Bool.not_eq_true',beq_iff_eq]at hk;have hf:P.fieldsOf t=fs:=by simp [Program.fieldsOf,hd]
    simp only[jF,hd];rw[run_equalIn_struct w D t _ _ (by rw[hf];exact hd) hk.1,hf];exact QE w (λt xs ys vs us b=>QF d D (by omega) t xs ys vs us b) fs.toList 0 _ xs ys vs.toArray us.toArray b hk.2 (by simp [l1]) (by simp [l2]) (by simpa using h) (by simpa using r) (by simpa using q)
theorem Ce{el:TypeId}(d:Nat)(t:TypeId)(p:Option Addr)(h:P.underlying t=δ (.pointer el)):(Wi (d+1) t (.pointer η) (.pointer p)).run P w=.ok p.isNone w:=by simp [Wi,run_underlying h]
theorem Cf{el:TypeId}(d:Nat)(t:TypeId)(p:Addr)(h:P.underlying t=δ (.pointer el)):(Wi (d+1) t (.pointer (δ p)) (.pointer η)).run P w=.ok θ w:=by simp [Wi,run_underlying h]
theorem J6(X:Fx){t:TypeId}{e:A.EK}{x y:AV}{b:Bool}{v u:Value}(ht:je X t=δ e)(h:YB e x y=δ b)(r:ak c x v)(q:ak c y u):
  (Op.equal t v u).run X.P w=.ok b w/\((∃xs ys,v=.agg xs/\u=.agg ys/\X.P.eqGuardType X.P.depth t=θ)\/(∃k m n,v=.int k m/\u=.int k n/\b=(m==n))\/(∃m n,v=.string m/\u=.string n/\b=(m==n))\/(∃m n,v=.bool m/\u=.bool n/\b=(m==n))\/∃m n,v=.pointer m/\u=.pointer n):=by
 unfold je at ht;cases hd:X.P.underlying t with
 |none=>rw[hd]at ht;cases ht
 |some de=>
  rw[hd]at ht;cases de<;>simp only at ht<;>first|(cases ht;done)|skip
  case bool=>
   injection ht with ht;subst ht
   simp only[YB,A.tO]at h;split at h
   ·simp only[ak]at r q;injection h with h;subst_vars
    exact⟨run_equalIn_bool' w _ t _ _ hd,.inr (.inr (.inr (.inl ⟨_,_,rfl,rfl,rfl⟩)))⟩
   ·cases h
  case int kk=>
   injection ht with ht;subst ht
   simp only[YB,A.lz]at h;split at h
   ·simp only[ak]at r q;split at h
    ·injection h with h;subst_vars
     exact⟨run_equalIn_int w _ t _ kk _ _ hd,.inr (.inl ⟨_,_,_,rfl,rfl,rfl⟩)⟩
    ·cases h
   ·cases h
  case string=>
   injection ht with ht;subst ht
   simp only[YB,A.oc]at h;split at h
   ·simp only[ak]at r q;injection h with h;subst_vars
    refine⟨?_,.inr (.inr (.inl ⟨_,_,rfl,rfl,rfl⟩))⟩;rw[CF];exact run_equalIn_string w _ t _ _ hd
   ·cases h
  case pointer el=>
   cases hc:(X.P.cellsOf el !=0)
   ·rw[hc]at ht;cases ht
   ·rw[hc]at ht;injection ht with ht;subst ht
    simp only[YB,A.MZ]at h;split at h<;>first|(cases h;done)|skip
    all_goals
     simp only[ak]at r q;injection h with h;subst h
    ·subst r;subst q;exact⟨by first|exact Ce w 9999 t _ hd|exact Cf w 9999 t _ hd,.inr (.inr (.inr (.inr ⟨_,_,rfl,rfl⟩)))⟩
    ·subst r;obtain⟨b,off,rfl,_⟩:=q;exact⟨by first|exact Ce w 9999 t _ hd|exact Cf w 9999 t _ hd,.inr (.inr (.inr (.inr ⟨_,_,rfl,rfl⟩)))⟩
    ·subst r;obtain⟨p,_,_,rfl⟩:=q;exact⟨by first|exact Ce w 9999 t _ hd|exact Cf w 9999 t _ hd,.inr (.inr (.inr (.inr ⟨_,_,rfl,rfl⟩)))⟩
    ·subst q;obtain⟨b,off,rfl,_⟩:=r;exact⟨by first|exact Ce w 9999 t _ hd|exact Cf w 9999 t _ hd,.inr (.inr (.inr (.inr ⟨_,_,rfl,rfl⟩)))⟩
    ·subst q;obtain⟨p,_,_,rfl⟩:=r;exact⟨by first|exact Ce w 9999 t _ hd|exact Cf w 9999 t _ hd,.inr (.inr (.inr (.inr ⟨_,_,rfl,rfl⟩)))⟩
  case struct fs=>
   cases hc:(gU X.P 9 t&&!X.P.eqGuardType X.P.depth t)
   ·rw[hc]at ht;cases ht
   ·rw[hc]at ht;injection ht with ht;subst ht
    simp only[eF,Bool.not_eq_true']at hc;simp only[YB]at h;split at h
    ·simp only[ak]at r q;obtain⟨vs,rfl,r1,_⟩:=r;obtain⟨us,rfl,q1,_⟩:=q;have hl:=PS h;rw[Ad 9 t hc.1]at hl;have e:=QF w 9 Op.maxDepth (by decide) t _ _ _ _ b hc.1 h r1 q1 (by rw[<-r1.length];exact hl.1) (by rw[<-q1.length];exact hl.2);simp only[jF,hd,Array.toArray_toList]at e;exact⟨e,.inl ⟨_,_,rfl,rfl,hc.2⟩⟩
    ·cases h
theorem abR(X:Fx){t:TypeId}{ox oy:Operand}{e:A.EK}{x y av:AV}{v u:Value}(ht:je X t=δ e)(h:z7 e x y=δ av)(r:ak c x v)(q:ak c y u):
  ∃k,(do eqGuard .eql t ox oy v u;binOp .eql t v u:Sem Value).run X.P w=.ok k w/\ak c av k:=by
 obtain⟨b,h1,h2⟩:=bX.1 h;subst h2;obtain⟨h3,h4⟩:=J6 w X ht h1 r q;refine⟨.bool b,?_,by simp [ak]⟩;rcases h4 with⟨xs,ys,rfl,rfl,hg⟩|⟨k,m,n,rfl,rfl,rfl⟩|⟨m,n,rfl,rfl,rfl⟩|⟨m,n,rfl,rfl,hb⟩|⟨m,n,rfl,rfl⟩
 ·simp only[b7,run_eqGuard_agg w .eql t ox oy xs ys hg,Ψ];simp [binOp,h3]
 ·simp [eqGuard_at_int,binOp_eql]
 ·rw[CF];simp [eqGuard_at_string,binOp,amv]
 ·simp only[eqGuard_at_bool,b7,M6,Ψ];simp [binOp,h3]
 ·simp only[eqGuard_at_pointer,b7,M6,Ψ];simp [binOp,h3]
theorem acf(X:Fx){t:TypeId}{ox oy:Operand}{e:A.EK}{x y av:AV}{v u:Value}(ht:je X t=δ e)(h:XP e x y=δ av)(r:ak c x v)(q:ak c y u):
  ∃k,(do eqGuard .neq t ox oy v u;binOp .neq t v u:Sem Value).run X.P w=.ok k w/\ak c av k:=by
 obtain⟨b,h1,h2⟩:=bX.1 h;subst h2;obtain⟨h3,h4⟩:=J6 w X ht h1 r q;refine⟨.bool (!b),?_,by simp [ak]⟩;rcases h4 with⟨xs,ys,rfl,rfl,hg⟩|⟨k,m,n,rfl,rfl,rfl⟩|⟨m,n,rfl,rfl,rfl⟩|⟨m,n,rfl,rfl,hb⟩|⟨m,n,rfl,rfl⟩
 ·simp only[b7,run_eqGuard_agg w .neq t ox oy xs ys hg,Ψ];simp [binOp,h3]
 ·simp [eqGuard_at_int,binOp_neq];rfl
 ·rw[CF];simp [eqGuard_at_string,binOp,amv]
 ·simp only[eqGuard_at_bool,b7,M6,Ψ];simp [binOp,h3]
 ·simp only[eqGuard_at_pointer,b7,M6,Ψ];simp [binOp,h3]
theorem SY{P:Program}{el:TypeId}(d:Nat)(t:TypeId)(a:Option Addr)(n m:Nat)(h:P.underlying t=δ (.slice el)):(Wi (d+1) t (.slice a n m) (.slice η 0 0)).run P w=.ok a.isNone w:=by cases a<;>simp [Wi,run_underlying h]
theorem Rz{P:Program}{t e:TypeId}{x y:AV}{b:Bool}{v u:Value}(ht:P.underlying t=δ (.slice e))(h:A.Hf x y=δ b)(r:ak c x v)(q:ak c y u):
  ∃a n m,v=.slice a n m/\u=.slice η 0 0/\(Op.equal t v u).run P w=.ok b w:=by
 cases y<;>simp only[A.Hf]at h<;>first|(cases h;done)|skip
 simp only[ak]at q;subst q
 have hs:∃a n m,v=.slice a n m/\b=a.isNone:=by
  split at h<;>first|(cases h;done)|skip
  all_goals injection h with h;subst h;simp only[ak]at r
  ·exact⟨η,0,0,r,rfl⟩
  ·obtain⟨a,cap,e1,_,_,k|⟨b,off,rfl,_⟩⟩:=r
   ·cases k
   ·exact⟨_,_,_,e1,rfl⟩
  ·obtain⟨_,p,_,_,a,cap,rfl,_⟩:=r;exact⟨_,_,_,rfl,rfl⟩
 obtain⟨a,n,m,rfl,rfl⟩:=hs;exact⟨a,n,m,rfl,rfl,SY w 9999 t a n m ht⟩
theorem abF(X:Fx){op:BinOp}{t:TypeId}{ox oy:Operand}{x y av:AV}{v u:Value}(h:Ln X op t x y=δ av)(r:ak c x v)(q:ak c y u):
  ∃k,(do eqGuard op t ox oy v u;binOp op t v u:Sem Value).run X.P w=.ok k w/\ak c av k:=by
 cases op<;>simp only[Ln]at h<;>first|(cases h;done)|skip
 case add=>obtain⟨k,h1,h2⟩:=abz (P:=X.P) (t:=t) w h r q;exact⟨k,by simp [eqGuard_add,h1],h2⟩
 case sub=>obtain⟨k,h1,h2⟩:=acD (P:=X.P) (t:=t) w h r q;exact⟨k,by simp [eqGuard_sub,h1],h2⟩
 case mul=>obtain⟨k,h1,h2⟩:=acd (P:=X.P) (t:=t) w h r q;exact⟨k,by simp [eqGuard_mul,h1],h2⟩
 case quo=>obtain⟨k,h1,h2⟩:=acr (P:=X.P) (t:=t) w h r q;exact⟨k,by simp [eqGuard_quo,h1],h2⟩
 case rem=>obtain⟨k,h1,h2⟩:=acu (P:=X.P) (t:=t) w h r q;exact⟨k,by simp [eqGuard_rem,h1],h2⟩
 case lss=>obtain⟨k,h1,h2⟩:=ab8 (P:=X.P) (t:=t) w h r q;exact⟨k,by simp [eqGuard_lss,h1],h2⟩
 case leq=>obtain⟨k,h1,h2⟩:=ab7 (P:=X.P) (t:=t) w h r q;exact⟨k,by simp [eqGuard_leq,h1],h2⟩
 case gtr=>obtain⟨k,h1,h2⟩:=ab3 (P:=X.P) (t:=t) w h r q;exact⟨k,by simp [eqGuard_gtr,h1],h2⟩
 case geq=>obtain⟨k,h1,h2⟩:=ab0 (P:=X.P) (t:=t) w h r q;exact⟨k,by simp [eqGuard_geq,h1],h2⟩
 case shl=>obtain⟨k,h1,h2⟩:=acz (P:=X.P) (t:=t) w h r q;exact⟨k,by simp [eqGuard_shl,h1],h2⟩
 case shr=>obtain⟨k,h1,h2⟩:=acA (P:=X.P) (t:=t) w h r q;exact⟨k,by simp [eqGuard_shr,h1],h2⟩
 case eql=>
  cases he:je X t with
  |none=>
   rw[he]at h;simp only at h;split at h
   ·rename_i e ht;obtain⟨b,h1,rfl⟩:=bX.1 h;obtain⟨a,n,m,rfl,rfl,k2⟩:=Rz (P:=X.P) w ht h1 r q;exact⟨.bool b,by simp [eqGuard,binOp,k2],by simp [ak]⟩
   ·cases h
  |some e=>rw[he]at h;exact abR w X he h r q
 case neq=>
  cases he:je X t with
  |none=>
   rw[he]at h;simp only at h;split at h
   ·rename_i e ht;obtain⟨b,h1,rfl⟩:=bX.1 h;obtain⟨a,n,m,rfl,rfl,k2⟩:=Rz (P:=X.P) w ht h1 r q;exact⟨.bool (!b),by simp [eqGuard,binOp,k2],by simp [ak]⟩
   ·cases h
  |some e=>rw[he]at h;exact acf w X he h r q
theorem Ck{n j:Nat}{i:AV}{v:Value}(h:A.idx n i=δ j)(r:ak c i v):∃k,v=.int k (j:Int)/\j<n:=by
 unfold A.idx at h;split at h
 ·simp only[ak]at r;split at h
  ·rename_i k m hm;injection h with h
   subst r;exact⟨_,by rw[<-h];congr 1;omega,by omega⟩
  ·cases h
 ·cases h
def kV(c:RC):Option AV->Option Value->Prop
 |none,η=>True
 |some x,δ v=>ak c x v
 |_,_=>False
theorem Ac{y d j:Nat}{x:Option AV}{v:Option Value}{code:BoundsCode}(h:Wf y d x=δ j)(r:kV c x v):
  (x=η/\v=η/\j=d)\/∃a u,x=δ a/\v=δ u/\(WB u y code).run P w=.ok j w/\j<=y:=by
 cases x with
 |none=>cases v with
  |none=>simp only[Wf]at h;injection h with h;exact .inl ⟨rfl,rfl,h.symm⟩
  |some u=>exact r.elim
 |some a=>cases v with
  |none=>exact r.elim
  |some u=>
   simp only[kV]at r;cases a<;>simp only[Wf]at h<;>first|(cases h;done)|skip
   rename_i k m;split at h
   ·rename_i hm;injection h with h
    simp only[ak]at r;subst r;refine .inr ⟨_,_,rfl,rfl,?_,by omega⟩;simp [WB,asIntOf,hm,h]
   ·cases h
theorem BJ{yW:Bool}{y len cap l h:Nat}{lo hi:Option AV}{vl vh:Option Value}(hc:len<=cap)(hy:y<=cap)(hh:Wf y len hi=δ h)(hl:Wf h 0 lo=δ l)
  (rh:kV c hi vh) (rl:kV c lo vl):
  (Xc yW len cap vl vh η).run P w=.ok (l,h,cap) w/\l<=h/\(h<=y\/h<=len):=by
 have big:∀{u:Value}{code:BoundsCode},(WB u y code).run P w=.ok h w->(WB u cap code).run P w=.ok h w:=by
  intro u code e;unfold WB at e ⊢;simp only[b7]at e ⊢;generalize (asIntOf u).run P w=r at *
  cases r with
  |halt x w'=>simp at e
  |ok p w'=>
   obtain⟨k,i⟩:=p;simp only[Ψ,Sem.run_ite]at e ⊢;split at e
   ·rename_i hi;rw[aC ⟨hi.1,by omega⟩];exact e
   ·simp only[boundsPanic,b7]at e;exfalso;revert e;split
    ·simp [runtimePanic,goPanic];split<;>simp [runtimePanic,goPanic]
    ·simp [runtimePanic,goPanic]
 rcases Ac (P:=P) (code:=if yW then .sliceAcap else .sliceAlen) w hh rh with⟨rfl,rfl,rfl⟩|⟨x,u,rfl,rfl,e1,e2⟩
 ·rcases Ac (P:=P) (code:=.sliceB) w hl rl with⟨rfl,rfl,rfl⟩|⟨y,q,rfl,rfl,e3,e4⟩
  ·exact⟨by simp [Xc],jK _,.inr (bJ _)⟩
  ·exact⟨by simp [Xc,e3],e4,.inr (bJ _)⟩
 ·rcases Ac (P:=P) (code:=.sliceB) w hl rl with⟨rfl,rfl,rfl⟩|⟨y,q,rfl,rfl,e3,e4⟩
  ·exact⟨by simp [Xc,big e1],jK _,.inl e2⟩
  ·exact⟨by simp [Xc,big e1,e3],e4,.inl e2⟩
theorem aaC{y y' d d' j:Nat}{x:AV}(h:Wf y d (δ x)=δ j)(hy:y<=y'):Wf y' d' (δ x)=δ j:=by
 cases x<;>simp only[Wf]at h ⊢<;>first|(cases h;done)|skip
 split at h
 ·rename_i hm;rw[aC ⟨hm.1,by omega⟩];exact h
 ·cases h
theorem Zz{t e:TypeId}{i:TypeInfo}{x hi mx av:AV}{lo:Option AV}{v vh vm:Value}{vl:Option Value}(ht:P.underlying t=δ (.slice e))(hi':P.info? e=δ i)
  (h:A.slice3 x lo hi mx=δ av) (r:ak c x v) (rl:kV c lo vl) (rh:ak c hi vh) (rm:ak c mx vm):∃k,(Zb t v vl (δ vh) (δ vm)).run P w=.ok k w/\ak c av k:=by
 have hsz:(sizeOf e).run P w=.ok i.size w:=by simp [sizeOf,rF w hi']
 unfold A.slice3 at h;obtain⟨n,h0,h⟩:=bl.1 h
 have hv:∃a len cap,v=.slice a len cap/\len<=cap/\n=.int Ξ (len:Nat):=by
  cases x<;>simp only[WJ]at h0<;>first|(cases h0;done)|skip
  all_goals injection h0 with h0;subst h0;simp only[ak]at r
  case sl=>obtain⟨a,cap,rfl,hc,_⟩:=r;exact⟨a,_,cap,rfl,hc,rfl⟩
  case aH=>subst r;exact⟨η,0,0,rfl,bJ _,rfl⟩
  case ez=>obtain⟨a,rfl⟩:=r;exact⟨a,0,0,rfl,bJ _,rfl⟩
  case os=>obtain⟨_,p,_,_,a,cap,rfl,hc,_⟩:=r;exact⟨δ a,_,cap,rfl,hc,rfl⟩
 obtain⟨a,len,cap,rfl,hc,rfl⟩:=hv;simp only[amV]at h;obtain⟨m,h1,h⟩:=bl.1 h;obtain⟨h',h2,h⟩:=bl.1 h;obtain⟨l,h3,rfl⟩:=bX.1 h;rcases Ac (P:=P) (code:=.slice3Acap) w (aaC (d':=0) h1 hc) (show kV c (δ mx) (δ vm)from rm)with⟨k,_⟩|⟨_,u,_,q1,e1,_⟩
 ·cases k
 injection q1 with q1;subst q1
 rcases Ac (P:=P) (code:=.slice3B) w h2 (show kV c (δ hi) (δ vh)from rh)with⟨k,_⟩|⟨_,u,_,q2,e2,hle⟩
 ·cases k
 injection q2 with q2;subst q2
 rcases Ac (P:=P) (code:=.slice3C) w h3 rl with⟨rfl,rfl,rfl⟩|⟨y,q,rfl,rfl,e3,e4⟩
 ·refine⟨_,by simp [Zb,run_underlying ht,Xc,e1,e2,hsz];rfl,?_⟩;by_cases hm:m=0
  ·subst hm;have:h'=0:=by omega
   subst this;simp [ak]
  ·rw[aB hm];simp [ak]
 ·refine⟨_,by simp [Zb,run_underlying ht,Xc,e1,e2,e3,hsz];rfl,?_⟩;by_cases hm:m=0
  ·subst hm;have:h'=0:=by omega
   subst this;have:l=0:=by omega
   subst this;simp [ak]
  ·rw[aB hm];simp [ak]
theorem ZB{t:TypeId}{x av:AV}{lo hi:Option AV}{v:Value}{vl vh:Option Value}(ht:P.underlying t=δ .string)
  (h:A.KC x lo hi=δ av) (r:ak c x v) (rl:kV c lo vl) (rh:kV c hi vh):∃k,(Zb t v vl vh η).run P w=.ok k w/\ak c av k:=by
 cases x<;>simp only[A.KC]at h<;>first|(cases h;done)|skip
 rename_i s;obtain⟨h',h1,h2⟩:=bl.1 h;obtain⟨l,h3,h4⟩:=bX.1 h2;simp only[ak]at r;subst r;subst h4;obtain⟨e,_,_⟩:=BJ (P:=P) (yW:=θ) w (bJ _) (bJ _) h1 h3 rh rl;exact⟨.string (s.extract l h'),by simp [Zb,run_underlying ht,e],by simp [ak]⟩
theorem room_le{σ:Heap}(hh:eX c σ){id g sz off len cap:Nat}{p:Pl}(h1:c.E[id]? =δ p)(hc:len<=cap)(hsz:0<sz)(r:g=p.g->p.sz=sz/\p.base+(off+cap)*p.sz=p.mP):A.room σ id g sz off len<=cap:=by
 unfold A.room;split
 ·rename_i g' sz' es hs;split
  ·rename_i DD;obtain⟨rfl,rfl,hle⟩:=DD;obtain⟨j1,j2,j3,j4,j5,j7,j8,j9⟩:=hh.blk id p _ h1 hs;obtain⟨k1,k3⟩:=r j1.symm;rw[k1]at k3;have:es.length*sz<=(off+cap)*sz:=by omega
   have:=Wb this j4;omega
  ·exact hc
 ·exact hc
theorem ZA{t e:TypeId}{i:TypeInfo}{x av:AV}{lo hi:Option AV}{v:Value}{vl vh:Option Value}{σ:Heap}(hh0:eX c σ)(ht:P.underlying t=δ (.slice e))(hi':P.info? e=δ i)
  (h:A.gD i.size x lo hi σ=δ av) (r:ak c x v) (rl:kV c lo vl) (rh:kV c hi vh):∃k,(Zb t v vl vh η).run P w=.ok k w/\ak c av k:=by
 have hsz:(sizeOf e).run P w=.ok i.size w:=by simp [sizeOf,rF w hi']
 cases x<;>simp only[A.gD]at h<;>first|(cases h;done)|skip
 case sl sz es=>
  split at h
  ·rename_i hs;subst hs;obtain⟨h',h1,h2⟩:=bl.1 h;obtain⟨l,h3,h4⟩:=bX.1 h2;subst h4;simp only[ak]at r;obtain⟨a,cap,rfl,hcap,hp,r⟩:=r;obtain⟨e1,hl,hh⟩:=BJ (P:=P) (yW:=ι) w hcap hcap h1 h3 rh rl;refine⟨.slice (if cap=l then a else a.map (·.add (l*i.size))) (h'-l) (cap-l),by simp [Zb,run_underlying ht,e1,hsz],?_⟩;simp only[ak];have hlen:((es.take h').drop l).length=h'-l:=by simp;omega
   refine⟨_,_,by rw[hlen],by rw[hlen];omega,hp,?_⟩;by_cases hz:h'=l
   ·left;apply alS;simp;omega
   ·right;rcases r with r|⟨b,off,rfl,hb,hX,r⟩
    ·subst r;simp at hh;omega
    ·refine⟨b,off+l*i.size,?_,hb,hX,(r.take h').drop l⟩;rw[aB (by omega)];simp [kI]
  ·cases h
 case aH=>
  obtain⟨h',h1,h2⟩:=bl.1 h;obtain⟨l,h3,h4⟩:=bX.1 h2;subst h4;simp only[ak]at r;subst r;obtain⟨e1,hl,hh⟩:=BJ (P:=P) (yW:=ι) w (bJ 0) (bJ 0) h1 h3 rh rl;refine⟨.slice η 0 0,?_,by simp [ak]⟩;have:h'=0:=by omega
  have:l=0:=by omega
  subst_vars;simp [Zb,run_underlying ht,e1,hsz]
 case ez=>
  obtain⟨h',h1,h2⟩:=bl.1 h;obtain⟨l,h3,h4⟩:=bX.1 h2;subst h4;simp only[ak]at r;obtain⟨q,rfl⟩:=r;obtain⟨e1,hl,hh⟩:=BJ (P:=P) (yW:=ι) w (bJ 0) (bJ 0) h1 h3 rh rl;refine⟨.slice q 0 0,?_,by simp [ak]⟩;have:h'=0:=by omega
  have:l=0:=by omega
  subst_vars;simp [Zb,run_underlying ht,e1,hsz]
 case os id g sz off len=>
  split at h
  ·rename_i hs;subst hs;obtain⟨h',h1,h2⟩:=bl.1 h;obtain⟨l,h3,h4⟩:=bX.1 h2;subst h4;simp only[ak]at r;obtain⟨hg,p,hp1,hp2,a,cap,rfl,hcap,r⟩:=r
   obtain⟨e1,hl,hh⟩:=BJ (P:=P) (yW:=ι) w hcap (by
    by_cases hz:i.size=0
    ·have:A.room σ id g i.size off len=len:=by
      unfold A.room;split
      ·rename_i g' sz' es hs;split
       ·rename_i DD;obtain⟨rfl,rfl,hle⟩:=DD;obtain⟨_,_,_,j4,_⟩:=hh0.blk id p _ hp1 hs;omega
       ·rfl
      ·rfl
     rw[this];exact hcap
    ·exact room_le hh0 hp1 hcap (by omega) (λk=>⟨(r k).1,(r k).2.2⟩)) h1 h3 rh rl
   have hle:h'<=cap:=by
    rcases hh with hh|hh
    ·refine o8 hh ?_;by_cases hz:i.size=0
     ·have:A.room σ id g i.size off len=len:=by
       unfold A.room;split
       ·rename_i g' sz' es hs;split
        ·rename_i DD;obtain⟨rfl,rfl,hle⟩:=DD;obtain⟨_,_,_,j4,_⟩:=hh0.blk id p _ hp1 hs;omega
        ·rfl
       ·rfl
      rw[this];exact hcap
     ·exact room_le hh0 hp1 hcap (by omega) (λk=>⟨(r k).1,(r k).2.2⟩)
    ·omega
   refine⟨.slice (if cap=l then δ a else(δ a).map (·.add (l*i.size))) (h'-l) (cap-l),by simp [Zb,run_underlying ht,e1,hsz],?_⟩;simp only[ak];refine⟨hg,p,hp1,hp2,(if cap=l then a else a.add (l*i.size)),cap-l,by by_cases e:cap=l<;>simp [e],by omega,λhgp=>?_⟩;obtain⟨k1,k2,k3⟩:=r hgp;refine⟨k1,?_,?_⟩
   ·by_cases e:cap=l
    ·left;omega
    ·right;rw[aB e];rcases k2 with k2|k2
     ·omega
     ·rw[k2,kI,k1,fB];congr 1;omega
   ·rw[show off+l+(cap-l)=off+cap by omega];exact k3
  ·cases h
end
end
section
open Go.RowKit
def dV(arr:Array Value)(off:Nat)(l:List Value):Array Value:=(arr.toList.take off++l++arr.toList.drop (off+l.length)).toArray
theorem Sa(arr:Array Value)(off:Nat):dV arr off []=arr:=by simp [dV]
theorem Q7(arr:Array Value)(off:Nat)(x:Value)(l:List Value)(h:off+(l.length+1)<=arr.size):dV arr off (x::l)=dV (arr.setIfInBounds off x) (off+1) l:=by
 unfold dV;congr 1;have hlt:off<arr.toList.length:=by simp;omega
 simp only[Array.toList_setIfInBounds,b9];rw[List.take_succ_eq_append_getElem (by simpa using hlt),List.getElem_set_self,List.take_set_of_le (bJ _),List.drop_set_of_lt (by omega)];simp [iV,Nat.add_comm 1 l.length]
theorem JW(arr:Array Value)(off:Nat)(l:List Value)(h:off+l.length<=arr.size):(dV arr off l).size=arr.size:=by simp [dV];omega
theorem QM(off:Nat):∀(l:List Value)(k:Nat)(arr:Array Value),off+k+l.length<=arr.size->(l.zipIdx k).foldl (λcs(p:Value×Nat)=>cs.setIfInBounds (off+p.2) p.1) arr=dV arr (off+k) l
 |[],k,arr,h=>by simp [Sa]
 |x::l,k,arr,h=>by simp only[List.zipIdx_cons,Zc];rw[QM off l (k+1) _ (by simp at h ⊢;omega),Q7 _ _ _ _ (by simpa using h)];rfl
theorem B4{w:World}{b:Nat}{o:Obj}(h:w.heap[b]? =δ o):w.cz b o=w:=by
 unfold World.cz;have hb:=(tu.1 h)
 obtain⟨hb,e⟩:=hb
 have:w.heap.setIfInBounds b o=w.heap:=by
  apply Array.ext_getElem?;intro i;rw[XD];by_cases hi:b=i
  ·subst hi;rw[aC rfl,aC hb,h]
  ·rw[aB hi]
 rw[this]
theorem aan(w:World)(b:Nat)(o o':Obj):(w.cz b o).cz b o'=w.cz b o':=by unfold World.cz;simp
theorem alI{w:World}{b off:Nat}{arr:Array Value}{t:TypeId}{fz:Nat×Nat}(h:w.heap[b]? =δ (.cells arr t fz))(v:Value):
  w.setCell ⟨b,off,η⟩ v=w.cz b (.cells (arr.setIfInBounds off v) t fz):=by
 unfold World.setCell World.cz;obtain⟨hb,e⟩:=tu.1 h;congr 1;apply Array.ext_getElem?;intro i;rw[Array.getElem?_modify,XD];by_cases hi:b=i
 ·subst hi;simp [h,hb,e]
 ·simp [hi]
section
variable {P : Program} {c : RC}
theorem aap{v:Value}(h:bY v=ι)(w:World)(a:Addr):(store a v).run P w=stored P w a v .plain:=by cases v<;>first|exact run_store P w a _ .plain rfl|(simp [bY]at h)
theorem zH{b off:Nat}{t:TypeId}:∀(vs:List Value)(i:Nat)(w:World)(arr:Array Value),w.heap[b]? =δ (.cells arr t (0,0))->off+i+vs.length<=arr.size->(∀x∈vs,bY x=ι)->
  (storeCells ⟨b,off,η⟩ vs i).run P w=.ok () (w.cz b (.cells (dV arr (off+i) vs) t (0,0)))
 |[],i,w,arr,h,hl,ho=>by simp [storeCells,Sa,B4 h]
 |v::vs,i,w,arr,h,hl,ho=>by
  have hc:w.cell? ⟨b,off+i,η⟩=δ (arr[off+i]'(by simp at hl;omega)):=by
   rw[sN h,rY]
  have hf:w.frozen? ⟨b,off+i,η⟩=θ:=by simp [World.frozen?,h]
  have hs:(store ((⟨b,off,η⟩:Addr).add i) v).run P w=.ok () (w.cz b (.cells (arr.setIfInBounds (off+i) v) t (0,0))):=by rw[kI,aap (ho v (by simp)),stored];simp [hc,hf,alI h]
  have hb:b<w.heap.size:=(tu.1 h).1;have ih:=zH (off:=off) vs (i+1) (w.cz b (.cells (arr.setIfInBounds (off+i) v) t (0,0))) (arr.setIfInBounds (off+i) v) (rE _ hb) (by simp at hl ⊢;omega) (λx hx=>ho x (by simp [hx]));simp only[storeCells,b7,hs,Ψ,ih,aan];rw[Q7 _ _ _ _ (by simpa using hl)];rfl
theorem aJ.dV{cs new cs':List AV}{arr:Array Value}{vs:List Value}{off:Nat}(h:y9 off new cs=δ cs')(r:aJ c cs arr.toList)(q:aJ c new vs):aJ c cs' (Proofs.YtkdafecbdncmiaaDoor.dV arr off vs).toList/\off+vs.length<=arr.size:=by
 unfold y9 at h;split at h
 ·injection h with h
  subst h;have l1:=r.length;have l2:=q.length;simp at l1;refine⟨?_,by omega⟩;simp only[Proofs.YtkdafecbdncmiaaDoor.dV,al8];rw[<-l2];exact((r.take off).append q).append (r.drop _)
 ·cases h
theorem Aw{arr:Array Value}{vs:List Value}{off:Nat}(h:∀x∈arr.toList,bY x=ι)(k:∀x∈vs,bY x=ι):∀x∈(dV arr off vs).toList,bY x=ι:=by
 intro x hx;simp only[dV,al8,eG]at hx;rcases hx with(hx|hx)|hx
 ·exact h x (wq hx)
 ·exact k x hx
 ·exact h x (List.mem_of_mem_drop hx)
theorem E7(sz:Nat):∀(n:Nat)(l:List AV),(eO sz n l).length=n
 |0,_=>rfl
 |n+1,l=>by simp [eO,E7 sz n]
theorem I8{sz b:Nat}:∀(n off:Nat)(l:List AV),l.length=n*sz->aY c b off l->bh c sz b off (eO sz n l)
 |0,off,l,_,_=>by simp [eO,bh]
 |n+1,off,l,hl,r=>by simp only[eO,bh];rw[fB]at hl;refine⟨by simp;omega,r.take sz,I8 n (off+sz) _ (by simp;omega) (r.drop sz)⟩
theorem range_zero(z:List Value)(hz:0<z.length):∀n,((ami (n*z.length)).map λi=>(z.toArray)[i % z.toArray.size]!)=(e8 n z).flatten
 |0=>by simp
 |n+1=>by
  rw[fB,Nat.one_mul,List.range_add,Tm,range_zero z hz n,List.replicate_succ',amy];congr 1;simp only[Y3,WK,List.flatten_nil,X0];apply List.ext_getElem
  ·simp
  ·intro i h1 h2;simp at h1;simp only[List.getElem_map,List.getElem_range,Function.comp,WA];rw[Nat.add_comm,Nat.add_mul_mod_self_right,Nat.mod_eq_of_lt h1];simp [h1]
theorem aJ.flatten{zs:List AV}{vs:List Value}(h:aJ c zs vs):∀n,aJ c (e8 n zs).flatten (e8 n vs).flatten
 |0=>by simp [aJ]
 |n+1=>by simp only[List.replicate_succ,WK];exact h.append (aJ.flatten h n)
end
section
variable {X : Fx} {z : Z} {s : AS} {a : Act} {w w' : World} {E : List Pl} {pb : Nat -> Option Nat}
theorem Af(h:St X z s a w E pb){tag:Option (Nat×Bool)}(ht:mK a tag){x:Operand}{b off:Nat}{cs:List AV}(hp:place X s tag x=δ (b,off))(hb:l9 (s.sl.getD b .undef)=δ cs):
  ∃k,pb b=δ k/\a.eval x=.pointer (δ ⟨k,off,η⟩)/\uA (ctx z w E pb) k cs/\s.sl[b]? =δ (.lbx cs):=by
 have jR:s.sl[b]? =δ (.lbx cs):=by
  by_cases hlt:b<s.sl.length
  ·have e:s.sl.getD b .undef=s.sl[b]:=by simp [Yn,hlt]
   rw[e]at hb;rw[cA hlt];generalize s.sl[b]=y at *
   cases y<;>simp only[l9]at hb<;>first|(cases hb;done)|(injection hb with hb;subst hb;rfl)
  ·have e:s.sl.getD b .undef=.undef:=by simp [Yn,Nat.le_of_not_lt hlt]
   rw[e]at hb;cases hb
 obtain⟨k,k1,k2,k3⟩:=h.slot b _ jR;refine⟨k,k1,?_,k3,jR⟩;cases x with
 |tmp t=>
  simp only[place]at hp;cases hL:X.L.contains t
  ·rw[hL]at hp;simp only[aS]at hp;cases hA:s.A t with
   |none=>rw[hA]at hp;cases hp
   |some p=>
    rw[hA]at hp;simp only at hp;cases Vu:X.L.contains p.slot
    ·rw[Vu]at hp;cases hp
    rw[Vu]at hp;simp only[bg]at hp
    have key:p.slot=b/\p.off=off/\mK a p.tag:=by
     cases wI:p.tag with
     |none=>rw[wI]at hp;simp only[ξ,Δ]at hp;exact⟨hp.1,hp.2,trivial⟩
     |some g=>
      rw[wI]at hp;simp only at hp;cases hg:(tag==δ g)
      ·rw[hg]at hp;cases hp
      ·rw[hg]at hp;simp only[bg,ξ,Δ]at hp;have:tag=δ g:=by simpa using hg
       exact⟨hp.1,hp.2,this▸ht⟩
    obtain⟨e1,e2,e3⟩:=key;obtain⟨k',j1,j2⟩:=h.jy t p hA e3;rw[e1,k1]at j1;injection j1 with j1;subst j1
    rw[e2]at j2;exact j2
  ·rw[hL]at hp;simp only[bg,ξ,Δ]at hp;obtain⟨rfl,rfl⟩:=hp;exact k2
 |_=>simp [place]at hp
theorem PR{c:RC}{σ:Heap}(hh:eX c σ){x:AV}{cs:List AV}{v:Value}(h:ψ x σ=δ cs)(r:ak c x v):∃b off,v=.pointer (δ ⟨b,off,η⟩)/\aY c b off cs:=by
 cases x<;>simp only[ψ]at h<;>first|(cases h;done)|skip
 case rp l=>
  injection h with h;subst h
  simp only[ak]at r;obtain⟨b,off,e,_,_,r⟩:=r;exact⟨b,off,e,r⟩
 case op id off=>
  simp only[ak]at r;obtain⟨p,h1,h2,e⟩:=r;split at h
  ·rename_i cs0 hs;injection h with h;subst h
   obtain⟨_,h3⟩:=hh.blk id p _ h1 hs;exact⟨_,_,e,by simpa using h3.2.drop off⟩
  ·cases h
 case oe id g i off=>
  simp only[ak]at r;obtain⟨hg,p,h1,h2,q,e,r⟩:=r;split at h
  ·rename_i g' sz es hs;split at h
   ·rename_i Nn;obtain⟨el,h3,h4⟩:=bX.1 h;subst h4;obtain⟨k1,k2,k3,k4,k5,k6,k7,_⟩:=hh.blk id p _ h1 hs;have hq:=r (by rw[Nn,k1]);subst hq;refine⟨_,_,e,?_⟩;rw[k3];exact(amr k7 h3).2.drop off
   ·cases h
  ·cases h
theorem FG{c:RC}{ρ:Operand->Value}(dM:∀x,ak c (ev X s x) (ρ x)){pl:Nat->Option (Nat×TypeId)}{place:Nat->Option (Nat×Nat)}(hp:∀i off t,pl i=δ (off,t)->place i=δ (off,X.P.cellsOf t)):
  ∀(ps:List (Nat×Operand))(cs cs':List AV)(arr:Array Value),kR X s pl ps cs=δ cs'->aJ c cs arr.toList->(∀x∈arr.toList,bY x=ι)->
   ∃wA,Instr.fill place arr (ps.map λp=>(p.1,ρ p.2))=δ wA/\aJ c cs' wA.toList/\∀x∈wA.toList,bY x=ι
 |[],cs,cs',arr,h,r,o=>by
  simp only[kR]at h;injection h with h;subst h
  exact⟨arr,by simp [Instr.fill],r,o⟩
 |(i,x)::ps,cs,cs',arr,h,r,o=>by
  simp only[kR]at h;cases hpl:pl i with
  |none=>rw[hpl]at h;cases h
  |some ot=>
   obtain⟨off,t⟩:=ot;rw[hpl]at h;simp only at h;obtain⟨new,h1,h2⟩:=bl.1 h;obtain⟨c2,h3,h4⟩:=bl.1 h2;obtain⟨r1,r2,r3,_⟩:=zW X h1 (dM x);obtain⟨r4,r5⟩:=r.dV h3 r1;have r5':off+(ρ x).cells.size<=arr.size:=by simpa using r5
   obtain⟨wA,k1,k2,k3⟩:=FG dM hp ps c2 cs' (dV arr off (ρ x).cells.toList) h4 r4 (Aw o r2);refine⟨wA,?_,k2,k3⟩;simp only[bU,Instr.fill,hp i off t hpl];have hz:((ρ x).cells.size≠X.P.cellsOf t||decide (off+(ρ x).cells.size>arr.size))=θ:=by simp [r3];omega
   have hf:(ρ x).cells.zipIdx.foldl (λcs(p:Value×Nat)=>cs.setIfInBounds (off+p.2) p.1) arr=dV arr off (ρ x).cells.toList:=by have:=QM off (ρ x).cells.toList 0 arr (by simpa using r5');rw[<-Array.foldl_toList];simpa using this
   simp only[hz];rw[<-k1,<-hf];rfl
end
end
section
open Go.RowKit
section
variable {c : RC} (w : World)
theorem Yr{P:Program}(fs:List Field)(body:Field->PUnit->Sem (ForInStep PUnit))(h:∀f∈fs,(body f ⟨⟩).run P w=.ok (.yield ⟨⟩) w):(forIn fs PUnit.unit body:Sem PUnit).run P w=.ok ⟨⟩ w:=by
 induction fs with
 |nil=>simp
 |cons f fs ih=>simp only[List.forIn_cons,b7,h f (by simp),Ψ];exact ih λg hg=>h g (by simp [hg])
theorem QD {P : Program} {d : Nat} : ∀ (fs : List Field) (off tot : Nat), tF (gU P d) P.cellsOf fs off = δ tot -> ∀ f ∈ fs, f.name ≠ "_" /\ gU P d f.type = ι /\ f.offset + P.cellsOf f.type <= tot
 |[],off,tot,h,f,hf=>by simp at hf
 |g::fs,off,tot,h,f,hf=>by
  simp only[tF]at h;cases hc : (g.name != "_" && g.offset == off && gU P d g.type)
  ·rw[hc]at h;cases h
  ·rw[hc]at h;simp only[bg]at h;simp only[eF,bne_iff_ne,beq_iff_eq]at hc;obtain⟨⟨hn,ho⟩,hk⟩:=hc;have hle:=FE (λt=>Ad d t) fs _ _ h;rcases eo.1 hf with rfl|hf
   ·exact⟨hn,hk,by omega⟩
   ·exact QD fs _ _ h f hf
theorem OA{P:Program}{em:Bool}:∀(d D:Nat)(hD:d<=D)(t:TypeId)(vs:List Value),gU P d t=ι->vs.length=P.cellsOf t->(Wl em D t (jF P t vs)).run P w=.ok () w
 |0,_,_,t,vs,h,_=>by simp [gU]at h
 |d+1,0,hD,_,_,_,_=>by omega
 |d+1,D+1,hD,t,vs,h,l=>by
  unfold gU at h;cases hd:P.underlying t with
  |none=>rw[hd]at h;cases h
  |some de=>
   rw[hd]at h;cases de<;>simp only at h<;>first|(cases h;done)|skip
   case bool=>unfold Wl;simp [run_underlying hd,jF,hd]
   case int=>unfold Wl;simp [run_underlying hd,jF,hd]
   case string=>unfold Wl;simp [run_underlying hd,jF,hd]
   case struct fs=>
    simp only[eF,Bool.not_eq_true',beq_iff_eq]at h;have hm:=QD fs.toList 0 _ h.2;unfold Wl;simp only[b7,run_underlying hd,jF,hd,Ψ];rw[<-Array.forIn_toList,Yr w]
    ·first|done|simp
    ·intro f hf;obtain⟨hn,hk,hle⟩:=hm f hf
     obtain⟨d',rfl⟩:∃d',d=d'+1:=by
      cases d with
      |zero=>simp [gU]at hk
      |succ d'=>exact⟨d',rfl⟩
     have r1:=Ii w hk (vs:=vs.toArray) (off:=f.offset) (by simp;omega);have e1:=OA (em:=em) (d'+1) D (by omega) f.type _ hk (show((vs.toArray.toList.drop f.offset).take (P.cellsOf f.type)).length=_ by simp;omega);simp [hn,r1,e1]
theorem EZ(X:Fx){kt:TypeId}{ek:A.EK}(ht:je X kt=δ ek){k:AV}{key:Value}(hk:A.eY ek k=ι)(r:ak c k key)(em:Bool):(Wl em 10000 kt key).run X.P w=.ok () w:=by
 unfold je at ht;cases hd:X.P.underlying kt with
 |none=>rw[hd]at ht;cases ht
 |some de=>
  rw[hd]at ht;cases de<;>simp only at ht<;>first|(cases ht;done)|skip
  case bool=>show(Wl em (9999+1) kt key).run X.P w=_;unfold Wl;simp [run_underlying hd]
  case int=>show(Wl em (9999+1) kt key).run X.P w=_;unfold Wl;simp [run_underlying hd]
  case string=>show(Wl em (9999+1) kt key).run X.P w=_;unfold Wl;simp [run_underlying hd]
  case pointer el=>
   cases hc:(X.P.cellsOf el !=0)
   ·rw[hc]at ht;cases ht
   ·rw[hc]at ht;injection ht with ht;subst ht;cases k<;>simp [A.eY]at hk
  case struct fs=>
   cases hc:(gU X.P 9 kt&&!X.P.eqGuardType X.P.depth kt)
   ·rw[hc]at ht;cases ht
   ·rw[hc]at ht;injection ht with ht;subst ht
    simp only[eF,Bool.not_eq_true']at hc;cases k<;>simp only[A.eY]at hk<;>first|(cases hk;done)|skip
    rename_i xs;simp only[ak]at r;obtain⟨vs,rfl,r1,_⟩:=r;have hl:vs.toList.length=X.P.cellsOf kt:=by rw[<-r1.length,beq_iff_eq.1 hk,Ad 9 kt hc.1]
    have:=OA w (em:=em) 9 10000 (by decide) kt vs.toList hc.1 hl;simpa [jF,hd]using this
def J1(c:RC)(es:List MapEntry):Option AV->Option (Nat×Value)->Prop
 |none,η=>True
 |some av,δ (i,v)=>ak c av v/\∃e,es[i]? =δ e/\e.val=v
 |_,_=>False
theorem OS(X:Fx){kt:TypeId}{ek:A.EK}(ht:je X kt=δ ek){k:AV}{key:Value}(rk:ak c k key):∀(aW:List (AV×AV))(es fP:List MapEntry)(i:Nat)(r:Option AV),ZD ek k aW=δ r->bL c aW es->(∀j,es[j]? =fP[i+j]?)->
  ∃res,(alN kt key es i).run X.P w=.ok res w/\J1 c fP r res/\A.oK ek k aW i=δ (res.map (·.1))
 |[],es,fP,i,r,h,re,he=>by
  simp only[ZD]at h;injection h with h;subst h
  simp only[bL]at re;subst re;exact⟨η,by simp [alN],trivial,rfl⟩
 |(k',v')::aW,es,fP,i,r,h,re,he=>by
  simp only[ZD]at h;obtain⟨b,h1,h2⟩:=bl.1 h;obtain⟨e,es',rfl,r1,r2,r3⟩:=re;have hq:=(J6 w X ht h1 rk r1).1;cases b
  ·simp only[aS]at h2;obtain⟨res,k1,k2⟩:=OS X ht rk aW es' fP (i+1) r h2 r3 (λj=>by have:=he (j+1);simp at this;rw[show i+1+j=i+(j+1) by omega];exact this);exact⟨res,by simp [alN,hq,k1],k2.1,by simp [A.oK,h1,k2.2]⟩
  ·simp only[bg]at h2;injection h2 with h2;subst h2
   have h0:=he 0;simp at h0;exact⟨δ (i,e.val),by simp [alN,hq],⟨r2,e,h0.symm,rfl⟩,by simp [A.oK,h1]⟩
theorem QI(X:Fx){kt:TypeId}{ek:A.EK}{d:TypeDesc}(hd:X.P.underlying kt=δ d)(ht:je X kt=δ ek)(Bh:∀fs,d≠.struct fs)(hnp:∀e,d≠.pointer e){k:AV}{key:Value}(rk:ak c k key):
  ∀(aW:List (AV×AV))(es fP:List MapEntry)(i:Nat)(r:Option AV),ZD ek k aW=δ r->bL c aW es->(∀j,es[j]? =fP[i+j]?)->
  ∃res,WO d key es i=δ res/\J1 c fP r res/\A.oK ek k aW i=δ (res.map (·.1))
 |[],es,fP,i,r,h,re,he=>by
  simp only[ZD]at h;injection h with h;subst h
  simp only[bL]at re;subst re;exact⟨η,by simp [WO],trivial,rfl⟩
 |(k',v')::aW,es,fP,i,r,h,re,he=>by
  simp only[ZD]at h;obtain⟨b,h1,h2⟩:=bl.1 h;obtain⟨e,es',rfl,r1,r2,r3⟩:=re
  have hsame:Y8 d key e.key=δ b:=by
   unfold je at ht;rw[hd]at ht;cases d<;>simp only at ht<;>first|(cases ht;done)|exact absurd rfl (Bh _)|exact absurd rfl (hnp _)|skip
   case bool=>
    injection ht with ht;subst ht
    simp only[YB,A.tO]at h1;split at h1
    ·simp only[ak]at rk r1;injection h1 with h1;rw[rk,r1];simp [Y8,h1]
    ·cases h1
   case int=>
    injection ht with ht;subst ht
    simp only[YB,A.lz]at h1;split at h1
    ·split at h1
     ·simp only[ak]at rk r1;injection h1 with h1;rw[rk,r1];simp [Y8,h1];assumption
     ·cases h1
    ·cases h1
   case string=>
    injection ht with ht;subst ht
    simp only[YB,A.oc]at h1;split at h1
    ·simp only[ak]at rk r1;injection h1 with h1;rw[rk,r1];simp [Y8,h1]
    ·cases h1
  cases b
  ·simp only[aS]at h2;obtain⟨res,k1,k2⟩:=QI X hd ht Bh hnp rk aW es' fP (i+1) r h2 r3 (λj=>by have:=he (j+1);simp at this;rw[show i+1+j=i+(j+1) by omega];exact this);exact⟨res,by simp [WO,hsame,k1],k2.1,by simp [A.oK,h1,k2.2]⟩
  ·simp only[bg]at h2;injection h2 with h2;subst h2
   have h0:=he 0;simp at h0;exact⟨δ (i,e.val),by simp [WO,hsame],⟨r2,e,h0.symm,rfl⟩,by simp [A.oK,h1]⟩
theorem JO(X:Fx){kt:TypeId}{ek:A.EK}(ht:je X kt=δ ek){k:AV}{key:Value}(hk:A.eY ek k=ι)(rk:ak c k key){aW:List (AV×AV)}{es:List MapEntry}{r:Option AV}(h:ZD ek k aW=δ r)(re:bL c aW es):
  ∃res,(amd kt key es).run X.P w=.ok res w/\J1 c es r res/\A.oK ek k aW 0=δ (res.map (·.1)):=by
 cases hd:X.P.underlying kt with
 |none=>unfold je at ht;rw[hd]at ht;cases ht
 |some d=>
  by_cases hs:∃fs,d=.struct fs
  ·obtain⟨fs,rfl⟩:=hs;cases es with
   |nil=>
    cases aW with
    |nil=>simp only[ZD]at h;injection h with h;subst h;exact⟨η,by simp [amd,run_underlying hd,WO],trivial,rfl⟩
    |cons p aW=>obtain⟨k',v'⟩:=p;simp [bL]at re
   |cons e es'=>
    obtain⟨res,k1,k2⟩:=OS w X ht rk aW (e::es') (e::es') 0 r h re (λj=>by simp);refine⟨res,?_,k2⟩;have:WO (.struct fs) key (e::es') 0=η:=by simp [WO,Y8]
    simp [amd,run_underlying hd,this,k1]
  ·have hp:∀e,d≠.pointer e:=by
    rintro e rfl;unfold je at ht;rw[hd]at ht;simp only at ht;cases hc:(X.P.cellsOf e !=0)
    ·rw[hc]at ht;cases ht
    ·rw[hc]at ht;injection ht with ht;subst ht;cases k<;>simp [A.eY]at hk
   obtain⟨res,k1,k2⟩:=QI X hd ht (λfs e=>hs ⟨fs,e⟩) hp rk aW es es 0 r h re (λj=>by simp);exact⟨res,by simp [amd,run_underlying hd,k1],k2⟩
theorem bL.length{c:RC}:∀{l:List (AV×AV)}{es:List MapEntry},bL c l es->l.length=es.length
 |[],es,h=>by simp only[bL]at h;subst h;rfl
 |(k,v)::l,es,h=>by obtain⟨e,es',rfl,_,_,h⟩:=h;simp [bL.length h]
theorem aa9{c:RC}{l L:List MapEntry}(hp:l.Perm L):∀{es:List (AV×AV)},bL c es l->∃fP,bL c fP L/\fP.Perm es:=by
 induction hp with
 |nil=>intro es h;exact⟨es,h,am2.refl _⟩
 |cons x _ ih=>
  intro es h;cases es with
  |nil=>simp [bL]at h
  |cons p es=>
   obtain⟨e,es',h1,h2,h3,h4⟩:=h;injection h1 with h1 h5
   subst h1 h5;obtain⟨fP,k1,k2⟩:=ih h4;exact⟨p::fP,⟨_,_,rfl,h2,h3,k1⟩,k2.cons p⟩
 |swap x y l=>
  intro es h
  match es,h with
  |[],h=>simp [bL]at h
  |[p],h=>obtain⟨e,es',h1,h2,h3,h4⟩:=h;simp only[bL]at h4;subst h4;cases h1
  |p::q::es,h=>
   obtain⟨e,es',h1,h2,h3,h4⟩:=h;obtain⟨e',ajR,h5,h6,h7,h8⟩:=h4;subst h5;injection h1 with h1 h9
   injection h9 with h9 h10
   subst h1 h9 h10;exact⟨q::p::es,⟨_,_,rfl,h6,h7,_,_,rfl,h2,h3,h8⟩,am2.swap _ _ _⟩
 |trans _ _ ih1 ih2=>intro es h;obtain⟨sC,k1,k2⟩:=ih1 h;obtain⟨Ba,k3,k4⟩:=ih2 k1;exact⟨Ba,k3,k4.trans k2⟩
theorem PU{e:A.EK}{k v:AV}:∀{es:List (AV×AV)},ZD e k es=δ (δ v)->∃p∈es,p.2=v/\YB e k p.1=δ ι
 |[],h=>by simp [ZD]at h
 |(k',v')::r,h=>by
  simp only[ZD]at h;obtain⟨b,h1,h2⟩:=bl.1 h;cases b
  ·obtain⟨p,q1,q2,q3⟩:=PU h2;exact⟨p,iB _ q1,q2,q3⟩
  ·injection h2 with h2;injection h2 with h2
   exact⟨(k',v'),u0,h2,h1⟩
theorem PT{e:A.EK}{k:AV}:∀{es:List (AV×AV)},ZD e k es=δ η->∀p∈es,YB e k p.1=δ θ
 |[],h=>by simp
 |(k',v')::r,h=>by
  simp only[ZD]at h;obtain⟨b,h1,h2⟩:=bl.1 h;cases b
  ·intro p hp;rcases eo.1 hp with rfl|hp
   ·exact h1
   ·exact PT h2 p hp
  ·injection h2 with h2;cases h2
theorem OC{e:A.EK}{k:AV}:∀{es:List (AV×AV)},(∀p∈es,YB e k p.1=δ θ)->ZD e k es=δ η
 |[],_=>rfl
 |(k',v')::r,h=>by simp only[ZD,h (k',v') u0,aL,aS];exact OC λp hp=>h p (iB _ hp)
theorem OD{e:A.EK}{k:AV}{p:AV×AV}(h1:YB e k p.1=δ ι):∀{es:List (AV×AV)},p∈es->(es.map (·.1)).Nodup->(∀q∈es,q.1≠p.1->YB e k q.1=δ θ)->ZD e k es=δ (δ p.2)
 |[],hm,_,_=>by simp at hm
 |(k',v')::r,hm,hn,h=>by
  rcases eo.1 hm with rfl|hm
  ·simp only[ZD,h1,aL,bg]
  ·simp only[bU,xR]at hn;have hne:k'≠p.1:=λq=>hn.1 (by rw[q];exact al6 hm)
   simp only[ZD,h (k',v') u0 hne,aL,aS];exact OD h1 hm hn.2 λq hq=>h q (iB _ hq)
theorem U1(s t:ByteArray):(s==t)=decide (s=t):=by obtain⟨a⟩:=s;obtain⟨b⟩:=t;show(a==b)=_;rw[nS];simp
theorem abP{q:Nat}{x:AV}{n:Int}{b:Bool}(h:A.kC q x (.int Ξ n)=δ b):q=0/\∃a,x=.int Ξ a/\b=(a==n):=by
 match q,h with
 |0,h=>
  cases x<;>simp only[A.kC,A.lz]at h<;>first|(cases h;done)|skip
  split at h
  ·rename_i hk;injection h with h
   exact⟨rfl,_,by rw[hk],h.symm⟩
  ·cases h
 |1,h=>cases x<;>simp [A.kC,A.tO]at h
 |2,h=>cases x<;>simp [A.kC,A.oc]at h
 |q+3,h=>simp [A.kC]at h
theorem abQ{q:Nat}{x:AV}{n:ByteArray}{b:Bool}(h:A.kC q x (.str n)=δ b):q=2/\∃a,x=.str a/\b=(a==n):=by
 match q,h with
 |0,h=>cases x<;>simp [A.kC,A.lz]at h
 |1,h=>cases x<;>simp [A.kC,A.tO]at h
 |2,h=>
  cases x<;>simp only[A.kC,A.oc]at h<;>first|(cases h;done)|skip
  injection h with h
  exact⟨rfl,_,rfl,h.symm⟩
 |q+3,h=>simp [A.kC]at h
theorem akA{e:A.EK}{k:AV}{n m:Int}{s t:ByteArray}(h:YB e k (.agg [.int Ξ n,.str s])=δ ι)(hne:(l8 [.int Ξ m,.str t])≠.agg [.int Ξ n,.str s]):YB e k (.agg [.int Ξ m,.str t])=δ θ:=by
 unfold YB at h ⊢;cases e with
 |i=>cases k<;>simp [A.lz]at h
 |b=>cases k<;>simp [A.tO]at h
 |z=>cases k<;>simp [A.oc]at h
 |p=>cases k<;>simp [A.MZ]at h
 |s ks=>
  cases k<;>simp only[reduceCtorEq]at h ⊢;rename_i xs
  have hk:∃k1 k2 x y,ks=[k1,k2]/\xs=[x,y]:=by
   match ks,xs,h with
   |[],[],h=>simp [Yu]at h
   |[],_::_,h=>simp [Yu]at h
   |_::_,[],h=>simp [Yu]at h
   |[_],[_],h=>simp [Yu]at h
   |[_],_::_::_,h=>simp [Yu]at h
   |_::_::_,[_],h=>simp [Yu]at h
   |[k1,k2],[x,y],h=>exact⟨_,_,_,_,rfl,rfl⟩
   |[_,_],_::_::_::_,h=>simp [Yu]at h
   |_::_::_::_,[_,_],h=>simp [Yu]at h
   |_::_::_::_,_::_::_::_,h=>simp [Yu]at h
  obtain⟨k1,k2,x,y,rfl,rfl⟩:=hk;simp only[Yu]at h ⊢;obtain⟨b1,h1,h2⟩:=bl.1 h;obtain⟨b2,h3,h4⟩:=bX.1 h2;obtain⟨b3,h5,h6⟩:=bl.1 h3;simp only[dL,ξ,Bool.and_true]at h6;subst h6;simp only[eF]at h4;obtain⟨rfl,rfl⟩:=h4;obtain⟨rfl,a,rfl,e1⟩:=abP h1;obtain⟨rfl,z,rfl,e2⟩:=abQ h5;have e1:=eq_of_beq e1.symm;rw[U1]at e2;have e2:=of_decide_eq_true e2.symm;subst e1 e2;simp only[A.kC,A.lz,A.oc,if_true,aL,dL,ξ,Bool.and_eq_false_iff,Bool.and_true,U1];by_cases e1:a=m
  ·right;rw[decide_eq_false_iff_not];intro e2;exact hne (by rw[e1,e2])
  ·left;rw[beq_eq_false_iff_ne];exact e1
theorem ZV{e:A.EK}{k:AV}{es fP:List (AV×AV)}{r:Option AV}(hd:Cs es)(hp:fP.Perm es)(h:ZD e k es=δ r):ZD e k fP=δ r:=by
 cases r with
 |none=>exact OC λp hm=>PT h p (hp.mem_iff.1 hm)
 |some v=>
  obtain⟨p,h1,rfl,h3⟩:=PU h;refine OD h3 (hp.mem_iff.2 h1) ((hp.map _).nodup_iff.2 hd.2) λq hq hne=>?_
  obtain⟨n,s,e1⟩:=hd.1 p h1;obtain⟨m,t,e2⟩:=hd.1 q (hp.mem_iff.1 hq);rw[e1]at h3 hne;rw[e2]at hne ⊢;exact akA h3 hne
theorem aaf{c:RC}{es:List (AV×AV)}{l L:List MapEntry}(h:bL c es l)(hp:Sj es l L):∃fP,bL c fP L/\fP.length=es.length/\∀e k r,ZD e k es=δ r->ZD e k fP=δ r:=by
 rcases hp with rfl|⟨hp,hd⟩
 ·exact⟨es,h,rfl,λ_ _ _ q=>q⟩
 ·obtain⟨fP,k1,k2⟩:=aa9 hp h;exact⟨fP,k1,k2.length_eq,λ_ _ _ q=>ZV hd k2 q⟩
theorem OQ{P:Program}(hw:c.w=w){σ:Heap}(hh:eX c σ){m:AV}{v:Value}{aW:List (AV×AV)}(h:W9 m σ=δ aW)(r:ak c m v):
  ∃(es:Array MapEntry)(gE:List (AV×AV)),bL c gE es.toList/\gE.length=aW.length/\(∀e k r,ZD e k aW=δ r->ZD e k gE=δ r)/\((v=.map η/\es=#[])\/∃b bf,v=.map (δ b)/\(getObj b).run P w=.ok (.map es bf) w):=by
 cases m<;>simp only[W9]at h<;>first|(cases h;done)|skip
 case nm=>
  injection h with h;subst h
  simp only[ak]at r;exact⟨#[],[],by simp [bL],rfl,λ_ _ _ q=>q,.inl ⟨r,rfl⟩⟩
 case fm fP=>
  injection h with h;subst h
  simp only[ak]at r;obtain⟨b,e,_,_,es,bf,k1,_,l,k2,k3⟩:=r;rw[hw]at k1;obtain⟨sC,j1,j2,j3⟩:=aaf k2 k3;exact⟨es,sC,j1,j2,j3,.inr ⟨b,bf,e,by simp [getObj,Yt,k1]⟩⟩
 case om id=>
  simp only[ak]at r;obtain⟨p,h1,h2,e⟩:=r;split at h
  ·rename_i fP hs;injection h with h;subst h
   obtain⟨_,es,bf,k1,_,k2⟩:=hh.blk id p _ h1 hs;rw[hw]at k1;exact⟨es,_,k2,rfl,λ_ _ _ q=>q,.inr ⟨p.b,bf,e,by simp [getObj,Yt,k1]⟩⟩
  ·cases h
theorem aa1(X:Fx)(hw:c.w=w){σ:Heap}(hh:eX c σ){t kt et:TypeId}{inf:TypeInfo}{zv:Value}{ek:A.EK}{ok:Bool}{m k av:AV}{mv key:Value}(ht:X.P.underlying t=δ (.map kt et))(hi:X.P.info? et=δ inf)(hz:inf.zero=δ zv)(he:je X kt=δ ek)
  (h:(bif ok then A.nI ek m k (qL zv) σ else Z8 ek m k (qL zv) σ)=δ av) (rm:ak c m mv) (rk:ak c k key):∃v,(Instr.lookup t mv key ok).run X.P w=.ok v w/\ak c av v:=by
 have aga:∃aW r,A.eY ek k=ι/\W9 m σ=δ aW/\ZD ek k aW=δ r/\av=(bif ok then .aN [r.getD (qL zv),.bool r.isSome]else r.getD (qL zv)):=by
  cases ok<;>simp only[bg,aS,Z8,A.nI]at h
  all_goals
   cases hk:A.eY ek k
   ·rw[hk]at h;cases h
   ·rw[hk]at h;simp only[bg]at h;obtain⟨aW,h1,h2⟩:=bl.1 h;obtain⟨r,h3,h4⟩:=bX.1 h2;exact⟨aW,r,rfl,h1,h3,h4.symm⟩
 obtain⟨aW,r,hk,h1,h2,rfl⟩:=aga;obtain⟨es,gE,k1,_,kf,k2⟩:=OQ (P:=X.P) w hw hh h1 rm;obtain⟨res,k3,k4,_⟩:=JO w X he hk rk (kf _ _ _ h2) k1;have mT:(zeroValue et).run X.P w=.ok zv w:=by simp [zeroValue,rF w hi,hz]
 have tP:=EZ w X he hk rk es.isEmpty
 have main:∀v b,(res=η->v=zv/\b=θ)->(∀i u,res=δ (i,u)->v=u/\b=ι)->(Instr.lookup t mv key ok).run X.P w=.ok (if ok then .tuple #[v,.bool b]else v) w:=by
  intro v b hn hs;unfold Instr.lookup;simp only[b7,run_underlying ht,Ψ];rcases k2 with⟨rfl,rfl⟩|⟨bb,bf,rfl,hg⟩
  ·simp only[M6,Ψ,tP,b7,k3];cases res with
   |none=>obtain⟨rfl,rfl⟩:=hn rfl;simp [mT]
   |some p=>obtain⟨i,u⟩:=p;obtain⟨rfl,rfl⟩:=hs i u rfl;simp
  ·simp only[b7,hg,M6,Ψ,tP,k3];cases res with
   |none=>obtain⟨rfl,rfl⟩:=hn rfl;simp [mT]
   |some p=>obtain⟨i,u⟩:=p;obtain⟨rfl,rfl⟩:=hs i u rfl;simp
 have fin:∀v b,ak c (r.getD (qL zv)) v->r.isSome=b->ak c (bif ok then .aN [r.getD (qL zv),.bool r.isSome]else r.getD (qL zv)) (if ok then .tuple #[v,.bool b]else v):=by
  intro v b h1 h2;cases ok
  ·simpa using h1
  ·simp only[bg,if_true,ak];refine⟨_,rfl,?_⟩;simp only[aJ];exact⟨v,_,rfl,h1,_,_,rfl,by simp [ak,h2],rfl⟩
 cases res with
 |none=>
  cases r with
  |none=>exact⟨_,main zv θ (λ_=>⟨rfl,rfl⟩) (λi u e=>by cases e),fin zv θ (P7 c zv) rfl⟩
  |some x=>exact k4.elim
 |some p=>
  obtain⟨i,u⟩:=p;cases r with
  |none=>exact k4.elim
  |some x=>exact⟨_,main u ι (λe=>by cases e) (λi' u' e=>by injection e with e;injection e with _ e;exact⟨e,rfl⟩),fin u ι k4.1 rfl⟩
theorem find_born{f:MapEntry->Nat}:∀{l:List MapEntry}{e:MapEntry},(l.map f).Nodup->e∈l->l.find? (λx=>f x==f e)=δ e
 |[],e,_,h=>by simp at h
 |x::l,e,hn,h=>by
  simp only[bU,xR]at hn;rcases eo.1 h with rfl|h
  ·simp
  ·have hne:f x≠f e:=λk=>hn.1 (fK.2 ⟨e,h,k.symm⟩)
   have:(f x==f e)=θ:=by simpa using hne
   rw[List.find?_cons,this];exact find_born hn.2 h
theorem alv{P:Program}(hw:c.w=w){σ:Heap}(hh:eX c σ){i av:AV}{v:Value}(hk:A.Kn i σ=δ av)(ri:ak c i v):∃v',(Instr.entry v).run P w=.ok v' w/\ak c av v':=by
 subst hw;unfold A.Kn at hk;split at hk
 ·rename_i id;simp only[ak]at ri;obtain⟨p,e1,e2,rfl⟩:=ri;split at hk
  ·rename_i q left hs;injection hk with hk
   subst hk;obtain⟨hg,hit⟩:=hh.blk id p _ e1 hs;rcases hit with⟨hn,_⟩|⟨m,seen,aW,bf,h3,h4,h5,h6,h7,h8,h9⟩
   ·cases hn
   ·rcases h9 with h9|⟨k',v',e,e3,e4,e5,e6,e7⟩
    ·cases h9
    ·injection e3 with e3
     subst e3;have gu:(getObj p.b).run P c.w=.ok (.mapIter (δ m) bf seen bf) c.w:=by simp [getObj,Yt,show c.w.heap[p.b]? =_ from h3]
     have xK:(getObj m).run P c.w=.ok (.map aW bf) c.w:=by simp [getObj,Yt,show c.w.heap[m]? =_ from h6]
     have hf:aW.find? (λx=>x.born==e.born)=δ e:=by rw[<-Array.find?_toList];exact find_born (f:=(·.born)) h7.2 e5
     refine⟨.tuple #[e.key,e.val],by simp [Instr.entry,gu,xK,e4,hf],?_⟩;simp only[ak];exact⟨_,rfl,by simp only[aJ];exact⟨_,_,rfl,e6,_,_,rfl,e7,rfl⟩⟩
  ·cases hk
 ·cases hk
end
end
section
open Go.RowKit
section
variable {X : Fx} {z : Z} {s : AS} {a : Act} {w w' : World} {E : List Pl} {pb : Nat -> Option Nat}
def cG(X:Fx)(z:Z)(a:Act)(w:World)(E:List Pl)(pb:Nat->Option Nat)(o:Oper)(av:AV):Prop:=∃v w',(execOp a.eval o).run X.P w=.ok (.value v) w'/\Below w.heap.size w w'/\ak (ctx z w' E pb) av v
theorem cG.same{o:Oper}{av:AV}{v:Value}(h:(execOp a.eval o).run X.P w=.ok (.value v) w)(r:ak (ctx z w E pb) av v):cG X z a w E pb o av:=⟨v,w,h,Below.refl _ _,r⟩
theorem Fa(h:St X z s a w E pb)(t:TypeId){cs:List AV}{arr:Array Value}(r:aJ (ctx z w E pb) cs arr.toList)(ho:∀x∈arr.toList,bY x=ι):
  Below w.heap.size w (w.alloc (.cells arr t))/\w.heap.size<(w.alloc (.cells arr t)).heap.size/\¬(ctx z (w.alloc (.cells arr t)) E pb).X w.heap.size/\aY (ctx z (w.alloc (.cells arr t)) E pb) w.heap.size 0 cs:=by
 have g:Below w.heap.size w (w.alloc (.cells arr t)):=(Below.refl _ _).alloc (bJ _) _;have hx:Ext (ctx z w E pb) (ctx z (w.alloc (.cells arr t)) E pb):=rJ g;have hb:(w.alloc (.cells arr t)).heap[w.heap.size]? =δ (.cells arr t (0,0)):=(Zs w _).1;exact⟨g,by simp,h.fresh,aY.tV hb (WR hx _ _ r) ho (λi hi=>by simp)⟩
theorem sQ{P:Program}(t:TypeId)(arr:Array Value):(newRow t arr).run P w=.ok ⟨w.heap.size,0,η⟩ (w.alloc (.cells arr t)):=by rfl
theorem sS{t:TypeId}{zs:List AV}(h:pY X t=δ zs)(c:RC):∃i v,X.P.info? t=δ i/\i.zero=δ v/\(zeroValue t).run X.P w=.ok v w/\zs=v.cells.toList.map vZ/\aJ c zs v.cells.toList/\∀x∈v.cells.toList,bY x=ι:=by
 unfold pY at h;split at h
 ·rename_i i hi;split at h
  ·rename_i v hv;cases ho:v.cells.toList.all bY
   ·rw[ho]at h;cases h
   ·rw[ho]at h;simp only[bg]at h;injection h with h
    refine⟨i,v,hi,hv,by simp [zeroValue,rF w hi,hv],h.symm,?_,iX.1 ho⟩;rw[<-h];have:=aJ.map (c:=c) vZ id v.cells.toList (λx _=>Je c x);simpa using this
  ·cases h
 ·cases h
theorem kV.map(h:St X z s a w E pb)(x:Option Operand):kV (ctx z w E pb) (x.map (ev X s)) (x.map a.eval):=by
 cases x with
 |none=>trivial
 |some x=>exact cH h x
theorem akj(h:St X z s a w E pb){dst:Option Tmp}{t ty:TypeId}{pos:String}{af:Array Edge}{g:Option (Nat×Bool)}{cs:List AV}(hz:pY X t=δ cs):
  cG X z a w E pb ⟨dst,.alloc t,ty,pos,af,g⟩ (.rp cs):=by
 obtain⟨i,v,h1,h2,h3,h4,h5,h6⟩:=sS (w:=w) hz (ctx z w E pb);obtain⟨k1,k2,k3,k4⟩:=Fa h t h5 h6;refine⟨.pointer (δ ⟨w.heap.size,0,η⟩),_,?_,k1,by simp only[ak];exact⟨_,_,rfl,k2,k3,k4⟩⟩;simp [execOp,Instr.alloc,h3,newVar,sQ]
theorem Y1(h:St X z s a w E pb){dst:Option Tmp}{t ty:TypeId}{x:Operand}{pos:String}{af:Array Edge}{g:Option (Nat×Bool)}{cs:List AV}(hc:sY X t (ev X s x)=δ cs):
  cG X z a w E pb ⟨dst,.box t x,ty,pos,af,g⟩ (.rp cs):=by
 obtain⟨h5,h6,_,_⟩:=zW X hc (cH h x);obtain⟨k1,k2,k3,k4⟩:=Fa h t h5 h6;refine⟨.pointer (δ ⟨w.heap.size,0,η⟩),_,?_,k1,by simp only[ak];exact⟨_,_,rfl,k2,k3,k4⟩⟩;simp [execOp,Instr.box,newVar,sQ]
theorem EV{t:TypeId}{f off:Nat}{ft:TypeId}(h:vS X t f=δ (off,ft)):∃fs fl,X.P.underlying t=δ (.struct fs)/\fs[f]? =δ fl/\fl.offset=off/\fl.type=ft:=by
 unfold vS at h;split at h
 ·rename_i fs hd;split at h
  ·rename_i fl hf;simp only[ξ,Δ]at h;exact⟨fs,fl,hd,hf,h.1,h.2⟩
  ·cases h
 ·cases h
theorem OU{P:Program}:∀(fs:List Field),fs.all (λf=>(P.info? f.type).isSome)=ι->(fs.mapM (λf=>do pure (f.offset,<-sizeOf f.type)):Sem (List (Nat×Nat))).run P w=.ok (fs.map λf=>(f.offset,P.cellsOf f.type)) w
 |[],_=>by simp
 |f::fs,h=>by simp only[amm,eF]at h;obtain⟨i,hi⟩:=al3.1 h.1;have ih:=OU fs h.2;simp only[List.mapM_cons,b7,BV w hi,Ψ,M6,ih,bU]
theorem XK(h:St X z s a w E pb){dst:Option Tmp}{t ty:TypeId}{ps:Array (Nat×Operand)}{pos:String}{af:Array Edge}{g:Option (Nat×Bool)}{zs cs:List AV}{fs:Array Field}(hz:pY X t=δ zs)(hd:X.P.underlying t=δ (.struct fs))
  (hi:fs.toList.all (λf=>(X.P.info? f.type).isSome)=ι) (hf:kR X s (vS X t) ps.toList zs=δ cs):cG X z a w E pb ⟨dst,.build t ps,ty,pos,af,g⟩ (.agg cs):=by
 obtain⟨i,v,h1,h2,h3,h4,h5,h6⟩:=sS (w:=w) hz (ctx z w E pb);have hpl:=OU (w:=w) fs.toList hi
 obtain⟨arr,k1,k2,k3⟩:=FG (c:=ctx z w E pb) (ρ:=a.eval) (λx=>cH h x) (pl:=vS X t) (place:=λj=>((fs.toList.map λf=>(f.offset,X.P.cellsOf f.type)).toArray)[j]?) (λj off t' hj=>by
   obtain⟨fs',fl,e1,e2,e3,e4⟩:=EV hj;rw[hd]at e1;injection e1 with e1;injection e1 with e1;subst e1
   simp [e2,e3,e4]) ps.toList _ cs v.cells hf h5 h6
 refine cG.same (v:=.agg arr) ?_ (by simp only[ak];exact⟨arr,rfl,k2,k3⟩);have hps:(ps.map λ(p:Nat×Operand)=>(p.1,a.eval p.2)).toList=ps.toList.map λp=>(p.1,a.eval p.2):=by simp
 simp only[execOp,Instr.build,b7,run_underlying hd,Ψ,h3,Array.mapM_eq_mapM_toList,Sem.run_map,hpl,hps];rw[k1];simp
theorem W8(h:St X z s a w E pb){dst:Option Tmp}{t e ty:TypeId}{len:Nat}{ps:Array (Nat×Operand)}{pos:String}{af:Array Edge}{g:Option (Nat×Bool)}{zs cs:List AV}{i:TypeInfo}{av:AV}
  (hd:X.P.underlying t=δ (.slice e)) (hi:X.P.info? e=δ i) (hz:pY X e=δ zs) (h0:i.size≠0) (hl:zs.length=i.size) (hm:¬16777216<len*i.size) (yR:(len=0/\av=.ez)\/av=.sl i.size (eO i.size len cs))
  (hf:kR X s (λj=>δ (j*i.size,e)) ps.toList (e8 len zs).flatten=δ cs):cG X z a w E pb ⟨dst,.buildSlice t len ps,ty,pos,af,g⟩ av:=by
 obtain⟨i',v,h1,h2,h3,h4,h5,h6⟩:=sS (w:=w) hz (ctx z w E pb);rw[hi]at h1;injection h1 with h1;subst h1
 have hvl:v.cells.toList.length=i.size:=by rw[<-h5.length];exact hl
 have hce:X.P.cellsOf e=i.size:=by simp [amx,hi]
 have hsz:(sizeOf e).run X.P w=.ok i.size w:=by rw[<-hce];exact BV w hi
 obtain⟨zr,mT,CR⟩:∃zr:Array Value,((len*i.size=0/\zr=#[])\/(¬len*i.size=0/\zr=v.cells))/\((amw (len*i.size)).map (zr[· % zr.size]!)).toList=(e8 len v.cells.toList).flatten:=by
  by_cases hz0:len*i.size=0
  ·have:len=0:=(Nat.mul_eq_zero.1 hz0).resolve_right h0;subst this;exact⟨#[],.inl ⟨hz0,rfl⟩,by simp⟩
  ·refine⟨v.cells,.inr ⟨hz0,rfl⟩,?_⟩;have:=range_zero v.cells.toList (by omega) len;rw[hvl]at this;rw[<-this];simp
 obtain⟨arr,k1,k2,k3⟩:=FG (c:=ctx z w E pb) (ρ:=a.eval) (λx=>cH h x) (pl:=λj=>δ (j*i.size,e)) (place:=λj=>δ (j*i.size,i.size)) (λj off t' hj=>by simp only[ξ,Δ]at hj;obtain⟨rfl,rfl⟩:=hj;rw[hce]) ps.toList _ cs
  ((amw (len*i.size)).map (zr[· % zr.size]!)) hf (by rw[CR];exact h5.flatten len) (by
   rw[CR];intro x hx;obtain⟨l,qp,oh⟩:=Zw.1 hx;rw[Yq]at qp
   exact h6 x (qp.2▸oh))
 obtain⟨j1,j2,j3,j4⟩:=Fa h e k2 k3
 have fQ:cs.length=len*i.size:=by
  have hlen:∀(ps:List (Nat×Operand))(cs cs':List AV),kR X s (λj=>δ (j*i.size,e)) ps cs=δ cs'->cs'.length=cs.length:=by
   intro ps;induction ps with
   |nil=>intro cs cs' e;simp only[kR]at e;injection e with e;rw[e]
   |cons p ps ih=>
    intro cs cs' e;obtain⟨q,x⟩:=p;simp only[kR]at e;obtain⟨new,e1,e2⟩:=bl.1 e;obtain⟨c2,e3,e4⟩:=bl.1 e2;rw[ih _ _ e4];unfold y9 at e3;split at e3
    ·injection e3 with e3;subst e3;simp;omega
    ·cases e3
  rw[hlen _ _ _ hf];simp [List.length_flatten,hl]
 refine⟨.slice (δ ⟨w.heap.size,0,η⟩) len len,_,?_,j1,?_⟩
 ·have hps:(ps.map λ(p:Nat×Operand)=>(p.1,a.eval p.2)).toList=ps.toList.map λp=>(p.1,a.eval p.2):=by simp
  have hm':¬len*i.size>2 ^ 24:=hm;rcases mT with⟨e1,e2⟩|⟨e1,e2⟩
  ·simp only[execOp,alO,b7,run_underlying hd,Ψ,hsz,aB hm',aC e1,M6,hps];rw[<-e2,k1];simp [sQ]
  ·simp only[execOp,alO,b7,run_underlying hd,Ψ,hsz,aB hm',aB e1,h3,M6,hps];rw[<-e2,k1];simp [sQ]
 ·rcases yR with⟨rfl,rfl⟩|rfl
  ·simp [ak]
  simp only[ak];refine⟨_,_,by rw[E7],by rw[E7];exact bJ _,by omega,?_⟩;by_cases hl0:len=0
  ·left;subst hl0;rfl
  ·right;exact⟨_,_,rfl,j2,j3,I8 len 0 cs fQ j4⟩
theorem akQ(h:St X z s a w E pb){dst:Option Tmp}{t e ty:TypeId}{len:Nat}{ps:Array (Nat×Operand)}{pos:String}{af:Array Edge}{g:Option (Nat×Bool)}{zs cs:List AV}{i:TypeInfo}
  (hd:X.P.underlying t=δ (.slice e)) (hi:X.P.info? e=δ i) (hz:pY X e=δ zs) (h0:i.size≠0) (hl:zs.length=i.size) (hm:¬16777216<len*i.size)
  (hf:kR X s (λj=>δ (j*i.size,e)) ps.toList (e8 len zs).flatten=δ cs):∃arr:Array Value,(execOp a.eval ⟨dst,.buildSlice t len ps,ty,pos,af,g⟩).run X.P w=.ok (.value (.slice (δ ⟨w.heap.size,0,η⟩) len len)) (w.alloc (.cells arr e))/\arr.size=len*i.size/\aJ (ctx z w E pb) cs arr.toList/\(∀x∈arr.toList,bY x=ι)/\cs.length=len*i.size:=by
 obtain⟨i',v,h1,h2,h3,h4,h5,h6⟩:=sS (w:=w) hz (ctx z w E pb);rw[hi]at h1;injection h1 with h1;subst h1
 have hvl:v.cells.toList.length=i.size:=by rw[<-h5.length];exact hl
 have hce:X.P.cellsOf e=i.size:=by simp [amx,hi]
 have hsz:(sizeOf e).run X.P w=.ok i.size w:=by rw[<-hce];exact BV w hi
 obtain⟨zr,mT,CR⟩:∃zr:Array Value,((len*i.size=0/\zr=#[])\/(¬len*i.size=0/\zr=v.cells))/\((amw (len*i.size)).map (zr[· % zr.size]!)).toList=(e8 len v.cells.toList).flatten:=by
  by_cases hz0:len*i.size=0
  ·have:len=0:=(Nat.mul_eq_zero.1 hz0).resolve_right h0;subst this;exact⟨#[],.inl ⟨hz0,rfl⟩,by simp⟩
  ·refine⟨v.cells,.inr ⟨hz0,rfl⟩,?_⟩;have:=range_zero v.cells.toList (by omega) len;rw[hvl]at this;rw[<-this];simp
 obtain⟨arr,k1,k2,k3⟩:=FG (c:=ctx z w E pb) (ρ:=a.eval) (λx=>cH h x) (pl:=λj=>δ (j*i.size,e)) (place:=λj=>δ (j*i.size,i.size)) (λj off t' hj=>by simp only[ξ,Δ]at hj;obtain⟨rfl,rfl⟩:=hj;rw[hce]) ps.toList _ cs
  ((amw (len*i.size)).map (zr[· % zr.size]!)) hf (by rw[CR];exact h5.flatten len) (by
   rw[CR];intro x hx;obtain⟨l,qp,oh⟩:=Zw.1 hx;rw[Yq]at qp
   exact h6 x (qp.2▸oh))
 obtain⟨j1,j2,j3,j4⟩:=Fa h e k2 k3
 have fQ:cs.length=len*i.size:=by
  have hlen:∀(ps:List (Nat×Operand))(cs cs':List AV),kR X s (λj=>δ (j*i.size,e)) ps cs=δ cs'->cs'.length=cs.length:=by
   intro ps;induction ps with
   |nil=>intro cs cs' e;simp only[kR]at e;injection e with e;rw[e]
   |cons p ps ih=>
    intro cs cs' e;obtain⟨q,x⟩:=p;simp only[kR]at e;obtain⟨new,e1,e2⟩:=bl.1 e;obtain⟨c2,e3,e4⟩:=bl.1 e2;rw[ih _ _ e4];unfold y9 at e3;split at e3
    ·injection e3 with e3;subst e3;simp;omega
    ·cases e3
  rw[hlen _ _ _ hf];simp [List.length_flatten,hl]
 refine⟨arr,?_,by have:=k2.length;rw[fQ]at this;simpa using this.symm,k2,k3,fQ⟩
 ·have hps:(ps.map λ(p:Nat×Operand)=>(p.1,a.eval p.2)).toList=ps.toList.map λp=>(p.1,a.eval p.2):=by simp
  have hm':¬len*i.size>2 ^ 24:=hm;rcases mT with⟨e1,e2⟩|⟨e1,e2⟩
  ·simp only[execOp,alO,b7,run_underlying hd,Ψ,hsz,aB hm',aC e1,M6,hps];rw[<-e2,k1];simp [sQ]
  ·simp only[execOp,alO,b7,run_underlying hd,Ψ,hsz,aB hm',aB e1,h3,M6,hps];rw[<-e2,k1];simp [sQ]
theorem ajZ(h:St X z s a w E pb){d t n:Nat}{ps:Array (Nat×Operand)}{ty:TypeId}{pos:String}{af:Array Edge}{g:Option (Nat×Bool)}{sz:Nat}{es:List (List AV)}
  (hv:dN X ⟨δ d,.buildSlice t n ps,ty,pos,af,g⟩ s η=δ (.sl sz es)):∃(arr:Array Value)(et:TypeId),(execOp a.eval ⟨δ d,.buildSlice t n ps,ty,pos,af,g⟩).run X.P w=.ok (.value (.slice (δ ⟨w.heap.size,0,η⟩) es.length es.length)) (w.alloc (.cells arr et))/\
   arr.size=es.length*sz/\0<sz/\(∀c',c'.w.heap[w.heap.size]? =δ (.cells arr et (0,0))->Ext (ctx z w E pb) c'->bh c' sz w.heap.size 0 es)/\∀x∈arr.toList,bY x=ι:=by
 simp only[dN]at hv;split at hv
 ·rename_i e hd;split at hv
  ·rename_i i zs hi hz;cases h0:(i.size==0||zs.length !=i.size)
   ·rw[h0]at hv;simp only[aS]at hv;simp only[jZ,beq_eq_false_iff_ne,bne_eq_false_iff_eq]at h0;cases hm:alM 16777216 (n*i.size)
    ·rw[hm]at hv;simp only[aS]at hv;obtain⟨cs,h1,h2⟩:=bl.1 hv;cases hn:(n==0)
     ·rw[hn]at h2;simp only[aS,ξ,WV.injEq]at h2;obtain⟨rfl,rfl⟩:=h2;obtain⟨arr,k1,k2,k3,k4,k5⟩:=akQ (dst:=δ d) (ty:=ty) (pos:=pos) (af:=af) (g:=g) h hd hi hz h0.1 h0.2 (λk=>by rw[show alM 16777216 (n*i.size)=ι from by simpa [Nat.blt_eq]using k]at hm;cases hm) h1;rw[E7];exact⟨arr,e,k1,k2,Nat.pos_of_ne_zero h0.1,λc' hb hx=>I8 n 0 cs k5 (aY.tV hb (WR hx _ _ k3) k4 (λj hj=>by simp)),k4⟩
     ·rw[hn]at h2;cases h2
    ·rw[hm]at hv;cases hv
   ·rw[h0]at hv;cases hv
  ·cases hv
 ·cases hv
theorem ack(h:St X z s a w E pb){tag:Option (Nat×Bool)}(ht:mK a tag){o:Oper}{av:AV}(hv:dN X o s tag=δ av)(hc:∀c,o.op=.call c->∃b,c.callee=.builtin b):cG X z a w E pb o av:=by
 obtain⟨dst,op,ty,pos,af,g⟩:=o;cases op<;>simp only[dN]at hv<;>first|(cases hv;done)|skip
 case move x=>injection hv with hv;subst hv;exact cG.same (by simp [execOp]) (cH h x)
 case assign x=>injection hv with hv;subst hv;exact cG.same (by simp [execOp]) (cH h x)
 case pick x y u=>
  have r:=cH h x;generalize ev X s x=vx at *
  cases vx<;>simp only[l6]at hv<;>first|(cases hv;done)|skip
  rename_i b;injection hv with hv
  simp only[ak]at r;cases b
  ·simp only[aS]at hv;subst hv;exact cG.same (v:=a.eval u) (by simp [execOp,r,asBool]) (cH h u)
  ·simp only[bg]at hv;subst hv;exact cG.same (v:=a.eval y) (by simp [execOp,r,asBool]) (cH h y)
 case alloc t=>
  split at hv
  ·injection hv with hv;subst hv;exact akj h (by assumption)
  ·cases hv
 case box t x=>
  obtain⟨cs,h1,h2⟩:=bl.1 hv;injection h2 with h2;subst h2
  exact Y1 h h1
 case build t ps=>
  split at hv
  ·rename_i zs fs hz hd;cases hi:fs.toList.all (λf=>(X.P.info? f.type).isSome)
   ·rw[hi]at hv;cases hv
   ·rw[hi]at hv;simp only[bg]at hv;obtain⟨cs,h1,h2⟩:=bl.1 hv;injection h2 with h2;subst h2
    exact XK h hz hd hi h1
  ·cases hv
 case buildSlice t len ps=>
  split at hv
  ·rename_i e hd;split at hv
   ·rename_i i zs hi hz;cases h0:(i.size==0||zs.length !=i.size)
    ·rw[h0]at hv;simp only[aS]at hv;simp only[jZ,beq_eq_false_iff_ne,bne_eq_false_iff_eq]at h0;cases hm:alM 16777216 (len*i.size)
     ·rw[hm]at hv;simp only[aS]at hv;obtain⟨cs,h1,h2⟩:=bl.1 hv;injection h2 with h2;subst h2
      refine W8 h hd hi hz h0.1 h0.2 (λk=>by rw[show alM 16777216 (len*i.size)=ι from by simpa [Nat.blt_eq]using k]at hm;cases hm) ?_ h1;by_cases hl:len=0
      ·subst hl;exact .inl ⟨rfl,rfl⟩
      ·exact .inr (by rw[show(len==0)=θ by simpa using hl];rfl)
     ·rw[hm]at hv;cases hv
    ·rw[h0]at hv;cases hv
   ·cases hv
  ·cases hv
 case load t x=>
  split at hv
  ·rename_i b off hp;obtain⟨cs,h1,h2⟩:=bl.1 hv;obtain⟨k,k1,k2,k3,k4⟩:=Af h ht hp h1;obtain⟨v,j1,j2⟩:=Fb (c:=ctx z w E pb) w X rfl k3.2 h2;rw[Gs]at j1;exact cG.same (by simp [execOp,Instr.loadAt,k2,Yp,j1]) j2
  ·obtain⟨cs,h1,h2⟩:=bl.1 hv;obtain⟨b,off,k2,k3⟩:=PR h.heap h1 (cH h x);obtain⟨v,j1,j2⟩:=Fb (c:=ctx z w E pb) w X rfl k3 h2;rw[Nat.add_zero]at j1;exact cG.same (by simp [execOp,Instr.loadAt,k2,Yp,j1]) j2
 case nilCheck x=>
  have r:=cH h x;generalize ev X s x=vx at *
  cases vx<;>simp only[A.gZ]at hv<;>first|(cases hv;done)|skip
  all_goals
   injection hv with hv;subst hv
   have r':=r;simp only[ak]at r
  case rp=>obtain⟨b,off,e,_⟩:=r;exact cG.same (v:=a.eval x) (by simp [execOp,e]) r'
  case op=>obtain⟨p,_,_,e⟩:=r;exact cG.same (v:=a.eval x) (by simp [execOp,e]) r'
  case oe=>obtain⟨_,p,_,_,q,e,_⟩:=r;exact cG.same (v:=a.eval x) (by simp [execOp,e]) r'
  case fn=>obtain⟨f,vs,e,_⟩:=r;exact cG.same (v:=a.eval x) (by simp [execOp,e]) r'
 case binOp op t x y u=>
  obtain⟨k,h1,h2⟩:=abF (c:=ctx z w E pb) w X (ox:=x) (oy:=y) hv (cH h x) (cH h y);exact cG.same (v:=k) (by simp only[execOp];rw[b7,h1];rfl) h2
 case unOp op t x=>
  have r:=cH h x;generalize ev X s x=vx at *
  cases op<;>simp only at hv<;>first|(cases hv;done)|skip
  case neg=>
   cases vx<;>simp only[A.neg]at hv<;>first|(cases hv;done)|skip
   rename_i k n;injection hv with hv;subst hv
   simp only[ak]at r;exact cG.same (v:=.int k (k.wrap (0-n))) (by simp [execOp,r,Op.unary,amu]) (by simp [ak])
  case not=>
   cases vx<;>simp only[Wc]at hv<;>first|(cases hv;done)|skip
   rename_i b;injection hv with hv;subst hv
   simp only[ak]at r;exact cG.same (v:=.bool (!b)) (by simp [execOp,r,Op.unary]) (by simp [ak])
 case convert src dst' x=>
  have r:=cH h x;generalize ev X s x=vx at *
  split at hv
  ·rename_i k1 k2 hs hd;cases vx<;>simp only[A.conv]at hv<;>first|(cases hv;done)|skip
   rename_i k n;injection hv with hv;subst hv
   simp only[ak]at r;exact cG.same (v:=.int k2 (k2.wrap n)) (by simp [execOp,convert,r,run_underlying hs,run_underlying hd,Conv.intToInt]) (by simp [ak])
  ·rename_i hs hd;cases vx<;>simp only[A.Tk]at hv<;>first|(cases hv;done)|skip
   rename_i str;injection hv with hv;subst hv
   simp only[ak]at r;exact cG.same (v:=.string str) (by simp [execOp,convert,r,run_underlying hs,run_underlying hd]) (by simp [ak])
  ·cases hv
 case makeInterface t x=>
  split at hv
  ·cases hv
  ·rename_i d hn hd;injection hv with hv;subst hv
   have:X.P.concrete t=ι:=by unfold Program.concrete;rw[hd];cases d<;>first|rfl|exact absurd rfl (hn _)
   exact cG.same (v:=.iface t (a.eval x)) (by simp [execOp,run_makeInterface w t _ this]) (by simp [ak])
  ·cases hv
 case makeFunc fn first caps=>
  split at hv
  ·rename_i f;cases hf:first.toList.isEmpty
   ·rw[hf]at hv;cases hv
   ·rw[hf]at hv;simp only[bg]at hv;injection hv with hv;subst hv
    have:first=#[]:=by simpa using hf
    subst this;refine cG.same (v:=.func (.func f) #[] (caps.map a.eval)) (by simp [execOp,Instr.makeFunc]) ?_;simp only[ak];refine⟨f,_,rfl,by rw[h.nm];rfl,?_⟩
    simpa using As h caps.toList
  ·cases hv
 case slice t x lo hi mx=>
  split at hv
  ·split at hv
   ·rename_i hd;obtain⟨k,k1,k2⟩:=ZB (P:=X.P) (c:=ctx z w E pb) w hd hv (cH h x) (kV.map h lo) (kV.map h hi);refine cG.same (v:=k) ?_ k2;simp [execOp,amW,run_underlying hd,k1]
   ·rename_i e hd;split at hv
    ·rename_i i hi';obtain⟨k,k1,k2⟩:=ZA (P:=X.P) (c:=ctx z w E pb) w h.heap hd hi' hv (cH h x) (kV.map h lo) (kV.map h hi);refine cG.same (v:=k) ?_ k2;simp [execOp,amW,run_underlying hd,k1]
    ·cases hv
   ·cases hv
  ·split at hv
   ·rename_i e hi1 hd;split at hv
    ·rename_i i hi';obtain⟨k,k1,k2⟩:=Zz (P:=X.P) (c:=ctx z w E pb) w hd hi' hv (cH h x) (kV.map h lo) (cH h _) (cH h _);refine cG.same (v:=k) ?_ k2;simp [execOp,amW,run_underlying hd,k1]
    ·cases hv
   ·cases hv
 case entry i=>
  obtain⟨v',k1,k2⟩:=alv (P:=X.P) (c:=ctx z w E pb) w rfl h.heap hv (cH h i);exact cG.same (v:=v') (by simp [execOp,k1]) k2
 case fieldAddr t x f=>
  split at hv
  ·rename_i off ft hf;split at hv
   ·rename_i i hi;cases h0:(i.size==0)
    ·rw[h0]at hv;simp only[aS]at hv;obtain⟨fs,fl,e1,e2,e3,e4⟩:=EV hf;have r:=cH h x;generalize ev X s x=vx at *
     have hsz:(sizeOf fl.type).run X.P w=.ok i.size w:=by rw[e4];simp [sizeOf,rF w hi]
     have mR:¬i.size=0:=by simpa using h0
     have run:∀q,a.eval x=.pointer (δ q)->(execOp a.eval ⟨dst,.fieldAddr t x f,ty,pos,af,g⟩).run X.P w=.ok (.value (.pointer (δ (q.add off)))) w:=by intro q e;simp [execOp,Instr.fieldAt,run_underlying e1,e2,e,Yp,fieldPlace,hsz,mR,e3]
     cases vx<;>simp only[WN]at hv<;>first|(cases hv;done)|skip
     case rp cs=>
      injection hv with hv;subst hv
      simp only[ak]at r;obtain⟨b,o,e,hb,hx,r⟩:=r;exact cG.same (run _ e) (by simp only[ak,kI];exact⟨b,o+off,rfl,hb,hx,r.drop off⟩)
     case op id o=>
      injection hv with hv;subst hv
      simp only[ak]at r;obtain⟨p,k1,k2,e⟩:=r;exact cG.same (run _ e) (by simp only[ak,kI];exact⟨p,k1,k2,rfl⟩)
     case oe id gg i' o=>
      injection hv with hv;subst hv
      simp only[ak]at r;obtain⟨hg,p,k1,k2,q,e,r⟩:=r;exact cG.same (run _ e) (by simp only[ak];exact⟨hg,p,k1,k2,_,rfl,λk=>by rw[r k,kI,iV]⟩)
    ·rw[h0]at hv;cases hv
   ·cases hv
  ·cases hv
 case field t x f=>
  split at hv
  ·rename_i off ft hf;obtain⟨fs,fl,e1,e2,e3,e4⟩:=EV hf;obtain⟨cs,h1,h2⟩:=bl.1 hv;have r:=cH h x;generalize ev X s x=vx at *
   cases vx<;>simp only[i7]at h1<;>first|(cases h1;done)|skip
   split at h1
   ·injection h1 with h1;subst h1
    simp only[ak]at r;obtain⟨vs,e,r1,r2⟩:=r;obtain⟨v,k1,k2⟩:=Zq (c:=ctx z w E pb) w X r1 r2 h2;exact cG.same (v:=v) (by simp [execOp,Instr.field,run_underlying e1,e2,e,asAgg,e3,e4,k1]) k2
   ·cases h1
  ·cases hv
 case indexAddr t x i=>
  split at hv
  ·rename_i e hd;split at hv
   ·rename_i j hj;have hsz:(sizeOf e).run X.P w=.ok j.size w:=by simp [sizeOf,rF w hj]
    have r:=cH h x;have ri:=cH h i;generalize ev X s x=vx at *
    cases vx<;>simp only[EY]at hv<;>first|(cases hv;done)|skip
    case sl sz es=>
     obtain⟨n,h1,h2⟩:=bl.1 hv;obtain⟨k,e1,e2⟩:=Ck (c:=ctx z w E pb) h1 ri;split at h2
     ·rename_i hs;subst hs;obtain⟨el,h3,h4⟩:=bX.1 h2;subst h4;simp only[ak]at r;obtain⟨q,cap,e3,_,_,r⟩:=r;rcases r with r|⟨b,off,e4,hb,hx,r⟩
      ·subst r;simp at h3
      ·subst e4;refine cG.same (v:=.pointer (δ ⟨b,off+n*j.size,η⟩)) ?_ (by simp only[ak];exact⟨_,_,rfl,hb,hx,(amr r h3).2⟩);simp [execOp,ame,run_underlying hd,e1,e3,asIntOf,hsz,e2,kI]
     ·cases h2
    case os id gg sz off len=>
     obtain⟨n,h1,h2⟩:=bl.1 hv;obtain⟨k,e1,e2⟩:=Ck (c:=ctx z w E pb) h1 ri;split at h2
     ·rename_i hs;subst hs;injection h2 with h2;subst h2
      simp only[ak]at r;obtain⟨hg,p,k1,k2,q,cap,e3,hcap,r⟩:=r;refine cG.same (v:=.pointer (δ (q.add (n*j.size)))) ?_ ?_
      ·simp [execOp,ame,run_underlying hd,e1,e3,asIntOf,hsz,e2]
      ·simp only[ak];refine⟨hg,p,k1,k2,_,rfl,λk=>?_⟩;obtain⟨j1,j2,j3⟩:=r k;rcases j2 with j2|j2
       ·omega
       ·rw[j2,kI,j1,fB];congr 1;omega
     ·cases h2
   ·cases hv
  ·rename_i len e hd;split at hv
   ·rename_i j hj;have hsz:(sizeOf e).run X.P w=.ok j.size w:=by simp [sizeOf,rF w hj]
    obtain⟨n,h1,h2⟩:=bl.1 hv;obtain⟨k,e1,e2⟩:=Ck (c:=ctx z w E pb) h1 (cH h i);have r:=cH h x;generalize ev X s x=vx at *
    have run:∀q,a.eval x=.pointer (δ q)->(execOp a.eval ⟨dst,.indexAddr t x i,ty,pos,af,g⟩).run X.P w=.ok (.value (.pointer (δ (q.add (n*j.size))))) w:=by intro q e;simp [execOp,ame,run_underlying hd,e1,e,asIntOf,hsz,e2,Yp]
    cases vx<;>simp only at h2<;>first|(cases h2;done)|skip
    case rp cs=>
     injection h2 with h2;subst h2
     simp only[ak]at r;obtain⟨b,o,e,hb,hx,r⟩:=r;exact cG.same (run _ e) (by simp only[ak,kI];exact⟨b,_,rfl,hb,hx,r.drop _⟩)
    case op id o=>
     injection h2 with h2;subst h2
     simp only[ak]at r;obtain⟨p,k1,k2,e⟩:=r;exact cG.same (run _ e) (by simp only[ak,kI];exact⟨p,k1,k2,rfl⟩)
    case oe id gg i' o=>
     injection h2 with h2;subst h2
     simp only[ak]at r;obtain⟨hg,p,k1,k2,q,e,r⟩:=r;exact cG.same (run _ e) (by simp only[ak];exact⟨hg,p,k1,k2,_,rfl,λk=>by rw[r k,kI,iV]⟩)
   ·cases hv
  ·cases hv
 case index t x i=>
  split at hv
  ·rename_i hd;have r:=cH h x;generalize ev X s x=vx at *
   cases vx<;>simp only[A.oZ]at hv<;>first|(cases hv;done)|skip
   rename_i str;obtain⟨n,h1,h2⟩:=bl.1 hv;obtain⟨U2,h3,h4⟩:=bX.1 h2;subst h4;obtain⟨k,e1,e2⟩:=Ck (c:=ctx z w E pb) h1 (cH h i);simp only[ak]at r;refine cG.same (v:=.int .u8 U2.toNat) ?_ (by simp [ak]);have this:=h3;simp [execOp,Instr.index,run_underlying hd,e1,r,asIntOf,this]
  ·cases hv
 case lookup t m i ok=>
  split at hv
  ·rename_i kt e hd;split at hv
   ·rename_i inf ek hi he;split at hv
    ·rename_i zv hz;obtain⟨v,k1,k2⟩:=aa1 (c:=ctx z w E pb) w X rfl h.heap hd hi hz he hv (cH h m) (cH h i);exact cG.same (v:=v) (by simp [execOp,k1]) k2
    ·cases hv
   ·cases hv
  ·cases hv
 case extract x i=>
  have r:=cH h x;generalize ev X s x=vx at *
  cases vx<;>simp only[WG]at hv<;>first|(cases hv;done)|skip
  simp only[ak]at r;obtain⟨vs,e,r⟩:=r;obtain⟨v,k1,k2⟩:=r.nth hv;refine cG.same (v:=v) ?_ k2;have:vs[i]? =δ v:=by rw[<-YT];exact k1
  simp [execOp,Instr.extract,e,this]
 case call c=>
  obtain⟨b,hb⟩:=hc c rfl;rw[hb]at hv;simp only at hv;have re:=As h c.args.toList;have hargs:c.args.map a.eval=(c.args.toList.map a.eval).toArray:=by apply jJ.1;simp
  obtain⟨cb,hrun⟩:∃cb,(execOp a.eval ⟨dst,.call c,ty,pos,af,g⟩).run X.P w=(builtin b c.argTypes ty cb (c.args.map a.eval)).run X.P w:=by simp only[execOp,resolve,hb,b7,M6,Ψ,invoke];exact⟨_,rfl⟩
  rw[hargs]at hrun;split at hv
  ·rename_i t x h1 h2;rw[h2]at re;generalize c.args.toList.map a.eval=vs at *
   simp only[aJ]at re;obtain⟨v,_,rfl,r,rfl⟩:=re;have h1':c.argTypes=#[t]:=by apply jJ.1;simpa using h1
   rw[h1']at hrun;split at hv
   ·rename_i hd;cases x<;>simp only[A.uK]at hv<;>first|(cases hv;done)|skip
    injection hv with hv;subst hv
    simp only[ak]at r;subst r;exact cG.same (by rw[hrun];simp [builtin,Zo,run_underlying hd,goInt];rfl) (by simp [ak])
   ·rename_i e hd;cases x<;>simp only[WJ]at hv<;>first|(cases hv;done)|skip
    all_goals
     injection hv with hv;subst hv
     simp only[ak]at r
    case sl sz es=>
     obtain⟨q,cap,rfl,_⟩:=r;exact cG.same (v:=.int Ξ es.length) (by rw[hrun];simp [builtin,Zo,run_underlying hd,goInt]) (by simp [ak])
    case aH=>
     subst r;exact cG.same (v:=.int Ξ 0) (by rw[hrun];simp [builtin,Zo,run_underlying hd,goInt]) (by simp [ak])
    case ez=>
     obtain⟨q,rfl⟩:=r;exact cG.same (v:=.int Ξ 0) (by rw[hrun];simp [builtin,Zo,run_underlying hd,goInt]) (by simp [ak])
    case os id gg sz off len=>
     obtain⟨_,p,_,_,q,cap,rfl,_⟩:=r;exact cG.same (v:=.int Ξ len) (by rw[hrun];simp [builtin,Zo,run_underlying hd,goInt]) (by simp [ak])
   ·rename_i kt e hd
    have:∃aW,W9 x s.σ=δ aW/\av=.int Ξ aW.length:=by
     cases x<;>simp only[A.Uv]at hv<;>first|(cases hv;done)|skip
     case om id=>
      split at hv
      ·rename_i es hs;injection hv with hv
       exact⟨es,by simp [W9,hs],hv.symm⟩
      ·cases hv
     case nm=>injection hv with hv;exact⟨[],rfl,by simpa using hv.symm⟩
     case fm es=>injection hv with hv;exact⟨es,rfl,hv.symm⟩
    obtain⟨aW,k1,rfl⟩:=this;obtain⟨es,gE,k2,kl,_,k3⟩:=OQ (P:=X.P) (c:=ctx z w E pb) w rfl h.heap k1 r;have hl:=k2.length;rw[kl]at hl;refine cG.same (v:=.int Ξ aW.length) ?_ (by simp [ak]);rcases k3 with⟨rfl,rfl⟩|⟨bb,bf,rfl,hg⟩
    ·rw[hrun];simp at hl;simp [builtin,Zo,run_underlying hd,goInt,hl]
    ·rw[hrun];simp at hl;simp [builtin,Zo,run_underlying hd,goInt,hg,hl]
   ·cases hv
  ·rename_i t x h1 h2;rw[h2]at re;generalize c.args.toList.map a.eval=vs at *
   simp only[aJ]at re;obtain⟨v,_,rfl,r,rfl⟩:=re;have h1':c.argTypes=#[t]:=by apply jJ.1;simpa using h1
   rw[h1']at hrun;split at hv
   ·rename_i e hd;cases x<;>simp only[A.xX]at hv<;>first|(cases hv;done)|skip
    all_goals
     injection hv with hv;subst hv
     simp only[ak]at r
    case aH=>
     subst r;exact cG.same (v:=.int Ξ 0) (by rw[hrun];simp [builtin,alT,run_underlying hd,goInt]) (by simp [ak])
    case ez=>
     obtain⟨q,rfl⟩:=r;exact cG.same (v:=.int Ξ 0) (by rw[hrun];simp [builtin,alT,run_underlying hd,goInt]) (by simp [ak])
   ·cases hv
  ·rename_i x y h2;rw[h2]at re;generalize c.args.toList.map a.eval=vs at *
   simp only[aJ]at re;obtain⟨v,_,rfl,r,u,_,rfl,q,rfl⟩:=re;unfold A.max at hv;split at hv
   ·rename_i k m k' n;injection hv with hv;subst hv
    simp only[ak]at r q;subst r;subst q;exact cG.same (v:=.int k (if n>m then n else m)) (by rw[hrun];simp [builtin,Builtin.max_,Builtin.max2]) (by simp [ak])
   ·cases hv
  ·rename_i x y h2;rw[h2]at re;generalize c.args.toList.map a.eval=vs at *
   simp only[aJ]at re;obtain⟨v,_,rfl,r,u,_,rfl,q,rfl⟩:=re;unfold A.min at hv;split at hv
   ·rename_i k m k' n;injection hv with hv;subst hv
    simp only[ak]at r q;subst r;subst q;exact cG.same (v:=.int k (if n<m then n else m)) (by rw[hrun];simp [builtin,Builtin.min_,Builtin.min2]) (by simp [ak])
   ·cases hv
  ·cases hv
end
end
section
open Go.RowKit
def bP:Nat->Option Nat:=λ_=>η
def abu(P:Program)(nm:List Nat)(f:FuncId)(args:List AV)(σ:Heap)(r:AV)(σ':Heap):Prop:=∃g,(∀bQ w,(callFunc f bQ).run P w=.ok (.enter g bQ) w)/\∀(z:Z)(vs:Array Value),z.nm=nm->qS z->eX (ctx z z.w z.E bP) σ->aJ (ctx z z.w z.E bP) args vs.toList->Calls P g vs z.w λe w'=>∃v E',e=.returned v/\Out z w' E'/\eX (ctx z w' E' bP) σ'/\ak (ctx z w' E' bP) r v
def abv(P:Program)(nm:List Nat)(f:FuncId)(args:List AV)(σ:Heap)(r:AV)(σ':Heap):Prop:=∀(z:Z)(vs:Array Value),z.nm=nm->qS z->eX (ctx z z.w z.E bP) σ->aJ (ctx z z.w z.E bP) args vs.toList->∃v w' E',(callFunc f vs).run P z.w=.ok (.value v) w'/\Out z w' E'/\eX (ctx z w' E' bP) σ'/\ak (ctx z w' E' bP) r v
def jq(P:Program)(nm:List Nat)(f:FuncId)(args:List AV)(σ:Heap)(r:AV)(σ':Heap):Prop:=abu P nm f args σ r σ'\/abv P nm f args σ r σ'
structure ct (X : Fx) : Prop where
 call:∀f args σ r σ',X.call f args σ=δ (r,σ')->jq X.P X.nm f args σ r σ'
 dyn:∀f args σ r σ',X.dyn (X.nm.getD f 0) args σ=δ (r,σ')->jq X.P X.nm f args σ r σ'
section
variable {X : Fx} {z : Z} {s : AS} {a : Act} {w w' : World} {E : List Pl} {pb : Nat -> Option Nat}
theorem Ext.same{c c':RC}(hw:c'.w=c.w)(hE:c'.E=c.E)(hX:∀b,c'.X b->c.X b)(hn:c'.nm=c.nm):Ext c c':=
 ⟨by rw[hw];exact bJ _,λb _ hx=>⟨by rw[hw],λk=>hx (hX b k)⟩,λi p h=>⟨p,by rw[hE];exact h,.inl rfl⟩,hn⟩
def below(z:Z)(w:World)(E:List Pl)(pb:Nat->Option Nat):Z:=⟨w,E,λb=>z.X b\/∃i,pb i=δ b,z.nm⟩
theorem JL:Ext (ctx z w E pb) (ctx (below z w E pb) w E bP):=
 Ext.same rfl rfl (λb k=>by
  rcases k with(k|k)|k|⟨i,k⟩
  ·exact .inl k
  ·exact .inr (.inr k)
  ·exact .inr (.inl k)
  ·cases k) rfl
theorem I7{w':World}{E':List Pl}:Ext (ctx (below z w E pb) w' E' bP) (ctx z w' E' pb):=
 Ext.same rfl rfl (λb k=>by
  rcases k with k|k|k
  ·exact .inl (.inl k)
  ·exact .inr (.inl k)
  ·exact .inl (.inr k)) rfl
theorem St.called(h:St X z s a w E pb){w':World}{E':List Pl}{σ':Heap}(ho:Out (below z w E pb) w' E')(hh:eX (ctx (below z w E pb) w' E' bP) σ'):St X z (s.heap σ') a w' E' pb:=by
 have SD:∀p∈E',w.heap.size<=p.b\/∃q∈E,q.b=p.b:=ho.fresh
 have hx:Ext (ctx z w E pb) (ctx z w' E' pb):=by
  refine⟨ho.size,λb hb hn=>⟨ho.stay b hb (λp hp e=>hn (.inr (.inl ⟨p,hp,e⟩))),?_⟩,ho.env,rfl⟩;rintro(k|⟨p,hp,k⟩|k)
  ·exact hn (.inl k)
  ·rcases SD p hp with e|⟨q,hq,e⟩
   ·simp only[ctx]at hb;omega
   ·exact hn (.inr (.inl ⟨q,hq,e.trans k⟩))
  ·exact hn (.inr (.inr k))
 refine h.ext hx (λi b hb=>⟨hb,ho.stay b (h.priv i b hb).2.1 (h.priv i b hb).2.2⟩) (λi b hb=>⟨(h.priv i b hb).1,nQ (h.priv i b hb).2.1 ho.size,λp hp e=>?_⟩) h.inj
  (hh.mono I7 rfl (λp hp=>rfl)) ?_
 ·rcases SD p hp with k|⟨q,hq,k⟩
  ·have:=(h.priv i b hb).2.1;omega
  ·exact(h.priv i b hb).2.2 q hq (k.trans e)
 ·have o:=h.out;refine⟨ho.os.trans o.os,ho.tape.trans o.tape,ho.output.trans o.output,o8 o.size ho.size,λb hb hp=>?_,λi p hp=>?_,λi p hp=>?_,o.lt,o.mine⟩
  ·rw[ho.stay b (nQ hb o.size) (λp Nu e=>?_)]
   ·exact o.stay b hb hp
   ·rcases o.fresh p Nu with k|⟨q,hq,k⟩
    ·omega
    ·exact hp q hq (k.trans e)
  ·rcases ho.fresh' i p hp with k|⟨q,hq,k⟩
   ·exact .inl (o8 o.size k)
   ·rcases o.fresh' i q hq with k'|⟨q',ve,k'⟩
    ·exact .inl (k▸k')
    ·exact .inr ⟨q',ve,k'.trans k⟩
  ·obtain⟨p',h1,h2⟩:=o.env i p hp;obtain⟨p'',h3,h4⟩:=ho.env i p' h1;refine⟨p'',h3,?_⟩;rcases h2 with rfl|⟨h2,h5⟩
   ·exact h4
   ·rcases h4 with rfl|⟨h6,h7⟩
    ·exact .inr ⟨h2,h5⟩
    ·exact .inr ⟨h2,by omega⟩
theorem O6(h:St X z s a w E pb):eX (ctx (below z w E pb) w E bP) s.σ:=h.heap.mono JL rfl (λp hp=>rfl)
theorem Qv(h:St X z s a w E pb):qS (below z w E pb):=by
 refine⟨?_,h.out.lt.tab.to h.out.size (λb hb hn=>h.out.stay b hb λp hp e=>hn (.inr ⟨p,hp,e⟩)) ?_⟩
 ·rintro b (k|⟨i,k⟩)
  ·exact nQ (h.out.lt b k) h.out.size
  ·exact(h.priv i b k).2.1
 ·rintro b hb ((k|⟨i,k⟩)|⟨p,hp,k⟩)
  ·exact .inl k
  ·have:=(h.priv i b k).1;omega
  ·rcases h.out.fresh p hp with q|⟨q,hq,e⟩
   ·omega
   ·exact .inr ⟨q,hq,e.trans k⟩
theorem Ci(h:St X z s a w E pb){f:FuncId}{args:List AV}{vs:Array Value}{r:AV}{σ':Heap}(hc:jq X.P X.nm f args s.σ r σ')(ha:aJ (ctx z w E pb) args vs.toList){o:Oper}{K:Act->World->Prop}{Q:Exit->Act->World->Prop}
  (ho:(execOp a.eval o).run X.P w=(callFunc f vs).run X.P w) (hK:∀v w' E',St X z (s.heap σ') a w' E' pb->ak (ctx z w' E' pb) r v->K (a.put o.dst v) w'):o.wp X.P a w K Q:=by
 rcases hc with hc|hc
 ·obtain⟨g,hg,hc⟩:=hc;unfold Oper.wp;rw[ho,hg,Oper.upon_enter];refine(hc (below z w E pb) vs h.nm.symm (Qv h) (O6 h) (WR JL _ _ ha)).mono ?_;rintro e w' ⟨v,E',rfl,h1,h2,h3⟩;exact hK v w' E' (h.called h1 h2) (X5 I7 _ _ h3)
 ·obtain⟨v,w',E',k1,h1,h2,h3⟩:=hc (below z w E pb) vs h.nm.symm (Qv h) (O6 h) (WR JL _ _ ha);unfold Oper.wp;rw[ho,show(callFunc f vs).run X.P w=_ from k1,Oper.upon_value];exact hK v w' E' (h.called h1 h2) (X5 I7 _ _ h3)
theorem Ot{f:FuncId}{c:Call}(hc:c.callee=.value (.func f)){dst:Option Tmp}{ty:TypeId}{pos:String}{af:Array Edge}{g:Option (Nat×Bool)}:
  (execOp a.eval ⟨dst,.call c,ty,pos,af,g⟩).run X.P w=(callFunc f (c.args.map a.eval)).run X.P w:=by
 simp [execOp,resolve,hc,Act.eval,Deferred.ofValue,invoke]
theorem Ih{f:FuncId}{caps:Array Value}{x:Operand}{c:Call}(hc:c.callee=.value x)(hx:a.eval x=.func (.func f) #[] caps){dst:Option Tmp}{ty:TypeId}{pos:String}{af:Array Edge}{g:Option (Nat×Bool)}:
  (execOp a.eval ⟨dst,.call c,ty,pos,af,g⟩).run X.P w=(callFunc f (c.args.map a.eval++caps)).run X.P w:=by
 simp [execOp,resolve,hc,hx,Deferred.ofValue,invoke]
theorem SS(hs:ct X)(h:St X z s a w E pb){tag:Option (Nat×Bool)}(ht:mK a tag){o:Oper}{av:AV}(hv:dN X o s tag=δ av){K:Act->World->Prop}{Q:Exit->Act->World->Prop}
  (hK:∀v w' E',St X z s a w' E' pb->ak (ctx z w' E' pb) av v->K (a.put o.dst v) w'):o.wp X.P a w K Q:=by
 by_cases hc:∀c,o.op=.call c->∃b,c.callee=.builtin b
 ·obtain⟨v,w',h1,h2,h3⟩:=ack h ht hv hc;unfold Oper.wp;rw[h1,Oper.upon_value];exact hK v w' E (h.grow h2) h3
 ·obtain⟨dst,op,ty,pos,af,g⟩:=o
  have:∃c,op=.call c/\∀b,c.callee≠.builtin b:=by refine amR λhn=>hc λc e=>amR λhb=>hn ⟨c,e,λb e'=>hb ⟨b,e'⟩⟩
  obtain⟨c,rfl,hb⟩:=this;simp only[dN]at hv
  have quiet:∀r,Wd r s.σ=δ av->r=δ (av,s.σ):=by
   intro r hr;unfold Wd at hr;obtain⟨p,h1,h2⟩:=bl.1 hr;split at h2
   ·rename_i he;injection h2 with h2
    rw[h1,<-he,<-h2]
   ·cases h2
  have hargs:(c.args.map a.eval).toList=c.args.toList.map a.eval:=by simp
  have hheap:s.heap s.σ=s:=rfl;cases AW:c.callee with
  |builtin b=>exact absurd AW (hb b)
  |invoke rr m=>rw[AW]at hv;cases hv
  |value x=>
   rw[AW]at hv;cases x with
   |func f=>simp only at hv;have hq:=hs.call _ _ _ _ _ (quiet _ hv);refine Ci h hq (by rw[hargs];exact As h _) (Ot AW) (λv w' E' h1 h2=>?_);exact hK v w' E' h1 h2
   |tmp t=>
    simp only at hv;have hq:=quiet _ hv;have r:=cH h (.tmp t);generalize ev X s (.tmp t)=vx at *
    cases vx<;>simp only[A.gP]at hq<;>first|(cases hq;done)|skip
    rename_i fn0 Cv;simp only[ak]at r;obtain⟨f,cs,e1,e2,e3⟩:=r;rw[<-e2]at hq;have ve:X.dyn (X.nm.getD f 0) (c.args.toList.map (ev X s)++Cv) s.σ=δ (av,s.σ):=by rw[h.nm];exact hq
    refine Ci h (hs.dyn _ _ _ _ _ ve) (vs:=c.args.map a.eval++cs) (by rw[amz,hargs];exact(As h _).append e3) (Ih AW e1) (λv w' E' h1 h2=>?_);exact hK v w' E' h1 h2
   |const v=>
    simp only at hv;have hq:=quiet _ hv;have r:=cH h (.const v);generalize ev X s (.const v)=vx at *
    cases vx<;>simp only[A.gP]at hq<;>first|(cases hq;done)|skip
    rename_i fn0 Cv;simp only[ak]at r;obtain⟨f,cs,e1,e2,e3⟩:=r;rw[<-e2]at hq;have ve:X.dyn (X.nm.getD f 0) (c.args.toList.map (ev X s)++Cv) s.σ=δ (av,s.σ):=by rw[h.nm];exact hq
    refine Ci h (hs.dyn _ _ _ _ _ ve) (vs:=c.args.map a.eval++cs) (by rw[amz,hargs];exact(As h _).append e3) (Ih AW e1) (λv w' E' h1 h2=>?_);exact hK v w' E' h1 h2
   |global g=>simp only[ev,A.gP]at hv;have:=quiet _ hv;cases this
theorem SR(h:St X z s a w E pb){tag:Option (Nat×Bool)}(ht:mK a tag){o:Oper}{b off:Nat}(hv:gB X o s tag=δ (b,δ off)):
  (∃k,pb b=δ k/\(execOp a.eval o).run X.P w=.ok (.value (.pointer (δ ⟨k,off,η⟩))) w):=by
 obtain⟨dst,op,ty,pos,af,g⟩:=o;cases op<;>simp only[gB]at hv<;>first|(cases hv;done)|skip
 case nilCheck x=>
  split at hv
  ·rename_i b' off' hp;injection hv with hv
   injection hv with hb hv
   subst hb;obtain⟨cs,h1,h2⟩:=bl.1 hv;simp only[ξ]at h2;subst h2;obtain⟨k,k1,k2,_⟩:=Af h ht hp h1;exact⟨k,k1,by simp [execOp,k2]⟩
  ·cases hv
 case fieldAddr t x f=>
  split at hv
  ·rename_i b' off' hp;injection hv with hv
   injection hv with hb hv
   subst hb;split at hv
   ·rename_i fo ft hf;split at hv
    ·rename_i i hi;cases h0:(i.size==0)
     ·rw[h0]at hv;simp only[aS]at hv;obtain⟨cs,h1,h2⟩:=bl.1 hv;simp only[ξ]at h2;subst h2;obtain⟨k,k1,k2,_⟩:=Af h ht hp h1;obtain⟨fs,fl,e1,e2,e3,e4⟩:=EV hf;have hsz:(sizeOf fl.type).run X.P w=.ok i.size w:=by rw[e4];simp [sizeOf,rF w hi]
      have mR:¬i.size=0:=by simpa using h0
      exact⟨k,k1,by simp [execOp,Instr.fieldAt,run_underlying e1,e2,k2,Yp,fieldPlace,hsz,mR,e3,kI]⟩
     ·rw[h0]at hv;cases hv
    ·cases hv
   ·cases hv
  ·cases hv
 case indexAddr t x i=>
  split at hv
  ·rename_i b' off' hp;injection hv with hv
   injection hv with hb hv
   subst hb;split at hv
   ·rename_i len e hd;split at hv
    ·rename_i ie hie;obtain⟨cs,h1,h2⟩:=bl.1 hv;obtain⟨n,h3,h4⟩:=bl.1 h2;simp only[ξ]at h4;subst h4;obtain⟨k,k1,k2,_⟩:=Af h ht hp h1;obtain⟨kk,e1,e2⟩:=Ck (c:=ctx z w E pb) h3 (cH h i);have hsz:(sizeOf e).run X.P w=.ok ie.size w:=by simp [sizeOf,rF w hie]
     exact⟨k,k1,by simp [execOp,ame,run_underlying hd,e1,k2,asIntOf,hsz,e2,Yp,kI]⟩
    ·cases hv
   ·cases hv
  ·cases hv
theorem Qx{c:RC}{b:Nat}{cs:List AV}(h:uA c b cs):∃arr t,c.w.heap[b]? =δ (.cells arr t (0,0))/\aJ c cs arr.toList/\∀x∈arr.toList,bY x=ι:=by
 obtain⟨⟨arr,t,h1,h2⟩,h3⟩:=h;obtain⟨vs,k1,k2,k3⟩:=h3.HI
 have:arr.toList=vs:=by
  apply List.ext_getElem?;intro i;by_cases hi:i<vs.length
  ·have:=k3 i vs[i] (by simp [hi]);rw[Gs,sN h1]at this;rw[YT,this];simp [hi]
  ·have hl:=k1.length;rw[iW (by simp;omega),iW (by omega)]
 rw[<-this]at k1 k2;exact⟨arr,t,h1,k1,k2⟩
theorem I4{P:Program}{t:TypeId}{b off:Nat}{v:Value}{arr:Array Value}{bt:TypeId}(hb:w.heap[b]? =δ (.cells arr bt (0,0)))(hsz:v.cells.size=P.cellsOf t)(ht:(P.info? t).isSome=ι)(ho:∀x∈v.cells.toList,bY x=ι)(hl:off+v.cells.toList.length<=arr.size):
  (Instr.storeAt t (.pointer (δ ⟨b,off,η⟩)) v).run P w=.ok () (w.cz b (.cells (dV arr off v.cells.toList) bt (0,0))):=by
 obtain⟨i,hi⟩:=al3.1 ht;have:=zH (P:=P) (b:=b) (off:=off) (t:=bt) v.cells.toList 0 w arr hb (by simpa using hl) ho;simp [Instr.storeAt,Yp,storeVar,BV w hi,hsz,this]
theorem Ox{P:Program}{t:TypeId}{d:TypeDesc}(h:P.underlying t=δ d):(P.info? t).isSome=ι:=by obtain⟨i,hi⟩:=Ra h;rw[hi];rfl
theorem AA(arr:Array Value)(o:Nat)(l:List Value)(h:o+l.length<=arr.size)(j:Nat):(dV arr o l)[j]? =if o<=j/\j<o+l.length then l[j-o]? else arr[j]? :=by
 unfold dV;rw[List.getElem?_toArray];have h1:(arr.toList.take o).length=o:=by simp;omega
 by_cases hj:j<o
 ·rw[aB (by omega),nR,fZ (by omega),Wo hj,YT]
 ·rw[nR,iH (by omega),h1];by_cases hk:j<o+l.length
  ·rw[aC ⟨by omega,hk⟩,fZ (by omega)]
  ·rw[aB (by omega),iH (by omega),WI,YT];congr 1;omega
theorem aja(h:St X z s a w E pb){t:TypeId}{x:AV}{pv v:Value}{vv:AV}{new:List AV}{σ':Heap}(hc:sY X t vv=δ new)(rv:ak (ctx z w E pb) vv v)(hst:u7 x new s.σ=δ σ')(rx:ak (ctx z w E pb) x pv):
  ∃w',(Instr.storeAt t pv v).run X.P w=.ok () w'/\St X z (s.heap σ') a w' E pb:=by
 obtain⟨r1,r2,r3,d,hd⟩:=zW X hc rv;have hi:=Ox hd;cases x<;>simp only[u7]at hst<;>first|(cases hst;done)|skip
 case op id off=>
  simp only[ak]at rx;obtain⟨p,e1,e2,rfl⟩:=rx;split at hst
  ·rename_i cs hs;obtain⟨cs',h1,h2⟩:=bX.1 hst;subst h2;obtain⟨hg,afT⟩:=h.heap.blk id p _ e1 hs;obtain⟨arr,bt,k1,k2,k3⟩:=Qx afT;obtain⟨k4,k5⟩:=k2.dV h1 r1;refine⟨_,I4 k1 r3 hi r2 k5,h.tg e1 _ _ λhx=>?_⟩;have hlt:p.b<w.heap.size:=h.heap.lt (p:=p) (bR e1);have hh:=rE (w:=w) (.cells (dV arr off v.cells.toList) bt (0,0)) hlt;have k6:=WR hx _ _ k4;exact⟨hg,⟨_,_,hh,by have:=k6.length;simpa using this.symm⟩,aY.tV hh k6 (Aw k3 r2) (λi hi=>by simp)⟩
  ·cases hst
 case oe id g i off=>
  simp only[ak]at rx;obtain⟨G9,p,e1,e2,q,rfl,rx⟩:=rx;split at hst
  ·rename_i g' sz es hs;split at hst
   ·rename_i Nn;subst Nn;obtain⟨e,h1,h2⟩:=bl.1 hst;obtain⟨e',h3,h4⟩:=bX.1 h2;subst h4;obtain⟨j1,j2,j3,j4,⟨arr,bt,j5,j6⟩,j7,j8,j9⟩:=h.heap.blk id p _ e1 hs;have hq:=rx j1.symm;subst hq;obtain⟨hel,hcs⟩:=amr j8 h1
    have hsp:off+new.length<=e.length/\e'=e.take off++new++e.drop (off+new.length):=by
     unfold y9 at h3;split at h3
     ·injection h3 with h3;exact⟨by assumption,h3.symm⟩
     ·cases h3
    have hlen:i<es.length:=(bB.1 h1).1
    have hbound:p.base+i*sz+sz<=arr.size:=by have:(i+1)*sz<=es.length*sz:=kU _ hlen;rw[fB]at this;rw[j6];omega
    have hl:new.length=v.cells.toList.length:=r1.length;have k5:p.base+i*p.sz+off+v.cells.toList.length<=arr.size:=by rw[j3];omega
    refine⟨_,I4 j5 r3 hi r2 k5,h.tg e1 _ _ λhx=>?_⟩;have hlt:p.b<w.heap.size:=h.heap.lt (p:=p) (bR e1);have hh:=rE (w:=w) (.cells (dV arr (p.base+i*p.sz+off) v.cells.toList) bt (0,0)) hlt;have hcell:∀j,(w.cz p.b (.cells (dV arr (p.base+i*p.sz+off) v.cells.toList) bt (0,0))).cell? ⟨p.b,j,η⟩=(dV arr (p.base+i*p.sz+off) v.cells.toList)[j]? :=λj=>sN hh
    have hold:∀j,w.cell? ⟨p.b,j,η⟩=arr[j]? :=λj=>sN j5
    obtain⟨ajY,LY⟩:=hsp;have hsz:p.sz=sz:=j3;rw[hsz]at k5 hcell
    have out:∀j,(j<p.base+i*sz+off\/p.base+i*sz+off+new.length<=j)->(w.cz p.b (.cells (dV arr (p.base+i*p.sz+off) v.cells.toList) bt (0,0))).cell? ⟨p.b,j,η⟩=w.cell? ⟨p.b,j,η⟩:=by intro j hj;rw[hsz,hcell,hold,AA _ _ _ k5,aB (by omega)]
    refine⟨j1,j2,j3,j4,⟨_,_,hh,by rw[hsz,JW _ _ _ k5];exact j6⟩,by simpa using j7,bh.of λj x hj=>?_,vU hh (Aw (j9 _ _ _ j5) r2)⟩;rw[fO]at hj;by_cases hij:i=j
    ·subst hij;rw[aC rfl,aC hlen]at hj;injection hj with hj;subst hj
     refine⟨by rw[LY];simp;omega,amK λk av hk=>?_⟩;by_cases hin:off<=k/\k<off+new.length
     ·have hnk:new[k-off]? =δ av:=by rw[LY,nR,iH (by simp;omega)]at hk;rw[fZ (by simp;omega)]at hk;rw[<-hk];congr 1;simp;omega
      obtain⟨u,m1,m2⟩:=r1.nth hnk;refine⟨u,?_,r2 u (bR m1),X5 hx _ _ m2⟩;show(w.cz p.b (.cells (dV arr (p.base+i*p.sz+off) v.cells.toList) bt (0,0))).cell? ⟨p.b,p.base+i*sz+k,η⟩=_;rw[hsz,hcell,AA _ _ _ k5,aC (by omega),<-m1];congr 1;omega
     ·have hek:e[k]? =δ av:=by
       rw[LY]at hk;by_cases hk1:k<off
       ·rw[nR,fZ (by simp;omega),Wo hk1]at hk;exact hk
       ·rw[iH (by simp;omega),WI]at hk;rw[<-hk];congr 1;simp;omega
      obtain⟨u,m1,m2,m3⟩:=amg hcs hek;refine⟨u,?_,m2,X5 hx _ _ m3⟩;rw[<-m1];exact out _ (by omega)
    ·rw[aB hij]at hj;obtain⟨m1,m2⟩:=amr j8 hj;refine⟨m1,amK λk av hk=>?_⟩;obtain⟨u,n1,n2,n3⟩:=amg m2 hk;refine⟨u,?_,n2,X5 hx _ _ n3⟩;rw[<-n1];have tQ:k<sz:=by rw[<-m1];exact(bB.1 hk).1
     refine out _ ?_;rcases Nat.lt_or_gt_of_ne hij with hlt'|hgt
     ·right;have:(i+1)*sz<=j*sz:=kU _ hlt';rw[fB]at this;omega
     ·left;have:(j+1)*sz<=i*sz:=kU _ hgt;rw[fB]at this;omega
   ·cases hst
  ·cases hst
end
end
section
open Go.RowKit
section
variable {X : Fx} {z : Z} {s : AS} {a : Act} {w w' : World} {E : List Pl} {pb : Nat -> Option Nat}
theorem St.move(h:St X z s a w E pb){id:Nat}{p p':Pl}{blk:aM}(hi:E[id]? =δ p)(hg:0<p.g/\p.g<p'.g)(hos:w'.os=w.os)(htp:w'.tape=w.tape)(hout:w'.output=w.output)(hsz:w.heap.size<=w'.heap.size)
  (Gl:∀b,b≠p.b->b<w.heap.size->w'.heap[b]? =w.heap[b]?) (hb:p'.b=p.b\/(w.heap.size<=p'.b/\p'.b<w'.heap.size))
  (hk:Ext (ctx z w E pb) (ctx z w' (E.set id p') pb)->lS (ctx z w' (E.set id p') pb) p' blk):
  St X z (s.heap (s.σ.set id blk)) a w' (E.set id p') pb/\Ext (ctx z w E pb) (ctx z w' (E.set id p') pb):=by
 have hm:p∈E:=bR hi;have hid:id<E.length:=(bB.1 hi).1;have hX:(ctx z w E pb).X p.b:=.inr (.inl ⟨p,hm,rfl⟩)
 have hmem:∀q∈E.set id p',q=p'\/(q∈E):=λq hq=>by
  rcases List.mem_or_eq_of_mem_set hq with e|e
  ·exact .inr e
  ·exact .inl e
 have gu:∀(j:Nat)(q:Pl),(E.set id p')[j]? =δ q->(j=id/\q=p')\/(j≠id/\E[j]? =δ q):=λj q hq=>by
  rw[fO]at hq;by_cases e:id=j
  ·subst e;rw[aC rfl,aC hid]at hq;injection hq with hq;exact .inl ⟨rfl,hq.symm⟩
  ·rw[aB e]at hq;exact .inr ⟨λe'=>e e'.symm,hq⟩
 have hx:Ext (ctx z w E pb) (ctx z w' (E.set id p') pb):=by
  refine⟨hsz,λb jN hn=>⟨Gl b (λe=>hn (e▸hX)) jN,?_⟩,λj q hq=>?_,rfl⟩
  ·rintro(k|⟨q,hq,k⟩|k)
   ·exact hn (.inl k)
   ·rcases hmem q hq with rfl|hq
    ·rcases hb with e|⟨e,_⟩
     ·exact hn (by rw[<-k,e];exact hX)
     ·simp only[ctx]at jN;omega
    ·exact hn (.inr (.inl ⟨q,hq,k⟩))
   ·exact hn (.inr (.inr k))
  ·by_cases e:id=j
   ·subst e;simp only[ctx]at hq;rw[hi]at hq;injection hq with hq;subst hq
    exact⟨p',by simp [ctx,hid],.inr hg⟩
   ·exact⟨q,by simp only[ctx]at hq ⊢;rw[fO,aB e];exact hq,.inl rfl⟩
 refine⟨h.ext hx (λi b hpb=>⟨hpb,Gl b (λe=>(h.priv i b hpb).2.2 p hm e.symm) (h.priv i b hpb).2.1⟩) (λi b hpb=>⟨(h.priv i b hpb).1,nQ (h.priv i b hpb).2.1 hsz,λq hq=>?_⟩) h.inj
  ⟨by have:=h.heap.len;simpa [ctx]using this,λi j q r hq hr he=>?_,λj q x hq cM=>?_⟩ ?_,hx⟩
 ·rcases hmem q hq with rfl|hq
  ·rcases hb with e|⟨e,_⟩
   ·rw[e];exact(h.priv i b hpb).2.2 p hm
   ·have:=(h.priv i b hpb).2.1;omega
  ·exact(h.priv i b hpb).2.2 q hq
 ·have lt:∀(j:Nat)(q:Pl),E[j]? =δ q->q.b<w.heap.size:=λj q hq=>h.heap.lt (p:=q) (bR hq)
  rcases gu i q hq with⟨e1,e2⟩|⟨e1,e2⟩<;>rcases gu j r hr with⟨e3,e4⟩|⟨e3,e4⟩
  ·rw[e1,e3]
  ·exfalso;rw[e2]at he;rcases hb with e|⟨e,_⟩
   ·exact e3 (h.heap.inj j id r p e4 hi (by rw[<-he,e]))
   ·have:=lt j r e4;omega
  ·exfalso;rw[e4]at he;rcases hb with e|⟨e,_⟩
   ·exact e1 (h.heap.inj i id q p e2 hi (by rw[he,e]))
   ·have:=lt i q e2;omega
  ·exact h.heap.inj i j q r e2 e4 he
 ·rcases gu j q hq with⟨e1,e2⟩|⟨e1,e2⟩
  ·subst e1;subst e2;rw[fO,aC rfl]at cM;split at cM
   ·injection cM with cM;subst cM;exact hk hx
   ·cases cM
  ·rw[fO,aB (λe=>e1 e.symm)]at cM;exact(h.heap.blk j q x e2 cM).mono hx (Gl q.b (λe=>e1 (h.heap.inj j id q p e2 hi e)) (h.heap.lt (p:=q) (bR e2)))
 ·have o:=h.out;refine⟨hos.trans o.os,htp.trans o.tape,hout.trans o.output,o8 o.size hsz,λb jN hp=>?_,λj q hq=>?_,λj q hq=>?_,o.lt,o.mine⟩
  ·rw[Gl b (λe=>?_) (nQ jN o.size)]
   ·exact o.stay b jN hp
   ·rcases o.fresh p hm with k|⟨r,hr,k⟩
    ·omega
    ·exact hp r hr (k.trans e.symm)
  ·rcases gu j q hq with⟨e1,e2⟩|⟨e1,e2⟩
   ·subst e1;subst e2;rcases hb with e|⟨e,_⟩
    ·rcases o.fresh' j p hi with k|⟨r,hr,k⟩
     ·exact .inl (by rw[e];exact k)
     ·exact .inr ⟨r,hr,by rw[e];exact k⟩
    ·exact .inl (o8 o.size e)
   ·exact o.fresh' j q e2
  ·obtain⟨q',h1,h2⟩:=o.env j q hq;by_cases e:id=j
   ·subst e;rw[hi]at h1;injection h1 with h1;subst h1
    refine⟨p',by simp [hid],?_⟩;rcases h2 with rfl|⟨h2,h3⟩
    ·exact .inr hg
    ·exact .inr ⟨h2,by omega⟩
   ·exact⟨q',by rw[fO,aB e];exact h1,h2⟩
theorem bh.cells{c:RC}{sz b:Nat}:∀{es:List (List AV)}{off:Nat},bh c sz b off es->aY c b off es.flatten/\es.flatten.length=es.length*sz
 |[],off,h=>by simp [aY]
 |e::es,off,h=>by
  simp only[bh]at h;obtain⟨h1,h2,h3⟩:=h;obtain⟨k1,k2⟩:=bh.cells h3;refine⟨amK λi av hi=>?_,by simp [k2,h1,fB];omega⟩;simp only[WK]at hi;by_cases hl:i<e.length
  ·rw[fZ hl]at hi;exact amg h2 hi
  ·rw[iH (by omega)]at hi;have:=amg k1 hi;rwa[show off+sz+(i-e.length)=off+i by omega]at this
theorem Pa{P:Program}{c:RC}{σ:Heap}(hh:eX c σ){sz:Nat}{y:AV}{v:Value}{ys:List (List AV)}(h:WZ sz y σ=δ ys)(r:ak c y v):
  ∃(q:Option Addr)(cap:Nat)(cs:List Value),v=.slice q ys.length cap/\(∀w2:World,w2.heap=c.w.heap->(o9 sz ys.length v).run P w2=.ok cs.toArray w2)/\aJ c ys.flatten cs/\(∀x∈cs,bY x=ι)/\cs.length=ys.length*sz/\(∀e∈ys,e.length=sz)/\(∀n,n<=ys.length->∀w2:World,w2.heap=c.w.heap->(o9 sz n v).run P w2=.ok (cs.take (n*sz)).toArray w2):=by
 have main:∀(q:Option Addr)(cap:Nat)(ys:List (List AV)),(ys=[]\/∃b off,q=δ ⟨b,off,η⟩/\bh c sz b off ys)->
   ∃cs:List Value,(∀w2:World,w2.heap=c.w.heap->(o9 sz ys.length (.slice q ys.length cap)).run P w2=.ok cs.toArray w2)/\aJ c ys.flatten cs/\(∀x∈cs,bY x=ι)/\cs.length=ys.length*sz/\(∀e∈ys,e.length=sz)/\(∀n,n<=ys.length->∀w2:World,w2.heap=c.w.heap->(o9 sz n (.slice q ys.length cap)).run P w2=.ok (cs.take (n*sz)).toArray w2):=by
  intro q cap ys hq;rcases hq with rfl|⟨b,off,rfl,r⟩
  ·refine⟨[],λw2 _=>?_,by simp [aJ],by simp,by simp,by simp,λn hn w2 _=>by
    simp at hn;subst hn
    cases q<;>simp [o9,loadCells,loadCellsFrom]⟩
   cases q with
   |none=>simp [o9]
   |some q=>simp [o9,loadCells,loadCellsFrom]
  ·obtain⟨k1,k2⟩:=r.cells;obtain⟨vs,j1,j2,j3⟩:=k1.HI;have hl:vs.length=ys.length*sz:=by rw[<-j1.length,k2]
   refine⟨vs,λw2 hw=>?_,j1,j2,hl,λe he=>?_,λn hn w2 hw=>?_⟩
   ·have:=run_loadCells_list (P:=P) w2 ⟨b,off,η⟩ vs (λj v hj=>by rw[kI];have:=j3 j v hj;simpa [World.cell?,hw]using this);rw[hl]at this;simp [o9,this]
   ·obtain⟨i,hi,rfl⟩:=Wg.1 he;exact(amr r (i:=i) (by simp [hi])).1
   ·have hnl:n*sz<=vs.length:=by rw[hl];exact kU _ hn
    have:=run_loadCells_list (P:=P) w2 ⟨b,off,η⟩ (vs.take (n*sz)) (λj v hj=>by
     rw[kI];have:=j3 j v (by rw[X4]at hj;split at hj;exact hj;cases hj)
     simpa [World.cell?,hw]using this)
    rw[nT,Nat.min_eq_left hnl]at this;simp [o9,this]
 cases y<;>simp only[WZ]at h<;>first|(cases h;done)|skip
 case aH=>
  injection h with h;subst h
  simp only[ak]at r;subst r;obtain⟨cs,k⟩:=main η 0 [] (.inl rfl);exact⟨η,0,cs,rfl,k⟩
 case ez=>
  injection h with h;subst h
  simp only[ak]at r;obtain⟨q,rfl⟩:=r;obtain⟨cs,k⟩:=main q 0 [] (.inl rfl);exact⟨q,0,cs,rfl,k⟩
 case sl sz' es=>
  split at h
  ·rename_i hs;subst hs;injection h with h;subst h
   simp only[ak]at r;obtain⟨q,cap,rfl,hcap,_,r⟩:=r
   obtain⟨cs,k⟩:=main q cap es (by
    rcases r with r|⟨b,off,e,_,_,r⟩
    ·exact .inl r
    ·exact .inr ⟨b,off,e,r⟩)
   exact⟨q,cap,cs,rfl,k⟩
  ·cases h
 case os id g ng off len=>
  simp only[ak]at r;obtain⟨hg,p,e1,e2,q,cap,rfl,hcap,r⟩:=r;split at h
  ·rename_i g' sz' es hs;split at h
   ·rename_i hc;obtain⟨rfl,rfl,rfl,hle⟩:=hc;injection h with h;subst h
    obtain⟨j1,j2,j3,j4,j5,j6,j7,_⟩:=hh.blk id p _ e1 hs;obtain⟨k1,k2,k3⟩:=r j1.symm;have hlen:((es.drop off).take len).length=len:=by simp;omega
    obtain⟨cs,k⟩:=main (δ q) cap ((es.drop off).take len) (by
     by_cases hz:len=0
     ·left;subst hz;simp
     ·right;rcases k2 with k2|k2
      ·omega
      ·exact⟨_,_,by rw[k2],by rw[j3];exact(j7.drop off).take len⟩)
    rw[hlen]at k ⊢;exact⟨δ q,cap,cs,rfl,k⟩
   ·cases h
  ·rename_i g' sz' es hs;split at h
   ·rename_i hc;obtain⟨rfl,rfl,rfl,hle⟩:=hc;injection h with h;subst h
    obtain⟨j1,j2,j3,j4,j5,j6,j7,_⟩:=hh.blk id p _ e1 hs;obtain⟨k1,k2,k3⟩:=r j1.symm;have hlen:((es.drop off).take len).length=len:=by simp;omega
    obtain⟨cs,k⟩:=main (δ q) cap ((es.drop off).take len) (by
     by_cases hz:len=0
     ·left;subst hz;simp
     ·right;rcases k2 with k2|k2
      ·omega
      ·exact⟨_,_,by rw[k2],by rw[j3];exact(j7.drop off).take len⟩)
    rw[hlen]at k ⊢;exact⟨δ q,cap,cs,rfl,k⟩
   ·cases h
  ·cases h
theorem Js{P:Program}{c:RC}{σ:Heap}(hh:eX c σ){sz:Nat}{y:AV}{v:Value}{ys:List (List AV)}(h:WZ sz y σ=δ ys)(r:ak c y v):
  ∃(q:Option Addr)(cap:Nat)(cs:List Value),v=.slice q ys.length cap/\(∀w2:World,w2.heap=c.w.heap->(o9 sz ys.length v).run P w2=.ok cs.toArray w2)/\aJ c ys.flatten cs/\(∀x∈cs,bY x=ι)/\cs.length=ys.length*sz/\(∀e∈ys,e.length=sz):=by
 obtain⟨q,cap,cs,h1,h2,h3,h4,h5,h6,_⟩:=Pa (P:=P) hh h r;exact⟨q,cap,cs,h1,h2,h3,h4,h5,h6⟩
theorem OE{sz:Nat}:∀{ys:List (List AV)}{n:Nat},(∀y∈ys,y.length=sz)->n<=ys.length->(ys.take n).flatten=ys.flatten.take (n*sz)
 |[],n,_,hn=>by simp
 |y::ys,0,_,_=>by simp
 |y::ys,n+1,h,hn=>by
  simp at hn;rw[List.take_succ_cons,WK,WK,OE (λx hx=>h x (by simp [hx])) hn,List.take_append,h y (by simp),fB,Nat.one_mul];congr 1
  ·rw[lW (by rw[h y (by simp)];omega)]
  ·congr 1;omega
theorem ZH(P:Program){e:TypeId}{i:TypeInfo}{zv:Value}(hi:P.info? e=δ i)(hz:i.zero=δ zv)(w:World):(zeroValue e).run P w=.ok zv w:=by simp [zeroValue,rF w hi,hz]
theorem Xu{P:Program}{t u e e' ty:TypeId}{i:TypeInfo}{zv:Value}(ht:P.underlying t=δ (.slice e))(hu:P.underlying u=δ (.slice e'))(hi:P.info? e=δ i)(hz:i.zero=δ zv)(hb0:i.bytes≠0)
  {base q:Option Addr} {sLen sCap n cap:Nat} {olds news:List Value} (hold:(o9 i.size sLen (.slice base sLen sCap)).run P w.drew=.ok olds.toArray w.drew) (hnew:(o9 i.size n (.slice q n cap)).run P w.drew=.ok news.toArray w.drew)
  (hg:sCap<sLen+n) (hm:sLen+n<=140737488355328 / i.bytes):
  (z8 #[t,u] ty #[.slice base sLen sCap,.slice q n cap]).run P w=
   .ok (.slice (δ ⟨w.heap.size,0,η⟩) (sLen+n) (grownCap w (sLen+n) sCap e)) (w.drew.alloc (.cells (olds.toArray++news.toArray++Ω zv.cells (grownCap w (sLen+n) sCap e-(sLen+n))) e)):=by
 have Gk:(sLen+n)*i.bytes<=140737488355328:=by have:=kU i.bytes hm;have:=al9 140737488355328 i.bytes;omega
 have h48:=growslice_fits hg Gk;have hn:¬(sLen+n<=sCap):=by omega
 have CO:¬(281474976710656<Builtin.nextslicecap (sLen+n) sCap*i.bytes):=by omega
 simp [z8,run_underlying ht,run_underlying hu,sizeOf,typeInfo,zeroValue,hi,hz,Xh,hn,CO,hb0,WU,hold,hnew,newRow,grownCap];congr 2;apply Array.ext';simp [nR]
theorem aY.sub{c:RC}{b:Nat}{arr:Array Value}{t:TypeId}{fz:Nat×Nat}(h:c.w.heap[b]? =δ (.cells arr t fz)){cs:List AV}{vs pre suf:List Value}(ha:arr.toList=pre++vs++suf)(hr:aJ c cs vs)(ho:∀x∈vs,bY x=ι):aY c b pre.length cs:=by
 refine aY.tV h hr ho λi hi=>?_
 rw[<-YT,ha,nR,iH (by omega),fZ (by omega)];congr 1;omega
theorem aY.ym{c:RC}{sz b:Nat}:∀{es:List (List AV)}{off:Nat},(∀e∈es,e.length=sz)->aY c b off es.flatten->bh c sz b off es
 |[],off,_,_=>by simp [bh]
 |e::es,off,hl,h=>by
  simp only[WK]at h;have he:=hl e (by simp);simp only[bh];refine⟨he,?_,aY.ym (λx hx=>hl x (by simp [hx])) ?_⟩
  ·have:=h.take e.length;simpa using this
  ·have:=h.drop e.length;rw[he]at this;simpa [<-he]using this
theorem bh.append{c:RC}{sz b:Nat}:∀{l m:List (List AV)}{off:Nat},bh c sz b off l->bh c sz b (off+l.length*sz) m->bh c sz b off (l++m)
 |[],m,off,h,k=>by simpa using k
 |e::l,m,off,h,k=>by simp only[bh,iI]at h ⊢;refine⟨h.1,h.2.1,bh.append h.2.2 ?_⟩;rw[show off+sz+l.length*sz=off+(e::l).length*sz by simp [fB];omega];exact k
theorem bh.keep{c c':RC}(hx:Ext c c'){sz b:Nat}{es:List (List AV)}{off:Nat}(h:bh c sz b off es)(hc:∀j,off<=j->j<off+es.length*sz->c'.w.cell? ⟨b,j,η⟩=c.w.cell? ⟨b,j,η⟩):bh c' sz b off es:=by
 refine bh.of λi e hi=>?_
 obtain⟨h1,h2⟩:=amr h hi;refine⟨h1,amK λk av hk=>?_⟩;obtain⟨u,k1,k2,k3⟩:=amg h2 hk;refine⟨u,?_,k2,X5 hx _ _ k3⟩;have hil:i<es.length:=(bB.1 hi).1;have tQ:k<sz:=by rw[<-h1];exact(bB.1 hk).1
 have:(i+1)*sz<=es.length*sz:=kU _ hil;rw[fB]at this;rw[<-k1];exact hc _ (by omega) (by omega)
theorem JM(h:St X z s a w E pb){id:Nat}{p:Pl}{g sz i:Nat}{es ys:List (List AV)}{arr:Array Value}{bt:TypeId}{news:List Value}(e1:E[id]? =δ p)(hs:s.σ[id]? =δ (.arr g sz es))(hb:w.heap[p.b]? =δ (.cells arr bt (0,0)))
  (hfit:i+ys.length<=es.length) (hr:aJ (ctx z w E pb) ys.flatten news) (ho:∀x∈news,bY x=ι) (hy:∀y∈ys,y.length=sz) (hn:news.length=ys.length*sz):
  p.base+i*sz+news.length<=arr.size/\St X z (s.heap (s.σ.set id (.arr g sz (es.take i++ys++es.drop (i+ys.length))))) a (w.cz p.b (.cells (dV arr (p.base+i*sz) news) bt (0,0))) E pb:=by
 obtain⟨j1,j2,j3,j4,⟨wA,bt',j5,j6⟩,j7,j8,j9⟩:=h.heap.blk id p _ e1 hs;have VX:w.heap[p.b]? =δ (.cells wA bt' (0,0)):=j5;rw[hb]at VX;injection VX with j5d
 injection j5d with j5e j5f
 subst j5e j5f;have hm:(i+ys.length)*sz<=es.length*sz:=kU _ hfit;rw[fB]at hm;have wj:p.base+i*sz+news.length<=arr.size:=by rw[hn,j6];omega
 refine⟨wj,h.tg e1 _ _ λhx=>?_⟩;have hlt:p.b<w.heap.size:=h.heap.lt (p:=p) (bR e1);have hh:=rE (w:=w) (.cells (dV arr (p.base+i*sz) news) bt (0,0)) hlt;have hcell:∀j,(w.cz p.b (.cells (dV arr (p.base+i*sz) news) bt (0,0))).cell? ⟨p.b,j,η⟩=(dV arr (p.base+i*sz) news)[j]? :=λj=>sN hh
 have hold:∀j,w.cell? ⟨p.b,j,η⟩=arr[j]? :=λj=>sN hb
 have out:∀j,(j<p.base+i*sz\/p.base+i*sz+news.length<=j)->(w.cz p.b (.cells (dV arr (p.base+i*sz) news) bt (0,0))).cell? ⟨p.b,j,η⟩=w.cell? ⟨p.b,j,η⟩:=by intro j hj;rw[hcell,hold,AA _ _ _ wj,aB (by omega)]
 have VK:(es.take i).length=i:=by simp;omega
 refine⟨j1,j2,j3,j4,⟨_,_,hh,by rw[JW _ _ _ wj];exact j6⟩,?_,?_,vU hh (Aw (j9 _ _ _ hb) ho)⟩
 ·have:(es.take i++ys++es.drop (i+ys.length)).length=es.length:=by simp;omega
  rw[this];exact j7
 ·refine bh.append (bh.append (bh.keep hx (j8.take i) λj hj1 hj2=>?_) ?_) (bh.keep hx ?_ λj hj1 hj2=>?_)
  ·rw[VK]at hj2;exact out j (.inl hj2)
  ·rw[VK];refine aY.ym hy ?_;refine aY.tV hh (WR hx _ _ hr) ho λj hj=>?_
   show(dV arr (p.base+i*sz) news)[p.base+i*sz+j]? =_;rw[AA _ _ _ wj,aC (by omega)];congr 1;omega
  ·have:=j8.drop (i+ys.length);have e:(es.take i++ys).length=i+ys.length:=by simp;omega
   rw[e];exact this
  ·have e:(es.take i++ys).length=i+ys.length:=by simp;omega
   rw[e,fB]at hj1;refine out j (.inr ?_);rw[hn];omega
theorem ER{zv:Value}{sz:Nat}(h:zv.cells.size=sz)(h0:sz≠0)(n:Nat):(Ω zv.cells n).toList=(e8 n zv.cells.toList).flatten:=by have:=range_zero zv.cells.toList (by simp;omega) n;rw[<-this];simp [Ω]
theorem aaH(h:St X z s a w E pb){t e ty:TypeId}{i:TypeInfo}{zv:Value}{zs:List AV}(ht:X.P.underlying t=δ (.slice e))(hzv:∀w,(zeroValue e).run X.P w=.ok zv w)(hzs:zv.cells.size=i.size)(h0:i.size≠0)
  (mT:∀c,aJ c zs zv.cells.toList) (hone:∀x∈zv.cells.toList,bY x=ι) {x:AV} {v:Value} {σ':Heap} (fQ:A.xG i.size zs x s.σ=δ σ') (rx:ak (ctx z w E pb) x v):
  ∃w',(Xv #[t] ty #[v]).run X.P w=.ok (.tuple #[]) w'/\St X z (s.heap σ') a w' E pb:=by
 unfold A.xG at fQ;have hs:s.heap s.σ=s:=rfl;split at fQ
 ·injection fQ with fQ;subst fQ
  simp only[ak]at rx;subst rx;exact⟨w,by simp [Xv,run_underlying ht],by rw[hs];exact h⟩
 ·injection fQ with fQ;subst fQ
  simp only[ak]at rx;obtain⟨q,rfl⟩:=rx;exact⟨w,by cases q<;>simp [Xv,run_underlying ht],by rw[hs];exact h⟩
 ·injection fQ with fQ;subst fQ
  simp only[ak]at rx;obtain⟨q,cap,rfl,_⟩:=rx;exact⟨w,by cases q<;>simp [Xv,run_underlying ht],by rw[hs];exact h⟩
 ·rename_i id g ng off len;simp only[ak]at rx;obtain⟨hg,p,e1,e2,qa,cp,rfl,hcap,rx⟩:=rx;split at fQ
  ·rename_i g' sz' es hs';split at fQ
   ·rename_i hc;obtain⟨hc1,jO,yS,DE⟩:=hc;subst hc1;subst jO;subst yS;obtain⟨j1,j2,j3,j4,⟨arr,bt,j5,j6⟩,j7,j8,j9⟩:=h.heap.blk id p _ e1 hs';obtain⟨k1,k2,k3⟩:=rx j1.symm;split at fQ
    ·rename_i hl;subst hl;injection fQ with fQ;subst fQ
     exact⟨w,by simp [Xv,run_underlying ht],by rw[hs];exact h⟩
    ·rename_i hl;injection fQ with fQ;subst fQ
     have vf:qa=⟨p.b,p.base+off*p.sz,η⟩:=by
      rcases k2 with k2|k2
      ·omega
      ·exact k2
     have hsz:p.sz=i.size:=j3;have hzl:zs.length=i.size:=by rw[(mT (ctx z w E pb)).length];simpa using hzs
     have LX:aJ (ctx z w E pb) (e8 len zs).flatten (Ω zv.cells len).toList:=by rw[ER hzs h0];exact(mT _).flatten len
     have Tw:∀x∈(Ω zv.cells len).toList,bY x=ι:=by rw[ER hzs h0];intro x hx;obtain⟨l,qp,oh⟩:=Zw.1 hx;rw[Yq]at qp;exact hone x (qp.2▸oh)
     have hlen:(Ω zv.cells len).toList.length=len*i.size:=by rw[Z7,size_zeroCells,hzs]
     obtain⟨q1,q2⟩:=JM h (i:=off) (ys:=e8 len zs) e1 hs' j5 (by simpa using DE) LX Tw (λy hy=>by rw[(Yq.1 hy).2];exact hzl) (by simpa using hlen);have hst:=zH (P:=X.P) (b:=p.b) (off:=p.base+off*i.size) (t:=bt) (Ω zv.cells len).toList 0 w arr j5 (by omega) Tw;rw[ZM]at q2;refine⟨_,?_,q2⟩;obtain⟨m,rfl⟩:∃m,len=m+1:=⟨len-1,by omega⟩
     rw[vf,hsz];simp [Xv,run_underlying ht,hzv,hst]
   ·cases fQ
  ·cases fQ
 ·cases fQ
structure adN (P : Program) (t u : TypeId) (vy : Value) (e : TypeId) (i : TypeInfo) (zv : Value) (n : Nat) (news : List Value) (w : World) : Prop where
 Bj:∀(w2:World)(ty:TypeId)(base:Option Addr)(sLen sCap:Nat),w2.heap=w.heap->sLen+n<=sCap->
  (z8 #[t,u] ty #[.slice base sLen sCap,vy]).run P w2=((match base with|some a=>storeCells (a.add (sLen*i.size)) news 0|none=>pure ()) >>= λ_=>pure (Value.slice base (sLen+n) sCap):Sem Value).run P w2
 new:∀(ty:TypeId)(base:Option Addr)(sLen sCap:Nat)(olds:List Value),(o9 i.size sLen (.slice base sLen sCap)).run P w.drew=.ok olds.toArray w.drew->sCap<sLen+n->sLen+n<=140737488355328 / i.bytes->
  (z8 #[t,u] ty #[.slice base sLen sCap,vy]).run P w=
   .ok (.slice (δ ⟨w.heap.size,0,η⟩) (sLen+n) (grownCap w (sLen+n) sCap e)) (w.drew.alloc (.cells (olds.toArray++news.toArray++Ω zv.cells (grownCap w (sLen+n) sCap e-(sLen+n))) e))
theorem Qa{zv:Value}{sz:Nat}(hzs:zv.cells.size=sz)(h0:sz≠0)(hone:∀x∈zv.cells.toList,bY x=ι)(n:Nat):∀x∈(Ω zv.cells n).toList,bY x=ι:=by rw[ER hzs h0];intro x hx;obtain⟨l,qp,oh⟩:=Zw.1 hx;rw[Yq]at qp;exact hone x (qp.2▸oh)
theorem FZ{zv:Value}{sz:Nat}(hzs:zv.cells.size=sz)(h0:sz≠0)(hone:∀x∈zv.cells.toList,bY x=ι){olds news:List Value}(h1:∀x∈olds,bY x=ι)(h2:∀x∈news,bY x=ι)(n:Nat):
  ∀x∈(olds.toArray++news.toArray++Ω zv.cells n).toList,bY x=ι:=by
 intro x hx;simp only[amz,al8,eG]at hx;rcases hx with(hx|hx)|hx
 ·exact h1 x hx
 ·exact h2 x hx
 ·exact Qa hzs h0 hone n x hx
theorem O5(h:St X z s a w E pb){t u e ty:TypeId}{i:TypeInfo}{zv:Value}(hzs:zv.cells.size=i.size)(h0:i.size≠0)(hone:∀x∈zv.cells.toList,bY x=ι)
  {x:AV} {v vy:Value} {r:AV} {σ':Heap} {ys:List (List AV)} {news:List Value} (hs2:adN X.P t u vy e i zv ys.length news w) (hn2:aJ (ctx z w E pb) ys.flatten news) (jP:∀x∈news,bY x=ι) (mS:news.length=ys.length*i.size) (qq:∀y∈ys,y.length=i.size)
  (hap:A.kM i.size (140737488355328 / i.bytes) x ys s.σ=δ (r,σ')) (rx:ak (ctx z w E pb) x v):
  ∃k w' E',(z8 #[t,u] ty #[v,vy]).run X.P w=.ok k w'/\St X z (s.heap σ') a w' E' pb/\ak (ctx z w' E' pb) r k:=by
 unfold A.kM at hap;have hne:ys≠[]->0<ys.length:=λk=>by cases ys with|nil=>exact absurd rfl k|cons y ys=>simp
 have GD:∀k,(Ω zv.cells k).size=k*i.size:=λk=>by rw[size_zeroCells,hzs]
 cases x<;>simp only at hap<;>first|(cases hap;done)|skip
 case aH=>
  simp only[ak]at rx;subst rx;split at hap
  ·rename_i hys;subst hys;simp only[ξ,Δ]at hap;obtain⟨rfl,rfl⟩:=hap;exact⟨.slice η 0 0,w,E,by have:=hs2.Bj w ty η 0 0 rfl (by simp);simpa using this,h,by simp [ak]⟩
  ·rename_i hys;have hpos:=hne hys;split at hap
   ·rename_i aei;simp only[ξ,Δ]at hap;obtain⟨rfl,rfl⟩:=hap;have hrun:=hs2.new ty η 0 0 [] (by simp [o9]) (by omega) (by omega);simp only[Gs]at hrun;refine⟨_,_,E++[⟨w.heap.size,0,ys.length,i.size,(news.toArray++Ω zv.cells (grownCap w ys.length 0 e-ys.length)).size⟩],hrun,?_,?_⟩
    ·have hst:=(h.grow (w':=w.drew) ((Below.refl _ _).drew)).ux (.cells (#[]++news.toArray++Ω zv.cells (grownCap w ys.length 0 e-ys.length)) e) (.arr ys.length i.size ys)
      ⟨w.heap.size,0,ys.length,i.size,(news.toArray++Ω zv.cells (grownCap w ys.length 0 e-ys.length)).size⟩ rfl (λhx=>?_)
     ·exact hst
     ·have hb:(w.drew.alloc (.cells (#[]++news.toArray++Ω zv.cells (grownCap w ys.length 0 e-ys.length)) e)).heap[w.heap.size]? =δ (.cells (#[]++news.toArray++Ω zv.cells (grownCap w ys.length 0 e-ys.length)) e (0,0)):=(Zs w.drew _).1;refine⟨rfl,hpos,rfl,by omega,⟨_,_,hb,by simp⟩,by simp [mS],aY.ym qq ?_,vU hb (FZ hzs h0 hone (olds:=[]) (by simp) jP _)⟩;exact aY.sub (pre:=[]) (suf:=(Ω zv.cells (grownCap w ys.length 0 e-ys.length)).toList) hb (by simp) (WR (Ext.trans (rJ ((Below.refl _ _).drew)) hx) _ _ hn2) jP
    ·simp only[ak];have hlen:=h.heap.len;simp only[ctx]at hlen;refine⟨hpos,⟨w.heap.size,0,ys.length,i.size,_⟩,by show(E++[_])[s.σ.length]? =_;rw[<-hlen];exact wv,bJ _,_,_,rfl,grownCap_ge _ _ _ _,λ_=>⟨rfl,.inr (by simp),?_⟩⟩;have:=grownCap_ge w ys.length 0 e;simp only[XG,GD,WA,mS,Gs];rw[<-fB];congr 1;omega
   ·cases hap
 case ez=>
  simp only[ak]at rx;obtain⟨qb,rfl⟩:=rx;split at hap
  ·rename_i hys;subst hys;simp only[ξ,Δ]at hap;obtain⟨rfl,rfl⟩:=hap;have hnews:news=[]:=by simpa using mS
   subst hnews;exact⟨.slice qb 0 0,w,E,by have:=hs2.Bj w ty qb 0 0 rfl (by simp);cases qb<;>simpa [storeCells]using this,h,by simp [ak]⟩
  ·rename_i hys;have hpos:=hne hys;split at hap
   ·rename_i aei;simp only[ξ,Δ]at hap;obtain⟨rfl,rfl⟩:=hap;have hrun:=hs2.new ty qb 0 0 [] (by cases qb<;>simp [o9,loadCells,loadCellsFrom]) (by omega) (by omega);simp only[Gs]at hrun;refine⟨_,_,E++[⟨w.heap.size,0,ys.length,i.size,(news.toArray++Ω zv.cells (grownCap w ys.length 0 e-ys.length)).size⟩],hrun,?_,?_⟩
    ·have hst:=(h.grow (w':=w.drew) ((Below.refl _ _).drew)).ux (.cells (#[]++news.toArray++Ω zv.cells (grownCap w ys.length 0 e-ys.length)) e) (.arr ys.length i.size ys)
      ⟨w.heap.size,0,ys.length,i.size,(news.toArray++Ω zv.cells (grownCap w ys.length 0 e-ys.length)).size⟩ rfl (λhx=>?_)
     ·exact hst
     ·have hb:(w.drew.alloc (.cells (#[]++news.toArray++Ω zv.cells (grownCap w ys.length 0 e-ys.length)) e)).heap[w.heap.size]? =δ (.cells (#[]++news.toArray++Ω zv.cells (grownCap w ys.length 0 e-ys.length)) e (0,0)):=(Zs w.drew _).1;refine⟨rfl,hpos,rfl,by omega,⟨_,_,hb,by simp⟩,by simp [mS],aY.ym qq ?_,vU hb (FZ hzs h0 hone (olds:=[]) (by simp) jP _)⟩;exact aY.sub (pre:=[]) (suf:=(Ω zv.cells (grownCap w ys.length 0 e-ys.length)).toList) hb (by simp) (WR (Ext.trans (rJ ((Below.refl _ _).drew)) hx) _ _ hn2) jP
    ·simp only[ak];have hlen:=h.heap.len;simp only[ctx]at hlen;refine⟨hpos,⟨w.heap.size,0,ys.length,i.size,_⟩,by show(E++[_])[s.σ.length]? =_;rw[<-hlen];exact wv,bJ _,_,_,rfl,grownCap_ge _ _ _ _,λ_=>⟨rfl,.inr (by simp),?_⟩⟩;have:=grownCap_ge w ys.length 0 e;simp only[XG,GD,WA,mS,Gs];rw[<-fB];congr 1;omega
   ·cases hap
 case os tW og ng off len=>
  have NU:=rx;simp only[ak]at rx;obtain⟨hg,p,e1,e2,qa,cp,rfl,hcap,rx⟩:=rx;split at hap
  ·rename_i g' sz' es hs;split at hap
   ·rename_i hc;obtain⟨hc1,jO,yS,DE,Nf⟩:=hc;subst hc1;subst jO;subst yS;obtain⟨j1,j2,j3,j4,⟨arr,bt,j5,j6⟩,j7,j8,j9⟩:=h.heap.blk tW p _ e1 hs;obtain⟨k1,k2,k3⟩:=rx j1.symm;split at hap
    ·rename_i hys;subst hys;simp only[ξ,Δ]at hap;obtain⟨rfl,rfl⟩:=hap;have hnews:news=[]:=by simpa using mS
     subst hnews;exact⟨.slice (δ qa) len cp,w,E,by have:=hs2.Bj w ty (δ qa) len cp rfl (by simpa using hcap);simpa [storeCells]using this,h,NU⟩
    ·rename_i hys;have hpos:=hne hys;have LG:(off+cp)*i.size=p.mP-p.base:=by rw[<-j3];omega
     split at hap
     ·rename_i hin;simp only[ξ,Δ]at hap;obtain⟨rfl,rfl⟩:=hap;obtain⟨q1,q2⟩:=JM h (i:=off+len) (ys:=ys) e1 hs j5 (by omega) hn2 jP qq mS
      have fQ:es.length<=off+cp:=by
       have h1:es.length*i.size<=(off+cp)*i.size:=by rw[LG];omega
       exact Wb h1 (by omega)
      have hroom:len+ys.length<=cp:=by omega
      have vf:qa=⟨p.b,p.base+off*p.sz,η⟩:=by
       rcases k2 with k2|k2
       ·omega
       ·exact k2
      have hsz:p.sz=i.size:=j3;have hst:=zH (P:=X.P) (b:=p.b) (off:=p.base+(off+len)*i.size) (t:=bt) news 0 w arr j5 (by omega) jP
      have hrun:(z8 #[t,u] ty #[.slice (δ qa) len cp,vy]).run X.P w=.ok (.slice (δ qa) (len+ys.length) cp) (w.cz p.b (.cells (dV arr (p.base+(off+len)*i.size) news) bt (0,0))):=by
       have wO:qa.add (len*i.size)=⟨p.b,p.base+(off+len)*i.size,η⟩:=by rw[vf,kI,hsz];congr 1;rw[fB];omega
       rw[hs2.Bj w ty (δ qa) len cp rfl hroom];simp [wO,hst]
      refine⟨_,_,E,hrun,q2,?_⟩;simp only[ak];exact⟨hg,p,e1,e2,qa,cp,rfl,hroom,λ_=>⟨hsz,.inr vf,k3⟩⟩
     simp only[ξ,Δ]at hap;obtain⟨rfl,rfl⟩:=hap;have jB:((es.drop off).take len).length=len:=by simp;omega
     by_cases hroom:len+ys.length<=cp
     ·-- room
      have vf:qa=⟨p.b,p.base+off*p.sz,η⟩:=by
       rcases k2 with k2|k2
       ·omega
       ·exact k2
      have hsz:p.sz=i.size:=j3;have hcc:(off+(len+ys.length))*i.size<=(off+cp)*i.size:=kU _ (by omega);rw[hsz]at k3;have ajS:(off+len)*i.size=off*i.size+len*i.size:=fB _ _ _;have ajA:(off+(len+ys.length))*i.size=(off+len)*i.size+ys.length*i.size:=by rw[<-iV,fB]
      have hfit:p.base+(off+len)*i.size+0+news.length<=arr.size:=by rw[mS,j6];omega
      have hst:=zH (P:=X.P) (b:=p.b) (off:=p.base+(off+len)*i.size) (t:=bt) news 0 w arr j5 hfit jP
      have hrun:(z8 #[t,u] ty #[.slice (δ qa) len cp,vy]).run X.P w=.ok (.slice (δ qa) (len+ys.length) cp) (w.cz p.b (.cells (dV arr (p.base+(off+len)*i.size) news) bt (0,0))):=by
       have wO:qa.add (len*i.size)=⟨p.b,p.base+(off+len)*i.size,η⟩:=by rw[vf,kI,hsz];congr 1;omega
       rw[hs2.Bj w ty (δ qa) len cp rfl hroom];simp [wO,hst]
      have hlt:p.b<w.heap.size:=h.heap.lt (p:=p) (bR e1);have hh:=rE (w:=w) (.cells (dV arr (p.base+(off+len)*i.size) news) bt (0,0)) hlt;have wj:p.base+(off+len)*i.size+news.length<=arr.size:=by omega
      have Bg:=h.move (id:=tW) (p:=p) (p':=⟨p.b,p.base+off*i.size,og+ys.length,i.size,p.mP⟩) (w':=w.cz p.b (.cells (dV arr (p.base+(off+len)*i.size) news) bt (0,0))) (blk:=.arr (og+ys.length) i.size ((es.drop off).take len++ys)) e1
       ⟨by omega,by show p.g<og+ys.length;omega⟩ rfl rfl rfl (by rw[xA];exact bJ _) (λb hb _=>uh _ (λe=>hb e.symm)) (.inl rfl) (λhx=>by
        have hcell:∀j,(w.cz p.b (.cells (dV arr (p.base+(off+len)*i.size) news) bt (0,0))).cell? ⟨p.b,j,η⟩=(dV arr (p.base+(off+len)*i.size) news)[j]? :=λj=>sN hh
        have hold:∀j,w.cell? ⟨p.b,j,η⟩=arr[j]? :=λj=>sN j5
        refine⟨rfl,by show 0<og+ys.length;omega,rfl,by omega,⟨_,_,hh,by rw[JW _ _ _ wj];exact j6⟩,?_,?_,vU hh (Aw (j9 _ _ _ j5) jP)⟩
        ·simp only[Λ,jB,fB];omega
        ·refine bh.append (bh.keep hx ((j8.drop off).take len) λj hj1 hj2=>?_) ?_
         ·rw[jB]at hj2;replace hj1:p.base+off*i.size<=j:=hj1;replace hj2:j<p.base+off*i.size+len*i.size:=hj2;show(w.cz p.b _).cell? _=w.cell? _;rw[hcell,hold,AA _ _ _ wj,aB (by omega)]
         ·rw[jB];refine aY.ym qq ?_;refine aY.tV hh (WR hx _ _ hn2) jP λj hj=>?_
          show(dV arr (p.base+(off+len)*i.size) news)[p.base+off*i.size+len*i.size+j]? =_;rw[AA _ _ _ wj,aC (by omega)]
          congr 1;omega)
      refine⟨_,_,_,hrun,Bg.1,?_⟩;simp only[ak];have hid:tW<E.length:=(bB.1 e1).1;refine⟨by omega,⟨p.b,p.base+off*i.size,og+ys.length,i.size,p.mP⟩,by simp [ctx,hid],bJ _,qa,cp,rfl,hroom,λ_=>⟨rfl,.inr (by rw[vf,hsz];simp),?_⟩⟩;simp only[Gs];rw[fB]at k3;omega
     ·have hel:WZ i.size (.os tW og i.size off len) s.σ=δ ((es.drop off).take len):=by simp only[WZ,hs];rw[aC (by simp;omega)]
      obtain⟨q2,afB,olds,yO,DI,Ns,DJ,DK,Nt⟩:=Js (P:=X.P) h.heap hel NU;rw[jB]at DI DK;injection yO with e2a e2b e2c
      have hrun:=hs2.new ty _ _ _ _ (DI w.drew rfl) (by omega) Nf;obtain⟨nc,hnc⟩:∃nc,nc=grownCap w (len+ys.length) cp e:=⟨_,rfl⟩
      have Cz:len+ys.length<=nc:=by rw[hnc];exact grownCap_ge _ _ _ _
      rw[<-hnc]at hrun;obtain⟨row,hrow⟩:∃row,row=olds.toArray++news.toArray++Ω zv.cells (nc-(len+ys.length)):=⟨_,rfl⟩
      have CQ:row.size=nc*i.size:=by rw[hrow];simp only[XG,GD,WA,mS,DK];rw[<-fB,<-fB];congr 1;omega
      have hrl:row.toList=olds++news++(Ω zv.cells (nc-(len+ys.length))).toList:=by rw[hrow];simp
      rw[<-hrow]at hrun;have hb:(w.drew.alloc (.cells row e)).heap[w.heap.size]? =δ (.cells row e (0,0)):=(Zs w.drew _).1
      have Bg:=h.move (id:=tW) (p:=p) (p':=⟨w.heap.size,0,og+ys.length,i.size,row.size⟩) (w':=w.drew.alloc (.cells row e)) (blk:=.arr (og+ys.length) i.size ((es.drop off).take len++ys)) e1
       ⟨by omega,by show p.g<og+ys.length;omega⟩ rfl rfl rfl (by simp) (λb hb' hlt=>by rw[Below.heap_alloc w.drew _ b (by simpa using hlt)];rfl) (.inr ⟨bJ _,by simp⟩) (λhx=>by
        refine⟨rfl,by show 0<og+ys.length;omega,rfl,by omega,⟨_,_,hb,rfl⟩,?_,aY.ym (λx hx'=>?_) ?_,vU hb (by rw[hrow];exact FZ hzs h0 hone DJ jP _)⟩
        ·simp only[Λ,jB,Gs,CQ];exact kU _ Cz
        ·rcases eG.1 hx' with hx'|hx'
         ·exact Nt x hx'
         ·exact qq x hx'
        ·rw[amy]
         exact aY.sub (pre:=[]) (vs:=olds++news) (suf:=(Ω zv.cells (nc-(len+ys.length))).toList) hb (by rw[hrl];simp) (WR hx _ _ (Ns.append hn2)) (λx hx'=>by
          rcases eG.1 hx' with hx'|hx'
          ·exact DJ x hx'
          ·exact jP x hx'))
      refine⟨_,_,_,hrun,Bg.1,?_⟩;simp only[ak];have hid:tW<E.length:=(bB.1 e1).1;refine⟨by omega,⟨w.heap.size,0,og+ys.length,i.size,row.size⟩,by simp [ctx,hid],bJ _,_,_,rfl,Cz,λ_=>⟨rfl,.inr (by simp),?_⟩⟩;simp only[Gs,CQ]
   ·cases hap
  ·rename_i g' sz' es hs;split at hap
   ·rename_i hc;obtain⟨hc1,jO,yS,DE,Nf,hc6⟩:=hc;subst hc1;subst jO;subst yS;obtain⟨j1,j2,j3,j4,⟨arr,bt,j5,j6⟩,j7,j8,j9⟩:=h.heap.blk tW p _ e1 hs;obtain⟨k1,k2,k3⟩:=rx j1.symm;simp only[ξ,Δ]at hap;obtain⟨rfl,rfl⟩:=hap;have jB:((es.drop off).take len).length=len:=by simp;omega
    have LG:(off+cp)*i.size=es.length*i.size:=by rw[<-j3]at j7 ⊢;omega
    have hco:off+cp=es.length:=Nat.eq_of_mul_eq_mul_right j4 LG
    have hel:WZ i.size (.os tW og i.size off len) s.σ=δ ((es.drop off).take len):=by simp only[WZ,hs];rw[aC (by simp;omega)]
    obtain⟨q2,afB,olds,yO,DI,Ns,DJ,DK,Nt⟩:=Js (P:=X.P) h.heap hel NU;rw[jB]at DI DK;injection yO with e2a e2b e2c
    have hrun:=hs2.new ty _ _ _ _ (DI w.drew rfl) (by omega) Nf;obtain⟨nc,hnc⟩:∃nc,nc=grownCap w (len+ys.length) cp e:=⟨_,rfl⟩
    have Cz:len+ys.length<=nc:=by rw[hnc];exact grownCap_ge _ _ _ _
    rw[<-hnc]at hrun;obtain⟨row,hrow⟩:∃row,row=olds.toArray++news.toArray++Ω zv.cells (nc-(len+ys.length)):=⟨_,rfl⟩
    have CQ:row.size=nc*i.size:=by rw[hrow];simp only[XG,GD,WA,mS,DK];rw[<-fB,<-fB];congr 1;omega
    have hrl:row.toList=olds++news++(Ω zv.cells (nc-(len+ys.length))).toList:=by rw[hrow];simp
    rw[<-hrow]at hrun;have hb:(w.drew.alloc (.cells row e)).heap[w.heap.size]? =δ (.cells row e (0,0)):=(Zs w.drew _).1
    have hst:=(h.grow (w':=w.drew) ((Below.refl _ _).drew)).ux (.cells row e) (.arr (len+ys.length) i.size ((es.drop off).take len++ys))
      ⟨w.heap.size,0,len+ys.length,i.size,row.size⟩ rfl (λhx=>by
      refine⟨rfl,by show 0<len+ys.length;omega,rfl,by omega,⟨_,_,hb,rfl⟩,?_,aY.ym (λx hx'=>?_) ?_,vU hb (by rw[hrow];exact FZ hzs h0 hone DJ jP _)⟩
      ·simp only[Λ,jB,Gs,CQ];exact kU _ Cz
      ·rcases eG.1 hx' with hx'|hx'
       ·exact Nt x hx'
       ·exact qq x hx'
      ·rw[amy]
       exact aY.sub (pre:=[]) (vs:=olds++news) (suf:=(Ω zv.cells (nc-(len+ys.length))).toList) hb (by rw[hrl];simp) (WR (Ext.trans (rJ ((Below.refl _ _).drew)) hx) _ _ (Ns.append hn2)) (λx hx'=>by
        rcases eG.1 hx' with hx'|hx'
        ·exact DJ x hx'
        ·exact jP x hx'))
    refine⟨_,_,_,hrun,hst,?_⟩;simp only[ak];have hlen:=h.heap.len;simp only[ctx]at hlen;refine⟨by omega,⟨w.heap.size,0,len+ys.length,i.size,row.size⟩,by show(E++[_])[s.σ.length]? =_;rw[<-hlen];exact wv,bJ _,_,_,rfl,Cz,λ_=>⟨rfl,.inr (by simp),?_⟩⟩;simp only[Gs,CQ]
   ·cases hap
  ·cases hap
theorem aky(h:St X z s a w E pb){t u e e' ty:TypeId}{i:TypeInfo}{zv:Value}(ht:X.P.underlying t=δ (.slice e))(hu:X.P.underlying u=δ (.slice e'))(hi:X.P.info? e=δ i)(hz:i.zero=δ zv)(hzs:zv.cells.size=i.size)(h0:i.size≠0)(hb0:i.bytes≠0)(hone:∀x∈zv.cells.toList,bY x=ι)
  {x y:AV} {v vy:Value} {r:AV} {σ':Heap} (hap:wh i.size (140737488355328 / i.bytes) x y s.σ=δ (r,σ')) (rx:ak (ctx z w E pb) x v) (ry:ak (ctx z w E pb) y vy):
  ∃k w' E',(z8 #[t,u] ty #[v,vy]).run X.P w=.ok k w'/\St X z (s.heap σ') a w' E' pb/\ak (ctx z w' E' pb) r k:=by
 unfold wh at hap;obtain⟨ys,hy,hap⟩:=bl.1 hap;obtain⟨q,cap,news,rfl,hn1,hn2,jP,mS,qq⟩:=Js (P:=X.P) h.heap hy ry;refine O5 h hzs h0 hone ⟨λw2 ty base sLen sCap hw hr=>?_,λty base sLen sCap olds ho hg hm=>Xu ht hu hi hz hb0 ho (hn1 w.drew rfl) hg hm⟩ hn2 jP mS qq hap rx;cases base<;>simp [z8,run_underlying ht,run_underlying hu,sizeOf,typeInfo,hi,Xh,hn1 w2 hw,hr]
theorem Ow(zs:Array Value):Ω zs 0=#[]:=by apply jJ.1;apply uG;rw[Z7,size_zeroCells];simp
theorem Xt{P:Program}{t u e ty:TypeId}{k k':IntKind}{i:TypeInfo}{zv:Value}(ht:P.underlying t=δ (.slice e))(hu:P.underlying u=δ (.int k))(hi:P.info? e=δ i)(hz:i.zero=δ zv)(hb0:i.bytes≠0)(h0:i.size≠0)
  {base:Option Addr} {sLen sCap n:Nat} {w2:World} (hm:n<=140737488355328 / i.bytes) (hr:sLen+n<=sCap):
  (z8 #[t,u] ty #[.slice base sLen sCap,.int k' n]).run P w2=((match base with|some a=>storeCells (a.add (sLen*i.size)) (Ω zv.cells n).toList 0|none=>pure ()) >>= λ_=>pure (Value.slice base (sLen+n) sCap):Sem Value).run P w2:=by
 have Gk:n*i.bytes<=140737488355328:=by have:=kU i.bytes hm;have:=al9 140737488355328 i.bytes;omega
 have hle:n<=n*i.bytes:=am3 _ (by omega);have hw:Ξ.wrap (n:Int)=(n:Int):=by rw[IntKind.wrap_i64];omega
 have hl:¬((281474976710656:Int)<(n:Int)*(i.bytes:Int)):=by
  have:(n:Int)*(i.bytes:Int)=((n*i.bytes:Nat):Int):=by simp
  omega
 have hlf:¬((n:Int)<0):=by omega
 by_cases hn0:n=0
 ·subst hn0;have hw0:Ξ.wrap 0=0:=by decide
  have hr':sLen<=sCap:=by omega
  cases base<;>simp [z8,run_underlying ht,run_underlying hu,sizeOf,typeInfo,hi,asInt,asIntOf,hw0,hr',Ow]
 ·have Bh:n*i.size≠0:=Nat.mul_ne_zero hn0 h0;cases base<;>simp [z8,run_underlying ht,run_underlying hu,sizeOf,typeInfo,zeroValue,hi,hz,asInt,asIntOf,hw,hl,hlf,hr,Bh]
theorem Xj{P:Program}{t u e ty:TypeId}{k k':IntKind}{i:TypeInfo}{zv:Value}(ht:P.underlying t=δ (.slice e))(hu:P.underlying u=δ (.int k))(hi:P.info? e=δ i)(hz:i.zero=δ zv)(hb0:i.bytes≠0)(h0:i.size≠0)
  {base:Option Addr} {sLen sCap n:Nat} {olds:List Value} (hold:(o9 i.size sLen (.slice base sLen sCap)).run P w.drew=.ok olds.toArray w.drew)
  (hg:sCap<sLen+n) (hm:sLen+n<=140737488355328 / i.bytes):
  (z8 #[t,u] ty #[.slice base sLen sCap,.int k' n]).run P w=
   .ok (.slice (δ ⟨w.heap.size,0,η⟩) (sLen+n) (grownCap w (sLen+n) sCap e)) (w.drew.alloc (.cells (olds.toArray++(Ω zv.cells n).toList.toArray++Ω zv.cells (grownCap w (sLen+n) sCap e-(sLen+n))) e)):=by
 have Gk:(sLen+n)*i.bytes<=140737488355328:=by have:=kU i.bytes hm;have:=al9 140737488355328 i.bytes;omega
 have hle:sLen+n<=(sLen+n)*i.bytes:=am3 _ (by omega);have h48:=growslice_fits hg Gk;have hn:¬(sLen+n<=sCap):=by omega
 have CO:¬(281474976710656<Builtin.nextslicecap (sLen+n) sCap*i.bytes):=by omega
 have hw:Ξ.wrap (n:Int)=(n:Int):=by rw[IntKind.wrap_i64];omega
 have hnb:n*i.bytes<=(sLen+n)*i.bytes:=kU _ (by omega)
 have hl:¬((281474976710656:Int)<(n:Int)*(i.bytes:Int)):=by
  have:(n:Int)*(i.bytes:Int)=((n*i.bytes:Nat):Int):=by simp
  omega
 have hlf:¬((n:Int)<0):=by omega
 have Nq:¬((9223372036854775807:Int)<(sLen:Int)+(n:Int)):=by omega
 by_cases hn0:n=0
 ·subst hn0;have hw0:Ξ.wrap 0=0:=by decide
  have af0:¬((9223372036854775807:Int)<(sLen:Int)):=by omega
  simp only[Nat.add_zero]at hn CO ⊢;simp [z8,run_underlying ht,run_underlying hu,sizeOf,typeInfo,zeroValue,hi,hz,asInt,asIntOf,hw0,hn,CO,hb0,WU,hold,newRow,grownCap,Ow,af0]
 ·have Bh:n*i.size≠0:=Nat.mul_ne_zero hn0 h0;simp [z8,run_underlying ht,run_underlying hu,sizeOf,typeInfo,zeroValue,hi,hz,asInt,asIntOf,hw,hl,hlf,hn,Bh,CO,hb0,WU,hold,newRow,grownCap,Nq]
theorem YZ(h:St X z s a w E pb){t u e ty:TypeId}{kk:IntKind}{i:TypeInfo}{zv:Value}{zs:List AV}(ht:X.P.underlying t=δ (.slice e))(hu:X.P.underlying u=δ (.int kk))(hi:X.P.info? e=δ i)(hz:i.zero=δ zv)(hzs:zv.cells.size=i.size)(h0:i.size≠0)(hb0:i.bytes≠0)
  (mT:∀c,aJ c zs zv.cells.toList) (hone:∀x∈zv.cells.toList,bY x=ι)
  {x y:AV} {v vy:Value} {r:AV} {σ':Heap} (hap:A.rK i.size (140737488355328 / i.bytes) zs x y s.σ=δ (r,σ')) (rx:ak (ctx z w E pb) x v) (ry:ak (ctx z w E pb) y vy):
  ∃k w' E',(z8 #[t,u] ty #[v,vy]).run X.P w=.ok k w'/\St X z (s.heap σ') a w' E' pb/\ak (ctx z w' E' pb) r k:=by
 unfold A.rK at hap;split at hap
 ·rename_i k n;simp only[ak]at ry;subst ry;split at hap
  ·rename_i hn;obtain⟨hn1,hn2⟩:=hn;obtain⟨m,rfl⟩:∃m:Nat,n=m:=⟨n.toNat,by omega⟩
   simp only[amV]at hap;have hzl:zs.length=i.size:=by rw[(mT (ctx z w E pb)).length];simpa using hzs
   have hm:m<=140737488355328 / i.bytes:=by omega
   refine O5 (e:=e) h hzs h0 hone (ys:=e8 m zs) (news:=(Ω zv.cells m).toList) ⟨λw2 ty base sLen sCap hw hr=>?_,λty base sLen sCap olds ho hg hmm=>?_⟩ ?_ (Qa hzs h0 hone m) ?_ (λy hy=>by rw[(Yq.1 hy).2];exact hzl) hap rx
   ·rw[ZM]at hr ⊢;exact Xt ht hu hi hz hb0 h0 hm hr
   ·rw[ZM]at hg hmm ⊢;exact Xj ht hu hi hz hb0 h0 ho hg hmm
   ·rw[ER hzs h0];exact(mT _).flatten m
   ·rw[Z7,size_zeroCells,hzs,ZM]
  ·cases hap
 ·cases hap
theorem abM(h:St X z s a w E pb){t u e e' ty:TypeId}{i:TypeInfo}(ht:X.P.underlying t=δ (.slice e))(hu:X.P.underlying u=δ (.slice e'))(hi:X.P.info? e=δ i)(h0:i.size≠0)
  {x y:AV} {v vy:Value} {r:AV} {σ':Heap} (lB:A.KM i.size x y s.σ=δ (r,σ')) (rx:ak (ctx z w E pb) x v) (ry:ak (ctx z w E pb) y vy):
  ∃k w',(Yb #[t,u] ty #[v,vy]).run X.P w=.ok k w'/\St X z (s.heap σ') a w' E pb/\ak (ctx z w' E pb) r k:=by
 unfold A.KM at lB;obtain⟨ys,hy,lB⟩:=bl.1 lB;obtain⟨q,cap,news,rfl,hn1,hn2,jP,mS,qq,VB⟩:=Pa (P:=X.P) h.heap hy ry;have hs0:s.heap s.σ=s:=rfl
 have DG:(o9 i.size 0 (.slice q ys.length cap)).run X.P w=.ok #[] w:=by have:=VB 0 (jK _) w rfl;simpa using this
 cases x<;>simp only at lB<;>first|(cases lB;done)|skip
 case aH=>
  simp only[ξ,Δ]at lB;obtain⟨rfl,rfl⟩:=lB;simp only[ak]at rx;subst rx;exact⟨goInt 0,w,by simp [Yb,run_underlying ht,sizeOf,typeInfo,hi,Xh,DG,Nat.min],by rw[hs0];exact h,by simp [ak,goInt]⟩
 case ez=>
  simp only[ξ,Δ]at lB;obtain⟨rfl,rfl⟩:=lB;simp only[ak]at rx;obtain⟨qb,rfl⟩:=rx;exact⟨goInt 0,w,by cases qb<;>simp [Yb,run_underlying ht,sizeOf,typeInfo,hi,Xh,DG,storeCells],by rw[hs0];exact h,by simp [ak,goInt]⟩
 case os=>
  rename_i tW og ng off len ajU;simp only[ak]at rx;obtain⟨hg,p,e1,e2,qa,cp,rfl,hcap,rx⟩:=rx;split at lB
  ·rename_i g' sz' es hs;split at lB
   ·rename_i hc;obtain⟨hc1,jO,yS,DE⟩:=hc;subst hc1;subst jO;subst yS;obtain⟨j1,j2,j3,j4,⟨arr,bt,j5,j6⟩,j7,j8,j9⟩:=h.heap.blk tW p _ e1 hs;obtain⟨k1,k2,k3⟩:=rx j1.symm;have hmin:Nat.min ys.length len=(ys.take len).length:=by rw[nT];exact Nat.min_comm _ _
    split at lB
    ·rename_i hz;simp only[ξ,Δ]at lB;obtain⟨rfl,rfl⟩:=lB;have hm0:Nat.min ys.length len=0:=by rcases hz with k|k<;>rw[k]<;>simp [Nat.min_def]
     refine⟨goInt 0,w,?_,by rw[hs0];exact h,by simp [ak,goInt]⟩;simp [Yb,run_underlying ht,sizeOf,typeInfo,hi,Xh,hm0,DG,storeCells]
    ·rename_i hz;simp only[ξ,Δ]at lB;obtain⟨rfl,rfl⟩:=lB
     have vf:qa=⟨p.b,p.base+off*p.sz,η⟩:=by
      rcases k2 with k2|k2
      ·omega
      ·exact k2
     have hsz:p.sz=i.size:=j3;obtain⟨n,hn⟩:∃n,n=(ys.take len).length:=⟨_,rfl⟩
     have hnl:n<=ys.length/\n<=len:=by rw[hn,nT];omega
     have G8:=VB n hnl.1 w rfl;have hyt:ys.take len=ys.take n:=by rw[hn,nT];rw[List.take_eq_take_iff];omega
     have aeh:(news.take (n*i.size)).length=n*i.size:=by rw[nT,mS];exact Nat.min_eq_left (kU _ hnl.1)
     have LX:aJ (ctx z w E pb) (ys.take n).flatten (news.take (n*i.size)):=by have:(ys.take n).flatten=ys.flatten.take (n*i.size):=OE qq hnl.1;rw[this];exact hn2.take _
     obtain⟨q1,q2⟩:=JM h (i:=off) (ys:=ys.take n) e1 hs j5 (by rw[nT];omega) LX (λx hx=>jP x (wq hx)) (λy hy=>qq y (wq hy)) (by rw[aeh,nT];congr 1;omega);have hst:=zH (P:=X.P) (b:=p.b) (off:=p.base+off*i.size) (t:=bt) (news.take (n*i.size)) 0 w arr j5 (by omega) (λx hx=>jP x (wq hx));rw[hyt];have hln:(ys.take n).length=n:=by rw[nT];omega
     refine⟨goInt n,_,?_,q2,?_⟩
     ·rw[vf,hsz];simp [Yb,run_underlying ht,sizeOf,typeInfo,hi,Xh,hmin,<-hn,G8,hst]
     ·rw[hln];simp [ak,goInt]
   ·cases lB
  ·cases lB
theorem all_some{R:Type}{p:Nat->Prop}{k:Nat->Option R}{r:R}(h:A.all p k=δ r){n:Nat}(hn:p n):k n=δ r:=by
 unfold A.all at h;split at h
 ·rename_i hx;injection h with h
  rw[<-h];exact Yl hx n hn
 ·cases h
theorem abH(h:St X z s a w E pb){R:Type}{k:Nat->Heap->Option R}{r:R}{t e ty:TypeId}(ht:X.P.underlying t=δ (.slice e)){x:AV}{v:Value}(hk:A.wB x s.σ k=δ r)(rx:ak (ctx z w E pb) x v):
  ∃c σ',k c σ'=δ r/\(alT #[t] ty #[v]).run X.P w=.ok (.int Ξ (c:Int)) w/\St X z (s.heap σ') a w E pb:=by
 unfold A.wB at hk;cases x<;>simp only at hk<;>first|(cases hk;done)|skip
 rename_i id g sz off len;simp only[ak]at rx;obtain⟨hg,p,e1,e2,qa,cp,rfl,hcap,rx⟩:=rx;split at hk
 ·rename_i g' sz' es hs;split at hk
  ·rename_i hc;obtain⟨hc1,jO,DE⟩:=hc;subst hc1;subst jO;obtain⟨j1,j2,j3,j4,⟨arr,bt,j5,j6⟩,j7,j8,j9⟩:=h.heap.blk id p _ e1 hs;obtain⟨k1,k2,k3⟩:=rx j1.symm;rw[k1]at k3;have hle:es.length<=off+cp:=Wb (show es.length*sz<=(off+cp)*sz by omega) j4;have hk2:=all_some hk (n:=cp) ⟨hcap,hle⟩;by_cases VL:cp=len
   ·rw[aC VL]at hk2;refine⟨cp,_,hk2,by simp [alT,run_underlying ht,goInt],?_⟩;have Bk:w.heap[p.b]? =δ (.cells arr bt (0,0)):=j5;have hel:es.length=off+cp:=by omega
    have hst:=h.tg e1 (.cells arr bt (0,0)) (.oO g sz es) (λhx=>by
     have hsame:w.cz p.b (.cells arr bt (0,0))=w:=B4 Bk;rw[hsame]
     exact⟨j1,j2,j3,j4,⟨arr,bt,j5,j6⟩,by rw[hel];omega,j8,j9⟩)
    rw[B4 Bk]at hst;exact hst
   rw[aB VL]at hk2;refine⟨cp,_,hk2,by simp [alT,run_underlying ht,goInt],?_⟩;have Bk:w.heap[p.b]? =δ (.cells arr bt (0,0)):=j5
   have hst:=h.tg e1 (.cells arr bt (0,0)) (.arr g sz (es++e8 (off+cp-es.length) (e8 sz .undef))) (λhx=>by
    have hsame:w.cz p.b (.cells arr bt (0,0))=w:=B4 Bk;rw[hsame];refine⟨j1,j2,j3,j4,⟨arr,bt,j5,j6⟩,?_,bh.append j8 (bh.of λj x hj=>?_),j9⟩
    ·rw[Λ,ZM,show es.length+(off+cp-es.length)=off+cp by omega];omega
    ·have hjl:=(bB.1 hj).1;rw[ZM]at hjl;have hx':=bR hj;rw[Yq]at hx';rw[hx'.2];refine⟨ZM,amK λm av hm=>?_⟩;have hml:=(bB.1 hm).1;rw[ZM]at hml;have yR:=bR hm;rw[Yq]at yR;have hmul:(es.length+(j+1))*sz<=(off+cp)*sz:=kU _ (by omega);rw[fB,fB]at hmul;have hin:p.base+es.length*sz+j*sz+m<arr.size:=by rw[j6];omega
     refine⟨arr[p.base+es.length*sz+j*sz+m],?_,j9 _ _ _ j5 _ (by simp),by rw[yR.2];simp [ak]⟩;show w.cell? _=_
     rw[sN Bk,rY hin])
   rw[B4 Bk]at hst;exact hst
  ·cases hk
 ·cases hk
end
end
section
open Go.RowKit
section
variable {c : RC}
theorem FD{k:Nat}{x y:AV}{v u:Value}(n:Nat)(h:A.kC k x y=δ ι)(r:ak c x v)(q:ak c y u):ZJ n u v=ι:=by
 unfold A.kC at h;split at h
 ·unfold A.lz at h;split at h
  ·simp only[ak]at r q;split at h
   ·injection h with h;subst_vars;simp at h;subst h;simp [ZJ]
   ·cases h
  ·cases h
 ·unfold A.tO at h;split at h
  ·simp only[ak]at r q;injection h with h;subst_vars;simp at h;subst h;simp [ZJ]
  ·cases h
 ·unfold A.oc at h;split at h
  ·simp only[ak]at r q;injection h with h;subst_vars;simp only[ZJ];rename_i a b
   rw[CF]at h ⊢;rw[beq_iff_eq]at h ⊢;exact h.symm
  ·cases h
 ·cases h
theorem Pb(n:Nat):∀{ks:List Nat}{xs ys:List AV}{vs us:List Value},Yu ks xs ys=δ ι->aJ c xs vs->aJ c ys us->us.length=vs.length/\((us.zip vs).all λ(p:Value×Value)=>ZJ n p.1 p.2)=ι
 |[],[],[],vs,us,_,r,q=>by simp only[aJ]at r q;subst r;subst q;simp
 |[],[],_::_,_,_,h,_,_=>by simp [Yu]at h
 |[],_::_,_,_,_,h,_,_=>by simp [Yu]at h
 |_::_,[],_,_,_,h,_,_=>by simp [Yu]at h
 |_::_,_::_,[],_,_,h,_,_=>by simp [Yu]at h
 |k::ks,x::xs,y::ys,vs,us,h,r,q=>by simp only[Yu]at h;obtain⟨p,h1,h2⟩:=bl.1 h;obtain⟨p',h3,h4⟩:=bX.1 h2;simp only[eF]at h4;obtain⟨rfl,rfl⟩:=h4;simp only[aJ]at r q;obtain⟨v,vs',rfl,r1,r2⟩:=r;obtain⟨u,us',rfl,q1,q2⟩:=q;obtain⟨i1,i2⟩:=Pb n h3 r2 q2;exact⟨by simp [i1],by simp [FD n h1 r1 q1];simpa using i2⟩
theorem aaM{e:A.EK}{x y:AV}{v u:Value}(hk:A.eY e x=ι)(h:YB e x y=δ ι)(r:ak c x v)(q:ak c y u):ZJ 10000 u v=ι:=by
 cases e<;>simp only[YB]at h;case i=>exact FD (k:=0) _ h r q
 case b=>exact FD (k:=1) _ h r q
 case z=>exact FD (k:=2) _ h r q
 case p=>cases x<;>simp [A.eY]at hk
 case s ks=>
  split at h
  ·simp only[ak]at r q;obtain⟨vs,rfl,r1,_⟩:=r;obtain⟨us,rfl,q1,_⟩:=q;obtain⟨i1,i2⟩:=Pb 9999 h r1 q1;show ZJ (9999+1) _ _=ι;simp only[ZJ,eF];exact⟨by simpa using i1,i2⟩
  ·cases h
theorem S3{e:A.EK}{k v:AV}:∀{aW gE:List (AV×AV)}{i:Nat}{ix:Option Nat},A.upd e k v aW=δ gE->A.oK e k aW i=δ ix->
  (ix=η/\gE=aW++[(k,v)])\/∃j p,ix=δ (i+j)/\aW[j]? =δ p/\YB e k p.1=δ ι/\gE=aW.set j (k,v)
 |[],gE,i,ix,h,g=>by simp only[A.upd,A.oK]at h g;injection h with h;injection g with g;exact .inl ⟨g.symm,by simpa using h.symm⟩
 |(k',v')::aW,gE,i,ix,h,g=>by
  simp only[A.upd,A.oK]at h g;obtain⟨b,h1,h2⟩:=bl.1 h;rw[h1,aL]at g;cases b
  ·simp only[aS]at h2 g;obtain⟨e2,h3,h4⟩:=bX.1 h2;rcases S3 h3 g with⟨rfl,rfl⟩|⟨j,p,rfl,k1,k2,rfl⟩
   ·exact .inl ⟨rfl,by simpa using h4.symm⟩
   ·exact .inr ⟨j+1,p,by congr 1;omega,by simpa using k1,k2,by simpa using h4.symm⟩
  ·simp only[bg]at h2 g;injection h2 with h2;injection g with g
   exact .inr ⟨0,(k',v'),g.symm,rfl,h1,by simpa using h2.symm⟩
theorem Sq{e:A.EK}{k:AV}:∀{aW gE:List (AV×AV)}{i:Nat}{ix:Option Nat},A.del e k aW=δ gE->A.oK e k aW i=δ ix->
  (ix=η/\gE=aW)\/∃j,ix=δ (i+j)/\j<aW.length/\gE=aW.eraseIdx j
 |[],gE,i,ix,h,g=>by simp only[A.del,A.oK]at h g;injection h with h;injection g with g;exact .inl ⟨g.symm,h.symm⟩
 |(k',v')::aW,gE,i,ix,h,g=>by
  simp only[A.del,A.oK]at h g;obtain⟨b,h1,h2⟩:=bl.1 h;rw[h1,aL]at g;cases b
  ·simp only[aS]at h2 g;obtain⟨e2,h3,h4⟩:=bX.1 h2;rcases Sq h3 g with⟨rfl,rfl⟩|⟨j,rfl,k1,rfl⟩
   ·exact .inl ⟨rfl,by simpa using h4.symm⟩
   ·exact .inr ⟨j+1,by congr 1;omega,by simpa using k1,by simpa using h4.symm⟩
  ·simp only[bg]at h2 g;injection h2 with h2;injection g with g
   exact .inr ⟨0,g.symm,by simp,by simpa using h2.symm⟩
theorem P4{e:A.EK}{k v:AV}:∀{aW gE:List (AV×AV)},A.upd e k v aW=δ gE->∃r,ZD e k aW=δ r
 |[],gE,_=>⟨η,rfl⟩
 |(k',v')::aW,gE,g=>by
  simp only[A.upd]at g;obtain⟨b,h1,h2⟩:=bl.1 g;cases b
  ·obtain⟨e2,h3,_⟩:=bX.1 (by simpa using h2);obtain⟨r,hr⟩:=P4 h3;exact⟨r,by simp [ZD,h1,hr]⟩
  ·exact⟨δ v',by simp [ZD,h1]⟩
theorem P3{e:A.EK}{k:AV}:∀{aW gE:List (AV×AV)},A.del e k aW=δ gE->∃r,ZD e k aW=δ r
 |[],gE,_=>⟨η,rfl⟩
 |(k',v')::aW,gE,g=>by
  simp only[A.del]at g;obtain⟨b,h1,h2⟩:=bl.1 g;cases b
  ·obtain⟨e2,h3,_⟩:=bX.1 (by simpa using h2);obtain⟨r,hr⟩:=P3 h3;exact⟨r,by simp [ZD,h1,hr]⟩
  ·exact⟨δ v',by simp [ZD,h1]⟩
theorem bL.nth:∀{l:List (AV×AV)}{es:List MapEntry}{i:Nat}{p:AV×AV},bL c l es->l[i]? =δ p->∃e,es[i]? =δ e/\ak c p.1 e.key/\ak c p.2 e.val
 |[],es,i,p,h,k=>by simp at k
 |(a,b)::l,es,0,p,h,k=>by obtain⟨e,es',rfl,h1,h2,_⟩:=h;simp at k;subst k;exact⟨e,rfl,h1,h2⟩
 |(a,b)::l,es,i+1,p,h,k=>by obtain⟨e,es',rfl,_,_,h3⟩:=h;simp at k;obtain⟨e',k1,k2⟩:=bL.nth h3 k;exact⟨e',by simpa using k1,k2⟩
theorem bL.set{k v:AV}{key val:Value}(rk:ak c k key)(rv:ak c v val):∀{l:List (AV×AV)}{es:List MapEntry}(j:Nat),bL c l es->bL c (l.set j (k,v)) (es.modify j λe=>{e with key,val})
 |[],es,j,h=>by simp only[bL]at h;subst h;simp [bL]
 |(a,b)::l,es,0,h=>by obtain⟨e,es',rfl,h1,h2,h3⟩:=h;exact⟨_,_,rfl,rk,rv,h3⟩
 |(a,b)::l,es,j+1,h=>by obtain⟨e,es',rfl,h1,h2,h3⟩:=h;exact⟨e,_,rfl,h1,h2,bL.set rk rv j h3⟩
theorem bL.push{k v:AV}{key val:Value}{n:Nat}(rk:ak c k key)(rv:ak c v val):∀{l:List (AV×AV)}{es:List MapEntry},bL c l es->bL c (l++[(k,v)]) (es++[⟨key,val,n⟩])
 |[],es,h=>by simp only[bL]at h;subst h;exact⟨_,_,rfl,rk,rv,rfl⟩
 |(a,b)::l,es,h=>by obtain⟨e,es',rfl,h1,h2,h3⟩:=h;exact⟨e,_,rfl,h1,h2,bL.push rk rv h3⟩
theorem bL.erase:∀{l:List (AV×AV)}{es:List MapEntry}(j:Nat),bL c l es->bL c (l.eraseIdx j) (es.eraseIdx j)
 |[],es,j,h=>by simp only[bL]at h;subst h;simp [bL]
 |(a,b)::l,es,0,h=>by obtain⟨e,es',rfl,h1,h2,h3⟩:=h;exact h3
 |(a,b)::l,es,j+1,h=>by obtain⟨e,es',rfl,h1,h2,h3⟩:=h;exact⟨e,_,rfl,h1,h2,bL.erase j h3⟩
end
theorem lT.push{es:Array MapEntry}{bf:Nat}{key val:Value}(h:lT es bf):lT (es.push ⟨key,val,bf⟩) (bf+1):=by
 refine⟨λe he=>?_,?_⟩
 ·simp only[Array.toList_push,eG,X3]at he;rcases he with he|rfl
  ·have:=h.1 e he;omega
  ·exact Nat.lt_succ_self _
 ·simp only[Array.toList_push,Tm,bU,List.map_nil];rw[List.nodup_append];refine⟨h.2,by simp,λa ha b hb=>?_⟩;obtain⟨e,he,rfl⟩:=fK.1 ha;have:=h.1 e he;simp at hb;omega
theorem OV(key val:Value):∀(l:List MapEntry)(i:Nat),(l.modify i λe=>{e with key,val}).map (·.born)=l.map (·.born)
 |[],i=>by simp
 |e::l,0=>by simp
 |e::l,i+1=>by simp [OV key val l i]
theorem lT.modify{es:Array MapEntry}{bf i:Nat}{key val:Value}(h:lT es bf):lT (es.modify i λe=>{e with key,val}) bf:=by
 have hb:(es.modify i λe=>{e with key,val}).toList.map (·.born)=es.toList.map (·.born):=by rw[Array.toList_modify,OV]
 refine⟨λe he=>?_,by rw[hb];exact h.2⟩;have:e.born∈es.toList.map (·.born):=by rw[<-hb];exact fK.2 ⟨e,he,rfl⟩
 obtain⟨e',he',e1⟩:=fK.1 this;rw[<-e1];exact h.1 e' he'
theorem lT.erase{es:Array MapEntry}{bf i:Nat}(h:lT es bf):lT (es.eraseIdxIfInBounds i) bf:=by
 by_cases hi:i<es.size
 ·have hee:(es.eraseIdxIfInBounds i).toList=es.toList.eraseIdx i:=by simp [Ws,hi]
  refine⟨λe he=>h.1 e (by rw[hee]at he;exact List.mem_of_mem_eraseIdx he),?_⟩;rw[hee];exact h.2.sublist ((List.eraseIdx_sublist _ _).map _)
 ·have:es.eraseIdxIfInBounds i=es:=by simp [Ws,hi]
  rw[this];exact h
theorem lT.empty:lT #[] 0:=⟨by simp,by simp⟩
section
variable {X : Fx} {z : Z} {s : AS} {a : Act} {w w' : World} {E : List Pl} {pb : Nat -> Option Nat}
theorem Fe{P:Program}{b:Nat}{es:Array MapEntry}{bf:Nat}(o:Obj)(h:w.heap[b]? =δ (.map es bf)):(setObj b o).run P w=.ok () (w.cz b o):=by simp [setObj,Yt,h,World.cz]
theorem ace(h:St X z s a w E pb){t kt et:TypeId}{ek:A.EK}{m k v:AV}{mv key val:Value}{σ':Heap}(ht:X.P.underlying t=δ (.map kt et))(he:je X kt=δ ek)(hu:Z9 ek m k v s.σ=δ σ')
  (rm:ak (ctx z w E pb) m mv) (rk:ak (ctx z w E pb) k key) (rv:ak (ctx z w E pb) v val):∃w',(amA t mv key val).run X.P w=.ok () w'/\St X z (s.heap σ') a w' E pb:=by
 unfold Z9 at hu;cases hk:A.eY ek k
 ·rw[hk]at hu;cases hu
 ·rw[hk]at hu;simp only[bg]at hu;cases m<;>simp only at hu<;>first|(cases hu;done)|skip
  rename_i id;simp only[ak]at rm;obtain⟨p,e1,e2,rfl⟩:=rm;split at hu
  ·rename_i aW hs;obtain⟨gE,h1,h2⟩:=bX.1 hu;subst h2;obtain⟨hg,es,bf,k1,kw,k2⟩:=h.heap.blk id p _ e1 hs;obtain⟨r,hr⟩:=P4 h1;obtain⟨res,f1,f2,f3⟩:=JO (c:=ctx z w E pb) w X he hk rk hr k2;have tP:=EZ (c:=ctx z w E pb) w X he hk rk θ;have gu:(getObj p.b).run X.P w=.ok (.map es bf) w:=by simp [getObj,Yt,show w.heap[p.b]? =_ from k1]
   have hlt:p.b<w.heap.size:=h.heap.lt (p:=p) (bR e1);rcases S3 h1 f3 with⟨e3,rfl⟩|⟨j,q,e3,q1,q2,rfl⟩
   ·have hres:res=η:=by cases res with|none=>rfl|some x=>simp at e3
    subst hres;refine⟨w.cz p.b (.map (es.push ⟨key,val,bf⟩) (bf+1)),?_,h.tg e1 _ _ λhx=>⟨hg,_,_,rE _ hlt,kw.push,?_⟩⟩
    ·simp [amA,run_underlying ht,gu,tP,f1,Fe _ (show w.heap[p.b]? =_ from k1)]
    ·have:=bL.push (n:=bf) (X5 hx _ _ rk) (X5 hx _ _ rv) (k2.mono hx);simpa using this
   ·obtain⟨i,u,hres,hi⟩:∃i u,res=δ (i,u)/\i=j:=by
     cases res with
     |none=>simp at e3
     |some x=>exact⟨x.1,x.2,rfl,by simpa using e3⟩
    subst hi;subst hres;obtain⟨e,n1,n2,_⟩:=k2.nth q1;have hsame:=aaM (c:=ctx z w E pb) hk q2 rk n2;have Nk:es[i]? =δ e:=by rw[<-YT];exact n1
    refine⟨w.cz p.b (.map (es.modify i λe=>{e with key,val}) bf),?_,h.tg e1 _ _ λhx=>⟨hg,_,_,rE _ hlt,kw.modify,?_⟩⟩
    ·simp [amA,run_underlying ht,gu,tP,f1,Nk,Instr.keyThatStays,hsame,Fe _ (show w.heap[p.b]? =_ from k1)]
    ·have:=bL.set (X5 hx _ _ rk) (X5 hx _ _ rv) i (k2.mono hx);simpa using this
  ·cases hu
theorem ab9(h:St X z s a w E pb){t kt et u ty:TypeId}{ek:A.EK}{m k:AV}{mv key:Value}{σ':Heap}(ht:X.P.underlying t=δ (.map kt et))(he:je X kt=δ ek)(hu:A.L5 ek m k s.σ=δ σ')
  (rm:ak (ctx z w E pb) m mv) (rk:ak (ctx z w E pb) k key):∃w',(alY #[t,u] ty #[mv,key]).run X.P w=.ok (.tuple #[]) w'/\St X z (s.heap σ') a w' E pb:=by
 unfold A.L5 at hu;cases hk:A.eY ek k
 ·rw[hk]at hu;cases hu
 ·rw[hk]at hu;simp only[bg]at hu;cases m<;>simp only at hu<;>first|(cases hu;done)|skip
  case nm=>
   injection hu with hu;subst hu
   simp only[ak]at rm;subst rm;exact⟨w,by simp [alY,run_underlying ht,EZ (c:=ctx z w E pb) w X he hk rk ι],h⟩
  case om id=>
   simp only[ak]at rm;obtain⟨p,e1,e2,rfl⟩:=rm;split at hu
   ·rename_i aW hs;obtain⟨gE,h1,h2⟩:=bX.1 hu;subst h2;obtain⟨hg,es,bf,k1,kw,k2⟩:=h.heap.blk id p _ e1 hs;obtain⟨r,hr⟩:=P3 h1;obtain⟨res,f1,f2,f3⟩:=JO (c:=ctx z w E pb) w X he hk rk hr k2;have tP:=EZ (c:=ctx z w E pb) w X he hk rk es.isEmpty;have gu:(getObj p.b).run X.P w=.ok (.map es bf) w:=by simp [getObj,Yt,show w.heap[p.b]? =_ from k1]
    have hlt:p.b<w.heap.size:=h.heap.lt (p:=p) (bR e1);rcases Sq h1 f3 with⟨e3,rfl⟩|⟨j,e3,q1,rfl⟩
    ·have hres:res=η:=by cases res with|none=>rfl|some x=>simp at e3
     subst hres;refine⟨w.cz p.b (.map es bf),?_,h.tg e1 _ _ λhx=>⟨hg,_,_,rE _ hlt,kw,k2.mono hx⟩⟩;simp [alY,run_underlying ht,gu,tP,f1,Fe _ (show w.heap[p.b]? =_ from k1)]
    ·obtain⟨i,u',hres,hi⟩:∃i u,res=δ (i,u)/\i=j:=by
      cases res with
      |none=>simp at e3
      |some x=>exact⟨x.1,x.2,rfl,by simpa using e3⟩
     subst hi;subst hres;refine⟨w.cz p.b (.map (es.eraseIdxIfInBounds i) bf),?_,h.tg e1 _ _ λhx=>⟨hg,_,_,rE _ hlt,kw.erase,?_⟩⟩
     ·simp [alY,run_underlying ht,gu,tP,f1,Fe _ (show w.heap[p.b]? =_ from k1)]
     ·have hl:=k2.length;have:i<es.size:=by simp at hl;omega
      have hee:(es.eraseIdxIfInBounds i).toList=es.toList.eraseIdx i:=by simp [Ws,this]
      rw[hee];exact bL.erase i (k2.mono hx)
   ·cases hu
theorem OB{f:MapEntry->Nat}:∀{l:List MapEntry}{j:Nat}{e:MapEntry},(l.map f).Nodup->l[j]? =δ e->(l.filter λx=>!(f x==f e))=l.eraseIdx j
 |[],j,e,_,h=>by simp at h
 |x::l,0,e,hn,h=>by
  simp at h;subst h;simp only[bU,xR]at hn;simp only[Wy,beq_self_eq_true,Wq,List.eraseIdx_cons_zero];rw[al7.2]
  ·simp
  ·intro y hy;have:f y≠f x:=λe=>hn.1 (fK.2 ⟨y,hy,e⟩)
   simp [this]
 |x::l,j+1,e,hn,h=>by
  simp only[bU,xR]at hn;simp at h;have hne:f x≠f e:=λk=>hn.1 (fK.2 ⟨e,bR h,k.symm⟩)
  simp only[Wy,List.eraseIdx_cons_succ];have:(f x==f e)=θ:=by simpa using hne
  rw[this];simp only[Bool.not_false,if_true];rw[OB hn.2 h]
theorem choose_lt{P:Program}(w:World){n:Nat}(hn:0<n):∃j w',j<n/\(choose (.mapNext n)).run P w=.ok j w'/\Below w.heap.size w w'/\w'.heap=w.heap:=by
 by_cases h1:n<=1
 ·exact⟨0,w,hn,by simp [choose,Yt,WU,h1],Below.refl _ _,rfl⟩
 ·refine⟨_,w.drew,?_,by simp [choose,Yt,WU,h1];rfl,(Below.refl _ _).drew,rfl⟩;simp only[Question.cut];exact Nat.mod_lt _ hn
theorem lT.TH{es:Array MapEntry}{bf:Nat}(h:lT es bf)(b:Bool):(!b&&!es.isEmpty&&es.all λe=>decide (e.born>=bf))=θ:=by
 cases b
 ·by_cases he:es.isEmpty=ι
  ·simp [he]
  ·have hs:0<es.size:=by rw[Array.isEmpty_iff]at he;exact Nat.pos_of_ne_zero λk=>he (Array.eq_empty_of_size_eq_zero k)
   have:=h.1 es[0] (by simp)
   have:¬(es.all λe=>decide (e.born>=bf))=ι:=by intro k;rw[Array.all_eq_true]at k;have:=k 0 hs;simp at this;omega
   simp only[Bool.not_eq_true]at this;rw[this];simp
 ·simp
theorem filter_all{l:Array MapEntry}{bf:Nat}(h:∀e∈l.toList,e.born<bf):l.filter (λe=>decide (e.born<bf))=l/\l.filter (λe=>decide (e.born>=bf))=#[]:=by
 constructor
 ·apply jJ.1;rw[W2,al7.2];intro e he;simpa using h e he
 ·apply jJ.1;rw[W2];show _=[]
  rw[List.filter_eq_nil_iff];intro e he;have:=h e he;simp;omega
theorem R1{α:Type}{l:List α}{j:Nat}(hj:j<l.length):(l[j]::l.eraseIdx j).Perm l:=by
 have e:l=l.take j++l[j]::l.drop (j+1):=by rw[List.getElem_cons_drop,WD]
 rw[am4];conv=>rhs;rw[e]
 exact List.perm_middle.symm
theorem ach(h:St X z s a w E pb){R:Type}{k:AV->Heap->Option R}{r:R}{i:AV}{v:Value}{ty:TypeId}(hk:A.wm i s.σ k=δ r)(ri:ak (ctx z w E pb) i v):
  ∃av σ' v' w',k av σ'=δ r/\(amL v θ ty).run X.P w=.ok v' w'/\St X z (s.heap σ') a w' E pb/\ak (ctx z w' E pb) av v':=by
 unfold A.wm at hk;split at hk
 ·rename_i id;simp only[ak]at ri;obtain⟨p,e1,e2,rfl⟩:=ri;have hlt:p.b<w.heap.size:=h.heap.lt (p:=p) (bR e1);have aej:ak (ctx z w E pb) (.aN [.bool θ]) (.tuple #[.bool θ]):=by simp [ak,aJ]
  have hs0:s.heap s.σ=s:=rfl;split at hk
  ·rename_i cur hs;obtain⟨hg,hit⟩:=h.heap.blk id p _ e1 hs;rcases hit with⟨_,_,since,seen,last,h3⟩|⟨m,seen,aW,bf,h3,h4,h5,h6,h7,h8,h9⟩
   ·have gu:(getObj p.b).run X.P w=.ok (.mapIter η since seen last) w:=by simp [getObj,Yt,show w.heap[p.b]? =_ from h3]
    exact⟨_,_,_,w,hk,by simp [amL,gu],by rw[hs0];exact h,aej⟩
   ·have gu:(getObj p.b).run X.P w=.ok (.mapIter (δ m) bf seen bf) w:=by simp [getObj,Yt,show w.heap[p.b]? =_ from h3]
    have xK:(getObj m).run X.P w=.ok (.map aW bf) w:=by simp [getObj,Yt,show w.heap[m]? =_ from h6]
    obtain⟨l,h8,vc⟩:=h8;simp only[bL]at h8;subst h8;have hl:aW.filter (λe=>!seen.contains e.born)=#[]:=by apply jJ.1;rw[W2];exact vc.nil_eq.symm
    obtain⟨j,w',hj,hch,hb,hw⟩:=choose_lt (P:=X.P) w (n:=1) (by omega);have hj0:j=0:=by omega
    subst hj0;have hst:=h7.TH seen.isEmpty;refine⟨_,_,.tuple #[.bool θ],w',hk,?_,by rw[hs0];exact h.grow hb,by simp [ak,aJ]⟩
    simp only[amL,b7,gu,Ψ,xK,hst,hl];simp [-Go.run_choose,-Go.run_choose_drew,hch]
  ·rename_i cur x left hs;obtain⟨hg,hit⟩:=h.heap.blk id p _ e1 hs;rcases hit with⟨_,hn,_⟩|⟨m,seen,aW,bf,h3,h4,h5,h6,h7,h8,h9⟩
   ·cases hn
   ·have gu:(getObj p.b).run X.P w=.ok (.mapIter (δ m) bf seen bf) w:=by simp [getObj,Yt,show w.heap[p.b]? =_ from h3]
    have xK:(getObj m).run X.P w=.ok (.map aW bf) w:=by simp [getObj,Yt,show w.heap[m]? =_ from h6]
    obtain⟨L,hL⟩:∃L,L=aW.filter (λe=>!seen.contains e.born):=⟨_,rfl⟩
    have Dz:L.toList=aW.toList.filter (λe=>!seen.contains e.born):=by rw[hL,W2]
    rw[<-Dz]at h8;obtain⟨l,h8,vc⟩:=h8;have hlen:=h8.length;rw[vc.length_eq]at hlen;simp only[Z7]at hlen;have hlt':∀e∈L.toList,e.born<bf:=λe he=>h7.1 e (by rw[Dz]at he;exact(Y2.1 he).1)
    obtain⟨f1,f2⟩:=filter_all hlt'
    have hne:L.isEmpty=θ:=by rw[Array.isEmpty_eq_false_iff];intro k;rw[k]at hlen;simp at hlen
    obtain⟨j,w',hj,hch,hb,hw⟩:=choose_lt (P:=X.P) w (n:=L.size) (by rw[<-hlen];simp);have hst:=h7.TH seen.isEmpty;obtain⟨e,Vt⟩:∃e,L[j]? =δ e:=⟨_,rY hj⟩
    have n1:L.toList[j]? =δ e:=by rw[YT];exact Vt
    obtain⟨i,hil,hie⟩:=Wg.1 (vc.mem_iff.2 (bR n1));have LR:i<(x::left).length:=by rw[h8.length];exact hil
    have hk2:=all_some hk LR;rw[cA LR]at hk2;simp only at hk2;obtain⟨e',Hr,n2,n3⟩:=bL.nth h8 (cA LR);have hee:e=e':=by rw[cA hil]at Hr;injection Hr with Hr;rw[<-Hr,hie]
    subst hee
    have Nu:(l.eraseIdx i).Perm (L.toList.eraseIdx j):=by
     have p1:(e::l.eraseIdx i).Perm l:=by have:=R1 hil;rwa[hie]at this
     obtain⟨hjj,hje⟩:=bB.1 n1;have p2:(e::L.toList.eraseIdx j).Perm L.toList:=by have:=R1 hjj;rwa[hje]at this
     exact am2.cons_inv ((p1.trans vc).trans p2.symm)
    have hg2:=h.grow hb;have hmp:p.b≠m:=λk=>h5 (.inr (.inl ⟨p,bR e1,k⟩))
    have h3':w'.heap[p.b]? =δ (.mapIter (δ m) bf seen bf):=by rw[hw];exact h3
    have qg:(setObj p.b (.mapIter (δ m) bf (seen.push e.born) bf)).run X.P w'=.ok () (w'.cz p.b (.mapIter (δ m) bf (seen.push e.born) bf)):=by simp [setObj,Yt,h3',World.cz]
    refine⟨_,_,.tuple #[.bool ι,e.key,e.val],w'.cz p.b (.mapIter (δ m) bf (seen.push e.born) bf),hk2,?_,hg2.tg e1 _ _ λhx=>⟨hg,.inr ⟨m,seen.push e.born,aW,bf,?_,?_,?_,?_,h7,?_,?_⟩⟩,?_⟩
    ·simp only[amL,b7,gu,Ψ,xK,hst,<-hL,f1,f2,hne];simp [-Go.run_choose,-Go.run_choose_drew,hch,Vt,qg]
    ·exact rE _ (by rw[hw];exact hlt)
    ·show m<(w'.cz p.b _).heap.size;rw[xA,hw];exact h4
    ·exact h5
    ·show(w'.cz p.b _).heap[m]? =_;rw[uh _ hmp,hw];exact h6
    ·have hx2:Ext (ctx z w E pb) (ctx z (w'.cz p.b (.mapIter (δ m) bf (seen.push e.born) bf)) E pb):=(rJ hb).trans hx
     have hfe:(aW.toList.filter λe'=>!(seen.push e.born).contains e'.born)=L.toList.eraseIdx j:=by rw[Dz];have hnd:((aW.toList.filter λe=>!seen.contains e.born).map (·.born)).Nodup:=h7.2.sublist ((List.filter_sublist).map _);rw[<-OB (f:=(·.born)) (e:=e) hnd (by rw[<-Dz];exact n1),List.filter_filter];congr 1;funext y;simp only[Array.contains_push,Bool.not_or];rw[Bool.and_comm]
     rw[hfe];exact⟨_,(bL.erase i h8).mono hx2,Nu⟩
    ·refine .inr ⟨_,_,e,rfl,by simp,?_,?_,?_⟩
     ·have:=bR n1;rw[Dz]at this;exact(Y2.1 this).1
     ·exact X5 ((rJ hb).trans hx) _ _ n2
     ·exact X5 ((rJ hb).trans hx) _ _ n3
    ·have hx:Ext (ctx z w' E pb) (ctx z (w'.cz p.b (.mapIter (δ m) bf (seen.push e.born) bf)) E pb):=JV (.inr (.inl ⟨p,bR e1,rfl⟩));have hx2:=(rJ hb).trans hx;simp only[ak];exact⟨_,rfl,by simp only[aJ];exact⟨_,_,rfl,rfl,_,_,rfl,X5 hx2 _ _ n2,_,_,rfl,X5 hx2 _ _ n3,rfl⟩⟩
  ·cases hk
 ·cases hk
theorem abf(h:St X z s a w E pb){t kt et:TypeId}{x:AV}{v:Value}{es:List (AV×AV)}(ht:X.P.underlying t=δ (.map kt et))(hr:A.Ky x=δ es)(rx:ak (ctx z w E pb) x v):
  ∃o,(Instr.range t v).run X.P w=.ok (.pointer (δ ⟨w.heap.size,0,η⟩)) (w.alloc o)/\St X z (s.heap (s.σ++[.it [] es])) a (w.alloc o) (E++[⟨w.heap.size,0,0,0,0⟩]) pb:=by
 unfold A.Ky at hr;split at hr
 ·injection hr with hr
  subst hr;simp only[ak]at rx;subst rx;refine⟨.mapIter η 0 #[] 0,by simp [Instr.range,run_underlying ht,newObj,Yt],h.ux _ _ ⟨w.heap.size,0,0,0,0⟩ rfl λhx=>⟨rfl,.inl ⟨rfl,rfl,_,_,_,(Zs w _).1⟩⟩⟩
 ·injection hr with hr
  subst hr;simp only[ak]at rx;obtain⟨b,rfl,hb,hX,aW,bf,k1,kw,l,k2,k3⟩:=rx;have xK:(getObj b).run X.P w=.ok (.map aW bf) w:=by simp [getObj,Yt,show w.heap[b]? =_ from k1]
  refine⟨.mapIter (δ b) bf #[] bf,by simp [Instr.range,run_underlying ht,xK,newObj,Yt],h.ux _ _ ⟨w.heap.size,0,0,0,0⟩ rfl λhx=>⟨rfl,.inr ⟨b,#[],aW,bf,(Zs w _).1,?_,(hx.stay b hb hX).2,?_,kw,?_,.inl rfl⟩⟩⟩
  ·exact nQ hb hx.size
  ·exact(hx.stay b hb hX).1.trans k1
  ·have:(aW.toList.filter λe=>!(#[]:Array Nat).contains e.born)=aW.toList:=by rw[al7];intro e _;simp
   rw[this];exact⟨l,k2.mono hx,by rcases k3 with rfl|⟨k3,_⟩<;>first|exact am2.refl _|exact k3⟩
 ·cases hr
end
end
end
end Go.Proofs.YtkdafecbdncmiaaDoor
