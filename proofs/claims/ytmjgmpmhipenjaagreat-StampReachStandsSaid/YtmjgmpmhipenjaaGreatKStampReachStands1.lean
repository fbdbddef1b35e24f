/- Parts of the proof of StampReachStands, in order. -/
import Derived.Orders
import Derived.Below
import Derived.WalkKit
import Derived.Laws.StructEq
import Derived.Laws.Append
import Derived.Laws.AppendOwn
namespace Go.Proofs.YtmjgmpmhipenjaaGreat
set_option linter.unusedVariables false
set_option linter.unusedSimpArgs false
set_option linter.unusedSectionVars false
set_option maxRecDepth 1000000
noncomputable section
open List renaming mem_iff_getElem->X4,map_map->Zc,drop_eq_nil_of_le->aBS,replicate->Z5,length_replicate->UU,take_append_drop->Wb,eraseIdx_eq_take_drop_succ->YC,length_cons->R7,map_nil->Wf,getElem?_append_right->aCJ,all_cons->aCh,mem_replicate->Ti,headD_cons->aCx,map_append->V8,mem_of_find?_eq_some->aCT,append_nil->TU,getElem?_eq_some_iff->aCP,getElem?_append_left->aCQ,drop_eq_getElem_cons->Xo,getElem?_drop->YF,mem_filter->TR,getElem?_take_of_lt->Vh,mem_map_of_mem->Vb,mem_flatten->aBN,getElem?_eq_getElem->aCX,length_append->Ve,flatten_cons->VG,flatten_append->aCy,getElem?_take->aBQ,size_toArray->Y9,toList_toArray->aB7,mem_singleton->Un,extract_eq_take_drop->aCU,eq_nil_of_length_eq_zero->aCs,flatMap_cons->Vi,mem_cons_self->XJ,getD->YA,getElem?_concat_length->aCG
open Go.Instr renaming findKey->aB9,sliceBounds->TS,sureAddr->VF,sliceAt->aCY,indexAt->aCa,sameBits->S3,mapUpdate->aCA,findNow->V2,sliceBound->Ue,next->Si,range->aCo,slice->UN,buildSlice->aBO,findAsking->aBM,sameNow->V5,checkKey->Um
open Go.Builtin renaming cap_->aBT,lenOf->Vc,copy_->Xf,len_->ZF,zeroCells->n5,firstCells->U8,delete_->aBW,clear_->VI,append_->WS
open Classical renaming choose_spec->ZR,choose->V7,byContradiction->aCV
open Go renaming run_choose_drew->aCM
open Bool renaming not_eq_false'->aCd,false_eq_true->UP,not_eq_true'->XX,not_true->Xk,not_false->U6,false->ι,true->η
open _root_.Array renaming range->aCv,getElem?_eq_some_iff->aCK,getD->aCc,toList_filter->aBK,getD_eq_getD_getElem?->aCF,toList_append->aCz,size_append->Ul,length_toList->YO,getElem?_toList->Ta,eq_empty_of_size_eq_zero->aC7,getElem?_setIfInBounds->Uw,getElem?_setIfInBounds_ne->Wl,getElem?_eq_getElem->aCR,eraseIdxIfInBounds->aBJ
open Go.Sem renaming run->Sp,run_pure->Vf,run_bind->u9
open Nat renaming le_of_mul_le_mul_right->Vo,zero_add->WW,div_mul_le_self->aB8,le_mul_of_pos_right->aC6,le_trans->X8,blt->aBL
open Go.Act renaming put->aB6
open Option renaming none->ξ,bind_eq_some_iff->aC4,some->δ
open Go.Region renaming binds->Xu
open Go.Question renaming forced->SY
open Go.MapKept renaming heap_alloc->Wu
open Option.some renaming injEq->Δ
open Go.Op renaming stringOp->aCu,equalIn->Sj,intArith->aCt,intCmp->aC5,bytesLess->Vj
open Go.Program renaming cellsOf->aCw
open Go.Result renaming andThen_ok->ir
open Prod.mk renaming injEq->j0
open IntKind renaming i64->θ
open Go.IntKind renaming i64->θ
open Int renaming toNat_natCast->Tl
open Go.World renaming cell?->XV
theorem aP{α:Type _}{β:Type _}(a:α)(f:α->Option β):(δ a).bind f=f a:=rfl
theorem cq{α:Type _}{β:Type _}(a:α)(f:α->β):(δ a).map f=δ (f a):=rfl
theorem bM{α:Type _}{x:α}{xs:List α}{d:α}:(x::xs).getD 0 d=x:=rfl
theorem cg{α:Type _}{x:α}{xs:List α}{n:Nat}{d:α}:(x::xs).getD (n+1) d=xs.getD n d:=rfl
theorem bK{α:Sort _}(a b:α):cond ι a b=b:=rfl
theorem cA{α:Sort _}(a b:α):cond η a b=a:=rfl
theorem eo{α:Type _}{β:Type _}{f:α->β}{a:α}{l:List α}:(a::l).map f=f a::l.map f:=rfl
theorem bD:type_of% @aCP:=@aCP
theorem bX:type_of% @aC4:=@aC4
theorem bU:type_of% @aCX:=@aCX
theorem cE:type_of% @List.mem_of_getElem?:=@List.mem_of_getElem?
theorem eP:type_of% @Option.map_eq_some_iff:=@Option.map_eq_some_iff
theorem iz:type_of% @aCJ:=@aCJ
theorem iG:type_of% @aCQ:=@aCQ
theorem bF:type_of% @Nat.le_refl:=@Nat.le_refl
theorem lT:type_of% @aCK:=@aCK
theorem je:type_of% @Bool.and_eq_true:=@Bool.and_eq_true
theorem ql:type_of% @aCF:=@aCF
theorem jm:type_of% @List.getElem?_set:=@List.getElem?_set
theorem vP:type_of% @Nat.lt_of_lt_of_le:=@Nat.lt_of_lt_of_le
theorem kS:type_of% @List.append_assoc:=@List.append_assoc
theorem oF:type_of% @List.getElem?_set_self:=@List.getElem?_set_self
theorem oG:type_of% @Bool.or_eq_false_iff:=@Bool.or_eq_false_iff
theorem kC:type_of% @List.drop_drop:=@List.drop_drop
theorem jI:type_of% @Nat.add_assoc:=@Nat.add_assoc
theorem gu:type_of% @Nat.add_mul:=@Nat.add_mul
theorem kT:type_of% @Nat.add_le_add:=@Nat.add_le_add
theorem qm:type_of% @List.getElem?_eq_none:=@List.getElem?_eq_none
theorem iV:type_of% @List.mem_cons:=@List.mem_cons
theorem pJ:type_of% @List.set_append_right:=@List.set_append_right
theorem uC:type_of% @List.length_eq_one_iff:=@List.length_eq_one_iff
theorem mU:type_of% @Array.toList_inj:=@Array.toList_inj
theorem pK:type_of% @List.mem_iff_getElem?:=@List.mem_iff_getElem?
theorem rz:type_of% @Nat.mul_le_mul_right:=@Nat.mul_le_mul_right
theorem vQ:type_of% @aCs:=@aCs
theorem fL:type_of% @List.mem_map:=@List.mem_map
theorem jJ:type_of% @List.mem_append:=@List.mem_append
theorem uD:type_of% @aCR:=@aCR
theorem qn:type_of% @Bool.eq_iff_iff:=@Bool.eq_iff_iff
theorem rA:type_of% @List.mem_cons_of_mem:=@List.mem_cons_of_mem
theorem oH:type_of% @List.length_take:=@List.length_take
theorem vR:type_of% @List.take_of_length_le:=@List.take_of_length_le
theorem aO:type_of% @if_pos:=@if_pos
theorem aL:type_of% @if_neg:=@if_neg
theorem cB:type_of% @decide_eq_true:=@decide_eq_true
theorem cm:type_of% @decide_eq_false:=@decide_eq_false
theorem zV:type_of% @aCT:=@aCT
theorem rB:type_of% @List.nodup_cons:=@List.nodup_cons
theorem xq:type_of% @List.mem_of_mem_take:=@List.mem_of_mem_take
theorem vS:type_of% @List.all_eq_true:=@List.all_eq_true
theorem kD:type_of% @Nat.zero_le:=@Nat.zero_le
theorem mq:type_of% @List.cons_append:=@List.cons_append
theorem qo:type_of% @List.getElem?_map:=@List.getElem?_map
theorem D9:type_of% @aCG:=@aCG
inductive AV where
 |undef
 |int(k:IntKind)(n:Int)
 |bool(b:Bool)
 |str(s:ByteArray)
 |agg(cs:List AV)
 |aM(vs:List AV)
 |sl(sz:Nat)(es:List (List AV))
 |aA
 |ez
 |rp(cs:List AV)
 |np
 |op(id off:Nat)
 |oe(id g i off:Nat)
 |os(id g sz off len:Nat)
 |om(id:Nat)
 |fm(es:List (AV×AV))
 |nm
 |fn(f:Nat)(caps:List AV)
 |ze
 |lbx(cs:List AV)
 deriving Inhabited
open AV renaming aA->i6,agg->Λ,bool->i7,sl->SQ,aM->XF,int->Z6
inductive aT where
 |box(cs:List AV)
 |arr(g sz:Nat)(es:List (List AV))
 |vT(g sz:Nat)(es:List (List AV))
 |map(es:List (AV×AV))
 |it(cur left:List (AV×AV))
 deriving Inhabited
def IU(es:List (AV×AV)):Prop:=(∀p∈es,∃n s,p.1=.agg [.int θ n,.str s])/\(es.map (·.1)).Nodup
abbrev Heap:=List aT
inductive AX where
 |normal
 |exit(id:Nat)
 |ret
 deriving DecidableEq,Inhabited
namespace A
def cond{α:Type}(c:AV)(t e:Option α):Option α:=match c with|.bool b=>bif b then t else e|_=>ξ
def guard{α:Type}(c:AV)(want:Bool)(t e:Option α):Option α:=match c with|.bool b=>bif b==want then t else e|.aM []=>e|_=>ξ
def pick(c a b:AV):Option AV:=match c with|.bool c=>δ (bif c then a else b)|_=>ξ
def cell(v:AV):Option AV:=match v with|.undef=>ξ|.agg _=>ξ|.aM _=>ξ|.lbx _=>ξ|v=>δ v
def cells(n:Nat)(v:AV):Option (List AV):=match v with|.agg cs=>if cs.length=n then δ cs else ξ|_=>ξ
def lb(v:AV):Option (List AV):=match v with|.lbx cs=>δ cs|_=>ξ
def ak(off:Nat)(cs:List AV):Option AV:=(cs[off]?).bind cell
def aF(off n:Nat)(cs:List AV):Option AV:=if off+n<=cs.length then δ (.agg ((cs.drop off).take n))else ξ
def az(off:Nat)(new cs:List AV):Option (List AV):=if off+new.length<=cs.length then δ (cs.take off++new++cs.drop (off+new.length))else ξ
def deref(v:AV)(σ:Heap):Option (List AV):=match v with
 |.rp cs=>δ cs
 |.op id off=>match σ[id]? with|some (.box cs)=>δ (cs.drop off)|_=>ξ
 |.oe id g i off=>match σ[id]? with|some (.arr g' _ es)=>if g=g' then(es[i]?).map (·.drop off)else ξ|_=>ξ
 |_=>ξ
def storeAt(v:AV)(new:List AV)(σ:Heap):Option Heap:=match v with
 |.op id off=>match σ[id]? with|some (.box cs)=>(az off new cs).map λcs=>σ.set id (.box cs)|_=>ξ
 |.oe id g i off=>match σ[id]? with
  |some (.arr g' sz es)=>if g=g' then(es[i]?).bind λe=>(az off new e).map λe=>σ.set id (.arr g sz (es.set i e))else ξ
  |_=>ξ
 |_=>ξ
def aN(off:Nat)(v:AV):Option AV:=match v with
 |.rp cs=>δ (.rp (cs.drop off))
 |.op id o=>δ (.op id (o+off))
 |.oe id g i o=>δ (.oe id g i (o+off))
 |_=>ξ
def idx(len:Nat)(i:AV):Option Nat:=match i with|.int _ n=>if 0<=n/\n<len then δ n.toNat else ξ|_=>ξ
def bQ(sz:Nat)(x i:AV):Option AV:=match x with
 |.sl sz' es=>(idx es.length i).bind λj=>if sz=sz' then(es[j]?).map .rp else ξ
 |.os id g sz' off len=>(idx len i).bind λj=>if sz=sz' then δ (.oe id g (off+j) 0)else ξ
 |_=>ξ
def A8(len sz:Nat)(x i:AV):Option AV:=(idx len i).bind λj=>match x with
 |.rp cs=>δ (.rp (cs.drop (j*sz)))
 |.op id o=>δ (.op id (o+j*sz))
 |.oe id g k o=>δ (.oe id g k (o+j*sz))
 |_=>ξ
def bC(x:AV):Option AV:=match x with|.rp cs=>δ (.rp cs)|.op id o=>δ (.op id o)|.oe id g i o=>δ (.oe id g i o)|.fn f c=>δ (.fn f c)|_=>ξ
def ext(i:Nat)(x:AV):Option AV:=match x with|.aM vs=>vs[i]? |_=>ξ
def add(x y:AV):Option AV:=match x,y with
 |.int k a,.int k' b=>if k=k' then δ (.int k (k.wrap (a+b)))else ξ
 |.str a,.str b=>if a.size+b.size<=9223372036854775807 then δ (.str (a++b))else ξ
 |_,_=>ξ
def sub(x y:AV):Option AV:=match x,y with|.int k a,.int k' b=>if k=k' then δ (.int k (k.wrap (a-b)))else ξ|_,_=>ξ
def mul(x y:AV):Option AV:=match x,y with|.int k a,.int k' b=>if k=k' then δ (.int k (k.wrap (a*b)))else ξ|_,_=>ξ
def quo(x y:AV):Option AV:=match x,y with|.int k a,.int k' b=>if k=k'/\b≠0 then δ (.int k (k.wrap (a.tdiv b)))else ξ|_,_=>ξ
def rem(x y:AV):Option AV:=match x,y with|.int k a,.int k' b=>if k=k'/\b≠0 then δ (.int k (a.tmod b))else ξ|_,_=>ξ
def shl(x y:AV):Option AV:=match x,y with|.int k a,.int _ b=>if b<0 then ξ else δ (.int k (k.wrap (a*2 ^ min b.toNat k.bits)))|_,_=>ξ
def shr(x y:AV):Option AV:=match x,y with|.int k a,.int _ b=>if b<0 then ξ else δ (.int k (a.fdiv (2 ^ min b.toNat k.bits)))|_,_=>ξ
def lss(x y:AV):Option AV:=match x,y with|.int k a,.int k' b=>if k=k' then δ (.bool (decide (a<b)))else ξ|.str a,.str b=>δ (.bool (Vj a.toList b.toList))|_,_=>ξ
def leq(x y:AV):Option AV:=match x,y with|.int k a,.int k' b=>if k=k' then δ (.bool (decide (a<=b)))else ξ|_,_=>ξ
def gtr(x y:AV):Option AV:=match x,y with|.int k a,.int k' b=>if k=k' then δ (.bool (decide (a>b)))else ξ|_,_=>ξ
def geq(x y:AV):Option AV:=match x,y with|.int k a,.int k' b=>if k=k' then δ (.bool (decide (a>=b)))else ξ|_,_=>ξ
def pR(x y:AV):Option Bool:=match x,y with|.int k a,.int k' b=>if k=k' then δ (a==b)else ξ|_,_=>ξ
def Au(x y:AV):Option Bool:=match x,y with|.bool a,.bool b=>δ (a==b)|_,_=>ξ
def sN(x y:AV):Option Bool:=match x,y with|.str a,.str b=>δ (a==b)|_,_=>ξ
def azF(x y:AV):Option Bool:=match x,y with
 |.np,.np=>δ η
 |.np,.rp _=>δ ι
 |.np,.op _ _=>δ ι
 |.rp _,.np=>δ ι
 |.op _ _,.np=>δ ι
 |_,_=>ξ
def oR(k:Nat)(x y:AV):Option Bool:=match k with|0=>pR x y|1=>Au x y|2=>sN x y|_=>ξ
def iy:List Nat->List AV->List AV->Option Bool
 |[],[],[]=>δ η
 |k::ks,x::xs,y::ys=>(oR k x y).bind λb=>(iy ks xs ys).map λc=>b&&c
 |_,_,_=>ξ
inductive EK where
 |i|b|z|p
 |s(ks:List Nat)
def fR(k:EK)(x y:AV):Option Bool:=match k with
 |.i=>pR x y
 |.b=>Au x y
 |.z=>sN x y
 |.p=>azF x y
 |.s ks=>match x,y with|.agg xs,.agg ys=>iy ks xs ys|_,_=>ξ
def eql(k:EK)(x y:AV):Option AV:=(fR k x y).map .bool
def neq(k:EK)(x y:AV):Option AV:=(fR k x y).map λb=>.bool (!b)
def RH(x y:AV):Option Bool:=match y with
 |.aA=>(match x with|.aA=>δ η|.sl _ (_::_)=>δ ι|.os _ _ _ _ _=>δ ι|_=>ξ)
 |_=>ξ
def wu(x y:AV):Option AV:=(RH x y).map .bool
def neN(x y:AV):Option AV:=(RH x y).map λb=>.bool (!b)
def F5(x:AV):Option AV:=match x with|.aA=>δ (.int θ 0)|.ez=>δ (.int θ 0)|_=>ξ
def not(x:AV):Option AV:=match x with|.bool b=>δ (.bool (!b))|_=>ξ
def neg(x:AV):Option AV:=match x with|.int k n=>δ (.int k (k.wrap (0-n)))|_=>ξ
def conv(k:IntKind)(x:AV):Option AV:=match x with|.int _ n=>δ (.int k (k.wrap n))|_=>ξ
def ag0(x:AV):Option AV:=match x with|.str s=>δ (.str s)|_=>ξ
def max(x y:AV):Option AV:=match x,y with|.int k a,.int _ b=>δ (.int k (if b>a then b else a))|_,_=>ξ
def min(x y:AV):Option AV:=match x,y with|.int k a,.int _ b=>δ (.int k (if b<a then b else a))|_,_=>ξ
def Er(x:AV):Option AV:=match x with|.str s=>δ (.int θ s.size)|_=>ξ
def bW(x:AV):Option AV:=match x with
 |.sl _ es=>δ (.int θ es.length)
 |.aA=>δ (.int θ 0)
 |.ez=>δ (.int θ 0)
 |.os _ _ _ _ n=>δ (.int θ n)
 |_=>ξ
def ah7(x:AV)(σ:Heap):Option AV:=match x with
 |.nm=>δ (.int θ 0)
 |.fm es=>δ (.int θ es.length)
 |.om id=>match σ[id]? with|some (.map es)=>δ (.int θ es.length)|_=>ξ
 |_=>ξ
def we(x i:AV):Option AV:=match x with|.str s=>(idx s.size i).bind λj=>(s[j]?).map λb=>.int .u8 b.toNat|_=>ξ
def bound(y:Nat)(dflt:Nat)(x:Option AV):Option Nat:=match x with
 |none=>δ dflt
 |some (.int _ i)=>if 0<=i/\i<=y then δ i.toNat else ξ
 |_=>ξ
def Wh(x:AV)(lo hi:Option AV):Option AV:=match x with
 |.str s=>(bound s.size s.size hi).bind λh=>(bound h 0 lo).map λl=>.str (s.extract l h)
 |_=>ξ
def room(σ:Heap)(id g sz off len:Nat):Nat:=match σ[id]? with
 |some (.arr g' sz' es)=>if g=g'/\sz=sz'/\off+len<=es.length then es.length-off else len
 |_=>len
def qd(sz:Nat)(x:AV)(lo hi:Option AV)(σ:Heap):Option AV:=match x with
 |.sl sz' es=>if sz=sz' then(bound es.length es.length hi).bind λh=>(bound h 0 lo).map λl=>.sl sz ((es.take h).drop l)else ξ
 |.aA=>(bound 0 0 hi).bind λh=>(bound h 0 lo).map λ_=>.aA
 |.ez=>(bound 0 0 hi).bind λh=>(bound h 0 lo).map λ_=>.ez
 |.os id g sz' off len=>if sz=sz' then(bound (room σ id g sz off len) len hi).bind λh=>(bound h 0 lo).map λl=>.os id g sz (off+l) (h-l)else ξ
 |_=>ξ
def slice3(x:AV)(lo:Option AV)(hi mx:AV):Option AV:=(bW x).bind λn=>match n with
 |.int _ n=>(bound n.toNat 0 (δ mx)).bind λm=>(bound m 0 (δ hi)).bind λh=>(bound h 0 lo).map λ_=>if m=0 then .ez else .undef
 |_=>ξ
def elems(sz:Nat)(x:AV)(σ:Heap):Option (List (List AV)):=match x with
 |.aA=>δ []
 |.ez=>δ []
 |.sl sz' es=>if sz=sz' then δ es else ξ
 |.os id g gM off len=>match σ[id]? with
  |some (.arr g' sz' es)=>if g=g'/\sz=sz'/\gM=sz/\off+len<=es.length then δ ((es.drop off).take len)else ξ
  |some (.vT g' sz' es)=>if g=g'/\sz=sz'/\gM=sz/\off+len<=es.length then δ ((es.drop off).take len)else ξ
  |_=>ξ
 |_=>ξ
def pe(sz most:Nat)(x:AV)(ys:List (List AV))(σ:Heap):Option (AV×Heap):=match x with
 |.aA=>if ys=[]then δ (.aA,σ)else if ys.length<=most then δ (.os σ.length ys.length sz 0 ys.length,σ++[.arr ys.length sz ys])else ξ
 |.ez=>if ys=[]then δ (.ez,σ)else if ys.length<=most then δ (.os σ.length ys.length sz 0 ys.length,σ++[.arr ys.length sz ys])else ξ
 |.os id g gM off len=>match σ[id]? with
  | some (.arr g' sz' es) => if g = g' /\ sz = sz' /\ gM = sz /\ off + len <= es.length /\ len + ys.length <= most then
    (if ys=[]then δ (.os id g sz off len,σ)else if off+len+ys.length<=es.length then δ (.os id g sz off (len+ys.length),σ.set id (.arr g sz (es.take (off+len)++ys++es.drop (off+len+ys.length))))
    else δ (.os id (g+ys.length) sz 0 (len+ys.length),σ.set id (.arr (g+ys.length) sz ((es.drop off).take len++ys))))else ξ
  | some (.vT g' sz' es) => if g = g' /\ sz = sz' /\ gM = sz /\ off + len <= es.length /\ len + ys.length <= most /\ es.length < off + len + ys.length then
    δ (.os σ.length (len+ys.length) sz 0 (len+ys.length),σ++[.arr (len+ys.length) sz ((es.drop off).take len++ys)])else ξ
  |_=>ξ
 |_=>ξ
def append(sz most:Nat)(x y:AV)(σ:Heap):Option (AV×Heap):=(elems sz y σ).bind λys=>pe sz most x ys σ
def zK(sz most:Nat)(zs:List AV)(x n:AV)(σ:Heap):Option (AV×Heap):=match n with
 |.int _ k=>if 0<=k/\k<=most then pe sz most x (Z5 k.toNat zs) σ else ξ
 |_=>ξ
def att(sz:Nat)(x y:AV)(σ:Heap):Option (AV×Heap):=(elems sz y σ).bind λys=>match x with
 |.aA=>δ (.int θ 0,σ)
 |.ez=>δ (.int θ 0,σ)
 |.os id g gM off len=>match σ[id]? with
  | some (.arr g' sz' es) => if g = g' /\ sz = sz' /\ gM = sz /\ off + len <= es.length then (if ys.length = 0 \/ len = 0 then δ (.int θ 0, σ) else
    δ (.int θ (ys.take len).length,σ.set id (.arr g sz (es.take off++ys.take len++es.drop (off+(ys.take len).length)))))else ξ
  |_=>ξ
 |_=>ξ
def all {R:Type} (p:Nat->Prop) (k:Nat->Option R):Option R:=open Classical in if h:∃r,∀n,p n->k n=δ r then δ (V7 h)else ξ
def Ee {R:Type} (x:AV) (σ:Heap) (k:Nat->Heap->Option R):Option R:=match x with
 |.os id g sz off len=>match σ[id]? with
  |some (.arr g' sz' es)=>if g=g'/\sz=sz'/\off+len<=es.length then all (λc=>len<=c/\es.length<=off+c) (λc=>k c (if c=len then σ.set id (.vT g sz es)else σ.set id (.arr g sz (es++Z5 (off+c-es.length) (Z5 sz .undef)))))else ξ
  |_=>ξ
 |_=>ξ
def Jf{R:Type}(v:AV)(k:Nat->List (List AV)->Option R):Option R:=match v with|.sl sz es=>bif es.length==0 then ξ else k sz es|_=>ξ
def Bg{R:Type}(v:Option AV)(k:AV->Option R)(u:Option R):Option R:=match v with|some v=>k v|none=>u
def yx(m:AV):Option (List (AV×AV)):=match m with
 |.nm=>δ []
 |.fm es=>δ es
 |_=>ξ
def vO {R:Type} (i:AV) (σ:Heap) (k:AV->Heap->Option R):Option R:=match i with
 |.op id 0=>match σ[id]? with
  |some (.it _ [])=>k (.aM [.bool ι]) σ
  |some (.it _ (e::left))=>all (λj=>j<(e::left).length) (λj=>match(e::left)[j]? with
   |some p=>k (.aM [.bool η,p.1,p.2]) (σ.set id (.it [p] ((e::left).eraseIdx j)))
   |none=>ξ)
  |_=>ξ
 |_=>ξ
def yu(i:AV)(σ:Heap):Option AV:=match i with
 |.op id 0=>match σ[id]? with
  |some (.it [p] _)=>δ (.aM [p.1,p.2])
  |_=>ξ
 |_=>ξ
def V6(sz:Nat)(zs:List AV)(x:AV)(σ:Heap):Option Heap:=match x with
 |.aA=>δ σ
 |.ez=>δ σ
 |.sl _ []=>δ σ
 |.os id g gM off len=>match σ[id]? with
  |some (.arr g' sz' es)=>if g=g'/\sz=sz'/\gM=sz/\off+len<=es.length then(if len=0 then δ σ else δ (σ.set id (.arr g sz (es.take off++Z5 len zs++es.drop (off+len)))))else ξ
  |_=>ξ
 |_=>ξ
def find(e:EK)(k:AV):List (AV×AV)->Option (Option AV)
 |[]=>δ ξ
 |(k',v)::r=>(fR e k k').bind λb=>bif b then δ (δ v)else find e k r
def vG(e:EK)(k:AV):List (AV×AV)->Nat->Option (Option Nat)
 |[],_=>δ ξ
 |(k',_)::r,i=>(fR e k k').bind λb=>bif b then δ (δ i)else vG e k r (i+1)
def upd(e:EK)(k v:AV):List (AV×AV)->Option (List (AV×AV))
 |[]=>δ [(k,v)]
 |(k',v')::r=>(fR e k k').bind λb=>bif b then δ ((k,v)::r)else(upd e k v r).map ((k',v')::·)
def del(e:EK)(k:AV):List (AV×AV)->Option (List (AV×AV))
 |[]=>δ []
 |(k',v')::r=>(fR e k k').bind λb=>bif b then δ r else(del e k r).map ((k',v')::·)
def entries(m:AV)(σ:Heap):Option (List (AV×AV)):=match m with
 |.nm=>δ []
 |.fm es=>δ es
 |.om id=>match σ[id]? with|some (.map es)=>δ es|_=>ξ
 |_=>ξ
def kK(e:EK)(k:AV):Bool:=match e,k with
 |.i,.int _ _=>η
 |.b,.bool _=>η
 |.z,.str _=>η
 |.s ks,.agg xs=>xs.length==ks.length
 |_,_=>ι
def look(e:EK)(m k zero:AV)(σ:Heap):Option AV:=bif kK e k then(entries m σ).bind λes=>(find e k es).map λr=>r.getD zero else ξ
def FI(e:EK)(m k zero:AV)(σ:Heap):Option AV:=bif kK e k then(entries m σ).bind λes=>(find e k es).map λr=>.aM [r.getD zero,.bool r.isSome]else ξ
def iX(e:EK)(m k v:AV)(σ:Heap):Option Heap:=bif kK e k then(match m with
 |.om id=>match σ[id]? with|some (.map es)=>(upd e k v es).map λes=>σ.set id (.map es)|_=>ξ
 |_=>ξ)else ξ
def Gc(e:EK)(m k:AV)(σ:Heap):Option Heap:=bif kK e k then(match m with
 |.nm=>δ σ
 |.om id=>match σ[id]? with|some (.map es)=>(del e k es).map λes=>σ.set id (.map es)|_=>ξ
 |_=>ξ)else ξ
def quiet (r:Option (AV×Heap)) (σ:Heap):Option AV:=r.bind λp=>open Classical in if p.2=σ then δ p.1 else ξ
def jC(dyn:Nat->List AV->Heap->Option (AV×Heap))(f:AV)(args:List AV)(σ:Heap):Option (AV×Heap):=match f with|.fn n caps=>dyn n (args++caps) σ|_=>ξ
def tab{α:Type}(d:α):List (Nat×α)->Nat->α
 |[],_=>d
 |(m,x)::r,n=>bif n==m then x else tab d r n
def iter(f:List AV->Heap->Option (AX×List AV×Heap)):Nat->List AV->Heap->Option (AX×List AV×Heap)
 |0,_,_=>ξ
 |n+1,v,σ=>(f v σ).bind λr=>match r.1 with|.normal=>iter f n r.2.1 r.2.2|_=>δ r
def loop (f:List AV->Heap->Option (AX×List AV×Heap)) (v:List AV) (σ:Heap):Option (AX×List AV×Heap):=
 open Classical in if h:∃n r,iter f n v σ=δ r then δ (V7 (ZR h))else ξ
def zR{R:Type}(f:List AV->Heap->(AX×List AV×Heap->Option R)->Option R):Nat->List AV->Heap->(AX×List AV×Heap->Option R)->Option R
 |0,_,_,_=>ξ
 |n+1,v,σ,K=>f v σ λr=>match r.1 with|.normal=>zR f n r.2.1 r.2.2 K|_=>K r
def Ch {R:Type} (f:List AV->Heap->(AX×List AV×Heap->Option R)->Option R) (v:List AV) (σ:Heap) (K:AX×List AV×Heap->Option R):Option R:=
 open Classical in if h:∃r,∃n,∀m,n<=m->zR f m v σ K=δ r then δ (V7 h)else ξ
mutual
def bH(σ:Heap)(n:Nat):Nat->AV->Option AV
 |_,.int k a=>δ (.int k a)
 |_,.bool b=>δ (.bool b)
 |_,.str s=>δ (.str s)
 |_,.aA=>δ .aA
 |_,.ez=>δ .ez
 |_,.np=>δ .np
 |_,.nm=>δ .nm
 |_,.ze=>δ .ze
 |d,.agg cs=>(fD σ n d cs).map .agg
 |d,.aM cs=>(fD σ n d cs).map .aM
 |d,.sl sz es=>(ku σ n d es).map (.sl sz)
 |d,.rp cs=>(fD σ n d cs).map .rp
 |d,.fm es=>(sw σ n d es).map .fm
 |d,.fn f cs=>(fD σ n d cs).map (.fn f)
 |0,_=>ξ
 |d+1,.om id=>if id<n then δ (.om id)else match σ[id]? with
  |some (.map es)=>(DZ σ n d es).map .fm
  |_=>ξ
 |d+1,.op id off=>if id<n then δ (.op id off)else match σ[id]? with
  |some (.box cs)=>(wZ σ n d (cs.drop off)).map .rp
  |_=>ξ
 |d+1,.oe id g i off=>if id<n then δ (.oe id g i off)else match σ[id]? with
  |some (.arr g' _ es)=>if g=g' then(match es[i]? with|some e=>(wZ σ n d (e.drop off)).map .rp|none=>ξ)else ξ
  |_=>ξ
 |d+1,.os id g gM off len=>if id<n then δ (.os id g gM off len)else match σ[id]? with
  |some (.arr g' sz es)=>if g=g'/\gM=sz/\off+len<=es.length then(Lo σ n d ((es.drop off).take len)).map (.sl sz)else ξ
  |_=>ξ
 |_,_=>ξ
def fD(σ:Heap)(n:Nat):Nat->List AV->Option (List AV)
 |_,[]=>δ []
 |d,x::r=>(bH σ n d x).bind λy=>(fD σ n d r).map (y::·)
def wZ(σ:Heap)(n:Nat):Nat->List AV->Option (List AV)
 |_,[]=>δ []
 |d,x::r=>(bH σ n d x).bind λy=>(wZ σ n d r).map (y::·)
def sw(σ:Heap)(n:Nat):Nat->List (AV×AV)->Option (List (AV×AV))
 |_,[]=>δ []
 |d,(k,v)::r=>(bH σ n d k).bind λk=>(bH σ n d v).bind λv=>(sw σ n d r).map ((k,v)::·)
def DZ(σ:Heap)(n:Nat):Nat->List (AV×AV)->Option (List (AV×AV))
 |_,[]=>δ []
 |d,(k,v)::r=>(bH σ n d k).bind λk=>(bH σ n d v).bind λv=>(DZ σ n d r).map ((k,v)::·)
def ku(σ:Heap)(n:Nat):Nat->List (List AV)->Option (List (List AV))
 |_,[]=>δ []
 |d,x::r=>(fD σ n d x).bind λy=>(ku σ n d r).map (y::·)
def Lo(σ:Heap)(n:Nat):Nat->List (List AV)->Option (List (List AV))
 |_,[]=>δ []
 |d,x::r=>(fD σ n d x).bind λy=>(Lo σ n d r).map (y::·)
end
end A
open A renaming az->Φ,leq->Y0,neq->Uq,loop->p7,append->Uv,cond->Γ,lb->ZE,mul->WR,guard->μ,geq->ZC,deref->χ,quiet->wh,bQ->UM,bH->Wr,look->WK,fD->UC,cell->Θ,gtr->Tt,eql->Wn,bC->SD,elems->T9,add->Z8,sub->T6,ak->φ,lss->Sq,entries->Tn,aN->p5,aF->l7,iy->XN,cells->ψ,not->Yr,ext->TH,bound->Xn,fR->Uj,storeAt->l8,find->XS,pick->p9,bW->UT
abbrev aB:Option AV:=(δ (XF []))
abbrev aY:AV:=(i7 ι)
abbrev dY:AV:=(AV.str ⟨#[]⟩)
abbrev dQ:AV:=(i7 η)
abbrev fB:AV:=(Z6 θ 0)
abbrev Ck:List AV:=[i6,i6,i6,i6,i6]
abbrev aj(l:List AV)(n:Nat):AV:=l.getD n AV.undef
abbrev AV.ah(n:Int):AV:=Z6 θ n
abbrev aC:=Option (AV×Heap)
abbrev an:=List AV
section
structure xA where
 slot:Nat
 off:Nat
 tag:Option (Nat×Bool)
structure AS where
 sl:List AV
 A:Nat->Option xA
 σ:Heap
structure Fx where
 P:Program
 nm:List Nat
 call:FuncId->List AV->Heap->Option (AV×Heap)
 dyn:Nat->List AV->Heap->Option (AV×Heap)
 L:List Nat
 O:List Nat
 n:Nat
 W:List Nat
inductive oM where
 |n
 |s(a b:oM)
 |c(live:List Nat)(a b:oM)
 |j(a b:oM)
 |b(a:oM)
 |l(live:List Nat)(xs:List AX)(a:oM)
 |lc(live:List Nat)(xs:List AX)(a:oM)
noncomputable section
def DT:Value->AV
 |.int k n=>.int k n
 |.bool b=>.bool b
 |.string s=>.str s
 |.slice ξ 0 0=>.aA
 |.pointer ξ=>.np
 |.map ξ=>.nm
 |.nilFunc=>.ze
 |_=>.undef
def fc:Value->Bool
 |.agg _=>ι
 |.tuple _=>ι
 |_=>η
def yD:Value->AV
 |.agg cs=>bif cs.toList.all fc then .agg (cs.toList.map DT)else .undef
 |v=>DT v
section
variable {R : Type} (X : Fx)
def FH(t:TypeId):Bool:=match X.P.underlying t with|some (.struct _)=>η|some (.array _ _)=>η|_=>ι
def xm(t:TypeId):Option (List AV):=match X.P.info? t with|some i=>(match i.zero with|some v=>bif v.cells.toList.all fc then δ (v.cells.toList.map DT)else ξ|none=>ξ)|none=>ξ
def ev(s:AS):Operand->AV
 |.tmp t=>bif X.L.contains t then .undef else s.sl.getD t .undef
 |.const v=>yD v
 |.global _=>.undef
 |.func f=>.fn (X.nm.getD f 0) []
def qR(d:Nat):Option xA->Option xA
 |some p=>(match p.tag with|some (g,_)=>bif g==d then ξ else δ p|none=>δ p)
 |none=>ξ
def AS.put(X:Fx)(d:Option Nat)(v:AV)(s:AS):AS:=
 match d with
 |some d=>⟨s.sl.set d (bif X.L.contains d then .undef else v),λt=>bif t==d then ξ else qR d (s.A t),s.σ⟩
 |none=>s
def AS.oN(X:Fx)(d:Option Nat)(b off:Nat)(tag:Option (Nat×Bool))(s:AS):AS:=
 match d with
 |some d=>⟨s.sl.set d .undef,λt=>bif t==d then(bif X.L.contains d||!aBL d X.n then ξ else match tag with|some (g,w)=>(bif g==d then ξ else δ ⟨b,off,δ (g,w)⟩)|none=>δ ⟨b,off,ξ⟩)else qR d (s.A t),s.σ⟩
 |none=>s
def AS.qW(d:Nat)(cs:List AV)(s:AS):AS:=
 ⟨s.sl.set d (.lbx cs),λt=>bif t==d then ξ else match qR d (s.A t)with|some p=>bif p.slot==d then ξ else δ p|none=>ξ,s.σ⟩
def AS.heap(σ:Heap)(s:AS):AS:=⟨s.sl,s.A,σ⟩
def place(s:AS)(tag:Option (Nat×Bool)):Operand->Option (Nat×Nat)
 |.tmp t=>bif X.L.contains t then δ (t,0)else match s.A t with
  |some p=>bif X.L.contains p.slot then(match p.tag with|none=>δ (p.slot,p.off)|some g=>bif tag==δ g then δ (p.slot,p.off)else ξ)else ξ
  |none=>ξ
 |_=>ξ
def Cj(t:TypeId)(off:Nat)(cs:List AV):Option AV:=match X.P.underlying t with
 |none=>ξ
 |some _=>bif FH X t then l7 off (X.P.cellsOf t) cs else φ off cs
def A4(t:TypeId)(v:AV):Option (List AV):=match X.P.underlying t with
 |none=>ξ
 |some _=>bif FH X t then ψ (X.P.cellsOf t) v else bif X.P.cellsOf t==1 then(Θ v).bind λv=>δ [v]else ξ
def qY(s:AS)(place:Nat->Option (Nat×TypeId)):List (Nat×Operand)->List AV->Option (List AV)
 |[],cs=>δ cs
 |(i,x)::r,cs=>match place i with
  |none=>ξ
  |some (off,t)=>(A4 X t (ev X s x)).bind λnew=>(Φ off new cs).bind λcs=>qY s place r cs
def DD(t:TypeId)(f:Nat):Option (Nat×TypeId):=match X.P.underlying t with
 |some (.struct fs)=>(match fs[f]? with|some f=>δ (f.offset,f.type)|none=>ξ)
 |_=>ξ
def Bh(f:TypeId->Bool)(size:TypeId->Nat):List Field->Nat->Option Nat
 |[],off=>δ off
 | x :: r, off => bif x.name != "_" && x.offset == off && f x.type then Bh f size r (off + size x.type) else ξ
def mw(P:Program):Nat->TypeId->Bool
 |0,_=>ι
 |d+1,t=>match P.underlying t with
  |some .bool=>P.cellsOf t==1
  |some (.int _)=>P.cellsOf t==1
  |some .string=>P.cellsOf t==1
  |some (.struct fs)=>!P.stoodInHeld t&&Bh (mw P d) P.cellsOf fs.toList 0==δ (P.cellsOf t)
  |_=>ι
def kinds(P:Program):Nat->TypeId->List Nat
 |0,_=>[]
 |d+1,t=>match P.underlying t with
  |some .bool=>[1]
  |some (.int _)=>[0]
  |some .string=>[2]
  |some (.struct fs)=>fs.toList.flatMap λf=>kinds P d f.type
  |_=>[]
def nY(t:TypeId):Option A.EK:=match X.P.underlying t with
 |some .bool=>δ .b
 |some (.int _)=>δ .i
 |some .string=>δ .z
 |some (.pointer e)=>bif X.P.cellsOf e !=0 then δ .p else ξ
 |some (.struct _)=>bif mw X.P 9 t&&!X.P.eqGuardType X.P.depth t then δ (.s (kinds X.P 9 t))else ξ
 |_=>ξ
def azp(op:BinOp)(t:TypeId)(x y:AV):Option AV:=match op with
 |.add=>Z8 x y|.sub=>T6 x y|.mul=>WR x y|.quo=>A.quo x y|.rem=>A.rem x y
 |.lss=>Sq x y|.leq=>Y0 x y|.gtr=>Tt x y|.geq=>ZC x y
 |.eql=>(match nY X t with|some e=>Wn e x y|none=>match X.P.underlying t with|some (.slice _)=>A.wu x y|_=>ξ)
 |.neq=>(match nY X t with|some e=>Uq e x y|none=>match X.P.underlying t with|some (.slice _)=>A.neN x y|_=>ξ)
 |.shl=>A.shl x y|.shr=>A.shr x y|_=>ξ
def gd(sz:Nat):Nat->List AV->List (List AV)
 |0,_=>[]
 |n+1,l=>l.take sz::gd sz n (l.drop sz)
def ij(o:Oper)(s:AS)(tag:Option (Nat×Bool)):Option AV:=
 match o.op with
 |.move x=>δ (ev X s x)
 |.assign x=>δ (ev X s x)
 |.pick c a b=>p9 (ev X s c) (ev X s a) (ev X s b)
 |.alloc t=>(match xm X t with|some cs=>δ (.rp cs)|none=>ξ)
 |.box t x=>(A4 X t (ev X s x)).bind λcs=>δ (.rp cs)
 |.build t ps=>(match xm X t,X.P.underlying t with
  |some zs,δ (.struct fs)=>bif fs.toList.all (λf=>(X.P.info? f.type).isSome)then(qY X s (DD X t) ps.toList zs).bind λcs=>δ (.agg cs)else ξ
  |_,_=>ξ)
 |.buildSlice t len ps=>(match X.P.underlying t with
  |some (.slice e)=>(match X.P.info? e,xm X e with
   |some i,δ zs=>bif (i.size==0||zs.length !=i.size)then ξ else bif aBL 16777216 (len*i.size)then ξ
    else(qY X s (λj=>δ (j*i.size,e)) ps.toList ((Z5 len zs).flatten)).bind λcs=>δ (bif len==0 then .ez else .sl i.size (gd i.size len cs))
   |_,_=>ξ)
  |_=>ξ)
 |.load t x=>(match place X s tag x with
  |some (b,off)=>(ZE (s.sl.getD b .undef)).bind λcs=>Cj X t off cs
  |none=>(χ (ev X s x) s.σ).bind λcs=>Cj X t 0 cs)
 |.nilCheck x=>SD (ev X s x)
 |.binOp op t x y _=>azp X op t (ev X s x) (ev X s y)
 |.unOp op _ x=>(match op with
  |.not=>Yr (ev X s x)
  |.neg=>A.neg (ev X s x)
  |_=>ξ)
 |.convert src dst x=>(match X.P.underlying src,X.P.underlying dst with
  |some (.int _),δ (.int j)=>A.conv j (ev X s x)
  |some .string,δ .string=>A.ag0 (ev X s x)
  |_,_=>ξ)
 |.makeInterface t _=>(match X.P.underlying t with|some (.interface _)=>ξ|some _=>δ .undef|none=>ξ)
 |.makeFunc fn first caps=>(match fn with|.func f=>bif first.toList.isEmpty then δ (.fn (X.nm.getD f 0) (caps.toList.map (ev X s)))else ξ|_=>ξ)
 |.slice t x lo hi mx=>(match mx with
  |none=>(match X.P.underlying t with
   |some .string=>A.Wh (ev X s x) (lo.map (ev X s)) (hi.map (ev X s))
   |some (.slice e)=>(match X.P.info? e with|some i=>A.qd i.size (ev X s x) (lo.map (ev X s)) (hi.map (ev X s)) s.σ|none=>ξ)
   |_=>ξ)
  |some mx=>(match X.P.underlying t,hi with
   |some (.slice e),δ hi=>(match X.P.info? e with|some _=>A.slice3 (ev X s x) (lo.map (ev X s)) (ev X s hi) (ev X s mx)|none=>ξ)
   |_,_=>ξ))
 |.fieldAddr t x f=>(match DD X t f with
  |some (off,ft)=>(match X.P.info? ft with|some i=>bif i.size==0 then ξ else p5 off (ev X s x)|none=>ξ)
  |none=>ξ)
 |.field t x f=>(match DD X t f with
  |some (off,ft)=>(ψ (X.P.cellsOf t) (ev X s x)).bind λcs=>Cj X ft off cs
  |none=>ξ)
 |.indexAddr t x i=>(match X.P.underlying t with
  |some (.slice e)=>(match X.P.info? e with|some j=>UM j.size (ev X s x) (ev X s i)|none=>ξ)
  |some (.array len e)=>(match X.P.info? e with|some j=>A.A8 len j.size (ev X s x) (ev X s i)|none=>ξ)
  |_=>ξ)
 |.index t x i=>(match X.P.underlying t with
  |some .string=>A.we (ev X s x) (ev X s i)
  |_=>ξ)
 |.lookup t m i ok=>(match X.P.underlying t with
  |some (.map kt e)=>(match X.P.info? e,nY X kt with
   |some inf,δ ek=>(match inf.zero with
    |some z=>bif ok then A.FI ek (ev X s m) (ev X s i) (yD z) s.σ else WK ek (ev X s m) (ev X s i) (yD z) s.σ
    |none=>ξ)
   |_,_=>ξ)
  |_=>ξ)
 |.extract x i=>TH i (ev X s x)
 |.entry i=>A.yu (ev X s i) s.σ
 |.call c=>(match c.callee with
  |.builtin b=>(match b,c.argTypes.toList,c.args.toList.map (ev X s)with
   |.len,[t],[x]=>(match X.P.underlying t with
    |some .string=>A.Er x
    |some (.slice _)=>UT x
    |some (.map _ _)=>A.ah7 x s.σ
    |_=>ξ)
   |.cap,[t],[x]=>(match X.P.underlying t with|some (.slice _)=>A.F5 x|_=>ξ)
   |.max,_,[x,y]=>A.max x y
   |.min,_,[x,y]=>A.min x y
   |_,_,_=>ξ)
  |.value (.func f)=>wh (X.call f (c.args.toList.map (ev X s)) s.σ) s.σ
  |.value x=>wh (A.jC X.dyn (ev X s x) (c.args.toList.map (ev X s)) s.σ) s.σ
  |_=>ξ)
 |_=>ξ
def lP(o:Oper)(s:AS)(tag:Option (Nat×Bool)):Option (Nat×Option Nat):=
 match o.op with
 |.nilCheck x=>(match place X s tag x with|some (b,off)=>δ (b,(ZE (s.sl.getD b .undef)).bind λ_=>δ off)|none=>ξ)
 |.fieldAddr t x f=>(match place X s tag x with
  |some (b,o')=>δ (b,match DD X t f with
   |some (off,ft)=>(match X.P.info? ft with|some i=>bif i.size==0 then ξ else(ZE (s.sl.getD b .undef)).bind λ_=>δ (o'+off)|none=>ξ)
   |none=>ξ)
  |none=>ξ)
 |.indexAddr t x i=>(match place X s tag x with
  |some (b,o')=>δ (b,match X.P.underlying t with
   |some (.array len e)=>(match X.P.info? e with|some ie=>(ZE (s.sl.getD b .undef)).bind λ_=>(A.idx len (ev X s i)).bind λj=>δ (o'+j*ie.size)|none=>ξ)
   |_=>ξ)
  |none=>ξ)
 |_=>ξ
def pE(i:TypeInfo):Bool:=i.size==0||i.bytes==0||(match i.zero with|some z=>z.cells.size !=i.size||!z.cells.toList.all fc|none=>η)
def iS(q:Bool)(o:Oper)(s:AS)(k:AS->Option R):Option R:=
 match lP X o s ξ with
 |some (b,r)=>r.bind λoff=>k (s.oN X o.dst b off ξ)
 |none=>
 match o.op with
 |.alloc t=>(match o.dst with
  |some d=>bif X.L.contains d then(match xm X t with|some cs=>k (s.qW d cs)|none=>ξ)
   else bif X.O.contains d then(match xm X t with|some cs=>k ((s.heap (s.σ++[.box cs])).put X (δ d) (.op s.σ.length 0))|none=>ξ)
   else(ij X o s ξ).bind λv=>k (s.put X o.dst v)
  |none=>ξ)
 |.box t x=>(match o.dst with
  |some d=>bif X.L.contains d then(A4 X t (ev X s x)).bind λcs=>k (s.qW d cs)
   else bif X.O.contains d then(A4 X t (ev X s x)).bind λcs=>k ((s.heap (s.σ++[.box cs])).put X (δ d) (.op s.σ.length 0))
   else(ij X o s ξ).bind λv=>k (s.put X o.dst v)
  |none=>ξ)
 |.store t x v=>(match place X s ξ x with
  |some (b,off)=>(ZE (s.sl.getD b .undef)).bind λcs=>(A4 X t (ev X s v)).bind λnew=>(Φ off new cs).bind λcs=>k ((⟨s.sl.set b (.lbx cs),s.A,s.σ⟩:AS).put X o.dst (.aM []))
  |none=>(A4 X t (ev X s v)).bind λnew=>(l8 (ev X s x) new s.σ).bind λσ=>k ((s.heap σ).put X o.dst (.aM [])))
 |.buildSlice t n ps=>(match o.dst with
  |some d=>bif X.O.contains d then(ij X o s ξ).bind λv=>A.Jf v λsz es=>k ((s.heap (s.σ++[.arr es.length sz es])).put X (δ d) (.os s.σ.length es.length sz 0 es.length))
   else(ij X o s ξ).bind λv=>k (s.put X o.dst v)
  |none=>(ij X o s ξ).bind λv=>k (s.put X o.dst v))
 |.makeMap t r=>(match r with
  |none=>k ((s.heap (s.σ++[.map []])).put X o.dst (.om s.σ.length))
  |some _=>ξ)
 |.mapUpdate t m i v=>(match X.P.underlying t with
  |some (.map kt _)=>(match nY X kt with|some ek=>(A.iX ek (ev X s m) (ev X s i) (ev X s v) s.σ).bind λσ=>k ((s.heap σ).put X o.dst (.aM []))|none=>ξ)
  |_=>ξ)
 |.range t x=>(match X.P.underlying t with
  |some (.map _ _)=>(A.yx (ev X s x)).bind λes=>k ((s.heap (s.σ++[.it [] es])).put X o.dst (.op s.σ.length 0))
  |_=>ξ)
 |.next i str=>bif q||str then ξ else A.vO (ev X s i) s.σ (λv σ=>k ((s.heap σ).put X o.dst v))
 |.call c=>(match c.callee with
  |.builtin .append=>(match c.argTypes.toList,c.args.toList.map (ev X s)with
   |[t,u],[x,y]=>(match X.P.underlying t,X.P.underlying u with
    |some (.slice e),δ (.slice _)=>(match X.P.info? e with
     |some i=>bif pE i then ξ else(Uv i.size (140737488355328 / i.bytes) x y s.σ).bind λr=>k ((s.heap r.2).put X o.dst r.1)
     |none=>ξ)
    |some (.slice e),δ (.int _)=>(match X.P.info? e,xm X e with
     |some i,δ zs=>bif pE i then ξ else(A.zK i.size (140737488355328 / i.bytes) zs x y s.σ).bind λr=>k ((s.heap r.2).put X o.dst r.1)
     |_,_=>ξ)
    |_,_=>ξ)
   |_,_=>ξ)
  |.builtin .copy=>(match c.argTypes.toList,c.args.toList.map (ev X s)with
   |[t,u],[x,y]=>(match X.P.underlying t,X.P.underlying u with
    |some (.slice e),δ (.slice _)=>(match X.P.info? e with
     |some i=>bif pE i then ξ else(A.att i.size x y s.σ).bind λr=>k ((s.heap r.2).put X o.dst r.1)
     |none=>ξ)
    |_,_=>ξ)
   |_,_=>ξ)
  | .builtin .cap => A.Bg (ij X o s ξ) (λv => k (s.put X o.dst v)) (bif q then ξ else (match c.argTypes.toList, c.args.toList.map (ev X s) with
    |[t],[x]=>(match X.P.underlying t with|some (.slice _)=>A.Ee x s.σ (λc σ=>k ((s.heap σ).put X o.dst (.int θ c)))|_=>ξ)
    |_,_=>ξ))
  |.builtin .clear=>(match c.argTypes.toList,c.args.toList.map (ev X s)with
   |[t],[x]=>(match X.P.underlying t with
    |some (.slice e)=>(match X.P.info? e,xm X e with
     |some i,δ zs=>bif pE i then ξ else(A.V6 i.size zs x s.σ).bind λσ=>k ((s.heap σ).put X o.dst (.aM []))
     |_,_=>ξ)
    |_=>ξ)
   |_,_=>ξ)
  |.builtin .delete=>(match c.argTypes.toList,c.args.toList.map (ev X s)with
   |[t,_],[m,key]=>(match X.P.underlying t with
    |some (.map kt _)=>(match nY X kt with|some ek=>(A.Gc ek m key s.σ).bind λσ=>k ((s.heap σ).put X o.dst (.aM []))|none=>ξ)
    |_=>ξ)
   |_,_=>ξ)
  |.builtin _=>(ij X o s ξ).bind λv=>k (s.put X o.dst v)
  | .value (.func f) => bif q && !X.W.contains f then (ij X o s ξ).bind λv => k (s.put X o.dst v)
    else(X.call f (c.args.toList.map (ev X s)) s.σ).bind λr=>k ((s.heap r.2).put X o.dst r.1)
  | .value x => bif q then (ij X o s ξ).bind λv => k (s.put X o.dst v)
    else(A.jC X.dyn (ev X s x) (c.args.toList.map (ev X s)) s.σ).bind λr=>k ((s.heap r.2).put X o.dst r.1)
  |_=>ξ)
 |_=>(ij X o s ξ).bind λv=>k (s.put X o.dst v)
def I1(o:Oper):Option (FuncId×List Operand):=match o.op with
 |.call c=>(match c.callee with|.value (.func f)=>bif X.W.contains f then δ (f,c.args.toList)else ξ|_=>ξ)
 |_=>ξ
def KT(o:Oper)(d:Nat):Bool:=X.L.contains d||(match o.dst with|some d=>X.L.contains d||X.O.contains d|none=>ι)
def oU(q:Bool)(ops:Array Oper)(o:Oper)(s:AS)(k:AS->Option R):Option R:=
 match o.guard with
 |none=>iS X q o s k
 |some (j,want)=>match(ops[j]?).bind (·.dst)with
  |some d=>bif KT X o d then ξ else(match I1 X o with
   |some (f,as')=>(μ (s.sl.getD d .undef) want (X.call f (as'.map (ev X s)) s.σ) (δ (.aM [],s.σ))).bind λr=>k ((s.heap r.2).put X o.dst r.1)
   |none=>(match lP X o s (δ (d,want))with
    |some (b,r)=>r.bind λoff=>k (s.oN X o.dst b off (δ (d,want)))
    |none=>(μ (s.sl.getD d .undef) want (ij X o s (δ (d,want))) (δ (.aM []))).bind λv=>k (s.put X o.dst v)))
  |none=>ξ
def force{R:Type}:List AV->(List AV->Option R)->Option R
 |[],k=>k []
 |x::l,k=>force l λl=>k (x::l)
def vY(q:Bool)(ops:Array Oper):List Oper->AS->(AS->Option R)->Option R
 |[],s,k=>k s
 |o::r,s,k=>oU X q ops o s λs=>vY q ops r s k
def Mq(q:Bool)(ops:Array Oper):List Oper->AS->(AS->Option R)->Option R
 |[],s,k=>k s
 |o::r,s,k=>oU X q ops o s λs=>force s.sl λsl=>Mq q ops r ⟨sl,s.A,s.σ⟩ k
def rL(o:Oper):Bool:=match o.op with|.load ..|.store ..|.fieldAddr ..|.indexAddr ..|.nilCheck ..=>η|_=>ι
def rH(o:Oper):Bool:=match o.op with|.load ..|.store ..|.lookup ..|.mapUpdate ..|.call ..|.makeMap ..|.alloc ..|.box ..|.range ..|.next ..|.entry ..|.slice ..|.buildSlice ..=>η|_=>ι
def wH(o:Oper):Bool:=match o.op with
 |.store ..|.mapUpdate ..|.makeMap ..|.range ..|.next ..=>η
 |.alloc ..|.box ..|.buildSlice ..=>(match o.dst with|some d=>X.O.contains d|none=>ι)
 |.call c=>(match c.callee with|.builtin .len=>ι|.builtin .max=>ι|.builtin .min=>ι|.builtin _=>η|.value (.func f)=>X.W.contains f|_=>ι)
 |_=>ι
def rj:AV->Bool
 |.oe ..=>ι
 |_=>η
def chainB(Bt:List Nat)(o:Oper):Bool:=match o.op with
 |.move (.tmp t)=>Bt.contains t
 |.assign (.tmp t)=>Bt.contains t
 |.nilCheck (.tmp t)=>Bt.contains t
 |.fieldAddr _ (.tmp t) _=>Bt.contains t
 |_=>ι
def atp(o:Oper):Option Nat:=match o.op with
 |.move (.tmp t)=>δ t
 |.assign (.tmp t)=>δ t
 |.nilCheck (.tmp t)=>δ t
 |.fieldAddr _ (.tmp t) _=>δ t
 |.load _ (.tmp t)=>δ t
 |_=>ξ
def aul(ops:List Oper)(sl:List AV):List Nat:=(ops.filterMap atp).filter λt=>!(ops.any λo=>o.dst==δ t)&&rj (sl.getD t .undef)
def agy:List Oper->List Nat->List Nat
 |[],acc=>acc
 |o::r,acc=>agy r (match o.dst with|some d=>(bif chainB acc o then d::acc else acc)|none=>acc)
def soft(Bt:List Nat)(o:Oper):Bool:=match o.op with|.load _ (.tmp t)=>Bt.contains t|_=>ι
def EC(o:Oper):Bool:=match o.op with
 |.makeMap ..=>η
 |.mapUpdate ..=>η
 |.call c=>(match c.callee with|.builtin .append=>η|_=>ι)
 |_=>ι
def WM(Bt:List Nat)(o:Oper):Bool:=match o.dst with
 |some d=>!Bt.contains d||chainB Bt o
 |none=>η
def qx(o:Oper):Option Operand:=match o.op with
 |.load _ x=>δ x
 |.store _ x _=>δ x
 |.fieldAddr _ x _=>δ x
 |.indexAddr _ x _=>δ x
 |.nilCheck x=>δ x
 |_=>ξ
def xe(o:Oper):Bool:=match o.op with|.fieldAddr ..=>η|.indexAddr ..=>η|.nilCheck ..=>η|_=>ι
def BF(Rt:List (Nat×Nat)):Operand->Option Nat
 |.tmp t=>bif X.L.contains t then δ t else Rt.lookup t
 |_=>ξ
def rt(Rt:List (Nat×Nat))(o:Oper):Option Nat:=match qx o with|some x=>BF X Rt x|none=>ξ
def We:List Oper->List (Nat×Nat)->List (Nat×Nat)
 |[],Rt=>Rt
 |o::r,Rt=>We r (match o.dst with|some d=>(bif xe o then(match rt X Rt o with|some b=>(d,b)::Rt|none=>Rt)else Rt)|none=>Rt)
def WQ(Rt:List (Nat×Nat))(o:Oper):Bool:=match o.dst with
 |some d=>X.L.contains d||Rt.lookup d==(bif xe o then rt X Rt o else ξ)
 |none=>η
def nW:AV->Bool
 |.undef=>η
 |.aM []=>η
 |_=>ι
def as2(Rt:List (Nat×Nat))(sl:List AV):Bool:=Rt.all λp=>nW (sl.getD p.1 .undef)
def wb(Rt:List (Nat×Nat))(o:Oper):Option Nat:=match o.op with|.store ..=>rt X Rt o|_=>ξ
def xT(Rt:List (Nat×Nat))(o:Oper):Bool:=match o.op with
 |.load ..=>(rt X Rt o).isNone
 |.store ..=>(rt X Rt o).isNone
 |.alloc ..|.box ..|.buildSlice ..=>(match o.dst with|some d=>X.O.contains d|none=>ι)
 |_=>rH o
def sX(Rt:List (Nat×Nat))(o:Oper):Bool:=match o.op with
 |.store ..=>(rt X Rt o).isNone
 |_=>wH X o
def A9(Rt:List (Nat×Nat))(Bt:List Nat)(x y:Oper):Bool:=
 (match wb X Rt x with|some b=>rt X Rt y==δ b|none=>ι)||(match x.dst with|some d=>X.L.contains d&&rt X Rt y==δ d|none=>ι)||(sX X Rt x&&((xT X Rt y&&!(soft Bt y&&EC x))||sX X Rt y))
def indep(Rt:List (Nat×Nat))(Bt:List Nat)(ops:Array Oper)(x y:Oper):Bool:=x.apart ops y&&!A9 X Rt Bt x y&&!A9 X Rt Bt y x
def Qs:List Oper->List Nat->List Nat
 |[],acc=>acc
 |o::r,acc=>Qs r (acc++[o.after.toList.foldl (λs e=>bif Xu .any e then s ||| 2 ^ e.on ||| acc.getD e.on 0 else s) 0])
def Qf:List Oper->Nat->Bool
 |[],_=>η
 |o::r,i=>o.after.toList.all (λe=>!Xu .any e||aBL e.on i)&&Qf r (i+1)
def P4(Rt:List (Nat×Nat))(Bt:List Nat)(ops:Array Oper)(MC:List Nat):List Oper->Nat->Bool
 |[],_=>η
 |o::r,i=>(ops.toList.take i).zipIdx.all (λp=>(MC.getD i 0).testBit p.2||indep X Rt Bt ops p.1 o)&&P4 Rt Bt ops MC r (i+1)
def Ph(Rt:List (Nat×Nat))(Bt:List Nat)(ops:Array Oper)(sl:List AV):Bool:=X.P.follows .mixedOrders&&Qf ops.toList 0&&P4 X Rt Bt ops (Qs ops.toList []) ops.toList 0&&ops.toList.all (WQ X Rt)&&as2 Rt sl&&Rt.all (λp=>X.L.contains p.2)&&ops.toList.all (WM Bt)&&Bt.all (λt=>rj (sl.getD t .undef))
def KY(ops:Array Oper)(sl:List AV):Bool:=Ph X (We X ops.toList []) [] ops sl||Ph X (We X ops.toList []) (agy ops.toList (aul ops.toList sl)) ops sl
def gh:Code->List Nat
 |.region _ ops _=>ops.toList.filterMap (·.dst)
 |.seq a b=>gh a++gh b
 |.cond _ a b=>gh a++gh b
 |.block _ c=>gh c
 |.loop c=>gh c
 |_=>[]
def zF(sl:List AV):List Nat->List AV
 |[]=>sl
 |d::r=>zF (sl.set d .undef) r
def IQ(vs:List AV):List AV->List Nat->Nat->List AV
 |sl,d::r,j=>IQ vs (sl.set d (vs.getD j .undef)) r (j+1)
 |sl,[],_=>sl
def vals(sl:List AV)(live:List Nat):List AV:=live.map (sl.getD · .undef)
def AS.meet(s:AS)(mods live:List Nat)(vs:List AV)(σ:Heap):AS:=⟨IQ vs (zF s.sl mods) live 0,λ_=>ξ,σ⟩
def leave(live:List Nat)(e:AX)(s:AS):Option (AX×List AV×Heap):=δ (e,vals s.sl live,s.σ)
def Qn(live:List Nat)(e:AX)(s:AS):Option (List AV×Heap):=match e with|.normal=>δ (vals s.sl live,s.σ)|_=>ξ
def A.sel{R:Type}(e:AX)(k:AX->Option R):List AX->Option R
 |[]=>ξ
 |x::r=>bif e==x then k x else A.sel e k r
def exec:{R:Type}->oM->Code->AS->(AX->AS->Option R)->Option R
 |_,_,.skip,s,k=>k .normal s
 |_,_,.label _,s,k=>k .normal s
 | _, _, .region _ ops draw, s, k => bif draw then (bif KY X ops s.sl then Mq X η ops ops.toList ⟨s.sl, λ_ => ξ, s.σ⟩ λs => k .normal ⟨s.sl, λ_ => ξ, s.σ⟩ else ξ)
   else Mq X ι ops ops.toList s λs=>k .normal ⟨s.sl,λ_=>ξ,s.σ⟩
 |_,.s a b,.seq x y,s,k=>exec a x s λe s=>match e with|.normal=>exec b y s k|e=>k e s
 |_,.c live a b,.cond c x y,s,k=>bif !(live.all λd=>(gh x++gh y++X.L).contains d)then ξ else(Γ (ev X s c) (exec a x s (Qn live)) (exec b y s (Qn live))).bind λr=>force (s.meet (gh x++gh y++X.L) live r.1 r.2).sl λsl=>k .normal ⟨sl,λ_=>ξ,r.2⟩
 |_,.j a b,.cond c x y,s,k=>Γ (ev X s c) (exec a x s k) (exec b y s k)
 |_,.b a,.block id c,s,k=>exec a c s λe s=>match e with|.exit i=>bif i==id then k .normal s else k (.exit i) s|e=>k e s
 |_,.l live xs a,.loop c,s,k=>bif !(live.all λd=>(gh c++X.L).contains d)then ξ else(p7 (λvs σ=>force (s.meet (gh c++X.L) live vs σ).sl λsl=>exec a c ⟨sl,λ_=>ξ,σ⟩ (leave live)) (vals s.sl live) s.σ).bind λr=>A.sel r.1 (λe=>force (s.meet (gh c++X.L) live r.2.1 r.2.2).sl λsl=>k e ⟨sl,λ_=>ξ,r.2.2⟩) xs
 |_,.lc live xs a,.loop c,s,k=>bif !(live.all λd=>(gh c++X.L).contains d)then ξ else A.Ch (λvs σ K=>force (s.meet (gh c++X.L) live vs σ).sl λsl=>exec a c ⟨sl,λ_=>ξ,σ⟩ λe s'=>K (e,vals s'.sl live,s'.σ)) (vals s.sl live) s.σ λr=>A.sel r.1 (λe=>force (s.meet (gh c++X.L) live r.2.1 r.2.2).sl λsl=>k e ⟨sl,λ_=>ξ,r.2.2⟩) xs
 |_,_,.exit id,s,k=>k (.exit id) s
 |_,_,.ret,s,k=>k .ret s
 |_,_,_,_,_=>ξ
def CB(s:AS):List ResultVar->(List AV->Option R)->Option R
 |[],k=>k []
 |.tmp t::r,k=>CB s r λvs=>k (ev X s (.tmp t)::vs)
 |.cell a t::r,k=>(match place X s ξ (.tmp a)with
  |some (b,off)=>((ZE (s.sl.getD b .undef)).bind λcs=>Cj X t off cs).bind λv=>CB s r λvs=>k (v::vs)
  |none=>((χ (ev X s (.tmp a)) s.σ).bind λcs=>Cj X t 0 cs).bind λv=>CB s r λvs=>k (v::vs))
def one:List AV->AV
 |[v]=>v
 |vs=>.aM vs
def A.fin(σ:Heap)(r:AV)(σ':Heap):Option (AV×Heap):=open Classical in
 if σ'=σ then δ (r,σ)else if σ'.take σ.length=σ then(Wr σ' σ.length 8 r).map λr=>(r,σ)else ξ
def A.Bf (es:List (AV×AV)):List (AV×AV):=V7 (p:=λl:List (AV×AV)=>l.Perm es) ⟨es,.refl _⟩
def A.can (x:AV):AV:=match x with
 |.fm es=>open Classical in if IU es then .fm (A.Bf es)else .fm es
 |x=>x
def A.Ei (σ:Heap) (n:Nat) (x:aT):Option aT:=match x with
 |.box cs=>(UC σ n 8 cs).map λcs=>.box (cs.map A.can)
 |.arr g sz es=>(A.ku σ n 8 es).map λes=>.arr g sz (es.map (·.map A.can))
 |.vT g sz es=>(A.ku σ n 8 es).map λes=>.vT g sz (es.map (·.map A.can))
 |.map es=>(A.sw σ n 8 es).map .map
 |.it _ _=>ξ
def A.yC (σ:Heap) (n:Nat):Heap->Heap->Option Heap
 |[],_=>δ []
 |_::_,[]=>ξ
 |b::r,b'::r'=>open Classical in (if b'=b then δ b else A.Ei σ n b').bind λx=>(A.yC σ n r r').map (x::·)
def A.Cs (σ:Heap) (v:AV) (σ':Heap):Option (AV×Heap):=(A.yC σ' σ.length σ σ').bind λτ=>(Wr σ' σ.length 8 v).map λr=>(r,τ)
inductive tO where
 |K
 |F
  |N(f:AV->AV)
  |G
  |R
def A.gen:List AV->Nat
 |[]=>0
 |x::r=>(match x with|.os _ g _ _ len=>g+len|.sl _ es=>es.length|_=>0)+A.gen r
def A.rowsOf:List AV->List (List AV)
 |[]=>[]
 |x::r=>(match x with|.sl _ es=>es|_=>[])++A.rowsOf r
def A.merge(args:List AV)(σ:Heap)(sz:Nat)(seg:List (List AV))(id:Nat)(σ':Heap):Option (AV×Heap):=match args with
 |.os lN _ _ _ _::_=>match σ[lN]? with
  | some (.arr g1 Df Aw) => open Classical in if id = σ.length /\ σ'.length = σ.length + 1 /\ Df = sz /\ g1 < A.gen args + 1 /\ (∀ j, j < σ.length -> j ≠ lN -> σ'[j]? = σ[j]?) /\ σ'[lN]? = δ (.vT g1 Df Aw) /\ (∀ y ∈ seg, y ∈ Aw \/ y ∈ A.rowsOf args) then
    δ (.os lN (A.gen args+1) sz 0 seg.length,σ.set lN (.arr (A.gen args+1) sz seg))else ξ
  |_=>ξ
 |_=>ξ
def A.awO:List AV->Bool
 |.os ..::_=>η
 |_=>ι
def A.renew(args:List AV)(σ:Heap)(v:AV)(σ':Heap):Option (AV×Heap):=match v with
 |.os id g sz off len=>match σ'[id]? with
  | some (.arr g' sz' es) => if g = g' /\ sz = sz' /\ off + len <= es.length /\ g < A.gen args + 1 then
    (if id<σ.length\/A.awO args=ι then δ (.os id (A.gen args+1) sz 0 len,σ'.set id (.arr (A.gen args+1) sz ((es.drop off).take len)))else A.merge args σ sz ((es.drop off).take len) id σ')else ξ
  |_=>ξ
 |.aA=>δ (.aA,σ')
 |.ez=>δ (.ez,σ')
 |.sl sz []=>δ (.sl sz [],σ')
 |_=>ξ
def tO.run(f:tO)(args:List AV)(σ:Heap)(v:AV)(σ':Heap):Option (AV×Heap):=match f with
 |.K=>δ (v,σ')
 |.F=>A.fin σ v σ'
 |.N g=>(A.fin σ v σ').map λp=>(g p.1,p.2)
 |.G=>A.Cs σ v σ'
 |.R=>A.renew args σ v σ'
def tT(fin:tO)(cH:oM)(fn:Func)(args:List AV)(σ:Heap):Option (AV×Heap):=
 match fn.body with
 |some c=>bif !(Nat.ble args.length fn.ntmps&&X.n==fn.ntmps)then ξ else exec X cH c ⟨args++Z5 (fn.ntmps-args.length) (.aM []),λ_=>ξ,σ⟩ λe s=>match e with
  |.exit _=>ξ
  |_=>CB X s fn.results.toList λvs=>fin.run args σ (one vs) s.σ
 |none=>ξ
end
end
end
open AS renaming put->aBR
abbrev bf:oM:=(.s .n .n)
abbrev bG:oM:=(.s .n (.j bf .n))
abbrev dM:oM:=(.j .n .n)
structure Pl where
 b:Nat
 base:Nat
 g:Nat
 sz:Nat
 tX:Nat
structure RC where
 w:World
 E:List Pl
 X:Nat->Prop
 nm:List Nat
def qh(es:Array MapEntry)(aJ:Nat):Prop:=(∀e∈es.toList,e.born<aJ)/\(es.toList.map (·.born)).Nodup
def afL(es:List (AV×AV))(l L:List MapEntry):Prop:=l=L\/(l.Perm L/\IU es)
mutual
def aq(c:RC):AV->Value->Prop
 |.undef,_=>True
 |.int k n,v=>v=.int k n
 |.bool b,v=>v=.bool b
 |.str s,v=>v=.string s
 |.agg cs,v=>∃vs,v=.agg vs/\aR c cs vs.toList/\∀x∈vs.toList,fc x=η
 |.aM cs,v=>∃vs,v=.tuple vs/\aR c cs vs.toList
 |.sl sz es,v=>∃a cap,v=.slice a es.length cap/\es.length<=cap/\0<sz/\(es=[]\/∃b off,a=δ ⟨b,off,ξ⟩/\b<c.w.heap.size/\¬c.X b/\bY c sz b off es)
 |.aA,v=>v=.slice ξ 0 0
 |.ez,v=>∃a,v=.slice a 0 0
 |.rp cs,v=>∃b off,v=.pointer (δ ⟨b,off,ξ⟩)/\b<c.w.heap.size/\¬c.X b/\bT c b off cs
 |.np,v=>v=.pointer ξ
 |.op id off,v=>∃p,c.E[id]? =δ p/\p.g=0/\v=.pointer (δ ⟨p.b,off,ξ⟩)
 |.oe id g i off,v=>0<g/\∃p,c.E[id]? =δ p/\g<=p.g/\∃a,v=.pointer (δ a)/\(g=p.g->a=⟨p.b,p.base+i*p.sz+off,ξ⟩)
 |.os id g sz off len,v=>0<g/\∃p,c.E[id]? =δ p/\g<=p.g/\∃a cap,v=.slice (δ a) len cap/\len<=cap/\(g=p.g->p.sz=sz/\(cap=0\/a=⟨p.b,p.base+off*p.sz,ξ⟩)/\p.base+(off+cap)*p.sz=p.tX)
 |.om id,v=>∃p,c.E[id]? =δ p/\p.g=0/\v=.map (δ p.b)
 |.fm es,v=>∃b,v=.map (δ b)/\b<c.w.heap.size/\¬c.X b/\∃bJ aJ,c.w.heap[b]? =δ (.map bJ aJ)/\qh bJ aJ/\∃l,dD c es l/\afL es l bJ.toList
 |.nm,v=>v=.map ξ
 |.fn n caps,v=>∃f vs,v=.func (.func f) #[] vs/\c.nm.getD f 0=n/\aR c caps vs.toList
 |.ze,v=>v=.nilFunc
 |.lbx _,_=>False
def aR(c:RC):List AV->List Value->Prop
 |[],vs=>vs=[]
 |a::r,vs=>∃v vs',vs=v::vs'/\aq c a v/\aR c r vs'
def dD(c:RC):List (AV×AV)->List MapEntry->Prop
 |[],es=>es=[]
 |(k,v)::r,es=>∃e es',es=e::es'/\aq c k e.key/\aq c v e.val/\dD c r es'
def bT(c:RC)(b:Nat):Nat->List AV->Prop
 |_,[]=>True
 |off,a::r=>(∃v,c.w.cell? ⟨b,off,ξ⟩=δ v/\fc v=η/\aq c a v)/\bT c b (off+1) r
def bY(c:RC)(sz b:Nat):Nat->List (List AV)->Prop
 |_,[]=>True
 |off,e::r=>e.length=sz/\bT c b off e/\bY c sz b (off+sz) r
end
structure Ext (c c' : RC) : Prop where
 size:c.w.heap.size<=c'.w.heap.size
 stay:∀b,b<c.w.heap.size->¬c.X b->c'.w.heap[b]? =c.w.heap[b]? /\¬c'.X b
 env:∀(i:Nat)(p:Pl),c.E[i]? =δ p->∃p':Pl,c'.E[i]? =δ p'/\(p'=p\/(0<p.g/\p.g<p'.g))
 nm:c'.nm=c.nm
theorem cell_of_block{w w':World}{b off:Nat}(h:w'.heap[b]? =w.heap[b]?):w'.cell? ⟨b,off,ξ⟩=w.cell? ⟨b,off,ξ⟩:=by simp [XV,h]
mutual
theorem aq.mono{c c':RC}(h:Ext c c'):∀(a:AV)(v:Value),aq c a v->aq c' a v
 |.undef,_,_=>by simp [aq]
 |.int k n,v,r=>by simpa [aq]using r
 |.bool b,v,r=>by simpa [aq]using r
 |.str s,v,r=>by simpa [aq]using r
 |.agg cs,v,r=>by simp only[aq]at r ⊢;obtain⟨vs,e,r,k⟩:=r;exact⟨vs,e,aR.mono h cs _ r,k⟩
 |.aM cs,v,r=>by simp only[aq]at r ⊢;obtain⟨vs,e,r⟩:=r;exact⟨vs,e,aR.mono h cs _ r⟩
 |.sl sz es,v,r=>by
  simp only[aq]at r ⊢;obtain⟨a,cap,e,h1,h2,r⟩:=r;refine⟨a,cap,e,h1,h2,?_⟩;rcases r with r|⟨b,off,e,hb,hx,r⟩
  ·exact .inl r
  ·exact .inr ⟨b,off,e,vP hb h.size,(h.stay b hb hx).2,bY.mono h sz b (h.stay b hb hx).1 es off r⟩
 |.aA,v,r=>by simpa [aq]using r
 |.ez,v,r=>by simpa [aq]using r
 |.rp cs,v,r=>by simp only[aq]at r ⊢;obtain⟨b,off,e,hb,hx,r⟩:=r;exact⟨b,off,e,vP hb h.size,(h.stay b hb hx).2,bT.mono h b (h.stay b hb hx).1 cs off r⟩
 |.np,v,r=>by simpa [aq]using r
 |.op id off,v,r=>by
  simp only[aq]at r ⊢;obtain⟨p,h1,h2,e⟩:=r;obtain⟨p',h3,h4⟩:=h.env _ _ h1;rcases h4 with rfl|⟨h4,_⟩
  ·exact⟨p',h3,h2,e⟩
  ·omega
 |.oe id g i off,v,r=>by
  simp only[aq]at r ⊢;obtain⟨hg,p,h1,h2,a,e,r⟩:=r;obtain⟨p',h3,h4⟩:=h.env _ _ h1;rcases h4 with rfl|⟨h4,h5⟩
  ·exact⟨hg,p',h3,h2,a,e,r⟩
  ·exact⟨hg,p',h3,by omega,a,e,λk=>by omega⟩
 |.os id g sz off len,v,r=>by
  simp only[aq]at r ⊢;obtain⟨hg,p,h1,h2,a,cap,e,h6,r⟩:=r;obtain⟨p',h3,h4⟩:=h.env _ _ h1;rcases h4 with rfl|⟨h4,h5⟩
  ·exact⟨hg,p',h3,h2,a,cap,e,h6,r⟩
  ·exact⟨hg,p',h3,by omega,a,cap,e,h6,λk=>by omega⟩
 |.om id,v,r=>by
  simp only[aq]at r ⊢;obtain⟨p,h1,h2,e⟩:=r;obtain⟨p',h3,h4⟩:=h.env _ _ h1;rcases h4 with rfl|⟨h4,_⟩
  ·exact⟨p',h3,h2,e⟩
  ·omega
 |.nm,v,r=>by simpa [aq]using r
 |.fm es,v,r=>by simp only[aq]at r ⊢;obtain⟨b,e,hb,hx,bJ,aJ,h1,hw,l,h2,h3⟩:=r;exact⟨b,e,vP hb h.size,(h.stay b hb hx).2,bJ,aJ,(h.stay b hb hx).1.trans h1,hw,l,dD.WB h es _ h2,h3⟩
 |.fn n caps,v,r=>by simp only[aq]at r ⊢;obtain⟨f,vs,e,h1,r⟩:=r;exact⟨f,vs,e,by rw[h.nm];exact h1,aR.mono h caps _ r⟩
 |.ze,v,r=>by simpa [aq]using r
 |.lbx _,v,r=>by simp [aq]at r
theorem dD.WB{c c':RC}(h:Ext c c'):∀(l:List (AV×AV))(es:List MapEntry),dD c l es->dD c' l es
 |[],es,r=>by simpa [dD]using r
 |(k,v)::l,es,r=>by simp only[dD]at r ⊢;obtain⟨e,es',h1,h2,h3,h4⟩:=r;exact⟨e,es',h1,aq.mono h k _ h2,aq.mono h v _ h3,dD.WB h l es' h4⟩
theorem aR.mono{c c':RC}(h:Ext c c'):∀(l:List AV)(vs:List Value),aR c l vs->aR c' l vs
 |[],vs,r=>by simpa [aR]using r
 |a::l,vs,r=>by simp only[aR]at r ⊢;obtain⟨v,vs',e,h1,h2⟩:=r;exact⟨v,vs',e,aq.mono h a v h1,aR.mono h l vs' h2⟩
theorem bT.mono{c c':RC}(h:Ext c c')(b:Nat)(hb:c'.w.heap[b]? =c.w.heap[b]?):∀(l:List AV)(off:Nat),bT c b off l->bT c' b off l
 |[],off,r=>by simp [bT]
 |a::l,off,r=>by simp only[bT]at r ⊢;obtain⟨⟨v,h1,h2,h3⟩,r⟩:=r;exact⟨⟨v,by rw[cell_of_block hb];exact h1,h2,aq.mono h a v h3⟩,bT.mono h b hb l (off+1) r⟩
theorem bY.mono{c c':RC}(h:Ext c c')(sz b:Nat)(hb:c'.w.heap[b]? =c.w.heap[b]?):∀(l:List (List AV))(off:Nat),bY c sz b off l->bY c' sz b off l
 |[],off,r=>by simp [bY]
 |e::l,off,r=>by simp only[bY]at r ⊢;obtain⟨h1,h2,r⟩:=r;exact⟨h1,bT.mono h b hb e off h2,bY.mono h sz b hb l (off+sz) r⟩
end
open aq renaming mono->Tu
open aR renaming mono->Vs
theorem Ext.trans{a b c:RC}(h:Ext a b)(k:Ext b c):Ext a c:=by
 refine⟨X8 h.size k.size,λx hx hn=>?_,λi p hp=>?_,k.nm.trans h.nm⟩
 ·obtain⟨h1,h2⟩:=h.stay x hx hn;obtain⟨h3,h4⟩:=k.stay x (vP hx h.size) h2;exact⟨h3.trans h1,h4⟩
 ·obtain⟨p',h1,h2⟩:=h.env i p hp;obtain⟨p'',h3,h4⟩:=k.env i p' h1;refine⟨p'',h3,?_⟩;rcases h2 with rfl|⟨h2,h5⟩
  ·exact h4
  ·rcases h4 with rfl|⟨h6,h7⟩
   ·exact .inr ⟨h2,h5⟩
   ·exact .inr ⟨h2,by omega⟩
theorem aR.length{c:RC}:∀{l:List AV}{vs:List Value},aR c l vs->l.length=vs.length
 |[],vs,h=>by simp only[aR]at h;subst h;rfl
 |a::l,vs,h=>by simp only[aR]at h;obtain⟨v,vs',rfl,_,h2⟩:=h;simp [aR.length h2]
theorem aR.nth{c:RC}:∀{l:List AV}{vs:List Value}{i:Nat}{a:AV},aR c l vs->l[i]? =δ a->∃v,vs[i]? =δ v/\aq c a v
 |[],vs,i,a,h,k=>by simp at k
 |x::l,vs,0,a,h,k=>by simp only[aR]at h;obtain⟨v,vs',rfl,h1,_⟩:=h;simp at k;subst k;exact⟨v,rfl,h1⟩
 |x::l,vs,i+1,a,h,k=>by simp only[aR]at h;obtain⟨v,vs',rfl,_,h2⟩:=h;simp at k;obtain⟨u,h3,h4⟩:=aR.nth h2 k;exact⟨u,by simpa using h3,h4⟩
theorem aR.append{c:RC}:∀{l m:List AV}{vs us:List Value},aR c l vs->aR c m us->aR c (l++m) (vs++us)
 |[],m,vs,us,h,k=>by simp only[aR]at h;subst h;simpa using k
 |a::l,m,vs,us,h,k=>by simp only[aR]at h;obtain⟨v,vs',rfl,h1,h2⟩:=h;simp only[mq,aR];exact⟨v,_,rfl,h1,h2.append k⟩
theorem aR.take{c:RC}:∀{l:List AV}{vs:List Value}(n:Nat),aR c l vs->aR c (l.take n) (vs.take n)
 |[],vs,n,h=>by simp only[aR]at h;subst h;simp [aR]
 |a::l,vs,0,h=>by simp [aR]
 |a::l,vs,n+1,h=>by simp only[aR]at h;obtain⟨v,vs',rfl,h1,h2⟩:=h;simp only[List.take_succ_cons,aR];exact⟨v,_,rfl,h1,h2.take n⟩
theorem aR.drop{c:RC}:∀{l:List AV}{vs:List Value}(n:Nat),aR c l vs->aR c (l.drop n) (vs.drop n)
 |[],vs,n,h=>by simp only[aR]at h;subst h;simp [aR]
 |a::l,vs,0,h=>by simpa using h
 |a::l,vs,n+1,h=>by simp only[aR]at h;obtain⟨v,vs',rfl,h1,h2⟩:=h;simp only[List.drop_succ_cons];exact h2.drop n
theorem aR.map{c:RC}{α:Type}(f:α->AV)(g:α->Value):∀(l:List α),(∀x∈l,aq c (f x) (g x))->aR c (l.map f) (l.map g)
 |[],_=>by simp [aR]
 |a::l,h=>by simp only[eo,aR];exact⟨_,_,rfl,h a (by simp),aR.map f g l (λx hx=>h x (by simp [hx]))⟩
theorem aR.single{c:RC}{a:AV}{v:Value}(h:aq c a v):aR c [a] [v]:=by simp only[aR];exact⟨v,[],rfl,h,rfl⟩
theorem bT.nth{c:RC}{b:Nat}:∀{l:List AV}{off i:Nat}{a:AV},bT c b off l->l[i]? =δ a->∃v,c.w.cell? ⟨b,off+i,ξ⟩=δ v/\fc v=η/\aq c a v
 |[],off,i,a,h,k=>by simp at k
 |x::l,off,0,a,h,k=>by simp only[bT]at h;simp at k;subst k;exact h.1
 |x::l,off,i+1,a,h,k=>by simp only[bT]at h;simp at k;have:=bT.nth h.2 k;rwa[show off+1+i=off+(i+1) by omega]at this
open bT renaming nth->aCb
theorem bT.of{c:RC}{b:Nat}:∀{l:List AV}{off:Nat},(∀i a,l[i]? =δ a->∃v,c.w.cell? ⟨b,off+i,ξ⟩=δ v/\fc v=η/\aq c a v)->bT c b off l
 |[],off,h=>by simp [bT]
 |x::l,off,h=>by simp only[bT];refine⟨by simpa using h 0 x rfl,bT.of λi a hi=>?_⟩;have:=h (i+1) a (by simpa using hi);rwa[show off+(i+1)=off+1+i by omega]at this
open bT renaming of->aCL
theorem bT.drop{c:RC}{b:Nat}{l:List AV}{off:Nat}(n:Nat)(h:bT c b off l):bT c b (off+n) (l.drop n):=
 aCL λi a hi=>by have:=aCb h (i:=n+i) (a:=a) (by rw[<-hi,YF]);rwa[show off+(n+i)=off+n+i by omega]at this
theorem bT.take{c:RC}{b:Nat}{l:List AV}{off:Nat}(n:Nat)(h:bT c b off l):bT c b off (l.take n):=
 aCL λi a hi=>by
  have:l[i]? =δ a:=by
   rw[aBQ]at hi;split at hi
   ·exact hi
   ·cases hi
  exact aCb h this
theorem bY.nth{c:RC}{sz b:Nat}:∀{l:List (List AV)}{off i:Nat}{e:List AV},bY c sz b off l->l[i]? =δ e->e.length=sz/\bT c b (off+i*sz) e
 |[],off,i,e,h,k=>by simp at k
 |x::l,off,0,e,h,k=>by simp only[bY]at h;simp at k;subst k;exact⟨h.1,by simpa using h.2.1⟩
 |x::l,off,i+1,e,h,k=>by simp only[bY]at h;simp at k;have:=bY.nth h.2.2 k;rwa[show off+sz+i*sz=off+(i+1)*sz by rw[gu];omega]at this
theorem bY.of{c:RC}{sz b:Nat}:∀{l:List (List AV)}{off:Nat},(∀i e,l[i]? =δ e->e.length=sz/\bT c b (off+i*sz) e)->bY c sz b off l
 |[],off,h=>by simp [bY]
 |x::l,off,h=>by simp only[bY];have h0:=h 0 x rfl;simp at h0;refine⟨h0.1,h0.2,bY.of λi e hi=>?_⟩;have:=h (i+1) e (by simpa using hi);rwa[show off+(i+1)*sz=off+sz+i*sz by rw[gu];omega]at this
theorem bY.drop{c:RC}{sz b:Nat}{l:List (List AV)}{off:Nat}(n:Nat)(h:bY c sz b off l):bY c sz b (off+n*sz) (l.drop n):=
 bY.of λi e hi=>by have:=bY.nth h (i:=n+i) (e:=e) (by rw[<-hi,YF]);rwa[show off+(n+i)*sz=off+n*sz+i*sz by rw[gu];omega]at this
theorem bY.take{c:RC}{sz b:Nat}{l:List (List AV)}{off:Nat}(n:Nat)(h:bY c sz b off l):bY c sz b off (l.take n):=
 bY.of λi e hi=>by
  have:l[i]? =δ e:=by
   rw[aBQ]at hi;split at hi
   ·exact hi
   ·cases hi
  exact bY.nth h this
def LN(w:World)(free:Nat->Prop):Prop:=True
theorem LN.to{w w':World}{free free':Nat->Prop}(h:LN w free)(hs:w.heap.size<=w'.heap.size)(hk:∀b,b<w.heap.size->¬free b->w'.heap[b]? =w.heap[b]?)(hf:∀b,b<w.heap.size->free' b->free b):LN w' free':=trivial
section
open Go.RowKit
def B9(c:RC)(b:Nat)(cs:List AV):Prop:=(∃arr t,c.w.heap[b]? =δ (.cells arr t (0,0))/\arr.size=cs.length)/\bT c b 0 cs
def WO(c:RC)(b:Nat):Prop:=∀arr t fz,c.w.heap[b]? =δ (.cells arr t fz)->∀x∈arr.toList,fc x=η
def avo(c:RC)(b:Nat)(cur left:List (AV×AV)):Prop:=(cur=[]/\left=[]/\∃since seen last,c.w.heap[b]? =δ (.mapIter ξ since seen last))\/ ∃m seen bJ aJ,c.w.heap[b]? =δ (.mapIter (δ m) aJ seen aJ)/\m<c.w.heap.size/\¬c.X m/\c.w.heap[m]? =δ (.map bJ aJ)/\qh bJ aJ/\(∃l,dD c left l/\l.Perm (bJ.toList.filter λe=>!seen.contains e.born))/\ (cur=[]\/∃k v e,cur=[(k,v)]/\seen.back? =δ e.born/\e∈bJ.toList/\aq c k e.key/\aq c v e.val)
def rT(c:RC)(p:Pl):aT->Prop
 |.box cs=>p.g=0/\B9 c p.b cs
 |.arr g sz es=>p.g=g/\0<g/\p.sz=sz/\0<sz/\(∃arr t,c.w.heap[p.b]? =δ (.cells arr t (0,0))/\arr.size=p.tX)/\p.base+es.length*sz<=p.tX/\bY c sz p.b p.base es/\WO c p.b
 |.vT g sz es=>p.g=g/\0<g/\p.sz=sz/\0<sz/\(∃arr t,c.w.heap[p.b]? =δ (.cells arr t (0,0))/\arr.size=p.tX)/\p.base+es.length*sz=p.tX/\bY c sz p.b p.base es/\WO c p.b
 |.map es=>p.g=0/\∃bJ aJ,c.w.heap[p.b]? =δ (.map bJ aJ)/\qh bJ aJ/\dD c es bJ.toList
 |.it cur left=>p.g=0/\avo c p.b cur left
structure jA (c : RC) (σ : Heap) : Prop where
 len:c.E.length=σ.length
 inj:∀(i j:Nat)(p q:Pl),c.E[i]? =δ p->c.E[j]? =δ q->p.b=q.b->i=j
 blk:∀(i:Nat)(p:Pl)(x:aT),c.E[i]? =δ p->σ[i]? =δ x->rT c p x
structure Z where
 w:World
 E:List Pl
 X:Nat->Prop
 nm:List Nat
def ctx(z:Z)(w:World)(E:List Pl)(pb:Nat->Option Nat):RC:=⟨w,E,λb=>z.X b\/(∃p∈E,p.b=b)\/∃i,pb i=δ b,z.nm⟩
def avl(z:Z)(b:Nat):Prop:=z.X b\/∃p∈z.E,p.b=b
structure yS (z : Z) : Prop where
 f:∀b,z.X b->b<z.w.heap.size
 tab:LN z.w (avl z)
instance {z : Z} : CoeFun (yS z) (λ_ => ∀ b, z.X b -> b < z.w.heap.size) := ⟨yS.f⟩
theorem yS.none{z:Z}(h:yS z){nm:List Nat}:yS ⟨z.w,[],λ_=>False,nm⟩:=
 ⟨λ_(k:False)=>k.elim,h.tab.to (bF _) (λ_ _ _=>rfl) λb _ k=>by rcases k with k|⟨p,hp,_⟩;exact(show False from k).elim;cases hp⟩
structure Out (z : Z) (w : World) (E : List Pl) : Prop where
 os:w.os=z.w.os
 tape:w.tape=z.w.tape
 output:w.output=z.w.output
 size:z.w.heap.size<=w.heap.size
 stay:∀b,b<z.w.heap.size->(∀p∈z.E,p.b≠b)->w.heap[b]? =z.w.heap[b]?
 fresh':∀(i:Nat)(p:Pl),E[i]? =δ p->z.w.heap.size<=p.b\/∃q:Pl,z.E[i]? =δ q/\q.b=p.b
 env:∀(i:Nat)(p:Pl),z.E[i]? =δ p->∃p':Pl,E[i]? =δ p'/\(p'=p\/(0<p.g/\p.g<p'.g))
 lt:yS z
 mine:∀p∈z.E,p.b<z.w.heap.size
theorem Out.fresh{z:Z}{w:World}{E:List Pl}(h:Out z w E)(p:Pl)(hp:p∈E):z.w.heap.size<=p.b\/∃q∈z.E,q.b=p.b:=by
 obtain⟨i,hi,rfl⟩:=X4.1 hp;rcases h.fresh' i E[i] (by simp [hi])with k|⟨q,hq,k⟩
 ·exact .inl k
 ·exact .inr ⟨q,cE hq,k⟩
def Slot(c:RC)(pb:Nat->Option Nat)(i:Nat)(av:AV)(v:Value):Prop:=match av with
 |.lbx cs=>∃b,pb i=δ b/\v=.pointer (δ ⟨b,0,ξ⟩)/\B9 c b cs
 |av=>aq c av v
def tN(a:Act):Option (Nat×Bool)->Prop
 |none=>True
 |some (g,want)=>a.tmps.getD g undef=.bool want
structure St (X : Fx) (z : Z) (s : AS) (a : Act) (w : World) (E : List Pl) (pb : Nat -> Option Nat) : Prop where
 len:a.tmps.size=s.sl.length
 tP:s.sl.length=X.n
 slot:∀i av,s.sl[i]? =δ av->Slot (ctx z w E pb) pb i av (a.tmps.getD i undef)
 box:∀i cs,s.sl[i]? =δ (.lbx cs)->X.L.contains i=η
 oN:∀t p,s.A t=δ p->tN a p.tag->∃b,pb p.slot=δ b/\a.tmps.getD t undef=.pointer (δ ⟨b,p.off,ξ⟩)
 priv:∀i b,pb i=δ b->z.w.heap.size<=b/\b<w.heap.size/\∀p∈E,p.b≠b
 inj:∀i j b,pb i=δ b->pb j=δ b->i=j
 heap:jA (ctx z w E pb) s.σ
 defers:a.defers=[]
 out:Out z w E
 nm:X.nm=z.nm
theorem B9.mono{c c':RC}(h:Ext c c'){b:Nat}{cs:List AV}(hb:c'.w.heap[b]? =c.w.heap[b]?)(k:B9 c b cs):B9 c' b cs:=
 ⟨by rw[hb];exact k.1,bT.mono h b hb cs 0 k.2⟩
theorem dD.mono{c c':RC}(h:Ext c c'){l:List (AV×AV)}{es:List MapEntry}(r:dD c l es):dD c' l es:=dD.WB h l es r
theorem DJ{c:RC}{b:Nat}{arr:Array Value}{t:TypeId}{fz:Nat×Nat}(h:c.w.heap[b]? =δ (.cells arr t fz))(ho:∀x∈arr.toList,fc x=η):WO c b:=λEb t' fz' e=>by rw[h]at e;injection e with e;injection e with e1;subst e1;exact ho
theorem rT.mono{c c':RC}(h:Ext c c'){p:Pl}{x:aT}(hb:c'.w.heap[p.b]? =c.w.heap[p.b]?)(k:rT c p x):rT c' p x:=by
 cases x with
 |box cs=>exact⟨k.1,k.2.mono h hb⟩
 |arr g sz es=>obtain⟨h1,h2,h3,h4,h5,h6,h7,h8⟩:=k;exact⟨h1,h2,h3,h4,by rw[hb];exact h5,h6,bY.mono h sz _ hb es _ h7,λarr t fz e=>h8 arr t fz (hb▸e)⟩
 |vT g sz es=>obtain⟨h1,h2,h3,h4,h5,h6,h7,h8⟩:=k;exact⟨h1,h2,h3,h4,by rw[hb];exact h5,h6,bY.mono h sz _ hb es _ h7,λarr t fz e=>h8 arr t fz (hb▸e)⟩
 |map es=>obtain⟨h1,bJ,aJ,h2,hw,h3⟩:=k;exact⟨h1,bJ,aJ,by rw[hb];exact h2,hw,h3.mono h⟩
 |it cur left=>
  obtain⟨h1,h2⟩:=k;refine⟨h1,?_⟩;rcases h2 with⟨h2,h2',since,seen,last,h3⟩|⟨m,seen,bJ,aJ,h3,h4,h5,h6,h7,h8,h9⟩
  ·exact .inl ⟨h2,h2',since,seen,last,by rw[hb];exact h3⟩
  ·refine .inr ⟨m,seen,bJ,aJ,by rw[hb];exact h3,vP h4 h.size,(h.stay m h4 h5).2,by rw[(h.stay m h4 h5).1];exact h6,h7,h8.imp λ_ q=>⟨q.1.mono h,q.2⟩,?_⟩;rcases h9 with h9|⟨k,v,e,e1,e2,e3,e4,e5⟩
   ·exact .inl h9
   ·exact .inr ⟨k,v,e,e1,e2,e3,Tu h _ _ e4,Tu h _ _ e5⟩
theorem rT.lt{c:RC}{p:Pl}{x:aT}(k:rT c p x):p.b<c.w.heap.size:=by
 have key:∀o,c.w.heap[p.b]? =δ o->p.b<c.w.heap.size:=λo ho=>(lT.1 ho).1
 cases x with
 |box cs=>obtain⟨_,⟨⟨arr,t,h,_⟩,_⟩⟩:=k;exact key _ h
 |arr g sz es=>obtain⟨_,_,_,_,⟨arr,t,h,_⟩,_⟩:=k;exact key _ h
 |vT g sz es=>obtain⟨_,_,_,_,⟨arr,t,h,_⟩,_⟩:=k;exact key _ h
 |map es=>obtain⟨_,bJ,aJ,h,_⟩:=k;exact key _ h
 |it cur left=>obtain⟨_,⟨_,_,_,_,_,h⟩|⟨_,_,_,_,h,_⟩⟩:=k<;>exact key _ h
theorem jA.lt{c:RC}{σ:Heap}(h:jA c σ){p:Pl}(hp:p∈c.E):p.b<c.w.heap.size:=by
 obtain⟨i,hi,rfl⟩:=X4.1 hp;have hs:i<σ.length:=by rw[<-h.len];exact hi
 exact(h.blk i _ σ[i] (by simp [hi]) (by simp [hs])).lt
theorem jA.mono{c c':RC}{σ:Heap}(h:jA c σ)(hx:Ext c c')(hE:c'.E=c.E)(hb:∀p∈c.E,c'.w.heap[p.b]? =c.w.heap[p.b]?):jA c' σ:=by refine⟨by rw[hE];exact h.len,by rw[hE];exact h.inj,λi p x hi dB=>?_⟩;rw[hE]at hi;exact(h.blk i p x hi dB).mono hx (hb p (cE hi))
theorem Slot.rep{c:RC}{pb:Nat->Option Nat}{i:Nat}{av:AV}{v:Value}(h:Slot c pb i av v)(k:∀cs,av≠.lbx cs):aq c av v:=by cases av<;>first|exact h|exact absurd rfl (k _)
theorem Slot.of{c:RC}{pb:Nat->Option Nat}{i:Nat}{av:AV}{v:Value}(h:aq c av v):Slot c pb i av v:=by cases av<;>first|exact h|(simp [aq]at h)
section
variable {X : Fx} {z : Z} {s : AS} {a : Act} {w w' : World} {E : List Pl} {pb : Nat -> Option Nat}
theorem St.ext(h:St X z s a w E pb){E':List Pl}{cL:Nat->Option Nat}{σ':Heap}(hx:Ext (ctx z w E pb) (ctx z w' E' cL))
  (hp:∀i b,pb i=δ b->cL i=δ b/\w'.heap[b]? =w.heap[b]?) (au8:∀i b,cL i=δ b->z.w.heap.size<=b/\b<w'.heap.size/\∀p∈E',p.b≠b)
  (hinj:∀i j b,cL i=δ b->cL j=δ b->i=j) (hh:jA (ctx z w' E' cL) σ') (ho:Out z w' E'):St X z (s.heap σ') a w' E' cL:=by
 refine⟨h.len,h.tP,λi av hi=>?_,h.box,λt p hp' ht=>?_,au8,hinj,hh,h.defers,ho,h.nm⟩
 ·have k:=h.slot i av hi;cases av with
  |lbx cs=>obtain⟨b,h1,h2,h3⟩:=k;exact⟨b,(hp i b h1).1,h2,h3.mono hx (hp i b h1).2⟩
  |_=>exact Tu hx _ _ k
 ·obtain⟨b,h1,h2⟩:=h.oN t p hp' ht;exact⟨b,(hp _ b h1).1,h2⟩
theorem yl(g:Below w.heap.size w w'):Ext (ctx z w E pb) (ctx z w' E pb):=
 ⟨g.size,λb hb hX=>⟨g.block b hb,hX⟩,λi p h=>⟨p,h,.inl rfl⟩,rfl⟩
theorem Out.grow(h:Out z w E)(g:Below w.heap.size w w'):Out z w' E:=
 ⟨g.os.trans h.os,g.tape.trans h.tape,g.output.trans h.output,X8 h.size g.size,λb hb hp=>(g.block b (vP hb h.size)).trans (h.stay b hb hp),h.fresh',h.env,h.lt,h.mine⟩
theorem St.grow(h:St X z s a w E pb)(g:Below w.heap.size w w'):St X z s a w' E pb:=by
 have hx:Ext (ctx z w E pb) (ctx z w' E pb):=yl g
 exact h.ext (σ':=s.σ) hx (λi b hb=>⟨hb,g.block b (h.priv i b hb).2.1⟩) (λi b hb=>⟨(h.priv i b hb).1,vP (h.priv i b hb).2.1 g.size,(h.priv i b hb).2.2⟩) h.inj
  (h.heap.mono hx rfl λp hp=>g.block _ (h.heap.lt hp)) (h.out.grow g)
theorem St.fresh(h:St X z s a w E pb):¬(ctx z w E pb).X w.heap.size:=by
 rintro(h1|⟨p,hp,e⟩|⟨i,hi⟩)
 ·have:=h.out.lt _ h1;have:=h.out.size;omega
 ·have:=h.heap.lt hp;simp only[ctx]at this;omega
 ·have:=(h.priv i _ hi).2.1;omega
theorem Ip(l:Array Value)(d i:Nat)(v:Value):(l.setIfInBounds d v).getD i undef=if i=d/\d<l.size then v else l.getD i undef:=by
 by_cases h:d=i
 ·subst h;by_cases hd:d<l.size
  ·simp [aCc,hd]
  ·simp [aCc,hd]
 ·have h':¬i=d:=λe=>h e.symm
  simp [ql,Wl h,h']
theorem abo{d:Nat}{o:Option xA}{p:xA}(h:qR d o=δ p):o=δ p/\∀g w,p.tag=δ (g,w)->g≠d:=by
 cases o with
 |none=>simp [qR]at h
 |some q=>
  simp only[qR]at h;cases hq:q.tag with
  |none=>rw[hq]at h;simp at h;subst h;exact⟨rfl,λg w e=>by rw[hq]at e;cases e⟩
  |some gw=>
   obtain⟨g,w⟩:=gw;rw[hq]at h;simp only at h;by_cases e:g=d
   ·simp [e]at h
   ·have:(g==d)=ι:=by simpa using e
    rw[this]at h;simp at h;subst h;exact⟨rfl,λg' w' e'=>by rw[hq]at e';injection e' with e';injection e' with e1 e2;subst e1;exact e⟩
theorem aAY{d:Nat}{v:Value}{tag:Option (Nat×Bool)}(h:∀g w,tag=δ (g,w)->g≠d)(k:tN (a.put (δ d) v) tag):tN a tag:=by
 cases tag with
 |none=>trivial
 |some gw=>obtain⟨g,want⟩:=gw;have hg:=h g want rfl;simp only[tN,aB6]at k ⊢;rw[Ip]at k;rwa[aL (λe=>hg e.1)]at k
theorem St.put(h:St X z s a w E pb)(d:Option Nat){av:AV}{v:Value}(hr:aq (ctx z w E pb) av v):St X z (s.put X d av) (a.put d v) w E pb:=by
 cases d with
 |none=>exact h
 |some d=>
  refine⟨by simp [aBR,aB6,h.len],by simp [aBR,h.tP],λi x hi=>?_,λi cs hi=>?_,λt p hp ht=>?_,h.priv,h.inj,h.heap,h.defers,h.out,h.nm⟩
  ·simp only[aBR,aB6]at hi ⊢;rw[Ip];rw[jm]at hi;by_cases e:d=i
   ·subst e;rw[aO rfl]at hi;by_cases hd:d<s.sl.length
    ·rw[aO hd]at hi;rw[aO ⟨rfl,by rw[h.len];exact hd⟩];injection hi with hi
     subst hi;cases X.L.contains d
     ·exact Slot.of hr
     ·exact trivial
    ·rw[aL hd]at hi;cases hi
   ·rw[aL e]at hi;rw[aL (λk=>e k.1.symm)];exact h.slot i x hi
  ·simp only[aBR]at hi;rw[jm]at hi;by_cases e:d=i
   ·subst e;rw[aO rfl]at hi;split at hi
    ·injection hi with hi
     cases hL:X.L.contains d
     ·rw[hL]at hi;simp at hi;subst hi;simp [aq]at hr
     ·rfl
    ·cases hi
   ·rw[aL e]at hi;exact h.box i cs hi
  ·simp only[aBR]at hp;by_cases e:t=d
   ·subst e;simp at hp
   ·have:(t==d)=ι:=by simpa using e
    rw[this]at hp;simp at hp;obtain⟨hp,hg⟩:=abo hp;obtain⟨b,h1,h2⟩:=h.oN t p hp (aAY hg ht);refine⟨b,h1,?_⟩;simp only[aB6];rw[Ip,aL (λk=>e k.1)];exact h2
theorem St.WT(h:St X z s a w E pb)(d:Option Nat){sl off:Nat}{tag:Option (Nat×Bool)}{v:Value}(hv:tN a tag->∃b,pb sl=δ b/\v=.pointer (δ ⟨b,off,ξ⟩)):
  St X z (s.oN X d sl off tag) (a.put d v) w E pb:=by
 cases d with
 |none=>exact h
 |some d=>
  have hput:=h.put (δ d) (av:=.undef) (v:=v) (by simp [aq])
  have nH:(s.put X (δ d) .undef).sl=(s.oN X (δ d) sl off tag).sl:=by simp only[aBR,AS.oN];cases X.L.contains d<;>rfl
  refine⟨by rw[<-nH];exact hput.len,by rw[<-nH];exact hput.tP,by rw[<-nH];exact hput.slot,by rw[<-nH];exact hput.box,λt p hp ht=>?_,h.priv,h.inj,h.heap,h.defers,h.out,h.nm⟩;by_cases e:t=d
  ·subst e;simp only[AS.oN]at hp;simp only[beq_self_eq_true,cA]at hp;cases hL:(X.L.contains t||!aBL t X.n)
   ·rw[hL]at hp;simp only[bK]at hp
    have hlt:t<a.tmps.size:=by rw[h.len,h.tP];simp only[oG,aCd]at hL;exact Nat.blt_eq.mp hL.2
    have key:p.slot=sl/\p.off=off/\tN a tag:=by
     cases tag with
     |none=>simp at hp;subst hp;exact⟨rfl,rfl,trivial⟩
     |some gw=>
      obtain⟨g,want⟩:=gw;simp only at hp;by_cases eg:g=t
      ·subst eg;simp at hp
      ·have:(g==t)=ι:=by simpa using eg
       rw[this]at hp;simp at hp;subst hp;exact⟨rfl,rfl,aAY (d:=t) (v:=v) (λg' w' e'=>by injection e' with e';injection e' with e1;subst e1;exact eg) ht⟩
    obtain⟨k1,k2,k3⟩:=key;obtain⟨b,h1,h2⟩:=hv k3;refine⟨b,by rw[k1];exact h1,?_⟩;simp only[aB6];rw[Ip,aO ⟨rfl,hlt⟩,k2];exact h2
   ·rw[hL]at hp;simp at hp
  ·have hp':(s.put X (δ d) .undef).A t=δ p:=by
    simp only[AS.oN]at hp;simp only[aBR];have:(t==d)=ι:=by simpa using e
    rw[this]at hp ⊢;exact hp
   exact hput.oN t p hp' ht
def _root_.Go.World.eW(w:World)(b:Nat)(o:Obj):World:={w with heap:=w.heap.setIfInBounds b o}
theorem adj(b k:Nat)(o:Obj):(w.eW b o).heap[k]? =if b=k/\b<w.heap.size then δ o else w.heap[k]? :=by
 simp only[World.eW,Uw];by_cases h:b=k
 ·subst h;by_cases hb:b<w.heap.size
  ·simp [hb]
  ·simp [hb]
 ·simp [h]
theorem vw{b:Nat}(o:Obj)(hb:b<w.heap.size):(w.eW b o).heap[b]? =δ o:=by rw[adj,aO ⟨rfl,hb⟩]
theorem wI{b k:Nat}(o:Obj)(h:b≠k):(w.eW b o).heap[k]? =w.heap[k]? :=by rw[adj,aL (λe=>h e.1)]
theorem yj(b:Nat)(o:Obj):(w.eW b o).heap.size=w.heap.size:=by simp [World.eW]
theorem Vx{b:Nat}{o:Obj}(hX:(ctx z w E pb).X b):Ext (ctx z w E pb) (ctx z (w.eW b o) E pb):=
 ⟨by simp [ctx,yj],λk hk hn=>⟨wI o (λe=>hn (e▸hX)),hn⟩,λi p h=>⟨p,h,.inl rfl⟩,rfl⟩
theorem AK{w:World}{b off:Nat}{arr:Array Value}{t:TypeId}{fz:Nat×Nat}(h:w.heap[b]? =δ (.cells arr t fz)):w.cell? ⟨b,off,ξ⟩=arr[off]? :=by simp [XV,h]
theorem bT.BA{c:RC}{b:Nat}{arr:Array Value}{t:TypeId}{fz:Nat×Nat}(h:c.w.heap[b]? =δ (.cells arr t fz)){cs:List AV}{off:Nat}{vs:List Value}
  (hr:aR c cs vs) (ho:∀x∈vs,fc x=η) (hv:∀i,i<vs.length->arr[off+i]? =vs[i]?):bT c b off cs:=by
 refine aCL λi a hi=>?_
 obtain⟨v,h1,h2⟩:=hr.nth hi;have hl:i<vs.length:=(bD.1 h1).1;exact⟨v,by rw[AK h,hv i hl,h1],ho v (cE h1),h2⟩
theorem bT.Np{c:RC}{b:Nat}:∀{cs:List AV}{off:Nat},bT c b off cs->∃vs,aR c cs vs/\(∀x∈vs,fc x=η)/\∀j v,vs[j]? =δ v->c.w.cell? ⟨b,off+j,ξ⟩=δ v
 |[],off,_=>⟨[],by simp [aR],by simp,by simp⟩
 |x::l,off,h=>by
  simp only[bT]at h;obtain⟨⟨v,h1,h2,h3⟩,h4⟩:=h;obtain⟨vs,k1,k2,k3⟩:=bT.Np h4;refine⟨v::vs,by simp only[aR];exact⟨v,vs,rfl,h3,k1⟩,by simpa [h2]using k2,λj u hj=>?_⟩;cases j with
  |zero=>simp at hj;subst hj;exact h1
  |succ j=>simp at hj;have:=k3 j u hj;rwa[show off+1+j=off+(j+1) by omega]at this
theorem St.qW(h:St X z s a w E pb)(d:Nat)(hL:X.L.contains d=η){cs:List AV}{vs:List Value}(t:TypeId)(hr:aR (ctx z w E pb) cs vs)(ho:∀x∈vs,fc x=η):
  ∃cL,St X z (s.qW d cs) (a.put (δ d) (.pointer (δ ⟨w.heap.size,0,ξ⟩))) (w.alloc (.cells vs.toArray t)) E cL:=by
 have g:Below w.heap.size w (w.alloc (.cells vs.toArray t)):=(Below.refl _ _).alloc (bF _) _;have h1:=h.grow g;obtain⟨cL,XU⟩:∃cL:Nat->Option Nat,cL=λi=>if i=d then δ w.heap.size else pb i:=⟨_,rfl⟩
 have e1:∀i,i≠d->cL i=pb i:=λi hi=>by rw[XU];simp [hi]
 have e2:cL d=δ w.heap.size:=by rw[XU];simp
 clear XU
 have hx:Ext (ctx z w E pb) (ctx z (w.alloc (.cells vs.toArray t)) E cL):=by
  refine⟨g.size,λb hb hn=>⟨g.block b hb,?_⟩,λi p h=>⟨p,h,.inl rfl⟩,rfl⟩;rintro(k|k|⟨i,k⟩)
  ·exact hn (.inl k)
  ·exact hn (.inr (.inl k))
  ·by_cases e:i=d
   ·subst e;rw[e2]at k;injection k with k;simp [ctx]at hb;omega
   ·rw[e1 i e]at k;exact hn (.inr (.inr ⟨i,k⟩))
 have kQ:B9 (ctx z (w.alloc (.cells vs.toArray t)) E cL) w.heap.size cs:=by have hb:(w.alloc (.cells vs.toArray t)).heap[w.heap.size]? =δ (.cells vs.toArray t (0,0)):=(Wu w _).1;exact⟨⟨vs.toArray,t,hb,by simp [hr.length]⟩,bT.BA hb (Vs hx _ _ hr) ho (λi hi=>by simp)⟩
 refine⟨cL,by simp [AS.qW,aB6,h.len],by simp [AS.qW,h.tP],λi x hi=>?_,λi cs' hi=>?_,λt' p hp ht=>?_,λi b hb=>?_,λi j b hi hj=>?_,h.heap.mono hx rfl λp hp=>g.block _ (h.heap.lt hp),h.defers,h.out.grow g,h.nm⟩
 ·simp only[AS.qW,aB6]at hi ⊢;rw[Ip];rw[jm]at hi;by_cases e:d=i
  ·subst e;rw[aO rfl]at hi;by_cases hd:d<s.sl.length
   ·rw[aO hd]at hi;rw[aO ⟨rfl,by rw[h.len];exact hd⟩];injection hi with hi
    subst hi;exact⟨_,e2,rfl,kQ⟩
   ·rw[aL hd]at hi;cases hi
  ·rw[aL e]at hi;rw[aL (λk=>e k.1.symm)];have k:=h.slot i x hi;cases x with
   |lbx cs'=>obtain⟨b,k1,k2,k3⟩:=k;exact⟨b,by rw[e1 i (λe'=>e e'.symm)];exact k1,k2,k3.mono hx (g.block b (h.priv i b k1).2.1)⟩
   |_=>exact Tu hx _ _ k
 ·simp only[AS.qW]at hi;rw[jm]at hi;by_cases e:d=i
  ·subst e;exact hL
  ·rw[aL e]at hi;exact h.box i cs' hi
 ·simp only[AS.qW]at hp;by_cases e:t'=d
  ·subst e;simp at hp
  ·have:(t'==d)=ι:=by simpa using e
   rw[this]at hp;simp only[bK]at hp;cases hk:qR d (s.A t')with
   |none=>rw[hk]at hp;simp at hp
   |some q=>
    rw[hk]at hp;simp only at hp;by_cases eq:q.slot=d
    ·simp [eq]at hp
    ·have:(q.slot==d)=ι:=by simpa using eq
     rw[this]at hp;simp at hp;subst hp;obtain⟨hp,hg⟩:=abo hk;obtain⟨b,k1,k2⟩:=h.oN t' q hp (aAY hg ht);refine⟨b,by rw[e1 _ eq];exact k1,?_⟩;simp only[aB6];rw[Ip,aL (λk=>e k.1)];exact k2
 ·by_cases e:i=d
  ·subst e;rw[e2]at hb;injection hb with hb;subst hb
   exact⟨h.out.size,by simp,λp hp=>by have:=h.heap.lt hp;simp only[ctx]at this;omega⟩
  ·rw[e1 i e]at hb;exact⟨(h.priv i b hb).1,by have:=(h.priv i b hb).2.1;simp;omega,(h.priv i b hb).2.2⟩
 ·by_cases ei:i=d
  ·by_cases ej:j=d
   ·rw[ei,ej]
   ·subst ei;rw[e2]at hi;rw[e1 j ej]at hj;injection hi with hi;have:=(h.priv j b hj).2.1;omega
  ·by_cases ej:j=d
   ·subst ej;rw[e2]at hj;rw[e1 i ei]at hi;injection hj with hj;have:=(h.priv i b hi).2.1;omega
   ·rw[e1 i ei]at hi;rw[e1 j ej]at hj;exact h.inj i j b hi hj
theorem St.aui(h:St X z s a w E pb){i b:Nat}(hb:pb i=δ b)(hi:∃cs0,s.sl[i]? =δ (.lbx cs0)){cs:List AV}{arr:Array Value}{t:TypeId}
  (hr:aR (ctx z w E pb) cs arr.toList) (ho:∀x∈arr.toList,fc x=η):St X z ⟨s.sl.set i (.lbx cs),s.A,s.σ⟩ a (w.eW b (.cells arr t (0,0))) E pb:=by
 have hlt:=(h.priv i b hb).2.1;have hX:(ctx z w E pb).X b:=.inr (.inr ⟨i,hb⟩);have hx:Ext (ctx z w E pb) (ctx z (w.eW b (.cells arr t (0,0))) E pb):=Vx hX
 have kQ:B9 (ctx z (w.eW b (.cells arr t (0,0))) E pb) b cs:=by have hh:=vw (w:=w) (.cells arr t (0,0)) hlt;exact⟨⟨arr,t,hh,by have:=hr.length;simpa using this.symm⟩,bT.BA hh (Vs hx _ _ hr) ho (λj hj=>by simp)⟩
 have atK:∀p∈E,(w.eW b (.cells arr t (0,0))).heap[p.b]? =w.heap[p.b]? :=λp hp=>wI _ (λe=>(h.priv i b hb).2.2 p hp e.symm)
 obtain⟨cs0,hi⟩:=hi;have hil:i<s.sl.length:=(bD.1 hi).1;refine⟨by simp [h.len],by simp [h.tP],λj x hj=>?_,λj cs' hj=>?_,h.oN,λj b' hj=>⟨(h.priv j b' hj).1,by rw[yj];exact(h.priv j b' hj).2.1,(h.priv j b' hj).2.2⟩,h.inj,h.heap.mono hx rfl atK,h.defers,?_,h.nm⟩
 ·simp only at hj;rw[jm]at hj;by_cases e:i=j
  ·subst e;rw[aO rfl,aO hil]at hj;injection hj with hj;subst hj
   have k:=h.slot i _ hi;obtain⟨b',k1,k2,_⟩:=k;rw[hb]at k1;injection k1 with k1;subst k1
   exact⟨b,hb,k2,kQ⟩
  ·rw[aL e]at hj;have k:=h.slot j x hj;cases x with
   |lbx cs'=>obtain⟨b',k1,k2,k3⟩:=k;exact⟨b',k1,k2,k3.mono hx (wI _ (λe'=>e (h.inj i j b hb (e'▸k1))))⟩
   |_=>exact Tu hx _ _ k
 ·simp only at hj;rw[jm]at hj;by_cases e:i=j
  ·subst e;exact h.box i cs0 hi
  ·rw[aL e]at hj;exact h.box j cs' hj
 ·have o:=h.out;exact⟨o.os,o.tape,o.output,by rw[yj];exact o.size,λk hk hp=>by rw[wI _ (by have:=(h.priv i b hb).1;omega)];exact o.stay k hk hp,o.fresh',o.env,o.lt,o.mine⟩
theorem St.B5(h:St X z s a w E pb)(o:Obj)(blk:aT)(p:Pl)(hp:p.b=w.heap.size)
  (hk:Ext (ctx z w E pb) (ctx z (w.alloc o) (E++[p]) pb)->rT (ctx z (w.alloc o) (E++[p]) pb) p blk):St X z (s.heap (s.σ++[blk])) a (w.alloc o) (E++[p]) pb:=by
 have g:Below w.heap.size w (w.alloc o):=(Below.refl _ _).alloc (bF _) _
 have hx:Ext (ctx z w E pb) (ctx z (w.alloc o) (E++[p]) pb):=by
  refine⟨g.size,λb hb hn=>⟨g.block b hb,?_⟩,λi q hq=>⟨q,?_,.inl rfl⟩,rfl⟩
  ·rintro(k|⟨q,hq,k⟩|k)
   ·exact hn (.inl k)
   ·rcases jJ.1 hq with hq|hq
    ·exact hn (.inr (.inl ⟨q,hq,k⟩))
    ·simp at hq;subst hq;simp [ctx]at hb;omega
   ·exact hn (.inr (.inr k))
  ·simp only[ctx]at hq ⊢;rw[iG (bD.1 hq).1];exact hq
 have hlen:=h.heap.len;simp only[ctx]at hlen;refine h.ext hx (λi b hb=>⟨hb,g.block b (h.priv i b hb).2.1⟩) (λi b hb=>⟨(h.priv i b hb).1,by have:=(h.priv i b hb).2.1;simp;omega,λq hq=>?_⟩) h.inj ⟨by simp [ctx,hlen],λi j q r hq hr he=>?_,λi q x hq dB=>?_⟩ ?_
 ·rcases jJ.1 hq with hq|hq
  ·exact(h.priv i b hb).2.2 q hq
  ·simp at hq;subst hq;have:=(h.priv i b hb).2.1;omega
 ·simp only[ctx]at hq hr
  have key:∀(i:Nat)(q:Pl),(E++[p])[i]? =δ q->(i<E.length/\E[i]? =δ q)\/(i=E.length/\q=p):=λi q hq=>by
   by_cases hi:i<E.length
   ·rw[iG hi]at hq;exact .inl ⟨hi,hq⟩
   ·rw[iz (by omega)]at hq
    have:i-E.length=0:=by
     rcases Nat.eq_zero_or_pos (i-E.length)with e|e
     ·exact e
     ·rw[qm (by simp;omega)]at hq;cases hq
    rw[this]at hq;simp at hq;exact .inr ⟨by omega,hq.symm⟩
  rcases key i q hq with⟨hi,zb⟩|⟨hi,eq⟩<;>rcases key j r hr with⟨hj,mg⟩|⟨hj,er⟩
  ·exact h.heap.inj i j q r zb mg he
  ·have:=h.heap.lt (p:=q) (cE zb);simp only[ctx]at this;rw[er]at he;omega
  ·have:=h.heap.lt (p:=r) (cE mg);simp only[ctx]at this;rw[eq]at he;omega
  ·omega
 ·simp only[ctx]at hq;by_cases hi:i<E.length
  ·rw[iG hi]at hq;rw[iG (by omega)]at dB;exact(h.heap.blk i q x hq dB).mono hx (g.block _ (h.heap.lt (p:=q) (cE hq)))
  ·rw[iz (by omega)]at hq dB
   have:i-E.length=0:=by
    rcases Nat.eq_zero_or_pos (i-E.length)with e|e
    ·exact e
    ·rw[qm (by simp;omega)]at hq;cases hq
   rw[this]at hq;rw[show i-s.σ.length=0 by omega]at dB;simp at hq dB;subst hq;subst dB;exact hk hx
 ·have o':=h.out.grow g;refine⟨o'.os,o'.tape,o'.output,o'.size,o'.stay,λi q hq=>?_,λi q hq=>?_,o'.lt,o'.mine⟩
  ·by_cases hi:i<E.length
   ·rw[iG hi]at hq;exact o'.fresh' i q hq
   ·rw[iz (by omega)]at hq
    have:q=p:=by have:=cE hq;simpa using this
    subst this;exact .inl (by rw[hp];exact h.out.size)
  ·obtain⟨p',k1,k2⟩:=o'.env i q hq;exact⟨p',by rw[iG (bD.1 k1).1];exact k1,k2⟩
theorem St.A6(h:St X z s a w E pb){i:Nat}{p:Pl}(hi:E[i]? =δ p)(o:Obj)(blk:aT)
  (hk:Ext (ctx z w E pb) (ctx z (w.eW p.b o) E pb)->rT (ctx z (w.eW p.b o) E pb) p blk):St X z (s.heap (s.σ.set i blk)) a (w.eW p.b o) E pb:=by
 have hm:p∈E:=cE hi;have hX:(ctx z w E pb).X p.b:=.inr (.inl ⟨p,hm,rfl⟩);have hx:Ext (ctx z w E pb) (ctx z (w.eW p.b o) E pb):=Vx hX
 refine h.ext hx (λj b hb=>⟨hb,wI _ (λe=>(h.priv j b hb).2.2 p hm e)⟩) (λj b hb=>⟨(h.priv j b hb).1,by rw[yj];exact(h.priv j b hb).2.1,(h.priv j b hb).2.2⟩) h.inj
  ⟨by have:=h.heap.len;simpa [ctx]using this,h.heap.inj,λj q x hq dB=>?_⟩ ?_
 ·by_cases e:i=j
  ·subst e;simp only[ctx]at hq;rw[hi]at hq;injection hq with hq;subst hq
   rw[jm]at dB;rw[aO rfl]at dB;split at dB
   ·injection dB with dB;subst dB;exact hk hx
   ·cases dB
  ·rw[jm,aL e]at dB;exact(h.heap.blk j q x hq dB).mono hx (wI _ (λe'=>e (h.heap.inj i j p q hi hq e')))
 ·have o':=h.out;refine⟨o'.os,o'.tape,o'.output,by rw[yj];exact o'.size,λk hk hp=>?_,o'.fresh',o'.env,o'.lt,o'.mine⟩;rw[wI]
  ·exact o'.stay k hk hp
  ·rintro rfl;rcases o'.fresh p hm with e|⟨q,hq,e⟩
   ·omega
   ·exact hp q hq e
end
end
section
open Go.RowKit
theorem Ut(c:RC)(v:Value):aq c (DT v) v:=by unfold DT;split<;>simp [aq]
theorem adp(c:RC)(v:Value):aq c (yD v) v:=by
 unfold yD;split
 ·rename_i cs;cases h:cs.toList.all fc
  ·simp [aq]
  ·simp only[cA,aq];refine⟨cs,rfl,?_,vS.1 h⟩;have:=aR.map (c:=c) DT id cs.toList (λx _=>Ut c x);simpa using this
 ·exact Ut c _
section
variable {X : Fx} {z : Z} {s : AS} {a : Act} {w w' : World} {E : List Pl} {pb : Nat -> Option Nat}
theorem gf(h:St X z s a w E pb)(x:Operand):aq (ctx z w E pb) (ev X s x) (a.eval x):=by
 cases x with
 |tmp t=>
  simp only[ev,Act.eval];cases hL:X.L.contains t
  ·simp only[bK];by_cases ht:t<s.sl.length
   ·have hs:s.sl[t]? =δ s.sl[t]:=by simp [ht]
    have e:s.sl.getD t .undef=s.sl[t]:=by simp [YA,ht]
    rw[e];refine(h.slot t _ hs).rep λcs k=>?_
    have:=h.box t cs (by rw[hs,k]);rw[hL]at this;cases this
   ·have e:s.sl.getD t .undef=.undef:=by simp [YA,Nat.le_of_not_lt ht]
    rw[e];simp [aq]
  ·simp [aq]
 |const v=>exact adp _ v
 |global g=>simp [ev,aq]
 |func f=>simp only[ev,Act.eval,aq];exact⟨f,#[],rfl,by rw[h.nm];rfl,by simp [aR]⟩
theorem Ix(h:St X z s a w E pb)(xs:List Operand):aR (ctx z w E pb) (xs.map (ev X s)) (xs.map a.eval):=aR.map _ _ xs λx _=>gf h x
end
section
variable {P : Program} {c : RC} (w : World)
theorem aeM{t:TypeId}{d:TypeDesc}(h:P.underlying t=δ d):∃i,P.info? t=δ i:=by
 unfold Program.underlying at h;split at h
 ·rename_i u e;exact⟨_,by assumption⟩
 ·rename_i i e;exact⟨_,by assumption⟩
 ·cases h
theorem zu{t:TypeId}{i:TypeInfo}(h:P.info? t=δ i):(typeInfo t).run P w=.ok i w:=by simp [typeInfo,h]
theorem KE{t:TypeId}{i:TypeInfo}(h:P.info? t=δ i):(sizeOf t).run P w=.ok (P.cellsOf t) w:=by simp [sizeOf,zu w h,aCw,h]
theorem TO{t:TypeId}{d:TypeDesc}(h:P.underlying t=δ d):(sizeOf t).run P w=.ok (P.cellsOf t) w:=by obtain⟨i,hi⟩:=aeM h;exact KE w hi
theorem acE(X:Fx){t:TypeId}{d:TypeDesc}(h:X.P.underlying t=δ d):(isAgg t).run X.P w=.ok (FH X t) w:=by unfold isAgg;simp only[u9,run_underlying h,ir];unfold FH;rw[h];cases d<;>rfl
theorem TE{av x:AV}{v:Value}(h:Θ av=δ x)(r:aq c av v):x=av/\fc v=η:=by
 cases av<;>simp only[Θ]at h<;>first|(cases h;done)|skip
 all_goals
  injection h with h
  refine⟨h.symm,?_⟩;simp only[aq]at r
 case int=>subst r;rfl
 case bool=>subst r;rfl
 case str=>subst r;rfl
 case fm=>obtain⟨_,rfl,_⟩:=r;rfl
 case sl=>obtain⟨_,_,rfl,_⟩:=r;rfl
 case aA=>subst r;rfl
 case ez=>obtain⟨_,rfl⟩:=r;rfl
 case rp=>obtain⟨_,_,rfl,_⟩:=r;rfl
 case np=>subst r;rfl
 case op=>obtain⟨_,_,_,rfl⟩:=r;rfl
 case oe=>obtain⟨_,_,_,_,_,rfl,_⟩:=r;rfl
 case os=>obtain⟨_,_,_,_,_,_,rfl,_⟩:=r;rfl
 case om=>obtain⟨_,_,_,rfl⟩:=r;rfl
 case nm=>subst r;rfl
 case fn=>obtain⟨_,_,rfl,_⟩:=r;rfl
 case ze=>subst r;rfl
theorem cells_one{v:Value}(h:fc v=η):v.cells=#[v]:=by cases v<;>first|rfl|(simp [fc]at h)
theorem Ia(X:Fx){t:TypeId}{av:AV}{cs:List AV}{v:Value}(h:A4 X t av=δ cs)(r:aq c av v):
  aR c cs v.cells.toList/\(∀x∈v.cells.toList,fc x=η)/\v.cells.size=X.P.cellsOf t/\∃d,X.P.underlying t=δ d:=by
 unfold A4 at h;cases hd:X.P.underlying t with
 |none=>rw[hd]at h;cases h
 |some d=>
  rw[hd]at h;simp only at h;cases ha:FH X t
  ·rw[ha]at h;simp only[bK]at h;cases hc:(X.P.cellsOf t==1)
   ·rw[hc]at h;cases h
   ·rw[hc]at h;simp only[cA]at h;obtain⟨x,h1,h2⟩:=bX.1 h;injection h2 with h2
    obtain⟨e,h3⟩:=TE h1 r;subst h2;subst e;rw[cells_one h3];exact⟨by simpa using aR.single r,by simpa using h3,by simpa using(beq_iff_eq.1 hc).symm,d,rfl⟩
  ·rw[ha]at h;simp only[cA]at h;cases av<;>simp only[ψ]at h<;>first|(cases h;done)|skip
   rename_i l;split at h
   ·injection h with h
    subst h;simp only[aq]at r;obtain⟨vs,rfl,r1,r2⟩:=r;refine⟨r1,r2,?_,d,rfl⟩;have:=r1.length;simp only[Value.cells];rw[<-YO,<-this];assumption
   ·cases h
theorem qO(b o n:Nat):(⟨b,o,ξ⟩:Addr).add n=⟨b,o+n,ξ⟩:=by
 unfold Addr.add;split
 ·subst_vars;rfl
 ·rfl
theorem O1(X:Fx)(hw:c.w=w){t:TypeId}{b off o:Nat}{cs:List AV}{av:AV}(r:bT c b off cs)(h:Cj X t o cs=δ av):
  ∃v,(loadVar t ⟨b,off+o,ξ⟩).run X.P w=.ok v w/\aq c av v:=by
 unfold Cj at h;cases hd:X.P.underlying t with
 |none=>rw[hd]at h;cases h
 |some d=>
  rw[hd]at h;simp only at h;unfold loadVar;simp only[u9,acE w X hd,ir];cases ha:FH X t
  ·rw[ha]at h;simp only[bK,φ]at h;obtain⟨x,h1,h2⟩:=bX.1 h;obtain⟨v,k1,k2,k3⟩:=aCb r h1;obtain⟨e,_⟩:=TE h2 k3;subst e;refine⟨v,?_,k3⟩;rw[hw]at k1;simp [run_load,k1]
  ·rw[ha]at h;simp only[cA,l7]at h;split at h
   ·rename_i hle;injection h with h
    subst h;obtain⟨vs,k1,k2,k3⟩:=bT.Np ((r.drop o).take (X.P.cellsOf t));have hl:vs.length=X.P.cellsOf t:=by rw[<-k1.length];simp;omega
    refine⟨.agg vs.toArray,?_,by simp only[aq];exact⟨vs.toArray,rfl,by simpa using k1,by simpa using k2⟩⟩;have hrun:=run_loadCells_list (P:=X.P) w ⟨b,off+o,ξ⟩ vs (λj v hj=>by rw[qO];have:=k3 j v hj;rwa[hw]at this);rw[hl]at hrun;simp [TO w hd,hrun]
   ·cases h
theorem anK(X:Fx){t:TypeId}{o:Nat}{cs:List AV}{av:AV}{vs:Array Value}(r:aR c cs vs.toList)(k:∀x∈vs.toList,fc x=η)(h:Cj X t o cs=δ av):
  ∃v,(part t vs o).run X.P w=.ok v w/\aq c av v:=by
 unfold Cj at h;cases hd:X.P.underlying t with
 |none=>rw[hd]at h;cases h
 |some d=>
  rw[hd]at h;simp only at h;unfold part;simp only[u9,acE w X hd,ir];cases ha:FH X t
  ·rw[ha]at h;simp only[bK,φ]at h;obtain⟨x,h1,h2⟩:=bX.1 h;obtain⟨v,k1,k3⟩:=r.nth h1;obtain⟨e,_⟩:=TE h2 k3;subst e;refine⟨v,?_,k3⟩;have:vs[o]? =δ v:=by rw[<-Ta];exact k1
   simp [this]
  ·rw[ha]at h;simp only[cA,l7]at h;split at h
   ·rename_i hle;injection h with h
    subst h;refine⟨.agg (vs.extract o (o+X.P.cellsOf t)),by simp [TO w hd],?_⟩;simp only[aq];have e:(vs.extract o (o+X.P.cellsOf t)).toList=(vs.toList.drop o).take (X.P.cellsOf t):=by simp [Array.toList_extract,aCU]
    refine⟨_,rfl,by rw[e];exact(r.drop o).take _,?_⟩;rw[e];exact λx hx=>k x (List.mem_of_mem_drop (xq hx))
   ·cases h
end
section
variable {P : Program} {c : RC} (w : World)
theorem LM(a b:ByteArray):(a==b)=(a.toList==b.toList):=beq_toListBytes a b
theorem are{t:TypeId}{x y av:AV}{v u:Value}(h:Z8 x y=δ av)(r:aq c x v)(q:aq c y u):∃k,(binOp .add t v u).run P w=.ok k w/\aq c av k:=by
 unfold Z8 at h;split at h
 ·simp only[aq]at r q;subst r;subst q;split at h
  ·injection h with h;subst h;subst_vars
   exact⟨_,by simp [binOp,aCt];rfl,by simp [aq]⟩
  ·cases h
 ·simp only[aq]at r q;subst r;subst q;split at h
  ·rename_i a b hs;injection h with h;subst h
   refine⟨.string (a++b),?_,by simp [aq]⟩;have:¬((a.size+b.size:Nat):Int)>θ.max:=by rw[IntKind.max_i64];omega
   simp only[binOp,aCu,aL this];rfl
  ·cases h
 ·cases h
theorem Ir{f:IntKind->Int->Int->Option AV}{op:BinOp}{t:TypeId}{x y av:AV}{v u:Value}
  (hf:∀k a b av,f k a b=δ av->∃n,(binOp op t (.int k a) (.int k b)).run P w=.ok n w/\aq c av n)
  (h:(match x,y with|.int k a,.int k' b=>if k=k' then f k a b else ξ|_,_=>ξ)=δ av) (r:aq c x v) (q:aq c y u):∃k,(binOp op t v u).run P w=.ok k w/\aq c av k:=by
 split at h
 ·simp only[aq]at r q;subst r;subst q;split at h
  ·subst_vars;exact hf _ _ _ _ h
  ·cases h
 ·cases h
theorem as4{t:TypeId}{x y av:AV}{v u:Value}(h:T6 x y=δ av)(r:aq c x v)(q:aq c y u):∃k,(binOp .sub t v u).run P w=.ok k w/\aq c av k:=
 Ir w (f:=λk a b=>δ (.int k (k.wrap (a-b)))) (λk a b av e=>by injection e with e;subst e;exact⟨_,by simp [binOp,aCt];rfl,by simp [aq]⟩) h r q
theorem asu{t:TypeId}{x y av:AV}{v u:Value}(h:WR x y=δ av)(r:aq c x v)(q:aq c y u):∃k,(binOp .mul t v u).run P w=.ok k w/\aq c av k:=
 Ir w (f:=λk a b=>δ (.int k (k.wrap (a*b)))) (λk a b av e=>by injection e with e;subst e;exact⟨_,by simp [binOp,aCt];rfl,by simp [aq]⟩) h r q
theorem asp{t:TypeId}{x y av:AV}{v u:Value}(h:Sq x y=δ av)(r:aq c x v)(q:aq c y u):∃k,(binOp .lss t v u).run P w=.ok k w/\aq c av k:=by
 unfold Sq at h;split at h
 ·exact Ir w (x:=.int _ _) (y:=.int _ _) (f:=λk a b=>δ (.bool (decide (a<b)))) (λk a b av e=>by injection e with e;subst e;exact⟨_,by simp [binOp,aC5];rfl,by simp [aq]⟩) h r q
 ·simp only[aq]at r q;subst r;subst q;injection h with h;subst h
  exact⟨.bool _,by simp only[binOp,aCu];rfl,by simp [aq]⟩
 ·cases h
theorem asl{t:TypeId}{x y av:AV}{v u:Value}(h:Y0 x y=δ av)(r:aq c x v)(q:aq c y u):∃k,(binOp .leq t v u).run P w=.ok k w/\aq c av k:=
 Ir w (f:=λk a b=>δ (.bool (decide (a<=b)))) (λk a b av e=>by injection e with e;subst e;exact⟨_,by simp [binOp,aC5];rfl,by simp [aq]⟩) h r q
theorem ar9{t:TypeId}{x y av:AV}{v u:Value}(h:Tt x y=δ av)(r:aq c x v)(q:aq c y u):∃k,(binOp .gtr t v u).run P w=.ok k w/\aq c av k:=
 Ir w (f:=λk a b=>δ (.bool (decide (a>b)))) (λk a b av e=>by injection e with e;subst e;exact⟨.bool (decide (a>b)),by simp [binOp,aC5],by simp [aq]⟩) h r q
theorem arY{t:TypeId}{x y av:AV}{v u:Value}(h:ZC x y=δ av)(r:aq c x v)(q:aq c y u):∃k,(binOp .geq t v u).run P w=.ok k w/\aq c av k:=
 Ir w (f:=λk a b=>δ (.bool (decide (a>=b)))) (λk a b av e=>by injection e with e;subst e;exact⟨.bool (decide (a>=b)),by simp [binOp,aC5],by simp [aq]⟩) h r q
theorem asP{t:TypeId}{x y av:AV}{v u:Value}(h:A.quo x y=δ av)(r:aq c x v)(q:aq c y u):∃k,(binOp .quo t v u).run P w=.ok k w/\aq c av k:=by
 unfold A.quo at h;split at h
 ·simp only[aq]at r q;subst r;subst q;split at h
  ·rename_i hk;obtain⟨rfl,hb⟩:=hk;injection h with h;subst h
   exact⟨_,by simp [binOp,Op.intDiv,hb];rfl,by simp [aq]⟩
  ·cases h
 ·cases h
theorem asQ{t:TypeId}{x y av:AV}{v u:Value}(h:A.rem x y=δ av)(r:aq c x v)(q:aq c y u):∃k,(binOp .rem t v u).run P w=.ok k w/\aq c av k:=by
 unfold A.rem at h;split at h
 ·simp only[aq]at r q;subst r;subst q;split at h
  ·rename_i hk;obtain⟨rfl,hb⟩:=hk;injection h with h;subst h
   exact⟨_,by simp [binOp,Op.intDiv,hb];rfl,by simp [aq]⟩
  ·cases h
 ·cases h
theorem asY{t:TypeId}{x y av:AV}{v u:Value}(h:A.shl x y=δ av)(r:aq c x v)(q:aq c y u):∃k,(binOp .shl t v u).run P w=.ok k w/\aq c av k:=by
 unfold A.shl at h;split at h
 ·simp only[aq]at r q;subst r;subst q;split at h
  ·cases h
  ·rename_i hb;injection h with h;subst h
   exact⟨_,by simp only[binOp,Op.shift,aL hb];rfl,by simp [aq]⟩
 ·cases h
theorem asZ{t:TypeId}{x y av:AV}{v u:Value}(h:A.shr x y=δ av)(r:aq c x v)(q:aq c y u):∃k,(binOp .shr t v u).run P w=.ok k w/\aq c av k:=by
 unfold A.shr at h;split at h
 ·simp only[aq]at r q;subst r;subst q;split at h
  ·cases h
  ·rename_i hb;injection h with h;subst h
   exact⟨_,by simp only[binOp,Op.shift,aL hb];rfl,by simp [aq]⟩
 ·cases h
theorem abH:∀{k1 k2:List Nat}{xs ys:List AV}{b:Bool},XN (k1++k2) xs ys=δ b->∃p q,XN k1 (xs.take k1.length) (ys.take k1.length)=δ p/\XN k2 (xs.drop k1.length) (ys.drop k1.length)=δ q/\b=(p&&q)
 |[],k2,xs,ys,b,h=>⟨η,b,by simp [XN],by simpa using h,by simp⟩
 |k::k1,k2,[],[],b,h=>by simp [XN]at h
 |k::k1,k2,[],_::_,b,h=>by simp [XN]at h
 |k::k1,k2,_::_,[],b,h=>by simp [XN]at h
 |k::k1,k2,x::xs,y::ys,b,h=>by simp only[mq,XN]at h;obtain⟨p,h1,h2⟩:=bX.1 h;obtain⟨q,h3,h4⟩:=eP.1 h2;obtain⟨p',q',k1',k2',k3'⟩:=abH h3;exact⟨p&&p',q',by simp [XN,h1,k1'],by simpa using k2',by rw[<-h4,k3',Bool.and_assoc]⟩
def pg(P:Program)(t:TypeId)(vs:List Value):Value:=match P.underlying t with
 |some (.struct _)=>.agg vs.toArray
 |_=>vs.headD undef
theorem Tm{t:TypeId}{d:Nat}(hk:mw P (d+1) t=η){vs:Array Value}{off:Nat}(h:off+P.cellsOf t<=vs.size):
  (part t vs off).run P w=.ok (pg P t ((vs.toList.drop off).take (P.cellsOf t))) w:=by
 unfold mw at hk
 have scalar:∀de,P.underlying t=δ de->(∀fs,de≠.struct fs)->(∀n e,de≠.array n e)->P.cellsOf t=1->(part t vs off).run P w=.ok (pg P t ((vs.toList.drop off).take (P.cellsOf t))) w:=by
  intro de hd h1 h2 h3
  have ha:(isAgg t).run P w=.ok ι w:=by unfold isAgg;simp only[u9,run_underlying hd,ir];cases de<;>first|rfl|exact absurd rfl (h1 _)|exact absurd rfl (h2 _ _)
  have e:pg P t ((vs.toList.drop off).take (P.cellsOf t))=vs[off]'(by omega):=by
   unfold pg;rw[hd]
   have:(vs.toList.drop off).take (P.cellsOf t)=[vs[off]'(by omega)]:=by
    have hlt:off<vs.toList.length:=by rw[YO];omega
    rw[h3,Xo hlt];simp
   rw[this];cases de<;>first|rfl|exact absurd rfl (h1 _)
  rw[e];unfold part;simp [ha,uD (show off<vs.size by omega)]
 cases hd:P.underlying t with
 |none=>rw[hd]at hk;cases hk
 |some de=>
  rw[hd]at hk;cases de<;>simp only at hk<;>first|(cases hk;done)|skip
  case bool=>exact scalar _ hd (by intro _ e;cases e) (by intro _ _ e;cases e) (by simpa using hk)
  case int=>exact scalar _ hd (by intro _ e;cases e) (by intro _ _ e;cases e) (by simpa using hk)
  case string=>exact scalar _ hd (by intro _ e;cases e) (by intro _ _ e;cases e) (by simpa using hk)
  case struct fs=>
   have ha:(isAgg t).run P w=.ok η w:=by unfold isAgg;simp only[u9,run_underlying hd,ir];rfl
   unfold part;simp only[u9,ha,ir,if_true,TO w hd,Vf];congr 1;simp only[pg,hd];congr 1;apply mU.1;simp [Array.toList_extract,aCU]
theorem ac1:∀{ks:List Nat}{xs ys:List AV}{b:Bool},XN ks xs ys=δ b->xs.length=ks.length/\ys.length=ks.length
 |[],[],[],_,_=>⟨rfl,rfl⟩
 |[],[],_::_,_,h=>by simp [XN]at h
 |[],_::_,_,_,h=>by simp [XN]at h
 |_::_,[],_,_,h=>by simp [XN]at h
 |_::_,_::_,[],_,h=>by simp [XN]at h
 |k::ks,x::xs,y::ys,b,h=>by simp only[XN]at h;obtain⟨p,h1,h2⟩:=bX.1 h;obtain⟨q,h3,h4⟩:=eP.1 h2;have:=ac1 h3;simp [this]
theorem Px{d:Nat}(ih:∀t,mw P d t=η->(kinds P d t).length=P.cellsOf t):∀(fs:List Field)(off tot:Nat),Bh (mw P d) P.cellsOf fs off=δ tot->off+(fs.flatMap λf=>kinds P d f.type).length=tot
 |[],off,tot,h=>by simpa [Bh]using h
 |f::fs,off,tot,h=>by
  simp only[Bh]at h;cases hc : (f.name != "_" && f.offset == off && mw P d f.type)
  ·rw[hc]at h;cases h
  ·rw[hc]at h;simp only[cA]at h;simp only[je]at hc;have:=Px ih fs _ _ h;have:=ih _ hc.2;simp only[Vi,Ve];omega
theorem Ih:∀(d:Nat)(t:TypeId),mw P d t=η->(kinds P d t).length=P.cellsOf t
 |0,t,h=>by simp [mw]at h
 |d+1,t,h=>by
  unfold mw at h;unfold kinds;cases hd:P.underlying t with
  |none=>rw[hd]at h;cases h
  |some de=>
   rw[hd]at h;cases de<;>simp only at h<;>first|(cases h;done)|skip
   case bool=>simpa using(beq_iff_eq.1 h).symm
   case int=>simpa using(beq_iff_eq.1 h).symm
   case string=>simpa using(beq_iff_eq.1 h).symm
   case struct fs=>
    simp only[je,beq_iff_eq]at h;have:=Px (λt=>Ih d t) fs.toList 0 _ h.2;simpa using this
theorem ad5{d D:Nat}(ih:∀(t:TypeId) (xs ys:List AV) (vs us:List Value) (b:Bool),mw P d t=η->XN (kinds P d t) xs ys=δ b->aR c xs vs->aR c ys us->vs.length=P.cellsOf t->us.length=P.cellsOf t->
   (Sj D t (pg P t vs) (pg P t us)).run P w=.ok b w):
  ∀(fs:List Field)(off tot:Nat)(xs ys:List AV)(vs us:Array Value)(b:Bool),Bh (mw P d) P.cellsOf fs off=δ tot->tot=vs.size->tot=us.size->XN (fs.flatMap λf=>kinds P d f.type) (xs.drop off) (ys.drop off)=δ b->aR c xs vs.toList->aR c ys us.toList->
   (Op.eqFields D vs us fs).run P w=.ok b w
 |[],off,tot,xs,ys,vs,us,b,h,h1,h2,h3,h4,h5=>by
  simp only[Bh]at h;injection h with h
  have l1:=h4.length;have:xs.drop off=[]:=aBS (by rw[l1];simp;omega);rw[this]at h3;have l2:=h5.length;have:ys.drop off=[]:=aBS (by rw[l2];simp;omega);rw[this]at h3;simp only[List.flatMap_nil,XN]at h3;injection h3 with h3
  subst h3;simp [Op.eqFields]
 |f::fs,off,tot,xs,ys,vs,us,b,h,h1,h2,h3,h4,h5=>by
  simp only[Bh]at h;cases hc : (f.name != "_" && f.offset == off && mw P d f.type)
  ·rw[hc]at h;cases h
  ·rw[hc]at h;simp only[cA]at h;simp only[je,bne_iff_ne,beq_iff_eq]at hc;obtain⟨⟨hn,ho⟩,hk⟩:=hc;have hle:=Px (λt=>Ih d t) fs _ _ h;have wv:=Ih d f.type hk;rw[Vi]at h3;obtain⟨p,q,k1,k2,k3⟩:=abH h3;rw[wv]at k1 k2;rw[kC,kC]at k2
   obtain⟨d',rfl⟩:∃d',d=d'+1:=by
    cases d with
    |zero=>simp [mw]at hk
    |succ d'=>exact⟨d',rfl⟩
   have r1:=Tm w hk (vs:=vs) (off:=off) (by omega);have r2:=Tm w hk (vs:=us) (off:=off) (by omega);have e1:=ih f.type _ _ _ _ p hk k1 ((h4.drop off).take _) ((h5.drop off).take _) (by simp;omega) (by simp;omega);have ihf:=ad5 ih fs (off+P.cellsOf f.type) tot xs ys vs us q h h1 h2 k2 h4 h5;simp only[Op.eqFields,Sem.run_ite,aO hn];simp only[u9,ho,r1,r2,ir,e1];cases p
   ·simp [k3]
   ·simp only[Xk,UP,if_false,ihf,k3,Bool.true_and]
theorem ad6:∀(d D:Nat)(hD:d<=D)(t:TypeId)(xs ys:List AV)(vs us:List Value)(b:Bool),mw P d t=η->XN (kinds P d t) xs ys=δ b->aR c xs vs->aR c ys us->vs.length=P.cellsOf t->us.length=P.cellsOf t->
   (Sj D t (pg P t vs) (pg P t us)).run P w=.ok b w
 |0,_,_,t,xs,ys,vs,us,b,hk,_,_,_,_,_=>by simp [mw]at hk
 |d+1,0,hD,_,_,_,_,_,_,_,_,_,_,_,_=>by omega
 |d+1,D+1,hD,t,xs,ys,vs,us,b,hk,h,r,q,l1,l2=>by
  unfold mw at hk;unfold kinds at h;cases hd:P.underlying t with
  |none=>rw[hd]at hk;cases hk
  |some de=>
   rw[hd]at hk h
   have scalar:∀k,XN [k] xs ys=δ b->P.cellsOf t=1->∃x y v u,xs=[x]/\ys=[y]/\vs=[v]/\us=[u]/\A.oR k x y=δ b/\aq c x v/\aq c y u:=by intro k h h1;rw[h1]at l1 l2;have m1:=r.length;have m2:=q.length;obtain⟨x,rfl⟩:=uC.1 (m1.trans l1);obtain⟨y,rfl⟩:=uC.1 (m2.trans l2);obtain⟨v,rfl⟩:=uC.1 l1;obtain⟨u,rfl⟩:=uC.1 l2;simp only[XN]at h;obtain⟨p,h2,h3⟩:=bX.1 h;simp at h3;subst h3;obtain⟨v',k1,k2⟩:=r.nth (i:=0) (a:=x) rfl;obtain⟨u',k3,k4⟩:=q.nth (i:=0) (a:=y) rfl;simp at k1 k3;subst k1;subst k3;exact⟨x,y,v,u,rfl,rfl,rfl,rfl,h2,k2,k4⟩
   cases de<;>simp only at hk h<;>first|(cases hk;done)|skip
   case bool=>
    obtain⟨x,y,v,u,rfl,rfl,rfl,rfl,e,r1,q1⟩:=scalar _ h (by simpa using hk);simp only[pg,hd,aCx];simp only[A.oR,A.Au]at e;split at e
    ·simp only[aq]at r1 q1;injection e with e;subst_vars
     exact run_equalIn_bool' w D t _ _ hd
    ·cases e
   case int kk=>
    obtain⟨x,y,v,u,rfl,rfl,rfl,rfl,e,r1,q1⟩:=scalar _ h (by simpa using hk);simp only[pg,hd,aCx];simp only[A.oR,A.pR]at e;split at e
    ·simp only[aq]at r1 q1;split at e
     ·injection e with e;subst_vars
      exact run_equalIn_int w D t _ kk _ _ hd
     ·cases e
    ·cases e
   case string=>
    obtain⟨x,y,v,u,rfl,rfl,rfl,rfl,e,r1,q1⟩:=scalar _ h (by simpa using hk);simp only[pg,hd,aCx];simp only[A.oR,A.sN]at e;split at e
    ·simp only[aq]at r1 q1;injection e with e;subst_vars
     rw[LM];exact run_equalIn_string w D t _ _ hd
    ·cases e
   case struct fs=>
    simp only[je,XX,beq_iff_eq]at hk;have hf:P.fieldsOf t=fs:=by simp [Program.fieldsOf,hd]
    simp only[pg,hd];rw[run_equalIn_struct w D t _ _ (by rw[hf];exact hd) hk.1,hf];exact ad5 w (λt xs ys vs us b=>ad6 d D (by omega) t xs ys vs us b) fs.toList 0 _ xs ys vs.toArray us.toArray b hk.2 (by simp [l1]) (by simp [l2]) (by simpa using h) (by simpa using r) (by simpa using q)
theorem KW{el:TypeId}(d:Nat)(t:TypeId)(p:Option Addr)(h:P.underlying t=δ (.pointer el)):(Sj (d+1) t (.pointer ξ) (.pointer p)).run P w=.ok p.isNone w:=by simp [Sj,run_underlying h]
theorem KX{el:TypeId}(d:Nat)(t:TypeId)(p:Addr)(h:P.underlying t=δ (.pointer el)):(Sj (d+1) t (.pointer (δ p)) (.pointer ξ)).run P w=.ok ι w:=by simp [Sj,run_underlying h]
theorem VP(X:Fx){t:TypeId}{e:A.EK}{x y:AV}{b:Bool}{v u:Value}(ht:nY X t=δ e)(h:Uj e x y=δ b)(r:aq c x v)(q:aq c y u):
  (Op.equal t v u).run X.P w=.ok b w/\((∃xs ys,v=.agg xs/\u=.agg ys/\X.P.eqGuardType X.P.depth t=ι)\/(∃k m n,v=.int k m/\u=.int k n/\b=(m==n))\/(∃m n,v=.string m/\u=.string n/\b=(m==n))\/(∃m n,v=.bool m/\u=.bool n/\b=(m==n))\/∃m n,v=.pointer m/\u=.pointer n):=by
 unfold nY at ht;cases hd:X.P.underlying t with
 |none=>rw[hd]at ht;cases ht
 |some de=>
  rw[hd]at ht;cases de<;>simp only at ht<;>first|(cases ht;done)|skip
  case bool=>
   injection ht with ht;subst ht
   simp only[Uj,A.Au]at h;split at h
   ·simp only[aq]at r q;injection h with h;subst_vars
    exact⟨run_equalIn_bool' w _ t _ _ hd,.inr (.inr (.inr (.inl ⟨_,_,rfl,rfl,rfl⟩)))⟩
   ·cases h
  case int kk=>
   injection ht with ht;subst ht
   simp only[Uj,A.pR]at h;split at h
   ·simp only[aq]at r q;split at h
    ·injection h with h;subst_vars
     exact⟨run_equalIn_int w _ t _ kk _ _ hd,.inr (.inl ⟨_,_,_,rfl,rfl,rfl⟩)⟩
    ·cases h
   ·cases h
  case string=>
   injection ht with ht;subst ht
   simp only[Uj,A.sN]at h;split at h
   ·simp only[aq]at r q;injection h with h;subst_vars
    refine⟨?_,.inr (.inr (.inl ⟨_,_,rfl,rfl,rfl⟩))⟩;rw[LM];exact run_equalIn_string w _ t _ _ hd
   ·cases h
  case pointer el=>
   cases hc:(X.P.cellsOf el !=0)
   ·rw[hc]at ht;cases ht
   ·rw[hc]at ht;injection ht with ht;subst ht
    simp only[Uj,A.azF]at h;split at h<;>first|(cases h;done)|skip
    all_goals
     simp only[aq]at r q;injection h with h;subst h
    ·subst r;subst q;exact⟨by first|exact KW w 9999 t _ hd|exact KX w 9999 t _ hd,.inr (.inr (.inr (.inr ⟨_,_,rfl,rfl⟩)))⟩
    ·subst r;obtain⟨b,off,rfl,_⟩:=q;exact⟨by first|exact KW w 9999 t _ hd|exact KX w 9999 t _ hd,.inr (.inr (.inr (.inr ⟨_,_,rfl,rfl⟩)))⟩
    ·subst r;obtain⟨p,_,_,rfl⟩:=q;exact⟨by first|exact KW w 9999 t _ hd|exact KX w 9999 t _ hd,.inr (.inr (.inr (.inr ⟨_,_,rfl,rfl⟩)))⟩
    ·subst q;obtain⟨b,off,rfl,_⟩:=r;exact⟨by first|exact KW w 9999 t _ hd|exact KX w 9999 t _ hd,.inr (.inr (.inr (.inr ⟨_,_,rfl,rfl⟩)))⟩
    ·subst q;obtain⟨p,_,_,rfl⟩:=r;exact⟨by first|exact KW w 9999 t _ hd|exact KX w 9999 t _ hd,.inr (.inr (.inr (.inr ⟨_,_,rfl,rfl⟩)))⟩
  case struct fs=>
   cases hc:(mw X.P 9 t&&!X.P.eqGuardType X.P.depth t)
   ·rw[hc]at ht;cases ht
   ·rw[hc]at ht;injection ht with ht;subst ht
    simp only[je,XX]at hc;simp only[Uj]at h;split at h
    ·simp only[aq]at r q;obtain⟨vs,rfl,r1,_⟩:=r;obtain⟨us,rfl,q1,_⟩:=q;have hl:=ac1 h;rw[Ih 9 t hc.1]at hl;have e:=ad6 w 9 Op.maxDepth (by decide) t _ _ _ _ b hc.1 h r1 q1 (by rw[<-r1.length];exact hl.1) (by rw[<-q1.length];exact hl.2);simp only[pg,hd,Array.toArray_toList]at e;exact⟨e,.inl ⟨_,_,rfl,rfl,hc.2⟩⟩
    ·cases h
theorem arJ(X:Fx){t:TypeId}{ox oy:Operand}{e:A.EK}{x y av:AV}{v u:Value}(ht:nY X t=δ e)(h:Wn e x y=δ av)(r:aq c x v)(q:aq c y u):
  ∃k,(do eqGuard .eql t ox oy v u;binOp .eql t v u:Sem Value).run X.P w=.ok k w/\aq c av k:=by
 obtain⟨b,h1,h2⟩:=eP.1 h;subst h2;obtain⟨h3,h4⟩:=VP w X ht h1 r q;refine⟨.bool b,?_,by simp [aq]⟩;rcases h4 with⟨xs,ys,rfl,rfl,hg⟩|⟨k,m,n,rfl,rfl,rfl⟩|⟨m,n,rfl,rfl,rfl⟩|⟨m,n,rfl,rfl,hb⟩|⟨m,n,rfl,rfl⟩
 ·simp only[u9,run_eqGuard_agg w .eql t ox oy xs ys hg,ir];simp [binOp,h3]
 ·simp [eqGuard_at_int,binOp_eql]
 ·rw[LM];simp [eqGuard_at_string,binOp,aCu]
 ·simp only[eqGuard_at_bool,u9,Vf,ir];simp [binOp,h3]
 ·simp only[eqGuard_at_pointer,u9,Vf,ir];simp [binOp,h3]
theorem asw(X:Fx){t:TypeId}{ox oy:Operand}{e:A.EK}{x y av:AV}{v u:Value}(ht:nY X t=δ e)(h:Uq e x y=δ av)(r:aq c x v)(q:aq c y u):
  ∃k,(do eqGuard .neq t ox oy v u;binOp .neq t v u:Sem Value).run X.P w=.ok k w/\aq c av k:=by
 obtain⟨b,h1,h2⟩:=eP.1 h;subst h2;obtain⟨h3,h4⟩:=VP w X ht h1 r q;refine⟨.bool (!b),?_,by simp [aq]⟩;rcases h4 with⟨xs,ys,rfl,rfl,hg⟩|⟨k,m,n,rfl,rfl,rfl⟩|⟨m,n,rfl,rfl,rfl⟩|⟨m,n,rfl,rfl,hb⟩|⟨m,n,rfl,rfl⟩
 ·simp only[u9,run_eqGuard_agg w .neq t ox oy xs ys hg,ir];simp [binOp,h3]
 ·simp [eqGuard_at_int,binOp_neq];rfl
 ·rw[LM];simp [eqGuard_at_string,binOp,aCu]
 ·simp only[eqGuard_at_bool,u9,Vf,ir];simp [binOp,h3]
 ·simp only[eqGuard_at_pointer,u9,Vf,ir];simp [binOp,h3]
theorem agA{P:Program}{el:TypeId}(d:Nat)(t:TypeId)(a:Option Addr)(n m:Nat)(h:P.underlying t=δ (.slice el)):(Sj (d+1) t (.slice a n m) (.slice ξ 0 0)).run P w=.ok a.isNone w:=by cases a<;>simp [Sj,run_underlying h]
theorem afa{P:Program}{t e:TypeId}{x y:AV}{b:Bool}{v u:Value}(ht:P.underlying t=δ (.slice e))(h:A.RH x y=δ b)(r:aq c x v)(q:aq c y u):
  ∃a n m,v=.slice a n m/\u=.slice ξ 0 0/\(Op.equal t v u).run P w=.ok b w:=by
 cases y<;>simp only[A.RH]at h<;>first|(cases h;done)|skip
 simp only[aq]at q;subst q
 have hs:∃a n m,v=.slice a n m/\b=a.isNone:=by
  split at h<;>first|(cases h;done)|skip
  all_goals injection h with h;subst h;simp only[aq]at r
  ·exact⟨ξ,0,0,r,rfl⟩
  ·obtain⟨a,cap,e1,_,_,k|⟨b,off,rfl,_⟩⟩:=r
   ·cases k
   ·exact⟨_,_,_,e1,rfl⟩
  ·obtain⟨_,p,_,_,a,cap,rfl,_⟩:=r;exact⟨_,_,_,rfl,rfl⟩
 obtain⟨a,n,m,rfl,rfl⟩:=hs;exact⟨a,n,m,rfl,rfl,agA w 9999 t a n m ht⟩
theorem arh(X:Fx){op:BinOp}{t:TypeId}{ox oy:Operand}{x y av:AV}{v u:Value}(h:azp X op t x y=δ av)(r:aq c x v)(q:aq c y u):
  ∃k,(do eqGuard op t ox oy v u;binOp op t v u:Sem Value).run X.P w=.ok k w/\aq c av k:=by
 cases op<;>simp only[azp]at h<;>first|(cases h;done)|skip
 case add=>obtain⟨k,h1,h2⟩:=are (P:=X.P) (t:=t) w h r q;exact⟨k,by simp [eqGuard_add,h1],h2⟩
 case sub=>obtain⟨k,h1,h2⟩:=as4 (P:=X.P) (t:=t) w h r q;exact⟨k,by simp [eqGuard_sub,h1],h2⟩
 case mul=>obtain⟨k,h1,h2⟩:=asu (P:=X.P) (t:=t) w h r q;exact⟨k,by simp [eqGuard_mul,h1],h2⟩
 case quo=>obtain⟨k,h1,h2⟩:=asP (P:=X.P) (t:=t) w h r q;exact⟨k,by simp [eqGuard_quo,h1],h2⟩
 case rem=>obtain⟨k,h1,h2⟩:=asQ (P:=X.P) (t:=t) w h r q;exact⟨k,by simp [eqGuard_rem,h1],h2⟩
 case lss=>obtain⟨k,h1,h2⟩:=asp (P:=X.P) (t:=t) w h r q;exact⟨k,by simp [eqGuard_lss,h1],h2⟩
 case leq=>obtain⟨k,h1,h2⟩:=asl (P:=X.P) (t:=t) w h r q;exact⟨k,by simp [eqGuard_leq,h1],h2⟩
 case gtr=>obtain⟨k,h1,h2⟩:=ar9 (P:=X.P) (t:=t) w h r q;exact⟨k,by simp [eqGuard_gtr,h1],h2⟩
 case geq=>obtain⟨k,h1,h2⟩:=arY (P:=X.P) (t:=t) w h r q;exact⟨k,by simp [eqGuard_geq,h1],h2⟩
 case shl=>obtain⟨k,h1,h2⟩:=asY (P:=X.P) (t:=t) w h r q;exact⟨k,by simp [eqGuard_shl,h1],h2⟩
 case shr=>obtain⟨k,h1,h2⟩:=asZ (P:=X.P) (t:=t) w h r q;exact⟨k,by simp [eqGuard_shr,h1],h2⟩
 case eql=>
  cases he:nY X t with
  |none=>
   rw[he]at h;simp only at h;split at h
   ·rename_i e ht;obtain⟨b,h1,rfl⟩:=eP.1 h;obtain⟨a,n,m,rfl,rfl,k2⟩:=afa (P:=X.P) w ht h1 r q;exact⟨.bool b,by simp [eqGuard,binOp,k2],by simp [aq]⟩
   ·cases h
  |some e=>rw[he]at h;exact arJ w X he h r q
 case neq=>
  cases he:nY X t with
  |none=>
   rw[he]at h;simp only at h;split at h
   ·rename_i e ht;obtain⟨b,h1,rfl⟩:=eP.1 h;obtain⟨a,n,m,rfl,rfl,k2⟩:=afa (P:=X.P) w ht h1 r q;exact⟨.bool (!b),by simp [eqGuard,binOp,k2],by simp [aq]⟩
   ·cases h
  |some e=>rw[he]at h;exact asw w X he h r q
theorem Ld{n j:Nat}{i:AV}{v:Value}(h:A.idx n i=δ j)(r:aq c i v):∃k,v=.int k (j:Int)/\j<n:=by
 unfold A.idx at h;split at h
 ·simp only[aq]at r;split at h
  ·rename_i k m hm;injection h with h
   subst r;exact⟨_,by rw[<-h];congr 1;omega,by omega⟩
  ·cases h
 ·cases h
def rC(c:RC):Option AV->Option Value->Prop
 |none,ξ=>True
 |some x,δ v=>aq c x v
 |_,_=>False
theorem Ig{y d j:Nat}{x:Option AV}{v:Option Value}{code:BoundsCode}(h:Xn y d x=δ j)(r:rC c x v):
  (x=ξ/\v=ξ/\j=d)\/∃a u,x=δ a/\v=δ u/\(Ue u y code).run P w=.ok j w/\j<=y:=by
 cases x with
 |none=>cases v with
  |none=>simp only[Xn]at h;injection h with h;exact .inl ⟨rfl,rfl,h.symm⟩
  |some u=>exact r.elim
 |some a=>cases v with
  |none=>exact r.elim
  |some u=>
   simp only[rC]at r;cases a<;>simp only[Xn]at h<;>first|(cases h;done)|skip
   rename_i k m;split at h
   ·rename_i hm;injection h with h
    simp only[aq]at r;subst r;refine .inr ⟨_,_,rfl,rfl,?_,by omega⟩;simp [Ue,asIntOf,hm,h]
   ·cases h
theorem Kj{GW:Bool}{y len cap l h:Nat}{lo hi:Option AV}{vl vh:Option Value}(hc:len<=cap)(hy:y<=cap)(hh:Xn y len hi=δ h)(hl:Xn h 0 lo=δ l)
  (rh:rC c hi vh) (rl:rC c lo vl):
  (TS GW len cap vl vh ξ).run P w=.ok (l,h,cap) w/\l<=h/\(h<=y\/h<=len):=by
 have big:∀{u:Value}{code:BoundsCode},(Ue u y code).run P w=.ok h w->(Ue u cap code).run P w=.ok h w:=by
  intro u code e;unfold Ue at e ⊢;simp only[u9]at e ⊢;generalize (asIntOf u).run P w=r at *
  cases r with
  |halt x w'=>simp at e
  |ok p w'=>
   obtain⟨k,i⟩:=p;simp only[ir,Sem.run_ite]at e ⊢;split at e
   ·rename_i hi;rw[aO ⟨hi.1,by omega⟩];exact e
   ·simp only[boundsPanic,u9]at e;exfalso;revert e;split
    ·simp [runtimePanic,goPanic];split<;>simp [runtimePanic,goPanic]
    ·simp [runtimePanic,goPanic]
 rcases Ig (P:=P) (code:=if GW then .sliceAcap else .sliceAlen) w hh rh with⟨rfl,rfl,rfl⟩|⟨x,u,rfl,rfl,e1,e2⟩
 ·rcases Ig (P:=P) (code:=.sliceB) w hl rl with⟨rfl,rfl,rfl⟩|⟨y,q,rfl,rfl,e3,e4⟩
  ·exact⟨by simp [TS],kD _,.inr (bF _)⟩
  ·exact⟨by simp [TS,e3],e4,.inr (bF _)⟩
 ·rcases Ig (P:=P) (code:=.sliceB) w hl rl with⟨rfl,rfl,rfl⟩|⟨y,q,rfl,rfl,e3,e4⟩
  ·exact⟨by simp [TS,big e1],kD _,.inl e2⟩
  ·exact⟨by simp [TS,big e1,e3],e4,.inl e2⟩
theorem apF{y y' d d' j:Nat}{x:AV}(h:Xn y d (δ x)=δ j)(hy:y<=y'):Xn y' d' (δ x)=δ j:=by
 cases x<;>simp only[Xn]at h ⊢<;>first|(cases h;done)|skip
 split at h
 ·rename_i hm;rw[aO ⟨hm.1,by omega⟩];exact h
 ·cases h
theorem an2{t e:TypeId}{i:TypeInfo}{x hi mx av:AV}{lo:Option AV}{v vh vm:Value}{vl:Option Value}(ht:P.underlying t=δ (.slice e))(hi':P.info? e=δ i)
  (h:A.slice3 x lo hi mx=δ av) (r:aq c x v) (rl:rC c lo vl) (rh:aq c hi vh) (rm:aq c mx vm):∃k,(UN t v vl (δ vh) (δ vm)).run P w=.ok k w/\aq c av k:=by
 have hsz:(sizeOf e).run P w=.ok i.size w:=by simp [sizeOf,zu w hi']
 unfold A.slice3 at h;obtain⟨n,h0,h⟩:=bX.1 h
 have hv:∃a len cap,v=.slice a len cap/\len<=cap/\n=.int θ (len:Nat):=by
  cases x<;>simp only[UT]at h0<;>first|(cases h0;done)|skip
  all_goals injection h0 with h0;subst h0;simp only[aq]at r
  case sl=>obtain⟨a,cap,rfl,hc,_⟩:=r;exact⟨a,_,cap,rfl,hc,rfl⟩
  case aA=>subst r;exact⟨ξ,0,0,rfl,bF _,rfl⟩
  case ez=>obtain⟨a,rfl⟩:=r;exact⟨a,0,0,rfl,bF _,rfl⟩
  case os=>obtain⟨_,p,_,_,a,cap,rfl,hc,_⟩:=r;exact⟨δ a,_,cap,rfl,hc,rfl⟩
 obtain⟨a,len,cap,rfl,hc,rfl⟩:=hv;simp only[Tl]at h;obtain⟨m,h1,h⟩:=bX.1 h;obtain⟨h',h2,h⟩:=bX.1 h;obtain⟨l,h3,rfl⟩:=eP.1 h;rcases Ig (P:=P) (code:=.slice3Acap) w (apF (d':=0) h1 hc) (show rC c (δ mx) (δ vm)from rm)with⟨k,_⟩|⟨_,u,_,q1,e1,_⟩
 ·cases k
 injection q1 with q1;subst q1
 rcases Ig (P:=P) (code:=.slice3B) w h2 (show rC c (δ hi) (δ vh)from rh)with⟨k,_⟩|⟨_,u,_,q2,e2,hle⟩
 ·cases k
 injection q2 with q2;subst q2
 rcases Ig (P:=P) (code:=.slice3C) w h3 rl with⟨rfl,rfl,rfl⟩|⟨y,q,rfl,rfl,e3,e4⟩
 ·refine⟨_,by simp [UN,run_underlying ht,TS,e1,e2,hsz];rfl,?_⟩;by_cases hm:m=0
  ·subst hm;have:h'=0:=by omega
   subst this;simp [aq]
  ·rw[aL hm];simp [aq]
 ·refine⟨_,by simp [UN,run_underlying ht,TS,e1,e2,e3,hsz];rfl,?_⟩;by_cases hm:m=0
  ·subst hm;have:h'=0:=by omega
   subst this;have:l=0:=by omega
   subst this;simp [aq]
  ·rw[aL hm];simp [aq]
theorem an4{t:TypeId}{x av:AV}{lo hi:Option AV}{v:Value}{vl vh:Option Value}(ht:P.underlying t=δ .string)
  (h:A.Wh x lo hi=δ av) (r:aq c x v) (rl:rC c lo vl) (rh:rC c hi vh):∃k,(UN t v vl vh ξ).run P w=.ok k w/\aq c av k:=by
 cases x<;>simp only[A.Wh]at h<;>first|(cases h;done)|skip
 rename_i s;obtain⟨h',h1,h2⟩:=bX.1 h;obtain⟨l,h3,h4⟩:=eP.1 h2;simp only[aq]at r;subst r;subst h4;obtain⟨e,_,_⟩:=Kj (P:=P) (GW:=ι) w (bF _) (bF _) h1 h3 rh rl;exact⟨.string (s.extract l h'),by simp [UN,run_underlying ht,e],by simp [aq]⟩
theorem room_le{σ:Heap}(hh:jA c σ){id g sz off len cap:Nat}{p:Pl}(h1:c.E[id]? =δ p)(hc:len<=cap)(hsz:0<sz)(r:g=p.g->p.sz=sz/\p.base+(off+cap)*p.sz=p.tX):A.room σ id g sz off len<=cap:=by
 unfold A.room;split
 ·rename_i g' sz' es hs;split
  ·rename_i qA;obtain⟨rfl,rfl,hle⟩:=qA;obtain⟨j1,j2,j3,j4,j5,j7,j8,j9⟩:=hh.blk id p _ h1 hs;obtain⟨k1,k3⟩:=r j1.symm;rw[k1]at k3;have:es.length*sz<=(off+cap)*sz:=by omega
   have:=Vo this j4;omega
  ·exact hc
 ·exact hc
theorem an3{t e:TypeId}{i:TypeInfo}{x av:AV}{lo hi:Option AV}{v:Value}{vl vh:Option Value}{σ:Heap}(hh0:jA c σ)(ht:P.underlying t=δ (.slice e))(hi':P.info? e=δ i)
  (h:A.qd i.size x lo hi σ=δ av) (r:aq c x v) (rl:rC c lo vl) (rh:rC c hi vh):∃k,(UN t v vl vh ξ).run P w=.ok k w/\aq c av k:=by
 have hsz:(sizeOf e).run P w=.ok i.size w:=by simp [sizeOf,zu w hi']
 cases x<;>simp only[A.qd]at h<;>first|(cases h;done)|skip
 case sl sz es=>
  split at h
  ·rename_i hs;subst hs;obtain⟨h',h1,h2⟩:=bX.1 h;obtain⟨l,h3,h4⟩:=eP.1 h2;subst h4;simp only[aq]at r;obtain⟨a,cap,rfl,hcap,hp,r⟩:=r;obtain⟨e1,hl,hh⟩:=Kj (P:=P) (GW:=η) w hcap hcap h1 h3 rh rl;refine⟨.slice (if cap=l then a else a.map (·.add (l*i.size))) (h'-l) (cap-l),by simp [UN,run_underlying ht,e1,hsz],?_⟩;simp only[aq];have hlen:((es.take h').drop l).length=h'-l:=by simp;omega
   refine⟨_,_,by rw[hlen],by rw[hlen];omega,hp,?_⟩;by_cases hz:h'=l
   ·left;apply aBS;simp;omega
   ·right;rcases r with r|⟨b,off,rfl,hb,hX,r⟩
    ·subst r;simp at hh;omega
    ·refine⟨b,off+l*i.size,?_,hb,hX,(r.take h').drop l⟩;rw[aL (by omega)];simp [qO]
  ·cases h
 case aA=>
  obtain⟨h',h1,h2⟩:=bX.1 h;obtain⟨l,h3,h4⟩:=eP.1 h2;subst h4;simp only[aq]at r;subst r;obtain⟨e1,hl,hh⟩:=Kj (P:=P) (GW:=η) w (bF 0) (bF 0) h1 h3 rh rl;refine⟨.slice ξ 0 0,?_,by simp [aq]⟩;have:h'=0:=by omega
  have:l=0:=by omega
  subst_vars;simp [UN,run_underlying ht,e1,hsz]
 case ez=>
  obtain⟨h',h1,h2⟩:=bX.1 h;obtain⟨l,h3,h4⟩:=eP.1 h2;subst h4;simp only[aq]at r;obtain⟨q,rfl⟩:=r;obtain⟨e1,hl,hh⟩:=Kj (P:=P) (GW:=η) w (bF 0) (bF 0) h1 h3 rh rl;refine⟨.slice q 0 0,?_,by simp [aq]⟩;have:h'=0:=by omega
  have:l=0:=by omega
  subst_vars;simp [UN,run_underlying ht,e1,hsz]
 case os id g sz off len=>
  split at h
  ·rename_i hs;subst hs;obtain⟨h',h1,h2⟩:=bX.1 h;obtain⟨l,h3,h4⟩:=eP.1 h2;subst h4;simp only[aq]at r;obtain⟨hg,p,hp1,hp2,a,cap,rfl,hcap,r⟩:=r
   obtain⟨e1,hl,hh⟩:=Kj (P:=P) (GW:=η) w hcap (by
    by_cases hz:i.size=0
    ·have:A.room σ id g i.size off len=len:=by
      unfold A.room;split
      ·rename_i g' sz' es hs;split
       ·rename_i qA;obtain⟨rfl,rfl,hle⟩:=qA;obtain⟨_,_,_,j4,_⟩:=hh0.blk id p _ hp1 hs;omega
       ·rfl
      ·rfl
     rw[this];exact hcap
    ·exact room_le hh0 hp1 hcap (by omega) (λk=>⟨(r k).1,(r k).2.2⟩)) h1 h3 rh rl
   have hle:h'<=cap:=by
    rcases hh with hh|hh
    ·refine X8 hh ?_;by_cases hz:i.size=0
     ·have:A.room σ id g i.size off len=len:=by
       unfold A.room;split
       ·rename_i g' sz' es hs;split
        ·rename_i qA;obtain⟨rfl,rfl,hle⟩:=qA;obtain⟨_,_,_,j4,_⟩:=hh0.blk id p _ hp1 hs;omega
        ·rfl
       ·rfl
      rw[this];exact hcap
     ·exact room_le hh0 hp1 hcap (by omega) (λk=>⟨(r k).1,(r k).2.2⟩)
    ·omega
   refine⟨.slice (if cap=l then δ a else(δ a).map (·.add (l*i.size))) (h'-l) (cap-l),by simp [UN,run_underlying ht,e1,hsz],?_⟩;simp only[aq];refine⟨hg,p,hp1,hp2,(if cap=l then a else a.add (l*i.size)),cap-l,by by_cases e:cap=l<;>simp [e],by omega,λhgp=>?_⟩;obtain⟨k1,k2,k3⟩:=r hgp;refine⟨k1,?_,?_⟩
   ·by_cases e:cap=l
    ·left;omega
    ·right;rw[aL e];rcases k2 with k2|k2
     ·omega
     ·rw[k2,qO,k1,gu];congr 1;omega
   ·rw[show off+l+(cap-l)=off+cap by omega];exact k3
  ·cases h
end
end
section
open Go.RowKit
def gI(arr:Array Value)(off:Nat)(l:List Value):Array Value:=(arr.toList.take off++l++arr.toList.drop (off+l.length)).toArray
theorem afE(arr:Array Value)(off:Nat):gI arr off []=arr:=by simp [gI]
theorem aeH(arr:Array Value)(off:Nat)(x:Value)(l:List Value)(h:off+(l.length+1)<=arr.size):gI arr off (x::l)=gI (arr.setIfInBounds off x) (off+1) l:=by
 unfold gI;congr 1;have hlt:off<arr.toList.length:=by simp;omega
 simp only[Array.toList_setIfInBounds,R7];rw[List.take_succ_eq_append_getElem (by simpa using hlt),List.getElem_set_self,List.take_set_of_le (bF _),List.drop_set_of_lt (by omega)];simp [jI,Nat.add_comm 1 l.length]
theorem Vz(arr:Array Value)(off:Nat)(l:List Value)(h:off+l.length<=arr.size):(gI arr off l).size=arr.size:=by simp [gI];omega
theorem aec(off:Nat):∀(l:List Value)(k:Nat)(arr:Array Value),off+k+l.length<=arr.size->(l.zipIdx k).foldl (λcs(p:Value×Nat)=>cs.setIfInBounds (off+p.2) p.1) arr=gI arr (off+k) l
 |[],k,arr,h=>by simp [afE]
 |x::l,k,arr,h=>by simp only[List.zipIdx_cons,List.foldl_cons];rw[aec off l (k+1) _ (by simp at h ⊢;omega),aeH _ _ _ _ (by simpa using h)];rfl
theorem KP{w:World}{b:Nat}{o:Obj}(h:w.heap[b]? =δ o):w.eW b o=w:=by
 unfold World.eW;have hb:=(lT.1 h)
 obtain⟨hb,e⟩:=hb
 have:w.heap.setIfInBounds b o=w.heap:=by
  apply Array.ext_getElem?;intro i;rw[Uw];by_cases hi:b=i
  ·subst hi;rw[aO rfl,aO hb,h]
  ·rw[aL hi]
 rw[this]
theorem apo(w:World)(b:Nat)(o o':Obj):(w.eW b o).eW b o'=w.eW b o':=by unfold World.eW;simp
theorem alS{w:World}{b off:Nat}{arr:Array Value}{t:TypeId}{fz:Nat×Nat}(h:w.heap[b]? =δ (.cells arr t fz))(v:Value):
  w.setCell ⟨b,off,ξ⟩ v=w.eW b (.cells (arr.setIfInBounds off v) t fz):=by
 unfold World.setCell World.eW;obtain⟨hb,e⟩:=lT.1 h;congr 1;apply Array.ext_getElem?;intro i;rw[Array.getElem?_modify,Uw];by_cases hi:b=i
 ·subst hi;simp [h,hb,e]
 ·simp [hi]
section
variable {P : Program} {c : RC}
theorem apv{v:Value}(h:fc v=η)(w:World)(a:Addr):(store a v).run P w=stored P w a v .plain:=by cases v<;>first|exact run_store P w a _ .plain rfl|(simp [fc]at h)
theorem HM{b off:Nat}{t:TypeId}:∀(vs:List Value)(i:Nat)(w:World)(arr:Array Value),w.heap[b]? =δ (.cells arr t (0,0))->off+i+vs.length<=arr.size->(∀x∈vs,fc x=η)->
  (storeCells ⟨b,off,ξ⟩ vs i).run P w=.ok () (w.eW b (.cells (gI arr (off+i) vs) t (0,0)))
 |[],i,w,arr,h,hl,ho=>by simp [storeCells,afE,KP h]
 |v::vs,i,w,arr,h,hl,ho=>by
  have hc:w.cell? ⟨b,off+i,ξ⟩=δ (arr[off+i]'(by simp at hl;omega)):=by
   rw[AK h,uD]
  have hf:w.frozen? ⟨b,off+i,ξ⟩=ι:=by simp [World.frozen?,h]
  have hs:(store ((⟨b,off,ξ⟩:Addr).add i) v).run P w=.ok () (w.eW b (.cells (arr.setIfInBounds (off+i) v) t (0,0))):=by rw[qO,apv (ho v (by simp)),stored];simp [hc,hf,alS h]
  have hb:b<w.heap.size:=(lT.1 h).1;have ih:=HM (off:=off) vs (i+1) (w.eW b (.cells (arr.setIfInBounds (off+i) v) t (0,0))) (arr.setIfInBounds (off+i) v) (vw _ hb) (by simp at hl ⊢;omega) (λx hx=>ho x (by simp [hx]));simp only[storeCells,u9,hs,ir,ih,apo];rw[aeH _ _ _ _ (by simpa using hl)];rfl
theorem aR.gI{cs new cs':List AV}{arr:Array Value}{vs:List Value}{off:Nat}(h:Φ off new cs=δ cs')(r:aR c cs arr.toList)(q:aR c new vs):aR c cs' (Proofs.YtmjgmpmhipenjaaGreat.gI arr off vs).toList/\off+vs.length<=arr.size:=by
 unfold Φ at h;split at h
 ·injection h with h
  subst h;have l1:=r.length;have l2:=q.length;simp at l1;refine⟨?_,by omega⟩;simp only[Proofs.YtmjgmpmhipenjaaGreat.gI,aB7];rw[<-l2];exact((r.take off).append q).append (r.drop _)
 ·cases h
theorem ID{arr:Array Value}{vs:List Value}{off:Nat}(h:∀x∈arr.toList,fc x=η)(k:∀x∈vs,fc x=η):∀x∈(gI arr off vs).toList,fc x=η:=by
 intro x hx;simp only[gI,aB7,jJ]at hx;rcases hx with(hx|hx)|hx
 ·exact h x (xq hx)
 ·exact k x hx
 ·exact h x (List.mem_of_mem_drop hx)
theorem OV(sz:Nat):∀(n:Nat)(l:List AV),(gd sz n l).length=n
 |0,_=>rfl
 |n+1,l=>by simp [gd,OV sz n]
theorem aA0{sz b:Nat}:∀(n off:Nat)(l:List AV),l.length=n*sz->bT c b off l->bY c sz b off (gd sz n l)
 |0,off,l,_,_=>by simp [gd,bY]
 |n+1,off,l,hl,r=>by simp only[gd,bY];rw[gu]at hl;refine⟨by simp;omega,r.take sz,aA0 n (off+sz) _ (by simp;omega) (r.drop sz)⟩
theorem range_zero(z:List Value)(hz:0<z.length):∀n,((List.range (n*z.length)).map λi=>(z.toArray)[i % z.toArray.size]!)=(Z5 n z).flatten
 |0=>by simp
 |n+1=>by
  rw[gu,Nat.one_mul,List.range_add,V8,range_zero z hz n,List.replicate_succ',aCy];congr 1;simp only[Zc,VG,List.flatten_nil,TU];apply List.ext_getElem
  ·simp
  ·intro i h1 h2;simp at h1;simp only[List.getElem_map,List.getElem_range,Function.comp,Y9];rw[Nat.add_comm,Nat.add_mul_mod_self_right,Nat.mod_eq_of_lt h1];simp [h1]
theorem aR.flatten{zs:List AV}{vs:List Value}(h:aR c zs vs):∀n,aR c (Z5 n zs).flatten (Z5 n vs).flatten
 |0=>by simp [aR]
 |n+1=>by simp only[List.replicate_succ,VG];exact h.append (aR.flatten h n)
end
section
variable {X : Fx} {z : Z} {s : AS} {a : Act} {w w' : World} {E : List Pl} {pb : Nat -> Option Nat}
theorem Ik(h:St X z s a w E pb){tag:Option (Nat×Bool)}(ht:tN a tag){x:Operand}{b off:Nat}{cs:List AV}(hp:place X s tag x=δ (b,off))(hb:ZE (s.sl.getD b .undef)=δ cs):
  ∃k,pb b=δ k/\a.eval x=.pointer (δ ⟨k,off,ξ⟩)/\B9 (ctx z w E pb) k cs/\s.sl[b]? =δ (.lbx cs):=by
 have nH:s.sl[b]? =δ (.lbx cs):=by
  by_cases hlt:b<s.sl.length
  ·have e:s.sl.getD b .undef=s.sl[b]:=by simp [YA,hlt]
   rw[e]at hb;rw[bU hlt];generalize s.sl[b]=y at *
   cases y<;>simp only[ZE]at hb<;>first|(cases hb;done)|(injection hb with hb;subst hb;rfl)
  ·have e:s.sl.getD b .undef=.undef:=by simp [YA,Nat.le_of_not_lt hlt]
   rw[e]at hb;cases hb
 obtain⟨k,k1,k2,k3⟩:=h.slot b _ nH;refine⟨k,k1,?_,k3,nH⟩;cases x with
 |tmp t=>
  simp only[place]at hp;cases hL:X.L.contains t
  ·rw[hL]at hp;simp only[bK]at hp;cases hA:s.A t with
   |none=>rw[hA]at hp;cases hp
   |some p=>
    rw[hA]at hp;simp only at hp;cases hLs:X.L.contains p.slot
    ·rw[hLs]at hp;cases hp
    rw[hLs]at hp;simp only[cA]at hp
    have key:p.slot=b/\p.off=off/\tN a p.tag:=by
     cases Ep:p.tag with
     |none=>rw[Ep]at hp;simp only[Δ,j0]at hp;exact⟨hp.1,hp.2,trivial⟩
     |some g=>
      rw[Ep]at hp;simp only at hp;cases hg:(tag==δ g)
      ·rw[hg]at hp;cases hp
      ·rw[hg]at hp;simp only[cA,Δ,j0]at hp;have:tag=δ g:=by simpa using hg
       exact⟨hp.1,hp.2,this▸ht⟩
    obtain⟨e1,e2,e3⟩:=key;obtain⟨k',j1,j2⟩:=h.oN t p hA e3;rw[e1,k1]at j1;injection j1 with j1;subst j1
    rw[e2]at j2;exact j2
  ·rw[hL]at hp;simp only[cA,Δ,j0]at hp;obtain⟨rfl,rfl⟩:=hp;exact k2
 |_=>simp [place]at hp
theorem acY{c:RC}{σ:Heap}(hh:jA c σ){x:AV}{cs:List AV}{v:Value}(h:χ x σ=δ cs)(r:aq c x v):∃b off,v=.pointer (δ ⟨b,off,ξ⟩)/\bT c b off cs:=by
 cases x<;>simp only[χ]at h<;>first|(cases h;done)|skip
 case rp l=>
  injection h with h;subst h
  simp only[aq]at r;obtain⟨b,off,e,_,_,r⟩:=r;exact⟨b,off,e,r⟩
 case op id off=>
  simp only[aq]at r;obtain⟨p,h1,h2,e⟩:=r;split at h
  ·rename_i cs0 hs;injection h with h;subst h
   obtain⟨_,h3⟩:=hh.blk id p _ h1 hs;exact⟨_,_,e,by simpa using h3.2.drop off⟩
  ·cases h
 case oe id g i off=>
  simp only[aq]at r;obtain⟨hg,p,h1,h2,q,e,r⟩:=r;split at h
  ·rename_i g' sz es hs;split at h
   ·rename_i Y8;obtain⟨el,h3,h4⟩:=eP.1 h;subst h4;obtain⟨k1,k2,k3,k4,k5,k6,k7,_⟩:=hh.blk id p _ h1 hs;have hq:=r (by rw[Y8,k1]);subst hq;refine⟨_,_,e,?_⟩;rw[k3];exact(bY.nth k7 h3).2.drop off
   ·cases h
  ·cases h
theorem Py{c:RC}{ρ:Operand->Value}(ig:∀x,aq c (ev X s x) (ρ x)){pl:Nat->Option (Nat×TypeId)}{place:Nat->Option (Nat×Nat)}(hp:∀i off t,pl i=δ (off,t)->place i=δ (off,X.P.cellsOf t)):
  ∀(ps:List (Nat×Operand))(cs cs':List AV)(arr:Array Value),qY X s pl ps cs=δ cs'->aR c cs arr.toList->(∀x∈arr.toList,fc x=η)->
   ∃Eb,Instr.fill place arr (ps.map λp=>(p.1,ρ p.2))=δ Eb/\aR c cs' Eb.toList/\∀x∈Eb.toList,fc x=η
 |[],cs,cs',arr,h,r,o=>by
  simp only[qY]at h;injection h with h;subst h
  exact⟨arr,by simp [Instr.fill],r,o⟩
 |(i,x)::ps,cs,cs',arr,h,r,o=>by
  simp only[qY]at h;cases hpl:pl i with
  |none=>rw[hpl]at h;cases h
  |some ot=>
   obtain⟨off,t⟩:=ot;rw[hpl]at h;simp only at h;obtain⟨new,h1,h2⟩:=bX.1 h;obtain⟨c2,h3,h4⟩:=bX.1 h2;obtain⟨r1,r2,r3,_⟩:=Ia X h1 (ig x);obtain⟨r4,r5⟩:=r.gI h3 r1;have r5':off+(ρ x).cells.size<=arr.size:=by simpa using r5
   obtain⟨Eb,k1,k2,k3⟩:=Py ig hp ps c2 cs' (gI arr off (ρ x).cells.toList) h4 r4 (ID o r2);refine⟨Eb,?_,k2,k3⟩;simp only[eo,Instr.fill,hp i off t hpl];have hz:((ρ x).cells.size≠X.P.cellsOf t||decide (off+(ρ x).cells.size>arr.size))=ι:=by simp [r3];omega
   have hf:(ρ x).cells.zipIdx.foldl (λcs(p:Value×Nat)=>cs.setIfInBounds (off+p.2) p.1) arr=gI arr off (ρ x).cells.toList:=by have:=aec off (ρ x).cells.toList 0 arr (by simpa using r5');rw[<-Array.foldl_toList];simpa using this
   simp only[hz];rw[<-k1,<-hf];rfl
end
end
section
open Go.RowKit
section
variable {c : RC} (w : World)
theorem al5{P:Program}(fs:List Field)(body:Field->PUnit->Sem (ForInStep PUnit))(h:∀f∈fs,(body f ⟨⟩).run P w=.ok (.yield ⟨⟩) w):(forIn fs PUnit.unit body:Sem PUnit).run P w=.ok ⟨⟩ w:=by
 induction fs with
 |nil=>simp
 |cons f fs ih=>simp only[List.forIn_cons,u9,h f (by simp),ir];exact ih λg hg=>h g (by simp [hg])
theorem ad4 {P : Program} {d : Nat} : ∀ (fs : List Field) (off tot : Nat), Bh (mw P d) P.cellsOf fs off = δ tot -> ∀ f ∈ fs, f.name ≠ "_" /\ mw P d f.type = η /\ f.offset + P.cellsOf f.type <= tot
 |[],off,tot,h,f,hf=>by simp at hf
 |g::fs,off,tot,h,f,hf=>by
  simp only[Bh]at h;cases hc : (g.name != "_" && g.offset == off && mw P d g.type)
  ·rw[hc]at h;cases h
  ·rw[hc]at h;simp only[cA]at h;simp only[je,bne_iff_ne,beq_iff_eq]at hc;obtain⟨⟨hn,ho⟩,hk⟩:=hc;have hle:=Px (λt=>Ih d t) fs _ _ h;rcases iV.1 hf with rfl|hf
   ·exact⟨hn,hk,by omega⟩
   ·exact ad4 fs _ _ h f hf
theorem abf{P:Program}{em:Bool}:∀(d D:Nat)(hD:d<=D)(t:TypeId)(vs:List Value),mw P d t=η->vs.length=P.cellsOf t->(Um em D t (pg P t vs)).run P w=.ok () w
 |0,_,_,t,vs,h,_=>by simp [mw]at h
 |d+1,0,hD,_,_,_,_=>by omega
 |d+1,D+1,hD,t,vs,h,l=>by
  unfold mw at h;cases hd:P.underlying t with
  |none=>rw[hd]at h;cases h
  |some de=>
   rw[hd]at h;cases de<;>simp only at h<;>first|(cases h;done)|skip
   case bool=>unfold Um;simp [run_underlying hd,pg,hd]
   case int=>unfold Um;simp [run_underlying hd,pg,hd]
   case string=>unfold Um;simp [run_underlying hd,pg,hd]
   case struct fs=>
    simp only[je,XX,beq_iff_eq]at h;have hm:=ad4 fs.toList 0 _ h.2;unfold Um;simp only[u9,run_underlying hd,pg,hd,ir];rw[<-Array.forIn_toList,al5 w]
    ·first|done|simp
    ·intro f hf;obtain⟨hn,hk,hle⟩:=hm f hf
     obtain⟨d',rfl⟩:∃d',d=d'+1:=by
      cases d with
      |zero=>simp [mw]at hk
      |succ d'=>exact⟨d',rfl⟩
     have r1:=Tm w hk (vs:=vs.toArray) (off:=f.offset) (by simp;omega);have e1:=abf (em:=em) (d'+1) D (by omega) f.type _ hk (show((vs.toArray.toList.drop f.offset).take (P.cellsOf f.type)).length=_ by simp;omega);simp [hn,r1,e1]
theorem OJ(X:Fx){kt:TypeId}{ek:A.EK}(ht:nY X kt=δ ek){k:AV}{key:Value}(hk:A.kK ek k=η)(r:aq c k key)(em:Bool):(Um em 10000 kt key).run X.P w=.ok () w:=by
 unfold nY at ht;cases hd:X.P.underlying kt with
 |none=>rw[hd]at ht;cases ht
 |some de=>
  rw[hd]at ht;cases de<;>simp only at ht<;>first|(cases ht;done)|skip
  case bool=>show(Um em (9999+1) kt key).run X.P w=_;unfold Um;simp [run_underlying hd]
  case int=>show(Um em (9999+1) kt key).run X.P w=_;unfold Um;simp [run_underlying hd]
  case string=>show(Um em (9999+1) kt key).run X.P w=_;unfold Um;simp [run_underlying hd]
  case pointer el=>
   cases hc:(X.P.cellsOf el !=0)
   ·rw[hc]at ht;cases ht
   ·rw[hc]at ht;injection ht with ht;subst ht;cases k<;>simp [A.kK]at hk
  case struct fs=>
   cases hc:(mw X.P 9 kt&&!X.P.eqGuardType X.P.depth kt)
   ·rw[hc]at ht;cases ht
   ·rw[hc]at ht;injection ht with ht;subst ht
    simp only[je,XX]at hc;cases k<;>simp only[A.kK]at hk<;>first|(cases hk;done)|skip
    rename_i xs;simp only[aq]at r;obtain⟨vs,rfl,r1,_⟩:=r;have hl:vs.toList.length=X.P.cellsOf kt:=by rw[<-r1.length,beq_iff_eq.1 hk,Ih 9 kt hc.1]
    have:=abf w (em:=em) 9 10000 (by decide) kt vs.toList hc.1 hl;simpa [pg,hd]using this
def aAo(c:RC)(es:List MapEntry):Option AV->Option (Nat×Value)->Prop
 |none,ξ=>True
 |some av,δ (i,v)=>aq c av v/\∃e,es[i]? =δ e/\e.val=v
 |_,_=>False
theorem abI(X:Fx){kt:TypeId}{ek:A.EK}(ht:nY X kt=δ ek){k:AV}{key:Value}(rk:aq c k key):∀(bJ:List (AV×AV))(es kP:List MapEntry)(i:Nat)(r:Option AV),XS ek k bJ=δ r->dD c bJ es->(∀j,es[j]? =kP[i+j]?)->
  ∃res,(aBM kt key es i).run X.P w=.ok res w/\aAo c kP r res/\A.vG ek k bJ i=δ (res.map (·.1))
 |[],es,kP,i,r,h,re,he=>by
  simp only[XS]at h;injection h with h;subst h
  simp only[dD]at re;subst re;exact⟨ξ,by simp [aBM],trivial,rfl⟩
 |(k',v')::bJ,es,kP,i,r,h,re,he=>by
  simp only[XS]at h;obtain⟨b,h1,h2⟩:=bX.1 h;obtain⟨e,es',rfl,r1,r2,r3⟩:=re;have hq:=(VP w X ht h1 rk r1).1;cases b
  ·simp only[bK]at h2;obtain⟨res,k1,k2⟩:=abI X ht rk bJ es' kP (i+1) r h2 r3 (λj=>by have:=he (j+1);simp at this;rw[show i+1+j=i+(j+1) by omega];exact this);exact⟨res,by simp [aBM,hq,k1],k2.1,by simp [A.vG,h1,k2.2]⟩
  ·simp only[cA]at h2;injection h2 with h2;subst h2
   have h0:=he 0;simp at h0;exact⟨δ (i,e.val),by simp [aBM,hq],⟨r2,e,h0.symm,rfl⟩,by simp [A.vG,h1]⟩
theorem aea(X:Fx){kt:TypeId}{ek:A.EK}{d:TypeDesc}(hd:X.P.underlying kt=δ d)(ht:nY X kt=δ ek)(JI:∀fs,d≠.struct fs)(hnp:∀e,d≠.pointer e){k:AV}{key:Value}(rk:aq c k key):
  ∀(bJ:List (AV×AV))(es kP:List MapEntry)(i:Nat)(r:Option AV),XS ek k bJ=δ r->dD c bJ es->(∀j,es[j]? =kP[i+j]?)->
  ∃res,V2 d key es i=δ res/\aAo c kP r res/\A.vG ek k bJ i=δ (res.map (·.1))
 |[],es,kP,i,r,h,re,he=>by
  simp only[XS]at h;injection h with h;subst h
  simp only[dD]at re;subst re;exact⟨ξ,by simp [V2],trivial,rfl⟩
 |(k',v')::bJ,es,kP,i,r,h,re,he=>by
  simp only[XS]at h;obtain⟨b,h1,h2⟩:=bX.1 h;obtain⟨e,es',rfl,r1,r2,r3⟩:=re
  have hsame:V5 d key e.key=δ b:=by
   unfold nY at ht;rw[hd]at ht;cases d<;>simp only at ht<;>first|(cases ht;done)|exact absurd rfl (JI _)|exact absurd rfl (hnp _)|skip
   case bool=>
    injection ht with ht;subst ht
    simp only[Uj,A.Au]at h1;split at h1
    ·simp only[aq]at rk r1;injection h1 with h1;rw[rk,r1];simp [V5,h1]
    ·cases h1
   case int=>
    injection ht with ht;subst ht
    simp only[Uj,A.pR]at h1;split at h1
    ·split at h1
     ·simp only[aq]at rk r1;injection h1 with h1;rw[rk,r1];simp [V5,h1];assumption
     ·cases h1
    ·cases h1
   case string=>
    injection ht with ht;subst ht
    simp only[Uj,A.sN]at h1;split at h1
    ·simp only[aq]at rk r1;injection h1 with h1;rw[rk,r1];simp [V5,h1]
    ·cases h1
  cases b
  ·simp only[bK]at h2;obtain⟨res,k1,k2⟩:=aea X hd ht JI hnp rk bJ es' kP (i+1) r h2 r3 (λj=>by have:=he (j+1);simp at this;rw[show i+1+j=i+(j+1) by omega];exact this);exact⟨res,by simp [V2,hsame,k1],k2.1,by simp [A.vG,h1,k2.2]⟩
  ·simp only[cA]at h2;injection h2 with h2;subst h2
   have h0:=he 0;simp at h0;exact⟨δ (i,e.val),by simp [V2,hsame],⟨r2,e,h0.symm,rfl⟩,by simp [A.vG,h1]⟩
theorem avs(X:Fx){kt:TypeId}{ek:A.EK}(ht:nY X kt=δ ek){k:AV}{key:Value}(hk:A.kK ek k=η)(rk:aq c k key){bJ:List (AV×AV)}{es:List MapEntry}{r:Option AV}(h:XS ek k bJ=δ r)(re:dD c bJ es):
  ∃res,(aB9 kt key es).run X.P w=.ok res w/\aAo c es r res/\A.vG ek k bJ 0=δ (res.map (·.1)):=by
 cases hd:X.P.underlying kt with
 |none=>unfold nY at ht;rw[hd]at ht;cases ht
 |some d=>
  by_cases hs:∃fs,d=.struct fs
  ·obtain⟨fs,rfl⟩:=hs;cases es with
   |nil=>
    cases bJ with
    |nil=>simp only[XS]at h;injection h with h;subst h;exact⟨ξ,by simp [aB9,run_underlying hd,V2],trivial,rfl⟩
    |cons p bJ=>obtain⟨k',v'⟩:=p;simp [dD]at re
   |cons e es'=>
    obtain⟨res,k1,k2⟩:=abI w X ht rk bJ (e::es') (e::es') 0 r h re (λj=>by simp);refine⟨res,?_,k2⟩;have:V2 (.struct fs) key (e::es') 0=ξ:=by simp [V2,V5]
    simp [aB9,run_underlying hd,this,k1]
  ·have hp:∀e,d≠.pointer e:=by
    rintro e rfl;unfold nY at ht;rw[hd]at ht;simp only at ht;cases hc:(X.P.cellsOf e !=0)
    ·rw[hc]at ht;cases ht
    ·rw[hc]at ht;injection ht with ht;subst ht;cases k<;>simp [A.kK]at hk
   obtain⟨res,k1,k2⟩:=aea X hd ht (λfs e=>hs ⟨fs,e⟩) hp rk bJ es es 0 r h re (λj=>by simp);exact⟨res,by simp [aB9,run_underlying hd,k1],k2⟩
theorem dD.length{c:RC}:∀{l:List (AV×AV)}{es:List MapEntry},dD c l es->l.length=es.length
 |[],es,h=>by simp only[dD]at h;subst h;rfl
 |(k,v)::l,es,h=>by obtain⟨e,es',rfl,_,_,h⟩:=h;simp [dD.length h]
theorem aqD{c:RC}{l L:List MapEntry}(hp:l.Perm L):∀{es:List (AV×AV)},dD c es l->∃kP,dD c kP L/\kP.Perm es:=by
 induction hp with
 |nil=>intro es h;exact⟨es,h,List.Perm.refl _⟩
 |cons x _ ih=>
  intro es h;cases es with
  |nil=>simp [dD]at h
  |cons p es=>
   obtain⟨e,es',h1,h2,h3,h4⟩:=h;injection h1 with h1 h5
   subst h1 h5;obtain⟨kP,k1,k2⟩:=ih h4;exact⟨p::kP,⟨_,_,rfl,h2,h3,k1⟩,k2.cons p⟩
 |swap x y l=>
  intro es h
  match es,h with
  |[],h=>simp [dD]at h
  |[p],h=>obtain⟨e,es',h1,h2,h3,h4⟩:=h;simp only[dD]at h4;subst h4;cases h1
  |p::q::es,h=>
   obtain⟨e,es',h1,h2,h3,h4⟩:=h;obtain⟨e',ay0,h5,h6,h7,h8⟩:=h4;subst h5;injection h1 with h1 h9
   injection h9 with h9 MJ
   subst h1 h9 MJ;exact⟨q::p::es,⟨_,_,rfl,h6,h7,_,_,rfl,h2,h3,h8⟩,List.Perm.swap _ _ _⟩
 |trans _ _ ih1 ih2=>intro es h;obtain⟨Aw,k1,k2⟩:=ih1 h;obtain⟨Jx,k3,k4⟩:=ih2 k1;exact⟨Jx,k3,k4.trans k2⟩
theorem ac4{e:A.EK}{k v:AV}:∀{es:List (AV×AV)},XS e k es=δ (δ v)->∃p∈es,p.2=v/\Uj e k p.1=δ η
 |[],h=>by simp [XS]at h
 |(k',v')::r,h=>by
  simp only[XS]at h;obtain⟨b,h1,h2⟩:=bX.1 h;cases b
  ·obtain⟨p,q1,q2,q3⟩:=ac4 h2;exact⟨p,rA _ q1,q2,q3⟩
  ·injection h2 with h2;injection h2 with h2
   exact⟨(k',v'),XJ,h2,h1⟩
theorem ac3{e:A.EK}{k:AV}:∀{es:List (AV×AV)},XS e k es=δ ξ->∀p∈es,Uj e k p.1=δ ι
 |[],h=>by simp
 |(k',v')::r,h=>by
  simp only[XS]at h;obtain⟨b,h1,h2⟩:=bX.1 h;cases b
  ·intro p hp;rcases iV.1 hp with rfl|hp
   ·exact h1
   ·exact ac3 h2 p hp
  ·injection h2 with h2;cases h2
theorem abi{e:A.EK}{k:AV}:∀{es:List (AV×AV)},(∀p∈es,Uj e k p.1=δ ι)->XS e k es=δ ξ
 |[],_=>rfl
 |(k',v')::r,h=>by simp only[XS,h (k',v') XJ,aP,bK];exact abi λp hp=>h p (rA _ hp)
theorem abj{e:A.EK}{k:AV}{p:AV×AV}(h1:Uj e k p.1=δ η):∀{es:List (AV×AV)},p∈es->(es.map (·.1)).Nodup->(∀q∈es,q.1≠p.1->Uj e k q.1=δ ι)->XS e k es=δ (δ p.2)
 |[],hm,_,_=>by simp at hm
 |(k',v')::r,hm,hn,h=>by
  rcases iV.1 hm with rfl|hm
  ·simp only[XS,h1,aP,cA]
  ·simp only[eo,rB]at hn;have hne:k'≠p.1:=λq=>hn.1 (by rw[q];exact Vb hm)
   simp only[XS,h (k',v') XJ hne,aP,bK];exact abj h1 hm hn.2 λq hq=>h q (rA _ hq)
theorem bqB(s t:ByteArray):(s==t)=decide (s=t):=by obtain⟨a⟩:=s;obtain⟨b⟩:=t;show(a==b)=_;rw[qn];simp
theorem arH{q:Nat}{x:AV}{n:Int}{b:Bool}(h:A.oR q x (.int θ n)=δ b):q=0/\∃a,x=.int θ a/\b=(a==n):=by
 match q,h with
 |0,h=>
  cases x<;>simp only[A.oR,A.pR]at h<;>first|(cases h;done)|skip
  split at h
  ·rename_i hk;injection h with h
   exact⟨rfl,_,by rw[hk],h.symm⟩
  ·cases h
 |1,h=>cases x<;>simp [A.oR,A.Au]at h
 |2,h=>cases x<;>simp [A.oR,A.sN]at h
 |q+3,h=>simp [A.oR]at h
theorem arI{q:Nat}{x:AV}{n:ByteArray}{b:Bool}(h:A.oR q x (.str n)=δ b):q=2/\∃a,x=.str a/\b=(a==n):=by
 match q,h with
 |0,h=>cases x<;>simp [A.oR,A.pR]at h
 |1,h=>cases x<;>simp [A.oR,A.Au]at h
 |2,h=>
  cases x<;>simp only[A.oR,A.sN]at h<;>first|(cases h;done)|skip
  injection h with h
  exact⟨rfl,_,rfl,h.symm⟩
 |q+3,h=>simp [A.oR]at h
theorem aoA{e:A.EK}{k:AV}{n m:Int}{s t:ByteArray}(h:Uj e k (.agg [.int θ n,.str s])=δ η)(hne:(Λ [.int θ m,.str t])≠.agg [.int θ n,.str s]):Uj e k (.agg [.int θ m,.str t])=δ ι:=by
 unfold Uj at h ⊢;cases e with
 |i=>cases k<;>simp [A.pR]at h
 |b=>cases k<;>simp [A.Au]at h
 |z=>cases k<;>simp [A.sN]at h
 |p=>cases k<;>simp [A.azF]at h
 |s ks=>
  cases k<;>simp only[reduceCtorEq]at h ⊢;rename_i xs
  have hk:∃k1 k2 x y,ks=[k1,k2]/\xs=[x,y]:=by
   match ks,xs,h with
   |[],[],h=>simp [XN]at h
   |[],_::_,h=>simp [XN]at h
   |_::_,[],h=>simp [XN]at h
   |[_],[_],h=>simp [XN]at h
   |[_],_::_::_,h=>simp [XN]at h
   |_::_::_,[_],h=>simp [XN]at h
   |[k1,k2],[x,y],h=>exact⟨_,_,_,_,rfl,rfl⟩
   |[_,_],_::_::_::_,h=>simp [XN]at h
   |_::_::_::_,[_,_],h=>simp [XN]at h
   |_::_::_::_,_::_::_::_,h=>simp [XN]at h
  obtain⟨k1,k2,x,y,rfl,rfl⟩:=hk;simp only[XN]at h ⊢;obtain⟨b1,h1,h2⟩:=bX.1 h;obtain⟨b2,h3,h4⟩:=eP.1 h2;obtain⟨b3,h5,h6⟩:=bX.1 h3;simp only[cq,Δ,Bool.and_true]at h6;subst h6;simp only[je]at h4;obtain⟨rfl,rfl⟩:=h4;obtain⟨rfl,a,rfl,e1⟩:=arH h1;obtain⟨rfl,z,rfl,e2⟩:=arI h5;have e1:=eq_of_beq e1.symm;rw[bqB]at e2;have e2:=of_decide_eq_true e2.symm;subst e1 e2;simp only[A.oR,A.pR,A.sN,if_true,aP,cq,Δ,Bool.and_eq_false_iff,Bool.and_true,bqB];by_cases e1:a=m
  ·right;rw[decide_eq_false_iff_not];intro e2;exact hne (by rw[e1,e2])
  ·left;rw[beq_eq_false_iff_ne];exact e1
theorem aoD{e:A.EK}{k:AV}{es kP:List (AV×AV)}{r:Option AV}(hd:IU es)(hp:kP.Perm es)(h:XS e k es=δ r):XS e k kP=δ r:=by
 cases r with
 |none=>exact abi λp hm=>ac3 h p (hp.mem_iff.1 hm)
 |some v=>
  obtain⟨p,h1,rfl,h3⟩:=ac4 h;refine abj h3 (hp.mem_iff.2 h1) ((hp.map _).nodup_iff.2 hd.2) λq hq hne=>?_
  obtain⟨n,s,e1⟩:=hd.1 p h1;obtain⟨m,t,e2⟩:=hd.1 q (hp.mem_iff.1 hq);rw[e1]at h3 hne;rw[e2]at hne ⊢;exact aoA h3 hne
theorem apd{c:RC}{es:List (AV×AV)}{l L:List MapEntry}(h:dD c es l)(hp:afL es l L):∃kP,dD c kP L/\kP.length=es.length/\∀e k r,XS e k es=δ r->XS e k kP=δ r:=by
 rcases hp with rfl|⟨hp,hd⟩
 ·exact⟨es,h,rfl,λ_ _ _ q=>q⟩
 ·obtain⟨kP,k1,k2⟩:=aqD hp h;exact⟨kP,k1,k2.length_eq,λ_ _ _ q=>aoD hd k2 q⟩
theorem abG{P:Program}(hw:c.w=w){σ:Heap}(hh:jA c σ){m:AV}{v:Value}{bJ:List (AV×AV)}(h:Tn m σ=δ bJ)(r:aq c m v):
  ∃(es:Array MapEntry)(lS:List (AV×AV)),dD c lS es.toList/\lS.length=bJ.length/\(∀e k r,XS e k bJ=δ r->XS e k lS=δ r)/\((v=.map ξ/\es=#[])\/∃b aJ,v=.map (δ b)/\(getObj b).run P w=.ok (.map es aJ) w):=by
 cases m<;>simp only[Tn]at h<;>first|(cases h;done)|skip
 case nm=>
  injection h with h;subst h
  simp only[aq]at r;exact⟨#[],[],by simp [dD],rfl,λ_ _ _ q=>q,.inl ⟨r,rfl⟩⟩
 case fm kP=>
  injection h with h;subst h
  simp only[aq]at r;obtain⟨b,e,_,_,es,aJ,k1,_,l,k2,k3⟩:=r;rw[hw]at k1;obtain⟨Aw,j1,j2,j3⟩:=apd k2 k3;exact⟨es,Aw,j1,j2,j3,.inr ⟨b,aJ,e,by simp [getObj,Sp,k1]⟩⟩
 case om id=>
  simp only[aq]at r;obtain⟨p,h1,h2,e⟩:=r;split at h
  ·rename_i kP hs;injection h with h;subst h
   obtain⟨_,es,aJ,k1,_,k2⟩:=hh.blk id p _ h1 hs;rw[hw]at k1;exact⟨es,_,k2,rfl,λ_ _ _ q=>q,.inr ⟨p.b,aJ,e,by simp [getObj,Sp,k1]⟩⟩
  ·cases h
theorem aqq(X:Fx)(hw:c.w=w){σ:Heap}(hh:jA c σ){t kt et:TypeId}{inf:TypeInfo}{zv:Value}{ek:A.EK}{ok:Bool}{m k av:AV}{mv key:Value}(ht:X.P.underlying t=δ (.map kt et))(hi:X.P.info? et=δ inf)(hz:inf.zero=δ zv)(he:nY X kt=δ ek)
  (h:(bif ok then A.FI ek m k (yD zv) σ else WK ek m k (yD zv) σ)=δ av) (rm:aq c m mv) (rk:aq c k key):∃v,(Instr.lookup t mv key ok).run X.P w=.ok v w/\aq c av v:=by
 have axc:∃bJ r,A.kK ek k=η/\Tn m σ=δ bJ/\XS ek k bJ=δ r/\av=(bif ok then .aM [r.getD (yD zv),.bool r.isSome]else r.getD (yD zv)):=by
  cases ok<;>simp only[cA,bK,WK,A.FI]at h
  all_goals
   cases hk:A.kK ek k
   ·rw[hk]at h;cases h
   ·rw[hk]at h;simp only[cA]at h;obtain⟨bJ,h1,h2⟩:=bX.1 h;obtain⟨r,h3,h4⟩:=eP.1 h2;exact⟨bJ,r,rfl,h1,h3,h4.symm⟩
 obtain⟨bJ,r,hk,h1,h2,rfl⟩:=axc;obtain⟨es,lS,k1,_,kf,k2⟩:=abG (P:=X.P) w hw hh h1 rm;obtain⟨res,k3,k4,_⟩:=avs w X he hk rk (kf _ _ _ h2) k1;have ug:(zeroValue et).run X.P w=.ok zv w:=by simp [zeroValue,zu w hi,hz]
 have EE:=OJ w X he hk rk es.isEmpty
 have main:∀v b,(res=ξ->v=zv/\b=ι)->(∀i u,res=δ (i,u)->v=u/\b=η)->(Instr.lookup t mv key ok).run X.P w=.ok (if ok then .tuple #[v,.bool b]else v) w:=by
  intro v b hn hs;unfold Instr.lookup;simp only[u9,run_underlying ht,ir];rcases k2 with⟨rfl,rfl⟩|⟨bb,aJ,rfl,hg⟩
  ·simp only[Vf,ir,EE,u9,k3];cases res with
   |none=>obtain⟨rfl,rfl⟩:=hn rfl;simp [ug]
   |some p=>obtain⟨i,u⟩:=p;obtain⟨rfl,rfl⟩:=hs i u rfl;simp
  ·simp only[u9,hg,Vf,ir,EE,k3];cases res with
   |none=>obtain⟨rfl,rfl⟩:=hn rfl;simp [ug]
   |some p=>obtain⟨i,u⟩:=p;obtain⟨rfl,rfl⟩:=hs i u rfl;simp
 have fin:∀v b,aq c (r.getD (yD zv)) v->r.isSome=b->aq c (bif ok then .aM [r.getD (yD zv),.bool r.isSome]else r.getD (yD zv)) (if ok then .tuple #[v,.bool b]else v):=by
  intro v b h1 h2;cases ok
  ·simpa using h1
  ·simp only[cA,if_true,aq];refine⟨_,rfl,?_⟩;simp only[aR];exact⟨v,_,rfl,h1,_,_,rfl,by simp [aq,h2],rfl⟩
 cases res with
 |none=>
  cases r with
  |none=>exact⟨_,main zv ι (λ_=>⟨rfl,rfl⟩) (λi u e=>by cases e),fin zv ι (adp c zv) rfl⟩
  |some x=>exact k4.elim
 |some p=>
  obtain⟨i,u⟩:=p;cases r with
  |none=>exact k4.elim
  |some x=>exact⟨_,main u η (λe=>by cases e) (λi' u' e=>by injection e with e;injection e with _ e;exact⟨e,rfl⟩),fin u η k4.1 rfl⟩
theorem find_born{f:MapEntry->Nat}:∀{l:List MapEntry}{e:MapEntry},(l.map f).Nodup->e∈l->l.find? (λx=>f x==f e)=δ e
 |[],e,_,h=>by simp at h
 |x::l,e,hn,h=>by
  simp only[eo,rB]at hn;rcases iV.1 h with rfl|h
  ·simp
  ·have hne:f x≠f e:=λk=>hn.1 (fL.2 ⟨e,h,k.symm⟩)
   have:(f x==f e)=ι:=by simpa using hne
   rw[List.find?_cons,this];exact find_born hn.2 h
theorem aoz{P:Program}(hw:c.w=w){σ:Heap}(hh:jA c σ){i av:AV}{v:Value}(hk:A.yu i σ=δ av)(ri:aq c i v):∃v',(Instr.entry v).run P w=.ok v' w/\aq c av v':=by
 subst hw;unfold A.yu at hk;split at hk
 ·rename_i id;simp only[aq]at ri;obtain⟨p,e1,e2,rfl⟩:=ri;split at hk
  ·rename_i q left hs;injection hk with hk
   subst hk;obtain⟨hg,hit⟩:=hh.blk id p _ e1 hs;rcases hit with⟨hn,_⟩|⟨m,seen,bJ,aJ,h3,h4,h5,h6,h7,h8,h9⟩
   ·cases hn
   ·rcases h9 with h9|⟨k',v',e,e3,e4,e5,e6,e7⟩
    ·cases h9
    ·injection e3 with e3
     subst e3;have jL:(getObj p.b).run P c.w=.ok (.mapIter (δ m) aJ seen aJ) c.w:=by simp [getObj,Sp,show c.w.heap[p.b]? =_ from h3]
     have vM:(getObj m).run P c.w=.ok (.map bJ aJ) c.w:=by simp [getObj,Sp,show c.w.heap[m]? =_ from h6]
     have hf:bJ.find? (λx=>x.born==e.born)=δ e:=by rw[<-Array.find?_toList];exact find_born (f:=(·.born)) h7.2 e5
     refine⟨.tuple #[e.key,e.val],by simp [Instr.entry,jL,vM,e4,hf],?_⟩;simp only[aq];exact⟨_,rfl,by simp only[aR];exact⟨_,_,rfl,e6,_,_,rfl,e7,rfl⟩⟩
  ·cases hk
 ·cases hk
end
end
section
open Go.RowKit
section
variable {X : Fx} {z : Z} {s : AS} {a : Act} {w w' : World} {E : List Pl} {pb : Nat -> Option Nat}
def fZ(X:Fx)(z:Z)(a:Act)(w:World)(E:List Pl)(pb:Nat->Option Nat)(o:Oper)(av:AV):Prop:=∃v w',(execOp a.eval o).run X.P w=.ok (.value v) w'/\Below w.heap.size w w'/\aq (ctx z w' E pb) av v
theorem fZ.same{o:Oper}{av:AV}{v:Value}(h:(execOp a.eval o).run X.P w=.ok (.value v) w)(r:aq (ctx z w E pb) av v):fZ X z a w E pb o av:=⟨v,w,h,Below.refl _ _,r⟩
theorem OZ(h:St X z s a w E pb)(t:TypeId){cs:List AV}{arr:Array Value}(r:aR (ctx z w E pb) cs arr.toList)(ho:∀x∈arr.toList,fc x=η):
  Below w.heap.size w (w.alloc (.cells arr t))/\w.heap.size<(w.alloc (.cells arr t)).heap.size/\¬(ctx z (w.alloc (.cells arr t)) E pb).X w.heap.size/\bT (ctx z (w.alloc (.cells arr t)) E pb) w.heap.size 0 cs:=by
 have g:Below w.heap.size w (w.alloc (.cells arr t)):=(Below.refl _ _).alloc (bF _) _;have hx:Ext (ctx z w E pb) (ctx z (w.alloc (.cells arr t)) E pb):=yl g;have hb:(w.alloc (.cells arr t)).heap[w.heap.size]? =δ (.cells arr t (0,0)):=(Wu w _).1;exact⟨g,by simp,h.fresh,bT.BA hb (Vs hx _ _ r) ho (λi hi=>by simp)⟩
theorem AN{P:Program}(t:TypeId)(arr:Array Value):(newRow t arr).run P w=.ok ⟨w.heap.size,0,ξ⟩ (w.alloc (.cells arr t)):=by rfl
theorem AQ{t:TypeId}{zs:List AV}(h:xm X t=δ zs)(c:RC):∃i v,X.P.info? t=δ i/\i.zero=δ v/\(zeroValue t).run X.P w=.ok v w/\zs=v.cells.toList.map DT/\aR c zs v.cells.toList/\∀x∈v.cells.toList,fc x=η:=by
 unfold xm at h;split at h
 ·rename_i i hi;split at h
  ·rename_i v hv;cases ho:v.cells.toList.all fc
   ·rw[ho]at h;cases h
   ·rw[ho]at h;simp only[cA]at h;injection h with h
    refine⟨i,v,hi,hv,by simp [zeroValue,zu w hi,hv],h.symm,?_,vS.1 ho⟩;rw[<-h];have:=aR.map (c:=c) DT id v.cells.toList (λx _=>Ut c x);simpa using this
  ·cases h
 ·cases h
theorem rC.map(h:St X z s a w E pb)(x:Option Operand):rC (ctx z w E pb) (x.map (ev X s)) (x.map a.eval):=by
 cases x with
 |none=>trivial
 |some x=>exact gf h x
theorem aln(h:St X z s a w E pb){dst:Option Tmp}{t ty:TypeId}{pos:String}{af:Array Edge}{g:Option (Nat×Bool)}{cs:List AV}(hz:xm X t=δ cs):
  fZ X z a w E pb ⟨dst,.alloc t,ty,pos,af,g⟩ (.rp cs):=by
 obtain⟨i,v,h1,h2,h3,h4,h5,h6⟩:=AQ (w:=w) hz (ctx z w E pb);obtain⟨k1,k2,k3,k4⟩:=OZ h t h5 h6;refine⟨.pointer (δ ⟨w.heap.size,0,ξ⟩),_,?_,k1,by simp only[aq];exact⟨_,_,rfl,k2,k3,k4⟩⟩;simp [execOp,Instr.alloc,h3,newVar,AN]
theorem amY(h:St X z s a w E pb){dst:Option Tmp}{t ty:TypeId}{x:Operand}{pos:String}{af:Array Edge}{g:Option (Nat×Bool)}{cs:List AV}(hc:A4 X t (ev X s x)=δ cs):
  fZ X z a w E pb ⟨dst,.box t x,ty,pos,af,g⟩ (.rp cs):=by
 obtain⟨h5,h6,_,_⟩:=Ia X hc (gf h x);obtain⟨k1,k2,k3,k4⟩:=OZ h t h5 h6;refine⟨.pointer (δ ⟨w.heap.size,0,ξ⟩),_,?_,k1,by simp only[aq];exact⟨_,_,rfl,k2,k3,k4⟩⟩;simp [execOp,Instr.box,newVar,AN]
theorem OF{t:TypeId}{f off:Nat}{ft:TypeId}(h:DD X t f=δ (off,ft)):∃fs fl,X.P.underlying t=δ (.struct fs)/\fs[f]? =δ fl/\fl.offset=off/\fl.type=ft:=by
 unfold DD at h;split at h
 ·rename_i fs hd;split at h
  ·rename_i fl hf;simp only[Δ,j0]at h;exact⟨fs,fl,hd,hf,h.1,h.2⟩
  ·cases h
 ·cases h
theorem abO{P:Program}:∀(fs:List Field),fs.all (λf=>(P.info? f.type).isSome)=η->(fs.mapM (λf=>do pure (f.offset,<-sizeOf f.type)):Sem (List (Nat×Nat))).run P w=.ok (fs.map λf=>(f.offset,P.cellsOf f.type)) w
 |[],_=>by simp
 |f::fs,h=>by simp only[aCh,je]at h;obtain⟨i,hi⟩:=Option.isSome_iff_exists.1 h.1;have ih:=abO fs h.2;simp only[List.mapM_cons,u9,KE w hi,ir,Vf,ih,eo]
theorem alo(h:St X z s a w E pb){dst:Option Tmp}{t ty:TypeId}{ps:Array (Nat×Operand)}{pos:String}{af:Array Edge}{g:Option (Nat×Bool)}{zs cs:List AV}{fs:Array Field}(hz:xm X t=δ zs)(hd:X.P.underlying t=δ (.struct fs))
  (hi:fs.toList.all (λf=>(X.P.info? f.type).isSome)=η) (hf:qY X s (DD X t) ps.toList zs=δ cs):fZ X z a w E pb ⟨dst,.build t ps,ty,pos,af,g⟩ (.agg cs):=by
 obtain⟨i,v,h1,h2,h3,h4,h5,h6⟩:=AQ (w:=w) hz (ctx z w E pb);have hpl:=abO (w:=w) fs.toList hi
 obtain⟨arr,k1,k2,k3⟩:=Py (c:=ctx z w E pb) (ρ:=a.eval) (λx=>gf h x) (pl:=DD X t) (place:=λj=>((fs.toList.map λf=>(f.offset,X.P.cellsOf f.type)).toArray)[j]?) (λj off t' hj=>by
   obtain⟨fs',fl,e1,e2,e3,e4⟩:=OF hj;rw[hd]at e1;injection e1 with e1;injection e1 with e1;subst e1
   simp [e2,e3,e4]) ps.toList _ cs v.cells hf h5 h6
 refine fZ.same (v:=.agg arr) ?_ (by simp only[aq];exact⟨arr,rfl,k2,k3⟩);have hps:(ps.map λ(p:Nat×Operand)=>(p.1,a.eval p.2)).toList=ps.toList.map λp=>(p.1,a.eval p.2):=by simp
 simp only[execOp,Instr.build,u9,run_underlying hd,ir,h3,Array.mapM_eq_mapM_toList,Sem.run_map,hpl,hps];rw[k1];simp
theorem ajV(h:St X z s a w E pb){dst:Option Tmp}{t e ty:TypeId}{len:Nat}{ps:Array (Nat×Operand)}{pos:String}{af:Array Edge}{g:Option (Nat×Bool)}{zs cs:List AV}{i:TypeInfo}{av:AV}
  (hd:X.P.underlying t=δ (.slice e)) (hi:X.P.info? e=δ i) (hz:xm X e=δ zs) (h0:i.size≠0) (hl:zs.length=i.size) (hm:¬16777216<len*i.size) (GK:(len=0/\av=.ez)\/av=.sl i.size (gd i.size len cs))
  (hf:qY X s (λj=>δ (j*i.size,e)) ps.toList (Z5 len zs).flatten=δ cs):fZ X z a w E pb ⟨dst,.buildSlice t len ps,ty,pos,af,g⟩ av:=by
 obtain⟨i',v,h1,h2,h3,h4,h5,h6⟩:=AQ (w:=w) hz (ctx z w E pb);rw[hi]at h1;injection h1 with h1;subst h1
 have hvl:v.cells.toList.length=i.size:=by rw[<-h5.length];exact hl
 have hce:X.P.cellsOf e=i.size:=by simp [aCw,hi]
 have hsz:(sizeOf e).run X.P w=.ok i.size w:=by rw[<-hce];exact KE w hi
 obtain⟨zr,ug,Mo⟩:∃zr:Array Value,((len*i.size=0/\zr=#[])\/(¬len*i.size=0/\zr=v.cells))/\((aCv (len*i.size)).map (zr[· % zr.size]!)).toList=(Z5 len v.cells.toList).flatten:=by
  by_cases fV:len*i.size=0
  ·have:len=0:=(Nat.mul_eq_zero.1 fV).resolve_right h0;subst this;exact⟨#[],.inl ⟨fV,rfl⟩,by simp⟩
  ·refine⟨v.cells,.inr ⟨fV,rfl⟩,?_⟩;have:=range_zero v.cells.toList (by omega) len;rw[hvl]at this;rw[<-this];simp
 obtain⟨arr,k1,k2,k3⟩:=Py (c:=ctx z w E pb) (ρ:=a.eval) (λx=>gf h x) (pl:=λj=>δ (j*i.size,e)) (place:=λj=>δ (j*i.size,i.size)) (λj off t' hj=>by simp only[Δ,j0]at hj;obtain⟨rfl,rfl⟩:=hj;rw[hce]) ps.toList _ cs
  ((aCv (len*i.size)).map (zr[· % zr.size]!)) hf (by rw[Mo];exact h5.flatten len) (by
   rw[Mo];intro x hx;obtain⟨l,xK,pU⟩:=aBN.1 hx;rw[Ti]at xK
   exact h6 x (xK.2▸pU))
 obtain⟨j1,j2,j3,j4⟩:=OZ h e k2 k3
 have gV:cs.length=len*i.size:=by
  have hlen:∀(ps:List (Nat×Operand))(cs cs':List AV),qY X s (λj=>δ (j*i.size,e)) ps cs=δ cs'->cs'.length=cs.length:=by
   intro ps;induction ps with
   |nil=>intro cs cs' e;simp only[qY]at e;injection e with e;rw[e]
   |cons p ps ih=>
    intro cs cs' e;obtain⟨q,x⟩:=p;simp only[qY]at e;obtain⟨new,e1,e2⟩:=bX.1 e;obtain⟨c2,e3,e4⟩:=bX.1 e2;rw[ih _ _ e4];unfold Φ at e3;split at e3
    ·injection e3 with e3;subst e3;simp;omega
    ·cases e3
  rw[hlen _ _ _ hf];simp [List.length_flatten,hl]
 refine⟨.slice (δ ⟨w.heap.size,0,ξ⟩) len len,_,?_,j1,?_⟩
 ·have hps:(ps.map λ(p:Nat×Operand)=>(p.1,a.eval p.2)).toList=ps.toList.map λp=>(p.1,a.eval p.2):=by simp
  have hm':¬len*i.size>2 ^ 24:=hm;rcases ug with⟨e1,e2⟩|⟨e1,e2⟩
  ·simp only[execOp,aBO,u9,run_underlying hd,ir,hsz,aL hm',aO e1,Vf,hps];rw[<-e2,k1];simp [AN]
  ·simp only[execOp,aBO,u9,run_underlying hd,ir,hsz,aL hm',aL e1,h3,Vf,hps];rw[<-e2,k1];simp [AN]
 ·rcases GK with⟨rfl,rfl⟩|rfl
  ·simp [aq]
  simp only[aq];refine⟨_,_,by rw[OV],by rw[OV];exact bF _,by omega,?_⟩;by_cases hl0:len=0
  ·left;subst hl0;rfl
  ·right;exact⟨_,_,rfl,j2,j3,aA0 len 0 cs gV j4⟩
theorem aky(h:St X z s a w E pb){dst:Option Tmp}{t e ty:TypeId}{len:Nat}{ps:Array (Nat×Operand)}{pos:String}{af:Array Edge}{g:Option (Nat×Bool)}{zs cs:List AV}{i:TypeInfo}
  (hd:X.P.underlying t=δ (.slice e)) (hi:X.P.info? e=δ i) (hz:xm X e=δ zs) (h0:i.size≠0) (hl:zs.length=i.size) (hm:¬16777216<len*i.size)
  (hf:qY X s (λj=>δ (j*i.size,e)) ps.toList (Z5 len zs).flatten=δ cs):∃arr:Array Value,(execOp a.eval ⟨dst,.buildSlice t len ps,ty,pos,af,g⟩).run X.P w=.ok (.value (.slice (δ ⟨w.heap.size,0,ξ⟩) len len)) (w.alloc (.cells arr e))/\arr.size=len*i.size/\aR (ctx z w E pb) cs arr.toList/\(∀x∈arr.toList,fc x=η)/\cs.length=len*i.size:=by
 obtain⟨i',v,h1,h2,h3,h4,h5,h6⟩:=AQ (w:=w) hz (ctx z w E pb);rw[hi]at h1;injection h1 with h1;subst h1
 have hvl:v.cells.toList.length=i.size:=by rw[<-h5.length];exact hl
 have hce:X.P.cellsOf e=i.size:=by simp [aCw,hi]
 have hsz:(sizeOf e).run X.P w=.ok i.size w:=by rw[<-hce];exact KE w hi
 obtain⟨zr,ug,Mo⟩:∃zr:Array Value,((len*i.size=0/\zr=#[])\/(¬len*i.size=0/\zr=v.cells))/\((aCv (len*i.size)).map (zr[· % zr.size]!)).toList=(Z5 len v.cells.toList).flatten:=by
  by_cases fV:len*i.size=0
  ·have:len=0:=(Nat.mul_eq_zero.1 fV).resolve_right h0;subst this;exact⟨#[],.inl ⟨fV,rfl⟩,by simp⟩
  ·refine⟨v.cells,.inr ⟨fV,rfl⟩,?_⟩;have:=range_zero v.cells.toList (by omega) len;rw[hvl]at this;rw[<-this];simp
 obtain⟨arr,k1,k2,k3⟩:=Py (c:=ctx z w E pb) (ρ:=a.eval) (λx=>gf h x) (pl:=λj=>δ (j*i.size,e)) (place:=λj=>δ (j*i.size,i.size)) (λj off t' hj=>by simp only[Δ,j0]at hj;obtain⟨rfl,rfl⟩:=hj;rw[hce]) ps.toList _ cs
  ((aCv (len*i.size)).map (zr[· % zr.size]!)) hf (by rw[Mo];exact h5.flatten len) (by
   rw[Mo];intro x hx;obtain⟨l,xK,pU⟩:=aBN.1 hx;rw[Ti]at xK
   exact h6 x (xK.2▸pU))
 obtain⟨j1,j2,j3,j4⟩:=OZ h e k2 k3
 have gV:cs.length=len*i.size:=by
  have hlen:∀(ps:List (Nat×Operand))(cs cs':List AV),qY X s (λj=>δ (j*i.size,e)) ps cs=δ cs'->cs'.length=cs.length:=by
   intro ps;induction ps with
   |nil=>intro cs cs' e;simp only[qY]at e;injection e with e;rw[e]
   |cons p ps ih=>
    intro cs cs' e;obtain⟨q,x⟩:=p;simp only[qY]at e;obtain⟨new,e1,e2⟩:=bX.1 e;obtain⟨c2,e3,e4⟩:=bX.1 e2;rw[ih _ _ e4];unfold Φ at e3;split at e3
    ·injection e3 with e3;subst e3;simp;omega
    ·cases e3
  rw[hlen _ _ _ hf];simp [List.length_flatten,hl]
 refine⟨arr,?_,by have:=k2.length;rw[gV]at this;simpa using this.symm,k2,k3,gV⟩
 ·have hps:(ps.map λ(p:Nat×Operand)=>(p.1,a.eval p.2)).toList=ps.toList.map λp=>(p.1,a.eval p.2):=by simp
  have hm':¬len*i.size>2 ^ 24:=hm;rcases ug with⟨e1,e2⟩|⟨e1,e2⟩
  ·simp only[execOp,aBO,u9,run_underlying hd,ir,hsz,aL hm',aO e1,Vf,hps];rw[<-e2,k1];simp [AN]
  ·simp only[execOp,aBO,u9,run_underlying hd,ir,hsz,aL hm',aL e1,h3,Vf,hps];rw[<-e2,k1];simp [AN]
theorem akx(h:St X z s a w E pb){d t n:Nat}{ps:Array (Nat×Operand)}{ty:TypeId}{pos:String}{af:Array Edge}{g:Option (Nat×Bool)}{sz:Nat}{es:List (List AV)}
  (hv:ij X ⟨δ d,.buildSlice t n ps,ty,pos,af,g⟩ s ξ=δ (.sl sz es)):∃(arr:Array Value)(et:TypeId),(execOp a.eval ⟨δ d,.buildSlice t n ps,ty,pos,af,g⟩).run X.P w=.ok (.value (.slice (δ ⟨w.heap.size,0,ξ⟩) es.length es.length)) (w.alloc (.cells arr et))/\
   arr.size=es.length*sz/\0<sz/\(∀c',c'.w.heap[w.heap.size]? =δ (.cells arr et (0,0))->Ext (ctx z w E pb) c'->bY c' sz w.heap.size 0 es)/\∀x∈arr.toList,fc x=η:=by
 simp only[ij]at hv;split at hv
 ·rename_i e hd;split at hv
  ·rename_i i zs hi hz;cases h0:(i.size==0||zs.length !=i.size)
   ·rw[h0]at hv;simp only[bK]at hv;simp only[oG,beq_eq_false_iff_ne,bne_eq_false_iff_eq]at h0;cases hm:aBL 16777216 (n*i.size)
    ·rw[hm]at hv;simp only[bK]at hv;obtain⟨cs,h1,h2⟩:=bX.1 hv;cases hn:(n==0)
     ·rw[hn]at h2;simp only[bK,Δ,SQ.injEq]at h2;obtain⟨rfl,rfl⟩:=h2;obtain⟨arr,k1,k2,k3,k4,k5⟩:=aky (dst:=δ d) (ty:=ty) (pos:=pos) (af:=af) (g:=g) h hd hi hz h0.1 h0.2 (λk=>by rw[show aBL 16777216 (n*i.size)=η from by simpa [Nat.blt_eq]using k]at hm;cases hm) h1;rw[OV];exact⟨arr,e,k1,k2,Nat.pos_of_ne_zero h0.1,λc' hb hx=>aA0 n 0 cs k5 (bT.BA hb (Vs hx _ _ k3) k4 (λj hj=>by simp)),k4⟩
     ·rw[hn]at h2;cases h2
    ·rw[hm]at hv;cases hv
   ·rw[h0]at hv;cases hv
  ·cases hv
 ·cases hv
theorem asF(h:St X z s a w E pb){tag:Option (Nat×Bool)}(ht:tN a tag){o:Oper}{av:AV}(hv:ij X o s tag=δ av)(hc:∀c,o.op=.call c->∃b,c.callee=.builtin b):fZ X z a w E pb o av:=by
 obtain⟨dst,op,ty,pos,af,g⟩:=o;cases op<;>simp only[ij]at hv<;>first|(cases hv;done)|skip
 case move x=>injection hv with hv;subst hv;exact fZ.same (by simp [execOp]) (gf h x)
 case assign x=>injection hv with hv;subst hv;exact fZ.same (by simp [execOp]) (gf h x)
 case pick x y u=>
  have r:=gf h x;generalize ev X s x=vx at *
  cases vx<;>simp only[p9]at hv<;>first|(cases hv;done)|skip
  rename_i b;injection hv with hv
  simp only[aq]at r;cases b
  ·simp only[bK]at hv;subst hv;exact fZ.same (v:=a.eval u) (by simp [execOp,r,asBool]) (gf h u)
  ·simp only[cA]at hv;subst hv;exact fZ.same (v:=a.eval y) (by simp [execOp,r,asBool]) (gf h y)
 case alloc t=>
  split at hv
  ·injection hv with hv;subst hv;exact aln h (by assumption)
  ·cases hv
 case box t x=>
  obtain⟨cs,h1,h2⟩:=bX.1 hv;injection h2 with h2;subst h2
  exact amY h h1
 case build t ps=>
  split at hv
  ·rename_i zs fs hz hd;cases hi:fs.toList.all (λf=>(X.P.info? f.type).isSome)
   ·rw[hi]at hv;cases hv
   ·rw[hi]at hv;simp only[cA]at hv;obtain⟨cs,h1,h2⟩:=bX.1 hv;injection h2 with h2;subst h2
    exact alo h hz hd hi h1
  ·cases hv
 case buildSlice t len ps=>
  split at hv
  ·rename_i e hd;split at hv
   ·rename_i i zs hi hz;cases h0:(i.size==0||zs.length !=i.size)
    ·rw[h0]at hv;simp only[bK]at hv;simp only[oG,beq_eq_false_iff_ne,bne_eq_false_iff_eq]at h0;cases hm:aBL 16777216 (len*i.size)
     ·rw[hm]at hv;simp only[bK]at hv;obtain⟨cs,h1,h2⟩:=bX.1 hv;injection h2 with h2;subst h2
      refine ajV h hd hi hz h0.1 h0.2 (λk=>by rw[show aBL 16777216 (len*i.size)=η from by simpa [Nat.blt_eq]using k]at hm;cases hm) ?_ h1;by_cases hl:len=0
      ·subst hl;exact .inl ⟨rfl,rfl⟩
      ·exact .inr (by rw[show(len==0)=ι by simpa using hl];rfl)
     ·rw[hm]at hv;cases hv
    ·rw[h0]at hv;cases hv
   ·cases hv
  ·cases hv
 case load t x=>
  split at hv
  ·rename_i b off hp;obtain⟨cs,h1,h2⟩:=bX.1 hv;obtain⟨k,k1,k2,k3,k4⟩:=Ik h ht hp h1;obtain⟨v,j1,j2⟩:=O1 (c:=ctx z w E pb) w X rfl k3.2 h2;rw[WW]at j1;exact fZ.same (by simp [execOp,Instr.loadAt,k2,VF,j1]) j2
  ·obtain⟨cs,h1,h2⟩:=bX.1 hv;obtain⟨b,off,k2,k3⟩:=acY h.heap h1 (gf h x);obtain⟨v,j1,j2⟩:=O1 (c:=ctx z w E pb) w X rfl k3 h2;rw[Nat.add_zero]at j1;exact fZ.same (by simp [execOp,Instr.loadAt,k2,VF,j1]) j2
 case nilCheck x=>
  have r:=gf h x;generalize ev X s x=vx at *
  cases vx<;>simp only[SD]at hv<;>first|(cases hv;done)|skip
  all_goals
   injection hv with hv;subst hv
   have r':=r;simp only[aq]at r
  case rp=>obtain⟨b,off,e,_⟩:=r;exact fZ.same (v:=a.eval x) (by simp [execOp,e]) r'
  case op=>obtain⟨p,_,_,e⟩:=r;exact fZ.same (v:=a.eval x) (by simp [execOp,e]) r'
  case oe=>obtain⟨_,p,_,_,q,e,_⟩:=r;exact fZ.same (v:=a.eval x) (by simp [execOp,e]) r'
  case fn=>obtain⟨f,vs,e,_⟩:=r;exact fZ.same (v:=a.eval x) (by simp [execOp,e]) r'
 case binOp op t x y u=>
  obtain⟨k,h1,h2⟩:=arh (c:=ctx z w E pb) w X (ox:=x) (oy:=y) hv (gf h x) (gf h y);exact fZ.same (v:=k) (by simp only[execOp];rw[u9,h1];rfl) h2
 case unOp op t x=>
  have r:=gf h x;generalize ev X s x=vx at *
  cases op<;>simp only at hv<;>first|(cases hv;done)|skip
  case neg=>
   cases vx<;>simp only[A.neg]at hv<;>first|(cases hv;done)|skip
   rename_i k n;injection hv with hv;subst hv
   simp only[aq]at r;exact fZ.same (v:=.int k (k.wrap (0-n))) (by simp [execOp,r,Op.unary,aCt]) (by simp [aq])
  case not=>
   cases vx<;>simp only[Yr]at hv<;>first|(cases hv;done)|skip
   rename_i b;injection hv with hv;subst hv
   simp only[aq]at r;exact fZ.same (v:=.bool (!b)) (by simp [execOp,r,Op.unary]) (by simp [aq])
 case convert src dst' x=>
  have r:=gf h x;generalize ev X s x=vx at *
  split at hv
  ·rename_i k1 k2 hs hd;cases vx<;>simp only[A.conv]at hv<;>first|(cases hv;done)|skip
   rename_i k n;injection hv with hv;subst hv
   simp only[aq]at r;exact fZ.same (v:=.int k2 (k2.wrap n)) (by simp [execOp,convert,r,run_underlying hs,run_underlying hd,Conv.intToInt]) (by simp [aq])
  ·rename_i hs hd;cases vx<;>simp only[A.ag0]at hv<;>first|(cases hv;done)|skip
   rename_i str;injection hv with hv;subst hv
   simp only[aq]at r;exact fZ.same (v:=.string str) (by simp [execOp,convert,r,run_underlying hs,run_underlying hd]) (by simp [aq])
  ·cases hv
 case makeInterface t x=>
  split at hv
  ·cases hv
  ·rename_i d hn hd;injection hv with hv;subst hv
   have:X.P.concrete t=η:=by unfold Program.concrete;rw[hd];cases d<;>first|rfl|exact absurd rfl (hn _)
   exact fZ.same (v:=.iface t (a.eval x)) (by simp [execOp,run_makeInterface w t _ this]) (by simp [aq])
  ·cases hv
 case makeFunc fn first caps=>
  split at hv
  ·rename_i f;cases hf:first.toList.isEmpty
   ·rw[hf]at hv;cases hv
   ·rw[hf]at hv;simp only[cA]at hv;injection hv with hv;subst hv
    have:first=#[]:=by simpa using hf
    subst this;refine fZ.same (v:=.func (.func f) #[] (caps.map a.eval)) (by simp [execOp,Instr.makeFunc]) ?_;simp only[aq];refine⟨f,_,rfl,by rw[h.nm];rfl,?_⟩
    simpa using Ix h caps.toList
  ·cases hv
 case slice t x lo hi mx=>
  split at hv
  ·split at hv
   ·rename_i hd;obtain⟨k,k1,k2⟩:=an4 (P:=X.P) (c:=ctx z w E pb) w hd hv (gf h x) (rC.map h lo) (rC.map h hi);refine fZ.same (v:=k) ?_ k2;simp [execOp,aCY,run_underlying hd,k1]
   ·rename_i e hd;split at hv
    ·rename_i i hi';obtain⟨k,k1,k2⟩:=an3 (P:=X.P) (c:=ctx z w E pb) w h.heap hd hi' hv (gf h x) (rC.map h lo) (rC.map h hi);refine fZ.same (v:=k) ?_ k2;simp [execOp,aCY,run_underlying hd,k1]
    ·cases hv
   ·cases hv
  ·split at hv
   ·rename_i e hi1 hd;split at hv
    ·rename_i i hi';obtain⟨k,k1,k2⟩:=an2 (P:=X.P) (c:=ctx z w E pb) w hd hi' hv (gf h x) (rC.map h lo) (gf h _) (gf h _);refine fZ.same (v:=k) ?_ k2;simp [execOp,aCY,run_underlying hd,k1]
    ·cases hv
   ·cases hv
 case entry i=>
  obtain⟨v',k1,k2⟩:=aoz (P:=X.P) (c:=ctx z w E pb) w rfl h.heap hv (gf h i);exact fZ.same (v:=v') (by simp [execOp,k1]) k2
 case fieldAddr t x f=>
  split at hv
  ·rename_i off ft hf;split at hv
   ·rename_i i hi;cases h0:(i.size==0)
    ·rw[h0]at hv;simp only[bK]at hv;obtain⟨fs,fl,e1,e2,e3,e4⟩:=OF hf;have r:=gf h x;generalize ev X s x=vx at *
     have hsz:(sizeOf fl.type).run X.P w=.ok i.size w:=by rw[e4];simp [sizeOf,zu w hi]
     have tZ:¬i.size=0:=by simpa using h0
     have run:∀q,a.eval x=.pointer (δ q)->(execOp a.eval ⟨dst,.fieldAddr t x f,ty,pos,af,g⟩).run X.P w=.ok (.value (.pointer (δ (q.add off)))) w:=by intro q e;simp [execOp,Instr.fieldAt,run_underlying e1,e2,e,VF,fieldPlace,hsz,tZ,e3]
     cases vx<;>simp only[p5]at hv<;>first|(cases hv;done)|skip
     case rp cs=>
      injection hv with hv;subst hv
      simp only[aq]at r;obtain⟨b,o,e,hb,hx,r⟩:=r;exact fZ.same (run _ e) (by simp only[aq,qO];exact⟨b,o+off,rfl,hb,hx,r.drop off⟩)
     case op id o=>
      injection hv with hv;subst hv
      simp only[aq]at r;obtain⟨p,k1,k2,e⟩:=r;exact fZ.same (run _ e) (by simp only[aq,qO];exact⟨p,k1,k2,rfl⟩)
     case oe id gg i' o=>
      injection hv with hv;subst hv
      simp only[aq]at r;obtain⟨hg,p,k1,k2,q,e,r⟩:=r;exact fZ.same (run _ e) (by simp only[aq];exact⟨hg,p,k1,k2,_,rfl,λk=>by rw[r k,qO,jI]⟩)
    ·rw[h0]at hv;cases hv
   ·cases hv
  ·cases hv
 case field t x f=>
  split at hv
  ·rename_i off ft hf;obtain⟨fs,fl,e1,e2,e3,e4⟩:=OF hf;obtain⟨cs,h1,h2⟩:=bX.1 hv;have r:=gf h x;generalize ev X s x=vx at *
   cases vx<;>simp only[ψ]at h1<;>first|(cases h1;done)|skip
   split at h1
   ·injection h1 with h1;subst h1
    simp only[aq]at r;obtain⟨vs,e,r1,r2⟩:=r;obtain⟨v,k1,k2⟩:=anK (c:=ctx z w E pb) w X r1 r2 h2;exact fZ.same (v:=v) (by simp [execOp,Instr.field,run_underlying e1,e2,e,asAgg,e3,e4,k1]) k2
   ·cases h1
  ·cases hv
 case indexAddr t x i=>
  split at hv
  ·rename_i e hd;split at hv
   ·rename_i j hj;have hsz:(sizeOf e).run X.P w=.ok j.size w:=by simp [sizeOf,zu w hj]
    have r:=gf h x;have ri:=gf h i;generalize ev X s x=vx at *
    cases vx<;>simp only[UM]at hv<;>first|(cases hv;done)|skip
    case sl sz es=>
     obtain⟨n,h1,h2⟩:=bX.1 hv;obtain⟨k,e1,e2⟩:=Ld (c:=ctx z w E pb) h1 ri;split at h2
     ·rename_i hs;subst hs;obtain⟨el,h3,h4⟩:=eP.1 h2;subst h4;simp only[aq]at r;obtain⟨q,cap,e3,_,_,r⟩:=r;rcases r with r|⟨b,off,e4,hb,hx,r⟩
      ·subst r;simp at h3
      ·subst e4;refine fZ.same (v:=.pointer (δ ⟨b,off+n*j.size,ξ⟩)) ?_ (by simp only[aq];exact⟨_,_,rfl,hb,hx,(bY.nth r h3).2⟩);simp [execOp,aCa,run_underlying hd,e1,e3,asIntOf,hsz,e2,qO]
     ·cases h2
    case os id gg sz off len=>
     obtain⟨n,h1,h2⟩:=bX.1 hv;obtain⟨k,e1,e2⟩:=Ld (c:=ctx z w E pb) h1 ri;split at h2
     ·rename_i hs;subst hs;injection h2 with h2;subst h2
      simp only[aq]at r;obtain⟨hg,p,k1,k2,q,cap,e3,hcap,r⟩:=r;refine fZ.same (v:=.pointer (δ (q.add (n*j.size)))) ?_ ?_
      ·simp [execOp,aCa,run_underlying hd,e1,e3,asIntOf,hsz,e2]
      ·simp only[aq];refine⟨hg,p,k1,k2,_,rfl,λk=>?_⟩;obtain⟨j1,j2,j3⟩:=r k;rcases j2 with j2|j2
       ·omega
       ·rw[j2,qO,j1,gu];congr 1;omega
     ·cases h2
   ·cases hv
  ·rename_i len e hd;split at hv
   ·rename_i j hj;have hsz:(sizeOf e).run X.P w=.ok j.size w:=by simp [sizeOf,zu w hj]
    obtain⟨n,h1,h2⟩:=bX.1 hv;obtain⟨k,e1,e2⟩:=Ld (c:=ctx z w E pb) h1 (gf h i);have r:=gf h x;generalize ev X s x=vx at *
    have run:∀q,a.eval x=.pointer (δ q)->(execOp a.eval ⟨dst,.indexAddr t x i,ty,pos,af,g⟩).run X.P w=.ok (.value (.pointer (δ (q.add (n*j.size))))) w:=by intro q e;simp [execOp,aCa,run_underlying hd,e1,e,asIntOf,hsz,e2,VF]
    cases vx<;>simp only at h2<;>first|(cases h2;done)|skip
    case rp cs=>
     injection h2 with h2;subst h2
     simp only[aq]at r;obtain⟨b,o,e,hb,hx,r⟩:=r;exact fZ.same (run _ e) (by simp only[aq,qO];exact⟨b,_,rfl,hb,hx,r.drop _⟩)
    case op id o=>
     injection h2 with h2;subst h2
     simp only[aq]at r;obtain⟨p,k1,k2,e⟩:=r;exact fZ.same (run _ e) (by simp only[aq,qO];exact⟨p,k1,k2,rfl⟩)
    case oe id gg i' o=>
     injection h2 with h2;subst h2
     simp only[aq]at r;obtain⟨hg,p,k1,k2,q,e,r⟩:=r;exact fZ.same (run _ e) (by simp only[aq];exact⟨hg,p,k1,k2,_,rfl,λk=>by rw[r k,qO,jI]⟩)
   ·cases hv
  ·cases hv
 case index t x i=>
  split at hv
  ·rename_i hd;have r:=gf h x;generalize ev X s x=vx at *
   cases vx<;>simp only[A.we]at hv<;>first|(cases hv;done)|skip
   rename_i str;obtain⟨n,h1,h2⟩:=bX.1 hv;obtain⟨by',h3,h4⟩:=eP.1 h2;subst h4;obtain⟨k,e1,e2⟩:=Ld (c:=ctx z w E pb) h1 (gf h i);simp only[aq]at r;refine fZ.same (v:=.int .u8 by'.toNat) ?_ (by simp [aq]);have this:=h3;simp [execOp,Instr.index,run_underlying hd,e1,r,asIntOf,this]
  ·cases hv
 case lookup t m i ok=>
  split at hv
  ·rename_i kt e hd;split at hv
   ·rename_i inf ek hi he;split at hv
    ·rename_i zv hz;obtain⟨v,k1,k2⟩:=aqq (c:=ctx z w E pb) w X rfl h.heap hd hi hz he hv (gf h m) (gf h i);exact fZ.same (v:=v) (by simp [execOp,k1]) k2
    ·cases hv
   ·cases hv
  ·cases hv
 case extract x i=>
  have r:=gf h x;generalize ev X s x=vx at *
  cases vx<;>simp only[TH]at hv<;>first|(cases hv;done)|skip
  simp only[aq]at r;obtain⟨vs,e,r⟩:=r;obtain⟨v,k1,k2⟩:=r.nth hv;refine fZ.same (v:=v) ?_ k2;have:vs[i]? =δ v:=by rw[<-Ta];exact k1
  simp [execOp,Instr.extract,e,this]
 case call c=>
  obtain⟨b,hb⟩:=hc c rfl;rw[hb]at hv;simp only at hv;have re:=Ix h c.args.toList;have hargs:c.args.map a.eval=(c.args.toList.map a.eval).toArray:=by apply mU.1;simp
  obtain⟨cb,hrun⟩:∃cb,(execOp a.eval ⟨dst,.call c,ty,pos,af,g⟩).run X.P w=(builtin b c.argTypes ty cb (c.args.map a.eval)).run X.P w:=by simp only[execOp,resolve,hb,u9,Vf,ir,invoke];exact⟨_,rfl⟩
  rw[hargs]at hrun;split at hv
  ·rename_i t x h1 h2;rw[h2]at re;generalize c.args.toList.map a.eval=vs at *
   simp only[aR]at re;obtain⟨v,_,rfl,r,rfl⟩:=re;have h1':c.argTypes=#[t]:=by apply mU.1;simpa using h1
   rw[h1']at hrun;split at hv
   ·rename_i hd;cases x<;>simp only[A.Er]at hv<;>first|(cases hv;done)|skip
    injection hv with hv;subst hv
    simp only[aq]at r;subst r;exact fZ.same (by rw[hrun];simp [builtin,ZF,run_underlying hd,goInt];rfl) (by simp [aq])
   ·rename_i e hd;cases x<;>simp only[UT]at hv<;>first|(cases hv;done)|skip
    all_goals
     injection hv with hv;subst hv
     simp only[aq]at r
    case sl sz es=>
     obtain⟨q,cap,rfl,_⟩:=r;exact fZ.same (v:=.int θ es.length) (by rw[hrun];simp [builtin,ZF,run_underlying hd,goInt]) (by simp [aq])
    case aA=>
     subst r;exact fZ.same (v:=.int θ 0) (by rw[hrun];simp [builtin,ZF,run_underlying hd,goInt]) (by simp [aq])
    case ez=>
     obtain⟨q,rfl⟩:=r;exact fZ.same (v:=.int θ 0) (by rw[hrun];simp [builtin,ZF,run_underlying hd,goInt]) (by simp [aq])
    case os id gg sz off len=>
     obtain⟨_,p,_,_,q,cap,rfl,_⟩:=r;exact fZ.same (v:=.int θ len) (by rw[hrun];simp [builtin,ZF,run_underlying hd,goInt]) (by simp [aq])
   ·rename_i kt e hd
    have:∃bJ,Tn x s.σ=δ bJ/\av=.int θ bJ.length:=by
     cases x<;>simp only[A.ah7]at hv<;>first|(cases hv;done)|skip
     case om id=>
      split at hv
      ·rename_i es hs;injection hv with hv
       exact⟨es,by simp [Tn,hs],hv.symm⟩
      ·cases hv
     case nm=>injection hv with hv;exact⟨[],rfl,by simpa using hv.symm⟩
     case fm es=>injection hv with hv;exact⟨es,rfl,hv.symm⟩
    obtain⟨bJ,k1,rfl⟩:=this;obtain⟨es,lS,k2,kl,_,k3⟩:=abG (P:=X.P) (c:=ctx z w E pb) w rfl h.heap k1 r;have hl:=k2.length;rw[kl]at hl;refine fZ.same (v:=.int θ bJ.length) ?_ (by simp [aq]);rcases k3 with⟨rfl,rfl⟩|⟨bb,aJ,rfl,hg⟩
    ·rw[hrun];simp at hl;simp [builtin,ZF,run_underlying hd,goInt,hl]
    ·rw[hrun];simp at hl;simp [builtin,ZF,run_underlying hd,goInt,hg,hl]
   ·cases hv
  ·rename_i t x h1 h2;rw[h2]at re;generalize c.args.toList.map a.eval=vs at *
   simp only[aR]at re;obtain⟨v,_,rfl,r,rfl⟩:=re;have h1':c.argTypes=#[t]:=by apply mU.1;simpa using h1
   rw[h1']at hrun;split at hv
   ·rename_i e hd;cases x<;>simp only[A.F5]at hv<;>first|(cases hv;done)|skip
    all_goals
     injection hv with hv;subst hv
     simp only[aq]at r
    case aA=>
     subst r;exact fZ.same (v:=.int θ 0) (by rw[hrun];simp [builtin,aBT,run_underlying hd,goInt]) (by simp [aq])
    case ez=>
     obtain⟨q,rfl⟩:=r;exact fZ.same (v:=.int θ 0) (by rw[hrun];simp [builtin,aBT,run_underlying hd,goInt]) (by simp [aq])
   ·cases hv
  ·rename_i x y h2;rw[h2]at re;generalize c.args.toList.map a.eval=vs at *
   simp only[aR]at re;obtain⟨v,_,rfl,r,u,_,rfl,q,rfl⟩:=re;unfold A.max at hv;split at hv
   ·rename_i k m k' n;injection hv with hv;subst hv
    simp only[aq]at r q;subst r;subst q;exact fZ.same (v:=.int k (if n>m then n else m)) (by rw[hrun];simp [builtin,Builtin.max_,Builtin.max2]) (by simp [aq])
   ·cases hv
  ·rename_i x y h2;rw[h2]at re;generalize c.args.toList.map a.eval=vs at *
   simp only[aR]at re;obtain⟨v,_,rfl,r,u,_,rfl,q,rfl⟩:=re;unfold A.min at hv;split at hv
   ·rename_i k m k' n;injection hv with hv;subst hv
    simp only[aq]at r q;subst r;subst q;exact fZ.same (v:=.int k (if n<m then n else m)) (by rw[hrun];simp [builtin,Builtin.min_,Builtin.min2]) (by simp [aq])
   ·cases hv
  ·cases hv
end
end
section
open Go.RowKit
def dV:Nat->Option Nat:=λ_=>ξ
def aq6(P:Program)(nm:List Nat)(f:FuncId)(args:List AV)(σ:Heap)(r:AV)(σ':Heap):Prop:=∃g,(∀dR w,(callFunc f dR).run P w=.ok (.enter g dR) w)/\∀(z:Z)(vs:Array Value),z.nm=nm->yS z->jA (ctx z z.w z.E dV) σ->aR (ctx z z.w z.E dV) args vs.toList->Calls P g vs z.w λe w'=>∃v E',e=.returned v/\Out z w' E'/\jA (ctx z w' E' dV) σ'/\aq (ctx z w' E' dV) r v
def aq7(P:Program)(nm:List Nat)(f:FuncId)(args:List AV)(σ:Heap)(r:AV)(σ':Heap):Prop:=∀(z:Z)(vs:Array Value),z.nm=nm->yS z->jA (ctx z z.w z.E dV) σ->aR (ctx z z.w z.E dV) args vs.toList->∃v w' E',(callFunc f vs).run P z.w=.ok (.value v) w'/\Out z w' E'/\jA (ctx z w' E' dV) σ'/\aq (ctx z w' E' dV) r v
def pG(P:Program)(nm:List Nat)(f:FuncId)(args:List AV)(σ:Heap)(r:AV)(σ':Heap):Prop:=aq6 P nm f args σ r σ'\/aq7 P nm f args σ r σ'
structure eC (X : Fx) : Prop where
 call:∀f args σ r σ',X.call f args σ=δ (r,σ')->pG X.P X.nm f args σ r σ'
 dyn:∀f args σ r σ',X.dyn (X.nm.getD f 0) args σ=δ (r,σ')->pG X.P X.nm f args σ r σ'
section
variable {X : Fx} {z : Z} {s : AS} {a : Act} {w w' : World} {E : List Pl} {pb : Nat -> Option Nat}
theorem Ext.same{c c':RC}(hw:c'.w=c.w)(hE:c'.E=c.E)(hX:∀b,c'.X b->c.X b)(hn:c'.nm=c.nm):Ext c c':=
 ⟨by rw[hw];exact bF _,λb _ hx=>⟨by rw[hw],λk=>hx (hX b k)⟩,λi p h=>⟨p,by rw[hE];exact h,.inl rfl⟩,hn⟩
def below(z:Z)(w:World)(E:List Pl)(pb:Nat->Option Nat):Z:=⟨w,E,λb=>z.X b\/∃i,pb i=δ b,z.nm⟩
theorem Vd:Ext (ctx z w E pb) (ctx (below z w E pb) w E dV):=
 Ext.same rfl rfl (λb k=>by
  rcases k with(k|k)|k|⟨i,k⟩
  ·exact .inl k
  ·exact .inr (.inr k)
  ·exact .inr (.inl k)
  ·cases k) rfl
theorem Ui{w':World}{E':List Pl}:Ext (ctx (below z w E pb) w' E' dV) (ctx z w' E' pb):=
 Ext.same rfl rfl (λb k=>by
  rcases k with k|k|k
  ·exact .inl (.inl k)
  ·exact .inr (.inl k)
  ·exact .inl (.inr k)) rfl
theorem St.called(h:St X z s a w E pb){w':World}{E':List Pl}{σ':Heap}(ho:Out (below z w E pb) w' E')(hh:jA (ctx (below z w E pb) w' E' dV) σ'):St X z (s.heap σ') a w' E' pb:=by
 have age:∀p∈E',w.heap.size<=p.b\/∃q∈E,q.b=p.b:=ho.fresh
 have hx:Ext (ctx z w E pb) (ctx z w' E' pb):=by
  refine⟨ho.size,λb hb hn=>⟨ho.stay b hb (λp hp e=>hn (.inr (.inl ⟨p,hp,e⟩))),?_⟩,ho.env,rfl⟩;rintro(k|⟨p,hp,k⟩|k)
  ·exact hn (.inl k)
  ·rcases age p hp with e|⟨q,hq,e⟩
   ·simp only[ctx]at hb;omega
   ·exact hn (.inr (.inl ⟨q,hq,e.trans k⟩))
  ·exact hn (.inr (.inr k))
 refine h.ext hx (λi b hb=>⟨hb,ho.stay b (h.priv i b hb).2.1 (h.priv i b hb).2.2⟩) (λi b hb=>⟨(h.priv i b hb).1,vP (h.priv i b hb).2.1 ho.size,λp hp e=>?_⟩) h.inj
  (hh.mono Ui rfl (λp hp=>rfl)) ?_
 ·rcases age p hp with k|⟨q,hq,k⟩
  ·have:=(h.priv i b hb).2.1;omega
  ·exact(h.priv i b hb).2.2 q hq (k.trans e)
 ·have o:=h.out;refine⟨ho.os.trans o.os,ho.tape.trans o.tape,ho.output.trans o.output,X8 o.size ho.size,λb hb hp=>?_,λi p hp=>?_,λi p hp=>?_,o.lt,o.mine⟩
  ·rw[ho.stay b (vP hb o.size) (λp Zj e=>?_)]
   ·exact o.stay b hb hp
   ·rcases o.fresh p Zj with k|⟨q,hq,k⟩
    ·omega
    ·exact hp q hq (k.trans e)
  ·rcases ho.fresh' i p hp with k|⟨q,hq,k⟩
   ·exact .inl (X8 o.size k)
   ·rcases o.fresh' i q hq with k'|⟨q',C6,k'⟩
    ·exact .inl (k▸k')
    ·exact .inr ⟨q',C6,k'.trans k⟩
  ·obtain⟨p',h1,h2⟩:=o.env i p hp;obtain⟨p'',h3,h4⟩:=ho.env i p' h1;refine⟨p'',h3,?_⟩;rcases h2 with rfl|⟨h2,h5⟩
   ·exact h4
   ·rcases h4 with rfl|⟨h6,h7⟩
    ·exact .inr ⟨h2,h5⟩
    ·exact .inr ⟨h2,by omega⟩
theorem ab5(h:St X z s a w E pb):jA (ctx (below z w E pb) w E dV) s.σ:=h.heap.mono Vd rfl (λp hp=>rfl)
theorem adV(h:St X z s a w E pb):yS (below z w E pb):=by
 refine⟨?_,h.out.lt.tab.to h.out.size (λb hb hn=>h.out.stay b hb λp hp e=>hn (.inr ⟨p,hp,e⟩)) ?_⟩
 ·rintro b (k|⟨i,k⟩)
  ·exact vP (h.out.lt b k) h.out.size
  ·exact(h.priv i b k).2.1
 ·rintro b hb ((k|⟨i,k⟩)|⟨p,hp,k⟩)
  ·exact .inl k
  ·have:=(h.priv i b k).1;omega
  ·rcases h.out.fresh p hp with q|⟨q,hq,e⟩
   ·omega
   ·exact .inr ⟨q,hq,e.trans k⟩
theorem La(h:St X z s a w E pb){f:FuncId}{args:List AV}{vs:Array Value}{r:AV}{σ':Heap}(hc:pG X.P X.nm f args s.σ r σ')(ha:aR (ctx z w E pb) args vs.toList){o:Oper}{K:Act->World->Prop}{Q:Exit->Act->World->Prop}
  (ho:(execOp a.eval o).run X.P w=(callFunc f vs).run X.P w) (hK:∀v w' E',St X z (s.heap σ') a w' E' pb->aq (ctx z w' E' pb) r v->K (a.put o.dst v) w'):o.wp X.P a w K Q:=by
 rcases hc with hc|hc
 ·obtain⟨g,hg,hc⟩:=hc;unfold Oper.wp;rw[ho,hg,Oper.upon_enter];refine(hc (below z w E pb) vs h.nm.symm (adV h) (ab5 h) (Vs Vd _ _ ha)).mono ?_;rintro e w' ⟨v,E',rfl,h1,h2,h3⟩;exact hK v w' E' (h.called h1 h2) (Tu Ui _ _ h3)
 ·obtain⟨v,w',E',k1,h1,h2,h3⟩:=hc (below z w E pb) vs h.nm.symm (adV h) (ab5 h) (Vs Vd _ _ ha);unfold Oper.wp;rw[ho,show(callFunc f vs).run X.P w=_ from k1,Oper.upon_value];exact hK v w' E' (h.called h1 h2) (Tu Ui _ _ h3)
theorem aaP{f:FuncId}{c:Call}(hc:c.callee=.value (.func f)){dst:Option Tmp}{ty:TypeId}{pos:String}{af:Array Edge}{g:Option (Nat×Bool)}:
  (execOp a.eval ⟨dst,.call c,ty,pos,af,g⟩).run X.P w=(callFunc f (c.args.map a.eval)).run X.P w:=by
 simp [execOp,resolve,hc,Act.eval,Deferred.ofValue,invoke]
theorem ann{f:FuncId}{caps:Array Value}{x:Operand}{c:Call}(hc:c.callee=.value x)(hx:a.eval x=.func (.func f) #[] caps){dst:Option Tmp}{ty:TypeId}{pos:String}{af:Array Edge}{g:Option (Nat×Bool)}:
  (execOp a.eval ⟨dst,.call c,ty,pos,af,g⟩).run X.P w=(callFunc f (c.args.map a.eval++caps)).run X.P w:=by
 simp [execOp,resolve,hc,hx,Deferred.ofValue,invoke]
theorem agv(hs:eC X)(h:St X z s a w E pb){tag:Option (Nat×Bool)}(ht:tN a tag){o:Oper}{av:AV}(hv:ij X o s tag=δ av){K:Act->World->Prop}{Q:Exit->Act->World->Prop}
  (hK:∀v w' E',St X z s a w' E' pb->aq (ctx z w' E' pb) av v->K (a.put o.dst v) w'):o.wp X.P a w K Q:=by
 by_cases hc:∀c,o.op=.call c->∃b,c.callee=.builtin b
 ·obtain⟨v,w',h1,h2,h3⟩:=asF h ht hv hc;unfold Oper.wp;rw[h1,Oper.upon_value];exact hK v w' E (h.grow h2) h3
 ·obtain⟨dst,op,ty,pos,af,g⟩:=o
  have:∃c,op=.call c/\∀b,c.callee≠.builtin b:=by refine aCV λhn=>hc λc e=>aCV λhb=>hn ⟨c,e,λb e'=>hb ⟨b,e'⟩⟩
  obtain⟨c,rfl,hb⟩:=this;simp only[ij]at hv
  have quiet:∀r,wh r s.σ=δ av->r=δ (av,s.σ):=by
   intro r hr;unfold wh at hr;obtain⟨p,h1,h2⟩:=bX.1 hr;split at h2
   ·rename_i he;injection h2 with h2
    rw[h1,<-he,<-h2]
   ·cases h2
  have hargs:(c.args.map a.eval).toList=c.args.toList.map a.eval:=by simp
  have hheap:s.heap s.σ=s:=rfl;cases I9:c.callee with
  |builtin b=>exact absurd I9 (hb b)
  |invoke rr m=>rw[I9]at hv;cases hv
  |value x=>
   rw[I9]at hv;cases x with
   |func f=>simp only at hv;have hq:=hs.call _ _ _ _ _ (quiet _ hv);refine La h hq (by rw[hargs];exact Ix h _) (aaP I9) (λv w' E' h1 h2=>?_);exact hK v w' E' h1 h2
   |tmp t=>
    simp only at hv;have hq:=quiet _ hv;have r:=gf h (.tmp t);generalize ev X s (.tmp t)=vx at *
    cases vx<;>simp only[A.jC]at hq<;>first|(cases hq;done)|skip
    rename_i fn0 LB;simp only[aq]at r;obtain⟨f,cs,e1,e2,e3⟩:=r;rw[<-e2]at hq;have C6:X.dyn (X.nm.getD f 0) (c.args.toList.map (ev X s)++LB) s.σ=δ (av,s.σ):=by rw[h.nm];exact hq
    refine La h (hs.dyn _ _ _ _ _ C6) (vs:=c.args.map a.eval++cs) (by rw[aCz,hargs];exact(Ix h _).append e3) (ann I9 e1) (λv w' E' h1 h2=>?_);exact hK v w' E' h1 h2
   |const v=>
    simp only at hv;have hq:=quiet _ hv;have r:=gf h (.const v);generalize ev X s (.const v)=vx at *
    cases vx<;>simp only[A.jC]at hq<;>first|(cases hq;done)|skip
    rename_i fn0 LB;simp only[aq]at r;obtain⟨f,cs,e1,e2,e3⟩:=r;rw[<-e2]at hq;have C6:X.dyn (X.nm.getD f 0) (c.args.toList.map (ev X s)++LB) s.σ=δ (av,s.σ):=by rw[h.nm];exact hq
    refine La h (hs.dyn _ _ _ _ _ C6) (vs:=c.args.map a.eval++cs) (by rw[aCz,hargs];exact(Ix h _).append e3) (ann I9 e1) (λv w' E' h1 h2=>?_);exact hK v w' E' h1 h2
   |global g=>simp only[ev,A.jC]at hv;have:=quiet _ hv;cases this
theorem agu(h:St X z s a w E pb){tag:Option (Nat×Bool)}(ht:tN a tag){o:Oper}{b off:Nat}(hv:lP X o s tag=δ (b,δ off)):
  (∃k,pb b=δ k/\(execOp a.eval o).run X.P w=.ok (.value (.pointer (δ ⟨k,off,ξ⟩))) w):=by
 obtain⟨dst,op,ty,pos,af,g⟩:=o;cases op<;>simp only[lP]at hv<;>first|(cases hv;done)|skip
 case nilCheck x=>
  split at hv
  ·rename_i b' off' hp;injection hv with hv
   injection hv with hb hv
   subst hb;obtain⟨cs,h1,h2⟩:=bX.1 hv;simp only[Δ]at h2;subst h2;obtain⟨k,k1,k2,_⟩:=Ik h ht hp h1;exact⟨k,k1,by simp [execOp,k2]⟩
  ·cases hv
 case fieldAddr t x f=>
  split at hv
  ·rename_i b' off' hp;injection hv with hv
   injection hv with hb hv
   subst hb;split at hv
   ·rename_i fo ft hf;split at hv
    ·rename_i i hi;cases h0:(i.size==0)
     ·rw[h0]at hv;simp only[bK]at hv;obtain⟨cs,h1,h2⟩:=bX.1 hv;simp only[Δ]at h2;subst h2;obtain⟨k,k1,k2,_⟩:=Ik h ht hp h1;obtain⟨fs,fl,e1,e2,e3,e4⟩:=OF hf;have hsz:(sizeOf fl.type).run X.P w=.ok i.size w:=by rw[e4];simp [sizeOf,zu w hi]
      have tZ:¬i.size=0:=by simpa using h0
      exact⟨k,k1,by simp [execOp,Instr.fieldAt,run_underlying e1,e2,k2,VF,fieldPlace,hsz,tZ,e3,qO]⟩
     ·rw[h0]at hv;cases hv
    ·cases hv
   ·cases hv
  ·cases hv
 case indexAddr t x i=>
  split at hv
  ·rename_i b' off' hp;injection hv with hv
   injection hv with hb hv
   subst hb;split at hv
   ·rename_i len e hd;split at hv
    ·rename_i ie hie;obtain⟨cs,h1,h2⟩:=bX.1 hv;obtain⟨n,h3,h4⟩:=bX.1 h2;simp only[Δ]at h4;subst h4;obtain⟨k,k1,k2,_⟩:=Ik h ht hp h1;obtain⟨kk,e1,e2⟩:=Ld (c:=ctx z w E pb) h3 (gf h i);have hsz:(sizeOf e).run X.P w=.ok ie.size w:=by simp [sizeOf,zu w hie]
     exact⟨k,k1,by simp [execOp,aCa,run_underlying hd,e1,k2,asIntOf,hsz,e2,VF,qO]⟩
    ·cases hv
   ·cases hv
  ·cases hv
theorem ad1{c:RC}{b:Nat}{cs:List AV}(h:B9 c b cs):∃arr t,c.w.heap[b]? =δ (.cells arr t (0,0))/\aR c cs arr.toList/\∀x∈arr.toList,fc x=η:=by
 obtain⟨⟨arr,t,h1,h2⟩,h3⟩:=h;obtain⟨vs,k1,k2,k3⟩:=h3.Np
 have:arr.toList=vs:=by
  apply List.ext_getElem?;intro i;by_cases hi:i<vs.length
  ·have:=k3 i vs[i] (by simp [hi]);rw[WW,AK h1]at this;rw[Ta,this];simp [hi]
  ·have hl:=k1.length;rw[qm (by simp;omega),qm (by omega)]
 rw[<-this]at k1 k2;exact⟨arr,t,h1,k1,k2⟩
theorem Uc{P:Program}{t:TypeId}{b off:Nat}{v:Value}{arr:Array Value}{bt:TypeId}(hb:w.heap[b]? =δ (.cells arr bt (0,0)))(hsz:v.cells.size=P.cellsOf t)(ht:(P.info? t).isSome=η)(ho:∀x∈v.cells.toList,fc x=η)(hl:off+v.cells.toList.length<=arr.size):
  (Instr.storeAt t (.pointer (δ ⟨b,off,ξ⟩)) v).run P w=.ok () (w.eW b (.cells (gI arr off v.cells.toList) bt (0,0))):=by
 obtain⟨i,hi⟩:=Option.isSome_iff_exists.1 ht;have:=HM (P:=P) (b:=b) (off:=off) (t:=bt) v.cells.toList 0 w arr hb (by simpa using hl) ho;simp [Instr.storeAt,VF,storeVar,KE w hi,hsz,this]
theorem aa6{P:Program}{t:TypeId}{d:TypeDesc}(h:P.underlying t=δ d):(P.info? t).isSome=η:=by obtain⟨i,hi⟩:=aeM h;rw[hi];rfl
theorem DL(arr:Array Value)(o:Nat)(l:List Value)(h:o+l.length<=arr.size)(j:Nat):(gI arr o l)[j]? =if o<=j/\j<o+l.length then l[j-o]? else arr[j]? :=by
 unfold gI;rw[List.getElem?_toArray];have h1:(arr.toList.take o).length=o:=by simp;omega
 by_cases hj:j<o
 ·rw[aL (by omega),kS,iG (by omega),Vh hj,Ta]
 ·rw[kS,iz (by omega),h1];by_cases hk:j<o+l.length
  ·rw[aO ⟨by omega,hk⟩,iG (by omega)]
  ·rw[aL (by omega),iz (by omega),YF,Ta];congr 1;omega
theorem an8(h:St X z s a w E pb){t:TypeId}{x:AV}{pv v:Value}{vv:AV}{new:List AV}{σ':Heap}(hc:A4 X t vv=δ new)(rv:aq (ctx z w E pb) vv v)(hst:l8 x new s.σ=δ σ')(rx:aq (ctx z w E pb) x pv):
  ∃w',(Instr.storeAt t pv v).run X.P w=.ok () w'/\St X z (s.heap σ') a w' E pb:=by
 obtain⟨r1,r2,r3,d,hd⟩:=Ia X hc rv;have hi:=aa6 hd;cases x<;>simp only[l8]at hst<;>first|(cases hst;done)|skip
 case op id off=>
  simp only[aq]at rx;obtain⟨p,e1,e2,rfl⟩:=rx;split at hst
  ·rename_i cs hs;obtain⟨cs',h1,h2⟩:=eP.1 hst;subst h2;obtain⟨hg,awH⟩:=h.heap.blk id p _ e1 hs;obtain⟨arr,bt,k1,k2,k3⟩:=ad1 awH;obtain⟨k4,k5⟩:=k2.gI h1 r1;refine⟨_,Uc k1 r3 hi r2 k5,h.A6 e1 _ _ λhx=>?_⟩;have hlt:p.b<w.heap.size:=h.heap.lt (p:=p) (cE e1);have hh:=vw (w:=w) (.cells (gI arr off v.cells.toList) bt (0,0)) hlt;have k6:=Vs hx _ _ k4;exact⟨hg,⟨_,_,hh,by have:=k6.length;simpa using this.symm⟩,bT.BA hh k6 (ID k3 r2) (λi hi=>by simp)⟩
  ·cases hst
 case oe id g i off=>
  simp only[aq]at rx;obtain⟨JH,p,e1,e2,q,rfl,rx⟩:=rx;split at hst
  ·rename_i g' sz es hs;split at hst
   ·rename_i Y8;subst Y8;obtain⟨e,h1,h2⟩:=bX.1 hst;obtain⟨e',h3,h4⟩:=eP.1 h2;subst h4;obtain⟨j1,j2,j3,j4,⟨arr,bt,j5,j6⟩,j7,j8,j9⟩:=h.heap.blk id p _ e1 hs;have hq:=rx j1.symm;subst hq;obtain⟨hel,hcs⟩:=bY.nth j8 h1
    have hsp:off+new.length<=e.length/\e'=e.take off++new++e.drop (off+new.length):=by
     unfold Φ at h3;split at h3
     ·injection h3 with h3;exact⟨by assumption,h3.symm⟩
     ·cases h3
    have hlen:i<es.length:=(bD.1 h1).1
    have hbound:p.base+i*sz+sz<=arr.size:=by have:(i+1)*sz<=es.length*sz:=rz _ hlen;rw[gu]at this;rw[j6];omega
    have hl:new.length=v.cells.toList.length:=r1.length;have k5:p.base+i*p.sz+off+v.cells.toList.length<=arr.size:=by rw[j3];omega
    refine⟨_,Uc j5 r3 hi r2 k5,h.A6 e1 _ _ λhx=>?_⟩;have hlt:p.b<w.heap.size:=h.heap.lt (p:=p) (cE e1);have hh:=vw (w:=w) (.cells (gI arr (p.base+i*p.sz+off) v.cells.toList) bt (0,0)) hlt;have hcell:∀j,(w.eW p.b (.cells (gI arr (p.base+i*p.sz+off) v.cells.toList) bt (0,0))).cell? ⟨p.b,j,ξ⟩=(gI arr (p.base+i*p.sz+off) v.cells.toList)[j]? :=λj=>AK hh
    have hold:∀j,w.cell? ⟨p.b,j,ξ⟩=arr[j]? :=λj=>AK j5
    obtain⟨azc,aAB⟩:=hsp;have hsz:p.sz=sz:=j3;rw[hsz]at k5 hcell
    have out:∀j,(j<p.base+i*sz+off\/p.base+i*sz+off+new.length<=j)->(w.eW p.b (.cells (gI arr (p.base+i*p.sz+off) v.cells.toList) bt (0,0))).cell? ⟨p.b,j,ξ⟩=w.cell? ⟨p.b,j,ξ⟩:=by intro j hj;rw[hsz,hcell,hold,DL _ _ _ k5,aL (by omega)]
    refine⟨j1,j2,j3,j4,⟨_,_,hh,by rw[hsz,Vz _ _ _ k5];exact j6⟩,by simpa using j7,bY.of λj x hj=>?_,DJ hh (ID (j9 _ _ _ j5) r2)⟩;rw[jm]at hj;by_cases hij:i=j
    ·subst hij;rw[aO rfl,aO hlen]at hj;injection hj with hj;subst hj
     refine⟨by rw[aAB];simp;omega,aCL λk av hk=>?_⟩;by_cases hin:off<=k/\k<off+new.length
     ·have hnk:new[k-off]? =δ av:=by rw[aAB,kS,iz (by simp;omega)]at hk;rw[iG (by simp;omega)]at hk;rw[<-hk];congr 1;simp;omega
      obtain⟨u,m1,m2⟩:=r1.nth hnk;refine⟨u,?_,r2 u (cE m1),Tu hx _ _ m2⟩;show(w.eW p.b (.cells (gI arr (p.base+i*p.sz+off) v.cells.toList) bt (0,0))).cell? ⟨p.b,p.base+i*sz+k,ξ⟩=_;rw[hsz,hcell,DL _ _ _ k5,aO (by omega),<-m1];congr 1;omega
     ·have hek:e[k]? =δ av:=by
       rw[aAB]at hk;by_cases hk1:k<off
       ·rw[kS,iG (by simp;omega),Vh hk1]at hk;exact hk
       ·rw[iz (by simp;omega),YF]at hk;rw[<-hk];congr 1;simp;omega
      obtain⟨u,m1,m2,m3⟩:=aCb hcs hek;refine⟨u,?_,m2,Tu hx _ _ m3⟩;rw[<-m1];exact out _ (by omega)
    ·rw[aL hij]at hj;obtain⟨m1,m2⟩:=bY.nth j8 hj;refine⟨m1,aCL λk av hk=>?_⟩;obtain⟨u,n1,n2,n3⟩:=aCb m2 hk;refine⟨u,?_,n2,Tu hx _ _ n3⟩;rw[<-n1];have wv:k<sz:=by rw[<-m1];exact(bD.1 hk).1
     refine out _ ?_;rcases Nat.lt_or_gt_of_ne hij with hlt'|hgt
     ·right;have:(i+1)*sz<=j*sz:=rz _ hlt';rw[gu]at this;omega
     ·left;have:(j+1)*sz<=i*sz:=rz _ hgt;rw[gu]at this;omega
   ·cases hst
  ·cases hst
end
end
section
open Go.RowKit
section
variable {X : Fx} {z : Z} {s : AS} {a : Act} {w w' : World} {E : List Pl} {pb : Nat -> Option Nat}
theorem St.move(h:St X z s a w E pb){id:Nat}{p p':Pl}{blk:aT}(hi:E[id]? =δ p)(hg:0<p.g/\p.g<p'.g)(hos:w'.os=w.os)(htp:w'.tape=w.tape)(hout:w'.output=w.output)(hsz:w.heap.size<=w'.heap.size)
  (QC:∀b,b≠p.b->b<w.heap.size->w'.heap[b]? =w.heap[b]?) (hb:p'.b=p.b\/(w.heap.size<=p'.b/\p'.b<w'.heap.size))
  (hk:Ext (ctx z w E pb) (ctx z w' (E.set id p') pb)->rT (ctx z w' (E.set id p') pb) p' blk):
  St X z (s.heap (s.σ.set id blk)) a w' (E.set id p') pb/\Ext (ctx z w E pb) (ctx z w' (E.set id p') pb):=by
 have hm:p∈E:=cE hi;have hid:id<E.length:=(bD.1 hi).1;have hX:(ctx z w E pb).X p.b:=.inr (.inl ⟨p,hm,rfl⟩)
 have hmem:∀q∈E.set id p',q=p'\/(q∈E):=λq hq=>by
  rcases List.mem_or_eq_of_mem_set hq with e|e
  ·exact .inr e
  ·exact .inl e
 have jL:∀(j:Nat)(q:Pl),(E.set id p')[j]? =δ q->(j=id/\q=p')\/(j≠id/\E[j]? =δ q):=λj q hq=>by
  rw[jm]at hq;by_cases e:id=j
  ·subst e;rw[aO rfl,aO hid]at hq;injection hq with hq;exact .inl ⟨rfl,hq.symm⟩
  ·rw[aL e]at hq;exact .inr ⟨λe'=>e e'.symm,hq⟩
 have hx:Ext (ctx z w E pb) (ctx z w' (E.set id p') pb):=by
  refine⟨hsz,λb uU hn=>⟨QC b (λe=>hn (e▸hX)) uU,?_⟩,λj q hq=>?_,rfl⟩
  ·rintro(k|⟨q,hq,k⟩|k)
   ·exact hn (.inl k)
   ·rcases hmem q hq with rfl|hq
    ·rcases hb with e|⟨e,_⟩
     ·exact hn (by rw[<-k,e];exact hX)
     ·simp only[ctx]at uU;omega
    ·exact hn (.inr (.inl ⟨q,hq,k⟩))
   ·exact hn (.inr (.inr k))
  ·by_cases e:id=j
   ·subst e;simp only[ctx]at hq;rw[hi]at hq;injection hq with hq;subst hq
    exact⟨p',by simp [ctx,hid],.inr hg⟩
   ·exact⟨q,by simp only[ctx]at hq ⊢;rw[jm,aL e];exact hq,.inl rfl⟩
 refine⟨h.ext hx (λi b hpb=>⟨hpb,QC b (λe=>(h.priv i b hpb).2.2 p hm e.symm) (h.priv i b hpb).2.1⟩) (λi b hpb=>⟨(h.priv i b hpb).1,vP (h.priv i b hpb).2.1 hsz,λq hq=>?_⟩) h.inj
  ⟨by have:=h.heap.len;simpa [ctx]using this,λi j q r hq hr he=>?_,λj q x hq dB=>?_⟩ ?_,hx⟩
 ·rcases hmem q hq with rfl|hq
  ·rcases hb with e|⟨e,_⟩
   ·rw[e];exact(h.priv i b hpb).2.2 p hm
   ·have:=(h.priv i b hpb).2.1;omega
  ·exact(h.priv i b hpb).2.2 q hq
 ·have lt:∀(j:Nat)(q:Pl),E[j]? =δ q->q.b<w.heap.size:=λj q hq=>h.heap.lt (p:=q) (cE hq)
  rcases jL i q hq with⟨e1,e2⟩|⟨e1,e2⟩<;>rcases jL j r hr with⟨e3,e4⟩|⟨e3,e4⟩
  ·rw[e1,e3]
  ·exfalso;rw[e2]at he;rcases hb with e|⟨e,_⟩
   ·exact e3 (h.heap.inj j id r p e4 hi (by rw[<-he,e]))
   ·have:=lt j r e4;omega
  ·exfalso;rw[e4]at he;rcases hb with e|⟨e,_⟩
   ·exact e1 (h.heap.inj i id q p e2 hi (by rw[he,e]))
   ·have:=lt i q e2;omega
  ·exact h.heap.inj i j q r e2 e4 he
 ·rcases jL j q hq with⟨e1,e2⟩|⟨e1,e2⟩
  ·subst e1;subst e2;rw[jm,aO rfl]at dB;split at dB
   ·injection dB with dB;subst dB;exact hk hx
   ·cases dB
  ·rw[jm,aL (λe=>e1 e.symm)]at dB;exact(h.heap.blk j q x e2 dB).mono hx (QC q.b (λe=>e1 (h.heap.inj j id q p e2 hi e)) (h.heap.lt (p:=q) (cE e2)))
 ·have o:=h.out;refine⟨hos.trans o.os,htp.trans o.tape,hout.trans o.output,X8 o.size hsz,λb uU hp=>?_,λj q hq=>?_,λj q hq=>?_,o.lt,o.mine⟩
  ·rw[QC b (λe=>?_) (vP uU o.size)]
   ·exact o.stay b uU hp
   ·rcases o.fresh p hm with k|⟨r,hr,k⟩
    ·omega
    ·exact hp r hr (k.trans e.symm)
  ·rcases jL j q hq with⟨e1,e2⟩|⟨e1,e2⟩
   ·subst e1;subst e2;rcases hb with e|⟨e,_⟩
    ·rcases o.fresh' j p hi with k|⟨r,hr,k⟩
     ·exact .inl (by rw[e];exact k)
     ·exact .inr ⟨r,hr,by rw[e];exact k⟩
    ·exact .inl (X8 o.size e)
   ·exact o.fresh' j q e2
  ·obtain⟨q',h1,h2⟩:=o.env j q hq;by_cases e:id=j
   ·subst e;rw[hi]at h1;injection h1 with h1;subst h1
    refine⟨p',by simp [hid],?_⟩;rcases h2 with rfl|⟨h2,h3⟩
    ·exact .inr hg
    ·exact .inr ⟨h2,by omega⟩
   ·exact⟨q',by rw[jm,aL e];exact h1,h2⟩
theorem bY.cells{c:RC}{sz b:Nat}:∀{es:List (List AV)}{off:Nat},bY c sz b off es->bT c b off es.flatten/\es.flatten.length=es.length*sz
 |[],off,h=>by simp [bT]
 |e::es,off,h=>by
  simp only[bY]at h;obtain⟨h1,h2,h3⟩:=h;obtain⟨k1,k2⟩:=bY.cells h3;refine⟨aCL λi av hi=>?_,by simp [k2,h1,gu];omega⟩;simp only[VG]at hi;by_cases hl:i<e.length
  ·rw[iG hl]at hi;exact aCb h2 hi
  ·rw[iz (by omega)]at hi;have:=aCb k1 hi;rwa[show off+sz+(i-e.length)=off+i by omega]at this
theorem ab9{P:Program}{c:RC}{σ:Heap}(hh:jA c σ){sz:Nat}{y:AV}{v:Value}{ys:List (List AV)}(h:T9 sz y σ=δ ys)(r:aq c y v):
  ∃(q:Option Addr)(cap:Nat)(cs:List Value),v=.slice q ys.length cap/\(∀w2:World,w2.heap=c.w.heap->(U8 sz ys.length v).run P w2=.ok cs.toArray w2)/\aR c ys.flatten cs/\(∀x∈cs,fc x=η)/\cs.length=ys.length*sz/\(∀e∈ys,e.length=sz)/\(∀n,n<=ys.length->∀w2:World,w2.heap=c.w.heap->(U8 sz n v).run P w2=.ok (cs.take (n*sz)).toArray w2):=by
 have main:∀(q:Option Addr)(cap:Nat)(ys:List (List AV)),(ys=[]\/∃b off,q=δ ⟨b,off,ξ⟩/\bY c sz b off ys)->
   ∃cs:List Value,(∀w2:World,w2.heap=c.w.heap->(U8 sz ys.length (.slice q ys.length cap)).run P w2=.ok cs.toArray w2)/\aR c ys.flatten cs/\(∀x∈cs,fc x=η)/\cs.length=ys.length*sz/\(∀e∈ys,e.length=sz)/\(∀n,n<=ys.length->∀w2:World,w2.heap=c.w.heap->(U8 sz n (.slice q ys.length cap)).run P w2=.ok (cs.take (n*sz)).toArray w2):=by
  intro q cap ys hq;rcases hq with rfl|⟨b,off,rfl,r⟩
  ·refine⟨[],λw2 _=>?_,by simp [aR],by simp,by simp,by simp,λn hn w2 _=>by
    simp at hn;subst hn
    cases q<;>simp [U8,loadCells,loadCellsFrom]⟩
   cases q with
   |none=>simp [U8]
   |some q=>simp [U8,loadCells,loadCellsFrom]
  ·obtain⟨k1,k2⟩:=r.cells;obtain⟨vs,j1,j2,j3⟩:=k1.Np;have hl:vs.length=ys.length*sz:=by rw[<-j1.length,k2]
   refine⟨vs,λw2 hw=>?_,j1,j2,hl,λe he=>?_,λn hn w2 hw=>?_⟩
   ·have:=run_loadCells_list (P:=P) w2 ⟨b,off,ξ⟩ vs (λj v hj=>by rw[qO];have:=j3 j v hj;simpa [XV,hw]using this);rw[hl]at this;simp [U8,this]
   ·obtain⟨i,hi,rfl⟩:=X4.1 he;exact(bY.nth r (i:=i) (by simp [hi])).1
   ·have hnl:n*sz<=vs.length:=by rw[hl];exact rz _ hn
    have:=run_loadCells_list (P:=P) w2 ⟨b,off,ξ⟩ (vs.take (n*sz)) (λj v hj=>by
     rw[qO];have:=j3 j v (by rw[aBQ]at hj;split at hj;exact hj;cases hj)
     simpa [XV,hw]using this)
    rw[oH,Nat.min_eq_left hnl]at this;simp [U8,this]
 cases y<;>simp only[T9]at h<;>first|(cases h;done)|skip
 case aA=>
  injection h with h;subst h
  simp only[aq]at r;subst r;obtain⟨cs,k⟩:=main ξ 0 [] (.inl rfl);exact⟨ξ,0,cs,rfl,k⟩
 case ez=>
  injection h with h;subst h
  simp only[aq]at r;obtain⟨q,rfl⟩:=r;obtain⟨cs,k⟩:=main q 0 [] (.inl rfl);exact⟨q,0,cs,rfl,k⟩
 case sl sz' es=>
  split at h
  ·rename_i hs;subst hs;injection h with h;subst h
   simp only[aq]at r;obtain⟨q,cap,rfl,hcap,_,r⟩:=r
   obtain⟨cs,k⟩:=main q cap es (by
    rcases r with r|⟨b,off,e,_,_,r⟩
    ·exact .inl r
    ·exact .inr ⟨b,off,e,r⟩)
   exact⟨q,cap,cs,rfl,k⟩
  ·cases h
 case os id g gM off len=>
  simp only[aq]at r;obtain⟨hg,p,e1,e2,q,cap,rfl,hcap,r⟩:=r;split at h
  ·rename_i g' sz' es hs;split at h
   ·rename_i hc;obtain⟨rfl,rfl,rfl,hle⟩:=hc;injection h with h;subst h
    obtain⟨j1,j2,j3,j4,j5,j6,j7,_⟩:=hh.blk id p _ e1 hs;obtain⟨k1,k2,k3⟩:=r j1.symm;have hlen:((es.drop off).take len).length=len:=by simp;omega
    obtain⟨cs,k⟩:=main (δ q) cap ((es.drop off).take len) (by
     by_cases hz:len=0
     ·left;subst hz;simp
     ·right;rcases k2 with k2|k2
      ·omega
      ·exact⟨_,_,by rw[k2],by rw[j3];exact(j7.drop off).take len⟩)
    rw[hlen]at k ⊢;exact⟨δ q,cap,cs,rfl,k⟩
   ·cases h
  ·rename_i g' sz' es hs;split at h
   ·rename_i hc;obtain⟨rfl,rfl,rfl,hle⟩:=hc;injection h with h;subst h
    obtain⟨j1,j2,j3,j4,j5,j6,j7,_⟩:=hh.blk id p _ e1 hs;obtain⟨k1,k2,k3⟩:=r j1.symm;have hlen:((es.drop off).take len).length=len:=by simp;omega
    obtain⟨cs,k⟩:=main (δ q) cap ((es.drop off).take len) (by
     by_cases hz:len=0
     ·left;subst hz;simp
     ·right;rcases k2 with k2|k2
      ·omega
      ·exact⟨_,_,by rw[k2],by rw[j3];exact(j7.drop off).take len⟩)
    rw[hlen]at k ⊢;exact⟨δ q,cap,cs,rfl,k⟩
   ·cases h
  ·cases h
theorem aBB{P:Program}{c:RC}{σ:Heap}(hh:jA c σ){sz:Nat}{y:AV}{v:Value}{ys:List (List AV)}(h:T9 sz y σ=δ ys)(r:aq c y v):
  ∃(q:Option Addr)(cap:Nat)(cs:List Value),v=.slice q ys.length cap/\(∀w2:World,w2.heap=c.w.heap->(U8 sz ys.length v).run P w2=.ok cs.toArray w2)/\aR c ys.flatten cs/\(∀x∈cs,fc x=η)/\cs.length=ys.length*sz/\(∀e∈ys,e.length=sz):=by
 obtain⟨q,cap,cs,h1,h2,h3,h4,h5,h6,_⟩:=ab9 (P:=P) hh h r;exact⟨q,cap,cs,h1,h2,h3,h4,h5,h6⟩
theorem abk{sz:Nat}:∀{ys:List (List AV)}{n:Nat},(∀y∈ys,y.length=sz)->n<=ys.length->(ys.take n).flatten=ys.flatten.take (n*sz)
 |[],n,_,hn=>by simp
 |y::ys,0,_,_=>by simp
 |y::ys,n+1,h,hn=>by
  simp at hn;rw[List.take_succ_cons,VG,VG,abk (λx hx=>h x (by simp [hx])) hn,List.take_append,h y (by simp),gu,Nat.one_mul];congr 1
  ·rw[vR (by rw[h y (by simp)];omega)]
  ·congr 1;omega
theorem aoe(P:Program){e:TypeId}{i:TypeInfo}{zv:Value}(hi:P.info? e=δ i)(hz:i.zero=δ zv)(w:World):(zeroValue e).run P w=.ok zv w:=by simp [zeroValue,zu w hi,hz]
theorem akO{P:Program}{t u e e' ty:TypeId}{i:TypeInfo}{zv:Value}(ht:P.underlying t=δ (.slice e))(hu:P.underlying u=δ (.slice e'))(hi:P.info? e=δ i)(hz:i.zero=δ zv)(hb0:i.bytes≠0)
  {base q:Option Addr} {sLen sCap n cap:Nat} {olds news:List Value} (hold:(U8 i.size sLen (.slice base sLen sCap)).run P w.drew=.ok olds.toArray w.drew) (hnew:(U8 i.size n (.slice q n cap)).run P w.drew=.ok news.toArray w.drew)
  (hg:sCap<sLen+n) (hm:sLen+n<=140737488355328 / i.bytes):
  (WS #[t,u] ty #[.slice base sLen sCap,.slice q n cap]).run P w=
   .ok (.slice (δ ⟨w.heap.size,0,ξ⟩) (sLen+n) (grownCap w (sLen+n) sCap e)) (w.drew.alloc (.cells (olds.toArray++news.toArray++n5 zv.cells (grownCap w (sLen+n) sCap e-(sLen+n))) e)):=by
 have Qx:(sLen+n)*i.bytes<=140737488355328:=by have:=rz i.bytes hm;have:=aB8 140737488355328 i.bytes;omega
 have h48:=growslice_fits hg Qx;have hn:¬(sLen+n<=sCap):=by omega
 have Mg:¬(281474976710656<Builtin.nextslicecap (sLen+n) sCap*i.bytes):=by omega
 simp [WS,run_underlying ht,run_underlying hu,sizeOf,typeInfo,zeroValue,hi,hz,Vc,hn,Mg,hb0,SY,hold,hnew,newRow,grownCap];congr 2;apply Array.ext';simp [kS]
theorem bT.sub{c:RC}{b:Nat}{arr:Array Value}{t:TypeId}{fz:Nat×Nat}(h:c.w.heap[b]? =δ (.cells arr t fz)){cs:List AV}{vs pre suf:List Value}(ha:arr.toList=pre++vs++suf)(hr:aR c cs vs)(ho:∀x∈vs,fc x=η):bT c b pre.length cs:=by
 refine bT.BA h hr ho λi hi=>?_
 rw[<-Ta,ha,kS,iz (by omega),iG (by omega)];congr 1;omega
theorem bT.Gi{c:RC}{sz b:Nat}:∀{es:List (List AV)}{off:Nat},(∀e∈es,e.length=sz)->bT c b off es.flatten->bY c sz b off es
 |[],off,_,_=>by simp [bY]
 |e::es,off,hl,h=>by
  simp only[VG]at h;have he:=hl e (by simp);simp only[bY];refine⟨he,?_,bT.Gi (λx hx=>hl x (by simp [hx])) ?_⟩
  ·have:=h.take e.length;simpa using this
  ·have:=h.drop e.length;rw[he]at this;simpa [<-he]using this
theorem bY.append{c:RC}{sz b:Nat}:∀{l m:List (List AV)}{off:Nat},bY c sz b off l->bY c sz b (off+l.length*sz) m->bY c sz b off (l++m)
 |[],m,off,h,k=>by simpa using k
 |e::l,m,off,h,k=>by simp only[bY,mq]at h ⊢;refine⟨h.1,h.2.1,bY.append h.2.2 ?_⟩;rw[show off+sz+l.length*sz=off+(e::l).length*sz by simp [gu];omega];exact k
theorem bY.keep{c c':RC}(hx:Ext c c'){sz b:Nat}{es:List (List AV)}{off:Nat}(h:bY c sz b off es)(hc:∀j,off<=j->j<off+es.length*sz->c'.w.cell? ⟨b,j,ξ⟩=c.w.cell? ⟨b,j,ξ⟩):bY c' sz b off es:=by
 refine bY.of λi e hi=>?_
 obtain⟨h1,h2⟩:=bY.nth h hi;refine⟨h1,aCL λk av hk=>?_⟩;obtain⟨u,k1,k2,k3⟩:=aCb h2 hk;refine⟨u,?_,k2,Tu hx _ _ k3⟩;have hil:i<es.length:=(bD.1 hi).1;have wv:k<sz:=by rw[<-h1];exact(bD.1 hk).1
 have:(i+1)*sz<=es.length*sz:=rz _ hil;rw[gu]at this;rw[<-k1];exact hc _ (by omega) (by omega)
theorem Pp(h:St X z s a w E pb){id:Nat}{p:Pl}{g sz i:Nat}{es ys:List (List AV)}{arr:Array Value}{bt:TypeId}{news:List Value}(e1:E[id]? =δ p)(hs:s.σ[id]? =δ (.arr g sz es))(hb:w.heap[p.b]? =δ (.cells arr bt (0,0)))
  (hfit:i+ys.length<=es.length) (hr:aR (ctx z w E pb) ys.flatten news) (ho:∀x∈news,fc x=η) (hy:∀y∈ys,y.length=sz) (hn:news.length=ys.length*sz):
  p.base+i*sz+news.length<=arr.size/\St X z (s.heap (s.σ.set id (.arr g sz (es.take i++ys++es.drop (i+ys.length))))) a (w.eW p.b (.cells (gI arr (p.base+i*sz) news) bt (0,0))) E pb:=by
 obtain⟨j1,j2,j3,j4,⟨Eb,bt',j5,j6⟩,j7,j8,j9⟩:=h.heap.blk id p _ e1 hs;have j5c:w.heap[p.b]? =δ (.cells Eb bt' (0,0)):=j5;rw[hb]at j5c;injection j5c with j5d
 injection j5d with j5e j5f
 subst j5e j5f;have hm:(i+ys.length)*sz<=es.length*sz:=rz _ hfit;rw[gu]at hm;have D1:p.base+i*sz+news.length<=arr.size:=by rw[hn,j6];omega
 refine⟨D1,h.A6 e1 _ _ λhx=>?_⟩;have hlt:p.b<w.heap.size:=h.heap.lt (p:=p) (cE e1);have hh:=vw (w:=w) (.cells (gI arr (p.base+i*sz) news) bt (0,0)) hlt;have hcell:∀j,(w.eW p.b (.cells (gI arr (p.base+i*sz) news) bt (0,0))).cell? ⟨p.b,j,ξ⟩=(gI arr (p.base+i*sz) news)[j]? :=λj=>AK hh
 have hold:∀j,w.cell? ⟨p.b,j,ξ⟩=arr[j]? :=λj=>AK hb
 have out:∀j,(j<p.base+i*sz\/p.base+i*sz+news.length<=j)->(w.eW p.b (.cells (gI arr (p.base+i*sz) news) bt (0,0))).cell? ⟨p.b,j,ξ⟩=w.cell? ⟨p.b,j,ξ⟩:=by intro j hj;rw[hcell,hold,DL _ _ _ D1,aL (by omega)]
 have hti:(es.take i).length=i:=by simp;omega
 refine⟨j1,j2,j3,j4,⟨_,_,hh,by rw[Vz _ _ _ D1];exact j6⟩,?_,?_,DJ hh (ID (j9 _ _ _ hb) ho)⟩
 ·have:(es.take i++ys++es.drop (i+ys.length)).length=es.length:=by simp;omega
  rw[this];exact j7
 ·refine bY.append (bY.append (bY.keep hx (j8.take i) λj hj1 hj2=>?_) ?_) (bY.keep hx ?_ λj hj1 hj2=>?_)
  ·rw[hti]at hj2;exact out j (.inl hj2)
  ·rw[hti];refine bT.Gi hy ?_;refine bT.BA hh (Vs hx _ _ hr) ho λj hj=>?_
   show(gI arr (p.base+i*sz) news)[p.base+i*sz+j]? =_;rw[DL _ _ _ D1,aO (by omega)];congr 1;omega
  ·have:=j8.drop (i+ys.length);have e:(es.take i++ys).length=i+ys.length:=by simp;omega
   rw[e];exact this
  ·have e:(es.take i++ys).length=i+ys.length:=by simp;omega
   rw[e,gu]at hj1;refine out j (.inr ?_);rw[hn];omega
theorem Oy{zv:Value}{sz:Nat}(h:zv.cells.size=sz)(h0:sz≠0)(n:Nat):(n5 zv.cells n).toList=(Z5 n zv.cells.toList).flatten:=by have:=range_zero zv.cells.toList (by simp;omega) n;rw[<-this];simp [n5]
theorem apO(h:St X z s a w E pb){t e ty:TypeId}{i:TypeInfo}{zv:Value}{zs:List AV}(ht:X.P.underlying t=δ (.slice e))(hzv:∀w,(zeroValue e).run X.P w=.ok zv w)(hzs:zv.cells.size=i.size)(h0:i.size≠0)
  (ug:∀c,aR c zs zv.cells.toList) (hone:∀x∈zv.cells.toList,fc x=η) {x:AV} {v:Value} {σ':Heap} (gV:A.V6 i.size zs x s.σ=δ σ') (rx:aq (ctx z w E pb) x v):
  ∃w',(VI #[t] ty #[v]).run X.P w=.ok (.tuple #[]) w'/\St X z (s.heap σ') a w' E pb:=by
 unfold A.V6 at gV;have hs:s.heap s.σ=s:=rfl;split at gV
 ·injection gV with gV;subst gV
  simp only[aq]at rx;subst rx;exact⟨w,by simp [VI,run_underlying ht],by rw[hs];exact h⟩
 ·injection gV with gV;subst gV
  simp only[aq]at rx;obtain⟨q,rfl⟩:=rx;exact⟨w,by cases q<;>simp [VI,run_underlying ht],by rw[hs];exact h⟩
 ·injection gV with gV;subst gV
  simp only[aq]at rx;obtain⟨q,cap,rfl,_⟩:=rx;exact⟨w,by cases q<;>simp [VI,run_underlying ht],by rw[hs];exact h⟩
 ·rename_i id g gM off len;simp only[aq]at rx;obtain⟨hg,p,e1,e2,qa,cp,rfl,hcap,rx⟩:=rx;split at gV
  ·rename_i g' sz' es hs';split at gV
   ·rename_i hc;obtain⟨hc1,ud,C4,MS⟩:=hc;subst hc1;subst ud;subst C4;obtain⟨j1,j2,j3,j4,⟨arr,bt,j5,j6⟩,j7,j8,j9⟩:=h.heap.blk id p _ e1 hs';obtain⟨k1,k2,k3⟩:=rx j1.symm;split at gV
    ·rename_i hl;subst hl;injection gV with gV;subst gV
     exact⟨w,by simp [VI,run_underlying ht],by rw[hs];exact h⟩
    ·rename_i hl;injection gV with gV;subst gV
     have AD:qa=⟨p.b,p.base+off*p.sz,ξ⟩:=by
      rcases k2 with k2|k2
      ·omega
      ·exact k2
     have hsz:p.sz=i.size:=j3;have hzl:zs.length=i.size:=by rw[(ug (ctx z w E pb)).length];simpa using hzs
     have Ai:aR (ctx z w E pb) (Z5 len zs).flatten (n5 zv.cells len).toList:=by rw[Oy hzs h0];exact(ug _).flatten len
     have aha:∀x∈(n5 zv.cells len).toList,fc x=η:=by rw[Oy hzs h0];intro x hx;obtain⟨l,xK,pU⟩:=aBN.1 hx;rw[Ti]at xK;exact hone x (xK.2▸pU)
     have hlen:(n5 zv.cells len).toList.length=len*i.size:=by rw[YO,size_zeroCells,hzs]
     obtain⟨q1,q2⟩:=Pp h (i:=off) (ys:=Z5 len zs) e1 hs' j5 (by simpa using MS) Ai aha (λy hy=>by rw[(Ti.1 hy).2];exact hzl) (by simpa using hlen);have hst:=HM (P:=X.P) (b:=p.b) (off:=p.base+off*i.size) (t:=bt) (n5 zv.cells len).toList 0 w arr j5 (by omega) aha;rw[UU]at q2;refine⟨_,?_,q2⟩;obtain⟨m,rfl⟩:∃m,len=m+1:=⟨len-1,by omega⟩
     rw[AD,hsz];simp [VI,run_underlying ht,hzv,hst]
   ·cases gV
  ·cases gV
 ·cases gV
structure auu (P : Program) (t u : TypeId) (vy : Value) (e : TypeId) (i : TypeInfo) (zv : Value) (n : Nat) (news : List Value) (w : World) : Prop where
 JN:∀(w2:World)(ty:TypeId)(base:Option Addr)(sLen sCap:Nat),w2.heap=w.heap->sLen+n<=sCap->
  (WS #[t,u] ty #[.slice base sLen sCap,vy]).run P w2=((match base with|some a=>storeCells (a.add (sLen*i.size)) news 0|none=>pure ()) >>= λ_=>pure (Value.slice base (sLen+n) sCap):Sem Value).run P w2
 new:∀(ty:TypeId)(base:Option Addr)(sLen sCap:Nat)(olds:List Value),(U8 i.size sLen (.slice base sLen sCap)).run P w.drew=.ok olds.toArray w.drew->sCap<sLen+n->sLen+n<=140737488355328 / i.bytes->
  (WS #[t,u] ty #[.slice base sLen sCap,vy]).run P w=
   .ok (.slice (δ ⟨w.heap.size,0,ξ⟩) (sLen+n) (grownCap w (sLen+n) sCap e)) (w.drew.alloc (.cells (olds.toArray++news.toArray++n5 zv.cells (grownCap w (sLen+n) sCap e-(sLen+n))) e))
theorem adt{zv:Value}{sz:Nat}(hzs:zv.cells.size=sz)(h0:sz≠0)(hone:∀x∈zv.cells.toList,fc x=η)(n:Nat):∀x∈(n5 zv.cells n).toList,fc x=η:=by rw[Oy hzs h0];intro x hx;obtain⟨l,xK,pU⟩:=aBN.1 hx;rw[Ti]at xK;exact hone x (xK.2▸pU)
theorem P3{zv:Value}{sz:Nat}(hzs:zv.cells.size=sz)(h0:sz≠0)(hone:∀x∈zv.cells.toList,fc x=η){olds news:List Value}(h1:∀x∈olds,fc x=η)(h2:∀x∈news,fc x=η)(n:Nat):
  ∀x∈(olds.toArray++news.toArray++n5 zv.cells n).toList,fc x=η:=by
 intro x hx;simp only[aCz,aB7,jJ]at hx;rcases hx with(hx|hx)|hx
 ·exact h1 x hx
 ·exact h2 x hx
 ·exact adt hzs h0 hone n x hx
theorem ab3(h:St X z s a w E pb){t u e ty:TypeId}{i:TypeInfo}{zv:Value}(hzs:zv.cells.size=i.size)(h0:i.size≠0)(hone:∀x∈zv.cells.toList,fc x=η)
  {x:AV} {v vy:Value} {r:AV} {σ':Heap} {ys:List (List AV)} {news:List Value} (hs2:auu X.P t u vy e i zv ys.length news w) (hn2:aR (ctx z w E pb) ys.flatten news) (pV:∀x∈news,fc x=η) (ue:news.length=ys.length*i.size) (xL:∀y∈ys,y.length=i.size)
  (hap:A.pe i.size (140737488355328 / i.bytes) x ys s.σ=δ (r,σ')) (rx:aq (ctx z w E pb) x v):
  ∃k w' E',(WS #[t,u] ty #[v,vy]).run X.P w=.ok k w'/\St X z (s.heap σ') a w' E' pb/\aq (ctx z w' E' pb) r k:=by
 unfold A.pe at hap;have hne:ys≠[]->0<ys.length:=λk=>by cases ys with|nil=>exact absurd rfl k|cons y ys=>simp
 have Q5:∀k,(n5 zv.cells k).size=k*i.size:=λk=>by rw[size_zeroCells,hzs]
 cases x<;>simp only at hap<;>first|(cases hap;done)|skip
 case aA=>
  simp only[aq]at rx;subst rx;split at hap
  ·rename_i hys;subst hys;simp only[Δ,j0]at hap;obtain⟨rfl,rfl⟩:=hap;exact⟨.slice ξ 0 0,w,E,by have:=hs2.JN w ty ξ 0 0 rfl (by simp);simpa using this,h,by simp [aq]⟩
  ·rename_i hys;have hpos:=hne hys;split at hap
   ·rename_i au4;simp only[Δ,j0]at hap;obtain⟨rfl,rfl⟩:=hap;have hrun:=hs2.new ty ξ 0 0 [] (by simp [U8]) (by omega) (by omega);simp only[WW]at hrun;refine⟨_,_,E++[⟨w.heap.size,0,ys.length,i.size,(news.toArray++n5 zv.cells (grownCap w ys.length 0 e-ys.length)).size⟩],hrun,?_,?_⟩
    ·have hst:=(h.grow (w':=w.drew) ((Below.refl _ _).drew)).B5 (.cells (#[]++news.toArray++n5 zv.cells (grownCap w ys.length 0 e-ys.length)) e) (.arr ys.length i.size ys)
      ⟨w.heap.size,0,ys.length,i.size,(news.toArray++n5 zv.cells (grownCap w ys.length 0 e-ys.length)).size⟩ rfl (λhx=>?_)
     ·exact hst
     ·have hb:(w.drew.alloc (.cells (#[]++news.toArray++n5 zv.cells (grownCap w ys.length 0 e-ys.length)) e)).heap[w.heap.size]? =δ (.cells (#[]++news.toArray++n5 zv.cells (grownCap w ys.length 0 e-ys.length)) e (0,0)):=(Wu w.drew _).1;refine⟨rfl,hpos,rfl,by omega,⟨_,_,hb,by simp⟩,by simp [ue],bT.Gi xL ?_,DJ hb (P3 hzs h0 hone (olds:=[]) (by simp) pV _)⟩;exact bT.sub (pre:=[]) (suf:=(n5 zv.cells (grownCap w ys.length 0 e-ys.length)).toList) hb (by simp) (Vs (Ext.trans (yl ((Below.refl _ _).drew)) hx) _ _ hn2) pV
    ·simp only[aq];have hlen:=h.heap.len;simp only[ctx]at hlen;refine⟨hpos,⟨w.heap.size,0,ys.length,i.size,_⟩,by show(E++[_])[s.σ.length]? =_;rw[<-hlen];exact D9,bF _,_,_,rfl,grownCap_ge _ _ _ _,λ_=>⟨rfl,.inr (by simp),?_⟩⟩;have:=grownCap_ge w ys.length 0 e;simp only[Ul,Q5,Y9,ue,WW];rw[<-gu];congr 1;omega
   ·cases hap
 case ez=>
  simp only[aq]at rx;obtain⟨qb,rfl⟩:=rx;split at hap
  ·rename_i hys;subst hys;simp only[Δ,j0]at hap;obtain⟨rfl,rfl⟩:=hap;have hnews:news=[]:=by simpa using ue
   subst hnews;exact⟨.slice qb 0 0,w,E,by have:=hs2.JN w ty qb 0 0 rfl (by simp);cases qb<;>simpa [storeCells]using this,h,by simp [aq]⟩
  ·rename_i hys;have hpos:=hne hys;split at hap
   ·rename_i au4;simp only[Δ,j0]at hap;obtain⟨rfl,rfl⟩:=hap;have hrun:=hs2.new ty qb 0 0 [] (by cases qb<;>simp [U8,loadCells,loadCellsFrom]) (by omega) (by omega);simp only[WW]at hrun;refine⟨_,_,E++[⟨w.heap.size,0,ys.length,i.size,(news.toArray++n5 zv.cells (grownCap w ys.length 0 e-ys.length)).size⟩],hrun,?_,?_⟩
    ·have hst:=(h.grow (w':=w.drew) ((Below.refl _ _).drew)).B5 (.cells (#[]++news.toArray++n5 zv.cells (grownCap w ys.length 0 e-ys.length)) e) (.arr ys.length i.size ys)
      ⟨w.heap.size,0,ys.length,i.size,(news.toArray++n5 zv.cells (grownCap w ys.length 0 e-ys.length)).size⟩ rfl (λhx=>?_)
     ·exact hst
     ·have hb:(w.drew.alloc (.cells (#[]++news.toArray++n5 zv.cells (grownCap w ys.length 0 e-ys.length)) e)).heap[w.heap.size]? =δ (.cells (#[]++news.toArray++n5 zv.cells (grownCap w ys.length 0 e-ys.length)) e (0,0)):=(Wu w.drew _).1;refine⟨rfl,hpos,rfl,by omega,⟨_,_,hb,by simp⟩,by simp [ue],bT.Gi xL ?_,DJ hb (P3 hzs h0 hone (olds:=[]) (by simp) pV _)⟩;exact bT.sub (pre:=[]) (suf:=(n5 zv.cells (grownCap w ys.length 0 e-ys.length)).toList) hb (by simp) (Vs (Ext.trans (yl ((Below.refl _ _).drew)) hx) _ _ hn2) pV
    ·simp only[aq];have hlen:=h.heap.len;simp only[ctx]at hlen;refine⟨hpos,⟨w.heap.size,0,ys.length,i.size,_⟩,by show(E++[_])[s.σ.length]? =_;rw[<-hlen];exact D9,bF _,_,_,rfl,grownCap_ge _ _ _ _,λ_=>⟨rfl,.inr (by simp),?_⟩⟩;have:=grownCap_ge w ys.length 0 e;simp only[Ul,Q5,Y9,ue,WW];rw[<-gu];congr 1;omega
   ·cases hap
 case os BB og gM off len=>
  have aBe:=rx;simp only[aq]at rx;obtain⟨hg,p,e1,e2,qa,cp,rfl,hcap,rx⟩:=rx;split at hap
  ·rename_i g' sz' es hs;split at hap
   ·rename_i hc;obtain⟨hc1,ud,C4,MS,Y4⟩:=hc;subst hc1;subst ud;subst C4;obtain⟨j1,j2,j3,j4,⟨arr,bt,j5,j6⟩,j7,j8,j9⟩:=h.heap.blk BB p _ e1 hs;obtain⟨k1,k2,k3⟩:=rx j1.symm;split at hap
    ·rename_i hys;subst hys;simp only[Δ,j0]at hap;obtain⟨rfl,rfl⟩:=hap;have hnews:news=[]:=by simpa using ue
     subst hnews;exact⟨.slice (δ qa) len cp,w,E,by have:=hs2.JN w ty (δ qa) len cp rfl (by simpa using hcap);simpa [storeCells]using this,h,aBe⟩
    ·rename_i hys;have hpos:=hne hys;have Xy:(off+cp)*i.size=p.tX-p.base:=by rw[<-j3];omega
     split at hap
     ·rename_i hin;simp only[Δ,j0]at hap;obtain⟨rfl,rfl⟩:=hap;obtain⟨q1,q2⟩:=Pp h (i:=off+len) (ys:=ys) e1 hs j5 (by omega) hn2 pV xL ue
      have gV:es.length<=off+cp:=by
       have h1:es.length*i.size<=(off+cp)*i.size:=by rw[Xy];omega
       exact Vo h1 (by omega)
      have hroom:len+ys.length<=cp:=by omega
      have AD:qa=⟨p.b,p.base+off*p.sz,ξ⟩:=by
       rcases k2 with k2|k2
       ·omega
       ·exact k2
      have hsz:p.sz=i.size:=j3;have hst:=HM (P:=X.P) (b:=p.b) (off:=p.base+(off+len)*i.size) (t:=bt) news 0 w arr j5 (by omega) pV
      have hrun:(WS #[t,u] ty #[.slice (δ qa) len cp,vy]).run X.P w=.ok (.slice (δ qa) (len+ys.length) cp) (w.eW p.b (.cells (gI arr (p.base+(off+len)*i.size) news) bt (0,0))):=by
       have zb:qa.add (len*i.size)=⟨p.b,p.base+(off+len)*i.size,ξ⟩:=by rw[AD,qO,hsz];congr 1;rw[gu];omega
       rw[hs2.JN w ty (δ qa) len cp rfl hroom];simp [zb,hst]
      refine⟨_,_,E,hrun,q2,?_⟩;simp only[aq];exact⟨hg,p,e1,e2,qa,cp,rfl,hroom,λ_=>⟨hsz,.inr AD,k3⟩⟩
     simp only[Δ,j0]at hap;obtain⟨rfl,rfl⟩:=hap;have me:((es.drop off).take len).length=len:=by simp;omega
     by_cases hroom:len+ys.length<=cp
     ·-- room
      have AD:qa=⟨p.b,p.base+off*p.sz,ξ⟩:=by
       rcases k2 with k2|k2
       ·omega
       ·exact k2
      have hsz:p.sz=i.size:=j3;have hcc:(off+(len+ys.length))*i.size<=(off+cp)*i.size:=rz _ (by omega);rw[hsz]at k3;have ay1:(off+len)*i.size=off*i.size+len*i.size:=gu _ _ _;have ayK:(off+(len+ys.length))*i.size=(off+len)*i.size+ys.length*i.size:=by rw[<-jI,gu]
      have hfit:p.base+(off+len)*i.size+0+news.length<=arr.size:=by rw[ue,j6];omega
      have hst:=HM (P:=X.P) (b:=p.b) (off:=p.base+(off+len)*i.size) (t:=bt) news 0 w arr j5 hfit pV
      have hrun:(WS #[t,u] ty #[.slice (δ qa) len cp,vy]).run X.P w=.ok (.slice (δ qa) (len+ys.length) cp) (w.eW p.b (.cells (gI arr (p.base+(off+len)*i.size) news) bt (0,0))):=by
       have zb:qa.add (len*i.size)=⟨p.b,p.base+(off+len)*i.size,ξ⟩:=by rw[AD,qO,hsz];congr 1;omega
       rw[hs2.JN w ty (δ qa) len cp rfl hroom];simp [zb,hst]
      have hlt:p.b<w.heap.size:=h.heap.lt (p:=p) (cE e1);have hh:=vw (w:=w) (.cells (gI arr (p.base+(off+len)*i.size) news) bt (0,0)) hlt;have D1:p.base+(off+len)*i.size+news.length<=arr.size:=by omega
      have ng:=h.move (id:=BB) (p:=p) (p':=⟨p.b,p.base+off*i.size,og+ys.length,i.size,p.tX⟩) (w':=w.eW p.b (.cells (gI arr (p.base+(off+len)*i.size) news) bt (0,0))) (blk:=.arr (og+ys.length) i.size ((es.drop off).take len++ys)) e1
       ⟨by omega,by show p.g<og+ys.length;omega⟩ rfl rfl rfl (by rw[yj];exact bF _) (λb hb _=>wI _ (λe=>hb e.symm)) (.inl rfl) (λhx=>by
        have hcell:∀j,(w.eW p.b (.cells (gI arr (p.base+(off+len)*i.size) news) bt (0,0))).cell? ⟨p.b,j,ξ⟩=(gI arr (p.base+(off+len)*i.size) news)[j]? :=λj=>AK hh
        have hold:∀j,w.cell? ⟨p.b,j,ξ⟩=arr[j]? :=λj=>AK j5
        refine⟨rfl,by show 0<og+ys.length;omega,rfl,by omega,⟨_,_,hh,by rw[Vz _ _ _ D1];exact j6⟩,?_,?_,DJ hh (ID (j9 _ _ _ j5) pV)⟩
        ·simp only[Ve,me,gu];omega
        ·refine bY.append (bY.keep hx ((j8.drop off).take len) λj hj1 hj2=>?_) ?_
         ·rw[me]at hj2;replace hj1:p.base+off*i.size<=j:=hj1;replace hj2:j<p.base+off*i.size+len*i.size:=hj2;show(w.eW p.b _).cell? _=w.cell? _;rw[hcell,hold,DL _ _ _ D1,aL (by omega)]
         ·rw[me];refine bT.Gi xL ?_;refine bT.BA hh (Vs hx _ _ hn2) pV λj hj=>?_
          show(gI arr (p.base+(off+len)*i.size) news)[p.base+off*i.size+len*i.size+j]? =_;rw[DL _ _ _ D1,aO (by omega)]
          congr 1;omega)
      refine⟨_,_,_,hrun,ng.1,?_⟩;simp only[aq];have hid:BB<E.length:=(bD.1 e1).1;refine⟨by omega,⟨p.b,p.base+off*i.size,og+ys.length,i.size,p.tX⟩,by simp [ctx,hid],bF _,qa,cp,rfl,hroom,λ_=>⟨rfl,.inr (by rw[AD,hsz];simp),?_⟩⟩;simp only[WW];rw[gu]at k3;omega
     ·have hel:T9 i.size (.os BB og i.size off len) s.σ=δ ((es.drop off).take len):=by simp only[T9,hs];rw[aO (by simp;omega)]
      obtain⟨q2,aws,olds,MH,Bx,Ze,MX,MY,aAq⟩:=aBB (P:=X.P) h.heap hel aBe;rw[me]at Bx MY;injection MH with e2a e2b e2c
      have hrun:=hs2.new ty _ _ _ _ (Bx w.drew rfl) (by omega) Y4;obtain⟨nc,hnc⟩:∃nc,nc=grownCap w (len+ys.length) cp e:=⟨_,rfl⟩
      have LG:len+ys.length<=nc:=by rw[hnc];exact grownCap_ge _ _ _ _
      rw[<-hnc]at hrun;obtain⟨row,hrow⟩:∃row,row=olds.toArray++news.toArray++n5 zv.cells (nc-(len+ys.length)):=⟨_,rfl⟩
      have Mm:row.size=nc*i.size:=by rw[hrow];simp only[Ul,Q5,Y9,ue,MY];rw[<-gu,<-gu];congr 1;omega
      have hrl:row.toList=olds++news++(n5 zv.cells (nc-(len+ys.length))).toList:=by rw[hrow];simp
      rw[<-hrow]at hrun;have hb:(w.drew.alloc (.cells row e)).heap[w.heap.size]? =δ (.cells row e (0,0)):=(Wu w.drew _).1
      have ng:=h.move (id:=BB) (p:=p) (p':=⟨w.heap.size,0,og+ys.length,i.size,row.size⟩) (w':=w.drew.alloc (.cells row e)) (blk:=.arr (og+ys.length) i.size ((es.drop off).take len++ys)) e1
       ⟨by omega,by show p.g<og+ys.length;omega⟩ rfl rfl rfl (by simp) (λb hb' hlt=>by rw[Below.heap_alloc w.drew _ b (by simpa using hlt)];rfl) (.inr ⟨bF _,by simp⟩) (λhx=>by
        refine⟨rfl,by show 0<og+ys.length;omega,rfl,by omega,⟨_,_,hb,rfl⟩,?_,bT.Gi (λx hx'=>?_) ?_,DJ hb (by rw[hrow];exact P3 hzs h0 hone MX pV _)⟩
        ·simp only[Ve,me,WW,Mm];exact rz _ LG
        ·rcases jJ.1 hx' with hx'|hx'
         ·exact aAq x hx'
         ·exact xL x hx'
        ·rw[aCy]
         exact bT.sub (pre:=[]) (vs:=olds++news) (suf:=(n5 zv.cells (nc-(len+ys.length))).toList) hb (by rw[hrl];simp) (Vs hx _ _ (Ze.append hn2)) (λx hx'=>by
          rcases jJ.1 hx' with hx'|hx'
          ·exact MX x hx'
          ·exact pV x hx'))
      refine⟨_,_,_,hrun,ng.1,?_⟩;simp only[aq];have hid:BB<E.length:=(bD.1 e1).1;refine⟨by omega,⟨w.heap.size,0,og+ys.length,i.size,row.size⟩,by simp [ctx,hid],bF _,_,_,rfl,LG,λ_=>⟨rfl,.inr (by simp),?_⟩⟩;simp only[WW,Mm]
   ·cases hap
  ·rename_i g' sz' es hs;split at hap
   ·rename_i hc;obtain⟨hc1,ud,C4,MS,Y4,hc6⟩:=hc;subst hc1;subst ud;subst C4;obtain⟨j1,j2,j3,j4,⟨arr,bt,j5,j6⟩,j7,j8,j9⟩:=h.heap.blk BB p _ e1 hs;obtain⟨k1,k2,k3⟩:=rx j1.symm;simp only[Δ,j0]at hap;obtain⟨rfl,rfl⟩:=hap;have me:((es.drop off).take len).length=len:=by simp;omega
    have Xy:(off+cp)*i.size=es.length*i.size:=by rw[<-j3]at j7 ⊢;omega
    have hco:off+cp=es.length:=Nat.eq_of_mul_eq_mul_right j4 Xy
    have hel:T9 i.size (.os BB og i.size off len) s.σ=δ ((es.drop off).take len):=by simp only[T9,hs];rw[aO (by simp;omega)]
    obtain⟨q2,aws,olds,MH,Bx,Ze,MX,MY,aAq⟩:=aBB (P:=X.P) h.heap hel aBe;rw[me]at Bx MY;injection MH with e2a e2b e2c
    have hrun:=hs2.new ty _ _ _ _ (Bx w.drew rfl) (by omega) Y4;obtain⟨nc,hnc⟩:∃nc,nc=grownCap w (len+ys.length) cp e:=⟨_,rfl⟩
    have LG:len+ys.length<=nc:=by rw[hnc];exact grownCap_ge _ _ _ _
    rw[<-hnc]at hrun;obtain⟨row,hrow⟩:∃row,row=olds.toArray++news.toArray++n5 zv.cells (nc-(len+ys.length)):=⟨_,rfl⟩
    have Mm:row.size=nc*i.size:=by rw[hrow];simp only[Ul,Q5,Y9,ue,MY];rw[<-gu,<-gu];congr 1;omega
    have hrl:row.toList=olds++news++(n5 zv.cells (nc-(len+ys.length))).toList:=by rw[hrow];simp
    rw[<-hrow]at hrun;have hb:(w.drew.alloc (.cells row e)).heap[w.heap.size]? =δ (.cells row e (0,0)):=(Wu w.drew _).1
    have hst:=(h.grow (w':=w.drew) ((Below.refl _ _).drew)).B5 (.cells row e) (.arr (len+ys.length) i.size ((es.drop off).take len++ys))
      ⟨w.heap.size,0,len+ys.length,i.size,row.size⟩ rfl (λhx=>by
      refine⟨rfl,by show 0<len+ys.length;omega,rfl,by omega,⟨_,_,hb,rfl⟩,?_,bT.Gi (λx hx'=>?_) ?_,DJ hb (by rw[hrow];exact P3 hzs h0 hone MX pV _)⟩
      ·simp only[Ve,me,WW,Mm];exact rz _ LG
      ·rcases jJ.1 hx' with hx'|hx'
       ·exact aAq x hx'
       ·exact xL x hx'
      ·rw[aCy]
       exact bT.sub (pre:=[]) (vs:=olds++news) (suf:=(n5 zv.cells (nc-(len+ys.length))).toList) hb (by rw[hrl];simp) (Vs (Ext.trans (yl ((Below.refl _ _).drew)) hx) _ _ (Ze.append hn2)) (λx hx'=>by
        rcases jJ.1 hx' with hx'|hx'
        ·exact MX x hx'
        ·exact pV x hx'))
    refine⟨_,_,_,hrun,hst,?_⟩;simp only[aq];have hlen:=h.heap.len;simp only[ctx]at hlen;refine⟨by omega,⟨w.heap.size,0,len+ys.length,i.size,row.size⟩,by show(E++[_])[s.σ.length]? =_;rw[<-hlen];exact D9,bF _,_,_,rfl,LG,λ_=>⟨rfl,.inr (by simp),?_⟩⟩;simp only[WW,Mm]
   ·cases hap
  ·cases hap
theorem aoj(h:St X z s a w E pb){t u e e' ty:TypeId}{i:TypeInfo}{zv:Value}(ht:X.P.underlying t=δ (.slice e))(hu:X.P.underlying u=δ (.slice e'))(hi:X.P.info? e=δ i)(hz:i.zero=δ zv)(hzs:zv.cells.size=i.size)(h0:i.size≠0)(hb0:i.bytes≠0)(hone:∀x∈zv.cells.toList,fc x=η)
  {x y:AV} {v vy:Value} {r:AV} {σ':Heap} (hap:Uv i.size (140737488355328 / i.bytes) x y s.σ=δ (r,σ')) (rx:aq (ctx z w E pb) x v) (ry:aq (ctx z w E pb) y vy):
  ∃k w' E',(WS #[t,u] ty #[v,vy]).run X.P w=.ok k w'/\St X z (s.heap σ') a w' E' pb/\aq (ctx z w' E' pb) r k:=by
 unfold Uv at hap;obtain⟨ys,hy,hap⟩:=bX.1 hap;obtain⟨q,cap,news,rfl,hn1,hn2,pV,ue,xL⟩:=aBB (P:=X.P) h.heap hy ry;refine ab3 h hzs h0 hone ⟨λw2 ty base sLen sCap hw hr=>?_,λty base sLen sCap olds ho hg hm=>akO ht hu hi hz hb0 ho (hn1 w.drew rfl) hg hm⟩ hn2 pV ue xL hap rx;cases base<;>simp [WS,run_underlying ht,run_underlying hu,sizeOf,typeInfo,hi,Vc,hn1 w2 hw,hr]
theorem aa3(zs:Array Value):n5 zs 0=#[]:=by apply mU.1;apply vQ;rw[YO,size_zeroCells];simp
theorem akN{P:Program}{t u e ty:TypeId}{k k':IntKind}{i:TypeInfo}{zv:Value}(ht:P.underlying t=δ (.slice e))(hu:P.underlying u=δ (.int k))(hi:P.info? e=δ i)(hz:i.zero=δ zv)(hb0:i.bytes≠0)(h0:i.size≠0)
  {base:Option Addr} {sLen sCap n:Nat} {w2:World} (hm:n<=140737488355328 / i.bytes) (hr:sLen+n<=sCap):
  (WS #[t,u] ty #[.slice base sLen sCap,.int k' n]).run P w2=((match base with|some a=>storeCells (a.add (sLen*i.size)) (n5 zv.cells n).toList 0|none=>pure ()) >>= λ_=>pure (Value.slice base (sLen+n) sCap):Sem Value).run P w2:=by
 have Qx:n*i.bytes<=140737488355328:=by have:=rz i.bytes hm;have:=aB8 140737488355328 i.bytes;omega
 have hle:n<=n*i.bytes:=aC6 _ (by omega);have hw:θ.wrap (n:Int)=(n:Int):=by rw[IntKind.wrap_i64];omega
 have hl:¬((281474976710656:Int)<(n:Int)*(i.bytes:Int)):=by
  have:(n:Int)*(i.bytes:Int)=((n*i.bytes:Nat):Int):=by simp
  omega
 have hlf:¬((n:Int)<0):=by omega
 by_cases hn0:n=0
 ·subst hn0;have hw0:θ.wrap 0=0:=by decide
  have hr':sLen<=sCap:=by omega
  cases base<;>simp [WS,run_underlying ht,run_underlying hu,sizeOf,typeInfo,hi,asInt,asIntOf,hw0,hr',aa3]
 ·have JI:n*i.size≠0:=Nat.mul_ne_zero hn0 h0;cases base<;>simp [WS,run_underlying ht,run_underlying hu,sizeOf,typeInfo,zeroValue,hi,hz,asInt,asIntOf,hw,hl,hlf,hr,JI]
theorem ako{P:Program}{t u e ty:TypeId}{k k':IntKind}{i:TypeInfo}{zv:Value}(ht:P.underlying t=δ (.slice e))(hu:P.underlying u=δ (.int k))(hi:P.info? e=δ i)(hz:i.zero=δ zv)(hb0:i.bytes≠0)(h0:i.size≠0)
  {base:Option Addr} {sLen sCap n:Nat} {olds:List Value} (hold:(U8 i.size sLen (.slice base sLen sCap)).run P w.drew=.ok olds.toArray w.drew)
  (hg:sCap<sLen+n) (hm:sLen+n<=140737488355328 / i.bytes):
  (WS #[t,u] ty #[.slice base sLen sCap,.int k' n]).run P w=
   .ok (.slice (δ ⟨w.heap.size,0,ξ⟩) (sLen+n) (grownCap w (sLen+n) sCap e)) (w.drew.alloc (.cells (olds.toArray++(n5 zv.cells n).toList.toArray++n5 zv.cells (grownCap w (sLen+n) sCap e-(sLen+n))) e)):=by
 have Qx:(sLen+n)*i.bytes<=140737488355328:=by have:=rz i.bytes hm;have:=aB8 140737488355328 i.bytes;omega
 have hle:sLen+n<=(sLen+n)*i.bytes:=aC6 _ (by omega);have h48:=growslice_fits hg Qx;have hn:¬(sLen+n<=sCap):=by omega
 have Mg:¬(281474976710656<Builtin.nextslicecap (sLen+n) sCap*i.bytes):=by omega
 have hw:θ.wrap (n:Int)=(n:Int):=by rw[IntKind.wrap_i64];omega
 have hnb:n*i.bytes<=(sLen+n)*i.bytes:=rz _ (by omega)
 have hl:¬((281474976710656:Int)<(n:Int)*(i.bytes:Int)):=by
  have:(n:Int)*(i.bytes:Int)=((n*i.bytes:Nat):Int):=by simp
  omega
 have hlf:¬((n:Int)<0):=by omega
 have MW:¬((9223372036854775807:Int)<(sLen:Int)+(n:Int)):=by omega
 by_cases hn0:n=0
 ·subst hn0;have hw0:θ.wrap 0=0:=by decide
  have awY:¬((9223372036854775807:Int)<(sLen:Int)):=by omega
  simp only[Nat.add_zero]at hn Mg ⊢;simp [WS,run_underlying ht,run_underlying hu,sizeOf,typeInfo,zeroValue,hi,hz,asInt,asIntOf,hw0,hn,Mg,hb0,SY,hold,newRow,grownCap,aa3,awY]
 ·have JI:n*i.size≠0:=Nat.mul_ne_zero hn0 h0;simp [WS,run_underlying ht,run_underlying hu,sizeOf,typeInfo,zeroValue,hi,hz,asInt,asIntOf,hw,hl,hlf,hn,JI,Mg,hb0,SY,hold,newRow,grownCap,MW]
theorem amV(h:St X z s a w E pb){t u e ty:TypeId}{kk:IntKind}{i:TypeInfo}{zv:Value}{zs:List AV}(ht:X.P.underlying t=δ (.slice e))(hu:X.P.underlying u=δ (.int kk))(hi:X.P.info? e=δ i)(hz:i.zero=δ zv)(hzs:zv.cells.size=i.size)(h0:i.size≠0)(hb0:i.bytes≠0)
  (ug:∀c,aR c zs zv.cells.toList) (hone:∀x∈zv.cells.toList,fc x=η)
  {x y:AV} {v vy:Value} {r:AV} {σ':Heap} (hap:A.zK i.size (140737488355328 / i.bytes) zs x y s.σ=δ (r,σ')) (rx:aq (ctx z w E pb) x v) (ry:aq (ctx z w E pb) y vy):
  ∃k w' E',(WS #[t,u] ty #[v,vy]).run X.P w=.ok k w'/\St X z (s.heap σ') a w' E' pb/\aq (ctx z w' E' pb) r k:=by
 unfold A.zK at hap;split at hap
 ·rename_i k n;simp only[aq]at ry;subst ry;split at hap
  ·rename_i hn;obtain⟨hn1,hn2⟩:=hn;obtain⟨m,rfl⟩:∃m:Nat,n=m:=⟨n.toNat,by omega⟩
   simp only[Tl]at hap;have hzl:zs.length=i.size:=by rw[(ug (ctx z w E pb)).length];simpa using hzs
   have hm:m<=140737488355328 / i.bytes:=by omega
   refine ab3 (e:=e) h hzs h0 hone (ys:=Z5 m zs) (news:=(n5 zv.cells m).toList) ⟨λw2 ty base sLen sCap hw hr=>?_,λty base sLen sCap olds ho hg hmm=>?_⟩ ?_ (adt hzs h0 hone m) ?_ (λy hy=>by rw[(Ti.1 hy).2];exact hzl) hap rx
   ·rw[UU]at hr ⊢;exact akN ht hu hi hz hb0 h0 hm hr
   ·rw[UU]at hg hmm ⊢;exact ako ht hu hi hz hb0 h0 ho hg hmm
   ·rw[Oy hzs h0];exact(ug _).flatten m
   ·rw[YO,size_zeroCells,hzs,UU]
  ·cases hap
 ·cases hap
theorem arx(h:St X z s a w E pb){t u e e' ty:TypeId}{i:TypeInfo}(ht:X.P.underlying t=δ (.slice e))(hu:X.P.underlying u=δ (.slice e'))(hi:X.P.info? e=δ i)(h0:i.size≠0)
  {x y:AV} {v vy:Value} {r:AV} {σ':Heap} (pS:A.att i.size x y s.σ=δ (r,σ')) (rx:aq (ctx z w E pb) x v) (ry:aq (ctx z w E pb) y vy):
  ∃k w',(Xf #[t,u] ty #[v,vy]).run X.P w=.ok k w'/\St X z (s.heap σ') a w' E pb/\aq (ctx z w' E pb) r k:=by
 unfold A.att at pS;obtain⟨ys,hy,pS⟩:=bX.1 pS;obtain⟨q,cap,news,rfl,hn1,hn2,pV,ue,xL,hn6⟩:=ab9 (P:=X.P) h.heap hy ry;have hs0:s.heap s.σ=s:=rfl
 have MV:(U8 i.size 0 (.slice q ys.length cap)).run X.P w=.ok #[] w:=by have:=hn6 0 (kD _) w rfl;simpa using this
 cases x<;>simp only at pS<;>first|(cases pS;done)|skip
 case aA=>
  simp only[Δ,j0]at pS;obtain⟨rfl,rfl⟩:=pS;simp only[aq]at rx;subst rx;exact⟨goInt 0,w,by simp [Xf,run_underlying ht,sizeOf,typeInfo,hi,Vc,MV,Nat.min],by rw[hs0];exact h,by simp [aq,goInt]⟩
 case ez=>
  simp only[Δ,j0]at pS;obtain⟨rfl,rfl⟩:=pS;simp only[aq]at rx;obtain⟨qb,rfl⟩:=rx;exact⟨goInt 0,w,by cases qb<;>simp [Xf,run_underlying ht,sizeOf,typeInfo,hi,Vc,MV,storeCells],by rw[hs0];exact h,by simp [aq,goInt]⟩
 case os=>
  rename_i BB og gM off len ay3;simp only[aq]at rx;obtain⟨hg,p,e1,e2,qa,cp,rfl,hcap,rx⟩:=rx;split at pS
  ·rename_i g' sz' es hs;split at pS
   ·rename_i hc;obtain⟨hc1,ud,C4,MS⟩:=hc;subst hc1;subst ud;subst C4;obtain⟨j1,j2,j3,j4,⟨arr,bt,j5,j6⟩,j7,j8,j9⟩:=h.heap.blk BB p _ e1 hs;obtain⟨k1,k2,k3⟩:=rx j1.symm;have hmin:Nat.min ys.length len=(ys.take len).length:=by rw[oH];exact Nat.min_comm _ _
    split at pS
    ·rename_i hz;simp only[Δ,j0]at pS;obtain⟨rfl,rfl⟩:=pS;have hm0:Nat.min ys.length len=0:=by rcases hz with k|k<;>rw[k]<;>simp [Nat.min_def]
     refine⟨goInt 0,w,?_,by rw[hs0];exact h,by simp [aq,goInt]⟩;simp [Xf,run_underlying ht,sizeOf,typeInfo,hi,Vc,hm0,MV,storeCells]
    ·rename_i hz;simp only[Δ,j0]at pS;obtain⟨rfl,rfl⟩:=pS
     have AD:qa=⟨p.b,p.base+off*p.sz,ξ⟩:=by
      rcases k2 with k2|k2
      ·omega
      ·exact k2
     have hsz:p.sz=i.size:=j3;obtain⟨n,hn⟩:∃n,n=(ys.take len).length:=⟨_,rfl⟩
     have hnl:n<=ys.length/\n<=len:=by rw[hn,oH];omega
     have Ry:=hn6 n hnl.1 w rfl;have hyt:ys.take len=ys.take n:=by rw[hn,oH];rw[List.take_eq_take_iff];omega
     have au1:(news.take (n*i.size)).length=n*i.size:=by rw[oH,ue];exact Nat.min_eq_left (rz _ hnl.1)
     have Ai:aR (ctx z w E pb) (ys.take n).flatten (news.take (n*i.size)):=by have:(ys.take n).flatten=ys.flatten.take (n*i.size):=abk xL hnl.1;rw[this];exact hn2.take _
     obtain⟨q1,q2⟩:=Pp h (i:=off) (ys:=ys.take n) e1 hs j5 (by rw[oH];omega) Ai (λx hx=>pV x (xq hx)) (λy hy=>xL y (xq hy)) (by rw[au1,oH];congr 1;omega);have hst:=HM (P:=X.P) (b:=p.b) (off:=p.base+off*i.size) (t:=bt) (news.take (n*i.size)) 0 w arr j5 (by omega) (λx hx=>pV x (xq hx));rw[hyt];have azH:(ys.take n).length=n:=by rw[oH];omega
     refine⟨goInt n,_,?_,q2,?_⟩
     ·rw[AD,hsz];simp [Xf,run_underlying ht,sizeOf,typeInfo,hi,Vc,hmin,<-hn,Ry,hst]
     ·rw[azH];simp [aq,goInt]
   ·cases pS
  ·cases pS
theorem all_some{R:Type}{p:Nat->Prop}{k:Nat->Option R}{r:R}(h:A.all p k=δ r){n:Nat}(hn:p n):k n=δ r:=by
 unfold A.all at h;split at h
 ·rename_i hx;injection h with h
  rw[<-h];exact ZR hx n hn
 ·cases h
theorem arp(h:St X z s a w E pb){R:Type}{k:Nat->Heap->Option R}{r:R}{t e ty:TypeId}(ht:X.P.underlying t=δ (.slice e)){x:AV}{v:Value}(hk:A.Ee x s.σ k=δ r)(rx:aq (ctx z w E pb) x v):
  ∃c σ',k c σ'=δ r/\(aBT #[t] ty #[v]).run X.P w=.ok (.int θ (c:Int)) w/\St X z (s.heap σ') a w E pb:=by
 unfold A.Ee at hk;cases x<;>simp only at hk<;>first|(cases hk;done)|skip
 rename_i id g sz off len;simp only[aq]at rx;obtain⟨hg,p,e1,e2,qa,cp,rfl,hcap,rx⟩:=rx;split at hk
 ·rename_i g' sz' es hs;split at hk
  ·rename_i hc;obtain⟨hc1,ud,MS⟩:=hc;subst hc1;subst ud;obtain⟨j1,j2,j3,j4,⟨arr,bt,j5,j6⟩,j7,j8,j9⟩:=h.heap.blk id p _ e1 hs;obtain⟨k1,k2,k3⟩:=rx j1.symm;rw[k1]at k3;have hle:es.length<=off+cp:=Vo (show es.length*sz<=(off+cp)*sz by omega) j4;have hk2:=all_some hk (n:=cp) ⟨hcap,hle⟩;by_cases htt:cp=len
   ·rw[aO htt]at hk2;refine⟨cp,_,hk2,by simp [aBT,run_underlying ht,goInt],?_⟩;have Bz:w.heap[p.b]? =δ (.cells arr bt (0,0)):=j5;have hel:es.length=off+cp:=by omega
    have hst:=h.A6 e1 (.cells arr bt (0,0)) (.vT g sz es) (λhx=>by
     have hsame:w.eW p.b (.cells arr bt (0,0))=w:=KP Bz;rw[hsame]
     exact⟨j1,j2,j3,j4,⟨arr,bt,j5,j6⟩,by rw[hel];omega,j8,j9⟩)
    rw[KP Bz]at hst;exact hst
   rw[aL htt]at hk2;refine⟨cp,_,hk2,by simp [aBT,run_underlying ht,goInt],?_⟩;have Bz:w.heap[p.b]? =δ (.cells arr bt (0,0)):=j5
   have hst:=h.A6 e1 (.cells arr bt (0,0)) (.arr g sz (es++Z5 (off+cp-es.length) (Z5 sz .undef))) (λhx=>by
    have hsame:w.eW p.b (.cells arr bt (0,0))=w:=KP Bz;rw[hsame];refine⟨j1,j2,j3,j4,⟨arr,bt,j5,j6⟩,?_,bY.append j8 (bY.of λj x hj=>?_),j9⟩
    ·rw[Ve,UU,show es.length+(off+cp-es.length)=off+cp by omega];omega
    ·have hjl:=(bD.1 hj).1;rw[UU]at hjl;have hx':=cE hj;rw[Ti]at hx';rw[hx'.2];refine⟨UU,aCL λm av hm=>?_⟩;have hml:=(bD.1 hm).1;rw[UU]at hml;have GK:=cE hm;rw[Ti]at GK;have hmul:(es.length+(j+1))*sz<=(off+cp)*sz:=rz _ (by omega);rw[gu,gu]at hmul;have hin:p.base+es.length*sz+j*sz+m<arr.size:=by rw[j6];omega
     refine⟨arr[p.base+es.length*sz+j*sz+m],?_,j9 _ _ _ j5 _ (by simp),by rw[GK.2];simp [aq]⟩;show w.cell? _=_
     rw[AK Bz,uD hin])
   rw[KP Bz]at hst;exact hst
  ·cases hk
 ·cases hk
end
end
section
open Go.RowKit
section
variable {c : RC}
theorem Pw{k:Nat}{x y:AV}{v u:Value}(n:Nat)(h:A.oR k x y=δ η)(r:aq c x v)(q:aq c y u):S3 n u v=η:=by
 unfold A.oR at h;split at h
 ·unfold A.pR at h;split at h
  ·simp only[aq]at r q;split at h
   ·injection h with h;subst_vars;simp at h;subst h;simp [S3]
   ·cases h
  ·cases h
 ·unfold A.Au at h;split at h
  ·simp only[aq]at r q;injection h with h;subst_vars;simp at h;subst h;simp [S3]
  ·cases h
 ·unfold A.sN at h;split at h
  ·simp only[aq]at r q;injection h with h;subst_vars;simp only[S3];rename_i a b
   rw[LM]at h ⊢;rw[beq_iff_eq]at h ⊢;exact h.symm
  ·cases h
 ·cases h
theorem acd(n:Nat):∀{ks:List Nat}{xs ys:List AV}{vs us:List Value},XN ks xs ys=δ η->aR c xs vs->aR c ys us->us.length=vs.length/\((us.zip vs).all λ(p:Value×Value)=>S3 n p.1 p.2)=η
 |[],[],[],vs,us,_,r,q=>by simp only[aR]at r q;subst r;subst q;simp
 |[],[],_::_,_,_,h,_,_=>by simp [XN]at h
 |[],_::_,_,_,_,h,_,_=>by simp [XN]at h
 |_::_,[],_,_,_,h,_,_=>by simp [XN]at h
 |_::_,_::_,[],_,_,h,_,_=>by simp [XN]at h
 |k::ks,x::xs,y::ys,vs,us,h,r,q=>by simp only[XN]at h;obtain⟨p,h1,h2⟩:=bX.1 h;obtain⟨p',h3,h4⟩:=eP.1 h2;simp only[je]at h4;obtain⟨rfl,rfl⟩:=h4;simp only[aR]at r q;obtain⟨v,vs',rfl,r1,r2⟩:=r;obtain⟨u,us',rfl,q1,q2⟩:=q;obtain⟨i1,i2⟩:=acd n h3 r2 q2;exact⟨by simp [i1],by simp [Pw n h1 r1 q1];simpa using i2⟩
theorem ap2{e:A.EK}{x y:AV}{v u:Value}(hk:A.kK e x=η)(h:Uj e x y=δ η)(r:aq c x v)(q:aq c y u):S3 10000 u v=η:=by
 cases e<;>simp only[Uj]at h;case i=>exact Pw (k:=0) _ h r q
 case b=>exact Pw (k:=1) _ h r q
 case z=>exact Pw (k:=2) _ h r q
 case p=>cases x<;>simp [A.kK]at hk
 case s ks=>
  split at h
  ·simp only[aq]at r q;obtain⟨vs,rfl,r1,_⟩:=r;obtain⟨us,rfl,q1,_⟩:=q;obtain⟨i1,i2⟩:=acd 9999 h r1 q1;show S3 (9999+1) _ _=η;simp only[S3,je];exact⟨by simpa using i1,i2⟩
  ·cases h
theorem agE{e:A.EK}{k v:AV}:∀{bJ lS:List (AV×AV)}{i:Nat}{ix:Option Nat},A.upd e k v bJ=δ lS->A.vG e k bJ i=δ ix->
  (ix=ξ/\lS=bJ++[(k,v)])\/∃j p,ix=δ (i+j)/\bJ[j]? =δ p/\Uj e k p.1=δ η/\lS=bJ.set j (k,v)
 |[],lS,i,ix,h,g=>by simp only[A.upd,A.vG]at h g;injection h with h;injection g with g;exact .inl ⟨g.symm,by simpa using h.symm⟩
 |(k',v')::bJ,lS,i,ix,h,g=>by
  simp only[A.upd,A.vG]at h g;obtain⟨b,h1,h2⟩:=bX.1 h;rw[h1,aP]at g;cases b
  ·simp only[bK]at h2 g;obtain⟨e2,h3,h4⟩:=eP.1 h2;rcases agE h3 g with⟨rfl,rfl⟩|⟨j,p,rfl,k1,k2,rfl⟩
   ·exact .inl ⟨rfl,by simpa using h4.symm⟩
   ·exact .inr ⟨j+1,p,by congr 1;omega,by simpa using k1,k2,by simpa using h4.symm⟩
  ·simp only[cA]at h2 g;injection h2 with h2;injection g with g
   exact .inr ⟨0,(k',v'),g.symm,rfl,h1,by simpa using h2.symm⟩
theorem af0{e:A.EK}{k:AV}:∀{bJ lS:List (AV×AV)}{i:Nat}{ix:Option Nat},A.del e k bJ=δ lS->A.vG e k bJ i=δ ix->
  (ix=ξ/\lS=bJ)\/∃j,ix=δ (i+j)/\j<bJ.length/\lS=bJ.eraseIdx j
 |[],lS,i,ix,h,g=>by simp only[A.del,A.vG]at h g;injection h with h;injection g with g;exact .inl ⟨g.symm,h.symm⟩
 |(k',v')::bJ,lS,i,ix,h,g=>by
  simp only[A.del,A.vG]at h g;obtain⟨b,h1,h2⟩:=bX.1 h;rw[h1,aP]at g;cases b
  ·simp only[bK]at h2 g;obtain⟨e2,h3,h4⟩:=eP.1 h2;rcases af0 h3 g with⟨rfl,rfl⟩|⟨j,rfl,k1,rfl⟩
   ·exact .inl ⟨rfl,by simpa using h4.symm⟩
   ·exact .inr ⟨j+1,by congr 1;omega,by simpa using k1,by simpa using h4.symm⟩
  ·simp only[cA]at h2 g;injection h2 with h2;injection g with g
   exact .inr ⟨0,g.symm,by simp,by simpa using h2.symm⟩
theorem adl{e:A.EK}{k v:AV}:∀{bJ lS:List (AV×AV)},A.upd e k v bJ=δ lS->∃r,XS e k bJ=δ r
 |[],lS,_=>⟨ξ,rfl⟩
 |(k',v')::bJ,lS,g=>by
  simp only[A.upd]at g;obtain⟨b,h1,h2⟩:=bX.1 g;cases b
  ·obtain⟨e2,h3,_⟩:=eP.1 (by simpa using h2);obtain⟨r,hr⟩:=adl h3;exact⟨r,by simp [XS,h1,hr]⟩
  ·exact⟨δ v',by simp [XS,h1]⟩
theorem adk{e:A.EK}{k:AV}:∀{bJ lS:List (AV×AV)},A.del e k bJ=δ lS->∃r,XS e k bJ=δ r
 |[],lS,_=>⟨ξ,rfl⟩
 |(k',v')::bJ,lS,g=>by
  simp only[A.del]at g;obtain⟨b,h1,h2⟩:=bX.1 g;cases b
  ·obtain⟨e2,h3,_⟩:=eP.1 (by simpa using h2);obtain⟨r,hr⟩:=adk h3;exact⟨r,by simp [XS,h1,hr]⟩
  ·exact⟨δ v',by simp [XS,h1]⟩
theorem dD.nth:∀{l:List (AV×AV)}{es:List MapEntry}{i:Nat}{p:AV×AV},dD c l es->l[i]? =δ p->∃e,es[i]? =δ e/\aq c p.1 e.key/\aq c p.2 e.val
 |[],es,i,p,h,k=>by simp at k
 |(a,b)::l,es,0,p,h,k=>by obtain⟨e,es',rfl,h1,h2,_⟩:=h;simp at k;subst k;exact⟨e,rfl,h1,h2⟩
 |(a,b)::l,es,i+1,p,h,k=>by obtain⟨e,es',rfl,_,_,h3⟩:=h;simp at k;obtain⟨e',k1,k2⟩:=dD.nth h3 k;exact⟨e',by simpa using k1,k2⟩
theorem dD.set{k v:AV}{key val:Value}(rk:aq c k key)(rv:aq c v val):∀{l:List (AV×AV)}{es:List MapEntry}(j:Nat),dD c l es->dD c (l.set j (k,v)) (es.modify j λe=>{e with key,val})
 |[],es,j,h=>by simp only[dD]at h;subst h;simp [dD]
 |(a,b)::l,es,0,h=>by obtain⟨e,es',rfl,h1,h2,h3⟩:=h;exact⟨_,_,rfl,rk,rv,h3⟩
 |(a,b)::l,es,j+1,h=>by obtain⟨e,es',rfl,h1,h2,h3⟩:=h;exact⟨e,_,rfl,h1,h2,dD.set rk rv j h3⟩
theorem dD.push{k v:AV}{key val:Value}{n:Nat}(rk:aq c k key)(rv:aq c v val):∀{l:List (AV×AV)}{es:List MapEntry},dD c l es->dD c (l++[(k,v)]) (es++[⟨key,val,n⟩])
 |[],es,h=>by simp only[dD]at h;subst h;exact⟨_,_,rfl,rk,rv,rfl⟩
 |(a,b)::l,es,h=>by obtain⟨e,es',rfl,h1,h2,h3⟩:=h;exact⟨e,_,rfl,h1,h2,dD.push rk rv h3⟩
theorem dD.erase:∀{l:List (AV×AV)}{es:List MapEntry}(j:Nat),dD c l es->dD c (l.eraseIdx j) (es.eraseIdx j)
 |[],es,j,h=>by simp only[dD]at h;subst h;simp [dD]
 |(a,b)::l,es,0,h=>by obtain⟨e,es',rfl,h1,h2,h3⟩:=h;exact h3
 |(a,b)::l,es,j+1,h=>by obtain⟨e,es',rfl,h1,h2,h3⟩:=h;exact⟨e,_,rfl,h1,h2,dD.erase j h3⟩
end
theorem qh.push{es:Array MapEntry}{aJ:Nat}{key val:Value}(h:qh es aJ):qh (es.push ⟨key,val,aJ⟩) (aJ+1):=by
 refine⟨λe he=>?_,?_⟩
 ·simp only[Array.toList_push,jJ,Un]at he;rcases he with he|rfl
  ·have:=h.1 e he;omega
  ·exact Nat.lt_succ_self _
 ·simp only[Array.toList_push,V8,eo,Wf];rw[List.nodup_append];refine⟨h.2,by simp,λa ha b hb=>?_⟩;obtain⟨e,he,rfl⟩:=fL.1 ha;have:=h.1 e he;simp at hb;omega
theorem abP(key val:Value):∀(l:List MapEntry)(i:Nat),(l.modify i λe=>{e with key,val}).map (·.born)=l.map (·.born)
 |[],i=>by simp
 |e::l,0=>by simp
 |e::l,i+1=>by simp [abP key val l i]
theorem qh.modify{es:Array MapEntry}{aJ i:Nat}{key val:Value}(h:qh es aJ):qh (es.modify i λe=>{e with key,val}) aJ:=by
 have hb:(es.modify i λe=>{e with key,val}).toList.map (·.born)=es.toList.map (·.born):=by rw[Array.toList_modify,abP]
 refine⟨λe he=>?_,by rw[hb];exact h.2⟩;have:e.born∈es.toList.map (·.born):=by rw[<-hb];exact fL.2 ⟨e,he,rfl⟩
 obtain⟨e',he',e1⟩:=fL.1 this;rw[<-e1];exact h.1 e' he'
theorem qh.erase{es:Array MapEntry}{aJ i:Nat}(h:qh es aJ):qh (es.eraseIdxIfInBounds i) aJ:=by
 by_cases hi:i<es.size
 ·have hee:(es.eraseIdxIfInBounds i).toList=es.toList.eraseIdx i:=by simp [aBJ,hi]
  refine⟨λe he=>h.1 e (by rw[hee]at he;exact List.mem_of_mem_eraseIdx he),?_⟩;rw[hee];exact h.2.sublist ((List.eraseIdx_sublist _ _).map _)
 ·have:es.eraseIdxIfInBounds i=es:=by simp [aBJ,hi]
  rw[this];exact h
theorem qh.empty:qh #[] 0:=⟨by simp,by simp⟩
section
variable {X : Fx} {z : Z} {s : AS} {a : Act} {w w' : World} {E : List Pl} {pb : Nat -> Option Nat}
theorem O5{P:Program}{b:Nat}{es:Array MapEntry}{aJ:Nat}(o:Obj)(h:w.heap[b]? =δ (.map es aJ)):(setObj b o).run P w=.ok () (w.eW b o):=by simp [setObj,Sp,h,World.eW]
theorem asv(h:St X z s a w E pb){t kt et:TypeId}{ek:A.EK}{m k v:AV}{mv key val:Value}{σ':Heap}(ht:X.P.underlying t=δ (.map kt et))(he:nY X kt=δ ek)(hu:A.iX ek m k v s.σ=δ σ')
  (rm:aq (ctx z w E pb) m mv) (rk:aq (ctx z w E pb) k key) (rv:aq (ctx z w E pb) v val):∃w',(aCA t mv key val).run X.P w=.ok () w'/\St X z (s.heap σ') a w' E pb:=by
 unfold A.iX at hu;cases hk:A.kK ek k
 ·rw[hk]at hu;cases hu
 ·rw[hk]at hu;simp only[cA]at hu;cases m<;>simp only at hu<;>first|(cases hu;done)|skip
  rename_i id;simp only[aq]at rm;obtain⟨p,e1,e2,rfl⟩:=rm;split at hu
  ·rename_i bJ hs;obtain⟨lS,h1,h2⟩:=eP.1 hu;subst h2;obtain⟨hg,es,aJ,k1,kw,k2⟩:=h.heap.blk id p _ e1 hs;obtain⟨r,hr⟩:=adl h1;obtain⟨res,f1,f2,f3⟩:=avs (c:=ctx z w E pb) w X he hk rk hr k2;have EE:=OJ (c:=ctx z w E pb) w X he hk rk ι;have jL:(getObj p.b).run X.P w=.ok (.map es aJ) w:=by simp [getObj,Sp,show w.heap[p.b]? =_ from k1]
   have hlt:p.b<w.heap.size:=h.heap.lt (p:=p) (cE e1);rcases agE h1 f3 with⟨e3,rfl⟩|⟨j,q,e3,q1,q2,rfl⟩
   ·have hres:res=ξ:=by cases res with|none=>rfl|some x=>simp at e3
    subst hres;refine⟨w.eW p.b (.map (es.push ⟨key,val,aJ⟩) (aJ+1)),?_,h.A6 e1 _ _ λhx=>⟨hg,_,_,vw _ hlt,kw.push,?_⟩⟩
    ·simp [aCA,run_underlying ht,jL,EE,f1,O5 _ (show w.heap[p.b]? =_ from k1)]
    ·have:=dD.push (n:=aJ) (Tu hx _ _ rk) (Tu hx _ _ rv) (k2.mono hx);simpa using this
   ·obtain⟨i,u,hres,hi⟩:∃i u,res=δ (i,u)/\i=j:=by
     cases res with
     |none=>simp at e3
     |some x=>exact⟨x.1,x.2,rfl,by simpa using e3⟩
    subst hi;subst hres;obtain⟨e,n1,n2,_⟩:=k2.nth q1;have hsame:=ap2 (c:=ctx z w E pb) hk q2 rk n2;have AB:es[i]? =δ e:=by rw[<-Ta];exact n1
    refine⟨w.eW p.b (.map (es.modify i λe=>{e with key,val}) aJ),?_,h.A6 e1 _ _ λhx=>⟨hg,_,_,vw _ hlt,kw.modify,?_⟩⟩
    ·simp [aCA,run_underlying ht,jL,EE,f1,AB,Instr.keyThatStays,hsame,O5 _ (show w.heap[p.b]? =_ from k1)]
    ·have:=dD.set (Tu hx _ _ rk) (Tu hx _ _ rv) i (k2.mono hx);simpa using this
  ·cases hu
theorem asq(h:St X z s a w E pb){t kt et u ty:TypeId}{ek:A.EK}{m k:AV}{mv key:Value}{σ':Heap}(ht:X.P.underlying t=δ (.map kt et))(he:nY X kt=δ ek)(hu:A.Gc ek m k s.σ=δ σ')
  (rm:aq (ctx z w E pb) m mv) (rk:aq (ctx z w E pb) k key):∃w',(aBW #[t,u] ty #[mv,key]).run X.P w=.ok (.tuple #[]) w'/\St X z (s.heap σ') a w' E pb:=by
 unfold A.Gc at hu;cases hk:A.kK ek k
 ·rw[hk]at hu;cases hu
 ·rw[hk]at hu;simp only[cA]at hu;cases m<;>simp only at hu<;>first|(cases hu;done)|skip
  case nm=>
   injection hu with hu;subst hu
   simp only[aq]at rm;subst rm;exact⟨w,by simp [aBW,run_underlying ht,OJ (c:=ctx z w E pb) w X he hk rk η],h⟩
  case om id=>
   simp only[aq]at rm;obtain⟨p,e1,e2,rfl⟩:=rm;split at hu
   ·rename_i bJ hs;obtain⟨lS,h1,h2⟩:=eP.1 hu;subst h2;obtain⟨hg,es,aJ,k1,kw,k2⟩:=h.heap.blk id p _ e1 hs;obtain⟨r,hr⟩:=adk h1;obtain⟨res,f1,f2,f3⟩:=avs (c:=ctx z w E pb) w X he hk rk hr k2;have EE:=OJ (c:=ctx z w E pb) w X he hk rk es.isEmpty;have jL:(getObj p.b).run X.P w=.ok (.map es aJ) w:=by simp [getObj,Sp,show w.heap[p.b]? =_ from k1]
    have hlt:p.b<w.heap.size:=h.heap.lt (p:=p) (cE e1);rcases af0 h1 f3 with⟨e3,rfl⟩|⟨j,e3,q1,rfl⟩
    ·have hres:res=ξ:=by cases res with|none=>rfl|some x=>simp at e3
     subst hres;refine⟨w.eW p.b (.map es aJ),?_,h.A6 e1 _ _ λhx=>⟨hg,_,_,vw _ hlt,kw,k2.mono hx⟩⟩;simp [aBW,run_underlying ht,jL,EE,f1,O5 _ (show w.heap[p.b]? =_ from k1)]
    ·obtain⟨i,u',hres,hi⟩:∃i u,res=δ (i,u)/\i=j:=by
      cases res with
      |none=>simp at e3
      |some x=>exact⟨x.1,x.2,rfl,by simpa using e3⟩
     subst hi;subst hres;refine⟨w.eW p.b (.map (es.eraseIdxIfInBounds i) aJ),?_,h.A6 e1 _ _ λhx=>⟨hg,_,_,vw _ hlt,kw.erase,?_⟩⟩
     ·simp [aBW,run_underlying ht,jL,EE,f1,O5 _ (show w.heap[p.b]? =_ from k1)]
     ·have hl:=k2.length;have:i<es.size:=by simp at hl;omega
      have hee:(es.eraseIdxIfInBounds i).toList=es.toList.eraseIdx i:=by simp [aBJ,this]
      rw[hee];exact dD.erase i (k2.mono hx)
   ·cases hu
theorem abg{f:MapEntry->Nat}:∀{l:List MapEntry}{j:Nat}{e:MapEntry},(l.map f).Nodup->l[j]? =δ e->(l.filter λx=>!(f x==f e))=l.eraseIdx j
 |[],j,e,_,h=>by simp at h
 |x::l,0,e,hn,h=>by
  simp at h;subst h;simp only[eo,rB]at hn;simp only[List.filter_cons,beq_self_eq_true,Xk,List.eraseIdx_cons_zero];rw[List.filter_eq_self.2]
  ·simp
  ·intro y hy;have:f y≠f x:=λe=>hn.1 (fL.2 ⟨y,hy,e⟩)
   simp [this]
 |x::l,j+1,e,hn,h=>by
  simp only[eo,rB]at hn;simp at h;have hne:f x≠f e:=λk=>hn.1 (fL.2 ⟨e,cE h,k.symm⟩)
  simp only[List.filter_cons,List.eraseIdx_cons_succ];have:(f x==f e)=ι:=by simpa using hne
  rw[this];simp only[U6,if_true];rw[abg hn.2 h]
theorem choose_lt{P:Program}(w:World){n:Nat}(hn:0<n):∃j w',j<n/\(choose (.mapNext n)).run P w=.ok j w'/\Below w.heap.size w w'/\w'.heap=w.heap:=by
 by_cases h1:n<=1
 ·exact⟨0,w,hn,by simp [choose,Sp,SY,h1],Below.refl _ _,rfl⟩
 ·refine⟨_,w.drew,?_,by simp [choose,Sp,SY,h1];rfl,(Below.refl _ _).drew,rfl⟩;simp only[Question.cut];exact Nat.mod_lt _ hn
theorem qh.aAg{es:Array MapEntry}{aJ:Nat}(h:qh es aJ)(b:Bool):(!b&&!es.isEmpty&&es.all λe=>decide (e.born>=aJ))=ι:=by
 cases b
 ·by_cases he:es.isEmpty=η
  ·simp [he]
  ·have hs:0<es.size:=by rw[Array.isEmpty_iff]at he;exact Nat.pos_of_ne_zero λk=>he (aC7 k)
   have:=h.1 es[0] (by simp)
   have:¬(es.all λe=>decide (e.born>=aJ))=η:=by intro k;rw[Array.all_eq_true]at k;have:=k 0 hs;simp at this;omega
   simp only[Bool.not_eq_true]at this;rw[this];simp
 ·simp
theorem filter_all{l:Array MapEntry}{aJ:Nat}(h:∀e∈l.toList,e.born<aJ):l.filter (λe=>decide (e.born<aJ))=l/\l.filter (λe=>decide (e.born>=aJ))=#[]:=by
 constructor
 ·apply mU.1;rw[aBK,List.filter_eq_self.2];intro e he;simpa using h e he
 ·apply mU.1;rw[aBK];show _=[]
  rw[List.filter_eq_nil_iff];intro e he;have:=h e he;simp;omega
theorem aft{α:Type}{l:List α}{j:Nat}(hj:j<l.length):(l[j]::l.eraseIdx j).Perm l:=by
 have e:l=l.take j++l[j]::l.drop (j+1):=by rw[List.getElem_cons_drop,Wb]
 rw[YC];conv=>rhs;rw[e]
 exact List.perm_middle.symm
theorem asy(h:St X z s a w E pb){R:Type}{k:AV->Heap->Option R}{r:R}{i:AV}{v:Value}{ty:TypeId}(hk:A.vO i s.σ k=δ r)(ri:aq (ctx z w E pb) i v):
  ∃av σ' v' w',k av σ'=δ r/\(Si v ι ty).run X.P w=.ok v' w'/\St X z (s.heap σ') a w' E pb/\aq (ctx z w' E pb) av v':=by
 unfold A.vO at hk;split at hk
 ·rename_i id;simp only[aq]at ri;obtain⟨p,e1,e2,rfl⟩:=ri;have hlt:p.b<w.heap.size:=h.heap.lt (p:=p) (cE e1);have au5:aq (ctx z w E pb) (.aM [.bool ι]) (.tuple #[.bool ι]):=by simp [aq,aR]
  have hs0:s.heap s.σ=s:=rfl;split at hk
  ·rename_i cur hs;obtain⟨hg,hit⟩:=h.heap.blk id p _ e1 hs;rcases hit with⟨_,_,since,seen,last,h3⟩|⟨m,seen,bJ,aJ,h3,h4,h5,h6,h7,h8,h9⟩
   ·have jL:(getObj p.b).run X.P w=.ok (.mapIter ξ since seen last) w:=by simp [getObj,Sp,show w.heap[p.b]? =_ from h3]
    exact⟨_,_,_,w,hk,by simp [Si,jL],by rw[hs0];exact h,au5⟩
   ·have jL:(getObj p.b).run X.P w=.ok (.mapIter (δ m) aJ seen aJ) w:=by simp [getObj,Sp,show w.heap[p.b]? =_ from h3]
    have vM:(getObj m).run X.P w=.ok (.map bJ aJ) w:=by simp [getObj,Sp,show w.heap[m]? =_ from h6]
    obtain⟨l,h8,za⟩:=h8;simp only[dD]at h8;subst h8;have hl:bJ.filter (λe=>!seen.contains e.born)=#[]:=by apply mU.1;rw[aBK];exact za.nil_eq.symm
    obtain⟨j,w',hj,hch,hb,hw⟩:=choose_lt (P:=X.P) w (n:=1) (by omega);have hj0:j=0:=by omega
    subst hj0;have hst:=h7.aAg seen.isEmpty;refine⟨_,_,.tuple #[.bool ι],w',hk,?_,by rw[hs0];exact h.grow hb,by simp [aq,aR]⟩
    simp only[Si,u9,jL,ir,vM,hst,hl];simp [-Go.run_choose,-aCM,hch]
  ·rename_i cur x left hs;obtain⟨hg,hit⟩:=h.heap.blk id p _ e1 hs;rcases hit with⟨_,hn,_⟩|⟨m,seen,bJ,aJ,h3,h4,h5,h6,h7,h8,h9⟩
   ·cases hn
   ·have jL:(getObj p.b).run X.P w=.ok (.mapIter (δ m) aJ seen aJ) w:=by simp [getObj,Sp,show w.heap[p.b]? =_ from h3]
    have vM:(getObj m).run X.P w=.ok (.map bJ aJ) w:=by simp [getObj,Sp,show w.heap[m]? =_ from h6]
    obtain⟨L,hL⟩:∃L,L=bJ.filter (λe=>!seen.contains e.born):=⟨_,rfl⟩
    have C3:L.toList=bJ.toList.filter (λe=>!seen.contains e.born):=by rw[hL,aBK]
    rw[<-C3]at h8;obtain⟨l,h8,za⟩:=h8;have hlen:=h8.length;rw[za.length_eq]at hlen;simp only[YO]at hlen;have hlt':∀e∈L.toList,e.born<aJ:=λe he=>h7.1 e (by rw[C3]at he;exact(TR.1 he).1)
    obtain⟨f1,f2⟩:=filter_all hlt'
    have hne:L.isEmpty=ι:=by rw[Array.isEmpty_eq_false_iff];intro k;rw[k]at hlen;simp at hlen
    obtain⟨j,w',hj,hch,hb,hw⟩:=choose_lt (P:=X.P) w (n:=L.size) (by rw[<-hlen];simp);have hst:=h7.aAg seen.isEmpty;obtain⟨e,MN⟩:∃e,L[j]? =δ e:=⟨_,uD hj⟩
    have n1:L.toList[j]? =δ e:=by rw[Ta];exact MN
    obtain⟨i,hil,hie⟩:=X4.1 (za.mem_iff.2 (cE n1));have aAh:i<(x::left).length:=by rw[h8.length];exact hil
    have hk2:=all_some hk aAh;rw[bU aAh]at hk2;simp only at hk2;obtain⟨e',RN,n2,n3⟩:=dD.nth h8 (bU aAh);have hee:e=e':=by rw[bU hil]at RN;injection RN with RN;rw[<-RN,hie]
    subst hee
    have Zj:(l.eraseIdx i).Perm (L.toList.eraseIdx j):=by
     have p1:(e::l.eraseIdx i).Perm l:=by have:=aft hil;rwa[hie]at this
     obtain⟨hjj,hje⟩:=bD.1 n1;have p2:(e::L.toList.eraseIdx j).Perm L.toList:=by have:=aft hjj;rwa[hje]at this
     exact List.Perm.cons_inv ((p1.trans za).trans p2.symm)
    have hg2:=h.grow hb;have hmp:p.b≠m:=λk=>h5 (.inr (.inl ⟨p,cE e1,k⟩))
    have h3':w'.heap[p.b]? =δ (.mapIter (δ m) aJ seen aJ):=by rw[hw];exact h3
    have sx:(setObj p.b (.mapIter (δ m) aJ (seen.push e.born) aJ)).run X.P w'=.ok () (w'.eW p.b (.mapIter (δ m) aJ (seen.push e.born) aJ)):=by simp [setObj,Sp,h3',World.eW]
    refine⟨_,_,.tuple #[.bool η,e.key,e.val],w'.eW p.b (.mapIter (δ m) aJ (seen.push e.born) aJ),hk2,?_,hg2.A6 e1 _ _ λhx=>⟨hg,.inr ⟨m,seen.push e.born,bJ,aJ,?_,?_,?_,?_,h7,?_,?_⟩⟩,?_⟩
    ·simp only[Si,u9,jL,ir,vM,hst,<-hL,f1,f2,hne];simp [-Go.run_choose,-aCM,hch,MN,sx]
    ·exact vw _ (by rw[hw];exact hlt)
    ·show m<(w'.eW p.b _).heap.size;rw[yj,hw];exact h4
    ·exact h5
    ·show(w'.eW p.b _).heap[m]? =_;rw[wI _ hmp,hw];exact h6
    ·have hx2:Ext (ctx z w E pb) (ctx z (w'.eW p.b (.mapIter (δ m) aJ (seen.push e.born) aJ)) E pb):=(yl hb).trans hx
     have hfe:(bJ.toList.filter λe'=>!(seen.push e.born).contains e'.born)=L.toList.eraseIdx j:=by rw[C3];have hnd:((bJ.toList.filter λe=>!seen.contains e.born).map (·.born)).Nodup:=h7.2.sublist ((List.filter_sublist).map _);rw[<-abg (f:=(·.born)) (e:=e) hnd (by rw[<-C3];exact n1),List.filter_filter];congr 1;funext y;simp only[Array.contains_push,Bool.not_or];rw[Bool.and_comm]
     rw[hfe];exact⟨_,(dD.erase i h8).mono hx2,Zj⟩
    ·refine .inr ⟨_,_,e,rfl,by simp,?_,?_,?_⟩
     ·have:=cE n1;rw[C3]at this;exact(TR.1 this).1
     ·exact Tu ((yl hb).trans hx) _ _ n2
     ·exact Tu ((yl hb).trans hx) _ _ n3
    ·have hx:Ext (ctx z w' E pb) (ctx z (w'.eW p.b (.mapIter (δ m) aJ (seen.push e.born) aJ)) E pb):=Vx (.inr (.inl ⟨p,cE e1,rfl⟩));have hx2:=(yl hb).trans hx;simp only[aq];exact⟨_,rfl,by simp only[aR];exact⟨_,_,rfl,rfl,_,_,rfl,Tu hx2 _ _ n2,_,_,rfl,Tu hx2 _ _ n3,rfl⟩⟩
  ·cases hk
 ·cases hk
theorem aqG(h:St X z s a w E pb){t kt et:TypeId}{x:AV}{v:Value}{es:List (AV×AV)}(ht:X.P.underlying t=δ (.map kt et))(hr:A.yx x=δ es)(rx:aq (ctx z w E pb) x v):
  ∃o,(aCo t v).run X.P w=.ok (.pointer (δ ⟨w.heap.size,0,ξ⟩)) (w.alloc o)/\St X z (s.heap (s.σ++[.it [] es])) a (w.alloc o) (E++[⟨w.heap.size,0,0,0,0⟩]) pb:=by
 unfold A.yx at hr;split at hr
 ·injection hr with hr
  subst hr;simp only[aq]at rx;subst rx;refine⟨.mapIter ξ 0 #[] 0,by simp [aCo,run_underlying ht,newObj,Sp],h.B5 _ _ ⟨w.heap.size,0,0,0,0⟩ rfl λhx=>⟨rfl,.inl ⟨rfl,rfl,_,_,_,(Wu w _).1⟩⟩⟩
 ·injection hr with hr
  subst hr;simp only[aq]at rx;obtain⟨b,rfl,hb,hX,bJ,aJ,k1,kw,l,k2,k3⟩:=rx;have vM:(getObj b).run X.P w=.ok (.map bJ aJ) w:=by simp [getObj,Sp,show w.heap[b]? =_ from k1]
  refine⟨.mapIter (δ b) aJ #[] aJ,by simp [aCo,run_underlying ht,vM,newObj,Sp],h.B5 _ _ ⟨w.heap.size,0,0,0,0⟩ rfl λhx=>⟨rfl,.inr ⟨b,#[],bJ,aJ,(Wu w _).1,?_,(hx.stay b hb hX).2,?_,kw,?_,.inl rfl⟩⟩⟩
  ·exact vP hb hx.size
  ·exact(hx.stay b hb hX).1.trans k1
  ·have:(bJ.toList.filter λe=>!(#[]:Array Nat).contains e.born)=bJ.toList:=by rw[List.filter_eq_self];intro e _;simp
   rw[this];exact⟨l,k2.mono hx,by rcases k3 with rfl|⟨k3,_⟩<;>first|exact List.Perm.refl _|exact k3⟩
 ·cases hr
end
end
end
end Go.Proofs.YtmjgmpmhipenjaaGreat
