/- Parts of the proof of StampEventTextsComeBack, in order. -/
import Derived.Orders
import Derived.Below
import Derived.WalkKit
import Derived.Test.YtpcafbmnjchmcaaGreatDoorRows
import Derived.Lib.LaidTab
import Derived.Lib.ItoaNum
import Derived.KernelRfl
import Derived.Laws.StructEq
import Derived.Laws.Append
import Derived.Laws.AppendOwn
namespace Go.Proofs.YtpcafbmnjchmcaaGreatDoor
set_option linter.unusedVariables false
set_option linter.unusedSimpArgs false
set_option linter.unusedSectionVars false
set_option maxRecDepth 1000000
noncomputable section
open Go.Builtin renaming zeroCells->Λ,append_->XM,cap_->akR,firstCells->u9,clear_->XZ,delete_->akU,copy_->XF,len_->XU,lenOf->Yq
open Go.Act renaming put->ak2
open List renaming mem_map_of_mem->ak3,mem_flatten->akM,headD_cons->alG,getElem?_drop->W5,flatten_cons->WM,getElem?_concat_length->alO,getElem?_eq_getElem->ama,eq_nil_of_length_eq_zero->aly,size_toArray->Xt,getElem?_take->alg,flatten_append->ak7,filter_cons->aml,getD->ZC,length_cons->l8,Perm->amh,find?_cons->al7,map_nil->ali,drop_eq_nil_of_le->akQ,length_append->W0,extract_eq_take_drop->al6,mem_filter->Yk,getElem?_append_left->al3,mem_singleton->alT,mem_replicate->ZS,filter_eq_self->alJ,mem_of_find?_eq_some->al5,mem_iff_getElem->Y0,all_cons->Z4,getElem?_take_of_lt->ZU,append_nil->WQ,getElem?_append_right->alQ,toList_toArray->ak6,replicate->w4,length_replicate->Z5,getElem?_eq_some_iff->al2,mem_cons_self->Xl,nodup_cons->alo
open _root_.Array renaming eraseIdxIfInBounds->ZW,toList_append->alH,size_append->X9,getElem?_toList->Zq,toList_filter->YQ,getElem?_setIfInBounds_ne->Zn,getD_eq_getD_getElem?->alN,getElem?_eq_getElem->al4,getElem?_setIfInBounds->Zo,getD->alh,length_toList->Xu,getElem?_eq_some_iff->alR,range->alC
open Go.Question renaming forced->ZZ
open Go.Instr renaming checkKey->Zp,sameNow->XT,sureAddr->Xv,slice->XG,sliceBound->ZF,findNow->Z1,sameBits->Xn,mapUpdate->alI,sliceBounds->Zu,buildSlice->akN,sliceAt->amc,findKey->ale,next->alU,indexAt->alf,findAsking->akL
open Go.Sem renaming run_pure->Xe,run->Zb,run_bind->l5
open Go.Op renaming intArith->alz,stringOp->alA,equalIn->X0,bytesLess->Y5,intCmp->amg
open Option renaming some->δ,bind_eq_some_iff->amf,isSome_iff_exists->amb,none->μ
open Int renaming toNat_natCast->Xk
open Bool renaming not_true->n8,not_eq_true'->p9,false_eq_true->Φ,not_false->ZQ,false->ξ,true->θ,true_and->Zr,not_eq_false'->Xq
open Go.Oper renaming upon_value->al8
open Go.MapKept renaming heap_alloc->ZJ
open Nat renaming zero_add->Zm,le_of_mul_le_mul_right->XY,le_mul_of_pos_right->ami,blt->akK,le_trans->XA,div_mul_le_self->ak9
open Go.IntKind renaming i64->ε
open Option.some renaming injEq->χ
open Go.Result renaming andThen_ok->Ω
open IntKind renaming i64->ε
open Go.Program renaming cellsOf->alF
open Classical renaming byContradiction->al9,choose_spec->Zt,choose->ak5
open Prod.mk renaming injEq->Θ
open Go.World renaming cell?->ZV
open Go.Region renaming binds->Zl
theorem aA{α:Type _}{β:Type _}(a:α)(f:α->Option β):(δ a).bind f=f a:=rfl
theorem fB{α:Type _}{β:Type _}(a:α)(f:α->β):(δ a).map f=δ (f a):=rfl
theorem aZ{α:Sort _}(a b:α):cond ξ a b=b:=rfl
theorem bG{α:Sort _}(a b:α):cond θ a b=a:=rfl
theorem fH{α:Type _}{β:Type _}{f:α->β}{a:α}{l:List α}:(a::l).map f=f a::l.map f:=rfl
theorem cL:type_of% @al2:=@al2
theorem bg:type_of% @amf:=@amf
theorem bT:type_of% @ama:=@ama
theorem cZ:type_of% @List.mem_of_getElem?:=@List.mem_of_getElem?
theorem cO:type_of% @Option.map_eq_some_iff:=@Option.map_eq_some_iff
theorem jL:type_of% @alQ:=@alQ
theorem iV:type_of% @al3:=@al3
theorem bL:type_of% @Nat.le_refl:=@Nat.le_refl
theorem uq:type_of% @alR:=@alR
theorem dr:type_of% @Bool.and_eq_true:=@Bool.and_eq_true
theorem kY:type_of% @alN:=@alN
theorem gG:type_of% @List.getElem?_set:=@List.getElem?_set
theorem nJ:type_of% @Nat.lt_of_lt_of_le:=@Nat.lt_of_lt_of_le
theorem sH:type_of% @List.append_assoc:=@List.append_assoc
theorem vM:type_of% @List.getElem?_set_self:=@List.getElem?_set_self
theorem iW:type_of% @Bool.or_eq_false_iff:=@Bool.or_eq_false_iff
theorem gy:type_of% @List.drop_drop:=@List.drop_drop
theorem fG:type_of% @Nat.add_assoc:=@Nat.add_assoc
theorem fU:type_of% @Nat.add_mul:=@Nat.add_mul
theorem gP:type_of% @Nat.add_le_add:=@Nat.add_le_add
theorem lP:type_of% @List.getElem?_eq_none:=@List.getElem?_eq_none
theorem eG:type_of% @List.mem_cons:=@List.mem_cons
theorem BD:type_of% @List.set_append_right:=@List.set_append_right
theorem oN:type_of% @List.length_eq_one_iff:=@List.length_eq_one_iff
theorem jv:type_of% @Array.toList_inj:=@Array.toList_inj
theorem Dv:type_of% @List.mem_iff_getElem?:=@List.mem_iff_getElem?
theorem nK:type_of% @Nat.mul_le_mul_right:=@Nat.mul_le_mul_right
theorem ze:type_of% @aly:=@aly
theorem kZ:type_of% @List.mem_map:=@List.mem_map
theorem gV:type_of% @List.mem_append:=@List.mem_append
theorem sI:type_of% @al4:=@al4
theorem iX:type_of% @Bool.eq_iff_iff:=@Bool.eq_iff_iff
theorem nL:type_of% @List.mem_cons_of_mem:=@List.mem_cons_of_mem
theorem mL:type_of% @List.length_take:=@List.length_take
theorem xF:type_of% @List.take_of_length_le:=@List.take_of_length_le
theorem aE:type_of% @if_pos:=@if_pos
theorem aD:type_of% @if_neg:=@if_neg
theorem qo:type_of% @decide_eq_true:=@decide_eq_true
theorem gZ:type_of% @decide_eq_false:=@decide_eq_false
theorem BE:type_of% @al5:=@al5
theorem xG:type_of% @List.mem_of_mem_take:=@List.mem_of_mem_take
theorem nM:type_of% @List.all_eq_true:=@List.all_eq_true
theorem ur:type_of% @Nat.zero_le:=@Nat.zero_le
theorem kN:type_of% @List.cons_append:=@List.cons_append
theorem xH:type_of% @alO:=@alO
inductive U where
 |undef
 |int(k:IntKind)(n:Int)
 |bool(b:Bool)
 |str(s:ByteArray)
 |agg(cs:List U)
 |az(vs:List U)
 |sl(sz:Nat)(es:List (List U))
 |bA
 |ez
 |rp(cs:List U)
 |np
 |op(id off:Nat)
 |oe(id g i off:Nat)
 |os(id g sz off len:Nat)
 |om(id:Nat)
 |fm(es:List (U×U))
 |nm
 |fn(f:Nat)(caps:List U)
 |uI
 |lbx(cs:List U)
 deriving Inhabited
open U renaming str->Γ,int->Zx,az->p7,bool->ψ,agg->n9
inductive bH where
 |box(cs:List U)
 |arr(g sz:Nat)(es:List (List U))
 |pJ(g sz:Nat)(es:List (List U))
 |map(es:List (U×U))
 |it(cur left:List (U×U))
 deriving Inhabited
def Di(es:List (U×U)):Prop:=(∀p∈es,∃n s,p.1=.agg [.int ε n,.str s])/\(es.map (·.1)).Nodup
abbrev Heap:=List bH
inductive AX where
 |normal
 |exit(id:Nat)
 |ret
 deriving DecidableEq,Inhabited
namespace A
def cond{α:Type}(c:U)(t e:Option α):Option α:=match c with|.bool b=>bif b then t else e|_=>μ
def guard{α:Type}(c:U)(want:Bool)(t e:Option α):Option α:=match c with|.bool b=>bif b==want then t else e|.az []=>e|_=>μ
def pick(c a b:U):Option U:=match c with|.bool c=>δ (bif c then a else b)|_=>μ
def cell(v:U):Option U:=match v with|.undef=>μ|.agg _=>μ|.az _=>μ|.lbx _=>μ|v=>δ v
def cells(n:Nat)(v:U):Option (List U):=match v with|.agg cs=>if cs.length=n then δ cs else μ|_=>μ
def lb(v:U):Option (List U):=match v with|.lbx cs=>δ cs|_=>μ
def ay(off:Nat)(cs:List U):Option U:=(cs[off]?).bind cell
def aU(off n:Nat)(cs:List U):Option U:=if off+n<=cs.length then δ (.agg ((cs.drop off).take n))else μ
def aM(off:Nat)(new cs:List U):Option (List U):=if off+new.length<=cs.length then δ (cs.take off++new++cs.drop (off+new.length))else μ
def deref(v:U)(σ:Heap):Option (List U):=match v with
 |.rp cs=>δ cs
 |.op id off=>match σ[id]? with|some (.box cs)=>δ (cs.drop off)|_=>μ
 |.oe id g i off=>match σ[id]? with|some (.arr g' _ es)=>if g=g' then(es[i]?).map (·.drop off)else μ|_=>μ
 |_=>μ
def storeAt(v:U)(new:List U)(σ:Heap):Option Heap:=match v with
 |.op id off=>match σ[id]? with|some (.box cs)=>(aM off new cs).map λcs=>σ.set id (.box cs)|_=>μ
 |.oe id g i off=>match σ[id]? with
  |some (.arr g' sz es)=>if g=g' then(es[i]?).bind λe=>(aM off new e).map λe=>σ.set id (.arr g sz (es.set i e))else μ
  |_=>μ
 |_=>μ
def gY(off:Nat)(v:U):Option U:=match v with
 |.rp cs=>δ (.rp (cs.drop off))
 |.op id o=>δ (.op id (o+off))
 |.oe id g i o=>δ (.oe id g i (o+off))
 |_=>μ
def idx(len:Nat)(i:U):Option Nat:=match i with|.int _ n=>if 0<=n/\n<len then δ n.toNat else μ|_=>μ
def bX(sz:Nat)(x i:U):Option U:=match x with
 |.sl sz' es=>(idx es.length i).bind λj=>if sz=sz' then(es[j]?).map .rp else μ
 |.os id g sz' off len=>(idx len i).bind λj=>if sz=sz' then δ (.oe id g (off+j) 0)else μ
 |_=>μ
def uj(len sz:Nat)(x i:U):Option U:=(idx len i).bind λj=>match x with
 |.rp cs=>δ (.rp (cs.drop (j*sz)))
 |.op id o=>δ (.op id (o+j*sz))
 |.oe id g k o=>δ (.oe id g k (o+j*sz))
 |_=>μ
def um(x:U):Option U:=match x with|.rp cs=>δ (.rp cs)|.op id o=>δ (.op id o)|.oe id g i o=>δ (.oe id g i o)|.fn f c=>δ (.fn f c)|_=>μ
def ext(i:Nat)(x:U):Option U:=match x with|.az vs=>vs[i]? |_=>μ
def add(x y:U):Option U:=match x,y with
 |.int k a,.int k' b=>if k=k' then δ (.int k (k.wrap (a+b)))else μ
 |.str a,.str b=>if a.size+b.size<=9223372036854775807 then δ (.str (a++b))else μ
 |_,_=>μ
def sub(x y:U):Option U:=match x,y with|.int k a,.int k' b=>if k=k' then δ (.int k (k.wrap (a-b)))else μ|_,_=>μ
def mul(x y:U):Option U:=match x,y with|.int k a,.int k' b=>if k=k' then δ (.int k (k.wrap (a*b)))else μ|_,_=>μ
def quo(x y:U):Option U:=match x,y with|.int k a,.int k' b=>if k=k'/\b≠0 then δ (.int k (k.wrap (a.tdiv b)))else μ|_,_=>μ
def rem(x y:U):Option U:=match x,y with|.int k a,.int k' b=>if k=k'/\b≠0 then δ (.int k (a.tmod b))else μ|_,_=>μ
def shl(x y:U):Option U:=match x,y with|.int k a,.int _ b=>if b<0 then μ else δ (.int k (k.wrap (a*2 ^ min b.toNat k.bits)))|_,_=>μ
def shr(x y:U):Option U:=match x,y with|.int k a,.int _ b=>if b<0 then μ else δ (.int k (a.fdiv (2 ^ min b.toNat k.bits)))|_,_=>μ
def lss(x y:U):Option U:=match x,y with|.int k a,.int k' b=>if k=k' then δ (.bool (decide (a<b)))else μ|.str a,.str b=>δ (.bool (Y5 a.toList b.toList))|_,_=>μ
def leq(x y:U):Option U:=match x,y with|.int k a,.int k' b=>if k=k' then δ (.bool (decide (a<=b)))else μ|_,_=>μ
def gtr(x y:U):Option U:=match x,y with|.int k a,.int k' b=>if k=k' then δ (.bool (decide (a>b)))else μ|_,_=>μ
def geq(x y:U):Option U:=match x,y with|.int k a,.int k' b=>if k=k' then δ (.bool (decide (a>=b)))else μ|_,_=>μ
def jR(x y:U):Option Bool:=match x,y with|.int k a,.int k' b=>if k=k' then δ (a==b)else μ|_,_=>μ
def rB(x y:U):Option Bool:=match x,y with|.bool a,.bool b=>δ (a==b)|_,_=>μ
def mR(x y:U):Option Bool:=match x,y with|.str a,.str b=>δ (a==b)|_,_=>μ
def Og(x y:U):Option Bool:=match x,y with
 |.np,.np=>δ θ
 |.np,.rp _=>δ ξ
 |.np,.op _ _=>δ ξ
 |.rp _,.np=>δ ξ
 |.op _ _,.np=>δ ξ
 |_,_=>μ
def jQ(k:Nat)(x y:U):Option Bool:=match k with|0=>jR x y|1=>rB x y|2=>mR x y|_=>μ
def eD:List Nat->List U->List U->Option Bool
 |[],[],[]=>δ θ
 |k::ks,x::xs,y::ys=>(jQ k x y).bind λb=>(eD ks xs ys).map λc=>b&&c
 |_,_,_=>μ
inductive EK where
 |i|b|z|p
 |s(ks:List Nat)
def dO(k:EK)(x y:U):Option Bool:=match k with
 |.i=>jR x y
 |.b=>rB x y
 |.z=>mR x y
 |.p=>Og x y
 |.s ks=>match x,y with|.agg xs,.agg ys=>eD ks xs ys|_,_=>μ
def eql(k:EK)(x y:U):Option U:=(dO k x y).map .bool
def neq(k:EK)(x y:U):Option U:=(dO k x y).map λb=>.bool (!b)
def Is(x y:U):Option Bool:=match y with
 |.bA=>(match x with|.bA=>δ θ|.sl _ (_::_)=>δ ξ|.os _ _ _ _ _=>δ ξ|_=>μ)
 |_=>μ
def eqN(x y:U):Option U:=(Is x y).map .bool
def neN(x y:U):Option U:=(Is x y).map λb=>.bool (!b)
def UX(x:U):Option U:=match x with|.bA=>δ (.int ε 0)|.ez=>δ (.int ε 0)|_=>μ
def not(x:U):Option U:=match x with|.bool b=>δ (.bool (!b))|_=>μ
def neg(x:U):Option U:=match x with|.int k n=>δ (.int k (k.wrap (0-n)))|_=>μ
def conv(k:IntKind)(x:U):Option U:=match x with|.int _ n=>δ (.int k (k.wrap n))|_=>μ
def Uk(x:U):Option U:=match x with|.str s=>δ (.str s)|_=>μ
def max(x y:U):Option U:=match x,y with|.int k a,.int _ b=>δ (.int k (if b>a then b else a))|_,_=>μ
def min(x y:U):Option U:=match x,y with|.int k a,.int _ b=>δ (.int k (if b<a then b else a))|_,_=>μ
def hU(x:U):Option U:=match x with|.str s=>δ (.int ε s.size)|_=>μ
def cu(x:U):Option U:=match x with
 |.sl _ es=>δ (.int ε es.length)
 |.bA=>δ (.int ε 0)
 |.ez=>δ (.int ε 0)
 |.os _ _ _ _ n=>δ (.int ε n)
 |_=>μ
def Vv(x:U)(σ:Heap):Option U:=match x with
 |.nm=>δ (.int ε 0)
 |.fm es=>δ (.int ε es.length)
 |.om id=>match σ[id]? with|some (.map es)=>δ (.int ε es.length)|_=>μ
 |_=>μ
def jk(x i:U):Option U:=match x with|.str s=>(idx s.size i).bind λj=>(s[j]?).map λb=>.int .u8 b.toNat|_=>μ
def bound(y:Nat)(dflt:Nat)(x:Option U):Option Nat:=match x with
 |none=>δ dflt
 |some (.int _ i)=>if 0<=i/\i<=y then δ i.toNat else μ
 |_=>μ
def mE(x:U)(lo hi:Option U):Option U:=match x with
 |.str s=>(bound s.size s.size hi).bind λh=>(bound h 0 lo).map λl=>.str (s.extract l h)
 |_=>μ
def room(σ:Heap)(id g sz off len:Nat):Nat:=match σ[id]? with
 |some (.arr g' sz' es)=>if g=g'/\sz=sz'/\off+len<=es.length then es.length-off else len
 |_=>len
def yX(sz:Nat)(x:U)(lo hi:Option U)(σ:Heap):Option U:=match x with
 |.sl sz' es=>if sz=sz' then(bound es.length es.length hi).bind λh=>(bound h 0 lo).map λl=>.sl sz ((es.take h).drop l)else μ
 |.bA=>(bound 0 0 hi).bind λh=>(bound h 0 lo).map λ_=>.bA
 |.ez=>(bound 0 0 hi).bind λh=>(bound h 0 lo).map λ_=>.ez
 |.os id g sz' off len=>if sz=sz' then(bound (room σ id g sz off len) len hi).bind λh=>(bound h 0 lo).map λl=>.os id g sz (off+l) (h-l)else μ
 |_=>μ
def slice3(x:U)(lo:Option U)(hi mx:U):Option U:=(cu x).bind λn=>match n with
 |.int _ n=>(bound n.toNat 0 (δ mx)).bind λm=>(bound m 0 (δ hi)).bind λh=>(bound h 0 lo).map λ_=>if m=0 then .ez else .undef
 |_=>μ
def elems(sz:Nat)(x:U)(σ:Heap):Option (List (List U)):=match x with
 |.bA=>δ []
 |.ez=>δ []
 |.sl sz' es=>if sz=sz' then δ es else μ
 |.os id g oq off len=>match σ[id]? with
  |some (.arr g' sz' es)=>if g=g'/\sz=sz'/\oq=sz/\off+len<=es.length then δ ((es.drop off).take len)else μ
  |some (.pJ g' sz' es)=>if g=g'/\sz=sz'/\oq=sz/\off+len<=es.length then δ ((es.drop off).take len)else μ
  |_=>μ
 |_=>μ
def qT(sz most:Nat)(x:U)(ys:List (List U))(σ:Heap):Option (U×Heap):=match x with
 |.bA=>if ys=[]then δ (.bA,σ)else if ys.length<=most then δ (.os σ.length ys.length sz 0 ys.length,σ++[.arr ys.length sz ys])else μ
 |.ez=>if ys=[]then δ (.ez,σ)else if ys.length<=most then δ (.os σ.length ys.length sz 0 ys.length,σ++[.arr ys.length sz ys])else μ
 |.os id g oq off len=>match σ[id]? with
  | some (.arr g' sz' es) => if g = g' /\ sz = sz' /\ oq = sz /\ off + len <= es.length /\ len + ys.length <= most then
    (if ys=[]then δ (.os id g sz off len,σ)else if off+len+ys.length<=es.length then δ (.os id g sz off (len+ys.length),σ.set id (.arr g sz (es.take (off+len)++ys++es.drop (off+len+ys.length))))
    else δ (.os id (g+ys.length) sz 0 (len+ys.length),σ.set id (.arr (g+ys.length) sz ((es.drop off).take len++ys))))else μ
  | some (.pJ g' sz' es) => if g = g' /\ sz = sz' /\ oq = sz /\ off + len <= es.length /\ len + ys.length <= most /\ es.length < off + len + ys.length then
    δ (.os σ.length (len+ys.length) sz 0 (len+ys.length),σ++[.arr (len+ys.length) sz ((es.drop off).take len++ys)])else μ
  |_=>μ
 |_=>μ
def append(sz most:Nat)(x y:U)(σ:Heap):Option (U×Heap):=(elems sz y σ).bind λys=>qT sz most x ys σ
def CZ(sz most:Nat)(zs:List U)(x n:U)(σ:Heap):Option (U×Heap):=match n with
 |.int _ k=>if 0<=k/\k<=most then qT sz most x (w4 k.toNat zs) σ else μ
 |_=>μ
def MN(sz:Nat)(x y:U)(σ:Heap):Option (U×Heap):=(elems sz y σ).bind λys=>match x with
 |.bA=>δ (.int ε 0,σ)
 |.ez=>δ (.int ε 0,σ)
 |.os id g oq off len=>match σ[id]? with
  | some (.arr g' sz' es) => if g = g' /\ sz = sz' /\ oq = sz /\ off + len <= es.length then (if ys.length = 0 \/ len = 0 then δ (.int ε 0, σ) else
    δ (.int ε (ys.take len).length,σ.set id (.arr g sz (es.take off++ys.take len++es.drop (off+(ys.take len).length)))))else μ
  |_=>μ
 |_=>μ
def all {R:Type} (p:Nat->Prop) (k:Nat->Option R):Option R:=open Classical in if h:∃r,∀n,p n->k n=δ r then δ (ak5 h)else μ
def DB {R:Type} (x:U) (σ:Heap) (k:Nat->Heap->Option R):Option R:=match x with
 |.os id g sz off len=>match σ[id]? with
  |some (.arr g' sz' es)=>if g=g'/\sz=sz'/\off+len<=es.length then all (λc=>len<=c/\es.length<=off+c) (λc=>k c (if c=len then σ.set id (.pJ g sz es)else σ.set id (.arr g sz (es++w4 (off+c-es.length) (w4 sz .undef)))))else μ
  |_=>μ
 |_=>μ
def BL{R:Type}(v:U)(k:Nat->List (List U)->Option R):Option R:=match v with|.sl sz es=>bif es.length==0 then μ else k sz es|_=>μ
def DA{R:Type}(v:Option U)(k:U->Option R)(u:Option R):Option R:=match v with|some v=>k v|none=>u
def MG(m:U):Option (List (U×U)):=match m with
 |.nm=>δ []
 |.fm es=>δ es
 |_=>μ
def xB {R:Type} (i:U) (σ:Heap) (k:U->Heap->Option R):Option R:=match i with
 |.op id 0=>match σ[id]? with
  |some (.it _ [])=>k (.az [.bool ξ]) σ
  |some (.it _ (e::left))=>all (λj=>j<(e::left).length) (λj=>match(e::left)[j]? with
   |some p=>k (.az [.bool θ,p.1,p.2]) (σ.set id (.it [p] ((e::left).eraseIdx j)))
   |none=>μ)
  |_=>μ
 |_=>μ
def Ms(i:U)(σ:Heap):Option U:=match i with
 |.op id 0=>match σ[id]? with
  |some (.it [p] _)=>δ (.az [p.1,p.2])
  |_=>μ
 |_=>μ
def Mp(sz:Nat)(zs:List U)(x:U)(σ:Heap):Option Heap:=match x with
 |.bA=>δ σ
 |.ez=>δ σ
 |.sl _ []=>δ σ
 |.os id g oq off len=>match σ[id]? with
  |some (.arr g' sz' es)=>if g=g'/\sz=sz'/\oq=sz/\off+len<=es.length then(if len=0 then δ σ else δ (σ.set id (.arr g sz (es.take off++w4 len zs++es.drop (off+len)))))else μ
  |_=>μ
 |_=>μ
def find(e:EK)(k:U):List (U×U)->Option (Option U)
 |[]=>δ μ
 |(k',v)::r=>(dO e k k').bind λb=>bif b then δ (δ v)else find e k r
def pG(e:EK)(k:U):List (U×U)->Nat->Option (Option Nat)
 |[],_=>δ μ
 |(k',_)::r,i=>(dO e k k').bind λb=>bif b then δ (δ i)else pG e k r (i+1)
def upd(e:EK)(k v:U):List (U×U)->Option (List (U×U))
 |[]=>δ [(k,v)]
 |(k',v')::r=>(dO e k k').bind λb=>bif b then δ ((k,v)::r)else(upd e k v r).map ((k',v')::·)
def del(e:EK)(k:U):List (U×U)->Option (List (U×U))
 |[]=>δ []
 |(k',v')::r=>(dO e k k').bind λb=>bif b then δ r else(del e k r).map ((k',v')::·)
def entries(m:U)(σ:Heap):Option (List (U×U)):=match m with
 |.nm=>δ []
 |.fm es=>δ es
 |.om id=>match σ[id]? with|some (.map es)=>δ es|_=>μ
 |_=>μ
def ju(e:EK)(k:U):Bool:=match e,k with
 |.i,.int _ _=>θ
 |.b,.bool _=>θ
 |.z,.str _=>θ
 |.s ks,.agg xs=>xs.length==ks.length
 |_,_=>ξ
def look(e:EK)(m k zero:U)(σ:Heap):Option U:=bif ju e k then(entries m σ).bind λes=>(find e k es).map λr=>r.getD zero else μ
def Mw(e:EK)(m k zero:U)(σ:Heap):Option U:=bif ju e k then(entries m σ).bind λes=>(find e k es).map λr=>.az [r.getD zero,.bool r.isSome]else μ
def jy(e:EK)(m k v:U)(σ:Heap):Option Heap:=bif ju e k then(match m with
 |.om id=>match σ[id]? with|some (.map es)=>(upd e k v es).map λes=>σ.set id (.map es)|_=>μ
 |_=>μ)else μ
def NL(e:EK)(m k:U)(σ:Heap):Option Heap:=bif ju e k then(match m with
 |.nm=>δ σ
 |.om id=>match σ[id]? with|some (.map es)=>(del e k es).map λes=>σ.set id (.map es)|_=>μ
 |_=>μ)else μ
def quiet (r:Option (U×Heap)) (σ:Heap):Option U:=r.bind λp=>open Classical in if p.2=σ then δ p.1 else μ
def pH(dyn:Nat->List U->Heap->Option (U×Heap))(f:U)(args:List U)(σ:Heap):Option (U×Heap):=match f with|.fn n caps=>dyn n (args++caps) σ|_=>μ
def tab{α:Type}(d:α):List (Nat×α)->Nat->α
 |[],_=>d
 |(m,x)::r,n=>bif n==m then x else tab d r n
def iter(f:List U->Heap->Option (AX×List U×Heap)):Nat->List U->Heap->Option (AX×List U×Heap)
 |0,_,_=>μ
 |n+1,v,σ=>(f v σ).bind λr=>match r.1 with|.normal=>iter f n r.2.1 r.2.2|_=>δ r
def loop (f:List U->Heap->Option (AX×List U×Heap)) (v:List U) (σ:Heap):Option (AX×List U×Heap):=
 open Classical in if h:∃n r,iter f n v σ=δ r then δ (ak5 (Zt h))else μ
def Dn{R:Type}(f:List U->Heap->(AX×List U×Heap->Option R)->Option R):Nat->List U->Heap->(AX×List U×Heap->Option R)->Option R
 |0,_,_,_=>μ
 |n+1,v,σ,K=>f v σ λr=>match r.1 with|.normal=>Dn f n r.2.1 r.2.2 K|_=>K r
def MV {R:Type} (f:List U->Heap->(AX×List U×Heap->Option R)->Option R) (v:List U) (σ:Heap) (K:AX×List U×Heap->Option R):Option R:=
 open Classical in if h:∃r,∃n,∀m,n<=m->Dn f m v σ K=δ r then δ (ak5 h)else μ
mutual
def bO(σ:Heap)(n:Nat):Nat->U->Option U
 |_,.int k a=>δ (.int k a)
 |_,.bool b=>δ (.bool b)
 |_,.str s=>δ (.str s)
 |_,.bA=>δ .bA
 |_,.ez=>δ .ez
 |_,.np=>δ .np
 |_,.nm=>δ .nm
 |_,.uI=>δ .uI
 |d,.agg cs=>(dZ σ n d cs).map .agg
 |d,.az cs=>(dZ σ n d cs).map .az
 |d,.sl sz es=>(ko σ n d es).map (.sl sz)
 |d,.rp cs=>(dZ σ n d cs).map .rp
 |d,.fm es=>(pK σ n d es).map .fm
 |d,.fn f cs=>(dZ σ n d cs).map (.fn f)
 |0,_=>μ
 |d+1,.om id=>if id<n then δ (.om id)else match σ[id]? with
  |some (.map es)=>(xy σ n d es).map .fm
  |_=>μ
 |d+1,.op id off=>if id<n then δ (.op id off)else match σ[id]? with
  |some (.box cs)=>(sC σ n d (cs.drop off)).map .rp
  |_=>μ
 |d+1,.oe id g i off=>if id<n then δ (.oe id g i off)else match σ[id]? with
  |some (.arr g' _ es)=>if g=g' then(match es[i]? with|some e=>(sC σ n d (e.drop off)).map .rp|none=>μ)else μ
  |_=>μ
 |d+1,.os id g oq off len=>if id<n then δ (.os id g oq off len)else match σ[id]? with
  |some (.arr g' sz es)=>if g=g'/\oq=sz/\off+len<=es.length then(De σ n d ((es.drop off).take len)).map (.sl sz)else μ
  |_=>μ
 |_,_=>μ
def dZ(σ:Heap)(n:Nat):Nat->List U->Option (List U)
 |_,[]=>δ []
 |d,x::r=>(bO σ n d x).bind λy=>(dZ σ n d r).map (y::·)
def sC(σ:Heap)(n:Nat):Nat->List U->Option (List U)
 |_,[]=>δ []
 |d,x::r=>(bO σ n d x).bind λy=>(sC σ n d r).map (y::·)
def pK(σ:Heap)(n:Nat):Nat->List (U×U)->Option (List (U×U))
 |_,[]=>δ []
 |d,(k,v)::r=>(bO σ n d k).bind λk=>(bO σ n d v).bind λv=>(pK σ n d r).map ((k,v)::·)
def xy(σ:Heap)(n:Nat):Nat->List (U×U)->Option (List (U×U))
 |_,[]=>δ []
 |d,(k,v)::r=>(bO σ n d k).bind λk=>(bO σ n d v).bind λv=>(xy σ n d r).map ((k,v)::·)
def ko(σ:Heap)(n:Nat):Nat->List (List U)->Option (List (List U))
 |_,[]=>δ []
 |d,x::r=>(dZ σ n d x).bind λy=>(ko σ n d r).map (y::·)
def De(σ:Heap)(n:Nat):Nat->List (List U)->Option (List (List U))
 |_,[]=>δ []
 |d,x::r=>(dZ σ n d x).bind λy=>(De σ n d r).map (y::·)
end
end A
open A renaming pick->i6,bX->XI,deref->l6,neq->XQ,add->u0,eql->p5,dZ->Zw,sub->Yj,gtr->XW,look->Yg,upd->alp,aU->ZY,guard->ι,cond->φ,ay->Ψ,bound->Xw,cell->Yh,mul->akW,quiet->p6,cu->Z0,entries->alB,cells->j0,append->Z9,lb->W9,eD->XC,aM->w8,loop->WY,find->YB,storeAt->akO,ext->p4,dO->XL,bO->Xz,elems->ak8,lss->Y3,not->HH
abbrev aq:Option U:=(δ (p7 []))
abbrev bw:U:=(ψ ξ)
abbrev bC:U:=(ψ θ)
abbrev gb:U:=(Γ ⟨#[]⟩)
abbrev ak(l:List U)(n:Nat):U:=l.getD n U.undef
abbrev U.ah(n:Int):U:=Zx ε n
abbrev aC:=Option (U×Heap)
abbrev au:=List U
section
structure qq where
 slot:Nat
 off:Nat
 tag:Option (Nat×Bool)
structure AS where
 sl:List U
 A:Nat->Option qq
 σ:Heap
structure Fx where
 P:Program
 nm:List Nat
 call:FuncId->List U->Heap->Option (U×Heap)
 dyn:Nat->List U->Heap->Option (U×Heap)
 L:List Nat
 O:List Nat
 n:Nat
 W:List Nat
inductive kr where
 |n
 |s(a b:kr)
 |c(live:List Nat)(a b:kr)
 |j(a b:kr)
 |b(a:kr)
 |l(live:List Nat)(xs:List AX)(a:kr)
 |lc(live:List Nat)(xs:List AX)(a:kr)
noncomputable section
def xw:Value->U
 |.int k n=>.int k n
 |.bool b=>.bool b
 |.string s=>.str s
 |.slice μ 0 0=>.bA
 |.pointer μ=>.np
 |.map μ=>.nm
 |.nilFunc=>.uI
 |_=>.undef
def cx:Value->Bool
 |.agg _=>ξ
 |.tuple _=>ξ
 |_=>θ
def qZ:Value->U
 |.agg cs=>bif cs.toList.all cx then .agg (cs.toList.map xw)else .undef
 |v=>xw v
section
variable {R : Type} (X : Fx)
def yV(t:TypeId):Bool:=match X.P.underlying t with|some (.struct _)=>θ|some (.array _ _)=>θ|_=>ξ
def qn(t:TypeId):Option (List U):=match X.P.info? t with|some i=>(match i.zero with|some v=>bif v.cells.toList.all cx then δ (v.cells.toList.map xw)else μ|none=>μ)|none=>μ
def ev(s:AS):Operand->U
 |.tmp t=>bif X.L.contains t then .undef else s.sl.getD t .undef
 |.const v=>qZ v
 |.global _=>.undef
 |.func f=>.fn (X.nm.getD f 0) []
def lE(d:Nat):Option qq->Option qq
 |some p=>(match p.tag with|some (g,_)=>bif g==d then μ else δ p|none=>δ p)
 |none=>μ
def AS.put(X:Fx)(d:Option Nat)(v:U)(s:AS):AS:=
 match d with
 |some d=>⟨s.sl.set d (bif X.L.contains d then .undef else v),λt=>bif t==d then μ else lE d (s.A t),s.σ⟩
 |none=>s
def AS.kC(X:Fx)(d:Option Nat)(b off:Nat)(tag:Option (Nat×Bool))(s:AS):AS:=
 match d with
 |some d=>⟨s.sl.set d .undef,λt=>bif t==d then(bif X.L.contains d||!akK d X.n then μ else match tag with|some (g,w)=>(bif g==d then μ else δ ⟨b,off,δ (g,w)⟩)|none=>δ ⟨b,off,μ⟩)else lE d (s.A t),s.σ⟩
 |none=>s
def AS.lK(d:Nat)(cs:List U)(s:AS):AS:=
 ⟨s.sl.set d (.lbx cs),λt=>bif t==d then μ else match lE d (s.A t)with|some p=>bif p.slot==d then μ else δ p|none=>μ,s.σ⟩
def AS.heap(σ:Heap)(s:AS):AS:=⟨s.sl,s.A,σ⟩
def place(s:AS)(tag:Option (Nat×Bool)):Operand->Option (Nat×Nat)
 |.tmp t=>bif X.L.contains t then δ (t,0)else match s.A t with
  |some p=>bif X.L.contains p.slot then(match p.tag with|none=>δ (p.slot,p.off)|some g=>bif tag==δ g then δ (p.slot,p.off)else μ)else μ
  |none=>μ
 |_=>μ
def vJ(t:TypeId)(off:Nat)(cs:List U):Option U:=match X.P.underlying t with
 |none=>μ
 |some _=>bif yV X t then ZY off (X.P.cellsOf t) cs else Ψ off cs
def uf(t:TypeId)(v:U):Option (List U):=match X.P.underlying t with
 |none=>μ
 |some _=>bif yV X t then j0 (X.P.cellsOf t) v else bif X.P.cellsOf t==1 then(Yh v).bind λv=>δ [v]else μ
def lM(s:AS)(place:Nat->Option (Nat×TypeId)):List (Nat×Operand)->List U->Option (List U)
 |[],cs=>δ cs
 |(i,x)::r,cs=>match place i with
  |none=>μ
  |some (off,t)=>(uf X t (ev X s x)).bind λnew=>(w8 off new cs).bind λcs=>lM s place r cs
def xg(t:TypeId)(f:Nat):Option (Nat×TypeId):=match X.P.underlying t with
 |some (.struct fs)=>(match fs[f]? with|some f=>δ (f.offset,f.type)|none=>μ)
 |_=>μ
def uw(f:TypeId->Bool)(size:TypeId->Nat):List Field->Nat->Option Nat
 |[],off=>δ off
 | x :: r, off => bif x.name != "_" && x.offset == off && f x.type then uw f size r (off + size x.type) else μ
def iP(P:Program):Nat->TypeId->Bool
 |0,_=>ξ
 |d+1,t=>match P.underlying t with
  |some .bool=>P.cellsOf t==1
  |some (.int _)=>P.cellsOf t==1
  |some .string=>P.cellsOf t==1
  |some (.struct fs)=>!P.stoodInHeld t&&uw (iP P d) P.cellsOf fs.toList 0==δ (P.cellsOf t)
  |_=>ξ
def kinds(P:Program):Nat->TypeId->List Nat
 |0,_=>[]
 |d+1,t=>match P.underlying t with
  |some .bool=>[1]
  |some (.int _)=>[0]
  |some .string=>[2]
  |some (.struct fs)=>fs.toList.flatMap λf=>kinds P d f.type
  |_=>[]
def jP(t:TypeId):Option A.EK:=match X.P.underlying t with
 |some .bool=>δ .b
 |some (.int _)=>δ .i
 |some .string=>δ .z
 |some (.pointer e)=>bif X.P.cellsOf e !=0 then δ .p else μ
 |some (.struct _)=>bif iP X.P 9 t&&!X.P.eqGuardType X.P.depth t then δ (.s (kinds X.P 9 t))else μ
 |_=>μ
def Ng(op:BinOp)(t:TypeId)(x y:U):Option U:=match op with
 |.add=>u0 x y|.sub=>Yj x y|.mul=>akW x y|.quo=>A.quo x y|.rem=>A.rem x y
 |.lss=>Y3 x y|.leq=>A.leq x y|.gtr=>XW x y|.geq=>A.geq x y
 |.eql=>(match jP X t with|some e=>p5 e x y|none=>match X.P.underlying t with|some (.slice _)=>A.eqN x y|_=>μ)
 |.neq=>(match jP X t with|some e=>XQ e x y|none=>match X.P.underlying t with|some (.slice _)=>A.neN x y|_=>μ)
 |.shl=>A.shl x y|.shr=>A.shr x y|_=>μ
def lI(sz:Nat):Nat->List U->List (List U)
 |0,_=>[]
 |n+1,l=>l.take sz::lI sz n (l.drop sz)
def eI(o:Oper)(s:AS)(tag:Option (Nat×Bool)):Option U:=
 match o.op with
 |.move x=>δ (ev X s x)
 |.assign x=>δ (ev X s x)
 |.pick c a b=>i6 (ev X s c) (ev X s a) (ev X s b)
 |.alloc t=>(match qn X t with|some cs=>δ (.rp cs)|none=>μ)
 |.box t x=>(uf X t (ev X s x)).bind λcs=>δ (.rp cs)
 |.build t ps=>(match qn X t,X.P.underlying t with
  |some zs,δ (.struct fs)=>bif fs.toList.all (λf=>(X.P.info? f.type).isSome)then(lM X s (xg X t) ps.toList zs).bind λcs=>δ (.agg cs)else μ
  |_,_=>μ)
 |.buildSlice t len ps=>(match X.P.underlying t with
  |some (.slice e)=>(match X.P.info? e,qn X e with
   |some i,δ zs=>bif (i.size==0||zs.length !=i.size)then μ else bif akK 16777216 (len*i.size)then μ
    else(lM X s (λj=>δ (j*i.size,e)) ps.toList ((w4 len zs).flatten)).bind λcs=>δ (bif len==0 then .ez else .sl i.size (lI i.size len cs))
   |_,_=>μ)
  |_=>μ)
 |.load t x=>(match place X s tag x with
  |some (b,off)=>(W9 (s.sl.getD b .undef)).bind λcs=>vJ X t off cs
  |none=>(l6 (ev X s x) s.σ).bind λcs=>vJ X t 0 cs)
 |.nilCheck x=>A.um (ev X s x)
 |.binOp op t x y _=>Ng X op t (ev X s x) (ev X s y)
 |.unOp op _ x=>(match op with
  |.not=>HH (ev X s x)
  |.neg=>A.neg (ev X s x)
  |_=>μ)
 |.convert src dst x=>(match X.P.underlying src,X.P.underlying dst with
  |some (.int _),δ (.int j)=>A.conv j (ev X s x)
  |some .string,δ .string=>A.Uk (ev X s x)
  |_,_=>μ)
 |.makeInterface t _=>(match X.P.underlying t with|some (.interface _)=>μ|some _=>δ .undef|none=>μ)
 |.makeFunc fn first caps=>(match fn with|.func f=>bif first.toList.isEmpty then δ (.fn (X.nm.getD f 0) (caps.toList.map (ev X s)))else μ|_=>μ)
 |.slice t x lo hi mx=>(match mx with
  |none=>(match X.P.underlying t with
   |some .string=>A.mE (ev X s x) (lo.map (ev X s)) (hi.map (ev X s))
   |some (.slice e)=>(match X.P.info? e with|some i=>A.yX i.size (ev X s x) (lo.map (ev X s)) (hi.map (ev X s)) s.σ|none=>μ)
   |_=>μ)
  |some mx=>(match X.P.underlying t,hi with
   |some (.slice e),δ hi=>(match X.P.info? e with|some _=>A.slice3 (ev X s x) (lo.map (ev X s)) (ev X s hi) (ev X s mx)|none=>μ)
   |_,_=>μ))
 |.fieldAddr t x f=>(match xg X t f with
  |some (off,ft)=>(match X.P.info? ft with|some i=>bif i.size==0 then μ else A.gY off (ev X s x)|none=>μ)
  |none=>μ)
 |.field t x f=>(match xg X t f with
  |some (off,ft)=>(j0 (X.P.cellsOf t) (ev X s x)).bind λcs=>vJ X ft off cs
  |none=>μ)
 |.indexAddr t x i=>(match X.P.underlying t with
  |some (.slice e)=>(match X.P.info? e with|some j=>XI j.size (ev X s x) (ev X s i)|none=>μ)
  |some (.array len e)=>(match X.P.info? e with|some j=>A.uj len j.size (ev X s x) (ev X s i)|none=>μ)
  |_=>μ)
 |.index t x i=>(match X.P.underlying t with
  |some .string=>A.jk (ev X s x) (ev X s i)
  |_=>μ)
 |.lookup t m i ok=>(match X.P.underlying t with
  |some (.map kt e)=>(match X.P.info? e,jP X kt with
   |some inf,δ ek=>(match inf.zero with
    |some z=>bif ok then A.Mw ek (ev X s m) (ev X s i) (qZ z) s.σ else Yg ek (ev X s m) (ev X s i) (qZ z) s.σ
    |none=>μ)
   |_,_=>μ)
  |_=>μ)
 |.extract x i=>p4 i (ev X s x)
 |.entry i=>A.Ms (ev X s i) s.σ
 |.call c=>(match c.callee with
  |.builtin b=>(match b,c.argTypes.toList,c.args.toList.map (ev X s)with
   |.len,[t],[x]=>(match X.P.underlying t with
    |some .string=>A.hU x
    |some (.slice _)=>Z0 x
    |some (.map _ _)=>A.Vv x s.σ
    |_=>μ)
   |.cap,[t],[x]=>(match X.P.underlying t with|some (.slice _)=>A.UX x|_=>μ)
   |.max,_,[x,y]=>A.max x y
   |.min,_,[x,y]=>A.min x y
   |_,_,_=>μ)
  |.value (.func f)=>p6 (X.call f (c.args.toList.map (ev X s)) s.σ) s.σ
  |.value x=>p6 (A.pH X.dyn (ev X s x) (c.args.toList.map (ev X s)) s.σ) s.σ
  |_=>μ)
 |_=>μ
def iq(o:Oper)(s:AS)(tag:Option (Nat×Bool)):Option (Nat×Option Nat):=
 match o.op with
 |.nilCheck x=>(match place X s tag x with|some (b,off)=>δ (b,(W9 (s.sl.getD b .undef)).bind λ_=>δ off)|none=>μ)
 |.fieldAddr t x f=>(match place X s tag x with
  |some (b,o')=>δ (b,match xg X t f with
   |some (off,ft)=>(match X.P.info? ft with|some i=>bif i.size==0 then μ else(W9 (s.sl.getD b .undef)).bind λ_=>δ (o'+off)|none=>μ)
   |none=>μ)
  |none=>μ)
 |.indexAddr t x i=>(match place X s tag x with
  |some (b,o')=>δ (b,match X.P.underlying t with
   |some (.array len e)=>(match X.P.info? e with|some ie=>(W9 (s.sl.getD b .undef)).bind λ_=>(A.idx len (ev X s i)).bind λj=>δ (o'+j*ie.size)|none=>μ)
   |_=>μ)
  |none=>μ)
 |_=>μ
def kM(i:TypeInfo):Bool:=i.size==0||i.bytes==0||(match i.zero with|some z=>z.cells.size !=i.size||!z.cells.toList.all cx|none=>θ)
def eU(q:Bool)(o:Oper)(s:AS)(k:AS->Option R):Option R:=
 match iq X o s μ with
 |some (b,r)=>r.bind λoff=>k (s.kC X o.dst b off μ)
 |none=>
 match o.op with
 |.alloc t=>(match o.dst with
  |some d=>bif X.L.contains d then(match qn X t with|some cs=>k (s.lK d cs)|none=>μ)
   else bif X.O.contains d then(match qn X t with|some cs=>k ((s.heap (s.σ++[.box cs])).put X (δ d) (.op s.σ.length 0))|none=>μ)
   else(eI X o s μ).bind λv=>k (s.put X o.dst v)
  |none=>μ)
 |.box t x=>(match o.dst with
  |some d=>bif X.L.contains d then(uf X t (ev X s x)).bind λcs=>k (s.lK d cs)
   else bif X.O.contains d then(uf X t (ev X s x)).bind λcs=>k ((s.heap (s.σ++[.box cs])).put X (δ d) (.op s.σ.length 0))
   else(eI X o s μ).bind λv=>k (s.put X o.dst v)
  |none=>μ)
 |.store t x v=>(match place X s μ x with
  |some (b,off)=>(W9 (s.sl.getD b .undef)).bind λcs=>(uf X t (ev X s v)).bind λnew=>(w8 off new cs).bind λcs=>k ((⟨s.sl.set b (.lbx cs),s.A,s.σ⟩:AS).put X o.dst (.az []))
  |none=>(uf X t (ev X s v)).bind λnew=>(akO (ev X s x) new s.σ).bind λσ=>k ((s.heap σ).put X o.dst (.az [])))
 |.buildSlice t n ps=>(match o.dst with
  |some d=>bif X.O.contains d then(eI X o s μ).bind λv=>A.BL v λsz es=>k ((s.heap (s.σ++[.arr es.length sz es])).put X (δ d) (.os s.σ.length es.length sz 0 es.length))
   else(eI X o s μ).bind λv=>k (s.put X o.dst v)
  |none=>(eI X o s μ).bind λv=>k (s.put X o.dst v))
 |.makeMap t r=>(match r with
  |none=>k ((s.heap (s.σ++[.map []])).put X o.dst (.om s.σ.length))
  |some _=>μ)
 |.mapUpdate t m i v=>(match X.P.underlying t with
  |some (.map kt _)=>(match jP X kt with|some ek=>(A.jy ek (ev X s m) (ev X s i) (ev X s v) s.σ).bind λσ=>k ((s.heap σ).put X o.dst (.az []))|none=>μ)
  |_=>μ)
 |.range t x=>(match X.P.underlying t with
  |some (.map _ _)=>(A.MG (ev X s x)).bind λes=>k ((s.heap (s.σ++[.it [] es])).put X o.dst (.op s.σ.length 0))
  |_=>μ)
 |.next i str=>bif q||str then μ else A.xB (ev X s i) s.σ (λv σ=>k ((s.heap σ).put X o.dst v))
 |.call c=>(match c.callee with
  |.builtin .append=>(match c.argTypes.toList,c.args.toList.map (ev X s)with
   |[t,u],[x,y]=>(match X.P.underlying t,X.P.underlying u with
    |some (.slice e),δ (.slice _)=>(match X.P.info? e with
     |some i=>bif kM i then μ else(Z9 i.size (140737488355328 / i.bytes) x y s.σ).bind λr=>k ((s.heap r.2).put X o.dst r.1)
     |none=>μ)
    |some (.slice e),δ (.int _)=>(match X.P.info? e,qn X e with
     |some i,δ zs=>bif kM i then μ else(A.CZ i.size (140737488355328 / i.bytes) zs x y s.σ).bind λr=>k ((s.heap r.2).put X o.dst r.1)
     |_,_=>μ)
    |_,_=>μ)
   |_,_=>μ)
  |.builtin .copy=>(match c.argTypes.toList,c.args.toList.map (ev X s)with
   |[t,u],[x,y]=>(match X.P.underlying t,X.P.underlying u with
    |some (.slice e),δ (.slice _)=>(match X.P.info? e with
     |some i=>bif kM i then μ else(A.MN i.size x y s.σ).bind λr=>k ((s.heap r.2).put X o.dst r.1)
     |none=>μ)
    |_,_=>μ)
   |_,_=>μ)
  | .builtin .cap => A.DA (eI X o s μ) (λv => k (s.put X o.dst v)) (bif q then μ else (match c.argTypes.toList, c.args.toList.map (ev X s) with
    |[t],[x]=>(match X.P.underlying t with|some (.slice _)=>A.DB x s.σ (λc σ=>k ((s.heap σ).put X o.dst (.int ε c)))|_=>μ)
    |_,_=>μ))
  |.builtin .clear=>(match c.argTypes.toList,c.args.toList.map (ev X s)with
   |[t],[x]=>(match X.P.underlying t with
    |some (.slice e)=>(match X.P.info? e,qn X e with
     |some i,δ zs=>bif kM i then μ else(A.Mp i.size zs x s.σ).bind λσ=>k ((s.heap σ).put X o.dst (.az []))
     |_,_=>μ)
    |_=>μ)
   |_,_=>μ)
  |.builtin .delete=>(match c.argTypes.toList,c.args.toList.map (ev X s)with
   |[t,_],[m,key]=>(match X.P.underlying t with
    |some (.map kt _)=>(match jP X kt with|some ek=>(A.NL ek m key s.σ).bind λσ=>k ((s.heap σ).put X o.dst (.az []))|none=>μ)
    |_=>μ)
   |_,_=>μ)
  |.builtin _=>(eI X o s μ).bind λv=>k (s.put X o.dst v)
  | .value (.func f) => bif q && !X.W.contains f then (eI X o s μ).bind λv => k (s.put X o.dst v)
    else(X.call f (c.args.toList.map (ev X s)) s.σ).bind λr=>k ((s.heap r.2).put X o.dst r.1)
  | .value x => bif q then (eI X o s μ).bind λv => k (s.put X o.dst v)
    else(A.pH X.dyn (ev X s x) (c.args.toList.map (ev X s)) s.σ).bind λr=>k ((s.heap r.2).put X o.dst r.1)
  |_=>μ)
 |_=>(eI X o s μ).bind λv=>k (s.put X o.dst v)
def BC(o:Oper):Option (FuncId×List Operand):=match o.op with
 |.call c=>(match c.callee with|.value (.func f)=>bif X.W.contains f then δ (f,c.args.toList)else μ|_=>μ)
 |_=>μ
def CQ(o:Oper)(d:Nat):Bool:=X.L.contains d||(match o.dst with|some d=>X.L.contains d||X.O.contains d|none=>ξ)
def kE(q:Bool)(ops:Array Oper)(o:Oper)(s:AS)(k:AS->Option R):Option R:=
 match o.guard with
 |none=>eU X q o s k
 |some (j,want)=>match(ops[j]?).bind (·.dst)with
  |some d=>bif CQ X o d then μ else(match BC X o with
   |some (f,as')=>(ι (s.sl.getD d .undef) want (X.call f (as'.map (ev X s)) s.σ) (δ (.az [],s.σ))).bind λr=>k ((s.heap r.2).put X o.dst r.1)
   |none=>(match iq X o s (δ (d,want))with
    |some (b,r)=>r.bind λoff=>k (s.kC X o.dst b off (δ (d,want)))
    |none=>(ι (s.sl.getD d .undef) want (eI X o s (δ (d,want))) (δ (.az []))).bind λv=>k (s.put X o.dst v)))
  |none=>μ
def force{R:Type}:List U->(List U->Option R)->Option R
 |[],k=>k []
 |x::l,k=>force l λl=>k (x::l)
def pM(q:Bool)(ops:Array Oper):List Oper->AS->(AS->Option R)->Option R
 |[],s,k=>k s
 |o::r,s,k=>kE X q ops o s λs=>pM q ops r s k
def DT(q:Bool)(ops:Array Oper):List Oper->AS->(AS->Option R)->Option R
 |[],s,k=>k s
 |o::r,s,k=>kE X q ops o s λs=>force s.sl λsl=>DT q ops r ⟨sl,s.A,s.σ⟩ k
def rL(o:Oper):Bool:=match o.op with|.load ..|.store ..|.fieldAddr ..|.indexAddr ..|.nilCheck ..=>θ|_=>ξ
def rH(o:Oper):Bool:=match o.op with|.load ..|.store ..|.lookup ..|.mapUpdate ..|.call ..|.makeMap ..|.alloc ..|.box ..|.range ..|.next ..|.entry ..|.slice ..|.buildSlice ..=>θ|_=>ξ
def wH(o:Oper):Bool:=match o.op with
 |.store ..|.mapUpdate ..|.makeMap ..|.range ..|.next ..=>θ
 |.alloc ..|.box ..|.buildSlice ..=>(match o.dst with|some d=>X.O.contains d|none=>ξ)
 |.call c=>(match c.callee with|.builtin .len=>ξ|.builtin .max=>ξ|.builtin .min=>ξ|.builtin _=>θ|.value (.func f)=>X.W.contains f|_=>ξ)
 |_=>ξ
def lO:U->Bool
 |.oe ..=>ξ
 |_=>θ
def chainB(Bt:List Nat)(o:Oper):Bool:=match o.op with
 |.move (.tmp t)=>Bt.contains t
 |.assign (.tmp t)=>Bt.contains t
 |.nilCheck (.tmp t)=>Bt.contains t
 |.fieldAddr _ (.tmp t) _=>Bt.contains t
 |_=>ξ
def afp(o:Oper):Option Nat:=match o.op with
 |.move (.tmp t)=>δ t
 |.assign (.tmp t)=>δ t
 |.nilCheck (.tmp t)=>δ t
 |.fieldAddr _ (.tmp t) _=>δ t
 |.load _ (.tmp t)=>δ t
 |_=>μ
def afY(ops:List Oper)(sl:List U):List Nat:=(ops.filterMap afp).filter λt=>!(ops.any λo=>o.dst==δ t)&&lO (sl.getD t .undef)
def TV:List Oper->List Nat->List Nat
 |[],acc=>acc
 |o::r,acc=>TV r (match o.dst with|some d=>(bif chainB acc o then d::acc else acc)|none=>acc)
def soft(Bt:List Nat)(o:Oper):Bool:=match o.op with|.load _ (.tmp t)=>Bt.contains t|_=>ξ
def xZ(o:Oper):Bool:=match o.op with
 |.makeMap ..=>θ
 |.mapUpdate ..=>θ
 |.call c=>(match c.callee with|.builtin .append=>θ|_=>ξ)
 |_=>ξ
def M8(Bt:List Nat)(o:Oper):Bool:=match o.dst with
 |some d=>!Bt.contains d||chainB Bt o
 |none=>θ
def lf(o:Oper):Option Operand:=match o.op with
 |.load _ x=>δ x
 |.store _ x _=>δ x
 |.fieldAddr _ x _=>δ x
 |.indexAddr _ x _=>δ x
 |.nilCheck x=>δ x
 |_=>μ
def ql(o:Oper):Bool:=match o.op with|.fieldAddr ..=>θ|.indexAddr ..=>θ|.nilCheck ..=>θ|_=>ξ
def uO(Rt:List (Nat×Nat)):Operand->Option Nat
 |.tmp t=>bif X.L.contains t then δ t else Rt.lookup t
 |_=>μ
def rt(Rt:List (Nat×Nat))(o:Oper):Option Nat:=match lf o with|some x=>uO X Rt x|none=>μ
def MH:List Oper->List (Nat×Nat)->List (Nat×Nat)
 |[],Rt=>Rt
 |o::r,Rt=>MH r (match o.dst with|some d=>(bif ql o then(match rt X Rt o with|some b=>(d,b)::Rt|none=>Rt)else Rt)|none=>Rt)
def Na(Rt:List (Nat×Nat))(o:Oper):Bool:=match o.dst with
 |some d=>X.L.contains d||Rt.lookup d==(bif ql o then rt X Rt o else μ)
 |none=>θ
def jM:U->Bool
 |.undef=>θ
 |.az []=>θ
 |_=>ξ
def afa(Rt:List (Nat×Nat))(sl:List U):Bool:=Rt.all λp=>jM (sl.getD p.1 .undef)
def wb(Rt:List (Nat×Nat))(o:Oper):Option Nat:=match o.op with|.store ..=>rt X Rt o|_=>μ
def qH(Rt:List (Nat×Nat))(o:Oper):Bool:=match o.op with
 |.load ..=>(rt X Rt o).isNone
 |.store ..=>(rt X Rt o).isNone
 |.alloc ..|.box ..|.buildSlice ..=>(match o.dst with|some d=>X.O.contains d|none=>ξ)
 |_=>rH o
def mY(Rt:List (Nat×Nat))(o:Oper):Bool:=match o.op with
 |.store ..=>(rt X Rt o).isNone
 |_=>wH X o
def uk(Rt:List (Nat×Nat))(Bt:List Nat)(x y:Oper):Bool:=
 (match wb X Rt x with|some b=>rt X Rt y==δ b|none=>ξ)||(match x.dst with|some d=>X.L.contains d&&rt X Rt y==δ d|none=>ξ)||(mY X Rt x&&((qH X Rt y&&!(soft Bt y&&xZ x))||mY X Rt y))
def indep(Rt:List (Nat×Nat))(Bt:List Nat)(ops:Array Oper)(x y:Oper):Bool:=x.apart ops y&&!uk X Rt Bt x y&&!uk X Rt Bt y x
def Hv:List Oper->List Nat->List Nat
 |[],acc=>acc
 |o::r,acc=>Hv r (acc++[o.after.toList.foldl (λs e=>bif Zl .any e then s ||| 2 ^ e.on ||| acc.getD e.on 0 else s) 0])
def G5:List Oper->Nat->Bool
 |[],_=>θ
 |o::r,i=>o.after.toList.all (λe=>!Zl .any e||akK e.on i)&&G5 r (i+1)
def GX(Rt:List (Nat×Nat))(Bt:List Nat)(ops:Array Oper)(DZ:List Nat):List Oper->Nat->Bool
 |[],_=>θ
 |o::r,i=>(ops.toList.take i).zipIdx.all (λp=>(DZ.getD i 0).testBit p.2||indep X Rt Bt ops p.1 o)&&GX Rt Bt ops DZ r (i+1)
def Gk(Rt:List (Nat×Nat))(Bt:List Nat)(ops:Array Oper)(sl:List U):Bool:=X.P.follows .mixedOrders&&G5 ops.toList 0&&GX X Rt Bt ops (Hv ops.toList []) ops.toList 0&&ops.toList.all (Na X Rt)&&afa Rt sl&&Rt.all (λp=>X.L.contains p.2)&&ops.toList.all (M8 Bt)&&Bt.all (λt=>lO (sl.getD t .undef))
def CW(ops:Array Oper)(sl:List U):Bool:=Gk X (MH X ops.toList []) [] ops sl||Gk X (MH X ops.toList []) (TV ops.toList (afY ops.toList sl)) ops sl
def dG:Code->List Nat
 |.region _ ops _=>ops.toList.filterMap (·.dst)
 |.seq a b=>dG a++dG b
 |.cond _ a b=>dG a++dG b
 |.block _ c=>dG c
 |.loop c=>dG c
 |_=>[]
def su(sl:List U):List Nat->List U
 |[]=>sl
 |d::r=>su (sl.set d .undef) r
def Br(vs:List U):List U->List Nat->Nat->List U
 |sl,d::r,j=>Br vs (sl.set d (vs.getD j .undef)) r (j+1)
 |sl,[],_=>sl
def vals(sl:List U)(live:List Nat):List U:=live.map (sl.getD · .undef)
def AS.meet(s:AS)(mods live:List Nat)(vs:List U)(σ:Heap):AS:=⟨Br vs (su s.sl mods) live 0,λ_=>μ,σ⟩
def leave(live:List Nat)(e:AX)(s:AS):Option (AX×List U×Heap):=δ (e,vals s.sl live,s.σ)
def Hg(live:List Nat)(e:AX)(s:AS):Option (List U×Heap):=match e with|.normal=>δ (vals s.sl live,s.σ)|_=>μ
def A.sel{R:Type}(e:AX)(k:AX->Option R):List AX->Option R
 |[]=>μ
 |x::r=>bif e==x then k x else A.sel e k r
def exec:{R:Type}->kr->Code->AS->(AX->AS->Option R)->Option R
 |_,_,.skip,s,k=>k .normal s
 |_,_,.label _,s,k=>k .normal s
 | _, _, .region _ ops draw, s, k => bif draw then (bif CW X ops s.sl then DT X θ ops ops.toList ⟨s.sl, λ_ => μ, s.σ⟩ λs => k .normal ⟨s.sl, λ_ => μ, s.σ⟩ else μ)
   else DT X ξ ops ops.toList s λs=>k .normal ⟨s.sl,λ_=>μ,s.σ⟩
 |_,.s a b,.seq x y,s,k=>exec a x s λe s=>match e with|.normal=>exec b y s k|e=>k e s
 |_,.c live a b,.cond c x y,s,k=>bif !(live.all λd=>(dG x++dG y++X.L).contains d)then μ else(φ (ev X s c) (exec a x s (Hg live)) (exec b y s (Hg live))).bind λr=>force (s.meet (dG x++dG y++X.L) live r.1 r.2).sl λsl=>k .normal ⟨sl,λ_=>μ,r.2⟩
 |_,.j a b,.cond c x y,s,k=>φ (ev X s c) (exec a x s k) (exec b y s k)
 |_,.b a,.block id c,s,k=>exec a c s λe s=>match e with|.exit i=>bif i==id then k .normal s else k (.exit i) s|e=>k e s
 |_,.l live xs a,.loop c,s,k=>bif !(live.all λd=>(dG c++X.L).contains d)then μ else(WY (λvs σ=>force (s.meet (dG c++X.L) live vs σ).sl λsl=>exec a c ⟨sl,λ_=>μ,σ⟩ (leave live)) (vals s.sl live) s.σ).bind λr=>A.sel r.1 (λe=>force (s.meet (dG c++X.L) live r.2.1 r.2.2).sl λsl=>k e ⟨sl,λ_=>μ,r.2.2⟩) xs
 |_,.lc live xs a,.loop c,s,k=>bif !(live.all λd=>(dG c++X.L).contains d)then μ else A.MV (λvs σ K=>force (s.meet (dG c++X.L) live vs σ).sl λsl=>exec a c ⟨sl,λ_=>μ,σ⟩ λe s'=>K (e,vals s'.sl live,s'.σ)) (vals s.sl live) s.σ λr=>A.sel r.1 (λe=>force (s.meet (dG c++X.L) live r.2.1 r.2.2).sl λsl=>k e ⟨sl,λ_=>μ,r.2.2⟩) xs
 |_,_,.exit id,s,k=>k (.exit id) s
 |_,_,.ret,s,k=>k .ret s
 |_,_,_,_,_=>μ
def vV(s:AS):List ResultVar->(List U->Option R)->Option R
 |[],k=>k []
 |.tmp t::r,k=>vV s r λvs=>k (ev X s (.tmp t)::vs)
 |.cell a t::r,k=>(match place X s μ (.tmp a)with
  |some (b,off)=>((W9 (s.sl.getD b .undef)).bind λcs=>vJ X t off cs).bind λv=>vV s r λvs=>k (v::vs)
  |none=>((l6 (ev X s (.tmp a)) s.σ).bind λcs=>vJ X t 0 cs).bind λv=>vV s r λvs=>k (v::vs))
def one:List U->U
 |[v]=>v
 |vs=>.az vs
def A.fin(σ:Heap)(r:U)(σ':Heap):Option (U×Heap):=open Classical in
 if σ'=σ then δ (r,σ)else if σ'.take σ.length=σ then(Xz σ' σ.length 8 r).map λr=>(r,σ)else μ
def A.UW (es:List (U×U)):List (U×U):=ak5 (p:=λl:List (U×U)=>l.Perm es) ⟨es,.refl _⟩
def A.can (x:U):U:=match x with
 |.fm es=>open Classical in if Di es then .fm (A.UW es)else .fm es
 |x=>x
def A.Ni (σ:Heap) (n:Nat) (x:bH):Option bH:=match x with
 |.box cs=>(Zw σ n 8 cs).map λcs=>.box (cs.map A.can)
 |.arr g sz es=>(A.ko σ n 8 es).map λes=>.arr g sz (es.map (·.map A.can))
 |.pJ g sz es=>(A.ko σ n 8 es).map λes=>.pJ g sz (es.map (·.map A.can))
 |.map es=>(A.pK σ n 8 es).map .map
 |.it _ _=>μ
def A.By (σ:Heap) (n:Nat):Heap->Heap->Option Heap
 |[],_=>δ []
 |_::_,[]=>μ
 |b::r,b'::r'=>open Classical in (if b'=b then δ b else A.Ni σ n b').bind λx=>(A.By σ n r r').map (x::·)
def A.DE (σ:Heap) (v:U) (σ':Heap):Option (U×Heap):=(A.By σ' σ.length σ σ').bind λτ=>(Xz σ' σ.length 8 v).map λr=>(r,τ)
inductive nN where
 |K
 |F
  |N(f:U->U)
  |G
  |R
def A.gen:List U->Nat
 |[]=>0
 |x::r=>(match x with|.os _ g _ _ len=>g+len|.sl _ es=>es.length|_=>0)+A.gen r
def A.rowsOf:List U->List (List U)
 |[]=>[]
 |x::r=>(match x with|.sl _ es=>es|_=>[])++A.rowsOf r
def A.merge(args:List U)(σ:Heap)(sz:Nat)(seg:List (List U))(id:Nat)(σ':Heap):Option (U×Heap):=match args with
 |.os ij _ _ _ _::_=>match σ[ij]? with
  | some (.arr g1 wN sW) => open Classical in if id = σ.length /\ σ'.length = σ.length + 1 /\ wN = sz /\ g1 < A.gen args + 1 /\ (∀ j, j < σ.length -> j ≠ ij -> σ'[j]? = σ[j]?) /\ σ'[ij]? = δ (.pJ g1 wN sW) /\ (∀ y ∈ seg, y ∈ sW \/ y ∈ A.rowsOf args) then
    δ (.os ij (A.gen args+1) sz 0 seg.length,σ.set ij (.arr (A.gen args+1) sz seg))else μ
  |_=>μ
 |_=>μ
def A.ag7:List U->Bool
 |.os ..::_=>θ
 |_=>ξ
def A.renew(args:List U)(σ:Heap)(v:U)(σ':Heap):Option (U×Heap):=match v with
 |.os id g sz off len=>match σ'[id]? with
  | some (.arr g' sz' es) => if g = g' /\ sz = sz' /\ off + len <= es.length /\ g < A.gen args + 1 then
    (if id<σ.length\/A.ag7 args=ξ then δ (.os id (A.gen args+1) sz 0 len,σ'.set id (.arr (A.gen args+1) sz ((es.drop off).take len)))else A.merge args σ sz ((es.drop off).take len) id σ')else μ
  |_=>μ
 |.bA=>δ (.bA,σ')
 |.ez=>δ (.ez,σ')
 |.sl sz []=>δ (.sl sz [],σ')
 |_=>μ
def nN.run(f:nN)(args:List U)(σ:Heap)(v:U)(σ':Heap):Option (U×Heap):=match f with
 |.K=>δ (v,σ')
 |.F=>A.fin σ v σ'
 |.N g=>(A.fin σ v σ').map λp=>(g p.1,p.2)
 |.G=>A.DE σ v σ'
 |.R=>A.renew args σ v σ'
def nQ(fin:nN)(ck:kr)(fn:Func)(args:List U)(σ:Heap):Option (U×Heap):=
 match fn.body with
 |some c=>bif !(Nat.ble args.length fn.ntmps&&X.n==fn.ntmps)then μ else exec X ck c ⟨args++w4 (fn.ntmps-args.length) (.az []),λ_=>μ,σ⟩ λe s=>match e with
  |.exit _=>μ
  |_=>vV X s fn.results.toList λvs=>fin.run args σ (one vs) s.σ
 |none=>μ
end
end
end
open AS renaming put->akP
abbrev aR:kr:=(.s .n .n)
abbrev aW:kr:=(.s .n (.j aR .n))
abbrev eZ:kr:=(.j .n .n)
structure Pl where
 b:Nat
 base:Nat
 g:Nat
 sz:Nat
 nT:Nat
structure RC where
 w:World
 E:List Pl
 X:Nat->Prop
 nm:List Nat
def mG(es:Array MapEntry)(bh:Nat):Prop:=(∀e∈es.toList,e.born<bh)/\(es.toList.map (·.born)).Nodup
def To(es:List (U×U))(l L:List MapEntry):Prop:=l=L\/(l.Perm L/\Di es)
mutual
def an(c:RC):U->Value->Prop
 |.undef,_=>True
 |.int k n,v=>v=.int k n
 |.bool b,v=>v=.bool b
 |.str s,v=>v=.string s
 |.agg cs,v=>∃vs,v=.agg vs/\aF c cs vs.toList/\∀x∈vs.toList,cx x=θ
 |.az cs,v=>∃vs,v=.tuple vs/\aF c cs vs.toList
 |.sl sz es,v=>∃a cap,v=.slice a es.length cap/\es.length<=cap/\0<sz/\(es=[]\/∃b off,a=δ ⟨b,off,μ⟩/\b<c.w.heap.size/\¬c.X b/\aY c sz b off es)
 |.bA,v=>v=.slice μ 0 0
 |.ez,v=>∃a,v=.slice a 0 0
 |.rp cs,v=>∃b off,v=.pointer (δ ⟨b,off,μ⟩)/\b<c.w.heap.size/\¬c.X b/\aT c b off cs
 |.np,v=>v=.pointer μ
 |.op id off,v=>∃p,c.E[id]? =δ p/\p.g=0/\v=.pointer (δ ⟨p.b,off,μ⟩)
 |.oe id g i off,v=>0<g/\∃p,c.E[id]? =δ p/\g<=p.g/\∃a,v=.pointer (δ a)/\(g=p.g->a=⟨p.b,p.base+i*p.sz+off,μ⟩)
 |.os id g sz off len,v=>0<g/\∃p,c.E[id]? =δ p/\g<=p.g/\∃a cap,v=.slice (δ a) len cap/\len<=cap/\(g=p.g->p.sz=sz/\(cap=0\/a=⟨p.b,p.base+off*p.sz,μ⟩)/\p.base+(off+cap)*p.sz=p.nT)
 |.om id,v=>∃p,c.E[id]? =δ p/\p.g=0/\v=.map (δ p.b)
 |.fm es,v=>∃b,v=.map (δ b)/\b<c.w.heap.size/\¬c.X b/\∃aV bh,c.w.heap[b]? =δ (.map aV bh)/\mG aV bh/\∃l,bN c es l/\To es l aV.toList
 |.nm,v=>v=.map μ
 |.fn n caps,v=>∃f vs,v=.func (.func f) #[] vs/\c.nm.getD f 0=n/\aF c caps vs.toList
 |.uI,v=>v=.nilFunc
 |.lbx _,_=>False
def aF(c:RC):List U->List Value->Prop
 |[],vs=>vs=[]
 |a::r,vs=>∃v vs',vs=v::vs'/\an c a v/\aF c r vs'
def bN(c:RC):List (U×U)->List MapEntry->Prop
 |[],es=>es=[]
 |(k,v)::r,es=>∃e es',es=e::es'/\an c k e.key/\an c v e.val/\bN c r es'
def aT(c:RC)(b:Nat):Nat->List U->Prop
 |_,[]=>True
 |off,a::r=>(∃v,c.w.cell? ⟨b,off,μ⟩=δ v/\cx v=θ/\an c a v)/\aT c b (off+1) r
def aY(c:RC)(sz b:Nat):Nat->List (List U)->Prop
 |_,[]=>True
 |off,e::r=>e.length=sz/\aT c b off e/\aY c sz b (off+sz) r
end
structure Ext (c c' : RC) : Prop where
 size:c.w.heap.size<=c'.w.heap.size
 stay:∀b,b<c.w.heap.size->¬c.X b->c'.w.heap[b]? =c.w.heap[b]? /\¬c'.X b
 env:∀(i:Nat)(p:Pl),c.E[i]? =δ p->∃p':Pl,c'.E[i]? =δ p'/\(p'=p\/(0<p.g/\p.g<p'.g))
 nm:c'.nm=c.nm
theorem cell_of_block{w w':World}{b off:Nat}(h:w'.heap[b]? =w.heap[b]?):w'.cell? ⟨b,off,μ⟩=w.cell? ⟨b,off,μ⟩:=by simp [ZV,h]
mutual
theorem an.mono{c c':RC}(h:Ext c c'):∀(a:U)(v:Value),an c a v->an c' a v
 |.undef,_,_=>by simp [an]
 |.int k n,v,r=>by simpa [an]using r
 |.bool b,v,r=>by simpa [an]using r
 |.str s,v,r=>by simpa [an]using r
 |.agg cs,v,r=>by simp only[an]at r ⊢;obtain⟨vs,e,r,k⟩:=r;exact⟨vs,e,aF.mono h cs _ r,k⟩
 |.az cs,v,r=>by simp only[an]at r ⊢;obtain⟨vs,e,r⟩:=r;exact⟨vs,e,aF.mono h cs _ r⟩
 |.sl sz es,v,r=>by
  simp only[an]at r ⊢;obtain⟨a,cap,e,h1,h2,r⟩:=r;refine⟨a,cap,e,h1,h2,?_⟩;rcases r with r|⟨b,off,e,hb,hx,r⟩
  ·exact .inl r
  ·exact .inr ⟨b,off,e,nJ hb h.size,(h.stay b hb hx).2,aY.mono h sz b (h.stay b hb hx).1 es off r⟩
 |.bA,v,r=>by simpa [an]using r
 |.ez,v,r=>by simpa [an]using r
 |.rp cs,v,r=>by simp only[an]at r ⊢;obtain⟨b,off,e,hb,hx,r⟩:=r;exact⟨b,off,e,nJ hb h.size,(h.stay b hb hx).2,aT.mono h b (h.stay b hb hx).1 cs off r⟩
 |.np,v,r=>by simpa [an]using r
 |.op id off,v,r=>by
  simp only[an]at r ⊢;obtain⟨p,h1,h2,e⟩:=r;obtain⟨p',h3,h4⟩:=h.env _ _ h1;rcases h4 with rfl|⟨h4,_⟩
  ·exact⟨p',h3,h2,e⟩
  ·omega
 |.oe id g i off,v,r=>by
  simp only[an]at r ⊢;obtain⟨hg,p,h1,h2,a,e,r⟩:=r;obtain⟨p',h3,h4⟩:=h.env _ _ h1;rcases h4 with rfl|⟨h4,h5⟩
  ·exact⟨hg,p',h3,h2,a,e,r⟩
  ·exact⟨hg,p',h3,by omega,a,e,λk=>by omega⟩
 |.os id g sz off len,v,r=>by
  simp only[an]at r ⊢;obtain⟨hg,p,h1,h2,a,cap,e,h6,r⟩:=r;obtain⟨p',h3,h4⟩:=h.env _ _ h1;rcases h4 with rfl|⟨h4,h5⟩
  ·exact⟨hg,p',h3,h2,a,cap,e,h6,r⟩
  ·exact⟨hg,p',h3,by omega,a,cap,e,h6,λk=>by omega⟩
 |.om id,v,r=>by
  simp only[an]at r ⊢;obtain⟨p,h1,h2,e⟩:=r;obtain⟨p',h3,h4⟩:=h.env _ _ h1;rcases h4 with rfl|⟨h4,_⟩
  ·exact⟨p',h3,h2,e⟩
  ·omega
 |.nm,v,r=>by simpa [an]using r
 |.fm es,v,r=>by simp only[an]at r ⊢;obtain⟨b,e,hb,hx,aV,bh,h1,hw,l,h2,h3⟩:=r;exact⟨b,e,nJ hb h.size,(h.stay b hb hx).2,aV,bh,(h.stay b hb hx).1.trans h1,hw,l,bN.MX h es _ h2,h3⟩
 |.fn n caps,v,r=>by simp only[an]at r ⊢;obtain⟨f,vs,e,h1,r⟩:=r;exact⟨f,vs,e,by rw[h.nm];exact h1,aF.mono h caps _ r⟩
 |.uI,v,r=>by simpa [an]using r
 |.lbx _,v,r=>by simp [an]at r
theorem bN.MX{c c':RC}(h:Ext c c'):∀(l:List (U×U))(es:List MapEntry),bN c l es->bN c' l es
 |[],es,r=>by simpa [bN]using r
 |(k,v)::l,es,r=>by simp only[bN]at r ⊢;obtain⟨e,es',h1,h2,h3,h4⟩:=r;exact⟨e,es',h1,an.mono h k _ h2,an.mono h v _ h3,bN.MX h l es' h4⟩
theorem aF.mono{c c':RC}(h:Ext c c'):∀(l:List U)(vs:List Value),aF c l vs->aF c' l vs
 |[],vs,r=>by simpa [aF]using r
 |a::l,vs,r=>by simp only[aF]at r ⊢;obtain⟨v,vs',e,h1,h2⟩:=r;exact⟨v,vs',e,an.mono h a v h1,aF.mono h l vs' h2⟩
theorem aT.mono{c c':RC}(h:Ext c c')(b:Nat)(hb:c'.w.heap[b]? =c.w.heap[b]?):∀(l:List U)(off:Nat),aT c b off l->aT c' b off l
 |[],off,r=>by simp [aT]
 |a::l,off,r=>by simp only[aT]at r ⊢;obtain⟨⟨v,h1,h2,h3⟩,r⟩:=r;exact⟨⟨v,by rw[cell_of_block hb];exact h1,h2,an.mono h a v h3⟩,aT.mono h b hb l (off+1) r⟩
theorem aY.mono{c c':RC}(h:Ext c c')(sz b:Nat)(hb:c'.w.heap[b]? =c.w.heap[b]?):∀(l:List (List U))(off:Nat),aY c sz b off l->aY c' sz b off l
 |[],off,r=>by simp [aY]
 |e::l,off,r=>by simp only[aY]at r ⊢;obtain⟨h1,h2,r⟩:=r;exact⟨h1,aT.mono h b hb e off h2,aY.mono h sz b hb l (off+sz) r⟩
end
open aF renaming mono->ZD
open an renaming mono->Yz
theorem Ext.trans{a b c:RC}(h:Ext a b)(k:Ext b c):Ext a c:=by
 refine⟨XA h.size k.size,λx hx hn=>?_,λi p hp=>?_,k.nm.trans h.nm⟩
 ·obtain⟨h1,h2⟩:=h.stay x hx hn;obtain⟨h3,h4⟩:=k.stay x (nJ hx h.size) h2;exact⟨h3.trans h1,h4⟩
 ·obtain⟨p',h1,h2⟩:=h.env i p hp;obtain⟨p'',h3,h4⟩:=k.env i p' h1;refine⟨p'',h3,?_⟩;rcases h2 with rfl|⟨h2,h5⟩
  ·exact h4
  ·rcases h4 with rfl|⟨h6,h7⟩
   ·exact .inr ⟨h2,h5⟩
   ·exact .inr ⟨h2,by omega⟩
theorem aF.length{c:RC}:∀{l:List U}{vs:List Value},aF c l vs->l.length=vs.length
 |[],vs,h=>by simp only[aF]at h;subst h;rfl
 |a::l,vs,h=>by simp only[aF]at h;obtain⟨v,vs',rfl,_,h2⟩:=h;simp [aF.length h2]
theorem aF.nth{c:RC}:∀{l:List U}{vs:List Value}{i:Nat}{a:U},aF c l vs->l[i]? =δ a->∃v,vs[i]? =δ v/\an c a v
 |[],vs,i,a,h,k=>by simp at k
 |x::l,vs,0,a,h,k=>by simp only[aF]at h;obtain⟨v,vs',rfl,h1,_⟩:=h;simp at k;subst k;exact⟨v,rfl,h1⟩
 |x::l,vs,i+1,a,h,k=>by simp only[aF]at h;obtain⟨v,vs',rfl,_,h2⟩:=h;simp at k;obtain⟨u,h3,h4⟩:=aF.nth h2 k;exact⟨u,by simpa using h3,h4⟩
theorem aF.append{c:RC}:∀{l m:List U}{vs us:List Value},aF c l vs->aF c m us->aF c (l++m) (vs++us)
 |[],m,vs,us,h,k=>by simp only[aF]at h;subst h;simpa using k
 |a::l,m,vs,us,h,k=>by simp only[aF]at h;obtain⟨v,vs',rfl,h1,h2⟩:=h;simp only[kN,aF];exact⟨v,_,rfl,h1,h2.append k⟩
theorem aF.take{c:RC}:∀{l:List U}{vs:List Value}(n:Nat),aF c l vs->aF c (l.take n) (vs.take n)
 |[],vs,n,h=>by simp only[aF]at h;subst h;simp [aF]
 |a::l,vs,0,h=>by simp [aF]
 |a::l,vs,n+1,h=>by simp only[aF]at h;obtain⟨v,vs',rfl,h1,h2⟩:=h;simp only[List.take_succ_cons,aF];exact⟨v,_,rfl,h1,h2.take n⟩
theorem aF.drop{c:RC}:∀{l:List U}{vs:List Value}(n:Nat),aF c l vs->aF c (l.drop n) (vs.drop n)
 |[],vs,n,h=>by simp only[aF]at h;subst h;simp [aF]
 |a::l,vs,0,h=>by simpa using h
 |a::l,vs,n+1,h=>by simp only[aF]at h;obtain⟨v,vs',rfl,h1,h2⟩:=h;simp only[List.drop_succ_cons];exact h2.drop n
theorem aF.map{c:RC}{α:Type}(f:α->U)(g:α->Value):∀(l:List α),(∀x∈l,an c (f x) (g x))->aF c (l.map f) (l.map g)
 |[],_=>by simp [aF]
 |a::l,h=>by simp only[fH,aF];exact⟨_,_,rfl,h a (by simp),aF.map f g l (λx hx=>h x (by simp [hx]))⟩
theorem aF.single{c:RC}{a:U}{v:Value}(h:an c a v):aF c [a] [v]:=by simp only[aF];exact⟨v,[],rfl,h,rfl⟩
theorem aT.nth{c:RC}{b:Nat}:∀{l:List U}{off i:Nat}{a:U},aT c b off l->l[i]? =δ a->∃v,c.w.cell? ⟨b,off+i,μ⟩=δ v/\cx v=θ/\an c a v
 |[],off,i,a,h,k=>by simp at k
 |x::l,off,0,a,h,k=>by simp only[aT]at h;simp at k;subst k;exact h.1
 |x::l,off,i+1,a,h,k=>by simp only[aT]at h;simp at k;have:=aT.nth h.2 k;rwa[show off+1+i=off+(i+1) by omega]at this
open aT renaming nth->XS
theorem aT.of{c:RC}{b:Nat}:∀{l:List U}{off:Nat},(∀i a,l[i]? =δ a->∃v,c.w.cell? ⟨b,off+i,μ⟩=δ v/\cx v=θ/\an c a v)->aT c b off l
 |[],off,h=>by simp [aT]
 |x::l,off,h=>by simp only[aT];refine⟨by simpa using h 0 x rfl,aT.of λi a hi=>?_⟩;have:=h (i+1) a (by simpa using hi);rwa[show off+(i+1)=off+1+i by omega]at this
open aT renaming of->alS
theorem aT.drop{c:RC}{b:Nat}{l:List U}{off:Nat}(n:Nat)(h:aT c b off l):aT c b (off+n) (l.drop n):=
 alS λi a hi=>by have:=XS h (i:=n+i) (a:=a) (by rw[<-hi,W5]);rwa[show off+(n+i)=off+n+i by omega]at this
theorem aT.take{c:RC}{b:Nat}{l:List U}{off:Nat}(n:Nat)(h:aT c b off l):aT c b off (l.take n):=
 alS λi a hi=>by
  have:l[i]? =δ a:=by
   rw[alg]at hi;split at hi
   ·exact hi
   ·cases hi
  exact XS h this
theorem aY.nth{c:RC}{sz b:Nat}:∀{l:List (List U)}{off i:Nat}{e:List U},aY c sz b off l->l[i]? =δ e->e.length=sz/\aT c b (off+i*sz) e
 |[],off,i,e,h,k=>by simp at k
 |x::l,off,0,e,h,k=>by simp only[aY]at h;simp at k;subst k;exact⟨h.1,by simpa using h.2.1⟩
 |x::l,off,i+1,e,h,k=>by simp only[aY]at h;simp at k;have:=aY.nth h.2.2 k;rwa[show off+sz+i*sz=off+(i+1)*sz by rw[fU];omega]at this
open aY renaming nth->als
theorem aY.of{c:RC}{sz b:Nat}:∀{l:List (List U)}{off:Nat},(∀i e,l[i]? =δ e->e.length=sz/\aT c b (off+i*sz) e)->aY c sz b off l
 |[],off,h=>by simp [aY]
 |x::l,off,h=>by simp only[aY];have h0:=h 0 x rfl;simp at h0;refine⟨h0.1,h0.2,aY.of λi e hi=>?_⟩;have:=h (i+1) e (by simpa using hi);rwa[show off+(i+1)*sz=off+sz+i*sz by rw[fU];omega]at this
theorem aY.drop{c:RC}{sz b:Nat}{l:List (List U)}{off:Nat}(n:Nat)(h:aY c sz b off l):aY c sz b (off+n*sz) (l.drop n):=
 aY.of λi e hi=>by have:=als h (i:=n+i) (e:=e) (by rw[<-hi,W5]);rwa[show off+(n+i)*sz=off+n*sz+i*sz by rw[fU];omega]at this
theorem aY.take{c:RC}{sz b:Nat}{l:List (List U)}{off:Nat}(n:Nat)(h:aY c sz b off l):aY c sz b off (l.take n):=
 aY.of λi e hi=>by
  have:l[i]? =δ e:=by
   rw[alg]at hi;split at hi
   ·exact hi
   ·cases hi
  exact als h this
theorem Nj : Tryz.prog.globalNamed "internal/strconv.uint64pow10" = δ 3 := by kernel_rfl
def Sg(w:World):Prop:=∃m:Int,w.cell? ⟨2,0,μ⟩=δ (.int ε m)
def vK (w : World) (free : Nat -> Prop) : Prop := (Lib.TabIs Tryz.prog w "internal/strconv.uint64pow10" .u64 Lib.pow10Tab /\ 3 < w.heap.size /\ ¬ free 3) /\ Sg w /\ 2 < w.heap.size /\ ¬ free 2
theorem vK.to{w w':World}{free free':Nat->Prop}(h:vK w free)(hs:w.heap.size<=w'.heap.size)(hk:∀b,b<w.heap.size->¬free b->w'.heap[b]? =w.heap[b]?)(hf:∀b,b<w.heap.size->free' b->free b):vK w' free':=by
 obtain⟨⟨h1,h2,h3⟩,⟨m,hm⟩,h4,h5⟩:=h;refine⟨⟨?_,nJ h2 hs,λk=>h3 (hf _ h2 k)⟩,⟨m,?_⟩,nJ h4 hs,λk=>h5 (hf _ h4 k)⟩
 ·have e:=hk _ h2 h3;unfold Lib.TabIs World.var? at h1 ⊢;rw[Nj,aA]at h1 ⊢;rw[e];exact h1
 ·have e:=hk _ h4 h5;rw[<-hm];simp [ZV,e]
theorem vK.pow {w : World} {free : Nat -> Prop} (h : vK w free) : Lib.TabIs Tryz.prog w "internal/strconv.uint64pow10" .u64 Lib.pow10Tab := h.1.1
section
open Go.RowKit
def vF(c:RC)(b:Nat)(cs:List U):Prop:=(∃arr t,c.w.heap[b]? =δ (.cells arr t (0,0))/\arr.size=cs.length)/\aT c b 0 cs
def M9(c:RC)(b:Nat):Prop:=∀arr t fz,c.w.heap[b]? =δ (.cells arr t fz)->∀x∈arr.toList,cx x=θ
def agx(c:RC)(b:Nat)(cur left:List (U×U)):Prop:=(cur=[]/\left=[]/\∃since seen last,c.w.heap[b]? =δ (.mapIter μ since seen last))\/ ∃m seen aV bh,c.w.heap[b]? =δ (.mapIter (δ m) bh seen bh)/\m<c.w.heap.size/\¬c.X m/\c.w.heap[m]? =δ (.map aV bh)/\mG aV bh/\(∃l,bN c left l/\l.Perm (aV.toList.filter λe=>!seen.contains e.born))/\ (cur=[]\/∃k v e,cur=[(k,v)]/\seen.back? =δ e.born/\e∈aV.toList/\an c k e.key/\an c v e.val)
def mF(c:RC)(p:Pl):bH->Prop
 |.box cs=>p.g=0/\vF c p.b cs
 |.arr g sz es=>p.g=g/\0<g/\p.sz=sz/\0<sz/\(∃arr t,c.w.heap[p.b]? =δ (.cells arr t (0,0))/\arr.size=p.nT)/\p.base+es.length*sz<=p.nT/\aY c sz p.b p.base es/\M9 c p.b
 |.pJ g sz es=>p.g=g/\0<g/\p.sz=sz/\0<sz/\(∃arr t,c.w.heap[p.b]? =δ (.cells arr t (0,0))/\arr.size=p.nT)/\p.base+es.length*sz=p.nT/\aY c sz p.b p.base es/\M9 c p.b
 |.map es=>p.g=0/\∃aV bh,c.w.heap[p.b]? =δ (.map aV bh)/\mG aV bh/\bN c es aV.toList
 |.it cur left=>p.g=0/\agx c p.b cur left
structure fS (c : RC) (σ : Heap) : Prop where
 len:c.E.length=σ.length
 inj:∀(i j:Nat)(p q:Pl),c.E[i]? =δ p->c.E[j]? =δ q->p.b=q.b->i=j
 blk:∀(i:Nat)(p:Pl)(x:bH),c.E[i]? =δ p->σ[i]? =δ x->mF c p x
structure Z where
 w:World
 E:List Pl
 X:Nat->Prop
 nm:List Nat
def ctx(z:Z)(w:World)(E:List Pl)(pb:Nat->Option Nat):RC:=⟨w,E,λb=>z.X b\/(∃p∈E,p.b=b)\/∃i,pb i=δ b,z.nm⟩
def agv(z:Z)(b:Nat):Prop:=z.X b\/∃p∈z.E,p.b=b
structure pN (z : Z) : Prop where
 f:∀b,z.X b->b<z.w.heap.size
 tab:vK z.w (agv z)
instance {z : Z} : CoeFun (pN z) (λ_ => ∀ b, z.X b -> b < z.w.heap.size) := ⟨pN.f⟩
theorem pN.none{z:Z}(h:pN z){nm:List Nat}:pN ⟨z.w,[],λ_=>False,nm⟩:=
 ⟨λ_(k:False)=>k.elim,h.tab.to (bL _) (λ_ _ _=>rfl) λb _ k=>by rcases k with k|⟨p,hp,_⟩;exact(show False from k).elim;cases hp⟩
structure Out (z : Z) (w : World) (E : List Pl) : Prop where
 os:w.os=z.w.os
 tape:w.tape=z.w.tape
 output:w.output=z.w.output
 size:z.w.heap.size<=w.heap.size
 stay:∀b,b<z.w.heap.size->(∀p∈z.E,p.b≠b)->w.heap[b]? =z.w.heap[b]?
 fresh':∀(i:Nat)(p:Pl),E[i]? =δ p->z.w.heap.size<=p.b\/∃q:Pl,z.E[i]? =δ q/\q.b=p.b
 env:∀(i:Nat)(p:Pl),z.E[i]? =δ p->∃p':Pl,E[i]? =δ p'/\(p'=p\/(0<p.g/\p.g<p'.g))
 lt:pN z
 mine:∀p∈z.E,p.b<z.w.heap.size
theorem Out.fresh{z:Z}{w:World}{E:List Pl}(h:Out z w E)(p:Pl)(hp:p∈E):z.w.heap.size<=p.b\/∃q∈z.E,q.b=p.b:=by
 obtain⟨i,hi,rfl⟩:=Y0.1 hp;rcases h.fresh' i E[i] (by simp [hi])with k|⟨q,hq,k⟩
 ·exact .inl k
 ·exact .inr ⟨q,cZ hq,k⟩
def Slot(c:RC)(pb:Nat->Option Nat)(i:Nat)(av:U)(v:Value):Prop:=match av with
 |.lbx cs=>∃b,pb i=δ b/\v=.pointer (δ ⟨b,0,μ⟩)/\vF c b cs
 |av=>an c av v
def nI(a:Act):Option (Nat×Bool)->Prop
 |none=>True
 |some (g,want)=>a.tmps.getD g undef=.bool want
structure St (X : Fx) (z : Z) (s : AS) (a : Act) (w : World) (E : List Pl) (pb : Nat -> Option Nat) : Prop where
 len:a.tmps.size=s.sl.length
 nO:s.sl.length=X.n
 slot:∀i av,s.sl[i]? =δ av->Slot (ctx z w E pb) pb i av (a.tmps.getD i undef)
 box:∀i cs,s.sl[i]? =δ (.lbx cs)->X.L.contains i=θ
 kC:∀t p,s.A t=δ p->nI a p.tag->∃b,pb p.slot=δ b/\a.tmps.getD t undef=.pointer (δ ⟨b,p.off,μ⟩)
 priv:∀i b,pb i=δ b->z.w.heap.size<=b/\b<w.heap.size/\∀p∈E,p.b≠b
 inj:∀i j b,pb i=δ b->pb j=δ b->i=j
 heap:fS (ctx z w E pb) s.σ
 defers:a.defers=[]
 out:Out z w E
 nm:X.nm=z.nm
theorem vF.mono{c c':RC}(h:Ext c c'){b:Nat}{cs:List U}(hb:c'.w.heap[b]? =c.w.heap[b]?)(k:vF c b cs):vF c' b cs:=
 ⟨by rw[hb];exact k.1,aT.mono h b hb cs 0 k.2⟩
theorem bN.mono{c c':RC}(h:Ext c c'){l:List (U×U)}{es:List MapEntry}(r:bN c l es):bN c' l es:=bN.MX h l es r
theorem xm{c:RC}{b:Nat}{arr:Array Value}{t:TypeId}{fz:Nat×Nat}(h:c.w.heap[b]? =δ (.cells arr t fz))(ho:∀x∈arr.toList,cx x=θ):M9 c b:=λxJ t' fz' e=>by rw[h]at e;injection e with e;injection e with e1;subst e1;exact ho
theorem mF.mono{c c':RC}(h:Ext c c'){p:Pl}{x:bH}(hb:c'.w.heap[p.b]? =c.w.heap[p.b]?)(k:mF c p x):mF c' p x:=by
 cases x with
 |box cs=>exact⟨k.1,k.2.mono h hb⟩
 |arr g sz es=>obtain⟨h1,h2,h3,h4,h5,h6,h7,h8⟩:=k;exact⟨h1,h2,h3,h4,by rw[hb];exact h5,h6,aY.mono h sz _ hb es _ h7,λarr t fz e=>h8 arr t fz (hb▸e)⟩
 |pJ g sz es=>obtain⟨h1,h2,h3,h4,h5,h6,h7,h8⟩:=k;exact⟨h1,h2,h3,h4,by rw[hb];exact h5,h6,aY.mono h sz _ hb es _ h7,λarr t fz e=>h8 arr t fz (hb▸e)⟩
 |map es=>obtain⟨h1,aV,bh,h2,hw,h3⟩:=k;exact⟨h1,aV,bh,by rw[hb];exact h2,hw,h3.mono h⟩
 |it cur left=>
  obtain⟨h1,h2⟩:=k;refine⟨h1,?_⟩;rcases h2 with⟨h2,h2',since,seen,last,h3⟩|⟨m,seen,aV,bh,h3,h4,h5,h6,h7,h8,h9⟩
  ·exact .inl ⟨h2,h2',since,seen,last,by rw[hb];exact h3⟩
  ·refine .inr ⟨m,seen,aV,bh,by rw[hb];exact h3,nJ h4 h.size,(h.stay m h4 h5).2,by rw[(h.stay m h4 h5).1];exact h6,h7,h8.imp λ_ q=>⟨q.1.mono h,q.2⟩,?_⟩;rcases h9 with h9|⟨k,v,e,e1,e2,e3,e4,e5⟩
   ·exact .inl h9
   ·exact .inr ⟨k,v,e,e1,e2,e3,Yz h _ _ e4,Yz h _ _ e5⟩
theorem mF.lt{c:RC}{p:Pl}{x:bH}(k:mF c p x):p.b<c.w.heap.size:=by
 have key:∀o,c.w.heap[p.b]? =δ o->p.b<c.w.heap.size:=λo ho=>(uq.1 ho).1
 cases x with
 |box cs=>obtain⟨_,⟨⟨arr,t,h,_⟩,_⟩⟩:=k;exact key _ h
 |arr g sz es=>obtain⟨_,_,_,_,⟨arr,t,h,_⟩,_⟩:=k;exact key _ h
 |pJ g sz es=>obtain⟨_,_,_,_,⟨arr,t,h,_⟩,_⟩:=k;exact key _ h
 |map es=>obtain⟨_,aV,bh,h,_⟩:=k;exact key _ h
 |it cur left=>obtain⟨_,⟨_,_,_,_,_,h⟩|⟨_,_,_,_,h,_⟩⟩:=k<;>exact key _ h
theorem fS.lt{c:RC}{σ:Heap}(h:fS c σ){p:Pl}(hp:p∈c.E):p.b<c.w.heap.size:=by
 obtain⟨i,hi,rfl⟩:=Y0.1 hp;have hs:i<σ.length:=by rw[<-h.len];exact hi
 exact(h.blk i _ σ[i] (by simp [hi]) (by simp [hs])).lt
theorem fS.mono{c c':RC}{σ:Heap}(h:fS c σ)(hx:Ext c c')(hE:c'.E=c.E)(hb:∀p∈c.E,c'.w.heap[p.b]? =c.w.heap[p.b]?):fS c' σ:=by refine⟨by rw[hE];exact h.len,by rw[hE];exact h.inj,λi p x hi cU=>?_⟩;rw[hE]at hi;exact(h.blk i p x hi cU).mono hx (hb p (cZ hi))
theorem Slot.rep{c:RC}{pb:Nat->Option Nat}{i:Nat}{av:U}{v:Value}(h:Slot c pb i av v)(k:∀cs,av≠.lbx cs):an c av v:=by cases av<;>first|exact h|exact absurd rfl (k _)
theorem Slot.of{c:RC}{pb:Nat->Option Nat}{i:Nat}{av:U}{v:Value}(h:an c av v):Slot c pb i av v:=by cases av<;>first|exact h|(simp [an]at h)
section
variable {X : Fx} {z : Z} {s : AS} {a : Act} {w w' : World} {E : List Pl} {pb : Nat -> Option Nat}
theorem St.ext(h:St X z s a w E pb){E':List Pl}{bD:Nat->Option Nat}{σ':Heap}(hx:Ext (ctx z w E pb) (ctx z w' E' bD))
  (hp:∀i b,pb i=δ b->bD i=δ b/\w'.heap[b]? =w.heap[b]?) (agp:∀i b,bD i=δ b->z.w.heap.size<=b/\b<w'.heap.size/\∀p∈E',p.b≠b)
  (hinj:∀i j b,bD i=δ b->bD j=δ b->i=j) (hh:fS (ctx z w' E' bD) σ') (ho:Out z w' E'):St X z (s.heap σ') a w' E' bD:=by
 refine⟨h.len,h.nO,λi av hi=>?_,h.box,λt p hp' ht=>?_,agp,hinj,hh,h.defers,ho,h.nm⟩
 ·have k:=h.slot i av hi;cases av with
  |lbx cs=>obtain⟨b,h1,h2,h3⟩:=k;exact⟨b,(hp i b h1).1,h2,h3.mono hx (hp i b h1).2⟩
  |_=>exact Yz hx _ _ k
 ·obtain⟨b,h1,h2⟩:=h.kC t p hp' ht;exact⟨b,(hp _ b h1).1,h2⟩
theorem pe(g:Below w.heap.size w w'):Ext (ctx z w E pb) (ctx z w' E pb):=
 ⟨g.size,λb hb hX=>⟨g.block b hb,hX⟩,λi p h=>⟨p,h,.inl rfl⟩,rfl⟩
theorem Out.grow(h:Out z w E)(g:Below w.heap.size w w'):Out z w' E:=
 ⟨g.os.trans h.os,g.tape.trans h.tape,g.output.trans h.output,XA h.size g.size,λb hb hp=>(g.block b (nJ hb h.size)).trans (h.stay b hb hp),h.fresh',h.env,h.lt,h.mine⟩
theorem St.grow(h:St X z s a w E pb)(g:Below w.heap.size w w'):St X z s a w' E pb:=by
 have hx:Ext (ctx z w E pb) (ctx z w' E pb):=pe g
 exact h.ext (σ':=s.σ) hx (λi b hb=>⟨hb,g.block b (h.priv i b hb).2.1⟩) (λi b hb=>⟨(h.priv i b hb).1,nJ (h.priv i b hb).2.1 g.size,(h.priv i b hb).2.2⟩) h.inj
  (h.heap.mono hx rfl λp hp=>g.block _ (h.heap.lt hp)) (h.out.grow g)
theorem St.fresh(h:St X z s a w E pb):¬(ctx z w E pb).X w.heap.size:=by
 rintro(h1|⟨p,hp,e⟩|⟨i,hi⟩)
 ·have:=h.out.lt _ h1;have:=h.out.size;omega
 ·have:=h.heap.lt hp;simp only[ctx]at this;omega
 ·have:=(h.priv i _ hi).2.1;omega
theorem A6(l:Array Value)(d i:Nat)(v:Value):(l.setIfInBounds d v).getD i undef=if i=d/\d<l.size then v else l.getD i undef:=by
 by_cases h:d=i
 ·subst h;by_cases hd:d<l.size
  ·simp [alh,hd]
  ·simp [alh,hd]
 ·have h':¬i=d:=λe=>h e.symm
  simp [kY,Zn h,h']
theorem PY{d:Nat}{o:Option qq}{p:qq}(h:lE d o=δ p):o=δ p/\∀g w,p.tag=δ (g,w)->g≠d:=by
 cases o with
 |none=>simp [lE]at h
 |some q=>
  simp only[lE]at h;cases hq:q.tag with
  |none=>rw[hq]at h;simp at h;subst h;exact⟨rfl,λg w e=>by rw[hq]at e;cases e⟩
  |some gw=>
   obtain⟨g,w⟩:=gw;rw[hq]at h;simp only at h;by_cases e:g=d
   ·simp [e]at h
   ·have:(g==d)=ξ:=by simpa using e
    rw[this]at h;simp at h;subst h;exact⟨rfl,λg' w' e'=>by rw[hq]at e';injection e' with e';injection e' with e1 e2;subst e1;exact e⟩
theorem LD{d:Nat}{v:Value}{tag:Option (Nat×Bool)}(h:∀g w,tag=δ (g,w)->g≠d)(k:nI (a.put (δ d) v) tag):nI a tag:=by
 cases tag with
 |none=>trivial
 |some gw=>obtain⟨g,want⟩:=gw;have hg:=h g want rfl;simp only[nI,ak2]at k ⊢;rw[A6]at k;rwa[aD (λe=>hg e.1)]at k
theorem St.put(h:St X z s a w E pb)(d:Option Nat){av:U}{v:Value}(hr:an (ctx z w E pb) av v):St X z (s.put X d av) (a.put d v) w E pb:=by
 cases d with
 |none=>exact h
 |some d=>
  refine⟨by simp [akP,ak2,h.len],by simp [akP,h.nO],λi x hi=>?_,λi cs hi=>?_,λt p hp ht=>?_,h.priv,h.inj,h.heap,h.defers,h.out,h.nm⟩
  ·simp only[akP,ak2]at hi ⊢;rw[A6];rw[gG]at hi;by_cases e:d=i
   ·subst e;rw[aE rfl]at hi;by_cases hd:d<s.sl.length
    ·rw[aE hd]at hi;rw[aE ⟨rfl,by rw[h.len];exact hd⟩];injection hi with hi
     subst hi;cases X.L.contains d
     ·exact Slot.of hr
     ·exact trivial
    ·rw[aD hd]at hi;cases hi
   ·rw[aD e]at hi;rw[aD (λk=>e k.1.symm)];exact h.slot i x hi
  ·simp only[akP]at hi;rw[gG]at hi;by_cases e:d=i
   ·subst e;rw[aE rfl]at hi;split at hi
    ·injection hi with hi
     cases hL:X.L.contains d
     ·rw[hL]at hi;simp at hi;subst hi;simp [an]at hr
     ·rfl
    ·cases hi
   ·rw[aD e]at hi;exact h.box i cs hi
  ·simp only[akP]at hp;by_cases e:t=d
   ·subst e;simp at hp
   ·have:(t==d)=ξ:=by simpa using e
    rw[this]at hp;simp at hp;obtain⟨hp,hg⟩:=PY hp;obtain⟨b,h1,h2⟩:=h.kC t p hp (LD hg ht);refine⟨b,h1,?_⟩;simp only[ak2];rw[A6,aD (λk=>e k.1)];exact h2
theorem St.Nc(h:St X z s a w E pb)(d:Option Nat){sl off:Nat}{tag:Option (Nat×Bool)}{v:Value}(hv:nI a tag->∃b,pb sl=δ b/\v=.pointer (δ ⟨b,off,μ⟩)):
  St X z (s.kC X d sl off tag) (a.put d v) w E pb:=by
 cases d with
 |none=>exact h
 |some d=>
  have hput:=h.put (δ d) (av:=.undef) (v:=v) (by simp [an])
  have jU:(s.put X (δ d) .undef).sl=(s.kC X (δ d) sl off tag).sl:=by simp only[akP,AS.kC];cases X.L.contains d<;>rfl
  refine⟨by rw[<-jU];exact hput.len,by rw[<-jU];exact hput.nO,by rw[<-jU];exact hput.slot,by rw[<-jU];exact hput.box,λt p hp ht=>?_,h.priv,h.inj,h.heap,h.defers,h.out,h.nm⟩;by_cases e:t=d
  ·subst e;simp only[AS.kC]at hp;simp only[beq_self_eq_true,bG]at hp;cases hL:(X.L.contains t||!akK t X.n)
   ·rw[hL]at hp;simp only[aZ]at hp
    have hlt:t<a.tmps.size:=by rw[h.len,h.nO];simp only[iW,Xq]at hL;exact Nat.blt_eq.mp hL.2
    have key:p.slot=sl/\p.off=off/\nI a tag:=by
     cases tag with
     |none=>simp at hp;subst hp;exact⟨rfl,rfl,trivial⟩
     |some gw=>
      obtain⟨g,want⟩:=gw;simp only at hp;by_cases eg:g=t
      ·subst eg;simp at hp
      ·have:(g==t)=ξ:=by simpa using eg
       rw[this]at hp;simp at hp;subst hp;exact⟨rfl,rfl,LD (d:=t) (v:=v) (λg' w' e'=>by injection e' with e';injection e' with e1;subst e1;exact eg) ht⟩
    obtain⟨k1,k2,k3⟩:=key;obtain⟨b,h1,h2⟩:=hv k3;refine⟨b,by rw[k1];exact h1,?_⟩;simp only[ak2];rw[A6,aE ⟨rfl,hlt⟩,k2];exact h2
   ·rw[hL]at hp;simp at hp
  ·have hp':(s.put X (δ d) .undef).A t=δ p:=by
    simp only[AS.kC]at hp;simp only[akP];have:(t==d)=ξ:=by simpa using e
    rw[this]at hp ⊢;exact hp
   exact hput.kC t p hp' ht
def _root_.Go.World.dn(w:World)(b:Nat)(o:Obj):World:={w with heap:=w.heap.setIfInBounds b o}
theorem Ri(b k:Nat)(o:Obj):(w.dn b o).heap[k]? =if b=k/\b<w.heap.size then δ o else w.heap[k]? :=by
 simp only[World.dn,Zo];by_cases h:b=k
 ·subst h;by_cases hb:b<w.heap.size
  ·simp [hb]
  ·simp [hb]
 ·simp [h]
theorem rT{b:Nat}(o:Obj)(hb:b<w.heap.size):(w.dn b o).heap[b]? =δ o:=by rw[Ri,aE ⟨rfl,hb⟩]
theorem uU{b k:Nat}(o:Obj)(h:b≠k):(w.dn b o).heap[k]? =w.heap[k]? :=by rw[Ri,aD (λe=>h e.1)]
theorem yP(b:Nat)(o:Obj):(w.dn b o).heap.size=w.heap.size:=by simp [World.dn]
theorem LV{b:Nat}{o:Obj}(hX:(ctx z w E pb).X b):Ext (ctx z w E pb) (ctx z (w.dn b o) E pb):=
 ⟨by simp [ctx,yP],λk hk hn=>⟨uU o (λe=>hn (e▸hX)),hn⟩,λi p h=>⟨p,h,.inl rfl⟩,rfl⟩
theorem tJ{w:World}{b off:Nat}{arr:Array Value}{t:TypeId}{fz:Nat×Nat}(h:w.heap[b]? =δ (.cells arr t fz)):w.cell? ⟨b,off,μ⟩=arr[off]? :=by simp [ZV,h]
theorem aT.uK{c:RC}{b:Nat}{arr:Array Value}{t:TypeId}{fz:Nat×Nat}(h:c.w.heap[b]? =δ (.cells arr t fz)){cs:List U}{off:Nat}{vs:List Value}
  (hr:aF c cs vs) (ho:∀x∈vs,cx x=θ) (hv:∀i,i<vs.length->arr[off+i]? =vs[i]?):aT c b off cs:=by
 refine alS λi a hi=>?_
 obtain⟨v,h1,h2⟩:=hr.nth hi;have hl:i<vs.length:=(cL.1 h1).1;exact⟨v,by rw[tJ h,hv i hl,h1],ho v (cZ h1),h2⟩
theorem aT.ID{c:RC}{b:Nat}:∀{cs:List U}{off:Nat},aT c b off cs->∃vs,aF c cs vs/\(∀x∈vs,cx x=θ)/\∀j v,vs[j]? =δ v->c.w.cell? ⟨b,off+j,μ⟩=δ v
 |[],off,_=>⟨[],by simp [aF],by simp,by simp⟩
 |x::l,off,h=>by
  simp only[aT]at h;obtain⟨⟨v,h1,h2,h3⟩,h4⟩:=h;obtain⟨vs,k1,k2,k3⟩:=aT.ID h4;refine⟨v::vs,by simp only[aF];exact⟨v,vs,rfl,h3,k1⟩,by simpa [h2]using k2,λj u hj=>?_⟩;cases j with
  |zero=>simp at hj;subst hj;exact h1
  |succ j=>simp at hj;have:=k3 j u hj;rwa[show off+1+j=off+(j+1) by omega]at this
theorem St.lK(h:St X z s a w E pb)(d:Nat)(hL:X.L.contains d=θ){cs:List U}{vs:List Value}(t:TypeId)(hr:aF (ctx z w E pb) cs vs)(ho:∀x∈vs,cx x=θ):
  ∃bD,St X z (s.lK d cs) (a.put (δ d) (.pointer (δ ⟨w.heap.size,0,μ⟩))) (w.alloc (.cells vs.toArray t)) E bD:=by
 have g:Below w.heap.size w (w.alloc (.cells vs.toArray t)):=(Below.refl _ _).alloc (bL _) _;have h1:=h.grow g;obtain⟨bD,NF⟩:∃bD:Nat->Option Nat,bD=λi=>if i=d then δ w.heap.size else pb i:=⟨_,rfl⟩
 have e1:∀i,i≠d->bD i=pb i:=λi hi=>by rw[NF];simp [hi]
 have e2:bD d=δ w.heap.size:=by rw[NF];simp
 clear NF
 have hx:Ext (ctx z w E pb) (ctx z (w.alloc (.cells vs.toArray t)) E bD):=by
  refine⟨g.size,λb hb hn=>⟨g.block b hb,?_⟩,λi p h=>⟨p,h,.inl rfl⟩,rfl⟩;rintro(k|k|⟨i,k⟩)
  ·exact hn (.inl k)
  ·exact hn (.inr (.inl k))
  ·by_cases e:i=d
   ·subst e;rw[e2]at k;injection k with k;simp [ctx]at hb;omega
   ·rw[e1 i e]at k;exact hn (.inr (.inr ⟨i,k⟩))
 have rC:vF (ctx z (w.alloc (.cells vs.toArray t)) E bD) w.heap.size cs:=by have hb:(w.alloc (.cells vs.toArray t)).heap[w.heap.size]? =δ (.cells vs.toArray t (0,0)):=(ZJ w _).1;exact⟨⟨vs.toArray,t,hb,by simp [hr.length]⟩,aT.uK hb (ZD hx _ _ hr) ho (λi hi=>by simp)⟩
 refine⟨bD,by simp [AS.lK,ak2,h.len],by simp [AS.lK,h.nO],λi x hi=>?_,λi cs' hi=>?_,λt' p hp ht=>?_,λi b hb=>?_,λi j b hi hj=>?_,h.heap.mono hx rfl λp hp=>g.block _ (h.heap.lt hp),h.defers,h.out.grow g,h.nm⟩
 ·simp only[AS.lK,ak2]at hi ⊢;rw[A6];rw[gG]at hi;by_cases e:d=i
  ·subst e;rw[aE rfl]at hi;by_cases hd:d<s.sl.length
   ·rw[aE hd]at hi;rw[aE ⟨rfl,by rw[h.len];exact hd⟩];injection hi with hi
    subst hi;exact⟨_,e2,rfl,rC⟩
   ·rw[aD hd]at hi;cases hi
  ·rw[aD e]at hi;rw[aD (λk=>e k.1.symm)];have k:=h.slot i x hi;cases x with
   |lbx cs'=>obtain⟨b,k1,k2,k3⟩:=k;exact⟨b,by rw[e1 i (λe'=>e e'.symm)];exact k1,k2,k3.mono hx (g.block b (h.priv i b k1).2.1)⟩
   |_=>exact Yz hx _ _ k
 ·simp only[AS.lK]at hi;rw[gG]at hi;by_cases e:d=i
  ·subst e;exact hL
  ·rw[aD e]at hi;exact h.box i cs' hi
 ·simp only[AS.lK]at hp;by_cases e:t'=d
  ·subst e;simp at hp
  ·have:(t'==d)=ξ:=by simpa using e
   rw[this]at hp;simp only[aZ]at hp;cases hk:lE d (s.A t')with
   |none=>rw[hk]at hp;simp at hp
   |some q=>
    rw[hk]at hp;simp only at hp;by_cases eq:q.slot=d
    ·simp [eq]at hp
    ·have:(q.slot==d)=ξ:=by simpa using eq
     rw[this]at hp;simp at hp;subst hp;obtain⟨hp,hg⟩:=PY hk;obtain⟨b,k1,k2⟩:=h.kC t' q hp (LD hg ht);refine⟨b,by rw[e1 _ eq];exact k1,?_⟩;simp only[ak2];rw[A6,aD (λk=>e k.1)];exact k2
 ·by_cases e:i=d
  ·subst e;rw[e2]at hb;injection hb with hb;subst hb
   exact⟨h.out.size,by simp,λp hp=>by have:=h.heap.lt hp;simp only[ctx]at this;omega⟩
  ·rw[e1 i e]at hb;exact⟨(h.priv i b hb).1,by have:=(h.priv i b hb).2.1;simp;omega,(h.priv i b hb).2.2⟩
 ·by_cases ei:i=d
  ·by_cases ej:j=d
   ·rw[ei,ej]
   ·subst ei;rw[e2]at hi;rw[e1 j ej]at hj;injection hi with hi;have:=(h.priv j b hj).2.1;omega
  ·by_cases ej:j=d
   ·subst ej;rw[e2]at hj;rw[e1 i ei]at hi;injection hj with hj;have:=(h.priv i b hi).2.1;omega
   ·rw[e1 i ei]at hi;rw[e1 j ej]at hj;exact h.inj i j b hi hj
theorem St.afU(h:St X z s a w E pb){i b:Nat}(hb:pb i=δ b)(hi:∃cs0,s.sl[i]? =δ (.lbx cs0)){cs:List U}{arr:Array Value}{t:TypeId}
  (hr:aF (ctx z w E pb) cs arr.toList) (ho:∀x∈arr.toList,cx x=θ):St X z ⟨s.sl.set i (.lbx cs),s.A,s.σ⟩ a (w.dn b (.cells arr t (0,0))) E pb:=by
 have hlt:=(h.priv i b hb).2.1;have hX:(ctx z w E pb).X b:=.inr (.inr ⟨i,hb⟩);have hx:Ext (ctx z w E pb) (ctx z (w.dn b (.cells arr t (0,0))) E pb):=LV hX
 have rC:vF (ctx z (w.dn b (.cells arr t (0,0))) E pb) b cs:=by have hh:=rT (w:=w) (.cells arr t (0,0)) hlt;exact⟨⟨arr,t,hh,by have:=hr.length;simpa using this.symm⟩,aT.uK hh (ZD hx _ _ hr) ho (λj hj=>by simp)⟩
 have afA:∀p∈E,(w.dn b (.cells arr t (0,0))).heap[p.b]? =w.heap[p.b]? :=λp hp=>uU _ (λe=>(h.priv i b hb).2.2 p hp e.symm)
 obtain⟨cs0,hi⟩:=hi;have hil:i<s.sl.length:=(cL.1 hi).1;refine⟨by simp [h.len],by simp [h.nO],λj x hj=>?_,λj cs' hj=>?_,h.kC,λj b' hj=>⟨(h.priv j b' hj).1,by rw[yP];exact(h.priv j b' hj).2.1,(h.priv j b' hj).2.2⟩,h.inj,h.heap.mono hx rfl afA,h.defers,?_,h.nm⟩
 ·simp only at hj;rw[gG]at hj;by_cases e:i=j
  ·subst e;rw[aE rfl,aE hil]at hj;injection hj with hj;subst hj
   have k:=h.slot i _ hi;obtain⟨b',k1,k2,_⟩:=k;rw[hb]at k1;injection k1 with k1;subst k1
   exact⟨b,hb,k2,rC⟩
  ·rw[aD e]at hj;have k:=h.slot j x hj;cases x with
   |lbx cs'=>obtain⟨b',k1,k2,k3⟩:=k;exact⟨b',k1,k2,k3.mono hx (uU _ (λe'=>e (h.inj i j b hb (e'▸k1))))⟩
   |_=>exact Yz hx _ _ k
 ·simp only at hj;rw[gG]at hj;by_cases e:i=j
  ·subst e;exact h.box i cs0 hi
  ·rw[aD e]at hj;exact h.box j cs' hj
 ·have o:=h.out;exact⟨o.os,o.tape,o.output,by rw[yP];exact o.size,λk hk hp=>by rw[uU _ (by have:=(h.priv i b hb).1;omega)];exact o.stay k hk hp,o.fresh',o.env,o.lt,o.mine⟩
theorem St.vB(h:St X z s a w E pb)(o:Obj)(blk:bH)(p:Pl)(hp:p.b=w.heap.size)
  (hk:Ext (ctx z w E pb) (ctx z (w.alloc o) (E++[p]) pb)->mF (ctx z (w.alloc o) (E++[p]) pb) p blk):St X z (s.heap (s.σ++[blk])) a (w.alloc o) (E++[p]) pb:=by
 have g:Below w.heap.size w (w.alloc o):=(Below.refl _ _).alloc (bL _) _
 have hx:Ext (ctx z w E pb) (ctx z (w.alloc o) (E++[p]) pb):=by
  refine⟨g.size,λb hb hn=>⟨g.block b hb,?_⟩,λi q hq=>⟨q,?_,.inl rfl⟩,rfl⟩
  ·rintro(k|⟨q,hq,k⟩|k)
   ·exact hn (.inl k)
   ·rcases gV.1 hq with hq|hq
    ·exact hn (.inr (.inl ⟨q,hq,k⟩))
    ·simp at hq;subst hq;simp [ctx]at hb;omega
   ·exact hn (.inr (.inr k))
  ·simp only[ctx]at hq ⊢;rw[iV (cL.1 hq).1];exact hq
 have hlen:=h.heap.len;simp only[ctx]at hlen;refine h.ext hx (λi b hb=>⟨hb,g.block b (h.priv i b hb).2.1⟩) (λi b hb=>⟨(h.priv i b hb).1,by have:=(h.priv i b hb).2.1;simp;omega,λq hq=>?_⟩) h.inj ⟨by simp [ctx,hlen],λi j q r hq hr he=>?_,λi q x hq cU=>?_⟩ ?_
 ·rcases gV.1 hq with hq|hq
  ·exact(h.priv i b hb).2.2 q hq
  ·simp at hq;subst hq;have:=(h.priv i b hb).2.1;omega
 ·simp only[ctx]at hq hr
  have key:∀(i:Nat)(q:Pl),(E++[p])[i]? =δ q->(i<E.length/\E[i]? =δ q)\/(i=E.length/\q=p):=λi q hq=>by
   by_cases hi:i<E.length
   ·rw[iV hi]at hq;exact .inl ⟨hi,hq⟩
   ·rw[jL (by omega)]at hq
    have:i-E.length=0:=by
     rcases Nat.eq_zero_or_pos (i-E.length)with e|e
     ·exact e
     ·rw[lP (by simp;omega)]at hq;cases hq
    rw[this]at hq;simp at hq;exact .inr ⟨by omega,hq.symm⟩
  rcases key i q hq with⟨hi,yf⟩|⟨hi,eq⟩<;>rcases key j r hr with⟨hj,hr2⟩|⟨hj,er⟩
  ·exact h.heap.inj i j q r yf hr2 he
  ·have:=h.heap.lt (p:=q) (cZ yf);simp only[ctx]at this;rw[er]at he;omega
  ·have:=h.heap.lt (p:=r) (cZ hr2);simp only[ctx]at this;rw[eq]at he;omega
  ·omega
 ·simp only[ctx]at hq;by_cases hi:i<E.length
  ·rw[iV hi]at hq;rw[iV (by omega)]at cU;exact(h.heap.blk i q x hq cU).mono hx (g.block _ (h.heap.lt (p:=q) (cZ hq)))
  ·rw[jL (by omega)]at hq cU
   have:i-E.length=0:=by
    rcases Nat.eq_zero_or_pos (i-E.length)with e|e
    ·exact e
    ·rw[lP (by simp;omega)]at hq;cases hq
   rw[this]at hq;rw[show i-s.σ.length=0 by omega]at cU;simp at hq cU;subst hq;subst cU;exact hk hx
 ·have o':=h.out.grow g;refine⟨o'.os,o'.tape,o'.output,o'.size,o'.stay,λi q hq=>?_,λi q hq=>?_,o'.lt,o'.mine⟩
  ·by_cases hi:i<E.length
   ·rw[iV hi]at hq;exact o'.fresh' i q hq
   ·rw[jL (by omega)]at hq
    have:q=p:=by have:=cZ hq;simpa using this
    subst this;exact .inl (by rw[hp];exact h.out.size)
  ·obtain⟨p',k1,k2⟩:=o'.env i q hq;exact⟨p',by rw[iV (cL.1 k1).1];exact k1,k2⟩
theorem St.ug(h:St X z s a w E pb){i:Nat}{p:Pl}(hi:E[i]? =δ p)(o:Obj)(blk:bH)
  (hk:Ext (ctx z w E pb) (ctx z (w.dn p.b o) E pb)->mF (ctx z (w.dn p.b o) E pb) p blk):St X z (s.heap (s.σ.set i blk)) a (w.dn p.b o) E pb:=by
 have hm:p∈E:=cZ hi;have hX:(ctx z w E pb).X p.b:=.inr (.inl ⟨p,hm,rfl⟩);have hx:Ext (ctx z w E pb) (ctx z (w.dn p.b o) E pb):=LV hX
 refine h.ext hx (λj b hb=>⟨hb,uU _ (λe=>(h.priv j b hb).2.2 p hm e)⟩) (λj b hb=>⟨(h.priv j b hb).1,by rw[yP];exact(h.priv j b hb).2.1,(h.priv j b hb).2.2⟩) h.inj
  ⟨by have:=h.heap.len;simpa [ctx]using this,h.heap.inj,λj q x hq cU=>?_⟩ ?_
 ·by_cases e:i=j
  ·subst e;simp only[ctx]at hq;rw[hi]at hq;injection hq with hq;subst hq
   rw[gG]at cU;rw[aE rfl]at cU;split at cU
   ·injection cU with cU;subst cU;exact hk hx
   ·cases cU
  ·rw[gG,aD e]at cU;exact(h.heap.blk j q x hq cU).mono hx (uU _ (λe'=>e (h.heap.inj i j p q hi hq e')))
 ·have o':=h.out;refine⟨o'.os,o'.tape,o'.output,by rw[yP];exact o'.size,λk hk hp=>?_,o'.fresh',o'.env,o'.lt,o'.mine⟩;rw[uU]
  ·exact o'.stay k hk hp
  ·rintro rfl;rcases o'.fresh p hm with e|⟨q,hq,e⟩
   ·omega
   ·exact hp q hq e
end
end
section
open Go.RowKit
theorem Lg(c:RC)(v:Value):an c (xw v) v:=by unfold xw;split<;>simp [an]
theorem Rl(c:RC)(v:Value):an c (qZ v) v:=by
 unfold qZ;split
 ·rename_i cs;cases h:cs.toList.all cx
  ·simp [an]
  ·simp only[bG,an];refine⟨cs,rfl,?_,nM.1 h⟩;have:=aF.map (c:=c) xw id cs.toList (λx _=>Lg c x);simpa using this
 ·exact Lg c _
section
variable {X : Fx} {z : Z} {s : AS} {a : Act} {w w' : World} {E : List Pl} {pb : Nat -> Option Nat}
theorem dD(h:St X z s a w E pb)(x:Operand):an (ctx z w E pb) (ev X s x) (a.eval x):=by
 cases x with
 |tmp t=>
  simp only[ev,Act.eval];cases hL:X.L.contains t
  ·simp only[aZ];by_cases ht:t<s.sl.length
   ·have hs:s.sl[t]? =δ s.sl[t]:=by simp [ht]
    have e:s.sl.getD t .undef=s.sl[t]:=by simp [ZC,ht]
    rw[e];refine(h.slot t _ hs).rep λcs k=>?_
    have:=h.box t cs (by rw[hs,k]);rw[hL]at this;cases this
   ·have e:s.sl.getD t .undef=.undef:=by simp [ZC,Nat.le_of_not_lt ht]
    rw[e];simp [an]
  ·simp [an]
 |const v=>exact Rl _ v
 |global g=>simp [ev,an]
 |func f=>simp only[ev,Act.eval,an];exact⟨f,#[],rfl,by rw[h.nm];rfl,by simp [aF]⟩
theorem Bd(h:St X z s a w E pb)(xs:List Operand):aF (ctx z w E pb) (xs.map (ev X s)) (xs.map a.eval):=aF.map _ _ xs λx _=>dD h x
end
section
variable {P : Program} {c : RC} (w : World)
theorem Sy{t:TypeId}{d:TypeDesc}(h:P.underlying t=δ d):∃i,P.info? t=δ i:=by
 unfold Program.underlying at h;split at h
 ·rename_i u e;exact⟨_,by assumption⟩
 ·rename_i i e;exact⟨_,by assumption⟩
 ·cases h
theorem rU{t:TypeId}{i:TypeInfo}(h:P.info? t=δ i):(typeInfo t).run P w=.ok i w:=by simp [typeInfo,h]
theorem CA{t:TypeId}{i:TypeInfo}(h:P.info? t=δ i):(sizeOf t).run P w=.ok (P.cellsOf t) w:=by simp [sizeOf,rU w h,alF,h]
theorem KF{t:TypeId}{d:TypeDesc}(h:P.underlying t=δ d):(sizeOf t).run P w=.ok (P.cellsOf t) w:=by obtain⟨i,hi⟩:=Sy h;exact CA w hi
theorem QM(X:Fx){t:TypeId}{d:TypeDesc}(h:X.P.underlying t=δ d):(isAgg t).run X.P w=.ok (yV X t) w:=by unfold isAgg;simp only[l5,run_underlying h,Ω];unfold yV;rw[h];cases d<;>rfl
theorem Kq{av x:U}{v:Value}(h:Yh av=δ x)(r:an c av v):x=av/\cx v=θ:=by
 cases av<;>simp only[Yh]at h<;>first|(cases h;done)|skip
 all_goals
  injection h with h
  refine⟨h.symm,?_⟩;simp only[an]at r
 case int=>subst r;rfl
 case bool=>subst r;rfl
 case str=>subst r;rfl
 case fm=>obtain⟨_,rfl,_⟩:=r;rfl
 case sl=>obtain⟨_,_,rfl,_⟩:=r;rfl
 case bA=>subst r;rfl
 case ez=>obtain⟨_,rfl⟩:=r;rfl
 case rp=>obtain⟨_,_,rfl,_⟩:=r;rfl
 case np=>subst r;rfl
 case op=>obtain⟨_,_,_,rfl⟩:=r;rfl
 case oe=>obtain⟨_,_,_,_,_,rfl,_⟩:=r;rfl
 case os=>obtain⟨_,_,_,_,_,_,rfl,_⟩:=r;rfl
 case om=>obtain⟨_,_,_,rfl⟩:=r;rfl
 case nm=>subst r;rfl
 case fn=>obtain⟨_,_,rfl,_⟩:=r;rfl
 case uI=>subst r;rfl
theorem abG{v:Value}(h:cx v=θ):v.cells=#[v]:=by cases v<;>first|rfl|(simp [cx]at h)
theorem AR(X:Fx){t:TypeId}{av:U}{cs:List U}{v:Value}(h:uf X t av=δ cs)(r:an c av v):
  aF c cs v.cells.toList/\(∀x∈v.cells.toList,cx x=θ)/\v.cells.size=X.P.cellsOf t/\∃d,X.P.underlying t=δ d:=by
 unfold uf at h;cases hd:X.P.underlying t with
 |none=>rw[hd]at h;cases h
 |some d=>
  rw[hd]at h;simp only at h;cases ha:yV X t
  ·rw[ha]at h;simp only[aZ]at h;cases hc:(X.P.cellsOf t==1)
   ·rw[hc]at h;cases h
   ·rw[hc]at h;simp only[bG]at h;obtain⟨x,h1,h2⟩:=bg.1 h;injection h2 with h2
    obtain⟨e,h3⟩:=Kq h1 r;subst h2;subst e;rw[abG h3];exact⟨by simpa using aF.single r,by simpa using h3,by simpa using(beq_iff_eq.1 hc).symm,d,rfl⟩
  ·rw[ha]at h;simp only[bG]at h;cases av<;>simp only[j0]at h<;>first|(cases h;done)|skip
   rename_i l;split at h
   ·injection h with h
    subst h;simp only[an]at r;obtain⟨vs,rfl,r1,r2⟩:=r;refine⟨r1,r2,?_,d,rfl⟩;have:=r1.length;simp only[Value.cells];rw[<-Xu,<-this];assumption
   ·cases h
theorem lB(b o n:Nat):(⟨b,o,μ⟩:Addr).add n=⟨b,o+n,μ⟩:=by
 unfold Addr.add;split
 ·subst_vars;rfl
 ·rfl
theorem F6(X:Fx)(hw:c.w=w){t:TypeId}{b off o:Nat}{cs:List U}{av:U}(r:aT c b off cs)(h:vJ X t o cs=δ av):
  ∃v,(loadVar t ⟨b,off+o,μ⟩).run X.P w=.ok v w/\an c av v:=by
 unfold vJ at h;cases hd:X.P.underlying t with
 |none=>rw[hd]at h;cases h
 |some d=>
  rw[hd]at h;simp only at h;unfold loadVar;simp only[l5,QM w X hd,Ω];cases ha:yV X t
  ·rw[ha]at h;simp only[aZ,Ψ]at h;obtain⟨x,h1,h2⟩:=bg.1 h;obtain⟨v,k1,k2,k3⟩:=XS r h1;obtain⟨e,_⟩:=Kq h2 k3;subst e;refine⟨v,?_,k3⟩;rw[hw]at k1;simp [run_load,k1]
  ·rw[ha]at h;simp only[bG,ZY]at h;split at h
   ·rename_i hle;injection h with h
    subst h;obtain⟨vs,k1,k2,k3⟩:=aT.ID ((r.drop o).take (X.P.cellsOf t));have hl:vs.length=X.P.cellsOf t:=by rw[<-k1.length];simp;omega
    refine⟨.agg vs.toArray,?_,by simp only[an];exact⟨vs.toArray,rfl,by simpa using k1,by simpa using k2⟩⟩;have hrun:=run_loadCells_list (P:=X.P) w ⟨b,off+o,μ⟩ vs (λj v hj=>by rw[lB];have:=k3 j v hj;rwa[hw]at this);rw[hl]at hrun;simp [KF w hd,hrun]
   ·cases h
theorem abc(X:Fx){t:TypeId}{o:Nat}{cs:List U}{av:U}{vs:Array Value}(r:aF c cs vs.toList)(k:∀x∈vs.toList,cx x=θ)(h:vJ X t o cs=δ av):
  ∃v,(part t vs o).run X.P w=.ok v w/\an c av v:=by
 unfold vJ at h;cases hd:X.P.underlying t with
 |none=>rw[hd]at h;cases h
 |some d=>
  rw[hd]at h;simp only at h;unfold part;simp only[l5,QM w X hd,Ω];cases ha:yV X t
  ·rw[ha]at h;simp only[aZ,Ψ]at h;obtain⟨x,h1,h2⟩:=bg.1 h;obtain⟨v,k1,k3⟩:=r.nth h1;obtain⟨e,_⟩:=Kq h2 k3;subst e;refine⟨v,?_,k3⟩;have:vs[o]? =δ v:=by rw[<-Zq];exact k1
   simp [this]
  ·rw[ha]at h;simp only[bG,ZY]at h;split at h
   ·rename_i hle;injection h with h
    subst h;refine⟨.agg (vs.extract o (o+X.P.cellsOf t)),by simp [KF w hd],?_⟩;simp only[an];have e:(vs.extract o (o+X.P.cellsOf t)).toList=(vs.toList.drop o).take (X.P.cellsOf t):=by simp [Array.toList_extract,al6]
    refine⟨_,rfl,by rw[e];exact(r.drop o).take _,?_⟩;rw[e];exact λx hx=>k x (List.mem_of_mem_drop (xG hx))
   ·cases h
end
section
variable {P : Program} {c : RC} (w : World)
theorem Dt(a b:ByteArray):(a==b)=(a.toList==b.toList):=beq_toListBytes a b
theorem ad2{t:TypeId}{x y av:U}{v u:Value}(h:u0 x y=δ av)(r:an c x v)(q:an c y u):∃k,(binOp .add t v u).run P w=.ok k w/\an c av k:=by
 unfold u0 at h;split at h
 ·simp only[an]at r q;subst r;subst q;split at h
  ·injection h with h;subst h;subst_vars
   exact⟨_,by simp [binOp,alz];rfl,by simp [an]⟩
  ·cases h
 ·simp only[an]at r q;subst r;subst q;split at h
  ·rename_i a b hs;injection h with h;subst h
   refine⟨.string (a++b),?_,by simp [an]⟩;have:¬((a.size+b.size:Nat):Int)>ε.max:=by rw[IntKind.max_i64];omega
   simp only[binOp,alA,aD this];rfl
  ·cases h
 ·cases h
theorem A8{f:IntKind->Int->Int->Option U}{op:BinOp}{t:TypeId}{x y av:U}{v u:Value}
  (hf:∀k a b av,f k a b=δ av->∃n,(binOp op t (.int k a) (.int k b)).run P w=.ok n w/\an c av n)
  (h:(match x,y with|.int k a,.int k' b=>if k=k' then f k a b else μ|_,_=>μ)=δ av) (r:an c x v) (q:an c y u):∃k,(binOp op t v u).run P w=.ok k w/\an c av k:=by
 split at h
 ·simp only[an]at r q;subst r;subst q;split at h
  ·subst_vars;exact hf _ _ _ _ h
  ·cases h
 ·cases h
theorem afb{t:TypeId}{x y av:U}{v u:Value}(h:Yj x y=δ av)(r:an c x v)(q:an c y u):∃k,(binOp .sub t v u).run P w=.ok k w/\an c av k:=
 A8 w (f:=λk a b=>δ (.int k (k.wrap (a-b)))) (λk a b av e=>by injection e with e;subst e;exact⟨_,by simp [binOp,alz];rfl,by simp [an]⟩) h r q
theorem aeH{t:TypeId}{x y av:U}{v u:Value}(h:akW x y=δ av)(r:an c x v)(q:an c y u):∃k,(binOp .mul t v u).run P w=.ok k w/\an c av k:=
 A8 w (f:=λk a b=>δ (.int k (k.wrap (a*b)))) (λk a b av e=>by injection e with e;subst e;exact⟨_,by simp [binOp,alz];rfl,by simp [an]⟩) h r q
theorem aeE{t:TypeId}{x y av:U}{v u:Value}(h:Y3 x y=δ av)(r:an c x v)(q:an c y u):∃k,(binOp .lss t v u).run P w=.ok k w/\an c av k:=by
 unfold Y3 at h;split at h
 ·exact A8 w (x:=.int _ _) (y:=.int _ _) (f:=λk a b=>δ (.bool (decide (a<b)))) (λk a b av e=>by injection e with e;subst e;exact⟨_,by simp [binOp,amg];rfl,by simp [an]⟩) h r q
 ·simp only[an]at r q;subst r;subst q;injection h with h;subst h
  exact⟨.bool _,by simp only[binOp,alA];rfl,by simp [an]⟩
 ·cases h
theorem aeD{t:TypeId}{x y av:U}{v u:Value}(h:A.leq x y=δ av)(r:an c x v)(q:an c y u):∃k,(binOp .leq t v u).run P w=.ok k w/\an c av k:=
 A8 w (f:=λk a b=>δ (.bool (decide (a<=b)))) (λk a b av e=>by injection e with e;subst e;exact⟨_,by simp [binOp,amg];rfl,by simp [an]⟩) h r q
theorem aex{t:TypeId}{x y av:U}{v u:Value}(h:XW x y=δ av)(r:an c x v)(q:an c y u):∃k,(binOp .gtr t v u).run P w=.ok k w/\an c av k:=
 A8 w (f:=λk a b=>δ (.bool (decide (a>b)))) (λk a b av e=>by injection e with e;subst e;exact⟨.bool (decide (a>b)),by simp [binOp,amg],by simp [an]⟩) h r q
theorem aew{t:TypeId}{x y av:U}{v u:Value}(h:A.geq x y=δ av)(r:an c x v)(q:an c y u):∃k,(binOp .geq t v u).run P w=.ok k w/\an c av k:=
 A8 w (f:=λk a b=>δ (.bool (decide (a>=b)))) (λk a b av e=>by injection e with e;subst e;exact⟨.bool (decide (a>=b)),by simp [binOp,amg],by simp [an]⟩) h r q
theorem aeW{t:TypeId}{x y av:U}{v u:Value}(h:A.quo x y=δ av)(r:an c x v)(q:an c y u):∃k,(binOp .quo t v u).run P w=.ok k w/\an c av k:=by
 unfold A.quo at h;split at h
 ·simp only[an]at r q;subst r;subst q;split at h
  ·rename_i hk;obtain⟨rfl,hb⟩:=hk;injection h with h;subst h
   exact⟨_,by simp [binOp,Op.intDiv,hb];rfl,by simp [an]⟩
  ·cases h
 ·cases h
theorem aeZ{t:TypeId}{x y av:U}{v u:Value}(h:A.rem x y=δ av)(r:an c x v)(q:an c y u):∃k,(binOp .rem t v u).run P w=.ok k w/\an c av k:=by
 unfold A.rem at h;split at h
 ·simp only[an]at r q;subst r;subst q;split at h
  ·rename_i hk;obtain⟨rfl,hb⟩:=hk;injection h with h;subst h
   exact⟨_,by simp [binOp,Op.intDiv,hb];rfl,by simp [an]⟩
  ·cases h
 ·cases h
theorem ae6{t:TypeId}{x y av:U}{v u:Value}(h:A.shl x y=δ av)(r:an c x v)(q:an c y u):∃k,(binOp .shl t v u).run P w=.ok k w/\an c av k:=by
 unfold A.shl at h;split at h
 ·simp only[an]at r q;subst r;subst q;split at h
  ·cases h
  ·rename_i hb;injection h with h;subst h
   exact⟨_,by simp only[binOp,Op.shift,aD hb];rfl,by simp [an]⟩
 ·cases h
theorem ae7{t:TypeId}{x y av:U}{v u:Value}(h:A.shr x y=δ av)(r:an c x v)(q:an c y u):∃k,(binOp .shr t v u).run P w=.ok k w/\an c av k:=by
 unfold A.shr at h;split at h
 ·simp only[an]at r q;subst r;subst q;split at h
  ·cases h
  ·rename_i hb;injection h with h;subst h
   exact⟨_,by simp only[binOp,Op.shift,aD hb];rfl,by simp [an]⟩
 ·cases h
theorem Qh:∀{k1 k2:List Nat}{xs ys:List U}{b:Bool},XC (k1++k2) xs ys=δ b->∃p q,XC k1 (xs.take k1.length) (ys.take k1.length)=δ p/\XC k2 (xs.drop k1.length) (ys.drop k1.length)=δ q/\b=(p&&q)
 |[],k2,xs,ys,b,h=>⟨θ,b,by simp [XC],by simpa using h,by simp⟩
 |k::k1,k2,[],[],b,h=>by simp [XC]at h
 |k::k1,k2,[],_::_,b,h=>by simp [XC]at h
 |k::k1,k2,_::_,[],b,h=>by simp [XC]at h
 |k::k1,k2,x::xs,y::ys,b,h=>by simp only[kN,XC]at h;obtain⟨p,h1,h2⟩:=bg.1 h;obtain⟨q,h3,h4⟩:=cO.1 h2;obtain⟨p',q',k1',k2',k3'⟩:=Qh h3;exact⟨p&&p',q',by simp [XC,h1,k1'],by simpa using k2',by rw[<-h4,k3',Bool.and_assoc]⟩
def kL(P:Program)(t:TypeId)(vs:List Value):Value:=match P.underlying t with
 |some (.struct _)=>.agg vs.toArray
 |_=>vs.headD undef
theorem JZ{t:TypeId}{d:Nat}(hk:iP P (d+1) t=θ){vs:Array Value}{off:Nat}(h:off+P.cellsOf t<=vs.size):
  (part t vs off).run P w=.ok (kL P t ((vs.toList.drop off).take (P.cellsOf t))) w:=by
 unfold iP at hk
 have scalar:∀de,P.underlying t=δ de->(∀fs,de≠.struct fs)->(∀n e,de≠.array n e)->P.cellsOf t=1->(part t vs off).run P w=.ok (kL P t ((vs.toList.drop off).take (P.cellsOf t))) w:=by
  intro de hd h1 h2 h3
  have ha:(isAgg t).run P w=.ok ξ w:=by unfold isAgg;simp only[l5,run_underlying hd,Ω];cases de<;>first|rfl|exact absurd rfl (h1 _)|exact absurd rfl (h2 _ _)
  have e:kL P t ((vs.toList.drop off).take (P.cellsOf t))=vs[off]'(by omega):=by
   unfold kL;rw[hd]
   have:(vs.toList.drop off).take (P.cellsOf t)=[vs[off]'(by omega)]:=by
    have hlt:off<vs.toList.length:=by rw[Xu];omega
    rw[h3,List.drop_eq_getElem_cons hlt];simp
   rw[this];cases de<;>first|rfl|exact absurd rfl (h1 _)
  rw[e];unfold part;simp [ha,sI (show off<vs.size by omega)]
 cases hd:P.underlying t with
 |none=>rw[hd]at hk;cases hk
 |some de=>
  rw[hd]at hk;cases de<;>simp only at hk<;>first|(cases hk;done)|skip
  case bool=>exact scalar _ hd (by intro _ e;cases e) (by intro _ _ e;cases e) (by simpa using hk)
  case int=>exact scalar _ hd (by intro _ e;cases e) (by intro _ _ e;cases e) (by simpa using hk)
  case string=>exact scalar _ hd (by intro _ e;cases e) (by intro _ _ e;cases e) (by simpa using hk)
  case struct fs=>
   have ha:(isAgg t).run P w=.ok θ w:=by unfold isAgg;simp only[l5,run_underlying hd,Ω];rfl
   unfold part;simp only[l5,ha,Ω,if_true,KF w hd,Xe];congr 1;simp only[kL,hd];congr 1;apply jv.1;simp [Array.toList_extract,al6]
theorem Q4:∀{ks:List Nat}{xs ys:List U}{b:Bool},XC ks xs ys=δ b->xs.length=ks.length/\ys.length=ks.length
 |[],[],[],_,_=>⟨rfl,rfl⟩
 |[],[],_::_,_,h=>by simp [XC]at h
 |[],_::_,_,_,h=>by simp [XC]at h
 |_::_,[],_,_,h=>by simp [XC]at h
 |_::_,_::_,[],_,h=>by simp [XC]at h
 |k::ks,x::xs,y::ys,b,h=>by simp only[XC]at h;obtain⟨p,h1,h2⟩:=bg.1 h;obtain⟨q,h3,h4⟩:=cO.1 h2;have:=Q4 h3;simp [this]
theorem Gx{d:Nat}(ih:∀t,iP P d t=θ->(kinds P d t).length=P.cellsOf t):∀(fs:List Field)(off tot:Nat),uw (iP P d) P.cellsOf fs off=δ tot->off+(fs.flatMap λf=>kinds P d f.type).length=tot
 |[],off,tot,h=>by simpa [uw]using h
 |f::fs,off,tot,h=>by
  simp only[uw]at h;cases hc : (f.name != "_" && f.offset == off && iP P d f.type)
  ·rw[hc]at h;cases h
  ·rw[hc]at h;simp only[bG]at h;simp only[dr]at hc;have:=Gx ih fs _ _ h;have:=ih _ hc.2;simp only[List.flatMap_cons,W0];omega
theorem AY:∀(d:Nat)(t:TypeId),iP P d t=θ->(kinds P d t).length=P.cellsOf t
 |0,t,h=>by simp [iP]at h
 |d+1,t,h=>by
  unfold iP at h;unfold kinds;cases hd:P.underlying t with
  |none=>rw[hd]at h;cases h
  |some de=>
   rw[hd]at h;cases de<;>simp only at h<;>first|(cases h;done)|skip
   case bool=>simpa using(beq_iff_eq.1 h).symm
   case int=>simpa using(beq_iff_eq.1 h).symm
   case string=>simpa using(beq_iff_eq.1 h).symm
   case struct fs=>
    simp only[dr,beq_iff_eq]at h;have:=Gx (λt=>AY d t) fs.toList 0 _ h.2;simpa using this
theorem RX{d D:Nat}(ih:∀(t:TypeId) (xs ys:List U) (vs us:List Value) (b:Bool),iP P d t=θ->XC (kinds P d t) xs ys=δ b->aF c xs vs->aF c ys us->vs.length=P.cellsOf t->us.length=P.cellsOf t->
   (X0 D t (kL P t vs) (kL P t us)).run P w=.ok b w):
  ∀(fs:List Field)(off tot:Nat)(xs ys:List U)(vs us:Array Value)(b:Bool),uw (iP P d) P.cellsOf fs off=δ tot->tot=vs.size->tot=us.size->XC (fs.flatMap λf=>kinds P d f.type) (xs.drop off) (ys.drop off)=δ b->aF c xs vs.toList->aF c ys us.toList->
   (Op.eqFields D vs us fs).run P w=.ok b w
 |[],off,tot,xs,ys,vs,us,b,h,h1,h2,h3,h4,h5=>by
  simp only[uw]at h;injection h with h
  have l1:=h4.length;have:xs.drop off=[]:=akQ (by rw[l1];simp;omega);rw[this]at h3;have l2:=h5.length;have:ys.drop off=[]:=akQ (by rw[l2];simp;omega);rw[this]at h3;simp only[List.flatMap_nil,XC]at h3;injection h3 with h3
  subst h3;simp [Op.eqFields]
 |f::fs,off,tot,xs,ys,vs,us,b,h,h1,h2,h3,h4,h5=>by
  simp only[uw]at h;cases hc : (f.name != "_" && f.offset == off && iP P d f.type)
  ·rw[hc]at h;cases h
  ·rw[hc]at h;simp only[bG]at h;simp only[dr,bne_iff_ne,beq_iff_eq]at hc;obtain⟨⟨hn,ho⟩,hk⟩:=hc;have hle:=Gx (λt=>AY d t) fs _ _ h;have hkl:=AY d f.type hk;rw[List.flatMap_cons]at h3;obtain⟨p,q,k1,k2,k3⟩:=Qh h3;rw[hkl]at k1 k2;rw[gy,gy]at k2
   obtain⟨d',rfl⟩:∃d',d=d'+1:=by
    cases d with
    |zero=>simp [iP]at hk
    |succ d'=>exact⟨d',rfl⟩
   have r1:=JZ w hk (vs:=vs) (off:=off) (by omega);have r2:=JZ w hk (vs:=us) (off:=off) (by omega);have e1:=ih f.type _ _ _ _ p hk k1 ((h4.drop off).take _) ((h5.drop off).take _) (by simp;omega) (by simp;omega);have ihf:=RX ih fs (off+P.cellsOf f.type) tot xs ys vs us q h h1 h2 k2 h4 h5;simp only[Op.eqFields,Sem.run_ite,aE hn];simp only[l5,ho,r1,r2,Ω,e1];cases p
   ·simp [k3]
   ·simp only[n8,Φ,if_false,ihf,k3,Zr]
theorem RY:∀(d D:Nat)(hD:d<=D)(t:TypeId)(xs ys:List U)(vs us:List Value)(b:Bool),iP P d t=θ->XC (kinds P d t) xs ys=δ b->aF c xs vs->aF c ys us->vs.length=P.cellsOf t->us.length=P.cellsOf t->
   (X0 D t (kL P t vs) (kL P t us)).run P w=.ok b w
 |0,_,_,t,xs,ys,vs,us,b,hk,_,_,_,_,_=>by simp [iP]at hk
 |d+1,0,hD,_,_,_,_,_,_,_,_,_,_,_,_=>by omega
 |d+1,D+1,hD,t,xs,ys,vs,us,b,hk,h,r,q,l1,l2=>by
  unfold iP at hk;unfold kinds at h;cases hd:P.underlying t with
  |none=>rw[hd]at hk;cases hk
  |some de=>
   rw[hd]at hk h
   have scalar:∀k,XC [k] xs ys=δ b->P.cellsOf t=1->∃x y v u,xs=[x]/\ys=[y]/\vs=[v]/\us=[u]/\A.jQ k x y=δ b/\an c x v/\an c y u:=by intro k h h1;rw[h1]at l1 l2;have m1:=r.length;have m2:=q.length;obtain⟨x,rfl⟩:=oN.1 (m1.trans l1);obtain⟨y,rfl⟩:=oN.1 (m2.trans l2);obtain⟨v,rfl⟩:=oN.1 l1;obtain⟨u,rfl⟩:=oN.1 l2;simp only[XC]at h;obtain⟨p,h2,h3⟩:=bg.1 h;simp at h3;subst h3;obtain⟨v',k1,k2⟩:=r.nth (i:=0) (a:=x) rfl;obtain⟨u',k3,k4⟩:=q.nth (i:=0) (a:=y) rfl;simp at k1 k3;subst k1;subst k3;exact⟨x,y,v,u,rfl,rfl,rfl,rfl,h2,k2,k4⟩
   cases de<;>simp only at hk h<;>first|(cases hk;done)|skip
   case bool=>
    obtain⟨x,y,v,u,rfl,rfl,rfl,rfl,e,r1,q1⟩:=scalar _ h (by simpa using hk);simp only[kL,hd,alG];simp only[A.jQ,A.rB]at e;split at e
    ·simp only[an]at r1 q1;injection e with e;subst_vars
     exact run_equalIn_bool' w D t _ _ hd
    ·cases e
   case int kk=>
    obtain⟨x,y,v,u,rfl,rfl,rfl,rfl,e,r1,q1⟩:=scalar _ h (by simpa using hk);simp only[kL,hd,alG];simp only[A.jQ,A.jR]at e;split at e
    ·simp only[an]at r1 q1;split at e
     ·injection e with e;subst_vars
      exact run_equalIn_int w D t _ kk _ _ hd
     ·cases e
    ·cases e
   case string=>
    obtain⟨x,y,v,u,rfl,rfl,rfl,rfl,e,r1,q1⟩:=scalar _ h (by simpa using hk);simp only[kL,hd,alG];simp only[A.jQ,A.mR]at e;split at e
    ·simp only[an]at r1 q1;injection e with e;subst_vars
     rw[Dt];exact run_equalIn_string w D t _ _ hd
    ·cases e
   case struct fs=>
    simp only[dr,p9,beq_iff_eq]at hk;have hf:P.fieldsOf t=fs:=by simp [Program.fieldsOf,hd]
    simp only[kL,hd];rw[run_equalIn_struct w D t _ _ (by rw[hf];exact hd) hk.1,hf];exact RX w (λt xs ys vs us b=>RY d D (by omega) t xs ys vs us b) fs.toList 0 _ xs ys vs.toArray us.toArray b hk.2 (by simp [l1]) (by simp [l2]) (by simpa using h) (by simpa using r) (by simpa using q)
theorem CU{el:TypeId}(d:Nat)(t:TypeId)(p:Option Addr)(h:P.underlying t=δ (.pointer el)):(X0 (d+1) t (.pointer μ) (.pointer p)).run P w=.ok p.isNone w:=by simp [X0,run_underlying h]
theorem CV{el:TypeId}(d:Nat)(t:TypeId)(p:Addr)(h:P.underlying t=δ (.pointer el)):(X0 (d+1) t (.pointer (δ p)) (.pointer μ)).run P w=.ok ξ w:=by simp [X0,run_underlying h]
theorem Ma(X:Fx){t:TypeId}{e:A.EK}{x y:U}{b:Bool}{v u:Value}(ht:jP X t=δ e)(h:XL e x y=δ b)(r:an c x v)(q:an c y u):
  (Op.equal t v u).run X.P w=.ok b w/\((∃xs ys,v=.agg xs/\u=.agg ys/\X.P.eqGuardType X.P.depth t=ξ)\/(∃k m n,v=.int k m/\u=.int k n/\b=(m==n))\/(∃m n,v=.string m/\u=.string n/\b=(m==n))\/(∃m n,v=.bool m/\u=.bool n/\b=(m==n))\/∃m n,v=.pointer m/\u=.pointer n):=by
 unfold jP at ht;cases hd:X.P.underlying t with
 |none=>rw[hd]at ht;cases ht
 |some de=>
  rw[hd]at ht;cases de<;>simp only at ht<;>first|(cases ht;done)|skip
  case bool=>
   injection ht with ht;subst ht
   simp only[XL,A.rB]at h;split at h
   ·simp only[an]at r q;injection h with h;subst_vars
    exact⟨run_equalIn_bool' w _ t _ _ hd,.inr (.inr (.inr (.inl ⟨_,_,rfl,rfl,rfl⟩)))⟩
   ·cases h
  case int kk=>
   injection ht with ht;subst ht
   simp only[XL,A.jR]at h;split at h
   ·simp only[an]at r q;split at h
    ·injection h with h;subst_vars
     exact⟨run_equalIn_int w _ t _ kk _ _ hd,.inr (.inl ⟨_,_,_,rfl,rfl,rfl⟩)⟩
    ·cases h
   ·cases h
  case string=>
   injection ht with ht;subst ht
   simp only[XL,A.mR]at h;split at h
   ·simp only[an]at r q;injection h with h;subst_vars
    refine⟨?_,.inr (.inr (.inl ⟨_,_,rfl,rfl,rfl⟩))⟩;rw[Dt];exact run_equalIn_string w _ t _ _ hd
   ·cases h
  case pointer el=>
   cases hc:(X.P.cellsOf el !=0)
   ·rw[hc]at ht;cases ht
   ·rw[hc]at ht;injection ht with ht;subst ht
    simp only[XL,A.Og]at h;split at h<;>first|(cases h;done)|skip
    all_goals
     simp only[an]at r q;injection h with h;subst h
    ·subst r;subst q;exact⟨by first|exact CU w 9999 t _ hd|exact CV w 9999 t _ hd,.inr (.inr (.inr (.inr ⟨_,_,rfl,rfl⟩)))⟩
    ·subst r;obtain⟨b,off,rfl,_⟩:=q;exact⟨by first|exact CU w 9999 t _ hd|exact CV w 9999 t _ hd,.inr (.inr (.inr (.inr ⟨_,_,rfl,rfl⟩)))⟩
    ·subst r;obtain⟨p,_,_,rfl⟩:=q;exact⟨by first|exact CU w 9999 t _ hd|exact CV w 9999 t _ hd,.inr (.inr (.inr (.inr ⟨_,_,rfl,rfl⟩)))⟩
    ·subst q;obtain⟨b,off,rfl,_⟩:=r;exact⟨by first|exact CU w 9999 t _ hd|exact CV w 9999 t _ hd,.inr (.inr (.inr (.inr ⟨_,_,rfl,rfl⟩)))⟩
    ·subst q;obtain⟨p,_,_,rfl⟩:=r;exact⟨by first|exact CU w 9999 t _ hd|exact CV w 9999 t _ hd,.inr (.inr (.inr (.inr ⟨_,_,rfl,rfl⟩)))⟩
  case struct fs=>
   cases hc:(iP X.P 9 t&&!X.P.eqGuardType X.P.depth t)
   ·rw[hc]at ht;cases ht
   ·rw[hc]at ht;injection ht with ht;subst ht
    simp only[dr,p9]at hc;simp only[XL]at h;split at h
    ·simp only[an]at r q;obtain⟨vs,rfl,r1,_⟩:=r;obtain⟨us,rfl,q1,_⟩:=q;have hl:=Q4 h;rw[AY 9 t hc.1]at hl;have e:=RY w 9 Op.maxDepth (by decide) t _ _ _ _ b hc.1 h r1 q1 (by rw[<-r1.length];exact hl.1) (by rw[<-q1.length];exact hl.2);simp only[kL,hd,Array.toArray_toList]at e;exact⟨e,.inl ⟨_,_,rfl,rfl,hc.2⟩⟩
    ·cases h
theorem aek(X:Fx){t:TypeId}{ox oy:Operand}{e:A.EK}{x y av:U}{v u:Value}(ht:jP X t=δ e)(h:p5 e x y=δ av)(r:an c x v)(q:an c y u):
  ∃k,(do eqGuard .eql t ox oy v u;binOp .eql t v u:Sem Value).run X.P w=.ok k w/\an c av k:=by
 obtain⟨b,h1,h2⟩:=cO.1 h;subst h2;obtain⟨h3,h4⟩:=Ma w X ht h1 r q;refine⟨.bool b,?_,by simp [an]⟩;rcases h4 with⟨xs,ys,rfl,rfl,hg⟩|⟨k,m,n,rfl,rfl,rfl⟩|⟨m,n,rfl,rfl,rfl⟩|⟨m,n,rfl,rfl,hb⟩|⟨m,n,rfl,rfl⟩
 ·simp only[l5,run_eqGuard_agg w .eql t ox oy xs ys hg,Ω];simp [binOp,h3]
 ·simp [eqGuard_at_int,binOp_eql]
 ·rw[Dt];simp [eqGuard_at_string,binOp,alA]
 ·simp only[eqGuard_at_bool,l5,Xe,Ω];simp [binOp,h3]
 ·simp only[eqGuard_at_pointer,l5,Xe,Ω];simp [binOp,h3]
theorem aeK(X:Fx){t:TypeId}{ox oy:Operand}{e:A.EK}{x y av:U}{v u:Value}(ht:jP X t=δ e)(h:XQ e x y=δ av)(r:an c x v)(q:an c y u):
  ∃k,(do eqGuard .neq t ox oy v u;binOp .neq t v u:Sem Value).run X.P w=.ok k w/\an c av k:=by
 obtain⟨b,h1,h2⟩:=cO.1 h;subst h2;obtain⟨h3,h4⟩:=Ma w X ht h1 r q;refine⟨.bool (!b),?_,by simp [an]⟩;rcases h4 with⟨xs,ys,rfl,rfl,hg⟩|⟨k,m,n,rfl,rfl,rfl⟩|⟨m,n,rfl,rfl,rfl⟩|⟨m,n,rfl,rfl,hb⟩|⟨m,n,rfl,rfl⟩
 ·simp only[l5,run_eqGuard_agg w .neq t ox oy xs ys hg,Ω];simp [binOp,h3]
 ·simp [eqGuard_at_int,binOp_neq];rfl
 ·rw[Dt];simp [eqGuard_at_string,binOp,alA]
 ·simp only[eqGuard_at_bool,l5,Xe,Ω];simp [binOp,h3]
 ·simp only[eqGuard_at_pointer,l5,Xe,Ω];simp [binOp,h3]
theorem afX{P:Program}{el:TypeId}(d:Nat)(t:TypeId)(a:Option Addr)(n m:Nat)(h:P.underlying t=δ (.slice el)):(X0 (d+1) t (.slice a n m) (.slice μ 0 0)).run P w=.ok a.isNone w:=by cases a<;>simp [X0,run_underlying h]
theorem SX{P:Program}{t e:TypeId}{x y:U}{b:Bool}{v u:Value}(ht:P.underlying t=δ (.slice e))(h:A.Is x y=δ b)(r:an c x v)(q:an c y u):
  ∃a n m,v=.slice a n m/\u=.slice μ 0 0/\(Op.equal t v u).run P w=.ok b w:=by
 cases y<;>simp only[A.Is]at h<;>first|(cases h;done)|skip
 simp only[an]at q;subst q
 have hs:∃a n m,v=.slice a n m/\b=a.isNone:=by
  split at h<;>first|(cases h;done)|skip
  all_goals injection h with h;subst h;simp only[an]at r
  ·exact⟨μ,0,0,r,rfl⟩
  ·obtain⟨a,cap,e1,_,_,k|⟨b,off,rfl,_⟩⟩:=r
   ·cases k
   ·exact⟨_,_,_,e1,rfl⟩
  ·obtain⟨_,p,_,_,a,cap,rfl,_⟩:=r;exact⟨_,_,_,rfl,rfl⟩
 obtain⟨a,n,m,rfl,rfl⟩:=hs;exact⟨a,n,m,rfl,rfl,afX w 9999 t a n m ht⟩
theorem ad3(X:Fx){op:BinOp}{t:TypeId}{ox oy:Operand}{x y av:U}{v u:Value}(h:Ng X op t x y=δ av)(r:an c x v)(q:an c y u):
  ∃k,(do eqGuard op t ox oy v u;binOp op t v u:Sem Value).run X.P w=.ok k w/\an c av k:=by
 cases op<;>simp only[Ng]at h<;>first|(cases h;done)|skip
 case add=>obtain⟨k,h1,h2⟩:=ad2 (P:=X.P) (t:=t) w h r q;exact⟨k,by simp [eqGuard_add,h1],h2⟩
 case sub=>obtain⟨k,h1,h2⟩:=afb (P:=X.P) (t:=t) w h r q;exact⟨k,by simp [eqGuard_sub,h1],h2⟩
 case mul=>obtain⟨k,h1,h2⟩:=aeH (P:=X.P) (t:=t) w h r q;exact⟨k,by simp [eqGuard_mul,h1],h2⟩
 case quo=>obtain⟨k,h1,h2⟩:=aeW (P:=X.P) (t:=t) w h r q;exact⟨k,by simp [eqGuard_quo,h1],h2⟩
 case rem=>obtain⟨k,h1,h2⟩:=aeZ (P:=X.P) (t:=t) w h r q;exact⟨k,by simp [eqGuard_rem,h1],h2⟩
 case lss=>obtain⟨k,h1,h2⟩:=aeE (P:=X.P) (t:=t) w h r q;exact⟨k,by simp [eqGuard_lss,h1],h2⟩
 case leq=>obtain⟨k,h1,h2⟩:=aeD (P:=X.P) (t:=t) w h r q;exact⟨k,by simp [eqGuard_leq,h1],h2⟩
 case gtr=>obtain⟨k,h1,h2⟩:=aex (P:=X.P) (t:=t) w h r q;exact⟨k,by simp [eqGuard_gtr,h1],h2⟩
 case geq=>obtain⟨k,h1,h2⟩:=aew (P:=X.P) (t:=t) w h r q;exact⟨k,by simp [eqGuard_geq,h1],h2⟩
 case shl=>obtain⟨k,h1,h2⟩:=ae6 (P:=X.P) (t:=t) w h r q;exact⟨k,by simp [eqGuard_shl,h1],h2⟩
 case shr=>obtain⟨k,h1,h2⟩:=ae7 (P:=X.P) (t:=t) w h r q;exact⟨k,by simp [eqGuard_shr,h1],h2⟩
 case eql=>
  cases he:jP X t with
  |none=>
   rw[he]at h;simp only at h;split at h
   ·rename_i e ht;obtain⟨b,h1,rfl⟩:=cO.1 h;obtain⟨a,n,m,rfl,rfl,k2⟩:=SX (P:=X.P) w ht h1 r q;exact⟨.bool b,by simp [eqGuard,binOp,k2],by simp [an]⟩
   ·cases h
  |some e=>rw[he]at h;exact aek w X he h r q
 case neq=>
  cases he:jP X t with
  |none=>
   rw[he]at h;simp only at h;split at h
   ·rename_i e ht;obtain⟨b,h1,rfl⟩:=cO.1 h;obtain⟨a,n,m,rfl,rfl,k2⟩:=SX (P:=X.P) w ht h1 r q;exact⟨.bool (!b),by simp [eqGuard,binOp,k2],by simp [an]⟩
   ·cases h
  |some e=>rw[he]at h;exact aeK w X he h r q
theorem C5{n j:Nat}{i:U}{v:Value}(h:A.idx n i=δ j)(r:an c i v):∃k,v=.int k (j:Int)/\j<n:=by
 unfold A.idx at h;split at h
 ·simp only[an]at r;split at h
  ·rename_i k m hm;injection h with h
   subst r;exact⟨_,by rw[<-h];congr 1;omega,by omega⟩
  ·cases h
 ·cases h
def lQ(c:RC):Option U->Option Value->Prop
 |none,μ=>True
 |some x,δ v=>an c x v
 |_,_=>False
theorem AW{y d j:Nat}{x:Option U}{v:Option Value}{code:BoundsCode}(h:Xw y d x=δ j)(r:lQ c x v):
  (x=μ/\v=μ/\j=d)\/∃a u,x=δ a/\v=δ u/\(ZF u y code).run P w=.ok j w/\j<=y:=by
 cases x with
 |none=>cases v with
  |none=>simp only[Xw]at h;injection h with h;exact .inl ⟨rfl,rfl,h.symm⟩
  |some u=>exact r.elim
 |some a=>cases v with
  |none=>exact r.elim
  |some u=>
   simp only[lQ]at r;cases a<;>simp only[Xw]at h<;>first|(cases h;done)|skip
   rename_i k m;split at h
   ·rename_i hm;injection h with h
    simp only[an]at r;subst r;refine .inr ⟨_,_,rfl,rfl,?_,by omega⟩;simp [ZF,asIntOf,hm,h]
   ·cases h
theorem Cm{zW:Bool}{y len cap l h:Nat}{lo hi:Option U}{vl vh:Option Value}(hc:len<=cap)(hy:y<=cap)(hh:Xw y len hi=δ h)(hl:Xw h 0 lo=δ l)
  (rh:lQ c hi vh) (rl:lQ c lo vl):
  (Zu zW len cap vl vh μ).run P w=.ok (l,h,cap) w/\l<=h/\(h<=y\/h<=len):=by
 have big:∀{u:Value}{code:BoundsCode},(ZF u y code).run P w=.ok h w->(ZF u cap code).run P w=.ok h w:=by
  intro u code e;unfold ZF at e ⊢;simp only[l5]at e ⊢;generalize (asIntOf u).run P w=r at *
  cases r with
  |halt x w'=>simp at e
  |ok p w'=>
   obtain⟨k,i⟩:=p;simp only[Ω,Sem.run_ite]at e ⊢;split at e
   ·rename_i hi;rw[aE ⟨hi.1,by omega⟩];exact e
   ·simp only[boundsPanic,l5]at e;exfalso;revert e;split
    ·simp [runtimePanic,goPanic];split<;>simp [runtimePanic,goPanic]
    ·simp [runtimePanic,goPanic]
 rcases AW (P:=P) (code:=if zW then .sliceAcap else .sliceAlen) w hh rh with⟨rfl,rfl,rfl⟩|⟨x,u,rfl,rfl,e1,e2⟩
 ·rcases AW (P:=P) (code:=.sliceB) w hl rl with⟨rfl,rfl,rfl⟩|⟨y,q,rfl,rfl,e3,e4⟩
  ·exact⟨by simp [Zu],ur _,.inr (bL _)⟩
  ·exact⟨by simp [Zu,e3],e4,.inr (bL _)⟩
 ·rcases AW (P:=P) (code:=.sliceB) w hl rl with⟨rfl,rfl,rfl⟩|⟨y,q,rfl,rfl,e3,e4⟩
  ·exact⟨by simp [Zu,big e1],ur _,.inl e2⟩
  ·exact⟨by simp [Zu,big e1,e3],e4,.inl e2⟩
theorem acY{y y' d d' j:Nat}{x:U}(h:Xw y d (δ x)=δ j)(hy:y<=y'):Xw y' d' (δ x)=δ j:=by
 cases x<;>simp only[Xw]at h ⊢<;>first|(cases h;done)|skip
 split at h
 ·rename_i hm;rw[aE ⟨hm.1,by omega⟩];exact h
 ·cases h
theorem abo{t e:TypeId}{i:TypeInfo}{x hi mx av:U}{lo:Option U}{v vh vm:Value}{vl:Option Value}(ht:P.underlying t=δ (.slice e))(hi':P.info? e=δ i)
  (h:A.slice3 x lo hi mx=δ av) (r:an c x v) (rl:lQ c lo vl) (rh:an c hi vh) (rm:an c mx vm):∃k,(XG t v vl (δ vh) (δ vm)).run P w=.ok k w/\an c av k:=by
 have hsz:(sizeOf e).run P w=.ok i.size w:=by simp [sizeOf,rU w hi']
 unfold A.slice3 at h;obtain⟨n,h0,h⟩:=bg.1 h
 have hv:∃a len cap,v=.slice a len cap/\len<=cap/\n=.int ε (len:Nat):=by
  cases x<;>simp only[Z0]at h0<;>first|(cases h0;done)|skip
  all_goals injection h0 with h0;subst h0;simp only[an]at r
  case sl=>obtain⟨a,cap,rfl,hc,_⟩:=r;exact⟨a,_,cap,rfl,hc,rfl⟩
  case bA=>subst r;exact⟨μ,0,0,rfl,bL _,rfl⟩
  case ez=>obtain⟨a,rfl⟩:=r;exact⟨a,0,0,rfl,bL _,rfl⟩
  case os=>obtain⟨_,p,_,_,a,cap,rfl,hc,_⟩:=r;exact⟨δ a,_,cap,rfl,hc,rfl⟩
 obtain⟨a,len,cap,rfl,hc,rfl⟩:=hv;simp only[Xk]at h;obtain⟨m,h1,h⟩:=bg.1 h;obtain⟨h',h2,h⟩:=bg.1 h;obtain⟨l,h3,rfl⟩:=cO.1 h;rcases AW (P:=P) (code:=.slice3Acap) w (acY (d':=0) h1 hc) (show lQ c (δ mx) (δ vm)from rm)with⟨k,_⟩|⟨_,u,_,q1,e1,_⟩
 ·cases k
 injection q1 with q1;subst q1
 rcases AW (P:=P) (code:=.slice3B) w h2 (show lQ c (δ hi) (δ vh)from rh)with⟨k,_⟩|⟨_,u,_,q2,e2,hle⟩
 ·cases k
 injection q2 with q2;subst q2
 rcases AW (P:=P) (code:=.slice3C) w h3 rl with⟨rfl,rfl,rfl⟩|⟨y,q,rfl,rfl,e3,e4⟩
 ·refine⟨_,by simp [XG,run_underlying ht,Zu,e1,e2,hsz];rfl,?_⟩;by_cases hm:m=0
  ·subst hm;have:h'=0:=by omega
   subst this;simp [an]
  ·rw[aD hm];simp [an]
 ·refine⟨_,by simp [XG,run_underlying ht,Zu,e1,e2,e3,hsz];rfl,?_⟩;by_cases hm:m=0
  ·subst hm;have:h'=0:=by omega
   subst this;have:l=0:=by omega
   subst this;simp [an]
  ·rw[aD hm];simp [an]
theorem abq{t:TypeId}{x av:U}{lo hi:Option U}{v:Value}{vl vh:Option Value}(ht:P.underlying t=δ .string)
  (h:A.mE x lo hi=δ av) (r:an c x v) (rl:lQ c lo vl) (rh:lQ c hi vh):∃k,(XG t v vl vh μ).run P w=.ok k w/\an c av k:=by
 cases x<;>simp only[A.mE]at h<;>first|(cases h;done)|skip
 rename_i s;obtain⟨h',h1,h2⟩:=bg.1 h;obtain⟨l,h3,h4⟩:=cO.1 h2;simp only[an]at r;subst r;subst h4;obtain⟨e,_,_⟩:=Cm (P:=P) (zW:=ξ) w (bL _) (bL _) h1 h3 rh rl;exact⟨.string (s.extract l h'),by simp [XG,run_underlying ht,e],by simp [an]⟩
theorem room_le{σ:Heap}(hh:fS c σ){id g sz off len cap:Nat}{p:Pl}(h1:c.E[id]? =δ p)(hc:len<=cap)(hsz:0<sz)(r:g=p.g->p.sz=sz/\p.base+(off+cap)*p.sz=p.nT):A.room σ id g sz off len<=cap:=by
 unfold A.room;split
 ·rename_i g' sz' es hs;split
  ·rename_i El;obtain⟨rfl,rfl,hle⟩:=El;obtain⟨j1,j2,j3,j4,j5,j7,j8,j9⟩:=hh.blk id p _ h1 hs;obtain⟨k1,k3⟩:=r j1.symm;rw[k1]at k3;have:es.length*sz<=(off+cap)*sz:=by omega
   have:=XY this j4;omega
  ·exact hc
 ·exact hc
theorem abp{t e:TypeId}{i:TypeInfo}{x av:U}{lo hi:Option U}{v:Value}{vl vh:Option Value}{σ:Heap}(wu:fS c σ)(ht:P.underlying t=δ (.slice e))(hi':P.info? e=δ i)
  (h:A.yX i.size x lo hi σ=δ av) (r:an c x v) (rl:lQ c lo vl) (rh:lQ c hi vh):∃k,(XG t v vl vh μ).run P w=.ok k w/\an c av k:=by
 have hsz:(sizeOf e).run P w=.ok i.size w:=by simp [sizeOf,rU w hi']
 cases x<;>simp only[A.yX]at h<;>first|(cases h;done)|skip
 case sl sz es=>
  split at h
  ·rename_i hs;subst hs;obtain⟨h',h1,h2⟩:=bg.1 h;obtain⟨l,h3,h4⟩:=cO.1 h2;subst h4;simp only[an]at r;obtain⟨a,cap,rfl,hcap,hp,r⟩:=r;obtain⟨e1,hl,hh⟩:=Cm (P:=P) (zW:=θ) w hcap hcap h1 h3 rh rl;refine⟨.slice (if cap=l then a else a.map (·.add (l*i.size))) (h'-l) (cap-l),by simp [XG,run_underlying ht,e1,hsz],?_⟩;simp only[an];have hlen:((es.take h').drop l).length=h'-l:=by simp;omega
   refine⟨_,_,by rw[hlen],by rw[hlen];omega,hp,?_⟩;by_cases hz:h'=l
   ·left;apply akQ;simp;omega
   ·right;rcases r with r|⟨b,off,rfl,hb,hX,r⟩
    ·subst r;simp at hh;omega
    ·refine⟨b,off+l*i.size,?_,hb,hX,(r.take h').drop l⟩;rw[aD (by omega)];simp [lB]
  ·cases h
 case bA=>
  obtain⟨h',h1,h2⟩:=bg.1 h;obtain⟨l,h3,h4⟩:=cO.1 h2;subst h4;simp only[an]at r;subst r;obtain⟨e1,hl,hh⟩:=Cm (P:=P) (zW:=θ) w (bL 0) (bL 0) h1 h3 rh rl;refine⟨.slice μ 0 0,?_,by simp [an]⟩;have:h'=0:=by omega
  have:l=0:=by omega
  subst_vars;simp [XG,run_underlying ht,e1,hsz]
 case ez=>
  obtain⟨h',h1,h2⟩:=bg.1 h;obtain⟨l,h3,h4⟩:=cO.1 h2;subst h4;simp only[an]at r;obtain⟨q,rfl⟩:=r;obtain⟨e1,hl,hh⟩:=Cm (P:=P) (zW:=θ) w (bL 0) (bL 0) h1 h3 rh rl;refine⟨.slice q 0 0,?_,by simp [an]⟩;have:h'=0:=by omega
  have:l=0:=by omega
  subst_vars;simp [XG,run_underlying ht,e1,hsz]
 case os id g sz off len=>
  split at h
  ·rename_i hs;subst hs;obtain⟨h',h1,h2⟩:=bg.1 h;obtain⟨l,h3,h4⟩:=cO.1 h2;subst h4;simp only[an]at r;obtain⟨hg,p,hp1,hp2,a,cap,rfl,hcap,r⟩:=r
   obtain⟨e1,hl,hh⟩:=Cm (P:=P) (zW:=θ) w hcap (by
    by_cases hz:i.size=0
    ·have:A.room σ id g i.size off len=len:=by
      unfold A.room;split
      ·rename_i g' sz' es hs;split
       ·rename_i El;obtain⟨rfl,rfl,hle⟩:=El;obtain⟨_,_,_,j4,_⟩:=wu.blk id p _ hp1 hs;omega
       ·rfl
      ·rfl
     rw[this];exact hcap
    ·exact room_le wu hp1 hcap (by omega) (λk=>⟨(r k).1,(r k).2.2⟩)) h1 h3 rh rl
   have hle:h'<=cap:=by
    rcases hh with hh|hh
    ·refine XA hh ?_;by_cases hz:i.size=0
     ·have:A.room σ id g i.size off len=len:=by
       unfold A.room;split
       ·rename_i g' sz' es hs;split
        ·rename_i El;obtain⟨rfl,rfl,hle⟩:=El;obtain⟨_,_,_,j4,_⟩:=wu.blk id p _ hp1 hs;omega
        ·rfl
       ·rfl
      rw[this];exact hcap
     ·exact room_le wu hp1 hcap (by omega) (λk=>⟨(r k).1,(r k).2.2⟩)
    ·omega
   refine⟨.slice (if cap=l then δ a else(δ a).map (·.add (l*i.size))) (h'-l) (cap-l),by simp [XG,run_underlying ht,e1,hsz],?_⟩;simp only[an];refine⟨hg,p,hp1,hp2,(if cap=l then a else a.add (l*i.size)),cap-l,by by_cases e:cap=l<;>simp [e],by omega,λhgp=>?_⟩;obtain⟨k1,k2,k3⟩:=r hgp;refine⟨k1,?_,?_⟩
   ·by_cases e:cap=l
    ·left;omega
    ·right;rw[aD e];rcases k2 with k2|k2
     ·omega
     ·rw[k2,lB,k1,fU];congr 1;omega
   ·rw[show off+l+(cap-l)=off+cap by omega];exact k3
  ·cases h
end
end
section
open Go.RowKit
def eS(arr:Array Value)(off:Nat)(l:List Value):Array Value:=(arr.toList.take off++l++arr.toList.drop (off+l.length)).toArray
theorem Ti(arr:Array Value)(off:Nat):eS arr off []=arr:=by simp [eS]
theorem Su(arr:Array Value)(off:Nat)(x:Value)(l:List Value)(h:off+(l.length+1)<=arr.size):eS arr off (x::l)=eS (arr.setIfInBounds off x) (off+1) l:=by
 unfold eS;congr 1;have hlt:off<arr.toList.length:=by simp;omega
 simp only[Array.toList_setIfInBounds,l8];rw[List.take_succ_eq_append_getElem (by simpa using hlt),List.getElem_set_self,List.take_set_of_le (bL _),List.drop_set_of_lt (by omega)];simp [fG,Nat.add_comm 1 l.length]
theorem LW(arr:Array Value)(off:Nat)(l:List Value)(h:off+l.length<=arr.size):(eS arr off l).size=arr.size:=by simp [eS];omega
theorem R5(off:Nat):∀(l:List Value)(k:Nat)(arr:Array Value),off+k+l.length<=arr.size->(l.zipIdx k).foldl (λcs(p:Value×Nat)=>cs.setIfInBounds (off+p.2) p.1) arr=eS arr (off+k) l
 |[],k,arr,h=>by simp [Ti]
 |x::l,k,arr,h=>by simp only[List.zipIdx_cons,List.foldl_cons];rw[R5 off l (k+1) _ (by simp at h ⊢;omega),Su _ _ _ _ (by simpa using h)];rfl
theorem CK{w:World}{b:Nat}{o:Obj}(h:w.heap[b]? =δ o):w.dn b o=w:=by
 unfold World.dn;have hb:=(uq.1 h)
 obtain⟨hb,e⟩:=hb
 have:w.heap.setIfInBounds b o=w.heap:=by
  apply Array.ext_getElem?;intro i;rw[Zo];by_cases hi:b=i
  ·subst hi;rw[aE rfl,aE hb,h]
  ·rw[aD hi]
 rw[this]
theorem acG(w:World)(b:Nat)(o o':Obj):(w.dn b o).dn b o'=w.dn b o':=by unfold World.dn;simp
theorem ajS{w:World}{b off:Nat}{arr:Array Value}{t:TypeId}{fz:Nat×Nat}(h:w.heap[b]? =δ (.cells arr t fz))(v:Value):
  w.setCell ⟨b,off,μ⟩ v=w.dn b (.cells (arr.setIfInBounds off v) t fz):=by
 unfold World.setCell World.dn;obtain⟨hb,e⟩:=uq.1 h;congr 1;apply Array.ext_getElem?;intro i;rw[Array.getElem?_modify,Zo];by_cases hi:b=i
 ·subst hi;simp [h,hb,e]
 ·simp [hi]
section
variable {P : Program} {c : RC}
theorem acM{v:Value}(h:cx v=θ)(w:World)(a:Addr):(store a v).run P w=stored P w a v .plain:=by cases v<;>first|exact run_store P w a _ .plain rfl|(simp [cx]at h)
theorem AE{b off:Nat}{t:TypeId}:∀(vs:List Value)(i:Nat)(w:World)(arr:Array Value),w.heap[b]? =δ (.cells arr t (0,0))->off+i+vs.length<=arr.size->(∀x∈vs,cx x=θ)->
  (storeCells ⟨b,off,μ⟩ vs i).run P w=.ok () (w.dn b (.cells (eS arr (off+i) vs) t (0,0)))
 |[],i,w,arr,h,hl,ho=>by simp [storeCells,Ti,CK h]
 |v::vs,i,w,arr,h,hl,ho=>by
  have hc:w.cell? ⟨b,off+i,μ⟩=δ (arr[off+i]'(by simp at hl;omega)):=by
   rw[tJ h,sI]
  have hf:w.frozen? ⟨b,off+i,μ⟩=ξ:=by simp [World.frozen?,h]
  have hs:(store ((⟨b,off,μ⟩:Addr).add i) v).run P w=.ok () (w.dn b (.cells (arr.setIfInBounds (off+i) v) t (0,0))):=by rw[lB,acM (ho v (by simp)),stored];simp [hc,hf,ajS h]
  have hb:b<w.heap.size:=(uq.1 h).1;have ih:=AE (off:=off) vs (i+1) (w.dn b (.cells (arr.setIfInBounds (off+i) v) t (0,0))) (arr.setIfInBounds (off+i) v) (rT _ hb) (by simp at hl ⊢;omega) (λx hx=>ho x (by simp [hx]));simp only[storeCells,l5,hs,Ω,ih,acG];rw[Su _ _ _ _ (by simpa using hl)];rfl
theorem aF.eS{cs new cs':List U}{arr:Array Value}{vs:List Value}{off:Nat}(h:w8 off new cs=δ cs')(r:aF c cs arr.toList)(q:aF c new vs):aF c cs' (Proofs.YtpcafbmnjchmcaaGreatDoor.eS arr off vs).toList/\off+vs.length<=arr.size:=by
 unfold w8 at h;split at h
 ·injection h with h
  subst h;have l1:=r.length;have l2:=q.length;simp at l1;refine⟨?_,by omega⟩;simp only[Proofs.YtpcafbmnjchmcaaGreatDoor.eS,ak6];rw[<-l2];exact((r.take off).append q).append (r.drop _)
 ·cases h
theorem Bi{arr:Array Value}{vs:List Value}{off:Nat}(h:∀x∈arr.toList,cx x=θ)(k:∀x∈vs,cx x=θ):∀x∈(eS arr off vs).toList,cx x=θ:=by
 intro x hx;simp only[eS,ak6,gV]at hx;rcases hx with(hx|hx)|hx
 ·exact h x (xG hx)
 ·exact k x hx
 ·exact h x (List.mem_of_mem_drop hx)
theorem F2(sz:Nat):∀(n:Nat)(l:List U),(lI sz n l).length=n
 |0,_=>rfl
 |n+1,l=>by simp [lI,F2 sz n]
theorem La{sz b:Nat}:∀(n off:Nat)(l:List U),l.length=n*sz->aT c b off l->aY c sz b off (lI sz n l)
 |0,off,l,_,_=>by simp [lI,aY]
 |n+1,off,l,hl,r=>by simp only[lI,aY];rw[fU]at hl;refine⟨by simp;omega,r.take sz,La n (off+sz) _ (by simp;omega) (r.drop sz)⟩
theorem range_zero(z:List Value)(hz:0<z.length):∀n,((List.range (n*z.length)).map λi=>(z.toArray)[i % z.toArray.size]!)=(w4 n z).flatten
 |0=>by simp
 |n+1=>by
  rw[fU,Nat.one_mul,List.range_add,List.map_append,range_zero z hz n,List.replicate_succ',ak7];congr 1;simp only[List.map_map,WM,List.flatten_nil,WQ];apply List.ext_getElem
  ·simp
  ·intro i h1 h2;simp at h1;simp only[List.getElem_map,List.getElem_range,Function.comp,Xt];rw[Nat.add_comm,Nat.add_mul_mod_self_right,Nat.mod_eq_of_lt h1];simp [h1]
theorem aF.flatten{zs:List U}{vs:List Value}(h:aF c zs vs):∀n,aF c (w4 n zs).flatten (w4 n vs).flatten
 |0=>by simp [aF]
 |n+1=>by simp only[List.replicate_succ,WM];exact h.append (aF.flatten h n)
end
section
variable {X : Fx} {z : Z} {s : AS} {a : Act} {w w' : World} {E : List Pl} {pb : Nat -> Option Nat}
theorem A2(h:St X z s a w E pb){tag:Option (Nat×Bool)}(ht:nI a tag){x:Operand}{b off:Nat}{cs:List U}(hp:place X s tag x=δ (b,off))(hb:W9 (s.sl.getD b .undef)=δ cs):
  ∃k,pb b=δ k/\a.eval x=.pointer (δ ⟨k,off,μ⟩)/\vF (ctx z w E pb) k cs/\s.sl[b]? =δ (.lbx cs):=by
 have jU:s.sl[b]? =δ (.lbx cs):=by
  by_cases hlt:b<s.sl.length
  ·have e:s.sl.getD b .undef=s.sl[b]:=by simp [ZC,hlt]
   rw[e]at hb;rw[bT hlt];generalize s.sl[b]=y at *
   cases y<;>simp only[W9]at hb<;>first|(cases hb;done)|(injection hb with hb;subst hb;rfl)
  ·have e:s.sl.getD b .undef=.undef:=by simp [ZC,Nat.le_of_not_lt hlt]
   rw[e]at hb;cases hb
 obtain⟨k,k1,k2,k3⟩:=h.slot b _ jU;refine⟨k,k1,?_,k3,jU⟩;cases x with
 |tmp t=>
  simp only[place]at hp;cases hL:X.L.contains t
  ·rw[hL]at hp;simp only[aZ]at hp;cases hA:s.A t with
   |none=>rw[hA]at hp;cases hp
   |some p=>
    rw[hA]at hp;simp only at hp;cases Wd:X.L.contains p.slot
    ·rw[Wd]at hp;cases hp
    rw[Wd]at hp;simp only[bG]at hp
    have key:p.slot=b/\p.off=off/\nI a p.tag:=by
     cases xR:p.tag with
     |none=>rw[xR]at hp;simp only[χ,Θ]at hp;exact⟨hp.1,hp.2,trivial⟩
     |some g=>
      rw[xR]at hp;simp only at hp;cases hg:(tag==δ g)
      ·rw[hg]at hp;cases hp
      ·rw[hg]at hp;simp only[bG,χ,Θ]at hp;have:tag=δ g:=by simpa using hg
       exact⟨hp.1,hp.2,this▸ht⟩
    obtain⟨e1,e2,e3⟩:=key;obtain⟨k',j1,j2⟩:=h.kC t p hA e3;rw[e1,k1]at j1;injection j1 with j1;subst j1
    rw[e2]at j2;exact j2
  ·rw[hL]at hp;simp only[bG,χ,Θ]at hp;obtain⟨rfl,rfl⟩:=hp;exact k2
 |_=>simp [place]at hp
theorem Q3{c:RC}{σ:Heap}(hh:fS c σ){x:U}{cs:List U}{v:Value}(h:l6 x σ=δ cs)(r:an c x v):∃b off,v=.pointer (δ ⟨b,off,μ⟩)/\aT c b off cs:=by
 cases x<;>simp only[l6]at h<;>first|(cases h;done)|skip
 case rp l=>
  injection h with h;subst h
  simp only[an]at r;obtain⟨b,off,e,_,_,r⟩:=r;exact⟨b,off,e,r⟩
 case op id off=>
  simp only[an]at r;obtain⟨p,h1,h2,e⟩:=r;split at h
  ·rename_i cs0 hs;injection h with h;subst h
   obtain⟨_,h3⟩:=hh.blk id p _ h1 hs;exact⟨_,_,e,by simpa using h3.2.drop off⟩
  ·cases h
 case oe id g i off=>
  simp only[an]at r;obtain⟨hg,p,h1,h2,q,e,r⟩:=r;split at h
  ·rename_i g' sz es hs;split at h
   ·rename_i Ep;obtain⟨el,h3,h4⟩:=cO.1 h;subst h4;obtain⟨k1,k2,k3,k4,k5,k6,k7,_⟩:=hh.blk id p _ h1 hs;have hq:=r (by rw[Ep,k1]);subst hq;refine⟨_,_,e,?_⟩;rw[k3];exact(als k7 h3).2.drop off
   ·cases h
  ·cases h
theorem Gy{c:RC}{ρ:Operand->Value}(eH:∀x,an c (ev X s x) (ρ x)){pl:Nat->Option (Nat×TypeId)}{place:Nat->Option (Nat×Nat)}(hp:∀i off t,pl i=δ (off,t)->place i=δ (off,X.P.cellsOf t)):
  ∀(ps:List (Nat×Operand))(cs cs':List U)(arr:Array Value),lM X s pl ps cs=δ cs'->aF c cs arr.toList->(∀x∈arr.toList,cx x=θ)->
   ∃xJ,Instr.fill place arr (ps.map λp=>(p.1,ρ p.2))=δ xJ/\aF c cs' xJ.toList/\∀x∈xJ.toList,cx x=θ
 |[],cs,cs',arr,h,r,o=>by
  simp only[lM]at h;injection h with h;subst h
  exact⟨arr,by simp [Instr.fill],r,o⟩
 |(i,x)::ps,cs,cs',arr,h,r,o=>by
  simp only[lM]at h;cases hpl:pl i with
  |none=>rw[hpl]at h;cases h
  |some ot=>
   obtain⟨off,t⟩:=ot;rw[hpl]at h;simp only at h;obtain⟨new,h1,h2⟩:=bg.1 h;obtain⟨c2,h3,h4⟩:=bg.1 h2;obtain⟨r1,r2,r3,_⟩:=AR X h1 (eH x);obtain⟨r4,r5⟩:=r.eS h3 r1;have r5':off+(ρ x).cells.size<=arr.size:=by simpa using r5
   obtain⟨xJ,k1,k2,k3⟩:=Gy eH hp ps c2 cs' (eS arr off (ρ x).cells.toList) h4 r4 (Bi o r2);refine⟨xJ,?_,k2,k3⟩;simp only[fH,Instr.fill,hp i off t hpl];have hz:((ρ x).cells.size≠X.P.cellsOf t||decide (off+(ρ x).cells.size>arr.size))=ξ:=by simp [r3];omega
   have hf:(ρ x).cells.zipIdx.foldl (λcs(p:Value×Nat)=>cs.setIfInBounds (off+p.2) p.1) arr=eS arr off (ρ x).cells.toList:=by have:=R5 off (ρ x).cells.toList 0 arr (by simpa using r5');rw[<-Array.foldl_toList];simpa using this
   simp only[hz];rw[<-k1,<-hf];rfl
end
end
section
open Go.RowKit
section
variable {c : RC} (w : World)
theorem aiV{P:Program}(fs:List Field)(body:Field->PUnit->Sem (ForInStep PUnit))(h:∀f∈fs,(body f ⟨⟩).run P w=.ok (.yield ⟨⟩) w):(forIn fs PUnit.unit body:Sem PUnit).run P w=.ok ⟨⟩ w:=by
 induction fs with
 |nil=>simp
 |cons f fs ih=>simp only[List.forIn_cons,l5,h f (by simp),Ω];exact ih λg hg=>h g (by simp [hg])
theorem RW {P : Program} {d : Nat} : ∀ (fs : List Field) (off tot : Nat), uw (iP P d) P.cellsOf fs off = δ tot -> ∀ f ∈ fs, f.name ≠ "_" /\ iP P d f.type = θ /\ f.offset + P.cellsOf f.type <= tot
 |[],off,tot,h,f,hf=>by simp at hf
 |g::fs,off,tot,h,f,hf=>by
  simp only[uw]at h;cases hc : (g.name != "_" && g.offset == off && iP P d g.type)
  ·rw[hc]at h;cases h
  ·rw[hc]at h;simp only[bG]at h;simp only[dr,bne_iff_ne,beq_iff_eq]at hc;obtain⟨⟨hn,ho⟩,hk⟩:=hc;have hle:=Gx (λt=>AY d t) fs _ _ h;rcases eG.1 hf with rfl|hf
   ·exact⟨hn,hk,by omega⟩
   ·exact RW fs _ _ h f hf
theorem PR{P:Program}{em:Bool}:∀(d D:Nat)(hD:d<=D)(t:TypeId)(vs:List Value),iP P d t=θ->vs.length=P.cellsOf t->(Zp em D t (kL P t vs)).run P w=.ok () w
 |0,_,_,t,vs,h,_=>by simp [iP]at h
 |d+1,0,hD,_,_,_,_=>by omega
 |d+1,D+1,hD,t,vs,h,l=>by
  unfold iP at h;cases hd:P.underlying t with
  |none=>rw[hd]at h;cases h
  |some de=>
   rw[hd]at h;cases de<;>simp only at h<;>first|(cases h;done)|skip
   case bool=>unfold Zp;simp [run_underlying hd,kL,hd]
   case int=>unfold Zp;simp [run_underlying hd,kL,hd]
   case string=>unfold Zp;simp [run_underlying hd,kL,hd]
   case struct fs=>
    simp only[dr,p9,beq_iff_eq]at h;have hm:=RW fs.toList 0 _ h.2;unfold Zp;simp only[l5,run_underlying hd,kL,hd,Ω];rw[<-Array.forIn_toList,aiV w]
    ·first|done|simp
    ·intro f hf;obtain⟨hn,hk,hle⟩:=hm f hf
     obtain⟨d',rfl⟩:∃d',d=d'+1:=by
      cases d with
      |zero=>simp [iP]at hk
      |succ d'=>exact⟨d',rfl⟩
     have r1:=JZ w hk (vs:=vs.toArray) (off:=f.offset) (by simp;omega);have e1:=PR (em:=em) (d'+1) D (by omega) f.type _ hk (show((vs.toArray.toList.drop f.offset).take (P.cellsOf f.type)).length=_ by simp;omega);simp [hn,r1,e1]
theorem FW(X:Fx){kt:TypeId}{ek:A.EK}(ht:jP X kt=δ ek){k:U}{key:Value}(hk:A.ju ek k=θ)(r:an c k key)(em:Bool):(Zp em 10000 kt key).run X.P w=.ok () w:=by
 unfold jP at ht;cases hd:X.P.underlying kt with
 |none=>rw[hd]at ht;cases ht
 |some de=>
  rw[hd]at ht;cases de<;>simp only at ht<;>first|(cases ht;done)|skip
  case bool=>show(Zp em (9999+1) kt key).run X.P w=_;unfold Zp;simp [run_underlying hd]
  case int=>show(Zp em (9999+1) kt key).run X.P w=_;unfold Zp;simp [run_underlying hd]
  case string=>show(Zp em (9999+1) kt key).run X.P w=_;unfold Zp;simp [run_underlying hd]
  case pointer el=>
   cases hc:(X.P.cellsOf el !=0)
   ·rw[hc]at ht;cases ht
   ·rw[hc]at ht;injection ht with ht;subst ht;cases k<;>simp [A.ju]at hk
  case struct fs=>
   cases hc:(iP X.P 9 kt&&!X.P.eqGuardType X.P.depth kt)
   ·rw[hc]at ht;cases ht
   ·rw[hc]at ht;injection ht with ht;subst ht
    simp only[dr,p9]at hc;cases k<;>simp only[A.ju]at hk<;>first|(cases hk;done)|skip
    rename_i xs;simp only[an]at r;obtain⟨vs,rfl,r1,_⟩:=r;have hl:vs.toList.length=X.P.cellsOf kt:=by rw[<-r1.length,beq_iff_eq.1 hk,AY 9 kt hc.1]
    have:=PR w (em:=em) 9 10000 (by decide) kt vs.toList hc.1 hl;simpa [kL,hd]using this
def L0(c:RC)(es:List MapEntry):Option U->Option (Nat×Value)->Prop
 |none,μ=>True
 |some av,δ (i,v)=>an c av v/\∃e,es[i]? =δ e/\e.val=v
 |_,_=>False
theorem Qj(X:Fx){kt:TypeId}{ek:A.EK}(ht:jP X kt=δ ek){k:U}{key:Value}(rk:an c k key):∀(aV:List (U×U))(es gH:List MapEntry)(i:Nat)(r:Option U),YB ek k aV=δ r->bN c aV es->(∀j,es[j]? =gH[i+j]?)->
  ∃res,(akL kt key es i).run X.P w=.ok res w/\L0 c gH r res/\A.pG ek k aV i=δ (res.map (·.1))
 |[],es,gH,i,r,h,re,he=>by
  simp only[YB]at h;injection h with h;subst h
  simp only[bN]at re;subst re;exact⟨μ,by simp [akL],trivial,rfl⟩
 |(k',v')::aV,es,gH,i,r,h,re,he=>by
  simp only[YB]at h;obtain⟨b,h1,h2⟩:=bg.1 h;obtain⟨e,es',rfl,r1,r2,r3⟩:=re;have hq:=(Ma w X ht h1 rk r1).1;cases b
  ·simp only[aZ]at h2;obtain⟨res,k1,k2⟩:=Qj X ht rk aV es' gH (i+1) r h2 r3 (λj=>by have:=he (j+1);simp at this;rw[show i+1+j=i+(j+1) by omega];exact this);exact⟨res,by simp [akL,hq,k1],k2.1,by simp [A.pG,h1,k2.2]⟩
  ·simp only[bG]at h2;injection h2 with h2;subst h2
   have h0:=he 0;simp at h0;exact⟨δ (i,e.val),by simp [akL,hq],⟨r2,e,h0.symm,rfl⟩,by simp [A.pG,h1]⟩
theorem R3(X:Fx){kt:TypeId}{ek:A.EK}{d:TypeDesc}(hd:X.P.underlying kt=δ d)(ht:jP X kt=δ ek)(BX:∀fs,d≠.struct fs)(hnp:∀e,d≠.pointer e){k:U}{key:Value}(rk:an c k key):
  ∀(aV:List (U×U))(es gH:List MapEntry)(i:Nat)(r:Option U),YB ek k aV=δ r->bN c aV es->(∀j,es[j]? =gH[i+j]?)->
  ∃res,Z1 d key es i=δ res/\L0 c gH r res/\A.pG ek k aV i=δ (res.map (·.1))
 |[],es,gH,i,r,h,re,he=>by
  simp only[YB]at h;injection h with h;subst h
  simp only[bN]at re;subst re;exact⟨μ,by simp [Z1],trivial,rfl⟩
 |(k',v')::aV,es,gH,i,r,h,re,he=>by
  simp only[YB]at h;obtain⟨b,h1,h2⟩:=bg.1 h;obtain⟨e,es',rfl,r1,r2,r3⟩:=re
  have hsame:XT d key e.key=δ b:=by
   unfold jP at ht;rw[hd]at ht;cases d<;>simp only at ht<;>first|(cases ht;done)|exact absurd rfl (BX _)|exact absurd rfl (hnp _)|skip
   case bool=>
    injection ht with ht;subst ht
    simp only[XL,A.rB]at h1;split at h1
    ·simp only[an]at rk r1;injection h1 with h1;rw[rk,r1];simp [XT,h1]
    ·cases h1
   case int=>
    injection ht with ht;subst ht
    simp only[XL,A.jR]at h1;split at h1
    ·split at h1
     ·simp only[an]at rk r1;injection h1 with h1;rw[rk,r1];simp [XT,h1];assumption
     ·cases h1
    ·cases h1
   case string=>
    injection ht with ht;subst ht
    simp only[XL,A.mR]at h1;split at h1
    ·simp only[an]at rk r1;injection h1 with h1;rw[rk,r1];simp [XT,h1]
    ·cases h1
  cases b
  ·simp only[aZ]at h2;obtain⟨res,k1,k2⟩:=R3 X hd ht BX hnp rk aV es' gH (i+1) r h2 r3 (λj=>by have:=he (j+1);simp at this;rw[show i+1+j=i+(j+1) by omega];exact this);exact⟨res,by simp [Z1,hsame,k1],k2.1,by simp [A.pG,h1,k2.2]⟩
  ·simp only[bG]at h2;injection h2 with h2;subst h2
   have h0:=he 0;simp at h0;exact⟨δ (i,e.val),by simp [Z1,hsame],⟨r2,e,h0.symm,rfl⟩,by simp [A.pG,h1]⟩
theorem LL(X:Fx){kt:TypeId}{ek:A.EK}(ht:jP X kt=δ ek){k:U}{key:Value}(hk:A.ju ek k=θ)(rk:an c k key){aV:List (U×U)}{es:List MapEntry}{r:Option U}(h:YB ek k aV=δ r)(re:bN c aV es):
  ∃res,(ale kt key es).run X.P w=.ok res w/\L0 c es r res/\A.pG ek k aV 0=δ (res.map (·.1)):=by
 cases hd:X.P.underlying kt with
 |none=>unfold jP at ht;rw[hd]at ht;cases ht
 |some d=>
  by_cases hs:∃fs,d=.struct fs
  ·obtain⟨fs,rfl⟩:=hs;cases es with
   |nil=>
    cases aV with
    |nil=>simp only[YB]at h;injection h with h;subst h;exact⟨μ,by simp [ale,run_underlying hd,Z1],trivial,rfl⟩
    |cons p aV=>obtain⟨k',v'⟩:=p;simp [bN]at re
   |cons e es'=>
    obtain⟨res,k1,k2⟩:=Qj w X ht rk aV (e::es') (e::es') 0 r h re (λj=>by simp);refine⟨res,?_,k2⟩;have:Z1 (.struct fs) key (e::es') 0=μ:=by simp [Z1,XT]
    simp [ale,run_underlying hd,this,k1]
  ·have hp:∀e,d≠.pointer e:=by
    rintro e rfl;unfold jP at ht;rw[hd]at ht;simp only at ht;cases hc:(X.P.cellsOf e !=0)
    ·rw[hc]at ht;cases ht
    ·rw[hc]at ht;injection ht with ht;subst ht;cases k<;>simp [A.ju]at hk
   obtain⟨res,k1,k2⟩:=R3 X hd ht (λfs e=>hs ⟨fs,e⟩) hp rk aV es es 0 r h re (λj=>by simp);exact⟨res,by simp [ale,run_underlying hd,k1],k2⟩
theorem bN.length{c:RC}:∀{l:List (U×U)}{es:List MapEntry},bN c l es->l.length=es.length
 |[],es,h=>by simp only[bN]at h;subst h;rfl
 |(k,v)::l,es,h=>by obtain⟨e,es',rfl,_,_,h⟩:=h;simp [bN.length h]
theorem adD{c:RC}{l L:List MapEntry}(hp:l.Perm L):∀{es:List (U×U)},bN c es l->∃gH,bN c gH L/\gH.Perm es:=by
 induction hp with
 |nil=>intro es h;exact⟨es,h,amh.refl _⟩
 |cons x _ ih=>
  intro es h;cases es with
  |nil=>simp [bN]at h
  |cons p es=>
   obtain⟨e,es',h1,h2,h3,h4⟩:=h;injection h1 with h1 h5
   subst h1 h5;obtain⟨gH,k1,k2⟩:=ih h4;exact⟨p::gH,⟨_,_,rfl,h2,h3,k1⟩,k2.cons p⟩
 |swap x y l=>
  intro es h
  match es,h with
  |[],h=>simp [bN]at h
  |[p],h=>obtain⟨e,es',h1,h2,h3,h4⟩:=h;simp only[bN]at h4;subst h4;cases h1
  |p::q::es,h=>
   obtain⟨e,es',h1,h2,h3,h4⟩:=h;obtain⟨e',aiD,h5,h6,h7,h8⟩:=h4;subst h5;injection h1 with h1 h9
   injection h9 with h9 h10
   subst h1 h9 h10;exact⟨q::p::es,⟨_,_,rfl,h6,h7,_,_,rfl,h2,h3,h8⟩,amh.swap _ _ _⟩
 |trans _ _ ih1 ih2=>intro es h;obtain⟨sW,k1,k2⟩:=ih1 h;obtain⟨BQ,k3,k4⟩:=ih2 k1;exact⟨BQ,k3,k4.trans k2⟩
theorem Q6{e:A.EK}{k v:U}:∀{es:List (U×U)},YB e k es=δ (δ v)->∃p∈es,p.2=v/\XL e k p.1=δ θ
 |[],h=>by simp [YB]at h
 |(k',v')::r,h=>by
  simp only[YB]at h;obtain⟨b,h1,h2⟩:=bg.1 h;cases b
  ·obtain⟨p,q1,q2,q3⟩:=Q6 h2;exact⟨p,nL _ q1,q2,q3⟩
  ·injection h2 with h2;injection h2 with h2
   exact⟨(k',v'),Xl,h2,h1⟩
theorem Q5{e:A.EK}{k:U}:∀{es:List (U×U)},YB e k es=δ μ->∀p∈es,XL e k p.1=δ ξ
 |[],h=>by simp
 |(k',v')::r,h=>by
  simp only[YB]at h;obtain⟨b,h1,h2⟩:=bg.1 h;cases b
  ·intro p hp;rcases eG.1 hp with rfl|hp
   ·exact h1
   ·exact Q5 h2 p hp
  ·injection h2 with h2;cases h2
theorem PT{e:A.EK}{k:U}:∀{es:List (U×U)},(∀p∈es,XL e k p.1=δ ξ)->YB e k es=δ μ
 |[],_=>rfl
 |(k',v')::r,h=>by simp only[YB,h (k',v') Xl,aA,aZ];exact PT λp hp=>h p (nL _ hp)
theorem PU{e:A.EK}{k:U}{p:U×U}(h1:XL e k p.1=δ θ):∀{es:List (U×U)},p∈es->(es.map (·.1)).Nodup->(∀q∈es,q.1≠p.1->XL e k q.1=δ ξ)->YB e k es=δ (δ p.2)
 |[],hm,_,_=>by simp at hm
 |(k',v')::r,hm,hn,h=>by
  rcases eG.1 hm with rfl|hm
  ·simp only[YB,h1,aA,bG]
  ·simp only[fH,alo]at hn;have hne:k'≠p.1:=λq=>hn.1 (by rw[q];exact ak3 hm)
   simp only[YB,h (k',v') Xl hne,aA,aZ];exact PU h1 hm hn.2 λq hq=>h q (nL _ hq)
theorem VP(s t:ByteArray):(s==t)=decide (s=t):=by obtain⟨a⟩:=s;obtain⟨b⟩:=t;show(a==b)=_;rw[iX];simp
theorem aei{q:Nat}{x:U}{n:Int}{b:Bool}(h:A.jQ q x (.int ε n)=δ b):q=0/\∃a,x=.int ε a/\b=(a==n):=by
 match q,h with
 |0,h=>
  cases x<;>simp only[A.jQ,A.jR]at h<;>first|(cases h;done)|skip
  split at h
  ·rename_i hk;injection h with h
   exact⟨rfl,_,by rw[hk],h.symm⟩
  ·cases h
 |1,h=>cases x<;>simp [A.jQ,A.rB]at h
 |2,h=>cases x<;>simp [A.jQ,A.mR]at h
 |q+3,h=>simp [A.jQ]at h
theorem aej{q:Nat}{x:U}{n:ByteArray}{b:Bool}(h:A.jQ q x (.str n)=δ b):q=2/\∃a,x=.str a/\b=(a==n):=by
 match q,h with
 |0,h=>cases x<;>simp [A.jQ,A.jR]at h
 |1,h=>cases x<;>simp [A.jQ,A.rB]at h
 |2,h=>
  cases x<;>simp only[A.jQ,A.mR]at h<;>first|(cases h;done)|skip
  injection h with h
  exact⟨rfl,_,rfl,h.symm⟩
 |q+3,h=>simp [A.jQ]at h
theorem abL{e:A.EK}{k:U}{n m:Int}{s t:ByteArray}(h:XL e k (.agg [.int ε n,.str s])=δ θ)(hne:(n9 [.int ε m,.str t])≠.agg [.int ε n,.str s]):XL e k (.agg [.int ε m,.str t])=δ ξ:=by
 unfold XL at h ⊢;cases e with
 |i=>cases k<;>simp [A.jR]at h
 |b=>cases k<;>simp [A.rB]at h
 |z=>cases k<;>simp [A.mR]at h
 |p=>cases k<;>simp [A.Og]at h
 |s ks=>
  cases k<;>simp only[reduceCtorEq]at h ⊢;rename_i xs
  have hk:∃k1 k2 x y,ks=[k1,k2]/\xs=[x,y]:=by
   match ks,xs,h with
   |[],[],h=>simp [XC]at h
   |[],_::_,h=>simp [XC]at h
   |_::_,[],h=>simp [XC]at h
   |[_],[_],h=>simp [XC]at h
   |[_],_::_::_,h=>simp [XC]at h
   |_::_::_,[_],h=>simp [XC]at h
   |[k1,k2],[x,y],h=>exact⟨_,_,_,_,rfl,rfl⟩
   |[_,_],_::_::_::_,h=>simp [XC]at h
   |_::_::_::_,[_,_],h=>simp [XC]at h
   |_::_::_::_,_::_::_::_,h=>simp [XC]at h
  obtain⟨k1,k2,x,y,rfl,rfl⟩:=hk;simp only[XC]at h ⊢;obtain⟨b1,h1,h2⟩:=bg.1 h;obtain⟨b2,h3,h4⟩:=cO.1 h2;obtain⟨b3,h5,h6⟩:=bg.1 h3;simp only[fB,χ,Bool.and_true]at h6;subst h6;simp only[dr]at h4;obtain⟨rfl,rfl⟩:=h4;obtain⟨rfl,a,rfl,e1⟩:=aei h1;obtain⟨rfl,z,rfl,e2⟩:=aej h5;have e1:=eq_of_beq e1.symm;rw[VP]at e2;have e2:=of_decide_eq_true e2.symm;subst e1 e2;simp only[A.jQ,A.jR,A.mR,if_true,aA,fB,χ,Bool.and_eq_false_iff,Bool.and_true,VP];by_cases e1:a=m
  ·right;rw[decide_eq_false_iff_not];intro e2;exact hne (by rw[e1,e2])
  ·left;rw[beq_eq_false_iff_ne];exact e1
theorem abQ{e:A.EK}{k:U}{es gH:List (U×U)}{r:Option U}(hd:Di es)(hp:gH.Perm es)(h:YB e k es=δ r):YB e k gH=δ r:=by
 cases r with
 |none=>exact PT λp hm=>Q5 h p (hp.mem_iff.1 hm)
 |some v=>
  obtain⟨p,h1,rfl,h3⟩:=Q6 h;refine PU h3 (hp.mem_iff.2 h1) ((hp.map _).nodup_iff.2 hd.2) λq hq hne=>?_
  obtain⟨n,s,e1⟩:=hd.1 p h1;obtain⟨m,t,e2⟩:=hd.1 q (hp.mem_iff.1 hq);rw[e1]at h3 hne;rw[e2]at hne ⊢;exact abL h3 hne
theorem acy{c:RC}{es:List (U×U)}{l L:List MapEntry}(h:bN c es l)(hp:To es l L):∃gH,bN c gH L/\gH.length=es.length/\∀e k r,YB e k es=δ r->YB e k gH=δ r:=by
 rcases hp with rfl|⟨hp,hd⟩
 ·exact⟨es,h,rfl,λ_ _ _ q=>q⟩
 ·obtain⟨gH,k1,k2⟩:=adD hp h;exact⟨gH,k1,k2.length_eq,λ_ _ _ q=>abQ hd k2 q⟩
theorem Qg{P:Program}(hw:c.w=w){σ:Heap}(hh:fS c σ){m:U}{v:Value}{aV:List (U×U)}(h:alB m σ=δ aV)(r:an c m v):
  ∃(es:Array MapEntry)(iA:List (U×U)),bN c iA es.toList/\iA.length=aV.length/\(∀e k r,YB e k aV=δ r->YB e k iA=δ r)/\((v=.map μ/\es=#[])\/∃b bh,v=.map (δ b)/\(getObj b).run P w=.ok (.map es bh) w):=by
 cases m<;>simp only[alB]at h<;>first|(cases h;done)|skip
 case nm=>
  injection h with h;subst h
  simp only[an]at r;exact⟨#[],[],by simp [bN],rfl,λ_ _ _ q=>q,.inl ⟨r,rfl⟩⟩
 case fm gH=>
  injection h with h;subst h
  simp only[an]at r;obtain⟨b,e,_,_,es,bh,k1,_,l,k2,k3⟩:=r;rw[hw]at k1;obtain⟨sW,j1,j2,j3⟩:=acy k2 k3;exact⟨es,sW,j1,j2,j3,.inr ⟨b,bh,e,by simp [getObj,Zb,k1]⟩⟩
 case om id=>
  simp only[an]at r;obtain⟨p,h1,h2,e⟩:=r;split at h
  ·rename_i gH hs;injection h with h;subst h
   obtain⟨_,es,bh,k1,_,k2⟩:=hh.blk id p _ h1 hs;rw[hw]at k1;exact⟨es,_,k2,rfl,λ_ _ _ q=>q,.inr ⟨p.b,bh,e,by simp [getObj,Zb,k1]⟩⟩
  ·cases h
theorem adv(X:Fx)(hw:c.w=w){σ:Heap}(hh:fS c σ){t kt et:TypeId}{inf:TypeInfo}{zv:Value}{ek:A.EK}{ok:Bool}{m k av:U}{mv key:Value}(ht:X.P.underlying t=δ (.map kt et))(hi:X.P.info? et=δ inf)(hz:inf.zero=δ zv)(he:jP X kt=δ ek)
  (h:(bif ok then A.Mw ek m k (qZ zv) σ else Yg ek m k (qZ zv) σ)=δ av) (rm:an c m mv) (rk:an c k key):∃v,(Instr.lookup t mv key ok).run X.P w=.ok v w/\an c av v:=by
 have ahr:∃aV r,A.ju ek k=θ/\alB m σ=δ aV/\YB ek k aV=δ r/\av=(bif ok then .az [r.getD (qZ zv),.bool r.isSome]else r.getD (qZ zv)):=by
  cases ok<;>simp only[bG,aZ,Yg,A.Mw]at h
  all_goals
   cases hk:A.ju ek k
   ·rw[hk]at h;cases h
   ·rw[hk]at h;simp only[bG]at h;obtain⟨aV,h1,h2⟩:=bg.1 h;obtain⟨r,h3,h4⟩:=cO.1 h2;exact⟨aV,r,rfl,h1,h3,h4.symm⟩
 obtain⟨aV,r,hk,h1,h2,rfl⟩:=ahr;obtain⟨es,iA,k1,_,kf,k2⟩:=Qg (P:=X.P) w hw hh h1 rm;obtain⟨res,k3,k4,_⟩:=LL w X he hk rk (kf _ _ _ h2) k1;have nY:(zeroValue et).run X.P w=.ok zv w:=by simp [zeroValue,rU w hi,hz]
 have uG:=FW w X he hk rk es.isEmpty
 have main:∀v b,(res=μ->v=zv/\b=ξ)->(∀i u,res=δ (i,u)->v=u/\b=θ)->(Instr.lookup t mv key ok).run X.P w=.ok (if ok then .tuple #[v,.bool b]else v) w:=by
  intro v b hn hs;unfold Instr.lookup;simp only[l5,run_underlying ht,Ω];rcases k2 with⟨rfl,rfl⟩|⟨bb,bh,rfl,hg⟩
  ·simp only[Xe,Ω,uG,l5,k3];cases res with
   |none=>obtain⟨rfl,rfl⟩:=hn rfl;simp [nY]
   |some p=>obtain⟨i,u⟩:=p;obtain⟨rfl,rfl⟩:=hs i u rfl;simp
  ·simp only[l5,hg,Xe,Ω,uG,k3];cases res with
   |none=>obtain⟨rfl,rfl⟩:=hn rfl;simp [nY]
   |some p=>obtain⟨i,u⟩:=p;obtain⟨rfl,rfl⟩:=hs i u rfl;simp
 have fin:∀v b,an c (r.getD (qZ zv)) v->r.isSome=b->an c (bif ok then .az [r.getD (qZ zv),.bool r.isSome]else r.getD (qZ zv)) (if ok then .tuple #[v,.bool b]else v):=by
  intro v b h1 h2;cases ok
  ·simpa using h1
  ·simp only[bG,if_true,an];refine⟨_,rfl,?_⟩;simp only[aF];exact⟨v,_,rfl,h1,_,_,rfl,by simp [an,h2],rfl⟩
 cases res with
 |none=>
  cases r with
  |none=>exact⟨_,main zv ξ (λ_=>⟨rfl,rfl⟩) (λi u e=>by cases e),fin zv ξ (Rl c zv) rfl⟩
  |some x=>exact k4.elim
 |some p=>
  obtain⟨i,u⟩:=p;cases r with
  |none=>exact k4.elim
  |some x=>exact⟨_,main u θ (λe=>by cases e) (λi' u' e=>by injection e with e;injection e with _ e;exact⟨e,rfl⟩),fin u θ k4.1 rfl⟩
theorem find_born{f:MapEntry->Nat}:∀{l:List MapEntry}{e:MapEntry},(l.map f).Nodup->e∈l->l.find? (λx=>f x==f e)=δ e
 |[],e,_,h=>by simp at h
 |x::l,e,hn,h=>by
  simp only[fH,alo]at hn;rcases eG.1 h with rfl|h
  ·simp
  ·have hne:f x≠f e:=λk=>hn.1 (kZ.2 ⟨e,h,k.symm⟩)
   have:(f x==f e)=ξ:=by simpa using hne
   rw[al7,this];exact find_born hn.2 h
theorem abK{P:Program}(hw:c.w=w){σ:Heap}(hh:fS c σ){i av:U}{v:Value}(hk:A.Ms i σ=δ av)(ri:an c i v):∃v',(Instr.entry v).run P w=.ok v' w/\an c av v':=by
 subst hw;unfold A.Ms at hk;split at hk
 ·rename_i id;simp only[an]at ri;obtain⟨p,e1,e2,rfl⟩:=ri;split at hk
  ·rename_i q left hs;injection hk with hk
   subst hk;obtain⟨hg,hit⟩:=hh.blk id p _ e1 hs;rcases hit with⟨hn,_⟩|⟨m,seen,aV,bh,h3,h4,h5,h6,h7,h8,h9⟩
   ·cases hn
   ·rcases h9 with h9|⟨k',v',e,e3,e4,e5,e6,e7⟩
    ·cases h9
    ·injection e3 with e3
     subst e3;have jx:(getObj p.b).run P c.w=.ok (.mapIter (δ m) bh seen bh) c.w:=by simp [getObj,Zb,show c.w.heap[p.b]? =_ from h3]
     have za:(getObj m).run P c.w=.ok (.map aV bh) c.w:=by simp [getObj,Zb,show c.w.heap[m]? =_ from h6]
     have hf:aV.find? (λx=>x.born==e.born)=δ e:=by rw[<-Array.find?_toList];exact find_born (f:=(·.born)) h7.2 e5
     refine⟨.tuple #[e.key,e.val],by simp [Instr.entry,jx,za,e4,hf],?_⟩;simp only[an];exact⟨_,rfl,by simp only[aF];exact⟨_,_,rfl,e6,_,_,rfl,e7,rfl⟩⟩
  ·cases hk
 ·cases hk
end
end
section
open Go.RowKit
section
variable {X : Fx} {z : Z} {s : AS} {a : Act} {w w' : World} {E : List Pl} {pb : Nat -> Option Nat}
def dA(X:Fx)(z:Z)(a:Act)(w:World)(E:List Pl)(pb:Nat->Option Nat)(o:Oper)(av:U):Prop:=∃v w',(execOp a.eval o).run X.P w=.ok (.value v) w'/\Below w.heap.size w w'/\an (ctx z w' E pb) av v
theorem dA.same{o:Oper}{av:U}{v:Value}(h:(execOp a.eval o).run X.P w=.ok (.value v) w)(r:an (ctx z w E pb) av v):dA X z a w E pb o av:=⟨v,w,h,Below.refl _ _,r⟩
theorem F5(h:St X z s a w E pb)(t:TypeId){cs:List U}{arr:Array Value}(r:aF (ctx z w E pb) cs arr.toList)(ho:∀x∈arr.toList,cx x=θ):
  Below w.heap.size w (w.alloc (.cells arr t))/\w.heap.size<(w.alloc (.cells arr t)).heap.size/\¬(ctx z (w.alloc (.cells arr t)) E pb).X w.heap.size/\aT (ctx z (w.alloc (.cells arr t)) E pb) w.heap.size 0 cs:=by
 have g:Below w.heap.size w (w.alloc (.cells arr t)):=(Below.refl _ _).alloc (bL _) _;have hx:Ext (ctx z w E pb) (ctx z (w.alloc (.cells arr t)) E pb):=pe g;have hb:(w.alloc (.cells arr t)).heap[w.heap.size]? =δ (.cells arr t (0,0)):=(ZJ w _).1;exact⟨g,by simp,h.fresh,aT.uK hb (ZD hx _ _ r) ho (λi hi=>by simp)⟩
theorem tN{P:Program}(t:TypeId)(arr:Array Value):(newRow t arr).run P w=.ok ⟨w.heap.size,0,μ⟩ (w.alloc (.cells arr t)):=by rfl
theorem tQ{t:TypeId}{zs:List U}(h:qn X t=δ zs)(c:RC):∃i v,X.P.info? t=δ i/\i.zero=δ v/\(zeroValue t).run X.P w=.ok v w/\zs=v.cells.toList.map xw/\aF c zs v.cells.toList/\∀x∈v.cells.toList,cx x=θ:=by
 unfold qn at h;split at h
 ·rename_i i hi;split at h
  ·rename_i v hv;cases ho:v.cells.toList.all cx
   ·rw[ho]at h;cases h
   ·rw[ho]at h;simp only[bG]at h;injection h with h
    refine⟨i,v,hi,hv,by simp [zeroValue,rU w hi,hv],h.symm,?_,nM.1 ho⟩;rw[<-h];have:=aF.map (c:=c) xw id v.cells.toList (λx _=>Lg c x);simpa using this
  ·cases h
 ·cases h
theorem lQ.map(h:St X z s a w E pb)(x:Option Operand):lQ (ctx z w E pb) (x.map (ev X s)) (x.map a.eval):=by
 cases x with
 |none=>trivial
 |some x=>exact dD h x
theorem aj6(h:St X z s a w E pb){dst:Option Tmp}{t ty:TypeId}{pos:String}{af:Array Edge}{g:Option (Nat×Bool)}{cs:List U}(hz:qn X t=δ cs):
  dA X z a w E pb ⟨dst,.alloc t,ty,pos,af,g⟩ (.rp cs):=by
 obtain⟨i,v,h1,h2,h3,h4,h5,h6⟩:=tQ (w:=w) hz (ctx z w E pb);obtain⟨k1,k2,k3,k4⟩:=F5 h t h5 h6;refine⟨.pointer (δ ⟨w.heap.size,0,μ⟩),_,?_,k1,by simp only[an];exact⟨_,_,rfl,k2,k3,k4⟩⟩;simp [execOp,Instr.alloc,h3,newVar,tN]
theorem aaJ(h:St X z s a w E pb){dst:Option Tmp}{t ty:TypeId}{x:Operand}{pos:String}{af:Array Edge}{g:Option (Nat×Bool)}{cs:List U}(hc:uf X t (ev X s x)=δ cs):
  dA X z a w E pb ⟨dst,.box t x,ty,pos,af,g⟩ (.rp cs):=by
 obtain⟨h5,h6,_,_⟩:=AR X hc (dD h x);obtain⟨k1,k2,k3,k4⟩:=F5 h t h5 h6;refine⟨.pointer (δ ⟨w.heap.size,0,μ⟩),_,?_,k1,by simp only[an];exact⟨_,_,rfl,k2,k3,k4⟩⟩;simp [execOp,Instr.box,newVar,tN]
theorem FN{t:TypeId}{f off:Nat}{ft:TypeId}(h:xg X t f=δ (off,ft)):∃fs fl,X.P.underlying t=δ (.struct fs)/\fs[f]? =δ fl/\fl.offset=off/\fl.type=ft:=by
 unfold xg at h;split at h
 ·rename_i fs hd;split at h
  ·rename_i fl hf;simp only[χ,Θ]at h;exact⟨fs,fl,hd,hf,h.1,h.2⟩
  ·cases h
 ·cases h
theorem Qn{P:Program}:∀(fs:List Field),fs.all (λf=>(P.info? f.type).isSome)=θ->(fs.mapM (λf=>do pure (f.offset,<-sizeOf f.type)):Sem (List (Nat×Nat))).run P w=.ok (fs.map λf=>(f.offset,P.cellsOf f.type)) w
 |[],_=>by simp
 |f::fs,h=>by simp only[Z4,dr]at h;obtain⟨i,hi⟩:=amb.1 h.1;have ih:=Qn fs h.2;simp only[List.mapM_cons,l5,CA w hi,Ω,Xe,ih,fH]
theorem Zi(h:St X z s a w E pb){dst:Option Tmp}{t ty:TypeId}{ps:Array (Nat×Operand)}{pos:String}{af:Array Edge}{g:Option (Nat×Bool)}{zs cs:List U}{fs:Array Field}(hz:qn X t=δ zs)(hd:X.P.underlying t=δ (.struct fs))
  (hi:fs.toList.all (λf=>(X.P.info? f.type).isSome)=θ) (hf:lM X s (xg X t) ps.toList zs=δ cs):dA X z a w E pb ⟨dst,.build t ps,ty,pos,af,g⟩ (.agg cs):=by
 obtain⟨i,v,h1,h2,h3,h4,h5,h6⟩:=tQ (w:=w) hz (ctx z w E pb);have hpl:=Qn (w:=w) fs.toList hi
 obtain⟨arr,k1,k2,k3⟩:=Gy (c:=ctx z w E pb) (ρ:=a.eval) (λx=>dD h x) (pl:=xg X t) (place:=λj=>((fs.toList.map λf=>(f.offset,X.P.cellsOf f.type)).toArray)[j]?) (λj off t' hj=>by
   obtain⟨fs',fl,e1,e2,e3,e4⟩:=FN hj;rw[hd]at e1;injection e1 with e1;injection e1 with e1;subst e1
   simp [e2,e3,e4]) ps.toList _ cs v.cells hf h5 h6
 refine dA.same (v:=.agg arr) ?_ (by simp only[an];exact⟨arr,rfl,k2,k3⟩);have hps:(ps.map λ(p:Nat×Operand)=>(p.1,a.eval p.2)).toList=ps.toList.map λp=>(p.1,a.eval p.2):=by simp
 simp only[execOp,Instr.build,l5,run_underlying hd,Ω,h3,Array.mapM_eq_mapM_toList,Sem.run_map,hpl,hps];rw[k1];simp
theorem akD(h:St X z s a w E pb){dst:Option Tmp}{t e ty:TypeId}{len:Nat}{ps:Array (Nat×Operand)}{pos:String}{af:Array Edge}{g:Option (Nat×Bool)}{zs cs:List U}{i:TypeInfo}{av:U}
  (hd:X.P.underlying t=δ (.slice e)) (hi:X.P.info? e=δ i) (hz:qn X e=δ zs) (h0:i.size≠0) (hl:zs.length=i.size) (hm:¬16777216<len*i.size) (zQ:(len=0/\av=.ez)\/av=.sl i.size (lI i.size len cs))
  (hf:lM X s (λj=>δ (j*i.size,e)) ps.toList (w4 len zs).flatten=δ cs):dA X z a w E pb ⟨dst,.buildSlice t len ps,ty,pos,af,g⟩ av:=by
 obtain⟨i',v,h1,h2,h3,h4,h5,h6⟩:=tQ (w:=w) hz (ctx z w E pb);rw[hi]at h1;injection h1 with h1;subst h1
 have hvl:v.cells.toList.length=i.size:=by rw[<-h5.length];exact hl
 have hce:X.P.cellsOf e=i.size:=by simp [alF,hi]
 have hsz:(sizeOf e).run X.P w=.ok i.size w:=by rw[<-hce];exact CA w hi
 obtain⟨zr,nY,DQ⟩:∃zr:Array Value,((len*i.size=0/\zr=#[])\/(¬len*i.size=0/\zr=v.cells))/\((alC (len*i.size)).map (zr[· % zr.size]!)).toList=(w4 len v.cells.toList).flatten:=by
  by_cases dP:len*i.size=0
  ·have:len=0:=(Nat.mul_eq_zero.1 dP).resolve_right h0;subst this;exact⟨#[],.inl ⟨dP,rfl⟩,by simp⟩
  ·refine⟨v.cells,.inr ⟨dP,rfl⟩,?_⟩;have:=range_zero v.cells.toList (by omega) len;rw[hvl]at this;rw[<-this];simp
 obtain⟨arr,k1,k2,k3⟩:=Gy (c:=ctx z w E pb) (ρ:=a.eval) (λx=>dD h x) (pl:=λj=>δ (j*i.size,e)) (place:=λj=>δ (j*i.size,i.size)) (λj off t' hj=>by simp only[χ,Θ]at hj;obtain⟨rfl,rfl⟩:=hj;rw[hce]) ps.toList _ cs
  ((alC (len*i.size)).map (zr[· % zr.size]!)) hf (by rw[DQ];exact h5.flatten len) (by
   rw[DQ];intro x hx;obtain⟨l,hl1,qy⟩:=akM.1 hx;rw[ZS]at hl1
   exact h6 x (hl1.2▸qy))
 obtain⟨j1,j2,j3,j4⟩:=F5 h e k2 k3
 have hcl:cs.length=len*i.size:=by
  have hlen:∀(ps:List (Nat×Operand))(cs cs':List U),lM X s (λj=>δ (j*i.size,e)) ps cs=δ cs'->cs'.length=cs.length:=by
   intro ps;induction ps with
   |nil=>intro cs cs' e;simp only[lM]at e;injection e with e;rw[e]
   |cons p ps ih=>
    intro cs cs' e;obtain⟨q,x⟩:=p;simp only[lM]at e;obtain⟨new,e1,e2⟩:=bg.1 e;obtain⟨c2,e3,e4⟩:=bg.1 e2;rw[ih _ _ e4];unfold w8 at e3;split at e3
    ·injection e3 with e3;subst e3;simp;omega
    ·cases e3
  rw[hlen _ _ _ hf];simp [List.length_flatten,hl]
 refine⟨.slice (δ ⟨w.heap.size,0,μ⟩) len len,_,?_,j1,?_⟩
 ·have hps:(ps.map λ(p:Nat×Operand)=>(p.1,a.eval p.2)).toList=ps.toList.map λp=>(p.1,a.eval p.2):=by simp
  have hm':¬len*i.size>2 ^ 24:=hm;rcases nY with⟨e1,e2⟩|⟨e1,e2⟩
  ·simp only[execOp,akN,l5,run_underlying hd,Ω,hsz,aD hm',aE e1,Xe,hps];rw[<-e2,k1];simp [tN]
  ·simp only[execOp,akN,l5,run_underlying hd,Ω,hsz,aD hm',aD e1,h3,Xe,hps];rw[<-e2,k1];simp [tN]
 ·rcases zQ with⟨rfl,rfl⟩|rfl
  ·simp [an]
  simp only[an];refine⟨_,_,by rw[F2],by rw[F2];exact bL _,by omega,?_⟩;by_cases hl0:len=0
  ·left;subst hl0;rfl
  ·right;exact⟨_,_,rfl,j2,j3,La len 0 cs hcl j4⟩
theorem akq(h:St X z s a w E pb){dst:Option Tmp}{t e ty:TypeId}{len:Nat}{ps:Array (Nat×Operand)}{pos:String}{af:Array Edge}{g:Option (Nat×Bool)}{zs cs:List U}{i:TypeInfo}
  (hd:X.P.underlying t=δ (.slice e)) (hi:X.P.info? e=δ i) (hz:qn X e=δ zs) (h0:i.size≠0) (hl:zs.length=i.size) (hm:¬16777216<len*i.size)
  (hf:lM X s (λj=>δ (j*i.size,e)) ps.toList (w4 len zs).flatten=δ cs):∃arr:Array Value,(execOp a.eval ⟨dst,.buildSlice t len ps,ty,pos,af,g⟩).run X.P w=.ok (.value (.slice (δ ⟨w.heap.size,0,μ⟩) len len)) (w.alloc (.cells arr e))/\arr.size=len*i.size/\aF (ctx z w E pb) cs arr.toList/\(∀x∈arr.toList,cx x=θ)/\cs.length=len*i.size:=by
 obtain⟨i',v,h1,h2,h3,h4,h5,h6⟩:=tQ (w:=w) hz (ctx z w E pb);rw[hi]at h1;injection h1 with h1;subst h1
 have hvl:v.cells.toList.length=i.size:=by rw[<-h5.length];exact hl
 have hce:X.P.cellsOf e=i.size:=by simp [alF,hi]
 have hsz:(sizeOf e).run X.P w=.ok i.size w:=by rw[<-hce];exact CA w hi
 obtain⟨zr,nY,DQ⟩:∃zr:Array Value,((len*i.size=0/\zr=#[])\/(¬len*i.size=0/\zr=v.cells))/\((alC (len*i.size)).map (zr[· % zr.size]!)).toList=(w4 len v.cells.toList).flatten:=by
  by_cases dP:len*i.size=0
  ·have:len=0:=(Nat.mul_eq_zero.1 dP).resolve_right h0;subst this;exact⟨#[],.inl ⟨dP,rfl⟩,by simp⟩
  ·refine⟨v.cells,.inr ⟨dP,rfl⟩,?_⟩;have:=range_zero v.cells.toList (by omega) len;rw[hvl]at this;rw[<-this];simp
 obtain⟨arr,k1,k2,k3⟩:=Gy (c:=ctx z w E pb) (ρ:=a.eval) (λx=>dD h x) (pl:=λj=>δ (j*i.size,e)) (place:=λj=>δ (j*i.size,i.size)) (λj off t' hj=>by simp only[χ,Θ]at hj;obtain⟨rfl,rfl⟩:=hj;rw[hce]) ps.toList _ cs
  ((alC (len*i.size)).map (zr[· % zr.size]!)) hf (by rw[DQ];exact h5.flatten len) (by
   rw[DQ];intro x hx;obtain⟨l,hl1,qy⟩:=akM.1 hx;rw[ZS]at hl1
   exact h6 x (hl1.2▸qy))
 obtain⟨j1,j2,j3,j4⟩:=F5 h e k2 k3
 have hcl:cs.length=len*i.size:=by
  have hlen:∀(ps:List (Nat×Operand))(cs cs':List U),lM X s (λj=>δ (j*i.size,e)) ps cs=δ cs'->cs'.length=cs.length:=by
   intro ps;induction ps with
   |nil=>intro cs cs' e;simp only[lM]at e;injection e with e;rw[e]
   |cons p ps ih=>
    intro cs cs' e;obtain⟨q,x⟩:=p;simp only[lM]at e;obtain⟨new,e1,e2⟩:=bg.1 e;obtain⟨c2,e3,e4⟩:=bg.1 e2;rw[ih _ _ e4];unfold w8 at e3;split at e3
    ·injection e3 with e3;subst e3;simp;omega
    ·cases e3
  rw[hlen _ _ _ hf];simp [List.length_flatten,hl]
 refine⟨arr,?_,by have:=k2.length;rw[hcl]at this;simpa using this.symm,k2,k3,hcl⟩
 ·have hps:(ps.map λ(p:Nat×Operand)=>(p.1,a.eval p.2)).toList=ps.toList.map λp=>(p.1,a.eval p.2):=by simp
  have hm':¬len*i.size>2 ^ 24:=hm;rcases nY with⟨e1,e2⟩|⟨e1,e2⟩
  ·simp only[execOp,akN,l5,run_underlying hd,Ω,hsz,aD hm',aE e1,Xe,hps];rw[<-e2,k1];simp [tN]
  ·simp only[execOp,akN,l5,run_underlying hd,Ω,hsz,aD hm',aD e1,h3,Xe,hps];rw[<-e2,k1];simp [tN]
theorem adm(h:St X z s a w E pb){d t n:Nat}{ps:Array (Nat×Operand)}{ty:TypeId}{pos:String}{af:Array Edge}{g:Option (Nat×Bool)}{sz:Nat}{es:List (List U)}
  (hv:eI X ⟨δ d,.buildSlice t n ps,ty,pos,af,g⟩ s μ=δ (.sl sz es)):∃(arr:Array Value)(et:TypeId),(execOp a.eval ⟨δ d,.buildSlice t n ps,ty,pos,af,g⟩).run X.P w=.ok (.value (.slice (δ ⟨w.heap.size,0,μ⟩) es.length es.length)) (w.alloc (.cells arr et))/\
   arr.size=es.length*sz/\0<sz/\(∀c',c'.w.heap[w.heap.size]? =δ (.cells arr et (0,0))->Ext (ctx z w E pb) c'->aY c' sz w.heap.size 0 es)/\∀x∈arr.toList,cx x=θ:=by
 simp only[eI]at hv;split at hv
 ·rename_i e hd;split at hv
  ·rename_i i zs hi hz;cases h0:(i.size==0||zs.length !=i.size)
   ·rw[h0]at hv;simp only[aZ]at hv;simp only[iW,beq_eq_false_iff_ne,bne_eq_false_iff_eq]at h0;cases hm:akK 16777216 (n*i.size)
    ·rw[hm]at hv;simp only[aZ]at hv;obtain⟨cs,h1,h2⟩:=bg.1 hv;cases hn:(n==0)
     ·rw[hn]at h2;simp only[aZ,χ,U.sl.injEq]at h2;obtain⟨rfl,rfl⟩:=h2;obtain⟨arr,k1,k2,k3,k4,k5⟩:=akq (dst:=δ d) (ty:=ty) (pos:=pos) (af:=af) (g:=g) h hd hi hz h0.1 h0.2 (λk=>by rw[show akK 16777216 (n*i.size)=θ from by simpa [Nat.blt_eq]using k]at hm;cases hm) h1;rw[F2];exact⟨arr,e,k1,k2,Nat.pos_of_ne_zero h0.1,λc' hb hx=>La n 0 cs k5 (aT.uK hb (ZD hx _ _ k3) k4 (λj hj=>by simp)),k4⟩
     ·rw[hn]at h2;cases h2
    ·rw[hm]at hv;cases hv
   ·rw[h0]at hv;cases hv
  ·cases hv
 ·cases hv
theorem aeR(h:St X z s a w E pb){tag:Option (Nat×Bool)}(ht:nI a tag){o:Oper}{av:U}(hv:eI X o s tag=δ av)(hc:∀c,o.op=.call c->∃b,c.callee=.builtin b):dA X z a w E pb o av:=by
 obtain⟨dst,op,ty,pos,af,g⟩:=o;cases op<;>simp only[eI]at hv<;>first|(cases hv;done)|skip
 case move x=>injection hv with hv;subst hv;exact dA.same (by simp [execOp]) (dD h x)
 case assign x=>injection hv with hv;subst hv;exact dA.same (by simp [execOp]) (dD h x)
 case pick x y u=>
  have r:=dD h x;generalize ev X s x=vx at *
  cases vx<;>simp only[i6]at hv<;>first|(cases hv;done)|skip
  rename_i b;injection hv with hv
  simp only[an]at r;cases b
  ·simp only[aZ]at hv;subst hv;exact dA.same (v:=a.eval u) (by simp [execOp,r,asBool]) (dD h u)
  ·simp only[bG]at hv;subst hv;exact dA.same (v:=a.eval y) (by simp [execOp,r,asBool]) (dD h y)
 case alloc t=>
  split at hv
  ·injection hv with hv;subst hv;exact aj6 h (by assumption)
  ·cases hv
 case box t x=>
  obtain⟨cs,h1,h2⟩:=bg.1 hv;injection h2 with h2;subst h2
  exact aaJ h h1
 case build t ps=>
  split at hv
  ·rename_i zs fs hz hd;cases hi:fs.toList.all (λf=>(X.P.info? f.type).isSome)
   ·rw[hi]at hv;cases hv
   ·rw[hi]at hv;simp only[bG]at hv;obtain⟨cs,h1,h2⟩:=bg.1 hv;injection h2 with h2;subst h2
    exact Zi h hz hd hi h1
  ·cases hv
 case buildSlice t len ps=>
  split at hv
  ·rename_i e hd;split at hv
   ·rename_i i zs hi hz;cases h0:(i.size==0||zs.length !=i.size)
    ·rw[h0]at hv;simp only[aZ]at hv;simp only[iW,beq_eq_false_iff_ne,bne_eq_false_iff_eq]at h0;cases hm:akK 16777216 (len*i.size)
     ·rw[hm]at hv;simp only[aZ]at hv;obtain⟨cs,h1,h2⟩:=bg.1 hv;injection h2 with h2;subst h2
      refine akD h hd hi hz h0.1 h0.2 (λk=>by rw[show akK 16777216 (len*i.size)=θ from by simpa [Nat.blt_eq]using k]at hm;cases hm) ?_ h1;by_cases hl:len=0
      ·subst hl;exact .inl ⟨rfl,rfl⟩
      ·exact .inr (by rw[show(len==0)=ξ by simpa using hl];rfl)
     ·rw[hm]at hv;cases hv
    ·rw[h0]at hv;cases hv
   ·cases hv
  ·cases hv
 case load t x=>
  split at hv
  ·rename_i b off hp;obtain⟨cs,h1,h2⟩:=bg.1 hv;obtain⟨k,k1,k2,k3,k4⟩:=A2 h ht hp h1;obtain⟨v,j1,j2⟩:=F6 (c:=ctx z w E pb) w X rfl k3.2 h2;rw[Zm]at j1;exact dA.same (by simp [execOp,Instr.loadAt,k2,Xv,j1]) j2
  ·obtain⟨cs,h1,h2⟩:=bg.1 hv;obtain⟨b,off,k2,k3⟩:=Q3 h.heap h1 (dD h x);obtain⟨v,j1,j2⟩:=F6 (c:=ctx z w E pb) w X rfl k3 h2;rw[Nat.add_zero]at j1;exact dA.same (by simp [execOp,Instr.loadAt,k2,Xv,j1]) j2
 case nilCheck x=>
  have r:=dD h x;generalize ev X s x=vx at *
  cases vx<;>simp only[A.um]at hv<;>first|(cases hv;done)|skip
  all_goals
   injection hv with hv;subst hv
   have r':=r;simp only[an]at r
  case rp=>obtain⟨b,off,e,_⟩:=r;exact dA.same (v:=a.eval x) (by simp [execOp,e]) r'
  case op=>obtain⟨p,_,_,e⟩:=r;exact dA.same (v:=a.eval x) (by simp [execOp,e]) r'
  case oe=>obtain⟨_,p,_,_,q,e,_⟩:=r;exact dA.same (v:=a.eval x) (by simp [execOp,e]) r'
  case fn=>obtain⟨f,vs,e,_⟩:=r;exact dA.same (v:=a.eval x) (by simp [execOp,e]) r'
 case binOp op t x y u=>
  obtain⟨k,h1,h2⟩:=ad3 (c:=ctx z w E pb) w X (ox:=x) (oy:=y) hv (dD h x) (dD h y);exact dA.same (v:=k) (by simp only[execOp];rw[l5,h1];rfl) h2
 case unOp op t x=>
  have r:=dD h x;generalize ev X s x=vx at *
  cases op<;>simp only at hv<;>first|(cases hv;done)|skip
  case neg=>
   cases vx<;>simp only[A.neg]at hv<;>first|(cases hv;done)|skip
   rename_i k n;injection hv with hv;subst hv
   simp only[an]at r;exact dA.same (v:=.int k (k.wrap (0-n))) (by simp [execOp,r,Op.unary,alz]) (by simp [an])
  case not=>
   cases vx<;>simp only[HH]at hv<;>first|(cases hv;done)|skip
   rename_i b;injection hv with hv;subst hv
   simp only[an]at r;exact dA.same (v:=.bool (!b)) (by simp [execOp,r,Op.unary]) (by simp [an])
 case convert src dst' x=>
  have r:=dD h x;generalize ev X s x=vx at *
  split at hv
  ·rename_i k1 k2 hs hd;cases vx<;>simp only[A.conv]at hv<;>first|(cases hv;done)|skip
   rename_i k n;injection hv with hv;subst hv
   simp only[an]at r;exact dA.same (v:=.int k2 (k2.wrap n)) (by simp [execOp,convert,r,run_underlying hs,run_underlying hd,Conv.intToInt]) (by simp [an])
  ·rename_i hs hd;cases vx<;>simp only[A.Uk]at hv<;>first|(cases hv;done)|skip
   rename_i str;injection hv with hv;subst hv
   simp only[an]at r;exact dA.same (v:=.string str) (by simp [execOp,convert,r,run_underlying hs,run_underlying hd]) (by simp [an])
  ·cases hv
 case makeInterface t x=>
  split at hv
  ·cases hv
  ·rename_i d hn hd;injection hv with hv;subst hv
   have:X.P.concrete t=θ:=by unfold Program.concrete;rw[hd];cases d<;>first|rfl|exact absurd rfl (hn _)
   exact dA.same (v:=.iface t (a.eval x)) (by simp [execOp,run_makeInterface w t _ this]) (by simp [an])
  ·cases hv
 case makeFunc fn first caps=>
  split at hv
  ·rename_i f;cases hf:first.toList.isEmpty
   ·rw[hf]at hv;cases hv
   ·rw[hf]at hv;simp only[bG]at hv;injection hv with hv;subst hv
    have:first=#[]:=by simpa using hf
    subst this;refine dA.same (v:=.func (.func f) #[] (caps.map a.eval)) (by simp [execOp,Instr.makeFunc]) ?_;simp only[an];refine⟨f,_,rfl,by rw[h.nm];rfl,?_⟩
    simpa using Bd h caps.toList
  ·cases hv
 case slice t x lo hi mx=>
  split at hv
  ·split at hv
   ·rename_i hd;obtain⟨k,k1,k2⟩:=abq (P:=X.P) (c:=ctx z w E pb) w hd hv (dD h x) (lQ.map h lo) (lQ.map h hi);refine dA.same (v:=k) ?_ k2;simp [execOp,amc,run_underlying hd,k1]
   ·rename_i e hd;split at hv
    ·rename_i i hi';obtain⟨k,k1,k2⟩:=abp (P:=X.P) (c:=ctx z w E pb) w h.heap hd hi' hv (dD h x) (lQ.map h lo) (lQ.map h hi);refine dA.same (v:=k) ?_ k2;simp [execOp,amc,run_underlying hd,k1]
    ·cases hv
   ·cases hv
  ·split at hv
   ·rename_i e hi1 hd;split at hv
    ·rename_i i hi';obtain⟨k,k1,k2⟩:=abo (P:=X.P) (c:=ctx z w E pb) w hd hi' hv (dD h x) (lQ.map h lo) (dD h _) (dD h _);refine dA.same (v:=k) ?_ k2;simp [execOp,amc,run_underlying hd,k1]
    ·cases hv
   ·cases hv
 case entry i=>
  obtain⟨v',k1,k2⟩:=abK (P:=X.P) (c:=ctx z w E pb) w rfl h.heap hv (dD h i);exact dA.same (v:=v') (by simp [execOp,k1]) k2
 case fieldAddr t x f=>
  split at hv
  ·rename_i off ft hf;split at hv
   ·rename_i i hi;cases h0:(i.size==0)
    ·rw[h0]at hv;simp only[aZ]at hv;obtain⟨fs,fl,e1,e2,e3,e4⟩:=FN hf;have r:=dD h x;generalize ev X s x=vx at *
     have hsz:(sizeOf fl.type).run X.P w=.ok i.size w:=by rw[e4];simp [sizeOf,rU w hi]
     have h0':¬i.size=0:=by simpa using h0
     have run:∀q,a.eval x=.pointer (δ q)->(execOp a.eval ⟨dst,.fieldAddr t x f,ty,pos,af,g⟩).run X.P w=.ok (.value (.pointer (δ (q.add off)))) w:=by intro q e;simp [execOp,Instr.fieldAt,run_underlying e1,e2,e,Xv,fieldPlace,hsz,h0',e3]
     cases vx<;>simp only[A.gY]at hv<;>first|(cases hv;done)|skip
     case rp cs=>
      injection hv with hv;subst hv
      simp only[an]at r;obtain⟨b,o,e,hb,hx,r⟩:=r;exact dA.same (run _ e) (by simp only[an,lB];exact⟨b,o+off,rfl,hb,hx,r.drop off⟩)
     case op id o=>
      injection hv with hv;subst hv
      simp only[an]at r;obtain⟨p,k1,k2,e⟩:=r;exact dA.same (run _ e) (by simp only[an,lB];exact⟨p,k1,k2,rfl⟩)
     case oe id gg i' o=>
      injection hv with hv;subst hv
      simp only[an]at r;obtain⟨hg,p,k1,k2,q,e,r⟩:=r;exact dA.same (run _ e) (by simp only[an];exact⟨hg,p,k1,k2,_,rfl,λk=>by rw[r k,lB,fG]⟩)
    ·rw[h0]at hv;cases hv
   ·cases hv
  ·cases hv
 case field t x f=>
  split at hv
  ·rename_i off ft hf;obtain⟨fs,fl,e1,e2,e3,e4⟩:=FN hf;obtain⟨cs,h1,h2⟩:=bg.1 hv;have r:=dD h x;generalize ev X s x=vx at *
   cases vx<;>simp only[j0]at h1<;>first|(cases h1;done)|skip
   split at h1
   ·injection h1 with h1;subst h1
    simp only[an]at r;obtain⟨vs,e,r1,r2⟩:=r;obtain⟨v,k1,k2⟩:=abc (c:=ctx z w E pb) w X r1 r2 h2;exact dA.same (v:=v) (by simp [execOp,Instr.field,run_underlying e1,e2,e,asAgg,e3,e4,k1]) k2
   ·cases h1
  ·cases hv
 case indexAddr t x i=>
  split at hv
  ·rename_i e hd;split at hv
   ·rename_i j hj;have hsz:(sizeOf e).run X.P w=.ok j.size w:=by simp [sizeOf,rU w hj]
    have r:=dD h x;have ri:=dD h i;generalize ev X s x=vx at *
    cases vx<;>simp only[XI]at hv<;>first|(cases hv;done)|skip
    case sl sz es=>
     obtain⟨n,h1,h2⟩:=bg.1 hv;obtain⟨k,e1,e2⟩:=C5 (c:=ctx z w E pb) h1 ri;split at h2
     ·rename_i hs;subst hs;obtain⟨el,h3,h4⟩:=cO.1 h2;subst h4;simp only[an]at r;obtain⟨q,cap,e3,_,_,r⟩:=r;rcases r with r|⟨b,off,e4,hb,hx,r⟩
      ·subst r;simp at h3
      ·subst e4;refine dA.same (v:=.pointer (δ ⟨b,off+n*j.size,μ⟩)) ?_ (by simp only[an];exact⟨_,_,rfl,hb,hx,(als r h3).2⟩);simp [execOp,alf,run_underlying hd,e1,e3,asIntOf,hsz,e2,lB]
     ·cases h2
    case os id gg sz off len=>
     obtain⟨n,h1,h2⟩:=bg.1 hv;obtain⟨k,e1,e2⟩:=C5 (c:=ctx z w E pb) h1 ri;split at h2
     ·rename_i hs;subst hs;injection h2 with h2;subst h2
      simp only[an]at r;obtain⟨hg,p,k1,k2,q,cap,e3,hcap,r⟩:=r;refine dA.same (v:=.pointer (δ (q.add (n*j.size)))) ?_ ?_
      ·simp [execOp,alf,run_underlying hd,e1,e3,asIntOf,hsz,e2]
      ·simp only[an];refine⟨hg,p,k1,k2,_,rfl,λk=>?_⟩;obtain⟨j1,j2,j3⟩:=r k;rcases j2 with j2|j2
       ·omega
       ·rw[j2,lB,j1,fU];congr 1;omega
     ·cases h2
   ·cases hv
  ·rename_i len e hd;split at hv
   ·rename_i j hj;have hsz:(sizeOf e).run X.P w=.ok j.size w:=by simp [sizeOf,rU w hj]
    obtain⟨n,h1,h2⟩:=bg.1 hv;obtain⟨k,e1,e2⟩:=C5 (c:=ctx z w E pb) h1 (dD h i);have r:=dD h x;generalize ev X s x=vx at *
    have run:∀q,a.eval x=.pointer (δ q)->(execOp a.eval ⟨dst,.indexAddr t x i,ty,pos,af,g⟩).run X.P w=.ok (.value (.pointer (δ (q.add (n*j.size))))) w:=by intro q e;simp [execOp,alf,run_underlying hd,e1,e,asIntOf,hsz,e2,Xv]
    cases vx<;>simp only at h2<;>first|(cases h2;done)|skip
    case rp cs=>
     injection h2 with h2;subst h2
     simp only[an]at r;obtain⟨b,o,e,hb,hx,r⟩:=r;exact dA.same (run _ e) (by simp only[an,lB];exact⟨b,_,rfl,hb,hx,r.drop _⟩)
    case op id o=>
     injection h2 with h2;subst h2
     simp only[an]at r;obtain⟨p,k1,k2,e⟩:=r;exact dA.same (run _ e) (by simp only[an,lB];exact⟨p,k1,k2,rfl⟩)
    case oe id gg i' o=>
     injection h2 with h2;subst h2
     simp only[an]at r;obtain⟨hg,p,k1,k2,q,e,r⟩:=r;exact dA.same (run _ e) (by simp only[an];exact⟨hg,p,k1,k2,_,rfl,λk=>by rw[r k,lB,fG]⟩)
   ·cases hv
  ·cases hv
 case index t x i=>
  split at hv
  ·rename_i hd;have r:=dD h x;generalize ev X s x=vx at *
   cases vx<;>simp only[A.jk]at hv<;>first|(cases hv;done)|skip
   rename_i str;obtain⟨n,h1,h2⟩:=bg.1 hv;obtain⟨VQ,h3,h4⟩:=cO.1 h2;subst h4;obtain⟨k,e1,e2⟩:=C5 (c:=ctx z w E pb) h1 (dD h i);simp only[an]at r;refine dA.same (v:=.int .u8 VQ.toNat) ?_ (by simp [an]);have this:=h3;simp [execOp,Instr.index,run_underlying hd,e1,r,asIntOf,this]
  ·cases hv
 case lookup t m i ok=>
  split at hv
  ·rename_i kt e hd;split at hv
   ·rename_i inf ek hi he;split at hv
    ·rename_i zv hz;obtain⟨v,k1,k2⟩:=adv (c:=ctx z w E pb) w X rfl h.heap hd hi hz he hv (dD h m) (dD h i);exact dA.same (v:=v) (by simp [execOp,k1]) k2
    ·cases hv
   ·cases hv
  ·cases hv
 case extract x i=>
  have r:=dD h x;generalize ev X s x=vx at *
  cases vx<;>simp only[p4]at hv<;>first|(cases hv;done)|skip
  simp only[an]at r;obtain⟨vs,e,r⟩:=r;obtain⟨v,k1,k2⟩:=r.nth hv;refine dA.same (v:=v) ?_ k2;have:vs[i]? =δ v:=by rw[<-Zq];exact k1
  simp [execOp,Instr.extract,e,this]
 case call c=>
  obtain⟨b,hb⟩:=hc c rfl;rw[hb]at hv;simp only at hv;have re:=Bd h c.args.toList;have hargs:c.args.map a.eval=(c.args.toList.map a.eval).toArray:=by apply jv.1;simp
  obtain⟨cb,hrun⟩:∃cb,(execOp a.eval ⟨dst,.call c,ty,pos,af,g⟩).run X.P w=(builtin b c.argTypes ty cb (c.args.map a.eval)).run X.P w:=by simp only[execOp,resolve,hb,l5,Xe,Ω,invoke];exact⟨_,rfl⟩
  rw[hargs]at hrun;split at hv
  ·rename_i t x h1 h2;rw[h2]at re;generalize c.args.toList.map a.eval=vs at *
   simp only[aF]at re;obtain⟨v,_,rfl,r,rfl⟩:=re;have h1':c.argTypes=#[t]:=by apply jv.1;simpa using h1
   rw[h1']at hrun;split at hv
   ·rename_i hd;cases x<;>simp only[A.hU]at hv<;>first|(cases hv;done)|skip
    injection hv with hv;subst hv
    simp only[an]at r;subst r;exact dA.same (by rw[hrun];simp [builtin,XU,run_underlying hd,goInt];rfl) (by simp [an])
   ·rename_i e hd;cases x<;>simp only[Z0]at hv<;>first|(cases hv;done)|skip
    all_goals
     injection hv with hv;subst hv
     simp only[an]at r
    case sl sz es=>
     obtain⟨q,cap,rfl,_⟩:=r;exact dA.same (v:=.int ε es.length) (by rw[hrun];simp [builtin,XU,run_underlying hd,goInt]) (by simp [an])
    case bA=>
     subst r;exact dA.same (v:=.int ε 0) (by rw[hrun];simp [builtin,XU,run_underlying hd,goInt]) (by simp [an])
    case ez=>
     obtain⟨q,rfl⟩:=r;exact dA.same (v:=.int ε 0) (by rw[hrun];simp [builtin,XU,run_underlying hd,goInt]) (by simp [an])
    case os id gg sz off len=>
     obtain⟨_,p,_,_,q,cap,rfl,_⟩:=r;exact dA.same (v:=.int ε len) (by rw[hrun];simp [builtin,XU,run_underlying hd,goInt]) (by simp [an])
   ·rename_i kt e hd
    have:∃aV,alB x s.σ=δ aV/\av=.int ε aV.length:=by
     cases x<;>simp only[A.Vv]at hv<;>first|(cases hv;done)|skip
     case om id=>
      split at hv
      ·rename_i es hs;injection hv with hv
       exact⟨es,by simp [alB,hs],hv.symm⟩
      ·cases hv
     case nm=>injection hv with hv;exact⟨[],rfl,by simpa using hv.symm⟩
     case fm es=>injection hv with hv;exact⟨es,rfl,hv.symm⟩
    obtain⟨aV,k1,rfl⟩:=this;obtain⟨es,iA,k2,kl,_,k3⟩:=Qg (P:=X.P) (c:=ctx z w E pb) w rfl h.heap k1 r;have hl:=k2.length;rw[kl]at hl;refine dA.same (v:=.int ε aV.length) ?_ (by simp [an]);rcases k3 with⟨rfl,rfl⟩|⟨bb,bh,rfl,hg⟩
    ·rw[hrun];simp at hl;simp [builtin,XU,run_underlying hd,goInt,hl]
    ·rw[hrun];simp at hl;simp [builtin,XU,run_underlying hd,goInt,hg,hl]
   ·cases hv
  ·rename_i t x h1 h2;rw[h2]at re;generalize c.args.toList.map a.eval=vs at *
   simp only[aF]at re;obtain⟨v,_,rfl,r,rfl⟩:=re;have h1':c.argTypes=#[t]:=by apply jv.1;simpa using h1
   rw[h1']at hrun;split at hv
   ·rename_i e hd;cases x<;>simp only[A.UX]at hv<;>first|(cases hv;done)|skip
    all_goals
     injection hv with hv;subst hv
     simp only[an]at r
    case bA=>
     subst r;exact dA.same (v:=.int ε 0) (by rw[hrun];simp [builtin,akR,run_underlying hd,goInt]) (by simp [an])
    case ez=>
     obtain⟨q,rfl⟩:=r;exact dA.same (v:=.int ε 0) (by rw[hrun];simp [builtin,akR,run_underlying hd,goInt]) (by simp [an])
   ·cases hv
  ·rename_i x y h2;rw[h2]at re;generalize c.args.toList.map a.eval=vs at *
   simp only[aF]at re;obtain⟨v,_,rfl,r,u,_,rfl,q,rfl⟩:=re;unfold A.max at hv;split at hv
   ·rename_i k m k' n;injection hv with hv;subst hv
    simp only[an]at r q;subst r;subst q;exact dA.same (v:=.int k (if n>m then n else m)) (by rw[hrun];simp [builtin,Builtin.max_,Builtin.max2]) (by simp [an])
   ·cases hv
  ·rename_i x y h2;rw[h2]at re;generalize c.args.toList.map a.eval=vs at *
   simp only[aF]at re;obtain⟨v,_,rfl,r,u,_,rfl,q,rfl⟩:=re;unfold A.min at hv;split at hv
   ·rename_i k m k' n;injection hv with hv;subst hv
    simp only[an]at r q;subst r;subst q;exact dA.same (v:=.int k (if n<m then n else m)) (by rw[hrun];simp [builtin,Builtin.min_,Builtin.min2]) (by simp [an])
   ·cases hv
  ·cases hv
end
end
section
open Go.RowKit
def cg:Nat->Option Nat:=λ_=>μ
def adX(P:Program)(nm:List Nat)(f:FuncId)(args:List U)(σ:Heap)(r:U)(σ':Heap):Prop:=∃g,(∀cy w,(callFunc f cy).run P w=.ok (.enter g cy) w)/\∀(z:Z)(vs:Array Value),z.nm=nm->pN z->fS (ctx z z.w z.E cg) σ->aF (ctx z z.w z.E cg) args vs.toList->Calls P g vs z.w λe w'=>∃v E',e=.returned v/\Out z w' E'/\fS (ctx z w' E' cg) σ'/\an (ctx z w' E' cg) r v
def adY(P:Program)(nm:List Nat)(f:FuncId)(args:List U)(σ:Heap)(r:U)(σ':Heap):Prop:=∀(z:Z)(vs:Array Value),z.nm=nm->pN z->fS (ctx z z.w z.E cg) σ->aF (ctx z z.w z.E cg) args vs.toList->∃v w' E',(callFunc f vs).run P z.w=.ok (.value v) w'/\Out z w' E'/\fS (ctx z w' E' cg) σ'/\an (ctx z w' E' cg) r v
def jH(P:Program)(nm:List Nat)(f:FuncId)(args:List U)(σ:Heap)(r:U)(σ':Heap):Prop:=adX P nm f args σ r σ'\/adY P nm f args σ r σ'
structure fc (X : Fx) : Prop where
 call:∀f args σ r σ',X.call f args σ=δ (r,σ')->jH X.P X.nm f args σ r σ'
 dyn:∀f args σ r σ',X.dyn (X.nm.getD f 0) args σ=δ (r,σ')->jH X.P X.nm f args σ r σ'
section
variable {X : Fx} {z : Z} {s : AS} {a : Act} {w w' : World} {E : List Pl} {pb : Nat -> Option Nat}
theorem Ext.same{c c':RC}(hw:c'.w=c.w)(hE:c'.E=c.E)(hX:∀b,c'.X b->c.X b)(hn:c'.nm=c.nm):Ext c c':=
 ⟨by rw[hw];exact bL _,λb _ hx=>⟨by rw[hw],λk=>hx (hX b k)⟩,λi p h=>⟨p,by rw[hE];exact h,.inl rfl⟩,hn⟩
def below(z:Z)(w:World)(E:List Pl)(pb:Nat->Option Nat):Z:=⟨w,E,λb=>z.X b\/∃i,pb i=δ b,z.nm⟩
theorem LI:Ext (ctx z w E pb) (ctx (below z w E pb) w E cg):=
 Ext.same rfl rfl (λb k=>by
  rcases k with(k|k)|k|⟨i,k⟩
  ·exact .inl k
  ·exact .inr (.inr k)
  ·exact .inr (.inl k)
  ·cases k) rfl
theorem K9{w':World}{E':List Pl}:Ext (ctx (below z w E pb) w' E' cg) (ctx z w' E' pb):=
 Ext.same rfl rfl (λb k=>by
  rcases k with k|k|k
  ·exact .inl (.inl k)
  ·exact .inr (.inl k)
  ·exact .inl (.inr k)) rfl
theorem St.called(h:St X z s a w E pb){w':World}{E':List Pl}{σ':Heap}(ho:Out (below z w E pb) w' E')(hh:fS (ctx (below z w E pb) w' E' cg) σ'):St X z (s.heap σ') a w' E' pb:=by
 have hfresh:∀p∈E',w.heap.size<=p.b\/∃q∈E,q.b=p.b:=ho.fresh
 have hx:Ext (ctx z w E pb) (ctx z w' E' pb):=by
  refine⟨ho.size,λb hb hn=>⟨ho.stay b hb (λp hp e=>hn (.inr (.inl ⟨p,hp,e⟩))),?_⟩,ho.env,rfl⟩;rintro(k|⟨p,hp,k⟩|k)
  ·exact hn (.inl k)
  ·rcases hfresh p hp with e|⟨q,hq,e⟩
   ·simp only[ctx]at hb;omega
   ·exact hn (.inr (.inl ⟨q,hq,e.trans k⟩))
  ·exact hn (.inr (.inr k))
 refine h.ext hx (λi b hb=>⟨hb,ho.stay b (h.priv i b hb).2.1 (h.priv i b hb).2.2⟩) (λi b hb=>⟨(h.priv i b hb).1,nJ (h.priv i b hb).2.1 ho.size,λp hp e=>?_⟩) h.inj
  (hh.mono K9 rfl (λp hp=>rfl)) ?_
 ·rcases hfresh p hp with k|⟨q,hq,k⟩
  ·have:=(h.priv i b hb).2.1;omega
  ·exact(h.priv i b hb).2.2 q hq (k.trans e)
 ·have o:=h.out;refine⟨ho.os.trans o.os,ho.tape.trans o.tape,ho.output.trans o.output,XA o.size ho.size,λb hb hp=>?_,λi p hp=>?_,λi p hp=>?_,o.lt,o.mine⟩
  ·rw[ho.stay b (nJ hb o.size) (λp Oz e=>?_)]
   ·exact o.stay b hb hp
   ·rcases o.fresh p Oz with k|⟨q,hq,k⟩
    ·omega
    ·exact hp q hq (k.trans e)
  ·rcases ho.fresh' i p hp with k|⟨q,hq,k⟩
   ·exact .inl (XA o.size k)
   ·rcases o.fresh' i q hq with k'|⟨q',wz,k'⟩
    ·exact .inl (k▸k')
    ·exact .inr ⟨q',wz,k'.trans k⟩
  ·obtain⟨p',h1,h2⟩:=o.env i p hp;obtain⟨p'',h3,h4⟩:=ho.env i p' h1;refine⟨p'',h3,?_⟩;rcases h2 with rfl|⟨h2,h5⟩
   ·exact h4
   ·rcases h4 with rfl|⟨h6,h7⟩
    ·exact .inr ⟨h2,h5⟩
    ·exact .inr ⟨h2,by omega⟩
theorem Qu(h:St X z s a w E pb):fS (ctx (below z w E pb) w E cg) s.σ:=h.heap.mono LI rfl (λp hp=>rfl)
theorem RR(h:St X z s a w E pb):pN (below z w E pb):=by
 refine⟨?_,h.out.lt.tab.to h.out.size (λb hb hn=>h.out.stay b hb λp hp e=>hn (.inr ⟨p,hp,e⟩)) ?_⟩
 ·rintro b (k|⟨i,k⟩)
  ·exact nJ (h.out.lt b k) h.out.size
  ·exact(h.priv i b k).2.1
 ·rintro b hb ((k|⟨i,k⟩)|⟨p,hp,k⟩)
  ·exact .inl k
  ·have:=(h.priv i b k).1;omega
  ·rcases h.out.fresh p hp with q|⟨q,hq,e⟩
   ·omega
   ·exact .inr ⟨q,hq,e.trans k⟩
theorem C0(h:St X z s a w E pb){f:FuncId}{args:List U}{vs:Array Value}{r:U}{σ':Heap}(hc:jH X.P X.nm f args s.σ r σ')(ha:aF (ctx z w E pb) args vs.toList){o:Oper}{K:Act->World->Prop}{Q:Exit->Act->World->Prop}
  (ho:(execOp a.eval o).run X.P w=(callFunc f vs).run X.P w) (hK:∀v w' E',St X z (s.heap σ') a w' E' pb->an (ctx z w' E' pb) r v->K (a.put o.dst v) w'):o.wp X.P a w K Q:=by
 rcases hc with hc|hc
 ·obtain⟨g,hg,hc⟩:=hc;unfold Oper.wp;rw[ho,hg,Oper.upon_enter];refine(hc (below z w E pb) vs h.nm.symm (RR h) (Qu h) (ZD LI _ _ ha)).mono ?_;rintro e w' ⟨v,E',rfl,h1,h2,h3⟩;exact hK v w' E' (h.called h1 h2) (Yz K9 _ _ h3)
 ·obtain⟨v,w',E',k1,h1,h2,h3⟩:=hc (below z w E pb) vs h.nm.symm (RR h) (Qu h) (ZD LI _ _ ha);unfold Oper.wp;rw[ho,show(callFunc f vs).run X.P w=_ from k1,al8];exact hK v w' E' (h.called h1 h2) (Yz K9 _ _ h3)
theorem PA{f:FuncId}{c:Call}(hc:c.callee=.value (.func f)){dst:Option Tmp}{ty:TypeId}{pos:String}{af:Array Edge}{g:Option (Nat×Bool)}:
  (execOp a.eval ⟨dst,.call c,ty,pos,af,g⟩).run X.P w=(callFunc f (c.args.map a.eval)).run X.P w:=by
 simp [execOp,resolve,hc,Act.eval,Deferred.ofValue,invoke]
theorem JY{f:FuncId}{caps:Array Value}{x:Operand}{c:Call}(hc:c.callee=.value x)(hx:a.eval x=.func (.func f) #[] caps){dst:Option Tmp}{ty:TypeId}{pos:String}{af:Array Edge}{g:Option (Nat×Bool)}:
  (execOp a.eval ⟨dst,.call c,ty,pos,af,g⟩).run X.P w=(callFunc f (c.args.map a.eval++caps)).run X.P w:=by
 simp [execOp,resolve,hc,hx,Deferred.ofValue,invoke]
theorem TR(hs:fc X)(h:St X z s a w E pb){tag:Option (Nat×Bool)}(ht:nI a tag){o:Oper}{av:U}(hv:eI X o s tag=δ av){K:Act->World->Prop}{Q:Exit->Act->World->Prop}
  (hK:∀v w' E',St X z s a w' E' pb->an (ctx z w' E' pb) av v->K (a.put o.dst v) w'):o.wp X.P a w K Q:=by
 by_cases hc:∀c,o.op=.call c->∃b,c.callee=.builtin b
 ·obtain⟨v,w',h1,h2,h3⟩:=aeR h ht hv hc;unfold Oper.wp;rw[h1,al8];exact hK v w' E (h.grow h2) h3
 ·obtain⟨dst,op,ty,pos,af,g⟩:=o
  have:∃c,op=.call c/\∀b,c.callee≠.builtin b:=by refine al9 λhn=>hc λc e=>al9 λhb=>hn ⟨c,e,λb e'=>hb ⟨b,e'⟩⟩
  obtain⟨c,rfl,hb⟩:=this;simp only[eI]at hv
  have quiet:∀r,p6 r s.σ=δ av->r=δ (av,s.σ):=by
   intro r hr;unfold p6 at hr;obtain⟨p,h1,h2⟩:=bg.1 hr;split at h2
   ·rename_i he;injection h2 with h2
    rw[h1,<-he,<-h2]
   ·cases h2
  have hargs:(c.args.map a.eval).toList=c.args.toList.map a.eval:=by simp
  have hheap:s.heap s.σ=s:=rfl;cases BJ:c.callee with
  |builtin b=>exact absurd BJ (hb b)
  |invoke rr m=>rw[BJ]at hv;cases hv
  |value x=>
   rw[BJ]at hv;cases x with
   |func f=>simp only at hv;have hq:=hs.call _ _ _ _ _ (quiet _ hv);refine C0 h hq (by rw[hargs];exact Bd h _) (PA BJ) (λv w' E' h1 h2=>?_);exact hK v w' E' h1 h2
   |tmp t=>
    simp only at hv;have hq:=quiet _ hv;have r:=dD h (.tmp t);generalize ev X s (.tmp t)=vx at *
    cases vx<;>simp only[A.pH]at hq<;>first|(cases hq;done)|skip
    rename_i fn0 Dj;simp only[an]at r;obtain⟨f,cs,e1,e2,e3⟩:=r;rw[<-e2]at hq;have wz:X.dyn (X.nm.getD f 0) (c.args.toList.map (ev X s)++Dj) s.σ=δ (av,s.σ):=by rw[h.nm];exact hq
    refine C0 h (hs.dyn _ _ _ _ _ wz) (vs:=c.args.map a.eval++cs) (by rw[alH,hargs];exact(Bd h _).append e3) (JY BJ e1) (λv w' E' h1 h2=>?_);exact hK v w' E' h1 h2
   |const v=>
    simp only at hv;have hq:=quiet _ hv;have r:=dD h (.const v);generalize ev X s (.const v)=vx at *
    cases vx<;>simp only[A.pH]at hq<;>first|(cases hq;done)|skip
    rename_i fn0 Dj;simp only[an]at r;obtain⟨f,cs,e1,e2,e3⟩:=r;rw[<-e2]at hq;have wz:X.dyn (X.nm.getD f 0) (c.args.toList.map (ev X s)++Dj) s.σ=δ (av,s.σ):=by rw[h.nm];exact hq
    refine C0 h (hs.dyn _ _ _ _ _ wz) (vs:=c.args.map a.eval++cs) (by rw[alH,hargs];exact(Bd h _).append e3) (JY BJ e1) (λv w' E' h1 h2=>?_);exact hK v w' E' h1 h2
   |global g=>simp only[ev,A.pH]at hv;have:=quiet _ hv;cases this
theorem TQ(h:St X z s a w E pb){tag:Option (Nat×Bool)}(ht:nI a tag){o:Oper}{b off:Nat}(hv:iq X o s tag=δ (b,δ off)):
  (∃k,pb b=δ k/\(execOp a.eval o).run X.P w=.ok (.value (.pointer (δ ⟨k,off,μ⟩))) w):=by
 obtain⟨dst,op,ty,pos,af,g⟩:=o;cases op<;>simp only[iq]at hv<;>first|(cases hv;done)|skip
 case nilCheck x=>
  split at hv
  ·rename_i b' off' hp;injection hv with hv
   injection hv with hb hv
   subst hb;obtain⟨cs,h1,h2⟩:=bg.1 hv;simp only[χ]at h2;subst h2;obtain⟨k,k1,k2,_⟩:=A2 h ht hp h1;exact⟨k,k1,by simp [execOp,k2]⟩
  ·cases hv
 case fieldAddr t x f=>
  split at hv
  ·rename_i b' off' hp;injection hv with hv
   injection hv with hb hv
   subst hb;split at hv
   ·rename_i fo ft hf;split at hv
    ·rename_i i hi;cases h0:(i.size==0)
     ·rw[h0]at hv;simp only[aZ]at hv;obtain⟨cs,h1,h2⟩:=bg.1 hv;simp only[χ]at h2;subst h2;obtain⟨k,k1,k2,_⟩:=A2 h ht hp h1;obtain⟨fs,fl,e1,e2,e3,e4⟩:=FN hf;have hsz:(sizeOf fl.type).run X.P w=.ok i.size w:=by rw[e4];simp [sizeOf,rU w hi]
      have h0':¬i.size=0:=by simpa using h0
      exact⟨k,k1,by simp [execOp,Instr.fieldAt,run_underlying e1,e2,k2,Xv,fieldPlace,hsz,h0',e3,lB]⟩
     ·rw[h0]at hv;cases hv
    ·cases hv
   ·cases hv
  ·cases hv
 case indexAddr t x i=>
  split at hv
  ·rename_i b' off' hp;injection hv with hv
   injection hv with hb hv
   subst hb;split at hv
   ·rename_i len e hd;split at hv
    ·rename_i ie Ir;obtain⟨cs,h1,h2⟩:=bg.1 hv;obtain⟨n,h3,h4⟩:=bg.1 h2;simp only[χ]at h4;subst h4;obtain⟨k,k1,k2,_⟩:=A2 h ht hp h1;obtain⟨kk,e1,e2⟩:=C5 (c:=ctx z w E pb) h3 (dD h i);have hsz:(sizeOf e).run X.P w=.ok ie.size w:=by simp [sizeOf,rU w Ir]
     exact⟨k,k1,by simp [execOp,alf,run_underlying hd,e1,k2,asIntOf,hsz,e2,Xv,lB]⟩
    ·cases hv
   ·cases hv
  ·cases hv
theorem RT{c:RC}{b:Nat}{cs:List U}(h:vF c b cs):∃arr t,c.w.heap[b]? =δ (.cells arr t (0,0))/\aF c cs arr.toList/\∀x∈arr.toList,cx x=θ:=by
 obtain⟨⟨arr,t,h1,h2⟩,h3⟩:=h;obtain⟨vs,k1,k2,k3⟩:=h3.ID
 have:arr.toList=vs:=by
  apply List.ext_getElem?;intro i;by_cases hi:i<vs.length
  ·have:=k3 i vs[i] (by simp [hi]);rw[Zm,tJ h1]at this;rw[Zq,this];simp [hi]
  ·have hl:=k1.length;rw[lP (by simp;omega),lP (by omega)]
 rw[<-this]at k1 k2;exact⟨arr,t,h1,k1,k2⟩
theorem K4{P:Program}{t:TypeId}{b off:Nat}{v:Value}{arr:Array Value}{bt:TypeId}(hb:w.heap[b]? =δ (.cells arr bt (0,0)))(hsz:v.cells.size=P.cellsOf t)(ht:(P.info? t).isSome=θ)(ho:∀x∈v.cells.toList,cx x=θ)(hl:off+v.cells.toList.length<=arr.size):
  (Instr.storeAt t (.pointer (δ ⟨b,off,μ⟩)) v).run P w=.ok () (w.dn b (.cells (eS arr off v.cells.toList) bt (0,0))):=by
 obtain⟨i,hi⟩:=amb.1 ht;have:=AE (P:=P) (b:=b) (off:=off) (t:=bt) v.cells.toList 0 w arr hb (by simpa using hl) ho;simp [Instr.storeAt,Xv,storeVar,CA w hi,hsz,this]
theorem PL{P:Program}{t:TypeId}{d:TypeDesc}(h:P.underlying t=δ d):(P.info? t).isSome=θ:=by obtain⟨i,hi⟩:=Sy h;rw[hi];rfl
theorem Bk(arr:Array Value)(o:Nat)(l:List Value)(h:o+l.length<=arr.size)(j:Nat):(eS arr o l)[j]? =if o<=j/\j<o+l.length then l[j-o]? else arr[j]? :=by
 unfold eS;rw[List.getElem?_toArray];have h1:(arr.toList.take o).length=o:=by simp;omega
 by_cases hj:j<o
 ·rw[aD (by omega),sH,iV (by omega),ZU hj,Zq]
 ·rw[sH,jL (by omega),h1];by_cases hk:j<o+l.length
  ·rw[aE ⟨by omega,hk⟩,iV (by omega)]
  ·rw[aD (by omega),jL (by omega),W5,Zq];congr 1;omega
theorem abu(h:St X z s a w E pb){t:TypeId}{x:U}{pv v:Value}{vv:U}{new:List U}{σ':Heap}(hc:uf X t vv=δ new)(rv:an (ctx z w E pb) vv v)(hst:akO x new s.σ=δ σ')(rx:an (ctx z w E pb) x pv):
  ∃w',(Instr.storeAt t pv v).run X.P w=.ok () w'/\St X z (s.heap σ') a w' E pb:=by
 obtain⟨r1,r2,r3,d,hd⟩:=AR X hc rv;have hi:=PL hd;cases x<;>simp only[akO]at hst<;>first|(cases hst;done)|skip
 case op id off=>
  simp only[an]at rx;obtain⟨p,e1,e2,rfl⟩:=rx;split at hst
  ·rename_i cs hs;obtain⟨cs',h1,h2⟩:=cO.1 hst;subst h2;obtain⟨hg,ag5⟩:=h.heap.blk id p _ e1 hs;obtain⟨arr,bt,k1,k2,k3⟩:=RT ag5;obtain⟨k4,k5⟩:=k2.eS h1 r1;refine⟨_,K4 k1 r3 hi r2 k5,h.ug e1 _ _ λhx=>?_⟩;have hlt:p.b<w.heap.size:=h.heap.lt (p:=p) (cZ e1);have hh:=rT (w:=w) (.cells (eS arr off v.cells.toList) bt (0,0)) hlt;have k6:=ZD hx _ _ k4;exact⟨hg,⟨_,_,hh,by have:=k6.length;simpa using this.symm⟩,aT.uK hh k6 (Bi k3 r2) (λi hi=>by simp)⟩
  ·cases hst
 case oe id g i off=>
  simp only[an]at rx;obtain⟨hg0,p,e1,e2,q,rfl,rx⟩:=rx;split at hst
  ·rename_i g' sz es hs;split at hst
   ·rename_i Ep;subst Ep;obtain⟨e,h1,h2⟩:=bg.1 hst;obtain⟨e',h3,h4⟩:=cO.1 h2;subst h4;obtain⟨j1,j2,j3,j4,⟨arr,bt,j5,j6⟩,j7,j8,j9⟩:=h.heap.blk id p _ e1 hs;have hq:=rx j1.symm;subst hq;obtain⟨hel,hcs⟩:=als j8 h1
    have hsp:off+new.length<=e.length/\e'=e.take off++new++e.drop (off+new.length):=by
     unfold w8 at h3;split at h3
     ·injection h3 with h3;exact⟨by assumption,h3.symm⟩
     ·cases h3
    have hlen:i<es.length:=(cL.1 h1).1
    have hbound:p.base+i*sz+sz<=arr.size:=by have:(i+1)*sz<=es.length*sz:=nK _ hlen;rw[fU]at this;rw[j6];omega
    have hl:new.length=v.cells.toList.length:=r1.length;have k5:p.base+i*p.sz+off+v.cells.toList.length<=arr.size:=by rw[j3];omega
    refine⟨_,K4 j5 r3 hi r2 k5,h.ug e1 _ _ λhx=>?_⟩;have hlt:p.b<w.heap.size:=h.heap.lt (p:=p) (cZ e1);have hh:=rT (w:=w) (.cells (eS arr (p.base+i*p.sz+off) v.cells.toList) bt (0,0)) hlt;have hcell:∀j,(w.dn p.b (.cells (eS arr (p.base+i*p.sz+off) v.cells.toList) bt (0,0))).cell? ⟨p.b,j,μ⟩=(eS arr (p.base+i*p.sz+off) v.cells.toList)[j]? :=λj=>tJ hh
    have hold:∀j,w.cell? ⟨p.b,j,μ⟩=arr[j]? :=λj=>tJ j5
    obtain⟨aiJ,NI⟩:=hsp;have hsz:p.sz=sz:=j3;rw[hsz]at k5 hcell
    have out:∀j,(j<p.base+i*sz+off\/p.base+i*sz+off+new.length<=j)->(w.dn p.b (.cells (eS arr (p.base+i*p.sz+off) v.cells.toList) bt (0,0))).cell? ⟨p.b,j,μ⟩=w.cell? ⟨p.b,j,μ⟩:=by intro j hj;rw[hsz,hcell,hold,Bk _ _ _ k5,aD (by omega)]
    refine⟨j1,j2,j3,j4,⟨_,_,hh,by rw[hsz,LW _ _ _ k5];exact j6⟩,by simpa using j7,aY.of λj x hj=>?_,xm hh (Bi (j9 _ _ _ j5) r2)⟩;rw[gG]at hj;by_cases hij:i=j
    ·subst hij;rw[aE rfl,aE hlen]at hj;injection hj with hj;subst hj
     refine⟨by rw[NI];simp;omega,alS λk av hk=>?_⟩;by_cases hin:off<=k/\k<off+new.length
     ·have hnk:new[k-off]? =δ av:=by rw[NI,sH,jL (by simp;omega)]at hk;rw[iV (by simp;omega)]at hk;rw[<-hk];congr 1;simp;omega
      obtain⟨u,m1,m2⟩:=r1.nth hnk;refine⟨u,?_,r2 u (cZ m1),Yz hx _ _ m2⟩;show(w.dn p.b (.cells (eS arr (p.base+i*p.sz+off) v.cells.toList) bt (0,0))).cell? ⟨p.b,p.base+i*sz+k,μ⟩=_;rw[hsz,hcell,Bk _ _ _ k5,aE (by omega),<-m1];congr 1;omega
     ·have hek:e[k]? =δ av:=by
       rw[NI]at hk;by_cases hk1:k<off
       ·rw[sH,iV (by simp;omega),ZU hk1]at hk;exact hk
       ·rw[jL (by simp;omega),W5]at hk;rw[<-hk];congr 1;simp;omega
      obtain⟨u,m1,m2,m3⟩:=XS hcs hek;refine⟨u,?_,m2,Yz hx _ _ m3⟩;rw[<-m1];exact out _ (by omega)
    ·rw[aD hij]at hj;obtain⟨m1,m2⟩:=als j8 hj;refine⟨m1,alS λk av hk=>?_⟩;obtain⟨u,n1,n2,n3⟩:=XS m2 hk;refine⟨u,?_,n2,Yz hx _ _ n3⟩;rw[<-n1];have hkl:k<sz:=by rw[<-m1];exact(cL.1 hk).1
     refine out _ ?_;rcases Nat.lt_or_gt_of_ne hij with hlt'|hgt
     ·right;have:(i+1)*sz<=j*sz:=nK _ hlt';rw[fU]at this;omega
     ·left;have:(j+1)*sz<=i*sz:=nK _ hgt;rw[fU]at this;omega
   ·cases hst
  ·cases hst
end
end
section
open Go.RowKit
section
variable {X : Fx} {z : Z} {s : AS} {a : Act} {w w' : World} {E : List Pl} {pb : Nat -> Option Nat}
theorem St.move(h:St X z s a w E pb){id:Nat}{p p':Pl}{blk:bH}(hi:E[id]? =δ p)(hg:0<p.g/\p.g<p'.g)(hos:w'.os=w.os)(htp:w'.tape=w.tape)(hout:w'.output=w.output)(hsz:w.heap.size<=w'.heap.size)
  (Hz:∀b,b≠p.b->b<w.heap.size->w'.heap[b]? =w.heap[b]?) (hb:p'.b=p.b\/(w.heap.size<=p'.b/\p'.b<w'.heap.size))
  (hk:Ext (ctx z w E pb) (ctx z w' (E.set id p') pb)->mF (ctx z w' (E.set id p') pb) p' blk):
  St X z (s.heap (s.σ.set id blk)) a w' (E.set id p') pb/\Ext (ctx z w E pb) (ctx z w' (E.set id p') pb):=by
 have hm:p∈E:=cZ hi;have hid:id<E.length:=(cL.1 hi).1;have hX:(ctx z w E pb).X p.b:=.inr (.inl ⟨p,hm,rfl⟩)
 have hmem:∀q∈E.set id p',q=p'\/(q∈E):=λq hq=>by
  rcases List.mem_or_eq_of_mem_set hq with e|e
  ·exact .inr e
  ·exact .inl e
 have jx:∀(j:Nat)(q:Pl),(E.set id p')[j]? =δ q->(j=id/\q=p')\/(j≠id/\E[j]? =δ q):=λj q hq=>by
  rw[gG]at hq;by_cases e:id=j
  ·subst e;rw[aE rfl,aE hid]at hq;injection hq with hq;exact .inl ⟨rfl,hq.symm⟩
  ·rw[aD e]at hq;exact .inr ⟨λe'=>e e'.symm,hq⟩
 have hx:Ext (ctx z w E pb) (ctx z w' (E.set id p') pb):=by
  refine⟨hsz,λb sX hn=>⟨Hz b (λe=>hn (e▸hX)) sX,?_⟩,λj q hq=>?_,rfl⟩
  ·rintro(k|⟨q,hq,k⟩|k)
   ·exact hn (.inl k)
   ·rcases hmem q hq with rfl|hq
    ·rcases hb with e|⟨e,_⟩
     ·exact hn (by rw[<-k,e];exact hX)
     ·simp only[ctx]at sX;omega
    ·exact hn (.inr (.inl ⟨q,hq,k⟩))
   ·exact hn (.inr (.inr k))
  ·by_cases e:id=j
   ·subst e;simp only[ctx]at hq;rw[hi]at hq;injection hq with hq;subst hq
    exact⟨p',by simp [ctx,hid],.inr hg⟩
   ·exact⟨q,by simp only[ctx]at hq ⊢;rw[gG,aD e];exact hq,.inl rfl⟩
 refine⟨h.ext hx (λi b hpb=>⟨hpb,Hz b (λe=>(h.priv i b hpb).2.2 p hm e.symm) (h.priv i b hpb).2.1⟩) (λi b hpb=>⟨(h.priv i b hpb).1,nJ (h.priv i b hpb).2.1 hsz,λq hq=>?_⟩) h.inj
  ⟨by have:=h.heap.len;simpa [ctx]using this,λi j q r hq hr he=>?_,λj q x hq cU=>?_⟩ ?_,hx⟩
 ·rcases hmem q hq with rfl|hq
  ·rcases hb with e|⟨e,_⟩
   ·rw[e];exact(h.priv i b hpb).2.2 p hm
   ·have:=(h.priv i b hpb).2.1;omega
  ·exact(h.priv i b hpb).2.2 q hq
 ·have lt:∀(j:Nat)(q:Pl),E[j]? =δ q->q.b<w.heap.size:=λj q hq=>h.heap.lt (p:=q) (cZ hq)
  rcases jx i q hq with⟨e1,e2⟩|⟨e1,e2⟩<;>rcases jx j r hr with⟨e3,e4⟩|⟨e3,e4⟩
  ·rw[e1,e3]
  ·exfalso;rw[e2]at he;rcases hb with e|⟨e,_⟩
   ·exact e3 (h.heap.inj j id r p e4 hi (by rw[<-he,e]))
   ·have:=lt j r e4;omega
  ·exfalso;rw[e4]at he;rcases hb with e|⟨e,_⟩
   ·exact e1 (h.heap.inj i id q p e2 hi (by rw[he,e]))
   ·have:=lt i q e2;omega
  ·exact h.heap.inj i j q r e2 e4 he
 ·rcases jx j q hq with⟨e1,e2⟩|⟨e1,e2⟩
  ·subst e1;subst e2;rw[gG,aE rfl]at cU;split at cU
   ·injection cU with cU;subst cU;exact hk hx
   ·cases cU
  ·rw[gG,aD (λe=>e1 e.symm)]at cU;exact(h.heap.blk j q x e2 cU).mono hx (Hz q.b (λe=>e1 (h.heap.inj j id q p e2 hi e)) (h.heap.lt (p:=q) (cZ e2)))
 ·have o:=h.out;refine⟨hos.trans o.os,htp.trans o.tape,hout.trans o.output,XA o.size hsz,λb sX hp=>?_,λj q hq=>?_,λj q hq=>?_,o.lt,o.mine⟩
  ·rw[Hz b (λe=>?_) (nJ sX o.size)]
   ·exact o.stay b sX hp
   ·rcases o.fresh p hm with k|⟨r,hr,k⟩
    ·omega
    ·exact hp r hr (k.trans e.symm)
  ·rcases jx j q hq with⟨e1,e2⟩|⟨e1,e2⟩
   ·subst e1;subst e2;rcases hb with e|⟨e,_⟩
    ·rcases o.fresh' j p hi with k|⟨r,hr,k⟩
     ·exact .inl (by rw[e];exact k)
     ·exact .inr ⟨r,hr,by rw[e];exact k⟩
    ·exact .inl (XA o.size e)
   ·exact o.fresh' j q e2
  ·obtain⟨q',h1,h2⟩:=o.env j q hq;by_cases e:id=j
   ·subst e;rw[hi]at h1;injection h1 with h1;subst h1
    refine⟨p',by simp [hid],?_⟩;rcases h2 with rfl|⟨h2,h3⟩
    ·exact .inr hg
    ·exact .inr ⟨h2,by omega⟩
   ·exact⟨q',by rw[gG,aD e];exact h1,h2⟩
theorem aY.cells{c:RC}{sz b:Nat}:∀{es:List (List U)}{off:Nat},aY c sz b off es->aT c b off es.flatten/\es.flatten.length=es.length*sz
 |[],off,h=>by simp [aT]
 |e::es,off,h=>by
  simp only[aY]at h;obtain⟨h1,h2,h3⟩:=h;obtain⟨k1,k2⟩:=aY.cells h3;refine⟨alS λi av hi=>?_,by simp [k2,h1,fU];omega⟩;simp only[WM]at hi;by_cases hl:i<e.length
  ·rw[iV hl]at hi;exact XS h2 hi
  ·rw[jL (by omega)]at hi;have:=XS k1 hi;rwa[show off+sz+(i-e.length)=off+i by omega]at this
theorem Qy{P:Program}{c:RC}{σ:Heap}(hh:fS c σ){sz:Nat}{y:U}{v:Value}{ys:List (List U)}(h:ak8 sz y σ=δ ys)(r:an c y v):
  ∃(q:Option Addr)(cap:Nat)(cs:List Value),v=.slice q ys.length cap/\(∀w2:World,w2.heap=c.w.heap->(u9 sz ys.length v).run P w2=.ok cs.toArray w2)/\aF c ys.flatten cs/\(∀x∈cs,cx x=θ)/\cs.length=ys.length*sz/\(∀e∈ys,e.length=sz)/\(∀n,n<=ys.length->∀w2:World,w2.heap=c.w.heap->(u9 sz n v).run P w2=.ok (cs.take (n*sz)).toArray w2):=by
 have main:∀(q:Option Addr)(cap:Nat)(ys:List (List U)),(ys=[]\/∃b off,q=δ ⟨b,off,μ⟩/\aY c sz b off ys)->
   ∃cs:List Value,(∀w2:World,w2.heap=c.w.heap->(u9 sz ys.length (.slice q ys.length cap)).run P w2=.ok cs.toArray w2)/\aF c ys.flatten cs/\(∀x∈cs,cx x=θ)/\cs.length=ys.length*sz/\(∀e∈ys,e.length=sz)/\(∀n,n<=ys.length->∀w2:World,w2.heap=c.w.heap->(u9 sz n (.slice q ys.length cap)).run P w2=.ok (cs.take (n*sz)).toArray w2):=by
  intro q cap ys hq;rcases hq with rfl|⟨b,off,rfl,r⟩
  ·refine⟨[],λw2 _=>?_,by simp [aF],by simp,by simp,by simp,λn hn w2 _=>by
    simp at hn;subst hn
    cases q<;>simp [u9,loadCells,loadCellsFrom]⟩
   cases q with
   |none=>simp [u9]
   |some q=>simp [u9,loadCells,loadCellsFrom]
  ·obtain⟨k1,k2⟩:=r.cells;obtain⟨vs,j1,j2,j3⟩:=k1.ID;have hl:vs.length=ys.length*sz:=by rw[<-j1.length,k2]
   refine⟨vs,λw2 hw=>?_,j1,j2,hl,λe he=>?_,λn hn w2 hw=>?_⟩
   ·have:=run_loadCells_list (P:=P) w2 ⟨b,off,μ⟩ vs (λj v hj=>by rw[lB];have:=j3 j v hj;simpa [ZV,hw]using this);rw[hl]at this;simp [u9,this]
   ·obtain⟨i,hi,rfl⟩:=Y0.1 he;exact(als r (i:=i) (by simp [hi])).1
   ·have hnl:n*sz<=vs.length:=by rw[hl];exact nK _ hn
    have:=run_loadCells_list (P:=P) w2 ⟨b,off,μ⟩ (vs.take (n*sz)) (λj v hj=>by
     rw[lB];have:=j3 j v (by rw[alg]at hj;split at hj;exact hj;cases hj)
     simpa [ZV,hw]using this)
    rw[mL,Nat.min_eq_left hnl]at this;simp [u9,this]
 cases y<;>simp only[ak8]at h<;>first|(cases h;done)|skip
 case bA=>
  injection h with h;subst h
  simp only[an]at r;subst r;obtain⟨cs,k⟩:=main μ 0 [] (.inl rfl);exact⟨μ,0,cs,rfl,k⟩
 case ez=>
  injection h with h;subst h
  simp only[an]at r;obtain⟨q,rfl⟩:=r;obtain⟨cs,k⟩:=main q 0 [] (.inl rfl);exact⟨q,0,cs,rfl,k⟩
 case sl sz' es=>
  split at h
  ·rename_i hs;subst hs;injection h with h;subst h
   simp only[an]at r;obtain⟨q,cap,rfl,hcap,_,r⟩:=r
   obtain⟨cs,k⟩:=main q cap es (by
    rcases r with r|⟨b,off,e,_,_,r⟩
    ·exact .inl r
    ·exact .inr ⟨b,off,e,r⟩)
   exact⟨q,cap,cs,rfl,k⟩
  ·cases h
 case os id g oq off len=>
  simp only[an]at r;obtain⟨hg,p,e1,e2,q,cap,rfl,hcap,r⟩:=r;split at h
  ·rename_i g' sz' es hs;split at h
   ·rename_i hc;obtain⟨rfl,rfl,rfl,hle⟩:=hc;injection h with h;subst h
    obtain⟨j1,j2,j3,j4,j5,j6,j7,_⟩:=hh.blk id p _ e1 hs;obtain⟨k1,k2,k3⟩:=r j1.symm;have hlen:((es.drop off).take len).length=len:=by simp;omega
    obtain⟨cs,k⟩:=main (δ q) cap ((es.drop off).take len) (by
     by_cases hz:len=0
     ·left;subst hz;simp
     ·right;rcases k2 with k2|k2
      ·omega
      ·exact⟨_,_,by rw[k2],by rw[j3];exact(j7.drop off).take len⟩)
    rw[hlen]at k ⊢;exact⟨δ q,cap,cs,rfl,k⟩
   ·cases h
  ·rename_i g' sz' es hs;split at h
   ·rename_i hc;obtain⟨rfl,rfl,rfl,hle⟩:=hc;injection h with h;subst h
    obtain⟨j1,j2,j3,j4,j5,j6,j7,_⟩:=hh.blk id p _ e1 hs;obtain⟨k1,k2,k3⟩:=r j1.symm;have hlen:((es.drop off).take len).length=len:=by simp;omega
    obtain⟨cs,k⟩:=main (δ q) cap ((es.drop off).take len) (by
     by_cases hz:len=0
     ·left;subst hz;simp
     ·right;rcases k2 with k2|k2
      ·omega
      ·exact⟨_,_,by rw[k2],by rw[j3];exact(j7.drop off).take len⟩)
    rw[hlen]at k ⊢;exact⟨δ q,cap,cs,rfl,k⟩
   ·cases h
  ·cases h
theorem Ls{P:Program}{c:RC}{σ:Heap}(hh:fS c σ){sz:Nat}{y:U}{v:Value}{ys:List (List U)}(h:ak8 sz y σ=δ ys)(r:an c y v):
  ∃(q:Option Addr)(cap:Nat)(cs:List Value),v=.slice q ys.length cap/\(∀w2:World,w2.heap=c.w.heap->(u9 sz ys.length v).run P w2=.ok cs.toArray w2)/\aF c ys.flatten cs/\(∀x∈cs,cx x=θ)/\cs.length=ys.length*sz/\(∀e∈ys,e.length=sz):=by
 obtain⟨q,cap,cs,h1,h2,h3,h4,h5,h6,_⟩:=Qy (P:=P) hh h r;exact⟨q,cap,cs,h1,h2,h3,h4,h5,h6⟩
theorem PV{sz:Nat}:∀{ys:List (List U)}{n:Nat},(∀y∈ys,y.length=sz)->n<=ys.length->(ys.take n).flatten=ys.flatten.take (n*sz)
 |[],n,_,hn=>by simp
 |y::ys,0,_,_=>by simp
 |y::ys,n+1,h,hn=>by
  simp at hn;rw[List.take_succ_cons,WM,WM,PV (λx hx=>h x (by simp [hx])) hn,List.take_append,h y (by simp),fU,Nat.one_mul];congr 1
  ·rw[xF (by rw[h y (by simp)];omega)]
  ·congr 1;omega
theorem abv(P:Program){e:TypeId}{i:TypeInfo}{zv:Value}(hi:P.info? e=δ i)(hz:i.zero=δ zv)(w:World):(zeroValue e).run P w=.ok zv w:=by simp [zeroValue,rU w hi,hz]
theorem YG{P:Program}{t u e e' ty:TypeId}{i:TypeInfo}{zv:Value}(ht:P.underlying t=δ (.slice e))(hu:P.underlying u=δ (.slice e'))(hi:P.info? e=δ i)(hz:i.zero=δ zv)(hb0:i.bytes≠0)
  {base q:Option Addr} {sLen sCap n cap:Nat} {olds news:List Value} (hold:(u9 i.size sLen (.slice base sLen sCap)).run P w.drew=.ok olds.toArray w.drew) (hnew:(u9 i.size n (.slice q n cap)).run P w.drew=.ok news.toArray w.drew)
  (hg:sCap<sLen+n) (hm:sLen+n<=140737488355328 / i.bytes):
  (XM #[t,u] ty #[.slice base sLen sCap,.slice q n cap]).run P w=
   .ok (.slice (δ ⟨w.heap.size,0,μ⟩) (sLen+n) (grownCap w (sLen+n) sCap e)) (w.drew.alloc (.cells (olds.toArray++news.toArray++Λ zv.cells (grownCap w (sLen+n) sCap e-(sLen+n))) e)):=by
 have Hy:(sLen+n)*i.bytes<=140737488355328:=by have:=nK i.bytes hm;have:=ak9 140737488355328 i.bytes;omega
 have h48:=growslice_fits hg Hy;have hn:¬(sLen+n<=sCap):=by omega
 have DG:¬(281474976710656<Builtin.nextslicecap (sLen+n) sCap*i.bytes):=by omega
 simp [XM,run_underlying ht,run_underlying hu,sizeOf,typeInfo,zeroValue,hi,hz,Yq,hn,DG,hb0,ZZ,hold,hnew,newRow,grownCap];congr 2;apply Array.ext';simp [sH]
theorem aT.sub{c:RC}{b:Nat}{arr:Array Value}{t:TypeId}{fz:Nat×Nat}(h:c.w.heap[b]? =δ (.cells arr t fz)){cs:List U}{vs pre suf:List Value}(ha:arr.toList=pre++vs++suf)(hr:aF c cs vs)(ho:∀x∈vs,cx x=θ):aT c b pre.length cs:=by
 refine aT.uK h hr ho λi hi=>?_
 rw[<-Zq,ha,sH,jL (by omega),iV (by omega)];congr 1;omega
theorem aT.zu{c:RC}{sz b:Nat}:∀{es:List (List U)}{off:Nat},(∀e∈es,e.length=sz)->aT c b off es.flatten->aY c sz b off es
 |[],off,_,_=>by simp [aY]
 |e::es,off,hl,h=>by
  simp only[WM]at h;have he:=hl e (by simp);simp only[aY];refine⟨he,?_,aT.zu (λx hx=>hl x (by simp [hx])) ?_⟩
  ·have:=h.take e.length;simpa using this
  ·have:=h.drop e.length;rw[he]at this;simpa [<-he]using this
theorem aY.append{c:RC}{sz b:Nat}:∀{l m:List (List U)}{off:Nat},aY c sz b off l->aY c sz b (off+l.length*sz) m->aY c sz b off (l++m)
 |[],m,off,h,k=>by simpa using k
 |e::l,m,off,h,k=>by simp only[aY,kN]at h ⊢;refine⟨h.1,h.2.1,aY.append h.2.2 ?_⟩;rw[show off+sz+l.length*sz=off+(e::l).length*sz by simp [fU];omega];exact k
theorem aY.keep{c c':RC}(hx:Ext c c'){sz b:Nat}{es:List (List U)}{off:Nat}(h:aY c sz b off es)(hc:∀j,off<=j->j<off+es.length*sz->c'.w.cell? ⟨b,j,μ⟩=c.w.cell? ⟨b,j,μ⟩):aY c' sz b off es:=by
 refine aY.of λi e hi=>?_
 obtain⟨h1,h2⟩:=als h hi;refine⟨h1,alS λk av hk=>?_⟩;obtain⟨u,k1,k2,k3⟩:=XS h2 hk;refine⟨u,?_,k2,Yz hx _ _ k3⟩;have hil:i<es.length:=(cL.1 hi).1;have hkl:k<sz:=by rw[<-h1];exact(cL.1 hk).1
 have:(i+1)*sz<=es.length*sz:=nK _ hil;rw[fU]at this;rw[<-k1];exact hc _ (by omega) (by omega)
theorem LJ(h:St X z s a w E pb){id:Nat}{p:Pl}{g sz i:Nat}{es ys:List (List U)}{arr:Array Value}{bt:TypeId}{news:List Value}(e1:E[id]? =δ p)(hs:s.σ[id]? =δ (.arr g sz es))(hb:w.heap[p.b]? =δ (.cells arr bt (0,0)))
  (hfit:i+ys.length<=es.length) (hr:aF (ctx z w E pb) ys.flatten news) (ho:∀x∈news,cx x=θ) (hy:∀y∈ys,y.length=sz) (hn:news.length=ys.length*sz):
  p.base+i*sz+news.length<=arr.size/\St X z (s.heap (s.σ.set id (.arr g sz (es.take i++ys++es.drop (i+ys.length))))) a (w.dn p.b (.cells (eS arr (p.base+i*sz) news) bt (0,0))) E pb:=by
 obtain⟨j1,j2,j3,j4,⟨xJ,bt',j5,j6⟩,j7,j8,j9⟩:=h.heap.blk id p _ e1 hs;have Wv:w.heap[p.b]? =δ (.cells xJ bt' (0,0)):=j5;rw[hb]at Wv;injection Wv with j5d
 injection j5d with j5e j5f
 subst j5e j5f;have hm:(i+ys.length)*sz<=es.length*sz:=nK _ hfit;rw[fU]at hm;have xz:p.base+i*sz+news.length<=arr.size:=by rw[hn,j6];omega
 refine⟨xz,h.ug e1 _ _ λhx=>?_⟩;have hlt:p.b<w.heap.size:=h.heap.lt (p:=p) (cZ e1);have hh:=rT (w:=w) (.cells (eS arr (p.base+i*sz) news) bt (0,0)) hlt;have hcell:∀j,(w.dn p.b (.cells (eS arr (p.base+i*sz) news) bt (0,0))).cell? ⟨p.b,j,μ⟩=(eS arr (p.base+i*sz) news)[j]? :=λj=>tJ hh
 have hold:∀j,w.cell? ⟨p.b,j,μ⟩=arr[j]? :=λj=>tJ hb
 have out:∀j,(j<p.base+i*sz\/p.base+i*sz+news.length<=j)->(w.dn p.b (.cells (eS arr (p.base+i*sz) news) bt (0,0))).cell? ⟨p.b,j,μ⟩=w.cell? ⟨p.b,j,μ⟩:=by intro j hj;rw[hcell,hold,Bk _ _ _ xz,aD (by omega)]
 have Wp:(es.take i).length=i:=by simp;omega
 refine⟨j1,j2,j3,j4,⟨_,_,hh,by rw[LW _ _ _ xz];exact j6⟩,?_,?_,xm hh (Bi (j9 _ _ _ hb) ho)⟩
 ·have:(es.take i++ys++es.drop (i+ys.length)).length=es.length:=by simp;omega
  rw[this];exact j7
 ·refine aY.append (aY.append (aY.keep hx (j8.take i) λj Er hj2=>?_) ?_) (aY.keep hx ?_ λj Er hj2=>?_)
  ·rw[Wp]at hj2;exact out j (.inl hj2)
  ·rw[Wp];refine aT.zu hy ?_;refine aT.uK hh (ZD hx _ _ hr) ho λj hj=>?_
   show(eS arr (p.base+i*sz) news)[p.base+i*sz+j]? =_;rw[Bk _ _ _ xz,aE (by omega)];congr 1;omega
  ·have:=j8.drop (i+ys.length);have e:(es.take i++ys).length=i+ys.length:=by simp;omega
   rw[e];exact this
  ·have e:(es.take i++ys).length=i+ys.length:=by simp;omega
   rw[e,fU]at Er;refine out j (.inr ?_);rw[hn];omega
theorem FJ{zv:Value}{sz:Nat}(h:zv.cells.size=sz)(h0:sz≠0)(n:Nat):(Λ zv.cells n).toList=(w4 n zv.cells.toList).flatten:=by have:=range_zero zv.cells.toList (by simp;omega) n;rw[<-this];simp [Λ]
theorem ac4(h:St X z s a w E pb){t e ty:TypeId}{i:TypeInfo}{zv:Value}{zs:List U}(ht:X.P.underlying t=δ (.slice e))(hzv:∀w,(zeroValue e).run X.P w=.ok zv w)(hzs:zv.cells.size=i.size)(h0:i.size≠0)
  (nY:∀c,aF c zs zv.cells.toList) (hone:∀x∈zv.cells.toList,cx x=θ) {x:U} {v:Value} {σ':Heap} (hcl:A.Mp i.size zs x s.σ=δ σ') (rx:an (ctx z w E pb) x v):
  ∃w',(XZ #[t] ty #[v]).run X.P w=.ok (.tuple #[]) w'/\St X z (s.heap σ') a w' E pb:=by
 unfold A.Mp at hcl;have hs:s.heap s.σ=s:=rfl;split at hcl
 ·injection hcl with hcl;subst hcl
  simp only[an]at rx;subst rx;exact⟨w,by simp [XZ,run_underlying ht],by rw[hs];exact h⟩
 ·injection hcl with hcl;subst hcl
  simp only[an]at rx;obtain⟨q,rfl⟩:=rx;exact⟨w,by cases q<;>simp [XZ,run_underlying ht],by rw[hs];exact h⟩
 ·injection hcl with hcl;subst hcl
  simp only[an]at rx;obtain⟨q,cap,rfl,_⟩:=rx;exact⟨w,by cases q<;>simp [XZ,run_underlying ht],by rw[hs];exact h⟩
 ·rename_i id g oq off len;simp only[an]at rx;obtain⟨hg,p,e1,e2,qa,cp,rfl,hcap,rx⟩:=rx;split at hcl
  ·rename_i g' sz' es hs';split at hcl
   ·rename_i hc;obtain⟨hc1,hc2,uF,Em⟩:=hc;subst hc1;subst hc2;subst uF;obtain⟨j1,j2,j3,j4,⟨arr,bt,j5,j6⟩,j7,j8,j9⟩:=h.heap.blk id p _ e1 hs';obtain⟨k1,k2,k3⟩:=rx j1.symm;split at hcl
    ·rename_i hl;subst hl;injection hcl with hcl;subst hcl
     exact⟨w,by simp [XZ,run_underlying ht],by rw[hs];exact h⟩
    ·rename_i hl;injection hcl with hcl;subst hcl
     have wA:qa=⟨p.b,p.base+off*p.sz,μ⟩:=by
      rcases k2 with k2|k2
      ·omega
      ·exact k2
     have hsz:p.sz=i.size:=j3;have hzl:zs.length=i.size:=by rw[(nY (ctx z w E pb)).length];simpa using hzs
     have NG:aF (ctx z w E pb) (w4 len zs).flatten (Λ zv.cells len).toList:=by rw[FJ hzs h0];exact(nY _).flatten len
     have Ux:∀x∈(Λ zv.cells len).toList,cx x=θ:=by rw[FJ hzs h0];intro x hx;obtain⟨l,hl1,qy⟩:=akM.1 hx;rw[ZS]at hl1;exact hone x (hl1.2▸qy)
     have hlen:(Λ zv.cells len).toList.length=len*i.size:=by rw[Xu,size_zeroCells,hzs]
     obtain⟨q1,q2⟩:=LJ h (i:=off) (ys:=w4 len zs) e1 hs' j5 (by simpa using Em) NG Ux (λy hy=>by rw[(ZS.1 hy).2];exact hzl) (by simpa using hlen);have hst:=AE (P:=X.P) (b:=p.b) (off:=p.base+off*i.size) (t:=bt) (Λ zv.cells len).toList 0 w arr j5 (by omega) Ux;rw[Z5]at q2;refine⟨_,?_,q2⟩;obtain⟨m,rfl⟩:∃m,len=m+1:=⟨len-1,by omega⟩
     rw[wA,hsz];simp [XZ,run_underlying ht,hzv,hst]
   ·cases hcl
  ·cases hcl
 ·cases hcl
structure af5 (P : Program) (t u : TypeId) (vy : Value) (e : TypeId) (i : TypeInfo) (zv : Value) (n : Nat) (news : List Value) (w : World) : Prop where
 BZ:∀(w2:World)(ty:TypeId)(base:Option Addr)(sLen sCap:Nat),w2.heap=w.heap->sLen+n<=sCap->
  (XM #[t,u] ty #[.slice base sLen sCap,vy]).run P w2=((match base with|some a=>storeCells (a.add (sLen*i.size)) news 0|none=>pure ()) >>= λ_=>pure (Value.slice base (sLen+n) sCap):Sem Value).run P w2
 new:∀(ty:TypeId)(base:Option Addr)(sLen sCap:Nat)(olds:List Value),(u9 i.size sLen (.slice base sLen sCap)).run P w.drew=.ok olds.toArray w.drew->sCap<sLen+n->sLen+n<=140737488355328 / i.bytes->
  (XM #[t,u] ty #[.slice base sLen sCap,vy]).run P w=
   .ok (.slice (δ ⟨w.heap.size,0,μ⟩) (sLen+n) (grownCap w (sLen+n) sCap e)) (w.drew.alloc (.cells (olds.toArray++news.toArray++Λ zv.cells (grownCap w (sLen+n) sCap e-(sLen+n))) e))
theorem Rn{zv:Value}{sz:Nat}(hzs:zv.cells.size=sz)(h0:sz≠0)(hone:∀x∈zv.cells.toList,cx x=θ)(n:Nat):∀x∈(Λ zv.cells n).toList,cx x=θ:=by rw[FJ hzs h0];intro x hx;obtain⟨l,hl1,qy⟩:=akM.1 hx;rw[ZS]at hl1;exact hone x (hl1.2▸qy)
theorem GW{zv:Value}{sz:Nat}(hzs:zv.cells.size=sz)(h0:sz≠0)(hone:∀x∈zv.cells.toList,cx x=θ){olds news:List Value}(h1:∀x∈olds,cx x=θ)(h2:∀x∈news,cx x=θ)(n:Nat):
  ∀x∈(olds.toArray++news.toArray++Λ zv.cells n).toList,cx x=θ:=by
 intro x hx;simp only[alH,ak6,gV]at hx;rcases hx with(hx|hx)|hx
 ·exact h1 x hx
 ·exact h2 x hx
 ·exact Rn hzs h0 hone n x hx
theorem Qt(h:St X z s a w E pb){t u e ty:TypeId}{i:TypeInfo}{zv:Value}(hzs:zv.cells.size=i.size)(h0:i.size≠0)(hone:∀x∈zv.cells.toList,cx x=θ)
  {x:U} {v vy:Value} {r:U} {σ':Heap} {ys:List (List U)} {news:List Value} (hs2:af5 X.P t u vy e i zv ys.length news w) (hn2:aF (ctx z w E pb) ys.flatten news) (jT:∀x∈news,cx x=θ) (nW:news.length=ys.length*i.size) (qz:∀y∈ys,y.length=i.size)
  (hap:A.qT i.size (140737488355328 / i.bytes) x ys s.σ=δ (r,σ')) (rx:an (ctx z w E pb) x v):
  ∃k w' E',(XM #[t,u] ty #[v,vy]).run X.P w=.ok k w'/\St X z (s.heap σ') a w' E' pb/\an (ctx z w' E' pb) r k:=by
 unfold A.qT at hap;have hne:ys≠[]->0<ys.length:=λk=>by cases ys with|nil=>exact absurd rfl k|cons y ys=>simp
 have HV:∀k,(Λ zv.cells k).size=k*i.size:=λk=>by rw[size_zeroCells,hzs]
 cases x<;>simp only at hap<;>first|(cases hap;done)|skip
 case bA=>
  simp only[an]at rx;subst rx;split at hap
  ·rename_i hys;subst hys;simp only[χ,Θ]at hap;obtain⟨rfl,rfl⟩:=hap;exact⟨.slice μ 0 0,w,E,by have:=hs2.BZ w ty μ 0 0 rfl (by simp);simpa using this,h,by simp [an]⟩
  ·rename_i hys;have hpos:=hne hys;split at hap
   ·rename_i agl;simp only[χ,Θ]at hap;obtain⟨rfl,rfl⟩:=hap;have hrun:=hs2.new ty μ 0 0 [] (by simp [u9]) (by omega) (by omega);simp only[Zm]at hrun;refine⟨_,_,E++[⟨w.heap.size,0,ys.length,i.size,(news.toArray++Λ zv.cells (grownCap w ys.length 0 e-ys.length)).size⟩],hrun,?_,?_⟩
    ·have hst:=(h.grow (w':=w.drew) ((Below.refl _ _).drew)).vB (.cells (#[]++news.toArray++Λ zv.cells (grownCap w ys.length 0 e-ys.length)) e) (.arr ys.length i.size ys)
      ⟨w.heap.size,0,ys.length,i.size,(news.toArray++Λ zv.cells (grownCap w ys.length 0 e-ys.length)).size⟩ rfl (λhx=>?_)
     ·exact hst
     ·have hb:(w.drew.alloc (.cells (#[]++news.toArray++Λ zv.cells (grownCap w ys.length 0 e-ys.length)) e)).heap[w.heap.size]? =δ (.cells (#[]++news.toArray++Λ zv.cells (grownCap w ys.length 0 e-ys.length)) e (0,0)):=(ZJ w.drew _).1;refine⟨rfl,hpos,rfl,by omega,⟨_,_,hb,by simp⟩,by simp [nW],aT.zu qz ?_,xm hb (GW hzs h0 hone (olds:=[]) (by simp) jT _)⟩;exact aT.sub (pre:=[]) (suf:=(Λ zv.cells (grownCap w ys.length 0 e-ys.length)).toList) hb (by simp) (ZD (Ext.trans (pe ((Below.refl _ _).drew)) hx) _ _ hn2) jT
    ·simp only[an];have hlen:=h.heap.len;simp only[ctx]at hlen;refine⟨hpos,⟨w.heap.size,0,ys.length,i.size,_⟩,by show(E++[_])[s.σ.length]? =_;rw[<-hlen];exact xH,bL _,_,_,rfl,grownCap_ge _ _ _ _,λ_=>⟨rfl,.inr (by simp),?_⟩⟩;have:=grownCap_ge w ys.length 0 e;simp only[X9,HV,Xt,nW,Zm];rw[<-fU];congr 1;omega
   ·cases hap
 case ez=>
  simp only[an]at rx;obtain⟨qb,rfl⟩:=rx;split at hap
  ·rename_i hys;subst hys;simp only[χ,Θ]at hap;obtain⟨rfl,rfl⟩:=hap;have hnews:news=[]:=by simpa using nW
   subst hnews;exact⟨.slice qb 0 0,w,E,by have:=hs2.BZ w ty qb 0 0 rfl (by simp);cases qb<;>simpa [storeCells]using this,h,by simp [an]⟩
  ·rename_i hys;have hpos:=hne hys;split at hap
   ·rename_i agl;simp only[χ,Θ]at hap;obtain⟨rfl,rfl⟩:=hap;have hrun:=hs2.new ty qb 0 0 [] (by cases qb<;>simp [u9,loadCells,loadCellsFrom]) (by omega) (by omega);simp only[Zm]at hrun;refine⟨_,_,E++[⟨w.heap.size,0,ys.length,i.size,(news.toArray++Λ zv.cells (grownCap w ys.length 0 e-ys.length)).size⟩],hrun,?_,?_⟩
    ·have hst:=(h.grow (w':=w.drew) ((Below.refl _ _).drew)).vB (.cells (#[]++news.toArray++Λ zv.cells (grownCap w ys.length 0 e-ys.length)) e) (.arr ys.length i.size ys)
      ⟨w.heap.size,0,ys.length,i.size,(news.toArray++Λ zv.cells (grownCap w ys.length 0 e-ys.length)).size⟩ rfl (λhx=>?_)
     ·exact hst
     ·have hb:(w.drew.alloc (.cells (#[]++news.toArray++Λ zv.cells (grownCap w ys.length 0 e-ys.length)) e)).heap[w.heap.size]? =δ (.cells (#[]++news.toArray++Λ zv.cells (grownCap w ys.length 0 e-ys.length)) e (0,0)):=(ZJ w.drew _).1;refine⟨rfl,hpos,rfl,by omega,⟨_,_,hb,by simp⟩,by simp [nW],aT.zu qz ?_,xm hb (GW hzs h0 hone (olds:=[]) (by simp) jT _)⟩;exact aT.sub (pre:=[]) (suf:=(Λ zv.cells (grownCap w ys.length 0 e-ys.length)).toList) hb (by simp) (ZD (Ext.trans (pe ((Below.refl _ _).drew)) hx) _ _ hn2) jT
    ·simp only[an];have hlen:=h.heap.len;simp only[ctx]at hlen;refine⟨hpos,⟨w.heap.size,0,ys.length,i.size,_⟩,by show(E++[_])[s.σ.length]? =_;rw[<-hlen];exact xH,bL _,_,_,rfl,grownCap_ge _ _ _ _,λ_=>⟨rfl,.inr (by simp),?_⟩⟩;have:=grownCap_ge w ys.length 0 e;simp only[X9,HV,Xt,nW,Zm];rw[<-fU];congr 1;omega
   ·cases hap
 case os uL og oq off len=>
  have OR:=rx;simp only[an]at rx;obtain⟨hg,p,e1,e2,qa,cp,rfl,hcap,rx⟩:=rx;split at hap
  ·rename_i g' sz' es hs;split at hap
   ·rename_i hc;obtain⟨hc1,hc2,uF,Em,On⟩:=hc;subst hc1;subst hc2;subst uF;obtain⟨j1,j2,j3,j4,⟨arr,bt,j5,j6⟩,j7,j8,j9⟩:=h.heap.blk uL p _ e1 hs;obtain⟨k1,k2,k3⟩:=rx j1.symm;split at hap
    ·rename_i hys;subst hys;simp only[χ,Θ]at hap;obtain⟨rfl,rfl⟩:=hap;have hnews:news=[]:=by simpa using nW
     subst hnews;exact⟨.slice (δ qa) len cp,w,E,by have:=hs2.BZ w ty (δ qa) len cp rfl (by simpa using hcap);simpa [storeCells]using this,h,OR⟩
    ·rename_i hys;have hpos:=hne hys;have Nn:(off+cp)*i.size=p.nT-p.base:=by rw[<-j3];omega
     split at hap
     ·rename_i hin;simp only[χ,Θ]at hap;obtain⟨rfl,rfl⟩:=hap;obtain⟨q1,q2⟩:=LJ h (i:=off+len) (ys:=ys) e1 hs j5 (by omega) hn2 jT qz nW
      have hcl:es.length<=off+cp:=by
       have h1:es.length*i.size<=(off+cp)*i.size:=by rw[Nn];omega
       exact XY h1 (by omega)
      have hroom:len+ys.length<=cp:=by omega
      have wA:qa=⟨p.b,p.base+off*p.sz,μ⟩:=by
       rcases k2 with k2|k2
       ·omega
       ·exact k2
      have hsz:p.sz=i.size:=j3;have hst:=AE (P:=X.P) (b:=p.b) (off:=p.base+(off+len)*i.size) (t:=bt) news 0 w arr j5 (by omega) jT
      have hrun:(XM #[t,u] ty #[.slice (δ qa) len cp,vy]).run X.P w=.ok (.slice (δ qa) (len+ys.length) cp) (w.dn p.b (.cells (eS arr (p.base+(off+len)*i.size) news) bt (0,0))):=by
       have yf:qa.add (len*i.size)=⟨p.b,p.base+(off+len)*i.size,μ⟩:=by rw[wA,lB,hsz];congr 1;rw[fU];omega
       rw[hs2.BZ w ty (δ qa) len cp rfl hroom];simp [yf,hst]
      refine⟨_,_,E,hrun,q2,?_⟩;simp only[an];exact⟨hg,p,e1,e2,qa,cp,rfl,hroom,λ_=>⟨hsz,.inr wA,k3⟩⟩
     simp only[χ,Θ]at hap;obtain⟨rfl,rfl⟩:=hap;have jA:((es.drop off).take len).length=len:=by simp;omega
     by_cases hroom:len+ys.length<=cp
     ·-- room
      have wA:qa=⟨p.b,p.base+off*p.sz,μ⟩:=by
       rcases k2 with k2|k2
       ·omega
       ·exact k2
      have hsz:p.sz=i.size:=j3;have hcc:(off+(len+ys.length))*i.size<=(off+cp)*i.size:=nK _ (by omega);rw[hsz]at k3;have aiE:(off+len)*i.size=off*i.size+len*i.size:=fU _ _ _;have aio:(off+(len+ys.length))*i.size=(off+len)*i.size+ys.length*i.size:=by rw[<-fG,fU]
      have hfit:p.base+(off+len)*i.size+0+news.length<=arr.size:=by rw[nW,j6];omega
      have hst:=AE (P:=X.P) (b:=p.b) (off:=p.base+(off+len)*i.size) (t:=bt) news 0 w arr j5 hfit jT
      have hrun:(XM #[t,u] ty #[.slice (δ qa) len cp,vy]).run X.P w=.ok (.slice (δ qa) (len+ys.length) cp) (w.dn p.b (.cells (eS arr (p.base+(off+len)*i.size) news) bt (0,0))):=by
       have yf:qa.add (len*i.size)=⟨p.b,p.base+(off+len)*i.size,μ⟩:=by rw[wA,lB,hsz];congr 1;omega
       rw[hs2.BZ w ty (δ qa) len cp rfl hroom];simp [yf,hst]
      have hlt:p.b<w.heap.size:=h.heap.lt (p:=p) (cZ e1);have hh:=rT (w:=w) (.cells (eS arr (p.base+(off+len)*i.size) news) bt (0,0)) hlt;have xz:p.base+(off+len)*i.size+news.length<=arr.size:=by omega
      have BW:=h.move (id:=uL) (p:=p) (p':=⟨p.b,p.base+off*i.size,og+ys.length,i.size,p.nT⟩) (w':=w.dn p.b (.cells (eS arr (p.base+(off+len)*i.size) news) bt (0,0))) (blk:=.arr (og+ys.length) i.size ((es.drop off).take len++ys)) e1
       ⟨by omega,by show p.g<og+ys.length;omega⟩ rfl rfl rfl (by rw[yP];exact bL _) (λb hb _=>uU _ (λe=>hb e.symm)) (.inl rfl) (λhx=>by
        have hcell:∀j,(w.dn p.b (.cells (eS arr (p.base+(off+len)*i.size) news) bt (0,0))).cell? ⟨p.b,j,μ⟩=(eS arr (p.base+(off+len)*i.size) news)[j]? :=λj=>tJ hh
        have hold:∀j,w.cell? ⟨p.b,j,μ⟩=arr[j]? :=λj=>tJ j5
        refine⟨rfl,by show 0<og+ys.length;omega,rfl,by omega,⟨_,_,hh,by rw[LW _ _ _ xz];exact j6⟩,?_,?_,xm hh (Bi (j9 _ _ _ j5) jT)⟩
        ·simp only[W0,jA,fU];omega
        ·refine aY.append (aY.keep hx ((j8.drop off).take len) λj Er hj2=>?_) ?_
         ·rw[jA]at hj2;replace Er:p.base+off*i.size<=j:=Er;replace hj2:j<p.base+off*i.size+len*i.size:=hj2;show(w.dn p.b _).cell? _=w.cell? _;rw[hcell,hold,Bk _ _ _ xz,aD (by omega)]
         ·rw[jA];refine aT.zu qz ?_;refine aT.uK hh (ZD hx _ _ hn2) jT λj hj=>?_
          show(eS arr (p.base+(off+len)*i.size) news)[p.base+off*i.size+len*i.size+j]? =_;rw[Bk _ _ _ xz,aE (by omega)]
          congr 1;omega)
      refine⟨_,_,_,hrun,BW.1,?_⟩;simp only[an];have hid:uL<E.length:=(cL.1 e1).1;refine⟨by omega,⟨p.b,p.base+off*i.size,og+ys.length,i.size,p.nT⟩,by simp [ctx,hid],bL _,qa,cp,rfl,hroom,λ_=>⟨rfl,.inr (by rw[wA,hsz];simp),?_⟩⟩;simp only[Zm];rw[fU]at k3;omega
     ·have hel:ak8 i.size (.os uL og i.size off len) s.σ=δ ((es.drop off).take len):=by simp only[ak8,hs];rw[aE (by simp;omega)]
      obtain⟨q2,agT,olds,Ed,sZ,Ox,Et,Eu,Oy⟩:=Ls (P:=X.P) h.heap hel OR;rw[jA]at sZ Eu;injection Ed with e2a e2b e2c
      have hrun:=hs2.new ty _ _ _ _ (sZ w.drew rfl) (by omega) On;obtain⟨nc,hnc⟩:∃nc,nc=grownCap w (len+ys.length) cp e:=⟨_,rfl⟩
      have Dm:len+ys.length<=nc:=by rw[hnc];exact grownCap_ge _ _ _ _
      rw[<-hnc]at hrun;obtain⟨row,hrow⟩:∃row,row=olds.toArray++news.toArray++Λ zv.cells (nc-(len+ys.length)):=⟨_,rfl⟩
      have DL:row.size=nc*i.size:=by rw[hrow];simp only[X9,HV,Xt,nW,Eu];rw[<-fU,<-fU];congr 1;omega
      have hrl:row.toList=olds++news++(Λ zv.cells (nc-(len+ys.length))).toList:=by rw[hrow];simp
      rw[<-hrow]at hrun;have hb:(w.drew.alloc (.cells row e)).heap[w.heap.size]? =δ (.cells row e (0,0)):=(ZJ w.drew _).1
      have BW:=h.move (id:=uL) (p:=p) (p':=⟨w.heap.size,0,og+ys.length,i.size,row.size⟩) (w':=w.drew.alloc (.cells row e)) (blk:=.arr (og+ys.length) i.size ((es.drop off).take len++ys)) e1
       ⟨by omega,by show p.g<og+ys.length;omega⟩ rfl rfl rfl (by simp) (λb hb' hlt=>by rw[Below.heap_alloc w.drew _ b (by simpa using hlt)];rfl) (.inr ⟨bL _,by simp⟩) (λhx=>by
        refine⟨rfl,by show 0<og+ys.length;omega,rfl,by omega,⟨_,_,hb,rfl⟩,?_,aT.zu (λx hx'=>?_) ?_,xm hb (by rw[hrow];exact GW hzs h0 hone Et jT _)⟩
        ·simp only[W0,jA,Zm,DL];exact nK _ Dm
        ·rcases gV.1 hx' with hx'|hx'
         ·exact Oy x hx'
         ·exact qz x hx'
        ·rw[ak7]
         exact aT.sub (pre:=[]) (vs:=olds++news) (suf:=(Λ zv.cells (nc-(len+ys.length))).toList) hb (by rw[hrl];simp) (ZD hx _ _ (Ox.append hn2)) (λx hx'=>by
          rcases gV.1 hx' with hx'|hx'
          ·exact Et x hx'
          ·exact jT x hx'))
      refine⟨_,_,_,hrun,BW.1,?_⟩;simp only[an];have hid:uL<E.length:=(cL.1 e1).1;refine⟨by omega,⟨w.heap.size,0,og+ys.length,i.size,row.size⟩,by simp [ctx,hid],bL _,_,_,rfl,Dm,λ_=>⟨rfl,.inr (by simp),?_⟩⟩;simp only[Zm,DL]
   ·cases hap
  ·rename_i g' sz' es hs;split at hap
   ·rename_i hc;obtain⟨hc1,hc2,uF,Em,On,hc6⟩:=hc;subst hc1;subst hc2;subst uF;obtain⟨j1,j2,j3,j4,⟨arr,bt,j5,j6⟩,j7,j8,j9⟩:=h.heap.blk uL p _ e1 hs;obtain⟨k1,k2,k3⟩:=rx j1.symm;simp only[χ,Θ]at hap;obtain⟨rfl,rfl⟩:=hap;have jA:((es.drop off).take len).length=len:=by simp;omega
    have Nn:(off+cp)*i.size=es.length*i.size:=by rw[<-j3]at j7 ⊢;omega
    have hco:off+cp=es.length:=Nat.eq_of_mul_eq_mul_right j4 Nn
    have hel:ak8 i.size (.os uL og i.size off len) s.σ=δ ((es.drop off).take len):=by simp only[ak8,hs];rw[aE (by simp;omega)]
    obtain⟨q2,agT,olds,Ed,sZ,Ox,Et,Eu,Oy⟩:=Ls (P:=X.P) h.heap hel OR;rw[jA]at sZ Eu;injection Ed with e2a e2b e2c
    have hrun:=hs2.new ty _ _ _ _ (sZ w.drew rfl) (by omega) On;obtain⟨nc,hnc⟩:∃nc,nc=grownCap w (len+ys.length) cp e:=⟨_,rfl⟩
    have Dm:len+ys.length<=nc:=by rw[hnc];exact grownCap_ge _ _ _ _
    rw[<-hnc]at hrun;obtain⟨row,hrow⟩:∃row,row=olds.toArray++news.toArray++Λ zv.cells (nc-(len+ys.length)):=⟨_,rfl⟩
    have DL:row.size=nc*i.size:=by rw[hrow];simp only[X9,HV,Xt,nW,Eu];rw[<-fU,<-fU];congr 1;omega
    have hrl:row.toList=olds++news++(Λ zv.cells (nc-(len+ys.length))).toList:=by rw[hrow];simp
    rw[<-hrow]at hrun;have hb:(w.drew.alloc (.cells row e)).heap[w.heap.size]? =δ (.cells row e (0,0)):=(ZJ w.drew _).1
    have hst:=(h.grow (w':=w.drew) ((Below.refl _ _).drew)).vB (.cells row e) (.arr (len+ys.length) i.size ((es.drop off).take len++ys))
      ⟨w.heap.size,0,len+ys.length,i.size,row.size⟩ rfl (λhx=>by
      refine⟨rfl,by show 0<len+ys.length;omega,rfl,by omega,⟨_,_,hb,rfl⟩,?_,aT.zu (λx hx'=>?_) ?_,xm hb (by rw[hrow];exact GW hzs h0 hone Et jT _)⟩
      ·simp only[W0,jA,Zm,DL];exact nK _ Dm
      ·rcases gV.1 hx' with hx'|hx'
       ·exact Oy x hx'
       ·exact qz x hx'
      ·rw[ak7]
       exact aT.sub (pre:=[]) (vs:=olds++news) (suf:=(Λ zv.cells (nc-(len+ys.length))).toList) hb (by rw[hrl];simp) (ZD (Ext.trans (pe ((Below.refl _ _).drew)) hx) _ _ (Ox.append hn2)) (λx hx'=>by
        rcases gV.1 hx' with hx'|hx'
        ·exact Et x hx'
        ·exact jT x hx'))
    refine⟨_,_,_,hrun,hst,?_⟩;simp only[an];have hlen:=h.heap.len;simp only[ctx]at hlen;refine⟨by omega,⟨w.heap.size,0,len+ys.length,i.size,row.size⟩,by show(E++[_])[s.σ.length]? =_;rw[<-hlen];exact xH,bL _,_,_,rfl,Dm,λ_=>⟨rfl,.inr (by simp),?_⟩⟩;simp only[Zm,DL]
   ·cases hap
  ·cases hap
theorem abA(h:St X z s a w E pb){t u e e' ty:TypeId}{i:TypeInfo}{zv:Value}(ht:X.P.underlying t=δ (.slice e))(hu:X.P.underlying u=δ (.slice e'))(hi:X.P.info? e=δ i)(hz:i.zero=δ zv)(hzs:zv.cells.size=i.size)(h0:i.size≠0)(hb0:i.bytes≠0)(hone:∀x∈zv.cells.toList,cx x=θ)
  {x y:U} {v vy:Value} {r:U} {σ':Heap} (hap:Z9 i.size (140737488355328 / i.bytes) x y s.σ=δ (r,σ')) (rx:an (ctx z w E pb) x v) (ry:an (ctx z w E pb) y vy):
  ∃k w' E',(XM #[t,u] ty #[v,vy]).run X.P w=.ok k w'/\St X z (s.heap σ') a w' E' pb/\an (ctx z w' E' pb) r k:=by
 unfold Z9 at hap;obtain⟨ys,hy,hap⟩:=bg.1 hap;obtain⟨q,cap,news,rfl,hn1,hn2,jT,nW,qz⟩:=Ls (P:=X.P) h.heap hy ry;refine Qt h hzs h0 hone ⟨λw2 ty base sLen sCap hw hr=>?_,λty base sLen sCap olds ho hg hm=>YG ht hu hi hz hb0 ho (hn1 w.drew rfl) hg hm⟩ hn2 jT nW qz hap rx;cases base<;>simp [XM,run_underlying ht,run_underlying hu,sizeOf,typeInfo,hi,Yq,hn1 w2 hw,hr]
theorem PJ(zs:Array Value):Λ zs 0=#[]:=by apply jv.1;apply ze;rw[Xu,size_zeroCells];simp
theorem ajs{P:Program}{t u e ty:TypeId}{k k':IntKind}{i:TypeInfo}{zv:Value}(ht:P.underlying t=δ (.slice e))(hu:P.underlying u=δ (.int k))(hi:P.info? e=δ i)(hz:i.zero=δ zv)(hb0:i.bytes≠0)(h0:i.size≠0)
  {base:Option Addr} {sLen sCap n:Nat} {w2:World} (hm:n<=140737488355328 / i.bytes) (hr:sLen+n<=sCap):
  (XM #[t,u] ty #[.slice base sLen sCap,.int k' n]).run P w2=((match base with|some a=>storeCells (a.add (sLen*i.size)) (Λ zv.cells n).toList 0|none=>pure ()) >>= λ_=>pure (Value.slice base (sLen+n) sCap):Sem Value).run P w2:=by
 have Hy:n*i.bytes<=140737488355328:=by have:=nK i.bytes hm;have:=ak9 140737488355328 i.bytes;omega
 have hle:n<=n*i.bytes:=ami _ (by omega);have hw:ε.wrap (n:Int)=(n:Int):=by rw[IntKind.wrap_i64];omega
 have hl:¬((281474976710656:Int)<(n:Int)*(i.bytes:Int)):=by
  have:(n:Int)*(i.bytes:Int)=((n*i.bytes:Nat):Int):=by simp
  omega
 have hlf:¬((n:Int)<0):=by omega
 by_cases hn0:n=0
 ·subst hn0;have hw0:ε.wrap 0=0:=by decide
  have hr':sLen<=sCap:=by omega
  cases base<;>simp [XM,run_underlying ht,run_underlying hu,sizeOf,typeInfo,hi,asInt,asIntOf,hw0,hr',PJ]
 ·have BX:n*i.size≠0:=Nat.mul_ne_zero hn0 h0;cases base<;>simp [XM,run_underlying ht,run_underlying hu,sizeOf,typeInfo,zeroValue,hi,hz,asInt,asIntOf,hw,hl,hlf,hr,BX]
theorem Yf{P:Program}{t u e ty:TypeId}{k k':IntKind}{i:TypeInfo}{zv:Value}(ht:P.underlying t=δ (.slice e))(hu:P.underlying u=δ (.int k))(hi:P.info? e=δ i)(hz:i.zero=δ zv)(hb0:i.bytes≠0)(h0:i.size≠0)
  {base:Option Addr} {sLen sCap n:Nat} {olds:List Value} (hold:(u9 i.size sLen (.slice base sLen sCap)).run P w.drew=.ok olds.toArray w.drew)
  (hg:sCap<sLen+n) (hm:sLen+n<=140737488355328 / i.bytes):
  (XM #[t,u] ty #[.slice base sLen sCap,.int k' n]).run P w=
   .ok (.slice (δ ⟨w.heap.size,0,μ⟩) (sLen+n) (grownCap w (sLen+n) sCap e)) (w.drew.alloc (.cells (olds.toArray++(Λ zv.cells n).toList.toArray++Λ zv.cells (grownCap w (sLen+n) sCap e-(sLen+n))) e)):=by
 have Hy:(sLen+n)*i.bytes<=140737488355328:=by have:=nK i.bytes hm;have:=ak9 140737488355328 i.bytes;omega
 have hle:sLen+n<=(sLen+n)*i.bytes:=ami _ (by omega);have h48:=growslice_fits hg Hy;have hn:¬(sLen+n<=sCap):=by omega
 have DG:¬(281474976710656<Builtin.nextslicecap (sLen+n) sCap*i.bytes):=by omega
 have hw:ε.wrap (n:Int)=(n:Int):=by rw[IntKind.wrap_i64];omega
 have hnb:n*i.bytes<=(sLen+n)*i.bytes:=nK _ (by omega)
 have hl:¬((281474976710656:Int)<(n:Int)*(i.bytes:Int)):=by
  have:(n:Int)*(i.bytes:Int)=((n*i.bytes:Nat):Int):=by simp
  omega
 have hlf:¬((n:Int)<0):=by omega
 have Es:¬((9223372036854775807:Int)<(sLen:Int)+(n:Int)):=by omega
 by_cases hn0:n=0
 ·subst hn0;have hw0:ε.wrap 0=0:=by decide
  have ahf:¬((9223372036854775807:Int)<(sLen:Int)):=by omega
  simp only[Nat.add_zero]at hn DG ⊢;simp [XM,run_underlying ht,run_underlying hu,sizeOf,typeInfo,zeroValue,hi,hz,asInt,asIntOf,hw0,hn,DG,hb0,ZZ,hold,newRow,grownCap,PJ,ahf]
 ·have BX:n*i.size≠0:=Nat.mul_ne_zero hn0 h0;simp [XM,run_underlying ht,run_underlying hu,sizeOf,typeInfo,zeroValue,hi,hz,asInt,asIntOf,hw,hl,hlf,hn,BX,DG,hb0,ZZ,hold,newRow,grownCap,Es]
theorem aaH(h:St X z s a w E pb){t u e ty:TypeId}{kk:IntKind}{i:TypeInfo}{zv:Value}{zs:List U}(ht:X.P.underlying t=δ (.slice e))(hu:X.P.underlying u=δ (.int kk))(hi:X.P.info? e=δ i)(hz:i.zero=δ zv)(hzs:zv.cells.size=i.size)(h0:i.size≠0)(hb0:i.bytes≠0)
  (nY:∀c,aF c zs zv.cells.toList) (hone:∀x∈zv.cells.toList,cx x=θ)
  {x y:U} {v vy:Value} {r:U} {σ':Heap} (hap:A.CZ i.size (140737488355328 / i.bytes) zs x y s.σ=δ (r,σ')) (rx:an (ctx z w E pb) x v) (ry:an (ctx z w E pb) y vy):
  ∃k w' E',(XM #[t,u] ty #[v,vy]).run X.P w=.ok k w'/\St X z (s.heap σ') a w' E' pb/\an (ctx z w' E' pb) r k:=by
 unfold A.CZ at hap;split at hap
 ·rename_i k n;simp only[an]at ry;subst ry;split at hap
  ·rename_i hn;obtain⟨hn1,hn2⟩:=hn;obtain⟨m,rfl⟩:∃m:Nat,n=m:=⟨n.toNat,by omega⟩
   simp only[Xk]at hap;have hzl:zs.length=i.size:=by rw[(nY (ctx z w E pb)).length];simpa using hzs
   have hm:m<=140737488355328 / i.bytes:=by omega
   refine Qt (e:=e) h hzs h0 hone (ys:=w4 m zs) (news:=(Λ zv.cells m).toList) ⟨λw2 ty base sLen sCap hw hr=>?_,λty base sLen sCap olds ho hg hmm=>?_⟩ ?_ (Rn hzs h0 hone m) ?_ (λy hy=>by rw[(ZS.1 hy).2];exact hzl) hap rx
   ·rw[Z5]at hr ⊢;exact ajs ht hu hi hz hb0 h0 hm hr
   ·rw[Z5]at hg hmm ⊢;exact Yf ht hu hi hz hb0 h0 ho hg hmm
   ·rw[FJ hzs h0];exact(nY _).flatten m
   ·rw[Xu,size_zeroCells,hzs,Z5]
  ·cases hap
 ·cases hap
theorem aee(h:St X z s a w E pb){t u e e' ty:TypeId}{i:TypeInfo}(ht:X.P.underlying t=δ (.slice e))(hu:X.P.underlying u=δ (.slice e'))(hi:X.P.info? e=δ i)(h0:i.size≠0)
  {x y:U} {v vy:Value} {r:U} {σ':Heap} (lU:A.MN i.size x y s.σ=δ (r,σ')) (rx:an (ctx z w E pb) x v) (ry:an (ctx z w E pb) y vy):
  ∃k w',(XF #[t,u] ty #[v,vy]).run X.P w=.ok k w'/\St X z (s.heap σ') a w' E pb/\an (ctx z w' E pb) r k:=by
 unfold A.MN at lU;obtain⟨ys,hy,lU⟩:=bg.1 lU;obtain⟨q,cap,news,rfl,hn1,hn2,jT,nW,qz,Wk⟩:=Qy (P:=X.P) h.heap hy ry;have hs0:s.heap s.σ=s:=rfl
 have Eo:(u9 i.size 0 (.slice q ys.length cap)).run X.P w=.ok #[] w:=by have:=Wk 0 (ur _) w rfl;simpa using this
 cases x<;>simp only at lU<;>first|(cases lU;done)|skip
 case bA=>
  simp only[χ,Θ]at lU;obtain⟨rfl,rfl⟩:=lU;simp only[an]at rx;subst rx;exact⟨goInt 0,w,by simp [XF,run_underlying ht,sizeOf,typeInfo,hi,Yq,Eo,Nat.min],by rw[hs0];exact h,by simp [an,goInt]⟩
 case ez=>
  simp only[χ,Θ]at lU;obtain⟨rfl,rfl⟩:=lU;simp only[an]at rx;obtain⟨qb,rfl⟩:=rx;exact⟨goInt 0,w,by cases qb<;>simp [XF,run_underlying ht,sizeOf,typeInfo,hi,Yq,Eo,storeCells],by rw[hs0];exact h,by simp [an,goInt]⟩
 case os=>
  rename_i uL og oq off len aiG;simp only[an]at rx;obtain⟨hg,p,e1,e2,qa,cp,rfl,hcap,rx⟩:=rx;split at lU
  ·rename_i g' sz' es hs;split at lU
   ·rename_i hc;obtain⟨hc1,hc2,uF,Em⟩:=hc;subst hc1;subst hc2;subst uF;obtain⟨j1,j2,j3,j4,⟨arr,bt,j5,j6⟩,j7,j8,j9⟩:=h.heap.blk uL p _ e1 hs;obtain⟨k1,k2,k3⟩:=rx j1.symm;have hmin:Nat.min ys.length len=(ys.take len).length:=by rw[mL];exact Nat.min_comm _ _
    split at lU
    ·rename_i hz;simp only[χ,Θ]at lU;obtain⟨rfl,rfl⟩:=lU;have hm0:Nat.min ys.length len=0:=by rcases hz with k|k<;>rw[k]<;>simp [Nat.min_def]
     refine⟨goInt 0,w,?_,by rw[hs0];exact h,by simp [an,goInt]⟩;simp [XF,run_underlying ht,sizeOf,typeInfo,hi,Yq,hm0,Eo,storeCells]
    ·rename_i hz;simp only[χ,Θ]at lU;obtain⟨rfl,rfl⟩:=lU
     have wA:qa=⟨p.b,p.base+off*p.sz,μ⟩:=by
      rcases k2 with k2|k2
      ·omega
      ·exact k2
     have hsz:p.sz=i.size:=j3;obtain⟨n,hn⟩:∃n,n=(ys.take len).length:=⟨_,rfl⟩
     have hnl:n<=ys.length/\n<=len:=by rw[hn,mL];omega
     have Iq:=Wk n hnl.1 w rfl;have hyt:ys.take len=ys.take n:=by rw[hn,mL];rw[List.take_eq_take_iff];omega
     have agk:(news.take (n*i.size)).length=n*i.size:=by rw[mL,nW];exact Nat.min_eq_left (nK _ hnl.1)
     have NG:aF (ctx z w E pb) (ys.take n).flatten (news.take (n*i.size)):=by have:(ys.take n).flatten=ys.flatten.take (n*i.size):=PV qz hnl.1;rw[this];exact hn2.take _
     obtain⟨q1,q2⟩:=LJ h (i:=off) (ys:=ys.take n) e1 hs j5 (by rw[mL];omega) NG (λx hx=>jT x (xG hx)) (λy hy=>qz y (xG hy)) (by rw[agk,mL];congr 1;omega);have hst:=AE (P:=X.P) (b:=p.b) (off:=p.base+off*i.size) (t:=bt) (news.take (n*i.size)) 0 w arr j5 (by omega) (λx hx=>jT x (xG hx));rw[hyt];have hln:(ys.take n).length=n:=by rw[mL];omega
     refine⟨goInt n,_,?_,q2,?_⟩
     ·rw[wA,hsz];simp [XF,run_underlying ht,sizeOf,typeInfo,hi,Yq,hmin,<-hn,Iq,hst]
     ·rw[hln];simp [an,goInt]
   ·cases lU
  ·cases lU
theorem all_some{R:Type}{p:Nat->Prop}{k:Nat->Option R}{r:R}(h:A.all p k=δ r){n:Nat}(hn:p n):k n=δ r:=by
 unfold A.all at h;split at h
 ·rename_i hx;injection h with h
  rw[<-h];exact Zt hx n hn
 ·cases h
theorem ad5(h:St X z s a w E pb){R:Type}{k:Nat->Heap->Option R}{r:R}{t e ty:TypeId}(ht:X.P.underlying t=δ (.slice e)){x:U}{v:Value}(hk:A.DB x s.σ k=δ r)(rx:an (ctx z w E pb) x v):
  ∃c σ',k c σ'=δ r/\(akR #[t] ty #[v]).run X.P w=.ok (.int ε (c:Int)) w/\St X z (s.heap σ') a w E pb:=by
 unfold A.DB at hk;cases x<;>simp only at hk<;>first|(cases hk;done)|skip
 rename_i id g sz off len;simp only[an]at rx;obtain⟨hg,p,e1,e2,qa,cp,rfl,hcap,rx⟩:=rx;split at hk
 ·rename_i g' sz' es hs;split at hk
  ·rename_i hc;obtain⟨hc1,hc2,Em⟩:=hc;subst hc1;subst hc2;obtain⟨j1,j2,j3,j4,⟨arr,bt,j5,j6⟩,j7,j8,j9⟩:=h.heap.blk id p _ e1 hs;obtain⟨k1,k2,k3⟩:=rx j1.symm;rw[k1]at k3;have hle:es.length<=off+cp:=XY (show es.length*sz<=(off+cp)*sz by omega) j4;have hk2:=all_some hk (n:=cp) ⟨hcap,hle⟩;by_cases Wq:cp=len
   ·rw[aE Wq]at hk2;refine⟨cp,_,hk2,by simp [akR,run_underlying ht,goInt],?_⟩;have B2:w.heap[p.b]? =δ (.cells arr bt (0,0)):=j5;have hel:es.length=off+cp:=by omega
    have hst:=h.ug e1 (.cells arr bt (0,0)) (.pJ g sz es) (λhx=>by
     have hsame:w.dn p.b (.cells arr bt (0,0))=w:=CK B2;rw[hsame]
     exact⟨j1,j2,j3,j4,⟨arr,bt,j5,j6⟩,by rw[hel];omega,j8,j9⟩)
    rw[CK B2]at hst;exact hst
   rw[aD Wq]at hk2;refine⟨cp,_,hk2,by simp [akR,run_underlying ht,goInt],?_⟩;have B2:w.heap[p.b]? =δ (.cells arr bt (0,0)):=j5
   have hst:=h.ug e1 (.cells arr bt (0,0)) (.arr g sz (es++w4 (off+cp-es.length) (w4 sz .undef))) (λhx=>by
    have hsame:w.dn p.b (.cells arr bt (0,0))=w:=CK B2;rw[hsame];refine⟨j1,j2,j3,j4,⟨arr,bt,j5,j6⟩,?_,aY.append j8 (aY.of λj x hj=>?_),j9⟩
    ·rw[W0,Z5,show es.length+(off+cp-es.length)=off+cp by omega];omega
    ·have hjl:=(cL.1 hj).1;rw[Z5]at hjl;have hx':=cZ hj;rw[ZS]at hx';rw[hx'.2];refine⟨Z5,alS λm av hm=>?_⟩;have hml:=(cL.1 hm).1;rw[Z5]at hml;have zQ:=cZ hm;rw[ZS]at zQ;have hmul:(es.length+(j+1))*sz<=(off+cp)*sz:=nK _ (by omega);rw[fU,fU]at hmul;have hin:p.base+es.length*sz+j*sz+m<arr.size:=by rw[j6];omega
     refine⟨arr[p.base+es.length*sz+j*sz+m],?_,j9 _ _ _ j5 _ (by simp),by rw[zQ.2];simp [an]⟩;show w.cell? _=_
     rw[tJ B2,sI hin])
   rw[CK B2]at hst;exact hst
  ·cases hk
 ·cases hk
end
end
section
open Go.RowKit
section
variable {c : RC}
theorem Gw{k:Nat}{x y:U}{v u:Value}(n:Nat)(h:A.jQ k x y=δ θ)(r:an c x v)(q:an c y u):Xn n u v=θ:=by
 unfold A.jQ at h;split at h
 ·unfold A.jR at h;split at h
  ·simp only[an]at r q;split at h
   ·injection h with h;subst_vars;simp at h;subst h;simp [Xn]
   ·cases h
  ·cases h
 ·unfold A.rB at h;split at h
  ·simp only[an]at r q;injection h with h;subst_vars;simp at h;subst h;simp [Xn]
  ·cases h
 ·unfold A.mR at h;split at h
  ·simp only[an]at r q;injection h with h;subst_vars;simp only[Xn];rename_i a b
   rw[Dt]at h ⊢;rw[beq_iff_eq]at h ⊢;exact h.symm
  ·cases h
 ·cases h
theorem Qz(n:Nat):∀{ks:List Nat}{xs ys:List U}{vs us:List Value},XC ks xs ys=δ θ->aF c xs vs->aF c ys us->us.length=vs.length/\((us.zip vs).all λ(p:Value×Value)=>Xn n p.1 p.2)=θ
 |[],[],[],vs,us,_,r,q=>by simp only[aF]at r q;subst r;subst q;simp
 |[],[],_::_,_,_,h,_,_=>by simp [XC]at h
 |[],_::_,_,_,_,h,_,_=>by simp [XC]at h
 |_::_,[],_,_,_,h,_,_=>by simp [XC]at h
 |_::_,_::_,[],_,_,h,_,_=>by simp [XC]at h
 |k::ks,x::xs,y::ys,vs,us,h,r,q=>by simp only[XC]at h;obtain⟨p,h1,h2⟩:=bg.1 h;obtain⟨p',h3,h4⟩:=cO.1 h2;simp only[dr]at h4;obtain⟨rfl,rfl⟩:=h4;simp only[aF]at r q;obtain⟨v,vs',rfl,r1,r2⟩:=r;obtain⟨u,us',rfl,q1,q2⟩:=q;obtain⟨i1,i2⟩:=Qz n h3 r2 q2;exact⟨by simp [i1],by simp [Gw n h1 r1 q1];simpa using i2⟩
theorem ada{e:A.EK}{x y:U}{v u:Value}(hk:A.ju e x=θ)(h:XL e x y=δ θ)(r:an c x v)(q:an c y u):Xn 10000 u v=θ:=by
 cases e<;>simp only[XL]at h;case i=>exact Gw (k:=0) _ h r q
 case b=>exact Gw (k:=1) _ h r q
 case z=>exact Gw (k:=2) _ h r q
 case p=>cases x<;>simp [A.ju]at hk
 case s ks=>
  split at h
  ·simp only[an]at r q;obtain⟨vs,rfl,r1,_⟩:=r;obtain⟨us,rfl,q1,_⟩:=q;obtain⟨i1,i2⟩:=Qz 9999 h r1 q1;show Xn (9999+1) _ _=θ;simp only[Xn,dr];exact⟨by simpa using i1,i2⟩
  ·cases h
theorem T4{e:A.EK}{k v:U}:∀{aV iA:List (U×U)}{i:Nat}{ix:Option Nat},alp e k v aV=δ iA->A.pG e k aV i=δ ix->
  (ix=μ/\iA=aV++[(k,v)])\/∃j p,ix=δ (i+j)/\aV[j]? =δ p/\XL e k p.1=δ θ/\iA=aV.set j (k,v)
 |[],iA,i,ix,h,g=>by simp only[alp,A.pG]at h g;injection h with h;injection g with g;exact .inl ⟨g.symm,by simpa using h.symm⟩
 |(k',v')::aV,iA,i,ix,h,g=>by
  simp only[alp,A.pG]at h g;obtain⟨b,h1,h2⟩:=bg.1 h;rw[h1,aA]at g;cases b
  ·simp only[aZ]at h2 g;obtain⟨e2,h3,h4⟩:=cO.1 h2;rcases T4 h3 g with⟨rfl,rfl⟩|⟨j,p,rfl,k1,k2,rfl⟩
   ·exact .inl ⟨rfl,by simpa using h4.symm⟩
   ·exact .inr ⟨j+1,p,by congr 1;omega,by simpa using k1,k2,by simpa using h4.symm⟩
  ·simp only[bG]at h2 g;injection h2 with h2;injection g with g
   exact .inr ⟨0,(k',v'),g.symm,rfl,h1,by simpa using h2.symm⟩
theorem Tw{e:A.EK}{k:U}:∀{aV iA:List (U×U)}{i:Nat}{ix:Option Nat},A.del e k aV=δ iA->A.pG e k aV i=δ ix->
  (ix=μ/\iA=aV)\/∃j,ix=δ (i+j)/\j<aV.length/\iA=aV.eraseIdx j
 |[],iA,i,ix,h,g=>by simp only[A.del,A.pG]at h g;injection h with h;injection g with g;exact .inl ⟨g.symm,h.symm⟩
 |(k',v')::aV,iA,i,ix,h,g=>by
  simp only[A.del,A.pG]at h g;obtain⟨b,h1,h2⟩:=bg.1 h;rw[h1,aA]at g;cases b
  ·simp only[aZ]at h2 g;obtain⟨e2,h3,h4⟩:=cO.1 h2;rcases Tw h3 g with⟨rfl,rfl⟩|⟨j,rfl,k1,rfl⟩
   ·exact .inl ⟨rfl,by simpa using h4.symm⟩
   ·exact .inr ⟨j+1,by congr 1;omega,by simpa using k1,by simpa using h4.symm⟩
  ·simp only[bG]at h2 g;injection h2 with h2;injection g with g
   exact .inr ⟨0,g.symm,by simp,by simpa using h2.symm⟩
theorem Rk{e:A.EK}{k v:U}:∀{aV iA:List (U×U)},alp e k v aV=δ iA->∃r,YB e k aV=δ r
 |[],iA,_=>⟨μ,rfl⟩
 |(k',v')::aV,iA,g=>by
  simp only[alp]at g;obtain⟨b,h1,h2⟩:=bg.1 g;cases b
  ·obtain⟨e2,h3,_⟩:=cO.1 (by simpa using h2);obtain⟨r,hr⟩:=Rk h3;exact⟨r,by simp [YB,h1,hr]⟩
  ·exact⟨δ v',by simp [YB,h1]⟩
theorem Rj{e:A.EK}{k:U}:∀{aV iA:List (U×U)},A.del e k aV=δ iA->∃r,YB e k aV=δ r
 |[],iA,_=>⟨μ,rfl⟩
 |(k',v')::aV,iA,g=>by
  simp only[A.del]at g;obtain⟨b,h1,h2⟩:=bg.1 g;cases b
  ·obtain⟨e2,h3,_⟩:=cO.1 (by simpa using h2);obtain⟨r,hr⟩:=Rj h3;exact⟨r,by simp [YB,h1,hr]⟩
  ·exact⟨δ v',by simp [YB,h1]⟩
theorem bN.nth:∀{l:List (U×U)}{es:List MapEntry}{i:Nat}{p:U×U},bN c l es->l[i]? =δ p->∃e,es[i]? =δ e/\an c p.1 e.key/\an c p.2 e.val
 |[],es,i,p,h,k=>by simp at k
 |(a,b)::l,es,0,p,h,k=>by obtain⟨e,es',rfl,h1,h2,_⟩:=h;simp at k;subst k;exact⟨e,rfl,h1,h2⟩
 |(a,b)::l,es,i+1,p,h,k=>by obtain⟨e,es',rfl,_,_,h3⟩:=h;simp at k;obtain⟨e',k1,k2⟩:=bN.nth h3 k;exact⟨e',by simpa using k1,k2⟩
theorem bN.set{k v:U}{key val:Value}(rk:an c k key)(rv:an c v val):∀{l:List (U×U)}{es:List MapEntry}(j:Nat),bN c l es->bN c (l.set j (k,v)) (es.modify j λe=>{e with key,val})
 |[],es,j,h=>by simp only[bN]at h;subst h;simp [bN]
 |(a,b)::l,es,0,h=>by obtain⟨e,es',rfl,h1,h2,h3⟩:=h;exact⟨_,_,rfl,rk,rv,h3⟩
 |(a,b)::l,es,j+1,h=>by obtain⟨e,es',rfl,h1,h2,h3⟩:=h;exact⟨e,_,rfl,h1,h2,bN.set rk rv j h3⟩
theorem bN.push{k v:U}{key val:Value}{n:Nat}(rk:an c k key)(rv:an c v val):∀{l:List (U×U)}{es:List MapEntry},bN c l es->bN c (l++[(k,v)]) (es++[⟨key,val,n⟩])
 |[],es,h=>by simp only[bN]at h;subst h;exact⟨_,_,rfl,rk,rv,rfl⟩
 |(a,b)::l,es,h=>by obtain⟨e,es',rfl,h1,h2,h3⟩:=h;exact⟨e,_,rfl,h1,h2,bN.push rk rv h3⟩
theorem bN.erase:∀{l:List (U×U)}{es:List MapEntry}(j:Nat),bN c l es->bN c (l.eraseIdx j) (es.eraseIdx j)
 |[],es,j,h=>by simp only[bN]at h;subst h;simp [bN]
 |(a,b)::l,es,0,h=>by obtain⟨e,es',rfl,h1,h2,h3⟩:=h;exact h3
 |(a,b)::l,es,j+1,h=>by obtain⟨e,es',rfl,h1,h2,h3⟩:=h;exact⟨e,_,rfl,h1,h2,bN.erase j h3⟩
end
theorem mG.push{es:Array MapEntry}{bh:Nat}{key val:Value}(h:mG es bh):mG (es.push ⟨key,val,bh⟩) (bh+1):=by
 refine⟨λe he=>?_,?_⟩
 ·simp only[Array.toList_push,gV,alT]at he;rcases he with he|rfl
  ·have:=h.1 e he;omega
  ·exact Nat.lt_succ_self _
 ·simp only[Array.toList_push,List.map_append,fH,ali];rw[List.nodup_append];refine⟨h.2,by simp,λa ha b hb=>?_⟩;obtain⟨e,he,rfl⟩:=kZ.1 ha;have:=h.1 e he;simp at hb;omega
theorem Qo(key val:Value):∀(l:List MapEntry)(i:Nat),(l.modify i λe=>{e with key,val}).map (·.born)=l.map (·.born)
 |[],i=>by simp
 |e::l,0=>by simp
 |e::l,i+1=>by simp [Qo key val l i]
theorem mG.modify{es:Array MapEntry}{bh i:Nat}{key val:Value}(h:mG es bh):mG (es.modify i λe=>{e with key,val}) bh:=by
 have hb:(es.modify i λe=>{e with key,val}).toList.map (·.born)=es.toList.map (·.born):=by rw[Array.toList_modify,Qo]
 refine⟨λe he=>?_,by rw[hb];exact h.2⟩;have:e.born∈es.toList.map (·.born):=by rw[<-hb];exact kZ.2 ⟨e,he,rfl⟩
 obtain⟨e',he',e1⟩:=kZ.1 this;rw[<-e1];exact h.1 e' he'
theorem mG.erase{es:Array MapEntry}{bh i:Nat}(h:mG es bh):mG (es.eraseIdxIfInBounds i) bh:=by
 by_cases hi:i<es.size
 ·have hee:(es.eraseIdxIfInBounds i).toList=es.toList.eraseIdx i:=by simp [ZW,hi]
  refine⟨λe he=>h.1 e (by rw[hee]at he;exact List.mem_of_mem_eraseIdx he),?_⟩;rw[hee];exact h.2.sublist ((List.eraseIdx_sublist _ _).map _)
 ·have:es.eraseIdxIfInBounds i=es:=by simp [ZW,hi]
  rw[this];exact h
theorem mG.empty:mG #[] 0:=⟨by simp,by simp⟩
section
variable {X : Fx} {z : Z} {s : AS} {a : Act} {w w' : World} {E : List Pl} {pb : Nat -> Option Nat}
theorem F9{P:Program}{b:Nat}{es:Array MapEntry}{bh:Nat}(o:Obj)(h:w.heap[b]? =δ (.map es bh)):(setObj b o).run P w=.ok () (w.dn b o):=by simp [setObj,Zb,h,World.dn]
theorem aeI(h:St X z s a w E pb){t kt et:TypeId}{ek:A.EK}{m k v:U}{mv key val:Value}{σ':Heap}(ht:X.P.underlying t=δ (.map kt et))(he:jP X kt=δ ek)(hu:A.jy ek m k v s.σ=δ σ')
  (rm:an (ctx z w E pb) m mv) (rk:an (ctx z w E pb) k key) (rv:an (ctx z w E pb) v val):∃w',(alI t mv key val).run X.P w=.ok () w'/\St X z (s.heap σ') a w' E pb:=by
 unfold A.jy at hu;cases hk:A.ju ek k
 ·rw[hk]at hu;cases hu
 ·rw[hk]at hu;simp only[bG]at hu;cases m<;>simp only at hu<;>first|(cases hu;done)|skip
  rename_i id;simp only[an]at rm;obtain⟨p,e1,e2,rfl⟩:=rm;split at hu
  ·rename_i aV hs;obtain⟨iA,h1,h2⟩:=cO.1 hu;subst h2;obtain⟨hg,es,bh,k1,kw,k2⟩:=h.heap.blk id p _ e1 hs;obtain⟨r,hr⟩:=Rk h1;obtain⟨res,f1,f2,f3⟩:=LL (c:=ctx z w E pb) w X he hk rk hr k2;have uG:=FW (c:=ctx z w E pb) w X he hk rk ξ;have jx:(getObj p.b).run X.P w=.ok (.map es bh) w:=by simp [getObj,Zb,show w.heap[p.b]? =_ from k1]
   have hlt:p.b<w.heap.size:=h.heap.lt (p:=p) (cZ e1);rcases T4 h1 f3 with⟨e3,rfl⟩|⟨j,q,e3,q1,q2,rfl⟩
   ·have hres:res=μ:=by cases res with|none=>rfl|some x=>simp at e3
    subst hres;refine⟨w.dn p.b (.map (es.push ⟨key,val,bh⟩) (bh+1)),?_,h.ug e1 _ _ λhx=>⟨hg,_,_,rT _ hlt,kw.push,?_⟩⟩
    ·simp [alI,run_underlying ht,jx,uG,f1,F9 _ (show w.heap[p.b]? =_ from k1)]
    ·have:=bN.push (n:=bh) (Yz hx _ _ rk) (Yz hx _ _ rv) (k2.mono hx);simpa using this
   ·obtain⟨i,u,hres,hi⟩:∃i u,res=δ (i,u)/\i=j:=by
     cases res with
     |none=>simp at e3
     |some x=>exact⟨x.1,x.2,rfl,by simpa using e3⟩
    subst hi;subst hres;obtain⟨e,n1,n2,_⟩:=k2.nth q1;have hsame:=ada (c:=ctx z w E pb) hk q2 rk n2;have Ov:es[i]? =δ e:=by rw[<-Zq];exact n1
    refine⟨w.dn p.b (.map (es.modify i λe=>{e with key,val}) bh),?_,h.ug e1 _ _ λhx=>⟨hg,_,_,rT _ hlt,kw.modify,?_⟩⟩
    ·simp [alI,run_underlying ht,jx,uG,f1,Ov,Instr.keyThatStays,hsame,F9 _ (show w.heap[p.b]? =_ from k1)]
    ·have:=bN.set (Yz hx _ _ rk) (Yz hx _ _ rv) i (k2.mono hx);simpa using this
  ·cases hu
theorem aeG(h:St X z s a w E pb){t kt et u ty:TypeId}{ek:A.EK}{m k:U}{mv key:Value}{σ':Heap}(ht:X.P.underlying t=δ (.map kt et))(he:jP X kt=δ ek)(hu:A.NL ek m k s.σ=δ σ')
  (rm:an (ctx z w E pb) m mv) (rk:an (ctx z w E pb) k key):∃w',(akU #[t,u] ty #[mv,key]).run X.P w=.ok (.tuple #[]) w'/\St X z (s.heap σ') a w' E pb:=by
 unfold A.NL at hu;cases hk:A.ju ek k
 ·rw[hk]at hu;cases hu
 ·rw[hk]at hu;simp only[bG]at hu;cases m<;>simp only at hu<;>first|(cases hu;done)|skip
  case nm=>
   injection hu with hu;subst hu
   simp only[an]at rm;subst rm;exact⟨w,by simp [akU,run_underlying ht,FW (c:=ctx z w E pb) w X he hk rk θ],h⟩
  case om id=>
   simp only[an]at rm;obtain⟨p,e1,e2,rfl⟩:=rm;split at hu
   ·rename_i aV hs;obtain⟨iA,h1,h2⟩:=cO.1 hu;subst h2;obtain⟨hg,es,bh,k1,kw,k2⟩:=h.heap.blk id p _ e1 hs;obtain⟨r,hr⟩:=Rj h1;obtain⟨res,f1,f2,f3⟩:=LL (c:=ctx z w E pb) w X he hk rk hr k2;have uG:=FW (c:=ctx z w E pb) w X he hk rk es.isEmpty;have jx:(getObj p.b).run X.P w=.ok (.map es bh) w:=by simp [getObj,Zb,show w.heap[p.b]? =_ from k1]
    have hlt:p.b<w.heap.size:=h.heap.lt (p:=p) (cZ e1);rcases Tw h1 f3 with⟨e3,rfl⟩|⟨j,e3,q1,rfl⟩
    ·have hres:res=μ:=by cases res with|none=>rfl|some x=>simp at e3
     subst hres;refine⟨w.dn p.b (.map es bh),?_,h.ug e1 _ _ λhx=>⟨hg,_,_,rT _ hlt,kw,k2.mono hx⟩⟩;simp [akU,run_underlying ht,jx,uG,f1,F9 _ (show w.heap[p.b]? =_ from k1)]
    ·obtain⟨i,u',hres,hi⟩:∃i u,res=δ (i,u)/\i=j:=by
      cases res with
      |none=>simp at e3
      |some x=>exact⟨x.1,x.2,rfl,by simpa using e3⟩
     subst hi;subst hres;refine⟨w.dn p.b (.map (es.eraseIdxIfInBounds i) bh),?_,h.ug e1 _ _ λhx=>⟨hg,_,_,rT _ hlt,kw.erase,?_⟩⟩
     ·simp [akU,run_underlying ht,jx,uG,f1,F9 _ (show w.heap[p.b]? =_ from k1)]
     ·have hl:=k2.length;have:i<es.size:=by simp at hl;omega
      have hee:(es.eraseIdxIfInBounds i).toList=es.toList.eraseIdx i:=by simp [ZW,this]
      rw[hee];exact bN.erase i (k2.mono hx)
   ·cases hu
theorem PS{f:MapEntry->Nat}:∀{l:List MapEntry}{j:Nat}{e:MapEntry},(l.map f).Nodup->l[j]? =δ e->(l.filter λx=>!(f x==f e))=l.eraseIdx j
 |[],j,e,_,h=>by simp at h
 |x::l,0,e,hn,h=>by
  simp at h;subst h;simp only[fH,alo]at hn;simp only[aml,beq_self_eq_true,n8,List.eraseIdx_cons_zero];rw[alJ.2]
  ·simp
  ·intro y hy;have:f y≠f x:=λe=>hn.1 (kZ.2 ⟨y,hy,e⟩)
   simp [this]
 |x::l,j+1,e,hn,h=>by
  simp only[fH,alo]at hn;simp at h;have hne:f x≠f e:=λk=>hn.1 (kZ.2 ⟨e,cZ h,k.symm⟩)
  simp only[aml,List.eraseIdx_cons_succ];have:(f x==f e)=ξ:=by simpa using hne
  rw[this];simp only[ZQ,if_true];rw[PS hn.2 h]
theorem choose_lt{P:Program}(w:World){n:Nat}(hn:0<n):∃j w',j<n/\(choose (.mapNext n)).run P w=.ok j w'/\Below w.heap.size w w'/\w'.heap=w.heap:=by
 by_cases h1:n<=1
 ·exact⟨0,w,hn,by simp [choose,Zb,ZZ,h1],Below.refl _ _,rfl⟩
 ·refine⟨_,w.drew,?_,by simp [choose,Zb,ZZ,h1];rfl,(Below.refl _ _).drew,rfl⟩;simp only[Question.cut];exact Nat.mod_lt _ hn
theorem mG.UI{es:Array MapEntry}{bh:Nat}(h:mG es bh)(b:Bool):(!b&&!es.isEmpty&&es.all λe=>decide (e.born>=bh))=ξ:=by
 cases b
 ·by_cases he:es.isEmpty=θ
  ·simp [he]
  ·have hs:0<es.size:=by rw[Array.isEmpty_iff]at he;exact Nat.pos_of_ne_zero λk=>he (Array.eq_empty_of_size_eq_zero k)
   have:=h.1 es[0] (by simp)
   have:¬(es.all λe=>decide (e.born>=bh))=θ:=by intro k;rw[Array.all_eq_true]at k;have:=k 0 hs;simp at this;omega
   simp only[Bool.not_eq_true]at this;rw[this];simp
 ·simp
theorem filter_all{l:Array MapEntry}{bh:Nat}(h:∀e∈l.toList,e.born<bh):l.filter (λe=>decide (e.born<bh))=l/\l.filter (λe=>decide (e.born>=bh))=#[]:=by
 constructor
 ·apply jv.1;rw[YQ,alJ.2];intro e he;simpa using h e he
 ·apply jv.1;rw[YQ];show _=[]
  rw[List.filter_eq_nil_iff];intro e he;have:=h e he;simp;omega
theorem Tf{α:Type}{l:List α}{j:Nat}(hj:j<l.length):(l[j]::l.eraseIdx j).Perm l:=by
 have e:l=l.take j++l[j]::l.drop (j+1):=by rw[List.getElem_cons_drop,List.take_append_drop]
 rw[List.eraseIdx_eq_take_drop_succ];conv=>rhs;rw[e]
 exact List.perm_middle.symm
theorem aeM(h:St X z s a w E pb){R:Type}{k:U->Heap->Option R}{r:R}{i:U}{v:Value}{ty:TypeId}(hk:A.xB i s.σ k=δ r)(ri:an (ctx z w E pb) i v):
  ∃av σ' v' w',k av σ'=δ r/\(alU v ξ ty).run X.P w=.ok v' w'/\St X z (s.heap σ') a w' E pb/\an (ctx z w' E pb) av v':=by
 unfold A.xB at hk;split at hk
 ·rename_i id;simp only[an]at ri;obtain⟨p,e1,e2,rfl⟩:=ri;have hlt:p.b<w.heap.size:=h.heap.lt (p:=p) (cZ e1);have agm:an (ctx z w E pb) (.az [.bool ξ]) (.tuple #[.bool ξ]):=by simp [an,aF]
  have hs0:s.heap s.σ=s:=rfl;split at hk
  ·rename_i cur hs;obtain⟨hg,hit⟩:=h.heap.blk id p _ e1 hs;rcases hit with⟨_,_,since,seen,last,h3⟩|⟨m,seen,aV,bh,h3,h4,h5,h6,h7,h8,h9⟩
   ·have jx:(getObj p.b).run X.P w=.ok (.mapIter μ since seen last) w:=by simp [getObj,Zb,show w.heap[p.b]? =_ from h3]
    exact⟨_,_,_,w,hk,by simp [alU,jx],by rw[hs0];exact h,agm⟩
   ·have jx:(getObj p.b).run X.P w=.ok (.mapIter (δ m) bh seen bh) w:=by simp [getObj,Zb,show w.heap[p.b]? =_ from h3]
    have za:(getObj m).run X.P w=.ok (.map aV bh) w:=by simp [getObj,Zb,show w.heap[m]? =_ from h6]
    obtain⟨l,h8,wv⟩:=h8;simp only[bN]at h8;subst h8;have hl:aV.filter (λe=>!seen.contains e.born)=#[]:=by apply jv.1;rw[YQ];exact wv.nil_eq.symm
    obtain⟨j,w',hj,hch,hb,hw⟩:=choose_lt (P:=X.P) w (n:=1) (by omega);have hj0:j=0:=by omega
    subst hj0;have hst:=h7.UI seen.isEmpty;refine⟨_,_,.tuple #[.bool ξ],w',hk,?_,by rw[hs0];exact h.grow hb,by simp [an,aF]⟩
    simp only[alU,l5,jx,Ω,za,hst,hl];simp [-Go.run_choose,-Go.run_choose_drew,hch]
  ·rename_i cur x left hs;obtain⟨hg,hit⟩:=h.heap.blk id p _ e1 hs;rcases hit with⟨_,hn,_⟩|⟨m,seen,aV,bh,h3,h4,h5,h6,h7,h8,h9⟩
   ·cases hn
   ·have jx:(getObj p.b).run X.P w=.ok (.mapIter (δ m) bh seen bh) w:=by simp [getObj,Zb,show w.heap[p.b]? =_ from h3]
    have za:(getObj m).run X.P w=.ok (.map aV bh) w:=by simp [getObj,Zb,show w.heap[m]? =_ from h6]
    obtain⟨L,hL⟩:∃L,L=aV.filter (λe=>!seen.contains e.born):=⟨_,rfl⟩
    have Eh:L.toList=aV.toList.filter (λe=>!seen.contains e.born):=by rw[hL,YQ]
    rw[<-Eh]at h8;obtain⟨l,h8,wv⟩:=h8;have hlen:=h8.length;rw[wv.length_eq]at hlen;simp only[Xu]at hlen;have hlt':∀e∈L.toList,e.born<bh:=λe he=>h7.1 e (by rw[Eh]at he;exact(Yk.1 he).1)
    obtain⟨f1,f2⟩:=filter_all hlt'
    have hne:L.isEmpty=ξ:=by rw[Array.isEmpty_eq_false_iff];intro k;rw[k]at hlen;simp at hlen
    obtain⟨j,w',hj,hch,hb,hw⟩:=choose_lt (P:=X.P) w (n:=L.size) (by rw[<-hlen];simp);have hst:=h7.UI seen.isEmpty;obtain⟨e,Wc⟩:∃e,L[j]? =δ e:=⟨_,sI hj⟩
    have n1:L.toList[j]? =δ e:=by rw[Zq];exact Wc
    obtain⟨i,hil,Ir⟩:=Y0.1 (wv.mem_iff.2 (cZ n1));have Nv:i<(x::left).length:=by rw[h8.length];exact hil
    have hk2:=all_some hk Nv;rw[bT Nv]at hk2;simp only at hk2;obtain⟨e',Iv,n2,n3⟩:=bN.nth h8 (bT Nv);have hee:e=e':=by rw[bT hil]at Iv;injection Iv with Iv;rw[<-Iv,Ir]
    subst hee
    have Oz:(l.eraseIdx i).Perm (L.toList.eraseIdx j):=by
     have p1:(e::l.eraseIdx i).Perm l:=by have:=Tf hil;rwa[Ir]at this
     obtain⟨hjj,hje⟩:=cL.1 n1;have p2:(e::L.toList.eraseIdx j).Perm L.toList:=by have:=Tf hjj;rwa[hje]at this
     exact amh.cons_inv ((p1.trans wv).trans p2.symm)
    have hg2:=h.grow hb;have hmp:p.b≠m:=λk=>h5 (.inr (.inl ⟨p,cZ e1,k⟩))
    have h3':w'.heap[p.b]? =δ (.mapIter (δ m) bh seen bh):=by rw[hw];exact h3
    have hset:(setObj p.b (.mapIter (δ m) bh (seen.push e.born) bh)).run X.P w'=.ok () (w'.dn p.b (.mapIter (δ m) bh (seen.push e.born) bh)):=by simp [setObj,Zb,h3',World.dn]
    refine⟨_,_,.tuple #[.bool θ,e.key,e.val],w'.dn p.b (.mapIter (δ m) bh (seen.push e.born) bh),hk2,?_,hg2.ug e1 _ _ λhx=>⟨hg,.inr ⟨m,seen.push e.born,aV,bh,?_,?_,?_,?_,h7,?_,?_⟩⟩,?_⟩
    ·simp only[alU,l5,jx,Ω,za,hst,<-hL,f1,f2,hne];simp [-Go.run_choose,-Go.run_choose_drew,hch,Wc,hset]
    ·exact rT _ (by rw[hw];exact hlt)
    ·show m<(w'.dn p.b _).heap.size;rw[yP,hw];exact h4
    ·exact h5
    ·show(w'.dn p.b _).heap[m]? =_;rw[uU _ hmp,hw];exact h6
    ·have hx2:Ext (ctx z w E pb) (ctx z (w'.dn p.b (.mapIter (δ m) bh (seen.push e.born) bh)) E pb):=(pe hb).trans hx
     have hfe:(aV.toList.filter λe'=>!(seen.push e.born).contains e'.born)=L.toList.eraseIdx j:=by rw[Eh];have hnd:((aV.toList.filter λe=>!seen.contains e.born).map (·.born)).Nodup:=h7.2.sublist ((List.filter_sublist).map _);rw[<-PS (f:=(·.born)) (e:=e) hnd (by rw[<-Eh];exact n1),List.filter_filter];congr 1;funext y;simp only[Array.contains_push,Bool.not_or];rw[Bool.and_comm]
     rw[hfe];exact⟨_,(bN.erase i h8).mono hx2,Oz⟩
    ·refine .inr ⟨_,_,e,rfl,by simp,?_,?_,?_⟩
     ·have:=cZ n1;rw[Eh]at this;exact(Yk.1 this).1
     ·exact Yz ((pe hb).trans hx) _ _ n2
     ·exact Yz ((pe hb).trans hx) _ _ n3
    ·have hx:Ext (ctx z w' E pb) (ctx z (w'.dn p.b (.mapIter (δ m) bh (seen.push e.born) bh)) E pb):=LV (.inr (.inl ⟨p,cZ e1,rfl⟩));have hx2:=(pe hb).trans hx;simp only[an];exact⟨_,rfl,by simp only[aF];exact⟨_,_,rfl,rfl,_,_,rfl,Yz hx2 _ _ n2,_,_,rfl,Yz hx2 _ _ n3,rfl⟩⟩
  ·cases hk
 ·cases hk
theorem adH(h:St X z s a w E pb){t kt et:TypeId}{x:U}{v:Value}{es:List (U×U)}(ht:X.P.underlying t=δ (.map kt et))(hr:A.MG x=δ es)(rx:an (ctx z w E pb) x v):
  ∃o,(Instr.range t v).run X.P w=.ok (.pointer (δ ⟨w.heap.size,0,μ⟩)) (w.alloc o)/\St X z (s.heap (s.σ++[.it [] es])) a (w.alloc o) (E++[⟨w.heap.size,0,0,0,0⟩]) pb:=by
 unfold A.MG at hr;split at hr
 ·injection hr with hr
  subst hr;simp only[an]at rx;subst rx;refine⟨.mapIter μ 0 #[] 0,by simp [Instr.range,run_underlying ht,newObj,Zb],h.vB _ _ ⟨w.heap.size,0,0,0,0⟩ rfl λhx=>⟨rfl,.inl ⟨rfl,rfl,_,_,_,(ZJ w _).1⟩⟩⟩
 ·injection hr with hr
  subst hr;simp only[an]at rx;obtain⟨b,rfl,hb,hX,aV,bh,k1,kw,l,k2,k3⟩:=rx;have za:(getObj b).run X.P w=.ok (.map aV bh) w:=by simp [getObj,Zb,show w.heap[b]? =_ from k1]
  refine⟨.mapIter (δ b) bh #[] bh,by simp [Instr.range,run_underlying ht,za,newObj,Zb],h.vB _ _ ⟨w.heap.size,0,0,0,0⟩ rfl λhx=>⟨rfl,.inr ⟨b,#[],aV,bh,(ZJ w _).1,?_,(hx.stay b hb hX).2,?_,kw,?_,.inl rfl⟩⟩⟩
  ·exact nJ hb hx.size
  ·exact(hx.stay b hb hX).1.trans k1
  ·have:(aV.toList.filter λe=>!(#[]:Array Nat).contains e.born)=aV.toList:=by rw[alJ];intro e _;simp
   rw[this];exact⟨l,k2.mono hx,by rcases k3 with rfl|⟨k3,_⟩<;>first|exact amh.refl _|exact k3⟩
 ·cases hr
end
end
end
end Go.Proofs.YtpcafbmnjchmcaaGreatDoor
