/- Parts of the proof of PickSpreadsMatchSpec, in order. -/
import Derived.Orders
import Derived.Below
import Derived.WalkKit
import Derived.Laws.StructEq
import Derived.Laws.Append
import Derived.Laws.AppendOwn
namespace Go.Proofs.Ytjjjjbgohkklnaa
set_option linter.unusedVariables false
set_option linter.unusedSimpArgs false
set_option linter.unusedSectionVars false
theorem aQ{α:Type _}{β:Type _}(a:α)(f:α→Option β):(some a).bind f=f a:=rfl
theorem eO{α:Type _}{β:Type _}(a:α)(f:α→β):(some a).map f=some (f a):=rfl
theorem fB{α:Type _}{x:α}{xs:List α}{d:α}:(x::xs).getD 0 d=x:=rfl
theorem ji{α:Type _}{x:α}{xs:List α}{n:Nat}{d:α}:(x::xs).getD (n+1) d=xs.getD n d:=rfl
theorem aV{α:Sort _}(a b:α):cond false a b=b:=rfl
theorem bG{α:Sort _}(a b:α):cond true a b=a:=rfl
theorem fJ{α:Type _}{β:Type _}{f:α→β}{a:α}{l:List α}:(a::l).map f=f a::l.map f:=rfl
theorem bU:type_of% @List.getElem?_eq_some_iff:=@List.getElem?_eq_some_iff
theorem bg:type_of% @Option.bind_eq_some_iff:=@Option.bind_eq_some_iff
theorem cI:type_of% @List.getElem?_eq_getElem:=@List.getElem?_eq_getElem
theorem dF:type_of% @List.mem_of_getElem?:=@List.mem_of_getElem?
theorem cL:type_of% @Option.map_eq_some_iff:=@Option.map_eq_some_iff
theorem fV:type_of% @List.getElem?_append_right:=@List.getElem?_append_right
theorem fE:type_of% @List.getElem?_append_left:=@List.getElem?_append_left
theorem ay:type_of% @Nat.le_refl:=@Nat.le_refl
theorem nU:type_of% @Array.getElem?_eq_some_iff:=@Array.getElem?_eq_some_iff
theorem eH:type_of% @Bool.and_eq_true:=@Bool.and_eq_true
theorem kO:type_of% @Array.getD_eq_getD_getElem?:=@Array.getD_eq_getD_getElem?
theorem eW:type_of% @List.getElem?_set:=@List.getElem?_set
theorem nV:type_of% @Nat.lt_of_lt_of_le:=@Nat.lt_of_lt_of_le
theorem kP:type_of% @List.append_assoc:=@List.append_assoc
theorem lZ:type_of% @List.getElem?_set_self:=@List.getElem?_set_self
theorem kr:type_of% @Bool.or_eq_false_iff:=@Bool.or_eq_false_iff
theorem nW:type_of% @List.drop_drop:=@List.drop_drop
theorem kQ:type_of% @Nat.add_assoc:=@Nat.add_assoc
theorem eX:type_of% @Nat.add_mul:=@Nat.add_mul
theorem ql:type_of% @Nat.add_le_add:=@Nat.add_le_add
theorem ku:type_of% @List.getElem?_eq_none:=@List.getElem?_eq_none
theorem eM:type_of% @List.mem_cons:=@List.mem_cons
theorem sS:type_of% @List.set_append_right:=@List.set_append_right
theorem qR:type_of% @List.length_eq_one_iff:=@List.length_eq_one_iff
theorem jv:type_of% @Array.toList_inj:=@Array.toList_inj
theorem kC:type_of% @Nat.mul_le_mul_right:=@Nat.mul_le_mul_right
theorem uk:type_of% @List.eq_nil_of_length_eq_zero:=@List.eq_nil_of_length_eq_zero
theorem mI:type_of% @List.mem_map:=@List.mem_map
theorem eN:type_of% @List.mem_append:=@List.mem_append
theorem qS:type_of% @Array.getElem?_eq_getElem:=@Array.getElem?_eq_getElem
theorem lH:type_of% @Bool.eq_iff_iff:=@Bool.eq_iff_iff
theorem um:type_of% @List.mem_cons_of_mem:=@List.mem_cons_of_mem
theorem gn:type_of% @List.length_take:=@List.length_take
theorem fF:type_of% @List.take_of_length_le:=@List.take_of_length_le
theorem aK:type_of% @if_pos:=@if_pos
theorem aI:type_of% @if_neg:=@if_neg
theorem eY:type_of% @decide_eq_true:=@decide_eq_true
theorem dL:type_of% @decide_eq_false:=@decide_eq_false
theorem uo:type_of% @List.mem_of_mem_take:=@List.mem_of_mem_take
theorem nZ:type_of% @List.all_eq_true:=@List.all_eq_true
theorem gU:type_of% @Nat.zero_le:=@Nat.zero_le
theorem l6:type_of% @List.cons_append:=@List.cons_append
theorem Al:type_of% @List.getElem?_map:=@List.getElem?_map
theorem vS:type_of% @List.getElem?_concat_length:=@List.getElem?_concat_length
inductive AV where
 |undef
 |int(k:IntKind)(n:Int)
 |bool(b:Bool)
 |str(s:ByteArray)
 |agg(cs:List AV)
 |aD(vs:List AV)
 |sl(sz:Nat)(es:List (List AV))
 |aN
 |ez
 |rp(cs:List AV)
 |np
 |op(id off:Nat)
 |oe(id g i off:Nat)
 |os(id g sz off len:Nat)
 |om(id:Nat)
 |fm(es:List (AV×AV))
 |nm
 |fn(f:Nat)(caps:List AV)
 |tD
 |lbx(cs:List AV)
 deriving Inhabited
inductive bk where
 |box(cs:List AV)
 |arr(g sz:Nat)(es:List (List AV))
 |kR(g sz:Nat)(es:List (List AV))
 |map(es:List (AV×AV))
 |it(cur left:List (AV×AV))
 deriving Inhabited
def B0(es:List (AV×AV)):Prop:=(∀p∈es,∃n s,p.1=.agg [.int .i64 n,.str s])∧(es.map (·.1)).Nodup
abbrev Heap:=List bk
inductive AX where
 |normal
 |exit(id:Nat)
 |ret
 deriving DecidableEq,Inhabited
namespace A
def cond{α:Type}(c:AV)(t e:Option α):Option α:=match c with|.bool b=>bif b then t else e|_=>none
def guard{α:Type}(c:AV)(want:Bool)(t e:Option α):Option α:=match c with|.bool b=>bif b==want then t else e|.aD []=>e|_=>none
def pick(c a b:AV):Option AV:=match c with|.bool c=>some (bif c then a else b)|_=>none
def cell(v:AV):Option AV:=match v with|.undef=>none|.agg _=>none|.aD _=>none|.lbx _=>none|v=>some v
def cells(n:Nat)(v:AV):Option (List AV):=match v with|.agg cs=>if cs.length=n then some cs else none|_=>none
def lb(v:AV):Option (List AV):=match v with|.lbx cs=>some cs|_=>none
def aB(off:Nat)(cs:List AV):Option AV:=(cs[off]?).bind cell
def aG(off n:Nat)(cs:List AV):Option AV:=if off+n≤cs.length then some (.agg ((cs.drop off).take n))else none
def bh(off:Nat)(new cs:List AV):Option (List AV):=if off+new.length≤cs.length then some (cs.take off++new++cs.drop (off+new.length))else none
def deref(v:AV)(σ:Heap):Option (List AV):=match v with
 |.rp cs=>some cs
 |.op id off=>match σ[id]? with|some (.box cs)=>some (cs.drop off)|_=>none
 |.oe id g i off=>match σ[id]? with|some (.arr g' _ es)=>if g=g' then(es[i]?).map (·.drop off)else none|_=>none
 |_=>none
def storeAt(v:AV)(new:List AV)(σ:Heap):Option Heap:=match v with
 |.op id off=>match σ[id]? with|some (.box cs)=>(bh off new cs).map λcs=>σ.set id (.box cs)|_=>none
 |.oe id g i off=>match σ[id]? with
  |some (.arr g' sz es)=>if g=g' then(es[i]?).bind λe=>(bh off new e).map λe=>σ.set id (.arr g sz (es.set i e))else none
  |_=>none
 |_=>none
def ia(off:Nat)(v:AV):Option AV:=match v with
 |.rp cs=>some (.rp (cs.drop off))
 |.op id o=>some (.op id (o+off))
 |.oe id g i o=>some (.oe id g i (o+off))
 |_=>none
def idx(len:Nat)(i:AV):Option Nat:=match i with|.int _ n=>if 0≤n∧n<len then some n.toNat else none|_=>none
def aM(sz:Nat)(x i:AV):Option AV:=match x with
 |.sl sz' es=>(idx es.length i).bind λj=>if sz=sz' then(es[j]?).map .rp else none
 |.os id g sz' off len=>(idx len i).bind λj=>if sz=sz' then some (.oe id g (off+j) 0)else none
 |_=>none
def sM(len sz:Nat)(x i:AV):Option AV:=(idx len i).bind λj=>match x with
 |.rp cs=>some (.rp (cs.drop (j*sz)))
 |.op id o=>some (.op id (o+j*sz))
 |.oe id g k o=>some (.oe id g k (o+j*sz))
 |_=>none
def sR(x:AV):Option AV:=match x with|.rp cs=>some (.rp cs)|.op id o=>some (.op id o)|.oe id g i o=>some (.oe id g i o)|.fn f c=>some (.fn f c)|_=>none
def ext(i:Nat)(x:AV):Option AV:=match x with|.aD vs=>vs[i]? |_=>none
def add(x y:AV):Option AV:=match x,y with
 |.int k a,.int k' b=>if k=k' then some (.int k (k.wrap (a+b)))else none
 |.str a,.str b=>if a.size+b.size≤9223372036854775807 then some (.str (a++b))else none
 |_,_=>none
def sub(x y:AV):Option AV:=match x,y with|.int k a,.int k' b=>if k=k' then some (.int k (k.wrap (a-b)))else none|_,_=>none
def mul(x y:AV):Option AV:=match x,y with|.int k a,.int k' b=>if k=k' then some (.int k (k.wrap (a*b)))else none|_,_=>none
def quo(x y:AV):Option AV:=match x,y with|.int k a,.int k' b=>if k=k'∧b≠0 then some (.int k (k.wrap (a.tdiv b)))else none|_,_=>none
def rem(x y:AV):Option AV:=match x,y with|.int k a,.int k' b=>if k=k'∧b≠0 then some (.int k (a.tmod b))else none|_,_=>none
def shl(x y:AV):Option AV:=match x,y with|.int k a,.int _ b=>if b<0 then none else some (.int k (k.wrap (a*2 ^ min b.toNat k.bits)))|_,_=>none
def shr(x y:AV):Option AV:=match x,y with|.int k a,.int _ b=>if b<0 then none else some (.int k (a.fdiv (2 ^ min b.toNat k.bits)))|_,_=>none
def lss(x y:AV):Option AV:=match x,y with|.int k a,.int k' b=>if k=k' then some (.bool (decide (a<b)))else none|.str a,.str b=>some (.bool (Op.bytesLess a.toList b.toList))|_,_=>none
def leq(x y:AV):Option AV:=match x,y with|.int k a,.int k' b=>if k=k' then some (.bool (decide (a≤b)))else none|_,_=>none
def gtr(x y:AV):Option AV:=match x,y with|.int k a,.int k' b=>if k=k' then some (.bool (decide (a>b)))else none|_,_=>none
def geq(x y:AV):Option AV:=match x,y with|.int k a,.int k' b=>if k=k' then some (.bool (decide (a≥b)))else none|_,_=>none
def kU(x y:AV):Option Bool:=match x,y with|.int k a,.int k' b=>if k=k' then some (a==b)else none|_,_=>none
def rA(x y:AV):Option Bool:=match x,y with|.bool a,.bool b=>some (a==b)|_,_=>none
def mS(x y:AV):Option Bool:=match x,y with|.str a,.str b=>some (a==b)|_,_=>none
def KL(x y:AV):Option Bool:=match x,y with
 |.np,.np=>some true
 |.np,.rp _=>some false
 |.np,.op _ _=>some false
 |.rp _,.np=>some false
 |.op _ _,.np=>some false
 |_,_=>none
def kE(k:Nat)(x y:AV):Option Bool:=match k with|0=>kU x y|1=>rA x y|2=>mS x y|_=>none
def dS:List Nat→List AV→List AV→Option Bool
 |[],[],[]=>some true
 |k::ks,x::xs,y::ys=>(kE k x y).bind λb=>(dS ks xs ys).map λc=>b&&c
 |_,_,_=>none
inductive EK where
 |i|b|z|p
 |s(ks:List Nat)
def dD(k:EK)(x y:AV):Option Bool:=match k with
 |.i=>kU x y
 |.b=>rA x y
 |.z=>mS x y
 |.p=>KL x y
 |.s ks=>match x,y with|.agg xs,.agg ys=>dS ks xs ys|_,_=>none
def eql(k:EK)(x y:AV):Option AV:=(dD k x y).map .bool
def neq(k:EK)(x y:AV):Option AV:=(dD k x y).map λb=>.bool (!b)
def FU(x y:AV):Option Bool:=match y with
 |.aN=>(match x with|.aN=>some true|.sl _ (_::_)=>some false|.os _ _ _ _ _=>some false|_=>none)
 |_=>none
def FC(x y:AV):Option AV:=(FU x y).map .bool
def neN(x y:AV):Option AV:=(FU x y).map λb=>.bool (!b)
def Cc(x:AV):Option AV:=match x with|.aN=>some (.int .i64 0)|.ez=>some (.int .i64 0)|_=>none
def not(x:AV):Option AV:=match x with|.bool b=>some (.bool (!b))|_=>none
def neg(x:AV):Option AV:=match x with|.int k n=>some (.int k (k.wrap (0-n)))|_=>none
def conv(k:IntKind)(x:AV):Option AV:=match x with|.int _ n=>some (.int k (k.wrap n))|_=>none
def QY(x:AV):Option AV:=match x with|.str s=>some (.str s)|_=>none
def max(x y:AV):Option AV:=match x,y with|.int k a,.int _ b=>some (.int k (if b>a then b else a))|_,_=>none
def min(x y:AV):Option AV:=match x,y with|.int k a,.int _ b=>some (.int k (if b<a then b else a))|_,_=>none
def xQ(x:AV):Option AV:=match x with|.str s=>some (.int .i64 s.size)|_=>none
def br(x:AV):Option AV:=match x with
 |.sl _ es=>some (.int .i64 es.length)
 |.aN=>some (.int .i64 0)
 |.ez=>some (.int .i64 0)
 |.os _ _ _ _ n=>some (.int .i64 n)
 |_=>none
def RM(x:AV)(σ:Heap):Option AV:=match x with
 |.nm=>some (.int .i64 0)
 |.fm es=>some (.int .i64 es.length)
 |.om id=>match σ[id]? with|some (.map es)=>some (.int .i64 es.length)|_=>none
 |_=>none
def o7(x i:AV):Option AV:=match x with|.str s=>(idx s.size i).bind λj=>(s[j]?).map λb=>.int .u8 b.toNat|_=>none
def bound(y:Nat)(dflt:Nat)(x:Option AV):Option Nat:=match x with
 |none=>some dflt
 |some (.int _ i)=>if 0≤i∧i≤y then some i.toNat else none
 |_=>none
def Jq(x:AV)(lo hi:Option AV):Option AV:=match x with
 |.str s=>(bound s.size s.size hi).bind λh=>(bound h 0 lo).map λl=>.str (s.extract l h)
 |_=>none
def room(σ:Heap)(id g sz off len:Nat):Nat:=match σ[id]? with
 |some (.arr g' sz' es)=>if g=g'∧sz=sz'∧off+len≤es.length then es.length-off else len
 |_=>len
def cm(sz:Nat)(x:AV)(lo hi:Option AV)(σ:Heap):Option AV:=match x with
 |.sl sz' es=>if sz=sz' then(bound es.length es.length hi).bind λh=>(bound h 0 lo).map λl=>.sl sz ((es.take h).drop l)else none
 |.aN=>(bound 0 0 hi).bind λh=>(bound h 0 lo).map λ_=>.aN
 |.ez=>(bound 0 0 hi).bind λh=>(bound h 0 lo).map λ_=>.ez
 |.os id g sz' off len=>if sz=sz' then(bound (room σ id g sz off len) len hi).bind λh=>(bound h 0 lo).map λl=>.os id g sz (off+l) (h-l)else none
 |_=>none
def slice3(x:AV)(lo:Option AV)(hi mx:AV):Option AV:=(br x).bind λn=>match n with
 |.int _ n=>(bound n.toNat 0 (some mx)).bind λm=>(bound m 0 (some hi)).bind λh=>(bound h 0 lo).map λ_=>if m=0 then .ez else .undef
 |_=>none
def elems(sz:Nat)(x:AV)(σ:Heap):Option (List (List AV)):=match x with
 |.aN=>some []
 |.ez=>some []
 |.sl sz' es=>if sz=sz' then some es else none
 |.os id g mZ off len=>match σ[id]? with
  |some (.arr g' sz' es)=>if g=g'∧sz=sz'∧mZ=sz∧off+len≤es.length then some ((es.drop off).take len)else none
  |some (.kR g' sz' es)=>if g=g'∧sz=sz'∧mZ=sz∧off+len≤es.length then some ((es.drop off).take len)else none
  |_=>none
 |_=>none
def jZ(sz most:Nat)(x:AV)(ys:List (List AV))(σ:Heap):Option (AV×Heap):=match x with
 |.aN=>if ys=[]then some (.aN,σ)else if ys.length≤most then some (.os σ.length ys.length sz 0 ys.length,σ++[.arr ys.length sz ys])else none
 |.ez=>if ys=[]then some (.ez,σ)else if ys.length≤most then some (.os σ.length ys.length sz 0 ys.length,σ++[.arr ys.length sz ys])else none
 |.os id g mZ off len=>match σ[id]? with
  | some (.arr g' sz' es) => if g = g' ∧ sz = sz' ∧ mZ = sz ∧ off + len ≤ es.length ∧ len + ys.length ≤ most then
    (if ys=[]then some (.os id g sz off len,σ)else if off+len+ys.length≤es.length then some (.os id g sz off (len+ys.length),σ.set id (.arr g sz (es.take (off+len)++ys++es.drop (off+len+ys.length))))
    else some (.os id (g+ys.length) sz 0 (len+ys.length),σ.set id (.arr (g+ys.length) sz ((es.drop off).take len++ys))))else none
  | some (.kR g' sz' es) => if g = g' ∧ sz = sz' ∧ mZ = sz ∧ off + len ≤ es.length ∧ len + ys.length ≤ most ∧ es.length < off + len + ys.length then
    some (.os σ.length (len+ys.length) sz 0 (len+ys.length),σ++[.arr (len+ys.length) sz ((es.drop off).take len++ys)])else none
  |_=>none
 |_=>none
def append(sz most:Nat)(x y:AV)(σ:Heap):Option (AV×Heap):=(elems sz y σ).bind λys=>jZ sz most x ys σ
def qJ(sz most:Nat)(zs:List AV)(x n:AV)(σ:Heap):Option (AV×Heap):=match n with
 |.int _ k=>if 0≤k∧k≤most then jZ sz most x (List.replicate k.toNat zs) σ else none
 |_=>none
def hM(sz:Nat)(x y:AV)(σ:Heap):Option (AV×Heap):=(elems sz y σ).bind λys=>match x with
 |.aN=>some (.int .i64 0,σ)
 |.ez=>some (.int .i64 0,σ)
 |.os id g mZ off len=>match σ[id]? with
  | some (.arr g' sz' es) => if g = g' ∧ sz = sz' ∧ mZ = sz ∧ off + len ≤ es.length then (if ys.length = 0 ∨ len = 0 then some (.int .i64 0, σ) else
    some (.int .i64 (ys.take len).length,σ.set id (.arr g sz (es.take off++ys.take len++es.drop (off+(ys.take len).length)))))else none
  |_=>none
 |_=>none
noncomputable def all {R:Type} (p:Nat→Prop) (k:Nat→Option R):Option R:=open Classical in if h:∃r,∀n,p n→k n=some r then some (Classical.choose h)else none
noncomputable def vV {R:Type} (x:AV) (σ:Heap) (k:Nat→Heap→Option R):Option R:=match x with
 |.os id g sz off len=>match σ[id]? with
  |some (.arr g' sz' es)=>if g=g'∧sz=sz'∧off+len≤es.length then all (λc=>len≤c∧es.length≤off+c) (λc=>k c (if c=len then σ.set id (.kR g sz es)else σ.set id (.arr g sz (es++List.replicate (off+c-es.length) (List.replicate sz .undef)))))else none
  |_=>none
 |_=>none
def As{R:Type}(v:AV)(k:Nat→List (List AV)→Option R):Option R:=match v with|.sl sz es=>bif es.length==0 then none else k sz es|_=>none
def vU{R:Type}(v:Option AV)(k:AV→Option R)(u:Option R):Option R:=match v with|some v=>k v|none=>u
def Jn(m:AV):Option (List (AV×AV)):=match m with
 |.nm=>some []
 |.fm es=>some es
 |_=>none
noncomputable def vR {R:Type} (i:AV) (σ:Heap) (k:AV→Heap→Option R):Option R:=match i with
 |.op id 0=>match σ[id]? with
  |some (.it _ [])=>k (.aD [.bool false]) σ
  |some (.it _ (e::left))=>all (λj=>j<(e::left).length) (λj=>match(e::left)[j]? with
   |some p=>k (.aD [.bool true,p.1,p.2]) (σ.set id (.it [p] ((e::left).eraseIdx j)))
   |none=>none)
  |_=>none
 |_=>none
def Jg(i:AV)(σ:Heap):Option AV:=match i with
 |.op id 0=>match σ[id]? with
  |some (.it [p] _)=>some (.aD [p.1,p.2])
  |_=>none
 |_=>none
def Jf(sz:Nat)(zs:List AV)(x:AV)(σ:Heap):Option Heap:=match x with
 |.aN=>some σ
 |.ez=>some σ
 |.sl _ []=>some σ
 |.os id g mZ off len=>match σ[id]? with
  |some (.arr g' sz' es)=>if g=g'∧sz=sz'∧mZ=sz∧off+len≤es.length then(if len=0 then some σ else some (σ.set id (.arr g sz (es.take off++List.replicate len zs++es.drop (off+len)))))else none
  |_=>none
 |_=>none
def find(e:EK)(k:AV):List (AV×AV)→Option (Option AV)
 |[]=>some none
 |(k',v)::r=>(dD e k k').bind λb=>bif b then some (some v)else find e k r
def nP(e:EK)(k:AV):List (AV×AV)→Nat→Option (Option Nat)
 |[],_=>some none
 |(k',_)::r,i=>(dD e k k').bind λb=>bif b then some (some i)else nP e k r (i+1)
def upd(e:EK)(k v:AV):List (AV×AV)→Option (List (AV×AV))
 |[]=>some [(k,v)]
 |(k',v')::r=>(dD e k k').bind λb=>bif b then some ((k,v)::r)else(upd e k v r).map ((k',v')::·)
def del(e:EK)(k:AV):List (AV×AV)→Option (List (AV×AV))
 |[]=>some []
 |(k',v')::r=>(dD e k k').bind λb=>bif b then some r else(del e k r).map ((k',v')::·)
def entries(m:AV)(σ:Heap):Option (List (AV×AV)):=match m with
 |.nm=>some []
 |.fm es=>some es
 |.om id=>match σ[id]? with|some (.map es)=>some es|_=>none
 |_=>none
def iQ(e:EK)(k:AV):Bool:=match e,k with
 |.i,.int _ _=>true
 |.b,.bool _=>true
 |.z,.str _=>true
 |.s ks,.agg xs=>xs.length==ks.length
 |_,_=>false
def look(e:EK)(m k zero:AV)(σ:Heap):Option AV:=bif iQ e k then(entries m σ).bind λes=>(find e k es).map λr=>r.getD zero else none
def Jk(e:EK)(m k zero:AV)(σ:Heap):Option AV:=bif iQ e k then(entries m σ).bind λes=>(find e k es).map λr=>.aD [r.getD zero,.bool r.isSome]else none
def iS(e:EK)(m k v:AV)(σ:Heap):Option Heap:=bif iQ e k then(match m with
 |.om id=>match σ[id]? with|some (.map es)=>(upd e k v es).map λes=>σ.set id (.map es)|_=>none
 |_=>none)else none
def Kg(e:EK)(m k:AV)(σ:Heap):Option Heap:=bif iQ e k then(match m with
 |.nm=>some σ
 |.om id=>match σ[id]? with|some (.map es)=>(del e k es).map λes=>σ.set id (.map es)|_=>none
 |_=>none)else none
noncomputable def quiet (r:Option (AV×Heap)) (σ:Heap):Option AV:=r.bind λp=>open Classical in if p.2=σ then some p.1 else none
def gZ(dyn:Nat→List AV→Heap→Option (AV×Heap))(f:AV)(args:List AV)(σ:Heap):Option (AV×Heap):=match f with|.fn n caps=>dyn n (args++caps) σ|_=>none
def tab{α:Type}(d:α):List (Nat×α)→Nat→α
 |[],_=>d
 |(m,x)::r,n=>bif n==m then x else tab d r n
def iter(f:List AV→Heap→Option (AX×List AV×Heap)):Nat→List AV→Heap→Option (AX×List AV×Heap)
 |0,_,_=>none
 |n+1,v,σ=>(f v σ).bind λr=>match r.1 with|.normal=>iter f n r.2.1 r.2.2|_=>some r
noncomputable def loop (f:List AV→Heap→Option (AX×List AV×Heap)) (v:List AV) (σ:Heap):Option (AX×List AV×Heap):=
 open Classical in if h:∃n r,iter f n v σ=some r then some (Classical.choose (Classical.choose_spec h))else none
def B5{R:Type}(f:List AV→Heap→(AX×List AV×Heap→Option R)→Option R):Nat→List AV→Heap→(AX×List AV×Heap→Option R)→Option R
 |0,_,_,_=>none
 |n+1,v,σ,K=>f v σ λr=>match r.1 with|.normal=>B5 f n r.2.1 r.2.2 K|_=>K r
noncomputable def JC {R:Type} (f:List AV→Heap→(AX×List AV×Heap→Option R)→Option R) (v:List AV) (σ:Heap) (K:AX×List AV×Heap→Option R):Option R:=
 open Classical in if h:∃r,∃n,∀m,n≤m→B5 f m v σ K=some r then some (Classical.choose h)else none
mutual
def bP(σ:Heap)(n:Nat):Nat→AV→Option AV
 |_,.int k a=>some (.int k a)
 |_,.bool b=>some (.bool b)
 |_,.str s=>some (.str s)
 |_,.aN=>some .aN
 |_,.ez=>some .ez
 |_,.np=>some .np
 |_,.nm=>some .nm
 |_,.tD=>some .tD
 |d,.agg cs=>(dz σ n d cs).map .agg
 |d,.aD cs=>(dz σ n d cs).map .aD
 |d,.sl sz es=>(lF σ n d es).map (.sl sz)
 |d,.rp cs=>(dz σ n d cs).map .rp
 |d,.fm es=>(n4 σ n d es).map .fm
 |d,.fn f cs=>(dz σ n d cs).map (.fn f)
 |0,_=>none
 |d+1,.om id=>if id<n then some (.om id)else match σ[id]? with
  |some (.map es)=>(vO σ n d es).map .fm
  |_=>none
 |d+1,.op id off=>if id<n then some (.op id off)else match σ[id]? with
  |some (.box cs)=>(sQ σ n d (cs.drop off)).map .rp
  |_=>none
 |d+1,.oe id g i off=>if id<n then some (.oe id g i off)else match σ[id]? with
  |some (.arr g' _ es)=>if g=g' then(match es[i]? with|some e=>(sQ σ n d (e.drop off)).map .rp|none=>none)else none
  |_=>none
 |d+1,.os id g mZ off len=>if id<n then some (.os id g mZ off len)else match σ[id]? with
  |some (.arr g' sz es)=>if g=g'∧mZ=sz∧off+len≤es.length then(BW σ n d ((es.drop off).take len)).map (.sl sz)else none
  |_=>none
 |_,_=>none
def dz(σ:Heap)(n:Nat):Nat→List AV→Option (List AV)
 |_,[]=>some []
 |d,x::r=>(bP σ n d x).bind λy=>(dz σ n d r).map (y::·)
def sQ(σ:Heap)(n:Nat):Nat→List AV→Option (List AV)
 |_,[]=>some []
 |d,x::r=>(bP σ n d x).bind λy=>(sQ σ n d r).map (y::·)
def n4(σ:Heap)(n:Nat):Nat→List (AV×AV)→Option (List (AV×AV))
 |_,[]=>some []
 |d,(k,v)::r=>(bP σ n d k).bind λk=>(bP σ n d v).bind λv=>(n4 σ n d r).map ((k,v)::·)
def vO(σ:Heap)(n:Nat):Nat→List (AV×AV)→Option (List (AV×AV))
 |_,[]=>some []
 |d,(k,v)::r=>(bP σ n d k).bind λk=>(bP σ n d v).bind λv=>(vO σ n d r).map ((k,v)::·)
def lF(σ:Heap)(n:Nat):Nat→List (List AV)→Option (List (List AV))
 |_,[]=>some []
 |d,x::r=>(dz σ n d x).bind λy=>(lF σ n d r).map (y::·)
def BW(σ:Heap)(n:Nat):Nat→List (List AV)→Option (List (List AV))
 |_,[]=>some []
 |d,x::r=>(dz σ n d x).bind λy=>(BW σ n d r).map (y::·)
end
end A
abbrev aq:Option AV:=(some (AV.aD []))
abbrev cv:AV:=(AV.str ⟨#[]⟩)
abbrev bI:AV:=(AV.bool false)
abbrev dH:AV:=(AV.int .i64 1)
abbrev ew:AV:=(AV.bool true)
abbrev fC:AV:=(AV.int .i64 0)
abbrev aj(l:List AV)(n:Nat):AV:=l.getD n AV.undef
abbrev AV.ah(n:Int):AV:=AV.int .i64 n
abbrev az:=Option (AV×Heap)
abbrev an:=List AV
section
structure pe where
 slot:Nat
 off:Nat
 tag:Option (Nat×Bool)
structure AS where
 sl:List AV
 A:Nat→Option pe
 σ:Heap
structure Fx where
 P:Program
 nm:List Nat
 call:FuncId→List AV→Heap→Option (AV×Heap)
 dyn:Nat→List AV→Heap→Option (AV×Heap)
 L:List Nat
 O:List Nat
 n:Nat
 W:List Nat
inductive jy where
 |n
 |s(a b:jy)
 |c(live:List Nat)(a b:jy)
 |j(a b:jy)
 |b(a:jy)
 |l(live:List Nat)(xs:List AX)(a:jy)
 |lc(live:List Nat)(xs:List AX)(a:jy)
noncomputable section
def vN:Value→AV
 |.int k n=>.int k n
 |.bool b=>.bool b
 |.string s=>.str s
 |.slice none 0 0=>.aN
 |.pointer none=>.np
 |.map none=>.nm
 |.nilFunc=>.tD
 |_=>.undef
def cD:Value→Bool
 |.agg _=>false
 |.tuple _=>false
 |_=>true
def qi:Value→AV
 |.agg cs=>bif cs.toList.all cD then .agg (cs.toList.map vN)else .undef
 |v=>vN v
section
variable {R : Type} (X : Fx)
def xw(t:TypeId):Bool:=match X.P.underlying t with|some (.struct _)=>true|some (.array _ _)=>true|_=>false
def oT(t:TypeId):Option (List AV):=match X.P.info? t with|some i=>(match i.zero with|some v=>bif v.cells.toList.all cD then some (v.cells.toList.map vN)else none|none=>none)|none=>none
def ev(s:AS):Operand→AV
 |.tmp t=>bif X.L.contains t then .undef else s.sl.getD t .undef
 |.const v=>qi v
 |.global _=>.undef
 |.func f=>.fn (X.nm.getD f 0) []
def lB(d:Nat):Option pe→Option pe
 |some p=>(match p.tag with|some (g,_)=>bif g==d then none else some p|none=>some p)
 |none=>none
def AS.put(X:Fx)(d:Option Nat)(v:AV)(s:AS):AS:=
 match d with
 |some d=>⟨s.sl.set d (bif X.L.contains d then .undef else v),λt=>bif t==d then none else lB d (s.A t),s.σ⟩
 |none=>s
def AS.jB(X:Fx)(d:Option Nat)(b off:Nat)(tag:Option (Nat×Bool))(s:AS):AS:=
 match d with
 |some d=>⟨s.sl.set d .undef,λt=>bif t==d then(bif X.L.contains d||!Nat.blt d X.n then none else match tag with|some (g,w)=>(bif g==d then none else some ⟨b,off,some (g,w)⟩)|none=>some ⟨b,off,none⟩)else lB d (s.A t),s.σ⟩
 |none=>s
def AS.lD(d:Nat)(cs:List AV)(s:AS):AS:=
 ⟨s.sl.set d (.lbx cs),λt=>bif t==d then none else match lB d (s.A t)with|some p=>bif p.slot==d then none else some p|none=>none,s.σ⟩
def AS.heap(σ:Heap)(s:AS):AS:=⟨s.sl,s.A,σ⟩
def place(s:AS)(tag:Option (Nat×Bool)):Operand→Option (Nat×Nat)
 |.tmp t=>bif X.L.contains t then some (t,0)else match s.A t with
  |some p=>bif X.L.contains p.slot then(match p.tag with|none=>some (p.slot,p.off)|some g=>bif tag==some g then some (p.slot,p.off)else none)else none
  |none=>none
 |_=>none
def ug(t:TypeId)(off:Nat)(cs:List AV):Option AV:=match X.P.underlying t with
 |none=>none
 |some _=>bif xw X t then A.aG off (X.P.cellsOf t) cs else A.aB off cs
def sE(t:TypeId)(v:AV):Option (List AV):=match X.P.underlying t with
 |none=>none
 |some _=>bif xw X t then A.cells (X.P.cellsOf t) v else bif X.P.cellsOf t==1 then(A.cell v).bind λv=>some [v]else none
def lE(s:AS)(place:Nat→Option (Nat×TypeId)):List (Nat×Operand)→List AV→Option (List AV)
 |[],cs=>some cs
 |(i,x)::r,cs=>match place i with
  |none=>none
  |some (off,t)=>(sE X t (ev X s x)).bind λnew=>(A.bh off new cs).bind λcs=>lE s place r cs
def vE(t:TypeId)(f:Nat):Option (Nat×TypeId):=match X.P.underlying t with
 |some (.struct fs)=>(match fs[f]? with|some f=>some (f.offset,f.type)|none=>none)
 |_=>none
def sZ(f:TypeId→Bool)(size:TypeId→Nat):List Field→Nat→Option Nat
 |[],off=>some off
 | x :: r, off => bif x.name != "_" && x.offset == off && f x.type then sZ f size r (off + size x.type) else none
def gV(P:Program):Nat→TypeId→Bool
 |0,_=>false
 |d+1,t=>match P.underlying t with
  |some .bool=>P.cellsOf t==1
  |some (.int _)=>P.cellsOf t==1
  |some .string=>P.cellsOf t==1
  |some (.struct fs)=>!P.stoodInHeld t&&sZ (gV P d) P.cellsOf fs.toList 0==some (P.cellsOf t)
  |_=>false
def kinds(P:Program):Nat→TypeId→List Nat
 |0,_=>[]
 |d+1,t=>match P.underlying t with
  |some .bool=>[1]
  |some (.int _)=>[0]
  |some .string=>[2]
  |some (.struct fs)=>fs.toList.flatMap λf=>kinds P d f.type
  |_=>[]
def jj(t:TypeId):Option A.EK:=match X.P.underlying t with
 |some .bool=>some .b
 |some (.int _)=>some .i
 |some .string=>some .z
 |some (.pointer e)=>bif X.P.cellsOf e !=0 then some .p else none
 |some (.struct _)=>bif gV X.P 9 t&&!X.P.eqGuardType X.P.depth t then some (.s (kinds X.P 9 t))else none
 |_=>none
def JQ(op:BinOp)(t:TypeId)(x y:AV):Option AV:=match op with
 |.add=>A.add x y|.sub=>A.sub x y|.mul=>A.mul x y|.quo=>A.quo x y|.rem=>A.rem x y
 |.lss=>A.lss x y|.leq=>A.leq x y|.gtr=>A.gtr x y|.geq=>A.geq x y
 |.eql=>(match jj X t with|some e=>A.eql e x y|none=>match X.P.underlying t with|some (.slice _)=>A.FC x y|_=>none)
 |.neq=>(match jj X t with|some e=>A.neq e x y|none=>match X.P.underlying t with|some (.slice _)=>A.neN x y|_=>none)
 |.shl=>A.shl x y|.shr=>A.shr x y|_=>none
def je(sz:Nat):Nat→List AV→List (List AV)
 |0,_=>[]
 |n+1,l=>l.take sz::je sz n (l.drop sz)
def dO(o:Oper)(s:AS)(tag:Option (Nat×Bool)):Option AV:=
 match o.op with
 |.move x=>some (ev X s x)
 |.assign x=>some (ev X s x)
 |.pick c a b=>A.pick (ev X s c) (ev X s a) (ev X s b)
 |.alloc t=>(match oT X t with|some cs=>some (.rp cs)|none=>none)
 |.box t x=>(sE X t (ev X s x)).bind λcs=>some (.rp cs)
 |.build t ps=>(match oT X t,X.P.underlying t with
  |some zs,some (.struct fs)=>bif fs.toList.all (λf=>(X.P.info? f.type).isSome)then(lE X s (vE X t) ps.toList zs).bind λcs=>some (.agg cs)else none
  |_,_=>none)
 |.buildSlice t len ps=>(match X.P.underlying t with
  |some (.slice e)=>(match X.P.info? e,oT X e with
   |some i,some zs=>bif (i.size==0||zs.length !=i.size)then none else bif Nat.blt 16777216 (len*i.size)then none
    else(lE X s (λj=>some (j*i.size,e)) ps.toList ((List.replicate len zs).flatten)).bind λcs=>some (bif len==0 then .ez else .sl i.size (je i.size len cs))
   |_,_=>none)
  |_=>none)
 |.load t x=>(match place X s tag x with
  |some (b,off)=>(A.lb (s.sl.getD b .undef)).bind λcs=>ug X t off cs
  |none=>(A.deref (ev X s x) s.σ).bind λcs=>ug X t 0 cs)
 |.nilCheck x=>A.sR (ev X s x)
 |.binOp op t x y _=>JQ X op t (ev X s x) (ev X s y)
 |.unOp op _ x=>(match op with
  |.not=>A.not (ev X s x)
  |.neg=>A.neg (ev X s x)
  |_=>none)
 |.convert src dst x=>(match X.P.underlying src,X.P.underlying dst with
  |some (.int _),some (.int j)=>A.conv j (ev X s x)
  |some .string,some .string=>A.QY (ev X s x)
  |_,_=>none)
 |.makeInterface t _=>(match X.P.underlying t with|some (.interface _)=>none|some _=>some .undef|none=>none)
 |.makeFunc fn first caps=>(match fn with|.func f=>bif first.toList.isEmpty then some (.fn (X.nm.getD f 0) (caps.toList.map (ev X s)))else none|_=>none)
 |.slice t x lo hi mx=>(match mx with
  |none=>(match X.P.underlying t with
   |some .string=>A.Jq (ev X s x) (lo.map (ev X s)) (hi.map (ev X s))
   |some (.slice e)=>(match X.P.info? e with|some i=>A.cm i.size (ev X s x) (lo.map (ev X s)) (hi.map (ev X s)) s.σ|none=>none)
   |_=>none)
  |some mx=>(match X.P.underlying t,hi with
   |some (.slice e),some hi=>(match X.P.info? e with|some _=>A.slice3 (ev X s x) (lo.map (ev X s)) (ev X s hi) (ev X s mx)|none=>none)
   |_,_=>none))
 |.fieldAddr t x f=>(match vE X t f with
  |some (off,ft)=>(match X.P.info? ft with|some i=>bif i.size==0 then none else A.ia off (ev X s x)|none=>none)
  |none=>none)
 |.field t x f=>(match vE X t f with
  |some (off,ft)=>(A.cells (X.P.cellsOf t) (ev X s x)).bind λcs=>ug X ft off cs
  |none=>none)
 |.indexAddr t x i=>(match X.P.underlying t with
  |some (.slice e)=>(match X.P.info? e with|some j=>A.aM j.size (ev X s x) (ev X s i)|none=>none)
  |some (.array len e)=>(match X.P.info? e with|some j=>A.sM len j.size (ev X s x) (ev X s i)|none=>none)
  |_=>none)
 |.index t x i=>(match X.P.underlying t with
  |some .string=>A.o7 (ev X s x) (ev X s i)
  |_=>none)
 |.lookup t m i ok=>(match X.P.underlying t with
  |some (.map kt e)=>(match X.P.info? e,jj X kt with
   |some inf,some ek=>(match inf.zero with
    |some z=>bif ok then A.Jk ek (ev X s m) (ev X s i) (qi z) s.σ else A.look ek (ev X s m) (ev X s i) (qi z) s.σ
    |none=>none)
   |_,_=>none)
  |_=>none)
 |.extract x i=>A.ext i (ev X s x)
 |.entry i=>A.Jg (ev X s i) s.σ
 |.call c=>(match c.callee with
  |.builtin b=>(match b,c.argTypes.toList,c.args.toList.map (ev X s)with
   |.len,[t],[x]=>(match X.P.underlying t with
    |some .string=>A.xQ x
    |some (.slice _)=>A.br x
    |some (.map _ _)=>A.RM x s.σ
    |_=>none)
   |.cap,[t],[x]=>(match X.P.underlying t with|some (.slice _)=>A.Cc x|_=>none)
   |.max,_,[x,y]=>A.max x y
   |.min,_,[x,y]=>A.min x y
   |_,_,_=>none)
  |.value (.func f)=>A.quiet (X.call f (c.args.toList.map (ev X s)) s.σ) s.σ
  |.value x=>A.quiet (A.gZ X.dyn (ev X s x) (c.args.toList.map (ev X s)) s.σ) s.σ
  |_=>none)
 |_=>none
def gB(o:Oper)(s:AS)(tag:Option (Nat×Bool)):Option (Nat×Option Nat):=
 match o.op with
 |.nilCheck x=>(match place X s tag x with|some (b,off)=>some (b,(A.lb (s.sl.getD b .undef)).bind λ_=>some off)|none=>none)
 |.fieldAddr t x f=>(match place X s tag x with
  |some (b,o')=>some (b,match vE X t f with
   |some (off,ft)=>(match X.P.info? ft with|some i=>bif i.size==0 then none else(A.lb (s.sl.getD b .undef)).bind λ_=>some (o'+off)|none=>none)
   |none=>none)
  |none=>none)
 |.indexAddr t x i=>(match place X s tag x with
  |some (b,o')=>some (b,match X.P.underlying t with
   |some (.array len e)=>(match X.P.info? e with|some ie=>(A.lb (s.sl.getD b .undef)).bind λ_=>(A.idx len (ev X s i)).bind λj=>some (o'+j*ie.size)|none=>none)
   |_=>none)
  |none=>none)
 |_=>none
def kn(i:TypeInfo):Bool:=i.size==0||i.bytes==0||(match i.zero with|some z=>z.cells.size !=i.size||!z.cells.toList.all cD|none=>true)
def eo(q:Bool)(o:Oper)(s:AS)(k:AS→Option R):Option R:=
 match gB X o s none with
 |some (b,r)=>r.bind λoff=>k (s.jB X o.dst b off none)
 |none=>
 match o.op with
 |.alloc t=>(match o.dst with
  |some d=>bif X.L.contains d then(match oT X t with|some cs=>k (s.lD d cs)|none=>none)
   else bif X.O.contains d then(match oT X t with|some cs=>k ((s.heap (s.σ++[.box cs])).put X (some d) (.op s.σ.length 0))|none=>none)
   else(dO X o s none).bind λv=>k (s.put X o.dst v)
  |none=>none)
 |.box t x=>(match o.dst with
  |some d=>bif X.L.contains d then(sE X t (ev X s x)).bind λcs=>k (s.lD d cs)
   else bif X.O.contains d then(sE X t (ev X s x)).bind λcs=>k ((s.heap (s.σ++[.box cs])).put X (some d) (.op s.σ.length 0))
   else(dO X o s none).bind λv=>k (s.put X o.dst v)
  |none=>none)
 |.store t x v=>(match place X s none x with
  |some (b,off)=>(A.lb (s.sl.getD b .undef)).bind λcs=>(sE X t (ev X s v)).bind λnew=>(A.bh off new cs).bind λcs=>k ((⟨s.sl.set b (.lbx cs),s.A,s.σ⟩:AS).put X o.dst (.aD []))
  |none=>(sE X t (ev X s v)).bind λnew=>(A.storeAt (ev X s x) new s.σ).bind λσ=>k ((s.heap σ).put X o.dst (.aD [])))
 |.buildSlice t n ps=>(match o.dst with
  |some d=>bif X.O.contains d then(dO X o s none).bind λv=>A.As v λsz es=>k ((s.heap (s.σ++[.arr es.length sz es])).put X (some d) (.os s.σ.length es.length sz 0 es.length))
   else(dO X o s none).bind λv=>k (s.put X o.dst v)
  |none=>(dO X o s none).bind λv=>k (s.put X o.dst v))
 |.makeMap t r=>(match r with
  |none=>k ((s.heap (s.σ++[.map []])).put X o.dst (.om s.σ.length))
  |some _=>none)
 |.mapUpdate t m i v=>(match X.P.underlying t with
  |some (.map kt _)=>(match jj X kt with|some ek=>(A.iS ek (ev X s m) (ev X s i) (ev X s v) s.σ).bind λσ=>k ((s.heap σ).put X o.dst (.aD []))|none=>none)
  |_=>none)
 |.range t x=>(match X.P.underlying t with
  |some (.map _ _)=>(A.Jn (ev X s x)).bind λes=>k ((s.heap (s.σ++[.it [] es])).put X o.dst (.op s.σ.length 0))
  |_=>none)
 |.next i str=>bif q||str then none else A.vR (ev X s i) s.σ (λv σ=>k ((s.heap σ).put X o.dst v))
 |.call c=>(match c.callee with
  |.builtin .append=>(match c.argTypes.toList,c.args.toList.map (ev X s)with
   |[t,u],[x,y]=>(match X.P.underlying t,X.P.underlying u with
    |some (.slice e),some (.slice _)=>(match X.P.info? e with
     |some i=>bif kn i then none else(A.append i.size (140737488355328 / i.bytes) x y s.σ).bind λr=>k ((s.heap r.2).put X o.dst r.1)
     |none=>none)
    |some (.slice e),some (.int _)=>(match X.P.info? e,oT X e with
     |some i,some zs=>bif kn i then none else(A.qJ i.size (140737488355328 / i.bytes) zs x y s.σ).bind λr=>k ((s.heap r.2).put X o.dst r.1)
     |_,_=>none)
    |_,_=>none)
   |_,_=>none)
  |.builtin .copy=>(match c.argTypes.toList,c.args.toList.map (ev X s)with
   |[t,u],[x,y]=>(match X.P.underlying t,X.P.underlying u with
    |some (.slice e),some (.slice _)=>(match X.P.info? e with
     |some i=>bif kn i then none else(A.hM i.size x y s.σ).bind λr=>k ((s.heap r.2).put X o.dst r.1)
     |none=>none)
    |_,_=>none)
   |_,_=>none)
  | .builtin .cap => A.vU (dO X o s none) (λv => k (s.put X o.dst v)) (bif q then none else (match c.argTypes.toList, c.args.toList.map (ev X s) with
    |[t],[x]=>(match X.P.underlying t with|some (.slice _)=>A.vV x s.σ (λc σ=>k ((s.heap σ).put X o.dst (.int .i64 c)))|_=>none)
    |_,_=>none))
  |.builtin .clear=>(match c.argTypes.toList,c.args.toList.map (ev X s)with
   |[t],[x]=>(match X.P.underlying t with
    |some (.slice e)=>(match X.P.info? e,oT X e with
     |some i,some zs=>bif kn i then none else(A.Jf i.size zs x s.σ).bind λσ=>k ((s.heap σ).put X o.dst (.aD []))
     |_,_=>none)
    |_=>none)
   |_,_=>none)
  |.builtin .delete=>(match c.argTypes.toList,c.args.toList.map (ev X s)with
   |[t,_],[m,key]=>(match X.P.underlying t with
    |some (.map kt _)=>(match jj X kt with|some ek=>(A.Kg ek m key s.σ).bind λσ=>k ((s.heap σ).put X o.dst (.aD []))|none=>none)
    |_=>none)
   |_,_=>none)
  |.builtin _=>(dO X o s none).bind λv=>k (s.put X o.dst v)
  | .value (.func f) => bif q && !X.W.contains f then (dO X o s none).bind λv => k (s.put X o.dst v)
    else(X.call f (c.args.toList.map (ev X s)) s.σ).bind λr=>k ((s.heap r.2).put X o.dst r.1)
  | .value x => bif q then (dO X o s none).bind λv => k (s.put X o.dst v)
    else(A.gZ X.dyn (ev X s x) (c.args.toList.map (ev X s)) s.σ).bind λr=>k ((s.heap r.2).put X o.dst r.1)
  |_=>none)
 |_=>(dO X o s none).bind λv=>k (s.put X o.dst v)
def Ak(o:Oper):Option (FuncId×List Operand):=match o.op with
 |.call c=>(match c.callee with|.value (.func f)=>bif X.W.contains f then some (f,c.args.toList)else none|_=>none)
 |_=>none
def BF(o:Oper)(d:Nat):Bool:=X.L.contains d||(match o.dst with|some d=>X.L.contains d||X.O.contains d|none=>false)
def jJ(q:Bool)(ops:Array Oper)(o:Oper)(s:AS)(k:AS→Option R):Option R:=
 match o.guard with
 |none=>eo X q o s k
 |some (j,want)=>match(ops[j]?).bind (·.dst)with
  |some d=>bif BF X o d then none else(match Ak X o with
   |some (f,as')=>(A.guard (s.sl.getD d .undef) want (X.call f (as'.map (ev X s)) s.σ) (some (.aD [],s.σ))).bind λr=>k ((s.heap r.2).put X o.dst r.1)
   |none=>(match gB X o s (some (d,want))with
    |some (b,r)=>r.bind λoff=>k (s.jB X o.dst b off (some (d,want)))
    |none=>(A.guard (s.sl.getD d .undef) want (dO X o s (some (d,want))) (some (.aD []))).bind λv=>k (s.put X o.dst v)))
  |none=>none
def force{R:Type}:List AV→(List AV→Option R)→Option R
 |[],k=>k []
 |x::l,k=>force l λl=>k (x::l)
def oa(q:Bool)(ops:Array Oper):List Oper→AS→(AS→Option R)→Option R
 |[],s,k=>k s
 |o::r,s,k=>jJ X q ops o s λs=>oa q ops r s k
def Ck(q:Bool)(ops:Array Oper):List Oper→AS→(AS→Option R)→Option R
 |[],s,k=>k s
 |o::r,s,k=>jJ X q ops o s λs=>force s.sl λsl=>Ck q ops r ⟨sl,s.A,s.σ⟩ k
def rL(o:Oper):Bool:=match o.op with|.load ..|.store ..|.fieldAddr ..|.indexAddr ..|.nilCheck ..=>true|_=>false
def rH(o:Oper):Bool:=match o.op with|.load ..|.store ..|.lookup ..|.mapUpdate ..|.call ..|.makeMap ..|.alloc ..|.box ..|.range ..|.next ..|.entry ..|.slice ..|.buildSlice ..=>true|_=>false
def wH(o:Oper):Bool:=match o.op with
 |.store ..|.mapUpdate ..|.makeMap ..|.range ..|.next ..=>true
 |.alloc ..|.box ..|.buildSlice ..=>(match o.dst with|some d=>X.O.contains d|none=>false)
 |.call c=>(match c.callee with|.builtin .len=>false|.builtin .max=>false|.builtin .min=>false|.builtin _=>true|.value (.func f)=>X.W.contains f|_=>false)
 |_=>false
def lG:AV→Bool
 |.oe ..=>false
 |_=>true
def sF(Bt:List Nat)(o:Oper):Bool:=match o.op with
 |.move (.tmp t)=>Bt.contains t
 |.assign (.tmp t)=>Bt.contains t
 |.nilCheck (.tmp t)=>Bt.contains t
 |.fieldAddr _ (.tmp t) _=>Bt.contains t
 |_=>false
def aar(o:Oper):Option Nat:=match o.op with
 |.move (.tmp t)=>some t
 |.assign (.tmp t)=>some t
 |.nilCheck (.tmp t)=>some t
 |.fieldAddr _ (.tmp t) _=>some t
 |.load _ (.tmp t)=>some t
 |_=>none
def aa8(ops:List Oper)(sl:List AV):List Nat:=(ops.filterMap aar).filter λt=>!(ops.any λo=>o.dst==some t)&&lG (sl.getD t .undef)
def Qv:List Oper→List Nat→List Nat
 |[],acc=>acc
 |o::r,acc=>Qv r (match o.dst with|some d=>(bif sF acc o then d::acc else acc)|none=>acc)
def soft(Bt:List Nat)(o:Oper):Bool:=match o.op with|.load _ (.tmp t)=>Bt.contains t|_=>false
def wI(o:Oper):Bool:=match o.op with
 |.makeMap ..=>true
 |.mapUpdate ..=>true
 |.call c=>(match c.callee with|.builtin .append=>true|_=>false)
 |_=>false
def JK(Bt:List Nat)(o:Oper):Bool:=match o.dst with
 |some d=>!Bt.contains d||sF Bt o
 |none=>true
def kT(o:Oper):Option Operand:=match o.op with
 |.load _ x=>some x
 |.store _ x _=>some x
 |.fieldAddr _ x _=>some x
 |.indexAddr _ x _=>some x
 |.nilCheck x=>some x
 |_=>none
def oN(o:Oper):Bool:=match o.op with|.fieldAddr ..=>true|.indexAddr ..=>true|.nilCheck ..=>true|_=>false
def tI(Rt:List (Nat×Nat)):Operand→Option Nat
 |.tmp t=>bif X.L.contains t then some t else Rt.lookup t
 |_=>none
def rt(Rt:List (Nat×Nat))(o:Oper):Option Nat:=match kT o with|some x=>tI X Rt x|none=>none
def Jp:List Oper→List (Nat×Nat)→List (Nat×Nat)
 |[],Rt=>Rt
 |o::r,Rt=>Jp r (match o.dst with|some d=>(bif oN o then(match rt X Rt o with|some b=>(d,b)::Rt|none=>Rt)else Rt)|none=>Rt)
def JM(Rt:List (Nat×Nat))(o:Oper):Bool:=match o.dst with
 |some d=>X.L.contains d||Rt.lookup d==(bif oN o then rt X Rt o else none)
 |none=>true
def jf:AV→Bool
 |.undef=>true
 |.aD []=>true
 |_=>false
def aab(Rt:List (Nat×Nat))(sl:List AV):Bool:=Rt.all λp=>jf (sl.getD p.1 .undef)
def wb(Rt:List (Nat×Nat))(o:Oper):Option Nat:=match o.op with|.store ..=>rt X Rt o|_=>none
def pN(Rt:List (Nat×Nat))(o:Oper):Bool:=match o.op with
 |.load ..=>(rt X Rt o).isNone
 |.store ..=>(rt X Rt o).isNone
 |.alloc ..|.box ..|.buildSlice ..=>(match o.dst with|some d=>X.O.contains d|none=>false)
 |_=>rH o
def mz(Rt:List (Nat×Nat))(o:Oper):Bool:=match o.op with
 |.store ..=>(rt X Rt o).isNone
 |_=>wH X o
def sO(Rt:List (Nat×Nat))(Bt:List Nat)(x y:Oper):Bool:=
 (match wb X Rt x with|some b=>rt X Rt y==some b|none=>false)||(match x.dst with|some d=>X.L.contains d&&rt X Rt y==some d|none=>false)||(mz X Rt x&&((pN X Rt y&&!(soft Bt y&&wI x))||mz X Rt y))
def indep(Rt:List (Nat×Nat))(Bt:List Nat)(ops:Array Oper)(x y:Oper):Bool:=x.apart ops y&&!sO X Rt Bt x y&&!sO X Rt Bt y x
def EV:List Oper→List Nat→List Nat
 |[],acc=>acc
 |o::r,acc=>EV r (acc++[o.after.toList.foldl (λs e=>bif Region.binds .any e then s ||| 2 ^ e.on ||| acc.getD e.on 0 else s) 0])
def EH:List Oper→Nat→Bool
 |[],_=>true
 |o::r,i=>o.after.toList.all (λe=>!Region.binds .any e||Nat.blt e.on i)&&EH r (i+1)
def EC(Rt:List (Nat×Nat))(Bt:List Nat)(ops:Array Oper)(Cq:List Nat):List Oper→Nat→Bool
 |[],_=>true
 |o::r,i=>(ops.toList.take i).zipIdx.all (λp=>(Cq.getD i 0).testBit p.2||indep X Rt Bt ops p.1 o)&&EC Rt Bt ops Cq r (i+1)
def D9(Rt:List (Nat×Nat))(Bt:List Nat)(ops:Array Oper)(sl:List AV):Bool:=X.P.follows .mixedOrders&&EH ops.toList 0&&EC X Rt Bt ops (EV ops.toList []) ops.toList 0&&ops.toList.all (JM X Rt)&&aab Rt sl&&Rt.all (λp=>X.L.contains p.2)&&ops.toList.all (JK Bt)&&Bt.all (λt=>lG (sl.getD t .undef))
def BL(ops:Array Oper)(sl:List AV):Bool:=D9 X (Jp X ops.toList []) [] ops sl||D9 X (Jp X ops.toList []) (Qv ops.toList (aa8 ops.toList sl)) ops sl
def cS:Code→List Nat
 |.region _ ops _=>ops.toList.filterMap (·.dst)
 |.seq a b=>cS a++cS b
 |.cond _ a b=>cS a++cS b
 |.block _ c=>cS c
 |.loop c=>cS c
 |_=>[]
def qG(sl:List AV):List Nat→List AV
 |[]=>sl
 |d::r=>qG (sl.set d .undef) r
def Ah(vs:List AV):List AV→List Nat→Nat→List AV
 |sl,d::r,j=>Ah vs (sl.set d (vs.getD j .undef)) r (j+1)
 |sl,[],_=>sl
def vals(sl:List AV)(live:List Nat):List AV:=live.map (sl.getD · .undef)
def AS.meet(s:AS)(mods live:List Nat)(vs:List AV)(σ:Heap):AS:=⟨Ah vs (qG s.sl mods) live 0,λ_=>none,σ⟩
def leave(live:List Nat)(e:AX)(s:AS):Option (AX×List AV×Heap):=some (e,vals s.sl live,s.σ)
def EO(live:List Nat)(e:AX)(s:AS):Option (List AV×Heap):=match e with|.normal=>some (vals s.sl live,s.σ)|_=>none
def A.sel{R:Type}(e:AX)(k:AX→Option R):List AX→Option R
 |[]=>none
 |x::r=>bif e==x then k x else A.sel e k r
def exec:{R:Type}→jy→Code→AS→(AX→AS→Option R)→Option R
 |_,_,.skip,s,k=>k .normal s
 |_,_,.label _,s,k=>k .normal s
 | _, _, .region _ ops draw, s, k => bif draw then (bif BL X ops s.sl then Ck X true ops ops.toList ⟨s.sl, λ_ => none, s.σ⟩ λs => k .normal ⟨s.sl, λ_ => none, s.σ⟩ else none)
   else Ck X false ops ops.toList s λs=>k .normal ⟨s.sl,λ_=>none,s.σ⟩
 |_,.s a b,.seq x y,s,k=>exec a x s λe s=>match e with|.normal=>exec b y s k|e=>k e s
 |_,.c live a b,.cond c x y,s,k=>bif !(live.all λd=>(cS x++cS y++X.L).contains d)then none else(A.cond (ev X s c) (exec a x s (EO live)) (exec b y s (EO live))).bind λr=>force (s.meet (cS x++cS y++X.L) live r.1 r.2).sl λsl=>k .normal ⟨sl,λ_=>none,r.2⟩
 |_,.j a b,.cond c x y,s,k=>A.cond (ev X s c) (exec a x s k) (exec b y s k)
 |_,.b a,.block id c,s,k=>exec a c s λe s=>match e with|.exit i=>bif i==id then k .normal s else k (.exit i) s|e=>k e s
 |_,.l live xs a,.loop c,s,k=>bif !(live.all λd=>(cS c++X.L).contains d)then none else(A.loop (λvs σ=>force (s.meet (cS c++X.L) live vs σ).sl λsl=>exec a c ⟨sl,λ_=>none,σ⟩ (leave live)) (vals s.sl live) s.σ).bind λr=>A.sel r.1 (λe=>force (s.meet (cS c++X.L) live r.2.1 r.2.2).sl λsl=>k e ⟨sl,λ_=>none,r.2.2⟩) xs
 |_,.lc live xs a,.loop c,s,k=>bif !(live.all λd=>(cS c++X.L).contains d)then none else A.JC (λvs σ K=>force (s.meet (cS c++X.L) live vs σ).sl λsl=>exec a c ⟨sl,λ_=>none,σ⟩ λe s'=>K (e,vals s'.sl live,s'.σ)) (vals s.sl live) s.σ λr=>A.sel r.1 (λe=>force (s.meet (cS c++X.L) live r.2.1 r.2.2).sl λsl=>k e ⟨sl,λ_=>none,r.2.2⟩) xs
 |_,_,.exit id,s,k=>k (.exit id) s
 |_,_,.ret,s,k=>k .ret s
 |_,_,_,_,_=>none
def uB(s:AS):List ResultVar→(List AV→Option R)→Option R
 |[],k=>k []
 |.tmp t::r,k=>uB s r λvs=>k (ev X s (.tmp t)::vs)
 |.cell a t::r,k=>(match place X s none (.tmp a)with
  |some (b,off)=>((A.lb (s.sl.getD b .undef)).bind λcs=>ug X t off cs).bind λv=>uB s r λvs=>k (v::vs)
  |none=>((A.deref (ev X s (.tmp a)) s.σ).bind λcs=>ug X t 0 cs).bind λv=>uB s r λvs=>k (v::vs))
def one:List AV→AV
 |[v]=>v
 |vs=>.aD vs
def A.fin(σ:Heap)(r:AV)(σ':Heap):Option (AV×Heap):=open Classical in
 if σ'=σ then some (r,σ)else if σ'.take σ.length=σ then(A.bP σ' σ.length 8 r).map λr=>(r,σ)else none
noncomputable def A.Rm (es:List (AV×AV)):List (AV×AV):=Classical.choose (p:=λl:List (AV×AV)=>l.Perm es) ⟨es,.refl _⟩
noncomputable def A.can (x:AV):AV:=match x with
 |.fm es=>open Classical in if B0 es then .fm (A.Rm es)else .fm es
 |x=>x
noncomputable def A.JS (σ:Heap) (n:Nat) (x:bk):Option bk:=match x with
 |.box cs=>(A.dz σ n 8 cs).map λcs=>.box (cs.map A.can)
 |.arr g sz es=>(A.lF σ n 8 es).map λes=>.arr g sz (es.map (·.map A.can))
 |.kR g sz es=>(A.lF σ n 8 es).map λes=>.kR g sz (es.map (·.map A.can))
 |.map es=>(A.n4 σ n 8 es).map .map
 |.it _ _=>none
noncomputable def A.Ai (σ:Heap) (n:Nat):Heap→Heap→Option Heap
 |[],_=>some []
 |_::_,[]=>none
 |b::r,b'::r'=>open Classical in (if b'=b then some b else A.JS σ n b').bind λx=>(A.Ai σ n r r').map (x::·)
noncomputable def A.Cd (σ:Heap) (v:AV) (σ':Heap):Option (AV×Heap):=(A.Ai σ' σ.length σ σ').bind λτ=>(A.bP σ' σ.length 8 v).map λr=>(r,τ)
inductive mJ where
 |K
 |F
  |N(f:AV→AV)
  |G
  |R
def A.gen:List AV→Nat
 |[]=>0
 |x::r=>(match x with|.os _ g _ _ len=>g+len|.sl _ es=>es.length|_=>0)+A.gen r
def A.rowsOf:List AV→List (List AV)
 |[]=>[]
 |x::r=>(match x with|.sl _ es=>es|_=>[])++A.rowsOf r
def A.merge(args:List AV)(σ:Heap)(sz:Nat)(seg:List (List AV))(id:Nat)(σ':Heap):Option (AV×Heap):=match args with
 |.os gu _ _ _ _::_=>match σ[gu]? with
  | some (.arr g1 vi qv) => open Classical in if id = σ.length ∧ σ'.length = σ.length + 1 ∧ vi = sz ∧ g1 < A.gen args + 1 ∧ (∀ j, j < σ.length → j ≠ gu → σ'[j]? = σ[j]?) ∧ σ'[gu]? = some (.kR g1 vi qv) ∧ (∀ y ∈ seg, y ∈ qv ∨ y ∈ A.rowsOf args) then
    some (.os gu (A.gen args+1) sz 0 seg.length,σ.set gu (.arr (A.gen args+1) sz seg))else none
  |_=>none
 |_=>none
def A.Rq:List AV→Bool
 |.os ..::_=>true
 |_=>false
def A.renew(args:List AV)(σ:Heap)(v:AV)(σ':Heap):Option (AV×Heap):=match v with
 |.os id g sz off len=>match σ'[id]? with
  | some (.arr g' sz' es) => if g = g' ∧ sz = sz' ∧ off + len ≤ es.length ∧ g < A.gen args + 1 then
    (if id<σ.length∨A.Rq args=false then some (.os id (A.gen args+1) sz 0 len,σ'.set id (.arr (A.gen args+1) sz ((es.drop off).take len)))else A.merge args σ sz ((es.drop off).take len) id σ')else none
  |_=>none
 |.aN=>some (.aN,σ')
 |.ez=>some (.ez,σ')
 |.sl sz []=>some (.sl sz [],σ')
 |_=>none
def mJ.run(f:mJ)(args:List AV)(σ:Heap)(v:AV)(σ':Heap):Option (AV×Heap):=match f with
 |.K=>some (v,σ')
 |.F=>A.fin σ v σ'
 |.N g=>(A.fin σ v σ').map λp=>(g p.1,p.2)
 |.G=>A.Cd σ v σ'
 |.R=>A.renew args σ v σ'
def mO(fin:mJ)(bO:jy)(fn:Func)(args:List AV)(σ:Heap):Option (AV×Heap):=
 match fn.body with
 |some c=>bif !(Nat.ble args.length fn.ntmps&&X.n==fn.ntmps)then none else exec X bO c ⟨args++List.replicate (fn.ntmps-args.length) (.aD []),λ_=>none,σ⟩ λe s=>match e with
  |.exit _=>none
  |_=>uB X s fn.results.toList λvs=>fin.run args σ (one vs) s.σ
 |none=>none
end
end
end
abbrev bl:jy:=(.s .n .n)
abbrev bZ:jy:=(.s .n (.j bl .n))
abbrev cV:jy:=(.j .n .n)
structure Pl where
 b:Nat
 base:Nat
 g:Nat
 sz:Nat
 mQ:Nat
structure RC where
 w:World
 E:List Pl
 X:Nat→Prop
 nm:List Nat
def lV(es:Array MapEntry)(aY:Nat):Prop:=(∀e∈es.toList,e.born<aY)∧(es.toList.map (·.born)).Nodup
def PZ(es:List (AV×AV))(l L:List MapEntry):Prop:=l=L∨(l.Perm L∧B0 es)
mutual
def ak(c:RC):AV→Value→Prop
 |.undef,_=>True
 |.int k n,v=>v=.int k n
 |.bool b,v=>v=.bool b
 |.str s,v=>v=.string s
 |.agg cs,v=>∃vs,v=.agg vs∧aC c cs vs.toList∧∀x∈vs.toList,cD x=true
 |.aD cs,v=>∃vs,v=.tuple vs∧aC c cs vs.toList
 |.sl sz es,v=>∃a cap,v=.slice a es.length cap∧es.length≤cap∧0<sz∧(es=[]∨∃b off,a=some ⟨b,off,none⟩∧b<c.w.heap.size∧¬c.X b∧aX c sz b off es)
 |.aN,v=>v=.slice none 0 0
 |.ez,v=>∃a,v=.slice a 0 0
 |.rp cs,v=>∃b off,v=.pointer (some ⟨b,off,none⟩)∧b<c.w.heap.size∧¬c.X b∧aT c b off cs
 |.np,v=>v=.pointer none
 |.op id off,v=>∃p,c.E[id]? =some p∧p.g=0∧v=.pointer (some ⟨p.b,off,none⟩)
 |.oe id g i off,v=>0<g∧∃p,c.E[id]? =some p∧g≤p.g∧∃a,v=.pointer (some a)∧(g=p.g→a=⟨p.b,p.base+i*p.sz+off,none⟩)
 |.os id g sz off len,v=>0<g∧∃p,c.E[id]? =some p∧g≤p.g∧∃a cap,v=.slice (some a) len cap∧len≤cap∧(g=p.g→p.sz=sz∧(cap=0∨a=⟨p.b,p.base+off*p.sz,none⟩)∧p.base+(off+cap)*p.sz=p.mQ)
 |.om id,v=>∃p,c.E[id]? =some p∧p.g=0∧v=.map (some p.b)
 |.fm es,v=>∃b,v=.map (some b)∧b<c.w.heap.size∧¬c.X b∧∃aU aY,c.w.heap[b]? =some (.map aU aY)∧lV aU aY∧∃l,bM c es l∧PZ es l aU.toList
 |.nm,v=>v=.map none
 |.fn n caps,v=>∃f vs,v=.func (.func f) #[] vs∧c.nm.getD f 0=n∧aC c caps vs.toList
 |.tD,v=>v=.nilFunc
 |.lbx _,_=>False
def aC(c:RC):List AV→List Value→Prop
 |[],vs=>vs=[]
 |a::r,vs=>∃v vs',vs=v::vs'∧ak c a v∧aC c r vs'
def bM(c:RC):List (AV×AV)→List MapEntry→Prop
 |[],es=>es=[]
 |(k,v)::r,es=>∃e es',es=e::es'∧ak c k e.key∧ak c v e.val∧bM c r es'
def aT(c:RC)(b:Nat):Nat→List AV→Prop
 |_,[]=>True
 |off,a::r=>(∃v,c.w.cell? ⟨b,off,none⟩=some v∧cD v=true∧ak c a v)∧aT c b (off+1) r
def aX(c:RC)(sz b:Nat):Nat→List (List AV)→Prop
 |_,[]=>True
 |off,e::r=>e.length=sz∧aT c b off e∧aX c sz b (off+sz) r
end
structure Ext (c c' : RC) : Prop where
 size:c.w.heap.size≤c'.w.heap.size
 stay:∀b,b<c.w.heap.size→¬c.X b→c'.w.heap[b]? =c.w.heap[b]? ∧¬c'.X b
 env:∀(i:Nat)(p:Pl),c.E[i]? =some p→∃p':Pl,c'.E[i]? =some p'∧(p'=p∨(0<p.g∧p.g<p'.g))
 nm:c'.nm=c.nm
theorem cell_of_block{w w':World}{b off:Nat}(h:w'.heap[b]? =w.heap[b]?):w'.cell? ⟨b,off,none⟩=w.cell? ⟨b,off,none⟩:=by simp [World.cell?,h]
mutual
theorem ak.mono{c c':RC}(h:Ext c c'):∀(a:AV)(v:Value),ak c a v→ak c' a v
 |.undef,_,_=>by simp [ak]
 |.int k n,v,r=>by simpa [ak]using r
 |.bool b,v,r=>by simpa [ak]using r
 |.str s,v,r=>by simpa [ak]using r
 |.agg cs,v,r=>by simp only[ak]at r ⊢;obtain⟨vs,e,r,k⟩:=r;exact⟨vs,e,aC.mono h cs _ r,k⟩
 |.aD cs,v,r=>by simp only[ak]at r ⊢;obtain⟨vs,e,r⟩:=r;exact⟨vs,e,aC.mono h cs _ r⟩
 |.sl sz es,v,r=>by
  simp only[ak]at r ⊢;obtain⟨a,cap,e,h1,h2,r⟩:=r;refine⟨a,cap,e,h1,h2,?_⟩;rcases r with r|⟨b,off,e,hb,hx,r⟩
  ·exact .inl r
  ·exact .inr ⟨b,off,e,nV hb h.size,(h.stay b hb hx).2,aX.mono h sz b (h.stay b hb hx).1 es off r⟩
 |.aN,v,r=>by simpa [ak]using r
 |.ez,v,r=>by simpa [ak]using r
 |.rp cs,v,r=>by simp only[ak]at r ⊢;obtain⟨b,off,e,hb,hx,r⟩:=r;exact⟨b,off,e,nV hb h.size,(h.stay b hb hx).2,aT.mono h b (h.stay b hb hx).1 cs off r⟩
 |.np,v,r=>by simpa [ak]using r
 |.op id off,v,r=>by
  simp only[ak]at r ⊢;obtain⟨p,h1,h2,e⟩:=r;obtain⟨p',h3,h4⟩:=h.env _ _ h1;rcases h4 with rfl|⟨h4,_⟩
  ·exact⟨p',h3,h2,e⟩
  ·omega
 |.oe id g i off,v,r=>by
  simp only[ak]at r ⊢;obtain⟨hg,p,h1,h2,a,e,r⟩:=r;obtain⟨p',h3,h4⟩:=h.env _ _ h1;rcases h4 with rfl|⟨h4,h5⟩
  ·exact⟨hg,p',h3,h2,a,e,r⟩
  ·exact⟨hg,p',h3,by omega,a,e,λk=>by omega⟩
 |.os id g sz off len,v,r=>by
  simp only[ak]at r ⊢;obtain⟨hg,p,h1,h2,a,cap,e,h6,r⟩:=r;obtain⟨p',h3,h4⟩:=h.env _ _ h1;rcases h4 with rfl|⟨h4,h5⟩
  ·exact⟨hg,p',h3,h2,a,cap,e,h6,r⟩
  ·exact⟨hg,p',h3,by omega,a,cap,e,h6,λk=>by omega⟩
 |.om id,v,r=>by
  simp only[ak]at r ⊢;obtain⟨p,h1,h2,e⟩:=r;obtain⟨p',h3,h4⟩:=h.env _ _ h1;rcases h4 with rfl|⟨h4,_⟩
  ·exact⟨p',h3,h2,e⟩
  ·omega
 |.nm,v,r=>by simpa [ak]using r
 |.fm es,v,r=>by simp only[ak]at r ⊢;obtain⟨b,e,hb,hx,aU,aY,h1,hw,l,h2,h3⟩:=r;exact⟨b,e,nV hb h.size,(h.stay b hb hx).2,aU,aY,(h.stay b hb hx).1.trans h1,hw,l,bM.JD h es _ h2,h3⟩
 |.fn n caps,v,r=>by simp only[ak]at r ⊢;obtain⟨f,vs,e,h1,r⟩:=r;exact⟨f,vs,e,by rw[h.nm];exact h1,aC.mono h caps _ r⟩
 |.tD,v,r=>by simpa [ak]using r
 |.lbx _,v,r=>by simp [ak]at r
theorem bM.JD{c c':RC}(h:Ext c c'):∀(l:List (AV×AV))(es:List MapEntry),bM c l es→bM c' l es
 |[],es,r=>by simpa [bM]using r
 |(k,v)::l,es,r=>by simp only[bM]at r ⊢;obtain⟨e,es',h1,h2,h3,h4⟩:=r;exact⟨e,es',h1,ak.mono h k _ h2,ak.mono h v _ h3,bM.JD h l es' h4⟩
theorem aC.mono{c c':RC}(h:Ext c c'):∀(l:List AV)(vs:List Value),aC c l vs→aC c' l vs
 |[],vs,r=>by simpa [aC]using r
 |a::l,vs,r=>by simp only[aC]at r ⊢;obtain⟨v,vs',e,h1,h2⟩:=r;exact⟨v,vs',e,ak.mono h a v h1,aC.mono h l vs' h2⟩
theorem aT.mono{c c':RC}(h:Ext c c')(b:Nat)(hb:c'.w.heap[b]? =c.w.heap[b]?):∀(l:List AV)(off:Nat),aT c b off l→aT c' b off l
 |[],off,r=>by simp [aT]
 |a::l,off,r=>by simp only[aT]at r ⊢;obtain⟨⟨v,h1,h2,h3⟩,r⟩:=r;exact⟨⟨v,by rw[cell_of_block hb];exact h1,h2,ak.mono h a v h3⟩,aT.mono h b hb l (off+1) r⟩
theorem aX.mono{c c':RC}(h:Ext c c')(sz b:Nat)(hb:c'.w.heap[b]? =c.w.heap[b]?):∀(l:List (List AV))(off:Nat),aX c sz b off l→aX c' sz b off l
 |[],off,r=>by simp [aX]
 |e::l,off,r=>by simp only[aX]at r ⊢;obtain⟨h1,h2,r⟩:=r;exact⟨h1,aT.mono h b hb e off h2,aX.mono h sz b hb l (off+sz) r⟩
end
theorem Ext.trans{a b c:RC}(h:Ext a b)(k:Ext b c):Ext a c:=by
 refine⟨Nat.le_trans h.size k.size,λx hx hn=>?_,λi p hp=>?_,k.nm.trans h.nm⟩
 ·obtain⟨h1,h2⟩:=h.stay x hx hn;obtain⟨h3,h4⟩:=k.stay x (nV hx h.size) h2;exact⟨h3.trans h1,h4⟩
 ·obtain⟨p',h1,h2⟩:=h.env i p hp;obtain⟨p'',h3,h4⟩:=k.env i p' h1;refine⟨p'',h3,?_⟩;rcases h2 with rfl|⟨h2,h5⟩
  ·exact h4
  ·rcases h4 with rfl|⟨h6,h7⟩
   ·exact .inr ⟨h2,h5⟩
   ·exact .inr ⟨h2,by omega⟩
theorem aC.length{c:RC}:∀{l:List AV}{vs:List Value},aC c l vs→l.length=vs.length
 |[],vs,h=>by simp only[aC]at h;subst h;rfl
 |a::l,vs,h=>by simp only[aC]at h;obtain⟨v,vs',rfl,_,h2⟩:=h;simp [aC.length h2]
theorem aC.nth{c:RC}:∀{l:List AV}{vs:List Value}{i:Nat}{a:AV},aC c l vs→l[i]? =some a→∃v,vs[i]? =some v∧ak c a v
 |[],vs,i,a,h,k=>by simp at k
 |x::l,vs,0,a,h,k=>by simp only[aC]at h;obtain⟨v,vs',rfl,h1,_⟩:=h;simp at k;subst k;exact⟨v,rfl,h1⟩
 |x::l,vs,i+1,a,h,k=>by simp only[aC]at h;obtain⟨v,vs',rfl,_,h2⟩:=h;simp at k;obtain⟨u,h3,h4⟩:=aC.nth h2 k;exact⟨u,by simpa using h3,h4⟩
theorem aC.append{c:RC}:∀{l m:List AV}{vs us:List Value},aC c l vs→aC c m us→aC c (l++m) (vs++us)
 |[],m,vs,us,h,k=>by simp only[aC]at h;subst h;simpa using k
 |a::l,m,vs,us,h,k=>by simp only[aC]at h;obtain⟨v,vs',rfl,h1,h2⟩:=h;simp only[l6,aC];exact⟨v,_,rfl,h1,h2.append k⟩
theorem aC.take{c:RC}:∀{l:List AV}{vs:List Value}(n:Nat),aC c l vs→aC c (l.take n) (vs.take n)
 |[],vs,n,h=>by simp only[aC]at h;subst h;simp [aC]
 |a::l,vs,0,h=>by simp [aC]
 |a::l,vs,n+1,h=>by simp only[aC]at h;obtain⟨v,vs',rfl,h1,h2⟩:=h;simp only[List.take_succ_cons,aC];exact⟨v,_,rfl,h1,h2.take n⟩
theorem aC.drop{c:RC}:∀{l:List AV}{vs:List Value}(n:Nat),aC c l vs→aC c (l.drop n) (vs.drop n)
 |[],vs,n,h=>by simp only[aC]at h;subst h;simp [aC]
 |a::l,vs,0,h=>by simpa using h
 |a::l,vs,n+1,h=>by simp only[aC]at h;obtain⟨v,vs',rfl,h1,h2⟩:=h;simp only[List.drop_succ_cons];exact h2.drop n
theorem aC.map{c:RC}{α:Type}(f:α→AV)(g:α→Value):∀(l:List α),(∀x∈l,ak c (f x) (g x))→aC c (l.map f) (l.map g)
 |[],_=>by simp [aC]
 |a::l,h=>by simp only[fJ,aC];exact⟨_,_,rfl,h a (by simp),aC.map f g l (λx hx=>h x (by simp [hx]))⟩
theorem aC.single{c:RC}{a:AV}{v:Value}(h:ak c a v):aC c [a] [v]:=by simp only[aC];exact⟨v,[],rfl,h,rfl⟩
theorem aT.nth{c:RC}{b:Nat}:∀{l:List AV}{off i:Nat}{a:AV},aT c b off l→l[i]? =some a→∃v,c.w.cell? ⟨b,off+i,none⟩=some v∧cD v=true∧ak c a v
 |[],off,i,a,h,k=>by simp at k
 |x::l,off,0,a,h,k=>by simp only[aT]at h;simp at k;subst k;exact h.1
 |x::l,off,i+1,a,h,k=>by simp only[aT]at h;simp at k;have:=aT.nth h.2 k;rwa[show off+1+i=off+(i+1) by omega]at this
theorem aT.of{c:RC}{b:Nat}:∀{l:List AV}{off:Nat},(∀i a,l[i]? =some a→∃v,c.w.cell? ⟨b,off+i,none⟩=some v∧cD v=true∧ak c a v)→aT c b off l
 |[],off,h=>by simp [aT]
 |x::l,off,h=>by simp only[aT];refine⟨by simpa using h 0 x rfl,aT.of λi a hi=>?_⟩;have:=h (i+1) a (by simpa using hi);rwa[show off+(i+1)=off+1+i by omega]at this
theorem aT.drop{c:RC}{b:Nat}{l:List AV}{off:Nat}(n:Nat)(h:aT c b off l):aT c b (off+n) (l.drop n):=
 aT.of λi a hi=>by have:=aT.nth h (i:=n+i) (a:=a) (by rw[←hi,List.getElem?_drop]);rwa[show off+(n+i)=off+n+i by omega]at this
theorem aT.take{c:RC}{b:Nat}{l:List AV}{off:Nat}(n:Nat)(h:aT c b off l):aT c b off (l.take n):=
 aT.of λi a hi=>by
  have:l[i]? =some a:=by
   rw[List.getElem?_take]at hi;split at hi
   ·exact hi
   ·cases hi
  exact aT.nth h this
theorem aX.nth{c:RC}{sz b:Nat}:∀{l:List (List AV)}{off i:Nat}{e:List AV},aX c sz b off l→l[i]? =some e→e.length=sz∧aT c b (off+i*sz) e
 |[],off,i,e,h,k=>by simp at k
 |x::l,off,0,e,h,k=>by simp only[aX]at h;simp at k;subst k;exact⟨h.1,by simpa using h.2.1⟩
 |x::l,off,i+1,e,h,k=>by simp only[aX]at h;simp at k;have:=aX.nth h.2.2 k;rwa[show off+sz+i*sz=off+(i+1)*sz by rw[eX];omega]at this
theorem aX.of{c:RC}{sz b:Nat}:∀{l:List (List AV)}{off:Nat},(∀i e,l[i]? =some e→e.length=sz∧aT c b (off+i*sz) e)→aX c sz b off l
 |[],off,h=>by simp [aX]
 |x::l,off,h=>by simp only[aX];have h0:=h 0 x rfl;simp at h0;refine⟨h0.1,h0.2,aX.of λi e hi=>?_⟩;have:=h (i+1) e (by simpa using hi);rwa[show off+(i+1)*sz=off+sz+i*sz by rw[eX];omega]at this
theorem aX.drop{c:RC}{sz b:Nat}{l:List (List AV)}{off:Nat}(n:Nat)(h:aX c sz b off l):aX c sz b (off+n*sz) (l.drop n):=
 aX.of λi e hi=>by have:=aX.nth h (i:=n+i) (e:=e) (by rw[←hi,List.getElem?_drop]);rwa[show off+(n+i)*sz=off+n*sz+i*sz by rw[eX];omega]at this
theorem aX.take{c:RC}{sz b:Nat}{l:List (List AV)}{off:Nat}(n:Nat)(h:aX c sz b off l):aX c sz b off (l.take n):=
 aX.of λi e hi=>by
  have:l[i]? =some e:=by
   rw[List.getElem?_take]at hi;split at hi
   ·exact hi
   ·cases hi
  exact aX.nth h this
section
open Go.RowKit
def ue(c:RC)(b:Nat)(cs:List AV):Prop:=(∃arr t,c.w.heap[b]? =some (.cells arr t (0,0))∧arr.size=cs.length)∧aT c b 0 cs
def JL(c:RC)(b:Nat):Prop:=∀arr t fz,c.w.heap[b]? =some (.cells arr t fz)→∀x∈arr.toList,cD x=true
def abB(c:RC)(b:Nat)(cur left:List (AV×AV)):Prop:=(cur=[]∧left=[]∧∃since seen last,c.w.heap[b]? =some (.mapIter none since seen last))∨ ∃m seen aU aY,c.w.heap[b]? =some (.mapIter (some m) aY seen aY)∧m<c.w.heap.size∧¬c.X m∧c.w.heap[m]? =some (.map aU aY)∧lV aU aY∧(∃l,bM c left l∧l.Perm (aU.toList.filter λe=>!seen.contains e.born))∧ (cur=[]∨∃k v e,cur=[(k,v)]∧seen.back? =some e.born∧e∈aU.toList∧ak c k e.key∧ak c v e.val)
def lU(c:RC)(p:Pl):bk→Prop
 |.box cs=>p.g=0∧ue c p.b cs
 |.arr g sz es=>p.g=g∧0<g∧p.sz=sz∧0<sz∧(∃arr t,c.w.heap[p.b]? =some (.cells arr t (0,0))∧arr.size=p.mQ)∧p.base+es.length*sz≤p.mQ∧aX c sz p.b p.base es∧JL c p.b
 |.kR g sz es=>p.g=g∧0<g∧p.sz=sz∧0<sz∧(∃arr t,c.w.heap[p.b]? =some (.cells arr t (0,0))∧arr.size=p.mQ)∧p.base+es.length*sz=p.mQ∧aX c sz p.b p.base es∧JL c p.b
 |.map es=>p.g=0∧∃aU aY,c.w.heap[p.b]? =some (.map aU aY)∧lV aU aY∧bM c es aU.toList
 |.it cur left=>p.g=0∧abB c p.b cur left
structure eB (c : RC) (σ : Heap) : Prop where
 len:c.E.length=σ.length
 inj:∀(i j:Nat)(p q:Pl),c.E[i]? =some p→c.E[j]? =some q→p.b=q.b→i=j
 blk:∀(i:Nat)(p:Pl)(x:bk),c.E[i]? =some p→σ[i]? =some x→lU c p x
structure Z where
 w:World
 E:List Pl
 X:Nat→Prop
 nm:List Nat
def ctx(z:Z)(w:World)(E:List Pl)(pb:Nat→Option Nat):RC:=⟨w,E,λb=>z.X b∨(∃p∈E,p.b=b)∨∃i,pb i=some b,z.nm⟩
structure Out (z : Z) (w : World) (E : List Pl) : Prop where
 os:w.os=z.w.os
 tape:w.tape=z.w.tape
 output:w.output=z.w.output
 size:z.w.heap.size≤w.heap.size
 stay:∀b,b<z.w.heap.size→(∀p∈z.E,p.b≠b)→w.heap[b]? =z.w.heap[b]?
 fresh':∀(i:Nat)(p:Pl),E[i]? =some p→z.w.heap.size≤p.b∨∃q:Pl,z.E[i]? =some q∧q.b=p.b
 env:∀(i:Nat)(p:Pl),z.E[i]? =some p→∃p':Pl,E[i]? =some p'∧(p'=p∨(0<p.g∧p.g<p'.g))
 lt:∀b,z.X b→b<z.w.heap.size
 mine:∀p∈z.E,p.b<z.w.heap.size
theorem Out.fresh{z:Z}{w:World}{E:List Pl}(h:Out z w E)(p:Pl)(hp:p∈E):z.w.heap.size≤p.b∨∃q∈z.E,q.b=p.b:=by
 obtain⟨i,hi,rfl⟩:=List.mem_iff_getElem.1 hp;rcases h.fresh' i E[i] (by simp [hi])with k|⟨q,hq,k⟩
 ·exact .inl k
 ·exact .inr ⟨q,dF hq,k⟩
def Slot(c:RC)(pb:Nat→Option Nat)(i:Nat)(av:AV)(v:Value):Prop:=match av with
 |.lbx cs=>∃b,pb i=some b∧v=.pointer (some ⟨b,0,none⟩)∧ue c b cs
 |av=>ak c av v
def mH(a:Act):Option (Nat×Bool)→Prop
 |none=>True
 |some (g,want)=>a.tmps.getD g undef=.bool want
structure St (X : Fx) (z : Z) (s : AS) (a : Act) (w : World) (E : List Pl) (pb : Nat → Option Nat) : Prop where
 len:a.tmps.size=s.sl.length
 mM:s.sl.length=X.n
 slot:∀i av,s.sl[i]? =some av→Slot (ctx z w E pb) pb i av (a.tmps.getD i undef)
 box:∀i cs,s.sl[i]? =some (.lbx cs)→X.L.contains i=true
 jB:∀t p,s.A t=some p→mH a p.tag→∃b,pb p.slot=some b∧a.tmps.getD t undef=.pointer (some ⟨b,p.off,none⟩)
 priv:∀i b,pb i=some b→z.w.heap.size≤b∧b<w.heap.size∧∀p∈E,p.b≠b
 inj:∀i j b,pb i=some b→pb j=some b→i=j
 heap:eB (ctx z w E pb) s.σ
 defers:a.defers=[]
 out:Out z w E
 nm:X.nm=z.nm
theorem ue.mono{c c':RC}(h:Ext c c'){b:Nat}{cs:List AV}(hb:c'.w.heap[b]? =c.w.heap[b]?)(k:ue c b cs):ue c' b cs:=
 ⟨by rw[hb];exact k.1,aT.mono h b hb cs 0 k.2⟩
theorem bM.mono{c c':RC}(h:Ext c c'){l:List (AV×AV)}{es:List MapEntry}(r:bM c l es):bM c' l es:=bM.JD h l es r
theorem vI{c:RC}{b:Nat}{arr:Array Value}{t:TypeId}{fz:Nat×Nat}(h:c.w.heap[b]? =some (.cells arr t fz))(ho:∀x∈arr.toList,cD x=true):JL c b:=λqn t' fz' e=>by rw[h]at e;injection e with e;injection e with e1;subst e1;exact ho
theorem lU.mono{c c':RC}(h:Ext c c'){p:Pl}{x:bk}(hb:c'.w.heap[p.b]? =c.w.heap[p.b]?)(k:lU c p x):lU c' p x:=by
 cases x with
 |box cs=>exact⟨k.1,k.2.mono h hb⟩
 |arr g sz es=>obtain⟨h1,h2,h3,h4,h5,h6,h7,h8⟩:=k;exact⟨h1,h2,h3,h4,by rw[hb];exact h5,h6,aX.mono h sz _ hb es _ h7,λarr t fz e=>h8 arr t fz (hb▸e)⟩
 |kR g sz es=>obtain⟨h1,h2,h3,h4,h5,h6,h7,h8⟩:=k;exact⟨h1,h2,h3,h4,by rw[hb];exact h5,h6,aX.mono h sz _ hb es _ h7,λarr t fz e=>h8 arr t fz (hb▸e)⟩
 |map es=>obtain⟨h1,aU,aY,h2,hw,h3⟩:=k;exact⟨h1,aU,aY,by rw[hb];exact h2,hw,h3.mono h⟩
 |it cur left=>
  obtain⟨h1,h2⟩:=k;refine⟨h1,?_⟩;rcases h2 with⟨h2,h2',since,seen,last,h3⟩|⟨m,seen,aU,aY,h3,h4,h5,h6,h7,h8,h9⟩
  ·exact .inl ⟨h2,h2',since,seen,last,by rw[hb];exact h3⟩
  ·refine .inr ⟨m,seen,aU,aY,by rw[hb];exact h3,nV h4 h.size,(h.stay m h4 h5).2,by rw[(h.stay m h4 h5).1];exact h6,h7,h8.imp λ_ q=>⟨q.1.mono h,q.2⟩,?_⟩;rcases h9 with h9|⟨k,v,e,e1,e2,e3,e4,e5⟩
   ·exact .inl h9
   ·exact .inr ⟨k,v,e,e1,e2,e3,ak.mono h _ _ e4,ak.mono h _ _ e5⟩
theorem lU.lt{c:RC}{p:Pl}{x:bk}(k:lU c p x):p.b<c.w.heap.size:=by
 have key:∀o,c.w.heap[p.b]? =some o→p.b<c.w.heap.size:=λo ho=>(nU.1 ho).1
 cases x with
 |box cs=>obtain⟨_,⟨⟨arr,t,h,_⟩,_⟩⟩:=k;exact key _ h
 |arr g sz es=>obtain⟨_,_,_,_,⟨arr,t,h,_⟩,_⟩:=k;exact key _ h
 |kR g sz es=>obtain⟨_,_,_,_,⟨arr,t,h,_⟩,_⟩:=k;exact key _ h
 |map es=>obtain⟨_,aU,aY,h,_⟩:=k;exact key _ h
 |it cur left=>obtain⟨_,⟨_,_,_,_,_,h⟩|⟨_,_,_,_,h,_⟩⟩:=k<;>exact key _ h
theorem eB.lt{c:RC}{σ:Heap}(h:eB c σ){p:Pl}(hp:p∈c.E):p.b<c.w.heap.size:=by
 obtain⟨i,hi,rfl⟩:=List.mem_iff_getElem.1 hp;have hs:i<σ.length:=by rw[←h.len];exact hi
 exact(h.blk i _ σ[i] (by simp [hi]) (by simp [hs])).lt
theorem eB.mono{c c':RC}{σ:Heap}(h:eB c σ)(hx:Ext c c')(hE:c'.E=c.E)(hb:∀p∈c.E,c'.w.heap[p.b]? =c.w.heap[p.b]?):eB c' σ:=by refine⟨by rw[hE];exact h.len,by rw[hE];exact h.inj,λi p x hi cO=>?_⟩;rw[hE]at hi;exact(h.blk i p x hi cO).mono hx (hb p (dF hi))
theorem Slot.rep{c:RC}{pb:Nat→Option Nat}{i:Nat}{av:AV}{v:Value}(h:Slot c pb i av v)(k:∀cs,av≠.lbx cs):ak c av v:=by cases av<;>first|exact h|exact absurd rfl (k _)
theorem Slot.of{c:RC}{pb:Nat→Option Nat}{i:Nat}{av:AV}{v:Value}(h:ak c av v):Slot c pb i av v:=by cases av<;>first|exact h|(simp [ak]at h)
section
variable {X : Fx} {z : Z} {s : AS} {a : Act} {w w' : World} {E : List Pl} {pb : Nat → Option Nat}
theorem St.ext(h:St X z s a w E pb){E':List Pl}{bw:Nat→Option Nat}{σ':Heap}(hx:Ext (ctx z w E pb) (ctx z w' E' bw))
  (hp:∀i b,pb i=some b→bw i=some b∧w'.heap[b]? =w.heap[b]?) (abq:∀i b,bw i=some b→z.w.heap.size≤b∧b<w'.heap.size∧∀p∈E',p.b≠b)
  (hinj:∀i j b,bw i=some b→bw j=some b→i=j) (hh:eB (ctx z w' E' bw) σ') (ho:Out z w' E'):St X z (s.heap σ') a w' E' bw:=by
 refine⟨h.len,h.mM,λi av hi=>?_,h.box,λt p hp' ht=>?_,abq,hinj,hh,h.defers,ho,h.nm⟩
 ·have k:=h.slot i av hi;cases av with
  |lbx cs=>obtain⟨b,h1,h2,h3⟩:=k;exact⟨b,(hp i b h1).1,h2,h3.mono hx (hp i b h1).2⟩
  |_=>exact ak.mono hx _ _ k
 ·obtain⟨b,h1,h2⟩:=h.jB t p hp' ht;exact⟨b,(hp _ b h1).1,h2⟩
theorem pY(g:Below w.heap.size w w'):Ext (ctx z w E pb) (ctx z w' E pb):=
 ⟨g.size,λb hb hX=>⟨g.block b hb,hX⟩,λi p h=>⟨p,h,.inl rfl⟩,rfl⟩
theorem Out.grow(h:Out z w E)(g:Below w.heap.size w w'):Out z w' E:=
 ⟨g.os.trans h.os,g.tape.trans h.tape,g.output.trans h.output,Nat.le_trans h.size g.size,λb hb hp=>(g.block b (nV hb h.size)).trans (h.stay b hb hp),h.fresh',h.env,h.lt,h.mine⟩
theorem St.grow(h:St X z s a w E pb)(g:Below w.heap.size w w'):St X z s a w' E pb:=by
 have hx:Ext (ctx z w E pb) (ctx z w' E pb):=pY g
 exact h.ext (σ':=s.σ) hx (λi b hb=>⟨hb,g.block b (h.priv i b hb).2.1⟩) (λi b hb=>⟨(h.priv i b hb).1,nV (h.priv i b hb).2.1 g.size,(h.priv i b hb).2.2⟩) h.inj
  (h.heap.mono hx rfl λp hp=>g.block _ (h.heap.lt hp)) (h.out.grow g)
theorem St.fresh(h:St X z s a w E pb):¬(ctx z w E pb).X w.heap.size:=by
 rintro(h1|⟨p,hp,e⟩|⟨i,hi⟩)
 ·have:=h.out.lt _ h1;have:=h.out.size;omega
 ·have:=h.heap.lt hp;simp only[ctx]at this;omega
 ·have:=(h.priv i _ hi).2.1;omega
theorem zN(l:Array Value)(d i:Nat)(v:Value):(l.setIfInBounds d v).getD i undef=if i=d∧d<l.size then v else l.getD i undef:=by
 by_cases h:d=i
 ·subst h;by_cases hd:d<l.size
  ·simp [Array.getD,hd]
  ·simp [Array.getD,hd]
 ·have h':¬i=d:=λe=>h e.symm
  simp [kO,Array.getElem?_setIfInBounds_ne h,h']
theorem Mx{d:Nat}{o:Option pe}{p:pe}(h:lB d o=some p):o=some p∧∀g w,p.tag=some (g,w)→g≠d:=by
 cases o with
 |none=>simp [lB]at h
 |some q=>
  simp only[lB]at h;cases hq:q.tag with
  |none=>rw[hq]at h;simp at h;subst h;exact⟨rfl,λg w e=>by rw[hq]at e;cases e⟩
  |some gw=>
   obtain⟨g,w⟩:=gw;rw[hq]at h;simp only at h;by_cases e:g=d
   ·simp [e]at h
   ·have:(g==d)=false:=by simpa using e
    rw[this]at h;simp at h;subst h;exact⟨rfl,λg' w' e'=>by rw[hq]at e';injection e' with e';injection e' with e1 e2;subst e1;exact e⟩
theorem It{d:Nat}{v:Value}{tag:Option (Nat×Bool)}(h:∀g w,tag=some (g,w)→g≠d)(k:mH (a.put (some d) v) tag):mH a tag:=by
 cases tag with
 |none=>trivial
 |some gw=>obtain⟨g,want⟩:=gw;have hg:=h g want rfl;simp only[mH,Act.put]at k ⊢;rw[zN]at k;rwa[aI (λe=>hg e.1)]at k
theorem St.put(h:St X z s a w E pb)(d:Option Nat){av:AV}{v:Value}(hr:ak (ctx z w E pb) av v):St X z (s.put X d av) (a.put d v) w E pb:=by
 cases d with
 |none=>exact h
 |some d=>
  refine⟨by simp [AS.put,Act.put,h.len],by simp [AS.put,h.mM],λi x hi=>?_,λi cs hi=>?_,λt p hp ht=>?_,h.priv,h.inj,h.heap,h.defers,h.out,h.nm⟩
  ·simp only[AS.put,Act.put]at hi ⊢;rw[zN];rw[eW]at hi;by_cases e:d=i
   ·subst e;rw[aK rfl]at hi;by_cases hd:d<s.sl.length
    ·rw[aK hd]at hi;rw[aK ⟨rfl,by rw[h.len];exact hd⟩];injection hi with hi
     subst hi;cases X.L.contains d
     ·exact Slot.of hr
     ·exact trivial
    ·rw[aI hd]at hi;cases hi
   ·rw[aI e]at hi;rw[aI (λk=>e k.1.symm)];exact h.slot i x hi
  ·simp only[AS.put]at hi;rw[eW]at hi;by_cases e:d=i
   ·subst e;rw[aK rfl]at hi;split at hi
    ·injection hi with hi
     cases hL:X.L.contains d
     ·rw[hL]at hi;simp at hi;subst hi;simp [ak]at hr
     ·rfl
    ·cases hi
   ·rw[aI e]at hi;exact h.box i cs hi
  ·simp only[AS.put]at hp;by_cases e:t=d
   ·subst e;simp at hp
   ·have:(t==d)=false:=by simpa using e
    rw[this]at hp;simp at hp;obtain⟨hp,hg⟩:=Mx hp;obtain⟨b,h1,h2⟩:=h.jB t p hp (It hg ht);refine⟨b,h1,?_⟩;simp only[Act.put];rw[zN,aI (λk=>e k.1)];exact h2
theorem St.JP(h:St X z s a w E pb)(d:Option Nat){sl off:Nat}{tag:Option (Nat×Bool)}{v:Value}(hv:mH a tag→∃b,pb sl=some b∧v=.pointer (some ⟨b,off,none⟩)):
  St X z (s.jB X d sl off tag) (a.put d v) w E pb:=by
 cases d with
 |none=>exact h
 |some d=>
  have hput:=h.put (some d) (av:=.undef) (v:=v) (by simp [ak])
  have iw:(s.put X (some d) .undef).sl=(s.jB X (some d) sl off tag).sl:=by simp only[AS.put,AS.jB];cases X.L.contains d<;>rfl
  refine⟨by rw[←iw];exact hput.len,by rw[←iw];exact hput.mM,by rw[←iw];exact hput.slot,by rw[←iw];exact hput.box,λt p hp ht=>?_,h.priv,h.inj,h.heap,h.defers,h.out,h.nm⟩;by_cases e:t=d
  ·subst e;simp only[AS.jB]at hp;simp only[beq_self_eq_true,bG]at hp;cases hL:(X.L.contains t||!Nat.blt t X.n)
   ·rw[hL]at hp;simp only[aV]at hp
    have hlt:t<a.tmps.size:=by rw[h.len,h.mM];simp only[kr,Bool.not_eq_false']at hL;exact Nat.blt_eq.mp hL.2
    have key:p.slot=sl∧p.off=off∧mH a tag:=by
     cases tag with
     |none=>simp at hp;subst hp;exact⟨rfl,rfl,trivial⟩
     |some gw=>
      obtain⟨g,want⟩:=gw;simp only at hp;by_cases eg:g=t
      ·subst eg;simp at hp
      ·have:(g==t)=false:=by simpa using eg
       rw[this]at hp;simp at hp;subst hp;exact⟨rfl,rfl,It (d:=t) (v:=v) (λg' w' e'=>by injection e' with e';injection e' with e1;subst e1;exact eg) ht⟩
    obtain⟨k1,k2,k3⟩:=key;obtain⟨b,h1,h2⟩:=hv k3;refine⟨b,by rw[k1];exact h1,?_⟩;simp only[Act.put];rw[zN,aK ⟨rfl,hlt⟩,k2];exact h2
   ·rw[hL]at hp;simp at hp
  ·have hp':(s.put X (some d) .undef).A t=some p:=by
    simp only[AS.jB]at hp;simp only[AS.put];have:(t==d)=false:=by simpa using e
    rw[this]at hp ⊢;exact hp
   exact hput.jB t p hp' ht
def _root_.Go.World.cM(w:World)(b:Nat)(o:Obj):World:={w with heap:=w.heap.setIfInBounds b o}
theorem NJ(b k:Nat)(o:Obj):(w.cM b o).heap[k]? =if b=k∧b<w.heap.size then some o else w.heap[k]? :=by
 simp only[World.cM,Array.getElem?_setIfInBounds];by_cases h:b=k
 ·subst h;by_cases hb:b<w.heap.size
  ·simp [hb]
  ·simp [hb]
 ·simp [h]
theorem qE{b:Nat}(o:Obj)(hb:b<w.heap.size):(w.cM b o).heap[b]? =some o:=by rw[NJ,aK ⟨rfl,hb⟩]
theorem tN{b k:Nat}(o:Obj)(h:b≠k):(w.cM b o).heap[k]? =w.heap[k]? :=by rw[NJ,aI (λe=>h e.1)]
theorem wZ(b:Nat)(o:Obj):(w.cM b o).heap.size=w.heap.size:=by simp [World.cM]
theorem IK{b:Nat}{o:Obj}(hX:(ctx z w E pb).X b):Ext (ctx z w E pb) (ctx z (w.cM b o) E pb):=
 ⟨by simp [ctx,wZ],λk hk hn=>⟨tN o (λe=>hn (e▸hX)),hn⟩,λi p h=>⟨p,h,.inl rfl⟩,rfl⟩
theorem rZ{w:World}{b off:Nat}{arr:Array Value}{t:TypeId}{fz:Nat×Nat}(h:w.heap[b]? =some (.cells arr t fz)):w.cell? ⟨b,off,none⟩=arr[off]? :=by simp [World.cell?,h]
theorem aT.tE{c:RC}{b:Nat}{arr:Array Value}{t:TypeId}{fz:Nat×Nat}(h:c.w.heap[b]? =some (.cells arr t fz)){cs:List AV}{off:Nat}{vs:List Value}
  (hr:aC c cs vs) (ho:∀x∈vs,cD x=true) (hv:∀i,i<vs.length→arr[off+i]? =vs[i]?):aT c b off cs:=by
 refine aT.of λi a hi=>?_
 obtain⟨v,h1,h2⟩:=hr.nth hi;have hl:i<vs.length:=(bU.1 h1).1;exact⟨v,by rw[rZ h,hv i hl,h1],ho v (dF h1),h2⟩
theorem aT.FZ{c:RC}{b:Nat}:∀{cs:List AV}{off:Nat},aT c b off cs→∃vs,aC c cs vs∧(∀x∈vs,cD x=true)∧∀j v,vs[j]? =some v→c.w.cell? ⟨b,off+j,none⟩=some v
 |[],off,_=>⟨[],by simp [aC],by simp,by simp⟩
 |x::l,off,h=>by
  simp only[aT]at h;obtain⟨⟨v,h1,h2,h3⟩,h4⟩:=h;obtain⟨vs,k1,k2,k3⟩:=aT.FZ h4;refine⟨v::vs,by simp only[aC];exact⟨v,vs,rfl,h3,k1⟩,by simpa [h2]using k2,λj u hj=>?_⟩;cases j with
  |zero=>simp at hj;subst hj;exact h1
  |succ j=>simp at hj;have:=k3 j u hj;rwa[show off+1+j=off+(j+1) by omega]at this
theorem St.lD(h:St X z s a w E pb)(d:Nat)(hL:X.L.contains d=true){cs:List AV}{vs:List Value}(t:TypeId)(hr:aC (ctx z w E pb) cs vs)(ho:∀x∈vs,cD x=true):
  ∃bw,St X z (s.lD d cs) (a.put (some d) (.pointer (some ⟨w.heap.size,0,none⟩))) (w.alloc (.cells vs.toArray t)) E bw:=by
 have g:Below w.heap.size w (w.alloc (.cells vs.toArray t)):=(Below.refl _ _).alloc (ay _) _;have h1:=h.grow g;obtain⟨bw,J8⟩:∃bw:Nat→Option Nat,bw=λi=>if i=d then some w.heap.size else pb i:=⟨_,rfl⟩
 have e1:∀i,i≠d→bw i=pb i:=λi hi=>by rw[J8];simp [hi]
 have e2:bw d=some w.heap.size:=by rw[J8];simp
 clear J8
 have hx:Ext (ctx z w E pb) (ctx z (w.alloc (.cells vs.toArray t)) E bw):=by
  refine⟨g.size,λb hb hn=>⟨g.block b hb,?_⟩,λi p h=>⟨p,h,.inl rfl⟩,rfl⟩;rintro(k|k|⟨i,k⟩)
  ·exact hn (.inl k)
  ·exact hn (.inr (.inl k))
  ·by_cases e:i=d
   ·subst e;rw[e2]at k;injection k with k;simp [ctx]at hb;omega
   ·rw[e1 i e]at k;exact hn (.inr (.inr ⟨i,k⟩))
 have qx:ue (ctx z (w.alloc (.cells vs.toArray t)) E bw) w.heap.size cs:=by have hb:(w.alloc (.cells vs.toArray t)).heap[w.heap.size]? =some (.cells vs.toArray t (0,0)):=(MapKept.heap_alloc w _).1;exact⟨⟨vs.toArray,t,hb,by simp [hr.length]⟩,aT.tE hb (aC.mono hx _ _ hr) ho (λi hi=>by simp)⟩
 refine⟨bw,by simp [AS.lD,Act.put,h.len],by simp [AS.lD,h.mM],λi x hi=>?_,λi cs' hi=>?_,λt' p hp ht=>?_,λi b hb=>?_,λi j b hi hj=>?_,h.heap.mono hx rfl λp hp=>g.block _ (h.heap.lt hp),h.defers,h.out.grow g,h.nm⟩
 ·simp only[AS.lD,Act.put]at hi ⊢;rw[zN];rw[eW]at hi;by_cases e:d=i
  ·subst e;rw[aK rfl]at hi;by_cases hd:d<s.sl.length
   ·rw[aK hd]at hi;rw[aK ⟨rfl,by rw[h.len];exact hd⟩];injection hi with hi
    subst hi;exact⟨_,e2,rfl,qx⟩
   ·rw[aI hd]at hi;cases hi
  ·rw[aI e]at hi;rw[aI (λk=>e k.1.symm)];have k:=h.slot i x hi;cases x with
   |lbx cs'=>obtain⟨b,k1,k2,k3⟩:=k;exact⟨b,by rw[e1 i (λe'=>e e'.symm)];exact k1,k2,k3.mono hx (g.block b (h.priv i b k1).2.1)⟩
   |_=>exact ak.mono hx _ _ k
 ·simp only[AS.lD]at hi;rw[eW]at hi;by_cases e:d=i
  ·subst e;exact hL
  ·rw[aI e]at hi;exact h.box i cs' hi
 ·simp only[AS.lD]at hp;by_cases e:t'=d
  ·subst e;simp at hp
  ·have:(t'==d)=false:=by simpa using e
   rw[this]at hp;simp only[aV]at hp;cases hk:lB d (s.A t')with
   |none=>rw[hk]at hp;simp at hp
   |some q=>
    rw[hk]at hp;simp only at hp;by_cases eq:q.slot=d
    ·simp [eq]at hp
    ·have:(q.slot==d)=false:=by simpa using eq
     rw[this]at hp;simp at hp;subst hp;obtain⟨hp,hg⟩:=Mx hk;obtain⟨b,k1,k2⟩:=h.jB t' q hp (It hg ht);refine⟨b,by rw[e1 _ eq];exact k1,?_⟩;simp only[Act.put];rw[zN,aI (λk=>e k.1)];exact k2
 ·by_cases e:i=d
  ·subst e;rw[e2]at hb;injection hb with hb;subst hb
   exact⟨h.out.size,by simp,λp hp=>by have:=h.heap.lt hp;simp only[ctx]at this;omega⟩
  ·rw[e1 i e]at hb;exact⟨(h.priv i b hb).1,by have:=(h.priv i b hb).2.1;simp;omega,(h.priv i b hb).2.2⟩
 ·by_cases ei:i=d
  ·by_cases ej:j=d
   ·rw[ei,ej]
   ·subst ei;rw[e2]at hi;rw[e1 j ej]at hj;injection hi with hi;have:=(h.priv j b hj).2.1;omega
  ·by_cases ej:j=d
   ·subst ej;rw[e2]at hj;rw[e1 i ei]at hi;injection hj with hj;have:=(h.priv i b hi).2.1;omega
   ·rw[e1 i ei]at hi;rw[e1 j ej]at hj;exact h.inj i j b hi hj
theorem St.aa0(h:St X z s a w E pb){i b:Nat}(hb:pb i=some b)(hi:∃cs0,s.sl[i]? =some (.lbx cs0)){cs:List AV}{arr:Array Value}{t:TypeId}
  (hr:aC (ctx z w E pb) cs arr.toList) (ho:∀x∈arr.toList,cD x=true):St X z ⟨s.sl.set i (.lbx cs),s.A,s.σ⟩ a (w.cM b (.cells arr t (0,0))) E pb:=by
 have hlt:=(h.priv i b hb).2.1;have hX:(ctx z w E pb).X b:=.inr (.inr ⟨i,hb⟩);have hx:Ext (ctx z w E pb) (ctx z (w.cM b (.cells arr t (0,0))) E pb):=IK hX
 have qx:ue (ctx z (w.cM b (.cells arr t (0,0))) E pb) b cs:=by have hh:=qE (w:=w) (.cells arr t (0,0)) hlt;exact⟨⟨arr,t,hh,by have:=hr.length;simpa using this.symm⟩,aT.tE hh (aC.mono hx _ _ hr) ho (λj hj=>by simp)⟩
 have aaB:∀p∈E,(w.cM b (.cells arr t (0,0))).heap[p.b]? =w.heap[p.b]? :=λp hp=>tN _ (λe=>(h.priv i b hb).2.2 p hp e.symm)
 obtain⟨cs0,hi⟩:=hi;have hil:i<s.sl.length:=(bU.1 hi).1;refine⟨by simp [h.len],by simp [h.mM],λj x hj=>?_,λj cs' hj=>?_,h.jB,λj b' hj=>⟨(h.priv j b' hj).1,by rw[wZ];exact(h.priv j b' hj).2.1,(h.priv j b' hj).2.2⟩,h.inj,h.heap.mono hx rfl aaB,h.defers,?_,h.nm⟩
 ·simp only at hj;rw[eW]at hj;by_cases e:i=j
  ·subst e;rw[aK rfl,aK hil]at hj;injection hj with hj;subst hj
   have k:=h.slot i _ hi;obtain⟨b',k1,k2,_⟩:=k;rw[hb]at k1;injection k1 with k1;subst k1
   exact⟨b,hb,k2,qx⟩
  ·rw[aI e]at hj;have k:=h.slot j x hj;cases x with
   |lbx cs'=>obtain⟨b',k1,k2,k3⟩:=k;exact⟨b',k1,k2,k3.mono hx (tN _ (λe'=>e (h.inj i j b hb (e'▸k1))))⟩
   |_=>exact ak.mono hx _ _ k
 ·simp only at hj;rw[eW]at hj;by_cases e:i=j
  ·subst e;exact h.box i cs0 hi
  ·rw[aI e]at hj;exact h.box j cs' hj
 ·have o:=h.out;exact⟨o.os,o.tape,o.output,by rw[wZ];exact o.size,λk hk hp=>by rw[tN _ (by have:=(h.priv i b hb).1;omega)];exact o.stay k hk hp,o.fresh',o.env,o.lt,o.mine⟩
theorem St.tZ(h:St X z s a w E pb)(o:Obj)(blk:bk)(p:Pl)(hp:p.b=w.heap.size)
  (hk:Ext (ctx z w E pb) (ctx z (w.alloc o) (E++[p]) pb)→lU (ctx z (w.alloc o) (E++[p]) pb) p blk):St X z (s.heap (s.σ++[blk])) a (w.alloc o) (E++[p]) pb:=by
 have g:Below w.heap.size w (w.alloc o):=(Below.refl _ _).alloc (ay _) _
 have hx:Ext (ctx z w E pb) (ctx z (w.alloc o) (E++[p]) pb):=by
  refine⟨g.size,λb hb hn=>⟨g.block b hb,?_⟩,λi q hq=>⟨q,?_,.inl rfl⟩,rfl⟩
  ·rintro(k|⟨q,hq,k⟩|k)
   ·exact hn (.inl k)
   ·rcases eN.1 hq with hq|hq
    ·exact hn (.inr (.inl ⟨q,hq,k⟩))
    ·simp at hq;subst hq;simp [ctx]at hb;omega
   ·exact hn (.inr (.inr k))
  ·simp only[ctx]at hq ⊢;rw[fE (bU.1 hq).1];exact hq
 have hlen:=h.heap.len;simp only[ctx]at hlen;refine h.ext hx (λi b hb=>⟨hb,g.block b (h.priv i b hb).2.1⟩) (λi b hb=>⟨(h.priv i b hb).1,by have:=(h.priv i b hb).2.1;simp;omega,λq hq=>?_⟩) h.inj ⟨by simp [ctx,hlen],λi j q r hq hr he=>?_,λi q x hq cO=>?_⟩ ?_
 ·rcases eN.1 hq with hq|hq
  ·exact(h.priv i b hb).2.2 q hq
  ·simp at hq;subst hq;have:=(h.priv i b hb).2.1;omega
 ·simp only[ctx]at hq hr
  have key:∀(i:Nat)(q:Pl),(E++[p])[i]? =some q→(i<E.length∧E[i]? =some q)∨(i=E.length∧q=p):=λi q hq=>by
   by_cases hi:i<E.length
   ·rw[fE hi]at hq;exact .inl ⟨hi,hq⟩
   ·rw[fV (by omega)]at hq
    have:i-E.length=0:=by
     rcases Nat.eq_zero_or_pos (i-E.length)with e|e
     ·exact e
     ·rw[ku (by simp;omega)]at hq;cases hq
    rw[this]at hq;simp at hq;exact .inr ⟨by omega,hq.symm⟩
  rcases key i q hq with⟨hi,wM⟩|⟨hi,eq⟩<;>rcases key j r hr with⟨hj,pK⟩|⟨hj,er⟩
  ·exact h.heap.inj i j q r wM pK he
  ·have:=h.heap.lt (p:=q) (dF wM);simp only[ctx]at this;rw[er]at he;omega
  ·have:=h.heap.lt (p:=r) (dF pK);simp only[ctx]at this;rw[eq]at he;omega
  ·omega
 ·simp only[ctx]at hq;by_cases hi:i<E.length
  ·rw[fE hi]at hq;rw[fE (by omega)]at cO;exact(h.heap.blk i q x hq cO).mono hx (g.block _ (h.heap.lt (p:=q) (dF hq)))
  ·rw[fV (by omega)]at hq cO
   have:i-E.length=0:=by
    rcases Nat.eq_zero_or_pos (i-E.length)with e|e
    ·exact e
    ·rw[ku (by simp;omega)]at hq;cases hq
   rw[this]at hq;rw[show i-s.σ.length=0 by omega]at cO;simp at hq cO;subst hq;subst cO;exact hk hx
 ·have o':=h.out.grow g;refine⟨o'.os,o'.tape,o'.output,o'.size,o'.stay,λi q hq=>?_,λi q hq=>?_,o'.lt,o'.mine⟩
  ·by_cases hi:i<E.length
   ·rw[fE hi]at hq;exact o'.fresh' i q hq
   ·rw[fV (by omega)]at hq
    have:q=p:=by have:=dF hq;simpa using this
    subst this;exact .inl (by rw[hp];exact h.out.size)
  ·obtain⟨p',k1,k2⟩:=o'.env i q hq;exact⟨p',by rw[fE (bU.1 k1).1];exact k1,k2⟩
theorem St.sJ(h:St X z s a w E pb){i:Nat}{p:Pl}(hi:E[i]? =some p)(o:Obj)(blk:bk)
  (hk:Ext (ctx z w E pb) (ctx z (w.cM p.b o) E pb)→lU (ctx z (w.cM p.b o) E pb) p blk):St X z (s.heap (s.σ.set i blk)) a (w.cM p.b o) E pb:=by
 have hm:p∈E:=dF hi;have hX:(ctx z w E pb).X p.b:=.inr (.inl ⟨p,hm,rfl⟩);have hx:Ext (ctx z w E pb) (ctx z (w.cM p.b o) E pb):=IK hX
 refine h.ext hx (λj b hb=>⟨hb,tN _ (λe=>(h.priv j b hb).2.2 p hm e)⟩) (λj b hb=>⟨(h.priv j b hb).1,by rw[wZ];exact(h.priv j b hb).2.1,(h.priv j b hb).2.2⟩) h.inj
  ⟨by have:=h.heap.len;simpa [ctx]using this,h.heap.inj,λj q x hq cO=>?_⟩ ?_
 ·by_cases e:i=j
  ·subst e;simp only[ctx]at hq;rw[hi]at hq;injection hq with hq;subst hq
   rw[eW]at cO;rw[aK rfl]at cO;split at cO
   ·injection cO with cO;subst cO;exact hk hx
   ·cases cO
  ·rw[eW,aI e]at cO;exact(h.heap.blk j q x hq cO).mono hx (tN _ (λe'=>e (h.heap.inj i j p q hi hq e')))
 ·have o':=h.out;refine⟨o'.os,o'.tape,o'.output,by rw[wZ];exact o'.size,λk hk hp=>?_,o'.fresh',o'.env,o'.lt,o'.mine⟩;rw[tN]
  ·exact o'.stay k hk hp
  ·rintro rfl;rcases o'.fresh p hm with e|⟨q,hq,e⟩
   ·omega
   ·exact hp q hq e
end
end
section
open Go.RowKit
theorem H9(c:RC)(v:Value):ak c (vN v) v:=by unfold vN;split<;>simp [ak]
theorem NQ(c:RC)(v:Value):ak c (qi v) v:=by
 unfold qi;split
 ·rename_i cs;cases h:cs.toList.all cD
  ·simp [ak]
  ·simp only[bG,ak];refine⟨cs,rfl,?_,nZ.1 h⟩;have:=aC.map (c:=c) vN id cs.toList (λx _=>H9 c x);simpa using this
 ·exact H9 c _
section
variable {X : Fx} {z : Z} {s : AS} {a : Act} {w w' : World} {E : List Pl} {pb : Nat → Option Nat}
theorem cR(h:St X z s a w E pb)(x:Operand):ak (ctx z w E pb) (ev X s x) (a.eval x):=by
 cases x with
 |tmp t=>
  simp only[ev,Act.eval];cases hL:X.L.contains t
  ·simp only[aV];by_cases ht:t<s.sl.length
   ·have hs:s.sl[t]? =some s.sl[t]:=by simp [ht]
    have e:s.sl.getD t .undef=s.sl[t]:=by simp [List.getD,ht]
    rw[e];refine(h.slot t _ hs).rep λcs k=>?_
    have:=h.box t cs (by rw[hs,k]);rw[hL]at this;cases this
   ·have e:s.sl.getD t .undef=.undef:=by simp [List.getD,Nat.le_of_not_lt ht]
    rw[e];simp [ak]
  ·simp [ak]
 |const v=>exact NQ _ v
 |global g=>simp [ev,ak]
 |func f=>simp only[ev,Act.eval,ak];exact⟨f,#[],rfl,by rw[h.nm];rfl,by simp [aC]⟩
theorem zU(h:St X z s a w E pb)(xs:List Operand):aC (ctx z w E pb) (xs.map (ev X s)) (xs.map a.eval):=aC.map _ _ xs λx _=>cR h x
end
section
variable {P : Program} {c : RC} (w : World)
theorem OX{t:TypeId}{d:TypeDesc}(h:P.underlying t=some d):∃i,P.info? t=some i:=by
 unfold Program.underlying at h;split at h
 ·rename_i u e;exact⟨_,by assumption⟩
 ·rename_i i e;exact⟨_,by assumption⟩
 ·cases h
theorem pV{t:TypeId}{i:TypeInfo}(h:P.info? t=some i):(typeInfo t).run P w=.ok i w:=by simp [typeInfo,h]
theorem Bm{t:TypeId}{i:TypeInfo}(h:P.info? t=some i):(sizeOf t).run P w=.ok (P.cellsOf t) w:=by simp [sizeOf,pV w h,Program.cellsOf,h]
theorem G0{t:TypeId}{d:TypeDesc}(h:P.underlying t=some d):(sizeOf t).run P w=.ok (P.cellsOf t) w:=by obtain⟨i,hi⟩:=OX h;exact Bm w hi
theorem Nh(X:Fx){t:TypeId}{d:TypeDesc}(h:X.P.underlying t=some d):(isAgg t).run X.P w=.ok (xw X t) w:=by unfold isAgg;simp only[Sem.run_bind,run_underlying h,Result.andThen_ok];unfold xw;rw[h];cases d<;>rfl
theorem GU{av x:AV}{v:Value}(h:A.cell av=some x)(r:ak c av v):x=av∧cD v=true:=by
 cases av<;>simp only[A.cell]at h<;>first|(cases h;done)|skip
 all_goals
  injection h with h
  refine⟨h.symm,?_⟩;simp only[ak]at r
 case int=>subst r;rfl
 case bool=>subst r;rfl
 case str=>subst r;rfl
 case fm=>obtain⟨_,rfl,_⟩:=r;rfl
 case sl=>obtain⟨_,_,rfl,_⟩:=r;rfl
 case aN=>subst r;rfl
 case ez=>obtain⟨_,rfl⟩:=r;rfl
 case rp=>obtain⟨_,_,rfl,_⟩:=r;rfl
 case np=>subst r;rfl
 case op=>obtain⟨_,_,_,rfl⟩:=r;rfl
 case oe=>obtain⟨_,_,_,_,_,rfl,_⟩:=r;rfl
 case os=>obtain⟨_,_,_,_,_,_,rfl,_⟩:=r;rfl
 case om=>obtain⟨_,_,_,rfl⟩:=r;rfl
 case nm=>subst r;rfl
 case fn=>obtain⟨_,_,rfl,_⟩:=r;rfl
 case tD=>subst r;rfl
theorem cells_one{v:Value}(h:cD v=true):v.cells=#[v]:=by cases v<;>first|rfl|(simp [cD]at h)
theorem zB(X:Fx){t:TypeId}{av:AV}{cs:List AV}{v:Value}(h:sE X t av=some cs)(r:ak c av v):
  aC c cs v.cells.toList∧(∀x∈v.cells.toList,cD x=true)∧v.cells.size=X.P.cellsOf t∧∃d,X.P.underlying t=some d:=by
 unfold sE at h;cases hd:X.P.underlying t with
 |none=>rw[hd]at h;cases h
 |some d=>
  rw[hd]at h;simp only at h;cases ha:xw X t
  ·rw[ha]at h;simp only[aV]at h;cases hc:(X.P.cellsOf t==1)
   ·rw[hc]at h;cases h
   ·rw[hc]at h;simp only[bG]at h;obtain⟨x,h1,h2⟩:=bg.1 h;injection h2 with h2
    obtain⟨e,h3⟩:=GU h1 r;subst h2;subst e;rw[cells_one h3];exact⟨by simpa using aC.single r,by simpa using h3,by simpa using(beq_iff_eq.1 hc).symm,d,rfl⟩
  ·rw[ha]at h;simp only[bG]at h;cases av<;>simp only[A.cells]at h<;>first|(cases h;done)|skip
   rename_i l;split at h
   ·injection h with h
    subst h;simp only[ak]at r;obtain⟨vs,rfl,r1,r2⟩:=r;refine⟨r1,r2,?_,d,rfl⟩;have:=r1.length;simp only[Value.cells];rw[←Array.length_toList,←this];assumption
   ·cases h
theorem lu(b o n:Nat):(⟨b,o,none⟩:Addr).add n=⟨b,o+n,none⟩:=by
 unfold Addr.add;split
 ·subst_vars;rfl
 ·rfl
theorem DZ(X:Fx)(hw:c.w=w){t:TypeId}{b off o:Nat}{cs:List AV}{av:AV}(r:aT c b off cs)(h:ug X t o cs=some av):
  ∃v,(loadVar t ⟨b,off+o,none⟩).run X.P w=.ok v w∧ak c av v:=by
 unfold ug at h;cases hd:X.P.underlying t with
 |none=>rw[hd]at h;cases h
 |some d=>
  rw[hd]at h;simp only at h;unfold loadVar;simp only[Sem.run_bind,Nh w X hd,Result.andThen_ok];cases ha:xw X t
  ·rw[ha]at h;simp only[aV,A.aB]at h;obtain⟨x,h1,h2⟩:=bg.1 h;obtain⟨v,k1,k2,k3⟩:=aT.nth r h1;obtain⟨e,_⟩:=GU h2 k3;subst e;refine⟨v,?_,k3⟩;rw[hw]at k1;simp [run_load,k1]
  ·rw[ha]at h;simp only[bG,A.aG]at h;split at h
   ·rename_i hle;injection h with h
    subst h;obtain⟨vs,k1,k2,k3⟩:=aT.FZ ((r.drop o).take (X.P.cellsOf t));have hl:vs.length=X.P.cellsOf t:=by rw[←k1.length];simp;omega
    refine⟨.agg vs.toArray,?_,by simp only[ak];exact⟨vs.toArray,rfl,by simpa using k1,by simpa using k2⟩⟩;have hrun:=run_loadCells_list (P:=X.P) w ⟨b,off+o,none⟩ vs (λj v hj=>by rw[lu];have:=k3 j v hj;rwa[hw]at this);rw[hl]at hrun;simp [G0 w hd,hrun]
   ·cases h
theorem WG(X:Fx){t:TypeId}{o:Nat}{cs:List AV}{av:AV}{vs:Array Value}(r:aC c cs vs.toList)(k:∀x∈vs.toList,cD x=true)(h:ug X t o cs=some av):
  ∃v,(part t vs o).run X.P w=.ok v w∧ak c av v:=by
 unfold ug at h;cases hd:X.P.underlying t with
 |none=>rw[hd]at h;cases h
 |some d=>
  rw[hd]at h;simp only at h;unfold part;simp only[Sem.run_bind,Nh w X hd,Result.andThen_ok];cases ha:xw X t
  ·rw[ha]at h;simp only[aV,A.aB]at h;obtain⟨x,h1,h2⟩:=bg.1 h;obtain⟨v,k1,k3⟩:=r.nth h1;obtain⟨e,_⟩:=GU h2 k3;subst e;refine⟨v,?_,k3⟩;have:vs[o]? =some v:=by rw[←Array.getElem?_toList];exact k1
   simp [this]
  ·rw[ha]at h;simp only[bG,A.aG]at h;split at h
   ·rename_i hle;injection h with h
    subst h;refine⟨.agg (vs.extract o (o+X.P.cellsOf t)),by simp [G0 w hd],?_⟩;simp only[ak];have e:(vs.extract o (o+X.P.cellsOf t)).toList=(vs.toList.drop o).take (X.P.cellsOf t):=by simp [Array.toList_extract,List.extract_eq_take_drop]
    refine⟨_,rfl,by rw[e];exact(r.drop o).take _,?_⟩;rw[e];exact λx hx=>k x (List.mem_of_mem_drop (uo hx))
   ·cases h
end
section
variable {P : Program} {c : RC} (w : World)
theorem B6(a b:ByteArray):(a==b)=(a.toList==b.toList):=beq_toListBytes a b
theorem Y8{t:TypeId}{x y av:AV}{v u:Value}(h:A.add x y=some av)(r:ak c x v)(q:ak c y u):∃k,(binOp .add t v u).run P w=.ok k w∧ak c av k:=by
 unfold A.add at h;split at h
 ·simp only[ak]at r q;subst r;subst q;split at h
  ·injection h with h;subst h;subst_vars
   exact⟨_,by simp [binOp,Op.intArith];rfl,by simp [ak]⟩
  ·cases h
 ·simp only[ak]at r q;subst r;subst q;split at h
  ·rename_i a b hs;injection h with h;subst h
   refine⟨.string (a++b),?_,by simp [ak]⟩;have:¬((a.size+b.size:Nat):Int)>IntKind.i64.max:=by rw[IntKind.max_i64];omega
   simp only[binOp,Op.stringOp,aI this];rfl
  ·cases h
 ·cases h
theorem zO{f:IntKind→Int→Int→Option AV}{op:BinOp}{t:TypeId}{x y av:AV}{v u:Value}
  (hf:∀k a b av,f k a b=some av→∃n,(binOp op t (.int k a) (.int k b)).run P w=.ok n w∧ak c av n)
  (h:(match x,y with|.int k a,.int k' b=>if k=k' then f k a b else none|_,_=>none)=some av) (r:ak c x v) (q:ak c y u):∃k,(binOp op t v u).run P w=.ok k w∧ak c av k:=by
 split at h
 ·simp only[ak]at r q;subst r;subst q;split at h
  ·subst_vars;exact hf _ _ _ _ h
  ·cases h
 ·cases h
theorem aac{t:TypeId}{x y av:AV}{v u:Value}(h:A.sub x y=some av)(r:ak c x v)(q:ak c y u):∃k,(binOp .sub t v u).run P w=.ok k w∧ak c av k:=
 zO w (f:=λk a b=>some (.int k (k.wrap (a-b)))) (λk a b av e=>by injection e with e;subst e;exact⟨_,by simp [binOp,Op.intArith];rfl,by simp [ak]⟩) h r q
theorem ZO{t:TypeId}{x y av:AV}{v u:Value}(h:A.mul x y=some av)(r:ak c x v)(q:ak c y u):∃k,(binOp .mul t v u).run P w=.ok k w∧ak c av k:=
 zO w (f:=λk a b=>some (.int k (k.wrap (a*b)))) (λk a b av e=>by injection e with e;subst e;exact⟨_,by simp [binOp,Op.intArith];rfl,by simp [ak]⟩) h r q
theorem ZL{t:TypeId}{x y av:AV}{v u:Value}(h:A.lss x y=some av)(r:ak c x v)(q:ak c y u):∃k,(binOp .lss t v u).run P w=.ok k w∧ak c av k:=by
 unfold A.lss at h;split at h
 ·exact zO w (x:=.int _ _) (y:=.int _ _) (f:=λk a b=>some (.bool (decide (a<b)))) (λk a b av e=>by injection e with e;subst e;exact⟨_,by simp [binOp,Op.intCmp];rfl,by simp [ak]⟩) h r q
 ·simp only[ak]at r q;subst r;subst q;injection h with h;subst h
  exact⟨.bool _,by simp only[binOp,Op.stringOp];rfl,by simp [ak]⟩
 ·cases h
theorem ZK{t:TypeId}{x y av:AV}{v u:Value}(h:A.leq x y=some av)(r:ak c x v)(q:ak c y u):∃k,(binOp .leq t v u).run P w=.ok k w∧ak c av k:=
 zO w (f:=λk a b=>some (.bool (decide (a≤b)))) (λk a b av e=>by injection e with e;subst e;exact⟨_,by simp [binOp,Op.intCmp];rfl,by simp [ak]⟩) h r q
theorem Zy{t:TypeId}{x y av:AV}{v u:Value}(h:A.gtr x y=some av)(r:ak c x v)(q:ak c y u):∃k,(binOp .gtr t v u).run P w=.ok k w∧ak c av k:=
 zO w (f:=λk a b=>some (.bool (decide (a>b)))) (λk a b av e=>by injection e with e;subst e;exact⟨.bool (decide (a>b)),by simp [binOp,Op.intCmp],by simp [ak]⟩) h r q
theorem Zx{t:TypeId}{x y av:AV}{v u:Value}(h:A.geq x y=some av)(r:ak c x v)(q:ak c y u):∃k,(binOp .geq t v u).run P w=.ok k w∧ak c av k:=
 zO w (f:=λk a b=>some (.bool (decide (a≥b)))) (λk a b av e=>by injection e with e;subst e;exact⟨.bool (decide (a≥b)),by simp [binOp,Op.intCmp],by simp [ak]⟩) h r q
theorem ZZ{t:TypeId}{x y av:AV}{v u:Value}(h:A.quo x y=some av)(r:ak c x v)(q:ak c y u):∃k,(binOp .quo t v u).run P w=.ok k w∧ak c av k:=by
 unfold A.quo at h;split at h
 ·simp only[ak]at r q;subst r;subst q;split at h
  ·rename_i hk;obtain⟨rfl,hb⟩:=hk;injection h with h;subst h
   exact⟨_,by simp [binOp,Op.intDiv,hb];rfl,by simp [ak]⟩
  ·cases h
 ·cases h
theorem Z0{t:TypeId}{x y av:AV}{v u:Value}(h:A.rem x y=some av)(r:ak c x v)(q:ak c y u):∃k,(binOp .rem t v u).run P w=.ok k w∧ak c av k:=by
 unfold A.rem at h;split at h
 ·simp only[ak]at r q;subst r;subst q;split at h
  ·rename_i hk;obtain⟨rfl,hb⟩:=hk;injection h with h;subst h
   exact⟨_,by simp [binOp,Op.intDiv,hb];rfl,by simp [ak]⟩
  ·cases h
 ·cases h
theorem Z6{t:TypeId}{x y av:AV}{v u:Value}(h:A.shl x y=some av)(r:ak c x v)(q:ak c y u):∃k,(binOp .shl t v u).run P w=.ok k w∧ak c av k:=by
 unfold A.shl at h;split at h
 ·simp only[ak]at r q;subst r;subst q;split at h
  ·cases h
  ·rename_i hb;injection h with h;subst h
   exact⟨_,by simp only[binOp,Op.shift,aI hb];rfl,by simp [ak]⟩
 ·cases h
theorem Z7{t:TypeId}{x y av:AV}{v u:Value}(h:A.shr x y=some av)(r:ak c x v)(q:ak c y u):∃k,(binOp .shr t v u).run P w=.ok k w∧ak c av k:=by
 unfold A.shr at h;split at h
 ·simp only[ak]at r q;subst r;subst q;split at h
  ·cases h
  ·rename_i hb;injection h with h;subst h
   exact⟨_,by simp only[binOp,Op.shift,aI hb];rfl,by simp [ak]⟩
 ·cases h
theorem MG:∀{k1 k2:List Nat}{xs ys:List AV}{b:Bool},A.dS (k1++k2) xs ys=some b→∃p q,A.dS k1 (xs.take k1.length) (ys.take k1.length)=some p∧A.dS k2 (xs.drop k1.length) (ys.drop k1.length)=some q∧b=(p&&q)
 |[],k2,xs,ys,b,h=>⟨true,b,by simp [A.dS],by simpa using h,by simp⟩
 |k::k1,k2,[],[],b,h=>by simp [A.dS]at h
 |k::k1,k2,[],_::_,b,h=>by simp [A.dS]at h
 |k::k1,k2,_::_,[],b,h=>by simp [A.dS]at h
 |k::k1,k2,x::xs,y::ys,b,h=>by simp only[l6,A.dS]at h;obtain⟨p,h1,h2⟩:=bg.1 h;obtain⟨q,h3,h4⟩:=cL.1 h2;obtain⟨p',q',k1',k2',k3'⟩:=MG h3;exact⟨p&&p',q',by simp [A.dS,h1,k1'],by simpa using k2',by rw[←h4,k3',Bool.and_assoc]⟩
def j0(P:Program)(t:TypeId)(vs:List Value):Value:=match P.underlying t with
 |some (.struct _)=>.agg vs.toArray
 |_=>vs.headD undef
theorem GF{t:TypeId}{d:Nat}(hk:gV P (d+1) t=true){vs:Array Value}{off:Nat}(h:off+P.cellsOf t≤vs.size):
  (part t vs off).run P w=.ok (j0 P t ((vs.toList.drop off).take (P.cellsOf t))) w:=by
 unfold gV at hk
 have scalar:∀de,P.underlying t=some de→(∀fs,de≠.struct fs)→(∀n e,de≠.array n e)→P.cellsOf t=1→(part t vs off).run P w=.ok (j0 P t ((vs.toList.drop off).take (P.cellsOf t))) w:=by
  intro de hd h1 h2 h3
  have ha:(isAgg t).run P w=.ok false w:=by unfold isAgg;simp only[Sem.run_bind,run_underlying hd,Result.andThen_ok];cases de<;>first|rfl|exact absurd rfl (h1 _)|exact absurd rfl (h2 _ _)
  have e:j0 P t ((vs.toList.drop off).take (P.cellsOf t))=vs[off]'(by omega):=by
   unfold j0;rw[hd]
   have:(vs.toList.drop off).take (P.cellsOf t)=[vs[off]'(by omega)]:=by
    have hlt:off<vs.toList.length:=by rw[Array.length_toList];omega
    rw[h3,List.drop_eq_getElem_cons hlt];simp
   rw[this];cases de<;>first|rfl|exact absurd rfl (h1 _)
  rw[e];unfold part;simp [ha,qS (show off<vs.size by omega)]
 cases hd:P.underlying t with
 |none=>rw[hd]at hk;cases hk
 |some de=>
  rw[hd]at hk;cases de<;>simp only at hk<;>first|(cases hk;done)|skip
  case bool=>exact scalar _ hd (by intro _ e;cases e) (by intro _ _ e;cases e) (by simpa using hk)
  case int=>exact scalar _ hd (by intro _ e;cases e) (by intro _ _ e;cases e) (by simpa using hk)
  case string=>exact scalar _ hd (by intro _ e;cases e) (by intro _ _ e;cases e) (by simpa using hk)
  case struct fs=>
   have ha:(isAgg t).run P w=.ok true w:=by unfold isAgg;simp only[Sem.run_bind,run_underlying hd,Result.andThen_ok];rfl
   unfold part;simp only[Sem.run_bind,ha,Result.andThen_ok,if_true,G0 w hd,Sem.run_pure];congr 1;simp only[j0,hd];congr 1;apply jv.1;simp [Array.toList_extract,List.extract_eq_take_drop]
theorem Nx:∀{ks:List Nat}{xs ys:List AV}{b:Bool},A.dS ks xs ys=some b→xs.length=ks.length∧ys.length=ks.length
 |[],[],[],_,_=>⟨rfl,rfl⟩
 |[],[],_::_,_,h=>by simp [A.dS]at h
 |[],_::_,_,_,h=>by simp [A.dS]at h
 |_::_,[],_,_,h=>by simp [A.dS]at h
 |_::_,_::_,[],_,h=>by simp [A.dS]at h
 |k::ks,x::xs,y::ys,b,h=>by simp only[A.dS]at h;obtain⟨p,h1,h2⟩:=bg.1 h;obtain⟨q,h3,h4⟩:=cL.1 h2;have:=Nx h3;simp [this]
theorem Ef{d:Nat}(ih:∀t,gV P d t=true→(kinds P d t).length=P.cellsOf t):∀(fs:List Field)(off tot:Nat),sZ (gV P d) P.cellsOf fs off=some tot→off+(fs.flatMap λf=>kinds P d f.type).length=tot
 |[],off,tot,h=>by simpa [sZ]using h
 |f::fs,off,tot,h=>by
  simp only[sZ]at h;cases hc : (f.name != "_" && f.offset == off && gV P d f.type)
  ·rw[hc]at h;cases h
  ·rw[hc]at h;simp only[bG]at h;simp only[eH]at hc;have:=Ef ih fs _ _ h;have:=ih _ hc.2;simp only[List.flatMap_cons,List.length_append];omega
theorem zG:∀(d:Nat)(t:TypeId),gV P d t=true→(kinds P d t).length=P.cellsOf t
 |0,t,h=>by simp [gV]at h
 |d+1,t,h=>by
  unfold gV at h;unfold kinds;cases hd:P.underlying t with
  |none=>rw[hd]at h;cases h
  |some de=>
   rw[hd]at h;cases de<;>simp only at h<;>first|(cases h;done)|skip
   case bool=>simpa using(beq_iff_eq.1 h).symm
   case int=>simpa using(beq_iff_eq.1 h).symm
   case string=>simpa using(beq_iff_eq.1 h).symm
   case struct fs=>
    simp only[eH,beq_iff_eq]at h;have:=Ef (λt=>zG d t) fs.toList 0 _ h.2;simpa using this
theorem Ou{d D:Nat}(ih:∀(t:TypeId) (xs ys:List AV) (vs us:List Value) (b:Bool),gV P d t=true→A.dS (kinds P d t) xs ys=some b→aC c xs vs→aC c ys us→vs.length=P.cellsOf t→us.length=P.cellsOf t→
   (Op.equalIn D t (j0 P t vs) (j0 P t us)).run P w=.ok b w):
  ∀(fs:List Field)(off tot:Nat)(xs ys:List AV)(vs us:Array Value)(b:Bool),sZ (gV P d) P.cellsOf fs off=some tot→tot=vs.size→tot=us.size→A.dS (fs.flatMap λf=>kinds P d f.type) (xs.drop off) (ys.drop off)=some b→aC c xs vs.toList→aC c ys us.toList→
   (Op.eqFields D vs us fs).run P w=.ok b w
 |[],off,tot,xs,ys,vs,us,b,h,h1,h2,h3,h4,h5=>by
  simp only[sZ]at h;injection h with h
  have l1:=h4.length;have:xs.drop off=[]:=List.drop_eq_nil_of_le (by rw[l1];simp;omega);rw[this]at h3;have l2:=h5.length;have:ys.drop off=[]:=List.drop_eq_nil_of_le (by rw[l2];simp;omega);rw[this]at h3;simp only[List.flatMap_nil,A.dS]at h3;injection h3 with h3
  subst h3;simp [Op.eqFields]
 |f::fs,off,tot,xs,ys,vs,us,b,h,h1,h2,h3,h4,h5=>by
  simp only[sZ]at h;cases hc : (f.name != "_" && f.offset == off && gV P d f.type)
  ·rw[hc]at h;cases h
  ·rw[hc]at h;simp only[bG]at h;simp only[eH,bne_iff_ne,beq_iff_eq]at hc;obtain⟨⟨hn,ho⟩,hk⟩:=hc;have hle:=Ef (λt=>zG d t) fs _ _ h;have iu:=zG d f.type hk;rw[List.flatMap_cons]at h3;obtain⟨p,q,k1,k2,k3⟩:=MG h3;rw[iu]at k1 k2;rw[nW,nW]at k2
   obtain⟨d',rfl⟩:∃d',d=d'+1:=by
    cases d with
    |zero=>simp [gV]at hk
    |succ d'=>exact⟨d',rfl⟩
   have r1:=GF w hk (vs:=vs) (off:=off) (by omega);have r2:=GF w hk (vs:=us) (off:=off) (by omega);have e1:=ih f.type _ _ _ _ p hk k1 ((h4.drop off).take _) ((h5.drop off).take _) (by simp;omega) (by simp;omega);have ihf:=Ou ih fs (off+P.cellsOf f.type) tot xs ys vs us q h h1 h2 k2 h4 h5;simp only[Op.eqFields,Sem.run_ite,aK hn];simp only[Sem.run_bind,ho,r1,r2,Result.andThen_ok,e1];cases p
   ·simp [k3]
   ·simp only[Bool.not_true,Bool.false_eq_true,if_false,ihf,k3,Bool.true_and]
theorem Ov:∀(d D:Nat)(hD:d≤D)(t:TypeId)(xs ys:List AV)(vs us:List Value)(b:Bool),gV P d t=true→A.dS (kinds P d t) xs ys=some b→aC c xs vs→aC c ys us→vs.length=P.cellsOf t→us.length=P.cellsOf t→
   (Op.equalIn D t (j0 P t vs) (j0 P t us)).run P w=.ok b w
 |0,_,_,t,xs,ys,vs,us,b,hk,_,_,_,_,_=>by simp [gV]at hk
 |d+1,0,hD,_,_,_,_,_,_,_,_,_,_,_,_=>by omega
 |d+1,D+1,hD,t,xs,ys,vs,us,b,hk,h,r,q,l1,l2=>by
  unfold gV at hk;unfold kinds at h;cases hd:P.underlying t with
  |none=>rw[hd]at hk;cases hk
  |some de=>
   rw[hd]at hk h
   have scalar:∀k,A.dS [k] xs ys=some b→P.cellsOf t=1→∃x y v u,xs=[x]∧ys=[y]∧vs=[v]∧us=[u]∧A.kE k x y=some b∧ak c x v∧ak c y u:=by intro k h h1;rw[h1]at l1 l2;have m1:=r.length;have m2:=q.length;obtain⟨x,rfl⟩:=qR.1 (m1.trans l1);obtain⟨y,rfl⟩:=qR.1 (m2.trans l2);obtain⟨v,rfl⟩:=qR.1 l1;obtain⟨u,rfl⟩:=qR.1 l2;simp only[A.dS]at h;obtain⟨p,h2,h3⟩:=bg.1 h;simp at h3;subst h3;obtain⟨v',k1,k2⟩:=r.nth (i:=0) (a:=x) rfl;obtain⟨u',k3,k4⟩:=q.nth (i:=0) (a:=y) rfl;simp at k1 k3;subst k1;subst k3;exact⟨x,y,v,u,rfl,rfl,rfl,rfl,h2,k2,k4⟩
   cases de<;>simp only at hk h<;>first|(cases hk;done)|skip
   case bool=>
    obtain⟨x,y,v,u,rfl,rfl,rfl,rfl,e,r1,q1⟩:=scalar _ h (by simpa using hk);simp only[j0,hd,List.headD_cons];simp only[A.kE,A.rA]at e;split at e
    ·simp only[ak]at r1 q1;injection e with e;subst_vars
     exact run_equalIn_bool' w D t _ _ hd
    ·cases e
   case int kk=>
    obtain⟨x,y,v,u,rfl,rfl,rfl,rfl,e,r1,q1⟩:=scalar _ h (by simpa using hk);simp only[j0,hd,List.headD_cons];simp only[A.kE,A.kU]at e;split at e
    ·simp only[ak]at r1 q1;split at e
     ·injection e with e;subst_vars
      exact run_equalIn_int w D t _ kk _ _ hd
     ·cases e
    ·cases e
   case string=>
    obtain⟨x,y,v,u,rfl,rfl,rfl,rfl,e,r1,q1⟩:=scalar _ h (by simpa using hk);simp only[j0,hd,List.headD_cons];simp only[A.kE,A.mS]at e;split at e
    ·simp only[ak]at r1 q1;injection e with e;subst_vars
     rw[B6];exact run_equalIn_string w D t _ _ hd
    ·cases e
   case struct fs=>
    simp only[eH,Bool.not_eq_true',beq_iff_eq]at hk;have hf:P.fieldsOf t=fs:=by simp [Program.fieldsOf,hd]
    simp only[j0,hd];rw[run_equalIn_struct w D t _ _ (by rw[hf];exact hd) hk.1,hf];exact Ou w (λt xs ys vs us b=>Ov d D (by omega) t xs ys vs us b) fs.toList 0 _ xs ys vs.toArray us.toArray b hk.2 (by simp [l1]) (by simp [l2]) (by simpa using h) (by simpa using r) (by simpa using q)
theorem BJ{el:TypeId}(d:Nat)(t:TypeId)(p:Option Addr)(h:P.underlying t=some (.pointer el)):(Op.equalIn (d+1) t (.pointer none) (.pointer p)).run P w=.ok p.isNone w:=by simp [Op.equalIn,run_underlying h]
theorem BK{el:TypeId}(d:Nat)(t:TypeId)(p:Addr)(h:P.underlying t=some (.pointer el)):(Op.equalIn (d+1) t (.pointer (some p)) (.pointer none)).run P w=.ok false w:=by simp [Op.equalIn,run_underlying h]
theorem IV(X:Fx){t:TypeId}{e:A.EK}{x y:AV}{b:Bool}{v u:Value}(ht:jj X t=some e)(h:A.dD e x y=some b)(r:ak c x v)(q:ak c y u):
  (Op.equal t v u).run X.P w=.ok b w∧((∃xs ys,v=.agg xs∧u=.agg ys∧X.P.eqGuardType X.P.depth t=false)∨(∃k m n,v=.int k m∧u=.int k n∧b=(m==n))∨(∃m n,v=.string m∧u=.string n∧b=(m==n))∨(∃m n,v=.bool m∧u=.bool n∧b=(m==n))∨∃m n,v=.pointer m∧u=.pointer n):=by
 unfold jj at ht;cases hd:X.P.underlying t with
 |none=>rw[hd]at ht;cases ht
 |some de=>
  rw[hd]at ht;cases de<;>simp only at ht<;>first|(cases ht;done)|skip
  case bool=>
   injection ht with ht;subst ht
   simp only[A.dD,A.rA]at h;split at h
   ·simp only[ak]at r q;injection h with h;subst_vars
    exact⟨run_equalIn_bool' w _ t _ _ hd,.inr (.inr (.inr (.inl ⟨_,_,rfl,rfl,rfl⟩)))⟩
   ·cases h
  case int kk=>
   injection ht with ht;subst ht
   simp only[A.dD,A.kU]at h;split at h
   ·simp only[ak]at r q;split at h
    ·injection h with h;subst_vars
     exact⟨run_equalIn_int w _ t _ kk _ _ hd,.inr (.inl ⟨_,_,_,rfl,rfl,rfl⟩)⟩
    ·cases h
   ·cases h
  case string=>
   injection ht with ht;subst ht
   simp only[A.dD,A.mS]at h;split at h
   ·simp only[ak]at r q;injection h with h;subst_vars
    refine⟨?_,.inr (.inr (.inl ⟨_,_,rfl,rfl,rfl⟩))⟩;rw[B6];exact run_equalIn_string w _ t _ _ hd
   ·cases h
  case pointer el=>
   cases hc:(X.P.cellsOf el !=0)
   ·rw[hc]at ht;cases ht
   ·rw[hc]at ht;injection ht with ht;subst ht
    simp only[A.dD,A.KL]at h;split at h<;>first|(cases h;done)|skip
    all_goals
     simp only[ak]at r q;injection h with h;subst h
    ·subst r;subst q;exact⟨by first|exact BJ w 9999 t _ hd|exact BK w 9999 t _ hd,.inr (.inr (.inr (.inr ⟨_,_,rfl,rfl⟩)))⟩
    ·subst r;obtain⟨b,off,rfl,_⟩:=q;exact⟨by first|exact BJ w 9999 t _ hd|exact BK w 9999 t _ hd,.inr (.inr (.inr (.inr ⟨_,_,rfl,rfl⟩)))⟩
    ·subst r;obtain⟨p,_,_,rfl⟩:=q;exact⟨by first|exact BJ w 9999 t _ hd|exact BK w 9999 t _ hd,.inr (.inr (.inr (.inr ⟨_,_,rfl,rfl⟩)))⟩
    ·subst q;obtain⟨b,off,rfl,_⟩:=r;exact⟨by first|exact BJ w 9999 t _ hd|exact BK w 9999 t _ hd,.inr (.inr (.inr (.inr ⟨_,_,rfl,rfl⟩)))⟩
    ·subst q;obtain⟨p,_,_,rfl⟩:=r;exact⟨by first|exact BJ w 9999 t _ hd|exact BK w 9999 t _ hd,.inr (.inr (.inr (.inr ⟨_,_,rfl,rfl⟩)))⟩
  case struct fs=>
   cases hc:(gV X.P 9 t&&!X.P.eqGuardType X.P.depth t)
   ·rw[hc]at ht;cases ht
   ·rw[hc]at ht;injection ht with ht;subst ht
    simp only[eH,Bool.not_eq_true']at hc;simp only[A.dD]at h;split at h
    ·simp only[ak]at r q;obtain⟨vs,rfl,r1,_⟩:=r;obtain⟨us,rfl,q1,_⟩:=q;have hl:=Nx h;rw[zG 9 t hc.1]at hl;have e:=Ov w 9 Op.maxDepth (by decide) t _ _ _ _ b hc.1 h r1 q1 (by rw[←r1.length];exact hl.1) (by rw[←q1.length];exact hl.2);simp only[j0,hd,Array.toArray_toList]at e;exact⟨e,.inl ⟨_,_,rfl,rfl,hc.2⟩⟩
    ·cases h
theorem Zm(X:Fx){t:TypeId}{ox oy:Operand}{e:A.EK}{x y av:AV}{v u:Value}(ht:jj X t=some e)(h:A.eql e x y=some av)(r:ak c x v)(q:ak c y u):
  ∃k,(do eqGuard .eql t ox oy v u;binOp .eql t v u:Sem Value).run X.P w=.ok k w∧ak c av k:=by
 obtain⟨b,h1,h2⟩:=cL.1 h;subst h2;obtain⟨h3,h4⟩:=IV w X ht h1 r q;refine⟨.bool b,?_,by simp [ak]⟩;rcases h4 with⟨xs,ys,rfl,rfl,hg⟩|⟨k,m,n,rfl,rfl,rfl⟩|⟨m,n,rfl,rfl,rfl⟩|⟨m,n,rfl,rfl,hb⟩|⟨m,n,rfl,rfl⟩
 ·simp only[Sem.run_bind,run_eqGuard_agg w .eql t ox oy xs ys hg,Result.andThen_ok];simp [binOp,h3]
 ·simp [eqGuard_at_int,binOp_eql]
 ·rw[B6];simp [eqGuard_at_string,binOp,Op.stringOp]
 ·simp only[eqGuard_at_bool,Sem.run_bind,Sem.run_pure,Result.andThen_ok];simp [binOp,h3]
 ·simp only[eqGuard_at_pointer,Sem.run_bind,Sem.run_pure,Result.andThen_ok];simp [binOp,h3]
theorem ZQ(X:Fx){t:TypeId}{ox oy:Operand}{e:A.EK}{x y av:AV}{v u:Value}(ht:jj X t=some e)(h:A.neq e x y=some av)(r:ak c x v)(q:ak c y u):
  ∃k,(do eqGuard .neq t ox oy v u;binOp .neq t v u:Sem Value).run X.P w=.ok k w∧ak c av k:=by
 obtain⟨b,h1,h2⟩:=cL.1 h;subst h2;obtain⟨h3,h4⟩:=IV w X ht h1 r q;refine⟨.bool (!b),?_,by simp [ak]⟩;rcases h4 with⟨xs,ys,rfl,rfl,hg⟩|⟨k,m,n,rfl,rfl,rfl⟩|⟨m,n,rfl,rfl,rfl⟩|⟨m,n,rfl,rfl,hb⟩|⟨m,n,rfl,rfl⟩
 ·simp only[Sem.run_bind,run_eqGuard_agg w .neq t ox oy xs ys hg,Result.andThen_ok];simp [binOp,h3]
 ·simp [eqGuard_at_int,binOp_neq];rfl
 ·rw[B6];simp [eqGuard_at_string,binOp,Op.stringOp]
 ·simp only[eqGuard_at_bool,Sem.run_bind,Sem.run_pure,Result.andThen_ok];simp [binOp,h3]
 ·simp only[eqGuard_at_pointer,Sem.run_bind,Sem.run_pure,Result.andThen_ok];simp [binOp,h3]
theorem Qz{P:Program}{el:TypeId}(d:Nat)(t:TypeId)(a:Option Addr)(n m:Nat)(h:P.underlying t=some (.slice el)):(Op.equalIn (d+1) t (.slice a n m) (.slice none 0 0)).run P w=.ok a.isNone w:=by cases a<;>simp [Op.equalIn,run_underlying h]
theorem Pt{P:Program}{t e:TypeId}{x y:AV}{b:Bool}{v u:Value}(ht:P.underlying t=some (.slice e))(h:A.FU x y=some b)(r:ak c x v)(q:ak c y u):
  ∃a n m,v=.slice a n m∧u=.slice none 0 0∧(Op.equal t v u).run P w=.ok b w:=by
 cases y<;>simp only[A.FU]at h<;>first|(cases h;done)|skip
 simp only[ak]at q;subst q
 have hs:∃a n m,v=.slice a n m∧b=a.isNone:=by
  split at h<;>first|(cases h;done)|skip
  all_goals injection h with h;subst h;simp only[ak]at r
  ·exact⟨none,0,0,r,rfl⟩
  ·obtain⟨a,cap,e1,_,_,k|⟨b,off,rfl,_⟩⟩:=r
   ·cases k
   ·exact⟨_,_,_,e1,rfl⟩
  ·obtain⟨_,p,_,_,a,cap,rfl,_⟩:=r;exact⟨_,_,_,rfl,rfl⟩
 obtain⟨a,n,m,rfl,rfl⟩:=hs;exact⟨a,n,m,rfl,rfl,Qz w 9999 t a n m ht⟩
theorem Za(X:Fx){op:BinOp}{t:TypeId}{ox oy:Operand}{x y av:AV}{v u:Value}(h:JQ X op t x y=some av)(r:ak c x v)(q:ak c y u):
  ∃k,(do eqGuard op t ox oy v u;binOp op t v u:Sem Value).run X.P w=.ok k w∧ak c av k:=by
 cases op<;>simp only[JQ]at h<;>first|(cases h;done)|skip
 case add=>obtain⟨k,h1,h2⟩:=Y8 (P:=X.P) (t:=t) w h r q;exact⟨k,by simp [eqGuard_add,h1],h2⟩
 case sub=>obtain⟨k,h1,h2⟩:=aac (P:=X.P) (t:=t) w h r q;exact⟨k,by simp [eqGuard_sub,h1],h2⟩
 case mul=>obtain⟨k,h1,h2⟩:=ZO (P:=X.P) (t:=t) w h r q;exact⟨k,by simp [eqGuard_mul,h1],h2⟩
 case quo=>obtain⟨k,h1,h2⟩:=ZZ (P:=X.P) (t:=t) w h r q;exact⟨k,by simp [eqGuard_quo,h1],h2⟩
 case rem=>obtain⟨k,h1,h2⟩:=Z0 (P:=X.P) (t:=t) w h r q;exact⟨k,by simp [eqGuard_rem,h1],h2⟩
 case lss=>obtain⟨k,h1,h2⟩:=ZL (P:=X.P) (t:=t) w h r q;exact⟨k,by simp [eqGuard_lss,h1],h2⟩
 case leq=>obtain⟨k,h1,h2⟩:=ZK (P:=X.P) (t:=t) w h r q;exact⟨k,by simp [eqGuard_leq,h1],h2⟩
 case gtr=>obtain⟨k,h1,h2⟩:=Zy (P:=X.P) (t:=t) w h r q;exact⟨k,by simp [eqGuard_gtr,h1],h2⟩
 case geq=>obtain⟨k,h1,h2⟩:=Zx (P:=X.P) (t:=t) w h r q;exact⟨k,by simp [eqGuard_geq,h1],h2⟩
 case shl=>obtain⟨k,h1,h2⟩:=Z6 (P:=X.P) (t:=t) w h r q;exact⟨k,by simp [eqGuard_shl,h1],h2⟩
 case shr=>obtain⟨k,h1,h2⟩:=Z7 (P:=X.P) (t:=t) w h r q;exact⟨k,by simp [eqGuard_shr,h1],h2⟩
 case eql=>
  cases he:jj X t with
  |none=>
   rw[he]at h;simp only at h;split at h
   ·rename_i e ht;obtain⟨b,h1,rfl⟩:=cL.1 h;obtain⟨a,n,m,rfl,rfl,k2⟩:=Pt (P:=X.P) w ht h1 r q;exact⟨.bool b,by simp [eqGuard,binOp,k2],by simp [ak]⟩
   ·cases h
  |some e=>rw[he]at h;exact Zm w X he h r q
 case neq=>
  cases he:jj X t with
  |none=>
   rw[he]at h;simp only at h;split at h
   ·rename_i e ht;obtain⟨b,h1,rfl⟩:=cL.1 h;obtain⟨a,n,m,rfl,rfl,k2⟩:=Pt (P:=X.P) w ht h1 r q;exact⟨.bool (!b),by simp [eqGuard,binOp,k2],by simp [ak]⟩
   ·cases h
  |some e=>rw[he]at h;exact ZQ w X he h r q
theorem BQ{n j:Nat}{i:AV}{v:Value}(h:A.idx n i=some j)(r:ak c i v):∃k,v=.int k (j:Int)∧j<n:=by
 unfold A.idx at h;split at h
 ·simp only[ak]at r;split at h
  ·rename_i k m hm;injection h with h
   subst r;exact⟨_,by rw[←h];congr 1;omega,by omega⟩
  ·cases h
 ·cases h
def lI(c:RC):Option AV→Option Value→Prop
 |none,none=>True
 |some x,some v=>ak c x v
 |_,_=>False
theorem zD{y d j:Nat}{x:Option AV}{v:Option Value}{code:BoundsCode}(h:A.bound y d x=some j)(r:lI c x v):
  (x=none∧v=none∧j=d)∨∃a u,x=some a∧v=some u∧(Instr.sliceBound u y code).run P w=.ok j w∧j≤y:=by
 cases x with
 |none=>cases v with
  |none=>simp only[A.bound]at h;injection h with h;exact .inl ⟨rfl,rfl,h.symm⟩
  |some u=>exact r.elim
 |some a=>cases v with
  |none=>exact r.elim
  |some u=>
   simp only[lI]at r;cases a<;>simp only[A.bound]at h<;>first|(cases h;done)|skip
   rename_i k m;split at h
   ·rename_i hm;injection h with h
    simp only[ak]at r;subst r;refine .inr ⟨_,_,rfl,rfl,?_,by omega⟩;simp [Instr.sliceBound,asIntOf,hm,h]
   ·cases h
theorem Bb{yI:Bool}{y len cap l h:Nat}{lo hi:Option AV}{vl vh:Option Value}(hc:len≤cap)(hy:y≤cap)(hh:A.bound y len hi=some h)(hl:A.bound h 0 lo=some l)
  (rh:lI c hi vh) (rl:lI c lo vl):
  (Instr.sliceBounds yI len cap vl vh none).run P w=.ok (l,h,cap) w∧l≤h∧(h≤y∨h≤len):=by
 have big:∀{u:Value}{code:BoundsCode},(Instr.sliceBound u y code).run P w=.ok h w→(Instr.sliceBound u cap code).run P w=.ok h w:=by
  intro u code e;unfold Instr.sliceBound at e ⊢;simp only[Sem.run_bind]at e ⊢;generalize (asIntOf u).run P w=r at *
  cases r with
  |halt x w'=>simp at e
  |ok p w'=>
   obtain⟨k,i⟩:=p;simp only[Result.andThen_ok,Sem.run_ite]at e ⊢;split at e
   ·rename_i hi;rw[aK ⟨hi.1,by omega⟩];exact e
   ·simp only[boundsPanic,Sem.run_bind]at e;exfalso;revert e;split
    ·simp [runtimePanic,goPanic];split<;>simp [runtimePanic,goPanic]
    ·simp [runtimePanic,goPanic]
 rcases zD (P:=P) (code:=if yI then .sliceAcap else .sliceAlen) w hh rh with⟨rfl,rfl,rfl⟩|⟨x,u,rfl,rfl,e1,e2⟩
 ·rcases zD (P:=P) (code:=.sliceB) w hl rl with⟨rfl,rfl,rfl⟩|⟨y,q,rfl,rfl,e3,e4⟩
  ·exact⟨by simp [Instr.sliceBounds],gU _,.inr (ay _)⟩
  ·exact⟨by simp [Instr.sliceBounds,e3],e4,.inr (ay _)⟩
 ·rcases zD (P:=P) (code:=.sliceB) w hl rl with⟨rfl,rfl,rfl⟩|⟨y,q,rfl,rfl,e3,e4⟩
  ·exact⟨by simp [Instr.sliceBounds,big e1],gU _,.inl e2⟩
  ·exact⟨by simp [Instr.sliceBounds,big e1,e3],e4,.inl e2⟩
theorem Yb{y y' d d' j:Nat}{x:AV}(h:A.bound y d (some x)=some j)(hy:y≤y'):A.bound y' d' (some x)=some j:=by
 cases x<;>simp only[A.bound]at h ⊢<;>first|(cases h;done)|skip
 split at h
 ·rename_i hm;rw[aK ⟨hm.1,by omega⟩];exact h
 ·cases h
theorem WS{t e:TypeId}{i:TypeInfo}{x hi mx av:AV}{lo:Option AV}{v vh vm:Value}{vl:Option Value}(ht:P.underlying t=some (.slice e))(hi':P.info? e=some i)
  (h:A.slice3 x lo hi mx=some av) (r:ak c x v) (rl:lI c lo vl) (rh:ak c hi vh) (rm:ak c mx vm):∃k,(Instr.slice t v vl (some vh) (some vm)).run P w=.ok k w∧ak c av k:=by
 have hsz:(sizeOf e).run P w=.ok i.size w:=by simp [sizeOf,pV w hi']
 unfold A.slice3 at h;obtain⟨n,h0,h⟩:=bg.1 h
 have hv:∃a len cap,v=.slice a len cap∧len≤cap∧n=.int .i64 (len:Nat):=by
  cases x<;>simp only[A.br]at h0<;>first|(cases h0;done)|skip
  all_goals injection h0 with h0;subst h0;simp only[ak]at r
  case sl=>obtain⟨a,cap,rfl,hc,_⟩:=r;exact⟨a,_,cap,rfl,hc,rfl⟩
  case aN=>subst r;exact⟨none,0,0,rfl,ay _,rfl⟩
  case ez=>obtain⟨a,rfl⟩:=r;exact⟨a,0,0,rfl,ay _,rfl⟩
  case os=>obtain⟨_,p,_,_,a,cap,rfl,hc,_⟩:=r;exact⟨some a,_,cap,rfl,hc,rfl⟩
 obtain⟨a,len,cap,rfl,hc,rfl⟩:=hv;simp only[Int.toNat_natCast]at h;obtain⟨m,h1,h⟩:=bg.1 h;obtain⟨h',h2,h⟩:=bg.1 h;obtain⟨l,h3,rfl⟩:=cL.1 h;rcases zD (P:=P) (code:=.slice3Acap) w (Yb (d':=0) h1 hc) (show lI c (some mx) (some vm)from rm)with⟨k,_⟩|⟨_,u,_,q1,e1,_⟩
 ·cases k
 injection q1 with q1;subst q1
 rcases zD (P:=P) (code:=.slice3B) w h2 (show lI c (some hi) (some vh)from rh)with⟨k,_⟩|⟨_,u,_,q2,e2,hle⟩
 ·cases k
 injection q2 with q2;subst q2
 rcases zD (P:=P) (code:=.slice3C) w h3 rl with⟨rfl,rfl,rfl⟩|⟨y,q,rfl,rfl,e3,e4⟩
 ·refine⟨_,by simp [Instr.slice,run_underlying ht,Instr.sliceBounds,e1,e2,hsz];rfl,?_⟩;by_cases hm:m=0
  ·subst hm;have:h'=0:=by omega
   subst this;simp [ak]
  ·rw[aI hm];simp [ak]
 ·refine⟨_,by simp [Instr.slice,run_underlying ht,Instr.sliceBounds,e1,e2,e3,hsz];rfl,?_⟩;by_cases hm:m=0
  ·subst hm;have:h'=0:=by omega
   subst this;have:l=0:=by omega
   subst this;simp [ak]
  ·rw[aI hm];simp [ak]
theorem WU{t:TypeId}{x av:AV}{lo hi:Option AV}{v:Value}{vl vh:Option Value}(ht:P.underlying t=some .string)
  (h:A.Jq x lo hi=some av) (r:ak c x v) (rl:lI c lo vl) (rh:lI c hi vh):∃k,(Instr.slice t v vl vh none).run P w=.ok k w∧ak c av k:=by
 cases x<;>simp only[A.Jq]at h<;>first|(cases h;done)|skip
 rename_i s;obtain⟨h',h1,h2⟩:=bg.1 h;obtain⟨l,h3,h4⟩:=cL.1 h2;simp only[ak]at r;subst r;subst h4;obtain⟨e,_,_⟩:=Bb (P:=P) (yI:=false) w (ay _) (ay _) h1 h3 rh rl;exact⟨.string (s.extract l h'),by simp [Instr.slice,run_underlying ht,e],by simp [ak]⟩
theorem room_le{σ:Heap}(hh:eB c σ){id g sz off len cap:Nat}{p:Pl}(h1:c.E[id]? =some p)(hc:len≤cap)(hsz:0<sz)(r:g=p.g→p.sz=sz∧p.base+(off+cap)*p.sz=p.mQ):A.room σ id g sz off len≤cap:=by
 unfold A.room;split
 ·rename_i g' sz' es hs;split
  ·rename_i CM;obtain⟨rfl,rfl,hle⟩:=CM;obtain⟨j1,j2,j3,j4,j5,j7,j8,j9⟩:=hh.blk id p _ h1 hs;obtain⟨k1,k3⟩:=r j1.symm;rw[k1]at k3;have:es.length*sz≤(off+cap)*sz:=by omega
   have:=Nat.le_of_mul_le_mul_right this j4;omega
  ·exact hc
 ·exact hc
theorem WT{t e:TypeId}{i:TypeInfo}{x av:AV}{lo hi:Option AV}{v:Value}{vl vh:Option Value}{σ:Heap}(hh0:eB c σ)(ht:P.underlying t=some (.slice e))(hi':P.info? e=some i)
  (h:A.cm i.size x lo hi σ=some av) (r:ak c x v) (rl:lI c lo vl) (rh:lI c hi vh):∃k,(Instr.slice t v vl vh none).run P w=.ok k w∧ak c av k:=by
 have hsz:(sizeOf e).run P w=.ok i.size w:=by simp [sizeOf,pV w hi']
 cases x<;>simp only[A.cm]at h<;>first|(cases h;done)|skip
 case sl sz es=>
  split at h
  ·rename_i hs;subst hs;obtain⟨h',h1,h2⟩:=bg.1 h;obtain⟨l,h3,h4⟩:=cL.1 h2;subst h4;simp only[ak]at r;obtain⟨a,cap,rfl,hcap,hp,r⟩:=r;obtain⟨e1,hl,hh⟩:=Bb (P:=P) (yI:=true) w hcap hcap h1 h3 rh rl;refine⟨.slice (if cap=l then a else a.map (·.add (l*i.size))) (h'-l) (cap-l),by simp [Instr.slice,run_underlying ht,e1,hsz],?_⟩;simp only[ak];have hlen:((es.take h').drop l).length=h'-l:=by simp;omega
   refine⟨_,_,by rw[hlen],by rw[hlen];omega,hp,?_⟩;by_cases hz:h'=l
   ·left;apply List.drop_eq_nil_of_le;simp;omega
   ·right;rcases r with r|⟨b,off,rfl,hb,hX,r⟩
    ·subst r;simp at hh;omega
    ·refine⟨b,off+l*i.size,?_,hb,hX,(r.take h').drop l⟩;rw[aI (by omega)];simp [lu]
  ·cases h
 case aN=>
  obtain⟨h',h1,h2⟩:=bg.1 h;obtain⟨l,h3,h4⟩:=cL.1 h2;subst h4;simp only[ak]at r;subst r;obtain⟨e1,hl,hh⟩:=Bb (P:=P) (yI:=true) w (ay 0) (ay 0) h1 h3 rh rl;refine⟨.slice none 0 0,?_,by simp [ak]⟩;have:h'=0:=by omega
  have:l=0:=by omega
  subst_vars;simp [Instr.slice,run_underlying ht,e1,hsz]
 case ez=>
  obtain⟨h',h1,h2⟩:=bg.1 h;obtain⟨l,h3,h4⟩:=cL.1 h2;subst h4;simp only[ak]at r;obtain⟨q,rfl⟩:=r;obtain⟨e1,hl,hh⟩:=Bb (P:=P) (yI:=true) w (ay 0) (ay 0) h1 h3 rh rl;refine⟨.slice q 0 0,?_,by simp [ak]⟩;have:h'=0:=by omega
  have:l=0:=by omega
  subst_vars;simp [Instr.slice,run_underlying ht,e1,hsz]
 case os id g sz off len=>
  split at h
  ·rename_i hs;subst hs;obtain⟨h',h1,h2⟩:=bg.1 h;obtain⟨l,h3,h4⟩:=cL.1 h2;subst h4;simp only[ak]at r;obtain⟨hg,p,hp1,hp2,a,cap,rfl,hcap,r⟩:=r
   obtain⟨e1,hl,hh⟩:=Bb (P:=P) (yI:=true) w hcap (by
    by_cases hz:i.size=0
    ·have:A.room σ id g i.size off len=len:=by
      unfold A.room;split
      ·rename_i g' sz' es hs;split
       ·rename_i CM;obtain⟨rfl,rfl,hle⟩:=CM;obtain⟨_,_,_,j4,_⟩:=hh0.blk id p _ hp1 hs;omega
       ·rfl
      ·rfl
     rw[this];exact hcap
    ·exact room_le hh0 hp1 hcap (by omega) (λk=>⟨(r k).1,(r k).2.2⟩)) h1 h3 rh rl
   have hle:h'≤cap:=by
    rcases hh with hh|hh
    ·refine Nat.le_trans hh ?_;by_cases hz:i.size=0
     ·have:A.room σ id g i.size off len=len:=by
       unfold A.room;split
       ·rename_i g' sz' es hs;split
        ·rename_i CM;obtain⟨rfl,rfl,hle⟩:=CM;obtain⟨_,_,_,j4,_⟩:=hh0.blk id p _ hp1 hs;omega
        ·rfl
       ·rfl
      rw[this];exact hcap
     ·exact room_le hh0 hp1 hcap (by omega) (λk=>⟨(r k).1,(r k).2.2⟩)
    ·omega
   refine⟨.slice (if cap=l then some a else(some a).map (·.add (l*i.size))) (h'-l) (cap-l),by simp [Instr.slice,run_underlying ht,e1,hsz],?_⟩;simp only[ak];refine⟨hg,p,hp1,hp2,(if cap=l then a else a.add (l*i.size)),cap-l,by by_cases e:cap=l<;>simp [e],by omega,λhgp=>?_⟩;obtain⟨k1,k2,k3⟩:=r hgp;refine⟨k1,?_,?_⟩
   ·by_cases e:cap=l
    ·left;omega
    ·right;rw[aI e];rcases k2 with k2|k2
     ·omega
     ·rw[k2,lu,k1,eX];congr 1;omega
   ·rw[show off+l+(cap-l)=off+cap by omega];exact k3
  ·cases h
end
end
section
open Go.RowKit
def dV(arr:Array Value)(off:Nat)(l:List Value):Array Value:=(arr.toList.take off++l++arr.toList.drop (off+l.length)).toArray
theorem PU(arr:Array Value)(off:Nat):dV arr off []=arr:=by simp [dV]
theorem OV(arr:Array Value)(off:Nat)(x:Value)(l:List Value)(h:off+(l.length+1)≤arr.size):dV arr off (x::l)=dV (arr.setIfInBounds off x) (off+1) l:=by
 unfold dV;congr 1;have hlt:off<arr.toList.length:=by simp;omega
 simp only[Array.toList_setIfInBounds,List.length_cons];rw[List.take_succ_eq_append_getElem (by simpa using hlt),List.getElem_set_self,List.take_set_of_le (ay _),List.drop_set_of_lt (by omega)];simp [kQ,Nat.add_comm 1 l.length]
theorem IL(arr:Array Value)(off:Nat)(l:List Value)(h:off+l.length≤arr.size):(dV arr off l).size=arr.size:=by simp [dV];omega
theorem OB(off:Nat):∀(l:List Value)(k:Nat)(arr:Array Value),off+k+l.length≤arr.size→(l.zipIdx k).foldl (λcs(p:Value×Nat)=>cs.setIfInBounds (off+p.2) p.1) arr=dV arr (off+k) l
 |[],k,arr,h=>by simp [PU]
 |x::l,k,arr,h=>by simp only[List.zipIdx_cons,List.foldl_cons];rw[OB off l (k+1) _ (by simp at h ⊢;omega),OV _ _ _ _ (by simpa using h)];rfl
theorem By{w:World}{b:Nat}{o:Obj}(h:w.heap[b]? =some o):w.cM b o=w:=by
 unfold World.cM;have hb:=(nU.1 h)
 obtain⟨hb,e⟩:=hb
 have:w.heap.setIfInBounds b o=w.heap:=by
  apply Array.ext_getElem?;intro i;rw[Array.getElem?_setIfInBounds];by_cases hi:b=i
  ·subst hi;rw[aK rfl,aK hb,h]
  ·rw[aI hi]
 rw[this]
theorem XX(w:World)(b:Nat)(o o':Obj):(w.cM b o).cM b o'=w.cM b o':=by unfold World.cM;simp
theorem VA{w:World}{b off:Nat}{arr:Array Value}{t:TypeId}{fz:Nat×Nat}(h:w.heap[b]? =some (.cells arr t fz))(v:Value):
  w.setCell ⟨b,off,none⟩ v=w.cM b (.cells (arr.setIfInBounds off v) t fz):=by
 unfold World.setCell World.cM;obtain⟨hb,e⟩:=nU.1 h;congr 1;apply Array.ext_getElem?;intro i;rw[Array.getElem?_modify,Array.getElem?_setIfInBounds];by_cases hi:b=i
 ·subst hi;simp [h,hb,e]
 ·simp [hi]
section
variable {P : Program} {c : RC}
theorem X0{v:Value}(h:cD v=true)(w:World)(a:Addr):(store a v).run P w=stored P w a v .plain:=by cases v<;>first|exact run_store P w a _ .plain rfl|(simp [cD]at h)
theorem zj{b off:Nat}{t:TypeId}:∀(vs:List Value)(i:Nat)(w:World)(arr:Array Value),w.heap[b]? =some (.cells arr t (0,0))→off+i+vs.length≤arr.size→(∀x∈vs,cD x=true)→
  (storeCells ⟨b,off,none⟩ vs i).run P w=.ok () (w.cM b (.cells (dV arr (off+i) vs) t (0,0)))
 |[],i,w,arr,h,hl,ho=>by simp [storeCells,PU,By h]
 |v::vs,i,w,arr,h,hl,ho=>by
  have hc:w.cell? ⟨b,off+i,none⟩=some (arr[off+i]'(by simp at hl;omega)):=by
   rw[rZ h,qS]
  have hf:w.frozen? ⟨b,off+i,none⟩=false:=by simp [World.frozen?,h]
  have hs:(store ((⟨b,off,none⟩:Addr).add i) v).run P w=.ok () (w.cM b (.cells (arr.setIfInBounds (off+i) v) t (0,0))):=by rw[lu,X0 (ho v (by simp)),stored];simp [hc,hf,VA h]
  have hb:b<w.heap.size:=(nU.1 h).1;have ih:=zj (off:=off) vs (i+1) (w.cM b (.cells (arr.setIfInBounds (off+i) v) t (0,0))) (arr.setIfInBounds (off+i) v) (qE _ hb) (by simp at hl ⊢;omega) (λx hx=>ho x (by simp [hx]));simp only[storeCells,Sem.run_bind,hs,Result.andThen_ok,ih,XX];rw[OV _ _ _ _ (by simpa using hl)];rfl
theorem aC.dV{cs new cs':List AV}{arr:Array Value}{vs:List Value}{off:Nat}(h:A.bh off new cs=some cs')(r:aC c cs arr.toList)(q:aC c new vs):aC c cs' (Proofs.Ytjjjjbgohkklnaa.dV arr off vs).toList∧off+vs.length≤arr.size:=by
 unfold A.bh at h;split at h
 ·injection h with h
  subst h;have l1:=r.length;have l2:=q.length;simp at l1;refine⟨?_,by omega⟩;simp only[Proofs.Ytjjjjbgohkklnaa.dV,List.toList_toArray];rw[←l2];exact((r.take off).append q).append (r.drop _)
 ·cases h
theorem zY{arr:Array Value}{vs:List Value}{off:Nat}(h:∀x∈arr.toList,cD x=true)(k:∀x∈vs,cD x=true):∀x∈(dV arr off vs).toList,cD x=true:=by
 intro x hx;simp only[dV,List.toList_toArray,eN]at hx;rcases hx with(hx|hx)|hx
 ·exact h x (uo hx)
 ·exact k x hx
 ·exact h x (List.mem_of_mem_drop hx)
theorem DU(sz:Nat):∀(n:Nat)(l:List AV),(je sz n l).length=n
 |0,_=>rfl
 |n+1,l=>by simp [je,DU sz n]
theorem Hy{sz b:Nat}:∀(n off:Nat)(l:List AV),l.length=n*sz→aT c b off l→aX c sz b off (je sz n l)
 |0,off,l,_,_=>by simp [je,aX]
 |n+1,off,l,hl,r=>by simp only[je,aX];rw[eX]at hl;refine⟨by simp;omega,r.take sz,Hy n (off+sz) _ (by simp;omega) (r.drop sz)⟩
theorem range_zero(z:List Value)(hz:0<z.length):∀n,((List.range (n*z.length)).map λi=>(z.toArray)[i % z.toArray.size]!)=(List.replicate n z).flatten
 |0=>by simp
 |n+1=>by
  rw[eX,Nat.one_mul,List.range_add,List.map_append,range_zero z hz n,List.replicate_succ',List.flatten_append];congr 1;simp only[List.map_map,List.flatten_cons,List.flatten_nil,List.append_nil];apply List.ext_getElem
  ·simp
  ·intro i h1 h2;simp at h1;simp only[List.getElem_map,List.getElem_range,Function.comp,List.size_toArray];rw[Nat.add_comm,Nat.add_mul_mod_self_right,Nat.mod_eq_of_lt h1];simp [h1]
theorem aC.flatten{zs:List AV}{vs:List Value}(h:aC c zs vs):∀n,aC c (List.replicate n zs).flatten (List.replicate n vs).flatten
 |0=>by simp [aC]
 |n+1=>by simp only[List.replicate_succ,List.flatten_cons];exact h.append (aC.flatten h n)
end
section
variable {X : Fx} {z : Z} {s : AS} {a : Act} {w w' : World} {E : List Pl} {pb : Nat → Option Nat}
theorem zI(h:St X z s a w E pb){tag:Option (Nat×Bool)}(ht:mH a tag){x:Operand}{b off:Nat}{cs:List AV}(hp:place X s tag x=some (b,off))(hb:A.lb (s.sl.getD b .undef)=some cs):
  ∃k,pb b=some k∧a.eval x=.pointer (some ⟨k,off,none⟩)∧ue (ctx z w E pb) k cs∧s.sl[b]? =some (.lbx cs):=by
 have iw:s.sl[b]? =some (.lbx cs):=by
  by_cases hlt:b<s.sl.length
  ·have e:s.sl.getD b .undef=s.sl[b]:=by simp [List.getD,hlt]
   rw[e]at hb;rw[cI hlt];generalize s.sl[b]=y at *
   cases y<;>simp only[A.lb]at hb<;>first|(cases hb;done)|(injection hb with hb;subst hb;rfl)
  ·have e:s.sl.getD b .undef=.undef:=by simp [List.getD,Nat.le_of_not_lt hlt]
   rw[e]at hb;cases hb
 obtain⟨k,k1,k2,k3⟩:=h.slot b _ iw;refine⟨k,k1,?_,k3,iw⟩;cases x with
 |tmp t=>
  simp only[place]at hp;cases hL:X.L.contains t
  ·rw[hL]at hp;simp only[aV]at hp;cases hA:s.A t with
   |none=>rw[hA]at hp;cases hp
   |some p=>
    rw[hA]at hp;simp only at hp;cases SC:X.L.contains p.slot
    ·rw[SC]at hp;cases hp
    rw[SC]at hp;simp only[bG]at hp
    have key:p.slot=b∧p.off=off∧mH a p.tag:=by
     cases wj:p.tag with
     |none=>rw[wj]at hp;simp only[Option.some.injEq,Prod.mk.injEq]at hp;exact⟨hp.1,hp.2,trivial⟩
     |some g=>
      rw[wj]at hp;simp only at hp;cases hg:(tag==some g)
      ·rw[hg]at hp;cases hp
      ·rw[hg]at hp;simp only[bG,Option.some.injEq,Prod.mk.injEq]at hp;have:tag=some g:=by simpa using hg
       exact⟨hp.1,hp.2,this▸ht⟩
    obtain⟨e1,e2,e3⟩:=key;obtain⟨k',j1,j2⟩:=h.jB t p hA e3;rw[e1,k1]at j1;injection j1 with j1;subst j1
    rw[e2]at j2;exact j2
  ·rw[hL]at hp;simp only[bG,Option.some.injEq,Prod.mk.injEq]at hp;obtain⟨rfl,rfl⟩:=hp;exact k2
 |_=>simp [place]at hp
theorem Nv{c:RC}{σ:Heap}(hh:eB c σ){x:AV}{cs:List AV}{v:Value}(h:A.deref x σ=some cs)(r:ak c x v):∃b off,v=.pointer (some ⟨b,off,none⟩)∧aT c b off cs:=by
 cases x<;>simp only[A.deref]at h<;>first|(cases h;done)|skip
 case rp l=>
  injection h with h;subst h
  simp only[ak]at r;obtain⟨b,off,e,_,_,r⟩:=r;exact⟨b,off,e,r⟩
 case op id off=>
  simp only[ak]at r;obtain⟨p,h1,h2,e⟩:=r;split at h
  ·rename_i cs0 hs;injection h with h;subst h
   obtain⟨_,h3⟩:=hh.blk id p _ h1 hs;exact⟨_,_,e,by simpa using h3.2.drop off⟩
  ·cases h
 case oe id g i off=>
  simp only[ak]at r;obtain⟨hg,p,h1,h2,q,e,r⟩:=r;split at h
  ·rename_i g' sz es hs;split at h
   ·rename_i uS;obtain⟨el,h3,h4⟩:=cL.1 h;subst h4;obtain⟨k1,k2,k3,k4,k5,k6,k7,_⟩:=hh.blk id p _ h1 hs;have hq:=r (by rw[uS,k1]);subst hq;refine⟨_,_,e,?_⟩;rw[k3];exact(aX.nth k7 h3).2.drop off
   ·cases h
  ·cases h
theorem Eg{c:RC}{ρ:Operand→Value}(dN:∀x,ak c (ev X s x) (ρ x)){pl:Nat→Option (Nat×TypeId)}{place:Nat→Option (Nat×Nat)}(hp:∀i off t,pl i=some (off,t)→place i=some (off,X.P.cellsOf t)):
  ∀(ps:List (Nat×Operand))(cs cs':List AV)(arr:Array Value),lE X s pl ps cs=some cs'→aC c cs arr.toList→(∀x∈arr.toList,cD x=true)→
   ∃qn,Instr.fill place arr (ps.map λp=>(p.1,ρ p.2))=some qn∧aC c cs' qn.toList∧∀x∈qn.toList,cD x=true
 |[],cs,cs',arr,h,r,o=>by
  simp only[lE]at h;injection h with h;subst h
  exact⟨arr,by simp [Instr.fill],r,o⟩
 |(i,x)::ps,cs,cs',arr,h,r,o=>by
  simp only[lE]at h;cases hpl:pl i with
  |none=>rw[hpl]at h;cases h
  |some ot=>
   obtain⟨off,t⟩:=ot;rw[hpl]at h;simp only at h;obtain⟨new,h1,h2⟩:=bg.1 h;obtain⟨c2,h3,h4⟩:=bg.1 h2;obtain⟨r1,r2,r3,_⟩:=zB X h1 (dN x);obtain⟨r4,r5⟩:=r.dV h3 r1;have r5':off+(ρ x).cells.size≤arr.size:=by simpa using r5
   obtain⟨qn,k1,k2,k3⟩:=Eg dN hp ps c2 cs' (dV arr off (ρ x).cells.toList) h4 r4 (zY o r2);refine⟨qn,?_,k2,k3⟩;simp only[fJ,Instr.fill,hp i off t hpl];have hz:((ρ x).cells.size≠X.P.cellsOf t||decide (off+(ρ x).cells.size>arr.size))=false:=by simp [r3];omega
   have hf:(ρ x).cells.zipIdx.foldl (λcs(p:Value×Nat)=>cs.setIfInBounds (off+p.2) p.1) arr=dV arr off (ρ x).cells.toList:=by have:=OB off (ρ x).cells.toList 0 arr (by simpa using r5');rw[←Array.foldl_toList];simpa using this
   simp only[hz];rw[←k1,←hf];rfl
end
end
section
open Go.RowKit
section
variable {c : RC} (w : World)
theorem VK{P:Program}(fs:List Field)(body:Field→PUnit→Sem (ForInStep PUnit))(h:∀f∈fs,(body f ⟨⟩).run P w=.ok (.yield ⟨⟩) w):(forIn fs PUnit.unit body:Sem PUnit).run P w=.ok ⟨⟩ w:=by
 induction fs with
 |nil=>simp
 |cons f fs ih=>simp only[List.forIn_cons,Sem.run_bind,h f (by simp),Result.andThen_ok];exact ih λg hg=>h g (by simp [hg])
theorem Ot {P : Program} {d : Nat} : ∀ (fs : List Field) (off tot : Nat), sZ (gV P d) P.cellsOf fs off = some tot → ∀ f ∈ fs, f.name ≠ "_" ∧ gV P d f.type = true ∧ f.offset + P.cellsOf f.type ≤ tot
 |[],off,tot,h,f,hf=>by simp at hf
 |g::fs,off,tot,h,f,hf=>by
  simp only[sZ]at h;cases hc : (g.name != "_" && g.offset == off && gV P d g.type)
  ·rw[hc]at h;cases h
  ·rw[hc]at h;simp only[bG]at h;simp only[eH,bne_iff_ne,beq_iff_eq]at hc;obtain⟨⟨hn,ho⟩,hk⟩:=hc;have hle:=Ef (λt=>zG d t) fs _ _ h;rcases eM.1 hf with rfl|hf
   ·exact⟨hn,hk,by omega⟩
   ·exact Ot fs _ _ h f hf
theorem Mq{P:Program}{em:Bool}:∀(d D:Nat)(hD:d≤D)(t:TypeId)(vs:List Value),gV P d t=true→vs.length=P.cellsOf t→(Instr.checkKey em D t (j0 P t vs)).run P w=.ok () w
 |0,_,_,t,vs,h,_=>by simp [gV]at h
 |d+1,0,hD,_,_,_,_=>by omega
 |d+1,D+1,hD,t,vs,h,l=>by
  unfold gV at h;cases hd:P.underlying t with
  |none=>rw[hd]at h;cases h
  |some de=>
   rw[hd]at h;cases de<;>simp only at h<;>first|(cases h;done)|skip
   case bool=>unfold Instr.checkKey;simp [run_underlying hd,j0,hd]
   case int=>unfold Instr.checkKey;simp [run_underlying hd,j0,hd]
   case string=>unfold Instr.checkKey;simp [run_underlying hd,j0,hd]
   case struct fs=>
    simp only[eH,Bool.not_eq_true',beq_iff_eq]at h;have hm:=Ot fs.toList 0 _ h.2;unfold Instr.checkKey;simp only[Sem.run_bind,run_underlying hd,j0,hd,Result.andThen_ok];rw[←Array.forIn_toList,VK w]
    ·first|done|simp
    ·intro f hf;obtain⟨hn,hk,hle⟩:=hm f hf
     obtain⟨d',rfl⟩:∃d',d=d'+1:=by
      cases d with
      |zero=>simp [gV]at hk
      |succ d'=>exact⟨d',rfl⟩
     have r1:=GF w hk (vs:=vs.toArray) (off:=f.offset) (by simp;omega);have e1:=Mq (em:=em) (d'+1) D (by omega) f.type _ hk (show((vs.toArray.toList.drop f.offset).take (P.cellsOf f.type)).length=_ by simp;omega);simp [hn,r1,e1]
theorem DN(X:Fx){kt:TypeId}{ek:A.EK}(ht:jj X kt=some ek){k:AV}{key:Value}(hk:A.iQ ek k=true)(r:ak c k key)(em:Bool):(Instr.checkKey em 10000 kt key).run X.P w=.ok () w:=by
 unfold jj at ht;cases hd:X.P.underlying kt with
 |none=>rw[hd]at ht;cases ht
 |some de=>
  rw[hd]at ht;cases de<;>simp only at ht<;>first|(cases ht;done)|skip
  case bool=>show(Instr.checkKey em (9999+1) kt key).run X.P w=_;unfold Instr.checkKey;simp [run_underlying hd]
  case int=>show(Instr.checkKey em (9999+1) kt key).run X.P w=_;unfold Instr.checkKey;simp [run_underlying hd]
  case string=>show(Instr.checkKey em (9999+1) kt key).run X.P w=_;unfold Instr.checkKey;simp [run_underlying hd]
  case pointer el=>
   cases hc:(X.P.cellsOf el !=0)
   ·rw[hc]at ht;cases ht
   ·rw[hc]at ht;injection ht with ht;subst ht;cases k<;>simp [A.iQ]at hk
  case struct fs=>
   cases hc:(gV X.P 9 kt&&!X.P.eqGuardType X.P.depth kt)
   ·rw[hc]at ht;cases ht
   ·rw[hc]at ht;injection ht with ht;subst ht
    simp only[eH,Bool.not_eq_true']at hc;cases k<;>simp only[A.iQ]at hk<;>first|(cases hk;done)|skip
    rename_i xs;simp only[ak]at r;obtain⟨vs,rfl,r1,_⟩:=r;have hl:vs.toList.length=X.P.cellsOf kt:=by rw[←r1.length,beq_iff_eq.1 hk,zG 9 kt hc.1]
    have:=Mq w (em:=em) 9 10000 (by decide) kt vs.toList hc.1 hl;simpa [j0,hd]using this
def IN(c:RC)(es:List MapEntry):Option AV→Option (Nat×Value)→Prop
 |none,none=>True
 |some av,some (i,v)=>ak c av v∧∃e,es[i]? =some e∧e.val=v
 |_,_=>False
theorem MH(X:Fx){kt:TypeId}{ek:A.EK}(ht:jj X kt=some ek){k:AV}{key:Value}(rk:ak c k key):∀(aU:List (AV×AV))(es fK:List MapEntry)(i:Nat)(r:Option AV),A.find ek k aU=some r→bM c aU es→(∀j,es[j]? =fK[i+j]?)→
  ∃res,(Instr.findAsking kt key es i).run X.P w=.ok res w∧IN c fK r res∧A.nP ek k aU i=some (res.map (·.1))
 |[],es,fK,i,r,h,re,he=>by
  simp only[A.find]at h;injection h with h;subst h
  simp only[bM]at re;subst re;exact⟨none,by simp [Instr.findAsking],trivial,rfl⟩
 |(k',v')::aU,es,fK,i,r,h,re,he=>by
  simp only[A.find]at h;obtain⟨b,h1,h2⟩:=bg.1 h;obtain⟨e,es',rfl,r1,r2,r3⟩:=re;have hq:=(IV w X ht h1 rk r1).1;cases b
  ·simp only[aV]at h2;obtain⟨res,k1,k2⟩:=MH X ht rk aU es' fK (i+1) r h2 r3 (λj=>by have:=he (j+1);simp at this;rw[show i+1+j=i+(j+1) by omega];exact this);exact⟨res,by simp [Instr.findAsking,hq,k1],k2.1,by simp [A.nP,h1,k2.2]⟩
  ·simp only[bG]at h2;injection h2 with h2;subst h2
   have h0:=he 0;simp at h0;exact⟨some (i,e.val),by simp [Instr.findAsking,hq],⟨r2,e,h0.symm,rfl⟩,by simp [A.nP,h1]⟩
theorem Oz(X:Fx){kt:TypeId}{ek:A.EK}{d:TypeDesc}(hd:X.P.underlying kt=some d)(ht:jj X kt=some ek)(AM:∀fs,d≠.struct fs)(hnp:∀e,d≠.pointer e){k:AV}{key:Value}(rk:ak c k key):
  ∀(aU:List (AV×AV))(es fK:List MapEntry)(i:Nat)(r:Option AV),A.find ek k aU=some r→bM c aU es→(∀j,es[j]? =fK[i+j]?)→
  ∃res,Instr.findNow d key es i=some res∧IN c fK r res∧A.nP ek k aU i=some (res.map (·.1))
 |[],es,fK,i,r,h,re,he=>by
  simp only[A.find]at h;injection h with h;subst h
  simp only[bM]at re;subst re;exact⟨none,by simp [Instr.findNow],trivial,rfl⟩
 |(k',v')::aU,es,fK,i,r,h,re,he=>by
  simp only[A.find]at h;obtain⟨b,h1,h2⟩:=bg.1 h;obtain⟨e,es',rfl,r1,r2,r3⟩:=re
  have hsame:Instr.sameNow d key e.key=some b:=by
   unfold jj at ht;rw[hd]at ht;cases d<;>simp only at ht<;>first|(cases ht;done)|exact absurd rfl (AM _)|exact absurd rfl (hnp _)|skip
   case bool=>
    injection ht with ht;subst ht
    simp only[A.dD,A.rA]at h1;split at h1
    ·simp only[ak]at rk r1;injection h1 with h1;rw[rk,r1];simp [Instr.sameNow,h1]
    ·cases h1
   case int=>
    injection ht with ht;subst ht
    simp only[A.dD,A.kU]at h1;split at h1
    ·split at h1
     ·simp only[ak]at rk r1;injection h1 with h1;rw[rk,r1];simp [Instr.sameNow,h1];assumption
     ·cases h1
    ·cases h1
   case string=>
    injection ht with ht;subst ht
    simp only[A.dD,A.mS]at h1;split at h1
    ·simp only[ak]at rk r1;injection h1 with h1;rw[rk,r1];simp [Instr.sameNow,h1]
    ·cases h1
  cases b
  ·simp only[aV]at h2;obtain⟨res,k1,k2⟩:=Oz X hd ht AM hnp rk aU es' fK (i+1) r h2 r3 (λj=>by have:=he (j+1);simp at this;rw[show i+1+j=i+(j+1) by omega];exact this);exact⟨res,by simp [Instr.findNow,hsame,k1],k2.1,by simp [A.nP,h1,k2.2]⟩
  ·simp only[bG]at h2;injection h2 with h2;subst h2
   have h0:=he 0;simp at h0;exact⟨some (i,e.val),by simp [Instr.findNow,hsame],⟨r2,e,h0.symm,rfl⟩,by simp [A.nP,h1]⟩
theorem IB(X:Fx){kt:TypeId}{ek:A.EK}(ht:jj X kt=some ek){k:AV}{key:Value}(hk:A.iQ ek k=true)(rk:ak c k key){aU:List (AV×AV)}{es:List MapEntry}{r:Option AV}(h:A.find ek k aU=some r)(re:bM c aU es):
  ∃res,(Instr.findKey kt key es).run X.P w=.ok res w∧IN c es r res∧A.nP ek k aU 0=some (res.map (·.1)):=by
 cases hd:X.P.underlying kt with
 |none=>unfold jj at ht;rw[hd]at ht;cases ht
 |some d=>
  by_cases hs:∃fs,d=.struct fs
  ·obtain⟨fs,rfl⟩:=hs;cases es with
   |nil=>
    cases aU with
    |nil=>simp only[A.find]at h;injection h with h;subst h;exact⟨none,by simp [Instr.findKey,run_underlying hd,Instr.findNow],trivial,rfl⟩
    |cons p aU=>obtain⟨k',v'⟩:=p;simp [bM]at re
   |cons e es'=>
    obtain⟨res,k1,k2⟩:=MH w X ht rk aU (e::es') (e::es') 0 r h re (λj=>by simp);refine⟨res,?_,k2⟩;have:Instr.findNow (.struct fs) key (e::es') 0=none:=by simp [Instr.findNow,Instr.sameNow]
    simp [Instr.findKey,run_underlying hd,this,k1]
  ·have hp:∀e,d≠.pointer e:=by
    rintro e rfl;unfold jj at ht;rw[hd]at ht;simp only at ht;cases hc:(X.P.cellsOf e !=0)
    ·rw[hc]at ht;cases ht
    ·rw[hc]at ht;injection ht with ht;subst ht;cases k<;>simp [A.iQ]at hk
   obtain⟨res,k1,k2⟩:=Oz X hd ht (λfs e=>hs ⟨fs,e⟩) hp rk aU es es 0 r h re (λj=>by simp);exact⟨res,by simp [Instr.findKey,run_underlying hd,k1],k2⟩
theorem bM.length{c:RC}:∀{l:List (AV×AV)}{es:List MapEntry},bM c l es→l.length=es.length
 |[],es,h=>by simp only[bM]at h;subst h;rfl
 |(k,v)::l,es,h=>by obtain⟨e,es',rfl,_,_,h⟩:=h;simp [bM.length h]
theorem YE{c:RC}{l L:List MapEntry}(hp:l.Perm L):∀{es:List (AV×AV)},bM c es l→∃fK,bM c fK L∧fK.Perm es:=by
 induction hp with
 |nil=>intro es h;exact⟨es,h,List.Perm.refl _⟩
 |cons x _ ih=>
  intro es h;cases es with
  |nil=>simp [bM]at h
  |cons p es=>
   obtain⟨e,es',h1,h2,h3,h4⟩:=h;injection h1 with h1 h5
   subst h1 h5;obtain⟨fK,k1,k2⟩:=ih h4;exact⟨p::fK,⟨_,_,rfl,h2,h3,k1⟩,k2.cons p⟩
 |swap x y l=>
  intro es h
  match es,h with
  |[],h=>simp [bM]at h
  |[p],h=>obtain⟨e,es',h1,h2,h3,h4⟩:=h;simp only[bM]at h4;subst h4;cases h1
  |p::q::es,h=>
   obtain⟨e,es',h1,h2,h3,h4⟩:=h;obtain⟨e',adI,h5,h6,h7,h8⟩:=h4;subst h5;injection h1 with h1 h9
   injection h9 with h9 h10
   subst h1 h9 h10;exact⟨q::p::es,⟨_,_,rfl,h6,h7,_,_,rfl,h2,h3,h8⟩,List.Perm.swap _ _ _⟩
 |trans _ _ ih1 ih2=>intro es h;obtain⟨qv,k1,k2⟩:=ih1 h;obtain⟨mT,k3,k4⟩:=ih2 k1;exact⟨mT,k3,k4.trans k2⟩
theorem NA{e:A.EK}{k v:AV}:∀{es:List (AV×AV)},A.find e k es=some (some v)→∃p∈es,p.2=v∧A.dD e k p.1=some true
 |[],h=>by simp [A.find]at h
 |(k',v')::r,h=>by
  simp only[A.find]at h;obtain⟨b,h1,h2⟩:=bg.1 h;cases b
  ·obtain⟨p,q1,q2,q3⟩:=NA h2;exact⟨p,um _ q1,q2,q3⟩
  ·injection h2 with h2;injection h2 with h2
   exact⟨(k',v'),List.mem_cons_self,h2,h1⟩
theorem Nz{e:A.EK}{k:AV}:∀{es:List (AV×AV)},A.find e k es=some none→∀p∈es,A.dD e k p.1=some false
 |[],h=>by simp
 |(k',v')::r,h=>by
  simp only[A.find]at h;obtain⟨b,h1,h2⟩:=bg.1 h;cases b
  ·intro p hp;rcases eM.1 hp with rfl|hp
   ·exact h1
   ·exact Nz h2 p hp
  ·injection h2 with h2;cases h2
theorem Mu{e:A.EK}{k:AV}:∀{es:List (AV×AV)},(∀p∈es,A.dD e k p.1=some false)→A.find e k es=some none
 |[],_=>rfl
 |(k',v')::r,h=>by simp only[A.find,h (k',v') List.mem_cons_self,aQ,aV];exact Mu λp hp=>h p (um _ hp)
theorem Mv{e:A.EK}{k:AV}{p:AV×AV}(h1:A.dD e k p.1=some true):∀{es:List (AV×AV)},p∈es→(es.map (·.1)).Nodup→(∀q∈es,q.1≠p.1→A.dD e k q.1=some false)→A.find e k es=some (some p.2)
 |[],hm,_,_=>by simp at hm
 |(k',v')::r,hm,hn,h=>by
  rcases eM.1 hm with rfl|hm
  ·simp only[A.find,h1,aQ,bG]
  ·simp only[fJ,List.nodup_cons]at hn;have hne:k'≠p.1:=λq=>hn.1 (by rw[q];exact List.mem_map_of_mem hm)
   simp only[A.find,h (k',v') List.mem_cons_self hne,aQ,aV];exact Mv h1 hm hn.2 λq hq=>h q (um _ hq)
theorem Sb(s t:ByteArray):(s==t)=decide (s=t):=by obtain⟨a⟩:=s;obtain⟨b⟩:=t;show(a==b)=_;rw[lH];simp
theorem Zj{q:Nat}{x:AV}{n:Int}{b:Bool}(h:A.kE q x (.int .i64 n)=some b):q=0∧∃a,x=.int .i64 a∧b=(a==n):=by
 match q,h with
 |0,h=>
  cases x<;>simp only[A.kE,A.kU]at h<;>first|(cases h;done)|skip
  split at h
  ·rename_i hk;injection h with h
   exact⟨rfl,_,by rw[hk],h.symm⟩
  ·cases h
 |1,h=>cases x<;>simp [A.kE,A.rA]at h
 |2,h=>cases x<;>simp [A.kE,A.mS]at h
 |q+3,h=>simp [A.kE]at h
theorem Zk{q:Nat}{x:AV}{n:ByteArray}{b:Bool}(h:A.kE q x (.str n)=some b):q=2∧∃a,x=.str a∧b=(a==n):=by
 match q,h with
 |0,h=>cases x<;>simp [A.kE,A.kU]at h
 |1,h=>cases x<;>simp [A.kE,A.rA]at h
 |2,h=>
  cases x<;>simp only[A.kE,A.mS]at h<;>first|(cases h;done)|skip
  injection h with h
  exact⟨rfl,_,rfl,h.symm⟩
 |q+3,h=>simp [A.kE]at h
theorem Xk{e:A.EK}{k:AV}{n m:Int}{s t:ByteArray}(h:A.dD e k (.agg [.int .i64 n,.str s])=some true)(hne:(AV.agg [.int .i64 m,.str t])≠.agg [.int .i64 n,.str s]):A.dD e k (.agg [.int .i64 m,.str t])=some false:=by
 unfold A.dD at h ⊢;cases e with
 |i=>cases k<;>simp [A.kU]at h
 |b=>cases k<;>simp [A.rA]at h
 |z=>cases k<;>simp [A.mS]at h
 |p=>cases k<;>simp [A.KL]at h
 |s ks=>
  cases k<;>simp only[reduceCtorEq]at h ⊢;rename_i xs
  have hk:∃k1 k2 x y,ks=[k1,k2]∧xs=[x,y]:=by
   match ks,xs,h with
   |[],[],h=>simp [A.dS]at h
   |[],_::_,h=>simp [A.dS]at h
   |_::_,[],h=>simp [A.dS]at h
   |[_],[_],h=>simp [A.dS]at h
   |[_],_::_::_,h=>simp [A.dS]at h
   |_::_::_,[_],h=>simp [A.dS]at h
   |[k1,k2],[x,y],h=>exact⟨_,_,_,_,rfl,rfl⟩
   |[_,_],_::_::_::_,h=>simp [A.dS]at h
   |_::_::_::_,[_,_],h=>simp [A.dS]at h
   |_::_::_::_,_::_::_::_,h=>simp [A.dS]at h
  obtain⟨k1,k2,x,y,rfl,rfl⟩:=hk;simp only[A.dS]at h ⊢;obtain⟨b1,h1,h2⟩:=bg.1 h;obtain⟨b2,h3,h4⟩:=cL.1 h2;obtain⟨b3,h5,h6⟩:=bg.1 h3;simp only[eO,Option.some.injEq,Bool.and_true]at h6;subst h6;simp only[eH]at h4;obtain⟨rfl,rfl⟩:=h4;obtain⟨rfl,a,rfl,e1⟩:=Zj h1;obtain⟨rfl,z,rfl,e2⟩:=Zk h5;have e1:=eq_of_beq e1.symm;rw[Sb]at e2;have e2:=of_decide_eq_true e2.symm;subst e1 e2;simp only[A.kE,A.kU,A.mS,if_true,aQ,eO,Option.some.injEq,Bool.and_eq_false_iff,Bool.and_true,Sb];by_cases e1:a=m
  ·right;rw[decide_eq_false_iff_not];intro e2;exact hne (by rw[e1,e2])
  ·left;rw[beq_eq_false_iff_ne];exact e1
theorem Xm{e:A.EK}{k:AV}{es fK:List (AV×AV)}{r:Option AV}(hd:B0 es)(hp:fK.Perm es)(h:A.find e k es=some r):A.find e k fK=some r:=by
 cases r with
 |none=>exact Mu λp hm=>Nz h p (hp.mem_iff.1 hm)
 |some v=>
  obtain⟨p,h1,rfl,h3⟩:=NA h;refine Mv h3 (hp.mem_iff.2 h1) ((hp.map _).nodup_iff.2 hd.2) λq hq hne=>?_
  obtain⟨n,s,e1⟩:=hd.1 p h1;obtain⟨m,t,e2⟩:=hd.1 q (hp.mem_iff.1 hq);rw[e1]at h3 hne;rw[e2]at hne ⊢;exact Xk h3 hne
theorem XL{c:RC}{es:List (AV×AV)}{l L:List MapEntry}(h:bM c es l)(hp:PZ es l L):∃fK,bM c fK L∧fK.length=es.length∧∀e k r,A.find e k es=some r→A.find e k fK=some r:=by
 rcases hp with rfl|⟨hp,hd⟩
 ·exact⟨es,h,rfl,λ_ _ _ q=>q⟩
 ·obtain⟨fK,k1,k2⟩:=YE hp h;exact⟨fK,k1,k2.length_eq,λ_ _ _ q=>Xm hd k2 q⟩
theorem MF{P:Program}(hw:c.w=w){σ:Heap}(hh:eB c σ){m:AV}{v:Value}{aU:List (AV×AV)}(h:A.entries m σ=some aU)(r:ak c m v):
  ∃(es:Array MapEntry)(gE:List (AV×AV)),bM c gE es.toList∧gE.length=aU.length∧(∀e k r,A.find e k aU=some r→A.find e k gE=some r)∧((v=.map none∧es=#[])∨∃b aY,v=.map (some b)∧(getObj b).run P w=.ok (.map es aY) w):=by
 cases m<;>simp only[A.entries]at h<;>first|(cases h;done)|skip
 case nm=>
  injection h with h;subst h
  simp only[ak]at r;exact⟨#[],[],by simp [bM],rfl,λ_ _ _ q=>q,.inl ⟨r,rfl⟩⟩
 case fm fK=>
  injection h with h;subst h
  simp only[ak]at r;obtain⟨b,e,_,_,es,aY,k1,_,l,k2,k3⟩:=r;rw[hw]at k1;obtain⟨qv,j1,j2,j3⟩:=XL k2 k3;exact⟨es,qv,j1,j2,j3,.inr ⟨b,aY,e,by simp [getObj,Sem.run,k1]⟩⟩
 case om id=>
  simp only[ak]at r;obtain⟨p,h1,h2,e⟩:=r;split at h
  ·rename_i fK hs;injection h with h;subst h
   obtain⟨_,es,aY,k1,_,k2⟩:=hh.blk id p _ h1 hs;rw[hw]at k1;exact⟨es,_,k2,rfl,λ_ _ _ q=>q,.inr ⟨p.b,aY,e,by simp [getObj,Sem.run,k1]⟩⟩
  ·cases h
theorem YA(X:Fx)(hw:c.w=w){σ:Heap}(hh:eB c σ){t kt et:TypeId}{inf:TypeInfo}{zv:Value}{ek:A.EK}{ok:Bool}{m k av:AV}{mv key:Value}(ht:X.P.underlying t=some (.map kt et))(hi:X.P.info? et=some inf)(hz:inf.zero=some zv)(he:jj X kt=some ek)
  (h:(bif ok then A.Jk ek m k (qi zv) σ else A.look ek m k (qi zv) σ)=some av) (rm:ak c m mv) (rk:ak c k key):∃v,(Instr.lookup t mv key ok).run X.P w=.ok v w∧ak c av v:=by
 have acw:∃aU r,A.iQ ek k=true∧A.entries m σ=some aU∧A.find ek k aU=some r∧av=(bif ok then .aD [r.getD (qi zv),.bool r.isSome]else r.getD (qi zv)):=by
  cases ok<;>simp only[bG,aV,A.look,A.Jk]at h
  all_goals
   cases hk:A.iQ ek k
   ·rw[hk]at h;cases h
   ·rw[hk]at h;simp only[bG]at h;obtain⟨aU,h1,h2⟩:=bg.1 h;obtain⟨r,h3,h4⟩:=cL.1 h2;exact⟨aU,r,rfl,h1,h3,h4.symm⟩
 obtain⟨aU,r,hk,h1,h2,rfl⟩:=acw;obtain⟨es,gE,k1,_,kf,k2⟩:=MF (P:=X.P) w hw hh h1 rm;obtain⟨res,k3,k4,_⟩:=IB w X he hk rk (kf _ _ _ h2) k1;have mW:(zeroValue et).run X.P w=.ok zv w:=by simp [zeroValue,pV w hi,hz]
 have uR:=DN w X he hk rk es.isEmpty
 have main:∀v b,(res=none→v=zv∧b=false)→(∀i u,res=some (i,u)→v=u∧b=true)→(Instr.lookup t mv key ok).run X.P w=.ok (if ok then .tuple #[v,.bool b]else v) w:=by
  intro v b hn hs;unfold Instr.lookup;simp only[Sem.run_bind,run_underlying ht,Result.andThen_ok];rcases k2 with⟨rfl,rfl⟩|⟨bb,aY,rfl,hg⟩
  ·simp only[Sem.run_pure,Result.andThen_ok,uR,Sem.run_bind,k3];cases res with
   |none=>obtain⟨rfl,rfl⟩:=hn rfl;simp [mW]
   |some p=>obtain⟨i,u⟩:=p;obtain⟨rfl,rfl⟩:=hs i u rfl;simp
  ·simp only[Sem.run_bind,hg,Sem.run_pure,Result.andThen_ok,uR,k3];cases res with
   |none=>obtain⟨rfl,rfl⟩:=hn rfl;simp [mW]
   |some p=>obtain⟨i,u⟩:=p;obtain⟨rfl,rfl⟩:=hs i u rfl;simp
 have fin:∀v b,ak c (r.getD (qi zv)) v→r.isSome=b→ak c (bif ok then .aD [r.getD (qi zv),.bool r.isSome]else r.getD (qi zv)) (if ok then .tuple #[v,.bool b]else v):=by
  intro v b h1 h2;cases ok
  ·simpa using h1
  ·simp only[bG,if_true,ak];refine⟨_,rfl,?_⟩;simp only[aC];exact⟨v,_,rfl,h1,_,_,rfl,by simp [ak,h2],rfl⟩
 cases res with
 |none=>
  cases r with
  |none=>exact⟨_,main zv false (λ_=>⟨rfl,rfl⟩) (λi u e=>by cases e),fin zv false (NQ c zv) rfl⟩
  |some x=>exact k4.elim
 |some p=>
  obtain⟨i,u⟩:=p;cases r with
  |none=>exact k4.elim
  |some x=>exact⟨_,main u true (λe=>by cases e) (λi' u' e=>by injection e with e;injection e with _ e;exact⟨e,rfl⟩),fin u true k4.1 rfl⟩
theorem find_born{f:MapEntry→Nat}:∀{l:List MapEntry}{e:MapEntry},(l.map f).Nodup→e∈l→l.find? (λx=>f x==f e)=some e
 |[],e,_,h=>by simp at h
 |x::l,e,hn,h=>by
  simp only[fJ,List.nodup_cons]at hn;rcases eM.1 h with rfl|h
  ·simp
  ·have hne:f x≠f e:=λk=>hn.1 (mI.2 ⟨e,h,k.symm⟩)
   have:(f x==f e)=false:=by simpa using hne
   rw[List.find?_cons,this];exact find_born hn.2 h
theorem Xj{P:Program}(hw:c.w=w){σ:Heap}(hh:eB c σ){i av:AV}{v:Value}(hk:A.Jg i σ=some av)(ri:ak c i v):∃v',(Instr.entry v).run P w=.ok v' w∧ak c av v':=by
 subst hw;unfold A.Jg at hk;split at hk
 ·rename_i id;simp only[ak]at ri;obtain⟨p,e1,e2,rfl⟩:=ri;split at hk
  ·rename_i q left hs;injection hk with hk
   subst hk;obtain⟨hg,hit⟩:=hh.blk id p _ e1 hs;rcases hit with⟨hn,_⟩|⟨m,seen,aU,aY,h3,h4,h5,h6,h7,h8,h9⟩
   ·cases hn
   ·rcases h9 with h9|⟨k',v',e,e3,e4,e5,e6,e7⟩
    ·cases h9
    ·injection e3 with e3
     subst e3;have iR:(getObj p.b).run P c.w=.ok (.mapIter (some m) aY seen aY) c.w:=by simp [getObj,Sem.run,show c.w.heap[p.b]? =_ from h3]
     have xC:(getObj m).run P c.w=.ok (.map aU aY) c.w:=by simp [getObj,Sem.run,show c.w.heap[m]? =_ from h6]
     have hf:aU.find? (λx=>x.born==e.born)=some e:=by rw[←Array.find?_toList];exact find_born (f:=(·.born)) h7.2 e5
     refine⟨.tuple #[e.key,e.val],by simp [Instr.entry,iR,xC,e4,hf],?_⟩;simp only[ak];exact⟨_,rfl,by simp only[aC];exact⟨_,_,rfl,e6,_,_,rfl,e7,rfl⟩⟩
  ·cases hk
 ·cases hk
end
end
section
open Go.RowKit
section
variable {X : Fx} {z : Z} {s : AS} {a : Act} {w w' : World} {E : List Pl} {pb : Nat → Option Nat}
def cQ(X:Fx)(z:Z)(a:Act)(w:World)(E:List Pl)(pb:Nat→Option Nat)(o:Oper)(av:AV):Prop:=∃v w',(execOp a.eval o).run X.P w=.ok (.value v) w'∧Below w.heap.size w w'∧ak (ctx z w' E pb) av v
theorem cQ.same{o:Oper}{av:AV}{v:Value}(h:(execOp a.eval o).run X.P w=.ok (.value v) w)(r:ak (ctx z w E pb) av v):cQ X z a w E pb o av:=⟨v,w,h,Below.refl _ _,r⟩
theorem DY(h:St X z s a w E pb)(t:TypeId){cs:List AV}{arr:Array Value}(r:aC (ctx z w E pb) cs arr.toList)(ho:∀x∈arr.toList,cD x=true):
  Below w.heap.size w (w.alloc (.cells arr t))∧w.heap.size<(w.alloc (.cells arr t)).heap.size∧¬(ctx z (w.alloc (.cells arr t)) E pb).X w.heap.size∧aT (ctx z (w.alloc (.cells arr t)) E pb) w.heap.size 0 cs:=by
 have g:Below w.heap.size w (w.alloc (.cells arr t)):=(Below.refl _ _).alloc (ay _) _;have hx:Ext (ctx z w E pb) (ctx z (w.alloc (.cells arr t)) E pb):=pY g;have hb:(w.alloc (.cells arr t)).heap[w.heap.size]? =some (.cells arr t (0,0)):=(MapKept.heap_alloc w _).1;exact⟨g,by simp,h.fresh,aT.tE hb (aC.mono hx _ _ r) ho (λi hi=>by simp)⟩
theorem sv{P:Program}(t:TypeId)(arr:Array Value):(newRow t arr).run P w=.ok ⟨w.heap.size,0,none⟩ (w.alloc (.cells arr t)):=by rfl
theorem sA{t:TypeId}{zs:List AV}(h:oT X t=some zs)(c:RC):∃i v,X.P.info? t=some i∧i.zero=some v∧(zeroValue t).run X.P w=.ok v w∧zs=v.cells.toList.map vN∧aC c zs v.cells.toList∧∀x∈v.cells.toList,cD x=true:=by
 unfold oT at h;split at h
 ·rename_i i hi;split at h
  ·rename_i v hv;cases ho:v.cells.toList.all cD
   ·rw[ho]at h;cases h
   ·rw[ho]at h;simp only[bG]at h;injection h with h
    refine⟨i,v,hi,hv,by simp [zeroValue,pV w hi,hv],h.symm,?_,nZ.1 ho⟩;rw[←h];have:=aC.map (c:=c) vN id v.cells.toList (λx _=>H9 c x);simpa using this
  ·cases h
 ·cases h
theorem lI.map(h:St X z s a w E pb)(x:Option Operand):lI (ctx z w E pb) (x.map (ev X s)) (x.map a.eval):=by
 cases x with
 |none=>trivial
 |some x=>exact cR h x
theorem Vm(h:St X z s a w E pb){dst:Option Tmp}{t ty:TypeId}{pos:String}{af:Array Edge}{g:Option (Nat×Bool)}{cs:List AV}(hz:oT X t=some cs):
  cQ X z a w E pb ⟨dst,.alloc t,ty,pos,af,g⟩ (.rp cs):=by
 obtain⟨i,v,h1,h2,h3,h4,h5,h6⟩:=sA (w:=w) hz (ctx z w E pb);obtain⟨k1,k2,k3,k4⟩:=DY h t h5 h6;refine⟨.pointer (some ⟨w.heap.size,0,none⟩),_,?_,k1,by simp only[ak];exact⟨_,_,rfl,k2,k3,k4⟩⟩;simp [execOp,Instr.alloc,h3,newVar,sv]
theorem Wj(h:St X z s a w E pb){dst:Option Tmp}{t ty:TypeId}{x:Operand}{pos:String}{af:Array Edge}{g:Option (Nat×Bool)}{cs:List AV}(hc:sE X t (ev X s x)=some cs):
  cQ X z a w E pb ⟨dst,.box t x,ty,pos,af,g⟩ (.rp cs):=by
 obtain⟨h5,h6,_,_⟩:=zB X hc (cR h x);obtain⟨k1,k2,k3,k4⟩:=DY h t h5 h6;refine⟨.pointer (some ⟨w.heap.size,0,none⟩),_,?_,k1,by simp only[ak];exact⟨_,_,rfl,k2,k3,k4⟩⟩;simp [execOp,Instr.box,newVar,sv]
theorem DL{t:TypeId}{f off:Nat}{ft:TypeId}(h:vE X t f=some (off,ft)):∃fs fl,X.P.underlying t=some (.struct fs)∧fs[f]? =some fl∧fl.offset=off∧fl.type=ft:=by
 unfold vE at h;split at h
 ·rename_i fs hd;split at h
  ·rename_i fl hf;simp only[Option.some.injEq,Prod.mk.injEq]at h;exact⟨fs,fl,hd,hf,h.1,h.2⟩
  ·cases h
 ·cases h
theorem ML{P:Program}:∀(fs:List Field),fs.all (λf=>(P.info? f.type).isSome)=true→(fs.mapM (λf=>do pure (f.offset,←sizeOf f.type)):Sem (List (Nat×Nat))).run P w=.ok (fs.map λf=>(f.offset,P.cellsOf f.type)) w
 |[],_=>by simp
 |f::fs,h=>by simp only[List.all_cons,eH]at h;obtain⟨i,hi⟩:=Option.isSome_iff_exists.1 h.1;have ih:=ML fs h.2;simp only[List.mapM_cons,Sem.run_bind,Bm w hi,Result.andThen_ok,Sem.run_pure,ih,fJ]
theorem Vn(h:St X z s a w E pb){dst:Option Tmp}{t ty:TypeId}{ps:Array (Nat×Operand)}{pos:String}{af:Array Edge}{g:Option (Nat×Bool)}{zs cs:List AV}{fs:Array Field}(hz:oT X t=some zs)(hd:X.P.underlying t=some (.struct fs))
  (hi:fs.toList.all (λf=>(X.P.info? f.type).isSome)=true) (hf:lE X s (vE X t) ps.toList zs=some cs):cQ X z a w E pb ⟨dst,.build t ps,ty,pos,af,g⟩ (.agg cs):=by
 obtain⟨i,v,h1,h2,h3,h4,h5,h6⟩:=sA (w:=w) hz (ctx z w E pb);have hpl:=ML (w:=w) fs.toList hi
 obtain⟨arr,k1,k2,k3⟩:=Eg (c:=ctx z w E pb) (ρ:=a.eval) (λx=>cR h x) (pl:=vE X t) (place:=λj=>((fs.toList.map λf=>(f.offset,X.P.cellsOf f.type)).toArray)[j]?) (λj off t' hj=>by
   obtain⟨fs',fl,e1,e2,e3,e4⟩:=DL hj;rw[hd]at e1;injection e1 with e1;injection e1 with e1;subst e1
   simp [e2,e3,e4]) ps.toList _ cs v.cells hf h5 h6
 refine cQ.same (v:=.agg arr) ?_ (by simp only[ak];exact⟨arr,rfl,k2,k3⟩);have hps:(ps.map λ(p:Nat×Operand)=>(p.1,a.eval p.2)).toList=ps.toList.map λp=>(p.1,a.eval p.2):=by simp
 simp only[execOp,Instr.build,Sem.run_bind,run_underlying hd,Result.andThen_ok,h3,Array.mapM_eq_mapM_toList,Sem.run_map,hpl,hps];rw[k1];simp
theorem Ur(h:St X z s a w E pb){dst:Option Tmp}{t e ty:TypeId}{len:Nat}{ps:Array (Nat×Operand)}{pos:String}{af:Array Edge}{g:Option (Nat×Bool)}{zs cs:List AV}{i:TypeInfo}{av:AV}
  (hd:X.P.underlying t=some (.slice e)) (hi:X.P.info? e=some i) (hz:oT X e=some zs) (h0:i.size≠0) (hl:zs.length=i.size) (hm:¬16777216<len*i.size) (yA:(len=0∧av=.ez)∨av=.sl i.size (je i.size len cs))
  (hf:lE X s (λj=>some (j*i.size,e)) ps.toList (List.replicate len zs).flatten=some cs):cQ X z a w E pb ⟨dst,.buildSlice t len ps,ty,pos,af,g⟩ av:=by
 obtain⟨i',v,h1,h2,h3,h4,h5,h6⟩:=sA (w:=w) hz (ctx z w E pb);rw[hi]at h1;injection h1 with h1;subst h1
 have hvl:v.cells.toList.length=i.size:=by rw[←h5.length];exact hl
 have hce:X.P.cellsOf e=i.size:=by simp [Program.cellsOf,hi]
 have hsz:(sizeOf e).run X.P w=.ok i.size w:=by rw[←hce];exact Bm w hi
 obtain⟨zr,mW,Ci⟩:∃zr:Array Value,((len*i.size=0∧zr=#[])∨(¬len*i.size=0∧zr=v.cells))∧((Array.range (len*i.size)).map (zr[· % zr.size]!)).toList=(List.replicate len v.cells.toList).flatten:=by
  by_cases dn:len*i.size=0
  ·have:len=0:=(Nat.mul_eq_zero.1 dn).resolve_right h0;subst this;exact⟨#[],.inl ⟨dn,rfl⟩,by simp⟩
  ·refine⟨v.cells,.inr ⟨dn,rfl⟩,?_⟩;have:=range_zero v.cells.toList (by omega) len;rw[hvl]at this;rw[←this];simp
 obtain⟨arr,k1,k2,k3⟩:=Eg (c:=ctx z w E pb) (ρ:=a.eval) (λx=>cR h x) (pl:=λj=>some (j*i.size,e)) (place:=λj=>some (j*i.size,i.size)) (λj off t' hj=>by simp only[Option.some.injEq,Prod.mk.injEq]at hj;obtain⟨rfl,rfl⟩:=hj;rw[hce]) ps.toList _ cs
  ((Array.range (len*i.size)).map (zr[· % zr.size]!)) hf (by rw[Ci];exact h5.flatten len) (by
   rw[Ci];intro x hx;obtain⟨l,mu,rD⟩:=List.mem_flatten.1 hx;rw[List.mem_replicate]at mu
   exact h6 x (mu.2▸rD))
 obtain⟨j1,j2,j3,j4⟩:=DY h e k2 k3
 have eZ:cs.length=len*i.size:=by
  have hlen:∀(ps:List (Nat×Operand))(cs cs':List AV),lE X s (λj=>some (j*i.size,e)) ps cs=some cs'→cs'.length=cs.length:=by
   intro ps;induction ps with
   |nil=>intro cs cs' e;simp only[lE]at e;injection e with e;rw[e]
   |cons p ps ih=>
    intro cs cs' e;obtain⟨q,x⟩:=p;simp only[lE]at e;obtain⟨new,e1,e2⟩:=bg.1 e;obtain⟨c2,e3,e4⟩:=bg.1 e2;rw[ih _ _ e4];unfold A.bh at e3;split at e3
    ·injection e3 with e3;subst e3;simp;omega
    ·cases e3
  rw[hlen _ _ _ hf];simp [List.length_flatten,hl]
 refine⟨.slice (some ⟨w.heap.size,0,none⟩) len len,_,?_,j1,?_⟩
 ·have hps:(ps.map λ(p:Nat×Operand)=>(p.1,a.eval p.2)).toList=ps.toList.map λp=>(p.1,a.eval p.2):=by simp
  have hm':¬len*i.size>2 ^ 24:=hm;rcases mW with⟨e1,e2⟩|⟨e1,e2⟩
  ·simp only[execOp,Instr.buildSlice,Sem.run_bind,run_underlying hd,Result.andThen_ok,hsz,aI hm',aK e1,Sem.run_pure,hps];rw[←e2,k1];simp [sv]
  ·simp only[execOp,Instr.buildSlice,Sem.run_bind,run_underlying hd,Result.andThen_ok,hsz,aI hm',aI e1,h3,Sem.run_pure,hps];rw[←e2,k1];simp [sv]
 ·rcases yA with⟨rfl,rfl⟩|rfl
  ·simp [ak]
  simp only[ak];refine⟨_,_,by rw[DU],by rw[DU];exact ay _,by omega,?_⟩;by_cases hl0:len=0
  ·left;subst hl0;rfl
  ·right;exact⟨_,_,rfl,j2,j3,Hy len 0 cs eZ j4⟩
theorem UK(h:St X z s a w E pb){dst:Option Tmp}{t e ty:TypeId}{len:Nat}{ps:Array (Nat×Operand)}{pos:String}{af:Array Edge}{g:Option (Nat×Bool)}{zs cs:List AV}{i:TypeInfo}
  (hd:X.P.underlying t=some (.slice e)) (hi:X.P.info? e=some i) (hz:oT X e=some zs) (h0:i.size≠0) (hl:zs.length=i.size) (hm:¬16777216<len*i.size)
  (hf:lE X s (λj=>some (j*i.size,e)) ps.toList (List.replicate len zs).flatten=some cs):∃arr:Array Value,(execOp a.eval ⟨dst,.buildSlice t len ps,ty,pos,af,g⟩).run X.P w=.ok (.value (.slice (some ⟨w.heap.size,0,none⟩) len len)) (w.alloc (.cells arr e))∧arr.size=len*i.size∧aC (ctx z w E pb) cs arr.toList∧(∀x∈arr.toList,cD x=true)∧cs.length=len*i.size:=by
 obtain⟨i',v,h1,h2,h3,h4,h5,h6⟩:=sA (w:=w) hz (ctx z w E pb);rw[hi]at h1;injection h1 with h1;subst h1
 have hvl:v.cells.toList.length=i.size:=by rw[←h5.length];exact hl
 have hce:X.P.cellsOf e=i.size:=by simp [Program.cellsOf,hi]
 have hsz:(sizeOf e).run X.P w=.ok i.size w:=by rw[←hce];exact Bm w hi
 obtain⟨zr,mW,Ci⟩:∃zr:Array Value,((len*i.size=0∧zr=#[])∨(¬len*i.size=0∧zr=v.cells))∧((Array.range (len*i.size)).map (zr[· % zr.size]!)).toList=(List.replicate len v.cells.toList).flatten:=by
  by_cases dn:len*i.size=0
  ·have:len=0:=(Nat.mul_eq_zero.1 dn).resolve_right h0;subst this;exact⟨#[],.inl ⟨dn,rfl⟩,by simp⟩
  ·refine⟨v.cells,.inr ⟨dn,rfl⟩,?_⟩;have:=range_zero v.cells.toList (by omega) len;rw[hvl]at this;rw[←this];simp
 obtain⟨arr,k1,k2,k3⟩:=Eg (c:=ctx z w E pb) (ρ:=a.eval) (λx=>cR h x) (pl:=λj=>some (j*i.size,e)) (place:=λj=>some (j*i.size,i.size)) (λj off t' hj=>by simp only[Option.some.injEq,Prod.mk.injEq]at hj;obtain⟨rfl,rfl⟩:=hj;rw[hce]) ps.toList _ cs
  ((Array.range (len*i.size)).map (zr[· % zr.size]!)) hf (by rw[Ci];exact h5.flatten len) (by
   rw[Ci];intro x hx;obtain⟨l,mu,rD⟩:=List.mem_flatten.1 hx;rw[List.mem_replicate]at mu
   exact h6 x (mu.2▸rD))
 obtain⟨j1,j2,j3,j4⟩:=DY h e k2 k3
 have eZ:cs.length=len*i.size:=by
  have hlen:∀(ps:List (Nat×Operand))(cs cs':List AV),lE X s (λj=>some (j*i.size,e)) ps cs=some cs'→cs'.length=cs.length:=by
   intro ps;induction ps with
   |nil=>intro cs cs' e;simp only[lE]at e;injection e with e;rw[e]
   |cons p ps ih=>
    intro cs cs' e;obtain⟨q,x⟩:=p;simp only[lE]at e;obtain⟨new,e1,e2⟩:=bg.1 e;obtain⟨c2,e3,e4⟩:=bg.1 e2;rw[ih _ _ e4];unfold A.bh at e3;split at e3
    ·injection e3 with e3;subst e3;simp;omega
    ·cases e3
  rw[hlen _ _ _ hf];simp [List.length_flatten,hl]
 refine⟨arr,?_,by have:=k2.length;rw[eZ]at this;simpa using this.symm,k2,k3,eZ⟩
 ·have hps:(ps.map λ(p:Nat×Operand)=>(p.1,a.eval p.2)).toList=ps.toList.map λp=>(p.1,a.eval p.2):=by simp
  have hm':¬len*i.size>2 ^ 24:=hm;rcases mW with⟨e1,e2⟩|⟨e1,e2⟩
  ·simp only[execOp,Instr.buildSlice,Sem.run_bind,run_underlying hd,Result.andThen_ok,hsz,aI hm',aK e1,Sem.run_pure,hps];rw[←e2,k1];simp [sv]
  ·simp only[execOp,Instr.buildSlice,Sem.run_bind,run_underlying hd,Result.andThen_ok,hsz,aI hm',aI e1,h3,Sem.run_pure,hps];rw[←e2,k1];simp [sv]
theorem UJ(h:St X z s a w E pb){d t n:Nat}{ps:Array (Nat×Operand)}{ty:TypeId}{pos:String}{af:Array Edge}{g:Option (Nat×Bool)}{sz:Nat}{es:List (List AV)}
  (hv:dO X ⟨some d,.buildSlice t n ps,ty,pos,af,g⟩ s none=some (.sl sz es)):∃(arr:Array Value)(et:TypeId),(execOp a.eval ⟨some d,.buildSlice t n ps,ty,pos,af,g⟩).run X.P w=.ok (.value (.slice (some ⟨w.heap.size,0,none⟩) es.length es.length)) (w.alloc (.cells arr et))∧
   arr.size=es.length*sz∧0<sz∧(∀c',c'.w.heap[w.heap.size]? =some (.cells arr et (0,0))→Ext (ctx z w E pb) c'→aX c' sz w.heap.size 0 es)∧∀x∈arr.toList,cD x=true:=by
 simp only[dO]at hv;split at hv
 ·rename_i e hd;split at hv
  ·rename_i i zs hi hz;cases h0:(i.size==0||zs.length !=i.size)
   ·rw[h0]at hv;simp only[aV]at hv;simp only[kr,beq_eq_false_iff_ne,bne_eq_false_iff_eq]at h0;cases hm:Nat.blt 16777216 (n*i.size)
    ·rw[hm]at hv;simp only[aV]at hv;obtain⟨cs,h1,h2⟩:=bg.1 hv;cases hn:(n==0)
     ·rw[hn]at h2;simp only[aV,Option.some.injEq,AV.sl.injEq]at h2;obtain⟨rfl,rfl⟩:=h2;obtain⟨arr,k1,k2,k3,k4,k5⟩:=UK (dst:=some d) (ty:=ty) (pos:=pos) (af:=af) (g:=g) h hd hi hz h0.1 h0.2 (λk=>by rw[show Nat.blt 16777216 (n*i.size)=true from by simpa [Nat.blt_eq]using k]at hm;cases hm) h1;rw[DU];exact⟨arr,e,k1,k2,Nat.pos_of_ne_zero h0.1,λc' hb hx=>Hy n 0 cs k5 (aT.tE hb (aC.mono hx _ _ k3) k4 (λj hj=>by simp)),k4⟩
     ·rw[hn]at h2;cases h2
    ·rw[hm]at hv;cases hv
   ·rw[h0]at hv;cases hv
  ·cases hv
 ·cases hv
theorem ZU(h:St X z s a w E pb){tag:Option (Nat×Bool)}(ht:mH a tag){o:Oper}{av:AV}(hv:dO X o s tag=some av)(hc:∀c,o.op=.call c→∃b,c.callee=.builtin b):cQ X z a w E pb o av:=by
 obtain⟨dst,op,ty,pos,af,g⟩:=o;cases op<;>simp only[dO]at hv<;>first|(cases hv;done)|skip
 case move x=>injection hv with hv;subst hv;exact cQ.same (by simp [execOp]) (cR h x)
 case assign x=>injection hv with hv;subst hv;exact cQ.same (by simp [execOp]) (cR h x)
 case pick x y u=>
  have r:=cR h x;generalize ev X s x=vx at *
  cases vx<;>simp only[A.pick]at hv<;>first|(cases hv;done)|skip
  rename_i b;injection hv with hv
  simp only[ak]at r;cases b
  ·simp only[aV]at hv;subst hv;exact cQ.same (v:=a.eval u) (by simp [execOp,r,asBool]) (cR h u)
  ·simp only[bG]at hv;subst hv;exact cQ.same (v:=a.eval y) (by simp [execOp,r,asBool]) (cR h y)
 case alloc t=>
  split at hv
  ·injection hv with hv;subst hv;exact Vm h (by assumption)
  ·cases hv
 case box t x=>
  obtain⟨cs,h1,h2⟩:=bg.1 hv;injection h2 with h2;subst h2
  exact Wj h h1
 case build t ps=>
  split at hv
  ·rename_i zs fs hz hd;cases hi:fs.toList.all (λf=>(X.P.info? f.type).isSome)
   ·rw[hi]at hv;cases hv
   ·rw[hi]at hv;simp only[bG]at hv;obtain⟨cs,h1,h2⟩:=bg.1 hv;injection h2 with h2;subst h2
    exact Vn h hz hd hi h1
  ·cases hv
 case buildSlice t len ps=>
  split at hv
  ·rename_i e hd;split at hv
   ·rename_i i zs hi hz;cases h0:(i.size==0||zs.length !=i.size)
    ·rw[h0]at hv;simp only[aV]at hv;simp only[kr,beq_eq_false_iff_ne,bne_eq_false_iff_eq]at h0;cases hm:Nat.blt 16777216 (len*i.size)
     ·rw[hm]at hv;simp only[aV]at hv;obtain⟨cs,h1,h2⟩:=bg.1 hv;injection h2 with h2;subst h2
      refine Ur h hd hi hz h0.1 h0.2 (λk=>by rw[show Nat.blt 16777216 (len*i.size)=true from by simpa [Nat.blt_eq]using k]at hm;cases hm) ?_ h1;by_cases hl:len=0
      ·subst hl;exact .inl ⟨rfl,rfl⟩
      ·exact .inr (by rw[show(len==0)=false by simpa using hl];rfl)
     ·rw[hm]at hv;cases hv
    ·rw[h0]at hv;cases hv
   ·cases hv
  ·cases hv
 case load t x=>
  split at hv
  ·rename_i b off hp;obtain⟨cs,h1,h2⟩:=bg.1 hv;obtain⟨k,k1,k2,k3,k4⟩:=zI h ht hp h1;obtain⟨v,j1,j2⟩:=DZ (c:=ctx z w E pb) w X rfl k3.2 h2;rw[Nat.zero_add]at j1;exact cQ.same (by simp [execOp,Instr.loadAt,k2,Instr.sureAddr,j1]) j2
  ·obtain⟨cs,h1,h2⟩:=bg.1 hv;obtain⟨b,off,k2,k3⟩:=Nv h.heap h1 (cR h x);obtain⟨v,j1,j2⟩:=DZ (c:=ctx z w E pb) w X rfl k3 h2;rw[Nat.add_zero]at j1;exact cQ.same (by simp [execOp,Instr.loadAt,k2,Instr.sureAddr,j1]) j2
 case nilCheck x=>
  have r:=cR h x;generalize ev X s x=vx at *
  cases vx<;>simp only[A.sR]at hv<;>first|(cases hv;done)|skip
  all_goals
   injection hv with hv;subst hv
   have r':=r;simp only[ak]at r
  case rp=>obtain⟨b,off,e,_⟩:=r;exact cQ.same (v:=a.eval x) (by simp [execOp,e]) r'
  case op=>obtain⟨p,_,_,e⟩:=r;exact cQ.same (v:=a.eval x) (by simp [execOp,e]) r'
  case oe=>obtain⟨_,p,_,_,q,e,_⟩:=r;exact cQ.same (v:=a.eval x) (by simp [execOp,e]) r'
  case fn=>obtain⟨f,vs,e,_⟩:=r;exact cQ.same (v:=a.eval x) (by simp [execOp,e]) r'
 case binOp op t x y u=>
  obtain⟨k,h1,h2⟩:=Za (c:=ctx z w E pb) w X (ox:=x) (oy:=y) hv (cR h x) (cR h y);exact cQ.same (v:=k) (by simp only[execOp];rw[Sem.run_bind,h1];rfl) h2
 case unOp op t x=>
  have r:=cR h x;generalize ev X s x=vx at *
  cases op<;>simp only at hv<;>first|(cases hv;done)|skip
  case neg=>
   cases vx<;>simp only[A.neg]at hv<;>first|(cases hv;done)|skip
   rename_i k n;injection hv with hv;subst hv
   simp only[ak]at r;exact cQ.same (v:=.int k (k.wrap (0-n))) (by simp [execOp,r,Op.unary,Op.intArith]) (by simp [ak])
  case not=>
   cases vx<;>simp only[A.not]at hv<;>first|(cases hv;done)|skip
   rename_i b;injection hv with hv;subst hv
   simp only[ak]at r;exact cQ.same (v:=.bool (!b)) (by simp [execOp,r,Op.unary]) (by simp [ak])
 case convert src dst' x=>
  have r:=cR h x;generalize ev X s x=vx at *
  split at hv
  ·rename_i k1 k2 hs hd;cases vx<;>simp only[A.conv]at hv<;>first|(cases hv;done)|skip
   rename_i k n;injection hv with hv;subst hv
   simp only[ak]at r;exact cQ.same (v:=.int k2 (k2.wrap n)) (by simp [execOp,convert,r,run_underlying hs,run_underlying hd,Conv.intToInt]) (by simp [ak])
  ·rename_i hs hd;cases vx<;>simp only[A.QY]at hv<;>first|(cases hv;done)|skip
   rename_i str;injection hv with hv;subst hv
   simp only[ak]at r;exact cQ.same (v:=.string str) (by simp [execOp,convert,r,run_underlying hs,run_underlying hd]) (by simp [ak])
  ·cases hv
 case makeInterface t x=>
  split at hv
  ·cases hv
  ·rename_i d hn hd;injection hv with hv;subst hv
   have:X.P.concrete t=true:=by unfold Program.concrete;rw[hd];cases d<;>first|rfl|exact absurd rfl (hn _)
   exact cQ.same (v:=.iface t (a.eval x)) (by simp [execOp,run_makeInterface w t _ this]) (by simp [ak])
  ·cases hv
 case makeFunc fn first caps=>
  split at hv
  ·rename_i f;cases hf:first.toList.isEmpty
   ·rw[hf]at hv;cases hv
   ·rw[hf]at hv;simp only[bG]at hv;injection hv with hv;subst hv
    have:first=#[]:=by simpa using hf
    subst this;refine cQ.same (v:=.func (.func f) #[] (caps.map a.eval)) (by simp [execOp,Instr.makeFunc]) ?_;simp only[ak];refine⟨f,_,rfl,by rw[h.nm];rfl,?_⟩
    simpa using zU h caps.toList
  ·cases hv
 case slice t x lo hi mx=>
  split at hv
  ·split at hv
   ·rename_i hd;obtain⟨k,k1,k2⟩:=WU (P:=X.P) (c:=ctx z w E pb) w hd hv (cR h x) (lI.map h lo) (lI.map h hi);refine cQ.same (v:=k) ?_ k2;simp [execOp,Instr.sliceAt,run_underlying hd,k1]
   ·rename_i e hd;split at hv
    ·rename_i i hi';obtain⟨k,k1,k2⟩:=WT (P:=X.P) (c:=ctx z w E pb) w h.heap hd hi' hv (cR h x) (lI.map h lo) (lI.map h hi);refine cQ.same (v:=k) ?_ k2;simp [execOp,Instr.sliceAt,run_underlying hd,k1]
    ·cases hv
   ·cases hv
  ·split at hv
   ·rename_i e hi1 hd;split at hv
    ·rename_i i hi';obtain⟨k,k1,k2⟩:=WS (P:=X.P) (c:=ctx z w E pb) w hd hi' hv (cR h x) (lI.map h lo) (cR h _) (cR h _);refine cQ.same (v:=k) ?_ k2;simp [execOp,Instr.sliceAt,run_underlying hd,k1]
    ·cases hv
   ·cases hv
 case entry i=>
  obtain⟨v',k1,k2⟩:=Xj (P:=X.P) (c:=ctx z w E pb) w rfl h.heap hv (cR h i);exact cQ.same (v:=v') (by simp [execOp,k1]) k2
 case fieldAddr t x f=>
  split at hv
  ·rename_i off ft hf;split at hv
   ·rename_i i hi;cases h0:(i.size==0)
    ·rw[h0]at hv;simp only[aV]at hv;obtain⟨fs,fl,e1,e2,e3,e4⟩:=DL hf;have r:=cR h x;generalize ev X s x=vx at *
     have hsz:(sizeOf fl.type).run X.P w=.ok i.size w:=by rw[e4];simp [sizeOf,pV w hi]
     have fL:¬i.size=0:=by simpa using h0
     have run:∀q,a.eval x=.pointer (some q)→(execOp a.eval ⟨dst,.fieldAddr t x f,ty,pos,af,g⟩).run X.P w=.ok (.value (.pointer (some (q.add off)))) w:=by intro q e;simp [execOp,Instr.fieldAt,run_underlying e1,e2,e,Instr.sureAddr,fieldPlace,hsz,fL,e3]
     cases vx<;>simp only[A.ia]at hv<;>first|(cases hv;done)|skip
     case rp cs=>
      injection hv with hv;subst hv
      simp only[ak]at r;obtain⟨b,o,e,hb,hx,r⟩:=r;exact cQ.same (run _ e) (by simp only[ak,lu];exact⟨b,o+off,rfl,hb,hx,r.drop off⟩)
     case op id o=>
      injection hv with hv;subst hv
      simp only[ak]at r;obtain⟨p,k1,k2,e⟩:=r;exact cQ.same (run _ e) (by simp only[ak,lu];exact⟨p,k1,k2,rfl⟩)
     case oe id gg i' o=>
      injection hv with hv;subst hv
      simp only[ak]at r;obtain⟨hg,p,k1,k2,q,e,r⟩:=r;exact cQ.same (run _ e) (by simp only[ak];exact⟨hg,p,k1,k2,_,rfl,λk=>by rw[r k,lu,kQ]⟩)
    ·rw[h0]at hv;cases hv
   ·cases hv
  ·cases hv
 case field t x f=>
  split at hv
  ·rename_i off ft hf;obtain⟨fs,fl,e1,e2,e3,e4⟩:=DL hf;obtain⟨cs,h1,h2⟩:=bg.1 hv;have r:=cR h x;generalize ev X s x=vx at *
   cases vx<;>simp only[A.cells]at h1<;>first|(cases h1;done)|skip
   split at h1
   ·injection h1 with h1;subst h1
    simp only[ak]at r;obtain⟨vs,e,r1,r2⟩:=r;obtain⟨v,k1,k2⟩:=WG (c:=ctx z w E pb) w X r1 r2 h2;exact cQ.same (v:=v) (by simp [execOp,Instr.field,run_underlying e1,e2,e,asAgg,e3,e4,k1]) k2
   ·cases h1
  ·cases hv
 case indexAddr t x i=>
  split at hv
  ·rename_i e hd;split at hv
   ·rename_i j hj;have hsz:(sizeOf e).run X.P w=.ok j.size w:=by simp [sizeOf,pV w hj]
    have r:=cR h x;have ri:=cR h i;generalize ev X s x=vx at *
    cases vx<;>simp only[A.aM]at hv<;>first|(cases hv;done)|skip
    case sl sz es=>
     obtain⟨n,h1,h2⟩:=bg.1 hv;obtain⟨k,e1,e2⟩:=BQ (c:=ctx z w E pb) h1 ri;split at h2
     ·rename_i hs;subst hs;obtain⟨el,h3,h4⟩:=cL.1 h2;subst h4;simp only[ak]at r;obtain⟨q,cap,e3,_,_,r⟩:=r;rcases r with r|⟨b,off,e4,hb,hx,r⟩
      ·subst r;simp at h3
      ·subst e4;refine cQ.same (v:=.pointer (some ⟨b,off+n*j.size,none⟩)) ?_ (by simp only[ak];exact⟨_,_,rfl,hb,hx,(aX.nth r h3).2⟩);simp [execOp,Instr.indexAt,run_underlying hd,e1,e3,asIntOf,hsz,e2,lu]
     ·cases h2
    case os id gg sz off len=>
     obtain⟨n,h1,h2⟩:=bg.1 hv;obtain⟨k,e1,e2⟩:=BQ (c:=ctx z w E pb) h1 ri;split at h2
     ·rename_i hs;subst hs;injection h2 with h2;subst h2
      simp only[ak]at r;obtain⟨hg,p,k1,k2,q,cap,e3,hcap,r⟩:=r;refine cQ.same (v:=.pointer (some (q.add (n*j.size)))) ?_ ?_
      ·simp [execOp,Instr.indexAt,run_underlying hd,e1,e3,asIntOf,hsz,e2]
      ·simp only[ak];refine⟨hg,p,k1,k2,_,rfl,λk=>?_⟩;obtain⟨j1,j2,j3⟩:=r k;rcases j2 with j2|j2
       ·omega
       ·rw[j2,lu,j1,eX];congr 1;omega
     ·cases h2
   ·cases hv
  ·rename_i len e hd;split at hv
   ·rename_i j hj;have hsz:(sizeOf e).run X.P w=.ok j.size w:=by simp [sizeOf,pV w hj]
    obtain⟨n,h1,h2⟩:=bg.1 hv;obtain⟨k,e1,e2⟩:=BQ (c:=ctx z w E pb) h1 (cR h i);have r:=cR h x;generalize ev X s x=vx at *
    have run:∀q,a.eval x=.pointer (some q)→(execOp a.eval ⟨dst,.indexAddr t x i,ty,pos,af,g⟩).run X.P w=.ok (.value (.pointer (some (q.add (n*j.size))))) w:=by intro q e;simp [execOp,Instr.indexAt,run_underlying hd,e1,e,asIntOf,hsz,e2,Instr.sureAddr]
    cases vx<;>simp only at h2<;>first|(cases h2;done)|skip
    case rp cs=>
     injection h2 with h2;subst h2
     simp only[ak]at r;obtain⟨b,o,e,hb,hx,r⟩:=r;exact cQ.same (run _ e) (by simp only[ak,lu];exact⟨b,_,rfl,hb,hx,r.drop _⟩)
    case op id o=>
     injection h2 with h2;subst h2
     simp only[ak]at r;obtain⟨p,k1,k2,e⟩:=r;exact cQ.same (run _ e) (by simp only[ak,lu];exact⟨p,k1,k2,rfl⟩)
    case oe id gg i' o=>
     injection h2 with h2;subst h2
     simp only[ak]at r;obtain⟨hg,p,k1,k2,q,e,r⟩:=r;exact cQ.same (run _ e) (by simp only[ak];exact⟨hg,p,k1,k2,_,rfl,λk=>by rw[r k,lu,kQ]⟩)
   ·cases hv
  ·cases hv
 case index t x i=>
  split at hv
  ·rename_i hd;have r:=cR h x;generalize ev X s x=vx at *
   cases vx<;>simp only[A.o7]at hv<;>first|(cases hv;done)|skip
   rename_i str;obtain⟨n,h1,h2⟩:=bg.1 hv;obtain⟨Sc,h3,h4⟩:=cL.1 h2;subst h4;obtain⟨k,e1,e2⟩:=BQ (c:=ctx z w E pb) h1 (cR h i);simp only[ak]at r;refine cQ.same (v:=.int .u8 Sc.toNat) ?_ (by simp [ak]);have this:=h3;simp [execOp,Instr.index,run_underlying hd,e1,r,asIntOf,this]
  ·cases hv
 case lookup t m i ok=>
  split at hv
  ·rename_i kt e hd;split at hv
   ·rename_i inf ek hi he;split at hv
    ·rename_i zv hz;obtain⟨v,k1,k2⟩:=YA (c:=ctx z w E pb) w X rfl h.heap hd hi hz he hv (cR h m) (cR h i);exact cQ.same (v:=v) (by simp [execOp,k1]) k2
    ·cases hv
   ·cases hv
  ·cases hv
 case extract x i=>
  have r:=cR h x;generalize ev X s x=vx at *
  cases vx<;>simp only[A.ext]at hv<;>first|(cases hv;done)|skip
  simp only[ak]at r;obtain⟨vs,e,r⟩:=r;obtain⟨v,k1,k2⟩:=r.nth hv;refine cQ.same (v:=v) ?_ k2;have:vs[i]? =some v:=by rw[←Array.getElem?_toList];exact k1
  simp [execOp,Instr.extract,e,this]
 case call c=>
  obtain⟨b,hb⟩:=hc c rfl;rw[hb]at hv;simp only at hv;have re:=zU h c.args.toList;have hargs:c.args.map a.eval=(c.args.toList.map a.eval).toArray:=by apply jv.1;simp
  obtain⟨cb,hrun⟩:∃cb,(execOp a.eval ⟨dst,.call c,ty,pos,af,g⟩).run X.P w=(builtin b c.argTypes ty cb (c.args.map a.eval)).run X.P w:=by simp only[execOp,resolve,hb,Sem.run_bind,Sem.run_pure,Result.andThen_ok,invoke];exact⟨_,rfl⟩
  rw[hargs]at hrun;split at hv
  ·rename_i t x h1 h2;rw[h2]at re;generalize c.args.toList.map a.eval=vs at *
   simp only[aC]at re;obtain⟨v,_,rfl,r,rfl⟩:=re;have h1':c.argTypes=#[t]:=by apply jv.1;simpa using h1
   rw[h1']at hrun;split at hv
   ·rename_i hd;cases x<;>simp only[A.xQ]at hv<;>first|(cases hv;done)|skip
    injection hv with hv;subst hv
    simp only[ak]at r;subst r;exact cQ.same (by rw[hrun];simp [builtin,Builtin.len_,run_underlying hd,goInt];rfl) (by simp [ak])
   ·rename_i e hd;cases x<;>simp only[A.br]at hv<;>first|(cases hv;done)|skip
    all_goals
     injection hv with hv;subst hv
     simp only[ak]at r
    case sl sz es=>
     obtain⟨q,cap,rfl,_⟩:=r;exact cQ.same (v:=.int .i64 es.length) (by rw[hrun];simp [builtin,Builtin.len_,run_underlying hd,goInt]) (by simp [ak])
    case aN=>
     subst r;exact cQ.same (v:=.int .i64 0) (by rw[hrun];simp [builtin,Builtin.len_,run_underlying hd,goInt]) (by simp [ak])
    case ez=>
     obtain⟨q,rfl⟩:=r;exact cQ.same (v:=.int .i64 0) (by rw[hrun];simp [builtin,Builtin.len_,run_underlying hd,goInt]) (by simp [ak])
    case os id gg sz off len=>
     obtain⟨_,p,_,_,q,cap,rfl,_⟩:=r;exact cQ.same (v:=.int .i64 len) (by rw[hrun];simp [builtin,Builtin.len_,run_underlying hd,goInt]) (by simp [ak])
   ·rename_i kt e hd
    have:∃aU,A.entries x s.σ=some aU∧av=.int .i64 aU.length:=by
     cases x<;>simp only[A.RM]at hv<;>first|(cases hv;done)|skip
     case om id=>
      split at hv
      ·rename_i es hs;injection hv with hv
       exact⟨es,by simp [A.entries,hs],hv.symm⟩
      ·cases hv
     case nm=>injection hv with hv;exact⟨[],rfl,by simpa using hv.symm⟩
     case fm es=>injection hv with hv;exact⟨es,rfl,hv.symm⟩
    obtain⟨aU,k1,rfl⟩:=this;obtain⟨es,gE,k2,kl,_,k3⟩:=MF (P:=X.P) (c:=ctx z w E pb) w rfl h.heap k1 r;have hl:=k2.length;rw[kl]at hl;refine cQ.same (v:=.int .i64 aU.length) ?_ (by simp [ak]);rcases k3 with⟨rfl,rfl⟩|⟨bb,aY,rfl,hg⟩
    ·rw[hrun];simp at hl;simp [builtin,Builtin.len_,run_underlying hd,goInt,hl]
    ·rw[hrun];simp at hl;simp [builtin,Builtin.len_,run_underlying hd,goInt,hg,hl]
   ·cases hv
  ·rename_i t x h1 h2;rw[h2]at re;generalize c.args.toList.map a.eval=vs at *
   simp only[aC]at re;obtain⟨v,_,rfl,r,rfl⟩:=re;have h1':c.argTypes=#[t]:=by apply jv.1;simpa using h1
   rw[h1']at hrun;split at hv
   ·rename_i e hd;cases x<;>simp only[A.Cc]at hv<;>first|(cases hv;done)|skip
    all_goals
     injection hv with hv;subst hv
     simp only[ak]at r
    case aN=>
     subst r;exact cQ.same (v:=.int .i64 0) (by rw[hrun];simp [builtin,Builtin.cap_,run_underlying hd,goInt]) (by simp [ak])
    case ez=>
     obtain⟨q,rfl⟩:=r;exact cQ.same (v:=.int .i64 0) (by rw[hrun];simp [builtin,Builtin.cap_,run_underlying hd,goInt]) (by simp [ak])
   ·cases hv
  ·rename_i x y h2;rw[h2]at re;generalize c.args.toList.map a.eval=vs at *
   simp only[aC]at re;obtain⟨v,_,rfl,r,u,_,rfl,q,rfl⟩:=re;unfold A.max at hv;split at hv
   ·rename_i k m k' n;injection hv with hv;subst hv
    simp only[ak]at r q;subst r;subst q;exact cQ.same (v:=.int k (if n>m then n else m)) (by rw[hrun];simp [builtin,Builtin.max_,Builtin.max2]) (by simp [ak])
   ·cases hv
  ·rename_i x y h2;rw[h2]at re;generalize c.args.toList.map a.eval=vs at *
   simp only[aC]at re;obtain⟨v,_,rfl,r,u,_,rfl,q,rfl⟩:=re;unfold A.min at hv;split at hv
   ·rename_i k m k' n;injection hv with hv;subst hv
    simp only[ak]at r q;subst r;subst q;exact cQ.same (v:=.int k (if n<m then n else m)) (by rw[hrun];simp [builtin,Builtin.min_,Builtin.min2]) (by simp [ak])
   ·cases hv
  ·cases hv
end
end
section
open Go.RowKit
def bY:Nat→Option Nat:=λ_=>none
def Y3(P:Program)(nm:List Nat)(f:FuncId)(args:List AV)(σ:Heap)(r:AV)(σ':Heap):Prop:=∃g,(∀cB w,(callFunc f cB).run P w=.ok (.enter g cB) w)∧∀(z:Z)(vs:Array Value),z.nm=nm→(∀b,z.X b→b<z.w.heap.size)→eB (ctx z z.w z.E bY) σ→aC (ctx z z.w z.E bY) args vs.toList→Calls P g vs z.w λe w'=>∃v E',e=.returned v∧Out z w' E'∧eB (ctx z w' E' bY) σ'∧ak (ctx z w' E' bY) r v
def Y4(P:Program)(nm:List Nat)(f:FuncId)(args:List AV)(σ:Heap)(r:AV)(σ':Heap):Prop:=∀(z:Z)(vs:Array Value),z.nm=nm→(∀b,z.X b→b<z.w.heap.size)→eB (ctx z z.w z.E bY) σ→aC (ctx z z.w z.E bY) args vs.toList→∃v w' E',(callFunc f vs).run P z.w=.ok (.value v) w'∧Out z w' E'∧eB (ctx z w' E' bY) σ'∧ak (ctx z w' E' bY) r v
def lC(P:Program)(nm:List Nat)(f:FuncId)(args:List AV)(σ:Heap)(r:AV)(σ':Heap):Prop:=Y3 P nm f args σ r σ'∨Y4 P nm f args σ r σ'
structure dB (X : Fx) : Prop where
 call:∀f args σ r σ',X.call f args σ=some (r,σ')→lC X.P X.nm f args σ r σ'
 dyn:∀f args σ r σ',X.dyn (X.nm.getD f 0) args σ=some (r,σ')→lC X.P X.nm f args σ r σ'
section
variable {X : Fx} {z : Z} {s : AS} {a : Act} {w w' : World} {E : List Pl} {pb : Nat → Option Nat}
theorem Ext.same{c c':RC}(hw:c'.w=c.w)(hE:c'.E=c.E)(hX:∀b,c'.X b→c.X b)(hn:c'.nm=c.nm):Ext c c':=
 ⟨by rw[hw];exact ay _,λb _ hx=>⟨by rw[hw],λk=>hx (hX b k)⟩,λi p h=>⟨p,by rw[hE];exact h,.inl rfl⟩,hn⟩
def below(z:Z)(w:World)(E:List Pl)(pb:Nat→Option Nat):Z:=⟨w,E,λb=>z.X b∨∃i,pb i=some b,z.nm⟩
theorem Iw:Ext (ctx z w E pb) (ctx (below z w E pb) w E bY):=
 Ext.same rfl rfl (λb k=>by
  rcases k with(k|k)|k|⟨i,k⟩
  ·exact .inl k
  ·exact .inr (.inr k)
  ·exact .inr (.inl k)
  ·cases k) rfl
theorem Hx{w':World}{E':List Pl}:Ext (ctx (below z w E pb) w' E' bY) (ctx z w' E' pb):=
 Ext.same rfl rfl (λb k=>by
  rcases k with k|k|k
  ·exact .inl (.inl k)
  ·exact .inr (.inl k)
  ·exact .inl (.inr k)) rfl
theorem St.called(h:St X z s a w E pb){w':World}{E':List Pl}{σ':Heap}(ho:Out (below z w E pb) w' E')(hh:eB (ctx (below z w E pb) w' E' bY) σ'):St X z (s.heap σ') a w' E' pb:=by
 have Qd:∀p∈E',w.heap.size≤p.b∨∃q∈E,q.b=p.b:=ho.fresh
 have hx:Ext (ctx z w E pb) (ctx z w' E' pb):=by
  refine⟨ho.size,λb hb hn=>⟨ho.stay b hb (λp hp e=>hn (.inr (.inl ⟨p,hp,e⟩))),?_⟩,ho.env,rfl⟩;rintro(k|⟨p,hp,k⟩|k)
  ·exact hn (.inl k)
  ·rcases Qd p hp with e|⟨q,hq,e⟩
   ·simp only[ctx]at hb;omega
   ·exact hn (.inr (.inl ⟨q,hq,e.trans k⟩))
  ·exact hn (.inr (.inr k))
 refine h.ext hx (λi b hb=>⟨hb,ho.stay b (h.priv i b hb).2.1 (h.priv i b hb).2.2⟩) (λi b hb=>⟨(h.priv i b hb).1,nV (h.priv i b hb).2.1 ho.size,λp hp e=>?_⟩) h.inj
  (hh.mono Hx rfl (λp hp=>rfl)) ?_
 ·rcases Qd p hp with k|⟨q,hq,k⟩
  ·have:=(h.priv i b hb).2.1;omega
  ·exact(h.priv i b hb).2.2 q hq (k.trans e)
 ·have o:=h.out;refine⟨ho.os.trans o.os,ho.tape.trans o.tape,ho.output.trans o.output,Nat.le_trans o.size ho.size,λb hb hp=>?_,λi p hp=>?_,λi p hp=>?_,o.lt,o.mine⟩
  ·rw[ho.stay b (nV hb o.size) (λp K5 e=>?_)]
   ·exact o.stay b hb hp
   ·rcases o.fresh p K5 with k|⟨q,hq,k⟩
    ·omega
    ·exact hp q hq (k.trans e)
  ·rcases ho.fresh' i p hp with k|⟨q,hq,k⟩
   ·exact .inl (Nat.le_trans o.size k)
   ·rcases o.fresh' i q hq with k'|⟨q',uV,k'⟩
    ·exact .inl (k▸k')
    ·exact .inr ⟨q',uV,k'.trans k⟩
  ·obtain⟨p',h1,h2⟩:=o.env i p hp;obtain⟨p'',h3,h4⟩:=ho.env i p' h1;refine⟨p'',h3,?_⟩;rcases h2 with rfl|⟨h2,h5⟩
   ·exact h4
   ·rcases h4 with rfl|⟨h6,h7⟩
    ·exact .inr ⟨h2,h5⟩
    ·exact .inr ⟨h2,by omega⟩
theorem MU(h:St X z s a w E pb):eB (ctx (below z w E pb) w E bY) s.σ:=h.heap.mono Iw rfl (λp hp=>rfl)
theorem Oj(h:St X z s a w E pb):∀b,(below z w E pb).X b→b<(below z w E pb).w.heap.size:=by
 rintro b (k|⟨i,k⟩)
 ·exact nV (h.out.lt b k) h.out.size
 ·exact(h.priv i b k).2.1
theorem BN(h:St X z s a w E pb){f:FuncId}{args:List AV}{vs:Array Value}{r:AV}{σ':Heap}(hc:lC X.P X.nm f args s.σ r σ')(ha:aC (ctx z w E pb) args vs.toList){o:Oper}{K:Act→World→Prop}{Q:Exit→Act→World→Prop}
  (ho:(execOp a.eval o).run X.P w=(callFunc f vs).run X.P w) (hK:∀v w' E',St X z (s.heap σ') a w' E' pb→ak (ctx z w' E' pb) r v→K (a.put o.dst v) w'):o.wp X.P a w K Q:=by
 rcases hc with hc|hc
 ·obtain⟨g,hg,hc⟩:=hc;unfold Oper.wp;rw[ho,hg,Oper.upon_enter];refine(hc (below z w E pb) vs h.nm.symm (Oj h) (MU h) (aC.mono Iw _ _ ha)).mono ?_;rintro e w' ⟨v,E',rfl,h1,h2,h3⟩;exact hK v w' E' (h.called h1 h2) (ak.mono Hx _ _ h3)
 ·obtain⟨v,w',E',k1,h1,h2,h3⟩:=hc (below z w E pb) vs h.nm.symm (Oj h) (MU h) (aC.mono Iw _ _ ha);unfold Oper.wp;rw[ho,show(callFunc f vs).run X.P w=_ from k1,Oper.upon_value];exact hK v w' E' (h.called h1 h2) (ak.mono Hx _ _ h3)
theorem Ml{f:FuncId}{c:Call}(hc:c.callee=.value (.func f)){dst:Option Tmp}{ty:TypeId}{pos:String}{af:Array Edge}{g:Option (Nat×Bool)}:
  (execOp a.eval ⟨dst,.call c,ty,pos,af,g⟩).run X.P w=(callFunc f (c.args.map a.eval)).run X.P w:=by
 simp [execOp,resolve,hc,Act.eval,Deferred.ofValue,invoke]
theorem GD{f:FuncId}{caps:Array Value}{x:Operand}{c:Call}(hc:c.callee=.value x)(hx:a.eval x=.func (.func f) #[] caps){dst:Option Tmp}{ty:TypeId}{pos:String}{af:Array Edge}{g:Option (Nat×Bool)}:
  (execOp a.eval ⟨dst,.call c,ty,pos,af,g⟩).run X.P w=(callFunc f (c.args.map a.eval++caps)).run X.P w:=by
 simp [execOp,resolve,hc,hx,Deferred.ofValue,invoke]
theorem Qt(hs:dB X)(h:St X z s a w E pb){tag:Option (Nat×Bool)}(ht:mH a tag){o:Oper}{av:AV}(hv:dO X o s tag=some av){K:Act→World→Prop}{Q:Exit→Act→World→Prop}
  (hK:∀v w' E',St X z s a w' E' pb→ak (ctx z w' E' pb) av v→K (a.put o.dst v) w'):o.wp X.P a w K Q:=by
 by_cases hc:∀c,o.op=.call c→∃b,c.callee=.builtin b
 ·obtain⟨v,w',h1,h2,h3⟩:=ZU h ht hv hc;unfold Oper.wp;rw[h1,Oper.upon_value];exact hK v w' E (h.grow h2) h3
 ·obtain⟨dst,op,ty,pos,af,g⟩:=o
  have:∃c,op=.call c∧∀b,c.callee≠.builtin b:=by refine Classical.byContradiction λhn=>hc λc e=>Classical.byContradiction λhb=>hn ⟨c,e,λb e'=>hb ⟨b,e'⟩⟩
  obtain⟨c,rfl,hb⟩:=this;simp only[dO]at hv
  have quiet:∀r,A.quiet r s.σ=some av→r=some (av,s.σ):=by
   intro r hr;unfold A.quiet at hr;obtain⟨p,h1,h2⟩:=bg.1 hr;split at h2
   ·rename_i he;injection h2 with h2
    rw[h1,←he,←h2]
   ·cases h2
  have hargs:(c.args.map a.eval).toList=c.args.toList.map a.eval:=by simp
  have hheap:s.heap s.σ=s:=rfl;cases Ao:c.callee with
  |builtin b=>exact absurd Ao (hb b)
  |invoke rr m=>rw[Ao]at hv;cases hv
  |value x=>
   rw[Ao]at hv;cases x with
   |func f=>simp only at hv;have hq:=hs.call _ _ _ _ _ (quiet _ hv);refine BN h hq (by rw[hargs];exact zU h _) (Ml Ao) (λv w' E' h1 h2=>?_);exact hK v w' E' h1 h2
   |tmp t=>
    simp only at hv;have hq:=quiet _ hv;have r:=cR h (.tmp t);generalize ev X s (.tmp t)=vx at *
    cases vx<;>simp only[A.gZ]at hq<;>first|(cases hq;done)|skip
    rename_i fn0 B3;simp only[ak]at r;obtain⟨f,cs,e1,e2,e3⟩:=r;rw[←e2]at hq;have uV:X.dyn (X.nm.getD f 0) (c.args.toList.map (ev X s)++B3) s.σ=some (av,s.σ):=by rw[h.nm];exact hq
    refine BN h (hs.dyn _ _ _ _ _ uV) (vs:=c.args.map a.eval++cs) (by rw[Array.toList_append,hargs];exact(zU h _).append e3) (GD Ao e1) (λv w' E' h1 h2=>?_);exact hK v w' E' h1 h2
   |const v=>
    simp only at hv;have hq:=quiet _ hv;have r:=cR h (.const v);generalize ev X s (.const v)=vx at *
    cases vx<;>simp only[A.gZ]at hq<;>first|(cases hq;done)|skip
    rename_i fn0 B3;simp only[ak]at r;obtain⟨f,cs,e1,e2,e3⟩:=r;rw[←e2]at hq;have uV:X.dyn (X.nm.getD f 0) (c.args.toList.map (ev X s)++B3) s.σ=some (av,s.σ):=by rw[h.nm];exact hq
    refine BN h (hs.dyn _ _ _ _ _ uV) (vs:=c.args.map a.eval++cs) (by rw[Array.toList_append,hargs];exact(zU h _).append e3) (GD Ao e1) (λv w' E' h1 h2=>?_);exact hK v w' E' h1 h2
   |global g=>simp only[ev,A.gZ]at hv;have:=quiet _ hv;cases this
theorem Qs(h:St X z s a w E pb){tag:Option (Nat×Bool)}(ht:mH a tag){o:Oper}{b off:Nat}(hv:gB X o s tag=some (b,some off)):
  (∃k,pb b=some k∧(execOp a.eval o).run X.P w=.ok (.value (.pointer (some ⟨k,off,none⟩))) w):=by
 obtain⟨dst,op,ty,pos,af,g⟩:=o;cases op<;>simp only[gB]at hv<;>first|(cases hv;done)|skip
 case nilCheck x=>
  split at hv
  ·rename_i b' off' hp;injection hv with hv
   injection hv with hb hv
   subst hb;obtain⟨cs,h1,h2⟩:=bg.1 hv;simp only[Option.some.injEq]at h2;subst h2;obtain⟨k,k1,k2,_⟩:=zI h ht hp h1;exact⟨k,k1,by simp [execOp,k2]⟩
  ·cases hv
 case fieldAddr t x f=>
  split at hv
  ·rename_i b' off' hp;injection hv with hv
   injection hv with hb hv
   subst hb;split at hv
   ·rename_i fo ft hf;split at hv
    ·rename_i i hi;cases h0:(i.size==0)
     ·rw[h0]at hv;simp only[aV]at hv;obtain⟨cs,h1,h2⟩:=bg.1 hv;simp only[Option.some.injEq]at h2;subst h2;obtain⟨k,k1,k2,_⟩:=zI h ht hp h1;obtain⟨fs,fl,e1,e2,e3,e4⟩:=DL hf;have hsz:(sizeOf fl.type).run X.P w=.ok i.size w:=by rw[e4];simp [sizeOf,pV w hi]
      have fL:¬i.size=0:=by simpa using h0
      exact⟨k,k1,by simp [execOp,Instr.fieldAt,run_underlying e1,e2,k2,Instr.sureAddr,fieldPlace,hsz,fL,e3,lu]⟩
     ·rw[h0]at hv;cases hv
    ·cases hv
   ·cases hv
  ·cases hv
 case indexAddr t x i=>
  split at hv
  ·rename_i b' off' hp;injection hv with hv
   injection hv with hb hv
   subst hb;split at hv
   ·rename_i len e hd;split at hv
    ·rename_i ie hie;obtain⟨cs,h1,h2⟩:=bg.1 hv;obtain⟨n,h3,h4⟩:=bg.1 h2;simp only[Option.some.injEq]at h4;subst h4;obtain⟨k,k1,k2,_⟩:=zI h ht hp h1;obtain⟨kk,e1,e2⟩:=BQ (c:=ctx z w E pb) h3 (cR h i);have hsz:(sizeOf e).run X.P w=.ok ie.size w:=by simp [sizeOf,pV w hie]
     exact⟨k,k1,by simp [execOp,Instr.indexAt,run_underlying hd,e1,k2,asIntOf,hsz,e2,Instr.sureAddr,lu]⟩
    ·cases hv
   ·cases hv
  ·cases hv
theorem On{c:RC}{b:Nat}{cs:List AV}(h:ue c b cs):∃arr t,c.w.heap[b]? =some (.cells arr t (0,0))∧aC c cs arr.toList∧∀x∈arr.toList,cD x=true:=by
 obtain⟨⟨arr,t,h1,h2⟩,h3⟩:=h;obtain⟨vs,k1,k2,k3⟩:=h3.FZ
 have:arr.toList=vs:=by
  apply List.ext_getElem?;intro i;by_cases hi:i<vs.length
  ·have:=k3 i vs[i] (by simp [hi]);rw[Nat.zero_add,rZ h1]at this;rw[Array.getElem?_toList,this];simp [hi]
  ·have hl:=k1.length;rw[ku (by simp;omega),ku (by omega)]
 rw[←this]at k1 k2;exact⟨arr,t,h1,k1,k2⟩
theorem Ht{P:Program}{t:TypeId}{b off:Nat}{v:Value}{arr:Array Value}{bt:TypeId}(hb:w.heap[b]? =some (.cells arr bt (0,0)))(hsz:v.cells.size=P.cellsOf t)(ht:(P.info? t).isSome=true)(ho:∀x∈v.cells.toList,cD x=true)(hl:off+v.cells.toList.length≤arr.size):
  (Instr.storeAt t (.pointer (some ⟨b,off,none⟩)) v).run P w=.ok () (w.cM b (.cells (dV arr off v.cells.toList) bt (0,0))):=by
 obtain⟨i,hi⟩:=Option.isSome_iff_exists.1 ht;have:=zj (P:=P) (b:=b) (off:=off) (t:=bt) v.cells.toList 0 w arr hb (by simpa using hl) ho;simp [Instr.storeAt,Instr.sureAddr,storeVar,Bm w hi,hsz,this]
theorem Mo{P:Program}{t:TypeId}{d:TypeDesc}(h:P.underlying t=some d):(P.info? t).isSome=true:=by obtain⟨i,hi⟩:=OX h;rw[hi];rfl
theorem z8(arr:Array Value)(o:Nat)(l:List Value)(h:o+l.length≤arr.size)(j:Nat):(dV arr o l)[j]? =if o≤j∧j<o+l.length then l[j-o]? else arr[j]? :=by
 unfold dV;rw[List.getElem?_toArray];have h1:(arr.toList.take o).length=o:=by simp;omega
 by_cases hj:j<o
 ·rw[aI (by omega),kP,fE (by omega),List.getElem?_take_of_lt hj,Array.getElem?_toList]
 ·rw[kP,fV (by omega),h1];by_cases hk:j<o+l.length
  ·rw[aK ⟨by omega,hk⟩,fE (by omega)]
  ·rw[aI (by omega),fV (by omega),List.getElem?_drop,Array.getElem?_toList];congr 1;omega
theorem WX(h:St X z s a w E pb){t:TypeId}{x:AV}{pv v:Value}{vv:AV}{new:List AV}{σ':Heap}(hc:sE X t vv=some new)(rv:ak (ctx z w E pb) vv v)(hst:A.storeAt x new s.σ=some σ')(rx:ak (ctx z w E pb) x pv):
  ∃w',(Instr.storeAt t pv v).run X.P w=.ok () w'∧St X z (s.heap σ') a w' E pb:=by
 obtain⟨r1,r2,r3,d,hd⟩:=zB X hc rv;have hi:=Mo hd;cases x<;>simp only[A.storeAt]at hst<;>first|(cases hst;done)|skip
 case op id off=>
  simp only[ak]at rx;obtain⟨p,e1,e2,rfl⟩:=rx;split at hst
  ·rename_i cs hs;obtain⟨cs',h1,h2⟩:=cL.1 hst;subst h2;obtain⟨hg,ab2⟩:=h.heap.blk id p _ e1 hs;obtain⟨arr,bt,k1,k2,k3⟩:=On ab2;obtain⟨k4,k5⟩:=k2.dV h1 r1;refine⟨_,Ht k1 r3 hi r2 k5,h.sJ e1 _ _ λhx=>?_⟩;have hlt:p.b<w.heap.size:=h.heap.lt (p:=p) (dF e1);have hh:=qE (w:=w) (.cells (dV arr off v.cells.toList) bt (0,0)) hlt;have k6:=aC.mono hx _ _ k4;exact⟨hg,⟨_,_,hh,by have:=k6.length;simpa using this.symm⟩,aT.tE hh k6 (zY k3 r2) (λi hi=>by simp)⟩
  ·cases hst
 case oe id g i off=>
  simp only[ak]at rx;obtain⟨hg0,p,e1,e2,q,rfl,rx⟩:=rx;split at hst
  ·rename_i g' sz es hs;split at hst
   ·rename_i uS;subst uS;obtain⟨e,h1,h2⟩:=bg.1 hst;obtain⟨e',h3,h4⟩:=cL.1 h2;subst h4;obtain⟨j1,j2,j3,j4,⟨arr,bt,j5,j6⟩,j7,j8,j9⟩:=h.heap.blk id p _ e1 hs;have hq:=rx j1.symm;subst hq;obtain⟨hel,hcs⟩:=aX.nth j8 h1
    have hsp:off+new.length≤e.length∧e'=e.take off++new++e.drop (off+new.length):=by
     unfold A.bh at h3;split at h3
     ·injection h3 with h3;exact⟨by assumption,h3.symm⟩
     ·cases h3
    have hlen:i<es.length:=(bU.1 h1).1
    have hbound:p.base+i*sz+sz≤arr.size:=by have:(i+1)*sz≤es.length*sz:=kC _ hlen;rw[eX]at this;rw[j6];omega
    have hl:new.length=v.cells.toList.length:=r1.length;have k5:p.base+i*p.sz+off+v.cells.toList.length≤arr.size:=by rw[j3];omega
    refine⟨_,Ht j5 r3 hi r2 k5,h.sJ e1 _ _ λhx=>?_⟩;have hlt:p.b<w.heap.size:=h.heap.lt (p:=p) (dF e1);have hh:=qE (w:=w) (.cells (dV arr (p.base+i*p.sz+off) v.cells.toList) bt (0,0)) hlt;have hcell:∀j,(w.cM p.b (.cells (dV arr (p.base+i*p.sz+off) v.cells.toList) bt (0,0))).cell? ⟨p.b,j,none⟩=(dV arr (p.base+i*p.sz+off) v.cells.toList)[j]? :=λj=>rZ hh
    have hold:∀j,w.cell? ⟨p.b,j,none⟩=arr[j]? :=λj=>rZ j5
    obtain⟨adW,Kb⟩:=hsp;have hsz:p.sz=sz:=j3;rw[hsz]at k5 hcell
    have out:∀j,(j<p.base+i*sz+off∨p.base+i*sz+off+new.length≤j)→(w.cM p.b (.cells (dV arr (p.base+i*p.sz+off) v.cells.toList) bt (0,0))).cell? ⟨p.b,j,none⟩=w.cell? ⟨p.b,j,none⟩:=by intro j hj;rw[hsz,hcell,hold,z8 _ _ _ k5,aI (by omega)]
    refine⟨j1,j2,j3,j4,⟨_,_,hh,by rw[hsz,IL _ _ _ k5];exact j6⟩,by simpa using j7,aX.of λj x hj=>?_,vI hh (zY (j9 _ _ _ j5) r2)⟩;rw[eW]at hj;by_cases hij:i=j
    ·subst hij;rw[aK rfl,aK hlen]at hj;injection hj with hj;subst hj
     refine⟨by rw[Kb];simp;omega,aT.of λk av hk=>?_⟩;by_cases hin:off≤k∧k<off+new.length
     ·have hnk:new[k-off]? =some av:=by rw[Kb,kP,fV (by simp;omega)]at hk;rw[fE (by simp;omega)]at hk;rw[←hk];congr 1;simp;omega
      obtain⟨u,m1,m2⟩:=r1.nth hnk;refine⟨u,?_,r2 u (dF m1),ak.mono hx _ _ m2⟩;show(w.cM p.b (.cells (dV arr (p.base+i*p.sz+off) v.cells.toList) bt (0,0))).cell? ⟨p.b,p.base+i*sz+k,none⟩=_;rw[hsz,hcell,z8 _ _ _ k5,aK (by omega),←m1];congr 1;omega
     ·have hek:e[k]? =some av:=by
       rw[Kb]at hk;by_cases hk1:k<off
       ·rw[kP,fE (by simp;omega),List.getElem?_take_of_lt hk1]at hk;exact hk
       ·rw[fV (by simp;omega),List.getElem?_drop]at hk;rw[←hk];congr 1;simp;omega
      obtain⟨u,m1,m2,m3⟩:=aT.nth hcs hek;refine⟨u,?_,m2,ak.mono hx _ _ m3⟩;rw[←m1];exact out _ (by omega)
    ·rw[aI hij]at hj;obtain⟨m1,m2⟩:=aX.nth j8 hj;refine⟨m1,aT.of λk av hk=>?_⟩;obtain⟨u,n1,n2,n3⟩:=aT.nth m2 hk;refine⟨u,?_,n2,ak.mono hx _ _ n3⟩;rw[←n1];have iu:k<sz:=by rw[←m1];exact(bU.1 hk).1
     refine out _ ?_;rcases Nat.lt_or_gt_of_ne hij with hlt'|hgt
     ·right;have:(i+1)*sz≤j*sz:=kC _ hlt';rw[eX]at this;omega
     ·left;have:(j+1)*sz≤i*sz:=kC _ hgt;rw[eX]at this;omega
   ·cases hst
  ·cases hst
end
end
section
open Go.RowKit
section
variable {X : Fx} {z : Z} {s : AS} {a : Act} {w w' : World} {E : List Pl} {pb : Nat → Option Nat}
theorem St.move(h:St X z s a w E pb){id:Nat}{p p':Pl}{blk:bk}(hi:E[id]? =some p)(hg:0<p.g∧p.g<p'.g)(hos:w'.os=w.os)(htp:w'.tape=w.tape)(hout:w'.output=w.output)(hsz:w.heap.size≤w'.heap.size)
  (EZ:∀b,b≠p.b→b<w.heap.size→w'.heap[b]? =w.heap[b]?) (hb:p'.b=p.b∨(w.heap.size≤p'.b∧p'.b<w'.heap.size))
  (hk:Ext (ctx z w E pb) (ctx z w' (E.set id p') pb)→lU (ctx z w' (E.set id p') pb) p' blk):
  St X z (s.heap (s.σ.set id blk)) a w' (E.set id p') pb∧Ext (ctx z w E pb) (ctx z w' (E.set id p') pb):=by
 have hm:p∈E:=dF hi;have hid:id<E.length:=(bU.1 hi).1;have hX:(ctx z w E pb).X p.b:=.inr (.inl ⟨p,hm,rfl⟩)
 have hmem:∀q∈E.set id p',q=p'∨(q∈E):=λq hq=>by
  rcases List.mem_or_eq_of_mem_set hq with e|e
  ·exact .inr e
  ·exact .inl e
 have iR:∀(j:Nat)(q:Pl),(E.set id p')[j]? =some q→(j=id∧q=p')∨(j≠id∧E[j]? =some q):=λj q hq=>by
  rw[eW]at hq;by_cases e:id=j
  ·subst e;rw[aK rfl,aK hid]at hq;injection hq with hq;exact .inl ⟨rfl,hq.symm⟩
  ·rw[aI e]at hq;exact .inr ⟨λe'=>e e'.symm,hq⟩
 have hx:Ext (ctx z w E pb) (ctx z w' (E.set id p') pb):=by
  refine⟨hsz,λb rB hn=>⟨EZ b (λe=>hn (e▸hX)) rB,?_⟩,λj q hq=>?_,rfl⟩
  ·rintro(k|⟨q,hq,k⟩|k)
   ·exact hn (.inl k)
   ·rcases hmem q hq with rfl|hq
    ·rcases hb with e|⟨e,_⟩
     ·exact hn (by rw[←k,e];exact hX)
     ·simp only[ctx]at rB;omega
    ·exact hn (.inr (.inl ⟨q,hq,k⟩))
   ·exact hn (.inr (.inr k))
  ·by_cases e:id=j
   ·subst e;simp only[ctx]at hq;rw[hi]at hq;injection hq with hq;subst hq
    exact⟨p',by simp [ctx,hid],.inr hg⟩
   ·exact⟨q,by simp only[ctx]at hq ⊢;rw[eW,aI e];exact hq,.inl rfl⟩
 refine⟨h.ext hx (λi b hpb=>⟨hpb,EZ b (λe=>(h.priv i b hpb).2.2 p hm e.symm) (h.priv i b hpb).2.1⟩) (λi b hpb=>⟨(h.priv i b hpb).1,nV (h.priv i b hpb).2.1 hsz,λq hq=>?_⟩) h.inj
  ⟨by have:=h.heap.len;simpa [ctx]using this,λi j q r hq hr he=>?_,λj q x hq cO=>?_⟩ ?_,hx⟩
 ·rcases hmem q hq with rfl|hq
  ·rcases hb with e|⟨e,_⟩
   ·rw[e];exact(h.priv i b hpb).2.2 p hm
   ·have:=(h.priv i b hpb).2.1;omega
  ·exact(h.priv i b hpb).2.2 q hq
 ·have lt:∀(j:Nat)(q:Pl),E[j]? =some q→q.b<w.heap.size:=λj q hq=>h.heap.lt (p:=q) (dF hq)
  rcases iR i q hq with⟨e1,e2⟩|⟨e1,e2⟩<;>rcases iR j r hr with⟨e3,e4⟩|⟨e3,e4⟩
  ·rw[e1,e3]
  ·exfalso;rw[e2]at he;rcases hb with e|⟨e,_⟩
   ·exact e3 (h.heap.inj j id r p e4 hi (by rw[←he,e]))
   ·have:=lt j r e4;omega
  ·exfalso;rw[e4]at he;rcases hb with e|⟨e,_⟩
   ·exact e1 (h.heap.inj i id q p e2 hi (by rw[he,e]))
   ·have:=lt i q e2;omega
  ·exact h.heap.inj i j q r e2 e4 he
 ·rcases iR j q hq with⟨e1,e2⟩|⟨e1,e2⟩
  ·subst e1;subst e2;rw[eW,aK rfl]at cO;split at cO
   ·injection cO with cO;subst cO;exact hk hx
   ·cases cO
  ·rw[eW,aI (λe=>e1 e.symm)]at cO;exact(h.heap.blk j q x e2 cO).mono hx (EZ q.b (λe=>e1 (h.heap.inj j id q p e2 hi e)) (h.heap.lt (p:=q) (dF e2)))
 ·have o:=h.out;refine⟨hos.trans o.os,htp.trans o.tape,hout.trans o.output,Nat.le_trans o.size hsz,λb rB hp=>?_,λj q hq=>?_,λj q hq=>?_,o.lt,o.mine⟩
  ·rw[EZ b (λe=>?_) (nV rB o.size)]
   ·exact o.stay b rB hp
   ·rcases o.fresh p hm with k|⟨r,hr,k⟩
    ·omega
    ·exact hp r hr (k.trans e.symm)
  ·rcases iR j q hq with⟨e1,e2⟩|⟨e1,e2⟩
   ·subst e1;subst e2;rcases hb with e|⟨e,_⟩
    ·rcases o.fresh' j p hi with k|⟨r,hr,k⟩
     ·exact .inl (by rw[e];exact k)
     ·exact .inr ⟨r,hr,by rw[e];exact k⟩
    ·exact .inl (Nat.le_trans o.size e)
   ·exact o.fresh' j q e2
  ·obtain⟨q',h1,h2⟩:=o.env j q hq;by_cases e:id=j
   ·subst e;rw[hi]at h1;injection h1 with h1;subst h1
    refine⟨p',by simp [hid],?_⟩;rcases h2 with rfl|⟨h2,h3⟩
    ·exact .inr hg
    ·exact .inr ⟨h2,by omega⟩
   ·exact⟨q',by rw[eW,aI e];exact h1,h2⟩
theorem aX.cells{c:RC}{sz b:Nat}:∀{es:List (List AV)}{off:Nat},aX c sz b off es→aT c b off es.flatten∧es.flatten.length=es.length*sz
 |[],off,h=>by simp [aT]
 |e::es,off,h=>by
  simp only[aX]at h;obtain⟨h1,h2,h3⟩:=h;obtain⟨k1,k2⟩:=aX.cells h3;refine⟨aT.of λi av hi=>?_,by simp [k2,h1,eX];omega⟩;simp only[List.flatten_cons]at hi;by_cases hl:i<e.length
  ·rw[fE hl]at hi;exact aT.nth h2 hi
  ·rw[fV (by omega)]at hi;have:=aT.nth k1 hi;rwa[show off+sz+(i-e.length)=off+i by omega]at this
theorem MX{P:Program}{c:RC}{σ:Heap}(hh:eB c σ){sz:Nat}{y:AV}{v:Value}{ys:List (List AV)}(h:A.elems sz y σ=some ys)(r:ak c y v):
  ∃(q:Option Addr)(cap:Nat)(cs:List Value),v=.slice q ys.length cap∧(∀w2:World,w2.heap=c.w.heap→(Builtin.firstCells sz ys.length v).run P w2=.ok cs.toArray w2)∧aC c ys.flatten cs∧(∀x∈cs,cD x=true)∧cs.length=ys.length*sz∧(∀e∈ys,e.length=sz)∧(∀n,n≤ys.length→∀w2:World,w2.heap=c.w.heap→(Builtin.firstCells sz n v).run P w2=.ok (cs.take (n*sz)).toArray w2):=by
 have main:∀(q:Option Addr)(cap:Nat)(ys:List (List AV)),(ys=[]∨∃b off,q=some ⟨b,off,none⟩∧aX c sz b off ys)→
   ∃cs:List Value,(∀w2:World,w2.heap=c.w.heap→(Builtin.firstCells sz ys.length (.slice q ys.length cap)).run P w2=.ok cs.toArray w2)∧aC c ys.flatten cs∧(∀x∈cs,cD x=true)∧cs.length=ys.length*sz∧(∀e∈ys,e.length=sz)∧(∀n,n≤ys.length→∀w2:World,w2.heap=c.w.heap→(Builtin.firstCells sz n (.slice q ys.length cap)).run P w2=.ok (cs.take (n*sz)).toArray w2):=by
  intro q cap ys hq;rcases hq with rfl|⟨b,off,rfl,r⟩
  ·refine⟨[],λw2 _=>?_,by simp [aC],by simp,by simp,by simp,λn hn w2 _=>by
    simp at hn;subst hn
    cases q<;>simp [Builtin.firstCells,loadCells,loadCellsFrom]⟩
   cases q with
   |none=>simp [Builtin.firstCells]
   |some q=>simp [Builtin.firstCells,loadCells,loadCellsFrom]
  ·obtain⟨k1,k2⟩:=r.cells;obtain⟨vs,j1,j2,j3⟩:=k1.FZ;have hl:vs.length=ys.length*sz:=by rw[←j1.length,k2]
   refine⟨vs,λw2 hw=>?_,j1,j2,hl,λe he=>?_,λn hn w2 hw=>?_⟩
   ·have:=run_loadCells_list (P:=P) w2 ⟨b,off,none⟩ vs (λj v hj=>by rw[lu];have:=j3 j v hj;simpa [World.cell?,hw]using this);rw[hl]at this;simp [Builtin.firstCells,this]
   ·obtain⟨i,hi,rfl⟩:=List.mem_iff_getElem.1 he;exact(aX.nth r (i:=i) (by simp [hi])).1
   ·have hnl:n*sz≤vs.length:=by rw[hl];exact kC _ hn
    have:=run_loadCells_list (P:=P) w2 ⟨b,off,none⟩ (vs.take (n*sz)) (λj v hj=>by
     rw[lu];have:=j3 j v (by rw[List.getElem?_take]at hj;split at hj;exact hj;cases hj)
     simpa [World.cell?,hw]using this)
    rw[gn,Nat.min_eq_left hnl]at this;simp [Builtin.firstCells,this]
 cases y<;>simp only[A.elems]at h<;>first|(cases h;done)|skip
 case aN=>
  injection h with h;subst h
  simp only[ak]at r;subst r;obtain⟨cs,k⟩:=main none 0 [] (.inl rfl);exact⟨none,0,cs,rfl,k⟩
 case ez=>
  injection h with h;subst h
  simp only[ak]at r;obtain⟨q,rfl⟩:=r;obtain⟨cs,k⟩:=main q 0 [] (.inl rfl);exact⟨q,0,cs,rfl,k⟩
 case sl sz' es=>
  split at h
  ·rename_i hs;subst hs;injection h with h;subst h
   simp only[ak]at r;obtain⟨q,cap,rfl,hcap,_,r⟩:=r
   obtain⟨cs,k⟩:=main q cap es (by
    rcases r with r|⟨b,off,e,_,_,r⟩
    ·exact .inl r
    ·exact .inr ⟨b,off,e,r⟩)
   exact⟨q,cap,cs,rfl,k⟩
  ·cases h
 case os id g mZ off len=>
  simp only[ak]at r;obtain⟨hg,p,e1,e2,q,cap,rfl,hcap,r⟩:=r;split at h
  ·rename_i g' sz' es hs;split at h
   ·rename_i hc;obtain⟨rfl,rfl,rfl,hle⟩:=hc;injection h with h;subst h
    obtain⟨j1,j2,j3,j4,j5,j6,j7,_⟩:=hh.blk id p _ e1 hs;obtain⟨k1,k2,k3⟩:=r j1.symm;have hlen:((es.drop off).take len).length=len:=by simp;omega
    obtain⟨cs,k⟩:=main (some q) cap ((es.drop off).take len) (by
     by_cases hz:len=0
     ·left;subst hz;simp
     ·right;rcases k2 with k2|k2
      ·omega
      ·exact⟨_,_,by rw[k2],by rw[j3];exact(j7.drop off).take len⟩)
    rw[hlen]at k ⊢;exact⟨some q,cap,cs,rfl,k⟩
   ·cases h
  ·rename_i g' sz' es hs;split at h
   ·rename_i hc;obtain⟨rfl,rfl,rfl,hle⟩:=hc;injection h with h;subst h
    obtain⟨j1,j2,j3,j4,j5,j6,j7,_⟩:=hh.blk id p _ e1 hs;obtain⟨k1,k2,k3⟩:=r j1.symm;have hlen:((es.drop off).take len).length=len:=by simp;omega
    obtain⟨cs,k⟩:=main (some q) cap ((es.drop off).take len) (by
     by_cases hz:len=0
     ·left;subst hz;simp
     ·right;rcases k2 with k2|k2
      ·omega
      ·exact⟨_,_,by rw[k2],by rw[j3];exact(j7.drop off).take len⟩)
    rw[hlen]at k ⊢;exact⟨some q,cap,cs,rfl,k⟩
   ·cases h
  ·cases h
theorem Ii{P:Program}{c:RC}{σ:Heap}(hh:eB c σ){sz:Nat}{y:AV}{v:Value}{ys:List (List AV)}(h:A.elems sz y σ=some ys)(r:ak c y v):
  ∃(q:Option Addr)(cap:Nat)(cs:List Value),v=.slice q ys.length cap∧(∀w2:World,w2.heap=c.w.heap→(Builtin.firstCells sz ys.length v).run P w2=.ok cs.toArray w2)∧aC c ys.flatten cs∧(∀x∈cs,cD x=true)∧cs.length=ys.length*sz∧(∀e∈ys,e.length=sz):=by
 obtain⟨q,cap,cs,h1,h2,h3,h4,h5,h6,_⟩:=MX (P:=P) hh h r;exact⟨q,cap,cs,h1,h2,h3,h4,h5,h6⟩
theorem Mw{sz:Nat}:∀{ys:List (List AV)}{n:Nat},(∀y∈ys,y.length=sz)→n≤ys.length→(ys.take n).flatten=ys.flatten.take (n*sz)
 |[],n,_,hn=>by simp
 |y::ys,0,_,_=>by simp
 |y::ys,n+1,h,hn=>by
  simp at hn;rw[List.take_succ_cons,List.flatten_cons,List.flatten_cons,Mw (λx hx=>h x (by simp [hx])) hn,List.take_append,h y (by simp),eX,Nat.one_mul];congr 1
  ·rw[fF (by rw[h y (by simp)];omega)]
  ·congr 1;omega
theorem W4(P:Program){e:TypeId}{i:TypeInfo}{zv:Value}(hi:P.info? e=some i)(hz:i.zero=some zv)(w:World):(zeroValue e).run P w=.ok zv w:=by simp [zeroValue,pV w hi,hz]
theorem UU{P:Program}{t u e e' ty:TypeId}{i:TypeInfo}{zv:Value}(ht:P.underlying t=some (.slice e))(hu:P.underlying u=some (.slice e'))(hi:P.info? e=some i)(hz:i.zero=some zv)(hb0:i.bytes≠0)
  {base q:Option Addr} {sLen sCap n cap:Nat} {olds news:List Value} (hold:(Builtin.firstCells i.size sLen (.slice base sLen sCap)).run P w.drew=.ok olds.toArray w.drew) (hnew:(Builtin.firstCells i.size n (.slice q n cap)).run P w.drew=.ok news.toArray w.drew)
  (hg:sCap<sLen+n) (hm:sLen+n≤140737488355328 / i.bytes):
  (Builtin.append_ #[t,u] ty #[.slice base sLen sCap,.slice q n cap]).run P w=
   .ok (.slice (some ⟨w.heap.size,0,none⟩) (sLen+n) (grownCap w (sLen+n) sCap e)) (w.drew.alloc (.cells (olds.toArray++news.toArray++Builtin.zeroCells zv.cells (grownCap w (sLen+n) sCap e-(sLen+n))) e)):=by
 have EY:(sLen+n)*i.bytes≤140737488355328:=by have:=kC i.bytes hm;have:=Nat.div_mul_le_self 140737488355328 i.bytes;omega
 have h48:=growslice_fits hg EY;have hn:¬(sLen+n≤sCap):=by omega
 have Ce:¬(281474976710656<Builtin.nextslicecap (sLen+n) sCap*i.bytes):=by omega
 simp [Builtin.append_,run_underlying ht,run_underlying hu,sizeOf,typeInfo,zeroValue,hi,hz,Builtin.lenOf,hn,Ce,hb0,Question.forced,hold,hnew,newRow,grownCap];congr 2;apply Array.ext';simp [kP]
theorem aT.sub{c:RC}{b:Nat}{arr:Array Value}{t:TypeId}{fz:Nat×Nat}(h:c.w.heap[b]? =some (.cells arr t fz)){cs:List AV}{vs pre suf:List Value}(ha:arr.toList=pre++vs++suf)(hr:aC c cs vs)(ho:∀x∈vs,cD x=true):aT c b pre.length cs:=by
 refine aT.tE h hr ho λi hi=>?_
 rw[←Array.getElem?_toList,ha,kP,fV (by omega),fE (by omega)];congr 1;omega
theorem aT.xT{c:RC}{sz b:Nat}:∀{es:List (List AV)}{off:Nat},(∀e∈es,e.length=sz)→aT c b off es.flatten→aX c sz b off es
 |[],off,_,_=>by simp [aX]
 |e::es,off,hl,h=>by
  simp only[List.flatten_cons]at h;have he:=hl e (by simp);simp only[aX];refine⟨he,?_,aT.xT (λx hx=>hl x (by simp [hx])) ?_⟩
  ·have:=h.take e.length;simpa using this
  ·have:=h.drop e.length;rw[he]at this;simpa [←he]using this
theorem aX.append{c:RC}{sz b:Nat}:∀{l m:List (List AV)}{off:Nat},aX c sz b off l→aX c sz b (off+l.length*sz) m→aX c sz b off (l++m)
 |[],m,off,h,k=>by simpa using k
 |e::l,m,off,h,k=>by simp only[aX,l6]at h ⊢;refine⟨h.1,h.2.1,aX.append h.2.2 ?_⟩;rw[show off+sz+l.length*sz=off+(e::l).length*sz by simp [eX];omega];exact k
theorem aX.keep{c c':RC}(hx:Ext c c'){sz b:Nat}{es:List (List AV)}{off:Nat}(h:aX c sz b off es)(hc:∀j,off≤j→j<off+es.length*sz→c'.w.cell? ⟨b,j,none⟩=c.w.cell? ⟨b,j,none⟩):aX c' sz b off es:=by
 refine aX.of λi e hi=>?_
 obtain⟨h1,h2⟩:=aX.nth h hi;refine⟨h1,aT.of λk av hk=>?_⟩;obtain⟨u,k1,k2,k3⟩:=aT.nth h2 hk;refine⟨u,?_,k2,ak.mono hx _ _ k3⟩;have hil:i<es.length:=(bU.1 hi).1;have iu:k<sz:=by rw[←h1];exact(bU.1 hk).1
 have:(i+1)*sz≤es.length*sz:=kC _ hil;rw[eX]at this;rw[←k1];exact hc _ (by omega) (by omega)
theorem Iy(h:St X z s a w E pb){id:Nat}{p:Pl}{g sz i:Nat}{es ys:List (List AV)}{arr:Array Value}{bt:TypeId}{news:List Value}(e1:E[id]? =some p)(hs:s.σ[id]? =some (.arr g sz es))(hb:w.heap[p.b]? =some (.cells arr bt (0,0)))
  (hfit:i+ys.length≤es.length) (hr:aC (ctx z w E pb) ys.flatten news) (ho:∀x∈news,cD x=true) (hy:∀y∈ys,y.length=sz) (hn:news.length=ys.length*sz):
  p.base+i*sz+news.length≤arr.size∧St X z (s.heap (s.σ.set id (.arr g sz (es.take i++ys++es.drop (i+ys.length))))) a (w.cM p.b (.cells (dV arr (p.base+i*sz) news) bt (0,0))) E pb:=by
 obtain⟨j1,j2,j3,j4,⟨qn,bt',j5,j6⟩,j7,j8,j9⟩:=h.heap.blk id p _ e1 hs;have Tc:w.heap[p.b]? =some (.cells qn bt' (0,0)):=j5;rw[hb]at Tc;injection Tc with j5d
 injection j5d with j5e j5f
 subst j5e j5f;have hm:(i+ys.length)*sz≤es.length*sz:=kC _ hfit;rw[eX]at hm;have vP:p.base+i*sz+news.length≤arr.size:=by rw[hn,j6];omega
 refine⟨vP,h.sJ e1 _ _ λhx=>?_⟩;have hlt:p.b<w.heap.size:=h.heap.lt (p:=p) (dF e1);have hh:=qE (w:=w) (.cells (dV arr (p.base+i*sz) news) bt (0,0)) hlt;have hcell:∀j,(w.cM p.b (.cells (dV arr (p.base+i*sz) news) bt (0,0))).cell? ⟨p.b,j,none⟩=(dV arr (p.base+i*sz) news)[j]? :=λj=>rZ hh
 have hold:∀j,w.cell? ⟨p.b,j,none⟩=arr[j]? :=λj=>rZ hb
 have out:∀j,(j<p.base+i*sz∨p.base+i*sz+news.length≤j)→(w.cM p.b (.cells (dV arr (p.base+i*sz) news) bt (0,0))).cell? ⟨p.b,j,none⟩=w.cell? ⟨p.b,j,none⟩:=by intro j hj;rw[hcell,hold,z8 _ _ _ vP,aI (by omega)]
 have S4:(es.take i).length=i:=by simp;omega
 refine⟨j1,j2,j3,j4,⟨_,_,hh,by rw[IL _ _ _ vP];exact j6⟩,?_,?_,vI hh (zY (j9 _ _ _ hb) ho)⟩
 ·have:(es.take i++ys++es.drop (i+ys.length)).length=es.length:=by simp;omega
  rw[this];exact j7
 ·refine aX.append (aX.append (aX.keep hx (j8.take i) λj hj1 hj2=>?_) ?_) (aX.keep hx ?_ λj hj1 hj2=>?_)
  ·rw[S4]at hj2;exact out j (.inl hj2)
  ·rw[S4];refine aT.xT hy ?_;refine aT.tE hh (aC.mono hx _ _ hr) ho λj hj=>?_
   show(dV arr (p.base+i*sz) news)[p.base+i*sz+j]? =_;rw[z8 _ _ _ vP,aK (by omega)];congr 1;omega
  ·have:=j8.drop (i+ys.length);have e:(es.take i++ys).length=i+ys.length:=by simp;omega
   rw[e];exact this
  ·have e:(es.take i++ys).length=i+ys.length:=by simp;omega
   rw[e,eX]at hj1;refine out j (.inr ?_);rw[hn];omega
theorem DG{zv:Value}{sz:Nat}(h:zv.cells.size=sz)(h0:sz≠0)(n:Nat):(Builtin.zeroCells zv.cells n).toList=(List.replicate n zv.cells.toList).flatten:=by have:=range_zero zv.cells.toList (by simp;omega) n;rw[←this];simp [Builtin.zeroCells]
theorem Yh(h:St X z s a w E pb){t e ty:TypeId}{i:TypeInfo}{zv:Value}{zs:List AV}(ht:X.P.underlying t=some (.slice e))(hzv:∀w,(zeroValue e).run X.P w=.ok zv w)(hzs:zv.cells.size=i.size)(h0:i.size≠0)
  (mW:∀c,aC c zs zv.cells.toList) (hone:∀x∈zv.cells.toList,cD x=true) {x:AV} {v:Value} {σ':Heap} (eZ:A.Jf i.size zs x s.σ=some σ') (rx:ak (ctx z w E pb) x v):
  ∃w',(Builtin.clear_ #[t] ty #[v]).run X.P w=.ok (.tuple #[]) w'∧St X z (s.heap σ') a w' E pb:=by
 unfold A.Jf at eZ;have hs:s.heap s.σ=s:=rfl;split at eZ
 ·injection eZ with eZ;subst eZ
  simp only[ak]at rx;subst rx;exact⟨w,by simp [Builtin.clear_,run_underlying ht],by rw[hs];exact h⟩
 ·injection eZ with eZ;subst eZ
  simp only[ak]at rx;obtain⟨q,rfl⟩:=rx;exact⟨w,by cases q<;>simp [Builtin.clear_,run_underlying ht],by rw[hs];exact h⟩
 ·injection eZ with eZ;subst eZ
  simp only[ak]at rx;obtain⟨q,cap,rfl,_⟩:=rx;exact⟨w,by cases q<;>simp [Builtin.clear_,run_underlying ht],by rw[hs];exact h⟩
 ·rename_i id g mZ off len;simp only[ak]at rx;obtain⟨hg,p,e1,e2,qa,cp,rfl,hcap,rx⟩:=rx;split at eZ
  ·rename_i g' sz' es hs';split at eZ
   ·rename_i hc;obtain⟨hc1,nG,yB,CN⟩:=hc;subst hc1;subst nG;subst yB;obtain⟨j1,j2,j3,j4,⟨arr,bt,j5,j6⟩,j7,j8,j9⟩:=h.heap.blk id p _ e1 hs';obtain⟨k1,k2,k3⟩:=rx j1.symm;split at eZ
    ·rename_i hl;subst hl;injection eZ with eZ;subst eZ
     exact⟨w,by simp [Builtin.clear_,run_underlying ht],by rw[hs];exact h⟩
    ·rename_i hl;injection eZ with eZ;subst eZ
     have uW:qa=⟨p.b,p.base+off*p.sz,none⟩:=by
      rcases k2 with k2|k2
      ·omega
      ·exact k2
     have hsz:p.sz=i.size:=j3;have hzl:zs.length=i.size:=by rw[(mW (ctx z w E pb)).length];simpa using hzs
     have Ka:aC (ctx z w E pb) (List.replicate len zs).flatten (Builtin.zeroCells zv.cells len).toList:=by rw[DG hzs h0];exact(mW _).flatten len
     have Q4:∀x∈(Builtin.zeroCells zv.cells len).toList,cD x=true:=by rw[DG hzs h0];intro x hx;obtain⟨l,mu,rD⟩:=List.mem_flatten.1 hx;rw[List.mem_replicate]at mu;exact hone x (mu.2▸rD)
     have hlen:(Builtin.zeroCells zv.cells len).toList.length=len*i.size:=by rw[Array.length_toList,size_zeroCells,hzs]
     obtain⟨q1,q2⟩:=Iy h (i:=off) (ys:=List.replicate len zs) e1 hs' j5 (by simpa using CN) Ka Q4 (λy hy=>by rw[(List.mem_replicate.1 hy).2];exact hzl) (by simpa using hlen);have hst:=zj (P:=X.P) (b:=p.b) (off:=p.base+off*i.size) (t:=bt) (Builtin.zeroCells zv.cells len).toList 0 w arr j5 (by omega) Q4;rw[List.length_replicate]at q2;refine⟨_,?_,q2⟩;obtain⟨m,rfl⟩:∃m,len=m+1:=⟨len-1,by omega⟩
     rw[uW,hsz];simp [Builtin.clear_,run_underlying ht,hzv,hst]
   ·cases eZ
  ·cases eZ
 ·cases eZ
structure aba (P : Program) (t u : TypeId) (vy : Value) (e : TypeId) (i : TypeInfo) (zv : Value) (n : Nat) (news : List Value) (w : World) : Prop where
 AQ:∀(w2:World)(ty:TypeId)(base:Option Addr)(sLen sCap:Nat),w2.heap=w.heap→sLen+n≤sCap→
  (Builtin.append_ #[t,u] ty #[.slice base sLen sCap,vy]).run P w2=((match base with|some a=>storeCells (a.add (sLen*i.size)) news 0|none=>pure ()) >>= λ_=>pure (Value.slice base (sLen+n) sCap):Sem Value).run P w2
 new:∀(ty:TypeId)(base:Option Addr)(sLen sCap:Nat)(olds:List Value),(Builtin.firstCells i.size sLen (.slice base sLen sCap)).run P w.drew=.ok olds.toArray w.drew→sCap<sLen+n→sLen+n≤140737488355328 / i.bytes→
  (Builtin.append_ #[t,u] ty #[.slice base sLen sCap,vy]).run P w=
   .ok (.slice (some ⟨w.heap.size,0,none⟩) (sLen+n) (grownCap w (sLen+n) sCap e)) (w.drew.alloc (.cells (olds.toArray++news.toArray++Builtin.zeroCells zv.cells (grownCap w (sLen+n) sCap e-(sLen+n))) e))
theorem NT{zv:Value}{sz:Nat}(hzs:zv.cells.size=sz)(h0:sz≠0)(hone:∀x∈zv.cells.toList,cD x=true)(n:Nat):∀x∈(Builtin.zeroCells zv.cells n).toList,cD x=true:=by rw[DG hzs h0];intro x hx;obtain⟨l,mu,rD⟩:=List.mem_flatten.1 hx;rw[List.mem_replicate]at mu;exact hone x (mu.2▸rD)
theorem EB{zv:Value}{sz:Nat}(hzs:zv.cells.size=sz)(h0:sz≠0)(hone:∀x∈zv.cells.toList,cD x=true){olds news:List Value}(h1:∀x∈olds,cD x=true)(h2:∀x∈news,cD x=true)(n:Nat):
  ∀x∈(olds.toArray++news.toArray++Builtin.zeroCells zv.cells n).toList,cD x=true:=by
 intro x hx;simp only[Array.toList_append,List.toList_toArray,eN]at hx;rcases hx with(hx|hx)|hx
 ·exact h1 x hx
 ·exact h2 x hx
 ·exact NT hzs h0 hone n x hx
theorem MT(h:St X z s a w E pb){t u e ty:TypeId}{i:TypeInfo}{zv:Value}(hzs:zv.cells.size=i.size)(h0:i.size≠0)(hone:∀x∈zv.cells.toList,cD x=true)
  {x:AV} {v vy:Value} {r:AV} {σ':Heap} {ys:List (List AV)} {news:List Value} (hs2:aba X.P t u vy e i zv ys.length news w) (hn2:aC (ctx z w E pb) ys.flatten news) (kF:∀x∈news,cD x=true) (mV:news.length=ys.length*i.size) (pJ:∀y∈ys,y.length=i.size)
  (hap:A.jZ i.size (140737488355328 / i.bytes) x ys s.σ=some (r,σ')) (rx:ak (ctx z w E pb) x v):
  ∃k w' E',(Builtin.append_ #[t,u] ty #[v,vy]).run X.P w=.ok k w'∧St X z (s.heap σ') a w' E' pb∧ak (ctx z w' E' pb) r k:=by
 unfold A.jZ at hap;have hne:ys≠[]→0<ys.length:=λk=>by cases ys with|nil=>exact absurd rfl k|cons y ys=>simp
 have Fk:∀k,(Builtin.zeroCells zv.cells k).size=k*i.size:=λk=>by rw[size_zeroCells,hzs]
 cases x<;>simp only at hap<;>first|(cases hap;done)|skip
 case aN=>
  simp only[ak]at rx;subst rx;split at hap
  ·rename_i hys;subst hys;simp only[Option.some.injEq,Prod.mk.injEq]at hap;obtain⟨rfl,rfl⟩:=hap;exact⟨.slice none 0 0,w,E,by have:=hs2.AQ w ty none 0 0 rfl (by simp);simpa using this,h,by simp [ak]⟩
  ·rename_i hys;have hpos:=hne hys;split at hap
   ·rename_i abn;simp only[Option.some.injEq,Prod.mk.injEq]at hap;obtain⟨rfl,rfl⟩:=hap;have hrun:=hs2.new ty none 0 0 [] (by simp [Builtin.firstCells]) (by omega) (by omega);simp only[Nat.zero_add]at hrun;refine⟨_,_,E++[⟨w.heap.size,0,ys.length,i.size,(news.toArray++Builtin.zeroCells zv.cells (grownCap w ys.length 0 e-ys.length)).size⟩],hrun,?_,?_⟩
    ·have hst:=(h.grow (w':=w.drew) ((Below.refl _ _).drew)).tZ (.cells (#[]++news.toArray++Builtin.zeroCells zv.cells (grownCap w ys.length 0 e-ys.length)) e) (.arr ys.length i.size ys)
      ⟨w.heap.size,0,ys.length,i.size,(news.toArray++Builtin.zeroCells zv.cells (grownCap w ys.length 0 e-ys.length)).size⟩ rfl (λhx=>?_)
     ·exact hst
     ·have hb:(w.drew.alloc (.cells (#[]++news.toArray++Builtin.zeroCells zv.cells (grownCap w ys.length 0 e-ys.length)) e)).heap[w.heap.size]? =some (.cells (#[]++news.toArray++Builtin.zeroCells zv.cells (grownCap w ys.length 0 e-ys.length)) e (0,0)):=(MapKept.heap_alloc w.drew _).1;refine⟨rfl,hpos,rfl,by omega,⟨_,_,hb,by simp⟩,by simp [mV],aT.xT pJ ?_,vI hb (EB hzs h0 hone (olds:=[]) (by simp) kF _)⟩;exact aT.sub (pre:=[]) (suf:=(Builtin.zeroCells zv.cells (grownCap w ys.length 0 e-ys.length)).toList) hb (by simp) (aC.mono (Ext.trans (pY ((Below.refl _ _).drew)) hx) _ _ hn2) kF
    ·simp only[ak];have hlen:=h.heap.len;simp only[ctx]at hlen;refine⟨hpos,⟨w.heap.size,0,ys.length,i.size,_⟩,by show(E++[_])[s.σ.length]? =_;rw[←hlen];exact vS,ay _,_,_,rfl,grownCap_ge _ _ _ _,λ_=>⟨rfl,.inr (by simp),?_⟩⟩;have:=grownCap_ge w ys.length 0 e;simp only[Array.size_append,Fk,List.size_toArray,mV,Nat.zero_add];rw[←eX];congr 1;omega
   ·cases hap
 case ez=>
  simp only[ak]at rx;obtain⟨qb,rfl⟩:=rx;split at hap
  ·rename_i hys;subst hys;simp only[Option.some.injEq,Prod.mk.injEq]at hap;obtain⟨rfl,rfl⟩:=hap;have hnews:news=[]:=by simpa using mV
   subst hnews;exact⟨.slice qb 0 0,w,E,by have:=hs2.AQ w ty qb 0 0 rfl (by simp);cases qb<;>simpa [storeCells]using this,h,by simp [ak]⟩
  ·rename_i hys;have hpos:=hne hys;split at hap
   ·rename_i abn;simp only[Option.some.injEq,Prod.mk.injEq]at hap;obtain⟨rfl,rfl⟩:=hap;have hrun:=hs2.new ty qb 0 0 [] (by cases qb<;>simp [Builtin.firstCells,loadCells,loadCellsFrom]) (by omega) (by omega);simp only[Nat.zero_add]at hrun;refine⟨_,_,E++[⟨w.heap.size,0,ys.length,i.size,(news.toArray++Builtin.zeroCells zv.cells (grownCap w ys.length 0 e-ys.length)).size⟩],hrun,?_,?_⟩
    ·have hst:=(h.grow (w':=w.drew) ((Below.refl _ _).drew)).tZ (.cells (#[]++news.toArray++Builtin.zeroCells zv.cells (grownCap w ys.length 0 e-ys.length)) e) (.arr ys.length i.size ys)
      ⟨w.heap.size,0,ys.length,i.size,(news.toArray++Builtin.zeroCells zv.cells (grownCap w ys.length 0 e-ys.length)).size⟩ rfl (λhx=>?_)
     ·exact hst
     ·have hb:(w.drew.alloc (.cells (#[]++news.toArray++Builtin.zeroCells zv.cells (grownCap w ys.length 0 e-ys.length)) e)).heap[w.heap.size]? =some (.cells (#[]++news.toArray++Builtin.zeroCells zv.cells (grownCap w ys.length 0 e-ys.length)) e (0,0)):=(MapKept.heap_alloc w.drew _).1;refine⟨rfl,hpos,rfl,by omega,⟨_,_,hb,by simp⟩,by simp [mV],aT.xT pJ ?_,vI hb (EB hzs h0 hone (olds:=[]) (by simp) kF _)⟩;exact aT.sub (pre:=[]) (suf:=(Builtin.zeroCells zv.cells (grownCap w ys.length 0 e-ys.length)).toList) hb (by simp) (aC.mono (Ext.trans (pY ((Below.refl _ _).drew)) hx) _ _ hn2) kF
    ·simp only[ak];have hlen:=h.heap.len;simp only[ctx]at hlen;refine⟨hpos,⟨w.heap.size,0,ys.length,i.size,_⟩,by show(E++[_])[s.σ.length]? =_;rw[←hlen];exact vS,ay _,_,_,rfl,grownCap_ge _ _ _ _,λ_=>⟨rfl,.inr (by simp),?_⟩⟩;have:=grownCap_ge w ys.length 0 e;simp only[Array.size_append,Fk,List.size_toArray,mV,Nat.zero_add];rw[←eX];congr 1;omega
   ·cases hap
 case os tF og mZ off len=>
  have Lz:=rx;simp only[ak]at rx;obtain⟨hg,p,e1,e2,qa,cp,rfl,hcap,rx⟩:=rx;split at hap
  ·rename_i g' sz' es hs;split at hap
   ·rename_i hc;obtain⟨hc1,nG,yB,CN,KU⟩:=hc;subst hc1;subst nG;subst yB;obtain⟨j1,j2,j3,j4,⟨arr,bt,j5,j6⟩,j7,j8,j9⟩:=h.heap.blk tF p _ e1 hs;obtain⟨k1,k2,k3⟩:=rx j1.symm;split at hap
    ·rename_i hys;subst hys;simp only[Option.some.injEq,Prod.mk.injEq]at hap;obtain⟨rfl,rfl⟩:=hap;have hnews:news=[]:=by simpa using mV
     subst hnews;exact⟨.slice (some qa) len cp,w,E,by have:=hs2.AQ w ty (some qa) len cp rfl (by simpa using hcap);simpa [storeCells]using this,h,Lz⟩
    ·rename_i hys;have hpos:=hne hys;have JV:(off+cp)*i.size=p.mQ-p.base:=by rw[←j3];omega
     split at hap
     ·rename_i hin;simp only[Option.some.injEq,Prod.mk.injEq]at hap;obtain⟨rfl,rfl⟩:=hap;obtain⟨q1,q2⟩:=Iy h (i:=off+len) (ys:=ys) e1 hs j5 (by omega) hn2 kF pJ mV
      have eZ:es.length≤off+cp:=by
       have h1:es.length*i.size≤(off+cp)*i.size:=by rw[JV];omega
       exact Nat.le_of_mul_le_mul_right h1 (by omega)
      have hroom:len+ys.length≤cp:=by omega
      have uW:qa=⟨p.b,p.base+off*p.sz,none⟩:=by
       rcases k2 with k2|k2
       ·omega
       ·exact k2
      have hsz:p.sz=i.size:=j3;have hst:=zj (P:=X.P) (b:=p.b) (off:=p.base+(off+len)*i.size) (t:=bt) news 0 w arr j5 (by omega) kF
      have hrun:(Builtin.append_ #[t,u] ty #[.slice (some qa) len cp,vy]).run X.P w=.ok (.slice (some qa) (len+ys.length) cp) (w.cM p.b (.cells (dV arr (p.base+(off+len)*i.size) news) bt (0,0))):=by
       have wM:qa.add (len*i.size)=⟨p.b,p.base+(off+len)*i.size,none⟩:=by rw[uW,lu,hsz];congr 1;rw[eX];omega
       rw[hs2.AQ w ty (some qa) len cp rfl hroom];simp [wM,hst]
      refine⟨_,_,E,hrun,q2,?_⟩;simp only[ak];exact⟨hg,p,e1,e2,qa,cp,rfl,hroom,λ_=>⟨hsz,.inr uW,k3⟩⟩
     simp only[Option.some.injEq,Prod.mk.injEq]at hap;obtain⟨rfl,rfl⟩:=hap;have lP:((es.drop off).take len).length=len:=by simp;omega
     by_cases hroom:len+ys.length≤cp
     ·-- room
      have uW:qa=⟨p.b,p.base+off*p.sz,none⟩:=by
       rcases k2 with k2|k2
       ·omega
       ·exact k2
      have hsz:p.sz=i.size:=j3;have mU:(off+(len+ys.length))*i.size≤(off+cp)*i.size:=kC _ (by omega);rw[hsz]at k3;have Rp:(off+len)*i.size=off*i.size+len*i.size:=eX _ _ _;have adq:(off+(len+ys.length))*i.size=(off+len)*i.size+ys.length*i.size:=by rw[←kQ,eX]
      have hfit:p.base+(off+len)*i.size+0+news.length≤arr.size:=by rw[mV,j6];omega
      have hst:=zj (P:=X.P) (b:=p.b) (off:=p.base+(off+len)*i.size) (t:=bt) news 0 w arr j5 hfit kF
      have hrun:(Builtin.append_ #[t,u] ty #[.slice (some qa) len cp,vy]).run X.P w=.ok (.slice (some qa) (len+ys.length) cp) (w.cM p.b (.cells (dV arr (p.base+(off+len)*i.size) news) bt (0,0))):=by
       have wM:qa.add (len*i.size)=⟨p.b,p.base+(off+len)*i.size,none⟩:=by rw[uW,lu,hsz];congr 1;omega
       rw[hs2.AQ w ty (some qa) len cp rfl hroom];simp [wM,hst]
      have hlt:p.b<w.heap.size:=h.heap.lt (p:=p) (dF e1);have hh:=qE (w:=w) (.cells (dV arr (p.base+(off+len)*i.size) news) bt (0,0)) hlt;have vP:p.base+(off+len)*i.size+news.length≤arr.size:=by omega
      have AK:=h.move (id:=tF) (p:=p) (p':=⟨p.b,p.base+off*i.size,og+ys.length,i.size,p.mQ⟩) (w':=w.cM p.b (.cells (dV arr (p.base+(off+len)*i.size) news) bt (0,0))) (blk:=.arr (og+ys.length) i.size ((es.drop off).take len++ys)) e1
       ⟨by omega,by show p.g<og+ys.length;omega⟩ rfl rfl rfl (by rw[wZ];exact ay _) (λb hb _=>tN _ (λe=>hb e.symm)) (.inl rfl) (λhx=>by
        have hcell:∀j,(w.cM p.b (.cells (dV arr (p.base+(off+len)*i.size) news) bt (0,0))).cell? ⟨p.b,j,none⟩=(dV arr (p.base+(off+len)*i.size) news)[j]? :=λj=>rZ hh
        have hold:∀j,w.cell? ⟨p.b,j,none⟩=arr[j]? :=λj=>rZ j5
        refine⟨rfl,by show 0<og+ys.length;omega,rfl,by omega,⟨_,_,hh,by rw[IL _ _ _ vP];exact j6⟩,?_,?_,vI hh (zY (j9 _ _ _ j5) kF)⟩
        ·simp only[List.length_append,lP,eX];omega
        ·refine aX.append (aX.keep hx ((j8.drop off).take len) λj hj1 hj2=>?_) ?_
         ·rw[lP]at hj2;replace hj1:p.base+off*i.size≤j:=hj1;replace hj2:j<p.base+off*i.size+len*i.size:=hj2;show(w.cM p.b _).cell? _=w.cell? _;rw[hcell,hold,z8 _ _ _ vP,aI (by omega)]
         ·rw[lP];refine aT.xT pJ ?_;refine aT.tE hh (aC.mono hx _ _ hn2) kF λj hj=>?_
          show(dV arr (p.base+(off+len)*i.size) news)[p.base+off*i.size+len*i.size+j]? =_;rw[z8 _ _ _ vP,aK (by omega)]
          congr 1;omega)
      refine⟨_,_,_,hrun,AK.1,?_⟩;simp only[ak];have hid:tF<E.length:=(bU.1 e1).1;refine⟨by omega,⟨p.b,p.base+off*i.size,og+ys.length,i.size,p.mQ⟩,by simp [ctx,hid],ay _,qa,cp,rfl,hroom,λ_=>⟨rfl,.inr (by rw[uW,hsz];simp),?_⟩⟩;simp only[Nat.zero_add];rw[eX]at k3;omega
     ·have hel:A.elems i.size (.os tF og i.size off len) s.σ=some ((es.drop off).take len):=by simp only[A.elems,hs];rw[aK (by simp;omega)]
      obtain⟨q2,abP,olds,CC,wL,CQ,CR,CS,K0⟩:=Ii (P:=X.P) h.heap hel Lz;rw[lP]at wL CS;injection CC with e2a e2b e2c
      have hrun:=hs2.new ty _ _ _ _ (wL w.drew rfl) (by omega) KU;obtain⟨nc,hnc⟩:∃nc,nc=grownCap w (len+ys.length) cp e:=⟨_,rfl⟩
      have B4:len+ys.length≤nc:=by rw[hnc];exact grownCap_ge _ _ _ _
      rw[←hnc]at hrun;obtain⟨row,hrow⟩:∃row,row=olds.toArray++news.toArray++Builtin.zeroCells zv.cells (nc-(len+ys.length)):=⟨_,rfl⟩
      have Cg:row.size=nc*i.size:=by rw[hrow];simp only[Array.size_append,Fk,List.size_toArray,mV,CS];rw[←eX,←eX];congr 1;omega
      have hrl:row.toList=olds++news++(Builtin.zeroCells zv.cells (nc-(len+ys.length))).toList:=by rw[hrow];simp
      rw[←hrow]at hrun;have hb:(w.drew.alloc (.cells row e)).heap[w.heap.size]? =some (.cells row e (0,0)):=(MapKept.heap_alloc w.drew _).1
      have AK:=h.move (id:=tF) (p:=p) (p':=⟨w.heap.size,0,og+ys.length,i.size,row.size⟩) (w':=w.drew.alloc (.cells row e)) (blk:=.arr (og+ys.length) i.size ((es.drop off).take len++ys)) e1
       ⟨by omega,by show p.g<og+ys.length;omega⟩ rfl rfl rfl (by simp) (λb hb' hlt=>by rw[Below.heap_alloc w.drew _ b (by simpa using hlt)];rfl) (.inr ⟨ay _,by simp⟩) (λhx=>by
        refine⟨rfl,by show 0<og+ys.length;omega,rfl,by omega,⟨_,_,hb,rfl⟩,?_,aT.xT (λx hx'=>?_) ?_,vI hb (by rw[hrow];exact EB hzs h0 hone CR kF _)⟩
        ·simp only[List.length_append,lP,Nat.zero_add,Cg];exact kC _ B4
        ·rcases eN.1 hx' with hx'|hx'
         ·exact K0 x hx'
         ·exact pJ x hx'
        ·rw[List.flatten_append]
         exact aT.sub (pre:=[]) (vs:=olds++news) (suf:=(Builtin.zeroCells zv.cells (nc-(len+ys.length))).toList) hb (by rw[hrl];simp) (aC.mono hx _ _ (CQ.append hn2)) (λx hx'=>by
          rcases eN.1 hx' with hx'|hx'
          ·exact CR x hx'
          ·exact kF x hx'))
      refine⟨_,_,_,hrun,AK.1,?_⟩;simp only[ak];have hid:tF<E.length:=(bU.1 e1).1;refine⟨by omega,⟨w.heap.size,0,og+ys.length,i.size,row.size⟩,by simp [ctx,hid],ay _,_,_,rfl,B4,λ_=>⟨rfl,.inr (by simp),?_⟩⟩;simp only[Nat.zero_add,Cg]
   ·cases hap
  ·rename_i g' sz' es hs;split at hap
   ·rename_i hc;obtain⟨hc1,nG,yB,CN,KU,hc6⟩:=hc;subst hc1;subst nG;subst yB;obtain⟨j1,j2,j3,j4,⟨arr,bt,j5,j6⟩,j7,j8,j9⟩:=h.heap.blk tF p _ e1 hs;obtain⟨k1,k2,k3⟩:=rx j1.symm;simp only[Option.some.injEq,Prod.mk.injEq]at hap;obtain⟨rfl,rfl⟩:=hap;have lP:((es.drop off).take len).length=len:=by simp;omega
    have JV:(off+cp)*i.size=es.length*i.size:=by rw[←j3]at j7 ⊢;omega
    have hco:off+cp=es.length:=Nat.eq_of_mul_eq_mul_right j4 JV
    have hel:A.elems i.size (.os tF og i.size off len) s.σ=some ((es.drop off).take len):=by simp only[A.elems,hs];rw[aK (by simp;omega)]
    obtain⟨q2,abP,olds,CC,wL,CQ,CR,CS,K0⟩:=Ii (P:=X.P) h.heap hel Lz;rw[lP]at wL CS;injection CC with e2a e2b e2c
    have hrun:=hs2.new ty _ _ _ _ (wL w.drew rfl) (by omega) KU;obtain⟨nc,hnc⟩:∃nc,nc=grownCap w (len+ys.length) cp e:=⟨_,rfl⟩
    have B4:len+ys.length≤nc:=by rw[hnc];exact grownCap_ge _ _ _ _
    rw[←hnc]at hrun;obtain⟨row,hrow⟩:∃row,row=olds.toArray++news.toArray++Builtin.zeroCells zv.cells (nc-(len+ys.length)):=⟨_,rfl⟩
    have Cg:row.size=nc*i.size:=by rw[hrow];simp only[Array.size_append,Fk,List.size_toArray,mV,CS];rw[←eX,←eX];congr 1;omega
    have hrl:row.toList=olds++news++(Builtin.zeroCells zv.cells (nc-(len+ys.length))).toList:=by rw[hrow];simp
    rw[←hrow]at hrun;have hb:(w.drew.alloc (.cells row e)).heap[w.heap.size]? =some (.cells row e (0,0)):=(MapKept.heap_alloc w.drew _).1
    have hst:=(h.grow (w':=w.drew) ((Below.refl _ _).drew)).tZ (.cells row e) (.arr (len+ys.length) i.size ((es.drop off).take len++ys))
      ⟨w.heap.size,0,len+ys.length,i.size,row.size⟩ rfl (λhx=>by
      refine⟨rfl,by show 0<len+ys.length;omega,rfl,by omega,⟨_,_,hb,rfl⟩,?_,aT.xT (λx hx'=>?_) ?_,vI hb (by rw[hrow];exact EB hzs h0 hone CR kF _)⟩
      ·simp only[List.length_append,lP,Nat.zero_add,Cg];exact kC _ B4
      ·rcases eN.1 hx' with hx'|hx'
       ·exact K0 x hx'
       ·exact pJ x hx'
      ·rw[List.flatten_append]
       exact aT.sub (pre:=[]) (vs:=olds++news) (suf:=(Builtin.zeroCells zv.cells (nc-(len+ys.length))).toList) hb (by rw[hrl];simp) (aC.mono (Ext.trans (pY ((Below.refl _ _).drew)) hx) _ _ (CQ.append hn2)) (λx hx'=>by
        rcases eN.1 hx' with hx'|hx'
        ·exact CR x hx'
        ·exact kF x hx'))
    refine⟨_,_,_,hrun,hst,?_⟩;simp only[ak];have hlen:=h.heap.len;simp only[ctx]at hlen;refine⟨by omega,⟨w.heap.size,0,len+ys.length,i.size,row.size⟩,by show(E++[_])[s.σ.length]? =_;rw[←hlen];exact vS,ay _,_,_,rfl,B4,λ_=>⟨rfl,.inr (by simp),?_⟩⟩;simp only[Nat.zero_add,Cg]
   ·cases hap
  ·cases hap
theorem W8(h:St X z s a w E pb){t u e e' ty:TypeId}{i:TypeInfo}{zv:Value}(ht:X.P.underlying t=some (.slice e))(hu:X.P.underlying u=some (.slice e'))(hi:X.P.info? e=some i)(hz:i.zero=some zv)(hzs:zv.cells.size=i.size)(h0:i.size≠0)(hb0:i.bytes≠0)(hone:∀x∈zv.cells.toList,cD x=true)
  {x y:AV} {v vy:Value} {r:AV} {σ':Heap} (hap:A.append i.size (140737488355328 / i.bytes) x y s.σ=some (r,σ')) (rx:ak (ctx z w E pb) x v) (ry:ak (ctx z w E pb) y vy):
  ∃k w' E',(Builtin.append_ #[t,u] ty #[v,vy]).run X.P w=.ok k w'∧St X z (s.heap σ') a w' E' pb∧ak (ctx z w' E' pb) r k:=by
 unfold A.append at hap;obtain⟨ys,hy,hap⟩:=bg.1 hap;obtain⟨q,cap,news,rfl,hn1,hn2,kF,mV,pJ⟩:=Ii (P:=X.P) h.heap hy ry;refine MT h hzs h0 hone ⟨λw2 ty base sLen sCap hw hr=>?_,λty base sLen sCap olds ho hg hm=>UU ht hu hi hz hb0 ho (hn1 w.drew rfl) hg hm⟩ hn2 kF mV pJ hap rx;cases base<;>simp [Builtin.append_,run_underlying ht,run_underlying hu,sizeOf,typeInfo,hi,Builtin.lenOf,hn1 w2 hw,hr]
theorem Mn(zs:Array Value):Builtin.zeroCells zs 0=#[]:=by apply jv.1;apply uk;rw[Array.length_toList,size_zeroCells];simp
theorem UT{P:Program}{t u e ty:TypeId}{k k':IntKind}{i:TypeInfo}{zv:Value}(ht:P.underlying t=some (.slice e))(hu:P.underlying u=some (.int k))(hi:P.info? e=some i)(hz:i.zero=some zv)(hb0:i.bytes≠0)(h0:i.size≠0)
  {base:Option Addr} {sLen sCap n:Nat} {w2:World} (hm:n≤140737488355328 / i.bytes) (hr:sLen+n≤sCap):
  (Builtin.append_ #[t,u] ty #[.slice base sLen sCap,.int k' n]).run P w2=((match base with|some a=>storeCells (a.add (sLen*i.size)) (Builtin.zeroCells zv.cells n).toList 0|none=>pure ()) >>= λ_=>pure (Value.slice base (sLen+n) sCap):Sem Value).run P w2:=by
 have EY:n*i.bytes≤140737488355328:=by have:=kC i.bytes hm;have:=Nat.div_mul_le_self 140737488355328 i.bytes;omega
 have hle:n≤n*i.bytes:=Nat.le_mul_of_pos_right _ (by omega);have hw:IntKind.i64.wrap (n:Int)=(n:Int):=by rw[IntKind.wrap_i64];omega
 have hl:¬((281474976710656:Int)<(n:Int)*(i.bytes:Int)):=by
  have:(n:Int)*(i.bytes:Int)=((n*i.bytes:Nat):Int):=by simp
  omega
 have hlf:¬((n:Int)<0):=by omega
 by_cases hn0:n=0
 ·subst hn0;have hw0:IntKind.i64.wrap 0=0:=by decide
  have hr':sLen≤sCap:=by omega
  cases base<;>simp [Builtin.append_,run_underlying ht,run_underlying hu,sizeOf,typeInfo,hi,asInt,asIntOf,hw0,hr',Mn]
 ·have AM:n*i.size≠0:=Nat.mul_ne_zero hn0 h0;cases base<;>simp [Builtin.append_,run_underlying ht,run_underlying hu,sizeOf,typeInfo,zeroValue,hi,hz,asInt,asIntOf,hw,hl,hlf,hr,AM]
theorem UE{P:Program}{t u e ty:TypeId}{k k':IntKind}{i:TypeInfo}{zv:Value}(ht:P.underlying t=some (.slice e))(hu:P.underlying u=some (.int k))(hi:P.info? e=some i)(hz:i.zero=some zv)(hb0:i.bytes≠0)(h0:i.size≠0)
  {base:Option Addr} {sLen sCap n:Nat} {olds:List Value} (hold:(Builtin.firstCells i.size sLen (.slice base sLen sCap)).run P w.drew=.ok olds.toArray w.drew)
  (hg:sCap<sLen+n) (hm:sLen+n≤140737488355328 / i.bytes):
  (Builtin.append_ #[t,u] ty #[.slice base sLen sCap,.int k' n]).run P w=
   .ok (.slice (some ⟨w.heap.size,0,none⟩) (sLen+n) (grownCap w (sLen+n) sCap e)) (w.drew.alloc (.cells (olds.toArray++(Builtin.zeroCells zv.cells n).toList.toArray++Builtin.zeroCells zv.cells (grownCap w (sLen+n) sCap e-(sLen+n))) e)):=by
 have EY:(sLen+n)*i.bytes≤140737488355328:=by have:=kC i.bytes hm;have:=Nat.div_mul_le_self 140737488355328 i.bytes;omega
 have hle:sLen+n≤(sLen+n)*i.bytes:=Nat.le_mul_of_pos_right _ (by omega);have h48:=growslice_fits hg EY;have hn:¬(sLen+n≤sCap):=by omega
 have Ce:¬(281474976710656<Builtin.nextslicecap (sLen+n) sCap*i.bytes):=by omega
 have hw:IntKind.i64.wrap (n:Int)=(n:Int):=by rw[IntKind.wrap_i64];omega
 have hnb:n*i.bytes≤(sLen+n)*i.bytes:=kC _ (by omega)
 have hl:¬((281474976710656:Int)<(n:Int)*(i.bytes:Int)):=by
  have:(n:Int)*(i.bytes:Int)=((n*i.bytes:Nat):Int):=by simp
  omega
 have hlf:¬((n:Int)<0):=by omega
 have yE:¬((9223372036854775807:Int)<(sLen:Int)+(n:Int)):=by omega
 by_cases hn0:n=0
 ·subst hn0;have hw0:IntKind.i64.wrap 0=0:=by decide
  have ach:¬((9223372036854775807:Int)<(sLen:Int)):=by omega
  simp only[Nat.add_zero]at hn Ce ⊢;simp [Builtin.append_,run_underlying ht,run_underlying hu,sizeOf,typeInfo,zeroValue,hi,hz,asInt,asIntOf,hw0,hn,Ce,hb0,Question.forced,hold,newRow,grownCap,Mn,ach]
 ·have AM:n*i.size≠0:=Nat.mul_ne_zero hn0 h0;simp [Builtin.append_,run_underlying ht,run_underlying hu,sizeOf,typeInfo,zeroValue,hi,hz,asInt,asIntOf,hw,hl,hlf,hn,AM,Ce,hb0,Question.forced,hold,newRow,grownCap,yE]
theorem Wh(h:St X z s a w E pb){t u e ty:TypeId}{kk:IntKind}{i:TypeInfo}{zv:Value}{zs:List AV}(ht:X.P.underlying t=some (.slice e))(hu:X.P.underlying u=some (.int kk))(hi:X.P.info? e=some i)(hz:i.zero=some zv)(hzs:zv.cells.size=i.size)(h0:i.size≠0)(hb0:i.bytes≠0)
  (mW:∀c,aC c zs zv.cells.toList) (hone:∀x∈zv.cells.toList,cD x=true)
  {x y:AV} {v vy:Value} {r:AV} {σ':Heap} (hap:A.qJ i.size (140737488355328 / i.bytes) zs x y s.σ=some (r,σ')) (rx:ak (ctx z w E pb) x v) (ry:ak (ctx z w E pb) y vy):
  ∃k w' E',(Builtin.append_ #[t,u] ty #[v,vy]).run X.P w=.ok k w'∧St X z (s.heap σ') a w' E' pb∧ak (ctx z w' E' pb) r k:=by
 unfold A.qJ at hap;split at hap
 ·rename_i k n;simp only[ak]at ry;subst ry;split at hap
  ·rename_i hn;obtain⟨hn1,hn2⟩:=hn;obtain⟨m,rfl⟩:∃m:Nat,n=m:=⟨n.toNat,by omega⟩
   simp only[Int.toNat_natCast]at hap;have hzl:zs.length=i.size:=by rw[(mW (ctx z w E pb)).length];simpa using hzs
   have hm:m≤140737488355328 / i.bytes:=by omega
   refine MT (e:=e) h hzs h0 hone (ys:=List.replicate m zs) (news:=(Builtin.zeroCells zv.cells m).toList) ⟨λw2 ty base sLen sCap hw hr=>?_,λty base sLen sCap olds ho hg hmm=>?_⟩ ?_ (NT hzs h0 hone m) ?_ (λy hy=>by rw[(List.mem_replicate.1 hy).2];exact hzl) hap rx
   ·rw[List.length_replicate]at hr ⊢;exact UT ht hu hi hz hb0 h0 hm hr
   ·rw[List.length_replicate]at hg hmm ⊢;exact UE ht hu hi hz hb0 h0 ho hg hmm
   ·rw[DG hzs h0];exact(mW _).flatten m
   ·rw[Array.length_toList,size_zeroCells,hzs,List.length_replicate]
  ·cases hap
 ·cases hap
theorem Zh(h:St X z s a w E pb){t u e e' ty:TypeId}{i:TypeInfo}(ht:X.P.underlying t=some (.slice e))(hu:X.P.underlying u=some (.slice e'))(hi:X.P.info? e=some i)(h0:i.size≠0)
  {x y:AV} {v vy:Value} {r:AV} {σ':Heap} (kV:A.hM i.size x y s.σ=some (r,σ')) (rx:ak (ctx z w E pb) x v) (ry:ak (ctx z w E pb) y vy):
  ∃k w',(Builtin.copy_ #[t,u] ty #[v,vy]).run X.P w=.ok k w'∧St X z (s.heap σ') a w' E pb∧ak (ctx z w' E pb) r k:=by
 unfold A.hM at kV;obtain⟨ys,hy,kV⟩:=bg.1 kV;obtain⟨q,cap,news,rfl,hn1,hn2,kF,mV,pJ,AL⟩:=MX (P:=X.P) h.heap hy ry;have hs0:s.heap s.σ=s:=rfl
 have CO:(Builtin.firstCells i.size 0 (.slice q ys.length cap)).run X.P w=.ok #[] w:=by have:=AL 0 (gU _) w rfl;simpa using this
 cases x<;>simp only at kV<;>first|(cases kV;done)|skip
 case aN=>
  simp only[Option.some.injEq,Prod.mk.injEq]at kV;obtain⟨rfl,rfl⟩:=kV;simp only[ak]at rx;subst rx;exact⟨goInt 0,w,by simp [Builtin.copy_,run_underlying ht,sizeOf,typeInfo,hi,Builtin.lenOf,CO,Nat.min],by rw[hs0];exact h,by simp [ak,goInt]⟩
 case ez=>
  simp only[Option.some.injEq,Prod.mk.injEq]at kV;obtain⟨rfl,rfl⟩:=kV;simp only[ak]at rx;obtain⟨qb,rfl⟩:=rx;exact⟨goInt 0,w,by cases qb<;>simp [Builtin.copy_,run_underlying ht,sizeOf,typeInfo,hi,Builtin.lenOf,CO,storeCells],by rw[hs0];exact h,by simp [ak,goInt]⟩
 case os=>
  rename_i tF og mZ off len adL;simp only[ak]at rx;obtain⟨hg,p,e1,e2,qa,cp,rfl,hcap,rx⟩:=rx;split at kV
  ·rename_i g' sz' es hs;split at kV
   ·rename_i hc;obtain⟨hc1,nG,yB,CN⟩:=hc;subst hc1;subst nG;subst yB;obtain⟨j1,j2,j3,j4,⟨arr,bt,j5,j6⟩,j7,j8,j9⟩:=h.heap.blk tF p _ e1 hs;obtain⟨k1,k2,k3⟩:=rx j1.symm;have hmin:Nat.min ys.length len=(ys.take len).length:=by rw[gn];exact Nat.min_comm _ _
    split at kV
    ·rename_i hz;simp only[Option.some.injEq,Prod.mk.injEq]at kV;obtain⟨rfl,rfl⟩:=kV;have hm0:Nat.min ys.length len=0:=by rcases hz with k|k<;>rw[k]<;>simp [Nat.min_def]
     refine⟨goInt 0,w,?_,by rw[hs0];exact h,by simp [ak,goInt]⟩;simp [Builtin.copy_,run_underlying ht,sizeOf,typeInfo,hi,Builtin.lenOf,hm0,CO,storeCells]
    ·rename_i hz;simp only[Option.some.injEq,Prod.mk.injEq]at kV;obtain⟨rfl,rfl⟩:=kV
     have uW:qa=⟨p.b,p.base+off*p.sz,none⟩:=by
      rcases k2 with k2|k2
      ·omega
      ·exact k2
     have hsz:p.sz=i.size:=j3;obtain⟨n,hn⟩:∃n,n=(ys.take len).length:=⟨_,rfl⟩
     have hnl:n≤ys.length∧n≤len:=by rw[hn,gn];omega
     have FK:=AL n hnl.1 w rfl;have hyt:ys.take len=ys.take n:=by rw[hn,gn];rw[List.take_eq_take_iff];omega
     have abm:(news.take (n*i.size)).length=n*i.size:=by rw[gn,mV];exact Nat.min_eq_left (kC _ hnl.1)
     have Ka:aC (ctx z w E pb) (ys.take n).flatten (news.take (n*i.size)):=by have:(ys.take n).flatten=ys.flatten.take (n*i.size):=Mw pJ hnl.1;rw[this];exact hn2.take _
     obtain⟨q1,q2⟩:=Iy h (i:=off) (ys:=ys.take n) e1 hs j5 (by rw[gn];omega) Ka (λx hx=>kF x (uo hx)) (λy hy=>pJ y (uo hy)) (by rw[abm,gn];congr 1;omega);have hst:=zj (P:=X.P) (b:=p.b) (off:=p.base+off*i.size) (t:=bt) (news.take (n*i.size)) 0 w arr j5 (by omega) (λx hx=>kF x (uo hx));rw[hyt];have CP:(ys.take n).length=n:=by rw[gn];omega
     refine⟨goInt n,_,?_,q2,?_⟩
     ·rw[uW,hsz];simp [Builtin.copy_,run_underlying ht,sizeOf,typeInfo,hi,Builtin.lenOf,hmin,←hn,FK,hst]
     ·rw[CP];simp [ak,goInt]
   ·cases kV
  ·cases kV
theorem all_some{R:Type}{p:Nat→Prop}{k:Nat→Option R}{r:R}(h:A.all p k=some r){n:Nat}(hn:p n):k n=some r:=by
 unfold A.all at h;split at h
 ·rename_i hx;injection h with h
  rw[←h];exact Classical.choose_spec hx n hn
 ·cases h
theorem Zd(h:St X z s a w E pb){R:Type}{k:Nat→Heap→Option R}{r:R}{t e ty:TypeId}(ht:X.P.underlying t=some (.slice e)){x:AV}{v:Value}(hk:A.vV x s.σ k=some r)(rx:ak (ctx z w E pb) x v):
  ∃c σ',k c σ'=some r∧(Builtin.cap_ #[t] ty #[v]).run X.P w=.ok (.int .i64 (c:Int)) w∧St X z (s.heap σ') a w E pb:=by
 unfold A.vV at hk;cases x<;>simp only at hk<;>first|(cases hk;done)|skip
 rename_i id g sz off len;simp only[ak]at rx;obtain⟨hg,p,e1,e2,qa,cp,rfl,hcap,rx⟩:=rx;split at hk
 ·rename_i g' sz' es hs;split at hk
  ·rename_i hc;obtain⟨hc1,nG,CN⟩:=hc;subst hc1;subst nG;obtain⟨j1,j2,j3,j4,⟨arr,bt,j5,j6⟩,j7,j8,j9⟩:=h.heap.blk id p _ e1 hs;obtain⟨k1,k2,k3⟩:=rx j1.symm;rw[k1]at k3;have hle:es.length≤off+cp:=Nat.le_of_mul_le_mul_right (show es.length*sz≤(off+cp)*sz by omega) j4;have hk2:=all_some hk (n:=cp) ⟨hcap,hle⟩;by_cases S6:cp=len
   ·rw[aK S6]at hk2;refine⟨cp,_,hk2,by simp [Builtin.cap_,run_underlying ht,goInt],?_⟩;have AR:w.heap[p.b]? =some (.cells arr bt (0,0)):=j5;have hel:es.length=off+cp:=by omega
    have hst:=h.sJ e1 (.cells arr bt (0,0)) (.kR g sz es) (λhx=>by
     have hsame:w.cM p.b (.cells arr bt (0,0))=w:=By AR;rw[hsame]
     exact⟨j1,j2,j3,j4,⟨arr,bt,j5,j6⟩,by rw[hel];omega,j8,j9⟩)
    rw[By AR]at hst;exact hst
   rw[aI S6]at hk2;refine⟨cp,_,hk2,by simp [Builtin.cap_,run_underlying ht,goInt],?_⟩;have AR:w.heap[p.b]? =some (.cells arr bt (0,0)):=j5
   have hst:=h.sJ e1 (.cells arr bt (0,0)) (.arr g sz (es++List.replicate (off+cp-es.length) (List.replicate sz .undef))) (λhx=>by
    have hsame:w.cM p.b (.cells arr bt (0,0))=w:=By AR;rw[hsame];refine⟨j1,j2,j3,j4,⟨arr,bt,j5,j6⟩,?_,aX.append j8 (aX.of λj x hj=>?_),j9⟩
    ·rw[List.length_append,List.length_replicate,show es.length+(off+cp-es.length)=off+cp by omega];omega
    ·have hjl:=(bU.1 hj).1;rw[List.length_replicate]at hjl;have hx':=dF hj;rw[List.mem_replicate]at hx';rw[hx'.2];refine⟨List.length_replicate,aT.of λm av hm=>?_⟩;have hml:=(bU.1 hm).1;rw[List.length_replicate]at hml;have yA:=dF hm;rw[List.mem_replicate]at yA;have hmul:(es.length+(j+1))*sz≤(off+cp)*sz:=kC _ (by omega);rw[eX,eX]at hmul;have hin:p.base+es.length*sz+j*sz+m<arr.size:=by rw[j6];omega
     refine⟨arr[p.base+es.length*sz+j*sz+m],?_,j9 _ _ _ j5 _ (by simp),by rw[yA.2];simp [ak]⟩;show w.cell? _=_
     rw[rZ AR,qS hin])
   rw[By AR]at hst;exact hst
  ·cases hk
 ·cases hk
end
end
section
open Go.RowKit
section
variable {c : RC}
theorem Ee{k:Nat}{x y:AV}{v u:Value}(n:Nat)(h:A.kE k x y=some true)(r:ak c x v)(q:ak c y u):Instr.sameBits n u v=true:=by
 unfold A.kE at h;split at h
 ·unfold A.kU at h;split at h
  ·simp only[ak]at r q;split at h
   ·injection h with h;subst_vars;simp at h;subst h;simp [Instr.sameBits]
   ·cases h
  ·cases h
 ·unfold A.rA at h;split at h
  ·simp only[ak]at r q;injection h with h;subst_vars;simp at h;subst h;simp [Instr.sameBits]
  ·cases h
 ·unfold A.mS at h;split at h
  ·simp only[ak]at r q;injection h with h;subst_vars;simp only[Instr.sameBits];rename_i a b
   rw[B6]at h ⊢;rw[beq_iff_eq]at h ⊢;exact h.symm
  ·cases h
 ·cases h
theorem MY(n:Nat):∀{ks:List Nat}{xs ys:List AV}{vs us:List Value},A.dS ks xs ys=some true→aC c xs vs→aC c ys us→us.length=vs.length∧((us.zip vs).all λ(p:Value×Value)=>Instr.sameBits n p.1 p.2)=true
 |[],[],[],vs,us,_,r,q=>by simp only[aC]at r q;subst r;subst q;simp
 |[],[],_::_,_,_,h,_,_=>by simp [A.dS]at h
 |[],_::_,_,_,_,h,_,_=>by simp [A.dS]at h
 |_::_,[],_,_,_,h,_,_=>by simp [A.dS]at h
 |_::_,_::_,[],_,_,h,_,_=>by simp [A.dS]at h
 |k::ks,x::xs,y::ys,vs,us,h,r,q=>by simp only[A.dS]at h;obtain⟨p,h1,h2⟩:=bg.1 h;obtain⟨p',h3,h4⟩:=cL.1 h2;simp only[eH]at h4;obtain⟨rfl,rfl⟩:=h4;simp only[aC]at r q;obtain⟨v,vs',rfl,r1,r2⟩:=r;obtain⟨u,us',rfl,q1,q2⟩:=q;obtain⟨i1,i2⟩:=MY n h3 r2 q2;exact⟨by simp [i1],by simp [Ee n h1 r1 q1];simpa using i2⟩
theorem Ym{e:A.EK}{x y:AV}{v u:Value}(hk:A.iQ e x=true)(h:A.dD e x y=some true)(r:ak c x v)(q:ak c y u):Instr.sameBits 10000 u v=true:=by
 cases e<;>simp only[A.dD]at h;case i=>exact Ee (k:=0) _ h r q
 case b=>exact Ee (k:=1) _ h r q
 case z=>exact Ee (k:=2) _ h r q
 case p=>cases x<;>simp [A.iQ]at hk
 case s ks=>
  split at h
  ·simp only[ak]at r q;obtain⟨vs,rfl,r1,_⟩:=r;obtain⟨us,rfl,q1,_⟩:=q;obtain⟨i1,i2⟩:=MY 9999 h r1 q1;show Instr.sameBits (9999+1) _ _=true;simp only[Instr.sameBits,eH];exact⟨by simpa using i1,i2⟩
  ·cases h
theorem QC{e:A.EK}{k v:AV}:∀{aU gE:List (AV×AV)}{i:Nat}{ix:Option Nat},A.upd e k v aU=some gE→A.nP e k aU i=some ix→
  (ix=none∧gE=aU++[(k,v)])∨∃j p,ix=some (i+j)∧aU[j]? =some p∧A.dD e k p.1=some true∧gE=aU.set j (k,v)
 |[],gE,i,ix,h,g=>by simp only[A.upd,A.nP]at h g;injection h with h;injection g with g;exact .inl ⟨g.symm,by simpa using h.symm⟩
 |(k',v')::aU,gE,i,ix,h,g=>by
  simp only[A.upd,A.nP]at h g;obtain⟨b,h1,h2⟩:=bg.1 h;rw[h1,aQ]at g;cases b
  ·simp only[aV]at h2 g;obtain⟨e2,h3,h4⟩:=cL.1 h2;rcases QC h3 g with⟨rfl,rfl⟩|⟨j,p,rfl,k1,k2,rfl⟩
   ·exact .inl ⟨rfl,by simpa using h4.symm⟩
   ·exact .inr ⟨j+1,p,by congr 1;omega,by simpa using k1,k2,by simpa using h4.symm⟩
  ·simp only[bG]at h2 g;injection h2 with h2;injection g with g
   exact .inr ⟨0,(k',v'),g.symm,rfl,h1,by simpa using h2.symm⟩
theorem P5{e:A.EK}{k:AV}:∀{aU gE:List (AV×AV)}{i:Nat}{ix:Option Nat},A.del e k aU=some gE→A.nP e k aU i=some ix→
  (ix=none∧gE=aU)∨∃j,ix=some (i+j)∧j<aU.length∧gE=aU.eraseIdx j
 |[],gE,i,ix,h,g=>by simp only[A.del,A.nP]at h g;injection h with h;injection g with g;exact .inl ⟨g.symm,h.symm⟩
 |(k',v')::aU,gE,i,ix,h,g=>by
  simp only[A.del,A.nP]at h g;obtain⟨b,h1,h2⟩:=bg.1 h;rw[h1,aQ]at g;cases b
  ·simp only[aV]at h2 g;obtain⟨e2,h3,h4⟩:=cL.1 h2;rcases P5 h3 g with⟨rfl,rfl⟩|⟨j,rfl,k1,rfl⟩
   ·exact .inl ⟨rfl,by simpa using h4.symm⟩
   ·exact .inr ⟨j+1,by congr 1;omega,by simpa using k1,by simpa using h4.symm⟩
  ·simp only[bG]at h2 g;injection h2 with h2;injection g with g
   exact .inr ⟨0,g.symm,by simp,by simpa using h2.symm⟩
theorem NM{e:A.EK}{k v:AV}:∀{aU gE:List (AV×AV)},A.upd e k v aU=some gE→∃r,A.find e k aU=some r
 |[],gE,_=>⟨none,rfl⟩
 |(k',v')::aU,gE,g=>by
  simp only[A.upd]at g;obtain⟨b,h1,h2⟩:=bg.1 g;cases b
  ·obtain⟨e2,h3,_⟩:=cL.1 (by simpa using h2);obtain⟨r,hr⟩:=NM h3;exact⟨r,by simp [A.find,h1,hr]⟩
  ·exact⟨some v',by simp [A.find,h1]⟩
theorem NL{e:A.EK}{k:AV}:∀{aU gE:List (AV×AV)},A.del e k aU=some gE→∃r,A.find e k aU=some r
 |[],gE,_=>⟨none,rfl⟩
 |(k',v')::aU,gE,g=>by
  simp only[A.del]at g;obtain⟨b,h1,h2⟩:=bg.1 g;cases b
  ·obtain⟨e2,h3,_⟩:=cL.1 (by simpa using h2);obtain⟨r,hr⟩:=NL h3;exact⟨r,by simp [A.find,h1,hr]⟩
  ·exact⟨some v',by simp [A.find,h1]⟩
theorem bM.nth:∀{l:List (AV×AV)}{es:List MapEntry}{i:Nat}{p:AV×AV},bM c l es→l[i]? =some p→∃e,es[i]? =some e∧ak c p.1 e.key∧ak c p.2 e.val
 |[],es,i,p,h,k=>by simp at k
 |(a,b)::l,es,0,p,h,k=>by obtain⟨e,es',rfl,h1,h2,_⟩:=h;simp at k;subst k;exact⟨e,rfl,h1,h2⟩
 |(a,b)::l,es,i+1,p,h,k=>by obtain⟨e,es',rfl,_,_,h3⟩:=h;simp at k;obtain⟨e',k1,k2⟩:=bM.nth h3 k;exact⟨e',by simpa using k1,k2⟩
theorem bM.set{k v:AV}{key val:Value}(rk:ak c k key)(rv:ak c v val):∀{l:List (AV×AV)}{es:List MapEntry}(j:Nat),bM c l es→bM c (l.set j (k,v)) (es.modify j λe=>{e with key,val})
 |[],es,j,h=>by simp only[bM]at h;subst h;simp [bM]
 |(a,b)::l,es,0,h=>by obtain⟨e,es',rfl,h1,h2,h3⟩:=h;exact⟨_,_,rfl,rk,rv,h3⟩
 |(a,b)::l,es,j+1,h=>by obtain⟨e,es',rfl,h1,h2,h3⟩:=h;exact⟨e,_,rfl,h1,h2,bM.set rk rv j h3⟩
theorem bM.push{k v:AV}{key val:Value}{n:Nat}(rk:ak c k key)(rv:ak c v val):∀{l:List (AV×AV)}{es:List MapEntry},bM c l es→bM c (l++[(k,v)]) (es++[⟨key,val,n⟩])
 |[],es,h=>by simp only[bM]at h;subst h;exact⟨_,_,rfl,rk,rv,rfl⟩
 |(a,b)::l,es,h=>by obtain⟨e,es',rfl,h1,h2,h3⟩:=h;exact⟨e,_,rfl,h1,h2,bM.push rk rv h3⟩
theorem bM.erase:∀{l:List (AV×AV)}{es:List MapEntry}(j:Nat),bM c l es→bM c (l.eraseIdx j) (es.eraseIdx j)
 |[],es,j,h=>by simp only[bM]at h;subst h;simp [bM]
 |(a,b)::l,es,0,h=>by obtain⟨e,es',rfl,h1,h2,h3⟩:=h;exact h3
 |(a,b)::l,es,j+1,h=>by obtain⟨e,es',rfl,h1,h2,h3⟩:=h;exact⟨e,_,rfl,h1,h2,bM.erase j h3⟩
end
theorem lV.push{es:Array MapEntry}{aY:Nat}{key val:Value}(h:lV es aY):lV (es.push ⟨key,val,aY⟩) (aY+1):=by
 refine⟨λe he=>?_,?_⟩
 ·simp only[Array.toList_push,eN,List.mem_singleton]at he;rcases he with he|rfl
  ·have:=h.1 e he;omega
  ·exact Nat.lt_succ_self _
 ·simp only[Array.toList_push,List.map_append,fJ,List.map_nil];rw[List.nodup_append];refine⟨h.2,by simp,λa ha b hb=>?_⟩;obtain⟨e,he,rfl⟩:=mI.1 ha;have:=h.1 e he;simp at hb;omega
theorem MM(key val:Value):∀(l:List MapEntry)(i:Nat),(l.modify i λe=>{e with key,val}).map (·.born)=l.map (·.born)
 |[],i=>by simp
 |e::l,0=>by simp
 |e::l,i+1=>by simp [MM key val l i]
theorem lV.modify{es:Array MapEntry}{aY i:Nat}{key val:Value}(h:lV es aY):lV (es.modify i λe=>{e with key,val}) aY:=by
 have hb:(es.modify i λe=>{e with key,val}).toList.map (·.born)=es.toList.map (·.born):=by rw[Array.toList_modify,MM]
 refine⟨λe he=>?_,by rw[hb];exact h.2⟩;have:e.born∈es.toList.map (·.born):=by rw[←hb];exact mI.2 ⟨e,he,rfl⟩
 obtain⟨e',he',e1⟩:=mI.1 this;rw[←e1];exact h.1 e' he'
theorem lV.erase{es:Array MapEntry}{aY i:Nat}(h:lV es aY):lV (es.eraseIdxIfInBounds i) aY:=by
 by_cases hi:i<es.size
 ·have hee:(es.eraseIdxIfInBounds i).toList=es.toList.eraseIdx i:=by simp [Array.eraseIdxIfInBounds,hi]
  refine⟨λe he=>h.1 e (by rw[hee]at he;exact List.mem_of_mem_eraseIdx he),?_⟩;rw[hee];exact h.2.sublist ((List.eraseIdx_sublist _ _).map _)
 ·have:es.eraseIdxIfInBounds i=es:=by simp [Array.eraseIdxIfInBounds,hi]
  rw[this];exact h
theorem lV.empty:lV #[] 0:=⟨by simp,by simp⟩
section
variable {X : Fx} {z : Z} {s : AS} {a : Act} {w w' : World} {E : List Pl} {pb : Nat → Option Nat}
theorem D1{P:Program}{b:Nat}{es:Array MapEntry}{aY:Nat}(o:Obj)(h:w.heap[b]? =some (.map es aY)):(setObj b o).run P w=.ok () (w.cM b o):=by simp [setObj,Sem.run,h,World.cM]
theorem ZP(h:St X z s a w E pb){t kt et:TypeId}{ek:A.EK}{m k v:AV}{mv key val:Value}{σ':Heap}(ht:X.P.underlying t=some (.map kt et))(he:jj X kt=some ek)(hu:A.iS ek m k v s.σ=some σ')
  (rm:ak (ctx z w E pb) m mv) (rk:ak (ctx z w E pb) k key) (rv:ak (ctx z w E pb) v val):∃w',(Instr.mapUpdate t mv key val).run X.P w=.ok () w'∧St X z (s.heap σ') a w' E pb:=by
 unfold A.iS at hu;cases hk:A.iQ ek k
 ·rw[hk]at hu;cases hu
 ·rw[hk]at hu;simp only[bG]at hu;cases m<;>simp only at hu<;>first|(cases hu;done)|skip
  rename_i id;simp only[ak]at rm;obtain⟨p,e1,e2,rfl⟩:=rm;split at hu
  ·rename_i aU hs;obtain⟨gE,h1,h2⟩:=cL.1 hu;subst h2;obtain⟨hg,es,aY,k1,kw,k2⟩:=h.heap.blk id p _ e1 hs;obtain⟨r,hr⟩:=NM h1;obtain⟨res,f1,f2,f3⟩:=IB (c:=ctx z w E pb) w X he hk rk hr k2;have uR:=DN (c:=ctx z w E pb) w X he hk rk false;have iR:(getObj p.b).run X.P w=.ok (.map es aY) w:=by simp [getObj,Sem.run,show w.heap[p.b]? =_ from k1]
   have hlt:p.b<w.heap.size:=h.heap.lt (p:=p) (dF e1);rcases QC h1 f3 with⟨e3,rfl⟩|⟨j,q,e3,q1,q2,rfl⟩
   ·have hres:res=none:=by cases res with|none=>rfl|some x=>simp at e3
    subst hres;refine⟨w.cM p.b (.map (es.push ⟨key,val,aY⟩) (aY+1)),?_,h.sJ e1 _ _ λhx=>⟨hg,_,_,qE _ hlt,kw.push,?_⟩⟩
    ·simp [Instr.mapUpdate,run_underlying ht,iR,uR,f1,D1 _ (show w.heap[p.b]? =_ from k1)]
    ·have:=bM.push (n:=aY) (ak.mono hx _ _ rk) (ak.mono hx _ _ rv) (k2.mono hx);simpa using this
   ·obtain⟨i,u,hres,hi⟩:∃i u,res=some (i,u)∧i=j:=by
     cases res with
     |none=>simp at e3
     |some x=>exact⟨x.1,x.2,rfl,by simpa using e3⟩
    subst hi;subst hres;obtain⟨e,n1,n2,_⟩:=k2.nth q1;have hsame:=Ym (c:=ctx z w E pb) hk q2 rk n2;have tC:es[i]? =some e:=by rw[←Array.getElem?_toList];exact n1
    refine⟨w.cM p.b (.map (es.modify i λe=>{e with key,val}) aY),?_,h.sJ e1 _ _ λhx=>⟨hg,_,_,qE _ hlt,kw.modify,?_⟩⟩
    ·simp [Instr.mapUpdate,run_underlying ht,iR,uR,f1,tC,Instr.keyThatStays,hsame,D1 _ (show w.heap[p.b]? =_ from k1)]
    ·have:=bM.set (ak.mono hx _ _ rk) (ak.mono hx _ _ rv) i (k2.mono hx);simpa using this
  ·cases hu
theorem ZM(h:St X z s a w E pb){t kt et u ty:TypeId}{ek:A.EK}{m k:AV}{mv key:Value}{σ':Heap}(ht:X.P.underlying t=some (.map kt et))(he:jj X kt=some ek)(hu:A.Kg ek m k s.σ=some σ')
  (rm:ak (ctx z w E pb) m mv) (rk:ak (ctx z w E pb) k key):∃w',(Builtin.delete_ #[t,u] ty #[mv,key]).run X.P w=.ok (.tuple #[]) w'∧St X z (s.heap σ') a w' E pb:=by
 unfold A.Kg at hu;cases hk:A.iQ ek k
 ·rw[hk]at hu;cases hu
 ·rw[hk]at hu;simp only[bG]at hu;cases m<;>simp only at hu<;>first|(cases hu;done)|skip
  case nm=>
   injection hu with hu;subst hu
   simp only[ak]at rm;subst rm;exact⟨w,by simp [Builtin.delete_,run_underlying ht,DN (c:=ctx z w E pb) w X he hk rk true],h⟩
  case om id=>
   simp only[ak]at rm;obtain⟨p,e1,e2,rfl⟩:=rm;split at hu
   ·rename_i aU hs;obtain⟨gE,h1,h2⟩:=cL.1 hu;subst h2;obtain⟨hg,es,aY,k1,kw,k2⟩:=h.heap.blk id p _ e1 hs;obtain⟨r,hr⟩:=NL h1;obtain⟨res,f1,f2,f3⟩:=IB (c:=ctx z w E pb) w X he hk rk hr k2;have uR:=DN (c:=ctx z w E pb) w X he hk rk es.isEmpty;have iR:(getObj p.b).run X.P w=.ok (.map es aY) w:=by simp [getObj,Sem.run,show w.heap[p.b]? =_ from k1]
    have hlt:p.b<w.heap.size:=h.heap.lt (p:=p) (dF e1);rcases P5 h1 f3 with⟨e3,rfl⟩|⟨j,e3,q1,rfl⟩
    ·have hres:res=none:=by cases res with|none=>rfl|some x=>simp at e3
     subst hres;refine⟨w.cM p.b (.map es aY),?_,h.sJ e1 _ _ λhx=>⟨hg,_,_,qE _ hlt,kw,k2.mono hx⟩⟩;simp [Builtin.delete_,run_underlying ht,iR,uR,f1,D1 _ (show w.heap[p.b]? =_ from k1)]
    ·obtain⟨i,u',hres,hi⟩:∃i u,res=some (i,u)∧i=j:=by
      cases res with
      |none=>simp at e3
      |some x=>exact⟨x.1,x.2,rfl,by simpa using e3⟩
     subst hi;subst hres;refine⟨w.cM p.b (.map (es.eraseIdxIfInBounds i) aY),?_,h.sJ e1 _ _ λhx=>⟨hg,_,_,qE _ hlt,kw.erase,?_⟩⟩
     ·simp [Builtin.delete_,run_underlying ht,iR,uR,f1,D1 _ (show w.heap[p.b]? =_ from k1)]
     ·have hl:=k2.length;have:i<es.size:=by simp at hl;omega
      have hee:(es.eraseIdxIfInBounds i).toList=es.toList.eraseIdx i:=by simp [Array.eraseIdxIfInBounds,this]
      rw[hee];exact bM.erase i (k2.mono hx)
   ·cases hu
theorem Mt{f:MapEntry→Nat}:∀{l:List MapEntry}{j:Nat}{e:MapEntry},(l.map f).Nodup→l[j]? =some e→(l.filter λx=>!(f x==f e))=l.eraseIdx j
 |[],j,e,_,h=>by simp at h
 |x::l,0,e,hn,h=>by
  simp at h;subst h;simp only[fJ,List.nodup_cons]at hn;simp only[List.filter_cons,beq_self_eq_true,Bool.not_true,List.eraseIdx_cons_zero];rw[List.filter_eq_self.2]
  ·simp
  ·intro y hy;have:f y≠f x:=λe=>hn.1 (mI.2 ⟨y,hy,e⟩)
   simp [this]
 |x::l,j+1,e,hn,h=>by
  simp only[fJ,List.nodup_cons]at hn;simp at h;have hne:f x≠f e:=λk=>hn.1 (mI.2 ⟨e,dF h,k.symm⟩)
  simp only[List.filter_cons,List.eraseIdx_cons_succ];have:(f x==f e)=false:=by simpa using hne
  rw[this];simp only[Bool.not_false,if_true];rw[Mt hn.2 h]
theorem choose_lt{P:Program}(w:World){n:Nat}(hn:0<n):∃j w',j<n∧(choose (.mapNext n)).run P w=.ok j w'∧Below w.heap.size w w'∧w'.heap=w.heap:=by
 by_cases h1:n≤1
 ·exact⟨0,w,hn,by simp [choose,Sem.run,Question.forced,h1],Below.refl _ _,rfl⟩
 ·refine⟨_,w.drew,?_,by simp [choose,Sem.run,Question.forced,h1];rfl,(Below.refl _ _).drew,rfl⟩;simp only[Question.cut];exact Nat.mod_lt _ hn
theorem lV.Q9{es:Array MapEntry}{aY:Nat}(h:lV es aY)(b:Bool):(!b&&!es.isEmpty&&es.all λe=>decide (e.born≥aY))=false:=by
 cases b
 ·by_cases he:es.isEmpty=true
  ·simp [he]
  ·have hs:0<es.size:=by rw[Array.isEmpty_iff]at he;exact Nat.pos_of_ne_zero λk=>he (Array.eq_empty_of_size_eq_zero k)
   have:=h.1 es[0] (by simp)
   have:¬(es.all λe=>decide (e.born≥aY))=true:=by intro k;rw[Array.all_eq_true]at k;have:=k 0 hs;simp at this;omega
   simp only[Bool.not_eq_true]at this;rw[this];simp
 ·simp
theorem filter_all{l:Array MapEntry}{aY:Nat}(h:∀e∈l.toList,e.born<aY):l.filter (λe=>decide (e.born<aY))=l∧l.filter (λe=>decide (e.born≥aY))=#[]:=by
 constructor
 ·apply jv.1;rw[Array.toList_filter,List.filter_eq_self.2];intro e he;simpa using h e he
 ·apply jv.1;rw[Array.toList_filter];show _=[]
  rw[List.filter_eq_nil_iff];intro e he;have:=h e he;simp;omega
theorem PL{α:Type}{l:List α}{j:Nat}(hj:j<l.length):(l[j]::l.eraseIdx j).Perm l:=by
 have e:l=l.take j++l[j]::l.drop (j+1):=by rw[List.getElem_cons_drop,List.take_append_drop]
 rw[List.eraseIdx_eq_take_drop_succ];conv=>rhs;rw[e]
 exact List.perm_middle.symm
theorem ZS(h:St X z s a w E pb){R:Type}{k:AV→Heap→Option R}{r:R}{i:AV}{v:Value}{ty:TypeId}(hk:A.vR i s.σ k=some r)(ri:ak (ctx z w E pb) i v):
  ∃av σ' v' w',k av σ'=some r∧(Instr.next v false ty).run X.P w=.ok v' w'∧St X z (s.heap σ') a w' E pb∧ak (ctx z w' E pb) av v':=by
 unfold A.vR at hk;split at hk
 ·rename_i id;simp only[ak]at ri;obtain⟨p,e1,e2,rfl⟩:=ri;have hlt:p.b<w.heap.size:=h.heap.lt (p:=p) (dF e1);have abo:ak (ctx z w E pb) (.aD [.bool false]) (.tuple #[.bool false]):=by simp [ak,aC]
  have hs0:s.heap s.σ=s:=rfl;split at hk
  ·rename_i cur hs;obtain⟨hg,hit⟩:=h.heap.blk id p _ e1 hs;rcases hit with⟨_,_,since,seen,last,h3⟩|⟨m,seen,aU,aY,h3,h4,h5,h6,h7,h8,h9⟩
   ·have iR:(getObj p.b).run X.P w=.ok (.mapIter none since seen last) w:=by simp [getObj,Sem.run,show w.heap[p.b]? =_ from h3]
    exact⟨_,_,_,w,hk,by simp [Instr.next,iR],by rw[hs0];exact h,abo⟩
   ·have iR:(getObj p.b).run X.P w=.ok (.mapIter (some m) aY seen aY) w:=by simp [getObj,Sem.run,show w.heap[p.b]? =_ from h3]
    have xC:(getObj m).run X.P w=.ok (.map aU aY) w:=by simp [getObj,Sem.run,show w.heap[m]? =_ from h6]
    obtain⟨l,h8,uU⟩:=h8;simp only[bM]at h8;subst h8;have hl:aU.filter (λe=>!seen.contains e.born)=#[]:=by apply jv.1;rw[Array.toList_filter];exact uU.nil_eq.symm
    obtain⟨j,w',hj,hch,hb,hw⟩:=choose_lt (P:=X.P) w (n:=1) (by omega);have hj0:j=0:=by omega
    subst hj0;have hst:=h7.Q9 seen.isEmpty;refine⟨_,_,.tuple #[.bool false],w',hk,?_,by rw[hs0];exact h.grow hb,by simp [ak,aC]⟩
    simp only[Instr.next,Sem.run_bind,iR,Result.andThen_ok,xC,hst,hl];simp [-Go.run_choose,-Go.run_choose_drew,hch]
  ·rename_i cur x left hs;obtain⟨hg,hit⟩:=h.heap.blk id p _ e1 hs;rcases hit with⟨_,hn,_⟩|⟨m,seen,aU,aY,h3,h4,h5,h6,h7,h8,h9⟩
   ·cases hn
   ·have iR:(getObj p.b).run X.P w=.ok (.mapIter (some m) aY seen aY) w:=by simp [getObj,Sem.run,show w.heap[p.b]? =_ from h3]
    have xC:(getObj m).run X.P w=.ok (.map aU aY) w:=by simp [getObj,Sem.run,show w.heap[m]? =_ from h6]
    obtain⟨L,hL⟩:∃L,L=aU.filter (λe=>!seen.contains e.born):=⟨_,rfl⟩
    have wJ:L.toList=aU.toList.filter (λe=>!seen.contains e.born):=by rw[hL,Array.toList_filter]
    rw[←wJ]at h8;obtain⟨l,h8,uU⟩:=h8;have hlen:=h8.length;rw[uU.length_eq]at hlen;simp only[Array.length_toList]at hlen;have hlt':∀e∈L.toList,e.born<aY:=λe he=>h7.1 e (by rw[wJ]at he;exact(List.mem_filter.1 he).1)
    obtain⟨f1,f2⟩:=filter_all hlt'
    have hne:L.isEmpty=false:=by rw[Array.isEmpty_eq_false_iff];intro k;rw[k]at hlen;simp at hlen
    obtain⟨j,w',hj,hch,hb,hw⟩:=choose_lt (P:=X.P) w (n:=L.size) (by rw[←hlen];simp);have hst:=h7.Q9 seen.isEmpty;obtain⟨e,SB⟩:∃e,L[j]? =some e:=⟨_,qS hj⟩
    have n1:L.toList[j]? =some e:=by rw[Array.getElem?_toList];exact SB
    obtain⟨i,hil,hie⟩:=List.mem_iff_getElem.1 (uU.mem_iff.2 (dF n1));have J3:i<(x::left).length:=by rw[h8.length];exact hil
    have hk2:=all_some hk J3;rw[cI J3]at hk2;simp only at hk2;obtain⟨e',FV,n2,n3⟩:=bM.nth h8 (cI J3);have hee:e=e':=by rw[cI hil]at FV;injection FV with FV;rw[←FV,hie]
    subst hee
    have K5:(l.eraseIdx i).Perm (L.toList.eraseIdx j):=by
     have p1:(e::l.eraseIdx i).Perm l:=by have:=PL hil;rwa[hie]at this
     obtain⟨hjj,hje⟩:=bU.1 n1;have p2:(e::L.toList.eraseIdx j).Perm L.toList:=by have:=PL hjj;rwa[hje]at this
     exact List.Perm.cons_inv ((p1.trans uU).trans p2.symm)
    have hg2:=h.grow hb;have hmp:p.b≠m:=λk=>h5 (.inr (.inl ⟨p,dF e1,k⟩))
    have h3':w'.heap[p.b]? =some (.mapIter (some m) aY seen aY):=by rw[hw];exact h3
    have nA:(setObj p.b (.mapIter (some m) aY (seen.push e.born) aY)).run X.P w'=.ok () (w'.cM p.b (.mapIter (some m) aY (seen.push e.born) aY)):=by simp [setObj,Sem.run,h3',World.cM]
    refine⟨_,_,.tuple #[.bool true,e.key,e.val],w'.cM p.b (.mapIter (some m) aY (seen.push e.born) aY),hk2,?_,hg2.sJ e1 _ _ λhx=>⟨hg,.inr ⟨m,seen.push e.born,aU,aY,?_,?_,?_,?_,h7,?_,?_⟩⟩,?_⟩
    ·simp only[Instr.next,Sem.run_bind,iR,Result.andThen_ok,xC,hst,←hL,f1,f2,hne];simp [-Go.run_choose,-Go.run_choose_drew,hch,SB,nA]
    ·exact qE _ (by rw[hw];exact hlt)
    ·show m<(w'.cM p.b _).heap.size;rw[wZ,hw];exact h4
    ·exact h5
    ·show(w'.cM p.b _).heap[m]? =_;rw[tN _ hmp,hw];exact h6
    ·have hx2:Ext (ctx z w E pb) (ctx z (w'.cM p.b (.mapIter (some m) aY (seen.push e.born) aY)) E pb):=(pY hb).trans hx
     have hfe:(aU.toList.filter λe'=>!(seen.push e.born).contains e'.born)=L.toList.eraseIdx j:=by rw[wJ];have hnd:((aU.toList.filter λe=>!seen.contains e.born).map (·.born)).Nodup:=h7.2.sublist ((List.filter_sublist).map _);rw[←Mt (f:=(·.born)) (e:=e) hnd (by rw[←wJ];exact n1),List.filter_filter];congr 1;funext y;simp only[Array.contains_push,Bool.not_or];rw[Bool.and_comm]
     rw[hfe];exact⟨_,(bM.erase i h8).mono hx2,K5⟩
    ·refine .inr ⟨_,_,e,rfl,by simp,?_,?_,?_⟩
     ·have:=dF n1;rw[wJ]at this;exact(List.mem_filter.1 this).1
     ·exact ak.mono ((pY hb).trans hx) _ _ n2
     ·exact ak.mono ((pY hb).trans hx) _ _ n3
    ·have hx:Ext (ctx z w' E pb) (ctx z (w'.cM p.b (.mapIter (some m) aY (seen.push e.born) aY)) E pb):=IK (.inr (.inl ⟨p,dF e1,rfl⟩));have hx2:=(pY hb).trans hx;simp only[ak];exact⟨_,rfl,by simp only[aC];exact⟨_,_,rfl,rfl,_,_,rfl,ak.mono hx2 _ _ n2,_,_,rfl,ak.mono hx2 _ _ n3,rfl⟩⟩
  ·cases hk
 ·cases hk
theorem YI(h:St X z s a w E pb){t kt et:TypeId}{x:AV}{v:Value}{es:List (AV×AV)}(ht:X.P.underlying t=some (.map kt et))(hr:A.Jn x=some es)(rx:ak (ctx z w E pb) x v):
  ∃o,(Instr.range t v).run X.P w=.ok (.pointer (some ⟨w.heap.size,0,none⟩)) (w.alloc o)∧St X z (s.heap (s.σ++[.it [] es])) a (w.alloc o) (E++[⟨w.heap.size,0,0,0,0⟩]) pb:=by
 unfold A.Jn at hr;split at hr
 ·injection hr with hr
  subst hr;simp only[ak]at rx;subst rx;refine⟨.mapIter none 0 #[] 0,by simp [Instr.range,run_underlying ht,newObj,Sem.run],h.tZ _ _ ⟨w.heap.size,0,0,0,0⟩ rfl λhx=>⟨rfl,.inl ⟨rfl,rfl,_,_,_,(MapKept.heap_alloc w _).1⟩⟩⟩
 ·injection hr with hr
  subst hr;simp only[ak]at rx;obtain⟨b,rfl,hb,hX,aU,aY,k1,kw,l,k2,k3⟩:=rx;have xC:(getObj b).run X.P w=.ok (.map aU aY) w:=by simp [getObj,Sem.run,show w.heap[b]? =_ from k1]
  refine⟨.mapIter (some b) aY #[] aY,by simp [Instr.range,run_underlying ht,xC,newObj,Sem.run],h.tZ _ _ ⟨w.heap.size,0,0,0,0⟩ rfl λhx=>⟨rfl,.inr ⟨b,#[],aU,aY,(MapKept.heap_alloc w _).1,?_,(hx.stay b hb hX).2,?_,kw,?_,.inl rfl⟩⟩⟩
  ·exact nV hb hx.size
  ·exact(hx.stay b hb hX).1.trans k1
  ·have:(aU.toList.filter λe=>!(#[]:Array Nat).contains e.born)=aU.toList:=by rw[List.filter_eq_self];intro e _;simp
   rw[this];exact⟨l,k2.mono hx,by rcases k3 with rfl|⟨k3,_⟩<;>first|exact List.Perm.refl _|exact k3⟩
 ·cases hr
end
end
end Go.Proofs.Ytjjjjbgohkklnaa
