/- Parts of the proof of CueMarksAreNotSeen, in order. -/
import Derived.Orders
import Derived.Below
import Derived.WalkKit
import Derived.Laws.StructEq
import Derived.Laws.Append
import Derived.Laws.AppendOwn
namespace Go.Proofs.Ytphgchakmkankaa
set_option linter.unusedVariables false
set_option linter.unusedSimpArgs false
set_option linter.unusedSectionVars false
inductive U where
 |undef
 |int (k:IntKind) (n:Int)
 |bool (b:Bool)
 |str (s:ByteArray)
 |agg (cs:List U)
 |aA (vs:List U)
 |sl (sz:Nat) (es:List (List U))
 |aB
 |ez
 |rp (cs:List U)
 |np
 |op (id off:Nat)
 |oe (id g i off:Nat)
 |os (id g sz off len:Nat)
 |om (id:Nat)
 |fm (es:List (U×U))
 |nm
 |fn (f:Nat) (caps:List U)
 |tO
 |lbx (cs:List U)
 deriving Inhabited
inductive aO where
 |box (cs:List U)
 |arr (g sz:Nat) (es:List (List U))
 |mT (g sz:Nat) (es:List (List U))
 |map (es:List (U×U))
 |it (cur left:List (U×U))
 deriving Inhabited
abbrev Heap:=List aO
inductive AX where
 |normal
 |exit (id:Nat)
 |ret
 deriving DecidableEq,Inhabited
namespace A
def cond {α:Type} (c:U) (t e:Option α):Option α:=match c with|.bool b=>bif b then t else e|_=>none
def guard {α:Type} (c:U) (want:Bool) (t e:Option α):Option α:=match c with|.bool b=>bif b==want then t else e|.aA []=>e|_=>none
def pick (c a b:U):Option U:=match c with|.bool c=>some (bif c then a else b)|_=>none
def cell (v:U):Option U:=match v with|.undef=>none|.agg _=>none|.aA _=>none|.lbx _=>none|v=>some v
def cells (n:Nat) (v:U):Option (List U):=match v with|.agg cs=>if cs.length=n then some cs else none|_=>none
def lb (v:U):Option (List U):=match v with|.lbx cs=>some cs|_=>none
def aq (off:Nat) (cs:List U):Option U:=(cs[off]?).bind cell
def aD (off n:Nat) (cs:List U):Option U:=if off+n≤cs.length then some (.agg ((cs.drop off).take n))else none
def splice (off:Nat) (new cs:List U):Option (List U):=if off+new.length≤cs.length then some (cs.take off++new++cs.drop (off+new.length))else none
def deref (v:U) (σ:Heap):Option (List U):=match v with
 |.rp cs=>some cs
 |.op id off=>match σ[id]? with|some (.box cs)=>some (cs.drop off)|_=>none
 |.oe id g i off=>match σ[id]? with|some (.arr g' _ es)=>if g=g' then(es[i]?).map (·.drop off)else none|_=>none
 |_=>none
def storeAt (v:U) (new:List U) (σ:Heap):Option Heap:=match v with
 |.op id off=>match σ[id]? with|some (.box cs)=>(splice off new cs).map fun cs=>σ.set id (.box cs)|_=>none
 |.oe id g i off=>match σ[id]? with
  |some (.arr g' sz es)=>if g=g' then(es[i]?).bind fun e=>(splice off new e).map fun e=>σ.set id (.arr g sz (es.set i e))else none
  |_=>none
 |_=>none
def bD (off:Nat) (v:U):Option U:=match v with
 |.rp cs=>some (.rp (cs.drop off))
 |.op id o=>some (.op id (o+off))
 |.oe id g i o=>some (.oe id g i (o+off))
 |_=>none
def idx (len:Nat) (i:U):Option Nat:=match i with|.int _ n=>if 0≤n∧n<len then some n.toNat else none|_=>none
def aU (sz:Nat) (x i:U):Option U:=match x with
 |.sl sz' es=>(idx es.length i).bind fun j=>if sz=sz' then(es[j]?).map .rp else none
 |.os id g sz' off len=>(idx len i).bind fun j=>if sz=sz' then some (.oe id g (off+j) 0)else none
 |_=>none
def sZ (len sz:Nat) (x i:U):Option U:=(idx len i).bind fun j=>match x with
 |.rp cs=>some (.rp (cs.drop (j*sz)))
 |.op id o=>some (.op id (o+j*sz))
 |.oe id g k o=>some (.oe id g k (o+j*sz))
 |_=>none
def eT (x:U):Option U:=match x with|.rp cs=>some (.rp cs)|.op id o=>some (.op id o)|.oe id g i o=>some (.oe id g i o)|.fn f c=>some (.fn f c)|_=>none
def ext (i:Nat) (x:U):Option U:=match x with|.aA vs=>vs[i]? |_=>none
def add (x y:U):Option U:=match x,y with
 |.int k a,.int k' b=>if k=k' then some (.int k (k.wrap (a+b)))else none
 |.str a,.str b=>if a.size+b.size≤9223372036854775807 then some (.str (a++b))else none
 |_,_=>none
def sub (x y:U):Option U:=match x,y with|.int k a,.int k' b=>if k=k' then some (.int k (k.wrap (a-b)))else none|_,_=>none
def mul (x y:U):Option U:=match x,y with|.int k a,.int k' b=>if k=k' then some (.int k (k.wrap (a*b)))else none|_,_=>none
def quo (x y:U):Option U:=match x,y with|.int k a,.int k' b=>if k=k'∧b≠0 then some (.int k (k.wrap (a.tdiv b)))else none|_,_=>none
def rem (x y:U):Option U:=match x,y with|.int k a,.int k' b=>if k=k'∧b≠0 then some (.int k (a.tmod b))else none|_,_=>none
def shl (x y:U):Option U:=match x,y with|.int k a,.int _ b=>if b<0 then none else some (.int k (k.wrap (a*2 ^ min b.toNat k.bits)))|_,_=>none
def shr (x y:U):Option U:=match x,y with|.int k a,.int _ b=>if b<0 then none else some (.int k (a.fdiv (2 ^ min b.toNat k.bits)))|_,_=>none
def lss (x y:U):Option U:=match x,y with|.int k a,.int k' b=>if k=k' then some (.bool (decide (a<b)))else none|.str a,.str b=>some (.bool (Op.bytesLess a.toList b.toList))|_,_=>none
def leq (x y:U):Option U:=match x,y with|.int k a,.int k' b=>if k=k' then some (.bool (decide (a≤b)))else none|_,_=>none
def gtr (x y:U):Option U:=match x,y with|.int k a,.int k' b=>if k=k' then some (.bool (decide (a>b)))else none|_,_=>none
def geq (x y:U):Option U:=match x,y with|.int k a,.int k' b=>if k=k' then some (.bool (decide (a≥b)))else none|_,_=>none
def mz (x y:U):Option Bool:=match x,y with|.int k a,.int k' b=>if k=k' then some (a==b)else none|_,_=>none
def uY (x y:U):Option Bool:=match x,y with|.bool a,.bool b=>some (a==b)|_,_=>none
def pU (x y:U):Option Bool:=match x,y with|.str a,.str b=>some (a==b)|_,_=>none
def Tk (x y:U):Option Bool:=match x,y with
 |.np,.np=>some true
 |.np,.rp _=>some false
 |.np,.op _ _=>some false
 |.rp _,.np=>some false
 |.op _ _,.np=>some false
 |_,_=>none
def rY (k:Nat) (x y:U):Option Bool:=match k with|0=>mz x y|1=>uY x y|2=>pU x y|_=>none
def fJ:List Nat→List U→List U→Option Bool
 |[],[],[]=>some true
 |k::ks,x::xs,y::ys=>(rY k x y).bind fun b=>(fJ ks xs ys).map fun c=>b&&c
 |_,_,_=>none
inductive EK where
 |i|b|z|p
 |s (ks:List Nat)
def dG (k:EK) (x y:U):Option Bool:=match k with
 |.i=>mz x y
 |.b=>uY x y
 |.z=>pU x y
 |.p=>Tk x y
 |.s ks=>match x,y with|.agg xs,.agg ys=>fJ ks xs ys|_,_=>none
def eql (k:EK) (x y:U):Option U:=(dG k x y).map .bool
def neq (k:EK) (x y:U):Option U:=(dG k x y).map fun b=>.bool (!b)
def GY (x y:U):Option Bool:=match y with
 |.aB=>(match x with|.aB=>some true|.sl _ (_::_)=>some false|.os _ _ _ _ _=>some false|_=>none)
 |_=>none
def uZ (x y:U):Option U:=(GY x y).map .bool
def neN (x y:U):Option U:=(GY x y).map fun b=>.bool (!b)
def CA (x:U):Option U:=match x with|.aB=>some (.int .i64 0)|.ez=>some (.int .i64 0)|_=>none
def not (x:U):Option U:=match x with|.bool b=>some (.bool (!b))|_=>none
def neg (x:U):Option U:=match x with|.int k n=>some (.int k (k.wrap (0-n)))|_=>none
def conv (k:IntKind) (x:U):Option U:=match x with|.int _ n=>some (.int k (k.wrap n))|_=>none
def Sc (x:U):Option U:=match x with|.str s=>some (.str s)|_=>none
def max (x y:U):Option U:=match x,y with|.int k a,.int _ b=>some (.int k (if b>a then b else a))|_,_=>none
def min (x y:U):Option U:=match x,y with|.int k a,.int _ b=>some (.int k (if b<a then b else a))|_,_=>none
def wV (x:U):Option U:=match x with|.str s=>some (.int .i64 s.size)|_=>none
def bf (x:U):Option U:=match x with
 |.sl _ es=>some (.int .i64 es.length)
 |.aB=>some (.int .i64 0)
 |.ez=>some (.int .i64 0)
 |.os _ _ _ _ n=>some (.int .i64 n)
 |_=>none
def S5 (x:U) (σ:Heap):Option U:=match x with
 |.nm=>some (.int .i64 0)
 |.fm es=>some (.int .i64 es.length)
 |.om id=>match σ[id]? with|some (.map es)=>some (.int .i64 es.length)|_=>none
 |_=>none
def oz (x i:U):Option U:=match x with|.str s=>(idx s.size i).bind fun j=>(s[j]?).map fun b=>.int .u8 b.toNat|_=>none
def bound (y:Nat) (dflt:Nat) (x:Option U):Option Nat:=match x with
 |none=>some dflt
 |some (.int _ i)=>if 0≤i∧i≤y then some i.toNat else none
 |_=>none
def Kh (x:U) (lo hi:Option U):Option U:=match x with
 |.str s=>(bound s.size s.size hi).bind fun h=>(bound h 0 lo).map fun l=>.str (s.extract l h)
 |_=>none
def room (σ:Heap) (id g sz off len:Nat):Nat:=match σ[id]? with
 |some (.arr g' sz' es)=>if g=g'∧sz=sz'∧off+len≤es.length then es.length-off else len
 |_=>len
def bN (sz:Nat) (x:U) (lo hi:Option U) (σ:Heap):Option U:=match x with
 |.sl sz' es=>if sz=sz' then(bound es.length es.length hi).bind fun h=>(bound h 0 lo).map fun l=>.sl sz ((es.take h).drop l)else none
 |.aB=>(bound 0 0 hi).bind fun h=>(bound h 0 lo).map fun _=>.aB
 |.ez=>(bound 0 0 hi).bind fun h=>(bound h 0 lo).map fun _=>.ez
 |.os id g sz' off len=>if sz=sz' then(bound (room σ id g sz off len) len hi).bind fun h=>(bound h 0 lo).map fun l=>.os id g sz (off+l) (h-l)else none
 |_=>none
def slice3 (x:U) (lo:Option U) (hi mx:U):Option U:=(bf x).bind fun n=>match n with
 |.int _ n=>(bound n.toNat 0 (some mx)).bind fun m=>(bound m 0 (some hi)).bind fun h=>(bound h 0 lo).map fun _=>if m=0 then .ez else .undef
 |_=>none
def elems (sz:Nat) (x:U) (σ:Heap):Option (List (List U)):=match x with
 |.aB=>some []
 |.ez=>some []
 |.sl sz' es=>if sz=sz' then some es else none
 |.os id g nC off len=>match σ[id]? with
  |some (.arr g' sz' es)=>if g=g'∧sz=sz'∧nC=sz∧off+len≤es.length then some ((es.drop off).take len)else none
  |some (.mT g' sz' es)=>if g=g'∧sz=sz'∧nC=sz∧off+len≤es.length then some ((es.drop off).take len)else none
  |_=>none
 |_=>none
def jG (sz most:Nat) (x:U) (ys:List (List U)) (σ:Heap):Option (U×Heap):=match x with
 |.aB=>if ys=[]then some (.aB,σ)else if ys.length≤most then some (.os σ.length ys.length sz 0 ys.length,σ++[.arr ys.length sz ys])else none
 |.ez=>if ys=[]then some (.ez,σ)else if ys.length≤most then some (.os σ.length ys.length sz 0 ys.length,σ++[.arr ys.length sz ys])else none
 |.os id g nC off len=>match σ[id]? with
  | some (.arr g' sz' es) => if g = g' ∧ sz = sz' ∧ nC = sz ∧ off + len ≤ es.length ∧ len + ys.length ≤ most then
    (if ys=[]then some (.os id g sz off len,σ)else if off+len+ys.length≤es.length then some (.os id g sz off (len+ys.length),σ.set id (.arr g sz (es.take (off+len)++ys++es.drop (off+len+ys.length))))
    else some (.os id (g+ys.length) sz 0 (len+ys.length),σ.set id (.arr (g+ys.length) sz ((es.drop off).take len++ys))))else none
  | some (.mT g' sz' es) => if g = g' ∧ sz = sz' ∧ nC = sz ∧ off + len ≤ es.length ∧ len + ys.length ≤ most ∧ es.length < off + len + ys.length then
    some (.os σ.length (len+ys.length) sz 0 (len+ys.length),σ++[.arr (len+ys.length) sz ((es.drop off).take len++ys)])else none
  |_=>none
 |_=>none
def append (sz most:Nat) (x y:U) (σ:Heap):Option (U×Heap):=(elems sz y σ).bind fun ys=>jG sz most x ys σ
def rj (sz most:Nat) (zs:List U) (x n:U) (σ:Heap):Option (U×Heap):=match n with
 |.int _ k=>if 0≤k∧k≤most then jG sz most x (List.replicate k.toNat zs) σ else none
 |_=>none
def iH (sz:Nat) (x y:U) (σ:Heap):Option (U×Heap):=(elems sz y σ).bind fun ys=>match x with
 |.aB=>some (.int .i64 0,σ)
 |.ez=>some (.int .i64 0,σ)
 |.os id g nC off len=>match σ[id]? with
  | some (.arr g' sz' es) => if g = g' ∧ sz = sz' ∧ nC = sz ∧ off + len ≤ es.length then (if ys.length = 0 ∨ len = 0 then some (.int .i64 0, σ) else
    some (.int .i64 (ys.take len).length,σ.set id (.arr g sz (es.take off++ys.take len++es.drop (off+(ys.take len).length)))))else none
  |_=>none
 |_=>none
noncomputable def all {R:Type} (p:Nat→Prop) (k:Nat→Option R):Option R:=open Classical in if h:∃r,∀n,p n→k n=some r then some (Classical.choose h)else none
noncomputable def wK {R:Type} (x:U) (σ:Heap) (k:Nat→Heap→Option R):Option R:=match x with
 |.os id g sz off len=>match σ[id]? with
  |some (.arr g' sz' es)=>if g=g'∧sz=sz'∧off+len≤es.length then all (fun c=>len≤c∧es.length≤off+c) (fun c=>k c (if c=len then σ.set id (.mT g sz es)else σ.set id (.arr g sz (es++List.replicate (off+c-es.length) (List.replicate sz .undef)))))else none
  |_=>none
 |_=>none
def AW {R:Type} (v:U) (k:Nat→List (List U)→Option R):Option R:=match v with|.sl sz es=>bif es.length==0 then none else k sz es|_=>none
def wJ {R:Type} (v:Option U) (k:U→Option R) (u:Option R):Option R:=match v with|some v=>k v|none=>u
def Kf (m:U):Option (List (U×U)):=match m with
 |.nm=>some []
 |.fm es=>some es
 |_=>none
noncomputable def wo {R:Type} (i:U) (σ:Heap) (k:U→Heap→Option R):Option R:=match i with
 |.op id 0=>match σ[id]? with
  |some (.it _ [])=>k (.aA [.bool false]) σ
  |some (.it _ (e::left))=>all (fun j=>j<(e::left).length) (fun j=>match(e::left)[j]? with
   |some p=>k (.aA [.bool true,p.1,p.2]) (σ.set id (.it [p] ((e::left).eraseIdx j)))
   |none=>none)
  |_=>none
 |_=>none
def J5 (i:U) (σ:Heap):Option U:=match i with
 |.op id 0=>match σ[id]? with
  |some (.it [p] _)=>some (.aA [p.1,p.2])
  |_=>none
 |_=>none
def yg (sz:Nat) (zs:List U) (x:U) (σ:Heap):Option Heap:=match x with
 |.aB=>some σ
 |.ez=>some σ
 |.sl _ []=>some σ
 |.os id g nC off len=>match σ[id]? with
  |some (.arr g' sz' es)=>if g=g'∧sz=sz'∧nC=sz∧off+len≤es.length then(if len=0 then some σ else some (σ.set id (.arr g sz (es.take off++List.replicate len zs++es.drop (off+len)))))else none
  |_=>none
 |_=>none
def find (e:EK) (k:U):List (U×U)→Option (Option U)
 |[]=>some none
 |(k',v)::r=>(dG e k k').bind fun b=>bif b then some (some v)else find e k r
def n9 (e:EK) (k:U):List (U×U)→Nat→Option (Option Nat)
 |[],_=>some none
 |(k',_)::r,i=>(dG e k k').bind fun b=>bif b then some (some i)else n9 e k r (i+1)
def upd (e:EK) (k v:U):List (U×U)→Option (List (U×U))
 |[]=>some [(k,v)]
 |(k',v')::r=>(dG e k k').bind fun b=>bif b then some ((k,v)::r)else(upd e k v r).map ((k',v')::·)
def del (e:EK) (k:U):List (U×U)→Option (List (U×U))
 |[]=>some []
 |(k',v')::r=>(dG e k k').bind fun b=>bif b then some r else(del e k r).map ((k',v')::·)
def entries (m:U) (σ:Heap):Option (List (U×U)):=match m with
 |.nm=>some []
 |.fm es=>some es
 |.om id=>match σ[id]? with|some (.map es)=>some es|_=>none
 |_=>none
def gj (e:EK) (k:U):Bool:=match e,k with
 |.i,.int _ _=>true
 |.b,.bool _=>true
 |.z,.str _=>true
 |.s ks,.agg xs=>xs.length==ks.length
 |_,_=>false
def look (e:EK) (m k zero:U) (σ:Heap):Option U:=bif gj e k then(entries m σ).bind fun es=>(find e k es).map fun r=>r.getD zero else none
def Az (e:EK) (m k zero:U) (σ:Heap):Option U:=bif gj e k then(entries m σ).bind fun es=>(find e k es).map fun r=>.aA [r.getD zero,.bool r.isSome]else none
def eU (e:EK) (m k v:U) (σ:Heap):Option Heap:=bif gj e k then(match m with
 |.om id=>match σ[id]? with|some (.map es)=>(upd e k v es).map fun es=>σ.set id (.map es)|_=>none
 |_=>none)else none
def yG (e:EK) (m k:U) (σ:Heap):Option Heap:=bif gj e k then(match m with
 |.nm=>some σ
 |.om id=>match σ[id]? with|some (.map es)=>(del e k es).map fun es=>σ.set id (.map es)|_=>none
 |_=>none)else none
noncomputable def quiet (r:Option (U×Heap)) (σ:Heap):Option U:=r.bind fun p=>open Classical in if p.2=σ then some p.1 else none
def fO (dyn:Nat→List U→Heap→Option (U×Heap)) (f:U) (args:List U) (σ:Heap):Option (U×Heap):=match f with|.fn n caps=>dyn n (args++caps) σ|_=>none
def tab {α:Type} (d:α):List (Nat×α)→Nat→α
 |[],_=>d
 |(m,x)::r,n=>bif n==m then x else tab d r n
def iter (f:List U→Heap→Option (AX×List U×Heap)):Nat→List U→Heap→Option (AX×List U×Heap)
 |0,_,_=>none
 |n+1,v,σ=>(f v σ).bind fun r=>match r.1 with|.normal=>iter f n r.2.1 r.2.2|_=>some r
noncomputable def loop (f:List U→Heap→Option (AX×List U×Heap)) (v:List U) (σ:Heap):Option (AX×List U×Heap):=
 open Classical in if h:∃n r,iter f n v σ=some r then some (Classical.choose (Classical.choose_spec h))else none
def Cs {R:Type} (f:List U→Heap→(AX×List U×Heap→Option R)→Option R):Nat→List U→Heap→(AX×List U×Heap→Option R)→Option R
 |0,_,_,_=>none
 |n+1,v,σ,K=>f v σ fun r=>match r.1 with|.normal=>Cs f n r.2.1 r.2.2 K|_=>K r
noncomputable def Kv {R:Type} (f:List U→Heap→(AX×List U×Heap→Option R)→Option R) (v:List U) (σ:Heap) (K:AX×List U×Heap→Option R):Option R:=
 open Classical in if h:∃r,∃n,∀m,n≤m→Cs f m v σ K=some r then some (Classical.choose h)else none
mutual
def bn (σ:Heap) (n:Nat):Nat→U→Option U
 |_,.int k a=>some (.int k a)
 |_,.bool b=>some (.bool b)
 |_,.str s=>some (.str s)
 |_,.aB=>some .aB
 |_,.ez=>some .ez
 |_,.np=>some .np
 |_,.nm=>some .nm
 |_,.tO=>some .tO
 |d,.agg cs=>(dm σ n d cs).map .agg
 |d,.aA cs=>(dm σ n d cs).map .aA
 |d,.sl sz es=>(iI σ n d es).map (.sl sz)
 |d,.rp cs=>(dm σ n d cs).map .rp
 |d,.fm es=>(tv σ n d es).map .fm
 |d,.fn f cs=>(dm σ n d cs).map (.fn f)
 |0,_=>none
 |d+1,.om id=>if id<n then some (.om id)else match σ[id]? with
  |some (.map es)=>(pq σ n d es).map .fm
  |_=>none
 |d+1,.op id off=>if id<n then some (.op id off)else match σ[id]? with
  |some (.box cs)=>(oc σ n d (cs.drop off)).map .rp
  |_=>none
 |d+1,.oe id g i off=>if id<n then some (.oe id g i off)else match σ[id]? with
  |some (.arr g' _ es)=>if g=g' then(match es[i]? with|some e=>(oc σ n d (e.drop off)).map .rp|none=>none)else none
  |_=>none
 |d+1,.os id g nC off len=>if id<n then some (.os id g nC off len)else match σ[id]? with
  |some (.arr g' sz es)=>if g=g'∧nC=sz∧off+len≤es.length then(Ci σ n d ((es.drop off).take len)).map (.sl sz)else none
  |_=>none
 |_,_=>none
def dm (σ:Heap) (n:Nat):Nat→List U→Option (List U)
 |_,[]=>some []
 |d,x::r=>(bn σ n d x).bind fun y=>(dm σ n d r).map (y::·)
def oc (σ:Heap) (n:Nat):Nat→List U→Option (List U)
 |_,[]=>some []
 |d,x::r=>(bn σ n d x).bind fun y=>(oc σ n d r).map (y::·)
def tv (σ:Heap) (n:Nat):Nat→List (U×U)→Option (List (U×U))
 |_,[]=>some []
 |d,(k,v)::r=>(bn σ n d k).bind fun k=>(bn σ n d v).bind fun v=>(tv σ n d r).map ((k,v)::·)
def pq (σ:Heap) (n:Nat):Nat→List (U×U)→Option (List (U×U))
 |_,[]=>some []
 |d,(k,v)::r=>(bn σ n d k).bind fun k=>(bn σ n d v).bind fun v=>(pq σ n d r).map ((k,v)::·)
def iI (σ:Heap) (n:Nat):Nat→List (List U)→Option (List (List U))
 |_,[]=>some []
 |d,x::r=>(dm σ n d x).bind fun y=>(iI σ n d r).map (y::·)
def Ci (σ:Heap) (n:Nat):Nat→List (List U)→Option (List (List U))
 |_,[]=>some []
 |d,x::r=>(dm σ n d x).bind fun y=>(Ci σ n d r).map (y::·)
end
end A
abbrev aj:U:=(U.int .i64 0)
abbrev ay:Option U:=(some (U.aA []))
abbrev aP:U:=(U.bool false)
abbrev aR:U:=(U.int .i64 1)
abbrev bw:U:=(U.str ⟨#[]⟩)
abbrev cq:U:=(U.bool true)
section
structure pN where
 slot:Nat
 off:Nat
 tag:Option (Nat×Bool)
structure AS where
 sl:List U
 A:Nat→Option pN
 σ:Heap
structure Fx where
 P:Program
 nm:List Nat
 call:FuncId→List U→Heap→Option (U×Heap)
 dyn:Nat→List U→Heap→Option (U×Heap)
 L:List Nat
 O:List Nat
 n:Nat
 W:List Nat
inductive jM where
 |n
 |s (a b:jM)
 |c (live:List Nat) (a b:jM)
 |j (a b:jM)
 |b (a:jM)
 |l (live:List Nat) (xs:List AX) (a:jM)
 |lc (live:List Nat) (xs:List AX) (a:jM)
noncomputable section
def vX:Value→U
 |.int k n=>.int k n
 |.bool b=>.bool b
 |.string s=>.str s
 |.slice none 0 0=>.aB
 |.pointer none=>.np
 |.map none=>.nm
 |.nilFunc=>.tO
 |_=>.undef
def cu:Value→Bool
 |.agg _=>false
 |.tuple _=>false
 |_=>true
def qt:Value→U
 |.agg cs=>bif cs.toList.all cu then .agg (cs.toList.map vX)else .undef
 |v=>vX v
section
variable {R : Type} (X : Fx)
def yj (t:TypeId):Bool:=match X.P.underlying t with|some (.struct _)=>true|some (.array _ _)=>true|_=>false
def pH (t:TypeId):Option (List U):=match X.P.info? t with|some i=>(match i.zero with|some v=>bif v.cells.toList.all cu then some (v.cells.toList.map vX)else none|none=>none)|none=>none
def ev (s:AS):Operand→U
 |.tmp t=>bif X.L.contains t then .undef else s.sl.getD t .undef
 |.const v=>qt v
 |.global _=>.undef
 |.func f=>.fn (X.nm.getD f 0) []
def lC (d:Nat):Option pN→Option pN
 |some p=>(match p.tag with|some (g,_)=>bif g==d then none else some p|none=>some p)
 |none=>none
def AS.put (X:Fx) (d:Option Nat) (v:U) (s:AS):AS:=
 match d with
 |some d=>⟨s.sl.set d (bif X.L.contains d then .undef else v),fun t=>bif t==d then none else lC d (s.A t),s.σ⟩
 |none=>s
def AS.jN (X:Fx) (d:Option Nat) (b off:Nat) (tag:Option (Nat×Bool)) (s:AS):AS:=
 match d with
 |some d=>⟨s.sl.set d .undef,fun t=>bif t==d then(bif X.L.contains d||!Nat.blt d X.n then none else match tag with|some (g,w)=>(bif g==d then none else some ⟨b,off,some (g,w)⟩)|none=>some ⟨b,off,none⟩)else lC d (s.A t),s.σ⟩
 |none=>s
def AS.lG (d:Nat) (cs:List U) (s:AS):AS:=
 ⟨s.sl.set d (.lbx cs),fun t=>bif t==d then none else match lC d (s.A t)with|some p=>bif p.slot==d then none else some p|none=>none,s.σ⟩
def AS.heap (σ:Heap) (s:AS):AS:=⟨s.sl,s.A,σ⟩
def place (s:AS) (tag:Option (Nat×Bool)):Operand→Option (Nat×Nat)
 |.tmp t=>bif X.L.contains t then some (t,0)else match s.A t with
  |some p=>bif X.L.contains p.slot then(match p.tag with|none=>some (p.slot,p.off)|some g=>bif tag==some g then some (p.slot,p.off)else none)else none
  |none=>none
 |_=>none
def uB (t:TypeId) (off:Nat) (cs:List U):Option U:=match X.P.underlying t with
 |none=>none
 |some _=>bif yj X t then A.aD off (X.P.cellsOf t) cs else A.aq off cs
def sV (t:TypeId) (v:U):Option (List U):=match X.P.underlying t with
 |none=>none
 |some _=>bif yj X t then A.cells (X.P.cellsOf t) v else bif X.P.cellsOf t==1 then(A.cell v).bind fun v=>some [v]else none
def lH (s:AS) (place:Nat→Option (Nat×TypeId)):List (Nat×Operand)→List U→Option (List U)
 |[],cs=>some cs
 |(i,x)::r,cs=>match place i with
  |none=>none
  |some (off,t)=>(sV X t (ev X s x)).bind fun new=>(A.splice off new cs).bind fun cs=>lH s place r cs
def vM (t:TypeId) (f:Nat):Option (Nat×TypeId):=match X.P.underlying t with
 |some (.struct fs)=>(match fs[f]? with|some f=>some (f.offset,f.type)|none=>none)
 |_=>none
def tu (f:TypeId→Bool) (size:TypeId→Nat):List Field→Nat→Option Nat
 |[],off=>some off
 | x :: r, off => bif x.name != "_" && x.offset == off && f x.type then tu f size r (off + size x.type) else none
def iw (P:Program):Nat→TypeId→Bool
 |0,_=>false
 |d+1,t=>match P.underlying t with
  |some .bool=>P.cellsOf t==1
  |some (.int _)=>P.cellsOf t==1
  |some .string=>P.cellsOf t==1
  |some (.struct fs)=>!P.stoodInHeld t&&tu (iw P d) P.cellsOf fs.toList 0==some (P.cellsOf t)
  |_=>false
def kinds (P:Program):Nat→TypeId→List Nat
 |0,_=>[]
 |d+1,t=>match P.underlying t with
  |some .bool=>[1]
  |some (.int _)=>[0]
  |some .string=>[2]
  |some (.struct fs)=>fs.toList.flatMap fun f=>kinds P d f.type
  |_=>[]
def jE (t:TypeId):Option A.EK:=match X.P.underlying t with
 |some .bool=>some .b
 |some (.int _)=>some .i
 |some .string=>some .z
 |some (.pointer e)=>bif X.P.cellsOf e !=0 then some .p else none
 |some (.struct _)=>bif iw X.P 9 t&&!X.P.eqGuardType X.P.depth t then some (.s (kinds X.P 9 t))else none
 |_=>none
def KP (op:BinOp) (t:TypeId) (x y:U):Option U:=match op with
 |.add=>A.add x y|.sub=>A.sub x y|.mul=>A.mul x y|.quo=>A.quo x y|.rem=>A.rem x y
 |.lss=>A.lss x y|.leq=>A.leq x y|.gtr=>A.gtr x y|.geq=>A.geq x y
 |.eql=>(match jE X t with|some e=>A.eql e x y|none=>match X.P.underlying t with|some (.slice _)=>A.uZ x y|_=>none)
 |.neq=>(match jE X t with|some e=>A.neq e x y|none=>match X.P.underlying t with|some (.slice _)=>A.neN x y|_=>none)
 |.shl=>A.shl x y|.shr=>A.shr x y|_=>none
def chunks (sz:Nat):Nat→List U→List (List U)
 |0,_=>[]
 |n+1,l=>l.take sz::chunks sz n (l.drop sz)
def ew (o:Oper) (s:AS) (tag:Option (Nat×Bool)):Option U:=
 match o.op with
 |.move x=>some (ev X s x)
 |.assign x=>some (ev X s x)
 |.pick c a b=>A.pick (ev X s c) (ev X s a) (ev X s b)
 |.alloc t=>(match pH X t with|some cs=>some (.rp cs)|none=>none)
 |.box t x=>(sV X t (ev X s x)).bind fun cs=>some (.rp cs)
 |.build t ps=>(match pH X t,X.P.underlying t with
  |some zs,some (.struct fs)=>bif fs.toList.all (fun f=>(X.P.info? f.type).isSome)then(lH X s (vM X t) ps.toList zs).bind fun cs=>some (.agg cs)else none
  |_,_=>none)
 |.buildSlice t len ps=>(match X.P.underlying t with
  |some (.slice e)=>(match X.P.info? e,pH X e with
   |some i,some zs=>bif (i.size==0||zs.length !=i.size)then none else bif Nat.blt 16777216 (len*i.size)then none
    else(lH X s (fun j=>some (j*i.size,e)) ps.toList ((List.replicate len zs).flatten)).bind fun cs=>some (bif len==0 then .ez else .sl i.size (chunks i.size len cs))
   |_,_=>none)
  |_=>none)
 |.load t x=>(match place X s tag x with
  |some (b,off)=>(A.lb (s.sl.getD b .undef)).bind fun cs=>uB X t off cs
  |none=>(A.deref (ev X s x) s.σ).bind fun cs=>uB X t 0 cs)
 |.nilCheck x=>A.eT (ev X s x)
 |.binOp op t x y _=>KP X op t (ev X s x) (ev X s y)
 |.unOp op _ x=>(match op with
  |.not=>A.not (ev X s x)
  |.neg=>A.neg (ev X s x)
  |_=>none)
 |.convert src dst x=>(match X.P.underlying src,X.P.underlying dst with
  |some (.int _),some (.int j)=>A.conv j (ev X s x)
  |some .string,some .string=>A.Sc (ev X s x)
  |_,_=>none)
 |.makeInterface t _=>(match X.P.underlying t with|some (.interface _)=>none|some _=>some .undef|none=>none)
 |.makeFunc fn first caps=>(match fn with|.func f=>bif first.toList.isEmpty then some (.fn (X.nm.getD f 0) (caps.toList.map (ev X s)))else none|_=>none)
 |.slice t x lo hi mx=>(match mx with
  |none=>(match X.P.underlying t with
   |some .string=>A.Kh (ev X s x) (lo.map (ev X s)) (hi.map (ev X s))
   |some (.slice e)=>(match X.P.info? e with|some i=>A.bN i.size (ev X s x) (lo.map (ev X s)) (hi.map (ev X s)) s.σ|none=>none)
   |_=>none)
  |some mx=>(match X.P.underlying t,hi with
   |some (.slice e),some hi=>(match X.P.info? e with|some _=>A.slice3 (ev X s x) (lo.map (ev X s)) (ev X s hi) (ev X s mx)|none=>none)
   |_,_=>none))
 |.fieldAddr t x f=>(match vM X t f with
  |some (off,ft)=>(match X.P.info? ft with|some i=>bif i.size==0 then none else A.bD off (ev X s x)|none=>none)
  |none=>none)
 |.field t x f=>(match vM X t f with
  |some (off,ft)=>(A.cells (X.P.cellsOf t) (ev X s x)).bind fun cs=>uB X ft off cs
  |none=>none)
 |.indexAddr t x i=>(match X.P.underlying t with
  |some (.slice e)=>(match X.P.info? e with|some j=>A.aU j.size (ev X s x) (ev X s i)|none=>none)
  |some (.array len e)=>(match X.P.info? e with|some j=>A.sZ len j.size (ev X s x) (ev X s i)|none=>none)
  |_=>none)
 |.index t x i=>(match X.P.underlying t with
  |some .string=>A.oz (ev X s x) (ev X s i)
  |_=>none)
 |.lookup t m i ok=>(match X.P.underlying t with
  |some (.map kt e)=>(match X.P.info? e,jE X kt with
   |some inf,some ek=>(match inf.zero with
    |some z=>bif ok then A.Az ek (ev X s m) (ev X s i) (qt z) s.σ else A.look ek (ev X s m) (ev X s i) (qt z) s.σ
    |none=>none)
   |_,_=>none)
  |_=>none)
 |.extract x i=>A.ext i (ev X s x)
 |.entry i=>A.J5 (ev X s i) s.σ
 |.call c=>(match c.callee with
  |.builtin b=>(match b,c.argTypes.toList,c.args.toList.map (ev X s)with
   |.len,[t],[x]=>(match X.P.underlying t with
    |some .string=>A.wV x
    |some (.slice _)=>A.bf x
    |some (.map _ _)=>A.S5 x s.σ
    |_=>none)
   |.cap,[t],[x]=>(match X.P.underlying t with|some (.slice _)=>A.CA x|_=>none)
   |.max,_,[x,y]=>A.max x y
   |.min,_,[x,y]=>A.min x y
   |_,_,_=>none)
  |.value (.func f)=>A.quiet (X.call f (c.args.toList.map (ev X s)) s.σ) s.σ
  |.value x=>A.quiet (A.fO X.dyn (ev X s x) (c.args.toList.map (ev X s)) s.σ) s.σ
  |_=>none)
 |_=>none
def gX (o:Oper) (s:AS) (tag:Option (Nat×Bool)):Option (Nat×Option Nat):=
 match o.op with
 |.nilCheck x=>(match place X s tag x with|some (b,off)=>some (b,(A.lb (s.sl.getD b .undef)).bind fun _=>some off)|none=>none)
 |.fieldAddr t x f=>(match place X s tag x with
  |some (b,o')=>some (b,match vM X t f with
   |some (off,ft)=>(match X.P.info? ft with|some i=>bif i.size==0 then none else(A.lb (s.sl.getD b .undef)).bind fun _=>some (o'+off)|none=>none)
   |none=>none)
  |none=>none)
 |.indexAddr t x i=>(match place X s tag x with
  |some (b,o')=>some (b,match X.P.underlying t with
   |some (.array len e)=>(match X.P.info? e with|some ie=>(A.lb (s.sl.getD b .undef)).bind fun _=>(A.idx len (ev X s i)).bind fun j=>some (o'+j*ie.size)|none=>none)
   |_=>none)
  |none=>none)
 |_=>none
def kq (i:TypeInfo):Bool:=i.size==0||i.bytes==0||(match i.zero with|some z=>z.cells.size !=i.size||!z.cells.toList.all cu|none=>true)
def eX (q:Bool) (o:Oper) (s:AS) (k:AS→Option R):Option R:=
 match gX X o s none with
 |some (b,r)=>r.bind fun off=>k (s.jN X o.dst b off none)
 |none=>
 match o.op with
 |.alloc t=>(match o.dst with
  |some d=>bif X.L.contains d then(match pH X t with|some cs=>k (s.lG d cs)|none=>none)
   else bif X.O.contains d then(match pH X t with|some cs=>k ((s.heap (s.σ++[.box cs])).put X (some d) (.op s.σ.length 0))|none=>none)
   else(ew X o s none).bind fun v=>k (s.put X o.dst v)
  |none=>none)
 |.box t x=>(match o.dst with
  |some d=>bif X.L.contains d then(sV X t (ev X s x)).bind fun cs=>k (s.lG d cs)
   else bif X.O.contains d then(sV X t (ev X s x)).bind fun cs=>k ((s.heap (s.σ++[.box cs])).put X (some d) (.op s.σ.length 0))
   else(ew X o s none).bind fun v=>k (s.put X o.dst v)
  |none=>none)
 |.store t x v=>(match place X s none x with
  |some (b,off)=>(A.lb (s.sl.getD b .undef)).bind fun cs=>(sV X t (ev X s v)).bind fun new=>(A.splice off new cs).bind fun cs=>k ((⟨s.sl.set b (.lbx cs),s.A,s.σ⟩:AS).put X o.dst (.aA []))
  |none=>(sV X t (ev X s v)).bind fun new=>(A.storeAt (ev X s x) new s.σ).bind fun σ=>k ((s.heap σ).put X o.dst (.aA [])))
 |.buildSlice t n ps=>(match o.dst with
  |some d=>bif X.O.contains d then(ew X o s none).bind fun v=>A.AW v fun sz es=>k ((s.heap (s.σ++[.arr es.length sz es])).put X (some d) (.os s.σ.length es.length sz 0 es.length))
   else(ew X o s none).bind fun v=>k (s.put X o.dst v)
  |none=>(ew X o s none).bind fun v=>k (s.put X o.dst v))
 |.makeMap t r=>(match r with
  |none=>k ((s.heap (s.σ++[.map []])).put X o.dst (.om s.σ.length))
  |some _=>none)
 |.mapUpdate t m i v=>(match X.P.underlying t with
  |some (.map kt _)=>(match jE X kt with|some ek=>(A.eU ek (ev X s m) (ev X s i) (ev X s v) s.σ).bind fun σ=>k ((s.heap σ).put X o.dst (.aA []))|none=>none)
  |_=>none)
 |.range t x=>(match X.P.underlying t with
  |some (.map _ _)=>(A.Kf (ev X s x)).bind fun es=>k ((s.heap (s.σ++[.it [] es])).put X o.dst (.op s.σ.length 0))
  |_=>none)
 |.next i str=>bif q||str then none else A.wo (ev X s i) s.σ (fun v σ=>k ((s.heap σ).put X o.dst v))
 |.call c=>(match c.callee with
  |.builtin .append=>(match c.argTypes.toList,c.args.toList.map (ev X s)with
   |[t,u],[x,y]=>(match X.P.underlying t,X.P.underlying u with
    |some (.slice e),some (.slice _)=>(match X.P.info? e with
     |some i=>bif kq i then none else(A.append i.size (140737488355328 / i.bytes) x y s.σ).bind fun r=>k ((s.heap r.2).put X o.dst r.1)
     |none=>none)
    |some (.slice e),some (.int _)=>(match X.P.info? e,pH X e with
     |some i,some zs=>bif kq i then none else(A.rj i.size (140737488355328 / i.bytes) zs x y s.σ).bind fun r=>k ((s.heap r.2).put X o.dst r.1)
     |_,_=>none)
    |_,_=>none)
   |_,_=>none)
  |.builtin .copy=>(match c.argTypes.toList,c.args.toList.map (ev X s)with
   |[t,u],[x,y]=>(match X.P.underlying t,X.P.underlying u with
    |some (.slice e),some (.slice _)=>(match X.P.info? e with
     |some i=>bif kq i then none else(A.iH i.size x y s.σ).bind fun r=>k ((s.heap r.2).put X o.dst r.1)
     |none=>none)
    |_,_=>none)
   |_,_=>none)
  | .builtin .cap => A.wJ (ew X o s none) (fun v => k (s.put X o.dst v)) (bif q then none else (match c.argTypes.toList, c.args.toList.map (ev X s) with
    |[t],[x]=>(match X.P.underlying t with|some (.slice _)=>A.wK x s.σ (fun c σ=>k ((s.heap σ).put X o.dst (.int .i64 c)))|_=>none)
    |_,_=>none))
  |.builtin .clear=>(match c.argTypes.toList,c.args.toList.map (ev X s)with
   |[t],[x]=>(match X.P.underlying t with
    |some (.slice e)=>(match X.P.info? e,pH X e with
     |some i,some zs=>bif kq i then none else(A.yg i.size zs x s.σ).bind fun σ=>k ((s.heap σ).put X o.dst (.aA []))
     |_,_=>none)
    |_=>none)
   |_,_=>none)
  |.builtin .delete=>(match c.argTypes.toList,c.args.toList.map (ev X s)with
   |[t,_],[m,key]=>(match X.P.underlying t with
    |some (.map kt _)=>(match jE X kt with|some ek=>(A.yG ek m key s.σ).bind fun σ=>k ((s.heap σ).put X o.dst (.aA []))|none=>none)
    |_=>none)
   |_,_=>none)
  |.builtin _=>(ew X o s none).bind fun v=>k (s.put X o.dst v)
  | .value (.func f) => bif q && !X.W.contains f then (ew X o s none).bind fun v => k (s.put X o.dst v)
    else(X.call f (c.args.toList.map (ev X s)) s.σ).bind fun r=>k ((s.heap r.2).put X o.dst r.1)
  | .value x => bif q then (ew X o s none).bind fun v => k (s.put X o.dst v)
    else(A.fO X.dyn (ev X s x) (c.args.toList.map (ev X s)) s.σ).bind fun r=>k ((s.heap r.2).put X o.dst r.1)
  |_=>none)
 |_=>(ew X o s none).bind fun v=>k (s.put X o.dst v)
def BX (o:Oper) (d:Nat):Bool:=X.L.contains d||(match o.dst with|some d=>X.L.contains d||X.O.contains d|none=>false)
def kW (q:Bool) (ops:Array Oper) (o:Oper) (s:AS) (k:AS→Option R):Option R:=
 match o.guard with
 |none=>eX X q o s k
 |some (j,want)=>match(ops[j]?).bind (·.dst)with
  |some d=>bif BX X o d then none else(match gX X o s (some (d,want))with
   |some (b,r)=>r.bind fun off=>k (s.jN X o.dst b off (some (d,want)))
   |none=>(A.guard (s.sl.getD d .undef) want (ew X o s (some (d,want))) (some (.aA []))).bind fun v=>k (s.put X o.dst v))
  |none=>none
def force {R:Type}:List U→(List U→Option R)→Option R
 |[],k=>k []
 |x::l,k=>force l fun l=>k (x::l)
def ou (q:Bool) (ops:Array Oper):List Oper→AS→(AS→Option R)→Option R
 |[],s,k=>k s
 |o::r,s,k=>kW X q ops o s fun s=>ou q ops r s k
def CP (q:Bool) (ops:Array Oper):List Oper→AS→(AS→Option R)→Option R
 |[],s,k=>k s
 |o::r,s,k=>kW X q ops o s fun s=>force s.sl fun sl=>CP q ops r ⟨sl,s.A,s.σ⟩ k
def rL (o:Oper):Bool:=match o.op with|.load ..|.store ..|.fieldAddr ..|.indexAddr ..|.nilCheck ..=>true|_=>false
def rH (o:Oper):Bool:=match o.op with|.load ..|.store ..|.lookup ..|.mapUpdate ..|.call ..|.makeMap ..|.alloc ..|.box ..|.range ..|.next ..|.entry ..|.slice ..|.buildSlice ..=>true|_=>false
def wH (o:Oper):Bool:=match o.op with
 |.store ..|.mapUpdate ..|.makeMap ..|.range ..|.next ..=>true
 |.alloc ..|.box ..|.buildSlice ..=>(match o.dst with|some d=>X.O.contains d|none=>false)
 |.call c=>(match c.callee with|.builtin .len=>false|.builtin .max=>false|.builtin .min=>false|.builtin _=>true|.value (.func f)=>X.W.contains f|_=>false)
 |_=>false
def lI:U→Bool
 |.oe ..=>false
 |_=>true
def vV (Bt:List Nat) (o:Oper):Bool:=match o.op with
 |.move (.tmp t)=>Bt.contains t
 |.assign (.tmp t)=>Bt.contains t
 |.nilCheck (.tmp t)=>Bt.contains t
 |.fieldAddr _ (.tmp t) _=>Bt.contains t
 |_=>false
def abr (o:Oper):Option Nat:=match o.op with
 |.move (.tmp t)=>some t
 |.assign (.tmp t)=>some t
 |.nilCheck (.tmp t)=>some t
 |.fieldAddr _ (.tmp t) _=>some t
 |.load _ (.tmp t)=>some t
 |_=>none
def abV (ops:List Oper) (sl:List U):List Nat:=(ops.filterMap abr).filter fun t=>!(ops.any fun o=>o.dst==some t)&&lI (sl.getD t .undef)
def RM:List Oper→List Nat→List Nat
 |[],acc=>acc
 |o::r,acc=>RM r (match o.dst with|some d=>(bif vV acc o then d::acc else acc)|none=>acc)
def soft (Bt:List Nat) (o:Oper):Bool:=match o.op with|.load _ (.tmp t)=>Bt.contains t|_=>false
def xg (o:Oper):Bool:=match o.op with
 |.makeMap ..=>true
 |.mapUpdate ..=>true
 |.call c=>(match c.callee with|.builtin .append=>true|_=>false)
 |_=>false
def KH (Bt:List Nat) (o:Oper):Bool:=match o.dst with
 |some d=>!Bt.contains d||vV Bt o
 |none=>true
def kR (o:Oper):Option Operand:=match o.op with
 |.load _ x=>some x
 |.store _ x _=>some x
 |.fieldAddr _ x _=>some x
 |.indexAddr _ x _=>some x
 |.nilCheck x=>some x
 |_=>none
def rI (o:Oper):Bool:=match o.op with|.fieldAddr ..=>true|.indexAddr ..=>true|.nilCheck ..=>true|_=>false
def tW (Rt:List (Nat×Nat)):Operand→Option Nat
 |.tmp t=>bif X.L.contains t then some t else Rt.lookup t
 |_=>none
def rt (Rt:List (Nat×Nat)) (o:Oper):Option Nat:=match kR o with|some x=>tW X Rt x|none=>none
def Kg:List Oper→List (Nat×Nat)→List (Nat×Nat)
 |[],Rt=>Rt
 |o::r,Rt=>Kg r (match o.dst with|some d=>(bif rI o then(match rt X Rt o with|some b=>(d,b)::Rt|none=>Rt)else Rt)|none=>Rt)
def KJ (Rt:List (Nat×Nat)) (o:Oper):Bool:=match o.dst with
 |some d=>X.L.contains d||Rt.lookup d==(bif rI o then rt X Rt o else none)
 |none=>true
def jy:U→Bool
 |.undef=>true
 |.aA []=>true
 |_=>false
def aa9 (Rt:List (Nat×Nat)) (sl:List U):Bool:=Rt.all fun p=>jy (sl.getD p.1 .undef)
def wb (Rt:List (Nat×Nat)) (o:Oper):Option Nat:=match o.op with|.store ..=>rt X Rt o|_=>none
def p4 (Rt:List (Nat×Nat)) (o:Oper):Bool:=match o.op with
 |.load ..=>(rt X Rt o).isNone
 |.store ..=>(rt X Rt o).isNone
 |.alloc ..|.box ..|.buildSlice ..=>(match o.dst with|some d=>X.O.contains d|none=>false)
 |_=>rH o
def mD (Rt:List (Nat×Nat)) (o:Oper):Bool:=match o.op with
 |.store ..=>(rt X Rt o).isNone
 |_=>wH X o
def tc (Rt:List (Nat×Nat)) (Bt:List Nat) (x y:Oper):Bool:=
 (match wb X Rt x with|some b=>rt X Rt y==some b|none=>false)||(match x.dst with|some d=>X.L.contains d&&rt X Rt y==some d|none=>false)||(mD X Rt x&&((p4 X Rt y&&!(soft Bt y&&xg x))||mD X Rt y))
def indep (Rt:List (Nat×Nat)) (Bt:List Nat) (ops:Array Oper) (x y:Oper):Bool:=x.apart ops y&&!tc X Rt Bt x y&&!tc X Rt Bt y x
def Gh:List Oper→List Nat→List Nat
 |[],acc=>acc
 |o::r,acc=>Gh r (acc++[o.after.toList.foldl (fun s e=>bif Region.binds .any e then s ||| 2 ^ e.on ||| acc.getD e.on 0 else s) 0])
def F6:List Oper→Nat→Bool
 |[],_=>true
 |o::r,i=>o.after.toList.all (fun e=>!Region.binds .any e||Nat.blt e.on i)&&F6 r (i+1)
def FW (Rt:List (Nat×Nat)) (Bt:List Nat) (ops:Array Oper) (CV:List Nat):List Oper→Nat→Bool
 |[],_=>true
 |o::r,i=>(ops.toList.take i).zipIdx.all (fun p=>(CV.getD i 0).testBit p.2||indep X Rt Bt ops p.1 o)&&FW Rt Bt ops CV r (i+1)
def Fb (Rt:List (Nat×Nat)) (Bt:List Nat) (ops:Array Oper) (sl:List U):Bool:=
 X.P.follows .mixedOrders&&F6 ops.toList 0&&FW X Rt Bt ops (Gh ops.toList []) ops.toList 0&&ops.toList.all (KJ X Rt)&&aa9 Rt sl&&Rt.all (fun p=>X.L.contains p.2)&&ops.toList.all (KH Bt)&&Bt.all (fun t=>lI (sl.getD t .undef))
def B1 (ops:Array Oper) (sl:List U):Bool:=Fb X (Kg X ops.toList []) [] ops sl||Fb X (Kg X ops.toList []) (RM ops.toList (abV ops.toList sl)) ops sl
def cQ:Code→List Nat
 |.region _ ops _=>ops.toList.filterMap (·.dst)
 |.seq a b=>cQ a++cQ b
 |.cond _ a b=>cQ a++cQ b
 |.block _ c=>cQ c
 |.loop c=>cQ c
 |_=>[]
def qY (sl:List U):List Nat→List U
 |[]=>sl
 |d::r=>qY (sl.set d .undef) r
def AD (vs:List U):List U→List Nat→Nat→List U
 |sl,d::r,j=>AD vs (sl.set d (vs.getD j .undef)) r (j+1)
 |sl,[],_=>sl
def vals (sl:List U) (live:List Nat):List U:=live.map (sl.getD · .undef)
def AS.meet (s:AS) (mods live:List Nat) (vs:List U) (σ:Heap):AS:=⟨AD vs (qY s.sl mods) live 0,fun _=>none,σ⟩
def leave (live:List Nat) (e:AX) (s:AS):Option (AX×List U×Heap):=some (e,vals s.sl live,s.σ)
def Gc (live:List Nat) (e:AX) (s:AS):Option (List U×Heap):=match e with|.normal=>some (vals s.sl live,s.σ)|_=>none
def A.sel {R:Type} (e:AX) (k:AX→Option R):List AX→Option R
 |[]=>none
 |x::r=>bif e==x then k x else A.sel e k r
def exec:{R:Type}→jM→Code→AS→(AX→AS→Option R)→Option R
 |_,_,.skip,s,k=>k .normal s
 |_,_,.label _,s,k=>k .normal s
 | _, _, .region _ ops draw, s, k => bif draw then (bif B1 X ops s.sl then CP X true ops ops.toList ⟨s.sl, fun _ => none, s.σ⟩ fun s => k .normal ⟨s.sl, fun _ => none, s.σ⟩ else none)
   else CP X false ops ops.toList s fun s=>k .normal ⟨s.sl,fun _=>none,s.σ⟩
 |_,.s a b,.seq x y,s,k=>exec a x s fun e s=>match e with|.normal=>exec b y s k|e=>k e s
 |_,.c live a b,.cond c x y,s,k=>bif !(live.all fun d=>(cQ x++cQ y++X.L).contains d)then none else(A.cond (ev X s c) (exec a x s (Gc live)) (exec b y s (Gc live))).bind fun r=>force (s.meet (cQ x++cQ y++X.L) live r.1 r.2).sl fun sl=>k .normal ⟨sl,fun _=>none,r.2⟩
 |_,.j a b,.cond c x y,s,k=>A.cond (ev X s c) (exec a x s k) (exec b y s k)
 |_,.b a,.block id c,s,k=>exec a c s fun e s=>match e with|.exit i=>bif i==id then k .normal s else k (.exit i) s|e=>k e s
 |_,.l live xs a,.loop c,s,k=>bif !(live.all fun d=>(cQ c++X.L).contains d)then none else(A.loop (fun vs σ=>force (s.meet (cQ c++X.L) live vs σ).sl fun sl=>exec a c ⟨sl,fun _=>none,σ⟩ (leave live)) (vals s.sl live) s.σ).bind fun r=>A.sel r.1 (fun e=>force (s.meet (cQ c++X.L) live r.2.1 r.2.2).sl fun sl=>k e ⟨sl,fun _=>none,r.2.2⟩) xs
 |_,.lc live xs a,.loop c,s,k=>bif !(live.all fun d=>(cQ c++X.L).contains d)then none else A.Kv (fun vs σ K=>force (s.meet (cQ c++X.L) live vs σ).sl fun sl=>exec a c ⟨sl,fun _=>none,σ⟩ fun e s'=>K (e,vals s'.sl live,s'.σ)) (vals s.sl live) s.σ fun r=>A.sel r.1 (fun e=>force (s.meet (cQ c++X.L) live r.2.1 r.2.2).sl fun sl=>k e ⟨sl,fun _=>none,r.2.2⟩) xs
 |_,_,.exit id,s,k=>k (.exit id) s
 |_,_,.ret,s,k=>k .ret s
 |_,_,_,_,_=>none
def uO (s:AS):List ResultVar→(List U→Option R)→Option R
 |[],k=>k []
 |.tmp t::r,k=>uO s r fun vs=>k (ev X s (.tmp t)::vs)
 |.cell a t::r,k=>(match place X s none (.tmp a)with
  |some (b,off)=>((A.lb (s.sl.getD b .undef)).bind fun cs=>uB X t off cs).bind fun v=>uO s r fun vs=>k (v::vs)
  |none=>((A.deref (ev X s (.tmp a)) s.σ).bind fun cs=>uB X t 0 cs).bind fun v=>uO s r fun vs=>k (v::vs))
def one:List U→U
 |[v]=>v
 |vs=>.aA vs
def A.fin (σ:Heap) (r:U) (σ':Heap):Option (U×Heap):=open Classical in
 if σ'=σ then some (r,σ)else if σ'.take σ.length=σ then(A.bn σ' σ.length 8 r).map fun r=>(r,σ)else none
inductive mS where
 |K
 |F
  |N (f:U→U)
  |R
def A.gen:List U→Nat
 |[]=>0
 |x::r=>(match x with|.os _ g _ _ len=>g+len|.sl _ es=>es.length|_=>0)+A.gen r
def A.rowsOf:List U→List (List U)
 |[]=>[]
 |x::r=>(match x with|.sl _ es=>es|_=>[])++A.rowsOf r
def A.merge (args:List U) (σ:Heap) (sz:Nat) (seg:List (List U)) (id:Nat) (σ':Heap):Option (U×Heap):=match args with
 |.os gP _ _ _ _::_=>match σ[gP]? with
  | some (.arr g1 vw u0) => open Classical in if id = σ.length ∧ σ'.length = σ.length + 1 ∧ vw = sz ∧ g1 < A.gen args + 1 ∧ (∀ j, j < σ.length → j ≠ gP → σ'[j]? = σ[j]?) ∧ σ'[gP]? = some (.mT g1 vw u0) ∧ (∀ y ∈ seg, y ∈ u0 ∨ y ∈ A.rowsOf args) then
    some (.os gP (A.gen args+1) sz 0 seg.length,σ.set gP (.arr (A.gen args+1) sz seg))else none
  |_=>none
 |_=>none
def A.SN:List U→Bool
 |.os ..::_=>true
 |_=>false
def A.renew (args:List U) (σ:Heap) (v:U) (σ':Heap):Option (U×Heap):=match v with
 |.os id g sz off len=>match σ'[id]? with
  | some (.arr g' sz' es) => if g = g' ∧ sz = sz' ∧ off + len ≤ es.length ∧ g < A.gen args + 1 then
    (if id<σ.length∨A.SN args=false then some (.os id (A.gen args+1) sz 0 len,σ'.set id (.arr (A.gen args+1) sz ((es.drop off).take len)))else A.merge args σ sz ((es.drop off).take len) id σ')else none
  |_=>none
 |.aB=>some (.aB,σ')
 |.ez=>some (.ez,σ')
 |.sl sz []=>some (.sl sz [],σ')
 |_=>none
def mS.run (f:mS) (args:List U) (σ:Heap) (v:U) (σ':Heap):Option (U×Heap):=match f with
 |.K=>some (v,σ')
 |.F=>A.fin σ v σ'
 |.N g=>(A.fin σ v σ').map fun p=>(g p.1,p.2)
 |.R=>A.renew args σ v σ'
def mX (fin:mS) (bF:jM) (fn:Func) (args:List U) (σ:Heap):Option (U×Heap):=
 match fn.body with
 |some c=>bif !(Nat.ble args.length fn.ntmps&&X.n==fn.ntmps)then none else exec X bF c ⟨args++List.replicate (fn.ntmps-args.length) (.aA []),fun _=>none,σ⟩ fun e s=>match e with
  |.exit _=>none
  |_=>uO X s fn.results.toList fun vs=>fin.run args σ (one vs) s.σ
 |none=>none
end
end
end
abbrev bl:jM:=(.s .n .n)
abbrev bO:jM:=(.s .n (.j bl .n))
abbrev cI:jM:=(.j .n .n)
structure Pl where
 b:Nat
 base:Nat
 g:Nat
 sz:Nat
 nj:Nat
structure RC where
 w:World
 E:List Pl
 X:Nat→Prop
 nm:List Nat
def l6 (es:Array MapEntry) (clock:Nat):Prop:=(∀e∈es.toList,e.born<clock)∧(es.toList.map (·.born)).Nodup
mutual
def ah (c:RC):U→Value→Prop
 |.undef,_=>True
 |.int k n,v=>v=.int k n
 |.bool b,v=>v=.bool b
 |.str s,v=>v=.string s
 |.agg cs,v=>∃vs,v=.agg vs∧aC c cs vs.toList∧∀x∈vs.toList,cu x=true
 |.aA cs,v=>∃vs,v=.tuple vs∧aC c cs vs.toList
 |.sl sz es,v=>∃a cap,v=.slice a es.length cap∧es.length≤cap∧0<sz∧(es=[]∨∃b off,a=some ⟨b,off,none⟩∧b<c.w.heap.size∧¬c.X b∧bg c sz b off es)
 |.aB,v=>v=.slice none 0 0
 |.ez,v=>∃a,v=.slice a 0 0
 |.rp cs,v=>∃b off,v=.pointer (some ⟨b,off,none⟩)∧b<c.w.heap.size∧¬c.X b∧aX c b off cs
 |.np,v=>v=.pointer none
 |.op id off,v=>∃p,c.E[id]? =some p∧p.g=0∧v=.pointer (some ⟨p.b,off,none⟩)
 |.oe id g i off,v=>0<g∧∃p,c.E[id]? =some p∧g≤p.g∧∃a,v=.pointer (some a)∧(g=p.g→a=⟨p.b,p.base+i*p.sz+off,none⟩)
 |.os id g sz off len,v=>0<g∧∃p,c.E[id]? =some p∧g≤p.g∧∃a cap,v=.slice (some a) len cap∧len≤cap∧(g=p.g→p.sz=sz∧(cap=0∨a=⟨p.b,p.base+off*p.sz,none⟩)∧p.base+(off+cap)*p.sz=p.nj)
 |.om id,v=>∃p,c.E[id]? =some p∧p.g=0∧v=.map (some p.b)
 |.fm es,v=>∃b,v=.map (some b)∧b<c.w.heap.size∧¬c.X b∧∃aW clock,c.w.heap[b]? =some (.map aW clock)∧l6 aW clock∧bQ c es aW.toList
 |.nm,v=>v=.map none
 |.fn n caps,v=>∃f vs,v=.func (.func f) #[] vs∧c.nm.getD f 0=n∧aC c caps vs.toList
 |.tO,v=>v=.nilFunc
 |.lbx _,_=>False
def aC (c:RC):List U→List Value→Prop
 |[],vs=>vs=[]
 |a::r,vs=>∃v vs',vs=v::vs'∧ah c a v∧aC c r vs'
def bQ (c:RC):List (U×U)→List MapEntry→Prop
 |[],es=>es=[]
 |(k,v)::r,es=>∃e es',es=e::es'∧ah c k e.key∧ah c v e.val∧bQ c r es'
def aX (c:RC) (b:Nat):Nat→List U→Prop
 |_,[]=>True
 |off,a::r=>(∃v,c.w.cell? ⟨b,off,none⟩=some v∧cu v=true∧ah c a v)∧aX c b (off+1) r
def bg (c:RC) (sz b:Nat):Nat→List (List U)→Prop
 |_,[]=>True
 |off,e::r=>e.length=sz∧aX c b off e∧bg c sz b (off+sz) r
end
structure Ext (c c' : RC) : Prop where
 size:c.w.heap.size≤c'.w.heap.size
 stay:∀b,b<c.w.heap.size→¬c.X b→c'.w.heap[b]? =c.w.heap[b]? ∧¬c'.X b
 env:∀(i:Nat) (p:Pl),c.E[i]? =some p→∃p':Pl,c'.E[i]? =some p'∧(p'=p∨(0<p.g∧p.g<p'.g))
 nm:c'.nm=c.nm
theorem cell_of_block {w w':World} {b off:Nat} (h:w'.heap[b]? =w.heap[b]?):w'.cell? ⟨b,off,none⟩=w.cell? ⟨b,off,none⟩:=by simp [World.cell?,h]
mutual
theorem ah.mono {c c':RC} (h:Ext c c'):∀(a:U) (v:Value),ah c a v→ah c' a v
 |.undef,_,_=>by simp [ah]
 |.int k n,v,r=>by simpa [ah]using r
 |.bool b,v,r=>by simpa [ah]using r
 |.str s,v,r=>by simpa [ah]using r
 |.agg cs,v,r=>by
  simp only[ah]at r ⊢
  obtain⟨vs,e,r,k⟩:=r
  exact⟨vs,e,aC.mono h cs _ r,k⟩
 |.aA cs,v,r=>by
  simp only[ah]at r ⊢
  obtain⟨vs,e,r⟩:=r
  exact⟨vs,e,aC.mono h cs _ r⟩
 |.sl sz es,v,r=>by
  simp only[ah]at r ⊢
  obtain⟨a,cap,e,h1,h2,r⟩:=r
  refine⟨a,cap,e,h1,h2,?_⟩
  rcases r with r|⟨b,off,e,hb,hx,r⟩
  ·exact .inl r
  ·exact .inr ⟨b,off,e,Nat.lt_of_lt_of_le hb h.size,(h.stay b hb hx).2,bg.mono h sz b (h.stay b hb hx).1 es off r⟩
 |.aB,v,r=>by simpa [ah]using r
 |.ez,v,r=>by simpa [ah]using r
 |.rp cs,v,r=>by
  simp only[ah]at r ⊢
  obtain⟨b,off,e,hb,hx,r⟩:=r
  exact⟨b,off,e,Nat.lt_of_lt_of_le hb h.size,(h.stay b hb hx).2,aX.mono h b (h.stay b hb hx).1 cs off r⟩
 |.np,v,r=>by simpa [ah]using r
 |.op id off,v,r=>by
  simp only[ah]at r ⊢
  obtain⟨p,h1,h2,e⟩:=r
  obtain⟨p',h3,h4⟩:=h.env _ _ h1
  rcases h4 with rfl|⟨h4,_⟩
  ·exact⟨p',h3,h2,e⟩
  ·omega
 |.oe id g i off,v,r=>by
  simp only[ah]at r ⊢
  obtain⟨hg,p,h1,h2,a,e,r⟩:=r
  obtain⟨p',h3,h4⟩:=h.env _ _ h1
  rcases h4 with rfl|⟨h4,h5⟩
  ·exact⟨hg,p',h3,h2,a,e,r⟩
  ·exact⟨hg,p',h3,by omega,a,e,fun k=>by omega⟩
 |.os id g sz off len,v,r=>by
  simp only[ah]at r ⊢
  obtain⟨hg,p,h1,h2,a,cap,e,h6,r⟩:=r
  obtain⟨p',h3,h4⟩:=h.env _ _ h1
  rcases h4 with rfl|⟨h4,h5⟩
  ·exact⟨hg,p',h3,h2,a,cap,e,h6,r⟩
  ·exact⟨hg,p',h3,by omega,a,cap,e,h6,fun k=>by omega⟩
 |.om id,v,r=>by
  simp only[ah]at r ⊢
  obtain⟨p,h1,h2,e⟩:=r
  obtain⟨p',h3,h4⟩:=h.env _ _ h1
  rcases h4 with rfl|⟨h4,_⟩
  ·exact⟨p',h3,h2,e⟩
  ·omega
 |.nm,v,r=>by simpa [ah]using r
 |.fm es,v,r=>by
  simp only[ah]at r ⊢
  obtain⟨b,e,hb,hx,aW,clock,h1,hw,h2⟩:=r
  exact⟨b,e,Nat.lt_of_lt_of_le hb h.size,(h.stay b hb hx).2,aW,clock,(h.stay b hb hx).1.trans h1,hw,bQ.Ky h es _ h2⟩
 |.fn n caps,v,r=>by
  simp only[ah]at r ⊢
  obtain⟨f,vs,e,h1,r⟩:=r
  exact⟨f,vs,e,by rw[h.nm];exact h1,aC.mono h caps _ r⟩
 |.tO,v,r=>by simpa [ah]using r
 |.lbx _,v,r=>by simp [ah]at r
theorem bQ.Ky {c c':RC} (h:Ext c c'):∀(l:List (U×U)) (es:List MapEntry),bQ c l es→bQ c' l es
 |[],es,r=>by simpa [bQ]using r
 |(k,v)::l,es,r=>by
  simp only[bQ]at r ⊢
  obtain⟨e,es',h1,h2,h3,h4⟩:=r
  exact⟨e,es',h1,ah.mono h k _ h2,ah.mono h v _ h3,bQ.Ky h l es' h4⟩
theorem aC.mono {c c':RC} (h:Ext c c'):∀(l:List U) (vs:List Value),aC c l vs→aC c' l vs
 |[],vs,r=>by simpa [aC]using r
 |a::l,vs,r=>by
  simp only[aC]at r ⊢
  obtain⟨v,vs',e,h1,h2⟩:=r
  exact⟨v,vs',e,ah.mono h a v h1,aC.mono h l vs' h2⟩
theorem aX.mono {c c':RC} (h:Ext c c') (b:Nat) (hb:c'.w.heap[b]? =c.w.heap[b]?):∀(l:List U) (off:Nat),aX c b off l→aX c' b off l
 |[],off,r=>by simp [aX]
 |a::l,off,r=>by
  simp only[aX]at r ⊢
  obtain⟨⟨v,h1,h2,h3⟩,r⟩:=r
  exact⟨⟨v,by rw[cell_of_block hb];exact h1,h2,ah.mono h a v h3⟩,aX.mono h b hb l (off+1) r⟩
theorem bg.mono {c c':RC} (h:Ext c c') (sz b:Nat) (hb:c'.w.heap[b]? =c.w.heap[b]?):∀(l:List (List U)) (off:Nat),bg c sz b off l→bg c' sz b off l
 |[],off,r=>by simp [bg]
 |e::l,off,r=>by
  simp only[bg]at r ⊢
  obtain⟨h1,h2,r⟩:=r
  exact⟨h1,aX.mono h b hb e off h2,bg.mono h sz b hb l (off+sz) r⟩
end
theorem Ext.refl (c:RC):Ext c c:=⟨Nat.le_refl _,fun b _ hx=>⟨rfl,hx⟩,fun i p h=>⟨p,h,.inl rfl⟩,rfl⟩
theorem Ext.trans {a b c:RC} (h:Ext a b) (k:Ext b c):Ext a c:=by
 refine⟨Nat.le_trans h.size k.size,fun x hx hn=>?_,fun i p hp=>?_,k.nm.trans h.nm⟩
 ·obtain⟨h1,h2⟩:=h.stay x hx hn
  obtain⟨h3,h4⟩:=k.stay x (Nat.lt_of_lt_of_le hx h.size) h2
  exact⟨h3.trans h1,h4⟩
 ·obtain⟨p',h1,h2⟩:=h.env i p hp
  obtain⟨p'',h3,h4⟩:=k.env i p' h1
  refine⟨p'',h3,?_⟩
  rcases h2 with rfl|⟨h2,h5⟩
  ·exact h4
  ·rcases h4 with rfl|⟨h6,h7⟩
   ·exact .inr ⟨h2,h5⟩
   ·exact .inr ⟨h2,by omega⟩
theorem aC.length {c:RC}:∀{l:List U} {vs:List Value},aC c l vs→l.length=vs.length
 |[],vs,h=>by simp only[aC]at h;subst h;rfl
 |a::l,vs,h=>by
  simp only[aC]at h
  obtain⟨v,vs',rfl,_,h2⟩:=h
  simp [aC.length h2]
theorem aC.nth {c:RC}:∀{l:List U} {vs:List Value} {i:Nat} {a:U},aC c l vs→l[i]? =some a→∃v,vs[i]? =some v∧ah c a v
 |[],vs,i,a,h,k=>by simp at k
 |x::l,vs,0,a,h,k=>by
  simp only[aC]at h
  obtain⟨v,vs',rfl,h1,_⟩:=h
  simp at k;subst k
  exact⟨v,rfl,h1⟩
 |x::l,vs,i+1,a,h,k=>by
  simp only[aC]at h
  obtain⟨v,vs',rfl,_,h2⟩:=h
  simp at k
  obtain⟨u,h3,h4⟩:=aC.nth h2 k
  exact⟨u,by simpa using h3,h4⟩
theorem aC.append {c:RC}:∀{l m:List U} {vs us:List Value},aC c l vs→aC c m us→aC c (l++m) (vs++us)
 |[],m,vs,us,h,k=>by simp only[aC]at h;subst h;simpa using k
 |a::l,m,vs,us,h,k=>by
  simp only[aC]at h
  obtain⟨v,vs',rfl,h1,h2⟩:=h
  simp only[List.cons_append,aC]
  exact⟨v,_,rfl,h1,h2.append k⟩
theorem aC.take {c:RC}:∀{l:List U} {vs:List Value} (n:Nat),aC c l vs→aC c (l.take n) (vs.take n)
 |[],vs,n,h=>by simp only[aC]at h;subst h;simp [aC]
 |a::l,vs,0,h=>by simp [aC]
 |a::l,vs,n+1,h=>by
  simp only[aC]at h
  obtain⟨v,vs',rfl,h1,h2⟩:=h
  simp only[List.take_succ_cons,aC]
  exact⟨v,_,rfl,h1,h2.take n⟩
theorem aC.drop {c:RC}:∀{l:List U} {vs:List Value} (n:Nat),aC c l vs→aC c (l.drop n) (vs.drop n)
 |[],vs,n,h=>by simp only[aC]at h;subst h;simp [aC]
 |a::l,vs,0,h=>by simpa using h
 |a::l,vs,n+1,h=>by
  simp only[aC]at h
  obtain⟨v,vs',rfl,h1,h2⟩:=h
  simp only[List.drop_succ_cons]
  exact h2.drop n
theorem aC.map {c:RC} {α:Type} (f:α→U) (g:α→Value):∀(l:List α),(∀x∈l,ah c (f x) (g x))→aC c (l.map f) (l.map g)
 |[],_=>by simp [aC]
 |a::l,h=>by
  simp only[List.map_cons,aC]
  exact⟨_,_,rfl,h a (by simp),aC.map f g l (fun x hx=>h x (by simp [hx]))⟩
theorem aC.single {c:RC} {a:U} {v:Value} (h:ah c a v):aC c [a] [v]:=by simp only[aC];exact⟨v,[],rfl,h,rfl⟩
theorem aX.nth {c:RC} {b:Nat}:∀{l:List U} {off i:Nat} {a:U},aX c b off l→l[i]? =some a→∃v,c.w.cell? ⟨b,off+i,none⟩=some v∧cu v=true∧ah c a v
 |[],off,i,a,h,k=>by simp at k
 |x::l,off,0,a,h,k=>by
  simp only[aX]at h
  simp at k;subst k
  exact h.1
 |x::l,off,i+1,a,h,k=>by
  simp only[aX]at h
  simp at k
  have:=aX.nth h.2 k
  rwa[show off+1+i=off+(i+1) by omega]at this
theorem aX.of {c:RC} {b:Nat}:∀{l:List U} {off:Nat},(∀i a,l[i]? =some a→∃v,c.w.cell? ⟨b,off+i,none⟩=some v∧cu v=true∧ah c a v)→aX c b off l
 |[],off,h=>by simp [aX]
 |x::l,off,h=>by
  simp only[aX]
  refine⟨by simpa using h 0 x rfl,aX.of fun i a hi=>?_⟩
  have:=h (i+1) a (by simpa using hi)
  rwa[show off+(i+1)=off+1+i by omega]at this
theorem aX.drop {c:RC} {b:Nat} {l:List U} {off:Nat} (n:Nat) (h:aX c b off l):aX c b (off+n) (l.drop n):=
 aX.of fun i a hi=>by
  have:=aX.nth h (i:=n+i) (a:=a) (by rw[←hi,List.getElem?_drop])
  rwa[show off+(n+i)=off+n+i by omega]at this
theorem aX.take {c:RC} {b:Nat} {l:List U} {off:Nat} (n:Nat) (h:aX c b off l):aX c b off (l.take n):=
 aX.of fun i a hi=>by
  have:l[i]? =some a:=by
   rw[List.getElem?_take]at hi
   split at hi
   ·exact hi
   ·cases hi
  exact aX.nth h this
theorem bg.nth {c:RC} {sz b:Nat}:∀{l:List (List U)} {off i:Nat} {e:List U},bg c sz b off l→l[i]? =some e→e.length=sz∧aX c b (off+i*sz) e
 |[],off,i,e,h,k=>by simp at k
 |x::l,off,0,e,h,k=>by
  simp only[bg]at h
  simp at k;subst k
  exact⟨h.1,by simpa using h.2.1⟩
 |x::l,off,i+1,e,h,k=>by
  simp only[bg]at h
  simp at k
  have:=bg.nth h.2.2 k
  rwa[show off+sz+i*sz=off+(i+1)*sz by rw[Nat.add_mul];omega]at this
theorem bg.of {c:RC} {sz b:Nat}:∀{l:List (List U)} {off:Nat},(∀i e,l[i]? =some e→e.length=sz∧aX c b (off+i*sz) e)→bg c sz b off l
 |[],off,h=>by simp [bg]
 |x::l,off,h=>by
  simp only[bg]
  have h0:=h 0 x rfl
  simp at h0
  refine⟨h0.1,h0.2,bg.of fun i e hi=>?_⟩
  have:=h (i+1) e (by simpa using hi)
  rwa[show off+(i+1)*sz=off+sz+i*sz by rw[Nat.add_mul];omega]at this
theorem bg.drop {c:RC} {sz b:Nat} {l:List (List U)} {off:Nat} (n:Nat) (h:bg c sz b off l):bg c sz b (off+n*sz) (l.drop n):=
 bg.of fun i e hi=>by
  have:=bg.nth h (i:=n+i) (e:=e) (by rw[←hi,List.getElem?_drop])
  rwa[show off+(n+i)*sz=off+n*sz+i*sz by rw[Nat.add_mul];omega]at this
theorem bg.take {c:RC} {sz b:Nat} {l:List (List U)} {off:Nat} (n:Nat) (h:bg c sz b off l):bg c sz b off (l.take n):=
 bg.of fun i e hi=>by
  have:l[i]? =some e:=by
   rw[List.getElem?_take]at hi
   split at hi
   ·exact hi
   ·cases hi
  exact bg.nth h this
section
open Go.RowKit
def uz (c:RC) (b:Nat) (cs:List U):Prop:=(∃arr t,c.w.heap[b]? =some (.cells arr t (0,0))∧arr.size=cs.length)∧aX c b 0 cs
def KI (c:RC) (b:Nat):Prop:=∀arr t fz,c.w.heap[b]? =some (.cells arr t fz)→∀x∈arr.toList,cu x=true
def acD (c:RC) (b:Nat) (cur left:List (U×U)):Prop:=(cur=[]∧left=[]∧∃since seen last,c.w.heap[b]? =some (.mapIter none since seen last))∨
 ∃m seen aW clock,c.w.heap[b]? =some (.mapIter (some m) clock seen clock)∧m<c.w.heap.size∧¬c.X m∧c.w.heap[m]? =some (.map aW clock)∧l6 aW clock∧bQ c left (aW.toList.filter fun e=>!seen.contains e.born)∧
  (cur=[]∨∃k v e,cur=[(k,v)]∧seen.back? =some e.born∧e∈aW.toList∧ah c k e.key∧ah c v e.val)
def nF (c:RC) (p:Pl):aO→Prop
 |.box cs=>p.g=0∧uz c p.b cs
 |.arr g sz es=>p.g=g∧0<g∧p.sz=sz∧0<sz∧(∃arr t,c.w.heap[p.b]? =some (.cells arr t (0,0))∧arr.size=p.nj)∧p.base+es.length*sz≤p.nj∧bg c sz p.b p.base es∧KI c p.b
 |.mT g sz es=>p.g=g∧0<g∧p.sz=sz∧0<sz∧(∃arr t,c.w.heap[p.b]? =some (.cells arr t (0,0))∧arr.size=p.nj)∧p.base+es.length*sz=p.nj∧bg c sz p.b p.base es∧KI c p.b
 |.map es=>p.g=0∧∃aW clock,c.w.heap[p.b]? =some (.map aW clock)∧l6 aW clock∧bQ c es aW.toList
 |.it cur left=>p.g=0∧acD c p.b cur left
structure fq (c : RC) (σ : Heap) : Prop where
 len:c.E.length=σ.length
 inj:∀(i j:Nat) (p q:Pl),c.E[i]? =some p→c.E[j]? =some q→p.b=q.b→i=j
 blk:∀(i:Nat) (p:Pl) (x:aO),c.E[i]? =some p→σ[i]? =some x→nF c p x
structure Z where
 w:World
 E:List Pl
 X:Nat→Prop
 nm:List Nat
def ctx (z:Z) (w:World) (E:List Pl) (pb:Nat→Option Nat):RC:=⟨w,E,fun b=>z.X b∨(∃p∈E,p.b=b)∨∃i,pb i=some b,z.nm⟩
structure Out (z : Z) (w : World) (E : List Pl) : Prop where
 os:w.os=z.w.os
 tape:w.tape=z.w.tape
 output:w.output=z.w.output
 size:z.w.heap.size≤w.heap.size
 stay:∀b,b<z.w.heap.size→(∀p∈z.E,p.b≠b)→w.heap[b]? =z.w.heap[b]?
 fresh':∀(i:Nat) (p:Pl),E[i]? =some p→z.w.heap.size≤p.b∨∃q:Pl,z.E[i]? =some q∧q.b=p.b
 env:∀(i:Nat) (p:Pl),z.E[i]? =some p→∃p':Pl,E[i]? =some p'∧(p'=p∨(0<p.g∧p.g<p'.g))
 lt:∀b,z.X b→b<z.w.heap.size
 mine:∀p∈z.E,p.b<z.w.heap.size
theorem Out.fresh {z:Z} {w:World} {E:List Pl} (h:Out z w E) (p:Pl) (hp:p∈E):z.w.heap.size≤p.b∨∃q∈z.E,q.b=p.b:=by
 obtain⟨i,hi,rfl⟩:=List.mem_iff_getElem.1 hp
 rcases h.fresh' i E[i] (by simp [hi])with k|⟨q,hq,k⟩
 ·exact .inl k
 ·exact .inr ⟨q,List.mem_of_getElem? hq,k⟩
def Slot (c:RC) (pb:Nat→Option Nat) (i:Nat) (av:U) (v:Value):Prop:=match av with
 |.lbx cs=>∃b,pb i=some b∧v=.pointer (some ⟨b,0,none⟩)∧uz c b cs
 |av=>ah c av v
def mR (a:Act):Option (Nat×Bool)→Prop
 |none=>True
 |some (g,want)=>a.tmps.getD g undef=.bool want
structure St (X : Fx) (z : Z) (s : AS) (a : Act) (w : World) (E : List Pl) (pb : Nat → Option Nat) : Prop where
 len:a.tmps.size=s.sl.length
 mU:s.sl.length=X.n
 slot:∀i av,s.sl[i]? =some av→Slot (ctx z w E pb) pb i av (a.tmps.getD i undef)
 box:∀i cs,s.sl[i]? =some (.lbx cs)→X.L.contains i=true
 jN:∀t p,s.A t=some p→mR a p.tag→∃b,pb p.slot=some b∧a.tmps.getD t undef=.pointer (some ⟨b,p.off,none⟩)
 priv:∀i b,pb i=some b→z.w.heap.size≤b∧b<w.heap.size∧∀p∈E,p.b≠b
 inj:∀i j b,pb i=some b→pb j=some b→i=j
 heap:fq (ctx z w E pb) s.σ
 defers:a.defers=[]
 out:Out z w E
 nm:X.nm=z.nm
theorem uz.mono {c c':RC} (h:Ext c c') {b:Nat} {cs:List U} (hb:c'.w.heap[b]? =c.w.heap[b]?) (k:uz c b cs):uz c' b cs:=
 ⟨by rw[hb];exact k.1,aX.mono h b hb cs 0 k.2⟩
theorem bQ.mono {c c':RC} (h:Ext c c') {l:List (U×U)} {es:List MapEntry} (r:bQ c l es):bQ c' l es:=bQ.Ky h l es r
theorem vR {c:RC} {b:Nat} {arr:Array Value} {t:TypeId} {fz:Nat×Nat} (h:c.w.heap[b]? =some (.cells arr t fz)) (ho:∀x∈arr.toList,cu x=true):KI c b:=fun qv t' fz' e=>by
 rw[h]at e;injection e with e;injection e with e1;subst e1;exact ho
theorem nF.mono {c c':RC} (h:Ext c c') {p:Pl} {x:aO} (hb:c'.w.heap[p.b]? =c.w.heap[p.b]?) (k:nF c p x):nF c' p x:=by
 cases x with
 |box cs=>exact⟨k.1,k.2.mono h hb⟩
 |arr g sz es=>
  obtain⟨h1,h2,h3,h4,h5,h6,h7,h8⟩:=k
  exact⟨h1,h2,h3,h4,by rw[hb];exact h5,h6,bg.mono h sz _ hb es _ h7,fun arr t fz e=>h8 arr t fz (hb▸e)⟩
 |mT g sz es=>
  obtain⟨h1,h2,h3,h4,h5,h6,h7,h8⟩:=k
  exact⟨h1,h2,h3,h4,by rw[hb];exact h5,h6,bg.mono h sz _ hb es _ h7,fun arr t fz e=>h8 arr t fz (hb▸e)⟩
 |map es=>
  obtain⟨h1,aW,clock,h2,hw,h3⟩:=k
  exact⟨h1,aW,clock,by rw[hb];exact h2,hw,h3.mono h⟩
 |it cur left=>
  obtain⟨h1,h2⟩:=k
  refine⟨h1,?_⟩
  rcases h2 with⟨h2,h2',since,seen,last,h3⟩|⟨m,seen,aW,clock,h3,h4,h5,h6,h7,h8,h9⟩
  ·exact .inl ⟨h2,h2',since,seen,last,by rw[hb];exact h3⟩
  ·refine .inr ⟨m,seen,aW,clock,by rw[hb];exact h3,Nat.lt_of_lt_of_le h4 h.size,(h.stay m h4 h5).2,by rw[(h.stay m h4 h5).1];exact h6,h7,h8.mono h,?_⟩
   rcases h9 with h9|⟨k,v,e,e1,e2,e3,e4,e5⟩
   ·exact .inl h9
   ·exact .inr ⟨k,v,e,e1,e2,e3,ah.mono h _ _ e4,ah.mono h _ _ e5⟩
theorem nF.lt {c:RC} {p:Pl} {x:aO} (k:nF c p x):p.b<c.w.heap.size:=by
 have key:∀o,c.w.heap[p.b]? =some o→p.b<c.w.heap.size:=fun o ho=>(Array.getElem?_eq_some_iff.1 ho).1
 cases x with
 |box cs=>obtain⟨_,⟨⟨arr,t,h,_⟩,_⟩⟩:=k;exact key _ h
 |arr g sz es=>obtain⟨_,_,_,_,⟨arr,t,h,_⟩,_⟩:=k;exact key _ h
 |mT g sz es=>obtain⟨_,_,_,_,⟨arr,t,h,_⟩,_⟩:=k;exact key _ h
 |map es=>obtain⟨_,aW,clock,h,_⟩:=k;exact key _ h
 |it cur left=>obtain⟨_,⟨_,_,_,_,_,h⟩|⟨_,_,_,_,h,_⟩⟩:=k<;>exact key _ h
theorem fq.lt {c:RC} {σ:Heap} (h:fq c σ) {p:Pl} (hp:p∈c.E):p.b<c.w.heap.size:=by
 obtain⟨i,hi,rfl⟩:=List.mem_iff_getElem.1 hp
 have hs:i<σ.length:=by rw[←h.len];exact hi
 exact(h.blk i _ σ[i] (by simp [hi]) (by simp [hs])).lt
theorem fq.mono {c c':RC} {σ:Heap} (h:fq c σ) (hx:Ext c c') (hE:c'.E=c.E) (hb:∀p∈c.E,c'.w.heap[p.b]? =c.w.heap[p.b]?):fq c' σ:=by
 refine⟨by rw[hE];exact h.len,by rw[hE];exact h.inj,fun i p x hi cG=>?_⟩
 rw[hE]at hi
 exact(h.blk i p x hi cG).mono hx (hb p (List.mem_of_getElem? hi))
theorem Slot.rep {c:RC} {pb:Nat→Option Nat} {i:Nat} {av:U} {v:Value} (h:Slot c pb i av v) (k:∀cs,av≠.lbx cs):ah c av v:=by
 cases av<;>first|exact h|exact absurd rfl (k _)
theorem Slot.of {c:RC} {pb:Nat→Option Nat} {i:Nat} {av:U} {v:Value} (h:ah c av v):Slot c pb i av v:=by
 cases av<;>first|exact h|(simp [ah]at h)
section
variable {X : Fx} {z : Z} {s : AS} {a : Act} {w w' : World} {E : List Pl} {pb : Nat → Option Nat}
theorem St.ext (h:St X z s a w E pb) {E':List Pl} {bz:Nat→Option Nat} {σ':Heap} (hx:Ext (ctx z w E pb) (ctx z w' E' bz))
  (hp:∀i b,pb i=some b→bz i=some b∧w'.heap[b]? =w.heap[b]?) (aco:∀i b,bz i=some b→z.w.heap.size≤b∧b<w'.heap.size∧∀p∈E',p.b≠b)
  (hinj:∀i j b,bz i=some b→bz j=some b→i=j) (hh:fq (ctx z w' E' bz) σ') (ho:Out z w' E'):St X z (s.heap σ') a w' E' bz:=by
 refine⟨h.len,h.mU,fun i av hi=>?_,h.box,fun t p hp' ht=>?_,aco,hinj,hh,h.defers,ho,h.nm⟩
 ·have k:=h.slot i av hi
  cases av with
  |lbx cs=>
   obtain⟨b,h1,h2,h3⟩:=k
   exact⟨b,(hp i b h1).1,h2,h3.mono hx (hp i b h1).2⟩
  |_=>exact ah.mono hx _ _ k
 ·obtain⟨b,h1,h2⟩:=h.jN t p hp' ht
  exact⟨b,(hp _ b h1).1,h2⟩
theorem sN (g:Below w.heap.size w w'):Ext (ctx z w E pb) (ctx z w' E pb):=
 ⟨g.size,fun b hb hX=>⟨g.block b hb,hX⟩,fun i p h=>⟨p,h,.inl rfl⟩,rfl⟩
theorem Out.grow (h:Out z w E) (g:Below w.heap.size w w'):Out z w' E:=
 ⟨g.os.trans h.os,g.tape.trans h.tape,g.output.trans h.output,Nat.le_trans h.size g.size,fun b hb hp=>(g.block b (Nat.lt_of_lt_of_le hb h.size)).trans (h.stay b hb hp),h.fresh',h.env,h.lt,h.mine⟩
theorem St.grow (h:St X z s a w E pb) (g:Below w.heap.size w w'):St X z s a w' E pb:=by
 have hx:Ext (ctx z w E pb) (ctx z w' E pb):=sN g
 exact h.ext (σ':=s.σ) hx (fun i b hb=>⟨hb,g.block b (h.priv i b hb).2.1⟩) (fun i b hb=>⟨(h.priv i b hb).1,Nat.lt_of_lt_of_le (h.priv i b hb).2.1 g.size,(h.priv i b hb).2.2⟩) h.inj
  (h.heap.mono hx rfl fun p hp=>g.block _ (h.heap.lt hp)) (h.out.grow g)
theorem St.fresh (h:St X z s a w E pb):¬(ctx z w E pb).X w.heap.size:=by
 rintro(h1|⟨p,hp,e⟩|⟨i,hi⟩)
 ·have:=h.out.lt _ h1;have:=h.out.size;omega
 ·have:=h.heap.lt hp;simp only[ctx]at this;omega
 ·have:=(h.priv i _ hi).2.1;omega
theorem Ac (l:Array Value) (d i:Nat) (v:Value):(l.setIfInBounds d v).getD i undef=if i=d∧d<l.size then v else l.getD i undef:=by
 by_cases h:d=i
 ·subst h
  by_cases hd:d<l.size
  ·simp [Array.getD,hd]
  ·simp [Array.getD,hd]
 ·have h':¬i=d:=fun e=>h e.symm
  simp [Array.getD_eq_getD_getElem?,Array.getElem?_setIfInBounds_ne h,h']
theorem Nf {d:Nat} {o:Option pN} {p:pN} (h:lC d o=some p):o=some p∧∀g w,p.tag=some (g,w)→g≠d:=by
 cases o with
 |none=>simp [lC]at h
 |some q=>
  simp only[lC]at h
  cases hq:q.tag with
  |none=>
   rw[hq]at h;simp at h;subst h
   exact⟨rfl,fun g w e=>by rw[hq]at e;cases e⟩
  |some gw=>
   obtain⟨g,w⟩:=gw
   rw[hq]at h
   simp only at h
   by_cases e:g=d
   ·simp [e]at h
   ·have:(g==d)=false:=by simpa using e
    rw[this]at h
    simp at h;subst h
    exact⟨rfl,fun g' w' e'=>by rw[hq]at e';injection e' with e';injection e' with e1 e2;subst e1;exact e⟩
theorem I8 {d:Nat} {v:Value} {tag:Option (Nat×Bool)} (h:∀g w,tag=some (g,w)→g≠d) (k:mR (a.put (some d) v) tag):mR a tag:=by
 cases tag with
 |none=>trivial
 |some gw=>
  obtain⟨g,want⟩:=gw
  have hg:=h g want rfl
  simp only[mR,Act.put]at k ⊢
  rw[Ac]at k
  rwa[if_neg (fun e=>hg e.1)]at k
theorem St.put (h:St X z s a w E pb) (d:Option Nat) {av:U} {v:Value} (hr:ah (ctx z w E pb) av v):St X z (s.put X d av) (a.put d v) w E pb:=by
 cases d with
 |none=>exact h
 |some d=>
  refine⟨by simp [AS.put,Act.put,h.len],by simp [AS.put,h.mU],fun i x hi=>?_,fun i cs hi=>?_,fun t p hp ht=>?_,h.priv,h.inj,h.heap,h.defers,h.out,h.nm⟩
  ·simp only[AS.put,Act.put]at hi ⊢
   rw[Ac]
   rw[List.getElem?_set]at hi
   by_cases e:d=i
   ·subst e
    rw[if_pos rfl]at hi
    by_cases hd:d<s.sl.length
    ·rw[if_pos hd]at hi
     rw[if_pos ⟨rfl,by rw[h.len];exact hd⟩]
     injection hi with hi
     subst hi
     cases X.L.contains d
     ·exact Slot.of hr
     ·exact trivial
    ·rw[if_neg hd]at hi;cases hi
   ·rw[if_neg e]at hi
    rw[if_neg (fun k=>e k.1.symm)]
    exact h.slot i x hi
  ·simp only[AS.put]at hi
   rw[List.getElem?_set]at hi
   by_cases e:d=i
   ·subst e
    rw[if_pos rfl]at hi
    split at hi
    ·injection hi with hi
     cases hL:X.L.contains d
     ·rw[hL]at hi;simp at hi;subst hi;simp [ah]at hr
     ·rfl
    ·cases hi
   ·rw[if_neg e]at hi
    exact h.box i cs hi
  ·simp only[AS.put]at hp
   by_cases e:t=d
   ·subst e;simp at hp
   ·have:(t==d)=false:=by simpa using e
    rw[this]at hp
    simp at hp
    obtain⟨hp,hg⟩:=Nf hp
    obtain⟨b,h1,h2⟩:=h.jN t p hp (I8 hg ht)
    refine⟨b,h1,?_⟩
    simp only[Act.put]
    rw[Ac,if_neg (fun k=>e k.1)]
    exact h2
theorem St.KM (h:St X z s a w E pb) (d:Option Nat) {sl off:Nat} {tag:Option (Nat×Bool)} {v:Value} (hv:mR a tag→∃b,pb sl=some b∧v=.pointer (some ⟨b,off,none⟩)):
  St X z (s.jN X d sl off tag) (a.put d v) w E pb:=by
 cases d with
 |none=>exact h
 |some d=>
  have hput:=h.put (some d) (av:=.undef) (v:=v) (by simp [ah])
  have oJ:(s.put X (some d) .undef).sl=(s.jN X (some d) sl off tag).sl:=by
   simp only[AS.put,AS.jN];cases X.L.contains d<;>rfl
  refine⟨by rw[←oJ];exact hput.len,by rw[←oJ];exact hput.mU,by rw[←oJ];exact hput.slot,by rw[←oJ];exact hput.box,fun t p hp ht=>?_,h.priv,h.inj,h.heap,h.defers,h.out,h.nm⟩
  by_cases e:t=d
  ·subst e
   simp only[AS.jN]at hp
   simp only[beq_self_eq_true,cond_true]at hp
   cases hL:(X.L.contains t||!Nat.blt t X.n)
   ·rw[hL]at hp
    simp only[cond_false]at hp
    have hlt:t<a.tmps.size:=by
     rw[h.len,h.mU]
     simp only[Bool.or_eq_false_iff,Bool.not_eq_false']at hL
     exact Nat.blt_eq.mp hL.2
    have key:p.slot=sl∧p.off=off∧mR a tag:=by
     cases tag with
     |none=>simp at hp;subst hp;exact⟨rfl,rfl,trivial⟩
     |some gw=>
      obtain⟨g,want⟩:=gw
      simp only at hp
      by_cases eg:g=t
      ·subst eg;simp at hp
      ·have:(g==t)=false:=by simpa using eg
       rw[this]at hp
       simp at hp;subst hp
       exact⟨rfl,rfl,I8 (d:=t) (v:=v) (fun g' w' e'=>by injection e' with e';injection e' with e1;subst e1;exact eg) ht⟩
    obtain⟨k1,k2,k3⟩:=key
    obtain⟨b,h1,h2⟩:=hv k3
    refine⟨b,by rw[k1];exact h1,?_⟩
    simp only[Act.put]
    rw[Ac,if_pos ⟨rfl,hlt⟩,k2]
    exact h2
   ·rw[hL]at hp;simp at hp
  ·have hp':(s.put X (some d) .undef).A t=some p:=by
    simp only[AS.jN]at hp
    simp only[AS.put]
    have:(t==d)=false:=by simpa using e
    rw[this]at hp ⊢
    exact hp
   exact hput.jN t p hp' ht
def _root_.Go.World.cL (w:World) (b:Nat) (o:Obj):World:={w with heap:=w.heap.setIfInBounds b o}
theorem OD (b k:Nat) (o:Obj):(w.cL b o).heap[k]? =if b=k∧b<w.heap.size then some o else w.heap[k]? :=by
 simp only[World.cL,Array.getElem?_setIfInBounds]
 by_cases h:b=k
 ·subst h
  by_cases hb:b<w.heap.size
  ·simp [hb]
  ·simp [hb]
 ·simp [h]
theorem qR {b:Nat} (o:Obj) (hb:b<w.heap.size):(w.cL b o).heap[b]? =some o:=by rw[OD,if_pos ⟨rfl,hb⟩]
theorem tZ {b k:Nat} (o:Obj) (h:b≠k):(w.cL b o).heap[k]? =w.heap[k]? :=by rw[OD,if_neg (fun e=>h e.1)]
theorem xS (b:Nat) (o:Obj):(w.cL b o).heap.size=w.heap.size:=by simp [World.cL]
theorem Jw {b:Nat} {o:Obj} (hX:(ctx z w E pb).X b):Ext (ctx z w E pb) (ctx z (w.cL b o) E pb):=
 ⟨by simp [ctx,xS],fun k hk hn=>⟨tZ o (fun e=>hn (e▸hX)),hn⟩,fun i p h=>⟨p,h,.inl rfl⟩,rfl⟩
theorem sI {w:World} {b off:Nat} {arr:Array Value} {t:TypeId} {fz:Nat×Nat} (h:w.heap[b]? =some (.cells arr t fz)):w.cell? ⟨b,off,none⟩=arr[off]? :=by simp [World.cell?,h]
theorem aX.tP {c:RC} {b:Nat} {arr:Array Value} {t:TypeId} {fz:Nat×Nat} (h:c.w.heap[b]? =some (.cells arr t fz)) {cs:List U} {off:Nat} {vs:List Value}
  (hr:aC c cs vs) (ho:∀x∈vs,cu x=true) (hv:∀i,i<vs.length→arr[off+i]? =vs[i]?):aX c b off cs:=by
 refine aX.of fun i a hi=>?_
 obtain⟨v,h1,h2⟩:=hr.nth hi
 have hl:i<vs.length:=(List.getElem?_eq_some_iff.1 h1).1
 exact⟨v,by rw[sI h,hv i hl,h1],ho v (List.mem_of_getElem? h1),h2⟩
theorem aX.G9 {c:RC} {b:Nat}:∀{cs:List U} {off:Nat},aX c b off cs→∃vs,aC c cs vs∧(∀x∈vs,cu x=true)∧∀j v,vs[j]? =some v→c.w.cell? ⟨b,off+j,none⟩=some v
 |[],off,_=>⟨[],by simp [aC],by simp,by simp⟩
 |x::l,off,h=>by
  simp only[aX]at h
  obtain⟨⟨v,h1,h2,h3⟩,h4⟩:=h
  obtain⟨vs,k1,k2,k3⟩:=aX.G9 h4
  refine⟨v::vs,by simp only[aC];exact⟨v,vs,rfl,h3,k1⟩,by simpa [h2]using k2,fun j u hj=>?_⟩
  cases j with
  |zero=>simp at hj;subst hj;exact h1
  |succ j=>
   simp at hj
   have:=k3 j u hj
   rwa[show off+1+j=off+(j+1) by omega]at this
theorem St.lG (h:St X z s a w E pb) (d:Nat) (hL:X.L.contains d=true) {cs:List U} {vs:List Value} (t:TypeId) (hr:aC (ctx z w E pb) cs vs) (ho:∀x∈vs,cu x=true):
  ∃bz,St X z (s.lG d cs) (a.put (some d) (.pointer (some ⟨w.heap.size,0,none⟩))) (w.alloc (.cells vs.toArray t)) E bz:=by
 have g:Below w.heap.size w (w.alloc (.cells vs.toArray t)):=(Below.refl _ _).alloc (Nat.le_refl _) _
 have h1:=h.grow g
 obtain⟨bz,Lj⟩:∃bz:Nat→Option Nat,bz=fun i=>if i=d then some w.heap.size else pb i:=⟨_,rfl⟩
 have e1:∀i,i≠d→bz i=pb i:=fun i hi=>by rw[Lj];simp [hi]
 have e2:bz d=some w.heap.size:=by rw[Lj];simp
 clear Lj
 have hx:Ext (ctx z w E pb) (ctx z (w.alloc (.cells vs.toArray t)) E bz):=by
  refine⟨g.size,fun b hb hn=>⟨g.block b hb,?_⟩,fun i p h=>⟨p,h,.inl rfl⟩,rfl⟩
  rintro(k|k|⟨i,k⟩)
  ·exact hn (.inl k)
  ·exact hn (.inr (.inl k))
  ·by_cases e:i=d
   ·subst e;rw[e2]at k;injection k with k;simp [ctx]at hb;omega
   ·rw[e1 i e]at k;exact hn (.inr (.inr ⟨i,k⟩))
 have qH:uz (ctx z (w.alloc (.cells vs.toArray t)) E bz) w.heap.size cs:=by
  have hb:(w.alloc (.cells vs.toArray t)).heap[w.heap.size]? =some (.cells vs.toArray t (0,0)):=(MapKept.heap_alloc w _).1
  exact⟨⟨vs.toArray,t,hb,by simp [hr.length]⟩,aX.tP hb (aC.mono hx _ _ hr) ho (fun i hi=>by simp)⟩
 refine⟨bz,by simp [AS.lG,Act.put,h.len],by simp [AS.lG,h.mU],fun i x hi=>?_,fun i cs' hi=>?_,fun t' p hp ht=>?_,fun i b hb=>?_,fun i j b hi hj=>?_,h.heap.mono hx rfl fun p hp=>g.block _ (h.heap.lt hp),h.defers,h.out.grow g,h.nm⟩
 ·simp only[AS.lG,Act.put]at hi ⊢
  rw[Ac]
  rw[List.getElem?_set]at hi
  by_cases e:d=i
  ·subst e
   rw[if_pos rfl]at hi
   by_cases hd:d<s.sl.length
   ·rw[if_pos hd]at hi
    rw[if_pos ⟨rfl,by rw[h.len];exact hd⟩]
    injection hi with hi
    subst hi
    exact⟨_,e2,rfl,qH⟩
   ·rw[if_neg hd]at hi;cases hi
  ·rw[if_neg e]at hi
   rw[if_neg (fun k=>e k.1.symm)]
   have k:=h.slot i x hi
   cases x with
   |lbx cs'=>
    obtain⟨b,k1,k2,k3⟩:=k
    exact⟨b,by rw[e1 i (fun e'=>e e'.symm)];exact k1,k2,k3.mono hx (g.block b (h.priv i b k1).2.1)⟩
   |_=>exact ah.mono hx _ _ k
 ·simp only[AS.lG]at hi
  rw[List.getElem?_set]at hi
  by_cases e:d=i
  ·subst e;exact hL
  ·rw[if_neg e]at hi;exact h.box i cs' hi
 ·simp only[AS.lG]at hp
  by_cases e:t'=d
  ·subst e;simp at hp
  ·have:(t'==d)=false:=by simpa using e
   rw[this]at hp
   simp only[cond_false]at hp
   cases hk:lC d (s.A t')with
   |none=>rw[hk]at hp;simp at hp
   |some q=>
    rw[hk]at hp
    simp only at hp
    by_cases eq:q.slot=d
    ·simp [eq]at hp
    ·have:(q.slot==d)=false:=by simpa using eq
     rw[this]at hp
     simp at hp;subst hp
     obtain⟨hp,hg⟩:=Nf hk
     obtain⟨b,k1,k2⟩:=h.jN t' q hp (I8 hg ht)
     refine⟨b,by rw[e1 _ eq];exact k1,?_⟩
     simp only[Act.put]
     rw[Ac,if_neg (fun k=>e k.1)]
     exact k2
 ·by_cases e:i=d
  ·subst e;rw[e2]at hb;injection hb with hb;subst hb
   exact⟨h.out.size,by simp,fun p hp=>by have:=h.heap.lt hp;simp only[ctx]at this;omega⟩
  ·rw[e1 i e]at hb
   exact⟨(h.priv i b hb).1,by have:=(h.priv i b hb).2.1;simp;omega,(h.priv i b hb).2.2⟩
 ·by_cases ei:i=d
  ·by_cases ej:j=d
   ·rw[ei,ej]
   ·subst ei;rw[e2]at hi;rw[e1 j ej]at hj;injection hi with hi;have:=(h.priv j b hj).2.1;omega
  ·by_cases ej:j=d
   ·subst ej;rw[e2]at hj;rw[e1 i ei]at hi;injection hj with hj;have:=(h.priv i b hi).2.1;omega
   ·rw[e1 i ei]at hi;rw[e1 j ej]at hj;exact h.inj i j b hi hj
theorem St.abQ (h:St X z s a w E pb) {i b:Nat} (hb:pb i=some b) (hi:∃cs0,s.sl[i]? =some (.lbx cs0)) {cs:List U} {arr:Array Value} {t:TypeId}
  (hr:aC (ctx z w E pb) cs arr.toList) (ho:∀x∈arr.toList,cu x=true):St X z ⟨s.sl.set i (.lbx cs),s.A,s.σ⟩ a (w.cL b (.cells arr t (0,0))) E pb:=by
 have hlt:=(h.priv i b hb).2.1
 have hX:(ctx z w E pb).X b:=.inr (.inr ⟨i,hb⟩)
 have hx:Ext (ctx z w E pb) (ctx z (w.cL b (.cells arr t (0,0))) E pb):=Jw hX
 have qH:uz (ctx z (w.cL b (.cells arr t (0,0))) E pb) b cs:=by
  have hh:=qR (w:=w) (.cells arr t (0,0)) hlt
  exact⟨⟨arr,t,hh,by have:=hr.length;simpa using this.symm⟩,aX.tP hh (aC.mono hx _ _ hr) ho (fun j hj=>by simp)⟩
 have abx:∀p∈E,(w.cL b (.cells arr t (0,0))).heap[p.b]? =w.heap[p.b]? :=fun p hp=>tZ _ (fun e=>(h.priv i b hb).2.2 p hp e.symm)
 obtain⟨cs0,hi⟩:=hi
 have hil:i<s.sl.length:=(List.getElem?_eq_some_iff.1 hi).1
 refine⟨by simp [h.len],by simp [h.mU],fun j x hj=>?_,fun j cs' hj=>?_,h.jN,fun j b' hj=>⟨(h.priv j b' hj).1,by rw[xS];exact(h.priv j b' hj).2.1,(h.priv j b' hj).2.2⟩,h.inj,h.heap.mono hx rfl abx,h.defers,?_,h.nm⟩
 ·simp only at hj
  rw[List.getElem?_set]at hj
  by_cases e:i=j
  ·subst e
   rw[if_pos rfl,if_pos hil]at hj
   injection hj with hj;subst hj
   have k:=h.slot i _ hi
   obtain⟨b',k1,k2,_⟩:=k
   rw[hb]at k1;injection k1 with k1;subst k1
   exact⟨b,hb,k2,qH⟩
  ·rw[if_neg e]at hj
   have k:=h.slot j x hj
   cases x with
   |lbx cs'=>
    obtain⟨b',k1,k2,k3⟩:=k
    exact⟨b',k1,k2,k3.mono hx (tZ _ (fun e'=>e (h.inj i j b hb (e'▸k1))))⟩
   |_=>exact ah.mono hx _ _ k
 ·simp only at hj
  rw[List.getElem?_set]at hj
  by_cases e:i=j
  ·subst e;exact h.box i cs0 hi
  ·rw[if_neg e]at hj;exact h.box j cs' hj
 ·have o:=h.out
  exact⟨o.os,o.tape,o.output,by rw[xS];exact o.size,fun k hk hp=>by rw[tZ _ (by have:=(h.priv i b hb).1;omega)];exact o.stay k hk hp,o.fresh',o.env,o.lt,o.mine⟩
theorem St.uw (h:St X z s a w E pb) (o:Obj) (blk:aO) (p:Pl) (hp:p.b=w.heap.size)
  (hk:Ext (ctx z w E pb) (ctx z (w.alloc o) (E++[p]) pb)→nF (ctx z (w.alloc o) (E++[p]) pb) p blk):St X z (s.heap (s.σ++[blk])) a (w.alloc o) (E++[p]) pb:=by
 have g:Below w.heap.size w (w.alloc o):=(Below.refl _ _).alloc (Nat.le_refl _) _
 have hx:Ext (ctx z w E pb) (ctx z (w.alloc o) (E++[p]) pb):=by
  refine⟨g.size,fun b hb hn=>⟨g.block b hb,?_⟩,fun i q hq=>⟨q,?_,.inl rfl⟩,rfl⟩
  ·rintro(k|⟨q,hq,k⟩|k)
   ·exact hn (.inl k)
   ·rcases List.mem_append.1 hq with hq|hq
    ·exact hn (.inr (.inl ⟨q,hq,k⟩))
    ·simp at hq;subst hq;simp [ctx]at hb;omega
   ·exact hn (.inr (.inr k))
  ·simp only[ctx]at hq ⊢
   rw[List.getElem?_append_left (List.getElem?_eq_some_iff.1 hq).1];exact hq
 have hlen:=h.heap.len
 simp only[ctx]at hlen
 refine h.ext hx (fun i b hb=>⟨hb,g.block b (h.priv i b hb).2.1⟩) (fun i b hb=>⟨(h.priv i b hb).1,by have:=(h.priv i b hb).2.1;simp;omega,fun q hq=>?_⟩) h.inj ⟨by simp [ctx,hlen],fun i j q r hq hr he=>?_,fun i q x hq cG=>?_⟩ ?_
 ·rcases List.mem_append.1 hq with hq|hq
  ·exact(h.priv i b hb).2.2 q hq
  ·simp at hq;subst hq;have:=(h.priv i b hb).2.1;omega
 ·simp only[ctx]at hq hr
  have key:∀(i:Nat) (q:Pl),(E++[p])[i]? =some q→(i<E.length∧E[i]? =some q)∨(i=E.length∧q=p):=fun i q hq=>by
   by_cases hi:i<E.length
   ·rw[List.getElem?_append_left hi]at hq;exact .inl ⟨hi,hq⟩
   ·rw[List.getElem?_append_right (by omega)]at hq
    have:i-E.length=0:=by
     rcases Nat.eq_zero_or_pos (i-E.length)with e|e
     ·exact e
     ·rw[List.getElem?_eq_none (by simp;omega)]at hq;cases hq
    rw[this]at hq;simp at hq
    exact .inr ⟨by omega,hq.symm⟩
  rcases key i q hq with⟨hi,tM⟩|⟨hi,eq⟩<;>rcases key j r hr with⟨hj,xk⟩|⟨hj,er⟩
  ·exact h.heap.inj i j q r tM xk he
  ·have:=h.heap.lt (p:=q) (List.mem_of_getElem? tM);simp only[ctx]at this;rw[er]at he;omega
  ·have:=h.heap.lt (p:=r) (List.mem_of_getElem? xk);simp only[ctx]at this;rw[eq]at he;omega
  ·omega
 ·simp only[ctx]at hq
  by_cases hi:i<E.length
  ·rw[List.getElem?_append_left hi]at hq
   rw[List.getElem?_append_left (by omega)]at cG
   exact(h.heap.blk i q x hq cG).mono hx (g.block _ (h.heap.lt (p:=q) (List.mem_of_getElem? hq)))
  ·rw[List.getElem?_append_right (by omega)]at hq cG
   have:i-E.length=0:=by
    rcases Nat.eq_zero_or_pos (i-E.length)with e|e
    ·exact e
    ·rw[List.getElem?_eq_none (by simp;omega)]at hq;cases hq
   rw[this]at hq;rw[show i-s.σ.length=0 by omega]at cG
   simp at hq cG;subst hq;subst cG
   exact hk hx
 ·have o':=h.out.grow g
  refine⟨o'.os,o'.tape,o'.output,o'.size,o'.stay,fun i q hq=>?_,fun i q hq=>?_,o'.lt,o'.mine⟩
  ·by_cases hi:i<E.length
   ·rw[List.getElem?_append_left hi]at hq;exact o'.fresh' i q hq
   ·rw[List.getElem?_append_right (by omega)]at hq
    have:q=p:=by
     have:=List.mem_of_getElem? hq
     simpa using this
    subst this;exact .inl (by rw[hp];exact h.out.size)
  ·obtain⟨p',k1,k2⟩:=o'.env i q hq
   exact⟨p',by rw[List.getElem?_append_left (List.getElem?_eq_some_iff.1 k1).1];exact k1,k2⟩
theorem St.sX (h:St X z s a w E pb) {i:Nat} {p:Pl} (hi:E[i]? =some p) (o:Obj) (blk:aO)
  (hk:Ext (ctx z w E pb) (ctx z (w.cL p.b o) E pb)→nF (ctx z (w.cL p.b o) E pb) p blk):St X z (s.heap (s.σ.set i blk)) a (w.cL p.b o) E pb:=by
 have hm:p∈E:=List.mem_of_getElem? hi
 have hX:(ctx z w E pb).X p.b:=.inr (.inl ⟨p,hm,rfl⟩)
 have hx:Ext (ctx z w E pb) (ctx z (w.cL p.b o) E pb):=Jw hX
 refine h.ext hx (fun j b hb=>⟨hb,tZ _ (fun e=>(h.priv j b hb).2.2 p hm e)⟩) (fun j b hb=>⟨(h.priv j b hb).1,by rw[xS];exact(h.priv j b hb).2.1,(h.priv j b hb).2.2⟩) h.inj
  ⟨by have:=h.heap.len;simpa [ctx]using this,h.heap.inj,fun j q x hq cG=>?_⟩ ?_
 ·by_cases e:i=j
  ·subst e
   simp only[ctx]at hq
   rw[hi]at hq;injection hq with hq;subst hq
   rw[List.getElem?_set]at cG
   rw[if_pos rfl]at cG
   split at cG
   ·injection cG with cG;subst cG;exact hk hx
   ·cases cG
  ·rw[List.getElem?_set,if_neg e]at cG
   exact(h.heap.blk j q x hq cG).mono hx (tZ _ (fun e'=>e (h.heap.inj i j p q hi hq e')))
 ·have o':=h.out
  refine⟨o'.os,o'.tape,o'.output,by rw[xS];exact o'.size,fun k hk hp=>?_,o'.fresh',o'.env,o'.lt,o'.mine⟩
  rw[tZ]
  ·exact o'.stay k hk hp
  ·rintro rfl
   rcases o'.fresh p hm with e|⟨q,hq,e⟩
   ·omega
   ·exact hp q hq e
end
end
section
open Go.RowKit
theorem IK (c:RC) (v:Value):ah c (vX v) v:=by
 unfold vX
 split<;>simp [ah]
theorem OK (c:RC) (v:Value):ah c (qt v) v:=by
 unfold qt
 split
 ·rename_i cs
  cases h:cs.toList.all cu
  ·simp [ah]
  ·simp only[cond_true,ah]
   refine⟨cs,rfl,?_,List.all_eq_true.1 h⟩
   have:=aC.map (c:=c) vX id cs.toList (fun x _=>IK c x)
   simpa using this
 ·exact IK c _
section
variable {X : Fx} {z : Z} {s : AS} {a : Act} {w w' : World} {E : List Pl} {pb : Nat → Option Nat}
theorem cO (h:St X z s a w E pb) (x:Operand):ah (ctx z w E pb) (ev X s x) (a.eval x):=by
 cases x with
 |tmp t=>
  simp only[ev,Act.eval]
  cases hL:X.L.contains t
  ·simp only[cond_false]
   by_cases ht:t<s.sl.length
   ·have hs:s.sl[t]? =some s.sl[t]:=by simp [ht]
    have e:s.sl.getD t .undef=s.sl[t]:=by simp [List.getD,ht]
    rw[e]
    refine(h.slot t _ hs).rep fun cs k=>?_
    have:=h.box t cs (by rw[hs,k])
    rw[hL]at this;cases this
   ·have e:s.sl.getD t .undef=.undef:=by simp [List.getD,Nat.le_of_not_lt ht]
    rw[e];simp [ah]
  ·simp [ah]
 |const v=>exact OK _ v
 |global g=>simp [ev,ah]
 |func f=>simp only[ev,Act.eval,ah];exact⟨f,#[],rfl,by rw[h.nm];rfl,by simp [aC]⟩
theorem Ak (h:St X z s a w E pb) (xs:List Operand):aC (ctx z w E pb) (xs.map (ev X s)) (xs.map a.eval):=aC.map _ _ xs fun x _=>cO h x
end
section
variable {P : Program} {c : RC} (w : World)
theorem Qh {t:TypeId} {d:TypeDesc} (h:P.underlying t=some d):∃i,P.info? t=some i:=by
 unfold Program.underlying at h
 split at h
 ·rename_i u e;exact⟨_,by assumption⟩
 ·rename_i i e;exact⟨_,by assumption⟩
 ·cases h
theorem qi {t:TypeId} {i:TypeInfo} (h:P.info? t=some i):(typeInfo t).run P w=.ok i w:=by
 simp [typeInfo,h]
theorem BF {t:TypeId} {i:TypeInfo} (h:P.info? t=some i):(sizeOf t).run P w=.ok (P.cellsOf t) w:=by
 simp [sizeOf,qi w h,Program.cellsOf,h]
theorem Il {t:TypeId} {d:TypeDesc} (h:P.underlying t=some d):(sizeOf t).run P w=.ok (P.cellsOf t) w:=by
 obtain⟨i,hi⟩:=Qh h;exact BF w hi
theorem N7 (X:Fx) {t:TypeId} {d:TypeDesc} (h:X.P.underlying t=some d):(isAgg t).run X.P w=.ok (yj X t) w:=by
 unfold isAgg
 simp only[Sem.run_bind,run_underlying h,Result.andThen_ok]
 unfold yj
 rw[h]
 cases d<;>rfl
theorem H9 {av x:U} {v:Value} (h:A.cell av=some x) (r:ah c av v):x=av∧cu v=true:=by
 cases av<;>simp only[A.cell]at h<;>first|(cases h;done)|skip
 all_goals
  injection h with h
  refine⟨h.symm,?_⟩
  simp only[ah]at r
 case int=>subst r;rfl
 case bool=>subst r;rfl
 case str=>subst r;rfl
 case fm=>obtain⟨_,rfl,_⟩:=r;rfl
 case sl=>obtain⟨_,_,rfl,_⟩:=r;rfl
 case aB=>subst r;rfl
 case ez=>obtain⟨_,rfl⟩:=r;rfl
 case rp=>obtain⟨_,_,rfl,_⟩:=r;rfl
 case np=>subst r;rfl
 case op=>obtain⟨_,_,_,rfl⟩:=r;rfl
 case oe=>obtain⟨_,_,_,_,_,rfl,_⟩:=r;rfl
 case os=>obtain⟨_,_,_,_,_,_,rfl,_⟩:=r;rfl
 case om=>obtain⟨_,_,_,rfl⟩:=r;rfl
 case nm=>subst r;rfl
 case fn=>obtain⟨_,_,rfl,_⟩:=r;rfl
 case tO=>subst r;rfl
theorem cells_one {v:Value} (h:cu v=true):v.cells=#[v]:=by cases v<;>first|rfl|(simp [cu]at h)
theorem zR (X:Fx) {t:TypeId} {av:U} {cs:List U} {v:Value} (h:sV X t av=some cs) (r:ah c av v):
  aC c cs v.cells.toList∧(∀x∈v.cells.toList,cu x=true)∧v.cells.size=X.P.cellsOf t∧∃d,X.P.underlying t=some d:=by
 unfold sV at h
 cases hd:X.P.underlying t with
 |none=>rw[hd]at h;cases h
 |some d=>
  rw[hd]at h
  simp only at h
  cases ha:yj X t
  ·rw[ha]at h
   simp only[cond_false]at h
   cases hc:(X.P.cellsOf t==1)
   ·rw[hc]at h;cases h
   ·rw[hc]at h
    simp only[cond_true]at h
    obtain⟨x,h1,h2⟩:=Option.bind_eq_some_iff.1 h
    injection h2 with h2
    obtain⟨e,h3⟩:=H9 h1 r
    subst h2;subst e
    rw[cells_one h3]
    exact⟨by simpa using aC.single r,by simpa using h3,by simpa using(beq_iff_eq.1 hc).symm,d,rfl⟩
  ·rw[ha]at h
   simp only[cond_true]at h
   cases av<;>simp only[A.cells]at h<;>first|(cases h;done)|skip
   rename_i l
   split at h
   ·injection h with h
    subst h
    simp only[ah]at r
    obtain⟨vs,rfl,r1,r2⟩:=r
    refine⟨r1,r2,?_,d,rfl⟩
    have:=r1.length
    simp only[Value.cells]
    rw[←Array.length_toList,←this];assumption
   ·cases h
theorem lB (b o n:Nat):(⟨b,o,none⟩:Addr).add n=⟨b,o+n,none⟩:=by
 unfold Addr.add;split
 ·subst_vars;rfl
 ·rfl
theorem ET (X:Fx) (hw:c.w=w) {t:TypeId} {b off o:Nat} {cs:List U} {av:U} (r:aX c b off cs) (h:uB X t o cs=some av):
  ∃v,(loadVar t ⟨b,off+o,none⟩).run X.P w=.ok v w∧ah c av v:=by
 unfold uB at h
 cases hd:X.P.underlying t with
 |none=>rw[hd]at h;cases h
 |some d=>
  rw[hd]at h
  simp only at h
  unfold loadVar
  simp only[Sem.run_bind,N7 w X hd,Result.andThen_ok]
  cases ha:yj X t
  ·rw[ha]at h
   simp only[cond_false,A.aq]at h
   obtain⟨x,h1,h2⟩:=Option.bind_eq_some_iff.1 h
   obtain⟨v,k1,k2,k3⟩:=aX.nth r h1
   obtain⟨e,_⟩:=H9 h2 k3
   subst e
   refine⟨v,?_,k3⟩
   rw[hw]at k1
   simp [run_load,k1]
  ·rw[ha]at h
   simp only[cond_true,A.aD]at h
   split at h
   ·rename_i hle
    injection h with h
    subst h
    obtain⟨vs,k1,k2,k3⟩:=aX.G9 ((r.drop o).take (X.P.cellsOf t))
    have hl:vs.length=X.P.cellsOf t:=by rw[←k1.length];simp;omega
    refine⟨.agg vs.toArray,?_,by simp only[ah];exact⟨vs.toArray,rfl,by simpa using k1,by simpa using k2⟩⟩
    have hrun:=run_loadCells_list (P:=X.P) w ⟨b,off+o,none⟩ vs (fun j v hj=>by rw[lB];have:=k3 j v hj;rwa[hw]at this)
    rw[hl]at hrun
    simp [Il w hd,hrun]
   ·cases h
theorem Xw (X:Fx) {t:TypeId} {o:Nat} {cs:List U} {av:U} {vs:Array Value} (r:aC c cs vs.toList) (k:∀x∈vs.toList,cu x=true) (h:uB X t o cs=some av):
  ∃v,(part t vs o).run X.P w=.ok v w∧ah c av v:=by
 unfold uB at h
 cases hd:X.P.underlying t with
 |none=>rw[hd]at h;cases h
 |some d=>
  rw[hd]at h
  simp only at h
  unfold part
  simp only[Sem.run_bind,N7 w X hd,Result.andThen_ok]
  cases ha:yj X t
  ·rw[ha]at h
   simp only[cond_false,A.aq]at h
   obtain⟨x,h1,h2⟩:=Option.bind_eq_some_iff.1 h
   obtain⟨v,k1,k3⟩:=r.nth h1
   obtain⟨e,_⟩:=H9 h2 k3
   subst e
   refine⟨v,?_,k3⟩
   have:vs[o]? =some v:=by rw[←Array.getElem?_toList];exact k1
   simp [this]
  ·rw[ha]at h
   simp only[cond_true,A.aD]at h
   split at h
   ·rename_i hle
    injection h with h
    subst h
    refine⟨.agg (vs.extract o (o+X.P.cellsOf t)),by simp [Il w hd],?_⟩
    simp only[ah]
    have e:(vs.extract o (o+X.P.cellsOf t)).toList=(vs.toList.drop o).take (X.P.cellsOf t):=by simp [Array.toList_extract,List.extract_eq_take_drop]
    refine⟨_,rfl,by rw[e];exact(r.drop o).take _,?_⟩
    rw[e]
    exact fun x hx=>k x (List.mem_of_mem_drop (List.mem_of_mem_take hx))
   ·cases h
end
section
variable {P : Program} {c : RC} (w : World)
theorem Cv (a b:ByteArray):(a==b)=(a.toList==b.toList):=beq_toListBytes a b
theorem ZR {t:TypeId} {x y av:U} {v u:Value} (h:A.add x y=some av) (r:ah c x v) (q:ah c y u):∃k,(binOp .add t v u).run P w=.ok k w∧ah c av k:=by
 unfold A.add at h
 split at h
 ·simp only[ah]at r q;subst r;subst q
  split at h
  ·injection h with h;subst h;subst_vars
   exact⟨_,by simp [binOp,Op.intArith];rfl,by simp [ah]⟩
  ·cases h
 ·simp only[ah]at r q;subst r;subst q
  split at h
  ·rename_i a b hs
   injection h with h;subst h
   refine⟨.string (a++b),?_,by simp [ah]⟩
   have:¬((a.size+b.size:Nat):Int)>IntKind.i64.max:=by rw[IntKind.max_i64];omega
   simp only[binOp,Op.stringOp,if_neg this]
   rfl
  ·cases h
 ·cases h
theorem Ae {f:IntKind→Int→Int→Option U} {op:BinOp} {t:TypeId} {x y av:U} {v u:Value}
  (hf:∀k a b av,f k a b=some av→∃n,(binOp op t (.int k a) (.int k b)).run P w=.ok n w∧ah c av n)
  (h:(match x,y with|.int k a,.int k' b=>if k=k' then f k a b else none|_,_=>none)=some av) (r:ah c x v) (q:ah c y u):∃k,(binOp op t v u).run P w=.ok k w∧ah c av k:=by
 split at h
 ·simp only[ah]at r q;subst r;subst q
  split at h
  ·subst_vars;exact hf _ _ _ _ h
  ·cases h
 ·cases h
theorem aba {t:TypeId} {x y av:U} {v u:Value} (h:A.sub x y=some av) (r:ah c x v) (q:ah c y u):∃k,(binOp .sub t v u).run P w=.ok k w∧ah c av k:=
 Ae w (f:=fun k a b=>some (.int k (k.wrap (a-b)))) (fun k a b av e=>by injection e with e;subst e;exact⟨_,by simp [binOp,Op.intArith];rfl,by simp [ah]⟩) h r q
theorem aaB {t:TypeId} {x y av:U} {v u:Value} (h:A.mul x y=some av) (r:ah c x v) (q:ah c y u):∃k,(binOp .mul t v u).run P w=.ok k w∧ah c av k:=
 Ae w (f:=fun k a b=>some (.int k (k.wrap (a*b)))) (fun k a b av e=>by injection e with e;subst e;exact⟨_,by simp [binOp,Op.intArith];rfl,by simp [ah]⟩) h r q
theorem aax {t:TypeId} {x y av:U} {v u:Value} (h:A.lss x y=some av) (r:ah c x v) (q:ah c y u):∃k,(binOp .lss t v u).run P w=.ok k w∧ah c av k:=by
 unfold A.lss at h
 split at h
 ·exact Ae w (x:=.int _ _) (y:=.int _ _) (f:=fun k a b=>some (.bool (decide (a<b)))) (fun k a b av e=>by injection e with e;subst e;exact⟨_,by simp [binOp,Op.intCmp];rfl,by simp [ah]⟩) h r q
 ·simp only[ah]at r q;subst r;subst q
  injection h with h;subst h
  exact⟨.bool _,by simp only[binOp,Op.stringOp];rfl,by simp [ah]⟩
 ·cases h
theorem aat {t:TypeId} {x y av:U} {v u:Value} (h:A.leq x y=some av) (r:ah c x v) (q:ah c y u):∃k,(binOp .leq t v u).run P w=.ok k w∧ah c av k:=
 Ae w (f:=fun k a b=>some (.bool (decide (a≤b)))) (fun k a b av e=>by injection e with e;subst e;exact⟨_,by simp [binOp,Op.intCmp];rfl,by simp [ah]⟩) h r q
theorem aag {t:TypeId} {x y av:U} {v u:Value} (h:A.gtr x y=some av) (r:ah c x v) (q:ah c y u):∃k,(binOp .gtr t v u).run P w=.ok k w∧ah c av k:=
 Ae w (f:=fun k a b=>some (.bool (decide (a>b)))) (fun k a b av e=>by injection e with e;subst e;exact⟨.bool (decide (a>b)),by simp [binOp,Op.intCmp],by simp [ah]⟩) h r q
theorem aaf {t:TypeId} {x y av:U} {v u:Value} (h:A.geq x y=some av) (r:ah c x v) (q:ah c y u):∃k,(binOp .geq t v u).run P w=.ok k w∧ah c av k:=
 Ae w (f:=fun k a b=>some (.bool (decide (a≥b)))) (fun k a b av e=>by injection e with e;subst e;exact⟨.bool (decide (a≥b)),by simp [binOp,Op.intCmp],by simp [ah]⟩) h r q
theorem aaW {t:TypeId} {x y av:U} {v u:Value} (h:A.quo x y=some av) (r:ah c x v) (q:ah c y u):∃k,(binOp .quo t v u).run P w=.ok k w∧ah c av k:=by
 unfold A.quo at h
 split at h
 ·simp only[ah]at r q;subst r;subst q
  split at h
  ·rename_i hk
   obtain⟨rfl,hb⟩:=hk
   injection h with h;subst h
   exact⟨_,by simp [binOp,Op.intDiv,hb];rfl,by simp [ah]⟩
  ·cases h
 ·cases h
theorem aaX {t:TypeId} {x y av:U} {v u:Value} (h:A.rem x y=some av) (r:ah c x v) (q:ah c y u):∃k,(binOp .rem t v u).run P w=.ok k w∧ah c av k:=by
 unfold A.rem at h
 split at h
 ·simp only[ah]at r q;subst r;subst q
  split at h
  ·rename_i hk
   obtain⟨rfl,hb⟩:=hk
   injection h with h;subst h
   exact⟨_,by simp [binOp,Op.intDiv,hb];rfl,by simp [ah]⟩
  ·cases h
 ·cases h
theorem aa7 {t:TypeId} {x y av:U} {v u:Value} (h:A.shl x y=some av) (r:ah c x v) (q:ah c y u):∃k,(binOp .shl t v u).run P w=.ok k w∧ah c av k:=by
 unfold A.shl at h
 split at h
 ·simp only[ah]at r q;subst r;subst q
  split at h
  ·cases h
  ·rename_i hb
   injection h with h;subst h
   exact⟨_,by simp only[binOp,Op.shift,if_neg hb];rfl,by simp [ah]⟩
 ·cases h
theorem aa8 {t:TypeId} {x y av:U} {v u:Value} (h:A.shr x y=some av) (r:ah c x v) (q:ah c y u):∃k,(binOp .shr t v u).run P w=.ok k w∧ah c av k:=by
 unfold A.shr at h
 split at h
 ·simp only[ah]at r q;subst r;subst q
  split at h
  ·cases h
  ·rename_i hb
   injection h with h;subst h
   exact⟨_,by simp only[binOp,Op.shift,if_neg hb];rfl,by simp [ah]⟩
 ·cases h
theorem Ny:∀{k1 k2:List Nat} {xs ys:List U} {b:Bool},A.fJ (k1++k2) xs ys=some b→∃p q,A.fJ k1 (xs.take k1.length) (ys.take k1.length)=some p∧A.fJ k2 (xs.drop k1.length) (ys.drop k1.length)=some q∧b=(p&&q)
 |[],k2,xs,ys,b,h=>⟨true,b,by simp [A.fJ],by simpa using h,by simp⟩
 |k::k1,k2,[],[],b,h=>by simp [A.fJ]at h
 |k::k1,k2,[],_::_,b,h=>by simp [A.fJ]at h
 |k::k1,k2,_::_,[],b,h=>by simp [A.fJ]at h
 |k::k1,k2,x::xs,y::ys,b,h=>by
  simp only[List.cons_append,A.fJ]at h
  obtain⟨p,h1,h2⟩:=Option.bind_eq_some_iff.1 h
  obtain⟨q,h3,h4⟩:=Option.map_eq_some_iff.1 h2
  obtain⟨p',q',k1',k2',k3'⟩:=Ny h3
  exact⟨p&&p',q',by simp [A.fJ,h1,k1'],by simpa using k2',by rw[←h4,k3',Bool.and_assoc]⟩
def kn (P:Program) (t:TypeId) (vs:List Value):Value:=match P.underlying t with
 |some (.struct _)=>.agg vs.toArray
 |_=>vs.headD undef
theorem HR {t:TypeId} {d:Nat} (hk:iw P (d+1) t=true) {vs:Array Value} {off:Nat} (h:off+P.cellsOf t≤vs.size):
  (part t vs off).run P w=.ok (kn P t ((vs.toList.drop off).take (P.cellsOf t))) w:=by
 unfold iw at hk
 have scalar:∀de,P.underlying t=some de→(∀fs,de≠.struct fs)→(∀n e,de≠.array n e)→P.cellsOf t=1→(part t vs off).run P w=.ok (kn P t ((vs.toList.drop off).take (P.cellsOf t))) w:=by
  intro de hd h1 h2 h3
  have ha:(isAgg t).run P w=.ok false w:=by
   unfold isAgg
   simp only[Sem.run_bind,run_underlying hd,Result.andThen_ok]
   cases de<;>first|rfl|exact absurd rfl (h1 _)|exact absurd rfl (h2 _ _)
  have e:kn P t ((vs.toList.drop off).take (P.cellsOf t))=vs[off]'(by omega):=by
   unfold kn
   rw[hd]
   have:(vs.toList.drop off).take (P.cellsOf t)=[vs[off]'(by omega)]:=by
    have hlt:off<vs.toList.length:=by rw[Array.length_toList];omega
    rw[h3,List.drop_eq_getElem_cons hlt]
    simp
   rw[this]
   cases de<;>first|rfl|exact absurd rfl (h1 _)
  rw[e]
  unfold part
  simp [ha,Array.getElem?_eq_getElem (show off<vs.size by omega)]
 cases hd:P.underlying t with
 |none=>rw[hd]at hk;cases hk
 |some de=>
  rw[hd]at hk
  cases de<;>simp only at hk<;>first|(cases hk;done)|skip
  case bool=>exact scalar _ hd (by intro _ e;cases e) (by intro _ _ e;cases e) (by simpa using hk)
  case int=>exact scalar _ hd (by intro _ e;cases e) (by intro _ _ e;cases e) (by simpa using hk)
  case string=>exact scalar _ hd (by intro _ e;cases e) (by intro _ _ e;cases e) (by simpa using hk)
  case struct fs=>
   have ha:(isAgg t).run P w=.ok true w:=by
    unfold isAgg
    simp only[Sem.run_bind,run_underlying hd,Result.andThen_ok]
    rfl
   unfold part
   simp only[Sem.run_bind,ha,Result.andThen_ok,if_true,Il w hd,Sem.run_pure]
   congr 1
   simp only[kn,hd]
   congr 1
   apply Array.toList_inj.1
   simp [Array.toList_extract,List.extract_eq_take_drop]
theorem Oy:∀{ks:List Nat} {xs ys:List U} {b:Bool},A.fJ ks xs ys=some b→xs.length=ks.length∧ys.length=ks.length
 |[],[],[],_,_=>⟨rfl,rfl⟩
 |[],[],_::_,_,h=>by simp [A.fJ]at h
 |[],_::_,_,_,h=>by simp [A.fJ]at h
 |_::_,[],_,_,h=>by simp [A.fJ]at h
 |_::_,_::_,[],_,h=>by simp [A.fJ]at h
 |k::ks,x::xs,y::ys,b,h=>by
  simp only[A.fJ]at h
  obtain⟨p,h1,h2⟩:=Option.bind_eq_some_iff.1 h
  obtain⟨q,h3,h4⟩:=Option.map_eq_some_iff.1 h2
  have:=Oy h3
  simp [this]
theorem Fm {d:Nat} (ih:∀t,iw P d t=true→(kinds P d t).length=P.cellsOf t):∀(fs:List Field) (off tot:Nat),tu (iw P d) P.cellsOf fs off=some tot→off+(fs.flatMap fun f=>kinds P d f.type).length=tot
 |[],off,tot,h=>by simpa [tu]using h
 |f::fs,off,tot,h=>by
  simp only[tu]at h
  cases hc : (f.name != "_" && f.offset == off && iw P d f.type)
  ·rw[hc]at h;cases h
  ·rw[hc]at h
   simp only[cond_true]at h
   simp only[Bool.and_eq_true]at hc
   have:=Fm ih fs _ _ h
   have:=ih _ hc.2
   simp only[List.flatMap_cons,List.length_append]
   omega
theorem zX:∀(d:Nat) (t:TypeId),iw P d t=true→(kinds P d t).length=P.cellsOf t
 |0,t,h=>by simp [iw]at h
 |d+1,t,h=>by
  unfold iw at h
  unfold kinds
  cases hd:P.underlying t with
  |none=>rw[hd]at h;cases h
  |some de=>
   rw[hd]at h
   cases de<;>simp only at h<;>first|(cases h;done)|skip
   case bool=>simpa using(beq_iff_eq.1 h).symm
   case int=>simpa using(beq_iff_eq.1 h).symm
   case string=>simpa using(beq_iff_eq.1 h).symm
   case struct fs=>
    simp only[Bool.and_eq_true,beq_iff_eq]at h
    have:=Fm (fun t=>zX d t) fs.toList 0 _ h.2
    simpa using this
theorem Pw {d D:Nat} (ih:∀(t:TypeId) (xs ys:List U) (vs us:List Value) (b:Bool),iw P d t=true→A.fJ (kinds P d t) xs ys=some b→aC c xs vs→aC c ys us→vs.length=P.cellsOf t→us.length=P.cellsOf t→
   (Op.equalIn D t (kn P t vs) (kn P t us)).run P w=.ok b w):
  ∀(fs:List Field) (off tot:Nat) (xs ys:List U) (vs us:Array Value) (b:Bool),tu (iw P d) P.cellsOf fs off=some tot→tot=vs.size→tot=us.size→A.fJ (fs.flatMap fun f=>kinds P d f.type) (xs.drop off) (ys.drop off)=some b→aC c xs vs.toList→aC c ys us.toList→
   (Op.eqFields D vs us fs).run P w=.ok b w
 |[],off,tot,xs,ys,vs,us,b,h,h1,h2,h3,h4,h5=>by
  simp only[tu]at h
  injection h with h
  have l1:=h4.length
  have:xs.drop off=[]:=List.drop_eq_nil_of_le (by rw[l1];simp;omega)
  rw[this]at h3
  have l2:=h5.length
  have:ys.drop off=[]:=List.drop_eq_nil_of_le (by rw[l2];simp;omega)
  rw[this]at h3
  simp only[List.flatMap_nil,A.fJ]at h3
  injection h3 with h3
  subst h3
  simp [Op.eqFields]
 |f::fs,off,tot,xs,ys,vs,us,b,h,h1,h2,h3,h4,h5=>by
  simp only[tu]at h
  cases hc : (f.name != "_" && f.offset == off && iw P d f.type)
  ·rw[hc]at h;cases h
  ·rw[hc]at h
   simp only[cond_true]at h
   simp only[Bool.and_eq_true,bne_iff_ne,beq_iff_eq]at hc
   obtain⟨⟨hn,ho⟩,hk⟩:=hc
   have hle:=Fm (fun t=>zX d t) fs _ _ h
   have nS:=zX d f.type hk
   rw[List.flatMap_cons]at h3
   obtain⟨p,q,k1,k2,k3⟩:=Ny h3
   rw[nS]at k1 k2
   rw[List.drop_drop,List.drop_drop]at k2
   obtain⟨d',rfl⟩:∃d',d=d'+1:=by
    cases d with
    |zero=>simp [iw]at hk
    |succ d'=>exact⟨d',rfl⟩
   have r1:=HR w hk (vs:=vs) (off:=off) (by omega)
   have r2:=HR w hk (vs:=us) (off:=off) (by omega)
   have e1:=ih f.type _ _ _ _ p hk k1 ((h4.drop off).take _) ((h5.drop off).take _) (by simp;omega) (by simp;omega)
   have ihf:=Pw ih fs (off+P.cellsOf f.type) tot xs ys vs us q h h1 h2 k2 h4 h5
   simp only[Op.eqFields,Sem.run_ite,if_pos hn]
   simp only[Sem.run_bind,ho,r1,r2,Result.andThen_ok,e1]
   cases p
   ·simp [k3]
   ·simp only[Bool.not_true,Bool.false_eq_true,if_false,ihf,k3,Bool.true_and]
theorem Px:∀(d D:Nat) (hD:d≤D) (t:TypeId) (xs ys:List U) (vs us:List Value) (b:Bool),iw P d t=true→A.fJ (kinds P d t) xs ys=some b→aC c xs vs→aC c ys us→vs.length=P.cellsOf t→us.length=P.cellsOf t→
   (Op.equalIn D t (kn P t vs) (kn P t us)).run P w=.ok b w
 |0,_,_,t,xs,ys,vs,us,b,hk,_,_,_,_,_=>by simp [iw]at hk
 |d+1,0,hD,_,_,_,_,_,_,_,_,_,_,_,_=>by omega
 |d+1,D+1,hD,t,xs,ys,vs,us,b,hk,h,r,q,l1,l2=>by
  unfold iw at hk
  unfold kinds at h
  cases hd:P.underlying t with
  |none=>rw[hd]at hk;cases hk
  |some de=>
   rw[hd]at hk h
   have scalar:∀k,A.fJ [k] xs ys=some b→P.cellsOf t=1→∃x y v u,xs=[x]∧ys=[y]∧vs=[v]∧us=[u]∧A.rY k x y=some b∧ah c x v∧ah c y u:=by
    intro k h h1
    rw[h1]at l1 l2
    have m1:=r.length;have m2:=q.length
    obtain⟨x,rfl⟩:=List.length_eq_one_iff.1 (m1.trans l1)
    obtain⟨y,rfl⟩:=List.length_eq_one_iff.1 (m2.trans l2)
    obtain⟨v,rfl⟩:=List.length_eq_one_iff.1 l1
    obtain⟨u,rfl⟩:=List.length_eq_one_iff.1 l2
    simp only[A.fJ]at h
    obtain⟨p,h2,h3⟩:=Option.bind_eq_some_iff.1 h
    simp at h3;subst h3
    obtain⟨v',k1,k2⟩:=r.nth (i:=0) (a:=x) rfl
    obtain⟨u',k3,k4⟩:=q.nth (i:=0) (a:=y) rfl
    simp at k1 k3;subst k1;subst k3
    exact⟨x,y,v,u,rfl,rfl,rfl,rfl,h2,k2,k4⟩
   cases de<;>simp only at hk h<;>first|(cases hk;done)|skip
   case bool=>
    obtain⟨x,y,v,u,rfl,rfl,rfl,rfl,e,r1,q1⟩:=scalar _ h (by simpa using hk)
    simp only[kn,hd,List.headD_cons]
    simp only[A.rY,A.uY]at e
    split at e
    ·simp only[ah]at r1 q1;injection e with e;subst_vars
     exact run_equalIn_bool' w D t _ _ hd
    ·cases e
   case int kk=>
    obtain⟨x,y,v,u,rfl,rfl,rfl,rfl,e,r1,q1⟩:=scalar _ h (by simpa using hk)
    simp only[kn,hd,List.headD_cons]
    simp only[A.rY,A.mz]at e
    split at e
    ·simp only[ah]at r1 q1
     split at e
     ·injection e with e;subst_vars
      exact run_equalIn_int w D t _ kk _ _ hd
     ·cases e
    ·cases e
   case string=>
    obtain⟨x,y,v,u,rfl,rfl,rfl,rfl,e,r1,q1⟩:=scalar _ h (by simpa using hk)
    simp only[kn,hd,List.headD_cons]
    simp only[A.rY,A.pU]at e
    split at e
    ·simp only[ah]at r1 q1;injection e with e;subst_vars
     rw[Cv]
     exact run_equalIn_string w D t _ _ hd
    ·cases e
   case struct fs=>
    simp only[Bool.and_eq_true,Bool.not_eq_true',beq_iff_eq]at hk
    have hf:P.fieldsOf t=fs:=by simp [Program.fieldsOf,hd]
    simp only[kn,hd]
    rw[run_equalIn_struct w D t _ _ (by rw[hf];exact hd) hk.1,hf]
    exact Pw w (fun t xs ys vs us b=>Px d D (by omega) t xs ys vs us b) fs.toList 0 _ xs ys vs.toArray us.toArray b hk.2 (by simp [l1]) (by simp [l2]) (by simpa using h) (by simpa using r) (by simpa using q)
theorem BZ {el:TypeId} (d:Nat) (t:TypeId) (p:Option Addr) (h:P.underlying t=some (.pointer el)):(Op.equalIn (d+1) t (.pointer none) (.pointer p)).run P w=.ok p.isNone w:=by
 simp [Op.equalIn,run_underlying h]
theorem B0 {el:TypeId} (d:Nat) (t:TypeId) (p:Addr) (h:P.underlying t=some (.pointer el)):(Op.equalIn (d+1) t (.pointer (some p)) (.pointer none)).run P w=.ok false w:=by
 simp [Op.equalIn,run_underlying h]
theorem JK (X:Fx) {t:TypeId} {e:A.EK} {x y:U} {b:Bool} {v u:Value} (ht:jE X t=some e) (h:A.dG e x y=some b) (r:ah c x v) (q:ah c y u):
  (Op.equal t v u).run X.P w=.ok b w∧((∃xs ys,v=.agg xs∧u=.agg ys∧X.P.eqGuardType X.P.depth t=false)∨(∃k m n,v=.int k m∧u=.int k n∧b=(m==n))∨(∃m n,v=.string m∧u=.string n∧b=(m==n))∨(∃m n,v=.bool m∧u=.bool n∧b=(m==n))∨∃m n,v=.pointer m∧u=.pointer n):=by
 unfold jE at ht
 cases hd:X.P.underlying t with
 |none=>rw[hd]at ht;cases ht
 |some de=>
  rw[hd]at ht
  cases de<;>simp only at ht<;>first|(cases ht;done)|skip
  case bool=>
   injection ht with ht;subst ht
   simp only[A.dG,A.uY]at h
   split at h
   ·simp only[ah]at r q;injection h with h;subst_vars
    exact⟨run_equalIn_bool' w _ t _ _ hd,.inr (.inr (.inr (.inl ⟨_,_,rfl,rfl,rfl⟩)))⟩
   ·cases h
  case int kk=>
   injection ht with ht;subst ht
   simp only[A.dG,A.mz]at h
   split at h
   ·simp only[ah]at r q
    split at h
    ·injection h with h;subst_vars
     exact⟨run_equalIn_int w _ t _ kk _ _ hd,.inr (.inl ⟨_,_,_,rfl,rfl,rfl⟩)⟩
    ·cases h
   ·cases h
  case string=>
   injection ht with ht;subst ht
   simp only[A.dG,A.pU]at h
   split at h
   ·simp only[ah]at r q;injection h with h;subst_vars
    refine⟨?_,.inr (.inr (.inl ⟨_,_,rfl,rfl,rfl⟩))⟩
    rw[Cv]
    exact run_equalIn_string w _ t _ _ hd
   ·cases h
  case pointer el=>
   cases hc:(X.P.cellsOf el !=0)
   ·rw[hc]at ht;cases ht
   ·rw[hc]at ht
    injection ht with ht;subst ht
    simp only[A.dG,A.Tk]at h
    split at h<;>first|(cases h;done)|skip
    all_goals
     simp only[ah]at r q
     injection h with h;subst h
    ·subst r;subst q
     exact⟨by first|exact BZ w 9999 t _ hd|exact B0 w 9999 t _ hd,.inr (.inr (.inr (.inr ⟨_,_,rfl,rfl⟩)))⟩
    ·subst r;obtain⟨b,off,rfl,_⟩:=q
     exact⟨by first|exact BZ w 9999 t _ hd|exact B0 w 9999 t _ hd,.inr (.inr (.inr (.inr ⟨_,_,rfl,rfl⟩)))⟩
    ·subst r;obtain⟨p,_,_,rfl⟩:=q
     exact⟨by first|exact BZ w 9999 t _ hd|exact B0 w 9999 t _ hd,.inr (.inr (.inr (.inr ⟨_,_,rfl,rfl⟩)))⟩
    ·subst q;obtain⟨b,off,rfl,_⟩:=r
     exact⟨by first|exact BZ w 9999 t _ hd|exact B0 w 9999 t _ hd,.inr (.inr (.inr (.inr ⟨_,_,rfl,rfl⟩)))⟩
    ·subst q;obtain⟨p,_,_,rfl⟩:=r
     exact⟨by first|exact BZ w 9999 t _ hd|exact B0 w 9999 t _ hd,.inr (.inr (.inr (.inr ⟨_,_,rfl,rfl⟩)))⟩
  case struct fs=>
   cases hc:(iw X.P 9 t&&!X.P.eqGuardType X.P.depth t)
   ·rw[hc]at ht;cases ht
   ·rw[hc]at ht
    injection ht with ht;subst ht
    simp only[Bool.and_eq_true,Bool.not_eq_true']at hc
    simp only[A.dG]at h
    split at h
    ·simp only[ah]at r q
     obtain⟨vs,rfl,r1,_⟩:=r
     obtain⟨us,rfl,q1,_⟩:=q
     have hl:=Oy h
     rw[zX 9 t hc.1]at hl
     have e:=Px w 9 Op.maxDepth (by decide) t _ _ _ _ b hc.1 h r1 q1 (by rw[←r1.length];exact hl.1) (by rw[←q1.length];exact hl.2)
     simp only[kn,hd,Array.toArray_toList]at e
     exact⟨e,.inl ⟨_,_,rfl,rfl,hc.2⟩⟩
    ·cases h
theorem Z5 (X:Fx) {t:TypeId} {ox oy:Operand} {e:A.EK} {x y av:U} {v u:Value} (ht:jE X t=some e) (h:A.eql e x y=some av) (r:ah c x v) (q:ah c y u):
  ∃k,(do eqGuard .eql t ox oy v u;binOp .eql t v u:Sem Value).run X.P w=.ok k w∧ah c av k:=by
 obtain⟨b,h1,h2⟩:=Option.map_eq_some_iff.1 h
 subst h2
 obtain⟨h3,h4⟩:=JK w X ht h1 r q
 refine⟨.bool b,?_,by simp [ah]⟩
 rcases h4 with⟨xs,ys,rfl,rfl,hg⟩|⟨k,m,n,rfl,rfl,rfl⟩|⟨m,n,rfl,rfl,rfl⟩|⟨m,n,rfl,rfl,hb⟩|⟨m,n,rfl,rfl⟩
 ·simp only[Sem.run_bind,run_eqGuard_agg w .eql t ox oy xs ys hg,Result.andThen_ok]
  simp [binOp,h3]
 ·simp [eqGuard_at_int,binOp_eql]
 ·rw[Cv];simp [eqGuard_at_string,binOp,Op.stringOp]
 ·simp only[eqGuard_at_bool,Sem.run_bind,Sem.run_pure,Result.andThen_ok];simp [binOp,h3]
 ·simp only[eqGuard_at_pointer,Sem.run_bind,Sem.run_pure,Result.andThen_ok];simp [binOp,h3]
theorem aaF (X:Fx) {t:TypeId} {ox oy:Operand} {e:A.EK} {x y av:U} {v u:Value} (ht:jE X t=some e) (h:A.neq e x y=some av) (r:ah c x v) (q:ah c y u):
  ∃k,(do eqGuard .neq t ox oy v u;binOp .neq t v u:Sem Value).run X.P w=.ok k w∧ah c av k:=by
 obtain⟨b,h1,h2⟩:=Option.map_eq_some_iff.1 h
 subst h2
 obtain⟨h3,h4⟩:=JK w X ht h1 r q
 refine⟨.bool (!b),?_,by simp [ah]⟩
 rcases h4 with⟨xs,ys,rfl,rfl,hg⟩|⟨k,m,n,rfl,rfl,rfl⟩|⟨m,n,rfl,rfl,rfl⟩|⟨m,n,rfl,rfl,hb⟩|⟨m,n,rfl,rfl⟩
 ·simp only[Sem.run_bind,run_eqGuard_agg w .neq t ox oy xs ys hg,Result.andThen_ok]
  simp [binOp,h3]
 ·simp [eqGuard_at_int,binOp_neq];rfl
 ·rw[Cv];simp [eqGuard_at_string,binOp,Op.stringOp]
 ·simp only[eqGuard_at_bool,Sem.run_bind,Sem.run_pure,Result.andThen_ok];simp [binOp,h3]
 ·simp only[eqGuard_at_pointer,Sem.run_bind,Sem.run_pure,Result.andThen_ok];simp [binOp,h3]
theorem RO {P:Program} {el:TypeId} (d:Nat) (t:TypeId) (a:Option Addr) (n m:Nat) (h:P.underlying t=some (.slice el)):(Op.equalIn (d+1) t (.slice a n m) (.slice none 0 0)).run P w=.ok a.isNone w:=by
 cases a<;>simp [Op.equalIn,run_underlying h]
theorem QE {P:Program} {t e:TypeId} {x y:U} {b:Bool} {v u:Value} (ht:P.underlying t=some (.slice e)) (h:A.GY x y=some b) (r:ah c x v) (q:ah c y u):
  ∃a n m,v=.slice a n m∧u=.slice none 0 0∧(Op.equal t v u).run P w=.ok b w:=by
 cases y<;>simp only[A.GY]at h<;>first|(cases h;done)|skip
 simp only[ah]at q;subst q
 have hs:∃a n m,v=.slice a n m∧b=a.isNone:=by
  split at h<;>first|(cases h;done)|skip
  all_goals injection h with h;subst h;simp only[ah]at r
  ·exact⟨none,0,0,r,rfl⟩
  ·obtain⟨a,cap,e1,_,_,k|⟨b,off,rfl,_⟩⟩:=r
   ·cases k
   ·exact⟨_,_,_,e1,rfl⟩
  ·obtain⟨_,p,_,_,a,cap,rfl,_⟩:=r
   exact⟨_,_,_,rfl,rfl⟩
 obtain⟨a,n,m,rfl,rfl⟩:=hs
 exact⟨a,n,m,rfl,rfl,RO w 9999 t a n m ht⟩
theorem ZS (X:Fx) {op:BinOp} {t:TypeId} {ox oy:Operand} {x y av:U} {v u:Value} (h:KP X op t x y=some av) (r:ah c x v) (q:ah c y u):
  ∃k,(do eqGuard op t ox oy v u;binOp op t v u:Sem Value).run X.P w=.ok k w∧ah c av k:=by
 cases op<;>simp only[KP]at h<;>first|(cases h;done)|skip
 case add=>obtain⟨k,h1,h2⟩:=ZR (P:=X.P) (t:=t) w h r q;exact⟨k,by simp [eqGuard_add,h1],h2⟩
 case sub=>obtain⟨k,h1,h2⟩:=aba (P:=X.P) (t:=t) w h r q;exact⟨k,by simp [eqGuard_sub,h1],h2⟩
 case mul=>obtain⟨k,h1,h2⟩:=aaB (P:=X.P) (t:=t) w h r q;exact⟨k,by simp [eqGuard_mul,h1],h2⟩
 case quo=>obtain⟨k,h1,h2⟩:=aaW (P:=X.P) (t:=t) w h r q;exact⟨k,by simp [eqGuard_quo,h1],h2⟩
 case rem=>obtain⟨k,h1,h2⟩:=aaX (P:=X.P) (t:=t) w h r q;exact⟨k,by simp [eqGuard_rem,h1],h2⟩
 case lss=>obtain⟨k,h1,h2⟩:=aax (P:=X.P) (t:=t) w h r q;exact⟨k,by simp [eqGuard_lss,h1],h2⟩
 case leq=>obtain⟨k,h1,h2⟩:=aat (P:=X.P) (t:=t) w h r q;exact⟨k,by simp [eqGuard_leq,h1],h2⟩
 case gtr=>obtain⟨k,h1,h2⟩:=aag (P:=X.P) (t:=t) w h r q;exact⟨k,by simp [eqGuard_gtr,h1],h2⟩
 case geq=>obtain⟨k,h1,h2⟩:=aaf (P:=X.P) (t:=t) w h r q;exact⟨k,by simp [eqGuard_geq,h1],h2⟩
 case shl=>obtain⟨k,h1,h2⟩:=aa7 (P:=X.P) (t:=t) w h r q;exact⟨k,by simp [eqGuard_shl,h1],h2⟩
 case shr=>obtain⟨k,h1,h2⟩:=aa8 (P:=X.P) (t:=t) w h r q;exact⟨k,by simp [eqGuard_shr,h1],h2⟩
 case eql=>
  cases he:jE X t with
  |none=>
   rw[he]at h
   simp only at h
   split at h
   ·rename_i e ht
    obtain⟨b,h1,rfl⟩:=Option.map_eq_some_iff.1 h
    obtain⟨a,n,m,rfl,rfl,k2⟩:=QE (P:=X.P) w ht h1 r q
    exact⟨.bool b,by simp [eqGuard,binOp,k2],by simp [ah]⟩
   ·cases h
  |some e=>rw[he]at h;exact Z5 w X he h r q
 case neq=>
  cases he:jE X t with
  |none=>
   rw[he]at h
   simp only at h
   split at h
   ·rename_i e ht
    obtain⟨b,h1,rfl⟩:=Option.map_eq_some_iff.1 h
    obtain⟨a,n,m,rfl,rfl,k2⟩:=QE (P:=X.P) w ht h1 r q
    exact⟨.bool (!b),by simp [eqGuard,binOp,k2],by simp [ah]⟩
   ·cases h
  |some e=>rw[he]at h;exact aaF w X he h r q
theorem B9 {n j:Nat} {i:U} {v:Value} (h:A.idx n i=some j) (r:ah c i v):∃k,v=.int k (j:Int)∧j<n:=by
 unfold A.idx at h
 split at h
 ·simp only[ah]at r
  split at h
  ·rename_i k m hm
   injection h with h
   subst r
   exact⟨_,by rw[←h];congr 1;omega,by omega⟩
  ·cases h
 ·cases h
def lJ (c:RC):Option U→Option Value→Prop
 |none,none=>True
 |some x,some v=>ah c x v
 |_,_=>False
theorem zU {y d j:Nat} {x:Option U} {v:Option Value} {code:BoundsCode} (h:A.bound y d x=some j) (r:lJ c x v):
  (x=none∧v=none∧j=d)∨∃a u,x=some a∧v=some u∧(Instr.sliceBound u y code).run P w=.ok j w∧j≤y:=by
 cases x with
 |none=>cases v with
  |none=>simp only[A.bound]at h;injection h with h;exact .inl ⟨rfl,rfl,h.symm⟩
  |some u=>exact r.elim
 |some a=>cases v with
  |none=>exact r.elim
  |some u=>
   simp only[lJ]at r
   cases a<;>simp only[A.bound]at h<;>first|(cases h;done)|skip
   rename_i k m
   split at h
   ·rename_i hm
    injection h with h
    simp only[ah]at r;subst r
    refine .inr ⟨_,_,rfl,rfl,?_,by omega⟩
    simp [Instr.sliceBound,asIntOf,hm,h]
   ·cases h
theorem Bw {zg:Bool} {y len cap l h:Nat} {lo hi:Option U} {vl vh:Option Value} (hc:len≤cap) (hy:y≤cap) (hh:A.bound y len hi=some h) (hl:A.bound h 0 lo=some l)
  (rh:lJ c hi vh) (rl:lJ c lo vl):
  (Instr.sliceBounds zg len cap vl vh none).run P w=.ok (l,h,cap) w∧l≤h∧(h≤y∨h≤len):=by
 have big:∀{u:Value} {code:BoundsCode},(Instr.sliceBound u y code).run P w=.ok h w→(Instr.sliceBound u cap code).run P w=.ok h w:=by
  intro u code e
  unfold Instr.sliceBound at e ⊢
  simp only[Sem.run_bind]at e ⊢
  generalize (asIntOf u).run P w=r at *
  cases r with
  |halt x w'=>simp at e
  |ok p w'=>
   obtain⟨k,i⟩:=p
   simp only[Result.andThen_ok,Sem.run_ite]at e ⊢
   split at e
   ·rename_i hi
    rw[if_pos ⟨hi.1,by omega⟩];exact e
   ·simp only[boundsPanic,Sem.run_bind]at e
    exfalso
    revert e
    split
    ·simp [runtimePanic,goPanic];split<;>simp [runtimePanic,goPanic]
    ·simp [runtimePanic,goPanic]
 rcases zU (P:=P) (code:=if zg then .sliceAcap else .sliceAlen) w hh rh with⟨rfl,rfl,rfl⟩|⟨x,u,rfl,rfl,e1,e2⟩
 ·rcases zU (P:=P) (code:=.sliceB) w hl rl with⟨rfl,rfl,rfl⟩|⟨y,q,rfl,rfl,e3,e4⟩
  ·exact⟨by simp [Instr.sliceBounds],Nat.zero_le _,.inr (Nat.le_refl _)⟩
  ·exact⟨by simp [Instr.sliceBounds,e3],e4,.inr (Nat.le_refl _)⟩
 ·rcases zU (P:=P) (code:=.sliceB) w hl rl with⟨rfl,rfl,rfl⟩|⟨y,q,rfl,rfl,e3,e4⟩
  ·exact⟨by simp [Instr.sliceBounds,big e1],Nat.zero_le _,.inl e2⟩
  ·exact⟨by simp [Instr.sliceBounds,big e1,e3],e4,.inl e2⟩
theorem YS {y y' d d' j:Nat} {x:U} (h:A.bound y d (some x)=some j) (hy:y≤y'):A.bound y' d' (some x)=some j:=by
 cases x<;>simp only[A.bound]at h ⊢<;>first|(cases h;done)|skip
 split at h
 ·rename_i hm;rw[if_pos ⟨hm.1,by omega⟩];exact h
 ·cases h
theorem XI {t e:TypeId} {i:TypeInfo} {x hi mx av:U} {lo:Option U} {v vh vm:Value} {vl:Option Value} (ht:P.underlying t=some (.slice e)) (hi':P.info? e=some i)
  (h:A.slice3 x lo hi mx=some av) (r:ah c x v) (rl:lJ c lo vl) (rh:ah c hi vh) (rm:ah c mx vm):∃k,(Instr.slice t v vl (some vh) (some vm)).run P w=.ok k w∧ah c av k:=by
 have hsz:(sizeOf e).run P w=.ok i.size w:=by simp [sizeOf,qi w hi']
 unfold A.slice3 at h
 obtain⟨n,h0,h⟩:=Option.bind_eq_some_iff.1 h
 have hv:∃a len cap,v=.slice a len cap∧len≤cap∧n=.int .i64 (len:Nat):=by
  cases x<;>simp only[A.bf]at h0<;>first|(cases h0;done)|skip
  all_goals injection h0 with h0;subst h0;simp only[ah]at r
  case sl=>obtain⟨a,cap,rfl,hc,_⟩:=r;exact⟨a,_,cap,rfl,hc,rfl⟩
  case aB=>subst r;exact⟨none,0,0,rfl,Nat.le_refl _,rfl⟩
  case ez=>obtain⟨a,rfl⟩:=r;exact⟨a,0,0,rfl,Nat.le_refl _,rfl⟩
  case os=>obtain⟨_,p,_,_,a,cap,rfl,hc,_⟩:=r;exact⟨some a,_,cap,rfl,hc,rfl⟩
 obtain⟨a,len,cap,rfl,hc,rfl⟩:=hv
 simp only[Int.toNat_natCast]at h
 obtain⟨m,h1,h⟩:=Option.bind_eq_some_iff.1 h
 obtain⟨h',h2,h⟩:=Option.bind_eq_some_iff.1 h
 obtain⟨l,h3,rfl⟩:=Option.map_eq_some_iff.1 h
 rcases zU (P:=P) (code:=.slice3Acap) w (YS (d':=0) h1 hc) (show lJ c (some mx) (some vm)from rm)with⟨k,_⟩|⟨_,u,_,q1,e1,_⟩
 ·cases k
 injection q1 with q1;subst q1
 rcases zU (P:=P) (code:=.slice3B) w h2 (show lJ c (some hi) (some vh)from rh)with⟨k,_⟩|⟨_,u,_,q2,e2,hle⟩
 ·cases k
 injection q2 with q2;subst q2
 rcases zU (P:=P) (code:=.slice3C) w h3 rl with⟨rfl,rfl,rfl⟩|⟨y,q,rfl,rfl,e3,e4⟩
 ·refine⟨_,by simp [Instr.slice,run_underlying ht,Instr.sliceBounds,e1,e2,hsz];rfl,?_⟩
  by_cases hm:m=0
  ·subst hm
   have:h'=0:=by omega
   subst this
   simp [ah]
  ·rw[if_neg hm];simp [ah]
 ·refine⟨_,by simp [Instr.slice,run_underlying ht,Instr.sliceBounds,e1,e2,e3,hsz];rfl,?_⟩
  by_cases hm:m=0
  ·subst hm
   have:h'=0:=by omega
   subst this
   have:l=0:=by omega
   subst this
   simp [ah]
  ·rw[if_neg hm];simp [ah]
theorem XK {t:TypeId} {x av:U} {lo hi:Option U} {v:Value} {vl vh:Option Value} (ht:P.underlying t=some .string)
  (h:A.Kh x lo hi=some av) (r:ah c x v) (rl:lJ c lo vl) (rh:lJ c hi vh):∃k,(Instr.slice t v vl vh none).run P w=.ok k w∧ah c av k:=by
 cases x<;>simp only[A.Kh]at h<;>first|(cases h;done)|skip
 rename_i s
 obtain⟨h',h1,h2⟩:=Option.bind_eq_some_iff.1 h
 obtain⟨l,h3,h4⟩:=Option.map_eq_some_iff.1 h2
 simp only[ah]at r;subst r;subst h4
 obtain⟨e,_,_⟩:=Bw (P:=P) (zg:=false) w (Nat.le_refl _) (Nat.le_refl _) h1 h3 rh rl
 exact⟨.string (s.extract l h'),by simp [Instr.slice,run_underlying ht,e],by simp [ah]⟩
theorem room_le {σ:Heap} (hh:fq c σ) {id g sz off len cap:Nat} {p:Pl} (h1:c.E[id]? =some p) (hc:len≤cap) (hsz:0<sz) (r:g=p.g→p.sz=sz∧p.base+(off+cap)*p.sz=p.nj):A.room σ id g sz off len≤cap:=by
 unfold A.room
 split
 ·rename_i g' sz' es hs
  split
  ·rename_i lQ
   obtain⟨rfl,rfl,hle⟩:=lQ
   obtain⟨j1,j2,j3,j4,j5,j7,j8,j9⟩:=hh.blk id p _ h1 hs
   obtain⟨k1,k3⟩:=r j1.symm
   rw[k1]at k3
   have:es.length*sz≤(off+cap)*sz:=by omega
   have:=Nat.le_of_mul_le_mul_right this j4
   omega
  ·exact hc
 ·exact hc
theorem XJ {t e:TypeId} {i:TypeInfo} {x av:U} {lo hi:Option U} {v:Value} {vl vh:Option Value} {σ:Heap} (hh0:fq c σ) (ht:P.underlying t=some (.slice e)) (hi':P.info? e=some i)
  (h:A.bN i.size x lo hi σ=some av) (r:ah c x v) (rl:lJ c lo vl) (rh:lJ c hi vh):∃k,(Instr.slice t v vl vh none).run P w=.ok k w∧ah c av k:=by
 have hsz:(sizeOf e).run P w=.ok i.size w:=by simp [sizeOf,qi w hi']
 cases x<;>simp only[A.bN]at h<;>first|(cases h;done)|skip
 case sl sz es=>
  split at h
  ·rename_i hs
   subst hs
   obtain⟨h',h1,h2⟩:=Option.bind_eq_some_iff.1 h
   obtain⟨l,h3,h4⟩:=Option.map_eq_some_iff.1 h2
   subst h4
   simp only[ah]at r
   obtain⟨a,cap,rfl,hcap,hp,r⟩:=r
   obtain⟨e1,hl,hh⟩:=Bw (P:=P) (zg:=true) w hcap hcap h1 h3 rh rl
   refine⟨.slice (if cap=l then a else a.map (·.add (l*i.size))) (h'-l) (cap-l),by simp [Instr.slice,run_underlying ht,e1,hsz],?_⟩
   simp only[ah]
   have hlen:((es.take h').drop l).length=h'-l:=by simp;omega
   refine⟨_,_,by rw[hlen],by rw[hlen];omega,hp,?_⟩
   by_cases hz:h'=l
   ·left;apply List.drop_eq_nil_of_le;simp;omega
   ·right
    rcases r with r|⟨b,off,rfl,hb,hX,r⟩
    ·subst r;simp at hh;omega
    ·refine⟨b,off+l*i.size,?_,hb,hX,(r.take h').drop l⟩
     rw[if_neg (by omega)]
     simp [lB]
  ·cases h
 case aB=>
  obtain⟨h',h1,h2⟩:=Option.bind_eq_some_iff.1 h
  obtain⟨l,h3,h4⟩:=Option.map_eq_some_iff.1 h2
  subst h4
  simp only[ah]at r
  subst r
  obtain⟨e1,hl,hh⟩:=Bw (P:=P) (zg:=true) w (Nat.le_refl 0) (Nat.le_refl 0) h1 h3 rh rl
  refine⟨.slice none 0 0,?_,by simp [ah]⟩
  have:h'=0:=by omega
  have:l=0:=by omega
  subst_vars
  simp [Instr.slice,run_underlying ht,e1,hsz]
 case ez=>
  obtain⟨h',h1,h2⟩:=Option.bind_eq_some_iff.1 h
  obtain⟨l,h3,h4⟩:=Option.map_eq_some_iff.1 h2
  subst h4
  simp only[ah]at r
  obtain⟨q,rfl⟩:=r
  obtain⟨e1,hl,hh⟩:=Bw (P:=P) (zg:=true) w (Nat.le_refl 0) (Nat.le_refl 0) h1 h3 rh rl
  refine⟨.slice q 0 0,?_,by simp [ah]⟩
  have:h'=0:=by omega
  have:l=0:=by omega
  subst_vars
  simp [Instr.slice,run_underlying ht,e1,hsz]
 case os id g sz off len=>
  split at h
  ·rename_i hs
   subst hs
   obtain⟨h',h1,h2⟩:=Option.bind_eq_some_iff.1 h
   obtain⟨l,h3,h4⟩:=Option.map_eq_some_iff.1 h2
   subst h4
   simp only[ah]at r
   obtain⟨hg,p,hp1,hp2,a,cap,rfl,hcap,r⟩:=r
   obtain⟨e1,hl,hh⟩:=Bw (P:=P) (zg:=true) w hcap (by
    by_cases hz:i.size=0
    ·have:A.room σ id g i.size off len=len:=by
      unfold A.room
      split
      ·rename_i g' sz' es hs
       split
       ·rename_i lQ
        obtain⟨rfl,rfl,hle⟩:=lQ
        obtain⟨_,_,_,j4,_⟩:=hh0.blk id p _ hp1 hs
        omega
       ·rfl
      ·rfl
     rw[this];exact hcap
    ·exact room_le hh0 hp1 hcap (by omega) (fun k=>⟨(r k).1,(r k).2.2⟩)) h1 h3 rh rl
   have hle:h'≤cap:=by
    rcases hh with hh|hh
    ·refine Nat.le_trans hh ?_
     by_cases hz:i.size=0
     ·have:A.room σ id g i.size off len=len:=by
       unfold A.room
       split
       ·rename_i g' sz' es hs
        split
        ·rename_i lQ
         obtain⟨rfl,rfl,hle⟩:=lQ
         obtain⟨_,_,_,j4,_⟩:=hh0.blk id p _ hp1 hs
         omega
        ·rfl
       ·rfl
      rw[this];exact hcap
     ·exact room_le hh0 hp1 hcap (by omega) (fun k=>⟨(r k).1,(r k).2.2⟩)
    ·omega
   refine⟨.slice (if cap=l then some a else(some a).map (·.add (l*i.size))) (h'-l) (cap-l),by simp [Instr.slice,run_underlying ht,e1,hsz],?_⟩
   simp only[ah]
   refine⟨hg,p,hp1,hp2,(if cap=l then a else a.add (l*i.size)),cap-l,by by_cases e:cap=l<;>simp [e],by omega,fun hgp=>?_⟩
   obtain⟨k1,k2,k3⟩:=r hgp
   refine⟨k1,?_,?_⟩
   ·by_cases e:cap=l
    ·left;omega
    ·right
     rw[if_neg e]
     rcases k2 with k2|k2
     ·omega
     ·rw[k2,lB,k1,Nat.add_mul];congr 1;omega
   ·rw[show off+l+(cap-l)=off+cap by omega];exact k3
  ·cases h
end
end
section
open Go.RowKit
def eD (arr:Array Value) (off:Nat) (l:List Value):Array Value:=(arr.toList.take off++l++arr.toList.drop (off+l.length)).toArray
theorem Q8 (arr:Array Value) (off:Nat):eD arr off []=arr:=by simp [eD]
theorem Qf (arr:Array Value) (off:Nat) (x:Value) (l:List Value) (h:off+(l.length+1)≤arr.size):eD arr off (x::l)=eD (arr.setIfInBounds off x) (off+1) l:=by
 unfold eD
 congr 1
 have hlt:off<arr.toList.length:=by simp;omega
 simp only[Array.toList_setIfInBounds,List.length_cons]
 rw[List.take_succ_eq_append_getElem (by simpa using hlt),List.getElem_set_self,List.take_set_of_le (Nat.le_refl _),List.drop_set_of_lt (by omega)]
 simp [Nat.add_assoc,Nat.add_comm 1 l.length]
theorem Jy (arr:Array Value) (off:Nat) (l:List Value) (h:off+l.length≤arr.size):(eD arr off l).size=arr.size:=by
 simp [eD];omega
theorem PD (off:Nat):∀(l:List Value) (k:Nat) (arr:Array Value),off+k+l.length≤arr.size→(l.zipIdx k).foldl (fun cs (p:Value×Nat)=>cs.setIfInBounds (off+p.2) p.1) arr=eD arr (off+k) l
 |[],k,arr,h=>by simp [Q8]
 |x::l,k,arr,h=>by
  simp only[List.zipIdx_cons,List.foldl_cons]
  rw[PD off l (k+1) _ (by simp at h ⊢;omega),Qf _ _ _ _ (by simpa using h)]
  rfl
theorem BP {w:World} {b:Nat} {o:Obj} (h:w.heap[b]? =some o):w.cL b o=w:=by
 unfold World.cL
 have hb:=(Array.getElem?_eq_some_iff.1 h)
 obtain⟨hb,e⟩:=hb
 have:w.heap.setIfInBounds b o=w.heap:=by
  apply Array.ext_getElem?
  intro i
  rw[Array.getElem?_setIfInBounds]
  by_cases hi:b=i
  ·subst hi;rw[if_pos rfl,if_pos hb,h]
  ·rw[if_neg hi]
 rw[this]
theorem YC (w:World) (b:Nat) (o o':Obj):(w.cL b o).cL b o'=w.cL b o':=by
 unfold World.cL;simp
theorem Wh {w:World} {b off:Nat} {arr:Array Value} {t:TypeId} {fz:Nat×Nat} (h:w.heap[b]? =some (.cells arr t fz)) (v:Value):
  w.setCell ⟨b,off,none⟩ v=w.cL b (.cells (arr.setIfInBounds off v) t fz):=by
 unfold World.setCell World.cL
 obtain⟨hb,e⟩:=Array.getElem?_eq_some_iff.1 h
 congr 1
 apply Array.ext_getElem?
 intro i
 rw[Array.getElem?_modify,Array.getElem?_setIfInBounds]
 by_cases hi:b=i
 ·subst hi;simp [h,hb,e]
 ·simp [hi]
section
variable {P : Program} {c : RC}
theorem YH {v:Value} (h:cu v=true) (w:World) (a:Addr):(store a v).run P w=stored P w a v .plain:=by
 cases v<;>first|exact run_store P w a _ .plain rfl|(simp [cu]at h)
theorem zJ {b off:Nat} {t:TypeId}:∀(vs:List Value) (i:Nat) (w:World) (arr:Array Value),w.heap[b]? =some (.cells arr t (0,0))→off+i+vs.length≤arr.size→(∀x∈vs,cu x=true)→
  (storeCells ⟨b,off,none⟩ vs i).run P w=.ok () (w.cL b (.cells (eD arr (off+i) vs) t (0,0)))
 |[],i,w,arr,h,hl,ho=>by simp [storeCells,Q8,BP h]
 |v::vs,i,w,arr,h,hl,ho=>by
  have hc:w.cell? ⟨b,off+i,none⟩=some (arr[off+i]'(by simp at hl;omega)):=by
   rw[sI h,Array.getElem?_eq_getElem]
  have hf:w.frozen? ⟨b,off+i,none⟩=false:=by simp [World.frozen?,h]
  have hs:(store ((⟨b,off,none⟩:Addr).add i) v).run P w=.ok () (w.cL b (.cells (arr.setIfInBounds (off+i) v) t (0,0))):=by
   rw[lB,YH (ho v (by simp)),stored]
   simp [hc,hf,Wh h]
  have hb:b<w.heap.size:=(Array.getElem?_eq_some_iff.1 h).1
  have ih:=zJ (off:=off) vs (i+1) (w.cL b (.cells (arr.setIfInBounds (off+i) v) t (0,0))) (arr.setIfInBounds (off+i) v) (qR _ hb) (by simp at hl ⊢;omega) (fun x hx=>ho x (by simp [hx]))
  simp only[storeCells,Sem.run_bind,hs,Result.andThen_ok,ih,YC]
  rw[Qf _ _ _ _ (by simpa using hl)]
  rfl
theorem aC.eD {cs new cs':List U} {arr:Array Value} {vs:List Value} {off:Nat} (h:A.splice off new cs=some cs') (r:aC c cs arr.toList) (q:aC c new vs):aC c cs' (Proofs.Ytphgchakmkankaa.eD arr off vs).toList∧off+vs.length≤arr.size:=by
 unfold A.splice at h
 split at h
 ·injection h with h
  subst h
  have l1:=r.length;have l2:=q.length
  simp at l1
  refine⟨?_,by omega⟩
  simp only[Proofs.Ytphgchakmkankaa.eD,List.toList_toArray]
  rw[←l2]
  exact((r.take off).append q).append (r.drop _)
 ·cases h
theorem Ap {arr:Array Value} {vs:List Value} {off:Nat} (h:∀x∈arr.toList,cu x=true) (k:∀x∈vs,cu x=true):∀x∈(eD arr off vs).toList,cu x=true:=by
 intro x hx
 simp only[eD,List.toList_toArray,List.mem_append]at hx
 rcases hx with(hx|hx)|hx
 ·exact h x (List.mem_of_mem_take hx)
 ·exact k x hx
 ·exact h x (List.mem_of_mem_drop hx)
theorem EN (sz:Nat):∀(n:Nat) (l:List U),(chunks sz n l).length=n
 |0,_=>rfl
 |n+1,l=>by simp [chunks,EN sz n]
theorem ID {sz b:Nat}:∀(n off:Nat) (l:List U),l.length=n*sz→aX c b off l→bg c sz b off (chunks sz n l)
 |0,off,l,_,_=>by simp [chunks,bg]
 |n+1,off,l,hl,r=>by
  simp only[chunks,bg]
  rw[Nat.add_mul]at hl
  refine⟨by simp;omega,r.take sz,ID n (off+sz) _ (by simp;omega) (r.drop sz)⟩
theorem range_zero (z:List Value) (hz:0<z.length):∀n,((List.range (n*z.length)).map fun i=>(z.toArray)[i % z.toArray.size]!)=(List.replicate n z).flatten
 |0=>by simp
 |n+1=>by
  rw[Nat.add_mul,Nat.one_mul,List.range_add,List.map_append,range_zero z hz n,List.replicate_succ',List.flatten_append]
  congr 1
  simp only[List.map_map,List.flatten_cons,List.flatten_nil,List.append_nil]
  apply List.ext_getElem
  ·simp
  ·intro i h1 h2
   simp at h1
   simp only[List.getElem_map,List.getElem_range,Function.comp,List.size_toArray]
   rw[Nat.add_comm,Nat.add_mul_mod_self_right,Nat.mod_eq_of_lt h1]
   simp [h1]
theorem aC.flatten {zs:List U} {vs:List Value} (h:aC c zs vs):∀n,aC c (List.replicate n zs).flatten (List.replicate n vs).flatten
 |0=>by simp [aC]
 |n+1=>by simp only[List.replicate_succ,List.flatten_cons];exact h.append (aC.flatten h n)
end
section
variable {X : Fx} {z : Z} {s : AS} {a : Act} {w w' : World} {E : List Pl} {pb : Nat → Option Nat}
theorem Aa (h:St X z s a w E pb) {tag:Option (Nat×Bool)} (ht:mR a tag) {x:Operand} {b off:Nat} {cs:List U} (hp:place X s tag x=some (b,off)) (hb:A.lb (s.sl.getD b .undef)=some cs):
  ∃k,pb b=some k∧a.eval x=.pointer (some ⟨k,off,none⟩)∧uz (ctx z w E pb) k cs∧s.sl[b]? =some (.lbx cs):=by
 have oJ:s.sl[b]? =some (.lbx cs):=by
  by_cases hlt:b<s.sl.length
  ·have e:s.sl.getD b .undef=s.sl[b]:=by simp [List.getD,hlt]
   rw[e]at hb
   rw[List.getElem?_eq_getElem hlt]
   generalize s.sl[b]=y at *
   cases y<;>simp only[A.lb]at hb<;>first|(cases hb;done)|(injection hb with hb;subst hb;rfl)
  ·have e:s.sl.getD b .undef=.undef:=by simp [List.getD,Nat.le_of_not_lt hlt]
   rw[e]at hb;cases hb
 obtain⟨k,k1,k2,k3⟩:=h.slot b _ oJ
 refine⟨k,k1,?_,k3,oJ⟩
 cases x with
 |tmp t=>
  simp only[place]at hp
  cases hL:X.L.contains t
  ·rw[hL]at hp
   simp only[cond_false]at hp
   cases hA:s.A t with
   |none=>rw[hA]at hp;cases hp
   |some p=>
    rw[hA]at hp
    simp only at hp
    cases TE:X.L.contains p.slot
    ·rw[TE]at hp;cases hp
    rw[TE]at hp
    simp only[cond_true]at hp
    have key:p.slot=b∧p.off=off∧mR a p.tag:=by
     cases AU:p.tag with
     |none=>
      rw[AU]at hp
      simp only[Option.some.injEq,Prod.mk.injEq]at hp
      exact⟨hp.1,hp.2,trivial⟩
     |some g=>
      rw[AU]at hp
      simp only at hp
      cases hg:(tag==some g)
      ·rw[hg]at hp;cases hp
      ·rw[hg]at hp
       simp only[cond_true,Option.some.injEq,Prod.mk.injEq]at hp
       have:tag=some g:=by simpa using hg
       exact⟨hp.1,hp.2,this▸ht⟩
    obtain⟨e1,e2,e3⟩:=key
    obtain⟨k',j1,j2⟩:=h.jN t p hA e3
    rw[e1,k1]at j1
    injection j1 with j1;subst j1
    rw[e2]at j2
    exact j2
  ·rw[hL]at hp
   simp only[cond_true,Option.some.injEq,Prod.mk.injEq]at hp
   obtain⟨rfl,rfl⟩:=hp
   exact k2
 |_=>simp [place]at hp
theorem Ox {c:RC} {σ:Heap} (hh:fq c σ) {x:U} {cs:List U} {v:Value} (h:A.deref x σ=some cs) (r:ah c x v):∃b off,v=.pointer (some ⟨b,off,none⟩)∧aX c b off cs:=by
 cases x<;>simp only[A.deref]at h<;>first|(cases h;done)|skip
 case rp l=>
  injection h with h;subst h
  simp only[ah]at r
  obtain⟨b,off,e,_,_,r⟩:=r
  exact⟨b,off,e,r⟩
 case op id off=>
  simp only[ah]at r
  obtain⟨p,h1,h2,e⟩:=r
  split at h
  ·rename_i cs0 hs
   injection h with h;subst h
   obtain⟨_,h3⟩:=hh.blk id p _ h1 hs
   exact⟨_,_,e,by simpa using h3.2.drop off⟩
  ·cases h
 case oe id g i off=>
  simp only[ah]at r
  obtain⟨hg,p,h1,h2,q,e,r⟩:=r
  split at h
  ·rename_i g' sz es hs
   split at h
   ·rename_i LZ
    obtain⟨el,h3,h4⟩:=Option.map_eq_some_iff.1 h
    subst h4
    obtain⟨k1,k2,k3,k4,k5,k6,k7,_⟩:=hh.blk id p _ h1 hs
    have hq:=r (by rw[LZ,k1])
    subst hq
    refine⟨_,_,e,?_⟩
    rw[k3]
    exact(bg.nth k7 h3).2.drop off
   ·cases h
  ·cases h
theorem Fo {c:RC} {ρ:Operand→Value} (eC:∀x,ah c (ev X s x) (ρ x)) {pl:Nat→Option (Nat×TypeId)} {place:Nat→Option (Nat×Nat)} (hp:∀i off t,pl i=some (off,t)→place i=some (off,X.P.cellsOf t)):
  ∀(ps:List (Nat×Operand)) (cs cs':List U) (arr:Array Value),lH X s pl ps cs=some cs'→aC c cs arr.toList→(∀x∈arr.toList,cu x=true)→
   ∃qv,Instr.fill place arr (ps.map fun p=>(p.1,ρ p.2))=some qv∧aC c cs' qv.toList∧∀x∈qv.toList,cu x=true
 |[],cs,cs',arr,h,r,o=>by
  simp only[lH]at h;injection h with h;subst h
  exact⟨arr,by simp [Instr.fill],r,o⟩
 |(i,x)::ps,cs,cs',arr,h,r,o=>by
  simp only[lH]at h
  cases hpl:pl i with
  |none=>rw[hpl]at h;cases h
  |some ot=>
   obtain⟨off,t⟩:=ot
   rw[hpl]at h
   simp only at h
   obtain⟨new,h1,h2⟩:=Option.bind_eq_some_iff.1 h
   obtain⟨c2,h3,h4⟩:=Option.bind_eq_some_iff.1 h2
   obtain⟨r1,r2,r3,_⟩:=zR X h1 (eC x)
   obtain⟨r4,r5⟩:=r.eD h3 r1
   have r5':off+(ρ x).cells.size≤arr.size:=by simpa using r5
   obtain⟨qv,k1,k2,k3⟩:=Fo eC hp ps c2 cs' (eD arr off (ρ x).cells.toList) h4 r4 (Ap o r2)
   refine⟨qv,?_,k2,k3⟩
   simp only[List.map_cons,Instr.fill,hp i off t hpl]
   have hz:((ρ x).cells.size≠X.P.cellsOf t||decide (off+(ρ x).cells.size>arr.size))=false:=by simp [r3];omega
   have hf:(ρ x).cells.zipIdx.foldl (fun cs (p:Value×Nat)=>cs.setIfInBounds (off+p.2) p.1) arr=eD arr off (ρ x).cells.toList:=by
    have:=PD off (ρ x).cells.toList 0 arr (by simpa using r5')
    rw[←Array.foldl_toList]
    simpa using this
   simp only[hz]
   rw[←k1,←hf]
   rfl
end
end
section
open Go.RowKit
section
variable {c : RC} (w : World)
theorem Ww {P:Program} (fs:List Field) (body:Field→PUnit→Sem (ForInStep PUnit)) (h:∀f∈fs,(body f ⟨⟩).run P w=.ok (.yield ⟨⟩) w):(forIn fs PUnit.unit body:Sem PUnit).run P w=.ok ⟨⟩ w:=by
 induction fs with
 |nil=>simp
 |cons f fs ih=>
  simp only[List.forIn_cons,Sem.run_bind,h f (by simp),Result.andThen_ok]
  exact ih fun g hg=>h g (by simp [hg])
theorem Pv {P : Program} {d : Nat} : ∀ (fs : List Field) (off tot : Nat), tu (iw P d) P.cellsOf fs off = some tot → ∀ f ∈ fs, f.name ≠ "_" ∧ iw P d f.type = true ∧ f.offset + P.cellsOf f.type ≤ tot
 |[],off,tot,h,f,hf=>by simp at hf
 |g::fs,off,tot,h,f,hf=>by
  simp only[tu]at h
  cases hc : (g.name != "_" && g.offset == off && iw P d g.type)
  ·rw[hc]at h;cases h
  ·rw[hc]at h
   simp only[cond_true]at h
   simp only[Bool.and_eq_true,bne_iff_ne,beq_iff_eq]at hc
   obtain⟨⟨hn,ho⟩,hk⟩:=hc
   have hle:=Fm (fun t=>zX d t) fs _ _ h
   rcases List.mem_cons.1 hf with rfl|hf
   ·exact⟨hn,hk,by omega⟩
   ·exact Pv fs _ _ h f hf
theorem M9 {P:Program} {em:Bool}:∀(d D:Nat) (hD:d≤D) (t:TypeId) (vs:List Value),iw P d t=true→vs.length=P.cellsOf t→(Instr.checkKey em D t (kn P t vs)).run P w=.ok () w
 |0,_,_,t,vs,h,_=>by simp [iw]at h
 |d+1,0,hD,_,_,_,_=>by omega
 |d+1,D+1,hD,t,vs,h,l=>by
  unfold iw at h
  cases hd:P.underlying t with
  |none=>rw[hd]at h;cases h
  |some de=>
   rw[hd]at h
   cases de<;>simp only at h<;>first|(cases h;done)|skip
   case bool=>unfold Instr.checkKey;simp [run_underlying hd,kn,hd]
   case int=>unfold Instr.checkKey;simp [run_underlying hd,kn,hd]
   case string=>unfold Instr.checkKey;simp [run_underlying hd,kn,hd]
   case struct fs=>
    simp only[Bool.and_eq_true,Bool.not_eq_true',beq_iff_eq]at h
    have hm:=Pv fs.toList 0 _ h.2
    unfold Instr.checkKey
    simp only[Sem.run_bind,run_underlying hd,kn,hd,Result.andThen_ok]
    rw[←Array.forIn_toList,Ww w]
    ·first|done|simp
    ·intro f hf
     obtain⟨hn,hk,hle⟩:=hm f hf
     obtain⟨d',rfl⟩:∃d',d=d'+1:=by
      cases d with
      |zero=>simp [iw]at hk
      |succ d'=>exact⟨d',rfl⟩
     have r1:=HR w hk (vs:=vs.toArray) (off:=f.offset) (by simp;omega)
     have e1:=M9 (em:=em) (d'+1) D (by omega) f.type _ hk (show((vs.toArray.toList.drop f.offset).take (P.cellsOf f.type)).length=_ by simp;omega)
     simp [hn,r1,e1]
theorem EH (X:Fx) {kt:TypeId} {ek:A.EK} (ht:jE X kt=some ek) {k:U} {key:Value} (hk:A.gj ek k=true) (r:ah c k key) (em:Bool):(Instr.checkKey em 10000 kt key).run X.P w=.ok () w:=by
 unfold jE at ht
 cases hd:X.P.underlying kt with
 |none=>rw[hd]at ht;cases ht
 |some de=>
  rw[hd]at ht
  cases de<;>simp only at ht<;>first|(cases ht;done)|skip
  case bool=>show(Instr.checkKey em (9999+1) kt key).run X.P w=_;unfold Instr.checkKey;simp [run_underlying hd]
  case int=>show(Instr.checkKey em (9999+1) kt key).run X.P w=_;unfold Instr.checkKey;simp [run_underlying hd]
  case string=>show(Instr.checkKey em (9999+1) kt key).run X.P w=_;unfold Instr.checkKey;simp [run_underlying hd]
  case pointer el=>
   cases hc:(X.P.cellsOf el !=0)
   ·rw[hc]at ht;cases ht
   ·rw[hc]at ht;injection ht with ht;subst ht;cases k<;>simp [A.gj]at hk
  case struct fs=>
   cases hc:(iw X.P 9 kt&&!X.P.eqGuardType X.P.depth kt)
   ·rw[hc]at ht;cases ht
   ·rw[hc]at ht
    injection ht with ht;subst ht
    simp only[Bool.and_eq_true,Bool.not_eq_true']at hc
    cases k<;>simp only[A.gj]at hk<;>first|(cases hk;done)|skip
    rename_i xs
    simp only[ah]at r
    obtain⟨vs,rfl,r1,_⟩:=r
    have hl:vs.toList.length=X.P.cellsOf kt:=by rw[←r1.length,beq_iff_eq.1 hk,zX 9 kt hc.1]
    have:=M9 w (em:=em) 9 10000 (by decide) kt vs.toList hc.1 hl
    simpa [kn,hd]using this
def JB (c:RC) (es:List MapEntry):Option U→Option (Nat×Value)→Prop
 |none,none=>True
 |some av,some (i,v)=>ah c av v∧∃e,es[i]? =some e∧e.val=v
 |_,_=>False
theorem Nz (X:Fx) {kt:TypeId} {ek:A.EK} (ht:jE X kt=some ek) {k:U} {key:Value} (rk:ah c k key):∀(aW:List (U×U)) (es mA:List MapEntry) (i:Nat) (r:Option U),A.find ek k aW=some r→bQ c aW es→(∀j,es[j]? =mA[i+j]?)→
  ∃res,(Instr.findAsking kt key es i).run X.P w=.ok res w∧JB c mA r res∧A.n9 ek k aW i=some (res.map (·.1))
 |[],es,mA,i,r,h,re,he=>by
  simp only[A.find]at h;injection h with h;subst h
  simp only[bQ]at re;subst re
  exact⟨none,by simp [Instr.findAsking],trivial,rfl⟩
 |(k',v')::aW,es,mA,i,r,h,re,he=>by
  simp only[A.find]at h
  obtain⟨b,h1,h2⟩:=Option.bind_eq_some_iff.1 h
  obtain⟨e,es',rfl,r1,r2,r3⟩:=re
  have hq:=(JK w X ht h1 rk r1).1
  cases b
  ·simp only[cond_false]at h2
   obtain⟨res,k1,k2⟩:=Nz X ht rk aW es' mA (i+1) r h2 r3 (fun j=>by have:=he (j+1);simp at this;rw[show i+1+j=i+(j+1) by omega];exact this)
   exact⟨res,by simp [Instr.findAsking,hq,k1],k2.1,by simp [A.n9,h1,k2.2]⟩
  ·simp only[cond_true]at h2
   injection h2 with h2;subst h2
   have h0:=he 0
   simp at h0
   exact⟨some (i,e.val),by simp [Instr.findAsking,hq],⟨r2,e,h0.symm,rfl⟩,by simp [A.n9,h1]⟩
theorem PB (X:Fx) {kt:TypeId} {ek:A.EK} {d:TypeDesc} (hd:X.P.underlying kt=some d) (ht:jE X kt=some ek) (Bb:∀fs,d≠.struct fs) (hnp:∀e,d≠.pointer e) {k:U} {key:Value} (rk:ah c k key):
  ∀(aW:List (U×U)) (es mA:List MapEntry) (i:Nat) (r:Option U),A.find ek k aW=some r→bQ c aW es→(∀j,es[j]? =mA[i+j]?)→
  ∃res,Instr.findNow d key es i=some res∧JB c mA r res∧A.n9 ek k aW i=some (res.map (·.1))
 |[],es,mA,i,r,h,re,he=>by
  simp only[A.find]at h;injection h with h;subst h
  simp only[bQ]at re;subst re
  exact⟨none,by simp [Instr.findNow],trivial,rfl⟩
 |(k',v')::aW,es,mA,i,r,h,re,he=>by
  simp only[A.find]at h
  obtain⟨b,h1,h2⟩:=Option.bind_eq_some_iff.1 h
  obtain⟨e,es',rfl,r1,r2,r3⟩:=re
  have hsame:Instr.sameNow d key e.key=some b:=by
   unfold jE at ht
   rw[hd]at ht
   cases d<;>simp only at ht<;>first|(cases ht;done)|exact absurd rfl (Bb _)|exact absurd rfl (hnp _)|skip
   case bool=>
    injection ht with ht;subst ht
    simp only[A.dG,A.uY]at h1
    split at h1
    ·simp only[ah]at rk r1;injection h1 with h1;rw[rk,r1];simp [Instr.sameNow,h1]
    ·cases h1
   case int=>
    injection ht with ht;subst ht
    simp only[A.dG,A.mz]at h1
    split at h1
    ·split at h1
     ·simp only[ah]at rk r1;injection h1 with h1;rw[rk,r1];simp [Instr.sameNow,h1];assumption
     ·cases h1
    ·cases h1
   case string=>
    injection ht with ht;subst ht
    simp only[A.dG,A.pU]at h1
    split at h1
    ·simp only[ah]at rk r1;injection h1 with h1;rw[rk,r1];simp [Instr.sameNow,h1]
    ·cases h1
  cases b
  ·simp only[cond_false]at h2
   obtain⟨res,k1,k2⟩:=PB X hd ht Bb hnp rk aW es' mA (i+1) r h2 r3 (fun j=>by have:=he (j+1);simp at this;rw[show i+1+j=i+(j+1) by omega];exact this)
   exact⟨res,by simp [Instr.findNow,hsame,k1],k2.1,by simp [A.n9,h1,k2.2]⟩
  ·simp only[cond_true]at h2
   injection h2 with h2;subst h2
   have h0:=he 0
   simp at h0
   exact⟨some (i,e.val),by simp [Instr.findNow,hsame],⟨r2,e,h0.symm,rfl⟩,by simp [A.n9,h1]⟩
theorem Ji (X:Fx) {kt:TypeId} {ek:A.EK} (ht:jE X kt=some ek) {k:U} {key:Value} (hk:A.gj ek k=true) (rk:ah c k key) {aW:List (U×U)} {es:List MapEntry} {r:Option U} (h:A.find ek k aW=some r) (re:bQ c aW es):
  ∃res,(Instr.findKey kt key es).run X.P w=.ok res w∧JB c es r res∧A.n9 ek k aW 0=some (res.map (·.1)):=by
 cases hd:X.P.underlying kt with
 |none=>unfold jE at ht;rw[hd]at ht;cases ht
 |some d=>
  by_cases hs:∃fs,d=.struct fs
  ·obtain⟨fs,rfl⟩:=hs
   cases es with
   |nil=>
    cases aW with
    |nil=>simp only[A.find]at h;injection h with h;subst h;exact⟨none,by simp [Instr.findKey,run_underlying hd,Instr.findNow],trivial,rfl⟩
    |cons p aW=>obtain⟨k',v'⟩:=p;simp [bQ]at re
   |cons e es'=>
    obtain⟨res,k1,k2⟩:=Nz w X ht rk aW (e::es') (e::es') 0 r h re (fun j=>by simp)
    refine⟨res,?_,k2⟩
    have:Instr.findNow (.struct fs) key (e::es') 0=none:=by simp [Instr.findNow,Instr.sameNow]
    simp [Instr.findKey,run_underlying hd,this,k1]
  ·have hp:∀e,d≠.pointer e:=by
    rintro e rfl
    unfold jE at ht
    rw[hd]at ht
    simp only at ht
    cases hc:(X.P.cellsOf e !=0)
    ·rw[hc]at ht;cases ht
    ·rw[hc]at ht;injection ht with ht;subst ht;cases k<;>simp [A.gj]at hk
   obtain⟨res,k1,k2⟩:=PB X hd ht (fun fs e=>hs ⟨fs,e⟩) hp rk aW es es 0 r h re (fun j=>by simp)
   exact⟨res,by simp [Instr.findKey,run_underlying hd,k1],k2⟩
theorem bQ.length {c:RC}:∀{l:List (U×U)} {es:List MapEntry},bQ c l es→l.length=es.length
 |[],es,h=>by simp only[bQ]at h;subst h;rfl
 |(k,v)::l,es,h=>by obtain⟨e,es',rfl,_,_,h⟩:=h;simp [bQ.length h]
theorem Nx {P:Program} (hw:c.w=w) {σ:Heap} (hh:fq c σ) {m:U} {v:Value} {aW:List (U×U)} (h:A.entries m σ=some aW) (r:ah c m v):
  ∃es:Array MapEntry,bQ c aW es.toList∧((v=.map none∧es=#[])∨∃b clock,v=.map (some b)∧(getObj b).run P w=.ok (.map es clock) w):=by
 cases m<;>simp only[A.entries]at h<;>first|(cases h;done)|skip
 case nm=>
  injection h with h;subst h
  simp only[ah]at r
  exact⟨#[],by simp [bQ],.inl ⟨r,rfl⟩⟩
 case fm mA=>
  injection h with h;subst h
  simp only[ah]at r
  obtain⟨b,e,_,_,es,clock,k1,_,k2⟩:=r
  rw[hw]at k1
  exact⟨es,k2,.inr ⟨b,clock,e,by simp [getObj,Sem.run,k1]⟩⟩
 case om id=>
  simp only[ah]at r
  obtain⟨p,h1,h2,e⟩:=r
  split at h
  ·rename_i mA hs
   injection h with h;subst h
   obtain⟨_,es,clock,k1,_,k2⟩:=hh.blk id p _ h1 hs
   rw[hw]at k1
   exact⟨es,k2,.inr ⟨p.b,clock,e,by simp [getObj,Sem.run,k1]⟩⟩
  ·cases h
theorem Zk (X:Fx) (hw:c.w=w) {σ:Heap} (hh:fq c σ) {t kt et:TypeId} {inf:TypeInfo} {zv:Value} {ek:A.EK} {ok:Bool} {m k av:U} {mv key:Value} (ht:X.P.underlying t=some (.map kt et)) (hi:X.P.info? et=some inf) (hz:inf.zero=some zv) (he:jE X kt=some ek)
  (h:(bif ok then A.Az ek m k (qt zv) σ else A.look ek m k (qt zv) σ)=some av) (rm:ah c m mv) (rk:ah c k key):∃v,(Instr.lookup t mv key ok).run X.P w=.ok v w∧ah c av v:=by
 have adz:∃aW r,A.gj ek k=true∧A.entries m σ=some aW∧A.find ek k aW=some r∧av=(bif ok then .aA [r.getD (qt zv),.bool r.isSome]else r.getD (qt zv)):=by
  cases ok<;>simp only[cond_true,cond_false,A.look,A.Az]at h
  all_goals
   cases hk:A.gj ek k
   ·rw[hk]at h;cases h
   ·rw[hk]at h
    simp only[cond_true]at h
    obtain⟨aW,h1,h2⟩:=Option.bind_eq_some_iff.1 h
    obtain⟨r,h3,h4⟩:=Option.map_eq_some_iff.1 h2
    exact⟨aW,r,rfl,h1,h3,h4.symm⟩
 obtain⟨aW,r,hk,h1,h2,rfl⟩:=adz
 obtain⟨es,k1,k2⟩:=Nx (P:=X.P) w hw hh h1 rm
 obtain⟨res,k3,k4,_⟩:=Ji w X he hk rk h2 k1
 have nv:(zeroValue et).run X.P w=.ok zv w:=by simp [zeroValue,qi w hi,hz]
 have xh:=EH w X he hk rk es.isEmpty
 have main:∀v b,(res=none→v=zv∧b=false)→(∀i u,res=some (i,u)→v=u∧b=true)→(Instr.lookup t mv key ok).run X.P w=.ok (if ok then .tuple #[v,.bool b]else v) w:=by
  intro v b hn hs
  unfold Instr.lookup
  simp only[Sem.run_bind,run_underlying ht,Result.andThen_ok]
  rcases k2 with⟨rfl,rfl⟩|⟨bb,clock,rfl,hg⟩
  ·simp only[Sem.run_pure,Result.andThen_ok,xh,Sem.run_bind,k3]
   cases res with
   |none=>obtain⟨rfl,rfl⟩:=hn rfl;simp [nv]
   |some p=>obtain⟨i,u⟩:=p;obtain⟨rfl,rfl⟩:=hs i u rfl;simp
  ·simp only[Sem.run_bind,hg,Sem.run_pure,Result.andThen_ok,xh,k3]
   cases res with
   |none=>obtain⟨rfl,rfl⟩:=hn rfl;simp [nv]
   |some p=>obtain⟨i,u⟩:=p;obtain⟨rfl,rfl⟩:=hs i u rfl;simp
 have fin:∀v b,ah c (r.getD (qt zv)) v→r.isSome=b→ah c (bif ok then .aA [r.getD (qt zv),.bool r.isSome]else r.getD (qt zv)) (if ok then .tuple #[v,.bool b]else v):=by
  intro v b h1 h2
  cases ok
  ·simpa using h1
  ·simp only[cond_true,if_true,ah]
   refine⟨_,rfl,?_⟩
   simp only[aC]
   exact⟨v,_,rfl,h1,_,_,rfl,by simp [ah,h2],rfl⟩
 cases res with
 |none=>
  cases r with
  |none=>exact⟨_,main zv false (fun _=>⟨rfl,rfl⟩) (fun i u e=>by cases e),fin zv false (OK c zv) rfl⟩
  |some x=>exact k4.elim
 |some p=>
  obtain⟨i,u⟩:=p
  cases r with
  |none=>exact k4.elim
  |some x=>exact⟨_,main u true (fun e=>by cases e) (fun i' u' e=>by injection e with e;injection e with _ e;exact⟨e,rfl⟩),fin u true k4.1 rfl⟩
theorem find_born {f:MapEntry→Nat}:∀{l:List MapEntry} {e:MapEntry},(l.map f).Nodup→e∈l→l.find? (fun x=>f x==f e)=some e
 |[],e,_,h=>by simp at h
 |x::l,e,hn,h=>by
  simp only[List.map_cons,List.nodup_cons]at hn
  rcases List.mem_cons.1 h with rfl|h
  ·simp
  ·have hne:f x≠f e:=fun k=>hn.1 (List.mem_map.2 ⟨e,h,k.symm⟩)
   have:(f x==f e)=false:=by simpa using hne
   rw[List.find?_cons,this]
   exact find_born hn.2 h
theorem X1 {P:Program} (hw:c.w=w) {σ:Heap} (hh:fq c σ) {i av:U} {v:Value} (hk:A.J5 i σ=some av) (ri:ah c i v):∃v',(Instr.entry v).run P w=.ok v' w∧ah c av v':=by
 subst hw
 unfold A.J5 at hk
 split at hk
 ·rename_i id
  simp only[ah]at ri
  obtain⟨p,e1,e2,rfl⟩:=ri
  split at hk
  ·rename_i q left hs
   injection hk with hk
   subst hk
   obtain⟨hg,hit⟩:=hh.blk id p _ e1 hs
   rcases hit with⟨hn,_⟩|⟨m,seen,aW,clock,h3,h4,h5,h6,h7,h8,h9⟩
   ·cases hn
   ·rcases h9 with h9|⟨k',v',e,e3,e4,e5,e6,e7⟩
    ·cases h9
    ·injection e3 with e3
     subst e3
     have jd:(getObj p.b).run P c.w=.ok (.mapIter (some m) clock seen clock) c.w:=by simp [getObj,Sem.run,show c.w.heap[p.b]? =_ from h3]
     have yq:(getObj m).run P c.w=.ok (.map aW clock) c.w:=by simp [getObj,Sem.run,show c.w.heap[m]? =_ from h6]
     have hf:aW.find? (fun x=>x.born==e.born)=some e:=by
      rw[←Array.find?_toList];exact find_born (f:=(·.born)) h7.2 e5
     refine⟨.tuple #[e.key,e.val],by simp [Instr.entry,jd,yq,e4,hf],?_⟩
     simp only[ah]
     exact⟨_,rfl,by simp only[aC];exact⟨_,_,rfl,e6,_,_,rfl,e7,rfl⟩⟩
  ·cases hk
 ·cases hk
end
end
section
open Go.RowKit
section
variable {X : Fx} {z : Z} {s : AS} {a : Act} {w w' : World} {E : List Pl} {pb : Nat → Option Nat}
def Yields (X:Fx) (z:Z) (a:Act) (w:World) (E:List Pl) (pb:Nat→Option Nat) (o:Oper) (av:U):Prop:=
 ∃v w',(execOp a.eval o).run X.P w=.ok (.value v) w'∧Below w.heap.size w w'∧ah (ctx z w' E pb) av v
theorem Yields.same {o:Oper} {av:U} {v:Value} (h:(execOp a.eval o).run X.P w=.ok (.value v) w) (r:ah (ctx z w E pb) av v):Yields X z a w E pb o av:=⟨v,w,h,Below.refl _ _,r⟩
theorem ES (h:St X z s a w E pb) (t:TypeId) {cs:List U} {arr:Array Value} (r:aC (ctx z w E pb) cs arr.toList) (ho:∀x∈arr.toList,cu x=true):
  Below w.heap.size w (w.alloc (.cells arr t))∧w.heap.size<(w.alloc (.cells arr t)).heap.size∧¬(ctx z (w.alloc (.cells arr t)) E pb).X w.heap.size∧aX (ctx z (w.alloc (.cells arr t)) E pb) w.heap.size 0 cs:=by
 have g:Below w.heap.size w (w.alloc (.cells arr t)):=(Below.refl _ _).alloc (Nat.le_refl _) _
 have hx:Ext (ctx z w E pb) (ctx z (w.alloc (.cells arr t)) E pb):=sN g
 have hb:(w.alloc (.cells arr t)).heap[w.heap.size]? =some (.cells arr t (0,0)):=(MapKept.heap_alloc w _).1
 exact⟨g,by simp,h.fresh,aX.tP hb (aC.mono hx _ _ r) ho (fun i hi=>by simp)⟩
theorem sK {P:Program} (t:TypeId) (arr:Array Value):(newRow t arr).run P w=.ok ⟨w.heap.size,0,none⟩ (w.alloc (.cells arr t)):=by
 rfl
theorem sM {t:TypeId} {zs:List U} (h:pH X t=some zs) (c:RC):∃i v,X.P.info? t=some i∧i.zero=some v∧(zeroValue t).run X.P w=.ok v w∧zs=v.cells.toList.map vX∧aC c zs v.cells.toList∧∀x∈v.cells.toList,cu x=true:=by
 unfold pH at h
 split at h
 ·rename_i i hi
  split at h
  ·rename_i v hv
   cases ho:v.cells.toList.all cu
   ·rw[ho]at h;cases h
   ·rw[ho]at h
    simp only[cond_true]at h
    injection h with h
    refine⟨i,v,hi,hv,by simp [zeroValue,qi w hi,hv],h.symm,?_,List.all_eq_true.1 ho⟩
    rw[←h]
    have:=aC.map (c:=c) vX id v.cells.toList (fun x _=>IK c x)
    simpa using this
  ·cases h
 ·cases h
theorem lJ.map (h:St X z s a w E pb) (x:Option Operand):lJ (ctx z w E pb) (x.map (ev X s)) (x.map a.eval):=by
 cases x with
 |none=>trivial
 |some x=>exact cO h x
theorem VV (h:St X z s a w E pb) {dst:Option Tmp} {t ty:TypeId} {pos:String} {af:Array Edge} {g:Option (Nat×Bool)} {cs:List U} (hz:pH X t=some cs):
  Yields X z a w E pb ⟨dst,.alloc t,ty,pos,af,g⟩ (.rp cs):=by
 obtain⟨i,v,h1,h2,h3,h4,h5,h6⟩:=sM (w:=w) hz (ctx z w E pb)
 obtain⟨k1,k2,k3,k4⟩:=ES h t h5 h6
 refine⟨.pointer (some ⟨w.heap.size,0,none⟩),_,?_,k1,by simp only[ah];exact⟨_,_,rfl,k2,k3,k4⟩⟩
 simp [execOp,Instr.alloc,h3,newVar,sK]
theorem WX (h:St X z s a w E pb) {dst:Option Tmp} {t ty:TypeId} {x:Operand} {pos:String} {af:Array Edge} {g:Option (Nat×Bool)} {cs:List U} (hc:sV X t (ev X s x)=some cs):
  Yields X z a w E pb ⟨dst,.box t x,ty,pos,af,g⟩ (.rp cs):=by
 obtain⟨h5,h6,_,_⟩:=zR X hc (cO h x)
 obtain⟨k1,k2,k3,k4⟩:=ES h t h5 h6
 refine⟨.pointer (some ⟨w.heap.size,0,none⟩),_,?_,k1,by simp only[ah];exact⟨_,_,rfl,k2,k3,k4⟩⟩
 simp [execOp,Instr.box,newVar,sK]
theorem Ex {t:TypeId} {f off:Nat} {ft:TypeId} (h:vM X t f=some (off,ft)):∃fs fl,X.P.underlying t=some (.struct fs)∧fs[f]? =some fl∧fl.offset=off∧fl.type=ft:=by
 unfold vM at h
 split at h
 ·rename_i fs hd
  split at h
  ·rename_i fl hf
   simp only[Option.some.injEq,Prod.mk.injEq]at h
   exact⟨fs,fl,hd,hf,h.1,h.2⟩
  ·cases h
 ·cases h
theorem NG {P:Program}:∀(fs:List Field),fs.all (fun f=>(P.info? f.type).isSome)=true→(fs.mapM (fun f=>do pure (f.offset,←sizeOf f.type)):Sem (List (Nat×Nat))).run P w=.ok (fs.map fun f=>(f.offset,P.cellsOf f.type)) w
 |[],_=>by simp
 |f::fs,h=>by
  simp only[List.all_cons,Bool.and_eq_true]at h
  obtain⟨i,hi⟩:=Option.isSome_iff_exists.1 h.1
  have ih:=NG fs h.2
  simp only[List.mapM_cons,Sem.run_bind,BF w hi,Result.andThen_ok,Sem.run_pure,ih,List.map_cons]
theorem VW (h:St X z s a w E pb) {dst:Option Tmp} {t ty:TypeId} {ps:Array (Nat×Operand)} {pos:String} {af:Array Edge} {g:Option (Nat×Bool)} {zs cs:List U} {fs:Array Field} (hz:pH X t=some zs) (hd:X.P.underlying t=some (.struct fs))
  (hi:fs.toList.all (fun f=>(X.P.info? f.type).isSome)=true) (hf:lH X s (vM X t) ps.toList zs=some cs):Yields X z a w E pb ⟨dst,.build t ps,ty,pos,af,g⟩ (.agg cs):=by
 obtain⟨i,v,h1,h2,h3,h4,h5,h6⟩:=sM (w:=w) hz (ctx z w E pb)
 have hpl:=NG (w:=w) fs.toList hi
 obtain⟨arr,k1,k2,k3⟩:=Fo (c:=ctx z w E pb) (ρ:=a.eval) (fun x=>cO h x) (pl:=vM X t) (place:=fun j=>((fs.toList.map fun f=>(f.offset,X.P.cellsOf f.type)).toArray)[j]?) (fun j off t' hj=>by
   obtain⟨fs',fl,e1,e2,e3,e4⟩:=Ex hj
   rw[hd]at e1;injection e1 with e1;injection e1 with e1;subst e1
   simp [e2,e3,e4]) ps.toList _ cs v.cells hf h5 h6
 refine Yields.same (v:=.agg arr) ?_ (by simp only[ah];exact⟨arr,rfl,k2,k3⟩)
 have hps:(ps.map fun(p:Nat×Operand)=>(p.1,a.eval p.2)).toList=ps.toList.map fun p=>(p.1,a.eval p.2):=by simp
 simp only[execOp,Instr.build,Sem.run_bind,run_underlying hd,Result.andThen_ok,h3,Array.mapM_eq_mapM_toList,Sem.run_map,hpl,hps]
 rw[k1]
 simp
theorem Va (h:St X z s a w E pb) {dst:Option Tmp} {t e ty:TypeId} {len:Nat} {ps:Array (Nat×Operand)} {pos:String} {af:Array Edge} {g:Option (Nat×Bool)} {zs cs:List U} {i:TypeInfo} {av:U}
  (hd:X.P.underlying t=some (.slice e)) (hi:X.P.info? e=some i) (hz:pH X e=some zs) (h0:i.size≠0) (hl:zs.length=i.size) (hm:¬16777216<len*i.size) (yX:(len=0∧av=.ez)∨av=.sl i.size (chunks i.size len cs))
  (hf:lH X s (fun j=>some (j*i.size,e)) ps.toList (List.replicate len zs).flatten=some cs):Yields X z a w E pb ⟨dst,.buildSlice t len ps,ty,pos,af,g⟩ av:=by
 obtain⟨i',v,h1,h2,h3,h4,h5,h6⟩:=sM (w:=w) hz (ctx z w E pb)
 rw[hi]at h1;injection h1 with h1;subst h1
 have hvl:v.cells.toList.length=i.size:=by rw[←h5.length];exact hl
 have hce:X.P.cellsOf e=i.size:=by simp [Program.cellsOf,hi]
 have hsz:(sizeOf e).run X.P w=.ok i.size w:=by rw[←hce];exact BF w hi
 obtain⟨zr,nv,CM⟩:∃zr:Array Value,((len*i.size=0∧zr=#[])∨(¬len*i.size=0∧zr=v.cells))∧((Array.range (len*i.size)).map (zr[· % zr.size]!)).toList=(List.replicate len v.cells.toList).flatten:=by
  by_cases dH:len*i.size=0
  ·have:len=0:=(Nat.mul_eq_zero.1 dH).resolve_right h0
   subst this
   exact⟨#[],.inl ⟨dH,rfl⟩,by simp⟩
  ·refine⟨v.cells,.inr ⟨dH,rfl⟩,?_⟩
   have:=range_zero v.cells.toList (by omega) len
   rw[hvl]at this
   rw[←this]
   simp
 obtain⟨arr,k1,k2,k3⟩:=Fo (c:=ctx z w E pb) (ρ:=a.eval) (fun x=>cO h x) (pl:=fun j=>some (j*i.size,e)) (place:=fun j=>some (j*i.size,i.size)) (fun j off t' hj=>by simp only[Option.some.injEq,Prod.mk.injEq]at hj;obtain⟨rfl,rfl⟩:=hj;rw[hce]) ps.toList _ cs
  ((Array.range (len*i.size)).map (zr[· % zr.size]!)) hf (by rw[CM];exact h5.flatten len) (by
   rw[CM]
   intro x hx
   obtain⟨l,lS,rZ⟩:=List.mem_flatten.1 hx
   rw[List.mem_replicate]at lS
   exact h6 x (lS.2▸rZ))
 obtain⟨j1,j2,j3,j4⟩:=ES h e k2 k3
 have gd:cs.length=len*i.size:=by
  have hlen:∀(ps:List (Nat×Operand)) (cs cs':List U),lH X s (fun j=>some (j*i.size,e)) ps cs=some cs'→cs'.length=cs.length:=by
   intro ps
   induction ps with
   |nil=>intro cs cs' e;simp only[lH]at e;injection e with e;rw[e]
   |cons p ps ih=>
    intro cs cs' e
    obtain⟨q,x⟩:=p
    simp only[lH]at e
    obtain⟨new,e1,e2⟩:=Option.bind_eq_some_iff.1 e
    obtain⟨c2,e3,e4⟩:=Option.bind_eq_some_iff.1 e2
    rw[ih _ _ e4]
    unfold A.splice at e3
    split at e3
    ·injection e3 with e3;subst e3;simp;omega
    ·cases e3
  rw[hlen _ _ _ hf]
  simp [List.length_flatten,hl]
 refine⟨.slice (some ⟨w.heap.size,0,none⟩) len len,_,?_,j1,?_⟩
 ·have hps:(ps.map fun(p:Nat×Operand)=>(p.1,a.eval p.2)).toList=ps.toList.map fun p=>(p.1,a.eval p.2):=by simp
  have hm':¬len*i.size>2 ^ 24:=hm
  rcases nv with⟨e1,e2⟩|⟨e1,e2⟩
  ·simp only[execOp,Instr.buildSlice,Sem.run_bind,run_underlying hd,Result.andThen_ok,hsz,if_neg hm',if_pos e1,Sem.run_pure,hps]
   rw[←e2,k1]
   simp [sK]
  ·simp only[execOp,Instr.buildSlice,Sem.run_bind,run_underlying hd,Result.andThen_ok,hsz,if_neg hm',if_neg e1,h3,Sem.run_pure,hps]
   rw[←e2,k1]
   simp [sK]
 ·rcases yX with⟨rfl,rfl⟩|rfl
  ·simp [ah]
  simp only[ah]
  refine⟨_,_,by rw[EN],by rw[EN];exact Nat.le_refl _,by omega,?_⟩
  by_cases hl0:len=0
  ·left;subst hl0;rfl
  ·right;exact⟨_,_,rfl,j2,j3,ID len 0 cs gd j4⟩
theorem Vw (h:St X z s a w E pb) {dst:Option Tmp} {t e ty:TypeId} {len:Nat} {ps:Array (Nat×Operand)} {pos:String} {af:Array Edge} {g:Option (Nat×Bool)} {zs cs:List U} {i:TypeInfo}
  (hd:X.P.underlying t=some (.slice e)) (hi:X.P.info? e=some i) (hz:pH X e=some zs) (h0:i.size≠0) (hl:zs.length=i.size) (hm:¬16777216<len*i.size)
  (hf:lH X s (fun j=>some (j*i.size,e)) ps.toList (List.replicate len zs).flatten=some cs):∃arr:Array Value,(execOp a.eval ⟨dst,.buildSlice t len ps,ty,pos,af,g⟩).run X.P w=.ok (.value (.slice (some ⟨w.heap.size,0,none⟩) len len)) (w.alloc (.cells arr e))∧arr.size=len*i.size∧aC (ctx z w E pb) cs arr.toList∧(∀x∈arr.toList,cu x=true)∧cs.length=len*i.size:=by
 obtain⟨i',v,h1,h2,h3,h4,h5,h6⟩:=sM (w:=w) hz (ctx z w E pb)
 rw[hi]at h1;injection h1 with h1;subst h1
 have hvl:v.cells.toList.length=i.size:=by rw[←h5.length];exact hl
 have hce:X.P.cellsOf e=i.size:=by simp [Program.cellsOf,hi]
 have hsz:(sizeOf e).run X.P w=.ok i.size w:=by rw[←hce];exact BF w hi
 obtain⟨zr,nv,CM⟩:∃zr:Array Value,((len*i.size=0∧zr=#[])∨(¬len*i.size=0∧zr=v.cells))∧((Array.range (len*i.size)).map (zr[· % zr.size]!)).toList=(List.replicate len v.cells.toList).flatten:=by
  by_cases dH:len*i.size=0
  ·have:len=0:=(Nat.mul_eq_zero.1 dH).resolve_right h0
   subst this
   exact⟨#[],.inl ⟨dH,rfl⟩,by simp⟩
  ·refine⟨v.cells,.inr ⟨dH,rfl⟩,?_⟩
   have:=range_zero v.cells.toList (by omega) len
   rw[hvl]at this
   rw[←this]
   simp
 obtain⟨arr,k1,k2,k3⟩:=Fo (c:=ctx z w E pb) (ρ:=a.eval) (fun x=>cO h x) (pl:=fun j=>some (j*i.size,e)) (place:=fun j=>some (j*i.size,i.size)) (fun j off t' hj=>by simp only[Option.some.injEq,Prod.mk.injEq]at hj;obtain⟨rfl,rfl⟩:=hj;rw[hce]) ps.toList _ cs
  ((Array.range (len*i.size)).map (zr[· % zr.size]!)) hf (by rw[CM];exact h5.flatten len) (by
   rw[CM]
   intro x hx
   obtain⟨l,lS,rZ⟩:=List.mem_flatten.1 hx
   rw[List.mem_replicate]at lS
   exact h6 x (lS.2▸rZ))
 obtain⟨j1,j2,j3,j4⟩:=ES h e k2 k3
 have gd:cs.length=len*i.size:=by
  have hlen:∀(ps:List (Nat×Operand)) (cs cs':List U),lH X s (fun j=>some (j*i.size,e)) ps cs=some cs'→cs'.length=cs.length:=by
   intro ps
   induction ps with
   |nil=>intro cs cs' e;simp only[lH]at e;injection e with e;rw[e]
   |cons p ps ih=>
    intro cs cs' e
    obtain⟨q,x⟩:=p
    simp only[lH]at e
    obtain⟨new,e1,e2⟩:=Option.bind_eq_some_iff.1 e
    obtain⟨c2,e3,e4⟩:=Option.bind_eq_some_iff.1 e2
    rw[ih _ _ e4]
    unfold A.splice at e3
    split at e3
    ·injection e3 with e3;subst e3;simp;omega
    ·cases e3
  rw[hlen _ _ _ hf]
  simp [List.length_flatten,hl]
 refine⟨arr,?_,by have:=k2.length;rw[gd]at this;simpa using this.symm,k2,k3,gd⟩
 ·have hps:(ps.map fun(p:Nat×Operand)=>(p.1,a.eval p.2)).toList=ps.toList.map fun p=>(p.1,a.eval p.2):=by simp
  have hm':¬len*i.size>2 ^ 24:=hm
  rcases nv with⟨e1,e2⟩|⟨e1,e2⟩
  ·simp only[execOp,Instr.buildSlice,Sem.run_bind,run_underlying hd,Result.andThen_ok,hsz,if_neg hm',if_pos e1,Sem.run_pure,hps]
   rw[←e2,k1]
   simp [sK]
  ·simp only[execOp,Instr.buildSlice,Sem.run_bind,run_underlying hd,Result.andThen_ok,hsz,if_neg hm',if_neg e1,h3,Sem.run_pure,hps]
   rw[←e2,k1]
   simp [sK]
theorem Vv (h:St X z s a w E pb) {d t n:Nat} {ps:Array (Nat×Operand)} {ty:TypeId} {pos:String} {af:Array Edge} {g:Option (Nat×Bool)} {sz:Nat} {es:List (List U)}
  (hv:ew X ⟨some d,.buildSlice t n ps,ty,pos,af,g⟩ s none=some (.sl sz es)):∃(arr:Array Value) (et:TypeId),(execOp a.eval ⟨some d,.buildSlice t n ps,ty,pos,af,g⟩).run X.P w=.ok (.value (.slice (some ⟨w.heap.size,0,none⟩) es.length es.length)) (w.alloc (.cells arr et))∧
   arr.size=es.length*sz∧0<sz∧(∀c',c'.w.heap[w.heap.size]? =some (.cells arr et (0,0))→Ext (ctx z w E pb) c'→bg c' sz w.heap.size 0 es)∧∀x∈arr.toList,cu x=true:=by
 simp only[ew]at hv
 split at hv
 ·rename_i e hd
  split at hv
  ·rename_i i zs hi hz
   cases h0:(i.size==0||zs.length !=i.size)
   ·rw[h0]at hv
    simp only[cond_false]at hv
    simp only[Bool.or_eq_false_iff,beq_eq_false_iff_ne,bne_eq_false_iff_eq]at h0
    cases hm:Nat.blt 16777216 (n*i.size)
    ·rw[hm]at hv
     simp only[cond_false]at hv
     obtain⟨cs,h1,h2⟩:=Option.bind_eq_some_iff.1 hv
     cases hn:(n==0)
     ·rw[hn]at h2
      simp only[cond_false,Option.some.injEq,U.sl.injEq]at h2
      obtain⟨rfl,rfl⟩:=h2
      obtain⟨arr,k1,k2,k3,k4,k5⟩:=Vw (dst:=some d) (ty:=ty) (pos:=pos) (af:=af) (g:=g) h hd hi hz h0.1 h0.2 (fun k=>by rw[show Nat.blt 16777216 (n*i.size)=true from by simpa [Nat.blt_eq]using k]at hm;cases hm) h1
      rw[EN]
      exact⟨arr,e,k1,k2,Nat.pos_of_ne_zero h0.1,fun c' hb hx=>ID n 0 cs k5 (aX.tP hb (aC.mono hx _ _ k3) k4 (fun j hj=>by simp)),k4⟩
     ·rw[hn]at h2;cases h2
    ·rw[hm]at hv;cases hv
   ·rw[h0]at hv;cases hv
  ·cases hv
 ·cases hv
theorem aaO (h:St X z s a w E pb) {tag:Option (Nat×Bool)} (ht:mR a tag) {o:Oper} {av:U} (hv:ew X o s tag=some av) (hc:∀c,o.op=.call c→∃b,c.callee=.builtin b):Yields X z a w E pb o av:=by
 obtain⟨dst,op,ty,pos,af,g⟩:=o
 cases op<;>simp only[ew]at hv<;>first|(cases hv;done)|skip
 case move x=>injection hv with hv;subst hv;exact Yields.same (by simp [execOp]) (cO h x)
 case assign x=>injection hv with hv;subst hv;exact Yields.same (by simp [execOp]) (cO h x)
 case pick x y u=>
  have r:=cO h x
  generalize ev X s x=vx at *
  cases vx<;>simp only[A.pick]at hv<;>first|(cases hv;done)|skip
  rename_i b
  injection hv with hv
  simp only[ah]at r
  cases b
  ·simp only[cond_false]at hv;subst hv
   exact Yields.same (v:=a.eval u) (by simp [execOp,r,asBool]) (cO h u)
  ·simp only[cond_true]at hv;subst hv
   exact Yields.same (v:=a.eval y) (by simp [execOp,r,asBool]) (cO h y)
 case alloc t=>
  split at hv
  ·injection hv with hv;subst hv;exact VV h (by assumption)
  ·cases hv
 case box t x=>
  obtain⟨cs,h1,h2⟩:=Option.bind_eq_some_iff.1 hv
  injection h2 with h2;subst h2
  exact WX h h1
 case build t ps=>
  split at hv
  ·rename_i zs fs hz hd
   cases hi:fs.toList.all (fun f=>(X.P.info? f.type).isSome)
   ·rw[hi]at hv;cases hv
   ·rw[hi]at hv
    simp only[cond_true]at hv
    obtain⟨cs,h1,h2⟩:=Option.bind_eq_some_iff.1 hv
    injection h2 with h2;subst h2
    exact VW h hz hd hi h1
  ·cases hv
 case buildSlice t len ps=>
  split at hv
  ·rename_i e hd
   split at hv
   ·rename_i i zs hi hz
    cases h0:(i.size==0||zs.length !=i.size)
    ·rw[h0]at hv
     simp only[cond_false]at hv
     simp only[Bool.or_eq_false_iff,beq_eq_false_iff_ne,bne_eq_false_iff_eq]at h0
     cases hm:Nat.blt 16777216 (len*i.size)
     ·rw[hm]at hv
      simp only[cond_false]at hv
      obtain⟨cs,h1,h2⟩:=Option.bind_eq_some_iff.1 hv
      injection h2 with h2;subst h2
      refine Va h hd hi hz h0.1 h0.2 (fun k=>by rw[show Nat.blt 16777216 (len*i.size)=true from by simpa [Nat.blt_eq]using k]at hm;cases hm) ?_ h1
      by_cases hl:len=0
      ·subst hl;exact .inl ⟨rfl,rfl⟩
      ·exact .inr (by rw[show(len==0)=false by simpa using hl];rfl)
     ·rw[hm]at hv;cases hv
    ·rw[h0]at hv;cases hv
   ·cases hv
  ·cases hv
 case load t x=>
  split at hv
  ·rename_i b off hp
   obtain⟨cs,h1,h2⟩:=Option.bind_eq_some_iff.1 hv
   obtain⟨k,k1,k2,k3,k4⟩:=Aa h ht hp h1
   obtain⟨v,j1,j2⟩:=ET (c:=ctx z w E pb) w X rfl k3.2 h2
   rw[Nat.zero_add]at j1
   exact Yields.same (by simp [execOp,Instr.loadAt,k2,Instr.sureAddr,j1]) j2
  ·obtain⟨cs,h1,h2⟩:=Option.bind_eq_some_iff.1 hv
   obtain⟨b,off,k2,k3⟩:=Ox h.heap h1 (cO h x)
   obtain⟨v,j1,j2⟩:=ET (c:=ctx z w E pb) w X rfl k3 h2
   rw[Nat.add_zero]at j1
   exact Yields.same (by simp [execOp,Instr.loadAt,k2,Instr.sureAddr,j1]) j2
 case nilCheck x=>
  have r:=cO h x
  generalize ev X s x=vx at *
  cases vx<;>simp only[A.eT]at hv<;>first|(cases hv;done)|skip
  all_goals
   injection hv with hv;subst hv
   have r':=r
   simp only[ah]at r
  case rp=>obtain⟨b,off,e,_⟩:=r;exact Yields.same (v:=a.eval x) (by simp [execOp,e]) r'
  case op=>obtain⟨p,_,_,e⟩:=r;exact Yields.same (v:=a.eval x) (by simp [execOp,e]) r'
  case oe=>obtain⟨_,p,_,_,q,e,_⟩:=r;exact Yields.same (v:=a.eval x) (by simp [execOp,e]) r'
  case fn=>obtain⟨f,vs,e,_⟩:=r;exact Yields.same (v:=a.eval x) (by simp [execOp,e]) r'
 case binOp op t x y u=>
  obtain⟨k,h1,h2⟩:=ZS (c:=ctx z w E pb) w X (ox:=x) (oy:=y) hv (cO h x) (cO h y)
  exact Yields.same (v:=k) (by simp only[execOp];rw[Sem.run_bind,h1];rfl) h2
 case unOp op t x=>
  have r:=cO h x
  generalize ev X s x=vx at *
  cases op<;>simp only at hv<;>first|(cases hv;done)|skip
  case neg=>
   cases vx<;>simp only[A.neg]at hv<;>first|(cases hv;done)|skip
   rename_i k n
   injection hv with hv;subst hv
   simp only[ah]at r
   exact Yields.same (v:=.int k (k.wrap (0-n))) (by simp [execOp,r,Op.unary,Op.intArith]) (by simp [ah])
  case not=>
   cases vx<;>simp only[A.not]at hv<;>first|(cases hv;done)|skip
   rename_i b
   injection hv with hv;subst hv
   simp only[ah]at r
   exact Yields.same (v:=.bool (!b)) (by simp [execOp,r,Op.unary]) (by simp [ah])
 case convert src dst' x=>
  have r:=cO h x
  generalize ev X s x=vx at *
  split at hv
  ·rename_i k1 k2 hs hd
   cases vx<;>simp only[A.conv]at hv<;>first|(cases hv;done)|skip
   rename_i k n
   injection hv with hv;subst hv
   simp only[ah]at r
   exact Yields.same (v:=.int k2 (k2.wrap n)) (by simp [execOp,convert,r,run_underlying hs,run_underlying hd,Conv.intToInt]) (by simp [ah])
  ·rename_i hs hd
   cases vx<;>simp only[A.Sc]at hv<;>first|(cases hv;done)|skip
   rename_i str
   injection hv with hv;subst hv
   simp only[ah]at r
   exact Yields.same (v:=.string str) (by simp [execOp,convert,r,run_underlying hs,run_underlying hd]) (by simp [ah])
  ·cases hv
 case makeInterface t x=>
  split at hv
  ·cases hv
  ·rename_i d hn hd
   injection hv with hv;subst hv
   have:X.P.concrete t=true:=by
    unfold Program.concrete;rw[hd];cases d<;>first|rfl|exact absurd rfl (hn _)
   exact Yields.same (v:=.iface t (a.eval x)) (by simp [execOp,run_makeInterface w t _ this]) (by simp [ah])
  ·cases hv
 case makeFunc fn first caps=>
  split at hv
  ·rename_i f
   cases hf:first.toList.isEmpty
   ·rw[hf]at hv;cases hv
   ·rw[hf]at hv
    simp only[cond_true]at hv
    injection hv with hv;subst hv
    have:first=#[]:=by simpa using hf
    subst this
    refine Yields.same (v:=.func (.func f) #[] (caps.map a.eval)) (by simp [execOp,Instr.makeFunc]) ?_
    simp only[ah]
    refine⟨f,_,rfl,by rw[h.nm];rfl,?_⟩
    simpa using Ak h caps.toList
  ·cases hv
 case slice t x lo hi mx=>
  split at hv
  ·split at hv
   ·rename_i hd
    obtain⟨k,k1,k2⟩:=XK (P:=X.P) (c:=ctx z w E pb) w hd hv (cO h x) (lJ.map h lo) (lJ.map h hi)
    refine Yields.same (v:=k) ?_ k2
    simp [execOp,Instr.sliceAt,run_underlying hd,k1]
   ·rename_i e hd
    split at hv
    ·rename_i i hi'
     obtain⟨k,k1,k2⟩:=XJ (P:=X.P) (c:=ctx z w E pb) w h.heap hd hi' hv (cO h x) (lJ.map h lo) (lJ.map h hi)
     refine Yields.same (v:=k) ?_ k2
     simp [execOp,Instr.sliceAt,run_underlying hd,k1]
    ·cases hv
   ·cases hv
  ·split at hv
   ·rename_i e hi1 hd
    split at hv
    ·rename_i i hi'
     obtain⟨k,k1,k2⟩:=XI (P:=X.P) (c:=ctx z w E pb) w hd hi' hv (cO h x) (lJ.map h lo) (cO h _) (cO h _)
     refine Yields.same (v:=k) ?_ k2
     simp [execOp,Instr.sliceAt,run_underlying hd,k1]
    ·cases hv
   ·cases hv
 case entry i=>
  obtain⟨v',k1,k2⟩:=X1 (P:=X.P) (c:=ctx z w E pb) w rfl h.heap hv (cO h i)
  exact Yields.same (v:=v') (by simp [execOp,k1]) k2
 case fieldAddr t x f=>
  split at hv
  ·rename_i off ft hf
   split at hv
   ·rename_i i hi
    cases h0:(i.size==0)
    ·rw[h0]at hv
     simp only[cond_false]at hv
     obtain⟨fs,fl,e1,e2,e3,e4⟩:=Ex hf
     have r:=cO h x
     generalize ev X s x=vx at *
     have hsz:(sizeOf fl.type).run X.P w=.ok i.size w:=by rw[e4];simp [sizeOf,qi w hi]
     have nq:¬i.size=0:=by simpa using h0
     have run:∀q,a.eval x=.pointer (some q)→(execOp a.eval ⟨dst,.fieldAddr t x f,ty,pos,af,g⟩).run X.P w=.ok (.value (.pointer (some (q.add off)))) w:=by
      intro q e
      simp [execOp,Instr.fieldAt,run_underlying e1,e2,e,Instr.sureAddr,fieldPlace,hsz,nq,e3]
     cases vx<;>simp only[A.bD]at hv<;>first|(cases hv;done)|skip
     case rp cs=>
      injection hv with hv;subst hv
      simp only[ah]at r
      obtain⟨b,o,e,hb,hx,r⟩:=r
      exact Yields.same (run _ e) (by simp only[ah,lB];exact⟨b,o+off,rfl,hb,hx,r.drop off⟩)
     case op id o=>
      injection hv with hv;subst hv
      simp only[ah]at r
      obtain⟨p,k1,k2,e⟩:=r
      exact Yields.same (run _ e) (by simp only[ah,lB];exact⟨p,k1,k2,rfl⟩)
     case oe id gg i' o=>
      injection hv with hv;subst hv
      simp only[ah]at r
      obtain⟨hg,p,k1,k2,q,e,r⟩:=r
      exact Yields.same (run _ e) (by simp only[ah];exact⟨hg,p,k1,k2,_,rfl,fun k=>by rw[r k,lB,Nat.add_assoc]⟩)
    ·rw[h0]at hv;cases hv
   ·cases hv
  ·cases hv
 case field t x f=>
  split at hv
  ·rename_i off ft hf
   obtain⟨fs,fl,e1,e2,e3,e4⟩:=Ex hf
   obtain⟨cs,h1,h2⟩:=Option.bind_eq_some_iff.1 hv
   have r:=cO h x
   generalize ev X s x=vx at *
   cases vx<;>simp only[A.cells]at h1<;>first|(cases h1;done)|skip
   split at h1
   ·injection h1 with h1;subst h1
    simp only[ah]at r
    obtain⟨vs,e,r1,r2⟩:=r
    obtain⟨v,k1,k2⟩:=Xw (c:=ctx z w E pb) w X r1 r2 h2
    exact Yields.same (v:=v) (by simp [execOp,Instr.field,run_underlying e1,e2,e,asAgg,e3,e4,k1]) k2
   ·cases h1
  ·cases hv
 case indexAddr t x i=>
  split at hv
  ·rename_i e hd
   split at hv
   ·rename_i j hj
    have hsz:(sizeOf e).run X.P w=.ok j.size w:=by simp [sizeOf,qi w hj]
    have r:=cO h x
    have ri:=cO h i
    generalize ev X s x=vx at *
    cases vx<;>simp only[A.aU]at hv<;>first|(cases hv;done)|skip
    case sl sz es=>
     obtain⟨n,h1,h2⟩:=Option.bind_eq_some_iff.1 hv
     obtain⟨k,e1,e2⟩:=B9 (c:=ctx z w E pb) h1 ri
     split at h2
     ·rename_i hs
      subst hs
      obtain⟨el,h3,h4⟩:=Option.map_eq_some_iff.1 h2
      subst h4
      simp only[ah]at r
      obtain⟨q,cap,e3,_,_,r⟩:=r
      rcases r with r|⟨b,off,e4,hb,hx,r⟩
      ·subst r;simp at h3
      ·subst e4
       refine Yields.same (v:=.pointer (some ⟨b,off+n*j.size,none⟩)) ?_ (by simp only[ah];exact⟨_,_,rfl,hb,hx,(bg.nth r h3).2⟩)
       simp [execOp,Instr.indexAt,run_underlying hd,e1,e3,asIntOf,hsz,e2,lB]
     ·cases h2
    case os id gg sz off len=>
     obtain⟨n,h1,h2⟩:=Option.bind_eq_some_iff.1 hv
     obtain⟨k,e1,e2⟩:=B9 (c:=ctx z w E pb) h1 ri
     split at h2
     ·rename_i hs
      subst hs
      injection h2 with h2;subst h2
      simp only[ah]at r
      obtain⟨hg,p,k1,k2,q,cap,e3,hcap,r⟩:=r
      refine Yields.same (v:=.pointer (some (q.add (n*j.size)))) ?_ ?_
      ·simp [execOp,Instr.indexAt,run_underlying hd,e1,e3,asIntOf,hsz,e2]
      ·simp only[ah]
       refine⟨hg,p,k1,k2,_,rfl,fun k=>?_⟩
       obtain⟨j1,j2,j3⟩:=r k
       rcases j2 with j2|j2
       ·omega
       ·rw[j2,lB,j1,Nat.add_mul];congr 1;omega
     ·cases h2
   ·cases hv
  ·rename_i len e hd
   split at hv
   ·rename_i j hj
    have hsz:(sizeOf e).run X.P w=.ok j.size w:=by simp [sizeOf,qi w hj]
    obtain⟨n,h1,h2⟩:=Option.bind_eq_some_iff.1 hv
    obtain⟨k,e1,e2⟩:=B9 (c:=ctx z w E pb) h1 (cO h i)
    have r:=cO h x
    generalize ev X s x=vx at *
    have run:∀q,a.eval x=.pointer (some q)→(execOp a.eval ⟨dst,.indexAddr t x i,ty,pos,af,g⟩).run X.P w=.ok (.value (.pointer (some (q.add (n*j.size))))) w:=by
     intro q e
     simp [execOp,Instr.indexAt,run_underlying hd,e1,e,asIntOf,hsz,e2,Instr.sureAddr]
    cases vx<;>simp only at h2<;>first|(cases h2;done)|skip
    case rp cs=>
     injection h2 with h2;subst h2
     simp only[ah]at r
     obtain⟨b,o,e,hb,hx,r⟩:=r
     exact Yields.same (run _ e) (by simp only[ah,lB];exact⟨b,_,rfl,hb,hx,r.drop _⟩)
    case op id o=>
     injection h2 with h2;subst h2
     simp only[ah]at r
     obtain⟨p,k1,k2,e⟩:=r
     exact Yields.same (run _ e) (by simp only[ah,lB];exact⟨p,k1,k2,rfl⟩)
    case oe id gg i' o=>
     injection h2 with h2;subst h2
     simp only[ah]at r
     obtain⟨hg,p,k1,k2,q,e,r⟩:=r
     exact Yields.same (run _ e) (by simp only[ah];exact⟨hg,p,k1,k2,_,rfl,fun k=>by rw[r k,lB,Nat.add_assoc]⟩)
   ·cases hv
  ·cases hv
 case index t x i=>
  split at hv
  ·rename_i hd
   have r:=cO h x
   generalize ev X s x=vx at *
   cases vx<;>simp only[A.oz]at hv<;>first|(cases hv;done)|skip
   rename_i str
   obtain⟨n,h1,h2⟩:=Option.bind_eq_some_iff.1 hv
   obtain⟨Tj,h3,h4⟩:=Option.map_eq_some_iff.1 h2
   subst h4
   obtain⟨k,e1,e2⟩:=B9 (c:=ctx z w E pb) h1 (cO h i)
   simp only[ah]at r
   refine Yields.same (v:=.int .u8 Tj.toNat) ?_ (by simp [ah])
   have this:=h3
   simp [execOp,Instr.index,run_underlying hd,e1,r,asIntOf,this]
  ·cases hv
 case lookup t m i ok=>
  split at hv
  ·rename_i kt e hd
   split at hv
   ·rename_i inf ek hi he
    split at hv
    ·rename_i zv hz
     obtain⟨v,k1,k2⟩:=Zk (c:=ctx z w E pb) w X rfl h.heap hd hi hz he hv (cO h m) (cO h i)
     exact Yields.same (v:=v) (by simp [execOp,k1]) k2
    ·cases hv
   ·cases hv
  ·cases hv
 case extract x i=>
  have r:=cO h x
  generalize ev X s x=vx at *
  cases vx<;>simp only[A.ext]at hv<;>first|(cases hv;done)|skip
  simp only[ah]at r
  obtain⟨vs,e,r⟩:=r
  obtain⟨v,k1,k2⟩:=r.nth hv
  refine Yields.same (v:=v) ?_ k2
  have:vs[i]? =some v:=by rw[←Array.getElem?_toList];exact k1
  simp [execOp,Instr.extract,e,this]
 case call c=>
  obtain⟨b,hb⟩:=hc c rfl
  rw[hb]at hv
  simp only at hv
  have re:=Ak h c.args.toList
  have hargs:c.args.map a.eval=(c.args.toList.map a.eval).toArray:=by apply Array.toList_inj.1;simp
  obtain⟨cb,hrun⟩:∃cb,(execOp a.eval ⟨dst,.call c,ty,pos,af,g⟩).run X.P w=(builtin b c.argTypes ty cb (c.args.map a.eval)).run X.P w:=by
   simp only[execOp,resolve,hb,Sem.run_bind,Sem.run_pure,Result.andThen_ok,invoke]
   exact⟨_,rfl⟩
  rw[hargs]at hrun
  split at hv
  ·rename_i t x h1 h2
   rw[h2]at re
   generalize c.args.toList.map a.eval=vs at *
   simp only[aC]at re
   obtain⟨v,_,rfl,r,rfl⟩:=re
   have h1':c.argTypes=#[t]:=by apply Array.toList_inj.1;simpa using h1
   rw[h1']at hrun
   split at hv
   ·rename_i hd
    cases x<;>simp only[A.wV]at hv<;>first|(cases hv;done)|skip
    injection hv with hv;subst hv
    simp only[ah]at r;subst r
    exact Yields.same (by rw[hrun];simp [builtin,Builtin.len_,run_underlying hd,goInt];rfl) (by simp [ah])
   ·rename_i e hd
    cases x<;>simp only[A.bf]at hv<;>first|(cases hv;done)|skip
    all_goals
     injection hv with hv;subst hv
     simp only[ah]at r
    case sl sz es=>
     obtain⟨q,cap,rfl,_⟩:=r
     exact Yields.same (v:=.int .i64 es.length) (by rw[hrun];simp [builtin,Builtin.len_,run_underlying hd,goInt]) (by simp [ah])
    case aB=>
     subst r
     exact Yields.same (v:=.int .i64 0) (by rw[hrun];simp [builtin,Builtin.len_,run_underlying hd,goInt]) (by simp [ah])
    case ez=>
     obtain⟨q,rfl⟩:=r
     exact Yields.same (v:=.int .i64 0) (by rw[hrun];simp [builtin,Builtin.len_,run_underlying hd,goInt]) (by simp [ah])
    case os id gg sz off len=>
     obtain⟨_,p,_,_,q,cap,rfl,_⟩:=r
     exact Yields.same (v:=.int .i64 len) (by rw[hrun];simp [builtin,Builtin.len_,run_underlying hd,goInt]) (by simp [ah])
   ·rename_i kt e hd
    have:∃aW,A.entries x s.σ=some aW∧av=.int .i64 aW.length:=by
     cases x<;>simp only[A.S5]at hv<;>first|(cases hv;done)|skip
     case om id=>
      split at hv
      ·rename_i es hs
       injection hv with hv
       exact⟨es,by simp [A.entries,hs],hv.symm⟩
      ·cases hv
     case nm=>injection hv with hv;exact⟨[],rfl,by simpa using hv.symm⟩
     case fm es=>injection hv with hv;exact⟨es,rfl,hv.symm⟩
    obtain⟨aW,k1,rfl⟩:=this
    obtain⟨es,k2,k3⟩:=Nx (P:=X.P) (c:=ctx z w E pb) w rfl h.heap k1 r
    have hl:=k2.length
    refine Yields.same (v:=.int .i64 aW.length) ?_ (by simp [ah])
    rcases k3 with⟨rfl,rfl⟩|⟨bb,clock,rfl,hg⟩
    ·rw[hrun];simp at hl;simp [builtin,Builtin.len_,run_underlying hd,goInt,hl]
    ·rw[hrun];simp at hl;simp [builtin,Builtin.len_,run_underlying hd,goInt,hg,hl]
   ·cases hv
  ·rename_i t x h1 h2
   rw[h2]at re
   generalize c.args.toList.map a.eval=vs at *
   simp only[aC]at re
   obtain⟨v,_,rfl,r,rfl⟩:=re
   have h1':c.argTypes=#[t]:=by apply Array.toList_inj.1;simpa using h1
   rw[h1']at hrun
   split at hv
   ·rename_i e hd
    cases x<;>simp only[A.CA]at hv<;>first|(cases hv;done)|skip
    all_goals
     injection hv with hv;subst hv
     simp only[ah]at r
    case aB=>
     subst r
     exact Yields.same (v:=.int .i64 0) (by rw[hrun];simp [builtin,Builtin.cap_,run_underlying hd,goInt]) (by simp [ah])
    case ez=>
     obtain⟨q,rfl⟩:=r
     exact Yields.same (v:=.int .i64 0) (by rw[hrun];simp [builtin,Builtin.cap_,run_underlying hd,goInt]) (by simp [ah])
   ·cases hv
  ·rename_i x y h2
   rw[h2]at re
   generalize c.args.toList.map a.eval=vs at *
   simp only[aC]at re
   obtain⟨v,_,rfl,r,u,_,rfl,q,rfl⟩:=re
   unfold A.max at hv
   split at hv
   ·rename_i k m k' n
    injection hv with hv;subst hv
    simp only[ah]at r q;subst r;subst q
    exact Yields.same (v:=.int k (if n>m then n else m)) (by rw[hrun];simp [builtin,Builtin.max_,Builtin.max2]) (by simp [ah])
   ·cases hv
  ·rename_i x y h2
   rw[h2]at re
   generalize c.args.toList.map a.eval=vs at *
   simp only[aC]at re
   obtain⟨v,_,rfl,r,u,_,rfl,q,rfl⟩:=re
   unfold A.min at hv
   split at hv
   ·rename_i k m k' n
    injection hv with hv;subst hv
    simp only[ah]at r q;subst r;subst q
    exact Yields.same (v:=.int k (if n<m then n else m)) (by rw[hrun];simp [builtin,Builtin.min_,Builtin.min2]) (by simp [ah])
   ·cases hv
  ·cases hv
end
end
section
open Go.RowKit
def bY:Nat→Option Nat:=fun _=>none
def ZO (P:Program) (nm:List Nat) (f:FuncId) (args:List U) (σ:Heap) (r:U) (σ':Heap):Prop:=
 ∃g,(∀bV w,(callFunc f bV).run P w=.ok (.enter g bV) w)∧∀(z:Z) (vs:Array Value),z.nm=nm→(∀b,z.X b→b<z.w.heap.size)→fq (ctx z z.w z.E bY) σ→aC (ctx z z.w z.E bY) args vs.toList→
  Calls P g vs z.w fun e w'=>∃v E',e=.returned v∧Out z w' E'∧fq (ctx z w' E' bY) σ'∧ah (ctx z w' E' bY) r v
def ZP (P:Program) (nm:List Nat) (f:FuncId) (args:List U) (σ:Heap) (r:U) (σ':Heap):Prop:=
 ∀(z:Z) (vs:Array Value),z.nm=nm→(∀b,z.X b→b<z.w.heap.size)→fq (ctx z z.w z.E bY) σ→aC (ctx z z.w z.E bY) args vs.toList→
  ∃v w' E',(callFunc f vs).run P z.w=.ok (.value v) w'∧Out z w' E'∧fq (ctx z w' E' bY) σ'∧ah (ctx z w' E' bY) r v
def lD (P:Program) (nm:List Nat) (f:FuncId) (args:List U) (σ:Heap) (r:U) (σ':Heap):Prop:=ZO P nm f args σ r σ'∨ZP P nm f args σ r σ'
structure cD (X : Fx) : Prop where
 call:∀f args σ r σ',X.call f args σ=some (r,σ')→lD X.P X.nm f args σ r σ'
 dyn:∀f args σ r σ',X.dyn (X.nm.getD f 0) args σ=some (r,σ')→lD X.P X.nm f args σ r σ'
section
variable {X : Fx} {z : Z} {s : AS} {a : Act} {w w' : World} {E : List Pl} {pb : Nat → Option Nat}
theorem Ext.same {c c':RC} (hw:c'.w=c.w) (hE:c'.E=c.E) (hX:∀b,c'.X b→c.X b) (hn:c'.nm=c.nm):Ext c c':=
 ⟨by rw[hw];exact Nat.le_refl _,fun b _ hx=>⟨by rw[hw],fun k=>hx (hX b k)⟩,fun i p h=>⟨p,by rw[hE];exact h,.inl rfl⟩,hn⟩
def below (z:Z) (w:World) (E:List Pl) (pb:Nat→Option Nat):Z:=⟨w,E,fun b=>z.X b∨∃i,pb i=some b,z.nm⟩
theorem Je:Ext (ctx z w E pb) (ctx (below z w E pb) w E bY):=
 Ext.same rfl rfl (fun b k=>by
  rcases k with(k|k)|k|⟨i,k⟩
  ·exact .inl k
  ·exact .inr (.inr k)
  ·exact .inr (.inl k)
  ·cases k) rfl
theorem IC {w':World} {E':List Pl}:Ext (ctx (below z w E pb) w' E' bY) (ctx z w' E' pb):=
 Ext.same rfl rfl (fun b k=>by
  rcases k with k|k|k
  ·exact .inl (.inl k)
  ·exact .inr (.inl k)
  ·exact .inl (.inr k)) rfl
theorem St.called (h:St X z s a w E pb) {w':World} {E':List Pl} {σ':Heap} (ho:Out (below z w E pb) w' E') (hh:fq (ctx (below z w E pb) w' E' bY) σ'):St X z (s.heap σ') a w' E' pb:=by
 have Rp:∀p∈E',w.heap.size≤p.b∨∃q∈E,q.b=p.b:=ho.fresh
 have hx:Ext (ctx z w E pb) (ctx z w' E' pb):=by
  refine⟨ho.size,fun b hb hn=>⟨ho.stay b hb (fun p hp e=>hn (.inr (.inl ⟨p,hp,e⟩))),?_⟩,ho.env,rfl⟩
  rintro(k|⟨p,hp,k⟩|k)
  ·exact hn (.inl k)
  ·rcases Rp p hp with e|⟨q,hq,e⟩
   ·simp only[ctx]at hb;omega
   ·exact hn (.inr (.inl ⟨q,hq,e.trans k⟩))
  ·exact hn (.inr (.inr k))
 refine h.ext hx (fun i b hb=>⟨hb,ho.stay b (h.priv i b hb).2.1 (h.priv i b hb).2.2⟩) (fun i b hb=>⟨(h.priv i b hb).1,Nat.lt_of_lt_of_le (h.priv i b hb).2.1 ho.size,fun p hp e=>?_⟩) h.inj
  (hh.mono IC rfl (fun p hp=>rfl)) ?_
 ·rcases Rp p hp with k|⟨q,hq,k⟩
  ·have:=(h.priv i b hb).2.1;omega
  ·exact(h.priv i b hb).2.2 q hq (k.trans e)
 ·have o:=h.out
  refine⟨ho.os.trans o.os,ho.tape.trans o.tape,ho.output.trans o.output,Nat.le_trans o.size ho.size,fun b hb hp=>?_,fun i p hp=>?_,fun i p hp=>?_,o.lt,o.mine⟩
  ·rw[ho.stay b (Nat.lt_of_lt_of_le hb o.size) (fun p hpE e=>?_)]
   ·exact o.stay b hb hp
   ·rcases o.fresh p hpE with k|⟨q,hq,k⟩
    ·omega
    ·exact hp q hq (k.trans e)
  ·rcases ho.fresh' i p hp with k|⟨q,hq,k⟩
   ·exact .inl (Nat.le_trans o.size k)
   ·rcases o.fresh' i q hq with k'|⟨q',vf,k'⟩
    ·exact .inl (k▸k')
    ·exact .inr ⟨q',vf,k'.trans k⟩
  ·obtain⟨p',h1,h2⟩:=o.env i p hp
   obtain⟨p'',h3,h4⟩:=ho.env i p' h1
   refine⟨p'',h3,?_⟩
   rcases h2 with rfl|⟨h2,h5⟩
   ·exact h4
   ·rcases h4 with rfl|⟨h6,h7⟩
    ·exact .inr ⟨h2,h5⟩
    ·exact .inr ⟨h2,by omega⟩
theorem NN (h:St X z s a w E pb):fq (ctx (below z w E pb) w E bY) s.σ:=h.heap.mono Je rfl (fun p hp=>rfl)
theorem Pf (h:St X z s a w E pb):∀b,(below z w E pb).X b→b<(below z w E pb).w.heap.size:=by
 rintro b (k|⟨i,k⟩)
 ·exact Nat.lt_of_lt_of_le (h.out.lt b k) h.out.size
 ·exact(h.priv i b k).2.1
theorem B6 (h:St X z s a w E pb) {f:FuncId} {args:List U} {vs:Array Value} {r:U} {σ':Heap} (hc:lD X.P X.nm f args s.σ r σ') (ha:aC (ctx z w E pb) args vs.toList) {o:Oper} {K:Act→World→Prop} {Q:Exit→Act→World→Prop}
  (ho:(execOp a.eval o).run X.P w=(callFunc f vs).run X.P w) (hK:∀v w' E',St X z (s.heap σ') a w' E' pb→ah (ctx z w' E' pb) r v→K (a.put o.dst v) w'):o.wp X.P a w K Q:=by
 rcases hc with hc|hc
 ·obtain⟨g,hg,hc⟩:=hc
  unfold Oper.wp
  rw[ho,hg,Oper.upon_enter]
  refine(hc (below z w E pb) vs h.nm.symm (Pf h) (NN h) (aC.mono Je _ _ ha)).mono ?_
  rintro e w' ⟨v,E',rfl,h1,h2,h3⟩
  exact hK v w' E' (h.called h1 h2) (ah.mono IC _ _ h3)
 ·obtain⟨v,w',E',k1,h1,h2,h3⟩:=hc (below z w E pb) vs h.nm.symm (Pf h) (NN h) (aC.mono Je _ _ ha)
  unfold Oper.wp
  rw[ho,show(callFunc f vs).run X.P w=_ from k1,Oper.upon_value]
  exact hK v w' E' (h.called h1 h2) (ah.mono IC _ _ h3)
theorem MU {f:FuncId} {c:Call} (hc:c.callee=.value (.func f)) {dst:Option Tmp} {ty:TypeId} {pos:String} {af:Array Edge} {g:Option (Nat×Bool)}:
  (execOp a.eval ⟨dst,.call c,ty,pos,af,g⟩).run X.P w=(callFunc f (c.args.map a.eval)).run X.P w:=by
 simp [execOp,resolve,hc,Act.eval,Deferred.ofValue,invoke]
theorem HQ {f:FuncId} {caps:Array Value} {x:Operand} {c:Call} (hc:c.callee=.value x) (hx:a.eval x=.func (.func f) #[] caps) {dst:Option Tmp} {ty:TypeId} {pos:String} {af:Array Edge} {g:Option (Nat×Bool)}:
  (execOp a.eval ⟨dst,.call c,ty,pos,af,g⟩).run X.P w=(callFunc f (c.args.map a.eval++caps)).run X.P w:=by
 simp [execOp,resolve,hc,hx,Deferred.ofValue,invoke]
theorem RJ (hs:cD X) (h:St X z s a w E pb) {tag:Option (Nat×Bool)} (ht:mR a tag) {o:Oper} {av:U} (hv:ew X o s tag=some av) {K:Act→World→Prop} {Q:Exit→Act→World→Prop}
  (hK:∀v w' E',St X z s a w' E' pb→ah (ctx z w' E' pb) av v→K (a.put o.dst v) w'):o.wp X.P a w K Q:=by
 by_cases hc:∀c,o.op=.call c→∃b,c.callee=.builtin b
 ·obtain⟨v,w',h1,h2,h3⟩:=aaO h ht hv hc
  unfold Oper.wp
  rw[h1,Oper.upon_value]
  exact hK v w' E (h.grow h2) h3
 ·obtain⟨dst,op,ty,pos,af,g⟩:=o
  have:∃c,op=.call c∧∀b,c.callee≠.builtin b:=by
   refine Classical.byContradiction fun hn=>hc fun c e=>Classical.byContradiction fun hb=>hn ⟨c,e,fun b e'=>hb ⟨b,e'⟩⟩
  obtain⟨c,rfl,hb⟩:=this
  simp only[ew]at hv
  have quiet:∀r,A.quiet r s.σ=some av→r=some (av,s.σ):=by
   intro r hr
   unfold A.quiet at hr
   obtain⟨p,h1,h2⟩:=Option.bind_eq_some_iff.1 hr
   split at h2
   ·rename_i he
    injection h2 with h2
    rw[h1,←he,←h2]
   ·cases h2
  have hargs:(c.args.map a.eval).toList=c.args.toList.map a.eval:=by simp
  have hheap:s.heap s.σ=s:=rfl
  cases AM:c.callee with
  |builtin b=>exact absurd AM (hb b)
  |invoke rr m=>rw[AM]at hv;cases hv
  |value x=>
   rw[AM]at hv
   cases x with
   |func f=>
    simp only at hv
    have hq:=hs.call _ _ _ _ _ (quiet _ hv)
    refine B6 h hq (by rw[hargs];exact Ak h _) (MU AM) (fun v w' E' h1 h2=>?_)
    exact hK v w' E' h1 h2
   |tmp t=>
    simp only at hv
    have hq:=quiet _ hv
    have r:=cO h (.tmp t)
    generalize ev X s (.tmp t)=vx at *
    cases vx<;>simp only[A.fO]at hq<;>first|(cases hq;done)|skip
    rename_i fn0 Cp
    simp only[ah]at r
    obtain⟨f,cs,e1,e2,e3⟩:=r
    rw[←e2]at hq
    have vf:X.dyn (X.nm.getD f 0) (c.args.toList.map (ev X s)++Cp) s.σ=some (av,s.σ):=by rw[h.nm];exact hq
    refine B6 h (hs.dyn _ _ _ _ _ vf) (vs:=c.args.map a.eval++cs) (by rw[Array.toList_append,hargs];exact(Ak h _).append e3) (HQ AM e1) (fun v w' E' h1 h2=>?_)
    exact hK v w' E' h1 h2
   |const v=>
    simp only at hv
    have hq:=quiet _ hv
    have r:=cO h (.const v)
    generalize ev X s (.const v)=vx at *
    cases vx<;>simp only[A.fO]at hq<;>first|(cases hq;done)|skip
    rename_i fn0 Cp
    simp only[ah]at r
    obtain⟨f,cs,e1,e2,e3⟩:=r
    rw[←e2]at hq
    have vf:X.dyn (X.nm.getD f 0) (c.args.toList.map (ev X s)++Cp) s.σ=some (av,s.σ):=by rw[h.nm];exact hq
    refine B6 h (hs.dyn _ _ _ _ _ vf) (vs:=c.args.map a.eval++cs) (by rw[Array.toList_append,hargs];exact(Ak h _).append e3) (HQ AM e1) (fun v w' E' h1 h2=>?_)
    exact hK v w' E' h1 h2
   |global g=>simp only[ev,A.fO]at hv;have:=quiet _ hv;cases this
theorem RH (h:St X z s a w E pb) {tag:Option (Nat×Bool)} (ht:mR a tag) {o:Oper} {b off:Nat} (hv:gX X o s tag=some (b,some off)):
  (∃k,pb b=some k∧(execOp a.eval o).run X.P w=.ok (.value (.pointer (some ⟨k,off,none⟩))) w):=by
 obtain⟨dst,op,ty,pos,af,g⟩:=o
 cases op<;>simp only[gX]at hv<;>first|(cases hv;done)|skip
 case nilCheck x=>
  split at hv
  ·rename_i b' off' hp
   injection hv with hv
   injection hv with hb hv
   subst hb
   obtain⟨cs,h1,h2⟩:=Option.bind_eq_some_iff.1 hv
   simp only[Option.some.injEq]at h2
   subst h2
   obtain⟨k,k1,k2,_⟩:=Aa h ht hp h1
   exact⟨k,k1,by simp [execOp,k2]⟩
  ·cases hv
 case fieldAddr t x f=>
  split at hv
  ·rename_i b' off' hp
   injection hv with hv
   injection hv with hb hv
   subst hb
   split at hv
   ·rename_i fo ft hf
    split at hv
    ·rename_i i hi
     cases h0:(i.size==0)
     ·rw[h0]at hv
      simp only[cond_false]at hv
      obtain⟨cs,h1,h2⟩:=Option.bind_eq_some_iff.1 hv
      simp only[Option.some.injEq]at h2
      subst h2
      obtain⟨k,k1,k2,_⟩:=Aa h ht hp h1
      obtain⟨fs,fl,e1,e2,e3,e4⟩:=Ex hf
      have hsz:(sizeOf fl.type).run X.P w=.ok i.size w:=by rw[e4];simp [sizeOf,qi w hi]
      have nq:¬i.size=0:=by simpa using h0
      exact⟨k,k1,by simp [execOp,Instr.fieldAt,run_underlying e1,e2,k2,Instr.sureAddr,fieldPlace,hsz,nq,e3,lB]⟩
     ·rw[h0]at hv;cases hv
    ·cases hv
   ·cases hv
  ·cases hv
 case indexAddr t x i=>
  split at hv
  ·rename_i b' off' hp
   injection hv with hv
   injection hv with hb hv
   subst hb
   split at hv
   ·rename_i len e hd
    split at hv
    ·rename_i ie hie
     obtain⟨cs,h1,h2⟩:=Option.bind_eq_some_iff.1 hv
     obtain⟨n,h3,h4⟩:=Option.bind_eq_some_iff.1 h2
     simp only[Option.some.injEq]at h4
     subst h4
     obtain⟨k,k1,k2,_⟩:=Aa h ht hp h1
     obtain⟨kk,e1,e2⟩:=B9 (c:=ctx z w E pb) h3 (cO h i)
     have hsz:(sizeOf e).run X.P w=.ok ie.size w:=by simp [sizeOf,qi w hie]
     exact⟨k,k1,by simp [execOp,Instr.indexAt,run_underlying hd,e1,k2,asIntOf,hsz,e2,Instr.sureAddr,lB]⟩
    ·cases hv
   ·cases hv
  ·cases hv
theorem Pj {c:RC} {b:Nat} {cs:List U} (h:uz c b cs):∃arr t,c.w.heap[b]? =some (.cells arr t (0,0))∧aC c cs arr.toList∧∀x∈arr.toList,cu x=true:=by
 obtain⟨⟨arr,t,h1,h2⟩,h3⟩:=h
 obtain⟨vs,k1,k2,k3⟩:=h3.G9
 have:arr.toList=vs:=by
  apply List.ext_getElem?
  intro i
  by_cases hi:i<vs.length
  ·have:=k3 i vs[i] (by simp [hi])
   rw[Nat.zero_add,sI h1]at this
   rw[Array.getElem?_toList,this];simp [hi]
  ·have hl:=k1.length
   rw[List.getElem?_eq_none (by simp;omega),List.getElem?_eq_none (by omega)]
 rw[←this]at k1 k2
 exact⟨arr,t,h1,k1,k2⟩
theorem Iw {P:Program} {t:TypeId} {b off:Nat} {v:Value} {arr:Array Value} {bt:TypeId} (hb:w.heap[b]? =some (.cells arr bt (0,0))) (hsz:v.cells.size=P.cellsOf t) (ht:(P.info? t).isSome=true) (ho:∀x∈v.cells.toList,cu x=true) (hl:off+v.cells.toList.length≤arr.size):
  (Instr.storeAt t (.pointer (some ⟨b,off,none⟩)) v).run P w=.ok () (w.cL b (.cells (eD arr off v.cells.toList) bt (0,0))):=by
 obtain⟨i,hi⟩:=Option.isSome_iff_exists.1 ht
 have:=zJ (P:=P) (b:=b) (off:=off) (t:=bt) v.cells.toList 0 w arr hb (by simpa using hl) ho
 simp [Instr.storeAt,Instr.sureAddr,storeVar,BF w hi,hsz,this]
theorem M5 {P:Program} {t:TypeId} {d:TypeDesc} (h:P.underlying t=some d):(P.info? t).isSome=true:=by
 obtain⟨i,hi⟩:=Qh h;rw[hi];rfl
theorem As (arr:Array Value) (o:Nat) (l:List Value) (h:o+l.length≤arr.size) (j:Nat):(eD arr o l)[j]? =if o≤j∧j<o+l.length then l[j-o]? else arr[j]? :=by
 unfold eD
 rw[List.getElem?_toArray]
 have h1:(arr.toList.take o).length=o:=by simp;omega
 by_cases hj:j<o
 ·rw[if_neg (by omega),List.append_assoc,List.getElem?_append_left (by omega),List.getElem?_take_of_lt hj,Array.getElem?_toList]
 ·rw[List.append_assoc,List.getElem?_append_right (by omega),h1]
  by_cases hk:j<o+l.length
  ·rw[if_pos ⟨by omega,hk⟩,List.getElem?_append_left (by omega)]
  ·rw[if_neg (by omega),List.getElem?_append_right (by omega),List.getElem?_drop,Array.getElem?_toList]
   congr 1;omega
theorem XM (h:St X z s a w E pb) {t:TypeId} {x:U} {pv v:Value} {vv:U} {new:List U} {σ':Heap} (hc:sV X t vv=some new) (rv:ah (ctx z w E pb) vv v) (hst:A.storeAt x new s.σ=some σ') (rx:ah (ctx z w E pb) x pv):
  ∃w',(Instr.storeAt t pv v).run X.P w=.ok () w'∧St X z (s.heap σ') a w' E pb:=by
 obtain⟨r1,r2,r3,d,hd⟩:=zR X hc rv
 have hi:=M5 hd
 cases x<;>simp only[A.storeAt]at hst<;>first|(cases hst;done)|skip
 case op id off=>
  simp only[ah]at rx
  obtain⟨p,e1,e2,rfl⟩:=rx
  split at hst
  ·rename_i cs hs
   obtain⟨cs',h1,h2⟩:=Option.map_eq_some_iff.1 hst
   subst h2
   obtain⟨hg,ada⟩:=h.heap.blk id p _ e1 hs
   obtain⟨arr,bt,k1,k2,k3⟩:=Pj ada
   obtain⟨k4,k5⟩:=k2.eD h1 r1
   refine⟨_,Iw k1 r3 hi r2 k5,h.sX e1 _ _ fun hx=>?_⟩
   have hlt:p.b<w.heap.size:=h.heap.lt (p:=p) (List.mem_of_getElem? e1)
   have hh:=qR (w:=w) (.cells (eD arr off v.cells.toList) bt (0,0)) hlt
   have k6:=aC.mono hx _ _ k4
   exact⟨hg,⟨_,_,hh,by have:=k6.length;simpa using this.symm⟩,aX.tP hh k6 (Ap k3 r2) (fun i hi=>by simp)⟩
  ·cases hst
 case oe id g i off=>
  simp only[ah]at rx
  obtain⟨hg0,p,e1,e2,q,rfl,rx⟩:=rx
  split at hst
  ·rename_i g' sz es hs
   split at hst
   ·rename_i LZ
    subst LZ
    obtain⟨e,h1,h2⟩:=Option.bind_eq_some_iff.1 hst
    obtain⟨e',h3,h4⟩:=Option.map_eq_some_iff.1 h2
    subst h4
    obtain⟨j1,j2,j3,j4,⟨arr,bt,j5,j6⟩,j7,j8,j9⟩:=h.heap.blk id p _ e1 hs
    have hq:=rx j1.symm
    subst hq
    obtain⟨hel,hcs⟩:=bg.nth j8 h1
    have hsp:off+new.length≤e.length∧e'=e.take off++new++e.drop (off+new.length):=by
     unfold A.splice at h3
     split at h3
     ·injection h3 with h3;exact⟨by assumption,h3.symm⟩
     ·cases h3
    have hlen:i<es.length:=(List.getElem?_eq_some_iff.1 h1).1
    have hbound:p.base+i*sz+sz≤arr.size:=by
     have:(i+1)*sz≤es.length*sz:=Nat.mul_le_mul_right _ hlen
     rw[Nat.add_mul]at this
     rw[j6];omega
    have hl:new.length=v.cells.toList.length:=r1.length
    have k5:p.base+i*p.sz+off+v.cells.toList.length≤arr.size:=by rw[j3];omega
    refine⟨_,Iw j5 r3 hi r2 k5,h.sX e1 _ _ fun hx=>?_⟩
    have hlt:p.b<w.heap.size:=h.heap.lt (p:=p) (List.mem_of_getElem? e1)
    have hh:=qR (w:=w) (.cells (eD arr (p.base+i*p.sz+off) v.cells.toList) bt (0,0)) hlt
    have hcell:∀j,(w.cL p.b (.cells (eD arr (p.base+i*p.sz+off) v.cells.toList) bt (0,0))).cell? ⟨p.b,j,none⟩=(eD arr (p.base+i*p.sz+off) v.cells.toList)[j]? :=fun j=>sI hh
    have hold:∀j,w.cell? ⟨p.b,j,none⟩=arr[j]? :=fun j=>sI j5
    obtain⟨aee,Lm⟩:=hsp
    have hsz:p.sz=sz:=j3
    rw[hsz]at k5 hcell
    have out:∀j,(j<p.base+i*sz+off∨p.base+i*sz+off+new.length≤j)→(w.cL p.b (.cells (eD arr (p.base+i*p.sz+off) v.cells.toList) bt (0,0))).cell? ⟨p.b,j,none⟩=w.cell? ⟨p.b,j,none⟩:=by
     intro j hj
     rw[hsz,hcell,hold,As _ _ _ k5,if_neg (by omega)]
    refine⟨j1,j2,j3,j4,⟨_,_,hh,by rw[hsz,Jy _ _ _ k5];exact j6⟩,by simpa using j7,bg.of fun j x hj=>?_,vR hh (Ap (j9 _ _ _ j5) r2)⟩
    rw[List.getElem?_set]at hj
    by_cases hij:i=j
    ·subst hij
     rw[if_pos rfl,if_pos hlen]at hj
     injection hj with hj;subst hj
     refine⟨by rw[Lm];simp;omega,aX.of fun k av hk=>?_⟩
     by_cases hin:off≤k∧k<off+new.length
     ·have hnk:new[k-off]? =some av:=by
       rw[Lm,List.append_assoc,List.getElem?_append_right (by simp;omega)]at hk
       rw[List.getElem?_append_left (by simp;omega)]at hk
       rw[←hk];congr 1;simp;omega
      obtain⟨u,m1,m2⟩:=r1.nth hnk
      refine⟨u,?_,r2 u (List.mem_of_getElem? m1),ah.mono hx _ _ m2⟩
      show(w.cL p.b (.cells (eD arr (p.base+i*p.sz+off) v.cells.toList) bt (0,0))).cell? ⟨p.b,p.base+i*sz+k,none⟩=_
      rw[hsz,hcell,As _ _ _ k5,if_pos (by omega),←m1]
      congr 1;omega
     ·have hek:e[k]? =some av:=by
       rw[Lm]at hk
       by_cases hk1:k<off
       ·rw[List.append_assoc,List.getElem?_append_left (by simp;omega),List.getElem?_take_of_lt hk1]at hk;exact hk
       ·rw[List.getElem?_append_right (by simp;omega),List.getElem?_drop]at hk
        rw[←hk];congr 1;simp;omega
      obtain⟨u,m1,m2,m3⟩:=aX.nth hcs hek
      refine⟨u,?_,m2,ah.mono hx _ _ m3⟩
      rw[←m1]
      exact out _ (by omega)
    ·rw[if_neg hij]at hj
     obtain⟨m1,m2⟩:=bg.nth j8 hj
     refine⟨m1,aX.of fun k av hk=>?_⟩
     obtain⟨u,n1,n2,n3⟩:=aX.nth m2 hk
     refine⟨u,?_,n2,ah.mono hx _ _ n3⟩
     rw[←n1]
     have nS:k<sz:=by rw[←m1];exact(List.getElem?_eq_some_iff.1 hk).1
     refine out _ ?_
     rcases Nat.lt_or_gt_of_ne hij with hlt'|hgt
     ·right
      have:(i+1)*sz≤j*sz:=Nat.mul_le_mul_right _ hlt'
      rw[Nat.add_mul]at this;omega
     ·left
      have:(j+1)*sz≤i*sz:=Nat.mul_le_mul_right _ hgt
      rw[Nat.add_mul]at this;omega
   ·cases hst
  ·cases hst
end
end
section
open Go.RowKit
section
variable {X : Fx} {z : Z} {s : AS} {a : Act} {w w' : World} {E : List Pl} {pb : Nat → Option Nat}
theorem St.move (h:St X z s a w E pb) {id:Nat} {p p':Pl} {blk:aO} (hi:E[id]? =some p) (hg:0<p.g∧p.g<p'.g) (hos:w'.os=w.os) (htp:w'.tape=w.tape) (hout:w'.output=w.output) (hsz:w.heap.size≤w'.heap.size)
  (Gn:∀b,b≠p.b→b<w.heap.size→w'.heap[b]? =w.heap[b]?) (hb:p'.b=p.b∨(w.heap.size≤p'.b∧p'.b<w'.heap.size))
  (hk:Ext (ctx z w E pb) (ctx z w' (E.set id p') pb)→nF (ctx z w' (E.set id p') pb) p' blk):
  St X z (s.heap (s.σ.set id blk)) a w' (E.set id p') pb∧Ext (ctx z w E pb) (ctx z w' (E.set id p') pb):=by
 have hm:p∈E:=List.mem_of_getElem? hi
 have hid:id<E.length:=(List.getElem?_eq_some_iff.1 hi).1
 have hX:(ctx z w E pb).X p.b:=.inr (.inl ⟨p,hm,rfl⟩)
 have hmem:∀q∈E.set id p',q=p'∨(q∈E):=fun q hq=>by
  rcases List.mem_or_eq_of_mem_set hq with e|e
  ·exact .inr e
  ·exact .inl e
 have jd:∀(j:Nat) (q:Pl),(E.set id p')[j]? =some q→(j=id∧q=p')∨(j≠id∧E[j]? =some q):=fun j q hq=>by
  rw[List.getElem?_set]at hq
  by_cases e:id=j
  ·subst e;rw[if_pos rfl,if_pos hid]at hq;injection hq with hq;exact .inl ⟨rfl,hq.symm⟩
  ·rw[if_neg e]at hq;exact .inr ⟨fun e'=>e e'.symm,hq⟩
 have hx:Ext (ctx z w E pb) (ctx z w' (E.set id p') pb):=by
  refine⟨hsz,fun b kD hn=>⟨Gn b (fun e=>hn (e▸hX)) kD,?_⟩,fun j q hq=>?_,rfl⟩
  ·rintro(k|⟨q,hq,k⟩|k)
   ·exact hn (.inl k)
   ·rcases hmem q hq with rfl|hq
    ·rcases hb with e|⟨e,_⟩
     ·exact hn (by rw[←k,e];exact hX)
     ·simp only[ctx]at kD;omega
    ·exact hn (.inr (.inl ⟨q,hq,k⟩))
   ·exact hn (.inr (.inr k))
  ·by_cases e:id=j
   ·subst e
    simp only[ctx]at hq
    rw[hi]at hq;injection hq with hq;subst hq
    exact⟨p',by simp [ctx,hid],.inr hg⟩
   ·exact⟨q,by simp only[ctx]at hq ⊢;rw[List.getElem?_set,if_neg e];exact hq,.inl rfl⟩
 refine⟨h.ext hx (fun i b hpb=>⟨hpb,Gn b (fun e=>(h.priv i b hpb).2.2 p hm e.symm) (h.priv i b hpb).2.1⟩) (fun i b hpb=>⟨(h.priv i b hpb).1,Nat.lt_of_lt_of_le (h.priv i b hpb).2.1 hsz,fun q hq=>?_⟩) h.inj
  ⟨by have:=h.heap.len;simpa [ctx]using this,fun i j q r hq hr he=>?_,fun j q x hq cG=>?_⟩ ?_,hx⟩
 ·rcases hmem q hq with rfl|hq
  ·rcases hb with e|⟨e,_⟩
   ·rw[e];exact(h.priv i b hpb).2.2 p hm
   ·have:=(h.priv i b hpb).2.1;omega
  ·exact(h.priv i b hpb).2.2 q hq
 ·have lt:∀(j:Nat) (q:Pl),E[j]? =some q→q.b<w.heap.size:=fun j q hq=>h.heap.lt (p:=q) (List.mem_of_getElem? hq)
  rcases jd i q hq with⟨e1,e2⟩|⟨e1,e2⟩<;>rcases jd j r hr with⟨e3,e4⟩|⟨e3,e4⟩
  ·rw[e1,e3]
  ·exfalso
   rw[e2]at he
   rcases hb with e|⟨e,_⟩
   ·exact e3 (h.heap.inj j id r p e4 hi (by rw[←he,e]))
   ·have:=lt j r e4;omega
  ·exfalso
   rw[e4]at he
   rcases hb with e|⟨e,_⟩
   ·exact e1 (h.heap.inj i id q p e2 hi (by rw[he,e]))
   ·have:=lt i q e2;omega
  ·exact h.heap.inj i j q r e2 e4 he
 ·rcases jd j q hq with⟨e1,e2⟩|⟨e1,e2⟩
  ·subst e1;subst e2
   rw[List.getElem?_set,if_pos rfl]at cG
   split at cG
   ·injection cG with cG;subst cG;exact hk hx
   ·cases cG
  ·rw[List.getElem?_set,if_neg (fun e=>e1 e.symm)]at cG
   exact(h.heap.blk j q x e2 cG).mono hx (Gn q.b (fun e=>e1 (h.heap.inj j id q p e2 hi e)) (h.heap.lt (p:=q) (List.mem_of_getElem? e2)))
 ·have o:=h.out
  refine⟨hos.trans o.os,htp.trans o.tape,hout.trans o.output,Nat.le_trans o.size hsz,fun b kD hp=>?_,fun j q hq=>?_,fun j q hq=>?_,o.lt,o.mine⟩
  ·rw[Gn b (fun e=>?_) (Nat.lt_of_lt_of_le kD o.size)]
   ·exact o.stay b kD hp
   ·rcases o.fresh p hm with k|⟨r,hr,k⟩
    ·omega
    ·exact hp r hr (k.trans e.symm)
  ·rcases jd j q hq with⟨e1,e2⟩|⟨e1,e2⟩
   ·subst e1;subst e2
    rcases hb with e|⟨e,_⟩
    ·rcases o.fresh' j p hi with k|⟨r,hr,k⟩
     ·exact .inl (by rw[e];exact k)
     ·exact .inr ⟨r,hr,by rw[e];exact k⟩
    ·exact .inl (Nat.le_trans o.size e)
   ·exact o.fresh' j q e2
  ·obtain⟨q',h1,h2⟩:=o.env j q hq
   by_cases e:id=j
   ·subst e
    rw[hi]at h1;injection h1 with h1;subst h1
    refine⟨p',by simp [hid],?_⟩
    rcases h2 with rfl|⟨h2,h3⟩
    ·exact .inr hg
    ·exact .inr ⟨h2,by omega⟩
   ·exact⟨q',by rw[List.getElem?_set,if_neg e];exact h1,h2⟩
theorem bg.cells {c:RC} {sz b:Nat}:∀{es:List (List U)} {off:Nat},bg c sz b off es→aX c b off es.flatten∧es.flatten.length=es.length*sz
 |[],off,h=>by simp [aX]
 |e::es,off,h=>by
  simp only[bg]at h
  obtain⟨h1,h2,h3⟩:=h
  obtain⟨k1,k2⟩:=bg.cells h3
  refine⟨aX.of fun i av hi=>?_,by simp [k2,h1,Nat.add_mul];omega⟩
  simp only[List.flatten_cons]at hi
  by_cases hl:i<e.length
  ·rw[List.getElem?_append_left hl]at hi;exact aX.nth h2 hi
  ·rw[List.getElem?_append_right (by omega)]at hi
   have:=aX.nth k1 hi
   rwa[show off+sz+(i-e.length)=off+i by omega]at this
theorem NR {P:Program} {c:RC} {σ:Heap} (hh:fq c σ) {sz:Nat} {y:U} {v:Value} {ys:List (List U)} (h:A.elems sz y σ=some ys) (r:ah c y v):
  ∃(q:Option Addr) (cap:Nat) (cs:List Value),v=.slice q ys.length cap∧(∀w2:World,w2.heap=c.w.heap→(Builtin.firstCells sz ys.length v).run P w2=.ok cs.toArray w2)∧aC c ys.flatten cs∧(∀x∈cs,cu x=true)∧cs.length=ys.length*sz∧(∀e∈ys,e.length=sz)∧(∀n,n≤ys.length→∀w2:World,w2.heap=c.w.heap→(Builtin.firstCells sz n v).run P w2=.ok (cs.take (n*sz)).toArray w2):=by
 have main:∀(q:Option Addr) (cap:Nat) (ys:List (List U)),(ys=[]∨∃b off,q=some ⟨b,off,none⟩∧bg c sz b off ys)→
   ∃cs:List Value,(∀w2:World,w2.heap=c.w.heap→(Builtin.firstCells sz ys.length (.slice q ys.length cap)).run P w2=.ok cs.toArray w2)∧aC c ys.flatten cs∧(∀x∈cs,cu x=true)∧cs.length=ys.length*sz∧(∀e∈ys,e.length=sz)∧(∀n,n≤ys.length→∀w2:World,w2.heap=c.w.heap→(Builtin.firstCells sz n (.slice q ys.length cap)).run P w2=.ok (cs.take (n*sz)).toArray w2):=by
  intro q cap ys hq
  rcases hq with rfl|⟨b,off,rfl,r⟩
  ·refine⟨[],fun w2 _=>?_,by simp [aC],by simp,by simp,by simp,fun n hn w2 _=>by
    simp at hn;subst hn
    cases q<;>simp [Builtin.firstCells,loadCells,loadCellsFrom]⟩
   cases q with
   |none=>simp [Builtin.firstCells]
   |some q=>simp [Builtin.firstCells,loadCells,loadCellsFrom]
  ·obtain⟨k1,k2⟩:=r.cells
   obtain⟨vs,j1,j2,j3⟩:=k1.G9
   have hl:vs.length=ys.length*sz:=by rw[←j1.length,k2]
   refine⟨vs,fun w2 hw=>?_,j1,j2,hl,fun e he=>?_,fun n hn w2 hw=>?_⟩
   ·have:=run_loadCells_list (P:=P) w2 ⟨b,off,none⟩ vs (fun j v hj=>by rw[lB];have:=j3 j v hj;simpa [World.cell?,hw]using this)
    rw[hl]at this
    simp [Builtin.firstCells,this]
   ·obtain⟨i,hi,rfl⟩:=List.mem_iff_getElem.1 he
    exact(bg.nth r (i:=i) (by simp [hi])).1
   ·have hnl:n*sz≤vs.length:=by rw[hl];exact Nat.mul_le_mul_right _ hn
    have:=run_loadCells_list (P:=P) w2 ⟨b,off,none⟩ (vs.take (n*sz)) (fun j v hj=>by
     rw[lB]
     have:=j3 j v (by rw[List.getElem?_take]at hj;split at hj;exact hj;cases hj)
     simpa [World.cell?,hw]using this)
    rw[List.length_take,Nat.min_eq_left hnl]at this
    simp [Builtin.firstCells,this]
 cases y<;>simp only[A.elems]at h<;>first|(cases h;done)|skip
 case aB=>
  injection h with h;subst h
  simp only[ah]at r;subst r
  obtain⟨cs,k⟩:=main none 0 [] (.inl rfl)
  exact⟨none,0,cs,rfl,k⟩
 case ez=>
  injection h with h;subst h
  simp only[ah]at r;obtain⟨q,rfl⟩:=r
  obtain⟨cs,k⟩:=main q 0 [] (.inl rfl)
  exact⟨q,0,cs,rfl,k⟩
 case sl sz' es=>
  split at h
  ·rename_i hs
   subst hs
   injection h with h;subst h
   simp only[ah]at r
   obtain⟨q,cap,rfl,hcap,_,r⟩:=r
   obtain⟨cs,k⟩:=main q cap es (by
    rcases r with r|⟨b,off,e,_,_,r⟩
    ·exact .inl r
    ·exact .inr ⟨b,off,e,r⟩)
   exact⟨q,cap,cs,rfl,k⟩
  ·cases h
 case os id g nC off len=>
  simp only[ah]at r
  obtain⟨hg,p,e1,e2,q,cap,rfl,hcap,r⟩:=r
  split at h
  ·rename_i g' sz' es hs
   split at h
   ·rename_i hc
    obtain⟨rfl,rfl,rfl,hle⟩:=hc
    injection h with h;subst h
    obtain⟨j1,j2,j3,j4,j5,j6,j7,_⟩:=hh.blk id p _ e1 hs
    obtain⟨k1,k2,k3⟩:=r j1.symm
    have hlen:((es.drop off).take len).length=len:=by simp;omega
    obtain⟨cs,k⟩:=main (some q) cap ((es.drop off).take len) (by
     by_cases hz:len=0
     ·left;subst hz;simp
     ·right
      rcases k2 with k2|k2
      ·omega
      ·exact⟨_,_,by rw[k2],by rw[j3];exact(j7.drop off).take len⟩)
    rw[hlen]at k ⊢
    exact⟨some q,cap,cs,rfl,k⟩
   ·cases h
  ·rename_i g' sz' es hs
   split at h
   ·rename_i hc
    obtain⟨rfl,rfl,rfl,hle⟩:=hc
    injection h with h;subst h
    obtain⟨j1,j2,j3,j4,j5,j6,j7,_⟩:=hh.blk id p _ e1 hs
    obtain⟨k1,k2,k3⟩:=r j1.symm
    have hlen:((es.drop off).take len).length=len:=by simp;omega
    obtain⟨cs,k⟩:=main (some q) cap ((es.drop off).take len) (by
     by_cases hz:len=0
     ·left;subst hz;simp
     ·right
      rcases k2 with k2|k2
      ·omega
      ·exact⟨_,_,by rw[k2],by rw[j3];exact(j7.drop off).take len⟩)
    rw[hlen]at k ⊢
    exact⟨some q,cap,cs,rfl,k⟩
   ·cases h
  ·cases h
theorem IV {P:Program} {c:RC} {σ:Heap} (hh:fq c σ) {sz:Nat} {y:U} {v:Value} {ys:List (List U)} (h:A.elems sz y σ=some ys) (r:ah c y v):
  ∃(q:Option Addr) (cap:Nat) (cs:List Value),v=.slice q ys.length cap∧(∀w2:World,w2.heap=c.w.heap→(Builtin.firstCells sz ys.length v).run P w2=.ok cs.toArray w2)∧aC c ys.flatten cs∧(∀x∈cs,cu x=true)∧cs.length=ys.length*sz∧(∀e∈ys,e.length=sz):=by
 obtain⟨q,cap,cs,h1,h2,h3,h4,h5,h6,_⟩:=NR (P:=P) hh h r
 exact⟨q,cap,cs,h1,h2,h3,h4,h5,h6⟩
theorem Nb {sz:Nat}:∀{ys:List (List U)} {n:Nat},(∀y∈ys,y.length=sz)→n≤ys.length→(ys.take n).flatten=ys.flatten.take (n*sz)
 |[],n,_,hn=>by simp
 |y::ys,0,_,_=>by simp
 |y::ys,n+1,h,hn=>by
  simp at hn
  rw[List.take_succ_cons,List.flatten_cons,List.flatten_cons,Nb (fun x hx=>h x (by simp [hx])) hn,List.take_append,h y (by simp),Nat.add_mul,Nat.one_mul]
  congr 1
  ·rw[List.take_of_length_le (by rw[h y (by simp)];omega)]
  ·congr 1;omega
theorem XQ (P:Program) {e:TypeId} {i:TypeInfo} {zv:Value} (hi:P.info? e=some i) (hz:i.zero=some zv) (w:World):(zeroValue e).run P w=.ok zv w:=by simp [zeroValue,qi w hi,hz]
theorem VF {P:Program} {t u e e' ty:TypeId} {i:TypeInfo} {zv:Value} (ht:P.underlying t=some (.slice e)) (hu:P.underlying u=some (.slice e')) (hi:P.info? e=some i) (hz:i.zero=some zv) (hb0:i.bytes≠0)
  {base q:Option Addr} {sLen sCap n cap:Nat} {olds news:List Value} (hold:(Builtin.firstCells i.size sLen (.slice base sLen sCap)).run P w.drew=.ok olds.toArray w.drew) (hnew:(Builtin.firstCells i.size n (.slice q n cap)).run P w.drew=.ok news.toArray w.drew)
  (hg:sCap<sLen+n) (hm:sLen+n≤140737488355328 / i.bytes):
  (Builtin.append_ #[t,u] ty #[.slice base sLen sCap,.slice q n cap]).run P w=
   .ok (.slice (some ⟨w.heap.size,0,none⟩) (sLen+n) (grownCap w (sLen+n) sCap e)) (w.drew.alloc (.cells (olds.toArray++news.toArray++Builtin.zeroCells zv.cells (grownCap w (sLen+n) sCap e-(sLen+n))) e)):=by
 have Gl:(sLen+n)*i.bytes≤140737488355328:=by
  have:=Nat.mul_le_mul_right i.bytes hm
  have:=Nat.div_mul_le_self 140737488355328 i.bytes
  omega
 have h48:=growslice_fits hg Gl
 have hn:¬(sLen+n≤sCap):=by omega
 have CG:¬(281474976710656<Builtin.nextslicecap (sLen+n) sCap*i.bytes):=by omega
 simp [Builtin.append_,run_underlying ht,run_underlying hu,sizeOf,typeInfo,zeroValue,hi,hz,Builtin.lenOf,hn,CG,hb0,Question.forced,hold,hnew,newRow,grownCap]
 congr 2
 apply Array.ext'
 simp [List.append_assoc]
theorem aX.sub {c:RC} {b:Nat} {arr:Array Value} {t:TypeId} {fz:Nat×Nat} (h:c.w.heap[b]? =some (.cells arr t fz)) {cs:List U} {vs pre suf:List Value} (ha:arr.toList=pre++vs++suf) (hr:aC c cs vs) (ho:∀x∈vs,cu x=true):aX c b pre.length cs:=by
 refine aX.tP h hr ho fun i hi=>?_
 rw[←Array.getElem?_toList,ha,List.append_assoc,List.getElem?_append_right (by omega),List.getElem?_append_left (by omega)]
 congr 1;omega
theorem aX.yI {c:RC} {sz b:Nat}:∀{es:List (List U)} {off:Nat},(∀e∈es,e.length=sz)→aX c b off es.flatten→bg c sz b off es
 |[],off,_,_=>by simp [bg]
 |e::es,off,hl,h=>by
  simp only[List.flatten_cons]at h
  have he:=hl e (by simp)
  simp only[bg]
  refine⟨he,?_,aX.yI (fun x hx=>hl x (by simp [hx])) ?_⟩
  ·have:=h.take e.length;simpa using this
  ·have:=h.drop e.length;rw[he]at this;simpa [←he]using this
theorem bg.append {c:RC} {sz b:Nat}:∀{l m:List (List U)} {off:Nat},bg c sz b off l→bg c sz b (off+l.length*sz) m→bg c sz b off (l++m)
 |[],m,off,h,k=>by simpa using k
 |e::l,m,off,h,k=>by
  simp only[bg,List.cons_append]at h ⊢
  refine⟨h.1,h.2.1,bg.append h.2.2 ?_⟩
  rw[show off+sz+l.length*sz=off+(e::l).length*sz by simp [Nat.add_mul];omega]
  exact k
theorem bg.keep {c c':RC} (hx:Ext c c') {sz b:Nat} {es:List (List U)} {off:Nat} (h:bg c sz b off es) (hc:∀j,off≤j→j<off+es.length*sz→c'.w.cell? ⟨b,j,none⟩=c.w.cell? ⟨b,j,none⟩):bg c' sz b off es:=by
 refine bg.of fun i e hi=>?_
 obtain⟨h1,h2⟩:=bg.nth h hi
 refine⟨h1,aX.of fun k av hk=>?_⟩
 obtain⟨u,k1,k2,k3⟩:=aX.nth h2 hk
 refine⟨u,?_,k2,ah.mono hx _ _ k3⟩
 have hil:i<es.length:=(List.getElem?_eq_some_iff.1 hi).1
 have nS:k<sz:=by rw[←h1];exact(List.getElem?_eq_some_iff.1 hk).1
 have:(i+1)*sz≤es.length*sz:=Nat.mul_le_mul_right _ hil
 rw[Nat.add_mul]at this
 rw[←k1]
 exact hc _ (by omega) (by omega)
theorem Jf (h:St X z s a w E pb) {id:Nat} {p:Pl} {g sz i:Nat} {es ys:List (List U)} {arr:Array Value} {bt:TypeId} {news:List Value} (e1:E[id]? =some p) (hs:s.σ[id]? =some (.arr g sz es)) (hb:w.heap[p.b]? =some (.cells arr bt (0,0)))
  (hfit:i+ys.length≤es.length) (hr:aC (ctx z w E pb) ys.flatten news) (ho:∀x∈news,cu x=true) (hy:∀y∈ys,y.length=sz) (hn:news.length=ys.length*sz):
  p.base+i*sz+news.length≤arr.size∧St X z (s.heap (s.σ.set id (.arr g sz (es.take i++ys++es.drop (i+ys.length))))) a (w.cL p.b (.cells (eD arr (p.base+i*sz) news) bt (0,0))) E pb:=by
 obtain⟨j1,j2,j3,j4,⟨qv,bt',j5,j6⟩,j7,j8,j9⟩:=h.heap.blk id p _ e1 hs
 have T0:w.heap[p.b]? =some (.cells qv bt' (0,0)):=j5
 rw[hb]at T0
 injection T0 with j5d
 injection j5d with j5e j5f
 subst j5e j5f
 have hm:(i+ys.length)*sz≤es.length*sz:=Nat.mul_le_mul_right _ hfit
 rw[Nat.add_mul]at hm
 have wm:p.base+i*sz+news.length≤arr.size:=by rw[hn,j6];omega
 refine⟨wm,h.sX e1 _ _ fun hx=>?_⟩
 have hlt:p.b<w.heap.size:=h.heap.lt (p:=p) (List.mem_of_getElem? e1)
 have hh:=qR (w:=w) (.cells (eD arr (p.base+i*sz) news) bt (0,0)) hlt
 have hcell:∀j,(w.cL p.b (.cells (eD arr (p.base+i*sz) news) bt (0,0))).cell? ⟨p.b,j,none⟩=(eD arr (p.base+i*sz) news)[j]? :=fun j=>sI hh
 have hold:∀j,w.cell? ⟨p.b,j,none⟩=arr[j]? :=fun j=>sI hb
 have out:∀j,(j<p.base+i*sz∨p.base+i*sz+news.length≤j)→(w.cL p.b (.cells (eD arr (p.base+i*sz) news) bt (0,0))).cell? ⟨p.b,j,none⟩=w.cell? ⟨p.b,j,none⟩:=by
  intro j hj
  rw[hcell,hold,As _ _ _ wm,if_neg (by omega)]
 have TS:(es.take i).length=i:=by simp;omega
 refine⟨j1,j2,j3,j4,⟨_,_,hh,by rw[Jy _ _ _ wm];exact j6⟩,?_,?_,vR hh (Ap (j9 _ _ _ hb) ho)⟩
 ·have:(es.take i++ys++es.drop (i+ys.length)).length=es.length:=by simp;omega
  rw[this];exact j7
 ·refine bg.append (bg.append (bg.keep hx (j8.take i) fun j hj1 hj2=>?_) ?_) (bg.keep hx ?_ fun j hj1 hj2=>?_)
  ·rw[TS]at hj2
   exact out j (.inl hj2)
  ·rw[TS]
   refine aX.yI hy ?_
   refine aX.tP hh (aC.mono hx _ _ hr) ho fun j hj=>?_
   show(eD arr (p.base+i*sz) news)[p.base+i*sz+j]? =_
   rw[As _ _ _ wm,if_pos (by omega)]
   congr 1;omega
  ·have:=j8.drop (i+ys.length)
   have e:(es.take i++ys).length=i+ys.length:=by simp;omega
   rw[e];exact this
  ·have e:(es.take i++ys).length=i+ys.length:=by simp;omega
   rw[e,Nat.add_mul]at hj1
   refine out j (.inr ?_)
   rw[hn];omega
theorem Et {zv:Value} {sz:Nat} (h:zv.cells.size=sz) (h0:sz≠0) (n:Nat):(Builtin.zeroCells zv.cells n).toList=(List.replicate n zv.cells.toList).flatten:=by
 have:=range_zero zv.cells.toList (by simp;omega) n
 rw[←this]
 simp [Builtin.zeroCells]
theorem YZ (h:St X z s a w E pb) {t e ty:TypeId} {i:TypeInfo} {zv:Value} {zs:List U} (ht:X.P.underlying t=some (.slice e)) (hzv:∀w,(zeroValue e).run X.P w=.ok zv w) (hzs:zv.cells.size=i.size) (h0:i.size≠0)
  (nv:∀c,aC c zs zv.cells.toList) (hone:∀x∈zv.cells.toList,cu x=true) {x:U} {v:Value} {σ':Heap} (gd:A.yg i.size zs x s.σ=some σ') (rx:ah (ctx z w E pb) x v):
  ∃w',(Builtin.clear_ #[t] ty #[v]).run X.P w=.ok (.tuple #[]) w'∧St X z (s.heap σ') a w' E pb:=by
 unfold A.yg at gd
 have hs:s.heap s.σ=s:=rfl
 split at gd
 ·injection gd with gd;subst gd
  simp only[ah]at rx;subst rx
  exact⟨w,by simp [Builtin.clear_,run_underlying ht],by rw[hs];exact h⟩
 ·injection gd with gd;subst gd
  simp only[ah]at rx;obtain⟨q,rfl⟩:=rx
  exact⟨w,by cases q<;>simp [Builtin.clear_,run_underlying ht],by rw[hs];exact h⟩
 ·injection gd with gd;subst gd
  simp only[ah]at rx;obtain⟨q,cap,rfl,_⟩:=rx
  exact⟨w,by cases q<;>simp [Builtin.clear_,run_underlying ht],by rw[hs];exact h⟩
 ·rename_i id g nC off len
  simp only[ah]at rx
  obtain⟨hg,p,e1,e2,qa,cp,rfl,hcap,rx⟩:=rx
  split at gd
  ·rename_i g' sz' es hs'
   split at gd
   ·rename_i hc
    obtain⟨hc1,oG,yY,Dh⟩:=hc
    subst hc1;subst oG;subst yY
    obtain⟨j1,j2,j3,j4,⟨arr,bt,j5,j6⟩,j7,j8,j9⟩:=h.heap.blk id p _ e1 hs'
    obtain⟨k1,k2,k3⟩:=rx j1.symm
    split at gd
    ·rename_i hl
     subst hl
     injection gd with gd;subst gd
     exact⟨w,by simp [Builtin.clear_,run_underlying ht],by rw[hs];exact h⟩
    ·rename_i hl
     injection gd with gd;subst gd
     have vg:qa=⟨p.b,p.base+off*p.sz,none⟩:=by
      rcases k2 with k2|k2
      ·omega
      ·exact k2
     have hsz:p.sz=i.size:=j3
     have hzl:zs.length=i.size:=by rw[(nv (ctx z w E pb)).length];simpa using hzs
     have Lk:aC (ctx z w E pb) (List.replicate len zs).flatten (Builtin.zeroCells zv.cells len).toList:=by
      rw[Et hzs h0];exact(nv _).flatten len
     have Sp:∀x∈(Builtin.zeroCells zv.cells len).toList,cu x=true:=by
      rw[Et hzs h0]
      intro x hx
      obtain⟨l,lS,rZ⟩:=List.mem_flatten.1 hx
      rw[List.mem_replicate]at lS
      exact hone x (lS.2▸rZ)
     have hlen:(Builtin.zeroCells zv.cells len).toList.length=len*i.size:=by rw[Array.length_toList,size_zeroCells,hzs]
     obtain⟨q1,q2⟩:=Jf h (i:=off) (ys:=List.replicate len zs) e1 hs' j5 (by simpa using Dh) Lk Sp (fun y hy=>by rw[(List.mem_replicate.1 hy).2];exact hzl) (by simpa using hlen)
     have hst:=zJ (P:=X.P) (b:=p.b) (off:=p.base+off*i.size) (t:=bt) (Builtin.zeroCells zv.cells len).toList 0 w arr j5 (by omega) Sp
     rw[List.length_replicate]at q2
     refine⟨_,?_,q2⟩
     obtain⟨m,rfl⟩:∃m,len=m+1:=⟨len-1,by omega⟩
     rw[vg,hsz]
     simp [Builtin.clear_,run_underlying ht,hzv,hst]
   ·cases gd
  ·cases gd
 ·cases gd
structure abX (P : Program) (t u : TypeId) (vy : Value) (e : TypeId) (i : TypeInfo) (zv : Value) (n : Nat) (news : List Value) (w : World) : Prop where
 Be:∀(w2:World) (ty:TypeId) (base:Option Addr) (sLen sCap:Nat),w2.heap=w.heap→sLen+n≤sCap→
  (Builtin.append_ #[t,u] ty #[.slice base sLen sCap,vy]).run P w2=((match base with|some a=>storeCells (a.add (sLen*i.size)) news 0|none=>pure ()) >>= fun _=>pure (Value.slice base (sLen+n) sCap):Sem Value).run P w2
 new:∀(ty:TypeId) (base:Option Addr) (sLen sCap:Nat) (olds:List Value),(Builtin.firstCells i.size sLen (.slice base sLen sCap)).run P w.drew=.ok olds.toArray w.drew→sCap<sLen+n→sLen+n≤140737488355328 / i.bytes→
  (Builtin.append_ #[t,u] ty #[.slice base sLen sCap,vy]).run P w=
   .ok (.slice (some ⟨w.heap.size,0,none⟩) (sLen+n) (grownCap w (sLen+n) sCap e)) (w.drew.alloc (.cells (olds.toArray++news.toArray++Builtin.zeroCells zv.cells (grownCap w (sLen+n) sCap e-(sLen+n))) e))
theorem OM {zv:Value} {sz:Nat} (hzs:zv.cells.size=sz) (h0:sz≠0) (hone:∀x∈zv.cells.toList,cu x=true) (n:Nat):∀x∈(Builtin.zeroCells zv.cells n).toList,cu x=true:=by
 rw[Et hzs h0]
 intro x hx
 obtain⟨l,lS,rZ⟩:=List.mem_flatten.1 hx
 rw[List.mem_replicate]at lS
 exact hone x (lS.2▸rZ)
theorem FU {zv:Value} {sz:Nat} (hzs:zv.cells.size=sz) (h0:sz≠0) (hone:∀x∈zv.cells.toList,cu x=true) {olds news:List Value} (h1:∀x∈olds,cu x=true) (h2:∀x∈news,cu x=true) (n:Nat):
  ∀x∈(olds.toArray++news.toArray++Builtin.zeroCells zv.cells n).toList,cu x=true:=by
 intro x hx
 simp only[Array.toList_append,List.toList_toArray,List.mem_append]at hx
 rcases hx with(hx|hx)|hx
 ·exact h1 x hx
 ·exact h2 x hx
 ·exact OM hzs h0 hone n x hx
theorem NM (h:St X z s a w E pb) {t u e ty:TypeId} {i:TypeInfo} {zv:Value} (hzs:zv.cells.size=i.size) (h0:i.size≠0) (hone:∀x∈zv.cells.toList,cu x=true)
  {x:U} {v vy:Value} {r:U} {σ':Heap} {ys:List (List U)} {news:List Value} (hs2:abX X.P t u vy e i zv ys.length news w) (hn2:aC (ctx z w E pb) ys.flatten news) (kE:∀x∈news,cu x=true) (nu:news.length=ys.length*i.size) (pW:∀y∈ys,y.length=i.size)
  (hap:A.jG i.size (140737488355328 / i.bytes) x ys s.σ=some (r,σ')) (rx:ah (ctx z w E pb) x v):
  ∃k w' E',(Builtin.append_ #[t,u] ty #[v,vy]).run X.P w=.ok k w'∧St X z (s.heap σ') a w' E' pb∧ah (ctx z w' E' pb) r k:=by
 unfold A.jG at hap
 have hne:ys≠[]→0<ys.length:=fun k=>by cases ys with|nil=>exact absurd rfl k|cons y ys=>simp
 have GF:∀k,(Builtin.zeroCells zv.cells k).size=k*i.size:=fun k=>by rw[size_zeroCells,hzs]
 cases x<;>simp only at hap<;>first|(cases hap;done)|skip
 case aB=>
  simp only[ah]at rx;subst rx
  split at hap
  ·rename_i hys
   subst hys
   simp only[Option.some.injEq,Prod.mk.injEq]at hap
   obtain⟨rfl,rfl⟩:=hap
   exact⟨.slice none 0 0,w,E,by have:=hs2.Be w ty none 0 0 rfl (by simp);simpa using this,h,by simp [ah]⟩
  ·rename_i hys
   have hpos:=hne hys
   split at hap
   ·rename_i acj
    simp only[Option.some.injEq,Prod.mk.injEq]at hap
    obtain⟨rfl,rfl⟩:=hap
    have hrun:=hs2.new ty none 0 0 [] (by simp [Builtin.firstCells]) (by omega) (by omega)
    simp only[Nat.zero_add]at hrun
    refine⟨_,_,E++[⟨w.heap.size,0,ys.length,i.size,(news.toArray++Builtin.zeroCells zv.cells (grownCap w ys.length 0 e-ys.length)).size⟩],hrun,?_,?_⟩
    ·have hst:=(h.grow (w':=w.drew) ((Below.refl _ _).drew)).uw (.cells (#[]++news.toArray++Builtin.zeroCells zv.cells (grownCap w ys.length 0 e-ys.length)) e) (.arr ys.length i.size ys)
      ⟨w.heap.size,0,ys.length,i.size,(news.toArray++Builtin.zeroCells zv.cells (grownCap w ys.length 0 e-ys.length)).size⟩ rfl (fun hx=>?_)
     ·exact hst
     ·have hb:(w.drew.alloc (.cells (#[]++news.toArray++Builtin.zeroCells zv.cells (grownCap w ys.length 0 e-ys.length)) e)).heap[w.heap.size]? =some (.cells (#[]++news.toArray++Builtin.zeroCells zv.cells (grownCap w ys.length 0 e-ys.length)) e (0,0)):=(MapKept.heap_alloc w.drew _).1
      refine⟨rfl,hpos,rfl,by omega,⟨_,_,hb,by simp⟩,by simp [nu],aX.yI pW ?_,vR hb (FU hzs h0 hone (olds:=[]) (by simp) kE _)⟩
      exact aX.sub (pre:=[]) (suf:=(Builtin.zeroCells zv.cells (grownCap w ys.length 0 e-ys.length)).toList) hb (by simp) (aC.mono (Ext.trans (sN ((Below.refl _ _).drew)) hx) _ _ hn2) kE
    ·simp only[ah]
     have hlen:=h.heap.len
     simp only[ctx]at hlen
     refine⟨hpos,⟨w.heap.size,0,ys.length,i.size,_⟩,by show(E++[_])[s.σ.length]? =_;rw[←hlen];exact List.getElem?_concat_length,Nat.le_refl _,_,_,rfl,grownCap_ge _ _ _ _,fun _=>⟨rfl,.inr (by simp),?_⟩⟩
     have:=grownCap_ge w ys.length 0 e
     simp only[Array.size_append,GF,List.size_toArray,nu,Nat.zero_add]
     rw[←Nat.add_mul]
     congr 1;omega
   ·cases hap
 case ez=>
  simp only[ah]at rx;obtain⟨qb,rfl⟩:=rx
  split at hap
  ·rename_i hys
   subst hys
   simp only[Option.some.injEq,Prod.mk.injEq]at hap
   obtain⟨rfl,rfl⟩:=hap
   have hnews:news=[]:=by simpa using nu
   subst hnews
   exact⟨.slice qb 0 0,w,E,by have:=hs2.Be w ty qb 0 0 rfl (by simp);cases qb<;>simpa [storeCells]using this,h,by simp [ah]⟩
  ·rename_i hys
   have hpos:=hne hys
   split at hap
   ·rename_i acj
    simp only[Option.some.injEq,Prod.mk.injEq]at hap
    obtain⟨rfl,rfl⟩:=hap
    have hrun:=hs2.new ty qb 0 0 [] (by cases qb<;>simp [Builtin.firstCells,loadCells,loadCellsFrom]) (by omega) (by omega)
    simp only[Nat.zero_add]at hrun
    refine⟨_,_,E++[⟨w.heap.size,0,ys.length,i.size,(news.toArray++Builtin.zeroCells zv.cells (grownCap w ys.length 0 e-ys.length)).size⟩],hrun,?_,?_⟩
    ·have hst:=(h.grow (w':=w.drew) ((Below.refl _ _).drew)).uw (.cells (#[]++news.toArray++Builtin.zeroCells zv.cells (grownCap w ys.length 0 e-ys.length)) e) (.arr ys.length i.size ys)
      ⟨w.heap.size,0,ys.length,i.size,(news.toArray++Builtin.zeroCells zv.cells (grownCap w ys.length 0 e-ys.length)).size⟩ rfl (fun hx=>?_)
     ·exact hst
     ·have hb:(w.drew.alloc (.cells (#[]++news.toArray++Builtin.zeroCells zv.cells (grownCap w ys.length 0 e-ys.length)) e)).heap[w.heap.size]? =some (.cells (#[]++news.toArray++Builtin.zeroCells zv.cells (grownCap w ys.length 0 e-ys.length)) e (0,0)):=(MapKept.heap_alloc w.drew _).1
      refine⟨rfl,hpos,rfl,by omega,⟨_,_,hb,by simp⟩,by simp [nu],aX.yI pW ?_,vR hb (FU hzs h0 hone (olds:=[]) (by simp) kE _)⟩
      exact aX.sub (pre:=[]) (suf:=(Builtin.zeroCells zv.cells (grownCap w ys.length 0 e-ys.length)).toList) hb (by simp) (aC.mono (Ext.trans (sN ((Below.refl _ _).drew)) hx) _ _ hn2) kE
    ·simp only[ah]
     have hlen:=h.heap.len
     simp only[ctx]at hlen
     refine⟨hpos,⟨w.heap.size,0,ys.length,i.size,_⟩,by show(E++[_])[s.σ.length]? =_;rw[←hlen];exact List.getElem?_concat_length,Nat.le_refl _,_,_,rfl,grownCap_ge _ _ _ _,fun _=>⟨rfl,.inr (by simp),?_⟩⟩
     have:=grownCap_ge w ys.length 0 e
     simp only[Array.size_append,GF,List.size_toArray,nu,Nat.zero_add]
     rw[←Nat.add_mul]
     congr 1;omega
   ·cases hap
 case os tQ og nC off len=>
  have Mp:=rx
  simp only[ah]at rx
  obtain⟨hg,p,e1,e2,qa,cp,rfl,hcap,rx⟩:=rx
  split at hap
  ·rename_i g' sz' es hs
   split at hap
   ·rename_i hc
    obtain⟨hc1,oG,yY,Dh,LW⟩:=hc
    subst hc1;subst oG;subst yY
    obtain⟨j1,j2,j3,j4,⟨arr,bt,j5,j6⟩,j7,j8,j9⟩:=h.heap.blk tQ p _ e1 hs
    obtain⟨k1,k2,k3⟩:=rx j1.symm
    split at hap
    ·rename_i hys
     subst hys
     simp only[Option.some.injEq,Prod.mk.injEq]at hap
     obtain⟨rfl,rfl⟩:=hap
     have hnews:news=[]:=by simpa using nu
     subst hnews
     exact⟨.slice (some qa) len cp,w,E,by have:=hs2.Be w ty (some qa) len cp rfl (by simpa using hcap);simpa [storeCells]using this,h,Mp⟩
    ·rename_i hys
     have hpos:=hne hys
     have KY:(off+cp)*i.size=p.nj-p.base:=by rw[←j3];omega
     split at hap
     ·rename_i hin
      simp only[Option.some.injEq,Prod.mk.injEq]at hap
      obtain⟨rfl,rfl⟩:=hap
      obtain⟨q1,q2⟩:=Jf h (i:=off+len) (ys:=ys) e1 hs j5 (by omega) hn2 kE pW nu
      have gd:es.length≤off+cp:=by
       have h1:es.length*i.size≤(off+cp)*i.size:=by rw[KY];omega
       exact Nat.le_of_mul_le_mul_right h1 (by omega)
      have hroom:len+ys.length≤cp:=by omega
      have vg:qa=⟨p.b,p.base+off*p.sz,none⟩:=by
       rcases k2 with k2|k2
       ·omega
       ·exact k2
      have hsz:p.sz=i.size:=j3
      have hst:=zJ (P:=X.P) (b:=p.b) (off:=p.base+(off+len)*i.size) (t:=bt) news 0 w arr j5 (by omega) kE
      have hrun:(Builtin.append_ #[t,u] ty #[.slice (some qa) len cp,vy]).run X.P w=.ok (.slice (some qa) (len+ys.length) cp) (w.cL p.b (.cells (eD arr (p.base+(off+len)*i.size) news) bt (0,0))):=by
       have tM:qa.add (len*i.size)=⟨p.b,p.base+(off+len)*i.size,none⟩:=by rw[vg,lB,hsz];congr 1;rw[Nat.add_mul];omega
       rw[hs2.Be w ty (some qa) len cp rfl hroom];simp [tM,hst]
      refine⟨_,_,E,hrun,q2,?_⟩
      simp only[ah]
      exact⟨hg,p,e1,e2,qa,cp,rfl,hroom,fun _=>⟨hsz,.inr vg,k3⟩⟩
     simp only[Option.some.injEq,Prod.mk.injEq]at hap
     obtain⟨rfl,rfl⟩:=hap
     have nr:((es.drop off).take len).length=len:=by simp;omega
     by_cases hroom:len+ys.length≤cp
     ·-- room
      have vg:qa=⟨p.b,p.base+off*p.sz,none⟩:=by
       rcases k2 with k2|k2
       ·omega
       ·exact k2
      have hsz:p.sz=i.size:=j3
      have hcc:(off+(len+ys.length))*i.size≤(off+cp)*i.size:=Nat.mul_le_mul_right _ (by omega)
      rw[hsz]at k3
      have ad2:(off+len)*i.size=off*i.size+len*i.size:=Nat.add_mul _ _ _
      have adU:(off+(len+ys.length))*i.size=(off+len)*i.size+ys.length*i.size:=by rw[←Nat.add_assoc,Nat.add_mul]
      have hfit:p.base+(off+len)*i.size+0+news.length≤arr.size:=by rw[nu,j6];omega
      have hst:=zJ (P:=X.P) (b:=p.b) (off:=p.base+(off+len)*i.size) (t:=bt) news 0 w arr j5 hfit kE
      have hrun:(Builtin.append_ #[t,u] ty #[.slice (some qa) len cp,vy]).run X.P w=.ok (.slice (some qa) (len+ys.length) cp) (w.cL p.b (.cells (eD arr (p.base+(off+len)*i.size) news) bt (0,0))):=by
       have tM:qa.add (len*i.size)=⟨p.b,p.base+(off+len)*i.size,none⟩:=by rw[vg,lB,hsz];congr 1;omega
       rw[hs2.Be w ty (some qa) len cp rfl hroom];simp [tM,hst]
      have hlt:p.b<w.heap.size:=h.heap.lt (p:=p) (List.mem_of_getElem? e1)
      have hh:=qR (w:=w) (.cells (eD arr (p.base+(off+len)*i.size) news) bt (0,0)) hlt
      have wm:p.base+(off+len)*i.size+news.length≤arr.size:=by omega
      have i6:=h.move (id:=tQ) (p:=p) (p':=⟨p.b,p.base+off*i.size,og+ys.length,i.size,p.nj⟩) (w':=w.cL p.b (.cells (eD arr (p.base+(off+len)*i.size) news) bt (0,0))) (blk:=.arr (og+ys.length) i.size ((es.drop off).take len++ys)) e1
       ⟨by omega,by show p.g<og+ys.length;omega⟩ rfl rfl rfl (by rw[xS];exact Nat.le_refl _) (fun b hb _=>tZ _ (fun e=>hb e.symm)) (.inl rfl) (fun hx=>by
        have hcell:∀j,(w.cL p.b (.cells (eD arr (p.base+(off+len)*i.size) news) bt (0,0))).cell? ⟨p.b,j,none⟩=(eD arr (p.base+(off+len)*i.size) news)[j]? :=fun j=>sI hh
        have hold:∀j,w.cell? ⟨p.b,j,none⟩=arr[j]? :=fun j=>sI j5
        refine⟨rfl,by show 0<og+ys.length;omega,rfl,by omega,⟨_,_,hh,by rw[Jy _ _ _ wm];exact j6⟩,?_,?_,vR hh (Ap (j9 _ _ _ j5) kE)⟩
        ·simp only[List.length_append,nr,Nat.add_mul];omega
        ·refine bg.append (bg.keep hx ((j8.drop off).take len) fun j hj1 hj2=>?_) ?_
         ·rw[nr]at hj2
          replace hj1:p.base+off*i.size≤j:=hj1
          replace hj2:j<p.base+off*i.size+len*i.size:=hj2
          show(w.cL p.b _).cell? _=w.cell? _
          rw[hcell,hold,As _ _ _ wm,if_neg (by omega)]
         ·rw[nr]
          refine aX.yI pW ?_
          refine aX.tP hh (aC.mono hx _ _ hn2) kE fun j hj=>?_
          show(eD arr (p.base+(off+len)*i.size) news)[p.base+off*i.size+len*i.size+j]? =_
          rw[As _ _ _ wm,if_pos (by omega)]
          congr 1;omega)
      refine⟨_,_,_,hrun,i6.1,?_⟩
      simp only[ah]
      have hid:tQ<E.length:=(List.getElem?_eq_some_iff.1 e1).1
      refine⟨by omega,⟨p.b,p.base+off*i.size,og+ys.length,i.size,p.nj⟩,by simp [ctx,hid],Nat.le_refl _,qa,cp,rfl,hroom,fun _=>⟨rfl,.inr (by rw[vg,hsz];simp),?_⟩⟩
      simp only[Nat.zero_add]
      rw[Nat.add_mul]at k3;omega
     ·have hel:A.elems i.size (.os tQ og i.size off len) s.σ=some ((es.drop off).take len):=by
       simp only[A.elems,hs]
       rw[if_pos (by simp;omega)]
      obtain⟨q2,acX,olds,C8,Dm,L2,Dn,Dp,L3⟩:=IV (P:=X.P) h.heap hel Mp
      rw[nr]at Dm Dp
      injection C8 with e2a e2b e2c
      have hrun:=hs2.new ty _ _ _ _ (Dm w.drew rfl) (by omega) LW
      obtain⟨nc,hnc⟩:∃nc,nc=grownCap w (len+ys.length) cp e:=⟨_,rfl⟩
      have Cq:len+ys.length≤nc:=by rw[hnc];exact grownCap_ge _ _ _ _
      rw[←hnc]at hrun
      obtain⟨row,hrow⟩:∃row,row=olds.toArray++news.toArray++Builtin.zeroCells zv.cells (nc-(len+ys.length)):=⟨_,rfl⟩
      have CL:row.size=nc*i.size:=by
       rw[hrow];simp only[Array.size_append,GF,List.size_toArray,nu,Dp]
       rw[←Nat.add_mul,←Nat.add_mul];congr 1;omega
      have hrl:row.toList=olds++news++(Builtin.zeroCells zv.cells (nc-(len+ys.length))).toList:=by rw[hrow];simp
      rw[←hrow]at hrun
      have hb:(w.drew.alloc (.cells row e)).heap[w.heap.size]? =some (.cells row e (0,0)):=(MapKept.heap_alloc w.drew _).1
      have i6:=h.move (id:=tQ) (p:=p) (p':=⟨w.heap.size,0,og+ys.length,i.size,row.size⟩) (w':=w.drew.alloc (.cells row e)) (blk:=.arr (og+ys.length) i.size ((es.drop off).take len++ys)) e1
       ⟨by omega,by show p.g<og+ys.length;omega⟩ rfl rfl rfl (by simp) (fun b hb' hlt=>by rw[Below.heap_alloc w.drew _ b (by simpa using hlt)];rfl) (.inr ⟨Nat.le_refl _,by simp⟩) (fun hx=>by
        refine⟨rfl,by show 0<og+ys.length;omega,rfl,by omega,⟨_,_,hb,rfl⟩,?_,aX.yI (fun x hx'=>?_) ?_,vR hb (by rw[hrow];exact FU hzs h0 hone Dn kE _)⟩
        ·simp only[List.length_append,nr,Nat.zero_add,CL]
         exact Nat.mul_le_mul_right _ Cq
        ·rcases List.mem_append.1 hx' with hx'|hx'
         ·exact L3 x hx'
         ·exact pW x hx'
        ·rw[List.flatten_append]
         exact aX.sub (pre:=[]) (vs:=olds++news) (suf:=(Builtin.zeroCells zv.cells (nc-(len+ys.length))).toList) hb (by rw[hrl];simp) (aC.mono hx _ _ (L2.append hn2)) (fun x hx'=>by
          rcases List.mem_append.1 hx' with hx'|hx'
          ·exact Dn x hx'
          ·exact kE x hx'))
      refine⟨_,_,_,hrun,i6.1,?_⟩
      simp only[ah]
      have hid:tQ<E.length:=(List.getElem?_eq_some_iff.1 e1).1
      refine⟨by omega,⟨w.heap.size,0,og+ys.length,i.size,row.size⟩,by simp [ctx,hid],Nat.le_refl _,_,_,rfl,Cq,fun _=>⟨rfl,.inr (by simp),?_⟩⟩
      simp only[Nat.zero_add,CL]
   ·cases hap
  ·rename_i g' sz' es hs
   split at hap
   ·rename_i hc
    obtain⟨hc1,oG,yY,Dh,LW,hc6⟩:=hc
    subst hc1;subst oG;subst yY
    obtain⟨j1,j2,j3,j4,⟨arr,bt,j5,j6⟩,j7,j8,j9⟩:=h.heap.blk tQ p _ e1 hs
    obtain⟨k1,k2,k3⟩:=rx j1.symm
    simp only[Option.some.injEq,Prod.mk.injEq]at hap
    obtain⟨rfl,rfl⟩:=hap
    have nr:((es.drop off).take len).length=len:=by simp;omega
    have KY:(off+cp)*i.size=es.length*i.size:=by rw[←j3]at j7 ⊢;omega
    have TI:off+cp=es.length:=Nat.eq_of_mul_eq_mul_right j4 KY
    have hel:A.elems i.size (.os tQ og i.size off len) s.σ=some ((es.drop off).take len):=by
     simp only[A.elems,hs]
     rw[if_pos (by simp;omega)]
    obtain⟨q2,acX,olds,C8,Dm,L2,Dn,Dp,L3⟩:=IV (P:=X.P) h.heap hel Mp
    rw[nr]at Dm Dp
    injection C8 with e2a e2b e2c
    have hrun:=hs2.new ty _ _ _ _ (Dm w.drew rfl) (by omega) LW
    obtain⟨nc,hnc⟩:∃nc,nc=grownCap w (len+ys.length) cp e:=⟨_,rfl⟩
    have Cq:len+ys.length≤nc:=by rw[hnc];exact grownCap_ge _ _ _ _
    rw[←hnc]at hrun
    obtain⟨row,hrow⟩:∃row,row=olds.toArray++news.toArray++Builtin.zeroCells zv.cells (nc-(len+ys.length)):=⟨_,rfl⟩
    have CL:row.size=nc*i.size:=by
     rw[hrow];simp only[Array.size_append,GF,List.size_toArray,nu,Dp]
     rw[←Nat.add_mul,←Nat.add_mul];congr 1;omega
    have hrl:row.toList=olds++news++(Builtin.zeroCells zv.cells (nc-(len+ys.length))).toList:=by rw[hrow];simp
    rw[←hrow]at hrun
    have hb:(w.drew.alloc (.cells row e)).heap[w.heap.size]? =some (.cells row e (0,0)):=(MapKept.heap_alloc w.drew _).1
    have hst:=(h.grow (w':=w.drew) ((Below.refl _ _).drew)).uw (.cells row e) (.arr (len+ys.length) i.size ((es.drop off).take len++ys))
      ⟨w.heap.size,0,len+ys.length,i.size,row.size⟩ rfl (fun hx=>by
      refine⟨rfl,by show 0<len+ys.length;omega,rfl,by omega,⟨_,_,hb,rfl⟩,?_,aX.yI (fun x hx'=>?_) ?_,vR hb (by rw[hrow];exact FU hzs h0 hone Dn kE _)⟩
      ·simp only[List.length_append,nr,Nat.zero_add,CL]
       exact Nat.mul_le_mul_right _ Cq
      ·rcases List.mem_append.1 hx' with hx'|hx'
       ·exact L3 x hx'
       ·exact pW x hx'
      ·rw[List.flatten_append]
       exact aX.sub (pre:=[]) (vs:=olds++news) (suf:=(Builtin.zeroCells zv.cells (nc-(len+ys.length))).toList) hb (by rw[hrl];simp) (aC.mono (Ext.trans (sN ((Below.refl _ _).drew)) hx) _ _ (L2.append hn2)) (fun x hx'=>by
        rcases List.mem_append.1 hx' with hx'|hx'
        ·exact Dn x hx'
        ·exact kE x hx'))
    refine⟨_,_,_,hrun,hst,?_⟩
    simp only[ah]
    have hlen:=h.heap.len
    simp only[ctx]at hlen
    refine⟨by omega,⟨w.heap.size,0,len+ys.length,i.size,row.size⟩,by show(E++[_])[s.σ.length]? =_;rw[←hlen];exact List.getElem?_concat_length,Nat.le_refl _,_,_,rfl,Cq,fun _=>⟨rfl,.inr (by simp),?_⟩⟩
    simp only[Nat.zero_add,CL]
   ·cases hap
  ·cases hap
theorem XS (h:St X z s a w E pb) {t u e e' ty:TypeId} {i:TypeInfo} {zv:Value} (ht:X.P.underlying t=some (.slice e)) (hu:X.P.underlying u=some (.slice e')) (hi:X.P.info? e=some i) (hz:i.zero=some zv) (hzs:zv.cells.size=i.size) (h0:i.size≠0) (hb0:i.bytes≠0) (hone:∀x∈zv.cells.toList,cu x=true)
  {x y:U} {v vy:Value} {r:U} {σ':Heap} (hap:A.append i.size (140737488355328 / i.bytes) x y s.σ=some (r,σ')) (rx:ah (ctx z w E pb) x v) (ry:ah (ctx z w E pb) y vy):
  ∃k w' E',(Builtin.append_ #[t,u] ty #[v,vy]).run X.P w=.ok k w'∧St X z (s.heap σ') a w' E' pb∧ah (ctx z w' E' pb) r k:=by
 unfold A.append at hap
 obtain⟨ys,hy,hap⟩:=Option.bind_eq_some_iff.1 hap
 obtain⟨q,cap,news,rfl,hn1,hn2,kE,nu,pW⟩:=IV (P:=X.P) h.heap hy ry
 refine NM h hzs h0 hone ⟨fun w2 ty base sLen sCap hw hr=>?_,fun ty base sLen sCap olds ho hg hm=>VF ht hu hi hz hb0 ho (hn1 w.drew rfl) hg hm⟩ hn2 kE nu pW hap rx
 cases base<;>simp [Builtin.append_,run_underlying ht,run_underlying hu,sizeOf,typeInfo,hi,Builtin.lenOf,hn1 w2 hw,hr]
theorem M3 (zs:Array Value):Builtin.zeroCells zs 0=#[]:=by
 apply Array.toList_inj.1
 apply List.eq_nil_of_length_eq_zero
 rw[Array.length_toList,size_zeroCells];simp
theorem VE {P:Program} {t u e ty:TypeId} {k k':IntKind} {i:TypeInfo} {zv:Value} (ht:P.underlying t=some (.slice e)) (hu:P.underlying u=some (.int k)) (hi:P.info? e=some i) (hz:i.zero=some zv) (hb0:i.bytes≠0) (h0:i.size≠0)
  {base:Option Addr} {sLen sCap n:Nat} {w2:World} (hm:n≤140737488355328 / i.bytes) (hr:sLen+n≤sCap):
  (Builtin.append_ #[t,u] ty #[.slice base sLen sCap,.int k' n]).run P w2=((match base with|some a=>storeCells (a.add (sLen*i.size)) (Builtin.zeroCells zv.cells n).toList 0|none=>pure ()) >>= fun _=>pure (Value.slice base (sLen+n) sCap):Sem Value).run P w2:=by
 have Gl:n*i.bytes≤140737488355328:=by
  have:=Nat.mul_le_mul_right i.bytes hm
  have:=Nat.div_mul_le_self 140737488355328 i.bytes
  omega
 have hle:n≤n*i.bytes:=Nat.le_mul_of_pos_right _ (by omega)
 have hw:IntKind.i64.wrap (n:Int)=(n:Int):=by rw[IntKind.wrap_i64];omega
 have hl:¬((281474976710656:Int)<(n:Int)*(i.bytes:Int)):=by
  have:(n:Int)*(i.bytes:Int)=((n*i.bytes:Nat):Int):=by simp
  omega
 have hlf:¬((n:Int)<0):=by omega
 by_cases hn0:n=0
 ·subst hn0
  have hw0:IntKind.i64.wrap 0=0:=by decide
  have hr':sLen≤sCap:=by omega
  cases base<;>simp [Builtin.append_,run_underlying ht,run_underlying hu,sizeOf,typeInfo,hi,asInt,asIntOf,hw0,hr',M3]
 ·have Bb:n*i.size≠0:=Nat.mul_ne_zero hn0 h0
  cases base<;>simp [Builtin.append_,run_underlying ht,run_underlying hu,sizeOf,typeInfo,zeroValue,hi,hz,asInt,asIntOf,hw,hl,hlf,hr,Bb]
theorem Vt {P:Program} {t u e ty:TypeId} {k k':IntKind} {i:TypeInfo} {zv:Value} (ht:P.underlying t=some (.slice e)) (hu:P.underlying u=some (.int k)) (hi:P.info? e=some i) (hz:i.zero=some zv) (hb0:i.bytes≠0) (h0:i.size≠0)
  {base:Option Addr} {sLen sCap n:Nat} {olds:List Value} (hold:(Builtin.firstCells i.size sLen (.slice base sLen sCap)).run P w.drew=.ok olds.toArray w.drew)
  (hg:sCap<sLen+n) (hm:sLen+n≤140737488355328 / i.bytes):
  (Builtin.append_ #[t,u] ty #[.slice base sLen sCap,.int k' n]).run P w=
   .ok (.slice (some ⟨w.heap.size,0,none⟩) (sLen+n) (grownCap w (sLen+n) sCap e)) (w.drew.alloc (.cells (olds.toArray++(Builtin.zeroCells zv.cells n).toList.toArray++Builtin.zeroCells zv.cells (grownCap w (sLen+n) sCap e-(sLen+n))) e)):=by
 have Gl:(sLen+n)*i.bytes≤140737488355328:=by
  have:=Nat.mul_le_mul_right i.bytes hm
  have:=Nat.div_mul_le_self 140737488355328 i.bytes
  omega
 have hle:sLen+n≤(sLen+n)*i.bytes:=Nat.le_mul_of_pos_right _ (by omega)
 have h48:=growslice_fits hg Gl
 have hn:¬(sLen+n≤sCap):=by omega
 have CG:¬(281474976710656<Builtin.nextslicecap (sLen+n) sCap*i.bytes):=by omega
 have hw:IntKind.i64.wrap (n:Int)=(n:Int):=by rw[IntKind.wrap_i64];omega
 have hnb:n*i.bytes≤(sLen+n)*i.bytes:=Nat.mul_le_mul_right _ (by omega)
 have hl:¬((281474976710656:Int)<(n:Int)*(i.bytes:Int)):=by
  have:(n:Int)*(i.bytes:Int)=((n*i.bytes:Nat):Int):=by simp
  omega
 have hlf:¬((n:Int)<0):=by omega
 have Ba:¬((9223372036854775807:Int)<(sLen:Int)+(n:Int)):=by omega
 by_cases hn0:n=0
 ·subst hn0
  have hw0:IntKind.i64.wrap 0=0:=by decide
  have adj:¬((9223372036854775807:Int)<(sLen:Int)):=by omega
  simp only[Nat.add_zero]at hn CG ⊢
  simp [Builtin.append_,run_underlying ht,run_underlying hu,sizeOf,typeInfo,zeroValue,hi,hz,asInt,asIntOf,hw0,hn,CG,hb0,Question.forced,hold,newRow,grownCap,M3,adj]
 ·have Bb:n*i.size≠0:=Nat.mul_ne_zero hn0 h0
  simp [Builtin.append_,run_underlying ht,run_underlying hu,sizeOf,typeInfo,zeroValue,hi,hz,asInt,asIntOf,hw,hl,hlf,hn,Bb,CG,hb0,Question.forced,hold,newRow,grownCap,Ba]
theorem WV (h:St X z s a w E pb) {t u e ty:TypeId} {kk:IntKind} {i:TypeInfo} {zv:Value} {zs:List U} (ht:X.P.underlying t=some (.slice e)) (hu:X.P.underlying u=some (.int kk)) (hi:X.P.info? e=some i) (hz:i.zero=some zv) (hzs:zv.cells.size=i.size) (h0:i.size≠0) (hb0:i.bytes≠0)
  (nv:∀c,aC c zs zv.cells.toList) (hone:∀x∈zv.cells.toList,cu x=true)
  {x y:U} {v vy:Value} {r:U} {σ':Heap} (hap:A.rj i.size (140737488355328 / i.bytes) zs x y s.σ=some (r,σ')) (rx:ah (ctx z w E pb) x v) (ry:ah (ctx z w E pb) y vy):
  ∃k w' E',(Builtin.append_ #[t,u] ty #[v,vy]).run X.P w=.ok k w'∧St X z (s.heap σ') a w' E' pb∧ah (ctx z w' E' pb) r k:=by
 unfold A.rj at hap
 split at hap
 ·rename_i k n
  simp only[ah]at ry;subst ry
  split at hap
  ·rename_i hn
   obtain⟨hn1,hn2⟩:=hn
   obtain⟨m,rfl⟩:∃m:Nat,n=m:=⟨n.toNat,by omega⟩
   simp only[Int.toNat_natCast]at hap
   have hzl:zs.length=i.size:=by rw[(nv (ctx z w E pb)).length];simpa using hzs
   have hm:m≤140737488355328 / i.bytes:=by omega
   refine NM (e:=e) h hzs h0 hone (ys:=List.replicate m zs) (news:=(Builtin.zeroCells zv.cells m).toList) ⟨fun w2 ty base sLen sCap hw hr=>?_,fun ty base sLen sCap olds ho hg hmm=>?_⟩ ?_ (OM hzs h0 hone m) ?_ (fun y hy=>by rw[(List.mem_replicate.1 hy).2];exact hzl) hap rx
   ·rw[List.length_replicate]at hr ⊢
    exact VE ht hu hi hz hb0 h0 hm hr
   ·rw[List.length_replicate]at hg hmm ⊢
    exact Vt ht hu hi hz hb0 h0 ho hg hmm
   ·rw[Et hzs h0];exact(nv _).flatten m
   ·rw[Array.length_toList,size_zeroCells,hzs,List.length_replicate]
  ·cases hap
 ·cases hap
theorem Z0 (h:St X z s a w E pb) {t u e e' ty:TypeId} {i:TypeInfo} (ht:X.P.underlying t=some (.slice e)) (hu:X.P.underlying u=some (.slice e')) (hi:X.P.info? e=some i) (h0:i.size≠0)
  {x y:U} {v vy:Value} {r:U} {σ':Heap} (lR:A.iH i.size x y s.σ=some (r,σ')) (rx:ah (ctx z w E pb) x v) (ry:ah (ctx z w E pb) y vy):
  ∃k w',(Builtin.copy_ #[t,u] ty #[v,vy]).run X.P w=.ok k w'∧St X z (s.heap σ') a w' E pb∧ah (ctx z w' E pb) r k:=by
 unfold A.iH at lR
 obtain⟨ys,hy,lR⟩:=Option.bind_eq_some_iff.1 lR
 obtain⟨q,cap,news,rfl,hn1,hn2,kE,nu,pW,TM⟩:=NR (P:=X.P) h.heap hy ry
 have hs0:s.heap s.σ=s:=rfl
 have Dj:(Builtin.firstCells i.size 0 (.slice q ys.length cap)).run X.P w=.ok #[] w:=by
  have:=TM 0 (Nat.zero_le _) w rfl
  simpa using this
 cases x<;>simp only at lR<;>first|(cases lR;done)|skip
 case aB=>
  simp only[Option.some.injEq,Prod.mk.injEq]at lR
  obtain⟨rfl,rfl⟩:=lR
  simp only[ah]at rx;subst rx
  exact⟨goInt 0,w,by simp [Builtin.copy_,run_underlying ht,sizeOf,typeInfo,hi,Builtin.lenOf,Dj,Nat.min],by rw[hs0];exact h,by simp [ah,goInt]⟩
 case ez=>
  simp only[Option.some.injEq,Prod.mk.injEq]at lR
  obtain⟨rfl,rfl⟩:=lR
  simp only[ah]at rx;obtain⟨qb,rfl⟩:=rx
  exact⟨goInt 0,w,by cases qb<;>simp [Builtin.copy_,run_underlying ht,sizeOf,typeInfo,hi,Builtin.lenOf,Dj,storeCells],by rw[hs0];exact h,by simp [ah,goInt]⟩
 case os=>
  rename_i tQ og nC off len ad4
  simp only[ah]at rx
  obtain⟨hg,p,e1,e2,qa,cp,rfl,hcap,rx⟩:=rx
  split at lR
  ·rename_i g' sz' es hs
   split at lR
   ·rename_i hc
    obtain⟨hc1,oG,yY,Dh⟩:=hc
    subst hc1;subst oG;subst yY
    obtain⟨j1,j2,j3,j4,⟨arr,bt,j5,j6⟩,j7,j8,j9⟩:=h.heap.blk tQ p _ e1 hs
    obtain⟨k1,k2,k3⟩:=rx j1.symm
    have hmin:Nat.min ys.length len=(ys.take len).length:=by rw[List.length_take];exact Nat.min_comm _ _
    split at lR
    ·rename_i hz
     simp only[Option.some.injEq,Prod.mk.injEq]at lR
     obtain⟨rfl,rfl⟩:=lR
     have hm0:Nat.min ys.length len=0:=by rcases hz with k|k<;>rw[k]<;>simp [Nat.min_def]
     refine⟨goInt 0,w,?_,by rw[hs0];exact h,by simp [ah,goInt]⟩
     simp [Builtin.copy_,run_underlying ht,sizeOf,typeInfo,hi,Builtin.lenOf,hm0,Dj,storeCells]
    ·rename_i hz
     simp only[Option.some.injEq,Prod.mk.injEq]at lR
     obtain⟨rfl,rfl⟩:=lR
     have vg:qa=⟨p.b,p.base+off*p.sz,none⟩:=by
      rcases k2 with k2|k2
      ·omega
      ·exact k2
     have hsz:p.sz=i.size:=j3
     obtain⟨n,hn⟩:∃n,n=(ys.take len).length:=⟨_,rfl⟩
     have hnl:n≤ys.length∧n≤len:=by rw[hn,List.length_take];omega
     have GU:=TM n hnl.1 w rfl
     have hyt:ys.take len=ys.take n:=by rw[hn,List.length_take];rw[List.take_eq_take_iff];omega
     have aci:(news.take (n*i.size)).length=n*i.size:=by
      rw[List.length_take,nu]
      exact Nat.min_eq_left (Nat.mul_le_mul_right _ hnl.1)
     have Lk:aC (ctx z w E pb) (ys.take n).flatten (news.take (n*i.size)):=by
      have:(ys.take n).flatten=ys.flatten.take (n*i.size):=Nb pW hnl.1
      rw[this];exact hn2.take _
     obtain⟨q1,q2⟩:=Jf h (i:=off) (ys:=ys.take n) e1 hs j5 (by rw[List.length_take];omega) Lk (fun x hx=>kE x (List.mem_of_mem_take hx)) (fun y hy=>pW y (List.mem_of_mem_take hy)) (by rw[aci,List.length_take];congr 1;omega)
     have hst:=zJ (P:=X.P) (b:=p.b) (off:=p.base+off*i.size) (t:=bt) (news.take (n*i.size)) 0 w arr j5 (by omega) (fun x hx=>kE x (List.mem_of_mem_take hx))
     rw[hyt]
     have hln:(ys.take n).length=n:=by rw[List.length_take];omega
     refine⟨goInt n,_,?_,q2,?_⟩
     ·rw[vg,hsz]
      simp [Builtin.copy_,run_underlying ht,sizeOf,typeInfo,hi,Builtin.lenOf,hmin,←hn,GU,hst]
     ·rw[hln];simp [ah,goInt]
   ·cases lR
  ·cases lR
theorem all_some {R:Type} {p:Nat→Prop} {k:Nat→Option R} {r:R} (h:A.all p k=some r) {n:Nat} (hn:p n):k n=some r:=by
 unfold A.all at h
 split at h
 ·rename_i hx
  injection h with h
  rw[←h]
  exact Classical.choose_spec hx n hn
 ·cases h
theorem ZW (h:St X z s a w E pb) {R:Type} {k:Nat→Heap→Option R} {r:R} {t e ty:TypeId} (ht:X.P.underlying t=some (.slice e)) {x:U} {v:Value} (hk:A.wK x s.σ k=some r) (rx:ah (ctx z w E pb) x v):
  ∃c σ',k c σ'=some r∧(Builtin.cap_ #[t] ty #[v]).run X.P w=.ok (.int .i64 (c:Int)) w∧St X z (s.heap σ') a w E pb:=by
 unfold A.wK at hk
 cases x<;>simp only at hk<;>first|(cases hk;done)|skip
 rename_i id g sz off len
 simp only[ah]at rx
 obtain⟨hg,p,e1,e2,qa,cp,rfl,hcap,rx⟩:=rx
 split at hk
 ·rename_i g' sz' es hs
  split at hk
  ·rename_i hc
   obtain⟨hc1,oG,Dh⟩:=hc
   subst hc1;subst oG
   obtain⟨j1,j2,j3,j4,⟨arr,bt,j5,j6⟩,j7,j8,j9⟩:=h.heap.blk id p _ e1 hs
   obtain⟨k1,k2,k3⟩:=rx j1.symm
   rw[k1]at k3
   have hle:es.length≤off+cp:=Nat.le_of_mul_le_mul_right (show es.length*sz≤(off+cp)*sz by omega) j4
   have hk2:=all_some hk (n:=cp) ⟨hcap,hle⟩
   by_cases TT:cp=len
   ·rw[if_pos TT]at hk2
    refine⟨cp,_,hk2,by simp [Builtin.cap_,run_underlying ht,goInt],?_⟩
    have Bf:w.heap[p.b]? =some (.cells arr bt (0,0)):=j5
    have hel:es.length=off+cp:=by omega
    have hst:=h.sX e1 (.cells arr bt (0,0)) (.mT g sz es) (fun hx=>by
     have hsame:w.cL p.b (.cells arr bt (0,0))=w:=BP Bf
     rw[hsame]
     exact⟨j1,j2,j3,j4,⟨arr,bt,j5,j6⟩,by rw[hel];omega,j8,j9⟩)
    rw[BP Bf]at hst
    exact hst
   rw[if_neg TT]at hk2
   refine⟨cp,_,hk2,by simp [Builtin.cap_,run_underlying ht,goInt],?_⟩
   have Bf:w.heap[p.b]? =some (.cells arr bt (0,0)):=j5
   have hst:=h.sX e1 (.cells arr bt (0,0)) (.arr g sz (es++List.replicate (off+cp-es.length) (List.replicate sz .undef))) (fun hx=>by
    have hsame:w.cL p.b (.cells arr bt (0,0))=w:=BP Bf
    rw[hsame]
    refine⟨j1,j2,j3,j4,⟨arr,bt,j5,j6⟩,?_,bg.append j8 (bg.of fun j x hj=>?_),j9⟩
    ·rw[List.length_append,List.length_replicate,show es.length+(off+cp-es.length)=off+cp by omega];omega
    ·have hjl:=(List.getElem?_eq_some_iff.1 hj).1
     rw[List.length_replicate]at hjl
     have hx':=List.mem_of_getElem? hj
     rw[List.mem_replicate]at hx'
     rw[hx'.2]
     refine⟨List.length_replicate,aX.of fun m av hm=>?_⟩
     have hml:=(List.getElem?_eq_some_iff.1 hm).1
     rw[List.length_replicate]at hml
     have yX:=List.mem_of_getElem? hm
     rw[List.mem_replicate]at yX
     have hmul:(es.length+(j+1))*sz≤(off+cp)*sz:=Nat.mul_le_mul_right _ (by omega)
     rw[Nat.add_mul,Nat.add_mul]at hmul
     have hin:p.base+es.length*sz+j*sz+m<arr.size:=by rw[j6];omega
     refine⟨arr[p.base+es.length*sz+j*sz+m],?_,j9 _ _ _ j5 _ (by simp),by rw[yX.2];simp [ah]⟩
     show w.cell? _=_
     rw[sI Bf,Array.getElem?_eq_getElem hin])
   rw[BP Bf]at hst
   exact hst
  ·cases hk
 ·cases hk
end
end
section
open Go.RowKit
section
variable {c : RC}
theorem Fl {k:Nat} {x y:U} {v u:Value} (n:Nat) (h:A.rY k x y=some true) (r:ah c x v) (q:ah c y u):Instr.sameBits n u v=true:=by
 unfold A.rY at h
 split at h
 ·unfold A.mz at h;split at h
  ·simp only[ah]at r q;split at h
   ·injection h with h;subst_vars;simp at h;subst h;simp [Instr.sameBits]
   ·cases h
  ·cases h
 ·unfold A.uY at h;split at h
  ·simp only[ah]at r q;injection h with h;subst_vars;simp at h;subst h;simp [Instr.sameBits]
  ·cases h
 ·unfold A.pU at h;split at h
  ·simp only[ah]at r q;injection h with h;subst_vars;simp only[Instr.sameBits];rename_i a b
   rw[Cv]at h ⊢
   rw[beq_iff_eq]at h ⊢
   exact h.symm
  ·cases h
 ·cases h
theorem NS (n:Nat):∀{ks:List Nat} {xs ys:List U} {vs us:List Value},A.fJ ks xs ys=some true→aC c xs vs→aC c ys us→us.length=vs.length∧((us.zip vs).all fun(p:Value×Value)=>Instr.sameBits n p.1 p.2)=true
 |[],[],[],vs,us,_,r,q=>by simp only[aC]at r q;subst r;subst q;simp
 |[],[],_::_,_,_,h,_,_=>by simp [A.fJ]at h
 |[],_::_,_,_,_,h,_,_=>by simp [A.fJ]at h
 |_::_,[],_,_,_,h,_,_=>by simp [A.fJ]at h
 |_::_,_::_,[],_,_,h,_,_=>by simp [A.fJ]at h
 |k::ks,x::xs,y::ys,vs,us,h,r,q=>by
  simp only[A.fJ]at h
  obtain⟨p,h1,h2⟩:=Option.bind_eq_some_iff.1 h
  obtain⟨p',h3,h4⟩:=Option.map_eq_some_iff.1 h2
  simp only[Bool.and_eq_true]at h4
  obtain⟨rfl,rfl⟩:=h4
  simp only[aC]at r q
  obtain⟨v,vs',rfl,r1,r2⟩:=r
  obtain⟨u,us',rfl,q1,q2⟩:=q
  obtain⟨i1,i2⟩:=NS n h3 r2 q2
  exact⟨by simp [i1],by simp [Fl n h1 r1 q1];simpa using i2⟩
theorem Y5 {e:A.EK} {x y:U} {v u:Value} (hk:A.gj e x=true) (h:A.dG e x y=some true) (r:ah c x v) (q:ah c y u):Instr.sameBits 10000 u v=true:=by
 cases e<;>simp only[A.dG]at h
 case i=>exact Fl (k:=0) _ h r q
 case b=>exact Fl (k:=1) _ h r q
 case z=>exact Fl (k:=2) _ h r q
 case p=>cases x<;>simp [A.gj]at hk
 case s ks=>
  split at h
  ·simp only[ah]at r q
   obtain⟨vs,rfl,r1,_⟩:=r
   obtain⟨us,rfl,q1,_⟩:=q
   obtain⟨i1,i2⟩:=NS 9999 h r1 q1
   show Instr.sameBits (9999+1) _ _=true
   simp only[Instr.sameBits,Bool.and_eq_true]
   exact⟨by simpa using i1,i2⟩
  ·cases h
theorem RU {e:A.EK} {k v:U}:∀{aW jI:List (U×U)} {i:Nat} {ix:Option Nat},A.upd e k v aW=some jI→A.n9 e k aW i=some ix→
  (ix=none∧jI=aW++[(k,v)])∨∃j p,ix=some (i+j)∧aW[j]? =some p∧A.dG e k p.1=some true∧jI=aW.set j (k,v)
 |[],jI,i,ix,h,g=>by simp only[A.upd,A.n9]at h g;injection h with h;injection g with g;exact .inl ⟨g.symm,by simpa using h.symm⟩
 |(k',v')::aW,jI,i,ix,h,g=>by
  simp only[A.upd,A.n9]at h g
  obtain⟨b,h1,h2⟩:=Option.bind_eq_some_iff.1 h
  rw[h1,Option.bind_some]at g
  cases b
  ·simp only[cond_false]at h2 g
   obtain⟨e2,h3,h4⟩:=Option.map_eq_some_iff.1 h2
   rcases RU h3 g with⟨rfl,rfl⟩|⟨j,p,rfl,k1,k2,rfl⟩
   ·exact .inl ⟨rfl,by simpa using h4.symm⟩
   ·exact .inr ⟨j+1,p,by congr 1;omega,by simpa using k1,k2,by simpa using h4.symm⟩
  ·simp only[cond_true]at h2 g
   injection h2 with h2;injection g with g
   exact .inr ⟨0,(k',v'),g.symm,rfl,h1,by simpa using h2.symm⟩
theorem Rj {e:A.EK} {k:U}:∀{aW jI:List (U×U)} {i:Nat} {ix:Option Nat},A.del e k aW=some jI→A.n9 e k aW i=some ix→
  (ix=none∧jI=aW)∨∃j,ix=some (i+j)∧j<aW.length∧jI=aW.eraseIdx j
 |[],jI,i,ix,h,g=>by simp only[A.del,A.n9]at h g;injection h with h;injection g with g;exact .inl ⟨g.symm,h.symm⟩
 |(k',v')::aW,jI,i,ix,h,g=>by
  simp only[A.del,A.n9]at h g
  obtain⟨b,h1,h2⟩:=Option.bind_eq_some_iff.1 h
  rw[h1,Option.bind_some]at g
  cases b
  ·simp only[cond_false]at h2 g
   obtain⟨e2,h3,h4⟩:=Option.map_eq_some_iff.1 h2
   rcases Rj h3 g with⟨rfl,rfl⟩|⟨j,rfl,k1,rfl⟩
   ·exact .inl ⟨rfl,by simpa using h4.symm⟩
   ·exact .inr ⟨j+1,by congr 1;omega,by simpa using k1,by simpa using h4.symm⟩
  ·simp only[cond_true]at h2 g
   injection h2 with h2;injection g with g
   exact .inr ⟨0,g.symm,by simp,by simpa using h2.symm⟩
theorem OG {e:A.EK} {k v:U}:∀{aW jI:List (U×U)},A.upd e k v aW=some jI→∃r,A.find e k aW=some r
 |[],jI,_=>⟨none,rfl⟩
 |(k',v')::aW,jI,g=>by
  simp only[A.upd]at g
  obtain⟨b,h1,h2⟩:=Option.bind_eq_some_iff.1 g
  cases b
  ·obtain⟨e2,h3,_⟩:=Option.map_eq_some_iff.1 (by simpa using h2)
   obtain⟨r,hr⟩:=OG h3
   exact⟨r,by simp [A.find,h1,hr]⟩
  ·exact⟨some v',by simp [A.find,h1]⟩
theorem OF {e:A.EK} {k:U}:∀{aW jI:List (U×U)},A.del e k aW=some jI→∃r,A.find e k aW=some r
 |[],jI,_=>⟨none,rfl⟩
 |(k',v')::aW,jI,g=>by
  simp only[A.del]at g
  obtain⟨b,h1,h2⟩:=Option.bind_eq_some_iff.1 g
  cases b
  ·obtain⟨e2,h3,_⟩:=Option.map_eq_some_iff.1 (by simpa using h2)
   obtain⟨r,hr⟩:=OF h3
   exact⟨r,by simp [A.find,h1,hr]⟩
  ·exact⟨some v',by simp [A.find,h1]⟩
theorem bQ.nth:∀{l:List (U×U)} {es:List MapEntry} {i:Nat} {p:U×U},bQ c l es→l[i]? =some p→∃e,es[i]? =some e∧ah c p.1 e.key∧ah c p.2 e.val
 |[],es,i,p,h,k=>by simp at k
 |(a,b)::l,es,0,p,h,k=>by
  obtain⟨e,es',rfl,h1,h2,_⟩:=h
  simp at k;subst k
  exact⟨e,rfl,h1,h2⟩
 |(a,b)::l,es,i+1,p,h,k=>by
  obtain⟨e,es',rfl,_,_,h3⟩:=h
  simp at k
  obtain⟨e',k1,k2⟩:=bQ.nth h3 k
  exact⟨e',by simpa using k1,k2⟩
theorem bQ.set {k v:U} {key val:Value} (rk:ah c k key) (rv:ah c v val):∀{l:List (U×U)} {es:List MapEntry} (j:Nat),bQ c l es→bQ c (l.set j (k,v)) (es.modify j fun e=>{e with key,val})
 |[],es,j,h=>by simp only[bQ]at h;subst h;simp [bQ]
 |(a,b)::l,es,0,h=>by
  obtain⟨e,es',rfl,h1,h2,h3⟩:=h
  exact⟨_,_,rfl,rk,rv,h3⟩
 |(a,b)::l,es,j+1,h=>by
  obtain⟨e,es',rfl,h1,h2,h3⟩:=h
  exact⟨e,_,rfl,h1,h2,bQ.set rk rv j h3⟩
theorem bQ.push {k v:U} {key val:Value} {n:Nat} (rk:ah c k key) (rv:ah c v val):∀{l:List (U×U)} {es:List MapEntry},bQ c l es→bQ c (l++[(k,v)]) (es++[⟨key,val,n⟩])
 |[],es,h=>by simp only[bQ]at h;subst h;exact⟨_,_,rfl,rk,rv,rfl⟩
 |(a,b)::l,es,h=>by
  obtain⟨e,es',rfl,h1,h2,h3⟩:=h
  exact⟨e,_,rfl,h1,h2,bQ.push rk rv h3⟩
theorem bQ.erase:∀{l:List (U×U)} {es:List MapEntry} (j:Nat),bQ c l es→bQ c (l.eraseIdx j) (es.eraseIdx j)
 |[],es,j,h=>by simp only[bQ]at h;subst h;simp [bQ]
 |(a,b)::l,es,0,h=>by obtain⟨e,es',rfl,h1,h2,h3⟩:=h;exact h3
 |(a,b)::l,es,j+1,h=>by
  obtain⟨e,es',rfl,h1,h2,h3⟩:=h
  exact⟨e,_,rfl,h1,h2,bQ.erase j h3⟩
end
theorem l6.push {es:Array MapEntry} {clock:Nat} {key val:Value} (h:l6 es clock):l6 (es.push ⟨key,val,clock⟩) (clock+1):=by
 refine⟨fun e he=>?_,?_⟩
 ·simp only[Array.toList_push,List.mem_append,List.mem_singleton]at he
  rcases he with he|rfl
  ·have:=h.1 e he;omega
  ·exact Nat.lt_succ_self _
 ·simp only[Array.toList_push,List.map_append,List.map_cons,List.map_nil]
  rw[List.nodup_append]
  refine⟨h.2,by simp,fun a ha b hb=>?_⟩
  obtain⟨e,he,rfl⟩:=List.mem_map.1 ha
  have:=h.1 e he
  simp at hb;omega
theorem NH (key val:Value):∀(l:List MapEntry) (i:Nat),(l.modify i fun e=>{e with key,val}).map (·.born)=l.map (·.born)
 |[],i=>by simp
 |e::l,0=>by simp
 |e::l,i+1=>by simp [NH key val l i]
theorem l6.modify {es:Array MapEntry} {clock i:Nat} {key val:Value} (h:l6 es clock):l6 (es.modify i fun e=>{e with key,val}) clock:=by
 have hb:(es.modify i fun e=>{e with key,val}).toList.map (·.born)=es.toList.map (·.born):=by
  rw[Array.toList_modify,NH]
 refine⟨fun e he=>?_,by rw[hb];exact h.2⟩
 have:e.born∈es.toList.map (·.born):=by rw[←hb];exact List.mem_map.2 ⟨e,he,rfl⟩
 obtain⟨e',he',e1⟩:=List.mem_map.1 this
 rw[←e1];exact h.1 e' he'
theorem l6.erase {es:Array MapEntry} {clock i:Nat} (h:l6 es clock):l6 (es.eraseIdxIfInBounds i) clock:=by
 by_cases hi:i<es.size
 ·have hee:(es.eraseIdxIfInBounds i).toList=es.toList.eraseIdx i:=by simp [Array.eraseIdxIfInBounds,hi]
  refine⟨fun e he=>h.1 e (by rw[hee]at he;exact List.mem_of_mem_eraseIdx he),?_⟩
  rw[hee]
  exact h.2.sublist ((List.eraseIdx_sublist _ _).map _)
 ·have:es.eraseIdxIfInBounds i=es:=by simp [Array.eraseIdxIfInBounds,hi]
  rw[this];exact h
theorem l6.empty:l6 #[] 0:=⟨by simp,by simp⟩
section
variable {X : Fx} {z : Z} {s : AS} {a : Act} {w w' : World} {E : List Pl} {pb : Nat → Option Nat}
theorem EX {P:Program} {b:Nat} {es:Array MapEntry} {clock:Nat} (o:Obj) (h:w.heap[b]? =some (.map es clock)):(setObj b o).run P w=.ok () (w.cL b o):=by
 simp [setObj,Sem.run,h,World.cL]
theorem aaC (h:St X z s a w E pb) {t kt et:TypeId} {ek:A.EK} {m k v:U} {mv key val:Value} {σ':Heap} (ht:X.P.underlying t=some (.map kt et)) (he:jE X kt=some ek) (hu:A.eU ek m k v s.σ=some σ')
  (rm:ah (ctx z w E pb) m mv) (rk:ah (ctx z w E pb) k key) (rv:ah (ctx z w E pb) v val):∃w',(Instr.mapUpdate t mv key val).run X.P w=.ok () w'∧St X z (s.heap σ') a w' E pb:=by
 unfold A.eU at hu
 cases hk:A.gj ek k
 ·rw[hk]at hu;cases hu
 ·rw[hk]at hu
  simp only[cond_true]at hu
  cases m<;>simp only at hu<;>first|(cases hu;done)|skip
  rename_i id
  simp only[ah]at rm
  obtain⟨p,e1,e2,rfl⟩:=rm
  split at hu
  ·rename_i aW hs
   obtain⟨jI,h1,h2⟩:=Option.map_eq_some_iff.1 hu
   subst h2
   obtain⟨hg,es,clock,k1,kw,k2⟩:=h.heap.blk id p _ e1 hs
   obtain⟨r,hr⟩:=OG h1
   obtain⟨res,f1,f2,f3⟩:=Ji (c:=ctx z w E pb) w X he hk rk hr k2
   have xh:=EH (c:=ctx z w E pb) w X he hk rk false
   have jd:(getObj p.b).run X.P w=.ok (.map es clock) w:=by simp [getObj,Sem.run,show w.heap[p.b]? =_ from k1]
   have hlt:p.b<w.heap.size:=h.heap.lt (p:=p) (List.mem_of_getElem? e1)
   rcases RU h1 f3 with⟨e3,rfl⟩|⟨j,q,e3,q1,q2,rfl⟩
   ·have hres:res=none:=by cases res with|none=>rfl|some x=>simp at e3
    subst hres
    refine⟨w.cL p.b (.map (es.push ⟨key,val,clock⟩) (clock+1)),?_,h.sX e1 _ _ fun hx=>⟨hg,_,_,qR _ hlt,kw.push,?_⟩⟩
    ·simp [Instr.mapUpdate,run_underlying ht,jd,xh,f1,EX _ (show w.heap[p.b]? =_ from k1)]
    ·have:=bQ.push (n:=clock) (ah.mono hx _ _ rk) (ah.mono hx _ _ rv) (k2.mono hx)
     simpa using this
   ·obtain⟨i,u,hres,hi⟩:∃i u,res=some (i,u)∧i=j:=by
     cases res with
     |none=>simp at e3
     |some x=>exact⟨x.1,x.2,rfl,by simpa using e3⟩
    subst hi;subst hres
    obtain⟨e,n1,n2,_⟩:=k2.nth q1
    have hsame:=Y5 (c:=ctx z w E pb) hk q2 rk n2
    have pV:es[i]? =some e:=by rw[←Array.getElem?_toList];exact n1
    refine⟨w.cL p.b (.map (es.modify i fun e=>{e with key,val}) clock),?_,h.sX e1 _ _ fun hx=>⟨hg,_,_,qR _ hlt,kw.modify,?_⟩⟩
    ·simp [Instr.mapUpdate,run_underlying ht,jd,xh,f1,pV,Instr.keyThatStays,hsame,EX _ (show w.heap[p.b]? =_ from k1)]
    ·have:=bQ.set (ah.mono hx _ _ rk) (ah.mono hx _ _ rv) i (k2.mono hx)
     simpa using this
  ·cases hu
theorem aaz (h:St X z s a w E pb) {t kt et u ty:TypeId} {ek:A.EK} {m k:U} {mv key:Value} {σ':Heap} (ht:X.P.underlying t=some (.map kt et)) (he:jE X kt=some ek) (hu:A.yG ek m k s.σ=some σ')
  (rm:ah (ctx z w E pb) m mv) (rk:ah (ctx z w E pb) k key):∃w',(Builtin.delete_ #[t,u] ty #[mv,key]).run X.P w=.ok (.tuple #[]) w'∧St X z (s.heap σ') a w' E pb:=by
 unfold A.yG at hu
 cases hk:A.gj ek k
 ·rw[hk]at hu;cases hu
 ·rw[hk]at hu
  simp only[cond_true]at hu
  cases m<;>simp only at hu<;>first|(cases hu;done)|skip
  case nm=>
   injection hu with hu;subst hu
   simp only[ah]at rm;subst rm
   exact⟨w,by simp [Builtin.delete_,run_underlying ht,EH (c:=ctx z w E pb) w X he hk rk true],h⟩
  case om id=>
   simp only[ah]at rm
   obtain⟨p,e1,e2,rfl⟩:=rm
   split at hu
   ·rename_i aW hs
    obtain⟨jI,h1,h2⟩:=Option.map_eq_some_iff.1 hu
    subst h2
    obtain⟨hg,es,clock,k1,kw,k2⟩:=h.heap.blk id p _ e1 hs
    obtain⟨r,hr⟩:=OF h1
    obtain⟨res,f1,f2,f3⟩:=Ji (c:=ctx z w E pb) w X he hk rk hr k2
    have xh:=EH (c:=ctx z w E pb) w X he hk rk es.isEmpty
    have jd:(getObj p.b).run X.P w=.ok (.map es clock) w:=by simp [getObj,Sem.run,show w.heap[p.b]? =_ from k1]
    have hlt:p.b<w.heap.size:=h.heap.lt (p:=p) (List.mem_of_getElem? e1)
    rcases Rj h1 f3 with⟨e3,rfl⟩|⟨j,e3,q1,rfl⟩
    ·have hres:res=none:=by cases res with|none=>rfl|some x=>simp at e3
     subst hres
     refine⟨w.cL p.b (.map es clock),?_,h.sX e1 _ _ fun hx=>⟨hg,_,_,qR _ hlt,kw,k2.mono hx⟩⟩
     simp [Builtin.delete_,run_underlying ht,jd,xh,f1,EX _ (show w.heap[p.b]? =_ from k1)]
    ·obtain⟨i,u',hres,hi⟩:∃i u,res=some (i,u)∧i=j:=by
      cases res with
      |none=>simp at e3
      |some x=>exact⟨x.1,x.2,rfl,by simpa using e3⟩
     subst hi;subst hres
     refine⟨w.cL p.b (.map (es.eraseIdxIfInBounds i) clock),?_,h.sX e1 _ _ fun hx=>⟨hg,_,_,qR _ hlt,kw.erase,?_⟩⟩
     ·simp [Builtin.delete_,run_underlying ht,jd,xh,f1,EX _ (show w.heap[p.b]? =_ from k1)]
     ·have hl:=k2.length
      have:i<es.size:=by simp at hl;omega
      have hee:(es.eraseIdxIfInBounds i).toList=es.toList.eraseIdx i:=by simp [Array.eraseIdxIfInBounds,this]
      rw[hee]
      exact bQ.erase i (k2.mono hx)
   ·cases hu
theorem Na {f:MapEntry→Nat}:∀{l:List MapEntry} {j:Nat} {e:MapEntry},(l.map f).Nodup→l[j]? =some e→(l.filter fun x=>!(f x==f e))=l.eraseIdx j
 |[],j,e,_,h=>by simp at h
 |x::l,0,e,hn,h=>by
  simp at h;subst h
  simp only[List.map_cons,List.nodup_cons]at hn
  simp only[List.filter_cons,beq_self_eq_true,Bool.not_true,List.eraseIdx_cons_zero]
  rw[List.filter_eq_self.2]
  ·simp
  ·intro y hy
   have:f y≠f x:=fun e=>hn.1 (List.mem_map.2 ⟨y,hy,e⟩)
   simp [this]
 |x::l,j+1,e,hn,h=>by
  simp only[List.map_cons,List.nodup_cons]at hn
  simp at h
  have hne:f x≠f e:=fun k=>hn.1 (List.mem_map.2 ⟨e,List.mem_of_getElem? h,k.symm⟩)
  simp only[List.filter_cons,List.eraseIdx_cons_succ]
  have:(f x==f e)=false:=by simpa using hne
  rw[this]
  simp only[Bool.not_false,if_true]
  rw[Na hn.2 h]
theorem choose_lt {P:Program} (w:World) {n:Nat} (hn:0<n):∃j w',j<n∧(choose (.mapNext n)).run P w=.ok j w'∧Below w.heap.size w w'∧w'.heap=w.heap:=by
 by_cases h1:n≤1
 ·exact⟨0,w,hn,by simp [choose,Sem.run,Question.forced,h1],Below.refl _ _,rfl⟩
 ·refine⟨_,w.drew,?_,by simp [choose,Sem.run,Question.forced,h1];rfl,(Below.refl _ _).drew,rfl⟩
  simp only[Question.cut]
  exact Nat.mod_lt _ hn
theorem l6.SC {es:Array MapEntry} {clock:Nat} (h:l6 es clock) (b:Bool):(!b&&!es.isEmpty&&es.all fun e=>decide (e.born≥clock))=false:=by
 cases b
 ·by_cases he:es.isEmpty=true
  ·simp [he]
  ·have hs:0<es.size:=by
    rw[Array.isEmpty_iff]at he
    exact Nat.pos_of_ne_zero fun k=>he (Array.eq_empty_of_size_eq_zero k)
   have:=h.1 es[0] (by simp)
   have:¬(es.all fun e=>decide (e.born≥clock))=true:=by
    intro k
    rw[Array.all_eq_true]at k
    have:=k 0 hs
    simp at this;omega
   simp only[Bool.not_eq_true]at this
   rw[this];simp
 ·simp
theorem filter_all {l:Array MapEntry} {clock:Nat} (h:∀e∈l.toList,e.born<clock):l.filter (fun e=>decide (e.born<clock))=l∧l.filter (fun e=>decide (e.born≥clock))=#[]:=by
 constructor
 ·apply Array.toList_inj.1
  rw[Array.toList_filter,List.filter_eq_self.2]
  intro e he;simpa using h e he
 ·apply Array.toList_inj.1
  rw[Array.toList_filter]
  show _=[]
  rw[List.filter_eq_nil_iff]
  intro e he;have:=h e he;simp;omega
theorem aaH (h:St X z s a w E pb) {R:Type} {k:U→Heap→Option R} {r:R} {i:U} {v:Value} {ty:TypeId} (hk:A.wo i s.σ k=some r) (ri:ah (ctx z w E pb) i v):
  ∃av σ' v' w',k av σ'=some r∧(Instr.next v false ty).run X.P w=.ok v' w'∧St X z (s.heap σ') a w' E pb∧ah (ctx z w' E pb) av v':=by
 unfold A.wo at hk
 split at hk
 ·rename_i id
  simp only[ah]at ri
  obtain⟨p,e1,e2,rfl⟩:=ri
  have hlt:p.b<w.heap.size:=h.heap.lt (p:=p) (List.mem_of_getElem? e1)
  have ack:ah (ctx z w E pb) (.aA [.bool false]) (.tuple #[.bool false]):=by simp [ah,aC]
  have hs0:s.heap s.σ=s:=rfl
  split at hk
  ·rename_i cur hs
   obtain⟨hg,hit⟩:=h.heap.blk id p _ e1 hs
   rcases hit with⟨_,_,since,seen,last,h3⟩|⟨m,seen,aW,clock,h3,h4,h5,h6,h7,h8,h9⟩
   ·have jd:(getObj p.b).run X.P w=.ok (.mapIter none since seen last) w:=by simp [getObj,Sem.run,show w.heap[p.b]? =_ from h3]
    exact⟨_,_,_,w,hk,by simp [Instr.next,jd],by rw[hs0];exact h,ack⟩
   ·have jd:(getObj p.b).run X.P w=.ok (.mapIter (some m) clock seen clock) w:=by simp [getObj,Sem.run,show w.heap[p.b]? =_ from h3]
    have yq:(getObj m).run X.P w=.ok (.map aW clock) w:=by simp [getObj,Sem.run,show w.heap[m]? =_ from h6]
    simp only[bQ]at h8
    have hl:aW.filter (fun e=>!seen.contains e.born)=#[]:=by apply Array.toList_inj.1;rw[Array.toList_filter,h8]
    obtain⟨j,w',hj,hch,hb,hw⟩:=choose_lt (P:=X.P) w (n:=1) (by omega)
    have hj0:j=0:=by omega
    subst hj0
    have hst:=h7.SC seen.isEmpty
    refine⟨_,_,.tuple #[.bool false],w',hk,?_,by rw[hs0];exact h.grow hb,by simp [ah,aC]⟩
    simp only[Instr.next,Sem.run_bind,jd,Result.andThen_ok,yq,hst,hl]
    simp [-Go.run_choose,-Go.run_choose_drew,hch]
  ·rename_i cur x left hs
   obtain⟨hg,hit⟩:=h.heap.blk id p _ e1 hs
   rcases hit with⟨_,hn,_⟩|⟨m,seen,aW,clock,h3,h4,h5,h6,h7,h8,h9⟩
   ·cases hn
   ·have jd:(getObj p.b).run X.P w=.ok (.mapIter (some m) clock seen clock) w:=by simp [getObj,Sem.run,show w.heap[p.b]? =_ from h3]
    have yq:(getObj m).run X.P w=.ok (.map aW clock) w:=by simp [getObj,Sem.run,show w.heap[m]? =_ from h6]
    obtain⟨L,hL⟩:∃L,L=aW.filter (fun e=>!seen.contains e.born):=⟨_,rfl⟩
    have Dd:L.toList=aW.toList.filter (fun e=>!seen.contains e.born):=by rw[hL,Array.toList_filter]
    rw[←Dd]at h8
    have hlen:=h8.length
    simp only[Array.length_toList]at hlen
    have hlt':∀e∈L.toList,e.born<clock:=fun e he=>h7.1 e (by rw[Dd]at he;exact(List.mem_filter.1 he).1)
    obtain⟨f1,f2⟩:=filter_all hlt'
    have hne:L.isEmpty=false:=by
     rw[Array.isEmpty_eq_false_iff];intro k;rw[k]at hlen;simp at hlen
    obtain⟨j,w',hj,hch,hb,hw⟩:=choose_lt (P:=X.P) w (n:=L.size) (by rw[←hlen];simp)
    have hst:=h7.SC seen.isEmpty
    have hjl:j<(x::left).length:=by omega
    have hk2:=all_some hk hjl
    rw[List.getElem?_eq_getElem hjl]at hk2
    simp only at hk2
    obtain⟨e,n1,n2,n3⟩:=bQ.nth h8 (List.getElem?_eq_getElem hjl)
    have hLj:L[j]? =some e:=by rw[←Array.getElem?_toList];exact n1
    have hg2:=h.grow hb
    have hmp:p.b≠m:=fun k=>h5 (.inr (.inl ⟨p,List.mem_of_getElem? e1,k⟩))
    have h3':w'.heap[p.b]? =some (.mapIter (some m) clock seen clock):=by rw[hw];exact h3
    have nL:(setObj p.b (.mapIter (some m) clock (seen.push e.born) clock)).run X.P w'=.ok () (w'.cL p.b (.mapIter (some m) clock (seen.push e.born) clock)):=by
     simp [setObj,Sem.run,h3',World.cL]
    refine⟨_,_,.tuple #[.bool true,e.key,e.val],w'.cL p.b (.mapIter (some m) clock (seen.push e.born) clock),hk2,?_,hg2.sX e1 _ _ fun hx=>⟨hg,.inr ⟨m,seen.push e.born,aW,clock,?_,?_,?_,?_,h7,?_,?_⟩⟩,?_⟩
    ·simp only[Instr.next,Sem.run_bind,jd,Result.andThen_ok,yq,hst,←hL,f1,f2,hne]
     simp [-Go.run_choose,-Go.run_choose_drew,hch,hLj,nL]
    ·exact qR _ (by rw[hw];exact hlt)
    ·show m<(w'.cL p.b _).heap.size
     rw[xS,hw];exact h4
    ·exact h5
    ·show(w'.cL p.b _).heap[m]? =_
     rw[tZ _ hmp,hw];exact h6
    ·have hx2:Ext (ctx z w E pb) (ctx z (w'.cL p.b (.mapIter (some m) clock (seen.push e.born) clock)) E pb):=(sN hb).trans hx
     have hfe:(aW.toList.filter fun e'=>!(seen.push e.born).contains e'.born)=L.toList.eraseIdx j:=by
      rw[Dd]
      have hnd:((aW.toList.filter fun e=>!seen.contains e.born).map (·.born)).Nodup:=h7.2.sublist ((List.filter_sublist).map _)
      rw[←Na (f:=(·.born)) (e:=e) hnd (by rw[←Dd];exact n1),List.filter_filter]
      congr 1;funext y
      simp only[Array.contains_push,Bool.not_or]
      rw[Bool.and_comm]
     rw[hfe]
     exact(bQ.erase j h8).mono hx2
    ·refine .inr ⟨_,_,e,rfl,by simp,?_,?_,?_⟩
     ·have:=List.mem_of_getElem? n1
      rw[Dd]at this
      exact(List.mem_filter.1 this).1
     ·exact ah.mono ((sN hb).trans hx) _ _ n2
     ·exact ah.mono ((sN hb).trans hx) _ _ n3
    ·have hx:Ext (ctx z w' E pb) (ctx z (w'.cL p.b (.mapIter (some m) clock (seen.push e.born) clock)) E pb):=Jw (.inr (.inl ⟨p,List.mem_of_getElem? e1,rfl⟩))
     have hx2:=(sN hb).trans hx
     simp only[ah]
     exact⟨_,rfl,by simp only[aC];exact⟨_,_,rfl,rfl,_,_,rfl,ah.mono hx2 _ _ n2,_,_,rfl,ah.mono hx2 _ _ n3,rfl⟩⟩
  ·cases hk
 ·cases hk
theorem Zx (h:St X z s a w E pb) {t kt et:TypeId} {x:U} {v:Value} {es:List (U×U)} (ht:X.P.underlying t=some (.map kt et)) (hr:A.Kf x=some es) (rx:ah (ctx z w E pb) x v):
  ∃o,(Instr.range t v).run X.P w=.ok (.pointer (some ⟨w.heap.size,0,none⟩)) (w.alloc o)∧St X z (s.heap (s.σ++[.it [] es])) a (w.alloc o) (E++[⟨w.heap.size,0,0,0,0⟩]) pb:=by
 unfold A.Kf at hr
 split at hr
 ·injection hr with hr
  subst hr
  simp only[ah]at rx
  subst rx
  refine⟨.mapIter none 0 #[] 0,by simp [Instr.range,run_underlying ht,newObj,Sem.run],h.uw _ _ ⟨w.heap.size,0,0,0,0⟩ rfl fun hx=>⟨rfl,.inl ⟨rfl,rfl,_,_,_,(MapKept.heap_alloc w _).1⟩⟩⟩
 ·injection hr with hr
  subst hr
  simp only[ah]at rx
  obtain⟨b,rfl,hb,hX,aW,clock,k1,kw,k2⟩:=rx
  have yq:(getObj b).run X.P w=.ok (.map aW clock) w:=by simp [getObj,Sem.run,show w.heap[b]? =_ from k1]
  refine⟨.mapIter (some b) clock #[] clock,by simp [Instr.range,run_underlying ht,yq,newObj,Sem.run],h.uw _ _ ⟨w.heap.size,0,0,0,0⟩ rfl fun hx=>⟨rfl,.inr ⟨b,#[],aW,clock,(MapKept.heap_alloc w _).1,?_,(hx.stay b hb hX).2,?_,kw,?_,.inl rfl⟩⟩⟩
  ·exact Nat.lt_of_lt_of_le hb hx.size
  ·exact(hx.stay b hb hX).1.trans k1
  ·have:(aW.toList.filter fun e=>!(#[]:Array Nat).contains e.born)=aW.toList:=by
    rw[List.filter_eq_self];intro e _;simp
   rw[this]
   exact k2.mono hx
 ·cases hr
end
end
end Go.Proofs.Ytphgchakmkankaa
