/- Parts of the proof of PlayReplaysComeBack, in order. -/
import Derived.Orders
import Derived.Below
import Derived.WalkKit
import Derived.Laws.StructEq
import Derived.Laws.Append
import Derived.Laws.AppendOwn
import Derived.Test.YtooknfkholjpbaaGreatRows
import Derived.KernelRfl
import Derived.Lib.Bytealg
import Derived.Sort.Defs
import Derived.Lib.BitFns
import Derived.Test.YtooknfkholjpbaaGreatKPlayReplaysComeBack1
namespace Go.Proofs.YtooknfkholjpbaaGreat
set_option linter.unusedVariables false
set_option linter.unusedSimpArgs false
set_option linter.unusedSectionVars false
section
open Go.RowKit
section
variable {c : RC}
theorem LA {k:Nat} {x y:AV} {v u:Value} (n:Nat) (h:A.l8 k x y=some true) (r:ak c x v) (q:ak c y u):Instr.sameBits n u v=true:=by
 unfold A.l8 at h
 split at h
 ·unfold A.mJ at h;split at h
  ·simp only[ak]at r q;split at h
   ·injection h with h;subst_vars;simp at h;subst h;simp [Instr.sameBits]
   ·cases h
  ·cases h
 ·unfold A.vG at h;split at h
  ·simp only[ak]at r q;injection h with h;subst_vars;simp at h;subst h;simp [Instr.sameBits]
  ·cases h
 ·unfold A.oD at h;split at h
  ·simp only[ak]at r q;injection h with h;subst_vars;simp only[Instr.sameBits];rename_i a b
   rw[Ie]at h ⊢
   rw[beq_iff_eq]at h ⊢
   exact h.symm
  ·cases h
 ·cases h
theorem VS (n:Nat):∀{ks:List Nat} {xs ys:List AV} {vs us:List Value},A.fV ks xs ys=some true→aI c xs vs→aI c ys us→us.length=vs.length∧((us.zip vs).all fun(p:Value×Value)=>Instr.sameBits n p.1 p.2)=true
 |[],[],[],vs,us,_,r,q=>by simp only[aI]at r q;subst r;subst q;simp
 |[],[],_::_,_,_,h,_,_=>by simp [A.fV]at h
 |[],_::_,_,_,_,h,_,_=>by simp [A.fV]at h
 |_::_,[],_,_,_,h,_,_=>by simp [A.fV]at h
 |_::_,_::_,[],_,_,h,_,_=>by simp [A.fV]at h
 |k::ks,x::xs,y::ys,vs,us,h,r,q=>by
  simp only[A.fV]at h
  obtain⟨p,h1,h2⟩:=Option.bind_eq_some_iff.1 h
  obtain⟨p',h3,h4⟩:=Option.map_eq_some_iff.1 h2
  simp only[Bool.and_eq_true]at h4
  obtain⟨rfl,rfl⟩:=h4
  simp only[aI]at r q
  obtain⟨v,vs',rfl,r1,r2⟩:=r
  obtain⟨u,us',rfl,q1,q2⟩:=q
  obtain⟨i1,i2⟩:=VS n h3 r2 q2
  exact⟨by simp [i1],by simp [LA n h1 r1 q1];simpa using i2⟩
theorem aiq {e:A.EK} {x y:AV} {v u:Value} (hk:A.jt e x=true) (h:A.ef e x y=some true) (r:ak c x v) (q:ak c y u):Instr.sameBits 10000 u v=true:=by
 cases e<;>simp only[A.ef]at h
 case i=>exact LA (k:=0) _ h r q
 case b=>exact LA (k:=1) _ h r q
 case z=>exact LA (k:=2) _ h r q
 case p=>cases x<;>simp [A.jt]at hk
 case s ks=>
  split at h
  ·simp only[ak]at r q
   obtain⟨vs,rfl,r1,_⟩:=r
   obtain⟨us,rfl,q1,_⟩:=q
   obtain⟨i1,i2⟩:=VS 9999 h r1 q1
   show Instr.sameBits (9999+1) _ _=true
   simp only[Instr.sameBits,Bool.and_eq_true]
   exact⟨by simpa using i1,i2⟩
  ·cases h
theorem Z3 {e:A.EK} {k v:AV}:∀{bl ko:List (AV×AV)} {i:Nat} {ix:Option Nat},A.upd e k v bl=some ko→A.sM e k bl i=some ix→
  (ix=none∧ko=bl++[(k,v)])∨∃j p,ix=some (i+j)∧bl[j]? =some p∧A.ef e k p.1=some true∧ko=bl.set j (k,v)
 |[],ko,i,ix,h,g=>by simp only[A.upd,A.sM]at h g;injection h with h;injection g with g;exact .inl ⟨g.symm,by simpa using h.symm⟩
 |(k',v')::bl,ko,i,ix,h,g=>by
  simp only[A.upd,A.sM]at h g
  obtain⟨b,h1,h2⟩:=Option.bind_eq_some_iff.1 h
  rw[h1,Option.bind_some]at g
  cases b
  ·simp only[cond_false]at h2 g
   obtain⟨e2,h3,h4⟩:=Option.map_eq_some_iff.1 h2
   rcases Z3 h3 g with⟨rfl,rfl⟩|⟨j,p,rfl,k1,k2,rfl⟩
   ·exact .inl ⟨rfl,by simpa using h4.symm⟩
   ·exact .inr ⟨j+1,p,by congr 1;omega,by simpa using k1,k2,by simpa using h4.symm⟩
  ·simp only[cond_true]at h2 g
   injection h2 with h2;injection g with g
   exact .inr ⟨0,(k',v'),g.symm,rfl,h1,by simpa using h2.symm⟩
theorem Zq {e:A.EK} {k:AV}:∀{bl ko:List (AV×AV)} {i:Nat} {ix:Option Nat},A.del e k bl=some ko→A.sM e k bl i=some ix→
  (ix=none∧ko=bl)∨∃j,ix=some (i+j)∧j<bl.length∧ko=bl.eraseIdx j
 |[],ko,i,ix,h,g=>by simp only[A.del,A.sM]at h g;injection h with h;injection g with g;exact .inl ⟨g.symm,h.symm⟩
 |(k',v')::bl,ko,i,ix,h,g=>by
  simp only[A.del,A.sM]at h g
  obtain⟨b,h1,h2⟩:=Option.bind_eq_some_iff.1 h
  rw[h1,Option.bind_some]at g
  cases b
  ·simp only[cond_false]at h2 g
   obtain⟨e2,h3,h4⟩:=Option.map_eq_some_iff.1 h2
   rcases Zq h3 g with⟨rfl,rfl⟩|⟨j,rfl,k1,rfl⟩
   ·exact .inl ⟨rfl,by simpa using h4.symm⟩
   ·exact .inr ⟨j+1,by congr 1;omega,by simpa using k1,by simpa using h4.symm⟩
  ·simp only[cond_true]at h2 g
   injection h2 with h2;injection g with g
   exact .inr ⟨0,g.symm,by simp,by simpa using h2.symm⟩
theorem WU {e:A.EK} {k v:AV}:∀{bl ko:List (AV×AV)},A.upd e k v bl=some ko→∃r,A.find e k bl=some r
 |[],ko,_=>⟨none,rfl⟩
 |(k',v')::bl,ko,g=>by
  simp only[A.upd]at g
  obtain⟨b,h1,h2⟩:=Option.bind_eq_some_iff.1 g
  cases b
  ·obtain⟨e2,h3,_⟩:=Option.map_eq_some_iff.1 (by simpa using h2)
   obtain⟨r,hr⟩:=WU h3
   exact⟨r,by simp [A.find,h1,hr]⟩
  ·exact⟨some v',by simp [A.find,h1]⟩
theorem WT {e:A.EK} {k:AV}:∀{bl ko:List (AV×AV)},A.del e k bl=some ko→∃r,A.find e k bl=some r
 |[],ko,_=>⟨none,rfl⟩
 |(k',v')::bl,ko,g=>by
  simp only[A.del]at g
  obtain⟨b,h1,h2⟩:=Option.bind_eq_some_iff.1 g
  cases b
  ·obtain⟨e2,h3,_⟩:=Option.map_eq_some_iff.1 (by simpa using h2)
   obtain⟨r,hr⟩:=WT h3
   exact⟨r,by simp [A.find,h1,hr]⟩
  ·exact⟨some v',by simp [A.find,h1]⟩
theorem cA.nth:∀{l:List (AV×AV)} {es:List MapEntry} {i:Nat} {p:AV×AV},cA c l es→l[i]? =some p→∃e,es[i]? =some e∧ak c p.1 e.key∧ak c p.2 e.val
 |[],es,i,p,h,k=>by simp at k
 |(a,b)::l,es,0,p,h,k=>by
  obtain⟨e,es',rfl,h1,h2,_⟩:=h
  simp at k;subst k
  exact⟨e,rfl,h1,h2⟩
 |(a,b)::l,es,i+1,p,h,k=>by
  obtain⟨e,es',rfl,_,_,h3⟩:=h
  simp at k
  obtain⟨e',k1,k2⟩:=cA.nth h3 k
  exact⟨e',by simpa using k1,k2⟩
theorem cA.set {k v:AV} {key val:Value} (rk:ak c k key) (rv:ak c v val):∀{l:List (AV×AV)} {es:List MapEntry} (j:Nat),cA c l es→cA c (l.set j (k,v)) (es.modify j fun e=>{e with key,val})
 |[],es,j,h=>by simp only[cA]at h;subst h;simp [cA]
 |(a,b)::l,es,0,h=>by
  obtain⟨e,es',rfl,h1,h2,h3⟩:=h
  exact⟨_,_,rfl,rk,rv,h3⟩
 |(a,b)::l,es,j+1,h=>by
  obtain⟨e,es',rfl,h1,h2,h3⟩:=h
  exact⟨e,_,rfl,h1,h2,cA.set rk rv j h3⟩
theorem cA.push {k v:AV} {key val:Value} {n:Nat} (rk:ak c k key) (rv:ak c v val):∀{l:List (AV×AV)} {es:List MapEntry},cA c l es→cA c (l++[(k,v)]) (es++[⟨key,val,n⟩])
 |[],es,h=>by simp only[cA]at h;subst h;exact⟨_,_,rfl,rk,rv,rfl⟩
 |(a,b)::l,es,h=>by
  obtain⟨e,es',rfl,h1,h2,h3⟩:=h
  exact⟨e,_,rfl,h1,h2,cA.push rk rv h3⟩
theorem cA.erase:∀{l:List (AV×AV)} {es:List MapEntry} (j:Nat),cA c l es→cA c (l.eraseIdx j) (es.eraseIdx j)
 |[],es,j,h=>by simp only[cA]at h;subst h;simp [cA]
 |(a,b)::l,es,0,h=>by obtain⟨e,es',rfl,h1,h2,h3⟩:=h;exact h3
 |(a,b)::l,es,j+1,h=>by
  obtain⟨e,es',rfl,h1,h2,h3⟩:=h
  exact⟨e,_,rfl,h1,h2,cA.erase j h3⟩
end
theorem oQ.push {es:Array MapEntry} {clock:Nat} {key val:Value} (h:oQ es clock):oQ (es.push ⟨key,val,clock⟩) (clock+1):=by
 refine⟨fun e he=>?_,?_⟩
 ·simp only[Array.toList_push,List.mem_append,List.mem_singleton]at he
  rcases he with he|rfl
  ·have:=h.1 e he;omega
  ·exact Nat.lt_succ_self _
 ·simp only[Array.toList_push,List.map_append,List.map_cons,List.map_nil]
  rw[List.nodup_append]
  refine⟨h.2,by simp,fun a ha b hb=>?_⟩
  obtain⟨e,he,rfl⟩:=List.mem_map.1 ha
  have:=h.1 e he
  simp at hb;omega
theorem VB (key val:Value):∀(l:List MapEntry) (i:Nat),(l.modify i fun e=>{e with key,val}).map (·.born)=l.map (·.born)
 |[],i=>by simp
 |e::l,0=>by simp
 |e::l,i+1=>by simp [VB key val l i]
theorem oQ.modify {es:Array MapEntry} {clock i:Nat} {key val:Value} (h:oQ es clock):oQ (es.modify i fun e=>{e with key,val}) clock:=by
 have hb:(es.modify i fun e=>{e with key,val}).toList.map (·.born)=es.toList.map (·.born):=by
  rw[Array.toList_modify,VB]
 refine⟨fun e he=>?_,by rw[hb];exact h.2⟩
 have:e.born∈es.toList.map (·.born):=by rw[←hb];exact List.mem_map.2 ⟨e,he,rfl⟩
 obtain⟨e',he',e1⟩:=List.mem_map.1 this
 rw[←e1];exact h.1 e' he'
theorem oQ.erase {es:Array MapEntry} {clock i:Nat} (h:oQ es clock):oQ (es.eraseIdxIfInBounds i) clock:=by
 by_cases hi:i<es.size
 ·have hee:(es.eraseIdxIfInBounds i).toList=es.toList.eraseIdx i:=by simp [Array.eraseIdxIfInBounds,hi]
  refine⟨fun e he=>h.1 e (by rw[hee]at he;exact List.mem_of_mem_eraseIdx he),?_⟩
  rw[hee]
  exact h.2.sublist ((List.eraseIdx_sublist _ _).map _)
 ·have:es.eraseIdxIfInBounds i=es:=by simp [Array.eraseIdxIfInBounds,hi]
  rw[this];exact h
theorem oQ.empty:oQ #[] 0:=⟨by simp,by simp⟩
section
variable {X : Fx} {z : Z} {s : AS} {a : Act} {w w' : World} {E : List Pl} {pb : Nat → Option Nat}
theorem La {P:Program} {b:Nat} {es:Array MapEntry} {clock:Nat} (o:Obj) (h:w.heap[b]? =some (.map es clock)):(setObj b o).run P w=.ok () (w.dX b o):=by
 simp [setObj,Sem.run,h,World.dX]
theorem akk (h:St X z s a w E pb) {t kt et:TypeId} {ek:A.EK} {m k v:AV} {mv key val:Value} {σ':Heap} (ht:X.P.underlying t=some (.map kt et)) (he:l7 X kt=some ek) (hu:A.eA ek m k v s.σ=some σ')
  (rm:ak (ctx z w E pb) m mv) (rk:ak (ctx z w E pb) k key) (rv:ak (ctx z w E pb) v val):∃w',(Instr.mapUpdate t mv key val).run X.P w=.ok () w'∧St X z (s.heap σ') a w' E pb:=by
 unfold A.eA at hu
 cases hk:A.jt ek k
 ·rw[hk]at hu;cases hu
 ·rw[hk]at hu
  simp only[cond_true]at hu
  cases m<;>simp only at hu<;>first|(cases hu;done)|skip
  rename_i id
  simp only[ak]at rm
  obtain⟨p,e1,e2,rfl⟩:=rm
  split at hu
  ·rename_i bl hs
   obtain⟨ko,h1,h2⟩:=Option.map_eq_some_iff.1 hu
   subst h2
   obtain⟨hg,es,clock,k1,kw,k2⟩:=h.heap.blk id p _ e1 hs
   obtain⟨r,hr⟩:=WU h1
   obtain⟨res,f1,f2,f3⟩:=Qd (c:=ctx z w E pb) w X he hk rk hr k2
   have Cx:=KG (c:=ctx z w E pb) w X he hk rk false
   have jX:(getObj p.b).run X.P w=.ok (.map es clock) w:=by simp [getObj,Sem.run,show w.heap[p.b]? =_ from k1]
   have hlt:p.b<w.heap.size:=h.heap.lt (p:=p) (List.mem_of_getElem? e1)
   rcases Z3 h1 f3 with⟨e3,rfl⟩|⟨j,q,e3,q1,q2,rfl⟩
   ·have hres:res=none:=by cases res with|none=>rfl|some x=>simp at e3
    subst hres
    refine⟨w.dX p.b (.map (es.push ⟨key,val,clock⟩) (clock+1)),?_,h.yD e1 _ _ fun hx=>⟨hg,_,_,uL _ hlt,kw.push,?_⟩⟩
    ·simp [Instr.mapUpdate,run_underlying ht,jX,Cx,f1,La _ (show w.heap[p.b]? =_ from k1)]
    ·have:=cA.push (n:=clock) (ak.mono hx _ _ rk) (ak.mono hx _ _ rv) (k2.mono hx)
     simpa using this
   ·obtain⟨i,u,hres,hi⟩:∃i u,res=some (i,u)∧i=j:=by
     cases res with
     |none=>simp at e3
     |some x=>exact⟨x.1,x.2,rfl,by simpa using e3⟩
    subst hi;subst hres
    obtain⟨e,n1,n2,_⟩:=k2.nth q1
    have hsame:=aiq (c:=ctx z w E pb) hk q2 rk n2
    have xF:es[i]? =some e:=by rw[←Array.getElem?_toList];exact n1
    refine⟨w.dX p.b (.map (es.modify i fun e=>{e with key,val}) clock),?_,h.yD e1 _ _ fun hx=>⟨hg,_,_,uL _ hlt,kw.modify,?_⟩⟩
    ·simp [Instr.mapUpdate,run_underlying ht,jX,Cx,f1,xF,Instr.keyThatStays,hsame,La _ (show w.heap[p.b]? =_ from k1)]
    ·have:=cA.set (ak.mono hx _ _ rk) (ak.mono hx _ _ rv) i (k2.mono hx)
     simpa using this
  ·cases hu
theorem akg (h:St X z s a w E pb) {t kt et u ty:TypeId} {ek:A.EK} {m k:AV} {mv key:Value} {σ':Heap} (ht:X.P.underlying t=some (.map kt et)) (he:l7 X kt=some ek) (hu:A.DM ek m k s.σ=some σ')
  (rm:ak (ctx z w E pb) m mv) (rk:ak (ctx z w E pb) k key):∃w',(Builtin.delete_ #[t,u] ty #[mv,key]).run X.P w=.ok (.tuple #[]) w'∧St X z (s.heap σ') a w' E pb:=by
 unfold A.DM at hu
 cases hk:A.jt ek k
 ·rw[hk]at hu;cases hu
 ·rw[hk]at hu
  simp only[cond_true]at hu
  cases m<;>simp only at hu<;>first|(cases hu;done)|skip
  case nm=>
   injection hu with hu;subst hu
   simp only[ak]at rm;subst rm
   exact⟨w,by simp [Builtin.delete_,run_underlying ht,KG (c:=ctx z w E pb) w X he hk rk true],h⟩
  case om id=>
   simp only[ak]at rm
   obtain⟨p,e1,e2,rfl⟩:=rm
   split at hu
   ·rename_i bl hs
    obtain⟨ko,h1,h2⟩:=Option.map_eq_some_iff.1 hu
    subst h2
    obtain⟨hg,es,clock,k1,kw,k2⟩:=h.heap.blk id p _ e1 hs
    obtain⟨r,hr⟩:=WT h1
    obtain⟨res,f1,f2,f3⟩:=Qd (c:=ctx z w E pb) w X he hk rk hr k2
    have Cx:=KG (c:=ctx z w E pb) w X he hk rk es.isEmpty
    have jX:(getObj p.b).run X.P w=.ok (.map es clock) w:=by simp [getObj,Sem.run,show w.heap[p.b]? =_ from k1]
    have hlt:p.b<w.heap.size:=h.heap.lt (p:=p) (List.mem_of_getElem? e1)
    rcases Zq h1 f3 with⟨e3,rfl⟩|⟨j,e3,q1,rfl⟩
    ·have hres:res=none:=by cases res with|none=>rfl|some x=>simp at e3
     subst hres
     refine⟨w.dX p.b (.map es clock),?_,h.yD e1 _ _ fun hx=>⟨hg,_,_,uL _ hlt,kw,k2.mono hx⟩⟩
     simp [Builtin.delete_,run_underlying ht,jX,Cx,f1,La _ (show w.heap[p.b]? =_ from k1)]
    ·obtain⟨i,u',hres,hi⟩:∃i u,res=some (i,u)∧i=j:=by
      cases res with
      |none=>simp at e3
      |some x=>exact⟨x.1,x.2,rfl,by simpa using e3⟩
     subst hi;subst hres
     refine⟨w.dX p.b (.map (es.eraseIdxIfInBounds i) clock),?_,h.yD e1 _ _ fun hx=>⟨hg,_,_,uL _ hlt,kw.erase,?_⟩⟩
     ·simp [Builtin.delete_,run_underlying ht,jX,Cx,f1,La _ (show w.heap[p.b]? =_ from k1)]
     ·have hl:=k2.length
      have:i<es.size:=by simp at hl;omega
      have hee:(es.eraseIdxIfInBounds i).toList=es.toList.eraseIdx i:=by simp [Array.eraseIdxIfInBounds,this]
      rw[hee]
      exact cA.erase i (k2.mono hx)
   ·cases hu
theorem Va {f:MapEntry→Nat}:∀{l:List MapEntry} {j:Nat} {e:MapEntry},(l.map f).Nodup→l[j]? =some e→(l.filter fun x=>!(f x==f e))=l.eraseIdx j
 |[],j,e,_,h=>by simp at h
 |x::l,0,e,hn,h=>by
  simp at h;subst h
  simp only[List.map_cons,List.nodup_cons]at hn
  simp only[List.filter_cons,beq_self_eq_true,Bool.not_true,List.eraseIdx_cons_zero]
  rw[List.filter_eq_self.2]
  ·simp
  ·intro y hy
   have:f y≠f x:=fun e=>hn.1 (List.mem_map.2 ⟨y,hy,e⟩)
   simp [this]
 |x::l,j+1,e,hn,h=>by
  simp only[List.map_cons,List.nodup_cons]at hn
  simp at h
  have hne:f x≠f e:=fun k=>hn.1 (List.mem_map.2 ⟨e,List.mem_of_getElem? h,k.symm⟩)
  simp only[List.filter_cons,List.eraseIdx_cons_succ]
  have:(f x==f e)=false:=by simpa using hne
  rw[this]
  simp only[Bool.not_false,if_true]
  rw[Va hn.2 h]
theorem choose_lt {P:Program} (w:World) {n:Nat} (hn:0<n):∃j w',j<n∧(choose (.mapNext n)).run P w=.ok j w'∧Below w.heap.size w w'∧w'.heap=w.heap:=by
 by_cases h1:n≤1
 ·exact⟨0,w,hn,by simp [choose,Sem.run,Question.forced,h1],Below.refl _ _,rfl⟩
 ·refine⟨_,w.drew,?_,by simp [choose,Sem.run,Question.forced,h1];rfl,(Below.refl _ _).drew,rfl⟩
  simp only[Question.cut]
  exact Nat.mod_lt _ hn
theorem oQ.aaE {es:Array MapEntry} {clock:Nat} (h:oQ es clock) (b:Bool):(!b&&!es.isEmpty&&es.all fun e=>decide (e.born≥clock))=false:=by
 cases b
 ·by_cases he:es.isEmpty=true
  ·simp [he]
  ·have hs:0<es.size:=by
    rw[Array.isEmpty_iff]at he
    exact Nat.pos_of_ne_zero fun k=>he (Array.eq_empty_of_size_eq_zero k)
   have:=h.1 es[0] (by simp)
   have:¬(es.all fun e=>decide (e.born≥clock))=true:=by
    intro k
    rw[Array.all_eq_true]at k
    have:=k 0 hs
    simp at this;omega
   simp only[Bool.not_eq_true]at this
   rw[this];simp
 ·simp
theorem filter_all {l:Array MapEntry} {clock:Nat} (h:∀e∈l.toList,e.born<clock):l.filter (fun e=>decide (e.born<clock))=l∧l.filter (fun e=>decide (e.born≥clock))=#[]:=by
 constructor
 ·apply Array.toList_inj.1
  rw[Array.toList_filter,List.filter_eq_self.2]
  intro e he;simpa using h e he
 ·apply Array.toList_inj.1
  rw[Array.toList_filter]
  show _=[]
  rw[List.filter_eq_nil_iff]
  intro e he;have:=h e he;simp;omega
theorem Y0 {α:Type} {l:List α} {j:Nat} (hj:j<l.length):(l[j]::l.eraseIdx j).Perm l:=by
 have e:l=l.take j++l[j]::l.drop (j+1):=by rw[List.getElem_cons_drop,List.take_append_drop]
 rw[List.eraseIdx_eq_take_drop_succ]
 conv=>rhs;rw[e]
 exact List.perm_middle.symm
theorem akn (h:St X z s a w E pb) {R:Type} {k:AV→Heap→Option R} {r:R} {i:AV} {v:Value} {ty:TypeId} (hk:A.sP i s.σ k=some r) (ri:ak (ctx z w E pb) i v):
  ∃av σ' v' w',k av σ'=some r∧(Instr.next v false ty).run X.P w=.ok v' w'∧St X z (s.heap σ') a w' E pb∧ak (ctx z w' E pb) av v':=by
 unfold A.sP at hk
 split at hk
 ·rename_i id
  simp only[ak]at ri
  obtain⟨p,e1,e2,rfl⟩:=ri
  have hlt:p.b<w.heap.size:=h.heap.lt (p:=p) (List.mem_of_getElem? e1)
  have amq:ak (ctx z w E pb) (.aG [.bool false]) (.tuple #[.bool false]):=by simp [ak,aI]
  have hs0:s.heap s.σ=s:=rfl
  split at hk
  ·rename_i cur hs
   obtain⟨hg,hit⟩:=h.heap.blk id p _ e1 hs
   rcases hit with⟨_,_,since,seen,last,h3⟩|⟨m,seen,bl,clock,h3,h4,h5,h6,h7,h8,h9⟩
   ·have jX:(getObj p.b).run X.P w=.ok (.mapIter none since seen last) w:=by simp [getObj,Sem.run,show w.heap[p.b]? =_ from h3]
    exact⟨_,_,_,w,hk,by simp [Instr.next,jX],by rw[hs0];exact h,amq⟩
   ·have jX:(getObj p.b).run X.P w=.ok (.mapIter (some m) clock seen clock) w:=by simp [getObj,Sem.run,show w.heap[p.b]? =_ from h3]
    have Dm:(getObj m).run X.P w=.ok (.map bl clock) w:=by simp [getObj,Sem.run,show w.heap[m]? =_ from h6]
    obtain⟨l,h8,vK⟩:=h8
    simp only[cA]at h8
    subst h8
    have hl:bl.filter (fun e=>!seen.contains e.born)=#[]:=by apply Array.toList_inj.1;rw[Array.toList_filter];exact vK.nil_eq.symm
    obtain⟨j,w',hj,hch,hb,hw⟩:=choose_lt (P:=X.P) w (n:=1) (by omega)
    have hj0:j=0:=by omega
    subst hj0
    have hst:=h7.aaE seen.isEmpty
    refine⟨_,_,.tuple #[.bool false],w',hk,?_,by rw[hs0];exact h.grow hb,by simp [ak,aI]⟩
    simp only[Instr.next,Sem.run_bind,jX,Result.andThen_ok,Dm,hst,hl]
    simp [-Go.run_choose,-Go.run_choose_drew,hch]
  ·rename_i cur x left hs
   obtain⟨hg,hit⟩:=h.heap.blk id p _ e1 hs
   rcases hit with⟨_,hn,_⟩|⟨m,seen,bl,clock,h3,h4,h5,h6,h7,h8,h9⟩
   ·cases hn
   ·have jX:(getObj p.b).run X.P w=.ok (.mapIter (some m) clock seen clock) w:=by simp [getObj,Sem.run,show w.heap[p.b]? =_ from h3]
    have Dm:(getObj m).run X.P w=.ok (.map bl clock) w:=by simp [getObj,Sem.run,show w.heap[m]? =_ from h6]
    obtain⟨L,hL⟩:∃L,L=bl.filter (fun e=>!seen.contains e.born):=⟨_,rfl⟩
    have I6:L.toList=bl.toList.filter (fun e=>!seen.contains e.born):=by rw[hL,Array.toList_filter]
    rw[←I6]at h8
    obtain⟨l,h8,vK⟩:=h8
    have hlen:=h8.length
    rw[vK.length_eq]at hlen
    simp only[Array.length_toList]at hlen
    have hlt':∀e∈L.toList,e.born<clock:=fun e he=>h7.1 e (by rw[I6]at he;exact(List.mem_filter.1 he).1)
    obtain⟨f1,f2⟩:=filter_all hlt'
    have hne:L.isEmpty=false:=by
     rw[Array.isEmpty_eq_false_iff];intro k;rw[k]at hlen;simp at hlen
    obtain⟨j,w',hj,hch,hb,hw⟩:=choose_lt (P:=X.P) w (n:=L.size) (by rw[←hlen];simp)
    have hst:=h7.aaE seen.isEmpty
    obtain⟨e,hLj⟩:∃e,L[j]? =some e:=⟨_,Array.getElem?_eq_getElem hj⟩
    have n1:L.toList[j]? =some e:=by rw[Array.getElem?_toList];exact hLj
    obtain⟨i,hil,hie⟩:=List.mem_iff_getElem.1 (vK.mem_iff.2 (List.mem_of_getElem? n1))
    have Sm:i<(x::left).length:=by rw[h8.length];exact hil
    have hk2:=all_some hk Sm
    rw[List.getElem?_eq_getElem Sm]at hk2
    simp only at hk2
    obtain⟨e',Np,n2,n3⟩:=cA.nth h8 (List.getElem?_eq_getElem Sm)
    have hee:e=e':=by rw[List.getElem?_eq_getElem hil]at Np;injection Np with Np;rw[←Np,hie]
    subst hee
    have TG:(l.eraseIdx i).Perm (L.toList.eraseIdx j):=by
     have p1:(e::l.eraseIdx i).Perm l:=by have:=Y0 hil;rwa[hie]at this
     obtain⟨hjj,hje⟩:=List.getElem?_eq_some_iff.1 n1
     have p2:(e::L.toList.eraseIdx j).Perm L.toList:=by have:=Y0 hjj;rwa[hje]at this
     exact List.Perm.cons_inv ((p1.trans vK).trans p2.symm)
    have hg2:=h.grow hb
    have hmp:p.b≠m:=fun k=>h5 (.inr (.inl ⟨p,List.mem_of_getElem? e1,k⟩))
    have h3':w'.heap[p.b]? =some (.mapIter (some m) clock seen clock):=by rw[hw];exact h3
    have tV:(setObj p.b (.mapIter (some m) clock (seen.push e.born) clock)).run X.P w'=.ok () (w'.dX p.b (.mapIter (some m) clock (seen.push e.born) clock)):=by
     simp [setObj,Sem.run,h3',World.dX]
    refine⟨_,_,.tuple #[.bool true,e.key,e.val],w'.dX p.b (.mapIter (some m) clock (seen.push e.born) clock),hk2,?_,hg2.yD e1 _ _ fun hx=>⟨hg,.inr ⟨m,seen.push e.born,bl,clock,?_,?_,?_,?_,h7,?_,?_⟩⟩,?_⟩
    ·simp only[Instr.next,Sem.run_bind,jX,Result.andThen_ok,Dm,hst,←hL,f1,f2,hne]
     simp [-Go.run_choose,-Go.run_choose_drew,hch,hLj,tV]
    ·exact uL _ (by rw[hw];exact hlt)
    ·show m<(w'.dX p.b _).heap.size
     rw[zm,hw];exact h4
    ·exact h5
    ·show(w'.dX p.b _).heap[m]? =_
     rw[xX _ hmp,hw];exact h6
    ·have hx2:Ext (ctx z w E pb) (ctx z (w'.dX p.b (.mapIter (some m) clock (seen.push e.born) clock)) E pb):=(wj hb).trans hx
     have hfe:(bl.toList.filter fun e'=>!(seen.push e.born).contains e'.born)=L.toList.eraseIdx j:=by
      rw[I6]
      have hnd:((bl.toList.filter fun e=>!seen.contains e.born).map (·.born)).Nodup:=h7.2.sublist ((List.filter_sublist).map _)
      rw[←Va (f:=(·.born)) (e:=e) hnd (by rw[←I6];exact n1),List.filter_filter]
      congr 1;funext y
      simp only[Array.contains_push,Bool.not_or]
      rw[Bool.and_comm]
     rw[hfe]
     exact⟨_,(cA.erase i h8).mono hx2,TG⟩
    ·refine .inr ⟨_,_,e,rfl,by simp,?_,?_,?_⟩
     ·have:=List.mem_of_getElem? n1
      rw[I6]at this
      exact(List.mem_filter.1 this).1
     ·exact ak.mono ((wj hb).trans hx) _ _ n2
     ·exact ak.mono ((wj hb).trans hx) _ _ n3
    ·have hx:Ext (ctx z w' E pb) (ctx z (w'.dX p.b (.mapIter (some m) clock (seen.push e.born) clock)) E pb):=Qn (.inr (.inl ⟨p,List.mem_of_getElem? e1,rfl⟩))
     have hx2:=(wj hb).trans hx
     simp only[ak]
     exact⟨_,rfl,by simp only[aI];exact⟨_,_,rfl,rfl,_,_,rfl,ak.mono hx2 _ _ n2,_,_,rfl,ak.mono hx2 _ _ n3,rfl⟩⟩
  ·cases hk
 ·cases hk
theorem ai1 (h:St X z s a w E pb) {t kt et:TypeId} {x:AV} {v:Value} {es:List (AV×AV)} (ht:X.P.underlying t=some (.map kt et)) (hr:A.BJ x=some es) (rx:ak (ctx z w E pb) x v):
  ∃o,(Instr.range t v).run X.P w=.ok (.pointer (some ⟨w.heap.size,0,none⟩)) (w.alloc o)∧St X z (s.heap (s.σ++[.it [] es])) a (w.alloc o) (E++[⟨w.heap.size,0,0,0,0⟩]) pb:=by
 unfold A.BJ at hr
 split at hr
 ·injection hr with hr
  subst hr
  simp only[ak]at rx
  subst rx
  refine⟨.mapIter none 0 #[] 0,by simp [Instr.range,run_underlying ht,newObj,Sem.run],h.zG _ _ ⟨w.heap.size,0,0,0,0⟩ rfl fun hx=>⟨rfl,.inl ⟨rfl,rfl,_,_,_,(MapKept.heap_alloc w _).1⟩⟩⟩
 ·injection hr with hr
  subst hr
  simp only[ak]at rx
  obtain⟨b,rfl,hb,hX,bl,clock,k1,kw,l,k2,k3⟩:=rx
  have Dm:(getObj b).run X.P w=.ok (.map bl clock) w:=by simp [getObj,Sem.run,show w.heap[b]? =_ from k1]
  refine⟨.mapIter (some b) clock #[] clock,by simp [Instr.range,run_underlying ht,Dm,newObj,Sem.run],h.zG _ _ ⟨w.heap.size,0,0,0,0⟩ rfl fun hx=>⟨rfl,.inr ⟨b,#[],bl,clock,(MapKept.heap_alloc w _).1,?_,(hx.stay b hb hX).2,?_,kw,?_,.inl rfl⟩⟩⟩
  ·exact Nat.lt_of_lt_of_le hb hx.size
  ·exact(hx.stay b hb hX).1.trans k1
  ·have:(bl.toList.filter fun e=>!(#[]:Array Nat).contains e.born)=bl.toList:=by
    rw[List.filter_eq_self];intro e _;simp
   rw[this]
   exact⟨l,k2.mono hx,by rcases k3 with rfl|⟨k3,_⟩<;>first|exact List.Perm.refl _|exact k3⟩
 ·cases hr
end
end
section
open Go.RowKit
section
variable {X : Fx} {z : Z} {s : AS} {a : Act} {w w' : World} {E : List Pl} {pb : Nat → Option Nat} {R : Type}
theorem qn {o:Oper} {v:Value} {w':World} {K:Act→World→Prop} {Q:Exit→Act→World→Prop} (h:(execOp a.eval o).run X.P w=.ok (.value v) w') (k:K (a.put o.dst v) w'):o.wp X.P a w K Q:=by
 unfold Oper.wp;rw[h,Oper.upon_value];exact k
theorem Qr {o:Oper} {w':World} {K:Act→World→Prop} {Q:Exit→Act→World→Prop} (h:(execOp a.eval o).run X.P w=.ok .skip w') (k:K (a.put o.dst undef) w'):o.wp X.P a w K Q:=by
 unfold Oper.wp;rw[h,Oper.upon_skip];exact k
theorem St.undef (h:St X z s a w E pb) (d:Option Nat):St X z (s.put X d (.aG [])) (a.put d undef) w E pb:=
 h.put d (by simp only[ak];exact⟨#[],rfl,by simp [aI]⟩)
theorem zj (hs:dD X) (h:St X z s a w E pb) {o:Oper} {k:AS→Option R} {r:R} (hk:((ga X o s none).bind fun v=>k (s.put X o.dst v))=some r) {K:Act→World→Prop} {Q:Exit→Act→World→Prop}
  (hK:∀s' a' w' E' bN,St X z s' a' w' E' bN→k s'=some r→K a' w'):o.wp X.P a w K Q:=by
 obtain⟨av,h1,h2⟩:=Option.bind_eq_some_iff.1 hk
 exact ZR hs h (tag:=none) trivial h1 fun v w' E' h3 h4=>hK _ _ _ _ _ (h3.put o.dst h4) h2
theorem akm (h:St X z s a w E pb) {q str:Bool} {i:Operand} {dst:Option Nat} {ty:TypeId} {pos:String} {af:Array Edge} {g:Option (Nat×Bool)} {k:AS→Option R} {r:R}
  (hk:(bif q||str then none else A.sP (ev X s i) s.σ fun v σ=>k ((s.heap σ).put X dst v))=some r) {K:Act→World→Prop} {Q:Exit→Act→World→Prop}
  (hK:∀s' a' w' E' bN,St X z s' a' w' E' bN→k s'=some r→K a' w'):Oper.wp X.P ⟨dst,.next i str,ty,pos,af,g⟩ a w K Q:=by
 cases hq:(q||str)
 ·rw[hq]at hk
  simp only[cond_false]at hk
  simp only[Bool.or_eq_false_iff]at hq
  obtain⟨rfl,rfl⟩:=hq
  obtain⟨av,σ',v',w',k1,k2,k3,k4⟩:=akn (ty:=ty) h hk (eH h i)
  exact qn (w':=w') (by simp [execOp,k2]) (hK _ _ _ _ _ (k3.put dst k4) k1)
 ·rw[hq]at hk;cases hk
theorem aeP (hs:dD X) (h:St X z s a w E pb) {d t n:Nat} {ps:Array (Nat×Operand)} {ty:TypeId} {pos:String} {af:Array Edge} {g:Option (Nat×Bool)} {k:AS→Option R} {r:R}
  (hk:((ga X ⟨some d,.buildSlice t n ps,ty,pos,af,g⟩ s none).bind fun v=>A.Gc v fun sz es=>k ((s.heap (s.σ++[.arr es.length sz es])).put X (some d) (.os s.σ.length es.length sz 0 es.length)))=some r) {K:Act→World→Prop} {Q:Exit→Act→World→Prop}
  (hK:∀s' a' w' E' bN,St X z s' a' w' E' bN→k s'=some r→K a' w'):Oper.wp X.P ⟨some d,.buildSlice t n ps,ty,pos,af,g⟩ a w K Q:=by
 obtain⟨v,h1,h2⟩:=Option.bind_eq_some_iff.1 hk
 unfold A.Gc at h2
 split at h2
 ·rename_i sz es
  cases hl:(es.length==0)
  ·rw[hl]at h2
   simp only[cond_false]at h2
   have hne:0<es.length:=by simp at hl;exact List.length_pos_iff.2 hl
   obtain⟨arr,et,e1,e2,e3,e4,e5⟩:=adx h h1
   have hlen:=h.heap.len
   simp only[ctx]at hlen
   refine qn e1 (hK _ _ _ _ _ ((h.zG (.cells arr et) (.arr es.length sz es) ⟨w.heap.size,0,es.length,sz,arr.size⟩ rfl fun hx=>?_).put (some d) (av:=.os s.σ.length es.length sz 0 es.length) ?_) h2)
   ·have hb:=(MapKept.heap_alloc w (.cells arr et)).1
    exact⟨rfl,hne,rfl,e3,⟨arr,et,hb,rfl⟩,by rw[e2];simp,e4 _ hb hx,BB hb e5⟩
   ·simp only[ak]
    refine⟨hne,⟨w.heap.size,0,es.length,sz,arr.size⟩,by show(E++[_])[s.σ.length]? =_;rw[←hlen];exact List.getElem?_concat_length,Nat.le_refl _,⟨w.heap.size,0,none⟩,es.length,rfl,Nat.le_refl _,fun _=>⟨rfl,.inr (by simp),by rw[e2];simp⟩⟩
  ·rw[hl]at h2;cases h2
 ·cases h2
theorem alz (hs:dD X) (h:St X z s a w E pb) {q:Bool} {o:Oper} {k:AS→Option R} {r:R} (hk:ig X q o s k=some r) {K:Act→World→Prop} {Q:Exit→Act→World→Prop}
  (hK:∀s' a' w' E' bN,St X z s' a' w' E' bN→k s'=some r→K a' w'):o.wp X.P a w K Q:=by
 unfold ig at hk
 cases hp:kG X o s none with
 |some p=>
  obtain⟨b,rr⟩:=p
  rw[hp]at hk
  simp only at hk
  obtain⟨off,h1,h2⟩:=Option.bind_eq_some_iff.1 hk
  subst h1
  obtain⟨n,k1,k2⟩:=ZQ h (tag:=none) trivial hp
  exact qn k2 (hK _ _ _ _ _ (h.RM o.dst (fun _=>⟨n,k1,rfl⟩)) h2)
 |none=>
  rw[hp]at hk
  simp only at hk
  obtain⟨dst,op,ty,pos,af,g⟩:=o
  cases op<;>simp only at hk<;>first|exact akm h hk hK|exact zj hs h hk hK|skip
  case alloc t=>
   cases dst with
   |none=>cases hk
   |some d=>
    simp only at hk
    cases hL:X.L.contains d
    ·rw[hL]at hk
     simp only[cond_false]at hk
     cases hO:X.O.contains d
     ·rw[hO]at hk;exact zj hs h hk hK
     ·rw[hO]at hk
      simp only[cond_true]at hk
      split at hk
      ·rename_i cs hz
       obtain⟨i,v,h1,h2,h3,h4,h5,h6⟩:=yj (w:=w) hz (ctx z w E pb)
       have hrun:(execOp a.eval ⟨some d,.alloc t,ty,pos,af,g⟩).run X.P w=.ok (.value (.pointer (some ⟨w.heap.size,0,none⟩))) (w.alloc (.cells v.cells t)):=by
        simp [execOp,Instr.alloc,h3,newVar,yf]
       have hst:=h.zG (.cells v.cells t) (.box cs) ⟨w.heap.size,0,0,0,0⟩ rfl (fun hx=>by
        have hb:(w.alloc (.cells v.cells t)).heap[w.heap.size]? =some (.cells v.cells t (0,0)):=(MapKept.heap_alloc w _).1
        exact⟨rfl,⟨_,_,hb,by have:=h5.length;simpa using this.symm⟩,bu.za hb (aI.mono hx _ _ h5) h6 (fun i hi=>by simp)⟩)
       have hlen:=h.heap.len
       simp only[ctx]at hlen
       refine qn hrun (hK _ _ _ _ _ (hst.put (some d) (av:=.op s.σ.length 0) ?_) hk)
       simp only[ak]
       exact⟨⟨w.heap.size,0,0,0,0⟩,by show(E++[_])[s.σ.length]? =_;rw[←hlen];exact List.getElem?_concat_length,rfl,rfl⟩
      ·cases hk
    ·rw[hL]at hk
     simp only[cond_true]at hk
     split at hk
     ·rename_i cs hz
      obtain⟨i,v,h1,h2,h3,h4,h5,h6⟩:=yj (w:=w) hz (ctx z w E pb)
      have hrun:(execOp a.eval ⟨some d,.alloc t,ty,pos,af,g⟩).run X.P w=.ok (.value (.pointer (some ⟨w.heap.size,0,none⟩))) (w.alloc (.cells v.cells t)):=by
       simp [execOp,Instr.alloc,h3,newVar,yf]
      obtain⟨bN,hst⟩:=h.ou d hL (vs:=v.cells.toList) t h5 h6
      exact qn hrun (hK _ _ _ _ _ (by simpa using hst) hk)
     ·cases hk
  case box t x=>
   cases dst with
   |none=>cases hk
   |some d=>
    simp only at hk
    cases hL:X.L.contains d
    ·rw[hL]at hk
     simp only[cond_false]at hk
     cases hO:X.O.contains d
     ·rw[hO]at hk;exact zj hs h hk hK
     ·rw[hO]at hk
      simp only[cond_true]at hk
      obtain⟨cs,h1,h2⟩:=Option.bind_eq_some_iff.1 hk
      obtain⟨h5,h6,_,_⟩:=E9 X h1 (eH h x)
      have hrun:(execOp a.eval ⟨some d,.box t x,ty,pos,af,g⟩).run X.P w=.ok (.value (.pointer (some ⟨w.heap.size,0,none⟩))) (w.alloc (.cells (a.eval x).cells t)):=by
       simp [execOp,Instr.box,newVar,yf]
      have hst:=h.zG (.cells (a.eval x).cells t) (.box cs) ⟨w.heap.size,0,0,0,0⟩ rfl (fun hx=>by
       have hb:(w.alloc (.cells (a.eval x).cells t)).heap[w.heap.size]? =some (.cells (a.eval x).cells t (0,0)):=(MapKept.heap_alloc w _).1
       exact⟨rfl,⟨_,_,hb,by have:=h5.length;simpa using this.symm⟩,bu.za hb (aI.mono hx _ _ h5) h6 (fun i hi=>by simp)⟩)
      have hlen:=h.heap.len
      simp only[ctx]at hlen
      refine qn hrun (hK _ _ _ _ _ (hst.put (some d) (av:=.op s.σ.length 0) ?_) h2)
      simp only[ak]
      exact⟨⟨w.heap.size,0,0,0,0⟩,by show(E++[_])[s.σ.length]? =_;rw[←hlen];exact List.getElem?_concat_length,rfl,rfl⟩
    ·rw[hL]at hk
     simp only[cond_true]at hk
     obtain⟨cs,h1,h2⟩:=Option.bind_eq_some_iff.1 hk
     obtain⟨h5,h6,_,_⟩:=E9 X h1 (eH h x)
     have hrun:(execOp a.eval ⟨some d,.box t x,ty,pos,af,g⟩).run X.P w=.ok (.value (.pointer (some ⟨w.heap.size,0,none⟩))) (w.alloc (.cells (a.eval x).cells t)):=by
      simp [execOp,Instr.box,newVar,yf]
     obtain⟨bN,hst⟩:=h.ou d hL (vs:=(a.eval x).cells.toList) t h5 h6
     exact qn hrun (hK _ _ _ _ _ (by simpa using hst) h2)
  case store t x v=>
   split at hk
   ·rename_i b off hp
    obtain⟨cs,h1,h2⟩:=Option.bind_eq_some_iff.1 hk
    obtain⟨new,h3,h4⟩:=Option.bind_eq_some_iff.1 h2
    obtain⟨cs',h5,h6⟩:=Option.bind_eq_some_iff.1 h4
    obtain⟨n,k1,k2,k3,k4⟩:=Fi h (tag:=none) trivial hp h1
    obtain⟨r1,r2,r3,d,hd⟩:=E9 X h3 (eH h v)
    obtain⟨arr,bt,j1,j2,j3⟩:=XC k3
    obtain⟨j4,j5⟩:=j2.gb h5 r1
    have hrun:=Pf (P:=X.P) (t:=t) j1 r3 (U1 hd) r2 j5
    have hst:=h.alL k1 ⟨cs,k4⟩ (t:=bt) j4 (FF j3 r2)
    refine Qr (w':=_) ?_ (hK _ _ _ _ _ (hst.undef dst) h6)
    simp only[execOp,k2,Sem.run_bind]
    rw[show(Instr.storeAt t (.pointer (some ⟨n,off,none⟩)) (a.eval v)).run X.P w=_ from hrun]
    rfl
   ·obtain⟨new,h3,h4⟩:=Option.bind_eq_some_iff.1 hk
    obtain⟨σ',h5,h6⟩:=Option.bind_eq_some_iff.1 h4
    obtain⟨w',k1,k2⟩:=agJ h h3 (eH h v) h5 (eH h x)
    refine Qr (w':=w') ?_ (hK _ _ _ _ _ (k2.undef dst) h6)
    simp only[execOp,Sem.run_bind,k1]
    rfl
  case makeMap t rr=>
   cases rr with
   |some x=>cases hk
   |none=>
    simp only at hk
    have hrun:(execOp a.eval ⟨dst,.makeMap t none,ty,pos,af,g⟩).run X.P w=.ok (.value (.map (some w.heap.size))) (w.alloc (.map #[] 0)):=by
     simp [execOp,Instr.makeMap,newObj,Sem.run]
    have hst:=h.zG (.map #[] 0) (.map []) ⟨w.heap.size,0,0,0,0⟩ rfl (fun hx=>by
     have hb:(w.alloc (.map #[] 0)).heap[w.heap.size]? =some (.map #[] 0):=(MapKept.heap_alloc w _).1
     exact⟨rfl,_,_,hb,oQ.empty,rfl⟩)
    have hlen:=h.heap.len
    simp only[ctx]at hlen
    refine qn hrun (hK _ _ _ _ _ (hst.put dst (av:=.om s.σ.length) ?_) hk)
    simp only[ak]
    exact⟨⟨w.heap.size,0,0,0,0⟩,by show(E++[_])[s.σ.length]? =_;rw[←hlen];exact List.getElem?_concat_length,rfl,rfl⟩
  case range t x=>
   split at hk
   ·rename_i kt et hd
    obtain⟨es,h1,h2⟩:=Option.bind_eq_some_iff.1 hk
    obtain⟨o,k1,k2⟩:=ai1 h hd h1 (eH h x)
    have hlen:=h.heap.len
    simp only[ctx]at hlen
    refine qn (v:=.pointer (some ⟨w.heap.size,0,none⟩)) (w':=w.alloc o) (by simp [execOp,k1]) (hK _ _ _ _ _ (k2.put dst (av:=.op s.σ.length 0) ?_) h2)
    simp only[ak]
    exact⟨⟨w.heap.size,0,0,0,0⟩,by show(E++[_])[s.σ.length]? =_;rw[←hlen];exact List.getElem?_concat_length,rfl,rfl⟩
   ·cases hk
  case buildSlice t n ps=>
   cases dst with
   |none=>exact zj hs h hk hK
   |some d=>
    simp only at hk
    cases hO:X.O.contains d
    ·rw[hO]at hk;exact zj hs h hk hK
    ·rw[hO]at hk
     simp only[cond_true]at hk
     exact aeP hs h hk hK
  case mapUpdate t m i v=>
   split at hk
   ·rename_i kt et hd
    split at hk
    ·rename_i ek he
     obtain⟨σ',h1,h2⟩:=Option.bind_eq_some_iff.1 hk
     obtain⟨w',k1,k2⟩:=akk h hd he h1 (eH h m) (eH h i) (eH h v)
     refine Qr (w':=w') ?_ (hK _ _ _ _ _ (k2.undef dst) h2)
     simp only[execOp,Sem.run_bind,k1]
     rfl
    ·cases hk
   ·cases hk
  case call c=>
   have hargs:(c.args.map a.eval).toList=c.args.toList.map a.eval:=by simp
   have re:=FA h c.args.toList
   split at hk
   ·rename_i hc
    split at hk
    ·rename_i t u x y h1 h2
     split at hk
     ·rename_i e e' hd hu
      split at hk
      ·rename_i i hi
       cases eU:mT i
       ·rw[eU]at hk
        simp only[cond_false]at hk
        simp only[mT,Bool.or_eq_false_iff,beq_eq_false_iff_ne]at eU
        obtain⟨⟨z1,z2⟩,z3⟩:=eU
        cases TP:i.zero with
        |none=>rw[TP]at z3;cases z3
        |some zv=>
         rw[TP]at z3
         simp only[Bool.or_eq_false_iff,bne_eq_false_iff_eq,Bool.not_eq_false']at z3
         obtain⟨z3,z4⟩:=z3
         obtain⟨⟨rr,σ'⟩,h3,h4⟩:=Option.bind_eq_some_iff.1 hk
         rw[h2]at re
         have hl:∃v vy,c.args.toList.map a.eval=[v,vy]∧ak (ctx z w E pb) x v∧ak (ctx z w E pb) y vy:=by
          generalize c.args.toList.map a.eval=vs at *
          simp only[aI]at re
          obtain⟨v,_,rfl,r1,u',_,rfl,r2,rfl⟩:=re
          exact⟨v,u',rfl,r1,r2⟩
         obtain⟨v,vy,hvs,r1,r2⟩:=hl
         have hone:∀x∈zv.cells.toList,dK x=true:=List.all_eq_true.1 z4
         obtain⟨n,w',E',k1,k2,k3⟩:=agU (ty:=ty) h hd hu hi TP z3 z1 z2 hone h3 r1 r2
         have h1':c.argTypes=#[t,u]:=by apply Array.toList_inj.1;simpa using h1
         have pW:c.args.map a.eval=#[v,vy]:=by apply Array.toList_inj.1;rw[hargs,hvs]
         have hrun:(execOp a.eval ⟨dst,.call c,ty,pos,af,g⟩).run X.P w=.ok (.value n) w':=by
          simp only[execOp,resolve,hc,Sem.run_bind,Sem.run_pure,Result.andThen_ok,invoke,builtin,pW,h1',k1]
         exact qn hrun (hK _ _ _ _ _ (k2.put dst k3) h4)
       ·rw[eU]at hk;cases hk
      ·cases hk
     ·rename_i e kk hd hu
      split at hk
      ·rename_i i zs hi hz
       cases eU:mT i
       ·rw[eU]at hk
        simp only[cond_false]at hk
        simp only[mT,Bool.or_eq_false_iff,beq_eq_false_iff_ne]at eU
        obtain⟨⟨z1,z2⟩,z3⟩:=eU
        obtain⟨i',zv,g1,g2,g3,g4,g5,g6⟩:=yj (w:=w) hz (ctx z w E pb)
        rw[hi]at g1;injection g1 with g1;subst g1
        rw[g2]at z3
        simp only[Bool.or_eq_false_iff,bne_eq_false_iff_eq,Bool.not_eq_false']at z3
        obtain⟨z3,z4⟩:=z3
        have qU:∀c,aI c zs zv.cells.toList:=fun c=>by
         obtain⟨i2,v2,f1,f2,f3,f4,f5,f6⟩:=yj (w:=w) hz c
         rw[hi]at f1;injection f1 with f1;subst f1
         rw[g2]at f2;injection f2 with f2;subst f2
         exact f5
        obtain⟨⟨rr,σ'⟩,h3,h4⟩:=Option.bind_eq_some_iff.1 hk
        rw[h2]at re
        have hl:∃v vy,c.args.toList.map a.eval=[v,vy]∧ak (ctx z w E pb) x v∧ak (ctx z w E pb) y vy:=by
         generalize c.args.toList.map a.eval=vs at *
         simp only[aI]at re
         obtain⟨v,_,rfl,r1,u',_,rfl,r2,rfl⟩:=re
         exact⟨v,u',rfl,r1,r2⟩
        obtain⟨v,vy,hvs,r1,r2⟩:=hl
        obtain⟨n,w',E',k1,k2,k3⟩:=afE (ty:=ty) h hd hu hi g2 z3 z1 z2 qU g6 h3 r1 r2
        have h1':c.argTypes=#[t,u]:=by apply Array.toList_inj.1;simpa using h1
        have pW:c.args.map a.eval=#[v,vy]:=by apply Array.toList_inj.1;rw[hargs,hvs]
        have hrun:(execOp a.eval ⟨dst,.call c,ty,pos,af,g⟩).run X.P w=.ok (.value n) w':=by
         simp only[execOp,resolve,hc,Sem.run_bind,Sem.run_pure,Result.andThen_ok,invoke,builtin,pW,h1',k1]
        exact qn hrun (hK _ _ _ _ _ (k2.put dst k3) h4)
       ·rw[eU]at hk;cases hk
      ·cases hk
     ·cases hk
    ·cases hk
   ·rename_i hc
    split at hk
    ·rename_i t u x y h1 h2
     split at hk
     ·rename_i e e' hd hu
      split at hk
      ·rename_i i hi
       cases eU:mT i
       ·rw[eU]at hk
        simp only[cond_false]at hk
        simp only[mT,Bool.or_eq_false_iff,beq_eq_false_iff_ne]at eU
        obtain⟨⟨z1,z2⟩,z3⟩:=eU
        obtain⟨⟨rr,σ'⟩,h3,h4⟩:=Option.bind_eq_some_iff.1 hk
        rw[h2]at re
        have hl:∃v vy,c.args.toList.map a.eval=[v,vy]∧ak (ctx z w E pb) x v∧ak (ctx z w E pb) y vy:=by
         generalize c.args.toList.map a.eval=vs at *
         simp only[aI]at re
         obtain⟨v,_,rfl,r1,u',_,rfl,r2,rfl⟩:=re
         exact⟨v,u',rfl,r1,r2⟩
        obtain⟨v,vy,hvs,r1,r2⟩:=hl
        obtain⟨n,w',k1,k2,k3⟩:=ajG (ty:=ty) h hd hu hi z1 h3 r1 r2
        have h1':c.argTypes=#[t,u]:=by apply Array.toList_inj.1;simpa using h1
        have pW:c.args.map a.eval=#[v,vy]:=by apply Array.toList_inj.1;rw[hargs,hvs]
        have hrun:(execOp a.eval ⟨dst,.call c,ty,pos,af,g⟩).run X.P w=.ok (.value n) w':=by
         simp only[execOp,resolve,hc,Sem.run_bind,Sem.run_pure,Result.andThen_ok,invoke,builtin,pW,h1',k1]
        exact qn hrun (hK _ _ _ _ _ (k2.put dst k3) h4)
       ·rw[eU]at hk;cases hk
      ·cases hk
     ·cases hk
    ·cases hk
   ·rename_i hc
    cases hv:ga X ⟨dst,.call c,ty,pos,af,g⟩ s none with
    |some v=>
     rw[hv]at hk
     exact zj hs h (by rw[hv];exact hk) hK
    |none=>
     rw[hv]at hk
     simp only[A.It]at hk
     cases q
     ·simp only[cond_false]at hk
      split at hk
      ·rename_i t x h1 h2
       split at hk
       ·rename_i e hd
        rw[h2]at re
        have hl:∃v,c.args.toList.map a.eval=[v]∧ak (ctx z w E pb) x v:=by
         generalize c.args.toList.map a.eval=vs at *
         simp only[aI]at re
         obtain⟨v,_,rfl,r1,rfl⟩:=re
         exact⟨v,rfl,r1⟩
        obtain⟨v,hvs,r1⟩:=hl
        obtain⟨n,σ',k1,k2,k3⟩:=ajz (ty:=ty) h hd hk r1
        have h1':c.argTypes=#[t]:=by apply Array.toList_inj.1;simpa using h1
        have pW:c.args.map a.eval=#[v]:=by apply Array.toList_inj.1;rw[hargs,hvs]
        have hrun:(execOp a.eval ⟨dst,.call c,ty,pos,af,g⟩).run X.P w=.ok (.value (.int .i64 (n:Int))) w:=by
         simp only[execOp,resolve,hc,Sem.run_bind,Sem.run_pure,Result.andThen_ok,invoke,builtin,pW,h1',k2]
        exact qn hrun (hK _ _ _ _ _ (k3.put dst (by simp [ak])) k1)
       ·cases hk
      ·cases hk
     ·cases hk
   ·rename_i hc
    split at hk
    ·rename_i t x h1 h2
     split at hk
     ·rename_i e hd
      split at hk
      ·rename_i i zs hi hz
       cases eU:mT i
       ·rw[eU]at hk
        simp only[cond_false]at hk
        simp only[mT,Bool.or_eq_false_iff,beq_eq_false_iff_ne]at eU
        obtain⟨⟨z1,z2⟩,z3⟩:=eU
        obtain⟨i',zv,g1,g2,g3,g4,g5,g6⟩:=yj (w:=w) hz (ctx z w E pb)
        rw[hi]at g1;injection g1 with g1;subst g1
        rw[g2]at z3
        simp only[Bool.or_eq_false_iff,bne_eq_false_iff_eq,Bool.not_eq_false']at z3
        obtain⟨z3,z4⟩:=z3
        have qU:∀c,aI c zs zv.cells.toList:=fun c=>by
         obtain⟨i2,v2,f1,f2,f3,f4,f5,f6⟩:=yj (w:=w) hz c
         rw[hi]at f1;injection f1 with f1;subst f1
         rw[g2]at f2;injection f2 with f2;subst f2
         exact f5
        obtain⟨σ',h3,h4⟩:=Option.bind_eq_some_iff.1 hk
        rw[h2]at re
        have hl:∃v,c.args.toList.map a.eval=[v]∧ak (ctx z w E pb) x v:=by
         generalize c.args.toList.map a.eval=vs at *
         simp only[aI]at re
         obtain⟨v,_,rfl,r1,rfl⟩:=re
         exact⟨v,rfl,r1⟩
        obtain⟨v,hvs,r1⟩:=hl
        obtain⟨w',k1,k2⟩:=aic (ty:=ty) h hd (agO X.P hi g2) z3 z1 qU g6 h3 r1
        have h1':c.argTypes=#[t]:=by apply Array.toList_inj.1;simpa using h1
        have pW:c.args.map a.eval=#[v]:=by apply Array.toList_inj.1;rw[hargs,hvs]
        have hrun:(execOp a.eval ⟨dst,.call c,ty,pos,af,g⟩).run X.P w=.ok (.value undef) w':=by
         simp only[execOp,resolve,hc,Sem.run_bind,Sem.run_pure,Result.andThen_ok,invoke,builtin,pW,h1',k1]
         rfl
        exact qn hrun (hK _ _ _ _ _ (k2.undef dst) h4)
       ·rw[eU]at hk;cases hk
      ·cases hk
     ·cases hk
    ·cases hk
   ·rename_i hc
    split at hk
    ·rename_i t u m key h1 h2
     split at hk
     ·rename_i kt et hd
      split at hk
      ·rename_i ek he
       obtain⟨σ',h3,h4⟩:=Option.bind_eq_some_iff.1 hk
       rw[h2]at re
       have hl:∃v vy,c.args.toList.map a.eval=[v,vy]∧ak (ctx z w E pb) m v∧ak (ctx z w E pb) key vy:=by
        generalize c.args.toList.map a.eval=vs at *
        simp only[aI]at re
        obtain⟨v,_,rfl,r1,u',_,rfl,r2,rfl⟩:=re
        exact⟨v,u',rfl,r1,r2⟩
       obtain⟨v,vy,hvs,r1,r2⟩:=hl
       obtain⟨w',k1,k2⟩:=akg (u:=u) (ty:=ty) h hd he h3 r1 r2
       have h1':c.argTypes=#[t,u]:=by apply Array.toList_inj.1;simpa using h1
       have pW:c.args.map a.eval=#[v,vy]:=by apply Array.toList_inj.1;rw[hargs,hvs]
       have hrun:(execOp a.eval ⟨dst,.call c,ty,pos,af,g⟩).run X.P w=.ok (.value undef) w':=by
        simp only[execOp,resolve,hc,Sem.run_bind,Sem.run_pure,Result.andThen_ok,invoke,builtin,pW,h1',k1]
        rfl
       exact qn hrun (hK _ _ _ _ _ (k2.undef dst) h4)
      ·cases hk
     ·cases hk
    ·cases hk
   ·exact zj hs h hk hK
   ·rename_i f hc
    cases hq:(q&&!X.W.contains f)
    ·rw[hq]at hk
     simp only[cond_false]at hk
     obtain⟨⟨rr,σ'⟩,h3,h4⟩:=Option.bind_eq_some_iff.1 hk
     exact HF h (hs.call _ _ _ _ _ h3) (by rw[hargs];exact re) (UO hc) (fun v w' E' h1 h2=>hK _ _ _ _ _ (h1.put dst h2) h4)
    ·rw[hq]at hk
     simp only[cond_true]at hk
     exact zj hs h hk hK
   ·rename_i x hnf hc
    cases q
    ·simp only[cond_false]at hk
     obtain⟨⟨rr,σ'⟩,h3,h4⟩:=Option.bind_eq_some_iff.1 hk
     have rx:=eH h x
     generalize ev X s x=vx at *
     cases vx<;>simp only[A.jF]at h3<;>first|(cases h3;done)|skip
     rename_i fn0 H7
     simp only[ak]at rx
     obtain⟨f,cs,e1,e2,e3⟩:=rx
     rw[←e2]at h3
     have AZ:X.dyn (X.nm.getD f 0) (c.args.toList.map (ev X s)++H7) s.σ=some (rr,σ'):=by rw[h.nm];exact h3
     exact HF h (hs.dyn _ _ _ _ _ AZ) (vs:=c.args.map a.eval++cs) (by rw[Array.toList_append,hargs];exact re.append e3) (OB hc e1) (fun v w' E' h1 h2=>hK _ _ _ _ _ (h1.put dst h2) h4)
    ·simp only[cond_true]at hk
     exact zj hs h hk hK
   ·cases hk
end
end
section
structure Up where
 d:Option Nat
 v:AV
 bx:Option (Nat×AV)
 new:Option uj
 wA:Bool
 σ:Option Heap
def pg (wA:Bool) (d:Nat) (a:Option uj):Option uj:=match oo d a with|some p=>bif wA&&p.slot==d then none else some p|none=>none
def Up.sl (u:Up) (l:List AV):List AV:=match u.d with
 |some d=>(match u.bx with|some (b,x)=>l.set b x|none=>l).set d u.v
 |none=>(match u.bx with|some (b,x)=>l.set b x|none=>l)
def Up.A (u:Up) (A:Nat→Option uj) (t:Nat):Option uj:=match u.d with|none=>A t|some d=>bif t==d then u.new else pg u.wA d (A t)
def Up.ap (u:Up) (s:AS):AS:=⟨u.sl s.sl,u.A s.A,u.σ.getD s.σ⟩
theorem Ho (d:Nat) (a:Option uj):pg false d a=oo d a:=by unfold pg;cases oo d a<;>rfl
theorem Po (i:Bool) (d:Nat) (a:Option uj):pg i d a=a∨pg i d a=none:=by
 cases a with
 |none=>left;rfl
 |some p=>
  unfold pg
  cases hk:oo d (some p)with
  |none=>right;rfl
  |some q=>
   simp only
   have:q=p:=by
    simp only[oo]at hk
    cases ht:p.tag with
    |none=>rw[ht]at hk;simpa using hk.symm
    |some g=>
     obtain⟨g,w⟩:=g
     rw[ht]at hk
     simp only at hk
     cases hg:(g==d)
     ·rw[hg]at hk;simpa using hk.symm
     ·rw[hg]at hk;cases hk
   subst this
   cases hb:(i&&q.slot==d)
   ·left;rfl
   ·right;rfl
theorem Ld (i:Bool) (d:Nat):pg i d none=none:=rfl
theorem ahb (i j:Bool) (d e:Nat) (a:Option uj):pg i d (pg j e a)=pg j e (pg i d a):=by
 rcases Po i d a with h1|h1<;>rcases Po j e a with h2|h2
 ·rw[h2,h1,h2]
 ·rw[h2,Ld,h1,h2]
 ·rw[h2,h1,Ld]
 ·rw[h2,Ld,h1,Ld]
structure Up.Z5 (x y : Up) : Prop where
 d:∀d,x.d=some d→y.d≠some d
 bx:∀b v,x.bx=some (b,v)→(∀c w,y.bx=some (c,w)→c≠b)∧y.d≠some b
 by':∀b v,y.bx=some (b,v)→(∀c w,x.bx=some (c,w)→c≠b)∧x.d≠some b
 nx:∀d,y.d=some d→pg y.wA d x.new=x.new
 ny:∀d,x.d=some d→pg x.wA d y.new=y.new
 σ:x.σ=none∨y.σ=none
theorem Up.comm {x y:Up} (h:x.Z5 y) (s:AS):x.ap (y.ap s)=y.ap (x.ap s):=by
 obtain⟨hd,mK,hby,hnx,hny,fS⟩:=h
 unfold Up.ap
 congr 1
 ·show x.sl (y.sl s.sl)=y.sl (x.sl s.sl)
  generalize s.sl=l
  obtain⟨xd,xv,xb,xn,xi,xs⟩:=x
  obtain⟨yd,yv,yb,yn,yi,ys⟩:=y
  simp only at hd mK hby
  cases xb with
  |none=>
   cases yb with
   |none=>
    cases xd with
    |none=>cases yd<;>simp [Up.sl]
    |some dx=>cases yd with
     |none=>simp [Up.sl]
     |some dy=>simp only[Up.sl];rw[List.set_comm];intro e;exact hd dx rfl (by rw[e])
   |some bv=>
    obtain⟨b,v⟩:=bv
    obtain⟨_,hb⟩:=hby b v rfl
    cases xd with
    |none=>cases yd<;>simp [Up.sl]
    |some dx=>
     have hne:dx≠b:=fun e=>hb (by rw[e])
     cases yd with
     |none=>simp only[Up.sl];rw[List.set_comm _ _ (fun e=>hne e.symm)]
     |some dy=>
      have pV:dx≠dy:=fun e=>hd dx rfl (by rw[e])
      simp only[Up.sl]
      rw[List.set_comm _ _ (fun e=>pV e.symm),List.set_comm _ _ (fun e=>hne e.symm)]
  |some bv=>
   obtain⟨b,v⟩:=bv
   obtain⟨Jr,hb⟩:=mK b v rfl
   cases yb with
   |none=>
    cases yd with
    |none=>cases xd<;>simp [Up.sl]
    |some dy=>
     have hne:dy≠b:=fun e=>hb (by rw[e])
     cases xd with
     |none=>simp only[Up.sl];rw[List.set_comm _ _ hne]
     |some dx=>
      have pV:dx≠dy:=fun e=>hd dx rfl (by rw[e])
      simp only[Up.sl]
      rw[List.set_comm _ _ hne,List.set_comm _ _ (fun e=>pV e.symm)]
   |some cw=>
    obtain⟨c,u⟩:=cw
    have hcb:c≠b:=Jr c u rfl
    obtain⟨_,hc⟩:=hby c u rfl
    cases xd with
    |none=>
     cases yd with
     |none=>simp only[Up.sl];rw[List.set_comm _ _ hcb]
     |some dy=>
      have hne:dy≠b:=fun e=>hb (by rw[e])
      simp only[Up.sl]
      rw[List.set_comm _ _ hne,List.set_comm _ _ hcb]
    |some dx=>
     have hnc:dx≠c:=fun e=>hc (by rw[e])
     cases yd with
     |none=>
      simp only[Up.sl]
      rw[List.set_comm _ _ hcb,List.set_comm _ _ (fun e=>hnc e.symm)]
     |some dy=>
      have hne:dy≠b:=fun e=>hb (by rw[e])
      have pV:dx≠dy:=fun e=>hd dx rfl (by rw[e])
      simp only[Up.sl]
      rw[List.set_comm _ _ hne,List.set_comm _ _ (fun e=>pV e.symm),List.set_comm _ _ hcb,List.set_comm _ _ (fun e=>hnc e.symm)]
 ·funext t
  show x.A (y.A s.A) t=y.A (x.A s.A) t
  generalize s.A t=a0 
  unfold Up.A
  cases hxd:x.d with
  |none=>cases y.d<;>rfl
  |some dx=>
   cases hyd:y.d with
   |none=>rfl
   |some dy=>
    have pV:dx≠dy:=fun e=>hd dx hxd (by rw[hyd,e])
    simp only
    by_cases h1:t=dx
    ·subst h1
     have:(t==dy)=false:=by simpa using pV
     simp only[beq_self_eq_true,cond_true,this,cond_false]
     exact(hnx dy hyd).symm
    ·have h1':(t==dx)=false:=by simpa using h1
     by_cases h2:t=dy
     ·subst h2
      simp only[beq_self_eq_true,cond_true,h1',cond_false]
      exact hny dx hxd
     ·have h2':(t==dy)=false:=by simpa using h2
      simp only[h1',h2',cond_false]
      exact ahb ..
 ·rcases fS with e|e<;>simp [e]
structure RI (X : Fx) (Rt : List (Nat × Nat)) (Bt : List Nat) (s : AS) : Prop where
 l:∀t b,Rt.lookup t=some b→X.L.contains b=true
 a:∀t p,s.A t=some p→Rt.lookup t=some p.slot
 v:∀t b,Rt.lookup t=some b→X.L.contains t=false→lZ (s.sl.getD t .undef)=true
 b:∀t,Bt.contains t=true→oz (s.sl.getD t .undef)=true
def qx (σ σ':Heap):Prop:=∀(id:Nat) (cs:List AV),σ[id]? =some (aJ.box cs)↔σ'[id]? =some (aJ.box cs)
section
variable {R : Type} {X : Fx} {Rt : List (Nat × Nat)} {Bt : List Nat} {s s' : AS}
theorem LJ (h:RI X Rt Bt s) {tag:Option (Nat×Bool)} {x:Operand} {b off:Nat} (hp:place X s tag x=some (b,off)):zg X Rt x=some b:=by
 cases x with
 |tmp t=>
  simp only[place]at hp
  simp only[zg]
  cases hL:X.L.contains t
  ·rw[hL]at hp
   simp only[cond_false]at hp ⊢
   split at hp
   ·rename_i p hA
    cases hc:X.L.contains p.slot
    ·rw[hc]at hp;cases hp
    ·rw[hc]at hp
     simp only[cond_true]at hp
     have ha:=h.a t p hA
     split at hp
     ·simp only[Option.some.injEq,Prod.mk.injEq]at hp;rw[ha,hp.1]
     ·rename_i g hg
      cases ht:(tag==some g)
      ·rw[ht]at hp;cases hp
      ·rw[ht]at hp;simp only[cond_true,Option.some.injEq,Prod.mk.injEq]at hp;rw[ha,hp.1]
   ·cases hp
  ·rw[hL]at hp
   simp only[cond_true,Option.some.injEq,Prod.mk.injEq]at hp ⊢
   exact hp.1
 |_=>simp [place]at hp
theorem Fu (h:RI X Rt Bt s) {tag:Option (Nat×Bool)} {x:Operand} {b:Nat} (hr:zg X Rt x=some b) (hp:place X s tag x=none):lZ (ev X s x)=true:=by
 cases x with
 |tmp t=>
  simp only[zg]at hr
  cases hL:X.L.contains t
  ·rw[hL]at hr
   simp only[cond_false]at hr
   simp only[ev,hL,cond_false]
   exact h.v t b hr hL
  ·simp only[place,hL,cond_true]at hp;cases hp
 |_=>simp [zg]at hr
theorem XD {v:AV} {σ:Heap} (h:lZ v=true):A.deref v σ=none:=by
 unfold lZ at h;split at h<;>first|rfl|cases h
theorem ag7 {v:AV} {σ σ':Heap} (h:qx σ σ') (hv:oz v=true):A.deref v σ=A.deref v σ':=by
 cases v<;>first|rfl|skip
 case op id off=>
  simp only[A.deref]
  cases h1:σ[id]? with
  |none=>
   cases h2:σ'[id]? with
   |none=>rfl
   |some b=>cases b<;>first|rfl|(have:=(h id _).2 h2;rw[h1]at this;cases this)
  |some b=>
   cases b with
   |box cs=>rw[(h id cs).1 h1]
   |_=>
    cases h2:σ'[id]? with
    |none=>rfl
    |some b=>cases b<;>first|rfl|(have:=(h id _).2 h2;rw[h1]at this;cases this)
 case oe id g i off=>cases hv
theorem agI {v:AV} {new:List AV} {σ:Heap} (h:lZ v=true):A.storeAt v new σ=none:=by
 unfold lZ at h;split at h<;>first|rfl|cases h
theorem O2 {pl:Nat→Option (Nat×TypeId)}:∀(ps:List (Nat×Operand)) (cs:List AV),(∀p∈ps,ev X s p.2=ev X s' p.2)→ow X s pl ps cs=ow X s' pl ps cs
 |[],cs,_=>rfl
 |(i,x)::ps,cs,h=>by
  have hx:=h (i,x) (by simp)
  simp only at hx
  simp only[ow,hx]
  cases pl i with
  |none=>rfl
  |some ot=>
   simp only
   congr 1;funext new;congr 1;funext cs'
   exact O2 ps cs' (fun p hp=>h p (by simp [hp]))
theorem PY {o:Oper} {tag:Option (Nat×Bool)} (gy:∀x∈o.op.operands.toList,ev X s x=ev X s' x) (hpl:∀x,nN o=some x→place X s tag x=place X s' tag x) (hb:∀b,rt X Rt o=some b→s.sl.getD b .undef=s'.sl.getD b .undef)
  (Jk:∀x b off,nN o=some x→place X s' tag x=some (b,off)→rt X Rt o=some b):kG X o s tag=kG X o s' tag:=by
 obtain⟨dst,op,ty,pos,af,g⟩:=o
 cases op<;>simp only[kG]
 case nilCheck x=>
  rw[hpl x rfl]
  split
  ·rename_i b off hp;rw[hb b (Jk x b off rfl hp)]
  ·rfl
 case fieldAddr t x f=>
  rw[hpl x rfl]
  split
  ·rename_i b off hp;rw[hb b (Jk x b off rfl hp)]
  ·rfl
 case indexAddr t x i=>
  rw[hpl x rfl,gy i (by simp [Op.operands])]
  split
  ·rename_i b off hp;rw[hb b (Jk x b off rfl hp)]
  ·rfl
theorem Lj {o:Oper} {tag:Option (Nat×Bool)} (gy:∀x∈o.op.operands.toList,ev X s x=ev X s' x) (hpl:∀x,nN o=some x→place X s tag x=place X s' tag x) (hb:∀b,rt X Rt o=some b→s.sl.getD b .undef=s'.sl.getD b .undef)
  (Jk:∀x b off,nN o=some x→place X s' tag x=some (b,off)→rt X Rt o=some b) (hno:∀x b,nN o=some x→rt X Rt o=some b→place X s' tag x=none→lZ (ev X s' x)=true) (fS:uF X Rt o=true→soft Bt o=false→s.σ=s'.σ) (aoe:uF X Rt o=true→soft Bt o=true→qx s.σ s'.σ) (hB:∀t,Bt.contains t=true→oz (ev X s' (.tmp t))=true):ga X o s tag=ga X o s' tag:=by
 obtain⟨dst,op,ty,pos,af,g⟩:=o
 cases op<;>simp only[ga]
 case move x=>rw[gy x (by simp [Op.operands])]
 case assign x=>rw[gy x (by simp [Op.operands])]
 case pick x y u=>rw[gy x (by simp [Op.operands]),gy y (by simp [Op.operands]),gy u (by simp [Op.operands])]
 case box t x=>rw[gy x (by simp [Op.operands])]
 case build t ps=>
  have hps:∀p∈ps.toList,ev X s p.2=ev X s' p.2:=fun p hp=>gy p.2 (by simp only[Op.operands];simp;exact⟨p.1,by simpa using hp⟩)
  split
  ·rw[O2 ps.toList _ hps]
  ·rfl
 case buildSlice t n ps=>
  have hps:∀p∈ps.toList,ev X s p.2=ev X s' p.2:=fun p hp=>gy p.2 (by simp only[Op.operands];simp;exact⟨p.1,by simpa using hp⟩)
  split
  ·split
   ·rw[O2 ps.toList _ hps]
   ·rfl
  ·rfl
 case load t x=>
  rw[hpl x rfl,gy x (by simp [Op.operands])]
  split
  ·rename_i b off hp;rw[hb b (Jk x b off rfl hp)]
  ·rename_i hp
   cases hr:rt X Rt ⟨dst,.load t x,ty,pos,af,g⟩with
   |none=>
    cases Eh:soft Bt ⟨dst,.load t x,ty,pos,af,g⟩
    ·rw[fS (by simp only[uF,hr,Option.isNone_none]) Eh]
    ·rw[ag7 (aoe (by simp only[uF,hr,Option.isNone_none]) Eh) (by
      cases x with
      |tmp u=>exact hB u Eh
      |_=>simp [soft]at Eh)]
   |some b=>rw[XD (hno x b rfl hr hp),XD (hno x b rfl hr hp)]
 case nilCheck x=>rw[gy x (by simp [Op.operands])]
 case binOp op t x y u=>rw[gy x (by simp [Op.operands]),gy y (by simp [Op.operands])]
 case unOp op t x=>rw[gy x (by simp [Op.operands])]
 case convert a b x=>rw[gy x (by simp [Op.operands])]
 case makeFunc fn first caps=>
  have:caps.toList.map (ev X s)=caps.toList.map (ev X s'):=List.map_congr_left fun x hx=>gy x (by simp [Op.operands];exact .inr (by simpa using hx))
  rw[this]
 case slice t x lo hi mx=>
  have h1:lo.map (ev X s)=lo.map (ev X s'):=by cases lo with|none=>rfl|some y=>simp only[Option.map_some];rw[gy y (by simp [Op.operands])]
  have h2:hi.map (ev X s)=hi.map (ev X s'):=by cases hi with|none=>rfl|some y=>simp only[Option.map_some];rw[gy y (by simp [Op.operands])]
  rw[gy x (by simp [Op.operands]),h1,h2,fS rfl rfl]
  split
  ·rfl
  ·split
   ·rw[gy _ (by simp [Op.operands]),gy _ (by simp [Op.operands])]
   ·rfl
 case fieldAddr t x f=>rw[gy x (by simp [Op.operands])]
 case field t x f=>rw[gy x (by simp [Op.operands])]
 case indexAddr t x i=>rw[gy x (by simp [Op.operands]),gy i (by simp [Op.operands])]
 case index t x i=>rw[gy x (by simp [Op.operands]),gy i (by simp [Op.operands])]
 case lookup t x i ok=>rw[gy x (by simp [Op.operands]),gy i (by simp [Op.operands]),fS rfl rfl]
 case extract x i=>rw[gy x (by simp [Op.operands])]
 case entry i=>rw[gy i (by simp [Op.operands]),fS rfl rfl]
 case call c=>
  have ha:c.args.toList.map (ev X s)=c.args.toList.map (ev X s'):=List.map_congr_left fun x hx=>gy x (by simp [Op.operands,Call.operands];exact .inr (by simpa using hx))
  rw[ha,fS rfl rfl]
  cases hc:c.callee with
  |value f=>
   have hf:=gy f (by simp [Op.operands,Call.operands,hc])
   cases f<;>simp only[hf]
  |_=>rfl
theorem Ls {σ:Heap} {b:aJ} (hb:∀cs,b≠.box cs):qx σ (σ++[b]):=by
 intro id cs
 by_cases h:id<σ.length
 ·rw[List.getElem?_append_left h]
 ·rw[List.getElem?_eq_none (by omega),List.getElem?_append_right (by omega)]
  constructor
  ·intro e;cases e
  ·intro e
   have:=List.mem_of_getElem? e
   simp at this
   exact absurd this.symm (hb cs)
theorem Qv {σ:Heap} {id:Nat} {b b':aJ} (hb:∀cs,b≠.box cs) (hb':∀cs,b'≠.box cs) (h:σ[id]? =some b):qx σ (σ.set id b'):=by
 intro i cs
 rw[List.getElem?_set]
 by_cases e:id=i
 ·subst e
  rw[h]
  have hlt:=(List.getElem?_eq_some_iff.1 h).1
  simp only[if_true,hlt]
  constructor
  ·intro e;injection e with e;exact absurd e (hb cs)
  ·intro e;injection e with e;exact absurd e (hb' cs)
 ·simp [e]
theorem C5 (σ:Heap):qx σ σ:=fun _ _=>Iff.rfl
theorem ah4 {ek:A.EK} {m k v:AV} {σ σ':Heap} (h:A.eA ek m k v σ=some σ'):qx σ σ':=by
 unfold A.eA at h
 cases hk:A.jt ek k
 ·rw[hk]at h;cases h
 rw[hk]at h
 simp only[cond_true]at h
 split at h
 ·split at h
  ·rename_i es hg
   obtain⟨es',_,e⟩:=Option.map_eq_some_iff.1 h
   subst e
   exact Qv (fun cs e=>by cases e) (fun cs e=>by cases e) hg
  ·cases h
 ·cases h
theorem Vo {sz most:Nat} {x r:AV} {ys:List (List AV)} {σ σ':Heap} (h:A.sJ sz most x ys σ=some (r,σ')):qx σ σ':=by
 unfold A.sJ at h
 split at h
 ·split at h
  ·injection h with h;injection h with _ h;subst h;exact C5 _
  ·split at h
   ·injection h with h;injection h with _ h;subst h;exact Ls fun cs e=>by cases e
   ·cases h
 ·split at h
  ·injection h with h;injection h with _ h;subst h;exact C5 _
  ·split at h
   ·injection h with h;injection h with _ h;subst h;exact Ls fun cs e=>by cases e
   ·cases h
 ·split at h
  ·rename_i hg
   split at h
   ·split at h
    ·injection h with h;injection h with _ h;subst h;exact C5 _
    ·split at h
     ·injection h with h;injection h with _ h;subst h;exact Qv (fun cs e=>by cases e) (fun cs e=>by cases e) hg
     ·injection h with h;injection h with _ h;subst h;exact Qv (fun cs e=>by cases e) (fun cs e=>by cases e) hg
   ·cases h
  ·split at h
   ·injection h with h;injection h with _ h;subst h;exact Ls fun cs e=>by cases e
   ·cases h
  ·cases h
 ·cases h
theorem afG {sz most:Nat} {x y r:AV} {σ σ':Heap} (h:A.append sz most x y σ=some (r,σ')):qx σ σ':=by
 unfold A.append at h
 obtain⟨ys,_,h2⟩:=Option.bind_eq_some_iff.1 h
 exact Vo h2
theorem aeO {sz most:Nat} {zs:List AV} {x n r:AV} {σ σ':Heap} (h:A.HE sz most zs x n σ=some (r,σ')):qx σ σ':=by
 unfold A.HE at h
 split at h
 ·split at h
  ·exact Vo h
  ·cases h
 ·cases h
structure Ag (X : Fx) (Rt : List (Nat × Nat)) (Bt : List Nat) (o : Oper) (ls : List Nat) (tag : Option (Nat × Bool)) (s s' : AS) : Prop where
 r1:RI X Rt Bt s
 r2:RI X Rt Bt s'
 gy:∀t∈ls,X.L.contains t=false→s.sl.getD t .undef=s'.sl.getD t .undef
 pl:∀t,nN o=some (.tmp t)→place X s tag (.tmp t)=place X s' tag (.tmp t)
 bx:∀b,rt X Rt o=some b→s.sl.getD b .undef=s'.sl.getD b .undef
 σ:uF X Rt o=true→soft Bt o=false→s.σ=s'.σ
 JS:uF X Rt o=true→soft Bt o=true→qx s.σ s'.σ
theorem aiZ {tag:Option (Nat×Bool)} {x:Operand} {b off:Nat} (h:place X s tag x=some (b,off)):X.L.contains b=true:=by
 cases x with
 |tmp t=>
  simp only[place]at h
  cases hL:X.L.contains t
  ·rw[hL]at h
   simp only[cond_false]at h
   split at h
   ·rename_i p hA
    cases hp:X.L.contains p.slot
    ·rw[hp]at h;cases h
    ·rw[hp]at h
     simp only[cond_true]at h
     split at h
     ·simp only[Option.some.injEq,Prod.mk.injEq]at h;rw[←h.1];exact hp
     ·rename_i g hg
      cases ht:(tag==some g)
      ·rw[ht]at h;cases h
      ·rw[ht]at h;simp only[cond_true,Option.some.injEq,Prod.mk.injEq]at h;rw[←h.1];exact hp
   ·cases h
  ·rw[hL]at h
   simp only[cond_true,Option.some.injEq,Prod.mk.injEq]at h
   rw[←h.1];exact hL
 |_=>simp [place]at h
theorem Ag.Cr {o:Oper} {ls:List Nat} {tag:Option (Nat×Bool)} (h:Ag X Rt Bt o ls tag s s') (hls:∀t,Operand.tmp t∈o.op.operands.toList→t∈ls):∀x∈o.op.operands.toList,ev X s x=ev X s' x:=by
 intro x hx
 cases x with
 |tmp t=>
  simp only[ev]
  cases hL:X.L.contains t
  ·simp only[cond_false];exact h.gy t (hls t hx) hL
  ·rfl
 |_=>rfl
theorem RI.Gs (h:RI X Rt Bt s):∀t,Bt.contains t=true→oz (ev X s (.tmp t))=true:=by
 intro t ht
 simp only[ev]
 cases X.L.contains t
 ·exact h.b t ht
 ·rfl
theorem Ag.A7 {o:Oper} {ls:List Nat} {tag:Option (Nat×Bool)} (h:Ag X Rt Bt o ls tag s s'):∀x,nN o=some x→place X s tag x=place X s' tag x:=by
 intro x hx
 cases x with
 |tmp t=>exact h.pl t hx
 |_=>rfl
def EB (X:Fx) (d:Option Nat) (v:AV):Up:=⟨d,match d with|some d=>bif X.L.contains d then .undef else v|none=>.undef,none,none,false,none⟩
def JQ (X:Fx) (d:Option Nat) (σ:Heap) (v:AV):Up:=⟨d,match d with|some d=>bif X.L.contains d then .undef else v|none=>.undef,none,none,false,some σ⟩
def Ny (X:Fx) (d:Option Nat) (b:Nat) (cs:List AV):Up:=⟨d,match d with|some d=>bif X.L.contains d then .undef else .aG []|none=>.undef,some (b,.lbx cs),none,false,none⟩
def Nx (d:Nat) (cs:List AV):Up:=⟨some d,.lbx cs,none,none,true,none⟩
def GH (X:Fx) (d:Option Nat) (b off:Nat) (tag:Option (Nat×Bool)):Up:=
 ⟨d,.undef,none,match d with|some d=>(bif X.L.contains d||!Nat.blt d X.n then none else match tag with|some (g,w)=>(bif g==d then none else some ⟨b,off,some (g,w)⟩)|none=>some ⟨b,off,none⟩)|none=>none,false,none⟩
theorem Mr (d:Option Nat) (v:AV) (s:AS):s.put X d v=(EB X d v).ap s:=by
 cases d with
 |none=>rfl
 |some d=>
  simp only[AS.put,Up.ap,EB,Up.sl,Option.getD_none]
  congr 1;funext t;simp only[Up.A,Ho]
theorem kM (d:Option Nat) (v:AV) (σ:Heap) (s:AS):(s.heap σ).put X d v=(JQ X d σ v).ap s:=by
 cases d with
 |none=>rfl
 |some d=>
  simp only[AS.put,AS.heap,Up.ap,JQ,Up.sl,Option.getD_some]
  congr 1;funext t;simp only[Up.A,Ho]
theorem Ww (d:Option Nat) (b:Nat) (cs:List AV) (s:AS):(⟨s.sl.set b (.lbx cs),s.A,s.σ⟩:AS).put X d (.aG [])=(Ny X d b cs).ap s:=by
 cases d with
 |none=>rfl
 |some d=>
  simp only[AS.put,Up.ap,Ny,Up.sl,Option.getD_none]
  congr 1;funext t;simp only[Up.A,Ho]
theorem Lh (d:Nat) (cs:List AV) (s:AS):s.ou d cs=(Nx d cs).ap s:=by
 simp only[AS.ou,Up.ap,Nx,Up.sl,Option.getD_none]
 congr 1
theorem Mh (d:Option Nat) (b off:Nat) (tag:Option (Nat×Bool)) (s:AS):s.mF X d b off tag=(GH X d b off tag).ap s:=by
 cases d with
 |none=>rfl
 |some d=>
  simp only[AS.mF,Up.ap,GH,Up.sl,Option.getD_none]
  congr 1;funext t;simp only[Up.A,Ho];rfl
structure tO (X : Fx) (Rt : List (Nat × Nat)) (Bt : List Nat) (o : Oper) (ls : List Nat) (τ : Heap) (u : Up) : Prop where
 d:u.d=o.dst
 bx:∀b v,u.bx=some (b,v)→X.L.contains b=true∧wb X Rt o=some b
 new:∀p,u.new=some p→rL o=true∧(∀g w,p.tag=some (g,w)→g∈ls)∧rt X Rt o=some p.slot∧∀d,u.d=some d→Rt.lookup d=some p.slot
 box:u.wA=true→∃d,o.dst=some d∧X.L.contains d=true
 σ:u.σ≠none→pX X Rt o=true
 v:∀d b,u.d=some d→Rt.lookup d=some b→X.L.contains d=false→lZ u.v=true
 vb:∀d,u.d=some d→Bt.contains d=true→oz u.v=true
 bxv:∀b v,u.bx=some (b,v)→oz v=true
 fr:Cu o=true→∀σ,u.σ=some σ→qx τ σ
def uk (X:Fx) (Rt:List (Nat×Nat)) (Bt:List Nat) (o:Oper):Prop:=(∀d,o.dst=some d→X.L.contains d=false→Rt.lookup d=(bif wz o then rt X Rt o else none))∧∀d,o.dst=some d→Bt.contains d=true→BE Bt o=true
theorem uk.of {o:Oper} (h:RH X Rt o=true) (hb:RF Bt o=true):uk X Rt Bt o:=by
 refine⟨fun d hd hL=>?_,fun d hd hc=>?_⟩
 ·unfold RH at h
  rw[hd]at h
  simp only[hL,Bool.false_or,beq_iff_eq]at h
  exact h
 ·unfold RF at hb
  rw[hd]at hb
  simp only[hc,Bool.not_true,Bool.false_or]at hb
  exact hb
theorem Z2 {o:Oper} {ls:List Nat} (v:AV) (hR:uk X Rt Bt o) (hv:wz o=true→∀b,rt X Rt o=some b→lZ v=true) (Jo:BE Bt o=true→oz v=true) {τ:Heap}:tO X Rt Bt o ls τ (EB X o.dst v):=by
 refine⟨rfl,(fun b v h=>by cases h),(fun p h=>by cases h),(fun h=>by cases h),(fun h=>absurd rfl h),fun d b hd hl hL=>?_,fun d hd hc=>?_,(fun b v h=>by cases h),(fun _ σ h=>by cases h)⟩
 ·simp only[EB]at hd ⊢
  rw[hd]
  simp only[hL,cond_false]
  rw[hR.1 d hd hL]at hl
  cases ha:wz o
  ·rw[ha]at hl;cases hl
  ·rw[ha]at hl;exact hv ha b hl
 ·have:=Jo (hR.2 d hd hc)
  simp only[EB]at hd ⊢
  rw[hd]
  simp only
  cases X.L.contains d
  ·exact this
  ·rfl
theorem tI {o:Oper} {ls:List Nat} (σ:Heap) (v:AV) (hR:uk X Rt Bt o) (h:pX X Rt o=true) (hn:wz o=false) (hcb:BE Bt o=false) {τ:Heap} (hf:Cu o=true→qx τ σ):tO X Rt Bt o ls τ (JQ X o.dst σ v):=by
 refine⟨rfl,(fun b v h=>by cases h),(fun p h=>by cases h),(fun h=>by cases h),(fun _=>h),fun d b hd hl hL=>?_,fun d hd hc=>?_,(fun b v h=>by cases h),(fun hw σ' h=>?_)⟩
 ·simp only[JQ]at hd
  rw[hR.1 d hd hL,hn]at hl
  cases hl
 ·have:=hR.2 d hd hc
  rw[hcb]at this;cases this
 ·simp only[JQ,Option.some.injEq]at h
  subst h;exact hf hw
theorem Z1 {τ:Heap} {o:Oper} {ls:List Nat} {b off:Nat} {tag:Option (Nat×Bool)} (hR:uk X Rt Bt o) (ha:wz o=true) (hr:rt X Rt o=some b) (h:rL o=true) (ht:∀g w,tag=some (g,w)→g∈ls):tO X Rt Bt o ls τ (GH X o.dst b off tag):=by
 refine⟨rfl,(fun b v h=>by cases h),(fun p hp=>?_),(fun h=>by cases h),(fun h=>absurd rfl h),(fun d b hd hl hL=>rfl),(fun _ _ _=>rfl),(fun b v h=>by cases h),(fun _ σ h=>by cases h)⟩
 have key:p.slot=b∧(∀g w,p.tag=some (g,w)→g∈ls)∧∀d,o.dst=some d→X.L.contains d=false:=by
  unfold GH at hp
  simp only at hp
  cases hd:o.dst with
  |none=>rw[hd]at hp;cases hp
  |some d=>
   rw[hd]at hp
   simp only at hp
   cases hc:(X.L.contains d||!Nat.blt d X.n)
   ·rw[hc]at hp
    simp only[cond_false]at hp
    have hL:X.L.contains d=false:=by simp only[Bool.or_eq_false_iff]at hc;exact hc.1
    cases tag with
    |none=>simp only[Option.some.injEq]at hp;subst hp;exact⟨rfl,(fun g w e=>by cases e),fun d' e=>by injection e with e;rw[←e];exact hL⟩
    |some gw=>
     obtain⟨g',w'⟩:=gw
     simp only at hp
     cases hg:(g'==d)
     ·rw[hg]at hp;simp only[cond_false,Option.some.injEq]at hp;subst hp
      refine⟨rfl,fun g w e=>?_,fun d' e=>by injection e with e;rw[←e];exact hL⟩
      simp only[Option.some.injEq,Prod.mk.injEq]at e
      rw[←e.1];exact ht g' w' rfl
     ·rw[hg]at hp;cases hp
   ·rw[hc]at hp;cases hp
 refine⟨h,key.2.1,by rw[hr,key.1],fun d hd=>?_⟩
 have hd':o.dst=some d:=hd
 rw[hR.1 d hd' (key.2.2 d hd'),ha,cond_true,hr,key.1]
theorem Lg (l:List AV) (d t:Nat) (v:AV) (h:t≠d):(l.set d v).getD t .undef=l.getD t .undef:=by
 have h':¬d=t:=fun e=>h (Eq.symm e)
 simp only[List.getD,List.getElem?_set,if_neg h']
theorem RA {u:Up} {l:List AV} {t:Nat} (h1:u.d≠some t) (h2:∀b v,u.bx=some (b,v)→t≠b):(u.sl l).getD t .undef=l.getD t .undef:=by
 unfold Up.sl
 cases hd:u.d with
 |none=>
  cases hb:u.bx with
  |none=>rfl
  |some bv=>obtain⟨b,v⟩:=bv;exact Lg _ _ _ _ (h2 b v hb)
 |some d=>
  have hne:t≠d:=fun e=>h1 (by rw[hd,e])
  cases hb:u.bx with
  |none=>exact Lg _ _ _ _ hne
  |some bv=>obtain⟨b,v⟩:=bv;simp only;rw[Lg _ _ _ _ hne,Lg _ _ _ _ (h2 b v hb)]
theorem tO.ri {τ:Heap} {o:Oper} {ls:List Nat} {u:Up} (h:tO X Rt Bt o ls τ u) (hs:RI X Rt Bt s):RI X Rt Bt (u.ap s):=by
 refine⟨hs.l,fun t p hp=>?_,fun t b ht hL=>?_,fun t ht=>?_⟩
 ·have hp':u.A s.A t=some p:=hp
  unfold Up.A at hp'
  cases hd:u.d with
  |none=>rw[hd]at hp';exact hs.a t p hp'
  |some d=>
   rw[hd]at hp'
   simp only at hp'
   cases hc:(t==d)
   ·rw[hc]at hp'
    simp only[cond_false]at hp'
    rcases Po u.wA d (s.A t)with e|e
    ·rw[e]at hp';exact hs.a t p hp'
    ·rw[e]at hp';cases hp'
   ·rw[hc]at hp'
    simp only[cond_true]at hp'
    have:t=d:=by simpa using hc
    subst this
    exact(h.new p hp').2.2.2 t hd
 ·show lZ ((u.sl s.sl).getD t .undef)=true
  by_cases hd:u.d=some t
  ·have hv:=h.v t b hd ht hL
   have:(u.sl s.sl).getD t .undef=u.v∨(u.sl s.sl).getD t .undef=.undef:=by
    unfold Up.sl
    rw[hd]
    simp only[List.getD]
    rw[List.getElem?_set]
    simp only[if_true]
    generalize (match u.bx with|some (b,x)=>s.sl.set b x|none=>s.sl)=q
    by_cases hq:t<q.length
    ·left;simp [hq]
    ·right;simp [hq]
   rcases this with e|e
   ·rw[e];exact hv
   ·rw[e];rfl
  ·rw[RA hd (fun b' v hb e=>by have:=(h.bx b' v hb).1;rw[←e,hL]at this;cases this)]
   exact hs.v t b ht hL
 ·show oz ((u.sl s.sl).getD t .undef)=true
  have tV:∀(l:List AV) (d:Nat) (v:AV),(l.set d v).getD t .undef=v∧t=d∨(l.set d v).getD t .undef=l.getD t .undef∨(l.set d v).getD t .undef=.undef:=by
   intro l d v
   simp only[List.getD,List.getElem?_set]
   by_cases e:d=t
   ·subst e
    by_cases hq:d<l.length
    ·left;simp [hq]
    ·right;right;simp [hq]
   ·right;left;simp [e]
  have mK:oz ((match u.bx with|some (b,x)=>s.sl.set b x|none=>s.sl).getD t .undef)=true:=by
   cases hb:u.bx with
   |none=>exact hs.b t ht
   |some bv=>
    obtain⟨b,v⟩:=bv
    rcases tV s.sl b v with⟨e,_⟩|e|e
    ·simp only;rw[e];exact h.bxv b v hb
    ·simp only;rw[e];exact hs.b t ht
    ·simp only;rw[e];rfl
  unfold Up.sl
  generalize (match u.bx with|some (b,x)=>s.sl.set b x|none=>s.sl)=q at mK
  cases hd:u.d with
  |none=>exact mK
  |some d=>
   simp only
   rcases tV q d u.v with⟨e,e2⟩|e|e
   ·rw[e];exact h.vb d hd (e2▸ht)
   ·rw[e];exact mK
   ·rw[e];rfl
theorem ZO {o:Oper} {tag:Option (Nat×Bool)} {p:Nat×Option Nat} (h:kG X o s tag=some p):rL o=true:=by
 obtain⟨dst,op,ty,pos,af,g⟩:=o
 cases op<;>simp only[kG]at h<;>first|(cases h;done)|rfl
theorem YT {o:Oper} {tag:Option (Nat×Bool)} {p:Nat×Option Nat} (h:kG X o s tag=some p):wz o=true:=by
 obtain⟨dst,op,ty,pos,af,g⟩:=o
 cases op<;>simp only[kG]at h<;>first|(cases h;done)|rfl
theorem ZP (hI:RI X Rt Bt s) {o:Oper} {tag:Option (Nat×Bool)} {b:Nat} {rr:Option Nat} (h:kG X o s tag=some (b,rr)):rt X Rt o=some b:=by
 obtain⟨dst,op,ty,pos,af,g⟩:=o
 cases op<;>simp only[kG]at h<;>first|(cases h;done)|skip
 all_goals
  split at h
  ·rename_i b' off hp
   simp only[Option.some.injEq,Prod.mk.injEq]at h
   simp only[rt,nN]
   rw[←h.1]
   exact LJ hI hp
  ·cases h
theorem YU (hI:RI X Rt Bt s) {o:Oper} {tag:Option (Nat×Bool)} {v:AV} (ha:wz o=true) {b:Nat} (hr:rt X Rt o=some b) (hp:kG X o s tag=none) (h:ga X o s tag=some v):False:=by
 obtain⟨dst,op,ty,pos,af,g⟩:=o
 have nf:∀(x:AV) (n:Nat),lZ x=true→A.aA n x=none:=fun x n h=>by unfold lZ at h;split at h<;>first|rfl|cases h
 have nn:∀(x:AV),lZ x=true→A.aL x=none:=fun x h=>by unfold lZ at h;split at h<;>first|rfl|cases h
 have ni:∀(x i:AV) (n:Nat),lZ x=true→A.aT n x i=none:=fun x i n h=>by unfold lZ at h;split at h<;>first|rfl|cases h
 have na:∀(x i:AV) (m n:Nat),lZ x=true→A.yF m n x i=none:=fun x i m n h=>by
  unfold lZ at h
  unfold A.yF
  split at h<;>first|(cases h;done)|skip
  all_goals cases A.idx m i<;>rfl
 cases op<;>simp only[wz]at ha<;>first|(cases ha;done)|skip
 case nilCheck x=>
  simp only[kG]at hp
  simp only[rt,nN]at hr
  split at hp
  ·cases hp
  ·rename_i hpl
   simp only[ga,nn _ (Fu hI hr hpl)]at h
   cases h
 case fieldAddr t x f=>
  simp only[kG]at hp
  simp only[rt,nN]at hr
  split at hp
  ·cases hp
  ·rename_i hpl
   simp only[ga]at h
   split at h
   ·split at h
    ·rename_i i _
     cases hz:(i.size==0)
     ·rw[hz]at h;simp only[cond_false,nf _ _ (Fu hI hr hpl)]at h;cases h
     ·rw[hz]at h;cases h
    ·cases h
   ·cases h
 case indexAddr t x i=>
  simp only[kG]at hp
  simp only[rt,nN]at hr
  split at hp
  ·cases hp
  ·rename_i hpl
   simp only[ga]at h
   split at h
   ·split at h
    ·simp only[ni _ _ _ (Fu hI hr hpl)]at h;cases h
    ·cases h
   ·split at h
    ·simp only[na _ _ _ _ (Fu hI hr hpl)]at h;cases h
    ·cases h
   ·cases h
theorem mP {α β:Type} {x:Option α} {f:α→Option β} {b:β} (h:x.bind f=some b):∃a,x=some a∧f a=some b:=Option.bind_eq_some_iff.1 h
theorem W7 (hB:∀t,Bt.contains t=true→oz (ev X s (.tmp t))=true) {o:Oper} {tag:Option (Nat×Bool)} {v:AV} (hc:BE Bt o=true) (h:ga X o s tag=some v):oz v=true:=by
 obtain⟨dst,op,ty,pos,af,g⟩:=o
 have nk:∀x,oz x=true→∀y,A.aL x=some y→oz y=true:=fun x hx y e=>by
  cases x<;>simp only[A.aL]at e<;>first|(cases e;done)|(injection e with e;subst e;exact hx)
 have nf:∀x,oz x=true→∀n y,A.aA n x=some y→oz y=true:=fun x hx n y e=>by
  cases x<;>simp only[A.aA]at e<;>first|(cases e;done)|(cases hx;done)|(injection e with e;subst e;rfl)
 cases op<;>simp only[BE]at hc<;>first|(cases hc;done)|skip
 case move x=>
  cases x<;>first|(cases hc;done)|skip
  simp only[ga,Option.some.injEq]at h
  subst h;exact hB _ hc
 case assign x=>
  cases x<;>first|(cases hc;done)|skip
  simp only[ga,Option.some.injEq]at h
  subst h;exact hB _ hc
 case nilCheck x=>
  cases x<;>first|(cases hc;done)|skip
  simp only[ga]at h
  exact nk _ (hB _ hc) _ h
 case fieldAddr t x f=>
  cases x<;>first|(cases hc;done)|skip
  simp only[ga]at h
  split at h
  ·split at h
   ·rename_i i _
    cases hz:(i.size==0)
    ·rw[hz]at h;simp only[cond_false]at h;exact nf _ (hB _ hc) _ _ h
    ·rw[hz]at h;cases h
   ·cases h
  ·cases h
theorem aly {o:Oper} {ls:List Nat} (hR:uk X Rt Bt o) (hI:RI X Rt Bt s) (hls:∀t,Operand.tmp t∈o.op.operands.toList→t∈ls) {k:AS→Option R} {r:R} (h:ig X true o s k=some r):
  ∃u,tO X Rt Bt o ls s.σ u∧k (u.ap s)=some r∧∀(R':Type) (k':AS→Option R') (s':AS),Ag X Rt Bt o ls none s s'→ig X true o s' k'=k' (u.ap s'):=by
 have Cl:∀(s':AS),RI X Rt Bt s'→∀x b off,nN o=some x→place X s' none x=some (b,off)→rt X Rt o=some b:=fun s' hi x b off hx hp=>by simp only[rt,hx];exact LJ hi hp
 have F6:∀(s':AS),RI X Rt Bt s'→∀x b,nN o=some x→rt X Rt o=some b→place X s' none x=none→lZ (ev X s' x)=true:=fun s' hi x b hx hr hp=>by simp only[rt,hx]at hr;exact Fu hi hr hp
 unfold ig at h
 cases hp:kG X o s none with
 |some p=>
  obtain⟨b,rr⟩:=p
  rw[hp]at h
  simp only at h
  obtain⟨off,e1,e2⟩:=mP h
  subst e1
  refine⟨GH X o.dst b off none,Z1 hR (YT hp) (ZP hI hp) (ZO hp) (fun g w e=>by cases e),by rw[←Mh];exact e2,fun R' k' s' ha=>?_⟩
  have:kG X o s' none=some (b,some off):=by rw[←hp];exact(PY (ha.Cr hls) ha.A7 ha.bx (Cl s' ha.r2)).symm
  unfold ig
  rw[this]
  simp only[Option.bind_some]
  rw[Mh]
 |none=>
  rw[hp]at h
  simp only at h
  have hP:∀s',Ag X Rt Bt o ls none s s'→kG X o s' none=none:=fun s' ha=>by rw[←hp];exact(PY (ha.Cr hls) ha.A7 ha.bx (Cl s' ha.r2)).symm
  have dflt:((ga X o s none).bind fun v=>k (s.put X o.dst v))=some r→(∀(R':Type) (k':AS→Option R') (s':AS),Ag X Rt Bt o ls none s s'→ig X true o s' k'=(ga X o s' none).bind fun v=>k' (s'.put X o.dst v))→
    ∃u,tO X Rt Bt o ls s.σ u∧k (u.ap s)=some r∧∀(R':Type) (k':AS→Option R') (s':AS),Ag X Rt Bt o ls none s s'→ig X true o s' k'=k' (u.ap s'):=by
   intro hd hsame
   obtain⟨v,e1,e2⟩:=mP hd
   refine⟨EB X o.dst v,Z2 v hR (fun ha b hr=>(YU hI ha hr hp e1).elim) (fun hc=>W7 hI.Gs hc e1),by rw[←Mr];exact e2,fun R' k' s' ha=>?_⟩
   have:ga X o s' none=some v:=by rw[←e1];exact(Lj (ha.Cr hls) ha.A7 ha.bx (Cl s' ha.r2) (F6 s' ha.r2) ha.σ ha.JS ha.r2.Gs).symm
   rw[hsame R' k' s' ha,this,Option.bind_some,Mr]
  obtain⟨dst,op,ty,pos,af,g⟩:=o
  have yO:∀s',Ag X Rt Bt ⟨dst,op,ty,pos,af,g⟩ ls none s s'→∀x∈op.operands.toList,ev X s x=ev X s' x:=fun s' ha=>ha.Cr hls
  have unf:∀{R':Type} (k':AS→Option R') (s':AS),Ag X Rt Bt ⟨dst,op,ty,pos,af,g⟩ ls none s s'→kG X ⟨dst,op,ty,pos,af,g⟩ s' none=none:=fun k' s' ha=>hP s' ha
  cases op<;>simp only at h<;>first
   |(exact absurd (show(none:Option R)=some r from h) (by simp))
   |exact dflt h (fun R' k' s' ha=>by unfold ig;rw[hP s' ha])
   |skip
  case alloc t=>
   cases dst with
   |none=>cases h
   |some d=>
    simp only at h
    cases hL:X.L.contains d
    ·rw[hL]at h
     simp only[cond_false]at h
     cases hO:X.O.contains d
     ·rw[hO]at h
      exact dflt h (fun R' k' s' ha=>by unfold ig;rw[hP s' ha];simp only[hL,hO,cond_false])
     ·rw[hO]at h
      simp only[cond_true]at h
      split at h
      ·rename_i cs hz
       rw[kM]at h
       refine⟨_,tI _ _ hR (by simp [pX,wH];simpa using hO) rfl rfl (fun h=>by cases h),h,fun R' k' s' ha=>?_⟩
       have fS:=ha.σ (by simpa [uF]using hO) rfl
       unfold ig
       rw[hP s' ha]
       simp only[hL,hO,cond_false,cond_true,hz,fS]
       rw[kM]
      ·cases h
    ·rw[hL]at h
     simp only[cond_true]at h
     split at h
     ·rename_i cs hz
      rw[Lh]at h
      refine⟨_,⟨rfl,(fun b v h=>by cases h),(fun p h=>by cases h),(fun _=>⟨d,rfl,hL⟩),(fun h=>absurd rfl h),(fun d' b e _ hL'=>by simp only[Nx,Option.some.injEq]at e;rw[←e,hL]at hL';cases hL'),(fun _ _ _=>rfl),(fun b v h=>by cases h),(fun _ σ h=>by cases h)⟩,h,fun R' k' s' ha=>?_⟩
      unfold ig
      rw[hP s' ha]
      simp only[hL,cond_true,hz]
      rw[Lh]
     ·cases h
  case box t x=>
   cases dst with
   |none=>cases h
   |some d=>
    simp only at h
    cases hL:X.L.contains d
    ·rw[hL]at h
     simp only[cond_false]at h
     cases hO:X.O.contains d
     ·rw[hO]at h
      exact dflt h (fun R' k' s' ha=>by unfold ig;rw[hP s' ha];simp only[hL,hO,cond_false])
     ·rw[hO]at h
      simp only[cond_true]at h
      obtain⟨cs,e1,e2⟩:=mP h
      rw[kM]at e2
      refine⟨_,tI _ _ hR (by simp [pX,wH];simpa using hO) rfl rfl (fun h=>by cases h),e2,fun R' k' s' ha=>?_⟩
      have fS:=ha.σ (by simpa [uF]using hO) rfl
      have hx:=yO s' ha x (by simp [Op.operands])
      unfold ig
      rw[hP s' ha]
      simp only[hL,hO,cond_false,cond_true,←hx,e1,Option.bind_some,fS]
      rw[kM]
    ·rw[hL]at h
     simp only[cond_true]at h
     obtain⟨cs,e1,e2⟩:=mP h
     rw[Lh]at e2
     refine⟨_,⟨rfl,(fun b v h=>by cases h),(fun p h=>by cases h),(fun _=>⟨d,rfl,hL⟩),(fun h=>absurd rfl h),(fun d' b e _ hL'=>by simp only[Nx,Option.some.injEq]at e;rw[←e,hL]at hL';cases hL'),(fun _ _ _=>rfl),(fun b v h=>by cases h),(fun _ σ h=>by cases h)⟩,e2,fun R' k' s' ha=>?_⟩
     have hx:=yO s' ha x (by simp [Op.operands])
     unfold ig
     rw[hP s' ha]
     simp only[hL,cond_true,←hx,e1,Option.bind_some]
     rw[Lh]
  case store t x v=>
   split at h
   ·rename_i b off hpl
    obtain⟨cs,e1,e2⟩:=mP h
    obtain⟨new,e3,e4⟩:=mP e2
    obtain⟨cs',e5,e6⟩:=mP e4
    rw[Ww]at e6
    have A0:rt X Rt ⟨dst,.store t x v,ty,pos,af,g⟩=some b:=by simp only[rt,nN];exact LJ hI hpl
    refine⟨_,⟨rfl,(fun b' v' hb=>by simp only[Ny,Option.some.injEq,Prod.mk.injEq]at hb;rw[←hb.1];exact⟨aiZ hpl,A0⟩),(fun p h=>by cases h),(fun h=>by cases h),(fun h=>absurd rfl h),(fun d1 b1 e hl hL=>by rw[hR.1 d1 e hL]at hl;cases hl),(fun d1 e hc=>by have:=hR.2 d1 e hc;cases this),(fun b1 v1 hb=>by simp only[Ny,Option.some.injEq,Prod.mk.injEq]at hb;rw[←hb.2];rfl),(fun _ σ h=>by cases h)⟩,e6,fun R' k' s' ha=>?_⟩
    have hv:=yO s' ha v (by simp [Op.operands])
    have hpx:place X s' none x=some (b,off):=by rw[←hpl];exact(ha.A7 x rfl).symm
    have mK:=ha.bx b A0
    unfold ig
    rw[hP s' ha]
    simp only[hpx,←mK,e1,Option.bind_some,←hv,e3,e5]
    rw[Ww]
   ·rename_i hpl
    obtain⟨new,e3,e4⟩:=mP h
    obtain⟨σ',e5,e6⟩:=mP e4
    rw[kM]at e6
    have A0:rt X Rt ⟨dst,.store t x v,ty,pos,af,g⟩=none:=by
     cases hr:rt X Rt ⟨dst,.store t x v,ty,pos,af,g⟩with
     |none=>rfl
     |some b=>rw[agI (F6 s hI x b rfl hr hpl)]at e5;cases e5
    have hw:pX X Rt ⟨dst,.store t x v,ty,pos,af,g⟩=true:=by simp only[pX,A0,Option.isNone_none]
    refine⟨_,tI _ _ hR hw rfl rfl (fun h=>by cases h),e6,fun R' k' s' ha=>?_⟩
    have hv:=yO s' ha v (by simp [Op.operands])
    have hx:=yO s' ha x (by simp [Op.operands])
    have fS:=ha.σ (by simp only[uF,A0,Option.isNone_none]) rfl
    have hpx:place X s' none x=none:=by rw[←hpl];exact(ha.A7 x rfl).symm
    unfold ig
    rw[hP s' ha]
    simp only[hpx,←hv,←hx,e3,Option.bind_some,←fS,e5]
    rw[kM]
  case makeMap t rr=>
   cases rr with
   |some x=>cases h
   |none=>
    simp only at h
    rw[kM]at h
    refine⟨_,tI _ _ hR rfl rfl rfl (fun _=>Ls (fun cs e=>by cases e)),h,fun R' k' s' ha=>?_⟩
    have fS:=ha.σ rfl rfl
    unfold ig
    rw[hP s' ha]
    simp only[←fS]
    rw[kM]
  case range t x=>
   split at h
   ·rename_i kt et hd
    obtain⟨es,e1,e2⟩:=mP h
    rw[kM]at e2
    refine⟨_,tI _ _ hR rfl rfl rfl (fun h=>by cases h),e2,fun R' k' s' ha=>?_⟩
    have hx:=yO s' ha x (by simp [Op.operands])
    have fS:=ha.σ rfl rfl
    unfold ig
    rw[hP s' ha]
    simp only[hd,←hx,←fS,e1,Option.bind_some]
    rw[kM]
   ·cases h
  case buildSlice t n ps=>
   cases dst with
   |none=>exact dflt h (fun R' k' s' ha=>by unfold ig;rw[hP s' ha])
   |some d=>
    simp only at h
    cases hO:X.O.contains d
    ·rw[hO]at h
     exact dflt h (fun R' k' s' ha=>by unfold ig;rw[hP s' ha];simp only[hO,cond_false])
    ·rw[hO]at h
     simp only[cond_true]at h
     obtain⟨v,e1,e2⟩:=mP h
     have hv:∀s',Ag X Rt Bt ⟨some d,.buildSlice t n ps,ty,pos,af,g⟩ ls none s s'→ga X ⟨some d,.buildSlice t n ps,ty,pos,af,g⟩ s' none=some v:=fun s' ha=>by
      rw[←e1];exact(Lj (ha.Cr hls) ha.A7 ha.bx (Cl s' ha.r2) (F6 s' ha.r2) ha.σ ha.JS ha.r2.Gs).symm
     unfold A.Gc at e2
     split at e2
     ·rename_i sz es
      cases hl:(es.length==0)
      ·rw[hl]at e2
       simp only[cond_false]at e2
       rw[kM]at e2
       refine⟨_,tI _ _ hR (by simp [pX,wH];simpa using hO) rfl rfl (fun h=>by cases h),e2,fun R' k' s' ha=>?_⟩
       have fS:=ha.σ (by simpa [uF]using hO) rfl
       unfold ig
       rw[hP s' ha]
       simp only[hO,cond_true,hv s' ha,Option.bind_some,A.Gc,hl,cond_false,←fS]
       rw[kM]
      ·rw[hl]at e2;cases e2
     ·cases e2
  case mapUpdate t m i v=>
   split at h
   ·rename_i kt et hd
    split at h
    ·rename_i ek he
     obtain⟨σ',e1,e2⟩:=mP h
     rw[kM]at e2
     refine⟨_,tI _ _ hR rfl rfl rfl (fun _=>ah4 e1),e2,fun R' k' s' ha=>?_⟩
     have hm:=yO s' ha m (by simp [Op.operands])
     have hi:=yO s' ha i (by simp [Op.operands])
     have hv:=yO s' ha v (by simp [Op.operands])
     have fS:=ha.σ rfl rfl
     unfold ig
     rw[hP s' ha]
     simp only[hd,he,←hm,←hi,←hv,←fS,e1,Option.bind_some]
     rw[kM]
    ·cases h
   ·cases h
  case call c=>
   have hargs:∀s',Ag X Rt Bt ⟨dst,.call c,ty,pos,af,g⟩ ls none s s'→c.args.toList.map (ev X s)=c.args.toList.map (ev X s'):=fun s' ha=>
    List.map_congr_left fun x hx=>yO s' ha x (by simp [Op.operands,Call.operands];exact .inr (by simpa using hx))
   split at h
   ·rename_i hc
    split at h
    ·rename_i t u x y h1 h2
     split at h
     ·rename_i e e' hd hu
      split at h
      ·rename_i i hi
       cases eU:mT i
       ·rw[eU]at h
        simp only[cond_false]at h
        obtain⟨⟨rr,σ'⟩,e1,e2⟩:=mP h
        simp only at e2
        rw[kM]at e2
        refine⟨_,tI _ _ hR (by simp [pX,wH,hc]) rfl rfl (fun _=>afG e1),e2,fun R' k' s' ha=>?_⟩
        have fS:=ha.σ rfl rfl
        unfold ig
        rw[hP s' ha]
        simp only[hc,←hargs s' ha,h1,h2,hd,hu,hi,eU,cond_false,←fS,e1,Option.bind_some]
        rw[kM]
       ·rw[eU]at h;cases h
      ·cases h
     ·rename_i e kk hd hu
      split at h
      ·rename_i i zs hi hz
       cases eU:mT i
       ·rw[eU]at h
        simp only[cond_false]at h
        obtain⟨⟨rr,σ'⟩,e1,e2⟩:=mP h
        simp only at e2
        rw[kM]at e2
        refine⟨_,tI _ _ hR (by simp [pX,wH,hc]) rfl rfl (fun _=>aeO e1),e2,fun R' k' s' ha=>?_⟩
        have fS:=ha.σ rfl rfl
        unfold ig
        rw[hP s' ha]
        simp only[hc,←hargs s' ha,h1,h2,hd,hu,hi,hz,eU,cond_false,←fS,e1,Option.bind_some]
        rw[kM]
       ·rw[eU]at h;cases h
      ·cases h
     ·cases h
    ·cases h
   ·rename_i hc
    split at h
    ·rename_i t u x y h1 h2
     split at h
     ·rename_i e e' hd hu
      split at h
      ·rename_i i hi
       cases eU:mT i
       ·rw[eU]at h
        simp only[cond_false]at h
        obtain⟨⟨rr,σ'⟩,e1,e2⟩:=mP h
        simp only at e2
        rw[kM]at e2
        refine⟨_,tI _ _ hR (by simp [pX,wH,hc]) rfl rfl (fun h=>by simp [Cu,hc]at h),e2,fun R' k' s' ha=>?_⟩
        have fS:=ha.σ rfl rfl
        unfold ig
        rw[hP s' ha]
        simp only[hc,←hargs s' ha,h1,h2,hd,hu,hi,eU,cond_false,←fS,e1,Option.bind_some]
        rw[kM]
       ·rw[eU]at h;cases h
      ·cases h
     ·cases h
    ·cases h
   ·rename_i hc
    cases hv:ga X ⟨dst,.call c,ty,pos,af,g⟩ s none with
    |none=>rw[hv]at h;simp [A.It]at h
    |some v=>
     rw[hv]at h
     exact dflt (by rw[hv];exact h) (fun R' k' s' ha=>by
      have hv':ga X ⟨dst,.call c,ty,pos,af,g⟩ s' none=some v:=by rw[←hv];exact(Lj (ha.Cr hls) ha.A7 ha.bx (Cl s' ha.r2) (F6 s' ha.r2) ha.σ ha.JS ha.r2.Gs).symm
      unfold ig;rw[hP s' ha];simp only[hc,hv',Option.bind_some,A.It])
   ·rename_i hc
    split at h
    ·rename_i t x h1 h2
     split at h
     ·rename_i e hd
      split at h
      ·rename_i i zs hi hz
       cases eU:mT i
       ·rw[eU]at h
        simp only[cond_false]at h
        obtain⟨σ',e1,e2⟩:=mP h
        rw[kM]at e2
        refine⟨_,tI _ _ hR (by simp [pX,wH,hc]) rfl rfl (fun h=>by simp [Cu,hc]at h),e2,fun R' k' s' ha=>?_⟩
        have fS:=ha.σ rfl rfl
        unfold ig
        rw[hP s' ha]
        simp only[hc,←hargs s' ha,h1,h2,hd,hi,hz,eU,cond_false,←fS,e1,Option.bind_some]
        rw[kM]
       ·rw[eU]at h;cases h
      ·cases h
     ·cases h
    ·cases h
   ·rename_i hc
    split at h
    ·rename_i t u m key h1 h2
     split at h
     ·rename_i kt et hd
      split at h
      ·rename_i ek he
       obtain⟨σ',e1,e2⟩:=mP h
       rw[kM]at e2
       refine⟨_,tI _ _ hR (by simp [pX,wH,hc]) rfl rfl (fun h=>by simp [Cu,hc]at h),e2,fun R' k' s' ha=>?_⟩
       have fS:=ha.σ rfl rfl
       unfold ig
       rw[hP s' ha]
       simp only[hc,←hargs s' ha,h1,h2,hd,he,←fS,e1,Option.bind_some]
       rw[kM]
      ·cases h
     ·cases h
    ·cases h
   ·rename_i b hn1 hn2 nu qR uA hc
    exact dflt h (fun R' k' s' ha=>by
     unfold ig;rw[hP s' ha];simp only[hc]
     all_goals (first|rfl|(cases b<;>first|rfl|exact absurd rfl hn1|exact absurd rfl hn2|exact absurd rfl nu|exact absurd rfl qR|exact absurd rfl uA)))
   ·rename_i f hc
    cases hw:X.W.contains f
    ·simp only[hw,Bool.not_false,Bool.and_true,cond_true]at h
     exact dflt h (fun R' k' s' ha=>by unfold ig;rw[hP s' ha];simp only[hc,hw,Bool.not_false,Bool.and_true,cond_true])
    ·simp only[hw,Bool.not_true,Bool.and_false,cond_false]at h
     obtain⟨⟨rr,σ'⟩,e1,e2⟩:=mP h
     simp only at e2
     rw[kM]at e2
     refine⟨_,tI _ _ hR (by simp only[pX,wH,hc];exact hw) rfl rfl (fun h=>by simp [Cu,hc]at h),e2,fun R' k' s' ha=>?_⟩
     have fS:=ha.σ rfl rfl
     unfold ig
     rw[hP s' ha]
     simp only[hc,←hargs s' ha,hw,Bool.not_true,Bool.and_false,cond_false,←fS,e1,Option.bind_some]
     rw[kM]
   ·rename_i x hnf hc
    simp only[cond_true]at h
    exact dflt h (fun R' k' s' ha=>by
     unfold ig;rw[hP s' ha];simp only[hc]
     cases x<;>first|exact absurd rfl (hnf _)|simp only[cond_true])
   ·cases h
end
end
section
section
variable {R : Type} {X : Fx} {Rt : List (Nat × Nat)} {Bt : List Nat} {s s' : AS} {ops : Array Oper}
theorem LH {o:Oper} {t:Nat} (h:Operand.tmp t∈o.op.operands.toList):t∈o.looksAt ops:=by
 unfold Oper.looksAt
 refine List.mem_append.2 (.inl (List.mem_filterMap.2 ⟨.tmp t,h,rfl⟩))
theorem ae5 {o:Oper} {j d:Nat} {want:Bool} (hg:o.guard=some (j,want)) (hd:(ops[j]?).bind (·.dst)=some d):d∈o.looksAt ops:=by
 unfold Oper.looksAt
 refine List.mem_append.2 (.inr ?_)
 rw[hg]
 simp only[hd]
 simp
def Gl (X:Fx) (Rt:List (Nat×Nat)) (Bt:List Nat) (ops:Array Oper) (o:Oper) (s s':AS):Prop:=∀tag:Option (Nat×Bool),(∀g w,tag=some (g,w)→g∈o.looksAt ops)→Ag X Rt Bt o (o.looksAt ops) tag s s'
theorem Ag.symm {o:Oper} {ls:List Nat} {tag:Option (Nat×Bool)} (h:Ag X Rt Bt o ls tag s s'):Ag X Rt Bt o ls tag s' s:=
 ⟨h.r2,h.r1,fun t ht hL=>(h.gy t ht hL).symm,fun t ht=>(h.pl t ht).symm,fun b hb=>(h.bx b hb).symm,(fun hr hs=>(h.σ hr hs).symm),fun hr hs id cs=>(h.JS hr hs id cs).symm⟩
theorem Gl.symm {o:Oper} (h:Gl X Rt Bt ops o s s'):Gl X Rt Bt ops o s' s:=fun tag ht=>(h tag ht).symm
theorem Q9 {o:Oper} {k:AS→Option R} {r:R} (hR:uk X Rt Bt o) (hI:RI X Rt Bt s) (h:nX X true ops o s k=some r):
  ∃u,tO X Rt Bt o (o.looksAt ops) s.σ u∧k (u.ap s)=some r∧∀(R':Type) (k':AS→Option R') (s':AS),Gl X Rt Bt ops o s s'→nX X true ops o s' k'=k' (u.ap s'):=by
 unfold nX at h
 cases hg:o.guard with
 |none=>
  rw[hg]at h
  obtain⟨u,h1,h2,h3⟩:=aly (ls:=o.looksAt ops) hR hI (fun t ht=>LH ht) h
  refine⟨u,h1,h2,fun R' k' s' ha=>?_⟩
  unfold nX;rw[hg]
  exact h3 R' k' s' (ha none (fun g w e=>by cases e))
 |some jw=>
  obtain⟨j,want⟩:=jw
  rw[hg]at h
  simp only at h
  cases hd:(ops[j]?).bind (·.dst)with
  |none=>rw[hd]at h;cases h
  |some d=>
   rw[hd]at h
   simp only at h
   cases hb:Hy X o d
   ·rw[hb]at h
    simp only[cond_false]at h
    have mL:=ae5 (ops:=ops) hg hd
    have Gb:∀g w,(some (d,want):Option (Nat×Bool))=some (g,w)→g∈o.looksAt ops:=fun g w e=>by injection e with e;injection e with e _;rw[←e];exact mL
    have hdL:X.L.contains d=false:=by simp only[Hy,Bool.or_eq_false_iff]at hb;exact hb.1
    have Cl:∀(s':AS),RI X Rt Bt s'→∀x b off,nN o=some x→place X s' (some (d,want)) x=some (b,off)→rt X Rt o=some b:=fun s' hi x b off hx hp=>by simp only[rt,hx];exact LJ hi hp
    have F6:∀(s':AS),RI X Rt Bt s'→∀x b,nN o=some x→rt X Rt o=some b→place X s' (some (d,want)) x=none→lZ (ev X s' x)=true:=fun s' hi x b hx hr hp=>by simp only[rt,hx]at hr;exact Fu hi hr hp
    have hP:∀s',Gl X Rt Bt ops o s s'→kG X o s' (some (d,want))=kG X o s (some (d,want)):=fun s' ha=>by
     have a:=ha _ Gb
     exact(PY (a.Cr fun t ht=>LH ht) a.A7 a.bx (Cl s' a.r2)).symm
    cases hp:kG X o s (some (d,want))with
    |some p=>
     obtain⟨b,rr⟩:=p
     rw[hp]at h
     simp only at h
     obtain⟨off,e1,e2⟩:=mP h
     subst e1
     refine⟨GH X o.dst b off (some (d,want)),Z1 hR (YT hp) (ZP hI hp) (ZO hp) Gb,by rw[←Mh];exact e2,fun R' k' s' ha=>?_⟩
     unfold nX
     rw[hg]
     simp only[hd,hb,cond_false,hP s' ha,hp,Option.bind_some]
     rw[Mh]
    |none=>
     rw[hp]at h
     simp only at h
     obtain⟨v,e1,e2⟩:=mP h
     have hv:wz o=true→∀b,rt X Rt o=some b→lZ v=true:=by
      intro ha b hr
      unfold A.guard at e1
      split at e1
      ·rename_i c _
       cases hc:(c==want)
       ·rw[hc]at e1;simp only[cond_false,Option.some.injEq]at e1;subst e1;rfl
       ·rw[hc]at e1;exact(YU hI ha hr hp e1).elim
      ·simp only[Option.some.injEq]at e1;subst e1;rfl
      ·cases e1
     have Jo:BE Bt o=true→oz v=true:=by
      intro hc
      unfold A.guard at e1
      split at e1
      ·rename_i c _
       cases uy:(c==want)
       ·rw[uy]at e1;simp only[cond_false,Option.some.injEq]at e1;subst e1;rfl
       ·rw[uy]at e1;exact W7 hI.Gs hc e1
      ·simp only[Option.some.injEq]at e1;subst e1;rfl
      ·cases e1
     refine⟨EB X o.dst v,Z2 v hR hv Jo,by rw[←Mr];exact e2,fun R' k' s' ha=>?_⟩
     have a:=ha _ Gb
     have hV:ga X o s' (some (d,want))=ga X o s (some (d,want)):=(Lj (a.Cr fun t ht=>LH ht) a.A7 a.bx (Cl s' a.r2) (F6 s' a.r2) a.σ a.JS a.r2.Gs).symm
     have qS:=a.gy d mL hdL
     unfold nX
     rw[hg]
     simp only[hd,hb,cond_false,hP s' ha,hp,hV,←qS,e1,Option.bind_some]
     rw[Mr]
   ·rw[hb]at h;cases h
structure yT (X : Fx) (Rt : List (Nat × Nat)) (Bt : List Nat) (ops : Array Oper) (x y : Oper) : Prop where
 dx:∀d,x.dst=some d→d∉y.looksAt ops
 dd:∀d,x.dst=some d→y.dst≠some d
 dy:∀d,y.dst=some d→d∉x.looksAt ops
 c1:yG X Rt Bt x y=false
 c2:yG X Rt Bt y x=false
theorem yT.symm {x y:Oper} (h:yT X Rt Bt ops x y):yT X Rt Bt ops y x:=⟨h.dy,fun d hd e=>h.dd d e hd,h.dx,h.c2,h.c1⟩
theorem ahk {x y:Oper} (h:indep X Rt Bt ops x y=true):yT X Rt Bt ops x y:=by
 simp only[indep,Bool.and_eq_true,Bool.not_eq_true']at h
 obtain⟨⟨h1,h2⟩,h3⟩:=h
 obtain⟨a1,a2,a3⟩:=Oper.apart_spec h1
 exact⟨a1,a2,a3,h2,h3⟩
theorem Yx {x y:Oper} (h:yG X Rt Bt x y=false) {b:Nat} (hb:wb X Rt x=some b):rt X Rt y≠some b:=by
 unfold yG at h
 simp only[Bool.or_eq_false_iff]at h
 have:=h.1.1
 rw[hb]at this
 simpa using this
theorem LZ {x y:Oper} (h:yG X Rt Bt x y=false) {d:Nat} (hd:x.dst=some d) (hL:X.L.contains d=true):rt X Rt y≠some d:=by
 unfold yG at h
 simp only[Bool.or_eq_false_iff]at h
 have:=h.1.2
 rw[hd]at this
 simp only[hL,Bool.true_and]at this
 simpa using this
theorem L0 {x y:Oper} (h:yG X Rt Bt x y=false) (hw:pX X Rt x=true):(uF X Rt y=false∨(soft Bt y=true∧Cu x=true))∧pX X Rt y=false:=by
 unfold yG at h
 simp only[Bool.or_eq_false_iff]at h
 have:=h.2
 rw[hw]at this
 simp only[Bool.true_and,Bool.or_eq_false_iff]at this
 refine⟨?_,this.2⟩
 cases hr:uF X Rt y
 ·exact .inl rfl
 ·have h2:=this.1
  rw[hr,Bool.true_and,Bool.not_eq_false']at h2
  exact .inr (by simpa using h2)
theorem ak4 {x:Oper} {a:Operand} (h:nN x=some a):a∈x.op.operands.toList:=by
 obtain⟨dst,op,ty,pos,af,g⟩:=x
 cases op<;>simp only[nN]at h<;>first|(cases h;done)|(injection h with h;subst h;simp [Op.operands])
theorem aoy (h:RI X Rt Bt s) {x:Oper} {b:Nat} (hr:rt X Rt x=some b) (hL:X.L.contains b=false):False:=by
 unfold rt at hr
 split at hr
 ·rename_i a _
  cases a with
  |tmp t=>
   simp only[zg]at hr
   cases hc:X.L.contains t
   ·rw[hc]at hr;have:=h.l t b hr;rw[hL]at this;cases this
   ·rw[hc]at hr;simp only[cond_true,Option.some.injEq]at hr;subst hr;rw[hL]at hc;cases hc
  |_=>simp [zg]at hr
 ·cases hr
theorem aaH {x:Oper} {b:Nat} (h:wb X Rt x=some b):rt X Rt x=some b:=by
 unfold wb at h;split at h
 ·exact h
 ·cases h
theorem aal {τ:Heap} {x y:Oper} (h:yT X Rt Bt ops x y) {u:Up} (hu:tO X Rt Bt y (y.looksAt ops) τ u) (s:AS) (hs:RI X Rt Bt s) (hτ:u.σ≠none→qx s.σ τ):Gl X Rt Bt ops x s (u.ap s):=by
 intro tag ht
 have hnd:∀t,t∈x.looksAt ops→u.d≠some t:=fun t ht e=>by rw[hu.d]at e;exact h.dy t e ht
 refine⟨hs,hu.ri hs,fun t TL hL=>?_,fun t hax=>?_,fun b hb=>?_,fun hr Eh=>?_,fun hr Eh=>?_⟩
 ·exact(RA (hnd t TL) (fun b v hb e=>by have:=(hu.bx b v hb).1;rw[←e,hL]at this;cases this)).symm
 ·have TL:t∈x.looksAt ops:=LH (ak4 hax)
  simp only[place]
  cases hL:X.L.contains t
  ·simp only[cond_false]
   show _=match u.A s.A t with|some p=>_|none=>none
   unfold Up.A
   cases hd:u.d with
   |none=>rfl
   |some d=>
    have htd:(t==d)=false:=by simp only[beq_eq_false_iff_ne];intro e;exact hnd t TL (by rw[hd,e])
    simp only[htd,cond_false]
    cases hA:s.A t with
    |none=>rfl
    |some p=>
     have A0:zg X Rt (.tmp t)=some p.slot:=by simp only[zg,hL,cond_false];exact hs.a t p hA
     have hf:pg u.wA d (some p)=oo d (some p):=by
      cases hi:u.wA with
      |false=>exact Ho d _
      |true=>
       obtain⟨d',hd',hL'⟩:=hu.box hi
       have pV:d'=d:=by rw[hu.d]at hd;rw[hd]at hd';injection hd' with e;exact e.symm
       subst pV
       unfold pg
       cases hk:oo d' (some p)with
       |none=>rfl
       |some q=>
        have hqs:q=p:=by
         simp only[oo]at hk
         cases Ei:p.tag with
         |none=>rw[Ei]at hk;simpa using hk.symm
         |some g=>
          obtain⟨g,w⟩:=g
          rw[Ei]at hk
          simp only at hk
          cases hg:(g==d')
          ·rw[hg]at hk;simpa using hk.symm
          ·rw[hg]at hk;cases hk
        subst hqs
        have hne:(q.slot==d')=false:=by
         rw[beq_eq_false_iff_ne]
         intro e
         have:rt X Rt x=some q.slot:=by simp only[rt,hax];exact A0
         exact LZ h.c2 hd' hL' (by rw[this,e])
        simp only[hne,Bool.and_false,cond_false]
     rw[hf]
     simp only[oo]
     cases Ei:p.tag with
     |none=>simp only[Ei]
     |some gw=>
      obtain⟨g,w⟩:=gw
      simp only
      cases hgd:(g==d)
      ·simp only[cond_false,Ei]
      ·simp only[cond_true]
       have anY:g=d:=by simpa using hgd
       have:(tag==some (g,w))=false:=by
        rw[beq_eq_false_iff_ne]
        intro e
        exact hnd g (ht g w e) (by rw[hd,anY])
       rw[this]
       cases X.L.contains p.slot<;>rfl
  ·rfl
 ·refine(RA (fun e=>?_) (fun b' v hb' e=>?_)).symm
  ·rw[hu.d]at e
   have hLb:X.L.contains b=true:=by
    cases hc:X.L.contains b with
    |true=>rfl
    |false=>
     exfalso
     exact aoy hs hb hc
   exact LZ h.c2 e hLb hb
  ·exact Yx h.c2 (hu.bx b' v hb').2 (by rw[←e];exact hb)
 ·show s.σ=u.σ.getD s.σ
  cases hs':u.σ with
  |none=>rfl
  |some σ=>
   rcases(L0 h.c2 (hu.σ (by rw[hs'];intro e;cases e))).1 with this|⟨this,_⟩
   ·rw[hr]at this;cases this
   ·rw[Eh]at this;cases this
 ·show qx s.σ (u.σ.getD s.σ)
  cases hs':u.σ with
  |none=>exact C5 _
  |some σ=>
   rcases(L0 h.c2 (hu.σ (by rw[hs'];intro e;cases e))).1 with this|⟨_,hf⟩
   ·rw[hr]at this;cases this
   ·exact fun id cs=>(hτ (by rw[hs'];intro e;cases e) id cs).trans (hu.fr hf σ hs' id cs)
theorem ajj {τ JT:Heap} {x y:Oper} (h:yT X Rt Bt ops x y) {u v:Up} (hu:tO X Rt Bt x (x.looksAt ops) τ u) (hv:tO X Rt Bt y (y.looksAt ops) JT v):u.Z5 v:=by
 have half:∀{τ JT:Heap} {x y:Oper} {u v:Up},yT X Rt Bt ops x y→tO X Rt Bt x (x.looksAt ops) τ u→tO X Rt Bt y (y.looksAt ops) JT v→(∀b a,u.bx=some (b,a)→(∀c a',v.bx=some (c,a')→c≠b)∧v.d≠some b)∧(∀d,v.d=some d→pg v.wA d u.new=u.new):=by
  intro τ JT x y u v h hu hv
  refine⟨fun b a hb=>?_,fun d hd=>?_⟩
  ·obtain⟨k1,k2⟩:=hu.bx b a hb
   refine⟨fun c a' hc e=>?_,fun e=>?_⟩
   ·have:=(hv.bx c a' hc).2
    subst e
    exact Yx h.c1 k2 (aaH this)
   ·rw[hv.d]at e
    exact LZ h.c2 e k1 (aaH k2)
  ·cases hn:u.new with
   |none=>rfl
   |some p=>
    obtain⟨k1,k2,k3,k4⟩:=hu.new p hn
    have hkt:oo d (some p)=some p:=by
     simp only[oo]
     cases Ei:p.tag with
     |none=>rfl
     |some gw=>
      obtain⟨g,w⟩:=gw
      simp only
      have:(g==d)=false:=by
       rw[beq_eq_false_iff_ne];intro e
       rw[hv.d]at hd
       exact h.dy d hd (e▸k2 g w Ei)
      rw[this];rfl
    unfold pg
    rw[hkt]
    simp only
    cases hi:v.wA with
    |false=>rfl
    |true=>
     obtain⟨d',hd',hL'⟩:=hv.box hi
     have pV:d'=d:=by rw[hv.d]at hd;rw[hd]at hd';injection hd' with e;exact e.symm
     subst pV
     have:(p.slot==d')=false:=by
      rw[beq_eq_false_iff_ne];intro e
      exact LZ h.c2 hd' hL' (by rw[k3,e])
     simp only[this,Bool.and_false,cond_false]
 obtain⟨a1,a2⟩:=half h hu hv
 obtain⟨b1,b2⟩:=half h.symm hv hu
 refine⟨fun d hd e=>?_,a1,b1,a2,b2,?_⟩
 ·rw[hu.d]at hd;rw[hv.d]at e;exact h.dd d hd e
 ·cases hs:u.σ with
  |none=>exact .inl rfl
  |some σ=>
   right
   have hw:=hu.σ (by rw[hs];intro e;cases e)
   have hnw:=(L0 h.c1 hw).2
   cases hs2:v.σ with
   |none=>rfl
   |some σ2=>rw[hv.σ (by rw[hs2];intro e;cases e)]at hnw;cases hnw
theorem W8 {o:Oper} {k:AS→Option R} {r:R} (ho:uk X Rt Bt o):∀(l1 l2:List Oper) (s:AS),RI X Rt Bt s→(∀y∈l1,uk X Rt Bt y)→(∀y∈l1,yT X Rt Bt ops y o)→sX X true ops (l1++o::l2) s k=some r→nX X true ops o s (fun s1=>sX X true ops (l1++l2) s1 k)=some r
 |[],l2,s,_,_,_,h=>h
 |y::l1,l2,s,hs,hr,hi,h=>by
  simp only[List.cons_append,sX]at h
  obtain⟨u,u1,u2,u3⟩:=Q9 (hr y (by simp)) hs h
  have ih:=W8 ho l1 l2 (u.ap s) (u1.ri hs) (fun z hz=>hr z (by simp [hz])) (fun z hz=>hi z (by simp [hz])) u2
  obtain⟨v,v1,v2,v3⟩:=Q9 ho (u1.ri hs) ih
  have hy:=hi y (by simp)
  have hbe:v.σ≠none→qx s.σ (u.ap s).σ:=fun hv=>by
   have hnu:u.σ=none:=by
    cases hu:u.σ with
    |none=>rfl
    |some σ=>
     have hw:=(L0 hy.c1 (u1.σ (by rw[hu];intro e;cases e))).2
     rw[v1.σ hv]at hw;cases hw
   show qx s.σ (u.σ.getD s.σ)
   rw[hnu];exact C5 _
  rw[v3 R _ s (aal hy.symm u1 s hs (fun _=>C5 _)).symm]
  simp only[List.cons_append,sX]
  rw[u3 R _ (v.ap s) (aal hy v1 s hs hbe),Up.comm (ajj hy u1 v1)]
  exact v2
def Down (ops:Array Oper) (S:Nat→Prop):Prop:=∀i o e,S i→ops[i]? =some o→e∈o.after→Region.binds .any e=true→S e.on
def ML (ops:Array Oper) (i:Nat) (S:Nat→Prop):Prop:=∀o e,ops[i]? =some o→e∈o.after→Region.binds .any e=true→S e.on
theorem XO (acc:List Nat):∀(es:List Edge) (m j:Nat),(es.foldl (fun s e=>bif Region.binds .any e then s ||| 2 ^ e.on ||| acc.getD e.on 0 else s) m).testBit j=true→
  m.testBit j=true∨∃e∈es,Region.binds .any e=true∧(e.on=j∨(acc.getD e.on 0).testBit j=true)
 |[],m,j,h=>.inl h
 |e::es,m,j,h=>by
  simp only[List.foldl_cons]at h
  rcases XO acc es _ j h with h|⟨e',he',hb,hx⟩
  ·cases hb:Region.binds .any e
   ·rw[hb]at h;exact .inl h
   ·rw[hb]at h
    simp only[cond_true,Nat.testBit_or,Bool.or_eq_true]at h
    rcases h with(h|h)|h
    ·exact .inl h
    ·refine .inr ⟨e,by simp,hb,.inl ?_⟩
     rw[Nat.testBit_two_pow]at h
     simpa using h
    ·exact .inr ⟨e,by simp,hb,.inr h⟩
  ·exact .inr ⟨e',by simp [he'],hb,hx⟩
theorem Xw:∀(l:List Oper) (acc:List Nat),(∀i,l[i]? =ops[acc.length+i]?)→
  (∀(m j:Nat),(acc.getD m 0).testBit j=true→∀S,Down ops S→ML ops m S→S j)→
  ∀(m j:Nat),((Mv l acc).getD m 0).testBit j=true→∀S,Down ops S→ML ops m S→S j
 |[],acc,hl,hacc=>hacc
 |o::l,acc,hl,hacc=>by
  simp only[Mv]
  refine Xw l _ (fun i=>by have:=hl (i+1);simp at this;rw[this];simp;congr 1;omega) ?_
  intro m j h S hS hD
  have h0:=hl 0
  simp at h0
  by_cases hm:m<acc.length
  ·rw[List.getD,List.getElem?_append_left hm]at h
   exact hacc m j h S hS hD
  ·by_cases hm2:m=acc.length
   ·subst hm2
    rw[List.getD,List.getElem?_append_right (Nat.le_refl _)]at h
    simp only[Nat.sub_self,List.getElem?_cons_zero,Option.getD_some]at h
    rcases XO acc _ _ j h with h|⟨e,he,hb,hx⟩
    ·simp at h
    ·have GA:S e.on:=hD o e h0.symm (by simpa using he) hb
     rcases hx with hx|hx
     ·exact hx▸GA
     ·exact hacc e.on j hx S hS (fun o' e' ho' he' hb'=>hS e.on o' e' GA ho' he' hb')
   ·rw[List.getD,List.getElem?_append_right (by omega),List.getElem?_eq_none (by simp;omega)]at h
    simp at h
theorem V6 {IQ:List Nat}:∀(l:List Oper) (i:Nat),(∀j,l[j]? =ops[i+j]?)→Ma X Rt Bt ops IQ l i=true→∀n o,i≤n→ops[n]? =some o→∀m y,m<n→ops[m]? =some y→(IQ.getD n 0).testBit m=true∨indep X Rt Bt ops y o=true
 |[],i,hl,_,n,o,hn,ho,m,y,hm,hy=>by
  have:=hl (n-i)
  rw[show i+(n-i)=n by omega,ho]at this
  simp at this
 |x::l,i,hl,h,n,o,hn,ho,m,y,hm,hy=>by
  simp only[Ma,Bool.and_eq_true]at h
  by_cases hni:n=i
  ·subst hni
   have h0:=hl 0
   simp at h0
   rw[ho]at h0;injection h0 with h0;subst h0
   have:=List.all_eq_true.1 h.1 (y,m) (by
    rw[List.mem_zipIdx_iff_getElem?]
    simp only
    rw[List.getElem?_take_of_lt hm,Array.getElem?_toList]
    exact hy)
   simpa using this
  ·exact V6 l (i+1) (fun j=>by have:=hl (j+1);simp at this;rw[this];congr 1;omega) h.2 n o (by omega) ho m y hm hy
theorem Wv:∀(l:List Oper) (i:Nat),(∀j,l[j]? =ops[i+j]?)→Mi l i=true→∀n o e,i≤n→ops[n]? =some o→e∈o.after→Region.binds .any e=true→e.on<n
 |[],i,hl,_,n,o,e,hn,ho,he,hb=>by
  have:=hl (n-i)
  rw[show i+(n-i)=n by omega,ho]at this
  simp at this
 |x::l,i,hl,h,n,o,e,hn,ho,he,hb=>by
  simp only[Mi,Bool.and_eq_true]at h
  by_cases hni:n=i
  ·subst hni
   have h0:=hl 0
   simp at h0
   rw[ho]at h0;injection h0 with h0;subst h0
   have:=List.all_eq_true.1 h.1 e (by simpa using he)
   rw[hb]at this
   simpa [Nat.blt_eq]using this
  ·exact Wv l (i+1) (fun j=>by have:=hl (j+1);simp at this;rw[this];congr 1;omega) h.2 n o e (by omega) ho he hb
def qI (listed:Array Bool) (n:Nat):List Nat:=(List.range n).filter fun i=>!listed.getD i true
def Av (ops:Array Oper) (listed:Array Bool):List Oper:=(qI listed ops.size).filterMap (ops[·]?)
theorem ags {listed:Array Bool} {n i:Nat} (hi:i<n) (hl:listed.getD i true=false) (hs:listed.size=n):
  ∃l1 l2,qI listed n=l1++i::l2∧qI (listed.setIfInBounds i true) n=l1++l2∧∀j∈l1,j<i∧listed.getD j true=false:=by
 refine⟨(List.range i).filter fun j=>!listed.getD j true,((List.range' (i+1) (n-i-1))).filter fun j=>!listed.getD j true,?_,?_,fun j hj=>?_⟩
 ·unfold qI
  rw[show List.range n=List.range i++i::List.range' (i+1) (n-i-1) by
   rw[List.range_eq_range',List.range_eq_range',←List.range'_succ,show n-i-1+1=n-i by omega]
   have:=List.range'_append_1 (s:=0) (m:=i) (n:=n-i)
   rw[show 0+i=i by omega,show i+(n-i)=n by omega]at this
   exact this.symm]
  rw[List.filter_append,List.filter_cons,hl]
  simp
 ·unfold qI
  rw[show List.range n=List.range i++i::List.range' (i+1) (n-i-1) by
   rw[List.range_eq_range',List.range_eq_range',←List.range'_succ,show n-i-1+1=n-i by omega]
   have:=List.range'_append_1 (s:=0) (m:=i) (n:=n-i)
   rw[show 0+i=i by omega,show i+(n-i)=n by omega]at this
   exact this.symm]
  rw[List.filter_append,List.filter_cons]
  have tV:(listed.setIfInBounds i true).getD i true=true:=by simp [Array.getD,hs,hi]
  rw[tV]
  simp only[Bool.not_true,Bool.false_eq_true,if_false]
  congr 1
  ·apply List.filter_congr
   intro j hj
   have:j<i:=by simpa using hj
   rw[Array.getD_eq_getD_getElem?,Array.getD_eq_getD_getElem?,Array.getElem?_setIfInBounds_ne (by omega)]
  ·apply List.filter_congr
   intro j hj
   have:i<j:=by simp at hj;omega
   rw[Array.getD_eq_getD_getElem?,Array.getD_eq_getD_getElem?,Array.getElem?_setIfInBounds_ne (by omega)]
 ·rw[List.mem_filter]at hj
  exact⟨by simpa using hj.1,by simpa using hj.2⟩
end
end
section
open Go.RowKit
section
variable {X : Fx} {z : Z} {s : AS} {a : Act} {w w' : World} {E : List Pl} {pb : Nat → Option Nat} {R : Type}
theorem Yi (h:St X z s a w E pb) {d:Nat} {av:AV} (Eb:s.sl.getD d .undef=av) (h1:av≠.undef) (h2:∀cs,av≠.lbx cs):∃v,a.tmps[d]? =some v∧a.tmps.getD d undef=v∧ak (ctx z w E pb) av v:=by
 by_cases hd:d<s.sl.length
 ·have e:s.sl[d]? =some av:=by rw[List.getElem?_eq_getElem hd];rw[←Eb];simp [List.getD,hd]
  have r:=(h.slot d av e).rep h2
  have hd':d<a.tmps.size:=by rw[h.len];exact hd
  exact⟨a.tmps.getD d undef,by simp [Array.getD,hd'],rfl,r⟩
 ·exact absurd (by rw[←Eb];simp [List.getD,Nat.le_of_not_lt hd]) h1
theorem alA (hs:dD X) (h:St X z s a w E pb) {q:Bool} {ops:Array Oper} {i:Nat} {o:Oper} (hi:ops[i]? =some o) {k:AS→Option R} {r:R} (hk:nX X q ops o s k=some r) {K:Act→World→Prop} {Q:Exit→Act→World→Prop}
  (hK:∀s' a' w' E' bN,St X z s' a' w' E' bN→k s'=some r→K a' w'):wpOp X.P ops Q i K a w:=by
 unfold wpOp
 rw[hi]
 simp only
 unfold nX at hk
 cases hg:o.guard with
 |none=>
  rw[hg]at hk
  rw[if_pos (by simp [Region.wanted,hg])]
  exact .inl (alz hs h hk hK)
 |some jw=>
  obtain⟨j,want⟩:=jw
  rw[hg]at hk
  simp only at hk
  cases hd:(ops[j]?).bind (·.dst)with
  |none=>rw[hd]at hk;cases hk
  |some d=>
   rw[hd]at hk
   simp only at hk
   cases hL:Hy X o d
   ·rw[hL]at hk
    simp only[cond_false]at hk
    have H9:Region.wanted o (yielded ops a.tmps)=(yielded ops a.tmps j==some want):=by simp [Region.wanted,hg]
    have hy:yielded ops a.tmps j=match a.tmps[d]? with|some (.bool b)=>some b|_=>none:=by
     simp only[yielded,hd,Option.bind_some]
     rfl
    cases hp:kG X o s (some (d,want))with
    |some p=>
     obtain⟨b,rr⟩:=p
     rw[hp]at hk
     simp only at hk
     obtain⟨off,e1,e2⟩:=Option.bind_eq_some_iff.1 hk
     subst e1
     by_cases hw:Region.wanted o (yielded ops a.tmps)=true
     ·rw[if_pos hw]
      have ht:qB a (some (d,want)):=by
       rw[H9,hy]at hw
       simp only[qB]
       split at hw
       ·rename_i b' hb'
        simp at hw;subst hw
        rw[Array.getD_eq_getD_getElem?,hb'];rfl
       ·simp at hw
      obtain⟨n,k1,k2⟩:=ZQ h ht hp
      exact .inl (qn k2 (hK _ _ _ _ _ (h.RM o.dst (fun _=>⟨n,k1,rfl⟩)) e2))
     ·rw[if_neg hw]
      refine hK _ _ _ _ _ (h.RM o.dst (fun ht=>absurd ?_ hw)) e2
      rw[H9,hy]
      simp only[qB]at ht
      rw[Array.getD_eq_getD_getElem?]at ht
      cases hc:a.tmps[d]? with
      |none=>rw[hc]at ht;simp [undef]at ht
      |some v=>rw[hc]at ht;simp at ht;subst ht;simp
    |none=>
     rw[hp]at hk
     simp only at hk
     obtain⟨av,e1,e2⟩:=Option.bind_eq_some_iff.1 hk
     generalize qS:s.sl.getD d .undef=gv at e1
     cases gv<;>simp only[A.guard]at e1<;>first|(cases e1;done)|skip
     case bool b=>
      obtain⟨v,v1,v2,v3⟩:=Yi h qS (by intro e;cases e) (by intro cs e;cases e)
      simp only[ak]at v3
      subst v3
      cases I9:(b==want)
      ·rw[I9]at e1
       simp only[cond_false]at e1
       injection e1 with e1;subst e1
       have hw:¬Region.wanted o (yielded ops a.tmps)=true:=by
        rw[H9,hy,v1]
        simp at I9 ⊢
        exact I9
       rw[if_neg hw]
       exact hK _ _ _ _ _ (h.undef o.dst) e2
      ·rw[I9]at e1
       simp only[cond_true]at e1
       have aaV:b=want:=by simpa using I9
       have hw:Region.wanted o (yielded ops a.tmps)=true:=by rw[H9,hy,v1];simp [aaV]
       rw[if_pos hw]
       have ht:qB a (some (d,want)):=by simp only[qB];rw[v2,aaV]
       exact .inl (ZR hs h ht e1 fun v w' E' h3 h4=>hK _ _ _ _ _ (h3.put o.dst h4) e2)
     case aG vs=>
      cases vs with
      |cons x xs=>cases e1
      |nil=>
       injection e1 with e1;subst e1
       obtain⟨v,v1,v2,v3⟩:=Yi h qS (by intro e;cases e) (by intro cs e;cases e)
       simp only[ak]at v3
       obtain⟨us,rfl,_⟩:=v3
       have hw:¬Region.wanted o (yielded ops a.tmps)=true:=by rw[H9,hy,v1];simp
       rw[if_neg hw]
       exact hK _ _ _ _ _ (h.undef o.dst) e2
   ·rw[hL]at hk;cases hk
def Fr (X:Fx) (ds:List Nat) (s s':AS):Prop:=∀i,i∉ds→X.L.contains i=false→s'.sl[i]? =s.sl[i]?
theorem Fr.refl (ds:List Nat) (s:AS):Fr X ds s s:=fun _ _ _=>rfl
theorem Fr.trans {d1 d2:List Nat} {s s' s'':AS} (h:Fr X d1 s s') (k:Fr X d2 s' s''):Fr X (d1++d2) s s'':=fun i hi hL=>by
 rw[List.mem_append]at hi
 exact(k i (fun e=>hi (.inr e)) hL).trans (h i (fun e=>hi (.inl e)) hL)
theorem Fr.mono {d1 d2:List Nat} {s s':AS} (h:Fr X d1 s s') (k:∀i∈d1,i∈d2):Fr X d2 s s':=fun i hi hL=>h i (fun e=>hi (k i e)) hL
theorem Fr.put (d:Option Nat) (v:AV) (s:AS):Fr X d.toList s (s.put X d v):=fun i hi hL=>by
 cases d with
 |none=>rfl
 |some d=>simp only[AS.put];rw[List.getElem?_set,if_neg];intro e;subst e;simp at hi
theorem Fr.mF (d:Option Nat) (b off:Nat) (tag:Option (Nat×Bool)) (s:AS):Fr X d.toList s (s.mF X d b off tag):=fun i hi hL=>by
 cases d with
 |none=>rfl
 |some d=>simp only[AS.mF];rw[List.getElem?_set,if_neg];intro e;subst e;simp at hi
theorem Fr.ou (d:Nat) (cs:List AV) (s:AS):Fr X [d] s (s.ou d cs):=fun i hi hL=>by
 simp only[AS.ou];rw[List.getElem?_set,if_neg];intro e;subst e;simp at hi
theorem Fr.qp (d:Option Nat) (v:AV) (σ:Heap) (s:AS):Fr X d.toList s ((s.heap σ).put X d v):=fun i hi hL=>by
 cases d with
 |none=>rfl
 |some d=>simp only[AS.put,AS.heap];rw[List.getElem?_set,if_neg];intro e;subst e;simp at hi
theorem Fr.ak7 (d:Option Nat) (v:AV) (b:Nat) (cs:List AV) (hb:X.L.contains b=true) (s:AS):Fr X d.toList s ((⟨s.sl.set b (.lbx cs),s.A,s.σ⟩:AS).put X d v):=fun i hi hL=>by
 have hbi:b≠i:=fun e=>by rw[e,hL]at hb;cases hb
 cases d with
 |none=>simp only[AS.put];rw[List.getElem?_set,if_neg hbi]
 |some d=>simp only[AS.put];rw[List.getElem?_set,if_neg,List.getElem?_set,if_neg hbi];intro e;subst e;simp at hi
theorem akw {tag:Option (Nat×Bool)} {x:Operand} {b off:Nat} (h:place X s tag x=some (b,off)):X.L.contains b=true:=by
 cases x with
 |tmp t=>
  simp only[place]at h
  cases hL:X.L.contains t
  ·rw[hL]at h
   simp only[cond_false]at h
   split at h
   ·rename_i p hA
    cases hp:X.L.contains p.slot
    ·rw[hp]at h;cases h
    ·rw[hp]at h
     simp only[cond_true]at h
     split at h
     ·simp only[Option.some.injEq,Prod.mk.injEq]at h;rw[←h.1];exact hp
     ·rename_i g hg
      cases ht:(tag==some g)
      ·rw[ht]at h;cases h
      ·rw[ht]at h;simp only[cond_true,Option.some.injEq,Prod.mk.injEq]at h;rw[←h.1];exact hp
   ·cases h
  ·rw[hL]at h
   simp only[cond_true,Option.some.injEq,Prod.mk.injEq]at h
   rw[←h.1];exact hL
 |_=>simp [place]at h
theorem bind_congr {α β:Type} {x:Option α} {f g:α→Option β} (h:∀a,x=some a→f a=g a):x.bind f=x.bind g:=by cases x with|none=>rfl|some a=>exact h a rfl
theorem afN {x:AV} {σ:Heap} {f g:Nat→Heap→Option R} (h:∀n σ,f n σ=g n σ):A.Iu x σ f=A.Iu x σ g:=by
 have:f=g:=funext fun n=>funext fun σ=>h n σ
 rw[this]
theorem ae8 {x:AV} {σ:Heap} {f g:AV→Heap→Option R} (h:∀v σ,f v σ=g v σ):A.sP x σ f=A.sP x σ g:=by
 have:f=g:=funext fun n=>funext fun σ=>h n σ
 rw[this]
theorem af3 {q str:Bool} {i:Operand} {dst:Option Nat} {k k2:AS→Option R} (h:∀s',Fr X dst.toList s s'→k s'=k2 s'):
  (bif q||str then none else A.sP (ev X s i) s.σ fun v σ=>k ((s.heap σ).put X dst v))=(bif q||str then none else A.sP (ev X s i) s.σ fun v σ=>k2 ((s.heap σ).put X dst v)):=by
 cases(q||str)
 ·simp only[cond_false]
  exact ae8 fun _ _=>h _ (Fr.qp _ _ _ _)
 ·rfl
theorem ahy {q:Bool} {o:Oper} {k k2:AS→Option R} (h:∀s',Fr X o.dst.toList s s'→k s'=k2 s'):ig X q o s k=ig X q o s k2:=by
 unfold ig
 cases hp:kG X o s none with
 |some p=>obtain⟨b,rr⟩:=p;exact bind_congr fun p _=>h _ (Fr.mF _ _ _ _ _)
 |none=>
  simp only
  have dflt:((ga X o s none).bind fun v=>k (s.put X o.dst v))=(ga X o s none).bind fun v=>k2 (s.put X o.dst v):=bind_congr fun v _=>h _ (Fr.put _ _ _)
  obtain⟨dst,op,ty,pos,af,g⟩:=o
  cases op<;>simp only<;>first|exact af3 h|exact dflt|skip
  case alloc t=>
   cases dst with
   |none=>rfl
   |some d=>
    simp only
    cases X.L.contains d
    ·simp only[cond_false]
     cases X.O.contains d
     ·exact dflt
     ·simp only[cond_true];split
      ·exact h _ (Fr.qp _ _ _ _)
      ·rfl
    ·simp only[cond_true];split
     ·exact h _ (Fr.ou _ _ _)
     ·rfl
  case box t x=>
   cases dst with
   |none=>rfl
   |some d=>
    simp only
    cases X.L.contains d
    ·simp only[cond_false]
     cases X.O.contains d
     ·exact dflt
     ·exact bind_congr fun cs _=>h _ (Fr.qp _ _ _ _)
    ·exact bind_congr fun cs _=>h _ (Fr.ou _ _ _)
  case store t x v=>
   split
   ·rename_i b off hpl
    exact bind_congr fun _ _=>bind_congr fun _ _=>bind_congr fun _ _=>h _ (Fr.ak7 _ _ _ _ (akw hpl) _)
   ·exact bind_congr fun _ _=>bind_congr fun _ _=>h _ (Fr.qp _ _ _ _)
  case makeMap t rr=>
   cases rr with
   |none=>exact h _ (Fr.qp _ _ _ _)
   |some x=>rfl
  case range t x=>
   split
   ·exact bind_congr fun _ _=>h _ (Fr.qp _ _ _ _)
   ·rfl
  case buildSlice t n ps=>
   cases dst with
   |none=>exact dflt
   |some d=>
    simp only
    cases X.O.contains d
    ·exact dflt
    ·simp only[cond_true]
     refine bind_congr fun v _=>?_
     unfold A.Gc
     split
     ·cases(List.length _==0)
      ·exact h _ (Fr.qp _ _ _ _)
      ·rfl
     ·rfl
  case mapUpdate t m i v=>
   split
   ·split
    ·exact bind_congr fun _ _=>h _ (Fr.qp _ _ _ _)
    ·rfl
   ·rfl
  case call c=>
   split
   ·split
    ·split
     ·split
      ·cases mT _
       ·exact bind_congr fun _ _=>h _ (Fr.qp _ _ _ _)
       ·rfl
      ·rfl
     ·split
      ·cases mT _
       ·exact bind_congr fun _ _=>h _ (Fr.qp _ _ _ _)
       ·rfl
      ·rfl
     ·rfl
    ·rfl
   ·split
    ·split
     ·split
      ·cases mT _
       ·exact bind_congr fun _ _=>h _ (Fr.qp _ _ _ _)
       ·rfl
      ·rfl
     ·rfl
    ·rfl
   ·cases hv:ga X _ s none
    ·simp only[A.It]
     cases q
     ·simp only[cond_false]
      split
      ·split
       ·exact afN fun _ _=>h _ (Fr.qp _ _ _ _)
       ·rfl
      ·rfl
     ·rfl
    ·exact h _ (Fr.put _ _ _)
   ·split
    ·split
     ·split
      ·cases mT _
       ·exact bind_congr fun _ _=>h _ (Fr.qp _ _ _ _)
       ·rfl
      ·rfl
     ·rfl
    ·rfl
   ·split
    ·split
     ·split
      ·exact bind_congr fun _ _=>h _ (Fr.qp _ _ _ _)
      ·rfl
     ·rfl
    ·rfl
   ·exact dflt
   ·cases(q&&!X.W.contains _)
    ·exact bind_congr fun _ _=>h _ (Fr.qp _ _ _ _)
    ·exact dflt
   ·cases q
    ·exact bind_congr fun _ _=>h _ (Fr.qp _ _ _ _)
    ·exact dflt
   ·rfl
theorem ahz {q:Bool} {ops:Array Oper} {o:Oper} {k k2:AS→Option R} (h:∀s',Fr X o.dst.toList s s'→k s'=k2 s'):nX X q ops o s k=nX X q ops o s k2:=by
 unfold nX
 split
 ·exact ahy h
 ·split
  ·cases Hy X o _
   ·simp only[cond_false]
    split
    ·exact bind_congr fun _ _=>h _ (Fr.mF _ _ _ _ _)
    ·exact bind_congr fun _ _=>h _ (Fr.put _ _ _)
   ·rfl
  ·rfl
theorem YS (hs:dD X) (h:St X z s a w E pb) {q:Bool} {ops:Array Oper} {i:Nat} {o:Oper} (hi:ops[i]? =some o) {k:AS→Option R} {r:R} (hk:nX X q ops o s k=some r) {K:Act→World→Prop} {Q:Exit→Act→World→Prop}
  (hK:∀s' a' w' E' bN,St X z s' a' w' E' bN→Fr X o.dst.toList s s'→k s'=some r→K a' w'):wpOp X.P ops Q i K a w:=by
 classical
 have e:nX X q ops o s k=nX X q ops o s (fun s'=>if Fr X o.dst.toList s s' then k s' else none):=ahz fun s' hf=>by rw[if_pos hf]
 rw[e]at hk
 refine alA hs h hi hk fun s' a' w' E' bN h' hk'=>?_
 split at hk'
 ·exact hK s' a' w' E' bN h' (by assumption) hk'
 ·cases hk'
theorem YV (hs:dD X) {q:Bool} {ops:Array Oper} {Q:Exit→Act→World→Prop} {r:R} {k:AS→Option R} {s0:AS}:
  ∀(l:List Oper) (i:Nat) (s:AS) (a:Act) (w:World) (E:List Pl) (pb:Nat→Option Nat),(∀j,l[j]? =ops[i+j]?)→St X z s a w E pb→sX X q ops l s k=some r→
   (∀s' a' w' E' bN,St X z s' a' w' E' bN→Fr X (l.filterMap (·.dst)) s s'→k s'=some r→Q .normal a' w')→wpOps X.P ops Q (List.range' i l.length) a w
 |[],i,s,a,w,E,pb,_,h,hk,hQ=>by simpa [wpOps]using hQ _ _ _ _ _ h (Fr.refl _ _) hk
 |o::l,i,s,a,w,E,pb,hl,h,hk,hQ=>by
  have h0:=hl 0
  simp at h0
  simp only[List.length_cons,List.range'_succ]
  rw[wpOps_cons]
  refine YS hs h h0.symm hk fun s' a' w' E' bN h' hf hk'=>?_
  refine YV hs (s0:=s0) l (i+1) s' a' w' E' bN (fun j=>by have:=hl (j+1);simp at this;rw[this];congr 1;omega) h' hk' fun s2 a2 w2 E2 TY h2 yX hk2=>hQ s2 a2 w2 E2 TY h2 ((hf.trans yX).mono ?_) hk2
  intro j hj
  rw[List.filterMap_cons]
  cases hd:o.dst with
  |none=>rw[hd]at hj;simpa using hj
  |some d=>rw[hd]at hj;simpa using hj
theorem aks (hs:dD X) {Rt:List (Nat×Nat)} {Bt:List Nat} (h:St X z s a w E pb) (hI:RI X Rt Bt s) {ops:Array Oper} {i:Nat} {o:Oper} (hR:uk X Rt Bt o) (hi:ops[i]? =some o) {k:AS→Option R} {r:R} (hk:nX X true ops o s k=some r) {K:Act→World→Prop} {Q:Exit→Act→World→Prop}
  (hK:∀s' a' w' E' bN,St X z s' a' w' E' bN→Fr X o.dst.toList s s'→RI X Rt Bt s'→k s'=some r→K a' w'):wpOp X.P ops Q i K a w:=by
 classical
 have e:nX X true ops o s (fun s'=>if RI X Rt Bt s' then k s' else none)=some r:=by
  obtain⟨u,h1,h2,h3⟩:=Q9 hR hI hk
  rw[h3 R _ s (fun tag _=>⟨hI,hI,fun _ _ _=>rfl,fun _ _=>rfl,fun _ _=>rfl,fun _ _=>rfl,fun _ _=>C5 _⟩),if_pos (h1.ri hI)]
  exact h2
 refine YS hs h hi e fun s' a' w' E' bN h' hf hk'=>?_
 split at hk'
 ·exact hK s' a' w' E' bN h' hf (by assumption) hk'
 ·cases hk'
theorem ail (hs:dD X) {Rt:List (Nat×Nat)} {Bt:List Nat} {ops:Array Oper} {Q:Exit→Act→World→Prop} {r:R} {k:AS→Option R} {s0:AS} (Rm:∀n o e,ops[n]? =some o→e∈o.after→Region.binds .any e=true→e.on<n)
  (amr:∀n o m y,ops[n]? =some o→m<n→ops[m]? =some y→(∀S,Down ops S→ML ops n S→S m)∨yT X Rt Bt ops y o) (R8:∀(n:Nat) (o:Oper),ops[n]? =some o→uk X Rt Bt o)
  (hQ:∀s' a' w' E' bN,St X z s' a' w' E' bN→Fr X (ops.toList.filterMap (·.dst)) s0 s'→k s'=some r→Q .normal a' w'):
  ∀(fuel:Nat) (listed:Array Bool) (s:AS) (a:Act) (w:World) (E:List Pl) (pb:Nat→Option Nat),listed.size=ops.size→(qI listed ops.size).length≤fuel→Down ops (fun i=>listed.getD i true=true)→St X z s a w E pb→RI X Rt Bt s→sX X true ops (Av ops listed) s k=some r→Fr X (ops.toList.filterMap (·.dst)) s0 s→
   wpAny X.P .any ops Q fuel listed a w:=by
 have hnone:∀(listed:Array Bool),qI listed ops.size=[]→Region.ready .any ops listed=[]:=by
  intro listed h
  unfold Region.ready
  rw[List.filter_eq_nil_iff]
  intro i hi hr
  simp only[Bool.and_eq_true]at hr
  have:i∈qI listed ops.size:=List.mem_filter.2 ⟨hi,hr.1⟩
  rw[h]at this;simp at this
 have hsome:∀(listed:Array Bool),listed.size=ops.size→Region.ready .any ops listed=[]→qI listed ops.size=[]:=by
  intro listed hsz hr
  cases wU:qI listed ops.size with
  |nil=>rfl
  |cons i0 tl=>
   exfalso
   have hm:i0∈qI listed ops.size:=by rw[wU];simp
   obtain⟨h1,h2⟩:=List.mem_filter.1 hm
   have hlt:i0<ops.size:=by simpa using h1
   have hpw:(qI listed ops.size).Pairwise (·<·):=List.Pairwise.filter _ List.pairwise_lt_range
   rw[wU,List.pairwise_cons]at hpw
   have hall:∀j,j<i0→listed.getD j true=true:=by
    intro j hj
    cases hc:listed.getD j true with
    |true=>rfl
    |false=>
     have:j∈qI listed ops.size:=List.mem_filter.2 ⟨by simp;omega,by simp [hc]⟩
     rw[wU]at this
     rcases List.mem_cons.1 this with e|e
     ·omega
     ·have:=hpw.1 j e;omega
   have:i0∈Region.ready .any ops listed:=by
    unfold Region.ready
    refine List.mem_filter.2 ⟨h1,?_⟩
    rw[Bool.and_eq_true]
    refine⟨h2,?_⟩
    rw[Array.getElem?_eq_getElem hlt]
    simp only[Option.map_some,Option.getD_some]
    rw[Array.all_eq_true_iff_forall_mem]
    intro e he
    cases hb:Region.binds .any e with
    |false=>rfl
    |true=>
     have GA:=Rm i0 _ e (Array.getElem?_eq_getElem hlt) he hb
     have:=hall e.on GA
     rw[Array.getD_eq_getD_getElem?,Array.getElem?_eq_getElem (by omega)]at this
     simp only[Option.getD_some]at this
     rw[Array.getD_eq_getD_getElem?,Array.getElem?_eq_getElem (by omega)]
     simp [this]
   rw[hr]at this;simp at this
 intro fuel
 induction fuel with
 |zero=>
  intro listed s a w E pb hsz hle hdn h hI hk hf
  have wU:qI listed ops.size=[]:=List.eq_nil_of_length_eq_zero (by omega)
  refine⟨hnone listed wU,hQ s a w E pb h hf ?_⟩
  simpa [Av,wU,sX]using hk
 |succ fuel ih=>
  intro listed s a w E pb hsz hle hdn h hI hk hf
  refine⟨fun hr=>hQ s a w E pb h hf (by simpa [Av,hsome listed hsz hr,sX]using hk),fun i hi=>?_⟩
  unfold Region.ready at hi
  obtain⟨h1,h2⟩:=List.mem_filter.1 hi
  rw[Bool.and_eq_true]at h2
  obtain⟨h2,h3⟩:=h2
  have hlt:i<ops.size:=by simpa using h1
  have hun:listed.getD i true=false:=by simpa using h2
  have ho:ops[i]? =some ops[i]:=Array.getElem?_eq_getElem hlt
  have aar:ML ops i (fun j=>listed.getD j true=true):=by
   intro o e hoo he hb
   rw[hoo]at h3
   simp only[Option.map_some,Option.getD_some]at h3
   rw[Array.all_eq_true_iff_forall_mem]at h3
   have h4:=h3 e he
   rw[hb]at h4
   simp only[Bool.not_true,Bool.false_or]at h4
   have GA:=Rm i o e hoo he hb
   rw[Array.getD_eq_getD_getElem?,Array.getElem?_eq_getElem (by omega)]at h4
   simp only[Option.getD_some]at h4
   show listed.getD e.on true=true
   rw[Array.getD_eq_getD_getElem?,Array.getElem?_eq_getElem (by omega)]
   simpa using h4
  obtain⟨l1,l2,e1,e2,e3⟩:=ags hlt hun hsz
  have wU:Av ops listed=l1.filterMap (ops[·]?)++ops[i]::l2.filterMap (ops[·]?):=by
   unfold Av;rw[e1,List.filterMap_append,List.filterMap_cons,ho]
  have amt:Av ops (listed.setIfInBounds i true)=l1.filterMap (ops[·]?)++l2.filterMap (ops[·]?):=by
   unfold Av;rw[e2,List.filterMap_append]
  rw[wU]at hk
  have an8:∀y∈l1.filterMap (ops[·]?),uk X Rt Bt y:=by
   intro y hy
   obtain⟨j,hj,TB⟩:=List.mem_filterMap.1 hy
   exact R8 j y TB
  have an1:∀y∈l1.filterMap (ops[·]?),yT X Rt Bt ops y ops[i]:=by
   intro y hy
   obtain⟨j,hj,TB⟩:=List.mem_filterMap.1 hy
   obtain⟨j1,j2⟩:=e3 j hj
   rcases amr i ops[i] j y ho j1 TB with k1|k1
   ·have:=k1 _ hdn aar
    rw[j2]at this;cases this
   ·exact k1
  have alm:=W8 (R8 i _ ho) _ _ s hI an8 an1 hk
  refine aks hs h hI (R8 i _ ho) ho alm fun s' a' w' E' bN h' hf' Tv hk'=>?_
  rw[←amt]at hk'
  refine ih _ s' a' w' E' bN (by simpa using hsz) ?_ ?_ h' Tv hk' ((hf.trans hf').mono ?_)
  ·rw[e2];rw[e1]at hle;simp at hle ⊢;omega
  ·intro j o e hj TE he hb
   by_cases hji:j=i
   ·subst hji
    have:=aar o e TE he hb
    show(listed.setIfInBounds j true).getD e.on true=true
    have GA:=Rm j o e TE he hb
    rw[Array.getD_eq_getD_getElem?,Array.getElem?_setIfInBounds_ne (by omega),←Array.getD_eq_getD_getElem?];exact this
   ·have hj':listed.getD j true=true:=by
     replace hj:(listed.setIfInBounds i true).getD j true=true:=hj
     rw[Array.getD_eq_getD_getElem?,Array.getElem?_setIfInBounds_ne (fun e=>hji e.symm),←Array.getD_eq_getD_getElem?]at hj;exact hj
    have:=hdn j o e hj' TE he hb
    show(listed.setIfInBounds i true).getD e.on true=true
    by_cases hei:e.on=i
    ·rw[hei];simp [Array.getD,hsz,hlt]
    ·rw[Array.getD_eq_getD_getElem?,Array.getElem?_setIfInBounds_ne (fun e'=>hei e'.symm),←Array.getD_eq_getD_getElem?];exact this
  ·intro d hd
   rcases List.mem_append.1 hd with hd|hd
   ·exact hd
   ·refine List.mem_filterMap.2 ⟨ops[i],by simp,?_⟩
    cases pV:ops[i].dst with
    |none=>rw[pV]at hd;simp at hd
    |some d'=>rw[pV]at hd;simp at hd;rw[hd]
theorem Pr {t b:Nat}:∀{l:List (Nat×Nat)},l.lookup t=some b→(t,b)∈l
 |[],h=>by cases h
 |(t',b')::l,h=>by
  simp only[List.lookup]at h
  cases hc:(t==t')
  ·rw[hc]at h;exact List.mem_cons_of_mem _ (Pr h)
  ·rw[hc]at h
   simp only[Option.some.injEq]at h
   have:t=t':=by simpa using hc
   subst this;subst h
   exact List.mem_cons_self
theorem ajL (hs:dD X) {ops:Array Oper} {Q:Exit→Act→World→Prop} {r:R} {k:AS→Option R} (hok:HB X ops s.sl=true) (hA:∀t,s.A t=none) (hQ:∀s' a' w' E' bN,St X z s' a' w' E' bN→Fr X (ops.toList.filterMap (·.dst)) s s'→k s'=some r→Q .normal a' w') {id:Nat}
  (h:St X z s a w E pb) (hk:sX X true ops ops.toList s k=some r):(Code.region id ops true).wp X.P Q a w:=by
 obtain⟨Rt,Bt,hok⟩:∃Rt Bt,Lm X Rt Bt ops s.sl=true:=by
  unfold HB at hok
  rcases Bool.or_eq_true_iff.1 hok with h|h
  ·exact⟨_,_,h⟩
  ·exact⟨_,_,h⟩
 unfold Lm at hok
 simp only[Bool.and_eq_true]at hok
 obtain⟨⟨⟨⟨⟨⟨⟨h1,h2⟩,h3⟩,h4⟩,h5⟩,h6⟩,h7⟩,h8⟩:=hok
 have hI:RI X Rt Bt s:=by
  refine⟨fun t b hl=>?_,fun t p hp=>(by rw[hA t]at hp;cases hp),fun t b hl _=>?_,fun t ht=>List.all_eq_true.1 h8 t (by simpa using ht)⟩
  ·have:=List.all_eq_true.1 h6 (t,b) (Pr hl)
   exact this
  ·have:=List.all_eq_true.1 h5 (t,b) (Pr hl)
   exact this
 have aau:∀j,ops.toList[j]? =ops[0+j]? :=fun j=>by simp
 have wU:qI (Array.replicate ops.size false) ops.size=List.range ops.size:=by
  unfold qI
  rw[List.filter_eq_self]
  intro i hi
  have:i<ops.size:=by simpa using hi
  simp [Array.getD,this]
 have amu:Av ops (Array.replicate ops.size false)=ops.toList:=by
  unfold Av
  rw[wU]
  have gen:∀(l pre:List Oper),(List.range' pre.length l.length).filterMap (fun i=>(pre++l)[i]?)=l:=by
   intro l
   induction l with
   |nil=>intro pre;rfl
   |cons x l ih=>
    intro pre
    simp only[List.length_cons,List.range'_succ,List.filterMap_cons]
    rw[List.getElem?_append_right (Nat.le_refl _)]
    simp only[Nat.sub_self,List.getElem?_cons_zero]
    have:=ih (pre++[x])
    simp only[List.length_append,List.length_cons,List.length_nil,Nat.zero_add,List.append_assoc,List.cons_append,List.nil_append]at this
    rw[this]
  have:=gen ops.toList []
  rw[List.range_eq_range']
  simpa using this
 refine wp_region_any h1 (ail (s0:=s) hs (fun n o e ho he hb=>Wv ops.toList 0 aau h2 n o e (Nat.zero_le _) ho he hb) (fun n o m y ho hm hy=>?_) (fun n o ho=>uk.of (List.all_eq_true.1 h4 o (by have:=Array.mem_of_getElem? ho;simpa using this)) (List.all_eq_true.1 h7 o (by have:=Array.mem_of_getElem? ho;simpa using this))) hQ ops.size _ s a _ E pb (by simp) (by rw[wU];simp) ?_ (h.grow (w':=w.drew) ((Below.refl _ _).drew)) hI (by rw[amu];exact hk) (Fr.refl _ _))
 ·rcases V6 ops.toList 0 aau h3 n o (Nat.zero_le _) ho m y hm hy with k1|k1
  ·left
   exact fun S hS hD=>Xw ops.toList [] (fun i=>by simp) (fun m j h=>by simp at h) n m k1 S hS hD
  ·exact .inr (ahk k1)
 ·intro i o e hi ho he hb
  have hlt:i<ops.size:=(Array.getElem?_eq_some_iff.1 ho).1
  exfalso
  simp [Array.getD,hlt]at hi
theorem St.TW (h:St X z s a w E pb):St X z ⟨s.sl,fun _=>none,s.σ⟩ a w E pb:=
 ⟨h.len,h.qG,h.slot,h.box,(fun t p hp=>by cases hp),h.priv,h.inj,h.heap,h.defers,h.out,h.nm⟩
def AX.to:AX→Exit
 |.normal=>.normal
 |.exit i=>.exit i
 |.ret=>.ret
theorem KA:∀(ds:List Nat) (sl:List AV) (i:Nat),(we sl ds).length=sl.length∧((we sl ds)[i]? =sl[i]? ∨(we sl ds)[i]? =some .undef)∧(i∉ds→(we sl ds)[i]? =sl[i]?)∧(i∈ds→i<sl.length→(we sl ds)[i]? =some .undef)
 |[],sl,i=>⟨rfl,.inl rfl,fun _=>rfl,fun h=>by simp at h⟩
 |d::ds,sl,i=>by
  obtain⟨h1,h2,h3,h4⟩:=KA ds (sl.set d .undef) i
  simp only[we]
  have tV:(sl.set d .undef)[i]? =if d=i then(if i<sl.length then some .undef else none)else sl[i]? :=by
   rw[List.getElem?_set];by_cases e:d=i
   ·subst e;simp
   ·simp [e]
  have hnone:¬i<sl.length→sl[i]? =none:=fun k=>List.getElem?_eq_none (by omega)
  refine⟨by rw[h1];simp,?_,fun hi=>?_,fun hi hl=>?_⟩
  ·rcases h2 with h2|h2
   ·rw[h2,tV]
    by_cases e:d=i
    ·rw[if_pos e];split
     ·exact .inr rfl
     ·rename_i k;rw[hnone k];exact .inl rfl
    ·rw[if_neg e];exact .inl rfl
   ·exact .inr h2
  ·simp only[List.mem_cons,not_or]at hi
   rw[h3 hi.2,tV,if_neg (fun e=>hi.1 e.symm)]
  ·by_cases hm:i∈ds
   ·exact h4 hm (by simpa using hl)
   ·simp only[List.mem_cons]at hi
    have:i=d:=hi.resolve_right hm
    rw[h3 hm,tV,if_pos this.symm,if_pos hl]
theorem Lb (vs:List AV):∀(live:List Nat) (j:Nat) (sl:List AV) (i:Nat),(FQ vs sl live j).length=sl.length∧(i∉live→(FQ vs sl live j)[i]? =sl[i]?)∧(i∈live→i<sl.length→∃n,n<live.length∧live[n]? =some i∧(FQ vs sl live j)[i]? =some (vs.getD (j+n) .undef))
 |[],j,sl,i=>⟨rfl,fun _=>rfl,fun h=>by simp at h⟩
 |d::live,j,sl,i=>by
  obtain⟨h1,h2,h3⟩:=Lb vs live (j+1) (sl.set d (vs.getD j .undef)) i
  simp only[FQ]
  refine⟨by rw[h1];simp,fun hi=>?_,fun hi hl=>?_⟩
  ·simp only[List.mem_cons,not_or]at hi
   rw[h2 hi.2,List.getElem?_set,if_neg (fun e=>hi.1 e.symm)]
  ·by_cases hm:i∈live
   ·obtain⟨n,k1,k2,k3⟩:=h3 hm (by simpa using hl)
    exact⟨n+1,by simp;omega,by simpa using k2,by rw[k3];congr 2;omega⟩
   ·simp only[List.mem_cons]at hi
    have:i=d:=hi.resolve_right hm
    subst this
    exact⟨0,by simp,rfl,by rw[h2 hm,List.getElem?_set];simp [hl]⟩
theorem St.meet {s s':AS} (h:St X z s' a w E pb) {mods live:List Nat} (hl:s.sl.length=s'.sl.length) (hf:∀i,i∉mods→s'.sl[i]? =s.sl[i]?):St X z (s.meet mods live (vals s'.sl live) s'.σ) a w E pb:=by
 have jX:∀i:Nat,(s.meet mods live (vals s'.sl live) s'.σ).sl[i]? =s'.sl[i]? ∨(s.meet mods live (vals s'.sl live) s'.σ).sl[i]? =some AV.undef:=by
  intro i
  simp only[AS.meet]
  obtain⟨c1,c2,c3,c4⟩:=KA mods s.sl i
  obtain⟨m1,m2,m3⟩:=Lb (vals s'.sl live) live 0 (we s.sl mods) i
  by_cases hm:i∈live
  ·by_cases hlt:i<s.sl.length
   ·obtain⟨n,k1,k2,k3⟩:=m3 hm (by rw[c1];exact hlt)
    left
    rw[k3,Nat.zero_add]
    have:(vals s'.sl live).getD n .undef=s'.sl.getD i .undef:=by
     simp only[vals,List.getD,List.getElem?_map,k2];rfl
    rw[this,List.getElem?_eq_getElem (by omega)]
    simp [List.getD,show i<s'.sl.length by omega]
   ·left
    rw[List.getElem?_eq_none (by rw[m1,c1];omega),List.getElem?_eq_none (by omega)]
  ·rw[m2 hm]
   by_cases hd:i∈mods
   ·by_cases hlt:i<s.sl.length
    ·exact .inr (c4 hd hlt)
    ·left;rw[List.getElem?_eq_none (by rw[c1];omega),List.getElem?_eq_none (by omega)]
   ·left;rw[c3 hd,hf i hd]
 have hlen:(s.meet mods live (vals s'.sl live) s'.σ).sl.length=s'.sl.length:=by
  simp only[AS.meet]
  rw[(Lb (vals s'.sl live) live 0 (we s.sl mods) 0).1,(KA mods s.sl 0).1];exact hl
 refine⟨by rw[h.len,hlen],by rw[hlen,h.qG],fun i av hi=>?_,fun i cs hi=>?_,(fun t p hp=>by cases hp),h.priv,h.inj,h.heap,h.defers,h.out,h.nm⟩
 ·rcases jX i with e|e
  ·rw[e]at hi;exact h.slot i av hi
  ·rw[e]at hi;injection hi with hi;subst hi;trivial
 ·rcases jX i with e|e
  ·rw[e]at hi;exact h.box i cs hi
  ·rw[e]at hi;cases hi
end
end
section
open Go.RowKit
section
variable {X : Fx} {z : Z}
theorem force_eq {R:Type}:∀(l:List AV) (k:List AV→Option R),force l k=k l
 |[],k=>rfl
 |x::l,k=>by simp only[force];rw[force_eq l]
theorem YW {R:Type} {q:Bool} {ops:Array Oper}:∀(l:List Oper) (s:AS) (k:AS→Option R),II X q ops l s k=sX X q ops l s k
 |[],s,k=>rfl
 |o::l,s,k=>by
  simp only[II,sX]
  congr 1;funext s
  rw[force_eq];exact YW l _ k
theorem Wy {α:Type} {c:AV} {t e:Option α} {r:α} (h:A.cond c t e=some r):(c=.bool true∧t=some r)∨(c=.bool false∧e=some r):=by
 cases c<;>simp only[A.cond]at h<;>first|(cases h;done)|skip
 rename_i b
 cases b
 ·exact .inr ⟨rfl,h⟩
 ·exact .inl ⟨rfl,h⟩
theorem ahq {f:List AV→Heap→Option (AX×List AV×Heap)} {v:List AV} {σ:Heap} {r:AX×List AV×Heap} (h:A.loop f v σ=some r):∃n,A.iter f n v σ=some r:=by
 unfold A.loop at h
 split at h
 ·rename_i hx
  injection h with h
  exact⟨_,h▸Classical.choose_spec (Classical.choose_spec hx)⟩
 ·cases h
theorem af0 {R:Type} {f:List AV→Heap→(AX×List AV×Heap→Option R)→Option R} {v:List AV} {σ:Heap} {K:AX×List AV×Heap→Option R} {r:R} (h:A.zS f v σ K=some r):∃n,A.wB f n v σ K=some r:=by
 unfold A.zS at h
 split at h
 ·rename_i hx
  injection h with h
  obtain⟨n,hn⟩:=Classical.choose_spec hx
  exact⟨n,h▸hn n (Nat.le_refl _)⟩
 ·cases h
theorem LL {R:Type} {e:AX} {k:AX→Option R} {r:R}:∀{xs:List AX},A.sel e k xs=some r→k e=some r
 |[],h=>by cases h
 |x::xs,h=>by
  simp only[A.sel]at h
  cases he:(e==x)
  ·rw[he]at h;exact LL h
  ·rw[he]at h
   have:e=x:=by simpa using he
   subst this;exact h
theorem FC {X:Fx} {c:Code} {ds:List Nat} {s s':AS} (h:Fr X ds s s'):∀i,i∉ds++X.L→s'.sl[i]? =s.sl[i]? :=fun i hi=>by
 rw[List.mem_append]at hi
 exact h i (fun e=>hi (.inl e)) (by
  cases hc:X.L.contains i
  ·rfl
  ·exact absurd (List.contains_iff_mem.1 hc) (fun e=>hi (.inr e)))
theorem BA {X:Fx} {s:AS} {ds live:List Nat} {vs:List AV} {σ:Heap} (hl:(live.all fun d=>(ds++X.L).contains d)=true):Fr X ds s (s.meet (ds++X.L) live vs σ):=fun i hi hL=>by
 have hni:i∉ds++X.L:=by
  rw[List.mem_append];rintro(e|e)
  ·exact hi e
  ·rw[List.contains_iff_mem.2 e]at hL;cases hL
 simp only[AS.meet]
 rw[(Lb vs live 0 (we s.sl (ds++X.L)) i).2.1 (fun e=>hni ?_),(KA (ds++X.L) s.sl i).2.2.1 hni]
 exact List.contains_iff_mem.1 (List.all_eq_true.1 hl i e)
theorem Vz {live:List Nat} {e:AX} {s:AS} {r:List AV×Heap} (h:Mp live e s=some r):e=.normal∧r=(vals s.sl live,s.σ):=by
 cases e<;>simp only[Mp]at h<;>first|(cases h;done)|(injection h with h;exact⟨rfl,h.symm⟩)
theorem YL {P:Program} {c:Code} {Q:Exit→Act→World→Prop} (I:Nat→Act→World→Prop) (round:∀n a w,I n a w→c.wp P (Exit.then (fun a' w'=>∃m,m<n∧I m a' w') Q) a w) {n:Nat} {a:Act} {w:World} (h:I n a w):(Code.loop c).wp P Q a w:=by
 intro b k cs
 have key:∀n a w,I n a w→∃e a' w',Q e a' w'∧Arrives P (lone (b.at a (.code c::.inLoop c::k)) cs w) b k cs e a' w':=by
  intro n
  induction n using Nat.strongRecOn with
  |_ n ih=>
   intro a w hI
   obtain⟨e,a1,w1,hq,Ci⟩:=round n a w hI b (.inLoop c::k) cs
   cases e with
   |normal=>
    obtain⟨m,hlt,hm⟩:=hq
    obtain⟨e2,a2,w2,vL,amf⟩:=ih m hlt a1 w1 hm
    exact⟨e2,a2,w2,vL,.of_steps (Steps.trans Ci (.one step_inLoop)) amf⟩
   |exit id=>exact⟨_,a1,w1,hq,.pass (x:=.inLoop c) rfl (fun _ _=>.inl (by simp)) Ci⟩
   |goto l=>exact⟨_,a1,w1,hq,.pass (x:=.inLoop c) rfl (fun _ _=>.inl (by simp)) Ci⟩
   |ret=>exact⟨_,a1,w1,hq,.pass (x:=.inLoop c) rfl (fun _ _=>.inl (by simp)) Ci⟩
   |panic ch=>exact⟨_,a1,w1,hq,.pass (x:=.inLoop c) rfl (fun _ _=>.inl (by simp)) Ci⟩
   |outgrown=>exact⟨_,a1,w1,hq,.pass (x:=.inLoop c) rfl (fun _ _=>.inl (by simp)) Ci⟩
 obtain⟨e,a',w',hq,Ci⟩:=key n a w h
 exact⟨e,a',w',hq,.of_steps (.one step_loop) Ci⟩
theorem yt (hs:dD X):∀(c:Code) {R:Type} (bL:mE) (s:AS) (a:Act) (w:World) (E:List Pl) (pb:Nat→Option Nat) (k:AX→AS→Option R) (r:R) (Q:Exit→Act→World→Prop),exec X bL c s k=some r→St X z s a w E pb→
  (∀e s' a' w' E' bN,St X z s' a' w' E' bN→Fr X (eM c) s s'→k e s'=some r→Q e.to a' w')→c.wp X.P Q a w
 |.skip,R,bL,s,a,w,E,pb,k,r,Q,hk,h,hQ=>by
  have hk':k .normal s=some r:=by cases bL<;>simpa [exec]using hk
  exact wp_skip (hQ .normal s a w E pb h (Fr.refl _ _) hk')
 |.label l,R,bL,s,a,w,E,pb,k,r,Q,hk,h,hQ=>by
  have hk':k .normal s=some r:=by cases bL<;>simpa [exec]using hk
  exact wp_label (hQ .normal s a w E pb h (Fr.refl _ _) hk')
 |.exit id,R,bL,s,a,w,E,pb,k,r,Q,hk,h,hQ=>by
  have hk':k (.exit id) s=some r:=by cases bL<;>simpa [exec]using hk
  exact wp_exit (hQ (.exit id) s a w E pb h (Fr.refl _ _) hk')
 |.ret,R,bL,s,a,w,E,pb,k,r,Q,hk,h,hQ=>by
  have hk':k .ret s=some r:=by cases bL<;>simpa [exec]using hk
  exact wp_ret (hQ .ret s a w E pb h (Fr.refl _ _) hk')
 |.region id ops draw,R,bL,s,a,w,E,pb,k,r,Q,hk,h,hQ=>by
  have hk':(bif draw then(bif HB X ops s.sl then sX X true ops ops.toList ⟨s.sl,fun _=>none,s.σ⟩ fun s=>k .normal ⟨s.sl,fun _=>none,s.σ⟩else none)else sX X false ops ops.toList s fun s=>k .normal ⟨s.sl,fun _=>none,s.σ⟩)=some r:=by
   cases bL<;>simpa [exec,force_eq,YW]using hk
  cases draw
  ·simp only[cond_false]at hk'
   refine wp_region ?_
   have:=YV (z:=z) (Q:=Q) (s0:=s) hs ops.toList 0 s a w E pb (fun j=>by simp) h hk' (fun s' a' w' E' bN h' hf hk2=>hQ .normal _ a' w' E' bN h'.TW (fun i hi hL=>hf i (by simpa [eM]using hi) hL) hk2)
   rw[List.range_eq_range']
   simpa using this
  ·simp only[cond_true]at hk'
   cases hok:HB X ops s.sl
   ·rw[hok]at hk';cases hk'
   ·rw[hok]at hk'
    simp only[cond_true]at hk'
    exact ajL (s:=⟨s.sl,fun _=>none,s.σ⟩) hs hok (fun _=>rfl) (fun s' a' w' E' bN h' hf hk2=>hQ .normal _ a' w' E' bN h'.TW (fun i hi hL=>hf i (by simpa [eM]using hi) hL) hk2) h.TW hk'
 |.seq x y,R,bL,s,a,w,E,pb,k,r,Q,hk,h,hQ=>by
  cases bL<;>simp only[exec]at hk<;>first|(cases hk;done)|skip
  rename_i aa bb
  refine wp_seq (yt hs x aa s a w E pb _ r _ hk h fun e s' a' w' E' bN h' hf hk'=>?_)
  cases e with
  |normal=>exact yt hs y bb s' a' w' E' bN k r Q hk' h' fun e2 s2 a2 w2 E2 TY h2 yX hk2=>hQ e2 s2 a2 w2 E2 TY h2 (by simpa [eM]using hf.trans yX) hk2
  |exit i=>exact hQ (.exit i) s' a' w' E' bN h' (hf.mono fun i hi=>by simp [eM,hi]) hk'
  |ret=>exact hQ .ret s' a' w' E' bN h' (hf.mono fun i hi=>by simp [eM,hi]) hk'
 |.cond c x y,R,bL,s,a,w,E,pb,k,r,Q,hk,h,hQ=>by
  have rc:=eH h c
  cases bL<;>simp only[exec,force_eq]at hk<;>first|(cases hk;done)|skip
  case c live aa bb=>
   cases hl:(live.all fun d=>(eM x++eM y++X.L).contains d)
   ·rw[hl]at hk;cases hk
   ·rw[hl]at hk
    simp only[Bool.not_true,cond_false]at hk
    obtain⟨⟨vs,σ'⟩,h1,h2⟩:=Option.bind_eq_some_iff.1 hk
    rcases Wy h1 with⟨ec,hb⟩|⟨ec,hb⟩
    ·rw[ec]at rc;simp only[ak]at rc
     refine wp_cond_true rc (yt hs x aa s a w E pb _ _ Q hb h fun e s' a' w' E' bN h' hf hk'=>?_)
     obtain⟨rfl,hv⟩:=Vz hk'
     simp only[Prod.mk.injEq]at hv
     obtain⟨rfl,rfl⟩:=hv
     have yX:Fr X (eM x++eM y) s s':=hf.mono fun i hi=>by simp [hi]
     exact hQ .normal _ a' w' E' bN (h'.meet (by rw[h.qG,h'.qG]) (FC (c:=x) yX)) (by simpa [eM]using BA (X:=X) hl) h2
    ·rw[ec]at rc;simp only[ak]at rc
     refine wp_cond_false rc (yt hs y bb s a w E pb _ _ Q hb h fun e s' a' w' E' bN h' hf hk'=>?_)
     obtain⟨rfl,hv⟩:=Vz hk'
     simp only[Prod.mk.injEq]at hv
     obtain⟨rfl,rfl⟩:=hv
     have yX:Fr X (eM x++eM y) s s':=hf.mono fun i hi=>by simp [hi]
     exact hQ .normal _ a' w' E' bN (h'.meet (by rw[h.qG,h'.qG]) (FC (c:=x) yX)) (by simpa [eM]using BA (X:=X) hl) h2
  case j aa bb=>
   rcases Wy hk with⟨ec,hb⟩|⟨ec,hb⟩
   ·rw[ec]at rc;simp only[ak]at rc
    exact wp_cond_true rc (yt hs x aa s a w E pb k r Q hb h fun e s' a' w' E' bN h' hf hk'=>hQ e s' a' w' E' bN h' (hf.mono fun i hi=>by simp [eM,hi]) hk')
   ·rw[ec]at rc;simp only[ak]at rc
    exact wp_cond_false rc (yt hs y bb s a w E pb k r Q hb h fun e s' a' w' E' bN h' hf hk'=>hQ e s' a' w' E' bN h' (hf.mono fun i hi=>by simp [eM,hi]) hk')
 |.block id c,R,bL,s,a,w,E,pb,k,r,Q,hk,h,hQ=>by
  cases bL<;>simp only[exec]at hk<;>first|(cases hk;done)|skip
  rename_i aa
  refine wp_block (yt hs c aa s a w E pb _ r _ hk h fun e s' a' w' E' bN h' hf hk'=>?_)
  cases e with
  |normal=>exact hQ .normal s' a' w' E' bN h' (by simpa [eM]using hf) hk'
  |ret=>exact hQ .ret s' a' w' E' bN h' (by simpa [eM]using hf) hk'
  |exit i=>
   simp only[AX.to,Exit.inBlock]
   simp only at hk'
   by_cases e:i=id
   ·have:(i==id)=true:=by simpa using e
    rw[this]at hk'
    rw[if_pos e]
    exact hQ .normal s' a' w' E' bN h' (by simpa [eM]using hf) hk'
   ·have:(i==id)=false:=by simpa using e
    rw[this]at hk'
    rw[if_neg e]
    exact hQ (.exit i) s' a' w' E' bN h' (by simpa [eM]using hf) hk'
 |.loop c,R,bL,s,a,w,E,pb,k,r,Q,hk,h,hQ=>by
  cases bL<;>simp only[exec,force_eq]at hk<;>first|(cases hk;done)|skip
  case lc live xs aa=>
   cases hl:(live.all fun d=>(eM c++X.L).contains d)
   ·rw[hl]at hk;cases hk
   ·rw[hl]at hk
    simp only[Bool.not_true,cond_false]at hk
    obtain⟨n,hn⟩:=af0 hk
    refine YL (fun n a w=>∃vs σ E pb,A.wB (fun vs σ K=>exec X aa c (s.meet (eM c++X.L) live vs σ) fun e s'=>K (e,vals s'.sl live,s'.σ)) n vs σ (fun r=>A.sel r.1 (fun e=>k e (s.meet (eM c++X.L) live r.2.1 r.2.2)) xs)=some r∧St X z (s.meet (eM c++X.L) live vs σ) a w E pb) ?_ (n:=n) ⟨_,_,E,pb,hn,h.meet rfl (fun i _=>rfl)⟩
    rintro n a w ⟨vs,σ,E,pb,hit,hst⟩
    cases n with
    |zero=>cases hit
    |succ n=>
     simp only[A.wB]at hit
     refine yt hs c aa _ a w E pb _ _ _ hit hst fun e s' a' w' E' bN h' hf hk'=>?_
     have hfr:∀i,i∉eM c++X.L→s'.sl[i]? =s.sl[i]? :=fun i hi=>by
      rw[FC (c:=c) hf i hi]
      exact FC (c:=c) (BA (X:=X) (s:=s) (vs:=vs) (σ:=σ) hl) i hi
     have wV:=h'.meet (s:=s) (mods:=eM c++X.L) (live:=live) (by rw[h.qG,h'.qG]) hfr
     cases e with
     |normal=>exact⟨n,Nat.lt_succ_self n,_,_,E',bN,hk',wV⟩
     |exit i=>exact hQ (.exit i) _ a' w' E' bN wV (by simpa [eM]using BA (X:=X) hl) (LL hk')
     |ret=>exact hQ .ret _ a' w' E' bN wV (by simpa [eM]using BA (X:=X) hl) (LL hk')
  rename_i live xs aa
  cases hl:(live.all fun d=>(eM c++X.L).contains d)
  ·rw[hl]at hk;cases hk
  ·rw[hl]at hk
   simp only[Bool.not_true,cond_false]at hk
   obtain⟨⟨e0,CE,aC⟩,h1,h2⟩:=Option.bind_eq_some_iff.1 hk
   have hsel:=LL h2
   obtain⟨n,hn⟩:=ahq h1
   refine YL (fun n a w=>∃vs σ E pb,A.iter (fun vs σ=>exec X aa c (s.meet (eM c++X.L) live vs σ) (leave live)) n vs σ=some (e0,CE,aC)∧St X z (s.meet (eM c++X.L) live vs σ) a w E pb) ?_ (n:=n) ⟨_,_,E,pb,hn,h.meet rfl (fun i _=>rfl)⟩
   rintro n a w ⟨vs,σ,E,pb,hit,hst⟩
   cases n with
   |zero=>cases hit
   |succ n=>
    simp only[A.iter]at hit
    obtain⟨⟨e1,vs1,σ1⟩,g1,g2⟩:=Option.bind_eq_some_iff.1 hit
    refine yt hs c aa _ a w E pb _ _ _ g1 hst fun e s' a' w' E' bN h' hf hk'=>?_
    simp only[leave,Option.some.injEq,Prod.mk.injEq]at hk'
    obtain⟨rfl,rfl,rfl⟩:=hk'
    have hfr:∀i,i∉eM c++X.L→s'.sl[i]? =s.sl[i]? :=fun i hi=>by
     rw[FC (c:=c) hf i hi]
     exact FC (c:=c) (BA (X:=X) (s:=s) (vs:=vs) (σ:=σ) hl) i hi
    have wV:=h'.meet (s:=s) (mods:=eM c++X.L) (live:=live) (by rw[h.qG,h'.qG]) hfr
    cases e with
    |normal=>exact⟨n,Nat.lt_succ_self n,_,_,E',bN,g2,wV⟩
    |exit i=>
     simp only[Option.some.injEq,Prod.mk.injEq]at g2
     obtain⟨rfl,rfl,rfl⟩:=g2
     exact hQ (.exit i) _ a' w' E' bN wV (by simpa [eM]using BA (X:=X) hl) hsel
    |ret=>
     simp only[Option.some.injEq,Prod.mk.injEq]at g2
     obtain⟨rfl,rfl,rfl⟩:=g2
     exact hQ .ret _ a' w' E' bN wV (by simpa [eM]using BA (X:=X) hl) hsel
 |.rangeFunc ..,R,bL,s,a,w,E,pb,k,r,Q,hk,h,hQ=>by cases bL<;>simp [exec]at hk
 |.scope _,R,bL,s,a,w,E,pb,k,r,Q,hk,h,hQ=>by cases bL<;>simp [exec]at hk
 |.goto _,R,bL,s,a,w,E,pb,k,r,Q,hk,h,hQ=>by cases bL<;>simp [exec]at hk
 |.refuse _,R,bL,s,a,w,E,pb,k,r,Q,hk,h,hQ=>by cases bL<;>simp [exec]at hk
end
end
section
open Go.RowKit
section
variable {X : Fx} {z : Z} {s : AS} {a : Act} {w w' : World} {E : List Pl} {pb : Nat → Option Nat}
def Ax (tmps:Array Value):ResultVar→Sem Value
 |.tmp t=>pure (tmps.getD t undef)
 |.cell a t=>do loadVar t (←asAddr (tmps.getD a undef))
theorem Qk (h:St X z s a w E pb) {R:Type}:∀(rs:List ResultVar) (k:List AV→Option R) (r:R),Aw X s rs k=some r→∃vs nj,(rs.mapM (Ax a.tmps)).run X.P w=.ok vs w∧aI (ctx z w E pb) nj vs∧k nj=some r
 |[],k,r,hk=>⟨[],[],by simp,by simp [aI],hk⟩
 |.tmp t::rs,k,r,hk=>by
  simp only[Aw]at hk
  obtain⟨vs,nj,h1,h2,h3⟩:=Qk h rs _ r hk
  refine⟨a.tmps.getD t undef::vs,ev X s (.tmp t)::nj,?_,by simp only[aI];exact⟨_,_,rfl,eH h (.tmp t),h2⟩,h3⟩
  simp only[List.mapM_cons,Sem.run_bind,Ax,Sem.run_pure,Result.andThen_ok,h1]
 |.cell q t::rs,k,r,hk=>by
  simp only[Aw]at hk
  have fin:∀(v:Value) (av:AV),(Ax a.tmps (.cell q t)).run X.P w=.ok v w→ak (ctx z w E pb) av v→Aw X s rs (fun vs=>k (av::vs))=some r→∃vs nj,((ResultVar.cell q t::rs).mapM (Ax a.tmps)).run X.P w=.ok vs w∧aI (ctx z w E pb) nj vs∧k nj=some r:=by
   intro v av hv hr hk
   obtain⟨vs,nj,h1,h2,h3⟩:=Qk h rs _ r hk
   refine⟨v::vs,av::nj,?_,by simp only[aI];exact⟨_,_,rfl,hr,h2⟩,h3⟩
   simp only[List.mapM_cons,Sem.run_bind,hv,Sem.run_pure,Result.andThen_ok,h1]
  split at hk
  ·rename_i b off hp
   obtain⟨av,e1,e2⟩:=Option.bind_eq_some_iff.1 hk
   obtain⟨cs,e3,e4⟩:=Option.bind_eq_some_iff.1 e1
   obtain⟨n,k1,k2,k3,k4⟩:=Fi h (tag:=none) trivial hp e3
   obtain⟨v,j1,j2⟩:=KX (c:=ctx z w E pb) w X rfl k3.2 e4
   rw[Nat.zero_add]at j1
   simp only[Act.eval]at k2
   exact fin v av (by simp [Ax,k2,asAddr,j1]) j2 e2
  ·obtain⟨av,e1,e2⟩:=Option.bind_eq_some_iff.1 hk
   obtain⟨cs,e3,e4⟩:=Option.bind_eq_some_iff.1 e1
   obtain⟨b,off,k2,k3⟩:=Wz h.heap e3 (eH h (.tmp q))
   obtain⟨v,j1,j2⟩:=KX (c:=ctx z w E pb) w X rfl k3 e4
   rw[Nat.add_zero]at j1
   simp only[Act.eval]at k2
   exact fin v av (by simp [Ax,k2,asAddr,j1]) j2 e2
theorem afl {P:Program} {fn:Func} {tmps:Array Value} {vs:List Value} (h:(fn.results.toList.mapM (Ax tmps)).run P w=.ok vs w):∃v,(results fn tmps).run P w=.ok v w∧∀(c:RC) (nj:List AV),aI c nj vs→ak c (one nj) v:=by
 have e:results fn tmps=(do let vs ←fn.results.mapM (Ax tmps);pure (if h:vs.size=1 then vs[0]else .tuple vs)):=by
  unfold results
  congr 1
 have hm:(fn.results.mapM (Ax tmps)).run P w=.ok vs.toArray w:=by
  rw[Array.mapM_eq_mapM_toList,Sem.run_map,h];rfl
 have hrun:(results fn tmps).run P w=.ok (if h:vs.toArray.size=1 then vs.toArray[0]else .tuple vs.toArray) w:=by
  rw[e,Sem.run_bind,hm];rfl
 refine⟨_,hrun,fun c nj r=>?_⟩
 match nj,vs,r with
 |[x],[v],r=>simp only[aI]at r;obtain⟨v',_,e',r1,rfl⟩:=r;injection e' with e1 _;subst e1;simpa [one]using r1
 |[],[],r=>simp only[one,ak];exact⟨#[],by simp,by simp [aI]⟩
 |x::y::xs,v::u::us,r=>simp only[one,ak];exact⟨(v::u::us).toArray,by simp,by simpa using r⟩
 |[_],_::_::_,r=>exact absurd r.length (by simp)
 |_::_::_,[_],r=>exact absurd r.length (by simp)
 |[],_::_,r=>exact absurd r.length (by simp)
 |_::_,[],r=>exact absurd r.length (by simp)
end
section
variable {c c' : RC} {σ : Heap} {n : Nat}
structure wE (c c' : RC) (σ : Heap) (n : Nat) : Prop where
 w:c'.w=c.w
 nm:c'.nm=c.nm
 X:∀b,c'.X b→c.X b
 E:∀(id:Nat) (p:Pl),id<n→c.E[id]? =some p→c'.E[id]? =some p
 heap:iw c σ
 MP:∀(id:Nat) (p:Pl),n≤id→c.E[id]? =some p→¬c'.X p.b
theorem Qe (d:Nat):∀(l l':List AV),A.eO σ n d l=some l'→l'.length=l.length
 |[],l',e=>by simp only[A.eO]at e;injection e with e;subst e;rfl
 |x::l,l',e=>by
  simp only[A.eO]at e
  obtain⟨y,h1,h2⟩:=Option.bind_eq_some_iff.1 e
  obtain⟨l2,h3,rfl⟩:=Option.map_eq_some_iff.1 h2
  simp [Qe d l l2 h3]
theorem Hu (d:Nat):∀(l l':List (List AV)),A.jh σ n d l=some l'→l'.length=l.length
 |[],l',e=>by simp only[A.jh]at e;injection e with e;subst e;rfl
 |x::l,l',e=>by
  simp only[A.jh]at e
  obtain⟨y,h1,h2⟩:=Option.bind_eq_some_iff.1 e
  obtain⟨l2,h3,rfl⟩:=Option.map_eq_some_iff.1 h2
  simp [Hu d l l2 h3]
theorem Fl (d:Nat):∀(l:List (List AV)),A.HT σ n d l=A.jh σ n d l
 |[]=>by simp [A.jh,A.HT]
 |x::l=>by simp [A.jh,A.HT,Fl d l]
def Dn:AV→Bool
 |.os ..=>true
 |.op ..=>true
 |.oe ..=>true
 |.om ..=>true
 |_=>false
theorem L4 (d:Nat):∀(l:List AV),A.tK σ n d l=A.eO σ n d l
 |[]=>by simp [A.eO,A.tK]
 |x::l=>by simp [A.eO,A.tK,L4 d l]
theorem YF (d:Nat):∀(l:List (AV×AV)),A.BR σ n d l=A.pq σ n d l
 |[]=>by simp [A.pq,A.BR]
 |(k,v)::l=>by simp [A.pq,A.BR,YF d l]
theorem ajW (d:Nat) (m:Int) (s:ByteArray):A.bw σ n d (.agg [.int .i64 m,.str s])=some (.agg [.int .i64 m,.str s]):=by
 cases d<;>simp [A.bw,A.eO]
theorem WM {d:Nat}:∀{es es':List (AV×AV)},(∀p∈es,∃m s,p.1=.agg [.int .i64 m,.str s])→A.pq σ n d es=some es'→es'.map (·.1)=es.map (·.1)
 |[],es',_,h=>by simp only[A.pq]at h;injection h with h;subst h;rfl
 |(k,v)::r,es',hk,h=>by
  simp only[A.pq]at h
  obtain⟨m,s,e⟩:=hk (k,v) List.mem_cons_self
  simp only at e
  subst e
  rw[ajW]at h
  simp only[Option.bind_some]at h
  obtain⟨v',h1,h2⟩:=Option.bind_eq_some_iff.1 h
  obtain⟨r',h3,rfl⟩:=Option.map_eq_some_iff.1 h2
  simp only[List.map_cons,WM (fun p hp=>hk p (List.mem_cons_of_mem _ hp)) h3]
theorem ahe {d:Nat} {es es':List (AV×AV)} (hd:FT es) (h:A.pq σ n d es=some es'):FT es':=by
 have e:=WM hd.1 h
 refine⟨fun p hp=>?_,by rw[e];exact hd.2⟩
 have:p.1∈es.map (·.1):=by rw[←e];exact List.mem_map_of_mem hp
 obtain⟨q,hq,e2⟩:=List.mem_map.1 this
 rw[←e2]
 exact hd.1 q hq
mutual
theorem FD (h:wE c c' σ n) (d:Nat) (hos:∀av cU v,Dn av=true→A.bw σ n d av=some cU→ak c av v→ak c' cU v):∀(av cU:AV) (v:Value),A.bw σ n d av=some cU→ak c av v→ak c' cU v
 |.undef,cU,v,e,r=>by cases d<;>simp [A.bw]at e
 |.int k m,cU,v,e,r=>by
  have:cU=.int k m:=by cases d<;>simpa [A.bw]using e.symm
  subst this;simpa [ak]using r
 |.bool b,cU,v,e,r=>by
  have:cU=.bool b:=by cases d<;>simpa [A.bw]using e.symm
  subst this;simpa [ak]using r
 |.str s,cU,v,e,r=>by
  have:cU=.str s:=by cases d<;>simpa [A.bw]using e.symm
  subst this;simpa [ak]using r
 |.au,cU,v,e,r=>by
  have:cU=.au:=by cases d<;>simpa [A.bw]using e.symm
  subst this;simpa [ak]using r
 |.ez,cU,v,e,r=>by
  have:cU=.ez:=by cases d<;>simpa [A.bw]using e.symm
  subst this;simpa [ak]using r
 |.np,cU,v,e,r=>by
  have:cU=.np:=by cases d<;>simpa [A.bw]using e.symm
  subst this;simpa [ak]using r
 |.nm,cU,v,e,r=>by
  have:cU=.nm:=by cases d<;>simpa [A.bw]using e.symm
  subst this;simpa [ak]using r
 |.y9,cU,v,e,r=>by
  have:cU=.y9:=by cases d<;>simpa [A.bw]using e.symm
  subst this;simpa [ak]using r
 |.agg cs,cU,v,e,r=>by
  have e':(A.eO σ n d cs).map .agg=some cU:=by cases d<;>simpa [A.bw]using e
  obtain⟨cs',h1,rfl⟩:=Option.map_eq_some_iff.1 e'
  simp only[ak]at r ⊢
  obtain⟨vs,e,r1,r2⟩:=r
  exact⟨vs,e,Fm h d hos cs cs' _ h1 r1,r2⟩
 |.aG cs,cU,v,e,r=>by
  have e':(A.eO σ n d cs).map .aG=some cU:=by cases d<;>simpa [A.bw]using e
  obtain⟨cs',h1,rfl⟩:=Option.map_eq_some_iff.1 e'
  simp only[ak]at r ⊢
  obtain⟨vs,e,r1⟩:=r
  exact⟨vs,e,Fm h d hos cs cs' _ h1 r1⟩
 |.sl sz es,cU,v,e,r=>by
  have e':(A.jh σ n d es).map (.sl sz)=some cU:=by cases d<;>simpa [A.bw]using e
  obtain⟨es',h1,rfl⟩:=Option.map_eq_some_iff.1 e'
  simp only[ak]at r ⊢
  obtain⟨q,cap,e,k1,k2,r⟩:=r
  have hl:es'.length=es.length:=Hu d es es' h1
  refine⟨q,cap,by rw[hl];exact e,by rw[hl];exact k1,k2,?_⟩
  rcases r with r|⟨b,off,e2,hb,hx,r⟩
  ·left;subst r;simpa using hl
  ·right;exact⟨b,off,e2,by rw[h.w];exact hb,fun k=>hx (h.X b k),Hx h d hos sz b es es' off h1 r⟩
 |.rp cs,cU,v,e,r=>by
  have e':(A.eO σ n d cs).map .rp=some cU:=by cases d<;>simpa [A.bw]using e
  obtain⟨cs',h1,rfl⟩:=Option.map_eq_some_iff.1 e'
  simp only[ak]at r ⊢
  obtain⟨b,off,e2,hb,hx,r⟩:=r
  exact⟨b,off,e2,by rw[h.w];exact hb,fun k=>hx (h.X b k),Fk h d hos b cs cs' off h1 r⟩
 |.fm es,cU,v,e,r=>by
  have e':(A.pq σ n d es).map .fm=some cU:=by cases d<;>simpa [A.bw]using e
  obtain⟨es',h1,rfl⟩:=Option.map_eq_some_iff.1 e'
  simp only[ak]at r ⊢
  obtain⟨b,e2,hb,hx,bl,clock,k1,kw,l,k2,k3⟩:=r
  exact⟨b,e2,by rw[h.w];exact hb,fun k=>hx (h.X b k),bl,clock,by rw[h.w];exact k1,kw,l,LF h d hos es es' _ h1 k2,k3.imp_right fun q=>⟨q.1,ahe q.2 h1⟩⟩
 |.op id off,cU,v,e,r=>hos _ cU v rfl e r
 |.oe id g i off,cU,v,e,r=>hos _ cU v rfl e r
 |.om id,cU,v,e,r=>hos _ cU v rfl e r
 |.fn f cs,cU,v,e,r=>by
  have e':(A.eO σ n d cs).map (.fn f)=some cU:=by cases d<;>simpa [A.bw]using e
  obtain⟨cs',h1,rfl⟩:=Option.map_eq_some_iff.1 e'
  simp only[ak]at r ⊢
  obtain⟨g,vs,e,k,r1⟩:=r
  exact⟨g,vs,e,by rw[h.nm];exact k,Fm h d hos cs cs' _ h1 r1⟩
 |.lbx cs,cU,v,e,r=>by cases d<;>simp [A.bw]at e
 |.os id g sz off len,cU,v,e,r=>hos _ cU v rfl e r
theorem Fm (h:wE c c' σ n) (d:Nat) (hos:∀av cU v,Dn av=true→A.bw σ n d av=some cU→ak c av v→ak c' cU v):∀(l l':List AV) (vs:List Value),A.eO σ n d l=some l'→aI c l vs→aI c' l' vs
 |[],l',vs,e,r=>by simp only[A.eO]at e;injection e with e;subst e;simpa [aI]using r
 |x::l,l',vs,e,r=>by
  simp only[A.eO]at e
  obtain⟨y,h1,h2⟩:=Option.bind_eq_some_iff.1 e
  obtain⟨l2,h3,rfl⟩:=Option.map_eq_some_iff.1 h2
  simp only[aI]at r ⊢
  obtain⟨v,vs',e,r1,r2⟩:=r
  exact⟨v,vs',e,FD h d hos x y v h1 r1,Fm h d hos l l2 vs' h3 r2⟩
theorem LF (h:wE c c' σ n) (d:Nat) (hos:∀av cU v,Dn av=true→A.bw σ n d av=some cU→ak c av v→ak c' cU v):∀(l l':List (AV×AV)) (es:List MapEntry),A.pq σ n d l=some l'→cA c l es→cA c' l' es
 |[],l',es,e,r=>by simp only[A.pq]at e;injection e with e;subst e;simpa [cA]using r
 |(k,v)::l,l',es,e,r=>by
  simp only[A.pq]at e
  obtain⟨k',h1,h2⟩:=Option.bind_eq_some_iff.1 e
  obtain⟨v',h3,h4⟩:=Option.bind_eq_some_iff.1 h2
  obtain⟨l2,h5,rfl⟩:=Option.map_eq_some_iff.1 h4
  simp only[cA]at r ⊢
  obtain⟨x,es',e,r1,r2,r3⟩:=r
  exact⟨x,es',e,FD h d hos k k' _ h1 r1,FD h d hos v v' _ h3 r2,LF h d hos l l2 es' h5 r3⟩
theorem Fk (h:wE c c' σ n) (d:Nat) (hos:∀av cU v,Dn av=true→A.bw σ n d av=some cU→ak c av v→ak c' cU v) (b:Nat):∀(l l':List AV) (off:Nat),A.eO σ n d l=some l'→bu c b off l→bu c' b off l'
 |[],l',off,e,r=>by simp only[A.eO]at e;injection e with e;subst e;simp [bu]
 |x::l,l',off,e,r=>by
  simp only[A.eO]at e
  obtain⟨y,h1,h2⟩:=Option.bind_eq_some_iff.1 e
  obtain⟨l2,h3,rfl⟩:=Option.map_eq_some_iff.1 h2
  simp only[bu]at r ⊢
  obtain⟨⟨v,e1,e2,r1⟩,r2⟩:=r
  exact⟨⟨v,by rw[h.w];exact e1,e2,FD h d hos x y v h1 r1⟩,Fk h d hos b l l2 (off+1) h3 r2⟩
theorem Hx (h:wE c c' σ n) (d:Nat) (hos:∀av cU v,Dn av=true→A.bw σ n d av=some cU→ak c av v→ak c' cU v) (sz b:Nat):∀(l l':List (List AV)) (off:Nat),A.jh σ n d l=some l'→bB c sz b off l→bB c' sz b off l'
 |[],l',off,e,r=>by simp only[A.jh]at e;injection e with e;subst e;simp [bB]
 |x::l,l',off,e,r=>by
  simp only[A.jh]at e
  obtain⟨y,h1,h2⟩:=Option.bind_eq_some_iff.1 e
  obtain⟨l2,h3,rfl⟩:=Option.map_eq_some_iff.1 h2
  simp only[bB]at r ⊢
  exact⟨by rw[Qe d x y h1];exact r.1,Fk h d hos b x y off h1 r.2.1,Hx h d hos sz b l l2 (off+sz) h3 r.2.2⟩
end
structure xm (c0 c c' : RC) : Prop where
 w:c'.w=c.w
 nm:c'.nm=c.nm
 X:∀b,c'.X b→c.X b
 E:∀(id:Nat) (p0 p:Pl),c0.E[id]? =some p0→c.E[id]? =some p→c'.E[id]? =some p
mutual
theorem Fy {c0 c c':RC} (h:xm c0 c c'):∀(av:AV) (v0 v:Value),ak c0 av v0→ak c av v→ak c' av v
 |.undef,v0,v,r0,r=>by simp [ak]
 |.int k m,v0,v,r0,r=>by simpa [ak]using r
 |.bool b,v0,v,r0,r=>by simpa [ak]using r
 |.str s,v0,v,r0,r=>by simpa [ak]using r
 |.au,v0,v,r0,r=>by simpa [ak]using r
 |.ez,v0,v,r0,r=>by simpa [ak]using r
 |.np,v0,v,r0,r=>by simpa [ak]using r
 |.nm,v0,v,r0,r=>by simpa [ak]using r
 |.fm es,v0,v,r0,r=>by
  simp only[ak]at r0 r ⊢
  obtain⟨_,_,_,_,_,_,_,_,_,r0,_⟩:=r0
  obtain⟨b,e,hb,hx,bl,clock,k1,kw,l,k2,k3⟩:=r
  exact⟨b,e,by rw[h.w];exact hb,fun k=>hx (h.X b k),bl,clock,by rw[h.w];exact k1,kw,l,Lz h es _ _ r0 k2,k3⟩
 |.y9,v0,v,r0,r=>by simpa [ak]using r
 |.agg cs,v0,v,r0,r=>by
  simp only[ak]at r0 r ⊢
  obtain⟨CE,_,Ew,_⟩:=r0
  obtain⟨vs,e,r1,r2⟩:=r
  exact⟨vs,e,Ly h cs _ _ Ew r1,r2⟩
 |.aG cs,v0,v,r0,r=>by
  simp only[ak]at r0 r ⊢
  obtain⟨CE,_,Ew⟩:=r0
  obtain⟨vs,e,r1⟩:=r
  exact⟨vs,e,Ly h cs _ _ Ew r1⟩
 |.sl sz es,v0,v,r0,r=>by
  simp only[ak]at r0 r ⊢
  obtain⟨_,_,_,_,_,r0⟩:=r0
  obtain⟨q,cap,e,k1,k2,r⟩:=r
  refine⟨q,cap,e,k1,k2,?_⟩
  rcases r with r|⟨b,off,e2,hb,hx,r⟩
  ·exact .inl r
  ·rcases r0 with r0|⟨b0,rU,_,_,_,r0⟩
   ·exact .inl r0
   ·exact .inr ⟨b,off,e2,by rw[h.w];exact hb,fun k=>hx (h.X b k),Lx h sz b0 b es rU off r0 r⟩
 |.rp cs,v0,v,r0,r=>by
  simp only[ak]at r0 r ⊢
  obtain⟨b0,rU,_,_,_,r0⟩:=r0
  obtain⟨b,off,e2,hb,hx,r⟩:=r
  exact⟨b,off,e2,by rw[h.w];exact hb,fun k=>hx (h.X b k),Hw h b0 b cs rU off r0 r⟩
 |.op id off,v0,v,r0,r=>by
  simp only[ak]at r0 r ⊢
  obtain⟨p0,e0,_⟩:=r0
  obtain⟨p,e1,e2,e3⟩:=r
  exact⟨p,h.E id p0 p e0 e1,e2,e3⟩
 |.oe id g i off,v0,v,r0,r=>by
  simp only[ak]at r0 r ⊢
  obtain⟨_,p0,e0,_⟩:=r0
  obtain⟨hg,p,e1,e2⟩:=r
  exact⟨hg,p,h.E id p0 p e0 e1,e2⟩
 |.os id g sz off len,v0,v,r0,r=>by
  simp only[ak]at r0 r ⊢
  obtain⟨_,p0,e0,_⟩:=r0
  obtain⟨hg,p,e1,e2⟩:=r
  exact⟨hg,p,h.E id p0 p e0 e1,e2⟩
 |.om id,v0,v,r0,r=>by
  simp only[ak]at r0 r ⊢
  obtain⟨p0,e0,_⟩:=r0
  obtain⟨p,e1,e2,e3⟩:=r
  exact⟨p,h.E id p0 p e0 e1,e2,e3⟩
 |.fn f cs,v0,v,r0,r=>by
  simp only[ak]at r0 r ⊢
  obtain⟨_,_,_,_,r0⟩:=r0
  obtain⟨g,vs,e1,e2,r⟩:=r
  exact⟨g,vs,e1,by rw[h.nm];exact e2,Ly h cs _ _ r0 r⟩
 |.lbx cs,v0,v,r0,r=>by simp [ak]at r
theorem Ly {c0 c c':RC} (h:xm c0 c c'):∀(l:List AV) (CE vs:List Value),aI c0 l CE→aI c l vs→aI c' l vs
 |[],CE,vs,r0,r=>by simpa [aI]using r
 |x::l,CE,vs,r0,r=>by
  simp only[aI]at r0 r ⊢
  obtain⟨v0,us0,_,Ew,T0⟩:=r0
  obtain⟨v,us,e,r1,r2⟩:=r
  exact⟨v,us,e,Fy h x _ _ Ew r1,Ly h l _ _ T0 r2⟩
theorem Lz {c0 c c':RC} (h:xm c0 c c'):∀(l:List (AV×AV)) (jy es:List MapEntry),cA c0 l jy→cA c l es→cA c' l es
 |[],jy,es,r0,r=>by simpa [cA]using r
 |(k,v)::l,jy,es,r0,r=>by
  simp only[cA]at r0 r ⊢
  obtain⟨e0,anJ,_,k1,k2,k3⟩:=r0
  obtain⟨e,es',e1,j1,j2,j3⟩:=r
  exact⟨e,es',e1,Fy h k _ _ k1 j1,Fy h v _ _ k2 j2,Lz h l anJ es' k3 j3⟩
theorem Hw {c0 c c':RC} (h:xm c0 c c') (b0 b:Nat):∀(l:List AV) (rU off:Nat),bu c0 b0 rU l→bu c b off l→bu c' b off l
 |[],rU,off,r0,r=>by simp [bu]
 |x::l,rU,off,r0,r=>by
  simp only[bu]at r0 r ⊢
  obtain⟨⟨v0,_,_,Ew⟩,T0⟩:=r0
  obtain⟨⟨v,e1,e2,r1⟩,r2⟩:=r
  exact⟨⟨v,by rw[h.w];exact e1,e2,Fy h x _ _ Ew r1⟩,Hw h b0 b l _ _ T0 r2⟩
theorem Lx {c0 c c':RC} (h:xm c0 c c') (sz b0 b:Nat):∀(l:List (List AV)) (rU off:Nat),bB c0 sz b0 rU l→bB c sz b off l→bB c' sz b off l
 |[],rU,off,r0,r=>by simp [bB]
 |x::l,rU,off,r0,r=>by
  simp only[bB]at r0 r ⊢
  exact⟨r.1,Hw h b0 b x _ _ r0.2.1 r.2.1,Lx h sz b0 b l _ _ r0.2.2 r.2.2⟩
end
theorem Lw {c0 c c':RC} (h:xm c0 c c') {p0 p:Pl} {x:aJ} (k0:oP c0 p0 x) (k:oP c p x):oP c' p x:=by
 cases x with
 |box cs=>
  obtain⟨h1,⟨⟨arr,t,h2,h3⟩,h4⟩⟩:=k
  exact⟨h1,⟨arr,t,by rw[h.w];exact h2,h3⟩,Hw h _ _ cs _ _ k0.2.2 h4⟩
 |arr g sz es=>
  obtain⟨h1,h2,h3,h4,⟨arr,t,h5,h6⟩,h7,h8,h9⟩:=k
  obtain⟨_,_,_,_,_,_,k8,_⟩:=k0
  exact⟨h1,h2,h3,h4,⟨arr,t,by rw[h.w];exact h5,h6⟩,h7,Lx h sz _ _ es _ _ k8 h8,fun arr t fz e=>h9 arr t fz (by rw[←h.w];exact e)⟩
 |sR g sz es=>
  obtain⟨h1,h2,h3,h4,⟨arr,t,h5,h6⟩,h7,h8,h9⟩:=k
  obtain⟨_,_,_,_,_,_,k8,_⟩:=k0
  exact⟨h1,h2,h3,h4,⟨arr,t,by rw[h.w];exact h5,h6⟩,h7,Lx h sz _ _ es _ _ k8 h8,fun arr t fz e=>h9 arr t fz (by rw[←h.w];exact e)⟩
 |map es=>
  obtain⟨h1,bl,clock,h2,hw,h3⟩:=k
  obtain⟨_,_,_,_,_,k3⟩:=k0
  exact⟨h1,bl,clock,by rw[h.w];exact h2,hw,Lz h es _ _ k3 h3⟩
 |it cur left=>
  obtain⟨h1,h2⟩:=k
  obtain⟨_,k2⟩:=k0
  refine⟨h1,?_⟩
  rcases h2 with⟨h2,h2',since,seen,last,h3⟩|⟨m,seen,bl,clock,h3,h4,h5,h6,h7,h8,h9⟩
  ·exact .inl ⟨h2,h2',since,seen,last,by rw[h.w];exact h3⟩
  ·rcases k2 with⟨q1,q2,_⟩|⟨m0,apH,apC,apz,q3,q4,q5,q6,q7,q8,q9⟩
   ·refine .inr ⟨m,seen,bl,clock,by rw[h.w];exact h3,by rw[h.w];exact h4,fun k=>h5 (h.X m k),by rw[h.w];exact h6,h7,by rw[q2]at h8 ⊢;exact h8,.inl q1⟩
   ·refine .inr ⟨m,seen,bl,clock,by rw[h.w];exact h3,by rw[h.w];exact h4,fun k=>h5 (h.X m k),by rw[h.w];exact h6,h7,(by obtain⟨l0,q8,_⟩:=q8;obtain⟨l,h8,hp⟩:=h8;exact⟨l,Lz h left _ _ q8 h8,hp⟩),?_⟩
    rcases h9 with h9|⟨kk,v,e,e1,e2,e3,e4,e5⟩
    ·exact .inl h9
    ·rcases q9 with q9|⟨kk',v',e',f1,f2,f3,f4,f5⟩
     ·exact .inl q9
     ·rw[e1]at f1
      simp only[List.cons.injEq,Prod.mk.injEq,and_true]at f1
      obtain⟨rfl,rfl⟩:=f1
      exact .inr ⟨_,_,e,e1,e2,e3,Fy h _ _ _ f4 e4,Fy h _ _ _ f5 e5⟩
def anM:aJ→Nat
 |.arr g _ _=>g
 |.sR g _ _=>g
 |_=>0
theorem Qu {c:RC} {p:Pl} {x:aJ} (k:oP c p x):p.g=anM x:=by cases x<;>exact k.1
theorem Yz {c0 c c':RC} (h:xm c0 c c') (sz b:Nat):∀(l:List (List AV)) (off:Nat),(∀y∈l,∃b0 o0,bu c0 b0 o0 y)→bB c sz b off l→bB c' sz b off l
 |[],off,h0,r=>by simp [bB]
 |x::l,off,h0,r=>by
  simp only[bB]at r ⊢
  obtain⟨b0,o0,k⟩:=h0 x (by simp)
  exact⟨r.1,Hw h b0 b x _ _ k r.2.1,Yz h sz b l _ (fun y hy=>h0 y (by simp [hy])) r.2.2⟩
theorem Yf {c:RC}:∀{args:List AV} {vs:List Value},aI c args vs→∀y∈A.rowsOf args,∃b0 o0,bu c b0 o0 y
 |[],_,_,y,hy=>by simp [A.rowsOf]at hy
 |a::args,vs,h,y,hy=>by
  simp only[aI]at h
  obtain⟨v,vs',rfl,h1,h2⟩:=h
  simp only[A.rowsOf,List.mem_append]at hy
  rcases hy with hy|hy
  ·cases a<;>simp only[List.not_mem_nil]at hy
   rename_i sz es
   simp only[ak]at h1
   obtain⟨a,cap,rfl,_,_,h3⟩:=h1
   rcases h3 with h3|⟨b,off,_,_,_,h4⟩
   ·rw[h3]at hy;cases hy
   ·obtain⟨i,hi⟩:=List.mem_iff_getElem?.1 hy
    exact⟨_,_,(bB.nth h4 hi).2⟩
  ·exact Yf h2 y hy
theorem yu (h:wE c c' σ n):∀(d:Nat) (av cU:AV) (v:Value),A.bw σ n d av=some cU→ak c av v→ak c' cU v
 |0=>FD h 0 (fun av cU v ho e r=>by cases av<;>first|(simp [A.bw]at e;done)|(simp [Dn]at ho;done))
 |d+1=>FD h (d+1) (fun av cU v ho e r=>match av,ho,e,r with
  |.op id off,_,e,r=>by
   simp only[A.bw]at e
   simp only[ak]at r
   obtain⟨p,h1,h2,rfl⟩:=r
   split at e
   ·rename_i hlt
    injection e with e;subst e
    simp only[ak]
    exact⟨p,h.E id p hlt h1,h2,rfl⟩
   ·rename_i hge
    split at e
    ·rename_i cs hs
     obtain⟨cs',e1,rfl⟩:=Option.map_eq_some_iff.1 e
     rw[L4]at e1
     obtain⟨j1,⟨⟨arr,t,j2,j3⟩,j4⟩⟩:=h.heap.blk id p _ h1 hs
     simp only[ak]
     refine⟨p.b,off,rfl,by rw[h.w];exact(Array.getElem?_eq_some_iff.1 j2).1,h.MP id p (by omega) h1,?_⟩
     have j5:=j4.drop off
     rw[Nat.zero_add]at j5
     exact Fk h d (fun av cU v _ e r=>yu h d _ _ _ e r) p.b _ cs' _ e1 j5
    ·cases e
  |.oe id g i off,_,e,r=>by
   simp only[A.bw]at e
   simp only[ak]at r
   obtain⟨hg,p,h1,h2,a,rfl,h3⟩:=r
   split at e
   ·rename_i hlt
    injection e with e;subst e
    simp only[ak]
    exact⟨hg,p,h.E id p hlt h1,h2,a,rfl,h3⟩
   ·rename_i hge
    split at e
    ·rename_i g' sz' es hs
     split at e
     ·rename_i hc
      subst hc
      split at e
      ·rename_i el hel
       obtain⟨cs',e1,rfl⟩:=Option.map_eq_some_iff.1 e
       rw[L4]at e1
       obtain⟨j1,j2,j3,j4,⟨arr,bt,j5,j6⟩,j7,j8,j9⟩:=h.heap.blk id p _ h1 hs
       have ha:=h3 j1.symm
       subst ha
       simp only[ak]
       refine⟨p.b,_,rfl,by rw[h.w];exact(Array.getElem?_eq_some_iff.1 j5).1,h.MP id p (by omega) h1,?_⟩
       rw[j3]
       have j9:=(j8.nth hel).2.drop off
       exact Fk h d (fun av cU v _ e r=>yu h d _ _ _ e r) p.b _ cs' _ e1 j9
      ·cases e
     ·cases e
    ·cases e
  |.om id,_,e,r=>by
   simp only[A.bw]at e
   simp only[ak]at r
   obtain⟨p,h1,h2,rfl⟩:=r
   split at e
   ·rename_i hlt
    injection e with e;subst e
    simp only[ak]
    exact⟨p,h.E id p hlt h1,h2,rfl⟩
   ·rename_i hge
    split at e
    ·rename_i es hs
     obtain⟨es',e1,rfl⟩:=Option.map_eq_some_iff.1 e
     rw[YF]at e1
     obtain⟨j1,bl,clock,j2,jw,j3⟩:=h.heap.blk id p _ h1 hs
     simp only[ak]
     exact⟨p.b,rfl,by rw[h.w];exact(Array.getElem?_eq_some_iff.1 j2).1,h.MP id p (by omega) h1,bl,clock,by rw[h.w];exact j2,jw,_,LF h d (fun av cU v _ e r=>yu h d _ _ _ e r) _ es' _ e1 j3,.inl rfl⟩
    ·cases e
  |.os id g sz off len,_,e,r=>by
   simp only[A.bw]at e
   simp only[ak]at r
   obtain⟨hg,p,h1,h2,q,cap,rfl,h3,r⟩:=r
   split at e
   ·rename_i hlt
    injection e with e;subst e
    simp only[ak]
    exact⟨hg,p,h.E id p hlt h1,h2,q,cap,rfl,h3,r⟩
   ·rename_i hge
    split at e
    ·rename_i g' sz' es hs
     split at e
     ·rename_i hc
      obtain⟨rfl,rfl,hle⟩:=hc
      obtain⟨es',e1,rfl⟩:=Option.map_eq_some_iff.1 e
      rw[Fl]at e1
      obtain⟨j1,j2,j3,j4,⟨arr,bt,j5,j6⟩,j7,j8,j9⟩:=h.heap.blk id p _ h1 hs
      obtain⟨k1,k2,k3⟩:=r j1.symm
      have hl:=Hu d _ _ e1
      have uz:((es.drop off).take len).length=len:=by simp;omega
      simp only[ak]
      refine⟨some q,cap,by rw[hl,uz],by rw[hl,uz];exact h3,j4,?_⟩
      by_cases hz:len=0
      ·left;apply List.eq_nil_of_length_eq_zero;rw[hl,uz,hz]
      ·right
       have hq:q=⟨p.b,p.base+off*p.sz,none⟩:=by
        rcases k2 with k2|k2
        ·omega
        ·exact k2
       refine⟨p.b,p.base+off*p.sz,by rw[hq],by rw[h.w];exact(Array.getElem?_eq_some_iff.1 j5).1,h.MP id p (by omega) h1,?_⟩
       refine Hx h d (fun av cU v _ e r=>yu h d _ _ _ e r) sz p.b _ es' _ e1 ?_
       rw[j3]
       exact(j8.drop off).take len
     ·cases e
    ·cases e)
end
section
variable {c c' : RC} {σ : Heap} {n : Nat}
theorem ahG {es es':List (AV×AV)} (hp:es.Perm es'):∀{l:List MapEntry},cA c es l→∃l',cA c es' l'∧l'.Perm l:=by
 induction hp with
 |nil=>intro l h;exact⟨l,h,.refl _⟩
 |cons x _ ih=>
  intro l h
  obtain⟨e,l1,rfl,h2,h3,h4⟩:=h
  obtain⟨l',k1,k2⟩:=ih h4
  exact⟨e::l',⟨_,_,rfl,h2,h3,k1⟩,k2.cons e⟩
 |swap x y l0=>
  intro l h
  obtain⟨e,l1,rfl,h2,h3,e',l2,rfl,h4,h5,h6⟩:=h
  exact⟨e'::e::l2,⟨_,_,rfl,h4,h5,_,_,rfl,h2,h3,h6⟩,.swap _ _ _⟩
 |trans _ _ ih1 ih2=>
  intro l h
  obtain⟨l1,k1,k2⟩:=ih1 h
  obtain⟨l2,k3,k4⟩:=ih2 k1
  exact⟨l2,k3,k4.trans k2⟩
theorem PN (es:List (AV×AV)):(A.yM es).Perm es:=Classical.choose_spec (p:=fun l:List (AV×AV)=>l.Perm es) ⟨es,.refl _⟩
theorem Wx {es es':List (AV×AV)} (h:es.Perm es'):A.yM es=A.yM es':=by
 have:(fun l:List (AV×AV)=>l.Perm es)=fun l=>l.Perm es':=funext fun l=>propext ⟨fun q=>q.trans h,fun q=>q.trans h.symm⟩
 unfold A.yM
 congr 1
theorem ajy {x:AV} {v:Value} (r:ak c x v):ak c (A.can x) v:=by
 cases x<;>try exact r
 case fm es=>
  unfold A.can
  simp only
  split
  ·rename_i hd
   simp only[ak]at r ⊢
   obtain⟨b,e,hb,hx,bl,clock,k1,kw,l,k2,k3⟩:=r
   have hp:=PN es
   obtain⟨l',j1,j2⟩:=ahG hp.symm k2
   refine⟨b,e,hb,hx,bl,clock,k1,kw,l',j1,.inr ⟨?_,?_⟩⟩
   ·rcases k3 with rfl|⟨k3,_⟩
    ·exact j2
    ·exact j2.trans k3
   ·exact⟨fun p hp'=>hd.1 p (hp.mem_iff.1 hp'),(hp.map _).nodup_iff.2 hd.2⟩
  ·exact r
theorem PK {b:Nat}:∀{l:List AV} {off:Nat},bu c b off l→bu c b off (l.map A.can)
 |[],off,_=>by simp [bu]
 |x::l,off,r=>by
  simp only[List.map_cons,bu]at r ⊢
  obtain⟨⟨v,h1,h2,h3⟩,h4⟩:=r
  exact⟨⟨v,h1,h2,ajy h3⟩,PK h4⟩
theorem PL {sz b:Nat}:∀{l:List (List AV)} {off:Nat},bB c sz b off l→bB c sz b off (l.map (·.map A.can))
 |[],off,_=>by simp [bB]
 |x::l,off,r=>by
  simp only[List.map_cons,bB,List.length_map]at r ⊢
  exact⟨r.1,PK r.2.1,PL r.2.2⟩
theorem aiy (h:wE c c' σ n) {p:Pl} {x x':aJ} (e:A.Cg σ n x=some x') (k:oP c p x):oP c' p x':=by
 have hos:∀av cU v,Dn av=true→A.bw σ n 8 av=some cU→ak c av v→ak c' cU v:=fun av cU v _ e r=>yu h 8 _ _ _ e r
 cases x with
 |box cs=>
  obtain⟨cs',e1,rfl⟩:=Option.map_eq_some_iff.1 e
  obtain⟨h1,⟨⟨arr,t,h2,h3⟩,h4⟩⟩:=k
  exact⟨h1,⟨arr,t,by rw[h.w];exact h2,by rw[List.length_map,Qe 8 _ _ e1];exact h3⟩,PK (Fk h 8 hos _ _ _ _ e1 h4)⟩
 |arr g sz es=>
  obtain⟨es',e1,rfl⟩:=Option.map_eq_some_iff.1 e
  obtain⟨h1,h2,h3,h4,⟨arr,t,h5,h6⟩,h7,h8,h9⟩:=k
  exact⟨h1,h2,h3,h4,⟨arr,t,by rw[h.w];exact h5,h6⟩,by rw[List.length_map,Hu 8 _ _ e1];exact h7,PL (Hx h 8 hos _ _ _ _ _ e1 h8),fun arr t fz e=>h9 arr t fz (by rw[←h.w];exact e)⟩
 |sR g sz es=>
  obtain⟨es',e1,rfl⟩:=Option.map_eq_some_iff.1 e
  obtain⟨h1,h2,h3,h4,⟨arr,t,h5,h6⟩,h7,h8,h9⟩:=k
  exact⟨h1,h2,h3,h4,⟨arr,t,by rw[h.w];exact h5,h6⟩,by rw[List.length_map,Hu 8 _ _ e1];exact h7,PL (Hx h 8 hos _ _ _ _ _ e1 h8),fun arr t fz e=>h9 arr t fz (by rw[←h.w];exact e)⟩
 |map es=>
  obtain⟨es',e1,rfl⟩:=Option.map_eq_some_iff.1 e
  obtain⟨h1,bl,clock,h2,hwf,h3⟩:=k
  exact⟨h1,bl,clock,by rw[h.w];exact h2,hwf,LF h 8 hos _ _ _ e1 h3⟩
 |it cur left=>cases e
theorem WJ {n:Nat}:∀{NA NB τ:Heap},A.ve σ n NA NB=some τ→τ.length=NA.length∧NA.length≤NB.length∧∀(i:Nat) x,τ[i]? =some x→∃b b',NA[i]? =some b∧NB[i]? =some b'∧((b'=b∧x=b)∨A.Cg σ n b'=some x)
 |[],NB,τ,h=>by simp only[A.ve]at h;injection h with h;subst h;simp
 |_::_,[],τ,h=>by simp [A.ve]at h
 |b::r,b'::r',τ,h=>by
  simp only[A.ve]at h
  obtain⟨y,h1,h2⟩:=Option.bind_eq_some_iff.1 h
  obtain⟨JT,h3,rfl⟩:=Option.map_eq_some_iff.1 h2
  obtain⟨k1,k2,k3⟩:=WJ h3
  refine⟨by simp [k1],by simp;omega,fun i x hi=>?_⟩
  cases i with
  |zero=>
   simp only[List.getElem?_cons_zero,Option.some.injEq]at hi
   subst hi
   refine⟨b,b',rfl,rfl,?_⟩
   split at h1
   ·rename_i e
    injection h1 with h1
    exact .inl ⟨e,h1.symm⟩
   ·exact .inr h1
  |succ i=>exact k3 i x hi
end
section
variable {X : Fx}
def qE.Ok:qE→Prop
 |.N g=>∀c a v,ak c a v→ak c (g a) v
 |_=>True
theorem CW (hs:dD X) {f:FuncId} {fn:Func} {keep:qE} (hkeep:keep.Ok) {bL:mE} {args:List AV} {σ σ':Heap} {r:AV} (hf:X.P.funcs[f]? =some fn) (amg:∀cO w,(callFunc f cO).run X.P w=.ok (.enter f cO) w)
  (hr:qJ X keep bL fn args σ=some (r,σ')):mU X.P X.nm f args σ r σ':=by
 refine .inl ⟨f,amg,fun z vs hnm hlt hh ha=>?_⟩
 unfold qJ at hr
 cases hb:fn.body with
 |none=>rw[hb]at hr;cases hr
 |some c=>
  rw[hb]at hr
  simp only at hr
  cases hc:(Nat.ble args.length fn.ntmps&&X.n==fn.ntmps)
  ·rw[hc]at hr;cases hr
  ·rw[hc]at hr
   simp only[Bool.not_true,cond_false]at hr
   simp only[Bool.and_eq_true,beq_iff_eq]at hc
   obtain⟨hc1,uy⟩:=hc
   have hle:args.length≤fn.ntmps:=Nat.le_of_ble_eq_true hc1
   have Gw:=ha.length
   have apL:args.length=vs.size:=by simpa using Gw
   have hst:St X z ⟨args++List.replicate (fn.ntmps-args.length) (.aG []),fun _=>none,σ⟩ {tmps:=vs++Array.replicate (fn.ntmps-vs.size) undef,defers:=[]} z.w z.E cN:=by
    have aaw:∀i av,(args++List.replicate (fn.ntmps-args.length) (.aG []))[i]? =some av→ak (ctx z z.w z.E cN) av ((vs++Array.replicate (fn.ntmps-vs.size) undef).getD i undef):=by
     intro i av hi
     by_cases hlt':i<args.length
     ·rw[List.getElem?_append_left hlt']at hi
      obtain⟨v,k1,k2⟩:=ha.nth hi
      have:(vs++Array.replicate (fn.ntmps-vs.size) undef).getD i undef=v:=by
       rw[Array.getD_eq_getD_getElem?,Array.getElem?_append_left (by omega),←Array.getElem?_toList,k1];rfl
      rw[this];exact k2
     ·rw[List.getElem?_append_right (by omega)]at hi
      have hm:=List.mem_of_getElem? hi
      rw[List.mem_replicate]at hm
      rw[hm.2]
      have:(vs++Array.replicate (fn.ntmps-vs.size) undef).getD i undef=undef:=by
       rw[Array.getD_eq_getD_getElem?,Array.getElem?_append_right (by omega),Array.getElem?_replicate]
       split<;>rfl
      rw[this]
      simp only[ak];exact⟨#[],rfl,by simp [aI]⟩
    refine⟨by simp;omega,by simp;omega,fun i av hi=>Slot.of (aaw i av hi),fun i cs hi=>?_,(fun t p hp=>by cases hp),(fun i b hb=>by cases hb),(fun i j b hb=>by cases hb),hh,rfl,?_,hnm.symm⟩
    ·have:=aaw i _ hi;simp [ak]at this
    ·exact⟨rfl,rfl,rfl,Nat.le_refl _,fun _ _ _=>rfl,fun i p hp=>.inr ⟨p,hp,rfl⟩,fun i p hp=>⟨p,hp,.inl rfl⟩,hlt,fun p hp=>hh.lt hp⟩
   refine calls_of_wp hf hb (yt hs c bL _ _ _ _ _ _ _ _ hr hst fun e s' a' w' E' bN h' _ hk=>?_)
   have hno:Ext (ctx z w' E' bN) (ctx z w' E' cN):=Ext.same rfl rfl (fun b k=>by
    rcases k with k|k|⟨i,k⟩
    ·exact .inl k
    ·exact .inr (.inl k)
    ·cases k) rfl
   have aaU:∀(x:AV) (v:Value) (r:AV) (σ':Heap),ak (ctx z w' E' bN) x v→A.fin σ x s'.σ=some (r,σ')→∃jO,Out z w' jO∧iw (ctx z w' jO cN) σ'∧ak (ctx z w' jO cN) r v:=by
     intro x v r σ' rv k3
     unfold A.fin at k3
     split at k3
     ·rename_i he
      simp only[Option.some.injEq,Prod.mk.injEq]at k3
      obtain⟨rfl,rfl⟩:=k3
      exact⟨E',h'.out,by rw[←he];exact h'.heap.mono hno rfl (fun p hp=>rfl),ak.mono hno _ _ rv⟩
     ·split at k3
      ·rename_i he
       obtain⟨r',k6,k7⟩:=Option.map_eq_some_iff.1 k3
       simp only[Prod.mk.injEq]at k7
       obtain⟨rfl,rfl⟩:=k7
       have hlen:=h'.heap.len
       simp only[ctx]at hlen
       have hzl:z.E.length=σ.length:=hh.len
       have hle2:σ.length≤s'.σ.length:=by
        have:=congrArg List.length he
        simp at this;omega
       have qT:∀(id:Nat) (p:Pl),id<σ.length→E'[id]? =some p→(E'.take σ.length)[id]? =some p:=fun id p hlt' hp=>by rw[List.getElem?_take_of_lt hlt'];exact hp
       have pE:∀(id:Nat) (p:Pl),(E'.take σ.length)[id]? =some p→id<σ.length∧E'[id]? =some p:=fun id p hp=>by
        rw[List.getElem?_take]at hp
        split at hp
        ·exact⟨by assumption,hp⟩
        ·cases hp
       have sO:wE (ctx z w' E' bN) (ctx z w' (E'.take σ.length) cN) s'.σ σ.length:=by
        refine⟨rfl,rfl,fun b k=>?_,qT,h'.heap,fun id p hge hp k=>?_⟩
        ·rcases k with k|⟨p,hp,k⟩|⟨i,k⟩
         ·exact .inl k
         ·exact .inr (.inl ⟨p,List.mem_of_mem_take hp,k⟩)
         ·cases k
        ·rcases k with k|⟨q,hq,k⟩|⟨i,k⟩
         ·have hb:=hlt _ k
          rcases h'.out.fresh' id p hp with e|⟨q,hq,_⟩
          ·omega
          ·rw[List.getElem?_eq_none (by omega)]at hq;cases hq
         ·obtain⟨j,hj,rfl⟩:=List.mem_iff_getElem.1 hq
          obtain⟨h1,h2⟩:=pE j _ (List.getElem?_eq_getElem hj)
          have:=h'.heap.inj j id _ p h2 hp k
          omega
         ·cases k
       have heq:∀(id:Nat),id<σ.length→σ[id]? =s'.σ[id]? :=fun id hlt'=>by
        have h1:(List.take σ.length s'.σ)[id]? =s'.σ[id]? :=List.getElem?_take_of_lt hlt'
        rw[he]at h1;exact h1
       have held:xm (ctx z z.w z.E cN) (ctx z w' E' bN) (ctx z w' (E'.take σ.length) cN):=
        ⟨rfl,rfl,sO.X,fun id p0 p e0 e1=>qT id p (by have:=(List.getElem?_eq_some_iff.1 e0).1;simp only[ctx]at this;omega) e1⟩
       refine⟨E'.take σ.length,?_,?_,yu sO 8 _ _ _ k6 rv⟩
       ·have o:=h'.out
        exact⟨o.os,o.tape,o.output,o.size,o.stay,fun i p hp=>o.fresh' i p (pE i p hp).2,fun i p hp=>by
         obtain⟨p',m1,m2⟩:=o.env i p hp
         exact⟨p',qT i p' (by have:=(List.getElem?_eq_some_iff.1 hp).1;omega) m1,m2⟩,o.lt,o.mine⟩
       ·refine⟨by simp only[ctx,List.length_take];omega,fun i j p q hp hq e=>h'.heap.inj i j p q (pE i p hp).2 (pE j q hq).2 e,fun i p x hp hx=>?_⟩
        obtain⟨hi,hp2⟩:=pE i p hp
        have eU:z.E[i]? =some z.E[i]:=List.getElem?_eq_getElem (by omega)
        exact Lw held (hh.blk i _ x eU hx) (h'.heap.blk i p x hp2 (by rw[←heq i hi];exact hx))
      ·cases k3
   have An:∀(x:AV) (v:Value) (r:AV) (σ':Heap),ak (ctx z w' E' bN) x v→A.An σ x s'.σ=some (r,σ')→∃jO,Out z w' jO∧iw (ctx z w' jO cN) σ'∧ak (ctx z w' jO cN) r v:=by
     intro x v r σ' rv k3
     unfold A.An at k3
     obtain⟨τ,q0,k4⟩:=Option.bind_eq_some_iff.1 k3
     obtain⟨r',k6,k7⟩:=Option.map_eq_some_iff.1 k4
     simp only[Prod.mk.injEq]at k7
     obtain⟨rfl,rfl⟩:=k7
     obtain⟨q1,hle2,q3⟩:=WJ q0
     have hlen:=h'.heap.len
     simp only[ctx]at hlen
     have hzl:z.E.length=σ.length:=hh.len
     have qT:∀(id:Nat) (p:Pl),id<σ.length→E'[id]? =some p→(E'.take σ.length)[id]? =some p:=fun id p hlt' hp=>by rw[List.getElem?_take_of_lt hlt'];exact hp
     have pE:∀(id:Nat) (p:Pl),(E'.take σ.length)[id]? =some p→id<σ.length∧E'[id]? =some p:=fun id p hp=>by
      rw[List.getElem?_take]at hp
      split at hp
      ·exact⟨by assumption,hp⟩
      ·cases hp
     have sO:wE (ctx z w' E' bN) (ctx z w' (E'.take σ.length) cN) s'.σ σ.length:=by
      refine⟨rfl,rfl,fun b k=>?_,qT,h'.heap,fun id p hge hp k=>?_⟩
      ·rcases k with k|⟨p,hp,k⟩|⟨i,k⟩
       ·exact .inl k
       ·exact .inr (.inl ⟨p,List.mem_of_mem_take hp,k⟩)
       ·cases k
      ·rcases k with k|⟨q,hq,k⟩|⟨i,k⟩
       ·have hb:=hlt _ k
        rcases h'.out.fresh' id p hp with e|⟨q,hq,_⟩
        ·omega
        ·rw[List.getElem?_eq_none (by omega)]at hq;cases hq
       ·obtain⟨j,hj,rfl⟩:=List.mem_iff_getElem.1 hq
        obtain⟨h1,h2⟩:=pE j _ (List.getElem?_eq_getElem hj)
        have:=h'.heap.inj j id _ p h2 hp k
        omega
       ·cases k
     have held:xm (ctx z z.w z.E cN) (ctx z w' E' bN) (ctx z w' (E'.take σ.length) cN):=
      ⟨rfl,rfl,sO.X,fun id p0 p e0 e1=>qT id p (by have:=(List.getElem?_eq_some_iff.1 e0).1;simp only[ctx]at this;omega) e1⟩
     refine⟨E'.take σ.length,?_,?_,yu sO 8 _ _ _ k6 rv⟩
     ·have o:=h'.out
      exact⟨o.os,o.tape,o.output,o.size,o.stay,fun i p hp=>o.fresh' i p (pE i p hp).2,fun i p hp=>by
       obtain⟨p',m1,m2⟩:=o.env i p hp
       exact⟨p',qT i p' (by have:=(List.getElem?_eq_some_iff.1 hp).1;omega) m1,m2⟩,o.lt,o.mine⟩
     ·refine⟨by simp only[ctx,List.length_take];omega,fun i j p q hp hq e=>h'.heap.inj i j p q (pE i p hp).2 (pE j q hq).2 e,fun i p x hp hx=>?_⟩
      obtain⟨hi,hp2⟩:=pE i p hp
      obtain⟨b,b',m1,m2,m3⟩:=q3 i x hx
      rcases m3 with⟨rfl,rfl⟩|m3
      ·have eU:z.E[i]? =some z.E[i]:=List.getElem?_eq_getElem (by omega)
       exact Lw held (hh.blk i _ x eU m1) (h'.heap.blk i p x hp2 m2)
      ·exact aiy sO m3 (h'.heap.blk i p b' hp2 m2)
   have done:∀(hk:Aw X s' fn.results.toList (fun vs=>keep.run args σ (one vs) s'.σ)=some (r,σ')),
     a'.defers=[]∧∃v,(results fn a'.tmps).run X.P w'=.ok v w'∧∃v' E',Ending.returned v=.returned v'∧Out z w' E'∧iw (ctx z w' E' cN) σ'∧ak (ctx z w' E' cN) r v':=by
    intro hk
    refine⟨h'.defers,?_⟩
    obtain⟨us,nj,k1,k2,k3⟩:=Qk h' _ _ _ hk
    obtain⟨v,k4,k5⟩:=afl k1
    have rv:=k5 _ _ k2
    refine⟨v,k4,v,?_⟩
    have kept:∃E',Ending.returned v=.returned v∧Out z w' E'∧iw (ctx z w' E' cN) s'.σ∧ak (ctx z w' E' cN) (one nj) v:=
     ⟨E',rfl,h'.out,h'.heap.mono hno rfl (fun p hp=>rfl),ak.mono hno _ _ rv⟩
    cases keep with
    |K=>
     simp only[qE.run,Option.some.injEq,Prod.mk.injEq]at k3
     obtain⟨rfl,rfl⟩:=k3
     exact kept
    |F=>
     obtain⟨jO,q1,q2,q3⟩:=aaU _ _ _ _ rv k3
     exact⟨jO,rfl,q1,q2,q3⟩
    |G=>
     obtain⟨jO,q1,q2,q3⟩:=An _ _ _ _ rv k3
     exact⟨jO,rfl,q1,q2,q3⟩
    |N g=>
     simp only[qE.run]at k3
     obtain⟨⟨r0,aC⟩,k6,k7⟩:=Option.map_eq_some_iff.1 k3
     simp only[Prod.mk.injEq]at k7
     obtain⟨rfl,rfl⟩:=k7
     obtain⟨jO,q1,q2,q3⟩:=aaU _ _ _ _ rv k6
     exact⟨jO,rfl,q1,q2,hkeep _ _ _ q3⟩
    |R=>
     simp only[qE.run]at k3
     obtain⟨x,hx⟩:∃x,x=one nj:=⟨_,rfl⟩
     rw[←hx]at rv k3 kept
     unfold A.renew at k3
     split at k3
     ·rename_i id g sz off len
      split at k3
      ·rename_i g' sz' es hs'
       split at k3
       ·rename_i hc
        obtain⟨rfl,rfl,hle,apQ⟩:=hc
        simp only[ak]at rv
        obtain⟨hg,p,e1,e2,qa,cp,rfl,hcap,rx⟩:=rv
        obtain⟨j1,j2,j3,j4,⟨arr,bt,j5,j6⟩,j7,j8,j9⟩:=h'.heap.blk id p _ e1 hs'
        obtain⟨q1,q2,q3⟩:=rx j1.symm
        have hid:id<E'.length:=(List.getElem?_eq_some_iff.1 e1).1
        have mL:((es.drop off).take len).length=len:=by simp;omega
        have hmul:(off+len)*sz≤es.length*sz:=Nat.mul_le_mul_right _ hle
        rw[Nat.add_mul]at hmul
        split at k3
        ·simp only[Option.some.injEq,Prod.mk.injEq]at k3
         obtain⟨rfl,rfl⟩:=k3
         have nr:=h'.move (id:=id) (p:=p) (p':=⟨p.b,p.base+off*sz,A.gen args+1,sz,p.qO⟩) (w':=w') (blk:=.arr (A.gen args+1) sz ((es.drop off).take len)) e1
          ⟨by omega,by show p.g<A.gen args+1;omega⟩ rfl rfl rfl (Nat.le_refl _) (fun b _ _=>rfl) (.inl rfl) (fun hx=>by
           refine⟨rfl,by show 0<A.gen args+1;omega,rfl,j4,⟨arr,bt,j5,j6⟩,?_,?_,j9⟩
           ·rw[mL];show p.base+off*sz+len*sz≤p.qO;omega
           ·exact bB.mono hx sz p.b rfl _ _ ((j8.drop off).take len))
         have an4:Ext (ctx z w' (E'.set id ⟨p.b,p.base+off*sz,A.gen args+1,sz,p.qO⟩) bN) (ctx z w' (E'.set id ⟨p.b,p.base+off*sz,A.gen args+1,sz,p.qO⟩) cN):=Ext.same rfl rfl (fun b k=>by
          rcases k with k|k|⟨i,k⟩
          ·exact .inl k
          ·exact .inr (.inl k)
          ·cases k) rfl
         refine⟨_,rfl,nr.1.out,nr.1.heap.mono an4 rfl (fun p hp=>rfl),?_⟩
         simp only[ak]
         refine⟨by omega,⟨p.b,p.base+off*sz,A.gen args+1,sz,p.qO⟩,by simp [ctx,hid],Nat.le_refl _,qa,cp,rfl,hcap,fun _=>⟨rfl,?_,?_⟩⟩
         ·rcases q2 with q2|q2
          ·exact .inl q2
          ·exact .inr (by rw[q2,q1];simp)
         ·simp only[Nat.zero_add]
          rw[q1,Nat.add_mul]at q3;omega
        ·unfold A.merge at k3
         split at k3
         ·rename_i kg g0 SK rU SB rest _ _ _
          split at k3
          ·rename_i g1 Bb xB hs0
           split at k3
           ·rename_i FW
            obtain⟨apO,apE,rfl,hg1,hsame,hF,aoa⟩:=FW
            simp only[Option.some.injEq,Prod.mk.injEq]at k3
            obtain⟨rfl,rfl⟩:=k3
            have hzl:z.E.length=σ.length:=hh.len
            have hEl:E'.length=s'.σ.length:=h'.heap.len
            have anZ:kg<σ.length:=(List.getElem?_eq_some_iff.1 hs0).1
            obtain⟨pz,GC⟩:∃pz,z.E[kg]? =some pz:=⟨_,List.getElem?_eq_getElem (by omega)⟩
            obtain⟨y1,y2,y3,y4,y5,y6,y7,y8⟩:=hh.blk kg pz _ GC hs0
            obtain⟨p'',wT⟩:∃p'':Pl,p''=⟨p.b,p.base+off*Bb,A.gen (.os kg g0 SK rU SB::rest)+1,Bb,p.qO⟩:=⟨_,rfl⟩
            have hne:id≠kg:=by omega
            have aat:∀(j:Nat) (q p2:Pl),j≠kg→z.E[j]? =some q→E'[j]? =some p2→p2=q:=by
             intro j q p2 hj hq hp2
             have hjl:j<σ.length:=by rw[←hzl];exact(List.getElem?_eq_some_iff.1 hq).1
             obtain⟨p3,m1,m2⟩:=h'.out.env j q hq
             rw[hp2]at m1;injection m1 with m1;subst m1
             rcases m2 with m2|⟨m2,m3⟩
             ·exact m2
             ·have hsj:=hsame j hjl hj
              have hx0:σ[j]? =some σ[j]:=List.getElem?_eq_getElem hjl
              have u1:=Qu (hh.blk j q _ hq hx0)
              have u2:=Qu (h'.heap.blk j p2 _ hp2 (by rw[hsj];exact hx0))
              omega
            have Ef:∃p0,E'[kg]? =some p0:=⟨_,List.getElem?_eq_getElem (by omega)⟩
            obtain⟨p0,Ef⟩:=Ef
            have apS:p0.g=g1:=Qu (h'.heap.blk kg p0 _ Ef hF)
            have hfr:z.w.heap.size≤p.b:=by
             rcases h'.out.fresh' id p e1 with k|⟨q,hq,_⟩
             ·exact k
             ·rw[List.getElem?_eq_none (by omega)]at hq;cases hq
            have hm:p∈E':=List.mem_of_getElem? e1
            have hx:Ext (ctx z w' E' bN) (ctx z w' (E'.set kg p'') cN):=by
             refine⟨Nat.le_refl _,fun b hb hn=>⟨rfl,?_⟩,fun j q hq=>?_,rfl⟩
             ·rintro(k|⟨q,hq,k⟩|⟨i,k⟩)
              ·exact hn (.inl k)
              ·rcases List.mem_or_eq_of_mem_set hq with hq|hq
               ·exact hn (.inr (.inl ⟨q,hq,k⟩))
               ·exact hn (.inr (.inl ⟨p,hm,by rw[←k,hq,wT]⟩))
              ·cases k
             ·by_cases e:kg=j
              ·subst e
               simp only[ctx]at hq
               rw[Ef]at hq;injection hq with hq;subst hq
               exact⟨p'',by simp only[ctx];rw[List.getElem?_set_self (List.getElem?_eq_some_iff.1 Ef).1],.inr ⟨by omega,by rw[wT];show p0.g<A.gen (.os kg g0 SK rU SB::rest)+1;omega⟩⟩
              ·exact⟨q,by simp only[ctx]at hq ⊢;rw[List.getElem?_set_ne e];exact hq,.inl rfl⟩
            have I4:∀(j:Nat) (q:Pl),(z.E.set kg p'')[j]? =some q→(j=kg∧q=p'')∨(j≠kg∧z.E[j]? =some q):=fun j q hq=>by
             by_cases e:kg=j
             ·subst e;rw[List.getElem?_set_self (List.getElem?_eq_some_iff.1 GC).1]at hq;injection hq with hq;exact .inl ⟨rfl,hq.symm⟩
             ·rw[List.getElem?_set_ne e]at hq;exact .inr ⟨fun e'=>e e'.symm,hq⟩
            have hE3:∀(j:Nat) (q:Pl),j≠kg→z.E[j]? =some q→E'[j]? =some q:=fun j q hj hq=>by
             have hjl:j<z.E.length:=(List.getElem?_eq_some_iff.1 hq).1
             obtain⟨p3,m1,_⟩:=h'.out.env j q hq
             rw[m1,aat j q p3 hj hq m1]
            have held:xm (ctx z z.w z.E cN) (ctx z w' (E'.set kg p'') cN) (ctx z w' (z.E.set kg p'') cN):=by
             refine⟨rfl,rfl,fun b k=>?_,fun j q0 q TI hq=>?_⟩
             ·rcases k with k|⟨q,hq,k⟩|⟨i,k⟩
              ·exact .inl k
              ·obtain⟨j,hj⟩:=List.mem_iff_getElem?.1 hq
               rcases I4 j q hj with⟨e3,e4⟩|⟨e3,e4⟩
               ·subst e3;exact .inr (.inl ⟨q,List.mem_of_getElem? (i:=j) (by rw[List.getElem?_set_self (List.getElem?_eq_some_iff.1 Ef).1,e4]),k⟩)
               ·exact .inr (.inl ⟨q,List.mem_of_getElem? (i:=j) (by rw[List.getElem?_set_ne (fun e=>e3 e.symm)];exact hE3 j q e3 e4),k⟩)
              ·cases k
             ·simp only[ctx]at TI hq ⊢
              by_cases e:kg=j
              ·subst e
               rw[List.getElem?_set_self (List.getElem?_eq_some_iff.1 Ef).1]at hq
               rw[List.getElem?_set_self (List.getElem?_eq_some_iff.1 GC).1];exact hq
              ·rw[List.getElem?_set_ne e]at hq ⊢
               rw[aat j q0 q (fun e'=>e e'.symm) TI hq];exact TI
            refine⟨z.E.set kg p'',rfl,?_,?_,?_⟩
            ·have o:=h'.out
             refine⟨o.os,o.tape,o.output,o.size,o.stay,fun j q hq=>?_,fun j q hq=>?_,o.lt,o.mine⟩
             ·rcases I4 j q hq with⟨e3,e4⟩|⟨e3,e4⟩
              ·left;rw[e4,wT];exact hfr
              ·exact .inr ⟨q,e4,rfl⟩
             ·by_cases e:kg=j
              ·subst e
               rw[GC]at hq;injection hq with hq;subst hq
               exact⟨p'',List.getElem?_set_self (List.getElem?_eq_some_iff.1 GC).1,.inr ⟨by omega,by rw[wT];show pz.g<A.gen (.os kg g0 SK rU SB::rest)+1;omega⟩⟩
              ·exact⟨q,by rw[List.getElem?_set_ne e];exact hq,.inl rfl⟩
            ·refine⟨by simp [ctx,hzl],fun i j q r hq hr he=>?_,fun i q x hq bZ=>?_⟩
             ·have aaY:∀(j:Nat) (q:Pl),z.E[j]? =some q→q.b<z.w.heap.size:=fun j q hq=>hh.lt (p:=q) (List.mem_of_getElem? hq)
              rcases I4 i q hq with⟨e3,e4⟩|⟨e3,e4⟩<;>rcases I4 j r hr with⟨e5,e6⟩|⟨e5,e6⟩
              ·rw[e3,e5]
              ·have:=aaY j r e6;rw[e4,wT]at he;simp only at he;omega
              ·have:=aaY i q e4;rw[e6,wT]at he;simp only at he;omega
              ·exact hh.inj i j q r e4 e6 he
             ·rcases I4 i q hq with⟨e3,e4⟩|⟨e3,e4⟩
              ·subst e3
               rw[List.getElem?_set_self anZ]at bZ
               injection bZ with bZ
               subst bZ;subst e4;subst wT
               refine⟨rfl,Nat.succ_pos _,rfl,j4,⟨arr,bt,j5,j6⟩,?_,?_,j9⟩
               ·rw[mL];show p.base+off*Bb+len*Bb≤p.qO;omega
               ·refine Yz held Bb p.b _ _ (fun y hy=>?_) (bB.mono hx Bb p.b rfl _ _ ((j8.drop off).take len))
                rcases aoa y hy with k|k
                ·obtain⟨i,hi⟩:=List.mem_iff_getElem?.1 k
                 exact⟨_,_,(bB.nth y7 hi).2⟩
                ·exact Yf ha y k
              ·rw[List.getElem?_set_ne (fun e=>e3 e.symm)]at bZ
               have hil:i<σ.length:=(List.getElem?_eq_some_iff.1 bZ).1
               exact Lw held (hh.blk i q x e4 bZ) ((h'.heap.blk i q x (hE3 i q e3 e4) (by rw[hsame i hil e3];exact bZ)).mono hx rfl)
            ·simp only[ak]
             refine⟨Nat.succ_pos _,p'',by simp only[ctx];exact List.getElem?_set_self (List.getElem?_eq_some_iff.1 GC).1,by rw[wT];exact Nat.le_refl _,qa,cp,by rw[mL],by rw[mL];exact hcap,fun _=>⟨by rw[wT],?_,?_⟩⟩
             ·rcases q2 with q2|q2
              ·exact .inl q2
              ·exact .inr (by rw[q2,q1,wT];simp)
             ·rw[wT]
              simp only[Nat.zero_add]
              rw[q1,Nat.add_mul]at q3;omega
           ·cases k3
          ·cases k3
         ·cases k3
       ·cases k3
      ·cases k3
     ·simp only[Option.some.injEq,Prod.mk.injEq]at k3
      obtain⟨rfl,rfl⟩:=k3
      exact kept
     ·simp only[Option.some.injEq,Prod.mk.injEq]at k3
      obtain⟨rfl,rfl⟩:=k3
      exact kept
     ·simp only[Option.some.injEq,Prod.mk.injEq]at k3
      obtain⟨rfl,rfl⟩:=k3
      exact kept
     ·cases k3
   cases e with
   |normal=>exact done hk
   |ret=>exact done hk
   |exit i=>cases hk
end
end
section
open Go.RowKit
inductive Sh where
 |k
 |s (sz:Nat)
 |e (sz:Nat) (l:List Sh)
 |a (l:List Sh)
 |t (l:List Sh)
 |p (l:List Sh)
namespace A
mutual
def nn:Sh→AV→AV
 |.k,v=>v
 |.s sz,v=>match v with|.au=>.sl sz []|.ez=>.sl sz []|v=>v
 |.e sz l,v=>match v with|.au=>.sl sz []|.ez=>.sl sz []|.sl sz' es=>.sl sz' (es.map (bV l))|v=>v
 |.a l,v=>match v with|.agg cs=>.agg (bV l cs)|v=>v
 |.t l,v=>match v with|.aG vs=>.aG (bV l vs)|v=>v
 |.p l,v=>match v with|.rp cs=>.rp (bV l cs)|v=>v
def bV:List Sh→List AV→List AV
 |[],vs=>vs
 |s::ss,vs=>match vs with|[]=>[]|v::vs=>nn s v::bV ss vs
end
def SD:AV→Bool
 |.os ..=>true
 |.op ..=>true
 |.oe ..=>true
 |.om ..=>true
 |_=>false
def own:AV→Bool
 |.agg cs=>cs.any SD
 |v=>SD v
def vi:AV→Bool
 |.int ..=>true
 |.bool ..=>true
 |.str ..=>true
 |.np=>true
 |.au=>true
 |.ez=>true
 |.nm=>true
 |.y9=>true
 |.sl _ []=>true
 |_=>false
def tM:AV→Bool
 |.agg cs=>cs.all vi
 |v=>vi v
def DR:AV→Bool
 |.aG vs=>vs.all tM
 |v=>tM v
def fresh (v:AV):Bool:=match v with
 |.os ..=>true
 |.om _=>true
 |v=>tM v
def zD:AV→Bool
 |.aG vs=>vs.all fresh
 |v=>fresh v
def HS:aJ→Bool
 |.box cs=>cs.all vi
 |.arr _ _ es=>es.all fun e=>e.all vi
 |.map es=>es.all fun p=>tM p.1&&tM p.2
 |_=>false
def shift (n:Nat) (v:AV):AV:=match v with
 |.os id g sz off len=>.os (id+n) g sz off len
 |.om id=>.om (id+n)
 |v=>v
def yE (n:Nat):AV→AV
 |.aG vs=>.aG (vs.map (shift n))
 |v=>shift n v
noncomputable def wrap (ro:Bool) (eT:List Sh) (fH:Sh) (r:List AV→Heap→Option (AV×Heap)) (args:List AV) (σ:Heap):Option (AV×Heap):=
 bif ro&&args.any own then
  (eO σ 0 8 args).bind fun args=>(r (bV eT args) []).bind fun q=>bif zD (nn fH q.1)&&q.2.all HS then some (yE σ.length (nn fH q.1),σ++q.2)else none
 else(r (bV eT args) σ).map fun q=>(nn fH q.1,q.2)
noncomputable def jl (sh:Sh) (m:List AV→Heap→Option (AV×Heap)) (args:List AV) (σ:Heap):Option (AV×Heap):=(m args σ).bind fun p=>(fin σ p.1 p.2).map fun q=>(nn sh q.1,q.2)
noncomputable def qq (m:List AV→Heap→Option (AV×Heap)) (args:List AV) (σ:Heap):Option (AV×Heap):=match args with
 |[.sl _ []]=>some (.ez,σ)
 |[.au]=>some (.ez,σ)
 |[.ez]=>some (.ez,σ)
 |[.os _ _ _ _ 0]=>some (.ez,σ)
 |_=>m args σ
end A
def Sound (P:Program) (nm:List Nat) (f:FuncId) (m:List AV→Heap→Option (AV×Heap)):Prop:=∀args σ r σ',m args σ=some (r,σ')→mU P nm f args σ r σ'
section
variable {P : Program} {nm : List Nat} {f : FuncId} {c c' : RC}
theorem ZL {v:Value} (sz:Nat) (hsz:0<sz) (h:ak c .au v):ak c (.sl sz []) v:=by
 simp only[ak]at h ⊢
 subst h
 exact⟨none,0,rfl,Nat.le_refl _,hsz,.inl trivial⟩
theorem aap {v:Value} (sz:Nat) (hsz:0<sz) (h:ak c .ez v):ak c (.sl sz []) v:=by
 simp only[ak]at h ⊢
 obtain⟨a,rfl⟩:=h
 exact⟨a,0,rfl,Nat.le_refl _,hsz,.inl trivial⟩
mutual
def Sh.ok:Sh→Bool
 |.k=>true
 |.s sz=>Nat.blt 0 sz
 |.e sz l=>Nat.blt 0 sz&&Sh.eW l
 |.a l=>Sh.eW l
 |.t l=>Sh.eW l
 |.p l=>Sh.eW l
def Sh.eW:List Sh→Bool
 |[]=>true
 |x::l=>x.ok&&Sh.eW l
end
theorem YM:∀(l:List Sh) (cs:List AV),(A.bV l cs).length=cs.length
 |[],cs=>by simp [A.bV]
 |_::_,[]=>by simp [A.bV]
 |o::l,v::cs=>by simp [A.bV,YM l cs]
mutual
theorem Dj:∀(s:Sh) (a:AV) (v:Value),s.ok=true→ak c a v→ak c (A.nn s a) v
 |.k,a,v,_,h=>by simpa [A.nn]using h
 |.s sz,a,v,ho,h=>by
  cases a<;>simp only[A.nn]<;>first|exact h|exact ZL sz (by simpa [Sh.ok]using ho) h|exact aap sz (by simpa [Sh.ok]using ho) h
 |.e sz l,a,v,ho,h=>by
  simp only[Sh.ok,Bool.and_eq_true]at ho
  cases a<;>simp only[A.nn]<;>first|exact h|exact ZL sz (by simpa using ho.1) h|exact aap sz (by simpa using ho.1) h|skip
  simp only[ak]at h ⊢
  obtain⟨a,cap,e,h1,h2,h3⟩:=h
  refine⟨a,cap,by rw[List.length_map];exact e,by rw[List.length_map];exact h1,h2,?_⟩
  rcases h3 with h3|⟨b,off,e1,e2,e3,e4⟩
  ·left;rw[h3];rfl
  ·right;exact⟨b,off,e1,e2,e3,ZK l ho.2 _ _ e4⟩
 |.a l,a,v,ho,h=>by
  simp only[Sh.ok]at ho
  cases a<;>simp only[A.nn]<;>first|exact h|skip
  simp only[ak]at h ⊢
  obtain⟨vs,e,h1,h2⟩:=h
  exact⟨vs,e,HJ l _ _ ho h1,h2⟩
 |.t ss,a,v,ho,h=>by
  simp only[Sh.ok]at ho
  cases a<;>simp only[A.nn]<;>first|exact h|skip
  simp only[ak]at h ⊢
  obtain⟨vs,e,h1⟩:=h
  exact⟨vs,e,HJ ss _ _ ho h1⟩
 |.p l,a,v,ho,h=>by
  simp only[Sh.ok]at ho
  cases a<;>simp only[A.nn]<;>first|exact h|skip
  simp only[ak]at h ⊢
  obtain⟨b,off,e,h1,h2,h3⟩:=h
  exact⟨b,off,e,h1,h2,Q8 l _ _ ho h3⟩
theorem HJ:∀(ss:List Sh) (l:List AV) (vs:List Value),Sh.eW ss=true→aI c l vs→aI c (A.bV ss l) vs
 |[],l,vs,_,h=>by simpa [A.bV]using h
 |_::_,[],vs,_,h=>by simpa [A.bV]using h
 |s::ss,a::l,vs,ho,h=>by
  simp only[Sh.eW,Bool.and_eq_true]at ho
  simp only[A.bV,aI]at h ⊢
  obtain⟨v,vs',e,h1,h2⟩:=h
  exact⟨v,vs',e,Dj s a v ho.1 h1,HJ ss l vs' ho.2 h2⟩
theorem Q8 {b:Nat}:∀(l:List Sh) (cs:List AV) (off:Nat),Sh.eW l=true→bu c b off cs→bu c b off (A.bV l cs)
 |[],cs,off,_,h=>by simpa [A.bV]using h
 |_::_,[],off,_,h=>by simpa [A.bV]using h
 |o::l,a::cs,off,ho,h=>by
  simp only[Sh.eW,Bool.and_eq_true]at ho
  simp only[A.bV,bu]at h ⊢
  obtain⟨⟨v,h1,h2,h3⟩,h4⟩:=h
  exact⟨⟨v,h1,h2,Dj o a v ho.1 h3⟩,Q8 l cs (off+1) ho.2 h4⟩
theorem ZK {sz b:Nat} (l:List Sh) (hl:Sh.eW l=true):∀(es:List (List AV)) (off:Nat),bB c sz b off es→bB c sz b off (es.map (A.bV l))
 |[],off,h=>by simp [bB]
 |e::es,off,h=>by
  simp only[List.map_cons,bB]at h ⊢
  exact⟨by rw[YM];exact h.1,Q8 l e off hl h.2.1,ZK l hl es _ h.2.2⟩
end
theorem P5:∀{a:AV} {v:Value},A.vi a=true→ak c a v→ak c' a v:=by
 intro a v h r
 cases a<;>simp only[A.vi]at h<;>first|(cases h;done)|skip
 case sl sz es=>
  cases es with
  |nil=>
   simp only[ak]at r ⊢
   obtain⟨q,cap,e,h1,h2,_⟩:=r
   exact⟨q,cap,e,h1,h2,.inl trivial⟩
  |cons _ _=>simp at h
 all_goals simpa [ak]using r
theorem Wi:∀{l:List AV} {vs:List Value},l.all A.vi=true→aI c l vs→aI c' l vs
 |[],vs,_,r=>by simpa [aI]using r
 |a::l,vs,h,r=>by
  simp only[List.all_cons,Bool.and_eq_true]at h
  simp only[aI]at r ⊢
  obtain⟨v,vs',e,h1,h2⟩:=r
  exact⟨v,vs',e,P5 h.1 h1,Wi h.2 h2⟩
theorem P6 {a:AV} {v:Value} (h:A.tM a=true) (r:ak c a v):ak c' a v:=by
 unfold A.tM at h
 split at h
 ·simp only[ak]at r ⊢
  obtain⟨vs,e,h1,h2⟩:=r
  exact⟨vs,e,Wi h h1,h2⟩
 ·exact P5 h r
theorem mU.conv {args args':List AV} {σ σ':Heap} {r r':AV} (h:mU P nm f args' σ r σ') (ha:∀c vs,aI c args vs→aI c args' vs) (hr:∀c v,ak c r v→ak c r' v):mU P nm f args σ r' σ':=by
 rcases h with⟨g,h1,h2⟩|h
 ·refine .inl ⟨g,h1,fun z vs e1 e2 e3 e4=>(h2 z vs e1 e2 e3 (ha _ _ e4)).mono ?_⟩
  rintro e w' ⟨v,E',k1,k2,k3,k4⟩
  exact⟨v,E',k1,k2,k3,hr _ _ k4⟩
 ·refine .inr fun z vs e1 e2 e3 e4=>?_
  obtain⟨v,w',E',k1,k2,k3,k4⟩:=h z vs e1 e2 e3 (ha _ _ e4)
  exact⟨v,w',E',k1,k2,k3,hr _ _ k4⟩
theorem Xn {z0 z:Z} {w':World} {E':List Pl} {n:Nat} (hn:n=z.E.length) {a:AV} {v:Value} (h:A.fresh a=true) (r:ak (ctx z0 w' E' cN) a v):ak (ctx z w' (z.E++E') cN) (A.shift n a) v:=by
 have key:∀(id:Nat) (p:Pl),E'[id]? =some p→(z.E++E')[id+n]? =some p:=fun id p hp=>by
  rw[List.getElem?_append_right (by omega),hn,Nat.add_sub_cancel];exact hp
 unfold A.fresh at h
 unfold A.shift
 split at h
 ·simp only[ak]at r ⊢
  obtain⟨hg,p,h1,h2,r⟩:=r
  exact⟨hg,p,key _ _ h1,h2,r⟩
 ·simp only[ak]at r ⊢
  obtain⟨p,h1,h2,r⟩:=r
  exact⟨p,key _ _ h1,h2,r⟩
 ·exact P6 h r
theorem aft {z0 z:Z} {w':World} {E':List Pl} {n:Nat} (hn:n=z.E.length) {vs:List AV} {v:Value} (h:vs.all A.fresh=true) (r:ak (ctx z0 w' E' cN) (.aG vs) v):ak (ctx z w' (z.E++E') cN) (A.yE n (.aG vs)) v:=by
 simp only[ak,A.yE]at r ⊢
 obtain⟨us,rfl,r⟩:=r
 refine⟨us,rfl,?_⟩
 generalize us.toList=us' at r ⊢
 induction vs generalizing us' with
 |nil=>simpa [aI]using r
 |cons x l ih=>
  simp only[List.all_cons,Bool.and_eq_true]at h
  simp only[aI,List.map_cons]at r ⊢
  obtain⟨v,vs',e,h1,h2⟩:=r
  exact⟨v,vs',e,Xn hn h.1 h1,ih h.2 _ h2⟩
theorem agD {z0 z:Z} {w':World} {E':List Pl} {n:Nat} (hn:n=z.E.length) {a:AV} {v:Value} (h:A.zD a=true) (r:ak (ctx z0 w' E' cN) a v):ak (ctx z w' (z.E++E') cN) (A.yE n a) v:=by
 by_cases ht:∃vs,a=.aG vs
 ·obtain⟨vs,rfl⟩:=ht
  exact aft hn h r
 ·have e1:A.zD a=A.fresh a:=by cases a<;>first|rfl|exact absurd ⟨_,rfl⟩ ht
  have e2:A.yE n a=A.shift n a:=by cases a<;>first|rfl|exact absurd ⟨_,rfl⟩ ht
  rw[e1]at h
  rw[e2]
  exact Xn hn h r
theorem Ph {b:Nat}:∀{l:List AV} {off:Nat},l.all A.vi=true→c'.w=c.w→bu c b off l→bu c' b off l
 |[],off,_,_,_=>by simp [bu]
 |a::l,off,h,hw,r=>by
  simp only[List.all_cons,Bool.and_eq_true]at h
  simp only[bu]at r ⊢
  obtain⟨⟨v,h1,h2,h3⟩,h4⟩:=r
  exact⟨⟨v,by rw[hw];exact h1,h2,P5 h.1 h3⟩,Ph h.2 hw h4⟩
theorem VH {sz b:Nat}:∀{l:List (List AV)} {off:Nat},(l.all fun e=>e.all A.vi)=true→c'.w=c.w→bB c sz b off l→bB c' sz b off l
 |[],off,_,_,_=>by simp [bB]
 |a::l,off,h,hw,r=>by
  simp only[List.all_cons,Bool.and_eq_true]at h
  simp only[bB]at r ⊢
  obtain⟨h1,h2,h3⟩:=r
  exact⟨h1,Ph h.1 hw h2,VH h.2 hw h3⟩
theorem Wj:∀{l:List (AV×AV)} {es:List MapEntry},(l.all fun p=>A.tM p.1&&A.tM p.2)=true→cA c l es→cA c' l es
 |[],es,_,r=>by simpa [cA]using r
 |(k,v)::l,es,h,r=>by
  simp only[List.all_cons,Bool.and_eq_true]at h
  simp only[cA]at r ⊢
  obtain⟨e,es',h1,h2,h3,h4⟩:=r
  exact⟨e,es',h1,P6 h.1.1 h2,P6 h.1.2 h3,Wj h.2 h4⟩
theorem afU {p:Pl} {x:aJ} (h:A.HS x=true) (hw:c'.w=c.w) (r:oP c p x):oP c' p x:=by
 cases x with
 |box cs=>
  obtain⟨h1,⟨⟨arr,t,h2,h3⟩,h4⟩⟩:=r
  exact⟨h1,⟨arr,t,by rw[hw];exact h2,h3⟩,Ph h hw h4⟩
 |arr g sz es=>
  obtain⟨h1,h2,h3,h4,⟨arr,t,h5,h6⟩,h7,h8,h9⟩:=r
  exact⟨h1,h2,h3,h4,⟨arr,t,by rw[hw];exact h5,h6⟩,h7,VH h hw h8,fun arr t fz e=>h9 arr t fz (by rw[←hw];exact e)⟩
 |map es=>
  obtain⟨h1,bl,clock,h2,hwf,h3⟩:=r
  exact⟨h1,bl,clock,by rw[hw];exact h2,hwf,Wj h h3⟩
 |sR g sz es=>cases h
 |it cur left=>cases h
theorem XW {z:Z} {σ σ':Heap} {r:AV} {v:Value} {w':World} {E':List Pl} (e2:∀b,z.X b→b<z.w.heap.size) (hh:iw (ctx z z.w z.E cN) σ) (hv:A.zD r=true) (hb:σ'.all A.HS=true)
  (k2:Out ⟨z.w,[],fun _=>False,z.nm⟩ w' E') (k3:iw (ctx ⟨z.w,[],fun _=>False,z.nm⟩ w' E' cN) σ') (k4:ak (ctx ⟨z.w,[],fun _=>False,z.nm⟩ w' E' cN) r v):
  ∃jO,Out z w' jO∧iw (ctx z w' jO cN) (σ++σ')∧ak (ctx z w' jO cN) (A.yE σ.length r) v:=by
 have hlen:z.E.length=σ.length:=hh.len
 have hlen':E'.length=σ'.length:=k3.len
 have hst:∀b,b<z.w.heap.size→w'.heap[b]? =z.w.heap[b]? :=fun b hb=>k2.stay b hb (fun p hp=>by cases hp)
 have hlt:∀p∈z.E,p.b<z.w.heap.size:=fun p hp=>hh.lt hp
 have hfr:∀p∈E',z.w.heap.size≤p.b:=fun p hp=>by
  rcases k2.fresh p hp with k|⟨q,hq,_⟩
  ·exact k
  ·cases hq
 have hx:Ext (ctx z z.w z.E cN) (ctx z w' (z.E++E') cN):=by
  refine⟨k2.size,fun b hb hn=>⟨hst b hb,?_⟩,fun i p hp=>⟨p,?_,.inl rfl⟩,rfl⟩
  ·rintro(k|⟨p,hp,k⟩|⟨i,k⟩)
   ·exact hn (.inl k)
   ·rcases List.mem_append.1 hp with hp|hp
    ·exact hn (.inr (.inl ⟨p,hp,k⟩))
    ·have:=hfr p hp;simp only[ctx]at hb;omega
   ·cases k
  ·simp only[ctx]at hp ⊢
   rw[List.getElem?_append_left (List.getElem?_eq_some_iff.1 hp).1];exact hp
 have key:∀(i:Nat) (p:Pl),(z.E++E')[i]? =some p→(i<z.E.length∧z.E[i]? =some p)∨(z.E.length≤i∧E'[i-z.E.length]? =some p):=fun i p hp=>by
  by_cases hi:i<z.E.length
  ·rw[List.getElem?_append_left hi]at hp;exact .inl ⟨hi,hp⟩
  ·rw[List.getElem?_append_right (by omega)]at hp;exact .inr ⟨by omega,hp⟩
 refine⟨z.E++E',⟨k2.os,k2.tape,k2.output,k2.size,fun b hb _=>hst b hb,fun i p hp=>?_,fun i p hp=>⟨p,?_,.inl rfl⟩,e2,hlt⟩,⟨by simp [ctx,hlen,hlen'],fun i j p q hp hq e=>?_,fun i p x hp bZ=>?_⟩,agD hlen.symm hv k4⟩
 ·rcases key i p hp with⟨_,k⟩|⟨_,k⟩
  ·exact .inr ⟨p,k,rfl⟩
  ·exact .inl (hfr p (List.mem_of_getElem? k))
 ·rw[List.getElem?_append_left (List.getElem?_eq_some_iff.1 hp).1];exact hp
 ·simp only[ctx]at hp hq
  rcases key i p hp with⟨i1,k⟩|⟨i1,k⟩<;>rcases key j q hq with⟨j1,m⟩|⟨j1,m⟩
  ·exact hh.inj i j p q k m e
  ·have:=hlt p (List.mem_of_getElem? k);have:=hfr q (List.mem_of_getElem? m);omega
  ·have:=hlt q (List.mem_of_getElem? m);have:=hfr p (List.mem_of_getElem? k);omega
  ·have:=k3.inj _ _ p q k m e;omega
 ·simp only[ctx]at hp
  rcases key i p hp with⟨i1,k⟩|⟨i1,k⟩
  ·rw[List.getElem?_append_left (by omega)]at bZ
   exact(hh.blk i p x k bZ).mono hx (hst _ (hlt p (List.mem_of_getElem? k)))
  ·rw[List.getElem?_append_right (by omega),←hlen]at bZ
   exact afU (c:=ctx ⟨z.w,[],fun _=>False,z.nm⟩ w' E' cN) (List.all_eq_true.1 hb x (List.mem_of_getElem? bZ)) rfl (k3.blk _ p x k bZ)
theorem mU.Ar {args args':List AV} {σ σ':Heap} {r:AV} (h:mU P nm f args' [] r σ') (ha:A.eO σ 0 8 args=some args') (hv:A.zD r=true) (hb:σ'.all A.HS=true):mU P nm f args σ (A.yE σ.length r) (σ++σ'):=by
 have hX:∀(z:Z) b,¬(ctx ⟨z.w,[],fun _=>False,z.nm⟩ z.w [] cN).X b:=by
  rintro z b (k|⟨p,hp,_⟩|⟨i,k⟩)
  ·exact k.elim
  ·cases hp
  ·cases k
 have sO:∀(z:Z),iw (ctx z z.w z.E cN) σ→wE (ctx z z.w z.E cN) (ctx ⟨z.w,[],fun _=>False,z.nm⟩ z.w [] cN) σ 0:=fun z hh=>
  ⟨rfl,rfl,fun b k=>(hX z b k).elim,fun id p k=>absurd k (Nat.not_lt_zero _),hh,fun id p _ _=>hX z _⟩
 have h0:∀(z:Z),iw (ctx ⟨z.w,[],fun _=>False,z.nm⟩ z.w [] cN) []:=fun z=>by
  refine⟨rfl,fun i j p q hp=>?_,fun i p x hp=>?_⟩
  ·simp [ctx]at hp
  ·simp [ctx]at hp
 rcases h with⟨g,h1,h2⟩|h2
 ·refine .inl ⟨g,h1,fun z vs e1 e2 hh e4=>?_⟩
  have ha':aI (ctx ⟨z.w,[],fun _=>False,z.nm⟩ z.w [] cN) args' vs.toList:=Fm (sO z hh) 8 (fun av cU v _ e r=>yu (sO z hh) 8 _ _ _ e r) _ _ _ ha e4
  refine(h2 ⟨z.w,[],fun _=>False,z.nm⟩ vs e1 (fun b k=>k.elim) (h0 z) ha').mono ?_
  rintro e w' ⟨v,E',k1,k2,k3,k4⟩
  obtain⟨jO,q1,q2,q3⟩:=XW e2 hh hv hb k2 k3 k4
  exact⟨v,jO,k1,q1,q2,q3⟩
 ·refine .inr fun z vs e1 e2 hh e4=>?_
  have ha':aI (ctx ⟨z.w,[],fun _=>False,z.nm⟩ z.w [] cN) args' vs.toList:=Fm (sO z hh) 8 (fun av cU v _ e r=>yu (sO z hh) 8 _ _ _ e r) _ _ _ ha e4
  obtain⟨v,w',E',k1,k2,k3,k4⟩:=h2 ⟨z.w,[],fun _=>False,z.nm⟩ vs e1 (fun b k=>k.elim) (h0 z) ha'
  obtain⟨jO,q1,q2,q3⟩:=XW e2 hh hv hb k2 k3 k4
  exact⟨v,w',jO,k1,q1,q2,q3⟩
theorem YC {z:Z} {w':World} {E':List Pl} {σ σ1 σ':Heap} {x r:AV} {v:Value} (hh:iw (ctx z z.w z.E cN) σ) (hlt:∀b,z.X b→b<z.w.heap.size) (ho:Out z w' E') (hr:iw (ctx z w' E' cN) σ1) (rv:ak (ctx z w' E' cN) x v) (k3:A.fin σ x σ1=some (r,σ')):
  ∃jO,Out z w' jO∧iw (ctx z w' jO cN) σ'∧ak (ctx z w' jO cN) r v:=by
 unfold A.fin at k3
 split at k3
 ·rename_i he
  simp only[Option.some.injEq,Prod.mk.injEq]at k3
  obtain⟨rfl,rfl⟩:=k3
  exact⟨E',ho,by rw[←he];exact hr,rv⟩
 ·split at k3
  ·rename_i he
   obtain⟨r',k6,k7⟩:=Option.map_eq_some_iff.1 k3
   simp only[Prod.mk.injEq]at k7
   obtain⟨rfl,rfl⟩:=k7
   have hlen:=hr.len
   simp only[ctx]at hlen
   have hzl:z.E.length=σ.length:=hh.len
   have hle2:σ.length≤σ1.length:=by
    have:=congrArg List.length he
    simp at this;omega
   have qT:∀(id:Nat) (p:Pl),id<σ.length→E'[id]? =some p→(E'.take σ.length)[id]? =some p:=fun id p hlt' hp=>by rw[List.getElem?_take_of_lt hlt'];exact hp
   have pE:∀(id:Nat) (p:Pl),(E'.take σ.length)[id]? =some p→id<σ.length∧E'[id]? =some p:=fun id p hp=>by
    rw[List.getElem?_take]at hp
    split at hp
    ·exact⟨by assumption,hp⟩
    ·cases hp
   have sO:wE (ctx z w' E' cN) (ctx z w' (E'.take σ.length) cN) σ1 σ.length:=by
    refine⟨rfl,rfl,fun b k=>?_,qT,hr,fun id p hge hp k=>?_⟩
    ·rcases k with k|⟨p,hp,k⟩|⟨i,k⟩
     ·exact .inl k
     ·exact .inr (.inl ⟨p,List.mem_of_mem_take hp,k⟩)
     ·cases k
    ·rcases k with k|⟨q,hq,k⟩|⟨i,k⟩
     ·have hb:=hlt _ k
      rcases ho.fresh' id p hp with e|⟨q,hq,_⟩
      ·omega
      ·rw[List.getElem?_eq_none (by omega)]at hq;cases hq
     ·obtain⟨j,hj,rfl⟩:=List.mem_iff_getElem.1 hq
      obtain⟨h1,h2⟩:=pE j _ (List.getElem?_eq_getElem hj)
      have:=hr.inj j id _ p h2 hp k
      omega
     ·cases k
   have heq:∀(id:Nat),id<σ.length→σ[id]? =σ1[id]? :=fun id hlt'=>by
    have h1:(List.take σ.length σ1)[id]? =σ1[id]? :=List.getElem?_take_of_lt hlt'
    rw[he]at h1;exact h1
   have held:xm (ctx z z.w z.E cN) (ctx z w' E' cN) (ctx z w' (E'.take σ.length) cN):=
    ⟨rfl,rfl,sO.X,fun id p0 p e0 e1=>qT id p (by have:=(List.getElem?_eq_some_iff.1 e0).1;simp only[ctx]at this;omega) e1⟩
   refine⟨E'.take σ.length,?_,?_,yu sO 8 _ _ _ k6 rv⟩
   ·have o:=ho
    exact⟨o.os,o.tape,o.output,o.size,o.stay,fun i p hp=>o.fresh' i p (pE i p hp).2,fun i p hp=>by
     obtain⟨p',m1,m2⟩:=o.env i p hp
     exact⟨p',qT i p' (by have:=(List.getElem?_eq_some_iff.1 hp).1;omega) m1,m2⟩,o.lt,o.mine⟩
   ·refine⟨by simp only[ctx,List.length_take];omega,fun i j p q hp hq e=>hr.inj i j p q (pE i p hp).2 (pE j q hq).2 e,fun i p x hp hx=>?_⟩
    obtain⟨hi,hp2⟩:=pE i p hp
    have eU:z.E[i]? =some z.E[i]:=List.getElem?_eq_getElem (by omega)
    exact Lw held (hh.blk i _ x eU hx) (hr.blk i p x hp2 (by rw[←heq i hi];exact hx))
  ·cases k3
theorem Sound.jl {m:List AV→Heap→Option (AV×Heap)} (h:Sound P nm f m) (sh:Sh) (hs:sh.ok=true):Sound P nm f (A.jl sh m):=by
 intro args σ r σ' e
 unfold A.jl at e
 obtain⟨⟨x,σ1⟩,e1,e2⟩:=Option.bind_eq_some_iff.1 e
 obtain⟨⟨y,σ2⟩,e3,e4⟩:=Option.map_eq_some_iff.1 e2
 simp only[Prod.mk.injEq]at e4
 obtain⟨rfl,rfl⟩:=e4
 rcases h _ _ _ _ e1 with⟨g,h1,h2⟩|h2
 ·refine .inl ⟨g,h1,fun z vs k1 k2 hh k4=>?_⟩
  refine(h2 z vs k1 k2 hh k4).mono ?_
  rintro e w' ⟨v,E',q1,q2,q3,q4⟩
  obtain⟨jO,p1,p2,p3⟩:=YC hh k2 q2 q3 q4 e3
  exact⟨v,jO,q1,p1,p2,Dj _ _ _ hs p3⟩
 ·refine .inr fun z vs k1 k2 hh k4=>?_
  obtain⟨v,w',E',q1,q2,q3,q4⟩:=h2 z vs k1 k2 hh k4
  obtain⟨jO,p1,p2,p3⟩:=YC hh k2 q2 q3 q4 e3
  exact⟨v,w',jO,q1,p1,p2,Dj _ _ _ hs p3⟩
theorem Sound.wrap {r:List AV→Heap→Option (AV×Heap)} (h:Sound P nm f r) (ro:Bool) (eT:List Sh) (fH:Sh) (hi:Sh.eW eT=true) (ho:fH.ok=true):Sound P nm f (A.wrap ro eT fH r):=by
 intro args σ v σ' e
 unfold A.wrap at e
 cases hc:(ro&&args.any A.own)
 ·rw[hc]at e
  simp only[cond_false]at e
  obtain⟨q,e1,e2⟩:=Option.map_eq_some_iff.1 e
  injection e2 with e2 e3
  subst e2 e3
  exact(h _ _ _ _ e1).conv (fun c vs k=>HJ _ _ _ hi k) (fun c v k=>Dj _ _ _ ho k)
 ·rw[hc]at e
  simp only[cond_true]at e
  obtain⟨args',e1,e2⟩:=Option.bind_eq_some_iff.1 e
  obtain⟨q,e3,e4⟩:=Option.bind_eq_some_iff.1 e2
  obtain⟨q1,q2⟩:=q
  simp only at e4
  cases hs:(A.zD (A.nn fH q1)&&q2.all A.HS)
  ·rw[hs]at e4;cases e4
  ·rw[hs]at e4
   simp only[cond_true,Option.some.injEq,Prod.mk.injEq]at e4
   obtain⟨rfl,rfl⟩:=e4
   simp only[Bool.and_eq_true]at hs
   exact((h _ _ _ _ e3).conv (args:=args') (fun c vs k=>HJ _ _ _ hi k) (fun c v k=>Dj _ _ _ ho k)).Ar e1 hs.1 hs.2
end
theorem dD.of {X:Fx} {t:List (FuncId×(List AV→Heap→Option (AV×Heap)))} (hc:X.call=A.tab (fun _ _=>none) t) (ht:∀p∈t,Sound X.P X.nm p.1 p.2) (hd:∀f,Sound X.P X.nm f (X.dyn (X.nm.getD f 0))):dD X:=by
 refine⟨fun f args σ r σ' h=>?_,fun f=>hd f⟩
 rw[hc]at h
 clear hc
 induction t with
 |nil=>cases h
 |cons p t ih=>
  obtain⟨m,x⟩:=p
  simp only[A.tab]at h
  cases hm:(f==m)
  ·rw[hm]at h;exact ih (fun p hp=>ht p (List.mem_cons_of_mem _ hp)) h
  ·rw[hm]at h
   have:f=m:=by simpa using hm
   subst this
   exact ht (f,x) (List.mem_cons_self) _ _ _ _ h
theorem Sound.none {P:Program} {nm:List Nat} {f:FuncId}:Sound P nm f (fun _ _=>Option.none):=fun _ _ _ _ h=>by cases h
theorem aD.nil {P:Program} {nm:List Nat}:∀p∈([]:List (FuncId×(List AV→Heap→Option (AV×Heap)))),Sound P nm p.1 p.2:=fun _ h=>by cases h
theorem aD.cons {P:Program} {nm:List Nat} {f:FuncId} {m:List AV→Heap→Option (AV×Heap)} {l:List (FuncId×(List AV→Heap→Option (AV×Heap)))} (h:Sound P nm f m) (t:∀p∈l,Sound P nm p.1 p.2):∀p∈(f,m)::l,Sound P nm p.1 p.2:=
 fun p hp=>by rcases List.mem_cons.1 hp with rfl|hp;exact h;exact t p hp
theorem jj.nil {P:Program} {nm:List Nat}:∀p∈([]:List (Nat×(List AV→Heap→Option (AV×Heap)))),∀f,nm.getD f 0=p.1→Sound P nm f p.2:=fun _ h=>by cases h
theorem jj.cons {P:Program} {nm:List Nat} {k:Nat} {m:List AV→Heap→Option (AV×Heap)} {l:List (Nat×(List AV→Heap→Option (AV×Heap)))} (h:∀f,nm.getD f 0=k→Sound P nm f m) (t:∀p∈l,∀f,nm.getD f 0=p.1→Sound P nm f p.2):∀p∈(k,m)::l,∀f,nm.getD f 0=p.1→Sound P nm f p.2:=
 fun p hp=>by rcases List.mem_cons.1 hp with rfl|hp;exact h;exact t p hp
theorem sL {P:Program} {nm:List Nat} {t:List (Nat×(List AV→Heap→Option (AV×Heap)))} (ht:∀p∈t,∀f,nm.getD f 0=p.1→Sound P nm f p.2) (f:FuncId):Sound P nm f (A.tab (fun _ _=>Option.none) t (nm.getD f 0)):=by
 induction t with
 |nil=>exact Sound.none
 |cons p t ih=>
  obtain⟨k,x⟩:=p
  simp only[A.tab]
  cases hm:(nm.getD f 0==k)
  ·exact ih (fun p hp=>ht p (List.mem_cons_of_mem _ hp))
  ·exact ht (k,x) List.mem_cons_self f (by simpa using hm)
theorem ZJ {nm:List Nat} {k g:Nat} (h:(nm.zipIdx.filter fun p=>p.1==k)=[(k,g)]) (hk:(0==k)=false) {f:Nat} (hf:nm.getD f 0=k):f=g:=by
 have hlt:f<nm.length:=by
  rcases Nat.lt_or_ge f nm.length with e|e
  ·exact e
  ·simp only[List.getD,List.getElem?_eq_none e,Option.getD_none]at hf;subst hf;simp at hk
 have:(k,f)∈nm.zipIdx.filter fun p=>p.1==k:=by
  refine List.mem_filter.2 ⟨List.mem_iff_getElem?.2 ⟨f,?_⟩,by simp⟩
  simp only[List.getD]at hf
  rw[List.getElem?_eq_getElem hlt]at hf
  simp [List.getElem?_eq_getElem hlt,←hf]
 rw[h]at this
 simpa using this
theorem oJ {P:Program} {nm:List Nat} {k g:Nat} {m:List AV→Heap→Option (AV×Heap)} (hs:Sound P nm g m) (h:(nm.zipIdx.filter fun p=>p.1==k)=[(k,g)]) (hk:(0==k)=false):∀f,nm.getD f 0=k→Sound P nm f m:=
 fun f hf=>by have e:=ZJ h hk hf;subst e;exact hs
def fuel (F:(Nat→List AV→Heap→Option (AV×Heap))→List (Nat×(List AV→Heap→Option (AV×Heap)))):Nat→Nat→List AV→Heap→Option (AV×Heap)
 |0,_=>fun _ _=>none
 |n+1,k=>A.tab (fun _ _=>none) (F (fuel F n)) k
namespace A
def cK (f:AV→Heap→Option (AV×Heap)):List AV→Heap→Option (AV×Heap)
 |[x0],σ=>f x0 σ
 |_,_=>none
def cQ (f:AV→AV→Heap→Option (AV×Heap)):List AV→Heap→Option (AV×Heap)
 |[x0,x1],σ=>f x0 x1 σ
 |_,_=>none
def lp (f:AV→AV→AV→Heap→Option (AV×Heap)):List AV→Heap→Option (AV×Heap)
 |[x0,x1,x2],σ=>f x0 x1 x2 σ
 |_,_=>none
def vC (f:AV→AV→AV→AV→Heap→Option (AV×Heap)):List AV→Heap→Option (AV×Heap)
 |[x0,x1,x2,x3],σ=>f x0 x1 x2 x3 σ
 |_,_=>none
def DY (f:AV→AV→AV→AV→AV→Heap→Option (AV×Heap)):List AV→Heap→Option (AV×Heap)
 |[x0,x1,x2,x3,x4],σ=>f x0 x1 x2 x3 x4 σ
 |_,_=>none
def DZ (f:AV→AV→AV→AV→AV→AV→Heap→Option (AV×Heap)):List AV→Heap→Option (AV×Heap)
 |[x0,x1,x2,x3,x4,x5],σ=>f x0 x1 x2 x3 x4 x5 σ
 |_,_=>none
def Ti (f:AV→AV→AV→AV→AV→AV→AV→Heap→Option (AV×Heap)):List AV→Heap→Option (AV×Heap)
 |[x0,x1,x2,x3,x4,x5,x6],σ=>f x0 x1 x2 x3 x4 x5 x6 σ
 |_,_=>none
end A
section
variable {X : Fx} {f : FuncId} {fn : Func} {bL : mE}
theorem Sound.tY {m:AV→Heap→Option (AV×Heap)} (keep:qE) (hkeep:keep.Ok) (hs:dD X) (hf:X.P.funcs[f]? =some fn) (hc:∀cO w,(callFunc f cO).run X.P w=.ok (.enter f cO) w) (he:∀(x0:AV) (σ:Heap),qJ X keep bL fn [x0] σ=m x0 σ):Sound X.P X.nm f (A.cK m):=by
 intro args σ r σ' h
 unfold A.cK at h
 split at h
 ·exact CW hs hkeep hf hc ((he _ _).trans h)
 ·cases h
theorem Sound.pI {m:AV→AV→Heap→Option (AV×Heap)} (keep:qE) (hkeep:keep.Ok) (hs:dD X) (hf:X.P.funcs[f]? =some fn) (hc:∀cO w,(callFunc f cO).run X.P w=.ok (.enter f cO) w) (he:∀(x0 x1:AV) (σ:Heap),qJ X keep bL fn [x0,x1] σ=m x0 x1 σ):Sound X.P X.nm f (A.cQ m):=by
 intro args σ r σ' h
 unfold A.cQ at h
 split at h
 ·exact CW hs hkeep hf hc ((he _ _ _).trans h)
 ·cases h
theorem Sound.IJ {m:AV→AV→AV→Heap→Option (AV×Heap)} (keep:qE) (hkeep:keep.Ok) (hs:dD X) (hf:X.P.funcs[f]? =some fn) (hc:∀cO w,(callFunc f cO).run X.P w=.ok (.enter f cO) w) (he:∀(x0 x1 x2:AV) (σ:Heap),qJ X keep bL fn [x0,x1,x2] σ=m x0 x1 x2 σ):Sound X.P X.nm f (A.lp m):=by
 intro args σ r σ' h
 unfold A.lp at h
 split at h
 ·exact CW hs hkeep hf hc ((he _ _ _ _).trans h)
 ·cases h
theorem Sound.abl {m:AV→AV→AV→AV→Heap→Option (AV×Heap)} (keep:qE) (hkeep:keep.Ok) (hs:dD X) (hf:X.P.funcs[f]? =some fn) (hc:∀cO w,(callFunc f cO).run X.P w=.ok (.enter f cO) w) (he:∀(x0 x1 x2 x3:AV) (σ:Heap),qJ X keep bL fn [x0,x1,x2,x3] σ=m x0 x1 x2 x3 σ):Sound X.P X.nm f (A.vC m):=by
 intro args σ r σ' h
 unfold A.vC at h
 split at h
 ·exact CW hs hkeep hf hc ((he _ _ _ _ _).trans h)
 ·cases h
theorem Sound.abm {m:AV→AV→AV→AV→AV→Heap→Option (AV×Heap)} (keep:qE) (hkeep:keep.Ok) (hs:dD X) (hf:X.P.funcs[f]? =some fn) (hc:∀cO w,(callFunc f cO).run X.P w=.ok (.enter f cO) w) (he:∀(x0 x1 x2 x3 x4:AV) (σ:Heap),qJ X keep bL fn [x0,x1,x2,x3,x4] σ=m x0 x1 x2 x3 x4 σ):Sound X.P X.nm f (A.DY m):=by
 intro args σ r σ' h
 unfold A.DY at h
 split at h
 ·exact CW hs hkeep hf hc ((he _ _ _ _ _ _).trans h)
 ·cases h
theorem Sound.abn {m:AV→AV→AV→AV→AV→AV→Heap→Option (AV×Heap)} (keep:qE) (hkeep:keep.Ok) (hs:dD X) (hf:X.P.funcs[f]? =some fn) (hc:∀cO w,(callFunc f cO).run X.P w=.ok (.enter f cO) w) (he:∀(x0 x1 x2 x3 x4 x5:AV) (σ:Heap),qJ X keep bL fn [x0,x1,x2,x3,x4,x5] σ=m x0 x1 x2 x3 x4 x5 σ):Sound X.P X.nm f (A.DZ m):=by
 intro args σ r σ' h
 unfold A.DZ at h
 split at h
 ·exact CW hs hkeep hf hc ((he _ _ _ _ _ _ _).trans h)
 ·cases h
theorem Sound.aoz {m:AV→AV→AV→AV→AV→AV→AV→Heap→Option (AV×Heap)} (keep:qE) (hkeep:keep.Ok) (hs:dD X) (hf:X.P.funcs[f]? =some fn) (hc:∀cO w,(callFunc f cO).run X.P w=.ok (.enter f cO) w) (he:∀(x0 x1 x2 x3 x4 x5 x6:AV) (σ:Heap),qJ X keep bL fn [x0,x1,x2,x3,x4,x5,x6] σ=m x0 x1 x2 x3 x4 x5 x6 σ):Sound X.P X.nm f (A.Ti m):=by
 intro args σ r σ' h
 unfold A.Ti at h
 split at h
 ·exact CW hs hkeep hf hc ((he _ _ _ _ _ _ _ _).trans h)
 ·cases h
end
end
abbrev uh:List Sh:=[.k,.k,.k,.k,.k,.k,.k,(.s 2),.k,.k,(.s 8)]
abbrev DW:List Sh:=[(.s 10),.k,.k,.k,(.s 3),(.s 4),(.s 3),(.s 2),(.s 3),(.s 2),.k,(.s 5)]
abbrev yL:Sh:=(.a [(.s 3),(.s 4),(.s 3),(.s 2),(.s 3)])
abbrev Dr:List Sh:=[.k,.k,(.e 7 [.k,.k,.k,.k,.k,.k,(.s 3)])]
abbrev Ds:Sh:=(.a [.k,.k,.k,.k,.k,.k,(.s 2)])
section
set_option maxRecDepth 100000
noncomputable def aF:List Nat:=[0,0,0,0,419,421,0,0,0,0,336,416,338,418,357,92,0,102,420,0,136,301,373,374,0,393,392,0,394,0,425,0,426,0,0,402,144,335,70,129,14,13,151,337,155,413,415,355,417,356,90,86,91,5,24,0,422,340,0,360,372,0,343,341,180,135,169,242,240,137,376,379,0,0,0,423,0,424,0,403,0,0,411,0,93,398,399,401,139,1,143,330,331,332,333,334,193,181,69,66,128,127,154,152,339,412,353,352,158,354,414,348,4,23,0,0,358,0,0,359,0,342,94,134,7,241,207,239,166,130,375,168,377,378,0,0,381,380,0,382,384,0,410,383,0,397,400,71,73,2,138,142,3,63,67,68,65,64,153,318,351,350,16,18,0,32,0,27,33,0,34,0,0,258,0,88,89,131,133,6,206,223,238,298,388,391,389,0,387,0,0,409,396,199,72,125,126,141,62,178,203,0,297,140,205,349,15,17,26,0,0,28,29,30,31,361,363,0,367,368,369,370,371,256,257,85,87,132,0,210,390,25,0,0,0,0,345,344,408,395,59,60,61,176,177,0,0,362,262,0,366,365,84,81,209,385,386,0,405,407,58,286,288,0,292,293,294,295,296,364,83,80,208,346,404,406,347,287,291,290,82,53,0,0,289,52,0,0,0,0,0,0,0,0,0,0,0,0,0,0,0,0,0]
section
variable {l : List (FuncId × (List AV → Heap → Option (AV × Heap)))} {f : FuncId} {fn : Func} {ro : Bool} {eT : List Sh} {fH : Sh}
noncomputable def Ea (l:List (FuncId×(List AV→Heap→Option (AV×Heap)))) (L:List Nat) (n:Nat):Fx:=⟨Tryz.prog,aF,A.tab (fun _ _=>none) l,fun _ _ _=>none,L,[],n,[]⟩
theorem q1 {m:AV→Heap→Option (AV×Heap)} (L:List Nat) (n:Nat) (bL:mE) (h:∀p∈l,Sound Tryz.prog aF p.1 p.2) (hf:Tryz.prog.funcs[f]? =some fn) (hc:∀cO w,(callFunc f cO).run Tryz.prog w=.ok (.enter f cO) w) (he:∀(x0:AV) (σ:Heap),qJ (Ea l L n) .F bL fn [x0] σ=m x0 σ) (hi:Sh.eW eT=true) (ho:fH.ok=true):Sound Tryz.prog aF f (A.wrap ro eT fH (A.cK m)):=Sound.wrap (Sound.tY .F trivial (dD.of rfl h fun _=>Sound.none) hf hc he) _ _ _ hi ho
theorem q2 {m:AV→AV→Heap→Option (AV×Heap)} (L:List Nat) (n:Nat) (bL:mE) (h:∀p∈l,Sound Tryz.prog aF p.1 p.2) (hf:Tryz.prog.funcs[f]? =some fn) (hc:∀cO w,(callFunc f cO).run Tryz.prog w=.ok (.enter f cO) w) (he:∀(x0 x1:AV) (σ:Heap),qJ (Ea l L n) .F bL fn [x0,x1] σ=m x0 x1 σ) (hi:Sh.eW eT=true) (ho:fH.ok=true):Sound Tryz.prog aF f (A.wrap ro eT fH (A.cQ m)):=Sound.wrap (Sound.pI .F trivial (dD.of rfl h fun _=>Sound.none) hf hc he) _ _ _ hi ho
theorem q3 {m:AV→AV→AV→Heap→Option (AV×Heap)} (L:List Nat) (n:Nat) (bL:mE) (h:∀p∈l,Sound Tryz.prog aF p.1 p.2) (hf:Tryz.prog.funcs[f]? =some fn) (hc:∀cO w,(callFunc f cO).run Tryz.prog w=.ok (.enter f cO) w) (he:∀(x0 x1 x2:AV) (σ:Heap),qJ (Ea l L n) .F bL fn [x0,x1,x2] σ=m x0 x1 x2 σ) (hi:Sh.eW eT=true) (ho:fH.ok=true):Sound Tryz.prog aF f (A.wrap ro eT fH (A.lp m)):=Sound.wrap (Sound.IJ .F trivial (dD.of rfl h fun _=>Sound.none) hf hc he) _ _ _ hi ho
theorem q4 {m:AV→AV→AV→AV→Heap→Option (AV×Heap)} (L:List Nat) (n:Nat) (bL:mE) (h:∀p∈l,Sound Tryz.prog aF p.1 p.2) (hf:Tryz.prog.funcs[f]? =some fn) (hc:∀cO w,(callFunc f cO).run Tryz.prog w=.ok (.enter f cO) w) (he:∀(x0 x1 x2 x3:AV) (σ:Heap),qJ (Ea l L n) .F bL fn [x0,x1,x2,x3] σ=m x0 x1 x2 x3 σ) (hi:Sh.eW eT=true) (ho:fH.ok=true):Sound Tryz.prog aF f (A.wrap ro eT fH (A.vC m)):=Sound.wrap (Sound.abl .F trivial (dD.of rfl h fun _=>Sound.none) hf hc he) _ _ _ hi ho
theorem q5 {m:AV→AV→AV→AV→AV→Heap→Option (AV×Heap)} (L:List Nat) (n:Nat) (bL:mE) (h:∀p∈l,Sound Tryz.prog aF p.1 p.2) (hf:Tryz.prog.funcs[f]? =some fn) (hc:∀cO w,(callFunc f cO).run Tryz.prog w=.ok (.enter f cO) w) (he:∀(x0 x1 x2 x3 x4:AV) (σ:Heap),qJ (Ea l L n) .F bL fn [x0,x1,x2,x3,x4] σ=m x0 x1 x2 x3 x4 σ) (hi:Sh.eW eT=true) (ho:fH.ok=true):Sound Tryz.prog aF f (A.wrap ro eT fH (A.DY m)):=Sound.wrap (Sound.abm .F trivial (dD.of rfl h fun _=>Sound.none) hf hc he) _ _ _ hi ho
theorem q6 {m:AV→AV→AV→AV→AV→AV→Heap→Option (AV×Heap)} (L:List Nat) (n:Nat) (bL:mE) (h:∀p∈l,Sound Tryz.prog aF p.1 p.2) (hf:Tryz.prog.funcs[f]? =some fn) (hc:∀cO w,(callFunc f cO).run Tryz.prog w=.ok (.enter f cO) w) (he:∀(x0 x1 x2 x3 x4 x5:AV) (σ:Heap),qJ (Ea l L n) .F bL fn [x0,x1,x2,x3,x4,x5] σ=m x0 x1 x2 x3 x4 x5 σ) (hi:Sh.eW eT=true) (ho:fH.ok=true):Sound Tryz.prog aF f (A.wrap ro eT fH (A.DZ m)):=Sound.wrap (Sound.abn .F trivial (dD.of rfl h fun _=>Sound.none) hf hc he) _ _ _ hi ho
theorem q7 {m:AV→AV→AV→AV→AV→AV→AV→Heap→Option (AV×Heap)} (L:List Nat) (n:Nat) (bL:mE) (h:∀p∈l,Sound Tryz.prog aF p.1 p.2) (hf:Tryz.prog.funcs[f]? =some fn) (hc:∀cO w,(callFunc f cO).run Tryz.prog w=.ok (.enter f cO) w) (he:∀(x0 x1 x2 x3 x4 x5 x6:AV) (σ:Heap),qJ (Ea l L n) .F bL fn [x0,x1,x2,x3,x4,x5,x6] σ=m x0 x1 x2 x3 x4 x5 x6 σ) (hi:Sh.eW eT=true) (ho:fH.ok=true):Sound Tryz.prog aF f (A.wrap ro eT fH (A.Ti m)):=Sound.wrap (Sound.aoz .F trivial (dD.of rfl h fun _=>Sound.none) hf hc he) _ _ _ hi ho
end
end
abbrev aP (n:Int):Prop:=-9223372036854775808≤n∧n≤9223372036854775807
abbrev aW:Nat:=9223372036854775807
def jv {κ:Type} [DecidableEq κ] (k:κ) (S:List κ):Bool:=S.any fun x=>decide (x=k)
theorem Qi {κ:Type} [DecidableEq κ] {k:κ} {S:List κ}:jv k S=true↔k∈S:=by
 simp only[jv,List.any_eq_true,decide_eq_true_eq]
 exact⟨fun⟨x,h,e⟩=>e▸h,fun h=>⟨k,h,rfl⟩⟩
theorem KT {κ:Type} [DecidableEq κ] {k:κ} {S:List κ}:jv k S=false↔k∉S:=by
 rw[←Qi];simp
def rS (n:Int):List AV:=[.int .i64 n]
def anD (s:ByteArray):List AV:=[.str s]
def sl {α:Type} (sz:Nat) (c:α→List AV) (l:List α):AV:=.sl sz (l.map c)
def eW {α:Type} (p:α→Prop) (l:List α):Prop:=l.length≤aW∧∀x∈l,p x
def iZ (s:ByteArray):Prop:=s.size≤aW
theorem YX (n:Int):A.aj 0 (rS n)=some (.int .i64 n):=rfl
theorem YY (s:ByteArray):A.aj 0 (anD s)=some (.str s):=rfl
structure lE where
 time:Int
 way:Int
deriving DecidableEq
def gX (x:lE):List AV:=[.int .i64 x.time,.int .i64 x.way]
theorem afL (x:lE):(gX x).length=2:=rfl
def YR (x:lE):Prop:=aP x.time∧aP x.way
theorem Hh (x:lE):A.aj 0 (gX x)=some (.int .i64 x.time):=rfl
theorem Hi (x:lE):A.aj 1 (gX x)=some (.int .i64 x.way):=rfl
theorem C1 (x:lE):A.ay 0 2 (gX x)=some (.agg (gX x)):=rfl
theorem CX (x:lE):A.cells 2 (.agg (gX x))=some (gX x):=rfl
theorem C3 (x:lE) (l:List AV) (h:l.length=2):A.splice 0 (gX x) l=some (gX x):=by
 simp [A.splice,afL,h]
structure oM where
 kind:Int
 points:(List lE)
def lN (x:oM):List AV:=[.int .i64 x.kind,sl 2 gX x.points]
theorem afI (x:oM):(lN x).length=2:=rfl
def akq (x:oM):Prop:=aP x.kind∧(eW YR) x.points
theorem vV (x:oM):A.aj 0 (lN x)=some (.int .i64 x.kind):=rfl
theorem vW (x:oM):A.aj 1 (lN x)=some (sl 2 gX x.points):=rfl
theorem vY (x:oM):A.ay 0 2 (lN x)=some (.agg (lN x)):=rfl
theorem vX (x:oM):A.cells 2 (.agg (lN x))=some (lN x):=rfl
theorem vZ (x:oM) (l:List AV) (h:l.length=2):A.splice 0 (lN x) l=some (lN x):=by
 simp [A.splice,afI,h]
structure gE where
 dw:Int
 to:Int
 start:Int
 delay:Int
 time:Int
 fq:oM
def fF (x:gE):List AV:=[.int .i64 x.dw,.int .i64 x.to,.int .i64 x.start,.int .i64 x.delay,.int .i64 x.time,.int .i64 x.fq.kind,sl 2 gX x.fq.points]
theorem agW (x:gE):(fF x).length=7:=rfl
theorem V3 (x:gE):A.aj 0 (fF x)=some (.int .i64 x.dw):=rfl
theorem V4 (x:gE):A.aj 1 (fF x)=some (.int .i64 x.to):=rfl
theorem KV (x:gE):A.aj 2 (fF x)=some (.int .i64 x.start):=rfl
theorem Px (x:gE):A.aj 3 (fF x)=some (.int .i64 x.delay):=rfl
theorem V5 (x:gE):A.aj 4 (fF x)=some (.int .i64 x.time):=rfl
theorem adD (x:gE):A.ay 5 2 (fF x)=some (.agg (lN x.fq)):=rfl
theorem Ft (x:gE):A.ay 0 7 (fF x)=some (.agg (fF x)):=rfl
theorem C6 (x:gE):A.cells 7 (.agg (fF x))=some (fF x):=rfl
theorem LO (x:gE) (l:List AV) (h:l.length=7):A.splice 0 (fF x) l=some (fF x):=by
 simp [A.splice,agW,h]
structure ajo where
 time:Int
 level:Int
deriving DecidableEq
structure oq where
 low:Int
 high:Int
 name:ByteArray
deriving DecidableEq
def mq (x:oq):List AV:=[.int .i64 x.low,.int .i64 x.high,.str x.name]
theorem afM (x:oq):(mq x).length=3:=rfl
def QN (x:oq):Prop:=aP x.low∧aP x.high∧iZ x.name
theorem KK (x:oq):A.aj 0 (mq x)=some (.int .i64 x.low):=rfl
theorem KL (x:oq):A.aj 1 (mq x)=some (.int .i64 x.high):=rfl
theorem KM (x:oq):A.aj 2 (mq x)=some (.str x.name):=rfl
theorem Lk (x:oq):A.ay 0 3 (mq x)=some (.agg (mq x)):=rfl
theorem Lc (x:oq):A.cells 3 (.agg (mq x))=some (mq x):=rfl
theorem Lp (x:oq) (l:List AV) (h:l.length=3):A.splice 0 (mq x) l=some (mq x):=by
 simp [A.splice,afM,h]
structure ew where
 name:ByteArray
 group:Int
 nh:Int
 lY:Int
 default:Int
 snap:Bool
 ranges:(List oq)
def eR (x:ew):List AV:=[.str x.name,.int .i64 x.group,.int .i64 x.nh,.int .i64 x.lY,.int .i64 x.default,.bool x.snap,sl 3 mq x.ranges]
theorem afK (x:ew):(eR x).length=7:=rfl
def YQ (x:ew):Prop:=iZ x.name∧aP x.group∧aP x.nh∧aP x.lY∧aP x.default∧(eW QN) x.ranges
theorem KJ (x:ew):A.aj 0 (eR x)=some (.str x.name):=rfl
theorem O4 (x:ew):A.aj 1 (eR x)=some (.int .i64 x.group):=rfl
theorem O5 (x:ew):A.aj 2 (eR x)=some (.int .i64 x.nh):=rfl
theorem O6 (x:ew):A.aj 3 (eR x)=some (.int .i64 x.lY):=rfl
theorem O7 (x:ew):A.aj 4 (eR x)=some (.int .i64 x.default):=rfl
theorem O8 (x:ew):A.aj 5 (eR x)=some (.bool x.snap):=rfl
theorem O9 (x:ew):A.aj 6 (eR x)=some (sl 3 mq x.ranges):=rfl
theorem P4 (x:ew):A.ay 0 7 (eR x)=some (.agg (eR x)):=rfl
theorem PR (x:ew):A.cells 7 (.agg (eR x))=some (eR x):=rfl
theorem Lo (x:ew) (l:List AV) (h:l.length=7):A.splice 0 (eR x) l=some (eR x):=by
 simp [A.splice,afK,h]
structure cV where
 name:ByteArray
 size:Int
 params:(List ew)
def cm (x:cV):List AV:=[.str x.name,.int .i64 x.size,sl 7 eR x.params]
theorem aeh (x:cV):(cm x).length=3:=rfl
def Li (x:cV):Prop:=iZ x.name∧aP x.size∧(eW YQ) x.params
theorem p7 (x:cV):A.aj 0 (cm x)=some (.str x.name):=rfl
theorem rz (x:cV):A.aj 1 (cm x)=some (.int .i64 x.size):=rfl
theorem p9 (x:cV):A.aj 2 (cm x)=some (sl 7 eR x.params):=rfl
theorem rD (x:cV):A.ay 0 3 (cm x)=some (.agg (cm x)):=rfl
theorem rB (x:cV):A.cells 3 (.agg (cm x))=some (cm x):=rfl
theorem rE (x:cV) (l:List AV) (h:l.length=3):A.splice 0 (cm x) l=some (cm x):=by
 simp [A.splice,aeh,h]
structure gY where
 number:Int
 profile:ByteArray
 univ:Int
 address:Int
deriving DecidableEq
def bU (x:gY):List AV:=[.int .i64 x.number,.str x.profile,.int .i64 x.univ,.int .i64 x.address]
theorem ag0 (x:gY):(bU x).length=4:=rfl
def ZN (x:gY):Prop:=aP x.number∧iZ x.profile∧aP x.univ∧aP x.address
theorem qc (x:gY):A.aj 0 (bU x)=some (.int .i64 x.number):=rfl
theorem qd (x:gY):A.aj 1 (bU x)=some (.str x.profile):=rfl
theorem qg (x:gY):A.aj 2 (bU x)=some (.int .i64 x.univ):=rfl
theorem qh (x:gY):A.aj 3 (bU x)=some (.int .i64 x.address):=rfl
theorem qj (x:gY):A.ay 0 4 (bU x)=some (.agg (bU x)):=rfl
theorem qi (x:gY):A.cells 4 (.agg (bU x))=some (bU x):=rfl
theorem qm (x:gY) (l:List AV) (h:l.length=4):A.splice 0 (bU x) l=some (bU x):=by
 simp [A.splice,ag0,h]
structure gr where
 aY:(List cV)
 units:(List gY)
def jM (x:gr):List AV:=[sl 3 cm x.aY,sl 4 bU x.units]
theorem ah8 (x:gr):(jM x).length=2:=rfl
def BX (x:gr):Prop:=(eW Li) x.aY∧(eW ZN) x.units
theorem yg (x:gr):A.aj 0 (jM x)=some (sl 3 cm x.aY):=rfl
theorem yh (x:gr):A.aj 1 (jM x)=some (sl 4 bU x.units):=rfl
theorem yx (x:gr):A.ay 0 2 (jM x)=some (.agg (jM x)):=rfl
theorem yq (x:gr):A.cells 2 (.agg (jM x))=some (jM x):=rfl
theorem yy (x:gr) (l:List AV) (h:l.length=2):A.splice 0 (jM x) l=some (jM x):=by
 simp [A.splice,ah8,h]
structure aB where
 unit:Int
 param:ByteArray
deriving DecidableEq
def aN (x:aB):List AV:=[.int .i64 x.unit,.str x.param]
theorem ah7 (x:aB):(aN x).length=2:=rfl
def aay (x:aB):Prop:=aP x.unit∧iZ x.param
theorem rI (x:aB):A.ay 0 2 (aN x)=some (.agg (aN x)):=rfl
theorem C9 (x:aB):A.cells 2 (.agg (aN x))=some (aN x):=rfl
theorem HN (x:aB) (l:List AV) (h:l.length=2):A.splice 0 (aN x) l=some (aN x):=by
 simp [A.splice,ah7,h]
structure lK where
 key:aB
 level:Int
deriving DecidableEq
def dM (x:lK):List AV:=[.int .i64 x.key.unit,.str x.key.param,.int .i64 x.level]
theorem aei (x:lK):(dM x).length=3:=rfl
def WX (x:lK):Prop:=aay x.key∧aP x.level
theorem VI (x:lK) (l:List AV) (h:l.length=3):A.splice 0 (dM x) l=some (dM x):=by
 simp [A.splice,aei,h]
structure jU where
 number:Int
 title:ByteArray
 jL:(List lK)
def dN (x:jU):List AV:=[.int .i64 x.number,.str x.title,sl 3 dM x.jL]
theorem aeQ (x:jU):(dN x).length=3:=rfl
def zn (x:jU):Prop:=aP x.number∧iZ x.title∧(eW WX) x.jL
theorem Wp (x:jU) (l:List AV) (h:l.length=3):A.splice 0 (dN x) l=some (dN x):=by
 simp [A.splice,aeQ,h]
structure amH where
 apx:(List Int)
 block:Int
 apI:Int
structure lW where
 level:Int
 gj:Int
deriving DecidableEq
def uV (x:lW):List AV:=[.int .i64 x.level,.int .i64 x.gj]
def akr (x:lW):Prop:=aP x.level∧aP x.gj
structure fE where
 key:aB
 value:lW
 release:Bool
 yK:Bool
 delay:Int
 time:Int
deriving DecidableEq
def fG (x:fE):List AV:=[.int .i64 x.key.unit,.str x.key.param,.int .i64 x.value.level,.int .i64 x.value.gj,.bool x.release,.bool x.yK,.int .i64 x.delay,.int .i64 x.time]
theorem agY (x:fE):(fG x).length=8:=rfl
def Mq (x:fE):Prop:=aay x.key∧akr x.value∧aP x.delay∧aP x.time
theorem af8 (x:fE):A.aj 0 (fG x)=some (.int .i64 x.key.unit):=rfl
theorem af9 (x:fE):A.aj 1 (fG x)=some (.str x.key.param):=rfl
theorem aga (x:fE):A.aj 2 (fG x)=some (.int .i64 x.value.level):=rfl
theorem agb (x:fE):A.aj 3 (fG x)=some (.int .i64 x.value.gj):=rfl
theorem agc (x:fE):A.aj 4 (fG x)=some (.bool x.release):=rfl
theorem agd (x:fE):A.aj 5 (fG x)=some (.bool x.yK):=rfl
theorem age (x:fE):A.aj 6 (fG x)=some (.int .i64 x.delay):=rfl
theorem agf (x:fE):A.aj 7 (fG x)=some (.int .i64 x.time):=rfl
theorem aey (x:fE):A.ay 0 2 (fG x)=some (.agg (aN x.key)):=rfl
theorem adE (x:fE):A.ay 2 2 (fG x)=some (.agg (uV x.value)):=rfl
theorem aiU (x:fE):A.ay 0 8 (fG x)=some (.agg (fG x)):=rfl
theorem aib (x:fE):A.cells 8 (.agg (fG x))=some (fG x):=rfl
theorem LQ (x:fE) (l:List AV) (h:l.length=8):A.splice 0 (fG x) l=some (fG x):=by
 simp [A.splice,agY,h]
structure bf where
 number:Int
 title:ByteArray
 delay:Int
 up:Int
 down:Int
 other:Int
 fq:oM
 block:Bool
 follow:Int
 dm:(List fE)
def aZ (x:bf):List AV:=[.int .i64 x.number,.str x.title,.int .i64 x.delay,.int .i64 x.up,.int .i64 x.down,.int .i64 x.other,.int .i64 x.fq.kind,sl 2 gX x.fq.points,.bool x.block,.int .i64 x.follow,sl 8 fG x.dm]
theorem ah5 (x:bf):(aZ x).length=11:=rfl
def BW (x:bf):Prop:=aP x.number∧iZ x.title∧aP x.delay∧aP x.up∧aP x.down∧aP x.other∧akq x.fq∧aP x.follow∧(eW Mq) x.dm
theorem PZ (x:bf):A.aj 0 (aZ x)=some (.int .i64 x.number):=rfl
theorem ahA (x:bf):A.aj 1 (aZ x)=some (.str x.title):=rfl
theorem P0 (x:bf):A.aj 2 (aZ x)=some (.int .i64 x.delay):=rfl
theorem W9 (x:bf):A.aj 3 (aZ x)=some (.int .i64 x.up):=rfl
theorem P3 (x:bf):A.aj 4 (aZ x)=some (.int .i64 x.down):=rfl
theorem Xa (x:bf):A.aj 5 (aZ x)=some (.int .i64 x.other):=rfl
theorem ahB (x:bf):A.aj 6 (aZ x)=some (.int .i64 x.fq.kind):=rfl
theorem ahC (x:bf):A.aj 7 (aZ x)=some (sl 2 gX x.fq.points):=rfl
theorem ahD (x:bf):A.aj 8 (aZ x)=some (.bool x.block):=rfl
theorem Xb (x:bf):A.aj 9 (aZ x)=some (.int .i64 x.follow):=rfl
theorem V2 (x:bf):A.aj 10 (aZ x)=some (sl 8 fG x.dm):=rfl
theorem OF (x:bf):A.ay 6 2 (aZ x)=some (.agg (lN x.fq)):=rfl
theorem HK (x:bf):A.ay 0 11 (aZ x)=some (.agg (aZ x)):=rfl
theorem LY (x:bf):A.cells 11 (.agg (aZ x))=some (aZ x):=rfl
theorem HM (x:bf) (l:List AV) (h:l.length=11):A.splice 0 (aZ x) l=some (aZ x):=by
 simp [A.splice,ah5,h]
structure bh where
 key:aB
 value:lW
 bT:Int
deriving DecidableEq
def cM (x:bh):List AV:=[.int .i64 x.key.unit,.str x.key.param,.int .i64 x.value.level,.int .i64 x.value.gj,.int .i64 x.bT]
theorem afJ (x:bh):(cM x).length=5:=rfl
theorem ahR (x:bh) (l:List AV) (h:l.length=5):A.splice 0 (cM x) l=some (cM x):=by
 simp [A.splice,afJ,h]
structure alY where
 unit:Int
 dw:Int
 to:Int
deriving DecidableEq
structure iR where
 number:Int
 bE:(List bf)
def dU (x:iR):List AV:=[.int .i64 x.number,sl 11 aZ x.bE]
theorem agX (x:iR):(dU x).length=2:=rfl
def ZM (x:iR):Prop:=aP x.number∧(eW BW) x.bE
theorem af7 (x:iR):A.aj 0 (dU x)=some (.int .i64 x.number):=rfl
theorem Py (x:iR):A.aj 1 (dU x)=some (sl 11 aZ x.bE):=rfl
theorem aiT (x:iR):A.ay 0 2 (dU x)=some (.agg (dU x)):=rfl
theorem aia (x:iR):A.cells 2 (.agg (dU x))=some (dU x):=rfl
theorem LP (x:iR) (l:List AV) (h:l.length=2):A.splice 0 (dU x) l=some (dU x):=by
 simp [A.splice,agX,h]
structure lJ where
 number:Int
 list:Int
 priority:Int
deriving DecidableEq
def cz (x:lJ):List AV:=[.int .i64 x.number,.int .i64 x.list,.int .i64 x.priority]
theorem adV (x:lJ):(cz x).length=3:=rfl
def V0 (x:lJ):Prop:=aP x.number∧aP x.list∧aP x.priority
theorem adA (x:lJ):A.aj 0 (cz x)=some (.int .i64 x.number):=rfl
theorem adB (x:lJ):A.aj 1 (cz x)=some (.int .i64 x.list):=rfl
theorem adC (x:lJ):A.aj 2 (cz x)=some (.int .i64 x.priority):=rfl
theorem aez (x:lJ):A.ay 0 3 (cz x)=some (.agg (cz x)):=rfl
theorem aej (x:lJ):A.cells 3 (.agg (cz x))=some (cz x):=rfl
theorem Vk (x:lJ) (l:List AV) (h:l.length=3):A.splice 0 (cz x) l=some (cz x):=by
 simp [A.splice,adV,h]
structure gf where
 aQ:gr
 bH:(List jU)
 lists:(List iR)
 bF:(List lJ)
def bA (x:gf):List AV:=[sl 3 cm x.aQ.aY,sl 4 bU x.aQ.units,sl 3 dN x.bH,sl 2 dU x.lists,sl 3 cz x.bF]
def yw (x:gf):Prop:=BX x.aQ∧(eW zn) x.bH∧(eW ZM) x.lists∧(eW V0) x.bF
theorem VE (x:gf):A.aj 0 (bA x)=some (sl 3 cm x.aQ.aY):=rfl
structure dR where
 time:Int
 kind:Int
 jf:Int
 bT:Int
 level:Int
deriving DecidableEq
def bn (x:dR):List AV:=[.int .i64 x.time,.int .i64 x.kind,.int .i64 x.jf,.int .i64 x.bT,.int .i64 x.level]
def LI (x:dR):Prop:=aP x.time∧aP x.kind∧aP x.jf∧aP x.bT∧aP x.level
theorem aex (x:dR):A.aj 0 (bn x)=some (.int .i64 x.time):=rfl
theorem Fb (x:dR):A.ay 0 5 (bn x)=some (.agg (bn x)):=rfl
structure ak0 where
 nh:Int
 action:dR
deriving DecidableEq
structure ak3 where
 hours:Int
 minutes:Int
 seconds:Int
 frames:Int
deriving DecidableEq
structure aaL where
 key:aB
 jN:gE
 lX:Int
 ending:Bool
structure agQ where
 jf:Int
 bT:Int
 jg:Int
 apA:Bool
 follow:Int
 runs:(List aaL)
structure Vm where
 level:Int
 hold:Int
 jN:Int
deriving DecidableEq
structure Yr where
 form:Int
 low:Int
 high:Int
 apB:Int
 width:Int
 spread:Int
 back:Bool
 apw:Bool
 steps:(List Vm)
structure aaa where
 time:Int
 apy:Int
deriving DecidableEq
structure ah0 where
 effect:Yr
 keys:(List aB)
 start:Int
 apG:(List aaa)
 GD:Int
 fin:Int
 out:Int
def Kl:List AV→Heap→Option (AV×Heap):=A.cQ fun a b σ=>match a,b with
 |.str a,.str b=>some (.int .i64 (Lib.compareBytes a.data.toList b.data.toList),σ)
 |_,_=>none
def qt (a b:aB):Int:=if ¬(a.unit=b.unit)then(if a.unit<b.unit then -1 else 1)else Lib.compareBytes a.param.data.toList b.param.data.toList
def tX {α:Type} [Inhabited α] (cf:α→α→Int) (l:List α):List α:=(Sort.pdq (fun x y=>decide (cf x y<0)) l.toArray 0 l.length (Lib.bitLen l.length) true true).toList
noncomputable def A.Ib {α:Type} [Inhabited α] (sz:Nat) (c:α→List AV) (cf:α→α→Int) (x:AV) (σ:Heap):Option (AV×Heap):=match x with
 |.au=>some (.aG [],σ)
 |.os id g fO off len=>match σ[id]? with
  | some (.arr g' sz' es) => open Classical in if h : (g = g' ∧ sz = sz' ∧ fO = sz ∧ off + len ≤ es.length ∧ 0 < len ∧ len < 4611686018427387904) ∧ ∃ l : List α, (es.drop off).take len = l.map c then
    some (.aG [],σ.set id (.arr g sz (es.take off++(tX cf (Classical.choose h.2)).map c++es.drop (off+len))))else none
  |_=>none
 |_=>none
noncomputable def GM:List AV→Heap→Option (AV×Heap):=A.cQ fun x f σ=>match f with
 |.fn 297 []=>@A.Ib bh ⟨⟨⟨0,⟨#[]⟩⟩,⟨0,0⟩,0⟩⟩ 5 cM (fun a b=>qt a.key b.key) x σ
 |_=>none
section
set_option maxRecDepth 100000
noncomputable def JZ (dyn:Nat→List AV→Heap→Option (AV×Heap)) (a0 a1:AV) (σ:Heap):Option (AV×Heap):=
 (A.bJ a0).bind fun x1=>
 (A.loop (fun v2 s3=>
   (A.lss (v2.getD 1 AV.undef) x1).bind fun x5=>
   A.cond x5 (
    (A.aT 3 a0 (v2.getD 1 AV.undef)).bind fun x6=>
    ((A.deref x6 s3).bind fun c7=>A.ay 0 3 c7).bind fun x8=>
    (A.jF dyn a1 [x8] s3).bind fun r9=>
    A.cond r9.1 (
     some (AX.ret,[(v2.getD 1 AV.undef),(v2.getD 1 AV.undef)],r9.2)) (
     (A.add (v2.getD 1 AV.undef) aH).bind fun bG=>
     some (AX.normal,[(v2.getD 0 AV.undef),bG],r9.2))) (
    some (AX.exit 0,[(v2.getD 0 AV.undef),(v2.getD 1 AV.undef)],s3))) [ah,ah] σ).bind fun dF=>
 bif dF.1==AX.exit 0 then(
  A.fin σ (AV.int .i64 (-1)) dF.2.2)else
 bif dF.1==AX.ret then(
  A.fin σ (dF.2.1.getD 0 AV.undef) dF.2.2)else
 none
noncomputable def JY (dyn:Nat→List AV→Heap→Option (AV×Heap)):List AV→Heap→Option (AV×Heap):=A.wrap true [(.s 3)] .k (A.cQ (JZ dyn))
noncomputable def J6 (dyn:Nat→List AV→Heap→Option (AV×Heap)) (a0 a1:AV) (σ:Heap):Option (AV×Heap):=
 (A.bJ a0).bind fun x1=>
 (A.loop (fun v2 s3=>
   (A.lss (v2.getD 1 AV.undef) x1).bind fun x5=>
   A.cond x5 (
    (A.aT 8 a0 (v2.getD 1 AV.undef)).bind fun x6=>
    ((A.deref x6 s3).bind fun c7=>A.ay 0 8 c7).bind fun x8=>
    (A.jF dyn a1 [x8] s3).bind fun r9=>
    A.cond r9.1 (
     some (AX.ret,[(v2.getD 1 AV.undef),(v2.getD 1 AV.undef)],r9.2)) (
     (A.add (v2.getD 1 AV.undef) aH).bind fun bG=>
     some (AX.normal,[(v2.getD 0 AV.undef),bG],r9.2))) (
    some (AX.exit 0,[(v2.getD 0 AV.undef),(v2.getD 1 AV.undef)],s3))) [ah,ah] σ).bind fun dF=>
 bif dF.1==AX.exit 0 then(
  A.fin σ (AV.int .i64 (-1)) dF.2.2)else
 bif dF.1==AX.ret then(
  A.fin σ (dF.2.1.getD 0 AV.undef) dF.2.2)else
 none
noncomputable def GJ (dyn:Nat→List AV→Heap→Option (AV×Heap)):List AV→Heap→Option (AV×Heap):=A.wrap true [(.s 8)] .k (A.cQ (J6 dyn))
noncomputable def NJ (a0:AV) (σ:Heap):Option (AV×Heap):=
 (A.pU a0 AV.au).bind fun x1=>
 A.cond x1 (
  some (AV.au,σ)) (
  (A.append 2 (140737488355328 / 16) AV.ez a0 σ).bind fun r2=>
  some (r2.1,r2.2))
noncomputable def CF:List AV→Heap→Option (AV×Heap):=A.qq (A.wrap true [(.s 2)] .k (A.cK NJ))
noncomputable def NM (a0:AV) (σ:Heap):Option (AV×Heap):=
 (A.pU a0 AV.au).bind fun x1=>
 A.cond x1 (
  some (AV.au,σ)) (
  (A.append 8 (140737488355328 / 64) AV.ez a0 σ).bind fun r2=>
  some (r2.1,r2.2))
noncomputable def CH:List AV→Heap→Option (AV×Heap):=A.qq (A.wrap true [(.s 8)] .k (A.cK NM))
noncomputable def EG (dyn:Nat→List AV→Heap→Option (AV×Heap)) (a0 a1 a2:AV) (σ:Heap):Option (AV×Heap):=
 (A.bJ a0).bind fun x1=>
 (A.loop (fun v2 s3=>
   (A.lss (v2.getD 0 AV.undef) (v2.getD 1 AV.undef)).bind fun x5=>
   A.cond x5 (
    (A.add (v2.getD 0 AV.undef) (v2.getD 1 AV.undef)).bind fun x6=>
    (A.conv .u64 x6).bind fun x7=>
    (A.shr x7 (AV.int .u64 1)).bind fun x8=>
    (A.conv .i64 x8).bind fun x9=>
    (A.aT 11 a0 x9).bind fun bG=>
    ((A.deref bG s3).bind fun gm=>A.ay 0 11 gm).bind fun ct=>
    (A.jF dyn a2 [ct,a1] s3).bind fun qW=>
    (A.lss qW.1 ah).bind fun cE=>
    (A.cond cE (
     (A.add x9 aH).bind fun cG=>
     some ([cG,(v2.getD 1 AV.undef)],qW.2)) (
     some ([(v2.getD 0 AV.undef),x9],qW.2))).bind fun th=>
    some (AX.normal,[(th.1.getD 0 AV.undef),(th.1.getD 1 AV.undef)],th.2)) (
    some (AX.exit 0,[(v2.getD 0 AV.undef),(v2.getD 1 AV.undef)],s3))) [ah,x1] σ).bind fun tj=>
 bif tj.1==AX.exit 0 then(
  (A.lss (tj.2.1.getD 0 AV.undef) x1).bind fun bM=>
  (A.guard bM true (some a2) an).bind fun cC=>
  (A.guard bM true (some a0) an).bind fun cR=>
  (A.guard bM true (some (tj.2.1.getD 0 AV.undef)) an).bind fun bO=>
  (A.guard bM true (A.aT 11 cR bO) an).bind fun dh=>
  (A.guard bM true ((A.deref dh tj.2.2).bind fun eu=>A.ay 0 11 eu) an).bind fun x24=>
  (A.guard bM true (some a1) an).bind fun x25=>
  (A.guard bM true (A.quiet (A.jF dyn cC [x24,x25] tj.2.2) tj.2.2) an).bind fun fA=>
  (A.guard bM true (A.eql .i fA ah) an).bind fun dL=>
  (A.pick bM dL aM).bind fun x28=>
  A.fin σ (AV.aG [(tj.2.1.getD 0 AV.undef),x28]) tj.2.2)else
 none
noncomputable def EF (dyn:Nat→List AV→Heap→Option (AV×Heap)):List AV→Heap→Option (AV×Heap):=A.wrap true [(.s 11)] .k (A.lp (EG dyn))
noncomputable def Ul (a0:AV) (σ:Heap):Option (AV×Heap):=
 (A.pU a0 AV.au).bind fun x1=>
 A.cond x1 (
  some (AV.au,σ)) (
  (A.append 11 (140737488355328 / 128) AV.ez a0 σ).bind fun r2=>
  some (r2.1,r2.2))
noncomputable def CI:List AV→Heap→Option (AV×Heap):=A.qq (A.wrap true [(.s 11)] .k (A.cK Ul))
noncomputable def J7 (dyn:Nat→List AV→Heap→Option (AV×Heap)) (a0 a1:AV) (σ:Heap):Option (AV×Heap):=
 (A.bJ a0).bind fun x1=>
 (A.loop (fun v2 s3=>
   (A.lss (v2.getD 1 AV.undef) x1).bind fun x5=>
   A.cond x5 (
    (A.aT 11 a0 (v2.getD 1 AV.undef)).bind fun x6=>
    ((A.deref x6 s3).bind fun c7=>A.ay 0 11 c7).bind fun x8=>
    (A.jF dyn a1 [x8] s3).bind fun r9=>
    A.cond r9.1 (
     some (AX.ret,[(v2.getD 1 AV.undef),(v2.getD 1 AV.undef)],r9.2)) (
     (A.add (v2.getD 1 AV.undef) aH).bind fun bG=>
     some (AX.normal,[(v2.getD 0 AV.undef),bG],r9.2))) (
    some (AX.exit 0,[(v2.getD 0 AV.undef),(v2.getD 1 AV.undef)],s3))) [ah,ah] σ).bind fun dF=>
 bif dF.1==AX.exit 0 then(
  A.fin σ (AV.int .i64 (-1)) dF.2.2)else
 bif dF.1==AX.ret then(
  A.fin σ (dF.2.1.getD 0 AV.undef) dF.2.2)else
 none
noncomputable def GL (dyn:Nat→List AV→Heap→Option (AV×Heap)):List AV→Heap→Option (AV×Heap):=A.wrap true [(.s 11)] .k (A.cQ (J7 dyn))
noncomputable def NG (a0 a1:AV) (σ:Heap):Option (AV×Heap):=
 (A.bJ a0).bind fun x1=>
 (A.bJ a1).bind fun x2=>
 (A.neq .i x1 x2).bind fun x3=>
 A.cond x3 (
  A.fin σ aM σ) (
  (A.bJ a0).bind fun x4=>
  (A.loop (fun v5 s6=>
    (A.lss (v5.getD 1 AV.undef) x4).bind fun x8=>
    A.cond x8 (
     (A.aT 3 a0 (v5.getD 1 AV.undef)).bind fun x9=>
     ((A.deref x9 s6).bind fun dZ=>A.ay 0 3 dZ).bind fun bW=>
     (A.aT 3 a1 (v5.getD 1 AV.undef)).bind fun ct=>
     ((A.deref ct s6).bind fun gH=>A.ay 0 3 gH).bind fun cE=>
     (A.neq (.s [0,2,0]) bW cE).bind fun dg=>
     A.cond dg (
      some (AX.ret,[aM,(v5.getD 1 AV.undef)],s6)) (
      (A.add (v5.getD 1 AV.undef) aH).bind fun cG=>
      some (AX.normal,[(v5.getD 0 AV.undef),cG],s6))) (
     some (AX.exit 0,[(v5.getD 0 AV.undef),(v5.getD 1 AV.undef)],s6))) [aM,ah] σ).bind fun tj=>
  bif tj.1==AX.exit 0 then(
   A.fin σ cI tj.2.2)else
  bif tj.1==AX.ret then(
   A.fin σ (tj.2.1.getD 0 AV.undef) tj.2.2)else
  none)
noncomputable def GK:List AV→Heap→Option (AV×Heap):=A.wrap true [(.s 3),(.s 3)] .k (A.cQ NG)
noncomputable def J5 (dyn:Nat→List AV→Heap→Option (AV×Heap)) (a0 a1:AV) (σ:Heap):Option (AV×Heap):=
 (A.bJ a0).bind fun x1=>
 (A.loop (fun v2 s3=>
   (A.lss (v2.getD 1 AV.undef) x1).bind fun x5=>
   A.cond x5 (
    (A.aT 2 a0 (v2.getD 1 AV.undef)).bind fun x6=>
    ((A.deref x6 s3).bind fun c7=>A.ay 0 2 c7).bind fun x8=>
    (A.jF dyn a1 [x8] s3).bind fun r9=>
    A.cond r9.1 (
     some (AX.ret,[(v2.getD 1 AV.undef),(v2.getD 1 AV.undef)],r9.2)) (
     (A.add (v2.getD 1 AV.undef) aH).bind fun bG=>
     some (AX.normal,[(v2.getD 0 AV.undef),bG],r9.2))) (
    some (AX.exit 0,[(v2.getD 0 AV.undef),(v2.getD 1 AV.undef)],s3))) [ah,ah] σ).bind fun dF=>
 bif dF.1==AX.exit 0 then(
  A.fin σ (AV.int .i64 (-1)) dF.2.2)else
 bif dF.1==AX.ret then(
  A.fin σ (dF.2.1.getD 0 AV.undef) dF.2.2)else
 none
noncomputable def J4 (dyn:Nat→List AV→Heap→Option (AV×Heap)):List AV→Heap→Option (AV×Heap):=A.wrap true [(.s 2)] .k (A.cQ (J5 dyn))
noncomputable def JX (dyn:Nat→List AV→Heap→Option (AV×Heap)) (a0 a1:AV) (σ:Heap):Option (AV×Heap):=
 (A.bJ a0).bind fun x1=>
 (A.loop (fun v2 s3=>
   (A.lss (v2.getD 1 AV.undef) x1).bind fun x5=>
   A.cond x5 (
    (A.aT 3 a0 (v2.getD 1 AV.undef)).bind fun x6=>
    ((A.deref x6 s3).bind fun c7=>A.ay 0 3 c7).bind fun x8=>
    (A.jF dyn a1 [x8] s3).bind fun r9=>
    A.cond r9.1 (
     some (AX.ret,[(v2.getD 1 AV.undef),(v2.getD 1 AV.undef)],r9.2)) (
     (A.add (v2.getD 1 AV.undef) aH).bind fun bG=>
     some (AX.normal,[(v2.getD 0 AV.undef),bG],r9.2))) (
    some (AX.exit 0,[(v2.getD 0 AV.undef),(v2.getD 1 AV.undef)],s3))) [ah,ah] σ).bind fun dF=>
 bif dF.1==AX.exit 0 then(
  A.fin σ (AV.int .i64 (-1)) dF.2.2)else
 bif dF.1==AX.ret then(
  A.fin σ (dF.2.1.getD 0 AV.undef) dF.2.2)else
 none
noncomputable def JW (dyn:Nat→List AV→Heap→Option (AV×Heap)):List AV→Heap→Option (AV×Heap):=A.wrap true [(.s 3)] .k (A.cQ (JX dyn))
noncomputable def JV (dyn:Nat→List AV→Heap→Option (AV×Heap)) (a0 a1:AV) (σ:Heap):Option (AV×Heap):=
 (JW dyn [a0,a1] σ).bind fun r1=>
 (A.geq r1.1 ah).bind fun x2=>
 A.fin σ x2 r1.2
noncomputable def JU (dyn:Nat→List AV→Heap→Option (AV×Heap)):List AV→Heap→Option (AV×Heap):=A.wrap true [(.s 3)] .k (A.cQ (JV dyn))
noncomputable def ND (a0:AV) (σ:Heap):Option (AV×Heap):=
 (A.pU a0 AV.au).bind fun x1=>
 A.cond x1 (
  some (AV.au,σ)) (
  (A.append 3 (140737488355328 / 24) AV.ez a0 σ).bind fun r2=>
  some (r2.1,r2.2))
noncomputable def NC:List AV→Heap→Option (AV×Heap):=A.qq (A.wrap true [(.s 3)] .k (A.cK ND))
noncomputable def NN (a0:AV) (σ:Heap):Option (AV×Heap):=
 (A.pU a0 AV.au).bind fun x1=>
 A.cond x1 (
  some (AV.au,σ)) (
  (A.append 4 (140737488355328 / 40) AV.ez a0 σ).bind fun r2=>
  some (r2.1,r2.2))
noncomputable def NL:List AV→Heap→Option (AV×Heap):=A.qq (A.wrap true [(.s 4)] .k (A.cK NN))
noncomputable def Uk (a0:AV) (σ:Heap):Option (AV×Heap):=
 (A.pU a0 AV.au).bind fun x1=>
 A.cond x1 (
  some (AV.au,σ)) (
  (A.append 7 (140737488355328 / 80) AV.ez a0 σ).bind fun r2=>
  some (r2.1,r2.2))
noncomputable def EL:List AV→Heap→Option (AV×Heap):=A.qq (A.wrap true [(.s 7)] .k (A.cK Uk))
noncomputable def NK (a0:AV) (σ:Heap):Option (AV×Heap):=
 (A.pU a0 AV.au).bind fun x1=>
 A.cond x1 (
  some (AV.au,σ)) (
  (A.append 3 (140737488355328 / 32) AV.ez a0 σ).bind fun r2=>
  some (r2.1,r2.2))
noncomputable def CG:List AV→Heap→Option (AV×Heap):=A.qq (A.wrap true [(.s 3)] .k (A.cK NK))
noncomputable def NF (a0:AV) (σ:Heap):Option (AV×Heap):=
 (A.pU a0 AV.au).bind fun x1=>
 A.cond x1 (
  some (AV.au,σ)) (
  (A.append 3 (140737488355328 / 32) AV.ez a0 σ).bind fun r2=>
  some (r2.1,r2.2))
noncomputable def EH:List AV→Heap→Option (AV×Heap):=A.qq (A.wrap true [(.s 3)] .k (A.cK NF))
noncomputable def NH (a0:AV) (σ:Heap):Option (AV×Heap):=
 (A.pU a0 AV.au).bind fun x1=>
 A.cond x1 (
  some (AV.au,σ)) (
  (A.append 5 (140737488355328 / 40) AV.ez a0 σ).bind fun r2=>
  some (r2.1,r2.2))
noncomputable def J8:List AV→Heap→Option (AV×Heap):=A.qq (A.wrap false [] .k (A.cK NH))
noncomputable def EJ (a0:AV) (σ:Heap):Option (AV×Heap):=
 (A.pU a0 AV.au).bind fun x1=>
 A.cond x1 (
  some (AV.au,σ)) (
  (A.append 10 (140737488355328 / 96) AV.ez a0 σ).bind fun r2=>
  some (r2.1,r2.2))
noncomputable def EI:List AV→Heap→Option (AV×Heap):=A.qq (A.wrap false [] .k (A.cK EJ))
noncomputable def J3 (dyn:Nat→List AV→Heap→Option (AV×Heap)) (a0 a1:AV) (σ:Heap):Option (AV×Heap):=
 (A.bJ a0).bind fun x1=>
 (A.loop (fun v2 s3=>
   (A.lss (v2.getD 1 AV.undef) x1).bind fun x5=>
   A.cond x5 (
    (A.aT 10 a0 (v2.getD 1 AV.undef)).bind fun x6=>
    ((A.deref x6 s3).bind fun c7=>A.ay 0 10 c7).bind fun x8=>
    (A.jF dyn a1 [x8] s3).bind fun r9=>
    A.cond r9.1 (
     some (AX.ret,[(v2.getD 1 AV.undef),(v2.getD 1 AV.undef)],r9.2)) (
     (A.add (v2.getD 1 AV.undef) aH).bind fun bG=>
     some (AX.normal,[(v2.getD 0 AV.undef),bG],r9.2))) (
    some (AX.exit 0,[(v2.getD 0 AV.undef),(v2.getD 1 AV.undef)],s3))) [ah,ah] σ).bind fun dF=>
 bif dF.1==AX.exit 0 then(
  A.fin σ (AV.int .i64 (-1)) dF.2.2)else
 bif dF.1==AX.ret then(
  A.fin σ (dF.2.1.getD 0 AV.undef) dF.2.2)else
 none
noncomputable def GI (dyn:Nat→List AV→Heap→Option (AV×Heap)):List AV→Heap→Option (AV×Heap):=A.wrap true [(.s 10)] .k (A.cQ (J3 dyn))
end
section
set_option maxRecDepth 100000
noncomputable def PD (a0:AV) (σ:Heap):Option (AV×Heap):=
 (A.Cn a0).bind fun x1=>
 (A.loop (fun v2 s3=>
   (A.lss (v2.getD 1 AV.undef) x1).bind fun x5=>
   A.cond x5 (
    (A.tc a0 (v2.getD 1 AV.undef)).bind fun x6=>
    (A.geq x6 (AV.int .u8 97)).bind fun x7=>
    (A.guard x7 true (some x6) an).bind fun x8=>
    (A.guard x7 true (A.leq x8 (AV.int .u8 122)) an).bind fun x9=>
    (A.pick x7 x9 aM).bind fun bG=>
    (A.guard bG false (some x6) an).bind fun bW=>
    (A.guard bG false (A.geq bW (AV.int .u8 48)) an).bind fun ct=>
    (A.guard bG false (some ct) an).bind fun dG=>
    (A.guard dG true (some x6) an).bind fun cE=>
    (A.guard dG true (A.leq cE (AV.int .u8 57)) an).bind fun dg=>
    (A.guard bG false (A.pick dG dg aM) an).bind fun cG=>
    (A.pick bG cI cG).bind fun cB=>
    (A.guard cB false (some x6) an).bind fun bM=>
    (A.guard cB false (A.eql .i bM (AV.int .u8 45)) an).bind fun cC=>
    (A.pick cB cI cC).bind fun cR=>
    (A.not cR).bind fun bO=>
    A.cond bO (
     some (AX.ret,[aM,(v2.getD 1 AV.undef)],s3)) (
     (A.add (v2.getD 1 AV.undef) aH).bind fun dh=>
     some (AX.normal,[(v2.getD 0 AV.undef),dh],s3))) (
    some (AX.exit 0,[(v2.getD 0 AV.undef),(v2.getD 1 AV.undef)],s3))) [aM,ah] σ).bind fun nv=>
 bif nv.1==AX.exit 0 then(
  (A.neq .z a0 br).bind fun x24=>
  A.fin σ x24 nv.2.2)else
 bif nv.1==AX.ret then(
  A.fin σ (nv.2.1.getD 0 AV.undef) nv.2.2)else
 none
noncomputable def Pv:List AV→Heap→Option (AV×Heap):=A.wrap true [] .k (A.cK PD)
noncomputable def Pd (a0:AV) (σ:Heap):Option (AV×Heap):=
 (Pv [a0] σ).bind fun r1=>
 (A.guard r1.1 true (some a0) an).bind fun x2=>
 (A.guard r1.1 true (A.Cn x2) an).bind fun x3=>
 (A.guard r1.1 true (A.leq x3 (AV.int .i64 20)) an).bind fun x4=>
 (A.pick r1.1 x4 aM).bind fun x5=>
 (A.guard x5 true (some a0) an).bind fun x6=>
 (A.guard x5 true (A.tc x6 ah) an).bind fun x7=>
 (A.guard x5 true (A.geq x7 (AV.int .u8 97)) an).bind fun x8=>
 (A.pick x5 x8 aM).bind fun x9=>
 (A.guard x9 true (some a0) an).bind fun bG=>
 (A.guard x9 true (A.tc bG ah) an).bind fun bW=>
 (A.guard x9 true (A.leq bW (AV.int .u8 122)) an).bind fun ct=>
 (A.pick x9 ct aM).bind fun dG=>
 A.fin σ dG r1.2
noncomputable def E6:List AV→Heap→Option (AV×Heap):=A.wrap true [] .k (A.cK Pd)
noncomputable def OK (a0 a1 a2:AV) (σ:Heap):Option (AV×Heap):=
 (A.geq a0 a1).bind fun x1=>
 (A.guard x1 true (some a0) an).bind fun x2=>
 (A.guard x1 true (some a2) an).bind fun x3=>
 (A.guard x1 true (A.leq x2 x3) an).bind fun x4=>
 (A.pick x1 x4 aM).bind fun x5=>
 A.fin σ x5 σ
noncomputable def jE:List AV→Heap→Option (AV×Heap):=A.wrap true [] .k (A.lp OK)
noncomputable def Pe (a0 a1:AV) (σ:Heap):Option (AV×Heap):=
 A.cond a0 (
  A.fin σ a1 σ) (
  A.fin σ ah σ)
noncomputable def rC:List AV→Heap→Option (AV×Heap):=A.wrap true [] .k (A.cQ Pe)
noncomputable def OU (a0:AV) (σ:Heap):Option (AV×Heap):=
 (A.bJ a0).bind fun x1=>
 (A.loop (fun v2 s3=>
   (A.lss (v2.getD 1 AV.undef) x1).bind fun x5=>
   A.cond x5 (
    (A.aT 1 a0 (v2.getD 1 AV.undef)).bind fun x6=>
    ((A.deref x6 s3).bind fun c7=>A.aj 0 c7).bind fun x8=>
    (A.neq .i x8 ah).bind fun x9=>
    A.cond x9 (
     some (AX.ret,[x8,(v2.getD 1 AV.undef)],s3)) (
     (A.add (v2.getD 1 AV.undef) aH).bind fun bG=>
     some (AX.normal,[(v2.getD 0 AV.undef),bG],s3))) (
    some (AX.exit 0,[(v2.getD 0 AV.undef),(v2.getD 1 AV.undef)],s3))) [ah,ah] σ).bind fun dF=>
 bif dF.1==AX.exit 0 then(
  A.fin σ ah dF.2.2)else
 bif dF.1==AX.ret then(
  A.fin σ (dF.2.1.getD 0 AV.undef) dF.2.2)else
 none
noncomputable def ya:List AV→Heap→Option (AV×Heap):=A.wrap true [(.s 1)] .k (A.cK OU)
noncomputable def OX (a0:AV) (σ:Heap):Option (AV×Heap):=
 (A.Cn a0).bind fun x1=>
 (A.loop (fun v2 s3=>
   (A.lss (v2.getD 1 AV.undef) x1).bind fun x5=>
   A.cond x5 (
    (A.tc a0 (v2.getD 1 AV.undef)).bind fun x6=>
    (A.lss x6 (AV.int .u8 32)).bind fun x7=>
    (A.guard x7 false (some a0) an).bind fun x8=>
    (A.guard x7 false (some (v2.getD 1 AV.undef)) an).bind fun x9=>
    (A.guard x7 false (A.tc x8 x9) an).bind fun bG=>
    (A.guard x7 false (A.gtr bG (AV.int .u8 126)) an).bind fun bW=>
    (A.pick x7 cI bW).bind fun ct=>
    A.cond ct (
     some (AX.ret,[aM,(v2.getD 1 AV.undef)],s3)) (
     (A.add (v2.getD 1 AV.undef) aH).bind fun dG=>
     some (AX.normal,[(v2.getD 0 AV.undef),dG],s3))) (
    some (AX.exit 0,[(v2.getD 0 AV.undef),(v2.getD 1 AV.undef)],s3))) [aM,ah] σ).bind fun i6=>
 bif i6.1==AX.exit 0 then(
  (A.neq .z a0 br).bind fun dg=>
  (A.guard dg true (some a0) an).bind fun cG=>
  (A.guard dg true (A.Cn cG) an).bind fun cB=>
  (A.guard dg true (A.leq cB (AV.int .i64 60)) an).bind fun bM=>
  (A.pick dg bM aM).bind fun cC=>
  (A.guard cC true (some a0) an).bind fun cR=>
  (A.guard cC true (A.tc cR ah) an).bind fun bO=>
  (A.guard cC true (A.neq .i bO (AV.int .u8 32)) an).bind fun dh=>
  (A.pick cC dh aM).bind fun eP=>
  (A.guard eP true (some a0) an).bind fun x24=>
  (A.guard eP true (some a0) an).bind fun x25=>
  (A.guard eP true (A.Cn x25) an).bind fun fA=>
  (A.guard eP true (A.sub fA aH) an).bind fun dL=>
  (A.guard eP true (A.tc x24 dL) an).bind fun x28=>
  (A.guard eP true (A.neq .i x28 (AV.int .u8 32)) an).bind fun x29=>
  (A.pick eP x29 aM).bind fun cL=>
  A.fin σ cL i6.2.2)else
 bif i6.1==AX.ret then(
  A.fin σ (i6.2.1.getD 0 AV.undef) i6.2.2)else
 none
noncomputable def KC:List AV→Heap→Option (AV×Heap):=A.wrap true [] .k (A.cK OX)
noncomputable def OV (a0 a1:AV) (σ:Heap):Option (AV×Heap):=
 (A.quo a0 a1).bind fun x1=>
 (A.rem a0 a1).bind fun x2=>
 (A.lss x2 ah).bind fun x3=>
 (A.cond x3 (
  (A.sub x1 aH).bind fun x5=>
  some ([x5],σ)) (
  some ([x1],σ))).bind fun r4=>
 A.fin σ (r4.1.getD 0 AV.undef) r4.2
noncomputable def ON:List AV→Heap→Option (AV×Heap):=A.wrap true [] .k (A.cQ OV)
noncomputable def OW (a0 a1:AV) (σ:Heap):Option (AV×Heap):=
 (A.mul (AV.int .i64 2) a0).bind fun x1=>
 (A.add x1 a1).bind fun x2=>
 (A.mul (AV.int .i64 2) a1).bind fun x3=>
 (ON [x2,x3] σ).bind fun r4=>
 A.fin σ r4.1 r4.2
noncomputable def OO:List AV→Heap→Option (AV×Heap):=A.wrap true [] .k (A.cQ OW)
end
end Go.Proofs.YtooknfkholjpbaaGreat
