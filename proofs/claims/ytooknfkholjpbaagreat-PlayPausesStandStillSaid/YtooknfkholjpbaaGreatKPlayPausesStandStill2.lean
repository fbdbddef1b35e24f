/- Parts of the proof of PlayPausesStandStill, in order. -/
import Derived.Orders
import Derived.Below
import Derived.WalkKit
import Derived.Laws.StructEq
import Derived.Laws.Append
import Derived.Laws.AppendOwn
import Derived.Test.YtooknfkholjpbaaGreatRows
import Derived.KernelRfl
import Derived.Lib.Bytealg
import Derived.Sort.Defs
import Derived.Lib.BitFns
import Derived.Test.YtooknfkholjpbaaGreatKPlayPausesStandStill1
namespace Go.Proofs.YtooknfkholjpbaaGreat
set_option linter.unusedVariables false
set_option linter.unusedSimpArgs false
set_option linter.unusedSectionVars false
section
open Go.RowKit
section
variable {c : RC}
theorem Lz {k:Nat} {x y:AV} {v u:Value} (n:Nat) (h:A.l9 k x y=some true) (r:ak c x v) (q:ak c y u):Instr.sameBits n u v=true:=by
 unfold A.l9 at h
 split at h
 ·unfold A.mI at h;split at h
  ·simp only[ak]at r q;split at h
   ·injection h with h;subst_vars;simp at h;subst h;simp [Instr.sameBits]
   ·cases h
  ·cases h
 ·unfold A.vF at h;split at h
  ·simp only[ak]at r q;injection h with h;subst_vars;simp at h;subst h;simp [Instr.sameBits]
  ·cases h
 ·unfold A.oH at h;split at h
  ·simp only[ak]at r q;injection h with h;subst_vars;simp only[Instr.sameBits];rename_i a b
   rw[H8]at h ⊢
   rw[beq_iff_eq]at h ⊢
   exact h.symm
  ·cases h
 ·cases h
theorem VQ (n:Nat):∀{ks:List Nat} {xs ys:List AV} {vs us:List Value},A.fV ks xs ys=some true→aI c xs vs→aI c ys us→us.length=vs.length∧((us.zip vs).all fun(p:Value×Value)=>Instr.sameBits n p.1 p.2)=true
 |[],[],[],vs,us,_,r,q=>by simp only[aI]at r q;subst r;subst q;simp
 |[],[],_::_,_,_,h,_,_=>by simp [A.fV]at h
 |[],_::_,_,_,_,h,_,_=>by simp [A.fV]at h
 |_::_,[],_,_,_,h,_,_=>by simp [A.fV]at h
 |_::_,_::_,[],_,_,h,_,_=>by simp [A.fV]at h
 |k::ks,x::xs,y::ys,vs,us,h,r,q=>by
  simp only[A.fV]at h
  obtain⟨p,h1,h2⟩:=Option.bind_eq_some_iff.1 h
  obtain⟨p',h3,h4⟩:=Option.map_eq_some_iff.1 h2
  simp only[Bool.and_eq_true]at h4
  obtain⟨rfl,rfl⟩:=h4
  simp only[aI]at r q
  obtain⟨v,vs',rfl,r1,r2⟩:=r
  obtain⟨u,us',rfl,q1,q2⟩:=q
  obtain⟨i1,i2⟩:=VQ n h3 r2 q2
  exact⟨by simp [i1],by simp [Lz n h1 r1 q1];simpa using i2⟩
theorem aif {e:A.EK} {x y:AV} {v u:Value} (hk:A.jq e x=true) (h:A.dZ e x y=some true) (r:ak c x v) (q:ak c y u):Instr.sameBits 10000 u v=true:=by
 cases e<;>simp only[A.dZ]at h
 case i=>exact Lz (k:=0) _ h r q
 case b=>exact Lz (k:=1) _ h r q
 case z=>exact Lz (k:=2) _ h r q
 case p=>cases x<;>simp [A.jq]at hk
 case s ks=>
  split at h
  ·simp only[ak]at r q
   obtain⟨vs,rfl,r1,_⟩:=r
   obtain⟨us,rfl,q1,_⟩:=q
   obtain⟨i1,i2⟩:=VQ 9999 h r1 q1
   show Instr.sameBits (9999+1) _ _=true
   simp only[Instr.sameBits,Bool.and_eq_true]
   exact⟨by simpa using i1,i2⟩
  ·cases h
theorem Z1 {e:A.EK} {k v:AV}:∀{bn kq:List (AV×AV)} {i:Nat} {ix:Option Nat},A.upd e k v bn=some kq→A.sP e k bn i=some ix→
  (ix=none∧kq=bn++[(k,v)])∨∃j p,ix=some (i+j)∧bn[j]? =some p∧A.dZ e k p.1=some true∧kq=bn.set j (k,v)
 |[],kq,i,ix,h,g=>by simp only[A.upd,A.sP]at h g;injection h with h;injection g with g;exact .inl ⟨g.symm,by simpa using h.symm⟩
 |(k',v')::bn,kq,i,ix,h,g=>by
  simp only[A.upd,A.sP]at h g
  obtain⟨b,h1,h2⟩:=Option.bind_eq_some_iff.1 h
  rw[h1,Option.bind_some]at g
  cases b
  ·simp only[cond_false]at h2 g
   obtain⟨e2,h3,h4⟩:=Option.map_eq_some_iff.1 h2
   rcases Z1 h3 g with⟨rfl,rfl⟩|⟨j,p,rfl,k1,k2,rfl⟩
   ·exact .inl ⟨rfl,by simpa using h4.symm⟩
   ·exact .inr ⟨j+1,p,by congr 1;omega,by simpa using k1,k2,by simpa using h4.symm⟩
  ·simp only[cond_true]at h2 g
   injection h2 with h2;injection g with g
   exact .inr ⟨0,(k',v'),g.symm,rfl,h1,by simpa using h2.symm⟩
theorem Zo {e:A.EK} {k:AV}:∀{bn kq:List (AV×AV)} {i:Nat} {ix:Option Nat},A.del e k bn=some kq→A.sP e k bn i=some ix→
  (ix=none∧kq=bn)∨∃j,ix=some (i+j)∧j<bn.length∧kq=bn.eraseIdx j
 |[],kq,i,ix,h,g=>by simp only[A.del,A.sP]at h g;injection h with h;injection g with g;exact .inl ⟨g.symm,h.symm⟩
 |(k',v')::bn,kq,i,ix,h,g=>by
  simp only[A.del,A.sP]at h g
  obtain⟨b,h1,h2⟩:=Option.bind_eq_some_iff.1 h
  rw[h1,Option.bind_some]at g
  cases b
  ·simp only[cond_false]at h2 g
   obtain⟨e2,h3,h4⟩:=Option.map_eq_some_iff.1 h2
   rcases Zo h3 g with⟨rfl,rfl⟩|⟨j,rfl,k1,rfl⟩
   ·exact .inl ⟨rfl,by simpa using h4.symm⟩
   ·exact .inr ⟨j+1,by congr 1;omega,by simpa using k1,by simpa using h4.symm⟩
  ·simp only[cond_true]at h2 g
   injection h2 with h2;injection g with g
   exact .inr ⟨0,g.symm,by simp,by simpa using h2.symm⟩
theorem WQ {e:A.EK} {k v:AV}:∀{bn kq:List (AV×AV)},A.upd e k v bn=some kq→∃r,A.find e k bn=some r
 |[],kq,_=>⟨none,rfl⟩
 |(k',v')::bn,kq,g=>by
  simp only[A.upd]at g
  obtain⟨b,h1,h2⟩:=Option.bind_eq_some_iff.1 g
  cases b
  ·obtain⟨e2,h3,_⟩:=Option.map_eq_some_iff.1 (by simpa using h2)
   obtain⟨r,hr⟩:=WQ h3
   exact⟨r,by simp [A.find,h1,hr]⟩
  ·exact⟨some v',by simp [A.find,h1]⟩
theorem WO {e:A.EK} {k:AV}:∀{bn kq:List (AV×AV)},A.del e k bn=some kq→∃r,A.find e k bn=some r
 |[],kq,_=>⟨none,rfl⟩
 |(k',v')::bn,kq,g=>by
  simp only[A.del]at g
  obtain⟨b,h1,h2⟩:=Option.bind_eq_some_iff.1 g
  cases b
  ·obtain⟨e2,h3,_⟩:=Option.map_eq_some_iff.1 (by simpa using h2)
   obtain⟨r,hr⟩:=WO h3
   exact⟨r,by simp [A.find,h1,hr]⟩
  ·exact⟨some v',by simp [A.find,h1]⟩
theorem cA.nth:∀{l:List (AV×AV)} {es:List MapEntry} {i:Nat} {p:AV×AV},cA c l es→l[i]? =some p→∃e,es[i]? =some e∧ak c p.1 e.key∧ak c p.2 e.val
 |[],es,i,p,h,k=>by simp at k
 |(a,b)::l,es,0,p,h,k=>by
  obtain⟨e,es',rfl,h1,h2,_⟩:=h
  simp at k;subst k
  exact⟨e,rfl,h1,h2⟩
 |(a,b)::l,es,i+1,p,h,k=>by
  obtain⟨e,es',rfl,_,_,h3⟩:=h
  simp at k
  obtain⟨e',k1,k2⟩:=cA.nth h3 k
  exact⟨e',by simpa using k1,k2⟩
theorem cA.set {k v:AV} {key val:Value} (rk:ak c k key) (rv:ak c v val):∀{l:List (AV×AV)} {es:List MapEntry} (j:Nat),cA c l es→cA c (l.set j (k,v)) (es.modify j fun e=>{e with key,val})
 |[],es,j,h=>by simp only[cA]at h;subst h;simp [cA]
 |(a,b)::l,es,0,h=>by
  obtain⟨e,es',rfl,h1,h2,h3⟩:=h
  exact⟨_,_,rfl,rk,rv,h3⟩
 |(a,b)::l,es,j+1,h=>by
  obtain⟨e,es',rfl,h1,h2,h3⟩:=h
  exact⟨e,_,rfl,h1,h2,cA.set rk rv j h3⟩
theorem cA.push {k v:AV} {key val:Value} {n:Nat} (rk:ak c k key) (rv:ak c v val):∀{l:List (AV×AV)} {es:List MapEntry},cA c l es→cA c (l++[(k,v)]) (es++[⟨key,val,n⟩])
 |[],es,h=>by simp only[cA]at h;subst h;exact⟨_,_,rfl,rk,rv,rfl⟩
 |(a,b)::l,es,h=>by
  obtain⟨e,es',rfl,h1,h2,h3⟩:=h
  exact⟨e,_,rfl,h1,h2,cA.push rk rv h3⟩
theorem cA.erase:∀{l:List (AV×AV)} {es:List MapEntry} (j:Nat),cA c l es→cA c (l.eraseIdx j) (es.eraseIdx j)
 |[],es,j,h=>by simp only[cA]at h;subst h;simp [cA]
 |(a,b)::l,es,0,h=>by obtain⟨e,es',rfl,h1,h2,h3⟩:=h;exact h3
 |(a,b)::l,es,j+1,h=>by
  obtain⟨e,es',rfl,h1,h2,h3⟩:=h
  exact⟨e,_,rfl,h1,h2,cA.erase j h3⟩
end
theorem oV.push {es:Array MapEntry} {clock:Nat} {key val:Value} (h:oV es clock):oV (es.push ⟨key,val,clock⟩) (clock+1):=by
 refine⟨fun e he=>?_,?_⟩
 ·simp only[Array.toList_push,List.mem_append,List.mem_singleton]at he
  rcases he with he|rfl
  ·have:=h.1 e he;omega
  ·exact Nat.lt_succ_self _
 ·simp only[Array.toList_push,List.map_append,List.map_cons,List.map_nil]
  rw[List.nodup_append]
  refine⟨h.2,by simp,fun a ha b hb=>?_⟩
  obtain⟨e,he,rfl⟩:=List.mem_map.1 ha
  have:=h.1 e he
  simp at hb;omega
theorem Vz (key val:Value):∀(l:List MapEntry) (i:Nat),(l.modify i fun e=>{e with key,val}).map (·.born)=l.map (·.born)
 |[],i=>by simp
 |e::l,0=>by simp
 |e::l,i+1=>by simp [Vz key val l i]
theorem oV.modify {es:Array MapEntry} {clock i:Nat} {key val:Value} (h:oV es clock):oV (es.modify i fun e=>{e with key,val}) clock:=by
 have hb:(es.modify i fun e=>{e with key,val}).toList.map (·.born)=es.toList.map (·.born):=by
  rw[Array.toList_modify,Vz]
 refine⟨fun e he=>?_,by rw[hb];exact h.2⟩
 have:e.born∈es.toList.map (·.born):=by rw[←hb];exact List.mem_map.2 ⟨e,he,rfl⟩
 obtain⟨e',he',e1⟩:=List.mem_map.1 this
 rw[←e1];exact h.1 e' he'
theorem oV.erase {es:Array MapEntry} {clock i:Nat} (h:oV es clock):oV (es.eraseIdxIfInBounds i) clock:=by
 by_cases hi:i<es.size
 ·have hee:(es.eraseIdxIfInBounds i).toList=es.toList.eraseIdx i:=by simp [Array.eraseIdxIfInBounds,hi]
  refine⟨fun e he=>h.1 e (by rw[hee]at he;exact List.mem_of_mem_eraseIdx he),?_⟩
  rw[hee]
  exact h.2.sublist ((List.eraseIdx_sublist _ _).map _)
 ·have:es.eraseIdxIfInBounds i=es:=by simp [Array.eraseIdxIfInBounds,hi]
  rw[this];exact h
theorem oV.empty:oV #[] 0:=⟨by simp,by simp⟩
section
variable {X : Fx} {z : Z} {s : AS} {a : Act} {w w' : World} {E : List Pl} {pb : Nat → Option Nat}
theorem KZ {P:Program} {b:Nat} {es:Array MapEntry} {clock:Nat} (o:Obj) (h:w.heap[b]? =some (.map es clock)):(setObj b o).run P w=.ok () (w.dU b o):=by
 simp [setObj,Sem.run,h,World.dU]
theorem akb (h:St X z s a w E pb) {t kt et:TypeId} {ek:A.EK} {m k v:AV} {mv key val:Value} {σ':Heap} (ht:X.P.underlying t=some (.map kt et)) (he:l8 X kt=some ek) (hu:A.ew ek m k v s.σ=some σ')
  (rm:ak (ctx z w E pb) m mv) (rk:ak (ctx z w E pb) k key) (rv:ak (ctx z w E pb) v val):∃w',(Instr.mapUpdate t mv key val).run X.P w=.ok () w'∧St X z (s.heap σ') a w' E pb:=by
 unfold A.ew at hu
 cases hk:A.jq ek k
 ·rw[hk]at hu;cases hu
 ·rw[hk]at hu
  simp only[cond_true]at hu
  cases m<;>simp only at hu<;>first|(cases hu;done)|skip
  rename_i id
  simp only[ak]at rm
  obtain⟨p,e1,e2,rfl⟩:=rm
  split at hu
  ·rename_i bn hs
   obtain⟨kq,h1,h2⟩:=Option.map_eq_some_iff.1 hu
   subst h2
   obtain⟨hg,es,clock,k1,kw,k2⟩:=h.heap.blk id p _ e1 hs
   obtain⟨r,hr⟩:=WQ h1
   obtain⟨res,f1,f2,f3⟩:=Qd (c:=ctx z w E pb) w X he hk rk hr k2
   have Cy:=KD (c:=ctx z w E pb) w X he hk rk false
   have jY:(getObj p.b).run X.P w=.ok (.map es clock) w:=by simp [getObj,Sem.run,show w.heap[p.b]? =_ from k1]
   have hlt:p.b<w.heap.size:=h.heap.lt (p:=p) (List.mem_of_getElem? e1)
   rcases Z1 h1 f3 with⟨e3,rfl⟩|⟨j,q,e3,q1,q2,rfl⟩
   ·have hres:res=none:=by cases res with|none=>rfl|some x=>simp at e3
    subst hres
    refine⟨w.dU p.b (.map (es.push ⟨key,val,clock⟩) (clock+1)),?_,h.yD e1 _ _ fun hx=>⟨hg,_,_,uL _ hlt,kw.push,?_⟩⟩
    ·simp [Instr.mapUpdate,run_underlying ht,jY,Cy,f1,KZ _ (show w.heap[p.b]? =_ from k1)]
    ·have:=cA.push (n:=clock) (ak.mono hx _ _ rk) (ak.mono hx _ _ rv) (k2.mono hx)
     simpa using this
   ·obtain⟨i,u,hres,hi⟩:∃i u,res=some (i,u)∧i=j:=by
     cases res with
     |none=>simp at e3
     |some x=>exact⟨x.1,x.2,rfl,by simpa using e3⟩
    subst hi;subst hres
    obtain⟨e,n1,n2,_⟩:=k2.nth q1
    have hsame:=aif (c:=ctx z w E pb) hk q2 rk n2
    have xG:es[i]? =some e:=by rw[←Array.getElem?_toList];exact n1
    refine⟨w.dU p.b (.map (es.modify i fun e=>{e with key,val}) clock),?_,h.yD e1 _ _ fun hx=>⟨hg,_,_,uL _ hlt,kw.modify,?_⟩⟩
    ·simp [Instr.mapUpdate,run_underlying ht,jY,Cy,f1,xG,Instr.keyThatStays,hsame,KZ _ (show w.heap[p.b]? =_ from k1)]
    ·have:=cA.set (ak.mono hx _ _ rk) (ak.mono hx _ _ rv) i (k2.mono hx)
     simpa using this
  ·cases hu
theorem aj7 (h:St X z s a w E pb) {t kt et u ty:TypeId} {ek:A.EK} {m k:AV} {mv key:Value} {σ':Heap} (ht:X.P.underlying t=some (.map kt et)) (he:l8 X kt=some ek) (hu:A.DL ek m k s.σ=some σ')
  (rm:ak (ctx z w E pb) m mv) (rk:ak (ctx z w E pb) k key):∃w',(Builtin.delete_ #[t,u] ty #[mv,key]).run X.P w=.ok (.tuple #[]) w'∧St X z (s.heap σ') a w' E pb:=by
 unfold A.DL at hu
 cases hk:A.jq ek k
 ·rw[hk]at hu;cases hu
 ·rw[hk]at hu
  simp only[cond_true]at hu
  cases m<;>simp only at hu<;>first|(cases hu;done)|skip
  case nm=>
   injection hu with hu;subst hu
   simp only[ak]at rm;subst rm
   exact⟨w,by simp [Builtin.delete_,run_underlying ht,KD (c:=ctx z w E pb) w X he hk rk true],h⟩
  case om id=>
   simp only[ak]at rm
   obtain⟨p,e1,e2,rfl⟩:=rm
   split at hu
   ·rename_i bn hs
    obtain⟨kq,h1,h2⟩:=Option.map_eq_some_iff.1 hu
    subst h2
    obtain⟨hg,es,clock,k1,kw,k2⟩:=h.heap.blk id p _ e1 hs
    obtain⟨r,hr⟩:=WO h1
    obtain⟨res,f1,f2,f3⟩:=Qd (c:=ctx z w E pb) w X he hk rk hr k2
    have Cy:=KD (c:=ctx z w E pb) w X he hk rk es.isEmpty
    have jY:(getObj p.b).run X.P w=.ok (.map es clock) w:=by simp [getObj,Sem.run,show w.heap[p.b]? =_ from k1]
    have hlt:p.b<w.heap.size:=h.heap.lt (p:=p) (List.mem_of_getElem? e1)
    rcases Zo h1 f3 with⟨e3,rfl⟩|⟨j,e3,q1,rfl⟩
    ·have hres:res=none:=by cases res with|none=>rfl|some x=>simp at e3
     subst hres
     refine⟨w.dU p.b (.map es clock),?_,h.yD e1 _ _ fun hx=>⟨hg,_,_,uL _ hlt,kw,k2.mono hx⟩⟩
     simp [Builtin.delete_,run_underlying ht,jY,Cy,f1,KZ _ (show w.heap[p.b]? =_ from k1)]
    ·obtain⟨i,u',hres,hi⟩:∃i u,res=some (i,u)∧i=j:=by
      cases res with
      |none=>simp at e3
      |some x=>exact⟨x.1,x.2,rfl,by simpa using e3⟩
     subst hi;subst hres
     refine⟨w.dU p.b (.map (es.eraseIdxIfInBounds i) clock),?_,h.yD e1 _ _ fun hx=>⟨hg,_,_,uL _ hlt,kw.erase,?_⟩⟩
     ·simp [Builtin.delete_,run_underlying ht,jY,Cy,f1,KZ _ (show w.heap[p.b]? =_ from k1)]
     ·have hl:=k2.length
      have:i<es.size:=by simp at hl;omega
      have hee:(es.eraseIdxIfInBounds i).toList=es.toList.eraseIdx i:=by simp [Array.eraseIdxIfInBounds,this]
      rw[hee]
      exact cA.erase i (k2.mono hx)
   ·cases hu
theorem U8 {f:MapEntry→Nat}:∀{l:List MapEntry} {j:Nat} {e:MapEntry},(l.map f).Nodup→l[j]? =some e→(l.filter fun x=>!(f x==f e))=l.eraseIdx j
 |[],j,e,_,h=>by simp at h
 |x::l,0,e,hn,h=>by
  simp at h;subst h
  simp only[List.map_cons,List.nodup_cons]at hn
  simp only[List.filter_cons,beq_self_eq_true,Bool.not_true,List.eraseIdx_cons_zero]
  rw[List.filter_eq_self.2]
  ·simp
  ·intro y hy
   have:f y≠f x:=fun e=>hn.1 (List.mem_map.2 ⟨y,hy,e⟩)
   simp [this]
 |x::l,j+1,e,hn,h=>by
  simp only[List.map_cons,List.nodup_cons]at hn
  simp at h
  have hne:f x≠f e:=fun k=>hn.1 (List.mem_map.2 ⟨e,List.mem_of_getElem? h,k.symm⟩)
  simp only[List.filter_cons,List.eraseIdx_cons_succ]
  have:(f x==f e)=false:=by simpa using hne
  rw[this]
  simp only[Bool.not_false,if_true]
  rw[U8 hn.2 h]
theorem choose_lt {P:Program} (w:World) {n:Nat} (hn:0<n):∃j w',j<n∧(choose (.mapNext n)).run P w=.ok j w'∧Below w.heap.size w w'∧w'.heap=w.heap:=by
 by_cases h1:n≤1
 ·exact⟨0,w,hn,by simp [choose,Sem.run,Question.forced,h1],Below.refl _ _,rfl⟩
 ·refine⟨_,w.drew,?_,by simp [choose,Sem.run,Question.forced,h1];rfl,(Below.refl _ _).drew,rfl⟩
  simp only[Question.cut]
  exact Nat.mod_lt _ hn
theorem oV.aaB {es:Array MapEntry} {clock:Nat} (h:oV es clock) (b:Bool):(!b&&!es.isEmpty&&es.all fun e=>decide (e.born≥clock))=false:=by
 cases b
 ·by_cases he:es.isEmpty=true
  ·simp [he]
  ·have hs:0<es.size:=by
    rw[Array.isEmpty_iff]at he
    exact Nat.pos_of_ne_zero fun k=>he (Array.eq_empty_of_size_eq_zero k)
   have:=h.1 es[0] (by simp)
   have:¬(es.all fun e=>decide (e.born≥clock))=true:=by
    intro k
    rw[Array.all_eq_true]at k
    have:=k 0 hs
    simp at this;omega
   simp only[Bool.not_eq_true]at this
   rw[this];simp
 ·simp
theorem filter_all {l:Array MapEntry} {clock:Nat} (h:∀e∈l.toList,e.born<clock):l.filter (fun e=>decide (e.born<clock))=l∧l.filter (fun e=>decide (e.born≥clock))=#[]:=by
 constructor
 ·apply Array.toList_inj.1
  rw[Array.toList_filter,List.filter_eq_self.2]
  intro e he;simpa using h e he
 ·apply Array.toList_inj.1
  rw[Array.toList_filter]
  show _=[]
  rw[List.filter_eq_nil_iff]
  intro e he;have:=h e he;simp;omega
theorem YZ {α:Type} {l:List α} {j:Nat} (hj:j<l.length):(l[j]::l.eraseIdx j).Perm l:=by
 have e:l=l.take j++l[j]::l.drop (j+1):=by rw[List.getElem_cons_drop,List.take_append_drop]
 rw[List.eraseIdx_eq_take_drop_succ]
 conv=>rhs;rw[e]
 exact List.perm_middle.symm
theorem ake (h:St X z s a w E pb) {R:Type} {k:AV→Heap→Option R} {r:R} {i:AV} {v:Value} {ty:TypeId} (hk:A.sS i s.σ k=some r) (ri:ak (ctx z w E pb) i v):
  ∃av σ' v' w',k av σ'=some r∧(Instr.next v false ty).run X.P w=.ok v' w'∧St X z (s.heap σ') a w' E pb∧ak (ctx z w' E pb) av v':=by
 unfold A.sS at hk
 split at hk
 ·rename_i id
  simp only[ak]at ri
  obtain⟨p,e1,e2,rfl⟩:=ri
  have hlt:p.b<w.heap.size:=h.heap.lt (p:=p) (List.mem_of_getElem? e1)
  have aml:ak (ctx z w E pb) (.aH [.bool false]) (.tuple #[.bool false]):=by simp [ak,aI]
  have hs0:s.heap s.σ=s:=rfl
  split at hk
  ·rename_i cur hs
   obtain⟨hg,hit⟩:=h.heap.blk id p _ e1 hs
   rcases hit with⟨_,_,since,seen,last,h3⟩|⟨m,seen,bn,clock,h3,h4,h5,h6,h7,h8,h9⟩
   ·have jY:(getObj p.b).run X.P w=.ok (.mapIter none since seen last) w:=by simp [getObj,Sem.run,show w.heap[p.b]? =_ from h3]
    exact⟨_,_,_,w,hk,by simp [Instr.next,jY],by rw[hs0];exact h,aml⟩
   ·have jY:(getObj p.b).run X.P w=.ok (.mapIter (some m) clock seen clock) w:=by simp [getObj,Sem.run,show w.heap[p.b]? =_ from h3]
    have Dl:(getObj m).run X.P w=.ok (.map bn clock) w:=by simp [getObj,Sem.run,show w.heap[m]? =_ from h6]
    obtain⟨l,h8,vJ⟩:=h8
    simp only[cA]at h8
    subst h8
    have hl:bn.filter (fun e=>!seen.contains e.born)=#[]:=by apply Array.toList_inj.1;rw[Array.toList_filter];exact vJ.nil_eq.symm
    obtain⟨j,w',hj,hch,hb,hw⟩:=choose_lt (P:=X.P) w (n:=1) (by omega)
    have hj0:j=0:=by omega
    subst hj0
    have hst:=h7.aaB seen.isEmpty
    refine⟨_,_,.tuple #[.bool false],w',hk,?_,by rw[hs0];exact h.grow hb,by simp [ak,aI]⟩
    simp only[Instr.next,Sem.run_bind,jY,Result.andThen_ok,Dl,hst,hl]
    simp [-Go.run_choose,-Go.run_choose_drew,hch]
  ·rename_i cur x left hs
   obtain⟨hg,hit⟩:=h.heap.blk id p _ e1 hs
   rcases hit with⟨_,hn,_⟩|⟨m,seen,bn,clock,h3,h4,h5,h6,h7,h8,h9⟩
   ·cases hn
   ·have jY:(getObj p.b).run X.P w=.ok (.mapIter (some m) clock seen clock) w:=by simp [getObj,Sem.run,show w.heap[p.b]? =_ from h3]
    have Dl:(getObj m).run X.P w=.ok (.map bn clock) w:=by simp [getObj,Sem.run,show w.heap[m]? =_ from h6]
    obtain⟨L,hL⟩:∃L,L=bn.filter (fun e=>!seen.contains e.born):=⟨_,rfl⟩
    have I1:L.toList=bn.toList.filter (fun e=>!seen.contains e.born):=by rw[hL,Array.toList_filter]
    rw[←I1]at h8
    obtain⟨l,h8,vJ⟩:=h8
    have hlen:=h8.length
    rw[vJ.length_eq]at hlen
    simp only[Array.length_toList]at hlen
    have hlt':∀e∈L.toList,e.born<clock:=fun e he=>h7.1 e (by rw[I1]at he;exact(List.mem_filter.1 he).1)
    obtain⟨f1,f2⟩:=filter_all hlt'
    have hne:L.isEmpty=false:=by
     rw[Array.isEmpty_eq_false_iff];intro k;rw[k]at hlen;simp at hlen
    obtain⟨j,w',hj,hch,hb,hw⟩:=choose_lt (P:=X.P) w (n:=L.size) (by rw[←hlen];simp)
    have hst:=h7.aaB seen.isEmpty
    obtain⟨e,hLj⟩:∃e,L[j]? =some e:=⟨_,Array.getElem?_eq_getElem hj⟩
    have n1:L.toList[j]? =some e:=by rw[Array.getElem?_toList];exact hLj
    obtain⟨i,hil,hie⟩:=List.mem_iff_getElem.1 (vJ.mem_iff.2 (List.mem_of_getElem? n1))
    have Sk:i<(x::left).length:=by rw[h8.length];exact hil
    have hk2:=all_some hk Sk
    rw[List.getElem?_eq_getElem Sk]at hk2
    simp only at hk2
    obtain⟨e',Np,n2,n3⟩:=cA.nth h8 (List.getElem?_eq_getElem Sk)
    have hee:e=e':=by rw[List.getElem?_eq_getElem hil]at Np;injection Np with Np;rw[←Np,hie]
    subst hee
    have TD:(l.eraseIdx i).Perm (L.toList.eraseIdx j):=by
     have p1:(e::l.eraseIdx i).Perm l:=by have:=YZ hil;rwa[hie]at this
     obtain⟨hjj,hje⟩:=List.getElem?_eq_some_iff.1 n1
     have p2:(e::L.toList.eraseIdx j).Perm L.toList:=by have:=YZ hjj;rwa[hje]at this
     exact List.Perm.cons_inv ((p1.trans vJ).trans p2.symm)
    have hg2:=h.grow hb
    have hmp:p.b≠m:=fun k=>h5 (.inr (.inl ⟨p,List.mem_of_getElem? e1,k⟩))
    have h3':w'.heap[p.b]? =some (.mapIter (some m) clock seen clock):=by rw[hw];exact h3
    have rV:(setObj p.b (.mapIter (some m) clock (seen.push e.born) clock)).run X.P w'=.ok () (w'.dU p.b (.mapIter (some m) clock (seen.push e.born) clock)):=by
     simp [setObj,Sem.run,h3',World.dU]
    refine⟨_,_,.tuple #[.bool true,e.key,e.val],w'.dU p.b (.mapIter (some m) clock (seen.push e.born) clock),hk2,?_,hg2.yD e1 _ _ fun hx=>⟨hg,.inr ⟨m,seen.push e.born,bn,clock,?_,?_,?_,?_,h7,?_,?_⟩⟩,?_⟩
    ·simp only[Instr.next,Sem.run_bind,jY,Result.andThen_ok,Dl,hst,←hL,f1,f2,hne]
     simp [-Go.run_choose,-Go.run_choose_drew,hch,hLj,rV]
    ·exact uL _ (by rw[hw];exact hlt)
    ·show m<(w'.dU p.b _).heap.size
     rw[zn,hw];exact h4
    ·exact h5
    ·show(w'.dU p.b _).heap[m]? =_
     rw[xY _ hmp,hw];exact h6
    ·have hx2:Ext (ctx z w E pb) (ctx z (w'.dU p.b (.mapIter (some m) clock (seen.push e.born) clock)) E pb):=(wg hb).trans hx
     have hfe:(bn.toList.filter fun e'=>!(seen.push e.born).contains e'.born)=L.toList.eraseIdx j:=by
      rw[I1]
      have hnd:((bn.toList.filter fun e=>!seen.contains e.born).map (·.born)).Nodup:=h7.2.sublist ((List.filter_sublist).map _)
      rw[←U8 (f:=(·.born)) (e:=e) hnd (by rw[←I1];exact n1),List.filter_filter]
      congr 1;funext y
      simp only[Array.contains_push,Bool.not_or]
      rw[Bool.and_comm]
     rw[hfe]
     exact⟨_,(cA.erase i h8).mono hx2,TD⟩
    ·refine .inr ⟨_,_,e,rfl,by simp,?_,?_,?_⟩
     ·have:=List.mem_of_getElem? n1
      rw[I1]at this
      exact(List.mem_filter.1 this).1
     ·exact ak.mono ((wg hb).trans hx) _ _ n2
     ·exact ak.mono ((wg hb).trans hx) _ _ n3
    ·have hx:Ext (ctx z w' E pb) (ctx z (w'.dU p.b (.mapIter (some m) clock (seen.push e.born) clock)) E pb):=Qn (.inr (.inl ⟨p,List.mem_of_getElem? e1,rfl⟩))
     have hx2:=(wg hb).trans hx
     simp only[ak]
     exact⟨_,rfl,by simp only[aI];exact⟨_,_,rfl,rfl,_,_,rfl,ak.mono hx2 _ _ n2,_,_,rfl,ak.mono hx2 _ _ n3,rfl⟩⟩
  ·cases hk
 ·cases hk
theorem aiT (h:St X z s a w E pb) {t kt et:TypeId} {x:AV} {v:Value} {es:List (AV×AV)} (ht:X.P.underlying t=some (.map kt et)) (hr:A.BL x=some es) (rx:ak (ctx z w E pb) x v):
  ∃o,(Instr.range t v).run X.P w=.ok (.pointer (some ⟨w.heap.size,0,none⟩)) (w.alloc o)∧St X z (s.heap (s.σ++[.it [] es])) a (w.alloc o) (E++[⟨w.heap.size,0,0,0,0⟩]) pb:=by
 unfold A.BL at hr
 split at hr
 ·injection hr with hr
  subst hr
  simp only[ak]at rx
  subst rx
  refine⟨.mapIter none 0 #[] 0,by simp [Instr.range,run_underlying ht,newObj,Sem.run],h.zH _ _ ⟨w.heap.size,0,0,0,0⟩ rfl fun hx=>⟨rfl,.inl ⟨rfl,rfl,_,_,_,(MapKept.heap_alloc w _).1⟩⟩⟩
 ·injection hr with hr
  subst hr
  simp only[ak]at rx
  obtain⟨b,rfl,hb,hX,bn,clock,k1,kw,l,k2,k3⟩:=rx
  have Dl:(getObj b).run X.P w=.ok (.map bn clock) w:=by simp [getObj,Sem.run,show w.heap[b]? =_ from k1]
  refine⟨.mapIter (some b) clock #[] clock,by simp [Instr.range,run_underlying ht,Dl,newObj,Sem.run],h.zH _ _ ⟨w.heap.size,0,0,0,0⟩ rfl fun hx=>⟨rfl,.inr ⟨b,#[],bn,clock,(MapKept.heap_alloc w _).1,?_,(hx.stay b hb hX).2,?_,kw,?_,.inl rfl⟩⟩⟩
  ·exact Nat.lt_of_lt_of_le hb hx.size
  ·exact(hx.stay b hb hX).1.trans k1
  ·have:(bn.toList.filter fun e=>!(#[]:Array Nat).contains e.born)=bn.toList:=by
    rw[List.filter_eq_self];intro e _;simp
   rw[this]
   exact⟨l,k2.mono hx,by rcases k3 with rfl|⟨k3,_⟩<;>first|exact List.Perm.refl _|exact k3⟩
 ·cases hr
end
end
section
open Go.RowKit
section
variable {X : Fx} {z : Z} {s : AS} {a : Act} {w w' : World} {E : List Pl} {pb : Nat → Option Nat} {R : Type}
theorem qq {o:Oper} {v:Value} {w':World} {K:Act→World→Prop} {Q:Exit→Act→World→Prop} (h:(execOp a.eval o).run X.P w=.ok (.value v) w') (k:K (a.put o.dst v) w'):o.wp X.P a w K Q:=by
 unfold Oper.wp;rw[h,Oper.upon_value];exact k
theorem Qr {o:Oper} {w':World} {K:Act→World→Prop} {Q:Exit→Act→World→Prop} (h:(execOp a.eval o).run X.P w=.ok .skip w') (k:K (a.put o.dst undef) w'):o.wp X.P a w K Q:=by
 unfold Oper.wp;rw[h,Oper.upon_skip];exact k
theorem St.undef (h:St X z s a w E pb) (d:Option Nat):St X z (s.put X d (.aH [])) (a.put d undef) w E pb:=
 h.put d (by simp only[ak];exact⟨#[],rfl,by simp [aI]⟩)
theorem zj (hs:dJ X) (h:St X z s a w E pb) {o:Oper} {k:AS→Option R} {r:R} (hk:((fW X o s none).bind fun v=>k (s.put X o.dst v))=some r) {K:Act→World→Prop} {Q:Exit→Act→World→Prop}
  (hK:∀s' a' w' E' bL,St X z s' a' w' E' bL→k s'=some r→K a' w'):o.wp X.P a w K Q:=by
 obtain⟨av,h1,h2⟩:=Option.bind_eq_some_iff.1 hk
 exact ZP hs h (tag:=none) trivial h1 fun v w' E' h3 h4=>hK _ _ _ _ _ (h3.put o.dst h4) h2
theorem akd (h:St X z s a w E pb) {q str:Bool} {i:Operand} {dst:Option Nat} {ty:TypeId} {pos:String} {af:Array Edge} {g:Option (Nat×Bool)} {k:AS→Option R} {r:R}
  (hk:(bif q||str then none else A.sS (ev X s i) s.σ fun v σ=>k ((s.heap σ).put X dst v))=some r) {K:Act→World→Prop} {Q:Exit→Act→World→Prop}
  (hK:∀s' a' w' E' bL,St X z s' a' w' E' bL→k s'=some r→K a' w'):Oper.wp X.P ⟨dst,.next i str,ty,pos,af,g⟩ a w K Q:=by
 cases hq:(q||str)
 ·rw[hq]at hk
  simp only[cond_false]at hk
  simp only[Bool.or_eq_false_iff]at hq
  obtain⟨rfl,rfl⟩:=hq
  obtain⟨av,σ',v',w',k1,k2,k3,k4⟩:=ake (ty:=ty) h hk (eH h i)
  exact qq (w':=w') (by simp [execOp,k2]) (hK _ _ _ _ _ (k3.put dst k4) k1)
 ·rw[hq]at hk;cases hk
theorem aeI (hs:dJ X) (h:St X z s a w E pb) {d t n:Nat} {ps:Array (Nat×Operand)} {ty:TypeId} {pos:String} {af:Array Edge} {g:Option (Nat×Bool)} {k:AS→Option R} {r:R}
  (hk:((fW X ⟨some d,.buildSlice t n ps,ty,pos,af,g⟩ s none).bind fun v=>A.Ga v fun sz es=>k ((s.heap (s.σ++[.arr es.length sz es])).put X (some d) (.os s.σ.length es.length sz 0 es.length)))=some r) {K:Act→World→Prop} {Q:Exit→Act→World→Prop}
  (hK:∀s' a' w' E' bL,St X z s' a' w' E' bL→k s'=some r→K a' w'):Oper.wp X.P ⟨some d,.buildSlice t n ps,ty,pos,af,g⟩ a w K Q:=by
 obtain⟨v,h1,h2⟩:=Option.bind_eq_some_iff.1 hk
 unfold A.Ga at h2
 split at h2
 ·rename_i sz es
  cases hl:(es.length==0)
  ·rw[hl]at h2
   simp only[cond_false]at h2
   have hne:0<es.length:=by simp at hl;exact List.length_pos_iff.2 hl
   obtain⟨arr,et,e1,e2,e3,e4,e5⟩:=ads h h1
   have hlen:=h.heap.len
   simp only[ctx]at hlen
   refine qq e1 (hK _ _ _ _ _ ((h.zH (.cells arr et) (.arr es.length sz es) ⟨w.heap.size,0,es.length,sz,arr.size⟩ rfl fun hx=>?_).put (some d) (av:=.os s.σ.length es.length sz 0 es.length) ?_) h2)
   ·have hb:=(MapKept.heap_alloc w (.cells arr et)).1
    exact⟨rfl,hne,rfl,e3,⟨arr,et,hb,rfl⟩,by rw[e2];simp,e4 _ hb hx,BD hb e5⟩
   ·simp only[ak]
    refine⟨hne,⟨w.heap.size,0,es.length,sz,arr.size⟩,by show(E++[_])[s.σ.length]? =_;rw[←hlen];exact List.getElem?_concat_length,Nat.le_refl _,⟨w.heap.size,0,none⟩,es.length,rfl,Nat.le_refl _,fun _=>⟨rfl,.inr (by simp),by rw[e2];simp⟩⟩
  ·rw[hl]at h2;cases h2
 ·cases h2
theorem alu (hs:dJ X) (h:St X z s a w E pb) {q:Bool} {o:Oper} {k:AS→Option R} {r:R} (hk:ia X q o s k=some r) {K:Act→World→Prop} {Q:Exit→Act→World→Prop}
  (hK:∀s' a' w' E' bL,St X z s' a' w' E' bL→k s'=some r→K a' w'):o.wp X.P a w K Q:=by
 unfold ia at hk
 cases hp:kH X o s none with
 |some p=>
  obtain⟨b,rr⟩:=p
  rw[hp]at hk
  simp only at hk
  obtain⟨off,h1,h2⟩:=Option.bind_eq_some_iff.1 hk
  subst h1
  obtain⟨n,k1,k2⟩:=ZO h (tag:=none) trivial hp
  exact qq k2 (hK _ _ _ _ _ (h.RL o.dst (fun _=>⟨n,k1,rfl⟩)) h2)
 |none=>
  rw[hp]at hk
  simp only at hk
  obtain⟨dst,op,ty,pos,af,g⟩:=o
  cases op<;>simp only at hk<;>first|exact akd h hk hK|exact zj hs h hk hK|skip
  case alloc t=>
   cases dst with
   |none=>cases hk
   |some d=>
    simp only at hk
    cases hL:X.L.contains d
    ·rw[hL]at hk
     simp only[cond_false]at hk
     cases hO:X.O.contains d
     ·rw[hO]at hk;exact zj hs h hk hK
     ·rw[hO]at hk
      simp only[cond_true]at hk
      split at hk
      ·rename_i cs hz
       obtain⟨i,v,h1,h2,h3,h4,h5,h6⟩:=yj (w:=w) hz (ctx z w E pb)
       have hrun:(execOp a.eval ⟨some d,.alloc t,ty,pos,af,g⟩).run X.P w=.ok (.value (.pointer (some ⟨w.heap.size,0,none⟩))) (w.alloc (.cells v.cells t)):=by
        simp [execOp,Instr.alloc,h3,newVar,yf]
       have hst:=h.zH (.cells v.cells t) (.box cs) ⟨w.heap.size,0,0,0,0⟩ rfl (fun hx=>by
        have hb:(w.alloc (.cells v.cells t)).heap[w.heap.size]? =some (.cells v.cells t (0,0)):=(MapKept.heap_alloc w _).1
        exact⟨rfl,⟨_,_,hb,by have:=h5.length;simpa using this.symm⟩,bu.y9 hb (aI.mono hx _ _ h5) h6 (fun i hi=>by simp)⟩)
       have hlen:=h.heap.len
       simp only[ctx]at hlen
       refine qq hrun (hK _ _ _ _ _ (hst.put (some d) (av:=.op s.σ.length 0) ?_) hk)
       simp only[ak]
       exact⟨⟨w.heap.size,0,0,0,0⟩,by show(E++[_])[s.σ.length]? =_;rw[←hlen];exact List.getElem?_concat_length,rfl,rfl⟩
      ·cases hk
    ·rw[hL]at hk
     simp only[cond_true]at hk
     split at hk
     ·rename_i cs hz
      obtain⟨i,v,h1,h2,h3,h4,h5,h6⟩:=yj (w:=w) hz (ctx z w E pb)
      have hrun:(execOp a.eval ⟨some d,.alloc t,ty,pos,af,g⟩).run X.P w=.ok (.value (.pointer (some ⟨w.heap.size,0,none⟩))) (w.alloc (.cells v.cells t)):=by
       simp [execOp,Instr.alloc,h3,newVar,yf]
      obtain⟨bL,hst⟩:=h.oz d hL (vs:=v.cells.toList) t h5 h6
      exact qq hrun (hK _ _ _ _ _ (by simpa using hst) hk)
     ·cases hk
  case box t x=>
   cases dst with
   |none=>cases hk
   |some d=>
    simp only at hk
    cases hL:X.L.contains d
    ·rw[hL]at hk
     simp only[cond_false]at hk
     cases hO:X.O.contains d
     ·rw[hO]at hk;exact zj hs h hk hK
     ·rw[hO]at hk
      simp only[cond_true]at hk
      obtain⟨cs,h1,h2⟩:=Option.bind_eq_some_iff.1 hk
      obtain⟨h5,h6,_,_⟩:=E8 X h1 (eH h x)
      have hrun:(execOp a.eval ⟨some d,.box t x,ty,pos,af,g⟩).run X.P w=.ok (.value (.pointer (some ⟨w.heap.size,0,none⟩))) (w.alloc (.cells (a.eval x).cells t)):=by
       simp [execOp,Instr.box,newVar,yf]
      have hst:=h.zH (.cells (a.eval x).cells t) (.box cs) ⟨w.heap.size,0,0,0,0⟩ rfl (fun hx=>by
       have hb:(w.alloc (.cells (a.eval x).cells t)).heap[w.heap.size]? =some (.cells (a.eval x).cells t (0,0)):=(MapKept.heap_alloc w _).1
       exact⟨rfl,⟨_,_,hb,by have:=h5.length;simpa using this.symm⟩,bu.y9 hb (aI.mono hx _ _ h5) h6 (fun i hi=>by simp)⟩)
      have hlen:=h.heap.len
      simp only[ctx]at hlen
      refine qq hrun (hK _ _ _ _ _ (hst.put (some d) (av:=.op s.σ.length 0) ?_) h2)
      simp only[ak]
      exact⟨⟨w.heap.size,0,0,0,0⟩,by show(E++[_])[s.σ.length]? =_;rw[←hlen];exact List.getElem?_concat_length,rfl,rfl⟩
    ·rw[hL]at hk
     simp only[cond_true]at hk
     obtain⟨cs,h1,h2⟩:=Option.bind_eq_some_iff.1 hk
     obtain⟨h5,h6,_,_⟩:=E8 X h1 (eH h x)
     have hrun:(execOp a.eval ⟨some d,.box t x,ty,pos,af,g⟩).run X.P w=.ok (.value (.pointer (some ⟨w.heap.size,0,none⟩))) (w.alloc (.cells (a.eval x).cells t)):=by
      simp [execOp,Instr.box,newVar,yf]
     obtain⟨bL,hst⟩:=h.oz d hL (vs:=(a.eval x).cells.toList) t h5 h6
     exact qq hrun (hK _ _ _ _ _ (by simpa using hst) h2)
  case store t x v=>
   split at hk
   ·rename_i b off hp
    obtain⟨cs,h1,h2⟩:=Option.bind_eq_some_iff.1 hk
    obtain⟨new,h3,h4⟩:=Option.bind_eq_some_iff.1 h2
    obtain⟨cs',h5,h6⟩:=Option.bind_eq_some_iff.1 h4
    obtain⟨n,k1,k2,k3,k4⟩:=Fg h (tag:=none) trivial hp h1
    obtain⟨r1,r2,r3,d,hd⟩:=E8 X h3 (eH h v)
    obtain⟨arr,bt,j1,j2,j3⟩:=Xy k3
    obtain⟨j4,j5⟩:=j2.fZ h5 r1
    have hrun:=Pe (P:=X.P) (t:=t) j1 r3 (UZ hd) r2 j5
    have hst:=h.alG k1 ⟨cs,k4⟩ (t:=bt) j4 (FD j3 r2)
    refine Qr (w':=_) ?_ (hK _ _ _ _ _ (hst.undef dst) h6)
    simp only[execOp,k2,Sem.run_bind]
    rw[show(Instr.storeAt t (.pointer (some ⟨n,off,none⟩)) (a.eval v)).run X.P w=_ from hrun]
    rfl
   ·obtain⟨new,h3,h4⟩:=Option.bind_eq_some_iff.1 hk
    obtain⟨σ',h5,h6⟩:=Option.bind_eq_some_iff.1 h4
    obtain⟨w',k1,k2⟩:=agC h h3 (eH h v) h5 (eH h x)
    refine Qr (w':=w') ?_ (hK _ _ _ _ _ (k2.undef dst) h6)
    simp only[execOp,Sem.run_bind,k1]
    rfl
  case makeMap t rr=>
   cases rr with
   |some x=>cases hk
   |none=>
    simp only at hk
    have hrun:(execOp a.eval ⟨dst,.makeMap t none,ty,pos,af,g⟩).run X.P w=.ok (.value (.map (some w.heap.size))) (w.alloc (.map #[] 0)):=by
     simp [execOp,Instr.makeMap,newObj,Sem.run]
    have hst:=h.zH (.map #[] 0) (.map []) ⟨w.heap.size,0,0,0,0⟩ rfl (fun hx=>by
     have hb:(w.alloc (.map #[] 0)).heap[w.heap.size]? =some (.map #[] 0):=(MapKept.heap_alloc w _).1
     exact⟨rfl,_,_,hb,oV.empty,rfl⟩)
    have hlen:=h.heap.len
    simp only[ctx]at hlen
    refine qq hrun (hK _ _ _ _ _ (hst.put dst (av:=.om s.σ.length) ?_) hk)
    simp only[ak]
    exact⟨⟨w.heap.size,0,0,0,0⟩,by show(E++[_])[s.σ.length]? =_;rw[←hlen];exact List.getElem?_concat_length,rfl,rfl⟩
  case range t x=>
   split at hk
   ·rename_i kt et hd
    obtain⟨es,h1,h2⟩:=Option.bind_eq_some_iff.1 hk
    obtain⟨o,k1,k2⟩:=aiT h hd h1 (eH h x)
    have hlen:=h.heap.len
    simp only[ctx]at hlen
    refine qq (v:=.pointer (some ⟨w.heap.size,0,none⟩)) (w':=w.alloc o) (by simp [execOp,k1]) (hK _ _ _ _ _ (k2.put dst (av:=.op s.σ.length 0) ?_) h2)
    simp only[ak]
    exact⟨⟨w.heap.size,0,0,0,0⟩,by show(E++[_])[s.σ.length]? =_;rw[←hlen];exact List.getElem?_concat_length,rfl,rfl⟩
   ·cases hk
  case buildSlice t n ps=>
   cases dst with
   |none=>exact zj hs h hk hK
   |some d=>
    simp only at hk
    cases hO:X.O.contains d
    ·rw[hO]at hk;exact zj hs h hk hK
    ·rw[hO]at hk
     simp only[cond_true]at hk
     exact aeI hs h hk hK
  case mapUpdate t m i v=>
   split at hk
   ·rename_i kt et hd
    split at hk
    ·rename_i ek he
     obtain⟨σ',h1,h2⟩:=Option.bind_eq_some_iff.1 hk
     obtain⟨w',k1,k2⟩:=akb h hd he h1 (eH h m) (eH h i) (eH h v)
     refine Qr (w':=w') ?_ (hK _ _ _ _ _ (k2.undef dst) h2)
     simp only[execOp,Sem.run_bind,k1]
     rfl
    ·cases hk
   ·cases hk
  case call c=>
   have hargs:(c.args.map a.eval).toList=c.args.toList.map a.eval:=by simp
   have re:=Fw h c.args.toList
   split at hk
   ·rename_i hc
    split at hk
    ·rename_i t u x y h1 h2
     split at hk
     ·rename_i e e' hd hu
      split at hk
      ·rename_i i hi
       cases eY:mW i
       ·rw[eY]at hk
        simp only[cond_false]at hk
        simp only[mW,Bool.or_eq_false_iff,beq_eq_false_iff_ne]at eY
        obtain⟨⟨z1,z2⟩,z3⟩:=eY
        cases TM:i.zero with
        |none=>rw[TM]at z3;cases z3
        |some zv=>
         rw[TM]at z3
         simp only[Bool.or_eq_false_iff,bne_eq_false_iff_eq,Bool.not_eq_false']at z3
         obtain⟨z3,z4⟩:=z3
         obtain⟨⟨rr,σ'⟩,h3,h4⟩:=Option.bind_eq_some_iff.1 hk
         rw[h2]at re
         have hl:∃v vy,c.args.toList.map a.eval=[v,vy]∧ak (ctx z w E pb) x v∧ak (ctx z w E pb) y vy:=by
          generalize c.args.toList.map a.eval=vs at *
          simp only[aI]at re
          obtain⟨v,_,rfl,r1,u',_,rfl,r2,rfl⟩:=re
          exact⟨v,u',rfl,r1,r2⟩
         obtain⟨v,vy,hvs,r1,r2⟩:=hl
         have hone:∀x∈zv.cells.toList,dI x=true:=List.all_eq_true.1 z4
         obtain⟨n,w',E',k1,k2,k3⟩:=agN (ty:=ty) h hd hu hi TM z3 z1 z2 hone h3 r1 r2
         have h1':c.argTypes=#[t,u]:=by apply Array.toList_inj.1;simpa using h1
         have p4:c.args.map a.eval=#[v,vy]:=by apply Array.toList_inj.1;rw[hargs,hvs]
         have hrun:(execOp a.eval ⟨dst,.call c,ty,pos,af,g⟩).run X.P w=.ok (.value n) w':=by
          simp only[execOp,resolve,hc,Sem.run_bind,Sem.run_pure,Result.andThen_ok,invoke,builtin,p4,h1',k1]
         exact qq hrun (hK _ _ _ _ _ (k2.put dst k3) h4)
       ·rw[eY]at hk;cases hk
      ·cases hk
     ·rename_i e kk hd hu
      split at hk
      ·rename_i i zs hi hz
       cases eY:mW i
       ·rw[eY]at hk
        simp only[cond_false]at hk
        simp only[mW,Bool.or_eq_false_iff,beq_eq_false_iff_ne]at eY
        obtain⟨⟨z1,z2⟩,z3⟩:=eY
        obtain⟨i',zv,g1,g2,g3,g4,g5,g6⟩:=yj (w:=w) hz (ctx z w E pb)
        rw[hi]at g1;injection g1 with g1;subst g1
        rw[g2]at z3
        simp only[Bool.or_eq_false_iff,bne_eq_false_iff_eq,Bool.not_eq_false']at z3
        obtain⟨z3,z4⟩:=z3
        have qV:∀c,aI c zs zv.cells.toList:=fun c=>by
         obtain⟨i2,v2,f1,f2,f3,f4,f5,f6⟩:=yj (w:=w) hz c
         rw[hi]at f1;injection f1 with f1;subst f1
         rw[g2]at f2;injection f2 with f2;subst f2
         exact f5
        obtain⟨⟨rr,σ'⟩,h3,h4⟩:=Option.bind_eq_some_iff.1 hk
        rw[h2]at re
        have hl:∃v vy,c.args.toList.map a.eval=[v,vy]∧ak (ctx z w E pb) x v∧ak (ctx z w E pb) y vy:=by
         generalize c.args.toList.map a.eval=vs at *
         simp only[aI]at re
         obtain⟨v,_,rfl,r1,u',_,rfl,r2,rfl⟩:=re
         exact⟨v,u',rfl,r1,r2⟩
        obtain⟨v,vy,hvs,r1,r2⟩:=hl
        obtain⟨n,w',E',k1,k2,k3⟩:=afw (ty:=ty) h hd hu hi g2 z3 z1 z2 qV g6 h3 r1 r2
        have h1':c.argTypes=#[t,u]:=by apply Array.toList_inj.1;simpa using h1
        have p4:c.args.map a.eval=#[v,vy]:=by apply Array.toList_inj.1;rw[hargs,hvs]
        have hrun:(execOp a.eval ⟨dst,.call c,ty,pos,af,g⟩).run X.P w=.ok (.value n) w':=by
         simp only[execOp,resolve,hc,Sem.run_bind,Sem.run_pure,Result.andThen_ok,invoke,builtin,p4,h1',k1]
        exact qq hrun (hK _ _ _ _ _ (k2.put dst k3) h4)
       ·rw[eY]at hk;cases hk
      ·cases hk
     ·cases hk
    ·cases hk
   ·rename_i hc
    split at hk
    ·rename_i t u x y h1 h2
     split at hk
     ·rename_i e e' hd hu
      split at hk
      ·rename_i i hi
       cases eY:mW i
       ·rw[eY]at hk
        simp only[cond_false]at hk
        simp only[mW,Bool.or_eq_false_iff,beq_eq_false_iff_ne]at eY
        obtain⟨⟨z1,z2⟩,z3⟩:=eY
        obtain⟨⟨rr,σ'⟩,h3,h4⟩:=Option.bind_eq_some_iff.1 hk
        rw[h2]at re
        have hl:∃v vy,c.args.toList.map a.eval=[v,vy]∧ak (ctx z w E pb) x v∧ak (ctx z w E pb) y vy:=by
         generalize c.args.toList.map a.eval=vs at *
         simp only[aI]at re
         obtain⟨v,_,rfl,r1,u',_,rfl,r2,rfl⟩:=re
         exact⟨v,u',rfl,r1,r2⟩
        obtain⟨v,vy,hvs,r1,r2⟩:=hl
        obtain⟨n,w',k1,k2,k3⟩:=ajx (ty:=ty) h hd hu hi z1 h3 r1 r2
        have h1':c.argTypes=#[t,u]:=by apply Array.toList_inj.1;simpa using h1
        have p4:c.args.map a.eval=#[v,vy]:=by apply Array.toList_inj.1;rw[hargs,hvs]
        have hrun:(execOp a.eval ⟨dst,.call c,ty,pos,af,g⟩).run X.P w=.ok (.value n) w':=by
         simp only[execOp,resolve,hc,Sem.run_bind,Sem.run_pure,Result.andThen_ok,invoke,builtin,p4,h1',k1]
        exact qq hrun (hK _ _ _ _ _ (k2.put dst k3) h4)
       ·rw[eY]at hk;cases hk
      ·cases hk
     ·cases hk
    ·cases hk
   ·rename_i hc
    cases hv:fW X ⟨dst,.call c,ty,pos,af,g⟩ s none with
    |some v=>
     rw[hv]at hk
     exact zj hs h (by rw[hv];exact hk) hK
    |none=>
     rw[hv]at hk
     simp only[A.Ip]at hk
     cases q
     ·simp only[cond_false]at hk
      split at hk
      ·rename_i t x h1 h2
       split at hk
       ·rename_i e hd
        rw[h2]at re
        have hl:∃v,c.args.toList.map a.eval=[v]∧ak (ctx z w E pb) x v:=by
         generalize c.args.toList.map a.eval=vs at *
         simp only[aI]at re
         obtain⟨v,_,rfl,r1,rfl⟩:=re
         exact⟨v,rfl,r1⟩
        obtain⟨v,hvs,r1⟩:=hl
        obtain⟨n,σ',k1,k2,k3⟩:=ajq (ty:=ty) h hd hk r1
        have h1':c.argTypes=#[t]:=by apply Array.toList_inj.1;simpa using h1
        have p4:c.args.map a.eval=#[v]:=by apply Array.toList_inj.1;rw[hargs,hvs]
        have hrun:(execOp a.eval ⟨dst,.call c,ty,pos,af,g⟩).run X.P w=.ok (.value (.int .i64 (n:Int))) w:=by
         simp only[execOp,resolve,hc,Sem.run_bind,Sem.run_pure,Result.andThen_ok,invoke,builtin,p4,h1',k2]
        exact qq hrun (hK _ _ _ _ _ (k3.put dst (by simp [ak])) k1)
       ·cases hk
      ·cases hk
     ·cases hk
   ·rename_i hc
    split at hk
    ·rename_i t x h1 h2
     split at hk
     ·rename_i e hd
      split at hk
      ·rename_i i zs hi hz
       cases eY:mW i
       ·rw[eY]at hk
        simp only[cond_false]at hk
        simp only[mW,Bool.or_eq_false_iff,beq_eq_false_iff_ne]at eY
        obtain⟨⟨z1,z2⟩,z3⟩:=eY
        obtain⟨i',zv,g1,g2,g3,g4,g5,g6⟩:=yj (w:=w) hz (ctx z w E pb)
        rw[hi]at g1;injection g1 with g1;subst g1
        rw[g2]at z3
        simp only[Bool.or_eq_false_iff,bne_eq_false_iff_eq,Bool.not_eq_false']at z3
        obtain⟨z3,z4⟩:=z3
        have qV:∀c,aI c zs zv.cells.toList:=fun c=>by
         obtain⟨i2,v2,f1,f2,f3,f4,f5,f6⟩:=yj (w:=w) hz c
         rw[hi]at f1;injection f1 with f1;subst f1
         rw[g2]at f2;injection f2 with f2;subst f2
         exact f5
        obtain⟨σ',h3,h4⟩:=Option.bind_eq_some_iff.1 hk
        rw[h2]at re
        have hl:∃v,c.args.toList.map a.eval=[v]∧ak (ctx z w E pb) x v:=by
         generalize c.args.toList.map a.eval=vs at *
         simp only[aI]at re
         obtain⟨v,_,rfl,r1,rfl⟩:=re
         exact⟨v,rfl,r1⟩
        obtain⟨v,hvs,r1⟩:=hl
        obtain⟨w',k1,k2⟩:=ah5 (ty:=ty) h hd (agH X.P hi g2) z3 z1 qV g6 h3 r1
        have h1':c.argTypes=#[t]:=by apply Array.toList_inj.1;simpa using h1
        have p4:c.args.map a.eval=#[v]:=by apply Array.toList_inj.1;rw[hargs,hvs]
        have hrun:(execOp a.eval ⟨dst,.call c,ty,pos,af,g⟩).run X.P w=.ok (.value undef) w':=by
         simp only[execOp,resolve,hc,Sem.run_bind,Sem.run_pure,Result.andThen_ok,invoke,builtin,p4,h1',k1]
         rfl
        exact qq hrun (hK _ _ _ _ _ (k2.undef dst) h4)
       ·rw[eY]at hk;cases hk
      ·cases hk
     ·cases hk
    ·cases hk
   ·rename_i hc
    split at hk
    ·rename_i t u m key h1 h2
     split at hk
     ·rename_i kt et hd
      split at hk
      ·rename_i ek he
       obtain⟨σ',h3,h4⟩:=Option.bind_eq_some_iff.1 hk
       rw[h2]at re
       have hl:∃v vy,c.args.toList.map a.eval=[v,vy]∧ak (ctx z w E pb) m v∧ak (ctx z w E pb) key vy:=by
        generalize c.args.toList.map a.eval=vs at *
        simp only[aI]at re
        obtain⟨v,_,rfl,r1,u',_,rfl,r2,rfl⟩:=re
        exact⟨v,u',rfl,r1,r2⟩
       obtain⟨v,vy,hvs,r1,r2⟩:=hl
       obtain⟨w',k1,k2⟩:=aj7 (u:=u) (ty:=ty) h hd he h3 r1 r2
       have h1':c.argTypes=#[t,u]:=by apply Array.toList_inj.1;simpa using h1
       have p4:c.args.map a.eval=#[v,vy]:=by apply Array.toList_inj.1;rw[hargs,hvs]
       have hrun:(execOp a.eval ⟨dst,.call c,ty,pos,af,g⟩).run X.P w=.ok (.value undef) w':=by
        simp only[execOp,resolve,hc,Sem.run_bind,Sem.run_pure,Result.andThen_ok,invoke,builtin,p4,h1',k1]
        rfl
       exact qq hrun (hK _ _ _ _ _ (k2.undef dst) h4)
      ·cases hk
     ·cases hk
    ·cases hk
   ·exact zj hs h hk hK
   ·rename_i f hc
    cases hq:(q&&!X.W.contains f)
    ·rw[hq]at hk
     simp only[cond_false]at hk
     obtain⟨⟨rr,σ'⟩,h3,h4⟩:=Option.bind_eq_some_iff.1 hk
     exact HA h (hs.call _ _ _ _ _ h3) (by rw[hargs];exact re) (UN hc) (fun v w' E' h1 h2=>hK _ _ _ _ _ (h1.put dst h2) h4)
    ·rw[hq]at hk
     simp only[cond_true]at hk
     exact zj hs h hk hK
   ·rename_i x hnf hc
    cases q
    ·simp only[cond_false]at hk
     obtain⟨⟨rr,σ'⟩,h3,h4⟩:=Option.bind_eq_some_iff.1 hk
     have rx:=eH h x
     generalize ev X s x=vx at *
     cases vx<;>simp only[A.jE]at h3<;>first|(cases h3;done)|skip
     rename_i fn0 HW
     simp only[ak]at rx
     obtain⟨f,cs,e1,e2,e3⟩:=rx
     rw[←e2]at h3
     have A0:X.dyn (X.nm.getD f 0) (c.args.toList.map (ev X s)++HW) s.σ=some (rr,σ'):=by rw[h.nm];exact h3
     exact HA h (hs.dyn _ _ _ _ _ A0) (vs:=c.args.map a.eval++cs) (by rw[Array.toList_append,hargs];exact re.append e3) (OA hc e1) (fun v w' E' h1 h2=>hK _ _ _ _ _ (h1.put dst h2) h4)
    ·simp only[cond_true]at hk
     exact zj hs h hk hK
   ·cases hk
end
end
section
structure Up where
 d:Option Nat
 v:AV
 bx:Option (Nat×AV)
 new:Option um
 wz:Bool
 σ:Option Heap
def pI (wz:Bool) (d:Nat) (a:Option um):Option um:=match ou d a with|some p=>bif wz&&p.slot==d then none else some p|none=>none
def Up.sl (u:Up) (l:List AV):List AV:=match u.d with
 |some d=>(match u.bx with|some (b,x)=>l.set b x|none=>l).set d u.v
 |none=>(match u.bx with|some (b,x)=>l.set b x|none=>l)
def Up.A (u:Up) (A:Nat→Option um) (t:Nat):Option um:=match u.d with|none=>A t|some d=>bif t==d then u.new else pI u.wz d (A t)
def Up.ap (u:Up) (s:AS):AS:=⟨u.sl s.sl,u.A s.A,u.σ.getD s.σ⟩
theorem Hg (d:Nat) (a:Option um):pI false d a=ou d a:=by unfold pI;cases ou d a<;>rfl
theorem Po (i:Bool) (d:Nat) (a:Option um):pI i d a=a∨pI i d a=none:=by
 cases a with
 |none=>left;rfl
 |some p=>
  unfold pI
  cases hk:ou d (some p)with
  |none=>right;rfl
  |some q=>
   simp only
   have:q=p:=by
    simp only[ou]at hk
    cases ht:p.tag with
    |none=>rw[ht]at hk;simpa using hk.symm
    |some g=>
     obtain⟨g,w⟩:=g
     rw[ht]at hk
     simp only at hk
     cases hg:(g==d)
     ·rw[hg]at hk;simpa using hk.symm
     ·rw[hg]at hk;cases hk
   subst this
   cases hb:(i&&q.slot==d)
   ·left;rfl
   ·right;rfl
theorem Lc (i:Bool) (d:Nat):pI i d none=none:=rfl
theorem ag4 (i j:Bool) (d e:Nat) (a:Option um):pI i d (pI j e a)=pI j e (pI i d a):=by
 rcases Po i d a with h1|h1<;>rcases Po j e a with h2|h2
 ·rw[h2,h1,h2]
 ·rw[h2,Lc,h1,h2]
 ·rw[h2,h1,Lc]
 ·rw[h2,Lc,h1,Lc]
structure Up.Z3 (x y : Up) : Prop where
 d:∀d,x.d=some d→y.d≠some d
 bx:∀b v,x.bx=some (b,v)→(∀c w,y.bx=some (c,w)→c≠b)∧y.d≠some b
 by':∀b v,y.bx=some (b,v)→(∀c w,x.bx=some (c,w)→c≠b)∧x.d≠some b
 nx:∀d,y.d=some d→pI y.wz d x.new=x.new
 ny:∀d,x.d=some d→pI x.wz d y.new=y.new
 σ:x.σ=none∨y.σ=none
theorem Up.comm {x y:Up} (h:x.Z3 y) (s:AS):x.ap (y.ap s)=y.ap (x.ap s):=by
 obtain⟨hd,mK,hby,hnx,hny,fS⟩:=h
 unfold Up.ap
 congr 1
 ·show x.sl (y.sl s.sl)=y.sl (x.sl s.sl)
  generalize s.sl=l
  obtain⟨xd,xv,xb,xn,xi,xs⟩:=x
  obtain⟨yd,yv,yb,yn,yi,ys⟩:=y
  simp only at hd mK hby
  cases xb with
  |none=>
   cases yb with
   |none=>
    cases xd with
    |none=>cases yd<;>simp [Up.sl]
    |some dx=>cases yd with
     |none=>simp [Up.sl]
     |some dy=>simp only[Up.sl];rw[List.set_comm];intro e;exact hd dx rfl (by rw[e])
   |some bv=>
    obtain⟨b,v⟩:=bv
    obtain⟨_,hb⟩:=hby b v rfl
    cases xd with
    |none=>cases yd<;>simp [Up.sl]
    |some dx=>
     have hne:dx≠b:=fun e=>hb (by rw[e])
     cases yd with
     |none=>simp only[Up.sl];rw[List.set_comm _ _ (fun e=>hne e.symm)]
     |some dy=>
      have pZ:dx≠dy:=fun e=>hd dx rfl (by rw[e])
      simp only[Up.sl]
      rw[List.set_comm _ _ (fun e=>pZ e.symm),List.set_comm _ _ (fun e=>hne e.symm)]
  |some bv=>
   obtain⟨b,v⟩:=bv
   obtain⟨Jn,hb⟩:=mK b v rfl
   cases yb with
   |none=>
    cases yd with
    |none=>cases xd<;>simp [Up.sl]
    |some dy=>
     have hne:dy≠b:=fun e=>hb (by rw[e])
     cases xd with
     |none=>simp only[Up.sl];rw[List.set_comm _ _ hne]
     |some dx=>
      have pZ:dx≠dy:=fun e=>hd dx rfl (by rw[e])
      simp only[Up.sl]
      rw[List.set_comm _ _ hne,List.set_comm _ _ (fun e=>pZ e.symm)]
   |some cw=>
    obtain⟨c,u⟩:=cw
    have hcb:c≠b:=Jn c u rfl
    obtain⟨_,hc⟩:=hby c u rfl
    cases xd with
    |none=>
     cases yd with
     |none=>simp only[Up.sl];rw[List.set_comm _ _ hcb]
     |some dy=>
      have hne:dy≠b:=fun e=>hb (by rw[e])
      simp only[Up.sl]
      rw[List.set_comm _ _ hne,List.set_comm _ _ hcb]
    |some dx=>
     have hnc:dx≠c:=fun e=>hc (by rw[e])
     cases yd with
     |none=>
      simp only[Up.sl]
      rw[List.set_comm _ _ hcb,List.set_comm _ _ (fun e=>hnc e.symm)]
     |some dy=>
      have hne:dy≠b:=fun e=>hb (by rw[e])
      have pZ:dx≠dy:=fun e=>hd dx rfl (by rw[e])
      simp only[Up.sl]
      rw[List.set_comm _ _ hne,List.set_comm _ _ (fun e=>pZ e.symm),List.set_comm _ _ hcb,List.set_comm _ _ (fun e=>hnc e.symm)]
 ·funext t
  show x.A (y.A s.A) t=y.A (x.A s.A) t
  generalize s.A t=a0 
  unfold Up.A
  cases hxd:x.d with
  |none=>cases y.d<;>rfl
  |some dx=>
   cases hyd:y.d with
   |none=>rfl
   |some dy=>
    have pZ:dx≠dy:=fun e=>hd dx hxd (by rw[hyd,e])
    simp only
    by_cases h1:t=dx
    ·subst h1
     have:(t==dy)=false:=by simpa using pZ
     simp only[beq_self_eq_true,cond_true,this,cond_false]
     exact(hnx dy hyd).symm
    ·have h1':(t==dx)=false:=by simpa using h1
     by_cases h2:t=dy
     ·subst h2
      simp only[beq_self_eq_true,cond_true,h1',cond_false]
      exact hny dx hxd
     ·have h2':(t==dy)=false:=by simpa using h2
      simp only[h1',h2',cond_false]
      exact ag4 ..
 ·rcases fS with e|e<;>simp [e]
structure RI (X : Fx) (Rt : List (Nat × Nat)) (Bt : List Nat) (s : AS) : Prop where
 l:∀t b,Rt.lookup t=some b→X.L.contains b=true
 a:∀t p,s.A t=some p→Rt.lookup t=some p.slot
 v:∀t b,Rt.lookup t=some b→X.L.contains t=false→l5 (s.sl.getD t .undef)=true
 b:∀t,Bt.contains t=true→oB (s.sl.getD t .undef)=true
def qz (σ σ':Heap):Prop:=∀(id:Nat) (cs:List AV),σ[id]? =some (aJ.box cs)↔σ'[id]? =some (aJ.box cs)
section
variable {R : Type} {X : Fx} {Rt : List (Nat × Nat)} {Bt : List Nat} {s s' : AS}
theorem LI (h:RI X Rt Bt s) {tag:Option (Nat×Bool)} {x:Operand} {b off:Nat} (hp:place X s tag x=some (b,off)):zg X Rt x=some b:=by
 cases x with
 |tmp t=>
  simp only[place]at hp
  simp only[zg]
  cases hL:X.L.contains t
  ·rw[hL]at hp
   simp only[cond_false]at hp ⊢
   split at hp
   ·rename_i p hA
    cases hc:X.L.contains p.slot
    ·rw[hc]at hp;cases hp
    ·rw[hc]at hp
     simp only[cond_true]at hp
     have ha:=h.a t p hA
     split at hp
     ·simp only[Option.some.injEq,Prod.mk.injEq]at hp;rw[ha,hp.1]
     ·rename_i g hg
      cases ht:(tag==some g)
      ·rw[ht]at hp;cases hp
      ·rw[ht]at hp;simp only[cond_true,Option.some.injEq,Prod.mk.injEq]at hp;rw[ha,hp.1]
   ·cases hp
  ·rw[hL]at hp
   simp only[cond_true,Option.some.injEq,Prod.mk.injEq]at hp ⊢
   exact hp.1
 |_=>simp [place]at hp
theorem Fq (h:RI X Rt Bt s) {tag:Option (Nat×Bool)} {x:Operand} {b:Nat} (hr:zg X Rt x=some b) (hp:place X s tag x=none):l5 (ev X s x)=true:=by
 cases x with
 |tmp t=>
  simp only[zg]at hr
  cases hL:X.L.contains t
  ·rw[hL]at hr
   simp only[cond_false]at hr
   simp only[ev,hL,cond_false]
   exact h.v t b hr hL
  ·simp only[place,hL,cond_true]at hp;cases hp
 |_=>simp [zg]at hr
theorem Xz {v:AV} {σ:Heap} (h:l5 v=true):A.deref v σ=none:=by
 unfold l5 at h;split at h<;>first|rfl|cases h
theorem ag0 {v:AV} {σ σ':Heap} (h:qz σ σ') (hv:oB v=true):A.deref v σ=A.deref v σ':=by
 cases v<;>first|rfl|skip
 case op id off=>
  simp only[A.deref]
  cases h1:σ[id]? with
  |none=>
   cases h2:σ'[id]? with
   |none=>rfl
   |some b=>cases b<;>first|rfl|(have:=(h id _).2 h2;rw[h1]at this;cases this)
  |some b=>
   cases b with
   |box cs=>rw[(h id cs).1 h1]
   |_=>
    cases h2:σ'[id]? with
    |none=>rfl
    |some b=>cases b<;>first|rfl|(have:=(h id _).2 h2;rw[h1]at this;cases this)
 case oe id g i off=>cases hv
theorem agB {v:AV} {new:List AV} {σ:Heap} (h:l5 v=true):A.storeAt v new σ=none:=by
 unfold l5 at h;split at h<;>first|rfl|cases h
theorem O1 {pl:Nat→Option (Nat×TypeId)}:∀(ps:List (Nat×Operand)) (cs:List AV),(∀p∈ps,ev X s p.2=ev X s' p.2)→oA X s pl ps cs=oA X s' pl ps cs
 |[],cs,_=>rfl
 |(i,x)::ps,cs,h=>by
  have hx:=h (i,x) (by simp)
  simp only at hx
  simp only[oA,hx]
  cases pl i with
  |none=>rfl
  |some ot=>
   simp only
   congr 1;funext new;congr 1;funext cs'
   exact O1 ps cs' (fun p hp=>h p (by simp [hp]))
theorem PY {o:Oper} {tag:Option (Nat×Bool)} (gu:∀x∈o.op.operands.toList,ev X s x=ev X s' x) (hpl:∀x,nP o=some x→place X s tag x=place X s' tag x) (hb:∀b,rt X Rt o=some b→s.sl.getD b .undef=s'.sl.getD b .undef)
  (Jg:∀x b off,nP o=some x→place X s' tag x=some (b,off)→rt X Rt o=some b):kH X o s tag=kH X o s' tag:=by
 obtain⟨dst,op,ty,pos,af,g⟩:=o
 cases op<;>simp only[kH]
 case nilCheck x=>
  rw[hpl x rfl]
  split
  ·rename_i b off hp;rw[hb b (Jg x b off rfl hp)]
  ·rfl
 case fieldAddr t x f=>
  rw[hpl x rfl]
  split
  ·rename_i b off hp;rw[hb b (Jg x b off rfl hp)]
  ·rfl
 case indexAddr t x i=>
  rw[hpl x rfl,gu i (by simp [Op.operands])]
  split
  ·rename_i b off hp;rw[hb b (Jg x b off rfl hp)]
  ·rfl
theorem Li {o:Oper} {tag:Option (Nat×Bool)} (gu:∀x∈o.op.operands.toList,ev X s x=ev X s' x) (hpl:∀x,nP o=some x→place X s tag x=place X s' tag x) (hb:∀b,rt X Rt o=some b→s.sl.getD b .undef=s'.sl.getD b .undef)
  (Jg:∀x b off,nP o=some x→place X s' tag x=some (b,off)→rt X Rt o=some b) (hno:∀x b,nP o=some x→rt X Rt o=some b→place X s' tag x=none→l5 (ev X s' x)=true) (fS:uF X Rt o=true→soft Bt o=false→s.σ=s'.σ) (an9:uF X Rt o=true→soft Bt o=true→qz s.σ s'.σ) (hB:∀t,Bt.contains t=true→oB (ev X s' (.tmp t))=true):fW X o s tag=fW X o s' tag:=by
 obtain⟨dst,op,ty,pos,af,g⟩:=o
 cases op<;>simp only[fW]
 case move x=>rw[gu x (by simp [Op.operands])]
 case assign x=>rw[gu x (by simp [Op.operands])]
 case pick x y u=>rw[gu x (by simp [Op.operands]),gu y (by simp [Op.operands]),gu u (by simp [Op.operands])]
 case box t x=>rw[gu x (by simp [Op.operands])]
 case build t ps=>
  have hps:∀p∈ps.toList,ev X s p.2=ev X s' p.2:=fun p hp=>gu p.2 (by simp only[Op.operands];simp;exact⟨p.1,by simpa using hp⟩)
  split
  ·rw[O1 ps.toList _ hps]
  ·rfl
 case buildSlice t n ps=>
  have hps:∀p∈ps.toList,ev X s p.2=ev X s' p.2:=fun p hp=>gu p.2 (by simp only[Op.operands];simp;exact⟨p.1,by simpa using hp⟩)
  split
  ·split
   ·rw[O1 ps.toList _ hps]
   ·rfl
  ·rfl
 case load t x=>
  rw[hpl x rfl,gu x (by simp [Op.operands])]
  split
  ·rename_i b off hp;rw[hb b (Jg x b off rfl hp)]
  ·rename_i hp
   cases hr:rt X Rt ⟨dst,.load t x,ty,pos,af,g⟩with
   |none=>
    cases Eh:soft Bt ⟨dst,.load t x,ty,pos,af,g⟩
    ·rw[fS (by simp only[uF,hr,Option.isNone_none]) Eh]
    ·rw[ag0 (an9 (by simp only[uF,hr,Option.isNone_none]) Eh) (by
      cases x with
      |tmp u=>exact hB u Eh
      |_=>simp [soft]at Eh)]
   |some b=>rw[Xz (hno x b rfl hr hp),Xz (hno x b rfl hr hp)]
 case nilCheck x=>rw[gu x (by simp [Op.operands])]
 case binOp op t x y u=>rw[gu x (by simp [Op.operands]),gu y (by simp [Op.operands])]
 case unOp op t x=>rw[gu x (by simp [Op.operands])]
 case convert a b x=>rw[gu x (by simp [Op.operands])]
 case makeFunc fn first caps=>
  have:caps.toList.map (ev X s)=caps.toList.map (ev X s'):=List.map_congr_left fun x hx=>gu x (by simp [Op.operands];exact .inr (by simpa using hx))
  rw[this]
 case slice t x lo hi mx=>
  have h1:lo.map (ev X s)=lo.map (ev X s'):=by cases lo with|none=>rfl|some y=>simp only[Option.map_some];rw[gu y (by simp [Op.operands])]
  have h2:hi.map (ev X s)=hi.map (ev X s'):=by cases hi with|none=>rfl|some y=>simp only[Option.map_some];rw[gu y (by simp [Op.operands])]
  rw[gu x (by simp [Op.operands]),h1,h2,fS rfl rfl]
  split
  ·rfl
  ·split
   ·rw[gu _ (by simp [Op.operands]),gu _ (by simp [Op.operands])]
   ·rfl
 case fieldAddr t x f=>rw[gu x (by simp [Op.operands])]
 case field t x f=>rw[gu x (by simp [Op.operands])]
 case indexAddr t x i=>rw[gu x (by simp [Op.operands]),gu i (by simp [Op.operands])]
 case index t x i=>rw[gu x (by simp [Op.operands]),gu i (by simp [Op.operands])]
 case lookup t x i ok=>rw[gu x (by simp [Op.operands]),gu i (by simp [Op.operands]),fS rfl rfl]
 case extract x i=>rw[gu x (by simp [Op.operands])]
 case entry i=>rw[gu i (by simp [Op.operands]),fS rfl rfl]
 case call c=>
  have ha:c.args.toList.map (ev X s)=c.args.toList.map (ev X s'):=List.map_congr_left fun x hx=>gu x (by simp [Op.operands,Call.operands];exact .inr (by simpa using hx))
  rw[ha,fS rfl rfl]
  cases hc:c.callee with
  |value f=>
   have hf:=gu f (by simp [Op.operands,Call.operands,hc])
   cases f<;>simp only[hf]
  |_=>rfl
theorem Lq {σ:Heap} {b:aJ} (hb:∀cs,b≠.box cs):qz σ (σ++[b]):=by
 intro id cs
 by_cases h:id<σ.length
 ·rw[List.getElem?_append_left h]
 ·rw[List.getElem?_eq_none (by omega),List.getElem?_append_right (by omega)]
  constructor
  ·intro e;cases e
  ·intro e
   have:=List.mem_of_getElem? e
   simp at this
   exact absurd this.symm (hb cs)
theorem Qv {σ:Heap} {id:Nat} {b b':aJ} (hb:∀cs,b≠.box cs) (hb':∀cs,b'≠.box cs) (h:σ[id]? =some b):qz σ (σ.set id b'):=by
 intro i cs
 rw[List.getElem?_set]
 by_cases e:id=i
 ·subst e
  rw[h]
  have hlt:=(List.getElem?_eq_some_iff.1 h).1
  simp only[if_true,hlt]
  constructor
  ·intro e;injection e with e;exact absurd e (hb cs)
  ·intro e;injection e with e;exact absurd e (hb' cs)
 ·simp [e]
theorem C6 (σ:Heap):qz σ σ:=fun _ _=>Iff.rfl
theorem ahX {ek:A.EK} {m k v:AV} {σ σ':Heap} (h:A.ew ek m k v σ=some σ'):qz σ σ':=by
 unfold A.ew at h
 cases hk:A.jq ek k
 ·rw[hk]at h;cases h
 rw[hk]at h
 simp only[cond_true]at h
 split at h
 ·split at h
  ·rename_i es hg
   obtain⟨es',_,e⟩:=Option.map_eq_some_iff.1 h
   subst e
   exact Qv (fun cs e=>by cases e) (fun cs e=>by cases e) hg
  ·cases h
 ·cases h
theorem Vm {sz most:Nat} {x r:AV} {ys:List (List AV)} {σ σ':Heap} (h:A.sM sz most x ys σ=some (r,σ')):qz σ σ':=by
 unfold A.sM at h
 split at h
 ·split at h
  ·injection h with h;injection h with _ h;subst h;exact C6 _
  ·split at h
   ·injection h with h;injection h with _ h;subst h;exact Lq fun cs e=>by cases e
   ·cases h
 ·split at h
  ·injection h with h;injection h with _ h;subst h;exact C6 _
  ·split at h
   ·injection h with h;injection h with _ h;subst h;exact Lq fun cs e=>by cases e
   ·cases h
 ·split at h
  ·rename_i hg
   split at h
   ·split at h
    ·injection h with h;injection h with _ h;subst h;exact C6 _
    ·split at h
     ·injection h with h;injection h with _ h;subst h;exact Qv (fun cs e=>by cases e) (fun cs e=>by cases e) hg
     ·injection h with h;injection h with _ h;subst h;exact Qv (fun cs e=>by cases e) (fun cs e=>by cases e) hg
   ·cases h
  ·split at h
   ·injection h with h;injection h with _ h;subst h;exact Lq fun cs e=>by cases e
   ·cases h
  ·cases h
 ·cases h
theorem afy {sz most:Nat} {x y r:AV} {σ σ':Heap} (h:A.append sz most x y σ=some (r,σ')):qz σ σ':=by
 unfold A.append at h
 obtain⟨ys,_,h2⟩:=Option.bind_eq_some_iff.1 h
 exact Vm h2
theorem aeH {sz most:Nat} {zs:List AV} {x n r:AV} {σ σ':Heap} (h:A.Hz sz most zs x n σ=some (r,σ')):qz σ σ':=by
 unfold A.Hz at h
 split at h
 ·split at h
  ·exact Vm h
  ·cases h
 ·cases h
structure Ag (X : Fx) (Rt : List (Nat × Nat)) (Bt : List Nat) (o : Oper) (ls : List Nat) (tag : Option (Nat × Bool)) (s s' : AS) : Prop where
 r1:RI X Rt Bt s
 r2:RI X Rt Bt s'
 gu:∀t∈ls,X.L.contains t=false→s.sl.getD t .undef=s'.sl.getD t .undef
 pl:∀t,nP o=some (.tmp t)→place X s tag (.tmp t)=place X s' tag (.tmp t)
 bx:∀b,rt X Rt o=some b→s.sl.getD b .undef=s'.sl.getD b .undef
 σ:uF X Rt o=true→soft Bt o=false→s.σ=s'.σ
 JQ:uF X Rt o=true→soft Bt o=true→qz s.σ s'.σ
theorem aiR {tag:Option (Nat×Bool)} {x:Operand} {b off:Nat} (h:place X s tag x=some (b,off)):X.L.contains b=true:=by
 cases x with
 |tmp t=>
  simp only[place]at h
  cases hL:X.L.contains t
  ·rw[hL]at h
   simp only[cond_false]at h
   split at h
   ·rename_i p hA
    cases hp:X.L.contains p.slot
    ·rw[hp]at h;cases h
    ·rw[hp]at h
     simp only[cond_true]at h
     split at h
     ·simp only[Option.some.injEq,Prod.mk.injEq]at h;rw[←h.1];exact hp
     ·rename_i g hg
      cases ht:(tag==some g)
      ·rw[ht]at h;cases h
      ·rw[ht]at h;simp only[cond_true,Option.some.injEq,Prod.mk.injEq]at h;rw[←h.1];exact hp
   ·cases h
  ·rw[hL]at h
   simp only[cond_true,Option.some.injEq,Prod.mk.injEq]at h
   rw[←h.1];exact hL
 |_=>simp [place]at h
theorem Ag.Cs {o:Oper} {ls:List Nat} {tag:Option (Nat×Bool)} (h:Ag X Rt Bt o ls tag s s') (hls:∀t,Operand.tmp t∈o.op.operands.toList→t∈ls):∀x∈o.op.operands.toList,ev X s x=ev X s' x:=by
 intro x hx
 cases x with
 |tmp t=>
  simp only[ev]
  cases hL:X.L.contains t
  ·simp only[cond_false];exact h.gu t (hls t hx) hL
  ·rfl
 |_=>rfl
theorem RI.Gn (h:RI X Rt Bt s):∀t,Bt.contains t=true→oB (ev X s (.tmp t))=true:=by
 intro t ht
 simp only[ev]
 cases X.L.contains t
 ·exact h.b t ht
 ·rfl
theorem Ag.A8 {o:Oper} {ls:List Nat} {tag:Option (Nat×Bool)} (h:Ag X Rt Bt o ls tag s s'):∀x,nP o=some x→place X s tag x=place X s' tag x:=by
 intro x hx
 cases x with
 |tmp t=>exact h.pl t hx
 |_=>rfl
def EA (X:Fx) (d:Option Nat) (v:AV):Up:=⟨d,match d with|some d=>bif X.L.contains d then .undef else v|none=>.undef,none,none,false,none⟩
def JO (X:Fx) (d:Option Nat) (σ:Heap) (v:AV):Up:=⟨d,match d with|some d=>bif X.L.contains d then .undef else v|none=>.undef,none,none,false,some σ⟩
def Nx (X:Fx) (d:Option Nat) (b:Nat) (cs:List AV):Up:=⟨d,match d with|some d=>bif X.L.contains d then .undef else .aH []|none=>.undef,some (b,.lbx cs),none,false,none⟩
def Nw (d:Nat) (cs:List AV):Up:=⟨some d,.lbx cs,none,none,true,none⟩
def GD (X:Fx) (d:Option Nat) (b off:Nat) (tag:Option (Nat×Bool)):Up:=
 ⟨d,.undef,none,match d with|some d=>(bif X.L.contains d||!Nat.blt d X.n then none else match tag with|some (g,w)=>(bif g==d then none else some ⟨b,off,some (g,w)⟩)|none=>some ⟨b,off,none⟩)|none=>none,false,none⟩
theorem Mq (d:Option Nat) (v:AV) (s:AS):s.put X d v=(EA X d v).ap s:=by
 cases d with
 |none=>rfl
 |some d=>
  simp only[AS.put,Up.ap,EA,Up.sl,Option.getD_none]
  congr 1;funext t;simp only[Up.A,Hg]
theorem kM (d:Option Nat) (v:AV) (σ:Heap) (s:AS):(s.heap σ).put X d v=(JO X d σ v).ap s:=by
 cases d with
 |none=>rfl
 |some d=>
  simp only[AS.put,AS.heap,Up.ap,JO,Up.sl,Option.getD_some]
  congr 1;funext t;simp only[Up.A,Hg]
theorem Ws (d:Option Nat) (b:Nat) (cs:List AV) (s:AS):(⟨s.sl.set b (.lbx cs),s.A,s.σ⟩:AS).put X d (.aH [])=(Nx X d b cs).ap s:=by
 cases d with
 |none=>rfl
 |some d=>
  simp only[AS.put,Up.ap,Nx,Up.sl,Option.getD_none]
  congr 1;funext t;simp only[Up.A,Hg]
theorem Lg (d:Nat) (cs:List AV) (s:AS):s.oz d cs=(Nw d cs).ap s:=by
 simp only[AS.oz,Up.ap,Nw,Up.sl,Option.getD_none]
 congr 1
theorem Mg (d:Option Nat) (b off:Nat) (tag:Option (Nat×Bool)) (s:AS):s.mD X d b off tag=(GD X d b off tag).ap s:=by
 cases d with
 |none=>rfl
 |some d=>
  simp only[AS.mD,Up.ap,GD,Up.sl,Option.getD_none]
  congr 1;funext t;simp only[Up.A,Hg];rfl
structure tT (X : Fx) (Rt : List (Nat × Nat)) (Bt : List Nat) (o : Oper) (ls : List Nat) (τ : Heap) (u : Up) : Prop where
 d:u.d=o.dst
 bx:∀b v,u.bx=some (b,v)→X.L.contains b=true∧wb X Rt o=some b
 new:∀p,u.new=some p→rL o=true∧(∀g w,p.tag=some (g,w)→g∈ls)∧rt X Rt o=some p.slot∧∀d,u.d=some d→Rt.lookup d=some p.slot
 box:u.wz=true→∃d,o.dst=some d∧X.L.contains d=true
 σ:u.σ≠none→p5 X Rt o=true
 v:∀d b,u.d=some d→Rt.lookup d=some b→X.L.contains d=false→l5 u.v=true
 vb:∀d,u.d=some d→Bt.contains d=true→oB u.v=true
 bxv:∀b v,u.bx=some (b,v)→oB v=true
 fr:Cv o=true→∀σ,u.σ=some σ→qz τ σ
def uo (X:Fx) (Rt:List (Nat×Nat)) (Bt:List Nat) (o:Oper):Prop:=(∀d,o.dst=some d→X.L.contains d=false→Rt.lookup d=(bif wv o then rt X Rt o else none))∧∀d,o.dst=some d→Bt.contains d=true→BG Bt o=true
theorem uo.of {o:Oper} (h:RG X Rt o=true) (hb:RE Bt o=true):uo X Rt Bt o:=by
 refine⟨fun d hd hL=>?_,fun d hd hc=>?_⟩
 ·unfold RG at h
  rw[hd]at h
  simp only[hL,Bool.false_or,beq_iff_eq]at h
  exact h
 ·unfold RE at hb
  rw[hd]at hb
  simp only[hc,Bool.not_true,Bool.false_or]at hb
  exact hb
theorem Z0 {o:Oper} {ls:List Nat} (v:AV) (hR:uo X Rt Bt o) (hv:wv o=true→∀b,rt X Rt o=some b→l5 v=true) (Jk:BG Bt o=true→oB v=true) {τ:Heap}:tT X Rt Bt o ls τ (EA X o.dst v):=by
 refine⟨rfl,(fun b v h=>by cases h),(fun p h=>by cases h),(fun h=>by cases h),(fun h=>absurd rfl h),fun d b hd hl hL=>?_,fun d hd hc=>?_,(fun b v h=>by cases h),(fun _ σ h=>by cases h)⟩
 ·simp only[EA]at hd ⊢
  rw[hd]
  simp only[hL,cond_false]
  rw[hR.1 d hd hL]at hl
  cases ha:wv o
  ·rw[ha]at hl;cases hl
  ·rw[ha]at hl;exact hv ha b hl
 ·have:=Jk (hR.2 d hd hc)
  simp only[EA]at hd ⊢
  rw[hd]
  simp only
  cases X.L.contains d
  ·exact this
  ·rfl
theorem tL {o:Oper} {ls:List Nat} (σ:Heap) (v:AV) (hR:uo X Rt Bt o) (h:p5 X Rt o=true) (hn:wv o=false) (hcb:BG Bt o=false) {τ:Heap} (hf:Cv o=true→qz τ σ):tT X Rt Bt o ls τ (JO X o.dst σ v):=by
 refine⟨rfl,(fun b v h=>by cases h),(fun p h=>by cases h),(fun h=>by cases h),(fun _=>h),fun d b hd hl hL=>?_,fun d hd hc=>?_,(fun b v h=>by cases h),(fun hw σ' h=>?_)⟩
 ·simp only[JO]at hd
  rw[hR.1 d hd hL,hn]at hl
  cases hl
 ·have:=hR.2 d hd hc
  rw[hcb]at this;cases this
 ·simp only[JO,Option.some.injEq]at h
  subst h;exact hf hw
theorem ZZ {τ:Heap} {o:Oper} {ls:List Nat} {b off:Nat} {tag:Option (Nat×Bool)} (hR:uo X Rt Bt o) (ha:wv o=true) (hr:rt X Rt o=some b) (h:rL o=true) (ht:∀g w,tag=some (g,w)→g∈ls):tT X Rt Bt o ls τ (GD X o.dst b off tag):=by
 refine⟨rfl,(fun b v h=>by cases h),(fun p hp=>?_),(fun h=>by cases h),(fun h=>absurd rfl h),(fun d b hd hl hL=>rfl),(fun _ _ _=>rfl),(fun b v h=>by cases h),(fun _ σ h=>by cases h)⟩
 have key:p.slot=b∧(∀g w,p.tag=some (g,w)→g∈ls)∧∀d,o.dst=some d→X.L.contains d=false:=by
  unfold GD at hp
  simp only at hp
  cases hd:o.dst with
  |none=>rw[hd]at hp;cases hp
  |some d=>
   rw[hd]at hp
   simp only at hp
   cases hc:(X.L.contains d||!Nat.blt d X.n)
   ·rw[hc]at hp
    simp only[cond_false]at hp
    have hL:X.L.contains d=false:=by simp only[Bool.or_eq_false_iff]at hc;exact hc.1
    cases tag with
    |none=>simp only[Option.some.injEq]at hp;subst hp;exact⟨rfl,(fun g w e=>by cases e),fun d' e=>by injection e with e;rw[←e];exact hL⟩
    |some gw=>
     obtain⟨g',w'⟩:=gw
     simp only at hp
     cases hg:(g'==d)
     ·rw[hg]at hp;simp only[cond_false,Option.some.injEq]at hp;subst hp
      refine⟨rfl,fun g w e=>?_,fun d' e=>by injection e with e;rw[←e];exact hL⟩
      simp only[Option.some.injEq,Prod.mk.injEq]at e
      rw[←e.1];exact ht g' w' rfl
     ·rw[hg]at hp;cases hp
   ·rw[hc]at hp;cases hp
 refine⟨h,key.2.1,by rw[hr,key.1],fun d hd=>?_⟩
 have hd':o.dst=some d:=hd
 rw[hR.1 d hd' (key.2.2 d hd'),ha,cond_true,hr,key.1]
theorem Lf (l:List AV) (d t:Nat) (v:AV) (h:t≠d):(l.set d v).getD t .undef=l.getD t .undef:=by
 have h':¬d=t:=fun e=>h (Eq.symm e)
 simp only[List.getD,List.getElem?_set,if_neg h']
theorem Rz {u:Up} {l:List AV} {t:Nat} (h1:u.d≠some t) (h2:∀b v,u.bx=some (b,v)→t≠b):(u.sl l).getD t .undef=l.getD t .undef:=by
 unfold Up.sl
 cases hd:u.d with
 |none=>
  cases hb:u.bx with
  |none=>rfl
  |some bv=>obtain⟨b,v⟩:=bv;exact Lf _ _ _ _ (h2 b v hb)
 |some d=>
  have hne:t≠d:=fun e=>h1 (by rw[hd,e])
  cases hb:u.bx with
  |none=>exact Lf _ _ _ _ hne
  |some bv=>obtain⟨b,v⟩:=bv;simp only;rw[Lf _ _ _ _ hne,Lf _ _ _ _ (h2 b v hb)]
theorem tT.ri {τ:Heap} {o:Oper} {ls:List Nat} {u:Up} (h:tT X Rt Bt o ls τ u) (hs:RI X Rt Bt s):RI X Rt Bt (u.ap s):=by
 refine⟨hs.l,fun t p hp=>?_,fun t b ht hL=>?_,fun t ht=>?_⟩
 ·have hp':u.A s.A t=some p:=hp
  unfold Up.A at hp'
  cases hd:u.d with
  |none=>rw[hd]at hp';exact hs.a t p hp'
  |some d=>
   rw[hd]at hp'
   simp only at hp'
   cases hc:(t==d)
   ·rw[hc]at hp'
    simp only[cond_false]at hp'
    rcases Po u.wz d (s.A t)with e|e
    ·rw[e]at hp';exact hs.a t p hp'
    ·rw[e]at hp';cases hp'
   ·rw[hc]at hp'
    simp only[cond_true]at hp'
    have:t=d:=by simpa using hc
    subst this
    exact(h.new p hp').2.2.2 t hd
 ·show l5 ((u.sl s.sl).getD t .undef)=true
  by_cases hd:u.d=some t
  ·have hv:=h.v t b hd ht hL
   have:(u.sl s.sl).getD t .undef=u.v∨(u.sl s.sl).getD t .undef=.undef:=by
    unfold Up.sl
    rw[hd]
    simp only[List.getD]
    rw[List.getElem?_set]
    simp only[if_true]
    generalize (match u.bx with|some (b,x)=>s.sl.set b x|none=>s.sl)=q
    by_cases hq:t<q.length
    ·left;simp [hq]
    ·right;simp [hq]
   rcases this with e|e
   ·rw[e];exact hv
   ·rw[e];rfl
  ·rw[Rz hd (fun b' v hb e=>by have:=(h.bx b' v hb).1;rw[←e,hL]at this;cases this)]
   exact hs.v t b ht hL
 ·show oB ((u.sl s.sl).getD t .undef)=true
  have rV:∀(l:List AV) (d:Nat) (v:AV),(l.set d v).getD t .undef=v∧t=d∨(l.set d v).getD t .undef=l.getD t .undef∨(l.set d v).getD t .undef=.undef:=by
   intro l d v
   simp only[List.getD,List.getElem?_set]
   by_cases e:d=t
   ·subst e
    by_cases hq:d<l.length
    ·left;simp [hq]
    ·right;right;simp [hq]
   ·right;left;simp [e]
  have mK:oB ((match u.bx with|some (b,x)=>s.sl.set b x|none=>s.sl).getD t .undef)=true:=by
   cases hb:u.bx with
   |none=>exact hs.b t ht
   |some bv=>
    obtain⟨b,v⟩:=bv
    rcases rV s.sl b v with⟨e,_⟩|e|e
    ·simp only;rw[e];exact h.bxv b v hb
    ·simp only;rw[e];exact hs.b t ht
    ·simp only;rw[e];rfl
  unfold Up.sl
  generalize (match u.bx with|some (b,x)=>s.sl.set b x|none=>s.sl)=q at mK
  cases hd:u.d with
  |none=>exact mK
  |some d=>
   simp only
   rcases rV q d u.v with⟨e,e2⟩|e|e
   ·rw[e];exact h.vb d hd (e2▸ht)
   ·rw[e];exact mK
   ·rw[e];rfl
theorem ZM {o:Oper} {tag:Option (Nat×Bool)} {p:Nat×Option Nat} (h:kH X o s tag=some p):rL o=true:=by
 obtain⟨dst,op,ty,pos,af,g⟩:=o
 cases op<;>simp only[kH]at h<;>first|(cases h;done)|rfl
theorem YS {o:Oper} {tag:Option (Nat×Bool)} {p:Nat×Option Nat} (h:kH X o s tag=some p):wv o=true:=by
 obtain⟨dst,op,ty,pos,af,g⟩:=o
 cases op<;>simp only[kH]at h<;>first|(cases h;done)|rfl
theorem ZN (hI:RI X Rt Bt s) {o:Oper} {tag:Option (Nat×Bool)} {b:Nat} {rr:Option Nat} (h:kH X o s tag=some (b,rr)):rt X Rt o=some b:=by
 obtain⟨dst,op,ty,pos,af,g⟩:=o
 cases op<;>simp only[kH]at h<;>first|(cases h;done)|skip
 all_goals
  split at h
  ·rename_i b' off hp
   simp only[Option.some.injEq,Prod.mk.injEq]at h
   simp only[rt,nP]
   rw[←h.1]
   exact LI hI hp
  ·cases h
theorem YT (hI:RI X Rt Bt s) {o:Oper} {tag:Option (Nat×Bool)} {v:AV} (ha:wv o=true) {b:Nat} (hr:rt X Rt o=some b) (hp:kH X o s tag=none) (h:fW X o s tag=some v):False:=by
 obtain⟨dst,op,ty,pos,af,g⟩:=o
 have nf:∀(x:AV) (n:Nat),l5 x=true→A.aA n x=none:=fun x n h=>by unfold l5 at h;split at h<;>first|rfl|cases h
 have nn:∀(x:AV),l5 x=true→A.aL x=none:=fun x h=>by unfold l5 at h;split at h<;>first|rfl|cases h
 have ni:∀(x i:AV) (n:Nat),l5 x=true→A.aU n x i=none:=fun x i n h=>by unfold l5 at h;split at h<;>first|rfl|cases h
 have na:∀(x i:AV) (m n:Nat),l5 x=true→A.yF m n x i=none:=fun x i m n h=>by
  unfold l5 at h
  unfold A.yF
  split at h<;>first|(cases h;done)|skip
  all_goals cases A.idx m i<;>rfl
 cases op<;>simp only[wv]at ha<;>first|(cases ha;done)|skip
 case nilCheck x=>
  simp only[kH]at hp
  simp only[rt,nP]at hr
  split at hp
  ·cases hp
  ·rename_i hpl
   simp only[fW,nn _ (Fq hI hr hpl)]at h
   cases h
 case fieldAddr t x f=>
  simp only[kH]at hp
  simp only[rt,nP]at hr
  split at hp
  ·cases hp
  ·rename_i hpl
   simp only[fW]at h
   split at h
   ·split at h
    ·rename_i i _
     cases hz:(i.size==0)
     ·rw[hz]at h;simp only[cond_false,nf _ _ (Fq hI hr hpl)]at h;cases h
     ·rw[hz]at h;cases h
    ·cases h
   ·cases h
 case indexAddr t x i=>
  simp only[kH]at hp
  simp only[rt,nP]at hr
  split at hp
  ·cases hp
  ·rename_i hpl
   simp only[fW]at h
   split at h
   ·split at h
    ·simp only[ni _ _ _ (Fq hI hr hpl)]at h;cases h
    ·cases h
   ·split at h
    ·simp only[na _ _ _ _ (Fq hI hr hpl)]at h;cases h
    ·cases h
   ·cases h
theorem mR {α β:Type} {x:Option α} {f:α→Option β} {b:β} (h:x.bind f=some b):∃a,x=some a∧f a=some b:=Option.bind_eq_some_iff.1 h
theorem WW (hB:∀t,Bt.contains t=true→oB (ev X s (.tmp t))=true) {o:Oper} {tag:Option (Nat×Bool)} {v:AV} (hc:BG Bt o=true) (h:fW X o s tag=some v):oB v=true:=by
 obtain⟨dst,op,ty,pos,af,g⟩:=o
 have nk:∀x,oB x=true→∀y,A.aL x=some y→oB y=true:=fun x hx y e=>by
  cases x<;>simp only[A.aL]at e<;>first|(cases e;done)|(injection e with e;subst e;exact hx)
 have nf:∀x,oB x=true→∀n y,A.aA n x=some y→oB y=true:=fun x hx n y e=>by
  cases x<;>simp only[A.aA]at e<;>first|(cases e;done)|(cases hx;done)|(injection e with e;subst e;rfl)
 cases op<;>simp only[BG]at hc<;>first|(cases hc;done)|skip
 case move x=>
  cases x<;>first|(cases hc;done)|skip
  simp only[fW,Option.some.injEq]at h
  subst h;exact hB _ hc
 case assign x=>
  cases x<;>first|(cases hc;done)|skip
  simp only[fW,Option.some.injEq]at h
  subst h;exact hB _ hc
 case nilCheck x=>
  cases x<;>first|(cases hc;done)|skip
  simp only[fW]at h
  exact nk _ (hB _ hc) _ h
 case fieldAddr t x f=>
  cases x<;>first|(cases hc;done)|skip
  simp only[fW]at h
  split at h
  ·split at h
   ·rename_i i _
    cases hz:(i.size==0)
    ·rw[hz]at h;simp only[cond_false]at h;exact nf _ (hB _ hc) _ _ h
    ·rw[hz]at h;cases h
   ·cases h
  ·cases h
theorem als {o:Oper} {ls:List Nat} (hR:uo X Rt Bt o) (hI:RI X Rt Bt s) (hls:∀t,Operand.tmp t∈o.op.operands.toList→t∈ls) {k:AS→Option R} {r:R} (h:ia X true o s k=some r):
  ∃u,tT X Rt Bt o ls s.σ u∧k (u.ap s)=some r∧∀(R':Type) (k':AS→Option R') (s':AS),Ag X Rt Bt o ls none s s'→ia X true o s' k'=k' (u.ap s'):=by
 have Cm:∀(s':AS),RI X Rt Bt s'→∀x b off,nP o=some x→place X s' none x=some (b,off)→rt X Rt o=some b:=fun s' hi x b off hx hp=>by simp only[rt,hx];exact LI hi hp
 have F4:∀(s':AS),RI X Rt Bt s'→∀x b,nP o=some x→rt X Rt o=some b→place X s' none x=none→l5 (ev X s' x)=true:=fun s' hi x b hx hr hp=>by simp only[rt,hx]at hr;exact Fq hi hr hp
 unfold ia at h
 cases hp:kH X o s none with
 |some p=>
  obtain⟨b,rr⟩:=p
  rw[hp]at h
  simp only at h
  obtain⟨off,e1,e2⟩:=mR h
  subst e1
  refine⟨GD X o.dst b off none,ZZ hR (YS hp) (ZN hI hp) (ZM hp) (fun g w e=>by cases e),by rw[←Mg];exact e2,fun R' k' s' ha=>?_⟩
  have:kH X o s' none=some (b,some off):=by rw[←hp];exact(PY (ha.Cs hls) ha.A8 ha.bx (Cm s' ha.r2)).symm
  unfold ia
  rw[this]
  simp only[Option.bind_some]
  rw[Mg]
 |none=>
  rw[hp]at h
  simp only at h
  have hP:∀s',Ag X Rt Bt o ls none s s'→kH X o s' none=none:=fun s' ha=>by rw[←hp];exact(PY (ha.Cs hls) ha.A8 ha.bx (Cm s' ha.r2)).symm
  have dflt:((fW X o s none).bind fun v=>k (s.put X o.dst v))=some r→(∀(R':Type) (k':AS→Option R') (s':AS),Ag X Rt Bt o ls none s s'→ia X true o s' k'=(fW X o s' none).bind fun v=>k' (s'.put X o.dst v))→
    ∃u,tT X Rt Bt o ls s.σ u∧k (u.ap s)=some r∧∀(R':Type) (k':AS→Option R') (s':AS),Ag X Rt Bt o ls none s s'→ia X true o s' k'=k' (u.ap s'):=by
   intro hd hsame
   obtain⟨v,e1,e2⟩:=mR hd
   refine⟨EA X o.dst v,Z0 v hR (fun ha b hr=>(YT hI ha hr hp e1).elim) (fun hc=>WW hI.Gn hc e1),by rw[←Mq];exact e2,fun R' k' s' ha=>?_⟩
   have:fW X o s' none=some v:=by rw[←e1];exact(Li (ha.Cs hls) ha.A8 ha.bx (Cm s' ha.r2) (F4 s' ha.r2) ha.σ ha.JQ ha.r2.Gn).symm
   rw[hsame R' k' s' ha,this,Option.bind_some,Mq]
  obtain⟨dst,op,ty,pos,af,g⟩:=o
  have yN:∀s',Ag X Rt Bt ⟨dst,op,ty,pos,af,g⟩ ls none s s'→∀x∈op.operands.toList,ev X s x=ev X s' x:=fun s' ha=>ha.Cs hls
  have unf:∀{R':Type} (k':AS→Option R') (s':AS),Ag X Rt Bt ⟨dst,op,ty,pos,af,g⟩ ls none s s'→kH X ⟨dst,op,ty,pos,af,g⟩ s' none=none:=fun k' s' ha=>hP s' ha
  cases op<;>simp only at h<;>first
   |(exact absurd (show(none:Option R)=some r from h) (by simp))
   |exact dflt h (fun R' k' s' ha=>by unfold ia;rw[hP s' ha])
   |skip
  case alloc t=>
   cases dst with
   |none=>cases h
   |some d=>
    simp only at h
    cases hL:X.L.contains d
    ·rw[hL]at h
     simp only[cond_false]at h
     cases hO:X.O.contains d
     ·rw[hO]at h
      exact dflt h (fun R' k' s' ha=>by unfold ia;rw[hP s' ha];simp only[hL,hO,cond_false])
     ·rw[hO]at h
      simp only[cond_true]at h
      split at h
      ·rename_i cs hz
       rw[kM]at h
       refine⟨_,tL _ _ hR (by simp [p5,wH];simpa using hO) rfl rfl (fun h=>by cases h),h,fun R' k' s' ha=>?_⟩
       have fS:=ha.σ (by simpa [uF]using hO) rfl
       unfold ia
       rw[hP s' ha]
       simp only[hL,hO,cond_false,cond_true,hz,fS]
       rw[kM]
      ·cases h
    ·rw[hL]at h
     simp only[cond_true]at h
     split at h
     ·rename_i cs hz
      rw[Lg]at h
      refine⟨_,⟨rfl,(fun b v h=>by cases h),(fun p h=>by cases h),(fun _=>⟨d,rfl,hL⟩),(fun h=>absurd rfl h),(fun d' b e _ hL'=>by simp only[Nw,Option.some.injEq]at e;rw[←e,hL]at hL';cases hL'),(fun _ _ _=>rfl),(fun b v h=>by cases h),(fun _ σ h=>by cases h)⟩,h,fun R' k' s' ha=>?_⟩
      unfold ia
      rw[hP s' ha]
      simp only[hL,cond_true,hz]
      rw[Lg]
     ·cases h
  case box t x=>
   cases dst with
   |none=>cases h
   |some d=>
    simp only at h
    cases hL:X.L.contains d
    ·rw[hL]at h
     simp only[cond_false]at h
     cases hO:X.O.contains d
     ·rw[hO]at h
      exact dflt h (fun R' k' s' ha=>by unfold ia;rw[hP s' ha];simp only[hL,hO,cond_false])
     ·rw[hO]at h
      simp only[cond_true]at h
      obtain⟨cs,e1,e2⟩:=mR h
      rw[kM]at e2
      refine⟨_,tL _ _ hR (by simp [p5,wH];simpa using hO) rfl rfl (fun h=>by cases h),e2,fun R' k' s' ha=>?_⟩
      have fS:=ha.σ (by simpa [uF]using hO) rfl
      have hx:=yN s' ha x (by simp [Op.operands])
      unfold ia
      rw[hP s' ha]
      simp only[hL,hO,cond_false,cond_true,←hx,e1,Option.bind_some,fS]
      rw[kM]
    ·rw[hL]at h
     simp only[cond_true]at h
     obtain⟨cs,e1,e2⟩:=mR h
     rw[Lg]at e2
     refine⟨_,⟨rfl,(fun b v h=>by cases h),(fun p h=>by cases h),(fun _=>⟨d,rfl,hL⟩),(fun h=>absurd rfl h),(fun d' b e _ hL'=>by simp only[Nw,Option.some.injEq]at e;rw[←e,hL]at hL';cases hL'),(fun _ _ _=>rfl),(fun b v h=>by cases h),(fun _ σ h=>by cases h)⟩,e2,fun R' k' s' ha=>?_⟩
     have hx:=yN s' ha x (by simp [Op.operands])
     unfold ia
     rw[hP s' ha]
     simp only[hL,cond_true,←hx,e1,Option.bind_some]
     rw[Lg]
  case store t x v=>
   split at h
   ·rename_i b off hpl
    obtain⟨cs,e1,e2⟩:=mR h
    obtain⟨new,e3,e4⟩:=mR e2
    obtain⟨cs',e5,e6⟩:=mR e4
    rw[Ws]at e6
    have A5:rt X Rt ⟨dst,.store t x v,ty,pos,af,g⟩=some b:=by simp only[rt,nP];exact LI hI hpl
    refine⟨_,⟨rfl,(fun b' v' hb=>by simp only[Nx,Option.some.injEq,Prod.mk.injEq]at hb;rw[←hb.1];exact⟨aiR hpl,A5⟩),(fun p h=>by cases h),(fun h=>by cases h),(fun h=>absurd rfl h),(fun d1 b1 e hl hL=>by rw[hR.1 d1 e hL]at hl;cases hl),(fun d1 e hc=>by have:=hR.2 d1 e hc;cases this),(fun b1 v1 hb=>by simp only[Nx,Option.some.injEq,Prod.mk.injEq]at hb;rw[←hb.2];rfl),(fun _ σ h=>by cases h)⟩,e6,fun R' k' s' ha=>?_⟩
    have hv:=yN s' ha v (by simp [Op.operands])
    have hpx:place X s' none x=some (b,off):=by rw[←hpl];exact(ha.A8 x rfl).symm
    have mK:=ha.bx b A5
    unfold ia
    rw[hP s' ha]
    simp only[hpx,←mK,e1,Option.bind_some,←hv,e3,e5]
    rw[Ws]
   ·rename_i hpl
    obtain⟨new,e3,e4⟩:=mR h
    obtain⟨σ',e5,e6⟩:=mR e4
    rw[kM]at e6
    have A5:rt X Rt ⟨dst,.store t x v,ty,pos,af,g⟩=none:=by
     cases hr:rt X Rt ⟨dst,.store t x v,ty,pos,af,g⟩with
     |none=>rfl
     |some b=>rw[agB (F4 s hI x b rfl hr hpl)]at e5;cases e5
    have hw:p5 X Rt ⟨dst,.store t x v,ty,pos,af,g⟩=true:=by simp only[p5,A5,Option.isNone_none]
    refine⟨_,tL _ _ hR hw rfl rfl (fun h=>by cases h),e6,fun R' k' s' ha=>?_⟩
    have hv:=yN s' ha v (by simp [Op.operands])
    have hx:=yN s' ha x (by simp [Op.operands])
    have fS:=ha.σ (by simp only[uF,A5,Option.isNone_none]) rfl
    have hpx:place X s' none x=none:=by rw[←hpl];exact(ha.A8 x rfl).symm
    unfold ia
    rw[hP s' ha]
    simp only[hpx,←hv,←hx,e3,Option.bind_some,←fS,e5]
    rw[kM]
  case makeMap t rr=>
   cases rr with
   |some x=>cases h
   |none=>
    simp only at h
    rw[kM]at h
    refine⟨_,tL _ _ hR rfl rfl rfl (fun _=>Lq (fun cs e=>by cases e)),h,fun R' k' s' ha=>?_⟩
    have fS:=ha.σ rfl rfl
    unfold ia
    rw[hP s' ha]
    simp only[←fS]
    rw[kM]
  case range t x=>
   split at h
   ·rename_i kt et hd
    obtain⟨es,e1,e2⟩:=mR h
    rw[kM]at e2
    refine⟨_,tL _ _ hR rfl rfl rfl (fun h=>by cases h),e2,fun R' k' s' ha=>?_⟩
    have hx:=yN s' ha x (by simp [Op.operands])
    have fS:=ha.σ rfl rfl
    unfold ia
    rw[hP s' ha]
    simp only[hd,←hx,←fS,e1,Option.bind_some]
    rw[kM]
   ·cases h
  case buildSlice t n ps=>
   cases dst with
   |none=>exact dflt h (fun R' k' s' ha=>by unfold ia;rw[hP s' ha])
   |some d=>
    simp only at h
    cases hO:X.O.contains d
    ·rw[hO]at h
     exact dflt h (fun R' k' s' ha=>by unfold ia;rw[hP s' ha];simp only[hO,cond_false])
    ·rw[hO]at h
     simp only[cond_true]at h
     obtain⟨v,e1,e2⟩:=mR h
     have hv:∀s',Ag X Rt Bt ⟨some d,.buildSlice t n ps,ty,pos,af,g⟩ ls none s s'→fW X ⟨some d,.buildSlice t n ps,ty,pos,af,g⟩ s' none=some v:=fun s' ha=>by
      rw[←e1];exact(Li (ha.Cs hls) ha.A8 ha.bx (Cm s' ha.r2) (F4 s' ha.r2) ha.σ ha.JQ ha.r2.Gn).symm
     unfold A.Ga at e2
     split at e2
     ·rename_i sz es
      cases hl:(es.length==0)
      ·rw[hl]at e2
       simp only[cond_false]at e2
       rw[kM]at e2
       refine⟨_,tL _ _ hR (by simp [p5,wH];simpa using hO) rfl rfl (fun h=>by cases h),e2,fun R' k' s' ha=>?_⟩
       have fS:=ha.σ (by simpa [uF]using hO) rfl
       unfold ia
       rw[hP s' ha]
       simp only[hO,cond_true,hv s' ha,Option.bind_some,A.Ga,hl,cond_false,←fS]
       rw[kM]
      ·rw[hl]at e2;cases e2
     ·cases e2
  case mapUpdate t m i v=>
   split at h
   ·rename_i kt et hd
    split at h
    ·rename_i ek he
     obtain⟨σ',e1,e2⟩:=mR h
     rw[kM]at e2
     refine⟨_,tL _ _ hR rfl rfl rfl (fun _=>ahX e1),e2,fun R' k' s' ha=>?_⟩
     have hm:=yN s' ha m (by simp [Op.operands])
     have hi:=yN s' ha i (by simp [Op.operands])
     have hv:=yN s' ha v (by simp [Op.operands])
     have fS:=ha.σ rfl rfl
     unfold ia
     rw[hP s' ha]
     simp only[hd,he,←hm,←hi,←hv,←fS,e1,Option.bind_some]
     rw[kM]
    ·cases h
   ·cases h
  case call c=>
   have hargs:∀s',Ag X Rt Bt ⟨dst,.call c,ty,pos,af,g⟩ ls none s s'→c.args.toList.map (ev X s)=c.args.toList.map (ev X s'):=fun s' ha=>
    List.map_congr_left fun x hx=>yN s' ha x (by simp [Op.operands,Call.operands];exact .inr (by simpa using hx))
   split at h
   ·rename_i hc
    split at h
    ·rename_i t u x y h1 h2
     split at h
     ·rename_i e e' hd hu
      split at h
      ·rename_i i hi
       cases eY:mW i
       ·rw[eY]at h
        simp only[cond_false]at h
        obtain⟨⟨rr,σ'⟩,e1,e2⟩:=mR h
        simp only at e2
        rw[kM]at e2
        refine⟨_,tL _ _ hR (by simp [p5,wH,hc]) rfl rfl (fun _=>afy e1),e2,fun R' k' s' ha=>?_⟩
        have fS:=ha.σ rfl rfl
        unfold ia
        rw[hP s' ha]
        simp only[hc,←hargs s' ha,h1,h2,hd,hu,hi,eY,cond_false,←fS,e1,Option.bind_some]
        rw[kM]
       ·rw[eY]at h;cases h
      ·cases h
     ·rename_i e kk hd hu
      split at h
      ·rename_i i zs hi hz
       cases eY:mW i
       ·rw[eY]at h
        simp only[cond_false]at h
        obtain⟨⟨rr,σ'⟩,e1,e2⟩:=mR h
        simp only at e2
        rw[kM]at e2
        refine⟨_,tL _ _ hR (by simp [p5,wH,hc]) rfl rfl (fun _=>aeH e1),e2,fun R' k' s' ha=>?_⟩
        have fS:=ha.σ rfl rfl
        unfold ia
        rw[hP s' ha]
        simp only[hc,←hargs s' ha,h1,h2,hd,hu,hi,hz,eY,cond_false,←fS,e1,Option.bind_some]
        rw[kM]
       ·rw[eY]at h;cases h
      ·cases h
     ·cases h
    ·cases h
   ·rename_i hc
    split at h
    ·rename_i t u x y h1 h2
     split at h
     ·rename_i e e' hd hu
      split at h
      ·rename_i i hi
       cases eY:mW i
       ·rw[eY]at h
        simp only[cond_false]at h
        obtain⟨⟨rr,σ'⟩,e1,e2⟩:=mR h
        simp only at e2
        rw[kM]at e2
        refine⟨_,tL _ _ hR (by simp [p5,wH,hc]) rfl rfl (fun h=>by simp [Cv,hc]at h),e2,fun R' k' s' ha=>?_⟩
        have fS:=ha.σ rfl rfl
        unfold ia
        rw[hP s' ha]
        simp only[hc,←hargs s' ha,h1,h2,hd,hu,hi,eY,cond_false,←fS,e1,Option.bind_some]
        rw[kM]
       ·rw[eY]at h;cases h
      ·cases h
     ·cases h
    ·cases h
   ·rename_i hc
    cases hv:fW X ⟨dst,.call c,ty,pos,af,g⟩ s none with
    |none=>rw[hv]at h;simp [A.Ip]at h
    |some v=>
     rw[hv]at h
     exact dflt (by rw[hv];exact h) (fun R' k' s' ha=>by
      have hv':fW X ⟨dst,.call c,ty,pos,af,g⟩ s' none=some v:=by rw[←hv];exact(Li (ha.Cs hls) ha.A8 ha.bx (Cm s' ha.r2) (F4 s' ha.r2) ha.σ ha.JQ ha.r2.Gn).symm
      unfold ia;rw[hP s' ha];simp only[hc,hv',Option.bind_some,A.Ip])
   ·rename_i hc
    split at h
    ·rename_i t x h1 h2
     split at h
     ·rename_i e hd
      split at h
      ·rename_i i zs hi hz
       cases eY:mW i
       ·rw[eY]at h
        simp only[cond_false]at h
        obtain⟨σ',e1,e2⟩:=mR h
        rw[kM]at e2
        refine⟨_,tL _ _ hR (by simp [p5,wH,hc]) rfl rfl (fun h=>by simp [Cv,hc]at h),e2,fun R' k' s' ha=>?_⟩
        have fS:=ha.σ rfl rfl
        unfold ia
        rw[hP s' ha]
        simp only[hc,←hargs s' ha,h1,h2,hd,hi,hz,eY,cond_false,←fS,e1,Option.bind_some]
        rw[kM]
       ·rw[eY]at h;cases h
      ·cases h
     ·cases h
    ·cases h
   ·rename_i hc
    split at h
    ·rename_i t u m key h1 h2
     split at h
     ·rename_i kt et hd
      split at h
      ·rename_i ek he
       obtain⟨σ',e1,e2⟩:=mR h
       rw[kM]at e2
       refine⟨_,tL _ _ hR (by simp [p5,wH,hc]) rfl rfl (fun h=>by simp [Cv,hc]at h),e2,fun R' k' s' ha=>?_⟩
       have fS:=ha.σ rfl rfl
       unfold ia
       rw[hP s' ha]
       simp only[hc,←hargs s' ha,h1,h2,hd,he,←fS,e1,Option.bind_some]
       rw[kM]
      ·cases h
     ·cases h
    ·cases h
   ·rename_i b hn1 hn2 nB qS uB hc
    exact dflt h (fun R' k' s' ha=>by
     unfold ia;rw[hP s' ha];simp only[hc]
     all_goals (first|rfl|(cases b<;>first|rfl|exact absurd rfl hn1|exact absurd rfl hn2|exact absurd rfl nB|exact absurd rfl qS|exact absurd rfl uB)))
   ·rename_i f hc
    cases hw:X.W.contains f
    ·simp only[hw,Bool.not_false,Bool.and_true,cond_true]at h
     exact dflt h (fun R' k' s' ha=>by unfold ia;rw[hP s' ha];simp only[hc,hw,Bool.not_false,Bool.and_true,cond_true])
    ·simp only[hw,Bool.not_true,Bool.and_false,cond_false]at h
     obtain⟨⟨rr,σ'⟩,e1,e2⟩:=mR h
     simp only at e2
     rw[kM]at e2
     refine⟨_,tL _ _ hR (by simp only[p5,wH,hc];exact hw) rfl rfl (fun h=>by simp [Cv,hc]at h),e2,fun R' k' s' ha=>?_⟩
     have fS:=ha.σ rfl rfl
     unfold ia
     rw[hP s' ha]
     simp only[hc,←hargs s' ha,hw,Bool.not_true,Bool.and_false,cond_false,←fS,e1,Option.bind_some]
     rw[kM]
   ·rename_i x hnf hc
    simp only[cond_true]at h
    exact dflt h (fun R' k' s' ha=>by
     unfold ia;rw[hP s' ha];simp only[hc]
     cases x<;>first|exact absurd rfl (hnf _)|simp only[cond_true])
   ·cases h
end
end
section
section
variable {R : Type} {X : Fx} {Rt : List (Nat × Nat)} {Bt : List Nat} {s s' : AS} {ops : Array Oper}
theorem LG {o:Oper} {t:Nat} (h:Operand.tmp t∈o.op.operands.toList):t∈o.looksAt ops:=by
 unfold Oper.looksAt
 refine List.mem_append.2 (.inl (List.mem_filterMap.2 ⟨.tmp t,h,rfl⟩))
theorem aeY {o:Oper} {j d:Nat} {want:Bool} (hg:o.guard=some (j,want)) (hd:(ops[j]?).bind (·.dst)=some d):d∈o.looksAt ops:=by
 unfold Oper.looksAt
 refine List.mem_append.2 (.inr ?_)
 rw[hg]
 simp only[hd]
 simp
def Gj (X:Fx) (Rt:List (Nat×Nat)) (Bt:List Nat) (ops:Array Oper) (o:Oper) (s s':AS):Prop:=∀tag:Option (Nat×Bool),(∀g w,tag=some (g,w)→g∈o.looksAt ops)→Ag X Rt Bt o (o.looksAt ops) tag s s'
theorem Ag.symm {o:Oper} {ls:List Nat} {tag:Option (Nat×Bool)} (h:Ag X Rt Bt o ls tag s s'):Ag X Rt Bt o ls tag s' s:=
 ⟨h.r2,h.r1,fun t ht hL=>(h.gu t ht hL).symm,fun t ht=>(h.pl t ht).symm,fun b hb=>(h.bx b hb).symm,(fun hr hs=>(h.σ hr hs).symm),fun hr hs id cs=>(h.JQ hr hs id cs).symm⟩
theorem Gj.symm {o:Oper} (h:Gj X Rt Bt ops o s s'):Gj X Rt Bt ops o s' s:=fun tag ht=>(h tag ht).symm
theorem Q8 {o:Oper} {k:AS→Option R} {r:R} (hR:uo X Rt Bt o) (hI:RI X Rt Bt s) (h:nZ X true ops o s k=some r):
  ∃u,tT X Rt Bt o (o.looksAt ops) s.σ u∧k (u.ap s)=some r∧∀(R':Type) (k':AS→Option R') (s':AS),Gj X Rt Bt ops o s s'→nZ X true ops o s' k'=k' (u.ap s'):=by
 unfold nZ at h
 cases hg:o.guard with
 |none=>
  rw[hg]at h
  obtain⟨u,h1,h2,h3⟩:=als (ls:=o.looksAt ops) hR hI (fun t ht=>LG ht) h
  refine⟨u,h1,h2,fun R' k' s' ha=>?_⟩
  unfold nZ;rw[hg]
  exact h3 R' k' s' (ha none (fun g w e=>by cases e))
 |some jw=>
  obtain⟨j,want⟩:=jw
  rw[hg]at h
  simp only at h
  cases hd:(ops[j]?).bind (·.dst)with
  |none=>rw[hd]at h;cases h
  |some d=>
   rw[hd]at h
   simp only at h
   cases hb:Ht X o d
   ·rw[hb]at h
    simp only[cond_false]at h
    have mL:=aeY (ops:=ops) hg hd
    have F9:∀g w,(some (d,want):Option (Nat×Bool))=some (g,w)→g∈o.looksAt ops:=fun g w e=>by injection e with e;injection e with e _;rw[←e];exact mL
    have hdL:X.L.contains d=false:=by simp only[Ht,Bool.or_eq_false_iff]at hb;exact hb.1
    have Cm:∀(s':AS),RI X Rt Bt s'→∀x b off,nP o=some x→place X s' (some (d,want)) x=some (b,off)→rt X Rt o=some b:=fun s' hi x b off hx hp=>by simp only[rt,hx];exact LI hi hp
    have F4:∀(s':AS),RI X Rt Bt s'→∀x b,nP o=some x→rt X Rt o=some b→place X s' (some (d,want)) x=none→l5 (ev X s' x)=true:=fun s' hi x b hx hr hp=>by simp only[rt,hx]at hr;exact Fq hi hr hp
    have hP:∀s',Gj X Rt Bt ops o s s'→kH X o s' (some (d,want))=kH X o s (some (d,want)):=fun s' ha=>by
     have a:=ha _ F9
     exact(PY (a.Cs fun t ht=>LG ht) a.A8 a.bx (Cm s' a.r2)).symm
    cases hp:kH X o s (some (d,want))with
    |some p=>
     obtain⟨b,rr⟩:=p
     rw[hp]at h
     simp only at h
     obtain⟨off,e1,e2⟩:=mR h
     subst e1
     refine⟨GD X o.dst b off (some (d,want)),ZZ hR (YS hp) (ZN hI hp) (ZM hp) F9,by rw[←Mg];exact e2,fun R' k' s' ha=>?_⟩
     unfold nZ
     rw[hg]
     simp only[hd,hb,cond_false,hP s' ha,hp,Option.bind_some]
     rw[Mg]
    |none=>
     rw[hp]at h
     simp only at h
     obtain⟨v,e1,e2⟩:=mR h
     have hv:wv o=true→∀b,rt X Rt o=some b→l5 v=true:=by
      intro ha b hr
      unfold A.guard at e1
      split at e1
      ·rename_i c _
       cases hc:(c==want)
       ·rw[hc]at e1;simp only[cond_false,Option.some.injEq]at e1;subst e1;rfl
       ·rw[hc]at e1;exact(YT hI ha hr hp e1).elim
      ·simp only[Option.some.injEq]at e1;subst e1;rfl
      ·cases e1
     have Jk:BG Bt o=true→oB v=true:=by
      intro hc
      unfold A.guard at e1
      split at e1
      ·rename_i c _
       cases uz:(c==want)
       ·rw[uz]at e1;simp only[cond_false,Option.some.injEq]at e1;subst e1;rfl
       ·rw[uz]at e1;exact WW hI.Gn hc e1
      ·simp only[Option.some.injEq]at e1;subst e1;rfl
      ·cases e1
     refine⟨EA X o.dst v,Z0 v hR hv Jk,by rw[←Mq];exact e2,fun R' k' s' ha=>?_⟩
     have a:=ha _ F9
     have hV:fW X o s' (some (d,want))=fW X o s (some (d,want)):=(Li (a.Cs fun t ht=>LG ht) a.A8 a.bx (Cm s' a.r2) (F4 s' a.r2) a.σ a.JQ a.r2.Gn).symm
     have qT:=a.gu d mL hdL
     unfold nZ
     rw[hg]
     simp only[hd,hb,cond_false,hP s' ha,hp,hV,←qT,e1,Option.bind_some]
     rw[Mq]
   ·rw[hb]at h;cases h
structure yS (X : Fx) (Rt : List (Nat × Nat)) (Bt : List Nat) (ops : Array Oper) (x y : Oper) : Prop where
 dx:∀d,x.dst=some d→d∉y.looksAt ops
 dd:∀d,x.dst=some d→y.dst≠some d
 dy:∀d,y.dst=some d→d∉x.looksAt ops
 c1:yG X Rt Bt x y=false
 c2:yG X Rt Bt y x=false
theorem yS.symm {x y:Oper} (h:yS X Rt Bt ops x y):yS X Rt Bt ops y x:=⟨h.dy,fun d hd e=>h.dd d e hd,h.dx,h.c2,h.c1⟩
theorem ahd {x y:Oper} (h:indep X Rt Bt ops x y=true):yS X Rt Bt ops x y:=by
 simp only[indep,Bool.and_eq_true,Bool.not_eq_true']at h
 obtain⟨⟨h1,h2⟩,h3⟩:=h
 obtain⟨a1,a2,a3⟩:=Oper.apart_spec h1
 exact⟨a1,a2,a3,h2,h3⟩
theorem Yw {x y:Oper} (h:yG X Rt Bt x y=false) {b:Nat} (hb:wb X Rt x=some b):rt X Rt y≠some b:=by
 unfold yG at h
 simp only[Bool.or_eq_false_iff]at h
 have:=h.1.1
 rw[hb]at this
 simpa using this
theorem LY {x y:Oper} (h:yG X Rt Bt x y=false) {d:Nat} (hd:x.dst=some d) (hL:X.L.contains d=true):rt X Rt y≠some d:=by
 unfold yG at h
 simp only[Bool.or_eq_false_iff]at h
 have:=h.1.2
 rw[hd]at this
 simp only[hL,Bool.true_and]at this
 simpa using this
theorem LZ {x y:Oper} (h:yG X Rt Bt x y=false) (hw:p5 X Rt x=true):(uF X Rt y=false∨(soft Bt y=true∧Cv x=true))∧p5 X Rt y=false:=by
 unfold yG at h
 simp only[Bool.or_eq_false_iff]at h
 have:=h.2
 rw[hw]at this
 simp only[Bool.true_and,Bool.or_eq_false_iff]at this
 refine⟨?_,this.2⟩
 cases hr:uF X Rt y
 ·exact .inl rfl
 ·have h2:=this.1
  rw[hr,Bool.true_and,Bool.not_eq_false']at h2
  exact .inr (by simpa using h2)
theorem akY {x:Oper} {a:Operand} (h:nP x=some a):a∈x.op.operands.toList:=by
 obtain⟨dst,op,ty,pos,af,g⟩:=x
 cases op<;>simp only[nP]at h<;>first|(cases h;done)|(injection h with h;subst h;simp [Op.operands])
theorem aot (h:RI X Rt Bt s) {x:Oper} {b:Nat} (hr:rt X Rt x=some b) (hL:X.L.contains b=false):False:=by
 unfold rt at hr
 split at hr
 ·rename_i a _
  cases a with
  |tmp t=>
   simp only[zg]at hr
   cases hc:X.L.contains t
   ·rw[hc]at hr;have:=h.l t b hr;rw[hL]at this;cases this
   ·rw[hc]at hr;simp only[cond_true,Option.some.injEq]at hr;subst hr;rw[hL]at hc;cases hc
  |_=>simp [zg]at hr
 ·cases hr
theorem aaE {x:Oper} {b:Nat} (h:wb X Rt x=some b):rt X Rt x=some b:=by
 unfold wb at h;split at h
 ·exact h
 ·cases h
theorem aai {τ:Heap} {x y:Oper} (h:yS X Rt Bt ops x y) {u:Up} (hu:tT X Rt Bt y (y.looksAt ops) τ u) (s:AS) (hs:RI X Rt Bt s) (hτ:u.σ≠none→qz s.σ τ):Gj X Rt Bt ops x s (u.ap s):=by
 intro tag ht
 have hnd:∀t,t∈x.looksAt ops→u.d≠some t:=fun t ht e=>by rw[hu.d]at e;exact h.dy t e ht
 refine⟨hs,hu.ri hs,fun t TI hL=>?_,fun t hax=>?_,fun b hb=>?_,fun hr Eh=>?_,fun hr Eh=>?_⟩
 ·exact(Rz (hnd t TI) (fun b v hb e=>by have:=(hu.bx b v hb).1;rw[←e,hL]at this;cases this)).symm
 ·have TI:t∈x.looksAt ops:=LG (akY hax)
  simp only[place]
  cases hL:X.L.contains t
  ·simp only[cond_false]
   show _=match u.A s.A t with|some p=>_|none=>none
   unfold Up.A
   cases hd:u.d with
   |none=>rfl
   |some d=>
    have htd:(t==d)=false:=by simp only[beq_eq_false_iff_ne];intro e;exact hnd t TI (by rw[hd,e])
    simp only[htd,cond_false]
    cases hA:s.A t with
    |none=>rfl
    |some p=>
     have A5:zg X Rt (.tmp t)=some p.slot:=by simp only[zg,hL,cond_false];exact hs.a t p hA
     have hf:pI u.wz d (some p)=ou d (some p):=by
      cases hi:u.wz with
      |false=>exact Hg d _
      |true=>
       obtain⟨d',hd',hL'⟩:=hu.box hi
       have pZ:d'=d:=by rw[hu.d]at hd;rw[hd]at hd';injection hd' with e;exact e.symm
       subst pZ
       unfold pI
       cases hk:ou d' (some p)with
       |none=>rfl
       |some q=>
        have hqs:q=p:=by
         simp only[ou]at hk
         cases Ei:p.tag with
         |none=>rw[Ei]at hk;simpa using hk.symm
         |some g=>
          obtain⟨g,w⟩:=g
          rw[Ei]at hk
          simp only at hk
          cases hg:(g==d')
          ·rw[hg]at hk;simpa using hk.symm
          ·rw[hg]at hk;cases hk
        subst hqs
        have hne:(q.slot==d')=false:=by
         rw[beq_eq_false_iff_ne]
         intro e
         have:rt X Rt x=some q.slot:=by simp only[rt,hax];exact A5
         exact LY h.c2 hd' hL' (by rw[this,e])
        simp only[hne,Bool.and_false,cond_false]
     rw[hf]
     simp only[ou]
     cases Ei:p.tag with
     |none=>simp only[Ei]
     |some gw=>
      obtain⟨g,w⟩:=gw
      simp only
      cases hgd:(g==d)
      ·simp only[cond_false,Ei]
      ·simp only[cond_true]
       have anT:g=d:=by simpa using hgd
       have:(tag==some (g,w))=false:=by
        rw[beq_eq_false_iff_ne]
        intro e
        exact hnd g (ht g w e) (by rw[hd,anT])
       rw[this]
       cases X.L.contains p.slot<;>rfl
  ·rfl
 ·refine(Rz (fun e=>?_) (fun b' v hb' e=>?_)).symm
  ·rw[hu.d]at e
   have hLb:X.L.contains b=true:=by
    cases hc:X.L.contains b with
    |true=>rfl
    |false=>
     exfalso
     exact aot hs hb hc
   exact LY h.c2 e hLb hb
  ·exact Yw h.c2 (hu.bx b' v hb').2 (by rw[←e];exact hb)
 ·show s.σ=u.σ.getD s.σ
  cases hs':u.σ with
  |none=>rfl
  |some σ=>
   rcases(LZ h.c2 (hu.σ (by rw[hs'];intro e;cases e))).1 with this|⟨this,_⟩
   ·rw[hr]at this;cases this
   ·rw[Eh]at this;cases this
 ·show qz s.σ (u.σ.getD s.σ)
  cases hs':u.σ with
  |none=>exact C6 _
  |some σ=>
   rcases(LZ h.c2 (hu.σ (by rw[hs'];intro e;cases e))).1 with this|⟨_,hf⟩
   ·rw[hr]at this;cases this
   ·exact fun id cs=>(hτ (by rw[hs'];intro e;cases e) id cs).trans (hu.fr hf σ hs' id cs)
theorem aja {τ JR:Heap} {x y:Oper} (h:yS X Rt Bt ops x y) {u v:Up} (hu:tT X Rt Bt x (x.looksAt ops) τ u) (hv:tT X Rt Bt y (y.looksAt ops) JR v):u.Z3 v:=by
 have half:∀{τ JR:Heap} {x y:Oper} {u v:Up},yS X Rt Bt ops x y→tT X Rt Bt x (x.looksAt ops) τ u→tT X Rt Bt y (y.looksAt ops) JR v→(∀b a,u.bx=some (b,a)→(∀c a',v.bx=some (c,a')→c≠b)∧v.d≠some b)∧(∀d,v.d=some d→pI v.wz d u.new=u.new):=by
  intro τ JR x y u v h hu hv
  refine⟨fun b a hb=>?_,fun d hd=>?_⟩
  ·obtain⟨k1,k2⟩:=hu.bx b a hb
   refine⟨fun c a' hc e=>?_,fun e=>?_⟩
   ·have:=(hv.bx c a' hc).2
    subst e
    exact Yw h.c1 k2 (aaE this)
   ·rw[hv.d]at e
    exact LY h.c2 e k1 (aaE k2)
  ·cases hn:u.new with
   |none=>rfl
   |some p=>
    obtain⟨k1,k2,k3,k4⟩:=hu.new p hn
    have hkt:ou d (some p)=some p:=by
     simp only[ou]
     cases Ei:p.tag with
     |none=>rfl
     |some gw=>
      obtain⟨g,w⟩:=gw
      simp only
      have:(g==d)=false:=by
       rw[beq_eq_false_iff_ne];intro e
       rw[hv.d]at hd
       exact h.dy d hd (e▸k2 g w Ei)
      rw[this];rfl
    unfold pI
    rw[hkt]
    simp only
    cases hi:v.wz with
    |false=>rfl
    |true=>
     obtain⟨d',hd',hL'⟩:=hv.box hi
     have pZ:d'=d:=by rw[hv.d]at hd;rw[hd]at hd';injection hd' with e;exact e.symm
     subst pZ
     have:(p.slot==d')=false:=by
      rw[beq_eq_false_iff_ne];intro e
      exact LY h.c2 hd' hL' (by rw[k3,e])
     simp only[this,Bool.and_false,cond_false]
 obtain⟨a1,a2⟩:=half h hu hv
 obtain⟨b1,b2⟩:=half h.symm hv hu
 refine⟨fun d hd e=>?_,a1,b1,a2,b2,?_⟩
 ·rw[hu.d]at hd;rw[hv.d]at e;exact h.dd d hd e
 ·cases hs:u.σ with
  |none=>exact .inl rfl
  |some σ=>
   right
   have hw:=hu.σ (by rw[hs];intro e;cases e)
   have hnw:=(LZ h.c1 hw).2
   cases hs2:v.σ with
   |none=>rfl
   |some σ2=>rw[hv.σ (by rw[hs2];intro e;cases e)]at hnw;cases hnw
theorem WX {o:Oper} {k:AS→Option R} {r:R} (ho:uo X Rt Bt o):∀(l1 l2:List Oper) (s:AS),RI X Rt Bt s→(∀y∈l1,uo X Rt Bt y)→(∀y∈l1,yS X Rt Bt ops y o)→sZ X true ops (l1++o::l2) s k=some r→nZ X true ops o s (fun s1=>sZ X true ops (l1++l2) s1 k)=some r
 |[],l2,s,_,_,_,h=>h
 |y::l1,l2,s,hs,hr,hi,h=>by
  simp only[List.cons_append,sZ]at h
  obtain⟨u,u1,u2,u3⟩:=Q8 (hr y (by simp)) hs h
  have ih:=WX ho l1 l2 (u.ap s) (u1.ri hs) (fun z hz=>hr z (by simp [hz])) (fun z hz=>hi z (by simp [hz])) u2
  obtain⟨v,v1,v2,v3⟩:=Q8 ho (u1.ri hs) ih
  have hy:=hi y (by simp)
  have hbe:v.σ≠none→qz s.σ (u.ap s).σ:=fun hv=>by
   have hnu:u.σ=none:=by
    cases hu:u.σ with
    |none=>rfl
    |some σ=>
     have hw:=(LZ hy.c1 (u1.σ (by rw[hu];intro e;cases e))).2
     rw[v1.σ hv]at hw;cases hw
   show qz s.σ (u.σ.getD s.σ)
   rw[hnu];exact C6 _
  rw[v3 R _ s (aai hy.symm u1 s hs (fun _=>C6 _)).symm]
  simp only[List.cons_append,sZ]
  rw[u3 R _ (v.ap s) (aai hy v1 s hs hbe),Up.comm (aja hy u1 v1)]
  exact v2
def Down (ops:Array Oper) (S:Nat→Prop):Prop:=∀i o e,S i→ops[i]? =some o→e∈o.after→Region.binds .any e=true→S e.on
def MK (ops:Array Oper) (i:Nat) (S:Nat→Prop):Prop:=∀o e,ops[i]? =some o→e∈o.after→Region.binds .any e=true→S e.on
theorem XM (acc:List Nat):∀(es:List Edge) (m j:Nat),(es.foldl (fun s e=>bif Region.binds .any e then s ||| 2 ^ e.on ||| acc.getD e.on 0 else s) m).testBit j=true→
  m.testBit j=true∨∃e∈es,Region.binds .any e=true∧(e.on=j∨(acc.getD e.on 0).testBit j=true)
 |[],m,j,h=>.inl h
 |e::es,m,j,h=>by
  simp only[List.foldl_cons]at h
  rcases XM acc es _ j h with h|⟨e',he',hb,hx⟩
  ·cases hb:Region.binds .any e
   ·rw[hb]at h;exact .inl h
   ·rw[hb]at h
    simp only[cond_true,Nat.testBit_or,Bool.or_eq_true]at h
    rcases h with(h|h)|h
    ·exact .inl h
    ·refine .inr ⟨e,by simp,hb,.inl ?_⟩
     rw[Nat.testBit_two_pow]at h
     simpa using h
    ·exact .inr ⟨e,by simp,hb,.inr h⟩
  ·exact .inr ⟨e',by simp [he'],hb,hx⟩
theorem Xr:∀(l:List Oper) (acc:List Nat),(∀i,l[i]? =ops[acc.length+i]?)→
  (∀(m j:Nat),(acc.getD m 0).testBit j=true→∀S,Down ops S→MK ops m S→S j)→
  ∀(m j:Nat),((Mu l acc).getD m 0).testBit j=true→∀S,Down ops S→MK ops m S→S j
 |[],acc,hl,hacc=>hacc
 |o::l,acc,hl,hacc=>by
  simp only[Mu]
  refine Xr l _ (fun i=>by have:=hl (i+1);simp at this;rw[this];simp;congr 1;omega) ?_
  intro m j h S hS hD
  have h0:=hl 0
  simp at h0
  by_cases hm:m<acc.length
  ·rw[List.getD,List.getElem?_append_left hm]at h
   exact hacc m j h S hS hD
  ·by_cases hm2:m=acc.length
   ·subst hm2
    rw[List.getD,List.getElem?_append_right (Nat.le_refl _)]at h
    simp only[Nat.sub_self,List.getElem?_cons_zero,Option.getD_some]at h
    rcases XM acc _ _ j h with h|⟨e,he,hb,hx⟩
    ·simp at h
    ·have Gx:S e.on:=hD o e h0.symm (by simpa using he) hb
     rcases hx with hx|hx
     ·exact hx▸Gx
     ·exact hacc e.on j hx S hS (fun o' e' ho' he' hb'=>hS e.on o' e' Gx ho' he' hb')
   ·rw[List.getD,List.getElem?_append_right (by omega),List.getElem?_eq_none (by simp;omega)]at h
    simp at h
theorem V3 {IL:List Nat}:∀(l:List Oper) (i:Nat),(∀j,l[j]? =ops[i+j]?)→L9 X Rt Bt ops IL l i=true→∀n o,i≤n→ops[n]? =some o→∀m y,m<n→ops[m]? =some y→(IL.getD n 0).testBit m=true∨indep X Rt Bt ops y o=true
 |[],i,hl,_,n,o,hn,ho,m,y,hm,hy=>by
  have:=hl (n-i)
  rw[show i+(n-i)=n by omega,ho]at this
  simp at this
 |x::l,i,hl,h,n,o,hn,ho,m,y,hm,hy=>by
  simp only[L9,Bool.and_eq_true]at h
  by_cases hni:n=i
  ·subst hni
   have h0:=hl 0
   simp at h0
   rw[ho]at h0;injection h0 with h0;subst h0
   have:=List.all_eq_true.1 h.1 (y,m) (by
    rw[List.mem_zipIdx_iff_getElem?]
    simp only
    rw[List.getElem?_take_of_lt hm,Array.getElem?_toList]
    exact hy)
   simpa using this
  ·exact V3 l (i+1) (fun j=>by have:=hl (j+1);simp at this;rw[this];congr 1;omega) h.2 n o (by omega) ho m y hm hy
theorem Wr:∀(l:List Oper) (i:Nat),(∀j,l[j]? =ops[i+j]?)→Mh l i=true→∀n o e,i≤n→ops[n]? =some o→e∈o.after→Region.binds .any e=true→e.on<n
 |[],i,hl,_,n,o,e,hn,ho,he,hb=>by
  have:=hl (n-i)
  rw[show i+(n-i)=n by omega,ho]at this
  simp at this
 |x::l,i,hl,h,n,o,e,hn,ho,he,hb=>by
  simp only[Mh,Bool.and_eq_true]at h
  by_cases hni:n=i
  ·subst hni
   have h0:=hl 0
   simp at h0
   rw[ho]at h0;injection h0 with h0;subst h0
   have:=List.all_eq_true.1 h.1 e (by simpa using he)
   rw[hb]at this
   simpa [Nat.blt_eq]using this
  ·exact Wr l (i+1) (fun j=>by have:=hl (j+1);simp at this;rw[this];congr 1;omega) h.2 n o e (by omega) ho he hb
def qK (listed:Array Bool) (n:Nat):List Nat:=(List.range n).filter fun i=>!listed.getD i true
def Aw (ops:Array Oper) (listed:Array Bool):List Oper:=(qK listed ops.size).filterMap (ops[·]?)
theorem agk {listed:Array Bool} {n i:Nat} (hi:i<n) (hl:listed.getD i true=false) (hs:listed.size=n):
  ∃l1 l2,qK listed n=l1++i::l2∧qK (listed.setIfInBounds i true) n=l1++l2∧∀j∈l1,j<i∧listed.getD j true=false:=by
 refine⟨(List.range i).filter fun j=>!listed.getD j true,((List.range' (i+1) (n-i-1))).filter fun j=>!listed.getD j true,?_,?_,fun j hj=>?_⟩
 ·unfold qK
  rw[show List.range n=List.range i++i::List.range' (i+1) (n-i-1) by
   rw[List.range_eq_range',List.range_eq_range',←List.range'_succ,show n-i-1+1=n-i by omega]
   have:=List.range'_append_1 (s:=0) (m:=i) (n:=n-i)
   rw[show 0+i=i by omega,show i+(n-i)=n by omega]at this
   exact this.symm]
  rw[List.filter_append,List.filter_cons,hl]
  simp
 ·unfold qK
  rw[show List.range n=List.range i++i::List.range' (i+1) (n-i-1) by
   rw[List.range_eq_range',List.range_eq_range',←List.range'_succ,show n-i-1+1=n-i by omega]
   have:=List.range'_append_1 (s:=0) (m:=i) (n:=n-i)
   rw[show 0+i=i by omega,show i+(n-i)=n by omega]at this
   exact this.symm]
  rw[List.filter_append,List.filter_cons]
  have rV:(listed.setIfInBounds i true).getD i true=true:=by simp [Array.getD,hs,hi]
  rw[rV]
  simp only[Bool.not_true,Bool.false_eq_true,if_false]
  congr 1
  ·apply List.filter_congr
   intro j hj
   have:j<i:=by simpa using hj
   rw[Array.getD_eq_getD_getElem?,Array.getD_eq_getD_getElem?,Array.getElem?_setIfInBounds_ne (by omega)]
  ·apply List.filter_congr
   intro j hj
   have:i<j:=by simp at hj;omega
   rw[Array.getD_eq_getD_getElem?,Array.getD_eq_getD_getElem?,Array.getElem?_setIfInBounds_ne (by omega)]
 ·rw[List.mem_filter]at hj
  exact⟨by simpa using hj.1,by simpa using hj.2⟩
end
end
section
open Go.RowKit
section
variable {X : Fx} {z : Z} {s : AS} {a : Act} {w w' : World} {E : List Pl} {pb : Nat → Option Nat} {R : Type}
theorem Yg (h:St X z s a w E pb) {d:Nat} {av:AV} (Ec:s.sl.getD d .undef=av) (h1:av≠.undef) (h2:∀cs,av≠.lbx cs):∃v,a.tmps[d]? =some v∧a.tmps.getD d undef=v∧ak (ctx z w E pb) av v:=by
 by_cases hd:d<s.sl.length
 ·have e:s.sl[d]? =some av:=by rw[List.getElem?_eq_getElem hd];rw[←Ec];simp [List.getD,hd]
  have r:=(h.slot d av e).rep h2
  have hd':d<a.tmps.size:=by rw[h.len];exact hd
  exact⟨a.tmps.getD d undef,by simp [Array.getD,hd'],rfl,r⟩
 ·exact absurd (by rw[←Ec];simp [List.getD,Nat.le_of_not_lt hd]) h1
theorem alv (hs:dJ X) (h:St X z s a w E pb) {q:Bool} {ops:Array Oper} {i:Nat} {o:Oper} (hi:ops[i]? =some o) {k:AS→Option R} {r:R} (hk:nZ X q ops o s k=some r) {K:Act→World→Prop} {Q:Exit→Act→World→Prop}
  (hK:∀s' a' w' E' bL,St X z s' a' w' E' bL→k s'=some r→K a' w'):wpOp X.P ops Q i K a w:=by
 unfold wpOp
 rw[hi]
 simp only
 unfold nZ at hk
 cases hg:o.guard with
 |none=>
  rw[hg]at hk
  rw[if_pos (by simp [Region.wanted,hg])]
  exact .inl (alu hs h hk hK)
 |some jw=>
  obtain⟨j,want⟩:=jw
  rw[hg]at hk
  simp only at hk
  cases hd:(ops[j]?).bind (·.dst)with
  |none=>rw[hd]at hk;cases hk
  |some d=>
   rw[hd]at hk
   simp only at hk
   cases hL:Ht X o d
   ·rw[hL]at hk
    simp only[cond_false]at hk
    have HY:Region.wanted o (yielded ops a.tmps)=(yielded ops a.tmps j==some want):=by simp [Region.wanted,hg]
    have hy:yielded ops a.tmps j=match a.tmps[d]? with|some (.bool b)=>some b|_=>none:=by
     simp only[yielded,hd,Option.bind_some]
     rfl
    cases hp:kH X o s (some (d,want))with
    |some p=>
     obtain⟨b,rr⟩:=p
     rw[hp]at hk
     simp only at hk
     obtain⟨off,e1,e2⟩:=Option.bind_eq_some_iff.1 hk
     subst e1
     by_cases hw:Region.wanted o (yielded ops a.tmps)=true
     ·rw[if_pos hw]
      have ht:qD a (some (d,want)):=by
       rw[HY,hy]at hw
       simp only[qD]
       split at hw
       ·rename_i b' hb'
        simp at hw;subst hw
        rw[Array.getD_eq_getD_getElem?,hb'];rfl
       ·simp at hw
      obtain⟨n,k1,k2⟩:=ZO h ht hp
      exact .inl (qq k2 (hK _ _ _ _ _ (h.RL o.dst (fun _=>⟨n,k1,rfl⟩)) e2))
     ·rw[if_neg hw]
      refine hK _ _ _ _ _ (h.RL o.dst (fun ht=>absurd ?_ hw)) e2
      rw[HY,hy]
      simp only[qD]at ht
      rw[Array.getD_eq_getD_getElem?]at ht
      cases hc:a.tmps[d]? with
      |none=>rw[hc]at ht;simp [undef]at ht
      |some v=>rw[hc]at ht;simp at ht;subst ht;simp
    |none=>
     rw[hp]at hk
     simp only at hk
     obtain⟨av,e1,e2⟩:=Option.bind_eq_some_iff.1 hk
     generalize qT:s.sl.getD d .undef=gv at e1
     cases gv<;>simp only[A.guard]at e1<;>first|(cases e1;done)|skip
     case bool b=>
      obtain⟨v,v1,v2,v3⟩:=Yg h qT (by intro e;cases e) (by intro cs e;cases e)
      simp only[ak]at v3
      subst v3
      cases I4:(b==want)
      ·rw[I4]at e1
       simp only[cond_false]at e1
       injection e1 with e1;subst e1
       have hw:¬Region.wanted o (yielded ops a.tmps)=true:=by
        rw[HY,hy,v1]
        simp at I4 ⊢
        exact I4
       rw[if_neg hw]
       exact hK _ _ _ _ _ (h.undef o.dst) e2
      ·rw[I4]at e1
       simp only[cond_true]at e1
       have aaS:b=want:=by simpa using I4
       have hw:Region.wanted o (yielded ops a.tmps)=true:=by rw[HY,hy,v1];simp [aaS]
       rw[if_pos hw]
       have ht:qD a (some (d,want)):=by simp only[qD];rw[v2,aaS]
       exact .inl (ZP hs h ht e1 fun v w' E' h3 h4=>hK _ _ _ _ _ (h3.put o.dst h4) e2)
     case aH vs=>
      cases vs with
      |cons x xs=>cases e1
      |nil=>
       injection e1 with e1;subst e1
       obtain⟨v,v1,v2,v3⟩:=Yg h qT (by intro e;cases e) (by intro cs e;cases e)
       simp only[ak]at v3
       obtain⟨us,rfl,_⟩:=v3
       have hw:¬Region.wanted o (yielded ops a.tmps)=true:=by rw[HY,hy,v1];simp
       rw[if_neg hw]
       exact hK _ _ _ _ _ (h.undef o.dst) e2
   ·rw[hL]at hk;cases hk
def Fr (X:Fx) (ds:List Nat) (s s':AS):Prop:=∀i,i∉ds→X.L.contains i=false→s'.sl[i]? =s.sl[i]?
theorem Fr.refl (ds:List Nat) (s:AS):Fr X ds s s:=fun _ _ _=>rfl
theorem Fr.trans {d1 d2:List Nat} {s s' s'':AS} (h:Fr X d1 s s') (k:Fr X d2 s' s''):Fr X (d1++d2) s s'':=fun i hi hL=>by
 rw[List.mem_append]at hi
 exact(k i (fun e=>hi (.inr e)) hL).trans (h i (fun e=>hi (.inl e)) hL)
theorem Fr.mono {d1 d2:List Nat} {s s':AS} (h:Fr X d1 s s') (k:∀i∈d1,i∈d2):Fr X d2 s s':=fun i hi hL=>h i (fun e=>hi (k i e)) hL
theorem Fr.put (d:Option Nat) (v:AV) (s:AS):Fr X d.toList s (s.put X d v):=fun i hi hL=>by
 cases d with
 |none=>rfl
 |some d=>simp only[AS.put];rw[List.getElem?_set,if_neg];intro e;subst e;simp at hi
theorem Fr.mD (d:Option Nat) (b off:Nat) (tag:Option (Nat×Bool)) (s:AS):Fr X d.toList s (s.mD X d b off tag):=fun i hi hL=>by
 cases d with
 |none=>rfl
 |some d=>simp only[AS.mD];rw[List.getElem?_set,if_neg];intro e;subst e;simp at hi
theorem Fr.oz (d:Nat) (cs:List AV) (s:AS):Fr X [d] s (s.oz d cs):=fun i hi hL=>by
 simp only[AS.oz];rw[List.getElem?_set,if_neg];intro e;subst e;simp at hi
theorem Fr.qu (d:Option Nat) (v:AV) (σ:Heap) (s:AS):Fr X d.toList s ((s.heap σ).put X d v):=fun i hi hL=>by
 cases d with
 |none=>rfl
 |some d=>simp only[AS.put,AS.heap];rw[List.getElem?_set,if_neg];intro e;subst e;simp at hi
theorem Fr.ak1 (d:Option Nat) (v:AV) (b:Nat) (cs:List AV) (hb:X.L.contains b=true) (s:AS):Fr X d.toList s ((⟨s.sl.set b (.lbx cs),s.A,s.σ⟩:AS).put X d v):=fun i hi hL=>by
 have hbi:b≠i:=fun e=>by rw[e,hL]at hb;cases hb
 cases d with
 |none=>simp only[AS.put];rw[List.getElem?_set,if_neg hbi]
 |some d=>simp only[AS.put];rw[List.getElem?_set,if_neg,List.getElem?_set,if_neg hbi];intro e;subst e;simp at hi
theorem akn {tag:Option (Nat×Bool)} {x:Operand} {b off:Nat} (h:place X s tag x=some (b,off)):X.L.contains b=true:=by
 cases x with
 |tmp t=>
  simp only[place]at h
  cases hL:X.L.contains t
  ·rw[hL]at h
   simp only[cond_false]at h
   split at h
   ·rename_i p hA
    cases hp:X.L.contains p.slot
    ·rw[hp]at h;cases h
    ·rw[hp]at h
     simp only[cond_true]at h
     split at h
     ·simp only[Option.some.injEq,Prod.mk.injEq]at h;rw[←h.1];exact hp
     ·rename_i g hg
      cases ht:(tag==some g)
      ·rw[ht]at h;cases h
      ·rw[ht]at h;simp only[cond_true,Option.some.injEq,Prod.mk.injEq]at h;rw[←h.1];exact hp
   ·cases h
  ·rw[hL]at h
   simp only[cond_true,Option.some.injEq,Prod.mk.injEq]at h
   rw[←h.1];exact hL
 |_=>simp [place]at h
theorem bind_congr {α β:Type} {x:Option α} {f g:α→Option β} (h:∀a,x=some a→f a=g a):x.bind f=x.bind g:=by cases x with|none=>rfl|some a=>exact h a rfl
theorem afF {x:AV} {σ:Heap} {f g:Nat→Heap→Option R} (h:∀n σ,f n σ=g n σ):A.Iq x σ f=A.Iq x σ g:=by
 have:f=g:=funext fun n=>funext fun σ=>h n σ
 rw[this]
theorem ae1 {x:AV} {σ:Heap} {f g:AV→Heap→Option R} (h:∀v σ,f v σ=g v σ):A.sS x σ f=A.sS x σ g:=by
 have:f=g:=funext fun n=>funext fun σ=>h n σ
 rw[this]
theorem afV {q str:Bool} {i:Operand} {dst:Option Nat} {k k2:AS→Option R} (h:∀s',Fr X dst.toList s s'→k s'=k2 s'):
  (bif q||str then none else A.sS (ev X s i) s.σ fun v σ=>k ((s.heap σ).put X dst v))=(bif q||str then none else A.sS (ev X s i) s.σ fun v σ=>k2 ((s.heap σ).put X dst v)):=by
 cases(q||str)
 ·simp only[cond_false]
  exact ae1 fun _ _=>h _ (Fr.qu _ _ _ _)
 ·rfl
theorem ahr {q:Bool} {o:Oper} {k k2:AS→Option R} (h:∀s',Fr X o.dst.toList s s'→k s'=k2 s'):ia X q o s k=ia X q o s k2:=by
 unfold ia
 cases hp:kH X o s none with
 |some p=>obtain⟨b,rr⟩:=p;exact bind_congr fun p _=>h _ (Fr.mD _ _ _ _ _)
 |none=>
  simp only
  have dflt:((fW X o s none).bind fun v=>k (s.put X o.dst v))=(fW X o s none).bind fun v=>k2 (s.put X o.dst v):=bind_congr fun v _=>h _ (Fr.put _ _ _)
  obtain⟨dst,op,ty,pos,af,g⟩:=o
  cases op<;>simp only<;>first|exact afV h|exact dflt|skip
  case alloc t=>
   cases dst with
   |none=>rfl
   |some d=>
    simp only
    cases X.L.contains d
    ·simp only[cond_false]
     cases X.O.contains d
     ·exact dflt
     ·simp only[cond_true];split
      ·exact h _ (Fr.qu _ _ _ _)
      ·rfl
    ·simp only[cond_true];split
     ·exact h _ (Fr.oz _ _ _)
     ·rfl
  case box t x=>
   cases dst with
   |none=>rfl
   |some d=>
    simp only
    cases X.L.contains d
    ·simp only[cond_false]
     cases X.O.contains d
     ·exact dflt
     ·exact bind_congr fun cs _=>h _ (Fr.qu _ _ _ _)
    ·exact bind_congr fun cs _=>h _ (Fr.oz _ _ _)
  case store t x v=>
   split
   ·rename_i b off hpl
    exact bind_congr fun _ _=>bind_congr fun _ _=>bind_congr fun _ _=>h _ (Fr.ak1 _ _ _ _ (akn hpl) _)
   ·exact bind_congr fun _ _=>bind_congr fun _ _=>h _ (Fr.qu _ _ _ _)
  case makeMap t rr=>
   cases rr with
   |none=>exact h _ (Fr.qu _ _ _ _)
   |some x=>rfl
  case range t x=>
   split
   ·exact bind_congr fun _ _=>h _ (Fr.qu _ _ _ _)
   ·rfl
  case buildSlice t n ps=>
   cases dst with
   |none=>exact dflt
   |some d=>
    simp only
    cases X.O.contains d
    ·exact dflt
    ·simp only[cond_true]
     refine bind_congr fun v _=>?_
     unfold A.Ga
     split
     ·cases(List.length _==0)
      ·exact h _ (Fr.qu _ _ _ _)
      ·rfl
     ·rfl
  case mapUpdate t m i v=>
   split
   ·split
    ·exact bind_congr fun _ _=>h _ (Fr.qu _ _ _ _)
    ·rfl
   ·rfl
  case call c=>
   split
   ·split
    ·split
     ·split
      ·cases mW _
       ·exact bind_congr fun _ _=>h _ (Fr.qu _ _ _ _)
       ·rfl
      ·rfl
     ·split
      ·cases mW _
       ·exact bind_congr fun _ _=>h _ (Fr.qu _ _ _ _)
       ·rfl
      ·rfl
     ·rfl
    ·rfl
   ·split
    ·split
     ·split
      ·cases mW _
       ·exact bind_congr fun _ _=>h _ (Fr.qu _ _ _ _)
       ·rfl
      ·rfl
     ·rfl
    ·rfl
   ·cases hv:fW X _ s none
    ·simp only[A.Ip]
     cases q
     ·simp only[cond_false]
      split
      ·split
       ·exact afF fun _ _=>h _ (Fr.qu _ _ _ _)
       ·rfl
      ·rfl
     ·rfl
    ·exact h _ (Fr.put _ _ _)
   ·split
    ·split
     ·split
      ·cases mW _
       ·exact bind_congr fun _ _=>h _ (Fr.qu _ _ _ _)
       ·rfl
      ·rfl
     ·rfl
    ·rfl
   ·split
    ·split
     ·split
      ·exact bind_congr fun _ _=>h _ (Fr.qu _ _ _ _)
      ·rfl
     ·rfl
    ·rfl
   ·exact dflt
   ·cases(q&&!X.W.contains _)
    ·exact bind_congr fun _ _=>h _ (Fr.qu _ _ _ _)
    ·exact dflt
   ·cases q
    ·exact bind_congr fun _ _=>h _ (Fr.qu _ _ _ _)
    ·exact dflt
   ·rfl
theorem ahs {q:Bool} {ops:Array Oper} {o:Oper} {k k2:AS→Option R} (h:∀s',Fr X o.dst.toList s s'→k s'=k2 s'):nZ X q ops o s k=nZ X q ops o s k2:=by
 unfold nZ
 split
 ·exact ahr h
 ·split
  ·cases Ht X o _
   ·simp only[cond_false]
    split
    ·exact bind_congr fun _ _=>h _ (Fr.mD _ _ _ _ _)
    ·exact bind_congr fun _ _=>h _ (Fr.put _ _ _)
   ·rfl
  ·rfl
theorem YR (hs:dJ X) (h:St X z s a w E pb) {q:Bool} {ops:Array Oper} {i:Nat} {o:Oper} (hi:ops[i]? =some o) {k:AS→Option R} {r:R} (hk:nZ X q ops o s k=some r) {K:Act→World→Prop} {Q:Exit→Act→World→Prop}
  (hK:∀s' a' w' E' bL,St X z s' a' w' E' bL→Fr X o.dst.toList s s'→k s'=some r→K a' w'):wpOp X.P ops Q i K a w:=by
 classical
 have e:nZ X q ops o s k=nZ X q ops o s (fun s'=>if Fr X o.dst.toList s s' then k s' else none):=ahs fun s' hf=>by rw[if_pos hf]
 rw[e]at hk
 refine alv hs h hi hk fun s' a' w' E' bL h' hk'=>?_
 split at hk'
 ·exact hK s' a' w' E' bL h' (by assumption) hk'
 ·cases hk'
theorem YU (hs:dJ X) {q:Bool} {ops:Array Oper} {Q:Exit→Act→World→Prop} {r:R} {k:AS→Option R} {s0:AS}:
  ∀(l:List Oper) (i:Nat) (s:AS) (a:Act) (w:World) (E:List Pl) (pb:Nat→Option Nat),(∀j,l[j]? =ops[i+j]?)→St X z s a w E pb→sZ X q ops l s k=some r→
   (∀s' a' w' E' bL,St X z s' a' w' E' bL→Fr X (l.filterMap (·.dst)) s s'→k s'=some r→Q .normal a' w')→wpOps X.P ops Q (List.range' i l.length) a w
 |[],i,s,a,w,E,pb,_,h,hk,hQ=>by simpa [wpOps]using hQ _ _ _ _ _ h (Fr.refl _ _) hk
 |o::l,i,s,a,w,E,pb,hl,h,hk,hQ=>by
  have h0:=hl 0
  simp at h0
  simp only[List.length_cons,List.range'_succ]
  rw[wpOps_cons]
  refine YR hs h h0.symm hk fun s' a' w' E' bL h' hf hk'=>?_
  refine YU hs (s0:=s0) l (i+1) s' a' w' E' bL (fun j=>by have:=hl (j+1);simp at this;rw[this];congr 1;omega) h' hk' fun s2 a2 w2 E2 TW h2 yW hk2=>hQ s2 a2 w2 E2 TW h2 ((hf.trans yW).mono ?_) hk2
  intro j hj
  rw[List.filterMap_cons]
  cases hd:o.dst with
  |none=>rw[hd]at hj;simpa using hj
  |some d=>rw[hd]at hj;simpa using hj
theorem akj (hs:dJ X) {Rt:List (Nat×Nat)} {Bt:List Nat} (h:St X z s a w E pb) (hI:RI X Rt Bt s) {ops:Array Oper} {i:Nat} {o:Oper} (hR:uo X Rt Bt o) (hi:ops[i]? =some o) {k:AS→Option R} {r:R} (hk:nZ X true ops o s k=some r) {K:Act→World→Prop} {Q:Exit→Act→World→Prop}
  (hK:∀s' a' w' E' bL,St X z s' a' w' E' bL→Fr X o.dst.toList s s'→RI X Rt Bt s'→k s'=some r→K a' w'):wpOp X.P ops Q i K a w:=by
 classical
 have e:nZ X true ops o s (fun s'=>if RI X Rt Bt s' then k s' else none)=some r:=by
  obtain⟨u,h1,h2,h3⟩:=Q8 hR hI hk
  rw[h3 R _ s (fun tag _=>⟨hI,hI,fun _ _ _=>rfl,fun _ _=>rfl,fun _ _=>rfl,fun _ _=>rfl,fun _ _=>C6 _⟩),if_pos (h1.ri hI)]
  exact h2
 refine YR hs h hi e fun s' a' w' E' bL h' hf hk'=>?_
 split at hk'
 ·exact hK s' a' w' E' bL h' hf (by assumption) hk'
 ·cases hk'
theorem aib (hs:dJ X) {Rt:List (Nat×Nat)} {Bt:List Nat} {ops:Array Oper} {Q:Exit→Act→World→Prop} {r:R} {k:AS→Option R} {s0:AS} (Rm:∀n o e,ops[n]? =some o→e∈o.after→Region.binds .any e=true→e.on<n)
  (amm:∀n o m y,ops[n]? =some o→m<n→ops[m]? =some y→(∀S,Down ops S→MK ops n S→S m)∨yS X Rt Bt ops y o) (R7:∀(n:Nat) (o:Oper),ops[n]? =some o→uo X Rt Bt o)
  (hQ:∀s' a' w' E' bL,St X z s' a' w' E' bL→Fr X (ops.toList.filterMap (·.dst)) s0 s'→k s'=some r→Q .normal a' w'):
  ∀(fuel:Nat) (listed:Array Bool) (s:AS) (a:Act) (w:World) (E:List Pl) (pb:Nat→Option Nat),listed.size=ops.size→(qK listed ops.size).length≤fuel→Down ops (fun i=>listed.getD i true=true)→St X z s a w E pb→RI X Rt Bt s→sZ X true ops (Aw ops listed) s k=some r→Fr X (ops.toList.filterMap (·.dst)) s0 s→
   wpAny X.P .any ops Q fuel listed a w:=by
 have hnone:∀(listed:Array Bool),qK listed ops.size=[]→Region.ready .any ops listed=[]:=by
  intro listed h
  unfold Region.ready
  rw[List.filter_eq_nil_iff]
  intro i hi hr
  simp only[Bool.and_eq_true]at hr
  have:i∈qK listed ops.size:=List.mem_filter.2 ⟨hi,hr.1⟩
  rw[h]at this;simp at this
 have hsome:∀(listed:Array Bool),listed.size=ops.size→Region.ready .any ops listed=[]→qK listed ops.size=[]:=by
  intro listed hsz hr
  cases wV:qK listed ops.size with
  |nil=>rfl
  |cons i0 tl=>
   exfalso
   have hm:i0∈qK listed ops.size:=by rw[wV];simp
   obtain⟨h1,h2⟩:=List.mem_filter.1 hm
   have hlt:i0<ops.size:=by simpa using h1
   have hpw:(qK listed ops.size).Pairwise (·<·):=List.Pairwise.filter _ List.pairwise_lt_range
   rw[wV,List.pairwise_cons]at hpw
   have hall:∀j,j<i0→listed.getD j true=true:=by
    intro j hj
    cases hc:listed.getD j true with
    |true=>rfl
    |false=>
     have:j∈qK listed ops.size:=List.mem_filter.2 ⟨by simp;omega,by simp [hc]⟩
     rw[wV]at this
     rcases List.mem_cons.1 this with e|e
     ·omega
     ·have:=hpw.1 j e;omega
   have:i0∈Region.ready .any ops listed:=by
    unfold Region.ready
    refine List.mem_filter.2 ⟨h1,?_⟩
    rw[Bool.and_eq_true]
    refine⟨h2,?_⟩
    rw[Array.getElem?_eq_getElem hlt]
    simp only[Option.map_some,Option.getD_some]
    rw[Array.all_eq_true_iff_forall_mem]
    intro e he
    cases hb:Region.binds .any e with
    |false=>rfl
    |true=>
     have Gx:=Rm i0 _ e (Array.getElem?_eq_getElem hlt) he hb
     have:=hall e.on Gx
     rw[Array.getD_eq_getD_getElem?,Array.getElem?_eq_getElem (by omega)]at this
     simp only[Option.getD_some]at this
     rw[Array.getD_eq_getD_getElem?,Array.getElem?_eq_getElem (by omega)]
     simp [this]
   rw[hr]at this;simp at this
 intro fuel
 induction fuel with
 |zero=>
  intro listed s a w E pb hsz hle hdn h hI hk hf
  have wV:qK listed ops.size=[]:=List.eq_nil_of_length_eq_zero (by omega)
  refine⟨hnone listed wV,hQ s a w E pb h hf ?_⟩
  simpa [Aw,wV,sZ]using hk
 |succ fuel ih=>
  intro listed s a w E pb hsz hle hdn h hI hk hf
  refine⟨fun hr=>hQ s a w E pb h hf (by simpa [Aw,hsome listed hsz hr,sZ]using hk),fun i hi=>?_⟩
  unfold Region.ready at hi
  obtain⟨h1,h2⟩:=List.mem_filter.1 hi
  rw[Bool.and_eq_true]at h2
  obtain⟨h2,h3⟩:=h2
  have hlt:i<ops.size:=by simpa using h1
  have hun:listed.getD i true=false:=by simpa using h2
  have ho:ops[i]? =some ops[i]:=Array.getElem?_eq_getElem hlt
  have aan:MK ops i (fun j=>listed.getD j true=true):=by
   intro o e hoo he hb
   rw[hoo]at h3
   simp only[Option.map_some,Option.getD_some]at h3
   rw[Array.all_eq_true_iff_forall_mem]at h3
   have h4:=h3 e he
   rw[hb]at h4
   simp only[Bool.not_true,Bool.false_or]at h4
   have Gx:=Rm i o e hoo he hb
   rw[Array.getD_eq_getD_getElem?,Array.getElem?_eq_getElem (by omega)]at h4
   simp only[Option.getD_some]at h4
   show listed.getD e.on true=true
   rw[Array.getD_eq_getD_getElem?,Array.getElem?_eq_getElem (by omega)]
   simpa using h4
  obtain⟨l1,l2,e1,e2,e3⟩:=agk hlt hun hsz
  have wV:Aw ops listed=l1.filterMap (ops[·]?)++ops[i]::l2.filterMap (ops[·]?):=by
   unfold Aw;rw[e1,List.filterMap_append,List.filterMap_cons,ho]
  have amo:Aw ops (listed.setIfInBounds i true)=l1.filterMap (ops[·]?)++l2.filterMap (ops[·]?):=by
   unfold Aw;rw[e2,List.filterMap_append]
  rw[wV]at hk
  have an3:∀y∈l1.filterMap (ops[·]?),uo X Rt Bt y:=by
   intro y hy
   obtain⟨j,hj,Ty⟩:=List.mem_filterMap.1 hy
   exact R7 j y Ty
  have anW:∀y∈l1.filterMap (ops[·]?),yS X Rt Bt ops y ops[i]:=by
   intro y hy
   obtain⟨j,hj,Ty⟩:=List.mem_filterMap.1 hy
   obtain⟨j1,j2⟩:=e3 j hj
   rcases amm i ops[i] j y ho j1 Ty with k1|k1
   ·have:=k1 _ hdn aan
    rw[j2]at this;cases this
   ·exact k1
  have alf:=WX (R7 i _ ho) _ _ s hI an3 anW hk
  refine akj hs h hI (R7 i _ ho) ho alf fun s' a' w' E' bL h' hf' Tq hk'=>?_
  rw[←amo]at hk'
  refine ih _ s' a' w' E' bL (by simpa using hsz) ?_ ?_ h' Tq hk' ((hf.trans hf').mono ?_)
  ·rw[e2];rw[e1]at hle;simp at hle ⊢;omega
  ·intro j o e hj TB he hb
   by_cases hji:j=i
   ·subst hji
    have:=aan o e TB he hb
    show(listed.setIfInBounds j true).getD e.on true=true
    have Gx:=Rm j o e TB he hb
    rw[Array.getD_eq_getD_getElem?,Array.getElem?_setIfInBounds_ne (by omega),←Array.getD_eq_getD_getElem?];exact this
   ·have hj':listed.getD j true=true:=by
     replace hj:(listed.setIfInBounds i true).getD j true=true:=hj
     rw[Array.getD_eq_getD_getElem?,Array.getElem?_setIfInBounds_ne (fun e=>hji e.symm),←Array.getD_eq_getD_getElem?]at hj;exact hj
    have:=hdn j o e hj' TB he hb
    show(listed.setIfInBounds i true).getD e.on true=true
    by_cases hei:e.on=i
    ·rw[hei];simp [Array.getD,hsz,hlt]
    ·rw[Array.getD_eq_getD_getElem?,Array.getElem?_setIfInBounds_ne (fun e'=>hei e'.symm),←Array.getD_eq_getD_getElem?];exact this
  ·intro d hd
   rcases List.mem_append.1 hd with hd|hd
   ·exact hd
   ·refine List.mem_filterMap.2 ⟨ops[i],by simp,?_⟩
    cases pZ:ops[i].dst with
    |none=>rw[pZ]at hd;simp at hd
    |some d'=>rw[pZ]at hd;simp at hd;rw[hd]
theorem Pr {t b:Nat}:∀{l:List (Nat×Nat)},l.lookup t=some b→(t,b)∈l
 |[],h=>by cases h
 |(t',b')::l,h=>by
  simp only[List.lookup]at h
  cases hc:(t==t')
  ·rw[hc]at h;exact List.mem_cons_of_mem _ (Pr h)
  ·rw[hc]at h
   simp only[Option.some.injEq]at h
   have:t=t':=by simpa using hc
   subst this;subst h
   exact List.mem_cons_self
theorem ajC (hs:dJ X) {ops:Array Oper} {Q:Exit→Act→World→Prop} {r:R} {k:AS→Option R} (hok:Hw X ops s.sl=true) (hA:∀t,s.A t=none) (hQ:∀s' a' w' E' bL,St X z s' a' w' E' bL→Fr X (ops.toList.filterMap (·.dst)) s s'→k s'=some r→Q .normal a' w') {id:Nat}
  (h:St X z s a w E pb) (hk:sZ X true ops ops.toList s k=some r):(Code.region id ops true).wp X.P Q a w:=by
 obtain⟨Rt,Bt,hok⟩:∃Rt Bt,Ll X Rt Bt ops s.sl=true:=by
  unfold Hw at hok
  rcases Bool.or_eq_true_iff.1 hok with h|h
  ·exact⟨_,_,h⟩
  ·exact⟨_,_,h⟩
 unfold Ll at hok
 simp only[Bool.and_eq_true]at hok
 obtain⟨⟨⟨⟨⟨⟨⟨h1,h2⟩,h3⟩,h4⟩,h5⟩,h6⟩,h7⟩,h8⟩:=hok
 have hI:RI X Rt Bt s:=by
  refine⟨fun t b hl=>?_,fun t p hp=>(by rw[hA t]at hp;cases hp),fun t b hl _=>?_,fun t ht=>List.all_eq_true.1 h8 t (by simpa using ht)⟩
  ·have:=List.all_eq_true.1 h6 (t,b) (Pr hl)
   exact this
  ·have:=List.all_eq_true.1 h5 (t,b) (Pr hl)
   exact this
 have aap:∀j,ops.toList[j]? =ops[0+j]? :=fun j=>by simp
 have wV:qK (Array.replicate ops.size false) ops.size=List.range ops.size:=by
  unfold qK
  rw[List.filter_eq_self]
  intro i hi
  have:i<ops.size:=by simpa using hi
  simp [Array.getD,this]
 have amp:Aw ops (Array.replicate ops.size false)=ops.toList:=by
  unfold Aw
  rw[wV]
  have gen:∀(l pre:List Oper),(List.range' pre.length l.length).filterMap (fun i=>(pre++l)[i]?)=l:=by
   intro l
   induction l with
   |nil=>intro pre;rfl
   |cons x l ih=>
    intro pre
    simp only[List.length_cons,List.range'_succ,List.filterMap_cons]
    rw[List.getElem?_append_right (Nat.le_refl _)]
    simp only[Nat.sub_self,List.getElem?_cons_zero]
    have:=ih (pre++[x])
    simp only[List.length_append,List.length_cons,List.length_nil,Nat.zero_add,List.append_assoc,List.cons_append,List.nil_append]at this
    rw[this]
  have:=gen ops.toList []
  rw[List.range_eq_range']
  simpa using this
 refine wp_region_any h1 (aib (s0:=s) hs (fun n o e ho he hb=>Wr ops.toList 0 aap h2 n o e (Nat.zero_le _) ho he hb) (fun n o m y ho hm hy=>?_) (fun n o ho=>uo.of (List.all_eq_true.1 h4 o (by have:=Array.mem_of_getElem? ho;simpa using this)) (List.all_eq_true.1 h7 o (by have:=Array.mem_of_getElem? ho;simpa using this))) hQ ops.size _ s a _ E pb (by simp) (by rw[wV];simp) ?_ (h.grow (w':=w.drew) ((Below.refl _ _).drew)) hI (by rw[amp];exact hk) (Fr.refl _ _))
 ·rcases V3 ops.toList 0 aap h3 n o (Nat.zero_le _) ho m y hm hy with k1|k1
  ·left
   exact fun S hS hD=>Xr ops.toList [] (fun i=>by simp) (fun m j h=>by simp at h) n m k1 S hS hD
  ·exact .inr (ahd k1)
 ·intro i o e hi ho he hb
  have hlt:i<ops.size:=(Array.getElem?_eq_some_iff.1 ho).1
  exfalso
  simp [Array.getD,hlt]at hi
theorem St.TT (h:St X z s a w E pb):St X z ⟨s.sl,fun _=>none,s.σ⟩ a w E pb:=
 ⟨h.len,h.qI,h.slot,h.box,(fun t p hp=>by cases hp),h.priv,h.inj,h.heap,h.defers,h.out,h.nm⟩
def AX.to:AX→Exit
 |.normal=>.normal
 |.exit i=>.exit i
 |.ret=>.ret
theorem Kx:∀(ds:List Nat) (sl:List AV) (i:Nat),(vZ sl ds).length=sl.length∧((vZ sl ds)[i]? =sl[i]? ∨(vZ sl ds)[i]? =some .undef)∧(i∉ds→(vZ sl ds)[i]? =sl[i]?)∧(i∈ds→i<sl.length→(vZ sl ds)[i]? =some .undef)
 |[],sl,i=>⟨rfl,.inl rfl,fun _=>rfl,fun h=>by simp at h⟩
 |d::ds,sl,i=>by
  obtain⟨h1,h2,h3,h4⟩:=Kx ds (sl.set d .undef) i
  simp only[vZ]
  have rV:(sl.set d .undef)[i]? =if d=i then(if i<sl.length then some .undef else none)else sl[i]? :=by
   rw[List.getElem?_set];by_cases e:d=i
   ·subst e;simp
   ·simp [e]
  have hnone:¬i<sl.length→sl[i]? =none:=fun k=>List.getElem?_eq_none (by omega)
  refine⟨by rw[h1];simp,?_,fun hi=>?_,fun hi hl=>?_⟩
  ·rcases h2 with h2|h2
   ·rw[h2,rV]
    by_cases e:d=i
    ·rw[if_pos e];split
     ·exact .inr rfl
     ·rename_i k;rw[hnone k];exact .inl rfl
    ·rw[if_neg e];exact .inl rfl
   ·exact .inr h2
  ·simp only[List.mem_cons,not_or]at hi
   rw[h3 hi.2,rV,if_neg (fun e=>hi.1 e.symm)]
  ·by_cases hm:i∈ds
   ·exact h4 hm (by simpa using hl)
   ·simp only[List.mem_cons]at hi
    have:i=d:=hi.resolve_right hm
    rw[h3 hm,rV,if_pos this.symm,if_pos hl]
theorem La (vs:List AV):∀(live:List Nat) (j:Nat) (sl:List AV) (i:Nat),(FO vs sl live j).length=sl.length∧(i∉live→(FO vs sl live j)[i]? =sl[i]?)∧(i∈live→i<sl.length→∃n,n<live.length∧live[n]? =some i∧(FO vs sl live j)[i]? =some (vs.getD (j+n) .undef))
 |[],j,sl,i=>⟨rfl,fun _=>rfl,fun h=>by simp at h⟩
 |d::live,j,sl,i=>by
  obtain⟨h1,h2,h3⟩:=La vs live (j+1) (sl.set d (vs.getD j .undef)) i
  simp only[FO]
  refine⟨by rw[h1];simp,fun hi=>?_,fun hi hl=>?_⟩
  ·simp only[List.mem_cons,not_or]at hi
   rw[h2 hi.2,List.getElem?_set,if_neg (fun e=>hi.1 e.symm)]
  ·by_cases hm:i∈live
   ·obtain⟨n,k1,k2,k3⟩:=h3 hm (by simpa using hl)
    exact⟨n+1,by simp;omega,by simpa using k2,by rw[k3];congr 2;omega⟩
   ·simp only[List.mem_cons]at hi
    have:i=d:=hi.resolve_right hm
    subst this
    exact⟨0,by simp,rfl,by rw[h2 hm,List.getElem?_set];simp [hl]⟩
theorem St.meet {s s':AS} (h:St X z s' a w E pb) {mods live:List Nat} (hl:s.sl.length=s'.sl.length) (hf:∀i,i∉mods→s'.sl[i]? =s.sl[i]?):St X z (s.meet mods live (vals s'.sl live) s'.σ) a w E pb:=by
 have jY:∀i:Nat,(s.meet mods live (vals s'.sl live) s'.σ).sl[i]? =s'.sl[i]? ∨(s.meet mods live (vals s'.sl live) s'.σ).sl[i]? =some AV.undef:=by
  intro i
  simp only[AS.meet]
  obtain⟨c1,c2,c3,c4⟩:=Kx mods s.sl i
  obtain⟨m1,m2,m3⟩:=La (vals s'.sl live) live 0 (vZ s.sl mods) i
  by_cases hm:i∈live
  ·by_cases hlt:i<s.sl.length
   ·obtain⟨n,k1,k2,k3⟩:=m3 hm (by rw[c1];exact hlt)
    left
    rw[k3,Nat.zero_add]
    have:(vals s'.sl live).getD n .undef=s'.sl.getD i .undef:=by
     simp only[vals,List.getD,List.getElem?_map,k2];rfl
    rw[this,List.getElem?_eq_getElem (by omega)]
    simp [List.getD,show i<s'.sl.length by omega]
   ·left
    rw[List.getElem?_eq_none (by rw[m1,c1];omega),List.getElem?_eq_none (by omega)]
  ·rw[m2 hm]
   by_cases hd:i∈mods
   ·by_cases hlt:i<s.sl.length
    ·exact .inr (c4 hd hlt)
    ·left;rw[List.getElem?_eq_none (by rw[c1];omega),List.getElem?_eq_none (by omega)]
   ·left;rw[c3 hd,hf i hd]
 have hlen:(s.meet mods live (vals s'.sl live) s'.σ).sl.length=s'.sl.length:=by
  simp only[AS.meet]
  rw[(La (vals s'.sl live) live 0 (vZ s.sl mods) 0).1,(Kx mods s.sl 0).1];exact hl
 refine⟨by rw[h.len,hlen],by rw[hlen,h.qI],fun i av hi=>?_,fun i cs hi=>?_,(fun t p hp=>by cases hp),h.priv,h.inj,h.heap,h.defers,h.out,h.nm⟩
 ·rcases jY i with e|e
  ·rw[e]at hi;exact h.slot i av hi
  ·rw[e]at hi;injection hi with hi;subst hi;trivial
 ·rcases jY i with e|e
  ·rw[e]at hi;exact h.box i cs hi
  ·rw[e]at hi;cases hi
end
end
section
open Go.RowKit
section
variable {X : Fx} {z : Z}
theorem force_eq {R:Type}:∀(l:List AV) (k:List AV→Option R),force l k=k l
 |[],k=>rfl
 |x::l,k=>by simp only[force];rw[force_eq l]
theorem YV {R:Type} {q:Bool} {ops:Array Oper}:∀(l:List Oper) (s:AS) (k:AS→Option R),IE X q ops l s k=sZ X q ops l s k
 |[],s,k=>rfl
 |o::l,s,k=>by
  simp only[IE,sZ]
  congr 1;funext s
  rw[force_eq];exact YV l _ k
theorem Wu {α:Type} {c:AV} {t e:Option α} {r:α} (h:A.cond c t e=some r):(c=.bool true∧t=some r)∨(c=.bool false∧e=some r):=by
 cases c<;>simp only[A.cond]at h<;>first|(cases h;done)|skip
 rename_i b
 cases b
 ·exact .inr ⟨rfl,h⟩
 ·exact .inl ⟨rfl,h⟩
theorem ahj {f:List AV→Heap→Option (AX×List AV×Heap)} {v:List AV} {σ:Heap} {r:AX×List AV×Heap} (h:A.loop f v σ=some r):∃n,A.iter f n v σ=some r:=by
 unfold A.loop at h
 split at h
 ·rename_i hx
  injection h with h
  exact⟨_,h▸Classical.choose_spec (Classical.choose_spec hx)⟩
 ·cases h
theorem afS {R:Type} {f:List AV→Heap→(AX×List AV×Heap→Option R)→Option R} {v:List AV} {σ:Heap} {K:AX×List AV×Heap→Option R} {r:R} (h:A.zS f v σ K=some r):∃n,A.wA f n v σ K=some r:=by
 unfold A.zS at h
 split at h
 ·rename_i hx
  injection h with h
  obtain⟨n,hn⟩:=Classical.choose_spec hx
  exact⟨n,h▸hn n (Nat.le_refl _)⟩
 ·cases h
theorem LK {R:Type} {e:AX} {k:AX→Option R} {r:R}:∀{xs:List AX},A.sel e k xs=some r→k e=some r
 |[],h=>by cases h
 |x::xs,h=>by
  simp only[A.sel]at h
  cases he:(e==x)
  ·rw[he]at h;exact LK h
  ·rw[he]at h
   have:e=x:=by simpa using he
   subst this;exact h
theorem FA {X:Fx} {c:Code} {ds:List Nat} {s s':AS} (h:Fr X ds s s'):∀i,i∉ds++X.L→s'.sl[i]? =s.sl[i]? :=fun i hi=>by
 rw[List.mem_append]at hi
 exact h i (fun e=>hi (.inl e)) (by
  cases hc:X.L.contains i
  ·rfl
  ·exact absurd (List.contains_iff_mem.1 hc) (fun e=>hi (.inr e)))
theorem BC {X:Fx} {s:AS} {ds live:List Nat} {vs:List AV} {σ:Heap} (hl:(live.all fun d=>(ds++X.L).contains d)=true):Fr X ds s (s.meet (ds++X.L) live vs σ):=fun i hi hL=>by
 have hni:i∉ds++X.L:=by
  rw[List.mem_append];rintro(e|e)
  ·exact hi e
  ·rw[List.contains_iff_mem.2 e]at hL;cases hL
 simp only[AS.meet]
 rw[(La vs live 0 (vZ s.sl (ds++X.L)) i).2.1 (fun e=>hni ?_),(Kx (ds++X.L) s.sl i).2.2.1 hni]
 exact List.contains_iff_mem.1 (List.all_eq_true.1 hl i e)
theorem Vx {live:List Nat} {e:AX} {s:AS} {r:List AV×Heap} (h:Mo live e s=some r):e=.normal∧r=(vals s.sl live,s.σ):=by
 cases e<;>simp only[Mo]at h<;>first|(cases h;done)|(injection h with h;exact⟨rfl,h.symm⟩)
theorem YK {P:Program} {c:Code} {Q:Exit→Act→World→Prop} (I:Nat→Act→World→Prop) (round:∀n a w,I n a w→c.wp P (Exit.then (fun a' w'=>∃m,m<n∧I m a' w') Q) a w) {n:Nat} {a:Act} {w:World} (h:I n a w):(Code.loop c).wp P Q a w:=by
 intro b k cs
 have key:∀n a w,I n a w→∃e a' w',Q e a' w'∧Arrives P (lone (b.at a (.code c::.inLoop c::k)) cs w) b k cs e a' w':=by
  intro n
  induction n using Nat.strongRecOn with
  |_ n ih=>
   intro a w hI
   obtain⟨e,a1,w1,hq,Cj⟩:=round n a w hI b (.inLoop c::k) cs
   cases e with
   |normal=>
    obtain⟨m,hlt,hm⟩:=hq
    obtain⟨e2,a2,w2,vK,ama⟩:=ih m hlt a1 w1 hm
    exact⟨e2,a2,w2,vK,.of_steps (Steps.trans Cj (.one step_inLoop)) ama⟩
   |exit id=>exact⟨_,a1,w1,hq,.pass (x:=.inLoop c) rfl (fun _ _=>.inl (by simp)) Cj⟩
   |goto l=>exact⟨_,a1,w1,hq,.pass (x:=.inLoop c) rfl (fun _ _=>.inl (by simp)) Cj⟩
   |ret=>exact⟨_,a1,w1,hq,.pass (x:=.inLoop c) rfl (fun _ _=>.inl (by simp)) Cj⟩
   |panic ch=>exact⟨_,a1,w1,hq,.pass (x:=.inLoop c) rfl (fun _ _=>.inl (by simp)) Cj⟩
   |outgrown=>exact⟨_,a1,w1,hq,.pass (x:=.inLoop c) rfl (fun _ _=>.inl (by simp)) Cj⟩
 obtain⟨e,a',w',hq,Cj⟩:=key n a w h
 exact⟨e,a',w',hq,.of_steps (.one step_loop) Cj⟩
theorem yt (hs:dJ X):∀(c:Code) {R:Type} (bN:mC) (s:AS) (a:Act) (w:World) (E:List Pl) (pb:Nat→Option Nat) (k:AX→AS→Option R) (r:R) (Q:Exit→Act→World→Prop),exec X bN c s k=some r→St X z s a w E pb→
  (∀e s' a' w' E' bL,St X z s' a' w' E' bL→Fr X (eM c) s s'→k e s'=some r→Q e.to a' w')→c.wp X.P Q a w
 |.skip,R,bN,s,a,w,E,pb,k,r,Q,hk,h,hQ=>by
  have hk':k .normal s=some r:=by cases bN<;>simpa [exec]using hk
  exact wp_skip (hQ .normal s a w E pb h (Fr.refl _ _) hk')
 |.label l,R,bN,s,a,w,E,pb,k,r,Q,hk,h,hQ=>by
  have hk':k .normal s=some r:=by cases bN<;>simpa [exec]using hk
  exact wp_label (hQ .normal s a w E pb h (Fr.refl _ _) hk')
 |.exit id,R,bN,s,a,w,E,pb,k,r,Q,hk,h,hQ=>by
  have hk':k (.exit id) s=some r:=by cases bN<;>simpa [exec]using hk
  exact wp_exit (hQ (.exit id) s a w E pb h (Fr.refl _ _) hk')
 |.ret,R,bN,s,a,w,E,pb,k,r,Q,hk,h,hQ=>by
  have hk':k .ret s=some r:=by cases bN<;>simpa [exec]using hk
  exact wp_ret (hQ .ret s a w E pb h (Fr.refl _ _) hk')
 |.region id ops draw,R,bN,s,a,w,E,pb,k,r,Q,hk,h,hQ=>by
  have hk':(bif draw then(bif Hw X ops s.sl then sZ X true ops ops.toList ⟨s.sl,fun _=>none,s.σ⟩ fun s=>k .normal ⟨s.sl,fun _=>none,s.σ⟩else none)else sZ X false ops ops.toList s fun s=>k .normal ⟨s.sl,fun _=>none,s.σ⟩)=some r:=by
   cases bN<;>simpa [exec,force_eq,YV]using hk
  cases draw
  ·simp only[cond_false]at hk'
   refine wp_region ?_
   have:=YU (z:=z) (Q:=Q) (s0:=s) hs ops.toList 0 s a w E pb (fun j=>by simp) h hk' (fun s' a' w' E' bL h' hf hk2=>hQ .normal _ a' w' E' bL h'.TT (fun i hi hL=>hf i (by simpa [eM]using hi) hL) hk2)
   rw[List.range_eq_range']
   simpa using this
  ·simp only[cond_true]at hk'
   cases hok:Hw X ops s.sl
   ·rw[hok]at hk';cases hk'
   ·rw[hok]at hk'
    simp only[cond_true]at hk'
    exact ajC (s:=⟨s.sl,fun _=>none,s.σ⟩) hs hok (fun _=>rfl) (fun s' a' w' E' bL h' hf hk2=>hQ .normal _ a' w' E' bL h'.TT (fun i hi hL=>hf i (by simpa [eM]using hi) hL) hk2) h.TT hk'
 |.seq x y,R,bN,s,a,w,E,pb,k,r,Q,hk,h,hQ=>by
  cases bN<;>simp only[exec]at hk<;>first|(cases hk;done)|skip
  rename_i aa bb
  refine wp_seq (yt hs x aa s a w E pb _ r _ hk h fun e s' a' w' E' bL h' hf hk'=>?_)
  cases e with
  |normal=>exact yt hs y bb s' a' w' E' bL k r Q hk' h' fun e2 s2 a2 w2 E2 TW h2 yW hk2=>hQ e2 s2 a2 w2 E2 TW h2 (by simpa [eM]using hf.trans yW) hk2
  |exit i=>exact hQ (.exit i) s' a' w' E' bL h' (hf.mono fun i hi=>by simp [eM,hi]) hk'
  |ret=>exact hQ .ret s' a' w' E' bL h' (hf.mono fun i hi=>by simp [eM,hi]) hk'
 |.cond c x y,R,bN,s,a,w,E,pb,k,r,Q,hk,h,hQ=>by
  have rc:=eH h c
  cases bN<;>simp only[exec,force_eq]at hk<;>first|(cases hk;done)|skip
  case c live aa bb=>
   cases hl:(live.all fun d=>(eM x++eM y++X.L).contains d)
   ·rw[hl]at hk;cases hk
   ·rw[hl]at hk
    simp only[Bool.not_true,cond_false]at hk
    obtain⟨⟨vs,σ'⟩,h1,h2⟩:=Option.bind_eq_some_iff.1 hk
    rcases Wu h1 with⟨ec,hb⟩|⟨ec,hb⟩
    ·rw[ec]at rc;simp only[ak]at rc
     refine wp_cond_true rc (yt hs x aa s a w E pb _ _ Q hb h fun e s' a' w' E' bL h' hf hk'=>?_)
     obtain⟨rfl,hv⟩:=Vx hk'
     simp only[Prod.mk.injEq]at hv
     obtain⟨rfl,rfl⟩:=hv
     have yW:Fr X (eM x++eM y) s s':=hf.mono fun i hi=>by simp [hi]
     exact hQ .normal _ a' w' E' bL (h'.meet (by rw[h.qI,h'.qI]) (FA (c:=x) yW)) (by simpa [eM]using BC (X:=X) hl) h2
    ·rw[ec]at rc;simp only[ak]at rc
     refine wp_cond_false rc (yt hs y bb s a w E pb _ _ Q hb h fun e s' a' w' E' bL h' hf hk'=>?_)
     obtain⟨rfl,hv⟩:=Vx hk'
     simp only[Prod.mk.injEq]at hv
     obtain⟨rfl,rfl⟩:=hv
     have yW:Fr X (eM x++eM y) s s':=hf.mono fun i hi=>by simp [hi]
     exact hQ .normal _ a' w' E' bL (h'.meet (by rw[h.qI,h'.qI]) (FA (c:=x) yW)) (by simpa [eM]using BC (X:=X) hl) h2
  case j aa bb=>
   rcases Wu hk with⟨ec,hb⟩|⟨ec,hb⟩
   ·rw[ec]at rc;simp only[ak]at rc
    exact wp_cond_true rc (yt hs x aa s a w E pb k r Q hb h fun e s' a' w' E' bL h' hf hk'=>hQ e s' a' w' E' bL h' (hf.mono fun i hi=>by simp [eM,hi]) hk')
   ·rw[ec]at rc;simp only[ak]at rc
    exact wp_cond_false rc (yt hs y bb s a w E pb k r Q hb h fun e s' a' w' E' bL h' hf hk'=>hQ e s' a' w' E' bL h' (hf.mono fun i hi=>by simp [eM,hi]) hk')
 |.block id c,R,bN,s,a,w,E,pb,k,r,Q,hk,h,hQ=>by
  cases bN<;>simp only[exec]at hk<;>first|(cases hk;done)|skip
  rename_i aa
  refine wp_block (yt hs c aa s a w E pb _ r _ hk h fun e s' a' w' E' bL h' hf hk'=>?_)
  cases e with
  |normal=>exact hQ .normal s' a' w' E' bL h' (by simpa [eM]using hf) hk'
  |ret=>exact hQ .ret s' a' w' E' bL h' (by simpa [eM]using hf) hk'
  |exit i=>
   simp only[AX.to,Exit.inBlock]
   simp only at hk'
   by_cases e:i=id
   ·have:(i==id)=true:=by simpa using e
    rw[this]at hk'
    rw[if_pos e]
    exact hQ .normal s' a' w' E' bL h' (by simpa [eM]using hf) hk'
   ·have:(i==id)=false:=by simpa using e
    rw[this]at hk'
    rw[if_neg e]
    exact hQ (.exit i) s' a' w' E' bL h' (by simpa [eM]using hf) hk'
 |.loop c,R,bN,s,a,w,E,pb,k,r,Q,hk,h,hQ=>by
  cases bN<;>simp only[exec,force_eq]at hk<;>first|(cases hk;done)|skip
  case lc live xs aa=>
   cases hl:(live.all fun d=>(eM c++X.L).contains d)
   ·rw[hl]at hk;cases hk
   ·rw[hl]at hk
    simp only[Bool.not_true,cond_false]at hk
    obtain⟨n,hn⟩:=afS hk
    refine YK (fun n a w=>∃vs σ E pb,A.wA (fun vs σ K=>exec X aa c (s.meet (eM c++X.L) live vs σ) fun e s'=>K (e,vals s'.sl live,s'.σ)) n vs σ (fun r=>A.sel r.1 (fun e=>k e (s.meet (eM c++X.L) live r.2.1 r.2.2)) xs)=some r∧St X z (s.meet (eM c++X.L) live vs σ) a w E pb) ?_ (n:=n) ⟨_,_,E,pb,hn,h.meet rfl (fun i _=>rfl)⟩
    rintro n a w ⟨vs,σ,E,pb,hit,hst⟩
    cases n with
    |zero=>cases hit
    |succ n=>
     simp only[A.wA]at hit
     refine yt hs c aa _ a w E pb _ _ _ hit hst fun e s' a' w' E' bL h' hf hk'=>?_
     have hfr:∀i,i∉eM c++X.L→s'.sl[i]? =s.sl[i]? :=fun i hi=>by
      rw[FA (c:=c) hf i hi]
      exact FA (c:=c) (BC (X:=X) (s:=s) (vs:=vs) (σ:=σ) hl) i hi
     have wW:=h'.meet (s:=s) (mods:=eM c++X.L) (live:=live) (by rw[h.qI,h'.qI]) hfr
     cases e with
     |normal=>exact⟨n,Nat.lt_succ_self n,_,_,E',bL,hk',wW⟩
     |exit i=>exact hQ (.exit i) _ a' w' E' bL wW (by simpa [eM]using BC (X:=X) hl) (LK hk')
     |ret=>exact hQ .ret _ a' w' E' bL wW (by simpa [eM]using BC (X:=X) hl) (LK hk')
  rename_i live xs aa
  cases hl:(live.all fun d=>(eM c++X.L).contains d)
  ·rw[hl]at hk;cases hk
  ·rw[hl]at hk
   simp only[Bool.not_true,cond_false]at hk
   obtain⟨⟨e0,CF,aC⟩,h1,h2⟩:=Option.bind_eq_some_iff.1 hk
   have hsel:=LK h2
   obtain⟨n,hn⟩:=ahj h1
   refine YK (fun n a w=>∃vs σ E pb,A.iter (fun vs σ=>exec X aa c (s.meet (eM c++X.L) live vs σ) (leave live)) n vs σ=some (e0,CF,aC)∧St X z (s.meet (eM c++X.L) live vs σ) a w E pb) ?_ (n:=n) ⟨_,_,E,pb,hn,h.meet rfl (fun i _=>rfl)⟩
   rintro n a w ⟨vs,σ,E,pb,hit,hst⟩
   cases n with
   |zero=>cases hit
   |succ n=>
    simp only[A.iter]at hit
    obtain⟨⟨e1,vs1,σ1⟩,g1,g2⟩:=Option.bind_eq_some_iff.1 hit
    refine yt hs c aa _ a w E pb _ _ _ g1 hst fun e s' a' w' E' bL h' hf hk'=>?_
    simp only[leave,Option.some.injEq,Prod.mk.injEq]at hk'
    obtain⟨rfl,rfl,rfl⟩:=hk'
    have hfr:∀i,i∉eM c++X.L→s'.sl[i]? =s.sl[i]? :=fun i hi=>by
     rw[FA (c:=c) hf i hi]
     exact FA (c:=c) (BC (X:=X) (s:=s) (vs:=vs) (σ:=σ) hl) i hi
    have wW:=h'.meet (s:=s) (mods:=eM c++X.L) (live:=live) (by rw[h.qI,h'.qI]) hfr
    cases e with
    |normal=>exact⟨n,Nat.lt_succ_self n,_,_,E',bL,g2,wW⟩
    |exit i=>
     simp only[Option.some.injEq,Prod.mk.injEq]at g2
     obtain⟨rfl,rfl,rfl⟩:=g2
     exact hQ (.exit i) _ a' w' E' bL wW (by simpa [eM]using BC (X:=X) hl) hsel
    |ret=>
     simp only[Option.some.injEq,Prod.mk.injEq]at g2
     obtain⟨rfl,rfl,rfl⟩:=g2
     exact hQ .ret _ a' w' E' bL wW (by simpa [eM]using BC (X:=X) hl) hsel
 |.rangeFunc ..,R,bN,s,a,w,E,pb,k,r,Q,hk,h,hQ=>by cases bN<;>simp [exec]at hk
 |.scope _,R,bN,s,a,w,E,pb,k,r,Q,hk,h,hQ=>by cases bN<;>simp [exec]at hk
 |.goto _,R,bN,s,a,w,E,pb,k,r,Q,hk,h,hQ=>by cases bN<;>simp [exec]at hk
 |.refuse _,R,bN,s,a,w,E,pb,k,r,Q,hk,h,hQ=>by cases bN<;>simp [exec]at hk
end
end
section
open Go.RowKit
section
variable {X : Fx} {z : Z} {s : AS} {a : Act} {w w' : World} {E : List Pl} {pb : Nat → Option Nat}
def Ay (tmps:Array Value):ResultVar→Sem Value
 |.tmp t=>pure (tmps.getD t undef)
 |.cell a t=>do loadVar t (←asAddr (tmps.getD a undef))
theorem Qk (h:St X z s a w E pb) {R:Type}:∀(rs:List ResultVar) (k:List AV→Option R) (r:R),Ax X s rs k=some r→∃vs nu,(rs.mapM (Ay a.tmps)).run X.P w=.ok vs w∧aI (ctx z w E pb) nu vs∧k nu=some r
 |[],k,r,hk=>⟨[],[],by simp,by simp [aI],hk⟩
 |.tmp t::rs,k,r,hk=>by
  simp only[Ax]at hk
  obtain⟨vs,nu,h1,h2,h3⟩:=Qk h rs _ r hk
  refine⟨a.tmps.getD t undef::vs,ev X s (.tmp t)::nu,?_,by simp only[aI];exact⟨_,_,rfl,eH h (.tmp t),h2⟩,h3⟩
  simp only[List.mapM_cons,Sem.run_bind,Ay,Sem.run_pure,Result.andThen_ok,h1]
 |.cell q t::rs,k,r,hk=>by
  simp only[Ax]at hk
  have fin:∀(v:Value) (av:AV),(Ay a.tmps (.cell q t)).run X.P w=.ok v w→ak (ctx z w E pb) av v→Ax X s rs (fun vs=>k (av::vs))=some r→∃vs nu,((ResultVar.cell q t::rs).mapM (Ay a.tmps)).run X.P w=.ok vs w∧aI (ctx z w E pb) nu vs∧k nu=some r:=by
   intro v av hv hr hk
   obtain⟨vs,nu,h1,h2,h3⟩:=Qk h rs _ r hk
   refine⟨v::vs,av::nu,?_,by simp only[aI];exact⟨_,_,rfl,hr,h2⟩,h3⟩
   simp only[List.mapM_cons,Sem.run_bind,hv,Sem.run_pure,Result.andThen_ok,h1]
  split at hk
  ·rename_i b off hp
   obtain⟨av,e1,e2⟩:=Option.bind_eq_some_iff.1 hk
   obtain⟨cs,e3,e4⟩:=Option.bind_eq_some_iff.1 e1
   obtain⟨n,k1,k2,k3,k4⟩:=Fg h (tag:=none) trivial hp e3
   obtain⟨v,j1,j2⟩:=KW (c:=ctx z w E pb) w X rfl k3.2 e4
   rw[Nat.zero_add]at j1
   simp only[Act.eval]at k2
   exact fin v av (by simp [Ay,k2,asAddr,j1]) j2 e2
  ·obtain⟨av,e1,e2⟩:=Option.bind_eq_some_iff.1 hk
   obtain⟨cs,e3,e4⟩:=Option.bind_eq_some_iff.1 e1
   obtain⟨b,off,k2,k3⟩:=Wv h.heap e3 (eH h (.tmp q))
   obtain⟨v,j1,j2⟩:=KW (c:=ctx z w E pb) w X rfl k3 e4
   rw[Nat.add_zero]at j1
   simp only[Act.eval]at k2
   exact fin v av (by simp [Ay,k2,asAddr,j1]) j2 e2
theorem afe {P:Program} {fn:Func} {tmps:Array Value} {vs:List Value} (h:(fn.results.toList.mapM (Ay tmps)).run P w=.ok vs w):∃v,(results fn tmps).run P w=.ok v w∧∀(c:RC) (nu:List AV),aI c nu vs→ak c (one nu) v:=by
 have e:results fn tmps=(do let vs ←fn.results.mapM (Ay tmps);pure (if h:vs.size=1 then vs[0]else .tuple vs)):=by
  unfold results
  congr 1
 have hm:(fn.results.mapM (Ay tmps)).run P w=.ok vs.toArray w:=by
  rw[Array.mapM_eq_mapM_toList,Sem.run_map,h];rfl
 have hrun:(results fn tmps).run P w=.ok (if h:vs.toArray.size=1 then vs.toArray[0]else .tuple vs.toArray) w:=by
  rw[e,Sem.run_bind,hm];rfl
 refine⟨_,hrun,fun c nu r=>?_⟩
 match nu,vs,r with
 |[x],[v],r=>simp only[aI]at r;obtain⟨v',_,e',r1,rfl⟩:=r;injection e' with e1 _;subst e1;simpa [one]using r1
 |[],[],r=>simp only[one,ak];exact⟨#[],by simp,by simp [aI]⟩
 |x::y::xs,v::u::us,r=>simp only[one,ak];exact⟨(v::u::us).toArray,by simp,by simpa using r⟩
 |[_],_::_::_,r=>exact absurd r.length (by simp)
 |_::_::_,[_],r=>exact absurd r.length (by simp)
 |[],_::_,r=>exact absurd r.length (by simp)
 |_::_,[],r=>exact absurd r.length (by simp)
end
section
variable {c c' : RC} {σ : Heap} {n : Nat}
structure wE (c c' : RC) (σ : Heap) (n : Nat) : Prop where
 w:c'.w=c.w
 nm:c'.nm=c.nm
 X:∀b,c'.X b→c.X b
 E:∀(id:Nat) (p:Pl),id<n→c.E[id]? =some p→c'.E[id]? =some p
 heap:iu c σ
 MM:∀(id:Nat) (p:Pl),n≤id→c.E[id]? =some p→¬c'.X p.b
theorem Qe (d:Nat):∀(l l':List AV),A.eO σ n d l=some l'→l'.length=l.length
 |[],l',e=>by simp only[A.eO]at e;injection e with e;subst e;rfl
 |x::l,l',e=>by
  simp only[A.eO]at e
  obtain⟨y,h1,h2⟩:=Option.bind_eq_some_iff.1 e
  obtain⟨l2,h3,rfl⟩:=Option.map_eq_some_iff.1 h2
  simp [Qe d l l2 h3]
theorem Hl (d:Nat):∀(l l':List (List AV)),A.jh σ n d l=some l'→l'.length=l.length
 |[],l',e=>by simp only[A.jh]at e;injection e with e;subst e;rfl
 |x::l,l',e=>by
  simp only[A.jh]at e
  obtain⟨y,h1,h2⟩:=Option.bind_eq_some_iff.1 e
  obtain⟨l2,h3,rfl⟩:=Option.map_eq_some_iff.1 h2
  simp [Hl d l l2 h3]
theorem Fj (d:Nat):∀(l:List (List AV)),A.HN σ n d l=A.jh σ n d l
 |[]=>by simp [A.jh,A.HN]
 |x::l=>by simp [A.jh,A.HN,Fj d l]
def Dm:AV→Bool
 |.os ..=>true
 |.op ..=>true
 |.oe ..=>true
 |.om ..=>true
 |_=>false
theorem L3 (d:Nat):∀(l:List AV),A.tN σ n d l=A.eO σ n d l
 |[]=>by simp [A.eO,A.tN]
 |x::l=>by simp [A.eO,A.tN,L3 d l]
theorem YE (d:Nat):∀(l:List (AV×AV)),A.BV σ n d l=A.pJ σ n d l
 |[]=>by simp [A.pJ,A.BV]
 |(k,v)::l=>by simp [A.pJ,A.BV,YE d l]
theorem ajN (d:Nat) (m:Int) (s:ByteArray):A.bw σ n d (.agg [.int .i64 m,.str s])=some (.agg [.int .i64 m,.str s]):=by
 cases d<;>simp [A.bw,A.eO]
theorem WI {d:Nat}:∀{es es':List (AV×AV)},(∀p∈es,∃m s,p.1=.agg [.int .i64 m,.str s])→A.pJ σ n d es=some es'→es'.map (·.1)=es.map (·.1)
 |[],es',_,h=>by simp only[A.pJ]at h;injection h with h;subst h;rfl
 |(k,v)::r,es',hk,h=>by
  simp only[A.pJ]at h
  obtain⟨m,s,e⟩:=hk (k,v) List.mem_cons_self
  simp only at e
  subst e
  rw[ajN]at h
  simp only[Option.bind_some]at h
  obtain⟨v',h1,h2⟩:=Option.bind_eq_some_iff.1 h
  obtain⟨r',h3,rfl⟩:=Option.map_eq_some_iff.1 h2
  simp only[List.map_cons,WI (fun p hp=>hk p (List.mem_cons_of_mem _ hp)) h3]
theorem ag7 {d:Nat} {es es':List (AV×AV)} (hd:FQ es) (h:A.pJ σ n d es=some es'):FQ es':=by
 have e:=WI hd.1 h
 refine⟨fun p hp=>?_,by rw[e];exact hd.2⟩
 have:p.1∈es.map (·.1):=by rw[←e];exact List.mem_map_of_mem hp
 obtain⟨q,hq,e2⟩:=List.mem_map.1 this
 rw[←e2]
 exact hd.1 q hq
mutual
theorem FB (h:wE c c' σ n) (d:Nat) (hos:∀av cS v,Dm av=true→A.bw σ n d av=some cS→ak c av v→ak c' cS v):∀(av cS:AV) (v:Value),A.bw σ n d av=some cS→ak c av v→ak c' cS v
 |.undef,cS,v,e,r=>by cases d<;>simp [A.bw]at e
 |.int k m,cS,v,e,r=>by
  have:cS=.int k m:=by cases d<;>simpa [A.bw]using e.symm
  subst this;simpa [ak]using r
 |.bool b,cS,v,e,r=>by
  have:cS=.bool b:=by cases d<;>simpa [A.bw]using e.symm
  subst this;simpa [ak]using r
 |.str s,cS,v,e,r=>by
  have:cS=.str s:=by cases d<;>simpa [A.bw]using e.symm
  subst this;simpa [ak]using r
 |.au,cS,v,e,r=>by
  have:cS=.au:=by cases d<;>simpa [A.bw]using e.symm
  subst this;simpa [ak]using r
 |.ez,cS,v,e,r=>by
  have:cS=.ez:=by cases d<;>simpa [A.bw]using e.symm
  subst this;simpa [ak]using r
 |.np,cS,v,e,r=>by
  have:cS=.np:=by cases d<;>simpa [A.bw]using e.symm
  subst this;simpa [ak]using r
 |.nm,cS,v,e,r=>by
  have:cS=.nm:=by cases d<;>simpa [A.bw]using e.symm
  subst this;simpa [ak]using r
 |.yZ,cS,v,e,r=>by
  have:cS=.yZ:=by cases d<;>simpa [A.bw]using e.symm
  subst this;simpa [ak]using r
 |.agg cs,cS,v,e,r=>by
  have e':(A.eO σ n d cs).map .agg=some cS:=by cases d<;>simpa [A.bw]using e
  obtain⟨cs',h1,rfl⟩:=Option.map_eq_some_iff.1 e'
  simp only[ak]at r ⊢
  obtain⟨vs,e,r1,r2⟩:=r
  exact⟨vs,e,Fk h d hos cs cs' _ h1 r1,r2⟩
 |.aH cs,cS,v,e,r=>by
  have e':(A.eO σ n d cs).map .aH=some cS:=by cases d<;>simpa [A.bw]using e
  obtain⟨cs',h1,rfl⟩:=Option.map_eq_some_iff.1 e'
  simp only[ak]at r ⊢
  obtain⟨vs,e,r1⟩:=r
  exact⟨vs,e,Fk h d hos cs cs' _ h1 r1⟩
 |.sl sz es,cS,v,e,r=>by
  have e':(A.jh σ n d es).map (.sl sz)=some cS:=by cases d<;>simpa [A.bw]using e
  obtain⟨es',h1,rfl⟩:=Option.map_eq_some_iff.1 e'
  simp only[ak]at r ⊢
  obtain⟨q,cap,e,k1,k2,r⟩:=r
  have hl:es'.length=es.length:=Hl d es es' h1
  refine⟨q,cap,by rw[hl];exact e,by rw[hl];exact k1,k2,?_⟩
  rcases r with r|⟨b,off,e2,hb,hx,r⟩
  ·left;subst r;simpa using hl
  ·right;exact⟨b,off,e2,by rw[h.w];exact hb,fun k=>hx (h.X b k),Hr h d hos sz b es es' off h1 r⟩
 |.rp cs,cS,v,e,r=>by
  have e':(A.eO σ n d cs).map .rp=some cS:=by cases d<;>simpa [A.bw]using e
  obtain⟨cs',h1,rfl⟩:=Option.map_eq_some_iff.1 e'
  simp only[ak]at r ⊢
  obtain⟨b,off,e2,hb,hx,r⟩:=r
  exact⟨b,off,e2,by rw[h.w];exact hb,fun k=>hx (h.X b k),Fi h d hos b cs cs' off h1 r⟩
 |.fm es,cS,v,e,r=>by
  have e':(A.pJ σ n d es).map .fm=some cS:=by cases d<;>simpa [A.bw]using e
  obtain⟨es',h1,rfl⟩:=Option.map_eq_some_iff.1 e'
  simp only[ak]at r ⊢
  obtain⟨b,e2,hb,hx,bn,clock,k1,kw,l,k2,k3⟩:=r
  exact⟨b,e2,by rw[h.w];exact hb,fun k=>hx (h.X b k),bn,clock,by rw[h.w];exact k1,kw,l,LD h d hos es es' _ h1 k2,k3.imp_right fun q=>⟨q.1,ag7 q.2 h1⟩⟩
 |.op id off,cS,v,e,r=>hos _ cS v rfl e r
 |.oe id g i off,cS,v,e,r=>hos _ cS v rfl e r
 |.om id,cS,v,e,r=>hos _ cS v rfl e r
 |.fn f cs,cS,v,e,r=>by
  have e':(A.eO σ n d cs).map (.fn f)=some cS:=by cases d<;>simpa [A.bw]using e
  obtain⟨cs',h1,rfl⟩:=Option.map_eq_some_iff.1 e'
  simp only[ak]at r ⊢
  obtain⟨g,vs,e,k,r1⟩:=r
  exact⟨g,vs,e,by rw[h.nm];exact k,Fk h d hos cs cs' _ h1 r1⟩
 |.lbx cs,cS,v,e,r=>by cases d<;>simp [A.bw]at e
 |.os id g sz off len,cS,v,e,r=>hos _ cS v rfl e r
theorem Fk (h:wE c c' σ n) (d:Nat) (hos:∀av cS v,Dm av=true→A.bw σ n d av=some cS→ak c av v→ak c' cS v):∀(l l':List AV) (vs:List Value),A.eO σ n d l=some l'→aI c l vs→aI c' l' vs
 |[],l',vs,e,r=>by simp only[A.eO]at e;injection e with e;subst e;simpa [aI]using r
 |x::l,l',vs,e,r=>by
  simp only[A.eO]at e
  obtain⟨y,h1,h2⟩:=Option.bind_eq_some_iff.1 e
  obtain⟨l2,h3,rfl⟩:=Option.map_eq_some_iff.1 h2
  simp only[aI]at r ⊢
  obtain⟨v,vs',e,r1,r2⟩:=r
  exact⟨v,vs',e,FB h d hos x y v h1 r1,Fk h d hos l l2 vs' h3 r2⟩
theorem LD (h:wE c c' σ n) (d:Nat) (hos:∀av cS v,Dm av=true→A.bw σ n d av=some cS→ak c av v→ak c' cS v):∀(l l':List (AV×AV)) (es:List MapEntry),A.pJ σ n d l=some l'→cA c l es→cA c' l' es
 |[],l',es,e,r=>by simp only[A.pJ]at e;injection e with e;subst e;simpa [cA]using r
 |(k,v)::l,l',es,e,r=>by
  simp only[A.pJ]at e
  obtain⟨k',h1,h2⟩:=Option.bind_eq_some_iff.1 e
  obtain⟨v',h3,h4⟩:=Option.bind_eq_some_iff.1 h2
  obtain⟨l2,h5,rfl⟩:=Option.map_eq_some_iff.1 h4
  simp only[cA]at r ⊢
  obtain⟨x,es',e,r1,r2,r3⟩:=r
  exact⟨x,es',e,FB h d hos k k' _ h1 r1,FB h d hos v v' _ h3 r2,LD h d hos l l2 es' h5 r3⟩
theorem Fi (h:wE c c' σ n) (d:Nat) (hos:∀av cS v,Dm av=true→A.bw σ n d av=some cS→ak c av v→ak c' cS v) (b:Nat):∀(l l':List AV) (off:Nat),A.eO σ n d l=some l'→bu c b off l→bu c' b off l'
 |[],l',off,e,r=>by simp only[A.eO]at e;injection e with e;subst e;simp [bu]
 |x::l,l',off,e,r=>by
  simp only[A.eO]at e
  obtain⟨y,h1,h2⟩:=Option.bind_eq_some_iff.1 e
  obtain⟨l2,h3,rfl⟩:=Option.map_eq_some_iff.1 h2
  simp only[bu]at r ⊢
  obtain⟨⟨v,e1,e2,r1⟩,r2⟩:=r
  exact⟨⟨v,by rw[h.w];exact e1,e2,FB h d hos x y v h1 r1⟩,Fi h d hos b l l2 (off+1) h3 r2⟩
theorem Hr (h:wE c c' σ n) (d:Nat) (hos:∀av cS v,Dm av=true→A.bw σ n d av=some cS→ak c av v→ak c' cS v) (sz b:Nat):∀(l l':List (List AV)) (off:Nat),A.jh σ n d l=some l'→bA c sz b off l→bA c' sz b off l'
 |[],l',off,e,r=>by simp only[A.jh]at e;injection e with e;subst e;simp [bA]
 |x::l,l',off,e,r=>by
  simp only[A.jh]at e
  obtain⟨y,h1,h2⟩:=Option.bind_eq_some_iff.1 e
  obtain⟨l2,h3,rfl⟩:=Option.map_eq_some_iff.1 h2
  simp only[bA]at r ⊢
  exact⟨by rw[Qe d x y h1];exact r.1,Fi h d hos b x y off h1 r.2.1,Hr h d hos sz b l l2 (off+sz) h3 r.2.2⟩
end
structure xq (c0 c c' : RC) : Prop where
 w:c'.w=c.w
 nm:c'.nm=c.nm
 X:∀b,c'.X b→c.X b
 E:∀(id:Nat) (p0 p:Pl),c0.E[id]? =some p0→c.E[id]? =some p→c'.E[id]? =some p
mutual
theorem Fv {c0 c c':RC} (h:xq c0 c c'):∀(av:AV) (v0 v:Value),ak c0 av v0→ak c av v→ak c' av v
 |.undef,v0,v,r0,r=>by simp [ak]
 |.int k m,v0,v,r0,r=>by simpa [ak]using r
 |.bool b,v0,v,r0,r=>by simpa [ak]using r
 |.str s,v0,v,r0,r=>by simpa [ak]using r
 |.au,v0,v,r0,r=>by simpa [ak]using r
 |.ez,v0,v,r0,r=>by simpa [ak]using r
 |.np,v0,v,r0,r=>by simpa [ak]using r
 |.nm,v0,v,r0,r=>by simpa [ak]using r
 |.fm es,v0,v,r0,r=>by
  simp only[ak]at r0 r ⊢
  obtain⟨_,_,_,_,_,_,_,_,_,r0,_⟩:=r0
  obtain⟨b,e,hb,hx,bn,clock,k1,kw,l,k2,k3⟩:=r
  exact⟨b,e,by rw[h.w];exact hb,fun k=>hx (h.X b k),bn,clock,by rw[h.w];exact k1,kw,l,Ly h es _ _ r0 k2,k3⟩
 |.yZ,v0,v,r0,r=>by simpa [ak]using r
 |.agg cs,v0,v,r0,r=>by
  simp only[ak]at r0 r ⊢
  obtain⟨CF,_,Ew,_⟩:=r0
  obtain⟨vs,e,r1,r2⟩:=r
  exact⟨vs,e,Lx h cs _ _ Ew r1,r2⟩
 |.aH cs,v0,v,r0,r=>by
  simp only[ak]at r0 r ⊢
  obtain⟨CF,_,Ew⟩:=r0
  obtain⟨vs,e,r1⟩:=r
  exact⟨vs,e,Lx h cs _ _ Ew r1⟩
 |.sl sz es,v0,v,r0,r=>by
  simp only[ak]at r0 r ⊢
  obtain⟨_,_,_,_,_,r0⟩:=r0
  obtain⟨q,cap,e,k1,k2,r⟩:=r
  refine⟨q,cap,e,k1,k2,?_⟩
  rcases r with r|⟨b,off,e2,hb,hx,r⟩
  ·exact .inl r
  ·rcases r0 with r0|⟨b0,rX,_,_,_,r0⟩
   ·exact .inl r0
   ·exact .inr ⟨b,off,e2,by rw[h.w];exact hb,fun k=>hx (h.X b k),Lw h sz b0 b es rX off r0 r⟩
 |.rp cs,v0,v,r0,r=>by
  simp only[ak]at r0 r ⊢
  obtain⟨b0,rX,_,_,_,r0⟩:=r0
  obtain⟨b,off,e2,hb,hx,r⟩:=r
  exact⟨b,off,e2,by rw[h.w];exact hb,fun k=>hx (h.X b k),Hq h b0 b cs rX off r0 r⟩
 |.op id off,v0,v,r0,r=>by
  simp only[ak]at r0 r ⊢
  obtain⟨p0,e0,_⟩:=r0
  obtain⟨p,e1,e2,e3⟩:=r
  exact⟨p,h.E id p0 p e0 e1,e2,e3⟩
 |.oe id g i off,v0,v,r0,r=>by
  simp only[ak]at r0 r ⊢
  obtain⟨_,p0,e0,_⟩:=r0
  obtain⟨hg,p,e1,e2⟩:=r
  exact⟨hg,p,h.E id p0 p e0 e1,e2⟩
 |.os id g sz off len,v0,v,r0,r=>by
  simp only[ak]at r0 r ⊢
  obtain⟨_,p0,e0,_⟩:=r0
  obtain⟨hg,p,e1,e2⟩:=r
  exact⟨hg,p,h.E id p0 p e0 e1,e2⟩
 |.om id,v0,v,r0,r=>by
  simp only[ak]at r0 r ⊢
  obtain⟨p0,e0,_⟩:=r0
  obtain⟨p,e1,e2,e3⟩:=r
  exact⟨p,h.E id p0 p e0 e1,e2,e3⟩
 |.fn f cs,v0,v,r0,r=>by
  simp only[ak]at r0 r ⊢
  obtain⟨_,_,_,_,r0⟩:=r0
  obtain⟨g,vs,e1,e2,r⟩:=r
  exact⟨g,vs,e1,by rw[h.nm];exact e2,Lx h cs _ _ r0 r⟩
 |.lbx cs,v0,v,r0,r=>by simp [ak]at r
theorem Lx {c0 c c':RC} (h:xq c0 c c'):∀(l:List AV) (CF vs:List Value),aI c0 l CF→aI c l vs→aI c' l vs
 |[],CF,vs,r0,r=>by simpa [aI]using r
 |x::l,CF,vs,r0,r=>by
  simp only[aI]at r0 r ⊢
  obtain⟨v0,us0,_,Ew,TY⟩:=r0
  obtain⟨v,us,e,r1,r2⟩:=r
  exact⟨v,us,e,Fv h x _ _ Ew r1,Lx h l _ _ TY r2⟩
theorem Ly {c0 c c':RC} (h:xq c0 c c'):∀(l:List (AV×AV)) (jv es:List MapEntry),cA c0 l jv→cA c l es→cA c' l es
 |[],jv,es,r0,r=>by simpa [cA]using r
 |(k,v)::l,jv,es,r0,r=>by
  simp only[cA]at r0 r ⊢
  obtain⟨e0,anE,_,k1,k2,k3⟩:=r0
  obtain⟨e,es',e1,j1,j2,j3⟩:=r
  exact⟨e,es',e1,Fv h k _ _ k1 j1,Fv h v _ _ k2 j2,Ly h l anE es' k3 j3⟩
theorem Hq {c0 c c':RC} (h:xq c0 c c') (b0 b:Nat):∀(l:List AV) (rX off:Nat),bu c0 b0 rX l→bu c b off l→bu c' b off l
 |[],rX,off,r0,r=>by simp [bu]
 |x::l,rX,off,r0,r=>by
  simp only[bu]at r0 r ⊢
  obtain⟨⟨v0,_,_,Ew⟩,TY⟩:=r0
  obtain⟨⟨v,e1,e2,r1⟩,r2⟩:=r
  exact⟨⟨v,by rw[h.w];exact e1,e2,Fv h x _ _ Ew r1⟩,Hq h b0 b l _ _ TY r2⟩
theorem Lw {c0 c c':RC} (h:xq c0 c c') (sz b0 b:Nat):∀(l:List (List AV)) (rX off:Nat),bA c0 sz b0 rX l→bA c sz b off l→bA c' sz b off l
 |[],rX,off,r0,r=>by simp [bA]
 |x::l,rX,off,r0,r=>by
  simp only[bA]at r0 r ⊢
  exact⟨r.1,Hq h b0 b x _ _ r0.2.1 r.2.1,Lw h sz b0 b l _ _ r0.2.2 r.2.2⟩
end
theorem Lv {c0 c c':RC} (h:xq c0 c c') {p0 p:Pl} {x:aJ} (k0:oU c0 p0 x) (k:oU c p x):oU c' p x:=by
 cases x with
 |box cs=>
  obtain⟨h1,⟨⟨arr,t,h2,h3⟩,h4⟩⟩:=k
  exact⟨h1,⟨arr,t,by rw[h.w];exact h2,h3⟩,Hq h _ _ cs _ _ k0.2.2 h4⟩
 |arr g sz es=>
  obtain⟨h1,h2,h3,h4,⟨arr,t,h5,h6⟩,h7,h8,h9⟩:=k
  obtain⟨_,_,_,_,_,_,k8,_⟩:=k0
  exact⟨h1,h2,h3,h4,⟨arr,t,by rw[h.w];exact h5,h6⟩,h7,Lw h sz _ _ es _ _ k8 h8,fun arr t fz e=>h9 arr t fz (by rw[←h.w];exact e)⟩
 |sW g sz es=>
  obtain⟨h1,h2,h3,h4,⟨arr,t,h5,h6⟩,h7,h8,h9⟩:=k
  obtain⟨_,_,_,_,_,_,k8,_⟩:=k0
  exact⟨h1,h2,h3,h4,⟨arr,t,by rw[h.w];exact h5,h6⟩,h7,Lw h sz _ _ es _ _ k8 h8,fun arr t fz e=>h9 arr t fz (by rw[←h.w];exact e)⟩
 |map es=>
  obtain⟨h1,bn,clock,h2,hw,h3⟩:=k
  obtain⟨_,_,_,_,_,k3⟩:=k0
  exact⟨h1,bn,clock,by rw[h.w];exact h2,hw,Ly h es _ _ k3 h3⟩
 |it cur left=>
  obtain⟨h1,h2⟩:=k
  obtain⟨_,k2⟩:=k0
  refine⟨h1,?_⟩
  rcases h2 with⟨h2,h2',since,seen,last,h3⟩|⟨m,seen,bn,clock,h3,h4,h5,h6,h7,h8,h9⟩
  ·exact .inl ⟨h2,h2',since,seen,last,by rw[h.w];exact h3⟩
  ·rcases k2 with⟨q1,q2,_⟩|⟨m0,apB,apw,apu,q3,q4,q5,q6,q7,q8,q9⟩
   ·refine .inr ⟨m,seen,bn,clock,by rw[h.w];exact h3,by rw[h.w];exact h4,fun k=>h5 (h.X m k),by rw[h.w];exact h6,h7,by rw[q2]at h8 ⊢;exact h8,.inl q1⟩
   ·refine .inr ⟨m,seen,bn,clock,by rw[h.w];exact h3,by rw[h.w];exact h4,fun k=>h5 (h.X m k),by rw[h.w];exact h6,h7,(by obtain⟨l0,q8,_⟩:=q8;obtain⟨l,h8,hp⟩:=h8;exact⟨l,Ly h left _ _ q8 h8,hp⟩),?_⟩
    rcases h9 with h9|⟨kk,v,e,e1,e2,e3,e4,e5⟩
    ·exact .inl h9
    ·rcases q9 with q9|⟨kk',v',e',f1,f2,f3,f4,f5⟩
     ·exact .inl q9
     ·rw[e1]at f1
      simp only[List.cons.injEq,Prod.mk.injEq,and_true]at f1
      obtain⟨rfl,rfl⟩:=f1
      exact .inr ⟨_,_,e,e1,e2,e3,Fv h _ _ _ f4 e4,Fv h _ _ _ f5 e5⟩
def anH:aJ→Nat
 |.arr g _ _=>g
 |.sW g _ _=>g
 |_=>0
theorem Qu {c:RC} {p:Pl} {x:aJ} (k:oU c p x):p.g=anH x:=by cases x<;>exact k.1
theorem Yy {c0 c c':RC} (h:xq c0 c c') (sz b:Nat):∀(l:List (List AV)) (off:Nat),(∀y∈l,∃b0 o0,bu c0 b0 o0 y)→bA c sz b off l→bA c' sz b off l
 |[],off,h0,r=>by simp [bA]
 |x::l,off,h0,r=>by
  simp only[bA]at r ⊢
  obtain⟨b0,o0,k⟩:=h0 x (by simp)
  exact⟨r.1,Hq h b0 b x _ _ k r.2.1,Yy h sz b l _ (fun y hy=>h0 y (by simp [hy])) r.2.2⟩
theorem Yc {c:RC}:∀{args:List AV} {vs:List Value},aI c args vs→∀y∈A.rowsOf args,∃b0 o0,bu c b0 o0 y
 |[],_,_,y,hy=>by simp [A.rowsOf]at hy
 |a::args,vs,h,y,hy=>by
  simp only[aI]at h
  obtain⟨v,vs',rfl,h1,h2⟩:=h
  simp only[A.rowsOf,List.mem_append]at hy
  rcases hy with hy|hy
  ·cases a<;>simp only[List.not_mem_nil]at hy
   rename_i sz es
   simp only[ak]at h1
   obtain⟨a,cap,rfl,_,_,h3⟩:=h1
   rcases h3 with h3|⟨b,off,_,_,_,h4⟩
   ·rw[h3]at hy;cases hy
   ·obtain⟨i,hi⟩:=List.mem_iff_getElem?.1 hy
    exact⟨_,_,(bA.nth h4 hi).2⟩
  ·exact Yc h2 y hy
theorem yu (h:wE c c' σ n):∀(d:Nat) (av cS:AV) (v:Value),A.bw σ n d av=some cS→ak c av v→ak c' cS v
 |0=>FB h 0 (fun av cS v ho e r=>by cases av<;>first|(simp [A.bw]at e;done)|(simp [Dm]at ho;done))
 |d+1=>FB h (d+1) (fun av cS v ho e r=>match av,ho,e,r with
  |.op id off,_,e,r=>by
   simp only[A.bw]at e
   simp only[ak]at r
   obtain⟨p,h1,h2,rfl⟩:=r
   split at e
   ·rename_i hlt
    injection e with e;subst e
    simp only[ak]
    exact⟨p,h.E id p hlt h1,h2,rfl⟩
   ·rename_i hge
    split at e
    ·rename_i cs hs
     obtain⟨cs',e1,rfl⟩:=Option.map_eq_some_iff.1 e
     rw[L3]at e1
     obtain⟨j1,⟨⟨arr,t,j2,j3⟩,j4⟩⟩:=h.heap.blk id p _ h1 hs
     simp only[ak]
     refine⟨p.b,off,rfl,by rw[h.w];exact(Array.getElem?_eq_some_iff.1 j2).1,h.MM id p (by omega) h1,?_⟩
     have j5:=j4.drop off
     rw[Nat.zero_add]at j5
     exact Fi h d (fun av cS v _ e r=>yu h d _ _ _ e r) p.b _ cs' _ e1 j5
    ·cases e
  |.oe id g i off,_,e,r=>by
   simp only[A.bw]at e
   simp only[ak]at r
   obtain⟨hg,p,h1,h2,a,rfl,h3⟩:=r
   split at e
   ·rename_i hlt
    injection e with e;subst e
    simp only[ak]
    exact⟨hg,p,h.E id p hlt h1,h2,a,rfl,h3⟩
   ·rename_i hge
    split at e
    ·rename_i g' sz' es hs
     split at e
     ·rename_i hc
      subst hc
      split at e
      ·rename_i el hel
       obtain⟨cs',e1,rfl⟩:=Option.map_eq_some_iff.1 e
       rw[L3]at e1
       obtain⟨j1,j2,j3,j4,⟨arr,bt,j5,j6⟩,j7,j8,j9⟩:=h.heap.blk id p _ h1 hs
       have ha:=h3 j1.symm
       subst ha
       simp only[ak]
       refine⟨p.b,_,rfl,by rw[h.w];exact(Array.getElem?_eq_some_iff.1 j5).1,h.MM id p (by omega) h1,?_⟩
       rw[j3]
       have j9:=(j8.nth hel).2.drop off
       exact Fi h d (fun av cS v _ e r=>yu h d _ _ _ e r) p.b _ cs' _ e1 j9
      ·cases e
     ·cases e
    ·cases e
  |.om id,_,e,r=>by
   simp only[A.bw]at e
   simp only[ak]at r
   obtain⟨p,h1,h2,rfl⟩:=r
   split at e
   ·rename_i hlt
    injection e with e;subst e
    simp only[ak]
    exact⟨p,h.E id p hlt h1,h2,rfl⟩
   ·rename_i hge
    split at e
    ·rename_i es hs
     obtain⟨es',e1,rfl⟩:=Option.map_eq_some_iff.1 e
     rw[YE]at e1
     obtain⟨j1,bn,clock,j2,jw,j3⟩:=h.heap.blk id p _ h1 hs
     simp only[ak]
     exact⟨p.b,rfl,by rw[h.w];exact(Array.getElem?_eq_some_iff.1 j2).1,h.MM id p (by omega) h1,bn,clock,by rw[h.w];exact j2,jw,_,LD h d (fun av cS v _ e r=>yu h d _ _ _ e r) _ es' _ e1 j3,.inl rfl⟩
    ·cases e
  |.os id g sz off len,_,e,r=>by
   simp only[A.bw]at e
   simp only[ak]at r
   obtain⟨hg,p,h1,h2,q,cap,rfl,h3,r⟩:=r
   split at e
   ·rename_i hlt
    injection e with e;subst e
    simp only[ak]
    exact⟨hg,p,h.E id p hlt h1,h2,q,cap,rfl,h3,r⟩
   ·rename_i hge
    split at e
    ·rename_i g' sz' es hs
     split at e
     ·rename_i hc
      obtain⟨rfl,rfl,hle⟩:=hc
      obtain⟨es',e1,rfl⟩:=Option.map_eq_some_iff.1 e
      rw[Fj]at e1
      obtain⟨j1,j2,j3,j4,⟨arr,bt,j5,j6⟩,j7,j8,j9⟩:=h.heap.blk id p _ h1 hs
      obtain⟨k1,k2,k3⟩:=r j1.symm
      have hl:=Hl d _ _ e1
      have uA:((es.drop off).take len).length=len:=by simp;omega
      simp only[ak]
      refine⟨some q,cap,by rw[hl,uA],by rw[hl,uA];exact h3,j4,?_⟩
      by_cases hz:len=0
      ·left;apply List.eq_nil_of_length_eq_zero;rw[hl,uA,hz]
      ·right
       have hq:q=⟨p.b,p.base+off*p.sz,none⟩:=by
        rcases k2 with k2|k2
        ·omega
        ·exact k2
       refine⟨p.b,p.base+off*p.sz,by rw[hq],by rw[h.w];exact(Array.getElem?_eq_some_iff.1 j5).1,h.MM id p (by omega) h1,?_⟩
       refine Hr h d (fun av cS v _ e r=>yu h d _ _ _ e r) sz p.b _ es' _ e1 ?_
       rw[j3]
       exact(j8.drop off).take len
     ·cases e
    ·cases e)
end
section
variable {c c' : RC} {σ : Heap} {n : Nat}
theorem ahz {es es':List (AV×AV)} (hp:es.Perm es'):∀{l:List MapEntry},cA c es l→∃l',cA c es' l'∧l'.Perm l:=by
 induction hp with
 |nil=>intro l h;exact⟨l,h,.refl _⟩
 |cons x _ ih=>
  intro l h
  obtain⟨e,l1,rfl,h2,h3,h4⟩:=h
  obtain⟨l',k1,k2⟩:=ih h4
  exact⟨e::l',⟨_,_,rfl,h2,h3,k1⟩,k2.cons e⟩
 |swap x y l0=>
  intro l h
  obtain⟨e,l1,rfl,h2,h3,e',l2,rfl,h4,h5,h6⟩:=h
  exact⟨e'::e::l2,⟨_,_,rfl,h4,h5,_,_,rfl,h2,h3,h6⟩,.swap _ _ _⟩
 |trans _ _ ih1 ih2=>
  intro l h
  obtain⟨l1,k1,k2⟩:=ih1 h
  obtain⟨l2,k3,k4⟩:=ih2 k1
  exact⟨l2,k3,k4.trans k2⟩
theorem PN (es:List (AV×AV)):(A.yL es).Perm es:=Classical.choose_spec (p:=fun l:List (AV×AV)=>l.Perm es) ⟨es,.refl _⟩
theorem Wt {es es':List (AV×AV)} (h:es.Perm es'):A.yL es=A.yL es':=by
 have:(fun l:List (AV×AV)=>l.Perm es)=fun l=>l.Perm es':=funext fun l=>propext ⟨fun q=>q.trans h,fun q=>q.trans h.symm⟩
 unfold A.yL
 congr 1
theorem ajp {x:AV} {v:Value} (r:ak c x v):ak c (A.can x) v:=by
 cases x<;>try exact r
 case fm es=>
  unfold A.can
  simp only
  split
  ·rename_i hd
   simp only[ak]at r ⊢
   obtain⟨b,e,hb,hx,bn,clock,k1,kw,l,k2,k3⟩:=r
   have hp:=PN es
   obtain⟨l',j1,j2⟩:=ahz hp.symm k2
   refine⟨b,e,hb,hx,bn,clock,k1,kw,l',j1,.inr ⟨?_,?_⟩⟩
   ·rcases k3 with rfl|⟨k3,_⟩
    ·exact j2
    ·exact j2.trans k3
   ·exact⟨fun p hp'=>hd.1 p (hp.mem_iff.1 hp'),(hp.map _).nodup_iff.2 hd.2⟩
  ·exact r
theorem PK {b:Nat}:∀{l:List AV} {off:Nat},bu c b off l→bu c b off (l.map A.can)
 |[],off,_=>by simp [bu]
 |x::l,off,r=>by
  simp only[List.map_cons,bu]at r ⊢
  obtain⟨⟨v,h1,h2,h3⟩,h4⟩:=r
  exact⟨⟨v,h1,h2,ajp h3⟩,PK h4⟩
theorem PL {sz b:Nat}:∀{l:List (List AV)} {off:Nat},bA c sz b off l→bA c sz b off (l.map (·.map A.can))
 |[],off,_=>by simp [bA]
 |x::l,off,r=>by
  simp only[List.map_cons,bA,List.length_map]at r ⊢
  exact⟨r.1,PK r.2.1,PL r.2.2⟩
theorem aip (h:wE c c' σ n) {p:Pl} {x x':aJ} (e:A.Ch σ n x=some x') (k:oU c p x):oU c' p x':=by
 have hos:∀av cS v,Dm av=true→A.bw σ n 8 av=some cS→ak c av v→ak c' cS v:=fun av cS v _ e r=>yu h 8 _ _ _ e r
 cases x with
 |box cs=>
  obtain⟨cs',e1,rfl⟩:=Option.map_eq_some_iff.1 e
  obtain⟨h1,⟨⟨arr,t,h2,h3⟩,h4⟩⟩:=k
  exact⟨h1,⟨arr,t,by rw[h.w];exact h2,by rw[List.length_map,Qe 8 _ _ e1];exact h3⟩,PK (Fi h 8 hos _ _ _ _ e1 h4)⟩
 |arr g sz es=>
  obtain⟨es',e1,rfl⟩:=Option.map_eq_some_iff.1 e
  obtain⟨h1,h2,h3,h4,⟨arr,t,h5,h6⟩,h7,h8,h9⟩:=k
  exact⟨h1,h2,h3,h4,⟨arr,t,by rw[h.w];exact h5,h6⟩,by rw[List.length_map,Hl 8 _ _ e1];exact h7,PL (Hr h 8 hos _ _ _ _ _ e1 h8),fun arr t fz e=>h9 arr t fz (by rw[←h.w];exact e)⟩
 |sW g sz es=>
  obtain⟨es',e1,rfl⟩:=Option.map_eq_some_iff.1 e
  obtain⟨h1,h2,h3,h4,⟨arr,t,h5,h6⟩,h7,h8,h9⟩:=k
  exact⟨h1,h2,h3,h4,⟨arr,t,by rw[h.w];exact h5,h6⟩,by rw[List.length_map,Hl 8 _ _ e1];exact h7,PL (Hr h 8 hos _ _ _ _ _ e1 h8),fun arr t fz e=>h9 arr t fz (by rw[←h.w];exact e)⟩
 |map es=>
  obtain⟨es',e1,rfl⟩:=Option.map_eq_some_iff.1 e
  obtain⟨h1,bn,clock,h2,hwf,h3⟩:=k
  exact⟨h1,bn,clock,by rw[h.w];exact h2,hwf,LD h 8 hos _ _ _ e1 h3⟩
 |it cur left=>cases e
theorem WE {n:Nat}:∀{Nz NA τ:Heap},A.ve σ n Nz NA=some τ→τ.length=Nz.length∧Nz.length≤NA.length∧∀(i:Nat) x,τ[i]? =some x→∃b b',Nz[i]? =some b∧NA[i]? =some b'∧((b'=b∧x=b)∨A.Ch σ n b'=some x)
 |[],NA,τ,h=>by simp only[A.ve]at h;injection h with h;subst h;simp
 |_::_,[],τ,h=>by simp [A.ve]at h
 |b::r,b'::r',τ,h=>by
  simp only[A.ve]at h
  obtain⟨y,h1,h2⟩:=Option.bind_eq_some_iff.1 h
  obtain⟨JR,h3,rfl⟩:=Option.map_eq_some_iff.1 h2
  obtain⟨k1,k2,k3⟩:=WE h3
  refine⟨by simp [k1],by simp;omega,fun i x hi=>?_⟩
  cases i with
  |zero=>
   simp only[List.getElem?_cons_zero,Option.some.injEq]at hi
   subst hi
   refine⟨b,b',rfl,rfl,?_⟩
   split at h1
   ·rename_i e
    injection h1 with h1
    exact .inl ⟨e,h1.symm⟩
   ·exact .inr h1
  |succ i=>exact k3 i x hi
end
section
variable {X : Fx}
def qF.Ok:qF→Prop
 |.N g=>∀c a v,ak c a v→ak c (g a) v
 |_=>True
theorem CX (hs:dJ X) {f:FuncId} {fn:Func} {keep:qF} (hkeep:keep.Ok) {bN:mC} {args:List AV} {σ σ':Heap} {r:AV} (hf:X.P.funcs[f]? =some fn) (amb:∀cM w,(callFunc f cM).run X.P w=.ok (.enter f cM) w)
  (hr:qM X keep bN fn args σ=some (r,σ')):mX X.P X.nm f args σ r σ':=by
 refine .inl ⟨f,amb,fun z vs hnm hlt hh ha=>?_⟩
 unfold qM at hr
 cases hb:fn.body with
 |none=>rw[hb]at hr;cases hr
 |some c=>
  rw[hb]at hr
  simp only at hr
  cases hc:(Nat.ble args.length fn.ntmps&&X.n==fn.ntmps)
  ·rw[hc]at hr;cases hr
  ·rw[hc]at hr
   simp only[Bool.not_true,cond_false]at hr
   simp only[Bool.and_eq_true,beq_iff_eq]at hc
   obtain⟨hc1,uz⟩:=hc
   have hle:args.length≤fn.ntmps:=Nat.le_of_ble_eq_true hc1
   have Gt:=ha.length
   have apF:args.length=vs.size:=by simpa using Gt
   have hst:St X z ⟨args++List.replicate (fn.ntmps-args.length) (.aH []),fun _=>none,σ⟩ {tmps:=vs++Array.replicate (fn.ntmps-vs.size) undef,defers:=[]} z.w z.E cK:=by
    have aar:∀i av,(args++List.replicate (fn.ntmps-args.length) (.aH []))[i]? =some av→ak (ctx z z.w z.E cK) av ((vs++Array.replicate (fn.ntmps-vs.size) undef).getD i undef):=by
     intro i av hi
     by_cases hlt':i<args.length
     ·rw[List.getElem?_append_left hlt']at hi
      obtain⟨v,k1,k2⟩:=ha.nth hi
      have:(vs++Array.replicate (fn.ntmps-vs.size) undef).getD i undef=v:=by
       rw[Array.getD_eq_getD_getElem?,Array.getElem?_append_left (by omega),←Array.getElem?_toList,k1];rfl
      rw[this];exact k2
     ·rw[List.getElem?_append_right (by omega)]at hi
      have hm:=List.mem_of_getElem? hi
      rw[List.mem_replicate]at hm
      rw[hm.2]
      have:(vs++Array.replicate (fn.ntmps-vs.size) undef).getD i undef=undef:=by
       rw[Array.getD_eq_getD_getElem?,Array.getElem?_append_right (by omega),Array.getElem?_replicate]
       split<;>rfl
      rw[this]
      simp only[ak];exact⟨#[],rfl,by simp [aI]⟩
    refine⟨by simp;omega,by simp;omega,fun i av hi=>Slot.of (aar i av hi),fun i cs hi=>?_,(fun t p hp=>by cases hp),(fun i b hb=>by cases hb),(fun i j b hb=>by cases hb),hh,rfl,?_,hnm.symm⟩
    ·have:=aar i _ hi;simp [ak]at this
    ·exact⟨rfl,rfl,rfl,Nat.le_refl _,fun _ _ _=>rfl,fun i p hp=>.inr ⟨p,hp,rfl⟩,fun i p hp=>⟨p,hp,.inl rfl⟩,hlt,fun p hp=>hh.lt hp⟩
   refine calls_of_wp hf hb (yt hs c bN _ _ _ _ _ _ _ _ hr hst fun e s' a' w' E' bL h' _ hk=>?_)
   have hno:Ext (ctx z w' E' bL) (ctx z w' E' cK):=Ext.same rfl rfl (fun b k=>by
    rcases k with k|k|⟨i,k⟩
    ·exact .inl k
    ·exact .inr (.inl k)
    ·cases k) rfl
   have aaR:∀(x:AV) (v:Value) (r:AV) (σ':Heap),ak (ctx z w' E' bL) x v→A.fin σ x s'.σ=some (r,σ')→∃jO,Out z w' jO∧iu (ctx z w' jO cK) σ'∧ak (ctx z w' jO cK) r v:=by
     intro x v r σ' rv k3
     unfold A.fin at k3
     split at k3
     ·rename_i he
      simp only[Option.some.injEq,Prod.mk.injEq]at k3
      obtain⟨rfl,rfl⟩:=k3
      exact⟨E',h'.out,by rw[←he];exact h'.heap.mono hno rfl (fun p hp=>rfl),ak.mono hno _ _ rv⟩
     ·split at k3
      ·rename_i he
       obtain⟨r',k6,k7⟩:=Option.map_eq_some_iff.1 k3
       simp only[Prod.mk.injEq]at k7
       obtain⟨rfl,rfl⟩:=k7
       have hlen:=h'.heap.len
       simp only[ctx]at hlen
       have hzl:z.E.length=σ.length:=hh.len
       have hle2:σ.length≤s'.σ.length:=by
        have:=congrArg List.length he
        simp at this;omega
       have qU:∀(id:Nat) (p:Pl),id<σ.length→E'[id]? =some p→(E'.take σ.length)[id]? =some p:=fun id p hlt' hp=>by rw[List.getElem?_take_of_lt hlt'];exact hp
       have pK:∀(id:Nat) (p:Pl),(E'.take σ.length)[id]? =some p→id<σ.length∧E'[id]? =some p:=fun id p hp=>by
        rw[List.getElem?_take]at hp
        split at hp
        ·exact⟨by assumption,hp⟩
        ·cases hp
       have sR:wE (ctx z w' E' bL) (ctx z w' (E'.take σ.length) cK) s'.σ σ.length:=by
        refine⟨rfl,rfl,fun b k=>?_,qU,h'.heap,fun id p hge hp k=>?_⟩
        ·rcases k with k|⟨p,hp,k⟩|⟨i,k⟩
         ·exact .inl k
         ·exact .inr (.inl ⟨p,List.mem_of_mem_take hp,k⟩)
         ·cases k
        ·rcases k with k|⟨q,hq,k⟩|⟨i,k⟩
         ·have hb:=hlt _ k
          rcases h'.out.fresh' id p hp with e|⟨q,hq,_⟩
          ·omega
          ·rw[List.getElem?_eq_none (by omega)]at hq;cases hq
         ·obtain⟨j,hj,rfl⟩:=List.mem_iff_getElem.1 hq
          obtain⟨h1,h2⟩:=pK j _ (List.getElem?_eq_getElem hj)
          have:=h'.heap.inj j id _ p h2 hp k
          omega
         ·cases k
       have heq:∀(id:Nat),id<σ.length→σ[id]? =s'.σ[id]? :=fun id hlt'=>by
        have h1:(List.take σ.length s'.σ)[id]? =s'.σ[id]? :=List.getElem?_take_of_lt hlt'
        rw[he]at h1;exact h1
       have held:xq (ctx z z.w z.E cK) (ctx z w' E' bL) (ctx z w' (E'.take σ.length) cK):=
        ⟨rfl,rfl,sR.X,fun id p0 p e0 e1=>qU id p (by have:=(List.getElem?_eq_some_iff.1 e0).1;simp only[ctx]at this;omega) e1⟩
       refine⟨E'.take σ.length,?_,?_,yu sR 8 _ _ _ k6 rv⟩
       ·have o:=h'.out
        exact⟨o.os,o.tape,o.output,o.size,o.stay,fun i p hp=>o.fresh' i p (pK i p hp).2,fun i p hp=>by
         obtain⟨p',m1,m2⟩:=o.env i p hp
         exact⟨p',qU i p' (by have:=(List.getElem?_eq_some_iff.1 hp).1;omega) m1,m2⟩,o.lt,o.mine⟩
       ·refine⟨by simp only[ctx,List.length_take];omega,fun i j p q hp hq e=>h'.heap.inj i j p q (pK i p hp).2 (pK j q hq).2 e,fun i p x hp hx=>?_⟩
        obtain⟨hi,hp2⟩:=pK i p hp
        have eY:z.E[i]? =some z.E[i]:=List.getElem?_eq_getElem (by omega)
        exact Lv held (hh.blk i _ x eY hx) (h'.heap.blk i p x hp2 (by rw[←heq i hi];exact hx))
      ·cases k3
   have Ao:∀(x:AV) (v:Value) (r:AV) (σ':Heap),ak (ctx z w' E' bL) x v→A.Ao σ x s'.σ=some (r,σ')→∃jO,Out z w' jO∧iu (ctx z w' jO cK) σ'∧ak (ctx z w' jO cK) r v:=by
     intro x v r σ' rv k3
     unfold A.Ao at k3
     obtain⟨τ,q0,k4⟩:=Option.bind_eq_some_iff.1 k3
     obtain⟨r',k6,k7⟩:=Option.map_eq_some_iff.1 k4
     simp only[Prod.mk.injEq]at k7
     obtain⟨rfl,rfl⟩:=k7
     obtain⟨q1,hle2,q3⟩:=WE q0
     have hlen:=h'.heap.len
     simp only[ctx]at hlen
     have hzl:z.E.length=σ.length:=hh.len
     have qU:∀(id:Nat) (p:Pl),id<σ.length→E'[id]? =some p→(E'.take σ.length)[id]? =some p:=fun id p hlt' hp=>by rw[List.getElem?_take_of_lt hlt'];exact hp
     have pK:∀(id:Nat) (p:Pl),(E'.take σ.length)[id]? =some p→id<σ.length∧E'[id]? =some p:=fun id p hp=>by
      rw[List.getElem?_take]at hp
      split at hp
      ·exact⟨by assumption,hp⟩
      ·cases hp
     have sR:wE (ctx z w' E' bL) (ctx z w' (E'.take σ.length) cK) s'.σ σ.length:=by
      refine⟨rfl,rfl,fun b k=>?_,qU,h'.heap,fun id p hge hp k=>?_⟩
      ·rcases k with k|⟨p,hp,k⟩|⟨i,k⟩
       ·exact .inl k
       ·exact .inr (.inl ⟨p,List.mem_of_mem_take hp,k⟩)
       ·cases k
      ·rcases k with k|⟨q,hq,k⟩|⟨i,k⟩
       ·have hb:=hlt _ k
        rcases h'.out.fresh' id p hp with e|⟨q,hq,_⟩
        ·omega
        ·rw[List.getElem?_eq_none (by omega)]at hq;cases hq
       ·obtain⟨j,hj,rfl⟩:=List.mem_iff_getElem.1 hq
        obtain⟨h1,h2⟩:=pK j _ (List.getElem?_eq_getElem hj)
        have:=h'.heap.inj j id _ p h2 hp k
        omega
       ·cases k
     have held:xq (ctx z z.w z.E cK) (ctx z w' E' bL) (ctx z w' (E'.take σ.length) cK):=
      ⟨rfl,rfl,sR.X,fun id p0 p e0 e1=>qU id p (by have:=(List.getElem?_eq_some_iff.1 e0).1;simp only[ctx]at this;omega) e1⟩
     refine⟨E'.take σ.length,?_,?_,yu sR 8 _ _ _ k6 rv⟩
     ·have o:=h'.out
      exact⟨o.os,o.tape,o.output,o.size,o.stay,fun i p hp=>o.fresh' i p (pK i p hp).2,fun i p hp=>by
       obtain⟨p',m1,m2⟩:=o.env i p hp
       exact⟨p',qU i p' (by have:=(List.getElem?_eq_some_iff.1 hp).1;omega) m1,m2⟩,o.lt,o.mine⟩
     ·refine⟨by simp only[ctx,List.length_take];omega,fun i j p q hp hq e=>h'.heap.inj i j p q (pK i p hp).2 (pK j q hq).2 e,fun i p x hp hx=>?_⟩
      obtain⟨hi,hp2⟩:=pK i p hp
      obtain⟨b,b',m1,m2,m3⟩:=q3 i x hx
      rcases m3 with⟨rfl,rfl⟩|m3
      ·have eY:z.E[i]? =some z.E[i]:=List.getElem?_eq_getElem (by omega)
       exact Lv held (hh.blk i _ x eY m1) (h'.heap.blk i p x hp2 m2)
      ·exact aip sR m3 (h'.heap.blk i p b' hp2 m2)
   have done:∀(hk:Ax X s' fn.results.toList (fun vs=>keep.run args σ (one vs) s'.σ)=some (r,σ')),
     a'.defers=[]∧∃v,(results fn a'.tmps).run X.P w'=.ok v w'∧∃v' E',Ending.returned v=.returned v'∧Out z w' E'∧iu (ctx z w' E' cK) σ'∧ak (ctx z w' E' cK) r v':=by
    intro hk
    refine⟨h'.defers,?_⟩
    obtain⟨us,nu,k1,k2,k3⟩:=Qk h' _ _ _ hk
    obtain⟨v,k4,k5⟩:=afe k1
    have rv:=k5 _ _ k2
    refine⟨v,k4,v,?_⟩
    have kept:∃E',Ending.returned v=.returned v∧Out z w' E'∧iu (ctx z w' E' cK) s'.σ∧ak (ctx z w' E' cK) (one nu) v:=
     ⟨E',rfl,h'.out,h'.heap.mono hno rfl (fun p hp=>rfl),ak.mono hno _ _ rv⟩
    cases keep with
    |K=>
     simp only[qF.run,Option.some.injEq,Prod.mk.injEq]at k3
     obtain⟨rfl,rfl⟩:=k3
     exact kept
    |F=>
     obtain⟨jO,q1,q2,q3⟩:=aaR _ _ _ _ rv k3
     exact⟨jO,rfl,q1,q2,q3⟩
    |G=>
     obtain⟨jO,q1,q2,q3⟩:=Ao _ _ _ _ rv k3
     exact⟨jO,rfl,q1,q2,q3⟩
    |N g=>
     simp only[qF.run]at k3
     obtain⟨⟨r0,aC⟩,k6,k7⟩:=Option.map_eq_some_iff.1 k3
     simp only[Prod.mk.injEq]at k7
     obtain⟨rfl,rfl⟩:=k7
     obtain⟨jO,q1,q2,q3⟩:=aaR _ _ _ _ rv k6
     exact⟨jO,rfl,q1,q2,hkeep _ _ _ q3⟩
    |R=>
     simp only[qF.run]at k3
     obtain⟨x,hx⟩:∃x,x=one nu:=⟨_,rfl⟩
     rw[←hx]at rv k3 kept
     unfold A.renew at k3
     split at k3
     ·rename_i id g sz off len
      split at k3
      ·rename_i g' sz' es hs'
       split at k3
       ·rename_i hc
        obtain⟨rfl,rfl,hle,apK⟩:=hc
        simp only[ak]at rv
        obtain⟨hg,p,e1,e2,qa,cp,rfl,hcap,rx⟩:=rv
        obtain⟨j1,j2,j3,j4,⟨arr,bt,j5,j6⟩,j7,j8,j9⟩:=h'.heap.blk id p _ e1 hs'
        obtain⟨q1,q2,q3⟩:=rx j1.symm
        have hid:id<E'.length:=(List.getElem?_eq_some_iff.1 e1).1
        have mL:((es.drop off).take len).length=len:=by simp;omega
        have hmul:(off+len)*sz≤es.length*sz:=Nat.mul_le_mul_right _ hle
        rw[Nat.add_mul]at hmul
        split at k3
        ·simp only[Option.some.injEq,Prod.mk.injEq]at k3
         obtain⟨rfl,rfl⟩:=k3
         have nA:=h'.move (id:=id) (p:=p) (p':=⟨p.b,p.base+off*sz,A.gen args+1,sz,p.qP⟩) (w':=w') (blk:=.arr (A.gen args+1) sz ((es.drop off).take len)) e1
          ⟨by omega,by show p.g<A.gen args+1;omega⟩ rfl rfl rfl (Nat.le_refl _) (fun b _ _=>rfl) (.inl rfl) (fun hx=>by
           refine⟨rfl,by show 0<A.gen args+1;omega,rfl,j4,⟨arr,bt,j5,j6⟩,?_,?_,j9⟩
           ·rw[mL];show p.base+off*sz+len*sz≤p.qP;omega
           ·exact bA.mono hx sz p.b rfl _ _ ((j8.drop off).take len))
         have anZ:Ext (ctx z w' (E'.set id ⟨p.b,p.base+off*sz,A.gen args+1,sz,p.qP⟩) bL) (ctx z w' (E'.set id ⟨p.b,p.base+off*sz,A.gen args+1,sz,p.qP⟩) cK):=Ext.same rfl rfl (fun b k=>by
          rcases k with k|k|⟨i,k⟩
          ·exact .inl k
          ·exact .inr (.inl k)
          ·cases k) rfl
         refine⟨_,rfl,nA.1.out,nA.1.heap.mono anZ rfl (fun p hp=>rfl),?_⟩
         simp only[ak]
         refine⟨by omega,⟨p.b,p.base+off*sz,A.gen args+1,sz,p.qP⟩,by simp [ctx,hid],Nat.le_refl _,qa,cp,rfl,hcap,fun _=>⟨rfl,?_,?_⟩⟩
         ·rcases q2 with q2|q2
          ·exact .inl q2
          ·exact .inr (by rw[q2,q1];simp)
         ·simp only[Nat.zero_add]
          rw[q1,Nat.add_mul]at q3;omega
        ·unfold A.merge at k3
         split at k3
         ·rename_i kj g0 SI rX Sz rest _ _ _
          split at k3
          ·rename_i g1 Bd xC hs0
           split at k3
           ·rename_i FU
            obtain⟨apI,apy,rfl,hg1,hsame,hF,an5⟩:=FU
            simp only[Option.some.injEq,Prod.mk.injEq]at k3
            obtain⟨rfl,rfl⟩:=k3
            have hzl:z.E.length=σ.length:=hh.len
            have hEl:E'.length=s'.σ.length:=h'.heap.len
            have anU:kj<σ.length:=(List.getElem?_eq_some_iff.1 hs0).1
            obtain⟨pz,Gz⟩:∃pz,z.E[kj]? =some pz:=⟨_,List.getElem?_eq_getElem (by omega)⟩
            obtain⟨y1,y2,y3,y4,y5,y6,y7,y8⟩:=hh.blk kj pz _ Gz hs0
            obtain⟨p'',wU⟩:∃p'':Pl,p''=⟨p.b,p.base+off*Bd,A.gen (.os kj g0 SI rX Sz::rest)+1,Bd,p.qP⟩:=⟨_,rfl⟩
            have hne:id≠kj:=by omega
            have aao:∀(j:Nat) (q p2:Pl),j≠kj→z.E[j]? =some q→E'[j]? =some p2→p2=q:=by
             intro j q p2 hj hq hp2
             have hjl:j<σ.length:=by rw[←hzl];exact(List.getElem?_eq_some_iff.1 hq).1
             obtain⟨p3,m1,m2⟩:=h'.out.env j q hq
             rw[hp2]at m1;injection m1 with m1;subst m1
             rcases m2 with m2|⟨m2,m3⟩
             ·exact m2
             ·have hsj:=hsame j hjl hj
              have hx0:σ[j]? =some σ[j]:=List.getElem?_eq_getElem hjl
              have u1:=Qu (hh.blk j q _ hq hx0)
              have u2:=Qu (h'.heap.blk j p2 _ hp2 (by rw[hsj];exact hx0))
              omega
            have yX:∃p0,E'[kj]? =some p0:=⟨_,List.getElem?_eq_getElem (by omega)⟩
            obtain⟨p0,yX⟩:=yX
            have apM:p0.g=g1:=Qu (h'.heap.blk kj p0 _ yX hF)
            have hfr:z.w.heap.size≤p.b:=by
             rcases h'.out.fresh' id p e1 with k|⟨q,hq,_⟩
             ·exact k
             ·rw[List.getElem?_eq_none (by omega)]at hq;cases hq
            have hm:p∈E':=List.mem_of_getElem? e1
            have hx:Ext (ctx z w' E' bL) (ctx z w' (E'.set kj p'') cK):=by
             refine⟨Nat.le_refl _,fun b hb hn=>⟨rfl,?_⟩,fun j q hq=>?_,rfl⟩
             ·rintro(k|⟨q,hq,k⟩|⟨i,k⟩)
              ·exact hn (.inl k)
              ·rcases List.mem_or_eq_of_mem_set hq with hq|hq
               ·exact hn (.inr (.inl ⟨q,hq,k⟩))
               ·exact hn (.inr (.inl ⟨p,hm,by rw[←k,hq,wU]⟩))
              ·cases k
             ·by_cases e:kj=j
              ·subst e
               simp only[ctx]at hq
               rw[yX]at hq;injection hq with hq;subst hq
               exact⟨p'',by simp only[ctx];rw[List.getElem?_set_self (List.getElem?_eq_some_iff.1 yX).1],.inr ⟨by omega,by rw[wU];show p0.g<A.gen (.os kj g0 SI rX Sz::rest)+1;omega⟩⟩
              ·exact⟨q,by simp only[ctx]at hq ⊢;rw[List.getElem?_set_ne e];exact hq,.inl rfl⟩
            have IZ:∀(j:Nat) (q:Pl),(z.E.set kj p'')[j]? =some q→(j=kj∧q=p'')∨(j≠kj∧z.E[j]? =some q):=fun j q hq=>by
             by_cases e:kj=j
             ·subst e;rw[List.getElem?_set_self (List.getElem?_eq_some_iff.1 Gz).1]at hq;injection hq with hq;exact .inl ⟨rfl,hq.symm⟩
             ·rw[List.getElem?_set_ne e]at hq;exact .inr ⟨fun e'=>e e'.symm,hq⟩
            have hE3:∀(j:Nat) (q:Pl),j≠kj→z.E[j]? =some q→E'[j]? =some q:=fun j q hj hq=>by
             have hjl:j<z.E.length:=(List.getElem?_eq_some_iff.1 hq).1
             obtain⟨p3,m1,_⟩:=h'.out.env j q hq
             rw[m1,aao j q p3 hj hq m1]
            have held:xq (ctx z z.w z.E cK) (ctx z w' (E'.set kj p'') cK) (ctx z w' (z.E.set kj p'') cK):=by
             refine⟨rfl,rfl,fun b k=>?_,fun j q0 q TF hq=>?_⟩
             ·rcases k with k|⟨q,hq,k⟩|⟨i,k⟩
              ·exact .inl k
              ·obtain⟨j,hj⟩:=List.mem_iff_getElem?.1 hq
               rcases IZ j q hj with⟨e3,e4⟩|⟨e3,e4⟩
               ·subst e3;exact .inr (.inl ⟨q,List.mem_of_getElem? (i:=j) (by rw[List.getElem?_set_self (List.getElem?_eq_some_iff.1 yX).1,e4]),k⟩)
               ·exact .inr (.inl ⟨q,List.mem_of_getElem? (i:=j) (by rw[List.getElem?_set_ne (fun e=>e3 e.symm)];exact hE3 j q e3 e4),k⟩)
              ·cases k
             ·simp only[ctx]at TF hq ⊢
              by_cases e:kj=j
              ·subst e
               rw[List.getElem?_set_self (List.getElem?_eq_some_iff.1 yX).1]at hq
               rw[List.getElem?_set_self (List.getElem?_eq_some_iff.1 Gz).1];exact hq
              ·rw[List.getElem?_set_ne e]at hq ⊢
               rw[aao j q0 q (fun e'=>e e'.symm) TF hq];exact TF
            refine⟨z.E.set kj p'',rfl,?_,?_,?_⟩
            ·have o:=h'.out
             refine⟨o.os,o.tape,o.output,o.size,o.stay,fun j q hq=>?_,fun j q hq=>?_,o.lt,o.mine⟩
             ·rcases IZ j q hq with⟨e3,e4⟩|⟨e3,e4⟩
              ·left;rw[e4,wU];exact hfr
              ·exact .inr ⟨q,e4,rfl⟩
             ·by_cases e:kj=j
              ·subst e
               rw[Gz]at hq;injection hq with hq;subst hq
               exact⟨p'',List.getElem?_set_self (List.getElem?_eq_some_iff.1 Gz).1,.inr ⟨by omega,by rw[wU];show pz.g<A.gen (.os kj g0 SI rX Sz::rest)+1;omega⟩⟩
              ·exact⟨q,by rw[List.getElem?_set_ne e];exact hq,.inl rfl⟩
            ·refine⟨by simp [ctx,hzl],fun i j q r hq hr he=>?_,fun i q x hq ct=>?_⟩
             ·have aaV:∀(j:Nat) (q:Pl),z.E[j]? =some q→q.b<z.w.heap.size:=fun j q hq=>hh.lt (p:=q) (List.mem_of_getElem? hq)
              rcases IZ i q hq with⟨e3,e4⟩|⟨e3,e4⟩<;>rcases IZ j r hr with⟨e5,e6⟩|⟨e5,e6⟩
              ·rw[e3,e5]
              ·have:=aaV j r e6;rw[e4,wU]at he;simp only at he;omega
              ·have:=aaV i q e4;rw[e6,wU]at he;simp only at he;omega
              ·exact hh.inj i j q r e4 e6 he
             ·rcases IZ i q hq with⟨e3,e4⟩|⟨e3,e4⟩
              ·subst e3
               rw[List.getElem?_set_self anU]at ct
               injection ct with ct
               subst ct;subst e4;subst wU
               refine⟨rfl,Nat.succ_pos _,rfl,j4,⟨arr,bt,j5,j6⟩,?_,?_,j9⟩
               ·rw[mL];show p.base+off*Bd+len*Bd≤p.qP;omega
               ·refine Yy held Bd p.b _ _ (fun y hy=>?_) (bA.mono hx Bd p.b rfl _ _ ((j8.drop off).take len))
                rcases an5 y hy with k|k
                ·obtain⟨i,hi⟩:=List.mem_iff_getElem?.1 k
                 exact⟨_,_,(bA.nth y7 hi).2⟩
                ·exact Yc ha y k
              ·rw[List.getElem?_set_ne (fun e=>e3 e.symm)]at ct
               have hil:i<σ.length:=(List.getElem?_eq_some_iff.1 ct).1
               exact Lv held (hh.blk i q x e4 ct) ((h'.heap.blk i q x (hE3 i q e3 e4) (by rw[hsame i hil e3];exact ct)).mono hx rfl)
            ·simp only[ak]
             refine⟨Nat.succ_pos _,p'',by simp only[ctx];exact List.getElem?_set_self (List.getElem?_eq_some_iff.1 Gz).1,by rw[wU];exact Nat.le_refl _,qa,cp,by rw[mL],by rw[mL];exact hcap,fun _=>⟨by rw[wU],?_,?_⟩⟩
             ·rcases q2 with q2|q2
              ·exact .inl q2
              ·exact .inr (by rw[q2,q1,wU];simp)
             ·rw[wU]
              simp only[Nat.zero_add]
              rw[q1,Nat.add_mul]at q3;omega
           ·cases k3
          ·cases k3
         ·cases k3
       ·cases k3
      ·cases k3
     ·simp only[Option.some.injEq,Prod.mk.injEq]at k3
      obtain⟨rfl,rfl⟩:=k3
      exact kept
     ·simp only[Option.some.injEq,Prod.mk.injEq]at k3
      obtain⟨rfl,rfl⟩:=k3
      exact kept
     ·simp only[Option.some.injEq,Prod.mk.injEq]at k3
      obtain⟨rfl,rfl⟩:=k3
      exact kept
     ·cases k3
   cases e with
   |normal=>exact done hk
   |ret=>exact done hk
   |exit i=>cases hk
end
end
section
open Go.RowKit
inductive Sh where
 |k
 |s (sz:Nat)
 |e (sz:Nat) (l:List Sh)
 |a (l:List Sh)
 |t (l:List Sh)
 |p (l:List Sh)
namespace A
mutual
def nn:Sh→AV→AV
 |.k,v=>v
 |.s sz,v=>match v with|.au=>.sl sz []|.ez=>.sl sz []|v=>v
 |.e sz l,v=>match v with|.au=>.sl sz []|.ez=>.sl sz []|.sl sz' es=>.sl sz' (es.map (bW l))|v=>v
 |.a l,v=>match v with|.agg cs=>.agg (bW l cs)|v=>v
 |.t l,v=>match v with|.aH vs=>.aH (bW l vs)|v=>v
 |.p l,v=>match v with|.rp cs=>.rp (bW l cs)|v=>v
def bW:List Sh→List AV→List AV
 |[],vs=>vs
 |s::ss,vs=>match vs with|[]=>[]|v::vs=>nn s v::bW ss vs
end
def SB:AV→Bool
 |.os ..=>true
 |.op ..=>true
 |.oe ..=>true
 |.om ..=>true
 |_=>false
def own:AV→Bool
 |.agg cs=>cs.any SB
 |v=>SB v
def vi:AV→Bool
 |.int ..=>true
 |.bool ..=>true
 |.str ..=>true
 |.np=>true
 |.au=>true
 |.ez=>true
 |.nm=>true
 |.yZ=>true
 |.sl _ []=>true
 |_=>false
def tP:AV→Bool
 |.agg cs=>cs.all vi
 |v=>vi v
def DQ:AV→Bool
 |.aH vs=>vs.all tP
 |v=>tP v
def fresh (v:AV):Bool:=match v with
 |.os ..=>true
 |.om _=>true
 |v=>tP v
def zF:AV→Bool
 |.aH vs=>vs.all fresh
 |v=>fresh v
def HM:aJ→Bool
 |.box cs=>cs.all vi
 |.arr _ _ es=>es.all fun e=>e.all vi
 |.map es=>es.all fun p=>tP p.1&&tP p.2
 |_=>false
def shift (n:Nat) (v:AV):AV:=match v with
 |.os id g sz off len=>.os (id+n) g sz off len
 |.om id=>.om (id+n)
 |v=>v
def yE (n:Nat):AV→AV
 |.aH vs=>.aH (vs.map (shift n))
 |v=>shift n v
noncomputable def wrap (ro:Bool) (eX:List Sh) (fI:Sh) (r:List AV→Heap→Option (AV×Heap)) (args:List AV) (σ:Heap):Option (AV×Heap):=
 bif ro&&args.any own then
  (eO σ 0 8 args).bind fun args=>(r (bW eX args) []).bind fun q=>bif zF (nn fI q.1)&&q.2.all HM then some (yE σ.length (nn fI q.1),σ++q.2)else none
 else(r (bW eX args) σ).map fun q=>(nn fI q.1,q.2)
noncomputable def jl (sh:Sh) (m:List AV→Heap→Option (AV×Heap)) (args:List AV) (σ:Heap):Option (AV×Heap):=(m args σ).bind fun p=>(fin σ p.1 p.2).map fun q=>(nn sh q.1,q.2)
noncomputable def qv (m:List AV→Heap→Option (AV×Heap)) (args:List AV) (σ:Heap):Option (AV×Heap):=match args with
 |[.sl _ []]=>some (.ez,σ)
 |[.au]=>some (.ez,σ)
 |[.ez]=>some (.ez,σ)
 |[.os _ _ _ _ 0]=>some (.ez,σ)
 |_=>m args σ
end A
def Sound (P:Program) (nm:List Nat) (f:FuncId) (m:List AV→Heap→Option (AV×Heap)):Prop:=∀args σ r σ',m args σ=some (r,σ')→mX P nm f args σ r σ'
section
variable {P : Program} {nm : List Nat} {f : FuncId} {c c' : RC}
theorem ZJ {v:Value} (sz:Nat) (hsz:0<sz) (h:ak c .au v):ak c (.sl sz []) v:=by
 simp only[ak]at h ⊢
 subst h
 exact⟨none,0,rfl,Nat.le_refl _,hsz,.inl trivial⟩
theorem aam {v:Value} (sz:Nat) (hsz:0<sz) (h:ak c .ez v):ak c (.sl sz []) v:=by
 simp only[ak]at h ⊢
 obtain⟨a,rfl⟩:=h
 exact⟨a,0,rfl,Nat.le_refl _,hsz,.inl trivial⟩
mutual
def Sh.ok:Sh→Bool
 |.k=>true
 |.s sz=>Nat.blt 0 sz
 |.e sz l=>Nat.blt 0 sz&&Sh.eZ l
 |.a l=>Sh.eZ l
 |.t l=>Sh.eZ l
 |.p l=>Sh.eZ l
def Sh.eZ:List Sh→Bool
 |[]=>true
 |x::l=>x.ok&&Sh.eZ l
end
theorem YL:∀(l:List Sh) (cs:List AV),(A.bW l cs).length=cs.length
 |[],cs=>by simp [A.bW]
 |_::_,[]=>by simp [A.bW]
 |o::l,v::cs=>by simp [A.bW,YL l cs]
mutual
theorem Dj:∀(s:Sh) (a:AV) (v:Value),s.ok=true→ak c a v→ak c (A.nn s a) v
 |.k,a,v,_,h=>by simpa [A.nn]using h
 |.s sz,a,v,ho,h=>by
  cases a<;>simp only[A.nn]<;>first|exact h|exact ZJ sz (by simpa [Sh.ok]using ho) h|exact aam sz (by simpa [Sh.ok]using ho) h
 |.e sz l,a,v,ho,h=>by
  simp only[Sh.ok,Bool.and_eq_true]at ho
  cases a<;>simp only[A.nn]<;>first|exact h|exact ZJ sz (by simpa using ho.1) h|exact aam sz (by simpa using ho.1) h|skip
  simp only[ak]at h ⊢
  obtain⟨a,cap,e,h1,h2,h3⟩:=h
  refine⟨a,cap,by rw[List.length_map];exact e,by rw[List.length_map];exact h1,h2,?_⟩
  rcases h3 with h3|⟨b,off,e1,e2,e3,e4⟩
  ·left;rw[h3];rfl
  ·right;exact⟨b,off,e1,e2,e3,ZI l ho.2 _ _ e4⟩
 |.a l,a,v,ho,h=>by
  simp only[Sh.ok]at ho
  cases a<;>simp only[A.nn]<;>first|exact h|skip
  simp only[ak]at h ⊢
  obtain⟨vs,e,h1,h2⟩:=h
  exact⟨vs,e,HE l _ _ ho h1,h2⟩
 |.t ss,a,v,ho,h=>by
  simp only[Sh.ok]at ho
  cases a<;>simp only[A.nn]<;>first|exact h|skip
  simp only[ak]at h ⊢
  obtain⟨vs,e,h1⟩:=h
  exact⟨vs,e,HE ss _ _ ho h1⟩
 |.p l,a,v,ho,h=>by
  simp only[Sh.ok]at ho
  cases a<;>simp only[A.nn]<;>first|exact h|skip
  simp only[ak]at h ⊢
  obtain⟨b,off,e,h1,h2,h3⟩:=h
  exact⟨b,off,e,h1,h2,Q7 l _ _ ho h3⟩
theorem HE:∀(ss:List Sh) (l:List AV) (vs:List Value),Sh.eZ ss=true→aI c l vs→aI c (A.bW ss l) vs
 |[],l,vs,_,h=>by simpa [A.bW]using h
 |_::_,[],vs,_,h=>by simpa [A.bW]using h
 |s::ss,a::l,vs,ho,h=>by
  simp only[Sh.eZ,Bool.and_eq_true]at ho
  simp only[A.bW,aI]at h ⊢
  obtain⟨v,vs',e,h1,h2⟩:=h
  exact⟨v,vs',e,Dj s a v ho.1 h1,HE ss l vs' ho.2 h2⟩
theorem Q7 {b:Nat}:∀(l:List Sh) (cs:List AV) (off:Nat),Sh.eZ l=true→bu c b off cs→bu c b off (A.bW l cs)
 |[],cs,off,_,h=>by simpa [A.bW]using h
 |_::_,[],off,_,h=>by simpa [A.bW]using h
 |o::l,a::cs,off,ho,h=>by
  simp only[Sh.eZ,Bool.and_eq_true]at ho
  simp only[A.bW,bu]at h ⊢
  obtain⟨⟨v,h1,h2,h3⟩,h4⟩:=h
  exact⟨⟨v,h1,h2,Dj o a v ho.1 h3⟩,Q7 l cs (off+1) ho.2 h4⟩
theorem ZI {sz b:Nat} (l:List Sh) (hl:Sh.eZ l=true):∀(es:List (List AV)) (off:Nat),bA c sz b off es→bA c sz b off (es.map (A.bW l))
 |[],off,h=>by simp [bA]
 |e::es,off,h=>by
  simp only[List.map_cons,bA]at h ⊢
  exact⟨by rw[YL];exact h.1,Q7 l e off hl h.2.1,ZI l hl es _ h.2.2⟩
end
theorem P5:∀{a:AV} {v:Value},A.vi a=true→ak c a v→ak c' a v:=by
 intro a v h r
 cases a<;>simp only[A.vi]at h<;>first|(cases h;done)|skip
 case sl sz es=>
  cases es with
  |nil=>
   simp only[ak]at r ⊢
   obtain⟨q,cap,e,h1,h2,_⟩:=r
   exact⟨q,cap,e,h1,h2,.inl trivial⟩
  |cons _ _=>simp at h
 all_goals simpa [ak]using r
theorem We:∀{l:List AV} {vs:List Value},l.all A.vi=true→aI c l vs→aI c' l vs
 |[],vs,_,r=>by simpa [aI]using r
 |a::l,vs,h,r=>by
  simp only[List.all_cons,Bool.and_eq_true]at h
  simp only[aI]at r ⊢
  obtain⟨v,vs',e,h1,h2⟩:=r
  exact⟨v,vs',e,P5 h.1 h1,We h.2 h2⟩
theorem P6 {a:AV} {v:Value} (h:A.tP a=true) (r:ak c a v):ak c' a v:=by
 unfold A.tP at h
 split at h
 ·simp only[ak]at r ⊢
  obtain⟨vs,e,h1,h2⟩:=r
  exact⟨vs,e,We h h1,h2⟩
 ·exact P5 h r
theorem mX.conv {args args':List AV} {σ σ':Heap} {r r':AV} (h:mX P nm f args' σ r σ') (ha:∀c vs,aI c args vs→aI c args' vs) (hr:∀c v,ak c r v→ak c r' v):mX P nm f args σ r' σ':=by
 rcases h with⟨g,h1,h2⟩|h
 ·refine .inl ⟨g,h1,fun z vs e1 e2 e3 e4=>(h2 z vs e1 e2 e3 (ha _ _ e4)).mono ?_⟩
  rintro e w' ⟨v,E',k1,k2,k3,k4⟩
  exact⟨v,E',k1,k2,k3,hr _ _ k4⟩
 ·refine .inr fun z vs e1 e2 e3 e4=>?_
  obtain⟨v,w',E',k1,k2,k3,k4⟩:=h z vs e1 e2 e3 (ha _ _ e4)
  exact⟨v,w',E',k1,k2,k3,hr _ _ k4⟩
theorem Xj {z0 z:Z} {w':World} {E':List Pl} {n:Nat} (hn:n=z.E.length) {a:AV} {v:Value} (h:A.fresh a=true) (r:ak (ctx z0 w' E' cK) a v):ak (ctx z w' (z.E++E') cK) (A.shift n a) v:=by
 have key:∀(id:Nat) (p:Pl),E'[id]? =some p→(z.E++E')[id+n]? =some p:=fun id p hp=>by
  rw[List.getElem?_append_right (by omega),hn,Nat.add_sub_cancel];exact hp
 unfold A.fresh at h
 unfold A.shift
 split at h
 ·simp only[ak]at r ⊢
  obtain⟨hg,p,h1,h2,r⟩:=r
  exact⟨hg,p,key _ _ h1,h2,r⟩
 ·simp only[ak]at r ⊢
  obtain⟨p,h1,h2,r⟩:=r
  exact⟨p,key _ _ h1,h2,r⟩
 ·exact P6 h r
theorem afm {z0 z:Z} {w':World} {E':List Pl} {n:Nat} (hn:n=z.E.length) {vs:List AV} {v:Value} (h:vs.all A.fresh=true) (r:ak (ctx z0 w' E' cK) (.aH vs) v):ak (ctx z w' (z.E++E') cK) (A.yE n (.aH vs)) v:=by
 simp only[ak,A.yE]at r ⊢
 obtain⟨us,rfl,r⟩:=r
 refine⟨us,rfl,?_⟩
 generalize us.toList=us' at r ⊢
 induction vs generalizing us' with
 |nil=>simpa [aI]using r
 |cons x l ih=>
  simp only[List.all_cons,Bool.and_eq_true]at h
  simp only[aI,List.map_cons]at r ⊢
  obtain⟨v,vs',e,h1,h2⟩:=r
  exact⟨v,vs',e,Xj hn h.1 h1,ih h.2 _ h2⟩
theorem agw {z0 z:Z} {w':World} {E':List Pl} {n:Nat} (hn:n=z.E.length) {a:AV} {v:Value} (h:A.zF a=true) (r:ak (ctx z0 w' E' cK) a v):ak (ctx z w' (z.E++E') cK) (A.yE n a) v:=by
 by_cases ht:∃vs,a=.aH vs
 ·obtain⟨vs,rfl⟩:=ht
  exact afm hn h r
 ·have e1:A.zF a=A.fresh a:=by cases a<;>first|rfl|exact absurd ⟨_,rfl⟩ ht
  have e2:A.yE n a=A.shift n a:=by cases a<;>first|rfl|exact absurd ⟨_,rfl⟩ ht
  rw[e1]at h
  rw[e2]
  exact Xj hn h r
theorem Pg {b:Nat}:∀{l:List AV} {off:Nat},l.all A.vi=true→c'.w=c.w→bu c b off l→bu c' b off l
 |[],off,_,_,_=>by simp [bu]
 |a::l,off,h,hw,r=>by
  simp only[List.all_cons,Bool.and_eq_true]at h
  simp only[bu]at r ⊢
  obtain⟨⟨v,h1,h2,h3⟩,h4⟩:=r
  exact⟨⟨v,by rw[hw];exact h1,h2,P5 h.1 h3⟩,Pg h.2 hw h4⟩
theorem VF {sz b:Nat}:∀{l:List (List AV)} {off:Nat},(l.all fun e=>e.all A.vi)=true→c'.w=c.w→bA c sz b off l→bA c' sz b off l
 |[],off,_,_,_=>by simp [bA]
 |a::l,off,h,hw,r=>by
  simp only[List.all_cons,Bool.and_eq_true]at h
  simp only[bA]at r ⊢
  obtain⟨h1,h2,h3⟩:=r
  exact⟨h1,Pg h.1 hw h2,VF h.2 hw h3⟩
theorem Wf:∀{l:List (AV×AV)} {es:List MapEntry},(l.all fun p=>A.tP p.1&&A.tP p.2)=true→cA c l es→cA c' l es
 |[],es,_,r=>by simpa [cA]using r
 |(k,v)::l,es,h,r=>by
  simp only[List.all_cons,Bool.and_eq_true]at h
  simp only[cA]at r ⊢
  obtain⟨e,es',h1,h2,h3,h4⟩:=r
  exact⟨e,es',h1,P6 h.1.1 h2,P6 h.1.2 h3,Wf h.2 h4⟩
theorem afM {p:Pl} {x:aJ} (h:A.HM x=true) (hw:c'.w=c.w) (r:oU c p x):oU c' p x:=by
 cases x with
 |box cs=>
  obtain⟨h1,⟨⟨arr,t,h2,h3⟩,h4⟩⟩:=r
  exact⟨h1,⟨arr,t,by rw[hw];exact h2,h3⟩,Pg h hw h4⟩
 |arr g sz es=>
  obtain⟨h1,h2,h3,h4,⟨arr,t,h5,h6⟩,h7,h8,h9⟩:=r
  exact⟨h1,h2,h3,h4,⟨arr,t,by rw[hw];exact h5,h6⟩,h7,VF h hw h8,fun arr t fz e=>h9 arr t fz (by rw[←hw];exact e)⟩
 |map es=>
  obtain⟨h1,bn,clock,h2,hwf,h3⟩:=r
  exact⟨h1,bn,clock,by rw[hw];exact h2,hwf,Wf h h3⟩
 |sW g sz es=>cases h
 |it cur left=>cases h
theorem XU {z:Z} {σ σ':Heap} {r:AV} {v:Value} {w':World} {E':List Pl} (e2:∀b,z.X b→b<z.w.heap.size) (hh:iu (ctx z z.w z.E cK) σ) (hv:A.zF r=true) (hb:σ'.all A.HM=true)
  (k2:Out ⟨z.w,[],fun _=>False,z.nm⟩ w' E') (k3:iu (ctx ⟨z.w,[],fun _=>False,z.nm⟩ w' E' cK) σ') (k4:ak (ctx ⟨z.w,[],fun _=>False,z.nm⟩ w' E' cK) r v):
  ∃jO,Out z w' jO∧iu (ctx z w' jO cK) (σ++σ')∧ak (ctx z w' jO cK) (A.yE σ.length r) v:=by
 have hlen:z.E.length=σ.length:=hh.len
 have hlen':E'.length=σ'.length:=k3.len
 have hst:∀b,b<z.w.heap.size→w'.heap[b]? =z.w.heap[b]? :=fun b hb=>k2.stay b hb (fun p hp=>by cases hp)
 have hlt:∀p∈z.E,p.b<z.w.heap.size:=fun p hp=>hh.lt hp
 have hfr:∀p∈E',z.w.heap.size≤p.b:=fun p hp=>by
  rcases k2.fresh p hp with k|⟨q,hq,_⟩
  ·exact k
  ·cases hq
 have hx:Ext (ctx z z.w z.E cK) (ctx z w' (z.E++E') cK):=by
  refine⟨k2.size,fun b hb hn=>⟨hst b hb,?_⟩,fun i p hp=>⟨p,?_,.inl rfl⟩,rfl⟩
  ·rintro(k|⟨p,hp,k⟩|⟨i,k⟩)
   ·exact hn (.inl k)
   ·rcases List.mem_append.1 hp with hp|hp
    ·exact hn (.inr (.inl ⟨p,hp,k⟩))
    ·have:=hfr p hp;simp only[ctx]at hb;omega
   ·cases k
  ·simp only[ctx]at hp ⊢
   rw[List.getElem?_append_left (List.getElem?_eq_some_iff.1 hp).1];exact hp
 have key:∀(i:Nat) (p:Pl),(z.E++E')[i]? =some p→(i<z.E.length∧z.E[i]? =some p)∨(z.E.length≤i∧E'[i-z.E.length]? =some p):=fun i p hp=>by
  by_cases hi:i<z.E.length
  ·rw[List.getElem?_append_left hi]at hp;exact .inl ⟨hi,hp⟩
  ·rw[List.getElem?_append_right (by omega)]at hp;exact .inr ⟨by omega,hp⟩
 refine⟨z.E++E',⟨k2.os,k2.tape,k2.output,k2.size,fun b hb _=>hst b hb,fun i p hp=>?_,fun i p hp=>⟨p,?_,.inl rfl⟩,e2,hlt⟩,⟨by simp [ctx,hlen,hlen'],fun i j p q hp hq e=>?_,fun i p x hp ct=>?_⟩,agw hlen.symm hv k4⟩
 ·rcases key i p hp with⟨_,k⟩|⟨_,k⟩
  ·exact .inr ⟨p,k,rfl⟩
  ·exact .inl (hfr p (List.mem_of_getElem? k))
 ·rw[List.getElem?_append_left (List.getElem?_eq_some_iff.1 hp).1];exact hp
 ·simp only[ctx]at hp hq
  rcases key i p hp with⟨i1,k⟩|⟨i1,k⟩<;>rcases key j q hq with⟨j1,m⟩|⟨j1,m⟩
  ·exact hh.inj i j p q k m e
  ·have:=hlt p (List.mem_of_getElem? k);have:=hfr q (List.mem_of_getElem? m);omega
  ·have:=hlt q (List.mem_of_getElem? m);have:=hfr p (List.mem_of_getElem? k);omega
  ·have:=k3.inj _ _ p q k m e;omega
 ·simp only[ctx]at hp
  rcases key i p hp with⟨i1,k⟩|⟨i1,k⟩
  ·rw[List.getElem?_append_left (by omega)]at ct
   exact(hh.blk i p x k ct).mono hx (hst _ (hlt p (List.mem_of_getElem? k)))
  ·rw[List.getElem?_append_right (by omega),←hlen]at ct
   exact afM (c:=ctx ⟨z.w,[],fun _=>False,z.nm⟩ w' E' cK) (List.all_eq_true.1 hb x (List.mem_of_getElem? ct)) rfl (k3.blk _ p x k ct)
theorem mX.As {args args':List AV} {σ σ':Heap} {r:AV} (h:mX P nm f args' [] r σ') (ha:A.eO σ 0 8 args=some args') (hv:A.zF r=true) (hb:σ'.all A.HM=true):mX P nm f args σ (A.yE σ.length r) (σ++σ'):=by
 have hX:∀(z:Z) b,¬(ctx ⟨z.w,[],fun _=>False,z.nm⟩ z.w [] cK).X b:=by
  rintro z b (k|⟨p,hp,_⟩|⟨i,k⟩)
  ·exact k.elim
  ·cases hp
  ·cases k
 have sR:∀(z:Z),iu (ctx z z.w z.E cK) σ→wE (ctx z z.w z.E cK) (ctx ⟨z.w,[],fun _=>False,z.nm⟩ z.w [] cK) σ 0:=fun z hh=>
  ⟨rfl,rfl,fun b k=>(hX z b k).elim,fun id p k=>absurd k (Nat.not_lt_zero _),hh,fun id p _ _=>hX z _⟩
 have h0:∀(z:Z),iu (ctx ⟨z.w,[],fun _=>False,z.nm⟩ z.w [] cK) []:=fun z=>by
  refine⟨rfl,fun i j p q hp=>?_,fun i p x hp=>?_⟩
  ·simp [ctx]at hp
  ·simp [ctx]at hp
 rcases h with⟨g,h1,h2⟩|h2
 ·refine .inl ⟨g,h1,fun z vs e1 e2 hh e4=>?_⟩
  have ha':aI (ctx ⟨z.w,[],fun _=>False,z.nm⟩ z.w [] cK) args' vs.toList:=Fk (sR z hh) 8 (fun av cS v _ e r=>yu (sR z hh) 8 _ _ _ e r) _ _ _ ha e4
  refine(h2 ⟨z.w,[],fun _=>False,z.nm⟩ vs e1 (fun b k=>k.elim) (h0 z) ha').mono ?_
  rintro e w' ⟨v,E',k1,k2,k3,k4⟩
  obtain⟨jO,q1,q2,q3⟩:=XU e2 hh hv hb k2 k3 k4
  exact⟨v,jO,k1,q1,q2,q3⟩
 ·refine .inr fun z vs e1 e2 hh e4=>?_
  have ha':aI (ctx ⟨z.w,[],fun _=>False,z.nm⟩ z.w [] cK) args' vs.toList:=Fk (sR z hh) 8 (fun av cS v _ e r=>yu (sR z hh) 8 _ _ _ e r) _ _ _ ha e4
  obtain⟨v,w',E',k1,k2,k3,k4⟩:=h2 ⟨z.w,[],fun _=>False,z.nm⟩ vs e1 (fun b k=>k.elim) (h0 z) ha'
  obtain⟨jO,q1,q2,q3⟩:=XU e2 hh hv hb k2 k3 k4
  exact⟨v,w',jO,k1,q1,q2,q3⟩
theorem YB {z:Z} {w':World} {E':List Pl} {σ σ1 σ':Heap} {x r:AV} {v:Value} (hh:iu (ctx z z.w z.E cK) σ) (hlt:∀b,z.X b→b<z.w.heap.size) (ho:Out z w' E') (hr:iu (ctx z w' E' cK) σ1) (rv:ak (ctx z w' E' cK) x v) (k3:A.fin σ x σ1=some (r,σ')):
  ∃jO,Out z w' jO∧iu (ctx z w' jO cK) σ'∧ak (ctx z w' jO cK) r v:=by
 unfold A.fin at k3
 split at k3
 ·rename_i he
  simp only[Option.some.injEq,Prod.mk.injEq]at k3
  obtain⟨rfl,rfl⟩:=k3
  exact⟨E',ho,by rw[←he];exact hr,rv⟩
 ·split at k3
  ·rename_i he
   obtain⟨r',k6,k7⟩:=Option.map_eq_some_iff.1 k3
   simp only[Prod.mk.injEq]at k7
   obtain⟨rfl,rfl⟩:=k7
   have hlen:=hr.len
   simp only[ctx]at hlen
   have hzl:z.E.length=σ.length:=hh.len
   have hle2:σ.length≤σ1.length:=by
    have:=congrArg List.length he
    simp at this;omega
   have qU:∀(id:Nat) (p:Pl),id<σ.length→E'[id]? =some p→(E'.take σ.length)[id]? =some p:=fun id p hlt' hp=>by rw[List.getElem?_take_of_lt hlt'];exact hp
   have pK:∀(id:Nat) (p:Pl),(E'.take σ.length)[id]? =some p→id<σ.length∧E'[id]? =some p:=fun id p hp=>by
    rw[List.getElem?_take]at hp
    split at hp
    ·exact⟨by assumption,hp⟩
    ·cases hp
   have sR:wE (ctx z w' E' cK) (ctx z w' (E'.take σ.length) cK) σ1 σ.length:=by
    refine⟨rfl,rfl,fun b k=>?_,qU,hr,fun id p hge hp k=>?_⟩
    ·rcases k with k|⟨p,hp,k⟩|⟨i,k⟩
     ·exact .inl k
     ·exact .inr (.inl ⟨p,List.mem_of_mem_take hp,k⟩)
     ·cases k
    ·rcases k with k|⟨q,hq,k⟩|⟨i,k⟩
     ·have hb:=hlt _ k
      rcases ho.fresh' id p hp with e|⟨q,hq,_⟩
      ·omega
      ·rw[List.getElem?_eq_none (by omega)]at hq;cases hq
     ·obtain⟨j,hj,rfl⟩:=List.mem_iff_getElem.1 hq
      obtain⟨h1,h2⟩:=pK j _ (List.getElem?_eq_getElem hj)
      have:=hr.inj j id _ p h2 hp k
      omega
     ·cases k
   have heq:∀(id:Nat),id<σ.length→σ[id]? =σ1[id]? :=fun id hlt'=>by
    have h1:(List.take σ.length σ1)[id]? =σ1[id]? :=List.getElem?_take_of_lt hlt'
    rw[he]at h1;exact h1
   have held:xq (ctx z z.w z.E cK) (ctx z w' E' cK) (ctx z w' (E'.take σ.length) cK):=
    ⟨rfl,rfl,sR.X,fun id p0 p e0 e1=>qU id p (by have:=(List.getElem?_eq_some_iff.1 e0).1;simp only[ctx]at this;omega) e1⟩
   refine⟨E'.take σ.length,?_,?_,yu sR 8 _ _ _ k6 rv⟩
   ·have o:=ho
    exact⟨o.os,o.tape,o.output,o.size,o.stay,fun i p hp=>o.fresh' i p (pK i p hp).2,fun i p hp=>by
     obtain⟨p',m1,m2⟩:=o.env i p hp
     exact⟨p',qU i p' (by have:=(List.getElem?_eq_some_iff.1 hp).1;omega) m1,m2⟩,o.lt,o.mine⟩
   ·refine⟨by simp only[ctx,List.length_take];omega,fun i j p q hp hq e=>hr.inj i j p q (pK i p hp).2 (pK j q hq).2 e,fun i p x hp hx=>?_⟩
    obtain⟨hi,hp2⟩:=pK i p hp
    have eY:z.E[i]? =some z.E[i]:=List.getElem?_eq_getElem (by omega)
    exact Lv held (hh.blk i _ x eY hx) (hr.blk i p x hp2 (by rw[←heq i hi];exact hx))
  ·cases k3
theorem Sound.jl {m:List AV→Heap→Option (AV×Heap)} (h:Sound P nm f m) (sh:Sh) (hs:sh.ok=true):Sound P nm f (A.jl sh m):=by
 intro args σ r σ' e
 unfold A.jl at e
 obtain⟨⟨x,σ1⟩,e1,e2⟩:=Option.bind_eq_some_iff.1 e
 obtain⟨⟨y,σ2⟩,e3,e4⟩:=Option.map_eq_some_iff.1 e2
 simp only[Prod.mk.injEq]at e4
 obtain⟨rfl,rfl⟩:=e4
 rcases h _ _ _ _ e1 with⟨g,h1,h2⟩|h2
 ·refine .inl ⟨g,h1,fun z vs k1 k2 hh k4=>?_⟩
  refine(h2 z vs k1 k2 hh k4).mono ?_
  rintro e w' ⟨v,E',q1,q2,q3,q4⟩
  obtain⟨jO,p1,p2,p3⟩:=YB hh k2 q2 q3 q4 e3
  exact⟨v,jO,q1,p1,p2,Dj _ _ _ hs p3⟩
 ·refine .inr fun z vs k1 k2 hh k4=>?_
  obtain⟨v,w',E',q1,q2,q3,q4⟩:=h2 z vs k1 k2 hh k4
  obtain⟨jO,p1,p2,p3⟩:=YB hh k2 q2 q3 q4 e3
  exact⟨v,w',jO,q1,p1,p2,Dj _ _ _ hs p3⟩
theorem Sound.wrap {r:List AV→Heap→Option (AV×Heap)} (h:Sound P nm f r) (ro:Bool) (eX:List Sh) (fI:Sh) (hi:Sh.eZ eX=true) (ho:fI.ok=true):Sound P nm f (A.wrap ro eX fI r):=by
 intro args σ v σ' e
 unfold A.wrap at e
 cases hc:(ro&&args.any A.own)
 ·rw[hc]at e
  simp only[cond_false]at e
  obtain⟨q,e1,e2⟩:=Option.map_eq_some_iff.1 e
  injection e2 with e2 e3
  subst e2 e3
  exact(h _ _ _ _ e1).conv (fun c vs k=>HE _ _ _ hi k) (fun c v k=>Dj _ _ _ ho k)
 ·rw[hc]at e
  simp only[cond_true]at e
  obtain⟨args',e1,e2⟩:=Option.bind_eq_some_iff.1 e
  obtain⟨q,e3,e4⟩:=Option.bind_eq_some_iff.1 e2
  obtain⟨q1,q2⟩:=q
  simp only at e4
  cases hs:(A.zF (A.nn fI q1)&&q2.all A.HM)
  ·rw[hs]at e4;cases e4
  ·rw[hs]at e4
   simp only[cond_true,Option.some.injEq,Prod.mk.injEq]at e4
   obtain⟨rfl,rfl⟩:=e4
   simp only[Bool.and_eq_true]at hs
   exact((h _ _ _ _ e3).conv (args:=args') (fun c vs k=>HE _ _ _ hi k) (fun c v k=>Dj _ _ _ ho k)).As e1 hs.1 hs.2
end
theorem dJ.of {X:Fx} {t:List (FuncId×(List AV→Heap→Option (AV×Heap)))} (hc:X.call=A.tab (fun _ _=>none) t) (ht:∀p∈t,Sound X.P X.nm p.1 p.2) (hd:∀f,Sound X.P X.nm f (X.dyn (X.nm.getD f 0))):dJ X:=by
 refine⟨fun f args σ r σ' h=>?_,fun f=>hd f⟩
 rw[hc]at h
 clear hc
 induction t with
 |nil=>cases h
 |cons p t ih=>
  obtain⟨m,x⟩:=p
  simp only[A.tab]at h
  cases hm:(f==m)
  ·rw[hm]at h;exact ih (fun p hp=>ht p (List.mem_cons_of_mem _ hp)) h
  ·rw[hm]at h
   have:f=m:=by simpa using hm
   subst this
   exact ht (f,x) (List.mem_cons_self) _ _ _ _ h
theorem Sound.none {P:Program} {nm:List Nat} {f:FuncId}:Sound P nm f (fun _ _=>Option.none):=fun _ _ _ _ h=>by cases h
theorem aD.nil {P:Program} {nm:List Nat}:∀p∈([]:List (FuncId×(List AV→Heap→Option (AV×Heap)))),Sound P nm p.1 p.2:=fun _ h=>by cases h
theorem aD.cons {P:Program} {nm:List Nat} {f:FuncId} {m:List AV→Heap→Option (AV×Heap)} {l:List (FuncId×(List AV→Heap→Option (AV×Heap)))} (h:Sound P nm f m) (t:∀p∈l,Sound P nm p.1 p.2):∀p∈(f,m)::l,Sound P nm p.1 p.2:=
 fun p hp=>by rcases List.mem_cons.1 hp with rfl|hp;exact h;exact t p hp
theorem jj.nil {P:Program} {nm:List Nat}:∀p∈([]:List (Nat×(List AV→Heap→Option (AV×Heap)))),∀f,nm.getD f 0=p.1→Sound P nm f p.2:=fun _ h=>by cases h
theorem jj.cons {P:Program} {nm:List Nat} {k:Nat} {m:List AV→Heap→Option (AV×Heap)} {l:List (Nat×(List AV→Heap→Option (AV×Heap)))} (h:∀f,nm.getD f 0=k→Sound P nm f m) (t:∀p∈l,∀f,nm.getD f 0=p.1→Sound P nm f p.2):∀p∈(k,m)::l,∀f,nm.getD f 0=p.1→Sound P nm f p.2:=
 fun p hp=>by rcases List.mem_cons.1 hp with rfl|hp;exact h;exact t p hp
theorem sO {P:Program} {nm:List Nat} {t:List (Nat×(List AV→Heap→Option (AV×Heap)))} (ht:∀p∈t,∀f,nm.getD f 0=p.1→Sound P nm f p.2) (f:FuncId):Sound P nm f (A.tab (fun _ _=>Option.none) t (nm.getD f 0)):=by
 induction t with
 |nil=>exact Sound.none
 |cons p t ih=>
  obtain⟨k,x⟩:=p
  simp only[A.tab]
  cases hm:(nm.getD f 0==k)
  ·exact ih (fun p hp=>ht p (List.mem_cons_of_mem _ hp))
  ·exact ht (k,x) List.mem_cons_self f (by simpa using hm)
theorem ZH {nm:List Nat} {k g:Nat} (h:(nm.zipIdx.filter fun p=>p.1==k)=[(k,g)]) (hk:(0==k)=false) {f:Nat} (hf:nm.getD f 0=k):f=g:=by
 have hlt:f<nm.length:=by
  rcases Nat.lt_or_ge f nm.length with e|e
  ·exact e
  ·simp only[List.getD,List.getElem?_eq_none e,Option.getD_none]at hf;subst hf;simp at hk
 have:(k,f)∈nm.zipIdx.filter fun p=>p.1==k:=by
  refine List.mem_filter.2 ⟨List.mem_iff_getElem?.2 ⟨f,?_⟩,by simp⟩
  simp only[List.getD]at hf
  rw[List.getElem?_eq_getElem hlt]at hf
  simp [List.getElem?_eq_getElem hlt,←hf]
 rw[h]at this
 simpa using this
theorem oN {P:Program} {nm:List Nat} {k g:Nat} {m:List AV→Heap→Option (AV×Heap)} (hs:Sound P nm g m) (h:(nm.zipIdx.filter fun p=>p.1==k)=[(k,g)]) (hk:(0==k)=false):∀f,nm.getD f 0=k→Sound P nm f m:=
 fun f hf=>by have e:=ZH h hk hf;subst e;exact hs
def fuel (F:(Nat→List AV→Heap→Option (AV×Heap))→List (Nat×(List AV→Heap→Option (AV×Heap)))):Nat→Nat→List AV→Heap→Option (AV×Heap)
 |0,_=>fun _ _=>none
 |n+1,k=>A.tab (fun _ _=>none) (F (fuel F n)) k
namespace A
def cD (f:AV→Heap→Option (AV×Heap)):List AV→Heap→Option (AV×Heap)
 |[x0],σ=>f x0 σ
 |_,_=>none
def cR (f:AV→AV→Heap→Option (AV×Heap)):List AV→Heap→Option (AV×Heap)
 |[x0,x1],σ=>f x0 x1 σ
 |_,_=>none
def lG (f:AV→AV→AV→Heap→Option (AV×Heap)):List AV→Heap→Option (AV×Heap)
 |[x0,x1,x2],σ=>f x0 x1 x2 σ
 |_,_=>none
def vB (f:AV→AV→AV→AV→Heap→Option (AV×Heap)):List AV→Heap→Option (AV×Heap)
 |[x0,x1,x2,x3],σ=>f x0 x1 x2 x3 σ
 |_,_=>none
def DX (f:AV→AV→AV→AV→AV→Heap→Option (AV×Heap)):List AV→Heap→Option (AV×Heap)
 |[x0,x1,x2,x3,x4],σ=>f x0 x1 x2 x3 x4 σ
 |_,_=>none
def DY (f:AV→AV→AV→AV→AV→AV→Heap→Option (AV×Heap)):List AV→Heap→Option (AV×Heap)
 |[x0,x1,x2,x3,x4,x5],σ=>f x0 x1 x2 x3 x4 x5 σ
 |_,_=>none
def Tf (f:AV→AV→AV→AV→AV→AV→AV→Heap→Option (AV×Heap)):List AV→Heap→Option (AV×Heap)
 |[x0,x1,x2,x3,x4,x5,x6],σ=>f x0 x1 x2 x3 x4 x5 x6 σ
 |_,_=>none
end A
section
variable {X : Fx} {f : FuncId} {fn : Func} {bN : mC}
theorem Sound.uc {m:AV→Heap→Option (AV×Heap)} (keep:qF) (hkeep:keep.Ok) (hs:dJ X) (hf:X.P.funcs[f]? =some fn) (hc:∀cM w,(callFunc f cM).run X.P w=.ok (.enter f cM) w) (he:∀(x0:AV) (σ:Heap),qM X keep bN fn [x0] σ=m x0 σ):Sound X.P X.nm f (A.cD m):=by
 intro args σ r σ' h
 unfold A.cD at h
 split at h
 ·exact CX hs hkeep hf hc ((he _ _).trans h)
 ·cases h
theorem Sound.qL {m:AV→AV→Heap→Option (AV×Heap)} (keep:qF) (hkeep:keep.Ok) (hs:dJ X) (hf:X.P.funcs[f]? =some fn) (hc:∀cM w,(callFunc f cM).run X.P w=.ok (.enter f cM) w) (he:∀(x0 x1:AV) (σ:Heap),qM X keep bN fn [x0,x1] σ=m x0 x1 σ):Sound X.P X.nm f (A.cR m):=by
 intro args σ r σ' h
 unfold A.cR at h
 split at h
 ·exact CX hs hkeep hf hc ((he _ _ _).trans h)
 ·cases h
theorem Sound.MW {m:AV→AV→AV→Heap→Option (AV×Heap)} (keep:qF) (hkeep:keep.Ok) (hs:dJ X) (hf:X.P.funcs[f]? =some fn) (hc:∀cM w,(callFunc f cM).run X.P w=.ok (.enter f cM) w) (he:∀(x0 x1 x2:AV) (σ:Heap),qM X keep bN fn [x0,x1,x2] σ=m x0 x1 x2 σ):Sound X.P X.nm f (A.lG m):=by
 intro args σ r σ' h
 unfold A.lG at h
 split at h
 ·exact CX hs hkeep hf hc ((he _ _ _ _).trans h)
 ·cases h
theorem Sound.abi {m:AV→AV→AV→AV→Heap→Option (AV×Heap)} (keep:qF) (hkeep:keep.Ok) (hs:dJ X) (hf:X.P.funcs[f]? =some fn) (hc:∀cM w,(callFunc f cM).run X.P w=.ok (.enter f cM) w) (he:∀(x0 x1 x2 x3:AV) (σ:Heap),qM X keep bN fn [x0,x1,x2,x3] σ=m x0 x1 x2 x3 σ):Sound X.P X.nm f (A.vB m):=by
 intro args σ r σ' h
 unfold A.vB at h
 split at h
 ·exact CX hs hkeep hf hc ((he _ _ _ _ _).trans h)
 ·cases h
theorem Sound.abj {m:AV→AV→AV→AV→AV→Heap→Option (AV×Heap)} (keep:qF) (hkeep:keep.Ok) (hs:dJ X) (hf:X.P.funcs[f]? =some fn) (hc:∀cM w,(callFunc f cM).run X.P w=.ok (.enter f cM) w) (he:∀(x0 x1 x2 x3 x4:AV) (σ:Heap),qM X keep bN fn [x0,x1,x2,x3,x4] σ=m x0 x1 x2 x3 x4 σ):Sound X.P X.nm f (A.DX m):=by
 intro args σ r σ' h
 unfold A.DX at h
 split at h
 ·exact CX hs hkeep hf hc ((he _ _ _ _ _ _).trans h)
 ·cases h
theorem Sound.abk {m:AV→AV→AV→AV→AV→AV→Heap→Option (AV×Heap)} (keep:qF) (hkeep:keep.Ok) (hs:dJ X) (hf:X.P.funcs[f]? =some fn) (hc:∀cM w,(callFunc f cM).run X.P w=.ok (.enter f cM) w) (he:∀(x0 x1 x2 x3 x4 x5:AV) (σ:Heap),qM X keep bN fn [x0,x1,x2,x3,x4,x5] σ=m x0 x1 x2 x3 x4 x5 σ):Sound X.P X.nm f (A.DY m):=by
 intro args σ r σ' h
 unfold A.DY at h
 split at h
 ·exact CX hs hkeep hf hc ((he _ _ _ _ _ _ _).trans h)
 ·cases h
theorem Sound.aou {m:AV→AV→AV→AV→AV→AV→AV→Heap→Option (AV×Heap)} (keep:qF) (hkeep:keep.Ok) (hs:dJ X) (hf:X.P.funcs[f]? =some fn) (hc:∀cM w,(callFunc f cM).run X.P w=.ok (.enter f cM) w) (he:∀(x0 x1 x2 x3 x4 x5 x6:AV) (σ:Heap),qM X keep bN fn [x0,x1,x2,x3,x4,x5,x6] σ=m x0 x1 x2 x3 x4 x5 x6 σ):Sound X.P X.nm f (A.Tf m):=by
 intro args σ r σ' h
 unfold A.Tf at h
 split at h
 ·exact CX hs hkeep hf hc ((he _ _ _ _ _ _ _ _).trans h)
 ·cases h
end
end
abbrev uk:List Sh:=[.k,.k,.k,.k,.k,.k,.k,(.s 2),.k,.k,(.s 8)]
abbrev DV:List Sh:=[(.s 10),.k,.k,.k,(.s 3),(.s 4),(.s 3),(.s 2),(.s 3),(.s 2),.k,(.s 5)]
abbrev zW:Sh:=(.a [(.s 3),(.s 4),(.s 3),(.s 2),(.s 3)])
abbrev Dq:List Sh:=[.k,.k,(.e 7 [.k,.k,.k,.k,.k,.k,(.s 3)])]
abbrev Dr:Sh:=(.a [.k,.k,.k,.k,.k,.k,(.s 2)])
section
set_option maxRecDepth 100000
noncomputable def aF:List Nat:=[0,0,0,0,419,421,0,0,0,0,336,416,338,418,357,92,0,102,420,0,136,301,373,374,0,393,392,0,394,0,425,0,426,0,0,402,144,335,70,129,14,13,151,337,155,413,415,355,417,356,90,86,91,5,24,0,422,340,0,360,372,0,343,341,180,135,169,242,240,137,376,379,0,0,0,423,0,424,0,403,0,0,411,0,93,398,399,401,139,1,143,330,331,332,333,334,193,181,69,66,128,127,154,152,339,412,353,352,158,354,414,348,4,23,0,0,358,0,0,359,0,342,94,134,7,241,207,239,166,130,375,168,377,378,0,0,381,380,0,382,384,0,410,383,0,397,400,71,73,2,138,142,3,63,67,68,65,64,153,318,351,350,16,18,0,32,0,27,33,0,34,0,0,258,0,88,89,131,133,6,206,223,238,298,388,391,389,0,387,0,0,409,396,199,72,125,126,141,62,178,203,0,297,140,205,349,15,17,26,0,0,28,29,30,31,361,363,0,367,368,369,370,371,256,257,85,87,132,0,210,390,25,0,0,0,0,345,344,408,395,59,60,61,176,177,0,0,362,262,0,366,365,84,81,209,385,386,0,405,407,58,286,288,0,292,293,294,295,296,364,83,80,208,346,404,406,347,287,291,290,82,53,0,0,289,52,0,0,0,0,0,0,0,0,0,0,0,0,0,0,0,0,0]
section
variable {l : List (FuncId × (List AV → Heap → Option (AV × Heap)))} {f : FuncId} {fn : Func} {ro : Bool} {eX : List Sh} {fI : Sh}
noncomputable def Eb (l:List (FuncId×(List AV→Heap→Option (AV×Heap)))) (L:List Nat) (n:Nat):Fx:=⟨Tryz.prog,aF,A.tab (fun _ _=>none) l,fun _ _ _=>none,L,[],n,[]⟩
theorem q1 {m:AV→Heap→Option (AV×Heap)} (L:List Nat) (n:Nat) (bN:mC) (h:∀p∈l,Sound Tryz.prog aF p.1 p.2) (hf:Tryz.prog.funcs[f]? =some fn) (hc:∀cM w,(callFunc f cM).run Tryz.prog w=.ok (.enter f cM) w) (he:∀(x0:AV) (σ:Heap),qM (Eb l L n) .F bN fn [x0] σ=m x0 σ) (hi:Sh.eZ eX=true) (ho:fI.ok=true):Sound Tryz.prog aF f (A.wrap ro eX fI (A.cD m)):=Sound.wrap (Sound.uc .F trivial (dJ.of rfl h fun _=>Sound.none) hf hc he) _ _ _ hi ho
theorem q2 {m:AV→AV→Heap→Option (AV×Heap)} (L:List Nat) (n:Nat) (bN:mC) (h:∀p∈l,Sound Tryz.prog aF p.1 p.2) (hf:Tryz.prog.funcs[f]? =some fn) (hc:∀cM w,(callFunc f cM).run Tryz.prog w=.ok (.enter f cM) w) (he:∀(x0 x1:AV) (σ:Heap),qM (Eb l L n) .F bN fn [x0,x1] σ=m x0 x1 σ) (hi:Sh.eZ eX=true) (ho:fI.ok=true):Sound Tryz.prog aF f (A.wrap ro eX fI (A.cR m)):=Sound.wrap (Sound.qL .F trivial (dJ.of rfl h fun _=>Sound.none) hf hc he) _ _ _ hi ho
theorem q3 {m:AV→AV→AV→Heap→Option (AV×Heap)} (L:List Nat) (n:Nat) (bN:mC) (h:∀p∈l,Sound Tryz.prog aF p.1 p.2) (hf:Tryz.prog.funcs[f]? =some fn) (hc:∀cM w,(callFunc f cM).run Tryz.prog w=.ok (.enter f cM) w) (he:∀(x0 x1 x2:AV) (σ:Heap),qM (Eb l L n) .F bN fn [x0,x1,x2] σ=m x0 x1 x2 σ) (hi:Sh.eZ eX=true) (ho:fI.ok=true):Sound Tryz.prog aF f (A.wrap ro eX fI (A.lG m)):=Sound.wrap (Sound.MW .F trivial (dJ.of rfl h fun _=>Sound.none) hf hc he) _ _ _ hi ho
theorem q4 {m:AV→AV→AV→AV→Heap→Option (AV×Heap)} (L:List Nat) (n:Nat) (bN:mC) (h:∀p∈l,Sound Tryz.prog aF p.1 p.2) (hf:Tryz.prog.funcs[f]? =some fn) (hc:∀cM w,(callFunc f cM).run Tryz.prog w=.ok (.enter f cM) w) (he:∀(x0 x1 x2 x3:AV) (σ:Heap),qM (Eb l L n) .F bN fn [x0,x1,x2,x3] σ=m x0 x1 x2 x3 σ) (hi:Sh.eZ eX=true) (ho:fI.ok=true):Sound Tryz.prog aF f (A.wrap ro eX fI (A.vB m)):=Sound.wrap (Sound.abi .F trivial (dJ.of rfl h fun _=>Sound.none) hf hc he) _ _ _ hi ho
theorem q5 {m:AV→AV→AV→AV→AV→Heap→Option (AV×Heap)} (L:List Nat) (n:Nat) (bN:mC) (h:∀p∈l,Sound Tryz.prog aF p.1 p.2) (hf:Tryz.prog.funcs[f]? =some fn) (hc:∀cM w,(callFunc f cM).run Tryz.prog w=.ok (.enter f cM) w) (he:∀(x0 x1 x2 x3 x4:AV) (σ:Heap),qM (Eb l L n) .F bN fn [x0,x1,x2,x3,x4] σ=m x0 x1 x2 x3 x4 σ) (hi:Sh.eZ eX=true) (ho:fI.ok=true):Sound Tryz.prog aF f (A.wrap ro eX fI (A.DX m)):=Sound.wrap (Sound.abj .F trivial (dJ.of rfl h fun _=>Sound.none) hf hc he) _ _ _ hi ho
theorem q6 {m:AV→AV→AV→AV→AV→AV→Heap→Option (AV×Heap)} (L:List Nat) (n:Nat) (bN:mC) (h:∀p∈l,Sound Tryz.prog aF p.1 p.2) (hf:Tryz.prog.funcs[f]? =some fn) (hc:∀cM w,(callFunc f cM).run Tryz.prog w=.ok (.enter f cM) w) (he:∀(x0 x1 x2 x3 x4 x5:AV) (σ:Heap),qM (Eb l L n) .F bN fn [x0,x1,x2,x3,x4,x5] σ=m x0 x1 x2 x3 x4 x5 σ) (hi:Sh.eZ eX=true) (ho:fI.ok=true):Sound Tryz.prog aF f (A.wrap ro eX fI (A.DY m)):=Sound.wrap (Sound.abk .F trivial (dJ.of rfl h fun _=>Sound.none) hf hc he) _ _ _ hi ho
theorem q7 {m:AV→AV→AV→AV→AV→AV→AV→Heap→Option (AV×Heap)} (L:List Nat) (n:Nat) (bN:mC) (h:∀p∈l,Sound Tryz.prog aF p.1 p.2) (hf:Tryz.prog.funcs[f]? =some fn) (hc:∀cM w,(callFunc f cM).run Tryz.prog w=.ok (.enter f cM) w) (he:∀(x0 x1 x2 x3 x4 x5 x6:AV) (σ:Heap),qM (Eb l L n) .F bN fn [x0,x1,x2,x3,x4,x5,x6] σ=m x0 x1 x2 x3 x4 x5 x6 σ) (hi:Sh.eZ eX=true) (ho:fI.ok=true):Sound Tryz.prog aF f (A.wrap ro eX fI (A.Tf m)):=Sound.wrap (Sound.aou .F trivial (dJ.of rfl h fun _=>Sound.none) hf hc he) _ _ _ hi ho
end
end
abbrev aN (n:Int):Prop:=-9223372036854775808≤n∧n≤9223372036854775807
abbrev aW:Nat:=9223372036854775807
def jr {κ:Type} [DecidableEq κ] (k:κ) (S:List κ):Bool:=S.any fun x=>decide (x=k)
theorem Qi {κ:Type} [DecidableEq κ] {k:κ} {S:List κ}:jr k S=true↔k∈S:=by
 simp only[jr,List.any_eq_true,decide_eq_true_eq]
 exact⟨fun⟨x,h,e⟩=>e▸h,fun h=>⟨k,h,rfl⟩⟩
theorem KR {κ:Type} [DecidableEq κ] {k:κ} {S:List κ}:jr k S=false↔k∉S:=by
 rw[←Qi];simp
def rT (n:Int):List AV:=[.int .i64 n]
def anx (s:ByteArray):List AV:=[.str s]
def sl {α:Type} (sz:Nat) (c:α→List AV) (l:List α):AV:=.sl sz (l.map c)
def eZ {α:Type} (p:α→Prop) (l:List α):Prop:=l.length≤aW∧∀x∈l,p x
def jc (s:ByteArray):Prop:=s.size≤aW
theorem YW (n:Int):A.aj 0 (rT n)=some (.int .i64 n):=rfl
theorem YX (s:ByteArray):A.aj 0 (anx s)=some (.str s):=rfl
structure lD where
 time:Int
 way:Int
deriving DecidableEq
def gV (x:lD):List AV:=[.int .i64 x.time,.int .i64 x.way]
theorem afD (x:lD):(gV x).length=2:=rfl
def YQ (x:lD):Prop:=aN x.time∧aN x.way
theorem G8 (x:lD):A.aj 0 (gV x)=some (.int .i64 x.time):=rfl
theorem G9 (x:lD):A.aj 1 (gV x)=some (.int .i64 x.way):=rfl
theorem C2 (x:lD):A.ay 0 2 (gV x)=some (.agg (gV x)):=rfl
theorem CY (x:lD):A.cells 2 (.agg (gV x))=some (gV x):=rfl
theorem C4 (x:lD) (l:List AV) (h:l.length=2):A.splice 0 (gV x) l=some (gV x):=by
 simp [A.splice,afD,h]
structure oQ where
 kind:Int
 points:(List lD)
def lP (x:oQ):List AV:=[.int .i64 x.kind,sl 2 gV x.points]
theorem afA (x:oQ):(lP x).length=2:=rfl
def akh (x:oQ):Prop:=aN x.kind∧(eZ YQ) x.points
theorem vT (x:oQ):A.aj 0 (lP x)=some (.int .i64 x.kind):=rfl
theorem vU (x:oQ):A.aj 1 (lP x)=some (sl 2 gV x.points):=rfl
theorem vW (x:oQ):A.ay 0 2 (lP x)=some (.agg (lP x)):=rfl
theorem vV (x:oQ):A.cells 2 (.agg (lP x))=some (lP x):=rfl
theorem vY (x:oQ) (l:List AV) (h:l.length=2):A.splice 0 (lP x) l=some (lP x):=by
 simp [A.splice,afA,h]
structure gB where
 dA:Int
 to:Int
 start:Int
 delay:Int
 time:Int
 fu:oQ
def fG (x:gB):List AV:=[.int .i64 x.dA,.int .i64 x.to,.int .i64 x.start,.int .i64 x.delay,.int .i64 x.time,.int .i64 x.fu.kind,sl 2 gV x.fu.points]
theorem agP (x:gB):(fG x).length=7:=rfl
theorem V0 (x:gB):A.aj 0 (fG x)=some (.int .i64 x.dA):=rfl
theorem V1 (x:gB):A.aj 1 (fG x)=some (.int .i64 x.to):=rfl
theorem KT (x:gB):A.aj 2 (fG x)=some (.int .i64 x.start):=rfl
theorem Px (x:gB):A.aj 3 (fG x)=some (.int .i64 x.delay):=rfl
theorem V2 (x:gB):A.aj 4 (fG x)=some (.int .i64 x.time):=rfl
theorem ady (x:gB):A.ay 5 2 (fG x)=some (.agg (lP x.fu)):=rfl
theorem Fp (x:gB):A.ay 0 7 (fG x)=some (.agg (fG x)):=rfl
theorem C7 (x:gB):A.cells 7 (.agg (fG x))=some (fG x):=rfl
theorem LN (x:gB) (l:List AV) (h:l.length=7):A.splice 0 (fG x) l=some (fG x):=by
 simp [A.splice,agP,h]
structure ajf where
 time:Int
 level:Int
deriving DecidableEq
structure ow where
 low:Int
 high:Int
 name:ByteArray
deriving DecidableEq
def mm (x:ow):List AV:=[.int .i64 x.low,.int .i64 x.high,.str x.name]
theorem afE (x:ow):(mm x).length=3:=rfl
def QN (x:ow):Prop:=aN x.low∧aN x.high∧jc x.name
theorem KH (x:ow):A.aj 0 (mm x)=some (.int .i64 x.low):=rfl
theorem KI (x:ow):A.aj 1 (mm x)=some (.int .i64 x.high):=rfl
theorem KJ (x:ow):A.aj 2 (mm x)=some (.str x.name):=rfl
theorem Lj (x:ow):A.ay 0 3 (mm x)=some (.agg (mm x)):=rfl
theorem Lb (x:ow):A.cells 3 (.agg (mm x))=some (mm x):=rfl
theorem Lo (x:ow) (l:List AV) (h:l.length=3):A.splice 0 (mm x) l=some (mm x):=by
 simp [A.splice,afE,h]
structure ep where
 name:ByteArray
 group:Int
 nr:Int
 lZ:Int
 default:Int
 snap:Bool
 ranges:(List ow)
def eU (x:ep):List AV:=[.str x.name,.int .i64 x.group,.int .i64 x.nr,.int .i64 x.lZ,.int .i64 x.default,.bool x.snap,sl 3 mm x.ranges]
theorem afC (x:ep):(eU x).length=7:=rfl
def YP (x:ep):Prop:=jc x.name∧aN x.group∧aN x.nr∧aN x.lZ∧aN x.default∧(eZ QN) x.ranges
theorem KG (x:ep):A.aj 0 (eU x)=some (.str x.name):=rfl
theorem O3 (x:ep):A.aj 1 (eU x)=some (.int .i64 x.group):=rfl
theorem O4 (x:ep):A.aj 2 (eU x)=some (.int .i64 x.nr):=rfl
theorem O5 (x:ep):A.aj 3 (eU x)=some (.int .i64 x.lZ):=rfl
theorem O6 (x:ep):A.aj 4 (eU x)=some (.int .i64 x.default):=rfl
theorem O7 (x:ep):A.aj 5 (eU x)=some (.bool x.snap):=rfl
theorem O8 (x:ep):A.aj 6 (eU x)=some (sl 3 mm x.ranges):=rfl
theorem P4 (x:ep):A.ay 0 7 (eU x)=some (.agg (eU x)):=rfl
theorem PR (x:ep):A.cells 7 (.agg (eU x))=some (eU x):=rfl
theorem Ln (x:ep) (l:List AV) (h:l.length=7):A.splice 0 (eU x) l=some (eU x):=by
 simp [A.splice,afC,h]
structure cV where
 name:ByteArray
 size:Int
 params:(List ep)
def ck (x:cV):List AV:=[.str x.name,.int .i64 x.size,sl 7 eU x.params]
theorem aea (x:cV):(ck x).length=3:=rfl
def Lh (x:cV):Prop:=jc x.name∧aN x.size∧(eZ YP) x.params
theorem qd (x:cV):A.aj 0 (ck x)=some (.str x.name):=rfl
theorem rA (x:cV):A.aj 1 (ck x)=some (.int .i64 x.size):=rfl
theorem qg (x:cV):A.aj 2 (ck x)=some (sl 7 eU x.params):=rfl
theorem rE (x:cV):A.ay 0 3 (ck x)=some (.agg (ck x)):=rfl
theorem rC (x:cV):A.cells 3 (.agg (ck x))=some (ck x):=rfl
theorem rF (x:cV) (l:List AV) (h:l.length=3):A.splice 0 (ck x) l=some (ck x):=by
 simp [A.splice,aea,h]
structure gW where
 number:Int
 profile:ByteArray
 univ:Int
 address:Int
deriving DecidableEq
def bV (x:gW):List AV:=[.int .i64 x.number,.str x.profile,.int .i64 x.univ,.int .i64 x.address]
theorem agT (x:gW):(bV x).length=4:=rfl
def ZL (x:gW):Prop:=aN x.number∧jc x.profile∧aN x.univ∧aN x.address
theorem qh (x:gW):A.aj 0 (bV x)=some (.int .i64 x.number):=rfl
theorem qi (x:gW):A.aj 1 (bV x)=some (.str x.profile):=rfl
theorem qj (x:gW):A.aj 2 (bV x)=some (.int .i64 x.univ):=rfl
theorem ql (x:gW):A.aj 3 (bV x)=some (.int .i64 x.address):=rfl
theorem qn (x:gW):A.ay 0 4 (bV x)=some (.agg (bV x)):=rfl
theorem qm (x:gW):A.cells 4 (.agg (bV x))=some (bV x):=rfl
theorem qp (x:gW) (l:List AV) (h:l.length=4):A.splice 0 (bV x) l=some (bV x):=by
 simp [A.splice,agT,h]
structure gp where
 aY:(List cV)
 units:(List gW)
def jM (x:gp):List AV:=[sl 3 ck x.aY,sl 4 bV x.units]
theorem ah1 (x:gp):(jM x).length=2:=rfl
def BZ (x:gp):Prop:=(eZ Lh) x.aY∧(eZ ZL) x.units
theorem yg (x:gp):A.aj 0 (jM x)=some (sl 3 ck x.aY):=rfl
theorem yh (x:gp):A.aj 1 (jM x)=some (sl 4 bV x.units):=rfl
theorem yw (x:gp):A.ay 0 2 (jM x)=some (.agg (jM x)):=rfl
theorem yq (x:gp):A.cells 2 (.agg (jM x))=some (jM x):=rfl
theorem yx (x:gp) (l:List AV) (h:l.length=2):A.splice 0 (jM x) l=some (jM x):=by
 simp [A.splice,ah1,h]
structure aB where
 unit:Int
 param:ByteArray
deriving DecidableEq
def aO (x:aB):List AV:=[.int .i64 x.unit,.str x.param]
theorem ah0 (x:aB):(aO x).length=2:=rfl
def aau (x:aB):Prop:=aN x.unit∧jc x.param
theorem rJ (x:aB):A.ay 0 2 (aO x)=some (.agg (aO x)):=rfl
theorem Da (x:aB):A.cells 2 (.agg (aO x))=some (aO x):=rfl
theorem HI (x:aB) (l:List AV) (h:l.length=2):A.splice 0 (aO x) l=some (aO x):=by
 simp [A.splice,ah0,h]
structure lK where
 key:aB
 level:Int
deriving DecidableEq
def dX (x:lK):List AV:=[.int .i64 x.key.unit,.str x.key.param,.int .i64 x.level]
theorem aeb (x:lK):(dX x).length=3:=rfl
def WT (x:lK):Prop:=aau x.key∧aN x.level
theorem VH (x:lK) (l:List AV) (h:l.length=3):A.splice 0 (dX x) l=some (dX x):=by
 simp [A.splice,aeb,h]
structure jU where
 number:Int
 title:ByteArray
 jK:(List lK)
def dL (x:jU):List AV:=[.int .i64 x.number,.str x.title,sl 3 dX x.jK]
theorem aeJ (x:jU):(dL x).length=3:=rfl
def zo (x:jU):Prop:=aN x.number∧jc x.title∧(eZ WT) x.jK
theorem Wl (x:jU) (l:List AV) (h:l.length=3):A.splice 0 (dL x) l=some (dL x):=by
 simp [A.splice,aeJ,h]
structure amC where
 aps:(List Int)
 block:Int
 apC:Int
structure lW where
 level:Int
 gf:Int
deriving DecidableEq
def uV (x:lW):List AV:=[.int .i64 x.level,.int .i64 x.gf]
def aki (x:lW):Prop:=aN x.level∧aN x.gf
structure fF where
 key:aB
 value:lW
 release:Bool
 yK:Bool
 delay:Int
 time:Int
deriving DecidableEq
def fH (x:fF):List AV:=[.int .i64 x.key.unit,.str x.key.param,.int .i64 x.value.level,.int .i64 x.value.gf,.bool x.release,.bool x.yK,.int .i64 x.delay,.int .i64 x.time]
theorem agR (x:fF):(fH x).length=8:=rfl
def Mp (x:fF):Prop:=aau x.key∧aki x.value∧aN x.delay∧aN x.time
theorem af0 (x:fF):A.aj 0 (fH x)=some (.int .i64 x.key.unit):=rfl
theorem af1 (x:fF):A.aj 1 (fH x)=some (.str x.key.param):=rfl
theorem af2 (x:fF):A.aj 2 (fH x)=some (.int .i64 x.value.level):=rfl
theorem af3 (x:fF):A.aj 3 (fH x)=some (.int .i64 x.value.gf):=rfl
theorem af4 (x:fF):A.aj 4 (fH x)=some (.bool x.release):=rfl
theorem af5 (x:fF):A.aj 5 (fH x)=some (.bool x.yK):=rfl
theorem af6 (x:fF):A.aj 6 (fH x)=some (.int .i64 x.delay):=rfl
theorem af7 (x:fF):A.aj 7 (fH x)=some (.int .i64 x.time):=rfl
theorem aer (x:fF):A.ay 0 2 (fH x)=some (.agg (aO x.key)):=rfl
theorem adz (x:fF):A.ay 2 2 (fH x)=some (.agg (uV x.value)):=rfl
theorem aiM (x:fF):A.ay 0 8 (fH x)=some (.agg (fH x)):=rfl
theorem ah4 (x:fF):A.cells 8 (.agg (fH x))=some (fH x):=rfl
theorem LP (x:fF) (l:List AV) (h:l.length=8):A.splice 0 (fH x) l=some (fH x):=by
 simp [A.splice,agR,h]
structure bg where
 number:Int
 title:ByteArray
 delay:Int
 up:Int
 down:Int
 other:Int
 fu:oQ
 block:Bool
 follow:Int
 dw:(List fF)
def aZ (x:bg):List AV:=[.int .i64 x.number,.str x.title,.int .i64 x.delay,.int .i64 x.up,.int .i64 x.down,.int .i64 x.other,.int .i64 x.fu.kind,sl 2 gV x.fu.points,.bool x.block,.int .i64 x.follow,sl 8 fH x.dw]
theorem ahY (x:bg):(aZ x).length=11:=rfl
def BY (x:bg):Prop:=aN x.number∧jc x.title∧aN x.delay∧aN x.up∧aN x.down∧aN x.other∧akh x.fu∧aN x.follow∧(eZ Mp) x.dw
theorem PZ (x:bg):A.aj 0 (aZ x)=some (.int .i64 x.number):=rfl
theorem aht (x:bg):A.aj 1 (aZ x)=some (.str x.title):=rfl
theorem P0 (x:bg):A.aj 2 (aZ x)=some (.int .i64 x.delay):=rfl
theorem WY (x:bg):A.aj 3 (aZ x)=some (.int .i64 x.up):=rfl
theorem P3 (x:bg):A.aj 4 (aZ x)=some (.int .i64 x.down):=rfl
theorem WZ (x:bg):A.aj 5 (aZ x)=some (.int .i64 x.other):=rfl
theorem ahu (x:bg):A.aj 6 (aZ x)=some (.int .i64 x.fu.kind):=rfl
theorem ahv (x:bg):A.aj 7 (aZ x)=some (sl 2 gV x.fu.points):=rfl
theorem ahw (x:bg):A.aj 8 (aZ x)=some (.bool x.block):=rfl
theorem W7 (x:bg):A.aj 9 (aZ x)=some (.int .i64 x.follow):=rfl
theorem VZ (x:bg):A.aj 10 (aZ x)=some (sl 8 fH x.dw):=rfl
theorem OE (x:bg):A.ay 6 2 (aZ x)=some (.agg (lP x.fu)):=rfl
theorem HF (x:bg):A.ay 0 11 (aZ x)=some (.agg (aZ x)):=rfl
theorem LX (x:bg):A.cells 11 (.agg (aZ x))=some (aZ x):=rfl
theorem HH (x:bg) (l:List AV) (h:l.length=11):A.splice 0 (aZ x) l=some (aZ x):=by
 simp [A.splice,ahY,h]
structure bh where
 key:aB
 value:lW
 bQ:Int
deriving DecidableEq
def cI (x:bh):List AV:=[.int .i64 x.key.unit,.str x.key.param,.int .i64 x.value.level,.int .i64 x.value.gf,.int .i64 x.bQ]
theorem afB (x:bh):(cI x).length=5:=rfl
theorem ahK (x:bh) (l:List AV) (h:l.length=5):A.splice 0 (cI x) l=some (cI x):=by
 simp [A.splice,afB,h]
structure alS where
 unit:Int
 dA:Int
 to:Int
deriving DecidableEq
structure iU where
 number:Int
 bD:(List bg)
def dQ (x:iU):List AV:=[.int .i64 x.number,sl 11 aZ x.bD]
theorem agQ (x:iU):(dQ x).length=2:=rfl
def ZK (x:iU):Prop:=aN x.number∧(eZ BY) x.bD
theorem afZ (x:iU):A.aj 0 (dQ x)=some (.int .i64 x.number):=rfl
theorem Py (x:iU):A.aj 1 (dQ x)=some (sl 11 aZ x.bD):=rfl
theorem aiL (x:iU):A.ay 0 2 (dQ x)=some (.agg (dQ x)):=rfl
theorem ah3 (x:iU):A.cells 2 (.agg (dQ x))=some (dQ x):=rfl
theorem LO (x:iU) (l:List AV) (h:l.length=2):A.splice 0 (dQ x) l=some (dQ x):=by
 simp [A.splice,agQ,h]
structure lJ where
 number:Int
 list:Int
 priority:Int
deriving DecidableEq
def bO (x:lJ):List AV:=[.int .i64 x.number,.int .i64 x.list,.int .i64 x.priority]
theorem adR (x:lJ):(bO x).length=3:=rfl
def VY (x:lJ):Prop:=aN x.number∧aN x.list∧aN x.priority
theorem adv (x:lJ):A.aj 0 (bO x)=some (.int .i64 x.number):=rfl
theorem adw (x:lJ):A.aj 1 (bO x)=some (.int .i64 x.list):=rfl
theorem adx (x:lJ):A.aj 2 (bO x)=some (.int .i64 x.priority):=rfl
theorem aes (x:lJ):A.ay 0 3 (bO x)=some (.agg (bO x)):=rfl
theorem aec (x:lJ):A.cells 3 (.agg (bO x))=some (bO x):=rfl
theorem Vi (x:lJ) (l:List AV) (h:l.length=3):A.splice 0 (bO x) l=some (bO x):=by
 simp [A.splice,adR,h]
structure fU where
 aQ:gp
 bH:(List jU)
 lists:(List iU)
 bk:(List lJ)
def bB (x:fU):List AV:=[sl 3 ck x.aQ.aY,sl 4 bV x.aQ.units,sl 3 dL x.bH,sl 2 dQ x.lists,sl 3 bO x.bk]
def uT (x:fU):Prop:=BZ x.aQ∧(eZ zo) x.bH∧(eZ ZK) x.lists∧(eZ VY) x.bk
theorem VC (x:fU):A.aj 0 (bB x)=some (sl 3 ck x.aQ.aY):=rfl
structure dR where
 time:Int
 kind:Int
 iN:Int
 bQ:Int
 level:Int
deriving DecidableEq
def bE (x:dR):List AV:=[.int .i64 x.time,.int .i64 x.kind,.int .i64 x.iN,.int .i64 x.bQ,.int .i64 x.level]
def LH (x:dR):Prop:=aN x.time∧aN x.kind∧aN x.iN∧aN x.bQ∧aN x.level
theorem aep (x:dR):A.aj 0 (bE x)=some (.int .i64 x.time):=rfl
theorem KV (x:dR):A.ay 0 5 (bE x)=some (.agg (bE x)):=rfl
structure akT where
 nr:Int
 action:dR
deriving DecidableEq
structure akW where
 hours:Int
 minutes:Int
 seconds:Int
 frames:Int
deriving DecidableEq
structure aaI where
 key:aB
 jN:gB
 lY:Int
 ending:Bool
structure agJ where
 iN:Int
 bQ:Int
 jg:Int
 ZQ:Bool
 follow:Int
 runs:(List aaI)
structure Vk where
 level:Int
 hold:Int
 jN:Int
deriving DecidableEq
structure Yq where
 form:Int
 low:Int
 high:Int
 apv:Int
 width:Int
 spread:Int
 back:Bool
 apr:Bool
 steps:(List Vk)
structure Z7 where
 time:Int
 apt:Int
deriving DecidableEq
structure ahS where
 effect:Yq
 keys:(List aB)
 start:Int
 apA:(List Z7)
 GA:Int
 fin:Int
 out:Int
def Kk:List AV→Heap→Option (AV×Heap):=A.cR fun a b σ=>match a,b with
 |.str a,.str b=>some (.int .i64 (Lib.compareBytes a.data.toList b.data.toList),σ)
 |_,_=>none
def qw (a b:aB):Int:=if ¬(a.unit=b.unit)then(if a.unit<b.unit then -1 else 1)else Lib.compareBytes a.param.data.toList b.param.data.toList
def tZ {α:Type} [Inhabited α] (cf:α→α→Int) (l:List α):List α:=(Sort.pdq (fun x y=>decide (cf x y<0)) l.toArray 0 l.length (Lib.bitLen l.length) true true).toList
noncomputable def A.H6 {α:Type} [Inhabited α] (sz:Nat) (c:α→List AV) (cf:α→α→Int) (x:AV) (σ:Heap):Option (AV×Heap):=match x with
 |.au=>some (.aH [],σ)
 |.os id g fO off len=>match σ[id]? with
  | some (.arr g' sz' es) => open Classical in if h : (g = g' ∧ sz = sz' ∧ fO = sz ∧ off + len ≤ es.length ∧ 0 < len ∧ len < 4611686018427387904) ∧ ∃ l : List α, (es.drop off).take len = l.map c then
    some (.aH [],σ.set id (.arr g sz (es.take off++(tZ cf (Classical.choose h.2)).map c++es.drop (off+len))))else none
  |_=>none
 |_=>none
noncomputable def GI:List AV→Heap→Option (AV×Heap):=A.cR fun x f σ=>match f with
 |.fn 297 []=>@A.H6 bh ⟨⟨⟨0,⟨#[]⟩⟩,⟨0,0⟩,0⟩⟩ 5 cI (fun a b=>qw a.key b.key) x σ
 |_=>none
section
set_option maxRecDepth 100000
noncomputable def JX (dyn:Nat→List AV→Heap→Option (AV×Heap)) (a0 a1:AV) (σ:Heap):Option (AV×Heap):=
 (A.bG a0).bind fun x1=>
 (A.loop (fun v2 s3=>
   (A.lss (v2.getD 1 AV.undef) x1).bind fun x5=>
   A.cond x5 (
    (A.aU 3 a0 (v2.getD 1 AV.undef)).bind fun x6=>
    ((A.deref x6 s3).bind fun c7=>A.ay 0 3 c7).bind fun x8=>
    (A.jE dyn a1 [x8] s3).bind fun r9=>
    A.cond r9.1 (
     some (AX.ret,[(v2.getD 1 AV.undef),(v2.getD 1 AV.undef)],r9.2)) (
     (A.add (v2.getD 1 AV.undef) aG).bind fun bJ=>
     some (AX.normal,[(v2.getD 0 AV.undef),bJ],r9.2))) (
    some (AX.exit 0,[(v2.getD 0 AV.undef),(v2.getD 1 AV.undef)],s3))) [ah,ah] σ).bind fun dF=>
 bif dF.1==AX.exit 0 then(
  A.fin σ (AV.int .i64 (-1)) dF.2.2)else
 bif dF.1==AX.ret then(
  A.fin σ (dF.2.1.getD 0 AV.undef) dF.2.2)else
 none
noncomputable def JW (dyn:Nat→List AV→Heap→Option (AV×Heap)):List AV→Heap→Option (AV×Heap):=A.wrap true [(.s 3)] .k (A.cR (JX dyn))
noncomputable def J4 (dyn:Nat→List AV→Heap→Option (AV×Heap)) (a0 a1:AV) (σ:Heap):Option (AV×Heap):=
 (A.bG a0).bind fun x1=>
 (A.loop (fun v2 s3=>
   (A.lss (v2.getD 1 AV.undef) x1).bind fun x5=>
   A.cond x5 (
    (A.aU 8 a0 (v2.getD 1 AV.undef)).bind fun x6=>
    ((A.deref x6 s3).bind fun c7=>A.ay 0 8 c7).bind fun x8=>
    (A.jE dyn a1 [x8] s3).bind fun r9=>
    A.cond r9.1 (
     some (AX.ret,[(v2.getD 1 AV.undef),(v2.getD 1 AV.undef)],r9.2)) (
     (A.add (v2.getD 1 AV.undef) aG).bind fun bJ=>
     some (AX.normal,[(v2.getD 0 AV.undef),bJ],r9.2))) (
    some (AX.exit 0,[(v2.getD 0 AV.undef),(v2.getD 1 AV.undef)],s3))) [ah,ah] σ).bind fun dF=>
 bif dF.1==AX.exit 0 then(
  A.fin σ (AV.int .i64 (-1)) dF.2.2)else
 bif dF.1==AX.ret then(
  A.fin σ (dF.2.1.getD 0 AV.undef) dF.2.2)else
 none
noncomputable def GG (dyn:Nat→List AV→Heap→Option (AV×Heap)):List AV→Heap→Option (AV×Heap):=A.wrap true [(.s 8)] .k (A.cR (J4 dyn))
noncomputable def NH (a0:AV) (σ:Heap):Option (AV×Heap):=
 (A.pY a0 AV.au).bind fun x1=>
 A.cond x1 (
  some (AV.au,σ)) (
  (A.append 2 (140737488355328 / 16) AV.ez a0 σ).bind fun r2=>
  some (r2.1,r2.2))
noncomputable def CH:List AV→Heap→Option (AV×Heap):=A.qv (A.wrap true [(.s 2)] .k (A.cD NH))
noncomputable def NK (a0:AV) (σ:Heap):Option (AV×Heap):=
 (A.pY a0 AV.au).bind fun x1=>
 A.cond x1 (
  some (AV.au,σ)) (
  (A.append 8 (140737488355328 / 64) AV.ez a0 σ).bind fun r2=>
  some (r2.1,r2.2))
noncomputable def CJ:List AV→Heap→Option (AV×Heap):=A.qv (A.wrap true [(.s 8)] .k (A.cD NK))
noncomputable def EE (dyn:Nat→List AV→Heap→Option (AV×Heap)) (a0 a1 a2:AV) (σ:Heap):Option (AV×Heap):=
 (A.bG a0).bind fun x1=>
 (A.loop (fun v2 s3=>
   (A.lss (v2.getD 0 AV.undef) (v2.getD 1 AV.undef)).bind fun x5=>
   A.cond x5 (
    (A.add (v2.getD 0 AV.undef) (v2.getD 1 AV.undef)).bind fun x6=>
    (A.conv .u64 x6).bind fun x7=>
    (A.shr x7 (AV.int .u64 1)).bind fun x8=>
    (A.conv .i64 x8).bind fun x9=>
    (A.aU 11 a0 x9).bind fun bJ=>
    ((A.deref bJ s3).bind fun gh=>A.ay 0 11 gh).bind fun cO=>
    (A.jE dyn a2 [cO,a1] s3).bind fun qX=>
    (A.lss qX.1 ah).bind fun dc=>
    (A.cond dc (
     (A.add x9 aG).bind fun cz=>
     some ([cz,(v2.getD 1 AV.undef)],qX.2)) (
     some ([(v2.getD 0 AV.undef),x9],qX.2))).bind fun tv=>
    some (AX.normal,[(tv.1.getD 0 AV.undef),(tv.1.getD 1 AV.undef)],tv.2)) (
    some (AX.exit 0,[(v2.getD 0 AV.undef),(v2.getD 1 AV.undef)],s3))) [ah,x1] σ).bind fun tC=>
 bif tC.1==AX.exit 0 then(
  (A.lss (tC.2.1.getD 0 AV.undef) x1).bind fun bK=>
  (A.guard bK true (some a2) an).bind fun cW=>
  (A.guard bK true (some a0) an).bind fun dg=>
  (A.guard bK true (some (tC.2.1.getD 0 AV.undef)) an).bind fun bM=>
  (A.guard bK true (A.aU 11 dg bM) an).bind fun dh=>
  (A.guard bK true ((A.deref dh tC.2.2).bind fun eF=>A.ay 0 11 eF) an).bind fun x24=>
  (A.guard bK true (some a1) an).bind fun x25=>
  (A.guard bK true (A.quiet (A.jE dyn cW [x24,x25] tC.2.2) tC.2.2) an).bind fun fC=>
  (A.guard bK true (A.eql .i fC ah) an).bind fun dK=>
  (A.pick bK dK aM).bind fun x28=>
  A.fin σ (AV.aH [(tC.2.1.getD 0 AV.undef),x28]) tC.2.2)else
 none
noncomputable def ED (dyn:Nat→List AV→Heap→Option (AV×Heap)):List AV→Heap→Option (AV×Heap):=A.wrap true [(.s 11)] .k (A.lG (EE dyn))
noncomputable def Uk (a0:AV) (σ:Heap):Option (AV×Heap):=
 (A.pY a0 AV.au).bind fun x1=>
 A.cond x1 (
  some (AV.au,σ)) (
  (A.append 11 (140737488355328 / 128) AV.ez a0 σ).bind fun r2=>
  some (r2.1,r2.2))
noncomputable def CK:List AV→Heap→Option (AV×Heap):=A.qv (A.wrap true [(.s 11)] .k (A.cD Uk))
noncomputable def J6 (dyn:Nat→List AV→Heap→Option (AV×Heap)) (a0 a1:AV) (σ:Heap):Option (AV×Heap):=
 (A.bG a0).bind fun x1=>
 (A.loop (fun v2 s3=>
   (A.lss (v2.getD 1 AV.undef) x1).bind fun x5=>
   A.cond x5 (
    (A.aU 11 a0 (v2.getD 1 AV.undef)).bind fun x6=>
    ((A.deref x6 s3).bind fun c7=>A.ay 0 11 c7).bind fun x8=>
    (A.jE dyn a1 [x8] s3).bind fun r9=>
    A.cond r9.1 (
     some (AX.ret,[(v2.getD 1 AV.undef),(v2.getD 1 AV.undef)],r9.2)) (
     (A.add (v2.getD 1 AV.undef) aG).bind fun bJ=>
     some (AX.normal,[(v2.getD 0 AV.undef),bJ],r9.2))) (
    some (AX.exit 0,[(v2.getD 0 AV.undef),(v2.getD 1 AV.undef)],s3))) [ah,ah] σ).bind fun dF=>
 bif dF.1==AX.exit 0 then(
  A.fin σ (AV.int .i64 (-1)) dF.2.2)else
 bif dF.1==AX.ret then(
  A.fin σ (dF.2.1.getD 0 AV.undef) dF.2.2)else
 none
noncomputable def GH (dyn:Nat→List AV→Heap→Option (AV×Heap)):List AV→Heap→Option (AV×Heap):=A.wrap true [(.s 11)] .k (A.cR (J6 dyn))
noncomputable def NF (a0 a1:AV) (σ:Heap):Option (AV×Heap):=
 (A.bG a0).bind fun x1=>
 (A.bG a1).bind fun x2=>
 (A.neq .i x1 x2).bind fun x3=>
 A.cond x3 (
  A.fin σ aM σ) (
  (A.bG a0).bind fun x4=>
  (A.loop (fun v5 s6=>
    (A.lss (v5.getD 1 AV.undef) x4).bind fun x8=>
    A.cond x8 (
     (A.aU 3 a0 (v5.getD 1 AV.undef)).bind fun x9=>
     ((A.deref x9 s6).bind fun dY=>A.ay 0 3 dY).bind fun bT=>
     (A.aU 3 a1 (v5.getD 1 AV.undef)).bind fun cO=>
     ((A.deref cO s6).bind fun iY=>A.ay 0 3 iY).bind fun dc=>
     (A.neq (.s [0,2,0]) bT dc).bind fun cU=>
     A.cond cU (
      some (AX.ret,[aM,(v5.getD 1 AV.undef)],s6)) (
      (A.add (v5.getD 1 AV.undef) aG).bind fun cz=>
      some (AX.normal,[(v5.getD 0 AV.undef),cz],s6))) (
     some (AX.exit 0,[(v5.getD 0 AV.undef),(v5.getD 1 AV.undef)],s6))) [aM,ah] σ).bind fun tC=>
  bif tC.1==AX.exit 0 then(
   A.fin σ cL tC.2.2)else
  bif tC.1==AX.ret then(
   A.fin σ (tC.2.1.getD 0 AV.undef) tC.2.2)else
  none)
noncomputable def J5:List AV→Heap→Option (AV×Heap):=A.wrap true [(.s 3),(.s 3)] .k (A.cR NF)
noncomputable def J3 (dyn:Nat→List AV→Heap→Option (AV×Heap)) (a0 a1:AV) (σ:Heap):Option (AV×Heap):=
 (A.bG a0).bind fun x1=>
 (A.loop (fun v2 s3=>
   (A.lss (v2.getD 1 AV.undef) x1).bind fun x5=>
   A.cond x5 (
    (A.aU 2 a0 (v2.getD 1 AV.undef)).bind fun x6=>
    ((A.deref x6 s3).bind fun c7=>A.ay 0 2 c7).bind fun x8=>
    (A.jE dyn a1 [x8] s3).bind fun r9=>
    A.cond r9.1 (
     some (AX.ret,[(v2.getD 1 AV.undef),(v2.getD 1 AV.undef)],r9.2)) (
     (A.add (v2.getD 1 AV.undef) aG).bind fun bJ=>
     some (AX.normal,[(v2.getD 0 AV.undef),bJ],r9.2))) (
    some (AX.exit 0,[(v2.getD 0 AV.undef),(v2.getD 1 AV.undef)],s3))) [ah,ah] σ).bind fun dF=>
 bif dF.1==AX.exit 0 then(
  A.fin σ (AV.int .i64 (-1)) dF.2.2)else
 bif dF.1==AX.ret then(
  A.fin σ (dF.2.1.getD 0 AV.undef) dF.2.2)else
 none
noncomputable def JZ (dyn:Nat→List AV→Heap→Option (AV×Heap)):List AV→Heap→Option (AV×Heap):=A.wrap true [(.s 2)] .k (A.cR (J3 dyn))
noncomputable def JV (dyn:Nat→List AV→Heap→Option (AV×Heap)) (a0 a1:AV) (σ:Heap):Option (AV×Heap):=
 (A.bG a0).bind fun x1=>
 (A.loop (fun v2 s3=>
   (A.lss (v2.getD 1 AV.undef) x1).bind fun x5=>
   A.cond x5 (
    (A.aU 3 a0 (v2.getD 1 AV.undef)).bind fun x6=>
    ((A.deref x6 s3).bind fun c7=>A.ay 0 3 c7).bind fun x8=>
    (A.jE dyn a1 [x8] s3).bind fun r9=>
    A.cond r9.1 (
     some (AX.ret,[(v2.getD 1 AV.undef),(v2.getD 1 AV.undef)],r9.2)) (
     (A.add (v2.getD 1 AV.undef) aG).bind fun bJ=>
     some (AX.normal,[(v2.getD 0 AV.undef),bJ],r9.2))) (
    some (AX.exit 0,[(v2.getD 0 AV.undef),(v2.getD 1 AV.undef)],s3))) [ah,ah] σ).bind fun dF=>
 bif dF.1==AX.exit 0 then(
  A.fin σ (AV.int .i64 (-1)) dF.2.2)else
 bif dF.1==AX.ret then(
  A.fin σ (dF.2.1.getD 0 AV.undef) dF.2.2)else
 none
noncomputable def JU (dyn:Nat→List AV→Heap→Option (AV×Heap)):List AV→Heap→Option (AV×Heap):=A.wrap true [(.s 3)] .k (A.cR (JV dyn))
noncomputable def JT (dyn:Nat→List AV→Heap→Option (AV×Heap)) (a0 a1:AV) (σ:Heap):Option (AV×Heap):=
 (JU dyn [a0,a1] σ).bind fun r1=>
 (A.geq r1.1 ah).bind fun x2=>
 A.fin σ x2 r1.2
noncomputable def JS (dyn:Nat→List AV→Heap→Option (AV×Heap)):List AV→Heap→Option (AV×Heap):=A.wrap true [(.s 3)] .k (A.cR (JT dyn))
noncomputable def NC (a0:AV) (σ:Heap):Option (AV×Heap):=
 (A.pY a0 AV.au).bind fun x1=>
 A.cond x1 (
  some (AV.au,σ)) (
  (A.append 3 (140737488355328 / 24) AV.ez a0 σ).bind fun r2=>
  some (r2.1,r2.2))
noncomputable def NB:List AV→Heap→Option (AV×Heap):=A.qv (A.wrap true [(.s 3)] .k (A.cD NC))
noncomputable def NL (a0:AV) (σ:Heap):Option (AV×Heap):=
 (A.pY a0 AV.au).bind fun x1=>
 A.cond x1 (
  some (AV.au,σ)) (
  (A.append 4 (140737488355328 / 40) AV.ez a0 σ).bind fun r2=>
  some (r2.1,r2.2))
noncomputable def NJ:List AV→Heap→Option (AV×Heap):=A.qv (A.wrap true [(.s 4)] .k (A.cD NL))
noncomputable def Uj (a0:AV) (σ:Heap):Option (AV×Heap):=
 (A.pY a0 AV.au).bind fun x1=>
 A.cond x1 (
  some (AV.au,σ)) (
  (A.append 7 (140737488355328 / 80) AV.ez a0 σ).bind fun r2=>
  some (r2.1,r2.2))
noncomputable def EI:List AV→Heap→Option (AV×Heap):=A.qv (A.wrap true [(.s 7)] .k (A.cD Uj))
noncomputable def NI (a0:AV) (σ:Heap):Option (AV×Heap):=
 (A.pY a0 AV.au).bind fun x1=>
 A.cond x1 (
  some (AV.au,σ)) (
  (A.append 3 (140737488355328 / 32) AV.ez a0 σ).bind fun r2=>
  some (r2.1,r2.2))
noncomputable def CI:List AV→Heap→Option (AV×Heap):=A.qv (A.wrap true [(.s 3)] .k (A.cD NI))
noncomputable def ND (a0:AV) (σ:Heap):Option (AV×Heap):=
 (A.pY a0 AV.au).bind fun x1=>
 A.cond x1 (
  some (AV.au,σ)) (
  (A.append 3 (140737488355328 / 32) AV.ez a0 σ).bind fun r2=>
  some (r2.1,r2.2))
noncomputable def EF:List AV→Heap→Option (AV×Heap):=A.qv (A.wrap true [(.s 3)] .k (A.cD ND))
noncomputable def NG (a0:AV) (σ:Heap):Option (AV×Heap):=
 (A.pY a0 AV.au).bind fun x1=>
 A.cond x1 (
  some (AV.au,σ)) (
  (A.append 5 (140737488355328 / 40) AV.ez a0 σ).bind fun r2=>
  some (r2.1,r2.2))
noncomputable def J7:List AV→Heap→Option (AV×Heap):=A.qv (A.wrap false [] .k (A.cD NG))
noncomputable def EH (a0:AV) (σ:Heap):Option (AV×Heap):=
 (A.pY a0 AV.au).bind fun x1=>
 A.cond x1 (
  some (AV.au,σ)) (
  (A.append 10 (140737488355328 / 96) AV.ez a0 σ).bind fun r2=>
  some (r2.1,r2.2))
noncomputable def EG:List AV→Heap→Option (AV×Heap):=A.qv (A.wrap false [] .k (A.cD EH))
noncomputable def JY (dyn:Nat→List AV→Heap→Option (AV×Heap)) (a0 a1:AV) (σ:Heap):Option (AV×Heap):=
 (A.bG a0).bind fun x1=>
 (A.loop (fun v2 s3=>
   (A.lss (v2.getD 1 AV.undef) x1).bind fun x5=>
   A.cond x5 (
    (A.aU 10 a0 (v2.getD 1 AV.undef)).bind fun x6=>
    ((A.deref x6 s3).bind fun c7=>A.ay 0 10 c7).bind fun x8=>
    (A.jE dyn a1 [x8] s3).bind fun r9=>
    A.cond r9.1 (
     some (AX.ret,[(v2.getD 1 AV.undef),(v2.getD 1 AV.undef)],r9.2)) (
     (A.add (v2.getD 1 AV.undef) aG).bind fun bJ=>
     some (AX.normal,[(v2.getD 0 AV.undef),bJ],r9.2))) (
    some (AX.exit 0,[(v2.getD 0 AV.undef),(v2.getD 1 AV.undef)],s3))) [ah,ah] σ).bind fun dF=>
 bif dF.1==AX.exit 0 then(
  A.fin σ (AV.int .i64 (-1)) dF.2.2)else
 bif dF.1==AX.ret then(
  A.fin σ (dF.2.1.getD 0 AV.undef) dF.2.2)else
 none
noncomputable def GF (dyn:Nat→List AV→Heap→Option (AV×Heap)):List AV→Heap→Option (AV×Heap):=A.wrap true [(.s 10)] .k (A.cR (JY dyn))
end
section
set_option maxRecDepth 100000
noncomputable def PD (a0:AV) (σ:Heap):Option (AV×Heap):=
 (A.Co a0).bind fun x1=>
 (A.loop (fun v2 s3=>
   (A.lss (v2.getD 1 AV.undef) x1).bind fun x5=>
   A.cond x5 (
    (A.th a0 (v2.getD 1 AV.undef)).bind fun x6=>
    (A.geq x6 (AV.int .u8 97)).bind fun x7=>
    (A.guard x7 true (some x6) an).bind fun x8=>
    (A.guard x7 true (A.leq x8 (AV.int .u8 122)) an).bind fun x9=>
    (A.pick x7 x9 aM).bind fun bJ=>
    (A.guard bJ false (some x6) an).bind fun bT=>
    (A.guard bJ false (A.geq bT (AV.int .u8 48)) an).bind fun cO=>
    (A.guard bJ false (some cO) an).bind fun dr=>
    (A.guard dr true (some x6) an).bind fun dc=>
    (A.guard dr true (A.leq dc (AV.int .u8 57)) an).bind fun cU=>
    (A.guard bJ false (A.pick dr cU aM) an).bind fun cz=>
    (A.pick bJ cL cz).bind fun cG=>
    (A.guard cG false (some x6) an).bind fun bK=>
    (A.guard cG false (A.eql .i bK (AV.int .u8 45)) an).bind fun cW=>
    (A.pick cG cL cW).bind fun dg=>
    (A.not dg).bind fun bM=>
    A.cond bM (
     some (AX.ret,[aM,(v2.getD 1 AV.undef)],s3)) (
     (A.add (v2.getD 1 AV.undef) aG).bind fun dh=>
     some (AX.normal,[(v2.getD 0 AV.undef),dh],s3))) (
    some (AX.exit 0,[(v2.getD 0 AV.undef),(v2.getD 1 AV.undef)],s3))) [aM,ah] σ).bind fun nC=>
 bif nC.1==AX.exit 0 then(
  (A.neq .z a0 br).bind fun x24=>
  A.fin σ x24 nC.2.2)else
 bif nC.1==AX.ret then(
  A.fin σ (nC.2.1.getD 0 AV.undef) nC.2.2)else
 none
noncomputable def Pv:List AV→Heap→Option (AV×Heap):=A.wrap true [] .k (A.cD PD)
noncomputable def Pc (a0:AV) (σ:Heap):Option (AV×Heap):=
 (Pv [a0] σ).bind fun r1=>
 (A.guard r1.1 true (some a0) an).bind fun x2=>
 (A.guard r1.1 true (A.Co x2) an).bind fun x3=>
 (A.guard r1.1 true (A.leq x3 (AV.int .i64 20)) an).bind fun x4=>
 (A.pick r1.1 x4 aM).bind fun x5=>
 (A.guard x5 true (some a0) an).bind fun x6=>
 (A.guard x5 true (A.th x6 ah) an).bind fun x7=>
 (A.guard x5 true (A.geq x7 (AV.int .u8 97)) an).bind fun x8=>
 (A.pick x5 x8 aM).bind fun x9=>
 (A.guard x9 true (some a0) an).bind fun bJ=>
 (A.guard x9 true (A.th bJ ah) an).bind fun bT=>
 (A.guard x9 true (A.leq bT (AV.int .u8 122)) an).bind fun cO=>
 (A.pick x9 cO aM).bind fun dr=>
 A.fin σ dr r1.2
noncomputable def E5:List AV→Heap→Option (AV×Heap):=A.wrap true [] .k (A.cD Pc)
noncomputable def OJ (a0 a1 a2:AV) (σ:Heap):Option (AV×Heap):=
 (A.geq a0 a1).bind fun x1=>
 (A.guard x1 true (some a0) an).bind fun x2=>
 (A.guard x1 true (some a2) an).bind fun x3=>
 (A.guard x1 true (A.leq x2 x3) an).bind fun x4=>
 (A.pick x1 x4 aM).bind fun x5=>
 A.fin σ x5 σ
noncomputable def jC:List AV→Heap→Option (AV×Heap):=A.wrap true [] .k (A.lG OJ)
noncomputable def Pd (a0 a1:AV) (σ:Heap):Option (AV×Heap):=
 A.cond a0 (
  A.fin σ a1 σ) (
  A.fin σ ah σ)
noncomputable def rD:List AV→Heap→Option (AV×Heap):=A.wrap true [] .k (A.cR Pd)
noncomputable def OT (a0:AV) (σ:Heap):Option (AV×Heap):=
 (A.bG a0).bind fun x1=>
 (A.loop (fun v2 s3=>
   (A.lss (v2.getD 1 AV.undef) x1).bind fun x5=>
   A.cond x5 (
    (A.aU 1 a0 (v2.getD 1 AV.undef)).bind fun x6=>
    ((A.deref x6 s3).bind fun c7=>A.aj 0 c7).bind fun x8=>
    (A.neq .i x8 ah).bind fun x9=>
    A.cond x9 (
     some (AX.ret,[x8,(v2.getD 1 AV.undef)],s3)) (
     (A.add (v2.getD 1 AV.undef) aG).bind fun bJ=>
     some (AX.normal,[(v2.getD 0 AV.undef),bJ],s3))) (
    some (AX.exit 0,[(v2.getD 0 AV.undef),(v2.getD 1 AV.undef)],s3))) [ah,ah] σ).bind fun dF=>
 bif dF.1==AX.exit 0 then(
  A.fin σ ah dF.2.2)else
 bif dF.1==AX.ret then(
  A.fin σ (dF.2.1.getD 0 AV.undef) dF.2.2)else
 none
noncomputable def ya:List AV→Heap→Option (AV×Heap):=A.wrap true [(.s 1)] .k (A.cD OT)
noncomputable def OW (a0:AV) (σ:Heap):Option (AV×Heap):=
 (A.Co a0).bind fun x1=>
 (A.loop (fun v2 s3=>
   (A.lss (v2.getD 1 AV.undef) x1).bind fun x5=>
   A.cond x5 (
    (A.th a0 (v2.getD 1 AV.undef)).bind fun x6=>
    (A.lss x6 (AV.int .u8 32)).bind fun x7=>
    (A.guard x7 false (some a0) an).bind fun x8=>
    (A.guard x7 false (some (v2.getD 1 AV.undef)) an).bind fun x9=>
    (A.guard x7 false (A.th x8 x9) an).bind fun bJ=>
    (A.guard x7 false (A.gtr bJ (AV.int .u8 126)) an).bind fun bT=>
    (A.pick x7 cL bT).bind fun cO=>
    A.cond cO (
     some (AX.ret,[aM,(v2.getD 1 AV.undef)],s3)) (
     (A.add (v2.getD 1 AV.undef) aG).bind fun dr=>
     some (AX.normal,[(v2.getD 0 AV.undef),dr],s3))) (
    some (AX.exit 0,[(v2.getD 0 AV.undef),(v2.getD 1 AV.undef)],s3))) [aM,ah] σ).bind fun jd=>
 bif jd.1==AX.exit 0 then(
  (A.neq .z a0 br).bind fun cU=>
  (A.guard cU true (some a0) an).bind fun cz=>
  (A.guard cU true (A.Co cz) an).bind fun cG=>
  (A.guard cU true (A.leq cG (AV.int .i64 60)) an).bind fun bK=>
  (A.pick cU bK aM).bind fun cW=>
  (A.guard cW true (some a0) an).bind fun dg=>
  (A.guard cW true (A.th dg ah) an).bind fun bM=>
  (A.guard cW true (A.neq .i bM (AV.int .u8 32)) an).bind fun dh=>
  (A.pick cW dh aM).bind fun eP=>
  (A.guard eP true (some a0) an).bind fun x24=>
  (A.guard eP true (some a0) an).bind fun x25=>
  (A.guard eP true (A.Co x25) an).bind fun fC=>
  (A.guard eP true (A.sub fC aG) an).bind fun dK=>
  (A.guard eP true (A.th x24 dK) an).bind fun x28=>
  (A.guard eP true (A.neq .i x28 (AV.int .u8 32)) an).bind fun x29=>
  (A.pick eP x29 aM).bind fun cH=>
  A.fin σ cH jd.2.2)else
 bif jd.1==AX.ret then(
  A.fin σ (jd.2.1.getD 0 AV.undef) jd.2.2)else
 none
noncomputable def Kz:List AV→Heap→Option (AV×Heap):=A.wrap true [] .k (A.cD OW)
noncomputable def OU (a0 a1:AV) (σ:Heap):Option (AV×Heap):=
 (A.quo a0 a1).bind fun x1=>
 (A.rem a0 a1).bind fun x2=>
 (A.lss x2 ah).bind fun x3=>
 (A.cond x3 (
  (A.sub x1 aG).bind fun x5=>
  some ([x5],σ)) (
  some ([x1],σ))).bind fun r4=>
 A.fin σ (r4.1.getD 0 AV.undef) r4.2
noncomputable def OM:List AV→Heap→Option (AV×Heap):=A.wrap true [] .k (A.cR OU)
noncomputable def OV (a0 a1:AV) (σ:Heap):Option (AV×Heap):=
 (A.mul (AV.int .i64 2) a0).bind fun x1=>
 (A.add x1 a1).bind fun x2=>
 (A.mul (AV.int .i64 2) a1).bind fun x3=>
 (OM [x2,x3] σ).bind fun r4=>
 A.fin σ r4.1 r4.2
noncomputable def ON:List AV→Heap→Option (AV×Heap):=A.wrap true [] .k (A.cR OV)
end
end Go.Proofs.YtooknfkholjpbaaGreat
