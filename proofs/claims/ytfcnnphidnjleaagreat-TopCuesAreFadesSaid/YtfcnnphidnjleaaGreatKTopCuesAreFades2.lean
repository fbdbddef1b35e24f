/- Parts of the proof of TopCuesAreFades, in order. -/
import Derived.Orders
import Derived.Below
import Derived.WalkKit
import Derived.Laws.StructEq
import Derived.Laws.Append
import Derived.Laws.AppendOwn
import Derived.Test.YtfcnnphidnjleaaGreatRows
import Derived.KernelRfl
import Derived.Lib.Bytealg
import Derived.Sort.Defs
import Derived.Lib.BitFns
import Derived.Test.YtfcnnphidnjleaaGreatKTopCuesAreFades1
namespace Go.Proofs.YtfcnnphidnjleaaGreat
set_option linter.unusedVariables false
set_option linter.unusedSimpArgs false
set_option linter.unusedSectionVars false
section
open Go.RowKit
section
variable {c : RC}
theorem Mo {k:Nat} {x y:AV} {v u:Value} (n:Nat) (h:A.mZ k x y=some true) (r:ak c x v) (q:ak c y u):Instr.sameBits n u v=true:=by
 unfold A.mZ at h
 split at h
 ·unfold A.nF at h;split at h
  ·simp only[ak]at r q;split at h
   ·injection h with h;subst_vars;simp at h;subst h;simp [Instr.sameBits]
   ·cases h
  ·cases h
 ·unfold A.xX at h;split at h
  ·simp only[ak]at r q;injection h with h;subst_vars;simp at h;subst h;simp [Instr.sameBits]
  ·cases h
 ·unfold A.qu at h;split at h
  ·simp only[ak]at r q;injection h with h;subst_vars;simp only[Instr.sameBits];rename_i a b
   rw[I1]at h ⊢
   rw[beq_iff_eq]at h ⊢
   exact h.symm
  ·cases h
 ·cases h
theorem WL (n:Nat):∀{ks:List Nat} {xs ys:List AV} {vs us:List Value},A.gn ks xs ys=some true→aJ c xs vs→aJ c ys us→us.length=vs.length∧((us.zip vs).all fun(p:Value×Value)=>Instr.sameBits n p.1 p.2)=true
 |[],[],[],vs,us,_,r,q=>by simp only[aJ]at r q;subst r;subst q;simp
 |[],[],_::_,_,_,h,_,_=>by simp [A.gn]at h
 |[],_::_,_,_,_,h,_,_=>by simp [A.gn]at h
 |_::_,[],_,_,_,h,_,_=>by simp [A.gn]at h
 |_::_,_::_,[],_,_,h,_,_=>by simp [A.gn]at h
 |k::ks,x::xs,y::ys,vs,us,h,r,q=>by
  simp only[A.gn]at h
  obtain⟨p,h1,h2⟩:=Option.bind_eq_some_iff.1 h
  obtain⟨p',h3,h4⟩:=Option.map_eq_some_iff.1 h2
  simp only[Bool.and_eq_true]at h4
  obtain⟨rfl,rfl⟩:=h4
  simp only[aJ]at r q
  obtain⟨v,vs',rfl,r1,r2⟩:=r
  obtain⟨u,us',rfl,q1,q2⟩:=q
  obtain⟨i1,i2⟩:=WL n h3 r2 q2
  exact⟨by simp [i1],by simp [Mo n h1 r1 q1];simpa using i2⟩
theorem ai0 {e:A.EK} {x y:AV} {v u:Value} (hk:A.jB e x=true) (h:A.eB e x y=some true) (r:ak c x v) (q:ak c y u):Instr.sameBits 10000 u v=true:=by
 cases e<;>simp only[A.eB]at h
 case i=>exact Mo (k:=0) _ h r q
 case b=>exact Mo (k:=1) _ h r q
 case z=>exact Mo (k:=2) _ h r q
 case p=>cases x<;>simp [A.jB]at hk
 case s ks=>
  split at h
  ·simp only[ak]at r q
   obtain⟨vs,rfl,r1,_⟩:=r
   obtain⟨us,rfl,q1,_⟩:=q
   obtain⟨i1,i2⟩:=WL 9999 h r1 q1
   show Instr.sameBits (9999+1) _ _=true
   simp only[Instr.sameBits,Bool.and_eq_true]
   exact⟨by simpa using i1,i2⟩
  ·cases h
theorem aaN {e:A.EK} {k v:AV}:∀{bn kG:List (AV×AV)} {i:Nat} {ix:Option Nat},A.upd e k v bn=some kG→A.tj e k bn i=some ix→
  (ix=none∧kG=bn++[(k,v)])∨∃j p,ix=some (i+j)∧bn[j]? =some p∧A.eB e k p.1=some true∧kG=bn.set j (k,v)
 |[],kG,i,ix,h,g=>by simp only[A.upd,A.tj]at h g;injection h with h;injection g with g;exact .inl ⟨g.symm,by simpa using h.symm⟩
 |(k',v')::bn,kG,i,ix,h,g=>by
  simp only[A.upd,A.tj]at h g
  obtain⟨b,h1,h2⟩:=Option.bind_eq_some_iff.1 h
  rw[h1,Option.bind_some]at g
  cases b
  ·simp only[cond_false]at h2 g
   obtain⟨e2,h3,h4⟩:=Option.map_eq_some_iff.1 h2
   rcases aaN h3 g with⟨rfl,rfl⟩|⟨j,p,rfl,k1,k2,rfl⟩
   ·exact .inl ⟨rfl,by simpa using h4.symm⟩
   ·exact .inr ⟨j+1,p,by congr 1;omega,by simpa using k1,k2,by simpa using h4.symm⟩
  ·simp only[cond_true]at h2 g
   injection h2 with h2;injection g with g
   exact .inr ⟨0,(k',v'),g.symm,rfl,h1,by simpa using h2.symm⟩
theorem aad {e:A.EK} {k:AV}:∀{bn kG:List (AV×AV)} {i:Nat} {ix:Option Nat},A.del e k bn=some kG→A.tj e k bn i=some ix→
  (ix=none∧kG=bn)∨∃j,ix=some (i+j)∧j<bn.length∧kG=bn.eraseIdx j
 |[],kG,i,ix,h,g=>by simp only[A.del,A.tj]at h g;injection h with h;injection g with g;exact .inl ⟨g.symm,h.symm⟩
 |(k',v')::bn,kG,i,ix,h,g=>by
  simp only[A.del,A.tj]at h g
  obtain⟨b,h1,h2⟩:=Option.bind_eq_some_iff.1 h
  rw[h1,Option.bind_some]at g
  cases b
  ·simp only[cond_false]at h2 g
   obtain⟨e2,h3,h4⟩:=Option.map_eq_some_iff.1 h2
   rcases aad h3 g with⟨rfl,rfl⟩|⟨j,rfl,k1,rfl⟩
   ·exact .inl ⟨rfl,by simpa using h4.symm⟩
   ·exact .inr ⟨j+1,by congr 1;omega,by simpa using k1,by simpa using h4.symm⟩
  ·simp only[cond_true]at h2 g
   injection h2 with h2;injection g with g
   exact .inr ⟨0,g.symm,by simp,by simpa using h2.symm⟩
theorem XL {e:A.EK} {k v:AV}:∀{bn kG:List (AV×AV)},A.upd e k v bn=some kG→∃r,A.find e k bn=some r
 |[],kG,_=>⟨none,rfl⟩
 |(k',v')::bn,kG,g=>by
  simp only[A.upd]at g
  obtain⟨b,h1,h2⟩:=Option.bind_eq_some_iff.1 g
  cases b
  ·obtain⟨e2,h3,_⟩:=Option.map_eq_some_iff.1 (by simpa using h2)
   obtain⟨r,hr⟩:=XL h3
   exact⟨r,by simp [A.find,h1,hr]⟩
  ·exact⟨some v',by simp [A.find,h1]⟩
theorem XK {e:A.EK} {k:AV}:∀{bn kG:List (AV×AV)},A.del e k bn=some kG→∃r,A.find e k bn=some r
 |[],kG,_=>⟨none,rfl⟩
 |(k',v')::bn,kG,g=>by
  simp only[A.del]at g
  obtain⟨b,h1,h2⟩:=Option.bind_eq_some_iff.1 g
  cases b
  ·obtain⟨e2,h3,_⟩:=Option.map_eq_some_iff.1 (by simpa using h2)
   obtain⟨r,hr⟩:=XK h3
   exact⟨r,by simp [A.find,h1,hr]⟩
  ·exact⟨some v',by simp [A.find,h1]⟩
theorem cE.nth:∀{l:List (AV×AV)} {es:List MapEntry} {i:Nat} {p:AV×AV},cE c l es→l[i]? =some p→∃e,es[i]? =some e∧ak c p.1 e.key∧ak c p.2 e.val
 |[],es,i,p,h,k=>by simp at k
 |(a,b)::l,es,0,p,h,k=>by
  obtain⟨e,es',rfl,h1,h2,_⟩:=h
  simp at k;subst k
  exact⟨e,rfl,h1,h2⟩
 |(a,b)::l,es,i+1,p,h,k=>by
  obtain⟨e,es',rfl,_,_,h3⟩:=h
  simp at k
  obtain⟨e',k1,k2⟩:=cE.nth h3 k
  exact⟨e',by simpa using k1,k2⟩
theorem cE.set {k v:AV} {key val:Value} (rk:ak c k key) (rv:ak c v val):∀{l:List (AV×AV)} {es:List MapEntry} (j:Nat),cE c l es→cE c (l.set j (k,v)) (es.modify j fun e=>{e with key,val})
 |[],es,j,h=>by simp only[cE]at h;subst h;simp [cE]
 |(a,b)::l,es,0,h=>by
  obtain⟨e,es',rfl,h1,h2,h3⟩:=h
  exact⟨_,_,rfl,rk,rv,h3⟩
 |(a,b)::l,es,j+1,h=>by
  obtain⟨e,es',rfl,h1,h2,h3⟩:=h
  exact⟨e,_,rfl,h1,h2,cE.set rk rv j h3⟩
theorem cE.push {k v:AV} {key val:Value} {n:Nat} (rk:ak c k key) (rv:ak c v val):∀{l:List (AV×AV)} {es:List MapEntry},cE c l es→cE c (l++[(k,v)]) (es++[⟨key,val,n⟩])
 |[],es,h=>by simp only[cE]at h;subst h;exact⟨_,_,rfl,rk,rv,rfl⟩
 |(a,b)::l,es,h=>by
  obtain⟨e,es',rfl,h1,h2,h3⟩:=h
  exact⟨e,_,rfl,h1,h2,cE.push rk rv h3⟩
theorem cE.erase:∀{l:List (AV×AV)} {es:List MapEntry} (j:Nat),cE c l es→cE c (l.eraseIdx j) (es.eraseIdx j)
 |[],es,j,h=>by simp only[cE]at h;subst h;simp [cE]
 |(a,b)::l,es,0,h=>by obtain⟨e,es',rfl,h1,h2,h3⟩:=h;exact h3
 |(a,b)::l,es,j+1,h=>by
  obtain⟨e,es',rfl,h1,h2,h3⟩:=h
  exact⟨e,_,rfl,h1,h2,cE.erase j h3⟩
end
theorem pS.push {es:Array MapEntry} {clock:Nat} {key val:Value} (h:pS es clock):pS (es.push ⟨key,val,clock⟩) (clock+1):=by
 refine⟨fun e he=>?_,?_⟩
 ·simp only[Array.toList_push,List.mem_append,List.mem_singleton]at he
  rcases he with he|rfl
  ·have:=h.1 e he;omega
  ·exact Nat.lt_succ_self _
 ·simp only[Array.toList_push,List.map_append,List.map_cons,List.map_nil]
  rw[List.nodup_append]
  refine⟨h.2,by simp,fun a ha b hb=>?_⟩
  obtain⟨e,he,rfl⟩:=List.mem_map.1 ha
  have:=h.1 e he
  simp at hb;omega
theorem Wr (key val:Value):∀(l:List MapEntry) (i:Nat),(l.modify i fun e=>{e with key,val}).map (·.born)=l.map (·.born)
 |[],i=>by simp
 |e::l,0=>by simp
 |e::l,i+1=>by simp [Wr key val l i]
theorem pS.modify {es:Array MapEntry} {clock i:Nat} {key val:Value} (h:pS es clock):pS (es.modify i fun e=>{e with key,val}) clock:=by
 have hb:(es.modify i fun e=>{e with key,val}).toList.map (·.born)=es.toList.map (·.born):=by
  rw[Array.toList_modify,Wr]
 refine⟨fun e he=>?_,by rw[hb];exact h.2⟩
 have:e.born∈es.toList.map (·.born):=by rw[←hb];exact List.mem_map.2 ⟨e,he,rfl⟩
 obtain⟨e',he',e1⟩:=List.mem_map.1 this
 rw[←e1];exact h.1 e' he'
theorem pS.erase {es:Array MapEntry} {clock i:Nat} (h:pS es clock):pS (es.eraseIdxIfInBounds i) clock:=by
 by_cases hi:i<es.size
 ·have hee:(es.eraseIdxIfInBounds i).toList=es.toList.eraseIdx i:=by simp [Array.eraseIdxIfInBounds,hi]
  refine⟨fun e he=>h.1 e (by rw[hee]at he;exact List.mem_of_mem_eraseIdx he),?_⟩
  rw[hee]
  exact h.2.sublist ((List.eraseIdx_sublist _ _).map _)
 ·have:es.eraseIdxIfInBounds i=es:=by simp [Array.eraseIdxIfInBounds,hi]
  rw[this];exact h
theorem pS.empty:pS #[] 0:=⟨by simp,by simp⟩
section
variable {X : Fx} {z : Z} {s : AS} {a : Act} {w w' : World} {E : List Pl} {pb : Nat → Option Nat}
theorem LX {P:Program} {b:Nat} {es:Array MapEntry} {clock:Nat} (o:Obj) (h:w.heap[b]? =some (.map es clock)):(setObj b o).run P w=.ok () (w.dW b o):=by
 simp [setObj,Sem.run,h,World.dW]
theorem akM (h:St X z s a w E pb) {t kt et:TypeId} {ek:A.EK} {m k v:AV} {mv key val:Value} {σ':Heap} (ht:X.P.underlying t=some (.map kt et)) (he:mG X kt=some ek) (hu:A.eA ek m k v s.σ=some σ')
  (rm:ak (ctx z w E pb) m mv) (rk:ak (ctx z w E pb) k key) (rv:ak (ctx z w E pb) v val):∃w',(Instr.mapUpdate t mv key val).run X.P w=.ok () w'∧St X z (s.heap σ') a w' E pb:=by
 unfold A.eA at hu
 cases hk:A.jB ek k
 ·rw[hk]at hu;cases hu
 ·rw[hk]at hu
  simp only[cond_true]at hu
  cases m<;>simp only at hu<;>first|(cases hu;done)|skip
  rename_i id
  simp only[ak]at rm
  obtain⟨p,e1,e2,rfl⟩:=rm
  split at hu
  ·rename_i bn hs
   obtain⟨kG,h1,h2⟩:=Option.map_eq_some_iff.1 hu
   subst h2
   obtain⟨hg,es,clock,k1,kw,k2⟩:=h.heap.blk id p _ e1 hs
   obtain⟨r,hr⟩:=XL h1
   obtain⟨res,f1,f2,f3⟩:=Ra (c:=ctx z w E pb) w X he hk rk hr k2
   have yc:=Lv (c:=ctx z w E pb) w X he hk rk false
   have kj:(getObj p.b).run X.P w=.ok (.map es clock) w:=by simp [getObj,Sem.run,show w.heap[p.b]? =_ from k1]
   have hlt:p.b<w.heap.size:=h.heap.lt (p:=p) (List.mem_of_getElem? e1)
   rcases aaN h1 f3 with⟨e3,rfl⟩|⟨j,q,e3,q1,q2,rfl⟩
   ·have hres:res=none:=by cases res with|none=>rfl|some x=>simp at e3
    subst hres
    refine⟨w.dW p.b (.map (es.push ⟨key,val,clock⟩) (clock+1)),?_,h.ze e1 _ _ fun hx=>⟨hg,_,_,vq _ hlt,kw.push,?_⟩⟩
    ·simp [Instr.mapUpdate,run_underlying ht,kj,yc,f1,LX _ (show w.heap[p.b]? =_ from k1)]
    ·have:=cE.push (n:=clock) (ak.mono hx _ _ rk) (ak.mono hx _ _ rv) (k2.mono hx)
     simpa using this
   ·obtain⟨i,u,hres,hi⟩:∃i u,res=some (i,u)∧i=j:=by
     cases res with
     |none=>simp at e3
     |some x=>exact⟨x.1,x.2,rfl,by simpa using e3⟩
    subst hi;subst hres
    obtain⟨e,n1,n2,_⟩:=k2.nth q1
    have hsame:=ai0 (c:=ctx z w E pb) hk q2 rk n2
    have yf:es[i]? =some e:=by rw[←Array.getElem?_toList];exact n1
    refine⟨w.dW p.b (.map (es.modify i fun e=>{e with key,val}) clock),?_,h.ze e1 _ _ fun hx=>⟨hg,_,_,vq _ hlt,kw.modify,?_⟩⟩
    ·simp [Instr.mapUpdate,run_underlying ht,kj,yc,f1,yf,Instr.keyThatStays,hsame,LX _ (show w.heap[p.b]? =_ from k1)]
    ·have:=cE.set (ak.mono hx _ _ rk) (ak.mono hx _ _ rv) i (k2.mono hx)
     simpa using this
  ·cases hu
theorem akI (h:St X z s a w E pb) {t kt et u ty:TypeId} {ek:A.EK} {m k:AV} {mv key:Value} {σ':Heap} (ht:X.P.underlying t=some (.map kt et)) (he:mG X kt=some ek) (hu:A.Ec ek m k s.σ=some σ')
  (rm:ak (ctx z w E pb) m mv) (rk:ak (ctx z w E pb) k key):∃w',(Builtin.delete_ #[t,u] ty #[mv,key]).run X.P w=.ok (.tuple #[]) w'∧St X z (s.heap σ') a w' E pb:=by
 unfold A.Ec at hu
 cases hk:A.jB ek k
 ·rw[hk]at hu;cases hu
 ·rw[hk]at hu
  simp only[cond_true]at hu
  cases m<;>simp only at hu<;>first|(cases hu;done)|skip
  case nm=>
   injection hu with hu;subst hu
   simp only[ak]at rm;subst rm
   exact⟨w,by simp [Builtin.delete_,run_underlying ht,Lv (c:=ctx z w E pb) w X he hk rk true],h⟩
  case om id=>
   simp only[ak]at rm
   obtain⟨p,e1,e2,rfl⟩:=rm
   split at hu
   ·rename_i bn hs
    obtain⟨kG,h1,h2⟩:=Option.map_eq_some_iff.1 hu
    subst h2
    obtain⟨hg,es,clock,k1,kw,k2⟩:=h.heap.blk id p _ e1 hs
    obtain⟨r,hr⟩:=XK h1
    obtain⟨res,f1,f2,f3⟩:=Ra (c:=ctx z w E pb) w X he hk rk hr k2
    have yc:=Lv (c:=ctx z w E pb) w X he hk rk es.isEmpty
    have kj:(getObj p.b).run X.P w=.ok (.map es clock) w:=by simp [getObj,Sem.run,show w.heap[p.b]? =_ from k1]
    have hlt:p.b<w.heap.size:=h.heap.lt (p:=p) (List.mem_of_getElem? e1)
    rcases aad h1 f3 with⟨e3,rfl⟩|⟨j,e3,q1,rfl⟩
    ·have hres:res=none:=by cases res with|none=>rfl|some x=>simp at e3
     subst hres
     refine⟨w.dW p.b (.map es clock),?_,h.ze e1 _ _ fun hx=>⟨hg,_,_,vq _ hlt,kw,k2.mono hx⟩⟩
     simp [Builtin.delete_,run_underlying ht,kj,yc,f1,LX _ (show w.heap[p.b]? =_ from k1)]
    ·obtain⟨i,u',hres,hi⟩:∃i u,res=some (i,u)∧i=j:=by
      cases res with
      |none=>simp at e3
      |some x=>exact⟨x.1,x.2,rfl,by simpa using e3⟩
     subst hi;subst hres
     refine⟨w.dW p.b (.map (es.eraseIdxIfInBounds i) clock),?_,h.ze e1 _ _ fun hx=>⟨hg,_,_,vq _ hlt,kw.erase,?_⟩⟩
     ·simp [Builtin.delete_,run_underlying ht,kj,yc,f1,LX _ (show w.heap[p.b]? =_ from k1)]
     ·have hl:=k2.length
      have:i<es.size:=by simp at hl;omega
      have hee:(es.eraseIdxIfInBounds i).toList=es.toList.eraseIdx i:=by simp [Array.eraseIdxIfInBounds,this]
      rw[hee]
      exact cE.erase i (k2.mono hx)
   ·cases hu
theorem V0 {f:MapEntry→Nat}:∀{l:List MapEntry} {j:Nat} {e:MapEntry},(l.map f).Nodup→l[j]? =some e→(l.filter fun x=>!(f x==f e))=l.eraseIdx j
 |[],j,e,_,h=>by simp at h
 |x::l,0,e,hn,h=>by
  simp at h;subst h
  simp only[List.map_cons,List.nodup_cons]at hn
  simp only[List.filter_cons,beq_self_eq_true,Bool.not_true,List.eraseIdx_cons_zero]
  rw[List.filter_eq_self.2]
  ·simp
  ·intro y hy
   have:f y≠f x:=fun e=>hn.1 (List.mem_map.2 ⟨y,hy,e⟩)
   simp [this]
 |x::l,j+1,e,hn,h=>by
  simp only[List.map_cons,List.nodup_cons]at hn
  simp at h
  have hne:f x≠f e:=fun k=>hn.1 (List.mem_map.2 ⟨e,List.mem_of_getElem? h,k.symm⟩)
  simp only[List.filter_cons,List.eraseIdx_cons_succ]
  have:(f x==f e)=false:=by simpa using hne
  rw[this]
  simp only[Bool.not_false,if_true]
  rw[V0 hn.2 h]
theorem choose_lt {P:Program} (w:World) {n:Nat} (hn:0<n):∃j w',j<n∧(choose (.mapNext n)).run P w=.ok j w'∧Below w.heap.size w w'∧w'.heap=w.heap:=by
 by_cases h1:n≤1
 ·exact⟨0,w,hn,by simp [choose,Sem.run,Question.forced,h1],Below.refl _ _,rfl⟩
 ·refine⟨_,w.drew,?_,by simp [choose,Sem.run,Question.forced,h1];rfl,(Below.refl _ _).drew,rfl⟩
  simp only[Question.cut]
  exact Nat.mod_lt _ hn
theorem pS.abl {es:Array MapEntry} {clock:Nat} (h:pS es clock) (b:Bool):(!b&&!es.isEmpty&&es.all fun e=>decide (e.born≥clock))=false:=by
 cases b
 ·by_cases he:es.isEmpty=true
  ·simp [he]
  ·have hs:0<es.size:=by
    rw[Array.isEmpty_iff]at he
    exact Nat.pos_of_ne_zero fun k=>he (Array.eq_empty_of_size_eq_zero k)
   have:=h.1 es[0] (by simp)
   have:¬(es.all fun e=>decide (e.born≥clock))=true:=by
    intro k
    rw[Array.all_eq_true]at k
    have:=k 0 hs
    simp at this;omega
   simp only[Bool.not_eq_true]at this
   rw[this];simp
 ·simp
theorem filter_all {l:Array MapEntry} {clock:Nat} (h:∀e∈l.toList,e.born<clock):l.filter (fun e=>decide (e.born<clock))=l∧l.filter (fun e=>decide (e.born≥clock))=#[]:=by
 constructor
 ·apply Array.toList_inj.1
  rw[Array.toList_filter,List.filter_eq_self.2]
  intro e he;simpa using h e he
 ·apply Array.toList_inj.1
  rw[Array.toList_filter]
  show _=[]
  rw[List.filter_eq_nil_iff]
  intro e he;have:=h e he;simp;omega
theorem ZP {α:Type} {l:List α} {j:Nat} (hj:j<l.length):(l[j]::l.eraseIdx j).Perm l:=by
 have e:l=l.take j++l[j]::l.drop (j+1):=by rw[List.getElem_cons_drop,List.take_append_drop]
 rw[List.eraseIdx_eq_take_drop_succ]
 conv=>rhs;rw[e]
 exact List.perm_middle.symm
theorem akP (h:St X z s a w E pb) {R:Type} {k:AV→Heap→Option R} {r:R} {i:AV} {v:Value} {ty:TypeId} (hk:A.tC i s.σ k=some r) (ri:ak (ctx z w E pb) i v):
  ∃av σ' v' w',k av σ'=some r∧(Instr.next v false ty).run X.P w=.ok v' w'∧St X z (s.heap σ') a w' E pb∧ak (ctx z w' E pb) av v':=by
 unfold A.tC at hk
 split at hk
 ·rename_i id
  simp only[ak]at ri
  obtain⟨p,e1,e2,rfl⟩:=ri
  have hlt:p.b<w.heap.size:=h.heap.lt (p:=p) (List.mem_of_getElem? e1)
  have amX:ak (ctx z w E pb) (.aF [.bool false]) (.tuple #[.bool false]):=by simp [ak,aJ]
  have hs0:s.heap s.σ=s:=rfl
  split at hk
  ·rename_i cur hs
   obtain⟨hg,hit⟩:=h.heap.blk id p _ e1 hs
   rcases hit with⟨_,_,since,seen,last,h3⟩|⟨m,seen,bn,clock,h3,h4,h5,h6,h7,h8,h9⟩
   ·have kj:(getObj p.b).run X.P w=.ok (.mapIter none since seen last) w:=by simp [getObj,Sem.run,show w.heap[p.b]? =_ from h3]
    exact⟨_,_,_,w,hk,by simp [Instr.next,kj],by rw[hs0];exact h,amX⟩
   ·have kj:(getObj p.b).run X.P w=.ok (.mapIter (some m) clock seen clock) w:=by simp [getObj,Sem.run,show w.heap[p.b]? =_ from h3]
    have DN:(getObj m).run X.P w=.ok (.map bn clock) w:=by simp [getObj,Sem.run,show w.heap[m]? =_ from h6]
    obtain⟨l,h8,wm⟩:=h8
    simp only[cE]at h8
    subst h8
    have hl:bn.filter (fun e=>!seen.contains e.born)=#[]:=by apply Array.toList_inj.1;rw[Array.toList_filter];exact wm.nil_eq.symm
    obtain⟨j,w',hj,hch,hb,hw⟩:=choose_lt (P:=X.P) w (n:=1) (by omega)
    have hj0:j=0:=by omega
    subst hj0
    have hst:=h7.abl seen.isEmpty
    refine⟨_,_,.tuple #[.bool false],w',hk,?_,by rw[hs0];exact h.grow hb,by simp [ak,aJ]⟩
    simp only[Instr.next,Sem.run_bind,kj,Result.andThen_ok,DN,hst,hl]
    simp [-Go.run_choose,-Go.run_choose_drew,hch]
  ·rename_i cur x left hs
   obtain⟨hg,hit⟩:=h.heap.blk id p _ e1 hs
   rcases hit with⟨_,hn,_⟩|⟨m,seen,bn,clock,h3,h4,h5,h6,h7,h8,h9⟩
   ·cases hn
   ·have kj:(getObj p.b).run X.P w=.ok (.mapIter (some m) clock seen clock) w:=by simp [getObj,Sem.run,show w.heap[p.b]? =_ from h3]
    have DN:(getObj m).run X.P w=.ok (.map bn clock) w:=by simp [getObj,Sem.run,show w.heap[m]? =_ from h6]
    obtain⟨L,hL⟩:∃L,L=bn.filter (fun e=>!seen.contains e.born):=⟨_,rfl⟩
    have JM:L.toList=bn.toList.filter (fun e=>!seen.contains e.born):=by rw[hL,Array.toList_filter]
    rw[←JM]at h8
    obtain⟨l,h8,wm⟩:=h8
    have hlen:=h8.length
    rw[wm.length_eq]at hlen
    simp only[Array.length_toList]at hlen
    have hlt':∀e∈L.toList,e.born<clock:=fun e he=>h7.1 e (by rw[JM]at he;exact(List.mem_filter.1 he).1)
    obtain⟨f1,f2⟩:=filter_all hlt'
    have hne:L.isEmpty=false:=by
     rw[Array.isEmpty_eq_false_iff];intro k;rw[k]at hlen;simp at hlen
    obtain⟨j,w',hj,hch,hb,hw⟩:=choose_lt (P:=X.P) w (n:=L.size) (by rw[←hlen];simp)
    have hst:=h7.abl seen.isEmpty
    obtain⟨e,hLj⟩:∃e,L[j]? =some e:=⟨_,Array.getElem?_eq_getElem hj⟩
    have n1:L.toList[j]? =some e:=by rw[Array.getElem?_toList];exact hLj
    obtain⟨i,hil,hie⟩:=List.mem_iff_getElem.1 (wm.mem_iff.2 (List.mem_of_getElem? n1))
    have Tn:i<(x::left).length:=by rw[h8.length];exact hil
    have hk2:=all_some hk Tn
    rw[List.getElem?_eq_getElem Tn]at hk2
    simp only at hk2
    obtain⟨e',Oh,n2,n3⟩:=cE.nth h8 (List.getElem?_eq_getElem Tn)
    have hee:e=e':=by rw[List.getElem?_eq_getElem hil]at Oh;injection Oh with Oh;rw[←Oh,hie]
    subst hee
    have Uv:(l.eraseIdx i).Perm (L.toList.eraseIdx j):=by
     have p1:(e::l.eraseIdx i).Perm l:=by have:=ZP hil;rwa[hie]at this
     obtain⟨hjj,hje⟩:=List.getElem?_eq_some_iff.1 n1
     have p2:(e::L.toList.eraseIdx j).Perm L.toList:=by have:=ZP hjj;rwa[hje]at this
     exact List.Perm.cons_inv ((p1.trans wm).trans p2.symm)
    have hg2:=h.grow hb
    have hmp:p.b≠m:=fun k=>h5 (.inr (.inl ⟨p,List.mem_of_getElem? e1,k⟩))
    have h3':w'.heap[p.b]? =some (.mapIter (some m) clock seen clock):=by rw[hw];exact h3
    have uC:(setObj p.b (.mapIter (some m) clock (seen.push e.born) clock)).run X.P w'=.ok () (w'.dW p.b (.mapIter (some m) clock (seen.push e.born) clock)):=by
     simp [setObj,Sem.run,h3',World.dW]
    refine⟨_,_,.tuple #[.bool true,e.key,e.val],w'.dW p.b (.mapIter (some m) clock (seen.push e.born) clock),hk2,?_,hg2.ze e1 _ _ fun hx=>⟨hg,.inr ⟨m,seen.push e.born,bn,clock,?_,?_,?_,?_,h7,?_,?_⟩⟩,?_⟩
    ·simp only[Instr.next,Sem.run_bind,kj,Result.andThen_ok,DN,hst,←hL,f1,f2,hne]
     simp [-Go.run_choose,-Go.run_choose_drew,hch,hLj,uC]
    ·exact vq _ (by rw[hw];exact hlt)
    ·show m<(w'.dW p.b _).heap.size
     rw[zZ,hw];exact h4
    ·exact h5
    ·show(w'.dW p.b _).heap[m]? =_
     rw[yF _ hmp,hw];exact h6
    ·have hx2:Ext (ctx z w E pb) (ctx z (w'.dW p.b (.mapIter (some m) clock (seen.push e.born) clock)) E pb):=(wR hb).trans hx
     have hfe:(bn.toList.filter fun e'=>!(seen.push e.born).contains e'.born)=L.toList.eraseIdx j:=by
      rw[JM]
      have hnd:((bn.toList.filter fun e=>!seen.contains e.born).map (·.born)).Nodup:=h7.2.sublist ((List.filter_sublist).map _)
      rw[←V0 (f:=(·.born)) (e:=e) hnd (by rw[←JM];exact n1),List.filter_filter]
      congr 1;funext y
      simp only[Array.contains_push,Bool.not_or]
      rw[Bool.and_comm]
     rw[hfe]
     exact⟨_,(cE.erase i h8).mono hx2,Uv⟩
    ·refine .inr ⟨_,_,e,rfl,by simp,?_,?_,?_⟩
     ·have:=List.mem_of_getElem? n1
      rw[JM]at this
      exact(List.mem_filter.1 this).1
     ·exact ak.mono ((wR hb).trans hx) _ _ n2
     ·exact ak.mono ((wR hb).trans hx) _ _ n3
    ·have hx:Ext (ctx z w' E pb) (ctx z (w'.dW p.b (.mapIter (some m) clock (seen.push e.born) clock)) E pb):=Rk (.inr (.inl ⟨p,List.mem_of_getElem? e1,rfl⟩))
     have hx2:=(wR hb).trans hx
     simp only[ak]
     exact⟨_,rfl,by simp only[aJ];exact⟨_,_,rfl,rfl,_,_,rfl,ak.mono hx2 _ _ n2,_,_,rfl,ak.mono hx2 _ _ n3,rfl⟩⟩
  ·cases hk
 ·cases hk
theorem ajy (h:St X z s a w E pb) {t kt et:TypeId} {x:AV} {v:Value} {es:List (AV×AV)} (ht:X.P.underlying t=some (.map kt et)) (hr:A.Cj x=some es) (rx:ak (ctx z w E pb) x v):
  ∃o,(Instr.range t v).run X.P w=.ok (.pointer (some ⟨w.heap.size,0,none⟩)) (w.alloc o)∧St X z (s.heap (s.σ++[.it [] es])) a (w.alloc o) (E++[⟨w.heap.size,0,0,0,0⟩]) pb:=by
 unfold A.Cj at hr
 split at hr
 ·injection hr with hr
  subst hr
  simp only[ak]at rx
  subst rx
  refine⟨.mapIter none 0 #[] 0,by simp [Instr.range,run_underlying ht,newObj,Sem.run],h.As _ _ ⟨w.heap.size,0,0,0,0⟩ rfl fun hx=>⟨rfl,.inl ⟨rfl,rfl,_,_,_,(MapKept.heap_alloc w _).1⟩⟩⟩
 ·injection hr with hr
  subst hr
  simp only[ak]at rx
  obtain⟨b,rfl,hb,hX,bn,clock,k1,kw,l,k2,k3⟩:=rx
  have DN:(getObj b).run X.P w=.ok (.map bn clock) w:=by simp [getObj,Sem.run,show w.heap[b]? =_ from k1]
  refine⟨.mapIter (some b) clock #[] clock,by simp [Instr.range,run_underlying ht,DN,newObj,Sem.run],h.As _ _ ⟨w.heap.size,0,0,0,0⟩ rfl fun hx=>⟨rfl,.inr ⟨b,#[],bn,clock,(MapKept.heap_alloc w _).1,?_,(hx.stay b hb hX).2,?_,kw,?_,.inl rfl⟩⟩⟩
  ·exact Nat.lt_of_lt_of_le hb hx.size
  ·exact(hx.stay b hb hX).1.trans k1
  ·have:(bn.toList.filter fun e=>!(#[]:Array Nat).contains e.born)=bn.toList:=by
    rw[List.filter_eq_self];intro e _;simp
   rw[this]
   exact⟨l,k2.mono hx,by rcases k3 with rfl|⟨k3,_⟩<;>first|exact List.Perm.refl _|exact k3⟩
 ·cases hr
end
end
section
open Go.RowKit
section
variable {X : Fx} {z : Z} {s : AS} {a : Act} {w w' : World} {E : List Pl} {pb : Nat → Option Nat} {R : Type}
theorem qL {o:Oper} {v:Value} {w':World} {K:Act→World→Prop} {Q:Exit→Act→World→Prop} (h:(execOp a.eval o).run X.P w=.ok (.value v) w') (k:K (a.put o.dst v) w'):o.wp X.P a w K Q:=by
 unfold Oper.wp;rw[h,Oper.upon_value];exact k
theorem Rn {o:Oper} {w':World} {K:Act→World→Prop} {Q:Exit→Act→World→Prop} (h:(execOp a.eval o).run X.P w=.ok .skip w') (k:K (a.put o.dst undef) w'):o.wp X.P a w K Q:=by
 unfold Oper.wp;rw[h,Oper.upon_skip];exact k
theorem St.undef (h:St X z s a w E pb) (d:Option Nat):St X z (s.put X d (.aF [])) (a.put d undef) w E pb:=
 h.put d (by simp only[ak];exact⟨#[],rfl,by simp [aJ]⟩)
theorem zX (hs:dB X) (h:St X z s a w E pb) {o:Oper} {k:AS→Option R} {r:R} (hk:((fZ X o s none).bind fun v=>k (s.put X o.dst v))=some r) {K:Act→World→Prop} {Q:Exit→Act→World→Prop}
  (hK:∀s' a' w' E' bO,St X z s' a' w' E' bO→k s'=some r→K a' w'):o.wp X.P a w K Q:=by
 obtain⟨av,h1,h2⟩:=Option.bind_eq_some_iff.1 hk
 exact aaF hs h (tag:=none) trivial h1 fun v w' E' h3 h4=>hK _ _ _ _ _ (h3.put o.dst h4) h2
theorem akO (h:St X z s a w E pb) {q str:Bool} {i:Operand} {dst:Option Nat} {ty:TypeId} {pos:String} {af:Array Edge} {g:Option (Nat×Bool)} {k:AS→Option R} {r:R}
  (hk:(bif q||str then none else A.tC (ev X s i) s.σ fun v σ=>k ((s.heap σ).put X dst v))=some r) {K:Act→World→Prop} {Q:Exit→Act→World→Prop}
  (hK:∀s' a' w' E' bO,St X z s' a' w' E' bO→k s'=some r→K a' w'):Oper.wp X.P ⟨dst,.next i str,ty,pos,af,g⟩ a w K Q:=by
 cases hq:(q||str)
 ·rw[hq]at hk
  simp only[cond_false]at hk
  simp only[Bool.or_eq_false_iff]at hq
  obtain⟨rfl,rfl⟩:=hq
  obtain⟨av,σ',v',w',k1,k2,k3,k4⟩:=akP (ty:=ty) h hk (eH h i)
  exact qL (w':=w') (by simp [execOp,k2]) (hK _ _ _ _ _ (k3.put dst k4) k1)
 ·rw[hq]at hk;cases hk
theorem afx (hs:dB X) (h:St X z s a w E pb) {d t n:Nat} {ps:Array (Nat×Operand)} {ty:TypeId} {pos:String} {af:Array Edge} {g:Option (Nat×Bool)} {k:AS→Option R} {r:R}
  (hk:((fZ X ⟨some d,.buildSlice t n ps,ty,pos,af,g⟩ s none).bind fun v=>A.GQ v fun sz es=>k ((s.heap (s.σ++[.arr es.length sz es])).put X (some d) (.os s.σ.length es.length sz 0 es.length)))=some r) {K:Act→World→Prop} {Q:Exit→Act→World→Prop}
  (hK:∀s' a' w' E' bO,St X z s' a' w' E' bO→k s'=some r→K a' w'):Oper.wp X.P ⟨some d,.buildSlice t n ps,ty,pos,af,g⟩ a w K Q:=by
 obtain⟨v,h1,h2⟩:=Option.bind_eq_some_iff.1 hk
 unfold A.GQ at h2
 split at h2
 ·rename_i sz es
  cases hl:(es.length==0)
  ·rw[hl]at h2
   simp only[cond_false]at h2
   have hne:0<es.length:=by simp at hl;exact List.length_pos_iff.2 hl
   obtain⟨arr,et,e1,e2,e3,e4,e5⟩:=aei h h1
   have hlen:=h.heap.len
   simp only[ctx]at hlen
   refine qL e1 (hK _ _ _ _ _ ((h.As (.cells arr et) (.arr es.length sz es) ⟨w.heap.size,0,es.length,sz,arr.size⟩ rfl fun hx=>?_).put (some d) (av:=.os s.σ.length es.length sz 0 es.length) ?_) h2)
   ·have hb:=(MapKept.heap_alloc w (.cells arr et)).1
    exact⟨rfl,hne,rfl,e3,⟨arr,et,hb,rfl⟩,by rw[e2];simp,e4 _ hb hx,Ca hb e5⟩
   ·simp only[ak]
    refine⟨hne,⟨w.heap.size,0,es.length,sz,arr.size⟩,by show(E++[_])[s.σ.length]? =_;rw[←hlen];exact List.getElem?_concat_length,Nat.le_refl _,⟨w.heap.size,0,none⟩,es.length,rfl,Nat.le_refl _,fun _=>⟨rfl,.inr (by simp),by rw[e2];simp⟩⟩
  ·rw[hl]at h2;cases h2
 ·cases h2
theorem al3 (hs:dB X) (h:St X z s a w E pb) {q:Bool} {o:Oper} {k:AS→Option R} {r:R} (hk:iB X q o s k=some r) {K:Act→World→Prop} {Q:Exit→Act→World→Prop}
  (hK:∀s' a' w' E' bO,St X z s' a' w' E' bO→k s'=some r→K a' w'):o.wp X.P a w K Q:=by
 unfold iB at hk
 cases hp:kM X o s none with
 |some p=>
  obtain⟨b,rr⟩:=p
  rw[hp]at hk
  simp only at hk
  obtain⟨off,h1,h2⟩:=Option.bind_eq_some_iff.1 hk
  subst h1
  obtain⟨n,k1,k2⟩:=aaE h (tag:=none) trivial hp
  exact qL k2 (hK _ _ _ _ _ (h.SK o.dst (fun _=>⟨n,k1,rfl⟩)) h2)
 |none=>
  rw[hp]at hk
  simp only at hk
  obtain⟨dst,op,ty,pos,af,g⟩:=o
  cases op<;>simp only at hk<;>first|exact akO h hk hK|exact zX hs h hk hK|skip
  case alloc t=>
   cases dst with
   |none=>cases hk
   |some d=>
    simp only at hk
    cases hL:X.L.contains d
    ·rw[hL]at hk
     simp only[cond_false]at hk
     cases hO:X.O.contains d
     ·rw[hO]at hk;exact zX hs h hk hK
     ·rw[hO]at hk
      simp only[cond_true]at hk
      split at hk
      ·rename_i cs hz
       obtain⟨i,v,h1,h2,h3,h4,h5,h6⟩:=yL (w:=w) hz (ctx z w E pb)
       have hrun:(execOp a.eval ⟨some d,.alloc t,ty,pos,af,g⟩).run X.P w=.ok (.value (.pointer (some ⟨w.heap.size,0,none⟩))) (w.alloc (.cells v.cells t)):=by
        simp [execOp,Instr.alloc,h3,newVar,yH]
       have hst:=h.As (.cells v.cells t) (.box cs) ⟨w.heap.size,0,0,0,0⟩ rfl (fun hx=>by
        have hb:(w.alloc (.cells v.cells t)).heap[w.heap.size]? =some (.cells v.cells t (0,0)):=(MapKept.heap_alloc w _).1
        exact⟨rfl,⟨_,_,hb,by have:=h5.length;simpa using this.symm⟩,bz.zM hb (aJ.mono hx _ _ h5) h6 (fun i hi=>by simp)⟩)
       have hlen:=h.heap.len
       simp only[ctx]at hlen
       refine qL hrun (hK _ _ _ _ _ (hst.put (some d) (av:=.op s.σ.length 0) ?_) hk)
       simp only[ak]
       exact⟨⟨w.heap.size,0,0,0,0⟩,by show(E++[_])[s.σ.length]? =_;rw[←hlen];exact List.getElem?_concat_length,rfl,rfl⟩
      ·cases hk
    ·rw[hL]at hk
     simp only[cond_true]at hk
     split at hk
     ·rename_i cs hz
      obtain⟨i,v,h1,h2,h3,h4,h5,h6⟩:=yL (w:=w) hz (ctx z w E pb)
      have hrun:(execOp a.eval ⟨some d,.alloc t,ty,pos,af,g⟩).run X.P w=.ok (.value (.pointer (some ⟨w.heap.size,0,none⟩))) (w.alloc (.cells v.cells t)):=by
       simp [execOp,Instr.alloc,h3,newVar,yH]
      obtain⟨bO,hst⟩:=h.oQ d hL (vs:=v.cells.toList) t h5 h6
      exact qL hrun (hK _ _ _ _ _ (by simpa using hst) hk)
     ·cases hk
  case box t x=>
   cases dst with
   |none=>cases hk
   |some d=>
    simp only at hk
    cases hL:X.L.contains d
    ·rw[hL]at hk
     simp only[cond_false]at hk
     cases hO:X.O.contains d
     ·rw[hO]at hk;exact zX hs h hk hK
     ·rw[hO]at hk
      simp only[cond_true]at hk
      obtain⟨cs,h1,h2⟩:=Option.bind_eq_some_iff.1 hk
      obtain⟨h5,h6,_,_⟩:=FN X h1 (eH h x)
      have hrun:(execOp a.eval ⟨some d,.box t x,ty,pos,af,g⟩).run X.P w=.ok (.value (.pointer (some ⟨w.heap.size,0,none⟩))) (w.alloc (.cells (a.eval x).cells t)):=by
       simp [execOp,Instr.box,newVar,yH]
      have hst:=h.As (.cells (a.eval x).cells t) (.box cs) ⟨w.heap.size,0,0,0,0⟩ rfl (fun hx=>by
       have hb:(w.alloc (.cells (a.eval x).cells t)).heap[w.heap.size]? =some (.cells (a.eval x).cells t (0,0)):=(MapKept.heap_alloc w _).1
       exact⟨rfl,⟨_,_,hb,by have:=h5.length;simpa using this.symm⟩,bz.zM hb (aJ.mono hx _ _ h5) h6 (fun i hi=>by simp)⟩)
      have hlen:=h.heap.len
      simp only[ctx]at hlen
      refine qL hrun (hK _ _ _ _ _ (hst.put (some d) (av:=.op s.σ.length 0) ?_) h2)
      simp only[ak]
      exact⟨⟨w.heap.size,0,0,0,0⟩,by show(E++[_])[s.σ.length]? =_;rw[←hlen];exact List.getElem?_concat_length,rfl,rfl⟩
    ·rw[hL]at hk
     simp only[cond_true]at hk
     obtain⟨cs,h1,h2⟩:=Option.bind_eq_some_iff.1 hk
     obtain⟨h5,h6,_,_⟩:=FN X h1 (eH h x)
     have hrun:(execOp a.eval ⟨some d,.box t x,ty,pos,af,g⟩).run X.P w=.ok (.value (.pointer (some ⟨w.heap.size,0,none⟩))) (w.alloc (.cells (a.eval x).cells t)):=by
      simp [execOp,Instr.box,newVar,yH]
     obtain⟨bO,hst⟩:=h.oQ d hL (vs:=(a.eval x).cells.toList) t h5 h6
     exact qL hrun (hK _ _ _ _ _ (by simpa using hst) h2)
  case store t x v=>
   split at hk
   ·rename_i b off hp
    obtain⟨cs,h1,h2⟩:=Option.bind_eq_some_iff.1 hk
    obtain⟨new,h3,h4⟩:=Option.bind_eq_some_iff.1 h2
    obtain⟨cs',h5,h6⟩:=Option.bind_eq_some_iff.1 h4
    obtain⟨n,k1,k2,k3,k4⟩:=FX h (tag:=none) trivial hp h1
    obtain⟨r1,r2,r3,d,hd⟩:=FN X h3 (eH h v)
    obtain⟨arr,bt,j1,j2,j3⟩:=Yl k3
    obtain⟨j4,j5⟩:=j2.gb h5 r1
    have hrun:=Qd (P:=X.P) (t:=t) j1 r3 (VR hd) r2 j5
    have hst:=h.amg k1 ⟨cs,k4⟩ (t:=bt) j4 (Gh j3 r2)
    refine Rn (w':=_) ?_ (hK _ _ _ _ _ (hst.undef dst) h6)
    simp only[execOp,k2,Sem.run_bind]
    rw[show(Instr.storeAt t (.pointer (some ⟨n,off,none⟩)) (a.eval v)).run X.P w=_ from hrun]
    rfl
   ·obtain⟨new,h3,h4⟩:=Option.bind_eq_some_iff.1 hk
    obtain⟨σ',h5,h6⟩:=Option.bind_eq_some_iff.1 h4
    obtain⟨w',k1,k2⟩:=ahj h h3 (eH h v) h5 (eH h x)
    refine Rn (w':=w') ?_ (hK _ _ _ _ _ (k2.undef dst) h6)
    simp only[execOp,Sem.run_bind,k1]
    rfl
  case makeMap t rr=>
   cases rr with
   |some x=>cases hk
   |none=>
    simp only at hk
    have hrun:(execOp a.eval ⟨dst,.makeMap t none,ty,pos,af,g⟩).run X.P w=.ok (.value (.map (some w.heap.size))) (w.alloc (.map #[] 0)):=by
     simp [execOp,Instr.makeMap,newObj,Sem.run]
    have hst:=h.As (.map #[] 0) (.map []) ⟨w.heap.size,0,0,0,0⟩ rfl (fun hx=>by
     have hb:(w.alloc (.map #[] 0)).heap[w.heap.size]? =some (.map #[] 0):=(MapKept.heap_alloc w _).1
     exact⟨rfl,_,_,hb,pS.empty,rfl⟩)
    have hlen:=h.heap.len
    simp only[ctx]at hlen
    refine qL hrun (hK _ _ _ _ _ (hst.put dst (av:=.om s.σ.length) ?_) hk)
    simp only[ak]
    exact⟨⟨w.heap.size,0,0,0,0⟩,by show(E++[_])[s.σ.length]? =_;rw[←hlen];exact List.getElem?_concat_length,rfl,rfl⟩
  case range t x=>
   split at hk
   ·rename_i kt et hd
    obtain⟨es,h1,h2⟩:=Option.bind_eq_some_iff.1 hk
    obtain⟨o,k1,k2⟩:=ajy h hd h1 (eH h x)
    have hlen:=h.heap.len
    simp only[ctx]at hlen
    refine qL (v:=.pointer (some ⟨w.heap.size,0,none⟩)) (w':=w.alloc o) (by simp [execOp,k1]) (hK _ _ _ _ _ (k2.put dst (av:=.op s.σ.length 0) ?_) h2)
    simp only[ak]
    exact⟨⟨w.heap.size,0,0,0,0⟩,by show(E++[_])[s.σ.length]? =_;rw[←hlen];exact List.getElem?_concat_length,rfl,rfl⟩
   ·cases hk
  case buildSlice t n ps=>
   cases dst with
   |none=>exact zX hs h hk hK
   |some d=>
    simp only at hk
    cases hO:X.O.contains d
    ·rw[hO]at hk;exact zX hs h hk hK
    ·rw[hO]at hk
     simp only[cond_true]at hk
     exact afx hs h hk hK
  case mapUpdate t m i v=>
   split at hk
   ·rename_i kt et hd
    split at hk
    ·rename_i ek he
     obtain⟨σ',h1,h2⟩:=Option.bind_eq_some_iff.1 hk
     obtain⟨w',k1,k2⟩:=akM h hd he h1 (eH h m) (eH h i) (eH h v)
     refine Rn (w':=w') ?_ (hK _ _ _ _ _ (k2.undef dst) h2)
     simp only[execOp,Sem.run_bind,k1]
     rfl
    ·cases hk
   ·cases hk
  case call c=>
   have hargs:(c.args.map a.eval).toList=c.args.toList.map a.eval:=by simp
   have re:=Gc h c.args.toList
   split at hk
   ·rename_i hc
    split at hk
    ·rename_i t u x y h1 h2
     split at hk
     ·rename_i e e' hd hu
      split at hk
      ·rename_i i hi
       cases eT:nw i
       ·rw[eT]at hk
        simp only[cond_false]at hk
        simp only[nw,Bool.or_eq_false_iff,beq_eq_false_iff_ne]at eT
        obtain⟨⟨z1,z2⟩,z3⟩:=eT
        cases UE:i.zero with
        |none=>rw[UE]at z3;cases z3
        |some zv=>
         rw[UE]at z3
         simp only[Bool.or_eq_false_iff,bne_eq_false_iff_eq,Bool.not_eq_false']at z3
         obtain⟨z3,z4⟩:=z3
         obtain⟨⟨rr,σ'⟩,h3,h4⟩:=Option.bind_eq_some_iff.1 hk
         rw[h2]at re
         have hl:∃v vy,c.args.toList.map a.eval=[v,vy]∧ak (ctx z w E pb) x v∧ak (ctx z w E pb) y vy:=by
          generalize c.args.toList.map a.eval=vs at *
          simp only[aJ]at re
          obtain⟨v,_,rfl,r1,u',_,rfl,r2,rfl⟩:=re
          exact⟨v,u',rfl,r1,r2⟩
         obtain⟨v,vy,hvs,r1,r2⟩:=hl
         have hone:∀x∈zv.cells.toList,dK x=true:=List.all_eq_true.1 z4
         obtain⟨n,w',E',k1,k2,k3⟩:=ahx (ty:=ty) h hd hu hi UE z3 z1 z2 hone h3 r1 r2
         have h1':c.argTypes=#[t,u]:=by apply Array.toList_inj.1;simpa using h1
         have tP:c.args.map a.eval=#[v,vy]:=by apply Array.toList_inj.1;rw[hargs,hvs]
         have hrun:(execOp a.eval ⟨dst,.call c,ty,pos,af,g⟩).run X.P w=.ok (.value n) w':=by
          simp only[execOp,resolve,hc,Sem.run_bind,Sem.run_pure,Result.andThen_ok,invoke,builtin,tP,h1',k1]
         exact qL hrun (hK _ _ _ _ _ (k2.put dst k3) h4)
       ·rw[eT]at hk;cases hk
      ·cases hk
     ·rename_i e kk hd hu
      split at hk
      ·rename_i i zs hi hz
       cases eT:nw i
       ·rw[eT]at hk
        simp only[cond_false]at hk
        simp only[nw,Bool.or_eq_false_iff,beq_eq_false_iff_ne]at eT
        obtain⟨⟨z1,z2⟩,z3⟩:=eT
        obtain⟨i',zv,g1,g2,g3,g4,g5,g6⟩:=yL (w:=w) hz (ctx z w E pb)
        rw[hi]at g1;injection g1 with g1;subst g1
        rw[g2]at z3
        simp only[Bool.or_eq_false_iff,bne_eq_false_iff_eq,Bool.not_eq_false']at z3
        obtain⟨z3,z4⟩:=z3
        have rG:∀c,aJ c zs zv.cells.toList:=fun c=>by
         obtain⟨i2,v2,f1,f2,f3,f4,f5,f6⟩:=yL (w:=w) hz c
         rw[hi]at f1;injection f1 with f1;subst f1
         rw[g2]at f2;injection f2 with f2;subst f2
         exact f5
        obtain⟨⟨rr,σ'⟩,h3,h4⟩:=Option.bind_eq_some_iff.1 hk
        rw[h2]at re
        have hl:∃v vy,c.args.toList.map a.eval=[v,vy]∧ak (ctx z w E pb) x v∧ak (ctx z w E pb) y vy:=by
         generalize c.args.toList.map a.eval=vs at *
         simp only[aJ]at re
         obtain⟨v,_,rfl,r1,u',_,rfl,r2,rfl⟩:=re
         exact⟨v,u',rfl,r1,r2⟩
        obtain⟨v,vy,hvs,r1,r2⟩:=hl
        obtain⟨n,w',E',k1,k2,k3⟩:=agj (ty:=ty) h hd hu hi g2 z3 z1 z2 rG g6 h3 r1 r2
        have h1':c.argTypes=#[t,u]:=by apply Array.toList_inj.1;simpa using h1
        have tP:c.args.map a.eval=#[v,vy]:=by apply Array.toList_inj.1;rw[hargs,hvs]
        have hrun:(execOp a.eval ⟨dst,.call c,ty,pos,af,g⟩).run X.P w=.ok (.value n) w':=by
         simp only[execOp,resolve,hc,Sem.run_bind,Sem.run_pure,Result.andThen_ok,invoke,builtin,tP,h1',k1]
        exact qL hrun (hK _ _ _ _ _ (k2.put dst k3) h4)
       ·rw[eT]at hk;cases hk
      ·cases hk
     ·cases hk
    ·cases hk
   ·rename_i hc
    split at hk
    ·rename_i t u x y h1 h2
     split at hk
     ·rename_i e e' hd hu
      split at hk
      ·rename_i i hi
       cases eT:nw i
       ·rw[eT]at hk
        simp only[cond_false]at hk
        simp only[nw,Bool.or_eq_false_iff,beq_eq_false_iff_ne]at eT
        obtain⟨⟨z1,z2⟩,z3⟩:=eT
        obtain⟨⟨rr,σ'⟩,h3,h4⟩:=Option.bind_eq_some_iff.1 hk
        rw[h2]at re
        have hl:∃v vy,c.args.toList.map a.eval=[v,vy]∧ak (ctx z w E pb) x v∧ak (ctx z w E pb) y vy:=by
         generalize c.args.toList.map a.eval=vs at *
         simp only[aJ]at re
         obtain⟨v,_,rfl,r1,u',_,rfl,r2,rfl⟩:=re
         exact⟨v,u',rfl,r1,r2⟩
        obtain⟨v,vy,hvs,r1,r2⟩:=hl
        obtain⟨n,w',k1,k2,k3⟩:=aj8 (ty:=ty) h hd hu hi z1 h3 r1 r2
        have h1':c.argTypes=#[t,u]:=by apply Array.toList_inj.1;simpa using h1
        have tP:c.args.map a.eval=#[v,vy]:=by apply Array.toList_inj.1;rw[hargs,hvs]
        have hrun:(execOp a.eval ⟨dst,.call c,ty,pos,af,g⟩).run X.P w=.ok (.value n) w':=by
         simp only[execOp,resolve,hc,Sem.run_bind,Sem.run_pure,Result.andThen_ok,invoke,builtin,tP,h1',k1]
        exact qL hrun (hK _ _ _ _ _ (k2.put dst k3) h4)
       ·rw[eT]at hk;cases hk
      ·cases hk
     ·cases hk
    ·cases hk
   ·rename_i hc
    cases hv:fZ X ⟨dst,.call c,ty,pos,af,g⟩ s none with
    |some v=>
     rw[hv]at hk
     exact zX hs h (by rw[hv];exact hk) hK
    |none=>
     rw[hv]at hk
     simp only[A.Jb]at hk
     cases q
     ·simp only[cond_false]at hk
      split at hk
      ·rename_i t x h1 h2
       split at hk
       ·rename_i e hd
        rw[h2]at re
        have hl:∃v,c.args.toList.map a.eval=[v]∧ak (ctx z w E pb) x v:=by
         generalize c.args.toList.map a.eval=vs at *
         simp only[aJ]at re
         obtain⟨v,_,rfl,r1,rfl⟩:=re
         exact⟨v,rfl,r1⟩
        obtain⟨v,hvs,r1⟩:=hl
        obtain⟨n,σ',k1,k2,k3⟩:=aj2 (ty:=ty) h hd hk r1
        have h1':c.argTypes=#[t]:=by apply Array.toList_inj.1;simpa using h1
        have tP:c.args.map a.eval=#[v]:=by apply Array.toList_inj.1;rw[hargs,hvs]
        have hrun:(execOp a.eval ⟨dst,.call c,ty,pos,af,g⟩).run X.P w=.ok (.value (.int .i64 (n:Int))) w:=by
         simp only[execOp,resolve,hc,Sem.run_bind,Sem.run_pure,Result.andThen_ok,invoke,builtin,tP,h1',k2]
        exact qL hrun (hK _ _ _ _ _ (k3.put dst (by simp [ak])) k1)
       ·cases hk
      ·cases hk
     ·cases hk
   ·rename_i hc
    split at hk
    ·rename_i t x h1 h2
     split at hk
     ·rename_i e hd
      split at hk
      ·rename_i i zs hi hz
       cases eT:nw i
       ·rw[eT]at hk
        simp only[cond_false]at hk
        simp only[nw,Bool.or_eq_false_iff,beq_eq_false_iff_ne]at eT
        obtain⟨⟨z1,z2⟩,z3⟩:=eT
        obtain⟨i',zv,g1,g2,g3,g4,g5,g6⟩:=yL (w:=w) hz (ctx z w E pb)
        rw[hi]at g1;injection g1 with g1;subst g1
        rw[g2]at z3
        simp only[Bool.or_eq_false_iff,bne_eq_false_iff_eq,Bool.not_eq_false']at z3
        obtain⟨z3,z4⟩:=z3
        have rG:∀c,aJ c zs zv.cells.toList:=fun c=>by
         obtain⟨i2,v2,f1,f2,f3,f4,f5,f6⟩:=yL (w:=w) hz c
         rw[hi]at f1;injection f1 with f1;subst f1
         rw[g2]at f2;injection f2 with f2;subst f2
         exact f5
        obtain⟨σ',h3,h4⟩:=Option.bind_eq_some_iff.1 hk
        rw[h2]at re
        have hl:∃v,c.args.toList.map a.eval=[v]∧ak (ctx z w E pb) x v:=by
         generalize c.args.toList.map a.eval=vs at *
         simp only[aJ]at re
         obtain⟨v,_,rfl,r1,rfl⟩:=re
         exact⟨v,rfl,r1⟩
        obtain⟨v,hvs,r1⟩:=hl
        obtain⟨w',k1,k2⟩:=aiQ (ty:=ty) h hd (ahr X.P hi g2) z3 z1 rG g6 h3 r1
        have h1':c.argTypes=#[t]:=by apply Array.toList_inj.1;simpa using h1
        have tP:c.args.map a.eval=#[v]:=by apply Array.toList_inj.1;rw[hargs,hvs]
        have hrun:(execOp a.eval ⟨dst,.call c,ty,pos,af,g⟩).run X.P w=.ok (.value undef) w':=by
         simp only[execOp,resolve,hc,Sem.run_bind,Sem.run_pure,Result.andThen_ok,invoke,builtin,tP,h1',k1]
         rfl
        exact qL hrun (hK _ _ _ _ _ (k2.undef dst) h4)
       ·rw[eT]at hk;cases hk
      ·cases hk
     ·cases hk
    ·cases hk
   ·rename_i hc
    split at hk
    ·rename_i t u m key h1 h2
     split at hk
     ·rename_i kt et hd
      split at hk
      ·rename_i ek he
       obtain⟨σ',h3,h4⟩:=Option.bind_eq_some_iff.1 hk
       rw[h2]at re
       have hl:∃v vy,c.args.toList.map a.eval=[v,vy]∧ak (ctx z w E pb) m v∧ak (ctx z w E pb) key vy:=by
        generalize c.args.toList.map a.eval=vs at *
        simp only[aJ]at re
        obtain⟨v,_,rfl,r1,u',_,rfl,r2,rfl⟩:=re
        exact⟨v,u',rfl,r1,r2⟩
       obtain⟨v,vy,hvs,r1,r2⟩:=hl
       obtain⟨w',k1,k2⟩:=akI (u:=u) (ty:=ty) h hd he h3 r1 r2
       have h1':c.argTypes=#[t,u]:=by apply Array.toList_inj.1;simpa using h1
       have tP:c.args.map a.eval=#[v,vy]:=by apply Array.toList_inj.1;rw[hargs,hvs]
       have hrun:(execOp a.eval ⟨dst,.call c,ty,pos,af,g⟩).run X.P w=.ok (.value undef) w':=by
        simp only[execOp,resolve,hc,Sem.run_bind,Sem.run_pure,Result.andThen_ok,invoke,builtin,tP,h1',k1]
        rfl
       exact qL hrun (hK _ _ _ _ _ (k2.undef dst) h4)
      ·cases hk
     ·cases hk
    ·cases hk
   ·exact zX hs h hk hK
   ·rename_i f hc
    cases hq:(q&&!X.W.contains f)
    ·rw[hq]at hk
     simp only[cond_false]at hk
     obtain⟨⟨rr,σ'⟩,h3,h4⟩:=Option.bind_eq_some_iff.1 hk
     exact Iw h (hs.call _ _ _ _ _ h3) (by rw[hargs];exact re) (VG hc) (fun v w' E' h1 h2=>hK _ _ _ _ _ (h1.put dst h2) h4)
    ·rw[hq]at hk
     simp only[cond_true]at hk
     exact zX hs h hk hK
   ·rename_i x hnf hc
    cases q
    ·simp only[cond_false]at hk
     obtain⟨⟨rr,σ'⟩,h3,h4⟩:=Option.bind_eq_some_iff.1 hk
     have rx:=eH h x
     generalize ev X s x=vx at *
     cases vx<;>simp only[A.fR]at h3<;>first|(cases h3;done)|skip
     rename_i fn0 IU
     simp only[ak]at rx
     obtain⟨f,cs,e1,e2,e3⟩:=rx
     rw[←e2]at h3
     have By:X.dyn (X.nm.getD f 0) (c.args.toList.map (ev X s)++IU) s.σ=some (rr,σ'):=by rw[h.nm];exact h3
     exact Iw h (hs.dyn _ _ _ _ _ By) (vs:=c.args.map a.eval++cs) (by rw[Array.toList_append,hargs];exact re.append e3) (PB hc e1) (fun v w' E' h1 h2=>hK _ _ _ _ _ (h1.put dst h2) h4)
    ·simp only[cond_true]at hk
     exact zX hs h hk hK
   ·cases hk
end
end
section
structure Up where
 d:Option Nat
 v:AV
 bx:Option (Nat×AV)
 new:Option uM
 wY:Bool
 σ:Option Heap
def p9 (wY:Bool) (d:Nat) (a:Option uM):Option uM:=match oJ d a with|some p=>bif wY&&p.slot==d then none else some p|none=>none
def Up.sl (u:Up) (l:List AV):List AV:=match u.d with
 |some d=>(match u.bx with|some (b,x)=>l.set b x|none=>l).set d u.v
 |none=>(match u.bx with|some (b,x)=>l.set b x|none=>l)
def Up.A (u:Up) (A:Nat→Option uM) (t:Nat):Option uM:=match u.d with|none=>A t|some d=>bif t==d then u.new else p9 u.wY d (A t)
def Up.ap (u:Up) (s:AS):AS:=⟨u.sl s.sl,u.A s.A,u.σ.getD s.σ⟩
theorem Ic (d:Nat) (a:Option uM):p9 false d a=oJ d a:=by unfold p9;cases oJ d a<;>rfl
theorem Qk (i:Bool) (d:Nat) (a:Option uM):p9 i d a=a∨p9 i d a=none:=by
 cases a with
 |none=>left;rfl
 |some p=>
  unfold p9
  cases hk:oJ d (some p)with
  |none=>right;rfl
  |some q=>
   simp only
   have:q=p:=by
    simp only[oJ]at hk
    cases ht:p.tag with
    |none=>rw[ht]at hk;simpa using hk.symm
    |some g=>
     obtain⟨g,w⟩:=g
     rw[ht]at hk
     simp only at hk
     cases hg:(g==d)
     ·rw[hg]at hk;simpa using hk.symm
     ·rw[hg]at hk;cases hk
   subst this
   cases hb:(i&&q.slot==d)
   ·left;rfl
   ·right;rfl
theorem L3 (i:Bool) (d:Nat):p9 i d none=none:=rfl
theorem ahN (i j:Bool) (d e:Nat) (a:Option uM):p9 i d (p9 j e a)=p9 j e (p9 i d a):=by
 rcases Qk i d a with h1|h1<;>rcases Qk j e a with h2|h2
 ·rw[h2,h1,h2]
 ·rw[h2,L3,h1,h2]
 ·rw[h2,h1,L3]
 ·rw[h2,L3,h1,L3]
structure Up.aaO (x y : Up) : Prop where
 d:∀d,x.d=some d→y.d≠some d
 bx:∀b v,x.bx=some (b,v)→(∀c w,y.bx=some (c,w)→c≠b)∧y.d≠some b
 by':∀b v,y.bx=some (b,v)→(∀c w,x.bx=some (c,w)→c≠b)∧x.d≠some b
 nx:∀d,y.d=some d→p9 y.wY d x.new=x.new
 ny:∀d,x.d=some d→p9 x.wY d y.new=y.new
 σ:x.σ=none∨y.σ=none
theorem Up.comm {x y:Up} (h:x.aaO y) (s:AS):x.ap (y.ap s)=y.ap (x.ap s):=by
 obtain⟨hd,ou,hby,hnx,hny,fU⟩:=h
 unfold Up.ap
 congr 1
 ·show x.sl (y.sl s.sl)=y.sl (x.sl s.sl)
  generalize s.sl=l
  obtain⟨xd,xv,xb,xn,xi,xs⟩:=x
  obtain⟨yd,yv,yb,yn,yi,ys⟩:=y
  simp only at hd ou hby
  cases xb with
  |none=>
   cases yb with
   |none=>
    cases xd with
    |none=>cases yd<;>simp [Up.sl]
    |some dx=>cases yd with
     |none=>simp [Up.sl]
     |some dy=>simp only[Up.sl];rw[List.set_comm];intro e;exact hd dx rfl (by rw[e])
   |some bv=>
    obtain⟨b,v⟩:=bv
    obtain⟨_,hb⟩:=hby b v rfl
    cases xd with
    |none=>cases yd<;>simp [Up.sl]
    |some dx=>
     have hne:dx≠b:=fun e=>hb (by rw[e])
     cases yd with
     |none=>simp only[Up.sl];rw[List.set_comm _ _ (fun e=>hne e.symm)]
     |some dy=>
      have qv:dx≠dy:=fun e=>hd dx rfl (by rw[e])
      simp only[Up.sl]
      rw[List.set_comm _ _ (fun e=>qv e.symm),List.set_comm _ _ (fun e=>hne e.symm)]
  |some bv=>
   obtain⟨b,v⟩:=bv
   obtain⟨J9,hb⟩:=ou b v rfl
   cases yb with
   |none=>
    cases yd with
    |none=>cases xd<;>simp [Up.sl]
    |some dy=>
     have hne:dy≠b:=fun e=>hb (by rw[e])
     cases xd with
     |none=>simp only[Up.sl];rw[List.set_comm _ _ hne]
     |some dx=>
      have qv:dx≠dy:=fun e=>hd dx rfl (by rw[e])
      simp only[Up.sl]
      rw[List.set_comm _ _ hne,List.set_comm _ _ (fun e=>qv e.symm)]
   |some cw=>
    obtain⟨c,u⟩:=cw
    have hcb:c≠b:=J9 c u rfl
    obtain⟨_,hc⟩:=hby c u rfl
    cases xd with
    |none=>
     cases yd with
     |none=>simp only[Up.sl];rw[List.set_comm _ _ hcb]
     |some dy=>
      have hne:dy≠b:=fun e=>hb (by rw[e])
      simp only[Up.sl]
      rw[List.set_comm _ _ hne,List.set_comm _ _ hcb]
    |some dx=>
     have hnc:dx≠c:=fun e=>hc (by rw[e])
     cases yd with
     |none=>
      simp only[Up.sl]
      rw[List.set_comm _ _ hcb,List.set_comm _ _ (fun e=>hnc e.symm)]
     |some dy=>
      have hne:dy≠b:=fun e=>hb (by rw[e])
      have qv:dx≠dy:=fun e=>hd dx rfl (by rw[e])
      simp only[Up.sl]
      rw[List.set_comm _ _ hne,List.set_comm _ _ (fun e=>qv e.symm),List.set_comm _ _ hcb,List.set_comm _ _ (fun e=>hnc e.symm)]
 ·funext t
  show x.A (y.A s.A) t=y.A (x.A s.A) t
  generalize s.A t=a0 
  unfold Up.A
  cases Oa:x.d with
  |none=>cases y.d<;>rfl
  |some dx=>
   cases hyd:y.d with
   |none=>rfl
   |some dy=>
    have qv:dx≠dy:=fun e=>hd dx Oa (by rw[hyd,e])
    simp only
    by_cases h1:t=dx
    ·subst h1
     have:(t==dy)=false:=by simpa using qv
     simp only[beq_self_eq_true,cond_true,this,cond_false]
     exact(hnx dy hyd).symm
    ·have h1':(t==dx)=false:=by simpa using h1
     by_cases h2:t=dy
     ·subst h2
      simp only[beq_self_eq_true,cond_true,h1',cond_false]
      exact hny dx Oa
     ·have h2':(t==dy)=false:=by simpa using h2
      simp only[h1',h2',cond_false]
      exact ahN ..
 ·rcases fU with e|e<;>simp [e]
structure RI (X : Fx) (Rt : List (Nat × Nat)) (Bt : List Nat) (s : AS) : Prop where
 l:∀t b,Rt.lookup t=some b→X.L.contains b=true
 a:∀t p,s.A t=some p→Rt.lookup t=some p.slot
 v:∀t b,Rt.lookup t=some b→X.L.contains t=false→mB (s.sl.getD t .undef)=true
 b:∀t,Bt.contains t=true→oT (s.sl.getD t .undef)=true
def qQ (σ σ':Heap):Prop:=∀(id:Nat) (cs:List AV),σ[id]? =some (aK.box cs)↔σ'[id]? =some (aK.box cs)
section
variable {R : Type} {X : Fx} {Rt : List (Nat × Nat)} {Bt : List Nat} {s s' : AS}
theorem Mv (h:RI X Rt Bt s) {tag:Option (Nat×Bool)} {x:Operand} {b off:Nat} (hp:place X s tag x=some (b,off)):zR X Rt x=some b:=by
 cases x with
 |tmp t=>
  simp only[place]at hp
  simp only[zR]
  cases hL:X.L.contains t
  ·rw[hL]at hp
   simp only[cond_false]at hp ⊢
   split at hp
   ·rename_i p hA
    cases hc:X.L.contains p.slot
    ·rw[hc]at hp;cases hp
    ·rw[hc]at hp
     simp only[cond_true]at hp
     have ha:=h.a t p hA
     split at hp
     ·simp only[Option.some.injEq,Prod.mk.injEq]at hp;rw[ha,hp.1]
     ·rename_i g hg
      cases ht:(tag==some g)
      ·rw[ht]at hp;cases hp
      ·rw[ht]at hp;simp only[cond_true,Option.some.injEq,Prod.mk.injEq]at hp;rw[ha,hp.1]
   ·cases hp
  ·rw[hL]at hp
   simp only[cond_true,Option.some.injEq,Prod.mk.injEq]at hp ⊢
   exact hp.1
 |_=>simp [place]at hp
theorem F8 (h:RI X Rt Bt s) {tag:Option (Nat×Bool)} {x:Operand} {b:Nat} (hr:zR X Rt x=some b) (hp:place X s tag x=none):mB (ev X s x)=true:=by
 cases x with
 |tmp t=>
  simp only[zR]at hr
  cases hL:X.L.contains t
  ·rw[hL]at hr
   simp only[cond_false]at hr
   simp only[ev,hL,cond_false]
   exact h.v t b hr hL
  ·simp only[place,hL,cond_true]at hp;cases hp
 |_=>simp [zR]at hr
theorem Yn {v:AV} {σ:Heap} (h:mB v=true):A.deref v σ=none:=by
 unfold mB at h;split at h<;>first|rfl|cases h
theorem ahJ {v:AV} {σ σ':Heap} (h:qQ σ σ') (hv:oT v=true):A.deref v σ=A.deref v σ':=by
 cases v<;>first|rfl|skip
 case op id off=>
  simp only[A.deref]
  cases h1:σ[id]? with
  |none=>
   cases h2:σ'[id]? with
   |none=>rfl
   |some b=>cases b<;>first|rfl|(have:=(h id _).2 h2;rw[h1]at this;cases this)
  |some b=>
   cases b with
   |box cs=>rw[(h id cs).1 h1]
   |_=>
    cases h2:σ'[id]? with
    |none=>rfl
    |some b=>cases b<;>first|rfl|(have:=(h id _).2 h2;rw[h1]at this;cases this)
 case oe id g i off=>cases hv
theorem ahi {v:AV} {new:List AV} {σ:Heap} (h:mB v=true):A.storeAt v new σ=none:=by
 unfold mB at h;split at h<;>first|rfl|cases h
theorem P6 {pl:Nat→Option (Nat×TypeId)}:∀(ps:List (Nat×Operand)) (cs:List AV),(∀p∈ps,ev X s p.2=ev X s' p.2)→oR X s pl ps cs=oR X s' pl ps cs
 |[],cs,_=>rfl
 |(i,x)::ps,cs,h=>by
  have hx:=h (i,x) (by simp)
  simp only at hx
  simp only[oR,hx]
  cases pl i with
  |none=>rfl
  |some ot=>
   simp only
   congr 1;funext new;congr 1;funext cs'
   exact P6 ps cs' (fun p hp=>h p (by simp [hp]))
theorem QW {o:Oper} {tag:Option (Nat×Bool)} (gE:∀x∈o.op.operands.toList,ev X s x=ev X s' x) (hpl:∀x,n9 o=some x→place X s tag x=place X s' tag x) (hb:∀b,rt X Rt o=some b→s.sl.getD b .undef=s'.sl.getD b .undef)
  (JZ:∀x b off,n9 o=some x→place X s' tag x=some (b,off)→rt X Rt o=some b):kM X o s tag=kM X o s' tag:=by
 obtain⟨dst,op,ty,pos,af,g⟩:=o
 cases op<;>simp only[kM]
 case nilCheck x=>
  rw[hpl x rfl]
  split
  ·rename_i b off hp;rw[hb b (JZ x b off rfl hp)]
  ·rfl
 case fieldAddr t x f=>
  rw[hpl x rfl]
  split
  ·rename_i b off hp;rw[hb b (JZ x b off rfl hp)]
  ·rfl
 case indexAddr t x i=>
  rw[hpl x rfl,gE i (by simp [Op.operands])]
  split
  ·rename_i b off hp;rw[hb b (JZ x b off rfl hp)]
  ·rfl
theorem L9 {o:Oper} {tag:Option (Nat×Bool)} (gE:∀x∈o.op.operands.toList,ev X s x=ev X s' x) (hpl:∀x,n9 o=some x→place X s tag x=place X s' tag x) (hb:∀b,rt X Rt o=some b→s.sl.getD b .undef=s'.sl.getD b .undef)
  (JZ:∀x b off,n9 o=some x→place X s' tag x=some (b,off)→rt X Rt o=some b) (hno:∀x b,n9 o=some x→rt X Rt o=some b→place X s' tag x=none→mB (ev X s' x)=true) (fU:vg X Rt o=true→soft Bt o=false→s.σ=s'.σ) (aoO:vg X Rt o=true→soft Bt o=true→qQ s.σ s'.σ) (hB:∀t,Bt.contains t=true→oT (ev X s' (.tmp t))=true):fZ X o s tag=fZ X o s' tag:=by
 obtain⟨dst,op,ty,pos,af,g⟩:=o
 cases op<;>simp only[fZ]
 case move x=>rw[gE x (by simp [Op.operands])]
 case assign x=>rw[gE x (by simp [Op.operands])]
 case pick x y u=>rw[gE x (by simp [Op.operands]),gE y (by simp [Op.operands]),gE u (by simp [Op.operands])]
 case box t x=>rw[gE x (by simp [Op.operands])]
 case build t ps=>
  have hps:∀p∈ps.toList,ev X s p.2=ev X s' p.2:=fun p hp=>gE p.2 (by simp only[Op.operands];simp;exact⟨p.1,by simpa using hp⟩)
  split
  ·rw[P6 ps.toList _ hps]
  ·rfl
 case buildSlice t n ps=>
  have hps:∀p∈ps.toList,ev X s p.2=ev X s' p.2:=fun p hp=>gE p.2 (by simp only[Op.operands];simp;exact⟨p.1,by simpa using hp⟩)
  split
  ·split
   ·rw[P6 ps.toList _ hps]
   ·rfl
  ·rfl
 case load t x=>
  rw[hpl x rfl,gE x (by simp [Op.operands])]
  split
  ·rename_i b off hp;rw[hb b (JZ x b off rfl hp)]
  ·rename_i hp
   cases hr:rt X Rt ⟨dst,.load t x,ty,pos,af,g⟩with
   |none=>
    cases EO:soft Bt ⟨dst,.load t x,ty,pos,af,g⟩
    ·rw[fU (by simp only[vg,hr,Option.isNone_none]) EO]
    ·rw[ahJ (aoO (by simp only[vg,hr,Option.isNone_none]) EO) (by
      cases x with
      |tmp u=>exact hB u EO
      |_=>simp [soft]at EO)]
   |some b=>rw[Yn (hno x b rfl hr hp),Yn (hno x b rfl hr hp)]
 case nilCheck x=>rw[gE x (by simp [Op.operands])]
 case binOp op t x y u=>rw[gE x (by simp [Op.operands]),gE y (by simp [Op.operands])]
 case unOp op t x=>rw[gE x (by simp [Op.operands])]
 case convert a b x=>rw[gE x (by simp [Op.operands])]
 case makeFunc fn first caps=>
  have:caps.toList.map (ev X s)=caps.toList.map (ev X s'):=List.map_congr_left fun x hx=>gE x (by simp [Op.operands];exact .inr (by simpa using hx))
  rw[this]
 case slice t x lo hi mx=>
  have h1:lo.map (ev X s)=lo.map (ev X s'):=by cases lo with|none=>rfl|some y=>simp only[Option.map_some];rw[gE y (by simp [Op.operands])]
  have h2:hi.map (ev X s)=hi.map (ev X s'):=by cases hi with|none=>rfl|some y=>simp only[Option.map_some];rw[gE y (by simp [Op.operands])]
  rw[gE x (by simp [Op.operands]),h1,h2,fU rfl rfl]
  split
  ·rfl
  ·split
   ·rw[gE _ (by simp [Op.operands]),gE _ (by simp [Op.operands])]
   ·rfl
 case fieldAddr t x f=>rw[gE x (by simp [Op.operands])]
 case field t x f=>rw[gE x (by simp [Op.operands])]
 case indexAddr t x i=>rw[gE x (by simp [Op.operands]),gE i (by simp [Op.operands])]
 case index t x i=>rw[gE x (by simp [Op.operands]),gE i (by simp [Op.operands])]
 case lookup t x i ok=>rw[gE x (by simp [Op.operands]),gE i (by simp [Op.operands]),fU rfl rfl]
 case extract x i=>rw[gE x (by simp [Op.operands])]
 case entry i=>rw[gE i (by simp [Op.operands]),fU rfl rfl]
 case call c=>
  have ha:c.args.toList.map (ev X s)=c.args.toList.map (ev X s'):=List.map_congr_left fun x hx=>gE x (by simp [Op.operands,Call.operands];exact .inr (by simpa using hx))
  rw[ha,fU rfl rfl]
  cases hc:c.callee with
  |value f=>
   have hf:=gE f (by simp [Op.operands,Call.operands,hc])
   cases f<;>simp only[hf]
  |_=>rfl
theorem Mi {σ:Heap} {b:aK} (hb:∀cs,b≠.box cs):qQ σ (σ++[b]):=by
 intro id cs
 by_cases h:id<σ.length
 ·rw[List.getElem?_append_left h]
 ·rw[List.getElem?_eq_none (by omega),List.getElem?_append_right (by omega)]
  constructor
  ·intro e;cases e
  ·intro e
   have:=List.mem_of_getElem? e
   simp at this
   exact absurd this.symm (hb cs)
theorem Rr {σ:Heap} {id:Nat} {b b':aK} (hb:∀cs,b≠.box cs) (hb':∀cs,b'≠.box cs) (h:σ[id]? =some b):qQ σ (σ.set id b'):=by
 intro i cs
 rw[List.getElem?_set]
 by_cases e:id=i
 ·subst e
  rw[h]
  have hlt:=(List.getElem?_eq_some_iff.1 h).1
  simp only[if_true,hlt]
  constructor
  ·intro e;injection e with e;exact absurd e (hb cs)
  ·intro e;injection e with e;exact absurd e (hb' cs)
 ·simp [e]
theorem Dz (σ:Heap):qQ σ σ:=fun _ _=>Iff.rfl
theorem aiI {ek:A.EK} {m k v:AV} {σ σ':Heap} (h:A.eA ek m k v σ=some σ'):qQ σ σ':=by
 unfold A.eA at h
 cases hk:A.jB ek k
 ·rw[hk]at h;cases h
 rw[hk]at h
 simp only[cond_true]at h
 split at h
 ·split at h
  ·rename_i es hg
   obtain⟨es',_,e⟩:=Option.map_eq_some_iff.1 h
   subst e
   exact Rr (fun cs e=>by cases e) (fun cs e=>by cases e) hg
  ·cases h
 ·cases h
theorem We {sz most:Nat} {x r:AV} {ys:List (List AV)} {σ σ':Heap} (h:A.ud sz most x ys σ=some (r,σ')):qQ σ σ':=by
 unfold A.ud at h
 split at h
 ·split at h
  ·injection h with h;injection h with _ h;subst h;exact Dz _
  ·split at h
   ·injection h with h;injection h with _ h;subst h;exact Mi fun cs e=>by cases e
   ·cases h
 ·split at h
  ·injection h with h;injection h with _ h;subst h;exact Dz _
  ·split at h
   ·injection h with h;injection h with _ h;subst h;exact Mi fun cs e=>by cases e
   ·cases h
 ·split at h
  ·rename_i hg
   split at h
   ·split at h
    ·injection h with h;injection h with _ h;subst h;exact Dz _
    ·split at h
     ·injection h with h;injection h with _ h;subst h;exact Rr (fun cs e=>by cases e) (fun cs e=>by cases e) hg
     ·injection h with h;injection h with _ h;subst h;exact Rr (fun cs e=>by cases e) (fun cs e=>by cases e) hg
   ·cases h
  ·split at h
   ·injection h with h;injection h with _ h;subst h;exact Mi fun cs e=>by cases e
   ·cases h
  ·cases h
 ·cases h
theorem agl {sz most:Nat} {x y r:AV} {σ σ':Heap} (h:A.append sz most x y σ=some (r,σ')):qQ σ σ':=by
 unfold A.append at h
 obtain⟨ys,_,h2⟩:=Option.bind_eq_some_iff.1 h
 exact We h2
theorem afw {sz most:Nat} {zs:List AV} {x n r:AV} {σ σ':Heap} (h:A.Iv sz most zs x n σ=some (r,σ')):qQ σ σ':=by
 unfold A.Iv at h
 split at h
 ·split at h
  ·exact We h
  ·cases h
 ·cases h
structure Ag (X : Fx) (Rt : List (Nat × Nat)) (Bt : List Nat) (o : Oper) (ls : List Nat) (tag : Option (Nat × Bool)) (s s' : AS) : Prop where
 r1:RI X Rt Bt s
 r2:RI X Rt Bt s'
 gE:∀t∈ls,X.L.contains t=false→s.sl.getD t .undef=s'.sl.getD t .undef
 pl:∀t,n9 o=some (.tmp t)→place X s tag (.tmp t)=place X s' tag (.tmp t)
 bx:∀b,rt X Rt o=some b→s.sl.getD b .undef=s'.sl.getD b .undef
 σ:vg X Rt o=true→soft Bt o=false→s.σ=s'.σ
 KC:vg X Rt o=true→soft Bt o=true→qQ s.σ s'.σ
theorem ajw {tag:Option (Nat×Bool)} {x:Operand} {b off:Nat} (h:place X s tag x=some (b,off)):X.L.contains b=true:=by
 cases x with
 |tmp t=>
  simp only[place]at h
  cases hL:X.L.contains t
  ·rw[hL]at h
   simp only[cond_false]at h
   split at h
   ·rename_i p hA
    cases hp:X.L.contains p.slot
    ·rw[hp]at h;cases h
    ·rw[hp]at h
     simp only[cond_true]at h
     split at h
     ·simp only[Option.some.injEq,Prod.mk.injEq]at h;rw[←h.1];exact hp
     ·rename_i g hg
      cases ht:(tag==some g)
      ·rw[ht]at h;cases h
      ·rw[ht]at h;simp only[cond_true,Option.some.injEq,Prod.mk.injEq]at h;rw[←h.1];exact hp
   ·cases h
  ·rw[hL]at h
   simp only[cond_true,Option.some.injEq,Prod.mk.injEq]at h
   rw[←h.1];exact hL
 |_=>simp [place]at h
theorem Ag.CW {o:Oper} {ls:List Nat} {tag:Option (Nat×Bool)} (h:Ag X Rt Bt o ls tag s s') (hls:∀t,Operand.tmp t∈o.op.operands.toList→t∈ls):∀x∈o.op.operands.toList,ev X s x=ev X s' x:=by
 intro x hx
 cases x with
 |tmp t=>
  simp only[ev]
  cases hL:X.L.contains t
  ·simp only[cond_false];exact h.gE t (hls t hx) hL
  ·rfl
 |_=>rfl
theorem RI.G6 (h:RI X Rt Bt s):∀t,Bt.contains t=true→oT (ev X s (.tmp t))=true:=by
 intro t ht
 simp only[ev]
 cases X.L.contains t
 ·exact h.b t ht
 ·rfl
theorem Ag.BD {o:Oper} {ls:List Nat} {tag:Option (Nat×Bool)} (h:Ag X Rt Bt o ls tag s s'):∀x,n9 o=some x→place X s tag x=place X s' tag x:=by
 intro x hx
 cases x with
 |tmp t=>exact h.pl t hx
 |_=>rfl
def E8 (X:Fx) (d:Option Nat) (v:AV):Up:=⟨d,match d with|some d=>bif X.L.contains d then .undef else v|none=>.undef,none,none,false,none⟩
def KA (X:Fx) (d:Option Nat) (σ:Heap) (v:AV):Up:=⟨d,match d with|some d=>bif X.L.contains d then .undef else v|none=>.undef,none,none,false,some σ⟩
def Ot (X:Fx) (d:Option Nat) (b:Nat) (cs:List AV):Up:=⟨d,match d with|some d=>bif X.L.contains d then .undef else .aF []|none=>.undef,some (b,.lbx cs),none,false,none⟩
def Oq (d:Nat) (cs:List AV):Up:=⟨some d,.lbx cs,none,none,true,none⟩
def Hr (X:Fx) (d:Option Nat) (b off:Nat) (tag:Option (Nat×Bool)):Up:=
 ⟨d,.undef,none,match d with|some d=>(bif X.L.contains d||!Nat.blt d X.n then none else match tag with|some (g,w)=>(bif g==d then none else some ⟨b,off,some (g,w)⟩)|none=>some ⟨b,off,none⟩)|none=>none,false,none⟩
theorem Nf (d:Option Nat) (v:AV) (s:AS):s.put X d v=(E8 X d v).ap s:=by
 cases d with
 |none=>rfl
 |some d=>
  simp only[AS.put,Up.ap,E8,Up.sl,Option.getD_none]
  congr 1;funext t;simp only[Up.A,Ic]
theorem kR (d:Option Nat) (v:AV) (σ:Heap) (s:AS):(s.heap σ).put X d v=(KA X d σ v).ap s:=by
 cases d with
 |none=>rfl
 |some d=>
  simp only[AS.put,AS.heap,Up.ap,KA,Up.sl,Option.getD_some]
  congr 1;funext t;simp only[Up.A,Ic]
theorem Xq (d:Option Nat) (b:Nat) (cs:List AV) (s:AS):(⟨s.sl.set b (.lbx cs),s.A,s.σ⟩:AS).put X d (.aF [])=(Ot X d b cs).ap s:=by
 cases d with
 |none=>rfl
 |some d=>
  simp only[AS.put,Up.ap,Ot,Up.sl,Option.getD_none]
  congr 1;funext t;simp only[Up.A,Ic]
theorem L7 (d:Nat) (cs:List AV) (s:AS):s.oQ d cs=(Oq d cs).ap s:=by
 simp only[AS.oQ,Up.ap,Oq,Up.sl,Option.getD_none]
 congr 1
theorem M5 (d:Option Nat) (b off:Nat) (tag:Option (Nat×Bool)) (s:AS):s.mS X d b off tag=(Hr X d b off tag).ap s:=by
 cases d with
 |none=>rfl
 |some d=>
  simp only[AS.mS,Up.ap,Hr,Up.sl,Option.getD_none]
  congr 1;funext t;simp only[Up.A,Ic];rfl
structure uw (X : Fx) (Rt : List (Nat × Nat)) (Bt : List Nat) (o : Oper) (ls : List Nat) (τ : Heap) (u : Up) : Prop where
 d:u.d=o.dst
 bx:∀b v,u.bx=some (b,v)→X.L.contains b=true∧wb X Rt o=some b
 new:∀p,u.new=some p→rL o=true∧(∀g w,p.tag=some (g,w)→g∈ls)∧rt X Rt o=some p.slot∧∀d,u.d=some d→Rt.lookup d=some p.slot
 box:u.wY=true→∃d,o.dst=some d∧X.L.contains d=true
 σ:u.σ≠none→qx X Rt o=true
 v:∀d b,u.d=some d→Rt.lookup d=some b→X.L.contains d=false→mB u.v=true
 vb:∀d,u.d=some d→Bt.contains d=true→oT u.v=true
 bxv:∀b v,u.bx=some (b,v)→oT v=true
 fr:CY o=true→∀σ,u.σ=some σ→qQ τ σ
def uN (X:Fx) (Rt:List (Nat×Nat)) (Bt:List Nat) (o:Oper):Prop:=(∀d,o.dst=some d→X.L.contains d=false→Rt.lookup d=(bif wX o then rt X Rt o else none))∧∀d,o.dst=some d→Bt.contains d=true→Cc Bt o=true
theorem uN.of {o:Oper} (h:SF X Rt o=true) (hb:SD Bt o=true):uN X Rt Bt o:=by
 refine⟨fun d hd hL=>?_,fun d hd hc=>?_⟩
 ·unfold SF at h
  rw[hd]at h
  simp only[hL,Bool.false_or,beq_iff_eq]at h
  exact h
 ·unfold SD at hb
  rw[hd]at hb
  simp only[hc,Bool.not_true,Bool.false_or]at hb
  exact hb
theorem aaM {o:Oper} {ls:List Nat} (v:AV) (hR:uN X Rt Bt o) (hv:wX o=true→∀b,rt X Rt o=some b→mB v=true) (J8:Cc Bt o=true→oT v=true) {τ:Heap}:uw X Rt Bt o ls τ (E8 X o.dst v):=by
 refine⟨rfl,(fun b v h=>by cases h),(fun p h=>by cases h),(fun h=>by cases h),(fun h=>absurd rfl h),fun d b hd hl hL=>?_,fun d hd hc=>?_,(fun b v h=>by cases h),(fun _ σ h=>by cases h)⟩
 ·simp only[E8]at hd ⊢
  rw[hd]
  simp only[hL,cond_false]
  rw[hR.1 d hd hL]at hl
  cases ha:wX o
  ·rw[ha]at hl;cases hl
  ·rw[ha]at hl;exact hv ha b hl
 ·have:=J8 (hR.2 d hd hc)
  simp only[E8]at hd ⊢
  rw[hd]
  simp only
  cases X.L.contains d
  ·exact this
  ·rfl
theorem ug {o:Oper} {ls:List Nat} (σ:Heap) (v:AV) (hR:uN X Rt Bt o) (h:qx X Rt o=true) (hn:wX o=false) (hcb:Cc Bt o=false) {τ:Heap} (hf:CY o=true→qQ τ σ):uw X Rt Bt o ls τ (KA X o.dst σ v):=by
 refine⟨rfl,(fun b v h=>by cases h),(fun p h=>by cases h),(fun h=>by cases h),(fun _=>h),fun d b hd hl hL=>?_,fun d hd hc=>?_,(fun b v h=>by cases h),(fun hw σ' h=>?_)⟩
 ·simp only[KA]at hd
  rw[hR.1 d hd hL,hn]at hl
  cases hl
 ·have:=hR.2 d hd hc
  rw[hcb]at this;cases this
 ·simp only[KA,Option.some.injEq]at h
  subst h;exact hf hw
theorem aaL {τ:Heap} {o:Oper} {ls:List Nat} {b off:Nat} {tag:Option (Nat×Bool)} (hR:uN X Rt Bt o) (ha:wX o=true) (hr:rt X Rt o=some b) (h:rL o=true) (ht:∀g w,tag=some (g,w)→g∈ls):uw X Rt Bt o ls τ (Hr X o.dst b off tag):=by
 refine⟨rfl,(fun b v h=>by cases h),(fun p hp=>?_),(fun h=>by cases h),(fun h=>absurd rfl h),(fun d b hd hl hL=>rfl),(fun _ _ _=>rfl),(fun b v h=>by cases h),(fun _ σ h=>by cases h)⟩
 have key:p.slot=b∧(∀g w,p.tag=some (g,w)→g∈ls)∧∀d,o.dst=some d→X.L.contains d=false:=by
  unfold Hr at hp
  simp only at hp
  cases hd:o.dst with
  |none=>rw[hd]at hp;cases hp
  |some d=>
   rw[hd]at hp
   simp only at hp
   cases hc:(X.L.contains d||!Nat.blt d X.n)
   ·rw[hc]at hp
    simp only[cond_false]at hp
    have hL:X.L.contains d=false:=by simp only[Bool.or_eq_false_iff]at hc;exact hc.1
    cases tag with
    |none=>simp only[Option.some.injEq]at hp;subst hp;exact⟨rfl,(fun g w e=>by cases e),fun d' e=>by injection e with e;rw[←e];exact hL⟩
    |some gw=>
     obtain⟨g',w'⟩:=gw
     simp only at hp
     cases hg:(g'==d)
     ·rw[hg]at hp;simp only[cond_false,Option.some.injEq]at hp;subst hp
      refine⟨rfl,fun g w e=>?_,fun d' e=>by injection e with e;rw[←e];exact hL⟩
      simp only[Option.some.injEq,Prod.mk.injEq]at e
      rw[←e.1];exact ht g' w' rfl
     ·rw[hg]at hp;cases hp
   ·rw[hc]at hp;cases hp
 refine⟨h,key.2.1,by rw[hr,key.1],fun d hd=>?_⟩
 have hd':o.dst=some d:=hd
 rw[hR.1 d hd' (key.2.2 d hd'),ha,cond_true,hr,key.1]
theorem L6 (l:List AV) (d t:Nat) (v:AV) (h:t≠d):(l.set d v).getD t .undef=l.getD t .undef:=by
 have h':¬d=t:=fun e=>h (Eq.symm e)
 simp only[List.getD,List.getElem?_set,if_neg h']
theorem Sy {u:Up} {l:List AV} {t:Nat} (h1:u.d≠some t) (h2:∀b v,u.bx=some (b,v)→t≠b):(u.sl l).getD t .undef=l.getD t .undef:=by
 unfold Up.sl
 cases hd:u.d with
 |none=>
  cases hb:u.bx with
  |none=>rfl
  |some bv=>obtain⟨b,v⟩:=bv;exact L6 _ _ _ _ (h2 b v hb)
 |some d=>
  have hne:t≠d:=fun e=>h1 (by rw[hd,e])
  cases hb:u.bx with
  |none=>exact L6 _ _ _ _ hne
  |some bv=>obtain⟨b,v⟩:=bv;simp only;rw[L6 _ _ _ _ hne,L6 _ _ _ _ (h2 b v hb)]
theorem uw.ri {τ:Heap} {o:Oper} {ls:List Nat} {u:Up} (h:uw X Rt Bt o ls τ u) (hs:RI X Rt Bt s):RI X Rt Bt (u.ap s):=by
 refine⟨hs.l,fun t p hp=>?_,fun t b ht hL=>?_,fun t ht=>?_⟩
 ·have hp':u.A s.A t=some p:=hp
  unfold Up.A at hp'
  cases hd:u.d with
  |none=>rw[hd]at hp';exact hs.a t p hp'
  |some d=>
   rw[hd]at hp'
   simp only at hp'
   cases hc:(t==d)
   ·rw[hc]at hp'
    simp only[cond_false]at hp'
    rcases Qk u.wY d (s.A t)with e|e
    ·rw[e]at hp';exact hs.a t p hp'
    ·rw[e]at hp';cases hp'
   ·rw[hc]at hp'
    simp only[cond_true]at hp'
    have:t=d:=by simpa using hc
    subst this
    exact(h.new p hp').2.2.2 t hd
 ·show mB ((u.sl s.sl).getD t .undef)=true
  by_cases hd:u.d=some t
  ·have hv:=h.v t b hd ht hL
   have:(u.sl s.sl).getD t .undef=u.v∨(u.sl s.sl).getD t .undef=.undef:=by
    unfold Up.sl
    rw[hd]
    simp only[List.getD]
    rw[List.getElem?_set]
    simp only[if_true]
    generalize (match u.bx with|some (b,x)=>s.sl.set b x|none=>s.sl)=q
    by_cases hq:t<q.length
    ·left;simp [hq]
    ·right;simp [hq]
   rcases this with e|e
   ·rw[e];exact hv
   ·rw[e];rfl
  ·rw[Sy hd (fun b' v hb e=>by have:=(h.bx b' v hb).1;rw[←e,hL]at this;cases this)]
   exact hs.v t b ht hL
 ·show oT ((u.sl s.sl).getD t .undef)=true
  have uC:∀(l:List AV) (d:Nat) (v:AV),(l.set d v).getD t .undef=v∧t=d∨(l.set d v).getD t .undef=l.getD t .undef∨(l.set d v).getD t .undef=.undef:=by
   intro l d v
   simp only[List.getD,List.getElem?_set]
   by_cases e:d=t
   ·subst e
    by_cases hq:d<l.length
    ·left;simp [hq]
    ·right;right;simp [hq]
   ·right;left;simp [e]
  have ou:oT ((match u.bx with|some (b,x)=>s.sl.set b x|none=>s.sl).getD t .undef)=true:=by
   cases hb:u.bx with
   |none=>exact hs.b t ht
   |some bv=>
    obtain⟨b,v⟩:=bv
    rcases uC s.sl b v with⟨e,_⟩|e|e
    ·simp only;rw[e];exact h.bxv b v hb
    ·simp only;rw[e];exact hs.b t ht
    ·simp only;rw[e];rfl
  unfold Up.sl
  generalize (match u.bx with|some (b,x)=>s.sl.set b x|none=>s.sl)=q at ou
  cases hd:u.d with
  |none=>exact ou
  |some d=>
   simp only
   rcases uC q d u.v with⟨e,e2⟩|e|e
   ·rw[e];exact h.vb d hd (e2▸ht)
   ·rw[e];exact ou
   ·rw[e];rfl
theorem aaC {o:Oper} {tag:Option (Nat×Bool)} {p:Nat×Option Nat} (h:kM X o s tag=some p):rL o=true:=by
 obtain⟨dst,op,ty,pos,af,g⟩:=o
 cases op<;>simp only[kM]at h<;>first|(cases h;done)|rfl
theorem ZJ {o:Oper} {tag:Option (Nat×Bool)} {p:Nat×Option Nat} (h:kM X o s tag=some p):wX o=true:=by
 obtain⟨dst,op,ty,pos,af,g⟩:=o
 cases op<;>simp only[kM]at h<;>first|(cases h;done)|rfl
theorem aaD (hI:RI X Rt Bt s) {o:Oper} {tag:Option (Nat×Bool)} {b:Nat} {rr:Option Nat} (h:kM X o s tag=some (b,rr)):rt X Rt o=some b:=by
 obtain⟨dst,op,ty,pos,af,g⟩:=o
 cases op<;>simp only[kM]at h<;>first|(cases h;done)|skip
 all_goals
  split at h
  ·rename_i b' off hp
   simp only[Option.some.injEq,Prod.mk.injEq]at h
   simp only[rt,n9]
   rw[←h.1]
   exact Mv hI hp
  ·cases h
theorem ZK (hI:RI X Rt Bt s) {o:Oper} {tag:Option (Nat×Bool)} {v:AV} (ha:wX o=true) {b:Nat} (hr:rt X Rt o=some b) (hp:kM X o s tag=none) (h:fZ X o s tag=some v):False:=by
 obtain⟨dst,op,ty,pos,af,g⟩:=o
 have nf:∀(x:AV) (n:Nat),mB x=true→A.aA n x=none:=fun x n h=>by unfold mB at h;split at h<;>first|rfl|cases h
 have nn:∀(x:AV),mB x=true→A.aN x=none:=fun x h=>by unfold mB at h;split at h<;>first|rfl|cases h
 have ni:∀(x i:AV) (n:Nat),mB x=true→A.aW n x i=none:=fun x i n h=>by unfold mB at h;split at h<;>first|rfl|cases h
 have na:∀(x i:AV) (m n:Nat),mB x=true→A.zh m n x i=none:=fun x i m n h=>by
  unfold mB at h
  unfold A.zh
  split at h<;>first|(cases h;done)|skip
  all_goals cases A.idx m i<;>rfl
 cases op<;>simp only[wX]at ha<;>first|(cases ha;done)|skip
 case nilCheck x=>
  simp only[kM]at hp
  simp only[rt,n9]at hr
  split at hp
  ·cases hp
  ·rename_i hpl
   simp only[fZ,nn _ (F8 hI hr hpl)]at h
   cases h
 case fieldAddr t x f=>
  simp only[kM]at hp
  simp only[rt,n9]at hr
  split at hp
  ·cases hp
  ·rename_i hpl
   simp only[fZ]at h
   split at h
   ·split at h
    ·rename_i i _
     cases hz:(i.size==0)
     ·rw[hz]at h;simp only[cond_false,nf _ _ (F8 hI hr hpl)]at h;cases h
     ·rw[hz]at h;cases h
    ·cases h
   ·cases h
 case indexAddr t x i=>
  simp only[kM]at hp
  simp only[rt,n9]at hr
  split at hp
  ·cases hp
  ·rename_i hpl
   simp only[fZ]at h
   split at h
   ·split at h
    ·simp only[ni _ _ _ (F8 hI hr hpl)]at h;cases h
    ·cases h
   ·split at h
    ·simp only[na _ _ _ _ (F8 hI hr hpl)]at h;cases h
    ·cases h
   ·cases h
theorem nq {α β:Type} {x:Option α} {f:α→Option β} {b:β} (h:x.bind f=some b):∃a,x=some a∧f a=some b:=Option.bind_eq_some_iff.1 h
theorem XQ (hB:∀t,Bt.contains t=true→oT (ev X s (.tmp t))=true) {o:Oper} {tag:Option (Nat×Bool)} {v:AV} (hc:Cc Bt o=true) (h:fZ X o s tag=some v):oT v=true:=by
 obtain⟨dst,op,ty,pos,af,g⟩:=o
 have nk:∀x,oT x=true→∀y,A.aN x=some y→oT y=true:=fun x hx y e=>by
  cases x<;>simp only[A.aN]at e<;>first|(cases e;done)|(injection e with e;subst e;exact hx)
 have nf:∀x,oT x=true→∀n y,A.aA n x=some y→oT y=true:=fun x hx n y e=>by
  cases x<;>simp only[A.aA]at e<;>first|(cases e;done)|(cases hx;done)|(injection e with e;subst e;rfl)
 cases op<;>simp only[Cc]at hc<;>first|(cases hc;done)|skip
 case move x=>
  cases x<;>first|(cases hc;done)|skip
  simp only[fZ,Option.some.injEq]at h
  subst h;exact hB _ hc
 case assign x=>
  cases x<;>first|(cases hc;done)|skip
  simp only[fZ,Option.some.injEq]at h
  subst h;exact hB _ hc
 case nilCheck x=>
  cases x<;>first|(cases hc;done)|skip
  simp only[fZ]at h
  exact nk _ (hB _ hc) _ h
 case fieldAddr t x f=>
  cases x<;>first|(cases hc;done)|skip
  simp only[fZ]at h
  split at h
  ·split at h
   ·rename_i i _
    cases hz:(i.size==0)
    ·rw[hz]at h;simp only[cond_false]at h;exact nf _ (hB _ hc) _ _ h
    ·rw[hz]at h;cases h
   ·cases h
  ·cases h
theorem al2 {o:Oper} {ls:List Nat} (hR:uN X Rt Bt o) (hI:RI X Rt Bt s) (hls:∀t,Operand.tmp t∈o.op.operands.toList→t∈ls) {k:AS→Option R} {r:R} (h:iB X true o s k=some r):
  ∃u,uw X Rt Bt o ls s.σ u∧k (u.ap s)=some r∧∀(R':Type) (k':AS→Option R') (s':AS),Ag X Rt Bt o ls none s s'→iB X true o s' k'=k' (u.ap s'):=by
 have CP:∀(s':AS),RI X Rt Bt s'→∀x b off,n9 o=some x→place X s' none x=some (b,off)→rt X Rt o=some b:=fun s' hi x b off hx hp=>by simp only[rt,hx];exact Mv hi hp
 have GJ:∀(s':AS),RI X Rt Bt s'→∀x b,n9 o=some x→rt X Rt o=some b→place X s' none x=none→mB (ev X s' x)=true:=fun s' hi x b hx hr hp=>by simp only[rt,hx]at hr;exact F8 hi hr hp
 unfold iB at h
 cases hp:kM X o s none with
 |some p=>
  obtain⟨b,rr⟩:=p
  rw[hp]at h
  simp only at h
  obtain⟨off,e1,e2⟩:=nq h
  subst e1
  refine⟨Hr X o.dst b off none,aaL hR (ZJ hp) (aaD hI hp) (aaC hp) (fun g w e=>by cases e),by rw[←M5];exact e2,fun R' k' s' ha=>?_⟩
  have:kM X o s' none=some (b,some off):=by rw[←hp];exact(QW (ha.CW hls) ha.BD ha.bx (CP s' ha.r2)).symm
  unfold iB
  rw[this]
  simp only[Option.bind_some]
  rw[M5]
 |none=>
  rw[hp]at h
  simp only at h
  have hP:∀s',Ag X Rt Bt o ls none s s'→kM X o s' none=none:=fun s' ha=>by rw[←hp];exact(QW (ha.CW hls) ha.BD ha.bx (CP s' ha.r2)).symm
  have dflt:((fZ X o s none).bind fun v=>k (s.put X o.dst v))=some r→(∀(R':Type) (k':AS→Option R') (s':AS),Ag X Rt Bt o ls none s s'→iB X true o s' k'=(fZ X o s' none).bind fun v=>k' (s'.put X o.dst v))→
    ∃u,uw X Rt Bt o ls s.σ u∧k (u.ap s)=some r∧∀(R':Type) (k':AS→Option R') (s':AS),Ag X Rt Bt o ls none s s'→iB X true o s' k'=k' (u.ap s'):=by
   intro hd hsame
   obtain⟨v,e1,e2⟩:=nq hd
   refine⟨E8 X o.dst v,aaM v hR (fun ha b hr=>(ZK hI ha hr hp e1).elim) (fun hc=>XQ hI.G6 hc e1),by rw[←Nf];exact e2,fun R' k' s' ha=>?_⟩
   have:fZ X o s' none=some v:=by rw[←e1];exact(L9 (ha.CW hls) ha.BD ha.bx (CP s' ha.r2) (GJ s' ha.r2) ha.σ ha.KC ha.r2.G6).symm
   rw[hsame R' k' s' ha,this,Option.bind_some,Nf]
  obtain⟨dst,op,ty,pos,af,g⟩:=o
  have zy:∀s',Ag X Rt Bt ⟨dst,op,ty,pos,af,g⟩ ls none s s'→∀x∈op.operands.toList,ev X s x=ev X s' x:=fun s' ha=>ha.CW hls
  have unf:∀{R':Type} (k':AS→Option R') (s':AS),Ag X Rt Bt ⟨dst,op,ty,pos,af,g⟩ ls none s s'→kM X ⟨dst,op,ty,pos,af,g⟩ s' none=none:=fun k' s' ha=>hP s' ha
  cases op<;>simp only at h<;>first
   |(exact absurd (show(none:Option R)=some r from h) (by simp))
   |exact dflt h (fun R' k' s' ha=>by unfold iB;rw[hP s' ha])
   |skip
  case alloc t=>
   cases dst with
   |none=>cases h
   |some d=>
    simp only at h
    cases hL:X.L.contains d
    ·rw[hL]at h
     simp only[cond_false]at h
     cases hO:X.O.contains d
     ·rw[hO]at h
      exact dflt h (fun R' k' s' ha=>by unfold iB;rw[hP s' ha];simp only[hL,hO,cond_false])
     ·rw[hO]at h
      simp only[cond_true]at h
      split at h
      ·rename_i cs hz
       rw[kR]at h
       refine⟨_,ug _ _ hR (by simp [qx,wH];simpa using hO) rfl rfl (fun h=>by cases h),h,fun R' k' s' ha=>?_⟩
       have fU:=ha.σ (by simpa [vg]using hO) rfl
       unfold iB
       rw[hP s' ha]
       simp only[hL,hO,cond_false,cond_true,hz,fU]
       rw[kR]
      ·cases h
    ·rw[hL]at h
     simp only[cond_true]at h
     split at h
     ·rename_i cs hz
      rw[L7]at h
      refine⟨_,⟨rfl,(fun b v h=>by cases h),(fun p h=>by cases h),(fun _=>⟨d,rfl,hL⟩),(fun h=>absurd rfl h),(fun d' b e _ hL'=>by simp only[Oq,Option.some.injEq]at e;rw[←e,hL]at hL';cases hL'),(fun _ _ _=>rfl),(fun b v h=>by cases h),(fun _ σ h=>by cases h)⟩,h,fun R' k' s' ha=>?_⟩
      unfold iB
      rw[hP s' ha]
      simp only[hL,cond_true,hz]
      rw[L7]
     ·cases h
  case box t x=>
   cases dst with
   |none=>cases h
   |some d=>
    simp only at h
    cases hL:X.L.contains d
    ·rw[hL]at h
     simp only[cond_false]at h
     cases hO:X.O.contains d
     ·rw[hO]at h
      exact dflt h (fun R' k' s' ha=>by unfold iB;rw[hP s' ha];simp only[hL,hO,cond_false])
     ·rw[hO]at h
      simp only[cond_true]at h
      obtain⟨cs,e1,e2⟩:=nq h
      rw[kR]at e2
      refine⟨_,ug _ _ hR (by simp [qx,wH];simpa using hO) rfl rfl (fun h=>by cases h),e2,fun R' k' s' ha=>?_⟩
      have fU:=ha.σ (by simpa [vg]using hO) rfl
      have hx:=zy s' ha x (by simp [Op.operands])
      unfold iB
      rw[hP s' ha]
      simp only[hL,hO,cond_false,cond_true,←hx,e1,Option.bind_some,fU]
      rw[kR]
    ·rw[hL]at h
     simp only[cond_true]at h
     obtain⟨cs,e1,e2⟩:=nq h
     rw[L7]at e2
     refine⟨_,⟨rfl,(fun b v h=>by cases h),(fun p h=>by cases h),(fun _=>⟨d,rfl,hL⟩),(fun h=>absurd rfl h),(fun d' b e _ hL'=>by simp only[Oq,Option.some.injEq]at e;rw[←e,hL]at hL';cases hL'),(fun _ _ _=>rfl),(fun b v h=>by cases h),(fun _ σ h=>by cases h)⟩,e2,fun R' k' s' ha=>?_⟩
     have hx:=zy s' ha x (by simp [Op.operands])
     unfold iB
     rw[hP s' ha]
     simp only[hL,cond_true,←hx,e1,Option.bind_some]
     rw[L7]
  case store t x v=>
   split at h
   ·rename_i b off hpl
    obtain⟨cs,e1,e2⟩:=nq h
    obtain⟨new,e3,e4⟩:=nq e2
    obtain⟨cs',e5,e6⟩:=nq e4
    rw[Xq]at e6
    have Bz:rt X Rt ⟨dst,.store t x v,ty,pos,af,g⟩=some b:=by simp only[rt,n9];exact Mv hI hpl
    refine⟨_,⟨rfl,(fun b' v' hb=>by simp only[Ot,Option.some.injEq,Prod.mk.injEq]at hb;rw[←hb.1];exact⟨ajw hpl,Bz⟩),(fun p h=>by cases h),(fun h=>by cases h),(fun h=>absurd rfl h),(fun d1 b1 e hl hL=>by rw[hR.1 d1 e hL]at hl;cases hl),(fun d1 e hc=>by have:=hR.2 d1 e hc;cases this),(fun b1 v1 hb=>by simp only[Ot,Option.some.injEq,Prod.mk.injEq]at hb;rw[←hb.2];rfl),(fun _ σ h=>by cases h)⟩,e6,fun R' k' s' ha=>?_⟩
    have hv:=zy s' ha v (by simp [Op.operands])
    have hpx:place X s' none x=some (b,off):=by rw[←hpl];exact(ha.BD x rfl).symm
    have ou:=ha.bx b Bz
    unfold iB
    rw[hP s' ha]
    simp only[hpx,←ou,e1,Option.bind_some,←hv,e3,e5]
    rw[Xq]
   ·rename_i hpl
    obtain⟨new,e3,e4⟩:=nq h
    obtain⟨σ',e5,e6⟩:=nq e4
    rw[kR]at e6
    have Bz:rt X Rt ⟨dst,.store t x v,ty,pos,af,g⟩=none:=by
     cases hr:rt X Rt ⟨dst,.store t x v,ty,pos,af,g⟩with
     |none=>rfl
     |some b=>rw[ahi (GJ s hI x b rfl hr hpl)]at e5;cases e5
    have hw:qx X Rt ⟨dst,.store t x v,ty,pos,af,g⟩=true:=by simp only[qx,Bz,Option.isNone_none]
    refine⟨_,ug _ _ hR hw rfl rfl (fun h=>by cases h),e6,fun R' k' s' ha=>?_⟩
    have hv:=zy s' ha v (by simp [Op.operands])
    have hx:=zy s' ha x (by simp [Op.operands])
    have fU:=ha.σ (by simp only[vg,Bz,Option.isNone_none]) rfl
    have hpx:place X s' none x=none:=by rw[←hpl];exact(ha.BD x rfl).symm
    unfold iB
    rw[hP s' ha]
    simp only[hpx,←hv,←hx,e3,Option.bind_some,←fU,e5]
    rw[kR]
  case makeMap t rr=>
   cases rr with
   |some x=>cases h
   |none=>
    simp only at h
    rw[kR]at h
    refine⟨_,ug _ _ hR rfl rfl rfl (fun _=>Mi (fun cs e=>by cases e)),h,fun R' k' s' ha=>?_⟩
    have fU:=ha.σ rfl rfl
    unfold iB
    rw[hP s' ha]
    simp only[←fU]
    rw[kR]
  case range t x=>
   split at h
   ·rename_i kt et hd
    obtain⟨es,e1,e2⟩:=nq h
    rw[kR]at e2
    refine⟨_,ug _ _ hR rfl rfl rfl (fun h=>by cases h),e2,fun R' k' s' ha=>?_⟩
    have hx:=zy s' ha x (by simp [Op.operands])
    have fU:=ha.σ rfl rfl
    unfold iB
    rw[hP s' ha]
    simp only[hd,←hx,←fU,e1,Option.bind_some]
    rw[kR]
   ·cases h
  case buildSlice t n ps=>
   cases dst with
   |none=>exact dflt h (fun R' k' s' ha=>by unfold iB;rw[hP s' ha])
   |some d=>
    simp only at h
    cases hO:X.O.contains d
    ·rw[hO]at h
     exact dflt h (fun R' k' s' ha=>by unfold iB;rw[hP s' ha];simp only[hO,cond_false])
    ·rw[hO]at h
     simp only[cond_true]at h
     obtain⟨v,e1,e2⟩:=nq h
     have hv:∀s',Ag X Rt Bt ⟨some d,.buildSlice t n ps,ty,pos,af,g⟩ ls none s s'→fZ X ⟨some d,.buildSlice t n ps,ty,pos,af,g⟩ s' none=some v:=fun s' ha=>by
      rw[←e1];exact(L9 (ha.CW hls) ha.BD ha.bx (CP s' ha.r2) (GJ s' ha.r2) ha.σ ha.KC ha.r2.G6).symm
     unfold A.GQ at e2
     split at e2
     ·rename_i sz es
      cases hl:(es.length==0)
      ·rw[hl]at e2
       simp only[cond_false]at e2
       rw[kR]at e2
       refine⟨_,ug _ _ hR (by simp [qx,wH];simpa using hO) rfl rfl (fun h=>by cases h),e2,fun R' k' s' ha=>?_⟩
       have fU:=ha.σ (by simpa [vg]using hO) rfl
       unfold iB
       rw[hP s' ha]
       simp only[hO,cond_true,hv s' ha,Option.bind_some,A.GQ,hl,cond_false,←fU]
       rw[kR]
      ·rw[hl]at e2;cases e2
     ·cases e2
  case mapUpdate t m i v=>
   split at h
   ·rename_i kt et hd
    split at h
    ·rename_i ek he
     obtain⟨σ',e1,e2⟩:=nq h
     rw[kR]at e2
     refine⟨_,ug _ _ hR rfl rfl rfl (fun _=>aiI e1),e2,fun R' k' s' ha=>?_⟩
     have hm:=zy s' ha m (by simp [Op.operands])
     have hi:=zy s' ha i (by simp [Op.operands])
     have hv:=zy s' ha v (by simp [Op.operands])
     have fU:=ha.σ rfl rfl
     unfold iB
     rw[hP s' ha]
     simp only[hd,he,←hm,←hi,←hv,←fU,e1,Option.bind_some]
     rw[kR]
    ·cases h
   ·cases h
  case call c=>
   have hargs:∀s',Ag X Rt Bt ⟨dst,.call c,ty,pos,af,g⟩ ls none s s'→c.args.toList.map (ev X s)=c.args.toList.map (ev X s'):=fun s' ha=>
    List.map_congr_left fun x hx=>zy s' ha x (by simp [Op.operands,Call.operands];exact .inr (by simpa using hx))
   split at h
   ·rename_i hc
    split at h
    ·rename_i t u x y h1 h2
     split at h
     ·rename_i e e' hd hu
      split at h
      ·rename_i i hi
       cases eT:nw i
       ·rw[eT]at h
        simp only[cond_false]at h
        obtain⟨⟨rr,σ'⟩,e1,e2⟩:=nq h
        simp only at e2
        rw[kR]at e2
        refine⟨_,ug _ _ hR (by simp [qx,wH,hc]) rfl rfl (fun _=>agl e1),e2,fun R' k' s' ha=>?_⟩
        have fU:=ha.σ rfl rfl
        unfold iB
        rw[hP s' ha]
        simp only[hc,←hargs s' ha,h1,h2,hd,hu,hi,eT,cond_false,←fU,e1,Option.bind_some]
        rw[kR]
       ·rw[eT]at h;cases h
      ·cases h
     ·rename_i e kk hd hu
      split at h
      ·rename_i i zs hi hz
       cases eT:nw i
       ·rw[eT]at h
        simp only[cond_false]at h
        obtain⟨⟨rr,σ'⟩,e1,e2⟩:=nq h
        simp only at e2
        rw[kR]at e2
        refine⟨_,ug _ _ hR (by simp [qx,wH,hc]) rfl rfl (fun _=>afw e1),e2,fun R' k' s' ha=>?_⟩
        have fU:=ha.σ rfl rfl
        unfold iB
        rw[hP s' ha]
        simp only[hc,←hargs s' ha,h1,h2,hd,hu,hi,hz,eT,cond_false,←fU,e1,Option.bind_some]
        rw[kR]
       ·rw[eT]at h;cases h
      ·cases h
     ·cases h
    ·cases h
   ·rename_i hc
    split at h
    ·rename_i t u x y h1 h2
     split at h
     ·rename_i e e' hd hu
      split at h
      ·rename_i i hi
       cases eT:nw i
       ·rw[eT]at h
        simp only[cond_false]at h
        obtain⟨⟨rr,σ'⟩,e1,e2⟩:=nq h
        simp only at e2
        rw[kR]at e2
        refine⟨_,ug _ _ hR (by simp [qx,wH,hc]) rfl rfl (fun h=>by simp [CY,hc]at h),e2,fun R' k' s' ha=>?_⟩
        have fU:=ha.σ rfl rfl
        unfold iB
        rw[hP s' ha]
        simp only[hc,←hargs s' ha,h1,h2,hd,hu,hi,eT,cond_false,←fU,e1,Option.bind_some]
        rw[kR]
       ·rw[eT]at h;cases h
      ·cases h
     ·cases h
    ·cases h
   ·rename_i hc
    cases hv:fZ X ⟨dst,.call c,ty,pos,af,g⟩ s none with
    |none=>rw[hv]at h;simp [A.Jb]at h
    |some v=>
     rw[hv]at h
     exact dflt (by rw[hv];exact h) (fun R' k' s' ha=>by
      have hv':fZ X ⟨dst,.call c,ty,pos,af,g⟩ s' none=some v:=by rw[←hv];exact(L9 (ha.CW hls) ha.BD ha.bx (CP s' ha.r2) (GJ s' ha.r2) ha.σ ha.KC ha.r2.G6).symm
      unfold iB;rw[hP s' ha];simp only[hc,hv',Option.bind_some,A.Jb])
   ·rename_i hc
    split at h
    ·rename_i t x h1 h2
     split at h
     ·rename_i e hd
      split at h
      ·rename_i i zs hi hz
       cases eT:nw i
       ·rw[eT]at h
        simp only[cond_false]at h
        obtain⟨σ',e1,e2⟩:=nq h
        rw[kR]at e2
        refine⟨_,ug _ _ hR (by simp [qx,wH,hc]) rfl rfl (fun h=>by simp [CY,hc]at h),e2,fun R' k' s' ha=>?_⟩
        have fU:=ha.σ rfl rfl
        unfold iB
        rw[hP s' ha]
        simp only[hc,←hargs s' ha,h1,h2,hd,hi,hz,eT,cond_false,←fU,e1,Option.bind_some]
        rw[kR]
       ·rw[eT]at h;cases h
      ·cases h
     ·cases h
    ·cases h
   ·rename_i hc
    split at h
    ·rename_i t u m key h1 h2
     split at h
     ·rename_i kt et hd
      split at h
      ·rename_i ek he
       obtain⟨σ',e1,e2⟩:=nq h
       rw[kR]at e2
       refine⟨_,ug _ _ hR (by simp [qx,wH,hc]) rfl rfl (fun h=>by simp [CY,hc]at h),e2,fun R' k' s' ha=>?_⟩
       have fU:=ha.σ rfl rfl
       unfold iB
       rw[hP s' ha]
       simp only[hc,←hargs s' ha,h1,h2,hd,he,←fU,e1,Option.bind_some]
       rw[kR]
      ·cases h
     ·cases h
    ·cases h
   ·rename_i b hn1 hn2 nJ rD uY hc
    exact dflt h (fun R' k' s' ha=>by
     unfold iB;rw[hP s' ha];simp only[hc]
     all_goals (first|rfl|(cases b<;>first|rfl|exact absurd rfl hn1|exact absurd rfl hn2|exact absurd rfl nJ|exact absurd rfl rD|exact absurd rfl uY)))
   ·rename_i f hc
    cases hw:X.W.contains f
    ·simp only[hw,Bool.not_false,Bool.and_true,cond_true]at h
     exact dflt h (fun R' k' s' ha=>by unfold iB;rw[hP s' ha];simp only[hc,hw,Bool.not_false,Bool.and_true,cond_true])
    ·simp only[hw,Bool.not_true,Bool.and_false,cond_false]at h
     obtain⟨⟨rr,σ'⟩,e1,e2⟩:=nq h
     simp only at e2
     rw[kR]at e2
     refine⟨_,ug _ _ hR (by simp only[qx,wH,hc];exact hw) rfl rfl (fun h=>by simp [CY,hc]at h),e2,fun R' k' s' ha=>?_⟩
     have fU:=ha.σ rfl rfl
     unfold iB
     rw[hP s' ha]
     simp only[hc,←hargs s' ha,hw,Bool.not_true,Bool.and_false,cond_false,←fU,e1,Option.bind_some]
     rw[kR]
   ·rename_i x hnf hc
    simp only[cond_true]at h
    exact dflt h (fun R' k' s' ha=>by
     unfold iB;rw[hP s' ha];simp only[hc]
     cases x<;>first|exact absurd rfl (hnf _)|simp only[cond_true])
   ·cases h
end
end
section
section
variable {R : Type} {X : Fx} {Rt : List (Nat × Nat)} {Bt : List Nat} {s s' : AS} {ops : Array Oper}
theorem Mu {o:Oper} {t:Nat} (h:Operand.tmp t∈o.op.operands.toList):t∈o.looksAt ops:=by
 unfold Oper.looksAt
 refine List.mem_append.2 (.inl (List.mem_filterMap.2 ⟨.tmp t,h,rfl⟩))
theorem afL {o:Oper} {j d:Nat} {want:Bool} (hg:o.guard=some (j,want)) (hd:(ops[j]?).bind (·.dst)=some d):d∈o.looksAt ops:=by
 unfold Oper.looksAt
 refine List.mem_append.2 (.inr ?_)
 rw[hg]
 simp only[hd]
 simp
def GZ (X:Fx) (Rt:List (Nat×Nat)) (Bt:List Nat) (ops:Array Oper) (o:Oper) (s s':AS):Prop:=∀tag:Option (Nat×Bool),(∀g w,tag=some (g,w)→g∈o.looksAt ops)→Ag X Rt Bt o (o.looksAt ops) tag s s'
theorem Ag.symm {o:Oper} {ls:List Nat} {tag:Option (Nat×Bool)} (h:Ag X Rt Bt o ls tag s s'):Ag X Rt Bt o ls tag s' s:=
 ⟨h.r2,h.r1,fun t ht hL=>(h.gE t ht hL).symm,fun t ht=>(h.pl t ht).symm,fun b hb=>(h.bx b hb).symm,(fun hr hs=>(h.σ hr hs).symm),fun hr hs id cs=>(h.KC hr hs id cs).symm⟩
theorem GZ.symm {o:Oper} (h:GZ X Rt Bt ops o s s'):GZ X Rt Bt ops o s' s:=fun tag ht=>(h tag ht).symm
theorem R5 {o:Oper} {k:AS→Option R} {r:R} (hR:uN X Rt Bt o) (hI:RI X Rt Bt s) (h:oz X true ops o s k=some r):
  ∃u,uw X Rt Bt o (o.looksAt ops) s.σ u∧k (u.ap s)=some r∧∀(R':Type) (k':AS→Option R') (s':AS),GZ X Rt Bt ops o s s'→oz X true ops o s' k'=k' (u.ap s'):=by
 unfold oz at h
 cases hg:o.guard with
 |none=>
  rw[hg]at h
  obtain⟨u,h1,h2,h3⟩:=al2 (ls:=o.looksAt ops) hR hI (fun t ht=>Mu ht) h
  refine⟨u,h1,h2,fun R' k' s' ha=>?_⟩
  unfold oz;rw[hg]
  exact h3 R' k' s' (ha none (fun g w e=>by cases e))
 |some jw=>
  obtain⟨j,want⟩:=jw
  rw[hg]at h
  simp only at h
  cases hd:(ops[j]?).bind (·.dst)with
  |none=>rw[hd]at h;cases h
  |some d=>
   rw[hd]at h
   simp only at h
   cases hb:Ip X o d
   ·rw[hb]at h
    simp only[cond_false]at h
    have mH:=afL (ops:=ops) hg hd
    have GP:∀g w,(some (d,want):Option (Nat×Bool))=some (g,w)→g∈o.looksAt ops:=fun g w e=>by injection e with e;injection e with e _;rw[←e];exact mH
    have hdL:X.L.contains d=false:=by simp only[Ip,Bool.or_eq_false_iff]at hb;exact hb.1
    have CP:∀(s':AS),RI X Rt Bt s'→∀x b off,n9 o=some x→place X s' (some (d,want)) x=some (b,off)→rt X Rt o=some b:=fun s' hi x b off hx hp=>by simp only[rt,hx];exact Mv hi hp
    have GJ:∀(s':AS),RI X Rt Bt s'→∀x b,n9 o=some x→rt X Rt o=some b→place X s' (some (d,want)) x=none→mB (ev X s' x)=true:=fun s' hi x b hx hr hp=>by simp only[rt,hx]at hr;exact F8 hi hr hp
    have hP:∀s',GZ X Rt Bt ops o s s'→kM X o s' (some (d,want))=kM X o s (some (d,want)):=fun s' ha=>by
     have a:=ha _ GP
     exact(QW (a.CW fun t ht=>Mu ht) a.BD a.bx (CP s' a.r2)).symm
    cases hp:kM X o s (some (d,want))with
    |some p=>
     obtain⟨b,rr⟩:=p
     rw[hp]at h
     simp only at h
     obtain⟨off,e1,e2⟩:=nq h
     subst e1
     refine⟨Hr X o.dst b off (some (d,want)),aaL hR (ZJ hp) (aaD hI hp) (aaC hp) GP,by rw[←M5];exact e2,fun R' k' s' ha=>?_⟩
     unfold oz
     rw[hg]
     simp only[hd,hb,cond_false,hP s' ha,hp,Option.bind_some]
     rw[M5]
    |none=>
     rw[hp]at h
     simp only at h
     obtain⟨v,e1,e2⟩:=nq h
     have hv:wX o=true→∀b,rt X Rt o=some b→mB v=true:=by
      intro ha b hr
      unfold A.guard at e1
      split at e1
      ·rename_i c _
       cases hc:(c==want)
       ·rw[hc]at e1;simp only[cond_false,Option.some.injEq]at e1;subst e1;rfl
       ·rw[hc]at e1;exact(ZK hI ha hr hp e1).elim
      ·simp only[Option.some.injEq]at e1;subst e1;rfl
      ·cases e1
     have J8:Cc Bt o=true→oT v=true:=by
      intro hc
      unfold A.guard at e1
      split at e1
      ·rename_i c _
       cases uV:(c==want)
       ·rw[uV]at e1;simp only[cond_false,Option.some.injEq]at e1;subst e1;rfl
       ·rw[uV]at e1;exact XQ hI.G6 hc e1
      ·simp only[Option.some.injEq]at e1;subst e1;rfl
      ·cases e1
     refine⟨E8 X o.dst v,aaM v hR hv J8,by rw[←Nf];exact e2,fun R' k' s' ha=>?_⟩
     have a:=ha _ GP
     have hV:fZ X o s' (some (d,want))=fZ X o s (some (d,want)):=(L9 (a.CW fun t ht=>Mu ht) a.BD a.bx (CP s' a.r2) (GJ s' a.r2) a.σ a.KC a.r2.G6).symm
     have rE:=a.gE d mH hdL
     unfold oz
     rw[hg]
     simp only[hd,hb,cond_false,hP s' ha,hp,hV,←rE,e1,Option.bind_some]
     rw[Nf]
   ·rw[hb]at h;cases h
structure zF (X : Fx) (Rt : List (Nat × Nat)) (Bt : List Nat) (ops : Array Oper) (x y : Oper) : Prop where
 dx:∀d,x.dst=some d→d∉y.looksAt ops
 dd:∀d,x.dst=some d→y.dst≠some d
 dy:∀d,y.dst=some d→d∉x.looksAt ops
 c1:zi X Rt Bt x y=false
 c2:zi X Rt Bt y x=false
theorem zF.symm {x y:Oper} (h:zF X Rt Bt ops x y):zF X Rt Bt ops y x:=⟨h.dy,fun d hd e=>h.dd d e hd,h.dx,h.c2,h.c1⟩
theorem ahY {x y:Oper} (h:indep X Rt Bt ops x y=true):zF X Rt Bt ops x y:=by
 simp only[indep,Bool.and_eq_true,Bool.not_eq_true']at h
 obtain⟨⟨h1,h2⟩,h3⟩:=h
 obtain⟨a1,a2,a3⟩:=Oper.apart_spec h1
 exact⟨a1,a2,a3,h2,h3⟩
theorem Zn {x y:Oper} (h:zi X Rt Bt x y=false) {b:Nat} (hb:wb X Rt x=some b):rt X Rt y≠some b:=by
 unfold zi at h
 simp only[Bool.or_eq_false_iff]at h
 have:=h.1.1
 rw[hb]at this
 simpa using this
theorem MI {x y:Oper} (h:zi X Rt Bt x y=false) {d:Nat} (hd:x.dst=some d) (hL:X.L.contains d=true):rt X Rt y≠some d:=by
 unfold zi at h
 simp only[Bool.or_eq_false_iff]at h
 have:=h.1.2
 rw[hd]at this
 simp only[hL,Bool.true_and]at this
 simpa using this
theorem MJ {x y:Oper} (h:zi X Rt Bt x y=false) (hw:qx X Rt x=true):(vg X Rt y=false∨(soft Bt y=true∧CY x=true))∧qx X Rt y=false:=by
 unfold zi at h
 simp only[Bool.or_eq_false_iff]at h
 have:=h.2
 rw[hw]at this
 simp only[Bool.true_and,Bool.or_eq_false_iff]at this
 refine⟨?_,this.2⟩
 cases hr:vg X Rt y
 ·exact .inl rfl
 ·have h2:=this.1
  rw[hr,Bool.true_and,Bool.not_eq_false']at h2
  exact .inr (by simpa using h2)
theorem aly {x:Oper} {a:Operand} (h:n9 x=some a):a∈x.op.operands.toList:=by
 obtain⟨dst,op,ty,pos,af,g⟩:=x
 cases op<;>simp only[n9]at h<;>first|(cases h;done)|(injection h with h;subst h;simp [Op.operands])
theorem apd (h:RI X Rt Bt s) {x:Oper} {b:Nat} (hr:rt X Rt x=some b) (hL:X.L.contains b=false):False:=by
 unfold rt at hr
 split at hr
 ·rename_i a _
  cases a with
  |tmp t=>
   simp only[zR]at hr
   cases hc:X.L.contains t
   ·rw[hc]at hr;have:=h.l t b hr;rw[hL]at this;cases this
   ·rw[hc]at hr;simp only[cond_true,Option.some.injEq]at hr;subst hr;rw[hL]at hc;cases hc
  |_=>simp [zR]at hr
 ·cases hr
theorem abn {x:Oper} {b:Nat} (h:wb X Rt x=some b):rt X Rt x=some b:=by
 unfold wb at h;split at h
 ·exact h
 ·cases h
theorem aa4 {τ:Heap} {x y:Oper} (h:zF X Rt Bt ops x y) {u:Up} (hu:uw X Rt Bt y (y.looksAt ops) τ u) (s:AS) (hs:RI X Rt Bt s) (hτ:u.σ≠none→qQ s.σ τ):GZ X Rt Bt ops x s (u.ap s):=by
 intro tag ht
 have hnd:∀t,t∈x.looksAt ops→u.d≠some t:=fun t ht e=>by rw[hu.d]at e;exact h.dy t e ht
 refine⟨hs,hu.ri hs,fun t Uz hL=>?_,fun t hax=>?_,fun b hb=>?_,fun hr EO=>?_,fun hr EO=>?_⟩
 ·exact(Sy (hnd t Uz) (fun b v hb e=>by have:=(hu.bx b v hb).1;rw[←e,hL]at this;cases this)).symm
 ·have Uz:t∈x.looksAt ops:=Mu (aly hax)
  simp only[place]
  cases hL:X.L.contains t
  ·simp only[cond_false]
   show _=match u.A s.A t with|some p=>_|none=>none
   unfold Up.A
   cases hd:u.d with
   |none=>rfl
   |some d=>
    have htd:(t==d)=false:=by simp only[beq_eq_false_iff_ne];intro e;exact hnd t Uz (by rw[hd,e])
    simp only[htd,cond_false]
    cases hA:s.A t with
    |none=>rfl
    |some p=>
     have Bz:zR X Rt (.tmp t)=some p.slot:=by simp only[zR,hL,cond_false];exact hs.a t p hA
     have hf:p9 u.wY d (some p)=oJ d (some p):=by
      cases hi:u.wY with
      |false=>exact Ic d _
      |true=>
       obtain⟨d',hd',hL'⟩:=hu.box hi
       have qv:d'=d:=by rw[hu.d]at hd;rw[hd]at hd';injection hd' with e;exact e.symm
       subst qv
       unfold p9
       cases hk:oJ d' (some p)with
       |none=>rfl
       |some q=>
        have hqs:q=p:=by
         simp only[oJ]at hk
         cases EP:p.tag with
         |none=>rw[EP]at hk;simpa using hk.symm
         |some g=>
          obtain⟨g,w⟩:=g
          rw[EP]at hk
          simp only at hk
          cases hg:(g==d')
          ·rw[hg]at hk;simpa using hk.symm
          ·rw[hg]at hk;cases hk
        subst hqs
        have hne:(q.slot==d')=false:=by
         rw[beq_eq_false_iff_ne]
         intro e
         have:rt X Rt x=some q.slot:=by simp only[rt,hax];exact Bz
         exact MI h.c2 hd' hL' (by rw[this,e])
        simp only[hne,Bool.and_false,cond_false]
     rw[hf]
     simp only[oJ]
     cases EP:p.tag with
     |none=>simp only[EP]
     |some gw=>
      obtain⟨g,w⟩:=gw
      simp only
      cases hgd:(g==d)
      ·simp only[cond_false,EP]
      ·simp only[cond_true]
       have aow:g=d:=by simpa using hgd
       have:(tag==some (g,w))=false:=by
        rw[beq_eq_false_iff_ne]
        intro e
        exact hnd g (ht g w e) (by rw[hd,aow])
       rw[this]
       cases X.L.contains p.slot<;>rfl
  ·rfl
 ·refine(Sy (fun e=>?_) (fun b' v hb' e=>?_)).symm
  ·rw[hu.d]at e
   have hLb:X.L.contains b=true:=by
    cases hc:X.L.contains b with
    |true=>rfl
    |false=>
     exfalso
     exact apd hs hb hc
   exact MI h.c2 e hLb hb
  ·exact Zn h.c2 (hu.bx b' v hb').2 (by rw[←e];exact hb)
 ·show s.σ=u.σ.getD s.σ
  cases hs':u.σ with
  |none=>rfl
  |some σ=>
   rcases(MJ h.c2 (hu.σ (by rw[hs'];intro e;cases e))).1 with this|⟨this,_⟩
   ·rw[hr]at this;cases this
   ·rw[EO]at this;cases this
 ·show qQ s.σ (u.σ.getD s.σ)
  cases hs':u.σ with
  |none=>exact Dz _
  |some σ=>
   rcases(MJ h.c2 (hu.σ (by rw[hs'];intro e;cases e))).1 with this|⟨_,hf⟩
   ·rw[hr]at this;cases this
   ·exact fun id cs=>(hτ (by rw[hs'];intro e;cases e) id cs).trans (hu.fr hf σ hs' id cs)
theorem ajO {τ KD:Heap} {x y:Oper} (h:zF X Rt Bt ops x y) {u v:Up} (hu:uw X Rt Bt x (x.looksAt ops) τ u) (hv:uw X Rt Bt y (y.looksAt ops) KD v):u.aaO v:=by
 have half:∀{τ KD:Heap} {x y:Oper} {u v:Up},zF X Rt Bt ops x y→uw X Rt Bt x (x.looksAt ops) τ u→uw X Rt Bt y (y.looksAt ops) KD v→(∀b a,u.bx=some (b,a)→(∀c a',v.bx=some (c,a')→c≠b)∧v.d≠some b)∧(∀d,v.d=some d→p9 v.wY d u.new=u.new):=by
  intro τ KD x y u v h hu hv
  refine⟨fun b a hb=>?_,fun d hd=>?_⟩
  ·obtain⟨k1,k2⟩:=hu.bx b a hb
   refine⟨fun c a' hc e=>?_,fun e=>?_⟩
   ·have:=(hv.bx c a' hc).2
    subst e
    exact Zn h.c1 k2 (abn this)
   ·rw[hv.d]at e
    exact MI h.c2 e k1 (abn k2)
  ·cases hn:u.new with
   |none=>rfl
   |some p=>
    obtain⟨k1,k2,k3,k4⟩:=hu.new p hn
    have hkt:oJ d (some p)=some p:=by
     simp only[oJ]
     cases EP:p.tag with
     |none=>rfl
     |some gw=>
      obtain⟨g,w⟩:=gw
      simp only
      have:(g==d)=false:=by
       rw[beq_eq_false_iff_ne];intro e
       rw[hv.d]at hd
       exact h.dy d hd (e▸k2 g w EP)
      rw[this];rfl
    unfold p9
    rw[hkt]
    simp only
    cases hi:v.wY with
    |false=>rfl
    |true=>
     obtain⟨d',hd',hL'⟩:=hv.box hi
     have qv:d'=d:=by rw[hv.d]at hd;rw[hd]at hd';injection hd' with e;exact e.symm
     subst qv
     have:(p.slot==d')=false:=by
      rw[beq_eq_false_iff_ne];intro e
      exact MI h.c2 hd' hL' (by rw[k3,e])
     simp only[this,Bool.and_false,cond_false]
 obtain⟨a1,a2⟩:=half h hu hv
 obtain⟨b1,b2⟩:=half h.symm hv hu
 refine⟨fun d hd e=>?_,a1,b1,a2,b2,?_⟩
 ·rw[hu.d]at hd;rw[hv.d]at e;exact h.dd d hd e
 ·cases hs:u.σ with
  |none=>exact .inl rfl
  |some σ=>
   right
   have hw:=hu.σ (by rw[hs];intro e;cases e)
   have hnw:=(MJ h.c1 hw).2
   cases hs2:v.σ with
   |none=>rfl
   |some σ2=>rw[hv.σ (by rw[hs2];intro e;cases e)]at hnw;cases hnw
theorem XR {o:Oper} {k:AS→Option R} {r:R} (ho:uN X Rt Bt o):∀(l1 l2:List Oper) (s:AS),RI X Rt Bt s→(∀y∈l1,uN X Rt Bt y)→(∀y∈l1,zF X Rt Bt ops y o)→tF X true ops (l1++o::l2) s k=some r→oz X true ops o s (fun s1=>tF X true ops (l1++l2) s1 k)=some r
 |[],l2,s,_,_,_,h=>h
 |y::l1,l2,s,hs,hr,hi,h=>by
  simp only[List.cons_append,tF]at h
  obtain⟨u,u1,u2,u3⟩:=R5 (hr y (by simp)) hs h
  have ih:=XR ho l1 l2 (u.ap s) (u1.ri hs) (fun z hz=>hr z (by simp [hz])) (fun z hz=>hi z (by simp [hz])) u2
  obtain⟨v,v1,v2,v3⟩:=R5 ho (u1.ri hs) ih
  have hy:=hi y (by simp)
  have hbe:v.σ≠none→qQ s.σ (u.ap s).σ:=fun hv=>by
   have hnu:u.σ=none:=by
    cases hu:u.σ with
    |none=>rfl
    |some σ=>
     have hw:=(MJ hy.c1 (u1.σ (by rw[hu];intro e;cases e))).2
     rw[v1.σ hv]at hw;cases hw
   show qQ s.σ (u.σ.getD s.σ)
   rw[hnu];exact Dz _
  rw[v3 R _ s (aa4 hy.symm u1 s hs (fun _=>Dz _)).symm]
  simp only[List.cons_append,tF]
  rw[u3 R _ (v.ap s) (aa4 hy v1 s hs hbe),Up.comm (ajO hy u1 v1)]
  exact v2
def Down (ops:Array Oper) (S:Nat→Prop):Prop:=∀i o e,S i→ops[i]? =some o→e∈o.after→Region.binds .any e=true→S e.on
def NB (ops:Array Oper) (i:Nat) (S:Nat→Prop):Prop:=∀o e,ops[i]? =some o→e∈o.after→Region.binds .any e=true→S e.on
theorem YA (acc:List Nat):∀(es:List Edge) (m j:Nat),(es.foldl (fun s e=>bif Region.binds .any e then s ||| 2 ^ e.on ||| acc.getD e.on 0 else s) m).testBit j=true→
  m.testBit j=true∨∃e∈es,Region.binds .any e=true∧(e.on=j∨(acc.getD e.on 0).testBit j=true)
 |[],m,j,h=>.inl h
 |e::es,m,j,h=>by
  simp only[List.foldl_cons]at h
  rcases YA acc es _ j h with h|⟨e',he',hb,hx⟩
  ·cases hb:Region.binds .any e
   ·rw[hb]at h;exact .inl h
   ·rw[hb]at h
    simp only[cond_true,Nat.testBit_or,Bool.or_eq_true]at h
    rcases h with(h|h)|h
    ·exact .inl h
    ·refine .inr ⟨e,by simp,hb,.inl ?_⟩
     rw[Nat.testBit_two_pow]at h
     simpa using h
    ·exact .inr ⟨e,by simp,hb,.inr h⟩
  ·exact .inr ⟨e',by simp [he'],hb,hx⟩
theorem Yf:∀(l:List Oper) (acc:List Nat),(∀i,l[i]? =ops[acc.length+i]?)→
  (∀(m j:Nat),(acc.getD m 0).testBit j=true→∀S,Down ops S→NB ops m S→S j)→
  ∀(m j:Nat),((Nk l acc).getD m 0).testBit j=true→∀S,Down ops S→NB ops m S→S j
 |[],acc,hl,hacc=>hacc
 |o::l,acc,hl,hacc=>by
  simp only[Nk]
  refine Yf l _ (fun i=>by have:=hl (i+1);simp at this;rw[this];simp;congr 1;omega) ?_
  intro m j h S hS hD
  have h0:=hl 0
  simp at h0
  by_cases hm:m<acc.length
  ·rw[List.getD,List.getElem?_append_left hm]at h
   exact hacc m j h S hS hD
  ·by_cases hm2:m=acc.length
   ·subst hm2
    rw[List.getD,List.getElem?_append_right (Nat.le_refl _)]at h
    simp only[Nat.sub_self,List.getElem?_cons_zero,Option.getD_some]at h
    rcases YA acc _ _ j h with h|⟨e,he,hb,hx⟩
    ·simp at h
    ·have Hh:S e.on:=hD o e h0.symm (by simpa using he) hb
     rcases hx with hx|hx
     ·exact hx▸Hh
     ·exact hacc e.on j hx S hS (fun o' e' ho' he' hb'=>hS e.on o' e' Hh ho' he' hb')
   ·rw[List.getD,List.getElem?_append_right (by omega),List.getElem?_eq_none (by simp;omega)]at h
    simp at h
theorem WY {Jy:List Nat}:∀(l:List Oper) (i:Nat),(∀j,l[j]? =ops[i+j]?)→MV X Rt Bt ops Jy l i=true→∀n o,i≤n→ops[n]? =some o→∀m y,m<n→ops[m]? =some y→(Jy.getD n 0).testBit m=true∨indep X Rt Bt ops y o=true
 |[],i,hl,_,n,o,hn,ho,m,y,hm,hy=>by
  have:=hl (n-i)
  rw[show i+(n-i)=n by omega,ho]at this
  simp at this
 |x::l,i,hl,h,n,o,hn,ho,m,y,hm,hy=>by
  simp only[MV,Bool.and_eq_true]at h
  by_cases hni:n=i
  ·subst hni
   have h0:=hl 0
   simp at h0
   rw[ho]at h0;injection h0 with h0;subst h0
   have:=List.all_eq_true.1 h.1 (y,m) (by
    rw[List.mem_zipIdx_iff_getElem?]
    simp only
    rw[List.getElem?_take_of_lt hm,Array.getElem?_toList]
    exact hy)
   simpa using this
  ·exact WY l (i+1) (fun j=>by have:=hl (j+1);simp at this;rw[this];congr 1;omega) h.2 n o (by omega) ho m y hm hy
theorem Xp:∀(l:List Oper) (i:Nat),(∀j,l[j]? =ops[i+j]?)→M6 l i=true→∀n o e,i≤n→ops[n]? =some o→e∈o.after→Region.binds .any e=true→e.on<n
 |[],i,hl,_,n,o,e,hn,ho,he,hb=>by
  have:=hl (n-i)
  rw[show i+(n-i)=n by omega,ho]at this
  simp at this
 |x::l,i,hl,h,n,o,e,hn,ho,he,hb=>by
  simp only[M6,Bool.and_eq_true]at h
  by_cases hni:n=i
  ·subst hni
   have h0:=hl 0
   simp at h0
   rw[ho]at h0;injection h0 with h0;subst h0
   have:=List.all_eq_true.1 h.1 e (by simpa using he)
   rw[hb]at this
   simpa [Nat.blt_eq]using this
  ·exact Xp l (i+1) (fun j=>by have:=hl (j+1);simp at this;rw[this];congr 1;omega) h.2 n o e (by omega) ho he hb
def qZ (listed:Array Bool) (n:Nat):List Nat:=(List.range n).filter fun i=>!listed.getD i true
def A9 (ops:Array Oper) (listed:Array Bool):List Oper:=(qZ listed ops.size).filterMap (ops[·]?)
theorem ag3 {listed:Array Bool} {n i:Nat} (hi:i<n) (hl:listed.getD i true=false) (hs:listed.size=n):
  ∃l1 l2,qZ listed n=l1++i::l2∧qZ (listed.setIfInBounds i true) n=l1++l2∧∀j∈l1,j<i∧listed.getD j true=false:=by
 refine⟨(List.range i).filter fun j=>!listed.getD j true,((List.range' (i+1) (n-i-1))).filter fun j=>!listed.getD j true,?_,?_,fun j hj=>?_⟩
 ·unfold qZ
  rw[show List.range n=List.range i++i::List.range' (i+1) (n-i-1) by
   rw[List.range_eq_range',List.range_eq_range',←List.range'_succ,show n-i-1+1=n-i by omega]
   have:=List.range'_append_1 (s:=0) (m:=i) (n:=n-i)
   rw[show 0+i=i by omega,show i+(n-i)=n by omega]at this
   exact this.symm]
  rw[List.filter_append,List.filter_cons,hl]
  simp
 ·unfold qZ
  rw[show List.range n=List.range i++i::List.range' (i+1) (n-i-1) by
   rw[List.range_eq_range',List.range_eq_range',←List.range'_succ,show n-i-1+1=n-i by omega]
   have:=List.range'_append_1 (s:=0) (m:=i) (n:=n-i)
   rw[show 0+i=i by omega,show i+(n-i)=n by omega]at this
   exact this.symm]
  rw[List.filter_append,List.filter_cons]
  have uC:(listed.setIfInBounds i true).getD i true=true:=by simp [Array.getD,hs,hi]
  rw[uC]
  simp only[Bool.not_true,Bool.false_eq_true,if_false]
  congr 1
  ·apply List.filter_congr
   intro j hj
   have:j<i:=by simpa using hj
   rw[Array.getD_eq_getD_getElem?,Array.getD_eq_getD_getElem?,Array.getElem?_setIfInBounds_ne (by omega)]
  ·apply List.filter_congr
   intro j hj
   have:i<j:=by simp at hj;omega
   rw[Array.getD_eq_getD_getElem?,Array.getD_eq_getD_getElem?,Array.getElem?_setIfInBounds_ne (by omega)]
 ·rw[List.mem_filter]at hj
  exact⟨by simpa using hj.1,by simpa using hj.2⟩
end
end
section
open Go.RowKit
section
variable {X : Fx} {z : Z} {s : AS} {a : Act} {w w' : World} {E : List Pl} {pb : Nat → Option Nat} {R : Type}
theorem Y7 (h:St X z s a w E pb) {d:Nat} {av:AV} (EF:s.sl.getD d .undef=av) (h1:av≠.undef) (h2:∀cs,av≠.lbx cs):∃v,a.tmps[d]? =some v∧a.tmps.getD d undef=v∧ak (ctx z w E pb) av v:=by
 by_cases hd:d<s.sl.length
 ·have e:s.sl[d]? =some av:=by rw[List.getElem?_eq_getElem hd];rw[←EF];simp [List.getD,hd]
  have r:=(h.slot d av e).rep h2
  have hd':d<a.tmps.size:=by rw[h.len];exact hd
  exact⟨a.tmps.getD d undef,by simp [Array.getD,hd'],rfl,r⟩
 ·exact absurd (by rw[←EF];simp [List.getD,Nat.le_of_not_lt hd]) h1
theorem al4 (hs:dB X) (h:St X z s a w E pb) {q:Bool} {ops:Array Oper} {i:Nat} {o:Oper} (hi:ops[i]? =some o) {k:AS→Option R} {r:R} (hk:oz X q ops o s k=some r) {K:Act→World→Prop} {Q:Exit→Act→World→Prop}
  (hK:∀s' a' w' E' bO,St X z s' a' w' E' bO→k s'=some r→K a' w'):wpOp X.P ops Q i K a w:=by
 unfold wpOp
 rw[hi]
 simp only
 unfold oz at hk
 cases hg:o.guard with
 |none=>
  rw[hg]at hk
  rw[if_pos (by simp [Region.wanted,hg])]
  exact .inl (al3 hs h hk hK)
 |some jw=>
  obtain⟨j,want⟩:=jw
  rw[hg]at hk
  simp only at hk
  cases hd:(ops[j]?).bind (·.dst)with
  |none=>rw[hd]at hk;cases hk
  |some d=>
   rw[hd]at hk
   simp only at hk
   cases hL:Ip X o d
   ·rw[hL]at hk
    simp only[cond_false]at hk
    have IW:Region.wanted o (yielded ops a.tmps)=(yielded ops a.tmps j==some want):=by simp [Region.wanted,hg]
    have hy:yielded ops a.tmps j=match a.tmps[d]? with|some (.bool b)=>some b|_=>none:=by
     simp only[yielded,hd,Option.bind_some]
     rfl
    cases hp:kM X o s (some (d,want))with
    |some p=>
     obtain⟨b,rr⟩:=p
     rw[hp]at hk
     simp only at hk
     obtain⟨off,e1,e2⟩:=Option.bind_eq_some_iff.1 hk
     subst e1
     by_cases hw:Region.wanted o (yielded ops a.tmps)=true
     ·rw[if_pos hw]
      have ht:qS a (some (d,want)):=by
       rw[IW,hy]at hw
       simp only[qS]
       split at hw
       ·rename_i b' hb'
        simp at hw;subst hw
        rw[Array.getD_eq_getD_getElem?,hb'];rfl
       ·simp at hw
      obtain⟨n,k1,k2⟩:=aaE h ht hp
      exact .inl (qL k2 (hK _ _ _ _ _ (h.SK o.dst (fun _=>⟨n,k1,rfl⟩)) e2))
     ·rw[if_neg hw]
      refine hK _ _ _ _ _ (h.SK o.dst (fun ht=>absurd ?_ hw)) e2
      rw[IW,hy]
      simp only[qS]at ht
      rw[Array.getD_eq_getD_getElem?]at ht
      cases hc:a.tmps[d]? with
      |none=>rw[hc]at ht;simp [undef]at ht
      |some v=>rw[hc]at ht;simp at ht;subst ht;simp
    |none=>
     rw[hp]at hk
     simp only at hk
     obtain⟨av,e1,e2⟩:=Option.bind_eq_some_iff.1 hk
     generalize rE:s.sl.getD d .undef=gv at e1
     cases gv<;>simp only[A.guard]at e1<;>first|(cases e1;done)|skip
     case bool b=>
      obtain⟨v,v1,v2,v3⟩:=Y7 h rE (by intro e;cases e) (by intro cs e;cases e)
      simp only[ak]at v3
      subst v3
      cases JP:(b==want)
      ·rw[JP]at e1
       simp only[cond_false]at e1
       injection e1 with e1;subst e1
       have hw:¬Region.wanted o (yielded ops a.tmps)=true:=by
        rw[IW,hy,v1]
        simp at JP ⊢
        exact JP
       rw[if_neg hw]
       exact hK _ _ _ _ _ (h.undef o.dst) e2
      ·rw[JP]at e1
       simp only[cond_true]at e1
       have abA:b=want:=by simpa using JP
       have hw:Region.wanted o (yielded ops a.tmps)=true:=by rw[IW,hy,v1];simp [abA]
       rw[if_pos hw]
       have ht:qS a (some (d,want)):=by simp only[qS];rw[v2,abA]
       exact .inl (aaF hs h ht e1 fun v w' E' h3 h4=>hK _ _ _ _ _ (h3.put o.dst h4) e2)
     case aF vs=>
      cases vs with
      |cons x xs=>cases e1
      |nil=>
       injection e1 with e1;subst e1
       obtain⟨v,v1,v2,v3⟩:=Y7 h rE (by intro e;cases e) (by intro cs e;cases e)
       simp only[ak]at v3
       obtain⟨us,rfl,_⟩:=v3
       have hw:¬Region.wanted o (yielded ops a.tmps)=true:=by rw[IW,hy,v1];simp
       rw[if_neg hw]
       exact hK _ _ _ _ _ (h.undef o.dst) e2
   ·rw[hL]at hk;cases hk
def Fr (X:Fx) (ds:List Nat) (s s':AS):Prop:=∀i,i∉ds→X.L.contains i=false→s'.sl[i]? =s.sl[i]?
theorem Fr.refl (ds:List Nat) (s:AS):Fr X ds s s:=fun _ _ _=>rfl
theorem Fr.trans {d1 d2:List Nat} {s s' s'':AS} (h:Fr X d1 s s') (k:Fr X d2 s' s''):Fr X (d1++d2) s s'':=fun i hi hL=>by
 rw[List.mem_append]at hi
 exact(k i (fun e=>hi (.inr e)) hL).trans (h i (fun e=>hi (.inl e)) hL)
theorem Fr.mono {d1 d2:List Nat} {s s':AS} (h:Fr X d1 s s') (k:∀i∈d1,i∈d2):Fr X d2 s s':=fun i hi hL=>h i (fun e=>hi (k i e)) hL
theorem Fr.put (d:Option Nat) (v:AV) (s:AS):Fr X d.toList s (s.put X d v):=fun i hi hL=>by
 cases d with
 |none=>rfl
 |some d=>simp only[AS.put];rw[List.getElem?_set,if_neg];intro e;subst e;simp at hi
theorem Fr.mS (d:Option Nat) (b off:Nat) (tag:Option (Nat×Bool)) (s:AS):Fr X d.toList s (s.mS X d b off tag):=fun i hi hL=>by
 cases d with
 |none=>rfl
 |some d=>simp only[AS.mS];rw[List.getElem?_set,if_neg];intro e;subst e;simp at hi
theorem Fr.oQ (d:Nat) (cs:List AV) (s:AS):Fr X [d] s (s.oQ d cs):=fun i hi hL=>by
 simp only[AS.oQ];rw[List.getElem?_set,if_neg];intro e;subst e;simp at hi
theorem Fr.qM (d:Option Nat) (v:AV) (σ:Heap) (s:AS):Fr X d.toList s ((s.heap σ).put X d v):=fun i hi hL=>by
 cases d with
 |none=>rfl
 |some d=>simp only[AS.put,AS.heap];rw[List.getElem?_set,if_neg];intro e;subst e;simp at hi
theorem Fr.alB (d:Option Nat) (v:AV) (b:Nat) (cs:List AV) (hb:X.L.contains b=true) (s:AS):Fr X d.toList s ((⟨s.sl.set b (.lbx cs),s.A,s.σ⟩:AS).put X d v):=fun i hi hL=>by
 have hbi:b≠i:=fun e=>by rw[e,hL]at hb;cases hb
 cases d with
 |none=>simp only[AS.put];rw[List.getElem?_set,if_neg hbi]
 |some d=>simp only[AS.put];rw[List.getElem?_set,if_neg,List.getElem?_set,if_neg hbi];intro e;subst e;simp at hi
theorem akX {tag:Option (Nat×Bool)} {x:Operand} {b off:Nat} (h:place X s tag x=some (b,off)):X.L.contains b=true:=by
 cases x with
 |tmp t=>
  simp only[place]at h
  cases hL:X.L.contains t
  ·rw[hL]at h
   simp only[cond_false]at h
   split at h
   ·rename_i p hA
    cases hp:X.L.contains p.slot
    ·rw[hp]at h;cases h
    ·rw[hp]at h
     simp only[cond_true]at h
     split at h
     ·simp only[Option.some.injEq,Prod.mk.injEq]at h;rw[←h.1];exact hp
     ·rename_i g hg
      cases ht:(tag==some g)
      ·rw[ht]at h;cases h
      ·rw[ht]at h;simp only[cond_true,Option.some.injEq,Prod.mk.injEq]at h;rw[←h.1];exact hp
   ·cases h
  ·rw[hL]at h
   simp only[cond_true,Option.some.injEq,Prod.mk.injEq]at h
   rw[←h.1];exact hL
 |_=>simp [place]at h
theorem bind_congr {α β:Type} {x:Option α} {f g:α→Option β} (h:∀a,x=some a→f a=g a):x.bind f=x.bind g:=by cases x with|none=>rfl|some a=>exact h a rfl
theorem ags {x:AV} {σ:Heap} {f g:Nat→Heap→Option R} (h:∀n σ,f n σ=g n σ):A.Jc x σ f=A.Jc x σ g:=by
 have:f=g:=funext fun n=>funext fun σ=>h n σ
 rw[this]
theorem afO {x:AV} {σ:Heap} {f g:AV→Heap→Option R} (h:∀v σ,f v σ=g v σ):A.tC x σ f=A.tC x σ g:=by
 have:f=g:=funext fun n=>funext fun σ=>h n σ
 rw[this]
theorem agG {q str:Bool} {i:Operand} {dst:Option Nat} {k k2:AS→Option R} (h:∀s',Fr X dst.toList s s'→k s'=k2 s'):
  (bif q||str then none else A.tC (ev X s i) s.σ fun v σ=>k ((s.heap σ).put X dst v))=(bif q||str then none else A.tC (ev X s i) s.σ fun v σ=>k2 ((s.heap σ).put X dst v)):=by
 cases(q||str)
 ·simp only[cond_false]
  exact afO fun _ _=>h _ (Fr.qM _ _ _ _)
 ·rfl
theorem aid {q:Bool} {o:Oper} {k k2:AS→Option R} (h:∀s',Fr X o.dst.toList s s'→k s'=k2 s'):iB X q o s k=iB X q o s k2:=by
 unfold iB
 cases hp:kM X o s none with
 |some p=>obtain⟨b,rr⟩:=p;exact bind_congr fun p _=>h _ (Fr.mS _ _ _ _ _)
 |none=>
  simp only
  have dflt:((fZ X o s none).bind fun v=>k (s.put X o.dst v))=(fZ X o s none).bind fun v=>k2 (s.put X o.dst v):=bind_congr fun v _=>h _ (Fr.put _ _ _)
  obtain⟨dst,op,ty,pos,af,g⟩:=o
  cases op<;>simp only<;>first|exact agG h|exact dflt|skip
  case alloc t=>
   cases dst with
   |none=>rfl
   |some d=>
    simp only
    cases X.L.contains d
    ·simp only[cond_false]
     cases X.O.contains d
     ·exact dflt
     ·simp only[cond_true];split
      ·exact h _ (Fr.qM _ _ _ _)
      ·rfl
    ·simp only[cond_true];split
     ·exact h _ (Fr.oQ _ _ _)
     ·rfl
  case box t x=>
   cases dst with
   |none=>rfl
   |some d=>
    simp only
    cases X.L.contains d
    ·simp only[cond_false]
     cases X.O.contains d
     ·exact dflt
     ·exact bind_congr fun cs _=>h _ (Fr.qM _ _ _ _)
    ·exact bind_congr fun cs _=>h _ (Fr.oQ _ _ _)
  case store t x v=>
   split
   ·rename_i b off hpl
    exact bind_congr fun _ _=>bind_congr fun _ _=>bind_congr fun _ _=>h _ (Fr.alB _ _ _ _ (akX hpl) _)
   ·exact bind_congr fun _ _=>bind_congr fun _ _=>h _ (Fr.qM _ _ _ _)
  case makeMap t rr=>
   cases rr with
   |none=>exact h _ (Fr.qM _ _ _ _)
   |some x=>rfl
  case range t x=>
   split
   ·exact bind_congr fun _ _=>h _ (Fr.qM _ _ _ _)
   ·rfl
  case buildSlice t n ps=>
   cases dst with
   |none=>exact dflt
   |some d=>
    simp only
    cases X.O.contains d
    ·exact dflt
    ·simp only[cond_true]
     refine bind_congr fun v _=>?_
     unfold A.GQ
     split
     ·cases(List.length _==0)
      ·exact h _ (Fr.qM _ _ _ _)
      ·rfl
     ·rfl
  case mapUpdate t m i v=>
   split
   ·split
    ·exact bind_congr fun _ _=>h _ (Fr.qM _ _ _ _)
    ·rfl
   ·rfl
  case call c=>
   split
   ·split
    ·split
     ·split
      ·cases nw _
       ·exact bind_congr fun _ _=>h _ (Fr.qM _ _ _ _)
       ·rfl
      ·rfl
     ·split
      ·cases nw _
       ·exact bind_congr fun _ _=>h _ (Fr.qM _ _ _ _)
       ·rfl
      ·rfl
     ·rfl
    ·rfl
   ·split
    ·split
     ·split
      ·cases nw _
       ·exact bind_congr fun _ _=>h _ (Fr.qM _ _ _ _)
       ·rfl
      ·rfl
     ·rfl
    ·rfl
   ·cases hv:fZ X _ s none
    ·simp only[A.Jb]
     cases q
     ·simp only[cond_false]
      split
      ·split
       ·exact ags fun _ _=>h _ (Fr.qM _ _ _ _)
       ·rfl
      ·rfl
     ·rfl
    ·exact h _ (Fr.put _ _ _)
   ·split
    ·split
     ·split
      ·cases nw _
       ·exact bind_congr fun _ _=>h _ (Fr.qM _ _ _ _)
       ·rfl
      ·rfl
     ·rfl
    ·rfl
   ·split
    ·split
     ·split
      ·exact bind_congr fun _ _=>h _ (Fr.qM _ _ _ _)
      ·rfl
     ·rfl
    ·rfl
   ·exact dflt
   ·cases(q&&!X.W.contains _)
    ·exact bind_congr fun _ _=>h _ (Fr.qM _ _ _ _)
    ·exact dflt
   ·cases q
    ·exact bind_congr fun _ _=>h _ (Fr.qM _ _ _ _)
    ·exact dflt
   ·rfl
theorem aie {q:Bool} {ops:Array Oper} {o:Oper} {k k2:AS→Option R} (h:∀s',Fr X o.dst.toList s s'→k s'=k2 s'):oz X q ops o s k=oz X q ops o s k2:=by
 unfold oz
 split
 ·exact aid h
 ·split
  ·cases Ip X o _
   ·simp only[cond_false]
    split
    ·exact bind_congr fun _ _=>h _ (Fr.mS _ _ _ _ _)
    ·exact bind_congr fun _ _=>h _ (Fr.put _ _ _)
   ·rfl
  ·rfl
theorem ZI (hs:dB X) (h:St X z s a w E pb) {q:Bool} {ops:Array Oper} {i:Nat} {o:Oper} (hi:ops[i]? =some o) {k:AS→Option R} {r:R} (hk:oz X q ops o s k=some r) {K:Act→World→Prop} {Q:Exit→Act→World→Prop}
  (hK:∀s' a' w' E' bO,St X z s' a' w' E' bO→Fr X o.dst.toList s s'→k s'=some r→K a' w'):wpOp X.P ops Q i K a w:=by
 classical
 have e:oz X q ops o s k=oz X q ops o s (fun s'=>if Fr X o.dst.toList s s' then k s' else none):=aie fun s' hf=>by rw[if_pos hf]
 rw[e]at hk
 refine al4 hs h hi hk fun s' a' w' E' bO h' hk'=>?_
 split at hk'
 ·exact hK s' a' w' E' bO h' (by assumption) hk'
 ·cases hk'
theorem ZL (hs:dB X) {q:Bool} {ops:Array Oper} {Q:Exit→Act→World→Prop} {r:R} {k:AS→Option R} {s0:AS}:
  ∀(l:List Oper) (i:Nat) (s:AS) (a:Act) (w:World) (E:List Pl) (pb:Nat→Option Nat),(∀j,l[j]? =ops[i+j]?)→St X z s a w E pb→tF X q ops l s k=some r→
   (∀s' a' w' E' bO,St X z s' a' w' E' bO→Fr X (l.filterMap (·.dst)) s s'→k s'=some r→Q .normal a' w')→wpOps X.P ops Q (List.range' i l.length) a w
 |[],i,s,a,w,E,pb,_,h,hk,hQ=>by simpa [wpOps]using hQ _ _ _ _ _ h (Fr.refl _ _) hk
 |o::l,i,s,a,w,E,pb,hl,h,hk,hQ=>by
  have h0:=hl 0
  simp at h0
  simp only[List.length_cons,List.range'_succ]
  rw[wpOps_cons]
  refine ZI hs h h0.symm hk fun s' a' w' E' bO h' hf hk'=>?_
  refine ZL hs (s0:=s0) l (i+1) s' a' w' E' bO (fun j=>by have:=hl (j+1);simp at this;rw[this];congr 1;omega) h' hk' fun s2 a2 w2 E2 UN h2 uW hk2=>hQ s2 a2 w2 E2 UN h2 ((hf.trans uW).mono ?_) hk2
  intro j hj
  rw[List.filterMap_cons]
  cases hd:o.dst with
  |none=>rw[hd]at hj;simpa using hj
  |some d=>rw[hd]at hj;simpa using hj
theorem akT (hs:dB X) {Rt:List (Nat×Nat)} {Bt:List Nat} (h:St X z s a w E pb) (hI:RI X Rt Bt s) {ops:Array Oper} {i:Nat} {o:Oper} (hR:uN X Rt Bt o) (hi:ops[i]? =some o) {k:AS→Option R} {r:R} (hk:oz X true ops o s k=some r) {K:Act→World→Prop} {Q:Exit→Act→World→Prop}
  (hK:∀s' a' w' E' bO,St X z s' a' w' E' bO→Fr X o.dst.toList s s'→RI X Rt Bt s'→k s'=some r→K a' w'):wpOp X.P ops Q i K a w:=by
 classical
 have e:oz X true ops o s (fun s'=>if RI X Rt Bt s' then k s' else none)=some r:=by
  obtain⟨u,h1,h2,h3⟩:=R5 hR hI hk
  rw[h3 R _ s (fun tag _=>⟨hI,hI,fun _ _ _=>rfl,fun _ _=>rfl,fun _ _=>rfl,fun _ _=>rfl,fun _ _=>Dz _⟩),if_pos (h1.ri hI)]
  exact h2
 refine ZI hs h hi e fun s' a' w' E' bO h' hf hk'=>?_
 split at hk'
 ·exact hK s' a' w' E' bO h' hf (by assumption) hk'
 ·cases hk'
theorem aiW (hs:dB X) {Rt:List (Nat×Nat)} {Bt:List Nat} {ops:Array Oper} {Q:Exit→Act→World→Prop} {r:R} {k:AS→Option R} {s0:AS} (Si:∀n o e,ops[n]? =some o→e∈o.after→Region.binds .any e=true→e.on<n)
  (amY:∀n o m y,ops[n]? =some o→m<n→ops[m]? =some y→(∀S,Down ops S→NB ops n S→S m)∨zF X Rt Bt ops y o) (Ta:∀(n:Nat) (o:Oper),ops[n]? =some o→uN X Rt Bt o)
  (hQ:∀s' a' w' E' bO,St X z s' a' w' E' bO→Fr X (ops.toList.filterMap (·.dst)) s0 s'→k s'=some r→Q .normal a' w'):
  ∀(fuel:Nat) (listed:Array Bool) (s:AS) (a:Act) (w:World) (E:List Pl) (pb:Nat→Option Nat),listed.size=ops.size→(qZ listed ops.size).length≤fuel→Down ops (fun i=>listed.getD i true=true)→St X z s a w E pb→RI X Rt Bt s→tF X true ops (A9 ops listed) s k=some r→Fr X (ops.toList.filterMap (·.dst)) s0 s→
   wpAny X.P .any ops Q fuel listed a w:=by
 have hnone:∀(listed:Array Bool),qZ listed ops.size=[]→Region.ready .any ops listed=[]:=by
  intro listed h
  unfold Region.ready
  rw[List.filter_eq_nil_iff]
  intro i hi hr
  simp only[Bool.and_eq_true]at hr
  have:i∈qZ listed ops.size:=List.mem_filter.2 ⟨hi,hr.1⟩
  rw[h]at this;simp at this
 have hsome:∀(listed:Array Bool),listed.size=ops.size→Region.ready .any ops listed=[]→qZ listed ops.size=[]:=by
  intro listed hsz hr
  cases xF:qZ listed ops.size with
  |nil=>rfl
  |cons i0 tl=>
   exfalso
   have hm:i0∈qZ listed ops.size:=by rw[xF];simp
   obtain⟨h1,h2⟩:=List.mem_filter.1 hm
   have hlt:i0<ops.size:=by simpa using h1
   have hpw:(qZ listed ops.size).Pairwise (·<·):=List.Pairwise.filter _ List.pairwise_lt_range
   rw[xF,List.pairwise_cons]at hpw
   have hall:∀j,j<i0→listed.getD j true=true:=by
    intro j hj
    cases hc:listed.getD j true with
    |true=>rfl
    |false=>
     have:j∈qZ listed ops.size:=List.mem_filter.2 ⟨by simp;omega,by simp [hc]⟩
     rw[xF]at this
     rcases List.mem_cons.1 this with e|e
     ·omega
     ·have:=hpw.1 j e;omega
   have:i0∈Region.ready .any ops listed:=by
    unfold Region.ready
    refine List.mem_filter.2 ⟨h1,?_⟩
    rw[Bool.and_eq_true]
    refine⟨h2,?_⟩
    rw[Array.getElem?_eq_getElem hlt]
    simp only[Option.map_some,Option.getD_some]
    rw[Array.all_eq_true_iff_forall_mem]
    intro e he
    cases hb:Region.binds .any e with
    |false=>rfl
    |true=>
     have Hh:=Si i0 _ e (Array.getElem?_eq_getElem hlt) he hb
     have:=hall e.on Hh
     rw[Array.getD_eq_getD_getElem?,Array.getElem?_eq_getElem (by omega)]at this
     simp only[Option.getD_some]at this
     rw[Array.getD_eq_getD_getElem?,Array.getElem?_eq_getElem (by omega)]
     simp [this]
   rw[hr]at this;simp at this
 intro fuel
 induction fuel with
 |zero=>
  intro listed s a w E pb hsz hle hdn h hI hk hf
  have xF:qZ listed ops.size=[]:=List.eq_nil_of_length_eq_zero (by omega)
  refine⟨hnone listed xF,hQ s a w E pb h hf ?_⟩
  simpa [A9,xF,tF]using hk
 |succ fuel ih=>
  intro listed s a w E pb hsz hle hdn h hI hk hf
  refine⟨fun hr=>hQ s a w E pb h hf (by simpa [A9,hsome listed hsz hr,tF]using hk),fun i hi=>?_⟩
  unfold Region.ready at hi
  obtain⟨h1,h2⟩:=List.mem_filter.1 hi
  rw[Bool.and_eq_true]at h2
  obtain⟨h2,h3⟩:=h2
  have hlt:i<ops.size:=by simpa using h1
  have hun:listed.getD i true=false:=by simpa using h2
  have ho:ops[i]? =some ops[i]:=Array.getElem?_eq_getElem hlt
  have aa9:NB ops i (fun j=>listed.getD j true=true):=by
   intro o e hoo he hb
   rw[hoo]at h3
   simp only[Option.map_some,Option.getD_some]at h3
   rw[Array.all_eq_true_iff_forall_mem]at h3
   have h4:=h3 e he
   rw[hb]at h4
   simp only[Bool.not_true,Bool.false_or]at h4
   have Hh:=Si i o e hoo he hb
   rw[Array.getD_eq_getD_getElem?,Array.getElem?_eq_getElem (by omega)]at h4
   simp only[Option.getD_some]at h4
   show listed.getD e.on true=true
   rw[Array.getD_eq_getD_getElem?,Array.getElem?_eq_getElem (by omega)]
   simpa using h4
  obtain⟨l1,l2,e1,e2,e3⟩:=ag3 hlt hun hsz
  have xF:A9 ops listed=l1.filterMap (ops[·]?)++ops[i]::l2.filterMap (ops[·]?):=by
   unfold A9;rw[e1,List.filterMap_append,List.filterMap_cons,ho]
  have am0:A9 ops (listed.setIfInBounds i true)=l1.filterMap (ops[·]?)++l2.filterMap (ops[·]?):=by
   unfold A9;rw[e2,List.filterMap_append]
  rw[xF]at hk
  have aoH:∀y∈l1.filterMap (ops[·]?),uN X Rt Bt y:=by
   intro y hy
   obtain⟨j,hj,Uo⟩:=List.mem_filterMap.1 hy
   exact Ta j y Uo
  have aoz:∀y∈l1.filterMap (ops[·]?),zF X Rt Bt ops y ops[i]:=by
   intro y hy
   obtain⟨j,hj,Uo⟩:=List.mem_filterMap.1 hy
   obtain⟨j1,j2⟩:=e3 j hj
   rcases amY i ops[i] j y ho j1 Uo with k1|k1
   ·have:=k1 _ hdn aa9
    rw[j2]at this;cases this
   ·exact k1
  have alR:=XR (Ta i _ ho) _ _ s hI aoH aoz hk
  refine akT hs h hI (Ta i _ ho) ho alR fun s' a' w' E' bO h' hf' Uh hk'=>?_
  rw[←am0]at hk'
  refine ih _ s' a' w' E' bO (by simpa using hsz) ?_ ?_ h' Uh hk' ((hf.trans hf').mono ?_)
  ·rw[e2];rw[e1]at hle;simp at hle ⊢;omega
  ·intro j o e hj Ut he hb
   by_cases hji:j=i
   ·subst hji
    have:=aa9 o e Ut he hb
    show(listed.setIfInBounds j true).getD e.on true=true
    have Hh:=Si j o e Ut he hb
    rw[Array.getD_eq_getD_getElem?,Array.getElem?_setIfInBounds_ne (by omega),←Array.getD_eq_getD_getElem?];exact this
   ·have hj':listed.getD j true=true:=by
     replace hj:(listed.setIfInBounds i true).getD j true=true:=hj
     rw[Array.getD_eq_getD_getElem?,Array.getElem?_setIfInBounds_ne (fun e=>hji e.symm),←Array.getD_eq_getD_getElem?]at hj;exact hj
    have:=hdn j o e hj' Ut he hb
    show(listed.setIfInBounds i true).getD e.on true=true
    by_cases hei:e.on=i
    ·rw[hei];simp [Array.getD,hsz,hlt]
    ·rw[Array.getD_eq_getD_getElem?,Array.getElem?_setIfInBounds_ne (fun e'=>hei e'.symm),←Array.getD_eq_getD_getElem?];exact this
  ·intro d hd
   rcases List.mem_append.1 hd with hd|hd
   ·exact hd
   ·refine List.mem_filterMap.2 ⟨ops[i],by simp,?_⟩
    cases qv:ops[i].dst with
    |none=>rw[qv]at hd;simp at hd
    |some d'=>rw[qv]at hd;simp at hd;rw[hd]
theorem Qm {t b:Nat}:∀{l:List (Nat×Nat)},l.lookup t=some b→(t,b)∈l
 |[],h=>by cases h
 |(t',b')::l,h=>by
  simp only[List.lookup]at h
  cases hc:(t==t')
  ·rw[hc]at h;exact List.mem_cons_of_mem _ (Qm h)
  ·rw[hc]at h
   simp only[Option.some.injEq]at h
   have:t=t':=by simpa using hc
   subst this;subst h
   exact List.mem_cons_self
theorem akd (hs:dB X) {ops:Array Oper} {Q:Exit→Act→World→Prop} {r:R} {k:AS→Option R} (hok:Is X ops s.sl=true) (hA:∀t,s.A t=none) (hQ:∀s' a' w' E' bO,St X z s' a' w' E' bO→Fr X (ops.toList.filterMap (·.dst)) s s'→k s'=some r→Q .normal a' w') {id:Nat}
  (h:St X z s a w E pb) (hk:tF X true ops ops.toList s k=some r):(Code.region id ops true).wp X.P Q a w:=by
 obtain⟨Rt,Bt,hok⟩:∃Rt Bt,Me X Rt Bt ops s.sl=true:=by
  unfold Is at hok
  rcases Bool.or_eq_true_iff.1 hok with h|h
  ·exact⟨_,_,h⟩
  ·exact⟨_,_,h⟩
 unfold Me at hok
 simp only[Bool.and_eq_true]at hok
 obtain⟨⟨⟨⟨⟨⟨⟨h1,h2⟩,h3⟩,h4⟩,h5⟩,h6⟩,h7⟩,h8⟩:=hok
 have hI:RI X Rt Bt s:=by
  refine⟨fun t b hl=>?_,fun t p hp=>(by rw[hA t]at hp;cases hp),fun t b hl _=>?_,fun t ht=>List.all_eq_true.1 h8 t (by simpa using ht)⟩
  ·have:=List.all_eq_true.1 h6 (t,b) (Qm hl)
   exact this
  ·have:=List.all_eq_true.1 h5 (t,b) (Qm hl)
   exact this
 have abb:∀j,ops.toList[j]? =ops[0+j]? :=fun j=>by simp
 have xF:qZ (Array.replicate ops.size false) ops.size=List.range ops.size:=by
  unfold qZ
  rw[List.filter_eq_self]
  intro i hi
  have:i<ops.size:=by simpa using hi
  simp [Array.getD,this]
 have am1:A9 ops (Array.replicate ops.size false)=ops.toList:=by
  unfold A9
  rw[xF]
  have gen:∀(l pre:List Oper),(List.range' pre.length l.length).filterMap (fun i=>(pre++l)[i]?)=l:=by
   intro l
   induction l with
   |nil=>intro pre;rfl
   |cons x l ih=>
    intro pre
    simp only[List.length_cons,List.range'_succ,List.filterMap_cons]
    rw[List.getElem?_append_right (Nat.le_refl _)]
    simp only[Nat.sub_self,List.getElem?_cons_zero]
    have:=ih (pre++[x])
    simp only[List.length_append,List.length_cons,List.length_nil,Nat.zero_add,List.append_assoc,List.cons_append,List.nil_append]at this
    rw[this]
  have:=gen ops.toList []
  rw[List.range_eq_range']
  simpa using this
 refine wp_region_any h1 (aiW (s0:=s) hs (fun n o e ho he hb=>Xp ops.toList 0 abb h2 n o e (Nat.zero_le _) ho he hb) (fun n o m y ho hm hy=>?_) (fun n o ho=>uN.of (List.all_eq_true.1 h4 o (by have:=Array.mem_of_getElem? ho;simpa using this)) (List.all_eq_true.1 h7 o (by have:=Array.mem_of_getElem? ho;simpa using this))) hQ ops.size _ s a _ E pb (by simp) (by rw[xF];simp) ?_ (h.grow (w':=w.drew) ((Below.refl _ _).drew)) hI (by rw[am1];exact hk) (Fr.refl _ _))
 ·rcases WY ops.toList 0 abb h3 n o (Nat.zero_le _) ho m y hm hy with k1|k1
  ·left
   exact fun S hS hD=>Yf ops.toList [] (fun i=>by simp) (fun m j h=>by simp at h) n m k1 S hS hD
  ·exact .inr (ahY k1)
 ·intro i o e hi ho he hb
  have hlt:i<ops.size:=(Array.getElem?_eq_some_iff.1 ho).1
  exfalso
  simp [Array.getD,hlt]at hi
theorem St.UL (h:St X z s a w E pb):St X z ⟨s.sl,fun _=>none,s.σ⟩ a w E pb:=
 ⟨h.len,h.qY,h.slot,h.box,(fun t p hp=>by cases hp),h.priv,h.inj,h.heap,h.defers,h.out,h.nm⟩
def AX.to:AX→Exit
 |.normal=>.normal
 |.exit i=>.exit i
 |.ret=>.ret
theorem Ln:∀(ds:List Nat) (sl:List AV) (i:Nat),(wP sl ds).length=sl.length∧((wP sl ds)[i]? =sl[i]? ∨(wP sl ds)[i]? =some .undef)∧(i∉ds→(wP sl ds)[i]? =sl[i]?)∧(i∈ds→i<sl.length→(wP sl ds)[i]? =some .undef)
 |[],sl,i=>⟨rfl,.inl rfl,fun _=>rfl,fun h=>by simp at h⟩
 |d::ds,sl,i=>by
  obtain⟨h1,h2,h3,h4⟩:=Ln ds (sl.set d .undef) i
  simp only[wP]
  have uC:(sl.set d .undef)[i]? =if d=i then(if i<sl.length then some .undef else none)else sl[i]? :=by
   rw[List.getElem?_set];by_cases e:d=i
   ·subst e;simp
   ·simp [e]
  have hnone:¬i<sl.length→sl[i]? =none:=fun k=>List.getElem?_eq_none (by omega)
  refine⟨by rw[h1];simp,?_,fun hi=>?_,fun hi hl=>?_⟩
  ·rcases h2 with h2|h2
   ·rw[h2,uC]
    by_cases e:d=i
    ·rw[if_pos e];split
     ·exact .inr rfl
     ·rename_i k;rw[hnone k];exact .inl rfl
    ·rw[if_neg e];exact .inl rfl
   ·exact .inr h2
  ·simp only[List.mem_cons,not_or]at hi
   rw[h3 hi.2,uC,if_neg (fun e=>hi.1 e.symm)]
  ·by_cases hm:i∈ds
   ·exact h4 hm (by simpa using hl)
   ·simp only[List.mem_cons]at hi
    have:i=d:=hi.resolve_right hm
    rw[h3 hm,uC,if_pos this.symm,if_pos hl]
theorem LY (vs:List AV):∀(live:List Nat) (j:Nat) (sl:List AV) (i:Nat),(Gt vs sl live j).length=sl.length∧(i∉live→(Gt vs sl live j)[i]? =sl[i]?)∧(i∈live→i<sl.length→∃n,n<live.length∧live[n]? =some i∧(Gt vs sl live j)[i]? =some (vs.getD (j+n) .undef))
 |[],j,sl,i=>⟨rfl,fun _=>rfl,fun h=>by simp at h⟩
 |d::live,j,sl,i=>by
  obtain⟨h1,h2,h3⟩:=LY vs live (j+1) (sl.set d (vs.getD j .undef)) i
  simp only[Gt]
  refine⟨by rw[h1];simp,fun hi=>?_,fun hi hl=>?_⟩
  ·simp only[List.mem_cons,not_or]at hi
   rw[h2 hi.2,List.getElem?_set,if_neg (fun e=>hi.1 e.symm)]
  ·by_cases hm:i∈live
   ·obtain⟨n,k1,k2,k3⟩:=h3 hm (by simpa using hl)
    exact⟨n+1,by simp;omega,by simpa using k2,by rw[k3];congr 2;omega⟩
   ·simp only[List.mem_cons]at hi
    have:i=d:=hi.resolve_right hm
    subst this
    exact⟨0,by simp,rfl,by rw[h2 hm,List.getElem?_set];simp [hl]⟩
theorem St.meet {s s':AS} (h:St X z s' a w E pb) {mods live:List Nat} (hl:s.sl.length=s'.sl.length) (hf:∀i,i∉mods→s'.sl[i]? =s.sl[i]?):St X z (s.meet mods live (vals s'.sl live) s'.σ) a w E pb:=by
 have kj:∀i:Nat,(s.meet mods live (vals s'.sl live) s'.σ).sl[i]? =s'.sl[i]? ∨(s.meet mods live (vals s'.sl live) s'.σ).sl[i]? =some AV.undef:=by
  intro i
  simp only[AS.meet]
  obtain⟨c1,c2,c3,c4⟩:=Ln mods s.sl i
  obtain⟨m1,m2,m3⟩:=LY (vals s'.sl live) live 0 (wP s.sl mods) i
  by_cases hm:i∈live
  ·by_cases hlt:i<s.sl.length
   ·obtain⟨n,k1,k2,k3⟩:=m3 hm (by rw[c1];exact hlt)
    left
    rw[k3,Nat.zero_add]
    have:(vals s'.sl live).getD n .undef=s'.sl.getD i .undef:=by
     simp only[vals,List.getD,List.getElem?_map,k2];rfl
    rw[this,List.getElem?_eq_getElem (by omega)]
    simp [List.getD,show i<s'.sl.length by omega]
   ·left
    rw[List.getElem?_eq_none (by rw[m1,c1];omega),List.getElem?_eq_none (by omega)]
  ·rw[m2 hm]
   by_cases hd:i∈mods
   ·by_cases hlt:i<s.sl.length
    ·exact .inr (c4 hd hlt)
    ·left;rw[List.getElem?_eq_none (by rw[c1];omega),List.getElem?_eq_none (by omega)]
   ·left;rw[c3 hd,hf i hd]
 have hlen:(s.meet mods live (vals s'.sl live) s'.σ).sl.length=s'.sl.length:=by
  simp only[AS.meet]
  rw[(LY (vals s'.sl live) live 0 (wP s.sl mods) 0).1,(Ln mods s.sl 0).1];exact hl
 refine⟨by rw[h.len,hlen],by rw[hlen,h.qY],fun i av hi=>?_,fun i cs hi=>?_,(fun t p hp=>by cases hp),h.priv,h.inj,h.heap,h.defers,h.out,h.nm⟩
 ·rcases kj i with e|e
  ·rw[e]at hi;exact h.slot i av hi
  ·rw[e]at hi;injection hi with hi;subst hi;trivial
 ·rcases kj i with e|e
  ·rw[e]at hi;exact h.box i cs hi
  ·rw[e]at hi;cases hi
end
end
section
open Go.RowKit
section
variable {X : Fx} {z : Z}
theorem force_eq {R:Type}:∀(l:List AV) (k:List AV→Option R),force l k=k l
 |[],k=>rfl
 |x::l,k=>by simp only[force];rw[force_eq l]
theorem ZM {R:Type} {q:Bool} {ops:Array Oper}:∀(l:List Oper) (s:AS) (k:AS→Option R),Jq X q ops l s k=tF X q ops l s k
 |[],s,k=>rfl
 |o::l,s,k=>by
  simp only[Jq,tF]
  congr 1;funext s
  rw[force_eq];exact ZM l _ k
theorem Xt {α:Type} {c:AV} {t e:Option α} {r:α} (h:A.cond c t e=some r):(c=.bool true∧t=some r)∨(c=.bool false∧e=some r):=by
 cases c<;>simp only[A.cond]at h<;>first|(cases h;done)|skip
 rename_i b
 cases b
 ·exact .inr ⟨rfl,h⟩
 ·exact .inl ⟨rfl,h⟩
theorem ah5 {f:List AV→Heap→Option (AX×List AV×Heap)} {v:List AV} {σ:Heap} {r:AX×List AV×Heap} (h:A.loop f v σ=some r):∃n,A.iter f n v σ=some r:=by
 unfold A.loop at h
 split at h
 ·rename_i hx
  injection h with h
  exact⟨_,h▸Classical.choose_spec (Classical.choose_spec hx)⟩
 ·cases h
theorem agE {R:Type} {f:List AV→Heap→(AX×List AV×Heap→Option R)→Option R} {v:List AV} {σ:Heap} {K:AX×List AV×Heap→Option R} {r:R} (h:A.AE f v σ K=some r):∃n,A.wZ f n v σ K=some r:=by
 unfold A.AE at h
 split at h
 ·rename_i hx
  injection h with h
  obtain⟨n,hn⟩:=Classical.choose_spec hx
  exact⟨n,h▸hn n (Nat.le_refl _)⟩
 ·cases h
theorem Mx {R:Type} {e:AX} {k:AX→Option R} {r:R}:∀{xs:List AX},A.sel e k xs=some r→k e=some r
 |[],h=>by cases h
 |x::xs,h=>by
  simp only[A.sel]at h
  cases he:(e==x)
  ·rw[he]at h;exact Mx h
  ·rw[he]at h
   have:e=x:=by simpa using he
   subst this;exact h
theorem Ge {X:Fx} {c:Code} {ds:List Nat} {s s':AS} (h:Fr X ds s s'):∀i,i∉ds++X.L→s'.sl[i]? =s.sl[i]? :=fun i hi=>by
 rw[List.mem_append]at hi
 exact h i (fun e=>hi (.inl e)) (by
  cases hc:X.L.contains i
  ·rfl
  ·exact absurd (List.contains_iff_mem.1 hc) (fun e=>hi (.inr e)))
theorem B9 {X:Fx} {s:AS} {ds live:List Nat} {vs:List AV} {σ:Heap} (hl:(live.all fun d=>(ds++X.L).contains d)=true):Fr X ds s (s.meet (ds++X.L) live vs σ):=fun i hi hL=>by
 have hni:i∉ds++X.L:=by
  rw[List.mem_append];rintro(e|e)
  ·exact hi e
  ·rw[List.contains_iff_mem.2 e]at hL;cases hL
 simp only[AS.meet]
 rw[(LY vs live 0 (wP s.sl (ds++X.L)) i).2.1 (fun e=>hni ?_),(Ln (ds++X.L) s.sl i).2.2.1 hni]
 exact List.contains_iff_mem.1 (List.all_eq_true.1 hl i e)
theorem Wp {live:List Nat} {e:AX} {s:AS} {r:List AV×Heap} (h:Nc live e s=some r):e=.normal∧r=(vals s.sl live,s.σ):=by
 cases e<;>simp only[Nc]at h<;>first|(cases h;done)|(injection h with h;exact⟨rfl,h.symm⟩)
theorem ZA {P:Program} {c:Code} {Q:Exit→Act→World→Prop} (I:Nat→Act→World→Prop) (round:∀n a w,I n a w→c.wp P (Exit.then (fun a' w'=>∃m,m<n∧I m a' w') Q) a w) {n:Nat} {a:Act} {w:World} (h:I n a w):(Code.loop c).wp P Q a w:=by
 intro b k cs
 have key:∀n a w,I n a w→∃e a' w',Q e a' w'∧Arrives P (lone (b.at a (.code c::.inLoop c::k)) cs w) b k cs e a' w':=by
  intro n
  induction n using Nat.strongRecOn with
  |_ n ih=>
   intro a w hI
   obtain⟨e,a1,w1,hq,CM⟩:=round n a w hI b (.inLoop c::k) cs
   cases e with
   |normal=>
    obtain⟨m,hlt,hm⟩:=hq
    obtain⟨e2,a2,w2,wo,amM⟩:=ih m hlt a1 w1 hm
    exact⟨e2,a2,w2,wo,.of_steps (Steps.trans CM (.one step_inLoop)) amM⟩
   |exit id=>exact⟨_,a1,w1,hq,.pass (x:=.inLoop c) rfl (fun _ _=>.inl (by simp)) CM⟩
   |goto l=>exact⟨_,a1,w1,hq,.pass (x:=.inLoop c) rfl (fun _ _=>.inl (by simp)) CM⟩
   |ret=>exact⟨_,a1,w1,hq,.pass (x:=.inLoop c) rfl (fun _ _=>.inl (by simp)) CM⟩
   |panic ch=>exact⟨_,a1,w1,hq,.pass (x:=.inLoop c) rfl (fun _ _=>.inl (by simp)) CM⟩
   |outgrown=>exact⟨_,a1,w1,hq,.pass (x:=.inLoop c) rfl (fun _ _=>.inl (by simp)) CM⟩
 obtain⟨e,a',w',hq,CM⟩:=key n a w h
 exact⟨e,a',w',hq,.of_steps (.one step_loop) CM⟩
theorem yT (hs:dB X):∀(c:Code) {R:Type} (bL:mR) (s:AS) (a:Act) (w:World) (E:List Pl) (pb:Nat→Option Nat) (k:AX→AS→Option R) (r:R) (Q:Exit→Act→World→Prop),exec X bL c s k=some r→St X z s a w E pb→
  (∀e s' a' w' E' bO,St X z s' a' w' E' bO→Fr X (eM c) s s'→k e s'=some r→Q e.to a' w')→c.wp X.P Q a w
 |.skip,R,bL,s,a,w,E,pb,k,r,Q,hk,h,hQ=>by
  have hk':k .normal s=some r:=by cases bL<;>simpa [exec]using hk
  exact wp_skip (hQ .normal s a w E pb h (Fr.refl _ _) hk')
 |.label l,R,bL,s,a,w,E,pb,k,r,Q,hk,h,hQ=>by
  have hk':k .normal s=some r:=by cases bL<;>simpa [exec]using hk
  exact wp_label (hQ .normal s a w E pb h (Fr.refl _ _) hk')
 |.exit id,R,bL,s,a,w,E,pb,k,r,Q,hk,h,hQ=>by
  have hk':k (.exit id) s=some r:=by cases bL<;>simpa [exec]using hk
  exact wp_exit (hQ (.exit id) s a w E pb h (Fr.refl _ _) hk')
 |.ret,R,bL,s,a,w,E,pb,k,r,Q,hk,h,hQ=>by
  have hk':k .ret s=some r:=by cases bL<;>simpa [exec]using hk
  exact wp_ret (hQ .ret s a w E pb h (Fr.refl _ _) hk')
 |.region id ops draw,R,bL,s,a,w,E,pb,k,r,Q,hk,h,hQ=>by
  have hk':(bif draw then(bif Is X ops s.sl then tF X true ops ops.toList ⟨s.sl,fun _=>none,s.σ⟩ fun s=>k .normal ⟨s.sl,fun _=>none,s.σ⟩else none)else tF X false ops ops.toList s fun s=>k .normal ⟨s.sl,fun _=>none,s.σ⟩)=some r:=by
   cases bL<;>simpa [exec,force_eq,ZM]using hk
  cases draw
  ·simp only[cond_false]at hk'
   refine wp_region ?_
   have:=ZL (z:=z) (Q:=Q) (s0:=s) hs ops.toList 0 s a w E pb (fun j=>by simp) h hk' (fun s' a' w' E' bO h' hf hk2=>hQ .normal _ a' w' E' bO h'.UL (fun i hi hL=>hf i (by simpa [eM]using hi) hL) hk2)
   rw[List.range_eq_range']
   simpa using this
  ·simp only[cond_true]at hk'
   cases hok:Is X ops s.sl
   ·rw[hok]at hk';cases hk'
   ·rw[hok]at hk'
    simp only[cond_true]at hk'
    exact akd (s:=⟨s.sl,fun _=>none,s.σ⟩) hs hok (fun _=>rfl) (fun s' a' w' E' bO h' hf hk2=>hQ .normal _ a' w' E' bO h'.UL (fun i hi hL=>hf i (by simpa [eM]using hi) hL) hk2) h.UL hk'
 |.seq x y,R,bL,s,a,w,E,pb,k,r,Q,hk,h,hQ=>by
  cases bL<;>simp only[exec]at hk<;>first|(cases hk;done)|skip
  rename_i aa bb
  refine wp_seq (yT hs x aa s a w E pb _ r _ hk h fun e s' a' w' E' bO h' hf hk'=>?_)
  cases e with
  |normal=>exact yT hs y bb s' a' w' E' bO k r Q hk' h' fun e2 s2 a2 w2 E2 UN h2 uW hk2=>hQ e2 s2 a2 w2 E2 UN h2 (by simpa [eM]using hf.trans uW) hk2
  |exit i=>exact hQ (.exit i) s' a' w' E' bO h' (hf.mono fun i hi=>by simp [eM,hi]) hk'
  |ret=>exact hQ .ret s' a' w' E' bO h' (hf.mono fun i hi=>by simp [eM,hi]) hk'
 |.cond c x y,R,bL,s,a,w,E,pb,k,r,Q,hk,h,hQ=>by
  have rc:=eH h c
  cases bL<;>simp only[exec,force_eq]at hk<;>first|(cases hk;done)|skip
  case c live aa bb=>
   cases hl:(live.all fun d=>(eM x++eM y++X.L).contains d)
   ·rw[hl]at hk;cases hk
   ·rw[hl]at hk
    simp only[Bool.not_true,cond_false]at hk
    obtain⟨⟨vs,σ'⟩,h1,h2⟩:=Option.bind_eq_some_iff.1 hk
    rcases Xt h1 with⟨ec,hb⟩|⟨ec,hb⟩
    ·rw[ec]at rc;simp only[ak]at rc
     refine wp_cond_true rc (yT hs x aa s a w E pb _ _ Q hb h fun e s' a' w' E' bO h' hf hk'=>?_)
     obtain⟨rfl,hv⟩:=Wp hk'
     simp only[Prod.mk.injEq]at hv
     obtain⟨rfl,rfl⟩:=hv
     have uW:Fr X (eM x++eM y) s s':=hf.mono fun i hi=>by simp [hi]
     exact hQ .normal _ a' w' E' bO (h'.meet (by rw[h.qY,h'.qY]) (Ge (c:=x) uW)) (by simpa [eM]using B9 (X:=X) hl) h2
    ·rw[ec]at rc;simp only[ak]at rc
     refine wp_cond_false rc (yT hs y bb s a w E pb _ _ Q hb h fun e s' a' w' E' bO h' hf hk'=>?_)
     obtain⟨rfl,hv⟩:=Wp hk'
     simp only[Prod.mk.injEq]at hv
     obtain⟨rfl,rfl⟩:=hv
     have uW:Fr X (eM x++eM y) s s':=hf.mono fun i hi=>by simp [hi]
     exact hQ .normal _ a' w' E' bO (h'.meet (by rw[h.qY,h'.qY]) (Ge (c:=x) uW)) (by simpa [eM]using B9 (X:=X) hl) h2
  case j aa bb=>
   rcases Xt hk with⟨ec,hb⟩|⟨ec,hb⟩
   ·rw[ec]at rc;simp only[ak]at rc
    exact wp_cond_true rc (yT hs x aa s a w E pb k r Q hb h fun e s' a' w' E' bO h' hf hk'=>hQ e s' a' w' E' bO h' (hf.mono fun i hi=>by simp [eM,hi]) hk')
   ·rw[ec]at rc;simp only[ak]at rc
    exact wp_cond_false rc (yT hs y bb s a w E pb k r Q hb h fun e s' a' w' E' bO h' hf hk'=>hQ e s' a' w' E' bO h' (hf.mono fun i hi=>by simp [eM,hi]) hk')
 |.block id c,R,bL,s,a,w,E,pb,k,r,Q,hk,h,hQ=>by
  cases bL<;>simp only[exec]at hk<;>first|(cases hk;done)|skip
  rename_i aa
  refine wp_block (yT hs c aa s a w E pb _ r _ hk h fun e s' a' w' E' bO h' hf hk'=>?_)
  cases e with
  |normal=>exact hQ .normal s' a' w' E' bO h' (by simpa [eM]using hf) hk'
  |ret=>exact hQ .ret s' a' w' E' bO h' (by simpa [eM]using hf) hk'
  |exit i=>
   simp only[AX.to,Exit.inBlock]
   simp only at hk'
   by_cases e:i=id
   ·have:(i==id)=true:=by simpa using e
    rw[this]at hk'
    rw[if_pos e]
    exact hQ .normal s' a' w' E' bO h' (by simpa [eM]using hf) hk'
   ·have:(i==id)=false:=by simpa using e
    rw[this]at hk'
    rw[if_neg e]
    exact hQ (.exit i) s' a' w' E' bO h' (by simpa [eM]using hf) hk'
 |.loop c,R,bL,s,a,w,E,pb,k,r,Q,hk,h,hQ=>by
  cases bL<;>simp only[exec,force_eq]at hk<;>first|(cases hk;done)|skip
  case lc live xs aa=>
   cases hl:(live.all fun d=>(eM c++X.L).contains d)
   ·rw[hl]at hk;cases hk
   ·rw[hl]at hk
    simp only[Bool.not_true,cond_false]at hk
    obtain⟨n,hn⟩:=agE hk
    refine ZA (fun n a w=>∃vs σ E pb,A.wZ (fun vs σ K=>exec X aa c (s.meet (eM c++X.L) live vs σ) fun e s'=>K (e,vals s'.sl live,s'.σ)) n vs σ (fun r=>A.sel r.1 (fun e=>k e (s.meet (eM c++X.L) live r.2.1 r.2.2)) xs)=some r∧St X z (s.meet (eM c++X.L) live vs σ) a w E pb) ?_ (n:=n) ⟨_,_,E,pb,hn,h.meet rfl (fun i _=>rfl)⟩
    rintro n a w ⟨vs,σ,E,pb,hit,hst⟩
    cases n with
    |zero=>cases hit
    |succ n=>
     simp only[A.wZ]at hit
     refine yT hs c aa _ a w E pb _ _ _ hit hst fun e s' a' w' E' bO h' hf hk'=>?_
     have hfr:∀i,i∉eM c++X.L→s'.sl[i]? =s.sl[i]? :=fun i hi=>by
      rw[Ge (c:=c) hf i hi]
      exact Ge (c:=c) (B9 (X:=X) (s:=s) (vs:=vs) (σ:=σ) hl) i hi
     have xG:=h'.meet (s:=s) (mods:=eM c++X.L) (live:=live) (by rw[h.qY,h'.qY]) hfr
     cases e with
     |normal=>exact⟨n,Nat.lt_succ_self n,_,_,E',bO,hk',xG⟩
     |exit i=>exact hQ (.exit i) _ a' w' E' bO xG (by simpa [eM]using B9 (X:=X) hl) (Mx hk')
     |ret=>exact hQ .ret _ a' w' E' bO xG (by simpa [eM]using B9 (X:=X) hl) (Mx hk')
  rename_i live xs aa
  cases hl:(live.all fun d=>(eM c++X.L).contains d)
  ·rw[hl]at hk;cases hk
  ·rw[hl]at hk
   simp only[Bool.not_true,cond_false]at hk
   obtain⟨⟨e0,C9,aD⟩,h1,h2⟩:=Option.bind_eq_some_iff.1 hk
   have hsel:=Mx h2
   obtain⟨n,hn⟩:=ah5 h1
   refine ZA (fun n a w=>∃vs σ E pb,A.iter (fun vs σ=>exec X aa c (s.meet (eM c++X.L) live vs σ) (leave live)) n vs σ=some (e0,C9,aD)∧St X z (s.meet (eM c++X.L) live vs σ) a w E pb) ?_ (n:=n) ⟨_,_,E,pb,hn,h.meet rfl (fun i _=>rfl)⟩
   rintro n a w ⟨vs,σ,E,pb,hit,hst⟩
   cases n with
   |zero=>cases hit
   |succ n=>
    simp only[A.iter]at hit
    obtain⟨⟨e1,vs1,σ1⟩,g1,g2⟩:=Option.bind_eq_some_iff.1 hit
    refine yT hs c aa _ a w E pb _ _ _ g1 hst fun e s' a' w' E' bO h' hf hk'=>?_
    simp only[leave,Option.some.injEq,Prod.mk.injEq]at hk'
    obtain⟨rfl,rfl,rfl⟩:=hk'
    have hfr:∀i,i∉eM c++X.L→s'.sl[i]? =s.sl[i]? :=fun i hi=>by
     rw[Ge (c:=c) hf i hi]
     exact Ge (c:=c) (B9 (X:=X) (s:=s) (vs:=vs) (σ:=σ) hl) i hi
    have xG:=h'.meet (s:=s) (mods:=eM c++X.L) (live:=live) (by rw[h.qY,h'.qY]) hfr
    cases e with
    |normal=>exact⟨n,Nat.lt_succ_self n,_,_,E',bO,g2,xG⟩
    |exit i=>
     simp only[Option.some.injEq,Prod.mk.injEq]at g2
     obtain⟨rfl,rfl,rfl⟩:=g2
     exact hQ (.exit i) _ a' w' E' bO xG (by simpa [eM]using B9 (X:=X) hl) hsel
    |ret=>
     simp only[Option.some.injEq,Prod.mk.injEq]at g2
     obtain⟨rfl,rfl,rfl⟩:=g2
     exact hQ .ret _ a' w' E' bO xG (by simpa [eM]using B9 (X:=X) hl) hsel
 |.rangeFunc ..,R,bL,s,a,w,E,pb,k,r,Q,hk,h,hQ=>by cases bL<;>simp [exec]at hk
 |.scope _,R,bL,s,a,w,E,pb,k,r,Q,hk,h,hQ=>by cases bL<;>simp [exec]at hk
 |.goto _,R,bL,s,a,w,E,pb,k,r,Q,hk,h,hQ=>by cases bL<;>simp [exec]at hk
 |.refuse _,R,bL,s,a,w,E,pb,k,r,Q,hk,h,hQ=>by cases bL<;>simp [exec]at hk
end
end
section
open Go.RowKit
section
variable {X : Fx} {z : Z} {s : AS} {a : Act} {w w' : World} {E : List Pl} {pb : Nat → Option Nat}
def Bb (tmps:Array Value):ResultVar→Sem Value
 |.tmp t=>pure (tmps.getD t undef)
 |.cell a t=>do loadVar t (←asAddr (tmps.getD a undef))
theorem Ri (h:St X z s a w E pb) {R:Type}:∀(rs:List ResultVar) (k:List AV→Option R) (r:R),Ba X s rs k=some r→∃vs nE,(rs.mapM (Bb a.tmps)).run X.P w=.ok vs w∧aJ (ctx z w E pb) nE vs∧k nE=some r
 |[],k,r,hk=>⟨[],[],by simp,by simp [aJ],hk⟩
 |.tmp t::rs,k,r,hk=>by
  simp only[Ba]at hk
  obtain⟨vs,nE,h1,h2,h3⟩:=Ri h rs _ r hk
  refine⟨a.tmps.getD t undef::vs,ev X s (.tmp t)::nE,?_,by simp only[aJ];exact⟨_,_,rfl,eH h (.tmp t),h2⟩,h3⟩
  simp only[List.mapM_cons,Sem.run_bind,Bb,Sem.run_pure,Result.andThen_ok,h1]
 |.cell q t::rs,k,r,hk=>by
  simp only[Ba]at hk
  have fin:∀(v:Value) (av:AV),(Bb a.tmps (.cell q t)).run X.P w=.ok v w→ak (ctx z w E pb) av v→Ba X s rs (fun vs=>k (av::vs))=some r→∃vs nE,((ResultVar.cell q t::rs).mapM (Bb a.tmps)).run X.P w=.ok vs w∧aJ (ctx z w E pb) nE vs∧k nE=some r:=by
   intro v av hv hr hk
   obtain⟨vs,nE,h1,h2,h3⟩:=Ri h rs _ r hk
   refine⟨v::vs,av::nE,?_,by simp only[aJ];exact⟨_,_,rfl,hr,h2⟩,h3⟩
   simp only[List.mapM_cons,Sem.run_bind,hv,Sem.run_pure,Result.andThen_ok,h1]
  split at hk
  ·rename_i b off hp
   obtain⟨av,e1,e2⟩:=Option.bind_eq_some_iff.1 hk
   obtain⟨cs,e3,e4⟩:=Option.bind_eq_some_iff.1 e1
   obtain⟨n,k1,k2,k3,k4⟩:=FX h (tag:=none) trivial hp e3
   obtain⟨v,j1,j2⟩:=LU (c:=ctx z w E pb) w X rfl k3.2 e4
   rw[Nat.zero_add]at j1
   simp only[Act.eval]at k2
   exact fin v av (by simp [Bb,k2,asAddr,j1]) j2 e2
  ·obtain⟨av,e1,e2⟩:=Option.bind_eq_some_iff.1 hk
   obtain⟨cs,e3,e4⟩:=Option.bind_eq_some_iff.1 e1
   obtain⟨b,off,k2,k3⟩:=Xu h.heap e3 (eH h (.tmp q))
   obtain⟨v,j1,j2⟩:=LU (c:=ctx z w E pb) w X rfl k3 e4
   rw[Nat.add_zero]at j1
   simp only[Act.eval]at k2
   exact fin v av (by simp [Bb,k2,asAddr,j1]) j2 e2
theorem af0 {P:Program} {fn:Func} {tmps:Array Value} {vs:List Value} (h:(fn.results.toList.mapM (Bb tmps)).run P w=.ok vs w):∃v,(results fn tmps).run P w=.ok v w∧∀(c:RC) (nE:List AV),aJ c nE vs→ak c (one nE) v:=by
 have e:results fn tmps=(do let vs ←fn.results.mapM (Bb tmps);pure (if h:vs.size=1 then vs[0]else .tuple vs)):=by
  unfold results
  congr 1
 have hm:(fn.results.mapM (Bb tmps)).run P w=.ok vs.toArray w:=by
  rw[Array.mapM_eq_mapM_toList,Sem.run_map,h];rfl
 have hrun:(results fn tmps).run P w=.ok (if h:vs.toArray.size=1 then vs.toArray[0]else .tuple vs.toArray) w:=by
  rw[e,Sem.run_bind,hm];rfl
 refine⟨_,hrun,fun c nE r=>?_⟩
 match nE,vs,r with
 |[x],[v],r=>simp only[aJ]at r;obtain⟨v',_,e',r1,rfl⟩:=r;injection e' with e1 _;subst e1;simpa [one]using r1
 |[],[],r=>simp only[one,ak];exact⟨#[],by simp,by simp [aJ]⟩
 |x::y::xs,v::u::us,r=>simp only[one,ak];exact⟨(v::u::us).toArray,by simp,by simpa using r⟩
 |[_],_::_::_,r=>exact absurd r.length (by simp)
 |_::_::_,[_],r=>exact absurd r.length (by simp)
 |[],_::_,r=>exact absurd r.length (by simp)
 |_::_,[],r=>exact absurd r.length (by simp)
end
section
variable {c c' : RC} {σ : Heap} {n : Nat}
structure xg (c c' : RC) (σ : Heap) (n : Nat) : Prop where
 w:c'.w=c.w
 nm:c'.nm=c.nm
 X:∀b,c'.X b→c.X b
 E:∀(id:Nat) (p:Pl),id<n→c.E[id]? =some p→c'.E[id]? =some p
 heap:iG c σ
 NF:∀(id:Nat) (p:Pl),n≤id→c.E[id]? =some p→¬c'.X p.b
theorem Rc (d:Nat):∀(l l':List AV),A.eG σ n d l=some l'→l'.length=l.length
 |[],l',e=>by simp only[A.eG]at e;injection e with e;subst e;rfl
 |x::l,l',e=>by
  simp only[A.eG]at e
  obtain⟨y,h1,h2⟩:=Option.bind_eq_some_iff.1 e
  obtain⟨l2,h3,rfl⟩:=Option.map_eq_some_iff.1 h2
  simp [Rc d l l2 h3]
theorem Ik (d:Nat):∀(l l':List (List AV)),A.jm σ n d l=some l'→l'.length=l.length
 |[],l',e=>by simp only[A.jm]at e;injection e with e;subst e;rfl
 |x::l,l',e=>by
  simp only[A.jm]at e
  obtain⟨y,h1,h2⟩:=Option.bind_eq_some_iff.1 e
  obtain⟨l2,h3,rfl⟩:=Option.map_eq_some_iff.1 h2
  simp [Ik d l l2 h3]
theorem F2 (d:Nat):∀(l:List (List AV)),A.IL σ n d l=A.jm σ n d l
 |[]=>by simp [A.jm,A.IL]
 |x::l=>by simp [A.jm,A.IL,F2 d l]
def DO:AV→Bool
 |.os ..=>true
 |.op ..=>true
 |.oe ..=>true
 |.om ..=>true
 |_=>false
theorem MM (d:Nat):∀(l:List AV),A.uj σ n d l=A.eG σ n d l
 |[]=>by simp [A.eG,A.uj]
 |x::l=>by simp [A.eG,A.uj,MM d l]
theorem Zw (d:Nat):∀(l:List (AV×AV)),A.Cq σ n d l=A.qc σ n d l
 |[]=>by simp [A.qc,A.Cq]
 |(k,v)::l=>by simp [A.qc,A.Cq,Zw d l]
theorem akn (d:Nat) (m:Int) (s:ByteArray):A.bw σ n d (.agg [.int .i64 m,.str s])=some (.agg [.int .i64 m,.str s]):=by
 cases d<;>simp [A.bw,A.eG]
theorem XF {d:Nat}:∀{es es':List (AV×AV)},(∀p∈es,∃m s,p.1=.agg [.int .i64 m,.str s])→A.qc σ n d es=some es'→es'.map (·.1)=es.map (·.1)
 |[],es',_,h=>by simp only[A.qc]at h;injection h with h;subst h;rfl
 |(k,v)::r,es',hk,h=>by
  simp only[A.qc]at h
  obtain⟨m,s,e⟩:=hk (k,v) List.mem_cons_self
  simp only at e
  subst e
  rw[akn]at h
  simp only[Option.bind_some]at h
  obtain⟨v',h1,h2⟩:=Option.bind_eq_some_iff.1 h
  obtain⟨r',h3,rfl⟩:=Option.map_eq_some_iff.1 h2
  simp only[List.map_cons,XF (fun p hp=>hk p (List.mem_cons_of_mem _ hp)) h3]
theorem ahR {d:Nat} {es es':List (AV×AV)} (hd:Gv es) (h:A.qc σ n d es=some es'):Gv es':=by
 have e:=XF hd.1 h
 refine⟨fun p hp=>?_,by rw[e];exact hd.2⟩
 have:p.1∈es.map (·.1):=by rw[←e];exact List.mem_map_of_mem hp
 obtain⟨q,hq,e2⟩:=List.mem_map.1 this
 rw[←e2]
 exact hd.1 q hq
mutual
theorem Gf (h:xg c c' σ n) (d:Nat) (hos:∀av cS v,DO av=true→A.bw σ n d av=some cS→ak c av v→ak c' cS v):∀(av cS:AV) (v:Value),A.bw σ n d av=some cS→ak c av v→ak c' cS v
 |.undef,cS,v,e,r=>by cases d<;>simp [A.bw]at e
 |.int k m,cS,v,e,r=>by
  have:cS=.int k m:=by cases d<;>simpa [A.bw]using e.symm
  subst this;simpa [ak]using r
 |.bool b,cS,v,e,r=>by
  have:cS=.bool b:=by cases d<;>simpa [A.bw]using e.symm
  subst this;simpa [ak]using r
 |.str s,cS,v,e,r=>by
  have:cS=.str s:=by cases d<;>simpa [A.bw]using e.symm
  subst this;simpa [ak]using r
 |.aq,cS,v,e,r=>by
  have:cS=.aq:=by cases d<;>simpa [A.bw]using e.symm
  subst this;simpa [ak]using r
 |.ez,cS,v,e,r=>by
  have:cS=.ez:=by cases d<;>simpa [A.bw]using e.symm
  subst this;simpa [ak]using r
 |.np,cS,v,e,r=>by
  have:cS=.np:=by cases d<;>simpa [A.bw]using e.symm
  subst this;simpa [ak]using r
 |.nm,cS,v,e,r=>by
  have:cS=.nm:=by cases d<;>simpa [A.bw]using e.symm
  subst this;simpa [ak]using r
 |.zL,cS,v,e,r=>by
  have:cS=.zL:=by cases d<;>simpa [A.bw]using e.symm
  subst this;simpa [ak]using r
 |.agg cs,cS,v,e,r=>by
  have e':(A.eG σ n d cs).map .agg=some cS:=by cases d<;>simpa [A.bw]using e
  obtain⟨cs',h1,rfl⟩:=Option.map_eq_some_iff.1 e'
  simp only[ak]at r ⊢
  obtain⟨vs,e,r1,r2⟩:=r
  exact⟨vs,e,F3 h d hos cs cs' _ h1 r1,r2⟩
 |.aF cs,cS,v,e,r=>by
  have e':(A.eG σ n d cs).map .aF=some cS:=by cases d<;>simpa [A.bw]using e
  obtain⟨cs',h1,rfl⟩:=Option.map_eq_some_iff.1 e'
  simp only[ak]at r ⊢
  obtain⟨vs,e,r1⟩:=r
  exact⟨vs,e,F3 h d hos cs cs' _ h1 r1⟩
 |.sl sz es,cS,v,e,r=>by
  have e':(A.jm σ n d es).map (.sl sz)=some cS:=by cases d<;>simpa [A.bw]using e
  obtain⟨es',h1,rfl⟩:=Option.map_eq_some_iff.1 e'
  simp only[ak]at r ⊢
  obtain⟨q,cap,e,k1,k2,r⟩:=r
  have hl:es'.length=es.length:=Ik d es es' h1
  refine⟨q,cap,by rw[hl];exact e,by rw[hl];exact k1,k2,?_⟩
  rcases r with r|⟨b,off,e2,hb,hx,r⟩
  ·left;subst r;simpa using hl
  ·right;exact⟨b,off,e2,by rw[h.w];exact hb,fun k=>hx (h.X b k),Io h d hos sz b es es' off h1 r⟩
 |.rp cs,cS,v,e,r=>by
  have e':(A.eG σ n d cs).map .rp=some cS:=by cases d<;>simpa [A.bw]using e
  obtain⟨cs',h1,rfl⟩:=Option.map_eq_some_iff.1 e'
  simp only[ak]at r ⊢
  obtain⟨b,off,e2,hb,hx,r⟩:=r
  exact⟨b,off,e2,by rw[h.w];exact hb,fun k=>hx (h.X b k),F1 h d hos b cs cs' off h1 r⟩
 |.fm es,cS,v,e,r=>by
  have e':(A.qc σ n d es).map .fm=some cS:=by cases d<;>simpa [A.bw]using e
  obtain⟨es',h1,rfl⟩:=Option.map_eq_some_iff.1 e'
  simp only[ak]at r ⊢
  obtain⟨b,e2,hb,hx,bn,clock,k1,kw,l,k2,k3⟩:=r
  exact⟨b,e2,by rw[h.w];exact hb,fun k=>hx (h.X b k),bn,clock,by rw[h.w];exact k1,kw,l,Ms h d hos es es' _ h1 k2,k3.imp_right fun q=>⟨q.1,ahR q.2 h1⟩⟩
 |.op id off,cS,v,e,r=>hos _ cS v rfl e r
 |.oe id g i off,cS,v,e,r=>hos _ cS v rfl e r
 |.om id,cS,v,e,r=>hos _ cS v rfl e r
 |.fn f cs,cS,v,e,r=>by
  have e':(A.eG σ n d cs).map (.fn f)=some cS:=by cases d<;>simpa [A.bw]using e
  obtain⟨cs',h1,rfl⟩:=Option.map_eq_some_iff.1 e'
  simp only[ak]at r ⊢
  obtain⟨g,vs,e,k,r1⟩:=r
  exact⟨g,vs,e,by rw[h.nm];exact k,F3 h d hos cs cs' _ h1 r1⟩
 |.lbx cs,cS,v,e,r=>by cases d<;>simp [A.bw]at e
 |.os id g sz off len,cS,v,e,r=>hos _ cS v rfl e r
theorem F3 (h:xg c c' σ n) (d:Nat) (hos:∀av cS v,DO av=true→A.bw σ n d av=some cS→ak c av v→ak c' cS v):∀(l l':List AV) (vs:List Value),A.eG σ n d l=some l'→aJ c l vs→aJ c' l' vs
 |[],l',vs,e,r=>by simp only[A.eG]at e;injection e with e;subst e;simpa [aJ]using r
 |x::l,l',vs,e,r=>by
  simp only[A.eG]at e
  obtain⟨y,h1,h2⟩:=Option.bind_eq_some_iff.1 e
  obtain⟨l2,h3,rfl⟩:=Option.map_eq_some_iff.1 h2
  simp only[aJ]at r ⊢
  obtain⟨v,vs',e,r1,r2⟩:=r
  exact⟨v,vs',e,Gf h d hos x y v h1 r1,F3 h d hos l l2 vs' h3 r2⟩
theorem Ms (h:xg c c' σ n) (d:Nat) (hos:∀av cS v,DO av=true→A.bw σ n d av=some cS→ak c av v→ak c' cS v):∀(l l':List (AV×AV)) (es:List MapEntry),A.qc σ n d l=some l'→cE c l es→cE c' l' es
 |[],l',es,e,r=>by simp only[A.qc]at e;injection e with e;subst e;simpa [cE]using r
 |(k,v)::l,l',es,e,r=>by
  simp only[A.qc]at e
  obtain⟨k',h1,h2⟩:=Option.bind_eq_some_iff.1 e
  obtain⟨v',h3,h4⟩:=Option.bind_eq_some_iff.1 h2
  obtain⟨l2,h5,rfl⟩:=Option.map_eq_some_iff.1 h4
  simp only[cE]at r ⊢
  obtain⟨x,es',e,r1,r2,r3⟩:=r
  exact⟨x,es',e,Gf h d hos k k' _ h1 r1,Gf h d hos v v' _ h3 r2,Ms h d hos l l2 es' h5 r3⟩
theorem F1 (h:xg c c' σ n) (d:Nat) (hos:∀av cS v,DO av=true→A.bw σ n d av=some cS→ak c av v→ak c' cS v) (b:Nat):∀(l l':List AV) (off:Nat),A.eG σ n d l=some l'→bz c b off l→bz c' b off l'
 |[],l',off,e,r=>by simp only[A.eG]at e;injection e with e;subst e;simp [bz]
 |x::l,l',off,e,r=>by
  simp only[A.eG]at e
  obtain⟨y,h1,h2⟩:=Option.bind_eq_some_iff.1 e
  obtain⟨l2,h3,rfl⟩:=Option.map_eq_some_iff.1 h2
  simp only[bz]at r ⊢
  obtain⟨⟨v,e1,e2,r1⟩,r2⟩:=r
  exact⟨⟨v,by rw[h.w];exact e1,e2,Gf h d hos x y v h1 r1⟩,F1 h d hos b l l2 (off+1) h3 r2⟩
theorem Io (h:xg c c' σ n) (d:Nat) (hos:∀av cS v,DO av=true→A.bw σ n d av=some cS→ak c av v→ak c' cS v) (sz b:Nat):∀(l l':List (List AV)) (off:Nat),A.jm σ n d l=some l'→bC c sz b off l→bC c' sz b off l'
 |[],l',off,e,r=>by simp only[A.jm]at e;injection e with e;subst e;simp [bC]
 |x::l,l',off,e,r=>by
  simp only[A.jm]at e
  obtain⟨y,h1,h2⟩:=Option.bind_eq_some_iff.1 e
  obtain⟨l2,h3,rfl⟩:=Option.map_eq_some_iff.1 h2
  simp only[bC]at r ⊢
  exact⟨by rw[Rc d x y h1];exact r.1,F1 h d hos b x y off h1 r.2.1,Io h d hos sz b l l2 (off+sz) h3 r.2.2⟩
end
structure xT (c0 c c' : RC) : Prop where
 w:c'.w=c.w
 nm:c'.nm=c.nm
 X:∀b,c'.X b→c.X b
 E:∀(id:Nat) (p0 p:Pl),c0.E[id]? =some p0→c.E[id]? =some p→c'.E[id]? =some p
mutual
theorem Gb {c0 c c':RC} (h:xT c0 c c'):∀(av:AV) (v0 v:Value),ak c0 av v0→ak c av v→ak c' av v
 |.undef,v0,v,r0,r=>by simp [ak]
 |.int k m,v0,v,r0,r=>by simpa [ak]using r
 |.bool b,v0,v,r0,r=>by simpa [ak]using r
 |.str s,v0,v,r0,r=>by simpa [ak]using r
 |.aq,v0,v,r0,r=>by simpa [ak]using r
 |.ez,v0,v,r0,r=>by simpa [ak]using r
 |.np,v0,v,r0,r=>by simpa [ak]using r
 |.nm,v0,v,r0,r=>by simpa [ak]using r
 |.fm es,v0,v,r0,r=>by
  simp only[ak]at r0 r ⊢
  obtain⟨_,_,_,_,_,_,_,_,_,r0,_⟩:=r0
  obtain⟨b,e,hb,hx,bn,clock,k1,kw,l,k2,k3⟩:=r
  exact⟨b,e,by rw[h.w];exact hb,fun k=>hx (h.X b k),bn,clock,by rw[h.w];exact k1,kw,l,Mn h es _ _ r0 k2,k3⟩
 |.zL,v0,v,r0,r=>by simpa [ak]using r
 |.agg cs,v0,v,r0,r=>by
  simp only[ak]at r0 r ⊢
  obtain⟨C9,_,E3,_⟩:=r0
  obtain⟨vs,e,r1,r2⟩:=r
  exact⟨vs,e,Mm h cs _ _ E3 r1,r2⟩
 |.aF cs,v0,v,r0,r=>by
  simp only[ak]at r0 r ⊢
  obtain⟨C9,_,E3⟩:=r0
  obtain⟨vs,e,r1⟩:=r
  exact⟨vs,e,Mm h cs _ _ E3 r1⟩
 |.sl sz es,v0,v,r0,r=>by
  simp only[ak]at r0 r ⊢
  obtain⟨_,_,_,_,_,r0⟩:=r0
  obtain⟨q,cap,e,k1,k2,r⟩:=r
  refine⟨q,cap,e,k1,k2,?_⟩
  rcases r with r|⟨b,off,e2,hb,hx,r⟩
  ·exact .inl r
  ·rcases r0 with r0|⟨b0,sA,_,_,_,r0⟩
   ·exact .inl r0
   ·exact .inr ⟨b,off,e2,by rw[h.w];exact hb,fun k=>hx (h.X b k),Ml h sz b0 b es sA off r0 r⟩
 |.rp cs,v0,v,r0,r=>by
  simp only[ak]at r0 r ⊢
  obtain⟨b0,sA,_,_,_,r0⟩:=r0
  obtain⟨b,off,e2,hb,hx,r⟩:=r
  exact⟨b,off,e2,by rw[h.w];exact hb,fun k=>hx (h.X b k),Im h b0 b cs sA off r0 r⟩
 |.op id off,v0,v,r0,r=>by
  simp only[ak]at r0 r ⊢
  obtain⟨p0,e0,_⟩:=r0
  obtain⟨p,e1,e2,e3⟩:=r
  exact⟨p,h.E id p0 p e0 e1,e2,e3⟩
 |.oe id g i off,v0,v,r0,r=>by
  simp only[ak]at r0 r ⊢
  obtain⟨_,p0,e0,_⟩:=r0
  obtain⟨hg,p,e1,e2⟩:=r
  exact⟨hg,p,h.E id p0 p e0 e1,e2⟩
 |.os id g sz off len,v0,v,r0,r=>by
  simp only[ak]at r0 r ⊢
  obtain⟨_,p0,e0,_⟩:=r0
  obtain⟨hg,p,e1,e2⟩:=r
  exact⟨hg,p,h.E id p0 p e0 e1,e2⟩
 |.om id,v0,v,r0,r=>by
  simp only[ak]at r0 r ⊢
  obtain⟨p0,e0,_⟩:=r0
  obtain⟨p,e1,e2,e3⟩:=r
  exact⟨p,h.E id p0 p e0 e1,e2,e3⟩
 |.fn f cs,v0,v,r0,r=>by
  simp only[ak]at r0 r ⊢
  obtain⟨_,_,_,_,r0⟩:=r0
  obtain⟨g,vs,e1,e2,r⟩:=r
  exact⟨g,vs,e1,by rw[h.nm];exact e2,Mm h cs _ _ r0 r⟩
 |.lbx cs,v0,v,r0,r=>by simp [ak]at r
theorem Mm {c0 c c':RC} (h:xT c0 c c'):∀(l:List AV) (C9 vs:List Value),aJ c0 l C9→aJ c l vs→aJ c' l vs
 |[],C9,vs,r0,r=>by simpa [aJ]using r
 |x::l,C9,vs,r0,r=>by
  simp only[aJ]at r0 r ⊢
  obtain⟨v0,us0,_,E3,UP⟩:=r0
  obtain⟨v,us,e,r1,r2⟩:=r
  exact⟨v,us,e,Gb h x _ _ E3 r1,Mm h l _ _ UP r2⟩
theorem Mn {c0 c c':RC} (h:xT c0 c c'):∀(l:List (AV×AV)) (jD es:List MapEntry),cE c0 l jD→cE c l es→cE c' l es
 |[],jD,es,r0,r=>by simpa [cE]using r
 |(k,v)::l,jD,es,r0,r=>by
  simp only[cE]at r0 r ⊢
  obtain⟨e0,aof,_,k1,k2,k3⟩:=r0
  obtain⟨e,es',e1,j1,j2,j3⟩:=r
  exact⟨e,es',e1,Gb h k _ _ k1 j1,Gb h v _ _ k2 j2,Mn h l aof es' k3 j3⟩
theorem Im {c0 c c':RC} (h:xT c0 c c') (b0 b:Nat):∀(l:List AV) (sA off:Nat),bz c0 b0 sA l→bz c b off l→bz c' b off l
 |[],sA,off,r0,r=>by simp [bz]
 |x::l,sA,off,r0,r=>by
  simp only[bz]at r0 r ⊢
  obtain⟨⟨v0,_,_,E3⟩,UP⟩:=r0
  obtain⟨⟨v,e1,e2,r1⟩,r2⟩:=r
  exact⟨⟨v,by rw[h.w];exact e1,e2,Gb h x _ _ E3 r1⟩,Im h b0 b l _ _ UP r2⟩
theorem Ml {c0 c c':RC} (h:xT c0 c c') (sz b0 b:Nat):∀(l:List (List AV)) (sA off:Nat),bC c0 sz b0 sA l→bC c sz b off l→bC c' sz b off l
 |[],sA,off,r0,r=>by simp [bC]
 |x::l,sA,off,r0,r=>by
  simp only[bC]at r0 r ⊢
  exact⟨r.1,Im h b0 b x _ _ r0.2.1 r.2.1,Ml h sz b0 b l _ _ r0.2.2 r.2.2⟩
end
theorem Mk {c0 c c':RC} (h:xT c0 c c') {p0 p:Pl} {x:aK} (k0:pR c0 p0 x) (k:pR c p x):pR c' p x:=by
 cases x with
 |box cs=>
  obtain⟨h1,⟨⟨arr,t,h2,h3⟩,h4⟩⟩:=k
  exact⟨h1,⟨arr,t,by rw[h.w];exact h2,h3⟩,Im h _ _ cs _ _ k0.2.2 h4⟩
 |arr g sz es=>
  obtain⟨h1,h2,h3,h4,⟨arr,t,h5,h6⟩,h7,h8,h9⟩:=k
  obtain⟨_,_,_,_,_,_,k8,_⟩:=k0
  exact⟨h1,h2,h3,h4,⟨arr,t,by rw[h.w];exact h5,h6⟩,h7,Ml h sz _ _ es _ _ k8 h8,fun arr t fz e=>h9 arr t fz (by rw[←h.w];exact e)⟩
 |tD g sz es=>
  obtain⟨h1,h2,h3,h4,⟨arr,t,h5,h6⟩,h7,h8,h9⟩:=k
  obtain⟨_,_,_,_,_,_,k8,_⟩:=k0
  exact⟨h1,h2,h3,h4,⟨arr,t,by rw[h.w];exact h5,h6⟩,h7,Ml h sz _ _ es _ _ k8 h8,fun arr t fz e=>h9 arr t fz (by rw[←h.w];exact e)⟩
 |map es=>
  obtain⟨h1,bn,clock,h2,hw,h3⟩:=k
  obtain⟨_,_,_,_,_,k3⟩:=k0
  exact⟨h1,bn,clock,by rw[h.w];exact h2,hw,Mn h es _ _ k3 h3⟩
 |it cur left=>
  obtain⟨h1,h2⟩:=k
  obtain⟨_,k2⟩:=k0
  refine⟨h1,?_⟩
  rcases h2 with⟨h2,h2',since,seen,last,h3⟩|⟨m,seen,bn,clock,h3,h4,h5,h6,h7,h8,h9⟩
  ·exact .inl ⟨h2,h2',since,seen,last,by rw[h.w];exact h3⟩
  ·rcases k2 with⟨q1,q2,_⟩|⟨m0,aql,aqg,aqd,q3,q4,q5,q6,q7,q8,q9⟩
   ·refine .inr ⟨m,seen,bn,clock,by rw[h.w];exact h3,by rw[h.w];exact h4,fun k=>h5 (h.X m k),by rw[h.w];exact h6,h7,by rw[q2]at h8 ⊢;exact h8,.inl q1⟩
   ·refine .inr ⟨m,seen,bn,clock,by rw[h.w];exact h3,by rw[h.w];exact h4,fun k=>h5 (h.X m k),by rw[h.w];exact h6,h7,(by obtain⟨l0,q8,_⟩:=q8;obtain⟨l,h8,hp⟩:=h8;exact⟨l,Mn h left _ _ q8 h8,hp⟩),?_⟩
    rcases h9 with h9|⟨kk,v,e,e1,e2,e3,e4,e5⟩
    ·exact .inl h9
    ·rcases q9 with q9|⟨kk',v',e',f1,f2,f3,f4,f5⟩
     ·exact .inl q9
     ·rw[e1]at f1
      simp only[List.cons.injEq,Prod.mk.injEq,and_true]at f1
      obtain⟨rfl,rfl⟩:=f1
      exact .inr ⟨_,_,e,e1,e2,e3,Gb h _ _ _ f4 e4,Gb h _ _ _ f5 e5⟩
def aoi:aK→Nat
 |.arr g _ _=>g
 |.tD g _ _=>g
 |_=>0
theorem Rq {c:RC} {p:Pl} {x:aK} (k:pR c p x):p.g=aoi x:=by cases x<;>exact k.1
theorem Zp {c0 c c':RC} (h:xT c0 c c') (sz b:Nat):∀(l:List (List AV)) (off:Nat),(∀y∈l,∃b0 o0,bz c0 b0 o0 y)→bC c sz b off l→bC c' sz b off l
 |[],off,h0,r=>by simp [bC]
 |x::l,off,h0,r=>by
  simp only[bC]at r ⊢
  obtain⟨b0,o0,k⟩:=h0 x (by simp)
  exact⟨r.1,Im h b0 b x _ _ k r.2.1,Zp h sz b l _ (fun y hy=>h0 y (by simp [hy])) r.2.2⟩
theorem Y3 {c:RC}:∀{args:List AV} {vs:List Value},aJ c args vs→∀y∈A.rowsOf args,∃b0 o0,bz c b0 o0 y
 |[],_,_,y,hy=>by simp [A.rowsOf]at hy
 |a::args,vs,h,y,hy=>by
  simp only[aJ]at h
  obtain⟨v,vs',rfl,h1,h2⟩:=h
  simp only[A.rowsOf,List.mem_append]at hy
  rcases hy with hy|hy
  ·cases a<;>simp only[List.not_mem_nil]at hy
   rename_i sz es
   simp only[ak]at h1
   obtain⟨a,cap,rfl,_,_,h3⟩:=h1
   rcases h3 with h3|⟨b,off,_,_,_,h4⟩
   ·rw[h3]at hy;cases hy
   ·obtain⟨i,hi⟩:=List.mem_iff_getElem?.1 hy
    exact⟨_,_,(bC.nth h4 hi).2⟩
  ·exact Y3 h2 y hy
theorem yU (h:xg c c' σ n):∀(d:Nat) (av cS:AV) (v:Value),A.bw σ n d av=some cS→ak c av v→ak c' cS v
 |0=>Gf h 0 (fun av cS v ho e r=>by cases av<;>first|(simp [A.bw]at e;done)|(simp [DO]at ho;done))
 |d+1=>Gf h (d+1) (fun av cS v ho e r=>match av,ho,e,r with
  |.op id off,_,e,r=>by
   simp only[A.bw]at e
   simp only[ak]at r
   obtain⟨p,h1,h2,rfl⟩:=r
   split at e
   ·rename_i hlt
    injection e with e;subst e
    simp only[ak]
    exact⟨p,h.E id p hlt h1,h2,rfl⟩
   ·rename_i hge
    split at e
    ·rename_i cs hs
     obtain⟨cs',e1,rfl⟩:=Option.map_eq_some_iff.1 e
     rw[MM]at e1
     obtain⟨j1,⟨⟨arr,t,j2,j3⟩,j4⟩⟩:=h.heap.blk id p _ h1 hs
     simp only[ak]
     refine⟨p.b,off,rfl,by rw[h.w];exact(Array.getElem?_eq_some_iff.1 j2).1,h.NF id p (by omega) h1,?_⟩
     have j5:=j4.drop off
     rw[Nat.zero_add]at j5
     exact F1 h d (fun av cS v _ e r=>yU h d _ _ _ e r) p.b _ cs' _ e1 j5
    ·cases e
  |.oe id g i off,_,e,r=>by
   simp only[A.bw]at e
   simp only[ak]at r
   obtain⟨hg,p,h1,h2,a,rfl,h3⟩:=r
   split at e
   ·rename_i hlt
    injection e with e;subst e
    simp only[ak]
    exact⟨hg,p,h.E id p hlt h1,h2,a,rfl,h3⟩
   ·rename_i hge
    split at e
    ·rename_i g' sz' es hs
     split at e
     ·rename_i hc
      subst hc
      split at e
      ·rename_i el hel
       obtain⟨cs',e1,rfl⟩:=Option.map_eq_some_iff.1 e
       rw[MM]at e1
       obtain⟨j1,j2,j3,j4,⟨arr,bt,j5,j6⟩,j7,j8,j9⟩:=h.heap.blk id p _ h1 hs
       have ha:=h3 j1.symm
       subst ha
       simp only[ak]
       refine⟨p.b,_,rfl,by rw[h.w];exact(Array.getElem?_eq_some_iff.1 j5).1,h.NF id p (by omega) h1,?_⟩
       rw[j3]
       have j9:=(j8.nth hel).2.drop off
       exact F1 h d (fun av cS v _ e r=>yU h d _ _ _ e r) p.b _ cs' _ e1 j9
      ·cases e
     ·cases e
    ·cases e
  |.om id,_,e,r=>by
   simp only[A.bw]at e
   simp only[ak]at r
   obtain⟨p,h1,h2,rfl⟩:=r
   split at e
   ·rename_i hlt
    injection e with e;subst e
    simp only[ak]
    exact⟨p,h.E id p hlt h1,h2,rfl⟩
   ·rename_i hge
    split at e
    ·rename_i es hs
     obtain⟨es',e1,rfl⟩:=Option.map_eq_some_iff.1 e
     rw[Zw]at e1
     obtain⟨j1,bn,clock,j2,jw,j3⟩:=h.heap.blk id p _ h1 hs
     simp only[ak]
     exact⟨p.b,rfl,by rw[h.w];exact(Array.getElem?_eq_some_iff.1 j2).1,h.NF id p (by omega) h1,bn,clock,by rw[h.w];exact j2,jw,_,Ms h d (fun av cS v _ e r=>yU h d _ _ _ e r) _ es' _ e1 j3,.inl rfl⟩
    ·cases e
  |.os id g sz off len,_,e,r=>by
   simp only[A.bw]at e
   simp only[ak]at r
   obtain⟨hg,p,h1,h2,q,cap,rfl,h3,r⟩:=r
   split at e
   ·rename_i hlt
    injection e with e;subst e
    simp only[ak]
    exact⟨hg,p,h.E id p hlt h1,h2,q,cap,rfl,h3,r⟩
   ·rename_i hge
    split at e
    ·rename_i g' sz' es hs
     split at e
     ·rename_i hc
      obtain⟨rfl,rfl,hle⟩:=hc
      obtain⟨es',e1,rfl⟩:=Option.map_eq_some_iff.1 e
      rw[F2]at e1
      obtain⟨j1,j2,j3,j4,⟨arr,bt,j5,j6⟩,j7,j8,j9⟩:=h.heap.blk id p _ h1 hs
      obtain⟨k1,k2,k3⟩:=r j1.symm
      have hl:=Ik d _ _ e1
      have uX:((es.drop off).take len).length=len:=by simp;omega
      simp only[ak]
      refine⟨some q,cap,by rw[hl,uX],by rw[hl,uX];exact h3,j4,?_⟩
      by_cases hz:len=0
      ·left;apply List.eq_nil_of_length_eq_zero;rw[hl,uX,hz]
      ·right
       have hq:q=⟨p.b,p.base+off*p.sz,none⟩:=by
        rcases k2 with k2|k2
        ·omega
        ·exact k2
       refine⟨p.b,p.base+off*p.sz,by rw[hq],by rw[h.w];exact(Array.getElem?_eq_some_iff.1 j5).1,h.NF id p (by omega) h1,?_⟩
       refine Io h d (fun av cS v _ e r=>yU h d _ _ _ e r) sz p.b _ es' _ e1 ?_
       rw[j3]
       exact(j8.drop off).take len
     ·cases e
    ·cases e)
end
section
variable {c c' : RC} {σ : Heap} {n : Nat}
theorem aim {es es':List (AV×AV)} (hp:es.Perm es'):∀{l:List MapEntry},cE c es l→∃l',cE c es' l'∧l'.Perm l:=by
 induction hp with
 |nil=>intro l h;exact⟨l,h,.refl _⟩
 |cons x _ ih=>
  intro l h
  obtain⟨e,l1,rfl,h2,h3,h4⟩:=h
  obtain⟨l',k1,k2⟩:=ih h4
  exact⟨e::l',⟨_,_,rfl,h2,h3,k1⟩,k2.cons e⟩
 |swap x y l0=>
  intro l h
  obtain⟨e,l1,rfl,h2,h3,e',l2,rfl,h4,h5,h6⟩:=h
  exact⟨e'::e::l2,⟨_,_,rfl,h4,h5,_,_,rfl,h2,h3,h6⟩,.swap _ _ _⟩
 |trans _ _ ih1 ih2=>
  intro l h
  obtain⟨l1,k1,k2⟩:=ih1 h
  obtain⟨l2,k3,k4⟩:=ih2 k1
  exact⟨l2,k3,k4.trans k2⟩
theorem QJ (es:List (AV×AV)):(A.zq es).Perm es:=Classical.choose_spec (p:=fun l:List (AV×AV)=>l.Perm es) ⟨es,.refl _⟩
theorem Xr {es es':List (AV×AV)} (h:es.Perm es'):A.zq es=A.zq es':=by
 have:(fun l:List (AV×AV)=>l.Perm es)=fun l=>l.Perm es':=funext fun l=>propext ⟨fun q=>q.trans h,fun q=>q.trans h.symm⟩
 unfold A.zq
 congr 1
theorem aj1 {x:AV} {v:Value} (r:ak c x v):ak c (A.can x) v:=by
 cases x<;>try exact r
 case fm es=>
  unfold A.can
  simp only
  split
  ·rename_i hd
   simp only[ak]at r ⊢
   obtain⟨b,e,hb,hx,bn,clock,k1,kw,l,k2,k3⟩:=r
   have hp:=QJ es
   obtain⟨l',j1,j2⟩:=aim hp.symm k2
   refine⟨b,e,hb,hx,bn,clock,k1,kw,l',j1,.inr ⟨?_,?_⟩⟩
   ·rcases k3 with rfl|⟨k3,_⟩
    ·exact j2
    ·exact j2.trans k3
   ·exact⟨fun p hp'=>hd.1 p (hp.mem_iff.1 hp'),(hp.map _).nodup_iff.2 hd.2⟩
  ·exact r
theorem QH {b:Nat}:∀{l:List AV} {off:Nat},bz c b off l→bz c b off (l.map A.can)
 |[],off,_=>by simp [bz]
 |x::l,off,r=>by
  simp only[List.map_cons,bz]at r ⊢
  obtain⟨⟨v,h1,h2,h3⟩,h4⟩:=r
  exact⟨⟨v,h1,h2,aj1 h3⟩,QH h4⟩
theorem QI {sz b:Nat}:∀{l:List (List AV)} {off:Nat},bC c sz b off l→bC c sz b off (l.map (·.map A.can))
 |[],off,_=>by simp [bC]
 |x::l,off,r=>by
  simp only[List.map_cons,bC,List.length_map]at r ⊢
  exact⟨r.1,QH r.2.1,QI r.2.2⟩
theorem ai7 (h:xg c c' σ n) {p:Pl} {x x':aK} (e:A.CK σ n x=some x') (k:pR c p x):pR c' p x':=by
 have hos:∀av cS v,DO av=true→A.bw σ n 8 av=some cS→ak c av v→ak c' cS v:=fun av cS v _ e r=>yU h 8 _ _ _ e r
 cases x with
 |box cs=>
  obtain⟨cs',e1,rfl⟩:=Option.map_eq_some_iff.1 e
  obtain⟨h1,⟨⟨arr,t,h2,h3⟩,h4⟩⟩:=k
  exact⟨h1,⟨arr,t,by rw[h.w];exact h2,by rw[List.length_map,Rc 8 _ _ e1];exact h3⟩,QH (F1 h 8 hos _ _ _ _ e1 h4)⟩
 |arr g sz es=>
  obtain⟨es',e1,rfl⟩:=Option.map_eq_some_iff.1 e
  obtain⟨h1,h2,h3,h4,⟨arr,t,h5,h6⟩,h7,h8,h9⟩:=k
  exact⟨h1,h2,h3,h4,⟨arr,t,by rw[h.w];exact h5,h6⟩,by rw[List.length_map,Ik 8 _ _ e1];exact h7,QI (Io h 8 hos _ _ _ _ _ e1 h8),fun arr t fz e=>h9 arr t fz (by rw[←h.w];exact e)⟩
 |tD g sz es=>
  obtain⟨es',e1,rfl⟩:=Option.map_eq_some_iff.1 e
  obtain⟨h1,h2,h3,h4,⟨arr,t,h5,h6⟩,h7,h8,h9⟩:=k
  exact⟨h1,h2,h3,h4,⟨arr,t,by rw[h.w];exact h5,h6⟩,by rw[List.length_map,Ik 8 _ _ e1];exact h7,QI (Io h 8 hos _ _ _ _ _ e1 h8),fun arr t fz e=>h9 arr t fz (by rw[←h.w];exact e)⟩
 |map es=>
  obtain⟨es',e1,rfl⟩:=Option.map_eq_some_iff.1 e
  obtain⟨h1,bn,clock,h2,hwf,h3⟩:=k
  exact⟨h1,bn,clock,by rw[h.w];exact h2,hwf,Ms h 8 hos _ _ _ e1 h3⟩
 |it cur left=>cases e
theorem XC {n:Nat}:∀{Ov Ow τ:Heap},A.vI σ n Ov Ow=some τ→τ.length=Ov.length∧Ov.length≤Ow.length∧∀(i:Nat) x,τ[i]? =some x→∃b b',Ov[i]? =some b∧Ow[i]? =some b'∧((b'=b∧x=b)∨A.CK σ n b'=some x)
 |[],Ow,τ,h=>by simp only[A.vI]at h;injection h with h;subst h;simp
 |_::_,[],τ,h=>by simp [A.vI]at h
 |b::r,b'::r',τ,h=>by
  simp only[A.vI]at h
  obtain⟨y,h1,h2⟩:=Option.bind_eq_some_iff.1 h
  obtain⟨KD,h3,rfl⟩:=Option.map_eq_some_iff.1 h2
  obtain⟨k1,k2,k3⟩:=XC h3
  refine⟨by simp [k1],by simp;omega,fun i x hi=>?_⟩
  cases i with
  |zero=>
   simp only[List.getElem?_cons_zero,Option.some.injEq]at hi
   subst hi
   refine⟨b,b',rfl,rfl,?_⟩
   split at h1
   ·rename_i e
    injection h1 with h1
    exact .inl ⟨e,h1.symm⟩
   ·exact .inr h1
  |succ i=>exact k3 i x hi
end
section
variable {X : Fx}
def qU.Ok:qU→Prop
 |.N g=>∀c a v,ak c a v→ak c (g a) v
 |_=>True
theorem Ds (hs:dB X) {f:FuncId} {fn:Func} {keep:qU} (hkeep:keep.Ok) {bL:mR} {args:List AV} {σ σ':Heap} {r:AV} (hf:X.P.funcs[f]? =some fn) (amN:∀cO w,(callFunc f cO).run X.P w=.ok (.enter f cO) w)
  (hr:rj X keep bL fn args σ=some (r,σ')):nA X.P X.nm f args σ r σ':=by
 refine .inl ⟨f,amN,fun z vs hnm hlt hh ha=>?_⟩
 unfold rj at hr
 cases hb:fn.body with
 |none=>rw[hb]at hr;cases hr
 |some c=>
  rw[hb]at hr
  simp only at hr
  cases hc:(Nat.ble args.length fn.ntmps&&X.n==fn.ntmps)
  ·rw[hc]at hr;cases hr
  ·rw[hc]at hr
   simp only[Bool.not_true,cond_false]at hr
   simp only[Bool.and_eq_true,beq_iff_eq]at hc
   obtain⟨hc1,uV⟩:=hc
   have hle:args.length≤fn.ntmps:=Nat.le_of_ble_eq_true hc1
   have He:=ha.length
   have aqp:args.length=vs.size:=by simpa using He
   have hst:St X z ⟨args++List.replicate (fn.ntmps-args.length) (.aF []),fun _=>none,σ⟩ {tmps:=vs++Array.replicate (fn.ntmps-vs.size) undef,defers:=[]} z.w z.E cM:=by
    have abd:∀i av,(args++List.replicate (fn.ntmps-args.length) (.aF []))[i]? =some av→ak (ctx z z.w z.E cM) av ((vs++Array.replicate (fn.ntmps-vs.size) undef).getD i undef):=by
     intro i av hi
     by_cases hlt':i<args.length
     ·rw[List.getElem?_append_left hlt']at hi
      obtain⟨v,k1,k2⟩:=ha.nth hi
      have:(vs++Array.replicate (fn.ntmps-vs.size) undef).getD i undef=v:=by
       rw[Array.getD_eq_getD_getElem?,Array.getElem?_append_left (by omega),←Array.getElem?_toList,k1];rfl
      rw[this];exact k2
     ·rw[List.getElem?_append_right (by omega)]at hi
      have hm:=List.mem_of_getElem? hi
      rw[List.mem_replicate]at hm
      rw[hm.2]
      have:(vs++Array.replicate (fn.ntmps-vs.size) undef).getD i undef=undef:=by
       rw[Array.getD_eq_getD_getElem?,Array.getElem?_append_right (by omega),Array.getElem?_replicate]
       split<;>rfl
      rw[this]
      simp only[ak];exact⟨#[],rfl,by simp [aJ]⟩
    refine⟨by simp;omega,by simp;omega,fun i av hi=>Slot.of (abd i av hi),fun i cs hi=>?_,(fun t p hp=>by cases hp),(fun i b hb=>by cases hb),(fun i j b hb=>by cases hb),hh,rfl,?_,hnm.symm⟩
    ·have:=abd i _ hi;simp [ak]at this
    ·exact⟨rfl,rfl,rfl,Nat.le_refl _,fun _ _ _=>rfl,fun i p hp=>.inr ⟨p,hp,rfl⟩,fun i p hp=>⟨p,hp,.inl rfl⟩,hlt,fun p hp=>hh.lt hp⟩
   refine calls_of_wp hf hb (yT hs c bL _ _ _ _ _ _ _ _ hr hst fun e s' a' w' E' bO h' _ hk=>?_)
   have hno:Ext (ctx z w' E' bO) (ctx z w' E' cM):=Ext.same rfl rfl (fun b k=>by
    rcases k with k|k|⟨i,k⟩
    ·exact .inl k
    ·exact .inr (.inl k)
    ·cases k) rfl
   have abz:∀(x:AV) (v:Value) (r:AV) (σ':Heap),ak (ctx z w' E' bO) x v→A.fin σ x s'.σ=some (r,σ')→∃jN,Out z w' jN∧iG (ctx z w' jN cM) σ'∧ak (ctx z w' jN cM) r v:=by
     intro x v r σ' rv k3
     unfold A.fin at k3
     split at k3
     ·rename_i he
      simp only[Option.some.injEq,Prod.mk.injEq]at k3
      obtain⟨rfl,rfl⟩:=k3
      exact⟨E',h'.out,by rw[←he];exact h'.heap.mono hno rfl (fun p hp=>rfl),ak.mono hno _ _ rv⟩
     ·split at k3
      ·rename_i he
       obtain⟨r',k6,k7⟩:=Option.map_eq_some_iff.1 k3
       simp only[Prod.mk.injEq]at k7
       obtain⟨rfl,rfl⟩:=k7
       have hlen:=h'.heap.len
       simp only[ctx]at hlen
       have hzl:z.E.length=σ.length:=hh.len
       have hle2:σ.length≤s'.σ.length:=by
        have:=congrArg List.length he
        simp at this;omega
       have rF:∀(id:Nat) (p:Pl),id<σ.length→E'[id]? =some p→(E'.take σ.length)[id]? =some p:=fun id p hlt' hp=>by rw[List.getElem?_take_of_lt hlt'];exact hp
       have qd:∀(id:Nat) (p:Pl),(E'.take σ.length)[id]? =some p→id<σ.length∧E'[id]? =some p:=fun id p hp=>by
        rw[List.getElem?_take]at hp
        split at hp
        ·exact⟨by assumption,hp⟩
        ·cases hp
       have tv:xg (ctx z w' E' bO) (ctx z w' (E'.take σ.length) cM) s'.σ σ.length:=by
        refine⟨rfl,rfl,fun b k=>?_,rF,h'.heap,fun id p hge hp k=>?_⟩
        ·rcases k with k|⟨p,hp,k⟩|⟨i,k⟩
         ·exact .inl k
         ·exact .inr (.inl ⟨p,List.mem_of_mem_take hp,k⟩)
         ·cases k
        ·rcases k with k|⟨q,hq,k⟩|⟨i,k⟩
         ·have hb:=hlt _ k
          rcases h'.out.fresh' id p hp with e|⟨q,hq,_⟩
          ·omega
          ·rw[List.getElem?_eq_none (by omega)]at hq;cases hq
         ·obtain⟨j,hj,rfl⟩:=List.mem_iff_getElem.1 hq
          obtain⟨h1,h2⟩:=qd j _ (List.getElem?_eq_getElem hj)
          have:=h'.heap.inj j id _ p h2 hp k
          omega
         ·cases k
       have heq:∀(id:Nat),id<σ.length→σ[id]? =s'.σ[id]? :=fun id hlt'=>by
        have h1:(List.take σ.length s'.σ)[id]? =s'.σ[id]? :=List.getElem?_take_of_lt hlt'
        rw[he]at h1;exact h1
       have held:xT (ctx z z.w z.E cM) (ctx z w' E' bO) (ctx z w' (E'.take σ.length) cM):=
        ⟨rfl,rfl,tv.X,fun id p0 p e0 e1=>rF id p (by have:=(List.getElem?_eq_some_iff.1 e0).1;simp only[ctx]at this;omega) e1⟩
       refine⟨E'.take σ.length,?_,?_,yU tv 8 _ _ _ k6 rv⟩
       ·have o:=h'.out
        exact⟨o.os,o.tape,o.output,o.size,o.stay,fun i p hp=>o.fresh' i p (qd i p hp).2,fun i p hp=>by
         obtain⟨p',m1,m2⟩:=o.env i p hp
         exact⟨p',rF i p' (by have:=(List.getElem?_eq_some_iff.1 hp).1;omega) m1,m2⟩,o.lt,o.mine⟩
       ·refine⟨by simp only[ctx,List.length_take];omega,fun i j p q hp hq e=>h'.heap.inj i j p q (qd i p hp).2 (qd j q hq).2 e,fun i p x hp hx=>?_⟩
        obtain⟨hi,hp2⟩:=qd i p hp
        have eT:z.E[i]? =some z.E[i]:=List.getElem?_eq_getElem (by omega)
        exact Mk held (hh.blk i _ x eT hx) (h'.heap.blk i p x hp2 (by rw[←heq i hi];exact hx))
      ·cases k3
   have A0:∀(x:AV) (v:Value) (r:AV) (σ':Heap),ak (ctx z w' E' bO) x v→A.A0 σ x s'.σ=some (r,σ')→∃jN,Out z w' jN∧iG (ctx z w' jN cM) σ'∧ak (ctx z w' jN cM) r v:=by
     intro x v r σ' rv k3
     unfold A.A0 at k3
     obtain⟨τ,q0,k4⟩:=Option.bind_eq_some_iff.1 k3
     obtain⟨r',k6,k7⟩:=Option.map_eq_some_iff.1 k4
     simp only[Prod.mk.injEq]at k7
     obtain⟨rfl,rfl⟩:=k7
     obtain⟨q1,hle2,q3⟩:=XC q0
     have hlen:=h'.heap.len
     simp only[ctx]at hlen
     have hzl:z.E.length=σ.length:=hh.len
     have rF:∀(id:Nat) (p:Pl),id<σ.length→E'[id]? =some p→(E'.take σ.length)[id]? =some p:=fun id p hlt' hp=>by rw[List.getElem?_take_of_lt hlt'];exact hp
     have qd:∀(id:Nat) (p:Pl),(E'.take σ.length)[id]? =some p→id<σ.length∧E'[id]? =some p:=fun id p hp=>by
      rw[List.getElem?_take]at hp
      split at hp
      ·exact⟨by assumption,hp⟩
      ·cases hp
     have tv:xg (ctx z w' E' bO) (ctx z w' (E'.take σ.length) cM) s'.σ σ.length:=by
      refine⟨rfl,rfl,fun b k=>?_,rF,h'.heap,fun id p hge hp k=>?_⟩
      ·rcases k with k|⟨p,hp,k⟩|⟨i,k⟩
       ·exact .inl k
       ·exact .inr (.inl ⟨p,List.mem_of_mem_take hp,k⟩)
       ·cases k
      ·rcases k with k|⟨q,hq,k⟩|⟨i,k⟩
       ·have hb:=hlt _ k
        rcases h'.out.fresh' id p hp with e|⟨q,hq,_⟩
        ·omega
        ·rw[List.getElem?_eq_none (by omega)]at hq;cases hq
       ·obtain⟨j,hj,rfl⟩:=List.mem_iff_getElem.1 hq
        obtain⟨h1,h2⟩:=qd j _ (List.getElem?_eq_getElem hj)
        have:=h'.heap.inj j id _ p h2 hp k
        omega
       ·cases k
     have held:xT (ctx z z.w z.E cM) (ctx z w' E' bO) (ctx z w' (E'.take σ.length) cM):=
      ⟨rfl,rfl,tv.X,fun id p0 p e0 e1=>rF id p (by have:=(List.getElem?_eq_some_iff.1 e0).1;simp only[ctx]at this;omega) e1⟩
     refine⟨E'.take σ.length,?_,?_,yU tv 8 _ _ _ k6 rv⟩
     ·have o:=h'.out
      exact⟨o.os,o.tape,o.output,o.size,o.stay,fun i p hp=>o.fresh' i p (qd i p hp).2,fun i p hp=>by
       obtain⟨p',m1,m2⟩:=o.env i p hp
       exact⟨p',rF i p' (by have:=(List.getElem?_eq_some_iff.1 hp).1;omega) m1,m2⟩,o.lt,o.mine⟩
     ·refine⟨by simp only[ctx,List.length_take];omega,fun i j p q hp hq e=>h'.heap.inj i j p q (qd i p hp).2 (qd j q hq).2 e,fun i p x hp hx=>?_⟩
      obtain⟨hi,hp2⟩:=qd i p hp
      obtain⟨b,b',m1,m2,m3⟩:=q3 i x hx
      rcases m3 with⟨rfl,rfl⟩|m3
      ·have eT:z.E[i]? =some z.E[i]:=List.getElem?_eq_getElem (by omega)
       exact Mk held (hh.blk i _ x eT m1) (h'.heap.blk i p x hp2 m2)
      ·exact ai7 tv m3 (h'.heap.blk i p b' hp2 m2)
   have done:∀(hk:Ba X s' fn.results.toList (fun vs=>keep.run args σ (one vs) s'.σ)=some (r,σ')),
     a'.defers=[]∧∃v,(results fn a'.tmps).run X.P w'=.ok v w'∧∃v' E',Ending.returned v=.returned v'∧Out z w' E'∧iG (ctx z w' E' cM) σ'∧ak (ctx z w' E' cM) r v':=by
    intro hk
    refine⟨h'.defers,?_⟩
    obtain⟨us,nE,k1,k2,k3⟩:=Ri h' _ _ _ hk
    obtain⟨v,k4,k5⟩:=af0 k1
    have rv:=k5 _ _ k2
    refine⟨v,k4,v,?_⟩
    have kept:∃E',Ending.returned v=.returned v∧Out z w' E'∧iG (ctx z w' E' cM) s'.σ∧ak (ctx z w' E' cM) (one nE) v:=
     ⟨E',rfl,h'.out,h'.heap.mono hno rfl (fun p hp=>rfl),ak.mono hno _ _ rv⟩
    cases keep with
    |K=>
     simp only[qU.run,Option.some.injEq,Prod.mk.injEq]at k3
     obtain⟨rfl,rfl⟩:=k3
     exact kept
    |F=>
     obtain⟨jN,q1,q2,q3⟩:=abz _ _ _ _ rv k3
     exact⟨jN,rfl,q1,q2,q3⟩
    |G=>
     obtain⟨jN,q1,q2,q3⟩:=A0 _ _ _ _ rv k3
     exact⟨jN,rfl,q1,q2,q3⟩
    |N g=>
     simp only[qU.run]at k3
     obtain⟨⟨r0,aD⟩,k6,k7⟩:=Option.map_eq_some_iff.1 k3
     simp only[Prod.mk.injEq]at k7
     obtain⟨rfl,rfl⟩:=k7
     obtain⟨jN,q1,q2,q3⟩:=abz _ _ _ _ rv k6
     exact⟨jN,rfl,q1,q2,hkeep _ _ _ q3⟩
    |R=>
     simp only[qU.run]at k3
     obtain⟨x,hx⟩:∃x,x=one nE:=⟨_,rfl⟩
     rw[←hx]at rv k3 kept
     unfold A.renew at k3
     split at k3
     ·rename_i id g sz off len
      split at k3
      ·rename_i g' sz' es hs'
       split at k3
       ·rename_i hc
        obtain⟨rfl,rfl,hle,aqu⟩:=hc
        simp only[ak]at rv
        obtain⟨hg,p,e1,e2,qa,cp,rfl,hcap,rx⟩:=rv
        obtain⟨j1,j2,j3,j4,⟨arr,bt,j5,j6⟩,j7,j8,j9⟩:=h'.heap.blk id p _ e1 hs'
        obtain⟨q1,q2,q3⟩:=rx j1.symm
        have hid:id<E'.length:=(List.getElem?_eq_some_iff.1 e1).1
        have mH:((es.drop off).take len).length=len:=by simp;omega
        have hmul:(off+len)*sz≤es.length*sz:=Nat.mul_le_mul_right _ hle
        rw[Nat.add_mul]at hmul
        split at k3
        ·simp only[Option.some.injEq,Prod.mk.injEq]at k3
         obtain⟨rfl,rfl⟩:=k3
         have nI:=h'.move (id:=id) (p:=p) (p':=⟨p.b,p.base+off*sz,A.gen args+1,sz,p.rA⟩) (w':=w') (blk:=.arr (A.gen args+1) sz ((es.drop off).take len)) e1
          ⟨by omega,by show p.g<A.gen args+1;omega⟩ rfl rfl rfl (Nat.le_refl _) (fun b _ _=>rfl) (.inl rfl) (fun hx=>by
           refine⟨rfl,by show 0<A.gen args+1;omega,rfl,j4,⟨arr,bt,j5,j6⟩,?_,?_,j9⟩
           ·rw[mH];show p.base+off*sz+len*sz≤p.rA;omega
           ·exact bC.mono hx sz p.b rfl _ _ ((j8.drop off).take len))
         have aoD:Ext (ctx z w' (E'.set id ⟨p.b,p.base+off*sz,A.gen args+1,sz,p.rA⟩) bO) (ctx z w' (E'.set id ⟨p.b,p.base+off*sz,A.gen args+1,sz,p.rA⟩) cM):=Ext.same rfl rfl (fun b k=>by
          rcases k with k|k|⟨i,k⟩
          ·exact .inl k
          ·exact .inr (.inl k)
          ·cases k) rfl
         refine⟨_,rfl,nI.1.out,nI.1.heap.mono aoD rfl (fun p hp=>rfl),?_⟩
         simp only[ak]
         refine⟨by omega,⟨p.b,p.base+off*sz,A.gen args+1,sz,p.rA⟩,by simp [ctx,hid],Nat.le_refl _,qa,cp,rfl,hcap,fun _=>⟨rfl,?_,?_⟩⟩
         ·rcases q2 with q2|q2
          ·exact .inl q2
          ·exact .inr (by rw[q2,q1];simp)
         ·simp only[Nat.zero_add]
          rw[q1,Nat.add_mul]at q3;omega
        ·unfold A.merge at k3
         split at k3
         ·rename_i kq g0 TH sA Tx rest _ _ _
          split at k3
          ·rename_i g1 BI xY hs0
           split at k3
           ·rename_i Gy
            obtain⟨aqs,aqi,rfl,hg1,hsame,hF,aoJ⟩:=Gy
            simp only[Option.some.injEq,Prod.mk.injEq]at k3
            obtain⟨rfl,rfl⟩:=k3
            have hzl:z.E.length=σ.length:=hh.len
            have hEl:E'.length=s'.σ.length:=h'.heap.len
            have aox:kq<σ.length:=(List.getElem?_eq_some_iff.1 hs0).1
            obtain⟨pz,Hi⟩:∃pz,z.E[kq]? =some pz:=⟨_,List.getElem?_eq_getElem (by omega)⟩
            obtain⟨y1,y2,y3,y4,y5,y6,y7,y8⟩:=hh.blk kq pz _ Hi hs0
            obtain⟨p'',xE⟩:∃p'':Pl,p''=⟨p.b,p.base+off*BI,A.gen (.os kq g0 TH sA Tx::rest)+1,BI,p.rA⟩:=⟨_,rfl⟩
            have hne:id≠kq:=by omega
            have aba:∀(j:Nat) (q p2:Pl),j≠kq→z.E[j]? =some q→E'[j]? =some p2→p2=q:=by
             intro j q p2 hj hq hp2
             have hjl:j<σ.length:=by rw[←hzl];exact(List.getElem?_eq_some_iff.1 hq).1
             obtain⟨p3,m1,m2⟩:=h'.out.env j q hq
             rw[hp2]at m1;injection m1 with m1;subst m1
             rcases m2 with m2|⟨m2,m3⟩
             ·exact m2
             ·have hsj:=hsame j hjl hj
              have hx0:σ[j]? =some σ[j]:=List.getElem?_eq_getElem hjl
              have u1:=Rq (hh.blk j q _ hq hx0)
              have u2:=Rq (h'.heap.blk j p2 _ hp2 (by rw[hsj];exact hx0))
              omega
            have EL:∃p0,E'[kq]? =some p0:=⟨_,List.getElem?_eq_getElem (by omega)⟩
            obtain⟨p0,EL⟩:=EL
            have aqv:p0.g=g1:=Rq (h'.heap.blk kq p0 _ EL hF)
            have hfr:z.w.heap.size≤p.b:=by
             rcases h'.out.fresh' id p e1 with k|⟨q,hq,_⟩
             ·exact k
             ·rw[List.getElem?_eq_none (by omega)]at hq;cases hq
            have hm:p∈E':=List.mem_of_getElem? e1
            have hx:Ext (ctx z w' E' bO) (ctx z w' (E'.set kq p'') cM):=by
             refine⟨Nat.le_refl _,fun b hb hn=>⟨rfl,?_⟩,fun j q hq=>?_,rfl⟩
             ·rintro(k|⟨q,hq,k⟩|⟨i,k⟩)
              ·exact hn (.inl k)
              ·rcases List.mem_or_eq_of_mem_set hq with hq|hq
               ·exact hn (.inr (.inl ⟨q,hq,k⟩))
               ·exact hn (.inr (.inl ⟨p,hm,by rw[←k,hq,xE]⟩))
              ·cases k
             ·by_cases e:kq=j
              ·subst e
               simp only[ctx]at hq
               rw[EL]at hq;injection hq with hq;subst hq
               exact⟨p'',by simp only[ctx];rw[List.getElem?_set_self (List.getElem?_eq_some_iff.1 EL).1],.inr ⟨by omega,by rw[xE];show p0.g<A.gen (.os kq g0 TH sA Tx::rest)+1;omega⟩⟩
              ·exact⟨q,by simp only[ctx]at hq ⊢;rw[List.getElem?_set_ne e];exact hq,.inl rfl⟩
            have JL:∀(j:Nat) (q:Pl),(z.E.set kq p'')[j]? =some q→(j=kq∧q=p'')∨(j≠kq∧z.E[j]? =some q):=fun j q hq=>by
             by_cases e:kq=j
             ·subst e;rw[List.getElem?_set_self (List.getElem?_eq_some_iff.1 Hi).1]at hq;injection hq with hq;exact .inl ⟨rfl,hq.symm⟩
             ·rw[List.getElem?_set_ne e]at hq;exact .inr ⟨fun e'=>e e'.symm,hq⟩
            have hE3:∀(j:Nat) (q:Pl),j≠kq→z.E[j]? =some q→E'[j]? =some q:=fun j q hj hq=>by
             have hjl:j<z.E.length:=(List.getElem?_eq_some_iff.1 hq).1
             obtain⟨p3,m1,_⟩:=h'.out.env j q hq
             rw[m1,aba j q p3 hj hq m1]
            have held:xT (ctx z z.w z.E cM) (ctx z w' (E'.set kq p'') cM) (ctx z w' (z.E.set kq p'') cM):=by
             refine⟨rfl,rfl,fun b k=>?_,fun j q0 q Uw hq=>?_⟩
             ·rcases k with k|⟨q,hq,k⟩|⟨i,k⟩
              ·exact .inl k
              ·obtain⟨j,hj⟩:=List.mem_iff_getElem?.1 hq
               rcases JL j q hj with⟨e3,e4⟩|⟨e3,e4⟩
               ·subst e3;exact .inr (.inl ⟨q,List.mem_of_getElem? (i:=j) (by rw[List.getElem?_set_self (List.getElem?_eq_some_iff.1 EL).1,e4]),k⟩)
               ·exact .inr (.inl ⟨q,List.mem_of_getElem? (i:=j) (by rw[List.getElem?_set_ne (fun e=>e3 e.symm)];exact hE3 j q e3 e4),k⟩)
              ·cases k
             ·simp only[ctx]at Uw hq ⊢
              by_cases e:kq=j
              ·subst e
               rw[List.getElem?_set_self (List.getElem?_eq_some_iff.1 EL).1]at hq
               rw[List.getElem?_set_self (List.getElem?_eq_some_iff.1 Hi).1];exact hq
              ·rw[List.getElem?_set_ne e]at hq ⊢
               rw[aba j q0 q (fun e'=>e e'.symm) Uw hq];exact Uw
            refine⟨z.E.set kq p'',rfl,?_,?_,?_⟩
            ·have o:=h'.out
             refine⟨o.os,o.tape,o.output,o.size,o.stay,fun j q hq=>?_,fun j q hq=>?_,o.lt,o.mine⟩
             ·rcases JL j q hq with⟨e3,e4⟩|⟨e3,e4⟩
              ·left;rw[e4,xE];exact hfr
              ·exact .inr ⟨q,e4,rfl⟩
             ·by_cases e:kq=j
              ·subst e
               rw[Hi]at hq;injection hq with hq;subst hq
               exact⟨p'',List.getElem?_set_self (List.getElem?_eq_some_iff.1 Hi).1,.inr ⟨by omega,by rw[xE];show pz.g<A.gen (.os kq g0 TH sA Tx::rest)+1;omega⟩⟩
              ·exact⟨q,by rw[List.getElem?_set_ne e];exact hq,.inl rfl⟩
            ·refine⟨by simp [ctx,hzl],fun i j q r hq hr he=>?_,fun i q x hq cG=>?_⟩
             ·have abE:∀(j:Nat) (q:Pl),z.E[j]? =some q→q.b<z.w.heap.size:=fun j q hq=>hh.lt (p:=q) (List.mem_of_getElem? hq)
              rcases JL i q hq with⟨e3,e4⟩|⟨e3,e4⟩<;>rcases JL j r hr with⟨e5,e6⟩|⟨e5,e6⟩
              ·rw[e3,e5]
              ·have:=abE j r e6;rw[e4,xE]at he;simp only at he;omega
              ·have:=abE i q e4;rw[e6,xE]at he;simp only at he;omega
              ·exact hh.inj i j q r e4 e6 he
             ·rcases JL i q hq with⟨e3,e4⟩|⟨e3,e4⟩
              ·subst e3
               rw[List.getElem?_set_self aox]at cG
               injection cG with cG
               subst cG;subst e4;subst xE
               refine⟨rfl,Nat.succ_pos _,rfl,j4,⟨arr,bt,j5,j6⟩,?_,?_,j9⟩
               ·rw[mH];show p.base+off*BI+len*BI≤p.rA;omega
               ·refine Zp held BI p.b _ _ (fun y hy=>?_) (bC.mono hx BI p.b rfl _ _ ((j8.drop off).take len))
                rcases aoJ y hy with k|k
                ·obtain⟨i,hi⟩:=List.mem_iff_getElem?.1 k
                 exact⟨_,_,(bC.nth y7 hi).2⟩
                ·exact Y3 ha y k
              ·rw[List.getElem?_set_ne (fun e=>e3 e.symm)]at cG
               have hil:i<σ.length:=(List.getElem?_eq_some_iff.1 cG).1
               exact Mk held (hh.blk i q x e4 cG) ((h'.heap.blk i q x (hE3 i q e3 e4) (by rw[hsame i hil e3];exact cG)).mono hx rfl)
            ·simp only[ak]
             refine⟨Nat.succ_pos _,p'',by simp only[ctx];exact List.getElem?_set_self (List.getElem?_eq_some_iff.1 Hi).1,by rw[xE];exact Nat.le_refl _,qa,cp,by rw[mH],by rw[mH];exact hcap,fun _=>⟨by rw[xE],?_,?_⟩⟩
             ·rcases q2 with q2|q2
              ·exact .inl q2
              ·exact .inr (by rw[q2,q1,xE];simp)
             ·rw[xE]
              simp only[Nat.zero_add]
              rw[q1,Nat.add_mul]at q3;omega
           ·cases k3
          ·cases k3
         ·cases k3
       ·cases k3
      ·cases k3
     ·simp only[Option.some.injEq,Prod.mk.injEq]at k3
      obtain⟨rfl,rfl⟩:=k3
      exact kept
     ·simp only[Option.some.injEq,Prod.mk.injEq]at k3
      obtain⟨rfl,rfl⟩:=k3
      exact kept
     ·simp only[Option.some.injEq,Prod.mk.injEq]at k3
      obtain⟨rfl,rfl⟩:=k3
      exact kept
     ·cases k3
   cases e with
   |normal=>exact done hk
   |ret=>exact done hk
   |exit i=>cases hk
end
end
section
open Go.RowKit
inductive Sh where
 |k
 |s (sz:Nat)
 |e (sz:Nat) (l:List Sh)
 |a (l:List Sh)
 |t (l:List Sh)
 |p (l:List Sh)
namespace A
mutual
def nn:Sh→AV→AV
 |.k,v=>v
 |.s sz,v=>match v with|.aq=>.sl sz []|.ez=>.sl sz []|v=>v
 |.e sz l,v=>match v with|.aq=>.sl sz []|.ez=>.sl sz []|.sl sz' es=>.sl sz' (es.map (bT l))|v=>v
 |.a l,v=>match v with|.agg cs=>.agg (bT l cs)|v=>v
 |.t l,v=>match v with|.aF vs=>.aF (bT l vs)|v=>v
 |.p l,v=>match v with|.rp cs=>.rp (bT l cs)|v=>v
def bT:List Sh→List AV→List AV
 |[],vs=>vs
 |s::ss,vs=>match vs with|[]=>[]|v::vs=>nn s v::bT ss vs
end
def Tz:AV→Bool
 |.os ..=>true
 |.op ..=>true
 |.oe ..=>true
 |.om ..=>true
 |_=>false
def own:AV→Bool
 |.agg cs=>cs.any Tz
 |v=>Tz v
def vL:AV→Bool
 |.int ..=>true
 |.bool ..=>true
 |.str ..=>true
 |.np=>true
 |.aq=>true
 |.ez=>true
 |.nm=>true
 |.zL=>true
 |.sl _ []=>true
 |_=>false
def uo:AV→Bool
 |.agg cs=>cs.all vL
 |v=>vL v
def Eh:AV→Bool
 |.aF vs=>vs.all uo
 |v=>uo v
def fresh (v:AV):Bool:=match v with
 |.os ..=>true
 |.om _=>true
 |v=>uo v
def Ap:AV→Bool
 |.aF vs=>vs.all fresh
 |v=>fresh v
def IK:aK→Bool
 |.box cs=>cs.all vL
 |.arr _ _ es=>es.all fun e=>e.all vL
 |.map es=>es.all fun p=>uo p.1&&uo p.2
 |_=>false
def shift (n:Nat) (v:AV):AV:=match v with
 |.os id g sz off len=>.os (id+n) g sz off len
 |.om id=>.om (id+n)
 |v=>v
def zf (n:Nat):AV→AV
 |.aF vs=>.aF (vs.map (shift n))
 |v=>shift n v
noncomputable def wrap (ro:Bool) (eS:List Sh) (fH:Sh) (r:List AV→Heap→Option (AV×Heap)) (args:List AV) (σ:Heap):Option (AV×Heap):=
 bif ro&&args.any own then
  (eG σ 0 8 args).bind fun args=>(r (bT eS args) []).bind fun q=>bif Ap (nn fH q.1)&&q.2.all IK then some (zf σ.length (nn fH q.1),σ++q.2)else none
 else(r (bT eS args) σ).map fun q=>(nn fH q.1,q.2)
noncomputable def jr (sh:Sh) (m:List AV→Heap→Option (AV×Heap)) (args:List AV) (σ:Heap):Option (AV×Heap):=(m args σ).bind fun p=>(fin σ p.1 p.2).map fun q=>(nn sh q.1,q.2)
noncomputable def ue (m:List AV→Heap→Option (AV×Heap)) (args:List AV) (σ:Heap):Option (AV×Heap):=match args with
 |[.sl _ []]=>some (.ez,σ)
 |[.aq]=>some (.ez,σ)
 |[.ez]=>some (.ez,σ)
 |[.os _ _ _ _ 0]=>some (.ez,σ)
 |_=>m args σ
end A
def Sound (P:Program) (nm:List Nat) (f:FuncId) (m:List AV→Heap→Option (AV×Heap)):Prop:=∀args σ r σ',m args σ=some (r,σ')→nA P nm f args σ r σ'
section
variable {P : Program} {nm : List Nat} {f : FuncId} {c c' : RC}
theorem aaA {v:Value} (sz:Nat) (hsz:0<sz) (h:ak c .aq v):ak c (.sl sz []) v:=by
 simp only[ak]at h ⊢
 subst h
 exact⟨none,0,rfl,Nat.le_refl _,hsz,.inl trivial⟩
theorem aa8 {v:Value} (sz:Nat) (hsz:0<sz) (h:ak c .ez v):ak c (.sl sz []) v:=by
 simp only[ak]at h ⊢
 obtain⟨a,rfl⟩:=h
 exact⟨a,0,rfl,Nat.le_refl _,hsz,.inl trivial⟩
mutual
def Sh.ok:Sh→Bool
 |.k=>true
 |.s sz=>Nat.blt 0 sz
 |.e sz l=>Nat.blt 0 sz&&Sh.fE l
 |.a l=>Sh.fE l
 |.t l=>Sh.fE l
 |.p l=>Sh.fE l
def Sh.fE:List Sh→Bool
 |[]=>true
 |x::l=>x.ok&&Sh.fE l
end
theorem ZB:∀(l:List Sh) (cs:List AV),(A.bT l cs).length=cs.length
 |[],cs=>by simp [A.bT]
 |_::_,[]=>by simp [A.bT]
 |o::l,v::cs=>by simp [A.bT,ZB l cs]
mutual
theorem DJ:∀(s:Sh) (a:AV) (v:Value),s.ok=true→ak c a v→ak c (A.nn s a) v
 |.k,a,v,_,h=>by simpa [A.nn]using h
 |.s sz,a,v,ho,h=>by
  cases a<;>simp only[A.nn]<;>first|exact h|exact aaA sz (by simpa [Sh.ok]using ho) h|exact aa8 sz (by simpa [Sh.ok]using ho) h
 |.e sz l,a,v,ho,h=>by
  simp only[Sh.ok,Bool.and_eq_true]at ho
  cases a<;>simp only[A.nn]<;>first|exact h|exact aaA sz (by simpa using ho.1) h|exact aa8 sz (by simpa using ho.1) h|skip
  simp only[ak]at h ⊢
  obtain⟨a,cap,e,h1,h2,h3⟩:=h
  refine⟨a,cap,by rw[List.length_map];exact e,by rw[List.length_map];exact h1,h2,?_⟩
  rcases h3 with h3|⟨b,off,e1,e2,e3,e4⟩
  ·left;rw[h3];rfl
  ·right;exact⟨b,off,e1,e2,e3,aaz l ho.2 _ _ e4⟩
 |.a l,a,v,ho,h=>by
  simp only[Sh.ok]at ho
  cases a<;>simp only[A.nn]<;>first|exact h|skip
  simp only[ak]at h ⊢
  obtain⟨vs,e,h1,h2⟩:=h
  exact⟨vs,e,IB l _ _ ho h1,h2⟩
 |.t ss,a,v,ho,h=>by
  simp only[Sh.ok]at ho
  cases a<;>simp only[A.nn]<;>first|exact h|skip
  simp only[ak]at h ⊢
  obtain⟨vs,e,h1⟩:=h
  exact⟨vs,e,IB ss _ _ ho h1⟩
 |.p l,a,v,ho,h=>by
  simp only[Sh.ok]at ho
  cases a<;>simp only[A.nn]<;>first|exact h|skip
  simp only[ak]at h ⊢
  obtain⟨b,off,e,h1,h2,h3⟩:=h
  exact⟨b,off,e,h1,h2,R4 l _ _ ho h3⟩
theorem IB:∀(ss:List Sh) (l:List AV) (vs:List Value),Sh.fE ss=true→aJ c l vs→aJ c (A.bT ss l) vs
 |[],l,vs,_,h=>by simpa [A.bT]using h
 |_::_,[],vs,_,h=>by simpa [A.bT]using h
 |s::ss,a::l,vs,ho,h=>by
  simp only[Sh.fE,Bool.and_eq_true]at ho
  simp only[A.bT,aJ]at h ⊢
  obtain⟨v,vs',e,h1,h2⟩:=h
  exact⟨v,vs',e,DJ s a v ho.1 h1,IB ss l vs' ho.2 h2⟩
theorem R4 {b:Nat}:∀(l:List Sh) (cs:List AV) (off:Nat),Sh.fE l=true→bz c b off cs→bz c b off (A.bT l cs)
 |[],cs,off,_,h=>by simpa [A.bT]using h
 |_::_,[],off,_,h=>by simpa [A.bT]using h
 |o::l,a::cs,off,ho,h=>by
  simp only[Sh.fE,Bool.and_eq_true]at ho
  simp only[A.bT,bz]at h ⊢
  obtain⟨⟨v,h1,h2,h3⟩,h4⟩:=h
  exact⟨⟨v,h1,h2,DJ o a v ho.1 h3⟩,R4 l cs (off+1) ho.2 h4⟩
theorem aaz {sz b:Nat} (l:List Sh) (hl:Sh.fE l=true):∀(es:List (List AV)) (off:Nat),bC c sz b off es→bC c sz b off (es.map (A.bT l))
 |[],off,h=>by simp [bC]
 |e::es,off,h=>by
  simp only[List.map_cons,bC]at h ⊢
  exact⟨by rw[ZB];exact h.1,R4 l e off hl h.2.1,aaz l hl es _ h.2.2⟩
end
theorem Q2:∀{a:AV} {v:Value},A.vL a=true→ak c a v→ak c' a v:=by
 intro a v h r
 cases a<;>simp only[A.vL]at h<;>first|(cases h;done)|skip
 case sl sz es=>
  cases es with
  |nil=>
   simp only[ak]at r ⊢
   obtain⟨q,cap,e,h1,h2,_⟩:=r
   exact⟨q,cap,e,h1,h2,.inl trivial⟩
  |cons _ _=>simp at h
 all_goals simpa [ak]using r
theorem Xe:∀{l:List AV} {vs:List Value},l.all A.vL=true→aJ c l vs→aJ c' l vs
 |[],vs,_,r=>by simpa [aJ]using r
 |a::l,vs,h,r=>by
  simp only[List.all_cons,Bool.and_eq_true]at h
  simp only[aJ]at r ⊢
  obtain⟨v,vs',e,h1,h2⟩:=r
  exact⟨v,vs',e,Q2 h.1 h1,Xe h.2 h2⟩
theorem Q3 {a:AV} {v:Value} (h:A.uo a=true) (r:ak c a v):ak c' a v:=by
 unfold A.uo at h
 split at h
 ·simp only[ak]at r ⊢
  obtain⟨vs,e,h1,h2⟩:=r
  exact⟨vs,e,Xe h h1,h2⟩
 ·exact Q2 h r
theorem nA.conv {args args':List AV} {σ σ':Heap} {r r':AV} (h:nA P nm f args' σ r σ') (ha:∀c vs,aJ c args vs→aJ c args' vs) (hr:∀c v,ak c r v→ak c r' v):nA P nm f args σ r' σ':=by
 rcases h with⟨g,h1,h2⟩|h
 ·refine .inl ⟨g,h1,fun z vs e1 e2 e3 e4=>(h2 z vs e1 e2 e3 (ha _ _ e4)).mono ?_⟩
  rintro e w' ⟨v,E',k1,k2,k3,k4⟩
  exact⟨v,E',k1,k2,k3,hr _ _ k4⟩
 ·refine .inr fun z vs e1 e2 e3 e4=>?_
  obtain⟨v,w',E',k1,k2,k3,k4⟩:=h z vs e1 e2 e3 (ha _ _ e4)
  exact⟨v,w',E',k1,k2,k3,hr _ _ k4⟩
theorem X6 {z0 z:Z} {w':World} {E':List Pl} {n:Nat} (hn:n=z.E.length) {a:AV} {v:Value} (h:A.fresh a=true) (r:ak (ctx z0 w' E' cM) a v):ak (ctx z w' (z.E++E') cM) (A.shift n a) v:=by
 have key:∀(id:Nat) (p:Pl),E'[id]? =some p→(z.E++E')[id+n]? =some p:=fun id p hp=>by
  rw[List.getElem?_append_right (by omega),hn,Nat.add_sub_cancel];exact hp
 unfold A.fresh at h
 unfold A.shift
 split at h
 ·simp only[ak]at r ⊢
  obtain⟨hg,p,h1,h2,r⟩:=r
  exact⟨hg,p,key _ _ h1,h2,r⟩
 ·simp only[ak]at r ⊢
  obtain⟨p,h1,h2,r⟩:=r
  exact⟨p,key _ _ h1,h2,r⟩
 ·exact Q3 h r
theorem af6 {z0 z:Z} {w':World} {E':List Pl} {n:Nat} (hn:n=z.E.length) {vs:List AV} {v:Value} (h:vs.all A.fresh=true) (r:ak (ctx z0 w' E' cM) (.aF vs) v):ak (ctx z w' (z.E++E') cM) (A.zf n (.aF vs)) v:=by
 simp only[ak,A.zf]at r ⊢
 obtain⟨us,rfl,r⟩:=r
 refine⟨us,rfl,?_⟩
 generalize us.toList=us' at r ⊢
 induction vs generalizing us' with
 |nil=>simpa [aJ]using r
 |cons x l ih=>
  simp only[List.all_cons,Bool.and_eq_true]at h
  simp only[aJ,List.map_cons]at r ⊢
  obtain⟨v,vs',e,h1,h2⟩:=r
  exact⟨v,vs',e,X6 hn h.1 h1,ih h.2 _ h2⟩
theorem ahd {z0 z:Z} {w':World} {E':List Pl} {n:Nat} (hn:n=z.E.length) {a:AV} {v:Value} (h:A.Ap a=true) (r:ak (ctx z0 w' E' cM) a v):ak (ctx z w' (z.E++E') cM) (A.zf n a) v:=by
 by_cases ht:∃vs,a=.aF vs
 ·obtain⟨vs,rfl⟩:=ht
  exact af6 hn h r
 ·have e1:A.Ap a=A.fresh a:=by cases a<;>first|rfl|exact absurd ⟨_,rfl⟩ ht
  have e2:A.zf n a=A.shift n a:=by cases a<;>first|rfl|exact absurd ⟨_,rfl⟩ ht
  rw[e1]at h
  rw[e2]
  exact X6 hn h r
theorem Qf {b:Nat}:∀{l:List AV} {off:Nat},l.all A.vL=true→c'.w=c.w→bz c b off l→bz c' b off l
 |[],off,_,_,_=>by simp [bz]
 |a::l,off,h,hw,r=>by
  simp only[List.all_cons,Bool.and_eq_true]at h
  simp only[bz]at r ⊢
  obtain⟨⟨v,h1,h2,h3⟩,h4⟩:=r
  exact⟨⟨v,by rw[hw];exact h1,h2,Q2 h.1 h3⟩,Qf h.2 hw h4⟩
theorem Wx {sz b:Nat}:∀{l:List (List AV)} {off:Nat},(l.all fun e=>e.all A.vL)=true→c'.w=c.w→bC c sz b off l→bC c' sz b off l
 |[],off,_,_,_=>by simp [bC]
 |a::l,off,h,hw,r=>by
  simp only[List.all_cons,Bool.and_eq_true]at h
  simp only[bC]at r ⊢
  obtain⟨h1,h2,h3⟩:=r
  exact⟨h1,Qf h.1 hw h2,Wx h.2 hw h3⟩
theorem Xf:∀{l:List (AV×AV)} {es:List MapEntry},(l.all fun p=>A.uo p.1&&A.uo p.2)=true→cE c l es→cE c' l es
 |[],es,_,r=>by simpa [cE]using r
 |(k,v)::l,es,h,r=>by
  simp only[List.all_cons,Bool.and_eq_true]at h
  simp only[cE]at r ⊢
  obtain⟨e,es',h1,h2,h3,h4⟩:=r
  exact⟨e,es',h1,Q3 h.1.1 h2,Q3 h.1.2 h3,Xf h.2 h4⟩
theorem agy {p:Pl} {x:aK} (h:A.IK x=true) (hw:c'.w=c.w) (r:pR c p x):pR c' p x:=by
 cases x with
 |box cs=>
  obtain⟨h1,⟨⟨arr,t,h2,h3⟩,h4⟩⟩:=r
  exact⟨h1,⟨arr,t,by rw[hw];exact h2,h3⟩,Qf h hw h4⟩
 |arr g sz es=>
  obtain⟨h1,h2,h3,h4,⟨arr,t,h5,h6⟩,h7,h8,h9⟩:=r
  exact⟨h1,h2,h3,h4,⟨arr,t,by rw[hw];exact h5,h6⟩,h7,Wx h hw h8,fun arr t fz e=>h9 arr t fz (by rw[←hw];exact e)⟩
 |map es=>
  obtain⟨h1,bn,clock,h2,hwf,h3⟩:=r
  exact⟨h1,bn,clock,by rw[hw];exact h2,hwf,Xf h h3⟩
 |tD g sz es=>cases h
 |it cur left=>cases h
theorem YJ {z:Z} {σ σ':Heap} {r:AV} {v:Value} {w':World} {E':List Pl} (e2:∀b,z.X b→b<z.w.heap.size) (hh:iG (ctx z z.w z.E cM) σ) (hv:A.Ap r=true) (hb:σ'.all A.IK=true)
  (k2:Out ⟨z.w,[],fun _=>False,z.nm⟩ w' E') (k3:iG (ctx ⟨z.w,[],fun _=>False,z.nm⟩ w' E' cM) σ') (k4:ak (ctx ⟨z.w,[],fun _=>False,z.nm⟩ w' E' cM) r v):
  ∃jN,Out z w' jN∧iG (ctx z w' jN cM) (σ++σ')∧ak (ctx z w' jN cM) (A.zf σ.length r) v:=by
 have hlen:z.E.length=σ.length:=hh.len
 have hlen':E'.length=σ'.length:=k3.len
 have hst:∀b,b<z.w.heap.size→w'.heap[b]? =z.w.heap[b]? :=fun b hb=>k2.stay b hb (fun p hp=>by cases hp)
 have hlt:∀p∈z.E,p.b<z.w.heap.size:=fun p hp=>hh.lt hp
 have hfr:∀p∈E',z.w.heap.size≤p.b:=fun p hp=>by
  rcases k2.fresh p hp with k|⟨q,hq,_⟩
  ·exact k
  ·cases hq
 have hx:Ext (ctx z z.w z.E cM) (ctx z w' (z.E++E') cM):=by
  refine⟨k2.size,fun b hb hn=>⟨hst b hb,?_⟩,fun i p hp=>⟨p,?_,.inl rfl⟩,rfl⟩
  ·rintro(k|⟨p,hp,k⟩|⟨i,k⟩)
   ·exact hn (.inl k)
   ·rcases List.mem_append.1 hp with hp|hp
    ·exact hn (.inr (.inl ⟨p,hp,k⟩))
    ·have:=hfr p hp;simp only[ctx]at hb;omega
   ·cases k
  ·simp only[ctx]at hp ⊢
   rw[List.getElem?_append_left (List.getElem?_eq_some_iff.1 hp).1];exact hp
 have key:∀(i:Nat) (p:Pl),(z.E++E')[i]? =some p→(i<z.E.length∧z.E[i]? =some p)∨(z.E.length≤i∧E'[i-z.E.length]? =some p):=fun i p hp=>by
  by_cases hi:i<z.E.length
  ·rw[List.getElem?_append_left hi]at hp;exact .inl ⟨hi,hp⟩
  ·rw[List.getElem?_append_right (by omega)]at hp;exact .inr ⟨by omega,hp⟩
 refine⟨z.E++E',⟨k2.os,k2.tape,k2.output,k2.size,fun b hb _=>hst b hb,fun i p hp=>?_,fun i p hp=>⟨p,?_,.inl rfl⟩,e2,hlt⟩,⟨by simp [ctx,hlen,hlen'],fun i j p q hp hq e=>?_,fun i p x hp cG=>?_⟩,ahd hlen.symm hv k4⟩
 ·rcases key i p hp with⟨_,k⟩|⟨_,k⟩
  ·exact .inr ⟨p,k,rfl⟩
  ·exact .inl (hfr p (List.mem_of_getElem? k))
 ·rw[List.getElem?_append_left (List.getElem?_eq_some_iff.1 hp).1];exact hp
 ·simp only[ctx]at hp hq
  rcases key i p hp with⟨i1,k⟩|⟨i1,k⟩<;>rcases key j q hq with⟨j1,m⟩|⟨j1,m⟩
  ·exact hh.inj i j p q k m e
  ·have:=hlt p (List.mem_of_getElem? k);have:=hfr q (List.mem_of_getElem? m);omega
  ·have:=hlt q (List.mem_of_getElem? m);have:=hfr p (List.mem_of_getElem? k);omega
  ·have:=k3.inj _ _ p q k m e;omega
 ·simp only[ctx]at hp
  rcases key i p hp with⟨i1,k⟩|⟨i1,k⟩
  ·rw[List.getElem?_append_left (by omega)]at cG
   exact(hh.blk i p x k cG).mono hx (hst _ (hlt p (List.mem_of_getElem? k)))
  ·rw[List.getElem?_append_right (by omega),←hlen]at cG
   exact agy (c:=ctx ⟨z.w,[],fun _=>False,z.nm⟩ w' E' cM) (List.all_eq_true.1 hb x (List.mem_of_getElem? cG)) rfl (k3.blk _ p x k cG)
theorem nA.CR {args args':List AV} {σ σ':Heap} {r:AV} (h:nA P nm f args' [] r σ') (ha:A.eG σ 0 8 args=some args') (hv:A.Ap r=true) (hb:σ'.all A.IK=true):nA P nm f args σ (A.zf σ.length r) (σ++σ'):=by
 have hX:∀(z:Z) b,¬(ctx ⟨z.w,[],fun _=>False,z.nm⟩ z.w [] cM).X b:=by
  rintro z b (k|⟨p,hp,_⟩|⟨i,k⟩)
  ·exact k.elim
  ·cases hp
  ·cases k
 have tv:∀(z:Z),iG (ctx z z.w z.E cM) σ→xg (ctx z z.w z.E cM) (ctx ⟨z.w,[],fun _=>False,z.nm⟩ z.w [] cM) σ 0:=fun z hh=>
  ⟨rfl,rfl,fun b k=>(hX z b k).elim,fun id p k=>absurd k (Nat.not_lt_zero _),hh,fun id p _ _=>hX z _⟩
 have h0:∀(z:Z),iG (ctx ⟨z.w,[],fun _=>False,z.nm⟩ z.w [] cM) []:=fun z=>by
  refine⟨rfl,fun i j p q hp=>?_,fun i p x hp=>?_⟩
  ·simp [ctx]at hp
  ·simp [ctx]at hp
 rcases h with⟨g,h1,h2⟩|h2
 ·refine .inl ⟨g,h1,fun z vs e1 e2 hh e4=>?_⟩
  have ha':aJ (ctx ⟨z.w,[],fun _=>False,z.nm⟩ z.w [] cM) args' vs.toList:=F3 (tv z hh) 8 (fun av cS v _ e r=>yU (tv z hh) 8 _ _ _ e r) _ _ _ ha e4
  refine(h2 ⟨z.w,[],fun _=>False,z.nm⟩ vs e1 (fun b k=>k.elim) (h0 z) ha').mono ?_
  rintro e w' ⟨v,E',k1,k2,k3,k4⟩
  obtain⟨jN,q1,q2,q3⟩:=YJ e2 hh hv hb k2 k3 k4
  exact⟨v,jN,k1,q1,q2,q3⟩
 ·refine .inr fun z vs e1 e2 hh e4=>?_
  have ha':aJ (ctx ⟨z.w,[],fun _=>False,z.nm⟩ z.w [] cM) args' vs.toList:=F3 (tv z hh) 8 (fun av cS v _ e r=>yU (tv z hh) 8 _ _ _ e r) _ _ _ ha e4
  obtain⟨v,w',E',k1,k2,k3,k4⟩:=h2 ⟨z.w,[],fun _=>False,z.nm⟩ vs e1 (fun b k=>k.elim) (h0 z) ha'
  obtain⟨jN,q1,q2,q3⟩:=YJ e2 hh hv hb k2 k3 k4
  exact⟨v,w',jN,k1,q1,q2,q3⟩
theorem Zs {z:Z} {w':World} {E':List Pl} {σ σ1 σ':Heap} {x r:AV} {v:Value} (hh:iG (ctx z z.w z.E cM) σ) (hlt:∀b,z.X b→b<z.w.heap.size) (ho:Out z w' E') (hr:iG (ctx z w' E' cM) σ1) (rv:ak (ctx z w' E' cM) x v) (k3:A.fin σ x σ1=some (r,σ')):
  ∃jN,Out z w' jN∧iG (ctx z w' jN cM) σ'∧ak (ctx z w' jN cM) r v:=by
 unfold A.fin at k3
 split at k3
 ·rename_i he
  simp only[Option.some.injEq,Prod.mk.injEq]at k3
  obtain⟨rfl,rfl⟩:=k3
  exact⟨E',ho,by rw[←he];exact hr,rv⟩
 ·split at k3
  ·rename_i he
   obtain⟨r',k6,k7⟩:=Option.map_eq_some_iff.1 k3
   simp only[Prod.mk.injEq]at k7
   obtain⟨rfl,rfl⟩:=k7
   have hlen:=hr.len
   simp only[ctx]at hlen
   have hzl:z.E.length=σ.length:=hh.len
   have hle2:σ.length≤σ1.length:=by
    have:=congrArg List.length he
    simp at this;omega
   have rF:∀(id:Nat) (p:Pl),id<σ.length→E'[id]? =some p→(E'.take σ.length)[id]? =some p:=fun id p hlt' hp=>by rw[List.getElem?_take_of_lt hlt'];exact hp
   have qd:∀(id:Nat) (p:Pl),(E'.take σ.length)[id]? =some p→id<σ.length∧E'[id]? =some p:=fun id p hp=>by
    rw[List.getElem?_take]at hp
    split at hp
    ·exact⟨by assumption,hp⟩
    ·cases hp
   have tv:xg (ctx z w' E' cM) (ctx z w' (E'.take σ.length) cM) σ1 σ.length:=by
    refine⟨rfl,rfl,fun b k=>?_,rF,hr,fun id p hge hp k=>?_⟩
    ·rcases k with k|⟨p,hp,k⟩|⟨i,k⟩
     ·exact .inl k
     ·exact .inr (.inl ⟨p,List.mem_of_mem_take hp,k⟩)
     ·cases k
    ·rcases k with k|⟨q,hq,k⟩|⟨i,k⟩
     ·have hb:=hlt _ k
      rcases ho.fresh' id p hp with e|⟨q,hq,_⟩
      ·omega
      ·rw[List.getElem?_eq_none (by omega)]at hq;cases hq
     ·obtain⟨j,hj,rfl⟩:=List.mem_iff_getElem.1 hq
      obtain⟨h1,h2⟩:=qd j _ (List.getElem?_eq_getElem hj)
      have:=hr.inj j id _ p h2 hp k
      omega
     ·cases k
   have heq:∀(id:Nat),id<σ.length→σ[id]? =σ1[id]? :=fun id hlt'=>by
    have h1:(List.take σ.length σ1)[id]? =σ1[id]? :=List.getElem?_take_of_lt hlt'
    rw[he]at h1;exact h1
   have held:xT (ctx z z.w z.E cM) (ctx z w' E' cM) (ctx z w' (E'.take σ.length) cM):=
    ⟨rfl,rfl,tv.X,fun id p0 p e0 e1=>rF id p (by have:=(List.getElem?_eq_some_iff.1 e0).1;simp only[ctx]at this;omega) e1⟩
   refine⟨E'.take σ.length,?_,?_,yU tv 8 _ _ _ k6 rv⟩
   ·have o:=ho
    exact⟨o.os,o.tape,o.output,o.size,o.stay,fun i p hp=>o.fresh' i p (qd i p hp).2,fun i p hp=>by
     obtain⟨p',m1,m2⟩:=o.env i p hp
     exact⟨p',rF i p' (by have:=(List.getElem?_eq_some_iff.1 hp).1;omega) m1,m2⟩,o.lt,o.mine⟩
   ·refine⟨by simp only[ctx,List.length_take];omega,fun i j p q hp hq e=>hr.inj i j p q (qd i p hp).2 (qd j q hq).2 e,fun i p x hp hx=>?_⟩
    obtain⟨hi,hp2⟩:=qd i p hp
    have eT:z.E[i]? =some z.E[i]:=List.getElem?_eq_getElem (by omega)
    exact Mk held (hh.blk i _ x eT hx) (hr.blk i p x hp2 (by rw[←heq i hi];exact hx))
  ·cases k3
theorem Sound.jr {m:List AV→Heap→Option (AV×Heap)} (h:Sound P nm f m) (sh:Sh) (hs:sh.ok=true):Sound P nm f (A.jr sh m):=by
 intro args σ r σ' e
 unfold A.jr at e
 obtain⟨⟨x,σ1⟩,e1,e2⟩:=Option.bind_eq_some_iff.1 e
 obtain⟨⟨y,σ2⟩,e3,e4⟩:=Option.map_eq_some_iff.1 e2
 simp only[Prod.mk.injEq]at e4
 obtain⟨rfl,rfl⟩:=e4
 rcases h _ _ _ _ e1 with⟨g,h1,h2⟩|h2
 ·refine .inl ⟨g,h1,fun z vs k1 k2 hh k4=>?_⟩
  refine(h2 z vs k1 k2 hh k4).mono ?_
  rintro e w' ⟨v,E',q1,q2,q3,q4⟩
  obtain⟨jN,p1,p2,p3⟩:=Zs hh k2 q2 q3 q4 e3
  exact⟨v,jN,q1,p1,p2,DJ _ _ _ hs p3⟩
 ·refine .inr fun z vs k1 k2 hh k4=>?_
  obtain⟨v,w',E',q1,q2,q3,q4⟩:=h2 z vs k1 k2 hh k4
  obtain⟨jN,p1,p2,p3⟩:=Zs hh k2 q2 q3 q4 e3
  exact⟨v,w',jN,q1,p1,p2,DJ _ _ _ hs p3⟩
theorem Sound.wrap {r:List AV→Heap→Option (AV×Heap)} (h:Sound P nm f r) (ro:Bool) (eS:List Sh) (fH:Sh) (hi:Sh.fE eS=true) (ho:fH.ok=true):Sound P nm f (A.wrap ro eS fH r):=by
 intro args σ v σ' e
 unfold A.wrap at e
 cases hc:(ro&&args.any A.own)
 ·rw[hc]at e
  simp only[cond_false]at e
  obtain⟨q,e1,e2⟩:=Option.map_eq_some_iff.1 e
  injection e2 with e2 e3
  subst e2 e3
  exact(h _ _ _ _ e1).conv (fun c vs k=>IB _ _ _ hi k) (fun c v k=>DJ _ _ _ ho k)
 ·rw[hc]at e
  simp only[cond_true]at e
  obtain⟨args',e1,e2⟩:=Option.bind_eq_some_iff.1 e
  obtain⟨q,e3,e4⟩:=Option.bind_eq_some_iff.1 e2
  obtain⟨q1,q2⟩:=q
  simp only at e4
  cases hs:(A.Ap (A.nn fH q1)&&q2.all A.IK)
  ·rw[hs]at e4;cases e4
  ·rw[hs]at e4
   simp only[cond_true,Option.some.injEq,Prod.mk.injEq]at e4
   obtain⟨rfl,rfl⟩:=e4
   simp only[Bool.and_eq_true]at hs
   exact((h _ _ _ _ e3).conv (args:=args') (fun c vs k=>IB _ _ _ hi k) (fun c v k=>DJ _ _ _ ho k)).CR e1 hs.1 hs.2
end
theorem dB.of {X:Fx} {t:List (FuncId×(List AV→Heap→Option (AV×Heap)))} (hc:X.call=A.tab (fun _ _=>none) t) (ht:∀p∈t,Sound X.P X.nm p.1 p.2) (hd:∀f,Sound X.P X.nm f (X.dyn (X.nm.getD f 0))):dB X:=by
 refine⟨fun f args σ r σ' h=>?_,fun f=>hd f⟩
 rw[hc]at h
 clear hc
 induction t with
 |nil=>cases h
 |cons p t ih=>
  obtain⟨m,x⟩:=p
  simp only[A.tab]at h
  cases hm:(f==m)
  ·rw[hm]at h;exact ih (fun p hp=>ht p (List.mem_cons_of_mem _ hp)) h
  ·rw[hm]at h
   have:f=m:=by simpa using hm
   subst this
   exact ht (f,x) (List.mem_cons_self) _ _ _ _ h
theorem Sound.none {P:Program} {nm:List Nat} {f:FuncId}:Sound P nm f (fun _ _=>Option.none):=fun _ _ _ _ h=>by cases h
theorem aC.nil {P:Program} {nm:List Nat}:∀p∈([]:List (FuncId×(List AV→Heap→Option (AV×Heap)))),Sound P nm p.1 p.2:=fun _ h=>by cases h
theorem aC.cons {P:Program} {nm:List Nat} {f:FuncId} {m:List AV→Heap→Option (AV×Heap)} {l:List (FuncId×(List AV→Heap→Option (AV×Heap)))} (h:Sound P nm f m) (t:∀p∈l,Sound P nm p.1 p.2):∀p∈(f,m)::l,Sound P nm p.1 p.2:=
 fun p hp=>by rcases List.mem_cons.1 hp with rfl|hp;exact h;exact t p hp
theorem gL.nil {P:Program} {nm:List Nat}:∀p∈([]:List (Nat×(List AV→Heap→Option (AV×Heap)))),∀f,nm.getD f 0=p.1→Sound P nm f p.2:=fun _ h=>by cases h
theorem gL.cons {P:Program} {nm:List Nat} {k:Nat} {m:List AV→Heap→Option (AV×Heap)} {l:List (Nat×(List AV→Heap→Option (AV×Heap)))} (h:∀f,nm.getD f 0=k→Sound P nm f m) (t:∀p∈l,∀f,nm.getD f 0=p.1→Sound P nm f p.2):∀p∈(k,m)::l,∀f,nm.getD f 0=p.1→Sound P nm f p.2:=
 fun p hp=>by rcases List.mem_cons.1 hp with rfl|hp;exact h;exact t p hp
theorem oO {P:Program} {nm:List Nat} {t:List (Nat×(List AV→Heap→Option (AV×Heap)))} (ht:∀p∈t,∀f,nm.getD f 0=p.1→Sound P nm f p.2) (f:FuncId):Sound P nm f (A.tab (fun _ _=>Option.none) t (nm.getD f 0)):=by
 induction t with
 |nil=>exact Sound.none
 |cons p t ih=>
  obtain⟨k,x⟩:=p
  simp only[A.tab]
  cases hm:(nm.getD f 0==k)
  ·exact ih (fun p hp=>ht p (List.mem_cons_of_mem _ hp))
  ·exact ht (k,x) List.mem_cons_self f (by simpa using hm)
theorem aay {nm:List Nat} {k g:Nat} (h:(nm.zipIdx.filter fun p=>p.1==k)=[(k,g)]) (hk:(0==k)=false) {f:Nat} (hf:nm.getD f 0=k):f=g:=by
 have hlt:f<nm.length:=by
  rcases Nat.lt_or_ge f nm.length with e|e
  ·exact e
  ·simp only[List.getD,List.getElem?_eq_none e,Option.getD_none]at hf;subst hf;simp at hk
 have:(k,f)∈nm.zipIdx.filter fun p=>p.1==k:=by
  refine List.mem_filter.2 ⟨List.mem_iff_getElem?.2 ⟨f,?_⟩,by simp⟩
  simp only[List.getD]at hf
  rw[List.getElem?_eq_getElem hlt]at hf
  simp [List.getElem?_eq_getElem hlt,←hf]
 rw[h]at this
 simpa using this
theorem mL {P:Program} {nm:List Nat} {k g:Nat} {m:List AV→Heap→Option (AV×Heap)} (hs:Sound P nm g m) (h:(nm.zipIdx.filter fun p=>p.1==k)=[(k,g)]) (hk:(0==k)=false):∀f,nm.getD f 0=k→Sound P nm f m:=
 fun f hf=>by have e:=aay h hk hf;subst e;exact hs
def fuel (F:(Nat→List AV→Heap→Option (AV×Heap))→List (Nat×(List AV→Heap→Option (AV×Heap)))):Nat→Nat→List AV→Heap→Option (AV×Heap)
 |0,_=>fun _ _=>none
 |n+1,k=>A.tab (fun _ _=>none) (F (fuel F n)) k
namespace A
def dH (f:AV→Heap→Option (AV×Heap)):List AV→Heap→Option (AV×Heap)
 |[x0],σ=>f x0 σ
 |_,_=>none
def bQ (f:AV→AV→Heap→Option (AV×Heap)):List AV→Heap→Option (AV×Heap)
 |[x0,x1],σ=>f x0 x1 σ
 |_,_=>none
def ko (f:AV→AV→AV→Heap→Option (AV×Heap)):List AV→Heap→Option (AV×Heap)
 |[x0,x1,x2],σ=>f x0 x1 x2 σ
 |_,_=>none
def vV (f:AV→AV→AV→AV→Heap→Option (AV×Heap)):List AV→Heap→Option (AV×Heap)
 |[x0,x1,x2,x3],σ=>f x0 x1 x2 x3 σ
 |_,_=>none
def Bh (f:AV→AV→AV→AV→AV→Heap→Option (AV×Heap)):List AV→Heap→Option (AV×Heap)
 |[x0,x1,x2,x3,x4],σ=>f x0 x1 x2 x3 x4 σ
 |_,_=>none
def En (f:AV→AV→AV→AV→AV→AV→Heap→Option (AV×Heap)):List AV→Heap→Option (AV×Heap)
 |[x0,x1,x2,x3,x4,x5],σ=>f x0 x1 x2 x3 x4 x5 σ
 |_,_=>none
def Ub (f:AV→AV→AV→AV→AV→AV→AV→Heap→Option (AV×Heap)):List AV→Heap→Option (AV×Heap)
 |[x0,x1,x2,x3,x4,x5,x6],σ=>f x0 x1 x2 x3 x4 x5 x6 σ
 |_,_=>none
end A
section
variable {X : Fx} {f : FuncId} {fn : Func} {bL : mR}
theorem Sound.xK {m:AV→Heap→Option (AV×Heap)} (keep:qU) (hkeep:keep.Ok) (hs:dB X) (hf:X.P.funcs[f]? =some fn) (hc:∀cO w,(callFunc f cO).run X.P w=.ok (.enter f cO) w) (he:∀(x0:AV) (σ:Heap),rj X keep bL fn [x0] σ=m x0 σ):Sound X.P X.nm f (A.dH m):=by
 intro args σ r σ' h
 unfold A.dH at h
 split at h
 ·exact Ds hs hkeep hf hc ((he _ _).trans h)
 ·cases h
theorem Sound.nW {m:AV→AV→Heap→Option (AV×Heap)} (keep:qU) (hkeep:keep.Ok) (hs:dB X) (hf:X.P.funcs[f]? =some fn) (hc:∀cO w,(callFunc f cO).run X.P w=.ok (.enter f cO) w) (he:∀(x0 x1:AV) (σ:Heap),rj X keep bL fn [x0,x1] σ=m x0 x1 σ):Sound X.P X.nm f (A.bQ m):=by
 intro args σ r σ' h
 unfold A.bQ at h
 split at h
 ·exact Ds hs hkeep hf hc ((he _ _ _).trans h)
 ·cases h
theorem Sound.GY {m:AV→AV→AV→Heap→Option (AV×Heap)} (keep:qU) (hkeep:keep.Ok) (hs:dB X) (hf:X.P.funcs[f]? =some fn) (hc:∀cO w,(callFunc f cO).run X.P w=.ok (.enter f cO) w) (he:∀(x0 x1 x2:AV) (σ:Heap),rj X keep bL fn [x0,x1,x2] σ=m x0 x1 x2 σ):Sound X.P X.nm f (A.ko m):=by
 intro args σ r σ' h
 unfold A.ko at h
 split at h
 ·exact Ds hs hkeep hf hc ((he _ _ _ _).trans h)
 ·cases h
theorem Sound.ab5 {m:AV→AV→AV→AV→Heap→Option (AV×Heap)} (keep:qU) (hkeep:keep.Ok) (hs:dB X) (hf:X.P.funcs[f]? =some fn) (hc:∀cO w,(callFunc f cO).run X.P w=.ok (.enter f cO) w) (he:∀(x0 x1 x2 x3:AV) (σ:Heap),rj X keep bL fn [x0,x1,x2,x3] σ=m x0 x1 x2 x3 σ):Sound X.P X.nm f (A.vV m):=by
 intro args σ r σ' h
 unfold A.vV at h
 split at h
 ·exact Ds hs hkeep hf hc ((he _ _ _ _ _).trans h)
 ·cases h
theorem Sound.ab6 {m:AV→AV→AV→AV→AV→Heap→Option (AV×Heap)} (keep:qU) (hkeep:keep.Ok) (hs:dB X) (hf:X.P.funcs[f]? =some fn) (hc:∀cO w,(callFunc f cO).run X.P w=.ok (.enter f cO) w) (he:∀(x0 x1 x2 x3 x4:AV) (σ:Heap),rj X keep bL fn [x0,x1,x2,x3,x4] σ=m x0 x1 x2 x3 x4 σ):Sound X.P X.nm f (A.Bh m):=by
 intro args σ r σ' h
 unfold A.Bh at h
 split at h
 ·exact Ds hs hkeep hf hc ((he _ _ _ _ _ _).trans h)
 ·cases h
theorem Sound.ab7 {m:AV→AV→AV→AV→AV→AV→Heap→Option (AV×Heap)} (keep:qU) (hkeep:keep.Ok) (hs:dB X) (hf:X.P.funcs[f]? =some fn) (hc:∀cO w,(callFunc f cO).run X.P w=.ok (.enter f cO) w) (he:∀(x0 x1 x2 x3 x4 x5:AV) (σ:Heap),rj X keep bL fn [x0,x1,x2,x3,x4,x5] σ=m x0 x1 x2 x3 x4 x5 σ):Sound X.P X.nm f (A.En m):=by
 intro args σ r σ' h
 unfold A.En at h
 split at h
 ·exact Ds hs hkeep hf hc ((he _ _ _ _ _ _ _).trans h)
 ·cases h
theorem Sound.ape {m:AV→AV→AV→AV→AV→AV→AV→Heap→Option (AV×Heap)} (keep:qU) (hkeep:keep.Ok) (hs:dB X) (hf:X.P.funcs[f]? =some fn) (hc:∀cO w,(callFunc f cO).run X.P w=.ok (.enter f cO) w) (he:∀(x0 x1 x2 x3 x4 x5 x6:AV) (σ:Heap),rj X keep bL fn [x0,x1,x2,x3,x4,x5,x6] σ=m x0 x1 x2 x3 x4 x5 x6 σ):Sound X.P X.nm f (A.Ub m):=by
 intro args σ r σ' h
 unfold A.Ub at h
 split at h
 ·exact Ds hs hkeep hf hc ((he _ _ _ _ _ _ _ _).trans h)
 ·cases h
end
end
abbrev tK:List Sh:=[.k,.k,.k,.k,.k,.k,.k,(.s 2),.k,.k,(.s 8)]
abbrev CV:List Sh:=[(.s 10),.k,.k,.k,(.s 3),(.s 4),(.s 3),(.s 2),(.s 3),(.s 2),.k,(.s 5)]
abbrev oV:List Sh:=[.k,.k,.k,.k,.k,.k,(.s 3)]
abbrev Cw:List Sh:=[(.a [(.s 3),(.s 4),(.s 3),(.s 2),(.s 3)])]
abbrev DQ:Sh:=(.a [.k,.k,.k,.k,.k,.k,(.s 2)])
section
set_option maxRecDepth 100000
noncomputable def aG:List Nat:=[0,0,0,435,434,420,409,425,69,433,333,336,416,14,345,13,344,408,403,413,417,63,1,66,67,68,429,432,144,335,70,129,151,337,338,155,415,16,126,405,407,355,339,340,412,411,348,62,65,64,427,428,431,430,139,143,330,331,332,334,193,181,180,128,127,154,152,353,352,158,354,341,414,15,346,404,406,347,318,3,343,410,351,350,18,59,60,61,71,73,2,138,142,153,0,0,178,203,0,297,140,342,205,349,17,58,72,0,125,141,176,177,0,258,0,286,288,0,292,293,294,295,296,256,257,0,287,262,0,291,290,289,0,0,0,0,0,0,0,0,0,0,0,0,0,0,0,0]
section
variable {l : List (FuncId × (List AV → Heap → Option (AV × Heap)))} {f : FuncId} {fn : Func} {ro : Bool} {eS : List Sh} {fH : Sh}
noncomputable def EE (l:List (FuncId×(List AV→Heap→Option (AV×Heap)))) (L:List Nat) (n:Nat):Fx:=⟨Tryz.prog,aG,A.tab (fun _ _=>none) l,fun _ _ _=>none,L,[],n,[]⟩
theorem q1 {m:AV→Heap→Option (AV×Heap)} (L:List Nat) (n:Nat) (bL:mR) (h:∀p∈l,Sound Tryz.prog aG p.1 p.2) (hf:Tryz.prog.funcs[f]? =some fn) (hc:∀cO w,(callFunc f cO).run Tryz.prog w=.ok (.enter f cO) w) (he:∀(x0:AV) (σ:Heap),rj (EE l L n) .F bL fn [x0] σ=m x0 σ) (hi:Sh.fE eS=true) (ho:fH.ok=true):Sound Tryz.prog aG f (A.wrap ro eS fH (A.dH m)):=Sound.wrap (Sound.xK .F trivial (dB.of rfl h fun _=>Sound.none) hf hc he) _ _ _ hi ho
theorem q2 {m:AV→AV→Heap→Option (AV×Heap)} (L:List Nat) (n:Nat) (bL:mR) (h:∀p∈l,Sound Tryz.prog aG p.1 p.2) (hf:Tryz.prog.funcs[f]? =some fn) (hc:∀cO w,(callFunc f cO).run Tryz.prog w=.ok (.enter f cO) w) (he:∀(x0 x1:AV) (σ:Heap),rj (EE l L n) .F bL fn [x0,x1] σ=m x0 x1 σ) (hi:Sh.fE eS=true) (ho:fH.ok=true):Sound Tryz.prog aG f (A.wrap ro eS fH (A.bQ m)):=Sound.wrap (Sound.nW .F trivial (dB.of rfl h fun _=>Sound.none) hf hc he) _ _ _ hi ho
theorem q3 {m:AV→AV→AV→Heap→Option (AV×Heap)} (L:List Nat) (n:Nat) (bL:mR) (h:∀p∈l,Sound Tryz.prog aG p.1 p.2) (hf:Tryz.prog.funcs[f]? =some fn) (hc:∀cO w,(callFunc f cO).run Tryz.prog w=.ok (.enter f cO) w) (he:∀(x0 x1 x2:AV) (σ:Heap),rj (EE l L n) .F bL fn [x0,x1,x2] σ=m x0 x1 x2 σ) (hi:Sh.fE eS=true) (ho:fH.ok=true):Sound Tryz.prog aG f (A.wrap ro eS fH (A.ko m)):=Sound.wrap (Sound.GY .F trivial (dB.of rfl h fun _=>Sound.none) hf hc he) _ _ _ hi ho
theorem q4 {m:AV→AV→AV→AV→Heap→Option (AV×Heap)} (L:List Nat) (n:Nat) (bL:mR) (h:∀p∈l,Sound Tryz.prog aG p.1 p.2) (hf:Tryz.prog.funcs[f]? =some fn) (hc:∀cO w,(callFunc f cO).run Tryz.prog w=.ok (.enter f cO) w) (he:∀(x0 x1 x2 x3:AV) (σ:Heap),rj (EE l L n) .F bL fn [x0,x1,x2,x3] σ=m x0 x1 x2 x3 σ) (hi:Sh.fE eS=true) (ho:fH.ok=true):Sound Tryz.prog aG f (A.wrap ro eS fH (A.vV m)):=Sound.wrap (Sound.ab5 .F trivial (dB.of rfl h fun _=>Sound.none) hf hc he) _ _ _ hi ho
theorem q5 {m:AV→AV→AV→AV→AV→Heap→Option (AV×Heap)} (L:List Nat) (n:Nat) (bL:mR) (h:∀p∈l,Sound Tryz.prog aG p.1 p.2) (hf:Tryz.prog.funcs[f]? =some fn) (hc:∀cO w,(callFunc f cO).run Tryz.prog w=.ok (.enter f cO) w) (he:∀(x0 x1 x2 x3 x4:AV) (σ:Heap),rj (EE l L n) .F bL fn [x0,x1,x2,x3,x4] σ=m x0 x1 x2 x3 x4 σ) (hi:Sh.fE eS=true) (ho:fH.ok=true):Sound Tryz.prog aG f (A.wrap ro eS fH (A.Bh m)):=Sound.wrap (Sound.ab6 .F trivial (dB.of rfl h fun _=>Sound.none) hf hc he) _ _ _ hi ho
theorem q6 {m:AV→AV→AV→AV→AV→AV→Heap→Option (AV×Heap)} (L:List Nat) (n:Nat) (bL:mR) (h:∀p∈l,Sound Tryz.prog aG p.1 p.2) (hf:Tryz.prog.funcs[f]? =some fn) (hc:∀cO w,(callFunc f cO).run Tryz.prog w=.ok (.enter f cO) w) (he:∀(x0 x1 x2 x3 x4 x5:AV) (σ:Heap),rj (EE l L n) .F bL fn [x0,x1,x2,x3,x4,x5] σ=m x0 x1 x2 x3 x4 x5 σ) (hi:Sh.fE eS=true) (ho:fH.ok=true):Sound Tryz.prog aG f (A.wrap ro eS fH (A.En m)):=Sound.wrap (Sound.ab7 .F trivial (dB.of rfl h fun _=>Sound.none) hf hc he) _ _ _ hi ho
theorem q7 {m:AV→AV→AV→AV→AV→AV→AV→Heap→Option (AV×Heap)} (L:List Nat) (n:Nat) (bL:mR) (h:∀p∈l,Sound Tryz.prog aG p.1 p.2) (hf:Tryz.prog.funcs[f]? =some fn) (hc:∀cO w,(callFunc f cO).run Tryz.prog w=.ok (.enter f cO) w) (he:∀(x0 x1 x2 x3 x4 x5 x6:AV) (σ:Heap),rj (EE l L n) .F bL fn [x0,x1,x2,x3,x4,x5,x6] σ=m x0 x1 x2 x3 x4 x5 x6 σ) (hi:Sh.fE eS=true) (ho:fH.ok=true):Sound Tryz.prog aG f (A.wrap ro eS fH (A.Ub m)):=Sound.wrap (Sound.ape .F trivial (dB.of rfl h fun _=>Sound.none) hf hc he) _ _ _ hi ho
end
end
def HV:List AV→Heap→Option (AV×Heap):=A.bQ fun a b σ=>match a,b with
 |.int .u64 x,.int .u64 y=>if 0≤x∧x<18446744073709551616∧0≤y∧y<18446744073709551616 then some (.aF [.int .u64 ((x.toNat*y.toNat / 18446744073709551616:Nat):Int),.int .u64 ((x.toNat*y.toNat % 18446744073709551616:Nat):Int)],σ)else none
 |_,_=>none
def FF:List AV→Heap→Option (AV×Heap):=A.ko fun a b c σ=>match a,b,c with
 |.int .u64 x,.int .u64 y,.int .u64 c=>if 0≤x∧x<18446744073709551616∧0≤y∧y<18446744073709551616∧0≤c∧c≤1 then some (.aF [.int .u64 (((x.toNat+y.toNat+c.toNat) % 18446744073709551616:Nat):Int),.int .u64 (((x.toNat+y.toNat+c.toNat) / 18446744073709551616:Nat):Int)],σ)else none
 |_,_,_=>none
section
set_option maxRecDepth 100000
noncomputable def Qz (a0:AV) (σ:Heap):Option (AV×Heap):=
 (A.CQ a0).bind fun x1=>
 (A.loop (fun v2 s3=>
   (A.lss (v2.getD 1 AV.undef) x1).bind fun x5=>
   A.cond x5 (
    (A.tH a0 (v2.getD 1 AV.undef)).bind fun x6=>
    (A.geq x6 (AV.int .u8 97)).bind fun x7=>
    (A.guard x7 true (some x6) an).bind fun x8=>
    (A.guard x7 true (A.leq x8 (AV.int .u8 122)) an).bind fun x9=>
    (A.pick x7 x9 aI).bind fun bE=>
    (A.guard bE false (some x6) an).bind fun cg=>
    (A.guard bE false (A.geq cg (AV.int .u8 48)) an).bind fun ck=>
    (A.guard bE false (some ck) an).bind fun dh=>
    (A.guard dh true (some x6) an).bind fun cN=>
    (A.guard dh true (A.leq cN (AV.int .u8 57)) an).bind fun dF=>
    (A.guard bE false (A.pick dh dF aI) an).bind fun cB=>
    (A.pick bE cK cB).bind fun cQ=>
    (A.guard cQ false (some x6) an).bind fun bF=>
    (A.guard cQ false (A.eql .i bF (AV.int .u8 45)) an).bind fun bX=>
    (A.pick cQ cK bX).bind fun cR=>
    (A.not cR).bind fun cr=>
    A.cond cr (
     some (AX.ret,[aI,(v2.getD 1 AV.undef)],s3)) (
     (A.add (v2.getD 1 AV.undef) aH).bind fun cZ=>
     some (AX.normal,[(v2.getD 0 AV.undef),cZ],s3))) (
    some (AX.exit 0,[(v2.getD 0 AV.undef),(v2.getD 1 AV.undef)],s3))) [aI,ah] σ).bind fun nL=>
 bif nL.1==AX.exit 0 then(
  (A.neq .z a0 bg).bind fun x24=>
  A.fin σ x24 nL.2.2)else
 bif nL.1==AX.ret then(
  A.fin σ (nL.2.1.getD 0 AV.undef) nL.2.2)else
 none
noncomputable def Qo:List AV→Heap→Option (AV×Heap):=A.wrap true [] .k (A.dH Qz)
noncomputable def Qa (a0:AV) (σ:Heap):Option (AV×Heap):=
 (Qo [a0] σ).bind fun r1=>
 (A.guard r1.1 true (some a0) an).bind fun x2=>
 (A.guard r1.1 true (A.CQ x2) an).bind fun x3=>
 (A.guard r1.1 true (A.leq x3 (AV.int .i64 20)) an).bind fun x4=>
 (A.pick r1.1 x4 aI).bind fun x5=>
 (A.guard x5 true (some a0) an).bind fun x6=>
 (A.guard x5 true (A.tH x6 ah) an).bind fun x7=>
 (A.guard x5 true (A.geq x7 (AV.int .u8 97)) an).bind fun x8=>
 (A.pick x5 x8 aI).bind fun x9=>
 (A.guard x9 true (some a0) an).bind fun bE=>
 (A.guard x9 true (A.tH bE ah) an).bind fun cg=>
 (A.guard x9 true (A.leq cg (AV.int .u8 122)) an).bind fun ck=>
 (A.pick x9 ck aI).bind fun dh=>
 A.fin σ dh r1.2
noncomputable def FJ:List AV→Heap→Option (AV×Heap):=A.wrap true [] .k (A.dH Qa)
noncomputable def PK (a0 a1 a2:AV) (σ:Heap):Option (AV×Heap):=
 (A.geq a0 a1).bind fun x1=>
 (A.guard x1 true (some a0) an).bind fun x2=>
 (A.guard x1 true (some a2) an).bind fun x3=>
 (A.guard x1 true (A.leq x2 x3) an).bind fun x4=>
 (A.pick x1 x4 aI).bind fun x5=>
 A.fin σ x5 σ
noncomputable def jG:List AV→Heap→Option (AV×Heap):=A.wrap true [] .k (A.ko PK)
noncomputable def Qb (a0 a1:AV) (σ:Heap):Option (AV×Heap):=
 A.cond a0 (
  A.fin σ a1 σ) (
  A.fin σ ah σ)
noncomputable def qE:List AV→Heap→Option (AV×Heap):=A.wrap true [] .k (A.bQ Qb)
noncomputable def PW (a0:AV) (σ:Heap):Option (AV×Heap):=
 (A.bK a0).bind fun x1=>
 (A.loop (fun v2 s3=>
   (A.lss (v2.getD 1 AV.undef) x1).bind fun x5=>
   A.cond x5 (
    (A.aW 1 a0 (v2.getD 1 AV.undef)).bind fun x6=>
    ((A.deref x6 s3).bind fun c7=>A.aj 0 c7).bind fun x8=>
    (A.neq .i x8 ah).bind fun x9=>
    A.cond x9 (
     some (AX.ret,[x8,(v2.getD 1 AV.undef)],s3)) (
     (A.add (v2.getD 1 AV.undef) aH).bind fun bE=>
     some (AX.normal,[(v2.getD 0 AV.undef),bE],s3))) (
    some (AX.exit 0,[(v2.getD 0 AV.undef),(v2.getD 1 AV.undef)],s3))) [ah,ah] σ).bind fun cH=>
 bif cH.1==AX.exit 0 then(
  A.fin σ ah cH.2.2)else
 bif cH.1==AX.ret then(
  A.fin σ (cH.2.1.getD 0 AV.undef) cH.2.2)else
 none
noncomputable def wI:List AV→Heap→Option (AV×Heap):=A.wrap true [(.s 1)] .k (A.dH PW)
noncomputable def PZ (a0:AV) (σ:Heap):Option (AV×Heap):=
 (A.CQ a0).bind fun x1=>
 (A.loop (fun v2 s3=>
   (A.lss (v2.getD 1 AV.undef) x1).bind fun x5=>
   A.cond x5 (
    (A.tH a0 (v2.getD 1 AV.undef)).bind fun x6=>
    (A.lss x6 (AV.int .u8 32)).bind fun x7=>
    (A.guard x7 false (some a0) an).bind fun x8=>
    (A.guard x7 false (some (v2.getD 1 AV.undef)) an).bind fun x9=>
    (A.guard x7 false (A.tH x8 x9) an).bind fun bE=>
    (A.guard x7 false (A.gtr bE (AV.int .u8 126)) an).bind fun cg=>
    (A.pick x7 cK cg).bind fun ck=>
    A.cond ck (
     some (AX.ret,[aI,(v2.getD 1 AV.undef)],s3)) (
     (A.add (v2.getD 1 AV.undef) aH).bind fun dh=>
     some (AX.normal,[(v2.getD 0 AV.undef),dh],s3))) (
    some (AX.exit 0,[(v2.getD 0 AV.undef),(v2.getD 1 AV.undef)],s3))) [aI,ah] σ).bind fun iL=>
 bif iL.1==AX.exit 0 then(
  (A.neq .z a0 bg).bind fun dF=>
  (A.guard dF true (some a0) an).bind fun cB=>
  (A.guard dF true (A.CQ cB) an).bind fun cQ=>
  (A.guard dF true (A.leq cQ (AV.int .i64 60)) an).bind fun bF=>
  (A.pick dF bF aI).bind fun bX=>
  (A.guard bX true (some a0) an).bind fun cR=>
  (A.guard bX true (A.tH cR ah) an).bind fun cr=>
  (A.guard bX true (A.neq .i cr (AV.int .u8 32)) an).bind fun cZ=>
  (A.pick bX cZ aI).bind fun eC=>
  (A.guard eC true (some a0) an).bind fun x24=>
  (A.guard eC true (some a0) an).bind fun x25=>
  (A.guard eC true (A.CQ x25) an).bind fun fK=>
  (A.guard eC true (A.sub fK aH) an).bind fun dL=>
  (A.guard eC true (A.tH x24 dL) an).bind fun x28=>
  (A.guard eC true (A.neq .i x28 (AV.int .u8 32)) an).bind fun x29=>
  (A.pick eC x29 aI).bind fun cW=>
  A.fin σ cW iL.2.2)else
 bif iL.1==AX.ret then(
  A.fin σ (iL.2.1.getD 0 AV.undef) iL.2.2)else
 none
noncomputable def Lp:List AV→Heap→Option (AV×Heap):=A.wrap true [] .k (A.dH PZ)
noncomputable def PX (a0 a1:AV) (σ:Heap):Option (AV×Heap):=
 (A.quo a0 a1).bind fun x1=>
 (A.rem a0 a1).bind fun x2=>
 (A.lss x2 ah).bind fun x3=>
 (A.cond x3 (
  (A.sub x1 aH).bind fun x5=>
  some ([x5],σ)) (
  some ([x1],σ))).bind fun r4=>
 A.fin σ (r4.1.getD 0 AV.undef) r4.2
noncomputable def PN:List AV→Heap→Option (AV×Heap):=A.wrap true [] .k (A.bQ PX)
noncomputable def PY (a0 a1:AV) (σ:Heap):Option (AV×Heap):=
 (A.mul (AV.int .i64 2) a0).bind fun x1=>
 (A.add x1 a1).bind fun x2=>
 (A.mul (AV.int .i64 2) a1).bind fun x3=>
 (PN [x2,x3] σ).bind fun r4=>
 A.fin σ r4.1 r4.2
noncomputable def PO:List AV→Heap→Option (AV×Heap):=A.wrap true [] .k (A.bQ PY)
end
section
set_option maxRecDepth 100000
noncomputable def OX (a0:AV) (σ:Heap):Option (AV×Heap):=
 (A.cells 2 a0).bind fun c1=>
 (A.aj 0 c1).bind fun x2=>
 (jG [x2,aH,(AV.int .i64 6)] σ).bind fun r3=>
 (A.not r3.1).bind fun x4=>
 A.cond x4 (
  A.fin σ (AV.int .i64 4) r3.2) (
  (A.aj 1 c1).bind fun x5=>
  (A.aj 0 c1).bind fun x6=>
  (A.neq .i x6 (AV.int .i64 6)).bind fun x7=>
  A.cond x7 (
   (A.bK x5).bind fun x8=>
   (A.gtr x8 ah).bind fun x9=>
   (qE [x9,(AV.int .i64 3)] r3.2).bind fun kN=>
   A.fin σ kN.1 kN.2) (
   (A.bK x5).bind fun cg=>
   (A.lss cg (AV.int .i64 2)).bind fun ck=>
   A.cond ck (
    A.fin σ (AV.int .i64 8) r3.2) (
    (A.bK x5).bind fun dh=>
    (A.gtr dh (AV.int .i64 20)).bind fun cN=>
    A.cond cN (
     A.fin σ (AV.int .i64 2) r3.2) (
     (A.bK x5).bind fun dF=>
     (A.loop (fun aZ lz=>
       (A.lss (aZ.getD 1 AV.undef) dF).bind fun bX=>
       A.cond bX (
        (A.aW 2 x5 (aZ.getD 1 AV.undef)).bind fun cR=>
        ((A.deref cR lz).bind fun i7=>A.ay 0 2 i7).bind fun cZ=>
        (A.cells 2 cZ).bind fun fk=>
        (A.splice 0 fk [ah,ah]).bind fun iy=>
        (A.aj 0 iy).bind fun x25=>
        (jG [x25,ah,(AV.int .i64 1000)] lz).bind fun kr=>
        (A.not kr.1).bind fun dL=>
        (A.guard dL false (A.aj 1 iy) an).bind fun x28=>
        (A.guard dL false (A.quiet (jG [x28,ah,(AV.int .i64 1000)] kr.2) kr.2) an).bind fun x29=>
        (A.guard dL false (A.not x29) an).bind fun cW=>
        (A.pick dL cK cW).bind fun x31=>
        A.cond x31 (
         some (AX.ret,[aH,(aZ.getD 1 AV.undef)],kr.2)) (
         (A.add (aZ.getD 1 AV.undef) aH).bind fun x32=>
         some (AX.normal,[(aZ.getD 0 AV.undef),x32],kr.2))) (
        some (AX.exit 0,[(aZ.getD 0 AV.undef),(aZ.getD 1 AV.undef)],lz))) [ah,ah] r3.2).bind fun wu=>
     bif wu.1==AX.exit 0 then(
      (A.aW 2 x5 ah).bind fun x34=>
      ((A.deref x34 wu.2.2).bind fun gC=>A.ay 0 2 gC).bind fun gX=>
      (A.neq (.s [0,0]) gX (AV.agg [ah,ah])).bind fun bR=>
      (A.guard bR false (some x5) an).bind fun x38=>
      (A.guard bR false (some x5) an).bind fun fu=>
      (A.guard bR false (A.bK fu) an).bind fun dm=>
      (A.guard bR false (A.sub dm aH) an).bind fun ef=>
      (A.guard bR false (A.aW 2 x38 ef) an).bind fun fP=>
      (A.guard bR false ((A.deref fP wu.2.2).bind fun qo=>A.ay 0 2 qo) an).bind fun eO=>
      (A.guard bR false ((((A.cell (AV.int .i64 1000)).bind fun v=>some [v]).bind fun Ex=>(A.splice 0 Ex [ah,ah]).bind fun Ey=>((A.cell (AV.int .i64 1000)).bind fun v=>some [v]).bind fun iz=>(A.splice 1 iz Ey).bind fun mT=>some mT).bind fun cs=>some (AV.agg cs)) an).bind fun eP=>
      (A.guard bR false (A.neq (.s [0,0]) eO eP) an).bind fun lF=>
      (A.pick bR cK lF).bind fun iN=>
      A.cond iN (
       A.fin σ (AV.int .i64 3) wu.2.2) (
       (A.loop (fun zS E7=>
         (A.bK x5).bind fun lG=>
         (A.lss (zS.getD 1 AV.undef) lG).bind fun gG=>
         A.cond gG (
          (A.aW 2 x5 (zS.getD 1 AV.undef)).bind fun kC=>
          (A.aA 0 kC).bind fun gZ=>
          ((A.deref gZ E7).bind fun Ez=>A.aj 0 Ez).bind fun gz=>
          (A.sub (zS.getD 1 AV.undef) aH).bind fun jA=>
          (A.aW 2 x5 jA).bind fun eY=>
          (A.aA 0 eY).bind fun eR=>
          ((A.deref eR E7).bind fun mV=>A.aj 0 mV).bind fun jf=>
          (A.leq gz jf).bind fun gH=>
          (A.guard gH false (some x5) an).bind fun jX=>
          (A.guard gH false (some (zS.getD 1 AV.undef)) an).bind fun gI=>
          (A.guard gH false (A.aW 2 jX gI) an).bind fun fQ=>
          (A.guard gH false (A.aA 1 fQ) an).bind fun eZ=>
          (A.guard gH false ((A.deref eZ E7).bind fun lR=>A.aj 0 lR) an).bind fun qy=>
          (A.guard gH false (some x5) an).bind fun hG=>
          (A.guard gH false (some (zS.getD 1 AV.undef)) an).bind fun iq=>
          (A.guard gH false (A.sub iq aH) an).bind fun eu=>
          (A.guard gH false (A.aW 2 hG eu) an).bind fun iD=>
          (A.guard gH false (A.aA 1 iD) an).bind fun vk=>
          (A.guard gH false ((A.deref vk E7).bind fun oh=>A.aj 0 oh) an).bind fun jF=>
          (A.guard gH false (A.lss qy jF) an).bind fun fA=>
          (A.pick gH cK fA).bind fun oC=>
          A.cond oC (
           some (AX.ret,[(AV.int .i64 7),(zS.getD 1 AV.undef)],E7)) (
           (A.add (zS.getD 1 AV.undef) aH).bind fun oD=>
           some (AX.normal,[(zS.getD 0 AV.undef),oD],E7))) (
          some (AX.exit 2,[(zS.getD 0 AV.undef),(zS.getD 1 AV.undef)],E7))) [(wu.2.1.getD 0 AV.undef),aH] wu.2.2).bind fun Kl=>
       bif Kl.1==AX.exit 2 then(
        A.fin σ ah Kl.2.2)else
       bif Kl.1==AX.ret then(
        A.fin σ (Kl.2.1.getD 0 AV.undef) Kl.2.2)else
       none))else
     bif wu.1==AX.ret then(
      A.fin σ (wu.2.1.getD 0 AV.undef) wu.2.2)else
     none))))
noncomputable def KU:List AV→Heap→Option (AV×Heap):=A.wrap true [(.a [.k,(.s 2)])] .k (A.dH OX)
noncomputable def Pk (a0:AV) (σ:Heap):Option (AV×Heap):=
 (jG [a0,ah,(AV.int .i64 65535)] σ).bind fun r1=>
 A.fin σ r1.1 r1.2
noncomputable def Pg:List AV→Heap→Option (AV×Heap):=A.wrap true [] .k (A.dH Pk)
noncomputable def Py (a0:AV) (σ:Heap):Option (AV×Heap):=
 (A.bK a0).bind fun x1=>
 (A.loop (fun v2 s3=>
   (A.lss (v2.getD 1 AV.undef) x1).bind fun x5=>
   A.cond x5 (
    (A.aW 1 a0 (v2.getD 1 AV.undef)).bind fun x6=>
    ((A.deref x6 s3).bind fun c7=>A.aj 0 c7).bind fun x8=>
    (Pg [x8] s3).bind fun r9=>
    (A.not r9.1).bind fun bE=>
    A.cond bE (
     some (AX.ret,[aH,(v2.getD 1 AV.undef)],r9.2)) (
     (A.add (v2.getD 1 AV.undef) aH).bind fun cg=>
     some (AX.normal,[(v2.getD 0 AV.undef),cg],r9.2))) (
    some (AX.exit 0,[(v2.getD 0 AV.undef),(v2.getD 1 AV.undef)],s3))) [ah,ah] σ).bind fun ga=>
 bif ga.1==AX.exit 0 then(
  A.fin σ ah ga.2.2)else
 bif ga.1==AX.ret then(
  A.fin σ (ga.2.1.getD 0 AV.undef) ga.2.2)else
 none
noncomputable def Lg:List AV→Heap→Option (AV×Heap):=A.wrap true [(.s 1)] .k (A.dH Py)
noncomputable def Px (a0:AV) (σ:Heap):Option (AV×Heap):=
 (jG [a0,ah,(AV.int .i64 36000000)] σ).bind fun r1=>
 A.fin σ r1.1 r1.2
noncomputable def Dj:List AV→Heap→Option (AV×Heap):=A.wrap true [] .k (A.dH Px)
noncomputable def O4 (a0:AV) (σ:Heap):Option (AV×Heap):=
 (A.cells 7 a0).bind fun c1=>
 (A.aj 0 c1).bind fun x2=>
 (A.aj 1 c1).bind fun x3=>
 ((((A.cell x2).bind fun v=>some [v]).bind fun c4=>(A.splice 0 c4 [ah,ah]).bind fun c5=>((A.cell x3).bind fun v=>some [v]).bind fun c6=>(A.splice 1 c6 c5).bind fun c7=>some c7).bind fun cs=>some (AV.sl 1 (chunks 1 2 cs))).bind fun x8=>
 (Lg [x8] σ).bind fun r9=>
 (A.neq .i r9.1 ah).bind fun bE=>
 A.cond bE (
  A.fin σ r9.1 r9.2) (
  (A.aj 2 c1).bind fun cg=>
  (Dj [cg] r9.2).bind fun ga=>
  (A.not ga.1).bind fun dh=>
  (A.guard dh false (A.aj 3 c1) an).bind fun cN=>
  (A.guard dh false (A.quiet (Dj [cN] ga.2) ga.2) an).bind fun dF=>
  (A.guard dh false (A.not dF) an).bind fun cB=>
  (A.pick dh cK cB).bind fun cQ=>
  (A.guard cQ false (A.aj 4 c1) an).bind fun bF=>
  (A.guard cQ false (A.quiet (Dj [bF] ga.2) ga.2) an).bind fun bX=>
  (A.guard cQ false (A.not bX) an).bind fun cR=>
  (A.pick cQ cK cR).bind fun cr=>
  (A.guard cr false (A.aj 2 c1) an).bind fun cZ=>
  (A.guard cr false (A.aj 3 c1) an).bind fun eC=>
  (A.guard cr false (A.add cZ eC) an).bind fun x24=>
  (A.guard cr false (A.aj 4 c1) an).bind fun x25=>
  (A.guard cr false (A.add x24 x25) an).bind fun fK=>
  (A.guard cr false (A.quiet (Dj [fK] ga.2) ga.2) an).bind fun dL=>
  (A.guard cr false (A.not dL) an).bind fun x28=>
  (A.pick cr cK x28).bind fun x29=>
  A.cond x29 (
   A.fin σ aH ga.2) (
   (A.ay 5 2 c1).bind fun cW=>
   (KU [cW] ga.2).bind fun Ho=>
   A.fin σ Ho.1 Ho.2))
noncomputable def O1:List AV→Heap→Option (AV×Heap):=A.wrap true [DQ] .k (A.dH O4)
noncomputable def Qy (a0:AV) (σ:Heap):Option (AV×Heap):=
 (A.conv .u64 a0).bind fun x1=>
 ((((A.cell (AV.int .u64 0)).bind fun v=>some [v]).bind fun c2=>(A.splice 0 c2 [(AV.int .u64 0),(AV.int .u64 0)]).bind fun c3=>((A.cell x1).bind fun v=>some [v]).bind fun c4=>(A.splice 1 c4 c3).bind fun c5=>some c5).bind fun cs=>some (AV.agg cs)).bind fun x6=>
 (A.cells 2 x6).bind fun c7=>
 (A.splice 0 c7 [(AV.int .u64 0),(AV.int .u64 0)]).bind fun c8=>
 (A.ay 0 2 c8).bind fun x9=>
 A.fin σ x9 σ
noncomputable def oG:List AV→Heap→Option (AV×Heap):=A.wrap true [] .k (A.dH Qy)
noncomputable def O5 (a0 a1:AV) (σ:Heap):Option (AV×Heap):=
 (A.cells 2 a0).bind fun c1=>
 (A.cells 2 a1).bind fun c2=>
 (A.aj 0 c1).bind fun x3=>
 (A.aj 0 c2).bind fun x4=>
 (A.lss x3 x4).bind fun x5=>
 (A.guard x5 false (A.aj 0 c1) an).bind fun x6=>
 (A.guard x5 false (A.aj 0 c2) an).bind fun x7=>
 (A.guard x5 false (A.eql .i x6 x7) an).bind fun x8=>
 (A.guard x5 false (some x8) an).bind fun x9=>
 (A.guard x9 true (A.aj 1 c1) an).bind fun bE=>
 (A.guard x9 true (A.aj 1 c2) an).bind fun cg=>
 (A.guard x9 true (A.lss bE cg) an).bind fun ck=>
 (A.guard x5 false (A.pick x9 ck aI) an).bind fun dh=>
 (A.pick x5 cK dh).bind fun cN=>
 A.fin σ cN σ
noncomputable def Fm:List AV→Heap→Option (AV×Heap):=A.wrap true [] .k (A.bQ O5)
noncomputable def PG (a0 a1:AV) (σ:Heap):Option (AV×Heap):=
 ((((A.cell a0).bind fun v=>some [v]).bind fun c1=>(A.splice 0 c1 [ah,ah]).bind fun c2=>((A.cell a1).bind fun v=>some [v]).bind fun c3=>(A.splice 1 c3 c2).bind fun c4=>some c4).bind fun cs=>some (AV.sl 1 (chunks 1 2 cs))).bind fun x5=>
 (Lg [x5] σ).bind fun r6=>
 (A.neq .i r6.1 ah).bind fun x7=>
 A.cond x7 (
  A.fin σ (AV.aF [ah,r6.1]) r6.2) (
  (A.mul a0 a1).bind fun x8=>
  (PO [x8,(AV.int .i64 65535)] r6.2).bind fun r9=>
  A.fin σ (AV.aF [r9.1,ah]) r9.2)
noncomputable def Dl:List AV→Heap→Option (AV×Heap):=A.wrap true [] .k (A.bQ PG)
noncomputable def OY (a0 a1:AV) (σ:Heap):Option (AV×Heap):=
 (A.cells 2 a0).bind fun c1=>
 (A.aj 1 c1).bind fun x2=>
 (A.conv .u64 a1).bind fun x3=>
 (HV [x2,x3] σ).bind fun r4=>
 (A.ext 0 r4.1).bind fun x5=>
 (A.ext 1 r4.1).bind fun x6=>
 (A.aj 0 c1).bind fun x7=>
 (A.conv .u64 a1).bind fun x8=>
 (A.mul x7 x8).bind fun x9=>
 (A.add x9 x5).bind fun bE=>
 ((((A.cell bE).bind fun v=>some [v]).bind fun fN=>(A.splice 0 fN [(AV.int .u64 0),(AV.int .u64 0)]).bind fun dX=>((A.cell x6).bind fun v=>some [v]).bind fun fV=>(A.splice 1 fV dX).bind fun i6=>some i6).bind fun cs=>some (AV.agg cs)).bind fun dF=>
 (A.cells 2 dF).bind fun jO=>
 (A.splice 0 jO [(AV.int .u64 0),(AV.int .u64 0)]).bind fun jP=>
 (A.ay 0 2 jP).bind fun bF=>
 A.fin σ bF r4.2
noncomputable def qB:List AV→Heap→Option (AV×Heap):=A.wrap true [] .k (A.bQ OY)
noncomputable def LK (a0 a1 a2:AV) (σ:Heap):Option (AV×Heap):=
 (A.cells 2 a0).bind fun c1=>
 (oG [a2] σ).bind fun r2=>
 (qB [r2.1,a2] r2.2).bind fun r3=>
 (A.cells 2 r3.1).bind fun c4=>
 (A.splice 0 c4 [(AV.int .u64 0),(AV.int .u64 0)]).bind fun c5=>
 (A.aj 0 c1).bind fun x6=>
 (A.eql .i x6 (AV.int .i64 2)).bind fun x7=>
 A.cond x7 (
  (A.quiet (oG [a1] r3.2) r3.2).bind fun x8=>
  (A.quiet (qB [x8,a1] r3.2) r3.2).bind fun x9=>
  (A.ay 0 2 c5).bind fun bE=>
  (A.cells 2 x9).bind fun fN=>
  (A.splice 0 fN [(AV.int .u64 0),(AV.int .u64 0)]).bind fun dX=>
  (A.cells 2 bE).bind fun fV=>
  (A.splice 0 fV [(AV.int .u64 0),(AV.int .u64 0)]).bind fun i6=>
  (A.ay 0 2 dX).bind fun dF=>
  (A.ay 0 2 i6).bind fun cB=>
  A.fin σ (AV.aF [dF,cB]) r3.2) (
  (A.eql .i x6 (AV.int .i64 3)).bind fun cQ=>
  A.cond cQ (
   (A.quiet (oG [a1] r3.2) r3.2).bind fun bF=>
   (A.mul (AV.int .i64 2) a2).bind fun bX=>
   (A.sub bX a1).bind fun cR=>
   (A.quiet (qB [bF,cR] r3.2) r3.2).bind fun cr=>
   (A.ay 0 2 c5).bind fun cZ=>
   (A.cells 2 cr).bind fun fk=>
   (A.splice 0 fk [(AV.int .u64 0),(AV.int .u64 0)]).bind fun iy=>
   (A.cells 2 cZ).bind fun iK=>
   (A.splice 0 iK [(AV.int .u64 0),(AV.int .u64 0)]).bind fun fW=>
   (A.ay 0 2 iy).bind fun dL=>
   (A.ay 0 2 fW).bind fun x28=>
   A.fin σ (AV.aF [dL,x28]) r3.2) (
   (A.eql .i x6 (AV.int .i64 4)).bind fun x29=>
   A.cond x29 (
    (A.quiet (oG [a1] r3.2) r3.2).bind fun cW=>
    (A.quiet (qB [cW,a1] r3.2) r3.2).bind fun x31=>
    (A.mul (AV.int .i64 3) a2).bind fun x32=>
    (A.mul (AV.int .i64 2) a1).bind fun ep=>
    (A.sub x32 ep).bind fun x34=>
    (A.quiet (qB [x31,x34] r3.2) r3.2).bind fun gy=>
    (A.ay 0 2 c5).bind fun gX=>
    (A.quiet (qB [gX,a2] r3.2) r3.2).bind fun bR=>
    (A.cells 2 gy).bind fun jS=>
    (A.splice 0 jS [(AV.int .u64 0),(AV.int .u64 0)]).bind fun lp=>
    (A.cells 2 bR).bind fun tM=>
    (A.splice 0 tM [(AV.int .u64 0),(AV.int .u64 0)]).bind fun sI=>
    (A.ay 0 2 lp).bind fun fP=>
    (A.ay 0 2 sI).bind fun fL=>
    A.fin σ (AV.aF [fP,fL]) r3.2) (
    (A.eql .i x6 (AV.int .i64 5)).bind fun eO=>
    A.cond eO (
     (A.lss a1 a2).bind fun dU=>
     A.cond dU (
      (oG [ah] r3.2).bind fun oA=>
      (oG [aH] oA.2).bind fun oB=>
      (A.cells 2 oA.1).bind fun mT=>
      (A.splice 0 mT [(AV.int .u64 0),(AV.int .u64 0)]).bind fun uO=>
      (A.cells 2 oB.1).bind fun oa=>
      (A.splice 0 oa [(AV.int .u64 0),(AV.int .u64 0)]).bind fun sJ=>
      (A.ay 0 2 uO).bind fun eD=>
      (A.ay 0 2 sJ).bind fun gP=>
      A.fin σ (AV.aF [eD,gP]) oB.2) (
      (oG [aH] r3.2).bind fun r54=>
      (oG [aH] r54.2).bind fun wv=>
      (A.cells 2 r54.1).bind fun mU=>
      (A.splice 0 mU [(AV.int .u64 0),(AV.int .u64 0)]).bind fun iA=>
      (A.cells 2 wv.1).bind fun ig=>
      (A.splice 0 ig [(AV.int .u64 0),(AV.int .u64 0)]).bind fun Ez=>
      (A.ay 0 2 iA).bind fun gz=>
      (A.ay 0 2 Ez).bind fun jA=>
      A.fin σ (AV.aF [gz,jA]) wv.2)) (
     (A.eql .i x6 (AV.int .i64 6)).bind fun eY=>
     A.cond eY (
      (A.aj 1 c1).bind fun eR=>
      (A.loop (fun v64 gu=>
        (A.add (v64.getD 2 AV.undef) (AV.int .i64 2)).bind fun jX=>
        (A.bK eR).bind fun gI=>
        (A.lss jX gI).bind fun fQ=>
        (A.guard fQ true (some a1) an).bind fun eZ=>
        (A.guard fQ true (A.mul (AV.int .i64 1000) eZ) an).bind fun mm=>
        (A.guard fQ true (some eR) an).bind fun qy=>
        (A.guard fQ true (some (v64.getD 2 AV.undef)) an).bind fun hG=>
        (A.guard fQ true (A.add hG aH) an).bind fun iq=>
        (A.guard fQ true (A.aW 2 qy iq) an).bind fun eu=>
        (A.guard fQ true (A.aA 0 eu) an).bind fun iD=>
        (A.guard fQ true ((A.deref iD gu).bind fun l7=>A.aj 0 l7) an).bind fun jg=>
        (A.guard fQ true (some a2) an).bind fun jF=>
        (A.guard fQ true (A.mul jg jF) an).bind fun fA=>
        (A.guard fQ true (A.geq mm fA) an).bind fun oC=>
        (A.pick fQ oC aI).bind fun oD=>
        A.cond oD (
         (A.add (v64.getD 2 AV.undef) aH).bind fun pK=>
         some (AX.normal,[(v64.getD 0 AV.undef),(v64.getD 1 AV.undef),pK],gu)) (
         some (AX.exit 1,[(v64.getD 0 AV.undef),(v64.getD 1 AV.undef),(v64.getD 2 AV.undef)],gu))) [(AV.lbx [(AV.int .u64 0),(AV.int .u64 0)]),(AV.lbx [(AV.int .u64 0),(AV.int .u64 0)]),ah] r3.2).bind fun C7=>
      bif C7.1==AX.exit 1 then(
       (A.aW 2 eR (C7.2.1.getD 2 AV.undef)).bind fun iE=>
       ((A.deref iE C7.2.2).bind fun xU=>A.ay 0 2 xU).bind fun mo=>
       (A.add (C7.2.1.getD 2 AV.undef) aH).bind fun iF=>
       (A.aW 2 eR iF).bind fun BK=>
       ((A.deref BK C7.2.2).bind fun l9=>A.ay 0 2 l9).bind fun x91=>
       (A.cells 2 mo).bind fun JC=>
       (A.splice 0 JC [ah,ah]).bind fun vX=>
       (A.cells 2 x91).bind fun oo=>
       (A.splice 0 oo [ah,ah]).bind fun iU=>
       (A.aj 0 iU).bind fun x96=>
       (A.aj 0 vX).bind fun yC=>
       (A.sub x96 yC).bind fun x98=>
       (A.aj 1 vX).bind fun x99=>
       (A.mul x99 x98).bind fun nX=>
       (A.mul nX a2).bind fun x101=>
       (A.aj 1 iU).bind fun x102=>
       (A.aj 1 vX).bind fun uH=>
       (A.sub x102 uH).bind fun x104=>
       (A.mul (AV.int .i64 1000) a1).bind fun uI=>
       (A.aj 0 vX).bind fun nY=>
       (A.mul nY a2).bind fun nZ=>
       (A.sub uI nZ).bind fun Ju=>
       (A.mul x104 Ju).bind fun n4=>
       (A.add x101 n4).bind fun Bc=>
       (oG [Bc] C7.2.2).bind fun abZ=>
       (A.mul (AV.int .i64 1000) x98).bind fun x112=>
       (oG [x112] abZ.2).bind fun lW=>
       (qB [lW.1,a2] lW.2).bind fun ab0=>
       (A.lb (C7.2.1.getD 0 AV.undef)).bind fun DZ=>
       (A.cells 2 abZ.1).bind fun p5=>
       (A.splice 0 p5 DZ).bind fun p6=>
       (A.lb (C7.2.1.getD 1 AV.undef)).bind fun SP=>
       (A.cells 2 ab0.1).bind fun ans=>
       (A.splice 0 ans SP).bind fun SO=>
       (A.ay 0 2 p6).bind fun xO=>
       (A.ay 0 2 SO).bind fun Jv=>
       A.fin σ (AV.aF [xO,Jv]) ab0.2)else
      none) (
      (oG [a1] r3.2).bind fun pq=>
      (oG [a2] pq.2).bind fun ab1=>
      (A.cells 2 pq.1).bind fun xq=>
      (A.splice 0 xq [(AV.int .u64 0),(AV.int .u64 0)]).bind fun sw=>
      (A.cells 2 ab1.1).bind fun qV=>
      (A.splice 0 qV [(AV.int .u64 0),(AV.int .u64 0)]).bind fun lU=>
      (A.ay 0 2 sw).bind fun mF=>
      (A.ay 0 2 lU).bind fun qj=>
      A.fin σ (AV.aF [mF,qj]) ab1.2)))))
noncomputable def Lx:List AV→Heap→Option (AV×Heap):=A.wrap true [(.a [.k,(.s 2)])] .k (A.ko LK)
noncomputable def O6 (a0 a1:AV) (σ:Heap):Option (AV×Heap):=
 (A.cells 2 a0).bind fun c1=>
 (A.cells 2 a1).bind fun c2=>
 (A.aj 1 c1).bind fun x3=>
 (A.aj 1 c2).bind fun x4=>
 (FF [x3,x4,(AV.int .u64 0)] σ).bind fun r5=>
 (A.ext 0 r5.1).bind fun x6=>
 (A.ext 1 r5.1).bind fun x7=>
 (A.aj 0 c1).bind fun x8=>
 (A.aj 0 c2).bind fun x9=>
 (FF [x8,x9,x7] r5.2).bind fun kN=>
 (A.ext 0 kN.1).bind fun cg=>
 (A.ext 1 kN.1).bind fun ck=>
 ((((A.cell cg).bind fun v=>some [v]).bind fun fV=>(A.splice 0 fV [(AV.int .u64 0),(AV.int .u64 0)]).bind fun i6=>((A.cell x6).bind fun v=>some [v]).bind fun gV=>(A.splice 1 gV i6).bind fun jO=>some jO).bind fun cs=>some (AV.agg cs)).bind fun cQ=>
 (A.cells 2 cQ).bind fun iT=>
 (A.splice 0 iT [(AV.int .u64 0),(AV.int .u64 0)]).bind fun jQ=>
 (A.ay 0 2 jQ).bind fun cR=>
 A.fin σ cR kN.2
noncomputable def KY:List AV→Heap→Option (AV×Heap):=A.wrap true [] .k (A.bQ O6)
noncomputable def Pz (a0 a1 a2 a3:AV) (σ:Heap):Option (AV×Heap):=
 (A.cells 2 a2).bind fun c1=>
 (A.cells 2 a3).bind fun c2=>
 (A.geq a1 a0).bind fun x3=>
 A.cond x3 (
  (A.sub a1 a0).bind fun x4=>
  (A.ay 0 2 c1).bind fun x5=>
  (A.mul (AV.int .i64 2) x4).bind fun x6=>
  (A.quiet (qB [x5,x6] σ) σ).bind fun x7=>
  (A.ay 0 2 c2).bind fun x8=>
  (A.quiet (KY [x7,x8] σ) σ).bind fun x9=>
  (A.cells 2 x9).bind fun dJ=>
  (A.splice 0 dJ [(AV.int .u64 0),(AV.int .u64 0)]).bind fun fN=>
  (A.loop (fun v12 sU=>
    (A.lss (v12.getD 2 AV.undef) (v12.getD 3 AV.undef)).bind fun dF=>
    A.cond dF (
     (A.add (v12.getD 2 AV.undef) (v12.getD 3 AV.undef)).bind fun cB=>
     (A.add cB aH).bind fun cQ=>
     (A.quo cQ (AV.int .i64 2)).bind fun bF=>
     ((A.lb (v12.getD 1 AV.undef)).bind fun jQ=>A.ay 0 2 jQ).bind fun cR=>
     ((A.lb (v12.getD 0 AV.undef)).bind fun i7=>A.ay 0 2 i7).bind fun cZ=>
     (A.mul (AV.int .i64 2) bF).bind fun eC=>
     (A.quiet (qB [cZ,eC] sU) sU).bind fun x24=>
     (A.quiet (Fm [cR,x24] sU) sU).bind fun x25=>
     (A.cond x25 (
      (A.sub bF aH).bind fun dL=>
      some ([(v12.getD 0 AV.undef),(v12.getD 1 AV.undef),(v12.getD 2 AV.undef),dL],sU)) (
      some ([(v12.getD 0 AV.undef),(v12.getD 1 AV.undef),bF,(v12.getD 3 AV.undef)],sU))).bind fun kr=>
     some (AX.normal,[(kr.1.getD 0 AV.undef),(kr.1.getD 1 AV.undef),(kr.1.getD 2 AV.undef),(kr.1.getD 3 AV.undef)],kr.2)) (
     some (AX.exit 0,[(v12.getD 0 AV.undef),(v12.getD 1 AV.undef),(v12.getD 2 AV.undef),(v12.getD 3 AV.undef)],sU))) [(AV.lbx c2),(AV.lbx fN),ah,x4] σ).bind fun sR=>
  bif sR.1==AX.exit 0 then(
   (A.add a0 (sR.2.1.getD 2 AV.undef)).bind fun x29=>
   A.fin σ x29 sR.2.2)else
  none) (
  (A.sub a0 a1).bind fun cW=>
  (A.ay 0 2 c1).bind fun x31=>
  (A.mul (AV.int .i64 2) cW).bind fun x32=>
  (qB [x31,x32] σ).bind fun wu=>
  (A.cells 2 wu.1).bind fun sH=>
  (A.splice 0 sH [(AV.int .u64 0),(AV.int .u64 0)]).bind fun gC=>
  (A.loop (fun je sX=>
    (A.lss (je.getD 2 AV.undef) (je.getD 3 AV.undef)).bind fun fu=>
    A.cond fu (
     (A.add (je.getD 2 AV.undef) (je.getD 3 AV.undef)).bind fun dm=>
     (A.quo dm (AV.int .i64 2)).bind fun ef=>
     ((A.lb (je.getD 0 AV.undef)).bind fun l5=>A.ay 0 2 l5).bind fun fL=>
     (A.mul (AV.int .i64 2) ef).bind fun eO=>
     (A.add eO aH).bind fun dU=>
     (A.quiet (qB [fL,dU] sX) sX).bind fun fM=>
     ((A.lb (je.getD 1 AV.undef)).bind fun iz=>A.ay 0 2 iz).bind fun iC=>
     (A.quiet (Fm [fM,iC] sX) sX).bind fun eP=>
     (A.cond eP (
      (A.add ef aH).bind fun iN=>
      some ([(je.getD 0 AV.undef),(je.getD 1 AV.undef),iN,(je.getD 3 AV.undef)],sX)) (
      some ([(je.getD 0 AV.undef),(je.getD 1 AV.undef),(je.getD 2 AV.undef),ef],sX))).bind fun cV=>
     some (AX.normal,[(cV.1.getD 0 AV.undef),(cV.1.getD 1 AV.undef),(cV.1.getD 2 AV.undef),(cV.1.getD 3 AV.undef)],cV.2)) (
     some (AX.exit 2,[(je.getD 0 AV.undef),(je.getD 1 AV.undef),(je.getD 2 AV.undef),(je.getD 3 AV.undef)],sX))) [(AV.lbx c2),(AV.lbx gC),ah,cW] wu.2).bind fun E6=>
  bif E6.1==AX.exit 2 then(
   (A.sub a0 (E6.2.1.getD 2 AV.undef)).bind fun gP=>
   A.fin σ gP E6.2.2)else
  none)
noncomputable def Pr:List AV→Heap→Option (AV×Heap):=A.wrap true [] .k (A.vV Pz)
noncomputable def WZ (a0 a1:AV) (σ:Heap):Option (AV×Heap):=
 (A.cells 7 a0).bind fun c1=>
 (A.aj 2 c1).bind fun x2=>
 (A.aj 3 c1).bind fun x3=>
 (A.add x2 x3).bind fun x4=>
 (A.aj 4 c1).bind fun x5=>
 (A.add x4 x5).bind fun x6=>
 (A.geq a1 x6).bind fun x7=>
 A.cond x7 (
  (A.aj 1 c1).bind fun x8=>
  A.fin σ x8 σ) (
  (A.leq a1 x4).bind fun x9=>
  A.cond x9 (
   (A.aj 0 c1).bind fun bE=>
   A.fin σ bE σ) (
   (A.ay 5 2 c1).bind fun cg=>
   (A.sub a1 x4).bind fun ck=>
   (A.aj 4 c1).bind fun dh=>
   (Lx [cg,ck,dh] σ).bind fun iL=>
   (A.ext 0 iL.1).bind fun dF=>
   (A.ext 1 iL.1).bind fun cB=>
   (A.cells 2 dF).bind fun jP=>
   (A.splice 0 jP [(AV.int .u64 0),(AV.int .u64 0)]).bind fun iT=>
   (A.cells 2 cB).bind fun jQ=>
   (A.splice 0 jQ [(AV.int .u64 0),(AV.int .u64 0)]).bind fun iJ=>
   (A.aj 0 c1).bind fun cr=>
   (A.aj 1 c1).bind fun cZ=>
   (A.ay 0 2 iT).bind fun eC=>
   (A.ay 0 2 iJ).bind fun x24=>
   (Pr [cr,cZ,eC,x24] iL.2).bind fun jV=>
   A.fin σ jV.1 jV.2))
noncomputable def Qn:List AV→Heap→Option (AV×Heap):=A.wrap true [DQ] .k (A.bQ WZ)
noncomputable def Qx (a0 a1:AV) (σ:Heap):Option (AV×Heap):=
 (A.cells 7 a0).bind fun c1=>
 (A.ay 0 7 c1).bind fun x2=>
 (O1 [x2] σ).bind fun r3=>
 (Dj [a1] r3.2).bind fun r4=>
 (A.not r4.1).bind fun x5=>
 (qE [x5,aH] r4.2).bind fun r6=>
 ((((A.cell r3.1).bind fun v=>some [v]).bind fun c7=>(A.splice 0 c7 [ah,ah]).bind fun c8=>((A.cell r6.1).bind fun v=>some [v]).bind fun c9=>(A.splice 1 c9 c8).bind fun dJ=>some dJ).bind fun cs=>some (AV.sl 1 (chunks 1 2 cs))).bind fun cg=>
 (wI [cg] r6.2).bind fun ga=>
 (A.neq .i ga.1 ah).bind fun dh=>
 A.cond dh (
  A.fin σ (AV.aF [ah,ga.1]) ga.2) (
  (A.ay 0 7 c1).bind fun cN=>
  (Qn [cN,a1] ga.2).bind fun pI=>
  A.fin σ (AV.aF [pI.1,ah]) pI.2)
noncomputable def Ih:List AV→Heap→Option (AV×Heap):=A.wrap true [DQ] .k (A.bQ Qx)
end
abbrev aM (n:Int):Prop:=-9223372036854775808≤n∧n≤9223372036854775807
abbrev aU:Nat:=9223372036854775807
def iI {κ:Type} [DecidableEq κ] (k:κ) (S:List κ):Bool:=S.any fun x=>decide (x=k)
theorem F7 {κ:Type} [DecidableEq κ] {k:κ} {S:List κ}:iI k S=true↔k∈S:=by
 simp only[iI,List.any_eq_true,decide_eq_true_eq]
 exact⟨fun⟨x,h,e⟩=>e▸h,fun h=>⟨k,h,rfl⟩⟩
theorem FP {κ:Type} [DecidableEq κ] {k:κ} {S:List κ}:iI k S=false↔k∉S:=by
 rw[←F7];simp
def qW (n:Int):List AV:=[.int .i64 n]
def an9 (s:ByteArray):List AV:=[.str s]
def sl {α:Type} (sz:Nat) (c:α→List AV) (l:List α):AV:=.sl sz (l.map c)
def fE {α:Type} (p:α→Prop) (l:List α):Prop:=l.length≤aU∧∀x∈l,p x
def jd (s:ByteArray):Prop:=s.size≤aU
theorem ZN (n:Int):A.aj 0 (qW n)=some (.int .i64 n):=rfl
theorem ZO (s:ByteArray):A.aj 0 (an9 s)=some (.str s):=rfl
structure lI where
 time:Int
 way:Int
deriving DecidableEq
def iu (x:lI):List AV:=[.int .i64 x.time,.int .i64 x.way]
theorem agq (x:lI):(iu x).length=2:=rfl
def ZH (x:lI):Prop:=aM x.time∧aM x.way
theorem H7 (x:lI):A.aj 0 (iu x)=some (.int .i64 x.time):=rfl
theorem H8 (x:lI):A.aj 1 (iu x)=some (.int .i64 x.way):=rfl
theorem Dx (x:lI):A.ay 0 2 (iu x)=some (.agg (iu x)):=rfl
theorem Dt (x:lI):A.cells 2 (.agg (iu x))=some (iu x):=rfl
theorem Dy (x:lI) (l:List AV) (h:l.length=2):A.splice 0 (iu x) l=some (iu x):=by
 simp [A.splice,agq,h]
structure pO where
 kind:Int
 points:(List lI)
def lJ (x:pO):List AV:=[.int .i64 x.kind,sl 2 iu x.points]
theorem agn (x:pO):(lJ x).length=2:=rfl
def akR (x:pO):Prop:=aM x.kind∧(fE ZH) x.points
theorem wJ (x:pO):A.aj 0 (lJ x)=some (.int .i64 x.kind):=rfl
theorem wK (x:pO):A.aj 1 (lJ x)=some (sl 2 iu x.points):=rfl
theorem wN (x:pO):A.ay 0 2 (lJ x)=some (.agg (lJ x)):=rfl
theorem wL (x:pO):A.cells 2 (.agg (lJ x))=some (lJ x):=rfl
theorem wO (x:pO) (l:List AV) (h:l.length=2):A.splice 0 (lJ x) l=some (lJ x):=by
 simp [A.splice,agn,h]
structure gm where
 dD:Int
 to:Int
 start:Int
 delay:Int
 time:Int
 dS:pO
def ew (x:gm):List AV:=[.int .i64 x.dD,.int .i64 x.to,.int .i64 x.start,.int .i64 x.delay,.int .i64 x.time,.int .i64 x.dS.kind,sl 2 iu x.dS.points]
theorem ahz (x:gm):(ew x).length=7:=rfl
theorem WW (x:gm):A.aj 0 (ew x)=some (.int .i64 x.dD):=rfl
theorem WX (x:gm):A.aj 1 (ew x)=some (.int .i64 x.to):=rfl
theorem LP (x:gm):A.aj 2 (ew x)=some (.int .i64 x.start):=rfl
theorem LQ (x:gm):A.aj 3 (ew x)=some (.int .i64 x.delay):=rfl
theorem Qq (x:gm):A.aj 4 (ew x)=some (.int .i64 x.time):=rfl
theorem aeo (x:gm):A.ay 5 2 (ew x)=some (.agg (lJ x.dS)):=rfl
theorem BZ (x:gm):A.ay 0 7 (ew x)=some (.agg (ew x)):=rfl
theorem Ac (x:gm):A.cells 7 (.agg (ew x))=some (ew x):=rfl
theorem It (x:gm) (l:List AV) (h:l.length=7):A.splice 0 (ew x) l=some (ew x):=by
 simp [A.splice,ahz,h]
structure ajT where
 time:Int
 level:Int
deriving DecidableEq
structure oN where
 low:Int
 high:Int
 name:ByteArray
deriving DecidableEq
def lK (x:oN):List AV:=[.int .i64 x.low,.int .i64 x.high,.str x.name]
theorem agr (x:oN):(lK x).length=3:=rfl
def RJ (x:oN):Prop:=aM x.low∧aM x.high∧jd x.name
theorem LF (x:oN):A.aj 0 (lK x)=some (.int .i64 x.low):=rfl
theorem LG (x:oN):A.aj 1 (lK x)=some (.int .i64 x.high):=rfl
theorem LH (x:oN):A.aj 2 (lK x)=some (.str x.name):=rfl
theorem Mc (x:oN):A.ay 0 3 (lK x)=some (.agg (lK x)):=rfl
theorem L2 (x:oN):A.cells 3 (.agg (lK x))=some (lK x):=rfl
theorem Mg (x:oN) (l:List AV) (h:l.length=3):A.splice 0 (lK x) l=some (lK x):=by
 simp [A.splice,agr,h]
structure cI where
 name:ByteArray
 group:Int
 jC:Int
 iZ:Int
 default:Int
 snap:Bool
 ranges:(List oN)
def bU (x:cI):List AV:=[.str x.name,.int .i64 x.group,.int .i64 x.jC,.int .i64 x.iZ,.int .i64 x.default,.bool x.snap,sl 3 lK x.ranges]
theorem agp (x:cI):(bU x).length=7:=rfl
def ZG (x:cI):Prop:=jd x.name∧aM x.group∧aM x.jC∧aM x.iZ∧aM x.default∧(fE RJ) x.ranges
theorem H6 (x:cI):A.aj 0 (bU x)=some (.str x.name):=rfl
theorem Ly (x:cI):A.aj 1 (bU x)=some (.int .i64 x.group):=rfl
theorem Lz (x:cI):A.aj 2 (bU x)=some (.int .i64 x.jC):=rfl
theorem LA (x:cI):A.aj 3 (bU x)=some (.int .i64 x.iZ):=rfl
theorem LB (x:cI):A.aj 4 (bU x)=some (.int .i64 x.default):=rfl
theorem LC (x:cI):A.aj 5 (bU x)=some (.bool x.snap):=rfl
theorem LD (x:cI):A.aj 6 (bU x)=some (sl 3 lK x.ranges):=rfl
theorem Mb (x:cI):A.ay 0 7 (bU x)=some (.agg (bU x)):=rfl
theorem L0 (x:cI):A.cells 7 (.agg (bU x))=some (bU x):=rfl
theorem Aa (x:cI) (l:List AV) (h:l.length=7):A.splice 0 (bU x) l=some (bU x):=by
 simp [A.splice,agp,h]
structure cm where
 name:ByteArray
 size:Int
 params:(List cI)
def bP (x:cm):List AV:=[.str x.name,.int .i64 x.size,sl 7 bU x.params]
theorem ae3 (x:cm):(bP x).length=3:=rfl
def L8 (x:cm):Prop:=jd x.name∧aM x.size∧(fE ZG) x.params
theorem qC (x:cm):A.aj 0 (bP x)=some (.str x.name):=rfl
theorem rM (x:cm):A.aj 1 (bP x)=some (.int .i64 x.size):=rfl
theorem qD (x:cm):A.aj 2 (bP x)=some (sl 7 bU x.params):=rfl
theorem rP (x:cm):A.ay 0 3 (bP x)=some (.agg (bP x)):=rfl
theorem rO (x:cm):A.cells 3 (.agg (bP x))=some (bP x):=rfl
theorem rQ (x:cm) (l:List AV) (h:l.length=3):A.splice 0 (bP x) l=some (bP x):=by
 simp [A.splice,ae3,h]
structure ey where
 number:Int
 profile:ByteArray
 univ:Int
 address:Int
deriving DecidableEq
def bB (x:ey):List AV:=[.int .i64 x.number,.str x.profile,.int .i64 x.univ,.int .i64 x.address]
theorem ahD (x:ey):(bB x).length=4:=rfl
def aaB (x:ey):Prop:=aM x.number∧jd x.profile∧aM x.univ∧aM x.address
theorem qF (x:ey):A.aj 0 (bB x)=some (.int .i64 x.number):=rfl
theorem qG (x:ey):A.aj 1 (bB x)=some (.str x.profile):=rfl
theorem qH (x:ey):A.aj 2 (bB x)=some (.int .i64 x.univ):=rfl
theorem qI (x:ey):A.aj 3 (bB x)=some (.int .i64 x.address):=rfl
theorem nr (x:ey):A.ay 0 4 (bB x)=some (.agg (bB x)):=rfl
theorem qJ (x:ey):A.cells 4 (.agg (bB x))=some (bB x):=rfl
theorem qK (x:ey) (l:List AV) (h:l.length=4):A.splice 0 (bB x) l=some (bB x):=by
 simp [A.splice,ahD,h]
structure dO where
 aS:(List cm)
 units:(List ey)
def eo (x:dO):List AV:=[sl 3 bP x.aS,sl 4 bB x.units]
theorem aiM (x:dO):(eo x).length=2:=rfl
def rZ (x:dO):Prop:=(fE L8) x.aS∧(fE aaB) x.units
theorem yI (x:dO):A.aj 0 (eo x)=some (sl 3 bP x.aS):=rfl
theorem yJ (x:dO):A.aj 1 (eo x)=some (sl 4 bB x.units):=rfl
theorem yW (x:dO):A.ay 0 2 (eo x)=some (.agg (eo x)):=rfl
theorem yS (x:dO):A.cells 2 (.agg (eo x))=some (eo x):=rfl
theorem yX (x:dO) (l:List AV) (h:l.length=2):A.splice 0 (eo x) l=some (eo x):=by
 simp [A.splice,aiM,h]
structure aB where
 unit:Int
 param:ByteArray
deriving DecidableEq
def aL (x:aB):List AV:=[.int .i64 x.unit,.str x.param]
theorem aiL (x:aB):(aL x).length=2:=rfl
def AH (x:aB):Prop:=aM x.unit∧jd x.param
theorem nP (x:aB):A.ay 0 2 (aL x)=some (.agg (aL x)):=rfl
theorem wS (x:aB):A.cells 2 (.agg (aL x))=some (aL x):=rfl
theorem MZ (x:aB) (l:List AV) (h:l.length=2):A.splice 0 (aL x) l=some (aL x):=by
 simp [A.splice,aiL,h]
structure yM where
 key:aB
 level:Int
deriving DecidableEq
def rR (x:yM):List AV:=[.int .i64 x.key.unit,.str x.key.param,.int .i64 x.level]
theorem ae4 (x:yM):(rR x).length=3:=rfl
def aic (x:yM):Prop:=AH x.key∧aM x.level
theorem Wy (x:yM) (l:List AV) (h:l.length=3):A.splice 0 (rR x) l=some (rR x):=by
 simp [A.splice,ae4,h]
structure kE where
 number:Int
 title:ByteArray
 kD:(List yM)
def dP (x:kE):List AV:=[.int .i64 x.number,.str x.title,sl 3 rR x.kD]
theorem afy (x:kE):(dP x).length=3:=rfl
def BY (x:kE):Prop:=aM x.number∧jd x.title∧(fE aic) x.kD
theorem Xl (x:kE) (l:List AV) (h:l.length=3):A.splice 0 (dP x) l=some (dP x):=by
 simp [A.splice,afy,h]
structure anf where
 aqb:(List Int)
 block:Int
 aqm:Int
structure mu where
 level:Int
 gh:Int
deriving DecidableEq
def vC (x:mu):List AV:=[.int .i64 x.level,.int .i64 x.gh]
def akS (x:mu):Prop:=aM x.level∧aM x.gh
structure fF where
 key:aB
 value:mu
 release:Bool
 zm:Bool
 delay:Int
 time:Int
deriving DecidableEq
def fG (x:fF):List AV:=[.int .i64 x.key.unit,.str x.key.param,.int .i64 x.value.level,.int .i64 x.value.gh,.bool x.release,.bool x.zm,.int .i64 x.delay,.int .i64 x.time]
theorem ahB (x:fF):(fG x).length=8:=rfl
def Nd (x:fF):Prop:=AH x.key∧akS x.value∧aM x.delay∧aM x.time
theorem agM (x:fF):A.aj 0 (fG x)=some (.int .i64 x.key.unit):=rfl
theorem agN (x:fF):A.aj 1 (fG x)=some (.str x.key.param):=rfl
theorem agO (x:fF):A.aj 2 (fG x)=some (.int .i64 x.value.level):=rfl
theorem agP (x:fF):A.aj 3 (fG x)=some (.int .i64 x.value.gh):=rfl
theorem agQ (x:fF):A.aj 4 (fG x)=some (.bool x.release):=rfl
theorem agR (x:fF):A.aj 5 (fG x)=some (.bool x.zm):=rfl
theorem agS (x:fF):A.aj 6 (fG x)=some (.int .i64 x.delay):=rfl
theorem agT (x:fF):A.aj 7 (fG x)=some (.int .i64 x.time):=rfl
theorem afi (x:fF):A.ay 0 2 (fG x)=some (.agg (aL x.key)):=rfl
theorem aep (x:fF):A.ay 2 2 (fG x)=some (.agg (vC x.value)):=rfl
theorem ajr (x:fF):A.ay 0 8 (fG x)=some (.agg (fG x)):=rfl
theorem aiP (x:fF):A.cells 8 (.agg (fG x))=some (fG x):=rfl
theorem MC (x:fF) (l:List AV) (h:l.length=8):A.splice 0 (fG x) l=some (fG x):=by
 simp [A.splice,ahB,h]
structure aY where
 number:Int
 title:ByteArray
 delay:Int
 up:Int
 down:Int
 other:Int
 dS:pO
 block:Bool
 follow:Int
 dr:(List fF)
def aX (x:aY):List AV:=[.int .i64 x.number,.str x.title,.int .i64 x.delay,.int .i64 x.up,.int .i64 x.down,.int .i64 x.other,.int .i64 x.dS.kind,sl 2 iu x.dS.points,.bool x.block,.int .i64 x.follow,sl 8 fG x.dr]
theorem aiJ (x:aY):(aX x).length=11:=rfl
def um (x:aY):Prop:=aM x.number∧jd x.title∧aM x.delay∧aM x.up∧aM x.down∧aM x.other∧akR x.dS∧aM x.follow∧(fE Nd) x.dr
theorem QX (x:aY):A.aj 0 (aX x)=some (.int .i64 x.number):=rfl
theorem aif (x:aY):A.aj 1 (aX x)=some (.str x.title):=rfl
theorem Ma (x:aY):A.aj 2 (aX x)=some (.int .i64 x.delay):=rfl
theorem XS (x:aY):A.aj 3 (aX x)=some (.int .i64 x.up):=rfl
theorem QY (x:aY):A.aj 4 (aX x)=some (.int .i64 x.down):=rfl
theorem QZ (x:aY):A.aj 5 (aX x)=some (.int .i64 x.other):=rfl
theorem aih (x:aY):A.aj 6 (aX x)=some (.int .i64 x.dS.kind):=rfl
theorem aii (x:aY):A.aj 7 (aX x)=some (sl 2 iu x.dS.points):=rfl
theorem aij (x:aY):A.aj 8 (aX x)=some (.bool x.block):=rfl
theorem XT (x:aY):A.aj 9 (aX x)=some (.int .i64 x.follow):=rfl
theorem WV (x:aY):A.aj 10 (aX x)=some (sl 8 fG x.dr):=rfl
theorem Lm (x:aY):A.ay 6 2 (aX x)=some (.agg (lJ x.dS)):=rfl
theorem IC (x:aY):A.ay 0 11 (aX x)=some (.agg (aX x)):=rfl
theorem Ix (x:aY):A.cells 11 (.agg (aX x))=some (aX x):=rfl
theorem IE (x:aY) (l:List AV) (h:l.length=11):A.splice 0 (aX x) l=some (aX x):=by
 simp [A.splice,aiJ,h]
structure bk where
 key:aB
 value:mu
 bZ:Int
deriving DecidableEq
def cL (x:bk):List AV:=[.int .i64 x.key.unit,.str x.key.param,.int .i64 x.value.level,.int .i64 x.value.gh,.int .i64 x.bZ]
theorem ago (x:bk):(cL x).length=5:=rfl
theorem aiv (x:bk) (l:List AV) (h:l.length=5):A.splice 0 (cL x) l=some (cL x):=by
 simp [A.splice,ago,h]
structure amt where
 unit:Int
 dD:Int
 to:Int
deriving DecidableEq
structure jl where
 number:Int
 bD:(List aY)
def dR (x:jl):List AV:=[.int .i64 x.number,sl 11 aX x.bD]
theorem ahA (x:jl):(dR x).length=2:=rfl
def al1 (x:jl):Prop:=aM x.number∧(fE um) x.bD
theorem agL (x:jl):A.aj 0 (dR x)=some (.int .i64 x.number):=rfl
theorem Qr (x:jl):A.aj 1 (dR x)=some (sl 11 aX x.bD):=rfl
theorem ajq (x:jl):A.ay 0 2 (dR x)=some (.agg (dR x)):=rfl
theorem aiO (x:jl):A.cells 2 (.agg (dR x))=some (dR x):=rfl
theorem MB (x:jl) (l:List AV) (h:l.length=2):A.splice 0 (dR x) l=some (dR x):=by
 simp [A.splice,ahA,h]
structure mq where
 number:Int
 list:Int
 priority:Int
deriving DecidableEq
def cC (x:mq):List AV:=[.int .i64 x.number,.int .i64 x.list,.int .i64 x.priority]
theorem aeK (x:mq):(cC x).length=3:=rfl
def agH (x:mq):Prop:=aM x.number∧aM x.list∧aM x.priority
theorem ael (x:mq):A.aj 0 (cC x)=some (.int .i64 x.number):=rfl
theorem aem (x:mq):A.aj 1 (cC x)=some (.int .i64 x.list):=rfl
theorem aen (x:mq):A.aj 2 (cC x)=some (.int .i64 x.priority):=rfl
theorem afj (x:mq):A.ay 0 3 (cC x)=some (.agg (cC x)):=rfl
theorem ae5 (x:mq):A.cells 3 (.agg (cC x))=some (cC x):=rfl
theorem Wa (x:mq) (l:List AV) (h:l.length=3):A.splice 0 (cC x) l=some (cC x):=by
 simp [A.splice,aeK,h]
structure gJ where
 aR:dO
 bJ:(List kE)
 lists:(List jl)
 bH:(List mq)
def bl (x:gJ):List AV:=[sl 3 bP x.aR.aS,sl 4 bB x.aR.units,sl 3 dP x.bJ,sl 2 dR x.lists,sl 3 cC x.bH]
def Aj (x:gJ):Prop:=rZ x.aR∧(fE BY) x.bJ∧(fE al1) x.lists∧(fE agH) x.bH
theorem Wu (x:gJ):A.aj 0 (bl x)=some (sl 3 bP x.aR.aS):=rfl
structure fC where
 time:Int
 kind:Int
 jL:Int
 bZ:Int
 level:Int
deriving DecidableEq
def bG (x:fC):List AV:=[.int .i64 x.time,.int .i64 x.kind,.int .i64 x.jL,.int .i64 x.bZ,.int .i64 x.level]
theorem afh (x:fC):A.aj 0 (bG x)=some (.int .i64 x.time):=rfl
theorem FQ (x:fC):A.ay 0 5 (bG x)=some (.agg (bG x)):=rfl
structure alr where
 jC:Int
 action:fC
deriving DecidableEq
structure alw where
 hours:Int
 minutes:Int
 seconds:Int
 frames:Int
deriving DecidableEq
structure abq where
 key:aB
 jH:gm
 mw:Int
 ending:Bool
structure aht where
 jL:Int
 bZ:Int
 iX:Int
 aqe:Bool
 follow:Int
 runs:(List abq)
structure Wc where
 level:Int
 hold:Int
 jH:Int
deriving DecidableEq
structure Zg where
 form:Int
 low:Int
 high:Int
 aqf:Int
 width:Int
 spread:Int
 back:Bool
 aqa:Bool
 steps:(List Wc)
structure aaT where
 time:Int
 aqc:Int
deriving DecidableEq
structure aiE where
 effect:Zg
 keys:(List aB)
 start:Int
 aqk:(List aaT)
 Hj:Int
 fin:Int
 out:Int
def La:List AV→Heap→Option (AV×Heap):=A.bQ fun a b σ=>match a,b with
 |.str a,.str b=>some (.int .i64 (Lib.compareBytes a.data.toList b.data.toList),σ)
 |_,_=>none
def qN (a b:aB):Int:=if ¬(a.unit=b.unit)then(if a.unit<b.unit then -1 else 1)else Lib.compareBytes a.param.data.toList b.param.data.toList
def uF {α:Type} [Inhabited α] (cf:α→α→Int) (l:List α):List α:=(Sort.pdq (fun x y=>decide (cf x y<0)) l.toArray 0 l.length (Lib.bitLen l.length) true true).toList
noncomputable def A.IY {α:Type} [Inhabited α] (sz:Nat) (c:α→List AV) (cf:α→α→Int) (x:AV) (σ:Heap):Option (AV×Heap):=match x with
 |.aq=>some (.aF [],σ)
 |.os id g fO off len=>match σ[id]? with
  | some (.arr g' sz' es) => open Classical in if h : (g = g' ∧ sz = sz' ∧ fO = sz ∧ off + len ≤ es.length ∧ 0 < len ∧ len < 4611686018427387904) ∧ ∃ l : List α, (es.drop off).take len = l.map c then
    some (.aF [],σ.set id (.arr g sz (es.take off++(uF cf (Classical.choose h.2)).map c++es.drop (off+len))))else none
  |_=>none
 |_=>none
noncomputable def Hx:List AV→Heap→Option (AV×Heap):=A.bQ fun x f σ=>match f with
 |.fn 297 []=>@A.IY bk ⟨⟨⟨0,⟨#[]⟩⟩,⟨0,0⟩,0⟩⟩ 5 cL (fun a b=>qN a.key b.key) x σ
 |_=>none
end Go.Proofs.YtfcnnphidnjleaaGreat
