/- Parts of the proof of PlayMastersScale, in order. -/
import Derived.Orders
import Derived.Below
import Derived.WalkKit
import Derived.Laws.StructEq
import Derived.Laws.Append
import Derived.Laws.AppendOwn
import Derived.Test.YtooknfkholjpbaaGreatRows
import Derived.KernelRfl
import Derived.Lib.Bytealg
import Derived.Sort.Defs
import Derived.Lib.BitFns
import Derived.Test.YtooknfkholjpbaaGreatKPlayMastersScale1
namespace Go.Proofs.YtooknfkholjpbaaGreat
set_option linter.unusedVariables false
set_option linter.unusedSimpArgs false
set_option linter.unusedSectionVars false
section
open Go.RowKit
section
variable {X : Fx} {z : Z} {s : AS} {a : Act} {w w' : World} {E : List Pl} {pb : Nat → Option Nat} {R : Type}
theorem tY{o:Oper}{v:Value}{w':World}{K:Act→World→Prop}{Q:Exit→Act→World→Prop}(h:(execOp a.eval o).run X.P w=.ok (.value v) w')(k:K (a.put o.dst v) w'):o.wp X.P a w K Q:=by unfold Oper.wp;rw[h,Oper.upon_value];exact k
theorem UB{o:Oper}{w':World}{K:Act→World→Prop}{Q:Exit→Act→World→Prop}(h:(execOp a.eval o).run X.P w=.ok .skip w')(k:K (a.put o.dst undef) w'):o.wp X.P a w K Q:=by unfold Oper.wp;rw[h,Oper.upon_skip];exact k
theorem St.undef(h:St X z s a w E pb)(d:Option Nat):St X z (s.put X d (.aL [])) (a.put d undef) w E pb:=
 h.put d (by simp only[an];exact⟨#[],rfl,by simp [aP]⟩)
theorem Ci(hs:eZ X)(h:St X z s a w E pb){o:Oper}{k:AS→Option R}{r:R}(hk:((iP X o s none).bind λv=>k (s.put X o.dst v))=some r) {K:Act→World→Prop} {Q:Exit→Act→World→Prop}
  (hK:∀s' a' w' E' cM,St X z s' a' w' E' cM→k s'=some r→K a' w'):o.wp X.P a w K Q:=by
 obtain⟨av,h1,h2⟩:=bN.1 hk;exact ad5 hs h (tag:=none) trivial h1 λv w' E' h3 h4=>hK _ _ _ _ _ (h3.put o.dst h4) h2
theorem apj(h:St X z s a w E pb){q str:Bool}{i:Operand}{dst:Option Nat}{ty:TypeId}{pos:String}{af:Array Edge}{g:Option (Nat×Bool)}{k:AS→Option R}{r:R}
  (hk:(bif q||str then none else A.wA (ev X s i) s.σ λv σ=>k ((s.heap σ).put X dst v))=some r) {K:Act→World→Prop} {Q:Exit→Act→World→Prop}
  (hK:∀s' a' w' E' cM,St X z s' a' w' E' cM→k s'=some r→K a' w'):Oper.wp X.P ⟨dst,.next i str,ty,pos,af,g⟩ a w K Q:=by
 cases hq:(q||str)
 ·rw[hq]at hk;simp only[bG]at hk;simp only[pK]at hq;obtain⟨rfl,rfl⟩:=hq;obtain⟨av,σ',v',w',k1,k2,k3,k4⟩:=apk (ty:=ty) h hk (gh h i);exact tY (w':=w') (by simp [execOp,k2]) (hK _ _ _ _ _ (k3.put dst k4) k1)
 ·rw[hq]at hk;cases hk
theorem aiY(hs:eZ X)(h:St X z s a w E pb){d t n:Nat}{ps:Array (Nat×Operand)}{ty:TypeId}{pos:String}{af:Array Edge}{g:Option (Nat×Bool)}{k:AS→Option R}{r:R}
  (hk:((iP X ⟨some d,.buildSlice t n ps,ty,pos,af,g⟩ s none).bind λv=>A.JN v λsz es=>k ((s.heap (s.σ++[.arr es.length sz es])).put X (some d) (.os s.σ.length es.length sz 0 es.length)))=some r) {K:Act→World→Prop} {Q:Exit→Act→World→Prop}
  (hK:∀s' a' w' E' cM,St X z s' a' w' E' cM→k s'=some r→K a' w'):Oper.wp X.P ⟨some d,.buildSlice t n ps,ty,pos,af,g⟩ a w K Q:=by
 obtain⟨v,h1,h2⟩:=bN.1 hk;unfold A.JN at h2;split at h2
 ·rename_i sz es;cases hl:(es.length==0)
  ·rw[hl]at h2;simp only[bG]at h2;have hne:0<es.length:=by simp at hl;exact List.length_pos_iff.2 hl
   obtain⟨arr,et,e1,e2,e3,e4,e5⟩:=ahz h h1;have hlen:=h.heap.len;simp only[ctx]at hlen;refine tY e1 (hK _ _ _ _ _ ((h.CD (.cells arr et) (.arr es.length sz es) ⟨w.heap.size,0,es.length,sz,arr.size⟩ rfl λhx=>?_).put (some d) (av:=.os s.σ.length es.length sz 0 es.length) ?_) h2)
   ·have hb:=(MapKept.heap_alloc w (.cells arr et)).1;exact⟨rfl,hne,rfl,e3,⟨arr,et,hb,rfl⟩,by rw[e2];simp,e4 _ hb hx,Ef hb e5⟩
   ·simp only[an];refine⟨hne,⟨w.heap.size,0,es.length,sz,arr.size⟩,by show(E++[_])[s.σ.length]? =_;rw[←hlen];exact Ey,aQ _,⟨w.heap.size,0,none⟩,es.length,rfl,aQ _,λ_=>⟨rfl,.inr (by simp),by rw[e2];simp⟩⟩
  ·rw[hl]at h2;cases h2
 ·cases h2
theorem ad1(hs:eZ X)(h:St X z s a w E pb){q:Bool}{o:Oper}{k:AS→Option R}{r:R}(hk:jg X q o s k=some r){K:Act→World→Prop}{Q:Exit→Act→World→Prop}
  (hK:∀s' a' w' E' cM,St X z s' a' w' E' cM→k s'=some r→K a' w'):o.wp X.P a w K Q:=by
 unfold jg at hk;cases hp:mz X o s none with
 |some p=>obtain⟨b,rr⟩:=p;rw[hp]at hk;simp only at hk;obtain⟨off,h1,h2⟩:=bN.1 hk;subst h1;obtain⟨n,k1,k2⟩:=ad4 h (tag:=none) trivial hp;exact tY k2 (hK _ _ _ _ _ (h.VO o.dst (λ_=>⟨n,k1,rfl⟩)) h2)
 |none=>
  rw[hp]at hk;simp only at hk;obtain⟨dst,op,ty,pos,af,g⟩:=o;cases op<;>simp only at hk<;>first|exact apj h hk hK|exact Ci hs h hk hK|skip
  case alloc t=>
   cases dst with
   |none=>cases hk
   |some d=>
    simp only at hk;cases hL:X.L.contains d
    ·rw[hL]at hk;simp only[bG]at hk;cases hO:X.O.contains d
     ·rw[hO]at hk;exact Ci hs h hk hK
     ·rw[hO]at hk;simp only[cq]at hk;split at hk
      ·rename_i cs hz;obtain⟨i,v,h1,h2,h3,h4,h5,h6⟩:=Bx (w:=w) hz (ctx z w E pb)
       have hrun:(execOp a.eval ⟨some d,.alloc t,ty,pos,af,g⟩).run X.P w=.ok (.value (.pointer (some ⟨w.heap.size,0,none⟩))) (w.alloc (.cells v.cells t)):=by simp [execOp,Instr.alloc,h3,newVar,Bu]
       have hst:=h.CD (.cells v.cells t) (.box cs) ⟨w.heap.size,0,0,0,0⟩ rfl (λhx=>by
        have hb:(w.alloc (.cells v.cells t)).heap[w.heap.size]? =some (.cells v.cells t (0,0)):=(MapKept.heap_alloc w _).1
        exact⟨rfl,⟨_,_,hb,by have:=h5.length;simpa using this.symm⟩,bL.Ca hb (aP.mono hx _ _ h5) h6 (λi hi=>by simp)⟩)
       have hlen:=h.heap.len;simp only[ctx]at hlen;refine tY hrun (hK _ _ _ _ _ (hst.put (some d) (av:=.op s.σ.length 0) ?_) hk);simp only[an];exact⟨⟨w.heap.size,0,0,0,0⟩,by show(E++[_])[s.σ.length]? =_;rw[←hlen];exact Ey,rfl,rfl⟩
      ·cases hk
    ·rw[hL]at hk;simp only[cq]at hk;split at hk
     ·rename_i cs hz;obtain⟨i,v,h1,h2,h3,h4,h5,h6⟩:=Bx (w:=w) hz (ctx z w E pb)
      have hrun:(execOp a.eval ⟨some d,.alloc t,ty,pos,af,g⟩).run X.P w=.ok (.value (.pointer (some ⟨w.heap.size,0,none⟩))) (w.alloc (.cells v.cells t)):=by simp [execOp,Instr.alloc,h3,newVar,Bu]
      obtain⟨cM,hst⟩:=h.rO d hL (vs:=v.cells.toList) t h5 h6;exact tY hrun (hK _ _ _ _ _ (by simpa using hst) hk)
     ·cases hk
  case box t x=>
   cases dst with
   |none=>cases hk
   |some d=>
    simp only at hk;cases hL:X.L.contains d
    ·rw[hL]at hk;simp only[bG]at hk;cases hO:X.O.contains d
     ·rw[hO]at hk;exact Ci hs h hk hK
     ·rw[hO]at hk;simp only[cq]at hk;obtain⟨cs,h1,h2⟩:=bN.1 hk;obtain⟨h5,h6,_,_⟩:=IL X h1 (gh h x)
      have hrun:(execOp a.eval ⟨some d,.box t x,ty,pos,af,g⟩).run X.P w=.ok (.value (.pointer (some ⟨w.heap.size,0,none⟩))) (w.alloc (.cells (a.eval x).cells t)):=by simp [execOp,Instr.box,newVar,Bu]
      have hst:=h.CD (.cells (a.eval x).cells t) (.box cs) ⟨w.heap.size,0,0,0,0⟩ rfl (λhx=>by
       have hb:(w.alloc (.cells (a.eval x).cells t)).heap[w.heap.size]? =some (.cells (a.eval x).cells t (0,0)):=(MapKept.heap_alloc w _).1
       exact⟨rfl,⟨_,_,hb,by have:=h5.length;simpa using this.symm⟩,bL.Ca hb (aP.mono hx _ _ h5) h6 (λi hi=>by simp)⟩)
      have hlen:=h.heap.len;simp only[ctx]at hlen;refine tY hrun (hK _ _ _ _ _ (hst.put (some d) (av:=.op s.σ.length 0) ?_) h2);simp only[an];exact⟨⟨w.heap.size,0,0,0,0⟩,by show(E++[_])[s.σ.length]? =_;rw[←hlen];exact Ey,rfl,rfl⟩
    ·rw[hL]at hk;simp only[cq]at hk;obtain⟨cs,h1,h2⟩:=bN.1 hk;obtain⟨h5,h6,_,_⟩:=IL X h1 (gh h x)
     have hrun:(execOp a.eval ⟨some d,.box t x,ty,pos,af,g⟩).run X.P w=.ok (.value (.pointer (some ⟨w.heap.size,0,none⟩))) (w.alloc (.cells (a.eval x).cells t)):=by simp [execOp,Instr.box,newVar,Bu]
     obtain⟨cM,hst⟩:=h.rO d hL (vs:=(a.eval x).cells.toList) t h5 h6;exact tY hrun (hK _ _ _ _ _ (by simpa using hst) h2)
  case store t x v=>
   split at hk
   ·rename_i b off hp;obtain⟨cs,h1,h2⟩:=bN.1 hk;obtain⟨new,h3,h4⟩:=bN.1 h2;obtain⟨cs',h5,h6⟩:=bN.1 h4;obtain⟨n,k1,k2,k3,k4⟩:=IW h (tag:=none) trivial hp h1;obtain⟨r1,r2,r3,d,hd⟩:=IL X h3 (gh h v);obtain⟨arr,bt,j1,j2,j3⟩:=abG k3;obtain⟨j4,j5⟩:=j2.iQ h5 r1;have hrun:=Tm (P:=X.P) (t:=t) j1 r3 (Y0 hd) r2 j5;have hst:=h.aqI k1 ⟨cs,k4⟩ (t:=bt) j4 (Jf j3 r2);refine UB (w':=_) ?_ (hK _ _ _ _ _ (hst.undef dst) h6);simp only[execOp,k2,Sem.run_bind];rw[show(Instr.storeAt t (.pointer (some ⟨n,off,none⟩)) (a.eval v)).run X.P w=_ from hrun];rfl
   ·obtain⟨new,h3,h4⟩:=bN.1 hk;obtain⟨σ',h5,h6⟩:=bN.1 h4;obtain⟨w',k1,k2⟩:=ak6 h h3 (gh h v) h5 (gh h x);refine UB (w':=w') ?_ (hK _ _ _ _ _ (k2.undef dst) h6);simp only[execOp,Sem.run_bind,k1];rfl
  case makeMap t rr=>
   cases rr with
   |some x=>cases hk
   |none=>
    simp only at hk
    have hrun:(execOp a.eval ⟨dst,.makeMap t none,ty,pos,af,g⟩).run X.P w=.ok (.value (.map (some w.heap.size))) (w.alloc (.map #[] 0)):=by simp [execOp,Instr.makeMap,newObj,Sem.run]
    have hst:=h.CD (.map #[] 0) (.map []) ⟨w.heap.size,0,0,0,0⟩ rfl (λhx=>by
     have hb:(w.alloc (.map #[] 0)).heap[w.heap.size]? =some (.map #[] 0):=(MapKept.heap_alloc w _).1
     exact⟨rfl,_,_,hb,sD.empty,rfl⟩)
    have hlen:=h.heap.len;simp only[ctx]at hlen;refine tY hrun (hK _ _ _ _ _ (hst.put dst (av:=.om s.σ.length) ?_) hk);simp only[an];exact⟨⟨w.heap.size,0,0,0,0⟩,by show(E++[_])[s.σ.length]? =_;rw[←hlen];exact Ey,rfl,rfl⟩
  case range t x=>
   split at hk
   ·rename_i kt et hd;obtain⟨es,h1,h2⟩:=bN.1 hk;obtain⟨o,k1,k2⟩:=anT h hd h1 (gh h x);have hlen:=h.heap.len;simp only[ctx]at hlen;refine tY (v:=.pointer (some ⟨w.heap.size,0,none⟩)) (w':=w.alloc o) (by simp [execOp,k1]) (hK _ _ _ _ _ (k2.put dst (av:=.op s.σ.length 0) ?_) h2);simp only[an];exact⟨⟨w.heap.size,0,0,0,0⟩,by show(E++[_])[s.σ.length]? =_;rw[←hlen];exact Ey,rfl,rfl⟩
   ·cases hk
  case buildSlice t n ps=>
   cases dst with
   |none=>exact Ci hs h hk hK
   |some d=>
    simp only at hk;cases hO:X.O.contains d
    ·rw[hO]at hk;exact Ci hs h hk hK
    ·rw[hO]at hk;simp only[cq]at hk;exact aiY hs h hk hK
  case mapUpdate t m i v=>
   split at hk
   ·rename_i kt et hd;split at hk
    ·rename_i ek he;obtain⟨σ',h1,h2⟩:=bN.1 hk;obtain⟨w',k1,k2⟩:=apg h hd he h1 (gh h m) (gh h i) (gh h v);refine UB (w':=w') ?_ (hK _ _ _ _ _ (k2.undef dst) h2);simp only[execOp,Sem.run_bind,k1];rfl
    ·cases hk
   ·cases hk
  case call c=>
   have hargs:(c.args.map a.eval).toList=c.args.toList.map a.eval:=by simp
   have re:=Jb h c.args.toList;split at hk
   ·rename_i hc;split at hk
    ·rename_i t u x y h1 h2;split at hk
     ·rename_i e e' hd hu;split at hk
      ·rename_i i hi;cases fZ:qj i
       ·rw[fZ]at hk;simp only[bG]at hk;simp only[qj,pK,beq_eq_false_iff_ne]at fZ;obtain⟨⟨z1,z2⟩,z3⟩:=fZ;cases XS:i.zero with
        |none=>rw[XS]at z3;cases z3
        |some zv=>
         rw[XS]at z3;simp only[pK,bne_eq_false_iff_eq,Bool.not_eq_false']at z3;obtain⟨z3,z4⟩:=z3;obtain⟨⟨rr,σ'⟩,h3,h4⟩:=bN.1 hk;rw[h2]at re
         have hl:∃v vy,c.args.toList.map a.eval=[v,vy]∧an (ctx z w E pb) x v∧an (ctx z w E pb) y vy:=by
          generalize c.args.toList.map a.eval=vs at *
          simp only[aP]at re;obtain⟨v,_,rfl,r1,u',_,rfl,r2,rfl⟩:=re;exact⟨v,u',rfl,r1,r2⟩
         obtain⟨v,vy,hvs,r1,r2⟩:=hl;have hone:∀x∈zv.cells.toList,ff x=true:=wD.1 z4;obtain⟨n,w',E',k1,k2,k3⟩:=alo (ty:=ty) h hd hu hi XS z3 z1 z2 hone h3 r1 r2;have h1':c.argTypes=#[t,u]:=by apply pL.1;simpa using h1
         have tM:c.args.map a.eval=#[v,vy]:=by apply pL.1;rw[hargs,hvs]
         have hrun:(execOp a.eval ⟨dst,.call c,ty,pos,af,g⟩).run X.P w=.ok (.value n) w':=by simp only[execOp,resolve,hc,Sem.run_bind,Sem.run_pure,Result.andThen_ok,invoke,builtin,tM,h1',k1]
         exact tY hrun (hK _ _ _ _ _ (k2.put dst k3) h4)
       ·rw[fZ]at hk;cases hk
      ·cases hk
     ·rename_i e kk hd hu;split at hk
      ·rename_i i zs hi hz;cases fZ:qj i
       ·rw[fZ]at hk;simp only[bG]at hk;simp only[qj,pK,beq_eq_false_iff_ne]at fZ;obtain⟨⟨z1,z2⟩,z3⟩:=fZ;obtain⟨i',zv,g1,g2,g3,g4,g5,g6⟩:=Bx (w:=w) hz (ctx z w E pb);rw[hi]at g1;injection g1 with g1;subst g1
        rw[g2]at z3;simp only[pK,bne_eq_false_iff_eq,Bool.not_eq_false']at z3;obtain⟨z3,z4⟩:=z3
        have uH:∀c,aP c zs zv.cells.toList:=λc=>by
         obtain⟨i2,v2,f1,f2,f3,f4,f5,f6⟩:=Bx (w:=w) hz c;rw[hi]at f1;injection f1 with f1;subst f1
         rw[g2]at f2;injection f2 with f2;subst f2
         exact f5
        obtain⟨⟨rr,σ'⟩,h3,h4⟩:=bN.1 hk;rw[h2]at re
        have hl:∃v vy,c.args.toList.map a.eval=[v,vy]∧an (ctx z w E pb) x v∧an (ctx z w E pb) y vy:=by
         generalize c.args.toList.map a.eval=vs at *
         simp only[aP]at re;obtain⟨v,_,rfl,r1,u',_,rfl,r2,rfl⟩:=re;exact⟨v,u',rfl,r1,r2⟩
        obtain⟨v,vy,hvs,r1,r2⟩:=hl;obtain⟨n,w',E',k1,k2,k3⟩:=ajU (ty:=ty) h hd hu hi g2 z3 z1 z2 uH g6 h3 r1 r2;have h1':c.argTypes=#[t,u]:=by apply pL.1;simpa using h1
        have tM:c.args.map a.eval=#[v,vy]:=by apply pL.1;rw[hargs,hvs]
        have hrun:(execOp a.eval ⟨dst,.call c,ty,pos,af,g⟩).run X.P w=.ok (.value n) w':=by simp only[execOp,resolve,hc,Sem.run_bind,Sem.run_pure,Result.andThen_ok,invoke,builtin,tM,h1',k1]
        exact tY hrun (hK _ _ _ _ _ (k2.put dst k3) h4)
       ·rw[fZ]at hk;cases hk
      ·cases hk
     ·cases hk
    ·cases hk
   ·rename_i hc;split at hk
    ·rename_i t u x y h1 h2;split at hk
     ·rename_i e e' hd hu;split at hk
      ·rename_i i hi;cases fZ:qj i
       ·rw[fZ]at hk;simp only[bG]at hk;simp only[qj,pK,beq_eq_false_iff_ne]at fZ;obtain⟨⟨z1,z2⟩,z3⟩:=fZ;obtain⟨⟨rr,σ'⟩,h3,h4⟩:=bN.1 hk;rw[h2]at re
        have hl:∃v vy,c.args.toList.map a.eval=[v,vy]∧an (ctx z w E pb) x v∧an (ctx z w E pb) y vy:=by
         generalize c.args.toList.map a.eval=vs at *
         simp only[aP]at re;obtain⟨v,_,rfl,r1,u',_,rfl,r2,rfl⟩:=re;exact⟨v,u',rfl,r1,r2⟩
        obtain⟨v,vy,hvs,r1,r2⟩:=hl;obtain⟨n,w',k1,k2,k3⟩:=aoC (ty:=ty) h hd hu hi z1 h3 r1 r2;have h1':c.argTypes=#[t,u]:=by apply pL.1;simpa using h1
        have tM:c.args.map a.eval=#[v,vy]:=by apply pL.1;rw[hargs,hvs]
        have hrun:(execOp a.eval ⟨dst,.call c,ty,pos,af,g⟩).run X.P w=.ok (.value n) w':=by simp only[execOp,resolve,hc,Sem.run_bind,Sem.run_pure,Result.andThen_ok,invoke,builtin,tM,h1',k1]
        exact tY hrun (hK _ _ _ _ _ (k2.put dst k3) h4)
       ·rw[fZ]at hk;cases hk
      ·cases hk
     ·cases hk
    ·cases hk
   ·rename_i hc;cases hv:iP X ⟨dst,.call c,ty,pos,af,g⟩ s none with
    |some v=>rw[hv]at hk;exact Ci hs h (by rw[hv];exact hk) hK
    |none=>
     rw[hv]at hk;simp only[A.Me]at hk;cases q
     ·simp only[bG]at hk;split at hk
      ·rename_i t x h1 h2;split at hk
       ·rename_i e hd;rw[h2]at re
        have hl:∃v,c.args.toList.map a.eval=[v]∧an (ctx z w E pb) x v:=by
         generalize c.args.toList.map a.eval=vs at *
         simp only[aP]at re;obtain⟨v,_,rfl,r1,rfl⟩:=re;exact⟨v,rfl,r1⟩
        obtain⟨v,hvs,r1⟩:=hl;obtain⟨n,σ',k1,k2,k3⟩:=aov (ty:=ty) h hd hk r1;have h1':c.argTypes=#[t]:=by apply pL.1;simpa using h1
        have tM:c.args.map a.eval=#[v]:=by apply pL.1;rw[hargs,hvs]
        have hrun:(execOp a.eval ⟨dst,.call c,ty,pos,af,g⟩).run X.P w=.ok (.value (.int .i64 (n:Int))) w:=by simp only[execOp,resolve,hc,Sem.run_bind,Sem.run_pure,Result.andThen_ok,invoke,builtin,tM,h1',k2]
        exact tY hrun (hK _ _ _ _ _ (k3.put dst (by simp [an])) k1)
       ·cases hk
      ·cases hk
     ·cases hk
   ·rename_i hc;split at hk
    ·rename_i t x h1 h2;split at hk
     ·rename_i e hd;split at hk
      ·rename_i i zs hi hz;cases fZ:qj i
       ·rw[fZ]at hk;simp only[bG]at hk;simp only[qj,pK,beq_eq_false_iff_ne]at fZ;obtain⟨⟨z1,z2⟩,z3⟩:=fZ;obtain⟨i',zv,g1,g2,g3,g4,g5,g6⟩:=Bx (w:=w) hz (ctx z w E pb);rw[hi]at g1;injection g1 with g1;subst g1
        rw[g2]at z3;simp only[pK,bne_eq_false_iff_eq,Bool.not_eq_false']at z3;obtain⟨z3,z4⟩:=z3
        have uH:∀c,aP c zs zv.cells.toList:=λc=>by
         obtain⟨i2,v2,f1,f2,f3,f4,f5,f6⟩:=Bx (w:=w) hz c;rw[hi]at f1;injection f1 with f1;subst f1
         rw[g2]at f2;injection f2 with f2;subst f2
         exact f5
        obtain⟨σ',h3,h4⟩:=bN.1 hk;rw[h2]at re
        have hl:∃v,c.args.toList.map a.eval=[v]∧an (ctx z w E pb) x v:=by
         generalize c.args.toList.map a.eval=vs at *
         simp only[aP]at re;obtain⟨v,_,rfl,r1,rfl⟩:=re;exact⟨v,rfl,r1⟩
        obtain⟨v,hvs,r1⟩:=hl;obtain⟨w',k1,k2⟩:=amU (ty:=ty) h hd (alg X.P hi g2) z3 z1 uH g6 h3 r1;have h1':c.argTypes=#[t]:=by apply pL.1;simpa using h1
        have tM:c.args.map a.eval=#[v]:=by apply pL.1;rw[hargs,hvs]
        have hrun:(execOp a.eval ⟨dst,.call c,ty,pos,af,g⟩).run X.P w=.ok (.value undef) w':=by simp only[execOp,resolve,hc,Sem.run_bind,Sem.run_pure,Result.andThen_ok,invoke,builtin,tM,h1',k1];rfl
        exact tY hrun (hK _ _ _ _ _ (k2.undef dst) h4)
       ·rw[fZ]at hk;cases hk
      ·cases hk
     ·cases hk
    ·cases hk
   ·rename_i hc;split at hk
    ·rename_i t u m key h1 h2;split at hk
     ·rename_i kt et hd;split at hk
      ·rename_i ek he;obtain⟨σ',h3,h4⟩:=bN.1 hk;rw[h2]at re
       have hl:∃v vy,c.args.toList.map a.eval=[v,vy]∧an (ctx z w E pb) m v∧an (ctx z w E pb) key vy:=by
        generalize c.args.toList.map a.eval=vs at *
        simp only[aP]at re;obtain⟨v,_,rfl,r1,u',_,rfl,r2,rfl⟩:=re;exact⟨v,u',rfl,r1,r2⟩
       obtain⟨v,vy,hvs,r1,r2⟩:=hl;obtain⟨w',k1,k2⟩:=apc (u:=u) (ty:=ty) h hd he h3 r1 r2;have h1':c.argTypes=#[t,u]:=by apply pL.1;simpa using h1
       have tM:c.args.map a.eval=#[v,vy]:=by apply pL.1;rw[hargs,hvs]
       have hrun:(execOp a.eval ⟨dst,.call c,ty,pos,af,g⟩).run X.P w=.ok (.value undef) w':=by simp only[execOp,resolve,hc,Sem.run_bind,Sem.run_pure,Result.andThen_ok,invoke,builtin,tM,h1',k1];rfl
       exact tY hrun (hK _ _ _ _ _ (k2.undef dst) h4)
      ·cases hk
     ·cases hk
    ·cases hk
   ·exact Ci hs h hk hK
   ·rename_i f hc;cases hq:(q&&!X.W.contains f)
    ·rw[hq]at hk;simp only[bG]at hk;obtain⟨⟨rr,σ'⟩,h3,h4⟩:=bN.1 hk;exact Lm h (hs.call _ _ _ _ _ h3) (by rw[hargs];exact re) (YO hc) (λv w' E' h1 h2=>hK _ _ _ _ _ (h1.put dst h2) h4)
    ·rw[hq]at hk;simp only[cq]at hk;exact Ci hs h hk hK
   ·rename_i x hnf hc;cases q
    ·simp only[bG]at hk;obtain⟨⟨rr,σ'⟩,h3,h4⟩:=bN.1 hk;have rx:=gh h x;generalize ev X s x=vx at *
     cases vx<;>simp only[A.lS]at h3<;>first|(cases h3;done)|skip
     rename_i fn0 LL;simp only[an]at rx;obtain⟨f,cs,e1,e2,e3⟩:=rx;rw[←e2]at h3;have Dy:X.dyn (X.nm.getD f 0) (c.args.toList.map (ev X s)++LL) s.σ=some (rr,σ'):=by rw[h.nm];exact h3
     exact Lm h (hs.dyn _ _ _ _ _ Dy) (vs:=c.args.map a.eval++cs) (by rw[Array.toList_append,hargs];exact re.append e3) (SE hc e1) (λv w' E' h1 h2=>hK _ _ _ _ _ (h1.put dst h2) h4)
    ·simp only[cq]at hk;exact Ci hs h hk hK
   ·cases hk
end
end
section
structure Up where
 d:Option Nat
 v:AV
 bx:Option (Nat×AV)
 new:Option xX
 Ae:Bool
 σ:Option Heap
def sS(Ae:Bool)(d:Nat)(a:Option xX):Option xX:=match rK d a with|some p=>bif Ae&&p.slot==d then none else some p|none=>none
def Up.sl(u:Up)(l:List AV):List AV:=match u.d with
 |some d=>(match u.bx with|some (b,x)=>l.set b x|none=>l).set d u.v
 |none=>(match u.bx with|some (b,x)=>l.set b x|none=>l)
def Up.A(u:Up)(A:Nat→Option xX)(t:Nat):Option xX:=match u.d with|none=>A t|some d=>bif t==d then u.new else sS u.Ae d (A t)
def Up.ap(u:Up)(s:AS):AS:=⟨u.sl s.sl,u.A s.A,u.σ.getD s.σ⟩
theorem KQ(d:Nat)(a:Option xX):sS false d a=rK d a:=by unfold sS;cases rK d a<;>rfl
theorem Tw(i:Bool)(d:Nat)(a:Option xX):sS i d a=a∨sS i d a=none:=by
 cases a with
 |none=>left;rfl
 |some p=>
  unfold sS;cases hk:rK d (some p)with
  |none=>right;rfl
  |some q=>
   simp only
   have:q=p:=by
    simp only[rK]at hk;cases ht:p.tag with
    |none=>rw[ht]at hk;simpa using hk.symm
    |some g=>
     obtain⟨g,w⟩:=g;rw[ht]at hk;simp only at hk;cases hg:(g==d)
     ·rw[hg]at hk;simpa using hk.symm
     ·rw[hg]at hk;cases hk
   subst this;cases hb:(i&&q.slot==d)
   ·left;rfl
   ·right;rfl
theorem OT(i:Bool)(d:Nat):sS i d none=none:=rfl
theorem alG(i j:Bool)(d e:Nat)(a:Option xX):sS i d (sS j e a)=sS j e (sS i d a):=by
 rcases Tw i d a with h1|h1<;>rcases Tw j e a with h2|h2
 ·rw[h2,h1,h2]
 ·rw[h2,OT,h1,h2]
 ·rw[h2,h1,OT]
 ·rw[h2,OT,h1,OT]
structure Up.aeg (x y : Up) : Prop where
 d:∀d,x.d=some d→y.d≠some d
 bx:∀b v,x.bx=some (b,v)→(∀c w,y.bx=some (c,w)→c≠b)∧y.d≠some b
 by':∀b v,y.bx=some (b,v)→(∀c w,x.bx=some (c,w)→c≠b)∧x.d≠some b
 nx:∀d,y.d=some d→sS y.Ae d x.new=x.new
 ny:∀d,x.d=some d→sS x.Ae d y.new=y.new
 σ:x.σ=none∨y.σ=none
theorem Up.comm{x y:Up}(h:x.aeg y)(s:AS):x.ap (y.ap s)=y.ap (x.ap s):=by
 obtain⟨hd,pY,hby,hnx,hny,iu⟩:=h;unfold Up.ap;congr 1
 ·show x.sl (y.sl s.sl)=y.sl (x.sl s.sl);generalize s.sl=l;obtain⟨xd,xv,xb,xn,xi,xs⟩:=x;obtain⟨yd,yv,yb,yn,yi,ys⟩:=y;simp only at hd pY hby;cases xb with
  |none=>
   cases yb with
   |none=>
    cases xd with
    |none=>cases yd<;>simp [Up.sl]
    |some dx=>cases yd with
     |none=>simp [Up.sl]
     |some dy=>simp only[Up.sl];rw[List.set_comm];intro e;exact hd dx rfl (by rw[e])
   |some bv=>
    obtain⟨b,v⟩:=bv;obtain⟨_,hb⟩:=hby b v rfl;cases xd with
    |none=>cases yd<;>simp [Up.sl]
    |some dx=>
     have hne:dx≠b:=λe=>hb (by rw[e])
     cases yd with
     |none=>simp only[Up.sl];rw[List.set_comm _ _ (λe=>hne e.symm)]
     |some dy=>
      have tK:dx≠dy:=λe=>hd dx rfl (by rw[e])
      simp only[Up.sl];rw[List.set_comm _ _ (λe=>tK e.symm),List.set_comm _ _ (λe=>hne e.symm)]
  |some bv=>
   obtain⟨b,v⟩:=bv;obtain⟨Nf,hb⟩:=pY b v rfl;cases yb with
   |none=>
    cases yd with
    |none=>cases xd<;>simp [Up.sl]
    |some dy=>
     have hne:dy≠b:=λe=>hb (by rw[e])
     cases xd with
     |none=>simp only[Up.sl];rw[List.set_comm _ _ hne]
     |some dx=>
      have tK:dx≠dy:=λe=>hd dx rfl (by rw[e])
      simp only[Up.sl];rw[List.set_comm _ _ hne,List.set_comm _ _ (λe=>tK e.symm)]
   |some cw=>
    obtain⟨c,u⟩:=cw;have hcb:c≠b:=Nf c u rfl;obtain⟨_,hc⟩:=hby c u rfl;cases xd with
    |none=>
     cases yd with
     |none=>simp only[Up.sl];rw[List.set_comm _ _ hcb]
     |some dy=>
      have hne:dy≠b:=λe=>hb (by rw[e])
      simp only[Up.sl];rw[List.set_comm _ _ hne,List.set_comm _ _ hcb]
    |some dx=>
     have hnc:dx≠c:=λe=>hc (by rw[e])
     cases yd with
     |none=>simp only[Up.sl];rw[List.set_comm _ _ hcb,List.set_comm _ _ (λe=>hnc e.symm)]
     |some dy=>
      have hne:dy≠b:=λe=>hb (by rw[e])
      have tK:dx≠dy:=λe=>hd dx rfl (by rw[e])
      simp only[Up.sl];rw[List.set_comm _ _ hne,List.set_comm _ _ (λe=>tK e.symm),List.set_comm _ _ hcb,List.set_comm _ _ (λe=>hnc e.symm)]
 ·funext t;show x.A (y.A s.A) t=y.A (x.A s.A) t;generalize s.A t=a0;unfold Up.A;cases hxd:x.d with
  |none=>cases y.d<;>rfl
  |some dx=>
   cases hyd:y.d with
   |none=>rfl
   |some dy=>
    have tK:dx≠dy:=λe=>hd dx hxd (by rw[hyd,e])
    simp only;by_cases h1:t=dx
    ·subst h1;have:(t==dy)=false:=by simpa using tK
     simp only[beq_self_eq_true,cq,this,bG];exact(hnx dy hyd).symm
    ·have h1':(t==dx)=false:=by simpa using h1
     by_cases h2:t=dy
     ·subst h2;simp only[beq_self_eq_true,cq,h1',bG];exact hny dx hxd
     ·have h2':(t==dy)=false:=by simpa using h2
      simp only[h1',h2',bG];exact alG ..
 ·rcases iu with e|e<;>simp [e]
structure RI (X : Fx) (Rt : List (Nat × Nat)) (Bt : List Nat) (s : AS) : Prop where
 l:∀t b,Rt.lookup t=some b→X.L.contains b=true
 a:∀t p,s.A t=some p→Rt.lookup t=some p.slot
 v:∀t b,Rt.lookup t=some b→X.L.contains t=false→oO (s.sl.getD t .undef)=true
 b:∀t,Bt.contains t=true→rQ (s.sl.getD t .undef)=true
def ug(σ σ':Heap):Prop:=∀(id:Nat)(cs:List AV),σ[id]? =some (aS.box cs)↔σ'[id]? =some (aS.box cs)
section
variable {R : Type} {X : Fx} {Rt : List (Nat × Nat)} {Bt : List Nat} {s s' : AS}
theorem Pm(h:RI X Rt Bt s){tag:Option (Nat×Bool)}{x:Operand}{b off:Nat}(hp:place X s tag x=some (b,off)):Cf X Rt x=some b:=by
 cases x with
 |tmp t=>
  simp only[place]at hp;simp only[Cf];cases hL:X.L.contains t
  ·rw[hL]at hp;simp only[bG]at hp ⊢;split at hp
   ·rename_i p hA;cases hc:X.L.contains p.slot
    ·rw[hc]at hp;cases hp
    ·rw[hc]at hp;simp only[cq]at hp;have ha:=h.a t p hA;split at hp
     ·simp only[Option.some.injEq,Prod.mk.injEq]at hp;rw[ha,hp.1]
     ·rename_i g hg;cases ht:(tag==some g)
      ·rw[ht]at hp;cases hp
      ·rw[ht]at hp;simp only[cq,Option.some.injEq,Prod.mk.injEq]at hp;rw[ha,hp.1]
   ·cases hp
  ·rw[hL]at hp;simp only[cq,Option.some.injEq,Prod.mk.injEq]at hp ⊢;exact hp.1
 |_=>simp [place]at hp
theorem I6(h:RI X Rt Bt s){tag:Option (Nat×Bool)}{x:Operand}{b:Nat}(hr:Cf X Rt x=some b)(hp:place X s tag x=none):oO (ev X s x)=true:=by
 cases x with
 |tmp t=>
  simp only[Cf]at hr;cases hL:X.L.contains t
  ·rw[hL]at hr;simp only[bG]at hr;simp only[ev,hL,bG];exact h.v t b hr hL
  ·simp only[place,hL,cq]at hp;cases hp
 |_=>simp [Cf]at hr
theorem abH{v:AV}{σ:Heap}(h:oO v=true):A.deref v σ=none:=by unfold oO at h;split at h<;>first|rfl|cases h
theorem alC{v:AV}{σ σ':Heap}(h:ug σ σ')(hv:rQ v=true):A.deref v σ=A.deref v σ':=by
 cases v<;>first|rfl|skip
 case op id off=>
  simp only[A.deref];cases h1:σ[id]? with
  |none=>
   cases h2:σ'[id]? with
   |none=>rfl
   |some b=>cases b<;>first|rfl|(have:=(h id _).2 h2;rw[h1]at this;cases this)
  |some b=>
   cases b with
   |box cs=>rw[(h id cs).1 h1]
   |_=>
    cases h2:σ'[id]? with
    |none=>rfl
    |some b=>cases b<;>first|rfl|(have:=(h id _).2 h2;rw[h1]at this;cases this)
 case oe id g i off=>cases hv
theorem ak5{v:AV}{new:List AV}{σ:Heap}(h:oO v=true):A.storeAt v new σ=none:=by unfold oO at h;split at h<;>first|rfl|cases h
theorem Te{pl:Nat→Option (Nat×TypeId)}:∀(ps:List (Nat×Operand))(cs:List AV),(∀p∈ps,ev X s p.2=ev X s' p.2)→rP X s pl ps cs=rP X s' pl ps cs
 |[],cs,_=>rfl
 |(i,x)::ps,cs,h=>by
  have hx:=h (i,x) (by simp);simp only at hx;simp only[rP,hx];cases pl i with
  |none=>rfl
  |some ot=>simp only;congr 1;funext new;congr 1;funext cs';exact Te ps cs' (λp hp=>h p (by simp [hp]))
theorem T7{o:Oper}{tag:Option (Nat×Bool)}(iO:∀x∈o.op.operands.toList,ev X s x=ev X s' x)(hpl:∀x,qQ o=some x→place X s tag x=place X s' tag x)(hb:∀b,rt X Rt o=some b→s.sl.getD b .undef=s'.sl.getD b .undef)
  (M7:∀x b off,qQ o=some x→place X s' tag x=some (b,off)→rt X Rt o=some b):mz X o s tag=mz X o s' tag:=by
 obtain⟨dst,op,ty,pos,af,g⟩:=o;cases op<;>simp only[mz]
 case nilCheck x=>
  rw[hpl x rfl];split
  ·rename_i b off hp;rw[hb b (M7 x b off rfl hp)]
  ·rfl
 case fieldAddr t x f=>
  rw[hpl x rfl];split
  ·rename_i b off hp;rw[hb b (M7 x b off rfl hp)]
  ·rfl
 case indexAddr t x i=>
  rw[hpl x rfl,iO i (by simp [Op.operands])];split
  ·rename_i b off hp;rw[hb b (M7 x b off rfl hp)]
  ·rfl
theorem OY{o:Oper}{tag:Option (Nat×Bool)}(iO:∀x∈o.op.operands.toList,ev X s x=ev X s' x)(hpl:∀x,qQ o=some x→place X s tag x=place X s' tag x)(hb:∀b,rt X Rt o=some b→s.sl.getD b .undef=s'.sl.getD b .undef)
  (M7:∀x b off,qQ o=some x→place X s' tag x=some (b,off)→rt X Rt o=some b) (hno:∀x b,qQ o=some x→rt X Rt o=some b→place X s' tag x=none→oO (ev X s' x)=true) (iu:yw X Rt o=true→soft Bt o=false→s.σ=s'.σ) (atq:yw X Rt o=true→soft Bt o=true→ug s.σ s'.σ) (hB:∀t,Bt.contains t=true→rQ (ev X s' (.tmp t))=true):iP X o s tag=iP X o s' tag:=by
 obtain⟨dst,op,ty,pos,af,g⟩:=o;cases op<;>simp only[iP];case move x=>rw[iO x (by simp [Op.operands])]
 case assign x=>rw[iO x (by simp [Op.operands])]
 case pick x y u=>rw[iO x (by simp [Op.operands]),iO y (by simp [Op.operands]),iO u (by simp [Op.operands])]
 case box t x=>rw[iO x (by simp [Op.operands])]
 case build t ps=>
  have hps:∀p∈ps.toList,ev X s p.2=ev X s' p.2:=λp hp=>iO p.2 (by simp only[Op.operands];simp;exact⟨p.1,by simpa using hp⟩)
  split
  ·rw[Te ps.toList _ hps]
  ·rfl
 case buildSlice t n ps=>
  have hps:∀p∈ps.toList,ev X s p.2=ev X s' p.2:=λp hp=>iO p.2 (by simp only[Op.operands];simp;exact⟨p.1,by simpa using hp⟩)
  split
  ·split
   ·rw[Te ps.toList _ hps]
   ·rfl
  ·rfl
 case load t x=>
  rw[hpl x rfl,iO x (by simp [Op.operands])];split
  ·rename_i b off hp;rw[hb b (M7 x b off rfl hp)]
  ·rename_i hp;cases hr:rt X Rt ⟨dst,.load t x,ty,pos,af,g⟩with
   |none=>
    cases Ht:soft Bt ⟨dst,.load t x,ty,pos,af,g⟩
    ·rw[iu (by simp only[yw,hr,Option.isNone_none]) Ht]
    ·rw[alC (atq (by simp only[yw,hr,Option.isNone_none]) Ht) (by
      cases x with
      |tmp u=>exact hB u Ht
      |_=>simp [soft]at Ht)]
   |some b=>rw[abH (hno x b rfl hr hp),abH (hno x b rfl hr hp)]
 case nilCheck x=>rw[iO x (by simp [Op.operands])]
 case binOp op t x y u=>rw[iO x (by simp [Op.operands]),iO y (by simp [Op.operands])]
 case unOp op t x=>rw[iO x (by simp [Op.operands])]
 case convert a b x=>rw[iO x (by simp [Op.operands])]
 case makeFunc fn first caps=>
  have:caps.toList.map (ev X s)=caps.toList.map (ev X s'):=List.map_congr_left λx hx=>iO x (by simp [Op.operands];exact .inr (by simpa using hx))
  rw[this]
 case slice t x lo hi mx=>
  have h1:lo.map (ev X s)=lo.map (ev X s'):=by cases lo with|none=>rfl|some y=>simp only[cC];rw[iO y (by simp [Op.operands])]
  have h2:hi.map (ev X s)=hi.map (ev X s'):=by cases hi with|none=>rfl|some y=>simp only[cC];rw[iO y (by simp [Op.operands])]
  rw[iO x (by simp [Op.operands]),h1,h2,iu rfl rfl];split
  ·rfl
  ·split
   ·rw[iO _ (by simp [Op.operands]),iO _ (by simp [Op.operands])]
   ·rfl
 case fieldAddr t x f=>rw[iO x (by simp [Op.operands])]
 case field t x f=>rw[iO x (by simp [Op.operands])]
 case indexAddr t x i=>rw[iO x (by simp [Op.operands]),iO i (by simp [Op.operands])]
 case index t x i=>rw[iO x (by simp [Op.operands]),iO i (by simp [Op.operands])]
 case lookup t x i ok=>rw[iO x (by simp [Op.operands]),iO i (by simp [Op.operands]),iu rfl rfl]
 case extract x i=>rw[iO x (by simp [Op.operands])]
 case entry i=>rw[iO i (by simp [Op.operands]),iu rfl rfl]
 case call c=>
  have ha:c.args.toList.map (ev X s)=c.args.toList.map (ev X s'):=List.map_congr_left λx hx=>iO x (by simp [Op.operands,Call.operands];exact .inr (by simpa using hx))
  rw[ha,iu rfl rfl];cases hc:c.callee with
  |value f=>have hf:=iO f (by simp [Op.operands,Call.operands,hc]);cases f<;>simp only[hf]
  |_=>rfl
theorem O5{σ:Heap}{b:aS}(hb:∀cs,b≠.box cs):ug σ (σ++[b]):=by
 intro id cs;by_cases h:id<σ.length
 ·rw[jk h]
 ·rw[oL (by omega),jj (by omega)];constructor
  ·intro e;cases e
  ·intro e;have:=dA e;simp at this;exact absurd this.symm (hb cs)
theorem UF{σ:Heap}{id:Nat}{b b':aS}(hb:∀cs,b≠.box cs)(hb':∀cs,b'≠.box cs)(h:σ[id]? =some b):ug σ (σ.set id b'):=by
 intro i cs;rw[lp];by_cases e:id=i
 ·subst e;rw[h];have hlt:=(bQ.1 h).1;simp only[if_true,hlt];constructor
  ·intro e;injection e with e;exact absurd e (hb cs)
  ·intro e;injection e with e;exact absurd e (hb' cs)
 ·simp [e]
theorem FU(σ:Heap):ug σ σ:=λ_ _=>Iff.rfl
theorem amM{ek:A.EK}{m k v:AV}{σ σ':Heap}(h:A.fS ek m k v σ=some σ'):ug σ σ':=by
 unfold A.fS at h;cases hk:A.lG ek k
 ·rw[hk]at h;cases h
 rw[hk]at h;simp only[cq]at h;split at h
 ·split at h
  ·rename_i es hg;obtain⟨es',_,e⟩:=eG.1 h;subst e;exact UF (λcs e=>by cases e) (λcs e=>by cases e) hg
  ·cases h
 ·cases h
theorem Zq{sz most:Nat}{x r:AV}{ys:List (List AV)}{σ σ':Heap}(h:A.wj sz most x ys σ=some (r,σ')):ug σ σ':=by
 unfold A.wj at h;split at h
 ·split at h
  ·injection h with h;injection h with _ h;subst h;exact FU _
  ·split at h
   ·injection h with h;injection h with _ h;subst h;exact O5 λcs e=>by cases e
   ·cases h
 ·split at h
  ·injection h with h;injection h with _ h;subst h;exact FU _
  ·split at h
   ·injection h with h;injection h with _ h;subst h;exact O5 λcs e=>by cases e
   ·cases h
 ·split at h
  ·rename_i hg;split at h
   ·split at h
    ·injection h with h;injection h with _ h;subst h;exact FU _
    ·split at h
     ·injection h with h;injection h with _ h;subst h;exact UF (λcs e=>by cases e) (λcs e=>by cases e) hg
     ·injection h with h;injection h with _ h;subst h;exact UF (λcs e=>by cases e) (λcs e=>by cases e) hg
   ·cases h
  ·split at h
   ·injection h with h;injection h with _ h;subst h;exact O5 λcs e=>by cases e
   ·cases h
  ·cases h
 ·cases h
theorem ajW{sz most:Nat}{x y r:AV}{σ σ':Heap}(h:A.append sz most x y σ=some (r,σ')):ug σ σ':=by unfold A.append at h;obtain⟨ys,_,h2⟩:=bN.1 h;exact Zq h2
theorem aiX{sz most:Nat}{zs:List AV}{x n r:AV}{σ σ':Heap}(h:A.Ll sz most zs x n σ=some (r,σ')):ug σ σ':=by
 unfold A.Ll at h;split at h
 ·split at h
  ·exact Zq h
  ·cases h
 ·cases h
structure Ag (X : Fx) (Rt : List (Nat × Nat)) (Bt : List Nat) (o : Oper) (ls : List Nat) (tag : Option (Nat × Bool)) (s s' : AS) : Prop where
 r1:RI X Rt Bt s
 r2:RI X Rt Bt s'
 iO:∀t∈ls,X.L.contains t=false→s.sl.getD t .undef=s'.sl.getD t .undef
 pl:∀t,qQ o=some (.tmp t)→place X s tag (.tmp t)=place X s' tag (.tmp t)
 bx:∀b,rt X Rt o=some b→s.sl.getD b .undef=s'.sl.getD b .undef
 σ:yw X Rt o=true→soft Bt o=false→s.σ=s'.σ
 NK:yw X Rt o=true→soft Bt o=true→ug s.σ s'.σ
theorem anQ{tag:Option (Nat×Bool)}{x:Operand}{b off:Nat}(h:place X s tag x=some (b,off)):X.L.contains b=true:=by
 cases x with
 |tmp t=>
  simp only[place]at h;cases hL:X.L.contains t
  ·rw[hL]at h;simp only[bG]at h;split at h
   ·rename_i p hA;cases hp:X.L.contains p.slot
    ·rw[hp]at h;cases h
    ·rw[hp]at h;simp only[cq]at h;split at h
     ·simp only[Option.some.injEq,Prod.mk.injEq]at h;rw[←h.1];exact hp
     ·rename_i g hg;cases ht:(tag==some g)
      ·rw[ht]at h;cases h
      ·rw[ht]at h;simp only[cq,Option.some.injEq,Prod.mk.injEq]at h;rw[←h.1];exact hp
   ·cases h
  ·rw[hL]at h;simp only[cq,Option.some.injEq,Prod.mk.injEq]at h;rw[←h.1];exact hL
 |_=>simp [place]at h
theorem Ag.EV{o:Oper}{ls:List Nat}{tag:Option (Nat×Bool)}(h:Ag X Rt Bt o ls tag s s')(hls:∀t,Operand.tmp t∈o.op.operands.toList→t∈ls):∀x∈o.op.operands.toList,ev X s x=ev X s' x:=by
 intro x hx;cases x with
 |tmp t=>
  simp only[ev];cases hL:X.L.contains t
  ·simp only[bG];exact h.iO t (hls t hx) hL
  ·rfl
 |_=>rfl
theorem RI.J4(h:RI X Rt Bt s):∀t,Bt.contains t=true→rQ (ev X s (.tmp t))=true:=by
 intro t ht;simp only[ev];cases X.L.contains t
 ·exact h.b t ht
 ·rfl
theorem Ag.DC{o:Oper}{ls:List Nat}{tag:Option (Nat×Bool)}(h:Ag X Rt Bt o ls tag s s'):∀x,qQ o=some x→place X s tag x=place X s' tag x:=by
 intro x hx;cases x with
 |tmp t=>exact h.pl t hx
 |_=>rfl
def Fa(X:Fx)(d:Option Nat)(v:AV):Up:=⟨d,match d with|some d=>bif X.L.contains d then .undef else v|none=>.undef,none,none,false,none⟩
def NI(X:Fx)(d:Option Nat)(σ:Heap)(v:AV):Up:=⟨d,match d with|some d=>bif X.L.contains d then .undef else v|none=>.undef,none,none,false,some σ⟩
def Rv(X:Fx)(d:Option Nat)(b:Nat)(cs:List AV):Up:=⟨d,match d with|some d=>bif X.L.contains d then .undef else .aL []|none=>.undef,some (b,.lbx cs),none,false,none⟩
def Ru(d:Nat)(cs:List AV):Up:=⟨some d,.lbx cs,none,none,true,none⟩
def Kl(X:Fx)(d:Option Nat)(b off:Nat)(tag:Option (Nat×Bool)):Up:=
 ⟨d,.undef,none,match d with|some d=>(bif X.L.contains d||!Nat.blt d X.n then none else match tag with|some (g,w)=>(bif g==d then none else some ⟨b,off,some (g,w)⟩)|none=>some ⟨b,off,none⟩)|none=>none,false,none⟩
theorem Jp(d:Option Nat)(v:AV)(s:AS):s.put X d v=(Fa X d v).ap s:=by
 cases d with
 |none=>rfl
 |some d=>simp only[AS.put,Up.ap,Fa,Up.sl,Option.getD_none];congr 1;funext t;simp only[Up.A,KQ]
theorem mS(d:Option Nat)(v:AV)(σ:Heap)(s:AS):(s.heap σ).put X d v=(NI X d σ v).ap s:=by
 cases d with
 |none=>rfl
 |some d=>simp only[AS.put,AS.heap,Up.ap,NI,Up.sl,Option.getD_some];congr 1;funext t;simp only[Up.A,KQ]
theorem aaC(d:Option Nat)(b:Nat)(cs:List AV)(s:AS):(⟨s.sl.set b (.lbx cs),s.A,s.σ⟩:AS).put X d (.aL [])=(Rv X d b cs).ap s:=by
 cases d with
 |none=>rfl
 |some d=>simp only[AS.put,Up.ap,Rv,Up.sl,Option.getD_none];congr 1;funext t;simp only[Up.A,KQ]
theorem OX(d:Nat)(cs:List AV)(s:AS):s.rO d cs=(Ru d cs).ap s:=by simp only[AS.rO,Up.ap,Ru,Up.sl,Option.getD_none];congr 1
theorem PX(d:Option Nat)(b off:Nat)(tag:Option (Nat×Bool))(s:AS):s.pU X d b off tag=(Kl X d b off tag).ap s:=by
 cases d with
 |none=>rfl
 |some d=>simp only[AS.pU,Up.ap,Kl,Up.sl,Option.getD_none];congr 1;funext t;simp only[Up.A,KQ];rfl
structure xH (X : Fx) (Rt : List (Nat × Nat)) (Bt : List Nat) (o : Oper) (ls : List Nat) (τ : Heap) (u : Up) : Prop where
 d:u.d=o.dst
 bx:∀b v,u.bx=some (b,v)→X.L.contains b=true∧wb X Rt o=some b
 new:∀p,u.new=some p→rL o=true∧(∀g w,p.tag=some (g,w)→g∈ls)∧rt X Rt o=some p.slot∧∀d,u.d=some d→Rt.lookup d=some p.slot
 box:u.Ae=true→∃d,o.dst=some d∧X.L.contains d=true
 σ:u.σ≠none→tQ X Rt o=true
 v:∀d b,u.d=some d→Rt.lookup d=some b→X.L.contains d=false→oO u.v=true
 vb:∀d,u.d=some d→Bt.contains d=true→rQ u.v=true
 bxv:∀b v,u.bx=some (b,v)→rQ v=true
 fr:EX o=true→∀σ,u.σ=some σ→ug τ σ
def xY(X:Fx)(Rt:List (Nat×Nat))(Bt:List Nat)(o:Oper):Prop:=(∀d,o.dst=some d→X.L.contains d=false→Rt.lookup d=(bif xA o then rt X Rt o else none))∧∀d,o.dst=some d→Bt.contains d=true→chainB Bt o=true
theorem xY.of{o:Oper}(h:VL X Rt o=true)(hb:VI Bt o=true):xY X Rt Bt o:=by
 refine⟨λd hd hL=>?_,λd hd hc=>?_⟩
 ·unfold VL at h;rw[hd]at h;simp only[hL,Bool.false_or,beq_iff_eq]at h;exact h
 ·unfold VI at hb;rw[hd]at hb;simp only[hc,Bool.not_true,Bool.false_or]at hb;exact hb
theorem Vn{o:Oper}{ls:List Nat}(v:AV)(hR:xY X Rt Bt o)(hv:xA o=true→∀b,rt X Rt o=some b→oO v=true)(Nc:chainB Bt o=true→rQ v=true){τ:Heap}:xH X Rt Bt o ls τ (Fa X o.dst v):=by
 refine⟨rfl,(λb v h=>by cases h),(λp h=>by cases h),(λh=>by cases h),(λh=>absurd rfl h),λd b hd hl hL=>?_,λd hd hc=>?_,(λb v h=>by cases h),(λ_ σ h=>by cases h)⟩
 ·simp only[Fa]at hd ⊢;rw[hd];simp only[hL,bG];rw[hR.1 d hd hL]at hl;cases ha:xA o
  ·rw[ha]at hl;cases hl
  ·rw[ha]at hl;exact hv ha b hl
 ·have:=Nc (hR.2 d hd hc);simp only[Fa]at hd ⊢;rw[hd];simp only;cases X.L.contains d
  ·exact this
  ·rfl
theorem xx{o:Oper}{ls:List Nat}(σ:Heap)(v:AV)(hR:xY X Rt Bt o)(h:tQ X Rt o=true)(hn:xA o=false)(hcb:chainB Bt o=false){τ:Heap}(hf:EX o=true→ug τ σ):xH X Rt Bt o ls τ (NI X o.dst σ v):=by
 refine⟨rfl,(λb v h=>by cases h),(λp h=>by cases h),(λh=>by cases h),(λ_=>h),λd b hd hl hL=>?_,λd hd hc=>?_,(λb v h=>by cases h),(λhw σ' h=>?_)⟩
 ·simp only[NI]at hd;rw[hR.1 d hd hL,hn]at hl;cases hl
 ·have:=hR.2 d hd hc;rw[hcb]at this;cases this
 ·simp only[NI,Option.some.injEq]at h;subst h;exact hf hw
theorem aee{τ:Heap}{o:Oper}{ls:List Nat}{b off:Nat}{tag:Option (Nat×Bool)}(hR:xY X Rt Bt o)(ha:xA o=true)(hr:rt X Rt o=some b)(h:rL o=true)(ht:∀g w,tag=some (g,w)→g∈ls):xH X Rt Bt o ls τ (Kl X o.dst b off tag):=by
 refine⟨rfl,(λb v h=>by cases h),(λp hp=>?_),(λh=>by cases h),(λh=>absurd rfl h),(λd b hd hl hL=>rfl),(λ_ _ _=>rfl),(λb v h=>by cases h),(λ_ σ h=>by cases h)⟩
 have key:p.slot=b∧(∀g w,p.tag=some (g,w)→g∈ls)∧∀d,o.dst=some d→X.L.contains d=false:=by
  unfold Kl at hp;simp only at hp;cases hd:o.dst with
  |none=>rw[hd]at hp;cases hp
  |some d=>
   rw[hd]at hp;simp only at hp;cases hc:(X.L.contains d||!Nat.blt d X.n)
   ·rw[hc]at hp;simp only[bG]at hp;have hL:X.L.contains d=false:=by simp only[pK]at hc;exact hc.1
    cases tag with
    |none=>simp only[Option.some.injEq]at hp;subst hp;exact⟨rfl,(λg w e=>by cases e),λd' e=>by injection e with e;rw[←e];exact hL⟩
    |some gw=>
     obtain⟨g',w'⟩:=gw;simp only at hp;cases hg:(g'==d)
     ·rw[hg]at hp;simp only[bG,Option.some.injEq]at hp;subst hp;refine⟨rfl,λg w e=>?_,λd' e=>by injection e with e;rw[←e];exact hL⟩;simp only[Option.some.injEq,Prod.mk.injEq]at e;rw[←e.1];exact ht g' w' rfl
     ·rw[hg]at hp;cases hp
   ·rw[hc]at hp;cases hp
 refine⟨h,key.2.1,by rw[hr,key.1],λd hd=>?_⟩;have hd':o.dst=some d:=hd;rw[hR.1 d hd' (key.2.2 d hd'),ha,cq,hr,key.1]
theorem OW(l:List AV)(d t:Nat)(v:AV)(h:t≠d):(l.set d v).getD t .undef=l.getD t .undef:=by
 have h':¬d=t:=λe=>h (Eq.symm e)
 simp only[List.getD,lp,aK h']
theorem VE{u:Up}{l:List AV}{t:Nat}(h1:u.d≠some t)(h2:∀b v,u.bx=some (b,v)→t≠b):(u.sl l).getD t .undef=l.getD t .undef:=by
 unfold Up.sl;cases hd:u.d with
 |none=>
  cases hb:u.bx with
  |none=>rfl
  |some bv=>obtain⟨b,v⟩:=bv;exact OW _ _ _ _ (h2 b v hb)
 |some d=>
  have hne:t≠d:=λe=>h1 (by rw[hd,e])
  cases hb:u.bx with
  |none=>exact OW _ _ _ _ hne
  |some bv=>obtain⟨b,v⟩:=bv;simp only;rw[OW _ _ _ _ hne,OW _ _ _ _ (h2 b v hb)]
theorem xH.ri{τ:Heap}{o:Oper}{ls:List Nat}{u:Up}(h:xH X Rt Bt o ls τ u)(hs:RI X Rt Bt s):RI X Rt Bt (u.ap s):=by
 refine⟨hs.l,λt p hp=>?_,λt b ht hL=>?_,λt ht=>?_⟩
 ·have hp':u.A s.A t=some p:=hp;unfold Up.A at hp';cases hd:u.d with
  |none=>rw[hd]at hp';exact hs.a t p hp'
  |some d=>
   rw[hd]at hp';simp only at hp';cases hc:(t==d)
   ·rw[hc]at hp';simp only[bG]at hp';rcases Tw u.Ae d (s.A t)with e|e
    ·rw[e]at hp';exact hs.a t p hp'
    ·rw[e]at hp';cases hp'
   ·rw[hc]at hp';simp only[cq]at hp';have:t=d:=by simpa using hc
    subst this;exact(h.new p hp').2.2.2 t hd
 ·show oO ((u.sl s.sl).getD t .undef)=true;by_cases hd:u.d=some t
  ·have hv:=h.v t b hd ht hL
   have:(u.sl s.sl).getD t .undef=u.v∨(u.sl s.sl).getD t .undef=.undef:=by
    unfold Up.sl;rw[hd];simp only[List.getD];rw[lp];simp only[if_true];generalize (match u.bx with|some (b,x)=>s.sl.set b x|none=>s.sl)=q;by_cases hq:t<q.length
    ·left;simp [hq]
    ·right;simp [hq]
   rcases this with e|e
   ·rw[e];exact hv
   ·rw[e];rfl
  ·rw[VE hd (λb' v hb e=>by have:=(h.bx b' v hb).1;rw[←e,hL]at this;cases this)];exact hs.v t b ht hL
 ·show rQ ((u.sl s.sl).getD t .undef)=true
  have xM:∀(l:List AV)(d:Nat)(v:AV),(l.set d v).getD t .undef=v∧t=d∨(l.set d v).getD t .undef=l.getD t .undef∨(l.set d v).getD t .undef=.undef:=by
   intro l d v;simp only[List.getD,lp];by_cases e:d=t
   ·subst e;by_cases hq:d<l.length
    ·left;simp [hq]
    ·right;right;simp [hq]
   ·right;left;simp [e]
  have pY:rQ ((match u.bx with|some (b,x)=>s.sl.set b x|none=>s.sl).getD t .undef)=true:=by
   cases hb:u.bx with
   |none=>exact hs.b t ht
   |some bv=>
    obtain⟨b,v⟩:=bv;rcases xM s.sl b v with⟨e,_⟩|e|e
    ·simp only;rw[e];exact h.bxv b v hb
    ·simp only;rw[e];exact hs.b t ht
    ·simp only;rw[e];rfl
  unfold Up.sl;generalize (match u.bx with|some (b,x)=>s.sl.set b x|none=>s.sl)=q at pY;cases hd:u.d with
  |none=>exact pY
  |some d=>
   simp only;rcases xM q d u.v with⟨e,e2⟩|e|e
   ·rw[e];exact h.vb d hd (e2▸ht)
   ·rw[e];exact pY
   ·rw[e];rfl
theorem ad2{o:Oper}{tag:Option (Nat×Bool)}{p:Nat×Option Nat}(h:mz X o s tag=some p):rL o=true:=by obtain⟨dst,op,ty,pos,af,g⟩:=o;cases op<;>simp only[mz]at h<;>first|(cases h;done)|rfl
theorem ac1{o:Oper}{tag:Option (Nat×Bool)}{p:Nat×Option Nat}(h:mz X o s tag=some p):xA o=true:=by obtain⟨dst,op,ty,pos,af,g⟩:=o;cases op<;>simp only[mz]at h<;>first|(cases h;done)|rfl
theorem ad3(hI:RI X Rt Bt s){o:Oper}{tag:Option (Nat×Bool)}{b:Nat}{rr:Option Nat}(h:mz X o s tag=some (b,rr)):rt X Rt o=some b:=by
 obtain⟨dst,op,ty,pos,af,g⟩:=o;cases op<;>simp only[mz]at h<;>first|(cases h;done)|skip
 all_goals
  split at h
  ·rename_i b' off hp;simp only[Option.some.injEq,Prod.mk.injEq]at h;simp only[rt,qQ];rw[←h.1];exact Pm hI hp
  ·cases h
theorem ac2(hI:RI X Rt Bt s){o:Oper}{tag:Option (Nat×Bool)}{v:AV}(ha:xA o=true){b:Nat}(hr:rt X Rt o=some b)(hp:mz X o s tag=none)(h:iP X o s tag=some v):False:=by
 obtain⟨dst,op,ty,pos,af,g⟩:=o;have nf:∀(x:AV)(n:Nat),oO x=true→A.aF n x=none:=λx n h=>by unfold oO at h;split at h<;>first|rfl|cases h
 have nn:∀(x:AV),oO x=true→A.aW x=none:=λx h=>by unfold oO at h;split at h<;>first|rfl|cases h
 have ni:∀(x i:AV)(n:Nat),oO x=true→A.bh n x i=none:=λx i n h=>by unfold oO at h;split at h<;>first|rfl|cases h
 have na:∀(x i:AV)(m n:Nat),oO x=true→A.BJ m n x i=none:=λx i m n h=>by
  unfold oO at h;unfold A.BJ;split at h<;>first|(cases h;done)|skip
  all_goals cases A.idx m i<;>rfl
 cases op<;>simp only[xA]at ha<;>first|(cases ha;done)|skip
 case nilCheck x=>
  simp only[mz]at hp;simp only[rt,qQ]at hr;split at hp
  ·cases hp
  ·rename_i hpl;simp only[iP,nn _ (I6 hI hr hpl)]at h;cases h
 case fieldAddr t x f=>
  simp only[mz]at hp;simp only[rt,qQ]at hr;split at hp
  ·cases hp
  ·rename_i hpl;simp only[iP]at h;split at h
   ·split at h
    ·rename_i i _;cases hz:(i.size==0)
     ·rw[hz]at h;simp only[bG,nf _ _ (I6 hI hr hpl)]at h;cases h
     ·rw[hz]at h;cases h
    ·cases h
   ·cases h
 case indexAddr t x i=>
  simp only[mz]at hp;simp only[rt,qQ]at hr;split at hp
  ·cases hp
  ·rename_i hpl;simp only[iP]at h;split at h
   ·split at h
    ·simp only[ni _ _ _ (I6 hI hr hpl)]at h;cases h
    ·cases h
   ·split at h
    ·simp only[na _ _ _ _ (I6 hI hr hpl)]at h;cases h
    ·cases h
   ·cases h
theorem pq{α β:Type}{x:Option α}{f:α→Option β}{b:β}(h:x.bind f=some b):∃a,x=some a∧f a=some b:=bN.1 h
theorem aa7(hB:∀t,Bt.contains t=true→rQ (ev X s (.tmp t))=true){o:Oper}{tag:Option (Nat×Bool)}{v:AV}(hc:chainB Bt o=true)(h:iP X o s tag=some v):rQ v=true:=by
 obtain⟨dst,op,ty,pos,af,g⟩:=o
 have nk:∀x,rQ x=true→∀y,A.aW x=some y→rQ y=true:=λx hx y e=>by cases x<;>simp only[A.aW]at e<;>first|(cases e;done)|(injection e with e;subst e;exact hx)
 have nf:∀x,rQ x=true→∀n y,A.aF n x=some y→rQ y=true:=λx hx n y e=>by cases x<;>simp only[A.aF]at e<;>first|(cases e;done)|(cases hx;done)|(injection e with e;subst e;rfl)
 cases op<;>simp only[chainB]at hc<;>first|(cases hc;done)|skip
 case move x=>
  cases x<;>first|(cases hc;done)|skip
  simp only[iP,Option.some.injEq]at h;subst h;exact hB _ hc
 case assign x=>
  cases x<;>first|(cases hc;done)|skip
  simp only[iP,Option.some.injEq]at h;subst h;exact hB _ hc
 case nilCheck x=>
  cases x<;>first|(cases hc;done)|skip
  simp only[iP]at h;exact nk _ (hB _ hc) _ h
 case fieldAddr t x f=>
  cases x<;>first|(cases hc;done)|skip
  simp only[iP]at h;split at h
  ·split at h
   ·rename_i i _;cases hz:(i.size==0)
    ·rw[hz]at h;simp only[bG]at h;exact nf _ (hB _ hc) _ _ h
    ·rw[hz]at h;cases h
   ·cases h
  ·cases h
theorem ad0{o:Oper}{ls:List Nat}(hR:xY X Rt Bt o)(hI:RI X Rt Bt s)(hls:∀t,Operand.tmp t∈o.op.operands.toList→t∈ls){k:AS→Option R}{r:R}(h:jg X true o s k=some r):
  ∃u,xH X Rt Bt o ls s.σ u∧k (u.ap s)=some r∧∀(R':Type)(k':AS→Option R')(s':AS),Ag X Rt Bt o ls none s s'→jg X true o s' k'=k' (u.ap s'):=by
 have EI:∀(s':AS),RI X Rt Bt s'→∀x b off,qQ o=some x→place X s' none x=some (b,off)→rt X Rt o=some b:=λs' hi x b off hx hp=>by simp only[rt,hx];exact Pm hi hp
 have JI:∀(s':AS),RI X Rt Bt s'→∀x b,qQ o=some x→rt X Rt o=some b→place X s' none x=none→oO (ev X s' x)=true:=λs' hi x b hx hr hp=>by simp only[rt,hx]at hr;exact I6 hi hr hp
 unfold jg at h;cases hp:mz X o s none with
 |some p=>
  obtain⟨b,rr⟩:=p;rw[hp]at h;simp only at h;obtain⟨off,e1,e2⟩:=pq h;subst e1;refine⟨Kl X o.dst b off none,aee hR (ac1 hp) (ad3 hI hp) (ad2 hp) (λg w e=>by cases e),by rw[←PX];exact e2,λR' k' s' ha=>?_⟩;have:mz X o s' none=some (b,some off):=by rw[←hp];exact(T7 (ha.EV hls) ha.DC ha.bx (EI s' ha.r2)).symm
  unfold jg;rw[this];simp only[aY];rw[PX]
 |none=>
  rw[hp]at h;simp only at h;have hP:∀s',Ag X Rt Bt o ls none s s'→mz X o s' none=none:=λs' ha=>by rw[←hp];exact(T7 (ha.EV hls) ha.DC ha.bx (EI s' ha.r2)).symm
  have dflt:((iP X o s none).bind λv=>k (s.put X o.dst v))=some r→(∀(R':Type)(k':AS→Option R')(s':AS),Ag X Rt Bt o ls none s s'→jg X true o s' k'=(iP X o s' none).bind λv=>k' (s'.put X o.dst v))→
    ∃u,xH X Rt Bt o ls s.σ u∧k (u.ap s)=some r∧∀(R':Type)(k':AS→Option R')(s':AS),Ag X Rt Bt o ls none s s'→jg X true o s' k'=k' (u.ap s'):=by
   intro hd hsame;obtain⟨v,e1,e2⟩:=pq hd;refine⟨Fa X o.dst v,Vn v hR (λha b hr=>(ac2 hI ha hr hp e1).elim) (λhc=>aa7 hI.J4 hc e1),by rw[←Jp];exact e2,λR' k' s' ha=>?_⟩;have:iP X o s' none=some v:=by rw[←e1];exact(OY (ha.EV hls) ha.DC ha.bx (EI s' ha.r2) (JI s' ha.r2) ha.σ ha.NK ha.r2.J4).symm
   rw[hsame R' k' s' ha,this,aY,Jp]
  obtain⟨dst,op,ty,pos,af,g⟩:=o;have BU:∀s',Ag X Rt Bt ⟨dst,op,ty,pos,af,g⟩ ls none s s'→∀x∈op.operands.toList,ev X s x=ev X s' x:=λs' ha=>ha.EV hls
  have unf:∀{R':Type}(k':AS→Option R')(s':AS),Ag X Rt Bt ⟨dst,op,ty,pos,af,g⟩ ls none s s'→mz X ⟨dst,op,ty,pos,af,g⟩ s' none=none:=λk' s' ha=>hP s' ha
  cases op<;>simp only at h<;>first
   |(exact absurd (show(none:Option R)=some r from h) (by simp))
   |exact dflt h (λR' k' s' ha=>by unfold jg;rw[hP s' ha])
   |skip
  case alloc t=>
   cases dst with
   |none=>cases h
   |some d=>
    simp only at h;cases hL:X.L.contains d
    ·rw[hL]at h;simp only[bG]at h;cases hO:X.O.contains d
     ·rw[hO]at h;exact dflt h (λR' k' s' ha=>by unfold jg;rw[hP s' ha];simp only[hL,hO,bG])
     ·rw[hO]at h;simp only[cq]at h;split at h
      ·rename_i cs hz;rw[mS]at h;refine⟨_,xx _ _ hR (by simp [tQ,wH];simpa using hO) rfl rfl (λh=>by cases h),h,λR' k' s' ha=>?_⟩;have iu:=ha.σ (by simpa [yw]using hO) rfl;unfold jg;rw[hP s' ha];simp only[hL,hO,bG,cq,hz,iu];rw[mS]
      ·cases h
    ·rw[hL]at h;simp only[cq]at h;split at h
     ·rename_i cs hz;rw[OX]at h;refine⟨_,⟨rfl,(λb v h=>by cases h),(λp h=>by cases h),(λ_=>⟨d,rfl,hL⟩),(λh=>absurd rfl h),(λd' b e _ hL'=>by simp only[Ru,Option.some.injEq]at e;rw[←e,hL]at hL';cases hL'),(λ_ _ _=>rfl),(λb v h=>by cases h),(λ_ σ h=>by cases h)⟩,h,λR' k' s' ha=>?_⟩;unfold jg;rw[hP s' ha];simp only[hL,cq,hz];rw[OX]
     ·cases h
  case box t x=>
   cases dst with
   |none=>cases h
   |some d=>
    simp only at h;cases hL:X.L.contains d
    ·rw[hL]at h;simp only[bG]at h;cases hO:X.O.contains d
     ·rw[hO]at h;exact dflt h (λR' k' s' ha=>by unfold jg;rw[hP s' ha];simp only[hL,hO,bG])
     ·rw[hO]at h;simp only[cq]at h;obtain⟨cs,e1,e2⟩:=pq h;rw[mS]at e2;refine⟨_,xx _ _ hR (by simp [tQ,wH];simpa using hO) rfl rfl (λh=>by cases h),e2,λR' k' s' ha=>?_⟩;have iu:=ha.σ (by simpa [yw]using hO) rfl;have hx:=BU s' ha x (by simp [Op.operands]);unfold jg;rw[hP s' ha];simp only[hL,hO,bG,cq,←hx,e1,aY,iu];rw[mS]
    ·rw[hL]at h;simp only[cq]at h;obtain⟨cs,e1,e2⟩:=pq h;rw[OX]at e2;refine⟨_,⟨rfl,(λb v h=>by cases h),(λp h=>by cases h),(λ_=>⟨d,rfl,hL⟩),(λh=>absurd rfl h),(λd' b e _ hL'=>by simp only[Ru,Option.some.injEq]at e;rw[←e,hL]at hL';cases hL'),(λ_ _ _=>rfl),(λb v h=>by cases h),(λ_ σ h=>by cases h)⟩,e2,λR' k' s' ha=>?_⟩;have hx:=BU s' ha x (by simp [Op.operands]);unfold jg;rw[hP s' ha];simp only[hL,cq,←hx,e1,aY];rw[OX]
  case store t x v=>
   split at h
   ·rename_i b off hpl;obtain⟨cs,e1,e2⟩:=pq h;obtain⟨new,e3,e4⟩:=pq e2;obtain⟨cs',e5,e6⟩:=pq e4;rw[aaC]at e6;have Dz:rt X Rt ⟨dst,.store t x v,ty,pos,af,g⟩=some b:=by simp only[rt,qQ];exact Pm hI hpl
    refine⟨_,⟨rfl,(λb' v' hb=>by simp only[Rv,Option.some.injEq,Prod.mk.injEq]at hb;rw[←hb.1];exact⟨anQ hpl,Dz⟩),(λp h=>by cases h),(λh=>by cases h),(λh=>absurd rfl h),(λd1 b1 e hl hL=>by rw[hR.1 d1 e hL]at hl;cases hl),(λd1 e hc=>by have:=hR.2 d1 e hc;cases this),(λb1 v1 hb=>by simp only[Rv,Option.some.injEq,Prod.mk.injEq]at hb;rw[←hb.2];rfl),(λ_ σ h=>by cases h)⟩,e6,λR' k' s' ha=>?_⟩;have hv:=BU s' ha v (by simp [Op.operands]);have hpx:place X s' none x=some (b,off):=by rw[←hpl];exact(ha.DC x rfl).symm
    have pY:=ha.bx b Dz;unfold jg;rw[hP s' ha];simp only[hpx,←pY,e1,aY,←hv,e3,e5];rw[aaC]
   ·rename_i hpl;obtain⟨new,e3,e4⟩:=pq h;obtain⟨σ',e5,e6⟩:=pq e4;rw[mS]at e6
    have Dz:rt X Rt ⟨dst,.store t x v,ty,pos,af,g⟩=none:=by
     cases hr:rt X Rt ⟨dst,.store t x v,ty,pos,af,g⟩with
     |none=>rfl
     |some b=>rw[ak5 (JI s hI x b rfl hr hpl)]at e5;cases e5
    have hw:tQ X Rt ⟨dst,.store t x v,ty,pos,af,g⟩=true:=by simp only[tQ,Dz,Option.isNone_none]
    refine⟨_,xx _ _ hR hw rfl rfl (λh=>by cases h),e6,λR' k' s' ha=>?_⟩;have hv:=BU s' ha v (by simp [Op.operands]);have hx:=BU s' ha x (by simp [Op.operands]);have iu:=ha.σ (by simp only[yw,Dz,Option.isNone_none]) rfl;have hpx:place X s' none x=none:=by rw[←hpl];exact(ha.DC x rfl).symm
    unfold jg;rw[hP s' ha];simp only[hpx,←hv,←hx,e3,aY,←iu,e5];rw[mS]
  case makeMap t rr=>
   cases rr with
   |some x=>cases h
   |none=>simp only at h;rw[mS]at h;refine⟨_,xx _ _ hR rfl rfl rfl (λ_=>O5 (λcs e=>by cases e)),h,λR' k' s' ha=>?_⟩;have iu:=ha.σ rfl rfl;unfold jg;rw[hP s' ha];simp only[←iu];rw[mS]
  case range t x=>
   split at h
   ·rename_i kt et hd;obtain⟨es,e1,e2⟩:=pq h;rw[mS]at e2;refine⟨_,xx _ _ hR rfl rfl rfl (λh=>by cases h),e2,λR' k' s' ha=>?_⟩;have hx:=BU s' ha x (by simp [Op.operands]);have iu:=ha.σ rfl rfl;unfold jg;rw[hP s' ha];simp only[hd,←hx,←iu,e1,aY];rw[mS]
   ·cases h
  case buildSlice t n ps=>
   cases dst with
   |none=>exact dflt h (λR' k' s' ha=>by unfold jg;rw[hP s' ha])
   |some d=>
    simp only at h;cases hO:X.O.contains d
    ·rw[hO]at h;exact dflt h (λR' k' s' ha=>by unfold jg;rw[hP s' ha];simp only[hO,bG])
    ·rw[hO]at h;simp only[cq]at h;obtain⟨v,e1,e2⟩:=pq h
     have hv:∀s',Ag X Rt Bt ⟨some d,.buildSlice t n ps,ty,pos,af,g⟩ ls none s s'→iP X ⟨some d,.buildSlice t n ps,ty,pos,af,g⟩ s' none=some v:=λs' ha=>by rw[←e1];exact(OY (ha.EV hls) ha.DC ha.bx (EI s' ha.r2) (JI s' ha.r2) ha.σ ha.NK ha.r2.J4).symm
     unfold A.JN at e2;split at e2
     ·rename_i sz es;cases hl:(es.length==0)
      ·rw[hl]at e2;simp only[bG]at e2;rw[mS]at e2;refine⟨_,xx _ _ hR (by simp [tQ,wH];simpa using hO) rfl rfl (λh=>by cases h),e2,λR' k' s' ha=>?_⟩;have iu:=ha.σ (by simpa [yw]using hO) rfl;unfold jg;rw[hP s' ha];simp only[hO,cq,hv s' ha,aY,A.JN,hl,bG,←iu];rw[mS]
      ·rw[hl]at e2;cases e2
     ·cases e2
  case mapUpdate t m i v=>
   split at h
   ·rename_i kt et hd;split at h
    ·rename_i ek he;obtain⟨σ',e1,e2⟩:=pq h;rw[mS]at e2;refine⟨_,xx _ _ hR rfl rfl rfl (λ_=>amM e1),e2,λR' k' s' ha=>?_⟩;have hm:=BU s' ha m (by simp [Op.operands]);have hi:=BU s' ha i (by simp [Op.operands]);have hv:=BU s' ha v (by simp [Op.operands]);have iu:=ha.σ rfl rfl;unfold jg;rw[hP s' ha];simp only[hd,he,←hm,←hi,←hv,←iu,e1,aY];rw[mS]
    ·cases h
   ·cases h
  case call c=>
   have hargs:∀s',Ag X Rt Bt ⟨dst,.call c,ty,pos,af,g⟩ ls none s s'→c.args.toList.map (ev X s)=c.args.toList.map (ev X s'):=λs' ha=>
    List.map_congr_left λx hx=>BU s' ha x (by simp [Op.operands,Call.operands];exact .inr (by simpa using hx))
   split at h
   ·rename_i hc;split at h
    ·rename_i t u x y h1 h2;split at h
     ·rename_i e e' hd hu;split at h
      ·rename_i i hi;cases fZ:qj i
       ·rw[fZ]at h;simp only[bG]at h;obtain⟨⟨rr,σ'⟩,e1,e2⟩:=pq h;simp only at e2;rw[mS]at e2;refine⟨_,xx _ _ hR (by simp [tQ,wH,hc]) rfl rfl (λ_=>ajW e1),e2,λR' k' s' ha=>?_⟩;have iu:=ha.σ rfl rfl;unfold jg;rw[hP s' ha];simp only[hc,←hargs s' ha,h1,h2,hd,hu,hi,fZ,bG,←iu,e1,aY];rw[mS]
       ·rw[fZ]at h;cases h
      ·cases h
     ·rename_i e kk hd hu;split at h
      ·rename_i i zs hi hz;cases fZ:qj i
       ·rw[fZ]at h;simp only[bG]at h;obtain⟨⟨rr,σ'⟩,e1,e2⟩:=pq h;simp only at e2;rw[mS]at e2;refine⟨_,xx _ _ hR (by simp [tQ,wH,hc]) rfl rfl (λ_=>aiX e1),e2,λR' k' s' ha=>?_⟩;have iu:=ha.σ rfl rfl;unfold jg;rw[hP s' ha];simp only[hc,←hargs s' ha,h1,h2,hd,hu,hi,hz,fZ,bG,←iu,e1,aY];rw[mS]
       ·rw[fZ]at h;cases h
      ·cases h
     ·cases h
    ·cases h
   ·rename_i hc;split at h
    ·rename_i t u x y h1 h2;split at h
     ·rename_i e e' hd hu;split at h
      ·rename_i i hi;cases fZ:qj i
       ·rw[fZ]at h;simp only[bG]at h;obtain⟨⟨rr,σ'⟩,e1,e2⟩:=pq h;simp only at e2;rw[mS]at e2;refine⟨_,xx _ _ hR (by simp [tQ,wH,hc]) rfl rfl (λh=>by simp [EX,hc]at h),e2,λR' k' s' ha=>?_⟩;have iu:=ha.σ rfl rfl;unfold jg;rw[hP s' ha];simp only[hc,←hargs s' ha,h1,h2,hd,hu,hi,fZ,bG,←iu,e1,aY];rw[mS]
       ·rw[fZ]at h;cases h
      ·cases h
     ·cases h
    ·cases h
   ·rename_i hc;cases hv:iP X ⟨dst,.call c,ty,pos,af,g⟩ s none with
    |none=>rw[hv]at h;simp [A.Me]at h
    |some v=>
     rw[hv]at h
     exact dflt (by rw[hv];exact h) (λR' k' s' ha=>by
      have hv':iP X ⟨dst,.call c,ty,pos,af,g⟩ s' none=some v:=by rw[←hv];exact(OY (ha.EV hls) ha.DC ha.bx (EI s' ha.r2) (JI s' ha.r2) ha.σ ha.NK ha.r2.J4).symm
      unfold jg;rw[hP s' ha];simp only[hc,hv',aY,A.Me])
   ·rename_i hc;split at h
    ·rename_i t x h1 h2;split at h
     ·rename_i e hd;split at h
      ·rename_i i zs hi hz;cases fZ:qj i
       ·rw[fZ]at h;simp only[bG]at h;obtain⟨σ',e1,e2⟩:=pq h;rw[mS]at e2;refine⟨_,xx _ _ hR (by simp [tQ,wH,hc]) rfl rfl (λh=>by simp [EX,hc]at h),e2,λR' k' s' ha=>?_⟩;have iu:=ha.σ rfl rfl;unfold jg;rw[hP s' ha];simp only[hc,←hargs s' ha,h1,h2,hd,hi,hz,fZ,bG,←iu,e1,aY];rw[mS]
       ·rw[fZ]at h;cases h
      ·cases h
     ·cases h
    ·cases h
   ·rename_i hc;split at h
    ·rename_i t u m key h1 h2;split at h
     ·rename_i kt et hd;split at h
      ·rename_i ek he;obtain⟨σ',e1,e2⟩:=pq h;rw[mS]at e2;refine⟨_,xx _ _ hR (by simp [tQ,wH,hc]) rfl rfl (λh=>by simp [EX,hc]at h),e2,λR' k' s' ha=>?_⟩;have iu:=ha.σ rfl rfl;unfold jg;rw[hP s' ha];simp only[hc,←hargs s' ha,h1,h2,hd,he,←iu,e1,aY];rw[mS]
      ·cases h
     ·cases h
    ·cases h
   ·rename_i b hn1 hn2 qz uF yp hc
    exact dflt h (λR' k' s' ha=>by
     unfold jg;rw[hP s' ha];simp only[hc]
     all_goals (first|rfl|(cases b<;>first|rfl|exact absurd rfl hn1|exact absurd rfl hn2|exact absurd rfl qz|exact absurd rfl uF|exact absurd rfl yp)))
   ·rename_i f hc;cases hw:X.W.contains f
    ·simp only[hw,Bool.not_false,Bool.and_true,cq]at h;exact dflt h (λR' k' s' ha=>by unfold jg;rw[hP s' ha];simp only[hc,hw,Bool.not_false,Bool.and_true,cq])
    ·simp only[hw,Bool.not_true,Bool.and_false,bG]at h;obtain⟨⟨rr,σ'⟩,e1,e2⟩:=pq h;simp only at e2;rw[mS]at e2;refine⟨_,xx _ _ hR (by simp only[tQ,wH,hc];exact hw) rfl rfl (λh=>by simp [EX,hc]at h),e2,λR' k' s' ha=>?_⟩;have iu:=ha.σ rfl rfl;unfold jg;rw[hP s' ha];simp only[hc,←hargs s' ha,hw,Bool.not_true,Bool.and_false,bG,←iu,e1,aY];rw[mS]
   ·rename_i x hnf hc;simp only[cq]at h
    exact dflt h (λR' k' s' ha=>by
     unfold jg;rw[hP s' ha];simp only[hc]
     cases x<;>first|exact absurd rfl (hnf _)|simp only[cq])
   ·cases h
end
end
section
section
variable {R : Type} {X : Fx} {Rt : List (Nat × Nat)} {Bt : List Nat} {s s' : AS} {ops : Array Oper}
theorem Le{o:Oper}{t:Nat}(h:Operand.tmp t∈o.op.operands.toList):t∈o.looksAt ops:=by unfold Oper.looksAt;refine jP.2 (.inl (List.mem_filterMap.2 ⟨.tmp t,h,rfl⟩))
theorem ajh{o:Oper}{j d:Nat}{want:Bool}(hg:o.guard=some (j,want))(hd:(ops[j]?).bind (·.dst)=some d):d∈o.looksAt ops:=by unfold Oper.looksAt;refine jP.2 (.inr ?_);rw[hg];simp only[hd];simp
def JU(X:Fx)(Rt:List (Nat×Nat))(Bt:List Nat)(ops:Array Oper)(o:Oper)(s s':AS):Prop:=∀tag:Option (Nat×Bool),(∀g w,tag=some (g,w)→g∈o.looksAt ops)→Ag X Rt Bt o (o.looksAt ops) tag s s'
theorem Ag.symm{o:Oper}{ls:List Nat}{tag:Option (Nat×Bool)}(h:Ag X Rt Bt o ls tag s s'):Ag X Rt Bt o ls tag s' s:=
 ⟨h.r2,h.r1,λt ht hL=>(h.iO t ht hL).symm,λt ht=>(h.pl t ht).symm,λb hb=>(h.bx b hb).symm,(λhr hs=>(h.σ hr hs).symm),λhr hs id cs=>(h.NK hr hs id cs).symm⟩
theorem JU.symm{o:Oper}(h:JU X Rt Bt ops o s s'):JU X Rt Bt ops o s' s:=λtag ht=>(h tag ht).symm
theorem Ui{q:Bool}{o:Oper}{f:FuncId}{l:List Operand}(h:JC X o=some (f,l))(s:AS)(k:AS→Option R):jg X q o s k=(X.call f (l.map (ev X s)) s.σ).bind λr=>k ((s.heap r.2).put X o.dst r.1):=by
 unfold JC at h;split at h
 ·rename_i c ho;split at h
  ·rename_i f' hc;cases hw:X.W.contains f'
   ·rw[hw]at h;cases h
   ·rw[hw]at h;simp only[cq,Option.some.injEq,Prod.mk.injEq]at h;obtain⟨rfl,rfl⟩:=h;unfold jg mz;simp only[ho,hc,hw,Bool.not_true,Bool.and_false,bG]
  ·cases h
 ·cases h
theorem Vh{o:Oper}{k:AS→Option R}{r:R}(hR:xY X Rt Bt o)(hI:RI X Rt Bt s)(h:pZ X true ops o s k=some r):
  ∃u,xH X Rt Bt o (o.looksAt ops) s.σ u∧k (u.ap s)=some r∧∀(R':Type)(k':AS→Option R')(s':AS),JU X Rt Bt ops o s s'→pZ X true ops o s' k'=k' (u.ap s'):=by
 unfold pZ at h;cases hg:o.guard with
 |none=>rw[hg]at h;obtain⟨u,h1,h2,h3⟩:=ad0 (ls:=o.looksAt ops) hR hI (λt ht=>Le ht) h;refine⟨u,h1,h2,λR' k' s' ha=>?_⟩;unfold pZ;rw[hg];exact h3 R' k' s' (ha none (λg w e=>by cases e))
 |some jw=>
  obtain⟨j,want⟩:=jw;rw[hg]at h;simp only at h;cases hd:(ops[j]?).bind (·.dst)with
  |none=>rw[hd]at h;cases h
  |some d=>
   rw[hd]at h;simp only at h;cases hb:Ld X o d
   ·rw[hb]at h;simp only[bG]at h;have oz:=ajh (ops:=ops) hg hd;have EL:∀g w,(some (d,want):Option (Nat×Bool))=some (g,w)→g∈o.looksAt ops:=λg w e=>by injection e with e;injection e with e _;rw[←e];exact oz
    have XF:X.L.contains d=false:=by simp only[Ld,pK]at hb;exact hb.1
    cases vQ:JC X o with
    |some fa=>
     obtain⟨f,as'⟩:=fa;rw[vQ]at h;simp only at h;obtain⟨rv,e1,e2⟩:=pq h
     have key:∀(x:AV),s.sl.getD d .undef=x→(x=.aL []∨∃c,x=.bool c∧(c==want)=false)∨∃c,x=.bool c∧(c==want)=true:=by
      intro x hx;rw[hx]at e1;unfold A.guard at e1;split at e1
      ·rename_i c;cases hc:(c==want)
       ·exact .inl (.inr ⟨c,rfl,hc⟩)
       ·exact .inr ⟨c,rfl,hc⟩
      ·exact .inl (.inl rfl)
      ·cases e1
     rcases key _ rfl with hno|⟨c,hc,XE⟩
     ·have hG:∀(R':Type)(x:Option R')(y:Option R'),A.guard (s.sl.getD d .undef) want x y=y:=by
       intro R' x y;rcases hno with hh|⟨c,hh,XE⟩
       ·rw[hh];rfl
       ·rw[hh];simp only[A.guard,XE,bG]
      rw[hG]at e1;injection e1 with e1
      subst e1
      have Qi:xA o=false∧chainB Bt o=false:=by
       unfold JC at vQ;split at vQ
       ·rename_i c ho;exact⟨by simp only[xA,ho],by simp only[chainB,ho]⟩
       ·cases vQ
      refine⟨Fa X o.dst (.aL []),Vn _ hR (λha=>by rw[Qi.1]at ha;cases ha) (λha=>by rw[Qi.2]at ha;cases ha),by rw[←Jp];exact e2,λR' k' s' ha=>?_⟩;have a:=ha _ EL;have oB:=a.iO d oz XF;unfold pZ;rw[hg];simp only[hd,hb,bG,vQ];rw[←oB,hG,aY,←Jp];rfl
     ·have hG:∀(R':Type)(x:Option R')(y:Option R'),A.guard (s.sl.getD d .undef) want x y=x:=by intro R' x y;rw[hc];simp only[A.guard,XE,cq]
      have hA:jg X true o s k=some r:=by rw[Ui vQ];rw[hG]at h;exact h
      obtain⟨u,h1,h2,h3⟩:=ad0 (ls:=o.looksAt ops) hR hI (λt ht=>Le ht) hA;refine⟨u,h1,h2,λR' k' s' ha=>?_⟩;have a:=ha _ EL;have oB:=a.iO d oz XF;rw[←h3 R' k' s' (ha none (λg w e=>by cases e)),Ui vQ];unfold pZ;rw[hg];simp only[hd,hb,bG,vQ];rw[←oB,hG]
    |none=>
    rw[vQ]at h;simp only at h;have EI:∀(s':AS),RI X Rt Bt s'→∀x b off,qQ o=some x→place X s' (some (d,want)) x=some (b,off)→rt X Rt o=some b:=λs' hi x b off hx hp=>by simp only[rt,hx];exact Pm hi hp
    have JI:∀(s':AS),RI X Rt Bt s'→∀x b,qQ o=some x→rt X Rt o=some b→place X s' (some (d,want)) x=none→oO (ev X s' x)=true:=λs' hi x b hx hr hp=>by simp only[rt,hx]at hr;exact I6 hi hr hp
    have hP:∀s',JU X Rt Bt ops o s s'→mz X o s' (some (d,want))=mz X o s (some (d,want)):=λs' ha=>by have a:=ha _ EL;exact(T7 (a.EV λt ht=>Le ht) a.DC a.bx (EI s' a.r2)).symm
    cases hp:mz X o s (some (d,want))with
    |some p=>obtain⟨b,rr⟩:=p;rw[hp]at h;simp only at h;obtain⟨off,e1,e2⟩:=pq h;subst e1;refine⟨Kl X o.dst b off (some (d,want)),aee hR (ac1 hp) (ad3 hI hp) (ad2 hp) EL,by rw[←PX];exact e2,λR' k' s' ha=>?_⟩;unfold pZ;rw[hg];simp only[hd,hb,bG,vQ,hP s' ha,hp,aY];rw[PX]
    |none=>
     rw[hp]at h;simp only at h;obtain⟨v,e1,e2⟩:=pq h
     have hv:xA o=true→∀b,rt X Rt o=some b→oO v=true:=by
      intro ha b hr;unfold A.guard at e1;split at e1
      ·rename_i c _;cases hc:(c==want)
       ·rw[hc]at e1;simp only[bG,Option.some.injEq]at e1;subst e1;rfl
       ·rw[hc]at e1;exact(ac2 hI ha hr hp e1).elim
      ·simp only[Option.some.injEq]at e1;subst e1;rfl
      ·cases e1
     have Nc:chainB Bt o=true→rQ v=true:=by
      intro hc;unfold A.guard at e1;split at e1
      ·rename_i c _;cases wQ:(c==want)
       ·rw[wQ]at e1;simp only[bG,Option.some.injEq]at e1;subst e1;rfl
       ·rw[wQ]at e1;exact aa7 hI.J4 hc e1
      ·simp only[Option.some.injEq]at e1;subst e1;rfl
      ·cases e1
     refine⟨Fa X o.dst v,Vn v hR hv Nc,by rw[←Jp];exact e2,λR' k' s' ha=>?_⟩;have a:=ha _ EL;have hV:iP X o s' (some (d,want))=iP X o s (some (d,want)):=(OY (a.EV λt ht=>Le ht) a.DC a.bx (EI s' a.r2) (JI s' a.r2) a.σ a.NK a.r2.J4).symm;have oB:=a.iO d oz XF;unfold pZ;rw[hg];simp only[hd,hb,bG,vQ,hP s' ha,hp,hV,←oB,e1,aY];rw[Jp]
   ·rw[hb]at h;cases h
structure B4 (X : Fx) (Rt : List (Nat × Nat)) (Bt : List Nat) (ops : Array Oper) (x y : Oper) : Prop where
 dx:∀d,x.dst=some d→d∉y.looksAt ops
 dd:∀d,x.dst=some d→y.dst≠some d
 dy:∀d,y.dst=some d→d∉x.looksAt ops
 c1:BK X Rt Bt x y=false
 c2:BK X Rt Bt y x=false
theorem B4.symm{x y:Oper}(h:B4 X Rt Bt ops x y):B4 X Rt Bt ops y x:=⟨h.dy,λd hd e=>h.dd d e hd,h.dx,h.c2,h.c1⟩
theorem alR{x y:Oper}(h:indep X Rt Bt ops x y=true):B4 X Rt Bt ops x y:=by simp only[indep,jC,Bool.not_eq_true']at h;obtain⟨⟨h1,h2⟩,h3⟩:=h;obtain⟨a1,a2,a3⟩:=Oper.apart_spec h1;exact⟨a1,a2,a3,h2,h3⟩
theorem acF{x y:Oper}(h:BK X Rt Bt x y=false){b:Nat}(hb:wb X Rt x=some b):rt X Rt y≠some b:=by unfold BK at h;simp only[pK]at h;have:=h.1.1;rw[hb]at this;simpa using this
theorem PD{x y:Oper}(h:BK X Rt Bt x y=false){d:Nat}(hd:x.dst=some d)(hL:X.L.contains d=true):rt X Rt y≠some d:=by unfold BK at h;simp only[pK]at h;have:=h.1.2;rw[hd]at this;simp only[hL,Bool.true_and]at this;simpa using this
theorem PE{x y:Oper}(h:BK X Rt Bt x y=false)(hw:tQ X Rt x=true):(yw X Rt y=false∨(soft Bt y=true∧EX x=true))∧tQ X Rt y=false:=by
 unfold BK at h;simp only[pK]at h;have:=h.2;rw[hw]at this;simp only[Bool.true_and,pK]at this;refine⟨?_,this.2⟩;cases hr:yw X Rt y
 ·exact .inl rfl
 ·have h2:=this.1;rw[hr,Bool.true_and,Bool.not_eq_false']at h2;exact .inr (by simpa using h2)
theorem ap2{x:Oper}{a:Operand}(h:qQ x=some a):a∈x.op.operands.toList:=by obtain⟨dst,op,ty,pos,af,g⟩:=x;cases op<;>simp only[qQ]at h<;>first|(cases h;done)|(injection h with h;subst h;simp [Op.operands])
theorem atM(h:RI X Rt Bt s){x:Oper}{b:Nat}(hr:rt X Rt x=some b)(hL:X.L.contains b=false):False:=by
 unfold rt at hr;split at hr
 ·rename_i a _;cases a with
  |tmp t=>
   simp only[Cf]at hr;cases hc:X.L.contains t
   ·rw[hc]at hr;have:=h.l t b hr;rw[hL]at this;cases this
   ·rw[hc]at hr;simp only[cq,Option.some.injEq]at hr;subst hr;rw[hL]at hc;cases hc
  |_=>simp [Cf]at hr
 ·cases hr
theorem aeR{x:Oper}{b:Nat}(h:wb X Rt x=some b):rt X Rt x=some b:=by
 unfold wb at h;split at h
 ·exact h
 ·cases h
theorem aew{τ:Heap}{x y:Oper}(h:B4 X Rt Bt ops x y){u:Up}(hu:xH X Rt Bt y (y.looksAt ops) τ u)(s:AS)(hs:RI X Rt Bt s)(hτ:u.σ≠none→ug s.σ τ):JU X Rt Bt ops x s (u.ap s):=by
 intro tag ht;have hnd:∀t,t∈x.looksAt ops→u.d≠some t:=λt ht e=>by rw[hu.d]at e;exact h.dy t e ht
 refine⟨hs,hu.ri hs,λt htl hL=>?_,λt hax=>?_,λb hb=>?_,λhr Ht=>?_,λhr Ht=>?_⟩
 ·exact(VE (hnd t htl) (λb v hb e=>by have:=(hu.bx b v hb).1;rw[←e,hL]at this;cases this)).symm
 ·have htl:t∈x.looksAt ops:=Le (ap2 hax);simp only[place];cases hL:X.L.contains t
  ·simp only[bG];show _=match u.A s.A t with|some p=>_|none=>none
   unfold Up.A;cases hd:u.d with
   |none=>rfl
   |some d=>
    have htd:(t==d)=false:=by simp only[beq_eq_false_iff_ne];intro e;exact hnd t htl (by rw[hd,e])
    simp only[htd,bG];cases hA:s.A t with
    |none=>rfl
    |some p=>
     have Dz:Cf X Rt (.tmp t)=some p.slot:=by simp only[Cf,hL,bG];exact hs.a t p hA
     have hf:sS u.Ae d (some p)=rK d (some p):=by
      cases hi:u.Ae with
      |false=>exact KQ d _
      |true=>
       obtain⟨d',hd',hL'⟩:=hu.box hi;have tK:d'=d:=by rw[hu.d]at hd;rw[hd]at hd';injection hd' with e;exact e.symm
       subst tK;unfold sS;cases hk:rK d' (some p)with
       |none=>rfl
       |some q=>
        have hqs:q=p:=by
         simp only[rK]at hk;cases Hu:p.tag with
         |none=>rw[Hu]at hk;simpa using hk.symm
         |some g=>
          obtain⟨g,w⟩:=g;rw[Hu]at hk;simp only at hk;cases hg:(g==d')
          ·rw[hg]at hk;simpa using hk.symm
          ·rw[hg]at hk;cases hk
        subst hqs
        have hne:(q.slot==d')=false:=by
         rw[beq_eq_false_iff_ne];intro e;have:rt X Rt x=some q.slot:=by simp only[rt,hax];exact Dz
         exact PD h.c2 hd' hL' (by rw[this,e])
        simp only[hne,Bool.and_false,bG]
     rw[hf];simp only[rK];cases Hu:p.tag with
     |none=>simp only[Hu]
     |some gw=>
      obtain⟨g,w⟩:=gw;simp only;cases hgd:(g==d)
      ·simp only[bG,Hu]
      ·simp only[cq];have as7:g=d:=by simpa using hgd
       have:(tag==some (g,w))=false:=by rw[beq_eq_false_iff_ne];intro e;exact hnd g (ht g w e) (by rw[hd,as7])
       rw[this];cases X.L.contains p.slot<;>rfl
  ·rfl
 ·refine(VE (λe=>?_) (λb' v hb' e=>?_)).symm
  ·rw[hu.d]at e
   have hLb:X.L.contains b=true:=by
    cases hc:X.L.contains b with
    |true=>rfl
    |false=>exfalso;exact atM hs hb hc
   exact PD h.c2 e hLb hb
  ·exact acF h.c2 (hu.bx b' v hb').2 (by rw[←e];exact hb)
 ·show s.σ=u.σ.getD s.σ;cases hs':u.σ with
  |none=>rfl
  |some σ=>
   rcases(PE h.c2 (hu.σ (by rw[hs'];intro e;cases e))).1 with this|⟨this,_⟩
   ·rw[hr]at this;cases this
   ·rw[Ht]at this;cases this
 ·show ug s.σ (u.σ.getD s.σ);cases hs':u.σ with
  |none=>exact FU _
  |some σ=>
   rcases(PE h.c2 (hu.σ (by rw[hs'];intro e;cases e))).1 with this|⟨_,hf⟩
   ·rw[hr]at this;cases this
   ·exact λid cs=>(hτ (by rw[hs'];intro e;cases e) id cs).trans (hu.fr hf σ hs' id cs)
theorem aoe{τ NL:Heap}{x y:Oper}(h:B4 X Rt Bt ops x y){u v:Up}(hu:xH X Rt Bt x (x.looksAt ops) τ u)(hv:xH X Rt Bt y (y.looksAt ops) NL v):u.aeg v:=by
 have half:∀{τ NL:Heap}{x y:Oper}{u v:Up},B4 X Rt Bt ops x y→xH X Rt Bt x (x.looksAt ops) τ u→xH X Rt Bt y (y.looksAt ops) NL v→(∀b a,u.bx=some (b,a)→(∀c a',v.bx=some (c,a')→c≠b)∧v.d≠some b)∧(∀d,v.d=some d→sS v.Ae d u.new=u.new):=by
  intro τ NL x y u v h hu hv;refine⟨λb a hb=>?_,λd hd=>?_⟩
  ·obtain⟨k1,k2⟩:=hu.bx b a hb;refine⟨λc a' hc e=>?_,λe=>?_⟩
   ·have:=(hv.bx c a' hc).2;subst e;exact acF h.c1 k2 (aeR this)
   ·rw[hv.d]at e;exact PD h.c2 e k1 (aeR k2)
  ·cases hn:u.new with
   |none=>rfl
   |some p=>
    obtain⟨k1,k2,k3,k4⟩:=hu.new p hn
    have hkt:rK d (some p)=some p:=by
     simp only[rK];cases Hu:p.tag with
     |none=>rfl
     |some gw=>
      obtain⟨g,w⟩:=gw;simp only
      have:(g==d)=false:=by rw[beq_eq_false_iff_ne];intro e;rw[hv.d]at hd;exact h.dy d hd (e▸k2 g w Hu)
      rw[this];rfl
    unfold sS;rw[hkt];simp only;cases hi:v.Ae with
    |false=>rfl
    |true=>
     obtain⟨d',hd',hL'⟩:=hv.box hi;have tK:d'=d:=by rw[hv.d]at hd;rw[hd]at hd';injection hd' with e;exact e.symm
     subst tK
     have:(p.slot==d')=false:=by rw[beq_eq_false_iff_ne];intro e;exact PD h.c2 hd' hL' (by rw[k3,e])
     simp only[this,Bool.and_false,bG]
 obtain⟨a1,a2⟩:=half h hu hv;obtain⟨b1,b2⟩:=half h.symm hv hu;refine⟨λd hd e=>?_,a1,b1,a2,b2,?_⟩
 ·rw[hu.d]at hd;rw[hv.d]at e;exact h.dd d hd e
 ·cases hs:u.σ with
  |none=>exact .inl rfl
  |some σ=>
   right;have hw:=hu.σ (by rw[hs];intro e;cases e);have hnw:=(PE h.c1 hw).2;cases hs2:v.σ with
   |none=>rfl
   |some σ2=>rw[hv.σ (by rw[hs2];intro e;cases e)]at hnw;cases hnw
theorem aa8{o:Oper}{k:AS→Option R}{r:R}(ho:xY X Rt Bt o):∀(l1 l2:List Oper)(s:AS),RI X Rt Bt s→(∀y∈l1,xY X Rt Bt y)→(∀y∈l1,B4 X Rt Bt ops y o)→wI X true ops (l1++o::l2) s k=some r→pZ X true ops o s (λs1=>wI X true ops (l1++l2) s1 k)=some r
 |[],l2,s,_,_,_,h=>h
 |y::l1,l2,s,hs,hr,hi,h=>by
  simp only[nO,wI]at h;obtain⟨u,u1,u2,u3⟩:=Vh (hr y (by simp)) hs h;have ih:=aa8 ho l1 l2 (u.ap s) (u1.ri hs) (λz hz=>hr z (by simp [hz])) (λz hz=>hi z (by simp [hz])) u2;obtain⟨v,v1,v2,v3⟩:=Vh ho (u1.ri hs) ih;have hy:=hi y (by simp)
  have hbe:v.σ≠none→ug s.σ (u.ap s).σ:=λhv=>by
   have hnu:u.σ=none:=by
    cases hu:u.σ with
    |none=>rfl
    |some σ=>have hw:=(PE hy.c1 (u1.σ (by rw[hu];intro e;cases e))).2;rw[v1.σ hv]at hw;cases hw
   show ug s.σ (u.σ.getD s.σ);rw[hnu];exact FU _
  rw[v3 R _ s (aew hy.symm u1 s hs (λ_=>FU _)).symm];simp only[nO,wI];rw[u3 R _ (v.ap s) (aew hy v1 s hs hbe),Up.comm (aoe hy u1 v1)];exact v2
def Down(ops:Array Oper)(S:Nat→Prop):Prop:=∀i o e,S i→ops[i]? =some o→e∈o.after→Region.binds .any e=true→S e.on
def Qx(ops:Array Oper)(i:Nat)(S:Nat→Prop):Prop:=∀o e,ops[i]? =some o→e∈o.after→Region.binds .any e=true→S e.on
theorem abS(acc:List Nat):∀(es:List Edge)(m j:Nat),(es.foldl (λs e=>bif Region.binds .any e then s ||| 2 ^ e.on ||| acc.getD e.on 0 else s) m).testBit j=true→
  m.testBit j=true∨∃e∈es,Region.binds .any e=true∧(e.on=j∨(acc.getD e.on 0).testBit j=true)
 |[],m,j,h=>.inl h
 |e::es,m,j,h=>by
  simp only[List.foldl_cons]at h;rcases abS acc es _ j h with h|⟨e',he',hb,hx⟩
  ·cases hb:Region.binds .any e
   ·rw[hb]at h;exact .inl h
   ·rw[hb]at h;simp only[cq,Nat.testBit_or,Bool.or_eq_true]at h;rcases h with(h|h)|h
    ·exact .inl h
    ·refine .inr ⟨e,by simp,hb,.inl ?_⟩;rw[Nat.testBit_two_pow]at h;simpa using h
    ·exact .inr ⟨e,by simp,hb,.inr h⟩
  ·exact .inr ⟨e',by simp [he'],hb,hx⟩
theorem abA:∀(l:List Oper)(acc:List Nat),(∀i,l[i]? =ops[acc.length+i]?)→
  (∀(m j:Nat),(acc.getD m 0).testBit j=true→∀S,Down ops S→Qx ops m S→S j)→
  ∀(m j:Nat),((Qe l acc).getD m 0).testBit j=true→∀S,Down ops S→Qx ops m S→S j
 |[],acc,hl,hacc=>hacc
 |o::l,acc,hl,hacc=>by
  simp only[Qe];refine abA l _ (λi=>by have:=hl (i+1);simp at this;rw[this];simp;congr 1;omega) ?_;intro m j h S hS hD;have h0:=hl 0;simp at h0;by_cases hm:m<acc.length
  ·rw[List.getD,jk hm]at h;exact hacc m j h S hS hD
  ·by_cases hm2:m=acc.length
   ·subst hm2;rw[List.getD,jj (aQ _)]at h;simp only[Nat.sub_self,List.getElem?_cons_zero,Option.getD_some]at h;rcases abS acc _ _ j h with h|⟨e,he,hb,hx⟩
    ·simp at h
    ·have hon:S e.on:=hD o e h0.symm (by simpa using he) hb;rcases hx with hx|hx
     ·exact hx▸hon
     ·exact hacc e.on j hx S hS (λo' e' ho' he' hb'=>hS e.on o' e' hon ho' he' hb')
   ·rw[List.getD,jj (by omega),oL (by simp;omega)]at h;simp at h
theorem aac{MG:List Nat}:∀(l:List Oper)(i:Nat),(∀j,l[j]? =ops[i+j]?)→PO X Rt Bt ops MG l i=true→∀n o,i≤n→ops[n]? =some o→∀m y,m<n→ops[m]? =some y→(MG.getD n 0).testBit m=true∨indep X Rt Bt ops y o=true
 |[],i,hl,_,n,o,hn,ho,m,y,hm,hy=>by have:=hl (n-i);rw[show i+(n-i)=n by omega,ho]at this;simp at this
 |x::l,i,hl,h,n,o,hn,ho,m,y,hm,hy=>by
  simp only[PO,jC]at h;by_cases hni:n=i
  ·subst hni;have h0:=hl 0;simp at h0;rw[ho]at h0;injection h0 with h0;subst h0
   have:=wD.1 h.1 (y,m) (by
    rw[List.mem_zipIdx_iff_getElem?];simp only;rw[List.getElem?_take_of_lt hm,Array.getElem?_toList]
    exact hy)
   simpa using this
  ·exact aac l (i+1) (λj=>by have:=hl (j+1);simp at this;rw[this];congr 1;omega) h.2 n o (by omega) ho m y hm hy
theorem aaB:∀(l:List Oper)(i:Nat),(∀j,l[j]? =ops[i+j]?)→PY l i=true→∀n o e,i≤n→ops[n]? =some o→e∈o.after→Region.binds .any e=true→e.on<n
 |[],i,hl,_,n,o,e,hn,ho,he,hb=>by have:=hl (n-i);rw[show i+(n-i)=n by omega,ho]at this;simp at this
 |x::l,i,hl,h,n,o,e,hn,ho,he,hb=>by
  simp only[PY,jC]at h;by_cases hni:n=i
  ·subst hni;have h0:=hl 0;simp at h0;rw[ho]at h0;injection h0 with h0;subst h0
   have:=wD.1 h.1 e (by simpa using he);rw[hb]at this;simpa [Nat.blt_eq]using this
  ·exact aaB l (i+1) (λj=>by have:=hl (j+1);simp at this;rw[this];congr 1;omega) h.2 n o e (by omega) ho he hb
def uw(listed:Array Bool)(n:Nat):List Nat:=(List.range n).filter λi=>!listed.getD i true
def C9(ops:Array Oper)(listed:Array Bool):List Oper:=(uw listed ops.size).filterMap (ops[·]?)
theorem akL{listed:Array Bool}{n i:Nat}(hi:i<n)(hl:listed.getD i true=false)(hs:listed.size=n):
  ∃l1 l2,uw listed n=l1++i::l2∧uw (listed.setIfInBounds i true) n=l1++l2∧∀j∈l1,j<i∧listed.getD j true=false:=by
 refine⟨(List.range i).filter λj=>!listed.getD j true,((List.range' (i+1) (n-i-1))).filter λj=>!listed.getD j true,?_,?_,λj hj=>?_⟩
 ·unfold uw
  rw[show List.range n=List.range i++i::List.range' (i+1) (n-i-1) by
   rw[List.range_eq_range',List.range_eq_range',←List.range'_succ,show n-i-1+1=n-i by omega];have:=List.range'_append_1 (s:=0) (m:=i) (n:=n-i);rw[show 0+i=i by omega,show i+(n-i)=n by omega]at this
   exact this.symm]
  rw[List.filter_append,List.filter_cons,hl];simp
 ·unfold uw
  rw[show List.range n=List.range i++i::List.range' (i+1) (n-i-1) by
   rw[List.range_eq_range',List.range_eq_range',←List.range'_succ,show n-i-1+1=n-i by omega];have:=List.range'_append_1 (s:=0) (m:=i) (n:=n-i);rw[show 0+i=i by omega,show i+(n-i)=n by omega]at this
   exact this.symm]
  rw[List.filter_append,List.filter_cons];have xM:(listed.setIfInBounds i true).getD i true=true:=by simp [Array.getD,hs,hi]
  rw[xM];simp only[Bool.not_true,Bool.false_eq_true,if_false];congr 1
  ·apply List.filter_congr;intro j hj;have:j<i:=by simpa using hj
   rw[qG,qG,Array.getElem?_setIfInBounds_ne (by omega)]
  ·apply List.filter_congr;intro j hj;have:i<j:=by simp at hj;omega
   rw[qG,qG,Array.getElem?_setIfInBounds_ne (by omega)]
 ·rw[List.mem_filter]at hj;exact⟨by simpa using hj.1,by simpa using hj.2⟩
end
end
section
open Go.RowKit
section
variable {X : Fx} {z : Z} {s : AS} {a : Act} {w w' : World} {E : List Pl} {pb : Nat → Option Nat} {R : Type}
theorem Pr(h:St X z s a w E pb){d:Nat}{av:AV}(Hi:s.sl.getD d .undef=av)(h1:av≠.undef)(h2:∀cs,av≠.lbx cs):∃v,a.tmps[d]? =some v∧a.tmps.getD d undef=v∧an (ctx z w E pb) av v:=by
 by_cases hd:d<s.sl.length
 ·have e:s.sl[d]? =some av:=by rw[bR hd];rw[←Hi];simp [List.getD,hd]
  have r:=(h.slot d av e).rep h2;have hd':d<a.tmps.size:=by rw[h.len];exact hd
  exact⟨a.tmps.getD d undef,by simp [Array.getD,hd'],rfl,r⟩
 ·exact absurd (by rw[←Hi];simp [List.getD,Nat.le_of_not_lt hd]) h1
theorem aqu(hs:eZ X)(h:St X z s a w E pb){q:Bool}{ops:Array Oper}{i:Nat}{o:Oper}(hi:ops[i]? =some o){k:AS→Option R}{r:R}(hk:pZ X q ops o s k=some r){K:Act→World→Prop}{Q:Exit→Act→World→Prop}
  (hK:∀s' a' w' E' cM,St X z s' a' w' E' cM→k s'=some r→K a' w'):wpOp X.P ops Q i K a w:=by
 unfold wpOp;rw[hi];simp only;unfold pZ at hk;cases hg:o.guard with
 |none=>rw[hg]at hk;rw[aO (by simp [Region.wanted,hg])];exact .inl (ad1 hs h hk hK)
 |some jw=>
  obtain⟨j,want⟩:=jw;rw[hg]at hk;simp only at hk;cases hd:(ops[j]?).bind (·.dst)with
  |none=>rw[hd]at hk;cases hk
  |some d=>
   rw[hd]at hk;simp only at hk;cases hL:Ld X o d
   ·rw[hL]at hk;simp only[bG]at hk;have Ev:Region.wanted o (yielded ops a.tmps)=(yielded ops a.tmps j==some want):=by simp [Region.wanted,hg]
    have hy:yielded ops a.tmps j=match a.tmps[d]? with|some (.bool b)=>some b|_=>none:=by simp only[yielded,hd,aY];rfl
    cases vQ:JC X o with
    |some fa=>
     obtain⟨f,as'⟩:=fa;rw[vQ]at hk;simp only at hk;obtain⟨rv,e1,e2⟩:=bN.1 hk;generalize oB:s.sl.getD d .undef=gv at e1;cases gv<;>simp only[A.guard]at e1<;>first|(cases e1;done)|skip
     case bool b=>
      obtain⟨v,v1,v2,v3⟩:=Pr h oB (by intro e;cases e) (by intro cs e;cases e);simp only[an]at v3;subst v3;cases A6:(b==want)
      ·rw[A6]at e1;simp only[bG]at e1;injection e1 with e1;subst e1
       have hw:¬Region.wanted o (yielded ops a.tmps)=true:=by rw[Ev,hy,v1];simp at A6 ⊢;exact A6
       rw[aK hw];exact hK _ _ _ _ _ (h.undef o.dst) e2
      ·rw[A6]at e1;simp only[cq]at e1;have QF:b=want:=by simpa using A6
       have hw:Region.wanted o (yielded ops a.tmps)=true:=by rw[Ev,hy,v1];simp [QF]
       rw[aO hw];exact .inl (ad1 (q:=q) hs h (by rw[Ui vQ,e1];exact e2) hK)
     case aL vs=>
      cases vs with
      |cons x xs=>cases e1
      |nil=>
       injection e1 with e1;subst e1
       obtain⟨v,v1,v2,v3⟩:=Pr h oB (by intro e;cases e) (by intro cs e;cases e);simp only[an]at v3;obtain⟨us,rfl,_⟩:=v3;have hw:¬Region.wanted o (yielded ops a.tmps)=true:=by rw[Ev,hy,v1];simp
       rw[aK hw];exact hK _ _ _ _ _ (h.undef o.dst) e2
    |none=>
    rw[vQ]at hk;simp only at hk;cases hp:mz X o s (some (d,want))with
    |some p=>
     obtain⟨b,rr⟩:=p;rw[hp]at hk;simp only at hk;obtain⟨off,e1,e2⟩:=bN.1 hk;subst e1;by_cases hw:Region.wanted o (yielded ops a.tmps)=true
     ·rw[aO hw]
      have ht:uk a (some (d,want)):=by
       rw[Ev,hy]at hw;simp only[uk];split at hw
       ·rename_i b' hb';simp at hw;subst hw;rw[qG,hb'];rfl
       ·simp at hw
      obtain⟨n,k1,k2⟩:=ad4 h ht hp;exact .inl (tY k2 (hK _ _ _ _ _ (h.VO o.dst (λ_=>⟨n,k1,rfl⟩)) e2))
     ·rw[aK hw];refine hK _ _ _ _ _ (h.VO o.dst (λht=>absurd ?_ hw)) e2;rw[Ev,hy];simp only[uk]at ht;rw[qG]at ht;cases hc:a.tmps[d]? with
      |none=>rw[hc]at ht;simp [undef]at ht
      |some v=>rw[hc]at ht;simp at ht;subst ht;simp
    |none=>
     rw[hp]at hk;simp only at hk;obtain⟨av,e1,e2⟩:=bN.1 hk;generalize oB:s.sl.getD d .undef=gv at e1;cases gv<;>simp only[A.guard]at e1<;>first|(cases e1;done)|skip
     case bool b=>
      obtain⟨v,v1,v2,v3⟩:=Pr h oB (by intro e;cases e) (by intro cs e;cases e);simp only[an]at v3;subst v3;cases A6:(b==want)
      ·rw[A6]at e1;simp only[bG]at e1;injection e1 with e1;subst e1
       have hw:¬Region.wanted o (yielded ops a.tmps)=true:=by rw[Ev,hy,v1];simp at A6 ⊢;exact A6
       rw[aK hw];exact hK _ _ _ _ _ (h.undef o.dst) e2
      ·rw[A6]at e1;simp only[cq]at e1;have QF:b=want:=by simpa using A6
       have hw:Region.wanted o (yielded ops a.tmps)=true:=by rw[Ev,hy,v1];simp [QF]
       rw[aO hw];have ht:uk a (some (d,want)):=by simp only[uk];rw[v2,QF]
       exact .inl (ad5 hs h ht e1 λv w' E' h3 h4=>hK _ _ _ _ _ (h3.put o.dst h4) e2)
     case aL vs=>
      cases vs with
      |cons x xs=>cases e1
      |nil=>
       injection e1 with e1;subst e1
       obtain⟨v,v1,v2,v3⟩:=Pr h oB (by intro e;cases e) (by intro cs e;cases e);simp only[an]at v3;obtain⟨us,rfl,_⟩:=v3;have hw:¬Region.wanted o (yielded ops a.tmps)=true:=by rw[Ev,hy,v1];simp
       rw[aK hw];exact hK _ _ _ _ _ (h.undef o.dst) e2
   ·rw[hL]at hk;cases hk
def Fr(X:Fx)(ds:List Nat)(s s':AS):Prop:=∀i,i∉ds→X.L.contains i=false→s'.sl[i]? =s.sl[i]?
theorem Fr.refl(ds:List Nat)(s:AS):Fr X ds s s:=λ_ _ _=>rfl
theorem Fr.trans{d1 d2:List Nat}{s s' s'':AS}(h:Fr X d1 s s')(k:Fr X d2 s' s''):Fr X (d1++d2) s s'':=λi hi hL=>by rw[jP]at hi;exact(k i (λe=>hi (.inr e)) hL).trans (h i (λe=>hi (.inl e)) hL)
theorem Fr.mono{d1 d2:List Nat}{s s':AS}(h:Fr X d1 s s')(k:∀i∈d1,i∈d2):Fr X d2 s s':=λi hi hL=>h i (λe=>hi (k i e)) hL
theorem Fr.put(d:Option Nat)(v:AV)(s:AS):Fr X d.toList s (s.put X d v):=λi hi hL=>by
 cases d with
 |none=>rfl
 |some d=>simp only[AS.put];rw[lp,aK];intro e;subst e;simp at hi
theorem Fr.pU(d:Option Nat)(b off:Nat)(tag:Option (Nat×Bool))(s:AS):Fr X d.toList s (s.pU X d b off tag):=λi hi hL=>by
 cases d with
 |none=>rfl
 |some d=>simp only[AS.pU];rw[lp,aK];intro e;subst e;simp at hi
theorem Fr.rO(d:Nat)(cs:List AV)(s:AS):Fr X [d] s (s.rO d cs):=λi hi hL=>by simp only[AS.rO];rw[lp,aK];intro e;subst e;simp at hi
theorem Fr.sw(d:Option Nat)(v:AV)(σ:Heap)(s:AS):Fr X d.toList s ((s.heap σ).put X d v):=λi hi hL=>by
 cases d with
 |none=>rfl
 |some d=>simp only[AS.put,AS.heap];rw[lp,aK];intro e;subst e;simp at hi
theorem Fr.ap5(d:Option Nat)(v:AV)(b:Nat)(cs:List AV)(hb:X.L.contains b=true)(s:AS):Fr X d.toList s ((⟨s.sl.set b (.lbx cs),s.A,s.σ⟩:AS).put X d v):=λi hi hL=>by
 have hbi:b≠i:=λe=>by rw[e,hL]at hb;cases hb
 cases d with
 |none=>simp only[AS.put];rw[lp,aK hbi]
 |some d=>simp only[AS.put];rw[lp,aK,lp,aK hbi];intro e;subst e;simp at hi
theorem apu{tag:Option (Nat×Bool)}{x:Operand}{b off:Nat}(h:place X s tag x=some (b,off)):X.L.contains b=true:=by
 cases x with
 |tmp t=>
  simp only[place]at h;cases hL:X.L.contains t
  ·rw[hL]at h;simp only[bG]at h;split at h
   ·rename_i p hA;cases hp:X.L.contains p.slot
    ·rw[hp]at h;cases h
    ·rw[hp]at h;simp only[cq]at h;split at h
     ·simp only[Option.some.injEq,Prod.mk.injEq]at h;rw[←h.1];exact hp
     ·rename_i g hg;cases ht:(tag==some g)
      ·rw[ht]at h;cases h
      ·rw[ht]at h;simp only[cq,Option.some.injEq,Prod.mk.injEq]at h;rw[←h.1];exact hp
   ·cases h
  ·rw[hL]at h;simp only[cq,Option.some.injEq,Prod.mk.injEq]at h;rw[←h.1];exact hL
 |_=>simp [place]at h
theorem bind_congr{α β:Type}{x:Option α}{f g:α→Option β}(h:∀a,x=some a→f a=g a):x.bind f=x.bind g:=by cases x with|none=>rfl|some a=>exact h a rfl
theorem aj3{x:AV}{σ:Heap}{f g:Nat→Heap→Option R}(h:∀n σ,f n σ=g n σ):A.Mf x σ f=A.Mf x σ g:=by
 have:f=g:=funext λn=>funext λσ=>h n σ
 rw[this]
theorem ajk{x:AV}{σ:Heap}{f g:AV→Heap→Option R}(h:∀v σ,f v σ=g v σ):A.wA x σ f=A.wA x σ g:=by
 have:f=g:=funext λn=>funext λσ=>h n σ
 rw[this]
theorem akn{q str:Bool}{i:Operand}{dst:Option Nat}{k k2:AS→Option R}(h:∀s',Fr X dst.toList s s'→k s'=k2 s'):
  (bif q||str then none else A.wA (ev X s i) s.σ λv σ=>k ((s.heap σ).put X dst v))=(bif q||str then none else A.wA (ev X s i) s.σ λv σ=>k2 ((s.heap σ).put X dst v)):=by
 cases(q||str)
 ·simp only[bG];exact ajk λ_ _=>h _ (Fr.sw _ _ _ _)
 ·rfl
theorem al7{q:Bool}{o:Oper}{k k2:AS→Option R}(h:∀s',Fr X o.dst.toList s s'→k s'=k2 s'):jg X q o s k=jg X q o s k2:=by
 unfold jg;cases hp:mz X o s none with
 |some p=>obtain⟨b,rr⟩:=p;exact bind_congr λp _=>h _ (Fr.pU _ _ _ _ _)
 |none=>
  simp only;have dflt:((iP X o s none).bind λv=>k (s.put X o.dst v))=(iP X o s none).bind λv=>k2 (s.put X o.dst v):=bind_congr λv _=>h _ (Fr.put _ _ _)
  obtain⟨dst,op,ty,pos,af,g⟩:=o;cases op<;>simp only<;>first|exact akn h|exact dflt|skip
  case alloc t=>
   cases dst with
   |none=>rfl
   |some d=>
    simp only;cases X.L.contains d
    ·simp only[bG];cases X.O.contains d
     ·exact dflt
     ·simp only[cq];split
      ·exact h _ (Fr.sw _ _ _ _)
      ·rfl
    ·simp only[cq];split
     ·exact h _ (Fr.rO _ _ _)
     ·rfl
  case box t x=>
   cases dst with
   |none=>rfl
   |some d=>
    simp only;cases X.L.contains d
    ·simp only[bG];cases X.O.contains d
     ·exact dflt
     ·exact bind_congr λcs _=>h _ (Fr.sw _ _ _ _)
    ·exact bind_congr λcs _=>h _ (Fr.rO _ _ _)
  case store t x v=>
   split
   ·rename_i b off hpl;exact bind_congr λ_ _=>bind_congr λ_ _=>bind_congr λ_ _=>h _ (Fr.ap5 _ _ _ _ (apu hpl) _)
   ·exact bind_congr λ_ _=>bind_congr λ_ _=>h _ (Fr.sw _ _ _ _)
  case makeMap t rr=>
   cases rr with
   |none=>exact h _ (Fr.sw _ _ _ _)
   |some x=>rfl
  case range t x=>
   split
   ·exact bind_congr λ_ _=>h _ (Fr.sw _ _ _ _)
   ·rfl
  case buildSlice t n ps=>
   cases dst with
   |none=>exact dflt
   |some d=>
    simp only;cases X.O.contains d
    ·exact dflt
    ·simp only[cq];refine bind_congr λv _=>?_
     unfold A.JN;split
     ·cases(List.length _==0)
      ·exact h _ (Fr.sw _ _ _ _)
      ·rfl
     ·rfl
  case mapUpdate t m i v=>
   split
   ·split
    ·exact bind_congr λ_ _=>h _ (Fr.sw _ _ _ _)
    ·rfl
   ·rfl
  case call c=>
   split
   ·split
    ·split
     ·split
      ·cases qj _
       ·exact bind_congr λ_ _=>h _ (Fr.sw _ _ _ _)
       ·rfl
      ·rfl
     ·split
      ·cases qj _
       ·exact bind_congr λ_ _=>h _ (Fr.sw _ _ _ _)
       ·rfl
      ·rfl
     ·rfl
    ·rfl
   ·split
    ·split
     ·split
      ·cases qj _
       ·exact bind_congr λ_ _=>h _ (Fr.sw _ _ _ _)
       ·rfl
      ·rfl
     ·rfl
    ·rfl
   ·cases hv:iP X _ s none
    ·simp only[A.Me];cases q
     ·simp only[bG];split
      ·split
       ·exact aj3 λ_ _=>h _ (Fr.sw _ _ _ _)
       ·rfl
      ·rfl
     ·rfl
    ·exact h _ (Fr.put _ _ _)
   ·split
    ·split
     ·split
      ·cases qj _
       ·exact bind_congr λ_ _=>h _ (Fr.sw _ _ _ _)
       ·rfl
      ·rfl
     ·rfl
    ·rfl
   ·split
    ·split
     ·split
      ·exact bind_congr λ_ _=>h _ (Fr.sw _ _ _ _)
      ·rfl
     ·rfl
    ·rfl
   ·exact dflt
   ·cases(q&&!X.W.contains _)
    ·exact bind_congr λ_ _=>h _ (Fr.sw _ _ _ _)
    ·exact dflt
   ·cases q
    ·exact bind_congr λ_ _=>h _ (Fr.sw _ _ _ _)
    ·exact dflt
   ·rfl
theorem al8{q:Bool}{ops:Array Oper}{o:Oper}{k k2:AS→Option R}(h:∀s',Fr X o.dst.toList s s'→k s'=k2 s'):pZ X q ops o s k=pZ X q ops o s k2:=by
 unfold pZ;split
 ·exact al7 h
 ·split
  ·cases Ld X o _
   ·simp only[bG];split
    ·exact bind_congr λ_ _=>h _ (Fr.sw _ _ _ _)
    ·split
     ·exact bind_congr λ_ _=>h _ (Fr.pU _ _ _ _ _)
     ·exact bind_congr λ_ _=>h _ (Fr.put _ _ _)
   ·rfl
  ·rfl
theorem ac0(hs:eZ X)(h:St X z s a w E pb){q:Bool}{ops:Array Oper}{i:Nat}{o:Oper}(hi:ops[i]? =some o){k:AS→Option R}{r:R}(hk:pZ X q ops o s k=some r){K:Act→World→Prop}{Q:Exit→Act→World→Prop}
  (hK:∀s' a' w' E' cM,St X z s' a' w' E' cM→Fr X o.dst.toList s s'→k s'=some r→K a' w'):wpOp X.P ops Q i K a w:=by
 classical
 have e:pZ X q ops o s k=pZ X q ops o s (λs'=>if Fr X o.dst.toList s s' then k s' else none):=al8 λs' hf=>by rw[aO hf]
 rw[e]at hk;refine aqu hs h hi hk λs' a' w' E' cM h' hk'=>?_
 split at hk'
 ·exact hK s' a' w' E' cM h' (by assumption) hk'
 ·cases hk'
theorem ac3(hs:eZ X){q:Bool}{ops:Array Oper}{Q:Exit→Act→World→Prop}{r:R}{k:AS→Option R}{s0:AS}:
  ∀(l:List Oper)(i:Nat)(s:AS)(a:Act)(w:World)(E:List Pl)(pb:Nat→Option Nat),(∀j,l[j]? =ops[i+j]?)→St X z s a w E pb→wI X q ops l s k=some r→
   (∀s' a' w' E' cM,St X z s' a' w' E' cM→Fr X (l.filterMap (·.dst)) s s'→k s'=some r→Q .normal a' w')→wpOps X.P ops Q (List.range' i l.length) a w
 |[],i,s,a,w,E,pb,_,h,hk,hQ=>by simpa [wpOps]using hQ _ _ _ _ _ h (Fr.refl _ _) hk
 |o::l,i,s,a,w,E,pb,hl,h,hk,hQ=>by
  have h0:=hl 0;simp at h0;simp only[List.length_cons,List.range'_succ];rw[wpOps_cons];refine ac0 hs h h0.symm hk λs' a' w' E' cM h' hf hk'=>?_
  refine ac3 hs (s0:=s0) l (i+1) s' a' w' E' cM (λj=>by have:=hl (j+1);simp at this;rw[this];congr 1;omega) h' hk' λs2 a2 w2 E2 X0 h2 tL hk2=>hQ s2 a2 w2 E2 X0 h2 ((hf.trans tL).mono ?_) hk2
  intro j hj;rw[List.filterMap_cons];cases hd:o.dst with
  |none=>rw[hd]at hj;simpa using hj
  |some d=>rw[hd]at hj;simpa using hj
theorem apq(hs:eZ X){Rt:List (Nat×Nat)}{Bt:List Nat}(h:St X z s a w E pb)(hI:RI X Rt Bt s){ops:Array Oper}{i:Nat}{o:Oper}(hR:xY X Rt Bt o)(hi:ops[i]? =some o){k:AS→Option R}{r:R}(hk:pZ X true ops o s k=some r){K:Act→World→Prop}{Q:Exit→Act→World→Prop}
  (hK:∀s' a' w' E' cM,St X z s' a' w' E' cM→Fr X o.dst.toList s s'→RI X Rt Bt s'→k s'=some r→K a' w'):wpOp X.P ops Q i K a w:=by
 classical
 have e:pZ X true ops o s (λs'=>if RI X Rt Bt s' then k s' else none)=some r:=by obtain⟨u,h1,h2,h3⟩:=Vh hR hI hk;rw[h3 R _ s (λtag _=>⟨hI,hI,λ_ _ _=>rfl,λ_ _=>rfl,λ_ _=>rfl,λ_ _=>rfl,λ_ _=>FU _⟩),aO (h1.ri hI)];exact h2
 refine ac0 hs h hi e λs' a' w' E' cM h' hf hk'=>?_
 split at hk'
 ·exact hK s' a' w' E' cM h' hf (by assumption) hk'
 ·cases hk'
theorem am2(hs:eZ X){Rt:List (Nat×Nat)}{Bt:List Nat}{ops:Array Oper}{Q:Exit→Act→World→Prop}{r:R}{k:AS→Option R}{s0:AS}(Vt:∀n o e,ops[n]? =some o→e∈o.after→Region.binds .any e=true→e.on<n)
  (art:∀n o m y,ops[n]? =some o→m<n→ops[m]? =some y→(∀S,Down ops S→Qx ops n S→S m)∨B4 X Rt Bt ops y o) (V7:∀(n:Nat)(o:Oper),ops[n]? =some o→xY X Rt Bt o)
  (hQ:∀s' a' w' E' cM,St X z s' a' w' E' cM→Fr X (ops.toList.filterMap (·.dst)) s0 s'→k s'=some r→Q .normal a' w'):
  ∀(fuel:Nat)(listed:Array Bool)(s:AS)(a:Act)(w:World)(E:List Pl)(pb:Nat→Option Nat),listed.size=ops.size→(uw listed ops.size).length≤fuel→Down ops (λi=>listed.getD i true=true)→St X z s a w E pb→RI X Rt Bt s→wI X true ops (C9 ops listed) s k=some r→Fr X (ops.toList.filterMap (·.dst)) s0 s→
   wpAny X.P .any ops Q fuel listed a w:=by
 have hnone:∀(listed:Array Bool),uw listed ops.size=[]→Region.ready .any ops listed=[]:=by intro listed h;unfold Region.ready;rw[List.filter_eq_nil_iff];intro i hi hr;simp only[jC]at hr;have:i∈uw listed ops.size:=List.mem_filter.2 ⟨hi,hr.1⟩;rw[h]at this;simp at this
 have hsome:∀(listed:Array Bool),listed.size=ops.size→Region.ready .any ops listed=[]→uw listed ops.size=[]:=by
  intro listed hsz hr;cases AI:uw listed ops.size with
  |nil=>rfl
  |cons i0 tl=>
   exfalso;have hm:i0∈uw listed ops.size:=by rw[AI];simp
   obtain⟨h1,h2⟩:=List.mem_filter.1 hm;have hlt:i0<ops.size:=by simpa using h1
   have hpw:(uw listed ops.size).Pairwise (·<·):=List.Pairwise.filter _ List.pairwise_lt_range;rw[AI,List.pairwise_cons]at hpw
   have hall:∀j,j<i0→listed.getD j true=true:=by
    intro j hj;cases hc:listed.getD j true with
    |true=>rfl
    |false=>
     have:j∈uw listed ops.size:=List.mem_filter.2 ⟨by simp;omega,by simp [hc]⟩;rw[AI]at this;rcases jt.1 this with e|e
     ·omega
     ·have:=hpw.1 j e;omega
   have:i0∈Region.ready .any ops listed:=by
    unfold Region.ready;refine List.mem_filter.2 ⟨h1,?_⟩;rw[jC];refine⟨h2,?_⟩;rw[xG hlt];simp only[cC,Option.getD_some];rw[Array.all_eq_true_iff_forall_mem];intro e he;cases hb:Region.binds .any e with
    |false=>rfl
    |true=>have hon:=Vt i0 _ e (xG hlt) he hb;have:=hall e.on hon;rw[qG,xG (by omega)]at this;simp only[Option.getD_some]at this;rw[qG,xG (by omega)];simp [this]
   rw[hr]at this;simp at this
 intro fuel;induction fuel with
 |zero=>intro listed s a w E pb hsz hle hdn h hI hk hf;have AI:uw listed ops.size=[]:=Am (by omega);refine⟨hnone listed AI,hQ s a w E pb h hf ?_⟩;simpa [C9,AI,wI]using hk
 |succ fuel ih=>
  intro listed s a w E pb hsz hle hdn h hI hk hf;refine⟨λhr=>hQ s a w E pb h hf (by simpa [C9,hsome listed hsz hr,wI]using hk),λi hi=>?_⟩;unfold Region.ready at hi;obtain⟨h1,h2⟩:=List.mem_filter.1 hi;rw[jC]at h2;obtain⟨h2,h3⟩:=h2;have hlt:i<ops.size:=by simpa using h1
  have hun:listed.getD i true=false:=by simpa using h2
  have ho:ops[i]? =some ops[i]:=xG hlt
  have aeB:Qx ops i (λj=>listed.getD j true=true):=by intro o e M6 he hb;rw[M6]at h3;simp only[cC,Option.getD_some]at h3;rw[Array.all_eq_true_iff_forall_mem]at h3;have h4:=h3 e he;rw[hb]at h4;simp only[Bool.not_true,Bool.false_or]at h4;have hon:=Vt i o e M6 he hb;rw[qG,xG (by omega)]at h4;simp only[Option.getD_some]at h4;show listed.getD e.on true=true;rw[qG,xG (by omega)];simpa using h4
  obtain⟨l1,l2,e1,e2,e3⟩:=akL hlt hun hsz
  have AI:C9 ops listed=l1.filterMap (ops[·]?)++ops[i]::l2.filterMap (ops[·]?):=by unfold C9;rw[e1,List.filterMap_append,List.filterMap_cons,ho]
  have arv:C9 ops (listed.setIfInBounds i true)=l1.filterMap (ops[·]?)++l2.filterMap (ops[·]?):=by unfold C9;rw[e2,List.filterMap_append]
  rw[AI]at hk
  have atk:∀y∈l1.filterMap (ops[·]?),xY X Rt Bt y:=by intro y hy;obtain⟨j,hj,XH⟩:=List.mem_filterMap.1 hy;exact V7 j y XH
  have atb:∀y∈l1.filterMap (ops[·]?),B4 X Rt Bt ops y ops[i]:=by
   intro y hy;obtain⟨j,hj,XH⟩:=List.mem_filterMap.1 hy;obtain⟨j1,j2⟩:=e3 j hj;rcases art i ops[i] j y ho j1 XH with k1|k1
   ·have:=k1 _ hdn aeB;rw[j2]at this;cases this
   ·exact k1
  have aqk:=aa8 (V7 i _ ho) _ _ s hI atk atb hk;refine apq hs h hI (V7 i _ ho) ho aqk λs' a' w' E' cM h' hf' Xw hk'=>?_
  rw[←arv]at hk';refine ih _ s' a' w' E' cM (by simpa using hsz) ?_ ?_ h' Xw hk' ((hf.trans hf').mono ?_)
  ·rw[e2];rw[e1]at hle;simp at hle ⊢;omega
  ·intro j o e hj XJ he hb;by_cases hji:j=i
   ·subst hji;have:=aeB o e XJ he hb;show(listed.setIfInBounds j true).getD e.on true=true;have hon:=Vt j o e XJ he hb;rw[qG,Array.getElem?_setIfInBounds_ne (by omega),←qG];exact this
   ·have hj':listed.getD j true=true:=by replace hj:(listed.setIfInBounds i true).getD j true=true:=hj;rw[qG,Array.getElem?_setIfInBounds_ne (λe=>hji e.symm),←qG]at hj;exact hj
    have:=hdn j o e hj' XJ he hb;show(listed.setIfInBounds i true).getD e.on true=true;by_cases hei:e.on=i
    ·rw[hei];simp [Array.getD,hsz,hlt]
    ·rw[qG,Array.getElem?_setIfInBounds_ne (λe'=>hei e'.symm),←qG];exact this
  ·intro d hd;rcases jP.1 hd with hd|hd
   ·exact hd
   ·refine List.mem_filterMap.2 ⟨ops[i],by simp,?_⟩;cases tK:ops[i].dst with
    |none=>rw[tK]at hd;simp at hd
    |some d'=>rw[tK]at hd;simp at hd;rw[hd]
theorem Ty{t b:Nat}:∀{l:List (Nat×Nat)},l.lookup t=some b→(t,b)∈l
 |[],h=>by cases h
 |(t',b')::l,h=>by
  simp only[List.lookup]at h;cases hc:(t==t')
  ·rw[hc]at h;exact sM _ (Ty h)
  ·rw[hc]at h;simp only[Option.some.injEq]at h;have:t=t':=by simpa using hc
   subst this;subst h;exact List.mem_cons_self
theorem aoH(hs:eZ X){ops:Array Oper}{Q:Exit→Act→World→Prop}{r:R}{k:AS→Option R}(hok:Li X ops s.sl=true)(hA:∀t,s.A t=none)(hQ:∀s' a' w' E' cM,St X z s' a' w' E' cM→Fr X (ops.toList.filterMap (·.dst)) s s'→k s'=some r→Q .normal a' w'){id:Nat}
  (h:St X z s a w E pb) (hk:wI X true ops ops.toList s k=some r):(Code.region id ops true).wp X.P Q a w:=by
 obtain⟨Rt,Bt,hok⟩:∃Rt Bt,O1 X Rt Bt ops s.sl=true:=by
  unfold Li at hok;rcases Bool.or_eq_true_iff.1 hok with h|h
  ·exact⟨_,_,h⟩
  ·exact⟨_,_,h⟩
 unfold O1 at hok;simp only[jC]at hok;obtain⟨⟨⟨⟨⟨⟨⟨h1,h2⟩,h3⟩,h4⟩,h5⟩,h6⟩,h7⟩,h8⟩:=hok
 have hI:RI X Rt Bt s:=by
  refine⟨λt b hl=>?_,λt p hp=>(by rw[hA t]at hp;cases hp),λt b hl _=>?_,λt ht=>wD.1 h8 t (by simpa using ht)⟩
  ·have:=wD.1 h6 (t,b) (Ty hl);exact this
  ·have:=wD.1 h5 (t,b) (Ty hl);exact this
 have aeD:∀j,ops.toList[j]? =ops[0+j]? :=λj=>by simp
 have AI:uw (Array.replicate ops.size false) ops.size=List.range ops.size:=by
  unfold uw;rw[List.filter_eq_self];intro i hi;have:i<ops.size:=by simpa using hi
  simp [Array.getD,this]
 have arw:C9 ops (Array.replicate ops.size false)=ops.toList:=by
  unfold C9;rw[AI]
  have gen:∀(l pre:List Oper),(List.range' pre.length l.length).filterMap (λi=>(pre++l)[i]?)=l:=by
   intro l;induction l with
   |nil=>intro pre;rfl
   |cons x l ih=>intro pre;simp only[List.length_cons,List.range'_succ,List.filterMap_cons];rw[jj (aQ _)];simp only[Nat.sub_self,List.getElem?_cons_zero];have:=ih (pre++[x]);simp only[List.length_append,List.length_cons,List.length_nil,Nat.zero_add,mm,nO,List.nil_append]at this;rw[this]
  have:=gen ops.toList [];rw[List.range_eq_range'];simpa using this
 refine wp_region_any h1 (am2 (s0:=s) hs (λn o e ho he hb=>aaB ops.toList 0 aeD h2 n o e (jQ _) ho he hb) (λn o m y ho hm hy=>?_) (λn o ho=>xY.of (wD.1 h4 o (by have:=Array.mem_of_getElem? ho;simpa using this)) (wD.1 h7 o (by have:=Array.mem_of_getElem? ho;simpa using this))) hQ ops.size _ s a _ E pb (by simp) (by rw[AI];simp) ?_ (h.grow (w':=w.drew) ((Below.refl _ _).drew)) hI (by rw[arw];exact hk) (Fr.refl _ _))
 ·rcases aac ops.toList 0 aeD h3 n o (jQ _) ho m y hm hy with k1|k1
  ·left;exact λS hS hD=>abA ops.toList [] (λi=>by simp) (λm j h=>by simp at h) n m k1 S hS hD
  ·exact .inr (alR k1)
 ·intro i o e hi ho he hb;have hlt:i<ops.size:=(xF.1 ho).1;exfalso;simp [Array.getD,hlt]at hi
theorem St.XY(h:St X z s a w E pb):St X z ⟨s.sl,λ_=>none,s.σ⟩ a w E pb:=
 ⟨h.len,h.uu,h.slot,h.box,(λt p hp=>by cases hp),h.priv,h.inj,h.heap,h.defers,h.out,h.nm⟩
def AX.to:AX→Exit
 |.normal=>.normal
 |.exit i=>.exit i
 |.ret=>.ret
theorem On:∀(ds:List Nat)(sl:List AV)(i:Nat),(zR sl ds).length=sl.length∧((zR sl ds)[i]? =sl[i]? ∨(zR sl ds)[i]? =some .undef)∧(i∉ds→(zR sl ds)[i]? =sl[i]?)∧(i∈ds→i<sl.length→(zR sl ds)[i]? =some .undef)
 |[],sl,i=>⟨rfl,.inl rfl,λ_=>rfl,λh=>by simp at h⟩
 |d::ds,sl,i=>by
  obtain⟨h1,h2,h3,h4⟩:=On ds (sl.set d .undef) i;simp only[zR]
  have xM:(sl.set d .undef)[i]? =if d=i then(if i<sl.length then some .undef else none)else sl[i]? :=by
   rw[lp];by_cases e:d=i
   ·subst e;simp
   ·simp [e]
  have hnone:¬i<sl.length→sl[i]? =none:=λk=>oL (by omega)
  refine⟨by rw[h1];simp,?_,λhi=>?_,λhi hl=>?_⟩
  ·rcases h2 with h2|h2
   ·rw[h2,xM];by_cases e:d=i
    ·rw[aO e];split
     ·exact .inr rfl
     ·rename_i k;rw[hnone k];exact .inl rfl
    ·rw[aK e];exact .inl rfl
   ·exact .inr h2
  ·simp only[jt,not_or]at hi;rw[h3 hi.2,xM,aK (λe=>hi.1 e.symm)]
  ·by_cases hm:i∈ds
   ·exact h4 hm (by simpa using hl)
   ·simp only[jt]at hi;have:i=d:=hi.resolve_right hm;rw[h3 hm,xM,aO this.symm,aO hl]
theorem OQ(vs:List AV):∀(live:List Nat)(j:Nat)(sl:List AV)(i:Nat),(Js vs sl live j).length=sl.length∧(i∉live→(Js vs sl live j)[i]? =sl[i]?)∧(i∈live→i<sl.length→∃n,n<live.length∧live[n]? =some i∧(Js vs sl live j)[i]? =some (vs.getD (j+n) .undef))
 |[],j,sl,i=>⟨rfl,λ_=>rfl,λh=>by simp at h⟩
 |d::live,j,sl,i=>by
  obtain⟨h1,h2,h3⟩:=OQ vs live (j+1) (sl.set d (vs.getD j .undef)) i;simp only[Js];refine⟨by rw[h1];simp,λhi=>?_,λhi hl=>?_⟩
  ·simp only[jt,not_or]at hi;rw[h2 hi.2,lp,aK (λe=>hi.1 e.symm)]
  ·by_cases hm:i∈live
   ·obtain⟨n,k1,k2,k3⟩:=h3 hm (by simpa using hl);exact⟨n+1,by simp;omega,by simpa using k2,by rw[k3];congr 2;omega⟩
   ·simp only[jt]at hi;have:i=d:=hi.resolve_right hm;subst this;exact⟨0,by simp,rfl,by rw[h2 hm,lp];simp [hl]⟩
theorem St.meet{s s':AS}(h:St X z s' a w E pb){mods live:List Nat}(hl:s.sl.length=s'.sl.length)(hf:∀i,i∉mods→s'.sl[i]? =s.sl[i]?):St X z (s.meet mods live (vals s'.sl live) s'.σ) a w E pb:=by
 have mu:∀i:Nat,(s.meet mods live (vals s'.sl live) s'.σ).sl[i]? =s'.sl[i]? ∨(s.meet mods live (vals s'.sl live) s'.σ).sl[i]? =some AV.undef:=by
  intro i;simp only[AS.meet];obtain⟨c1,c2,c3,c4⟩:=On mods s.sl i;obtain⟨m1,m2,m3⟩:=OQ (vals s'.sl live) live 0 (zR s.sl mods) i;by_cases hm:i∈live
  ·by_cases hlt:i<s.sl.length
   ·obtain⟨n,k1,k2,k3⟩:=m3 hm (by rw[c1];exact hlt);left;rw[k3,Nat.zero_add]
    have:(vals s'.sl live).getD n .undef=s'.sl.getD i .undef:=by simp only[vals,List.getD,qH,k2];rfl
    rw[this,bR (by omega)];simp [List.getD,show i<s'.sl.length by omega]
   ·left;rw[oL (by rw[m1,c1];omega),oL (by omega)]
  ·rw[m2 hm];by_cases hd:i∈mods
   ·by_cases hlt:i<s.sl.length
    ·exact .inr (c4 hd hlt)
    ·left;rw[oL (by rw[c1];omega),oL (by omega)]
   ·left;rw[c3 hd,hf i hd]
 have hlen:(s.meet mods live (vals s'.sl live) s'.σ).sl.length=s'.sl.length:=by simp only[AS.meet];rw[(OQ (vals s'.sl live) live 0 (zR s.sl mods) 0).1,(On mods s.sl 0).1];exact hl
 refine⟨by rw[h.len,hlen],by rw[hlen,h.uu],λi av hi=>?_,λi cs hi=>?_,(λt p hp=>by cases hp),h.priv,h.inj,h.heap,h.defers,h.out,h.nm⟩
 ·rcases mu i with e|e
  ·rw[e]at hi;exact h.slot i av hi
  ·rw[e]at hi;injection hi with hi;subst hi;trivial
 ·rcases mu i with e|e
  ·rw[e]at hi;exact h.box i cs hi
  ·rw[e]at hi;cases hi
end
end
section
open Go.RowKit
section
variable {X : Fx} {z : Z}
theorem force_eq{R:Type}:∀(l:List AV)(k:List AV→Option R),force l k=k l
 |[],k=>rfl
 |x::l,k=>by simp only[force];rw[force_eq l]
theorem ac4{R:Type}{q:Bool}{ops:Array Oper}:∀(l:List Oper)(s:AS)(k:AS→Option R),Mu X q ops l s k=wI X q ops l s k
 |[],s,k=>rfl
 |o::l,s,k=>by simp only[Mu,wI];congr 1;funext s;rw[force_eq];exact ac4 l _ k
theorem aaE{α:Type}{c:AV}{t e:Option α}{r:α}(h:A.cond c t e=some r):(c=.bool true∧t=some r)∨(c=.bool false∧e=some r):=by
 cases c<;>simp only[A.cond]at h<;>first|(cases h;done)|skip
 rename_i b;cases b
 ·exact .inr ⟨rfl,h⟩
 ·exact .inl ⟨rfl,h⟩
theorem alX{f:List AV→Heap→Option (AX×List AV×Heap)}{v:List AV}{σ:Heap}{r:AX×List AV×Heap}(h:A.loop f v σ=some r):∃n,A.iter f n v σ=some r:=by
 unfold A.loop at h;split at h
 ·rename_i hx;injection h with h
  exact⟨_,h▸Classical.choose_spec (Classical.choose_spec hx)⟩
 ·cases h
theorem akj{R:Type}{f:List AV→Heap→(AX×List AV×Heap→Option R)→Option R}{v:List AV}{σ:Heap}{K:AX×List AV×Heap→Option R}{r:R}(h:A.CO f v σ K=some r):∃n,A.Af f n v σ K=some r:=by
 unfold A.CO at h;split at h
 ·rename_i hx;injection h with h
  obtain⟨n,hn⟩:=Classical.choose_spec hx;exact⟨n,h▸hn n (aQ _)⟩
 ·cases h
theorem Po{R:Type}{e:AX}{k:AX→Option R}{r:R}:∀{xs:List AX},A.sel e k xs=some r→k e=some r
 |[],h=>by cases h
 |x::xs,h=>by
  simp only[A.sel]at h;cases he:(e==x)
  ·rw[he]at h;exact Po h
  ·rw[he]at h;have:e=x:=by simpa using he
   subst this;exact h
theorem Jc{X:Fx}{c:Code}{ds:List Nat}{s s':AS}(h:Fr X ds s s'):∀i,i∉ds++X.L→s'.sl[i]? =s.sl[i]? :=λi hi=>by
 rw[jP]at hi
 exact h i (λe=>hi (.inl e)) (by
  cases hc:X.L.contains i
  ·rfl
  ·exact absurd (List.contains_iff_mem.1 hc) (λe=>hi (.inr e)))
theorem Ee{X:Fx}{s:AS}{ds live:List Nat}{vs:List AV}{σ:Heap}(hl:(live.all λd=>(ds++X.L).contains d)=true):Fr X ds s (s.meet (ds++X.L) live vs σ):=λi hi hL=>by
 have hni:i∉ds++X.L:=by
  rw[jP];rintro(e|e)
  ·exact hi e
  ·rw[List.contains_iff_mem.2 e]at hL;cases hL
 simp only[AS.meet];rw[(OQ vs live 0 (zR s.sl (ds++X.L)) i).2.1 (λe=>hni ?_),(On (ds++X.L) s.sl i).2.2.1 hni];exact List.contains_iff_mem.1 (wD.1 hl i e)
theorem ZC{live:List Nat}{e:AX}{s:AS}{r:List AV×Heap}(h:P9 live e s=some r):e=.normal∧r=(vals s.sl live,s.σ):=by cases e<;>simp only[P9]at h<;>first|(cases h;done)|(injection h with h;exact⟨rfl,h.symm⟩)
theorem acT{P:Program}{c:Code}{Q:Exit→Act→World→Prop}(I:Nat→Act→World→Prop)(round:∀n a w,I n a w→c.wp P (Exit.then (λa' w'=>∃m,m<n∧I m a' w') Q) a w) {n:Nat} {a:Act} {w:World} (h:I n a w):(Code.loop c).wp P Q a w:=by
 intro b k cs
 have key:∀n a w,I n a w→∃e a' w',Q e a' w'∧Arrives P (lone (b.at a (.code c::.inLoop c::k)) cs w) b k cs e a' w':=by
  intro n;induction n using Nat.strongRecOn with
  |_ n ih=>
   intro a w hI;obtain⟨e,a1,w1,hq,EF⟩:=round n a w hI b (.inLoop c::k) cs;cases e with
   |normal=>obtain⟨m,hlt,hm⟩:=hq;obtain⟨e2,a2,w2,vP,arf⟩:=ih m hlt a1 w1 hm;exact⟨e2,a2,w2,vP,.of_steps (Steps.trans EF (.one step_inLoop)) arf⟩
   |exit id=>exact⟨_,a1,w1,hq,.pass (x:=.inLoop c) rfl (λ_ _=>.inl (by simp)) EF⟩
   |goto l=>exact⟨_,a1,w1,hq,.pass (x:=.inLoop c) rfl (λ_ _=>.inl (by simp)) EF⟩
   |ret=>exact⟨_,a1,w1,hq,.pass (x:=.inLoop c) rfl (λ_ _=>.inl (by simp)) EF⟩
   |panic ch=>exact⟨_,a1,w1,hq,.pass (x:=.inLoop c) rfl (λ_ _=>.inl (by simp)) EF⟩
   |outgrown=>exact⟨_,a1,w1,hq,.pass (x:=.inLoop c) rfl (λ_ _=>.inl (by simp)) EF⟩
 obtain⟨e,a',w',hq,EF⟩:=key n a w h;exact⟨e,a',w',hq,.of_steps (.one step_loop) EF⟩
theorem BB(hs:eZ X):∀(c:Code){R:Type}(cL:pS)(s:AS)(a:Act)(w:World)(E:List Pl)(pb:Nat→Option Nat)(k:AX→AS→Option R)(r:R)(Q:Exit→Act→World→Prop),exec X cL c s k=some r→St X z s a w E pb→
  (∀e s' a' w' E' cM,St X z s' a' w' E' cM→Fr X (gj c) s s'→k e s'=some r→Q e.to a' w')→c.wp X.P Q a w
 |.skip,R,cL,s,a,w,E,pb,k,r,Q,hk,h,hQ=>by
  have hk':k .normal s=some r:=by cases cL<;>simpa [exec]using hk
  exact wp_skip (hQ .normal s a w E pb h (Fr.refl _ _) hk')
 |.label l,R,cL,s,a,w,E,pb,k,r,Q,hk,h,hQ=>by
  have hk':k .normal s=some r:=by cases cL<;>simpa [exec]using hk
  exact wp_label (hQ .normal s a w E pb h (Fr.refl _ _) hk')
 |.exit id,R,cL,s,a,w,E,pb,k,r,Q,hk,h,hQ=>by
  have hk':k (.exit id) s=some r:=by cases cL<;>simpa [exec]using hk
  exact wp_exit (hQ (.exit id) s a w E pb h (Fr.refl _ _) hk')
 |.ret,R,cL,s,a,w,E,pb,k,r,Q,hk,h,hQ=>by
  have hk':k .ret s=some r:=by cases cL<;>simpa [exec]using hk
  exact wp_ret (hQ .ret s a w E pb h (Fr.refl _ _) hk')
 |.region id ops draw,R,cL,s,a,w,E,pb,k,r,Q,hk,h,hQ=>by
  have hk':(bif draw then(bif Li X ops s.sl then wI X true ops ops.toList ⟨s.sl,λ_=>none,s.σ⟩ λs=>k .normal ⟨s.sl,λ_=>none,s.σ⟩else none)else wI X false ops ops.toList s λs=>k .normal ⟨s.sl,λ_=>none,s.σ⟩)=some r:=by cases cL<;>simpa [exec,force_eq,ac4]using hk
  cases draw
  ·simp only[bG]at hk';refine wp_region ?_;have:=ac3 (z:=z) (Q:=Q) (s0:=s) hs ops.toList 0 s a w E pb (λj=>by simp) h hk' (λs' a' w' E' cM h' hf hk2=>hQ .normal _ a' w' E' cM h'.XY (λi hi hL=>hf i (by simpa [gj]using hi) hL) hk2);rw[List.range_eq_range'];simpa using this
  ·simp only[cq]at hk';cases hok:Li X ops s.sl
   ·rw[hok]at hk';cases hk'
   ·rw[hok]at hk';simp only[cq]at hk';exact aoH (s:=⟨s.sl,λ_=>none,s.σ⟩) hs hok (λ_=>rfl) (λs' a' w' E' cM h' hf hk2=>hQ .normal _ a' w' E' cM h'.XY (λi hi hL=>hf i (by simpa [gj]using hi) hL) hk2) h.XY hk'
 |.seq x y,R,cL,s,a,w,E,pb,k,r,Q,hk,h,hQ=>by
  cases cL<;>simp only[exec]at hk<;>first|(cases hk;done)|skip
  rename_i aa bb;refine wp_seq (BB hs x aa s a w E pb _ r _ hk h λe s' a' w' E' cM h' hf hk'=>?_);cases e with
  |normal=>exact BB hs y bb s' a' w' E' cM k r Q hk' h' λe2 s2 a2 w2 E2 X0 h2 tL hk2=>hQ e2 s2 a2 w2 E2 X0 h2 (by simpa [gj]using hf.trans tL) hk2
  |exit i=>exact hQ (.exit i) s' a' w' E' cM h' (hf.mono λi hi=>by simp [gj,hi]) hk'
  |ret=>exact hQ .ret s' a' w' E' cM h' (hf.mono λi hi=>by simp [gj,hi]) hk'
 |.cond c x y,R,cL,s,a,w,E,pb,k,r,Q,hk,h,hQ=>by
  have rc:=gh h c;cases cL<;>simp only[exec,force_eq]at hk<;>first|(cases hk;done)|skip
  case c live aa bb=>
   cases hl:(live.all λd=>(gj x++gj y++X.L).contains d)
   ·rw[hl]at hk;cases hk
   ·rw[hl]at hk;simp only[Bool.not_true,bG]at hk;obtain⟨⟨vs,σ'⟩,h1,h2⟩:=bN.1 hk;rcases aaE h1 with⟨ec,hb⟩|⟨ec,hb⟩
    ·rw[ec]at rc;simp only[an]at rc;refine wp_cond_true rc (BB hs x aa s a w E pb _ _ Q hb h λe s' a' w' E' cM h' hf hk'=>?_);obtain⟨rfl,hv⟩:=ZC hk';simp only[Prod.mk.injEq]at hv;obtain⟨rfl,rfl⟩:=hv;have tL:Fr X (gj x++gj y) s s':=hf.mono λi hi=>by simp [hi]
     exact hQ .normal _ a' w' E' cM (h'.meet (by rw[h.uu,h'.uu]) (Jc (c:=x) tL)) (by simpa [gj]using Ee (X:=X) hl) h2
    ·rw[ec]at rc;simp only[an]at rc;refine wp_cond_false rc (BB hs y bb s a w E pb _ _ Q hb h λe s' a' w' E' cM h' hf hk'=>?_);obtain⟨rfl,hv⟩:=ZC hk';simp only[Prod.mk.injEq]at hv;obtain⟨rfl,rfl⟩:=hv;have tL:Fr X (gj x++gj y) s s':=hf.mono λi hi=>by simp [hi]
     exact hQ .normal _ a' w' E' cM (h'.meet (by rw[h.uu,h'.uu]) (Jc (c:=x) tL)) (by simpa [gj]using Ee (X:=X) hl) h2
  case j aa bb=>
   rcases aaE hk with⟨ec,hb⟩|⟨ec,hb⟩
   ·rw[ec]at rc;simp only[an]at rc;exact wp_cond_true rc (BB hs x aa s a w E pb k r Q hb h λe s' a' w' E' cM h' hf hk'=>hQ e s' a' w' E' cM h' (hf.mono λi hi=>by simp [gj,hi]) hk')
   ·rw[ec]at rc;simp only[an]at rc;exact wp_cond_false rc (BB hs y bb s a w E pb k r Q hb h λe s' a' w' E' cM h' hf hk'=>hQ e s' a' w' E' cM h' (hf.mono λi hi=>by simp [gj,hi]) hk')
 |.block id c,R,cL,s,a,w,E,pb,k,r,Q,hk,h,hQ=>by
  cases cL<;>simp only[exec]at hk<;>first|(cases hk;done)|skip
  rename_i aa;refine wp_block (BB hs c aa s a w E pb _ r _ hk h λe s' a' w' E' cM h' hf hk'=>?_);cases e with
  |normal=>exact hQ .normal s' a' w' E' cM h' (by simpa [gj]using hf) hk'
  |ret=>exact hQ .ret s' a' w' E' cM h' (by simpa [gj]using hf) hk'
  |exit i=>
   simp only[AX.to,Exit.inBlock];simp only at hk';by_cases e:i=id
   ·have:(i==id)=true:=by simpa using e
    rw[this]at hk';rw[aO e];exact hQ .normal s' a' w' E' cM h' (by simpa [gj]using hf) hk'
   ·have:(i==id)=false:=by simpa using e
    rw[this]at hk';rw[aK e];exact hQ (.exit i) s' a' w' E' cM h' (by simpa [gj]using hf) hk'
 |.loop c,R,cL,s,a,w,E,pb,k,r,Q,hk,h,hQ=>by
  cases cL<;>simp only[exec,force_eq]at hk<;>first|(cases hk;done)|skip
  case lc live xs aa=>
   cases hl:(live.all λd=>(gj c++X.L).contains d)
   ·rw[hl]at hk;cases hk
   ·rw[hl]at hk;simp only[Bool.not_true,bG]at hk;obtain⟨n,hn⟩:=akj hk;refine acT (λn a w=>∃vs σ E pb,A.Af (λvs σ K=>exec X aa c (s.meet (gj c++X.L) live vs σ) λe s'=>K (e,vals s'.sl live,s'.σ)) n vs σ (λr=>A.sel r.1 (λe=>k e (s.meet (gj c++X.L) live r.2.1 r.2.2)) xs)=some r∧St X z (s.meet (gj c++X.L) live vs σ) a w E pb) ?_ (n:=n) ⟨_,_,E,pb,hn,h.meet rfl (λi _=>rfl)⟩;rintro n a w ⟨vs,σ,E,pb,hit,hst⟩;cases n with
    |zero=>cases hit
    |succ n=>
     simp only[A.Af]at hit;refine BB hs c aa _ a w E pb _ _ _ hit hst λe s' a' w' E' cM h' hf hk'=>?_
     have hfr:∀i,i∉gj c++X.L→s'.sl[i]? =s.sl[i]? :=λi hi=>by rw[Jc (c:=c) hf i hi];exact Jc (c:=c) (Ee (X:=X) (s:=s) (vs:=vs) (σ:=σ) hl) i hi
     have AJ:=h'.meet (s:=s) (mods:=gj c++X.L) (live:=live) (by rw[h.uu,h'.uu]) hfr;cases e with
     |normal=>exact⟨n,Nat.lt_succ_self n,_,_,E',cM,hk',AJ⟩
     |exit i=>exact hQ (.exit i) _ a' w' E' cM AJ (by simpa [gj]using Ee (X:=X) hl) (Po hk')
     |ret=>exact hQ .ret _ a' w' E' cM AJ (by simpa [gj]using Ee (X:=X) hl) (Po hk')
  rename_i live xs aa;cases hl:(live.all λd=>(gj c++X.L).contains d)
  ·rw[hl]at hk;cases hk
  ·rw[hl]at hk;simp only[Bool.not_true,bG]at hk;obtain⟨⟨e0,Fc,aJ⟩,h1,h2⟩:=bN.1 hk;have hsel:=Po h2;obtain⟨n,hn⟩:=alX h1;refine acT (λn a w=>∃vs σ E pb,A.iter (λvs σ=>exec X aa c (s.meet (gj c++X.L) live vs σ) (leave live)) n vs σ=some (e0,Fc,aJ)∧St X z (s.meet (gj c++X.L) live vs σ) a w E pb) ?_ (n:=n) ⟨_,_,E,pb,hn,h.meet rfl (λi _=>rfl)⟩;rintro n a w ⟨vs,σ,E,pb,hit,hst⟩;cases n with
   |zero=>cases hit
   |succ n=>
    simp only[A.iter]at hit;obtain⟨⟨e1,vs1,σ1⟩,g1,g2⟩:=bN.1 hit;refine BB hs c aa _ a w E pb _ _ _ g1 hst λe s' a' w' E' cM h' hf hk'=>?_
    simp only[leave,Option.some.injEq,Prod.mk.injEq]at hk';obtain⟨rfl,rfl,rfl⟩:=hk'
    have hfr:∀i,i∉gj c++X.L→s'.sl[i]? =s.sl[i]? :=λi hi=>by rw[Jc (c:=c) hf i hi];exact Jc (c:=c) (Ee (X:=X) (s:=s) (vs:=vs) (σ:=σ) hl) i hi
    have AJ:=h'.meet (s:=s) (mods:=gj c++X.L) (live:=live) (by rw[h.uu,h'.uu]) hfr;cases e with
    |normal=>exact⟨n,Nat.lt_succ_self n,_,_,E',cM,g2,AJ⟩
    |exit i=>simp only[Option.some.injEq,Prod.mk.injEq]at g2;obtain⟨rfl,rfl,rfl⟩:=g2;exact hQ (.exit i) _ a' w' E' cM AJ (by simpa [gj]using Ee (X:=X) hl) hsel
    |ret=>simp only[Option.some.injEq,Prod.mk.injEq]at g2;obtain⟨rfl,rfl,rfl⟩:=g2;exact hQ .ret _ a' w' E' cM AJ (by simpa [gj]using Ee (X:=X) hl) hsel
 |.rangeFunc ..,R,cL,s,a,w,E,pb,k,r,Q,hk,h,hQ=>by cases cL<;>simp [exec]at hk
 |.scope _,R,cL,s,a,w,E,pb,k,r,Q,hk,h,hQ=>by cases cL<;>simp [exec]at hk
 |.goto _,R,cL,s,a,w,E,pb,k,r,Q,hk,h,hQ=>by cases cL<;>simp [exec]at hk
 |.refuse _,R,cL,s,a,w,E,pb,k,r,Q,hk,h,hQ=>by cases cL<;>simp [exec]at hk
end
end
section
open Go.RowKit
section
variable {X : Fx} {z : Z} {s : AS} {a : Act} {w w' : World} {E : List Pl} {pb : Nat → Option Nat}
def Db(tmps:Array Value):ResultVar→Sem Value
 |.tmp t=>pure (tmps.getD t undef)
 |.cell a t=>do loadVar t (←asAddr (tmps.getD a undef))
theorem Uu(h:St X z s a w E pb){R:Type}:∀(rs:List ResultVar)(k:List AV→Option R)(r:R),Da X s rs k=some r→∃vs qw,(rs.mapM (Db a.tmps)).run X.P w=.ok vs w∧aP (ctx z w E pb) qw vs∧k qw=some r
 |[],k,r,hk=>⟨[],[],by simp,by simp [aP],hk⟩
 |.tmp t::rs,k,r,hk=>by simp only[Da]at hk;obtain⟨vs,qw,h1,h2,h3⟩:=Uu h rs _ r hk;refine⟨a.tmps.getD t undef::vs,ev X s (.tmp t)::qw,?_,by simp only[aP];exact⟨_,_,rfl,gh h (.tmp t),h2⟩,h3⟩;simp only[List.mapM_cons,Sem.run_bind,Db,Sem.run_pure,Result.andThen_ok,h1]
 |.cell q t::rs,k,r,hk=>by
  simp only[Da]at hk
  have fin:∀(v:Value)(av:AV),(Db a.tmps (.cell q t)).run X.P w=.ok v w→an (ctx z w E pb) av v→Da X s rs (λvs=>k (av::vs))=some r→∃vs qw,((ResultVar.cell q t::rs).mapM (Db a.tmps)).run X.P w=.ok vs w∧aP (ctx z w E pb) qw vs∧k qw=some r:=by intro v av hv hr hk;obtain⟨vs,qw,h1,h2,h3⟩:=Uu h rs _ r hk;refine⟨v::vs,av::qw,?_,by simp only[aP];exact⟨_,_,rfl,hr,h2⟩,h3⟩;simp only[List.mapM_cons,Sem.run_bind,hv,Sem.run_pure,Result.andThen_ok,h1]
  split at hk
  ·rename_i b off hp;obtain⟨av,e1,e2⟩:=bN.1 hk;obtain⟨cs,e3,e4⟩:=bN.1 e1;obtain⟨n,k1,k2,k3,k4⟩:=IW h (tag:=none) trivial hp e3;obtain⟨v,j1,j2⟩:=OM (c:=ctx z w E pb) w X rfl k3.2 e4;rw[Nat.zero_add]at j1;simp only[Act.eval]at k2;exact fin v av (by simp [Db,k2,asAddr,j1]) j2 e2
  ·obtain⟨av,e1,e2⟩:=bN.1 hk;obtain⟨cs,e3,e4⟩:=bN.1 e1;obtain⟨b,off,k2,k3⟩:=aaF h.heap e3 (gh h (.tmp q));obtain⟨v,j1,j2⟩:=OM (c:=ctx z w E pb) w X rfl k3 e4;rw[Nat.add_zero]at j1;simp only[Act.eval]at k2;exact fin v av (by simp [Db,k2,asAddr,j1]) j2 e2
theorem ajz{P:Program}{fn:Func}{tmps:Array Value}{vs:List Value}(h:(fn.results.toList.mapM (Db tmps)).run P w=.ok vs w):∃v,(results fn tmps).run P w=.ok v w∧∀(c:RC)(qw:List AV),aP c qw vs→an c (one qw) v:=by
 have e:results fn tmps=(do let vs ←fn.results.mapM (Db tmps);pure (if h:vs.size=1 then vs[0]else .tuple vs)):=by unfold results;congr 1
 have hm:(fn.results.mapM (Db tmps)).run P w=.ok vs.toArray w:=by rw[Array.mapM_eq_mapM_toList,Sem.run_map,h];rfl
 have hrun:(results fn tmps).run P w=.ok (if h:vs.toArray.size=1 then vs.toArray[0]else .tuple vs.toArray) w:=by rw[e,Sem.run_bind,hm];rfl
 refine⟨_,hrun,λc qw r=>?_⟩
 match qw,vs,r with
 |[x],[v],r=>simp only[aP]at r;obtain⟨v',_,e',r1,rfl⟩:=r;injection e' with e1 _;subst e1;simpa [one]using r1
 |[],[],r=>simp only[one,an];exact⟨#[],by simp,by simp [aP]⟩
 |x::y::xs,v::u::us,r=>simp only[one,an];exact⟨(v::u::us).toArray,by simp,by simpa using r⟩
 |[_],_::_::_,r=>exact absurd r.length (by simp)
 |_::_::_,[_],r=>exact absurd r.length (by simp)
 |[],_::_,r=>exact absurd r.length (by simp)
 |_::_,[],r=>exact absurd r.length (by simp)
end
section
variable {c c' : RC} {σ : Heap} {n : Nat}
structure Ao (c c' : RC) (σ : Heap) (n : Nat) : Prop where
 w:c'.w=c.w
 nm:c'.nm=c.nm
 X:∀b,c'.X b→c.X b
 E:∀(id:Nat)(p:Pl),id<n→c.E[id]? =some p→c'.E[id]? =some p
 heap:jO c σ
 QD:∀(id:Nat)(p:Pl),n≤id→c.E[id]? =some p→¬c'.X p.b
theorem Uo(d:Nat):∀(l l':List AV),A.gm σ n d l=some l'→l'.length=l.length
 |[],l',e=>by simp only[A.gm]at e;injection e with e;subst e;rfl
 |x::l,l',e=>by simp only[A.gm]at e;obtain⟨y,h1,h2⟩:=bN.1 e;obtain⟨l2,h3,rfl⟩:=eG.1 h2;simp [Uo d l l2 h3]
theorem KX(d:Nat):∀(l l':List (List AV)),A.kZ σ n d l=some l'→l'.length=l.length
 |[],l',e=>by simp only[A.kZ]at e;injection e with e;subst e;rfl
 |x::l,l',e=>by simp only[A.kZ]at e;obtain⟨y,h1,h2⟩:=bN.1 e;obtain⟨l2,h3,rfl⟩:=eG.1 h2;simp [KX d l l2 h3]
theorem IZ(d:Nat):∀(l:List (List AV)),A.LD σ n d l=A.kZ σ n d l
 |[]=>by simp [A.kZ,A.LD]
 |x::l=>by simp [A.kZ,A.LD,IZ d l]
def Ge:AV→Bool
 |.os ..=>true
 |.op ..=>true
 |.oe ..=>true
 |.om ..=>true
 |_=>false
theorem PI(d:Nat):∀(l:List AV),A.xz σ n d l=A.gm σ n d l
 |[]=>by simp [A.gm,A.xz]
 |x::l=>by simp [A.gm,A.xz,PI d l]
theorem acN(d:Nat):∀(l:List (AV×AV)),A.Et σ n d l=A.sU σ n d l
 |[]=>by simp [A.sU,A.Et]
 |(k,v)::l=>by simp [A.sU,A.Et,acN d l]
theorem aoS(d:Nat)(m:Int)(s:ByteArray):A.bM σ n d (.agg [.int .i64 m,.str s])=some (.agg [.int .i64 m,.str s]):=by cases d<;>simp [A.bM,A.gm]
theorem aaQ{d:Nat}:∀{es es':List (AV×AV)},(∀p∈es,∃m s,p.1=.agg [.int .i64 m,.str s])→A.sU σ n d es=some es'→es'.map (·.1)=es.map (·.1)
 |[],es',_,h=>by simp only[A.sU]at h;injection h with h;subst h;rfl
 |(k,v)::r,es',hk,h=>by simp only[A.sU]at h;obtain⟨m,s,e⟩:=hk (k,v) List.mem_cons_self;simp only at e;subst e;rw[aoS]at h;simp only[aY]at h;obtain⟨v',h1,h2⟩:=bN.1 h;obtain⟨r',h3,rfl⟩:=eG.1 h2;simp only[eY,aaQ (λp hp=>hk p (sM _ hp)) h3]
theorem alL{d:Nat}{es es':List (AV×AV)}(hd:Ju es)(h:A.sU σ n d es=some es'):Ju es':=by
 have e:=aaQ hd.1 h;refine⟨λp hp=>?_,by rw[e];exact hd.2⟩;have:p.1∈es.map (·.1):=by rw[←e];exact List.mem_map_of_mem hp
 obtain⟨q,hq,e2⟩:=ia.1 this;rw[←e2];exact hd.1 q hq
mutual
theorem Jd(h:Ao c c' σ n)(d:Nat)(hos:∀av dZ v,Ge av=true→A.bM σ n d av=some dZ→an c av v→an c' dZ v):∀(av dZ:AV)(v:Value),A.bM σ n d av=some dZ→an c av v→an c' dZ v
 |.undef,dZ,v,e,r=>by cases d<;>simp [A.bM]at e
 |.int k m,dZ,v,e,r=>by
  have:dZ=.int k m:=by cases d<;>simpa [A.bM]using e.symm
  subst this;simpa [an]using r
 |.bool b,dZ,v,e,r=>by
  have:dZ=.bool b:=by cases d<;>simpa [A.bM]using e.symm
  subst this;simpa [an]using r
 |.str s,dZ,v,e,r=>by
  have:dZ=.str s:=by cases d<;>simpa [A.bM]using e.symm
  subst this;simpa [an]using r
 |.az,dZ,v,e,r=>by
  have:dZ=.az:=by cases d<;>simpa [A.bM]using e.symm
  subst this;simpa [an]using r
 |.ez,dZ,v,e,r=>by
  have:dZ=.ez:=by cases d<;>simpa [A.bM]using e.symm
  subst this;simpa [an]using r
 |.np,dZ,v,e,r=>by
  have:dZ=.np:=by cases d<;>simpa [A.bM]using e.symm
  subst this;simpa [an]using r
 |.nm,dZ,v,e,r=>by
  have:dZ=.nm:=by cases d<;>simpa [A.bM]using e.symm
  subst this;simpa [an]using r
 |.B9,dZ,v,e,r=>by
  have:dZ=.B9:=by cases d<;>simpa [A.bM]using e.symm
  subst this;simpa [an]using r
 |.agg cs,dZ,v,e,r=>by
  have e':(A.gm σ n d cs).map .agg=some dZ:=by cases d<;>simpa [A.bM]using e
  obtain⟨cs',h1,rfl⟩:=eG.1 e';simp only[an]at r ⊢;obtain⟨vs,e,r1,r2⟩:=r;exact⟨vs,e,I1 h d hos cs cs' _ h1 r1,r2⟩
 |.aL cs,dZ,v,e,r=>by
  have e':(A.gm σ n d cs).map .aL=some dZ:=by cases d<;>simpa [A.bM]using e
  obtain⟨cs',h1,rfl⟩:=eG.1 e';simp only[an]at r ⊢;obtain⟨vs,e,r1⟩:=r;exact⟨vs,e,I1 h d hos cs cs' _ h1 r1⟩
 |.sl sz es,dZ,v,e,r=>by
  have e':(A.kZ σ n d es).map (.sl sz)=some dZ:=by cases d<;>simpa [A.bM]using e
  obtain⟨es',h1,rfl⟩:=eG.1 e';simp only[an]at r ⊢;obtain⟨q,cap,e,k1,k2,r⟩:=r;have hl:es'.length=es.length:=KX d es es' h1;refine⟨q,cap,by rw[hl];exact e,by rw[hl];exact k1,k2,?_⟩;rcases r with r|⟨b,off,e2,hb,hx,r⟩
  ·left;subst r;simpa using hl
  ·right;exact⟨b,off,e2,by rw[h.w];exact hb,λk=>hx (h.X b k),Lc h d hos sz b es es' off h1 r⟩
 |.rp cs,dZ,v,e,r=>by
  have e':(A.gm σ n d cs).map .rp=some dZ:=by cases d<;>simpa [A.bM]using e
  obtain⟨cs',h1,rfl⟩:=eG.1 e';simp only[an]at r ⊢;obtain⟨b,off,e2,hb,hx,r⟩:=r;exact⟨b,off,e2,by rw[h.w];exact hb,λk=>hx (h.X b k),IY h d hos b cs cs' off h1 r⟩
 |.fm es,dZ,v,e,r=>by
  have e':(A.sU σ n d es).map .fm=some dZ:=by cases d<;>simpa [A.bM]using e
  obtain⟨es',h1,rfl⟩:=eG.1 e';simp only[an]at r ⊢;obtain⟨b,e2,hb,hx,bK,aM,k1,kw,l,k2,k3⟩:=r;exact⟨b,e2,by rw[h.w];exact hb,λk=>hx (h.X b k),bK,aM,by rw[h.w];exact k1,kw,l,Pg h d hos es es' _ h1 k2,k3.imp_right λq=>⟨q.1,alL q.2 h1⟩⟩
 |.op id off,dZ,v,e,r=>hos _ dZ v rfl e r
 |.oe id g i off,dZ,v,e,r=>hos _ dZ v rfl e r
 |.om id,dZ,v,e,r=>hos _ dZ v rfl e r
 |.fn f cs,dZ,v,e,r=>by
  have e':(A.gm σ n d cs).map (.fn f)=some dZ:=by cases d<;>simpa [A.bM]using e
  obtain⟨cs',h1,rfl⟩:=eG.1 e';simp only[an]at r ⊢;obtain⟨g,vs,e,k,r1⟩:=r;exact⟨g,vs,e,by rw[h.nm];exact k,I1 h d hos cs cs' _ h1 r1⟩
 |.lbx cs,dZ,v,e,r=>by cases d<;>simp [A.bM]at e
 |.os id g sz off len,dZ,v,e,r=>hos _ dZ v rfl e r
theorem I1(h:Ao c c' σ n)(d:Nat)(hos:∀av dZ v,Ge av=true→A.bM σ n d av=some dZ→an c av v→an c' dZ v):∀(l l':List AV)(vs:List Value),A.gm σ n d l=some l'→aP c l vs→aP c' l' vs
 |[],l',vs,e,r=>by simp only[A.gm]at e;injection e with e;subst e;simpa [aP]using r
 |x::l,l',vs,e,r=>by simp only[A.gm]at e;obtain⟨y,h1,h2⟩:=bN.1 e;obtain⟨l2,h3,rfl⟩:=eG.1 h2;simp only[aP]at r ⊢;obtain⟨v,vs',e,r1,r2⟩:=r;exact⟨v,vs',e,Jd h d hos x y v h1 r1,I1 h d hos l l2 vs' h3 r2⟩
theorem Pg(h:Ao c c' σ n)(d:Nat)(hos:∀av dZ v,Ge av=true→A.bM σ n d av=some dZ→an c av v→an c' dZ v):∀(l l':List (AV×AV))(es:List MapEntry),A.sU σ n d l=some l'→dK c l es→dK c' l' es
 |[],l',es,e,r=>by simp only[A.sU]at e;injection e with e;subst e;simpa [dK]using r
 |(k,v)::l,l',es,e,r=>by simp only[A.sU]at e;obtain⟨k',h1,h2⟩:=bN.1 e;obtain⟨v',h3,h4⟩:=bN.1 h2;obtain⟨l2,h5,rfl⟩:=eG.1 h4;simp only[dK]at r ⊢;obtain⟨x,es',e,r1,r2,r3⟩:=r;exact⟨x,es',e,Jd h d hos k k' _ h1 r1,Jd h d hos v v' _ h3 r2,Pg h d hos l l2 es' h5 r3⟩
theorem IY(h:Ao c c' σ n)(d:Nat)(hos:∀av dZ v,Ge av=true→A.bM σ n d av=some dZ→an c av v→an c' dZ v)(b:Nat):∀(l l':List AV)(off:Nat),A.gm σ n d l=some l'→bL c b off l→bL c' b off l'
 |[],l',off,e,r=>by simp only[A.gm]at e;injection e with e;subst e;simp [bL]
 |x::l,l',off,e,r=>by simp only[A.gm]at e;obtain⟨y,h1,h2⟩:=bN.1 e;obtain⟨l2,h3,rfl⟩:=eG.1 h2;simp only[bL]at r ⊢;obtain⟨⟨v,e1,e2,r1⟩,r2⟩:=r;exact⟨⟨v,by rw[h.w];exact e1,e2,Jd h d hos x y v h1 r1⟩,IY h d hos b l l2 (off+1) h3 r2⟩
theorem Lc(h:Ao c c' σ n)(d:Nat)(hos:∀av dZ v,Ge av=true→A.bM σ n d av=some dZ→an c av v→an c' dZ v)(sz b:Nat):∀(l l':List (List AV))(off:Nat),A.kZ σ n d l=some l'→bP c sz b off l→bP c' sz b off l'
 |[],l',off,e,r=>by simp only[A.kZ]at e;injection e with e;subst e;simp [bP]
 |x::l,l',off,e,r=>by simp only[A.kZ]at e;obtain⟨y,h1,h2⟩:=bN.1 e;obtain⟨l2,h3,rfl⟩:=eG.1 h2;simp only[bP]at r ⊢;exact⟨by rw[Uo d x y h1];exact r.1,IY h d hos b x y off h1 r.2.1,Lc h d hos sz b l l2 (off+sz) h3 r.2.2⟩
end
structure AR (c0 c c' : RC) : Prop where
 w:c'.w=c.w
 nm:c'.nm=c.nm
 X:∀b,c'.X b→c.X b
 E:∀(id:Nat)(p0 p:Pl),c0.E[id]? =some p0→c.E[id]? =some p→c'.E[id]? =some p
mutual
theorem Ja{c0 c c':RC}(h:AR c0 c c'):∀(av:AV)(v0 v:Value),an c0 av v0→an c av v→an c' av v
 |.undef,v0,v,r0,r=>by simp [an]
 |.int k m,v0,v,r0,r=>by simpa [an]using r
 |.bool b,v0,v,r0,r=>by simpa [an]using r
 |.str s,v0,v,r0,r=>by simpa [an]using r
 |.az,v0,v,r0,r=>by simpa [an]using r
 |.ez,v0,v,r0,r=>by simpa [an]using r
 |.np,v0,v,r0,r=>by simpa [an]using r
 |.nm,v0,v,r0,r=>by simpa [an]using r
 |.fm es,v0,v,r0,r=>by simp only[an]at r0 r ⊢;obtain⟨_,_,_,_,_,_,_,_,_,r0,_⟩:=r0;obtain⟨b,e,hb,hx,bK,aM,k1,kw,l,k2,k3⟩:=r;exact⟨b,e,by rw[h.w];exact hb,λk=>hx (h.X b k),bK,aM,by rw[h.w];exact k1,kw,l,Pb h es _ _ r0 k2,k3⟩
 |.B9,v0,v,r0,r=>by simpa [an]using r
 |.agg cs,v0,v,r0,r=>by simp only[an]at r0 r ⊢;obtain⟨Fc,_,HW,_⟩:=r0;obtain⟨vs,e,r1,r2⟩:=r;exact⟨vs,e,Pa h cs _ _ HW r1,r2⟩
 |.aL cs,v0,v,r0,r=>by simp only[an]at r0 r ⊢;obtain⟨Fc,_,HW⟩:=r0;obtain⟨vs,e,r1⟩:=r;exact⟨vs,e,Pa h cs _ _ HW r1⟩
 |.sl sz es,v0,v,r0,r=>by
  simp only[an]at r0 r ⊢;obtain⟨_,_,_,_,_,r0⟩:=r0;obtain⟨q,cap,e,k1,k2,r⟩:=r;refine⟨q,cap,e,k1,k2,?_⟩;rcases r with r|⟨b,off,e2,hb,hx,r⟩
  ·exact .inl r
  ·rcases r0 with r0|⟨b0,vr,_,_,_,r0⟩
   ·exact .inl r0
   ·exact .inr ⟨b,off,e2,by rw[h.w];exact hb,λk=>hx (h.X b k),O9 h sz b0 b es vr off r0 r⟩
 |.rp cs,v0,v,r0,r=>by simp only[an]at r0 r ⊢;obtain⟨b0,vr,_,_,_,r0⟩:=r0;obtain⟨b,off,e2,hb,hx,r⟩:=r;exact⟨b,off,e2,by rw[h.w];exact hb,λk=>hx (h.X b k),Lb h b0 b cs vr off r0 r⟩
 |.op id off,v0,v,r0,r=>by simp only[an]at r0 r ⊢;obtain⟨p0,e0,_⟩:=r0;obtain⟨p,e1,e2,e3⟩:=r;exact⟨p,h.E id p0 p e0 e1,e2,e3⟩
 |.oe id g i off,v0,v,r0,r=>by simp only[an]at r0 r ⊢;obtain⟨_,p0,e0,_⟩:=r0;obtain⟨hg,p,e1,e2⟩:=r;exact⟨hg,p,h.E id p0 p e0 e1,e2⟩
 |.os id g sz off len,v0,v,r0,r=>by simp only[an]at r0 r ⊢;obtain⟨_,p0,e0,_⟩:=r0;obtain⟨hg,p,e1,e2⟩:=r;exact⟨hg,p,h.E id p0 p e0 e1,e2⟩
 |.om id,v0,v,r0,r=>by simp only[an]at r0 r ⊢;obtain⟨p0,e0,_⟩:=r0;obtain⟨p,e1,e2,e3⟩:=r;exact⟨p,h.E id p0 p e0 e1,e2,e3⟩
 |.fn f cs,v0,v,r0,r=>by simp only[an]at r0 r ⊢;obtain⟨_,_,_,_,r0⟩:=r0;obtain⟨g,vs,e1,e2,r⟩:=r;exact⟨g,vs,e1,by rw[h.nm];exact e2,Pa h cs _ _ r0 r⟩
 |.lbx cs,v0,v,r0,r=>by simp [an]at r
theorem Pa{c0 c c':RC}(h:AR c0 c c'):∀(l:List AV)(Fc vs:List Value),aP c0 l Fc→aP c l vs→aP c' l vs
 |[],Fc,vs,r0,r=>by simpa [aP]using r
 |x::l,Fc,vs,r0,r=>by simp only[aP]at r0 r ⊢;obtain⟨v0,us0,_,HW,X2⟩:=r0;obtain⟨v,us,e,r1,r2⟩:=r;exact⟨v,us,e,Ja h x _ _ HW r1,Pa h l _ _ X2 r2⟩
theorem Pb{c0 c c':RC}(h:AR c0 c c'):∀(l:List (AV×AV))(lM es:List MapEntry),dK c0 l lM→dK c l es→dK c' l es
 |[],lM,es,r0,r=>by simpa [dK]using r
 |(k,v)::l,lM,es,r0,r=>by simp only[dK]at r0 r ⊢;obtain⟨e0,asQ,_,k1,k2,k3⟩:=r0;obtain⟨e,es',e1,j1,j2,j3⟩:=r;exact⟨e,es',e1,Ja h k _ _ k1 j1,Ja h v _ _ k2 j2,Pb h l asQ es' k3 j3⟩
theorem Lb{c0 c c':RC}(h:AR c0 c c')(b0 b:Nat):∀(l:List AV)(vr off:Nat),bL c0 b0 vr l→bL c b off l→bL c' b off l
 |[],vr,off,r0,r=>by simp [bL]
 |x::l,vr,off,r0,r=>by simp only[bL]at r0 r ⊢;obtain⟨⟨v0,_,_,HW⟩,X2⟩:=r0;obtain⟨⟨v,e1,e2,r1⟩,r2⟩:=r;exact⟨⟨v,by rw[h.w];exact e1,e2,Ja h x _ _ HW r1⟩,Lb h b0 b l _ _ X2 r2⟩
theorem O9{c0 c c':RC}(h:AR c0 c c')(sz b0 b:Nat):∀(l:List (List AV))(vr off:Nat),bP c0 sz b0 vr l→bP c sz b off l→bP c' sz b off l
 |[],vr,off,r0,r=>by simp [bP]
 |x::l,vr,off,r0,r=>by simp only[bP]at r0 r ⊢;exact⟨r.1,Lb h b0 b x _ _ r0.2.1 r.2.1,O9 h sz b0 b l _ _ r0.2.2 r.2.2⟩
end
theorem O8{c0 c c':RC}(h:AR c0 c c'){p0 p:Pl}{x:aS}(k0:sC c0 p0 x)(k:sC c p x):sC c' p x:=by
 cases x with
 |box cs=>obtain⟨h1,⟨⟨arr,t,h2,h3⟩,h4⟩⟩:=k;exact⟨h1,⟨arr,t,by rw[h.w];exact h2,h3⟩,Lb h _ _ cs _ _ k0.2.2 h4⟩
 |arr g sz es=>obtain⟨h1,h2,h3,h4,⟨arr,t,h5,h6⟩,h7,h8,h9⟩:=k;obtain⟨_,_,_,_,_,_,k8,_⟩:=k0;exact⟨h1,h2,h3,h4,⟨arr,t,by rw[h.w];exact h5,h6⟩,h7,O9 h sz _ _ es _ _ k8 h8,λarr t fz e=>h9 arr t fz (by rw[←h.w];exact e)⟩
 |wE g sz es=>obtain⟨h1,h2,h3,h4,⟨arr,t,h5,h6⟩,h7,h8,h9⟩:=k;obtain⟨_,_,_,_,_,_,k8,_⟩:=k0;exact⟨h1,h2,h3,h4,⟨arr,t,by rw[h.w];exact h5,h6⟩,h7,O9 h sz _ _ es _ _ k8 h8,λarr t fz e=>h9 arr t fz (by rw[←h.w];exact e)⟩
 |map es=>obtain⟨h1,bK,aM,h2,hw,h3⟩:=k;obtain⟨_,_,_,_,_,k3⟩:=k0;exact⟨h1,bK,aM,by rw[h.w];exact h2,hw,Pb h es _ _ k3 h3⟩
 |it cur left=>
  obtain⟨h1,h2⟩:=k;obtain⟨_,k2⟩:=k0;refine⟨h1,?_⟩;rcases h2 with⟨h2,h2',since,seen,last,h3⟩|⟨m,seen,bK,aM,h3,h4,h5,h6,h7,h8,h9⟩
  ·exact .inl ⟨h2,h2',since,seen,last,by rw[h.w];exact h3⟩
  ·rcases k2 with⟨q1,q2,_⟩|⟨m0,au4,auW,auP,q3,q4,q5,q6,q7,q8,q9⟩
   ·refine .inr ⟨m,seen,bK,aM,by rw[h.w];exact h3,by rw[h.w];exact h4,λk=>h5 (h.X m k),by rw[h.w];exact h6,h7,by rw[q2]at h8 ⊢;exact h8,.inl q1⟩
   ·refine .inr ⟨m,seen,bK,aM,by rw[h.w];exact h3,by rw[h.w];exact h4,λk=>h5 (h.X m k),by rw[h.w];exact h6,h7,(by obtain⟨l0,q8,_⟩:=q8;obtain⟨l,h8,hp⟩:=h8;exact⟨l,Pb h left _ _ q8 h8,hp⟩),?_⟩;rcases h9 with h9|⟨kk,v,e,e1,e2,e3,e4,e5⟩
    ·exact .inl h9
    ·rcases q9 with q9|⟨kk',v',e',f1,f2,f3,f4,f5⟩
     ·exact .inl q9
     ·rw[e1]at f1;simp only[List.cons.injEq,Prod.mk.injEq,and_true]at f1;obtain⟨rfl,rfl⟩:=f1;exact .inr ⟨_,_,e,e1,e2,e3,Ja h _ _ _ f4 e4,Ja h _ _ _ f5 e5⟩
def asT:aS→Nat
 |.arr g _ _=>g
 |.wE g _ _=>g
 |_=>0
theorem UE{c:RC}{p:Pl}{x:aS}(k:sC c p x):p.g=asT x:=by cases x<;>exact k.1
theorem acH{c0 c c':RC}(h:AR c0 c c')(sz b:Nat):∀(l:List (List AV))(off:Nat),(∀y∈l,∃b0 o0,bL c0 b0 o0 y)→bP c sz b off l→bP c' sz b off l
 |[],off,h0,r=>by simp [bP]
 |x::l,off,h0,r=>by simp only[bP]at r ⊢;obtain⟨b0,o0,k⟩:=h0 x (by simp);exact⟨r.1,Lb h b0 b x _ _ k r.2.1,acH h sz b l _ (λy hy=>h0 y (by simp [hy])) r.2.2⟩
theorem acn{c:RC}:∀{args:List AV}{vs:List Value},aP c args vs→∀y∈A.rowsOf args,∃b0 o0,bL c b0 o0 y
 |[],_,_,y,hy=>by simp [A.rowsOf]at hy
 |a::args,vs,h,y,hy=>by
  simp only[aP]at h;obtain⟨v,vs',rfl,h1,h2⟩:=h;simp only[A.rowsOf,jP]at hy;rcases hy with hy|hy
  ·cases a<;>simp only[List.not_mem_nil]at hy;rename_i sz es;simp only[an]at h1;obtain⟨a,cap,rfl,_,_,h3⟩:=h1;rcases h3 with h3|⟨b,off,_,_,_,h4⟩
   ·rw[h3]at hy;cases hy
   ·obtain⟨i,hi⟩:=um.1 hy;exact⟨_,_,(bP.nth h4 hi).2⟩
  ·exact acn h2 y hy
theorem BC(h:Ao c c' σ n):∀(d:Nat)(av dZ:AV)(v:Value),A.bM σ n d av=some dZ→an c av v→an c' dZ v
 |0=>Jd h 0 (λav dZ v ho e r=>by cases av<;>first|(simp [A.bM]at e;done)|(simp [Ge]at ho;done))
 |d+1=>Jd h (d+1) (λav dZ v ho e r=>match av,ho,e,r with
  |.op id off,_,e,r=>by
   simp only[A.bM]at e;simp only[an]at r;obtain⟨p,h1,h2,rfl⟩:=r;split at e
   ·rename_i hlt;injection e with e;subst e
    simp only[an];exact⟨p,h.E id p hlt h1,h2,rfl⟩
   ·rename_i hge;split at e
    ·rename_i cs hs;obtain⟨cs',e1,rfl⟩:=eG.1 e;rw[PI]at e1;obtain⟨j1,⟨⟨arr,t,j2,j3⟩,j4⟩⟩:=h.heap.blk id p _ h1 hs;simp only[an];refine⟨p.b,off,rfl,by rw[h.w];exact(xF.1 j2).1,h.QD id p (by omega) h1,?_⟩;have j5:=j4.drop off;rw[Nat.zero_add]at j5;exact IY h d (λav dZ v _ e r=>BC h d _ _ _ e r) p.b _ cs' _ e1 j5
    ·cases e
  |.oe id g i off,_,e,r=>by
   simp only[A.bM]at e;simp only[an]at r;obtain⟨hg,p,h1,h2,a,rfl,h3⟩:=r;split at e
   ·rename_i hlt;injection e with e;subst e
    simp only[an];exact⟨hg,p,h.E id p hlt h1,h2,a,rfl,h3⟩
   ·rename_i hge;split at e
    ·rename_i g' sz' es hs;split at e
     ·rename_i hc;subst hc;split at e
      ·rename_i el hel;obtain⟨cs',e1,rfl⟩:=eG.1 e;rw[PI]at e1;obtain⟨j1,j2,j3,j4,⟨arr,bt,j5,j6⟩,j7,j8,j9⟩:=h.heap.blk id p _ h1 hs;have ha:=h3 j1.symm;subst ha;simp only[an];refine⟨p.b,_,rfl,by rw[h.w];exact(xF.1 j5).1,h.QD id p (by omega) h1,?_⟩;rw[j3];have j9:=(j8.nth hel).2.drop off;exact IY h d (λav dZ v _ e r=>BC h d _ _ _ e r) p.b _ cs' _ e1 j9
      ·cases e
     ·cases e
    ·cases e
  |.om id,_,e,r=>by
   simp only[A.bM]at e;simp only[an]at r;obtain⟨p,h1,h2,rfl⟩:=r;split at e
   ·rename_i hlt;injection e with e;subst e
    simp only[an];exact⟨p,h.E id p hlt h1,h2,rfl⟩
   ·rename_i hge;split at e
    ·rename_i es hs;obtain⟨es',e1,rfl⟩:=eG.1 e;rw[acN]at e1;obtain⟨j1,bK,aM,j2,jw,j3⟩:=h.heap.blk id p _ h1 hs;simp only[an];exact⟨p.b,rfl,by rw[h.w];exact(xF.1 j2).1,h.QD id p (by omega) h1,bK,aM,by rw[h.w];exact j2,jw,_,Pg h d (λav dZ v _ e r=>BC h d _ _ _ e r) _ es' _ e1 j3,.inl rfl⟩
    ·cases e
  |.os id g sz off len,_,e,r=>by
   simp only[A.bM]at e;simp only[an]at r;obtain⟨hg,p,h1,h2,q,cap,rfl,h3,r⟩:=r;split at e
   ·rename_i hlt;injection e with e;subst e
    simp only[an];exact⟨hg,p,h.E id p hlt h1,h2,q,cap,rfl,h3,r⟩
   ·rename_i hge;split at e
    ·rename_i g' sz' es hs;split at e
     ·rename_i hc;obtain⟨rfl,rfl,hle⟩:=hc;obtain⟨es',e1,rfl⟩:=eG.1 e;rw[IZ]at e1;obtain⟨j1,j2,j3,j4,⟨arr,bt,j5,j6⟩,j7,j8,j9⟩:=h.heap.blk id p _ h1 hs;obtain⟨k1,k2,k3⟩:=r j1.symm;have hl:=KX d _ _ e1;have ym:((es.drop off).take len).length=len:=by simp;omega
      simp only[an];refine⟨some q,cap,by rw[hl,ym],by rw[hl,ym];exact h3,j4,?_⟩;by_cases hz:len=0
      ·left;apply Am;rw[hl,ym,hz]
      ·right
       have hq:q=⟨p.b,p.base+off*p.sz,none⟩:=by
        rcases k2 with k2|k2
        ·omega
        ·exact k2
       refine⟨p.b,p.base+off*p.sz,by rw[hq],by rw[h.w];exact(xF.1 j5).1,h.QD id p (by omega) h1,?_⟩;refine Lc h d (λav dZ v _ e r=>BC h d _ _ _ e r) sz p.b _ es' _ e1 ?_;rw[j3];exact(j8.drop off).take len
     ·cases e
    ·cases e)
end
section
variable {c c' : RC} {σ : Heap} {n : Nat}
theorem ami{es es':List (AV×AV)}(hp:es.Perm es'):∀{l:List MapEntry},dK c es l→∃l',dK c es' l'∧l'.Perm l:=by
 induction hp with
 |nil=>intro l h;exact⟨l,h,.refl _⟩
 |cons x _ ih=>intro l h;obtain⟨e,l1,rfl,h2,h3,h4⟩:=h;obtain⟨l',k1,k2⟩:=ih h4;exact⟨e::l',⟨_,_,rfl,h2,h3,k1⟩,k2.cons e⟩
 |swap x y l0=>intro l h;obtain⟨e,l1,rfl,h2,h3,e',l2,rfl,h4,h5,h6⟩:=h;exact⟨e'::e::l2,⟨_,_,rfl,h4,h5,_,_,rfl,h2,h3,h6⟩,.swap _ _ _⟩
 |trans _ _ ih1 ih2=>intro l h;obtain⟨l1,k1,k2⟩:=ih1 h;obtain⟨l2,k3,k4⟩:=ih2 k1;exact⟨l2,k3,k4.trans k2⟩
theorem TV(es:List (AV×AV)):(A.BP es).Perm es:=Classical.choose_spec (p:=λl:List (AV×AV)=>l.Perm es) ⟨es,.refl _⟩
theorem aaD{es es':List (AV×AV)}(h:es.Perm es'):A.BP es=A.BP es':=by
 have:(λl:List (AV×AV)=>l.Perm es)=λl=>l.Perm es':=funext λl=>propext ⟨λq=>q.trans h,λq=>q.trans h.symm⟩
 unfold A.BP;congr 1
theorem aou{x:AV}{v:Value}(r:an c x v):an c (A.can x) v:=by
 cases x<;>try exact r
 case fm es=>
  unfold A.can;simp only;split
  ·rename_i hd;simp only[an]at r ⊢;obtain⟨b,e,hb,hx,bK,aM,k1,kw,l,k2,k3⟩:=r;have hp:=TV es;obtain⟨l',j1,j2⟩:=ami hp.symm k2;refine⟨b,e,hb,hx,bK,aM,k1,kw,l',j1,.inr ⟨?_,?_⟩⟩
   ·rcases k3 with rfl|⟨k3,_⟩
    ·exact j2
    ·exact j2.trans k3
   ·exact⟨λp hp'=>hd.1 p (hp.mem_iff.1 hp'),(hp.map _).nodup_iff.2 hd.2⟩
  ·exact r
theorem TS{b:Nat}:∀{l:List AV}{off:Nat},bL c b off l→bL c b off (l.map A.can)
 |[],off,_=>by simp [bL]
 |x::l,off,r=>by simp only[eY,bL]at r ⊢;obtain⟨⟨v,h1,h2,h3⟩,h4⟩:=r;exact⟨⟨v,h1,h2,aou h3⟩,TS h4⟩
theorem TT{sz b:Nat}:∀{l:List (List AV)}{off:Nat},bP c sz b off l→bP c sz b off (l.map (·.map A.can))
 |[],off,_=>by simp [bP]
 |x::l,off,r=>by simp only[eY,bP,List.length_map]at r ⊢;exact⟨r.1,TS r.2.1,TT r.2.2⟩
theorem anj(h:Ao c c' σ n){p:Pl}{x x':aS}(e:A.ED σ n x=some x')(k:sC c p x):sC c' p x':=by
 have hos:∀av dZ v,Ge av=true→A.bM σ n 8 av=some dZ→an c av v→an c' dZ v:=λav dZ v _ e r=>BC h 8 _ _ _ e r
 cases x with
 |box cs=>obtain⟨cs',e1,rfl⟩:=eG.1 e;obtain⟨h1,⟨⟨arr,t,h2,h3⟩,h4⟩⟩:=k;exact⟨h1,⟨arr,t,by rw[h.w];exact h2,by rw[List.length_map,Uo 8 _ _ e1];exact h3⟩,TS (IY h 8 hos _ _ _ _ e1 h4)⟩
 |arr g sz es=>obtain⟨es',e1,rfl⟩:=eG.1 e;obtain⟨h1,h2,h3,h4,⟨arr,t,h5,h6⟩,h7,h8,h9⟩:=k;exact⟨h1,h2,h3,h4,⟨arr,t,by rw[h.w];exact h5,h6⟩,by rw[List.length_map,KX 8 _ _ e1];exact h7,TT (Lc h 8 hos _ _ _ _ _ e1 h8),λarr t fz e=>h9 arr t fz (by rw[←h.w];exact e)⟩
 |wE g sz es=>obtain⟨es',e1,rfl⟩:=eG.1 e;obtain⟨h1,h2,h3,h4,⟨arr,t,h5,h6⟩,h7,h8,h9⟩:=k;exact⟨h1,h2,h3,h4,⟨arr,t,by rw[h.w];exact h5,h6⟩,by rw[List.length_map,KX 8 _ _ e1];exact h7,TT (Lc h 8 hos _ _ _ _ _ e1 h8),λarr t fz e=>h9 arr t fz (by rw[←h.w];exact e)⟩
 |map es=>obtain⟨es',e1,rfl⟩:=eG.1 e;obtain⟨h1,bK,aM,h2,hwf,h3⟩:=k;exact⟨h1,bK,aM,by rw[h.w];exact h2,hwf,Pg h 8 hos _ _ _ e1 h3⟩
 |it cur left=>cases e
theorem aaN{n:Nat}:∀{Rx Ry τ:Heap},A.yU σ n Rx Ry=some τ→τ.length=Rx.length∧Rx.length≤Ry.length∧∀(i:Nat)x,τ[i]? =some x→∃b b',Rx[i]? =some b∧Ry[i]? =some b'∧((b'=b∧x=b)∨A.ED σ n b'=some x)
 |[],Ry,τ,h=>by simp only[A.yU]at h;injection h with h;subst h;simp
 |_::_,[],τ,h=>by simp [A.yU]at h
 |b::r,b'::r',τ,h=>by
  simp only[A.yU]at h;obtain⟨y,h1,h2⟩:=bN.1 h;obtain⟨NL,h3,rfl⟩:=eG.1 h2;obtain⟨k1,k2,k3⟩:=aaN h3;refine⟨by simp [k1],by simp;omega,λi x hi=>?_⟩;cases i with
  |zero=>
   simp only[List.getElem?_cons_zero,Option.some.injEq]at hi;subst hi;refine⟨b,b',rfl,rfl,?_⟩;split at h1
   ·rename_i e;injection h1 with h1
    exact .inl ⟨e,h1.symm⟩
   ·exact .inr h1
  |succ i=>exact k3 i x hi
end
section
variable {X : Fx}
def uo.Ok:uo→Prop
 |.N g=>∀c a v,an c a v→an c (g a) v
 |_=>True
theorem FH(hs:eZ X){f:FuncId}{fn:Func}{keep:uo}(hkeep:keep.Ok){cL:pS}{args:List AV}{σ σ':Heap}{r:AV}(hf:X.P.funcs[f]? =some fn)(Qi:∀dX w,(callFunc f dX).run X.P w=.ok (.enter f dX) w)
  (hr:uy X keep cL fn args σ=some (r,σ')):pH X.P X.nm f args σ r σ':=by
 refine .inl ⟨f,Qi,λz vs hnm hlt hh ha=>?_⟩;unfold uy at hr;cases hb:fn.body with
 |none=>rw[hb]at hr;cases hr
 |some c=>
  rw[hb]at hr;simp only at hr;cases hc:(Nat.ble args.length fn.ntmps&&X.n==fn.ntmps)
  ·rw[hc]at hr;cases hr
  ·rw[hc]at hr;simp only[Bool.not_true,bG]at hr;simp only[jC,beq_iff_eq]at hc;obtain⟨hc1,wQ⟩:=hc;have hle:args.length≤fn.ntmps:=Nat.le_of_ble_eq_true hc1;have Dv:=ha.length;have avf:args.length=vs.size:=by simpa using Dv
   have hst:St X z ⟨args++List.replicate (fn.ntmps-args.length) (.aL []),λ_=>none,σ⟩ {tmps:=vs++Array.replicate (fn.ntmps-vs.size) undef,defers:=[]} z.w z.E dS:=by
    have aeF:∀i av,(args++List.replicate (fn.ntmps-args.length) (.aL []))[i]? =some av→an (ctx z z.w z.E dS) av ((vs++Array.replicate (fn.ntmps-vs.size) undef).getD i undef):=by
     intro i av hi;by_cases hlt':i<args.length
     ·rw[jk hlt']at hi;obtain⟨v,k1,k2⟩:=ha.nth hi
      have:(vs++Array.replicate (fn.ntmps-vs.size) undef).getD i undef=v:=by rw[qG,Array.getElem?_append_left (by omega),←Array.getElem?_toList,k1];rfl
      rw[this];exact k2
     ·rw[jj (by omega)]at hi;have hm:=dA hi;rw[List.mem_replicate]at hm;rw[hm.2]
      have:(vs++Array.replicate (fn.ntmps-vs.size) undef).getD i undef=undef:=by rw[qG,Array.getElem?_append_right (by omega),Array.getElem?_replicate];split<;>rfl
      rw[this];simp only[an];exact⟨#[],rfl,by simp [aP]⟩
    refine⟨by simp;omega,by simp;omega,λi av hi=>Slot.of (aeF i av hi),λi cs hi=>?_,(λt p hp=>by cases hp),(λi b hb=>by cases hb),(λi j b hb=>by cases hb),hh,rfl,?_,hnm.symm⟩
    ·have:=aeF i _ hi;simp [an]at this
    ·exact⟨rfl,rfl,rfl,aQ _,λ_ _ _=>rfl,λi p hp=>.inr ⟨p,hp,rfl⟩,λi p hp=>⟨p,hp,.inl rfl⟩,hlt,λp hp=>hh.lt hp⟩
   refine calls_of_wp hf hb (BB hs c cL _ _ _ _ _ _ _ _ hr hst λe s' a' w' E' cM h' _ hk=>?_)
   have hno:Ext (ctx z w' E' cM) (ctx z w' E' dS):=Ext.same rfl rfl (λb k=>by
    rcases k with k|k|⟨i,k⟩
    ·exact .inl k
    ·exact .inr (.inl k)
    ·cases k) rfl
   have ae4:∀(x:AV)(v:Value)(r:AV)(σ':Heap),an (ctx z w' E' cM) x v→A.fin σ x s'.σ=some (r,σ')→∃l8,Out z w' l8∧jO (ctx z w' l8 dS) σ'∧an (ctx z w' l8 dS) r v:=by
     intro x v r σ' rv k3;unfold A.fin at k3;split at k3
     ·rename_i he;simp only[Option.some.injEq,Prod.mk.injEq]at k3;obtain⟨rfl,rfl⟩:=k3;exact⟨E',h'.out,by rw[←he];exact h'.heap.mono hno rfl (λp hp=>rfl),an.mono hno _ _ rv⟩
     ·split at k3
      ·rename_i he;obtain⟨r',k6,k7⟩:=eG.1 k3;simp only[Prod.mk.injEq]at k7;obtain⟨rfl,rfl⟩:=k7;have hlen:=h'.heap.len;simp only[ctx]at hlen;have hzl:z.E.length=σ.length:=hh.len
       have hle2:σ.length≤s'.σ.length:=by have:=congrArg List.length he;simp at this;omega
       have uG:∀(id:Nat)(p:Pl),id<σ.length→E'[id]? =some p→(E'.take σ.length)[id]? =some p:=λid p hlt' hp=>by rw[List.getElem?_take_of_lt hlt'];exact hp
       have sV:∀(id:Nat)(p:Pl),(E'.take σ.length)[id]? =some p→id<σ.length∧E'[id]? =some p:=λid p hp=>by
        rw[List.getElem?_take]at hp;split at hp
        ·exact⟨by assumption,hp⟩
        ·cases hp
       have wv:Ao (ctx z w' E' cM) (ctx z w' (E'.take σ.length) dS) s'.σ σ.length:=by
        refine⟨rfl,rfl,λb k=>?_,uG,h'.heap,λid p hge hp k=>?_⟩
        ·rcases k with k|⟨p,hp,k⟩|⟨i,k⟩
         ·exact .inl k
         ·exact .inr (.inl ⟨p,wC hp,k⟩)
         ·cases k
        ·rcases k with k|⟨q,hq,k⟩|⟨i,k⟩
         ·have hb:=hlt _ k;rcases h'.out.fresh' id p hp with e|⟨q,hq,_⟩
          ·omega
          ·rw[oL (by omega)]at hq;cases hq
         ·obtain⟨j,hj,rfl⟩:=List.mem_iff_getElem.1 hq;obtain⟨h1,h2⟩:=sV j _ (bR hj);have:=h'.heap.inj j id _ p h2 hp k;omega
         ·cases k
       have heq:∀(id:Nat),id<σ.length→σ[id]? =s'.σ[id]? :=λid hlt'=>by have h1:(List.take σ.length s'.σ)[id]? =s'.σ[id]? :=List.getElem?_take_of_lt hlt';rw[he]at h1;exact h1
       have held:AR (ctx z z.w z.E dS) (ctx z w' E' cM) (ctx z w' (E'.take σ.length) dS):=
        ⟨rfl,rfl,wv.X,λid p0 p e0 e1=>uG id p (by have:=(bQ.1 e0).1;simp only[ctx]at this;omega) e1⟩
       refine⟨E'.take σ.length,?_,?_,BC wv 8 _ _ _ k6 rv⟩
       ·have o:=h'.out
        exact⟨o.os,o.tape,o.output,o.size,o.stay,λi p hp=>o.fresh' i p (sV i p hp).2,λi p hp=>by
         obtain⟨p',m1,m2⟩:=o.env i p hp
         exact⟨p',uG i p' (by have:=(bQ.1 hp).1;omega) m1,m2⟩,o.lt,o.mine⟩
       ·refine⟨by simp only[ctx,oM];omega,λi j p q hp hq e=>h'.heap.inj i j p q (sV i p hp).2 (sV j q hq).2 e,λi p x hp hx=>?_⟩;obtain⟨hi,hp2⟩:=sV i p hp;have fZ:z.E[i]? =some z.E[i]:=bR (by omega);exact O8 held (hh.blk i _ x fZ hx) (h'.heap.blk i p x hp2 (by rw[←heq i hi];exact hx))
      ·cases k3
   have C6:∀(x:AV)(v:Value)(r:AV)(σ':Heap),an (ctx z w' E' cM) x v→A.C6 σ x s'.σ=some (r,σ')→∃l8,Out z w' l8∧jO (ctx z w' l8 dS) σ'∧an (ctx z w' l8 dS) r v:=by
     intro x v r σ' rv k3;unfold A.C6 at k3;obtain⟨τ,q0,k4⟩:=bN.1 k3;obtain⟨r',k6,k7⟩:=eG.1 k4;simp only[Prod.mk.injEq]at k7;obtain⟨rfl,rfl⟩:=k7;obtain⟨q1,hle2,q3⟩:=aaN q0;have hlen:=h'.heap.len;simp only[ctx]at hlen;have hzl:z.E.length=σ.length:=hh.len;have uG:∀(id:Nat)(p:Pl),id<σ.length→E'[id]? =some p→(E'.take σ.length)[id]? =some p:=λid p hlt' hp=>by rw[List.getElem?_take_of_lt hlt'];exact hp
     have sV:∀(id:Nat)(p:Pl),(E'.take σ.length)[id]? =some p→id<σ.length∧E'[id]? =some p:=λid p hp=>by
      rw[List.getElem?_take]at hp;split at hp
      ·exact⟨by assumption,hp⟩
      ·cases hp
     have wv:Ao (ctx z w' E' cM) (ctx z w' (E'.take σ.length) dS) s'.σ σ.length:=by
      refine⟨rfl,rfl,λb k=>?_,uG,h'.heap,λid p hge hp k=>?_⟩
      ·rcases k with k|⟨p,hp,k⟩|⟨i,k⟩
       ·exact .inl k
       ·exact .inr (.inl ⟨p,wC hp,k⟩)
       ·cases k
      ·rcases k with k|⟨q,hq,k⟩|⟨i,k⟩
       ·have hb:=hlt _ k;rcases h'.out.fresh' id p hp with e|⟨q,hq,_⟩
        ·omega
        ·rw[oL (by omega)]at hq;cases hq
       ·obtain⟨j,hj,rfl⟩:=List.mem_iff_getElem.1 hq;obtain⟨h1,h2⟩:=sV j _ (bR hj);have:=h'.heap.inj j id _ p h2 hp k;omega
       ·cases k
     have held:AR (ctx z z.w z.E dS) (ctx z w' E' cM) (ctx z w' (E'.take σ.length) dS):=
      ⟨rfl,rfl,wv.X,λid p0 p e0 e1=>uG id p (by have:=(bQ.1 e0).1;simp only[ctx]at this;omega) e1⟩
     refine⟨E'.take σ.length,?_,?_,BC wv 8 _ _ _ k6 rv⟩
     ·have o:=h'.out
      exact⟨o.os,o.tape,o.output,o.size,o.stay,λi p hp=>o.fresh' i p (sV i p hp).2,λi p hp=>by
       obtain⟨p',m1,m2⟩:=o.env i p hp
       exact⟨p',uG i p' (by have:=(bQ.1 hp).1;omega) m1,m2⟩,o.lt,o.mine⟩
     ·refine⟨by simp only[ctx,oM];omega,λi j p q hp hq e=>h'.heap.inj i j p q (sV i p hp).2 (sV j q hq).2 e,λi p x hp hx=>?_⟩;obtain⟨hi,hp2⟩:=sV i p hp;obtain⟨b,b',m1,m2,m3⟩:=q3 i x hx;rcases m3 with⟨rfl,rfl⟩|m3
      ·have fZ:z.E[i]? =some z.E[i]:=bR (by omega);exact O8 held (hh.blk i _ x fZ m1) (h'.heap.blk i p x hp2 m2)
      ·exact anj wv m3 (h'.heap.blk i p b' hp2 m2)
   have done:∀(hk:Da X s' fn.results.toList (λvs=>keep.run args σ (one vs) s'.σ)=some (r,σ')),
     a'.defers=[]∧∃v,(results fn a'.tmps).run X.P w'=.ok v w'∧∃v' E',Ending.returned v=.returned v'∧Out z w' E'∧jO (ctx z w' E' dS) σ'∧an (ctx z w' E' dS) r v':=by
    intro hk;refine⟨h'.defers,?_⟩;obtain⟨us,qw,k1,k2,k3⟩:=Uu h' _ _ _ hk;obtain⟨v,k4,k5⟩:=ajz k1;have rv:=k5 _ _ k2;refine⟨v,k4,v,?_⟩
    have kept:∃E',Ending.returned v=.returned v∧Out z w' E'∧jO (ctx z w' E' dS) s'.σ∧an (ctx z w' E' dS) (one qw) v:=
     ⟨E',rfl,h'.out,h'.heap.mono hno rfl (λp hp=>rfl),an.mono hno _ _ rv⟩
    cases keep with
    |K=>simp only[uo.run,Option.some.injEq,Prod.mk.injEq]at k3;obtain⟨rfl,rfl⟩:=k3;exact kept
    |F=>obtain⟨l8,q1,q2,q3⟩:=ae4 _ _ _ _ rv k3;exact⟨l8,rfl,q1,q2,q3⟩
    |G=>obtain⟨l8,q1,q2,q3⟩:=C6 _ _ _ _ rv k3;exact⟨l8,rfl,q1,q2,q3⟩
    |N g=>simp only[uo.run]at k3;obtain⟨⟨r0,aJ⟩,k6,k7⟩:=eG.1 k3;simp only[Prod.mk.injEq]at k7;obtain⟨rfl,rfl⟩:=k7;obtain⟨l8,q1,q2,q3⟩:=ae4 _ _ _ _ rv k6;exact⟨l8,rfl,q1,q2,hkeep _ _ _ q3⟩
    |R=>
     simp only[uo.run]at k3;obtain⟨x,hx⟩:∃x,x=one qw:=⟨_,rfl⟩
     rw[←hx]at rv k3 kept;unfold A.renew at k3;split at k3
     ·rename_i id g sz off len;split at k3
      ·rename_i g' sz' es hs';split at k3
       ·rename_i hc;obtain⟨rfl,rfl,hle,avk⟩:=hc;simp only[an]at rv;obtain⟨hg,p,e1,e2,qa,cp,rfl,hcap,rx⟩:=rv;obtain⟨j1,j2,j3,j4,⟨arr,bt,j5,j6⟩,j7,j8,j9⟩:=h'.heap.blk id p _ e1 hs';obtain⟨q1,q2,q3⟩:=rx j1.symm;have hid:id<E'.length:=(bQ.1 e1).1;have oz:((es.drop off).take len).length=len:=by simp;omega
        have hmul:(off+len)*sz≤es.length*sz:=qp _ hle;rw[gJ]at hmul;split at k3
        ·simp only[Option.some.injEq,Prod.mk.injEq]at k3;obtain⟨rfl,rfl⟩:=k3
         have nW:=h'.move (id:=id) (p:=p) (p':=⟨p.b,p.base+off*sz,A.gen args+1,sz,p.uC⟩) (w':=w') (blk:=.arr (A.gen args+1) sz ((es.drop off).take len)) e1
          ⟨by omega,by show p.g<A.gen args+1;omega⟩ rfl rfl rfl (aQ _) (λb _ _=>rfl) (.inl rfl) (λhx=>by
           refine⟨rfl,by show 0<A.gen args+1;omega,rfl,j4,⟨arr,bt,j5,j6⟩,?_,?_,j9⟩
           ·rw[oz];show p.base+off*sz+len*sz≤p.uC;omega
           ·exact bP.mono hx sz p.b rfl _ _ ((j8.drop off).take len))
         have atf:Ext (ctx z w' (E'.set id ⟨p.b,p.base+off*sz,A.gen args+1,sz,p.uC⟩) cM) (ctx z w' (E'.set id ⟨p.b,p.base+off*sz,A.gen args+1,sz,p.uC⟩) dS):=Ext.same rfl rfl (λb k=>by
          rcases k with k|k|⟨i,k⟩
          ·exact .inl k
          ·exact .inr (.inl k)
          ·cases k) rfl
         refine⟨_,rfl,nW.1.out,nW.1.heap.mono atf rfl (λp hp=>rfl),?_⟩;simp only[an];refine⟨by omega,⟨p.b,p.base+off*sz,A.gen args+1,sz,p.uC⟩,by simp [ctx,hid],aQ _,qa,cp,rfl,hcap,λ_=>⟨rfl,?_,?_⟩⟩
         ·rcases q2 with q2|q2
          ·exact .inl q2
          ·exact .inr (by rw[q2,q1];simp)
         ·simp only[Nat.zero_add];rw[q1,gJ]at q3;omega
        ·unfold A.merge at k3;split at k3
         ·rename_i mw g0 WE vr Wu rest _ _ _;split at k3
          ·rename_i g1 DH AZ hs0;split at k3
           ·rename_i Jx;obtain⟨avi,auY,rfl,hg1,hsame,hF,atm⟩:=Jx;simp only[Option.some.injEq,Prod.mk.injEq]at k3;obtain⟨rfl,rfl⟩:=k3;have hzl:z.E.length=σ.length:=hh.len;have hEl:E'.length=s'.σ.length:=h'.heap.len;have as8:mw<σ.length:=(bQ.1 hs0).1;obtain⟨pz,Kg⟩:∃pz,z.E[mw]? =some pz:=⟨_,bR (by omega)⟩
            obtain⟨y1,y2,y3,y4,y5,y6,y7,y8⟩:=hh.blk mw pz _ Kg hs0;obtain⟨p'',AH⟩:∃p'':Pl,p''=⟨p.b,p.base+off*DH,A.gen (.os mw g0 WE vr Wu::rest)+1,DH,p.uC⟩:=⟨_,rfl⟩
            have hne:id≠mw:=by omega
            have aeC:∀(j:Nat)(q p2:Pl),j≠mw→z.E[j]? =some q→E'[j]? =some p2→p2=q:=by
             intro j q p2 hj hq hp2;have hjl:j<σ.length:=by rw[←hzl];exact(bQ.1 hq).1
             obtain⟨p3,m1,m2⟩:=h'.out.env j q hq;rw[hp2]at m1;injection m1 with m1;subst m1
             rcases m2 with m2|⟨m2,m3⟩
             ·exact m2
             ·have hsj:=hsame j hjl hj;have hx0:σ[j]? =some σ[j]:=bR hjl;have u1:=UE (hh.blk j q _ hq hx0);have u2:=UE (h'.heap.blk j p2 _ hp2 (by rw[hsj];exact hx0));omega
            have Hq:∃p0,E'[mw]? =some p0:=⟨_,bR (by omega)⟩
            obtain⟨p0,Hq⟩:=Hq;have avn:p0.g=g1:=UE (h'.heap.blk mw p0 _ Hq hF)
            have hfr:z.w.heap.size≤p.b:=by
             rcases h'.out.fresh' id p e1 with k|⟨q,hq,_⟩
             ·exact k
             ·rw[oL (by omega)]at hq;cases hq
            have hm:p∈E':=dA e1
            have hx:Ext (ctx z w' E' cM) (ctx z w' (E'.set mw p'') dS):=by
             refine⟨aQ _,λb hb hn=>⟨rfl,?_⟩,λj q hq=>?_,rfl⟩
             ·rintro(k|⟨q,hq,k⟩|⟨i,k⟩)
              ·exact hn (.inl k)
              ·rcases List.mem_or_eq_of_mem_set hq with hq|hq
               ·exact hn (.inr (.inl ⟨q,hq,k⟩))
               ·exact hn (.inr (.inl ⟨p,hm,by rw[←k,hq,AH]⟩))
              ·cases k
             ·by_cases e:mw=j
              ·subst e;simp only[ctx]at hq;rw[Hq]at hq;injection hq with hq;subst hq
               exact⟨p'',by simp only[ctx];rw[oK (bQ.1 Hq).1],.inr ⟨by omega,by rw[AH];show p0.g<A.gen (.os mw g0 WE vr Wu::rest)+1;omega⟩⟩
              ·exact⟨q,by simp only[ctx]at hq ⊢;rw[List.getElem?_set_ne e];exact hq,.inl rfl⟩
            have Hg:∀(j:Nat)(q:Pl),(z.E.set mw p'')[j]? =some q→(j=mw∧q=p'')∨(j≠mw∧z.E[j]? =some q):=λj q hq=>by
             by_cases e:mw=j
             ·subst e;rw[oK (bQ.1 Kg).1]at hq;injection hq with hq;exact .inl ⟨rfl,hq.symm⟩
             ·rw[List.getElem?_set_ne e]at hq;exact .inr ⟨λe'=>e e'.symm,hq⟩
            have hE3:∀(j:Nat)(q:Pl),j≠mw→z.E[j]? =some q→E'[j]? =some q:=λj q hj hq=>by have hjl:j<z.E.length:=(bQ.1 hq).1;obtain⟨p3,m1,_⟩:=h'.out.env j q hq;rw[m1,aeC j q p3 hj hq m1]
            have held:AR (ctx z z.w z.E dS) (ctx z w' (E'.set mw p'') dS) (ctx z w' (z.E.set mw p'') dS):=by
             refine⟨rfl,rfl,λb k=>?_,λj q0 q M8 hq=>?_⟩
             ·rcases k with k|⟨q,hq,k⟩|⟨i,k⟩
              ·exact .inl k
              ·obtain⟨j,hj⟩:=um.1 hq;rcases Hg j q hj with⟨e3,e4⟩|⟨e3,e4⟩
               ·subst e3;exact .inr (.inl ⟨q,dA (i:=j) (by rw[oK (bQ.1 Hq).1,e4]),k⟩)
               ·exact .inr (.inl ⟨q,dA (i:=j) (by rw[List.getElem?_set_ne (λe=>e3 e.symm)];exact hE3 j q e3 e4),k⟩)
              ·cases k
             ·simp only[ctx]at M8 hq ⊢;by_cases e:mw=j
              ·subst e;rw[oK (bQ.1 Hq).1]at hq;rw[oK (bQ.1 Kg).1];exact hq
              ·rw[List.getElem?_set_ne e]at hq ⊢;rw[aeC j q0 q (λe'=>e e'.symm) M8 hq];exact M8
            refine⟨z.E.set mw p'',rfl,?_,?_,?_⟩
            ·have o:=h'.out;refine⟨o.os,o.tape,o.output,o.size,o.stay,λj q hq=>?_,λj q hq=>?_,o.lt,o.mine⟩
             ·rcases Hg j q hq with⟨e3,e4⟩|⟨e3,e4⟩
              ·left;rw[e4,AH];exact hfr
              ·exact .inr ⟨q,e4,rfl⟩
             ·by_cases e:mw=j
              ·subst e;rw[Kg]at hq;injection hq with hq;subst hq
               exact⟨p'',oK (bQ.1 Kg).1,.inr ⟨by omega,by rw[AH];show pz.g<A.gen (.os mw g0 WE vr Wu::rest)+1;omega⟩⟩
              ·exact⟨q,by rw[List.getElem?_set_ne e];exact hq,.inl rfl⟩
            ·refine⟨by simp [ctx,hzl],λi j q r hq hr he=>?_,λi q x hq dG=>?_⟩
             ·have afa:∀(j:Nat)(q:Pl),z.E[j]? =some q→q.b<z.w.heap.size:=λj q hq=>hh.lt (p:=q) (dA hq)
              rcases Hg i q hq with⟨e3,e4⟩|⟨e3,e4⟩<;>rcases Hg j r hr with⟨e5,e6⟩|⟨e5,e6⟩
              ·rw[e3,e5]
              ·have:=afa j r e6;rw[e4,AH]at he;simp only at he;omega
              ·have:=afa i q e4;rw[e6,AH]at he;simp only at he;omega
              ·exact hh.inj i j q r e4 e6 he
             ·rcases Hg i q hq with⟨e3,e4⟩|⟨e3,e4⟩
              ·subst e3;rw[oK as8]at dG;injection dG with dG
               subst dG;subst e4;subst AH;refine⟨rfl,Nat.succ_pos _,rfl,j4,⟨arr,bt,j5,j6⟩,?_,?_,j9⟩
               ·rw[oz];show p.base+off*DH+len*DH≤p.uC;omega
               ·refine acH held DH p.b _ _ (λy hy=>?_) (bP.mono hx DH p.b rfl _ _ ((j8.drop off).take len));rcases atm y hy with k|k
                ·obtain⟨i,hi⟩:=um.1 k;exact⟨_,_,(bP.nth y7 hi).2⟩
                ·exact acn ha y k
              ·rw[List.getElem?_set_ne (λe=>e3 e.symm)]at dG;have hil:i<σ.length:=(bQ.1 dG).1;exact O8 held (hh.blk i q x e4 dG) ((h'.heap.blk i q x (hE3 i q e3 e4) (by rw[hsame i hil e3];exact dG)).mono hx rfl)
            ·simp only[an];refine⟨Nat.succ_pos _,p'',by simp only[ctx];exact oK (bQ.1 Kg).1,by rw[AH];exact aQ _,qa,cp,by rw[oz],by rw[oz];exact hcap,λ_=>⟨by rw[AH],?_,?_⟩⟩
             ·rcases q2 with q2|q2
              ·exact .inl q2
              ·exact .inr (by rw[q2,q1,AH];simp)
             ·rw[AH];simp only[Nat.zero_add];rw[q1,gJ]at q3;omega
           ·cases k3
          ·cases k3
         ·cases k3
       ·cases k3
      ·cases k3
     ·simp only[Option.some.injEq,Prod.mk.injEq]at k3;obtain⟨rfl,rfl⟩:=k3;exact kept
     ·simp only[Option.some.injEq,Prod.mk.injEq]at k3;obtain⟨rfl,rfl⟩:=k3;exact kept
     ·simp only[Option.some.injEq,Prod.mk.injEq]at k3;obtain⟨rfl,rfl⟩:=k3;exact kept
     ·cases k3
   cases e with
   |normal=>exact done hk
   |ret=>exact done hk
   |exit i=>cases hk
end
end
section
open Go.RowKit
inductive Sh where
 |k
 |s(sz:Nat)
 |e(sz:Nat)(l:List Sh)
 |a(l:List Sh)
 |t(l:List Sh)
 |p(l:List Sh)
namespace A
mutual
def nn:Sh→AV→AV
 |.k,v=>v
 |.s sz,v=>match v with|.az=>.sl sz []|.ez=>.sl sz []|v=>v
 |.e sz l,v=>match v with|.az=>.sl sz []|.ez=>.sl sz []|.sl sz' es=>.sl sz' (es.map (dr l))|v=>v
 |.a l,v=>match v with|.agg cs=>.agg (dr l cs)|v=>v
 |.t l,v=>match v with|.aL vs=>.aL (dr l vs)|v=>v
 |.p l,v=>match v with|.rp cs=>.rp (dr l cs)|v=>v
def dr:List Sh→List AV→List AV
 |[],vs=>vs
 |s::ss,vs=>match vs with|[]=>[]|v::vs=>nn s v::dr ss vs
end
def Ww:AV→Bool
 |.os ..=>true
 |.op ..=>true
 |.oe ..=>true
 |.om ..=>true
 |_=>false
def own:AV→Bool
 |.agg cs=>cs.any Ww
 |v=>Ww v
def yW:AV→Bool
 |.int ..=>true
 |.bool ..=>true
 |.str ..=>true
 |.np=>true
 |.az=>true
 |.ez=>true
 |.nm=>true
 |.B9=>true
 |.sl _ []=>true
 |_=>false
def xD:AV→Bool
 |.agg cs=>cs.all yW
 |v=>yW v
def GL:AV→Bool
 |.aL vs=>vs.all xD
 |v=>xD v
def fresh(v:AV):Bool:=match v with
 |.os ..=>true
 |.om _=>true
 |v=>xD v
def CB:AV→Bool
 |.aL vs=>vs.all fresh
 |v=>fresh v
def LC:aS→Bool
 |.box cs=>cs.all yW
 |.arr _ _ es=>es.all λe=>e.all yW
 |.map es=>es.all λp=>xD p.1&&xD p.2
 |_=>false
def shift(n:Nat)(v:AV):AV:=match v with
 |.os id g sz off len=>.os (id+n) g sz off len
 |.om id=>.om (id+n)
 |v=>v
def BI(n:Nat):AV→AV
 |.aL vs=>.aL (vs.map (shift n))
 |v=>shift n v
noncomputable def wrap (ro:Bool) (gD:List Sh) (ig:Sh) (r:List AV→Heap→Option (AV×Heap)) (args:List AV) (σ:Heap):Option (AV×Heap):=bif ro&&args.any own then (gm σ 0 8 args).bind λargs=>(r (dr gD args) []).bind λq=>bif CB (nn ig q.1)&&q.2.all LC then some (BI σ.length (nn ig q.1),σ++q.2)else none else(r (dr gD args) σ).map λq=>(nn ig q.1,q.2)
noncomputable def lz (sh:Sh) (m:List AV→Heap→Option (AV×Heap)) (args:List AV) (σ:Heap):Option (AV×Heap):=(m args σ).bind λp=>(fin σ p.1 p.2).map λq=>(nn sh q.1,q.2)
noncomputable def uc (m:List AV→Heap→Option (AV×Heap)) (args:List AV) (σ:Heap):Option (AV×Heap):=match args with
 |[.sl _ []]=>some (.ez,σ)
 |[.az]=>some (.ez,σ)
 |[.ez]=>some (.ez,σ)
 |[.os _ _ _ _ 0]=>some (.ez,σ)
 |_=>m args σ
end A
def Sound(P:Program)(nm:List Nat)(f:FuncId)(m:List AV→Heap→Option (AV×Heap)):Prop:=∀args σ r σ',m args σ=some (r,σ')→pH P nm f args σ r σ'
section
variable {P : Program} {nm : List Nat} {f : FuncId} {c c' : RC}
theorem adX{v:Value}(sz:Nat)(hsz:0<sz)(h:an c .az v):an c (.sl sz []) v:=by simp only[an]at h ⊢;subst h;exact⟨none,0,rfl,aQ _,hsz,.inl trivial⟩
theorem aeA{v:Value}(sz:Nat)(hsz:0<sz)(h:an c .ez v):an c (.sl sz []) v:=by simp only[an]at h ⊢;obtain⟨a,rfl⟩:=h;exact⟨a,0,rfl,aQ _,hsz,.inl trivial⟩
mutual
def Sh.ok:Sh→Bool
 |.k=>true
 |.s sz=>Nat.blt 0 sz
 |.e sz l=>Nat.blt 0 sz&&Sh.gE l
 |.a l=>Sh.gE l
 |.t l=>Sh.gE l
 |.p l=>Sh.gE l
def Sh.gE:List Sh→Bool
 |[]=>true
 |x::l=>x.ok&&Sh.gE l
end
theorem acU:∀(l:List Sh)(cs:List AV),(A.dr l cs).length=cs.length
 |[],cs=>by simp [A.dr]
 |_::_,[]=>by simp [A.dr]
 |o::l,v::cs=>by simp [A.dr,acU l cs]
mutual
theorem Ga:∀(s:Sh)(a:AV)(v:Value),s.ok=true→an c a v→an c (A.nn s a) v
 |.k,a,v,_,h=>by simpa [A.nn]using h
 |.s sz,a,v,ho,h=>by cases a<;>simp only[A.nn]<;>first|exact h|exact adX sz (by simpa [Sh.ok]using ho) h|exact aeA sz (by simpa [Sh.ok]using ho) h
 |.e sz l,a,v,ho,h=>by
  simp only[Sh.ok,jC]at ho;cases a<;>simp only[A.nn]<;>first|exact h|exact adX sz (by simpa using ho.1) h|exact aeA sz (by simpa using ho.1) h|skip
  simp only[an]at h ⊢;obtain⟨a,cap,e,h1,h2,h3⟩:=h;refine⟨a,cap,by rw[List.length_map];exact e,by rw[List.length_map];exact h1,h2,?_⟩;rcases h3 with h3|⟨b,off,e1,e2,e3,e4⟩
  ·left;rw[h3];rfl
  ·right;exact⟨b,off,e1,e2,e3,adV l ho.2 _ _ e4⟩
 |.a l,a,v,ho,h=>by
  simp only[Sh.ok]at ho;cases a<;>simp only[A.nn]<;>first|exact h|skip
  simp only[an]at h ⊢;obtain⟨vs,e,h1,h2⟩:=h;exact⟨vs,e,Lv l _ _ ho h1,h2⟩
 |.t ss,a,v,ho,h=>by
  simp only[Sh.ok]at ho;cases a<;>simp only[A.nn]<;>first|exact h|skip
  simp only[an]at h ⊢;obtain⟨vs,e,h1⟩:=h;exact⟨vs,e,Lv ss _ _ ho h1⟩
 |.p l,a,v,ho,h=>by
  simp only[Sh.ok]at ho;cases a<;>simp only[A.nn]<;>first|exact h|skip
  simp only[an]at h ⊢;obtain⟨b,off,e,h1,h2,h3⟩:=h;exact⟨b,off,e,h1,h2,Vg l _ _ ho h3⟩
theorem Lv:∀(ss:List Sh)(l:List AV)(vs:List Value),Sh.gE ss=true→aP c l vs→aP c (A.dr ss l) vs
 |[],l,vs,_,h=>by simpa [A.dr]using h
 |_::_,[],vs,_,h=>by simpa [A.dr]using h
 |s::ss,a::l,vs,ho,h=>by simp only[Sh.gE,jC]at ho;simp only[A.dr,aP]at h ⊢;obtain⟨v,vs',e,h1,h2⟩:=h;exact⟨v,vs',e,Ga s a v ho.1 h1,Lv ss l vs' ho.2 h2⟩
theorem Vg{b:Nat}:∀(l:List Sh)(cs:List AV)(off:Nat),Sh.gE l=true→bL c b off cs→bL c b off (A.dr l cs)
 |[],cs,off,_,h=>by simpa [A.dr]using h
 |_::_,[],off,_,h=>by simpa [A.dr]using h
 |o::l,a::cs,off,ho,h=>by simp only[Sh.gE,jC]at ho;simp only[A.dr,bL]at h ⊢;obtain⟨⟨v,h1,h2,h3⟩,h4⟩:=h;exact⟨⟨v,h1,h2,Ga o a v ho.1 h3⟩,Vg l cs (off+1) ho.2 h4⟩
theorem adV{sz b:Nat}(l:List Sh)(hl:Sh.gE l=true):∀(es:List (List AV))(off:Nat),bP c sz b off es→bP c sz b off (es.map (A.dr l))
 |[],off,h=>by simp [bP]
 |e::es,off,h=>by simp only[eY,bP]at h ⊢;exact⟨by rw[acU];exact h.1,Vg l e off hl h.2.1,adV l hl es _ h.2.2⟩
end
theorem Uc:∀{a:AV}{v:Value},A.yW a=true→an c a v→an c' a v:=by
 intro a v h r;cases a<;>simp only[A.yW]at h<;>first|(cases h;done)|skip
 case sl sz es=>
  cases es with
  |nil=>simp only[an]at r ⊢;obtain⟨q,cap,e,h1,h2,_⟩:=r;exact⟨q,cap,e,h1,h2,.inl trivial⟩
  |cons _ _=>simp at h
 all_goals simpa [an]using r
theorem aan:∀{l:List AV}{vs:List Value},l.all A.yW=true→aP c l vs→aP c' l vs
 |[],vs,_,r=>by simpa [aP]using r
 |a::l,vs,h,r=>by simp only[List.all_cons,jC]at h;simp only[aP]at r ⊢;obtain⟨v,vs',e,h1,h2⟩:=r;exact⟨v,vs',e,Uc h.1 h1,aan h.2 h2⟩
theorem Ud{a:AV}{v:Value}(h:A.xD a=true)(r:an c a v):an c' a v:=by
 unfold A.xD at h;split at h
 ·simp only[an]at r ⊢;obtain⟨vs,e,h1,h2⟩:=r;exact⟨vs,e,aan h h1,h2⟩
 ·exact Uc h r
theorem pH.conv{args args':List AV}{σ σ':Heap}{r r':AV}(h:pH P nm f args' σ r σ')(ha:∀c vs,aP c args vs→aP c args' vs)(hr:∀c v,an c r v→an c r' v):pH P nm f args σ r' σ':=by
 rcases h with⟨g,h1,h2⟩|h
 ·refine .inl ⟨g,h1,λz vs e1 e2 e3 e4=>(h2 z vs e1 e2 e3 (ha _ _ e4)).mono ?_⟩;rintro e w' ⟨v,E',k1,k2,k3,k4⟩;exact⟨v,E',k1,k2,k3,hr _ _ k4⟩
 ·refine .inr λz vs e1 e2 e3 e4=>?_
  obtain⟨v,w',E',k1,k2,k3,k4⟩:=h z vs e1 e2 e3 (ha _ _ e4);exact⟨v,w',E',k1,k2,k3,hr _ _ k4⟩
theorem abq{z0 z:Z}{w':World}{E':List Pl}{n:Nat}(hn:n=z.E.length){a:AV}{v:Value}(h:A.fresh a=true)(r:an (ctx z0 w' E' dS) a v):an (ctx z w' (z.E++E') dS) (A.shift n a) v:=by
 have key:∀(id:Nat)(p:Pl),E'[id]? =some p→(z.E++E')[id+n]? =some p:=λid p hp=>by rw[jj (by omega),hn,Nat.add_sub_cancel];exact hp
 unfold A.fresh at h;unfold A.shift;split at h
 ·simp only[an]at r ⊢;obtain⟨hg,p,h1,h2,r⟩:=r;exact⟨hg,p,key _ _ h1,h2,r⟩
 ·simp only[an]at r ⊢;obtain⟨p,h1,h2,r⟩:=r;exact⟨p,key _ _ h1,h2,r⟩
 ·exact Ud h r
theorem ajG{z0 z:Z}{w':World}{E':List Pl}{n:Nat}(hn:n=z.E.length){vs:List AV}{v:Value}(h:vs.all A.fresh=true)(r:an (ctx z0 w' E' dS) (.aL vs) v):an (ctx z w' (z.E++E') dS) (A.BI n (.aL vs)) v:=by
 simp only[an,A.BI]at r ⊢;obtain⟨us,rfl,r⟩:=r;refine⟨us,rfl,?_⟩;generalize us.toList=us' at r ⊢;induction vs generalizing us' with
 |nil=>simpa [aP]using r
 |cons x l ih=>simp only[List.all_cons,jC]at h;simp only[aP,eY]at r ⊢;obtain⟨v,vs',e,h1,h2⟩:=r;exact⟨v,vs',e,abq hn h.1 h1,ih h.2 _ h2⟩
theorem akZ{z0 z:Z}{w':World}{E':List Pl}{n:Nat}(hn:n=z.E.length){a:AV}{v:Value}(h:A.CB a=true)(r:an (ctx z0 w' E' dS) a v):an (ctx z w' (z.E++E') dS) (A.BI n a) v:=by
 by_cases ht:∃vs,a=.aL vs
 ·obtain⟨vs,rfl⟩:=ht;exact ajG hn h r
 ·have e1:A.CB a=A.fresh a:=by cases a<;>first|rfl|exact absurd ⟨_,rfl⟩ ht
  have e2:A.BI n a=A.shift n a:=by cases a<;>first|rfl|exact absurd ⟨_,rfl⟩ ht
  rw[e1]at h;rw[e2];exact abq hn h r
theorem To{b:Nat}:∀{l:List AV}{off:Nat},l.all A.yW=true→c'.w=c.w→bL c b off l→bL c' b off l
 |[],off,_,_,_=>by simp [bL]
 |a::l,off,h,hw,r=>by simp only[List.all_cons,jC]at h;simp only[bL]at r ⊢;obtain⟨⟨v,h1,h2,h3⟩,h4⟩:=r;exact⟨⟨v,by rw[hw];exact h1,h2,Uc h.1 h3⟩,To h.2 hw h4⟩
theorem ZL{sz b:Nat}:∀{l:List (List AV)}{off:Nat},(l.all λe=>e.all A.yW)=true→c'.w=c.w→bP c sz b off l→bP c' sz b off l
 |[],off,_,_,_=>by simp [bP]
 |a::l,off,h,hw,r=>by simp only[List.all_cons,jC]at h;simp only[bP]at r ⊢;obtain⟨h1,h2,h3⟩:=r;exact⟨h1,To h.1 hw h2,ZL h.2 hw h3⟩
theorem aao:∀{l:List (AV×AV)}{es:List MapEntry},(l.all λp=>A.xD p.1&&A.xD p.2)=true→dK c l es→dK c' l es
 |[],es,_,r=>by simpa [dK]using r
 |(k,v)::l,es,h,r=>by simp only[List.all_cons,jC]at h;simp only[dK]at r ⊢;obtain⟨e,es',h1,h2,h3,h4⟩:=r;exact⟨e,es',h1,Ud h.1.1 h2,Ud h.1.2 h3,aao h.2 h4⟩
theorem akc{p:Pl}{x:aS}(h:A.LC x=true)(hw:c'.w=c.w)(r:sC c p x):sC c' p x:=by
 cases x with
 |box cs=>obtain⟨h1,⟨⟨arr,t,h2,h3⟩,h4⟩⟩:=r;exact⟨h1,⟨arr,t,by rw[hw];exact h2,h3⟩,To h hw h4⟩
 |arr g sz es=>obtain⟨h1,h2,h3,h4,⟨arr,t,h5,h6⟩,h7,h8,h9⟩:=r;exact⟨h1,h2,h3,h4,⟨arr,t,by rw[hw];exact h5,h6⟩,h7,ZL h hw h8,λarr t fz e=>h9 arr t fz (by rw[←hw];exact e)⟩
 |map es=>obtain⟨h1,bK,aM,h2,hwf,h3⟩:=r;exact⟨h1,bK,aM,by rw[hw];exact h2,hwf,aao h h3⟩
 |wE g sz es=>cases h
 |it cur left=>cases h
theorem ab0{z:Z}{σ σ':Heap}{r:AV}{v:Value}{w':World}{E':List Pl}(e2:∀b,z.X b→b<z.w.heap.size)(hh:jO (ctx z z.w z.E dS) σ)(hv:A.CB r=true)(hb:σ'.all A.LC=true)
  (k2:Out ⟨z.w,[],λ_=>False,z.nm⟩ w' E') (k3:jO (ctx ⟨z.w,[],λ_=>False,z.nm⟩ w' E' dS) σ') (k4:an (ctx ⟨z.w,[],λ_=>False,z.nm⟩ w' E' dS) r v):
  ∃l8,Out z w' l8∧jO (ctx z w' l8 dS) (σ++σ')∧an (ctx z w' l8 dS) (A.BI σ.length r) v:=by
 have hlen:z.E.length=σ.length:=hh.len;have hlen':E'.length=σ'.length:=k3.len;have hst:∀b,b<z.w.heap.size→w'.heap[b]? =z.w.heap[b]? :=λb hb=>k2.stay b hb (λp hp=>by cases hp)
 have hlt:∀p∈z.E,p.b<z.w.heap.size:=λp hp=>hh.lt hp
 have hfr:∀p∈E',z.w.heap.size≤p.b:=λp hp=>by
  rcases k2.fresh p hp with k|⟨q,hq,_⟩
  ·exact k
  ·cases hq
 have hx:Ext (ctx z z.w z.E dS) (ctx z w' (z.E++E') dS):=by
  refine⟨k2.size,λb hb hn=>⟨hst b hb,?_⟩,λi p hp=>⟨p,?_,.inl rfl⟩,rfl⟩
  ·rintro(k|⟨p,hp,k⟩|⟨i,k⟩)
   ·exact hn (.inl k)
   ·rcases jP.1 hp with hp|hp
    ·exact hn (.inr (.inl ⟨p,hp,k⟩))
    ·have:=hfr p hp;simp only[ctx]at hb;omega
   ·cases k
  ·simp only[ctx]at hp ⊢;rw[jk (bQ.1 hp).1];exact hp
 have key:∀(i:Nat)(p:Pl),(z.E++E')[i]? =some p→(i<z.E.length∧z.E[i]? =some p)∨(z.E.length≤i∧E'[i-z.E.length]? =some p):=λi p hp=>by
  by_cases hi:i<z.E.length
  ·rw[jk hi]at hp;exact .inl ⟨hi,hp⟩
  ·rw[jj (by omega)]at hp;exact .inr ⟨by omega,hp⟩
 refine⟨z.E++E',⟨k2.os,k2.tape,k2.output,k2.size,λb hb _=>hst b hb,λi p hp=>?_,λi p hp=>⟨p,?_,.inl rfl⟩,e2,hlt⟩,⟨by simp [ctx,hlen,hlen'],λi j p q hp hq e=>?_,λi p x hp dG=>?_⟩,akZ hlen.symm hv k4⟩
 ·rcases key i p hp with⟨_,k⟩|⟨_,k⟩
  ·exact .inr ⟨p,k,rfl⟩
  ·exact .inl (hfr p (dA k))
 ·rw[jk (bQ.1 hp).1];exact hp
 ·simp only[ctx]at hp hq;rcases key i p hp with⟨i1,k⟩|⟨i1,k⟩<;>rcases key j q hq with⟨j1,m⟩|⟨j1,m⟩
  ·exact hh.inj i j p q k m e
  ·have:=hlt p (dA k);have:=hfr q (dA m);omega
  ·have:=hlt q (dA m);have:=hfr p (dA k);omega
  ·have:=k3.inj _ _ p q k m e;omega
 ·simp only[ctx]at hp;rcases key i p hp with⟨i1,k⟩|⟨i1,k⟩
  ·rw[jk (by omega)]at dG;exact(hh.blk i p x k dG).mono hx (hst _ (hlt p (dA k)))
  ·rw[jj (by omega),←hlen]at dG;exact akc (c:=ctx ⟨z.w,[],λ_=>False,z.nm⟩ w' E' dS) (wD.1 hb x (dA dG)) rfl (k3.blk _ p x k dG)
theorem pH.EN{args args':List AV}{σ σ':Heap}{r:AV}(h:pH P nm f args' [] r σ')(ha:A.gm σ 0 8 args=some args')(hv:A.CB r=true)(hb:σ'.all A.LC=true):pH P nm f args σ (A.BI σ.length r) (σ++σ'):=by
 have hX:∀(z:Z)b,¬(ctx ⟨z.w,[],λ_=>False,z.nm⟩ z.w [] dS).X b:=by
  rintro z b (k|⟨p,hp,_⟩|⟨i,k⟩)
  ·exact k.elim
  ·cases hp
  ·cases k
 have wv:∀(z:Z),jO (ctx z z.w z.E dS) σ→Ao (ctx z z.w z.E dS) (ctx ⟨z.w,[],λ_=>False,z.nm⟩ z.w [] dS) σ 0:=λz hh=>
  ⟨rfl,rfl,λb k=>(hX z b k).elim,λid p k=>absurd k (Nat.not_lt_zero _),hh,λid p _ _=>hX z _⟩
 have h0:∀(z:Z),jO (ctx ⟨z.w,[],λ_=>False,z.nm⟩ z.w [] dS) []:=λz=>by
  refine⟨rfl,λi j p q hp=>?_,λi p x hp=>?_⟩
  ·simp [ctx]at hp
  ·simp [ctx]at hp
 rcases h with⟨g,h1,h2⟩|h2
 ·refine .inl ⟨g,h1,λz vs e1 e2 hh e4=>?_⟩;have ha':aP (ctx ⟨z.w,[],λ_=>False,z.nm⟩ z.w [] dS) args' vs.toList:=I1 (wv z hh) 8 (λav dZ v _ e r=>BC (wv z hh) 8 _ _ _ e r) _ _ _ ha e4;refine(h2 ⟨z.w,[],λ_=>False,z.nm⟩ vs e1 (λb k=>k.elim) (h0 z) ha').mono ?_;rintro e w' ⟨v,E',k1,k2,k3,k4⟩;obtain⟨l8,q1,q2,q3⟩:=ab0 e2 hh hv hb k2 k3 k4;exact⟨v,l8,k1,q1,q2,q3⟩
 ·refine .inr λz vs e1 e2 hh e4=>?_
  have ha':aP (ctx ⟨z.w,[],λ_=>False,z.nm⟩ z.w [] dS) args' vs.toList:=I1 (wv z hh) 8 (λav dZ v _ e r=>BC (wv z hh) 8 _ _ _ e r) _ _ _ ha e4;obtain⟨v,w',E',k1,k2,k3,k4⟩:=h2 ⟨z.w,[],λ_=>False,z.nm⟩ vs e1 (λb k=>k.elim) (h0 z) ha';obtain⟨l8,q1,q2,q3⟩:=ab0 e2 hh hv hb k2 k3 k4;exact⟨v,w',l8,k1,q1,q2,q3⟩
theorem acK{z:Z}{w':World}{E':List Pl}{σ σ1 σ':Heap}{x r:AV}{v:Value}(hh:jO (ctx z z.w z.E dS) σ)(hlt:∀b,z.X b→b<z.w.heap.size)(ho:Out z w' E')(hr:jO (ctx z w' E' dS) σ1)(rv:an (ctx z w' E' dS) x v)(k3:A.fin σ x σ1=some (r,σ')):
  ∃l8,Out z w' l8∧jO (ctx z w' l8 dS) σ'∧an (ctx z w' l8 dS) r v:=by
 unfold A.fin at k3;split at k3
 ·rename_i he;simp only[Option.some.injEq,Prod.mk.injEq]at k3;obtain⟨rfl,rfl⟩:=k3;exact⟨E',ho,by rw[←he];exact hr,rv⟩
 ·split at k3
  ·rename_i he;obtain⟨r',k6,k7⟩:=eG.1 k3;simp only[Prod.mk.injEq]at k7;obtain⟨rfl,rfl⟩:=k7;have hlen:=hr.len;simp only[ctx]at hlen;have hzl:z.E.length=σ.length:=hh.len
   have hle2:σ.length≤σ1.length:=by have:=congrArg List.length he;simp at this;omega
   have uG:∀(id:Nat)(p:Pl),id<σ.length→E'[id]? =some p→(E'.take σ.length)[id]? =some p:=λid p hlt' hp=>by rw[List.getElem?_take_of_lt hlt'];exact hp
   have sV:∀(id:Nat)(p:Pl),(E'.take σ.length)[id]? =some p→id<σ.length∧E'[id]? =some p:=λid p hp=>by
    rw[List.getElem?_take]at hp;split at hp
    ·exact⟨by assumption,hp⟩
    ·cases hp
   have wv:Ao (ctx z w' E' dS) (ctx z w' (E'.take σ.length) dS) σ1 σ.length:=by
    refine⟨rfl,rfl,λb k=>?_,uG,hr,λid p hge hp k=>?_⟩
    ·rcases k with k|⟨p,hp,k⟩|⟨i,k⟩
     ·exact .inl k
     ·exact .inr (.inl ⟨p,wC hp,k⟩)
     ·cases k
    ·rcases k with k|⟨q,hq,k⟩|⟨i,k⟩
     ·have hb:=hlt _ k;rcases ho.fresh' id p hp with e|⟨q,hq,_⟩
      ·omega
      ·rw[oL (by omega)]at hq;cases hq
     ·obtain⟨j,hj,rfl⟩:=List.mem_iff_getElem.1 hq;obtain⟨h1,h2⟩:=sV j _ (bR hj);have:=hr.inj j id _ p h2 hp k;omega
     ·cases k
   have heq:∀(id:Nat),id<σ.length→σ[id]? =σ1[id]? :=λid hlt'=>by have h1:(List.take σ.length σ1)[id]? =σ1[id]? :=List.getElem?_take_of_lt hlt';rw[he]at h1;exact h1
   have held:AR (ctx z z.w z.E dS) (ctx z w' E' dS) (ctx z w' (E'.take σ.length) dS):=
    ⟨rfl,rfl,wv.X,λid p0 p e0 e1=>uG id p (by have:=(bQ.1 e0).1;simp only[ctx]at this;omega) e1⟩
   refine⟨E'.take σ.length,?_,?_,BC wv 8 _ _ _ k6 rv⟩
   ·have o:=ho
    exact⟨o.os,o.tape,o.output,o.size,o.stay,λi p hp=>o.fresh' i p (sV i p hp).2,λi p hp=>by
     obtain⟨p',m1,m2⟩:=o.env i p hp
     exact⟨p',uG i p' (by have:=(bQ.1 hp).1;omega) m1,m2⟩,o.lt,o.mine⟩
   ·refine⟨by simp only[ctx,oM];omega,λi j p q hp hq e=>hr.inj i j p q (sV i p hp).2 (sV j q hq).2 e,λi p x hp hx=>?_⟩;obtain⟨hi,hp2⟩:=sV i p hp;have fZ:z.E[i]? =some z.E[i]:=bR (by omega);exact O8 held (hh.blk i _ x fZ hx) (hr.blk i p x hp2 (by rw[←heq i hi];exact hx))
  ·cases k3
theorem Sound.lz{m:List AV→Heap→Option (AV×Heap)}(h:Sound P nm f m)(sh:Sh)(hs:sh.ok=true):Sound P nm f (A.lz sh m):=by
 intro args σ r σ' e;unfold A.lz at e;obtain⟨⟨x,σ1⟩,e1,e2⟩:=bN.1 e;obtain⟨⟨y,σ2⟩,e3,e4⟩:=eG.1 e2;simp only[Prod.mk.injEq]at e4;obtain⟨rfl,rfl⟩:=e4;rcases h _ _ _ _ e1 with⟨g,h1,h2⟩|h2
 ·refine .inl ⟨g,h1,λz vs k1 k2 hh k4=>?_⟩;refine(h2 z vs k1 k2 hh k4).mono ?_;rintro e w' ⟨v,E',q1,q2,q3,q4⟩;obtain⟨l8,p1,p2,p3⟩:=acK hh k2 q2 q3 q4 e3;exact⟨v,l8,q1,p1,p2,Ga _ _ _ hs p3⟩
 ·refine .inr λz vs k1 k2 hh k4=>?_
  obtain⟨v,w',E',q1,q2,q3,q4⟩:=h2 z vs k1 k2 hh k4;obtain⟨l8,p1,p2,p3⟩:=acK hh k2 q2 q3 q4 e3;exact⟨v,w',l8,q1,p1,p2,Ga _ _ _ hs p3⟩
theorem Sound.wrap{r:List AV→Heap→Option (AV×Heap)}(h:Sound P nm f r)(ro:Bool)(gD:List Sh)(ig:Sh)(hi:Sh.gE gD=true)(ho:ig.ok=true):Sound P nm f (A.wrap ro gD ig r):=by
 intro args σ v σ' e;unfold A.wrap at e;cases hc:(ro&&args.any A.own)
 ·rw[hc]at e;simp only[bG]at e;obtain⟨q,e1,e2⟩:=eG.1 e;injection e2 with e2 e3
  subst e2 e3;exact(h _ _ _ _ e1).conv (λc vs k=>Lv _ _ _ hi k) (λc v k=>Ga _ _ _ ho k)
 ·rw[hc]at e;simp only[cq]at e;obtain⟨args',e1,e2⟩:=bN.1 e;obtain⟨q,e3,e4⟩:=bN.1 e2;obtain⟨q1,q2⟩:=q;simp only at e4;cases hs:(A.CB (A.nn ig q1)&&q2.all A.LC)
  ·rw[hs]at e4;cases e4
  ·rw[hs]at e4;simp only[cq,Option.some.injEq,Prod.mk.injEq]at e4;obtain⟨rfl,rfl⟩:=e4;simp only[jC]at hs;exact((h _ _ _ _ e3).conv (args:=args') (λc vs k=>Lv _ _ _ hi k) (λc v k=>Ga _ _ _ ho k)).EN e1 hs.1 hs.2
end
theorem eZ.of{X:Fx}{t:List (FuncId×(List AV→Heap→Option (AV×Heap)))}(hc:X.call=A.tab (λ_ _=>none) t) (ht:∀p∈t,Sound X.P X.nm p.1 p.2) (hd:∀f,Sound X.P X.nm f (X.dyn (X.nm.getD f 0))):eZ X:=by
 refine⟨λf args σ r σ' h=>?_,λf=>hd f⟩;rw[hc]at h;clear hc;induction t with
 |nil=>cases h
 |cons p t ih=>
  obtain⟨m,x⟩:=p;simp only[A.tab]at h;cases hm:(f==m)
  ·rw[hm]at h;exact ih (λp hp=>ht p (sM _ hp)) h
  ·rw[hm]at h;have:f=m:=by simpa using hm
   subst this;exact ht (f,x) (List.mem_cons_self) _ _ _ _ h
theorem Sound.none{P:Program}{nm:List Nat}{f:FuncId}:Sound P nm f (λ_ _=>Option.none):=λ_ _ _ _ h=>by cases h
theorem aI.nil{P:Program}{nm:List Nat}:∀p∈([]:List (FuncId×(List AV→Heap→Option (AV×Heap)))),Sound P nm p.1 p.2:=λ_ h=>by cases h
theorem aI.cons{P:Program}{nm:List Nat}{f:FuncId}{m:List AV→Heap→Option (AV×Heap)}{l:List (FuncId×(List AV→Heap→Option (AV×Heap)))}(h:Sound P nm f m)(t:∀p∈l,Sound P nm p.1 p.2):∀p∈(f,m)::l,Sound P nm p.1 p.2:=
 λp hp=>by rcases jt.1 hp with rfl|hp;exact h;exact t p hp
theorem lu.nil{P:Program}{nm:List Nat}:∀p∈([]:List (Nat×(List AV→Heap→Option (AV×Heap)))),∀f,nm.getD f 0=p.1→Sound P nm f p.2:=λ_ h=>by cases h
theorem lu.cons{P:Program}{nm:List Nat}{k:Nat}{m:List AV→Heap→Option (AV×Heap)}{l:List (Nat×(List AV→Heap→Option (AV×Heap)))}(h:∀f,nm.getD f 0=k→Sound P nm f m)(t:∀p∈l,∀f,nm.getD f 0=p.1→Sound P nm f p.2):∀p∈(k,m)::l,∀f,nm.getD f 0=p.1→Sound P nm f p.2:=
 λp hp=>by rcases jt.1 hp with rfl|hp;exact h;exact t p hp
theorem wm{P:Program}{nm:List Nat}{t:List (Nat×(List AV→Heap→Option (AV×Heap)))}(ht:∀p∈t,∀f,nm.getD f 0=p.1→Sound P nm f p.2)(f:FuncId):Sound P nm f (A.tab (λ_ _=>Option.none) t (nm.getD f 0)):=by
 induction t with
 |nil=>exact Sound.none
 |cons p t ih=>
  obtain⟨k,x⟩:=p;simp only[A.tab];cases hm:(nm.getD f 0==k)
  ·exact ih (λp hp=>ht p (sM _ hp))
  ·exact ht (k,x) List.mem_cons_self f (by simpa using hm)
theorem adU{nm:List Nat}{k g:Nat}(h:(nm.zipIdx.filter λp=>p.1==k)=[(k,g)]) (hk:(0==k)=false) {f:Nat} (hf:nm.getD f 0=k):f=g:=by
 have hlt:f<nm.length:=by
  rcases Nat.lt_or_ge f nm.length with e|e
  ·exact e
  ·simp only[List.getD,oL e,Option.getD_none]at hf;subst hf;simp at hk
 have:(k,f)∈nm.zipIdx.filter λp=>p.1==k:=by refine List.mem_filter.2 ⟨um.2 ⟨f,?_⟩,by simp⟩;simp only[List.getD]at hf;rw[bR hlt]at hf;simp [bR hlt,←hf]
 rw[h]at this;simpa using this
theorem sk{P:Program}{nm:List Nat}{k g:Nat}{m:List AV→Heap→Option (AV×Heap)}(hs:Sound P nm g m)(h:(nm.zipIdx.filter λp=>p.1==k)=[(k,g)]) (hk:(0==k)=false):∀f,nm.getD f 0=k→Sound P nm f m:=
 λf hf=>by have e:=adU h hk hf;subst e;exact hs
def fuel(F:(Nat→List AV→Heap→Option (AV×Heap))→List (Nat×(List AV→Heap→Option (AV×Heap)))):Nat→Nat→List AV→Heap→Option (AV×Heap)
 |0,_=>λ_ _=>none
 |n+1,k=>A.tab (λ_ _=>none) (F (fuel F n)) k
namespace A
def dP(f:AV→Heap→Option (AV×Heap)):List AV→Heap→Option (AV×Heap)
 |[x0],σ=>f x0 σ
 |_,_=>none
def dL(f:AV→AV→Heap→Option (AV×Heap)):List AV→Heap→Option (AV×Heap)
 |[x0,x1],σ=>f x0 x1 σ
 |_,_=>none
def nE(f:AV→AV→AV→Heap→Option (AV×Heap)):List AV→Heap→Option (AV×Heap)
 |[x0,x1,x2],σ=>f x0 x1 x2 σ
 |_,_=>none
def zi(f:AV→AV→AV→AV→Heap→Option (AV×Heap)):List AV→Heap→Option (AV×Heap)
 |[x0,x1,x2,x3],σ=>f x0 x1 x2 x3 σ
 |_,_=>none
def GS(f:AV→AV→AV→AV→AV→Heap→Option (AV×Heap)):List AV→Heap→Option (AV×Heap)
 |[x0,x1,x2,x3,x4],σ=>f x0 x1 x2 x3 x4 σ
 |_,_=>none
def GU(f:AV→AV→AV→AV→AV→AV→Heap→Option (AV×Heap)):List AV→Heap→Option (AV×Heap)
 |[x0,x1,x2,x3,x4,x5],σ=>f x0 x1 x2 x3 x4 x5 σ
 |_,_=>none
def Xj(f:AV→AV→AV→AV→AV→AV→AV→Heap→Option (AV×Heap)):List AV→Heap→Option (AV×Heap)
 |[x0,x1,x2,x3,x4,x5,x6],σ=>f x0 x1 x2 x3 x4 x5 x6 σ
 |_,_=>none
end A
section
variable {X : Fx} {f : FuncId} {fn : Func} {cL : pS}
theorem Sound.xQ{m:AV→Heap→Option (AV×Heap)}(keep:uo)(hkeep:keep.Ok)(hs:eZ X)(hf:X.P.funcs[f]? =some fn)(hc:∀dX w,(callFunc f dX).run X.P w=.ok (.enter f dX) w)(he:∀(x0:AV) (σ:Heap),uy X keep cL fn [x0] σ=m x0 σ):Sound X.P X.nm f (A.dP m):=by
 intro args σ r σ' h;unfold A.dP at h;split at h
 ·exact FH hs hkeep hf hc ((he _ _).trans h)
 ·cases h
theorem Sound.ux{m:AV→AV→Heap→Option (AV×Heap)}(keep:uo)(hkeep:keep.Ok)(hs:eZ X)(hf:X.P.funcs[f]? =some fn)(hc:∀dX w,(callFunc f dX).run X.P w=.ok (.enter f dX) w)(he:∀(x0 x1:AV) (σ:Heap),uy X keep cL fn [x0,x1] σ=m x0 x1 σ):Sound X.P X.nm f (A.dL m):=by
 intro args σ r σ' h;unfold A.dL at h;split at h
 ·exact FH hs hkeep hf hc ((he _ _ _).trans h)
 ·cases h
theorem Sound.Mw{m:AV→AV→AV→Heap→Option (AV×Heap)}(keep:uo)(hkeep:keep.Ok)(hs:eZ X)(hf:X.P.funcs[f]? =some fn)(hc:∀dX w,(callFunc f dX).run X.P w=.ok (.enter f dX) w)(he:∀(x0 x1 x2:AV) (σ:Heap),uy X keep cL fn [x0,x1,x2] σ=m x0 x1 x2 σ):Sound X.P X.nm f (A.nE m):=by
 intro args σ r σ' h;unfold A.nE at h;split at h
 ·exact FH hs hkeep hf hc ((he _ _ _ _).trans h)
 ·cases h
theorem Sound.afx{m:AV→AV→AV→AV→Heap→Option (AV×Heap)}(keep:uo)(hkeep:keep.Ok)(hs:eZ X)(hf:X.P.funcs[f]? =some fn)(hc:∀dX w,(callFunc f dX).run X.P w=.ok (.enter f dX) w)(he:∀(x0 x1 x2 x3:AV) (σ:Heap),uy X keep cL fn [x0,x1,x2,x3] σ=m x0 x1 x2 x3 σ):Sound X.P X.nm f (A.zi m):=by
 intro args σ r σ' h;unfold A.zi at h;split at h
 ·exact FH hs hkeep hf hc ((he _ _ _ _ _).trans h)
 ·cases h
theorem Sound.afy{m:AV→AV→AV→AV→AV→Heap→Option (AV×Heap)}(keep:uo)(hkeep:keep.Ok)(hs:eZ X)(hf:X.P.funcs[f]? =some fn)(hc:∀dX w,(callFunc f dX).run X.P w=.ok (.enter f dX) w)(he:∀(x0 x1 x2 x3 x4:AV) (σ:Heap),uy X keep cL fn [x0,x1,x2,x3,x4] σ=m x0 x1 x2 x3 x4 σ):Sound X.P X.nm f (A.GS m):=by
 intro args σ r σ' h;unfold A.GS at h;split at h
 ·exact FH hs hkeep hf hc ((he _ _ _ _ _ _).trans h)
 ·cases h
theorem Sound.afz{m:AV→AV→AV→AV→AV→AV→Heap→Option (AV×Heap)}(keep:uo)(hkeep:keep.Ok)(hs:eZ X)(hf:X.P.funcs[f]? =some fn)(hc:∀dX w,(callFunc f dX).run X.P w=.ok (.enter f dX) w)(he:∀(x0 x1 x2 x3 x4 x5:AV) (σ:Heap),uy X keep cL fn [x0,x1,x2,x3,x4,x5] σ=m x0 x1 x2 x3 x4 x5 σ):Sound X.P X.nm f (A.GU m):=by
 intro args σ r σ' h;unfold A.GU at h;split at h
 ·exact FH hs hkeep hf hc ((he _ _ _ _ _ _ _).trans h)
 ·cases h
theorem Sound.atN{m:AV→AV→AV→AV→AV→AV→AV→Heap→Option (AV×Heap)}(keep:uo)(hkeep:keep.Ok)(hs:eZ X)(hf:X.P.funcs[f]? =some fn)(hc:∀dX w,(callFunc f dX).run X.P w=.ok (.enter f dX) w)(he:∀(x0 x1 x2 x3 x4 x5 x6:AV) (σ:Heap),uy X keep cL fn [x0,x1,x2,x3,x4,x5,x6] σ=m x0 x1 x2 x3 x4 x5 x6 σ):Sound X.P X.nm f (A.Xj m):=by
 intro args σ r σ' h;unfold A.Xj at h;split at h
 ·exact FH hs hkeep hf hc ((he _ _ _ _ _ _ _ _).trans h)
 ·cases h
end
end
abbrev xW:List Sh:=[.k,.k,.k,.k,.k,.k,.k,(.s 2),.k,.k,(.s 8)]
abbrev GQ:List Sh:=[(.s 10),.k,.k,.k,(.s 3),(.s 4),(.s 3),(.s 2),(.s 3),(.s 2),.k,(.s 5)]
abbrev vD:List Sh:=[.k,.k,.k,.k,.k,.k,(.s 3)]
abbrev BO:Sh:=(.a [(.s 3),(.s 4),(.s 3),(.s 2),(.s 3)])
abbrev Gi:Sh:=(.a [.k,.k,.k,.k,.k,.k,(.s 2)])
section
set_option maxRecDepth 100000
noncomputable def aN:List Nat:=[0,0,0,436,419,421,438,439,0,0,336,416,338,418,357,92,0,102,420,437,136,301,373,374,0,393,392,0,394,0,425,0,426,0,0,402,144,335,70,129,14,13,151,337,155,413,415,355,417,356,90,86,91,5,24,0,422,340,0,360,372,0,343,341,180,135,169,242,240,137,376,379,0,0,0,423,0,424,0,403,0,0,411,0,93,398,399,401,139,1,143,330,331,332,333,334,193,181,69,66,128,127,154,152,339,412,353,352,158,354,414,348,4,23,0,0,358,0,0,359,0,342,94,134,7,241,207,239,166,130,375,168,377,378,0,0,381,380,0,382,384,0,410,383,0,397,400,71,73,2,138,142,3,63,67,68,65,64,153,318,351,350,16,18,0,32,0,27,33,0,34,0,0,258,0,88,89,131,133,6,206,223,238,298,388,391,389,0,387,0,0,409,396,199,72,125,126,141,62,178,203,0,297,140,205,349,15,17,26,0,0,28,29,30,31,361,363,0,367,368,369,370,371,256,257,85,87,132,0,210,390,25,0,0,0,0,345,344,408,395,59,60,61,176,177,0,0,362,262,0,366,365,84,81,209,385,386,0,405,407,58,286,288,0,292,293,294,295,296,364,83,80,208,346,404,406,347,287,291,290,82,53,0,0,289,52,0,0,0,0,0,0,0,0,0,0,0,0,0,0,0,0,0]
section
variable {l : List (FuncId × (aq → Heap → aH))} {f : FuncId} {fn : Func} {ro : Bool} {gD : List Sh} {ig : Sh}
noncomputable def Hf (l:List (FuncId×(aq→Heap→aH))) (L:List Nat) (n:Nat):Fx:=⟨Tryz.prog,aN,A.tab (λ_ _=>none) l,λ_ _ _=>none,L,[],n,[]⟩
theorem q1{m:AV→Heap→aH}(L:List Nat)(n:Nat)(cL:pS)(h:∀p∈l,Sound Tryz.prog aN p.1 p.2)(hf:Tryz.prog.funcs[f]? =some fn)(hc:∀dX w,(callFunc f dX).run Tryz.prog w=.ok (.enter f dX) w)(he:∀(x0:AV) (σ:Heap),uy (Hf l L n) .F cL fn [x0] σ=m x0 σ)(hi:Sh.gE gD=true)(ho:ig.ok=true):Sound Tryz.prog aN f (A.wrap ro gD ig (A.dP m)):=Sound.wrap (Sound.xQ .F trivial (eZ.of rfl h λ_=>Sound.none) hf hc he) _ _ _ hi ho
theorem q2{m:AV→AV→Heap→aH}(L:List Nat)(n:Nat)(cL:pS)(h:∀p∈l,Sound Tryz.prog aN p.1 p.2)(hf:Tryz.prog.funcs[f]? =some fn)(hc:∀dX w,(callFunc f dX).run Tryz.prog w=.ok (.enter f dX) w)(he:∀(x0 x1:AV) (σ:Heap),uy (Hf l L n) .F cL fn [x0,x1] σ=m x0 x1 σ)(hi:Sh.gE gD=true)(ho:ig.ok=true):Sound Tryz.prog aN f (A.wrap ro gD ig (A.dL m)):=Sound.wrap (Sound.ux .F trivial (eZ.of rfl h λ_=>Sound.none) hf hc he) _ _ _ hi ho
theorem q3{m:AV→AV→AV→Heap→aH}(L:List Nat)(n:Nat)(cL:pS)(h:∀p∈l,Sound Tryz.prog aN p.1 p.2)(hf:Tryz.prog.funcs[f]? =some fn)(hc:∀dX w,(callFunc f dX).run Tryz.prog w=.ok (.enter f dX) w)(he:∀(x0 x1 x2:AV) (σ:Heap),uy (Hf l L n) .F cL fn [x0,x1,x2] σ=m x0 x1 x2 σ)(hi:Sh.gE gD=true)(ho:ig.ok=true):Sound Tryz.prog aN f (A.wrap ro gD ig (A.nE m)):=Sound.wrap (Sound.Mw .F trivial (eZ.of rfl h λ_=>Sound.none) hf hc he) _ _ _ hi ho
theorem q4{m:AV→AV→AV→AV→Heap→aH}(L:List Nat)(n:Nat)(cL:pS)(h:∀p∈l,Sound Tryz.prog aN p.1 p.2)(hf:Tryz.prog.funcs[f]? =some fn)(hc:∀dX w,(callFunc f dX).run Tryz.prog w=.ok (.enter f dX) w)(he:∀(x0 x1 x2 x3:AV) (σ:Heap),uy (Hf l L n) .F cL fn [x0,x1,x2,x3] σ=m x0 x1 x2 x3 σ)(hi:Sh.gE gD=true)(ho:ig.ok=true):Sound Tryz.prog aN f (A.wrap ro gD ig (A.zi m)):=Sound.wrap (Sound.afx .F trivial (eZ.of rfl h λ_=>Sound.none) hf hc he) _ _ _ hi ho
theorem q5{m:AV→AV→AV→AV→AV→Heap→aH}(L:List Nat)(n:Nat)(cL:pS)(h:∀p∈l,Sound Tryz.prog aN p.1 p.2)(hf:Tryz.prog.funcs[f]? =some fn)(hc:∀dX w,(callFunc f dX).run Tryz.prog w=.ok (.enter f dX) w)(he:∀(x0 x1 x2 x3 x4:AV) (σ:Heap),uy (Hf l L n) .F cL fn [x0,x1,x2,x3,x4] σ=m x0 x1 x2 x3 x4 σ)(hi:Sh.gE gD=true)(ho:ig.ok=true):Sound Tryz.prog aN f (A.wrap ro gD ig (A.GS m)):=Sound.wrap (Sound.afy .F trivial (eZ.of rfl h λ_=>Sound.none) hf hc he) _ _ _ hi ho
theorem q6{m:AV→AV→AV→AV→AV→AV→Heap→aH}(L:List Nat)(n:Nat)(cL:pS)(h:∀p∈l,Sound Tryz.prog aN p.1 p.2)(hf:Tryz.prog.funcs[f]? =some fn)(hc:∀dX w,(callFunc f dX).run Tryz.prog w=.ok (.enter f dX) w)(he:∀(x0 x1 x2 x3 x4 x5:AV) (σ:Heap),uy (Hf l L n) .F cL fn [x0,x1,x2,x3,x4,x5] σ=m x0 x1 x2 x3 x4 x5 σ)(hi:Sh.gE gD=true)(ho:ig.ok=true):Sound Tryz.prog aN f (A.wrap ro gD ig (A.GU m)):=Sound.wrap (Sound.afz .F trivial (eZ.of rfl h λ_=>Sound.none) hf hc he) _ _ _ hi ho
theorem q7{m:AV→AV→AV→AV→AV→AV→AV→Heap→aH}(L:List Nat)(n:Nat)(cL:pS)(h:∀p∈l,Sound Tryz.prog aN p.1 p.2)(hf:Tryz.prog.funcs[f]? =some fn)(hc:∀dX w,(callFunc f dX).run Tryz.prog w=.ok (.enter f dX) w)(he:∀(x0 x1 x2 x3 x4 x5 x6:AV) (σ:Heap),uy (Hf l L n) .F cL fn [x0,x1,x2,x3,x4,x5,x6] σ=m x0 x1 x2 x3 x4 x5 x6 σ)(hi:Sh.gE gD=true)(ho:ig.ok=true):Sound Tryz.prog aN f (A.wrap ro gD ig (A.Xj m)):=Sound.wrap (Sound.atN .F trivial (eZ.of rfl h λ_=>Sound.none) hf hc he) _ _ _ hi ho
end
end
abbrev aU(n:Int):Prop:=-9223372036854775808≤n∧n≤9223372036854775807
abbrev bu:Nat:=9223372036854775807
def jS{κ:Type}[DecidableEq κ](k:κ)(S:List κ):Bool:=S.any λx=>decide (x=k)
theorem I4{κ:Type}[DecidableEq κ]{k:κ}{S:List κ}:jS k S=true↔k∈S:=by simp only[jS,List.any_eq_true,decide_eq_true_eq];exact⟨λ⟨x,h,e⟩=>e▸h,λh=>⟨k,h,rfl⟩⟩
theorem IP{κ:Type}[DecidableEq κ]{k:κ}{S:List κ}:jS k S=false↔k∉S:=by rw[←I4];simp
def vq(n:Int):aq:=[.ah n]
def asI(s:ByteArray):aq:=[.str s]
def sl{α:Type}(sz:Nat)(c:α→aq)(l:List α):AV:=.sl sz (l.map c)
def gE{α:Type}(p:α→Prop)(l:List α):Prop:=l.length≤bu∧∀x∈l,p x
def kS(s:ByteArray):Prop:=s.size≤bu
theorem ac5(n:Int):A.ak 0 (vq n)=some (.ah n):=rfl
theorem ac6(s:ByteArray):A.ak 0 (asI s)=some (.str s):=rfl
structure nL where
 time:Int
 way:Int
deriving DecidableEq
def jB(x:nL):aq:=[.ah x.time,.ah x.way]
theorem aj1(x:nL):(jB x).length=2:=rfl
def acZ(x:nL):Prop:=aU x.time∧aU x.way
theorem KM(x:nL):A.ak 0 (jB x)=some (.ah x.time):=rfl
theorem KN(x:nL):A.ak 1 (jB x)=some (.ah x.way):=rfl
theorem FO(x:nL):A.aC 0 2 (jB x)=some (.agg (jB x)):=rfl
theorem FJ(x:nL):A.cells 2 (.agg (jB x))=some (jB x):=rfl
theorem FR(x:nL)(l:aq)(h:l.length=2):A.au 0 (jB x) l=some (jB x):=by simp [A.au,aj1,h]
structure sy where
 kind:Int
 ck:(List nL)
def nZ(x:sy):aq:=[.ah x.kind,sl 2 jB x.ck]
theorem ajY(x:sy):(nZ x).length=2:=rfl
def apn(x:sy):Prop:=aU x.kind∧(gE acZ) x.ck
theorem zM(x:sy):A.ak 0 (nZ x)=some (.ah x.kind):=rfl
theorem zN(x:sy):A.ak 1 (nZ x)=some (sl 2 jB x.ck):=rfl
theorem zP(x:sy):A.aC 0 2 (nZ x)=some (.agg (nZ x)):=rfl
theorem zO(x:sy):A.cells 2 (.agg (nZ x))=some (nZ x):=rfl
theorem zQ(x:sy)(l:aq)(h:l.length=2):A.au 0 (nZ x) l=some (nZ x):=by simp [A.au,ajY,h]
structure jd where
 eD:Int
 to:Int
 start:Int
 cD:Int
 time:Int
 gP:sy
def gY(x:jd):aq:=[.ah x.eD,.ah x.to,.ah x.start,.ah x.cD,.ah x.time,.ah x.gP.kind,sl 2 jB x.gP.ck]
theorem alq(x:jd):(gY x).length=7:=rfl
theorem Z9(x:jd):A.ak 0 (gY x)=some (.ah x.eD):=rfl
theorem aaa(x:jd):A.ak 1 (gY x)=some (.ah x.to):=rfl
theorem OK(x:jd):A.ak 2 (gY x)=some (.ah x.start):=rfl
theorem TE(x:jd):A.ak 3 (gY x)=some (.ah x.cD):=rfl
theorem aab(x:jd):A.ak 4 (gY x)=some (.ah x.time):=rfl
theorem ahG(x:jd):A.aC 5 2 (gY x)=some (.agg (nZ x.gP)):=rfl
theorem I5(x:jd):A.aC 0 7 (gY x)=some (.agg (gY x)):=rfl
theorem FV(x:jd):A.cells 7 (.agg (gY x))=some (gY x):=rfl
theorem Pt(x:jd)(l:aq)(h:l.length=7):A.au 0 (gY x) l=some (gY x):=by simp [A.au,alq,h]
structure aoj where
 time:Int
 level:Int
deriving DecidableEq
structure rM where
 low:Int
 high:Int
 name:ByteArray
deriving DecidableEq
def pI(x:rM):aq:=[.ah x.low,.ah x.high,.str x.name]
theorem aj2(x:rM):(pI x).length=3:=rfl
def UX(x:rM):Prop:=aU x.low∧aU x.high∧kS x.name
theorem Oz(x:rM):A.ak 0 (pI x)=some (.ah x.low):=rfl
theorem OA(x:rM):A.ak 1 (pI x)=some (.ah x.high):=rfl
theorem OB(x:rM):A.ak 2 (pI x)=some (.str x.name):=rfl
theorem OZ(x:rM):A.aC 0 3 (pI x)=some (.agg (pI x)):=rfl
theorem OS(x:rM):A.cells 3 (.agg (pI x))=some (pI x):=rfl
theorem O3(x:rM)(l:aq)(h:l.length=3):A.au 0 (pI x) l=some (pI x):=by simp [A.au,aj2,h]
structure fu where
 name:ByteArray
 group:Int
 qv:Int
 oN:Int
 default:Int
 snap:Bool
 ranges:(List rM)
def eX(x:fu):aq:=[.str x.name,.ah x.group,.ah x.qv,.ah x.oN,.ah x.default,.bool x.snap,sl 3 pI x.ranges]
theorem aj0(x:fu):(eX x).length=7:=rfl
def acY(x:fu):Prop:=kS x.name∧aU x.group∧aU x.qv∧aU x.oN∧aU x.default∧(gE UX) x.ranges
theorem DV(x:fu):A.ak 0 (eX x)=some (.str x.name):=rfl
theorem Fw(x:fu):A.ak 1 (eX x)=some (.ah x.group):=rfl
theorem Fy(x:fu):A.ak 2 (eX x)=some (.ah x.qv):=rfl
theorem FC(x:fu):A.ak 3 (eX x)=some (.ah x.oN):=rfl
theorem FE(x:fu):A.ak 4 (eX x)=some (.ah x.default):=rfl
theorem FF(x:fu):A.ak 5 (eX x)=some (.bool x.snap):=rfl
theorem FG(x:fu):A.ak 6 (eX x)=some (sl 3 pI x.ranges):=rfl
theorem FN(x:fu):A.aC 0 7 (eX x)=some (.agg (eX x)):=rfl
theorem FI(x:fu):A.cells 7 (.agg (eX x))=some (eX x):=rfl
theorem Cl(x:fu)(l:aq)(h:l.length=7):A.au 0 (eX x) l=some (eX x):=by simp [A.au,aj0,h]
structure cG where
 name:ByteArray
 size:Int
 params:(List fu)
def cI(x:cG):aq:=[.str x.name,.ah x.size,sl 7 eX x.params]
theorem aik(x:cG):(cI x).length=3:=rfl
def KY(x:cG):Prop:=kS x.name∧aU x.size∧(gE acY) x.params
theorem pe(x:cG):A.ak 0 (cI x)=some (.str x.name):=rfl
theorem p7(x:cG):A.ak 1 (cI x)=some (.ah x.size):=rfl
theorem pg(x:cG):A.ak 2 (cI x)=some (sl 7 eX x.params):=rfl
theorem qc(x:cG):A.aC 0 3 (cI x)=some (.agg (cI x)):=rfl
theorem p9(x:cG):A.cells 3 (.agg (cI x))=some (cI x):=rfl
theorem qd(x:cG)(l:aq)(h:l.length=3):A.au 0 (cI x) l=some (cI x):=by simp [A.au,aik,h]
structure iG where
 aA:Int
 gW:ByteArray
 univ:Int
 address:Int
deriving DecidableEq
def dg(x:iG):aq:=[.ah x.aA,.str x.gW,.ah x.univ,.ah x.address]
theorem alv(x:iG):(dg x).length=4:=rfl
def adZ(x:iG):Prop:=aU x.aA∧kS x.gW∧aU x.univ∧aU x.address
theorem rB(x:iG):A.ak 0 (dg x)=some (.ah x.aA):=rfl
theorem rC(x:iG):A.ak 1 (dg x)=some (.str x.gW):=rfl
theorem rD(x:iG):A.ak 2 (dg x)=some (.ah x.univ):=rfl
theorem rE(x:iG):A.ak 3 (dg x)=some (.ah x.address):=rfl
theorem rI(x:iG):A.aC 0 4 (dg x)=some (.agg (dg x)):=rfl
theorem rG(x:iG):A.cells 4 (.agg (dg x))=some (dg x):=rfl
theorem rJ(x:iG)(l:aq)(h:l.length=4):A.au 0 (dg x) l=some (dg x):=by simp [A.au,alv,h]
structure gC where
 bg:(List cG)
 cW:(List iG)
def kE(x:gC):aq:=[sl 3 cI x.bg,sl 4 dg x.cW]
theorem amQ(x:gC):(kE x).length=2:=rfl
def BM(x:gC):Prop:=(gE KY) x.bg∧(gE adZ) x.cW
theorem xe(x:gC):A.ak 0 (kE x)=some (sl 3 cI x.bg):=rfl
theorem xg(x:gC):A.ak 1 (kE x)=some (sl 4 dg x.cW):=rfl
theorem xu(x:gC):A.aC 0 2 (kE x)=some (.agg (kE x)):=rfl
theorem xk(x:gC):A.cells 2 (.agg (kE x))=some (kE x):=rfl
theorem xw(x:gC)(l:aq)(h:l.length=2):A.au 0 (kE x) l=some (kE x):=by simp [A.au,amQ,h]
structure aG where
 unit:Int
 param:ByteArray
deriving DecidableEq
def aX(x:aG):aq:=[.ah x.unit,.str x.param]
theorem amP(x:aG):(aX x).length=2:=rfl
def aeH(x:aG):Prop:=aU x.unit∧kS x.param
theorem abc(x:aG):A.ak 0 (aX x)=some (.ah x.unit):=rfl
theorem abd(x:aG):A.ak 1 (aX x)=some (.str x.param):=rfl
theorem sx(x:aG):A.aC 0 2 (aX x)=some (.agg (aX x)):=rfl
theorem Cs(x:aG):A.cells 2 (.agg (aX x))=some (aX x):=rfl
theorem FZ(x:aG)(l:aq)(h:l.length=2):A.au 0 (aX x) l=some (aX x):=by simp [A.au,amP,h]
structure nK where
 key:aG
 level:Int
deriving DecidableEq
def eo(x:nK):aq:=[.ah x.key.unit,.str x.key.param,.ah x.level]
theorem ail(x:nK):(eo x).length=3:=rfl
def aa4(x:nK):Prop:=aeH x.key∧aU x.level
theorem ah4(x:nK):A.ak 2 (eo x)=some (.ah x.level):=rfl
theorem ahp(x:nK):A.aC 0 2 (eo x)=some (.agg (aX x.key)):=rfl
theorem Tg(x:nK):A.aC 0 3 (eo x)=some (.agg (eo x)):=rfl
theorem ai0(x:nK):A.cells 3 (.agg (eo x))=some (eo x):=rfl
theorem Tq(x:nK)(l:aq)(h:l.length=3):A.au 0 (eo x) l=some (eo x):=by simp [A.au,ail,h]
structure mj where
 aA:Int
 title:ByteArray
 lZ:(List nK)
def fq(x:mj):aq:=[.ah x.aA,.str x.title,sl 3 eo x.lZ]
theorem aiZ(x:mj):(fq x).length=3:=rfl
def Co(x:mj):Prop:=aU x.aA∧kS x.title∧(gE aa4) x.lZ
theorem aav(x:mj)(l:aq)(h:l.length=3):A.au 0 (fq x) l=some (fq x):=by simp [A.au,aiZ,h]
structure arI where
 auM:(List Int)
 block:Int
 au5:Int
structure oI where
 level:Int
 iV:Int
deriving DecidableEq
def yN(x:oI):aq:=[.ah x.level,.ah x.iV]
def apo(x:oI):Prop:=aU x.level∧aU x.iV
structure gX where
 key:aG
 value:oI
 release:Bool
 BN:Bool
 cD:Int
 time:Int
deriving DecidableEq
def gZ(x:gX):aq:=[.ah x.key.unit,.str x.key.param,.ah x.value.level,.ah x.value.iV,.bool x.release,.bool x.BN,.ah x.cD,.ah x.time]
theorem als(x:gX):(gZ x).length=8:=rfl
def Qa(x:gX):Prop:=aeH x.key∧apo x.value∧aU x.cD∧aU x.time
theorem aks(x:gX):A.ak 0 (gZ x)=some (.ah x.key.unit):=rfl
theorem akt(x:gX):A.ak 1 (gZ x)=some (.str x.key.param):=rfl
theorem aku(x:gX):A.ak 2 (gZ x)=some (.ah x.value.level):=rfl
theorem akv(x:gX):A.ak 3 (gZ x)=some (.ah x.value.iV):=rfl
theorem akw(x:gX):A.ak 4 (gZ x)=some (.bool x.release):=rfl
theorem akx(x:gX):A.ak 5 (gZ x)=some (.bool x.BN):=rfl
theorem aky(x:gX):A.ak 6 (gZ x)=some (.ah x.cD):=rfl
theorem akz(x:gX):A.ak 7 (gZ x)=some (.ah x.time):=rfl
theorem aiC(x:gX):A.aC 0 2 (gZ x)=some (.agg (aX x.key)):=rfl
theorem ahH(x:gX):A.aC 2 2 (gZ x)=some (.agg (yN x.value)):=rfl
theorem anJ(x:gX):A.aC 0 8 (gZ x)=some (.agg (gZ x)):=rfl
theorem amT(x:gX):A.cells 8 (.agg (gZ x))=some (gZ x):=rfl
theorem Pv(x:gX)(l:aq)(h:l.length=8):A.au 0 (gZ x) l=some (gZ x):=by simp [A.au,als,h]
structure bE where
 aA:Int
 title:ByteArray
 cD:Int
 up:Int
 down:Int
 other:Int
 gP:sy
 block:Bool
 eF:Int
 eB:(List gX)
def bA(x:bE):aq:=[.ah x.aA,.str x.title,.ah x.cD,.ah x.up,.ah x.down,.ah x.other,.ah x.gP.kind,sl 2 jB x.gP.ck,.bool x.block,.ah x.eF,sl 8 gZ x.eB]
theorem amN(x:bE):(bA x).length=11:=rfl
def Ew(x:bE):Prop:=aU x.aA∧kS x.title∧aU x.cD∧aU x.up∧aU x.down∧aU x.other∧apn x.gP∧aU x.eF∧(gE Qa) x.eB
theorem T8(x:bE):A.ak 0 (bA x)=some (.ah x.aA):=rfl
theorem al9(x:bE):A.ak 1 (bA x)=some (.str x.title):=rfl
theorem T9(x:bE):A.ak 2 (bA x)=some (.ah x.cD):=rfl
theorem aa9(x:bE):A.ak 3 (bA x)=some (.ah x.up):=rfl
theorem Ua(x:bE):A.ak 4 (bA x)=some (.ah x.down):=rfl
theorem aba(x:bE):A.ak 5 (bA x)=some (.ah x.other):=rfl
theorem ama(x:bE):A.ak 6 (bA x)=some (.ah x.gP.kind):=rfl
theorem amb(x:bE):A.ak 7 (bA x)=some (sl 2 jB x.gP.ck):=rfl
theorem amc(x:bE):A.ak 8 (bA x)=some (.bool x.block):=rfl
theorem abb(x:bE):A.ak 9 (bA x)=some (.ah x.eF):=rfl
theorem Z8(x:bE):A.ak 10 (bA x)=some (sl 8 gZ x.eB):=rfl
theorem SI(x:bE):A.aC 6 2 (bA x)=some (.agg (nZ x.gP)):=rfl
theorem Lw(x:bE):A.aC 0 11 (bA x)=some (.agg (bA x)):=rfl
theorem PC(x:bE):A.cells 11 (.agg (bA x))=some (bA x):=rfl
theorem Lz(x:bE)(l:aq)(h:l.length=11):A.au 0 (bA x) l=some (bA x):=by simp [A.au,amN,h]
structure bD where
 key:aG
 value:oI
 cZ:Int
deriving DecidableEq
def dR(x:bD):aq:=[.ah x.key.unit,.str x.key.param,.ah x.value.level,.ah x.value.iV,.ah x.cZ]
theorem ajZ(x:bD):(dR x).length=5:=rfl
theorem amA(x:bD)(l:aq)(h:l.length=5):A.au 0 (dR x) l=some (dR x):=by simp [A.au,ajZ,h]
structure aqV where
 unit:Int
 eD:Int
 to:Int
deriving DecidableEq
structure kL where
 aA:Int
 bU:(List bE)
def fD(x:kL):aq:=[.ah x.aA,sl 11 bA x.bU]
theorem alr(x:kL):(fD x).length=2:=rfl
def adY(x:kL):Prop:=aU x.aA∧(gE Ew) x.bU
theorem akr(x:kL):A.ak 0 (fD x)=some (.ah x.aA):=rfl
theorem TF(x:kL):A.ak 1 (fD x)=some (sl 11 bA x.bU):=rfl
theorem anI(x:kL):A.aC 0 2 (fD x)=some (.agg (fD x)):=rfl
theorem amS(x:kL):A.cells 2 (.agg (fD x))=some (fD x):=rfl
theorem Pu(x:kL)(l:aq)(h:l.length=2):A.au 0 (fD x) l=some (fD x):=by simp [A.au,alr,h]
structure nY where
 aA:Int
 list:Int
 ku:Int
deriving DecidableEq
def dI(x:nY):aq:=[.ah x.aA,.ah x.list,.ah x.ku]
theorem ahZ(x:nY):(dI x).length=3:=rfl
def Z7(x:nY):Prop:=aU x.aA∧aU x.list∧aU x.ku
theorem ahD(x:nY):A.ak 0 (dI x)=some (.ah x.aA):=rfl
theorem ahE(x:nY):A.ak 1 (dI x)=some (.ah x.list):=rfl
theorem ahF(x:nY):A.ak 2 (dI x)=some (.ah x.ku):=rfl
theorem aiD(x:nY):A.aC 0 3 (dI x)=some (.agg (dI x)):=rfl
theorem aim(x:nY):A.cells 3 (.agg (dI x))=some (dI x):=rfl
theorem Zm(x:nY)(l:aq)(h:l.length=3):A.au 0 (dI x) l=some (dI x):=by simp [A.au,ahZ,h]
structure iT where
 aZ:gC
 cA:(List mj)
 cV:(List kL)
 cm:(List nY)
def bO(x:iT):aq:=[sl 3 cI x.aZ.bg,sl 4 dg x.aZ.cW,sl 3 fq x.cA,sl 2 fD x.cV,sl 3 dI x.cm]
def Cw(x:iT):Prop:=BM x.aZ∧(gE Co) x.cA∧(gE adY) x.cV∧(gE Z7) x.cm
theorem ZH(x:iT):A.ak 0 (bO x)=some (sl 3 cI x.aZ.bg):=rfl
structure fk where
 time:Int
 kind:Int
 kr:Int
 cZ:Int
 level:Int
deriving DecidableEq
def bX(x:fk):aq:=[.ah x.time,.ah x.kind,.ah x.kr,.ah x.cZ,.ah x.level]
def Pk(x:fk):Prop:=aU x.time∧aU x.kind∧aU x.kr∧aU x.cZ∧aU x.level
theorem aiB(x:fk):A.ak 0 (bX x)=some (.ah x.time):=rfl
theorem Zh(x:fk):A.ak 1 (bX x)=some (.ah x.kind):=rfl
theorem KV(x:fk):A.aC 0 5 (bX x)=some (.agg (bX x)):=rfl
structure apW where
 qv:Int
 action:fk
deriving DecidableEq
structure apZ where
 hours:Int
 minutes:Int
 seconds:Int
 frames:Int
deriving DecidableEq
structure aeT where
 key:aG
 l6:jd
 oJ:Int
 ending:Bool
structure ali where
 kr:Int
 cZ:Int
 kY:Int
 aqy:Bool
 eF:Int
 runs:(List aeT)
structure Zo where
 level:Int
 hold:Int
 l6:Int
deriving DecidableEq
structure acA where
 form:Int
 low:Int
 high:Int
 auV:Int
 width:Int
 spread:Int
 back:Bool
 auL:Bool
 steps:(List Zo)
structure aek where
 time:Int
 auN:Int
deriving DecidableEq
structure amI where
 effect:acA
 keys:(List aG)
 start:Int
 au3:(List aek)
 Ki:Int
 fin:Int
 out:Int
def N9:aq→Heap→aH:=A.dL λa b σ=>match a,b with
 |.str a,.str b=>some (.int .i64 (Lib.compareBytes a.data.toList b.data.toList),σ)
 |_,_=>none
def ud(a b:aG):Int:=if ¬(a.unit=b.unit)then(if a.unit<b.unit then -1 else 1)else Lib.compareBytes a.param.data.toList b.param.data.toList
def xP{α:Type}[Inhabited α](cf:α→α→Int)(l:List α):List α:=(Sort.pdq (λx y=>decide (cf x y<0)) l.toArray 0 l.length (Lib.bitLen l.length) true true).toList
noncomputable def A.LN {α:Type} [Inhabited α] (sz:Nat) (c:α→aq) (cf:α→α→Int) (x:AV) (σ:Heap):aH:=match x with
 |.az=>some (.aL [],σ)
 |.os id g iD off len=>match σ[id]? with
  | some (.arr g' sz' es) => open Classical in if h : (g = g' ∧ sz = sz' ∧ iD = sz ∧ off + len ≤ es.length ∧ 0 < len ∧ len < 4611686018427387904) ∧ ∃ l : List α, (es.drop off).take len = l.map c then
    some (.aL [],σ.set id (.arr g sz (es.take off++(xP cf (Classical.choose h.2)).map c++es.drop (off+len))))else none
  |_=>none
 |_=>none
noncomputable def Kp:aq→Heap→aH:=A.dL λx f σ=>match f with
 |.fn 297 []=>@A.LN bD ⟨⟨⟨0,⟨#[]⟩⟩,⟨0,0⟩,0⟩⟩ 5 dR (λa b=>ud a.key b.key) x σ
 |_=>none
section
set_option maxRecDepth 100000
noncomputable def NR (dyn:Nat→aq→Heap→aH) (a0 a1:AV) (σ:Heap):aH:=(A.bY a0).bind λx1=>(A.loop (λv2 s3=>(A.lss (aj v2 1) x1).bind λx5=>A.cond x5 ((A.bh 3 a0 (aj v2 1)).bind λx6=>((A.deref x6 s3).bind λc7=>A.aC 0 3 c7).bind λx8=>(A.lS dyn a1 [x8] s3).bind λr9=>A.cond r9.1 (some (AX.ret,[(aj v2 1),(aj v2 1)],r9.2)) ((A.add (aj v2 1) (AV.ah 1)).bind λbT=>some (AX.normal,[(aj v2 0),bT],r9.2))) (some (AX.exit 0,[(aj v2 0),(aj v2 1)],s3))) [(AV.ah 0),(AV.ah 0)] σ).bind λeU=>bif eU.1==AX.exit 0 then(A.fin σ (AV.ah (-1)) eU.2.2)else bif eU.1==AX.ret then(A.fin σ (aj eU.2.1 0) eU.2.2)else none
noncomputable def NQ (dyn:Nat→aq→Heap→aH):aq→Heap→aH:=A.wrap true [(.s 3)] .k (A.dL (NR dyn))
noncomputable def NV (dyn:Nat→aq→Heap→aH) (a0 a1:AV) (σ:Heap):aH:=(A.bY a0).bind λx1=>(A.loop (λv2 s3=>(A.lss (aj v2 1) x1).bind λx5=>A.cond x5 ((A.bh 8 a0 (aj v2 1)).bind λx6=>((A.deref x6 s3).bind λc7=>A.aC 0 8 c7).bind λx8=>(A.lS dyn a1 [x8] s3).bind λr9=>A.cond r9.1 (some (AX.ret,[(aj v2 1),(aj v2 1)],r9.2)) ((A.add (aj v2 1) (AV.ah 1)).bind λbT=>some (AX.normal,[(aj v2 0),bT],r9.2))) (some (AX.exit 0,[(aj v2 0),(aj v2 1)],s3))) [(AV.ah 0),(AV.ah 0)] σ).bind λeU=>bif eU.1==AX.exit 0 then(A.fin σ (AV.ah (-1)) eU.2.2)else bif eU.1==AX.ret then(A.fin σ (aj eU.2.1 0) eU.2.2)else none
noncomputable def Kn (dyn:Nat→aq→Heap→aH):aq→Heap→aH:=A.wrap true [(.s 8)] .k (A.dL (NV dyn))
noncomputable def RE (a0:AV) (σ:Heap):aH:=(A.tH a0 AV.az).bind λx1=>A.cond x1 (some (AV.az,σ)) ((A.append 2 (140737488355328 / 16) AV.ez a0 σ).bind λr2=>some (r2.1,r2.2))
noncomputable def Fe:aq→Heap→aH:=A.uc (A.wrap true [(.s 2)] .k (A.dP RE))
noncomputable def RH (a0:AV) (σ:Heap):aH:=(A.tH a0 AV.az).bind λx1=>A.cond x1 (some (AV.az,σ)) ((A.append 8 (140737488355328 / 64) AV.ez a0 σ).bind λr2=>some (r2.1,r2.2))
noncomputable def Fg:aq→Heap→aH:=A.uc (A.wrap true [(.s 8)] .k (A.dP RH))
noncomputable def Ih (dyn:Nat→aq→Heap→aH) (a0 a1 a2:AV) (σ:Heap):aH:=(A.bY a0).bind λx1=>(A.loop (λv2 s3=>(A.lss (aj v2 0) (aj v2 1)).bind λx5=>A.cond x5 ((A.add (aj v2 0) (aj v2 1)).bind λx6=>(A.conv .u64 x6).bind λx7=>(A.shr x7 (AV.int .u64 1)).bind λx8=>(A.conv .i64 x8).bind λx9=>(A.bh 11 a0 x9).bind λbT=>((A.deref bT s3).bind λiJ=>A.aC 0 11 iJ).bind λdU=>(A.lS dyn a2 [dU,a1] s3).bind λuJ=>(A.lss uJ.1 (AV.ah 0)).bind λef=>(A.cond ef ((A.add x9 (AV.ah 1)).bind λdM=>some ([dM,(aj v2 1)],uJ.2)) (some ([(aj v2 0),x9],uJ.2))).bind λwT=>some (AX.normal,[(aj wT.1 0),(aj wT.1 1)],wT.2)) (some (AX.exit 0,[(aj v2 0),(aj v2 1)],s3))) [(AV.ah 0),x1] σ).bind λE6=>bif E6.1==AX.exit 0 then((A.lss (aj E6.2.1 0) x1).bind λcN=>(A.guard cN true (some a2) ay).bind λey=>(A.guard cN true (some a0) ay).bind λeC=>(A.guard cN true (some (aj E6.2.1 0)) ay).bind λcO=>(A.guard cN true (A.bh 11 eC cO) ay).bind λdW=>(A.guard cN true ((A.deref dW E6.2.2).bind λfJ=>A.aC 0 11 fJ) ay).bind λx24=>(A.guard cN true (some a1) ay).bind λx25=>(A.guard cN true (A.quiet (A.lS dyn ey [x24,x25] E6.2.2) E6.2.2) ay).bind λiw=>(A.guard cN true (A.eql .i iw (AV.ah 0)) ay).bind λeE=>(A.pick cN eE aR).bind λx28=>A.fin σ (AV.aL [(aj E6.2.1 0),x28]) E6.2.2)else none
noncomputable def Ig (dyn:Nat→aq→Heap→aH):aq→Heap→aH:=A.wrap true [(.s 11)] .k (A.nE (Ih dyn))
noncomputable def Yk (a0:AV) (σ:Heap):aH:=(A.tH a0 AV.az).bind λx1=>A.cond x1 (some (AV.az,σ)) ((A.append 11 (140737488355328 / 128) AV.ez a0 σ).bind λr2=>some (r2.1,r2.2))
noncomputable def Fh:aq→Heap→aH:=A.uc (A.wrap true [(.s 11)] .k (A.dP Yk))
noncomputable def NW (dyn:Nat→aq→Heap→aH) (a0 a1:AV) (σ:Heap):aH:=(A.bY a0).bind λx1=>(A.loop (λv2 s3=>(A.lss (aj v2 1) x1).bind λx5=>A.cond x5 ((A.bh 11 a0 (aj v2 1)).bind λx6=>((A.deref x6 s3).bind λc7=>A.aC 0 11 c7).bind λx8=>(A.lS dyn a1 [x8] s3).bind λr9=>A.cond r9.1 (some (AX.ret,[(aj v2 1),(aj v2 1)],r9.2)) ((A.add (aj v2 1) (AV.ah 1)).bind λbT=>some (AX.normal,[(aj v2 0),bT],r9.2))) (some (AX.exit 0,[(aj v2 0),(aj v2 1)],s3))) [(AV.ah 0),(AV.ah 0)] σ).bind λeU=>bif eU.1==AX.exit 0 then(A.fin σ (AV.ah (-1)) eU.2.2)else bif eU.1==AX.ret then(A.fin σ (aj eU.2.1 0) eU.2.2)else none
noncomputable def Ko (dyn:Nat→aq→Heap→aH):aq→Heap→aH:=A.wrap true [(.s 11)] .k (A.dL (NW dyn))
noncomputable def NU (dyn:Nat→aq→Heap→aH) (a0 a1:AV) (σ:Heap):aH:=(A.bY a0).bind λx1=>(A.loop (λv2 s3=>(A.lss (aj v2 1) x1).bind λx5=>A.cond x5 ((A.bh 2 a0 (aj v2 1)).bind λx6=>((A.deref x6 s3).bind λc7=>A.aC 0 2 c7).bind λx8=>(A.lS dyn a1 [x8] s3).bind λr9=>A.cond r9.1 (some (AX.ret,[(aj v2 1),(aj v2 1)],r9.2)) ((A.add (aj v2 1) (AV.ah 1)).bind λbT=>some (AX.normal,[(aj v2 0),bT],r9.2))) (some (AX.exit 0,[(aj v2 0),(aj v2 1)],s3))) [(AV.ah 0),(AV.ah 0)] σ).bind λeU=>bif eU.1==AX.exit 0 then(A.fin σ (AV.ah (-1)) eU.2.2)else bif eU.1==AX.ret then(A.fin σ (aj eU.2.1 0) eU.2.2)else none
noncomputable def NT (dyn:Nat→aq→Heap→aH):aq→Heap→aH:=A.wrap true [(.s 2)] .k (A.dL (NU dyn))
noncomputable def NP (dyn:Nat→aq→Heap→aH) (a0 a1:AV) (σ:Heap):aH:=(A.bY a0).bind λx1=>(A.loop (λv2 s3=>(A.lss (aj v2 1) x1).bind λx5=>A.cond x5 ((A.bh 3 a0 (aj v2 1)).bind λx6=>((A.deref x6 s3).bind λc7=>A.aC 0 3 c7).bind λx8=>(A.lS dyn a1 [x8] s3).bind λr9=>A.cond r9.1 (some (AX.ret,[(aj v2 1),(aj v2 1)],r9.2)) ((A.add (aj v2 1) (AV.ah 1)).bind λbT=>some (AX.normal,[(aj v2 0),bT],r9.2))) (some (AX.exit 0,[(aj v2 0),(aj v2 1)],s3))) [(AV.ah 0),(AV.ah 0)] σ).bind λeU=>bif eU.1==AX.exit 0 then(A.fin σ (AV.ah (-1)) eU.2.2)else bif eU.1==AX.ret then(A.fin σ (aj eU.2.1 0) eU.2.2)else none
noncomputable def NO (dyn:Nat→aq→Heap→aH):aq→Heap→aH:=A.wrap true [(.s 3)] .k (A.dL (NP dyn))
noncomputable def NN (dyn:Nat→aq→Heap→aH) (a0 a1:AV) (σ:Heap):aH:=(NO dyn [a0,a1] σ).bind λr1=>(A.geq r1.1 (AV.ah 0)).bind λx2=>A.fin σ x2 r1.2
noncomputable def NM (dyn:Nat→aq→Heap→aH):aq→Heap→aH:=A.wrap true [(.s 3)] .k (A.dL (NN dyn))
noncomputable def RA (a0:AV) (σ:Heap):aH:=(A.tH a0 AV.az).bind λx1=>A.cond x1 (some (AV.az,σ)) ((A.append 3 (140737488355328 / 24) AV.ez a0 σ).bind λr2=>some (r2.1,r2.2))
noncomputable def Rz:aq→Heap→aH:=A.uc (A.wrap true [(.s 3)] .k (A.dP RA))
noncomputable def RJ (a0:AV) (σ:Heap):aH:=(A.tH a0 AV.az).bind λx1=>A.cond x1 (some (AV.az,σ)) ((A.append 4 (140737488355328 / 40) AV.ez a0 σ).bind λr2=>some (r2.1,r2.2))
noncomputable def RG:aq→Heap→aH:=A.uc (A.wrap true [(.s 4)] .k (A.dP RJ))
noncomputable def Yj (a0:AV) (σ:Heap):aH:=(A.tH a0 AV.az).bind λx1=>A.cond x1 (some (AV.az,σ)) ((A.append 7 (140737488355328 / 80) AV.ez a0 σ).bind λr2=>some (r2.1,r2.2))
noncomputable def Il:aq→Heap→aH:=A.uc (A.wrap true [(.s 7)] .k (A.dP Yj))
noncomputable def RF (a0:AV) (σ:Heap):aH:=(A.tH a0 AV.az).bind λx1=>A.cond x1 (some (AV.az,σ)) ((A.append 3 (140737488355328 / 32) AV.ez a0 σ).bind λr2=>some (r2.1,r2.2))
noncomputable def Ff:aq→Heap→aH:=A.uc (A.wrap true [(.s 3)] .k (A.dP RF))
noncomputable def RB (a0:AV) (σ:Heap):aH:=(A.tH a0 AV.az).bind λx1=>A.cond x1 (some (AV.az,σ)) ((A.append 3 (140737488355328 / 32) AV.ez a0 σ).bind λr2=>some (r2.1,r2.2))
noncomputable def Ii:aq→Heap→aH:=A.uc (A.wrap true [(.s 3)] .k (A.dP RB))
noncomputable def RD (a0:AV) (σ:Heap):aH:=(A.tH a0 AV.az).bind λx1=>A.cond x1 (some (AV.az,σ)) ((A.append 5 (140737488355328 / 40) AV.ez a0 σ).bind λr2=>some (r2.1,r2.2))
noncomputable def NX:aq→Heap→aH:=A.uc (A.wrap false [] .k (A.dP RD))
noncomputable def Ik (a0:AV) (σ:Heap):aH:=(A.tH a0 AV.az).bind λx1=>A.cond x1 (some (AV.az,σ)) ((A.append 10 (140737488355328 / 96) AV.ez a0 σ).bind λr2=>some (r2.1,r2.2))
noncomputable def Ij:aq→Heap→aH:=A.uc (A.wrap false [] .k (A.dP Ik))
noncomputable def NS (dyn:Nat→aq→Heap→aH) (a0 a1:AV) (σ:Heap):aH:=(A.bY a0).bind λx1=>(A.loop (λv2 s3=>(A.lss (aj v2 1) x1).bind λx5=>A.cond x5 ((A.bh 10 a0 (aj v2 1)).bind λx6=>((A.deref x6 s3).bind λc7=>A.aC 0 10 c7).bind λx8=>(A.lS dyn a1 [x8] s3).bind λr9=>A.cond r9.1 (some (AX.ret,[(aj v2 1),(aj v2 1)],r9.2)) ((A.add (aj v2 1) (AV.ah 1)).bind λbT=>some (AX.normal,[(aj v2 0),bT],r9.2))) (some (AX.exit 0,[(aj v2 0),(aj v2 1)],s3))) [(AV.ah 0),(AV.ah 0)] σ).bind λeU=>bif eU.1==AX.exit 0 then(A.fin σ (AV.ah (-1)) eU.2.2)else bif eU.1==AX.ret then(A.fin σ (aj eU.2.1 0) eU.2.2)else none
noncomputable def Km (dyn:Nat→aq→Heap→aH):aq→Heap→aH:=A.wrap true [(.s 10)] .k (A.dL (NS dyn))
end
abbrev SmK:={k:aG // 0≤k.unit∧k.unit≤1000000}
instance : Inhabited SmK := ⟨⟨⟨0, ⟨#[]⟩⟩, by decide⟩⟩
section
set_option maxRecDepth 100000
noncomputable def TL (a0:AV) (σ:Heap):aH:=(A.EM a0).bind λx1=>(A.loop (λv2 s3=>(A.lss (aj v2 1) x1).bind λx5=>A.cond x5 ((A.wL a0 (aj v2 1)).bind λx6=>(A.geq x6 (AV.int .u8 97)).bind λx7=>(A.guard x7 true (some x6) ay).bind λx8=>(A.guard x7 true (A.leq x8 (AV.int .u8 122)) ay).bind λx9=>(A.pick x7 x9 aR).bind λbT=>(A.guard bT false (some x6) ay).bind λdH=>(A.guard bT false (A.geq dH (AV.int .u8 48)) ay).bind λdU=>(A.guard bT false (some dU) ay).bind λdY=>(A.guard dY true (some x6) ay).bind λef=>(A.guard dY true (A.leq ef (AV.int .u8 57)) ay).bind λdV=>(A.guard bT false (A.pick dY dV aR) ay).bind λdM=>(A.pick bT dD dM).bind λdQ=>(A.guard dQ false (some x6) ay).bind λcN=>(A.guard dQ false (A.eql .i cN (AV.int .u8 45)) ay).bind λey=>(A.pick dQ dD ey).bind λeC=>(A.not eC).bind λcO=>A.cond cO (some (AX.ret,[aR,(aj v2 1)],s3)) ((A.add (aj v2 1) (AV.ah 1)).bind λdW=>some (AX.normal,[(aj v2 0),dW],s3))) (some (AX.exit 0,[(aj v2 0),(aj v2 1)],s3))) [aR,(AV.ah 0)] σ).bind λnX=>bif nX.1==AX.exit 0 then((A.neq .z a0 bB).bind λx24=>A.fin σ x24 nX.2.2)else bif nX.1==AX.ret then(A.fin σ (aj nX.2.1 0) nX.2.2)else none
noncomputable def TC:aq→Heap→aH:=A.wrap true [] .k (A.dP TL)
noncomputable def Tj (a0:AV) (σ:Heap):aH:=(TC [a0] σ).bind λr1=>(A.guard r1.1 true (some a0) ay).bind λx2=>(A.guard r1.1 true (A.EM x2) ay).bind λx3=>(A.guard r1.1 true (A.leq x3 (AV.ah 20)) ay).bind λx4=>(A.pick r1.1 x4 aR).bind λx5=>(A.guard x5 true (some a0) ay).bind λx6=>(A.guard x5 true (A.wL x6 (AV.ah 0)) ay).bind λx7=>(A.guard x5 true (A.geq x7 (AV.int .u8 97)) ay).bind λx8=>(A.pick x5 x8 aR).bind λx9=>(A.guard x9 true (some a0) ay).bind λbT=>(A.guard x9 true (A.wL bT (AV.ah 0)) ay).bind λdH=>(A.guard x9 true (A.leq dH (AV.int .u8 122)) ay).bind λdU=>(A.pick x9 dU aR).bind λdY=>A.fin σ dY r1.2
noncomputable def II:aq→Heap→aH:=A.wrap true [] .k (A.dP Tj)
noncomputable def SN (a0 a1 a2:AV) (σ:Heap):aH:=(A.geq a0 a1).bind λx1=>(A.guard x1 true (some a0) ay).bind λx2=>(A.guard x1 true (some a2) ay).bind λx3=>(A.guard x1 true (A.leq x2 x3) ay).bind λx4=>(A.pick x1 x4 aR).bind λx5=>A.fin σ x5 σ
noncomputable def lQ:aq→Heap→aH:=A.wrap true [] .k (A.nE SN)
noncomputable def Tk (a0 a1:AV) (σ:Heap):aH:=A.cond a0 (A.fin σ a1 σ) (A.fin σ (AV.ah 0) σ)
noncomputable def uR:aq→Heap→aH:=A.wrap true [] .k (A.dL Tk)
noncomputable def S6 (a0:AV) (σ:Heap):aH:=(A.bY a0).bind λx1=>(A.loop (λv2 s3=>(A.lss (aj v2 1) x1).bind λx5=>A.cond x5 ((A.bh 1 a0 (aj v2 1)).bind λx6=>((A.deref x6 s3).bind λc7=>A.ak 0 c7).bind λx8=>(A.neq .i x8 (AV.ah 0)).bind λx9=>A.cond x9 (some (AX.ret,[x8,(aj v2 1)],s3)) ((A.add (aj v2 1) (AV.ah 1)).bind λbT=>some (AX.normal,[(aj v2 0),bT],s3))) (some (AX.exit 0,[(aj v2 0),(aj v2 1)],s3))) [(AV.ah 0),(AV.ah 0)] σ).bind λeU=>bif eU.1==AX.exit 0 then(A.fin σ (AV.ah 0) eU.2.2)else bif eU.1==AX.ret then(A.fin σ (aj eU.2.1 0) eU.2.2)else none
noncomputable def Bq:aq→Heap→aH:=A.wrap true [(.s 1)] .k (A.dP S6)
noncomputable def S9 (a0:AV) (σ:Heap):aH:=(A.EM a0).bind λx1=>(A.loop (λv2 s3=>(A.lss (aj v2 1) x1).bind λx5=>A.cond x5 ((A.wL a0 (aj v2 1)).bind λx6=>(A.lss x6 (AV.int .u8 32)).bind λx7=>(A.guard x7 false (some a0) ay).bind λx8=>(A.guard x7 false (some (aj v2 1)) ay).bind λx9=>(A.guard x7 false (A.wL x8 x9) ay).bind λbT=>(A.guard x7 false (A.gtr bT (AV.int .u8 126)) ay).bind λdH=>(A.pick x7 dD dH).bind λdU=>A.cond dU (some (AX.ret,[aR,(aj v2 1)],s3)) ((A.add (aj v2 1) (AV.ah 1)).bind λdY=>some (AX.normal,[(aj v2 0),dY],s3))) (some (AX.exit 0,[(aj v2 0),(aj v2 1)],s3))) [aR,(AV.ah 0)] σ).bind λkT=>bif kT.1==AX.exit 0 then((A.neq .z a0 bB).bind λdV=>(A.guard dV true (some a0) ay).bind λdM=>(A.guard dV true (A.EM dM) ay).bind λdQ=>(A.guard dV true (A.leq dQ (AV.ah 60)) ay).bind λcN=>(A.pick dV cN aR).bind λey=>(A.guard ey true (some a0) ay).bind λeC=>(A.guard ey true (A.wL eC (AV.ah 0)) ay).bind λcO=>(A.guard ey true (A.neq .i cO (AV.int .u8 32)) ay).bind λdW=>(A.pick ey dW aR).bind λfT=>(A.guard fT true (some a0) ay).bind λx24=>(A.guard fT true (some a0) ay).bind λx25=>(A.guard fT true (A.EM x25) ay).bind λiw=>(A.guard fT true (A.sub iw (AV.ah 1)) ay).bind λeE=>(A.guard fT true (A.wL x24 eE) ay).bind λx28=>(A.guard fT true (A.neq .i x28 (AV.int .u8 32)) ay).bind λx29=>(A.pick fT x29 aR).bind λdF=>A.fin σ dF kT.2.2)else bif kT.1==AX.ret then(A.fin σ (aj kT.2.1 0) kT.2.2)else none
noncomputable def Oq:aq→Heap→aH:=A.wrap true [] .k (A.dP S9)
noncomputable def S7 (a0 a1:AV) (σ:Heap):aH:=(A.quo a0 a1).bind λx1=>(A.rem a0 a1).bind λx2=>(A.lss x2 (AV.ah 0)).bind λx3=>(A.cond x3 ((A.sub x1 (AV.ah 1)).bind λx5=>some ([x5],σ)) (some ([x1],σ))).bind λr4=>A.fin σ (aj r4.1 0) r4.2
noncomputable def SR:aq→Heap→aH:=A.wrap true [] .k (A.dL S7)
noncomputable def S8 (a0 a1:AV) (σ:Heap):aH:=(A.mul (AV.ah 2) a0).bind λx1=>(A.add x1 a1).bind λx2=>(A.mul (AV.ah 2) a1).bind λx3=>(SR [x2,x3] σ).bind λr4=>A.fin σ r4.1 r4.2
noncomputable def SS:aq→Heap→aH:=A.wrap true [] .k (A.dL S8)
end
section
set_option maxRecDepth 100000
noncomputable def R9 (a0:AV) (σ:Heap):aH:=(lQ [a0,(AV.ah 0),(AV.ah 65535)] σ).bind λr1=>A.fin σ r1.1 r1.2
noncomputable def Ku:aq→Heap→aH:=A.wrap true [] .k (A.dP R9)
noncomputable def RU (a0:AV) (σ:Heap):aH:=(A.bY a0).bind λx1=>(A.gtr x1 (AV.ah 30)).bind λx2=>A.cond x2 (A.fin σ (AV.ah 2) σ) ((A.bY a0).bind λx3=>(A.loop (λv4 s5=>(A.lss (aj v4 1) x3).bind λx7=>A.cond x7 ((A.bh 3 a0 (aj v4 1)).bind λx8=>((A.deref x8 s5).bind λc9=>A.aC 0 3 c9).bind λbT=>(A.cells 3 bT).bind λiJ=>(A.au 0 iJ [(AV.ah 0),(AV.ah 0),bB]).bind λfE=>(A.ak 0 fE).bind λdY=>(Ku [dY] s5).bind λkT=>(A.not kT.1).bind λdV=>(A.guard dV false (A.ak 1 fE) ay).bind λdM=>(A.guard dV false (A.quiet (Ku [dM] kT.2) kT.2) ay).bind λdQ=>(A.guard dV false (A.not dQ) ay).bind λcN=>(A.pick dV dD cN).bind λey=>(A.guard ey false (A.ak 0 fE) ay).bind λeC=>(A.guard ey false (A.ak 1 fE) ay).bind λcO=>(A.guard ey false (A.gtr eC cO) ay).bind λdW=>(A.pick ey dD dW).bind λfT=>A.cond fT (some (AX.ret,[(AV.ah 1),(aj v4 1)],kT.2)) ((A.gtr (aj v4 1) (AV.ah 0)).bind λx24=>(A.guard x24 true (A.ak 0 fE) ay).bind λx25=>(A.guard x24 true (some a0) ay).bind λiw=>(A.guard x24 true (some (aj v4 1)) ay).bind λeE=>(A.guard x24 true (A.sub eE (AV.ah 1)) ay).bind λx28=>(A.guard x24 true (A.bh 3 iw x28) ay).bind λx29=>(A.guard x24 true (A.aF 1 x29) ay).bind λdF=>(A.guard x24 true ((A.deref dF kT.2).bind λzl=>A.ak 0 zl) ay).bind λx32=>(A.guard x24 true (A.leq x25 x32) ay).bind λgu=>(A.pick x24 gu aR).bind λx34=>A.cond x34 (some (AX.ret,[(AV.ah 7),(aj v4 1)],kT.2)) ((A.ak 2 fE).bind λiY=>(II [iY] kT.2).bind λNp=>(A.not Np.1).bind λcU=>A.cond cU (some (AX.ret,[(AV.ah 5),(aj v4 1)],Np.2)) ((A.ak 2 fE).bind λx38=>(A.look .z (AV.om σ.length) x38 aR Np.2).bind λgH=>A.cond gH (some (AX.ret,[(AV.ah 6),(aj v4 1)],Np.2)) ((A.ak 2 fE).bind λeA=>(A.fS .z (AV.om σ.length) eA dD Np.2).bind λh41=>(A.add (aj v4 1) (AV.ah 1)).bind λi6=>some (AX.normal,[(aj v4 0),i6],h41)))))) (some (AX.exit 0,[(aj v4 0),(aj v4 1)],s5))) [(AV.ah 0),(AV.ah 0)] (σ++[aS.map []])).bind λkI=>bif kI.1==AX.exit 0 then(A.fin σ (AV.ah 0) kI.2.2)else bif kI.1==AX.ret then(A.fin σ (aj kI.2.1 0) kI.2.2)else none)
noncomputable def RS:aq→Heap→aH:=A.wrap true [(.s 3)] .k (A.dP RU)
noncomputable def RO (a0:AV) (σ:Heap):aH:=(A.cells 3 a0).bind λc1=>(A.ak 0 c1).bind λx2=>(II [x2] σ).bind λr3=>(A.not r3.1).bind λx4=>A.cond x4 (A.fin σ (AV.ah 5) r3.2) ((A.ak 1 c1).bind λx5=>(lQ [x5,(AV.ah 1),(AV.ah 512)] r3.2).bind λr6=>(A.not r6.1).bind λx7=>A.cond x7 (A.fin σ (AV.ah 1) r6.2) ((A.ak 2 c1).bind λx8=>(A.bY x8).bind λx9=>(A.eql .i x9 (AV.ah 0)).bind λbT=>A.cond bT (A.fin σ (AV.ah 8) r6.2) ((A.ak 2 c1).bind λdH=>(A.bY dH).bind λdU=>(A.gtr dU (AV.ah 40)).bind λdY=>A.cond dY (A.fin σ (AV.ah 2) r6.2) ((A.ak 2 c1).bind λef=>(A.bY ef).bind λdV=>(A.loop (λbw nh=>(A.lss (aj bw 2) dV).bind λey=>A.cond ey ((A.bh 7 ef (aj bw 2)).bind λeC=>((A.deref eC nh).bind λlJ=>A.aC 0 7 lJ).bind λdW=>(A.cells 7 dW).bind λfJ=>(A.au 0 fJ [bB,(AV.ah 0),(AV.ah 0),(AV.ah 0),(AV.ah 0),aR,AV.az]).bind λiN=>(A.ak 0 iN).bind λx25=>(II [x25] nh).bind λmA=>(A.not mA.1).bind λeE=>A.cond eE (some (AX.ret,[(aj bw 0),(AV.ah 5),(aj bw 2)],mA.2)) ((A.ak 0 iN).bind λx28=>(A.look .z (AV.om r6.2.length) x28 aR mA.2).bind λx29=>A.cond x29 (some (AX.ret,[(aj bw 0),(AV.ah 6),(aj bw 2)],mA.2)) ((A.ak 1 iN).bind λdF=>(lQ [dF,(AV.ah 1),(AV.ah 4)] mA.2).bind λqZ=>(A.not qZ.1).bind λx32=>A.cond x32 (some (AX.ret,[(aj bw 0),(AV.ah 4),(aj bw 2)],qZ.2)) ((A.ak 2 iN).bind λgu=>((A.lb (aj bw 0)).bind λ_=>some (1)).bind λBa=>((A.lb (aj bw 0)).bind λjF=>A.ak Ba jF).bind λiK=>(lQ [gu,(AV.ah 1),iK] qZ.2).bind λoW=>(A.not oW.1).bind λx38=>(A.guard x38 false (A.ak 3 iN) ay).bind λgH=>((A.lb (aj bw 0)).bind λ_ => some (1)).bind λp40 =>(A.guard x38 false ((A.lb (aj bw 0)).bind λAT=>A.ak p40 AT) ay).bind λi6=>(A.guard x38 false (A.quiet (lQ [gH,(AV.ah 0),i6] oW.2) oW.2) ay).bind λiy=>(A.guard x38 false (A.not iy) ay).bind λgA=>(A.pick x38 dD gA).bind λfO=>(A.guard fO false (A.ak 4 iN) ay).bind λiz=>(A.guard fO false (A.quiet (Ku [iz] oW.2) oW.2) ay).bind λko=>(A.guard fO false (A.not ko) ay).bind λjo=>(A.pick fO dD jo).bind λgB=>A.cond gB (some (AX.ret,[(aj bw 0),(AV.ah 1),(aj bw 2)],oW.2)) ((A.ak 2 iN).bind λoF=>(A.ak 3 iN).bind λjy=>(A.eql .i oF jy).bind λfP=>(A.guard fP false (some (AV.om (r6.2++[aS.map []]).length)) ay).bind λjX=>(A.guard fP false (A.ak 2 iN) ay).bind λiR=>(A.guard fP false (A.look .i jX iR aR oW.2) ay).bind λmC=>(A.pick fP dD mC).bind λgV=>(A.guard gV false (A.ak 3 iN) ay).bind λlY=>(A.guard gV false (A.gtr lY (AV.ah 0)) ay).bind λi7=>(A.guard gV false (some i7) ay).bind λgb=>(A.guard gb true (some (AV.om (r6.2++[aS.map []]).length)) ay).bind λji=>(A.guard gb true (A.ak 3 iN) ay).bind λkJ=>(A.guard gb true (A.look .i ji kJ aR oW.2) ay).bind λfL=>(A.guard gV false (A.pick gb fL aR) ay).bind λgL=>(A.pick gV dD gL).bind λnJ=>A.cond nJ (some (AX.ret,[(aj bw 0),(AV.ah 12),(aj bw 2)],oW.2)) ((A.ak 6 iN).bind λkV=>(RS [kV] oW.2).bind λKk=>(A.neq .i Kk.1 (AV.ah 0)).bind λmg=>A.cond mg (some (AX.ret,[(aj bw 0),Kk.1,(aj bw 2)],Kk.2)) ((A.ak 0 iN).bind λjK=>(A.ak 2 iN).bind λiE=>(A.fS .z (AV.om r6.2.length) jK dD Kk.2).bind λh70=>(A.fS .i (AV.om (r6.2++[aS.map []]).length) iE dD h70).bind λQZ=>(A.ak 3 iN).bind λtT=>(A.gtr tT (AV.ah 0)).bind λjL=>(A.cond jL ((A.ak 3 iN).bind λfG=>(A.fS .i (AV.om (r6.2++[aS.map []]).length) fG dD QZ).bind λh76=>some ([(aj bw 0)],h76)) (some ([(aj bw 0)],QZ))).bind λr74=>(A.add (aj bw 2) (AV.ah 1)).bind λBl=>some (AX.normal,[(aj r74.1 0),(aj bw 1),Bl],r74.2)))))))) (some (AX.exit 1,[(aj bw 0),(aj bw 1),(aj bw 2)],nh))) [(AV.lbx c1),(AV.ah 0),(AV.ah 0)] ((r6.2++[aS.map []])++[aS.map []])).bind λzF=>bif zF.1==AX.exit 1 then(A.fin σ (AV.ah 0) zF.2.2)else bif zF.1==AX.ret then(A.fin σ (aj zF.2.1 1) zF.2.2)else none))))
noncomputable def RM:aq→Heap→aH:=A.wrap true [(.a [.k,.k,(.s 7)])] .k (A.dP RO)
noncomputable def RN (a0:AV) (σ:Heap):aH:=(A.bY a0).bind λx1=>(A.gtr x1 (AV.ah 60)).bind λx2=>A.cond x2 (A.fin σ (AV.ah 2) σ) ((A.bY a0).bind λx3=>(A.loop (λv4 s5=>(A.lss (aj v4 1) x3).bind λx7=>A.cond x7 ((A.bh 3 a0 (aj v4 1)).bind λx8=>((A.deref x8 s5).bind λc9=>A.aC 0 3 c9).bind λbT=>(A.cells 3 bT).bind λiJ=>(A.au 0 iJ [bB,(AV.ah 0),AV.az]).bind λfE=>(A.aC 0 3 fE).bind λdY=>(RM [dY] s5).bind λkT=>(A.neq .i kT.1 (AV.ah 0)).bind λdV=>A.cond dV (some (AX.ret,[kT.1,(aj v4 1)],kT.2)) ((A.ak 0 fE).bind λdM=>(A.look .z (AV.om σ.length) dM aR kT.2).bind λdQ=>A.cond dQ (some (AX.ret,[(AV.ah 6),(aj v4 1)],kT.2)) ((A.ak 0 fE).bind λcN=>(A.fS .z (AV.om σ.length) cN dD kT.2).bind λh19=>(A.add (aj v4 1) (AV.ah 1)).bind λeC=>some (AX.normal,[(aj v4 0),eC],h19)))) (some (AX.exit 0,[(aj v4 0),(aj v4 1)],s5))) [(AV.ah 0),(AV.ah 0)] (σ++[aS.map []])).bind λNo=>bif No.1==AX.exit 0 then(A.fin σ (AV.ah 0) No.2.2)else bif No.1==AX.ret then(A.fin σ (aj No.2.1 0) No.2.2)else none)
noncomputable def RL:aq→Heap→aH:=A.wrap true [(.s 3)] .k (A.dP RN)
noncomputable def RV (a0 a1:AV) (σ:Heap):aH:=(A.cells 3 a0).bind λc1=>(A.ak 0 c1).bind λx2=>((A.deref a1 σ).bind λc3=>A.ak 0 c3).bind λx4=>(A.eql .z x2 x4).bind λx5=>A.fin σ x5 σ
noncomputable def Kr:aq→Heap→aH:=A.wrap true [(.a [.k,.k,(.s 7)])] .k (A.dL RV)
noncomputable def Oa (a0 a1:AV) (σ:Heap):aH:=(((A.cell a1).bind λv=>some [v]).bind λcs=>some (AV.rp cs)).bind λx1=>(NQ (A.tab (λ_ _=>none) [(64,Kr)]) [a0,(AV.fn 64 [x1])] σ).bind λr2=>(A.lss r2.1 (AV.ah 0)).bind λx3=>A.cond x3 ((A.cells 3 (AV.agg [bB,(AV.ah 0),AV.az])).bind λc4=>(A.au 0 c4 [bB,(AV.ah 0),AV.az]).bind λc5=>(A.aC 0 3 c5).bind λx6=>A.fin σ (AV.aL [x6,aR]) r2.2) ((A.bh 3 a0 r2.1).bind λx7=>((A.deref x7 r2.2).bind λc8=>A.aC 0 3 c8).bind λx9=>(A.cells 3 x9).bind λfQ=>(A.au 0 fQ [bB,(AV.ah 0),AV.az]).bind λiJ=>(A.aC 0 3 iJ).bind λdU=>A.fin σ (AV.aL [dU,dD]) r2.2)
noncomputable def N6:aq→Heap→aH:=A.wrap true [(.s 3)] (.t [(.a [.k,.k,(.e 7 vD)]),.k]) (A.dL Oa)
noncomputable def Ks (a0 a1 a2:AV) (σ:Heap):aH:=(A.eql .p a0 AV.np).bind λx1=>A.cond x1 ((A.add a1 a2).bind λx2=>(A.sub x2 (AV.ah 1)).bind λx3=>(A.leq x3 (AV.ah 512)).bind λx4=>A.fin σ x4 σ) ((A.loop (λv5 s6=>(A.add a1 a2).bind λx8=>(A.lss (aj v5 1) x8).bind λx9=>A.cond x9 ((A.gtr (aj v5 1) (AV.ah 512)).bind λbT=>(A.guard bT false (some a0) ay).bind λdH=>(A.guard bT false (some (aj v5 1)) ay).bind λdU=>(A.guard bT false (A.aW dH) ay).bind λdY=>(A.guard bT false (A.BJ 513 1 dY dU) ay).bind λef=>(A.guard bT false ((A.deref ef s6).bind λmW=>A.ak 0 mW) ay).bind λdM=>(A.pick bT dD dM).bind λdQ=>A.cond dQ (some (AX.ret,[aR,(aj v5 1)],s6)) ((A.add (aj v5 1) (AV.ah 1)).bind λcN=>some (AX.normal,[(aj v5 0),cN],s6))) (some (AX.exit 0,[(aj v5 0),(aj v5 1)],s6))) [aR,a1] σ).bind λmO=>bif mO.1==AX.exit 0 then(A.fin σ dD mO.2.2)else bif mO.1==AX.ret then(A.fin σ (aj mO.2.1 0) mO.2.2)else none)
noncomputable def Im:aq→Heap→aH:=A.wrap true [] .k (A.nE Ks)
noncomputable def KD (a0 a1 a2:AV) (σ:Heap):aH:=(A.cells 4 a1).bind λc1=>(A.ak 2 c1).bind λx2=>(A.look .i a0 x2 AV.np σ).bind λx3=>(A.eql .p x3 AV.np).bind λx4=>(A.cond x4 ((A.ak 2 c1).bind λx6=>(A.fS .i a0 x6 (AV.op σ.length 0) (σ++[aS.box (List.replicate 513 aR)])).bind λh7=>some ([(AV.lbx c1)],h7)) (some ([(AV.lbx c1)],σ))).bind λr5=>((A.lb (aj r5.1 0)).bind λ_=>some (3)).bind λp8=>((A.lb (aj r5.1 0)).bind λc9=>A.ak p8 c9).bind λbT=>(A.loop (λv11 mR=>((A.lb (aj v11 0)).bind λ_=>some (3)).bind λp14=>((A.lb (aj v11 0)).bind λmW=>A.ak p14 mW).bind λdM=>(A.add dM a2).bind λdQ=>(A.lss (aj v11 1) dQ).bind λcN=>A.cond cN (((A.lb (aj v11 0)).bind λ_=>some (2)).bind λp19=>((A.lb (aj v11 0)).bind λjf=>A.ak p19 jf).bind λcO=>(A.look .i a0 cO AV.np mR).bind λdW=>(A.aW dW).bind λfT=>(A.BJ 513 1 fT (aj v11 1)).bind λx24=>((A.cell dD).bind λv=>some [v]).bind λjx=>(A.storeAt x24 jx mR).bind λgK=>(A.add (aj v11 1) (AV.ah 1)).bind λeE=>some (AX.normal,[(aj v11 0),eE],gK)) (some (AX.exit 0,[(aj v11 0),(aj v11 1)],mR))) [(aj r5.1 0),bT] r5.2).bind λvS=>bif vS.1==AX.exit 0 then(some ((AV.aL []),vS.2.2))else none
noncomputable def Od:aq→Heap→aH:=A.wrap false [] .k (A.nE KD)
noncomputable def R4 (a0:AV) (σ:Heap):aH:=(A.cells 2 a0).bind λc1=>(A.ak 0 c1).bind λx2=>(RL [x2] σ).bind λr3=>(A.neq .i r3.1 (AV.ah 0)).bind λx4=>A.cond x4 (A.fin σ r3.1 r3.2) ((A.ak 1 c1).bind λx5=>(A.bY x5).bind λx6=>(A.gtr x6 (AV.ah 400)).bind λx7=>A.cond x7 (A.fin σ (AV.ah 2) r3.2) ((A.ak 1 c1).bind λx8=>(A.bY x8).bind λx9=>(A.loop (λv10 wW=>(A.lss (aj v10 2) x9).bind λdY=>A.cond dY ((A.bh 4 x8 (aj v10 2)).bind λef=>((A.deref ef wW).bind λmW=>A.aC 0 4 mW).bind λdM=>(A.cells 4 dM).bind λou=>(A.au 0 ou [(AV.ah 0),bB,(AV.ah 0),(AV.ah 0)]).bind λkn=>(A.ak 0 kn).bind λey=>(lQ [ey,(AV.ah 1),(AV.ah 9999)] wW).bind λtN=>(A.not tN.1).bind λcO=>A.cond cO (some (AX.ret,[(aj v10 0),(AV.ah 1),(aj v10 2)],tN.2)) ((A.gtr (aj v10 2) (AV.ah 0)).bind λdW=>(A.guard dW true (A.ak 0 kn) ay).bind λfT=>((A.lb (aj v10 0)).bind λ_ => some (1)).bind λp24 =>(A.guard dW true ((A.lb (aj v10 0)).bind λjx=>A.ak p24 jx) ay).bind λiw=>(A.guard dW true (some (aj v10 2)) ay).bind λeE=>(A.guard dW true (A.sub eE (AV.ah 1)) ay).bind λx28=>(A.guard dW true (A.bh 4 iw x28) ay).bind λx29=>(A.guard dW true (A.aF 0 x29) ay).bind λdF=>(A.guard dW true ((A.deref dF tN.2).bind λzl=>A.ak 0 zl) ay).bind λx32=>(A.guard dW true (A.leq fT x32) ay).bind λgu=>(A.pick dW gu aR).bind λx34=>A.cond x34 (some (AX.ret,[(aj v10 0),(AV.ah 7),(aj v10 2)],tN.2)) (((A.lb (aj v10 0)).bind λ_=>some (0)).bind λp35=>((A.lb (aj v10 0)).bind λjG=>A.ak p35 jG).bind λcU=>(A.ak 1 kn).bind λx38=>(N6 [cU,x38] tN.2).bind λRn=>(A.ext 0 Rn.1).bind λeA=>(A.ext 1 Rn.1).bind λfF=>(A.cells 3 eA).bind λmI=>(A.au 0 mI [bB,(AV.ah 0),AV.az]).bind λtu=>(A.not fF).bind λgA=>A.cond gA (some (AX.ret,[(aj v10 0),(AV.ah 5),(aj v10 2)],Rn.2)) ((A.ak 2 kn).bind λfO=>(lQ [fO,(AV.ah 1),(AV.ah 64)] Rn.2).bind λrj=>(A.not rj.1).bind λko=>(A.guard ko false (A.ak 3 kn) ay).bind λjo=>(A.guard ko false (A.quiet (lQ [jo,(AV.ah 1),(AV.ah 512)] rj.2) rj.2) ay).bind λgB=>(A.guard ko false (A.not gB) ay).bind λoF=>(A.pick ko dD oF).bind λjy=>(A.guard jy false (A.ak 3 kn) ay).bind λfP=>(A.guard jy false (A.ak 1 tu) ay).bind λjX=>(A.guard jy false (A.add fP jX) ay).bind λiR=>(A.guard jy false (A.sub iR (AV.ah 1)) ay).bind λmC=>(A.guard jy false (A.gtr mC (AV.ah 512)) ay).bind λgV=>(A.pick jy dD gV).bind λlY=>A.cond lY (some (AX.ret,[(aj v10 0),(AV.ah 1),(aj v10 2)],rj.2)) ((A.ak 2 kn).bind λi7=>(A.look .i (AV.om r3.2.length) i7 AV.np rj.2).bind λgb=>(A.ak 3 kn).bind λji=>(A.ak 1 tu).bind λkJ=>(Im [gb,ji,kJ] rj.2).bind λX4=>(A.not X4.1).bind λgL=>A.cond gL (some (AX.ret,[(aj v10 0),(AV.ah 12),(aj v10 2)],X4.2)) ((A.aC 0 4 kn).bind λnJ=>(A.ak 1 tu).bind λkV=>(Od [(AV.om r3.2.length),nJ,kV] X4.2).bind λKk=>(A.add (aj v10 2) (AV.ah 1)).bind λmg=>some (AX.normal,[(aj v10 0),(aj v10 1),mg],Kk.2))))))) (some (AX.exit 0,[(aj v10 0),(aj v10 1),(aj v10 2)],wW))) [(AV.lbx c1),(AV.ah 0),(AV.ah 0)] (r3.2++[aS.map []])).bind λDE=>bif DE.1==AX.exit 0 then(A.fin σ (AV.ah 0) DE.2.2)else bif DE.1==AX.ret then(A.fin σ (aj DE.2.1 1) DE.2.2)else none))
noncomputable def N0:aq→Heap→aH:=A.wrap true [(.a [(.s 3),(.s 4)])] .k (A.dP R4)
noncomputable def KC (a0:AV) (σ:Heap):aH:=(A.cells 2 a0).bind λc1=>(A.aC 0 2 c1).bind λx2=>(N0 [x2] σ).bind λr3=>(A.neq .i r3.1 (AV.ah 0)).bind λx4=>A.cond x4 (A.fin σ (AV.aL [AV.az,r3.1]) r3.2) ((A.ak 1 c1).bind λx5=>(A.bY x5).bind λx6=>(A.loop (λv7 s8=>(A.lss (aj v7 2) x6).bind λbT=>A.cond bT ((A.bh 4 x5 (aj v7 2)).bind λdH=>((A.deref dH s8).bind λfE=>A.aC 0 4 fE).bind λdY=>(A.cells 4 dY).bind λkP=>(A.au 0 kP [(AV.ah 0),bB,(AV.ah 0),(AV.ah 0)]).bind λmW=>((A.lb (aj v7 0)).bind λ_=>some (0)).bind λp16=>((A.lb (aj v7 0)).bind λou=>A.ak p16 ou).bind λcN=>(A.ak 1 mW).bind λey=>(N6 [cN,ey] s8).bind λtN=>(A.ext 0 tN.1).bind λcO=>(A.ext 1 tN.1).bind λdW=>(A.cells 3 cO).bind λfJ=>(A.au 0 fJ [bB,(AV.ah 0),AV.az]).bind λiN=>(A.ak 2 iN).bind λx25=>(A.bY x25).bind λiw=>(A.loop (λzI X7=>(A.lss (aj zI 3) iw).bind λdF=>A.cond dF ((A.bh 7 x25 (aj zI 3)).bind λx31=>((A.deref x31 X7).bind λXl=>A.aC 0 7 Xl).bind λgu=>(A.cells 7 gu).bind λvF=>(A.au 0 vF [bB,(AV.ah 0),(AV.ah 0),(AV.ah 0),(AV.ah 0),aR,AV.az]).bind λjF=>((A.lb (aj zI 2)).bind λ_=>some (0)).bind λp36=>((A.lb (aj zI 2)).bind λij=>A.ak p36 ij).bind λx38=>(A.ak 0 jF).bind λgH=>((((A.cell x38).bind λv=>some [v]).bind λB5=>(A.au 0 B5 [(AV.ah 0),bB]).bind λAT=>((A.cell gH).bind λv=>some [v]).bind λmI=>(A.au 1 mI AT).bind λtu=>some tu).bind λcs=>some (AV.agg cs)).bind λgA=>(((A.cells 2 gA).bind λAU=>(A.au 0 AU [(AV.ah 0),bB]).bind λG6=>some G6).bind λcs=>some (AV.sl 2 (gf 2 1 cs))).bind λko=>(A.append 2 (140737488355328 / 24) (aj zI 1) ko X7).bind λmQ=>(A.add (aj zI 3) (AV.ah 1)).bind λgB=>some (AX.normal,[(aj zI 0),mQ.1,(aj zI 2),gB],mQ.2)) (some (AX.exit 2,[(aj zI 0),(aj zI 1),(aj zI 2),(aj zI 3)],X7))) [(aj v7 0),(aj v7 1),(AV.lbx mW),(AV.ah 0)] tN.2).bind λew=>bif ew.1==AX.exit 2 then((A.add (aj v7 2) (AV.ah 1)).bind λjy=>some (AX.normal,[(aj ew.2.1 0),(aj ew.2.1 1),jy],ew.2.2))else none) (some (AX.exit 0,[(aj v7 0),(aj v7 1),(aj v7 2)],s8))) [(AV.lbx c1),AV.az,(AV.ah 0)] r3.2).bind λH8=>bif H8.1==AX.exit 0 then(A.fin σ (AV.aL [(aj H8.2.1 1),(AV.ah 0)]) H8.2.2)else none)
noncomputable def Iw:aq→Heap→aH:=A.wrap true [(.a [(.s 3),(.s 4)])] (.t [(.s 2),.k]) (A.dP KC)
end
def KH:aq→Heap→aH:=A.dL λa b σ=>match a,b with
 |.int .u64 x,.int .u64 y=>if 0≤x∧x<18446744073709551616∧0≤y∧y<18446744073709551616 then some (.aL [.int .u64 ((x.toNat*y.toNat / 18446744073709551616:Nat):Int),.int .u64 ((x.toNat*y.toNat % 18446744073709551616:Nat):Int)],σ)else none
 |_,_=>none
def IB:aq→Heap→aH:=A.nE λa b c σ=>match a,b,c with
 |.int .u64 x,.int .u64 y,.int .u64 c=>if 0≤x∧x<18446744073709551616∧0≤y∧y<18446744073709551616∧0≤c∧c≤1 then some (.aL [.int .u64 (((x.toNat+y.toNat+c.toNat) % 18446744073709551616:Nat):Int),.int .u64 (((x.toNat+y.toNat+c.toNat) / 18446744073709551616:Nat):Int)],σ)else none
 |_,_,_=>none
section
set_option maxRecDepth 100000
noncomputable def R5 (a0:AV) (σ:Heap):aH:=(A.cells 2 a0).bind λc1=>(A.ak 0 c1).bind λx2=>(lQ [x2,(AV.ah 1),(AV.ah 6)] σ).bind λr3=>(A.not r3.1).bind λx4=>A.cond x4 (A.fin σ (AV.ah 4) r3.2) ((A.ak 1 c1).bind λx5=>(A.ak 0 c1).bind λx6=>(A.neq .i x6 (AV.ah 6)).bind λx7=>A.cond x7 ((A.bY x5).bind λx8=>(A.gtr x8 (AV.ah 0)).bind λx9=>(uR [x9,(AV.ah 3)] r3.2).bind λmN=>A.fin σ mN.1 mN.2) ((A.bY x5).bind λdH=>(A.lss dH (AV.ah 2)).bind λdU=>A.cond dU (A.fin σ (AV.ah 8) r3.2) ((A.bY x5).bind λdY=>(A.gtr dY (AV.ah 20)).bind λef=>A.cond ef (A.fin σ (AV.ah 2) r3.2) ((A.bY x5).bind λdV=>(A.loop (λbw nh=>(A.lss (aj bw 1) dV).bind λey=>A.cond ey ((A.bh 2 x5 (aj bw 1)).bind λeC=>((A.deref eC nh).bind λlJ=>A.aC 0 2 lJ).bind λdW=>(A.cells 2 dW).bind λfJ=>(A.au 0 fJ [(AV.ah 0),(AV.ah 0)]).bind λiN=>(A.ak 0 iN).bind λx25=>(lQ [x25,(AV.ah 0),(AV.ah 1000)] nh).bind λmA=>(A.not mA.1).bind λeE=>(A.guard eE false (A.ak 1 iN) ay).bind λx28=>(A.guard eE false (A.quiet (lQ [x28,(AV.ah 0),(AV.ah 1000)] mA.2) mA.2) ay).bind λx29=>(A.guard eE false (A.not x29) ay).bind λdF=>(A.pick eE dD dF).bind λx31=>A.cond x31 (some (AX.ret,[(AV.ah 1),(aj bw 1)],mA.2)) ((A.add (aj bw 1) (AV.ah 1)).bind λx32=>some (AX.normal,[(aj bw 0),x32],mA.2))) (some (AX.exit 0,[(aj bw 0),(aj bw 1)],nh))) [(AV.ah 0),(AV.ah 0)] r3.2).bind λqA=>bif qA.1==AX.exit 0 then((A.bh 2 x5 (AV.ah 0)).bind λx34=>((A.deref x34 qA.2.2).bind λjF=>A.aC 0 2 jF).bind λiK=>(A.neq (.s [0,0]) iK (AV.agg [(AV.ah 0),(AV.ah 0)])).bind λcU=>(A.guard cU false (some x5) ay).bind λx38=>(A.guard cU false (some x5) ay).bind λgH=>(A.guard cU false (A.bY gH) ay).bind λeA=>(A.guard cU false (A.sub eA (AV.ah 1)) ay).bind λfF=>(A.guard cU false (A.bh 2 x38 fF) ay).bind λi6=>(A.guard cU false ((A.deref i6 qA.2.2).bind λtu=>A.aC 0 2 tu) ay).bind λgA=>(A.guard cU false ((((A.cell (AV.ah 1000)).bind λv=>some [v]).bind λAU=>(A.au 0 AU [(AV.ah 0),(AV.ah 0)]).bind λG6=>((A.cell (AV.ah 1000)).bind λv=>some [v]).bind λjH=>(A.au 1 jH G6).bind λtv=>some tv).bind λcs=>some (AV.agg cs)) ay).bind λgB=>(A.guard cU false (A.neq (.s [0,0]) gA gB) ay).bind λoF=>(A.pick cU dD oF).bind λjy=>A.cond jy (A.fin σ (AV.ah 3) qA.2.2) ((A.loop (λCg H9=>(A.bY x5).bind λmC=>(A.lss (aj Cg 1) mC).bind λgV=>A.cond gV ((A.bh 2 x5 (aj Cg 1)).bind λlY=>(A.aF 0 lY).bind λi7=>((A.deref i7 H9).bind λXm=>A.ak 0 Xm).bind λji=>(A.sub (aj Cg 1) (AV.ah 1)).bind λkJ=>(A.bh 2 x5 kJ).bind λfL=>(A.aF 0 fL).bind λgL=>((A.deref gL H9).bind λtD=>A.ak 0 tD).bind λkV=>(A.leq ji kV).bind λjc=>(A.guard jc false (some x5) ay).bind λmg=>(A.guard jc false (some (aj Cg 1)) ay).bind λjK=>(A.guard jc false (A.bh 2 mg jK) ay).bind λiE=>(A.guard jc false (A.aF 1 iE) ay).bind λgM=>(A.guard jc false ((A.deref gM H9).bind λnU=>A.ak 0 nU) ay).bind λtT=>(A.guard jc false (some x5) ay).bind λjL=>(A.guard jc false (some (aj Cg 1)) ay).bind λjq=>(A.guard jc false (A.sub jq (AV.ah 1)) ay).bind λfG=>(A.guard jc false (A.bh 2 jL fG) ay).bind λkq=>(A.guard jc false (A.aF 1 kq) ay).bind λBl=>(A.guard jc false ((A.deref Bl H9).bind λqV=>A.ak 0 qV) ay).bind λlP=>(A.guard jc false (A.lss tT lP) ay).bind λiA=>(A.pick jc dD iA).bind λtU=>A.cond tU (some (AX.ret,[(AV.ah 7),(aj Cg 1)],H9)) ((A.add (aj Cg 1) (AV.ah 1)).bind λp6=>some (AX.normal,[(aj Cg 0),p6],H9))) (some (AX.exit 2,[(aj Cg 0),(aj Cg 1)],H9))) [(aj qA.2.1 0),(AV.ah 1)] qA.2.2).bind λNs=>bif Ns.1==AX.exit 2 then(A.fin σ (AV.ah 0) Ns.2.2)else bif Ns.1==AX.ret then(A.fin σ (aj Ns.2.1 0) Ns.2.2)else none))else bif qA.1==AX.ret then(A.fin σ (aj qA.2.1 0) qA.2.2)else none))))
noncomputable def N1:aq→Heap→aH:=A.wrap true [(.a [.k,(.s 2)])] .k (A.dP R5)
noncomputable def Sr (a0:AV) (σ:Heap):aH:=(lQ [a0,(AV.ah 0),(AV.ah 65535)] σ).bind λr1=>A.fin σ r1.1 r1.2
noncomputable def Sn:aq→Heap→aH:=A.wrap true [] .k (A.dP Sr)
noncomputable def SB (a0:AV) (σ:Heap):aH:=(A.bY a0).bind λx1=>(A.loop (λv2 s3=>(A.lss (aj v2 1) x1).bind λx5=>A.cond x5 ((A.bh 1 a0 (aj v2 1)).bind λx6=>((A.deref x6 s3).bind λc7=>A.ak 0 c7).bind λx8=>(Sn [x8] s3).bind λr9=>(A.not r9.1).bind λbT=>A.cond bT (some (AX.ret,[(AV.ah 1),(aj v2 1)],r9.2)) ((A.add (aj v2 1) (AV.ah 1)).bind λdH=>some (AX.normal,[(aj v2 0),dH],r9.2))) (some (AX.exit 0,[(aj v2 0),(aj v2 1)],s3))) [(AV.ah 0),(AV.ah 0)] σ).bind λjh=>bif jh.1==AX.exit 0 then(A.fin σ (AV.ah 0) jh.2.2)else bif jh.1==AX.ret then(A.fin σ (aj jh.2.1 0) jh.2.2)else none
noncomputable def Oe:aq→Heap→aH:=A.wrap true [(.s 1)] .k (A.dP SB)
noncomputable def Sz (a0:AV) (σ:Heap):aH:=(lQ [a0,(AV.ah 0),(AV.ah 36000000)] σ).bind λr1=>A.fin σ r1.1 r1.2
noncomputable def Fl:aq→Heap→aH:=A.wrap true [] .k (A.dP Sz)
noncomputable def Sa (a0:AV) (σ:Heap):aH:=(A.cells 7 a0).bind λc1=>(A.ak 0 c1).bind λx2=>(A.ak 1 c1).bind λx3=>((((A.cell x2).bind λv=>some [v]).bind λc4=>(A.au 0 c4 [(AV.ah 0),(AV.ah 0)]).bind λc5=>((A.cell x3).bind λv=>some [v]).bind λc6=>(A.au 1 c6 c5).bind λc7=>some c7).bind λcs=>some (AV.sl 1 (gf 1 2 cs))).bind λx8=>(Oe [x8] σ).bind λr9=>(A.neq .i r9.1 (AV.ah 0)).bind λbT=>A.cond bT (A.fin σ r9.1 r9.2) ((A.ak 2 c1).bind λdH=>(Fl [dH] r9.2).bind λjh=>(A.not jh.1).bind λdY=>(A.guard dY false (A.ak 3 c1) ay).bind λef=>(A.guard dY false (A.quiet (Fl [ef] jh.2) jh.2) ay).bind λdV=>(A.guard dY false (A.not dV) ay).bind λdM=>(A.pick dY dD dM).bind λdQ=>(A.guard dQ false (A.ak 4 c1) ay).bind λcN=>(A.guard dQ false (A.quiet (Fl [cN] jh.2) jh.2) ay).bind λey=>(A.guard dQ false (A.not ey) ay).bind λeC=>(A.pick dQ dD eC).bind λcO=>(A.guard cO false (A.ak 2 c1) ay).bind λdW=>(A.guard cO false (A.ak 3 c1) ay).bind λfT=>(A.guard cO false (A.add dW fT) ay).bind λx24=>(A.guard cO false (A.ak 4 c1) ay).bind λx25=>(A.guard cO false (A.add x24 x25) ay).bind λiw=>(A.guard cO false (A.quiet (Fl [iw] jh.2) jh.2) ay).bind λeE=>(A.guard cO false (A.not eE) ay).bind λx28=>(A.pick cO dD x28).bind λx29=>A.cond x29 (A.fin σ (AV.ah 1) jh.2) ((A.aC 5 2 c1).bind λdF=>(N1 [dF] jh.2).bind λqZ=>A.fin σ qZ.1 qZ.2))
noncomputable def R8:aq→Heap→aH:=A.wrap true [Gi] .k (A.dP Sa)
noncomputable def TK (a0:AV) (σ:Heap):aH:=(A.conv .u64 a0).bind λx1=>((((A.cell (AV.int .u64 0)).bind λv=>some [v]).bind λc2=>(A.au 0 c2 [(AV.int .u64 0),(AV.int .u64 0)]).bind λc3=>((A.cell x1).bind λv=>some [v]).bind λc4=>(A.au 1 c4 c3).bind λc5=>some c5).bind λcs=>some (AV.agg cs)).bind λx6=>(A.cells 2 x6).bind λc7=>(A.au 0 c7 [(AV.int .u64 0),(AV.int .u64 0)]).bind λc8=>(A.aC 0 2 c8).bind λx9=>A.fin σ x9 σ
noncomputable def rA:aq→Heap→aH:=A.wrap true [] .k (A.dP TK)
noncomputable def Sb (a0 a1:AV) (σ:Heap):aH:=(A.cells 2 a0).bind λc1=>(A.cells 2 a1).bind λc2=>(A.ak 0 c1).bind λx3=>(A.ak 0 c2).bind λx4=>(A.lss x3 x4).bind λx5=>(A.guard x5 false (A.ak 0 c1) ay).bind λx6=>(A.guard x5 false (A.ak 0 c2) ay).bind λx7=>(A.guard x5 false (A.eql .i x6 x7) ay).bind λx8=>(A.guard x5 false (some x8) ay).bind λx9=>(A.guard x9 true (A.ak 1 c1) ay).bind λbT=>(A.guard x9 true (A.ak 1 c2) ay).bind λdH=>(A.guard x9 true (A.lss bT dH) ay).bind λdU=>(A.guard x5 false (A.pick x9 dU aR) ay).bind λdY=>(A.pick x5 dD dY).bind λef=>A.fin σ ef σ
noncomputable def Ir:aq→Heap→aH:=A.wrap true [] .k (A.dL Sb)
noncomputable def SK (a0 a1:AV) (σ:Heap):aH:=((((A.cell a0).bind λv=>some [v]).bind λc1=>(A.au 0 c1 [(AV.ah 0),(AV.ah 0)]).bind λc2=>((A.cell a1).bind λv=>some [v]).bind λc3=>(A.au 1 c3 c2).bind λc4=>some c4).bind λcs=>some (AV.sl 1 (gf 1 2 cs))).bind λx5=>(Oe [x5] σ).bind λr6=>(A.neq .i r6.1 (AV.ah 0)).bind λx7=>A.cond x7 (A.fin σ (AV.aL [(AV.ah 0),r6.1]) r6.2) ((A.mul a0 a1).bind λx8=>(SS [x8,(AV.ah 65535)] r6.2).bind λr9=>A.fin σ (AV.aL [r9.1,(AV.ah 0)]) r9.2)
noncomputable def Fp:aq→Heap→aH:=A.wrap true [] .k (A.dL SK)
noncomputable def R6 (a0 a1:AV) (σ:Heap):aH:=(A.cells 2 a0).bind λc1=>(A.ak 1 c1).bind λx2=>(A.conv .u64 a1).bind λx3=>(KH [x2,x3] σ).bind λr4=>(A.ext 0 r4.1).bind λx5=>(A.ext 1 r4.1).bind λx6=>(A.ak 0 c1).bind λx7=>(A.conv .u64 a1).bind λx8=>(A.mul x7 x8).bind λx9=>(A.add x9 x5).bind λbT=>((((A.cell bT).bind λv=>some [v]).bind λiJ=>(A.au 0 iJ [(AV.int .u64 0),(AV.int .u64 0)]).bind λfE=>((A.cell x6).bind λv=>some [v]).bind λlI=>(A.au 1 lI fE).bind λkP=>some kP).bind λcs=>some (AV.agg cs)).bind λdV=>(A.cells 2 dV).bind λnF=>(A.au 0 nF [(AV.int .u64 0),(AV.int .u64 0)]).bind λou=>(A.aC 0 2 ou).bind λcN=>A.fin σ cN r4.2
noncomputable def tW:aq→Heap→aH:=A.wrap true [] .k (A.dL R6)
noncomputable def OE (a0 a1 a2:AV) (σ:Heap):aH:=(A.cells 2 a0).bind λc1=>(rA [a2] σ).bind λr2=>(tW [r2.1,a2] r2.2).bind λr3=>(A.cells 2 r3.1).bind λc4=>(A.au 0 c4 [(AV.int .u64 0),(AV.int .u64 0)]).bind λc5=>(A.ak 0 c1).bind λx6=>(A.eql .i x6 (AV.ah 2)).bind λx7=>A.cond x7 ((A.quiet (rA [a1] r3.2) r3.2).bind λx8=>(A.quiet (tW [x8,a1] r3.2) r3.2).bind λx9=>(A.aC 0 2 c5).bind λbT=>(A.cells 2 x9).bind λiJ=>(A.au 0 iJ [(AV.int .u64 0),(AV.int .u64 0)]).bind λfE=>(A.cells 2 bT).bind λlI=>(A.au 0 lI [(AV.int .u64 0),(AV.int .u64 0)]).bind λkP=>(A.aC 0 2 fE).bind λdV=>(A.aC 0 2 kP).bind λdM=>A.fin σ (AV.aL [dV,dM]) r3.2) ((A.eql .i x6 (AV.ah 3)).bind λdQ=>A.cond dQ ((A.quiet (rA [a1] r3.2) r3.2).bind λcN=>(A.mul (AV.ah 2) a2).bind λey=>(A.sub ey a1).bind λeC=>(A.quiet (tW [cN,eC] r3.2) r3.2).bind λcO=>(A.aC 0 2 c5).bind λdW=>(A.cells 2 cO).bind λfJ=>(A.au 0 fJ [(AV.int .u64 0),(AV.int .u64 0)]).bind λiN=>(A.cells 2 dW).bind λjx=>(A.au 0 jx [(AV.int .u64 0),(AV.int .u64 0)]).bind λgK=>(A.aC 0 2 iN).bind λeE=>(A.aC 0 2 gK).bind λx28=>A.fin σ (AV.aL [eE,x28]) r3.2) ((A.eql .i x6 (AV.ah 4)).bind λx29=>A.cond x29 ((A.quiet (rA [a1] r3.2) r3.2).bind λdF=>(A.quiet (tW [dF,a1] r3.2) r3.2).bind λx31=>(A.mul (AV.ah 3) a2).bind λx32=>(A.mul (AV.ah 2) a1).bind λgu=>(A.sub x32 gu).bind λx34=>(A.quiet (tW [x31,x34] r3.2) r3.2).bind λiY=>(A.aC 0 2 c5).bind λiK=>(A.quiet (tW [iK,a2] r3.2) r3.2).bind λcU=>(A.cells 2 iY).bind λnG=>(A.au 0 nG [(AV.int .u64 0),(AV.int .u64 0)]).bind λoQ=>(A.cells 2 cU).bind λB5=>(A.au 0 B5 [(AV.int .u64 0),(AV.int .u64 0)]).bind λAT=>(A.aC 0 2 oQ).bind λi6=>(A.aC 0 2 AT).bind λiy=>A.fin σ (AV.aL [i6,iy]) r3.2) ((A.eql .i x6 (AV.ah 5)).bind λgA=>A.cond gA ((A.lss a1 a2).bind λfO=>A.cond fO ((rA [(AV.ah 0)] r3.2).bind λrj=>(rA [(AV.ah 1)] rj.2).bind λrq=>(A.cells 2 rj.1).bind λtv=>(A.au 0 tv [(AV.int .u64 0),(AV.int .u64 0)]).bind λDm=>(A.cells 2 rq.1).bind λqS=>(A.au 0 qS [(AV.int .u64 0),(AV.int .u64 0)]).bind λAW=>(A.aC 0 2 Dm).bind λfP=>(A.aC 0 2 AW).bind λjX=>A.fin σ (AV.aL [fP,jX]) rq.2) ((rA [(AV.ah 1)] r3.2).bind λr54=>(rA [(AV.ah 1)] r54.2).bind λzC=>(A.cells 2 r54.1).bind λtC=>(A.au 0 tC [(AV.int .u64 0),(AV.int .u64 0)]).bind λkQ=>(A.cells 2 zC.1).bind λkG=>(A.au 0 kG [(AV.int .u64 0),(AV.int .u64 0)]).bind λXm=>(A.aC 0 2 kQ).bind λji=>(A.aC 0 2 Xm).bind λkJ=>A.fin σ (AV.aL [ji,kJ]) zC.2)) ((A.eql .i x6 (AV.ah 6)).bind λfL=>A.cond fL ((A.ak 1 c1).bind λgL=>(A.loop (λv64 iX=>(A.add (aj v64 2) (AV.ah 2)).bind λmg=>(A.bY gL).bind λjK=>(A.lss mg jK).bind λiE=>(A.guard iE true (some a1) ay).bind λgM=>(A.guard iE true (A.mul (AV.ah 1000) gM) ay).bind λp5=>(A.guard iE true (some gL) ay).bind λtT=>(A.guard iE true (some (aj v64 2)) ay).bind λjL=>(A.guard iE true (A.add jL (AV.ah 1)) ay).bind λjq=>(A.guard iE true (A.bh 2 tT jq) ay).bind λfG=>(A.guard iE true (A.aF 0 fG) ay).bind λkq=>(A.guard iE true ((A.deref kq iX).bind λow=>A.ak 0 ow) ay).bind λkW=>(A.guard iE true (some a2) ay).bind λlP=>(A.guard iE true (A.mul kW lP) ay).bind λiA=>(A.guard iE true (A.geq p5 iA) ay).bind λtU=>(A.pick iE tU aR).bind λp6=>A.cond p6 ((A.add (aj v64 2) (AV.ah 1)).bind λsj=>some (AX.normal,[(aj v64 0),(aj v64 1),sj],iX)) (some (AX.exit 1,[(aj v64 0),(aj v64 1),(aj v64 2)],iX))) [(AV.lbx [(AV.int .u64 0),(AV.int .u64 0)]),(AV.lbx [(AV.int .u64 0),(AV.int .u64 0)]),(AV.ah 0)] r3.2).bind λE9=>bif E9.1==AX.exit 1 then((A.bh 2 gL (aj E9.2.1 2)).bind λjM=>((A.deref jM E9.2.2).bind λAY=>A.aC 0 2 AY).bind λoG=>(A.add (aj E9.2.1 2) (AV.ah 1)).bind λjN=>(A.bh 2 gL jN).bind λBm=>((A.deref Bm E9.2.2).bind λqX=>A.aC 0 2 qX).bind λx91=>(A.cells 2 oG).bind λc92=>(A.au 0 c92 [(AV.ah 0),(AV.ah 0)]).bind λEU=>(A.cells 2 x91).bind λvJ=>(A.au 0 vJ [(AV.ah 0),(AV.ah 0)]).bind λlK=>(A.ak 0 lK).bind λx96=>(A.ak 0 EU).bind λBn=>(A.sub x96 Bn).bind λx98=>(A.ak 1 EU).bind λx99=>(A.mul x99 x98).bind λqM=>(A.mul qM a2).bind λx101=>(A.ak 1 lK).bind λx102=>(A.ak 1 EU).bind λzh=>(A.sub x102 zh).bind λx104=>(A.mul (AV.ah 1000) a1).bind λxS=>(A.ak 0 EU).bind λqN=>(A.mul qN a2).bind λoh=>(A.sub xS oh).bind λGO=>(A.mul x104 GO).bind λqO=>(A.add x101 qO).bind λDc=>(rA [Dc] E9.2.2).bind λafs=>(A.mul (AV.ah 1000) x98).bind λx112=>(rA [x112] afs.2).bind λlU=>(tW [lU.1,a2] lU.2).bind λaft=>(A.lb (aj E9.2.1 0)).bind λLX=>(A.cells 2 afs.1).bind λxI=>(A.au 0 xI LX).bind λxJ=>(A.lb (aj E9.2.1 1)).bind λVQ=>(A.cells 2 aft.1).bind λLY=>(A.au 0 LY VQ).bind λarS=>(A.aC 0 2 xJ).bind λvA=>(A.aC 0 2 arS).bind λDd=>A.fin σ (AV.aL [vA,Dd]) aft.2)else none) ((rA [a1] r3.2).bind λrU=>(rA [a2] rU.2).bind λafu=>(A.cells 2 rU.1).bind λAu=>(A.au 0 Au [(AV.int .u64 0),(AV.int .u64 0)]).bind λxK=>(A.cells 2 afu.1).bind λur=>(A.au 0 ur [(AV.int .u64 0),(AV.int .u64 0)]).bind λmF=>(A.aC 0 2 xK).bind λnT=>(A.aC 0 2 mF).bind λqP=>A.fin σ (AV.aL [nT,qP]) afu.2)))))
noncomputable def Oy:aq→Heap→aH:=A.wrap true [(.a [.k,(.s 2)])] .k (A.nE OE)
noncomputable def Sc (a0 a1:AV) (σ:Heap):aH:=(A.cells 2 a0).bind λc1=>(A.cells 2 a1).bind λc2=>(A.ak 1 c1).bind λx3=>(A.ak 1 c2).bind λx4=>(IB [x3,x4,(AV.int .u64 0)] σ).bind λr5=>(A.ext 0 r5.1).bind λx6=>(A.ext 1 r5.1).bind λx7=>(A.ak 0 c1).bind λx8=>(A.ak 0 c2).bind λx9=>(IB [x8,x9,x7] r5.2).bind λmN=>(A.ext 0 mN.1).bind λdH=>(A.ext 1 mN.1).bind λdU=>((((A.cell dH).bind λv=>some [v]).bind λlI=>(A.au 0 lI [(AV.int .u64 0),(AV.int .u64 0)]).bind λkP=>((A.cell x6).bind λv=>some [v]).bind λmW=>(A.au 1 mW kP).bind λnF=>some nF).bind λcs=>some (AV.agg cs)).bind λdQ=>(A.cells 2 dQ).bind λkn=>(A.au 0 kn [(AV.int .u64 0),(AV.int .u64 0)]).bind λiW=>(A.aC 0 2 iW).bind λeC=>A.fin σ eC mN.2
noncomputable def N7:aq→Heap→aH:=A.wrap true [] .k (A.dL Sc)
noncomputable def SC (a0 a1 a2 a3:AV) (σ:Heap):aH:=(A.cells 2 a2).bind λc1=>(A.cells 2 a3).bind λc2=>(A.geq a1 a0).bind λx3=>A.cond x3 ((A.sub a1 a0).bind λx4=>(A.aC 0 2 c1).bind λx5=>(A.mul (AV.ah 2) x4).bind λx6=>(A.quiet (tW [x5,x6] σ) σ).bind λx7=>(A.aC 0 2 c2).bind λx8=>(A.quiet (N7 [x7,x8] σ) σ).bind λx9=>(A.cells 2 x9).bind λfQ=>(A.au 0 fQ [(AV.int .u64 0),(AV.int .u64 0)]).bind λiJ=>(A.loop (λv12 vT=>(A.lss (aj v12 2) (aj v12 3)).bind λdV=>A.cond dV ((A.add (aj v12 2) (aj v12 3)).bind λdM=>(A.add dM (AV.ah 1)).bind λdQ=>(A.quo dQ (AV.ah 2)).bind λcN=>((A.lb (aj v12 1)).bind λiW=>A.aC 0 2 iW).bind λeC=>((A.lb (aj v12 0)).bind λlJ=>A.aC 0 2 lJ).bind λdW=>(A.mul (AV.ah 2) cN).bind λfT=>(A.quiet (tW [dW,fT] vT) vT).bind λx24=>(A.quiet (Ir [eC,x24] vT) vT).bind λx25=>(A.cond x25 ((A.sub cN (AV.ah 1)).bind λeE=>some ([(aj v12 0),(aj v12 1),(aj v12 2),eE],vT)) (some ([(aj v12 0),(aj v12 1),cN,(aj v12 3)],vT))).bind λmA=>some (AX.normal,[(aj mA.1 0),(aj mA.1 1),(aj mA.1 2),(aj mA.1 3)],mA.2)) (some (AX.exit 0,[(aj v12 0),(aj v12 1),(aj v12 2),(aj v12 3)],vT))) [(AV.lbx c2),(AV.lbx iJ),(AV.ah 0),x4] σ).bind λvS=>bif vS.1==AX.exit 0 then((A.add a0 (aj vS.2.1 2)).bind λx29=>A.fin σ x29 vS.2.2)else none) ((A.sub a0 a1).bind λdF=>(A.aC 0 2 c1).bind λx31=>(A.mul (AV.ah 2) dF).bind λx32=>(tW [x31,x32] σ).bind λqA=>(A.cells 2 qA.1).bind λvF=>(A.au 0 vF [(AV.int .u64 0),(AV.int .u64 0)]).bind λjF=>(A.loop (λkU vW=>(A.lss (aj kU 2) (aj kU 3)).bind λgH=>A.cond gH ((A.add (aj kU 2) (aj kU 3)).bind λeA=>(A.quo eA (AV.ah 2)).bind λfF=>((A.lb (aj kU 0)).bind λmI=>A.aC 0 2 mI).bind λiy=>(A.mul (AV.ah 2) fF).bind λgA=>(A.add gA (AV.ah 1)).bind λfO=>(A.quiet (tW [iy,fO] vW) vW).bind λiz=>((A.lb (aj kU 1)).bind λjH=>A.aC 0 2 jH).bind λjo=>(A.quiet (Ir [iz,jo] vW) vW).bind λgB=>(A.cond gB ((A.add fF (AV.ah 1)).bind λjy=>some ([(aj kU 0),(aj kU 1),jy,(aj kU 3)],vW)) (some ([(aj kU 0),(aj kU 1),(aj kU 2),fF],vW))).bind λew=>some (AX.normal,[(aj ew.1 0),(aj ew.1 1),(aj ew.1 2),(aj ew.1 3)],ew.2)) (some (AX.exit 2,[(aj kU 0),(aj kU 1),(aj kU 2),(aj kU 3)],vW))) [(AV.lbx c2),(AV.lbx jF),(AV.ah 0),dF] qA.2).bind λH8=>bif H8.1==AX.exit 2 then((A.sub a0 (aj H8.2.1 2)).bind λjX=>A.fin σ jX H8.2.2)else none)
noncomputable def Sw:aq→Heap→aH:=A.wrap true [] .k (A.zi SC)
noncomputable def aag (a0 a1:AV) (σ:Heap):aH:=(A.cells 7 a0).bind λc1=>(A.ak 2 c1).bind λx2=>(A.ak 3 c1).bind λx3=>(A.add x2 x3).bind λx4=>(A.ak 4 c1).bind λx5=>(A.add x4 x5).bind λx6=>(A.geq a1 x6).bind λx7=>A.cond x7 ((A.ak 1 c1).bind λx8=>A.fin σ x8 σ) ((A.leq a1 x4).bind λx9=>A.cond x9 ((A.ak 0 c1).bind λbT=>A.fin σ bT σ) ((A.aC 5 2 c1).bind λdH=>(A.sub a1 x4).bind λdU=>(A.ak 4 c1).bind λdY=>(Oy [dH,dU,dY] σ).bind λkT=>(A.ext 0 kT.1).bind λdV=>(A.ext 1 kT.1).bind λdM=>(A.cells 2 dV).bind λou=>(A.au 0 ou [(AV.int .u64 0),(AV.int .u64 0)]).bind λkn=>(A.cells 2 dM).bind λiW=>(A.au 0 iW [(AV.int .u64 0),(AV.int .u64 0)]).bind λjf=>(A.ak 0 c1).bind λcO=>(A.ak 1 c1).bind λdW=>(A.aC 0 2 kn).bind λfT=>(A.aC 0 2 jf).bind λx24=>(Sw [cO,dW,fT,x24] kT.2).bind λnI=>A.fin σ nI.1 nI.2))
noncomputable def TB:aq→Heap→aH:=A.wrap true [Gi] .k (A.dL aag)
noncomputable def aaf (a0 a1:AV) (σ:Heap):aH:=(A.cells 7 a0).bind λc1=>(A.aC 0 7 c1).bind λx2=>(R8 [x2] σ).bind λr3=>(Fl [a1] r3.2).bind λr4=>(A.not r4.1).bind λx5=>(uR [x5,(AV.ah 1)] r4.2).bind λr6=>((((A.cell r3.1).bind λv=>some [v]).bind λc7=>(A.au 0 c7 [(AV.ah 0),(AV.ah 0)]).bind λc8=>((A.cell r6.1).bind λv=>some [v]).bind λc9=>(A.au 1 c9 c8).bind λfQ=>some fQ).bind λcs=>some (AV.sl 1 (gf 1 2 cs))).bind λdH=>(Bq [dH] r6.2).bind λjh=>(A.neq .i jh.1 (AV.ah 0)).bind λdY=>A.cond dY (A.fin σ (AV.aL [(AV.ah 0),jh.1]) jh.2) ((A.aC 0 7 c1).bind λef=>(TB [ef,a1] jh.2).bind λwT=>A.fin σ (AV.aL [wT.1,(AV.ah 0)]) wT.2)
noncomputable def TA:aq→Heap→aH:=A.wrap true [Gi] .k (A.dL aaf)
end
section
set_option maxRecDepth 100000
noncomputable def Ti (a0:AV) (σ:Heap):aH:=(A.cells 2 a0).bind λc1=>(A.aC 0 2 c1).bind λx2=>(Iw [x2] σ).bind λr3=>(A.ext 0 r3.1).bind λx4=>(A.ext 1 r3.1).bind λx5=>(A.bY x4).bind λx6=>(A.loop (λv7 s8=>(A.lss (aj v7 0) x6).bind λbT=>A.cond bT ((A.bh 2 x4 (aj v7 0)).bind λdH=>((A.deref dH s8).bind λfE=>A.aC 0 2 fE).bind λdY=>(A.cells 2 dY).bind λkP=>(A.au 0 kP [(AV.ah 0),bB]).bind λmW=>(A.aC 0 2 mW).bind λdM=>(A.fS (.s [0,2]) (AV.om r3.2.length) dM dD s8).bind λh17=>(A.add (aj v7 0) (AV.ah 1)).bind λcN=>some (AX.normal,[cN],h17)) (some (AX.exit 0,[(aj v7 0)],s8))) [(AV.ah 0)] (r3.2++[aS.map []])).bind λmO=>bif mO.1==AX.exit 0 then(A.fin σ (AV.om r3.2.length) mO.2.2)else none
noncomputable def Tf:aq→Heap→aH:=A.wrap true [(.a [(.s 3),(.s 4)])] .k (A.dP Ti)
noncomputable def S5 (a0:AV) (σ:Heap):aH:=(A.eql .z a0 bB).bind λx1=>(A.guard x1 false (some a0) ay).bind λx2=>(A.guard x1 false (A.quiet (Oq [x2] σ) σ) ay).bind λx3=>(A.pick x1 dD x3).bind λx4=>A.fin σ x4 σ
noncomputable def SQ:aq→Heap→aH:=A.wrap true [] .k (A.dP S5)
noncomputable def SD (a0:AV) (σ:Heap):aH:=(lQ [a0,(AV.ah 0),(AV.ah 65535)] σ).bind λr1=>A.fin σ r1.1 r1.2
noncomputable def Of:aq→Heap→aH:=A.wrap true [] .k (A.dP SD)
noncomputable def SL (a0 a1:AV) (σ:Heap):aH:=(A.cells 2 a0).bind λc1=>(A.cells 2 a1).bind λc2=>(A.ak 0 c1).bind λx3=>(A.ak 0 c2).bind λx4=>(A.neq .i x3 x4).bind λx5=>A.cond x5 ((A.ak 0 c1).bind λx6=>(A.ak 0 c2).bind λx7=>(A.lss x6 x7).bind λx8=>A.fin σ x8 σ) ((A.ak 1 c1).bind λx9=>(A.ak 1 c2).bind λbT=>(N9 [x9,bT] σ).bind λeU=>(A.lss eU.1 (AV.ah 0)).bind λdU=>A.fin σ dU eU.2)
noncomputable def SH:aq→Heap→aH:=A.wrap true [] .k (A.dL SL)
noncomputable def RW (a0 a1:AV) (σ:Heap):aH:=(A.cells 2 a0).bind λc1=>(A.aC 0 2 c1).bind λx2=>(N0 [x2] σ).bind λr3=>(A.bY a1).bind λx4=>(A.gtr x4 (AV.ah 200)).bind λx5=>(uR [x5,(AV.ah 2)] r3.2).bind λr6=>((((A.cell r3.1).bind λv=>some [v]).bind λc7=>(A.au 0 c7 [(AV.ah 0),(AV.ah 0)]).bind λc8=>((A.cell r6.1).bind λv=>some [v]).bind λc9=>(A.au 1 c9 c8).bind λfQ=>some fQ).bind λcs=>some (AV.sl 1 (gf 1 2 cs))).bind λdH=>(Bq [dH] r6.2).bind λjh=>(A.neq .i jh.1 (AV.ah 0)).bind λdY=>A.cond dY (A.fin σ jh.1 jh.2) ((A.aC 0 2 c1).bind λef=>(Tf [ef] jh.2).bind λwT=>(A.bY a1).bind λdM=>(A.loop (λv17 zG=>(A.lss (aj v17 1) dM).bind λeC=>A.cond eC ((A.bh 3 a1 (aj v17 1)).bind λcO=>((A.deref cO zG).bind λiM=>A.aC 0 3 iM).bind λfT=>(A.cells 3 fT).bind λiN=>(A.au 0 iN [(AV.ah 0),bB,AV.az]).bind λjx=>(A.ak 0 jx).bind λiw=>(lQ [iw,(AV.ah 1),(AV.ah 999)] zG).bind λBc=>(A.not Bc.1).bind λx28=>A.cond x28 (some (AX.ret,[(AV.ah 1),(aj v17 1)],Bc.2)) ((A.gtr (aj v17 1) (AV.ah 0)).bind λx29=>(A.guard x29 true (A.ak 0 jx) ay).bind λdF=>(A.guard x29 true (some a1) ay).bind λx31=>(A.guard x29 true (some (aj v17 1)) ay).bind λx32=>(A.guard x29 true (A.sub x32 (AV.ah 1)) ay).bind λgu=>(A.guard x29 true (A.bh 3 x31 gu) ay).bind λx34=>(A.guard x29 true (A.aF 0 x34) ay).bind λiY=>(A.guard x29 true ((A.deref iY Bc.2).bind λjG=>A.ak 0 jG) ay).bind λcU=>(A.guard x29 true (A.leq dF cU) ay).bind λx38=>(A.pick x29 x38 aR).bind λgH=>A.cond gH (some (AX.ret,[(AV.ah 7),(aj v17 1)],Bc.2)) ((A.ak 1 jx).bind λeA=>(SQ [eA] Bc.2).bind λH7=>(A.not H7.1).bind λi6=>A.cond i6 (some (AX.ret,[(AV.ah 3),(aj v17 1)],H7.2)) ((A.ak 2 jx).bind λiy=>(A.bY iy).bind λgA=>(A.gtr gA (AV.ah 2000)).bind λfO=>A.cond fO (some (AX.ret,[(AV.ah 2),(aj v17 1)],H7.2)) ((A.ak 2 jx).bind λiz=>(A.bY iz).bind λko=>(A.loop (λrZ Nv=>(A.lss (aj rZ 2) ko).bind λjy=>A.cond jy ((A.bh 3 iz (aj rZ 2)).bind λfP=>((A.deref fP Nv).bind λqT=>A.aC 0 3 qT).bind λiR=>(A.cells 3 iR).bind λjV=>(A.au 0 jV [(AV.ah 0),bB,(AV.ah 0)]).bind λtC=>(A.aC 0 2 tC).bind λlY=>(A.look (.s [0,2]) wT.1 lY aR Nv).bind λi7=>(A.not i7).bind λgb=>A.cond gb (some (AX.ret,[(AV.ah 8),(aj rZ 1),(aj rZ 2)],Nv)) ((A.ak 2 tC).bind λji=>(Of [ji] Nv).bind λwV=>(A.not wV.1).bind λfL=>A.cond fL (some (AX.ret,[(AV.ah 1),(aj rZ 1),(aj rZ 2)],wV.2)) ((A.gtr (aj rZ 2) (AV.ah 0)).bind λgL=>((A.lb (aj rZ 1)).bind λ_ => some (2)).bind λp64 =>(A.guard gL true ((A.lb (aj rZ 1)).bind λvG=>A.ak p64 vG) ay).bind λjc=>(A.guard gL true (some (aj rZ 2)) ay).bind λmg=>(A.guard gL true (A.sub mg (AV.ah 1)) ay).bind λjK=>(A.guard gL true (A.bh 3 jc jK) ay).bind λiE=>(A.guard gL true (A.aF 0 iE) ay).bind λgM=>(A.guard gL true ((A.deref gM wV.2).bind λnU=>A.aC 0 2 nU) ay).bind λtT=>(A.guard gL true (A.aC 0 2 tC) ay).bind λjL=>(A.guard gL true (A.quiet (SH [tT,jL] wV.2) wV.2) ay).bind λjq=>(A.guard gL true (A.not jq) ay).bind λfG=>(A.pick gL fG aR).bind λkq=>A.cond kq (some (AX.ret,[(AV.ah 7),(aj rZ 1),(aj rZ 2)],wV.2)) ((A.add (aj rZ 2) (AV.ah 1)).bind λBl=>some (AX.normal,[(aj rZ 0),(aj rZ 1),Bl],wV.2))))) (some (AX.exit 3,[(aj rZ 0),(aj rZ 1),(aj rZ 2)],Nv))) [(aj v17 0),(AV.lbx jx),(AV.ah 0)] H7.2).bind λzF=>bif zF.1==AX.exit 3 then((A.add (aj v17 1) (AV.ah 1)).bind λlP=>some (AX.normal,[(aj zF.2.1 0),lP],zF.2.2))else bif zF.1==AX.ret then(some (AX.ret,[(aj zF.2.1 0),(aj v17 1)],zF.2.2))else none))))) (some (AX.exit 0,[(aj v17 0),(aj v17 1)],zG))) [(AV.ah 0),(AV.ah 0)] wT.2).bind λNr=>bif Nr.1==AX.exit 0 then(A.fin σ (AV.ah 0) Nr.2.2)else bif Nr.1==AX.ret then(A.fin σ (aj Nr.2.1 0) Nr.2.2)else none)
noncomputable def NY:aq→Heap→aH:=A.wrap true [(.a [(.s 3),(.s 4)]),(.s 3)] .k (A.dL RW)
noncomputable def S4 (a0 a1 a2:AV) (σ:Heap):aH:=(A.cells 2 a1).bind λc1=>(A.cells 2 a2).bind λc2=>(A.ak 0 c2).bind λx3=>(A.neq .i x3 (AV.ah 0)).bind λx4=>(A.guard x4 true (A.ak 1 c2) ay).bind λx5=>(A.guard x4 true (A.neq .i x5 (AV.ah 0)) ay).bind λx6=>(A.pick x4 x6 aR).bind λx7=>A.cond x7 (A.fin σ (AV.aL [(AV.ah 0),(AV.ah 3)]) σ) ((A.ak 0 c2).bind λx8=>(Of [x8] σ).bind λr9=>(A.not r9.1).bind λbT=>A.cond bT (A.fin σ (AV.aL [(AV.ah 0),(AV.ah 1)]) r9.2) ((A.ak 1 c2).bind λdH=>(A.eql .i dH (AV.ah 0)).bind λdU=>A.cond dU ((A.ak 0 c2).bind λdY=>A.fin σ (AV.aL [dY,(AV.ah 0)]) r9.2) ((A.bY a0).bind λef=>(A.loop (λdz jJ=>(A.lss (aj dz 4) ef).bind λcN=>A.cond cN ((A.bh 3 a0 (aj dz 4)).bind λey=>((A.deref ey jJ).bind λjf=>A.aC 0 3 jf).bind λcO=>(A.cells 3 cO).bind λiM=>(A.au 0 iM [(AV.ah 0),bB,AV.az]).bind λfJ=>(A.ak 0 fJ).bind λx24=>((A.lb (aj dz 1)).bind λ_=>some (1)).bind λp25=>((A.lb (aj dz 1)).bind λgK=>A.ak p25 gK).bind λeE=>(A.neq .i x24 eE).bind λx28=>A.cond x28 ((A.add (aj dz 4) (AV.ah 1)).bind λx29=>some (AX.normal,[(aj dz 0),(aj dz 1),(aj dz 2),(aj dz 3),x29],jJ)) ((A.ak 2 fJ).bind λdF=>(A.bY dF).bind λx31=>(A.loop (λv32 Rs=>(A.lss (aj v32 3) x31).bind λiY=>A.cond iY ((A.bh 3 dF (aj v32 3)).bind λiK=>((A.deref iK Rs).bind λij=>A.aC 0 3 ij).bind λx38=>(A.cells 3 x38).bind λoQ=>(A.au 0 oQ [(AV.ah 0),bB,(AV.ah 0)]).bind λB5=>(A.aC 0 2 B5).bind λfF=>((A.lb (aj v32 0)).bind λmI=>A.aC 0 2 mI).bind λiy=>(A.eql (.s [0,2]) fF iy).bind λgA=>A.cond gA ((A.ak 2 B5).bind λfO=>some (AX.ret,[(aj v32 0),fO,(AV.ah 0),(aj v32 3)],Rs)) ((A.add (aj v32 3) (AV.ah 1)).bind λiz=>some (AX.normal,[(aj v32 0),(aj v32 1),(aj v32 2),iz],Rs))) (some (AX.exit 2,[(aj v32 0),(aj v32 1),(aj v32 2),(aj v32 3)],Rs))) [(aj dz 0),(aj dz 2),(aj dz 3),(AV.ah 0)] jJ).bind λrq=>bif rq.1==AX.exit 2 then(some (AX.exit 0,[(aj rq.2.1 0),AV.undef,(aj rq.2.1 1),(aj rq.2.1 2),(aj dz 4)],rq.2.2))else bif rq.1==AX.ret then(some (AX.ret,[(aj rq.2.1 0),AV.undef,(aj rq.2.1 1),(aj rq.2.1 2),(aj dz 4)],rq.2.2))else none)) (some (AX.exit 0,[(aj dz 0),(aj dz 1),(aj dz 2),(aj dz 3),(aj dz 4)],jJ))) [(AV.lbx c1),(AV.lbx c2),(AV.ah 0),(AV.ah 0),(AV.ah 0)] r9.2).bind λmQ=>bif mQ.1==AX.exit 0 then(A.fin σ (AV.aL [(AV.ah 0),(AV.ah 8)]) mQ.2.2)else bif mQ.1==AX.ret then(A.fin σ (AV.aL [(aj mQ.2.1 2),(aj mQ.2.1 3)]) mQ.2.2)else none)))
noncomputable def Fv:aq→Heap→aH:=A.wrap true [(.s 3)] .k (A.nE S4)
end
section
set_option maxRecDepth 100000
noncomputable def SZ (a0:AV) (σ:Heap):aH:=(lQ [a0,(AV.ah 0),(AV.ah 36000000)] σ).bind λr1=>A.fin σ r1.1 r1.2
noncomputable def DR:aq→Heap→aH:=A.wrap true [] .k (A.dP SZ)
noncomputable def SJ (a0 a1:AV) (σ:Heap):aH:=(A.cells 2 a0).bind λc1=>(A.cells 2 a1).bind λc2=>(A.ak 0 c1).bind λx3=>(A.ak 0 c2).bind λx4=>(A.neq .i x3 x4).bind λx5=>A.cond x5 ((A.ak 0 c1).bind λx6=>(A.ak 0 c2).bind λx7=>(A.lss x6 x7).bind λx8=>A.cond x8 (A.fin σ (AV.ah (-1)) σ) (A.fin σ (AV.ah 1) σ)) ((A.ak 1 c1).bind λx9=>(A.ak 1 c2).bind λbT=>(N9 [x9,bT] σ).bind λeU=>A.fin σ eU.1 eU.2)
noncomputable def Oj:aq→Heap→aH:=A.wrap true [] .k (A.dL SJ)
noncomputable def Sf (a0:AV) (σ:Heap):aH:=(A.bY a0).bind λx1=>(A.loop (λv2 s3=>(A.lss (aj v2 1) x1).bind λx5=>A.cond x5 ((A.bh 8 a0 (aj v2 1)).bind λx6=>((A.deref x6 s3).bind λc7=>A.aC 0 8 c7).bind λx8=>(A.cells 8 x8).bind λc9=>(A.au 0 c9 [(AV.ah 0),bB,(AV.ah 0),(AV.ah 0),aR,aR,(AV.ah 0),(AV.ah 0)]).bind λfQ=>(A.ak 0 fQ).bind λdH=>(lQ [dH,(AV.ah 1),(AV.ah 9999)] s3).bind λjh=>(A.not jh.1).bind λdY=>A.cond dY (some (AX.ret,[(AV.ah 1),(aj v2 1)],jh.2)) ((A.ak 1 fQ).bind λef=>(II [ef] jh.2).bind λwT=>(A.not wT.1).bind λdM=>A.cond dM (some (AX.ret,[(AV.ah 5),(aj v2 1)],wT.2)) ((A.ak 4 fQ).bind λdQ=>(A.guard dQ true (A.aC 2 2 fQ) ay).bind λcN=>(A.guard dQ true (some (AV.agg [(AV.ah 0),(AV.ah 0)])) ay).bind λey=>(A.guard dQ true (A.neq (.s [0,0]) cN ey) ay).bind λeC=>(A.pick dQ eC aR).bind λcO=>(A.guard cO false (A.ak 2 fQ) ay).bind λdW=>(A.guard cO false (A.neq .i dW (AV.ah 0)) ay).bind λfT=>(A.guard cO false (some fT) ay).bind λx24=>(A.guard x24 true (A.ak 3 fQ) ay).bind λx25=>(A.guard x24 true (A.neq .i x25 (AV.ah 0)) ay).bind λiw=>(A.guard cO false (A.pick x24 iw aR) ay).bind λeE=>(A.pick cO dD eE).bind λx28=>A.cond x28 (some (AX.ret,[(AV.ah 3),(aj v2 1)],wT.2)) ((A.ak 2 fQ).bind λx29=>(lQ [x29,(AV.ah 0),(AV.ah 65535)] wT.2).bind λDD=>(A.not DD.1).bind λx31=>(A.guard x31 false (A.ak 3 fQ) ay).bind λx32=>(A.guard x31 false (A.quiet (lQ [x32,(AV.ah 0),(AV.ah 999)] DD.2) DD.2) ay).bind λgu=>(A.guard x31 false (A.not gu) ay).bind λx34=>(A.pick x31 dD x34).bind λiY=>A.cond iY (some (AX.ret,[(AV.ah 1),(aj v2 1)],DD.2)) ((A.ak 5 fQ).bind λiK=>(A.not iK).bind λcU=>(A.guard cU true (A.ak 6 fQ) ay).bind λx38=>(A.guard cU true (A.neq .i x38 (AV.ah 0)) ay).bind λgH=>(A.guard cU true (some gH) ay).bind λeA=>(A.guard eA false (A.ak 7 fQ) ay).bind λfF=>(A.guard eA false (A.neq .i fF (AV.ah 0)) ay).bind λi6=>(A.guard cU true (A.pick eA dD i6) ay).bind λiy=>(A.pick cU iy aR).bind λgA=>A.cond gA (some (AX.ret,[(AV.ah 3),(aj v2 1)],DD.2)) ((A.ak 6 fQ).bind λfO=>(DR [fO] DD.2).bind λrj=>(A.not rj.1).bind λko=>(A.guard ko false (A.ak 7 fQ) ay).bind λjo=>(A.guard ko false (A.quiet (DR [jo] rj.2) rj.2) ay).bind λgB=>(A.guard ko false (A.not gB) ay).bind λoF=>(A.pick ko dD oF).bind λjy=>A.cond jy (some (AX.ret,[(AV.ah 1),(aj v2 1)],rj.2)) ((A.gtr (aj v2 1) (AV.ah 0)).bind λfP=>(A.guard fP true (some a0) ay).bind λjX=>(A.guard fP true (some (aj v2 1)) ay).bind λiR=>(A.guard fP true (A.sub iR (AV.ah 1)) ay).bind λmC=>(A.guard fP true (A.bh 8 jX mC) ay).bind λgV=>(A.guard fP true (A.aF 0 gV) ay).bind λlY=>(A.guard fP true ((A.deref lY rj.2).bind λkG=>A.aC 0 2 kG) ay).bind λgb=>(A.guard fP true (A.aC 0 2 fQ) ay).bind λji=>(A.guard fP true (A.quiet (Oj [gb,ji] rj.2) rj.2) ay).bind λkJ=>(A.guard fP true (A.geq kJ (AV.ah 0)) ay).bind λfL=>(A.pick fP fL aR).bind λgL=>A.cond gL (some (AX.ret,[(AV.ah 7),(aj v2 1)],rj.2)) ((A.add (aj v2 1) (AV.ah 1)).bind λnJ=>some (AX.normal,[(aj v2 0),nJ],rj.2))))))))) (some (AX.exit 0,[(aj v2 0),(aj v2 1)],s3))) [(AV.ah 0),(AV.ah 0)] σ).bind λzD=>bif zD.1==AX.exit 0 then(A.fin σ (AV.ah 0) zD.2.2)else bif zD.1==AX.ret then(A.fin σ (aj zD.2.1 0) zD.2.2)else none
noncomputable def Se:aq→Heap→aH:=A.wrap true [(.s 8)] .k (A.dP Sf)
noncomputable def TJ (a0:AV) (σ:Heap):aH:=(A.bY a0).bind λx1=>(A.gtr x1 (AV.ah 300)).bind λx2=>A.cond x2 (A.fin σ (AV.ah 2) σ) ((A.bY a0).bind λx3=>(A.loop (λv4 s5=>(A.lss (aj v4 2) x3).bind λx7=>A.cond x7 ((A.bh 11 a0 (aj v4 2)).bind λx8=>((A.deref x8 s5).bind λc9=>A.aC 0 11 c9).bind λbT=>(A.cells 11 bT).bind λiJ=>(A.au 0 iJ [(AV.ah 0),bB,(AV.ah 0),(AV.ah 0),(AV.ah 0),(AV.ah 0),(AV.ah 0),AV.az,aR,(AV.ah 0),AV.az]).bind λfE=>(A.ak 0 fE).bind λdY=>(lQ [dY,(AV.ah 1),(AV.ah 9999999)] s5).bind λkT=>(A.not kT.1).bind λdV=>A.cond dV (some (AX.ret,[(AV.ah 1),(aj v4 1),(aj v4 2)],kT.2)) ((A.gtr (aj v4 2) (AV.ah 0)).bind λdM=>(A.guard dM true (A.ak 0 fE) ay).bind λdQ=>(A.guard dM true (some a0) ay).bind λcN=>(A.guard dM true (some (aj v4 2)) ay).bind λey=>(A.guard dM true (A.sub ey (AV.ah 1)) ay).bind λeC=>(A.guard dM true (A.bh 11 cN eC) ay).bind λcO=>(A.guard dM true (A.aF 0 cO) ay).bind λdW=>(A.guard dM true ((A.deref dW kT.2).bind λfJ=>A.ak 0 fJ) ay).bind λx24=>(A.guard dM true (A.leq dQ x24) ay).bind λx25=>(A.pick dM x25 aR).bind λiw=>A.cond iw (some (AX.ret,[(AV.ah 7),(aj v4 1),(aj v4 2)],kT.2)) ((A.ak 1 fE).bind λeE=>(A.neq .z eE bB).bind λx28=>(A.guard x28 true (A.ak 1 fE) ay).bind λx29=>(A.guard x28 true (A.quiet (Oq [x29] kT.2) kT.2) ay).bind λdF=>(A.guard x28 true (A.not dF) ay).bind λx31=>(A.pick x28 x31 aR).bind λx32=>A.cond x32 (some (AX.ret,[(AV.ah 3),(aj v4 1),(aj v4 2)],kT.2)) ((A.ak 2 fE).bind λgu=>(DR [gu] kT.2).bind λmP=>(A.not mP.1).bind λiY=>(A.guard iY false (A.ak 3 fE) ay).bind λiK=>(A.guard iY false (A.quiet (DR [iK] mP.2) mP.2) ay).bind λcU=>(A.guard iY false (A.not cU) ay).bind λx38=>(A.pick iY dD x38).bind λgH=>(A.guard gH false (A.ak 4 fE) ay).bind λeA=>(A.guard gH false (A.quiet (DR [eA] mP.2) mP.2) ay).bind λfF=>(A.guard gH false (A.not fF) ay).bind λi6=>(A.pick gH dD i6).bind λiy=>(A.guard iy false (A.ak 5 fE) ay).bind λgA=>(A.guard iy false (A.quiet (DR [gA] mP.2) mP.2) ay).bind λfO=>(A.guard iy false (A.not fO) ay).bind λiz=>(A.pick iy dD iz).bind λko=>(A.guard ko false (A.ak 9 fE) ay).bind λjo=>(A.guard ko false (A.quiet (lQ [jo,(AV.ah (-1)),(AV.ah 36000000)] mP.2) mP.2) ay).bind λgB=>(A.guard ko false (A.not gB) ay).bind λoF=>(A.pick ko dD oF).bind λjy=>A.cond jy (some (AX.ret,[(AV.ah 1),(aj v4 1),(aj v4 2)],mP.2)) ((A.aC 6 2 fE).bind λfP=>(N1 [fP] mP.2).bind λdc=>(A.neq .i dc.1 (AV.ah 0)).bind λiR=>A.cond iR (some (AX.ret,[dc.1,(aj v4 1),(aj v4 2)],dc.2)) ((A.ak 10 fE).bind λmC=>(A.bY mC).bind λgV=>(A.gtr gV (AV.ah 2000)).bind λlY=>A.cond lY (some (AX.ret,[(AV.ah 2),(aj v4 1),(aj v4 2)],dc.2)) ((A.ak 10 fE).bind λi7=>(Se [i7] dc.2).bind λRp=>(A.neq .i Rp.1 (AV.ah 0)).bind λji=>A.cond ji (some (AX.ret,[Rp.1,(aj v4 1),(aj v4 2)],Rp.2)) ((A.ak 10 fE).bind λkJ=>(A.bY kJ).bind λfL=>(A.add (aj v4 1) fL).bind λgL=>(A.add (aj v4 2) (AV.ah 1)).bind λnJ=>some (AX.normal,[(aj v4 0),gL,nJ],Rp.2))))))))) (some (AX.exit 0,[(aj v4 0),(aj v4 1),(aj v4 2)],s5))) [(AV.ah 0),(AV.ah 0),(AV.ah 0)] σ).bind λzD=>bif zD.1==AX.exit 0 then((A.gtr (aj zD.2.1 1) (AV.ah 10000)).bind λjc=>(uR [jc,(AV.ah 2)] zD.2.2).bind λgG=>A.fin σ gG.1 gG.2)else bif zD.1==AX.ret then(A.fin σ (aj zD.2.1 0) zD.2.2)else none)
noncomputable def KS:aq→Heap→aH:=A.wrap true [(.e 11 xW)] .k (A.dP TJ)
noncomputable def Sp (a0 a1 a2:AV) (σ:Heap):aH:=(A.cells 2 a0).bind λc1=>(A.aC 0 2 c1).bind λx2=>(NY [x2,a1] σ).bind λr3=>(KS [a2] r3.2).bind λr4=>((((A.cell r3.1).bind λv=>some [v]).bind λc5=>(A.au 0 c5 [(AV.ah 0),(AV.ah 0)]).bind λc6=>((A.cell r4.1).bind λv=>some [v]).bind λc7=>(A.au 1 c7 c6).bind λc8=>some c8).bind λcs=>some (AV.sl 1 (gf 1 2 cs))).bind λx9=>(Bq [x9] r4.2).bind λmN=>(A.neq .i mN.1 (AV.ah 0)).bind λdH=>A.cond dH (A.fin σ mN.1 mN.2) ((A.aC 0 2 c1).bind λdU=>(Iw [dU] mN.2).bind λuJ=>(A.ext 0 uJ.1).bind λef=>(A.ext 1 uJ.1).bind λdV=>(A.bY ef).bind λdM=>(A.loop (λv17 zG=>(A.lss (aj v17 0) dM).bind λeC=>A.cond eC ((A.bh 2 ef (aj v17 0)).bind λcO=>((A.deref cO zG).bind λiM=>A.aC 0 2 iM).bind λfT=>(A.cells 2 fT).bind λiN=>(A.au 0 iN [(AV.ah 0),bB]).bind λjx=>(A.aC 0 2 jx).bind λiw=>(A.fS (.s [0,2]) (AV.om uJ.2.length) iw dD zG).bind λh27=>(A.add (aj v17 0) (AV.ah 1)).bind λx28=>some (AX.normal,[x28],h27)) (some (AX.exit 0,[(aj v17 0)],zG))) [(AV.ah 0)] (uJ.2++[aS.map []])).bind λgR=>bif gR.1==AX.exit 0 then((A.bY a2).bind λdF=>(A.loop (λv31 vV=>(A.lss (aj v31 1) dF).bind λx34=>A.cond x34 ((A.bh 11 a2 (aj v31 1)).bind λiY=>((A.deref iY vV).bind λjG=>A.aC 0 11 jG).bind λcU=>(A.cells 11 cU).bind λnG=>(A.au 0 nG [(AV.ah 0),bB,(AV.ah 0),(AV.ah 0),(AV.ah 0),(AV.ah 0),(AV.ah 0),AV.az,aR,(AV.ah 0),AV.az]).bind λoQ=>(A.ak 10 oQ).bind λeA=>(A.bY eA).bind λfF=>(A.loop (λFb Nu=>(A.lss (aj Fb 1) fF).bind λfO=>A.cond fO ((A.bh 8 eA (aj Fb 1)).bind λiz=>((A.deref iz Nu).bind λjH=>A.aC 0 8 jH).bind λjo=>(A.cells 8 jo).bind λDm=>(A.au 0 Dm [(AV.ah 0),bB,(AV.ah 0),(AV.ah 0),aR,aR,(AV.ah 0),(AV.ah 0)]).bind λqS=>(A.aC 0 2 qS).bind λjy=>(A.look (.s [0,2]) (AV.om uJ.2.length) jy aR Nu).bind λfP=>(A.not fP).bind λjX=>A.cond jX (some (AX.ret,[(AV.ah 8),(aj Fb 1)],Nu)) ((A.aC 0 2 qS).bind λiR=>(A.aC 2 2 qS).bind λmC=>(Fv [a1,iR,mC] Nu).bind λRo=>(A.ext 0 Ro.1).bind λlY=>(A.ext 1 Ro.1).bind λi7=>(A.neq .i i7 (AV.ah 0)).bind λgb=>A.cond gb (some (AX.ret,[i7,(aj Fb 1)],Ro.2)) ((A.add (aj Fb 1) (AV.ah 1)).bind λji=>some (AX.normal,[(aj Fb 0),ji],Ro.2)))) (some (AX.exit 4,[(aj Fb 0),(aj Fb 1)],Nu))) [(aj v31 0),(AV.ah 0)] vV).bind λwV=>bif wV.1==AX.exit 4 then((A.add (aj v31 1) (AV.ah 1)).bind λfL=>some (AX.normal,[(aj wV.2.1 0),fL],wV.2.2))else bif wV.1==AX.ret then(some (AX.ret,[(aj wV.2.1 0),(aj v31 1)],wV.2.2))else none) (some (AX.exit 2,[(aj v31 0),(aj v31 1)],vV))) [(AV.ah 0),(AV.ah 0)] gR.2.2).bind λE7=>bif E7.1==AX.exit 2 then(A.fin σ (AV.ah 0) E7.2.2)else bif E7.1==AX.ret then(A.fin σ (aj E7.2.1 0) E7.2.2)else none)else none)
noncomputable def Sm:aq→Heap→aH:=A.wrap true [(.a [(.e 3 [.k,.k,(.e 7 vD)]),(.s 4)]),(.e 3 [.k,.k,(.s 3)]),(.e 11 xW)] .k (A.nE Sp)
noncomputable def Th (a0:AV) (σ:Heap):aH:=(A.bY a0).bind λx1=>(A.loop (λv2 s3=>(A.lss (aj v2 0) x1).bind λx5=>A.cond x5 ((A.bh 11 a0 (aj v2 0)).bind λx6=>((A.deref x6 s3).bind λc7=>A.aC 0 11 c7).bind λx8=>(A.cells 11 x8).bind λc9=>(A.au 0 c9 [(AV.ah 0),bB,(AV.ah 0),(AV.ah 0),(AV.ah 0),(AV.ah 0),(AV.ah 0),AV.az,aR,(AV.ah 0),AV.az]).bind λfQ=>(A.ak 10 fQ).bind λdH=>(A.bY dH).bind λdU=>(A.loop (λtP Bj=>(A.lss (aj tP 1) dU).bind λdM=>A.cond dM ((A.bh 8 dH (aj tP 1)).bind λdQ=>((A.deref dQ Bj).bind λkn=>A.aC 0 8 kn).bind λey=>(A.cells 8 ey).bind λjf=>(A.au 0 jf [(AV.ah 0),bB,(AV.ah 0),(AV.ah 0),aR,aR,(AV.ah 0),(AV.ah 0)]).bind λlJ=>(A.ak 4 lJ).bind λdW=>(A.cond dW ((A.aC 0 2 lJ).bind λx24=>(A.GG (.s [0,2]) (AV.om σ.length) x24 Bj).bind λh25=>some ([(aj tP 0)],h25)) ((A.aC 0 2 lJ).bind λiw=>(A.aC 0 2 lJ).bind λeE=>(A.aC 2 2 lJ).bind λx28=>((A.lb (aj tP 0)).bind λ_=>some (0)).bind λp29=>((A.lb (aj tP 0)).bind λxZ=>A.ak p29 xZ).bind λx31=>(((A.cells 2 eE).bind λXl=>(A.au 0 Xl [(AV.ah 0),bB,(AV.ah 0),(AV.ah 0),(AV.ah 0)]).bind λG4=>(A.cells 2 x28).bind λvF=>(A.au 2 vF G4).bind λjF=>((A.cell x31).bind λv=>some [v]).bind λjG=>(A.au 4 jG jF).bind λij=>some ij).bind λcs=>some (AV.agg cs)).bind λx38=>(A.fS (.s [0,2]) (AV.om σ.length) iw x38 Bj).bind λuE=>some ([(aj tP 0)],uE))).bind λnX=>(A.add (aj tP 1) (AV.ah 1)).bind λeA=>some (AX.normal,[(aj nX.1 0),eA],nX.2)) (some (AX.exit 2,[(aj tP 0),(aj tP 1)],Bj))) [(AV.lbx fQ),(AV.ah 0)] s3).bind λH7=>bif H7.1==AX.exit 2 then((A.add (aj v2 0) (AV.ah 1)).bind λi6=>some (AX.normal,[i6],H7.2.2))else none) (some (AX.exit 0,[(aj v2 0)],s3))) [(AV.ah 0)] (σ++[aS.map []])).bind λkI=>bif kI.1==AX.exit 0 then(A.fin σ (AV.om σ.length) kI.2.2)else none
noncomputable def KL:aq→Heap→aH:=A.wrap true [(.e 11 xW)] .k (A.dP Th)
noncomputable def Sq (a0 a1:AV) (σ:Heap):aH:=(A.cells 11 a0).bind λc1=>(A.ak 0 c1).bind λx2=>(A.sub x2 a1).bind λx3=>A.fin σ x3 σ
noncomputable def Fk:aq→Heap→aH:=A.wrap true [(.a xW)] .k (A.dL Sq)
noncomputable def OD (a0 a1:AV) (σ:Heap):aH:=(Ig (A.tab (λ_ _=>none) [(177,Fk)]) [a0,a1,(AV.fn 177 [])] σ).bind λr1=>(A.ext 0 r1.1).bind λx2=>(A.ext 1 r1.1).bind λx3=>A.fin σ (AV.aL [x2,x3]) r1.2
noncomputable def IG:aq→Heap→aH:=A.wrap true [(.e 11 xW)] .k (A.dL OD)
noncomputable def ahq (a0 a1:AV) (σ:Heap):aH:=(A.cells 5 a0).bind λc1=>(A.cells 5 a1).bind λc2=>(A.aC 0 2 c1).bind λx3=>(A.aC 0 2 c2).bind λx4=>(Oj [x3,x4] σ).bind λr5=>A.fin σ r5.1 r5.2
noncomputable def YL:aq→Heap→aH:=A.wrap true [] .k (A.dL ahq)
noncomputable def OC (a0 a1:AV) (σ:Heap):aH:=(KS [a0] σ).bind λr1=>(A.neq .i r1.1 (AV.ah 0)).bind λx2=>A.cond x2 ((A.fin σ (AV.aL [AV.az,r1.1]) r1.2).map λp=>(A.nn (.t [(.s 5),.k]) p.1,p.2)) ((IG [a0,a1] r1.2).bind λr3=>(A.ext 0 r3.1).bind λx4=>(A.ext 1 r3.1).bind λx5=>(A.not x5).bind λx6=>A.cond x6 ((A.fin σ (AV.aL [AV.az,(AV.ah 8)]) r3.2).map λp=>(A.nn (.t [(.s 5),.k]) p.1,p.2)) ((A.add x4 (AV.ah 1)).bind λx7=>(A.Gb 11 a0 none (some x7) r3.2).bind λx8=>(KL [x8] r3.2).bind λr9=>(A.Eo r9.1).bind λasR=>A.CO (λv11 mR k13=>A.wA (AV.op r9.2.length 0) mR λef DG=>(A.ext 0 ef).bind λdM=>A.cond dM ((A.yO (AV.op r9.2.length 0) DG).bind λdQ=>(A.ext 1 dQ).bind λcN=>(A.cells 5 cN).bind λiW=>(A.au 0 iW [(AV.ah 0),bB,(AV.ah 0),(AV.ah 0),(AV.ah 0)]).bind λjf=>(A.aC 0 5 jf).bind λcO=>(((A.cells 5 cO).bind λiM=>(A.au 0 iM [(AV.ah 0),bB,(AV.ah 0),(AV.ah 0),(AV.ah 0)]).bind λfJ=>some fJ).bind λcs=>some (AV.sl 5 (gf 5 1 cs))).bind λx24=>(A.append 5 (140737488355328 / 48) (aj v11 0) x24 DG).bind λnI=>k13 (AX.normal,[nI.1],nI.2)) (k13 (AX.exit 0,[(aj v11 0)],DG))) [AV.az] (r9.2++[aS.it [] asR]) λmA=>bif mA.1==AX.exit 0 then((Kp [(aj mA.2.1 0),(AV.fn 297 [])] mA.2.2).bind λBc=>(A.fin σ (AV.aL [(aj mA.2.1 0),(AV.ah 0)]) Bc.2).map λp=>(A.nn (.t [(.s 5),.k]) p.1,p.2))else none))
noncomputable def Ox:aq→Heap→aH:=A.wrap true [(.e 11 xW)] (.t [(.s 5),.k]) (A.dL OC)
end
end Go.Proofs.YtooknfkholjpbaaGreat
