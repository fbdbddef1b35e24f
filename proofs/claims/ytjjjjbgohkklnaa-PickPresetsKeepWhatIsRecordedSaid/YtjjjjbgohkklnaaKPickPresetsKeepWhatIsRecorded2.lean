/- Parts of the proof of PickPresetsKeepWhatIsRecorded, in order. -/
import Derived.Orders
import Derived.Below
import Derived.WalkKit
import Derived.Laws.StructEq
import Derived.Laws.Append
import Derived.Laws.AppendOwn
import Derived.Test.YtjjjjbgohkklnaaRows
import Derived.KernelRfl
import Derived.Lib.Bytealg
import Derived.Sort.Defs
import Derived.Lib.BitFns
import Derived.Test.YtjjjjbgohkklnaaShelf
import Derived.Lib.Overlaps
import Derived.Test.YtjjjjbgohkklnaaKPickPresetsKeepWhatIsRecorded1
namespace Go.Proofs.Ytjjjjbgohkklnaa
set_option linter.unusedVariables false
set_option linter.unusedSimpArgs false
set_option linter.unusedSectionVars false
section
open Go.RowKit
section
variable {X : Fx} {z : Z} {s : AS} {a : Act} {w w' : World} {E : List Pl} {pb : Nat → Option Nat} {R : Type}
theorem kK{o:Oper}{v:Value}{w':World}{K:Act→World→Prop}{Q:Exit→Act→World→Prop}(h:(execOp a.eval o).run X.P w=.ok (.value v) w')(k:K (a.put o.dst v) w'):o.wp X.P a w K Q:=by unfold Oper.wp;rw[h,Oper.upon_value];exact k
theorem Fo{o:Oper}{w':World}{K:Act→World→Prop}{Q:Exit→Act→World→Prop}(h:(execOp a.eval o).run X.P w=.ok .skip w')(k:K (a.put o.dst undef) w'):o.wp X.P a w K Q:=by unfold Oper.wp;rw[h,Oper.upon_skip];exact k
theorem St.undef(h:St X z s a w E pb)(d:Option Nat):St X z (s.put X d (.aG [])) (a.put d undef) w E pb:=
 h.put d (by simp only[ak];exact⟨#[],rfl,by simp [az]⟩)
theorem qK(hs:cM X)(h:St X z s a w E pb){o:Oper}{k:AS→Option R}{r:R}(hk:((dz X o s none).bind λv=>k (s.put X o.dst v))=some r) {K:Act→World→Prop} {Q:Exit→Act→World→Prop}
  (hK:∀s' a' w' E' bk,St X z s' a' w' E' bk→k s'=some r→K a' w'):o.wp X.P a w K Q:=by
 obtain⟨av,h1,h2⟩:=aY.1 hk;exact Mo hs h (tag:=none) trivial h1 λv w' E' h3 h4=>hK _ _ _ _ _ (h3.put o.dst h4) h2
theorem UJ(h:St X z s a w E pb){q str:Bool}{i:Operand}{dst:Option Nat}{ty:TypeId}{pos:String}{af:Array Edge}{g:Option (Nat×Bool)}{k:AS→Option R}{r:R}
  (hk:(bif q||str then none else A.tu (ev X s i) s.σ λv σ=>k ((s.heap σ).put X dst v))=some r) {K:Act→World→Prop} {Q:Exit→Act→World→Prop}
  (hK:∀s' a' w' E' bk,St X z s' a' w' E' bk→k s'=some r→K a' w'):Oper.wp X.P ⟨dst,.next i str,ty,pos,af,g⟩ a w K Q:=by
 cases hq:(q||str)
 ·rw[hq]at hk;simp only[aQ]at hk;simp only[iH]at hq;obtain⟨rfl,rfl⟩:=hq;obtain⟨av,σ',v',w',k1,k2,k3,k4⟩:=UK (ty:=ty) h hk (cJ h i);exact kK (w':=w') (by simp [execOp,k2]) (hK _ _ _ _ _ (k3.put dst k4) k1)
 ·rw[hq]at hk;cases hk
theorem Rh(hs:cM X)(h:St X z s a w E pb){d t n:Nat}{ps:Array (Nat×Operand)}{ty:TypeId}{pos:String}{af:Array Edge}{g:Option (Nat×Bool)}{k:AS→Option R}{r:R}
  (hk:((dz X ⟨some d,.buildSlice t n ps,ty,pos,af,g⟩ s none).bind λv=>A.xz v λsz es=>k ((s.heap (s.σ++[.arr es.length sz es])).put X (some d) (.os s.σ.length es.length sz 0 es.length)))=some r) {K:Act→World→Prop} {Q:Exit→Act→World→Prop}
  (hK:∀s' a' w' E' bk,St X z s' a' w' E' bk→k s'=some r→K a' w'):Oper.wp X.P ⟨some d,.buildSlice t n ps,ty,pos,af,g⟩ a w K Q:=by
 obtain⟨v,h1,h2⟩:=aY.1 hk;unfold A.xz at h2;split at h2
 ·rename_i sz es;cases hl:(es.length==0)
  ·rw[hl]at h2;simp only[aQ]at h2;have hne:0<es.length:=by simp at hl;exact List.length_pos_iff.2 hl
   obtain⟨arr,et,e1,e2,e3,e4,e5⟩:=Qk h h1;have hlen:=h.heap.len;simp only[ctx]at hlen;refine kK e1 (hK _ _ _ _ _ ((h.qU (.cells arr et) (.arr es.length sz es) ⟨w.heap.size,0,es.length,sz,arr.size⟩ rfl λhx=>?_).put (some d) (av:=.os s.σ.length es.length sz 0 es.length) ?_) h2)
   ·have hb:=(MapKept.heap_alloc w (.cells arr et)).1;exact⟨rfl,hne,rfl,e3,⟨arr,et,hb,rfl⟩,by rw[e2];simp,e4 _ hb hx,sV hb e5⟩
   ·simp only[ak];refine⟨hne,⟨w.heap.size,0,es.length,sz,arr.size⟩,by show(E++[_])[s.σ.length]? =_;rw[←hlen];exact tF,bH _,⟨w.heap.size,0,none⟩,es.length,rfl,bH _,λ_=>⟨rfl,.inr (by simp),by rw[e2];simp⟩⟩
  ·rw[hl]at h2;cases h2
 ·cases h2
theorem Mk(hs:cM X)(h:St X z s a w E pb){q:Bool}{o:Oper}{k:AS→Option R}{r:R}(hk:dH X q o s k=some r){K:Act→World→Prop}{Q:Exit→Act→World→Prop}
  (hK:∀s' a' w' E' bk,St X z s' a' w' E' bk→k s'=some r→K a' w'):o.wp X.P a w K Q:=by
 unfold dH at hk;cases hp:fJ X o s none with
 |some p=>obtain⟨b,rr⟩:=p;rw[hp]at hk;simp only at hk;obtain⟨off,h1,h2⟩:=aY.1 hk;subst h1;obtain⟨n,k1,k2⟩:=Mn h (tag:=none) trivial hp;exact kK k2 (hK _ _ _ _ _ (h.Gy o.dst (λ_=>⟨n,k1,rfl⟩)) h2)
 |none=>
  rw[hp]at hk;simp only at hk;obtain⟨dst,op,ty,pos,af,g⟩:=o;cases op<;>simp only at hk<;>first|exact UJ h hk hK|exact qK hs h hk hK|skip
  case alloc t=>
   cases dst with
   |none=>cases hk
   |some d=>
    simp only at hk;cases hL:X.L.contains d
    ·rw[hL]at hk;simp only[aQ]at hk;cases hO:X.O.contains d
     ·rw[hO]at hk;exact qK hs h hk hK
     ·rw[hO]at hk;simp only[bh]at hk;split at hk
      ·rename_i cs hz;obtain⟨i,v,h1,h2,h3,h4,h5,h6⟩:=pP (w:=w) hz (ctx z w E pb)
       have hrun:(execOp a.eval ⟨some d,.alloc t,ty,pos,af,g⟩).run X.P w=.ok (.value (.pointer (some ⟨w.heap.size,0,none⟩))) (w.alloc (.cells v.cells t)):=by simp [execOp,Instr.alloc,h3,newVar,pM]
       have hst:=h.qU (.cells v.cells t) (.box cs) ⟨w.heap.size,0,0,0,0⟩ rfl (λhx=>by
        have hb:(w.alloc (.cells v.cells t)).heap[w.heap.size]? =some (.cells v.cells t (0,0)):=(MapKept.heap_alloc w _).1
        exact⟨rfl,⟨_,_,hb,by have:=h5.length;simpa using this.symm⟩,aS.qy hb (az.mono hx _ _ h5) h6 (λi hi=>by simp)⟩)
       have hlen:=h.heap.len;simp only[ctx]at hlen;refine kK hrun (hK _ _ _ _ _ (hst.put (some d) (av:=.op s.σ.length 0) ?_) hk);simp only[ak];exact⟨⟨w.heap.size,0,0,0,0⟩,by show(E++[_])[s.σ.length]? =_;rw[←hlen];exact tF,rfl,rfl⟩
      ·cases hk
    ·rw[hL]at hk;simp only[bh]at hk;split at hk
     ·rename_i cs hz;obtain⟨i,v,h1,h2,h3,h4,h5,h6⟩:=pP (w:=w) hz (ctx z w E pb)
      have hrun:(execOp a.eval ⟨some d,.alloc t,ty,pos,af,g⟩).run X.P w=.ok (.value (.pointer (some ⟨w.heap.size,0,none⟩))) (w.alloc (.cells v.cells t)):=by simp [execOp,Instr.alloc,h3,newVar,pM]
      obtain⟨bk,hst⟩:=h.ju d hL (vs:=v.cells.toList) t h5 h6;exact kK hrun (hK _ _ _ _ _ (by simpa using hst) hk)
     ·cases hk
  case box t x=>
   cases dst with
   |none=>cases hk
   |some d=>
    simp only at hk;cases hL:X.L.contains d
    ·rw[hL]at hk;simp only[aQ]at hk;cases hO:X.O.contains d
     ·rw[hO]at hk;exact qK hs h hk hK
     ·rw[hO]at hk;simp only[bh]at hk;obtain⟨cs,h1,h2⟩:=aY.1 hk;obtain⟨h5,h6,_,_⟩:=wo X h1 (cJ h x)
      have hrun:(execOp a.eval ⟨some d,.box t x,ty,pos,af,g⟩).run X.P w=.ok (.value (.pointer (some ⟨w.heap.size,0,none⟩))) (w.alloc (.cells (a.eval x).cells t)):=by simp [execOp,Instr.box,newVar,pM]
      have hst:=h.qU (.cells (a.eval x).cells t) (.box cs) ⟨w.heap.size,0,0,0,0⟩ rfl (λhx=>by
       have hb:(w.alloc (.cells (a.eval x).cells t)).heap[w.heap.size]? =some (.cells (a.eval x).cells t (0,0)):=(MapKept.heap_alloc w _).1
       exact⟨rfl,⟨_,_,hb,by have:=h5.length;simpa using this.symm⟩,aS.qy hb (az.mono hx _ _ h5) h6 (λi hi=>by simp)⟩)
      have hlen:=h.heap.len;simp only[ctx]at hlen;refine kK hrun (hK _ _ _ _ _ (hst.put (some d) (av:=.op s.σ.length 0) ?_) h2);simp only[ak];exact⟨⟨w.heap.size,0,0,0,0⟩,by show(E++[_])[s.σ.length]? =_;rw[←hlen];exact tF,rfl,rfl⟩
    ·rw[hL]at hk;simp only[bh]at hk;obtain⟨cs,h1,h2⟩:=aY.1 hk;obtain⟨h5,h6,_,_⟩:=wo X h1 (cJ h x)
     have hrun:(execOp a.eval ⟨some d,.box t x,ty,pos,af,g⟩).run X.P w=.ok (.value (.pointer (some ⟨w.heap.size,0,none⟩))) (w.alloc (.cells (a.eval x).cells t)):=by simp [execOp,Instr.box,newVar,pM]
     obtain⟨bk,hst⟩:=h.ju d hL (vs:=(a.eval x).cells.toList) t h5 h6;exact kK hrun (hK _ _ _ _ _ (by simpa using hst) h2)
  case store t x v=>
   split at hk
   ·rename_i b off hp;obtain⟨cs,h1,h2⟩:=aY.1 hk;obtain⟨new,h3,h4⟩:=aY.1 h2;obtain⟨cs',h5,h6⟩:=aY.1 h4;obtain⟨n,k1,k2,k3,k4⟩:=wB h (tag:=none) trivial hp h1;obtain⟨r1,r2,r3,d,hd⟩:=wo X h3 (cJ h v);obtain⟨arr,bt,j1,j2,j3⟩:=KC k3;obtain⟨j4,j5⟩:=j2.dF h5 r1;have hrun:=EB (P:=X.P) (t:=t) j1 r3 (IV hd) r2 j5;have hst:=h.VU k1 ⟨cs,k4⟩ (t:=bt) j4 (wN j3 r2);refine Fo (w':=_) ?_ (hK _ _ _ _ _ (hst.undef dst) h6);simp only[execOp,k2,Sem.run_bind];rw[show(Instr.storeAt t (.pointer (some ⟨n,off,none⟩)) (a.eval v)).run X.P w=_ from hrun];rfl
   ·obtain⟨new,h3,h4⟩:=aY.1 hk;obtain⟨σ',h5,h6⟩:=aY.1 h4;obtain⟨w',k1,k2⟩:=Sn h h3 (cJ h v) h5 (cJ h x);refine Fo (w':=w') ?_ (hK _ _ _ _ _ (k2.undef dst) h6);simp only[execOp,Sem.run_bind,k1];rfl
  case makeMap t rr=>
   cases rr with
   |some x=>cases hk
   |none=>
    simp only at hk
    have hrun:(execOp a.eval ⟨dst,.makeMap t none,ty,pos,af,g⟩).run X.P w=.ok (.value (.map (some w.heap.size))) (w.alloc (.map #[] 0)):=by simp [execOp,Instr.makeMap,newObj,Sem.run]
    have hst:=h.qU (.map #[] 0) (.map []) ⟨w.heap.size,0,0,0,0⟩ rfl (λhx=>by
     have hb:(w.alloc (.map #[] 0)).heap[w.heap.size]? =some (.map #[] 0):=(MapKept.heap_alloc w _).1
     exact⟨rfl,_,_,hb,jP.empty,rfl⟩)
    have hlen:=h.heap.len;simp only[ctx]at hlen;refine kK hrun (hK _ _ _ _ _ (hst.put dst (av:=.om s.σ.length) ?_) hk);simp only[ak];exact⟨⟨w.heap.size,0,0,0,0⟩,by show(E++[_])[s.σ.length]? =_;rw[←hlen];exact tF,rfl,rfl⟩
  case range t x=>
   split at hk
   ·rename_i kt et hd;obtain⟨es,h1,h2⟩:=aY.1 hk;obtain⟨o,k1,k2⟩:=TB h hd h1 (cJ h x);have hlen:=h.heap.len;simp only[ctx]at hlen;refine kK (v:=.pointer (some ⟨w.heap.size,0,none⟩)) (w':=w.alloc o) (by simp [execOp,k1]) (hK _ _ _ _ _ (k2.put dst (av:=.op s.σ.length 0) ?_) h2);simp only[ak];exact⟨⟨w.heap.size,0,0,0,0⟩,by show(E++[_])[s.σ.length]? =_;rw[←hlen];exact tF,rfl,rfl⟩
   ·cases hk
  case buildSlice t n ps=>
   cases dst with
   |none=>exact qK hs h hk hK
   |some d=>
    simp only at hk;cases hO:X.O.contains d
    ·rw[hO]at hk;exact qK hs h hk hK
    ·rw[hO]at hk;simp only[bh]at hk;exact Rh hs h hk hK
  case mapUpdate t m i v=>
   split at hk
   ·rename_i kt et hd;split at hk
    ·rename_i ek he;obtain⟨σ',h1,h2⟩:=aY.1 hk;obtain⟨w',k1,k2⟩:=UH h hd he h1 (cJ h m) (cJ h i) (cJ h v);refine Fo (w':=w') ?_ (hK _ _ _ _ _ (k2.undef dst) h2);simp only[execOp,Sem.run_bind,k1];rfl
    ·cases hk
   ·cases hk
  case call c=>
   have hargs:(c.args.map a.eval).toList=c.args.toList.map a.eval:=by simp
   have re:=wK h c.args.toList;split at hk
   ·rename_i hc;split at hk
    ·rename_i t u x y h1 h2;split at hk
     ·rename_i e e' hd hu;split at hk
      ·rename_i i hi;cases cS:iF i
       ·rw[cS]at hk;simp only[aQ]at hk;simp only[iF,iH,beq_eq_false_iff_ne]at cS;obtain⟨⟨z1,z2⟩,z3⟩:=cS;cases HQ:i.zero with
        |none=>rw[HQ]at z3;cases z3
        |some zv=>
         rw[HQ]at z3;simp only[iH,bne_eq_false_iff_eq,Bool.not_eq_false']at z3;obtain⟨z3,z4⟩:=z3;obtain⟨⟨rr,σ'⟩,h3,h4⟩:=aY.1 hk;rw[h2]at re
         have hl:∃v vy,c.args.toList.map a.eval=[v,vy]∧ak (ctx z w E pb) x v∧ak (ctx z w E pb) y vy:=by
          generalize c.args.toList.map a.eval=vs at *
          simp only[az]at re;obtain⟨v,_,rfl,r1,u',_,rfl,r2,rfl⟩:=re;exact⟨v,u',rfl,r1,r2⟩
         obtain⟨v,vy,hvs,r1,r2⟩:=hl;have hone:∀x∈zv.cells.toList,b8 x=true:=mw.1 z4;obtain⟨n,w',E',k1,k2,k3⟩:=Sr (ty:=ty) h hd hu hi HQ z3 z1 z2 hone h3 r1 r2;have h1':c.argTypes=#[t,u]:=by apply iI.1;simpa using h1
         have pg:c.args.map a.eval=#[v,vy]:=by apply iI.1;rw[hargs,hvs]
         have hrun:(execOp a.eval ⟨dst,.call c,ty,pos,af,g⟩).run X.P w=.ok (.value n) w':=by simp only[execOp,resolve,hc,Sem.run_bind,Sem.run_pure,Result.andThen_ok,invoke,builtin,pg,h1',k1]
         exact kK hrun (hK _ _ _ _ _ (k2.put dst k3) h4)
       ·rw[cS]at hk;cases hk
      ·cases hk
     ·rename_i e kk hd hu;split at hk
      ·rename_i i zs hi hz;cases cS:iF i
       ·rw[cS]at hk;simp only[aQ]at hk;simp only[iF,iH,beq_eq_false_iff_ne]at cS;obtain⟨⟨z1,z2⟩,z3⟩:=cS;obtain⟨i',zv,g1,g2,g3,g4,g5,g6⟩:=pP (w:=w) hz (ctx z w E pb);rw[hi]at g1;injection g1 with g1;subst g1
        rw[g2]at z3;simp only[iH,bne_eq_false_iff_eq,Bool.not_eq_false']at z3;obtain⟨z3,z4⟩:=z3
        have lp:∀c,az c zs zv.cells.toList:=λc=>by
         obtain⟨i2,v2,f1,f2,f3,f4,f5,f6⟩:=pP (w:=w) hz c;rw[hi]at f1;injection f1 with f1;subst f1
         rw[g2]at f2;injection f2 with f2;subst f2
         exact f5
        obtain⟨⟨rr,σ'⟩,h3,h4⟩:=aY.1 hk;rw[h2]at re
        have hl:∃v vy,c.args.toList.map a.eval=[v,vy]∧ak (ctx z w E pb) x v∧ak (ctx z w E pb) y vy:=by
         generalize c.args.toList.map a.eval=vs at *
         simp only[az]at re;obtain⟨v,_,rfl,r1,u',_,rfl,r2,rfl⟩:=re;exact⟨v,u',rfl,r1,r2⟩
        obtain⟨v,vy,hvs,r1,r2⟩:=hl;obtain⟨n,w',E',k1,k2,k3⟩:=RF (ty:=ty) h hd hu hi g2 z3 z1 z2 lp g6 h3 r1 r2;have h1':c.argTypes=#[t,u]:=by apply iI.1;simpa using h1
        have pg:c.args.map a.eval=#[v,vy]:=by apply iI.1;rw[hargs,hvs]
        have hrun:(execOp a.eval ⟨dst,.call c,ty,pos,af,g⟩).run X.P w=.ok (.value n) w':=by simp only[execOp,resolve,hc,Sem.run_bind,Sem.run_pure,Result.andThen_ok,invoke,builtin,pg,h1',k1]
        exact kK hrun (hK _ _ _ _ _ (k2.put dst k3) h4)
       ·rw[cS]at hk;cases hk
      ·cases hk
     ·cases hk
    ·cases hk
   ·rename_i hc;split at hk
    ·rename_i t u x y h1 h2;split at hk
     ·rename_i e e' hd hu;split at hk
      ·rename_i i hi;cases cS:iF i
       ·rw[cS]at hk;simp only[aQ]at hk;simp only[iF,iH,beq_eq_false_iff_ne]at cS;obtain⟨⟨z1,z2⟩,z3⟩:=cS;obtain⟨⟨rr,σ'⟩,h3,h4⟩:=aY.1 hk;rw[h2]at re
        have hl:∃v vy,c.args.toList.map a.eval=[v,vy]∧ak (ctx z w E pb) x v∧ak (ctx z w E pb) y vy:=by
         generalize c.args.toList.map a.eval=vs at *
         simp only[az]at re;obtain⟨v,_,rfl,r1,u',_,rfl,r2,rfl⟩:=re;exact⟨v,u',rfl,r1,r2⟩
        obtain⟨v,vy,hvs,r1,r2⟩:=hl;obtain⟨n,w',k1,k2,k3⟩:=Ub (ty:=ty) h hd hu hi z1 h3 r1 r2;have h1':c.argTypes=#[t,u]:=by apply iI.1;simpa using h1
        have pg:c.args.map a.eval=#[v,vy]:=by apply iI.1;rw[hargs,hvs]
        have hrun:(execOp a.eval ⟨dst,.call c,ty,pos,af,g⟩).run X.P w=.ok (.value n) w':=by simp only[execOp,resolve,hc,Sem.run_bind,Sem.run_pure,Result.andThen_ok,invoke,builtin,pg,h1',k1]
        exact kK hrun (hK _ _ _ _ _ (k2.put dst k3) h4)
       ·rw[cS]at hk;cases hk
      ·cases hk
     ·cases hk
    ·cases hk
   ·rename_i hc;cases hv:dz X ⟨dst,.call c,ty,pos,af,g⟩ s none with
    |some v=>rw[hv]at hk;exact qK hs h (by rw[hv];exact hk) hK
    |none=>
     rw[hv]at hk;simp only[A.mz]at hk;cases q
     ·simp only[aQ]at hk;split at hk
      ·rename_i t x h1 h2;split at hk
       ·rename_i e hd;rw[h2]at re
        have hl:∃v,c.args.toList.map a.eval=[v]∧ak (ctx z w E pb) x v:=by
         generalize c.args.toList.map a.eval=vs at *
         simp only[az]at re;obtain⟨v,_,rfl,r1,rfl⟩:=re;exact⟨v,rfl,r1⟩
        obtain⟨v,hvs,r1⟩:=hl;obtain⟨n,σ',k1,k2,k3⟩:=T7 (ty:=ty) h hd hk r1;have h1':c.argTypes=#[t]:=by apply iI.1;simpa using h1
        have pg:c.args.map a.eval=#[v]:=by apply iI.1;rw[hargs,hvs]
        have hrun:(execOp a.eval ⟨dst,.call c,ty,pos,af,g⟩).run X.P w=.ok (.value (.int .i64 (n:Int))) w:=by simp only[execOp,resolve,hc,Sem.run_bind,Sem.run_pure,Result.andThen_ok,invoke,builtin,pg,h1',k2]
        exact kK hrun (hK _ _ _ _ _ (k3.put dst (by simp [ak])) k1)
       ·cases hk
      ·cases hk
     ·cases hk
   ·rename_i hc;split at hk
    ·rename_i t x h1 h2;split at hk
     ·rename_i e hd;split at hk
      ·rename_i i zs hi hz;cases cS:iF i
       ·rw[cS]at hk;simp only[aQ]at hk;simp only[iF,iH,beq_eq_false_iff_ne]at cS;obtain⟨⟨z1,z2⟩,z3⟩:=cS;obtain⟨i',zv,g1,g2,g3,g4,g5,g6⟩:=pP (w:=w) hz (ctx z w E pb);rw[hi]at g1;injection g1 with g1;subst g1
        rw[g2]at z3;simp only[iH,bne_eq_false_iff_eq,Bool.not_eq_false']at z3;obtain⟨z3,z4⟩:=z3
        have lp:∀c,az c zs zv.cells.toList:=λc=>by
         obtain⟨i2,v2,f1,f2,f3,f4,f5,f6⟩:=pP (w:=w) hz c;rw[hi]at f1;injection f1 with f1;subst f1
         rw[g2]at f2;injection f2 with f2;subst f2
         exact f5
        obtain⟨σ',h3,h4⟩:=aY.1 hk;rw[h2]at re
        have hl:∃v,c.args.toList.map a.eval=[v]∧ak (ctx z w E pb) x v:=by
         generalize c.args.toList.map a.eval=vs at *
         simp only[az]at re;obtain⟨v,_,rfl,r1,rfl⟩:=re;exact⟨v,rfl,r1⟩
        obtain⟨v,hvs,r1⟩:=hl;obtain⟨w',k1,k2⟩:=Th (ty:=ty) h hd (So X.P hi g2) z3 z1 lp g6 h3 r1;have h1':c.argTypes=#[t]:=by apply iI.1;simpa using h1
        have pg:c.args.map a.eval=#[v]:=by apply iI.1;rw[hargs,hvs]
        have hrun:(execOp a.eval ⟨dst,.call c,ty,pos,af,g⟩).run X.P w=.ok (.value undef) w':=by simp only[execOp,resolve,hc,Sem.run_bind,Sem.run_pure,Result.andThen_ok,invoke,builtin,pg,h1',k1];rfl
        exact kK hrun (hK _ _ _ _ _ (k2.undef dst) h4)
       ·rw[cS]at hk;cases hk
      ·cases hk
     ·cases hk
    ·cases hk
   ·rename_i hc;split at hk
    ·rename_i t u m key h1 h2;split at hk
     ·rename_i kt et hd;split at hk
      ·rename_i ek he;obtain⟨σ',h3,h4⟩:=aY.1 hk;rw[h2]at re
       have hl:∃v vy,c.args.toList.map a.eval=[v,vy]∧ak (ctx z w E pb) m v∧ak (ctx z w E pb) key vy:=by
        generalize c.args.toList.map a.eval=vs at *
        simp only[az]at re;obtain⟨v,_,rfl,r1,u',_,rfl,r2,rfl⟩:=re;exact⟨v,u',rfl,r1,r2⟩
       obtain⟨v,vy,hvs,r1,r2⟩:=hl;obtain⟨w',k1,k2⟩:=UF (u:=u) (ty:=ty) h hd he h3 r1 r2;have h1':c.argTypes=#[t,u]:=by apply iI.1;simpa using h1
       have pg:c.args.map a.eval=#[v,vy]:=by apply iI.1;rw[hargs,hvs]
       have hrun:(execOp a.eval ⟨dst,.call c,ty,pos,af,g⟩).run X.P w=.ok (.value undef) w':=by simp only[execOp,resolve,hc,Sem.run_bind,Sem.run_pure,Result.andThen_ok,invoke,builtin,pg,h1',k1];rfl
       exact kK hrun (hK _ _ _ _ _ (k2.undef dst) h4)
      ·cases hk
     ·cases hk
    ·cases hk
   ·exact qK hs h hk hK
   ·rename_i f hc;cases hq:(q&&!X.W.contains f)
    ·rw[hq]at hk;simp only[aQ]at hk;obtain⟨⟨rr,σ'⟩,h3,h4⟩:=aY.1 hk;exact yS h (hs.call _ _ _ _ _ h3) (by rw[hargs];exact re) (IQ hc) (λv w' E' h1 h2=>hK _ _ _ _ _ (h1.put dst h2) h4)
    ·rw[hq]at hk;simp only[bh]at hk;exact qK hs h hk hK
   ·rename_i x hnf hc;cases q
    ·simp only[aQ]at hk;obtain⟨⟨rr,σ'⟩,h3,h4⟩:=aY.1 hk;have rx:=cJ h x;generalize ev X s x=vx at *
     cases vx<;>simp only[A.eB]at h3<;>first|(cases h3;done)|skip
     rename_i fn0 zg;simp only[ak]at rx;obtain⟨f,cs,e1,e2,e3⟩:=rx;rw[←e2]at h3;have sk:X.dyn (X.nm.getD f 0) (c.args.toList.map (ev X s)++zg) s.σ=some (rr,σ'):=by rw[h.nm];exact h3
     exact yS h (hs.dyn _ _ _ _ _ sk) (vs:=c.args.map a.eval++cs) (by rw[Array.toList_append,hargs];exact re.append e3) (D5 hc e1) (λv w' E' h1 h2=>hK _ _ _ _ _ (h1.put dst h2) h4)
    ·simp only[bh]at hk;exact qK hs h hk hK
   ·cases hk
end
end
section
structure Up where
 d:Option Nat
 v:AV
 bx:Option (Nat×AV)
 new:Option ng
 oH:Bool
 σ:Option Heap
def jU(oH:Bool)(d:Nat)(a:Option ng):Option ng:=match jo d a with|some p=>bif oH&&p.slot==d then none else some p|none=>none
def Up.sl(u:Up)(l:List AV):List AV:=match u.d with
 |some d=>(match u.bx with|some (b,x)=>l.set b x|none=>l).set d u.v
 |none=>(match u.bx with|some (b,x)=>l.set b x|none=>l)
def Up.A(u:Up)(A:Nat→Option ng)(t:Nat):Option ng:=match u.d with|none=>A t|some d=>bif t==d then u.new else jU u.oH d (A t)
def Up.ap(u:Up)(s:AS):AS:=⟨u.sl s.sl,u.A s.A,u.σ.getD s.σ⟩
theorem yC(d:Nat)(a:Option ng):jU false d a=jo d a:=by unfold jU;cases jo d a<;>rfl
theorem EI(i:Bool)(d:Nat)(a:Option ng):jU i d a=a∨jU i d a=none:=by
 cases a with
 |none=>left;rfl
 |some p=>
  unfold jU;cases hk:jo d (some p)with
  |none=>right;rfl
  |some q=>
   simp only
   have:q=p:=by
    simp only[jo]at hk;cases ht:p.tag with
    |none=>rw[ht]at hk;simpa using hk.symm
    |some g=>
     obtain⟨g,w⟩:=g;rw[ht]at hk;simp only at hk;cases hg:(g==d)
     ·rw[hg]at hk;simpa using hk.symm
     ·rw[hg]at hk;cases hk
   subst this;cases hb:(i&&q.slot==d)
   ·left;rfl
   ·right;rfl
theorem BF(i:Bool)(d:Nat):jU i d none=none:=rfl
theorem SG(i j:Bool)(d e:Nat)(a:Option ng):jU i d (jU j e a)=jU j e (jU i d a):=by
 rcases EI i d a with h1|h1<;>rcases EI j e a with h2|h2
 ·rw[h2,h1,h2]
 ·rw[h2,BF,h1,h2]
 ·rw[h2,h1,BF]
 ·rw[h2,BF,h1,BF]
structure Up.My (x y : Up) : Prop where
 d:∀d,x.d=some d→y.d≠some d
 bx:∀b v,x.bx=some (b,v)→(∀c w,y.bx=some (c,w)→c≠b)∧y.d≠some b
 NM:∀b v,y.bx=some (b,v)→(∀c w,x.bx=some (c,w)→c≠b)∧x.d≠some b
 nx:∀d,y.d=some d→jU y.oH d x.new=x.new
 ny:∀d,x.d=some d→jU x.oH d y.new=y.new
 σ:x.σ=none∨y.σ=none
theorem Up.comm{x y:Up}(h:x.My y)(s:AS):x.ap (y.ap s)=y.ap (x.ap s):=by
 obtain⟨hd,jH,hby,YE,YF,dG⟩:=h;unfold Up.ap;congr 1
 ·show x.sl (y.sl s.sl)=y.sl (x.sl s.sl);generalize s.sl=l;obtain⟨xd,xv,xb,xn,xi,xs⟩:=x;obtain⟨yd,yv,yb,yn,yi,ys⟩:=y;simp only at hd jH hby;cases xb with
  |none=>
   cases yb with
   |none=>
    cases xd with
    |none=>cases yd<;>simp [Up.sl]
    |some dx=>cases yd with
     |none=>simp [Up.sl]
     |some dy=>simp only[Up.sl];rw[List.set_comm];intro e;exact hd dx rfl (by rw[e])
   |some bv=>
    obtain⟨b,v⟩:=bv;obtain⟨_,hb⟩:=hby b v rfl;cases xd with
    |none=>cases yd<;>simp [Up.sl]
    |some dx=>
     have hne:dx≠b:=λe=>hb (by rw[e])
     cases yd with
     |none=>simp only[Up.sl];rw[List.set_comm _ _ (λe=>hne e.symm)]
     |some dy=>
      have mI:dx≠dy:=λe=>hd dx rfl (by rw[e])
      simp only[Up.sl];rw[List.set_comm _ _ (λe=>mI e.symm),List.set_comm _ _ (λe=>hne e.symm)]
  |some bv=>
   obtain⟨b,v⟩:=bv;obtain⟨Ar,hb⟩:=jH b v rfl;cases yb with
   |none=>
    cases yd with
    |none=>cases xd<;>simp [Up.sl]
    |some dy=>
     have hne:dy≠b:=λe=>hb (by rw[e])
     cases xd with
     |none=>simp only[Up.sl];rw[List.set_comm _ _ hne]
     |some dx=>
      have mI:dx≠dy:=λe=>hd dx rfl (by rw[e])
      simp only[Up.sl];rw[List.set_comm _ _ hne,List.set_comm _ _ (λe=>mI e.symm)]
   |some cw=>
    obtain⟨c,u⟩:=cw;have hcb:c≠b:=Ar c u rfl;obtain⟨_,hc⟩:=hby c u rfl;cases xd with
    |none=>
     cases yd with
     |none=>simp only[Up.sl];rw[List.set_comm _ _ hcb]
     |some dy=>
      have hne:dy≠b:=λe=>hb (by rw[e])
      simp only[Up.sl];rw[List.set_comm _ _ hne,List.set_comm _ _ hcb]
    |some dx=>
     have hnc:dx≠c:=λe=>hc (by rw[e])
     cases yd with
     |none=>simp only[Up.sl];rw[List.set_comm _ _ hcb,List.set_comm _ _ (λe=>hnc e.symm)]
     |some dy=>
      have hne:dy≠b:=λe=>hb (by rw[e])
      have mI:dx≠dy:=λe=>hd dx rfl (by rw[e])
      simp only[Up.sl];rw[List.set_comm _ _ hne,List.set_comm _ _ (λe=>mI e.symm),List.set_comm _ _ hcb,List.set_comm _ _ (λe=>hnc e.symm)]
 ·funext t;show x.A (y.A s.A) t=y.A (x.A s.A) t;generalize s.A t=a0;unfold Up.A;cases Ov:x.d with
  |none=>cases y.d<;>rfl
  |some dx=>
   cases Ox:y.d with
   |none=>rfl
   |some dy=>
    have mI:dx≠dy:=λe=>hd dx Ov (by rw[Ox,e])
    simp only;by_cases h1:t=dx
    ·subst h1;have:(t==dy)=false:=by simpa using mI
     simp only[beq_self_eq_true,bh,this,aQ];exact(YE dy Ox).symm
    ·have h1':(t==dx)=false:=by simpa using h1
     by_cases h2:t=dy
     ·subst h2;simp only[beq_self_eq_true,bh,h1',aQ];exact YF dx Ov
     ·have h2':(t==dy)=false:=by simpa using h2
      simp only[h1',h2',aQ];exact SG ..
 ·rcases dG with e|e<;>simp [e]
structure RI (X : Fx) (Rt : List (Nat × Nat)) (Bt : List Nat) (s : AS) : Prop where
 l:∀t b,Rt.lookup t=some b→X.L.contains b=true
 a:∀t p,s.A t=some p→Rt.lookup t=some p.slot
 v:∀t b,Rt.lookup t=some b→X.L.contains t=false→gP (s.sl.getD t .undef)=true
 b:∀t,Bt.contains t=true→jz (s.sl.getD t .undef)=true
def kM(σ σ':Heap):Prop:=∀(id:Nat)(cs:List AV),σ[id]? =some (aX.box cs)↔σ'[id]? =some (aX.box cs)
section
variable {R : Type} {X : Fx} {Rt : List (Nat × Nat)} {Bt : List Nat} {s s' : AS}
theorem B1(h:RI X Rt Bt s){tag:Option (Nat×Bool)}{x:Operand}{b off:Nat}(hp:place X s tag x=some (b,off)):qE X Rt x=some b:=by
 cases x with
 |tmp t=>
  simp only[place]at hp;simp only[qE];cases hL:X.L.contains t
  ·rw[hL]at hp;simp only[aQ]at hp ⊢;split at hp
   ·rename_i p hA;cases hc:X.L.contains p.slot
    ·rw[hc]at hp;cases hp
    ·rw[hc]at hp;simp only[bh]at hp;have ha:=h.a t p hA;split at hp
     ·simp only[Option.some.injEq,Prod.mk.injEq]at hp;rw[ha,hp.1]
     ·rename_i g hg;cases ht:(tag==some g)
      ·rw[ht]at hp;cases hp
      ·rw[ht]at hp;simp only[bh,Option.some.injEq,Prod.mk.injEq]at hp;rw[ha,hp.1]
   ·cases hp
  ·rw[hL]at hp;simp only[bh,Option.some.injEq,Prod.mk.injEq]at hp ⊢;exact hp.1
 |_=>simp [place]at hp
theorem wI(h:RI X Rt Bt s){tag:Option (Nat×Bool)}{x:Operand}{b:Nat}(hr:qE X Rt x=some b)(hp:place X s tag x=none):gP (ev X s x)=true:=by
 cases x with
 |tmp t=>
  simp only[qE]at hr;cases hL:X.L.contains t
  ·rw[hL]at hr;simp only[aQ]at hr;simp only[ev,hL,aQ];exact h.v t b hr hL
  ·simp only[place,hL,bh]at hp;cases hp
 |_=>simp [qE]at hr
theorem KD{v:AV}{σ:Heap}(h:gP v=true):A.deref v σ=none:=by unfold gP at h;split at h<;>first|rfl|cases h
theorem SC{v:AV}{σ σ':Heap}(h:kM σ σ')(hv:jz v=true):A.deref v σ=A.deref v σ':=by
 cases v<;>first|rfl|skip
 case op id off=>
  simp only[A.deref];cases h1:σ[id]? with
  |none=>
   cases h2:σ'[id]? with
   |none=>rfl
   |some b=>cases b<;>first|rfl|(have:=(h id _).2 h2;rw[h1]at this;cases this)
  |some b=>
   cases b with
   |box cs=>rw[(h id cs).1 h1]
   |_=>
    cases h2:σ'[id]? with
    |none=>rfl
    |some b=>cases b<;>first|rfl|(have:=(h id _).2 h2;rw[h1]at this;cases this)
 case oe id g i off=>cases hv
theorem Sm{v:AV}{new:List AV}{σ:Heap}(h:gP v=true):A.storeAt v new σ=none:=by unfold gP at h;split at h<;>first|rfl|cases h
theorem Em{pl:Nat→Option (Nat×TypeId)}:∀(ps:List (Nat×Operand))(cs:List AV),(∀p∈ps,ev X s p.2=ev X s' p.2)→jv X s pl ps cs=jv X s' pl ps cs
 |[],cs,_=>rfl
 |(i,x)::ps,cs,h=>by
  have hx:=h (i,x) (by simp);simp only at hx;simp only[jv,hx];cases pl i with
  |none=>rfl
  |some ot=>simp only;congr 1;funext new;congr 1;funext cs';exact Em ps cs' (λp hp=>h p (by simp [hp]))
theorem EY{o:Oper}{tag:Option (Nat×Bool)}(dw:∀x∈o.op.operands.toList,ev X s x=ev X s' x)(hpl:∀x,jc o=some x→place X s tag x=place X s' tag x)(hb:∀b,rt X Rt o=some b→s.sl.getD b .undef=s'.sl.getD b .undef)
  (Ao:∀x b off,jc o=some x→place X s' tag x=some (b,off)→rt X Rt o=some b):fJ X o s tag=fJ X o s' tag:=by
 obtain⟨dst,op,ty,pos,af,g⟩:=o;cases op<;>simp only[fJ]
 case nilCheck x=>
  rw[hpl x rfl];split
  ·rename_i b off hp;rw[hb b (Ao x b off rfl hp)]
  ·rfl
 case fieldAddr t x f=>
  rw[hpl x rfl];split
  ·rename_i b off hp;rw[hb b (Ao x b off rfl hp)]
  ·rfl
 case indexAddr t x i=>
  rw[hpl x rfl,dw i (by simp [Op.operands])];split
  ·rename_i b off hp;rw[hb b (Ao x b off rfl hp)]
  ·rfl
theorem BK{o:Oper}{tag:Option (Nat×Bool)}(dw:∀x∈o.op.operands.toList,ev X s x=ev X s' x)(hpl:∀x,jc o=some x→place X s tag x=place X s' tag x)(hb:∀b,rt X Rt o=some b→s.sl.getD b .undef=s'.sl.getD b .undef)
  (Ao:∀x b off,jc o=some x→place X s' tag x=some (b,off)→rt X Rt o=some b) (hno:∀x b,jc o=some x→rt X Rt o=some b→place X s' tag x=none→gP (ev X s' x)=true) (dG:nC X Rt o=true→soft Bt o=false→s.σ=s'.σ) (Xa:nC X Rt o=true→soft Bt o=true→kM s.σ s'.σ) (hB:∀t,Bt.contains t=true→jz (ev X s' (.tmp t))=true):dz X o s tag=dz X o s' tag:=by
 obtain⟨dst,op,ty,pos,af,g⟩:=o;cases op<;>simp only[dz];case move x=>rw[dw x (by simp [Op.operands])]
 case assign x=>rw[dw x (by simp [Op.operands])]
 case pick x y u=>rw[dw x (by simp [Op.operands]),dw y (by simp [Op.operands]),dw u (by simp [Op.operands])]
 case box t x=>rw[dw x (by simp [Op.operands])]
 case build t ps=>
  have hps:∀p∈ps.toList,ev X s p.2=ev X s' p.2:=λp hp=>dw p.2 (by simp only[Op.operands];simp;exact⟨p.1,by simpa using hp⟩)
  split
  ·rw[Em ps.toList _ hps]
  ·rfl
 case buildSlice t n ps=>
  have hps:∀p∈ps.toList,ev X s p.2=ev X s' p.2:=λp hp=>dw p.2 (by simp only[Op.operands];simp;exact⟨p.1,by simpa using hp⟩)
  split
  ·split
   ·rw[Em ps.toList _ hps]
   ·rfl
  ·rfl
 case load t x=>
  rw[hpl x rfl,dw x (by simp [Op.operands])];split
  ·rename_i b off hp;rw[hb b (Ao x b off rfl hp)]
  ·rename_i hp;cases hr:rt X Rt ⟨dst,.load t x,ty,pos,af,g⟩with
   |none=>
    cases vo:soft Bt ⟨dst,.load t x,ty,pos,af,g⟩
    ·rw[dG (by simp only[nC,hr,Option.isNone_none]) vo]
    ·rw[SC (Xa (by simp only[nC,hr,Option.isNone_none]) vo) (by
      cases x with
      |tmp u=>exact hB u vo
      |_=>simp [soft]at vo)]
   |some b=>rw[KD (hno x b rfl hr hp),KD (hno x b rfl hr hp)]
 case nilCheck x=>rw[dw x (by simp [Op.operands])]
 case binOp op t x y u=>rw[dw x (by simp [Op.operands]),dw y (by simp [Op.operands])]
 case unOp op t x=>rw[dw x (by simp [Op.operands])]
 case convert a b x=>rw[dw x (by simp [Op.operands])]
 case makeFunc fn first caps=>
  have:caps.toList.map (ev X s)=caps.toList.map (ev X s'):=List.map_congr_left λx hx=>dw x (by simp [Op.operands];exact .inr (by simpa using hx))
  rw[this]
 case slice t x lo hi mx=>
  have h1:lo.map (ev X s)=lo.map (ev X s'):=by cases lo with|none=>rfl|some y=>simp only[dN];rw[dw y (by simp [Op.operands])]
  have h2:hi.map (ev X s)=hi.map (ev X s'):=by cases hi with|none=>rfl|some y=>simp only[dN];rw[dw y (by simp [Op.operands])]
  rw[dw x (by simp [Op.operands]),h1,h2,dG rfl rfl];split
  ·rfl
  ·split
   ·rw[dw _ (by simp [Op.operands]),dw _ (by simp [Op.operands])]
   ·rfl
 case fieldAddr t x f=>rw[dw x (by simp [Op.operands])]
 case field t x f=>rw[dw x (by simp [Op.operands])]
 case indexAddr t x i=>rw[dw x (by simp [Op.operands]),dw i (by simp [Op.operands])]
 case index t x i=>rw[dw x (by simp [Op.operands]),dw i (by simp [Op.operands])]
 case lookup t x i ok=>rw[dw x (by simp [Op.operands]),dw i (by simp [Op.operands]),dG rfl rfl]
 case extract x i=>rw[dw x (by simp [Op.operands])]
 case entry i=>rw[dw i (by simp [Op.operands]),dG rfl rfl]
 case call c=>
  have ha:c.args.toList.map (ev X s)=c.args.toList.map (ev X s'):=List.map_congr_left λx hx=>dw x (by simp [Op.operands,Call.operands];exact .inr (by simpa using hx))
  rw[ha,dG rfl rfl];cases hc:c.callee with
  |value f=>have hf:=dw f (by simp [Op.operands,Call.operands,hc]);cases f<;>simp only[hf]
  |_=>rfl
theorem BO{σ:Heap}{b:aX}(hb:∀cs,b≠.box cs):kM σ (σ++[b]):=by
 intro id cs;by_cases h:id<σ.length
 ·rw[eG h]
 ·rw[iZ (by omega),eC (by omega)];constructor
  ·intro e;cases e
  ·intro e;have:=cx e;simp at this;exact absurd this.symm (hb cs)
theorem Fu{σ:Heap}{id:Nat}{b b':aX}(hb:∀cs,b≠.box cs)(hb':∀cs,b'≠.box cs)(h:σ[id]? =some b):kM σ (σ.set id b'):=by
 intro i cs;rw[eS];by_cases e:id=i
 ·subst e;rw[h];have hlt:=(bK.1 h).1;simp only[if_true,hlt];constructor
  ·intro e;injection e with e;exact absurd e (hb cs)
  ·intro e;injection e with e;exact absurd e (hb' cs)
 ·simp [e]
theorem uy(σ:Heap):kM σ σ:=λ_ _=>Iff.rfl
theorem Td{ek:A.EK}{m k v:AV}{σ σ':Heap}(h:A.gO ek m k v σ=some σ'):kM σ σ':=by
 unfold A.gO at h;cases hk:A.gY ek k
 ·rw[hk]at h;cases h
 rw[hk]at h;simp only[bh]at h;split at h
 ·split at h
  ·rename_i es hg;obtain⟨es',_,e⟩:=cq.1 h;subst e;exact Fu (λcs e=>by cases e) (λcs e=>by cases e) hg
  ·cases h
 ·cases h
theorem Jc{sz most:Nat}{x r:AV}{ys:List (List AV)}{σ σ':Heap}(h:A.iU sz most x ys σ=some (r,σ')):kM σ σ':=by
 unfold A.iU at h;split at h
 ·split at h
  ·injection h with h;injection h with _ h;subst h;exact uy _
  ·split at h
   ·injection h with h;injection h with _ h;subst h;exact BO λcs e=>by cases e
   ·cases h
 ·split at h
  ·injection h with h;injection h with _ h;subst h;exact uy _
  ·split at h
   ·injection h with h;injection h with _ h;subst h;exact BO λcs e=>by cases e
   ·cases h
 ·split at h
  ·rename_i hg;split at h
   ·split at h
    ·injection h with h;injection h with _ h;subst h;exact uy _
    ·split at h
     ·injection h with h;injection h with _ h;subst h;exact Fu (λcs e=>by cases e) (λcs e=>by cases e) hg
     ·injection h with h;injection h with _ h;subst h;exact Fu (λcs e=>by cases e) (λcs e=>by cases e) hg
   ·cases h
  ·split at h
   ·injection h with h;injection h with _ h;subst h;exact BO λcs e=>by cases e
   ·cases h
  ·cases h
 ·cases h
theorem RG{sz most:Nat}{x y r:AV}{σ σ':Heap}(h:A.append sz most x y σ=some (r,σ')):kM σ σ':=by unfold A.append at h;obtain⟨ys,_,h2⟩:=aY.1 h;exact Jc h2
theorem Rg{sz most:Nat}{zs:List AV}{x n r:AV}{σ σ':Heap}(h:A.iV sz most zs x n σ=some (r,σ')):kM σ σ':=by
 unfold A.iV at h;split at h
 ·split at h
  ·exact Jc h
  ·cases h
 ·cases h
structure Ag (X : Fx) (Rt : List (Nat × Nat)) (Bt : List Nat) (o : Oper) (ls : List Nat) (tag : Option (Nat × Bool)) (s s' : AS) : Prop where
 r1:RI X Rt Bt s
 r2:RI X Rt Bt s'
 dw:∀t∈ls,X.L.contains t=false→s.sl.getD t .undef=s'.sl.getD t .undef
 pl:∀t,jc o=some (.tmp t)→place X s tag (.tmp t)=place X s' tag (.tmp t)
 bx:∀b,rt X Rt o=some b→s.sl.getD b .undef=s'.sl.getD b .undef
 σ:nC X Rt o=true→soft Bt o=false→s.σ=s'.σ
 AQ:nC X Rt o=true→soft Bt o=true→kM s.σ s'.σ
theorem Tz{tag:Option (Nat×Bool)}{x:Operand}{b off:Nat}(h:place X s tag x=some (b,off)):X.L.contains b=true:=by
 cases x with
 |tmp t=>
  simp only[place]at h;cases hL:X.L.contains t
  ·rw[hL]at h;simp only[aQ]at h;split at h
   ·rename_i p hA;cases hp:X.L.contains p.slot
    ·rw[hp]at h;cases h
    ·rw[hp]at h;simp only[bh]at h;split at h
     ·simp only[Option.some.injEq,Prod.mk.injEq]at h;rw[←h.1];exact hp
     ·rename_i g hg;cases ht:(tag==some g)
      ·rw[ht]at h;cases h
      ·rw[ht]at h;simp only[bh,Option.some.injEq,Prod.mk.injEq]at h;rw[←h.1];exact hp
   ·cases h
  ·rw[hL]at h;simp only[bh,Option.some.injEq,Prod.mk.injEq]at h;rw[←h.1];exact hL
 |_=>simp [place]at h
theorem Ag.tU{o:Oper}{ls:List Nat}{tag:Option (Nat×Bool)}(h:Ag X Rt Bt o ls tag s s')(hls:∀t,Operand.tmp t∈o.op.operands.toList→t∈ls):∀x∈o.op.operands.toList,ev X s x=ev X s' x:=by
 intro x hx;cases x with
 |tmp t=>
  simp only[ev];cases hL:X.L.contains t
  ·simp only[aQ];exact h.dw t (hls t hx) hL
  ·rfl
 |_=>rfl
theorem RI.xE(h:RI X Rt Bt s):∀t,Bt.contains t=true→jz (ev X s (.tmp t))=true:=by
 intro t ht;simp only[ev];cases X.L.contains t
 ·exact h.b t ht
 ·rfl
theorem Ag.sx{o:Oper}{ls:List Nat}{tag:Option (Nat×Bool)}(h:Ag X Rt Bt o ls tag s s'):∀x,jc o=some x→place X s tag x=place X s' tag x:=by
 intro x hx;cases x with
 |tmp t=>exact h.pl t hx
 |_=>rfl
def ug(X:Fx)(d:Option Nat)(v:AV):Up:=⟨d,match d with|some d=>bif X.L.contains d then .undef else v|none=>.undef,none,none,false,none⟩
def AI(X:Fx)(d:Option Nat)(σ:Heap)(v:AV):Up:=⟨d,match d with|some d=>bif X.L.contains d then .undef else v|none=>.undef,none,none,false,some σ⟩
def Dx(X:Fx)(d:Option Nat)(b:Nat)(cs:List AV):Up:=⟨d,match d with|some d=>bif X.L.contains d then .undef else .aG []|none=>.undef,some (b,.lbx cs),none,false,none⟩
def Dw(d:Nat)(cs:List AV):Up:=⟨some d,.lbx cs,none,none,true,none⟩
def xT(X:Fx)(d:Option Nat)(b off:Nat)(tag:Option (Nat×Bool)):Up:=
 ⟨d,.undef,none,match d with|some d=>(bif X.L.contains d||!Nat.blt d X.n then none else match tag with|some (g,w)=>(bif g==d then none else some ⟨b,off,some (g,w)⟩)|none=>some ⟨b,off,none⟩)|none=>none,false,none⟩
theorem wX(d:Option Nat)(v:AV)(s:AS):s.put X d v=(ug X d v).ap s:=by
 cases d with
 |none=>rfl
 |some d=>simp only[AS.put,Up.ap,ug,Up.sl,Option.getD_none];congr 1;funext t;simp only[Up.A,yC]
theorem fU(d:Option Nat)(v:AV)(σ:Heap)(s:AS):(s.heap σ).put X d v=(AI X d σ v).ap s:=by
 cases d with
 |none=>rfl
 |some d=>simp only[AS.put,AS.heap,Up.ap,AI,Up.sl,Option.getD_some];congr 1;funext t;simp only[Up.A,yC]
theorem JV(d:Option Nat)(b:Nat)(cs:List AV)(s:AS):(⟨s.sl.set b (.lbx cs),s.A,s.σ⟩:AS).put X d (.aG [])=(Dx X d b cs).ap s:=by
 cases d with
 |none=>rfl
 |some d=>simp only[AS.put,Up.ap,Dx,Up.sl,Option.getD_none];congr 1;funext t;simp only[Up.A,yC]
theorem BI(d:Nat)(cs:List AV)(s:AS):s.ju d cs=(Dw d cs).ap s:=by simp only[AS.ju,Up.ap,Dw,Up.sl,Option.getD_none];congr 1
theorem Ch(d:Option Nat)(b off:Nat)(tag:Option (Nat×Bool))(s:AS):s.ij X d b off tag=(xT X d b off tag).ap s:=by
 cases d with
 |none=>rfl
 |some d=>simp only[AS.ij,Up.ap,xT,Up.sl,Option.getD_none];congr 1;funext t;simp only[Up.A,yC];rfl
structure mY (X : Fx) (Rt : List (Nat × Nat)) (Bt : List Nat) (o : Oper) (ls : List Nat) (τ : Heap) (u : Up) : Prop where
 d:u.d=o.dst
 bx:∀b v,u.bx=some (b,v)→X.L.contains b=true∧wb X Rt o=some b
 new:∀p,u.new=some p→rL o=true∧(∀g w,p.tag=some (g,w)→g∈ls)∧rt X Rt o=some p.slot∧∀d,u.d=some d→Rt.lookup d=some p.slot
 box:u.oH=true→∃d,o.dst=some d∧X.L.contains d=true
 σ:u.σ≠none→kr X Rt o=true
 v:∀d b,u.d=some d→Rt.lookup d=some b→X.L.contains d=false→gP u.v=true
 vb:∀d,u.d=some d→Bt.contains d=true→jz u.v=true
 XE:∀b v,u.bx=some (b,v)→jz v=true
 fr:tV o=true→∀σ,u.σ=some σ→kM τ σ
def nh(X:Fx)(Rt:List (Nat×Nat))(Bt:List Nat)(o:Oper):Prop:=(∀d,o.dst=some d→X.L.contains d=false→Rt.lookup d=(bif mT o then rt X Rt o else none))∧∀d,o.dst=some d→Bt.contains d=true→pX Bt o=true
theorem nh.of{o:Oper}(h:Gw X Rt o=true)(hb:Gu Bt o=true):nh X Rt Bt o:=by
 refine⟨λd hd hL=>?_,λd hd hc=>?_⟩
 ·unfold Gw at h;rw[hd]at h;simp only[hL,Bool.false_or,beq_iff_eq]at h;exact h
 ·unfold Gu at hb;rw[hd]at hb;simp only[hc,Bool.not_true,Bool.false_or]at hb;exact hb
theorem Gb{o:Oper}{ls:List Nat}(v:AV)(hR:nh X Rt Bt o)(hv:mT o=true→∀b,rt X Rt o=some b→gP v=true)(HO:pX Bt o=true→jz v=true){τ:Heap}:mY X Rt Bt o ls τ (ug X o.dst v):=by
 refine⟨rfl,(λb v h=>by cases h),(λp h=>by cases h),(λh=>by cases h),(λh=>absurd rfl h),λd b hd hl hL=>?_,λd hd hc=>?_,(λb v h=>by cases h),(λ_ σ h=>by cases h)⟩
 ·simp only[ug]at hd ⊢;rw[hd];simp only[hL,aQ];rw[hR.1 d hd hL]at hl;cases ha:mT o
  ·rw[ha]at hl;cases hl
  ·rw[ha]at hl;exact hv ha b hl
 ·have:=HO (hR.2 d hd hc);simp only[ug]at hd ⊢;rw[hd];simp only;cases X.L.contains d
  ·exact this
  ·rfl
theorem mR{o:Oper}{ls:List Nat}(σ:Heap)(v:AV)(hR:nh X Rt Bt o)(h:kr X Rt o=true)(hn:mT o=false)(hcb:pX Bt o=false){τ:Heap}(hf:tV o=true→kM τ σ):mY X Rt Bt o ls τ (AI X o.dst σ v):=by
 refine⟨rfl,(λb v h=>by cases h),(λp h=>by cases h),(λh=>by cases h),(λ_=>h),λd b hd hl hL=>?_,λd hd hc=>?_,(λb v h=>by cases h),(λhw σ' h=>?_)⟩
 ·simp only[AI]at hd;rw[hR.1 d hd hL,hn]at hl;cases hl
 ·have:=hR.2 d hd hc;rw[hcb]at this;cases this
 ·simp only[AI,Option.some.injEq]at h;subst h;exact hf hw
theorem Mv{τ:Heap}{o:Oper}{ls:List Nat}{b off:Nat}{tag:Option (Nat×Bool)}(hR:nh X Rt Bt o)(ha:mT o=true)(hr:rt X Rt o=some b)(h:rL o=true)(ht:∀g w,tag=some (g,w)→g∈ls):mY X Rt Bt o ls τ (xT X o.dst b off tag):=by
 refine⟨rfl,(λb v h=>by cases h),(λp hp=>?_),(λh=>by cases h),(λh=>absurd rfl h),(λd b hd hl hL=>rfl),(λ_ _ _=>rfl),(λb v h=>by cases h),(λ_ σ h=>by cases h)⟩
 have key:p.slot=b∧(∀g w,p.tag=some (g,w)→g∈ls)∧∀d,o.dst=some d→X.L.contains d=false:=by
  unfold xT at hp;simp only at hp;cases hd:o.dst with
  |none=>rw[hd]at hp;cases hp
  |some d=>
   rw[hd]at hp;simp only at hp;cases hc:(X.L.contains d||!Nat.blt d X.n)
   ·rw[hc]at hp;simp only[aQ]at hp;have hL:X.L.contains d=false:=by simp only[iH]at hc;exact hc.1
    cases tag with
    |none=>simp only[Option.some.injEq]at hp;subst hp;exact⟨rfl,(λg w e=>by cases e),λd' e=>by injection e with e;rw[←e];exact hL⟩
    |some gw=>
     obtain⟨g',w'⟩:=gw;simp only at hp;cases hg:(g'==d)
     ·rw[hg]at hp;simp only[aQ,Option.some.injEq]at hp;subst hp;refine⟨rfl,λg w e=>?_,λd' e=>by injection e with e;rw[←e];exact hL⟩;simp only[Option.some.injEq,Prod.mk.injEq]at e;rw[←e.1];exact ht g' w' rfl
     ·rw[hg]at hp;cases hp
   ·rw[hc]at hp;cases hp
 refine⟨h,key.2.1,by rw[hr,key.1],λd hd=>?_⟩;have hd':o.dst=some d:=hd;rw[hR.1 d hd' (key.2.2 d hd'),ha,bh,hr,key.1]
theorem BG(l:List AV)(d t:Nat)(v:AV)(h:t≠d):(l.set d v).getD t .undef=l.getD t .undef:=by
 have h':¬d=t:=λe=>h (Eq.symm e)
 simp only[List.getD,eS,aK h']
theorem Gq{u:Up}{l:List AV}{t:Nat}(h1:u.d≠some t)(h2:∀b v,u.bx=some (b,v)→t≠b):(u.sl l).getD t .undef=l.getD t .undef:=by
 unfold Up.sl;cases hd:u.d with
 |none=>
  cases hb:u.bx with
  |none=>rfl
  |some bv=>obtain⟨b,v⟩:=bv;exact BG _ _ _ _ (h2 b v hb)
 |some d=>
  have hne:t≠d:=λe=>h1 (by rw[hd,e])
  cases hb:u.bx with
  |none=>exact BG _ _ _ _ hne
  |some bv=>obtain⟨b,v⟩:=bv;simp only;rw[BG _ _ _ _ hne,BG _ _ _ _ (h2 b v hb)]
theorem mY.ri{τ:Heap}{o:Oper}{ls:List Nat}{u:Up}(h:mY X Rt Bt o ls τ u)(hs:RI X Rt Bt s):RI X Rt Bt (u.ap s):=by
 refine⟨hs.l,λt p hp=>?_,λt b ht hL=>?_,λt ht=>?_⟩
 ·have hp':u.A s.A t=some p:=hp;unfold Up.A at hp';cases hd:u.d with
  |none=>rw[hd]at hp';exact hs.a t p hp'
  |some d=>
   rw[hd]at hp';simp only at hp';cases hc:(t==d)
   ·rw[hc]at hp';simp only[aQ]at hp';rcases EI u.oH d (s.A t)with e|e
    ·rw[e]at hp';exact hs.a t p hp'
    ·rw[e]at hp';cases hp'
   ·rw[hc]at hp';simp only[bh]at hp';have:t=d:=by simpa using hc
    subst this;exact(h.new p hp').2.2.2 t hd
 ·show gP ((u.sl s.sl).getD t .undef)=true;by_cases hd:u.d=some t
  ·have hv:=h.v t b hd ht hL
   have:(u.sl s.sl).getD t .undef=u.v∨(u.sl s.sl).getD t .undef=.undef:=by
    unfold Up.sl;rw[hd];simp only[List.getD];rw[eS];simp only[if_true];generalize (match u.bx with|some (b,x)=>s.sl.set b x|none=>s.sl)=q;by_cases hq:t<q.length
    ·left;simp [hq]
    ·right;simp [hq]
   rcases this with e|e
   ·rw[e];exact hv
   ·rw[e];rfl
  ·rw[Gq hd (λb' v hb e=>by have:=(h.bx b' v hb).1;rw[←e,hL]at this;cases this)];exact hs.v t b ht hL
 ·show jz ((u.sl s.sl).getD t .undef)=true
  have lM:∀(l:List AV)(d:Nat)(v:AV),(l.set d v).getD t .undef=v∧t=d∨(l.set d v).getD t .undef=l.getD t .undef∨(l.set d v).getD t .undef=.undef:=by
   intro l d v;simp only[List.getD,eS];by_cases e:d=t
   ·subst e;by_cases hq:d<l.length
    ·left;simp [hq]
    ·right;right;simp [hq]
   ·right;left;simp [e]
  have jH:jz ((match u.bx with|some (b,x)=>s.sl.set b x|none=>s.sl).getD t .undef)=true:=by
   cases hb:u.bx with
   |none=>exact hs.b t ht
   |some bv=>
    obtain⟨b,v⟩:=bv;rcases lM s.sl b v with⟨e,_⟩|e|e
    ·simp only;rw[e];exact h.XE b v hb
    ·simp only;rw[e];exact hs.b t ht
    ·simp only;rw[e];rfl
  unfold Up.sl;generalize (match u.bx with|some (b,x)=>s.sl.set b x|none=>s.sl)=q at jH;cases hd:u.d with
  |none=>exact jH
  |some d=>
   simp only;rcases lM q d u.v with⟨e,e2⟩|e|e
   ·rw[e];exact h.vb d hd (e2▸ht)
   ·rw[e];exact jH
   ·rw[e];rfl
theorem Ml{o:Oper}{tag:Option (Nat×Bool)}{p:Nat×Option Nat}(h:fJ X o s tag=some p):rL o=true:=by obtain⟨dst,op,ty,pos,af,g⟩:=o;cases op<;>simp only[fJ]at h<;>first|(cases h;done)|rfl
theorem LD{o:Oper}{tag:Option (Nat×Bool)}{p:Nat×Option Nat}(h:fJ X o s tag=some p):mT o=true:=by obtain⟨dst,op,ty,pos,af,g⟩:=o;cases op<;>simp only[fJ]at h<;>first|(cases h;done)|rfl
theorem Mm(hI:RI X Rt Bt s){o:Oper}{tag:Option (Nat×Bool)}{b:Nat}{rr:Option Nat}(h:fJ X o s tag=some (b,rr)):rt X Rt o=some b:=by
 obtain⟨dst,op,ty,pos,af,g⟩:=o;cases op<;>simp only[fJ]at h<;>first|(cases h;done)|skip
 all_goals
  split at h
  ·rename_i b' off hp;simp only[Option.some.injEq,Prod.mk.injEq]at h;simp only[rt,jc];rw[←h.1];exact B1 hI hp
  ·cases h
theorem LF(hI:RI X Rt Bt s){o:Oper}{tag:Option (Nat×Bool)}{v:AV}(ha:mT o=true){b:Nat}(hr:rt X Rt o=some b)(hp:fJ X o s tag=none)(h:dz X o s tag=some v):False:=by
 obtain⟨dst,op,ty,pos,af,g⟩:=o;have nf:∀(x:AV)(n:Nat),gP x=true→A.cW n x=none:=λx n h=>by unfold gP at h;split at h<;>first|rfl|cases h
 have nn:∀(x:AV),gP x=true→A.jy x=none:=λx h=>by unfold gP at h;split at h<;>first|rfl|cases h
 have ni:∀(x i:AV)(n:Nat),gP x=true→A.aJ n x i=none:=λx i n h=>by unfold gP at h;split at h<;>first|rfl|cases h
 have na:∀(x i:AV)(m n:Nat),gP x=true→A.p9 m n x i=none:=λx i m n h=>by
  unfold gP at h;unfold A.p9;split at h<;>first|(cases h;done)|skip
  all_goals cases A.idx m i<;>rfl
 cases op<;>simp only[mT]at ha<;>first|(cases ha;done)|skip
 case nilCheck x=>
  simp only[fJ]at hp;simp only[rt,jc]at hr;split at hp
  ·cases hp
  ·rename_i hpl;simp only[dz,nn _ (wI hI hr hpl)]at h;cases h
 case fieldAddr t x f=>
  simp only[fJ]at hp;simp only[rt,jc]at hr;split at hp
  ·cases hp
  ·rename_i hpl;simp only[dz]at h;split at h
   ·split at h
    ·rename_i i _;cases hz:(i.size==0)
     ·rw[hz]at h;simp only[aQ,nf _ _ (wI hI hr hpl)]at h;cases h
     ·rw[hz]at h;cases h
    ·cases h
   ·cases h
 case indexAddr t x i=>
  simp only[fJ]at hp;simp only[rt,jc]at hr;split at hp
  ·cases hp
  ·rename_i hpl;simp only[dz]at h;split at h
   ·split at h
    ·simp only[ni _ _ _ (wI hI hr hpl)]at h;cases h
    ·cases h
   ·split at h
    ·simp only[na _ _ _ _ (wI hI hr hpl)]at h;cases h
    ·cases h
   ·cases h
theorem gV{α β:Type}{x:Option α}{f:α→Option β}{b:β}(h:x.bind f=some b):∃a,x=some a∧f a=some b:=aY.1 h
theorem Kg(hB:∀t,Bt.contains t=true→jz (ev X s (.tmp t))=true){o:Oper}{tag:Option (Nat×Bool)}{v:AV}(hc:pX Bt o=true)(h:dz X o s tag=some v):jz v=true:=by
 obtain⟨dst,op,ty,pos,af,g⟩:=o
 have nk:∀x,jz x=true→∀y,A.jy x=some y→jz y=true:=λx hx y e=>by cases x<;>simp only[A.jy]at e<;>first|(cases e;done)|(injection e with e;subst e;exact hx)
 have nf:∀x,jz x=true→∀n y,A.cW n x=some y→jz y=true:=λx hx n y e=>by cases x<;>simp only[A.cW]at e<;>first|(cases e;done)|(cases hx;done)|(injection e with e;subst e;rfl)
 cases op<;>simp only[pX]at hc<;>first|(cases hc;done)|skip
 case move x=>
  cases x<;>first|(cases hc;done)|skip
  simp only[dz,Option.some.injEq]at h;subst h;exact hB _ hc
 case assign x=>
  cases x<;>first|(cases hc;done)|skip
  simp only[dz,Option.some.injEq]at h;subst h;exact hB _ hc
 case nilCheck x=>
  cases x<;>first|(cases hc;done)|skip
  simp only[dz]at h;exact nk _ (hB _ hc) _ h
 case fieldAddr t x f=>
  cases x<;>first|(cases hc;done)|skip
  simp only[dz]at h;split at h
  ·split at h
   ·rename_i i _;cases hz:(i.size==0)
    ·rw[hz]at h;simp only[aQ]at h;exact nf _ (hB _ hc) _ _ h
    ·rw[hz]at h;cases h
   ·cases h
  ·cases h
theorem Mj{o:Oper}{ls:List Nat}(hR:nh X Rt Bt o)(hI:RI X Rt Bt s)(hls:∀t,Operand.tmp t∈o.op.operands.toList→t∈ls){k:AS→Option R}{r:R}(h:dH X true o s k=some r):
  ∃u,mY X Rt Bt o ls s.σ u∧k (u.ap s)=some r∧∀(R':Type)(k':AS→Option R')(s':AS),Ag X Rt Bt o ls none s s'→dH X true o s' k'=k' (u.ap s'):=by
 have tL:∀(s':AS),RI X Rt Bt s'→∀x b off,jc o=some x→place X s' none x=some (b,off)→rt X Rt o=some b:=λs' hi x b off hx hp=>by simp only[rt,hx];exact B1 hi hp
 have xy:∀(s':AS),RI X Rt Bt s'→∀x b,jc o=some x→rt X Rt o=some b→place X s' none x=none→gP (ev X s' x)=true:=λs' hi x b hx hr hp=>by simp only[rt,hx]at hr;exact wI hi hr hp
 unfold dH at h;cases hp:fJ X o s none with
 |some p=>
  obtain⟨b,rr⟩:=p;rw[hp]at h;simp only at h;obtain⟨off,e1,e2⟩:=gV h;subst e1;refine⟨xT X o.dst b off none,Mv hR (LD hp) (Mm hI hp) (Ml hp) (λg w e=>by cases e),by rw[←Ch];exact e2,λR' k' s' ha=>?_⟩;have:fJ X o s' none=some (b,some off):=by rw[←hp];exact(EY (ha.tU hls) ha.sx ha.bx (tL s' ha.r2)).symm
  unfold dH;rw[this];simp only[aC];rw[Ch]
 |none=>
  rw[hp]at h;simp only at h;have hP:∀s',Ag X Rt Bt o ls none s s'→fJ X o s' none=none:=λs' ha=>by rw[←hp];exact(EY (ha.tU hls) ha.sx ha.bx (tL s' ha.r2)).symm
  have dflt:((dz X o s none).bind λv=>k (s.put X o.dst v))=some r→(∀(R':Type)(k':AS→Option R')(s':AS),Ag X Rt Bt o ls none s s'→dH X true o s' k'=(dz X o s' none).bind λv=>k' (s'.put X o.dst v))→
    ∃u,mY X Rt Bt o ls s.σ u∧k (u.ap s)=some r∧∀(R':Type)(k':AS→Option R')(s':AS),Ag X Rt Bt o ls none s s'→dH X true o s' k'=k' (u.ap s'):=by
   intro hd hsame;obtain⟨v,e1,e2⟩:=gV hd;refine⟨ug X o.dst v,Gb v hR (λha b hr=>(LF hI ha hr hp e1).elim) (λhc=>Kg hI.xE hc e1),by rw[←wX];exact e2,λR' k' s' ha=>?_⟩;have:dz X o s' none=some v:=by rw[←e1];exact(BK (ha.tU hls) ha.sx ha.bx (tL s' ha.r2) (xy s' ha.r2) ha.σ ha.AQ ha.r2.xE).symm
   rw[hsame R' k' s' ha,this,aC,wX]
  obtain⟨dst,op,ty,pos,af,g⟩:=o;have ql:∀s',Ag X Rt Bt ⟨dst,op,ty,pos,af,g⟩ ls none s s'→∀x∈op.operands.toList,ev X s x=ev X s' x:=λs' ha=>ha.tU hls
  have unf:∀{R':Type}(k':AS→Option R')(s':AS),Ag X Rt Bt ⟨dst,op,ty,pos,af,g⟩ ls none s s'→fJ X ⟨dst,op,ty,pos,af,g⟩ s' none=none:=λk' s' ha=>hP s' ha
  cases op<;>simp only at h<;>first
   |(exact absurd (show(none:Option R)=some r from h) (by simp))
   |exact dflt h (λR' k' s' ha=>by unfold dH;rw[hP s' ha])
   |skip
  case alloc t=>
   cases dst with
   |none=>cases h
   |some d=>
    simp only at h;cases hL:X.L.contains d
    ·rw[hL]at h;simp only[aQ]at h;cases hO:X.O.contains d
     ·rw[hO]at h;exact dflt h (λR' k' s' ha=>by unfold dH;rw[hP s' ha];simp only[hL,hO,aQ])
     ·rw[hO]at h;simp only[bh]at h;split at h
      ·rename_i cs hz;rw[fU]at h;refine⟨_,mR _ _ hR (by simp [kr,wH];simpa using hO) rfl rfl (λh=>by cases h),h,λR' k' s' ha=>?_⟩;have dG:=ha.σ (by simpa [nC]using hO) rfl;unfold dH;rw[hP s' ha];simp only[hL,hO,aQ,bh,hz,dG];rw[fU]
      ·cases h
    ·rw[hL]at h;simp only[bh]at h;split at h
     ·rename_i cs hz;rw[BI]at h;refine⟨_,⟨rfl,(λb v h=>by cases h),(λp h=>by cases h),(λ_=>⟨d,rfl,hL⟩),(λh=>absurd rfl h),(λd' b e _ hL'=>by simp only[Dw,Option.some.injEq]at e;rw[←e,hL]at hL';cases hL'),(λ_ _ _=>rfl),(λb v h=>by cases h),(λ_ σ h=>by cases h)⟩,h,λR' k' s' ha=>?_⟩;unfold dH;rw[hP s' ha];simp only[hL,bh,hz];rw[BI]
     ·cases h
  case box t x=>
   cases dst with
   |none=>cases h
   |some d=>
    simp only at h;cases hL:X.L.contains d
    ·rw[hL]at h;simp only[aQ]at h;cases hO:X.O.contains d
     ·rw[hO]at h;exact dflt h (λR' k' s' ha=>by unfold dH;rw[hP s' ha];simp only[hL,hO,aQ])
     ·rw[hO]at h;simp only[bh]at h;obtain⟨cs,e1,e2⟩:=gV h;rw[fU]at e2;refine⟨_,mR _ _ hR (by simp [kr,wH];simpa using hO) rfl rfl (λh=>by cases h),e2,λR' k' s' ha=>?_⟩;have dG:=ha.σ (by simpa [nC]using hO) rfl;have hx:=ql s' ha x (by simp [Op.operands]);unfold dH;rw[hP s' ha];simp only[hL,hO,aQ,bh,←hx,e1,aC,dG];rw[fU]
    ·rw[hL]at h;simp only[bh]at h;obtain⟨cs,e1,e2⟩:=gV h;rw[BI]at e2;refine⟨_,⟨rfl,(λb v h=>by cases h),(λp h=>by cases h),(λ_=>⟨d,rfl,hL⟩),(λh=>absurd rfl h),(λd' b e _ hL'=>by simp only[Dw,Option.some.injEq]at e;rw[←e,hL]at hL';cases hL'),(λ_ _ _=>rfl),(λb v h=>by cases h),(λ_ σ h=>by cases h)⟩,e2,λR' k' s' ha=>?_⟩;have hx:=ql s' ha x (by simp [Op.operands]);unfold dH;rw[hP s' ha];simp only[hL,bh,←hx,e1,aC];rw[BI]
  case store t x v=>
   split at h
   ·rename_i b off hpl;obtain⟨cs,e1,e2⟩:=gV h;obtain⟨new,e3,e4⟩:=gV e2;obtain⟨cs',e5,e6⟩:=gV e4;rw[JV]at e6;have su:rt X Rt ⟨dst,.store t x v,ty,pos,af,g⟩=some b:=by simp only[rt,jc];exact B1 hI hpl
    refine⟨_,⟨rfl,(λb' v' hb=>by simp only[Dx,Option.some.injEq,Prod.mk.injEq]at hb;rw[←hb.1];exact⟨Tz hpl,su⟩),(λp h=>by cases h),(λh=>by cases h),(λh=>absurd rfl h),(λd1 b1 e hl hL=>by rw[hR.1 d1 e hL]at hl;cases hl),(λd1 e hc=>by have:=hR.2 d1 e hc;cases this),(λb1 v1 hb=>by simp only[Dx,Option.some.injEq,Prod.mk.injEq]at hb;rw[←hb.2];rfl),(λ_ σ h=>by cases h)⟩,e6,λR' k' s' ha=>?_⟩;have hv:=ql s' ha v (by simp [Op.operands]);have hpx:place X s' none x=some (b,off):=by rw[←hpl];exact(ha.sx x rfl).symm
    have jH:=ha.bx b su;unfold dH;rw[hP s' ha];simp only[hpx,←jH,e1,aC,←hv,e3,e5];rw[JV]
   ·rename_i hpl;obtain⟨new,e3,e4⟩:=gV h;obtain⟨σ',e5,e6⟩:=gV e4;rw[fU]at e6
    have su:rt X Rt ⟨dst,.store t x v,ty,pos,af,g⟩=none:=by
     cases hr:rt X Rt ⟨dst,.store t x v,ty,pos,af,g⟩with
     |none=>rfl
     |some b=>rw[Sm (xy s hI x b rfl hr hpl)]at e5;cases e5
    have hw:kr X Rt ⟨dst,.store t x v,ty,pos,af,g⟩=true:=by simp only[kr,su,Option.isNone_none]
    refine⟨_,mR _ _ hR hw rfl rfl (λh=>by cases h),e6,λR' k' s' ha=>?_⟩;have hv:=ql s' ha v (by simp [Op.operands]);have hx:=ql s' ha x (by simp [Op.operands]);have dG:=ha.σ (by simp only[nC,su,Option.isNone_none]) rfl;have hpx:place X s' none x=none:=by rw[←hpl];exact(ha.sx x rfl).symm
    unfold dH;rw[hP s' ha];simp only[hpx,←hv,←hx,e3,aC,←dG,e5];rw[fU]
  case makeMap t rr=>
   cases rr with
   |some x=>cases h
   |none=>simp only at h;rw[fU]at h;refine⟨_,mR _ _ hR rfl rfl rfl (λ_=>BO (λcs e=>by cases e)),h,λR' k' s' ha=>?_⟩;have dG:=ha.σ rfl rfl;unfold dH;rw[hP s' ha];simp only[←dG];rw[fU]
  case range t x=>
   split at h
   ·rename_i kt et hd;obtain⟨es,e1,e2⟩:=gV h;rw[fU]at e2;refine⟨_,mR _ _ hR rfl rfl rfl (λh=>by cases h),e2,λR' k' s' ha=>?_⟩;have hx:=ql s' ha x (by simp [Op.operands]);have dG:=ha.σ rfl rfl;unfold dH;rw[hP s' ha];simp only[hd,←hx,←dG,e1,aC];rw[fU]
   ·cases h
  case buildSlice t n ps=>
   cases dst with
   |none=>exact dflt h (λR' k' s' ha=>by unfold dH;rw[hP s' ha])
   |some d=>
    simp only at h;cases hO:X.O.contains d
    ·rw[hO]at h;exact dflt h (λR' k' s' ha=>by unfold dH;rw[hP s' ha];simp only[hO,aQ])
    ·rw[hO]at h;simp only[bh]at h;obtain⟨v,e1,e2⟩:=gV h
     have hv:∀s',Ag X Rt Bt ⟨some d,.buildSlice t n ps,ty,pos,af,g⟩ ls none s s'→dz X ⟨some d,.buildSlice t n ps,ty,pos,af,g⟩ s' none=some v:=λs' ha=>by rw[←e1];exact(BK (ha.tU hls) ha.sx ha.bx (tL s' ha.r2) (xy s' ha.r2) ha.σ ha.AQ ha.r2.xE).symm
     unfold A.xz at e2;split at e2
     ·rename_i sz es;cases hl:(es.length==0)
      ·rw[hl]at e2;simp only[aQ]at e2;rw[fU]at e2;refine⟨_,mR _ _ hR (by simp [kr,wH];simpa using hO) rfl rfl (λh=>by cases h),e2,λR' k' s' ha=>?_⟩;have dG:=ha.σ (by simpa [nC]using hO) rfl;unfold dH;rw[hP s' ha];simp only[hO,bh,hv s' ha,aC,A.xz,hl,aQ,←dG];rw[fU]
      ·rw[hl]at e2;cases e2
     ·cases e2
  case mapUpdate t m i v=>
   split at h
   ·rename_i kt et hd;split at h
    ·rename_i ek he;obtain⟨σ',e1,e2⟩:=gV h;rw[fU]at e2;refine⟨_,mR _ _ hR rfl rfl rfl (λ_=>Td e1),e2,λR' k' s' ha=>?_⟩;have hm:=ql s' ha m (by simp [Op.operands]);have hi:=ql s' ha i (by simp [Op.operands]);have hv:=ql s' ha v (by simp [Op.operands]);have dG:=ha.σ rfl rfl;unfold dH;rw[hP s' ha];simp only[hd,he,←hm,←hi,←hv,←dG,e1,aC];rw[fU]
    ·cases h
   ·cases h
  case call c=>
   have hargs:∀s',Ag X Rt Bt ⟨dst,.call c,ty,pos,af,g⟩ ls none s s'→c.args.toList.map (ev X s)=c.args.toList.map (ev X s'):=λs' ha=>
    List.map_congr_left λx hx=>ql s' ha x (by simp [Op.operands,Call.operands];exact .inr (by simpa using hx))
   split at h
   ·rename_i hc;split at h
    ·rename_i t u x y h1 h2;split at h
     ·rename_i e e' hd hu;split at h
      ·rename_i i hi;cases cS:iF i
       ·rw[cS]at h;simp only[aQ]at h;obtain⟨⟨rr,σ'⟩,e1,e2⟩:=gV h;simp only at e2;rw[fU]at e2;refine⟨_,mR _ _ hR (by simp [kr,wH,hc]) rfl rfl (λ_=>RG e1),e2,λR' k' s' ha=>?_⟩;have dG:=ha.σ rfl rfl;unfold dH;rw[hP s' ha];simp only[hc,←hargs s' ha,h1,h2,hd,hu,hi,cS,aQ,←dG,e1,aC];rw[fU]
       ·rw[cS]at h;cases h
      ·cases h
     ·rename_i e kk hd hu;split at h
      ·rename_i i zs hi hz;cases cS:iF i
       ·rw[cS]at h;simp only[aQ]at h;obtain⟨⟨rr,σ'⟩,e1,e2⟩:=gV h;simp only at e2;rw[fU]at e2;refine⟨_,mR _ _ hR (by simp [kr,wH,hc]) rfl rfl (λ_=>Rg e1),e2,λR' k' s' ha=>?_⟩;have dG:=ha.σ rfl rfl;unfold dH;rw[hP s' ha];simp only[hc,←hargs s' ha,h1,h2,hd,hu,hi,hz,cS,aQ,←dG,e1,aC];rw[fU]
       ·rw[cS]at h;cases h
      ·cases h
     ·cases h
    ·cases h
   ·rename_i hc;split at h
    ·rename_i t u x y h1 h2;split at h
     ·rename_i e e' hd hu;split at h
      ·rename_i i hi;cases cS:iF i
       ·rw[cS]at h;simp only[aQ]at h;obtain⟨⟨rr,σ'⟩,e1,e2⟩:=gV h;simp only at e2;rw[fU]at e2;refine⟨_,mR _ _ hR (by simp [kr,wH,hc]) rfl rfl (λh=>by simp [tV,hc]at h),e2,λR' k' s' ha=>?_⟩;have dG:=ha.σ rfl rfl;unfold dH;rw[hP s' ha];simp only[hc,←hargs s' ha,h1,h2,hd,hu,hi,cS,aQ,←dG,e1,aC];rw[fU]
       ·rw[cS]at h;cases h
      ·cases h
     ·cases h
    ·cases h
   ·rename_i hc;cases hv:dz X ⟨dst,.call c,ty,pos,af,g⟩ s none with
    |none=>rw[hv]at h;simp [A.mz]at h
    |some v=>
     rw[hv]at h
     exact dflt (by rw[hv];exact h) (λR' k' s' ha=>by
      have YO:dz X ⟨dst,.call c,ty,pos,af,g⟩ s' none=some v:=by rw[←hv];exact(BK (ha.tU hls) ha.sx ha.bx (tL s' ha.r2) (xy s' ha.r2) ha.σ ha.AQ ha.r2.xE).symm
      unfold dH;rw[hP s' ha];simp only[hc,YO,aC,A.mz])
   ·rename_i hc;split at h
    ·rename_i t x h1 h2;split at h
     ·rename_i e hd;split at h
      ·rename_i i zs hi hz;cases cS:iF i
       ·rw[cS]at h;simp only[aQ]at h;obtain⟨σ',e1,e2⟩:=gV h;rw[fU]at e2;refine⟨_,mR _ _ hR (by simp [kr,wH,hc]) rfl rfl (λh=>by simp [tV,hc]at h),e2,λR' k' s' ha=>?_⟩;have dG:=ha.σ rfl rfl;unfold dH;rw[hP s' ha];simp only[hc,←hargs s' ha,h1,h2,hd,hi,hz,cS,aQ,←dG,e1,aC];rw[fU]
       ·rw[cS]at h;cases h
      ·cases h
     ·cases h
    ·cases h
   ·rename_i hc;split at h
    ·rename_i t u m key h1 h2;split at h
     ·rename_i kt et hd;split at h
      ·rename_i ek he;obtain⟨σ',e1,e2⟩:=gV h;rw[fU]at e2;refine⟨_,mR _ _ hR (by simp [kr,wH,hc]) rfl rfl (λh=>by simp [tV,hc]at h),e2,λR' k' s' ha=>?_⟩;have dG:=ha.σ rfl rfl;unfold dH;rw[hP s' ha];simp only[hc,←hargs s' ha,h1,h2,hd,he,←dG,e1,aC];rw[fU]
      ·cases h
     ·cases h
    ·cases h
   ·rename_i b hn1 hn2 iP lg nv hc
    exact dflt h (λR' k' s' ha=>by
     unfold dH;rw[hP s' ha];simp only[hc]
     all_goals (first|rfl|(cases b<;>first|rfl|exact absurd rfl hn1|exact absurd rfl hn2|exact absurd rfl iP|exact absurd rfl lg|exact absurd rfl nv)))
   ·rename_i f hc;cases hw:X.W.contains f
    ·simp only[hw,Bool.not_false,Bool.and_true,bh]at h;exact dflt h (λR' k' s' ha=>by unfold dH;rw[hP s' ha];simp only[hc,hw,Bool.not_false,Bool.and_true,bh])
    ·simp only[hw,Bool.not_true,Bool.and_false,aQ]at h;obtain⟨⟨rr,σ'⟩,e1,e2⟩:=gV h;simp only at e2;rw[fU]at e2;refine⟨_,mR _ _ hR (by simp only[kr,wH,hc];exact hw) rfl rfl (λh=>by simp [tV,hc]at h),e2,λR' k' s' ha=>?_⟩;have dG:=ha.σ rfl rfl;unfold dH;rw[hP s' ha];simp only[hc,←hargs s' ha,hw,Bool.not_true,Bool.and_false,aQ,←dG,e1,aC];rw[fU]
   ·rename_i x hnf hc;simp only[bh]at h
    exact dflt h (λR' k' s' ha=>by
     unfold dH;rw[hP s' ha];simp only[hc]
     cases x<;>first|exact absurd rfl (hnf _)|simp only[bh])
   ·cases h
end
end
section
section
variable {R : Type} {X : Fx} {Rt : List (Nat × Nat)} {Bt : List Nat} {s s' : AS} {ops : Array Oper}
theorem yK{o:Oper}{t:Nat}(h:Operand.tmp t∈o.op.operands.toList):t∈o.looksAt ops:=by unfold Oper.looksAt;refine dg.2 (.inl (List.mem_filterMap.2 ⟨.tmp t,h,rfl⟩))
theorem Rp{o:Oper}{j d:Nat}{want:Bool}(hg:o.guard=some (j,want))(hd:(ops[j]?).bind (·.dst)=some d):d∈o.looksAt ops:=by unfold Oper.looksAt;refine dg.2 (.inr ?_);rw[hg];simp only[hd];simp
def xB(X:Fx)(Rt:List (Nat×Nat))(Bt:List Nat)(ops:Array Oper)(o:Oper)(s s':AS):Prop:=∀tag:Option (Nat×Bool),(∀g w,tag=some (g,w)→g∈o.looksAt ops)→Ag X Rt Bt o (o.looksAt ops) tag s s'
theorem Ag.symm{o:Oper}{ls:List Nat}{tag:Option (Nat×Bool)}(h:Ag X Rt Bt o ls tag s s'):Ag X Rt Bt o ls tag s' s:=
 ⟨h.r2,h.r1,λt ht hL=>(h.dw t ht hL).symm,λt ht=>(h.pl t ht).symm,λb hb=>(h.bx b hb).symm,(λhr hs=>(h.σ hr hs).symm),λhr hs id cs=>(h.AQ hr hs id cs).symm⟩
theorem xB.symm{o:Oper}(h:xB X Rt Bt ops o s s'):xB X Rt Bt ops o s' s:=λtag ht=>(h tag ht).symm
theorem E8{q:Bool}{o:Oper}{f:FuncId}{l:List Operand}(h:xh X o=some (f,l))(s:AS)(k:AS→Option R):dH X q o s k=(X.call f (l.map (ev X s)) s.σ).bind λr=>k ((s.heap r.2).put X o.dst r.1):=by
 unfold xh at h;split at h
 ·rename_i c ho;split at h
  ·rename_i f' hc;cases hw:X.W.contains f'
   ·rw[hw]at h;cases h
   ·rw[hw]at h;simp only[bh,Option.some.injEq,Prod.mk.injEq]at h;obtain⟨rfl,rfl⟩:=h;unfold dH fJ;simp only[ho,hc,hw,Bool.not_true,Bool.and_false,aQ]
  ·cases h
 ·cases h
theorem F0{o:Oper}{k:AS→Option R}{r:R}(hR:nh X Rt Bt o)(hI:RI X Rt Bt s)(h:iz X true ops o s k=some r):
  ∃u,mY X Rt Bt o (o.looksAt ops) s.σ u∧k (u.ap s)=some r∧∀(R':Type)(k':AS→Option R')(s':AS),xB X Rt Bt ops o s s'→iz X true ops o s' k'=k' (u.ap s'):=by
 unfold iz at h;cases hg:o.guard with
 |none=>rw[hg]at h;obtain⟨u,h1,h2,h3⟩:=Mj (ls:=o.looksAt ops) hR hI (λt ht=>yK ht) h;refine⟨u,h1,h2,λR' k' s' ha=>?_⟩;unfold iz;rw[hg];exact h3 R' k' s' (ha none (λg w e=>by cases e))
 |some jw=>
  obtain⟨j,want⟩:=jw;rw[hg]at h;simp only at h;cases hd:(ops[j]?).bind (·.dst)with
  |none=>rw[hd]at h;cases h
  |some d=>
   rw[hd]at h;simp only at h;cases hb:yI X o d
   ·rw[hb]at h;simp only[aQ]at h;have jJ:=Rp (ops:=ops) hg hd;have tM:∀g w,(some (d,want):Option (Nat×Bool))=some (g,w)→g∈o.looksAt ops:=λg w e=>by injection e with e;injection e with e _;rw[←e];exact jJ
    have HC:X.L.contains d=false:=by simp only[yI,iH]at hb;exact hb.1
    cases lW:xh X o with
    |some fa=>
     obtain⟨f,as'⟩:=fa;rw[lW]at h;simp only at h;obtain⟨rv,e1,e2⟩:=gV h
     have key:∀(x:AV),s.sl.getD d .undef=x→(x=.aG []∨∃c,x=.bool c∧(c==want)=false)∨∃c,x=.bool c∧(c==want)=true:=by
      intro x hx;rw[hx]at e1;unfold A.guard at e1;split at e1
      ·rename_i c;cases hc:(c==want)
       ·exact .inl (.inr ⟨c,rfl,hc⟩)
       ·exact .inr ⟨c,rfl,hc⟩
      ·exact .inl (.inl rfl)
      ·cases e1
     rcases key _ rfl with hno|⟨c,hc,HA⟩
     ·have hG:∀(R':Type)(x:Option R')(y:Option R'),A.guard (s.sl.getD d .undef) want x y=y:=by
       intro R' x y;rcases hno with hh|⟨c,hh,HA⟩
       ·rw[hh];rfl
       ·rw[hh];simp only[A.guard,HA,aQ]
      rw[hG]at e1;injection e1 with e1
      subst e1
      have CA:mT o=false∧pX Bt o=false:=by
       unfold xh at lW;split at lW
       ·rename_i c ho;exact⟨by simp only[mT,ho],by simp only[pX,ho]⟩
       ·cases lW
      refine⟨ug X o.dst (.aG []),Gb _ hR (λha=>by rw[CA.1]at ha;cases ha) (λha=>by rw[CA.2]at ha;cases ha),by rw[←wX];exact e2,λR' k' s' ha=>?_⟩;have a:=ha _ tM;have gU:=a.dw d jJ HC;unfold iz;rw[hg];simp only[hd,hb,aQ,lW];rw[←gU,hG,aC,←wX];rfl
     ·have hG:∀(R':Type)(x:Option R')(y:Option R'),A.guard (s.sl.getD d .undef) want x y=x:=by intro R' x y;rw[hc];simp only[A.guard,HA,bh]
      have hA:dH X true o s k=some r:=by rw[E8 lW];rw[hG]at h;exact h
      obtain⟨u,h1,h2,h3⟩:=Mj (ls:=o.looksAt ops) hR hI (λt ht=>yK ht) hA;refine⟨u,h1,h2,λR' k' s' ha=>?_⟩;have a:=ha _ tM;have gU:=a.dw d jJ HC;rw[←h3 R' k' s' (ha none (λg w e=>by cases e)),E8 lW];unfold iz;rw[hg];simp only[hd,hb,aQ,lW];rw[←gU,hG]
    |none=>
    rw[lW]at h;simp only at h;have tL:∀(s':AS),RI X Rt Bt s'→∀x b off,jc o=some x→place X s' (some (d,want)) x=some (b,off)→rt X Rt o=some b:=λs' hi x b off hx hp=>by simp only[rt,hx];exact B1 hi hp
    have xy:∀(s':AS),RI X Rt Bt s'→∀x b,jc o=some x→rt X Rt o=some b→place X s' (some (d,want)) x=none→gP (ev X s' x)=true:=λs' hi x b hx hr hp=>by simp only[rt,hx]at hr;exact wI hi hr hp
    have hP:∀s',xB X Rt Bt ops o s s'→fJ X o s' (some (d,want))=fJ X o s (some (d,want)):=λs' ha=>by have a:=ha _ tM;exact(EY (a.tU λt ht=>yK ht) a.sx a.bx (tL s' a.r2)).symm
    cases hp:fJ X o s (some (d,want))with
    |some p=>obtain⟨b,rr⟩:=p;rw[hp]at h;simp only at h;obtain⟨off,e1,e2⟩:=gV h;subst e1;refine⟨xT X o.dst b off (some (d,want)),Mv hR (LD hp) (Mm hI hp) (Ml hp) tM,by rw[←Ch];exact e2,λR' k' s' ha=>?_⟩;unfold iz;rw[hg];simp only[hd,hb,aQ,lW,hP s' ha,hp,aC];rw[Ch]
    |none=>
     rw[hp]at h;simp only at h;obtain⟨v,e1,e2⟩:=gV h
     have hv:mT o=true→∀b,rt X Rt o=some b→gP v=true:=by
      intro ha b hr;unfold A.guard at e1;split at e1
      ·rename_i c _;cases hc:(c==want)
       ·rw[hc]at e1;simp only[aQ,Option.some.injEq]at e1;subst e1;rfl
       ·rw[hc]at e1;exact(LF hI ha hr hp e1).elim
      ·simp only[Option.some.injEq]at e1;subst e1;rfl
      ·cases e1
     have HO:pX Bt o=true→jz v=true:=by
      intro hc;unfold A.guard at e1;split at e1
      ·rename_i c _;cases lf:(c==want)
       ·rw[lf]at e1;simp only[aQ,Option.some.injEq]at e1;subst e1;rfl
       ·rw[lf]at e1;exact Kg hI.xE hc e1
      ·simp only[Option.some.injEq]at e1;subst e1;rfl
      ·cases e1
     refine⟨ug X o.dst v,Gb v hR hv HO,by rw[←wX];exact e2,λR' k' s' ha=>?_⟩;have a:=ha _ tM;have hV:dz X o s' (some (d,want))=dz X o s (some (d,want)):=(BK (a.tU λt ht=>yK ht) a.sx a.bx (tL s' a.r2) (xy s' a.r2) a.σ a.AQ a.r2.xE).symm;have gU:=a.dw d jJ HC;unfold iz;rw[hg];simp only[hd,hb,aQ,lW,hP s' ha,hp,hV,←gU,e1,aC];rw[wX]
   ·rw[hb]at h;cases h
structure qt (X : Fx) (Rt : List (Nat × Nat)) (Bt : List Nat) (ops : Array Oper) (x y : Oper) : Prop where
 dx:∀d,x.dst=some d→d∉y.looksAt ops
 dd:∀d,x.dst=some d→y.dst≠some d
 dy:∀d,y.dst=some d→d∉x.looksAt ops
 c1:qc X Rt Bt x y=false
 c2:qc X Rt Bt y x=false
theorem qt.symm{x y:Oper}(h:qt X Rt Bt ops x y):qt X Rt Bt ops y x:=⟨h.dy,λd hd e=>h.dd d e hd,h.dx,h.c2,h.c1⟩
theorem SL{x y:Oper}(h:indep X Rt Bt ops x y=true):qt X Rt Bt ops x y:=by simp only[indep,dP,Bool.not_eq_true']at h;obtain⟨⟨h1,h2⟩,h3⟩:=h;obtain⟨a1,a2,a3⟩:=Oper.apart_spec h1;exact⟨a1,a2,a3,h2,h3⟩
theorem Lc{x y:Oper}(h:qc X Rt Bt x y=false){b:Nat}(hb:wb X Rt x=some b):rt X Rt y≠some b:=by unfold qc at h;simp only[iH]at h;have:=h.1.1;rw[hb]at this;simpa using this
theorem B6{x y:Oper}(h:qc X Rt Bt x y=false){d:Nat}(hd:x.dst=some d)(hL:X.L.contains d=true):rt X Rt y≠some d:=by unfold qc at h;simp only[iH]at h;have:=h.1.2;rw[hd]at this;simp only[hL,Bool.true_and]at this;simpa using this
theorem B7{x y:Oper}(h:qc X Rt Bt x y=false)(hw:kr X Rt x=true):(nC X Rt y=false∨(soft Bt y=true∧tV x=true))∧kr X Rt y=false:=by
 unfold qc at h;simp only[iH]at h;have:=h.2;rw[hw]at this;simp only[Bool.true_and,iH]at this;refine⟨?_,this.2⟩;cases hr:nC X Rt y
 ·exact .inl rfl
 ·have h2:=this.1;rw[hr,Bool.true_and,Bool.not_eq_false']at h2;exact .inr (by simpa using h2)
theorem Vk{x:Oper}{a:Operand}(h:jc x=some a):a∈x.op.operands.toList:=by obtain⟨dst,op,ty,pos,af,g⟩:=x;cases op<;>simp only[jc]at h<;>first|(cases h;done)|(injection h with h;subst h;simp [Op.operands])
theorem Xi(h:RI X Rt Bt s){x:Oper}{b:Nat}(hr:rt X Rt x=some b)(hL:X.L.contains b=false):False:=by
 unfold rt at hr;split at hr
 ·rename_i a _;cases a with
  |tmp t=>
   simp only[qE]at hr;cases hc:X.L.contains t
   ·rw[hc]at hr;have:=h.l t b hr;rw[hL]at this;cases this
   ·rw[hc]at hr;simp only[bh,Option.some.injEq]at hr;subst hr;rw[hL]at hc;cases hc
  |_=>simp [qE]at hr
 ·cases hr
theorem M4{x:Oper}{b:Nat}(h:wb X Rt x=some b):rt X Rt x=some b:=by
 unfold wb at h;split at h
 ·exact h
 ·cases h
theorem MN{τ:Heap}{x y:Oper}(h:qt X Rt Bt ops x y){u:Up}(hu:mY X Rt Bt y (y.looksAt ops) τ u)(s:AS)(hs:RI X Rt Bt s)(YU:u.σ≠none→kM s.σ τ):xB X Rt Bt ops x s (u.ap s):=by
 intro tag ht;have hnd:∀t,t∈x.looksAt ops→u.d≠some t:=λt ht e=>by rw[hu.d]at e;exact h.dy t e ht
 refine⟨hs,hu.ri hs,λt HN hL=>?_,λt Oa=>?_,λb hb=>?_,λhr vo=>?_,λhr vo=>?_⟩
 ·exact(Gq (hnd t HN) (λb v hb e=>by have:=(hu.bx b v hb).1;rw[←e,hL]at this;cases this)).symm
 ·have HN:t∈x.looksAt ops:=yK (Vk Oa);simp only[place];cases hL:X.L.contains t
  ·simp only[aQ];show _=match u.A s.A t with|some p=>_|none=>none
   unfold Up.A;cases hd:u.d with
   |none=>rfl
   |some d=>
    have YK:(t==d)=false:=by simp only[beq_eq_false_iff_ne];intro e;exact hnd t HN (by rw[hd,e])
    simp only[YK,aQ];cases hA:s.A t with
    |none=>rfl
    |some p=>
     have su:qE X Rt (.tmp t)=some p.slot:=by simp only[qE,hL,aQ];exact hs.a t p hA
     have hf:jU u.oH d (some p)=jo d (some p):=by
      cases hi:u.oH with
      |false=>exact yC d _
      |true=>
       obtain⟨d',hd',hL'⟩:=hu.box hi;have mI:d'=d:=by rw[hu.d]at hd;rw[hd]at hd';injection hd' with e;exact e.symm
       subst mI;unfold jU;cases hk:jo d' (some p)with
       |none=>rfl
       |some q=>
        have YH:q=p:=by
         simp only[jo]at hk;cases vq:p.tag with
         |none=>rw[vq]at hk;simpa using hk.symm
         |some g=>
          obtain⟨g,w⟩:=g;rw[vq]at hk;simp only at hk;cases hg:(g==d')
          ·rw[hg]at hk;simpa using hk.symm
          ·rw[hg]at hk;cases hk
        subst YH
        have hne:(q.slot==d')=false:=by
         rw[beq_eq_false_iff_ne];intro e;have:rt X Rt x=some q.slot:=by simp only[rt,Oa];exact su
         exact B6 h.c2 hd' hL' (by rw[this,e])
        simp only[hne,Bool.and_false,aQ]
     rw[hf];simp only[jo];cases vq:p.tag with
     |none=>simp only[vq]
     |some gw=>
      obtain⟨g,w⟩:=gw;simp only;cases hgd:(g==d)
      ·simp only[aQ,vq]
      ·simp only[bh];have WW:g=d:=by simpa using hgd
       have:(tag==some (g,w))=false:=by rw[beq_eq_false_iff_ne];intro e;exact hnd g (ht g w e) (by rw[hd,WW])
       rw[this];cases X.L.contains p.slot<;>rfl
  ·rfl
 ·refine(Gq (λe=>?_) (λb' v hb' e=>?_)).symm
  ·rw[hu.d]at e
   have X8:X.L.contains b=true:=by
    cases hc:X.L.contains b with
    |true=>rfl
    |false=>exfalso;exact Xi hs hb hc
   exact B6 h.c2 e X8 hb
  ·exact Lc h.c2 (hu.bx b' v hb').2 (by rw[←e];exact hb)
 ·show s.σ=u.σ.getD s.σ;cases hs':u.σ with
  |none=>rfl
  |some σ=>
   rcases(B7 h.c2 (hu.σ (by rw[hs'];intro e;cases e))).1 with this|⟨this,_⟩
   ·rw[hr]at this;cases this
   ·rw[vo]at this;cases this
 ·show kM s.σ (u.σ.getD s.σ);cases hs':u.σ with
  |none=>exact uy _
  |some σ=>
   rcases(B7 h.c2 (hu.σ (by rw[hs'];intro e;cases e))).1 with this|⟨_,hf⟩
   ·rw[hr]at this;cases this
   ·exact λid cs=>(YU (by rw[hs'];intro e;cases e) id cs).trans (hu.fr hf σ hs' id cs)
theorem TP{τ AR:Heap}{x y:Oper}(h:qt X Rt Bt ops x y){u v:Up}(hu:mY X Rt Bt x (x.looksAt ops) τ u)(hv:mY X Rt Bt y (y.looksAt ops) AR v):u.My v:=by
 have half:∀{τ AR:Heap}{x y:Oper}{u v:Up},qt X Rt Bt ops x y→mY X Rt Bt x (x.looksAt ops) τ u→mY X Rt Bt y (y.looksAt ops) AR v→(∀b a,u.bx=some (b,a)→(∀c a',v.bx=some (c,a')→c≠b)∧v.d≠some b)∧(∀d,v.d=some d→jU v.oH d u.new=u.new):=by
  intro τ AR x y u v h hu hv;refine⟨λb a hb=>?_,λd hd=>?_⟩
  ·obtain⟨k1,k2⟩:=hu.bx b a hb;refine⟨λc a' hc e=>?_,λe=>?_⟩
   ·have:=(hv.bx c a' hc).2;subst e;exact Lc h.c1 k2 (M4 this)
   ·rw[hv.d]at e;exact B6 h.c2 e k1 (M4 k2)
  ·cases hn:u.new with
   |none=>rfl
   |some p=>
    obtain⟨k1,k2,k3,k4⟩:=hu.new p hn
    have Yy:jo d (some p)=some p:=by
     simp only[jo];cases vq:p.tag with
     |none=>rfl
     |some gw=>
      obtain⟨g,w⟩:=gw;simp only
      have:(g==d)=false:=by rw[beq_eq_false_iff_ne];intro e;rw[hv.d]at hd;exact h.dy d hd (e▸k2 g w vq)
      rw[this];rfl
    unfold jU;rw[Yy];simp only;cases hi:v.oH with
    |false=>rfl
    |true=>
     obtain⟨d',hd',hL'⟩:=hv.box hi;have mI:d'=d:=by rw[hv.d]at hd;rw[hd]at hd';injection hd' with e;exact e.symm
     subst mI
     have:(p.slot==d')=false:=by rw[beq_eq_false_iff_ne];intro e;exact B6 h.c2 hd' hL' (by rw[k3,e])
     simp only[this,Bool.and_false,aQ]
 obtain⟨a1,a2⟩:=half h hu hv;obtain⟨b1,b2⟩:=half h.symm hv hu;refine⟨λd hd e=>?_,a1,b1,a2,b2,?_⟩
 ·rw[hu.d]at hd;rw[hv.d]at e;exact h.dd d hd e
 ·cases hs:u.σ with
  |none=>exact .inl rfl
  |some σ=>
   right;have hw:=hu.σ (by rw[hs];intro e;cases e);have Ak:=(B7 h.c1 hw).2;cases mJ:v.σ with
   |none=>rfl
   |some σ2=>rw[hv.σ (by rw[mJ];intro e;cases e)]at Ak;cases Ak
theorem Kh{o:Oper}{k:AS→Option R}{r:R}(ho:nh X Rt Bt o):∀(l1 l2:List Oper)(s:AS),RI X Rt Bt s→(∀y∈l1,nh X Rt Bt y)→(∀y∈l1,qt X Rt Bt ops y o)→mD X true ops (l1++o::l2) s k=some r→iz X true ops o s (λs1=>mD X true ops (l1++l2) s1 k)=some r
 |[],l2,s,_,_,_,h=>h
 |y::l1,l2,s,hs,hr,hi,h=>by
  simp only[jT,mD]at h;obtain⟨u,u1,u2,u3⟩:=F0 (hr y (by simp)) hs h;have ih:=Kh ho l1 l2 (u.ap s) (u1.ri hs) (λz hz=>hr z (by simp [hz])) (λz hz=>hi z (by simp [hz])) u2;obtain⟨v,v1,v2,v3⟩:=F0 ho (u1.ri hs) ih;have hy:=hi y (by simp)
  have Ym:v.σ≠none→kM s.σ (u.ap s).σ:=λhv=>by
   have YD:u.σ=none:=by
    cases hu:u.σ with
    |none=>rfl
    |some σ=>have hw:=(B7 hy.c1 (u1.σ (by rw[hu];intro e;cases e))).2;rw[v1.σ hv]at hw;cases hw
   show kM s.σ (u.σ.getD s.σ);rw[YD];exact uy _
  rw[v3 R _ s (MN hy.symm u1 s hs (λ_=>uy _)).symm];simp only[jT,mD];rw[u3 R _ (v.ap s) (MN hy v1 s hs Ym),Up.comm (TP hy u1 v1)];exact v2
def Down(ops:Array Oper)(S:Nat→Prop):Prop:=∀i o e,S i→ops[i]? =some o→e∈o.after→Region.binds .any e=true→S e.on
def CL(ops:Array Oper)(i:Nat)(S:Nat→Prop):Prop:=∀o e,ops[i]? =some o→e∈o.after→Region.binds .any e=true→S e.on
theorem KK(acc:List Nat):∀(es:List Edge)(m j:Nat),(es.foldl (λs e=>bif Region.binds .any e then s ||| 2 ^ e.on ||| acc.getD e.on 0 else s) m).testBit j=true→
  m.testBit j=true∨∃e∈es,Region.binds .any e=true∧(e.on=j∨(acc.getD e.on 0).testBit j=true)
 |[],m,j,h=>.inl h
 |e::es,m,j,h=>by
  simp only[List.foldl_cons]at h;rcases KK acc es _ j h with h|⟨e',he',hb,hx⟩
  ·cases hb:Region.binds .any e
   ·rw[hb]at h;exact .inl h
   ·rw[hb]at h;simp only[bh,Nat.testBit_or,Bool.or_eq_true]at h;rcases h with(h|h)|h
    ·exact .inl h
    ·refine .inr ⟨e,by simp,hb,.inl ?_⟩;rw[Nat.testBit_two_pow]at h;simpa using h
    ·exact .inr ⟨e,by simp,hb,.inr h⟩
  ·exact .inr ⟨e',by simp [he'],hb,hx⟩
theorem Kx:∀(l:List Oper)(acc:List Nat),(∀i,l[i]? =ops[acc.length+i]?)→
  (∀(m j:Nat),(acc.getD m 0).testBit j=true→∀S,Down ops S→CL ops m S→S j)→
  ∀(m j:Nat),((Cv l acc).getD m 0).testBit j=true→∀S,Down ops S→CL ops m S→S j
 |[],acc,hl,hacc=>hacc
 |o::l,acc,hl,hacc=>by
  simp only[Cv];refine Kx l _ (λi=>by have:=hl (i+1);simp at this;rw[this];simp;congr 1;omega) ?_;intro m j h S hS hD;have h0:=hl 0;simp at h0;by_cases hm:m<acc.length
  ·rw[List.getD,eG hm]at h;exact hacc m j h S hS hD
  ·by_cases hm2:m=acc.length
   ·subst hm2;rw[List.getD,eC (bH _)]at h;simp only[Nat.sub_self,List.getElem?_cons_zero,Option.getD_some]at h;rcases KK acc _ _ j h with h|⟨e,he,hb,hx⟩
    ·simp at h
    ·have xL:S e.on:=hD o e h0.symm (by simpa using he) hb;rcases hx with hx|hx
     ·exact hx▸xL
     ·exact hacc e.on j hx S hS (λo' e' ho' he' hb'=>hS e.on o' e' xL ho' he' hb')
   ·rw[List.getD,eC (by omega),iZ (by simp;omega)]at h;simp at h
theorem JD{zG:List Nat}:∀(l:List Oper)(i:Nat),(∀j,l[j]? =ops[i+j]?)→Ce X Rt Bt ops zG l i=true→∀n o,i≤n→ops[n]? =some o→∀m y,m<n→ops[m]? =some y→(zG.getD n 0).testBit m=true∨indep X Rt Bt ops y o=true
 |[],i,hl,_,n,o,hn,ho,m,y,hm,hy=>by have:=hl (n-i);rw[show i+(n-i)=n by omega,ho]at this;simp at this
 |x::l,i,hl,h,n,o,hn,ho,m,y,hm,hy=>by
  simp only[Ce,dP]at h;by_cases hni:n=i
  ·subst hni;have h0:=hl 0;simp at h0;rw[ho]at h0;injection h0 with h0;subst h0
   have:=mw.1 h.1 (y,m) (by
    rw[List.mem_zipIdx_iff_getElem?];simp only;rw[List.getElem?_take_of_lt hm,Array.getElem?_toList]
    exact hy)
   simpa using this
  ·exact JD l (i+1) (λj=>by have:=hl (j+1);simp at this;rw[this];congr 1;omega) h.2 n o (by omega) ho m y hm hy
theorem JU:∀(l:List Oper)(i:Nat),(∀j,l[j]? =ops[i+j]?)→Ci l i=true→∀n o e,i≤n→ops[n]? =some o→e∈o.after→Region.binds .any e=true→e.on<n
 |[],i,hl,_,n,o,e,hn,ho,he,hb=>by have:=hl (n-i);rw[show i+(n-i)=n by omega,ho]at this;simp at this
 |x::l,i,hl,h,n,o,e,hn,ho,he,hb=>by
  simp only[Ci,dP]at h;by_cases hni:n=i
  ·subst hni;have h0:=hl 0;simp at h0;rw[ho]at h0;injection h0 with h0;subst h0
   have:=mw.1 h.1 e (by simpa using he);rw[hb]at this;simpa [Nat.blt_eq]using this
  ·exact JU l (i+1) (λj=>by have:=hl (j+1);simp at this;rw[this];congr 1;omega) h.2 n o e (by omega) ho he hb
def kU(listed:Array Bool)(n:Nat):List Nat:=(List.range n).filter λi=>!listed.getD i true
def rG(ops:Array Oper)(listed:Array Bool):List Oper:=(kU listed ops.size).filterMap (ops[·]?)
theorem Sc{listed:Array Bool}{n i:Nat}(hi:i<n)(hl:listed.getD i true=false)(hs:listed.size=n):
  ∃l1 l2,kU listed n=l1++i::l2∧kU (listed.setIfInBounds i true) n=l1++l2∧∀j∈l1,j<i∧listed.getD j true=false:=by
 refine⟨(List.range i).filter λj=>!listed.getD j true,((List.range' (i+1) (n-i-1))).filter λj=>!listed.getD j true,?_,?_,λj hj=>?_⟩
 ·unfold kU
  rw[show List.range n=List.range i++i::List.range' (i+1) (n-i-1) by
   rw[List.range_eq_range',List.range_eq_range',←List.range'_succ,show n-i-1+1=n-i by omega];have:=List.range'_append_1 (s:=0) (m:=i) (n:=n-i);rw[show 0+i=i by omega,show i+(n-i)=n by omega]at this
   exact this.symm]
  rw[List.filter_append,List.filter_cons,hl];simp
 ·unfold kU
  rw[show List.range n=List.range i++i::List.range' (i+1) (n-i-1) by
   rw[List.range_eq_range',List.range_eq_range',←List.range'_succ,show n-i-1+1=n-i by omega];have:=List.range'_append_1 (s:=0) (m:=i) (n:=n-i);rw[show 0+i=i by omega,show i+(n-i)=n by omega]at this
   exact this.symm]
  rw[List.filter_append,List.filter_cons];have lM:(listed.setIfInBounds i true).getD i true=true:=by simp [Array.getD,hs,hi]
  rw[lM];simp only[Bool.not_true,Bool.false_eq_true,if_false];congr 1
  ·apply List.filter_congr;intro j hj;have:j<i:=by simpa using hj
   rw[iY,iY,Array.getElem?_setIfInBounds_ne (by omega)]
  ·apply List.filter_congr;intro j hj;have:i<j:=by simp at hj;omega
   rw[iY,iY,Array.getElem?_setIfInBounds_ne (by omega)]
 ·rw[List.mem_filter]at hj;exact⟨by simpa using hj.1,by simpa using hj.2⟩
end
end
section
open Go.RowKit
section
variable {X : Fx} {z : Z} {s : AS} {a : Act} {w w' : World} {E : List Pl} {pb : Nat → Option Nat} {R : Type}
theorem B3(h:St X z s a w E pb){d:Nat}{av:AV}(ve:s.sl.getD d .undef=av)(h1:av≠.undef)(h2:∀cs,av≠.lbx cs):∃v,a.tmps[d]? =some v∧a.tmps.getD d undef=v∧ak (ctx z w E pb) av v:=by
 by_cases hd:d<s.sl.length
 ·have e:s.sl[d]? =some av:=by rw[bQ hd];rw[←ve];simp [List.getD,hd]
  have r:=(h.slot d av e).rep h2;have hd':d<a.tmps.size:=by rw[h.len];exact hd
  exact⟨a.tmps.getD d undef,by simp [Array.getD,hd'],rfl,r⟩
 ·exact absurd (by rw[←ve];simp [List.getD,Nat.le_of_not_lt hd]) h1
theorem VP(hs:cM X)(h:St X z s a w E pb){q:Bool}{ops:Array Oper}{i:Nat}{o:Oper}(hi:ops[i]? =some o){k:AS→Option R}{r:R}(hk:iz X q ops o s k=some r){K:Act→World→Prop}{Q:Exit→Act→World→Prop}
  (hK:∀s' a' w' E' bk,St X z s' a' w' E' bk→k s'=some r→K a' w'):wpOp X.P ops Q i K a w:=by
 unfold wpOp;rw[hi];simp only;unfold iz at hk;cases hg:o.guard with
 |none=>rw[hg]at hk;rw[aM (by simp [Region.wanted,hg])];exact .inl (Mk hs h hk hK)
 |some jw=>
  obtain⟨j,want⟩:=jw;rw[hg]at hk;simp only at hk;cases hd:(ops[j]?).bind (·.dst)with
  |none=>rw[hd]at hk;cases hk
  |some d=>
   rw[hd]at hk;simp only at hk;cases hL:yI X o d
   ·rw[hL]at hk;simp only[aQ]at hk;have tj:Region.wanted o (yielded ops a.tmps)=(yielded ops a.tmps j==some want):=by simp [Region.wanted,hg]
    have hy:yielded ops a.tmps j=match a.tmps[d]? with|some (.bool b)=>some b|_=>none:=by simp only[yielded,hd,aC];rfl
    cases lW:xh X o with
    |some fa=>
     obtain⟨f,as'⟩:=fa;rw[lW]at hk;simp only at hk;obtain⟨rv,e1,e2⟩:=aY.1 hk;generalize gU:s.sl.getD d .undef=gv at e1;cases gv<;>simp only[A.guard]at e1<;>first|(cases e1;done)|skip
     case bool b=>
      obtain⟨v,v1,v2,v3⟩:=B3 h gU (by intro e;cases e) (by intro cs e;cases e);simp only[ak]at v3;subst v3;cases o9:(b==want)
      ·rw[o9]at e1;simp only[aQ]at e1;injection e1 with e1;subst e1
       have hw:¬Region.wanted o (yielded ops a.tmps)=true:=by rw[tj,hy,v1];simp at o9 ⊢;exact o9
       rw[aK hw];exact hK _ _ _ _ _ (h.undef o.dst) e2
      ·rw[o9]at e1;simp only[bh]at e1;have CT:b=want:=by simpa using o9
       have hw:Region.wanted o (yielded ops a.tmps)=true:=by rw[tj,hy,v1];simp [CT]
       rw[aM hw];exact .inl (Mk (q:=q) hs h (by rw[E8 lW,e1];exact e2) hK)
     case aG vs=>
      cases vs with
      |cons x xs=>cases e1
      |nil=>
       injection e1 with e1;subst e1
       obtain⟨v,v1,v2,v3⟩:=B3 h gU (by intro e;cases e) (by intro cs e;cases e);simp only[ak]at v3;obtain⟨us,rfl,_⟩:=v3;have hw:¬Region.wanted o (yielded ops a.tmps)=true:=by rw[tj,hy,v1];simp
       rw[aK hw];exact hK _ _ _ _ _ (h.undef o.dst) e2
    |none=>
    rw[lW]at hk;simp only at hk;cases hp:fJ X o s (some (d,want))with
    |some p=>
     obtain⟨b,rr⟩:=p;rw[hp]at hk;simp only at hk;obtain⟨off,e1,e2⟩:=aY.1 hk;subst e1;by_cases hw:Region.wanted o (yielded ops a.tmps)=true
     ·rw[aM hw]
      have ht:kN a (some (d,want)):=by
       rw[tj,hy]at hw;simp only[kN];split at hw
       ·rename_i b' hb';simp at hw;subst hw;rw[iY,hb'];rfl
       ·simp at hw
      obtain⟨n,k1,k2⟩:=Mn h ht hp;exact .inl (kK k2 (hK _ _ _ _ _ (h.Gy o.dst (λ_=>⟨n,k1,rfl⟩)) e2))
     ·rw[aK hw];refine hK _ _ _ _ _ (h.Gy o.dst (λht=>absurd ?_ hw)) e2;rw[tj,hy];simp only[kN]at ht;rw[iY]at ht;cases hc:a.tmps[d]? with
      |none=>rw[hc]at ht;simp [undef]at ht
      |some v=>rw[hc]at ht;simp at ht;subst ht;simp
    |none=>
     rw[hp]at hk;simp only at hk;obtain⟨av,e1,e2⟩:=aY.1 hk;generalize gU:s.sl.getD d .undef=gv at e1;cases gv<;>simp only[A.guard]at e1<;>first|(cases e1;done)|skip
     case bool b=>
      obtain⟨v,v1,v2,v3⟩:=B3 h gU (by intro e;cases e) (by intro cs e;cases e);simp only[ak]at v3;subst v3;cases o9:(b==want)
      ·rw[o9]at e1;simp only[aQ]at e1;injection e1 with e1;subst e1
       have hw:¬Region.wanted o (yielded ops a.tmps)=true:=by rw[tj,hy,v1];simp at o9 ⊢;exact o9
       rw[aK hw];exact hK _ _ _ _ _ (h.undef o.dst) e2
      ·rw[o9]at e1;simp only[bh]at e1;have CT:b=want:=by simpa using o9
       have hw:Region.wanted o (yielded ops a.tmps)=true:=by rw[tj,hy,v1];simp [CT]
       rw[aM hw];have ht:kN a (some (d,want)):=by simp only[kN];rw[v2,CT]
       exact .inl (Mo hs h ht e1 λv w' E' h3 h4=>hK _ _ _ _ _ (h3.put o.dst h4) e2)
     case aG vs=>
      cases vs with
      |cons x xs=>cases e1
      |nil=>
       injection e1 with e1;subst e1
       obtain⟨v,v1,v2,v3⟩:=B3 h gU (by intro e;cases e) (by intro cs e;cases e);simp only[ak]at v3;obtain⟨us,rfl,_⟩:=v3;have hw:¬Region.wanted o (yielded ops a.tmps)=true:=by rw[tj,hy,v1];simp
       rw[aK hw];exact hK _ _ _ _ _ (h.undef o.dst) e2
   ·rw[hL]at hk;cases hk
def Fr(X:Fx)(ds:List Nat)(s s':AS):Prop:=∀i,i∉ds→X.L.contains i=false→s'.sl[i]? =s.sl[i]?
theorem Fr.refl(ds:List Nat)(s:AS):Fr X ds s s:=λ_ _ _=>rfl
theorem Fr.trans{d1 d2:List Nat}{s s' s'':AS}(h:Fr X d1 s s')(k:Fr X d2 s' s''):Fr X (d1++d2) s s'':=λi hi hL=>by rw[dg]at hi;exact(k i (λe=>hi (.inr e)) hL).trans (h i (λe=>hi (.inl e)) hL)
theorem Fr.mono{d1 d2:List Nat}{s s':AS}(h:Fr X d1 s s')(k:∀i∈d1,i∈d2):Fr X d2 s s':=λi hi hL=>h i (λe=>hi (k i e)) hL
theorem Fr.put(d:Option Nat)(v:AV)(s:AS):Fr X d.toList s (s.put X d v):=λi hi hL=>by
 cases d with
 |none=>rfl
 |some d=>simp only[AS.put];rw[eS,aK];intro e;subst e;simp at hi
theorem Fr.ij(d:Option Nat)(b off:Nat)(tag:Option (Nat×Bool))(s:AS):Fr X d.toList s (s.ij X d b off tag):=λi hi hL=>by
 cases d with
 |none=>rfl
 |some d=>simp only[AS.ij];rw[eS,aK];intro e;subst e;simp at hi
theorem Fr.ju(d:Nat)(cs:List AV)(s:AS):Fr X [d] s (s.ju d cs):=λi hi hL=>by simp only[AS.ju];rw[eS,aK];intro e;subst e;simp at hi
theorem Fr.jM(d:Option Nat)(v:AV)(σ:Heap)(s:AS):Fr X d.toList s ((s.heap σ).put X d v):=λi hi hL=>by
 cases d with
 |none=>rfl
 |some d=>simp only[AS.put,AS.heap];rw[eS,aK];intro e;subst e;simp at hi
theorem Fr.Vm(d:Option Nat)(v:AV)(b:Nat)(cs:List AV)(hb:X.L.contains b=true)(s:AS):Fr X d.toList s ((⟨s.sl.set b (.lbx cs),s.A,s.σ⟩:AS).put X d v):=λi hi hL=>by
 have Ob:b≠i:=λe=>by rw[e,hL]at hb;cases hb
 cases d with
 |none=>simp only[AS.put];rw[eS,aK Ob]
 |some d=>simp only[AS.put];rw[eS,aK,eS,aK Ob];intro e;subst e;simp at hi
theorem UO{tag:Option (Nat×Bool)}{x:Operand}{b off:Nat}(h:place X s tag x=some (b,off)):X.L.contains b=true:=by
 cases x with
 |tmp t=>
  simp only[place]at h;cases hL:X.L.contains t
  ·rw[hL]at h;simp only[aQ]at h;split at h
   ·rename_i p hA;cases hp:X.L.contains p.slot
    ·rw[hp]at h;cases h
    ·rw[hp]at h;simp only[bh]at h;split at h
     ·simp only[Option.some.injEq,Prod.mk.injEq]at h;rw[←h.1];exact hp
     ·rename_i g hg;cases ht:(tag==some g)
      ·rw[ht]at h;cases h
      ·rw[ht]at h;simp only[bh,Option.some.injEq,Prod.mk.injEq]at h;rw[←h.1];exact hp
   ·cases h
  ·rw[hL]at h;simp only[bh,Option.some.injEq,Prod.mk.injEq]at h;rw[←h.1];exact hL
 |_=>simp [place]at h
theorem bind_congr{α β:Type}{x:Option α}{f g:α→Option β}(h:∀a,x=some a→f a=g a):x.bind f=x.bind g:=by cases x with|none=>rfl|some a=>exact h a rfl
theorem RM{x:AV}{σ:Heap}{f g:Nat→Heap→Option R}(h:∀n σ,f n σ=g n σ):A.n7 x σ f=A.n7 x σ g:=by
 have:f=g:=funext λn=>funext λσ=>h n σ
 rw[this]
theorem Rr{x:AV}{σ:Heap}{f g:AV→Heap→Option R}(h:∀v σ,f v σ=g v σ):A.tu x σ f=A.tu x σ g:=by
 have:f=g:=funext λn=>funext λσ=>h n σ
 rw[this]
theorem R5{q str:Bool}{i:Operand}{dst:Option Nat}{k k2:AS→Option R}(h:∀s',Fr X dst.toList s s'→k s'=k2 s'):
  (bif q||str then none else A.tu (ev X s i) s.σ λv σ=>k ((s.heap σ).put X dst v))=(bif q||str then none else A.tu (ev X s i) s.σ λv σ=>k2 ((s.heap σ).put X dst v)):=by
 cases(q||str)
 ·simp only[aQ];exact Rr λ_ _=>h _ (Fr.jM _ _ _ _)
 ·rfl
theorem SS{q:Bool}{o:Oper}{k k2:AS→Option R}(h:∀s',Fr X o.dst.toList s s'→k s'=k2 s'):dH X q o s k=dH X q o s k2:=by
 unfold dH;cases hp:fJ X o s none with
 |some p=>obtain⟨b,rr⟩:=p;exact bind_congr λp _=>h _ (Fr.ij _ _ _ _ _)
 |none=>
  simp only;have dflt:((dz X o s none).bind λv=>k (s.put X o.dst v))=(dz X o s none).bind λv=>k2 (s.put X o.dst v):=bind_congr λv _=>h _ (Fr.put _ _ _)
  obtain⟨dst,op,ty,pos,af,g⟩:=o;cases op<;>simp only<;>first|exact R5 h|exact dflt|skip
  case alloc t=>
   cases dst with
   |none=>rfl
   |some d=>
    simp only;cases X.L.contains d
    ·simp only[aQ];cases X.O.contains d
     ·exact dflt
     ·simp only[bh];split
      ·exact h _ (Fr.jM _ _ _ _)
      ·rfl
    ·simp only[bh];split
     ·exact h _ (Fr.ju _ _ _)
     ·rfl
  case box t x=>
   cases dst with
   |none=>rfl
   |some d=>
    simp only;cases X.L.contains d
    ·simp only[aQ];cases X.O.contains d
     ·exact dflt
     ·exact bind_congr λcs _=>h _ (Fr.jM _ _ _ _)
    ·exact bind_congr λcs _=>h _ (Fr.ju _ _ _)
  case store t x v=>
   split
   ·rename_i b off hpl;exact bind_congr λ_ _=>bind_congr λ_ _=>bind_congr λ_ _=>h _ (Fr.Vm _ _ _ _ (UO hpl) _)
   ·exact bind_congr λ_ _=>bind_congr λ_ _=>h _ (Fr.jM _ _ _ _)
  case makeMap t rr=>
   cases rr with
   |none=>exact h _ (Fr.jM _ _ _ _)
   |some x=>rfl
  case range t x=>
   split
   ·exact bind_congr λ_ _=>h _ (Fr.jM _ _ _ _)
   ·rfl
  case buildSlice t n ps=>
   cases dst with
   |none=>exact dflt
   |some d=>
    simp only;cases X.O.contains d
    ·exact dflt
    ·simp only[bh];refine bind_congr λv _=>?_
     unfold A.xz;split
     ·cases(List.length _==0)
      ·exact h _ (Fr.jM _ _ _ _)
      ·rfl
     ·rfl
  case mapUpdate t m i v=>
   split
   ·split
    ·exact bind_congr λ_ _=>h _ (Fr.jM _ _ _ _)
    ·rfl
   ·rfl
  case call c=>
   split
   ·split
    ·split
     ·split
      ·cases iF _
       ·exact bind_congr λ_ _=>h _ (Fr.jM _ _ _ _)
       ·rfl
      ·rfl
     ·split
      ·cases iF _
       ·exact bind_congr λ_ _=>h _ (Fr.jM _ _ _ _)
       ·rfl
      ·rfl
     ·rfl
    ·rfl
   ·split
    ·split
     ·split
      ·cases iF _
       ·exact bind_congr λ_ _=>h _ (Fr.jM _ _ _ _)
       ·rfl
      ·rfl
     ·rfl
    ·rfl
   ·cases hv:dz X _ s none
    ·simp only[A.mz];cases q
     ·simp only[aQ];split
      ·split
       ·exact RM λ_ _=>h _ (Fr.jM _ _ _ _)
       ·rfl
      ·rfl
     ·rfl
    ·exact h _ (Fr.put _ _ _)
   ·split
    ·split
     ·split
      ·cases iF _
       ·exact bind_congr λ_ _=>h _ (Fr.jM _ _ _ _)
       ·rfl
      ·rfl
     ·rfl
    ·rfl
   ·split
    ·split
     ·split
      ·exact bind_congr λ_ _=>h _ (Fr.jM _ _ _ _)
      ·rfl
     ·rfl
    ·rfl
   ·exact dflt
   ·cases(q&&!X.W.contains _)
    ·exact bind_congr λ_ _=>h _ (Fr.jM _ _ _ _)
    ·exact dflt
   ·cases q
    ·exact bind_congr λ_ _=>h _ (Fr.jM _ _ _ _)
    ·exact dflt
   ·rfl
theorem SU{q:Bool}{ops:Array Oper}{o:Oper}{k k2:AS→Option R}(h:∀s',Fr X o.dst.toList s s'→k s'=k2 s'):iz X q ops o s k=iz X q ops o s k2:=by
 unfold iz;split
 ·exact SS h
 ·split
  ·cases yI X o _
   ·simp only[aQ];split
    ·exact bind_congr λ_ _=>h _ (Fr.jM _ _ _ _)
    ·split
     ·exact bind_congr λ_ _=>h _ (Fr.ij _ _ _ _ _)
     ·exact bind_congr λ_ _=>h _ (Fr.put _ _ _)
   ·rfl
  ·rfl
theorem LC(hs:cM X)(h:St X z s a w E pb){q:Bool}{ops:Array Oper}{i:Nat}{o:Oper}(hi:ops[i]? =some o){k:AS→Option R}{r:R}(hk:iz X q ops o s k=some r){K:Act→World→Prop}{Q:Exit→Act→World→Prop}
  (hK:∀s' a' w' E' bk,St X z s' a' w' E' bk→Fr X o.dst.toList s s'→k s'=some r→K a' w'):wpOp X.P ops Q i K a w:=by
 classical
 have e:iz X q ops o s k=iz X q ops o s (λs'=>if Fr X o.dst.toList s s' then k s' else none):=SU λs' hf=>by rw[aM hf]
 rw[e]at hk;refine VP hs h hi hk λs' a' w' E' bk h' hk'=>?_
 split at hk'
 ·exact hK s' a' w' E' bk h' (by assumption) hk'
 ·cases hk'
theorem LG(hs:cM X){q:Bool}{ops:Array Oper}{Q:Exit→Act→World→Prop}{r:R}{k:AS→Option R}{s0:AS}:
  ∀(l:List Oper)(i:Nat)(s:AS)(a:Act)(w:World)(E:List Pl)(pb:Nat→Option Nat),(∀j,l[j]? =ops[i+j]?)→St X z s a w E pb→mD X q ops l s k=some r→
   (∀s' a' w' E' bk,St X z s' a' w' E' bk→Fr X (l.filterMap (·.dst)) s s'→k s'=some r→Q .normal a' w')→wpOps X.P ops Q (List.range' i l.length) a w
 |[],i,s,a,w,E,pb,_,h,hk,hQ=>by simpa [wpOps]using hQ _ _ _ _ _ h (Fr.refl _ _) hk
 |o::l,i,s,a,w,E,pb,hl,h,hk,hQ=>by
  have h0:=hl 0;simp at h0;simp only[List.length_cons,List.range'_succ];rw[wpOps_cons];refine LC hs h h0.symm hk λs' a' w' E' bk h' hf hk'=>?_
  refine LG hs (s0:=s0) l (i+1) s' a' w' E' bk (λj=>by have:=hl (j+1);simp at this;rw[this];congr 1;omega) h' hk' λs2 a2 w2 E2 HX h2 vi hk2=>hQ s2 a2 w2 E2 HX h2 ((hf.trans vi).mono ?_) hk2
  intro j hj;rw[List.filterMap_cons];cases hd:o.dst with
  |none=>rw[hd]at hj;simpa using hj
  |some d=>rw[hd]at hj;simpa using hj
theorem UL(hs:cM X){Rt:List (Nat×Nat)}{Bt:List Nat}(h:St X z s a w E pb)(hI:RI X Rt Bt s){ops:Array Oper}{i:Nat}{o:Oper}(hR:nh X Rt Bt o)(hi:ops[i]? =some o){k:AS→Option R}{r:R}(hk:iz X true ops o s k=some r){K:Act→World→Prop}{Q:Exit→Act→World→Prop}
  (hK:∀s' a' w' E' bk,St X z s' a' w' E' bk→Fr X o.dst.toList s s'→RI X Rt Bt s'→k s'=some r→K a' w'):wpOp X.P ops Q i K a w:=by
 classical
 have e:iz X true ops o s (λs'=>if RI X Rt Bt s' then k s' else none)=some r:=by obtain⟨u,h1,h2,h3⟩:=F0 hR hI hk;rw[h3 R _ s (λtag _=>⟨hI,hI,λ_ _ _=>rfl,λ_ _=>rfl,λ_ _=>rfl,λ_ _=>rfl,λ_ _=>uy _⟩),aM (h1.ri hI)];exact h2
 refine LC hs h hi e λs' a' w' E' bk h' hf hk'=>?_
 split at hk'
 ·exact hK s' a' w' E' bk h' hf (by assumption) hk'
 ·cases hk'
theorem Tl(hs:cM X){Rt:List (Nat×Nat)}{Bt:List Nat}{ops:Array Oper}{Q:Exit→Act→World→Prop}{r:R}{k:AS→Option R}{s0:AS}(Gf:∀n o e,ops[n]? =some o→e∈o.after→Region.binds .any e=true→e.on<n)
  (Wf:∀n o m y,ops[n]? =some o→m<n→ops[m]? =some y→(∀S,Down ops S→CL ops n S→S m)∨qt X Rt Bt ops y o) (GF:∀(n:Nat)(o:Oper),ops[n]? =some o→nh X Rt Bt o)
  (hQ:∀s' a' w' E' bk,St X z s' a' w' E' bk→Fr X (ops.toList.filterMap (·.dst)) s0 s'→k s'=some r→Q .normal a' w'):
  ∀(fuel:Nat)(listed:Array Bool)(s:AS)(a:Act)(w:World)(E:List Pl)(pb:Nat→Option Nat),listed.size=ops.size→(kU listed ops.size).length≤fuel→Down ops (λi=>listed.getD i true=true)→St X z s a w E pb→RI X Rt Bt s→mD X true ops (rG ops listed) s k=some r→Fr X (ops.toList.filterMap (·.dst)) s0 s→
   wpAny X.P .any ops Q fuel listed a w:=by
 have hnone:∀(listed:Array Bool),kU listed ops.size=[]→Region.ready .any ops listed=[]:=by intro listed h;unfold Region.ready;rw[List.filter_eq_nil_iff];intro i hi hr;simp only[dP]at hr;have:i∈kU listed ops.size:=List.mem_filter.2 ⟨hi,hr.1⟩;rw[h]at this;simp at this
 have hsome:∀(listed:Array Bool),listed.size=ops.size→Region.ready .any ops listed=[]→kU listed ops.size=[]:=by
  intro listed hsz hr;cases oR:kU listed ops.size with
  |nil=>rfl
  |cons i0 tl=>
   exfalso;have hm:i0∈kU listed ops.size:=by rw[oR];simp
   obtain⟨h1,h2⟩:=List.mem_filter.1 hm;have hlt:i0<ops.size:=by simpa using h1
   have Oj:(kU listed ops.size).Pairwise (·<·):=List.Pairwise.filter _ List.pairwise_lt_range;rw[oR,List.pairwise_cons]at Oj
   have hall:∀j,j<i0→listed.getD j true=true:=by
    intro j hj;cases hc:listed.getD j true with
    |true=>rfl
    |false=>
     have:j∈kU listed ops.size:=List.mem_filter.2 ⟨by simp;omega,by simp [hc]⟩;rw[oR]at this;rcases dc.1 this with e|e
     ·omega
     ·have:=Oj.1 j e;omega
   have:i0∈Region.ready .any ops listed:=by
    unfold Region.ready;refine List.mem_filter.2 ⟨h1,?_⟩;rw[dP];refine⟨h2,?_⟩;rw[oL hlt];simp only[dN,Option.getD_some];rw[Array.all_eq_true_iff_forall_mem];intro e he;cases hb:Region.binds .any e with
    |false=>rfl
    |true=>have xL:=Gf i0 _ e (oL hlt) he hb;have:=hall e.on xL;rw[iY,oL (by omega)]at this;simp only[Option.getD_some]at this;rw[iY,oL (by omega)];simp [this]
   rw[hr]at this;simp at this
 intro fuel;induction fuel with
 |zero=>intro listed s a w E pb hsz hle hdn h hI hk hf;have oR:kU listed ops.size=[]:=tE (by omega);refine⟨hnone listed oR,hQ s a w E pb h hf ?_⟩;simpa [rG,oR,mD]using hk
 |succ fuel ih=>
  intro listed s a w E pb hsz hle hdn h hI hk hf;refine⟨λhr=>hQ s a w E pb h hf (by simpa [rG,hsome listed hsz hr,mD]using hk),λi hi=>?_⟩;unfold Region.ready at hi;obtain⟨h1,h2⟩:=List.mem_filter.1 hi;rw[dP]at h2;obtain⟨h2,h3⟩:=h2;have hlt:i<ops.size:=by simpa using h1
  have hun:listed.getD i true=false:=by simpa using h2
  have ho:ops[i]? =some ops[i]:=oL hlt
  have MR:CL ops i (λj=>listed.getD j true=true):=by intro o e Oh he hb;rw[Oh]at h3;simp only[dN,Option.getD_some]at h3;rw[Array.all_eq_true_iff_forall_mem]at h3;have h4:=h3 e he;rw[hb]at h4;simp only[Bool.not_true,Bool.false_or]at h4;have xL:=Gf i o e Oh he hb;rw[iY,oL (by omega)]at h4;simp only[Option.getD_some]at h4;show listed.getD e.on true=true;rw[iY,oL (by omega)];simpa using h4
  obtain⟨l1,l2,e1,e2,e3⟩:=Sc hlt hun hsz
  have oR:rG ops listed=l1.filterMap (ops[·]?)++ops[i]::l2.filterMap (ops[·]?):=by unfold rG;rw[e1,List.filterMap_append,List.filterMap_cons,ho]
  have Wh:rG ops (listed.setIfInBounds i true)=l1.filterMap (ops[·]?)++l2.filterMap (ops[·]?):=by unfold rG;rw[e2,List.filterMap_append]
  rw[oR]at hk
  have W6:∀y∈l1.filterMap (ops[·]?),nh X Rt Bt y:=by intro y hy;obtain⟨j,hj,HE⟩:=List.mem_filterMap.1 hy;exact GF j y HE
  have WY:∀y∈l1.filterMap (ops[·]?),qt X Rt Bt ops y ops[i]:=by
   intro y hy;obtain⟨j,hj,HE⟩:=List.mem_filterMap.1 hy;obtain⟨j1,j2⟩:=e3 j hj;rcases Wf i ops[i] j y ho j1 HE with k1|k1
   ·have:=k1 _ hdn MR;rw[j2]at this;cases this
   ·exact k1
  have Vw:=Kh (GF i _ ho) _ _ s hI W6 WY hk;refine UL hs h hI (GF i _ ho) ho Vw λs' a' w' E' bk h' hf' Hv hk'=>?_
  rw[←Wh]at hk';refine ih _ s' a' w' E' bk (by simpa using hsz) ?_ ?_ h' Hv hk' ((hf.trans hf').mono ?_)
  ·rw[e2];rw[e1]at hle;simp at hle ⊢;omega
  ·intro j o e hj HI he hb;by_cases hji:j=i
   ·subst hji;have:=MR o e HI he hb;show(listed.setIfInBounds j true).getD e.on true=true;have xL:=Gf j o e HI he hb;rw[iY,Array.getElem?_setIfInBounds_ne (by omega),←iY];exact this
   ·have hj':listed.getD j true=true:=by replace hj:(listed.setIfInBounds i true).getD j true=true:=hj;rw[iY,Array.getElem?_setIfInBounds_ne (λe=>hji e.symm),←iY]at hj;exact hj
    have:=hdn j o e hj' HI he hb;show(listed.setIfInBounds i true).getD e.on true=true;by_cases Oe:e.on=i
    ·rw[Oe];simp [Array.getD,hsz,hlt]
    ·rw[iY,Array.getElem?_setIfInBounds_ne (λe'=>Oe e'.symm),←iY];exact this
  ·intro d hd;rcases dg.1 hd with hd|hd
   ·exact hd
   ·refine List.mem_filterMap.2 ⟨ops[i],by simp,?_⟩;cases mI:ops[i].dst with
    |none=>rw[mI]at hd;simp at hd
    |some d'=>rw[mI]at hd;simp at hd;rw[hd]
theorem EL{t b:Nat}:∀{l:List (Nat×Nat)},l.lookup t=some b→(t,b)∈l
 |[],h=>by cases h
 |(t',b')::l,h=>by
  simp only[List.lookup]at h;cases hc:(t==t')
  ·rw[hc]at h;exact ru _ (EL h)
  ·rw[hc]at h;simp only[Option.some.injEq]at h;have:t=t':=by simpa using hc
   subst this;subst h;exact List.mem_cons_self
theorem Uc(hs:cM X){ops:Array Oper}{Q:Exit→Act→World→Prop}{r:R}{k:AS→Option R}(hok:yO X ops s.sl=true)(hA:∀t,s.A t=none)(hQ:∀s' a' w' E' bk,St X z s' a' w' E' bk→Fr X (ops.toList.filterMap (·.dst)) s s'→k s'=some r→Q .normal a' w'){id:Nat}
  (h:St X z s a w E pb) (hk:mD X true ops ops.toList s k=some r):(Code.region id ops true).wp X.P Q a w:=by
 obtain⟨Rt,Bt,hok⟩:∃Rt Bt,BM X Rt Bt ops s.sl=true:=by
  unfold yO at hok;rcases Bool.or_eq_true_iff.1 hok with h|h
  ·exact⟨_,_,h⟩
  ·exact⟨_,_,h⟩
 unfold BM at hok;simp only[dP]at hok;obtain⟨⟨⟨⟨⟨⟨⟨h1,h2⟩,h3⟩,h4⟩,h5⟩,h6⟩,h7⟩,h8⟩:=hok
 have hI:RI X Rt Bt s:=by
  refine⟨λt b hl=>?_,λt p hp=>(by rw[hA t]at hp;cases hp),λt b hl _=>?_,λt ht=>mw.1 h8 t (by simpa using ht)⟩
  ·have:=mw.1 h6 (t,b) (EL hl);exact this
  ·have:=mw.1 h5 (t,b) (EL hl);exact this
 have MT:∀j,ops.toList[j]? =ops[0+j]? :=λj=>by simp
 have oR:kU (Array.replicate ops.size false) ops.size=List.range ops.size:=by
  unfold kU;rw[List.filter_eq_self];intro i hi;have:i<ops.size:=by simpa using hi
  simp [Array.getD,this]
 have Wi:rG ops (Array.replicate ops.size false)=ops.toList:=by
  unfold rG;rw[oR]
  have gen:∀(l pre:List Oper),(List.range' pre.length l.length).filterMap (λi=>(pre++l)[i]?)=l:=by
   intro l;induction l with
   |nil=>intro pre;rfl
   |cons x l ih=>intro pre;simp only[List.length_cons,List.range'_succ,List.filterMap_cons];rw[eC (bH _)];simp only[Nat.sub_self,List.getElem?_cons_zero];have:=ih (pre++[x]);simp only[List.length_append,List.length_cons,List.length_nil,Nat.zero_add,gl,jT,List.nil_append]at this;rw[this]
  have:=gen ops.toList [];rw[List.range_eq_range'];simpa using this
 refine wp_region_any h1 (Tl (s0:=s) hs (λn o e ho he hb=>JU ops.toList 0 MT h2 n o e (kQ _) ho he hb) (λn o m y ho hm hy=>?_) (λn o ho=>nh.of (mw.1 h4 o (by have:=Array.mem_of_getElem? ho;simpa using this)) (mw.1 h7 o (by have:=Array.mem_of_getElem? ho;simpa using this))) hQ ops.size _ s a _ E pb (by simp) (by rw[oR];simp) ?_ (h.grow (w':=w.drew) ((Below.refl _ _).drew)) hI (by rw[Wi];exact hk) (Fr.refl _ _))
 ·rcases JD ops.toList 0 MT h3 n o (kQ _) ho m y hm hy with k1|k1
  ·left;exact λS hS hD=>Kx ops.toList [] (λi=>by simp) (λm j h=>by simp at h) n m k1 S hS hD
  ·exact .inr (SL k1)
 ·intro i o e hi ho he hb;have hlt:i<ops.size:=(qh.1 ho).1;exfalso;simp [Array.getD,hlt]at hi
theorem St.HU(h:St X z s a w E pb):St X z ⟨s.sl,λ_=>none,s.σ⟩ a w E pb:=
 ⟨h.len,h.kT,h.slot,h.box,(λt p hp=>by cases hp),h.priv,h.inj,h.heap,h.defers,h.out,h.nm⟩
def AX.to:AX→Exit
 |.normal=>.normal
 |.exit i=>.exit i
 |.ret=>.ret
theorem Bl:∀(ds:List Nat)(sl:List AV)(i:Nat),(oD sl ds).length=sl.length∧((oD sl ds)[i]? =sl[i]? ∨(oD sl ds)[i]? =some .undef)∧(i∉ds→(oD sl ds)[i]? =sl[i]?)∧(i∈ds→i<sl.length→(oD sl ds)[i]? =some .undef)
 |[],sl,i=>⟨rfl,.inl rfl,λ_=>rfl,λh=>by simp at h⟩
 |d::ds,sl,i=>by
  obtain⟨h1,h2,h3,h4⟩:=Bl ds (sl.set d .undef) i;simp only[oD]
  have lM:(sl.set d .undef)[i]? =if d=i then(if i<sl.length then some .undef else none)else sl[i]? :=by
   rw[eS];by_cases e:d=i
   ·subst e;simp
   ·simp [e]
  have hnone:¬i<sl.length→sl[i]? =none:=λk=>iZ (by omega)
  refine⟨by rw[h1];simp,?_,λhi=>?_,λhi hl=>?_⟩
  ·rcases h2 with h2|h2
   ·rw[h2,lM];by_cases e:d=i
    ·rw[aM e];split
     ·exact .inr rfl
     ·rename_i k;rw[hnone k];exact .inl rfl
    ·rw[aK e];exact .inl rfl
   ·exact .inr h2
  ·simp only[dc,not_or]at hi;rw[h3 hi.2,lM,aK (λe=>hi.1 e.symm)]
  ·by_cases hm:i∈ds
   ·exact h4 hm (by simpa using hl)
   ·simp only[dc]at hi;have:i=d:=hi.resolve_right hm;rw[h3 hm,lM,aM this.symm,aM hl]
theorem BD(vs:List AV):∀(live:List Nat)(j:Nat)(sl:List AV)(i:Nat),(w5 vs sl live j).length=sl.length∧(i∉live→(w5 vs sl live j)[i]? =sl[i]?)∧(i∈live→i<sl.length→∃n,n<live.length∧live[n]? =some i∧(w5 vs sl live j)[i]? =some (vs.getD (j+n) .undef))
 |[],j,sl,i=>⟨rfl,λ_=>rfl,λh=>by simp at h⟩
 |d::live,j,sl,i=>by
  obtain⟨h1,h2,h3⟩:=BD vs live (j+1) (sl.set d (vs.getD j .undef)) i;simp only[w5];refine⟨by rw[h1];simp,λhi=>?_,λhi hl=>?_⟩
  ·simp only[dc,not_or]at hi;rw[h2 hi.2,eS,aK (λe=>hi.1 e.symm)]
  ·by_cases hm:i∈live
   ·obtain⟨n,k1,k2,k3⟩:=h3 hm (by simpa using hl);exact⟨n+1,by simp;omega,by simpa using k2,by rw[k3];congr 2;omega⟩
   ·simp only[dc]at hi;have:i=d:=hi.resolve_right hm;subst this;exact⟨0,by simp,rfl,by rw[h2 hm,eS];simp [hl]⟩
theorem St.meet{s s':AS}(h:St X z s' a w E pb){mods live:List Nat}(hl:s.sl.length=s'.sl.length)(hf:∀i,i∉mods→s'.sl[i]? =s.sl[i]?):St X z (s.meet mods live (vals s'.sl live) s'.σ) a w E pb:=by
 have gE:∀i:Nat,(s.meet mods live (vals s'.sl live) s'.σ).sl[i]? =s'.sl[i]? ∨(s.meet mods live (vals s'.sl live) s'.σ).sl[i]? =some AV.undef:=by
  intro i;simp only[AS.meet];obtain⟨c1,c2,c3,c4⟩:=Bl mods s.sl i;obtain⟨m1,m2,m3⟩:=BD (vals s'.sl live) live 0 (oD s.sl mods) i;by_cases hm:i∈live
  ·by_cases hlt:i<s.sl.length
   ·obtain⟨n,k1,k2,k3⟩:=m3 hm (by rw[c1];exact hlt);left;rw[k3,Nat.zero_add]
    have:(vals s'.sl live).getD n .undef=s'.sl.getD i .undef:=by simp only[vals,List.getD,xj,k2];rfl
    rw[this,bQ (by omega)];simp [List.getD,show i<s'.sl.length by omega]
   ·left;rw[iZ (by rw[m1,c1];omega),iZ (by omega)]
  ·rw[m2 hm];by_cases hd:i∈mods
   ·by_cases hlt:i<s.sl.length
    ·exact .inr (c4 hd hlt)
    ·left;rw[iZ (by rw[c1];omega),iZ (by omega)]
   ·left;rw[c3 hd,hf i hd]
 have hlen:(s.meet mods live (vals s'.sl live) s'.σ).sl.length=s'.sl.length:=by simp only[AS.meet];rw[(BD (vals s'.sl live) live 0 (oD s.sl mods) 0).1,(Bl mods s.sl 0).1];exact hl
 refine⟨by rw[h.len,hlen],by rw[hlen,h.kT],λi av hi=>?_,λi cs hi=>?_,(λt p hp=>by cases hp),h.priv,h.inj,h.heap,h.defers,h.out,h.nm⟩
 ·rcases gE i with e|e
  ·rw[e]at hi;exact h.slot i av hi
  ·rw[e]at hi;injection hi with hi;subst hi;trivial
 ·rcases gE i with e|e
  ·rw[e]at hi;exact h.box i cs hi
  ·rw[e]at hi;cases hi
end
end
section
open Go.RowKit
section
variable {X : Fx} {z : Z}
theorem force_eq{R:Type}:∀(l:List AV)(k:List AV→Option R),force l k=k l
 |[],k=>rfl
 |x::l,k=>by simp only[force];rw[force_eq l]
theorem LH{R:Type}{q:Bool}{ops:Array Oper}:∀(l:List Oper)(s:AS)(k:AS→Option R),zB X q ops l s k=mD X q ops l s k
 |[],s,k=>rfl
 |o::l,s,k=>by simp only[zB,mD];congr 1;funext s;rw[force_eq];exact LH l _ k
theorem JW{α:Type}{c:AV}{t e:Option α}{r:α}(h:A.cond c t e=some r):(c=.bool true∧t=some r)∨(c=.bool false∧e=some r):=by
 cases c<;>simp only[A.cond]at h<;>first|(cases h;done)|skip
 rename_i b;cases b
 ·exact .inr ⟨rfl,h⟩
 ·exact .inl ⟨rfl,h⟩
theorem SP{f:List AV→Heap→Option (AX×List AV×Heap)}{v:List AV}{σ:Heap}{r:AX×List AV×Heap}(h:A.loop f v σ=some r):∃n,A.iter f n v σ=some r:=by
 unfold A.loop at h;split at h
 ·rename_i hx;injection h with h
  exact⟨_,h▸Classical.choose_spec (Classical.choose_spec hx)⟩
 ·cases h
theorem RZ{R:Type}{f:List AV→Heap→(AX×List AV×Heap→Option R)→Option R}{v:List AV}{σ:Heap}{K:AX×List AV×Heap→Option R}{r:R}(h:A.Gm f v σ K=some r):∃n,A.zi f n v σ K=some r:=by
 unfold A.Gm at h;split at h
 ·rename_i hx;injection h with h
  obtain⟨n,hn⟩:=Classical.choose_spec hx;exact⟨n,h▸hn n (bH _)⟩
 ·cases h
theorem B2{R:Type}{e:AX}{k:AX→Option R}{r:R}:∀{xs:List AX},A.sel e k xs=some r→k e=some r
 |[],h=>by cases h
 |x::xs,h=>by
  simp only[A.sel]at h;cases he:(e==x)
  ·rw[he]at h;exact B2 h
  ·rw[he]at h;have:e=x:=by simpa using he
   subst this;exact h
theorem wL{X:Fx}{c:Code}{ds:List Nat}{s s':AS}(h:Fr X ds s s'):∀i,i∉ds++X.L→s'.sl[i]? =s.sl[i]? :=λi hi=>by
 rw[dg]at hi
 exact h i (λe=>hi (.inl e)) (by
  cases hc:X.L.contains i
  ·rfl
  ·exact absurd (List.contains_iff_mem.1 hc) (λe=>hi (.inr e)))
theorem sU{X:Fx}{s:AS}{ds live:List Nat}{vs:List AV}{σ:Heap}(hl:(live.all λd=>(ds++X.L).contains d)=true):Fr X ds s (s.meet (ds++X.L) live vs σ):=λi hi hL=>by
 have hni:i∉ds++X.L:=by
  rw[dg];rintro(e|e)
  ·exact hi e
  ·rw[List.contains_iff_mem.2 e]at hL;cases hL
 simp only[AS.meet];rw[(BD vs live 0 (oD s.sl (ds++X.L)) i).2.1 (λe=>hni ?_),(Bl (ds++X.L) s.sl i).2.2.1 hni];exact List.contains_iff_mem.1 (mw.1 hl i e)
theorem Jj{live:List Nat}{e:AX}{s:AS}{r:List AV×Heap}(h:Cp live e s=some r):e=.normal∧r=(vals s.sl live,s.σ):=by cases e<;>simp only[Cp]at h<;>first|(cases h;done)|(injection h with h;exact⟨rfl,h.symm⟩)
theorem Lw{P:Program}{c:Code}{Q:Exit→Act→World→Prop}(I:Nat→Act→World→Prop)(round:∀n a w,I n a w→c.wp P (Exit.then (λa' w'=>∃m,m<n∧I m a' w') Q) a w) {n:Nat} {a:Act} {w:World} (h:I n a w):(Code.loop c).wp P Q a w:=by
 intro b k cs
 have key:∀n a w,I n a w→∃e a' w',Q e a' w'∧Arrives P (lone (b.at a (.code c::.inLoop c::k)) cs w) b k cs e a' w':=by
  intro n;induction n using Nat.strongRecOn with
  |_ n ih=>
   intro a w hI;obtain⟨e,a1,w1,hq,tK⟩:=round n a w hI b (.inLoop c::k) cs;cases e with
   |normal=>obtain⟨m,hlt,hm⟩:=hq;obtain⟨e2,a2,w2,uc,V6⟩:=ih m hlt a1 w1 hm;exact⟨e2,a2,w2,uc,.of_steps (Steps.trans tK (.one step_inLoop)) V6⟩
   |exit id=>exact⟨_,a1,w1,hq,.pass (x:=.inLoop c) rfl (λ_ _=>.inl (by simp)) tK⟩
   |goto l=>exact⟨_,a1,w1,hq,.pass (x:=.inLoop c) rfl (λ_ _=>.inl (by simp)) tK⟩
   |ret=>exact⟨_,a1,w1,hq,.pass (x:=.inLoop c) rfl (λ_ _=>.inl (by simp)) tK⟩
   |panic ch=>exact⟨_,a1,w1,hq,.pass (x:=.inLoop c) rfl (λ_ _=>.inl (by simp)) tK⟩
   |outgrown=>exact⟨_,a1,w1,hq,.pass (x:=.inLoop c) rfl (λ_ _=>.inl (by simp)) tK⟩
 obtain⟨e,a',w',hq,tK⟩:=key n a w h;exact⟨e,a',w',hq,.of_steps (.one step_loop) tK⟩
theorem pS(hs:cM X):∀(c:Code){R:Type}(bz:ig)(s:AS)(a:Act)(w:World)(E:List Pl)(pb:Nat→Option Nat)(k:AX→AS→Option R)(r:R)(Q:Exit→Act→World→Prop),exec X bz c s k=some r→St X z s a w E pb→
  (∀e s' a' w' E' bk,St X z s' a' w' E' bk→Fr X (cL c) s s'→k e s'=some r→Q e.to a' w')→c.wp X.P Q a w
 |.skip,R,bz,s,a,w,E,pb,k,r,Q,hk,h,hQ=>by
  have hk':k .normal s=some r:=by cases bz<;>simpa [exec]using hk
  exact wp_skip (hQ .normal s a w E pb h (Fr.refl _ _) hk')
 |.label l,R,bz,s,a,w,E,pb,k,r,Q,hk,h,hQ=>by
  have hk':k .normal s=some r:=by cases bz<;>simpa [exec]using hk
  exact wp_label (hQ .normal s a w E pb h (Fr.refl _ _) hk')
 |.exit id,R,bz,s,a,w,E,pb,k,r,Q,hk,h,hQ=>by
  have hk':k (.exit id) s=some r:=by cases bz<;>simpa [exec]using hk
  exact wp_exit (hQ (.exit id) s a w E pb h (Fr.refl _ _) hk')
 |.ret,R,bz,s,a,w,E,pb,k,r,Q,hk,h,hQ=>by
  have hk':k .ret s=some r:=by cases bz<;>simpa [exec]using hk
  exact wp_ret (hQ .ret s a w E pb h (Fr.refl _ _) hk')
 |.region id ops draw,R,bz,s,a,w,E,pb,k,r,Q,hk,h,hQ=>by
  have hk':(bif draw then(bif yO X ops s.sl then mD X true ops ops.toList ⟨s.sl,λ_=>none,s.σ⟩ λs=>k .normal ⟨s.sl,λ_=>none,s.σ⟩else none)else mD X false ops ops.toList s λs=>k .normal ⟨s.sl,λ_=>none,s.σ⟩)=some r:=by cases bz<;>simpa [exec,force_eq,LH]using hk
  cases draw
  ·simp only[aQ]at hk';refine wp_region ?_;have:=LG (z:=z) (Q:=Q) (s0:=s) hs ops.toList 0 s a w E pb (λj=>by simp) h hk' (λs' a' w' E' bk h' hf hk2=>hQ .normal _ a' w' E' bk h'.HU (λi hi hL=>hf i (by simpa [cL]using hi) hL) hk2);rw[List.range_eq_range'];simpa using this
  ·simp only[bh]at hk';cases hok:yO X ops s.sl
   ·rw[hok]at hk';cases hk'
   ·rw[hok]at hk';simp only[bh]at hk';exact Uc (s:=⟨s.sl,λ_=>none,s.σ⟩) hs hok (λ_=>rfl) (λs' a' w' E' bk h' hf hk2=>hQ .normal _ a' w' E' bk h'.HU (λi hi hL=>hf i (by simpa [cL]using hi) hL) hk2) h.HU hk'
 |.seq x y,R,bz,s,a,w,E,pb,k,r,Q,hk,h,hQ=>by
  cases bz<;>simp only[exec]at hk<;>first|(cases hk;done)|skip
  rename_i aa bb;refine wp_seq (pS hs x aa s a w E pb _ r _ hk h λe s' a' w' E' bk h' hf hk'=>?_);cases e with
  |normal=>exact pS hs y bb s' a' w' E' bk k r Q hk' h' λe2 s2 a2 w2 E2 HX h2 vi hk2=>hQ e2 s2 a2 w2 E2 HX h2 (by simpa [cL]using hf.trans vi) hk2
  |exit i=>exact hQ (.exit i) s' a' w' E' bk h' (hf.mono λi hi=>by simp [cL,hi]) hk'
  |ret=>exact hQ .ret s' a' w' E' bk h' (hf.mono λi hi=>by simp [cL,hi]) hk'
 |.cond c x y,R,bz,s,a,w,E,pb,k,r,Q,hk,h,hQ=>by
  have rc:=cJ h c;cases bz<;>simp only[exec,force_eq]at hk<;>first|(cases hk;done)|skip
  case c live aa bb=>
   cases hl:(live.all λd=>(cL x++cL y++X.L).contains d)
   ·rw[hl]at hk;cases hk
   ·rw[hl]at hk;simp only[Bool.not_true,aQ]at hk;obtain⟨⟨vs,σ'⟩,h1,h2⟩:=aY.1 hk;rcases JW h1 with⟨ec,hb⟩|⟨ec,hb⟩
    ·rw[ec]at rc;simp only[ak]at rc;refine wp_cond_true rc (pS hs x aa s a w E pb _ _ Q hb h λe s' a' w' E' bk h' hf hk'=>?_);obtain⟨rfl,hv⟩:=Jj hk';simp only[Prod.mk.injEq]at hv;obtain⟨rfl,rfl⟩:=hv;have vi:Fr X (cL x++cL y) s s':=hf.mono λi hi=>by simp [hi]
     exact hQ .normal _ a' w' E' bk (h'.meet (by rw[h.kT,h'.kT]) (wL (c:=x) vi)) (by simpa [cL]using sU (X:=X) hl) h2
    ·rw[ec]at rc;simp only[ak]at rc;refine wp_cond_false rc (pS hs y bb s a w E pb _ _ Q hb h λe s' a' w' E' bk h' hf hk'=>?_);obtain⟨rfl,hv⟩:=Jj hk';simp only[Prod.mk.injEq]at hv;obtain⟨rfl,rfl⟩:=hv;have vi:Fr X (cL x++cL y) s s':=hf.mono λi hi=>by simp [hi]
     exact hQ .normal _ a' w' E' bk (h'.meet (by rw[h.kT,h'.kT]) (wL (c:=x) vi)) (by simpa [cL]using sU (X:=X) hl) h2
  case j aa bb=>
   rcases JW hk with⟨ec,hb⟩|⟨ec,hb⟩
   ·rw[ec]at rc;simp only[ak]at rc;exact wp_cond_true rc (pS hs x aa s a w E pb k r Q hb h λe s' a' w' E' bk h' hf hk'=>hQ e s' a' w' E' bk h' (hf.mono λi hi=>by simp [cL,hi]) hk')
   ·rw[ec]at rc;simp only[ak]at rc;exact wp_cond_false rc (pS hs y bb s a w E pb k r Q hb h λe s' a' w' E' bk h' hf hk'=>hQ e s' a' w' E' bk h' (hf.mono λi hi=>by simp [cL,hi]) hk')
 |.block id c,R,bz,s,a,w,E,pb,k,r,Q,hk,h,hQ=>by
  cases bz<;>simp only[exec]at hk<;>first|(cases hk;done)|skip
  rename_i aa;refine wp_block (pS hs c aa s a w E pb _ r _ hk h λe s' a' w' E' bk h' hf hk'=>?_);cases e with
  |normal=>exact hQ .normal s' a' w' E' bk h' (by simpa [cL]using hf) hk'
  |ret=>exact hQ .ret s' a' w' E' bk h' (by simpa [cL]using hf) hk'
  |exit i=>
   simp only[AX.to,Exit.inBlock];simp only at hk';by_cases e:i=id
   ·have:(i==id)=true:=by simpa using e
    rw[this]at hk';rw[aM e];exact hQ .normal s' a' w' E' bk h' (by simpa [cL]using hf) hk'
   ·have:(i==id)=false:=by simpa using e
    rw[this]at hk';rw[aK e];exact hQ (.exit i) s' a' w' E' bk h' (by simpa [cL]using hf) hk'
 |.loop c,R,bz,s,a,w,E,pb,k,r,Q,hk,h,hQ=>by
  cases bz<;>simp only[exec,force_eq]at hk<;>first|(cases hk;done)|skip
  case lc live xs aa=>
   cases hl:(live.all λd=>(cL c++X.L).contains d)
   ·rw[hl]at hk;cases hk
   ·rw[hl]at hk;simp only[Bool.not_true,aQ]at hk;obtain⟨n,hn⟩:=RZ hk;refine Lw (λn a w=>∃vs σ E pb,A.zi (λvs σ K=>exec X aa c (s.meet (cL c++X.L) live vs σ) λe s'=>K (e,vals s'.sl live,s'.σ)) n vs σ (λr=>A.sel r.1 (λe=>k e (s.meet (cL c++X.L) live r.2.1 r.2.2)) xs)=some r∧St X z (s.meet (cL c++X.L) live vs σ) a w E pb) ?_ (n:=n) ⟨_,_,E,pb,hn,h.meet rfl (λi _=>rfl)⟩;rintro n a w ⟨vs,σ,E,pb,hit,hst⟩;cases n with
    |zero=>cases hit
    |succ n=>
     simp only[A.zi]at hit;refine pS hs c aa _ a w E pb _ _ _ hit hst λe s' a' w' E' bk h' hf hk'=>?_
     have hfr:∀i,i∉cL c++X.L→s'.sl[i]? =s.sl[i]? :=λi hi=>by rw[wL (c:=c) hf i hi];exact wL (c:=c) (sU (X:=X) (s:=s) (vs:=vs) (σ:=σ) hl) i hi
     have uM:=h'.meet (s:=s) (mods:=cL c++X.L) (live:=live) (by rw[h.kT,h'.kT]) hfr;cases e with
     |normal=>exact⟨n,Nat.lt_succ_self n,_,_,E',bk,hk',uM⟩
     |exit i=>exact hQ (.exit i) _ a' w' E' bk uM (by simpa [cL]using sU (X:=X) hl) (B2 hk')
     |ret=>exact hQ .ret _ a' w' E' bk uM (by simpa [cL]using sU (X:=X) hl) (B2 hk')
  rename_i live xs aa;cases hl:(live.all λd=>(cL c++X.L).contains d)
  ·rw[hl]at hk;cases hk
  ·rw[hl]at hk;simp only[Bool.not_true,aQ]at hk;obtain⟨⟨e0,uh,aL⟩,h1,h2⟩:=aY.1 hk;have hsel:=B2 h2;obtain⟨n,hn⟩:=SP h1;refine Lw (λn a w=>∃vs σ E pb,A.iter (λvs σ=>exec X aa c (s.meet (cL c++X.L) live vs σ) (leave live)) n vs σ=some (e0,uh,aL)∧St X z (s.meet (cL c++X.L) live vs σ) a w E pb) ?_ (n:=n) ⟨_,_,E,pb,hn,h.meet rfl (λi _=>rfl)⟩;rintro n a w ⟨vs,σ,E,pb,hit,hst⟩;cases n with
   |zero=>cases hit
   |succ n=>
    simp only[A.iter]at hit;obtain⟨⟨e1,vs1,σ1⟩,g1,g2⟩:=aY.1 hit;refine pS hs c aa _ a w E pb _ _ _ g1 hst λe s' a' w' E' bk h' hf hk'=>?_
    simp only[leave,Option.some.injEq,Prod.mk.injEq]at hk';obtain⟨rfl,rfl,rfl⟩:=hk'
    have hfr:∀i,i∉cL c++X.L→s'.sl[i]? =s.sl[i]? :=λi hi=>by rw[wL (c:=c) hf i hi];exact wL (c:=c) (sU (X:=X) (s:=s) (vs:=vs) (σ:=σ) hl) i hi
    have uM:=h'.meet (s:=s) (mods:=cL c++X.L) (live:=live) (by rw[h.kT,h'.kT]) hfr;cases e with
    |normal=>exact⟨n,Nat.lt_succ_self n,_,_,E',bk,g2,uM⟩
    |exit i=>simp only[Option.some.injEq,Prod.mk.injEq]at g2;obtain⟨rfl,rfl,rfl⟩:=g2;exact hQ (.exit i) _ a' w' E' bk uM (by simpa [cL]using sU (X:=X) hl) hsel
    |ret=>simp only[Option.some.injEq,Prod.mk.injEq]at g2;obtain⟨rfl,rfl,rfl⟩:=g2;exact hQ .ret _ a' w' E' bk uM (by simpa [cL]using sU (X:=X) hl) hsel
 |.rangeFunc ..,R,bz,s,a,w,E,pb,k,r,Q,hk,h,hQ=>by cases bz<;>simp [exec]at hk
 |.scope _,R,bz,s,a,w,E,pb,k,r,Q,hk,h,hQ=>by cases bz<;>simp [exec]at hk
 |.goto _,R,bz,s,a,w,E,pb,k,r,Q,hk,h,hQ=>by cases bz<;>simp [exec]at hk
 |.refuse _,R,bz,s,a,w,E,pb,k,r,Q,hk,h,hQ=>by cases bz<;>simp [exec]at hk
end
end
section
open Go.RowKit
section
variable {X : Fx} {z : Z} {s : AS} {a : Act} {w w' : World} {E : List Pl} {pb : Nat → Option Nat}
def rJ(tmps:Array Value):ResultVar→Sem Value
 |.tmp t=>pure (tmps.getD t undef)
 |.cell a t=>do loadVar t (←asAddr (tmps.getD a undef))
theorem Fj(h:St X z s a w E pb){R:Type}:∀(rs:List ResultVar)(k:List AV→Option R)(r:R),rI X s rs k=some r→∃vs iK,(rs.mapM (rJ a.tmps)).run X.P w=.ok vs w∧az (ctx z w E pb) iK vs∧k iK=some r
 |[],k,r,hk=>⟨[],[],by simp,by simp [az],hk⟩
 |.tmp t::rs,k,r,hk=>by simp only[rI]at hk;obtain⟨vs,iK,h1,h2,h3⟩:=Fj h rs _ r hk;refine⟨a.tmps.getD t undef::vs,ev X s (.tmp t)::iK,?_,by simp only[az];exact⟨_,_,rfl,cJ h (.tmp t),h2⟩,h3⟩;simp only[List.mapM_cons,Sem.run_bind,rJ,Sem.run_pure,Result.andThen_ok,h1]
 |.cell q t::rs,k,r,hk=>by
  simp only[rI]at hk
  have fin:∀(v:Value)(av:AV),(rJ a.tmps (.cell q t)).run X.P w=.ok v w→ak (ctx z w E pb) av v→rI X s rs (λvs=>k (av::vs))=some r→∃vs iK,((ResultVar.cell q t::rs).mapM (rJ a.tmps)).run X.P w=.ok vs w∧az (ctx z w E pb) iK vs∧k iK=some r:=by intro v av hv hr hk;obtain⟨vs,iK,h1,h2,h3⟩:=Fj h rs _ r hk;refine⟨v::vs,av::iK,?_,by simp only[az];exact⟨_,_,rfl,hr,h2⟩,h3⟩;simp only[List.mapM_cons,Sem.run_bind,hv,Sem.run_pure,Result.andThen_ok,h1]
  split at hk
  ·rename_i b off hp;obtain⟨av,e1,e2⟩:=aY.1 hk;obtain⟨cs,e3,e4⟩:=aY.1 e1;obtain⟨n,k1,k2,k3,k4⟩:=wB h (tag:=none) trivial hp e3;obtain⟨v,j1,j2⟩:=Bz (c:=ctx z w E pb) w X rfl k3.2 e4;rw[Nat.zero_add]at j1;simp only[Act.eval]at k2;exact fin v av (by simp [rJ,k2,asAddr,j1]) j2 e2
  ·obtain⟨av,e1,e2⟩:=aY.1 hk;obtain⟨cs,e3,e4⟩:=aY.1 e1;obtain⟨b,off,k2,k3⟩:=JX h.heap e3 (cJ h (.tmp q));obtain⟨v,j1,j2⟩:=Bz (c:=ctx z w E pb) w X rfl k3 e4;rw[Nat.add_zero]at j1;simp only[Act.eval]at k2;exact fin v av (by simp [rJ,k2,asAddr,j1]) j2 e2
theorem Rz{P:Program}{fn:Func}{tmps:Array Value}{vs:List Value}(h:(fn.results.toList.mapM (rJ tmps)).run P w=.ok vs w):∃v,(results fn tmps).run P w=.ok v w∧∀(c:RC)(iK:List AV),az c iK vs→ak c (one iK) v:=by
 have e:results fn tmps=(do let vs ←fn.results.mapM (rJ tmps);pure (if h:vs.size=1 then vs[0]else .tuple vs)):=by unfold results;congr 1
 have hm:(fn.results.mapM (rJ tmps)).run P w=.ok vs.toArray w:=by rw[Array.mapM_eq_mapM_toList,Sem.run_map,h];rfl
 have hrun:(results fn tmps).run P w=.ok (if h:vs.toArray.size=1 then vs.toArray[0]else .tuple vs.toArray) w:=by rw[e,Sem.run_bind,hm];rfl
 refine⟨_,hrun,λc iK r=>?_⟩
 match iK,vs,r with
 |[x],[v],r=>simp only[az]at r;obtain⟨v',_,e',r1,rfl⟩:=r;injection e' with e1 _;subst e1;simpa [one]using r1
 |[],[],r=>simp only[one,ak];exact⟨#[],by simp,by simp [az]⟩
 |x::y::xs,v::u::us,r=>simp only[one,ak];exact⟨(v::u::us).toArray,by simp,by simpa using r⟩
 |[_],_::_::_,r=>exact absurd r.length (by simp)
 |_::_::_,[_],r=>exact absurd r.length (by simp)
 |[],_::_,r=>exact absurd r.length (by simp)
 |_::_,[],r=>exact absurd r.length (by simp)
end
section
variable {c c' : RC} {σ : Heap} {n : Nat}
structure oN (c c' : RC) (σ : Heap) (n : Nat) : Prop where
 w:c'.w=c.w
 nm:c'.nm=c.nm
 X:∀b,c'.X b→c.X b
 E:∀(id:Nat)(p:Pl),id<n→c.E[id]? =some p→c'.E[id]? =some p
 heap:dR c σ
 CR:∀(id:Nat)(p:Pl),n≤id→c.E[id]? =some p→¬c'.X p.b
theorem Fg(d:Nat):∀(l l':List AV),A.cX σ n d l=some l'→l'.length=l.length
 |[],l',e=>by simp only[A.cX]at e;injection e with e;subst e;rfl
 |x::l,l',e=>by simp only[A.cX]at e;obtain⟨y,h1,h2⟩:=aY.1 e;obtain⟨l2,h3,rfl⟩:=cq.1 h2;simp [Fg d l l2 h3]
theorem yD(d:Nat):∀(l l':List (List AV)),A.gr σ n d l=some l'→l'.length=l.length
 |[],l',e=>by simp only[A.gr]at e;injection e with e;subst e;rfl
 |x::l,l',e=>by simp only[A.gr]at e;obtain⟨y,h1,h2⟩:=aY.1 e;obtain⟨l2,h3,rfl⟩:=cq.1 h2;simp [yD d l l2 h3]
theorem yH(d:Nat):∀(l:List (List AV)),A.y9 σ n d l=A.gr σ n d l
 |[]=>by simp [A.gr,A.y9]
 |x::l=>by simp [A.gr,A.y9,yH d l]
def uG:AV→Bool
 |.os ..=>true
 |.op ..=>true
 |.oe ..=>true
 |.om ..=>true
 |_=>false
theorem Cb(d:Nat):∀(l:List AV),A.qd σ n d l=A.cX σ n d l
 |[]=>by simp [A.cX,A.qd]
 |x::l=>by simp [A.cX,A.qd,Cb d l]
theorem Li(d:Nat):∀(l:List (AV×AV)),A.tg σ n d l=A.mA σ n d l
 |[]=>by simp [A.mA,A.tg]
 |(k,v)::l=>by simp [A.mA,A.tg,Li d l]
theorem Um(d:Nat)(m:Int)(s:ByteArray):A.br σ n d (.agg [.int .i64 m,.str s])=some (.agg [.int .i64 m,.str s]):=by cases d<;>simp [A.br,A.cX]
theorem J5{d:Nat}:∀{es es':List (AV×AV)},(∀p∈es,∃m s,p.1=.agg [.int .i64 m,.str s])→A.mA σ n d es=some es'→es'.map (·.1)=es.map (·.1)
 |[],es',_,h=>by simp only[A.mA]at h;injection h with h;subst h;rfl
 |(k,v)::r,es',hk,h=>by simp only[A.mA]at h;obtain⟨m,s,e⟩:=hk (k,v) List.mem_cons_self;simp only at e;subst e;rw[Um]at h;simp only[aC]at h;obtain⟨v',h1,h2⟩:=aY.1 h;obtain⟨r',h3,rfl⟩:=cq.1 h2;simp only[eT,J5 (λp hp=>hk p (ru _ hp)) h3]
theorem SI{d:Nat}{es es':List (AV×AV)}(hd:zf es)(h:A.mA σ n d es=some es'):zf es':=by
 have e:=J5 hd.1 h;refine⟨λp hp=>?_,by rw[e];exact hd.2⟩;have:p.1∈es.map (·.1):=by rw[←e];exact List.mem_map_of_mem hp
 obtain⟨q,hq,e2⟩:=jS.1 this;rw[←e2];exact hd.1 q hq
mutual
theorem wM(h:oN c c' σ n)(d:Nat)(hos:∀av bL v,uG av=true→A.br σ n d av=some bL→ak c av v→ak c' bL v):∀(av bL:AV)(v:Value),A.br σ n d av=some bL→ak c av v→ak c' bL v
 |.undef,bL,v,e,r=>by cases d<;>simp [A.br]at e
 |.int k m,bL,v,e,r=>by
  have:bL=.int k m:=by cases d<;>simpa [A.br]using e.symm
  subst this;simpa [ak]using r
 |.bool b,bL,v,e,r=>by
  have:bL=.bool b:=by cases d<;>simpa [A.br]using e.symm
  subst this;simpa [ak]using r
 |.str s,bL,v,e,r=>by
  have:bL=.str s:=by cases d<;>simpa [A.br]using e.symm
  subst this;simpa [ak]using r
 |.aE,bL,v,e,r=>by
  have:bL=.aE:=by cases d<;>simpa [A.br]using e.symm
  subst this;simpa [ak]using r
 |.ez,bL,v,e,r=>by
  have:bL=.ez:=by cases d<;>simpa [A.br]using e.symm
  subst this;simpa [ak]using r
 |.np,bL,v,e,r=>by
  have:bL=.np:=by cases d<;>simpa [A.br]using e.symm
  subst this;simpa [ak]using r
 |.nm,bL,v,e,r=>by
  have:bL=.nm:=by cases d<;>simpa [A.br]using e.symm
  subst this;simpa [ak]using r
 |.qx,bL,v,e,r=>by
  have:bL=.qx:=by cases d<;>simpa [A.br]using e.symm
  subst this;simpa [ak]using r
 |.agg cs,bL,v,e,r=>by
  have e':(A.cX σ n d cs).map .agg=some bL:=by cases d<;>simpa [A.br]using e
  obtain⟨cs',h1,rfl⟩:=cq.1 e';simp only[ak]at r ⊢;obtain⟨vs,e,r1,r2⟩:=r;exact⟨vs,e,wE h d hos cs cs' _ h1 r1,r2⟩
 |.aG cs,bL,v,e,r=>by
  have e':(A.cX σ n d cs).map .aG=some bL:=by cases d<;>simpa [A.br]using e
  obtain⟨cs',h1,rfl⟩:=cq.1 e';simp only[ak]at r ⊢;obtain⟨vs,e,r1⟩:=r;exact⟨vs,e,wE h d hos cs cs' _ h1 r1⟩
 |.sl sz es,bL,v,e,r=>by
  have e':(A.gr σ n d es).map (.sl sz)=some bL:=by cases d<;>simpa [A.br]using e
  obtain⟨es',h1,rfl⟩:=cq.1 e';simp only[ak]at r ⊢;obtain⟨q,cap,e,k1,k2,r⟩:=r;have hl:es'.length=es.length:=yD d es es' h1;refine⟨q,cap,by rw[hl];exact e,by rw[hl];exact k1,k2,?_⟩;rcases r with r|⟨b,off,e2,hb,hx,r⟩
  ·left;subst r;simpa using hl
  ·right;exact⟨b,off,e2,by rw[h.w];exact hb,λk=>hx (h.X b k),yG h d hos sz b es es' off h1 r⟩
 |.rp cs,bL,v,e,r=>by
  have e':(A.cX σ n d cs).map .rp=some bL:=by cases d<;>simpa [A.br]using e
  obtain⟨cs',h1,rfl⟩:=cq.1 e';simp only[ak]at r ⊢;obtain⟨b,off,e2,hb,hx,r⟩:=r;exact⟨b,off,e2,by rw[h.w];exact hb,λk=>hx (h.X b k),wD h d hos b cs cs' off h1 r⟩
 |.fm es,bL,v,e,r=>by
  have e':(A.mA σ n d es).map .fm=some bL:=by cases d<;>simpa [A.br]using e
  obtain⟨es',h1,rfl⟩:=cq.1 e';simp only[ak]at r ⊢;obtain⟨b,e2,hb,hx,aR,aU,k1,kw,l,k2,k3⟩:=r;exact⟨b,e2,by rw[h.w];exact hb,λk=>hx (h.X b k),aR,aU,by rw[h.w];exact k1,kw,l,BZ h d hos es es' _ h1 k2,k3.imp_right λq=>⟨q.1,SI q.2 h1⟩⟩
 |.op id off,bL,v,e,r=>hos _ bL v rfl e r
 |.oe id g i off,bL,v,e,r=>hos _ bL v rfl e r
 |.om id,bL,v,e,r=>hos _ bL v rfl e r
 |.fn f cs,bL,v,e,r=>by
  have e':(A.cX σ n d cs).map (.fn f)=some bL:=by cases d<;>simpa [A.br]using e
  obtain⟨cs',h1,rfl⟩:=cq.1 e';simp only[ak]at r ⊢;obtain⟨g,vs,e,k,r1⟩:=r;exact⟨g,vs,e,by rw[h.nm];exact k,wE h d hos cs cs' _ h1 r1⟩
 |.lbx cs,bL,v,e,r=>by cases d<;>simp [A.br]at e
 |.os id g sz off len,bL,v,e,r=>hos _ bL v rfl e r
theorem wE(h:oN c c' σ n)(d:Nat)(hos:∀av bL v,uG av=true→A.br σ n d av=some bL→ak c av v→ak c' bL v):∀(l l':List AV)(vs:List Value),A.cX σ n d l=some l'→az c l vs→az c' l' vs
 |[],l',vs,e,r=>by simp only[A.cX]at e;injection e with e;subst e;simpa [az]using r
 |x::l,l',vs,e,r=>by simp only[A.cX]at e;obtain⟨y,h1,h2⟩:=aY.1 e;obtain⟨l2,h3,rfl⟩:=cq.1 h2;simp only[az]at r ⊢;obtain⟨v,vs',e,r1,r2⟩:=r;exact⟨v,vs',e,wM h d hos x y v h1 r1,wE h d hos l l2 vs' h3 r2⟩
theorem BZ(h:oN c c' σ n)(d:Nat)(hos:∀av bL v,uG av=true→A.br σ n d av=some bL→ak c av v→ak c' bL v):∀(l l':List (AV×AV))(es:List MapEntry),A.mA σ n d l=some l'→bC c l es→bC c' l' es
 |[],l',es,e,r=>by simp only[A.mA]at e;injection e with e;subst e;simpa [bC]using r
 |(k,v)::l,l',es,e,r=>by simp only[A.mA]at e;obtain⟨k',h1,h2⟩:=aY.1 e;obtain⟨v',h3,h4⟩:=aY.1 h2;obtain⟨l2,h5,rfl⟩:=cq.1 h4;simp only[bC]at r ⊢;obtain⟨x,es',e,r1,r2,r3⟩:=r;exact⟨x,es',e,wM h d hos k k' _ h1 r1,wM h d hos v v' _ h3 r2,BZ h d hos l l2 es' h5 r3⟩
theorem wD(h:oN c c' σ n)(d:Nat)(hos:∀av bL v,uG av=true→A.br σ n d av=some bL→ak c av v→ak c' bL v)(b:Nat):∀(l l':List AV)(off:Nat),A.cX σ n d l=some l'→aS c b off l→aS c' b off l'
 |[],l',off,e,r=>by simp only[A.cX]at e;injection e with e;subst e;simp [aS]
 |x::l,l',off,e,r=>by simp only[A.cX]at e;obtain⟨y,h1,h2⟩:=aY.1 e;obtain⟨l2,h3,rfl⟩:=cq.1 h2;simp only[aS]at r ⊢;obtain⟨⟨v,e1,e2,r1⟩,r2⟩:=r;exact⟨⟨v,by rw[h.w];exact e1,e2,wM h d hos x y v h1 r1⟩,wD h d hos b l l2 (off+1) h3 r2⟩
theorem yG(h:oN c c' σ n)(d:Nat)(hos:∀av bL v,uG av=true→A.br σ n d av=some bL→ak c av v→ak c' bL v)(sz b:Nat):∀(l l':List (List AV))(off:Nat),A.gr σ n d l=some l'→aW c sz b off l→aW c' sz b off l'
 |[],l',off,e,r=>by simp only[A.gr]at e;injection e with e;subst e;simp [aW]
 |x::l,l',off,e,r=>by simp only[A.gr]at e;obtain⟨y,h1,h2⟩:=aY.1 e;obtain⟨l2,h3,rfl⟩:=cq.1 h2;simp only[aW]at r ⊢;exact⟨by rw[Fg d x y h1];exact r.1,wD h d hos b x y off h1 r.2.1,yG h d hos sz b l l2 (off+sz) h3 r.2.2⟩
end
structure oV (c0 c c' : RC) : Prop where
 w:c'.w=c.w
 nm:c'.nm=c.nm
 X:∀b,c'.X b→c.X b
 E:∀(id:Nat)(p0 p:Pl),c0.E[id]? =some p0→c.E[id]? =some p→c'.E[id]? =some p
mutual
theorem wJ{c0 c c':RC}(h:oV c0 c c'):∀(av:AV)(v0 v:Value),ak c0 av v0→ak c av v→ak c' av v
 |.undef,v0,v,r0,r=>by simp [ak]
 |.int k m,v0,v,r0,r=>by simpa [ak]using r
 |.bool b,v0,v,r0,r=>by simpa [ak]using r
 |.str s,v0,v,r0,r=>by simpa [ak]using r
 |.aE,v0,v,r0,r=>by simpa [ak]using r
 |.ez,v0,v,r0,r=>by simpa [ak]using r
 |.np,v0,v,r0,r=>by simpa [ak]using r
 |.nm,v0,v,r0,r=>by simpa [ak]using r
 |.fm es,v0,v,r0,r=>by simp only[ak]at r0 r ⊢;obtain⟨_,_,_,_,_,_,_,_,_,r0,_⟩:=r0;obtain⟨b,e,hb,hx,aR,aU,k1,kw,l,k2,k3⟩:=r;exact⟨b,e,by rw[h.w];exact hb,λk=>hx (h.X b k),aR,aU,by rw[h.w];exact k1,kw,l,BS h es _ _ r0 k2,k3⟩
 |.qx,v0,v,r0,r=>by simpa [ak]using r
 |.agg cs,v0,v,r0,r=>by simp only[ak]at r0 r ⊢;obtain⟨uh,_,vw,_⟩:=r0;obtain⟨vs,e,r1,r2⟩:=r;exact⟨vs,e,BR h cs _ _ vw r1,r2⟩
 |.aG cs,v0,v,r0,r=>by simp only[ak]at r0 r ⊢;obtain⟨uh,_,vw⟩:=r0;obtain⟨vs,e,r1⟩:=r;exact⟨vs,e,BR h cs _ _ vw r1⟩
 |.sl sz es,v0,v,r0,r=>by
  simp only[ak]at r0 r ⊢;obtain⟨_,_,_,_,_,r0⟩:=r0;obtain⟨q,cap,e,k1,k2,r⟩:=r;refine⟨q,cap,e,k1,k2,?_⟩;rcases r with r|⟨b,off,e2,hb,hx,r⟩
  ·exact .inl r
  ·rcases r0 with r0|⟨b0,jD,_,_,_,r0⟩
   ·exact .inl r0
   ·exact .inr ⟨b,off,e2,by rw[h.w];exact hb,λk=>hx (h.X b k),BQ h sz b0 b es jD off r0 r⟩
 |.rp cs,v0,v,r0,r=>by simp only[ak]at r0 r ⊢;obtain⟨b0,jD,_,_,_,r0⟩:=r0;obtain⟨b,off,e2,hb,hx,r⟩:=r;exact⟨b,off,e2,by rw[h.w];exact hb,λk=>hx (h.X b k),yF h b0 b cs jD off r0 r⟩
 |.op id off,v0,v,r0,r=>by simp only[ak]at r0 r ⊢;obtain⟨p0,e0,_⟩:=r0;obtain⟨p,e1,e2,e3⟩:=r;exact⟨p,h.E id p0 p e0 e1,e2,e3⟩
 |.oe id g i off,v0,v,r0,r=>by simp only[ak]at r0 r ⊢;obtain⟨_,p0,e0,_⟩:=r0;obtain⟨hg,p,e1,e2⟩:=r;exact⟨hg,p,h.E id p0 p e0 e1,e2⟩
 |.os id g sz off len,v0,v,r0,r=>by simp only[ak]at r0 r ⊢;obtain⟨_,p0,e0,_⟩:=r0;obtain⟨hg,p,e1,e2⟩:=r;exact⟨hg,p,h.E id p0 p e0 e1,e2⟩
 |.om id,v0,v,r0,r=>by simp only[ak]at r0 r ⊢;obtain⟨p0,e0,_⟩:=r0;obtain⟨p,e1,e2,e3⟩:=r;exact⟨p,h.E id p0 p e0 e1,e2,e3⟩
 |.fn f cs,v0,v,r0,r=>by simp only[ak]at r0 r ⊢;obtain⟨_,_,_,_,r0⟩:=r0;obtain⟨g,vs,e1,e2,r⟩:=r;exact⟨g,vs,e1,by rw[h.nm];exact e2,BR h cs _ _ r0 r⟩
 |.lbx cs,v0,v,r0,r=>by simp [ak]at r
theorem BR{c0 c c':RC}(h:oV c0 c c'):∀(l:List AV)(uh vs:List Value),az c0 l uh→az c l vs→az c' l vs
 |[],uh,vs,r0,r=>by simpa [az]using r
 |x::l,uh,vs,r0,r=>by simp only[az]at r0 r ⊢;obtain⟨v0,us0,_,vw,HY⟩:=r0;obtain⟨v,us,e,r1,r2⟩:=r;exact⟨v,us,e,wJ h x _ _ vw r1,BR h l _ _ HY r2⟩
theorem BS{c0 c c':RC}(h:oV c0 c c'):∀(l:List (AV×AV))(eW es:List MapEntry),bC c0 l eW→bC c l es→bC c' l es
 |[],eW,es,r0,r=>by simpa [bC]using r
 |(k,v)::l,eW,es,r0,r=>by simp only[bC]at r0 r ⊢;obtain⟨e0,WM,_,k1,k2,k3⟩:=r0;obtain⟨e,es',e1,j1,j2,j3⟩:=r;exact⟨e,es',e1,wJ h k _ _ k1 j1,wJ h v _ _ k2 j2,BS h l WM es' k3 j3⟩
theorem yF{c0 c c':RC}(h:oV c0 c c')(b0 b:Nat):∀(l:List AV)(jD off:Nat),aS c0 b0 jD l→aS c b off l→aS c' b off l
 |[],jD,off,r0,r=>by simp [aS]
 |x::l,jD,off,r0,r=>by simp only[aS]at r0 r ⊢;obtain⟨⟨v0,_,_,vw⟩,HY⟩:=r0;obtain⟨⟨v,e1,e2,r1⟩,r2⟩:=r;exact⟨⟨v,by rw[h.w];exact e1,e2,wJ h x _ _ vw r1⟩,yF h b0 b l _ _ HY r2⟩
theorem BQ{c0 c c':RC}(h:oV c0 c c')(sz b0 b:Nat):∀(l:List (List AV))(jD off:Nat),aW c0 sz b0 jD l→aW c sz b off l→aW c' sz b off l
 |[],jD,off,r0,r=>by simp [aW]
 |x::l,jD,off,r0,r=>by simp only[aW]at r0 r ⊢;exact⟨r.1,yF h b0 b x _ _ r0.2.1 r.2.1,BQ h sz b0 b l _ _ r0.2.2 r.2.2⟩
end
theorem BP{c0 c c':RC}(h:oV c0 c c'){p0 p:Pl}{x:aX}(k0:jO c0 p0 x)(k:jO c p x):jO c' p x:=by
 cases x with
 |box cs=>obtain⟨h1,⟨⟨arr,t,h2,h3⟩,h4⟩⟩:=k;exact⟨h1,⟨arr,t,by rw[h.w];exact h2,h3⟩,yF h _ _ cs _ _ k0.2.2 h4⟩
 |arr g sz es=>obtain⟨h1,h2,h3,h4,⟨arr,t,h5,h6⟩,h7,h8,h9⟩:=k;obtain⟨_,_,_,_,_,_,k8,_⟩:=k0;exact⟨h1,h2,h3,h4,⟨arr,t,by rw[h.w];exact h5,h6⟩,h7,BQ h sz _ _ es _ _ k8 h8,λarr t fz e=>h9 arr t fz (by rw[←h.w];exact e)⟩
 |i7 g sz es=>obtain⟨h1,h2,h3,h4,⟨arr,t,h5,h6⟩,h7,h8,h9⟩:=k;obtain⟨_,_,_,_,_,_,k8,_⟩:=k0;exact⟨h1,h2,h3,h4,⟨arr,t,by rw[h.w];exact h5,h6⟩,h7,BQ h sz _ _ es _ _ k8 h8,λarr t fz e=>h9 arr t fz (by rw[←h.w];exact e)⟩
 |map es=>obtain⟨h1,aR,aU,h2,hw,h3⟩:=k;obtain⟨_,_,_,_,_,k3⟩:=k0;exact⟨h1,aR,aU,by rw[h.w];exact h2,hw,BS h es _ _ k3 h3⟩
 |it cur left=>
  obtain⟨h1,h2⟩:=k;obtain⟨_,k2⟩:=k0;refine⟨h1,?_⟩;rcases h2 with⟨h2,h2',since,seen,last,h3⟩|⟨m,seen,aR,aU,h3,h4,h5,h6,h7,h8,h9⟩
  ·exact .inl ⟨h2,h2',since,seen,last,by rw[h.w];exact h3⟩
  ·rcases k2 with⟨q1,q2,_⟩|⟨m0,Z9,ZZ,ZP,q3,q4,q5,q6,q7,q8,q9⟩
   ·refine .inr ⟨m,seen,aR,aU,by rw[h.w];exact h3,by rw[h.w];exact h4,λk=>h5 (h.X m k),by rw[h.w];exact h6,h7,by rw[q2]at h8 ⊢;exact h8,.inl q1⟩
   ·refine .inr ⟨m,seen,aR,aU,by rw[h.w];exact h3,by rw[h.w];exact h4,λk=>h5 (h.X m k),by rw[h.w];exact h6,h7,(by obtain⟨l0,q8,_⟩:=q8;obtain⟨l,h8,hp⟩:=h8;exact⟨l,BS h left _ _ q8 h8,hp⟩),?_⟩;rcases h9 with h9|⟨kk,v,e,e1,e2,e3,e4,e5⟩
    ·exact .inl h9
    ·rcases q9 with q9|⟨kk',v',e',f1,f2,f3,f4,f5⟩
     ·exact .inl q9
     ·rw[e1]at f1;simp only[List.cons.injEq,Prod.mk.injEq,and_true]at f1;obtain⟨rfl,rfl⟩:=f1;exact .inr ⟨_,_,e,e1,e2,e3,wJ h _ _ _ f4 e4,wJ h _ _ _ f5 e5⟩
def WQ:aX→Nat
 |.arr g _ _=>g
 |.i7 g _ _=>g
 |_=>0
theorem Ft{c:RC}{p:Pl}{x:aX}(k:jO c p x):p.g=WQ x:=by cases x<;>exact k.1
theorem Ld{c0 c c':RC}(h:oV c0 c c')(sz b:Nat):∀(l:List (List AV))(off:Nat),(∀y∈l,∃b0 o0,aS c0 b0 o0 y)→aW c sz b off l→aW c' sz b off l
 |[],off,h0,r=>by simp [aW]
 |x::l,off,h0,r=>by simp only[aW]at r ⊢;obtain⟨b0,o0,k⟩:=h0 x (by simp);exact⟨r.1,yF h b0 b x _ _ k r.2.1,Ld h sz b l _ (λy hy=>h0 y (by simp [hy])) r.2.2⟩
theorem KY{c:RC}:∀{args:List AV}{vs:List Value},az c args vs→∀y∈A.rowsOf args,∃b0 o0,aS c b0 o0 y
 |[],_,_,y,hy=>by simp [A.rowsOf]at hy
 |a::args,vs,h,y,hy=>by
  simp only[az]at h;obtain⟨v,vs',rfl,h1,h2⟩:=h;simp only[A.rowsOf,dg]at hy;rcases hy with hy|hy
  ·cases a<;>simp only[List.not_mem_nil]at hy;rename_i sz es;simp only[ak]at h1;obtain⟨a,cap,rfl,_,_,h3⟩:=h1;rcases h3 with h3|⟨b,off,_,_,_,h4⟩
   ·rw[h3]at hy;cases hy
   ·obtain⟨i,hi⟩:=tD.1 hy;exact⟨_,_,(aW.nth h4 hi).2⟩
  ·exact KY h2 y hy
theorem pU(h:oN c c' σ n):∀(d:Nat)(av bL:AV)(v:Value),A.br σ n d av=some bL→ak c av v→ak c' bL v
 |0=>wM h 0 (λav bL v ho e r=>by cases av<;>first|(simp [A.br]at e;done)|(simp [uG]at ho;done))
 |d+1=>wM h (d+1) (λav bL v ho e r=>match av,ho,e,r with
  |.op id off,_,e,r=>by
   simp only[A.br]at e;simp only[ak]at r;obtain⟨p,h1,h2,rfl⟩:=r;split at e
   ·rename_i hlt;injection e with e;subst e
    simp only[ak];exact⟨p,h.E id p hlt h1,h2,rfl⟩
   ·rename_i hge;split at e
    ·rename_i cs hs;obtain⟨cs',e1,rfl⟩:=cq.1 e;rw[Cb]at e1;obtain⟨j1,⟨⟨arr,t,j2,j3⟩,j4⟩⟩:=h.heap.blk id p _ h1 hs;simp only[ak];refine⟨p.b,off,rfl,by rw[h.w];exact(qh.1 j2).1,h.CR id p (by omega) h1,?_⟩;have j5:=j4.drop off;rw[Nat.zero_add]at j5;exact wD h d (λav bL v _ e r=>pU h d _ _ _ e r) p.b _ cs' _ e1 j5
    ·cases e
  |.oe id g i off,_,e,r=>by
   simp only[A.br]at e;simp only[ak]at r;obtain⟨hg,p,h1,h2,a,rfl,h3⟩:=r;split at e
   ·rename_i hlt;injection e with e;subst e
    simp only[ak];exact⟨hg,p,h.E id p hlt h1,h2,a,rfl,h3⟩
   ·rename_i hge;split at e
    ·rename_i g' sz' es hs;split at e
     ·rename_i hc;subst hc;split at e
      ·rename_i el hel;obtain⟨cs',e1,rfl⟩:=cq.1 e;rw[Cb]at e1;obtain⟨j1,j2,j3,j4,⟨arr,bt,j5,j6⟩,j7,j8,j9⟩:=h.heap.blk id p _ h1 hs;have ha:=h3 j1.symm;subst ha;simp only[ak];refine⟨p.b,_,rfl,by rw[h.w];exact(qh.1 j5).1,h.CR id p (by omega) h1,?_⟩;rw[j3];have j9:=(j8.nth hel).2.drop off;exact wD h d (λav bL v _ e r=>pU h d _ _ _ e r) p.b _ cs' _ e1 j9
      ·cases e
     ·cases e
    ·cases e
  |.om id,_,e,r=>by
   simp only[A.br]at e;simp only[ak]at r;obtain⟨p,h1,h2,rfl⟩:=r;split at e
   ·rename_i hlt;injection e with e;subst e
    simp only[ak];exact⟨p,h.E id p hlt h1,h2,rfl⟩
   ·rename_i hge;split at e
    ·rename_i es hs;obtain⟨es',e1,rfl⟩:=cq.1 e;rw[Li]at e1;obtain⟨j1,aR,aU,j2,jw,j3⟩:=h.heap.blk id p _ h1 hs;simp only[ak];exact⟨p.b,rfl,by rw[h.w];exact(qh.1 j2).1,h.CR id p (by omega) h1,aR,aU,by rw[h.w];exact j2,jw,_,BZ h d (λav bL v _ e r=>pU h d _ _ _ e r) _ es' _ e1 j3,.inl rfl⟩
    ·cases e
  |.os id g sz off len,_,e,r=>by
   simp only[A.br]at e;simp only[ak]at r;obtain⟨hg,p,h1,h2,q,cap,rfl,h3,r⟩:=r;split at e
   ·rename_i hlt;injection e with e;subst e
    simp only[ak];exact⟨hg,p,h.E id p hlt h1,h2,q,cap,rfl,h3,r⟩
   ·rename_i hge;split at e
    ·rename_i g' sz' es hs;split at e
     ·rename_i hc;obtain⟨rfl,rfl,hle⟩:=hc;obtain⟨es',e1,rfl⟩:=cq.1 e;rw[yH]at e1;obtain⟨j1,j2,j3,j4,⟨arr,bt,j5,j6⟩,j7,j8,j9⟩:=h.heap.blk id p _ h1 hs;obtain⟨k1,k2,k3⟩:=r j1.symm;have hl:=yD d _ _ e1;have pe:((es.drop off).take len).length=len:=by simp;omega
      simp only[ak];refine⟨some q,cap,by rw[hl,pe],by rw[hl,pe];exact h3,j4,?_⟩;by_cases hz:len=0
      ·left;apply tE;rw[hl,pe,hz]
      ·right
       have hq:q=⟨p.b,p.base+off*p.sz,none⟩:=by
        rcases k2 with k2|k2
        ·omega
        ·exact k2
       refine⟨p.b,p.base+off*p.sz,by rw[hq],by rw[h.w];exact(qh.1 j5).1,h.CR id p (by omega) h1,?_⟩;refine yG h d (λav bL v _ e r=>pU h d _ _ _ e r) sz p.b _ es' _ e1 ?_;rw[j3];exact(j8.drop off).take len
     ·cases e
    ·cases e)
end
section
variable {c c' : RC} {σ : Heap} {n : Nat}
theorem SW{es es':List (AV×AV)}(hp:es.Perm es'):∀{l:List MapEntry},bC c es l→∃l',bC c es' l'∧l'.Perm l:=by
 induction hp with
 |nil=>intro l h;exact⟨l,h,.refl _⟩
 |cons x _ ih=>intro l h;obtain⟨e,l1,rfl,h2,h3,h4⟩:=h;obtain⟨l',k1,k2⟩:=ih h4;exact⟨e::l',⟨_,_,rfl,h2,h3,k1⟩,k2.cons e⟩
 |swap x y l0=>intro l h;obtain⟨e,l1,rfl,h2,h3,e',l2,rfl,h4,h5,h6⟩:=h;exact⟨e'::e::l2,⟨_,_,rfl,h4,h5,_,_,rfl,h2,h3,h6⟩,.swap _ _ _⟩
 |trans _ _ ih1 ih2=>intro l h;obtain⟨l1,k1,k2⟩:=ih1 h;obtain⟨l2,k3,k4⟩:=ih2 k1;exact⟨l2,k3,k4.trans k2⟩
theorem Sw(es:List (AV×AV)):(A.Nb es).Perm es:=Classical.choose_spec (p:=λl:List (AV×AV)=>l.Perm es) ⟨es,.refl _⟩
theorem T5{x:AV}{v:Value}(r:ak c x v):ak c (A.can x) v:=by
 cases x<;>try exact r
 case fm es=>
  unfold A.can;simp only;split
  ·rename_i hd;simp only[ak]at r ⊢;obtain⟨b,e,hb,hx,aR,aU,k1,kw,l,k2,k3⟩:=r;have hp:=Sw es;obtain⟨l',j1,j2⟩:=SW hp.symm k2;refine⟨b,e,hb,hx,aR,aU,k1,kw,l',j1,.inr ⟨?_,?_⟩⟩
   ·rcases k3 with rfl|⟨k3,_⟩
    ·exact j2
    ·exact j2.trans k3
   ·exact⟨λp hp'=>hd.1 p (hp.mem_iff.1 hp'),(hp.map _).nodup_iff.2 hd.2⟩
  ·exact r
theorem ET{b:Nat}:∀{l:List AV}{off:Nat},aS c b off l→aS c b off (l.map A.can)
 |[],off,_=>by simp [aS]
 |x::l,off,r=>by simp only[eT,aS]at r ⊢;obtain⟨⟨v,h1,h2,h3⟩,h4⟩:=r;exact⟨⟨v,h1,h2,T5 h3⟩,ET h4⟩
theorem EU{sz b:Nat}:∀{l:List (List AV)}{off:Nat},aW c sz b off l→aW c sz b off (l.map (·.map A.can))
 |[],off,_=>by simp [aW]
 |x::l,off,r=>by simp only[eT,aW,List.length_map]at r ⊢;exact⟨r.1,ET r.2.1,EU r.2.2⟩
theorem Tq(h:oN c c' σ n){p:Pl}{x x':aX}(e:A.GD σ n x=some x')(k:jO c p x):jO c' p x':=by
 have hos:∀av bL v,uG av=true→A.br σ n 8 av=some bL→ak c av v→ak c' bL v:=λav bL v _ e r=>pU h 8 _ _ _ e r
 cases x with
 |box cs=>obtain⟨cs',e1,rfl⟩:=cq.1 e;obtain⟨h1,⟨⟨arr,t,h2,h3⟩,h4⟩⟩:=k;exact⟨h1,⟨arr,t,by rw[h.w];exact h2,by rw[List.length_map,Fg 8 _ _ e1];exact h3⟩,ET (wD h 8 hos _ _ _ _ e1 h4)⟩
 |arr g sz es=>obtain⟨es',e1,rfl⟩:=cq.1 e;obtain⟨h1,h2,h3,h4,⟨arr,t,h5,h6⟩,h7,h8,h9⟩:=k;exact⟨h1,h2,h3,h4,⟨arr,t,by rw[h.w];exact h5,h6⟩,by rw[List.length_map,yD 8 _ _ e1];exact h7,EU (yG h 8 hos _ _ _ _ _ e1 h8),λarr t fz e=>h9 arr t fz (by rw[←h.w];exact e)⟩
 |i7 g sz es=>obtain⟨es',e1,rfl⟩:=cq.1 e;obtain⟨h1,h2,h3,h4,⟨arr,t,h5,h6⟩,h7,h8,h9⟩:=k;exact⟨h1,h2,h3,h4,⟨arr,t,by rw[h.w];exact h5,h6⟩,by rw[List.length_map,yD 8 _ _ e1];exact h7,EU (yG h 8 hos _ _ _ _ _ e1 h8),λarr t fz e=>h9 arr t fz (by rw[←h.w];exact e)⟩
 |map es=>obtain⟨es',e1,rfl⟩:=cq.1 e;obtain⟨h1,aR,aU,h2,hwf,h3⟩:=k;exact⟨h1,aR,aU,by rw[h.w];exact h2,hwf,BZ h 8 hos _ _ _ e1 h3⟩
 |it cur left=>cases e
theorem J4{n:Nat}:∀{Dz DA τ:Heap},A.w9 σ n Dz DA=some τ→τ.length=Dz.length∧Dz.length≤DA.length∧∀(i:Nat)x,τ[i]? =some x→∃b b',Dz[i]? =some b∧DA[i]? =some b'∧((b'=b∧x=b)∨A.GD σ n b'=some x)
 |[],DA,τ,h=>by simp only[A.w9]at h;injection h with h;subst h;simp
 |_::_,[],τ,h=>by simp [A.w9]at h
 |b::r,b'::r',τ,h=>by
  simp only[A.w9]at h;obtain⟨y,h1,h2⟩:=aY.1 h;obtain⟨AR,h3,rfl⟩:=cq.1 h2;obtain⟨k1,k2,k3⟩:=J4 h3;refine⟨by simp [k1],by simp;omega,λi x hi=>?_⟩;cases i with
  |zero=>
   simp only[List.getElem?_cons_zero,Option.some.injEq]at hi;subst hi;refine⟨b,b',rfl,rfl,?_⟩;split at h1
   ·rename_i e;injection h1 with h1
    exact .inl ⟨e,h1.symm⟩
   ·exact .inr h1
  |succ i=>exact k3 i x hi
end
section
variable {X : Fx}
def kR.Ok:kR→Prop
 |.N g=>∀c a v,ak c a v→ak c (g a) v
 |_=>True
theorem uu(hs:cM X){f:FuncId}{fn:Func}{keep:kR}(hkeep:keep.Ok){bz:ig}{args:List AV}{σ σ':Heap}{r:AV}(hf:X.P.funcs[f]? =some fn)(CA:∀bR w,(callFunc f bR).run X.P w=.ok (.enter f bR) w)
  (hr:kV X keep bz fn args σ=some (r,σ')):jt X.P X.nm f args σ r σ':=by
 refine .inl ⟨f,CA,λz vs hnm hlt hh ha=>?_⟩;unfold kV at hr;cases hb:fn.body with
 |none=>rw[hb]at hr;cases hr
 |some c=>
  rw[hb]at hr;simp only at hr;cases hc:(Nat.ble args.length fn.ntmps&&X.n==fn.ntmps)
  ·rw[hc]at hr;cases hr
  ·rw[hc]at hr;simp only[Bool.not_true,aQ]at hr;simp only[dP,beq_iff_eq]at hc;obtain⟨oh,lf⟩:=hc;have hle:args.length≤fn.ntmps:=Nat.le_of_ble_eq_true oh;have Yj:=ha.length;have aao:args.length=vs.size:=by simpa using Yj
   have hst:St X z ⟨args++List.replicate (fn.ntmps-args.length) (.aG []),λ_=>none,σ⟩ {tmps:=vs++Array.replicate (fn.ntmps-vs.size) undef,defers:=[]} z.w z.E bO:=by
    have MV:∀i av,(args++List.replicate (fn.ntmps-args.length) (.aG []))[i]? =some av→ak (ctx z z.w z.E bO) av ((vs++Array.replicate (fn.ntmps-vs.size) undef).getD i undef):=by
     intro i av hi;by_cases hlt':i<args.length
     ·rw[eG hlt']at hi;obtain⟨v,k1,k2⟩:=ha.nth hi
      have:(vs++Array.replicate (fn.ntmps-vs.size) undef).getD i undef=v:=by rw[iY,Array.getElem?_append_left (by omega),←Array.getElem?_toList,k1];rfl
      rw[this];exact k2
     ·rw[eC (by omega)]at hi;have hm:=cx hi;rw[List.mem_replicate]at hm;rw[hm.2]
      have:(vs++Array.replicate (fn.ntmps-vs.size) undef).getD i undef=undef:=by rw[iY,Array.getElem?_append_right (by omega),Array.getElem?_replicate];split<;>rfl
      rw[this];simp only[ak];exact⟨#[],rfl,by simp [az]⟩
    refine⟨by simp;omega,by simp;omega,λi av hi=>Slot.of (MV i av hi),λi cs hi=>?_,(λt p hp=>by cases hp),(λi b hb=>by cases hb),(λi j b hb=>by cases hb),hh,rfl,?_,hnm.symm⟩
    ·have:=MV i _ hi;simp [ak]at this
    ·exact⟨rfl,rfl,rfl,bH _,λ_ _ _=>rfl,λi p hp=>.inr ⟨p,hp,rfl⟩,λi p hp=>⟨p,hp,.inl rfl⟩,hlt,λp hp=>hh.lt hp⟩
   refine calls_of_wp hf hb (pS hs c bz _ _ _ _ _ _ _ _ hr hst λe s' a' w' E' bk h' _ hk=>?_)
   have hno:Ext (ctx z w' E' bk) (ctx z w' E' bO):=Ext.same rfl rfl (λb k=>by
    rcases k with k|k|⟨i,k⟩
    ·exact .inl k
    ·exact .inr (.inl k)
    ·cases k) rfl
   have Nd:∀(x:AV)(v:Value)(r:AV)(σ':Heap),ak (ctx z w' E' bk) x v→A.fin σ x s'.σ=some (r,σ')→∃ff,Out z w' ff∧dR (ctx z w' ff bO) σ'∧ak (ctx z w' ff bO) r v:=by
     intro x v r σ' rv k3;unfold A.fin at k3;split at k3
     ·rename_i he;simp only[Option.some.injEq,Prod.mk.injEq]at k3;obtain⟨rfl,rfl⟩:=k3;exact⟨E',h'.out,by rw[←he];exact h'.heap.mono hno rfl (λp hp=>rfl),ak.mono hno _ _ rv⟩
     ·split at k3
      ·rename_i he;obtain⟨r',k6,k7⟩:=cq.1 k3;simp only[Prod.mk.injEq]at k7;obtain⟨rfl,rfl⟩:=k7;have hlen:=h'.heap.len;simp only[ctx]at hlen;have hzl:z.E.length=σ.length:=hh.len
       have Ni:σ.length≤s'.σ.length:=by have:=congrArg List.length he;simp at this;omega
       have iy:∀(id:Nat)(p:Pl),id<σ.length→E'[id]? =some p→(E'.take σ.length)[id]? =some p:=λid p hlt' hp=>by rw[List.getElem?_take_of_lt hlt'];exact hp
       have jV:∀(id:Nat)(p:Pl),(E'.take σ.length)[id]? =some p→id<σ.length∧E'[id]? =some p:=λid p hp=>by
        rw[List.getElem?_take]at hp;split at hp
        ·exact⟨by assumption,hp⟩
        ·cases hp
       have mo:oN (ctx z w' E' bk) (ctx z w' (E'.take σ.length) bO) s'.σ σ.length:=by
        refine⟨rfl,rfl,λb k=>?_,iy,h'.heap,λid p hge hp k=>?_⟩
        ·rcases k with k|⟨p,hp,k⟩|⟨i,k⟩
         ·exact .inl k
         ·exact .inr (.inl ⟨p,rz hp,k⟩)
         ·cases k
        ·rcases k with k|⟨q,hq,k⟩|⟨i,k⟩
         ·have hb:=hlt _ k;rcases h'.out.fresh' id p hp with e|⟨q,hq,_⟩
          ·omega
          ·rw[iZ (by omega)]at hq;cases hq
         ·obtain⟨j,hj,rfl⟩:=List.mem_iff_getElem.1 hq;obtain⟨h1,h2⟩:=jV j _ (bQ hj);have:=h'.heap.inj j id _ p h2 hp k;omega
         ·cases k
       have heq:∀(id:Nat),id<σ.length→σ[id]? =s'.σ[id]? :=λid hlt'=>by have h1:(List.take σ.length s'.σ)[id]? =s'.σ[id]? :=List.getElem?_take_of_lt hlt';rw[he]at h1;exact h1
       have held:oV (ctx z z.w z.E bO) (ctx z w' E' bk) (ctx z w' (E'.take σ.length) bO):=
        ⟨rfl,rfl,mo.X,λid p0 p e0 e1=>iy id p (by have:=(bK.1 e0).1;simp only[ctx]at this;omega) e1⟩
       refine⟨E'.take σ.length,?_,?_,pU mo 8 _ _ _ k6 rv⟩
       ·have o:=h'.out
        exact⟨o.os,o.tape,o.output,o.size,o.stay,λi p hp=>o.fresh' i p (jV i p hp).2,λi p hp=>by
         obtain⟨p',m1,m2⟩:=o.env i p hp
         exact⟨p',iy i p' (by have:=(bK.1 hp).1;omega) m1,m2⟩,o.lt,o.mine⟩
       ·refine⟨by simp only[ctx,i6];omega,λi j p q hp hq e=>h'.heap.inj i j p q (jV i p hp).2 (jV j q hq).2 e,λi p x hp hx=>?_⟩;obtain⟨hi,hp2⟩:=jV i p hp;have cS:z.E[i]? =some z.E[i]:=bQ (by omega);exact BP held (hh.blk i _ x cS hx) (h'.heap.blk i p x hp2 (by rw[←heq i hi];exact hx))
      ·cases k3
   have zu:∀(x:AV)(v:Value)(r:AV)(σ':Heap),ak (ctx z w' E' bk) x v→A.zu σ x s'.σ=some (r,σ')→∃ff,Out z w' ff∧dR (ctx z w' ff bO) σ'∧ak (ctx z w' ff bO) r v:=by
     intro x v r σ' rv k3;unfold A.zu at k3;obtain⟨τ,q0,k4⟩:=aY.1 k3;obtain⟨r',k6,k7⟩:=cq.1 k4;simp only[Prod.mk.injEq]at k7;obtain⟨rfl,rfl⟩:=k7;obtain⟨q1,Ni,q3⟩:=J4 q0;have hlen:=h'.heap.len;simp only[ctx]at hlen;have hzl:z.E.length=σ.length:=hh.len;have iy:∀(id:Nat)(p:Pl),id<σ.length→E'[id]? =some p→(E'.take σ.length)[id]? =some p:=λid p hlt' hp=>by rw[List.getElem?_take_of_lt hlt'];exact hp
     have jV:∀(id:Nat)(p:Pl),(E'.take σ.length)[id]? =some p→id<σ.length∧E'[id]? =some p:=λid p hp=>by
      rw[List.getElem?_take]at hp;split at hp
      ·exact⟨by assumption,hp⟩
      ·cases hp
     have mo:oN (ctx z w' E' bk) (ctx z w' (E'.take σ.length) bO) s'.σ σ.length:=by
      refine⟨rfl,rfl,λb k=>?_,iy,h'.heap,λid p hge hp k=>?_⟩
      ·rcases k with k|⟨p,hp,k⟩|⟨i,k⟩
       ·exact .inl k
       ·exact .inr (.inl ⟨p,rz hp,k⟩)
       ·cases k
      ·rcases k with k|⟨q,hq,k⟩|⟨i,k⟩
       ·have hb:=hlt _ k;rcases h'.out.fresh' id p hp with e|⟨q,hq,_⟩
        ·omega
        ·rw[iZ (by omega)]at hq;cases hq
       ·obtain⟨j,hj,rfl⟩:=List.mem_iff_getElem.1 hq;obtain⟨h1,h2⟩:=jV j _ (bQ hj);have:=h'.heap.inj j id _ p h2 hp k;omega
       ·cases k
     have held:oV (ctx z z.w z.E bO) (ctx z w' E' bk) (ctx z w' (E'.take σ.length) bO):=
      ⟨rfl,rfl,mo.X,λid p0 p e0 e1=>iy id p (by have:=(bK.1 e0).1;simp only[ctx]at this;omega) e1⟩
     refine⟨E'.take σ.length,?_,?_,pU mo 8 _ _ _ k6 rv⟩
     ·have o:=h'.out
      exact⟨o.os,o.tape,o.output,o.size,o.stay,λi p hp=>o.fresh' i p (jV i p hp).2,λi p hp=>by
       obtain⟨p',m1,m2⟩:=o.env i p hp
       exact⟨p',iy i p' (by have:=(bK.1 hp).1;omega) m1,m2⟩,o.lt,o.mine⟩
     ·refine⟨by simp only[ctx,i6];omega,λi j p q hp hq e=>h'.heap.inj i j p q (jV i p hp).2 (jV j q hq).2 e,λi p x hp hx=>?_⟩;obtain⟨hi,hp2⟩:=jV i p hp;obtain⟨b,b',m1,m2,m3⟩:=q3 i x hx;rcases m3 with⟨rfl,rfl⟩|m3
      ·have cS:z.E[i]? =some z.E[i]:=bQ (by omega);exact BP held (hh.blk i _ x cS m1) (h'.heap.blk i p x hp2 m2)
      ·exact Tq mo m3 (h'.heap.blk i p b' hp2 m2)
   have done:∀(hk:rI X s' fn.results.toList (λvs=>keep.run args σ (one vs) s'.σ)=some (r,σ')),
     a'.defers=[]∧∃v,(results fn a'.tmps).run X.P w'=.ok v w'∧∃v' E',Ending.returned v=.returned v'∧Out z w' E'∧dR (ctx z w' E' bO) σ'∧ak (ctx z w' E' bO) r v':=by
    intro hk;refine⟨h'.defers,?_⟩;obtain⟨us,iK,k1,k2,k3⟩:=Fj h' _ _ _ hk;obtain⟨v,k4,k5⟩:=Rz k1;have rv:=k5 _ _ k2;refine⟨v,k4,v,?_⟩
    have kept:∃E',Ending.returned v=.returned v∧Out z w' E'∧dR (ctx z w' E' bO) s'.σ∧ak (ctx z w' E' bO) (one iK) v:=
     ⟨E',rfl,h'.out,h'.heap.mono hno rfl (λp hp=>rfl),ak.mono hno _ _ rv⟩
    cases keep with
    |K=>simp only[kR.run,Option.some.injEq,Prod.mk.injEq]at k3;obtain⟨rfl,rfl⟩:=k3;exact kept
    |F=>obtain⟨ff,q1,q2,q3⟩:=Nd _ _ _ _ rv k3;exact⟨ff,rfl,q1,q2,q3⟩
    |G=>obtain⟨ff,q1,q2,q3⟩:=zu _ _ _ _ rv k3;exact⟨ff,rfl,q1,q2,q3⟩
    |N g=>simp only[kR.run]at k3;obtain⟨⟨r0,aL⟩,k6,k7⟩:=cq.1 k3;simp only[Prod.mk.injEq]at k7;obtain⟨rfl,rfl⟩:=k7;obtain⟨ff,q1,q2,q3⟩:=Nd _ _ _ _ rv k6;exact⟨ff,rfl,q1,q2,hkeep _ _ _ q3⟩
    |R=>
     simp only[kR.run]at k3;obtain⟨x,hx⟩:∃x,x=one iK:=⟨_,rfl⟩
     rw[←hx]at rv k3 kept;unfold A.renew at k3;split at k3
     ·rename_i id g sz off len;split at k3
      ·rename_i g' sz' es hs';split at k3
       ·rename_i hc;obtain⟨rfl,rfl,hle,aau⟩:=hc;simp only[ak]at rv;obtain⟨hg,p,e1,e2,qa,cp,rfl,hcap,rx⟩:=rv;obtain⟨j1,j2,j3,j4,⟨arr,bt,j5,j6⟩,j7,j8,j9⟩:=h'.heap.blk id p _ e1 hs';obtain⟨q1,q2,q3⟩:=rx j1.symm;have hid:id<E'.length:=(bK.1 e1).1;have jJ:((es.drop off).take len).length=len:=by simp;omega
        have hmul:(off+len)*sz≤es.length*sz:=kO _ hle;rw[eP]at hmul;split at k3
        ·simp only[Option.some.injEq,Prod.mk.injEq]at k3;obtain⟨rfl,rfl⟩:=k3
         have xJ:=h'.move (id:=id) (p:=p) (p':=⟨p.b,p.base+off*sz,A.gen args+1,sz,p.kY⟩) (w':=w') (blk:=.arr (A.gen args+1) sz ((es.drop off).take len)) e1
          ⟨by omega,by show p.g<A.gen args+1;omega⟩ rfl rfl rfl (bH _) (λb _ _=>rfl) (.inl rfl) (λhx=>by
           refine⟨rfl,by show 0<A.gen args+1;omega,rfl,j4,⟨arr,bt,j5,j6⟩,?_,?_,j9⟩
           ·rw[jJ];show p.base+off*sz+len*sz≤p.kY;omega
           ·exact aW.mono hx sz p.b rfl _ _ ((j8.drop off).take len))
         have W4:Ext (ctx z w' (E'.set id ⟨p.b,p.base+off*sz,A.gen args+1,sz,p.kY⟩) bk) (ctx z w' (E'.set id ⟨p.b,p.base+off*sz,A.gen args+1,sz,p.kY⟩) bO):=Ext.same rfl rfl (λb k=>by
          rcases k with k|k|⟨i,k⟩
          ·exact .inl k
          ·exact .inr (.inl k)
          ·cases k) rfl
         refine⟨_,rfl,xJ.1.out,xJ.1.heap.mono W4 rfl (λp hp=>rfl),?_⟩;simp only[ak];refine⟨by omega,⟨p.b,p.base+off*sz,A.gen args+1,sz,p.kY⟩,by simp [ctx,hid],bH _,qa,cp,rfl,hcap,λ_=>⟨rfl,?_,?_⟩⟩
         ·rcases q2 with q2|q2
          ·exact .inl q2
          ·exact .inr (by rw[q2,q1];simp)
         ·simp only[Nat.zero_add];rw[q1,eP]at q3;omega
        ·unfold A.merge at k3;split at k3
         ·rename_i fI g0 G2 jD GW rest _ _ _;split at k3
          ·rename_i g1 sE oc hs0;split at k3
           ·rename_i Gg;obtain⟨aat,Z5,rfl,hg1,hsame,hF,Np⟩:=Gg;simp only[Option.some.injEq,Prod.mk.injEq]at k3;obtain⟨rfl,rfl⟩:=k3;have hzl:z.E.length=σ.length:=hh.len;have hEl:E'.length=s'.σ.length:=h'.heap.len;have WX:fI<σ.length:=(bK.1 hs0).1;obtain⟨pz,xM⟩:∃pz,z.E[fI]? =some pz:=⟨_,bQ (by omega)⟩
            obtain⟨y1,y2,y3,y4,y5,y6,y7,y8⟩:=hh.blk fI pz _ xM hs0;obtain⟨p'',oQ⟩:∃p'':Pl,p''=⟨p.b,p.base+off*sE,A.gen (.os fI g0 G2 jD GW::rest)+1,sE,p.kY⟩:=⟨_,rfl⟩
            have hne:id≠fI:=by omega
            have MS:∀(j:Nat)(q p2:Pl),j≠fI→z.E[j]? =some q→E'[j]? =some p2→p2=q:=by
             intro j q p2 hj hq hp2;have hjl:j<σ.length:=by rw[←hzl];exact(bK.1 hq).1
             obtain⟨p3,m1,m2⟩:=h'.out.env j q hq;rw[hp2]at m1;injection m1 with m1;subst m1
             rcases m2 with m2|⟨m2,m3⟩
             ·exact m2
             ·have hsj:=hsame j hjl hj;have hx0:σ[j]? =some σ[j]:=bQ hjl;have u1:=Ft (hh.blk j q _ hq hx0);have u2:=Ft (h'.heap.blk j p2 _ hp2 (by rw[hsj];exact hx0));omega
            have vk:∃p0,E'[fI]? =some p0:=⟨_,bQ (by omega)⟩
            obtain⟨p0,vk⟩:=vk;have aav:p0.g=g1:=Ft (h'.heap.blk fI p0 _ vk hF)
            have hfr:z.w.heap.size≤p.b:=by
             rcases h'.out.fresh' id p e1 with k|⟨q,hq,_⟩
             ·exact k
             ·rw[iZ (by omega)]at hq;cases hq
            have hm:p∈E':=cx e1
            have hx:Ext (ctx z w' E' bk) (ctx z w' (E'.set fI p'') bO):=by
             refine⟨bH _,λb hb hn=>⟨rfl,?_⟩,λj q hq=>?_,rfl⟩
             ·rintro(k|⟨q,hq,k⟩|⟨i,k⟩)
              ·exact hn (.inl k)
              ·rcases List.mem_or_eq_of_mem_set hq with hq|hq
               ·exact hn (.inr (.inl ⟨q,hq,k⟩))
               ·exact hn (.inr (.inl ⟨p,hm,by rw[←k,hq,oQ]⟩))
              ·cases k
             ·by_cases e:fI=j
              ·subst e;simp only[ctx]at hq;rw[vk]at hq;injection hq with hq;subst hq
               exact⟨p'',by simp only[ctx];rw[jR (bK.1 vk).1],.inr ⟨by omega,by rw[oQ];show p0.g<A.gen (.os fI g0 G2 jD GW::rest)+1;omega⟩⟩
              ·exact⟨q,by simp only[ctx]at hq ⊢;rw[List.getElem?_set_ne e];exact hq,.inl rfl⟩
            have zZ:∀(j:Nat)(q:Pl),(z.E.set fI p'')[j]? =some q→(j=fI∧q=p'')∨(j≠fI∧z.E[j]? =some q):=λj q hq=>by
             by_cases e:fI=j
             ·subst e;rw[jR (bK.1 xM).1]at hq;injection hq with hq;exact .inl ⟨rfl,hq.symm⟩
             ·rw[List.getElem?_set_ne e]at hq;exact .inr ⟨λe'=>e e'.symm,hq⟩
            have N6:∀(j:Nat)(q:Pl),j≠fI→z.E[j]? =some q→E'[j]? =some q:=λj q hj hq=>by have hjl:j<z.E.length:=(bK.1 hq).1;obtain⟨p3,m1,_⟩:=h'.out.env j q hq;rw[m1,MS j q p3 hj hq m1]
            have held:oV (ctx z z.w z.E bO) (ctx z w' (E'.set fI p'') bO) (ctx z w' (z.E.set fI p'') bO):=by
             refine⟨rfl,rfl,λb k=>?_,λj q0 q HM hq=>?_⟩
             ·rcases k with k|⟨q,hq,k⟩|⟨i,k⟩
              ·exact .inl k
              ·obtain⟨j,hj⟩:=tD.1 hq;rcases zZ j q hj with⟨e3,e4⟩|⟨e3,e4⟩
               ·subst e3;exact .inr (.inl ⟨q,cx (i:=j) (by rw[jR (bK.1 vk).1,e4]),k⟩)
               ·exact .inr (.inl ⟨q,cx (i:=j) (by rw[List.getElem?_set_ne (λe=>e3 e.symm)];exact N6 j q e3 e4),k⟩)
              ·cases k
             ·simp only[ctx]at HM hq ⊢;by_cases e:fI=j
              ·subst e;rw[jR (bK.1 vk).1]at hq;rw[jR (bK.1 xM).1];exact hq
              ·rw[List.getElem?_set_ne e]at hq ⊢;rw[MS j q0 q (λe'=>e e'.symm) HM hq];exact HM
            refine⟨z.E.set fI p'',rfl,?_,?_,?_⟩
            ·have o:=h'.out;refine⟨o.os,o.tape,o.output,o.size,o.stay,λj q hq=>?_,λj q hq=>?_,o.lt,o.mine⟩
             ·rcases zZ j q hq with⟨e3,e4⟩|⟨e3,e4⟩
              ·left;rw[e4,oQ];exact hfr
              ·exact .inr ⟨q,e4,rfl⟩
             ·by_cases e:fI=j
              ·subst e;rw[xM]at hq;injection hq with hq;subst hq
               exact⟨p'',jR (bK.1 xM).1,.inr ⟨by omega,by rw[oQ];show pz.g<A.gen (.os fI g0 G2 jD GW::rest)+1;omega⟩⟩
              ·exact⟨q,by rw[List.getElem?_set_ne e];exact hq,.inl rfl⟩
            ·refine⟨by simp [ctx,hzl],λi j q r hq hr he=>?_,λi q x hq cH=>?_⟩
             ·have Nj:∀(j:Nat)(q:Pl),z.E[j]? =some q→q.b<z.w.heap.size:=λj q hq=>hh.lt (p:=q) (cx hq)
              rcases zZ i q hq with⟨e3,e4⟩|⟨e3,e4⟩<;>rcases zZ j r hr with⟨e5,e6⟩|⟨e5,e6⟩
              ·rw[e3,e5]
              ·have:=Nj j r e6;rw[e4,oQ]at he;simp only at he;omega
              ·have:=Nj i q e4;rw[e6,oQ]at he;simp only at he;omega
              ·exact hh.inj i j q r e4 e6 he
             ·rcases zZ i q hq with⟨e3,e4⟩|⟨e3,e4⟩
              ·subst e3;rw[jR WX]at cH;injection cH with cH
               subst cH;subst e4;subst oQ;refine⟨rfl,Nat.succ_pos _,rfl,j4,⟨arr,bt,j5,j6⟩,?_,?_,j9⟩
               ·rw[jJ];show p.base+off*sE+len*sE≤p.kY;omega
               ·refine Ld held sE p.b _ _ (λy hy=>?_) (aW.mono hx sE p.b rfl _ _ ((j8.drop off).take len));rcases Np y hy with k|k
                ·obtain⟨i,hi⟩:=tD.1 k;exact⟨_,_,(aW.nth y7 hi).2⟩
                ·exact KY ha y k
              ·rw[List.getElem?_set_ne (λe=>e3 e.symm)]at cH;have hil:i<σ.length:=(bK.1 cH).1;exact BP held (hh.blk i q x e4 cH) ((h'.heap.blk i q x (N6 i q e3 e4) (by rw[hsame i hil e3];exact cH)).mono hx rfl)
            ·simp only[ak];refine⟨Nat.succ_pos _,p'',by simp only[ctx];exact jR (bK.1 xM).1,by rw[oQ];exact bH _,qa,cp,by rw[jJ],by rw[jJ];exact hcap,λ_=>⟨by rw[oQ],?_,?_⟩⟩
             ·rcases q2 with q2|q2
              ·exact .inl q2
              ·exact .inr (by rw[q2,q1,oQ];simp)
             ·rw[oQ];simp only[Nat.zero_add];rw[q1,eP]at q3;omega
           ·cases k3
          ·cases k3
         ·cases k3
       ·cases k3
      ·cases k3
     ·simp only[Option.some.injEq,Prod.mk.injEq]at k3;obtain⟨rfl,rfl⟩:=k3;exact kept
     ·simp only[Option.some.injEq,Prod.mk.injEq]at k3;obtain⟨rfl,rfl⟩:=k3;exact kept
     ·simp only[Option.some.injEq,Prod.mk.injEq]at k3;obtain⟨rfl,rfl⟩:=k3;exact kept
     ·cases k3
   cases e with
   |normal=>exact done hk
   |ret=>exact done hk
   |exit i=>cases hk
end
end
section
open Go.RowKit
inductive Sh where
 |k
 |s(sz:Nat)
 |e(sz:Nat)(l:List Sh)
 |a(l:List Sh)
 |t(l:List Sh)
 |p(l:List Sh)
namespace A
mutual
def nn:Sh→AV→AV
 |.k,v=>v
 |.s sz,v=>match v with|.aE=>.sl sz []|.ez=>.sl sz []|v=>v
 |.e sz l,v=>match v with|.aE=>.sl sz []|.ez=>.sl sz []|.sl sz' es=>.sl sz' (es.map (bW l))|v=>v
 |.a l,v=>match v with|.agg cs=>.agg (bW l cs)|v=>v
 |.t l,v=>match v with|.aG vs=>.aG (bW l vs)|v=>v
 |.p l,v=>match v with|.rp cs=>.rp (bW l cs)|v=>v
def bW:List Sh→List AV→List AV
 |[],vs=>vs
 |s::ss,vs=>match vs with|[]=>[]|v::vs=>nn s v::bW ss vs
end
def GZ:AV→Bool
 |.os ..=>true
 |.op ..=>true
 |.oe ..=>true
 |.om ..=>true
 |_=>false
def own:AV→Bool
 |.agg cs=>cs.any GZ
 |v=>GZ v
def nV:AV→Bool
 |.int ..=>true
 |.bool ..=>true
 |.str ..=>true
 |.np=>true
 |.aE=>true
 |.ez=>true
 |.nm=>true
 |.qx=>true
 |.sl _ []=>true
 |_=>false
def mV:AV→Bool
 |.agg cs=>cs.all nV
 |v=>nV v
def uO:AV→Bool
 |.aG vs=>vs.all mV
 |v=>mV v
def fresh(v:AV):Bool:=match v with
 |.os ..=>true
 |.om _=>true
 |v=>mV v
def qP:AV→Bool
 |.aG vs=>vs.all fresh
 |v=>fresh v
def yZ:aX→Bool
 |.box cs=>cs.all nV
 |.arr _ _ es=>es.all λe=>e.all nV
 |.map es=>es.all λp=>mV p.1&&mV p.2
 |_=>false
def shift(n:Nat)(v:AV):AV:=match v with
 |.os id g sz off len=>.os (id+n) g sz off len
 |.om id=>.om (id+n)
 |v=>v
def p7(n:Nat):AV→AV
 |.aG vs=>.aG (vs.map (shift n))
 |v=>shift n v
noncomputable def wrap (ro:Bool) (cP:List Sh) (cY:Sh) (r:List AV→Heap→Option (AV×Heap)) (args:List AV) (σ:Heap):Option (AV×Heap):=bif ro&&args.any own then (cX σ 0 8 args).bind λargs=>(r (bW cP args) []).bind λq=>bif qP (nn cY q.1)&&q.2.all yZ then some (p7 σ.length (nn cY q.1),σ++q.2)else none else(r (bW cP args) σ).map λq=>(nn cY q.1,q.2)
noncomputable def qj (sh:Sh) (m:List AV→Heap→Option (AV×Heap)) (args:List AV) (σ:Heap):Option (AV×Heap):=(m args σ).bind λp=>(fin σ p.1 p.2).map λq=>(nn sh q.1,q.2)
noncomputable def Cl (m:List AV→Heap→Option (AV×Heap)) (args:List AV) (σ:Heap):Option (AV×Heap):=match args with
 |[.sl _ []]=>some (.ez,σ)
 |[.aE]=>some (.ez,σ)
 |[.ez]=>some (.ez,σ)
 |[.os _ _ _ _ 0]=>some (.ez,σ)
 |_=>m args σ
end A
def Sound(P:Program)(nm:List Nat)(f:FuncId)(m:List AV→Heap→Option (AV×Heap)):Prop:=∀args σ r σ',m args σ=some (r,σ')→jt P nm f args σ r σ'
section
variable {P : Program} {nm : List Nat} {f : FuncId} {c c' : RC}
theorem Mh{v:Value}(sz:Nat)(hsz:0<sz)(h:ak c .aE v):ak c (.sl sz []) v:=by simp only[ak]at h ⊢;subst h;exact⟨none,0,rfl,bH _,hsz,.inl trivial⟩
theorem MQ{v:Value}(sz:Nat)(hsz:0<sz)(h:ak c .ez v):ak c (.sl sz []) v:=by simp only[ak]at h ⊢;obtain⟨a,rfl⟩:=h;exact⟨a,0,rfl,bH _,hsz,.inl trivial⟩
mutual
def Sh.ok:Sh→Bool
 |.k=>true
 |.s sz=>Nat.blt 0 sz
 |.e sz l=>Nat.blt 0 sz&&Sh.dI l
 |.a l=>Sh.dI l
 |.t l=>Sh.dI l
 |.p l=>Sh.dI l
def Sh.dI:List Sh→Bool
 |[]=>true
 |x::l=>x.ok&&Sh.dI l
end
theorem Lz:∀(l:List Sh)(cs:List AV),(A.bW l cs).length=cs.length
 |[],cs=>by simp [A.bW]
 |_::_,[]=>by simp [A.bW]
 |o::l,v::cs=>by simp [A.bW,Lz l cs]
mutual
theorem wV:∀(s:Sh)(a:AV)(v:Value),s.ok=true→ak c a v→ak c (A.nn s a) v
 |.k,a,v,_,h=>by simpa [A.nn]using h
 |.s sz,a,v,ho,h=>by cases a<;>simp only[A.nn]<;>first|exact h|exact Mh sz (by simpa [Sh.ok]using ho) h|exact MQ sz (by simpa [Sh.ok]using ho) h
 |.e sz l,a,v,ho,h=>by
  simp only[Sh.ok,dP]at ho;cases a<;>simp only[A.nn]<;>first|exact h|exact Mh sz (by simpa using ho.1) h|exact MQ sz (by simpa using ho.1) h|skip
  simp only[ak]at h ⊢;obtain⟨a,cap,e,h1,h2,h3⟩:=h;refine⟨a,cap,by rw[List.length_map];exact e,by rw[List.length_map];exact h1,h2,?_⟩;rcases h3 with h3|⟨b,off,e1,e2,e3,e4⟩
  ·left;rw[h3];rfl
  ·right;exact⟨b,off,e1,e2,e3,Mg l ho.2 _ _ e4⟩
 |.a l,a,v,ho,h=>by
  simp only[Sh.ok]at ho;cases a<;>simp only[A.nn]<;>first|exact h|skip
  simp only[ak]at h ⊢;obtain⟨vs,e,h1,h2⟩:=h;exact⟨vs,e,yY l _ _ ho h1,h2⟩
 |.t ss,a,v,ho,h=>by
  simp only[Sh.ok]at ho;cases a<;>simp only[A.nn]<;>first|exact h|skip
  simp only[ak]at h ⊢;obtain⟨vs,e,h1⟩:=h;exact⟨vs,e,yY ss _ _ ho h1⟩
 |.p l,a,v,ho,h=>by
  simp only[Sh.ok]at ho;cases a<;>simp only[A.nn]<;>first|exact h|skip
  simp only[ak]at h ⊢;obtain⟨b,off,e,h1,h2,h3⟩:=h;exact⟨b,off,e,h1,h2,FZ l _ _ ho h3⟩
theorem yY:∀(ss:List Sh)(l:List AV)(vs:List Value),Sh.dI ss=true→az c l vs→az c (A.bW ss l) vs
 |[],l,vs,_,h=>by simpa [A.bW]using h
 |_::_,[],vs,_,h=>by simpa [A.bW]using h
 |s::ss,a::l,vs,ho,h=>by simp only[Sh.dI,dP]at ho;simp only[A.bW,az]at h ⊢;obtain⟨v,vs',e,h1,h2⟩:=h;exact⟨v,vs',e,wV s a v ho.1 h1,yY ss l vs' ho.2 h2⟩
theorem FZ{b:Nat}:∀(l:List Sh)(cs:List AV)(off:Nat),Sh.dI l=true→aS c b off cs→aS c b off (A.bW l cs)
 |[],cs,off,_,h=>by simpa [A.bW]using h
 |_::_,[],off,_,h=>by simpa [A.bW]using h
 |o::l,a::cs,off,ho,h=>by simp only[Sh.dI,dP]at ho;simp only[A.bW,aS]at h ⊢;obtain⟨⟨v,h1,h2,h3⟩,h4⟩:=h;exact⟨⟨v,h1,h2,wV o a v ho.1 h3⟩,FZ l cs (off+1) ho.2 h4⟩
theorem Mg{sz b:Nat}(l:List Sh)(hl:Sh.dI l=true):∀(es:List (List AV))(off:Nat),aW c sz b off es→aW c sz b off (es.map (A.bW l))
 |[],off,h=>by simp [aW]
 |e::es,off,h=>by simp only[eT,aW]at h ⊢;exact⟨by rw[Lz];exact h.1,FZ l e off hl h.2.1,Mg l hl es _ h.2.2⟩
end
theorem E1:∀{a:AV}{v:Value},A.nV a=true→ak c a v→ak c' a v:=by
 intro a v h r;cases a<;>simp only[A.nV]at h<;>first|(cases h;done)|skip
 case sl sz es=>
  cases es with
  |nil=>simp only[ak]at r ⊢;obtain⟨q,cap,e,h1,h2,_⟩:=r;exact⟨q,cap,e,h1,h2,.inl trivial⟩
  |cons _ _=>simp at h
 all_goals simpa [ak]using r
theorem JL:∀{l:List AV}{vs:List Value},l.all A.nV=true→az c l vs→az c' l vs
 |[],vs,_,r=>by simpa [az]using r
 |a::l,vs,h,r=>by simp only[List.all_cons,dP]at h;simp only[az]at r ⊢;obtain⟨v,vs',e,h1,h2⟩:=r;exact⟨v,vs',e,E1 h.1 h1,JL h.2 h2⟩
theorem E3{a:AV}{v:Value}(h:A.mV a=true)(r:ak c a v):ak c' a v:=by
 unfold A.mV at h;split at h
 ·simp only[ak]at r ⊢;obtain⟨vs,e,h1,h2⟩:=r;exact⟨vs,e,JL h h1,h2⟩
 ·exact E1 h r
theorem jt.conv{args args':List AV}{σ σ':Heap}{r r':AV}(h:jt P nm f args' σ r σ')(ha:∀c vs,az c args vs→az c args' vs)(hr:∀c v,ak c r v→ak c r' v):jt P nm f args σ r' σ':=by
 rcases h with⟨g,h1,h2⟩|h
 ·refine .inl ⟨g,h1,λz vs e1 e2 e3 e4=>(h2 z vs e1 e2 e3 (ha _ _ e4)).mono ?_⟩;rintro e w' ⟨v,E',k1,k2,k3,k4⟩;exact⟨v,E',k1,k2,k3,hr _ _ k4⟩
 ·refine .inr λz vs e1 e2 e3 e4=>?_
  obtain⟨v,w',E',k1,k2,k3,k4⟩:=h z vs e1 e2 e3 (ha _ _ e4);exact⟨v,w',E',k1,k2,k3,hr _ _ k4⟩
theorem Kr{z0 z:Z}{w':World}{E':List Pl}{n:Nat}(hn:n=z.E.length){a:AV}{v:Value}(h:A.fresh a=true)(r:ak (ctx z0 w' E' bO) a v):ak (ctx z w' (z.E++E') bO) (A.shift n a) v:=by
 have key:∀(id:Nat)(p:Pl),E'[id]? =some p→(z.E++E')[id+n]? =some p:=λid p hp=>by rw[eC (by omega),hn,Nat.add_sub_cancel];exact hp
 unfold A.fresh at h;unfold A.shift;split at h
 ·simp only[ak]at r ⊢;obtain⟨hg,p,h1,h2,r⟩:=r;exact⟨hg,p,key _ _ h1,h2,r⟩
 ·simp only[ak]at r ⊢;obtain⟨p,h1,h2,r⟩:=r;exact⟨p,key _ _ h1,h2,r⟩
 ·exact E3 h r
theorem RB{z0 z:Z}{w':World}{E':List Pl}{n:Nat}(hn:n=z.E.length){vs:List AV}{v:Value}(h:vs.all A.fresh=true)(r:ak (ctx z0 w' E' bO) (.aG vs) v):ak (ctx z w' (z.E++E') bO) (A.p7 n (.aG vs)) v:=by
 simp only[ak,A.p7]at r ⊢;obtain⟨us,rfl,r⟩:=r;refine⟨us,rfl,?_⟩;generalize us.toList=us' at r ⊢;induction vs generalizing us' with
 |nil=>simpa [az]using r
 |cons x l ih=>simp only[List.all_cons,dP]at h;simp only[az,eT]at r ⊢;obtain⟨v,vs',e,h1,h2⟩:=r;exact⟨v,vs',e,Kr hn h.1 h1,ih h.2 _ h2⟩
theorem Sf{z0 z:Z}{w':World}{E':List Pl}{n:Nat}(hn:n=z.E.length){a:AV}{v:Value}(h:A.qP a=true)(r:ak (ctx z0 w' E' bO) a v):ak (ctx z w' (z.E++E') bO) (A.p7 n a) v:=by
 by_cases ht:∃vs,a=.aG vs
 ·obtain⟨vs,rfl⟩:=ht;exact RB hn h r
 ·have e1:A.qP a=A.fresh a:=by cases a<;>first|rfl|exact absurd ⟨_,rfl⟩ ht
  have e2:A.p7 n a=A.shift n a:=by cases a<;>first|rfl|exact absurd ⟨_,rfl⟩ ht
  rw[e1]at h;rw[e2];exact Kr hn h r
theorem EC{b:Nat}:∀{l:List AV}{off:Nat},l.all A.nV=true→c'.w=c.w→aS c b off l→aS c' b off l
 |[],off,_,_,_=>by simp [aS]
 |a::l,off,h,hw,r=>by simp only[List.all_cons,dP]at h;simp only[aS]at r ⊢;obtain⟨⟨v,h1,h2,h3⟩,h4⟩:=r;exact⟨⟨v,by rw[hw];exact h1,h2,E1 h.1 h3⟩,EC h.2 hw h4⟩
theorem Jr{sz b:Nat}:∀{l:List (List AV)}{off:Nat},(l.all λe=>e.all A.nV)=true→c'.w=c.w→aW c sz b off l→aW c' sz b off l
 |[],off,_,_,_=>by simp [aW]
 |a::l,off,h,hw,r=>by simp only[List.all_cons,dP]at h;simp only[aW]at r ⊢;obtain⟨h1,h2,h3⟩:=r;exact⟨h1,EC h.1 hw h2,Jr h.2 hw h3⟩
theorem JM:∀{l:List (AV×AV)}{es:List MapEntry},(l.all λp=>A.mV p.1&&A.mV p.2)=true→bC c l es→bC c' l es
 |[],es,_,r=>by simpa [bC]using r
 |(k,v)::l,es,h,r=>by simp only[List.all_cons,dP]at h;simp only[bC]at r ⊢;obtain⟨e,es',h1,h2,h3,h4⟩:=r;exact⟨e,es',h1,E3 h.1.1 h2,E3 h.1.2 h3,JM h.2 h4⟩
theorem RS{p:Pl}{x:aX}(h:A.yZ x=true)(hw:c'.w=c.w)(r:jO c p x):jO c' p x:=by
 cases x with
 |box cs=>obtain⟨h1,⟨⟨arr,t,h2,h3⟩,h4⟩⟩:=r;exact⟨h1,⟨arr,t,by rw[hw];exact h2,h3⟩,EC h hw h4⟩
 |arr g sz es=>obtain⟨h1,h2,h3,h4,⟨arr,t,h5,h6⟩,h7,h8,h9⟩:=r;exact⟨h1,h2,h3,h4,⟨arr,t,by rw[hw];exact h5,h6⟩,h7,Jr h hw h8,λarr t fz e=>h9 arr t fz (by rw[←hw];exact e)⟩
 |map es=>obtain⟨h1,aR,aU,h2,hwf,h3⟩:=r;exact⟨h1,aR,aU,by rw[hw];exact h2,hwf,JM h h3⟩
 |i7 g sz es=>cases h
 |it cur left=>cases h
theorem KR{z:Z}{σ σ':Heap}{r:AV}{v:Value}{w':World}{E':List Pl}(e2:∀b,z.X b→b<z.w.heap.size)(hh:dR (ctx z z.w z.E bO) σ)(hv:A.qP r=true)(hb:σ'.all A.yZ=true)
  (k2:Out ⟨z.w,[],λ_=>False,z.nm⟩ w' E') (k3:dR (ctx ⟨z.w,[],λ_=>False,z.nm⟩ w' E' bO) σ') (k4:ak (ctx ⟨z.w,[],λ_=>False,z.nm⟩ w' E' bO) r v):
  ∃ff,Out z w' ff∧dR (ctx z w' ff bO) (σ++σ')∧ak (ctx z w' ff bO) (A.p7 σ.length r) v:=by
 have hlen:z.E.length=σ.length:=hh.len;have hlen':E'.length=σ'.length:=k3.len;have hst:∀b,b<z.w.heap.size→w'.heap[b]? =z.w.heap[b]? :=λb hb=>k2.stay b hb (λp hp=>by cases hp)
 have hlt:∀p∈z.E,p.b<z.w.heap.size:=λp hp=>hh.lt hp
 have hfr:∀p∈E',z.w.heap.size≤p.b:=λp hp=>by
  rcases k2.fresh p hp with k|⟨q,hq,_⟩
  ·exact k
  ·cases hq
 have hx:Ext (ctx z z.w z.E bO) (ctx z w' (z.E++E') bO):=by
  refine⟨k2.size,λb hb hn=>⟨hst b hb,?_⟩,λi p hp=>⟨p,?_,.inl rfl⟩,rfl⟩
  ·rintro(k|⟨p,hp,k⟩|⟨i,k⟩)
   ·exact hn (.inl k)
   ·rcases dg.1 hp with hp|hp
    ·exact hn (.inr (.inl ⟨p,hp,k⟩))
    ·have:=hfr p hp;simp only[ctx]at hb;omega
   ·cases k
  ·simp only[ctx]at hp ⊢;rw[eG (bK.1 hp).1];exact hp
 have key:∀(i:Nat)(p:Pl),(z.E++E')[i]? =some p→(i<z.E.length∧z.E[i]? =some p)∨(z.E.length≤i∧E'[i-z.E.length]? =some p):=λi p hp=>by
  by_cases hi:i<z.E.length
  ·rw[eG hi]at hp;exact .inl ⟨hi,hp⟩
  ·rw[eC (by omega)]at hp;exact .inr ⟨by omega,hp⟩
 refine⟨z.E++E',⟨k2.os,k2.tape,k2.output,k2.size,λb hb _=>hst b hb,λi p hp=>?_,λi p hp=>⟨p,?_,.inl rfl⟩,e2,hlt⟩,⟨by simp [ctx,hlen,hlen'],λi j p q hp hq e=>?_,λi p x hp cH=>?_⟩,Sf hlen.symm hv k4⟩
 ·rcases key i p hp with⟨_,k⟩|⟨_,k⟩
  ·exact .inr ⟨p,k,rfl⟩
  ·exact .inl (hfr p (cx k))
 ·rw[eG (bK.1 hp).1];exact hp
 ·simp only[ctx]at hp hq;rcases key i p hp with⟨i1,k⟩|⟨i1,k⟩<;>rcases key j q hq with⟨j1,m⟩|⟨j1,m⟩
  ·exact hh.inj i j p q k m e
  ·have:=hlt p (cx k);have:=hfr q (cx m);omega
  ·have:=hlt q (cx m);have:=hfr p (cx k);omega
  ·have:=k3.inj _ _ p q k m e;omega
 ·simp only[ctx]at hp;rcases key i p hp with⟨i1,k⟩|⟨i1,k⟩
  ·rw[eG (by omega)]at cH;exact(hh.blk i p x k cH).mono hx (hst _ (hlt p (cx k)))
  ·rw[eC (by omega),←hlen]at cH;exact RS (c:=ctx ⟨z.w,[],λ_=>False,z.nm⟩ w' E' bO) (mw.1 hb x (cx cH)) rfl (k3.blk _ p x k cH)
theorem jt.zA{args args':List AV}{σ σ':Heap}{r:AV}(h:jt P nm f args' [] r σ')(ha:A.cX σ 0 8 args=some args')(hv:A.qP r=true)(hb:σ'.all A.yZ=true):jt P nm f args σ (A.p7 σ.length r) (σ++σ'):=by
 have hX:∀(z:Z)b,¬(ctx ⟨z.w,[],λ_=>False,z.nm⟩ z.w [] bO).X b:=by
  rintro z b (k|⟨p,hp,_⟩|⟨i,k⟩)
  ·exact k.elim
  ·cases hp
  ·cases k
 have mo:∀(z:Z),dR (ctx z z.w z.E bO) σ→oN (ctx z z.w z.E bO) (ctx ⟨z.w,[],λ_=>False,z.nm⟩ z.w [] bO) σ 0:=λz hh=>
  ⟨rfl,rfl,λb k=>(hX z b k).elim,λid p k=>absurd k (Nat.not_lt_zero _),hh,λid p _ _=>hX z _⟩
 have h0:∀(z:Z),dR (ctx ⟨z.w,[],λ_=>False,z.nm⟩ z.w [] bO) []:=λz=>by
  refine⟨rfl,λi j p q hp=>?_,λi p x hp=>?_⟩
  ·simp [ctx]at hp
  ·simp [ctx]at hp
 rcases h with⟨g,h1,h2⟩|h2
 ·refine .inl ⟨g,h1,λz vs e1 e2 hh e4=>?_⟩;have ha':az (ctx ⟨z.w,[],λ_=>False,z.nm⟩ z.w [] bO) args' vs.toList:=wE (mo z hh) 8 (λav bL v _ e r=>pU (mo z hh) 8 _ _ _ e r) _ _ _ ha e4;refine(h2 ⟨z.w,[],λ_=>False,z.nm⟩ vs e1 (λb k=>k.elim) (h0 z) ha').mono ?_;rintro e w' ⟨v,E',k1,k2,k3,k4⟩;obtain⟨ff,q1,q2,q3⟩:=KR e2 hh hv hb k2 k3 k4;exact⟨v,ff,k1,q1,q2,q3⟩
 ·refine .inr λz vs e1 e2 hh e4=>?_
  have ha':az (ctx ⟨z.w,[],λ_=>False,z.nm⟩ z.w [] bO) args' vs.toList:=wE (mo z hh) 8 (λav bL v _ e r=>pU (mo z hh) 8 _ _ _ e r) _ _ _ ha e4;obtain⟨v,w',E',k1,k2,k3,k4⟩:=h2 ⟨z.w,[],λ_=>False,z.nm⟩ vs e1 (λb k=>k.elim) (h0 z) ha';obtain⟨ff,q1,q2,q3⟩:=KR e2 hh hv hb k2 k3 k4;exact⟨v,w',ff,k1,q1,q2,q3⟩
theorem Lf{z:Z}{w':World}{E':List Pl}{σ σ1 σ':Heap}{x r:AV}{v:Value}(hh:dR (ctx z z.w z.E bO) σ)(hlt:∀b,z.X b→b<z.w.heap.size)(ho:Out z w' E')(hr:dR (ctx z w' E' bO) σ1)(rv:ak (ctx z w' E' bO) x v)(k3:A.fin σ x σ1=some (r,σ')):
  ∃ff,Out z w' ff∧dR (ctx z w' ff bO) σ'∧ak (ctx z w' ff bO) r v:=by
 unfold A.fin at k3;split at k3
 ·rename_i he;simp only[Option.some.injEq,Prod.mk.injEq]at k3;obtain⟨rfl,rfl⟩:=k3;exact⟨E',ho,by rw[←he];exact hr,rv⟩
 ·split at k3
  ·rename_i he;obtain⟨r',k6,k7⟩:=cq.1 k3;simp only[Prod.mk.injEq]at k7;obtain⟨rfl,rfl⟩:=k7;have hlen:=hr.len;simp only[ctx]at hlen;have hzl:z.E.length=σ.length:=hh.len
   have Ni:σ.length≤σ1.length:=by have:=congrArg List.length he;simp at this;omega
   have iy:∀(id:Nat)(p:Pl),id<σ.length→E'[id]? =some p→(E'.take σ.length)[id]? =some p:=λid p hlt' hp=>by rw[List.getElem?_take_of_lt hlt'];exact hp
   have jV:∀(id:Nat)(p:Pl),(E'.take σ.length)[id]? =some p→id<σ.length∧E'[id]? =some p:=λid p hp=>by
    rw[List.getElem?_take]at hp;split at hp
    ·exact⟨by assumption,hp⟩
    ·cases hp
   have mo:oN (ctx z w' E' bO) (ctx z w' (E'.take σ.length) bO) σ1 σ.length:=by
    refine⟨rfl,rfl,λb k=>?_,iy,hr,λid p hge hp k=>?_⟩
    ·rcases k with k|⟨p,hp,k⟩|⟨i,k⟩
     ·exact .inl k
     ·exact .inr (.inl ⟨p,rz hp,k⟩)
     ·cases k
    ·rcases k with k|⟨q,hq,k⟩|⟨i,k⟩
     ·have hb:=hlt _ k;rcases ho.fresh' id p hp with e|⟨q,hq,_⟩
      ·omega
      ·rw[iZ (by omega)]at hq;cases hq
     ·obtain⟨j,hj,rfl⟩:=List.mem_iff_getElem.1 hq;obtain⟨h1,h2⟩:=jV j _ (bQ hj);have:=hr.inj j id _ p h2 hp k;omega
     ·cases k
   have heq:∀(id:Nat),id<σ.length→σ[id]? =σ1[id]? :=λid hlt'=>by have h1:(List.take σ.length σ1)[id]? =σ1[id]? :=List.getElem?_take_of_lt hlt';rw[he]at h1;exact h1
   have held:oV (ctx z z.w z.E bO) (ctx z w' E' bO) (ctx z w' (E'.take σ.length) bO):=
    ⟨rfl,rfl,mo.X,λid p0 p e0 e1=>iy id p (by have:=(bK.1 e0).1;simp only[ctx]at this;omega) e1⟩
   refine⟨E'.take σ.length,?_,?_,pU mo 8 _ _ _ k6 rv⟩
   ·have o:=ho
    exact⟨o.os,o.tape,o.output,o.size,o.stay,λi p hp=>o.fresh' i p (jV i p hp).2,λi p hp=>by
     obtain⟨p',m1,m2⟩:=o.env i p hp
     exact⟨p',iy i p' (by have:=(bK.1 hp).1;omega) m1,m2⟩,o.lt,o.mine⟩
   ·refine⟨by simp only[ctx,i6];omega,λi j p q hp hq e=>hr.inj i j p q (jV i p hp).2 (jV j q hq).2 e,λi p x hp hx=>?_⟩;obtain⟨hi,hp2⟩:=jV i p hp;have cS:z.E[i]? =some z.E[i]:=bQ (by omega);exact BP held (hh.blk i _ x cS hx) (hr.blk i p x hp2 (by rw[←heq i hi];exact hx))
  ·cases k3
theorem Sound.qj{m:List AV→Heap→Option (AV×Heap)}(h:Sound P nm f m)(sh:Sh)(hs:sh.ok=true):Sound P nm f (A.qj sh m):=by
 intro args σ r σ' e;unfold A.qj at e;obtain⟨⟨x,σ1⟩,e1,e2⟩:=aY.1 e;obtain⟨⟨y,σ2⟩,e3,e4⟩:=cq.1 e2;simp only[Prod.mk.injEq]at e4;obtain⟨rfl,rfl⟩:=e4;rcases h _ _ _ _ e1 with⟨g,h1,h2⟩|h2
 ·refine .inl ⟨g,h1,λz vs k1 k2 hh k4=>?_⟩;refine(h2 z vs k1 k2 hh k4).mono ?_;rintro e w' ⟨v,E',q1,q2,q3,q4⟩;obtain⟨ff,p1,p2,p3⟩:=Lf hh k2 q2 q3 q4 e3;exact⟨v,ff,q1,p1,p2,wV _ _ _ hs p3⟩
 ·refine .inr λz vs k1 k2 hh k4=>?_
  obtain⟨v,w',E',q1,q2,q3,q4⟩:=h2 z vs k1 k2 hh k4;obtain⟨ff,p1,p2,p3⟩:=Lf hh k2 q2 q3 q4 e3;exact⟨v,w',ff,q1,p1,p2,wV _ _ _ hs p3⟩
theorem Sound.wrap{r:List AV→Heap→Option (AV×Heap)}(h:Sound P nm f r)(ro:Bool)(cP:List Sh)(cY:Sh)(hi:Sh.dI cP=true)(ho:cY.ok=true):Sound P nm f (A.wrap ro cP cY r):=by
 intro args σ v σ' e;unfold A.wrap at e;cases hc:(ro&&args.any A.own)
 ·rw[hc]at e;simp only[aQ]at e;obtain⟨q,e1,e2⟩:=cq.1 e;injection e2 with e2 e3
  subst e2 e3;exact(h _ _ _ _ e1).conv (λc vs k=>yY _ _ _ hi k) (λc v k=>wV _ _ _ ho k)
 ·rw[hc]at e;simp only[bh]at e;obtain⟨args',e1,e2⟩:=aY.1 e;obtain⟨q,e3,e4⟩:=aY.1 e2;obtain⟨q1,q2⟩:=q;simp only at e4;cases hs:(A.qP (A.nn cY q1)&&q2.all A.yZ)
  ·rw[hs]at e4;cases e4
  ·rw[hs]at e4;simp only[bh,Option.some.injEq,Prod.mk.injEq]at e4;obtain⟨rfl,rfl⟩:=e4;simp only[dP]at hs;exact((h _ _ _ _ e3).conv (args:=args') (λc vs k=>yY _ _ _ hi k) (λc v k=>wV _ _ _ ho k)).zA e1 hs.1 hs.2
end
theorem cM.of{X:Fx}{t:List (FuncId×(List AV→Heap→Option (AV×Heap)))}(hc:X.call=A.tab (λ_ _=>none) t) (ht:∀p∈t,Sound X.P X.nm p.1 p.2) (hd:∀f,Sound X.P X.nm f (X.dyn (X.nm.getD f 0))):cM X:=by
 refine⟨λf args σ r σ' h=>?_,λf=>hd f⟩;rw[hc]at h;clear hc;induction t with
 |nil=>cases h
 |cons p t ih=>
  obtain⟨m,x⟩:=p;simp only[A.tab]at h;cases hm:(f==m)
  ·rw[hm]at h;exact ih (λp hp=>ht p (ru _ hp)) h
  ·rw[hm]at h;have:f=m:=by simpa using hm
   subst this;exact ht (f,x) (List.mem_cons_self) _ _ _ _ h
theorem Sound.none{P:Program}{nm:List Nat}{f:FuncId}:Sound P nm f (λ_ _=>Option.none):=λ_ _ _ _ h=>by cases h
theorem aP.nil{P:Program}{nm:List Nat}:∀p∈([]:List (FuncId×(List AV→Heap→Option (AV×Heap)))),Sound P nm p.1 p.2:=λ_ h=>by cases h
theorem aP.cons{P:Program}{nm:List Nat}{f:FuncId}{m:List AV→Heap→Option (AV×Heap)}{l:List (FuncId×(List AV→Heap→Option (AV×Heap)))}(h:Sound P nm f m)(t:∀p∈l,Sound P nm p.1 p.2):∀p∈(f,m)::l,Sound P nm p.1 p.2:=
 λp hp=>by rcases dc.1 hp with rfl|hp;exact h;exact t p hp
theorem gu.nil{P:Program}{nm:List Nat}:∀p∈([]:List (Nat×(List AV→Heap→Option (AV×Heap)))),∀f,nm.getD f 0=p.1→Sound P nm f p.2:=λ_ h=>by cases h
theorem gu.cons{P:Program}{nm:List Nat}{k:Nat}{m:List AV→Heap→Option (AV×Heap)}{l:List (Nat×(List AV→Heap→Option (AV×Heap)))}(h:∀f,nm.getD f 0=k→Sound P nm f m)(t:∀p∈l,∀f,nm.getD f 0=p.1→Sound P nm f p.2):∀p∈(k,m)::l,∀f,nm.getD f 0=p.1→Sound P nm f p.2:=
 λp hp=>by rcases dc.1 hp with rfl|hp;exact h;exact t p hp
theorem pY{P:Program}{nm:List Nat}{t:List (Nat×(List AV→Heap→Option (AV×Heap)))}(ht:∀p∈t,∀f,nm.getD f 0=p.1→Sound P nm f p.2)(f:FuncId):Sound P nm f (A.tab (λ_ _=>Option.none) t (nm.getD f 0)):=by
 induction t with
 |nil=>exact Sound.none
 |cons p t ih=>
  obtain⟨k,x⟩:=p;simp only[A.tab];cases hm:(nm.getD f 0==k)
  ·exact ih (λp hp=>ht p (ru _ hp))
  ·exact ht (k,x) List.mem_cons_self f (by simpa using hm)
theorem VJ{nm:List Nat}{k g:Nat}(h:(nm.zipIdx.filter λp=>p.1==k)=[(k,g)]) (hk:(0==k)=false) {f:Nat} (hf:nm.getD f 0=k):f=g:=by
 have hlt:f<nm.length:=by
  rcases Nat.lt_or_ge f nm.length with e|e
  ·exact e
  ·simp only[List.getD,iZ e,Option.getD_none]at hf;subst hf;simp at hk
 have:(k,f)∈nm.zipIdx.filter λp=>p.1==k:=by refine List.mem_filter.2 ⟨tD.2 ⟨f,?_⟩,by simp⟩;simp only[List.getD]at hf;rw[bQ hlt]at hf;simp [bQ hlt,←hf]
 rw[h]at this;simpa using this
theorem mP{P:Program}{nm:List Nat}{k g:Nat}{m:List AV→Heap→Option (AV×Heap)}(hs:Sound P nm g m)(h:(nm.zipIdx.filter λp=>p.1==k)=[(k,g)]) (hk:(0==k)=false):∀f,nm.getD f 0=k→Sound P nm f m:=
 λf hf=>by have e:=VJ h hk hf;subst e;exact hs
def fuel(F:(Nat→List AV→Heap→Option (AV×Heap))→List (Nat×(List AV→Heap→Option (AV×Heap)))):Nat→Nat→List AV→Heap→Option (AV×Heap)
 |0,_=>λ_ _=>none
 |n+1,k=>A.tab (λ_ _=>none) (F (fuel F n)) k
theorem JA{P:Program}{nm:List Nat}{F:(Nat→List AV→Heap→Option (AV×Heap))→List (Nat×(List AV→Heap→Option (AV×Heap)))}
  (h:∀rec,(∀f,Sound P nm f (rec (nm.getD f 0)))→∀p∈F rec,∀f,nm.getD f 0=p.1→Sound P nm f p.2):∀n f,Sound P nm f (fuel F n (nm.getD f 0))
 |0,f=>Sound.none
 |n+1,f=>pY (h (fuel F n) (JA h n)) f
namespace A
def fG(f:AV→Heap→Option (AV×Heap)):List AV→Heap→Option (AV×Heap)
 |[x0],σ=>f x0 σ
 |_,_=>none
def dh(f:AV→AV→Heap→Option (AV×Heap)):List AV→Heap→Option (AV×Heap)
 |[x0,x1],σ=>f x0 x1 σ
 |_,_=>none
def jX(f:AV→AV→AV→Heap→Option (AV×Heap)):List AV→Heap→Option (AV×Heap)
 |[x0,x1,x2],σ=>f x0 x1 x2 σ
 |_,_=>none
def uT(f:AV→AV→AV→AV→Heap→Option (AV×Heap)):List AV→Heap→Option (AV×Heap)
 |[x0,x1,x2,x3],σ=>f x0 x1 x2 x3 σ
 |_,_=>none
def lR(f:AV→AV→AV→AV→AV→Heap→Option (AV×Heap)):List AV→Heap→Option (AV×Heap)
 |[x0,x1,x2,x3,x4],σ=>f x0 x1 x2 x3 x4 σ
 |_,_=>none
def tT(f:AV→AV→AV→AV→AV→AV→Heap→Option (AV×Heap)):List AV→Heap→Option (AV×Heap)
 |[x0,x1,x2,x3,x4,x5],σ=>f x0 x1 x2 x3 x4 x5 σ
 |_,_=>none
def G9(f:AV→AV→AV→AV→AV→AV→AV→Heap→Option (AV×Heap)):List AV→Heap→Option (AV×Heap)
 |[x0,x1,x2,x3,x4,x5,x6],σ=>f x0 x1 x2 x3 x4 x5 x6 σ
 |_,_=>none
end A
section
variable {X : Fx} {f : FuncId} {fn : Func} {bz : ig}
theorem Sound.CZ{m:AV→Heap→Option (AV×Heap)}(keep:kR)(hkeep:keep.Ok)(hs:cM X)(hf:X.P.funcs[f]? =some fn)(hc:∀bR w,(callFunc f bR).run X.P w=.ok (.enter f bR) w)(he:∀(x0:AV) (σ:Heap),kV X keep bz fn [x0] σ=m x0 σ):Sound X.P X.nm f (A.fG m):=by
 intro args σ r σ' h;unfold A.fG at h;split at h
 ·exact uu hs hkeep hf hc ((he _ _).trans h)
 ·cases h
theorem Sound.oU{m:AV→AV→Heap→Option (AV×Heap)}(keep:kR)(hkeep:keep.Ok)(hs:cM X)(hf:X.P.funcs[f]? =some fn)(hc:∀bR w,(callFunc f bR).run X.P w=.ok (.enter f bR) w)(he:∀(x0 x1:AV) (σ:Heap),kV X keep bz fn [x0,x1] σ=m x0 x1 σ):Sound X.P X.nm f (A.dh m):=by
 intro args σ r σ' h;unfold A.dh at h;split at h
 ·exact uu hs hkeep hf hc ((he _ _ _).trans h)
 ·cases h
theorem Sound.zC{m:AV→AV→AV→Heap→Option (AV×Heap)}(keep:kR)(hkeep:keep.Ok)(hs:cM X)(hf:X.P.funcs[f]? =some fn)(hc:∀bR w,(callFunc f bR).run X.P w=.ok (.enter f bR) w)(he:∀(x0 x1 x2:AV) (σ:Heap),kV X keep bz fn [x0,x1,x2] σ=m x0 x1 x2 σ):Sound X.P X.nm f (A.jX m):=by
 intro args σ r σ' h;unfold A.jX at h;split at h
 ·exact uu hs hkeep hf hc ((he _ _ _ _).trans h)
 ·cases h
theorem Sound.NA{m:AV→AV→AV→AV→Heap→Option (AV×Heap)}(keep:kR)(hkeep:keep.Ok)(hs:cM X)(hf:X.P.funcs[f]? =some fn)(hc:∀bR w,(callFunc f bR).run X.P w=.ok (.enter f bR) w)(he:∀(x0 x1 x2 x3:AV) (σ:Heap),kV X keep bz fn [x0,x1,x2,x3] σ=m x0 x1 x2 x3 σ):Sound X.P X.nm f (A.uT m):=by
 intro args σ r σ' h;unfold A.uT at h;split at h
 ·exact uu hs hkeep hf hc ((he _ _ _ _ _).trans h)
 ·cases h
theorem Sound.C0{m:AV→AV→AV→AV→AV→Heap→Option (AV×Heap)}(keep:kR)(hkeep:keep.Ok)(hs:cM X)(hf:X.P.funcs[f]? =some fn)(hc:∀bR w,(callFunc f bR).run X.P w=.ok (.enter f bR) w)(he:∀(x0 x1 x2 x3 x4:AV) (σ:Heap),kV X keep bz fn [x0,x1,x2,x3,x4] σ=m x0 x1 x2 x3 x4 σ):Sound X.P X.nm f (A.lR m):=by
 intro args σ r σ' h;unfold A.lR at h;split at h
 ·exact uu hs hkeep hf hc ((he _ _ _ _ _ _).trans h)
 ·cases h
theorem Sound.G1{m:AV→AV→AV→AV→AV→AV→Heap→Option (AV×Heap)}(keep:kR)(hkeep:keep.Ok)(hs:cM X)(hf:X.P.funcs[f]? =some fn)(hc:∀bR w,(callFunc f bR).run X.P w=.ok (.enter f bR) w)(he:∀(x0 x1 x2 x3 x4 x5:AV) (σ:Heap),kV X keep bz fn [x0,x1,x2,x3,x4,x5] σ=m x0 x1 x2 x3 x4 x5 σ):Sound X.P X.nm f (A.tT m):=by
 intro args σ r σ' h;unfold A.tT at h;split at h
 ·exact uu hs hkeep hf hc ((he _ _ _ _ _ _ _).trans h)
 ·cases h
theorem Sound.Xj{m:AV→AV→AV→AV→AV→AV→AV→Heap→Option (AV×Heap)}(keep:kR)(hkeep:keep.Ok)(hs:cM X)(hf:X.P.funcs[f]? =some fn)(hc:∀bR w,(callFunc f bR).run X.P w=.ok (.enter f bR) w)(he:∀(x0 x1 x2 x3 x4 x5 x6:AV) (σ:Heap),kV X keep bz fn [x0,x1,x2,x3,x4,x5,x6] σ=m x0 x1 x2 x3 x4 x5 x6 σ):Sound X.P X.nm f (A.G9 m):=by
 intro args σ r σ' h;unfold A.G9 at h;split at h
 ·exact uu hs hkeep hf hc ((he _ _ _ _ _ _ _ _).trans h)
 ·cases h
end
end
abbrev C4:Sh:=(.t [(.a [.k,.k,(.e 7 [.k,.k,.k,.k,.k,.k,(.s 3)])]),.k])
abbrev lJ:List Sh:=[.k,.k,(.s 3)]
abbrev oM:Sh:=(.a [(.s 3),(.s 4)])
section
set_option maxRecDepth 100000
noncomputable def aF:List Nat:=[0,0,0,0,450,451,101,0,102,441,444,448,449,139,94,117,118,121,119,3,124,122,14,69,12,13,71,21,88,22,92,53,0,440,443,1,73,2,334,112,113,445,447,4,89,5,6,138,93,120,123,63,66,67,68,10,11,70,20,85,86,87,90,91,52,0,108,147,146,442,72,0,116,446,0,62,65,64,9,16,19,84,0,24,107,0,111,115,0,59,60,61,15,18,81,83,25,0,0,0,23,103,106,110,114,0,58,17,80,82,0,32,0,27,33,0,105,109,26,0,0,34,104,0,0,28,29,30,31,0,0,0,0,0,0,0,0,0,0,0,0,0,0,0,0,0]
section
variable {l : List (FuncId × (an → Heap → au))} {f : FuncId} {fn : Func} {ro : Bool} {cP : List Sh} {cY : Sh}
noncomputable def vc (l:List (FuncId×(an→Heap→au))) (L:List Nat) (n:Nat):Fx:=⟨Try.prog,aF,A.tab (λ_ _=>none) l,λ_ _ _=>none,L,[],n,[]⟩
theorem q1{m:AV→Heap→au}(L:List Nat)(n:Nat)(bz:ig)(h:∀p∈l,Sound Try.prog aF p.1 p.2)(hf:Try.prog.funcs[f]? =some fn)(hc:∀bR w,(callFunc f bR).run Try.prog w=.ok (.enter f bR) w)(he:∀(x0:AV) (σ:Heap),kV (vc l L n) .F bz fn [x0] σ=m x0 σ)(hi:Sh.dI cP=true)(ho:cY.ok=true):Sound Try.prog aF f (A.wrap ro cP cY (A.fG m)):=Sound.wrap (Sound.CZ .F trivial (cM.of rfl h λ_=>Sound.none) hf hc he) _ _ _ hi ho
theorem q2{m:AV→AV→Heap→au}(L:List Nat)(n:Nat)(bz:ig)(h:∀p∈l,Sound Try.prog aF p.1 p.2)(hf:Try.prog.funcs[f]? =some fn)(hc:∀bR w,(callFunc f bR).run Try.prog w=.ok (.enter f bR) w)(he:∀(x0 x1:AV) (σ:Heap),kV (vc l L n) .F bz fn [x0,x1] σ=m x0 x1 σ)(hi:Sh.dI cP=true)(ho:cY.ok=true):Sound Try.prog aF f (A.wrap ro cP cY (A.dh m)):=Sound.wrap (Sound.oU .F trivial (cM.of rfl h λ_=>Sound.none) hf hc he) _ _ _ hi ho
theorem q3{m:AV→AV→AV→Heap→au}(L:List Nat)(n:Nat)(bz:ig)(h:∀p∈l,Sound Try.prog aF p.1 p.2)(hf:Try.prog.funcs[f]? =some fn)(hc:∀bR w,(callFunc f bR).run Try.prog w=.ok (.enter f bR) w)(he:∀(x0 x1 x2:AV) (σ:Heap),kV (vc l L n) .F bz fn [x0,x1,x2] σ=m x0 x1 x2 σ)(hi:Sh.dI cP=true)(ho:cY.ok=true):Sound Try.prog aF f (A.wrap ro cP cY (A.jX m)):=Sound.wrap (Sound.zC .F trivial (cM.of rfl h λ_=>Sound.none) hf hc he) _ _ _ hi ho
theorem q4{m:AV→AV→AV→AV→Heap→au}(L:List Nat)(n:Nat)(bz:ig)(h:∀p∈l,Sound Try.prog aF p.1 p.2)(hf:Try.prog.funcs[f]? =some fn)(hc:∀bR w,(callFunc f bR).run Try.prog w=.ok (.enter f bR) w)(he:∀(x0 x1 x2 x3:AV) (σ:Heap),kV (vc l L n) .F bz fn [x0,x1,x2,x3] σ=m x0 x1 x2 x3 σ)(hi:Sh.dI cP=true)(ho:cY.ok=true):Sound Try.prog aF f (A.wrap ro cP cY (A.uT m)):=Sound.wrap (Sound.NA .F trivial (cM.of rfl h λ_=>Sound.none) hf hc he) _ _ _ hi ho
theorem q5{m:AV→AV→AV→AV→AV→Heap→au}(L:List Nat)(n:Nat)(bz:ig)(h:∀p∈l,Sound Try.prog aF p.1 p.2)(hf:Try.prog.funcs[f]? =some fn)(hc:∀bR w,(callFunc f bR).run Try.prog w=.ok (.enter f bR) w)(he:∀(x0 x1 x2 x3 x4:AV) (σ:Heap),kV (vc l L n) .F bz fn [x0,x1,x2,x3,x4] σ=m x0 x1 x2 x3 x4 σ)(hi:Sh.dI cP=true)(ho:cY.ok=true):Sound Try.prog aF f (A.wrap ro cP cY (A.lR m)):=Sound.wrap (Sound.C0 .F trivial (cM.of rfl h λ_=>Sound.none) hf hc he) _ _ _ hi ho
theorem q6{m:AV→AV→AV→AV→AV→AV→Heap→au}(L:List Nat)(n:Nat)(bz:ig)(h:∀p∈l,Sound Try.prog aF p.1 p.2)(hf:Try.prog.funcs[f]? =some fn)(hc:∀bR w,(callFunc f bR).run Try.prog w=.ok (.enter f bR) w)(he:∀(x0 x1 x2 x3 x4 x5:AV) (σ:Heap),kV (vc l L n) .F bz fn [x0,x1,x2,x3,x4,x5] σ=m x0 x1 x2 x3 x4 x5 σ)(hi:Sh.dI cP=true)(ho:cY.ok=true):Sound Try.prog aF f (A.wrap ro cP cY (A.tT m)):=Sound.wrap (Sound.G1 .F trivial (cM.of rfl h λ_=>Sound.none) hf hc he) _ _ _ hi ho
theorem q7{m:AV→AV→AV→AV→AV→AV→AV→Heap→au}(L:List Nat)(n:Nat)(bz:ig)(h:∀p∈l,Sound Try.prog aF p.1 p.2)(hf:Try.prog.funcs[f]? =some fn)(hc:∀bR w,(callFunc f bR).run Try.prog w=.ok (.enter f bR) w)(he:∀(x0 x1 x2 x3 x4 x5 x6:AV) (σ:Heap),kV (vc l L n) .F bz fn [x0,x1,x2,x3,x4,x5,x6] σ=m x0 x1 x2 x3 x4 x5 x6 σ)(hi:Sh.dI cP=true)(ho:cY.ok=true):Sound Try.prog aF f (A.wrap ro cP cY (A.G9 m)):=Sound.wrap (Sound.Xj .F trivial (cM.of rfl h λ_=>Sound.none) hf hc he) _ _ _ hi ho
end
end
abbrev bE(n:Int):Prop:=-9223372036854775808≤n∧n≤9223372036854775807
abbrev bV:Nat:=9223372036854775807
def fD{κ:Type}[DecidableEq κ](k:κ)(S:List κ):Bool:=S.any λx=>decide (x=k)
theorem Fh{κ:Type}[DecidableEq κ]{k:κ}{S:List κ}:fD k S=true↔k∈S:=by simp only[fD,List.any_eq_true,decide_eq_true_eq];exact⟨λ⟨x,h,e⟩=>e▸h,λh=>⟨k,h,rfl⟩⟩
theorem Bx{κ:Type}[DecidableEq κ]{k:κ}{S:List κ}:fD k S=false↔k∉S:=by rw[←Fh];simp
def xq(n:Int):an:=[.aj n]
def WE(s:ByteArray):an:=[.str s]
def sl{α:Type}(sz:Nat)(c:α→an)(l:List α):AV:=.sl sz (l.map c)
def dI{α:Type}(p:α→Prop)(l:List α):Prop:=l.length≤bV∧∀x∈l,p x
def eD(s:ByteArray):Prop:=s.size≤bV
theorem LI(n:Int):A.aD 0 (xq n)=some (.aj n):=rfl
theorem LJ(s:ByteArray):A.aD 0 (WE s)=some (.str s):=rfl
structure L1 where
 time:Int
 way:Int
deriving DecidableEq
structure FO where
 kind:Int
 VR:(List L1)
structure Mz where
 XT:Int
 to:Int
 start:Int
 Ge:Int
 time:Int
 Gd:FO
structure TU where
 time:Int
 level:Int
deriving DecidableEq
structure kL where
 low:Int
 high:Int
 name:ByteArray
deriving DecidableEq
def jN(x:kL):an:=[.aj x.low,.aj x.high,.str x.name]
theorem RL(x:kL):(jN x).length=3:=rfl
def FI(x:kL):Prop:=bE x.low∧bE x.high∧eD x.name
theorem Bo(x:kL):A.aD 0 (jN x)=some (.aj x.low):=rfl
theorem Bp(x:kL):A.aD 1 (jN x)=some (.aj x.high):=rfl
theorem Bq(x:kL):A.aD 2 (jN x)=some (.str x.name):=rfl
theorem BL(x:kL):A.aB 0 3 (jN x)=some (.agg (jN x)):=rfl
theorem BE(x:kL):A.cells 3 (.agg (jN x))=some (jN x):=rfl
theorem BN(x:kL)(l:an)(h:l.length=3):A.aV 0 (jN x) l=some (jN x):=by simp [A.aV,RL,h]
structure gh where
 name:ByteArray
 group:Int
 jY:Int
 jC:Int
 default:Int
 snap:Bool
 ranges:(List kL)
def gK(x:gh):an:=[.str x.name,.aj x.group,.aj x.jY,.aj x.jC,.aj x.default,.bool x.snap,sl 3 jN x.ranges]
theorem RJ(x:gh):(gK x).length=7:=rfl
def LB(x:gh):Prop:=eD x.name∧bE x.group∧bE x.jY∧bE x.jC∧bE x.default∧(dI FI) x.ranges
theorem Eo(x:gh):A.aD 0 (gK x)=some (.str x.name):=rfl
theorem Ep(x:gh):A.aD 1 (gK x)=some (.aj x.group):=rfl
theorem Er(x:gh):A.aD 2 (gK x)=some (.aj x.jY):=rfl
theorem Es(x:gh):A.aD 3 (gK x)=some (.aj x.jC):=rfl
theorem Et(x:gh):A.aD 4 (gK x)=some (.aj x.default):=rfl
theorem Eu(x:gh):A.aD 5 (gK x)=some (.bool x.snap):=rfl
theorem Ev(x:gh):A.aD 6 (gK x)=some (sl 3 jN x.ranges):=rfl
theorem EZ(x:gh):A.aB 0 7 (gK x)=some (.agg (gK x)):=rfl
theorem EV(x:gh):A.cells 7 (.agg (gK x))=some (gK x):=rfl
theorem E4(x:gh)(l:an)(h:l.length=7):A.aV 0 (gK x) l=some (gK x):=by simp [A.aV,RJ,h]
structure cQ where
 name:ByteArray
 size:Int
 params:(List gh)
def dY(x:cQ):an:=[.str x.name,.aj x.size,sl 7 gK x.params]
theorem QU(x:cQ):(dY x).length=3:=rfl
def BJ(x:cQ):Prop:=eD x.name∧bE x.size∧(dI LB) x.params
theorem lA(x:cQ):A.aD 0 (dY x)=some (.str x.name):=rfl
theorem lB(x:cQ):A.aD 1 (dY x)=some (.aj x.size):=rfl
theorem lC(x:cQ):A.aD 2 (dY x)=some (sl 7 gK x.params):=rfl
theorem lE(x:cQ):A.aB 0 3 (dY x)=some (.agg (dY x)):=rfl
theorem lD(x:cQ):A.cells 3 (.agg (dY x))=some (dY x):=rfl
theorem lF(x:cQ)(l:an)(h:l.length=3):A.aV 0 (dY x) l=some (dY x):=by simp [A.aV,QU,h]
structure eF where
 aH:Int
 fV:ByteArray
 univ:Int
 address:Int
deriving DecidableEq
def fM(x:eF):an:=[.aj x.aH,.str x.fV,.aj x.univ,.aj x.address]
theorem Sv(x:eF):(fM x).length=4:=rfl
def Mi(x:eF):Prop:=bE x.aH∧eD x.fV∧bE x.univ∧bE x.address
theorem kD(x:eF):A.aD 0 (fM x)=some (.aj x.aH):=rfl
theorem kE(x:eF):A.aD 1 (fM x)=some (.str x.fV):=rfl
theorem kF(x:eF):A.aD 2 (fM x)=some (.aj x.univ):=rfl
theorem kG(x:eF):A.aD 3 (fM x)=some (.aj x.address):=rfl
theorem kI(x:eF):A.aB 0 4 (fM x)=some (.agg (fM x)):=rfl
theorem kH(x:eF):A.cells 4 (.agg (fM x))=some (fM x):=rfl
theorem kJ(x:eF)(l:an)(h:l.length=4):A.aV 0 (fM x) l=some (fM x):=by simp [A.aV,Sv,h]
structure cK where
 cE:(List cQ)
 gC:(List eF)
def dM(x:cK):an:=[sl 3 dY x.cE,sl 4 fM x.gC]
theorem Tf(x:cK):(dM x).length=2:=rfl
def oI(x:cK):Prop:=(dI BJ) x.cE∧(dI Mi) x.gC
theorem pN(x:cK):A.aD 0 (dM x)=some (sl 3 dY x.cE):=rfl
theorem pO(x:cK):A.aD 1 (dM x)=some (sl 4 fM x.gC):=rfl
theorem nQ(x:cK):A.aB 0 2 (dM x)=some (.agg (dM x)):=rfl
theorem nP(x:cK):A.cells 2 (.agg (dM x))=some (dM x):=rfl
theorem pV(x:cK)(l:an)(h:l.length=2):A.aV 0 (dM x) l=some (dM x):=by simp [A.aV,Tf,h]
structure bB where
 unit:Int
 param:ByteArray
deriving DecidableEq
def bN(x:bB):an:=[.aj x.unit,.str x.param]
theorem Te(x:bB):(bN x).length=2:=rfl
def Wl(x:bB):Prop:=bE x.unit∧eD x.param
theorem U7(x:bB)(l:an)(h:l.length=2):A.aV 0 (bN x) l=some (bN x):=by simp [A.aV,Te,h]
structure aA where
 key:bB
 level:Int
deriving DecidableEq
def ay(x:aA):an:=[.aj x.key.unit,.str x.key.param,.aj x.level]
theorem QV(x:aA):(ay x).length=3:=rfl
def uw(x:aA):Prop:=Wl x.key∧bE x.level
theorem Qz(x:aA):A.aD 0 (ay x)=some (.aj x.key.unit):=rfl
theorem QA(x:aA):A.aD 1 (ay x)=some (.str x.key.param):=rfl
theorem IW(x:aA):A.aD 2 (ay x)=some (.aj x.level):=rfl
theorem IP(x:aA):A.aB 0 2 (ay x)=some (.agg (bN x.key)):=rfl
theorem Rs(x:aA):A.aB 0 3 (ay x)=some (.agg (ay x)):=rfl
theorem Rj(x:aA):A.cells 3 (.agg (ay x))=some (ay x):=rfl
theorem EE(x:aA)(l:an)(h:l.length=3):A.aV 0 (ay x) l=some (ay x):=by simp [A.aV,QV,h]
structure aT where
 aH:Int
 title:ByteArray
 bY:(List aA)
def aN(x:aT):an:=[.aj x.aH,.str x.title,sl 3 ay x.bY]
theorem Ri(x:aT):(aN x).length=3:=rfl
def qL(x:aT):Prop:=bE x.aH∧eD x.title∧(dI uw) x.bY
theorem Q3(x:aT):A.aD 0 (aN x)=some (.aj x.aH):=rfl
theorem Q4(x:aT):A.aD 1 (aN x)=some (.str x.title):=rfl
theorem Q5(x:aT):A.aD 2 (aN x)=some (sl 3 ay x.bY):=rfl
theorem EO(x:aT):A.aB 0 3 (aN x)=some (.agg (aN x)):=rfl
theorem RN(x:aT):A.cells 3 (.agg (aN x))=some (aN x):=rfl
theorem ES(x:aT)(l:an)(h:l.length=3):A.aV 0 (aN x) l=some (aN x):=by simp [A.aV,Ri,h]
structure Wu where
 ZM:(List Int)
 block:Int
 aab:Int
structure sY where
 level:Int
 lH:Int
deriving DecidableEq
def Ck(x:sY):an:=[.aj x.level,.aj x.lH]
structure Cu where
 key:bB
 value:sY
 release:Bool
 aaa:Bool
 Ge:Int
 time:Int
deriving DecidableEq
structure rA where
 aH:Int
 title:ByteArray
 Ge:Int
 up:Int
 down:Int
 other:Int
 Gd:FO
 block:Bool
 Ma:Int
 CF:(List Cu)
structure Vf where
 key:bB
 value:sY
 NN:Int
deriving DecidableEq
structure V1 where
 unit:Int
 XT:Int
 to:Int
deriving DecidableEq
structure MB where
 aH:Int
 aal:(List rA)
structure JT where
 aH:Int
 list:Int
 ZK:Int
deriving DecidableEq
structure Vi where
 rig:cK
 ZO:(List aT)
 Z7:(List MB)
 ZJ:(List JT)
structure K9 where
 time:Int
 kind:Int
 TA:Int
 NN:Int
 level:Int
deriving DecidableEq
structure Vg where
 jY:Int
 action:K9
deriving DecidableEq
structure Vj where
 hours:Int
 minutes:Int
 seconds:Int
 frames:Int
deriving DecidableEq
structure M5 where
 key:bB
 WN:Mz
 ZX:Int
 ending:Bool
structure Sq where
 TA:Int
 NN:Int
 Z0:Int
 ZQ:Bool
 Ma:Int
 runs:(List M5)
structure Jb where
 level:Int
 hold:Int
 WN:Int
deriving DecidableEq
structure La where
 form:Int
 low:Int
 high:Int
 ZY:Int
 width:Int
 spread:Int
 back:Bool
 ZL:Bool
 steps:(List Jb)
structure MC where
 time:Int
 ZN:Int
deriving DecidableEq
structure S9 where
 effect:La
 keys:(List bB)
 start:Int
 Z8:(List MC)
 xO:Int
 fin:Int
 out:Int
def Bd:an→Heap→au:=A.dh λa b σ=>match a,b with
 |.str a,.str b=>some (.int .i64 (Lib.compareBytes a.data.toList b.data.toList),σ)
 |_,_=>none
def nL:an→Heap→au:=A.dh λa b σ=>match a,b with
 |.sl sz es,.os id g sz' off len=>match σ[id]? with
  |some (.arr h s es')=>if es≠[]∧g=h∧es'≠[]∧0<len then some (.bool false,σ)else none
  |_=>none
 |_,_=>none
def wR(a b:bB):Int:=if ¬(a.unit=b.unit)then(if a.unit<b.unit then -1 else 1)else Lib.compareBytes a.param.data.toList b.param.data.toList
section
set_option maxRecDepth 100000
noncomputable def A6 (dyn:Nat→an→Heap→au) (a0 a1:AV) (σ:Heap):au:=(A.bl a0).bind λx1=>(A.loop (λv2 s3=>(A.lss (ah v2 1) x1).bind λx5=>A.cond x5 ((A.aJ 3 a0 (ah v2 1)).bind λx6=>((A.deref x6 s3).bind λc7=>A.aB 0 3 c7).bind λx8=>(A.eB dyn a1 [x8] s3).bind λr9=>A.cond r9.1 (some (AX.ret,[(ah v2 1),(ah v2 1)],r9.2)) ((A.add (ah v2 1) (AV.aj 1)).bind λbg=>some (AX.normal,[(ah v2 0),bg],r9.2))) (some (AX.exit 0,[(ah v2 0),(ah v2 1)],s3))) [(AV.aj 0),(AV.aj 0)] σ).bind λfu=>bif fu.1==AX.exit 0 then(A.fin σ (AV.aj (-1)) fu.2.2)else bif fu.1==AX.ret then(A.fin σ (ah fu.2.1 0) fu.2.2)else none
noncomputable def A4 (dyn:Nat→an→Heap→au):an→Heap→au:=A.wrap true [(.s 3)] .k (A.dh (A6 dyn))
noncomputable def DN (a0 a1:AV) (σ:Heap):au:=(A.bl a0).bind λx1=>(A.bl a1).bind λx2=>(A.neq .i x1 x2).bind λx3=>A.cond x3 (A.fin σ bF σ) ((A.bl a0).bind λx4=>(A.loop (λv5 s6=>(A.lss (ah v5 1) x4).bind λx8=>A.cond x8 ((A.aJ 3 a0 (ah v5 1)).bind λx9=>((A.deref x9 s6).bind λoW=>A.aB 0 3 oW).bind λcg=>(A.aJ 3 a1 (ah v5 1)).bind λbP=>((A.deref bP s6).bind λrO=>A.aB 0 3 rO).bind λcu=>(A.neq (.s [0,2,0]) cg cu).bind λbf=>A.cond bf (some (AX.ret,[bF,(ah v5 1)],s6)) ((A.add (ah v5 1) (AV.aj 1)).bind λbG=>some (AX.normal,[(ah v5 0),bG],s6))) (some (AX.exit 0,[(ah v5 0),(ah v5 1)],s6))) [bF,(AV.aj 0)] σ).bind λje=>bif je.1==AX.exit 0 then(A.fin σ eI je.2.2)else bif je.1==AX.ret then(A.fin σ (ah je.2.1 0) je.2.2)else none)
noncomputable def DM:an→Heap→au:=A.wrap true [(.s 3),(.s 3)] .k (A.dh DN)
noncomputable def A7 (dyn:Nat→an→Heap→au) (a0 a1:AV) (σ:Heap):au:=(A.bl a0).bind λx1=>(A.loop (λv2 s3=>(A.lss (ah v2 1) x1).bind λx5=>A.cond x5 ((A.aJ 3 a0 (ah v2 1)).bind λx6=>((A.deref x6 s3).bind λc7=>A.aB 0 3 c7).bind λx8=>(A.eB dyn a1 [x8] s3).bind λr9=>A.cond r9.1 (some (AX.ret,[(ah v2 1),(ah v2 1)],r9.2)) ((A.add (ah v2 1) (AV.aj 1)).bind λbg=>some (AX.normal,[(ah v2 0),bg],r9.2))) (some (AX.exit 0,[(ah v2 0),(ah v2 1)],s3))) [(AV.aj 0),(AV.aj 0)] σ).bind λfu=>bif fu.1==AX.exit 0 then(A.fin σ (AV.aj (-1)) fu.2.2)else bif fu.1==AX.ret then(A.fin σ (ah fu.2.1 0) fu.2.2)else none
noncomputable def A5 (dyn:Nat→an→Heap→au):an→Heap→au:=A.wrap true [(.s 3)] .k (A.dh (A7 dyn))
noncomputable def A0 (dyn:Nat→an→Heap→au) (a0 a1:AV) (σ:Heap):au:=(A5 dyn [a0,a1] σ).bind λr1=>(A.geq r1.1 (AV.aj 0)).bind λx2=>A.fin σ x2 r1.2
noncomputable def uk (dyn:Nat→an→Heap→au):an→Heap→au:=A.wrap true [(.s 3)] .k (A.dh (A0 dyn))
noncomputable def A9 (dyn:Nat→an→Heap→au) (a0 a1:AV) (σ:Heap):au:=(A.bl a0).bind λx1=>(A.loop (λv2 s3=>(A.lss (ah v2 1) x1).bind λx5=>A.cond x5 ((A.aJ 3 a0 (ah v2 1)).bind λx6=>((A.deref x6 s3).bind λc7=>A.aB 0 3 c7).bind λx8=>(A.eB dyn a1 [x8] s3).bind λr9=>A.cond r9.1 (some (AX.ret,[(ah v2 1),(ah v2 1)],r9.2)) ((A.add (ah v2 1) (AV.aj 1)).bind λbg=>some (AX.normal,[(ah v2 0),bg],r9.2))) (some (AX.exit 0,[(ah v2 0),(ah v2 1)],s3))) [(AV.aj 0),(AV.aj 0)] σ).bind λfu=>bif fu.1==AX.exit 0 then(A.fin σ (AV.aj (-1)) fu.2.2)else bif fu.1==AX.ret then(A.fin σ (ah fu.2.1 0) fu.2.2)else none
noncomputable def A8 (dyn:Nat→an→Heap→au):an→Heap→au:=A.wrap true [(.s 3)] .k (A.dh (A9 dyn))
noncomputable def A3 (dyn:Nat→an→Heap→au) (a0 a1:AV) (σ:Heap):au:=(A8 dyn [a0,a1] σ).bind λr1=>(A.geq r1.1 (AV.aj 0)).bind λx2=>A.fin σ x2 r1.2
noncomputable def um (dyn:Nat→an→Heap→au):an→Heap→au:=A.wrap true [(.s 3)] .k (A.dh (A3 dyn))
noncomputable def IB (a0:AV) (σ:Heap):au:=(A.C8 a0 AV.aE).bind λx1=>A.cond x1 (some (AV.aE,σ)) ((A.append 3 (140737488355328 / 32) AV.ez a0 σ).bind λr2=>some (r2.1,r2.2))
noncomputable def qH:an→Heap→au:=A.Cl (A.wrap true [(.s 3)] .k (A.fG IB))
noncomputable def AT (dyn:Nat→an→Heap→au) (a0 a1 a2 a3:AV) (σ:Heap):au:=(A.add a1 (AV.aj 1)).bind λx1=>(A.loop (λv2 s3=>(A.lss (ah v2 0) a2).bind λx5=>A.cond x5 ((A.loop (λv6 s7=>(A.gtr (ah v6 0) a1).bind λx9=>(A.guard x9 true (some a3) aq).bind λbg=>(A.guard x9 true (some a0) aq).bind λcg=>(A.guard x9 true (some (ah v6 0)) aq).bind λbP=>(A.guard x9 true (A.aJ 3 cg bP) aq).bind λbT=>(A.guard x9 true ((A.deref bT s7).bind λiq=>A.aB 0 3 iq) aq).bind λbf=>(A.guard x9 true (some a0) aq).bind λbG=>(A.guard x9 true (some (ah v6 0)) aq).bind λbM=>(A.guard x9 true (A.sub bM (AV.aj 1)) aq).bind λbA=>(A.guard x9 true (A.aJ 3 bG bA) aq).bind λcr=>(A.guard x9 true ((A.deref cr s7).bind λdD=>A.aB 0 3 dD) aq).bind λbw=>(A.guard x9 true (A.quiet (A.eB dyn bg [bf,bw] s7) s7) aq).bind λbX=>(A.guard x9 true (A.lss bX (AV.aj 0)) aq).bind λcy=>(A.pick x9 cy bF).bind λcC=>A.cond cC ((A.sub (ah v6 0) (AV.aj 1)).bind λcA=>(A.sub (ah v6 0) (AV.aj 1)).bind λcD=>(A.aJ 3 a0 cD).bind λcN=>((A.deref cN s7).bind λj0=>A.aB 0 3 j0).bind λdJ=>(A.aJ 3 a0 (ah v6 0)).bind λck=>((A.deref ck s7).bind λnr=>A.aB 0 3 nr).bind λdK=>(A.aJ 3 a0 (ah v6 0)).bind λeN=>(A.cells 3 dJ).bind λlT=>(A.storeAt eN lT s7).bind λgA=>(A.aJ 3 a0 cA).bind λfR=>(A.cells 3 dK).bind λkg=>(A.storeAt fR kg gA).bind λiu=>(A.sub (ah v6 0) (AV.aj 1)).bind λdQ=>some (AX.normal,[dQ],iu)) (some (AX.exit 2,[(ah v6 0)],s7))) [(ah v2 0)] s3).bind λko=>bif ko.1==AX.exit 2 then((A.add (ah v2 0) (AV.aj 1)).bind λeA=>some (AX.normal,[eA],ko.2.2))else none) (some (AX.exit 0,[(ah v2 0)],s3))) [x1] σ).bind λfy=>bif fy.1==AX.exit 0 then(some ((AV.aG []),fy.2.2))else none
noncomputable def qF (dyn:Nat→an→Heap→au):an→Heap→au:=A.wrap false [] .k (A.uT (AT dyn))
noncomputable def vO (a0 a1 a2 a3 a4:AV) (σ:Heap):au:=(A.loop (λv1 s2=>(A.lss (ah v1 0) a3).bind λx4=>A.cond x4 ((A.add a1 (ah v1 0)).bind λx5=>(A.add a2 (ah v1 0)).bind λx6=>(A.add a2 (ah v1 0)).bind λx7=>(A.aJ 3 a0 x7).bind λx8=>((A.deref x8 s2).bind λc9=>A.aB 0 3 c9).bind λbg=>(A.add a1 (ah v1 0)).bind λcg=>(A.aJ 3 a0 cg).bind λbP=>((A.deref bP s2).bind λrO=>A.aB 0 3 rO).bind λcu=>(A.aJ 3 a0 x5).bind λbf=>(A.cells 3 bg).bind λuW=>(A.storeAt bf uW s2).bind λjZ=>(A.aJ 3 a0 x6).bind λbA=>(A.cells 3 cu).bind λoX=>(A.storeAt bA oX jZ).bind λdD=>(A.add (ah v1 0) (AV.aj 1)).bind λbw=>some (AX.normal,[bw],dD)) (some (AX.exit 0,[(ah v1 0)],s2))) [(AV.aj 0)] σ).bind λjf=>bif jf.1==AX.exit 0 then(some ((AV.aG []),jf.2.2))else none
noncomputable def qG:an→Heap→au:=A.wrap false [] .k (A.lR vO)
noncomputable def vR (a0 a1 a2 a3 a4:AV) (σ:Heap):au:=(A.sub a2 a1).bind λx1=>(A.sub a3 a2).bind λx2=>(A.loop (λv3 s4=>(A.neq .i (ah v3 0) (ah v3 1)).bind λx6=>A.cond x6 ((A.gtr (ah v3 0) (ah v3 1)).bind λx7=>(A.cond x7 ((A.sub a2 (ah v3 0)).bind λx9=>(qG [a0,x9,a2,(ah v3 1),a4] s4).bind λvA=>(A.sub (ah v3 0) (ah v3 1)).bind λcg=>some ([cg,(ah v3 1)],vA.2)) ((A.sub a2 (ah v3 0)).bind λbP=>(A.add a2 (ah v3 1)).bind λbT=>(A.sub bT (ah v3 0)).bind λcu=>(qG [a0,bP,cu,(ah v3 0),a4] s4).bind λfZ=>(A.sub (ah v3 1) (ah v3 0)).bind λbG=>some ([(ah v3 0),bG],fZ.2))).bind λr8=>some (AX.normal,[(ah r8.1 0),(ah r8.1 1)],r8.2)) (some (AX.exit 0,[(ah v3 0),(ah v3 1)],s4))) [x1,x2] σ).bind λje=>bif je.1==AX.exit 0 then((A.sub a2 (ah je.2.1 0)).bind λbA=>(qG [a0,bA,a2,(ah je.2.1 0),a4] je.2.2).bind λdU=>some ((AV.aG []),dU.2))else none
noncomputable def xW:an→Heap→au:=A.wrap false [] .k (A.lR vR)
noncomputable def AW (rec:Nat→an→Heap→au) (dyn:Nat→an→Heap→au) (a0 a1 a2 a3 a4:AV) (σ:Heap):au:=(A.sub a2 a1).bind λx1=>(A.eql .i x1 (AV.aj 1)).bind λx2=>A.cond x2 ((A.loop (λv3 s4=>(A.lss (ah v3 0) (ah v3 1)).bind λx6=>A.cond x6 ((A.add (ah v3 0) (ah v3 1)).bind λx7=>(A.conv .u64 x7).bind λx8=>(A.shr x8 (AV.int .u64 1)).bind λx9=>(A.conv .i64 x9).bind λbg=>(A.aJ 3 a0 bg).bind λcg=>((A.deref cg s4).bind λeU=>A.aB 0 3 eU).bind λbT=>(A.aJ 3 a0 a1).bind λcu=>((A.deref cu s4).bind λgz=>A.aB 0 3 gz).bind λbG=>(A.quiet (A.eB dyn a4 [bT,bG] s4) s4).bind λbM=>(A.lss bM (AV.aj 0)).bind λbA=>(A.cond bA ((A.add bg (AV.aj 1)).bind λcU=>some ([cU,(ah v3 1)],s4)) (some ([(ah v3 0),bg],s4))).bind λdU=>some (AX.normal,[(ah dU.1 0),(ah dU.1 1)],dU.2)) (some (AX.exit 0,[(ah v3 0),(ah v3 1)],s4))) [a2,a3] σ).bind λlZ=>bif lZ.1==AX.exit 0 then((A.loop (λgH mK=>(A.sub (ah lZ.2.1 0) (AV.aj 1)).bind λcA=>(A.lss (ah gH 0) cA).bind λcD=>A.cond cD ((A.add (ah gH 0) (AV.aj 1)).bind λcN=>(A.add (ah gH 0) (AV.aj 1)).bind λeM=>(A.aJ 3 a0 eM).bind λdJ=>((A.deref dJ mK).bind λlS=>A.aB 0 3 lS).bind λfA=>(A.aJ 3 a0 (ah gH 0)).bind λdK=>((A.deref dK mK).bind λzJ=>A.aB 0 3 zJ).bind λfQ=>(A.aJ 3 a0 (ah gH 0)).bind λeZ=>(A.cells 3 fA).bind λrP=>(A.storeAt eZ rP mK).bind λkg=>(A.aJ 3 a0 cN).bind λew=>(A.cells 3 fQ).bind λuZ=>(A.storeAt ew uZ kg).bind λqv=>(A.add (ah gH 0) (AV.aj 1)).bind λeA=>some (AX.normal,[eA],qv)) (some (AX.exit 2,[(ah gH 0)],mK))) [a1] lZ.2.2).bind λfy=>bif fy.1==AX.exit 2 then(some ((AV.aG []),fy.2.2))else none)else none) ((A.sub a3 a2).bind λnF=>(A.eql .i nF (AV.aj 1)).bind λjj=>A.cond jj ((A.loop (λbJ ct=>(A.lss (ah bJ 0) (ah bJ 1)).bind λiC=>A.cond iC ((A.add (ah bJ 0) (ah bJ 1)).bind λeO=>(A.conv .u64 eO).bind λdW=>(A.shr dW (AV.int .u64 1)).bind λdX=>(A.conv .i64 dX).bind λe9=>(A.aJ 3 a0 a2).bind λsF=>((A.deref sF ct).bind λzM=>A.aB 0 3 zM).bind λl6=>(A.aJ 3 a0 e9).bind λgq=>((A.deref gq ct).bind λoZ=>A.aB 0 3 oZ).bind λgJ=>(A.quiet (A.eB dyn a4 [l6,gJ] ct) ct).bind λgd=>(A.lss gd (AV.aj 0)).bind λkC=>(A.not kC).bind λfT=>(A.cond fT ((A.add e9 (AV.aj 1)).bind λdO=>some ([dO,(ah bJ 1)],ct)) (some ([(ah bJ 0),e9],ct))).bind λeJ=>some (AX.normal,[(ah eJ.1 0),(ah eJ.1 1)],eJ.2)) (some (AX.exit 4,[(ah bJ 0),(ah bJ 1)],ct))) [a1,a2] σ).bind λr64=>bif r64.1==AX.exit 4 then((A.loop (λgI mL=>(A.gtr (ah gI 0) (ah r64.2.1 0)).bind λnG=>A.cond nG ((A.sub (ah gI 0) (AV.aj 1)).bind λsH=>(A.sub (ah gI 0) (AV.aj 1)).bind λvD=>(A.aJ 3 a0 vD).bind λAJ=>((A.deref AJ mL).bind λzQ=>A.aB 0 3 zQ).bind λsI=>(A.aJ 3 a0 (ah gI 0)).bind λvF=>((A.deref vF mL).bind λzT=>A.aB 0 3 zT).bind λvH=>(A.aJ 3 a0 (ah gI 0)).bind λl7=>(A.cells 3 sI).bind λzU=>(A.storeAt l7 zU mL).bind λzV=>(A.aJ 3 a0 sH).bind λAL=>(A.cells 3 vH).bind λzW=>(A.storeAt AL zW zV).bind λzX=>(A.sub (ah gI 0) (AV.aj 1)).bind λAM=>some (AX.normal,[AM],zX)) (some (AX.exit 6,[(ah gI 0)],mL))) [a2] r64.2.2).bind λOD=>bif OD.1==AX.exit 6 then(some ((AV.aG []),OD.2.2))else none)else none) ((A.add a1 a3).bind λZA=>(A.conv .u64 ZA).bind λZB=>(A.shr ZB (AV.int .u64 1)).bind λZC=>(A.conv .i64 ZC).bind λsJ=>(A.add sJ a2).bind λvI=>(A.gtr a2 sJ).bind λZD=>(A.cond ZD ((A.sub vI a3).bind λZE=>some ([ZE,sJ],σ)) (some ([a1,a2],σ))).bind λH8=>(A.sub vI (AV.aj 1)).bind λAN=>(A.loop (λgb gG=>(A.lss (ah gb 0) (ah gb 1)).bind λAO=>A.cond AO ((A.add (ah gb 0) (ah gb 1)).bind λvJ=>(A.conv .u64 vJ).bind λvK=>(A.shr vK (AV.int .u64 1)).bind λzD=>(A.conv .i64 zD).bind λkX=>(A.sub AN kX).bind λrK=>(A.aJ 3 a0 rK).bind λtQ=>((A.deref tQ gG).bind λuJ=>A.aB 0 3 uJ).bind λzE=>(A.aJ 3 a0 kX).bind λuQ=>((A.deref uQ gG).bind λzq=>A.aB 0 3 zq).bind λzF=>(A.quiet (A.eB dyn a4 [zE,zF] gG) gG).bind λuR=>(A.lss uR (AV.aj 0)).bind λuS=>(A.not uS).bind λqq=>(A.cond qq ((A.add kX (AV.aj 1)).bind λrM=>some ([rM,(ah gb 1)],gG)) (some ([(ah gb 0),kX],gG))).bind λoT=>some (AX.normal,[(ah oT.1 0),(ah oT.1 1)],oT.2)) (some (AX.exit 8,[(ah gb 0),(ah gb 1)],gG))) [(ah H8.1 0),(ah H8.1 1)] H8.2).bind λrE=>bif rE.1==AX.exit 8 then((A.sub vI (ah rE.2.1 0)).bind λrN=>(A.lss (ah rE.2.1 0) a2).bind λC1=>(A.guard C1 true (some a2) aq).bind λXl=>(A.guard C1 true (some rN) aq).bind λXm=>(A.guard C1 true (A.lss Xl Xm) aq).bind λXn=>(A.pick C1 Xn bF).bind λXo=>(A.cond Xo ((xW [a0,(ah rE.2.1 0),a2,rN,a4] rE.2.2).bind λXe=>some (([]:an),Xe.2)) (some (([]:an),rE.2.2))).bind λNx=>(A.lss a1 (ah rE.2.1 0)).bind λC2=>(A.guard C2 true (some (ah rE.2.1 0)) aq).bind λXp=>(A.guard C2 true (some sJ) aq).bind λXq=>(A.guard C2 true (A.lss Xp Xq) aq).bind λXr=>(A.pick C2 Xr bF).bind λXt=>(A.cond Xt ((rec 106 [a0,a1,(ah rE.2.1 0),sJ,a4] Nx.2).bind λXf=>some (([]:an),Xf.2)) (some (([]:an),Nx.2))).bind λNy=>(A.lss sJ rN).bind λC3=>(A.guard C3 true (some rN) aq).bind λXu=>(A.guard C3 true (some a3) aq).bind λXv=>(A.guard C3 true (A.lss Xu Xv) aq).bind λXw=>(A.pick C3 Xw bF).bind λXx=>(A.cond Xx ((rec 106 [a0,sJ,rN,a3,a4] Ny.2).bind λXh=>some (([]:an),Xh.2)) (some (([]:an),Ny.2))).bind λXg=>some ((AV.aG []),Xg.2))else none))
noncomputable def vP (dyn:Nat→an→Heap→au) (rec:Nat→an→Heap→au):List (Nat×(an→Heap→au)):=[(106,A.wrap false [] .k (A.lR (AW rec dyn)))]
noncomputable def pI (dyn:Nat→an→Heap→au):an→Heap→au:=fuel (vP dyn) 2000000 106
noncomputable def AZ (dyn:Nat→an→Heap→au) (a0 a1 a2:AV) (σ:Heap):au:=(A.loop (λv1 s2=>(A.leq (ah v1 1) a1).bind λx4=>A.cond x4 ((qF dyn [a0,(ah v1 0),(ah v1 1),a2] s2).bind λr5=>(A.add (ah v1 1) (AV.aj 20)).bind λx6=>some (AX.normal,[(ah v1 1),x6],r5.2)) (some (AX.exit 0,[(ah v1 0),(ah v1 1)],s2))) [(AV.aj 0),(AV.aj 20)] σ).bind λr7=>bif r7.1==AX.exit 0 then((qF dyn [a0,(ah r7.2.1 0),a1,a2] r7.2.2).bind λr8=>(A.loop (λv9 AA=>(A.lss (ah v9 0) a1).bind λbP=>A.cond bP ((A.mul (AV.aj 2) (ah v9 0)).bind λbT=>(A.loop (λeu pG=>(A.leq (ah eu 1) a1).bind λbM=>A.cond bM ((A.add (ah eu 0) (ah v9 0)).bind λbA=>(pI dyn [a0,(ah eu 0),bA,(ah eu 1),a2] pG).bind λdU=>(A.mul (AV.aj 2) (ah v9 0)).bind λcU=>(A.add (ah eu 1) cU).bind λbw=>some (AX.normal,[(ah eu 1),bw],dU.2)) (some (AX.exit 4,[(ah eu 0),(ah eu 1)],pG))) [(AV.aj 0),bT] AA).bind λjf=>bif jf.1==AX.exit 4 then((A.add (ah jf.2.1 0) (ah v9 0)).bind λcy=>(A.lss cy a1).bind λcC=>(A.cond cC ((pI dyn [a0,(ah jf.2.1 0),cy,a1,a2] jf.2.2).bind λiR=>some (([]:an),iR.2)) (some (([]:an),jf.2.2))).bind λsA=>(A.mul (ah v9 0) (AV.aj 2)).bind λcN=>some (AX.normal,[cN],sA.2))else none) (some (AX.exit 2,[(ah v9 0)],AA))) [(AV.aj 20)] r8.2).bind λeX=>bif eX.1==AX.exit 2 then(some ((AV.aG []),eX.2.2))else none)else none
noncomputable def xX (dyn:Nat→an→Heap→au):an→Heap→au:=A.wrap false [] .k (A.jX (AZ dyn))
noncomputable def AY (dyn:Nat→an→Heap→au) (a0 a1:AV) (σ:Heap):au:=(A.bl a0).bind λx1=>(xX dyn [a0,x1,a1] σ).bind λr2=>some ((AV.aG []),r2.2)
noncomputable def vQ (dyn:Nat→an→Heap→au):an→Heap→au:=A.wrap false [] .k (A.dh (AY dyn))
noncomputable def PN (a0:AV) (σ:Heap):au:=(A.bl a0).bind λx1=>(A.sub x1 (AV.aj 1)).bind λx2=>(A.loop (λv3 s4=>(A.lss (ah v3 0) (ah v3 1)).bind λx6=>A.cond x6 ((A.aJ 3 a0 (ah v3 1)).bind λx7=>((A.deref x7 s4).bind λc8=>A.aB 0 3 c8).bind λx9=>(A.aJ 3 a0 (ah v3 0)).bind λbg=>((A.deref bg s4).bind λjd=>A.aB 0 3 jd).bind λbP=>(A.aJ 3 a0 (ah v3 0)).bind λbT=>(A.cells 3 x9).bind λiq=>(A.storeAt bT iq s4).bind λgz=>(A.aJ 3 a0 (ah v3 1)).bind λbG=>(A.cells 3 bP).bind λjZ=>(A.storeAt bG jZ gz).bind λgm=>(A.add (ah v3 0) (AV.aj 1)).bind λcr=>(A.sub (ah v3 1) (AV.aj 1)).bind λcU=>some (AX.normal,[cr,cU],gm)) (some (AX.exit 0,[(ah v3 0),(ah v3 1)],s4))) [(AV.aj 0),x2] σ).bind λlZ=>bif lZ.1==AX.exit 0 then(some ((AV.aG []),lZ.2.2))else none
noncomputable def DJ:an→Heap→au:=A.wrap false [] .k (A.fG PN)
noncomputable def Pv (a0 a1:AV) (σ:Heap):au:=(A.aZ 3 a0 none (some a1) σ).bind λx1=>(DJ [x1] σ).bind λr2=>(A.aZ 3 a0 (some a1) none r2.2).bind λx3=>(DJ [x3] r2.2).bind λr4=>(DJ [a0] r4.2).bind λr5=>some ((AV.aG []),r5.2)
noncomputable def Pu:an→Heap→au:=A.wrap false [] .k (A.dh Pv)
noncomputable def Pp (a0 a1:AV) (σ:Heap):au:=(A.bl a0).bind λx1=>(A.sub x1 a1).bind λx2=>(Pu [a0,x2] σ).bind λr3=>some ((AV.aG []),r3.2)
noncomputable def DH:an→Heap→au:=A.wrap false [] .k (A.dh Pp)
noncomputable def DL (a0 a1 a2:AV) (σ:Heap):au:=(A.aZ 3 a0 (some a1) none σ).bind λx1=>(A.bl a2).bind λx2=>(A.eql .i x2 (AV.aj 0)).bind λx3=>A.cond x3 (A.renew [a0,a1,a2] σ a0 σ) ((A.bl a0).bind λx4=>(A.eql .i a1 x4).bind λx5=>A.cond x5 ((A.append 3 (140737488355328 / 32) a0 a2 σ).bind λr6=>A.renew [a0,a1,a2] σ r6.1 r6.2) ((A.add x4 x2).bind λx7=>A.mz (A.oP a0) (λx8=>(A.gtr x7 x8).bind λx9=>A.cond x9 ((A.aZ 3 a0 none (some a1) σ).bind λbg=>(A.add x4 x2).bind λcg=>(A.sub cg a1).bind λbP=>(A.iV 3 (140737488355328 / 32) [(AV.aj 0),bD,(AV.aj 0)] bg bP σ).bind λfK=>(A.aZ 3 fK.1 (some a1) none fK.2).bind λcu=>(A.eo 3 cu a2 fK.2).bind λfZ=>(A.add a1 x2).bind λbG=>(A.aZ 3 fK.1 (some bG) none fZ.2).bind λbM=>(A.aZ 3 a0 (some a1) none fZ.2).bind λbA=>(A.eo 3 bM bA fZ.2).bind λdU=>A.renew [a0,a1,a2] σ fK.1 dU.2) ((A.add x4 x2).bind λcU=>(A.aZ 3 a0 none (some cU) σ).bind λbw=>(A.add a1 x2).bind λbX=>(A.aZ 3 bw (some bX) none σ).bind λcy=>(nL [a2,cy] σ).bind λep=>(A.not ep.1).bind λcA=>A.cond cA ((A.add a1 x2).bind λcD=>(A.aZ 3 bw (some cD) none ep.2).bind λcN=>(A.aZ 3 bw (some a1) none ep.2).bind λeM=>(A.eo 3 cN eM ep.2).bind λud=>(A.aZ 3 bw (some a1) none ud.2).bind λck=>(A.eo 3 ck a2 ud.2).bind λjK=>A.renew [a0,a1,a2] σ bw jK.2) ((A.aZ 3 bw (some x4) none ep.2).bind λdK=>(A.eo 3 dK a2 ep.2).bind λoo=>(A.aZ 3 bw (some a1) none oo.2).bind λfQ=>(DH [fQ,x2] oo.2).bind λAv=>A.renew [a0,a1,a2] σ bw Av.2))) (A.n7 a0 σ λAu kq=>(A.gtr x7 (AV.aj Au)).bind λew=>A.cond ew ((A.aZ 3 a0 none (some a1) kq).bind λdQ=>(A.add x4 x2).bind λiB=>(A.sub iB a1).bind λeA=>(A.iV 3 (140737488355328 / 32) [(AV.aj 0),bD,(AV.aj 0)] dQ eA kq).bind λfy=>(A.aZ 3 fy.1 (some a1) none fy.2).bind λnF=>(A.eo 3 nF a2 fy.2).bind λpE=>(A.add a1 x2).bind λiS=>(A.aZ 3 fy.1 (some iS) none pE.2).bind λoA=>(A.aZ 3 a0 (some a1) none pE.2).bind λlz=>(A.eo 3 oA lz pE.2).bind λl5=>A.renew [a0,a1,a2] σ fy.1 l5.2) ((A.add x4 x2).bind λeO=>(A.aZ 3 a0 none (some eO) kq).bind λdW=>(A.add a1 x2).bind λdX=>(A.aZ 3 dW (some dX) none kq).bind λe9=>(nL [a2,e9] kq).bind λga=>(A.not ga.1).bind λfS=>A.cond fS ((A.add a1 x2).bind λl6=>(A.aZ 3 dW (some l6) none ga.2).bind λgq=>(A.aZ 3 dW (some a1) none ga.2).bind λfB=>(A.eo 3 gq fB ga.2).bind λue=>(A.aZ 3 dW (some a1) none ue.2).bind λgd=>(A.eo 3 gd a2 ue.2).bind λAw=>A.renew [a0,a1,a2] σ dW Aw.2) ((A.aZ 3 dW (some x4) none ga.2).bind λfT=>(A.eo 3 fT a2 ga.2).bind λeJ=>(A.aZ 3 dW (some a1) none eJ.2).bind λdO=>(DH [dO,x2] eJ.2).bind λr64=>A.renew [a0,a1,a2] σ dW r64.2)))))
noncomputable def xZ:an→Heap→au:=A.wrap false [] .k (A.jX DL)
noncomputable def AU (dyn:Nat→an→Heap→au) (a0 a1 a2:AV) (σ:Heap):au:=(A.bl a0).bind λx1=>(A.loop (λv2 s3=>(A.lss (ah v2 0) (ah v2 1)).bind λx5=>A.cond x5 ((A.add (ah v2 0) (ah v2 1)).bind λx6=>(A.conv .u64 x6).bind λx7=>(A.shr x7 (AV.int .u64 1)).bind λx8=>(A.conv .i64 x8).bind λx9=>(A.aJ 3 a0 x9).bind λbg=>((A.deref bg s3).bind λjd=>A.aB 0 3 jd).bind λbP=>(A.eB dyn a2 [bP,a1] s3).bind λfK=>(A.lss fK.1 (AV.aj 0)).bind λcu=>(A.cond cu ((A.add x9 (AV.aj 1)).bind λbG=>some ([bG,(ah v2 1)],fK.2)) (some ([(ah v2 0),x9],fK.2))).bind λfZ=>some (AX.normal,[(ah fZ.1 0),(ah fZ.1 1)],fZ.2)) (some (AX.exit 0,[(ah v2 0),(ah v2 1)],s3))) [(AV.aj 0),x1] σ).bind λje=>bif je.1==AX.exit 0 then((A.lss (ah je.2.1 0) x1).bind λbA=>(A.guard bA true (some a2) aq).bind λcr=>(A.guard bA true (some a0) aq).bind λcU=>(A.guard bA true (some (ah je.2.1 0)) aq).bind λbw=>(A.guard bA true (A.aJ 3 cU bw) aq).bind λbX=>(A.guard bA true ((A.deref bX je.2.2).bind λiM=>A.aB 0 3 iM) aq).bind λcC=>(A.guard bA true (some a1) aq).bind λcA=>(A.guard bA true (A.quiet (A.eB dyn cr [cC,cA] je.2.2) je.2.2) aq).bind λcD=>(A.guard bA true (A.eql .i cD (AV.aj 0)) aq).bind λcN=>(A.pick bA cN bF).bind λeM=>A.fin σ (AV.aG [(ah je.2.1 0),eM]) je.2.2)else none
noncomputable def vN (dyn:Nat→an→Heap→au):an→Heap→au:=A.wrap true [(.s 3)] .k (A.jX (AU dyn))
noncomputable def IA (a0:AV) (σ:Heap):au:=(A.bl a0).bind λx1=>(A.sub x1 (AV.aj 1)).bind λx2=>(A.loop (λv3 s4=>(A.lss (ah v3 0) (ah v3 1)).bind λx6=>A.cond x6 ((A.aJ 3 a0 (ah v3 1)).bind λx7=>((A.deref x7 s4).bind λc8=>A.aB 0 3 c8).bind λx9=>(A.aJ 3 a0 (ah v3 0)).bind λbg=>((A.deref bg s4).bind λjd=>A.aB 0 3 jd).bind λbP=>(A.aJ 3 a0 (ah v3 0)).bind λbT=>(A.cells 3 x9).bind λiq=>(A.storeAt bT iq s4).bind λgz=>(A.aJ 3 a0 (ah v3 1)).bind λbG=>(A.cells 3 bP).bind λjZ=>(A.storeAt bG jZ gz).bind λgm=>(A.add (ah v3 0) (AV.aj 1)).bind λcr=>(A.sub (ah v3 1) (AV.aj 1)).bind λcU=>some (AX.normal,[cr,cU],gm)) (some (AX.exit 0,[(ah v3 0),(ah v3 1)],s4))) [(AV.aj 0),x2] σ).bind λlZ=>bif lZ.1==AX.exit 0 then(some ((AV.aG []),lZ.2.2))else none
noncomputable def ya:an→Heap→au:=A.wrap false [] .k (A.fG IA)
noncomputable def Iz (a0 a1:AV) (σ:Heap):au:=(A.aZ 3 a0 none (some a1) σ).bind λx1=>(ya [x1] σ).bind λr2=>(A.aZ 3 a0 (some a1) none r2.2).bind λx3=>(ya [x3] r2.2).bind λr4=>(ya [a0] r4.2).bind λr5=>some ((AV.aG []),r5.2)
noncomputable def DI:an→Heap→au:=A.wrap false [] .k (A.dh Iz)
noncomputable def Iy (a0 a1:AV) (σ:Heap):au:=(A.bl a0).bind λx1=>(A.sub x1 a1).bind λx2=>(DI [a0,x2] σ).bind λr3=>some ((AV.aG []),r3.2)
noncomputable def xY:an→Heap→au:=A.wrap false [] .k (A.dh Iy)
noncomputable def Ba (a0 a1 a2:AV) (σ:Heap):au:=(A.aZ 3 a0 (some a1) none σ).bind λx1=>(A.bl a2).bind λx2=>(A.eql .i x2 (AV.aj 0)).bind λx3=>A.cond x3 (A.renew [a0,a1,a2] σ a0 σ) ((A.bl a0).bind λx4=>(A.eql .i a1 x4).bind λx5=>A.cond x5 ((A.append 3 (140737488355328 / 48) a0 a2 σ).bind λr6=>A.renew [a0,a1,a2] σ r6.1 r6.2) ((A.add x4 x2).bind λx7=>A.mz (A.oP a0) (λx8=>(A.gtr x7 x8).bind λx9=>A.cond x9 ((A.aZ 3 a0 none (some a1) σ).bind λbg=>(A.add x4 x2).bind λcg=>(A.sub cg a1).bind λbP=>(A.iV 3 (140737488355328 / 48) [(AV.aj 0),bD,AV.aE] bg bP σ).bind λfK=>(A.aZ 3 fK.1 (some a1) none fK.2).bind λcu=>(A.eo 3 cu a2 fK.2).bind λfZ=>(A.add a1 x2).bind λbG=>(A.aZ 3 fK.1 (some bG) none fZ.2).bind λbM=>(A.aZ 3 a0 (some a1) none fZ.2).bind λbA=>(A.eo 3 bM bA fZ.2).bind λdU=>A.renew [a0,a1,a2] σ fK.1 dU.2) ((A.add x4 x2).bind λcU=>(A.aZ 3 a0 none (some cU) σ).bind λbw=>(A.add a1 x2).bind λbX=>(A.aZ 3 bw (some bX) none σ).bind λcy=>(nL [a2,cy] σ).bind λep=>(A.not ep.1).bind λcA=>A.cond cA ((A.add a1 x2).bind λcD=>(A.aZ 3 bw (some cD) none ep.2).bind λcN=>(A.aZ 3 bw (some a1) none ep.2).bind λeM=>(A.eo 3 cN eM ep.2).bind λud=>(A.aZ 3 bw (some a1) none ud.2).bind λck=>(A.eo 3 ck a2 ud.2).bind λjK=>A.renew [a0,a1,a2] σ bw jK.2) ((A.aZ 3 bw (some x4) none ep.2).bind λdK=>(A.eo 3 dK a2 ep.2).bind λoo=>(A.aZ 3 bw (some a1) none oo.2).bind λfQ=>(xY [fQ,x2] oo.2).bind λAv=>A.renew [a0,a1,a2] σ bw Av.2))) (A.n7 a0 σ λAu kq=>(A.gtr x7 (AV.aj Au)).bind λew=>A.cond ew ((A.aZ 3 a0 none (some a1) kq).bind λdQ=>(A.add x4 x2).bind λiB=>(A.sub iB a1).bind λeA=>(A.iV 3 (140737488355328 / 48) [(AV.aj 0),bD,AV.aE] dQ eA kq).bind λfy=>(A.aZ 3 fy.1 (some a1) none fy.2).bind λnF=>(A.eo 3 nF a2 fy.2).bind λpE=>(A.add a1 x2).bind λiS=>(A.aZ 3 fy.1 (some iS) none pE.2).bind λoA=>(A.aZ 3 a0 (some a1) none pE.2).bind λlz=>(A.eo 3 oA lz pE.2).bind λl5=>A.renew [a0,a1,a2] σ fy.1 l5.2) ((A.add x4 x2).bind λeO=>(A.aZ 3 a0 none (some eO) kq).bind λdW=>(A.add a1 x2).bind λdX=>(A.aZ 3 dW (some dX) none kq).bind λe9=>(nL [a2,e9] kq).bind λga=>(A.not ga.1).bind λfS=>A.cond fS ((A.add a1 x2).bind λl6=>(A.aZ 3 dW (some l6) none ga.2).bind λgq=>(A.aZ 3 dW (some a1) none ga.2).bind λfB=>(A.eo 3 gq fB ga.2).bind λue=>(A.aZ 3 dW (some a1) none ue.2).bind λgd=>(A.eo 3 gd a2 ue.2).bind λAw=>A.renew [a0,a1,a2] σ dW Aw.2) ((A.aZ 3 dW (some x4) none ga.2).bind λfT=>(A.eo 3 fT a2 ga.2).bind λeJ=>(A.aZ 3 dW (some a1) none eJ.2).bind λdO=>(xY [dO,x2] eJ.2).bind λr64=>A.renew [a0,a1,a2] σ dW r64.2)))))
noncomputable def vT:an→Heap→au:=A.wrap false [] .k (A.jX Ba)
noncomputable def uo (a0 a1:AV) (σ:Heap):au:=(A.lss a1 (AV.aj 0)).bind λx1=>(A.cond x1 (((none:Option AV)).bind λx3=>some (([]:an),σ)) (some (([]:an),σ))).bind λr2=>A.mz (A.oP a0) (λx4=>(A.bl a0).bind λx5=>(A.sub x4 x5).bind λx6=>(A.sub a1 x6).bind λx7=>(A.gtr x7 (AV.aj 0)).bind λx8=>(A.cond x8 (A.mz (A.oP a0) (λbg=>(A.aZ 3 a0 none (some bg) r2.2).bind λcg=>(A.iV 3 (140737488355328 / 32) [(AV.aj 0),bD,(AV.aj 0)] cg x7 r2.2).bind λnA=>(A.bl a0).bind λbT=>(A.aZ 3 nA.1 none (some bT) nA.2).bind λcu=>some ([cu],nA.2)) (A.n7 a0 r2.2 λY7 vC=>(A.aZ 3 a0 none (some (AV.aj Y7)) vC).bind λbM=>(A.iV 3 (140737488355328 / 32) [(AV.aj 0),bD,(AV.aj 0)] bM x7 vC).bind λHZ=>(A.bl a0).bind λcr=>(A.aZ 3 HZ.1 none (some cr) HZ.2).bind λcU=>some ([cU],HZ.2))) (some ([a0],r2.2))).bind λr9=>some ((ah r9.1 0),r9.2)) (A.n7 a0 r2.2 λY8 Dt=>(A.bl a0).bind λcy=>(A.sub (AV.aj Y8) cy).bind λcC=>(A.sub a1 cC).bind λcA=>(A.gtr cA (AV.aj 0)).bind λcD=>(A.cond cD (A.mz (A.oP a0) (λeM=>(A.aZ 3 a0 none (some eM) Dt).bind λdJ=>(A.iV 3 (140737488355328 / 32) [(AV.aj 0),bD,(AV.aj 0)] dJ cA Dt).bind λH6=>(A.bl a0).bind λfA=>(A.aZ 3 H6.1 none (some fA) H6.2).bind λdK=>some ([dK],H6.2)) (A.n7 a0 Dt λY9 OF=>(A.aZ 3 a0 none (some (AV.aj Y9)) OF).bind λeZ=>(A.iV 3 (140737488355328 / 32) [(AV.aj 0),bD,(AV.aj 0)] eZ cA OF).bind λsB=>(A.bl a0).bind λji=>(A.aZ 3 sB.1 none (some ji) sB.2).bind λew=>some ([ew],sB.2))) (some ([a0],Dt))).bind λlq=>some ((ah lq.1 0),lq.2))
noncomputable def vU:an→Heap→au:=A.wrap false [] .k (A.dh uo)
noncomputable def DK (a0:AV) (σ:Heap):au:=(A.bl a0).bind λx1=>(A.loop (λv2 s3=>(A.lss (ah v2 1) x1).bind λx5=>A.cond x5 ((A.aJ 1 a0 (ah v2 1)).bind λx6=>((A.deref x6 s3).bind λc7=>A.aD 0 c7).bind λx8=>(A.bl x8).bind λx9=>(A.add (ah v2 0) x9).bind λbg=>(A.lss bg (AV.aj 0)).bind λcg=>(A.cond cg (((none:Option AV)).bind λbT=>some (([]:an),s3)) (some (([]:an),s3))).bind λnA=>(A.add (ah v2 1) (AV.aj 1)).bind λcu=>some (AX.normal,[bg,cu],nA.2)) (some (AX.exit 0,[(ah v2 0),(ah v2 1)],s3))) [(AV.aj 0),(AV.aj 0)] σ).bind λfZ=>bif fZ.1==AX.exit 0 then((vU [AV.aE,(ah fZ.2.1 0)] fZ.2.2).bind λOB=>(A.bl a0).bind λbM=>(A.loop (λxU Ie=>(A.lss (ah xU 1) bM).bind λbw=>A.cond bw ((A.aJ 1 a0 (ah xU 1)).bind λbX=>((A.deref bX Ie).bind λiM=>A.aD 0 iM).bind λcC=>(A.append 3 (140737488355328 / 32) (ah xU 0) cC Ie).bind λsA=>(A.add (ah xU 1) (AV.aj 1)).bind λcD=>some (AX.normal,[sA.1,cD],sA.2)) (some (AX.exit 2,[(ah xU 0),(ah xU 1)],Ie))) [OB.1,(AV.aj 0)] OB.2).bind λlq=>bif lq.1==AX.exit 2 then(A.fin σ (ah lq.2.1 0) lq.2.2)else none)else none
noncomputable def vS:an→Heap→au:=A.wrap true [(.s 1)] (.s 3) (A.fG DK)
end
section
set_option maxRecDepth 100000
noncomputable def ER (a0:AV) (σ:Heap):au:=(A.tO a0).bind λx1=>(A.loop (λv2 s3=>(A.lss (ah v2 1) x1).bind λx5=>A.cond x5 ((A.mE a0 (ah v2 1)).bind λx6=>(A.geq x6 (AV.int .u8 97)).bind λx7=>(A.guard x7 true (some x6) aq).bind λx8=>(A.guard x7 true (A.leq x8 (AV.int .u8 122)) aq).bind λx9=>(A.pick x7 x9 bF).bind λbg=>(A.guard bg false (some x6) aq).bind λcg=>(A.guard bg false (A.geq cg (AV.int .u8 48)) aq).bind λbP=>(A.guard bg false (some bP) aq).bind λbT=>(A.guard bT true (some x6) aq).bind λcu=>(A.guard bT true (A.leq cu (AV.int .u8 57)) aq).bind λbf=>(A.guard bg false (A.pick bT bf bF) aq).bind λbG=>(A.pick bg eI bG).bind λbM=>(A.guard bM false (some x6) aq).bind λbA=>(A.guard bM false (A.eql .i bA (AV.int .u8 45)) aq).bind λcr=>(A.pick bM eI cr).bind λcU=>(A.not cU).bind λbw=>A.cond bw (some (AX.ret,[bF,(ah v2 1)],s3)) ((A.add (ah v2 1) (AV.aj 1)).bind λbX=>some (AX.normal,[(ah v2 0),bX],s3))) (some (AX.exit 0,[(ah v2 0),(ah v2 1)],s3))) [bF,(AV.aj 0)] σ).bind λnB=>bif nB.1==AX.exit 0 then((A.neq .z a0 bD).bind λcC=>A.fin σ cC nB.2.2)else bif nB.1==AX.ret then(A.fin σ (ah nB.2.1 0) nB.2.2)else none
noncomputable def EM:an→Heap→au:=A.wrap true [] .k (A.fG ER)
noncomputable def Ez (a0:AV) (σ:Heap):au:=(EM [a0] σ).bind λr1=>(A.guard r1.1 true (some a0) aq).bind λx2=>(A.guard r1.1 true (A.tO x2) aq).bind λx3=>(A.guard r1.1 true (A.leq x3 (AV.aj 20)) aq).bind λx4=>(A.pick r1.1 x4 bF).bind λx5=>(A.guard x5 true (some a0) aq).bind λx6=>(A.guard x5 true (A.mE x6 (AV.aj 0)) aq).bind λx7=>(A.guard x5 true (A.geq x7 (AV.int .u8 97)) aq).bind λx8=>(A.pick x5 x8 bF).bind λx9=>(A.guard x9 true (some a0) aq).bind λbg=>(A.guard x9 true (A.mE bg (AV.aj 0)) aq).bind λcg=>(A.guard x9 true (A.leq cg (AV.int .u8 122)) aq).bind λbP=>(A.pick x9 bP bF).bind λbT=>A.fin σ bT r1.2
noncomputable def yz:an→Heap→au:=A.wrap true [] .k (A.fG Ez)
noncomputable def Ea (a0 a1 a2:AV) (σ:Heap):au:=(A.geq a0 a1).bind λx1=>(A.guard x1 true (some a0) aq).bind λx2=>(A.guard x1 true (some a2) aq).bind λx3=>(A.guard x1 true (A.leq x2 x3) aq).bind λx4=>(A.pick x1 x4 bF).bind λx5=>A.fin σ x5 σ
noncomputable def l9:an→Heap→au:=A.wrap true [] .k (A.jX Ea)
noncomputable def EA (a0 a1:AV) (σ:Heap):au:=A.cond a0 (A.fin σ a1 σ) (A.fin σ (AV.aj 0) σ)
noncomputable def ur:an→Heap→au:=A.wrap true [] .k (A.dh EA)
noncomputable def Eh (a0:AV) (σ:Heap):au:=(A.bl a0).bind λx1=>(A.loop (λv2 s3=>(A.lss (ah v2 1) x1).bind λx5=>A.cond x5 ((A.aJ 1 a0 (ah v2 1)).bind λx6=>((A.deref x6 s3).bind λc7=>A.aD 0 c7).bind λx8=>(A.neq .i x8 (AV.aj 0)).bind λx9=>A.cond x9 (some (AX.ret,[x8,(ah v2 1)],s3)) ((A.add (ah v2 1) (AV.aj 1)).bind λbg=>some (AX.normal,[(ah v2 0),bg],s3))) (some (AX.exit 0,[(ah v2 0),(ah v2 1)],s3))) [(AV.aj 0),(AV.aj 0)] σ).bind λfu=>bif fu.1==AX.exit 0 then(A.fin σ (AV.aj 0) fu.2.2)else bif fu.1==AX.ret then(A.fin σ (ah fu.2.1 0) fu.2.2)else none
noncomputable def yu:an→Heap→au:=A.wrap true [(.s 1)] .k (A.fG Eh)
noncomputable def Ei (a0:AV) (σ:Heap):au:=(A.tO a0).bind λx1=>(A.loop (λv2 s3=>(A.lss (ah v2 1) x1).bind λx5=>A.cond x5 ((A.mE a0 (ah v2 1)).bind λx6=>(A.lss x6 (AV.int .u8 32)).bind λx7=>(A.guard x7 false (some a0) aq).bind λx8=>(A.guard x7 false (some (ah v2 1)) aq).bind λx9=>(A.guard x7 false (A.mE x8 x9) aq).bind λbg=>(A.guard x7 false (A.gtr bg (AV.int .u8 126)) aq).bind λcg=>(A.pick x7 eI cg).bind λbP=>A.cond bP (some (AX.ret,[bF,(ah v2 1)],s3)) ((A.add (ah v2 1) (AV.aj 1)).bind λbT=>some (AX.normal,[(ah v2 0),bT],s3))) (some (AX.exit 0,[(ah v2 0),(ah v2 1)],s3))) [bF,(AV.aj 0)] σ).bind λiQ=>bif iQ.1==AX.exit 0 then((A.neq .z a0 bD).bind λbf=>(A.guard bf true (some a0) aq).bind λbG=>(A.guard bf true (A.tO bG) aq).bind λbM=>(A.guard bf true (A.leq bM (AV.aj 60)) aq).bind λbA=>(A.pick bf bA bF).bind λcr=>(A.guard cr true (some a0) aq).bind λcU=>(A.guard cr true (A.mE cU (AV.aj 0)) aq).bind λbw=>(A.guard cr true (A.neq .i bw (AV.int .u8 32)) aq).bind λbX=>(A.pick cr bX bF).bind λcy=>(A.guard cy true (some a0) aq).bind λcC=>(A.guard cy true (some a0) aq).bind λcA=>(A.guard cy true (A.tO cA) aq).bind λcD=>(A.guard cy true (A.sub cD (AV.aj 1)) aq).bind λcN=>(A.guard cy true (A.mE cC cN) aq).bind λeM=>(A.guard cy true (A.neq .i eM (AV.int .u8 32)) aq).bind λdJ=>(A.pick cy dJ bF).bind λck=>A.fin σ ck iQ.2.2)else bif iQ.1==AX.ret then(A.fin σ (ah iQ.2.1 0) iQ.2.2)else none
noncomputable def Ed:an→Heap→au:=A.wrap true [] .k (A.fG Ei)
end
section
set_option maxRecDepth 100000
noncomputable def DX (a0:AV) (σ:Heap):au:=(l9 [a0,(AV.aj 0),(AV.aj 65535)] σ).bind λr1=>A.fin σ r1.1 r1.2
noncomputable def yh:an→Heap→au:=A.wrap true [] .k (A.fG DX)
noncomputable def DT (a0:AV) (σ:Heap):au:=(A.bl a0).bind λx1=>(A.gtr x1 (AV.aj 30)).bind λx2=>A.cond x2 (A.fin σ (AV.aj 2) σ) ((A.bl a0).bind λx3=>(A.loop (λv4 s5=>(A.lss (ah v4 1) x3).bind λx7=>A.cond x7 ((A.aJ 3 a0 (ah v4 1)).bind λx8=>((A.deref x8 s5).bind λc9=>A.aB 0 3 c9).bind λbg=>(A.cells 3 bg).bind λjd=>(A.aV 0 jd [(AV.aj 0),(AV.aj 0),bD]).bind λeU=>(A.aD 0 eU).bind λbT=>(yh [bT] s5).bind λiQ=>(A.not iQ.1).bind λbf=>(A.guard bf false (A.aD 1 eU) aq).bind λbG=>(A.guard bf false (A.quiet (yh [bG] iQ.2) iQ.2) aq).bind λbM=>(A.guard bf false (A.not bM) aq).bind λbA=>(A.pick bf eI bA).bind λcr=>(A.guard cr false (A.aD 0 eU) aq).bind λcU=>(A.guard cr false (A.aD 1 eU) aq).bind λbw=>(A.guard cr false (A.gtr cU bw) aq).bind λbX=>(A.pick cr eI bX).bind λcy=>A.cond cy (some (AX.ret,[(AV.aj 1),(ah v4 1)],iQ.2)) ((A.gtr (ah v4 1) (AV.aj 0)).bind λcC=>(A.guard cC true (A.aD 0 eU) aq).bind λcA=>(A.guard cC true (some a0) aq).bind λcD=>(A.guard cC true (some (ah v4 1)) aq).bind λcN=>(A.guard cC true (A.sub cN (AV.aj 1)) aq).bind λeM=>(A.guard cC true (A.aJ 3 cD eM) aq).bind λdJ=>(A.guard cC true (A.cW 1 dJ) aq).bind λck=>(A.guard cC true ((A.deref ck iQ.2).bind λnr=>A.aD 0 nr) aq).bind λdK=>(A.guard cC true (A.leq cA dK) aq).bind λeN=>(A.pick cC eN bF).bind λfQ=>A.cond fQ (some (AX.ret,[(AV.aj 7),(ah v4 1)],iQ.2)) ((A.aD 2 eU).bind λeZ=>(yz [eZ] iQ.2).bind λsB=>(A.not sB.1).bind λji=>A.cond ji (some (AX.ret,[(AV.aj 5),(ah v4 1)],sB.2)) ((A.aD 2 eU).bind λew=>(A.look .z (AV.om σ.length) ew bF sB.2).bind λdQ=>A.cond dQ (some (AX.ret,[(AV.aj 6),(ah v4 1)],sB.2)) ((A.aD 2 eU).bind λiB=>(A.gO .z (AV.om σ.length) iB eI sB.2).bind λX0=>(A.add (ah v4 1) (AV.aj 1)).bind λku=>some (AX.normal,[(ah v4 0),ku],X0)))))) (some (AX.exit 0,[(ah v4 0),(ah v4 1)],s5))) [(AV.aj 0),(AV.aj 0)] (σ++[aX.map []])).bind λjg=>bif jg.1==AX.exit 0 then(A.fin σ (AV.aj 0) jg.2.2)else bif jg.1==AX.ret then(A.fin σ (ah jg.2.1 0) jg.2.2)else none)
noncomputable def DS:an→Heap→au:=A.wrap true [(.s 3)] .k (A.fG DT)
noncomputable def DR (a0:AV) (σ:Heap):au:=(A.cells 3 a0).bind λc1=>(A.aD 0 c1).bind λx2=>(yz [x2] σ).bind λr3=>(A.not r3.1).bind λx4=>A.cond x4 (A.fin σ (AV.aj 5) r3.2) ((A.aD 1 c1).bind λx5=>(l9 [x5,(AV.aj 1),(AV.aj 512)] r3.2).bind λr6=>(A.not r6.1).bind λx7=>A.cond x7 (A.fin σ (AV.aj 1) r6.2) ((A.aD 2 c1).bind λx8=>(A.bl x8).bind λx9=>(A.eql .i x9 (AV.aj 0)).bind λbg=>A.cond bg (A.fin σ (AV.aj 8) r6.2) ((A.aD 2 c1).bind λcg=>(A.bl cg).bind λbP=>(A.gtr bP (AV.aj 40)).bind λbT=>A.cond bT (A.fin σ (AV.aj 2) r6.2) ((A.aD 2 c1).bind λcu=>(A.bl cu).bind λbf=>(A.loop (λgp Ib=>(A.lss (ah gp 2) bf).bind λcr=>A.cond cr ((A.aJ 7 cu (ah gp 2)).bind λcU=>((A.deref cU Ib).bind λiL=>A.aB 0 7 iL).bind λbX=>(A.cells 7 bX).bind λiM=>(A.aV 0 iM [bD,(AV.aj 0),(AV.aj 0),(AV.aj 0),(AV.aj 0),bF,AV.aE]).bind λgR=>(A.aD 0 gR).bind λcA=>(yz [cA] Ib).bind λiR=>(A.not iR.1).bind λcN=>A.cond cN (some (AX.ret,[(ah gp 0),(AV.aj 5),(ah gp 2)],iR.2)) ((A.aD 0 gR).bind λeM=>(A.look .z (AV.om r6.2.length) eM bF iR.2).bind λdJ=>A.cond dJ (some (AX.ret,[(ah gp 0),(AV.aj 6),(ah gp 2)],iR.2)) ((A.aD 1 gR).bind λck=>(l9 [ck,(AV.aj 1),(AV.aj 4)] iR.2).bind λjK=>(A.not jK.1).bind λdK=>A.cond dK (some (AX.ret,[(ah gp 0),(AV.aj 4),(ah gp 2)],jK.2)) ((A.aD 2 gR).bind λeN=>((A.lb (ah gp 0)).bind λ_=>some (1)).bind λZn=>((A.lb (ah gp 0)).bind λgA=>A.aD Zn gA).bind λfR=>(l9 [eN,(AV.aj 1),fR] jK.2).bind λqB=>(A.not qB.1).bind λew=>(A.guard ew false (A.aD 3 gR) aq).bind λdQ=>((A.lb (ah gp 0)).bind λ_ => some (1)).bind λZq =>(A.guard ew false ((A.lb (ah gp 0)).bind λHe=>A.aD Zq He) aq).bind λku=>(A.guard ew false (A.quiet (l9 [dQ,(AV.aj 0),ku] qB.2) qB.2) aq).bind λnF=>(A.guard ew false (A.not nF) aq).bind λjj=>(A.pick ew eI jj).bind λiS=>(A.guard iS false (A.aD 4 gR) aq).bind λoA=>(A.guard iS false (A.quiet (yh [oA] qB.2) qB.2) aq).bind λlz=>(A.guard iS false (A.not lz) aq).bind λiC=>(A.pick iS eI iC).bind λeO=>A.cond eO (some (AX.ret,[(ah gp 0),(AV.aj 1),(ah gp 2)],qB.2)) ((A.aD 2 gR).bind λdW=>(A.aD 3 gR).bind λdX=>(A.eql .i dW dX).bind λe9=>(A.guard e9 false (some (AV.om (r6.2++[aX.map []]).length)) aq).bind λsF=>(A.guard e9 false (A.aD 2 gR) aq).bind λfS=>(A.guard e9 false (A.look .i sF fS bF qB.2) aq).bind λl6=>(A.pick e9 eI l6).bind λgq=>(A.guard gq false (A.aD 3 gR) aq).bind λfB=>(A.guard gq false (A.gtr fB (AV.aj 0)) aq).bind λgJ=>(A.guard gq false (some gJ) aq).bind λgd=>(A.guard gd true (some (AV.om (r6.2++[aX.map []]).length)) aq).bind λkC=>(A.guard gd true (A.aD 3 gR) aq).bind λfT=>(A.guard gd true (A.look .i kC fT bF qB.2) aq).bind λsG=>(A.guard gq false (A.pick gd sG bF) aq).bind λdO=>(A.pick gq eI dO).bind λIm=>A.cond Im (some (AX.ret,[(ah gp 0),(AV.aj 12),(ah gp 2)],qB.2)) ((A.aD 6 gR).bind λIo=>(DS [Io] qB.2).bind λxR=>(A.neq .i xR.1 (AV.aj 0)).bind λuj=>A.cond uj (some (AX.ret,[(ah gp 0),xR.1,(ah gp 2)],xR.2)) ((A.aD 0 gR).bind λnG=>(A.aD 2 gR).bind λsH=>(A.gO .z (AV.om r6.2.length) nG eI xR.2).bind λX4=>(A.gO .i (AV.om (r6.2++[aX.map []]).length) sH eI X4).bind λN5=>(A.aD 3 gR).bind λvE=>(A.gtr vE (AV.aj 0)).bind λsI=>(A.cond sI ((A.aD 3 gR).bind λvG=>(A.gO .i (AV.om (r6.2++[aX.map []]).length) vG eI N5).bind λX5=>some ([(ah gp 0)],X5)) (some ([(ah gp 0)],N5))).bind λOC=>(A.add (ah gp 2) (AV.aj 1)).bind λl7=>some (AX.normal,[(ah OC.1 0),(ah gp 1),l7],OC.2)))))))) (some (AX.exit 1,[(ah gp 0),(ah gp 1),(ah gp 2)],Ib))) [(AV.lbx c1),(AV.aj 0),(AV.aj 0)] ((r6.2++[aX.map []])++[aX.map []])).bind λou=>bif ou.1==AX.exit 1 then(A.fin σ (AV.aj 0) ou.2.2)else bif ou.1==AX.ret then(A.fin σ (ah ou.2.1 1) ou.2.2)else none))))
noncomputable def DP:an→Heap→au:=A.wrap true [(.a [.k,.k,(.s 7)])] .k (A.fG DR)
noncomputable def DQ (a0:AV) (σ:Heap):au:=(A.bl a0).bind λx1=>(A.gtr x1 (AV.aj 60)).bind λx2=>A.cond x2 (A.fin σ (AV.aj 2) σ) ((A.bl a0).bind λx3=>(A.loop (λv4 s5=>(A.lss (ah v4 1) x3).bind λx7=>A.cond x7 ((A.aJ 3 a0 (ah v4 1)).bind λx8=>((A.deref x8 s5).bind λc9=>A.aB 0 3 c9).bind λbg=>(A.cells 3 bg).bind λjd=>(A.aV 0 jd [bD,(AV.aj 0),AV.aE]).bind λeU=>(A.aB 0 3 eU).bind λbT=>(DP [bT] s5).bind λiQ=>(A.neq .i iQ.1 (AV.aj 0)).bind λbf=>A.cond bf (some (AX.ret,[iQ.1,(ah v4 1)],iQ.2)) ((A.aD 0 eU).bind λbG=>(A.look .z (AV.om σ.length) bG bF iQ.2).bind λbM=>A.cond bM (some (AX.ret,[(AV.aj 6),(ah v4 1)],iQ.2)) ((A.aD 0 eU).bind λbA=>(A.gO .z (AV.om σ.length) bA eI iQ.2).bind λXZ=>(A.add (ah v4 1) (AV.aj 1)).bind λcU=>some (AX.normal,[(ah v4 0),cU],XZ)))) (some (AX.exit 0,[(ah v4 0),(ah v4 1)],s5))) [(AV.aj 0),(AV.aj 0)] (σ++[aX.map []])).bind λlZ=>bif lZ.1==AX.exit 0 then(A.fin σ (AV.aj 0) lZ.2.2)else bif lZ.1==AX.ret then(A.fin σ (ah lZ.2.1 0) lZ.2.2)else none)
noncomputable def DO:an→Heap→au:=A.wrap true [(.s 3)] .k (A.fG DQ)
noncomputable def DU (a0 a1:AV) (σ:Heap):au:=(A.cells 3 a0).bind λc1=>(A.aD 0 c1).bind λx2=>((A.deref a1 σ).bind λc3=>A.aD 0 c3).bind λx4=>(A.eql .z x2 x4).bind λx5=>A.fin σ x5 σ
noncomputable def yc:an→Heap→au:=A.wrap true [(.a [.k,.k,(.s 7)])] .k (A.dh DU)
noncomputable def Be (a0 a1:AV) (σ:Heap):au:=(((A.cell a1).bind λv=>some [v]).bind λcs=>some (AV.rp cs)).bind λx1=>(A4 (A.tab (λ_ _=>none) [(64,yc)]) [a0,(AV.fn 64 [x1])] σ).bind λr2=>(A.lss r2.1 (AV.aj 0)).bind λx3=>A.cond x3 ((A.cells 3 (AV.agg [bD,(AV.aj 0),AV.aE])).bind λc4=>(A.aV 0 c4 [bD,(AV.aj 0),AV.aE]).bind λc5=>(A.aB 0 3 c5).bind λx6=>A.fin σ (AV.aG [x6,bF]) r2.2) ((A.aJ 3 a0 r2.1).bind λx7=>((A.deref x7 r2.2).bind λc8=>A.aB 0 3 c8).bind λx9=>(A.cells 3 x9).bind λoW=>(A.aV 0 oW [bD,(AV.aj 0),AV.aE]).bind λjd=>(A.aB 0 3 jd).bind λbP=>A.fin σ (AV.aG [bP,eI]) r2.2)
noncomputable def Bc:an→Heap→au:=A.wrap true [(.s 3)] C4 (A.dh Be)
noncomputable def yf (a0 a1 a2:AV) (σ:Heap):au:=(A.eql .p a0 AV.np).bind λx1=>A.cond x1 ((A.add a1 a2).bind λx2=>(A.sub x2 (AV.aj 1)).bind λx3=>(A.leq x3 (AV.aj 512)).bind λx4=>A.fin σ x4 σ) ((A.loop (λv5 s6=>(A.add a1 a2).bind λx8=>(A.lss (ah v5 1) x8).bind λx9=>A.cond x9 ((A.gtr (ah v5 1) (AV.aj 512)).bind λbg=>(A.guard bg false (some a0) aq).bind λcg=>(A.guard bg false (some (ah v5 1)) aq).bind λbP=>(A.guard bg false (A.jy cg) aq).bind λbT=>(A.guard bg false (A.p9 513 1 bT bP) aq).bind λcu=>(A.guard bg false ((A.deref cu s6).bind λgz=>A.aD 0 gz) aq).bind λbG=>(A.pick bg eI bG).bind λbM=>A.cond bM (some (AX.ret,[bF,(ah v5 1)],s6)) ((A.add (ah v5 1) (AV.aj 1)).bind λbA=>some (AX.normal,[(ah v5 0),bA],s6))) (some (AX.exit 0,[(ah v5 0),(ah v5 1)],s6))) [bF,a1] σ).bind λdU=>bif dU.1==AX.exit 0 then(A.fin σ eI dU.2.2)else bif dU.1==AX.ret then(A.fin σ (ah dU.2.1 0) dU.2.2)else none)
noncomputable def vV:an→Heap→au:=A.wrap true [] .k (A.jX yf)
noncomputable def ym (a0 a1 a2:AV) (σ:Heap):au:=(A.cells 4 a1).bind λc1=>(A.aD 2 c1).bind λx2=>(A.look .i a0 x2 AV.np σ).bind λx3=>(A.eql .p x3 AV.np).bind λx4=>(A.cond x4 ((A.aD 2 c1).bind λx6=>(A.gO .i a0 x6 (AV.op σ.length 0) (σ++[aX.box (List.replicate 513 bF)])).bind λh7=>some ([(AV.lbx c1)],h7)) (some ([(AV.lbx c1)],σ))).bind λr5=>((A.lb (ah r5.1 0)).bind λ_=>some (3)).bind λp8=>((A.lb (ah r5.1 0)).bind λc9=>A.aD p8 c9).bind λbg=>(A.loop (λv11 eY=>((A.lb (ah v11 0)).bind λ_=>some (3)).bind λZh=>((A.lb (ah v11 0)).bind λgz=>A.aD Zh gz).bind λbG=>(A.add bG a2).bind λbM=>(A.lss (ah v11 1) bM).bind λbA=>A.cond bA (((A.lb (ah v11 0)).bind λ_=>some (2)).bind λZk=>((A.lb (ah v11 0)).bind λdD=>A.aD Zk dD).bind λbw=>(A.look .i a0 bw AV.np eY).bind λbX=>(A.jy bX).bind λcy=>(A.p9 513 1 cy (ah v11 1)).bind λcC=>((A.cell eI).bind λv=>some [v]).bind λmG=>(A.storeAt cC mG eY).bind λzI=>(A.add (ah v11 1) (AV.aj 1)).bind λcN=>some (AX.normal,[(ah v11 0),cN],zI)) (some (AX.exit 0,[(ah v11 0),(ah v11 1)],eY))) [(ah r5.1 0),bg] r5.2).bind λeX=>bif eX.1==AX.exit 0 then(some ((AV.aG []),eX.2.2))else none
noncomputable def Bg:an→Heap→au:=A.wrap false [] .k (A.jX ym)
noncomputable def DW (a0:AV) (σ:Heap):au:=(A.cells 2 a0).bind λc1=>(A.aD 0 c1).bind λx2=>(DO [x2] σ).bind λr3=>(A.neq .i r3.1 (AV.aj 0)).bind λx4=>A.cond x4 (A.fin σ r3.1 r3.2) ((A.aD 1 c1).bind λx5=>(A.bl x5).bind λx6=>(A.gtr x6 (AV.aj 400)).bind λx7=>A.cond x7 (A.fin σ (AV.aj 2) r3.2) ((A.aD 1 c1).bind λx8=>(A.bl x8).bind λx9=>(A.loop (λv10 Ia=>(A.lss (ah v10 2) x9).bind λbT=>A.cond bT ((A.aJ 4 x8 (ah v10 2)).bind λcu=>((A.deref cu Ia).bind λgz=>A.aB 0 4 gz).bind λbG=>(A.cells 4 bG).bind λjZ=>(A.aV 0 jZ [(AV.aj 0),bD,(AV.aj 0),(AV.aj 0)]).bind λgm=>(A.aD 0 gm).bind λcr=>(l9 [cr,(AV.aj 1),(AV.aj 9999)] Ia).bind λsy=>(A.not sy.1).bind λbw=>A.cond bw (some (AX.ret,[(ah v10 0),(AV.aj 1),(ah v10 2)],sy.2)) ((A.gtr (ah v10 2) (AV.aj 0)).bind λbX=>(A.guard bX true (A.aD 0 gm) aq).bind λcy=>((A.lb (ah v10 0)).bind λ_ => some (1)).bind λZl =>(A.guard bX true ((A.lb (ah v10 0)).bind λmG=>A.aD Zl mG) aq).bind λcD=>(A.guard bX true (some (ah v10 2)) aq).bind λcN=>(A.guard bX true (A.sub cN (AV.aj 1)) aq).bind λeM=>(A.guard bX true (A.aJ 4 cD eM) aq).bind λdJ=>(A.guard bX true (A.cW 0 dJ) aq).bind λck=>(A.guard bX true ((A.deref ck sy.2).bind λnr=>A.aD 0 nr) aq).bind λdK=>(A.guard bX true (A.leq cy dK) aq).bind λeN=>(A.pick bX eN bF).bind λfQ=>A.cond fQ (some (AX.ret,[(ah v10 0),(AV.aj 7),(ah v10 2)],sy.2)) (((A.lb (ah v10 0)).bind λ_=>some (0)).bind λZo=>((A.lb (ah v10 0)).bind λrP=>A.aD Zo rP).bind λji=>(A.aD 1 gm).bind λew=>(Bc [ji,ew] sy.2).bind λDp=>(A.ext 0 Dp.1).bind λiB=>(A.ext 1 Dp.1).bind λeA=>(A.cells 3 iB).bind λzK=>(A.aV 0 zK [bD,(AV.aj 0),AV.aE]).bind λrQ=>(A.not eA).bind λjj=>A.cond jj (some (AX.ret,[(ah v10 0),(AV.aj 5),(ah v10 2)],Dp.2)) ((A.aD 2 gm).bind λiS=>(l9 [iS,(AV.aj 1),(AV.aj 64)] Dp.2).bind λxQ=>(A.not xQ.1).bind λlz=>(A.guard lz false (A.aD 3 gm) aq).bind λiC=>(A.guard lz false (A.quiet (l9 [iC,(AV.aj 1),(AV.aj 512)] xQ.2) xQ.2) aq).bind λeO=>(A.guard lz false (A.not eO) aq).bind λdW=>(A.pick lz eI dW).bind λdX=>(A.guard dX false (A.aD 3 gm) aq).bind λe9=>(A.guard dX false (A.aD 1 rQ) aq).bind λsF=>(A.guard dX false (A.add e9 sF) aq).bind λfS=>(A.guard dX false (A.sub fS (AV.aj 1)) aq).bind λl6=>(A.guard dX false (A.gtr l6 (AV.aj 512)) aq).bind λgq=>(A.pick dX eI gq).bind λfB=>A.cond fB (some (AX.ret,[(ah v10 0),(AV.aj 1),(ah v10 2)],xQ.2)) ((A.aD 2 gm).bind λgJ=>(A.look .i (AV.om r3.2.length) gJ AV.np xQ.2).bind λgd=>(A.aD 3 gm).bind λkC=>(A.aD 1 rQ).bind λfT=>(vV [gd,kC,fT] xQ.2).bind λeJ=>(A.not eJ.1).bind λdO=>A.cond dO (some (AX.ret,[(ah v10 0),(AV.aj 12),(ah v10 2)],eJ.2)) ((A.aB 0 4 gm).bind λIm=>(A.aD 1 rQ).bind λIo=>(Bg [(AV.om r3.2.length),Im,Io] eJ.2).bind λxR=>(A.add (ah v10 2) (AV.aj 1)).bind λuj=>some (AX.normal,[(ah v10 0),(ah v10 1),uj],xR.2))))))) (some (AX.exit 0,[(ah v10 0),(ah v10 1),(ah v10 2)],Ia))) [(AV.lbx c1),(AV.aj 0),(AV.aj 0)] (r3.2++[aX.map []])).bind λAx=>bif Ax.1==AX.exit 0 then(A.fin σ (AV.aj 0) Ax.2.2)else bif Ax.1==AX.ret then(A.fin σ (ah Ax.2.1 1) Ax.2.2)else none))
noncomputable def Bb:an→Heap→au:=A.wrap true [oM] .k (A.fG DW)
noncomputable def yl (a0:AV) (σ:Heap):au:=(A.cells 2 a0).bind λc1=>(A.aB 0 2 c1).bind λx2=>(Bb [x2] σ).bind λr3=>(A.neq .i r3.1 (AV.aj 0)).bind λx4=>A.cond x4 (A.fin σ (AV.aG [AV.aE,r3.1]) r3.2) ((A.aD 1 c1).bind λx5=>(A.bl x5).bind λx6=>(A.loop (λv7 s8=>(A.lss (ah v7 2) x6).bind λbg=>A.cond bg ((A.aJ 4 x5 (ah v7 2)).bind λcg=>((A.deref cg s8).bind λeU=>A.aB 0 4 eU).bind λbT=>(A.cells 4 bT).bind λiq=>(A.aV 0 iq [(AV.aj 0),bD,(AV.aj 0),(AV.aj 0)]).bind λgz=>((A.lb (ah v7 0)).bind λ_=>some (0)).bind λZi=>((A.lb (ah v7 0)).bind λjZ=>A.aD Zi jZ).bind λbA=>(A.aD 1 gz).bind λcr=>(Bc [bA,cr] s8).bind λsy=>(A.ext 0 sy.1).bind λbw=>(A.ext 1 sy.1).bind λbX=>(A.cells 3 bw).bind λiM=>(A.aV 0 iM [bD,(AV.aj 0),AV.aE]).bind λgR=>(A.aD 2 gR).bind λcA=>(A.bl cA).bind λcD=>(A.loop (λdj iA=>(A.lss (ah dj 3) cD).bind λck=>A.cond ck ((A.aJ 7 cA (ah dj 3)).bind λfA=>((A.deref fA iA).bind λuY=>A.aB 0 7 uY).bind λeN=>(A.cells 7 eN).bind λlT=>(A.aV 0 lT [bD,(AV.aj 0),(AV.aj 0),(AV.aj 0),(AV.aj 0),bF,AV.aE]).bind λgA=>((A.lb (ah dj 2)).bind λ_=>some (0)).bind λZp=>((A.lb (ah dj 2)).bind λkg=>A.aD Zp kg).bind λew=>(A.aD 0 gA).bind λdQ=>((((A.cell ew).bind λv=>some [v]).bind λqv=>(A.aV 0 qv [(AV.aj 0),bD]).bind λHe=>((A.cell dQ).bind λv=>some [v]).bind λzK=>(A.aV 1 zK He).bind λrQ=>some rQ).bind λcs=>some (AV.agg cs)).bind λjj=>(((A.cells 2 jj).bind λXF=>(A.aV 0 XF [(AV.aj 0),bD]).bind λzL=>some zL).bind λcs=>some (AV.sl 2 (e8 2 1 cs))).bind λlz=>(A.append 2 (140737488355328 / 24) (ah dj 1) lz iA).bind λl5=>(A.add (ah dj 3) (AV.aj 1)).bind λeO=>some (AX.normal,[(ah dj 0),l5.1,(ah dj 2),eO],l5.2)) (some (AX.exit 2,[(ah dj 0),(ah dj 1),(ah dj 2),(ah dj 3)],iA))) [(ah v7 0),(ah v7 1),(AV.lbx gz),(AV.aj 0)] sy.2).bind λDr=>bif Dr.1==AX.exit 2 then((A.add (ah v7 2) (AV.aj 1)).bind λdX=>some (AX.normal,[(ah Dr.2.1 0),(ah Dr.2.1 1),dX],Dr.2.2))else none) (some (AX.exit 0,[(ah v7 0),(ah v7 1),(ah v7 2)],s8))) [(AV.lbx c1),AV.aE,(AV.aj 0)] r3.2).bind λH7=>bif H7.1==AX.exit 0 then(A.fin σ (AV.aG [(ah H7.2.1 1),(AV.aj 0)]) H7.2.2)else none)
noncomputable def D1:an→Heap→au:=A.wrap true [oM] (.t [(.s 2),.k]) (A.fG yl)
end
section
set_option maxRecDepth 100000
noncomputable def Ey (a0:AV) (σ:Heap):au:=(A.cells 2 a0).bind λc1=>(A.aB 0 2 c1).bind λx2=>(D1 [x2] σ).bind λr3=>(A.ext 0 r3.1).bind λx4=>(A.ext 1 r3.1).bind λx5=>(A.bl x4).bind λx6=>(A.loop (λv7 s8=>(A.lss (ah v7 0) x6).bind λbg=>A.cond bg ((A.aJ 2 x4 (ah v7 0)).bind λcg=>((A.deref cg s8).bind λeU=>A.aB 0 2 eU).bind λbT=>(A.cells 2 bT).bind λiq=>(A.aV 0 iq [(AV.aj 0),bD]).bind λgz=>(A.aB 0 2 gz).bind λbG=>(A.gO (.s [0,2]) (AV.om r3.2.length) bG eI s8).bind λXY=>(A.add (ah v7 0) (AV.aj 1)).bind λbA=>some (AX.normal,[bA],XY)) (some (AX.exit 0,[(ah v7 0)],s8))) [(AV.aj 0)] (r3.2++[aX.map []])).bind λdU=>bif dU.1==AX.exit 0 then(A.fin σ (AV.om r3.2.length) dU.2.2)else none
noncomputable def yy:an→Heap→au:=A.wrap true [oM] .k (A.fG Ey)
noncomputable def Eg (a0:AV) (σ:Heap):au:=(A.eql .z a0 bD).bind λx1=>(A.guard x1 false (some a0) aq).bind λx2=>(A.guard x1 false (A.quiet (Ed [x2] σ) σ) aq).bind λx3=>(A.pick x1 eI x3).bind λx4=>A.fin σ x4 σ
noncomputable def yt:an→Heap→au:=A.wrap true [] .k (A.fG Eg)
noncomputable def D4 (a0:AV) (σ:Heap):au:=(l9 [a0,(AV.aj 0),(AV.aj 65535)] σ).bind λr1=>A.fin σ r1.1 r1.2
noncomputable def sM:an→Heap→au:=A.wrap true [] .k (A.fG D4)
noncomputable def D9 (a0 a1:AV) (σ:Heap):au:=(A.cells 2 a0).bind λc1=>(A.cells 2 a1).bind λc2=>(A.aD 0 c1).bind λx3=>(A.aD 0 c2).bind λx4=>(A.neq .i x3 x4).bind λx5=>A.cond x5 ((A.aD 0 c1).bind λx6=>(A.aD 0 c2).bind λx7=>(A.lss x6 x7).bind λx8=>A.fin σ x8 σ) ((A.aD 1 c1).bind λx9=>(A.aD 1 c2).bind λbg=>(Bd [x9,bg] σ).bind λfu=>(A.lss fu.1 (AV.aj 0)).bind λbP=>A.fin σ bP fu.2)
noncomputable def D8:an→Heap→au:=A.wrap true [] .k (A.dh D9)
noncomputable def DV (a0 a1:AV) (σ:Heap):au:=(A.cells 2 a0).bind λc1=>(A.aB 0 2 c1).bind λx2=>(Bb [x2] σ).bind λr3=>(A.bl a1).bind λx4=>(A.gtr x4 (AV.aj 200)).bind λx5=>(ur [x5,(AV.aj 2)] r3.2).bind λr6=>((((A.cell r3.1).bind λv=>some [v]).bind λc7=>(A.aV 0 c7 [(AV.aj 0),(AV.aj 0)]).bind λc8=>((A.cell r6.1).bind λv=>some [v]).bind λc9=>(A.aV 1 c9 c8).bind λoW=>some oW).bind λcs=>some (AV.sl 1 (e8 1 2 cs))).bind λcg=>(yu [cg] r6.2).bind λnA=>(A.neq .i nA.1 (AV.aj 0)).bind λbT=>A.cond bT (A.fin σ nA.1 nA.2) ((A.aB 0 2 c1).bind λcu=>(yy [cu] nA.2).bind λfZ=>(A.bl a1).bind λbG=>(A.loop (λnD Ic=>(A.lss (ah nD 1) bG).bind λcU=>A.cond cU ((A.aJ 3 a1 (ah nD 1)).bind λbw=>((A.deref bw Ic).bind λzH=>A.aB 0 3 zH).bind λcy=>(A.cells 3 cy).bind λgR=>(A.aV 0 gR [(AV.aj 0),bD,AV.aE]).bind λmG=>(A.aD 0 mG).bind λcD=>(l9 [cD,(AV.aj 1),(AV.aj 999)] Ic).bind λlq=>(A.not lq.1).bind λeM=>A.cond eM (some (AX.ret,[(AV.aj 1),(ah nD 1)],lq.2)) ((A.gtr (ah nD 1) (AV.aj 0)).bind λdJ=>(A.guard dJ true (A.aD 0 mG) aq).bind λck=>(A.guard dJ true (some a1) aq).bind λfA=>(A.guard dJ true (some (ah nD 1)) aq).bind λdK=>(A.guard dJ true (A.sub dK (AV.aj 1)) aq).bind λeN=>(A.guard dJ true (A.aJ 3 fA eN) aq).bind λfQ=>(A.guard dJ true (A.cW 0 fQ) aq).bind λeZ=>(A.guard dJ true ((A.deref eZ lq.2).bind λrP=>A.aD 0 rP) aq).bind λji=>(A.guard dJ true (A.leq ck ji) aq).bind λew=>(A.pick dJ ew bF).bind λdQ=>A.cond dQ (some (AX.ret,[(AV.aj 7),(ah nD 1)],lq.2)) ((A.aD 1 mG).bind λiB=>(yt [iB] lq.2).bind λDq=>(A.not Dq.1).bind λku=>A.cond ku (some (AX.ret,[(AV.aj 3),(ah nD 1)],Dq.2)) ((A.aD 2 mG).bind λnF=>(A.bl nF).bind λjj=>(A.gtr jj (AV.aj 2000)).bind λiS=>A.cond iS (some (AX.ret,[(AV.aj 2),(ah nD 1)],Dq.2)) ((A.aD 2 mG).bind λoA=>(A.bl oA).bind λlz=>(A.loop (λjL AB=>(A.lss (ah jL 2) lz).bind λdX=>A.cond dX ((A.aJ 3 oA (ah jL 2)).bind λe9=>((A.deref e9 AB).bind λfH=>A.aB 0 3 fH).bind λfS=>(A.cells 3 fS).bind λu0=>(A.aV 0 u0 [(AV.aj 0),bD,(AV.aj 0)]).bind λrR=>(A.aB 0 2 rR).bind λfB=>(A.look (.s [0,2]) fZ.1 fB bF AB).bind λgJ=>(A.not gJ).bind λgd=>A.cond gd (some (AX.ret,[(AV.aj 8),(ah jL 1),(ah jL 2)],AB)) ((A.aD 2 rR).bind λkC=>(sM [kC] AB).bind λvB=>(A.not vB.1).bind λsG=>A.cond sG (some (AX.ret,[(AV.aj 1),(ah jL 1),(ah jL 2)],vB.2)) ((A.gtr (ah jL 2) (AV.aj 0)).bind λdO=>((A.lb (ah jL 1)).bind λ_ => some (2)).bind λZr =>(A.guard dO true ((A.lb (ah jL 1)).bind λXK=>A.aD Zr XK) aq).bind λDy=>(A.guard dO true (some (ah jL 2)) aq).bind λuj=>(A.guard dO true (A.sub uj (AV.aj 1)) aq).bind λnG=>(A.guard dO true (A.aJ 3 Dy nG) aq).bind λsH=>(A.guard dO true (A.cW 0 sH) aq).bind λvD=>(A.guard dO true ((A.deref vD vB.2).bind λu9=>A.aB 0 2 u9) aq).bind λvE=>(A.guard dO true (A.aB 0 2 rR) aq).bind λsI=>(A.guard dO true (A.quiet (D8 [vE,sI] vB.2) vB.2) aq).bind λvF=>(A.guard dO true (A.not vF) aq).bind λvG=>(A.pick dO vG bF).bind λvH=>A.cond vH (some (AX.ret,[(AV.aj 7),(ah jL 1),(ah jL 2)],vB.2)) ((A.add (ah jL 2) (AV.aj 1)).bind λl7=>some (AX.normal,[(ah jL 0),(ah jL 1),l7],vB.2))))) (some (AX.exit 3,[(ah jL 0),(ah jL 1),(ah jL 2)],AB))) [(ah nD 0),(AV.lbx mG),(AV.aj 0)] Dq.2).bind λou=>bif ou.1==AX.exit 3 then((A.add (ah nD 1) (AV.aj 1)).bind λAK=>some (AX.normal,[(ah ou.2.1 0),AK],ou.2.2))else bif ou.1==AX.ret then(some (AX.ret,[(ah ou.2.1 0),(ah nD 1)],ou.2.2))else none))))) (some (AX.exit 0,[(ah nD 0),(ah nD 1)],Ic))) [(AV.aj 0),(AV.aj 0)] fZ.2).bind λsC=>bif sC.1==AX.exit 0 then(A.fin σ (AV.aj 0) sC.2.2)else bif sC.1==AX.ret then(A.fin σ (ah sC.2.1 0) sC.2.2)else none)
noncomputable def vW:an→Heap→au:=A.wrap true [oM,(.s 3)] .k (A.dh DV)
noncomputable def Ef (a0 a1 a2:AV) (σ:Heap):au:=(A.cells 2 a1).bind λc1=>(A.cells 2 a2).bind λc2=>(A.aD 0 c2).bind λx3=>(A.neq .i x3 (AV.aj 0)).bind λx4=>(A.guard x4 true (A.aD 1 c2) aq).bind λx5=>(A.guard x4 true (A.neq .i x5 (AV.aj 0)) aq).bind λx6=>(A.pick x4 x6 bF).bind λx7=>A.cond x7 (A.fin σ (AV.aG [(AV.aj 0),(AV.aj 3)]) σ) ((A.aD 0 c2).bind λx8=>(sM [x8] σ).bind λr9=>(A.not r9.1).bind λbg=>A.cond bg (A.fin σ (AV.aG [(AV.aj 0),(AV.aj 1)]) r9.2) ((A.aD 1 c2).bind λcg=>(A.eql .i cg (AV.aj 0)).bind λbP=>A.cond bP ((A.aD 0 c2).bind λbT=>A.fin σ (AV.aG [bT,(AV.aj 0)]) r9.2) ((A.bl a0).bind λcu=>(A.loop (λjh vC=>(A.lss (ah jh 4) cu).bind λbA=>A.cond bA ((A.aJ 3 a0 (ah jh 4)).bind λcr=>((A.deref cr vC).bind λdD=>A.aB 0 3 dD).bind λbw=>(A.cells 3 bw).bind λzH=>(A.aV 0 zH [(AV.aj 0),bD,AV.aE]).bind λiM=>(A.aD 0 iM).bind λcC=>((A.lb (ah jh 1)).bind λ_=>some (1)).bind λZm=>((A.lb (ah jh 1)).bind λzI=>A.aD Zm zI).bind λcN=>(A.neq .i cC cN).bind λeM=>A.cond eM ((A.add (ah jh 4) (AV.aj 1)).bind λdJ=>some (AX.normal,[(ah jh 0),(ah jh 1),(ah jh 2),(ah jh 3),dJ],vC)) ((A.aD 2 iM).bind λck=>(A.bl ck).bind λfA=>(A.loop (λnE Du=>(A.lss (ah nE 3) fA).bind λeZ=>A.cond eZ ((A.aJ 3 ck (ah nE 3)).bind λfR=>((A.deref fR Du).bind λkg=>A.aB 0 3 kg).bind λew=>(A.cells 3 ew).bind λuZ=>(A.aV 0 uZ [(AV.aj 0),bD,(AV.aj 0)]).bind λqv=>(A.aB 0 2 qv).bind λeA=>((A.lb (ah nE 0)).bind λzK=>A.aB 0 2 zK).bind λnF=>(A.eql (.s [0,2]) eA nF).bind λjj=>A.cond jj ((A.aD 2 qv).bind λiS=>some (AX.ret,[(ah nE 0),iS,(AV.aj 0),(ah nE 3)],Du)) ((A.add (ah nE 3) (AV.aj 1)).bind λoA=>some (AX.normal,[(ah nE 0),(ah nE 1),(ah nE 2),oA],Du))) (some (AX.exit 2,[(ah nE 0),(ah nE 1),(ah nE 2),(ah nE 3)],Du))) [(ah jh 0),(ah jh 2),(ah jh 3),(AV.aj 0)] vC).bind λqC=>bif qC.1==AX.exit 2 then(some (AX.exit 0,[(ah qC.2.1 0),AV.undef,(ah qC.2.1 1),(ah qC.2.1 2),(ah jh 4)],qC.2.2))else bif qC.1==AX.ret then(some (AX.ret,[(ah qC.2.1 0),AV.undef,(ah qC.2.1 1),(ah qC.2.1 2),(ah jh 4)],qC.2.2))else none)) (some (AX.exit 0,[(ah jh 0),(ah jh 1),(ah jh 2),(ah jh 3),(ah jh 4)],vC))) [(AV.lbx c1),(AV.lbx c2),(AV.aj 0),(AV.aj 0),(AV.aj 0)] r9.2).bind λl5=>bif l5.1==AX.exit 0 then(A.fin σ (AV.aG [(AV.aj 0),(AV.aj 8)]) l5.2.2)else bif l5.1==AX.ret then(A.fin σ (AV.aG [(ah l5.2.1 2),(ah l5.2.1 3)]) l5.2.2)else none)))
noncomputable def wg:an→Heap→au:=A.wrap true [(.s 3)] .k (A.jX Ef)
noncomputable def D3 (a0 a1:AV) (σ:Heap):au:=(A.cells 2 a0).bind λc1=>(A.cells 2 a1).bind λc2=>(A.aD 0 c1).bind λx3=>(A.aD 0 c2).bind λx4=>(A.neq .i x3 x4).bind λx5=>A.cond x5 ((A.aD 0 c1).bind λx6=>(A.aD 0 c2).bind λx7=>(A.lss x6 x7).bind λx8=>A.cond x8 (A.fin σ (AV.aj (-1)) σ) (A.fin σ (AV.aj 1) σ)) ((A.aD 1 c1).bind λx9=>(A.aD 1 c2).bind λbg=>(Bd [x9,bg] σ).bind λfu=>A.fin σ fu.1 fu.2)
noncomputable def D2:an→Heap→au:=A.wrap true [] .k (A.dh D3)
noncomputable def DY (a0 a1:AV) (σ:Heap):au:=(A.cells 3 a0).bind λc1=>(A.cells 3 a1).bind λc2=>(A.aB 0 2 c1).bind λx3=>(A.aB 0 2 c2).bind λx4=>(D2 [x3,x4] σ).bind λr5=>A.fin σ r5.1 r5.2
noncomputable def qI:an→Heap→au:=A.wrap true [] .k (A.dh DY)
noncomputable def yq (a0:AV) (σ:Heap):au:=(qH [a0] σ).bind λr1=>(vQ (A.tab (λ_ _=>none) [(147,qI)]) [r1.1,(AV.fn 147 [])] r1.2).bind λr2=>(A.bl r1.1).bind λx3=>(A.loop (λv4 s5=>(A.lss (ah v4 1) x3).bind λx7=>A.cond x7 ((A.aJ 3 r1.1 (ah v4 1)).bind λx8=>((A.deref x8 s5).bind λc9=>A.aB 0 3 c9).bind λbg=>(A.cells 3 bg).bind λjd=>(A.aV 0 jd [(AV.aj 0),bD,(AV.aj 0)]).bind λeU=>(A.add (ah v4 1) (AV.aj 1)).bind λbT=>(A.bl r1.1).bind λcu=>(A.eql .i bT cu).bind λbf=>(A.guard bf false (some r1.1) aq).bind λbG=>(A.guard bf false (some (ah v4 1)) aq).bind λbM=>(A.guard bf false (A.add bM (AV.aj 1)) aq).bind λbA=>(A.guard bf false (A.aJ 3 bG bA) aq).bind λcr=>(A.guard bf false (A.cW 0 cr) aq).bind λcU=>(A.guard bf false ((A.deref cU s5).bind λiL=>A.aB 0 2 iL) aq).bind λbX=>(A.guard bf false (A.aB 0 2 eU) aq).bind λcy=>(A.guard bf false (A.neq (.s [0,2]) bX cy) aq).bind λcC=>(A.pick bf eI cC).bind λcA=>(A.cond cA ((A.aB 0 3 eU).bind λcN=>(((A.cells 3 cN).bind λj0=>(A.aV 0 j0 [(AV.aj 0),bD,(AV.aj 0)]).bind λke=>some ke).bind λcs=>some (AV.sl 3 (e8 3 1 cs))).bind λck=>(A.append 3 (140737488355328 / 32) (ah v4 0) ck s5).bind λjK=>some ([jK.1],jK.2)) (some ([(ah v4 0)],s5))).bind λiR=>(A.add (ah v4 1) (AV.aj 1)).bind λdK=>some (AX.normal,[(ah iR.1 0),dK],iR.2)) (some (AX.exit 0,[(ah v4 0),(ah v4 1)],s5))) [AV.aE,(AV.aj 0)] r2.2).bind λoo=>bif oo.1==AX.exit 0 then(A.fin σ (ah oo.2.1 0) oo.2.2)else none
noncomputable def yp:an→Heap→au:=A.wrap true [(.s 3)] (.s 3) (A.fG yq)
noncomputable def II (a0 a1:AV) (σ:Heap):au:=(A.cells 3 a0).bind λc1=>(A.aD 0 c1).bind λx2=>(A.sub x2 a1).bind λx3=>A.fin σ x3 σ
noncomputable def pJ:an→Heap→au:=A.wrap true [(.a lJ)] .k (A.dh II)
noncomputable def Bj (a0 a1 a2 a3 a4 a5:AV) (σ:Heap):au:=(A.cells 2 a0).bind λc1=>(A.aB 0 2 c1).bind λx2=>(vW [x2,a1] σ).bind λr3=>(l9 [a2,(AV.aj 1),(AV.aj 999)] r3.2).bind λr4=>(A.not r4.1).bind λx5=>(ur [x5,(AV.aj 1)] r4.2).bind λr6=>(yt [a3] r6.2).bind λr7=>(A.not r7.1).bind λx8=>(ur [x8,(AV.aj 3)] r7.2).bind λr9=>(A.bl a4).bind λbg=>(A.gtr bg (AV.aj 20000)).bind λcg=>(ur [cg,(AV.aj 2)] r9.2).bind λnA=>((((A.cell r3.1).bind λv=>some [v]).bind λrO=>(A.aV 0 rO [(AV.aj 0),(AV.aj 0),(AV.aj 0),(AV.aj 0)]).bind λiq=>((A.cell r6.1).bind λv=>some [v]).bind λgz=>(A.aV 1 gz iq).bind λuW=>((A.cell r9.1).bind λv=>some [v]).bind λjZ=>(A.aV 2 jZ uW).bind λgm=>((A.cell nA.1).bind λv=>some [v]).bind λoX=>(A.aV 3 oX gm).bind λdD=>some dD).bind λcs=>some (AV.sl 1 (e8 1 4 cs))).bind λbw=>(yu [bw] nA.2).bind λjf=>(A.neq .i jf.1 (AV.aj 0)).bind λcy=>A.cond cy (A.fin σ (AV.aG [AV.aE,jf.1]) jf.2) ((A.aB 0 2 c1).bind λcC=>(yy [cC] jf.2).bind λsA=>(A.bl a4).bind λcD=>(A.loop (λdj iA=>(A.lss (ah dj 2) cD).bind λck=>A.cond ck ((A.aJ 3 a4 (ah dj 2)).bind λfA=>((A.deref fA iA).bind λuY=>A.aB 0 3 uY).bind λeN=>(A.cells 3 eN).bind λlT=>(A.aV 0 lT [(AV.aj 0),bD,(AV.aj 0)]).bind λgA=>(A.aB 0 2 gA).bind λfR=>(A.look (.s [0,2]) sA.1 fR bF iA).bind λji=>(A.not ji).bind λew=>A.cond ew (some (AX.ret,[AV.aE,(AV.aj 8),(ah dj 2)],iA)) ((A.aD 2 gA).bind λdQ=>(sM [dQ] iA).bind λko=>(A.not ko.1).bind λeA=>A.cond eA (some (AX.ret,[AV.aE,(AV.aj 1),(ah dj 2)],ko.2)) ((A.add (ah dj 2) (AV.aj 1)).bind λku=>some (AX.normal,[(ah dj 0),(ah dj 1),ku],ko.2)))) (some (AX.exit 0,[(ah dj 0),(ah dj 1),(ah dj 2)],iA))) [AV.aE,(AV.aj 0),(AV.aj 0)] sA.2).bind λjg=>bif jg.1==AX.exit 0 then((A.bl a1).bind λjj=>(A.loop (λbJ ct=>(A.lss (ah bJ 1) jj).bind λiC=>A.cond iC ((A.aJ 3 a1 (ah bJ 1)).bind λeO=>((A.deref eO ct).bind λlU=>A.aB 0 3 lU).bind λdX=>(A.cells 3 dX).bind λoY=>(A.aV 0 oY [(AV.aj 0),bD,AV.aE]).bind λfH=>(A.aD 2 fH).bind λfS=>((A.qj (.s 3) qH) [fS] ct).bind λoq=>((A.cell oq.1).bind λv=>some [v]).bind λrR=>(A.aV 2 rR fH).bind λoZ=>(A.aB 0 3 oZ).bind λgJ=>(((A.cells 3 gJ).bind λzN=>(A.aV 0 zN [(AV.aj 0),bD,AV.aE]).bind λzO=>some zO).bind λcs=>some (AV.sl 3 (e8 3 1 cs))).bind λfT=>(A.append 3 (140737488355328 / 48) (ah bJ 0) fT oq.2).bind λeJ=>(A.add (ah bJ 1) (AV.aj 1)).bind λdO=>some (AX.normal,[eJ.1,dO],eJ.2)) (some (AX.exit 2,[(ah bJ 0),(ah bJ 1)],ct))) [AV.aE,(AV.aj 0)] jg.2.2).bind λr64=>bif r64.1==AX.exit 2 then((vN (A.tab (λ_ _=>none) [(113,pJ)]) [(ah r64.2.1 0),a2,(AV.fn 113 [])] r64.2.2).bind λDs=>(A.ext 0 Ds.1).bind λDy=>(A.ext 1 Ds.1).bind λuj=>(A.not uj).bind λnG=>(A.cond nG (((((A.cell a2).bind λv=>some [v]).bind λzP=>(A.aV 0 zP [(AV.aj 0),bD,AV.aE]).bind λu9=>some u9).bind λcs=>some (AV.agg cs)).bind λvE=>(((A.cells 3 vE).bind λzR=>(A.aV 0 zR [(AV.aj 0),bD,AV.aE]).bind λzS=>some zS).bind λcs=>some (AV.sl 3 (e8 3 1 cs))).bind λvG=>(vT [(ah r64.2.1 0),Dy,vG] Ds.2).bind λAy=>some ([Ay.1],Ay.2)) (some ([(ah r64.2.1 0)],Ds.2))).bind λxS=>(A.aJ 3 (ah xS.1 0) Dy).bind λl7=>(A.guard a5 true (some uj) aq).bind λIp=>(A.pick a5 Ip bF).bind λAK=>(A.cond AK ((A.jy l7).bind λIq=>(A.cW 2 Iq).bind λIr=>((A.deref Ir xS.2).bind λrS=>A.aD 0 rS).bind λIs=>((((A.cell Is).bind λv=>some [v]).bind λHi=>(A.aV 0 Hi [AV.aE,AV.aE]).bind λHj=>((A.cell a4).bind λv=>some [v]).bind λHl=>(A.aV 1 Hl Hj).bind λHo=>some Ho).bind λcs=>some (AV.sl 1 (e8 1 2 cs))).bind λvI=>(vS [vI] xS.2).bind λsD=>(A.eql .z a3 bD).bind λIt=>(A.cond It ((A.jy l7).bind λAN=>(A.cW 1 AN).bind λIu=>((A.deref Iu sD.2).bind λHq=>A.aD 0 Hq).bind λIv=>some ([Iv],sD.2)) (some ([a3],sD.2))).bind λAz=>some ([(ah Az.1 0),sD.1],Az.2)) (some ([a3,a4],xS.2))).bind λsC=>(yp [(ah sC.1 1)] sC.2).bind λOE=>(A.jy l7).bind λvJ=>(A.cW 1 vJ).bind λvK=>((A.cell (ah sC.1 0)).bind λv=>some [v]).bind λWB=>(A.storeAt vK WB OE.2).bind λWC=>(A.jy l7).bind λrK=>(A.cW 2 rK).bind λtQ=>((A.cell OE.1).bind λv=>some [v]).bind λuJ=>(A.storeAt tQ uJ WC).bind λGA=>(A.jy l7).bind λuQ=>(A.cW 2 uQ).bind λXk=>((A.deref Xk GA).bind λWD=>A.aD 0 WD).bind λuR=>(A.bl uR).bind λuS=>(A.gtr uS (AV.aj 2000)).bind λqq=>(A.guard qq false (some (ah xS.1 0)) aq).bind λG5=>(A.guard qq false (A.bl G5) aq).bind λrM=>(A.guard qq false (A.gtr rM (AV.aj 200)) aq).bind λG6=>(A.pick qq eI G6).bind λrN=>A.cond rN (A.fin σ (AV.aG [AV.aE,(AV.aj 2)]) GA) (A.fin σ (AV.aG [(ah xS.1 0),(AV.aj 0)]) GA))else none)else bif jg.1==AX.ret then(A.fin σ (AV.aG [(ah jg.2.1 0),(ah jg.2.1 1)]) jg.2.2)else none)
noncomputable def Bi:an→Heap→au:=A.wrap true [oM,(.s 3),.k,.k,(.s 3)] (.t [(.e 3 lJ),.k]) (A.tT Bj)
end
section
set_option maxRecDepth 100000
noncomputable def Ex (a0 a1:AV) (σ:Heap):au:=(A.cells 2 a0).bind λc1=>(A.cells 2 a1).bind λc2=>(A.aD 0 c1).bind λx3=>(A.aD 0 c2).bind λx4=>(A.lss x3 x4).bind λx5=>(A.guard x5 false (A.aD 0 c1) aq).bind λx6=>(A.guard x5 false (A.aD 0 c2) aq).bind λx7=>(A.guard x5 false (A.eql .i x6 x7) aq).bind λx8=>(A.guard x5 false (some x8) aq).bind λx9=>(A.guard x9 true (A.aD 1 c1) aq).bind λbg=>(A.guard x9 true (A.aD 1 c2) aq).bind λcg=>(A.guard x9 true (A.lss bg cg) aq).bind λbP=>(A.guard x5 false (A.pick x9 bP bF) aq).bind λbT=>(A.pick x5 eI bT).bind λcu=>A.fin σ cu σ
noncomputable def wk:an→Heap→au:=A.wrap true [] .k (A.dh Ex)
noncomputable def Br (a0:AV) (σ:Heap):au:=(A.bl a0).bind λx1=>(A.loop (λv2 s3=>(A.lss (ah v2 1) x1).bind λx5=>A.cond x5 ((A.aJ 3 a0 (ah v2 1)).bind λx6=>((A.deref x6 s3).bind λc7=>A.aB 0 3 c7).bind λx8=>(A.cells 3 x8).bind λc9=>(A.aV 0 c9 [(AV.aj 0),bD,(AV.aj 0)]).bind λoW=>(A.loop (λv11 eY=>(A.bl (ah v2 0)).bind λcu=>(A.lss (ah v11 1) cu).bind λbf=>(A.guard bf true (some (ah v2 0)) aq).bind λbG=>(A.guard bf true (some (ah v11 1)) aq).bind λbM=>(A.guard bf true (A.aJ 3 bG bM) aq).bind λbA=>(A.guard bf true (A.cW 0 bA) aq).bind λcr=>(A.guard bf true ((A.deref cr eY).bind λdD=>A.aB 0 2 dD) aq).bind λbw=>((A.lb (ah v11 0)).bind λ_=>some (0)).bind λvu=>(A.guard bf true ((A.lb (ah v11 0)).bind λiM=>A.aB vu 2 iM) aq).bind λcC=>(A.guard bf true (A.quiet (wk [bw,cC] eY) eY) aq).bind λcA=>(A.pick bf cA bF).bind λcD=>A.cond cD ((A.add (ah v11 1) (AV.aj 1)).bind λcN=>some (AX.normal,[(ah v11 0),cN],eY)) (some (AX.exit 2,[(ah v11 0),(ah v11 1)],eY))) [(AV.lbx oW),(AV.aj 0)] s3).bind λeX=>bif eX.1==AX.exit 2 then((A.bl (ah v2 0)).bind λdJ=>(A.lss (ah eX.2.1 1) dJ).bind λck=>(A.guard ck true (some (ah v2 0)) aq).bind λfA=>(A.guard ck true (some (ah eX.2.1 1)) aq).bind λdK=>(A.guard ck true (A.aJ 3 fA dK) aq).bind λeN=>(A.guard ck true (A.cW 0 eN) aq).bind λfQ=>(A.guard ck true ((A.deref fQ eX.2.2).bind λgA=>A.aB 0 2 gA) aq).bind λfR=>((A.lb (ah eX.2.1 0)).bind λ_=>some (0)).bind λHW=>(A.guard ck true ((A.lb (ah eX.2.1 0)).bind λiu=>A.aB HW 2 iu) aq).bind λdQ=>(A.guard ck true (A.eql (.s [0,2]) fR dQ) aq).bind λiB=>(A.pick ck iB bF).bind λeA=>(A.cond eA (((A.lb (ah eX.2.1 0)).bind λrQ=>A.aB 0 3 rQ).bind λjj=>(A.aJ 3 (ah v2 0) (ah eX.2.1 1)).bind λiS=>(A.cells 3 jj).bind λzL=>(A.storeAt iS zL eX.2.2).bind λHf=>some ([(ah v2 0)],Hf)) (((A.lb (ah eX.2.1 0)).bind λHg=>A.aB 0 3 Hg).bind λeO=>(((A.cells 3 eO).bind λlU=>(A.aV 0 lU [(AV.aj 0),bD,(AV.aj 0)]).bind λHh=>some Hh).bind λcs=>some (AV.sl 3 (e8 3 1 cs))).bind λe9=>(xZ [(ah v2 0),(ah eX.2.1 1),e9] eX.2.2).bind λga=>some ([ga.1],ga.2))).bind λfy=>(A.add (ah v2 1) (AV.aj 1)).bind λfS=>some (AX.normal,[(ah fy.1 0),fS],fy.2))else none) (some (AX.exit 0,[(ah v2 0),(ah v2 1)],s3))) [AV.aE,(AV.aj 0)] σ).bind λoq=>bif oq.1==AX.exit 0 then(A.fin σ (ah oq.2.1 0) oq.2.2)else none
noncomputable def Rq:an→Heap→au:=A.wrap true [(.s 3)] (.s 3) (A.fG Br)
end
section
set_option maxRecDepth 100000
noncomputable def D0 (a0 a1:AV) (σ:Heap):au:=(A.cells 3 a0).bind λc1=>(A.cells 3 a1).bind λc2=>(A.aD 0 c1).bind λx3=>(A.aD 0 c2).bind λx4=>(A.eql .i x3 x4).bind λx5=>(A.guard x5 true (A.aD 1 c1) aq).bind λx6=>(A.guard x5 true (A.aD 1 c2) aq).bind λx7=>(A.guard x5 true (A.eql .z x6 x7) aq).bind λx8=>(A.pick x5 x8 bF).bind λx9=>(A.guard x9 true (A.aD 2 c1) aq).bind λbg=>(A.guard x9 true (A.aD 2 c2) aq).bind λcg=>(A.guard x9 true (A.quiet (DM [bg,cg] σ) σ) aq).bind λbP=>(A.pick x9 bP bF).bind λbT=>A.fin σ bT σ
noncomputable def DZ:an→Heap→au:=A.wrap true [(.a lJ),(.a lJ)] .k (A.dh D0)
noncomputable def DB (a0 a1:AV) (σ:Heap):au:=(A.cells 3 a0).bind λc1=>(A.aB 0 2 c1).bind λx2=>(A.cW 0 a1).bind λx3=>((A.deref x3 σ).bind λc4=>A.aB 0 2 c4).bind λx5=>(A.eql (.s [0,2]) x2 x5).bind λx6=>A.fin σ x6 σ
noncomputable def nJ:an→Heap→au:=A.wrap true [] .k (A.dh DB)
noncomputable def DC (a0 a1:AV) (σ:Heap):au:=(A.cells 3 a0).bind λc1=>((A.deref a1 σ).bind λc2=>A.aB 0 3 c2).bind λx3=>(A.aB 0 3 c1).bind λx4=>(DZ [x3,x4] σ).bind λr5=>A.fin σ r5.1 r5.2
noncomputable def nK:an→Heap→au:=A.wrap true [(.a lJ)] .k (A.dh DC)
noncomputable def DG (a0 a1 a2 a3 a4 a5:AV) (σ:Heap):au:=(A.cells 2 a0).bind λc1=>(A.aB 0 2 c1).bind λx2=>(Bi [x2,a1,a2,a3,a4,a5] σ).bind λr3=>(A.ext 0 r3.1).bind λx4=>(A.ext 1 r3.1).bind λx5=>(A.neq .i x5 (AV.aj 0)).bind λx6=>A.cond x6 ((A.bl x4).bind λx7=>(A.eql .i x7 (AV.aj 0)).bind λx8=>A.fin σ x8 r3.2) ((A.aB 0 2 c1).bind λx9=>(vW [x9,x4] r3.2).bind λvA=>(A.neq .i vA.1 (AV.aj 0)).bind λcg=>A.cond cg (A.fin σ bF vA.2) ((A.bl a4).bind λbP=>(A.loop (λeE fL=>(A.lss (ah eE 1) bP).bind λbG=>A.cond bG ((A.aJ 3 a4 (ah eE 1)).bind λbM=>((A.deref bM fL).bind λgm=>A.aB 0 3 gm).bind λcr=>(A.cells 3 cr).bind λdD=>(A.storeAt (AV.op fL.length 0) dD (fL++[aX.box [(AV.aj 0),bD,(AV.aj 0)]])).bind λiL=>(A.add (ah eE 1) (AV.aj 1)).bind λbX=>(A.aZ 3 a4 (some bX) none iL).bind λcy=>(uk (A.tab (λ_ _=>none) [(119,nJ),(122,nK)]) [cy,(AV.fn 119 [(AV.op fL.length 0)])] iL).bind λep=>A.cond ep.1 ((A.add (ah eE 1) (AV.aj 1)).bind λcA=>some (AX.normal,[(ah eE 0),cA],ep.2)) ((A.cW 0 (AV.op fL.length 0)).bind λcD=>((A.deref cD ep.2).bind λuX=>A.aB 0 2 uX).bind λeM=>((((A.cell a2).bind λv=>some [v]).bind λke=>(A.aV 1 ke [(AV.aj 0),(AV.aj 0)]).bind λlS=>some lS).bind λcs=>some (AV.agg cs)).bind λfA=>(wg [x4,eM,fA] ep.2).bind λr32=>(A.ext 0 r32.1).bind λeN=>(A.ext 1 r32.1).bind λfQ=>(A.neq .i fQ (AV.aj 0)).bind λeZ=>(A.guard eZ false (some eN) aq).bind λfR=>(A.guard eZ false (A.cW 2 (AV.op fL.length 0)) aq).bind λji=>(A.guard eZ false ((A.deref ji r32.2).bind λiu=>A.aD 0 iu) aq).bind λdQ=>(A.guard eZ false (A.neq .i fR dQ) aq).bind λiB=>(A.pick eZ eI iB).bind λeA=>A.cond eA (some (AX.ret,[bF,(ah eE 1)],r32.2)) ((A.add (ah eE 1) (AV.aj 1)).bind λku=>some (AX.normal,[(ah eE 0),ku],r32.2)))) (some (AX.exit 0,[(ah eE 0),(ah eE 1)],fL))) [bF,(AV.aj 0)] vA.2).bind λjg=>bif jg.1==AX.exit 0 then((A.bl a1).bind λjj=>(A.loop (λbJ ct=>(A.lss (ah bJ 1) jj).bind λiC=>A.cond iC ((A.aJ 3 a1 (ah bJ 1)).bind λeO=>((A.deref eO ct).bind λlU=>A.aB 0 3 lU).bind λdX=>(A.cells 3 dX).bind λoY=>(A.storeAt (AV.op ct.length 0) oY (ct++[aX.box [(AV.aj 0),bD,AV.aE]])).bind λfH=>(A.cW 0 (AV.op ct.length 0)).bind λfS=>((A.deref fS fH).bind λu0=>A.aD 0 u0).bind λgq=>(A.neq .i gq a2).bind λfB=>(A.guard fB true (some x4) aq).bind λgJ=>(A.guard fB true (some (AV.fn 122 [(AV.op ct.length 0)])) aq).bind λgd=>(A.guard fB true (A.quiet (um (A.tab (λ_ _=>none) [(119,nJ),(122,nK)]) [gJ,gd] fH) fH) aq).bind λkC=>(A.guard fB true (A.not kC) aq).bind λfT=>(A.pick fB fT bF).bind λsG=>A.cond sG (some (AX.ret,[bF,(ah bJ 1)],fH)) ((A.add (ah bJ 1) (AV.aj 1)).bind λdO=>some (AX.normal,[(ah bJ 0),dO],fH))) (some (AX.exit 2,[(ah bJ 0),(ah bJ 1)],ct))) [(ah jg.2.1 0),(AV.aj 0)] jg.2.2).bind λr64=>bif r64.1==AX.exit 2 then(A.fin σ eI r64.2.2)else bif r64.1==AX.ret then(A.fin σ (ah r64.2.1 0) r64.2.2)else none)else bif jg.1==AX.ret then(A.fin σ (ah jg.2.1 0) jg.2.2)else none))
noncomputable def Ix:an→Heap→au:=A.wrap true [oM,(.s 3),.k,.k,(.s 3)] .k (A.tT DG)
end
section
open Go.RowKit
theorem jt.same{P:Program}{nm:List Nat}{f:FuncId}{args:an}{σ:Heap}{r:AV}(hc:∀us w,(callFunc f us).run P w=.ok (.enter f us) w)
  (h:∀(c:RC)(vs:Array Value)(w:World),az c args vs.toList→Calls P f vs w λe w'=>∃v,e=.returned v∧Below w.heap.size w w'∧∀c',ak c' r v):jt P nm f args σ r σ:=by
 refine .inl ⟨f,hc,λz vs e1 e2 hh ha=>(h _ vs z.w ha).mono ?_⟩;rintro e w' ⟨v,k1,k2,k3⟩;have ho:Out z z.w z.E:=⟨rfl,rfl,rfl,bH _,λ_ _ _=>rfl,λi p hp=>.inr ⟨p,hp,rfl⟩,λi p hp=>⟨p,hp,.inl rfl⟩,e2,λp hp=>hh.lt hp⟩
 exact⟨v,z.E,k1,ho.grow k2,hh.mono (pQ k2) rfl (λp hp=>k2.block _ (hh.lt hp)),k3 _⟩
theorem CI{c:RC}{a:AV}{vs:Array Value}(h:az c [a] vs.toList):∃v,vs=#[v]∧ak c a v:=by simp only[az]at h;obtain⟨v,vs',e,h1,e2⟩:=h;refine⟨v,?_,h1⟩;subst e2;cases vs;simp at e;simp [e]
theorem MZ{c:RC}{a b:AV}{vs:Array Value}(h:az c [a,b] vs.toList):∃v u,vs=#[v,u]∧ak c a v∧ak c b u:=by simp only[az]at h;obtain⟨v,vs',e,h1,u,vs2,e2,h2,e3⟩:=h;refine⟨v,u,?_,h1,h2⟩;subst e3;subst e2;cases vs;simp at e;simp [e]
theorem IN:Sound Try.prog aF 74 Bd:=by
 intro args σ r σ' h;unfold Bd A.dh at h;split at h
 ·simp only at h;split at h
  ·simp only[Option.some.injEq,Prod.mk.injEq]at h;obtain⟨rfl,rfl⟩:=h;refine jt.same Try.call74 λc vs w hr=>?_
   obtain⟨v,u,rfl,h1,h2⟩:=MZ hr;simp only[ak]at h1 h2;subst h1 h2;refine(Try.strings_Compare _ _ w).mono ?_;rintro e w' ⟨rfl,rfl⟩;exact⟨_,rfl,Below.refl _ _,λc'=>by simp [ak]⟩
  ·cases h
 ·cases h
end
section
open Go.RowKit
set_option maxRecDepth 100000
theorem Rk{P:Program}{nm:List Nat}{f:FuncId}{m0:an→Heap→au}(h0:Sound P nm f m0)(hc:∀us w,(callFunc f us).run P w=.ok (.enter f us) w)
  (hz:∀a cap w,Calls P f #[.slice a 0 cap] w λe w'=>∃q,e=.returned (.slice q 0 0)∧Below w.heap.size w w'):Sound P nm f (A.Cl m0):=by
 intro args σ r σ' h;unfold A.Cl at h;split at h
 ·simp only[Option.some.injEq,Prod.mk.injEq]at h;obtain⟨rfl,rfl⟩:=h;refine jt.same hc λc vs w hr=>?_
  obtain⟨v,rfl,h1⟩:=CI hr;simp only[ak]at h1;obtain⟨a,cap,rfl,_⟩:=h1;refine(hz _ _ w).mono ?_;rintro e w' ⟨q,rfl,hb⟩;exact⟨_,rfl,hb,λc'=>by simp [ak]⟩
 ·simp only[Option.some.injEq,Prod.mk.injEq]at h;obtain⟨rfl,rfl⟩:=h;refine jt.same hc λc vs w hr=>?_
  obtain⟨v,rfl,h1⟩:=CI hr;simp only[ak]at h1;subst h1;refine(hz _ _ w).mono ?_;rintro e w' ⟨q,rfl,hb⟩;exact⟨_,rfl,hb,λc'=>by simp [ak]⟩
 ·simp only[Option.some.injEq,Prod.mk.injEq]at h;obtain⟨rfl,rfl⟩:=h;refine jt.same hc λc vs w hr=>?_
  obtain⟨v,rfl,h1⟩:=CI hr;simp only[ak]at h1;obtain⟨a,rfl⟩:=h1;refine(hz _ _ w).mono ?_;rintro e w' ⟨q,rfl,hb⟩;exact⟨_,rfl,hb,λc'=>by simp [ak]⟩
 ·simp only[Option.some.injEq,Prod.mk.injEq]at h;obtain⟨rfl,rfl⟩:=h;refine jt.same hc λc vs w hr=>?_
  obtain⟨v,rfl,h1⟩:=CI hr;simp only[ak]at h1;obtain⟨_,p,_,_,a,cap,rfl,_⟩:=h1;refine(hz _ _ w).mono ?_;rintro e w' ⟨q,rfl,hb⟩;exact⟨_,rfl,hb,λc'=>by simp [ak]⟩
 ·exact h0 _ _ _ _ h
theorem Ly{P:Program}{t e:TypeId}(ht:P.underlying t=some (.slice e))(a:Option Addr)(n m:Nat)(w:World):Sem.run P (binOp .eql t (.slice a n m) (.slice none 0 0)) w=.ok (.bool a.isNone) w:=by simp [binOp,show(Op.equal t (.slice a n m) (.slice none 0 0)).run P w=.ok a.isNone w from Mt w 9999 t a n m ht]
theorem RO(a:Option Addr)(cap:Nat)(w:World):Calls Try.prog 38 #[.slice a 0 cap] w λe w'=>∃q,e=.returned (.slice q 0 0)∧Below w.heap.size w w':=by
 go_enter Try.func38,Try.ntmps38
 cases a
 ·go_wp2_with (simp only[Ly (Try.underlying29),Option.isNone_none,Result.andThen_ok])
  go_ret
  exact⟨_,rfl,Below.refl _ _⟩
 ·go_wp2_with (simp only[Ly (Try.underlying29),Option.isNone_some,Result.andThen_ok])
  go_ret
  exact⟨_,rfl,(Below.refl _ _).alloc (bH _) _⟩
end
section
set_option maxRecDepth 100000
open Go.RowKit
theorem Q2{P:Program}(w:World)(tS tR e:TypeId)(ht:P.underlying tS=some (.slice e))(size:Nat)(hz:∀w,(Go.sizeOf e).run P w=.ok size w)
  (a b:Addr) (la ca lb cb:Nat) (hne:a.block≠b.block) (arr n5:Array Value) (tA tB:TypeId) (fz:Nat×Nat)
  (ha:w.heap[a.block]? =some (.cells arr tA fz)) (hs:0<arr.size) (hb:w.heap[b.block]? =some (.cells n5 tB (0,0))):
  (Extern.SlicesOverlaps.overlaps #[tS,tS] #[tR] #[.slice (some a) la ca,.slice (some b) lb cb]).run P w=.ok (.bool false) w:=by
 have hnb:(a.block !=b.block)=true:=by simpa using hne
 have W0:(a.block==b.block)=false:=by simpa using hne
 have hsa:w.shape? a.block=some (tA,arr.size):=by simp [World.shape?,ha]
 have hsb:w.shape? b.block=some (tB,n5.size):=by simp [World.shape?,hb]
 have Yq:w.frozen? b=false:=by simp [World.frozen?,hb]
 have WV:w.frozen? {block:=b.block,off:=n5.size}=false:=by simp [World.frozen?,hb]
 delta Extern.SlicesOverlaps.overlaps Extern.SlicesOverlaps.overlaps.match_4 Extern.SlicesOverlaps.overlaps._sparseCasesOn_4;dsimp [Array.getLit,Array.casesOn];obtain⟨k,hk⟩:∃k,arr.size=k+1:=⟨arr.size-1,by omega⟩
 rw[hk]at hsa;by_cases h0:la=0∨lb=0∨size=0
 ·simp [run_underlying ht,hz,h0]
 ·cases hfa:w.frozen? a<;>cases hfe:w.frozen? {block:=a.block,off:=k+1}<;>simp [run_underlying ht,hz,h0,hnb,W0,frozen,noView,viewAt,mayBeOne,stringish,shape,Sem.run,hsa,hsb,hfa,hfe,Yq,WV]
theorem Tg{w:World}{b off:Nat}{v:Value}(h:w.cell? ⟨b,off,none⟩=some v):∃arr t fz,w.heap[b]? =some (.cells arr t fz)∧0<arr.size:=by
 unfold World.cell? at h;simp only at h;split at h
 ·rename_i arr t fz hh;refine⟨arr,t,fz,hh,?_⟩;simp only[Option.isSome_none,Bool.false_eq_true,if_false]at h;have:=(qh.1 h).1;omega
 ·cases h
theorem Qo {P : Program} {nm : List Nat} {f : FuncId} {fn : Func} {tS tR e : TypeId} {i : TypeInfo} (hf : P.funcs[f]? = some fn) (h1 : (fn.name == "runtime.NumGoroutine") = false) (h2 : fn.body.isNone = true) (h3 : Extern.findNext fn = none)
  (h4:Extern.find fn=some (Extern.SlicesOverlaps.overlaps #[tS,tS] #[tR])) (ht:P.underlying tS=some (.slice e)) (hi:P.info? e=some i):Sound P nm f nL:=by
 intro args σ r σ' h;unfold nL A.dh at h;split at h
 ·simp only at h;split at h
  ·rename_i sz es id g sz' off len;split at h
   ·rename_i Yt ss es' hs;split at h
    ·rename_i hc;obtain⟨hne,rfl,tY,hl⟩:=hc;simp only[Option.some.injEq,Prod.mk.injEq]at h;obtain⟨rfl,rfl⟩:=h;refine .inr λz vs e1 e2 hh ha=>?_
     obtain⟨v,u,rfl,r1,r2⟩:=MZ ha;simp only[ak]at r1 r2;obtain⟨a,cap,rfl,hcap,W9,r1⟩:=r1;obtain⟨b,jD,rfl,hb,hX,r1⟩:=r1.resolve_left hne;obtain⟨hg,p,k1,k2,a',cap',rfl,Z4,rx⟩:=r2;obtain⟨j1,j2,j3,j4,⟨arr,bt,j5,j6⟩,j7,j8,j9⟩:=hh.blk id p _ k1 hs;obtain⟨q1,q2,q3⟩:=rx j1.symm;have hsz:∀w,(Go.sizeOf e).run P w=.ok i.size w:=λw=>by simp [sizeOf,nM w hi]
     have ha':a'=⟨p.b,p.base+off*p.sz,none⟩:=q2.resolve_left (by omega);have hpb:b≠p.b:=λk=>hX (.inr (.inl ⟨p,cx k1,k.symm⟩))
     have YP:z.w.heap[p.b]? =some (.cells arr bt (0,0)):=j5
     have hcell:∃v,z.w.cell? ⟨b,jD,none⟩=some v:=by
      cases es with
      |nil=>exact absurd rfl hne
      |cons x xs=>
       simp only[aW]at r1;obtain⟨l1,l2,_⟩:=r1;cases x with
       |nil=>simp at l1;omega
       |cons y ys=>simp only[aS]at l2;obtain⟨⟨v,l3,_⟩,_⟩:=l2;exact⟨v,l3⟩
     obtain⟨v,hv⟩:=hcell;obtain⟨Wy,t0,XU,m1,m2⟩:=Tg hv;have hrun:=Q2 (P:=P) z.w tS tR e ht i.size hsz ⟨b,jD,none⟩ a' es.length cap len cap' (by rw[ha'];exact hpb) Wy arr t0 bt XU m1 m2 (by rw[ha'];exact YP);refine⟨.bool false,z.w,z.E,?_,⟨rfl,rfl,rfl,bH _,λ_ _ _=>rfl,λi p hp=>.inr ⟨p,hp,rfl⟩,λi p hp=>⟨p,hp,.inl rfl⟩,e2,λp hp=>hh.lt hp⟩,hh,by simp [ak]⟩;rw[run_callFunc_extern hf h1 h2 h3 h4,hrun];rfl
    ·cases h
   ·cases h
  ·cases h
 ·cases h
theorem PK:Sound Try.prog aF 71 nL:=Qo Try.func71 (by kernel_rfl) (by kernel_rfl) (by kernel_rfl) (tS:=40) (tR:=4) (by kernel_rfl) (e:=46) (by kernel_rfl) rfl
end
end Go.Proofs.Ytjjjjbgohkklnaa
