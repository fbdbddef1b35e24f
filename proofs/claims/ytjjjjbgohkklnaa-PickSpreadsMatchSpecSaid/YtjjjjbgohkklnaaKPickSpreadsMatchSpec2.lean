/- Parts of the proof of PickSpreadsMatchSpec, in order. -/
import Derived.Orders
import Derived.Below
import Derived.WalkKit
import Derived.Laws.StructEq
import Derived.Laws.Append
import Derived.Laws.AppendOwn
import Derived.Test.YtjjjjbgohkklnaaRows
import Derived.KernelRfl
import Derived.Lib.Bytealg
import Derived.Sort.Defs
import Derived.Lib.BitFns
import Derived.Test.YtjjjjbgohkklnaaShelf
import Derived.Test.YtjjjjbgohkklnaaKPickSpreadsMatchSpec1
namespace Go.Proofs.Ytjjjjbgohkklnaa
set_option linter.unusedVariables false
set_option linter.unusedSimpArgs false
set_option linter.unusedSectionVars false
section
open Go.RowKit
section
variable {X : Fx} {z : Z} {s : AS} {a : Act} {w w' : World} {E : List Pl} {pb : Nat → Option Nat} {R : Type}
theorem mD{o:Oper}{v:Value}{w':World}{K:Act→World→Prop}{Q:Exit→Act→World→Prop}(h:(execOp a.eval o).run X.P w=.ok (.value v) w')(k:K (a.put o.dst v) w'):o.wp X.P a w K Q:=by unfold Oper.wp;rw[h,Oper.upon_value];exact k
theorem IM{o:Oper}{w':World}{K:Act→World→Prop}{Q:Exit→Act→World→Prop}(h:(execOp a.eval o).run X.P w=.ok .skip w')(k:K (a.put o.dst undef) w'):o.wp X.P a w K Q:=by unfold Oper.wp;rw[h,Oper.upon_skip];exact k
theorem St.undef(h:St X z s a w E pb)(d:Option Nat):St X z (s.put X d (.aD [])) (a.put d undef) w E pb:=
 h.put d (by simp only[ak];exact⟨#[],rfl,by simp [aC]⟩)
theorem tO(hs:dB X)(h:St X z s a w E pb){o:Oper}{k:AS→Option R}{r:R}(hk:((dO X o s none).bind λv=>k (s.put X o.dst v))=some r) {K:Act→World→Prop} {Q:Exit→Act→World→Prop}
  (hK:∀s' a' w' E' bw,St X z s' a' w' E' bw→k s'=some r→K a' w'):o.wp X.P a w K Q:=by
 obtain⟨av,h1,h2⟩:=bg.1 hk;exact Qt hs h (tag:=none) trivial h1 λv w' E' h3 h4=>hK _ _ _ _ _ (h3.put o.dst h4) h2
theorem ZR(h:St X z s a w E pb){q str:Bool}{i:Operand}{dst:Option Nat}{ty:TypeId}{pos:String}{af:Array Edge}{g:Option (Nat×Bool)}{k:AS→Option R}{r:R}
  (hk:(bif q||str then none else A.vR (ev X s i) s.σ λv σ=>k ((s.heap σ).put X dst v))=some r) {K:Act→World→Prop} {Q:Exit→Act→World→Prop}
  (hK:∀s' a' w' E' bw,St X z s' a' w' E' bw→k s'=some r→K a' w'):Oper.wp X.P ⟨dst,.next i str,ty,pos,af,g⟩ a w K Q:=by
 cases hq:(q||str)
 ·rw[hq]at hk;simp only[aV]at hk;simp only[kr]at hq;obtain⟨rfl,rfl⟩:=hq;obtain⟨av,σ',v',w',k1,k2,k3,k4⟩:=ZS (ty:=ty) h hk (cR h i);exact mD (w':=w') (by simp [execOp,k2]) (hK _ _ _ _ _ (k3.put dst k4) k1)
 ·rw[hq]at hk;cases hk
theorem VF(hs:dB X)(h:St X z s a w E pb){d t n:Nat}{ps:Array (Nat×Operand)}{ty:TypeId}{pos:String}{af:Array Edge}{g:Option (Nat×Bool)}{k:AS→Option R}{r:R}
  (hk:((dO X ⟨some d,.buildSlice t n ps,ty,pos,af,g⟩ s none).bind λv=>A.As v λsz es=>k ((s.heap (s.σ++[.arr es.length sz es])).put X (some d) (.os s.σ.length es.length sz 0 es.length)))=some r) {K:Act→World→Prop} {Q:Exit→Act→World→Prop}
  (hK:∀s' a' w' E' bw,St X z s' a' w' E' bw→k s'=some r→K a' w'):Oper.wp X.P ⟨some d,.buildSlice t n ps,ty,pos,af,g⟩ a w K Q:=by
 obtain⟨v,h1,h2⟩:=bg.1 hk;unfold A.As at h2;split at h2
 ·rename_i sz es;cases hl:(es.length==0)
  ·rw[hl]at h2;simp only[aV]at h2;have hne:0<es.length:=by simp at hl;exact List.length_pos_iff.2 hl
   obtain⟨arr,et,e1,e2,e3,e4,e5⟩:=UJ h h1;have hlen:=h.heap.len;simp only[ctx]at hlen;refine mD e1 (hK _ _ _ _ _ ((h.tZ (.cells arr et) (.arr es.length sz es) ⟨w.heap.size,0,es.length,sz,arr.size⟩ rfl λhx=>?_).put (some d) (av:=.os s.σ.length es.length sz 0 es.length) ?_) h2)
   ·have hb:=(MapKept.heap_alloc w (.cells arr et)).1;exact⟨rfl,hne,rfl,e3,⟨arr,et,hb,rfl⟩,by rw[e2];simp,e4 _ hb hx,vI hb e5⟩
   ·simp only[ak];refine⟨hne,⟨w.heap.size,0,es.length,sz,arr.size⟩,by show(E++[_])[s.σ.length]? =_;rw[←hlen];exact vS,ay _,⟨w.heap.size,0,none⟩,es.length,rfl,ay _,λ_=>⟨rfl,.inr (by simp),by rw[e2];simp⟩⟩
  ·rw[hl]at h2;cases h2
 ·cases h2
theorem Qp(hs:dB X)(h:St X z s a w E pb){q:Bool}{o:Oper}{k:AS→Option R}{r:R}(hk:eo X q o s k=some r){K:Act→World→Prop}{Q:Exit→Act→World→Prop}
  (hK:∀s' a' w' E' bw,St X z s' a' w' E' bw→k s'=some r→K a' w'):o.wp X.P a w K Q:=by
 unfold eo at hk;cases hp:gB X o s none with
 |some p=>obtain⟨b,rr⟩:=p;rw[hp]at hk;simp only at hk;obtain⟨off,h1,h2⟩:=bg.1 hk;subst h1;obtain⟨n,k1,k2⟩:=Qs h (tag:=none) trivial hp;exact mD k2 (hK _ _ _ _ _ (h.JP o.dst (λ_=>⟨n,k1,rfl⟩)) h2)
 |none=>
  rw[hp]at hk;simp only at hk;obtain⟨dst,op,ty,pos,af,g⟩:=o;cases op<;>simp only at hk<;>first|exact ZR h hk hK|exact tO hs h hk hK|skip
  case alloc t=>
   cases dst with
   |none=>cases hk
   |some d=>
    simp only at hk;cases hL:X.L.contains d
    ·rw[hL]at hk;simp only[aV]at hk;cases hO:X.O.contains d
     ·rw[hO]at hk;exact tO hs h hk hK
     ·rw[hO]at hk;simp only[bG]at hk;split at hk
      ·rename_i cs hz;obtain⟨i,v,h1,h2,h3,h4,h5,h6⟩:=sA (w:=w) hz (ctx z w E pb)
       have hrun:(execOp a.eval ⟨some d,.alloc t,ty,pos,af,g⟩).run X.P w=.ok (.value (.pointer (some ⟨w.heap.size,0,none⟩))) (w.alloc (.cells v.cells t)):=by simp [execOp,Instr.alloc,h3,newVar,sv]
       have hst:=h.tZ (.cells v.cells t) (.box cs) ⟨w.heap.size,0,0,0,0⟩ rfl (λhx=>by
        have hb:(w.alloc (.cells v.cells t)).heap[w.heap.size]? =some (.cells v.cells t (0,0)):=(MapKept.heap_alloc w _).1
        exact⟨rfl,⟨_,_,hb,by have:=h5.length;simpa using this.symm⟩,aT.tE hb (aC.mono hx _ _ h5) h6 (λi hi=>by simp)⟩)
       have hlen:=h.heap.len;simp only[ctx]at hlen;refine mD hrun (hK _ _ _ _ _ (hst.put (some d) (av:=.op s.σ.length 0) ?_) hk);simp only[ak];exact⟨⟨w.heap.size,0,0,0,0⟩,by show(E++[_])[s.σ.length]? =_;rw[←hlen];exact vS,rfl,rfl⟩
      ·cases hk
    ·rw[hL]at hk;simp only[bG]at hk;split at hk
     ·rename_i cs hz;obtain⟨i,v,h1,h2,h3,h4,h5,h6⟩:=sA (w:=w) hz (ctx z w E pb)
      have hrun:(execOp a.eval ⟨some d,.alloc t,ty,pos,af,g⟩).run X.P w=.ok (.value (.pointer (some ⟨w.heap.size,0,none⟩))) (w.alloc (.cells v.cells t)):=by simp [execOp,Instr.alloc,h3,newVar,sv]
      obtain⟨bw,hst⟩:=h.lD d hL (vs:=v.cells.toList) t h5 h6;exact mD hrun (hK _ _ _ _ _ (by simpa using hst) hk)
     ·cases hk
  case box t x=>
   cases dst with
   |none=>cases hk
   |some d=>
    simp only at hk;cases hL:X.L.contains d
    ·rw[hL]at hk;simp only[aV]at hk;cases hO:X.O.contains d
     ·rw[hO]at hk;exact tO hs h hk hK
     ·rw[hO]at hk;simp only[bG]at hk;obtain⟨cs,h1,h2⟩:=bg.1 hk;obtain⟨h5,h6,_,_⟩:=zB X h1 (cR h x)
      have hrun:(execOp a.eval ⟨some d,.box t x,ty,pos,af,g⟩).run X.P w=.ok (.value (.pointer (some ⟨w.heap.size,0,none⟩))) (w.alloc (.cells (a.eval x).cells t)):=by simp [execOp,Instr.box,newVar,sv]
      have hst:=h.tZ (.cells (a.eval x).cells t) (.box cs) ⟨w.heap.size,0,0,0,0⟩ rfl (λhx=>by
       have hb:(w.alloc (.cells (a.eval x).cells t)).heap[w.heap.size]? =some (.cells (a.eval x).cells t (0,0)):=(MapKept.heap_alloc w _).1
       exact⟨rfl,⟨_,_,hb,by have:=h5.length;simpa using this.symm⟩,aT.tE hb (aC.mono hx _ _ h5) h6 (λi hi=>by simp)⟩)
      have hlen:=h.heap.len;simp only[ctx]at hlen;refine mD hrun (hK _ _ _ _ _ (hst.put (some d) (av:=.op s.σ.length 0) ?_) h2);simp only[ak];exact⟨⟨w.heap.size,0,0,0,0⟩,by show(E++[_])[s.σ.length]? =_;rw[←hlen];exact vS,rfl,rfl⟩
    ·rw[hL]at hk;simp only[bG]at hk;obtain⟨cs,h1,h2⟩:=bg.1 hk;obtain⟨h5,h6,_,_⟩:=zB X h1 (cR h x)
     have hrun:(execOp a.eval ⟨some d,.box t x,ty,pos,af,g⟩).run X.P w=.ok (.value (.pointer (some ⟨w.heap.size,0,none⟩))) (w.alloc (.cells (a.eval x).cells t)):=by simp [execOp,Instr.box,newVar,sv]
     obtain⟨bw,hst⟩:=h.lD d hL (vs:=(a.eval x).cells.toList) t h5 h6;exact mD hrun (hK _ _ _ _ _ (by simpa using hst) h2)
  case store t x v=>
   split at hk
   ·rename_i b off hp;obtain⟨cs,h1,h2⟩:=bg.1 hk;obtain⟨new,h3,h4⟩:=bg.1 h2;obtain⟨cs',h5,h6⟩:=bg.1 h4;obtain⟨n,k1,k2,k3,k4⟩:=zI h (tag:=none) trivial hp h1;obtain⟨r1,r2,r3,d,hd⟩:=zB X h3 (cR h v);obtain⟨arr,bt,j1,j2,j3⟩:=On k3;obtain⟨j4,j5⟩:=j2.dV h5 r1;have hrun:=Ht (P:=X.P) (t:=t) j1 r3 (Mo hd) r2 j5;have hst:=h.aa0 k1 ⟨cs,k4⟩ (t:=bt) j4 (zY j3 r2);refine IM (w':=_) ?_ (hK _ _ _ _ _ (hst.undef dst) h6);simp only[execOp,k2,Sem.run_bind];rw[show(Instr.storeAt t (.pointer (some ⟨n,off,none⟩)) (a.eval v)).run X.P w=_ from hrun];rfl
   ·obtain⟨new,h3,h4⟩:=bg.1 hk;obtain⟨σ',h5,h6⟩:=bg.1 h4;obtain⟨w',k1,k2⟩:=WX h h3 (cR h v) h5 (cR h x);refine IM (w':=w') ?_ (hK _ _ _ _ _ (k2.undef dst) h6);simp only[execOp,Sem.run_bind,k1];rfl
  case makeMap t rr=>
   cases rr with
   |some x=>cases hk
   |none=>
    simp only at hk
    have hrun:(execOp a.eval ⟨dst,.makeMap t none,ty,pos,af,g⟩).run X.P w=.ok (.value (.map (some w.heap.size))) (w.alloc (.map #[] 0)):=by simp [execOp,Instr.makeMap,newObj,Sem.run]
    have hst:=h.tZ (.map #[] 0) (.map []) ⟨w.heap.size,0,0,0,0⟩ rfl (λhx=>by
     have hb:(w.alloc (.map #[] 0)).heap[w.heap.size]? =some (.map #[] 0):=(MapKept.heap_alloc w _).1
     exact⟨rfl,_,_,hb,lV.empty,rfl⟩)
    have hlen:=h.heap.len;simp only[ctx]at hlen;refine mD hrun (hK _ _ _ _ _ (hst.put dst (av:=.om s.σ.length) ?_) hk);simp only[ak];exact⟨⟨w.heap.size,0,0,0,0⟩,by show(E++[_])[s.σ.length]? =_;rw[←hlen];exact vS,rfl,rfl⟩
  case range t x=>
   split at hk
   ·rename_i kt et hd;obtain⟨es,h1,h2⟩:=bg.1 hk;obtain⟨o,k1,k2⟩:=YI h hd h1 (cR h x);have hlen:=h.heap.len;simp only[ctx]at hlen;refine mD (v:=.pointer (some ⟨w.heap.size,0,none⟩)) (w':=w.alloc o) (by simp [execOp,k1]) (hK _ _ _ _ _ (k2.put dst (av:=.op s.σ.length 0) ?_) h2);simp only[ak];exact⟨⟨w.heap.size,0,0,0,0⟩,by show(E++[_])[s.σ.length]? =_;rw[←hlen];exact vS,rfl,rfl⟩
   ·cases hk
  case buildSlice t n ps=>
   cases dst with
   |none=>exact tO hs h hk hK
   |some d=>
    simp only at hk;cases hO:X.O.contains d
    ·rw[hO]at hk;exact tO hs h hk hK
    ·rw[hO]at hk;simp only[bG]at hk;exact VF hs h hk hK
  case mapUpdate t m i v=>
   split at hk
   ·rename_i kt et hd;split at hk
    ·rename_i ek he;obtain⟨σ',h1,h2⟩:=bg.1 hk;obtain⟨w',k1,k2⟩:=ZP h hd he h1 (cR h m) (cR h i) (cR h v);refine IM (w':=w') ?_ (hK _ _ _ _ _ (k2.undef dst) h2);simp only[execOp,Sem.run_bind,k1];rfl
    ·cases hk
   ·cases hk
  case call c=>
   have hargs:(c.args.map a.eval).toList=c.args.toList.map a.eval:=by simp
   have re:=zU h c.args.toList;split at hk
   ·rename_i hc;split at hk
    ·rename_i t u x y h1 h2;split at hk
     ·rename_i e e' hd hu;split at hk
      ·rename_i i hi;cases dn:kn i
       ·rw[dn]at hk;simp only[aV]at hk;simp only[kn,kr,beq_eq_false_iff_ne]at dn;obtain⟨⟨z1,z2⟩,z3⟩:=dn;cases Le:i.zero with
        |none=>rw[Le]at z3;cases z3
        |some zv=>
         rw[Le]at z3;simp only[kr,bne_eq_false_iff_eq,Bool.not_eq_false']at z3;obtain⟨z3,z4⟩:=z3;obtain⟨⟨rr,σ'⟩,h3,h4⟩:=bg.1 hk;rw[h2]at re
         have hl:∃v vy,c.args.toList.map a.eval=[v,vy]∧ak (ctx z w E pb) x v∧ak (ctx z w E pb) y vy:=by
          generalize c.args.toList.map a.eval=vs at *
          simp only[aC]at re;obtain⟨v,_,rfl,r1,u',_,rfl,r2,rfl⟩:=re;exact⟨v,u',rfl,r1,r2⟩
         obtain⟨v,vy,hvs,r1,r2⟩:=hl;have hone:∀x∈zv.cells.toList,cD x=true:=nZ.1 z4;obtain⟨n,w',E',k1,k2,k3⟩:=W8 (ty:=ty) h hd hu hi Le z3 z1 z2 hone h3 r1 r2;have h1':c.argTypes=#[t,u]:=by apply jv.1;simpa using h1
         have rE:c.args.map a.eval=#[v,vy]:=by apply jv.1;rw[hargs,hvs]
         have hrun:(execOp a.eval ⟨dst,.call c,ty,pos,af,g⟩).run X.P w=.ok (.value n) w':=by simp only[execOp,resolve,hc,Sem.run_bind,Sem.run_pure,Result.andThen_ok,invoke,builtin,rE,h1',k1]
         exact mD hrun (hK _ _ _ _ _ (k2.put dst k3) h4)
       ·rw[dn]at hk;cases hk
      ·cases hk
     ·rename_i e kk hd hu;split at hk
      ·rename_i i zs hi hz;cases dn:kn i
       ·rw[dn]at hk;simp only[aV]at hk;simp only[kn,kr,beq_eq_false_iff_ne]at dn;obtain⟨⟨z1,z2⟩,z3⟩:=dn;obtain⟨i',zv,g1,g2,g3,g4,g5,g6⟩:=sA (w:=w) hz (ctx z w E pb);rw[hi]at g1;injection g1 with g1;subst g1
        rw[g2]at z3;simp only[kr,bne_eq_false_iff_eq,Bool.not_eq_false']at z3;obtain⟨z3,z4⟩:=z3
        have mW:∀c,aC c zs zv.cells.toList:=λc=>by
         obtain⟨i2,v2,f1,f2,f3,f4,f5,f6⟩:=sA (w:=w) hz c;rw[hi]at f1;injection f1 with f1;subst f1
         rw[g2]at f2;injection f2 with f2;subst f2
         exact f5
        obtain⟨⟨rr,σ'⟩,h3,h4⟩:=bg.1 hk;rw[h2]at re
        have hl:∃v vy,c.args.toList.map a.eval=[v,vy]∧ak (ctx z w E pb) x v∧ak (ctx z w E pb) y vy:=by
         generalize c.args.toList.map a.eval=vs at *
         simp only[aC]at re;obtain⟨v,_,rfl,r1,u',_,rfl,r2,rfl⟩:=re;exact⟨v,u',rfl,r1,r2⟩
        obtain⟨v,vy,hvs,r1,r2⟩:=hl;obtain⟨n,w',E',k1,k2,k3⟩:=Wh (ty:=ty) h hd hu hi g2 z3 z1 z2 mW g6 h3 r1 r2;have h1':c.argTypes=#[t,u]:=by apply jv.1;simpa using h1
        have rE:c.args.map a.eval=#[v,vy]:=by apply jv.1;rw[hargs,hvs]
        have hrun:(execOp a.eval ⟨dst,.call c,ty,pos,af,g⟩).run X.P w=.ok (.value n) w':=by simp only[execOp,resolve,hc,Sem.run_bind,Sem.run_pure,Result.andThen_ok,invoke,builtin,rE,h1',k1]
        exact mD hrun (hK _ _ _ _ _ (k2.put dst k3) h4)
       ·rw[dn]at hk;cases hk
      ·cases hk
     ·cases hk
    ·cases hk
   ·rename_i hc;split at hk
    ·rename_i t u x y h1 h2;split at hk
     ·rename_i e e' hd hu;split at hk
      ·rename_i i hi;cases dn:kn i
       ·rw[dn]at hk;simp only[aV]at hk;simp only[kn,kr,beq_eq_false_iff_ne]at dn;obtain⟨⟨z1,z2⟩,z3⟩:=dn;obtain⟨⟨rr,σ'⟩,h3,h4⟩:=bg.1 hk;rw[h2]at re
        have hl:∃v vy,c.args.toList.map a.eval=[v,vy]∧ak (ctx z w E pb) x v∧ak (ctx z w E pb) y vy:=by
         generalize c.args.toList.map a.eval=vs at *
         simp only[aC]at re;obtain⟨v,_,rfl,r1,u',_,rfl,r2,rfl⟩:=re;exact⟨v,u',rfl,r1,r2⟩
        obtain⟨v,vy,hvs,r1,r2⟩:=hl;obtain⟨n,w',k1,k2,k3⟩:=Zh (ty:=ty) h hd hu hi z1 h3 r1 r2;have h1':c.argTypes=#[t,u]:=by apply jv.1;simpa using h1
        have rE:c.args.map a.eval=#[v,vy]:=by apply jv.1;rw[hargs,hvs]
        have hrun:(execOp a.eval ⟨dst,.call c,ty,pos,af,g⟩).run X.P w=.ok (.value n) w':=by simp only[execOp,resolve,hc,Sem.run_bind,Sem.run_pure,Result.andThen_ok,invoke,builtin,rE,h1',k1]
        exact mD hrun (hK _ _ _ _ _ (k2.put dst k3) h4)
       ·rw[dn]at hk;cases hk
      ·cases hk
     ·cases hk
    ·cases hk
   ·rename_i hc;cases hv:dO X ⟨dst,.call c,ty,pos,af,g⟩ s none with
    |some v=>rw[hv]at hk;exact tO hs h (by rw[hv];exact hk) hK
    |none=>
     rw[hv]at hk;simp only[A.vU]at hk;cases q
     ·simp only[aV]at hk;split at hk
      ·rename_i t x h1 h2;split at hk
       ·rename_i e hd;rw[h2]at re
        have hl:∃v,c.args.toList.map a.eval=[v]∧ak (ctx z w E pb) x v:=by
         generalize c.args.toList.map a.eval=vs at *
         simp only[aC]at re;obtain⟨v,_,rfl,r1,rfl⟩:=re;exact⟨v,rfl,r1⟩
        obtain⟨v,hvs,r1⟩:=hl;obtain⟨n,σ',k1,k2,k3⟩:=Zd (ty:=ty) h hd hk r1;have h1':c.argTypes=#[t]:=by apply jv.1;simpa using h1
        have rE:c.args.map a.eval=#[v]:=by apply jv.1;rw[hargs,hvs]
        have hrun:(execOp a.eval ⟨dst,.call c,ty,pos,af,g⟩).run X.P w=.ok (.value (.int .i64 (n:Int))) w:=by simp only[execOp,resolve,hc,Sem.run_bind,Sem.run_pure,Result.andThen_ok,invoke,builtin,rE,h1',k2]
        exact mD hrun (hK _ _ _ _ _ (k3.put dst (by simp [ak])) k1)
       ·cases hk
      ·cases hk
     ·cases hk
   ·rename_i hc;split at hk
    ·rename_i t x h1 h2;split at hk
     ·rename_i e hd;split at hk
      ·rename_i i zs hi hz;cases dn:kn i
       ·rw[dn]at hk;simp only[aV]at hk;simp only[kn,kr,beq_eq_false_iff_ne]at dn;obtain⟨⟨z1,z2⟩,z3⟩:=dn;obtain⟨i',zv,g1,g2,g3,g4,g5,g6⟩:=sA (w:=w) hz (ctx z w E pb);rw[hi]at g1;injection g1 with g1;subst g1
        rw[g2]at z3;simp only[kr,bne_eq_false_iff_eq,Bool.not_eq_false']at z3;obtain⟨z3,z4⟩:=z3
        have mW:∀c,aC c zs zv.cells.toList:=λc=>by
         obtain⟨i2,v2,f1,f2,f3,f4,f5,f6⟩:=sA (w:=w) hz c;rw[hi]at f1;injection f1 with f1;subst f1
         rw[g2]at f2;injection f2 with f2;subst f2
         exact f5
        obtain⟨σ',h3,h4⟩:=bg.1 hk;rw[h2]at re
        have hl:∃v,c.args.toList.map a.eval=[v]∧ak (ctx z w E pb) x v:=by
         generalize c.args.toList.map a.eval=vs at *
         simp only[aC]at re;obtain⟨v,_,rfl,r1,rfl⟩:=re;exact⟨v,rfl,r1⟩
        obtain⟨v,hvs,r1⟩:=hl;obtain⟨w',k1,k2⟩:=Yh (ty:=ty) h hd (W4 X.P hi g2) z3 z1 mW g6 h3 r1;have h1':c.argTypes=#[t]:=by apply jv.1;simpa using h1
        have rE:c.args.map a.eval=#[v]:=by apply jv.1;rw[hargs,hvs]
        have hrun:(execOp a.eval ⟨dst,.call c,ty,pos,af,g⟩).run X.P w=.ok (.value undef) w':=by simp only[execOp,resolve,hc,Sem.run_bind,Sem.run_pure,Result.andThen_ok,invoke,builtin,rE,h1',k1];rfl
        exact mD hrun (hK _ _ _ _ _ (k2.undef dst) h4)
       ·rw[dn]at hk;cases hk
      ·cases hk
     ·cases hk
    ·cases hk
   ·rename_i hc;split at hk
    ·rename_i t u m key h1 h2;split at hk
     ·rename_i kt et hd;split at hk
      ·rename_i ek he;obtain⟨σ',h3,h4⟩:=bg.1 hk;rw[h2]at re
       have hl:∃v vy,c.args.toList.map a.eval=[v,vy]∧ak (ctx z w E pb) m v∧ak (ctx z w E pb) key vy:=by
        generalize c.args.toList.map a.eval=vs at *
        simp only[aC]at re;obtain⟨v,_,rfl,r1,u',_,rfl,r2,rfl⟩:=re;exact⟨v,u',rfl,r1,r2⟩
       obtain⟨v,vy,hvs,r1,r2⟩:=hl;obtain⟨w',k1,k2⟩:=ZM (u:=u) (ty:=ty) h hd he h3 r1 r2;have h1':c.argTypes=#[t,u]:=by apply jv.1;simpa using h1
       have rE:c.args.map a.eval=#[v,vy]:=by apply jv.1;rw[hargs,hvs]
       have hrun:(execOp a.eval ⟨dst,.call c,ty,pos,af,g⟩).run X.P w=.ok (.value undef) w':=by simp only[execOp,resolve,hc,Sem.run_bind,Sem.run_pure,Result.andThen_ok,invoke,builtin,rE,h1',k1];rfl
       exact mD hrun (hK _ _ _ _ _ (k2.undef dst) h4)
      ·cases hk
     ·cases hk
    ·cases hk
   ·exact tO hs h hk hK
   ·rename_i f hc;cases hq:(q&&!X.W.contains f)
    ·rw[hq]at hk;simp only[aV]at hk;obtain⟨⟨rr,σ'⟩,h3,h4⟩:=bg.1 hk;exact BN h (hs.call _ _ _ _ _ h3) (by rw[hargs];exact re) (Ml hc) (λv w' E' h1 h2=>hK _ _ _ _ _ (h1.put dst h2) h4)
    ·rw[hq]at hk;simp only[bG]at hk;exact tO hs h hk hK
   ·rename_i x hnf hc;cases q
    ·simp only[aV]at hk;obtain⟨⟨rr,σ'⟩,h3,h4⟩:=bg.1 hk;have rx:=cR h x;generalize ev X s x=vx at *
     cases vx<;>simp only[A.gZ]at h3<;>first|(cases h3;done)|skip
     rename_i fn0 B3;simp only[ak]at rx;obtain⟨f,cs,e1,e2,e3⟩:=rx;rw[←e2]at h3;have uV:X.dyn (X.nm.getD f 0) (c.args.toList.map (ev X s)++B3) s.σ=some (rr,σ'):=by rw[h.nm];exact h3
     exact BN h (hs.dyn _ _ _ _ _ uV) (vs:=c.args.map a.eval++cs) (by rw[Array.toList_append,hargs];exact re.append e3) (GD hc e1) (λv w' E' h1 h2=>hK _ _ _ _ _ (h1.put dst h2) h4)
    ·simp only[bG]at hk;exact tO hs h hk hK
   ·cases hk
end
end
section
structure Up where
 d:Option Nat
 v:AV
 bx:Option (Nat×AV)
 new:Option pe
 qN:Bool
 σ:Option Heap
def l8(qN:Bool)(d:Nat)(a:Option pe):Option pe:=match lB d a with|some p=>bif qN&&p.slot==d then none else some p|none=>none
def Up.sl(u:Up)(l:List AV):List AV:=match u.d with
 |some d=>(match u.bx with|some (b,x)=>l.set b x|none=>l).set d u.v
 |none=>(match u.bx with|some (b,x)=>l.set b x|none=>l)
def Up.A(u:Up)(A:Nat→Option pe)(t:Nat):Option pe:=match u.d with|none=>A t|some d=>bif t==d then u.new else l8 u.qN d (A t)
def Up.ap(u:Up)(s:AS):AS:=⟨u.sl s.sl,u.A s.A,u.σ.getD s.σ⟩
theorem Bo(d:Nat)(a:Option pe):l8 false d a=lB d a:=by unfold l8;cases lB d a<;>rfl
theorem HC(i:Bool)(d:Nat)(a:Option pe):l8 i d a=a∨l8 i d a=none:=by
 cases a with
 |none=>left;rfl
 |some p=>
  unfold l8;cases hk:lB d (some p)with
  |none=>right;rfl
  |some q=>
   simp only
   have:q=p:=by
    simp only[lB]at hk;cases ht:p.tag with
    |none=>rw[ht]at hk;simpa using hk.symm
    |some g=>
     obtain⟨g,w⟩:=g;rw[ht]at hk;simp only at hk;cases hg:(g==d)
     ·rw[hg]at hk;simpa using hk.symm
     ·rw[hg]at hk;cases hk
   subst this;cases hb:(i&&q.slot==d)
   ·left;rfl
   ·right;rfl
theorem D3(i:Bool)(d:Nat):l8 i d none=none:=rfl
theorem Xl(i j:Bool)(d e:Nat)(a:Option pe):l8 i d (l8 j e a)=l8 j e (l8 i d a):=by
 rcases HC i d a with h1|h1<;>rcases HC j e a with h2|h2
 ·rw[h2,h1,h2]
 ·rw[h2,D3,h1,h2]
 ·rw[h2,h1,D3]
 ·rw[h2,D3,h1,D3]
structure Up.QF (x y : Up) : Prop where
 d:∀d,x.d=some d→y.d≠some d
 bx:∀b v,x.bx=some (b,v)→(∀c w,y.bx=some (c,w)→c≠b)∧y.d≠some b
 Sc:∀b v,y.bx=some (b,v)→(∀c w,x.bx=some (c,w)→c≠b)∧x.d≠some b
 nx:∀d,y.d=some d→l8 y.qN d x.new=x.new
 ny:∀d,x.d=some d→l8 x.qN d y.new=y.new
 σ:x.σ=none∨y.σ=none
theorem Up.comm{x y:Up}(h:x.QF y)(s:AS):x.ap (y.ap s)=y.ap (x.ap s):=by
 obtain⟨hd,qx,hby,hnx,hny,dI⟩:=h;unfold Up.ap;congr 1
 ·show x.sl (y.sl s.sl)=y.sl (x.sl s.sl);generalize s.sl=l;obtain⟨xd,xv,xb,xn,xi,xs⟩:=x;obtain⟨yd,yv,yb,yn,yi,ys⟩:=y;simp only at hd qx hby;cases xb with
  |none=>
   cases yb with
   |none=>
    cases xd with
    |none=>cases yd<;>simp [Up.sl]
    |some dx=>cases yd with
     |none=>simp [Up.sl]
     |some dy=>simp only[Up.sl];rw[List.set_comm];intro e;exact hd dx rfl (by rw[e])
   |some bv=>
    obtain⟨b,v⟩:=bv;obtain⟨_,hb⟩:=hby b v rfl;cases xd with
    |none=>cases yd<;>simp [Up.sl]
    |some dx=>
     have hne:dx≠b:=λe=>hb (by rw[e])
     cases yd with
     |none=>simp only[Up.sl];rw[List.set_comm _ _ (λe=>hne e.symm)]
     |some dy=>
      have oA:dx≠dy:=λe=>hd dx rfl (by rw[e])
      simp only[Up.sl];rw[List.set_comm _ _ (λe=>oA e.symm),List.set_comm _ _ (λe=>hne e.symm)]
  |some bv=>
   obtain⟨b,v⟩:=bv;obtain⟨C1,hb⟩:=qx b v rfl;cases yb with
   |none=>
    cases yd with
    |none=>cases xd<;>simp [Up.sl]
    |some dy=>
     have hne:dy≠b:=λe=>hb (by rw[e])
     cases xd with
     |none=>simp only[Up.sl];rw[List.set_comm _ _ hne]
     |some dx=>
      have oA:dx≠dy:=λe=>hd dx rfl (by rw[e])
      simp only[Up.sl];rw[List.set_comm _ _ hne,List.set_comm _ _ (λe=>oA e.symm)]
   |some cw=>
    obtain⟨c,u⟩:=cw;have hcb:c≠b:=C1 c u rfl;obtain⟨_,hc⟩:=hby c u rfl;cases xd with
    |none=>
     cases yd with
     |none=>simp only[Up.sl];rw[List.set_comm _ _ hcb]
     |some dy=>
      have hne:dy≠b:=λe=>hb (by rw[e])
      simp only[Up.sl];rw[List.set_comm _ _ hne,List.set_comm _ _ hcb]
    |some dx=>
     have hnc:dx≠c:=λe=>hc (by rw[e])
     cases yd with
     |none=>simp only[Up.sl];rw[List.set_comm _ _ hcb,List.set_comm _ _ (λe=>hnc e.symm)]
     |some dy=>
      have hne:dy≠b:=λe=>hb (by rw[e])
      have oA:dx≠dy:=λe=>hd dx rfl (by rw[e])
      simp only[Up.sl];rw[List.set_comm _ _ hne,List.set_comm _ _ (λe=>oA e.symm),List.set_comm _ _ hcb,List.set_comm _ _ (λe=>hnc e.symm)]
 ·funext t;show x.A (y.A s.A) t=y.A (x.A s.A) t;generalize s.A t=a0;unfold Up.A;cases S8:x.d with
  |none=>cases y.d<;>rfl
  |some dx=>
   cases Ta:y.d with
   |none=>rfl
   |some dy=>
    have oA:dx≠dy:=λe=>hd dx S8 (by rw[Ta,e])
    simp only;by_cases h1:t=dx
    ·subst h1;have:(t==dy)=false:=by simpa using oA
     simp only[beq_self_eq_true,bG,this,aV];exact(hnx dy Ta).symm
    ·have h1':(t==dx)=false:=by simpa using h1
     by_cases h2:t=dy
     ·subst h2;simp only[beq_self_eq_true,bG,h1',aV];exact hny dx S8
     ·have h2':(t==dy)=false:=by simpa using h2
      simp only[h1',h2',aV];exact Xl ..
 ·rcases dI with e|e<;>simp [e]
structure RI (X : Fx) (Rt : List (Nat × Nat)) (Bt : List Nat) (s : AS) : Prop where
 l:∀t b,Rt.lookup t=some b→X.L.contains b=true
 a:∀t p,s.A t=some p→Rt.lookup t=some p.slot
 v:∀t b,Rt.lookup t=some b→X.L.contains t=false→jf (s.sl.getD t .undef)=true
 b:∀t,Bt.contains t=true→lG (s.sl.getD t .undef)=true
def mE(σ σ':Heap):Prop:=∀(id:Nat)(cs:List AV),σ[id]? =some (bk.box cs)↔σ'[id]? =some (bk.box cs)
section
variable {R : Type} {X : Fx} {Rt : List (Nat × Nat)} {Bt : List Nat} {s s' : AS}
theorem Em(h:RI X Rt Bt s){tag:Option (Nat×Bool)}{x:Operand}{b off:Nat}(hp:place X s tag x=some (b,off)):tI X Rt x=some b:=by
 cases x with
 |tmp t=>
  simp only[place]at hp;simp only[tI];cases hL:X.L.contains t
  ·rw[hL]at hp;simp only[aV]at hp ⊢;split at hp
   ·rename_i p hA;cases hc:X.L.contains p.slot
    ·rw[hc]at hp;cases hp
    ·rw[hc]at hp;simp only[bG]at hp;have ha:=h.a t p hA;split at hp
     ·simp only[Option.some.injEq,Prod.mk.injEq]at hp;rw[ha,hp.1]
     ·rename_i g hg;cases ht:(tag==some g)
      ·rw[ht]at hp;cases hp
      ·rw[ht]at hp;simp only[bG,Option.some.injEq,Prod.mk.injEq]at hp;rw[ha,hp.1]
   ·cases hp
  ·rw[hL]at hp;simp only[bG,Option.some.injEq,Prod.mk.injEq]at hp ⊢;exact hp.1
 |_=>simp [place]at hp
theorem zP(h:RI X Rt Bt s){tag:Option (Nat×Bool)}{x:Operand}{b:Nat}(hr:tI X Rt x=some b)(hp:place X s tag x=none):jf (ev X s x)=true:=by
 cases x with
 |tmp t=>
  simp only[tI]at hr;cases hL:X.L.contains t
  ·rw[hL]at hr;simp only[aV]at hr;simp only[ev,hL,aV];exact h.v t b hr hL
  ·simp only[place,hL,bG]at hp;cases hp
 |_=>simp [tI]at hr
theorem Oo{v:AV}{σ:Heap}(h:jf v=true):A.deref v σ=none:=by unfold jf at h;split at h<;>first|rfl|cases h
theorem Xh{v:AV}{σ σ':Heap}(h:mE σ σ')(hv:lG v=true):A.deref v σ=A.deref v σ':=by
 cases v<;>first|rfl|skip
 case op id off=>
  simp only[A.deref];cases h1:σ[id]? with
  |none=>
   cases h2:σ'[id]? with
   |none=>rfl
   |some b=>cases b<;>first|rfl|(have:=(h id _).2 h2;rw[h1]at this;cases this)
  |some b=>
   cases b with
   |box cs=>rw[(h id cs).1 h1]
   |_=>
    cases h2:σ'[id]? with
    |none=>rfl
    |some b=>cases b<;>first|rfl|(have:=(h id _).2 h2;rw[h1]at this;cases this)
 case oe id g i off=>cases hv
theorem WW{v:AV}{new:List AV}{σ:Heap}(h:jf v=true):A.storeAt v new σ=none:=by unfold jf at h;split at h<;>first|rfl|cases h
theorem G5{pl:Nat→Option (Nat×TypeId)}:∀(ps:List (Nat×Operand))(cs:List AV),(∀p∈ps,ev X s p.2=ev X s' p.2)→lE X s pl ps cs=lE X s' pl ps cs
 |[],cs,_=>rfl
 |(i,x)::ps,cs,h=>by
  have hx:=h (i,x) (by simp);simp only at hx;simp only[lE,hx];cases pl i with
  |none=>rfl
  |some ot=>simp only;congr 1;funext new;congr 1;funext cs';exact G5 ps cs' (λp hp=>h p (by simp [hp]))
theorem Im{o:Oper}{tag:Option (Nat×Bool)}(dN:∀x∈o.op.operands.toList,ev X s x=ev X s' x)(hpl:∀x,kT o=some x→place X s tag x=place X s' tag x)(hb:∀b,rt X Rt o=some b→s.sl.getD b .undef=s'.sl.getD b .undef)
  (CU:∀x b off,kT o=some x→place X s' tag x=some (b,off)→rt X Rt o=some b):gB X o s tag=gB X o s' tag:=by
 obtain⟨dst,op,ty,pos,af,g⟩:=o;cases op<;>simp only[gB]
 case nilCheck x=>
  rw[hpl x rfl];split
  ·rename_i b off hp;rw[hb b (CU x b off rfl hp)]
  ·rfl
 case fieldAddr t x f=>
  rw[hpl x rfl];split
  ·rename_i b off hp;rw[hb b (CU x b off rfl hp)]
  ·rfl
 case indexAddr t x i=>
  rw[hpl x rfl,dN i (by simp [Op.operands])];split
  ·rename_i b off hp;rw[hb b (CU x b off rfl hp)]
  ·rfl
theorem D7{o:Oper}{tag:Option (Nat×Bool)}(dN:∀x∈o.op.operands.toList,ev X s x=ev X s' x)(hpl:∀x,kT o=some x→place X s tag x=place X s' tag x)(hb:∀b,rt X Rt o=some b→s.sl.getD b .undef=s'.sl.getD b .undef)
  (CU:∀x b off,kT o=some x→place X s' tag x=some (b,off)→rt X Rt o=some b) (hno:∀x b,kT o=some x→rt X Rt o=some b→place X s' tag x=none→jf (ev X s' x)=true) (dI:pN X Rt o=true→soft Bt o=false→s.σ=s'.σ) (acu:pN X Rt o=true→soft Bt o=true→mE s.σ s'.σ) (hB:∀t,Bt.contains t=true→lG (ev X s' (.tmp t))=true):dO X o s tag=dO X o s' tag:=by
 obtain⟨dst,op,ty,pos,af,g⟩:=o;cases op<;>simp only[dO];case move x=>rw[dN x (by simp [Op.operands])]
 case assign x=>rw[dN x (by simp [Op.operands])]
 case pick x y u=>rw[dN x (by simp [Op.operands]),dN y (by simp [Op.operands]),dN u (by simp [Op.operands])]
 case box t x=>rw[dN x (by simp [Op.operands])]
 case build t ps=>
  have hps:∀p∈ps.toList,ev X s p.2=ev X s' p.2:=λp hp=>dN p.2 (by simp only[Op.operands];simp;exact⟨p.1,by simpa using hp⟩)
  split
  ·rw[G5 ps.toList _ hps]
  ·rfl
 case buildSlice t n ps=>
  have hps:∀p∈ps.toList,ev X s p.2=ev X s' p.2:=λp hp=>dN p.2 (by simp only[Op.operands];simp;exact⟨p.1,by simpa using hp⟩)
  split
  ·split
   ·rw[G5 ps.toList _ hps]
   ·rfl
  ·rfl
 case load t x=>
  rw[hpl x rfl,dN x (by simp [Op.operands])];split
  ·rename_i b off hp;rw[hb b (CU x b off rfl hp)]
  ·rename_i hp;cases hr:rt X Rt ⟨dst,.load t x,ty,pos,af,g⟩with
   |none=>
    cases yG:soft Bt ⟨dst,.load t x,ty,pos,af,g⟩
    ·rw[dI (by simp only[pN,hr,Option.isNone_none]) yG]
    ·rw[Xh (acu (by simp only[pN,hr,Option.isNone_none]) yG) (by
      cases x with
      |tmp u=>exact hB u yG
      |_=>simp [soft]at yG)]
   |some b=>rw[Oo (hno x b rfl hr hp),Oo (hno x b rfl hr hp)]
 case nilCheck x=>rw[dN x (by simp [Op.operands])]
 case binOp op t x y u=>rw[dN x (by simp [Op.operands]),dN y (by simp [Op.operands])]
 case unOp op t x=>rw[dN x (by simp [Op.operands])]
 case convert a b x=>rw[dN x (by simp [Op.operands])]
 case makeFunc fn first caps=>
  have:caps.toList.map (ev X s)=caps.toList.map (ev X s'):=List.map_congr_left λx hx=>dN x (by simp [Op.operands];exact .inr (by simpa using hx))
  rw[this]
 case slice t x lo hi mx=>
  have h1:lo.map (ev X s)=lo.map (ev X s'):=by cases lo with|none=>rfl|some y=>simp only[eO];rw[dN y (by simp [Op.operands])]
  have h2:hi.map (ev X s)=hi.map (ev X s'):=by cases hi with|none=>rfl|some y=>simp only[eO];rw[dN y (by simp [Op.operands])]
  rw[dN x (by simp [Op.operands]),h1,h2,dI rfl rfl];split
  ·rfl
  ·split
   ·rw[dN _ (by simp [Op.operands]),dN _ (by simp [Op.operands])]
   ·rfl
 case fieldAddr t x f=>rw[dN x (by simp [Op.operands])]
 case field t x f=>rw[dN x (by simp [Op.operands])]
 case indexAddr t x i=>rw[dN x (by simp [Op.operands]),dN i (by simp [Op.operands])]
 case index t x i=>rw[dN x (by simp [Op.operands]),dN i (by simp [Op.operands])]
 case lookup t x i ok=>rw[dN x (by simp [Op.operands]),dN i (by simp [Op.operands]),dI rfl rfl]
 case extract x i=>rw[dN x (by simp [Op.operands])]
 case entry i=>rw[dN i (by simp [Op.operands]),dI rfl rfl]
 case call c=>
  have ha:c.args.toList.map (ev X s)=c.args.toList.map (ev X s'):=List.map_congr_left λx hx=>dN x (by simp [Op.operands,Call.operands];exact .inr (by simpa using hx))
  rw[ha,dI rfl rfl];cases hc:c.callee with
  |value f=>have hf:=dN f (by simp [Op.operands,Call.operands,hc]);cases f<;>simp only[hf]
  |_=>rfl
theorem Ea{σ:Heap}{b:bk}(hb:∀cs,b≠.box cs):mE σ (σ++[b]):=by
 intro id cs;by_cases h:id<σ.length
 ·rw[fE h]
 ·rw[ku (by omega),fV (by omega)];constructor
  ·intro e;cases e
  ·intro e;have:=dF e;simp at this;exact absurd this.symm (hb cs)
theorem IS{σ:Heap}{id:Nat}{b b':bk}(hb:∀cs,b≠.box cs)(hb':∀cs,b'≠.box cs)(h:σ[id]? =some b):mE σ (σ.set id b'):=by
 intro i cs;rw[eW];by_cases e:id=i
 ·subst e;rw[h];have hlt:=(bU.1 h).1;simp only[if_true,hlt];constructor
  ·intro e;injection e with e;exact absurd e (hb cs)
  ·intro e;injection e with e;exact absurd e (hb' cs)
 ·simp [e]
theorem w8(σ:Heap):mE σ σ:=λ_ _=>Iff.rfl
theorem Yc{ek:A.EK}{m k v:AV}{σ σ':Heap}(h:A.iS ek m k v σ=some σ'):mE σ σ':=by
 unfold A.iS at h;cases hk:A.iQ ek k
 ·rw[hk]at h;cases h
 rw[hk]at h;simp only[bG]at h;split at h
 ·split at h
  ·rename_i es hg;obtain⟨es',_,e⟩:=cL.1 h;subst e;exact IS (λcs e=>by cases e) (λcs e=>by cases e) hg
  ·cases h
 ·cases h
theorem MD{sz most:Nat}{x r:AV}{ys:List (List AV)}{σ σ':Heap}(h:A.jZ sz most x ys σ=some (r,σ')):mE σ σ':=by
 unfold A.jZ at h;split at h
 ·split at h
  ·injection h with h;injection h with _ h;subst h;exact w8 _
  ·split at h
   ·injection h with h;injection h with _ h;subst h;exact Ea λcs e=>by cases e
   ·cases h
 ·split at h
  ·injection h with h;injection h with _ h;subst h;exact w8 _
  ·split at h
   ·injection h with h;injection h with _ h;subst h;exact Ea λcs e=>by cases e
   ·cases h
 ·split at h
  ·rename_i hg;split at h
   ·split at h
    ·injection h with h;injection h with _ h;subst h;exact w8 _
    ·split at h
     ·injection h with h;injection h with _ h;subst h;exact IS (λcs e=>by cases e) (λcs e=>by cases e) hg
     ·injection h with h;injection h with _ h;subst h;exact IS (λcs e=>by cases e) (λcs e=>by cases e) hg
   ·cases h
  ·split at h
   ·injection h with h;injection h with _ h;subst h;exact Ea λcs e=>by cases e
   ·cases h
  ·cases h
 ·cases h
theorem Wi{sz most:Nat}{x y r:AV}{σ σ':Heap}(h:A.append sz most x y σ=some (r,σ')):mE σ σ':=by unfold A.append at h;obtain⟨ys,_,h2⟩:=bg.1 h;exact MD h2
theorem VE{sz most:Nat}{zs:List AV}{x n r:AV}{σ σ':Heap}(h:A.qJ sz most zs x n σ=some (r,σ')):mE σ σ':=by
 unfold A.qJ at h;split at h
 ·split at h
  ·exact MD h
  ·cases h
 ·cases h
structure Ag (X : Fx) (Rt : List (Nat × Nat)) (Bt : List Nat) (o : Oper) (ls : List Nat) (tag : Option (Nat × Bool)) (s s' : AS) : Prop where
 r1:RI X Rt Bt s
 r2:RI X Rt Bt s'
 dN:∀t∈ls,X.L.contains t=false→s.sl.getD t .undef=s'.sl.getD t .undef
 pl:∀t,kT o=some (.tmp t)→place X s tag (.tmp t)=place X s' tag (.tmp t)
 bx:∀b,rt X Rt o=some b→s.sl.getD b .undef=s'.sl.getD b .undef
 σ:pN X Rt o=true→soft Bt o=false→s.σ=s'.σ
 Dk:pN X Rt o=true→soft Bt o=true→mE s.σ s'.σ
theorem YF{tag:Option (Nat×Bool)}{x:Operand}{b off:Nat}(h:place X s tag x=some (b,off)):X.L.contains b=true:=by
 cases x with
 |tmp t=>
  simp only[place]at h;cases hL:X.L.contains t
  ·rw[hL]at h;simp only[aV]at h;split at h
   ·rename_i p hA;cases hp:X.L.contains p.slot
    ·rw[hp]at h;cases h
    ·rw[hp]at h;simp only[bG]at h;split at h
     ·simp only[Option.some.injEq,Prod.mk.injEq]at h;rw[←h.1];exact hp
     ·rename_i g hg;cases ht:(tag==some g)
      ·rw[ht]at h;cases h
      ·rw[ht]at h;simp only[bG,Option.some.injEq,Prod.mk.injEq]at h;rw[←h.1];exact hp
   ·cases h
  ·rw[hL]at h;simp only[bG,Option.some.injEq,Prod.mk.injEq]at h;rw[←h.1];exact hL
 |_=>simp [place]at h
theorem Ag.wG{o:Oper}{ls:List Nat}{tag:Option (Nat×Bool)}(h:Ag X Rt Bt o ls tag s s')(hls:∀t,Operand.tmp t∈o.op.operands.toList→t∈ls):∀x∈o.op.operands.toList,ev X s x=ev X s' x:=by
 intro x hx;cases x with
 |tmp t=>
  simp only[ev];cases hL:X.L.contains t
  ·simp only[aV];exact h.dN t (hls t hx) hL
  ·rfl
 |_=>rfl
theorem RI.AF(h:RI X Rt Bt s):∀t,Bt.contains t=true→lG (ev X s (.tmp t))=true:=by
 intro t ht;simp only[ev];cases X.L.contains t
 ·exact h.b t ht
 ·rfl
theorem Ag.u6{o:Oper}{ls:List Nat}{tag:Option (Nat×Bool)}(h:Ag X Rt Bt o ls tag s s'):∀x,kT o=some x→place X s tag x=place X s' tag x:=by
 intro x hx;cases x with
 |tmp t=>exact h.pl t hx
 |_=>rfl
def wR(X:Fx)(d:Option Nat)(v:AV):Up:=⟨d,match d with|some d=>bif X.L.contains d then .undef else v|none=>.undef,none,none,false,none⟩
def De(X:Fx)(d:Option Nat)(σ:Heap)(v:AV):Up:=⟨d,match d with|some d=>bif X.L.contains d then .undef else v|none=>.undef,none,none,false,some σ⟩
def F3(X:Fx)(d:Option Nat)(b:Nat)(cs:List AV):Up:=⟨d,match d with|some d=>bif X.L.contains d then .undef else .aD []|none=>.undef,some (b,.lbx cs),none,false,none⟩
def F0(d:Nat)(cs:List AV):Up:=⟨some d,.lbx cs,none,none,true,none⟩
def AZ(X:Fx)(d:Option Nat)(b off:Nat)(tag:Option (Nat×Bool)):Up:=
 ⟨d,.undef,none,match d with|some d=>(bif X.L.contains d||!Nat.blt d X.n then none else match tag with|some (g,w)=>(bif g==d then none else some ⟨b,off,some (g,w)⟩)|none=>some ⟨b,off,none⟩)|none=>none,false,none⟩
theorem Af(d:Option Nat)(v:AV)(s:AS):s.put X d v=(wR X d v).ap s:=by
 cases d with
 |none=>rfl
 |some d=>simp only[AS.put,Up.ap,wR,Up.sl,Option.getD_none];congr 1;funext t;simp only[Up.A,Bo]
theorem gQ(d:Option Nat)(v:AV)(σ:Heap)(s:AS):(s.heap σ).put X d v=(De X d σ v).ap s:=by
 cases d with
 |none=>rfl
 |some d=>simp only[AS.put,AS.heap,Up.ap,De,Up.sl,Option.getD_some];congr 1;funext t;simp only[Up.A,Bo]
theorem Ns(d:Option Nat)(b:Nat)(cs:List AV)(s:AS):(⟨s.sl.set b (.lbx cs),s.A,s.σ⟩:AS).put X d (.aD [])=(F3 X d b cs).ap s:=by
 cases d with
 |none=>rfl
 |some d=>simp only[AS.put,Up.ap,F3,Up.sl,Option.getD_none];congr 1;funext t;simp only[Up.A,Bo]
theorem D6(d:Nat)(cs:List AV)(s:AS):s.lD d cs=(F0 d cs).ap s:=by simp only[AS.lD,Up.ap,F0,Up.sl,Option.getD_none];congr 1
theorem EG(d:Option Nat)(b off:Nat)(tag:Option (Nat×Bool))(s:AS):s.jB X d b off tag=(AZ X d b off tag).ap s:=by
 cases d with
 |none=>rfl
 |some d=>simp only[AS.jB,Up.ap,AZ,Up.sl,Option.getD_none];congr 1;funext t;simp only[Up.A,Bo];rfl
structure oV (X : Fx) (Rt : List (Nat × Nat)) (Bt : List Nat) (o : Oper) (ls : List Nat) (τ : Heap) (u : Up) : Prop where
 d:u.d=o.dst
 bx:∀b v,u.bx=some (b,v)→X.L.contains b=true∧wb X Rt o=some b
 new:∀p,u.new=some p→rL o=true∧(∀g w,p.tag=some (g,w)→g∈ls)∧rt X Rt o=some p.slot∧∀d,u.d=some d→Rt.lookup d=some p.slot
 box:u.qN=true→∃d,o.dst=some d∧X.L.contains d=true
 σ:u.σ≠none→mz X Rt o=true
 v:∀d b,u.d=some d→Rt.lookup d=some b→X.L.contains d=false→jf u.v=true
 vb:∀d,u.d=some d→Bt.contains d=true→lG u.v=true
 bxv:∀b v,u.bx=some (b,v)→lG v=true
 fr:wI o=true→∀σ,u.σ=some σ→mE τ σ
def pg(X:Fx)(Rt:List (Nat×Nat))(Bt:List Nat)(o:Oper):Prop:=(∀d,o.dst=some d→X.L.contains d=false→Rt.lookup d=(bif oN o then rt X Rt o else none))∧∀d,o.dst=some d→Bt.contains d=true→sF Bt o=true
theorem pg.of{o:Oper}(h:JM X Rt o=true)(hb:JK Bt o=true):pg X Rt Bt o:=by
 refine⟨λd hd hL=>?_,λd hd hc=>?_⟩
 ·unfold JM at h;rw[hd]at h;simp only[hL,Bool.false_or,beq_iff_eq]at h;exact h
 ·unfold JK at hb;rw[hd]at hb;simp only[hc,Bool.not_true,Bool.false_or]at hb;exact hb
theorem Jr{o:Oper}{ls:List Nat}(v:AV)(hR:pg X Rt Bt o)(hv:oN o=true→∀b,rt X Rt o=some b→jf v=true)(Lc:sF Bt o=true→lG v=true){τ:Heap}:oV X Rt Bt o ls τ (wR X o.dst v):=by
 refine⟨rfl,(λb v h=>by cases h),(λp h=>by cases h),(λh=>by cases h),(λh=>absurd rfl h),λd b hd hl hL=>?_,λd hd hc=>?_,(λb v h=>by cases h),(λ_ σ h=>by cases h)⟩
 ·simp only[wR]at hd ⊢;rw[hd];simp only[hL,aV];rw[hR.1 d hd hL]at hl;cases ha:oN o
  ·rw[ha]at hl;cases hl
  ·rw[ha]at hl;exact hv ha b hl
 ·have:=Lc (hR.2 d hd hc);simp only[wR]at hd ⊢;rw[hd];simp only;cases X.L.contains d
  ·exact this
  ·rfl
theorem oL{o:Oper}{ls:List Nat}(σ:Heap)(v:AV)(hR:pg X Rt Bt o)(h:mz X Rt o=true)(hn:oN o=false)(hcb:sF Bt o=false){τ:Heap}(hf:wI o=true→mE τ σ):oV X Rt Bt o ls τ (De X o.dst σ v):=by
 refine⟨rfl,(λb v h=>by cases h),(λp h=>by cases h),(λh=>by cases h),(λ_=>h),λd b hd hl hL=>?_,λd hd hc=>?_,(λb v h=>by cases h),(λhw σ' h=>?_)⟩
 ·simp only[De]at hd;rw[hR.1 d hd hL,hn]at hl;cases hl
 ·have:=hR.2 d hd hc;rw[hcb]at this;cases this
 ·simp only[De,Option.some.injEq]at h;subst h;exact hf hw
theorem QA{τ:Heap}{o:Oper}{ls:List Nat}{b off:Nat}{tag:Option (Nat×Bool)}(hR:pg X Rt Bt o)(ha:oN o=true)(hr:rt X Rt o=some b)(h:rL o=true)(ht:∀g w,tag=some (g,w)→g∈ls):oV X Rt Bt o ls τ (AZ X o.dst b off tag):=by
 refine⟨rfl,(λb v h=>by cases h),(λp hp=>?_),(λh=>by cases h),(λh=>absurd rfl h),(λd b hd hl hL=>rfl),(λ_ _ _=>rfl),(λb v h=>by cases h),(λ_ σ h=>by cases h)⟩
 have key:p.slot=b∧(∀g w,p.tag=some (g,w)→g∈ls)∧∀d,o.dst=some d→X.L.contains d=false:=by
  unfold AZ at hp;simp only at hp;cases hd:o.dst with
  |none=>rw[hd]at hp;cases hp
  |some d=>
   rw[hd]at hp;simp only at hp;cases hc:(X.L.contains d||!Nat.blt d X.n)
   ·rw[hc]at hp;simp only[aV]at hp;have hL:X.L.contains d=false:=by simp only[kr]at hc;exact hc.1
    cases tag with
    |none=>simp only[Option.some.injEq]at hp;subst hp;exact⟨rfl,(λg w e=>by cases e),λd' e=>by injection e with e;rw[←e];exact hL⟩
    |some gw=>
     obtain⟨g',w'⟩:=gw;simp only at hp;cases hg:(g'==d)
     ·rw[hg]at hp;simp only[aV,Option.some.injEq]at hp;subst hp;refine⟨rfl,λg w e=>?_,λd' e=>by injection e with e;rw[←e];exact hL⟩;simp only[Option.some.injEq,Prod.mk.injEq]at e;rw[←e.1];exact ht g' w' rfl
     ·rw[hg]at hp;cases hp
   ·rw[hc]at hp;cases hp
 refine⟨h,key.2.1,by rw[hr,key.1],λd hd=>?_⟩;have hd':o.dst=some d:=hd;rw[hR.1 d hd' (key.2.2 d hd'),ha,bG,hr,key.1]
theorem D4(l:List AV)(d t:Nat)(v:AV)(h:t≠d):(l.set d v).getD t .undef=l.getD t .undef:=by
 have h':¬d=t:=λe=>h (Eq.symm e)
 simp only[List.getD,eW,aI h']
theorem JH{u:Up}{l:List AV}{t:Nat}(h1:u.d≠some t)(h2:∀b v,u.bx=some (b,v)→t≠b):(u.sl l).getD t .undef=l.getD t .undef:=by
 unfold Up.sl;cases hd:u.d with
 |none=>
  cases hb:u.bx with
  |none=>rfl
  |some bv=>obtain⟨b,v⟩:=bv;exact D4 _ _ _ _ (h2 b v hb)
 |some d=>
  have hne:t≠d:=λe=>h1 (by rw[hd,e])
  cases hb:u.bx with
  |none=>exact D4 _ _ _ _ hne
  |some bv=>obtain⟨b,v⟩:=bv;simp only;rw[D4 _ _ _ _ hne,D4 _ _ _ _ (h2 b v hb)]
theorem oV.ri{τ:Heap}{o:Oper}{ls:List Nat}{u:Up}(h:oV X Rt Bt o ls τ u)(hs:RI X Rt Bt s):RI X Rt Bt (u.ap s):=by
 refine⟨hs.l,λt p hp=>?_,λt b ht hL=>?_,λt ht=>?_⟩
 ·have hp':u.A s.A t=some p:=hp;unfold Up.A at hp';cases hd:u.d with
  |none=>rw[hd]at hp';exact hs.a t p hp'
  |some d=>
   rw[hd]at hp';simp only at hp';cases hc:(t==d)
   ·rw[hc]at hp';simp only[aV]at hp';rcases HC u.qN d (s.A t)with e|e
    ·rw[e]at hp';exact hs.a t p hp'
    ·rw[e]at hp';cases hp'
   ·rw[hc]at hp';simp only[bG]at hp';have:t=d:=by simpa using hc
    subst this;exact(h.new p hp').2.2.2 t hd
 ·show jf ((u.sl s.sl).getD t .undef)=true;by_cases hd:u.d=some t
  ·have hv:=h.v t b hd ht hL
   have:(u.sl s.sl).getD t .undef=u.v∨(u.sl s.sl).getD t .undef=.undef:=by
    unfold Up.sl;rw[hd];simp only[List.getD];rw[eW];simp only[if_true];generalize (match u.bx with|some (b,x)=>s.sl.set b x|none=>s.sl)=q;by_cases hq:t<q.length
    ·left;simp [hq]
    ·right;simp [hq]
   rcases this with e|e
   ·rw[e];exact hv
   ·rw[e];rfl
  ·rw[JH hd (λb' v hb e=>by have:=(h.bx b' v hb).1;rw[←e,hL]at this;cases this)];exact hs.v t b ht hL
 ·show lG ((u.sl s.sl).getD t .undef)=true
  have nA:∀(l:List AV)(d:Nat)(v:AV),(l.set d v).getD t .undef=v∧t=d∨(l.set d v).getD t .undef=l.getD t .undef∨(l.set d v).getD t .undef=.undef:=by
   intro l d v;simp only[List.getD,eW];by_cases e:d=t
   ·subst e;by_cases hq:d<l.length
    ·left;simp [hq]
    ·right;right;simp [hq]
   ·right;left;simp [e]
  have qx:lG ((match u.bx with|some (b,x)=>s.sl.set b x|none=>s.sl).getD t .undef)=true:=by
   cases hb:u.bx with
   |none=>exact hs.b t ht
   |some bv=>
    obtain⟨b,v⟩:=bv;rcases nA s.sl b v with⟨e,_⟩|e|e
    ·simp only;rw[e];exact h.bxv b v hb
    ·simp only;rw[e];exact hs.b t ht
    ·simp only;rw[e];rfl
  unfold Up.sl;generalize (match u.bx with|some (b,x)=>s.sl.set b x|none=>s.sl)=q at qx;cases hd:u.d with
  |none=>exact qx
  |some d=>
   simp only;rcases nA q d u.v with⟨e,e2⟩|e|e
   ·rw[e];exact h.vb d hd (e2▸ht)
   ·rw[e];exact qx
   ·rw[e];rfl
theorem Qq{o:Oper}{tag:Option (Nat×Bool)}{p:Nat×Option Nat}(h:gB X o s tag=some p):rL o=true:=by obtain⟨dst,op,ty,pos,af,g⟩:=o;cases op<;>simp only[gB]at h<;>first|(cases h;done)|rfl
theorem PD{o:Oper}{tag:Option (Nat×Bool)}{p:Nat×Option Nat}(h:gB X o s tag=some p):oN o=true:=by obtain⟨dst,op,ty,pos,af,g⟩:=o;cases op<;>simp only[gB]at h<;>first|(cases h;done)|rfl
theorem Qr(hI:RI X Rt Bt s){o:Oper}{tag:Option (Nat×Bool)}{b:Nat}{rr:Option Nat}(h:gB X o s tag=some (b,rr)):rt X Rt o=some b:=by
 obtain⟨dst,op,ty,pos,af,g⟩:=o;cases op<;>simp only[gB]at h<;>first|(cases h;done)|skip
 all_goals
  split at h
  ·rename_i b' off hp;simp only[Option.some.injEq,Prod.mk.injEq]at h;simp only[rt,kT];rw[←h.1];exact Em hI hp
  ·cases h
theorem PE(hI:RI X Rt Bt s){o:Oper}{tag:Option (Nat×Bool)}{v:AV}(ha:oN o=true){b:Nat}(hr:rt X Rt o=some b)(hp:gB X o s tag=none)(h:dO X o s tag=some v):False:=by
 obtain⟨dst,op,ty,pos,af,g⟩:=o;have nf:∀(x:AV)(n:Nat),jf x=true→A.ia n x=none:=λx n h=>by unfold jf at h;split at h<;>first|rfl|cases h
 have nn:∀(x:AV),jf x=true→A.sR x=none:=λx h=>by unfold jf at h;split at h<;>first|rfl|cases h
 have ni:∀(x i:AV)(n:Nat),jf x=true→A.aM n x i=none:=λx i n h=>by unfold jf at h;split at h<;>first|rfl|cases h
 have na:∀(x i:AV)(m n:Nat),jf x=true→A.sM m n x i=none:=λx i m n h=>by
  unfold jf at h;unfold A.sM;split at h<;>first|(cases h;done)|skip
  all_goals cases A.idx m i<;>rfl
 cases op<;>simp only[oN]at ha<;>first|(cases ha;done)|skip
 case nilCheck x=>
  simp only[gB]at hp;simp only[rt,kT]at hr;split at hp
  ·cases hp
  ·rename_i hpl;simp only[dO,nn _ (zP hI hr hpl)]at h;cases h
 case fieldAddr t x f=>
  simp only[gB]at hp;simp only[rt,kT]at hr;split at hp
  ·cases hp
  ·rename_i hpl;simp only[dO]at h;split at h
   ·split at h
    ·rename_i i _;cases hz:(i.size==0)
     ·rw[hz]at h;simp only[aV,nf _ _ (zP hI hr hpl)]at h;cases h
     ·rw[hz]at h;cases h
    ·cases h
   ·cases h
 case indexAddr t x i=>
  simp only[gB]at hp;simp only[rt,kT]at hr;split at hp
  ·cases hp
  ·rename_i hpl;simp only[dO]at h;split at h
   ·split at h
    ·simp only[ni _ _ _ (zP hI hr hpl)]at h;cases h
    ·cases h
   ·split at h
    ·simp only[na _ _ _ _ (zP hI hr hpl)]at h;cases h
    ·cases h
   ·cases h
theorem jo{α β:Type}{x:Option α}{f:α→Option β}{b:β}(h:x.bind f=some b):∃a,x=some a∧f a=some b:=bg.1 h
theorem NU(hB:∀t,Bt.contains t=true→lG (ev X s (.tmp t))=true){o:Oper}{tag:Option (Nat×Bool)}{v:AV}(hc:sF Bt o=true)(h:dO X o s tag=some v):lG v=true:=by
 obtain⟨dst,op,ty,pos,af,g⟩:=o
 have nk:∀x,lG x=true→∀y,A.sR x=some y→lG y=true:=λx hx y e=>by cases x<;>simp only[A.sR]at e<;>first|(cases e;done)|(injection e with e;subst e;exact hx)
 have nf:∀x,lG x=true→∀n y,A.ia n x=some y→lG y=true:=λx hx n y e=>by cases x<;>simp only[A.ia]at e<;>first|(cases e;done)|(cases hx;done)|(injection e with e;subst e;rfl)
 cases op<;>simp only[sF]at hc<;>first|(cases hc;done)|skip
 case move x=>
  cases x<;>first|(cases hc;done)|skip
  simp only[dO,Option.some.injEq]at h;subst h;exact hB _ hc
 case assign x=>
  cases x<;>first|(cases hc;done)|skip
  simp only[dO,Option.some.injEq]at h;subst h;exact hB _ hc
 case nilCheck x=>
  cases x<;>first|(cases hc;done)|skip
  simp only[dO]at h;exact nk _ (hB _ hc) _ h
 case fieldAddr t x f=>
  cases x<;>first|(cases hc;done)|skip
  simp only[dO]at h;split at h
  ·split at h
   ·rename_i i _;cases hz:(i.size==0)
    ·rw[hz]at h;simp only[aV]at h;exact nf _ (hB _ hc) _ _ h
    ·rw[hz]at h;cases h
   ·cases h
  ·cases h
theorem Qo{o:Oper}{ls:List Nat}(hR:pg X Rt Bt o)(hI:RI X Rt Bt s)(hls:∀t,Operand.tmp t∈o.op.operands.toList→t∈ls){k:AS→Option R}{r:R}(h:eo X true o s k=some r):
  ∃u,oV X Rt Bt o ls s.σ u∧k (u.ap s)=some r∧∀(R':Type)(k':AS→Option R')(s':AS),Ag X Rt Bt o ls none s s'→eo X true o s' k'=k' (u.ap s'):=by
 have wg:∀(s':AS),RI X Rt Bt s'→∀x b off,kT o=some x→place X s' none x=some (b,off)→rt X Rt o=some b:=λs' hi x b off hx hp=>by simp only[rt,hx];exact Em hi hp
 have Aq:∀(s':AS),RI X Rt Bt s'→∀x b,kT o=some x→rt X Rt o=some b→place X s' none x=none→jf (ev X s' x)=true:=λs' hi x b hx hr hp=>by simp only[rt,hx]at hr;exact zP hi hr hp
 unfold eo at h;cases hp:gB X o s none with
 |some p=>
  obtain⟨b,rr⟩:=p;rw[hp]at h;simp only at h;obtain⟨off,e1,e2⟩:=jo h;subst e1;refine⟨AZ X o.dst b off none,QA hR (PD hp) (Qr hI hp) (Qq hp) (λg w e=>by cases e),by rw[←EG];exact e2,λR' k' s' ha=>?_⟩;have:gB X o s' none=some (b,some off):=by rw[←hp];exact(Im (ha.wG hls) ha.u6 ha.bx (wg s' ha.r2)).symm
  unfold eo;rw[this];simp only[aQ];rw[EG]
 |none=>
  rw[hp]at h;simp only at h;have hP:∀s',Ag X Rt Bt o ls none s s'→gB X o s' none=none:=λs' ha=>by rw[←hp];exact(Im (ha.wG hls) ha.u6 ha.bx (wg s' ha.r2)).symm
  have dflt:((dO X o s none).bind λv=>k (s.put X o.dst v))=some r→(∀(R':Type)(k':AS→Option R')(s':AS),Ag X Rt Bt o ls none s s'→eo X true o s' k'=(dO X o s' none).bind λv=>k' (s'.put X o.dst v))→
    ∃u,oV X Rt Bt o ls s.σ u∧k (u.ap s)=some r∧∀(R':Type)(k':AS→Option R')(s':AS),Ag X Rt Bt o ls none s s'→eo X true o s' k'=k' (u.ap s'):=by
   intro hd hsame;obtain⟨v,e1,e2⟩:=jo hd;refine⟨wR X o.dst v,Jr v hR (λha b hr=>(PE hI ha hr hp e1).elim) (λhc=>NU hI.AF hc e1),by rw[←Af];exact e2,λR' k' s' ha=>?_⟩;have:dO X o s' none=some v:=by rw[←e1];exact(D7 (ha.wG hls) ha.u6 ha.bx (wg s' ha.r2) (Aq s' ha.r2) ha.σ ha.Dk ha.r2.AF).symm
   rw[hsame R' k' s' ha,this,aQ,Af]
  obtain⟨dst,op,ty,pos,af,g⟩:=o;have s9:∀s',Ag X Rt Bt ⟨dst,op,ty,pos,af,g⟩ ls none s s'→∀x∈op.operands.toList,ev X s x=ev X s' x:=λs' ha=>ha.wG hls
  have unf:∀{R':Type}(k':AS→Option R')(s':AS),Ag X Rt Bt ⟨dst,op,ty,pos,af,g⟩ ls none s s'→gB X ⟨dst,op,ty,pos,af,g⟩ s' none=none:=λk' s' ha=>hP s' ha
  cases op<;>simp only at h<;>first
   |(exact absurd (show(none:Option R)=some r from h) (by simp))
   |exact dflt h (λR' k' s' ha=>by unfold eo;rw[hP s' ha])
   |skip
  case alloc t=>
   cases dst with
   |none=>cases h
   |some d=>
    simp only at h;cases hL:X.L.contains d
    ·rw[hL]at h;simp only[aV]at h;cases hO:X.O.contains d
     ·rw[hO]at h;exact dflt h (λR' k' s' ha=>by unfold eo;rw[hP s' ha];simp only[hL,hO,aV])
     ·rw[hO]at h;simp only[bG]at h;split at h
      ·rename_i cs hz;rw[gQ]at h;refine⟨_,oL _ _ hR (by simp [mz,wH];simpa using hO) rfl rfl (λh=>by cases h),h,λR' k' s' ha=>?_⟩;have dI:=ha.σ (by simpa [pN]using hO) rfl;unfold eo;rw[hP s' ha];simp only[hL,hO,aV,bG,hz,dI];rw[gQ]
      ·cases h
    ·rw[hL]at h;simp only[bG]at h;split at h
     ·rename_i cs hz;rw[D6]at h;refine⟨_,⟨rfl,(λb v h=>by cases h),(λp h=>by cases h),(λ_=>⟨d,rfl,hL⟩),(λh=>absurd rfl h),(λd' b e _ hL'=>by simp only[F0,Option.some.injEq]at e;rw[←e,hL]at hL';cases hL'),(λ_ _ _=>rfl),(λb v h=>by cases h),(λ_ σ h=>by cases h)⟩,h,λR' k' s' ha=>?_⟩;unfold eo;rw[hP s' ha];simp only[hL,bG,hz];rw[D6]
     ·cases h
  case box t x=>
   cases dst with
   |none=>cases h
   |some d=>
    simp only at h;cases hL:X.L.contains d
    ·rw[hL]at h;simp only[aV]at h;cases hO:X.O.contains d
     ·rw[hO]at h;exact dflt h (λR' k' s' ha=>by unfold eo;rw[hP s' ha];simp only[hL,hO,aV])
     ·rw[hO]at h;simp only[bG]at h;obtain⟨cs,e1,e2⟩:=jo h;rw[gQ]at e2;refine⟨_,oL _ _ hR (by simp [mz,wH];simpa using hO) rfl rfl (λh=>by cases h),e2,λR' k' s' ha=>?_⟩;have dI:=ha.σ (by simpa [pN]using hO) rfl;have hx:=s9 s' ha x (by simp [Op.operands]);unfold eo;rw[hP s' ha];simp only[hL,hO,aV,bG,←hx,e1,aQ,dI];rw[gQ]
    ·rw[hL]at h;simp only[bG]at h;obtain⟨cs,e1,e2⟩:=jo h;rw[D6]at e2;refine⟨_,⟨rfl,(λb v h=>by cases h),(λp h=>by cases h),(λ_=>⟨d,rfl,hL⟩),(λh=>absurd rfl h),(λd' b e _ hL'=>by simp only[F0,Option.some.injEq]at e;rw[←e,hL]at hL';cases hL'),(λ_ _ _=>rfl),(λb v h=>by cases h),(λ_ σ h=>by cases h)⟩,e2,λR' k' s' ha=>?_⟩;have hx:=s9 s' ha x (by simp [Op.operands]);unfold eo;rw[hP s' ha];simp only[hL,bG,←hx,e1,aQ];rw[D6]
  case store t x v=>
   split at h
   ·rename_i b off hpl;obtain⟨cs,e1,e2⟩:=jo h;obtain⟨new,e3,e4⟩:=jo e2;obtain⟨cs',e5,e6⟩:=jo e4;rw[Ns]at e6;have uX:rt X Rt ⟨dst,.store t x v,ty,pos,af,g⟩=some b:=by simp only[rt,kT];exact Em hI hpl
    refine⟨_,⟨rfl,(λb' v' hb=>by simp only[F3,Option.some.injEq,Prod.mk.injEq]at hb;rw[←hb.1];exact⟨YF hpl,uX⟩),(λp h=>by cases h),(λh=>by cases h),(λh=>absurd rfl h),(λd1 b1 e hl hL=>by rw[hR.1 d1 e hL]at hl;cases hl),(λd1 e hc=>by have:=hR.2 d1 e hc;cases this),(λb1 v1 hb=>by simp only[F3,Option.some.injEq,Prod.mk.injEq]at hb;rw[←hb.2];rfl),(λ_ σ h=>by cases h)⟩,e6,λR' k' s' ha=>?_⟩;have hv:=s9 s' ha v (by simp [Op.operands]);have hpx:place X s' none x=some (b,off):=by rw[←hpl];exact(ha.u6 x rfl).symm
    have qx:=ha.bx b uX;unfold eo;rw[hP s' ha];simp only[hpx,←qx,e1,aQ,←hv,e3,e5];rw[Ns]
   ·rename_i hpl;obtain⟨new,e3,e4⟩:=jo h;obtain⟨σ',e5,e6⟩:=jo e4;rw[gQ]at e6
    have uX:rt X Rt ⟨dst,.store t x v,ty,pos,af,g⟩=none:=by
     cases hr:rt X Rt ⟨dst,.store t x v,ty,pos,af,g⟩with
     |none=>rfl
     |some b=>rw[WW (Aq s hI x b rfl hr hpl)]at e5;cases e5
    have hw:mz X Rt ⟨dst,.store t x v,ty,pos,af,g⟩=true:=by simp only[mz,uX,Option.isNone_none]
    refine⟨_,oL _ _ hR hw rfl rfl (λh=>by cases h),e6,λR' k' s' ha=>?_⟩;have hv:=s9 s' ha v (by simp [Op.operands]);have hx:=s9 s' ha x (by simp [Op.operands]);have dI:=ha.σ (by simp only[pN,uX,Option.isNone_none]) rfl;have hpx:place X s' none x=none:=by rw[←hpl];exact(ha.u6 x rfl).symm
    unfold eo;rw[hP s' ha];simp only[hpx,←hv,←hx,e3,aQ,←dI,e5];rw[gQ]
  case makeMap t rr=>
   cases rr with
   |some x=>cases h
   |none=>simp only at h;rw[gQ]at h;refine⟨_,oL _ _ hR rfl rfl rfl (λ_=>Ea (λcs e=>by cases e)),h,λR' k' s' ha=>?_⟩;have dI:=ha.σ rfl rfl;unfold eo;rw[hP s' ha];simp only[←dI];rw[gQ]
  case range t x=>
   split at h
   ·rename_i kt et hd;obtain⟨es,e1,e2⟩:=jo h;rw[gQ]at e2;refine⟨_,oL _ _ hR rfl rfl rfl (λh=>by cases h),e2,λR' k' s' ha=>?_⟩;have hx:=s9 s' ha x (by simp [Op.operands]);have dI:=ha.σ rfl rfl;unfold eo;rw[hP s' ha];simp only[hd,←hx,←dI,e1,aQ];rw[gQ]
   ·cases h
  case buildSlice t n ps=>
   cases dst with
   |none=>exact dflt h (λR' k' s' ha=>by unfold eo;rw[hP s' ha])
   |some d=>
    simp only at h;cases hO:X.O.contains d
    ·rw[hO]at h;exact dflt h (λR' k' s' ha=>by unfold eo;rw[hP s' ha];simp only[hO,aV])
    ·rw[hO]at h;simp only[bG]at h;obtain⟨v,e1,e2⟩:=jo h
     have hv:∀s',Ag X Rt Bt ⟨some d,.buildSlice t n ps,ty,pos,af,g⟩ ls none s s'→dO X ⟨some d,.buildSlice t n ps,ty,pos,af,g⟩ s' none=some v:=λs' ha=>by rw[←e1];exact(D7 (ha.wG hls) ha.u6 ha.bx (wg s' ha.r2) (Aq s' ha.r2) ha.σ ha.Dk ha.r2.AF).symm
     unfold A.As at e2;split at e2
     ·rename_i sz es;cases hl:(es.length==0)
      ·rw[hl]at e2;simp only[aV]at e2;rw[gQ]at e2;refine⟨_,oL _ _ hR (by simp [mz,wH];simpa using hO) rfl rfl (λh=>by cases h),e2,λR' k' s' ha=>?_⟩;have dI:=ha.σ (by simpa [pN]using hO) rfl;unfold eo;rw[hP s' ha];simp only[hO,bG,hv s' ha,aQ,A.As,hl,aV,←dI];rw[gQ]
      ·rw[hl]at e2;cases e2
     ·cases e2
  case mapUpdate t m i v=>
   split at h
   ·rename_i kt et hd;split at h
    ·rename_i ek he;obtain⟨σ',e1,e2⟩:=jo h;rw[gQ]at e2;refine⟨_,oL _ _ hR rfl rfl rfl (λ_=>Yc e1),e2,λR' k' s' ha=>?_⟩;have hm:=s9 s' ha m (by simp [Op.operands]);have hi:=s9 s' ha i (by simp [Op.operands]);have hv:=s9 s' ha v (by simp [Op.operands]);have dI:=ha.σ rfl rfl;unfold eo;rw[hP s' ha];simp only[hd,he,←hm,←hi,←hv,←dI,e1,aQ];rw[gQ]
    ·cases h
   ·cases h
  case call c=>
   have hargs:∀s',Ag X Rt Bt ⟨dst,.call c,ty,pos,af,g⟩ ls none s s'→c.args.toList.map (ev X s)=c.args.toList.map (ev X s'):=λs' ha=>
    List.map_congr_left λx hx=>s9 s' ha x (by simp [Op.operands,Call.operands];exact .inr (by simpa using hx))
   split at h
   ·rename_i hc;split at h
    ·rename_i t u x y h1 h2;split at h
     ·rename_i e e' hd hu;split at h
      ·rename_i i hi;cases dn:kn i
       ·rw[dn]at h;simp only[aV]at h;obtain⟨⟨rr,σ'⟩,e1,e2⟩:=jo h;simp only at e2;rw[gQ]at e2;refine⟨_,oL _ _ hR (by simp [mz,wH,hc]) rfl rfl (λ_=>Wi e1),e2,λR' k' s' ha=>?_⟩;have dI:=ha.σ rfl rfl;unfold eo;rw[hP s' ha];simp only[hc,←hargs s' ha,h1,h2,hd,hu,hi,dn,aV,←dI,e1,aQ];rw[gQ]
       ·rw[dn]at h;cases h
      ·cases h
     ·rename_i e kk hd hu;split at h
      ·rename_i i zs hi hz;cases dn:kn i
       ·rw[dn]at h;simp only[aV]at h;obtain⟨⟨rr,σ'⟩,e1,e2⟩:=jo h;simp only at e2;rw[gQ]at e2;refine⟨_,oL _ _ hR (by simp [mz,wH,hc]) rfl rfl (λ_=>VE e1),e2,λR' k' s' ha=>?_⟩;have dI:=ha.σ rfl rfl;unfold eo;rw[hP s' ha];simp only[hc,←hargs s' ha,h1,h2,hd,hu,hi,hz,dn,aV,←dI,e1,aQ];rw[gQ]
       ·rw[dn]at h;cases h
      ·cases h
     ·cases h
    ·cases h
   ·rename_i hc;split at h
    ·rename_i t u x y h1 h2;split at h
     ·rename_i e e' hd hu;split at h
      ·rename_i i hi;cases dn:kn i
       ·rw[dn]at h;simp only[aV]at h;obtain⟨⟨rr,σ'⟩,e1,e2⟩:=jo h;simp only at e2;rw[gQ]at e2;refine⟨_,oL _ _ hR (by simp [mz,wH,hc]) rfl rfl (λh=>by simp [wI,hc]at h),e2,λR' k' s' ha=>?_⟩;have dI:=ha.σ rfl rfl;unfold eo;rw[hP s' ha];simp only[hc,←hargs s' ha,h1,h2,hd,hu,hi,dn,aV,←dI,e1,aQ];rw[gQ]
       ·rw[dn]at h;cases h
      ·cases h
     ·cases h
    ·cases h
   ·rename_i hc;cases hv:dO X ⟨dst,.call c,ty,pos,af,g⟩ s none with
    |none=>rw[hv]at h;simp [A.vU]at h
    |some v=>
     rw[hv]at h
     exact dflt (by rw[hv];exact h) (λR' k' s' ha=>by
      have Lb:dO X ⟨dst,.call c,ty,pos,af,g⟩ s' none=some v:=by rw[←hv];exact(D7 (ha.wG hls) ha.u6 ha.bx (wg s' ha.r2) (Aq s' ha.r2) ha.σ ha.Dk ha.r2.AF).symm
      unfold eo;rw[hP s' ha];simp only[hc,Lb,aQ,A.vU])
   ·rename_i hc;split at h
    ·rename_i t x h1 h2;split at h
     ·rename_i e hd;split at h
      ·rename_i i zs hi hz;cases dn:kn i
       ·rw[dn]at h;simp only[aV]at h;obtain⟨σ',e1,e2⟩:=jo h;rw[gQ]at e2;refine⟨_,oL _ _ hR (by simp [mz,wH,hc]) rfl rfl (λh=>by simp [wI,hc]at h),e2,λR' k' s' ha=>?_⟩;have dI:=ha.σ rfl rfl;unfold eo;rw[hP s' ha];simp only[hc,←hargs s' ha,h1,h2,hd,hi,hz,dn,aV,←dI,e1,aQ];rw[gQ]
       ·rw[dn]at h;cases h
      ·cases h
     ·cases h
    ·cases h
   ·rename_i hc;split at h
    ·rename_i t u m key h1 h2;split at h
     ·rename_i kt et hd;split at h
      ·rename_i ek he;obtain⟨σ',e1,e2⟩:=jo h;rw[gQ]at e2;refine⟨_,oL _ _ hR (by simp [mz,wH,hc]) rfl rfl (λh=>by simp [wI,hc]at h),e2,λR' k' s' ha=>?_⟩;have dI:=ha.σ rfl rfl;unfold eo;rw[hP s' ha];simp only[hc,←hargs s' ha,h1,h2,hd,he,←dI,e1,aQ];rw[gQ]
      ·cases h
     ·cases h
    ·cases h
   ·rename_i b hn1 hn2 kF mV pJ hc
    exact dflt h (λR' k' s' ha=>by
     unfold eo;rw[hP s' ha];simp only[hc]
     all_goals (first|rfl|(cases b<;>first|rfl|exact absurd rfl hn1|exact absurd rfl hn2|exact absurd rfl kF|exact absurd rfl mV|exact absurd rfl pJ)))
   ·rename_i f hc;cases hw:X.W.contains f
    ·simp only[hw,Bool.not_false,Bool.and_true,bG]at h;exact dflt h (λR' k' s' ha=>by unfold eo;rw[hP s' ha];simp only[hc,hw,Bool.not_false,Bool.and_true,bG])
    ·simp only[hw,Bool.not_true,Bool.and_false,aV]at h;obtain⟨⟨rr,σ'⟩,e1,e2⟩:=jo h;simp only at e2;rw[gQ]at e2;refine⟨_,oL _ _ hR (by simp only[mz,wH,hc];exact hw) rfl rfl (λh=>by simp [wI,hc]at h),e2,λR' k' s' ha=>?_⟩;have dI:=ha.σ rfl rfl;unfold eo;rw[hP s' ha];simp only[hc,←hargs s' ha,hw,Bool.not_true,Bool.and_false,aV,←dI,e1,aQ];rw[gQ]
   ·rename_i x hnf hc;simp only[bG]at h
    exact dflt h (λR' k' s' ha=>by
     unfold eo;rw[hP s' ha];simp only[hc]
     cases x<;>first|exact absurd rfl (hnf _)|simp only[bG])
   ·cases h
end
end
section
section
variable {R : Type} {X : Fx} {Rt : List (Nat × Nat)} {Bt : List Nat} {s s' : AS} {ops : Array Oper}
theorem BH{o:Oper}{t:Nat}(h:Operand.tmp t∈o.op.operands.toList):t∈o.looksAt ops:=by unfold Oper.looksAt;refine eN.2 (.inl (List.mem_filterMap.2 ⟨.tmp t,h,rfl⟩))
theorem VS{o:Oper}{j d:Nat}{want:Bool}(hg:o.guard=some (j,want))(hd:(ops[j]?).bind (·.dst)=some d):d∈o.looksAt ops:=by unfold Oper.looksAt;refine eN.2 (.inr ?_);rw[hg];simp only[hd];simp
def Ax(X:Fx)(Rt:List (Nat×Nat))(Bt:List Nat)(ops:Array Oper)(o:Oper)(s s':AS):Prop:=∀tag:Option (Nat×Bool),(∀g w,tag=some (g,w)→g∈o.looksAt ops)→Ag X Rt Bt o (o.looksAt ops) tag s s'
theorem Ag.symm{o:Oper}{ls:List Nat}{tag:Option (Nat×Bool)}(h:Ag X Rt Bt o ls tag s s'):Ag X Rt Bt o ls tag s' s:=
 ⟨h.r2,h.r1,λt ht hL=>(h.dN t ht hL).symm,λt ht=>(h.pl t ht).symm,λb hb=>(h.bx b hb).symm,(λhr hs=>(h.σ hr hs).symm),λhr hs id cs=>(h.Dk hr hs id cs).symm⟩
theorem Ax.symm{o:Oper}(h:Ax X Rt Bt ops o s s'):Ax X Rt Bt ops o s' s:=λtag ht=>(h tag ht).symm
theorem Iu{q:Bool}{o:Oper}{f:FuncId}{l:List Operand}(h:Ak X o=some (f,l))(s:AS)(k:AS→Option R):eo X q o s k=(X.call f (l.map (ev X s)) s.σ).bind λr=>k ((s.heap r.2).put X o.dst r.1):=by
 unfold Ak at h;split at h
 ·rename_i c ho;split at h
  ·rename_i f' hc;cases hw:X.W.contains f'
   ·rw[hw]at h;cases h
   ·rw[hw]at h;simp only[bG,Option.some.injEq,Prod.mk.injEq]at h;obtain⟨rfl,rfl⟩:=h;unfold eo gB;simp only[ho,hc,hw,Bool.not_true,Bool.and_false,aV]
  ·cases h
 ·cases h
theorem Jm{o:Oper}{k:AS→Option R}{r:R}(hR:pg X Rt Bt o)(hI:RI X Rt Bt s)(h:jJ X true ops o s k=some r):
  ∃u,oV X Rt Bt o (o.looksAt ops) s.σ u∧k (u.ap s)=some r∧∀(R':Type)(k':AS→Option R')(s':AS),Ax X Rt Bt ops o s s'→jJ X true ops o s' k'=k' (u.ap s'):=by
 unfold jJ at h;cases hg:o.guard with
 |none=>rw[hg]at h;obtain⟨u,h1,h2,h3⟩:=Qo (ls:=o.looksAt ops) hR hI (λt ht=>BH ht) h;refine⟨u,h1,h2,λR' k' s' ha=>?_⟩;unfold jJ;rw[hg];exact h3 R' k' s' (ha none (λg w e=>by cases e))
 |some jw=>
  obtain⟨j,want⟩:=jw;rw[hg]at h;simp only at h;cases hd:(ops[j]?).bind (·.dst)with
  |none=>rw[hd]at h;cases h
  |some d=>
   rw[hd]at h;simp only at h;cases hb:BF X o d
   ·rw[hb]at h;simp only[aV]at h;have lP:=VS (ops:=ops) hg hd;have wj:∀g w,(some (d,want):Option (Nat×Bool))=some (g,w)→g∈o.looksAt ops:=λg w e=>by injection e with e;injection e with e _;rw[←e];exact lP
    have KX:X.L.contains d=false:=by simp only[BF,kr]at hb;exact hb.1
    cases nH:Ak X o with
    |some fa=>
     obtain⟨f,as'⟩:=fa;rw[nH]at h;simp only at h;obtain⟨rv,e1,e2⟩:=jo h
     have key:∀(x:AV),s.sl.getD d .undef=x→(x=.aD []∨∃c,x=.bool c∧(c==want)=false)∨∃c,x=.bool c∧(c==want)=true:=by
      intro x hx;rw[hx]at e1;unfold A.guard at e1;split at e1
      ·rename_i c;cases hc:(c==want)
       ·exact .inl (.inr ⟨c,rfl,hc⟩)
       ·exact .inr ⟨c,rfl,hc⟩
      ·exact .inl (.inl rfl)
      ·cases e1
     rcases key _ rfl with hno|⟨c,hc,KW⟩
     ·have hG:∀(R':Type)(x:Option R')(y:Option R'),A.guard (s.sl.getD d .undef) want x y=y:=by
       intro R' x y;rcases hno with hh|⟨c,hh,KW⟩
       ·rw[hh];rfl
       ·rw[hh];simp only[A.guard,KW,aV]
      rw[hG]at e1;injection e1 with e1
      subst e1
      have EX:oN o=false∧sF Bt o=false:=by
       unfold Ak at nH;split at nH
       ·rename_i c ho;exact⟨by simp only[oN,ho],by simp only[sF,ho]⟩
       ·cases nH
      refine⟨wR X o.dst (.aD []),Jr _ hR (λha=>by rw[EX.1]at ha;cases ha) (λha=>by rw[EX.2]at ha;cases ha),by rw[←Af];exact e2,λR' k' s' ha=>?_⟩;have a:=ha _ wj;have iw:=a.dN d lP KX;unfold jJ;rw[hg];simp only[hd,hb,aV,nH];rw[←iw,hG,aQ,←Af];rfl
     ·have hG:∀(R':Type)(x:Option R')(y:Option R'),A.guard (s.sl.getD d .undef) want x y=x:=by intro R' x y;rw[hc];simp only[A.guard,KW,bG]
      have hA:eo X true o s k=some r:=by rw[Iu nH];rw[hG]at h;exact h
      obtain⟨u,h1,h2,h3⟩:=Qo (ls:=o.looksAt ops) hR hI (λt ht=>BH ht) hA;refine⟨u,h1,h2,λR' k' s' ha=>?_⟩;have a:=ha _ wj;have iw:=a.dN d lP KX;rw[←h3 R' k' s' (ha none (λg w e=>by cases e)),Iu nH];unfold jJ;rw[hg];simp only[hd,hb,aV,nH];rw[←iw,hG]
    |none=>
    rw[nH]at h;simp only at h;have wg:∀(s':AS),RI X Rt Bt s'→∀x b off,kT o=some x→place X s' (some (d,want)) x=some (b,off)→rt X Rt o=some b:=λs' hi x b off hx hp=>by simp only[rt,hx];exact Em hi hp
    have Aq:∀(s':AS),RI X Rt Bt s'→∀x b,kT o=some x→rt X Rt o=some b→place X s' (some (d,want)) x=none→jf (ev X s' x)=true:=λs' hi x b hx hr hp=>by simp only[rt,hx]at hr;exact zP hi hr hp
    have hP:∀s',Ax X Rt Bt ops o s s'→gB X o s' (some (d,want))=gB X o s (some (d,want)):=λs' ha=>by have a:=ha _ wj;exact(Im (a.wG λt ht=>BH ht) a.u6 a.bx (wg s' a.r2)).symm
    cases hp:gB X o s (some (d,want))with
    |some p=>obtain⟨b,rr⟩:=p;rw[hp]at h;simp only at h;obtain⟨off,e1,e2⟩:=jo h;subst e1;refine⟨AZ X o.dst b off (some (d,want)),QA hR (PD hp) (Qr hI hp) (Qq hp) wj,by rw[←EG];exact e2,λR' k' s' ha=>?_⟩;unfold jJ;rw[hg];simp only[hd,hb,aV,nH,hP s' ha,hp,aQ];rw[EG]
    |none=>
     rw[hp]at h;simp only at h;obtain⟨v,e1,e2⟩:=jo h
     have hv:oN o=true→∀b,rt X Rt o=some b→jf v=true:=by
      intro ha b hr;unfold A.guard at e1;split at e1
      ·rename_i c _;cases hc:(c==want)
       ·rw[hc]at e1;simp only[aV,Option.some.injEq]at e1;subst e1;rfl
       ·rw[hc]at e1;exact(PE hI ha hr hp e1).elim
      ·simp only[Option.some.injEq]at e1;subst e1;rfl
      ·cases e1
     have Lc:sF Bt o=true→lG v=true:=by
      intro hc;unfold A.guard at e1;split at e1
      ·rename_i c _;cases nG:(c==want)
       ·rw[nG]at e1;simp only[aV,Option.some.injEq]at e1;subst e1;rfl
       ·rw[nG]at e1;exact NU hI.AF hc e1
      ·simp only[Option.some.injEq]at e1;subst e1;rfl
      ·cases e1
     refine⟨wR X o.dst v,Jr v hR hv Lc,by rw[←Af];exact e2,λR' k' s' ha=>?_⟩;have a:=ha _ wj;have hV:dO X o s' (some (d,want))=dO X o s (some (d,want)):=(D7 (a.wG λt ht=>BH ht) a.u6 a.bx (wg s' a.r2) (Aq s' a.r2) a.σ a.Dk a.r2.AF).symm;have iw:=a.dN d lP KX;unfold jJ;rw[hg];simp only[hd,hb,aV,nH,hP s' ha,hp,hV,←iw,e1,aQ];rw[Af]
   ·rw[hb]at h;cases h
structure tj (X : Fx) (Rt : List (Nat × Nat)) (Bt : List Nat) (ops : Array Oper) (x y : Oper) : Prop where
 dx:∀d,x.dst=some d→d∉y.looksAt ops
 dd:∀d,x.dst=some d→y.dst≠some d
 dy:∀d,y.dst=some d→d∉x.looksAt ops
 c1:sO X Rt Bt x y=false
 c2:sO X Rt Bt y x=false
theorem tj.symm{x y:Oper}(h:tj X Rt Bt ops x y):tj X Rt Bt ops y x:=⟨h.dy,λd hd e=>h.dd d e hd,h.dx,h.c2,h.c1⟩
theorem Xx{x y:Oper}(h:indep X Rt Bt ops x y=true):tj X Rt Bt ops x y:=by simp only[indep,eH,Bool.not_eq_true']at h;obtain⟨⟨h1,h2⟩,h3⟩:=h;obtain⟨a1,a2,a3⟩:=Oper.apart_spec h1;exact⟨a1,a2,a3,h2,h3⟩
theorem O8{x y:Oper}(h:sO X Rt Bt x y=false){b:Nat}(hb:wb X Rt x=some b):rt X Rt y≠some b:=by unfold sO at h;simp only[kr]at h;have:=h.1.1;rw[hb]at this;simpa using this
theorem Ew{x y:Oper}(h:sO X Rt Bt x y=false){d:Nat}(hd:x.dst=some d)(hL:X.L.contains d=true):rt X Rt y≠some d:=by unfold sO at h;simp only[kr]at h;have:=h.1.2;rw[hd]at this;simp only[hL,Bool.true_and]at this;simpa using this
theorem Ex{x y:Oper}(h:sO X Rt Bt x y=false)(hw:mz X Rt x=true):(pN X Rt y=false∨(soft Bt y=true∧wI x=true))∧mz X Rt y=false:=by
 unfold sO at h;simp only[kr]at h;have:=h.2;rw[hw]at this;simp only[Bool.true_and,kr]at this;refine⟨?_,this.2⟩;cases hr:pN X Rt y
 ·exact .inl rfl
 ·have h2:=this.1;rw[hr,Bool.true_and,Bool.not_eq_false']at h2;exact .inr (by simpa using h2)
theorem aao{x:Oper}{a:Operand}(h:kT x=some a):a∈x.op.operands.toList:=by obtain⟨dst,op,ty,pos,af,g⟩:=x;cases op<;>simp only[kT]at h<;>first|(cases h;done)|(injection h with h;subst h;simp [Op.operands])
theorem acH(h:RI X Rt Bt s){x:Oper}{b:Nat}(hr:rt X Rt x=some b)(hL:X.L.contains b=false):False:=by
 unfold rt at hr;split at hr
 ·rename_i a _;cases a with
  |tmp t=>
   simp only[tI]at hr;cases hc:X.L.contains t
   ·rw[hc]at hr;have:=h.l t b hr;rw[hL]at this;cases this
   ·rw[hc]at hr;simp only[bG,Option.some.injEq]at hr;subst hr;rw[hL]at hc;cases hc
  |_=>simp [tI]at hr
 ·cases hr
theorem Rb{x:Oper}{b:Nat}(h:wb X Rt x=some b):rt X Rt x=some b:=by
 unfold wb at h;split at h
 ·exact h
 ·cases h
theorem QX{τ:Heap}{x y:Oper}(h:tj X Rt Bt ops x y){u:Up}(hu:oV X Rt Bt y (y.looksAt ops) τ u)(s:AS)(hs:RI X Rt Bt s)(hτ:u.σ≠none→mE s.σ τ):Ax X Rt Bt ops x s (u.ap s):=by
 intro tag ht;have hnd:∀t,t∈x.looksAt ops→u.d≠some t:=λt ht e=>by rw[hu.d]at e;exact h.dy t e ht
 refine⟨hs,hu.ri hs,λt K9 hL=>?_,λt SF=>?_,λb hb=>?_,λhr yG=>?_,λhr yG=>?_⟩
 ·exact(JH (hnd t K9) (λb v hb e=>by have:=(hu.bx b v hb).1;rw[←e,hL]at this;cases this)).symm
 ·have K9:t∈x.looksAt ops:=BH (aao SF);simp only[place];cases hL:X.L.contains t
  ·simp only[aV];show _=match u.A s.A t with|some p=>_|none=>none
   unfold Up.A;cases hd:u.d with
   |none=>rfl
   |some d=>
    have K8:(t==d)=false:=by simp only[beq_eq_false_iff_ne];intro e;exact hnd t K9 (by rw[hd,e])
    simp only[K8,aV];cases hA:s.A t with
    |none=>rfl
    |some p=>
     have uX:tI X Rt (.tmp t)=some p.slot:=by simp only[tI,hL,aV];exact hs.a t p hA
     have hf:l8 u.qN d (some p)=lB d (some p):=by
      cases hi:u.qN with
      |false=>exact Bo d _
      |true=>
       obtain⟨d',hd',hL'⟩:=hu.box hi;have oA:d'=d:=by rw[hu.d]at hd;rw[hd]at hd';injection hd' with e;exact e.symm
       subst oA;unfold l8;cases hk:lB d' (some p)with
       |none=>rfl
       |some q=>
        have hqs:q=p:=by
         simp only[lB]at hk;cases yH:p.tag with
         |none=>rw[yH]at hk;simpa using hk.symm
         |some g=>
          obtain⟨g,w⟩:=g;rw[yH]at hk;simp only at hk;cases hg:(g==d')
          ·rw[hg]at hk;simpa using hk.symm
          ·rw[hg]at hk;cases hk
        subst hqs
        have hne:(q.slot==d')=false:=by
         rw[beq_eq_false_iff_ne];intro e;have:rt X Rt x=some q.slot:=by simp only[rt,SF];exact uX
         exact Ew h.c2 hd' hL' (by rw[this,e])
        simp only[hne,Bool.and_false,aV]
     rw[hf];simp only[lB];cases yH:p.tag with
     |none=>simp only[yH]
     |some gw=>
      obtain⟨g,w⟩:=gw;simp only;cases hgd:(g==d)
      ·simp only[aV,yH]
      ·simp only[bG];have ab6:g=d:=by simpa using hgd
       have:(tag==some (g,w))=false:=by rw[beq_eq_false_iff_ne];intro e;exact hnd g (ht g w e) (by rw[hd,ab6])
       rw[this];cases X.L.contains p.slot<;>rfl
  ·rfl
 ·refine(JH (λe=>?_) (λb' v hb' e=>?_)).symm
  ·rw[hu.d]at e
   have hLb:X.L.contains b=true:=by
    cases hc:X.L.contains b with
    |true=>rfl
    |false=>exfalso;exact acH hs hb hc
   exact Ew h.c2 e hLb hb
  ·exact O8 h.c2 (hu.bx b' v hb').2 (by rw[←e];exact hb)
 ·show s.σ=u.σ.getD s.σ;cases hs':u.σ with
  |none=>rfl
  |some σ=>
   rcases(Ex h.c2 (hu.σ (by rw[hs'];intro e;cases e))).1 with this|⟨this,_⟩
   ·rw[hr]at this;cases this
   ·rw[yG]at this;cases this
 ·show mE s.σ (u.σ.getD s.σ);cases hs':u.σ with
  |none=>exact w8 _
  |some σ=>
   rcases(Ex h.c2 (hu.σ (by rw[hs'];intro e;cases e))).1 with this|⟨_,hf⟩
   ·rw[hr]at this;cases this
   ·exact λid cs=>(hτ (by rw[hs'];intro e;cases e) id cs).trans (hu.fr hf σ hs' id cs)
theorem YY{τ Dl:Heap}{x y:Oper}(h:tj X Rt Bt ops x y){u v:Up}(hu:oV X Rt Bt x (x.looksAt ops) τ u)(hv:oV X Rt Bt y (y.looksAt ops) Dl v):u.QF v:=by
 have half:∀{τ Dl:Heap}{x y:Oper}{u v:Up},tj X Rt Bt ops x y→oV X Rt Bt x (x.looksAt ops) τ u→oV X Rt Bt y (y.looksAt ops) Dl v→(∀b a,u.bx=some (b,a)→(∀c a',v.bx=some (c,a')→c≠b)∧v.d≠some b)∧(∀d,v.d=some d→l8 v.qN d u.new=u.new):=by
  intro τ Dl x y u v h hu hv;refine⟨λb a hb=>?_,λd hd=>?_⟩
  ·obtain⟨k1,k2⟩:=hu.bx b a hb;refine⟨λc a' hc e=>?_,λe=>?_⟩
   ·have:=(hv.bx c a' hc).2;subst e;exact O8 h.c1 k2 (Rb this)
   ·rw[hv.d]at e;exact Ew h.c2 e k1 (Rb k2)
  ·cases hn:u.new with
   |none=>rfl
   |some p=>
    obtain⟨k1,k2,k3,k4⟩:=hu.new p hn
    have hkt:lB d (some p)=some p:=by
     simp only[lB];cases yH:p.tag with
     |none=>rfl
     |some gw=>
      obtain⟨g,w⟩:=gw;simp only
      have:(g==d)=false:=by rw[beq_eq_false_iff_ne];intro e;rw[hv.d]at hd;exact h.dy d hd (e▸k2 g w yH)
      rw[this];rfl
    unfold l8;rw[hkt];simp only;cases hi:v.qN with
    |false=>rfl
    |true=>
     obtain⟨d',hd',hL'⟩:=hv.box hi;have oA:d'=d:=by rw[hv.d]at hd;rw[hd]at hd';injection hd' with e;exact e.symm
     subst oA
     have:(p.slot==d')=false:=by rw[beq_eq_false_iff_ne];intro e;exact Ew h.c2 hd' hL' (by rw[k3,e])
     simp only[this,Bool.and_false,aV]
 obtain⟨a1,a2⟩:=half h hu hv;obtain⟨b1,b2⟩:=half h.symm hv hu;refine⟨λd hd e=>?_,a1,b1,a2,b2,?_⟩
 ·rw[hu.d]at hd;rw[hv.d]at e;exact h.dd d hd e
 ·cases hs:u.σ with
  |none=>exact .inl rfl
  |some σ=>
   right;have hw:=hu.σ (by rw[hs];intro e;cases e);have SQ:=(Ex h.c1 hw).2;cases hs2:v.σ with
   |none=>rfl
   |some σ2=>rw[hv.σ (by rw[hs2];intro e;cases e)]at SQ;cases SQ
theorem NV{o:Oper}{k:AS→Option R}{r:R}(ho:pg X Rt Bt o):∀(l1 l2:List Oper)(s:AS),RI X Rt Bt s→(∀y∈l1,pg X Rt Bt y)→(∀y∈l1,tj X Rt Bt ops y o)→oa X true ops (l1++o::l2) s k=some r→jJ X true ops o s (λs1=>oa X true ops (l1++l2) s1 k)=some r
 |[],l2,s,_,_,_,h=>h
 |y::l1,l2,s,hs,hr,hi,h=>by
  simp only[l6,oa]at h;obtain⟨u,u1,u2,u3⟩:=Jm (hr y (by simp)) hs h;have ih:=NV ho l1 l2 (u.ap s) (u1.ri hs) (λz hz=>hr z (by simp [hz])) (λz hz=>hi z (by simp [hz])) u2;obtain⟨v,v1,v2,v3⟩:=Jm ho (u1.ri hs) ih;have hy:=hi y (by simp)
  have SH:v.σ≠none→mE s.σ (u.ap s).σ:=λhv=>by
   have hnu:u.σ=none:=by
    cases hu:u.σ with
    |none=>rfl
    |some σ=>have hw:=(Ex hy.c1 (u1.σ (by rw[hu];intro e;cases e))).2;rw[v1.σ hv]at hw;cases hw
   show mE s.σ (u.σ.getD s.σ);rw[hnu];exact w8 _
  rw[v3 R _ s (QX hy.symm u1 s hs (λ_=>w8 _)).symm];simp only[l6,oa];rw[u3 R _ (v.ap s) (QX hy v1 s hs SH),Up.comm (YY hy u1 v1)];exact v2
def Down(ops:Array Oper)(S:Nat→Prop):Prop:=∀i o e,S i→ops[i]? =some o→e∈o.after→Region.binds .any e=true→S e.on
def Fa(ops:Array Oper)(i:Nat)(S:Nat→Prop):Prop:=∀o e,ops[i]? =some o→e∈o.after→Region.binds .any e=true→S e.on
theorem OA(acc:List Nat):∀(es:List Edge)(m j:Nat),(es.foldl (λs e=>bif Region.binds .any e then s ||| 2 ^ e.on ||| acc.getD e.on 0 else s) m).testBit j=true→
  m.testBit j=true∨∃e∈es,Region.binds .any e=true∧(e.on=j∨(acc.getD e.on 0).testBit j=true)
 |[],m,j,h=>.inl h
 |e::es,m,j,h=>by
  simp only[List.foldl_cons]at h;rcases OA acc es _ j h with h|⟨e',he',hb,hx⟩
  ·cases hb:Region.binds .any e
   ·rw[hb]at h;exact .inl h
   ·rw[hb]at h;simp only[bG,Nat.testBit_or,Bool.or_eq_true]at h;rcases h with(h|h)|h
    ·exact .inl h
    ·refine .inr ⟨e,by simp,hb,.inl ?_⟩;rw[Nat.testBit_two_pow]at h;simpa using h
    ·exact .inr ⟨e,by simp,hb,.inr h⟩
  ·exact .inr ⟨e',by simp [he'],hb,hx⟩
theorem Oi:∀(l:List Oper)(acc:List Nat),(∀i,l[i]? =ops[acc.length+i]?)→
  (∀(m j:Nat),(acc.getD m 0).testBit j=true→∀S,Down ops S→Fa ops m S→S j)→
  ∀(m j:Nat),((EV l acc).getD m 0).testBit j=true→∀S,Down ops S→Fa ops m S→S j
 |[],acc,hl,hacc=>hacc
 |o::l,acc,hl,hacc=>by
  simp only[EV];refine Oi l _ (λi=>by have:=hl (i+1);simp at this;rw[this];simp;congr 1;omega) ?_;intro m j h S hS hD;have h0:=hl 0;simp at h0;by_cases hm:m<acc.length
  ·rw[List.getD,fE hm]at h;exact hacc m j h S hS hD
  ·by_cases hm2:m=acc.length
   ·subst hm2;rw[List.getD,fV (ay _)]at h;simp only[Nat.sub_self,List.getElem?_cons_zero,Option.getD_some]at h;rcases OA acc _ _ j h with h|⟨e,he,hb,hx⟩
    ·simp at h
    ·have AN:S e.on:=hD o e h0.symm (by simpa using he) hb;rcases hx with hx|hx
     ·exact hx▸AN
     ·exact hacc e.on j hx S hS (λo' e' ho' he' hb'=>hS e.on o' e' AN ho' he' hb')
   ·rw[List.getD,fV (by omega),ku (by simp;omega)]at h;simp at h
theorem M9{Cq:List Nat}:∀(l:List Oper)(i:Nat),(∀j,l[j]? =ops[i+j]?)→EC X Rt Bt ops Cq l i=true→∀n o,i≤n→ops[n]? =some o→∀m y,m<n→ops[m]? =some y→(Cq.getD n 0).testBit m=true∨indep X Rt Bt ops y o=true
 |[],i,hl,_,n,o,hn,ho,m,y,hm,hy=>by have:=hl (n-i);rw[show i+(n-i)=n by omega,ho]at this;simp at this
 |x::l,i,hl,h,n,o,hn,ho,m,y,hm,hy=>by
  simp only[EC,eH]at h;by_cases hni:n=i
  ·subst hni;have h0:=hl 0;simp at h0;rw[ho]at h0;injection h0 with h0;subst h0
   have:=nZ.1 h.1 (y,m) (by
    rw[List.mem_zipIdx_iff_getElem?];simp only;rw[List.getElem?_take_of_lt hm,Array.getElem?_toList]
    exact hy)
   simpa using this
  ·exact M9 l (i+1) (λj=>by have:=hl (j+1);simp at this;rw[this];congr 1;omega) h.2 n o (by omega) ho m y hm hy
theorem Nr:∀(l:List Oper)(i:Nat),(∀j,l[j]? =ops[i+j]?)→EH l i=true→∀n o e,i≤n→ops[n]? =some o→e∈o.after→Region.binds .any e=true→e.on<n
 |[],i,hl,_,n,o,e,hn,ho,he,hb=>by have:=hl (n-i);rw[show i+(n-i)=n by omega,ho]at this;simp at this
 |x::l,i,hl,h,n,o,e,hn,ho,he,hb=>by
  simp only[EH,eH]at h;by_cases hni:n=i
  ·subst hni;have h0:=hl 0;simp at h0;rw[ho]at h0;injection h0 with h0;subst h0
   have:=nZ.1 h.1 e (by simpa using he);rw[hb]at this;simpa [Nat.blt_eq]using this
  ·exact Nr l (i+1) (λj=>by have:=hl (j+1);simp at this;rw[this];congr 1;omega) h.2 n o e (by omega) ho he hb
def mN(listed:Array Bool)(n:Nat):List Nat:=(List.range n).filter λi=>!listed.getD i true
def uA(ops:Array Oper)(listed:Array Bool):List Oper:=(mN listed ops.size).filterMap (ops[·]?)
theorem WJ{listed:Array Bool}{n i:Nat}(hi:i<n)(hl:listed.getD i true=false)(hs:listed.size=n):
  ∃l1 l2,mN listed n=l1++i::l2∧mN (listed.setIfInBounds i true) n=l1++l2∧∀j∈l1,j<i∧listed.getD j true=false:=by
 refine⟨(List.range i).filter λj=>!listed.getD j true,((List.range' (i+1) (n-i-1))).filter λj=>!listed.getD j true,?_,?_,λj hj=>?_⟩
 ·unfold mN
  rw[show List.range n=List.range i++i::List.range' (i+1) (n-i-1) by
   rw[List.range_eq_range',List.range_eq_range',←List.range'_succ,show n-i-1+1=n-i by omega];have:=List.range'_append_1 (s:=0) (m:=i) (n:=n-i);rw[show 0+i=i by omega,show i+(n-i)=n by omega]at this
   exact this.symm]
  rw[List.filter_append,List.filter_cons,hl];simp
 ·unfold mN
  rw[show List.range n=List.range i++i::List.range' (i+1) (n-i-1) by
   rw[List.range_eq_range',List.range_eq_range',←List.range'_succ,show n-i-1+1=n-i by omega];have:=List.range'_append_1 (s:=0) (m:=i) (n:=n-i);rw[show 0+i=i by omega,show i+(n-i)=n by omega]at this
   exact this.symm]
  rw[List.filter_append,List.filter_cons];have nA:(listed.setIfInBounds i true).getD i true=true:=by simp [Array.getD,hs,hi]
  rw[nA];simp only[Bool.not_true,Bool.false_eq_true,if_false];congr 1
  ·apply List.filter_congr;intro j hj;have:j<i:=by simpa using hj
   rw[kO,kO,Array.getElem?_setIfInBounds_ne (by omega)]
  ·apply List.filter_congr;intro j hj;have:i<j:=by simp at hj;omega
   rw[kO,kO,Array.getElem?_setIfInBounds_ne (by omega)]
 ·rw[List.mem_filter]at hj;exact⟨by simpa using hj.1,by simpa using hj.2⟩
end
end
section
open Go.RowKit
section
variable {X : Fx} {z : Z} {s : AS} {a : Act} {w w' : World} {E : List Pl} {pb : Nat → Option Nat} {R : Type}
theorem Es(h:St X z s a w E pb){d:Nat}{av:AV}(yA:s.sl.getD d .undef=av)(h1:av≠.undef)(h2:∀cs,av≠.lbx cs):∃v,a.tmps[d]? =some v∧a.tmps.getD d undef=v∧ak (ctx z w E pb) av v:=by
 by_cases hd:d<s.sl.length
 ·have e:s.sl[d]? =some av:=by rw[cI hd];rw[←yA];simp [List.getD,hd]
  have r:=(h.slot d av e).rep h2;have hd':d<a.tmps.size:=by rw[h.len];exact hd
  exact⟨a.tmps.getD d undef,by simp [Array.getD,hd'],rfl,r⟩
 ·exact absurd (by rw[←yA];simp [List.getD,Nat.le_of_not_lt hd]) h1
theorem aaR(hs:dB X)(h:St X z s a w E pb){q:Bool}{ops:Array Oper}{i:Nat}{o:Oper}(hi:ops[i]? =some o){k:AS→Option R}{r:R}(hk:jJ X q ops o s k=some r){K:Act→World→Prop}{Q:Exit→Act→World→Prop}
  (hK:∀s' a' w' E' bw,St X z s' a' w' E' bw→k s'=some r→K a' w'):wpOp X.P ops Q i K a w:=by
 unfold wpOp;rw[hi];simp only;unfold jJ at hk;cases hg:o.guard with
 |none=>rw[hg]at hk;rw[aK (by simp [Region.wanted,hg])];exact .inl (Qp hs h hk hK)
 |some jw=>
  obtain⟨j,want⟩:=jw;rw[hg]at hk;simp only at hk;cases hd:(ops[j]?).bind (·.dst)with
  |none=>rw[hd]at hk;cases hk
  |some d=>
   rw[hd]at hk;simp only at hk;cases hL:BF X o d
   ·rw[hL]at hk;simp only[aV]at hk;have vQ:Region.wanted o (yielded ops a.tmps)=(yielded ops a.tmps j==some want):=by simp [Region.wanted,hg]
    have hy:yielded ops a.tmps j=match a.tmps[d]? with|some (.bool b)=>some b|_=>none:=by simp only[yielded,hd,aQ];rfl
    cases nH:Ak X o with
    |some fa=>
     obtain⟨f,as'⟩:=fa;rw[nH]at hk;simp only at hk;obtain⟨rv,e1,e2⟩:=bg.1 hk;generalize iw:s.sl.getD d .undef=gv at e1;cases gv<;>simp only[A.guard]at e1<;>first|(cases e1;done)|skip
     case bool b=>
      obtain⟨v,v1,v2,v3⟩:=Es h iw (by intro e;cases e) (by intro cs e;cases e);simp only[ak]at v3;subst v3;cases rC:(b==want)
      ·rw[rC]at e1;simp only[aV]at e1;injection e1 with e1;subst e1
       have hw:¬Region.wanted o (yielded ops a.tmps)=true:=by rw[vQ,hy,v1];simp at rC ⊢;exact rC
       rw[aI hw];exact hK _ _ _ _ _ (h.undef o.dst) e2
      ·rw[rC]at e1;simp only[bG]at e1;have Fi:b=want:=by simpa using rC
       have hw:Region.wanted o (yielded ops a.tmps)=true:=by rw[vQ,hy,v1];simp [Fi]
       rw[aK hw];exact .inl (Qp (q:=q) hs h (by rw[Iu nH,e1];exact e2) hK)
     case aD vs=>
      cases vs with
      |cons x xs=>cases e1
      |nil=>
       injection e1 with e1;subst e1
       obtain⟨v,v1,v2,v3⟩:=Es h iw (by intro e;cases e) (by intro cs e;cases e);simp only[ak]at v3;obtain⟨us,rfl,_⟩:=v3;have hw:¬Region.wanted o (yielded ops a.tmps)=true:=by rw[vQ,hy,v1];simp
       rw[aI hw];exact hK _ _ _ _ _ (h.undef o.dst) e2
    |none=>
    rw[nH]at hk;simp only at hk;cases hp:gB X o s (some (d,want))with
    |some p=>
     obtain⟨b,rr⟩:=p;rw[hp]at hk;simp only at hk;obtain⟨off,e1,e2⟩:=bg.1 hk;subst e1;by_cases hw:Region.wanted o (yielded ops a.tmps)=true
     ·rw[aK hw]
      have ht:mH a (some (d,want)):=by
       rw[vQ,hy]at hw;simp only[mH];split at hw
       ·rename_i b' hb';simp at hw;subst hw;rw[kO,hb'];rfl
       ·simp at hw
      obtain⟨n,k1,k2⟩:=Qs h ht hp;exact .inl (mD k2 (hK _ _ _ _ _ (h.JP o.dst (λ_=>⟨n,k1,rfl⟩)) e2))
     ·rw[aI hw];refine hK _ _ _ _ _ (h.JP o.dst (λht=>absurd ?_ hw)) e2;rw[vQ,hy];simp only[mH]at ht;rw[kO]at ht;cases hc:a.tmps[d]? with
      |none=>rw[hc]at ht;simp [undef]at ht
      |some v=>rw[hc]at ht;simp at ht;subst ht;simp
    |none=>
     rw[hp]at hk;simp only at hk;obtain⟨av,e1,e2⟩:=bg.1 hk;generalize iw:s.sl.getD d .undef=gv at e1;cases gv<;>simp only[A.guard]at e1<;>first|(cases e1;done)|skip
     case bool b=>
      obtain⟨v,v1,v2,v3⟩:=Es h iw (by intro e;cases e) (by intro cs e;cases e);simp only[ak]at v3;subst v3;cases rC:(b==want)
      ·rw[rC]at e1;simp only[aV]at e1;injection e1 with e1;subst e1
       have hw:¬Region.wanted o (yielded ops a.tmps)=true:=by rw[vQ,hy,v1];simp at rC ⊢;exact rC
       rw[aI hw];exact hK _ _ _ _ _ (h.undef o.dst) e2
      ·rw[rC]at e1;simp only[bG]at e1;have Fi:b=want:=by simpa using rC
       have hw:Region.wanted o (yielded ops a.tmps)=true:=by rw[vQ,hy,v1];simp [Fi]
       rw[aK hw];have ht:mH a (some (d,want)):=by simp only[mH];rw[v2,Fi]
       exact .inl (Qt hs h ht e1 λv w' E' h3 h4=>hK _ _ _ _ _ (h3.put o.dst h4) e2)
     case aD vs=>
      cases vs with
      |cons x xs=>cases e1
      |nil=>
       injection e1 with e1;subst e1
       obtain⟨v,v1,v2,v3⟩:=Es h iw (by intro e;cases e) (by intro cs e;cases e);simp only[ak]at v3;obtain⟨us,rfl,_⟩:=v3;have hw:¬Region.wanted o (yielded ops a.tmps)=true:=by rw[vQ,hy,v1];simp
       rw[aI hw];exact hK _ _ _ _ _ (h.undef o.dst) e2
   ·rw[hL]at hk;cases hk
def Fr(X:Fx)(ds:List Nat)(s s':AS):Prop:=∀i,i∉ds→X.L.contains i=false→s'.sl[i]? =s.sl[i]?
theorem Fr.refl(ds:List Nat)(s:AS):Fr X ds s s:=λ_ _ _=>rfl
theorem Fr.trans{d1 d2:List Nat}{s s' s'':AS}(h:Fr X d1 s s')(k:Fr X d2 s' s''):Fr X (d1++d2) s s'':=λi hi hL=>by rw[eN]at hi;exact(k i (λe=>hi (.inr e)) hL).trans (h i (λe=>hi (.inl e)) hL)
theorem Fr.mono{d1 d2:List Nat}{s s':AS}(h:Fr X d1 s s')(k:∀i∈d1,i∈d2):Fr X d2 s s':=λi hi hL=>h i (λe=>hi (k i e)) hL
theorem Fr.put(d:Option Nat)(v:AV)(s:AS):Fr X d.toList s (s.put X d v):=λi hi hL=>by
 cases d with
 |none=>rfl
 |some d=>simp only[AS.put];rw[eW,aI];intro e;subst e;simp at hi
theorem Fr.jB(d:Option Nat)(b off:Nat)(tag:Option (Nat×Bool))(s:AS):Fr X d.toList s (s.jB X d b off tag):=λi hi hL=>by
 cases d with
 |none=>rfl
 |some d=>simp only[AS.jB];rw[eW,aI];intro e;subst e;simp at hi
theorem Fr.lD(d:Nat)(cs:List AV)(s:AS):Fr X [d] s (s.lD d cs):=λi hi hL=>by simp only[AS.lD];rw[eW,aI];intro e;subst e;simp at hi
theorem Fr.lS(d:Option Nat)(v:AV)(σ:Heap)(s:AS):Fr X d.toList s ((s.heap σ).put X d v):=λi hi hL=>by
 cases d with
 |none=>rfl
 |some d=>simp only[AS.put,AS.heap];rw[eW,aI];intro e;subst e;simp at hi
theorem Fr.aaq(d:Option Nat)(v:AV)(b:Nat)(cs:List AV)(hb:X.L.contains b=true)(s:AS):Fr X d.toList s ((⟨s.sl.set b (.lbx cs),s.A,s.σ⟩:AS).put X d v):=λi hi hL=>by
 have SI:b≠i:=λe=>by rw[e,hL]at hb;cases hb
 cases d with
 |none=>simp only[AS.put];rw[eW,aI SI]
 |some d=>simp only[AS.put];rw[eW,aI,eW,aI SI];intro e;subst e;simp at hi
theorem ZX{tag:Option (Nat×Bool)}{x:Operand}{b off:Nat}(h:place X s tag x=some (b,off)):X.L.contains b=true:=by
 cases x with
 |tmp t=>
  simp only[place]at h;cases hL:X.L.contains t
  ·rw[hL]at h;simp only[aV]at h;split at h
   ·rename_i p hA;cases hp:X.L.contains p.slot
    ·rw[hp]at h;cases h
    ·rw[hp]at h;simp only[bG]at h;split at h
     ·simp only[Option.some.injEq,Prod.mk.injEq]at h;rw[←h.1];exact hp
     ·rename_i g hg;cases ht:(tag==some g)
      ·rw[ht]at h;cases h
      ·rw[ht]at h;simp only[bG,Option.some.injEq,Prod.mk.injEq]at h;rw[←h.1];exact hp
   ·cases h
  ·rw[hL]at h;simp only[bG,Option.some.injEq,Prod.mk.injEq]at h;rw[←h.1];exact hL
 |_=>simp [place]at h
theorem bind_congr{α β:Type}{x:Option α}{f g:α→Option β}(h:∀a,x=some a→f a=g a):x.bind f=x.bind g:=by cases x with|none=>rfl|some a=>exact h a rfl
theorem Wm{x:AV}{σ:Heap}{f g:Nat→Heap→Option R}(h:∀n σ,f n σ=g n σ):A.vV x σ f=A.vV x σ g:=by
 have:f=g:=funext λn=>funext λσ=>h n σ
 rw[this]
theorem VU{x:AV}{σ:Heap}{f g:AV→Heap→Option R}(h:∀v σ,f v σ=g v σ):A.vR x σ f=A.vR x σ g:=by
 have:f=g:=funext λn=>funext λσ=>h n σ
 rw[this]
theorem WC{q str:Bool}{i:Operand}{dst:Option Nat}{k k2:AS→Option R}(h:∀s',Fr X dst.toList s s'→k s'=k2 s'):
  (bif q||str then none else A.vR (ev X s i) s.σ λv σ=>k ((s.heap σ).put X dst v))=(bif q||str then none else A.vR (ev X s i) s.σ λv σ=>k2 ((s.heap σ).put X dst v)):=by
 cases(q||str)
 ·simp only[aV];exact VU λ_ _=>h _ (Fr.lS _ _ _ _)
 ·rfl
theorem XI{q:Bool}{o:Oper}{k k2:AS→Option R}(h:∀s',Fr X o.dst.toList s s'→k s'=k2 s'):eo X q o s k=eo X q o s k2:=by
 unfold eo;cases hp:gB X o s none with
 |some p=>obtain⟨b,rr⟩:=p;exact bind_congr λp _=>h _ (Fr.jB _ _ _ _ _)
 |none=>
  simp only;have dflt:((dO X o s none).bind λv=>k (s.put X o.dst v))=(dO X o s none).bind λv=>k2 (s.put X o.dst v):=bind_congr λv _=>h _ (Fr.put _ _ _)
  obtain⟨dst,op,ty,pos,af,g⟩:=o;cases op<;>simp only<;>first|exact WC h|exact dflt|skip
  case alloc t=>
   cases dst with
   |none=>rfl
   |some d=>
    simp only;cases X.L.contains d
    ·simp only[aV];cases X.O.contains d
     ·exact dflt
     ·simp only[bG];split
      ·exact h _ (Fr.lS _ _ _ _)
      ·rfl
    ·simp only[bG];split
     ·exact h _ (Fr.lD _ _ _)
     ·rfl
  case box t x=>
   cases dst with
   |none=>rfl
   |some d=>
    simp only;cases X.L.contains d
    ·simp only[aV];cases X.O.contains d
     ·exact dflt
     ·exact bind_congr λcs _=>h _ (Fr.lS _ _ _ _)
    ·exact bind_congr λcs _=>h _ (Fr.lD _ _ _)
  case store t x v=>
   split
   ·rename_i b off hpl;exact bind_congr λ_ _=>bind_congr λ_ _=>bind_congr λ_ _=>h _ (Fr.aaq _ _ _ _ (ZX hpl) _)
   ·exact bind_congr λ_ _=>bind_congr λ_ _=>h _ (Fr.lS _ _ _ _)
  case makeMap t rr=>
   cases rr with
   |none=>exact h _ (Fr.lS _ _ _ _)
   |some x=>rfl
  case range t x=>
   split
   ·exact bind_congr λ_ _=>h _ (Fr.lS _ _ _ _)
   ·rfl
  case buildSlice t n ps=>
   cases dst with
   |none=>exact dflt
   |some d=>
    simp only;cases X.O.contains d
    ·exact dflt
    ·simp only[bG];refine bind_congr λv _=>?_
     unfold A.As;split
     ·cases(List.length _==0)
      ·exact h _ (Fr.lS _ _ _ _)
      ·rfl
     ·rfl
  case mapUpdate t m i v=>
   split
   ·split
    ·exact bind_congr λ_ _=>h _ (Fr.lS _ _ _ _)
    ·rfl
   ·rfl
  case call c=>
   split
   ·split
    ·split
     ·split
      ·cases kn _
       ·exact bind_congr λ_ _=>h _ (Fr.lS _ _ _ _)
       ·rfl
      ·rfl
     ·split
      ·cases kn _
       ·exact bind_congr λ_ _=>h _ (Fr.lS _ _ _ _)
       ·rfl
      ·rfl
     ·rfl
    ·rfl
   ·split
    ·split
     ·split
      ·cases kn _
       ·exact bind_congr λ_ _=>h _ (Fr.lS _ _ _ _)
       ·rfl
      ·rfl
     ·rfl
    ·rfl
   ·cases hv:dO X _ s none
    ·simp only[A.vU];cases q
     ·simp only[aV];split
      ·split
       ·exact Wm λ_ _=>h _ (Fr.lS _ _ _ _)
       ·rfl
      ·rfl
     ·rfl
    ·exact h _ (Fr.put _ _ _)
   ·split
    ·split
     ·split
      ·cases kn _
       ·exact bind_congr λ_ _=>h _ (Fr.lS _ _ _ _)
       ·rfl
      ·rfl
     ·rfl
    ·rfl
   ·split
    ·split
     ·split
      ·exact bind_congr λ_ _=>h _ (Fr.lS _ _ _ _)
      ·rfl
     ·rfl
    ·rfl
   ·exact dflt
   ·cases(q&&!X.W.contains _)
    ·exact bind_congr λ_ _=>h _ (Fr.lS _ _ _ _)
    ·exact dflt
   ·cases q
    ·exact bind_congr λ_ _=>h _ (Fr.lS _ _ _ _)
    ·exact dflt
   ·rfl
theorem XJ{q:Bool}{ops:Array Oper}{o:Oper}{k k2:AS→Option R}(h:∀s',Fr X o.dst.toList s s'→k s'=k2 s'):jJ X q ops o s k=jJ X q ops o s k2:=by
 unfold jJ;split
 ·exact XI h
 ·split
  ·cases BF X o _
   ·simp only[aV];split
    ·exact bind_congr λ_ _=>h _ (Fr.lS _ _ _ _)
    ·split
     ·exact bind_congr λ_ _=>h _ (Fr.jB _ _ _ _ _)
     ·exact bind_congr λ_ _=>h _ (Fr.put _ _ _)
   ·rfl
  ·rfl
theorem PC(hs:dB X)(h:St X z s a w E pb){q:Bool}{ops:Array Oper}{i:Nat}{o:Oper}(hi:ops[i]? =some o){k:AS→Option R}{r:R}(hk:jJ X q ops o s k=some r){K:Act→World→Prop}{Q:Exit→Act→World→Prop}
  (hK:∀s' a' w' E' bw,St X z s' a' w' E' bw→Fr X o.dst.toList s s'→k s'=some r→K a' w'):wpOp X.P ops Q i K a w:=by
 classical
 have e:jJ X q ops o s k=jJ X q ops o s (λs'=>if Fr X o.dst.toList s s' then k s' else none):=XJ λs' hf=>by rw[aK hf]
 rw[e]at hk;refine aaR hs h hi hk λs' a' w' E' bw h' hk'=>?_
 split at hk'
 ·exact hK s' a' w' E' bw h' (by assumption) hk'
 ·cases hk'
theorem PF(hs:dB X){q:Bool}{ops:Array Oper}{Q:Exit→Act→World→Prop}{r:R}{k:AS→Option R}{s0:AS}:
  ∀(l:List Oper)(i:Nat)(s:AS)(a:Act)(w:World)(E:List Pl)(pb:Nat→Option Nat),(∀j,l[j]? =ops[i+j]?)→St X z s a w E pb→oa X q ops l s k=some r→
   (∀s' a' w' E' bw,St X z s' a' w' E' bw→Fr X (l.filterMap (·.dst)) s s'→k s'=some r→Q .normal a' w')→wpOps X.P ops Q (List.range' i l.length) a w
 |[],i,s,a,w,E,pb,_,h,hk,hQ=>by simpa [wpOps]using hQ _ _ _ _ _ h (Fr.refl _ _) hk
 |o::l,i,s,a,w,E,pb,hl,h,hk,hQ=>by
  have h0:=hl 0;simp at h0;simp only[List.length_cons,List.range'_succ];rw[wpOps_cons];refine PC hs h h0.symm hk λs' a' w' E' bw h' hf hk'=>?_
  refine PF hs (s0:=s0) l (i+1) s' a' w' E' bw (λj=>by have:=hl (j+1);simp at this;rw[this];congr 1;omega) h' hk' λs2 a2 w2 E2 Lo h2 yD hk2=>hQ s2 a2 w2 E2 Lo h2 ((hf.trans yD).mono ?_) hk2
  intro j hj;rw[List.filterMap_cons];cases hd:o.dst with
  |none=>rw[hd]at hj;simpa using hj
  |some d=>rw[hd]at hj;simpa using hj
theorem ZT(hs:dB X){Rt:List (Nat×Nat)}{Bt:List Nat}(h:St X z s a w E pb)(hI:RI X Rt Bt s){ops:Array Oper}{i:Nat}{o:Oper}(hR:pg X Rt Bt o)(hi:ops[i]? =some o){k:AS→Option R}{r:R}(hk:jJ X true ops o s k=some r){K:Act→World→Prop}{Q:Exit→Act→World→Prop}
  (hK:∀s' a' w' E' bw,St X z s' a' w' E' bw→Fr X o.dst.toList s s'→RI X Rt Bt s'→k s'=some r→K a' w'):wpOp X.P ops Q i K a w:=by
 classical
 have e:jJ X true ops o s (λs'=>if RI X Rt Bt s' then k s' else none)=some r:=by obtain⟨u,h1,h2,h3⟩:=Jm hR hI hk;rw[h3 R _ s (λtag _=>⟨hI,hI,λ_ _ _=>rfl,λ_ _=>rfl,λ_ _=>rfl,λ_ _=>rfl,λ_ _=>w8 _⟩),aK (h1.ri hI)];exact h2
 refine PC hs h hi e λs' a' w' E' bw h' hf hk'=>?_
 split at hk'
 ·exact hK s' a' w' E' bw h' hf (by assumption) hk'
 ·cases hk'
theorem Yj(hs:dB X){Rt:List (Nat×Nat)}{Bt:List Nat}{ops:Array Oper}{Q:Exit→Act→World→Prop}{r:R}{k:AS→Option R}{s0:AS}(Ju:∀n o e,ops[n]? =some o→e∈o.after→Region.binds .any e=true→e.on<n)
  (abp:∀n o m y,ops[n]? =some o→m<n→ops[m]? =some y→(∀S,Down ops S→Fa ops n S→S m)∨tj X Rt Bt ops y o) (JU:∀(n:Nat)(o:Oper),ops[n]? =some o→pg X Rt Bt o)
  (hQ:∀s' a' w' E' bw,St X z s' a' w' E' bw→Fr X (ops.toList.filterMap (·.dst)) s0 s'→k s'=some r→Q .normal a' w'):
  ∀(fuel:Nat)(listed:Array Bool)(s:AS)(a:Act)(w:World)(E:List Pl)(pb:Nat→Option Nat),listed.size=ops.size→(mN listed ops.size).length≤fuel→Down ops (λi=>listed.getD i true=true)→St X z s a w E pb→RI X Rt Bt s→oa X true ops (uA ops listed) s k=some r→Fr X (ops.toList.filterMap (·.dst)) s0 s→
   wpAny X.P .any ops Q fuel listed a w:=by
 have hnone:∀(listed:Array Bool),mN listed ops.size=[]→Region.ready .any ops listed=[]:=by intro listed h;unfold Region.ready;rw[List.filter_eq_nil_iff];intro i hi hr;simp only[eH]at hr;have:i∈mN listed ops.size:=List.mem_filter.2 ⟨hi,hr.1⟩;rw[h]at this;simp at this
 have hsome:∀(listed:Array Bool),listed.size=ops.size→Region.ready .any ops listed=[]→mN listed ops.size=[]:=by
  intro listed hsz hr;cases qV:mN listed ops.size with
  |nil=>rfl
  |cons i0 tl=>
   exfalso;have hm:i0∈mN listed ops.size:=by rw[qV];simp
   obtain⟨h1,h2⟩:=List.mem_filter.1 hm;have hlt:i0<ops.size:=by simpa using h1
   have SU:(mN listed ops.size).Pairwise (·<·):=List.Pairwise.filter _ List.pairwise_lt_range;rw[qV,List.pairwise_cons]at SU
   have hall:∀j,j<i0→listed.getD j true=true:=by
    intro j hj;cases hc:listed.getD j true with
    |true=>rfl
    |false=>
     have:j∈mN listed ops.size:=List.mem_filter.2 ⟨by simp;omega,by simp [hc]⟩;rw[qV]at this;rcases eM.1 this with e|e
     ·omega
     ·have:=SU.1 j e;omega
   have:i0∈Region.ready .any ops listed:=by
    unfold Region.ready;refine List.mem_filter.2 ⟨h1,?_⟩;rw[eH];refine⟨h2,?_⟩;rw[qS hlt];simp only[eO,Option.getD_some];rw[Array.all_eq_true_iff_forall_mem];intro e he;cases hb:Region.binds .any e with
    |false=>rfl
    |true=>have AN:=Ju i0 _ e (qS hlt) he hb;have:=hall e.on AN;rw[kO,qS (by omega)]at this;simp only[Option.getD_some]at this;rw[kO,qS (by omega)];simp [this]
   rw[hr]at this;simp at this
 intro fuel;induction fuel with
 |zero=>intro listed s a w E pb hsz hle hdn h hI hk hf;have qV:mN listed ops.size=[]:=uk (by omega);refine⟨hnone listed qV,hQ s a w E pb h hf ?_⟩;simpa [uA,qV,oa]using hk
 |succ fuel ih=>
  intro listed s a w E pb hsz hle hdn h hI hk hf;refine⟨λhr=>hQ s a w E pb h hf (by simpa [uA,hsome listed hsz hr,oa]using hk),λi hi=>?_⟩;unfold Region.ready at hi;obtain⟨h1,h2⟩:=List.mem_filter.1 hi;rw[eH]at h2;obtain⟨h2,h3⟩:=h2;have hlt:i<ops.size:=by simpa using h1
  have hun:listed.getD i true=false:=by simpa using h2
  have ho:ops[i]? =some ops[i]:=qS hlt
  have Q1:Fa ops i (λj=>listed.getD j true=true):=by intro o e CT he hb;rw[CT]at h3;simp only[eO,Option.getD_some]at h3;rw[Array.all_eq_true_iff_forall_mem]at h3;have h4:=h3 e he;rw[hb]at h4;simp only[Bool.not_true,Bool.false_or]at h4;have AN:=Ju i o e CT he hb;rw[kO,qS (by omega)]at h4;simp only[Option.getD_some]at h4;show listed.getD e.on true=true;rw[kO,qS (by omega)];simpa using h4
  obtain⟨l1,l2,e1,e2,e3⟩:=WJ hlt hun hsz
  have qV:uA ops listed=l1.filterMap (ops[·]?)++ops[i]::l2.filterMap (ops[·]?):=by unfold uA;rw[e1,List.filterMap_append,List.filterMap_cons,ho]
  have abr:uA ops (listed.setIfInBounds i true)=l1.filterMap (ops[·]?)++l2.filterMap (ops[·]?):=by unfold uA;rw[e2,List.filterMap_append]
  rw[qV]at hk
  have acp:∀y∈l1.filterMap (ops[·]?),pg X Rt Bt y:=by intro y hy;obtain⟨j,hj,KZ⟩:=List.mem_filterMap.1 hy;exact JU j y KZ
  have ab9:∀y∈l1.filterMap (ops[·]?),tj X Rt Bt ops y ops[i]:=by
   intro y hy;obtain⟨j,hj,KZ⟩:=List.mem_filterMap.1 hy;obtain⟨j1,j2⟩:=e3 j hj;rcases abp i ops[i] j y ho j1 KZ with k1|k1
   ·have:=k1 _ hdn Q1;rw[j2]at this;cases this
   ·exact k1
  have aaz:=NV (JU i _ ho) _ _ s hI acp ab9 hk;refine ZT hs h hI (JU i _ ho) ho aaz λs' a' w' E' bw h' hf' KP hk'=>?_
  rw[←abr]at hk';refine ih _ s' a' w' E' bw (by simpa using hsz) ?_ ?_ h' KP hk' ((hf.trans hf').mono ?_)
  ·rw[e2];rw[e1]at hle;simp at hle ⊢;omega
  ·intro j o e hj K4 he hb;by_cases hji:j=i
   ·subst hji;have:=Q1 o e K4 he hb;show(listed.setIfInBounds j true).getD e.on true=true;have AN:=Ju j o e K4 he hb;rw[kO,Array.getElem?_setIfInBounds_ne (by omega),←kO];exact this
   ·have hj':listed.getD j true=true:=by replace hj:(listed.setIfInBounds i true).getD j true=true:=hj;rw[kO,Array.getElem?_setIfInBounds_ne (λe=>hji e.symm),←kO]at hj;exact hj
    have:=hdn j o e hj' K4 he hb;show(listed.setIfInBounds i true).getD e.on true=true;by_cases SK:e.on=i
    ·rw[SK];simp [Array.getD,hsz,hlt]
    ·rw[kO,Array.getElem?_setIfInBounds_ne (λe'=>SK e'.symm),←kO];exact this
  ·intro d hd;rcases eN.1 hd with hd|hd
   ·exact hd
   ·refine List.mem_filterMap.2 ⟨ops[i],by simp,?_⟩;cases oA:ops[i].dst with
    |none=>rw[oA]at hd;simp at hd
    |some d'=>rw[oA]at hd;simp at hd;rw[hd]
theorem HH{t b:Nat}:∀{l:List (Nat×Nat)},l.lookup t=some b→(t,b)∈l
 |[],h=>by cases h
 |(t',b')::l,h=>by
  simp only[List.lookup]at h;cases hc:(t==t')
  ·rw[hc]at h;exact um _ (HH h)
  ·rw[hc]at h;simp only[Option.some.injEq]at h;have:t=t':=by simpa using hc
   subst this;subst h;exact List.mem_cons_self
theorem Zi(hs:dB X){ops:Array Oper}{Q:Exit→Act→World→Prop}{r:R}{k:AS→Option R}(hok:BL X ops s.sl=true)(hA:∀t,s.A t=none)(hQ:∀s' a' w' E' bw,St X z s' a' w' E' bw→Fr X (ops.toList.filterMap (·.dst)) s s'→k s'=some r→Q .normal a' w'){id:Nat}
  (h:St X z s a w E pb) (hk:oa X true ops ops.toList s k=some r):(Code.region id ops true).wp X.P Q a w:=by
 obtain⟨Rt,Bt,hok⟩:∃Rt Bt,D9 X Rt Bt ops s.sl=true:=by
  unfold BL at hok;rcases Bool.or_eq_true_iff.1 hok with h|h
  ·exact⟨_,_,h⟩
  ·exact⟨_,_,h⟩
 unfold D9 at hok;simp only[eH]at hok;obtain⟨⟨⟨⟨⟨⟨⟨h1,h2⟩,h3⟩,h4⟩,h5⟩,h6⟩,h7⟩,h8⟩:=hok
 have hI:RI X Rt Bt s:=by
  refine⟨λt b hl=>?_,λt p hp=>(by rw[hA t]at hp;cases hp),λt b hl _=>?_,λt ht=>nZ.1 h8 t (by simpa using ht)⟩
  ·have:=nZ.1 h6 (t,b) (HH hl);exact this
  ·have:=nZ.1 h5 (t,b) (HH hl);exact this
 have Q3:∀j,ops.toList[j]? =ops[0+j]? :=λj=>by simp
 have qV:mN (Array.replicate ops.size false) ops.size=List.range ops.size:=by
  unfold mN;rw[List.filter_eq_self];intro i hi;have:i<ops.size:=by simpa using hi
  simp [Array.getD,this]
 have abt:uA ops (Array.replicate ops.size false)=ops.toList:=by
  unfold uA;rw[qV]
  have gen:∀(l pre:List Oper),(List.range' pre.length l.length).filterMap (λi=>(pre++l)[i]?)=l:=by
   intro l;induction l with
   |nil=>intro pre;rfl
   |cons x l ih=>intro pre;simp only[List.length_cons,List.range'_succ,List.filterMap_cons];rw[fV (ay _)];simp only[Nat.sub_self,List.getElem?_cons_zero];have:=ih (pre++[x]);simp only[List.length_append,List.length_cons,List.length_nil,Nat.zero_add,kP,l6,List.nil_append]at this;rw[this]
  have:=gen ops.toList [];rw[List.range_eq_range'];simpa using this
 refine wp_region_any h1 (Yj (s0:=s) hs (λn o e ho he hb=>Nr ops.toList 0 Q3 h2 n o e (gU _) ho he hb) (λn o m y ho hm hy=>?_) (λn o ho=>pg.of (nZ.1 h4 o (by have:=Array.mem_of_getElem? ho;simpa using this)) (nZ.1 h7 o (by have:=Array.mem_of_getElem? ho;simpa using this))) hQ ops.size _ s a _ E pb (by simp) (by rw[qV];simp) ?_ (h.grow (w':=w.drew) ((Below.refl _ _).drew)) hI (by rw[abt];exact hk) (Fr.refl _ _))
 ·rcases M9 ops.toList 0 Q3 h3 n o (gU _) ho m y hm hy with k1|k1
  ·left;exact λS hS hD=>Oi ops.toList [] (λi=>by simp) (λm j h=>by simp at h) n m k1 S hS hD
  ·exact .inr (Xx k1)
 ·intro i o e hi ho he hb;have hlt:i<ops.size:=(nU.1 ho).1;exfalso;simp [Array.getD,hlt]at hi
theorem St.Li(h:St X z s a w E pb):St X z ⟨s.sl,λ_=>none,s.σ⟩ a w E pb:=
 ⟨h.len,h.mM,h.slot,h.box,(λt p hp=>by cases hp),h.priv,h.inj,h.heap,h.defers,h.out,h.nm⟩
def AX.to:AX→Exit
 |.normal=>.normal
 |.exit i=>.exit i
 |.ret=>.ret
theorem DK:∀(ds:List Nat)(sl:List AV)(i:Nat),(qG sl ds).length=sl.length∧((qG sl ds)[i]? =sl[i]? ∨(qG sl ds)[i]? =some .undef)∧(i∉ds→(qG sl ds)[i]? =sl[i]?)∧(i∈ds→i<sl.length→(qG sl ds)[i]? =some .undef)
 |[],sl,i=>⟨rfl,.inl rfl,λ_=>rfl,λh=>by simp at h⟩
 |d::ds,sl,i=>by
  obtain⟨h1,h2,h3,h4⟩:=DK ds (sl.set d .undef) i;simp only[qG]
  have nA:(sl.set d .undef)[i]? =if d=i then(if i<sl.length then some .undef else none)else sl[i]? :=by
   rw[eW];by_cases e:d=i
   ·subst e;simp
   ·simp [e]
  have hnone:¬i<sl.length→sl[i]? =none:=λk=>ku (by omega)
  refine⟨by rw[h1];simp,?_,λhi=>?_,λhi hl=>?_⟩
  ·rcases h2 with h2|h2
   ·rw[h2,nA];by_cases e:d=i
    ·rw[aK e];split
     ·exact .inr rfl
     ·rename_i k;rw[hnone k];exact .inl rfl
    ·rw[aI e];exact .inl rfl
   ·exact .inr h2
  ·simp only[eM,not_or]at hi;rw[h3 hi.2,nA,aI (λe=>hi.1 e.symm)]
  ·by_cases hm:i∈ds
   ·exact h4 hm (by simpa using hl)
   ·simp only[eM]at hi;have:i=d:=hi.resolve_right hm;rw[h3 hm,nA,aK this.symm,aK hl]
theorem D2(vs:List AV):∀(live:List Nat)(j:Nat)(sl:List AV)(i:Nat),(Ah vs sl live j).length=sl.length∧(i∉live→(Ah vs sl live j)[i]? =sl[i]?)∧(i∈live→i<sl.length→∃n,n<live.length∧live[n]? =some i∧(Ah vs sl live j)[i]? =some (vs.getD (j+n) .undef))
 |[],j,sl,i=>⟨rfl,λ_=>rfl,λh=>by simp at h⟩
 |d::live,j,sl,i=>by
  obtain⟨h1,h2,h3⟩:=D2 vs live (j+1) (sl.set d (vs.getD j .undef)) i;simp only[Ah];refine⟨by rw[h1];simp,λhi=>?_,λhi hl=>?_⟩
  ·simp only[eM,not_or]at hi;rw[h2 hi.2,eW,aI (λe=>hi.1 e.symm)]
  ·by_cases hm:i∈live
   ·obtain⟨n,k1,k2,k3⟩:=h3 hm (by simpa using hl);exact⟨n+1,by simp;omega,by simpa using k2,by rw[k3];congr 2;omega⟩
   ·simp only[eM]at hi;have:i=d:=hi.resolve_right hm;subst this;exact⟨0,by simp,rfl,by rw[h2 hm,eW];simp [hl]⟩
theorem St.meet{s s':AS}(h:St X z s' a w E pb){mods live:List Nat}(hl:s.sl.length=s'.sl.length)(hf:∀i,i∉mods→s'.sl[i]? =s.sl[i]?):St X z (s.meet mods live (vals s'.sl live) s'.σ) a w E pb:=by
 have iR:∀i:Nat,(s.meet mods live (vals s'.sl live) s'.σ).sl[i]? =s'.sl[i]? ∨(s.meet mods live (vals s'.sl live) s'.σ).sl[i]? =some AV.undef:=by
  intro i;simp only[AS.meet];obtain⟨c1,c2,c3,c4⟩:=DK mods s.sl i;obtain⟨m1,m2,m3⟩:=D2 (vals s'.sl live) live 0 (qG s.sl mods) i;by_cases hm:i∈live
  ·by_cases hlt:i<s.sl.length
   ·obtain⟨n,k1,k2,k3⟩:=m3 hm (by rw[c1];exact hlt);left;rw[k3,Nat.zero_add]
    have:(vals s'.sl live).getD n .undef=s'.sl.getD i .undef:=by simp only[vals,List.getD,Al,k2];rfl
    rw[this,cI (by omega)];simp [List.getD,show i<s'.sl.length by omega]
   ·left;rw[ku (by rw[m1,c1];omega),ku (by omega)]
  ·rw[m2 hm];by_cases hd:i∈mods
   ·by_cases hlt:i<s.sl.length
    ·exact .inr (c4 hd hlt)
    ·left;rw[ku (by rw[c1];omega),ku (by omega)]
   ·left;rw[c3 hd,hf i hd]
 have hlen:(s.meet mods live (vals s'.sl live) s'.σ).sl.length=s'.sl.length:=by simp only[AS.meet];rw[(D2 (vals s'.sl live) live 0 (qG s.sl mods) 0).1,(DK mods s.sl 0).1];exact hl
 refine⟨by rw[h.len,hlen],by rw[hlen,h.mM],λi av hi=>?_,λi cs hi=>?_,(λt p hp=>by cases hp),h.priv,h.inj,h.heap,h.defers,h.out,h.nm⟩
 ·rcases iR i with e|e
  ·rw[e]at hi;exact h.slot i av hi
  ·rw[e]at hi;injection hi with hi;subst hi;trivial
 ·rcases iR i with e|e
  ·rw[e]at hi;exact h.box i cs hi
  ·rw[e]at hi;cases hi
end
end
section
open Go.RowKit
section
variable {X : Fx} {z : Z}
theorem force_eq{R:Type}:∀(l:List AV)(k:List AV→Option R),force l k=k l
 |[],k=>rfl
 |x::l,k=>by simp only[force];rw[force_eq l]
theorem PG{R:Type}{q:Bool}{ops:Array Oper}:∀(l:List Oper)(s:AS)(k:AS→Option R),Ck X q ops l s k=oa X q ops l s k
 |[],s,k=>rfl
 |o::l,s,k=>by simp only[Ck,oa];congr 1;funext s;rw[force_eq];exact PG l _ k
theorem Nt{α:Type}{c:AV}{t e:Option α}{r:α}(h:A.cond c t e=some r):(c=.bool true∧t=some r)∨(c=.bool false∧e=some r):=by
 cases c<;>simp only[A.cond]at h<;>first|(cases h;done)|skip
 rename_i b;cases b
 ·exact .inr ⟨rfl,h⟩
 ·exact .inl ⟨rfl,h⟩
theorem XD{f:List AV→Heap→Option (AX×List AV×Heap)}{v:List AV}{σ:Heap}{r:AX×List AV×Heap}(h:A.loop f v σ=some r):∃n,A.iter f n v σ=some r:=by
 unfold A.loop at h;split at h
 ·rename_i hx;injection h with h
  exact⟨_,h▸Classical.choose_spec (Classical.choose_spec hx)⟩
 ·cases h
theorem Wy{R:Type}{f:List AV→Heap→(AX×List AV×Heap→Option R)→Option R}{v:List AV}{σ:Heap}{K:AX×List AV×Heap→Option R}{r:R}(h:A.JC f v σ K=some r):∃n,A.B5 f n v σ K=some r:=by
 unfold A.JC at h;split at h
 ·rename_i hx;injection h with h
  obtain⟨n,hn⟩:=Classical.choose_spec hx;exact⟨n,h▸hn n (ay _)⟩
 ·cases h
theorem Ep{R:Type}{e:AX}{k:AX→Option R}{r:R}:∀{xs:List AX},A.sel e k xs=some r→k e=some r
 |[],h=>by cases h
 |x::xs,h=>by
  simp only[A.sel]at h;cases he:(e==x)
  ·rw[he]at h;exact Ep h
  ·rw[he]at h;have:e=x:=by simpa using he
   subst this;exact h
theorem zW{X:Fx}{c:Code}{ds:List Nat}{s s':AS}(h:Fr X ds s s'):∀i,i∉ds++X.L→s'.sl[i]? =s.sl[i]? :=λi hi=>by
 rw[eN]at hi
 exact h i (λe=>hi (.inl e)) (by
  cases hc:X.L.contains i
  ·rfl
  ·exact absurd (List.contains_iff_mem.1 hc) (λe=>hi (.inr e)))
theorem vG{X:Fx}{s:AS}{ds live:List Nat}{vs:List AV}{σ:Heap}(hl:(live.all λd=>(ds++X.L).contains d)=true):Fr X ds s (s.meet (ds++X.L) live vs σ):=λi hi hL=>by
 have hni:i∉ds++X.L:=by
  rw[eN];rintro(e|e)
  ·exact hi e
  ·rw[List.contains_iff_mem.2 e]at hL;cases hL
 simp only[AS.meet];rw[(D2 vs live 0 (qG s.sl (ds++X.L)) i).2.1 (λe=>hni ?_),(DK (ds++X.L) s.sl i).2.2.1 hni];exact List.contains_iff_mem.1 (nZ.1 hl i e)
theorem MK{live:List Nat}{e:AX}{s:AS}{r:List AV×Heap}(h:EO live e s=some r):e=.normal∧r=(vals s.sl live,s.σ):=by cases e<;>simp only[EO]at h<;>first|(cases h;done)|(injection h with h;exact⟨rfl,h.symm⟩)
theorem Px{P:Program}{c:Code}{Q:Exit→Act→World→Prop}(I:Nat→Act→World→Prop)(round:∀n a w,I n a w→c.wp P (Exit.then (λa' w'=>∃m,m<n∧I m a' w') Q) a w) {n:Nat} {a:Act} {w:World} (h:I n a w):(Code.loop c).wp P Q a w:=by
 intro b k cs
 have key:∀n a w,I n a w→∃e a' w',Q e a' w'∧Arrives P (lone (b.at a (.code c::.inLoop c::k)) cs w) b k cs e a' w':=by
  intro n;induction n using Nat.strongRecOn with
  |_ n ih=>
   intro a w hI;obtain⟨e,a1,w1,hq,vZ⟩:=round n a w hI b (.inLoop c::k) cs;cases e with
   |normal=>obtain⟨m,hlt,hm⟩:=hq;obtain⟨e2,a2,w2,wM,abh⟩:=ih m hlt a1 w1 hm;exact⟨e2,a2,w2,wM,.of_steps (Steps.trans vZ (.one step_inLoop)) abh⟩
   |exit id=>exact⟨_,a1,w1,hq,.pass (x:=.inLoop c) rfl (λ_ _=>.inl (by simp)) vZ⟩
   |goto l=>exact⟨_,a1,w1,hq,.pass (x:=.inLoop c) rfl (λ_ _=>.inl (by simp)) vZ⟩
   |ret=>exact⟨_,a1,w1,hq,.pass (x:=.inLoop c) rfl (λ_ _=>.inl (by simp)) vZ⟩
   |panic ch=>exact⟨_,a1,w1,hq,.pass (x:=.inLoop c) rfl (λ_ _=>.inl (by simp)) vZ⟩
   |outgrown=>exact⟨_,a1,w1,hq,.pass (x:=.inLoop c) rfl (λ_ _=>.inl (by simp)) vZ⟩
 obtain⟨e,a',w',hq,vZ⟩:=key n a w h;exact⟨e,a',w',hq,.of_steps (.one step_loop) vZ⟩
theorem sC(hs:dB X):∀(c:Code){R:Type}(bO:jy)(s:AS)(a:Act)(w:World)(E:List Pl)(pb:Nat→Option Nat)(k:AX→AS→Option R)(r:R)(Q:Exit→Act→World→Prop),exec X bO c s k=some r→St X z s a w E pb→
  (∀e s' a' w' E' bw,St X z s' a' w' E' bw→Fr X (cS c) s s'→k e s'=some r→Q e.to a' w')→c.wp X.P Q a w
 |.skip,R,bO,s,a,w,E,pb,k,r,Q,hk,h,hQ=>by
  have hk':k .normal s=some r:=by cases bO<;>simpa [exec]using hk
  exact wp_skip (hQ .normal s a w E pb h (Fr.refl _ _) hk')
 |.label l,R,bO,s,a,w,E,pb,k,r,Q,hk,h,hQ=>by
  have hk':k .normal s=some r:=by cases bO<;>simpa [exec]using hk
  exact wp_label (hQ .normal s a w E pb h (Fr.refl _ _) hk')
 |.exit id,R,bO,s,a,w,E,pb,k,r,Q,hk,h,hQ=>by
  have hk':k (.exit id) s=some r:=by cases bO<;>simpa [exec]using hk
  exact wp_exit (hQ (.exit id) s a w E pb h (Fr.refl _ _) hk')
 |.ret,R,bO,s,a,w,E,pb,k,r,Q,hk,h,hQ=>by
  have hk':k .ret s=some r:=by cases bO<;>simpa [exec]using hk
  exact wp_ret (hQ .ret s a w E pb h (Fr.refl _ _) hk')
 |.region id ops draw,R,bO,s,a,w,E,pb,k,r,Q,hk,h,hQ=>by
  have hk':(bif draw then(bif BL X ops s.sl then oa X true ops ops.toList ⟨s.sl,λ_=>none,s.σ⟩ λs=>k .normal ⟨s.sl,λ_=>none,s.σ⟩else none)else oa X false ops ops.toList s λs=>k .normal ⟨s.sl,λ_=>none,s.σ⟩)=some r:=by cases bO<;>simpa [exec,force_eq,PG]using hk
  cases draw
  ·simp only[aV]at hk';refine wp_region ?_;have:=PF (z:=z) (Q:=Q) (s0:=s) hs ops.toList 0 s a w E pb (λj=>by simp) h hk' (λs' a' w' E' bw h' hf hk2=>hQ .normal _ a' w' E' bw h'.Li (λi hi hL=>hf i (by simpa [cS]using hi) hL) hk2);rw[List.range_eq_range'];simpa using this
  ·simp only[bG]at hk';cases hok:BL X ops s.sl
   ·rw[hok]at hk';cases hk'
   ·rw[hok]at hk';simp only[bG]at hk';exact Zi (s:=⟨s.sl,λ_=>none,s.σ⟩) hs hok (λ_=>rfl) (λs' a' w' E' bw h' hf hk2=>hQ .normal _ a' w' E' bw h'.Li (λi hi hL=>hf i (by simpa [cS]using hi) hL) hk2) h.Li hk'
 |.seq x y,R,bO,s,a,w,E,pb,k,r,Q,hk,h,hQ=>by
  cases bO<;>simp only[exec]at hk<;>first|(cases hk;done)|skip
  rename_i aa bb;refine wp_seq (sC hs x aa s a w E pb _ r _ hk h λe s' a' w' E' bw h' hf hk'=>?_);cases e with
  |normal=>exact sC hs y bb s' a' w' E' bw k r Q hk' h' λe2 s2 a2 w2 E2 Lo h2 yD hk2=>hQ e2 s2 a2 w2 E2 Lo h2 (by simpa [cS]using hf.trans yD) hk2
  |exit i=>exact hQ (.exit i) s' a' w' E' bw h' (hf.mono λi hi=>by simp [cS,hi]) hk'
  |ret=>exact hQ .ret s' a' w' E' bw h' (hf.mono λi hi=>by simp [cS,hi]) hk'
 |.cond c x y,R,bO,s,a,w,E,pb,k,r,Q,hk,h,hQ=>by
  have rc:=cR h c;cases bO<;>simp only[exec,force_eq]at hk<;>first|(cases hk;done)|skip
  case c live aa bb=>
   cases hl:(live.all λd=>(cS x++cS y++X.L).contains d)
   ·rw[hl]at hk;cases hk
   ·rw[hl]at hk;simp only[Bool.not_true,aV]at hk;obtain⟨⟨vs,σ'⟩,h1,h2⟩:=bg.1 hk;rcases Nt h1 with⟨ec,hb⟩|⟨ec,hb⟩
    ·rw[ec]at rc;simp only[ak]at rc;refine wp_cond_true rc (sC hs x aa s a w E pb _ _ Q hb h λe s' a' w' E' bw h' hf hk'=>?_);obtain⟨rfl,hv⟩:=MK hk';simp only[Prod.mk.injEq]at hv;obtain⟨rfl,rfl⟩:=hv;have yD:Fr X (cS x++cS y) s s':=hf.mono λi hi=>by simp [hi]
     exact hQ .normal _ a' w' E' bw (h'.meet (by rw[h.mM,h'.mM]) (zW (c:=x) yD)) (by simpa [cS]using vG (X:=X) hl) h2
    ·rw[ec]at rc;simp only[ak]at rc;refine wp_cond_false rc (sC hs y bb s a w E pb _ _ Q hb h λe s' a' w' E' bw h' hf hk'=>?_);obtain⟨rfl,hv⟩:=MK hk';simp only[Prod.mk.injEq]at hv;obtain⟨rfl,rfl⟩:=hv;have yD:Fr X (cS x++cS y) s s':=hf.mono λi hi=>by simp [hi]
     exact hQ .normal _ a' w' E' bw (h'.meet (by rw[h.mM,h'.mM]) (zW (c:=x) yD)) (by simpa [cS]using vG (X:=X) hl) h2
  case j aa bb=>
   rcases Nt hk with⟨ec,hb⟩|⟨ec,hb⟩
   ·rw[ec]at rc;simp only[ak]at rc;exact wp_cond_true rc (sC hs x aa s a w E pb k r Q hb h λe s' a' w' E' bw h' hf hk'=>hQ e s' a' w' E' bw h' (hf.mono λi hi=>by simp [cS,hi]) hk')
   ·rw[ec]at rc;simp only[ak]at rc;exact wp_cond_false rc (sC hs y bb s a w E pb k r Q hb h λe s' a' w' E' bw h' hf hk'=>hQ e s' a' w' E' bw h' (hf.mono λi hi=>by simp [cS,hi]) hk')
 |.block id c,R,bO,s,a,w,E,pb,k,r,Q,hk,h,hQ=>by
  cases bO<;>simp only[exec]at hk<;>first|(cases hk;done)|skip
  rename_i aa;refine wp_block (sC hs c aa s a w E pb _ r _ hk h λe s' a' w' E' bw h' hf hk'=>?_);cases e with
  |normal=>exact hQ .normal s' a' w' E' bw h' (by simpa [cS]using hf) hk'
  |ret=>exact hQ .ret s' a' w' E' bw h' (by simpa [cS]using hf) hk'
  |exit i=>
   simp only[AX.to,Exit.inBlock];simp only at hk';by_cases e:i=id
   ·have:(i==id)=true:=by simpa using e
    rw[this]at hk';rw[aK e];exact hQ .normal s' a' w' E' bw h' (by simpa [cS]using hf) hk'
   ·have:(i==id)=false:=by simpa using e
    rw[this]at hk';rw[aI e];exact hQ (.exit i) s' a' w' E' bw h' (by simpa [cS]using hf) hk'
 |.loop c,R,bO,s,a,w,E,pb,k,r,Q,hk,h,hQ=>by
  cases bO<;>simp only[exec,force_eq]at hk<;>first|(cases hk;done)|skip
  case lc live xs aa=>
   cases hl:(live.all λd=>(cS c++X.L).contains d)
   ·rw[hl]at hk;cases hk
   ·rw[hl]at hk;simp only[Bool.not_true,aV]at hk;obtain⟨n,hn⟩:=Wy hk;refine Px (λn a w=>∃vs σ E pb,A.B5 (λvs σ K=>exec X aa c (s.meet (cS c++X.L) live vs σ) λe s'=>K (e,vals s'.sl live,s'.σ)) n vs σ (λr=>A.sel r.1 (λe=>k e (s.meet (cS c++X.L) live r.2.1 r.2.2)) xs)=some r∧St X z (s.meet (cS c++X.L) live vs σ) a w E pb) ?_ (n:=n) ⟨_,_,E,pb,hn,h.meet rfl (λi _=>rfl)⟩;rintro n a w ⟨vs,σ,E,pb,hit,hst⟩;cases n with
    |zero=>cases hit
    |succ n=>
     simp only[A.B5]at hit;refine sC hs c aa _ a w E pb _ _ _ hit hst λe s' a' w' E' bw h' hf hk'=>?_
     have hfr:∀i,i∉cS c++X.L→s'.sl[i]? =s.sl[i]? :=λi hi=>by rw[zW (c:=c) hf i hi];exact zW (c:=c) (vG (X:=X) (s:=s) (vs:=vs) (σ:=σ) hl) i hi
     have xP:=h'.meet (s:=s) (mods:=cS c++X.L) (live:=live) (by rw[h.mM,h'.mM]) hfr;cases e with
     |normal=>exact⟨n,Nat.lt_succ_self n,_,_,E',bw,hk',xP⟩
     |exit i=>exact hQ (.exit i) _ a' w' E' bw xP (by simpa [cS]using vG (X:=X) hl) (Ep hk')
     |ret=>exact hQ .ret _ a' w' E' bw xP (by simpa [cS]using vG (X:=X) hl) (Ep hk')
  rename_i live xs aa;cases hl:(live.all λd=>(cS c++X.L).contains d)
  ·rw[hl]at hk;cases hk
  ·rw[hl]at hk;simp only[Bool.not_true,aV]at hk;obtain⟨⟨e0,wS,aL⟩,h1,h2⟩:=bg.1 hk;have hsel:=Ep h2;obtain⟨n,hn⟩:=XD h1;refine Px (λn a w=>∃vs σ E pb,A.iter (λvs σ=>exec X aa c (s.meet (cS c++X.L) live vs σ) (leave live)) n vs σ=some (e0,wS,aL)∧St X z (s.meet (cS c++X.L) live vs σ) a w E pb) ?_ (n:=n) ⟨_,_,E,pb,hn,h.meet rfl (λi _=>rfl)⟩;rintro n a w ⟨vs,σ,E,pb,hit,hst⟩;cases n with
   |zero=>cases hit
   |succ n=>
    simp only[A.iter]at hit;obtain⟨⟨e1,vs1,σ1⟩,g1,g2⟩:=bg.1 hit;refine sC hs c aa _ a w E pb _ _ _ g1 hst λe s' a' w' E' bw h' hf hk'=>?_
    simp only[leave,Option.some.injEq,Prod.mk.injEq]at hk';obtain⟨rfl,rfl,rfl⟩:=hk'
    have hfr:∀i,i∉cS c++X.L→s'.sl[i]? =s.sl[i]? :=λi hi=>by rw[zW (c:=c) hf i hi];exact zW (c:=c) (vG (X:=X) (s:=s) (vs:=vs) (σ:=σ) hl) i hi
    have xP:=h'.meet (s:=s) (mods:=cS c++X.L) (live:=live) (by rw[h.mM,h'.mM]) hfr;cases e with
    |normal=>exact⟨n,Nat.lt_succ_self n,_,_,E',bw,g2,xP⟩
    |exit i=>simp only[Option.some.injEq,Prod.mk.injEq]at g2;obtain⟨rfl,rfl,rfl⟩:=g2;exact hQ (.exit i) _ a' w' E' bw xP (by simpa [cS]using vG (X:=X) hl) hsel
    |ret=>simp only[Option.some.injEq,Prod.mk.injEq]at g2;obtain⟨rfl,rfl,rfl⟩:=g2;exact hQ .ret _ a' w' E' bw xP (by simpa [cS]using vG (X:=X) hl) hsel
 |.rangeFunc ..,R,bO,s,a,w,E,pb,k,r,Q,hk,h,hQ=>by cases bO<;>simp [exec]at hk
 |.scope _,R,bO,s,a,w,E,pb,k,r,Q,hk,h,hQ=>by cases bO<;>simp [exec]at hk
 |.goto _,R,bO,s,a,w,E,pb,k,r,Q,hk,h,hQ=>by cases bO<;>simp [exec]at hk
 |.refuse _,R,bO,s,a,w,E,pb,k,r,Q,hk,h,hQ=>by cases bO<;>simp [exec]at hk
end
end
section
open Go.RowKit
section
variable {X : Fx} {z : Z} {s : AS} {a : Act} {w w' : World} {E : List Pl} {pb : Nat → Option Nat}
def uC(tmps:Array Value):ResultVar→Sem Value
 |.tmp t=>pure (tmps.getD t undef)
 |.cell a t=>do loadVar t (←asAddr (tmps.getD a undef))
theorem IJ(h:St X z s a w E pb){R:Type}:∀(rs:List ResultVar)(k:List AV→Option R)(r:R),uB X s rs k=some r→∃vs kD,(rs.mapM (uC a.tmps)).run X.P w=.ok vs w∧aC (ctx z w E pb) kD vs∧k kD=some r
 |[],k,r,hk=>⟨[],[],by simp,by simp [aC],hk⟩
 |.tmp t::rs,k,r,hk=>by simp only[uB]at hk;obtain⟨vs,kD,h1,h2,h3⟩:=IJ h rs _ r hk;refine⟨a.tmps.getD t undef::vs,ev X s (.tmp t)::kD,?_,by simp only[aC];exact⟨_,_,rfl,cR h (.tmp t),h2⟩,h3⟩;simp only[List.mapM_cons,Sem.run_bind,uC,Sem.run_pure,Result.andThen_ok,h1]
 |.cell q t::rs,k,r,hk=>by
  simp only[uB]at hk
  have fin:∀(v:Value)(av:AV),(uC a.tmps (.cell q t)).run X.P w=.ok v w→ak (ctx z w E pb) av v→uB X s rs (λvs=>k (av::vs))=some r→∃vs kD,((ResultVar.cell q t::rs).mapM (uC a.tmps)).run X.P w=.ok vs w∧aC (ctx z w E pb) kD vs∧k kD=some r:=by intro v av hv hr hk;obtain⟨vs,kD,h1,h2,h3⟩:=IJ h rs _ r hk;refine⟨v::vs,av::kD,?_,by simp only[aC];exact⟨_,_,rfl,hr,h2⟩,h3⟩;simp only[List.mapM_cons,Sem.run_bind,hv,Sem.run_pure,Result.andThen_ok,h1]
  split at hk
  ·rename_i b off hp;obtain⟨av,e1,e2⟩:=bg.1 hk;obtain⟨cs,e3,e4⟩:=bg.1 e1;obtain⟨n,k1,k2,k3,k4⟩:=zI h (tag:=none) trivial hp e3;obtain⟨v,j1,j2⟩:=DZ (c:=ctx z w E pb) w X rfl k3.2 e4;rw[Nat.zero_add]at j1;simp only[Act.eval]at k2;exact fin v av (by simp [uC,k2,asAddr,j1]) j2 e2
  ·obtain⟨av,e1,e2⟩:=bg.1 hk;obtain⟨cs,e3,e4⟩:=bg.1 e1;obtain⟨b,off,k2,k3⟩:=Nv h.heap e3 (cR h (.tmp q));obtain⟨v,j1,j2⟩:=DZ (c:=ctx z w E pb) w X rfl k3 e4;rw[Nat.add_zero]at j1;simp only[Act.eval]at k2;exact fin v av (by simp [uC,k2,asAddr,j1]) j2 e2
theorem VZ{P:Program}{fn:Func}{tmps:Array Value}{vs:List Value}(h:(fn.results.toList.mapM (uC tmps)).run P w=.ok vs w):∃v,(results fn tmps).run P w=.ok v w∧∀(c:RC)(kD:List AV),aC c kD vs→ak c (one kD) v:=by
 have e:results fn tmps=(do let vs ←fn.results.mapM (uC tmps);pure (if h:vs.size=1 then vs[0]else .tuple vs)):=by unfold results;congr 1
 have hm:(fn.results.mapM (uC tmps)).run P w=.ok vs.toArray w:=by rw[Array.mapM_eq_mapM_toList,Sem.run_map,h];rfl
 have hrun:(results fn tmps).run P w=.ok (if h:vs.toArray.size=1 then vs.toArray[0]else .tuple vs.toArray) w:=by rw[e,Sem.run_bind,hm];rfl
 refine⟨_,hrun,λc kD r=>?_⟩
 match kD,vs,r with
 |[x],[v],r=>simp only[aC]at r;obtain⟨v',_,e',r1,rfl⟩:=r;injection e' with e1 _;subst e1;simpa [one]using r1
 |[],[],r=>simp only[one,ak];exact⟨#[],by simp,by simp [aC]⟩
 |x::y::xs,v::u::us,r=>simp only[one,ak];exact⟨(v::u::us).toArray,by simp,by simpa using r⟩
 |[_],_::_::_,r=>exact absurd r.length (by simp)
 |_::_::_,[_],r=>exact absurd r.length (by simp)
 |[],_::_,r=>exact absurd r.length (by simp)
 |_::_,[],r=>exact absurd r.length (by simp)
end
section
variable {c c' : RC} {σ : Heap} {n : Nat}
structure sV (c c' : RC) (σ : Heap) (n : Nat) : Prop where
 w:c'.w=c.w
 nm:c'.nm=c.nm
 X:∀b,c'.X b→c.X b
 E:∀(id:Nat)(p:Pl),id<n→c.E[id]? =some p→c'.E[id]? =some p
 heap:eB c σ
 Fh:∀(id:Nat)(p:Pl),n≤id→c.E[id]? =some p→¬c'.X p.b
theorem IC(d:Nat):∀(l l':List AV),A.dz σ n d l=some l'→l'.length=l.length
 |[],l',e=>by simp only[A.dz]at e;injection e with e;subst e;rfl
 |x::l,l',e=>by simp only[A.dz]at e;obtain⟨y,h1,h2⟩:=bg.1 e;obtain⟨l2,h3,rfl⟩:=cL.1 h2;simp [IC d l l2 h3]
theorem Bu(d:Nat):∀(l l':List (List AV)),A.lF σ n d l=some l'→l'.length=l.length
 |[],l',e=>by simp only[A.lF]at e;injection e with e;subst e;rfl
 |x::l,l',e=>by simp only[A.lF]at e;obtain⟨y,h1,h2⟩:=bg.1 e;obtain⟨l2,h3,rfl⟩:=cL.1 h2;simp [Bu d l l2 h3]
theorem BD(d:Nat):∀(l:List (List AV)),A.BW σ n d l=A.lF σ n d l
 |[]=>by simp [A.lF,A.BW]
 |x::l=>by simp [A.lF,A.BW,BD d l]
def xE:AV→Bool
 |.os ..=>true
 |.op ..=>true
 |.oe ..=>true
 |.om ..=>true
 |_=>false
theorem IZ(d:Nat):∀(l:List AV),A.sQ σ n d l=A.dz σ n d l
 |[]=>by simp [A.dz,A.sQ]
 |x::l=>by simp [A.dz,A.sQ,IZ d l]
theorem Pe(d:Nat):∀(l:List (AV×AV)),A.vO σ n d l=A.n4 σ n d l
 |[]=>by simp [A.n4,A.vO]
 |(k,v)::l=>by simp [A.n4,A.vO,Pe d l]
theorem Zv(d:Nat)(m:Int)(s:ByteArray):A.bP σ n d (.agg [.int .i64 m,.str s])=some (.agg [.int .i64 m,.str s]):=by cases d<;>simp [A.bP,A.dz]
theorem NG{d:Nat}:∀{es es':List (AV×AV)},(∀p∈es,∃m s,p.1=.agg [.int .i64 m,.str s])→A.n4 σ n d es=some es'→es'.map (·.1)=es.map (·.1)
 |[],es',_,h=>by simp only[A.n4]at h;injection h with h;subst h;rfl
 |(k,v)::r,es',hk,h=>by simp only[A.n4]at h;obtain⟨m,s,e⟩:=hk (k,v) List.mem_cons_self;simp only at e;subst e;rw[Zv]at h;simp only[aQ]at h;obtain⟨v',h1,h2⟩:=bg.1 h;obtain⟨r',h3,rfl⟩:=cL.1 h2;simp only[fJ,NG (λp hp=>hk p (um _ hp)) h3]
theorem Xu{d:Nat}{es es':List (AV×AV)}(hd:B0 es)(h:A.n4 σ n d es=some es'):B0 es':=by
 have e:=NG hd.1 h;refine⟨λp hp=>?_,by rw[e];exact hd.2⟩;have:p.1∈es.map (·.1):=by rw[←e];exact List.mem_map_of_mem hp
 obtain⟨q,hq,e2⟩:=mI.1 this;rw[←e2];exact hd.1 q hq
mutual
theorem zX(h:sV c c' σ n)(d:Nat)(hos:∀av bV v,xE av=true→A.bP σ n d av=some bV→ak c av v→ak c' bV v):∀(av bV:AV)(v:Value),A.bP σ n d av=some bV→ak c av v→ak c' bV v
 |.undef,bV,v,e,r=>by cases d<;>simp [A.bP]at e
 |.int k m,bV,v,e,r=>by
  have:bV=.int k m:=by cases d<;>simpa [A.bP]using e.symm
  subst this;simpa [ak]using r
 |.bool b,bV,v,e,r=>by
  have:bV=.bool b:=by cases d<;>simpa [A.bP]using e.symm
  subst this;simpa [ak]using r
 |.str s,bV,v,e,r=>by
  have:bV=.str s:=by cases d<;>simpa [A.bP]using e.symm
  subst this;simpa [ak]using r
 |.aN,bV,v,e,r=>by
  have:bV=.aN:=by cases d<;>simpa [A.bP]using e.symm
  subst this;simpa [ak]using r
 |.ez,bV,v,e,r=>by
  have:bV=.ez:=by cases d<;>simpa [A.bP]using e.symm
  subst this;simpa [ak]using r
 |.np,bV,v,e,r=>by
  have:bV=.np:=by cases d<;>simpa [A.bP]using e.symm
  subst this;simpa [ak]using r
 |.nm,bV,v,e,r=>by
  have:bV=.nm:=by cases d<;>simpa [A.bP]using e.symm
  subst this;simpa [ak]using r
 |.tD,bV,v,e,r=>by
  have:bV=.tD:=by cases d<;>simpa [A.bP]using e.symm
  subst this;simpa [ak]using r
 |.agg cs,bV,v,e,r=>by
  have e':(A.dz σ n d cs).map .agg=some bV:=by cases d<;>simpa [A.bP]using e
  obtain⟨cs',h1,rfl⟩:=cL.1 e';simp only[ak]at r ⊢;obtain⟨vs,e,r1,r2⟩:=r;exact⟨vs,e,zM h d hos cs cs' _ h1 r1,r2⟩
 |.aD cs,bV,v,e,r=>by
  have e':(A.dz σ n d cs).map .aD=some bV:=by cases d<;>simpa [A.bP]using e
  obtain⟨cs',h1,rfl⟩:=cL.1 e';simp only[ak]at r ⊢;obtain⟨vs,e,r1⟩:=r;exact⟨vs,e,zM h d hos cs cs' _ h1 r1⟩
 |.sl sz es,bV,v,e,r=>by
  have e':(A.lF σ n d es).map (.sl sz)=some bV:=by cases d<;>simpa [A.bP]using e
  obtain⟨es',h1,rfl⟩:=cL.1 e';simp only[ak]at r ⊢;obtain⟨q,cap,e,k1,k2,r⟩:=r;have hl:es'.length=es.length:=Bu d es es' h1;refine⟨q,cap,by rw[hl];exact e,by rw[hl];exact k1,k2,?_⟩;rcases r with r|⟨b,off,e2,hb,hx,r⟩
  ·left;subst r;simpa using hl
  ·right;exact⟨b,off,e2,by rw[h.w];exact hb,λk=>hx (h.X b k),BC h d hos sz b es es' off h1 r⟩
 |.rp cs,bV,v,e,r=>by
  have e':(A.dz σ n d cs).map .rp=some bV:=by cases d<;>simpa [A.bP]using e
  obtain⟨cs',h1,rfl⟩:=cL.1 e';simp only[ak]at r ⊢;obtain⟨b,off,e2,hb,hx,r⟩:=r;exact⟨b,off,e2,by rw[h.w];exact hb,λk=>hx (h.X b k),zL h d hos b cs cs' off h1 r⟩
 |.fm es,bV,v,e,r=>by
  have e':(A.n4 σ n d es).map .fm=some bV:=by cases d<;>simpa [A.bP]using e
  obtain⟨es',h1,rfl⟩:=cL.1 e';simp only[ak]at r ⊢;obtain⟨b,e2,hb,hx,aU,aY,k1,kw,l,k2,k3⟩:=r;exact⟨b,e2,by rw[h.w];exact hb,λk=>hx (h.X b k),aU,aY,by rw[h.w];exact k1,kw,l,Ej h d hos es es' _ h1 k2,k3.imp_right λq=>⟨q.1,Xu q.2 h1⟩⟩
 |.op id off,bV,v,e,r=>hos _ bV v rfl e r
 |.oe id g i off,bV,v,e,r=>hos _ bV v rfl e r
 |.om id,bV,v,e,r=>hos _ bV v rfl e r
 |.fn f cs,bV,v,e,r=>by
  have e':(A.dz σ n d cs).map (.fn f)=some bV:=by cases d<;>simpa [A.bP]using e
  obtain⟨cs',h1,rfl⟩:=cL.1 e';simp only[ak]at r ⊢;obtain⟨g,vs,e,k,r1⟩:=r;exact⟨g,vs,e,by rw[h.nm];exact k,zM h d hos cs cs' _ h1 r1⟩
 |.lbx cs,bV,v,e,r=>by cases d<;>simp [A.bP]at e
 |.os id g sz off len,bV,v,e,r=>hos _ bV v rfl e r
theorem zM(h:sV c c' σ n)(d:Nat)(hos:∀av bV v,xE av=true→A.bP σ n d av=some bV→ak c av v→ak c' bV v):∀(l l':List AV)(vs:List Value),A.dz σ n d l=some l'→aC c l vs→aC c' l' vs
 |[],l',vs,e,r=>by simp only[A.dz]at e;injection e with e;subst e;simpa [aC]using r
 |x::l,l',vs,e,r=>by simp only[A.dz]at e;obtain⟨y,h1,h2⟩:=bg.1 e;obtain⟨l2,h3,rfl⟩:=cL.1 h2;simp only[aC]at r ⊢;obtain⟨v,vs',e,r1,r2⟩:=r;exact⟨v,vs',e,zX h d hos x y v h1 r1,zM h d hos l l2 vs' h3 r2⟩
theorem Ej(h:sV c c' σ n)(d:Nat)(hos:∀av bV v,xE av=true→A.bP σ n d av=some bV→ak c av v→ak c' bV v):∀(l l':List (AV×AV))(es:List MapEntry),A.n4 σ n d l=some l'→bM c l es→bM c' l' es
 |[],l',es,e,r=>by simp only[A.n4]at e;injection e with e;subst e;simpa [bM]using r
 |(k,v)::l,l',es,e,r=>by simp only[A.n4]at e;obtain⟨k',h1,h2⟩:=bg.1 e;obtain⟨v',h3,h4⟩:=bg.1 h2;obtain⟨l2,h5,rfl⟩:=cL.1 h4;simp only[bM]at r ⊢;obtain⟨x,es',e,r1,r2,r3⟩:=r;exact⟨x,es',e,zX h d hos k k' _ h1 r1,zX h d hos v v' _ h3 r2,Ej h d hos l l2 es' h5 r3⟩
theorem zL(h:sV c c' σ n)(d:Nat)(hos:∀av bV v,xE av=true→A.bP σ n d av=some bV→ak c av v→ak c' bV v)(b:Nat):∀(l l':List AV)(off:Nat),A.dz σ n d l=some l'→aT c b off l→aT c' b off l'
 |[],l',off,e,r=>by simp only[A.dz]at e;injection e with e;subst e;simp [aT]
 |x::l,l',off,e,r=>by simp only[A.dz]at e;obtain⟨y,h1,h2⟩:=bg.1 e;obtain⟨l2,h3,rfl⟩:=cL.1 h2;simp only[aT]at r ⊢;obtain⟨⟨v,e1,e2,r1⟩,r2⟩:=r;exact⟨⟨v,by rw[h.w];exact e1,e2,zX h d hos x y v h1 r1⟩,zL h d hos b l l2 (off+1) h3 r2⟩
theorem BC(h:sV c c' σ n)(d:Nat)(hos:∀av bV v,xE av=true→A.bP σ n d av=some bV→ak c av v→ak c' bV v)(sz b:Nat):∀(l l':List (List AV))(off:Nat),A.lF σ n d l=some l'→aX c sz b off l→aX c' sz b off l'
 |[],l',off,e,r=>by simp only[A.lF]at e;injection e with e;subst e;simp [aX]
 |x::l,l',off,e,r=>by simp only[A.lF]at e;obtain⟨y,h1,h2⟩:=bg.1 e;obtain⟨l2,h3,rfl⟩:=cL.1 h2;simp only[aX]at r ⊢;exact⟨by rw[IC d x y h1];exact r.1,zL h d hos b x y off h1 r.2.1,BC h d hos sz b l l2 (off+sz) h3 r.2.2⟩
end
structure tg (c0 c c' : RC) : Prop where
 w:c'.w=c.w
 nm:c'.nm=c.nm
 X:∀b,c'.X b→c.X b
 E:∀(id:Nat)(p0 p:Pl),c0.E[id]? =some p0→c.E[id]? =some p→c'.E[id]? =some p
mutual
theorem zT{c0 c c':RC}(h:tg c0 c c'):∀(av:AV)(v0 v:Value),ak c0 av v0→ak c av v→ak c' av v
 |.undef,v0,v,r0,r=>by simp [ak]
 |.int k m,v0,v,r0,r=>by simpa [ak]using r
 |.bool b,v0,v,r0,r=>by simpa [ak]using r
 |.str s,v0,v,r0,r=>by simpa [ak]using r
 |.aN,v0,v,r0,r=>by simpa [ak]using r
 |.ez,v0,v,r0,r=>by simpa [ak]using r
 |.np,v0,v,r0,r=>by simpa [ak]using r
 |.nm,v0,v,r0,r=>by simpa [ak]using r
 |.fm es,v0,v,r0,r=>by simp only[ak]at r0 r ⊢;obtain⟨_,_,_,_,_,_,_,_,_,r0,_⟩:=r0;obtain⟨b,e,hb,hx,aU,aY,k1,kw,l,k2,k3⟩:=r;exact⟨b,e,by rw[h.w];exact hb,λk=>hx (h.X b k),aU,aY,by rw[h.w];exact k1,kw,l,Ed h es _ _ r0 k2,k3⟩
 |.tD,v0,v,r0,r=>by simpa [ak]using r
 |.agg cs,v0,v,r0,r=>by simp only[ak]at r0 r ⊢;obtain⟨wS,_,yK,_⟩:=r0;obtain⟨vs,e,r1,r2⟩:=r;exact⟨vs,e,Ec h cs _ _ yK r1,r2⟩
 |.aD cs,v0,v,r0,r=>by simp only[ak]at r0 r ⊢;obtain⟨wS,_,yK⟩:=r0;obtain⟨vs,e,r1⟩:=r;exact⟨vs,e,Ec h cs _ _ yK r1⟩
 |.sl sz es,v0,v,r0,r=>by
  simp only[ak]at r0 r ⊢;obtain⟨_,_,_,_,_,r0⟩:=r0;obtain⟨q,cap,e,k1,k2,r⟩:=r;refine⟨q,cap,e,k1,k2,?_⟩;rcases r with r|⟨b,off,e2,hb,hx,r⟩
  ·exact .inl r
  ·rcases r0 with r0|⟨b0,lK,_,_,_,r0⟩
   ·exact .inl r0
   ·exact .inr ⟨b,off,e2,by rw[h.w];exact hb,λk=>hx (h.X b k),Eb h sz b0 b es lK off r0 r⟩
 |.rp cs,v0,v,r0,r=>by simp only[ak]at r0 r ⊢;obtain⟨b0,lK,_,_,_,r0⟩:=r0;obtain⟨b,off,e2,hb,hx,r⟩:=r;exact⟨b,off,e2,by rw[h.w];exact hb,λk=>hx (h.X b k),BA h b0 b cs lK off r0 r⟩
 |.op id off,v0,v,r0,r=>by simp only[ak]at r0 r ⊢;obtain⟨p0,e0,_⟩:=r0;obtain⟨p,e1,e2,e3⟩:=r;exact⟨p,h.E id p0 p e0 e1,e2,e3⟩
 |.oe id g i off,v0,v,r0,r=>by simp only[ak]at r0 r ⊢;obtain⟨_,p0,e0,_⟩:=r0;obtain⟨hg,p,e1,e2⟩:=r;exact⟨hg,p,h.E id p0 p e0 e1,e2⟩
 |.os id g sz off len,v0,v,r0,r=>by simp only[ak]at r0 r ⊢;obtain⟨_,p0,e0,_⟩:=r0;obtain⟨hg,p,e1,e2⟩:=r;exact⟨hg,p,h.E id p0 p e0 e1,e2⟩
 |.om id,v0,v,r0,r=>by simp only[ak]at r0 r ⊢;obtain⟨p0,e0,_⟩:=r0;obtain⟨p,e1,e2,e3⟩:=r;exact⟨p,h.E id p0 p e0 e1,e2,e3⟩
 |.fn f cs,v0,v,r0,r=>by simp only[ak]at r0 r ⊢;obtain⟨_,_,_,_,r0⟩:=r0;obtain⟨g,vs,e1,e2,r⟩:=r;exact⟨g,vs,e1,by rw[h.nm];exact e2,Ec h cs _ _ r0 r⟩
 |.lbx cs,v0,v,r0,r=>by simp [ak]at r
theorem Ec{c0 c c':RC}(h:tg c0 c c'):∀(l:List AV)(wS vs:List Value),aC c0 l wS→aC c l vs→aC c' l vs
 |[],wS,vs,r0,r=>by simpa [aC]using r
 |x::l,wS,vs,r0,r=>by simp only[aC]at r0 r ⊢;obtain⟨v0,us0,_,yK,Lp⟩:=r0;obtain⟨v,us,e,r1,r2⟩:=r;exact⟨v,us,e,zT h x _ _ yK r1,Ec h l _ _ Lp r2⟩
theorem Ed{c0 c c':RC}(h:tg c0 c c'):∀(l:List (AV×AV))(fK es:List MapEntry),bM c0 l fK→bM c l es→bM c' l es
 |[],fK,es,r0,r=>by simpa [bM]using r
 |(k,v)::l,fK,es,r0,r=>by simp only[bM]at r0 r ⊢;obtain⟨e0,abU,_,k1,k2,k3⟩:=r0;obtain⟨e,es',e1,j1,j2,j3⟩:=r;exact⟨e,es',e1,zT h k _ _ k1 j1,zT h v _ _ k2 j2,Ed h l abU es' k3 j3⟩
theorem BA{c0 c c':RC}(h:tg c0 c c')(b0 b:Nat):∀(l:List AV)(lK off:Nat),aT c0 b0 lK l→aT c b off l→aT c' b off l
 |[],lK,off,r0,r=>by simp [aT]
 |x::l,lK,off,r0,r=>by simp only[aT]at r0 r ⊢;obtain⟨⟨v0,_,_,yK⟩,Lp⟩:=r0;obtain⟨⟨v,e1,e2,r1⟩,r2⟩:=r;exact⟨⟨v,by rw[h.w];exact e1,e2,zT h x _ _ yK r1⟩,BA h b0 b l _ _ Lp r2⟩
theorem Eb{c0 c c':RC}(h:tg c0 c c')(sz b0 b:Nat):∀(l:List (List AV))(lK off:Nat),aX c0 sz b0 lK l→aX c sz b off l→aX c' sz b off l
 |[],lK,off,r0,r=>by simp [aX]
 |x::l,lK,off,r0,r=>by simp only[aX]at r0 r ⊢;exact⟨r.1,BA h b0 b x _ _ r0.2.1 r.2.1,Eb h sz b0 b l _ _ r0.2.2 r.2.2⟩
end
theorem IA{c0 c c':RC}(h:tg c0 c c'){p0 p:Pl}{x:bk}(k0:lU c0 p0 x)(k:lU c p x):lU c' p x:=by
 cases x with
 |box cs=>obtain⟨h1,⟨⟨arr,t,h2,h3⟩,h4⟩⟩:=k;exact⟨h1,⟨arr,t,by rw[h.w];exact h2,h3⟩,BA h _ _ cs _ _ k0.2.2 h4⟩
 |arr g sz es=>obtain⟨h1,h2,h3,h4,⟨arr,t,h5,h6⟩,h7,h8,h9⟩:=k;obtain⟨_,_,_,_,_,_,k8,_⟩:=k0;exact⟨h1,h2,h3,h4,⟨arr,t,by rw[h.w];exact h5,h6⟩,h7,Eb h sz _ _ es _ _ k8 h8,λarr t fz e=>h9 arr t fz (by rw[←h.w];exact e)⟩
 |kR g sz es=>obtain⟨h1,h2,h3,h4,⟨arr,t,h5,h6⟩,h7,h8,h9⟩:=k;obtain⟨_,_,_,_,_,_,k8,_⟩:=k0;exact⟨h1,h2,h3,h4,⟨arr,t,by rw[h.w];exact h5,h6⟩,h7,Eb h sz _ _ es _ _ k8 h8,λarr t fz e=>h9 arr t fz (by rw[←h.w];exact e)⟩
 |map es=>obtain⟨h1,aU,aY,h2,hw,h3⟩:=k;obtain⟨_,_,_,_,_,k3⟩:=k0;exact⟨h1,aU,aY,by rw[h.w];exact h2,hw,Ed h es _ _ k3 h3⟩
 |it cur left=>
  obtain⟨h1,h2⟩:=k;obtain⟨_,k2⟩:=k0;refine⟨h1,?_⟩;rcases h2 with⟨h2,h2',since,seen,last,h3⟩|⟨m,seen,aU,aY,h3,h4,h5,h6,h7,h8,h9⟩
  ·exact .inl ⟨h2,h2',since,seen,last,by rw[h.w];exact h3⟩
  ·rcases k2 with⟨q1,q2,_⟩|⟨m0,adz,ado,ada,q3,q4,q5,q6,q7,q8,q9⟩
   ·refine .inr ⟨m,seen,aU,aY,by rw[h.w];exact h3,by rw[h.w];exact h4,λk=>h5 (h.X m k),by rw[h.w];exact h6,h7,by rw[q2]at h8 ⊢;exact h8,.inl q1⟩
   ·refine .inr ⟨m,seen,aU,aY,by rw[h.w];exact h3,by rw[h.w];exact h4,λk=>h5 (h.X m k),by rw[h.w];exact h6,h7,(by obtain⟨l0,q8,_⟩:=q8;obtain⟨l,h8,hp⟩:=h8;exact⟨l,Ed h left _ _ q8 h8,hp⟩),?_⟩;rcases h9 with h9|⟨kk,v,e,e1,e2,e3,e4,e5⟩
    ·exact .inl h9
    ·rcases q9 with q9|⟨kk',v',e',f1,f2,f3,f4,f5⟩
     ·exact .inl q9
     ·rw[e1]at f1;simp only[List.cons.injEq,Prod.mk.injEq,and_true]at f1;obtain⟨rfl,rfl⟩:=f1;exact .inr ⟨_,_,e,e1,e2,e3,zT h _ _ _ f4 e4,zT h _ _ _ f5 e5⟩
def abX:bk→Nat
 |.arr g _ _=>g
 |.kR g _ _=>g
 |_=>0
theorem IQ{c:RC}{p:Pl}{x:bk}(k:lU c p x):p.g=abX x:=by cases x<;>exact k.1
theorem O9{c0 c c':RC}(h:tg c0 c c')(sz b:Nat):∀(l:List (List AV))(off:Nat),(∀y∈l,∃b0 o0,aT c0 b0 o0 y)→aX c sz b off l→aX c' sz b off l
 |[],off,h0,r=>by simp [aX]
 |x::l,off,h0,r=>by simp only[aX]at r ⊢;obtain⟨b0,o0,k⟩:=h0 x (by simp);exact⟨r.1,BA h b0 b x _ _ k r.2.1,O9 h sz b l _ (λy hy=>h0 y (by simp [hy])) r.2.2⟩
theorem OQ{c:RC}:∀{args:List AV}{vs:List Value},aC c args vs→∀y∈A.rowsOf args,∃b0 o0,aT c b0 o0 y
 |[],_,_,y,hy=>by simp [A.rowsOf]at hy
 |a::args,vs,h,y,hy=>by
  simp only[aC]at h;obtain⟨v,vs',rfl,h1,h2⟩:=h;simp only[A.rowsOf,eN]at hy;rcases hy with hy|hy
  ·cases a<;>simp only[List.not_mem_nil]at hy;rename_i sz es;simp only[ak]at h1;obtain⟨a,cap,rfl,_,_,h3⟩:=h1;rcases h3 with h3|⟨b,off,_,_,_,h4⟩
   ·rw[h3]at hy;cases hy
   ·obtain⟨i,hi⟩:=List.mem_iff_getElem?.1 hy;exact⟨_,_,(aX.nth h4 hi).2⟩
  ·exact OQ h2 y hy
theorem tV(h:sV c c' σ n):∀(d:Nat)(av bV:AV)(v:Value),A.bP σ n d av=some bV→ak c av v→ak c' bV v
 |0=>zX h 0 (λav bV v ho e r=>by cases av<;>first|(simp [A.bP]at e;done)|(simp [xE]at ho;done))
 |d+1=>zX h (d+1) (λav bV v ho e r=>match av,ho,e,r with
  |.op id off,_,e,r=>by
   simp only[A.bP]at e;simp only[ak]at r;obtain⟨p,h1,h2,rfl⟩:=r;split at e
   ·rename_i hlt;injection e with e;subst e
    simp only[ak];exact⟨p,h.E id p hlt h1,h2,rfl⟩
   ·rename_i hge;split at e
    ·rename_i cs hs;obtain⟨cs',e1,rfl⟩:=cL.1 e;rw[IZ]at e1;obtain⟨j1,⟨⟨arr,t,j2,j3⟩,j4⟩⟩:=h.heap.blk id p _ h1 hs;simp only[ak];refine⟨p.b,off,rfl,by rw[h.w];exact(nU.1 j2).1,h.Fh id p (by omega) h1,?_⟩;have j5:=j4.drop off;rw[Nat.zero_add]at j5;exact zL h d (λav bV v _ e r=>tV h d _ _ _ e r) p.b _ cs' _ e1 j5
    ·cases e
  |.oe id g i off,_,e,r=>by
   simp only[A.bP]at e;simp only[ak]at r;obtain⟨hg,p,h1,h2,a,rfl,h3⟩:=r;split at e
   ·rename_i hlt;injection e with e;subst e
    simp only[ak];exact⟨hg,p,h.E id p hlt h1,h2,a,rfl,h3⟩
   ·rename_i hge;split at e
    ·rename_i g' sz' es hs;split at e
     ·rename_i hc;subst hc;split at e
      ·rename_i el hel;obtain⟨cs',e1,rfl⟩:=cL.1 e;rw[IZ]at e1;obtain⟨j1,j2,j3,j4,⟨arr,bt,j5,j6⟩,j7,j8,j9⟩:=h.heap.blk id p _ h1 hs;have ha:=h3 j1.symm;subst ha;simp only[ak];refine⟨p.b,_,rfl,by rw[h.w];exact(nU.1 j5).1,h.Fh id p (by omega) h1,?_⟩;rw[j3];have j9:=(j8.nth hel).2.drop off;exact zL h d (λav bV v _ e r=>tV h d _ _ _ e r) p.b _ cs' _ e1 j9
      ·cases e
     ·cases e
    ·cases e
  |.om id,_,e,r=>by
   simp only[A.bP]at e;simp only[ak]at r;obtain⟨p,h1,h2,rfl⟩:=r;split at e
   ·rename_i hlt;injection e with e;subst e
    simp only[ak];exact⟨p,h.E id p hlt h1,h2,rfl⟩
   ·rename_i hge;split at e
    ·rename_i es hs;obtain⟨es',e1,rfl⟩:=cL.1 e;rw[Pe]at e1;obtain⟨j1,aU,aY,j2,jw,j3⟩:=h.heap.blk id p _ h1 hs;simp only[ak];exact⟨p.b,rfl,by rw[h.w];exact(nU.1 j2).1,h.Fh id p (by omega) h1,aU,aY,by rw[h.w];exact j2,jw,_,Ej h d (λav bV v _ e r=>tV h d _ _ _ e r) _ es' _ e1 j3,.inl rfl⟩
    ·cases e
  |.os id g sz off len,_,e,r=>by
   simp only[A.bP]at e;simp only[ak]at r;obtain⟨hg,p,h1,h2,q,cap,rfl,h3,r⟩:=r;split at e
   ·rename_i hlt;injection e with e;subst e
    simp only[ak];exact⟨hg,p,h.E id p hlt h1,h2,q,cap,rfl,h3,r⟩
   ·rename_i hge;split at e
    ·rename_i g' sz' es hs;split at e
     ·rename_i hc;obtain⟨rfl,rfl,hle⟩:=hc;obtain⟨es',e1,rfl⟩:=cL.1 e;rw[BD]at e1;obtain⟨j1,j2,j3,j4,⟨arr,bt,j5,j6⟩,j7,j8,j9⟩:=h.heap.blk id p _ h1 hs;obtain⟨k1,k2,k3⟩:=r j1.symm;have hl:=Bu d _ _ e1;have rD:((es.drop off).take len).length=len:=by simp;omega
      simp only[ak];refine⟨some q,cap,by rw[hl,rD],by rw[hl,rD];exact h3,j4,?_⟩;by_cases hz:len=0
      ·left;apply uk;rw[hl,rD,hz]
      ·right
       have hq:q=⟨p.b,p.base+off*p.sz,none⟩:=by
        rcases k2 with k2|k2
        ·omega
        ·exact k2
       refine⟨p.b,p.base+off*p.sz,by rw[hq],by rw[h.w];exact(nU.1 j5).1,h.Fh id p (by omega) h1,?_⟩;refine BC h d (λav bV v _ e r=>tV h d _ _ _ e r) sz p.b _ es' _ e1 ?_;rw[j3];exact(j8.drop off).take len
     ·cases e
    ·cases e)
end
section
variable {c c' : RC} {σ : Heap} {n : Nat}
theorem XM{es es':List (AV×AV)}(hp:es.Perm es'):∀{l:List MapEntry},bM c es l→∃l',bM c es' l'∧l'.Perm l:=by
 induction hp with
 |nil=>intro l h;exact⟨l,h,.refl _⟩
 |cons x _ ih=>intro l h;obtain⟨e,l1,rfl,h2,h3,h4⟩:=h;obtain⟨l',k1,k2⟩:=ih h4;exact⟨e::l',⟨_,_,rfl,h2,h3,k1⟩,k2.cons e⟩
 |swap x y l0=>intro l h;obtain⟨e,l1,rfl,h2,h3,e',l2,rfl,h4,h5,h6⟩:=h;exact⟨e'::e::l2,⟨_,_,rfl,h4,h5,_,_,rfl,h2,h3,h6⟩,.swap _ _ _⟩
 |trans _ _ ih1 ih2=>intro l h;obtain⟨l1,k1,k2⟩:=ih1 h;obtain⟨l2,k3,k4⟩:=ih2 k1;exact⟨l2,k3,k4.trans k2⟩
theorem Xb(es:List (AV×AV)):(A.Rm es).Perm es:=Classical.choose_spec (p:=λl:List (AV×AV)=>l.Perm es) ⟨es,.refl _⟩
theorem Zb{x:AV}{v:Value}(r:ak c x v):ak c (A.can x) v:=by
 cases x<;>try exact r
 case fm es=>
  unfold A.can;simp only;split
  ·rename_i hd;simp only[ak]at r ⊢;obtain⟨b,e,hb,hx,aU,aY,k1,kw,l,k2,k3⟩:=r;have hp:=Xb es;obtain⟨l',j1,j2⟩:=XM hp.symm k2;refine⟨b,e,hb,hx,aU,aY,k1,kw,l',j1,.inr ⟨?_,?_⟩⟩
   ·rcases k3 with rfl|⟨k3,_⟩
    ·exact j2
    ·exact j2.trans k3
   ·exact⟨λp hp'=>hd.1 p (hp.mem_iff.1 hp'),(hp.map _).nodup_iff.2 hd.2⟩
  ·exact r
theorem Ig{b:Nat}:∀{l:List AV}{off:Nat},aT c b off l→aT c b off (l.map A.can)
 |[],off,_=>by simp [aT]
 |x::l,off,r=>by simp only[fJ,aT]at r ⊢;obtain⟨⟨v,h1,h2,h3⟩,h4⟩:=r;exact⟨⟨v,h1,h2,Zb h3⟩,Ig h4⟩
theorem Ih{sz b:Nat}:∀{l:List (List AV)}{off:Nat},aX c sz b off l→aX c sz b off (l.map (·.map A.can))
 |[],off,_=>by simp [aX]
 |x::l,off,r=>by simp only[fJ,aX,List.length_map]at r ⊢;exact⟨r.1,Ig r.2.1,Ih r.2.2⟩
theorem Yt(h:sV c c' σ n){p:Pl}{x x':bk}(e:A.JS σ n x=some x')(k:lU c p x):lU c' p x':=by
 have hos:∀av bV v,xE av=true→A.bP σ n 8 av=some bV→ak c av v→ak c' bV v:=λav bV v _ e r=>tV h 8 _ _ _ e r
 cases x with
 |box cs=>obtain⟨cs',e1,rfl⟩:=cL.1 e;obtain⟨h1,⟨⟨arr,t,h2,h3⟩,h4⟩⟩:=k;exact⟨h1,⟨arr,t,by rw[h.w];exact h2,by rw[List.length_map,IC 8 _ _ e1];exact h3⟩,Ig (zL h 8 hos _ _ _ _ e1 h4)⟩
 |arr g sz es=>obtain⟨es',e1,rfl⟩:=cL.1 e;obtain⟨h1,h2,h3,h4,⟨arr,t,h5,h6⟩,h7,h8,h9⟩:=k;exact⟨h1,h2,h3,h4,⟨arr,t,by rw[h.w];exact h5,h6⟩,by rw[List.length_map,Bu 8 _ _ e1];exact h7,Ih (BC h 8 hos _ _ _ _ _ e1 h8),λarr t fz e=>h9 arr t fz (by rw[←h.w];exact e)⟩
 |kR g sz es=>obtain⟨es',e1,rfl⟩:=cL.1 e;obtain⟨h1,h2,h3,h4,⟨arr,t,h5,h6⟩,h7,h8,h9⟩:=k;exact⟨h1,h2,h3,h4,⟨arr,t,by rw[h.w];exact h5,h6⟩,by rw[List.length_map,Bu 8 _ _ e1];exact h7,Ih (BC h 8 hos _ _ _ _ _ e1 h8),λarr t fz e=>h9 arr t fz (by rw[←h.w];exact e)⟩
 |map es=>obtain⟨es',e1,rfl⟩:=cL.1 e;obtain⟨h1,aU,aY,h2,hwf,h3⟩:=k;exact⟨h1,aU,aY,by rw[h.w];exact h2,hwf,Ej h 8 hos _ _ _ e1 h3⟩
 |it cur left=>cases e
theorem NF{n:Nat}:∀{F4 F5 τ:Heap},A.Ai σ n F4 F5=some τ→τ.length=F4.length∧F4.length≤F5.length∧∀(i:Nat)x,τ[i]? =some x→∃b b',F4[i]? =some b∧F5[i]? =some b'∧((b'=b∧x=b)∨A.JS σ n b'=some x)
 |[],F5,τ,h=>by simp only[A.Ai]at h;injection h with h;subst h;simp
 |_::_,[],τ,h=>by simp [A.Ai]at h
 |b::r,b'::r',τ,h=>by
  simp only[A.Ai]at h;obtain⟨y,h1,h2⟩:=bg.1 h;obtain⟨Dl,h3,rfl⟩:=cL.1 h2;obtain⟨k1,k2,k3⟩:=NF h3;refine⟨by simp [k1],by simp;omega,λi x hi=>?_⟩;cases i with
  |zero=>
   simp only[List.getElem?_cons_zero,Option.some.injEq]at hi;subst hi;refine⟨b,b',rfl,rfl,?_⟩;split at h1
   ·rename_i e;injection h1 with h1
    exact .inl ⟨e,h1.symm⟩
   ·exact .inr h1
  |succ i=>exact k3 i x hi
end
section
variable {X : Fx}
def mJ.Ok:mJ→Prop
 |.N g=>∀c a v,ak c a v→ak c (g a) v
 |_=>True
theorem wW(hs:dB X){f:FuncId}{fn:Func}{keep:mJ}(hkeep:keep.Ok){bO:jy}{args:List AV}{σ σ':Heap}{r:AV}(hf:X.P.funcs[f]? =some fn)(EX:∀cB w,(callFunc f cB).run X.P w=.ok (.enter f cB) w)
  (hr:mO X keep bO fn args σ=some (r,σ')):lC X.P X.nm f args σ r σ':=by
 refine .inl ⟨f,EX,λz vs hnm hlt hh ha=>?_⟩;unfold mO at hr;cases hb:fn.body with
 |none=>rw[hb]at hr;cases hr
 |some c=>
  rw[hb]at hr;simp only at hr;cases hc:(Nat.ble args.length fn.ntmps&&X.n==fn.ntmps)
  ·rw[hc]at hr;cases hr
  ·rw[hc]at hr;simp only[Bool.not_true,aV]at hr;simp only[eH,beq_iff_eq]at hc;obtain⟨hc1,nG⟩:=hc;have hle:args.length≤fn.ntmps:=Nat.le_of_ble_eq_true hc1;have hal:=ha.length;have adK:args.length=vs.size:=by simpa using hal
   have hst:St X z ⟨args++List.replicate (fn.ntmps-args.length) (.aD []),λ_=>none,σ⟩ {tmps:=vs++Array.replicate (fn.ntmps-vs.size) undef,defers:=[]} z.w z.E bY:=by
    have Q6:∀i av,(args++List.replicate (fn.ntmps-args.length) (.aD []))[i]? =some av→ak (ctx z z.w z.E bY) av ((vs++Array.replicate (fn.ntmps-vs.size) undef).getD i undef):=by
     intro i av hi;by_cases hlt':i<args.length
     ·rw[fE hlt']at hi;obtain⟨v,k1,k2⟩:=ha.nth hi
      have:(vs++Array.replicate (fn.ntmps-vs.size) undef).getD i undef=v:=by rw[kO,Array.getElem?_append_left (by omega),←Array.getElem?_toList,k1];rfl
      rw[this];exact k2
     ·rw[fV (by omega)]at hi;have hm:=dF hi;rw[List.mem_replicate]at hm;rw[hm.2]
      have:(vs++Array.replicate (fn.ntmps-vs.size) undef).getD i undef=undef:=by rw[kO,Array.getElem?_append_right (by omega),Array.getElem?_replicate];split<;>rfl
      rw[this];simp only[ak];exact⟨#[],rfl,by simp [aC]⟩
    refine⟨by simp;omega,by simp;omega,λi av hi=>Slot.of (Q6 i av hi),λi cs hi=>?_,(λt p hp=>by cases hp),(λi b hb=>by cases hb),(λi j b hb=>by cases hb),hh,rfl,?_,hnm.symm⟩
    ·have:=Q6 i _ hi;simp [ak]at this
    ·exact⟨rfl,rfl,rfl,ay _,λ_ _ _=>rfl,λi p hp=>.inr ⟨p,hp,rfl⟩,λi p hp=>⟨p,hp,.inl rfl⟩,hlt,λp hp=>hh.lt hp⟩
   refine calls_of_wp hf hb (sC hs c bO _ _ _ _ _ _ _ _ hr hst λe s' a' w' E' bw h' _ hk=>?_)
   have hno:Ext (ctx z w' E' bw) (ctx z w' E' bY):=Ext.same rfl rfl (λb k=>by
    rcases k with k|k|⟨i,k⟩
    ·exact .inl k
    ·exact .inr (.inl k)
    ·cases k) rfl
   have Ro:∀(x:AV)(v:Value)(r:AV)(σ':Heap),ak (ctx z w' E' bw) x v→A.fin σ x s'.σ=some (r,σ')→∃jA,Out z w' jA∧eB (ctx z w' jA bY) σ'∧ak (ctx z w' jA bY) r v:=by
     intro x v r σ' rv k3;unfold A.fin at k3;split at k3
     ·rename_i he;simp only[Option.some.injEq,Prod.mk.injEq]at k3;obtain⟨rfl,rfl⟩:=k3;exact⟨E',h'.out,by rw[←he];exact h'.heap.mono hno rfl (λp hp=>rfl),ak.mono hno _ _ rv⟩
     ·split at k3
      ·rename_i he;obtain⟨r',k6,k7⟩:=cL.1 k3;simp only[Prod.mk.injEq]at k7;obtain⟨rfl,rfl⟩:=k7;have hlen:=h'.heap.len;simp only[ctx]at hlen;have hzl:z.E.length=σ.length:=hh.len
       have hle2:σ.length≤s'.σ.length:=by have:=congrArg List.length he;simp at this;omega
       have oB:∀(id:Nat)(p:Pl),id<σ.length→E'[id]? =some p→(E'.take σ.length)[id]? =some p:=λid p hlt' hp=>by rw[List.getElem?_take_of_lt hlt'];exact hp
       have qX:∀(id:Nat)(p:Pl),(E'.take σ.length)[id]? =some p→id<σ.length∧E'[id]? =some p:=λid p hp=>by
        rw[List.getElem?_take]at hp;split at hp
        ·exact⟨by assumption,hp⟩
        ·cases hp
       have qM:sV (ctx z w' E' bw) (ctx z w' (E'.take σ.length) bY) s'.σ σ.length:=by
        refine⟨rfl,rfl,λb k=>?_,oB,h'.heap,λid p hge hp k=>?_⟩
        ·rcases k with k|⟨p,hp,k⟩|⟨i,k⟩
         ·exact .inl k
         ·exact .inr (.inl ⟨p,uo hp,k⟩)
         ·cases k
        ·rcases k with k|⟨q,hq,k⟩|⟨i,k⟩
         ·have hb:=hlt _ k;rcases h'.out.fresh' id p hp with e|⟨q,hq,_⟩
          ·omega
          ·rw[ku (by omega)]at hq;cases hq
         ·obtain⟨j,hj,rfl⟩:=List.mem_iff_getElem.1 hq;obtain⟨h1,h2⟩:=qX j _ (cI hj);have:=h'.heap.inj j id _ p h2 hp k;omega
         ·cases k
       have heq:∀(id:Nat),id<σ.length→σ[id]? =s'.σ[id]? :=λid hlt'=>by have h1:(List.take σ.length s'.σ)[id]? =s'.σ[id]? :=List.getElem?_take_of_lt hlt';rw[he]at h1;exact h1
       have held:tg (ctx z z.w z.E bY) (ctx z w' E' bw) (ctx z w' (E'.take σ.length) bY):=
        ⟨rfl,rfl,qM.X,λid p0 p e0 e1=>oB id p (by have:=(bU.1 e0).1;simp only[ctx]at this;omega) e1⟩
       refine⟨E'.take σ.length,?_,?_,tV qM 8 _ _ _ k6 rv⟩
       ·have o:=h'.out
        exact⟨o.os,o.tape,o.output,o.size,o.stay,λi p hp=>o.fresh' i p (qX i p hp).2,λi p hp=>by
         obtain⟨p',m1,m2⟩:=o.env i p hp
         exact⟨p',oB i p' (by have:=(bU.1 hp).1;omega) m1,m2⟩,o.lt,o.mine⟩
       ·refine⟨by simp only[ctx,gn];omega,λi j p q hp hq e=>h'.heap.inj i j p q (qX i p hp).2 (qX j q hq).2 e,λi p x hp hx=>?_⟩;obtain⟨hi,hp2⟩:=qX i p hp;have dn:z.E[i]? =some z.E[i]:=cI (by omega);exact IA held (hh.blk i _ x dn hx) (h'.heap.blk i p x hp2 (by rw[←heq i hi];exact hx))
      ·cases k3
   have Cd:∀(x:AV)(v:Value)(r:AV)(σ':Heap),ak (ctx z w' E' bw) x v→A.Cd σ x s'.σ=some (r,σ')→∃jA,Out z w' jA∧eB (ctx z w' jA bY) σ'∧ak (ctx z w' jA bY) r v:=by
     intro x v r σ' rv k3;unfold A.Cd at k3;obtain⟨τ,q0,k4⟩:=bg.1 k3;obtain⟨r',k6,k7⟩:=cL.1 k4;simp only[Prod.mk.injEq]at k7;obtain⟨rfl,rfl⟩:=k7;obtain⟨q1,hle2,q3⟩:=NF q0;have hlen:=h'.heap.len;simp only[ctx]at hlen;have hzl:z.E.length=σ.length:=hh.len;have oB:∀(id:Nat)(p:Pl),id<σ.length→E'[id]? =some p→(E'.take σ.length)[id]? =some p:=λid p hlt' hp=>by rw[List.getElem?_take_of_lt hlt'];exact hp
     have qX:∀(id:Nat)(p:Pl),(E'.take σ.length)[id]? =some p→id<σ.length∧E'[id]? =some p:=λid p hp=>by
      rw[List.getElem?_take]at hp;split at hp
      ·exact⟨by assumption,hp⟩
      ·cases hp
     have qM:sV (ctx z w' E' bw) (ctx z w' (E'.take σ.length) bY) s'.σ σ.length:=by
      refine⟨rfl,rfl,λb k=>?_,oB,h'.heap,λid p hge hp k=>?_⟩
      ·rcases k with k|⟨p,hp,k⟩|⟨i,k⟩
       ·exact .inl k
       ·exact .inr (.inl ⟨p,uo hp,k⟩)
       ·cases k
      ·rcases k with k|⟨q,hq,k⟩|⟨i,k⟩
       ·have hb:=hlt _ k;rcases h'.out.fresh' id p hp with e|⟨q,hq,_⟩
        ·omega
        ·rw[ku (by omega)]at hq;cases hq
       ·obtain⟨j,hj,rfl⟩:=List.mem_iff_getElem.1 hq;obtain⟨h1,h2⟩:=qX j _ (cI hj);have:=h'.heap.inj j id _ p h2 hp k;omega
       ·cases k
     have held:tg (ctx z z.w z.E bY) (ctx z w' E' bw) (ctx z w' (E'.take σ.length) bY):=
      ⟨rfl,rfl,qM.X,λid p0 p e0 e1=>oB id p (by have:=(bU.1 e0).1;simp only[ctx]at this;omega) e1⟩
     refine⟨E'.take σ.length,?_,?_,tV qM 8 _ _ _ k6 rv⟩
     ·have o:=h'.out
      exact⟨o.os,o.tape,o.output,o.size,o.stay,λi p hp=>o.fresh' i p (qX i p hp).2,λi p hp=>by
       obtain⟨p',m1,m2⟩:=o.env i p hp
       exact⟨p',oB i p' (by have:=(bU.1 hp).1;omega) m1,m2⟩,o.lt,o.mine⟩
     ·refine⟨by simp only[ctx,gn];omega,λi j p q hp hq e=>h'.heap.inj i j p q (qX i p hp).2 (qX j q hq).2 e,λi p x hp hx=>?_⟩;obtain⟨hi,hp2⟩:=qX i p hp;obtain⟨b,b',m1,m2,m3⟩:=q3 i x hx;rcases m3 with⟨rfl,rfl⟩|m3
      ·have dn:z.E[i]? =some z.E[i]:=cI (by omega);exact IA held (hh.blk i _ x dn m1) (h'.heap.blk i p x hp2 m2)
      ·exact Yt qM m3 (h'.heap.blk i p b' hp2 m2)
   have done:∀(hk:uB X s' fn.results.toList (λvs=>keep.run args σ (one vs) s'.σ)=some (r,σ')),
     a'.defers=[]∧∃v,(results fn a'.tmps).run X.P w'=.ok v w'∧∃v' E',Ending.returned v=.returned v'∧Out z w' E'∧eB (ctx z w' E' bY) σ'∧ak (ctx z w' E' bY) r v':=by
    intro hk;refine⟨h'.defers,?_⟩;obtain⟨us,kD,k1,k2,k3⟩:=IJ h' _ _ _ hk;obtain⟨v,k4,k5⟩:=VZ k1;have rv:=k5 _ _ k2;refine⟨v,k4,v,?_⟩
    have kept:∃E',Ending.returned v=.returned v∧Out z w' E'∧eB (ctx z w' E' bY) s'.σ∧ak (ctx z w' E' bY) (one kD) v:=
     ⟨E',rfl,h'.out,h'.heap.mono hno rfl (λp hp=>rfl),ak.mono hno _ _ rv⟩
    cases keep with
    |K=>simp only[mJ.run,Option.some.injEq,Prod.mk.injEq]at k3;obtain⟨rfl,rfl⟩:=k3;exact kept
    |F=>obtain⟨jA,q1,q2,q3⟩:=Ro _ _ _ _ rv k3;exact⟨jA,rfl,q1,q2,q3⟩
    |G=>obtain⟨jA,q1,q2,q3⟩:=Cd _ _ _ _ rv k3;exact⟨jA,rfl,q1,q2,q3⟩
    |N g=>simp only[mJ.run]at k3;obtain⟨⟨r0,aL⟩,k6,k7⟩:=cL.1 k3;simp only[Prod.mk.injEq]at k7;obtain⟨rfl,rfl⟩:=k7;obtain⟨jA,q1,q2,q3⟩:=Ro _ _ _ _ rv k6;exact⟨jA,rfl,q1,q2,hkeep _ _ _ q3⟩
    |R=>
     simp only[mJ.run]at k3;obtain⟨x,hx⟩:∃x,x=one kD:=⟨_,rfl⟩
     rw[←hx]at rv k3 kept;unfold A.renew at k3;split at k3
     ·rename_i id g sz off len;split at k3
      ·rename_i g' sz' es hs';split at k3
       ·rename_i hc;obtain⟨rfl,rfl,hle,adQ⟩:=hc;simp only[ak]at rv;obtain⟨hg,p,e1,e2,qa,cp,rfl,hcap,rx⟩:=rv;obtain⟨j1,j2,j3,j4,⟨arr,bt,j5,j6⟩,j7,j8,j9⟩:=h'.heap.blk id p _ e1 hs';obtain⟨q1,q2,q3⟩:=rx j1.symm;have hid:id<E'.length:=(bU.1 e1).1;have lP:((es.drop off).take len).length=len:=by simp;omega
        have hmul:(off+len)*sz≤es.length*sz:=kC _ hle;rw[eX]at hmul;split at k3
        ·simp only[Option.some.injEq,Prod.mk.injEq]at k3;obtain⟨rfl,rfl⟩:=k3
         have AK:=h'.move (id:=id) (p:=p) (p':=⟨p.b,p.base+off*sz,A.gen args+1,sz,p.mQ⟩) (w':=w') (blk:=.arr (A.gen args+1) sz ((es.drop off).take len)) e1
          ⟨by omega,by show p.g<A.gen args+1;omega⟩ rfl rfl rfl (ay _) (λb _ _=>rfl) (.inl rfl) (λhx=>by
           refine⟨rfl,by show 0<A.gen args+1;omega,rfl,j4,⟨arr,bt,j5,j6⟩,?_,?_,j9⟩
           ·rw[lP];show p.base+off*sz+len*sz≤p.mQ;omega
           ·exact aX.mono hx sz p.b rfl _ _ ((j8.drop off).take len))
         have acj:Ext (ctx z w' (E'.set id ⟨p.b,p.base+off*sz,A.gen args+1,sz,p.mQ⟩) bw) (ctx z w' (E'.set id ⟨p.b,p.base+off*sz,A.gen args+1,sz,p.mQ⟩) bY):=Ext.same rfl rfl (λb k=>by
          rcases k with k|k|⟨i,k⟩
          ·exact .inl k
          ·exact .inr (.inl k)
          ·cases k) rfl
         refine⟨_,rfl,AK.1.out,AK.1.heap.mono acj rfl (λp hp=>rfl),?_⟩;simp only[ak];refine⟨by omega,⟨p.b,p.base+off*sz,A.gen args+1,sz,p.mQ⟩,by simp [ctx,hid],ay _,qa,cp,rfl,hcap,λ_=>⟨rfl,?_,?_⟩⟩
         ·rcases q2 with q2|q2
          ·exact .inl q2
          ·exact .inr (by rw[q2,q1];simp)
         ·simp only[Nat.zero_add];rw[q1,eX]at q3;omega
        ·unfold A.merge at k3;split at k3
         ·rename_i gu g0 Ki lK Kf rest _ _ _;split at k3
          ·rename_i g1 vi qv hs0;split at k3
           ·rename_i Jv;obtain⟨adP,adt,rfl,hg1,hsame,hF,RG⟩:=Jv;simp only[Option.some.injEq,Prod.mk.injEq]at k3;obtain⟨rfl,rfl⟩:=k3;have hzl:z.E.length=σ.length:=hh.len;have hEl:E'.length=s'.σ.length:=h'.heap.len;have ab7:gu<σ.length:=(bU.1 hs0).1;obtain⟨pz,AO⟩:∃pz,z.E[gu]? =some pz:=⟨_,cI (by omega)⟩
            obtain⟨y1,y2,y3,y4,y5,y6,y7,y8⟩:=hh.blk gu pz _ AO hs0;obtain⟨p'',qU⟩:∃p'':Pl,p''=⟨p.b,p.base+off*vi,A.gen (.os gu g0 Ki lK Kf::rest)+1,vi,p.mQ⟩:=⟨_,rfl⟩
            have hne:id≠gu:=by omega
            have Q2:∀(j:Nat)(q p2:Pl),j≠gu→z.E[j]? =some q→E'[j]? =some p2→p2=q:=by
             intro j q p2 hj hq hp2;have hjl:j<σ.length:=by rw[←hzl];exact(bU.1 hq).1
             obtain⟨p3,m1,m2⟩:=h'.out.env j q hq;rw[hp2]at m1;injection m1 with m1;subst m1
             rcases m2 with m2|⟨m2,m3⟩
             ·exact m2
             ·have hsj:=hsame j hjl hj;have hx0:σ[j]? =some σ[j]:=cI hjl;have u1:=IQ (hh.blk j q _ hq hx0);have u2:=IQ (h'.heap.blk j p2 _ hp2 (by rw[hsj];exact hx0));omega
            have yF:∃p0,E'[gu]? =some p0:=⟨_,cI (by omega)⟩
            obtain⟨p0,yF⟩:=yF;have adU:p0.g=g1:=IQ (h'.heap.blk gu p0 _ yF hF)
            have hfr:z.w.heap.size≤p.b:=by
             rcases h'.out.fresh' id p e1 with k|⟨q,hq,_⟩
             ·exact k
             ·rw[ku (by omega)]at hq;cases hq
            have hm:p∈E':=dF e1
            have hx:Ext (ctx z w' E' bw) (ctx z w' (E'.set gu p'') bY):=by
             refine⟨ay _,λb hb hn=>⟨rfl,?_⟩,λj q hq=>?_,rfl⟩
             ·rintro(k|⟨q,hq,k⟩|⟨i,k⟩)
              ·exact hn (.inl k)
              ·rcases List.mem_or_eq_of_mem_set hq with hq|hq
               ·exact hn (.inr (.inl ⟨q,hq,k⟩))
               ·exact hn (.inr (.inl ⟨p,hm,by rw[←k,hq,qU]⟩))
              ·cases k
             ·by_cases e:gu=j
              ·subst e;simp only[ctx]at hq;rw[yF]at hq;injection hq with hq;subst hq
               exact⟨p'',by simp only[ctx];rw[lZ (bU.1 yF).1],.inr ⟨by omega,by rw[qU];show p0.g<A.gen (.os gu g0 Ki lK Kf::rest)+1;omega⟩⟩
              ·exact⟨q,by simp only[ctx]at hq ⊢;rw[List.getElem?_set_ne e];exact hq,.inl rfl⟩
            have CG:∀(j:Nat)(q:Pl),(z.E.set gu p'')[j]? =some q→(j=gu∧q=p'')∨(j≠gu∧z.E[j]? =some q):=λj q hq=>by
             by_cases e:gu=j
             ·subst e;rw[lZ (bU.1 AO).1]at hq;injection hq with hq;exact .inl ⟨rfl,hq.symm⟩
             ·rw[List.getElem?_set_ne e]at hq;exact .inr ⟨λe'=>e e'.symm,hq⟩
            have SA:∀(j:Nat)(q:Pl),j≠gu→z.E[j]? =some q→E'[j]? =some q:=λj q hj hq=>by have hjl:j<z.E.length:=(bU.1 hq).1;obtain⟨p3,m1,_⟩:=h'.out.env j q hq;rw[m1,Q2 j q p3 hj hq m1]
            have held:tg (ctx z z.w z.E bY) (ctx z w' (E'.set gu p'') bY) (ctx z w' (z.E.set gu p'') bY):=by
             refine⟨rfl,rfl,λb k=>?_,λj q0 q CV hq=>?_⟩
             ·rcases k with k|⟨q,hq,k⟩|⟨i,k⟩
              ·exact .inl k
              ·obtain⟨j,hj⟩:=List.mem_iff_getElem?.1 hq;rcases CG j q hj with⟨e3,e4⟩|⟨e3,e4⟩
               ·subst e3;exact .inr (.inl ⟨q,dF (i:=j) (by rw[lZ (bU.1 yF).1,e4]),k⟩)
               ·exact .inr (.inl ⟨q,dF (i:=j) (by rw[List.getElem?_set_ne (λe=>e3 e.symm)];exact SA j q e3 e4),k⟩)
              ·cases k
             ·simp only[ctx]at CV hq ⊢;by_cases e:gu=j
              ·subst e;rw[lZ (bU.1 yF).1]at hq;rw[lZ (bU.1 AO).1];exact hq
              ·rw[List.getElem?_set_ne e]at hq ⊢;rw[Q2 j q0 q (λe'=>e e'.symm) CV hq];exact CV
            refine⟨z.E.set gu p'',rfl,?_,?_,?_⟩
            ·have o:=h'.out;refine⟨o.os,o.tape,o.output,o.size,o.stay,λj q hq=>?_,λj q hq=>?_,o.lt,o.mine⟩
             ·rcases CG j q hq with⟨e3,e4⟩|⟨e3,e4⟩
              ·left;rw[e4,qU];exact hfr
              ·exact .inr ⟨q,e4,rfl⟩
             ·by_cases e:gu=j
              ·subst e;rw[AO]at hq;injection hq with hq;subst hq
               exact⟨p'',lZ (bU.1 AO).1,.inr ⟨by omega,by rw[qU];show pz.g<A.gen (.os gu g0 Ki lK Kf::rest)+1;omega⟩⟩
              ·exact⟨q,by rw[List.getElem?_set_ne e];exact hq,.inl rfl⟩
            ·refine⟨by simp [ctx,hzl],λi j q r hq hr he=>?_,λi q x hq cO=>?_⟩
             ·have Rs:∀(j:Nat)(q:Pl),z.E[j]? =some q→q.b<z.w.heap.size:=λj q hq=>hh.lt (p:=q) (dF hq)
              rcases CG i q hq with⟨e3,e4⟩|⟨e3,e4⟩<;>rcases CG j r hr with⟨e5,e6⟩|⟨e5,e6⟩
              ·rw[e3,e5]
              ·have:=Rs j r e6;rw[e4,qU]at he;simp only at he;omega
              ·have:=Rs i q e4;rw[e6,qU]at he;simp only at he;omega
              ·exact hh.inj i j q r e4 e6 he
             ·rcases CG i q hq with⟨e3,e4⟩|⟨e3,e4⟩
              ·subst e3;rw[lZ ab7]at cO;injection cO with cO
               subst cO;subst e4;subst qU;refine⟨rfl,Nat.succ_pos _,rfl,j4,⟨arr,bt,j5,j6⟩,?_,?_,j9⟩
               ·rw[lP];show p.base+off*vi+len*vi≤p.mQ;omega
               ·refine O9 held vi p.b _ _ (λy hy=>?_) (aX.mono hx vi p.b rfl _ _ ((j8.drop off).take len));rcases RG y hy with k|k
                ·obtain⟨i,hi⟩:=List.mem_iff_getElem?.1 k;exact⟨_,_,(aX.nth y7 hi).2⟩
                ·exact OQ ha y k
              ·rw[List.getElem?_set_ne (λe=>e3 e.symm)]at cO;have hil:i<σ.length:=(bU.1 cO).1;exact IA held (hh.blk i q x e4 cO) ((h'.heap.blk i q x (SA i q e3 e4) (by rw[hsame i hil e3];exact cO)).mono hx rfl)
            ·simp only[ak];refine⟨Nat.succ_pos _,p'',by simp only[ctx];exact lZ (bU.1 AO).1,by rw[qU];exact ay _,qa,cp,by rw[lP],by rw[lP];exact hcap,λ_=>⟨by rw[qU],?_,?_⟩⟩
             ·rcases q2 with q2|q2
              ·exact .inl q2
              ·exact .inr (by rw[q2,q1,qU];simp)
             ·rw[qU];simp only[Nat.zero_add];rw[q1,eX]at q3;omega
           ·cases k3
          ·cases k3
         ·cases k3
       ·cases k3
      ·cases k3
     ·simp only[Option.some.injEq,Prod.mk.injEq]at k3;obtain⟨rfl,rfl⟩:=k3;exact kept
     ·simp only[Option.some.injEq,Prod.mk.injEq]at k3;obtain⟨rfl,rfl⟩:=k3;exact kept
     ·simp only[Option.some.injEq,Prod.mk.injEq]at k3;obtain⟨rfl,rfl⟩:=k3;exact kept
     ·cases k3
   cases e with
   |normal=>exact done hk
   |ret=>exact done hk
   |exit i=>cases hk
end
end
section
open Go.RowKit
inductive Sh where
 |k
 |s(sz:Nat)
 |e(sz:Nat)(l:List Sh)
 |a(l:List Sh)
 |t(l:List Sh)
 |p(l:List Sh)
namespace A
mutual
def nn:Sh→AV→AV
 |.k,v=>v
 |.s sz,v=>match v with|.aN=>.sl sz []|.ez=>.sl sz []|v=>v
 |.e sz l,v=>match v with|.aN=>.sl sz []|.ez=>.sl sz []|.sl sz' es=>.sl sz' (es.map (cN l))|v=>v
 |.a l,v=>match v with|.agg cs=>.agg (cN l cs)|v=>v
 |.t l,v=>match v with|.aD vs=>.aD (cN l vs)|v=>v
 |.p l,v=>match v with|.rp cs=>.rp (cN l cs)|v=>v
def cN:List Sh→List AV→List AV
 |[],vs=>vs
 |s::ss,vs=>match vs with|[]=>[]|v::vs=>nn s v::cN ss vs
end
def Kh:AV→Bool
 |.os ..=>true
 |.op ..=>true
 |.oe ..=>true
 |.om ..=>true
 |_=>false
def own:AV→Bool
 |.agg cs=>cs.any Kh
 |v=>Kh v
def qj:AV→Bool
 |.int ..=>true
 |.bool ..=>true
 |.str ..=>true
 |.np=>true
 |.aN=>true
 |.ez=>true
 |.nm=>true
 |.tD=>true
 |.sl _ []=>true
 |_=>false
def oR:AV→Bool
 |.agg cs=>cs.all qj
 |v=>qj v
def xS:AV→Bool
 |.aD vs=>vs.all oR
 |v=>oR v
def fresh(v:AV):Bool:=match v with
 |.os ..=>true
 |.om _=>true
 |v=>oR v
def tX:AV→Bool
 |.aD vs=>vs.all fresh
 |v=>fresh v
def BV:bk→Bool
 |.box cs=>cs.all qj
 |.arr _ _ es=>es.all λe=>e.all qj
 |.map es=>es.all λp=>oR p.1&&oR p.2
 |_=>false
def shift(n:Nat)(v:AV):AV:=match v with
 |.os id g sz off len=>.os (id+n) g sz off len
 |.om id=>.om (id+n)
 |v=>v
def sK(n:Nat):AV→AV
 |.aD vs=>.aD (vs.map (shift n))
 |v=>shift n v
noncomputable def wrap (ro:Bool) (cW:List Sh) (dm:Sh) (r:List AV→Heap→Option (AV×Heap)) (args:List AV) (σ:Heap):Option (AV×Heap):=bif ro&&args.any own then (dz σ 0 8 args).bind λargs=>(r (cN cW args) []).bind λq=>bif tX (nn dm q.1)&&q.2.all BV then some (sK σ.length (nn dm q.1),σ++q.2)else none else(r (cN cW args) σ).map λq=>(nn dm q.1,q.2)
noncomputable def EJ (m:List AV→Heap→Option (AV×Heap)) (args:List AV) (σ:Heap):Option (AV×Heap):=match args with
 |[.sl _ []]=>some (.ez,σ)
 |[.aN]=>some (.ez,σ)
 |[.ez]=>some (.ez,σ)
 |[.os _ _ _ _ 0]=>some (.ez,σ)
 |_=>m args σ
end A
def Sound(P:Program)(nm:List Nat)(f:FuncId)(m:List AV→Heap→Option (AV×Heap)):Prop:=∀args σ r σ',m args σ=some (r,σ')→lC P nm f args σ r σ'
section
variable {P : Program} {nm : List Nat} {f : FuncId} {c c' : RC}
theorem Qm{v:Value}(sz:Nat)(hsz:0<sz)(h:ak c .aN v):ak c (.sl sz []) v:=by simp only[ak]at h ⊢;subst h;exact⟨none,0,rfl,ay _,hsz,.inl trivial⟩
theorem Q0{v:Value}(sz:Nat)(hsz:0<sz)(h:ak c .ez v):ak c (.sl sz []) v:=by simp only[ak]at h ⊢;obtain⟨a,rfl⟩:=h;exact⟨a,0,rfl,ay _,hsz,.inl trivial⟩
mutual
def Sh.ok:Sh→Bool
 |.k=>true
 |.s sz=>Nat.blt 0 sz
 |.e sz l=>Nat.blt 0 sz&&Sh.fR l
 |.a l=>Sh.fR l
 |.t l=>Sh.fR l
 |.p l=>Sh.fR l
def Sh.fR:List Sh→Bool
 |[]=>true
 |x::l=>x.ok&&Sh.fR l
end
theorem PA:∀(l:List Sh)(cs:List AV),(A.cN l cs).length=cs.length
 |[],cs=>by simp [A.cN]
 |_::_,[]=>by simp [A.cN]
 |o::l,v::cs=>by simp [A.cN,PA l cs]
mutual
theorem ER:∀(s:Sh)(a:AV)(v:Value),s.ok=true→ak c a v→ak c (A.nn s a) v
 |.k,a,v,_,h=>by simpa [A.nn]using h
 |.s sz,a,v,ho,h=>by cases a<;>simp only[A.nn]<;>first|exact h|exact Qm sz (by simpa [Sh.ok]using ho) h|exact Q0 sz (by simpa [Sh.ok]using ho) h
 |.e sz l,a,v,ho,h=>by
  simp only[Sh.ok,eH]at ho;cases a<;>simp only[A.nn]<;>first|exact h|exact Qm sz (by simpa using ho.1) h|exact Q0 sz (by simpa using ho.1) h|skip
  simp only[ak]at h ⊢;obtain⟨a,cap,e,h1,h2,h3⟩:=h;refine⟨a,cap,by rw[List.length_map];exact e,by rw[List.length_map];exact h1,h2,?_⟩;rcases h3 with h3|⟨b,off,e1,e2,e3,e4⟩
  ·left;rw[h3];rfl
  ·right;exact⟨b,off,e1,e2,e3,Qk l ho.2 _ _ e4⟩
 |.a l,a,v,ho,h=>by
  simp only[Sh.ok]at ho;cases a<;>simp only[A.nn]<;>first|exact h|skip
  simp only[ak]at h ⊢;obtain⟨vs,e,h1,h2⟩:=h;exact⟨vs,e,BS l _ _ ho h1,h2⟩
 |.t ss,a,v,ho,h=>by
  simp only[Sh.ok]at ho;cases a<;>simp only[A.nn]<;>first|exact h|skip
  simp only[ak]at h ⊢;obtain⟨vs,e,h1⟩:=h;exact⟨vs,e,BS ss _ _ ho h1⟩
 |.p l,a,v,ho,h=>by
  simp only[Sh.ok]at ho;cases a<;>simp only[A.nn]<;>first|exact h|skip
  simp only[ak]at h ⊢;obtain⟨b,off,e,h1,h2,h3⟩:=h;exact⟨b,off,e,h1,h2,Jl l _ _ ho h3⟩
theorem BS:∀(ss:List Sh)(l:List AV)(vs:List Value),Sh.fR ss=true→aC c l vs→aC c (A.cN ss l) vs
 |[],l,vs,_,h=>by simpa [A.cN]using h
 |_::_,[],vs,_,h=>by simpa [A.cN]using h
 |s::ss,a::l,vs,ho,h=>by simp only[Sh.fR,eH]at ho;simp only[A.cN,aC]at h ⊢;obtain⟨v,vs',e,h1,h2⟩:=h;exact⟨v,vs',e,ER s a v ho.1 h1,BS ss l vs' ho.2 h2⟩
theorem Jl{b:Nat}:∀(l:List Sh)(cs:List AV)(off:Nat),Sh.fR l=true→aT c b off cs→aT c b off (A.cN l cs)
 |[],cs,off,_,h=>by simpa [A.cN]using h
 |_::_,[],off,_,h=>by simpa [A.cN]using h
 |o::l,a::cs,off,ho,h=>by simp only[Sh.fR,eH]at ho;simp only[A.cN,aT]at h ⊢;obtain⟨⟨v,h1,h2,h3⟩,h4⟩:=h;exact⟨⟨v,h1,h2,ER o a v ho.1 h3⟩,Jl l cs (off+1) ho.2 h4⟩
theorem Qk{sz b:Nat}(l:List Sh)(hl:Sh.fR l=true):∀(es:List (List AV))(off:Nat),aX c sz b off es→aX c sz b off (es.map (A.cN l))
 |[],off,h=>by simp [aX]
 |e::es,off,h=>by simp only[fJ,aX]at h ⊢;exact⟨by rw[PA];exact h.1,Jl l e off hl h.2.1,Qk l hl es _ h.2.2⟩
end
theorem Iq:∀{a:AV}{v:Value},A.qj a=true→ak c a v→ak c' a v:=by
 intro a v h r;cases a<;>simp only[A.qj]at h<;>first|(cases h;done)|skip
 case sl sz es=>
  cases es with
  |nil=>simp only[ak]at r ⊢;obtain⟨q,cap,e,h1,h2,_⟩:=r;exact⟨q,cap,e,h1,h2,.inl trivial⟩
  |cons _ _=>simp at h
 all_goals simpa [ak]using r
theorem Ni:∀{l:List AV}{vs:List Value},l.all A.qj=true→aC c l vs→aC c' l vs
 |[],vs,_,r=>by simpa [aC]using r
 |a::l,vs,h,r=>by simp only[List.all_cons,eH]at h;simp only[aC]at r ⊢;obtain⟨v,vs',e,h1,h2⟩:=r;exact⟨v,vs',e,Iq h.1 h1,Ni h.2 h2⟩
theorem Ir{a:AV}{v:Value}(h:A.oR a=true)(r:ak c a v):ak c' a v:=by
 unfold A.oR at h;split at h
 ·simp only[ak]at r ⊢;obtain⟨vs,e,h1,h2⟩:=r;exact⟨vs,e,Ni h h1,h2⟩
 ·exact Iq h r
theorem lC.conv{args args':List AV}{σ σ':Heap}{r r':AV}(h:lC P nm f args' σ r σ')(ha:∀c vs,aC c args vs→aC c args' vs)(hr:∀c v,ak c r v→ak c r' v):lC P nm f args σ r' σ':=by
 rcases h with⟨g,h1,h2⟩|h
 ·refine .inl ⟨g,h1,λz vs e1 e2 e3 e4=>(h2 z vs e1 e2 e3 (ha _ _ e4)).mono ?_⟩;rintro e w' ⟨v,E',k1,k2,k3,k4⟩;exact⟨v,E',k1,k2,k3,hr _ _ k4⟩
 ·refine .inr λz vs e1 e2 e3 e4=>?_
  obtain⟨v,w',E',k1,k2,k3,k4⟩:=h z vs e1 e2 e3 (ha _ _ e4);exact⟨v,w',E',k1,k2,k3,hr _ _ k4⟩
theorem N7{z0 z:Z}{w':World}{E':List Pl}{n:Nat}(hn:n=z.E.length){a:AV}{v:Value}(h:A.fresh a=true)(r:ak (ctx z0 w' E' bY) a v):ak (ctx z w' (z.E++E') bY) (A.shift n a) v:=by
 have key:∀(id:Nat)(p:Pl),E'[id]? =some p→(z.E++E')[id+n]? =some p:=λid p hp=>by rw[fV (by omega),hn,Nat.add_sub_cancel];exact hp
 unfold A.fresh at h;unfold A.shift;split at h
 ·simp only[ak]at r ⊢;obtain⟨hg,p,h1,h2,r⟩:=r;exact⟨hg,p,key _ _ h1,h2,r⟩
 ·simp only[ak]at r ⊢;obtain⟨p,h1,h2,r⟩:=r;exact⟨p,key _ _ h1,h2,r⟩
 ·exact Ir h r
theorem V9{z0 z:Z}{w':World}{E':List Pl}{n:Nat}(hn:n=z.E.length){vs:List AV}{v:Value}(h:vs.all A.fresh=true)(r:ak (ctx z0 w' E' bY) (.aD vs) v):ak (ctx z w' (z.E++E') bY) (A.sK n (.aD vs)) v:=by
 simp only[ak,A.sK]at r ⊢;obtain⟨us,rfl,r⟩:=r;refine⟨us,rfl,?_⟩;generalize us.toList=us' at r ⊢;induction vs generalizing us' with
 |nil=>simpa [aC]using r
 |cons x l ih=>simp only[List.all_cons,eH]at h;simp only[aC,fJ]at r ⊢;obtain⟨v,vs',e,h1,h2⟩:=r;exact⟨v,vs',e,N7 hn h.1 h1,ih h.2 _ h2⟩
theorem WQ{z0 z:Z}{w':World}{E':List Pl}{n:Nat}(hn:n=z.E.length){a:AV}{v:Value}(h:A.tX a=true)(r:ak (ctx z0 w' E' bY) a v):ak (ctx z w' (z.E++E') bY) (A.sK n a) v:=by
 by_cases ht:∃vs,a=.aD vs
 ·obtain⟨vs,rfl⟩:=ht;exact V9 hn h r
 ·have e1:A.tX a=A.fresh a:=by cases a<;>first|rfl|exact absurd ⟨_,rfl⟩ ht
  have e2:A.sK n a=A.shift n a:=by cases a<;>first|rfl|exact absurd ⟨_,rfl⟩ ht
  rw[e1]at h;rw[e2];exact N7 hn h r
theorem Hu{b:Nat}:∀{l:List AV}{off:Nat},l.all A.qj=true→c'.w=c.w→aT c b off l→aT c' b off l
 |[],off,_,_,_=>by simp [aT]
 |a::l,off,h,hw,r=>by simp only[List.all_cons,eH]at h;simp only[aT]at r ⊢;obtain⟨⟨v,h1,h2,h3⟩,h4⟩:=r;exact⟨⟨v,by rw[hw];exact h1,h2,Iq h.1 h3⟩,Hu h.2 hw h4⟩
theorem MP{sz b:Nat}:∀{l:List (List AV)}{off:Nat},(l.all λe=>e.all A.qj)=true→c'.w=c.w→aX c sz b off l→aX c' sz b off l
 |[],off,_,_,_=>by simp [aX]
 |a::l,off,h,hw,r=>by simp only[List.all_cons,eH]at h;simp only[aX]at r ⊢;obtain⟨h1,h2,h3⟩:=r;exact⟨h1,Hu h.1 hw h2,MP h.2 hw h3⟩
theorem Nj:∀{l:List (AV×AV)}{es:List MapEntry},(l.all λp=>A.oR p.1&&A.oR p.2)=true→bM c l es→bM c' l es
 |[],es,_,r=>by simpa [bM]using r
 |(k,v)::l,es,h,r=>by simp only[List.all_cons,eH]at h;simp only[bM]at r ⊢;obtain⟨e,es',h1,h2,h3,h4⟩:=r;exact⟨e,es',h1,Ir h.1.1 h2,Ir h.1.2 h3,Nj h.2 h4⟩
theorem Ws{p:Pl}{x:bk}(h:A.BV x=true)(hw:c'.w=c.w)(r:lU c p x):lU c' p x:=by
 cases x with
 |box cs=>obtain⟨h1,⟨⟨arr,t,h2,h3⟩,h4⟩⟩:=r;exact⟨h1,⟨arr,t,by rw[hw];exact h2,h3⟩,Hu h hw h4⟩
 |arr g sz es=>obtain⟨h1,h2,h3,h4,⟨arr,t,h5,h6⟩,h7,h8,h9⟩:=r;exact⟨h1,h2,h3,h4,⟨arr,t,by rw[hw];exact h5,h6⟩,h7,MP h hw h8,λarr t fz e=>h9 arr t fz (by rw[←hw];exact e)⟩
 |map es=>obtain⟨h1,aU,aY,h2,hwf,h3⟩:=r;exact⟨h1,aU,aY,by rw[hw];exact h2,hwf,Nj h h3⟩
 |kR g sz es=>cases h
 |it cur left=>cases h
theorem OH{z:Z}{σ σ':Heap}{r:AV}{v:Value}{w':World}{E':List Pl}(e2:∀b,z.X b→b<z.w.heap.size)(hh:eB (ctx z z.w z.E bY) σ)(hv:A.tX r=true)(hb:σ'.all A.BV=true)
  (k2:Out ⟨z.w,[],λ_=>False,z.nm⟩ w' E') (k3:eB (ctx ⟨z.w,[],λ_=>False,z.nm⟩ w' E' bY) σ') (k4:ak (ctx ⟨z.w,[],λ_=>False,z.nm⟩ w' E' bY) r v):
  ∃jA,Out z w' jA∧eB (ctx z w' jA bY) (σ++σ')∧ak (ctx z w' jA bY) (A.sK σ.length r) v:=by
 have hlen:z.E.length=σ.length:=hh.len;have hlen':E'.length=σ'.length:=k3.len;have hst:∀b,b<z.w.heap.size→w'.heap[b]? =z.w.heap[b]? :=λb hb=>k2.stay b hb (λp hp=>by cases hp)
 have hlt:∀p∈z.E,p.b<z.w.heap.size:=λp hp=>hh.lt hp
 have hfr:∀p∈E',z.w.heap.size≤p.b:=λp hp=>by
  rcases k2.fresh p hp with k|⟨q,hq,_⟩
  ·exact k
  ·cases hq
 have hx:Ext (ctx z z.w z.E bY) (ctx z w' (z.E++E') bY):=by
  refine⟨k2.size,λb hb hn=>⟨hst b hb,?_⟩,λi p hp=>⟨p,?_,.inl rfl⟩,rfl⟩
  ·rintro(k|⟨p,hp,k⟩|⟨i,k⟩)
   ·exact hn (.inl k)
   ·rcases eN.1 hp with hp|hp
    ·exact hn (.inr (.inl ⟨p,hp,k⟩))
    ·have:=hfr p hp;simp only[ctx]at hb;omega
   ·cases k
  ·simp only[ctx]at hp ⊢;rw[fE (bU.1 hp).1];exact hp
 have key:∀(i:Nat)(p:Pl),(z.E++E')[i]? =some p→(i<z.E.length∧z.E[i]? =some p)∨(z.E.length≤i∧E'[i-z.E.length]? =some p):=λi p hp=>by
  by_cases hi:i<z.E.length
  ·rw[fE hi]at hp;exact .inl ⟨hi,hp⟩
  ·rw[fV (by omega)]at hp;exact .inr ⟨by omega,hp⟩
 refine⟨z.E++E',⟨k2.os,k2.tape,k2.output,k2.size,λb hb _=>hst b hb,λi p hp=>?_,λi p hp=>⟨p,?_,.inl rfl⟩,e2,hlt⟩,⟨by simp [ctx,hlen,hlen'],λi j p q hp hq e=>?_,λi p x hp cO=>?_⟩,WQ hlen.symm hv k4⟩
 ·rcases key i p hp with⟨_,k⟩|⟨_,k⟩
  ·exact .inr ⟨p,k,rfl⟩
  ·exact .inl (hfr p (dF k))
 ·rw[fE (bU.1 hp).1];exact hp
 ·simp only[ctx]at hp hq;rcases key i p hp with⟨i1,k⟩|⟨i1,k⟩<;>rcases key j q hq with⟨j1,m⟩|⟨j1,m⟩
  ·exact hh.inj i j p q k m e
  ·have:=hlt p (dF k);have:=hfr q (dF m);omega
  ·have:=hlt q (dF m);have:=hfr p (dF k);omega
  ·have:=k3.inj _ _ p q k m e;omega
 ·simp only[ctx]at hp;rcases key i p hp with⟨i1,k⟩|⟨i1,k⟩
  ·rw[fE (by omega)]at cO;exact(hh.blk i p x k cO).mono hx (hst _ (hlt p (dF k)))
  ·rw[fV (by omega),←hlen]at cO;exact Ws (c:=ctx ⟨z.w,[],λ_=>False,z.nm⟩ w' E' bY) (nZ.1 hb x (dF cO)) rfl (k3.blk _ p x k cO)
theorem lC.RN{args args':List AV}{σ σ':Heap}{r:AV}(h:lC P nm f args' [] r σ')(ha:A.dz σ 0 8 args=some args')(hv:A.tX r=true)(hb:σ'.all A.BV=true):lC P nm f args σ (A.sK σ.length r) (σ++σ'):=by
 have hX:∀(z:Z)b,¬(ctx ⟨z.w,[],λ_=>False,z.nm⟩ z.w [] bY).X b:=by
  rintro z b (k|⟨p,hp,_⟩|⟨i,k⟩)
  ·exact k.elim
  ·cases hp
  ·cases k
 have qM:∀(z:Z),eB (ctx z z.w z.E bY) σ→sV (ctx z z.w z.E bY) (ctx ⟨z.w,[],λ_=>False,z.nm⟩ z.w [] bY) σ 0:=λz hh=>
  ⟨rfl,rfl,λb k=>(hX z b k).elim,λid p k=>absurd k (Nat.not_lt_zero _),hh,λid p _ _=>hX z _⟩
 have h0:∀(z:Z),eB (ctx ⟨z.w,[],λ_=>False,z.nm⟩ z.w [] bY) []:=λz=>by
  refine⟨rfl,λi j p q hp=>?_,λi p x hp=>?_⟩
  ·simp [ctx]at hp
  ·simp [ctx]at hp
 rcases h with⟨g,h1,h2⟩|h2
 ·refine .inl ⟨g,h1,λz vs e1 e2 hh e4=>?_⟩;have ha':aC (ctx ⟨z.w,[],λ_=>False,z.nm⟩ z.w [] bY) args' vs.toList:=zM (qM z hh) 8 (λav bV v _ e r=>tV (qM z hh) 8 _ _ _ e r) _ _ _ ha e4;refine(h2 ⟨z.w,[],λ_=>False,z.nm⟩ vs e1 (λb k=>k.elim) (h0 z) ha').mono ?_;rintro e w' ⟨v,E',k1,k2,k3,k4⟩;obtain⟨jA,q1,q2,q3⟩:=OH e2 hh hv hb k2 k3 k4;exact⟨v,jA,k1,q1,q2,q3⟩
 ·refine .inr λz vs e1 e2 hh e4=>?_
  have ha':aC (ctx ⟨z.w,[],λ_=>False,z.nm⟩ z.w [] bY) args' vs.toList:=zM (qM z hh) 8 (λav bV v _ e r=>tV (qM z hh) 8 _ _ _ e r) _ _ _ ha e4;obtain⟨v,w',E',k1,k2,k3,k4⟩:=h2 ⟨z.w,[],λ_=>False,z.nm⟩ vs e1 (λb k=>k.elim) (h0 z) ha';obtain⟨jA,q1,q2,q3⟩:=OH e2 hh hv hb k2 k3 k4;exact⟨v,w',jA,k1,q1,q2,q3⟩
theorem Sound.wrap{r:List AV→Heap→Option (AV×Heap)}(h:Sound P nm f r)(ro:Bool)(cW:List Sh)(dm:Sh)(hi:Sh.fR cW=true)(ho:dm.ok=true):Sound P nm f (A.wrap ro cW dm r):=by
 intro args σ v σ' e;unfold A.wrap at e;cases hc:(ro&&args.any A.own)
 ·rw[hc]at e;simp only[aV]at e;obtain⟨q,e1,e2⟩:=cL.1 e;injection e2 with e2 e3
  subst e2 e3;exact(h _ _ _ _ e1).conv (λc vs k=>BS _ _ _ hi k) (λc v k=>ER _ _ _ ho k)
 ·rw[hc]at e;simp only[bG]at e;obtain⟨args',e1,e2⟩:=bg.1 e;obtain⟨q,e3,e4⟩:=bg.1 e2;obtain⟨q1,q2⟩:=q;simp only at e4;cases hs:(A.tX (A.nn dm q1)&&q2.all A.BV)
  ·rw[hs]at e4;cases e4
  ·rw[hs]at e4;simp only[bG,Option.some.injEq,Prod.mk.injEq]at e4;obtain⟨rfl,rfl⟩:=e4;simp only[eH]at hs;exact((h _ _ _ _ e3).conv (args:=args') (λc vs k=>BS _ _ _ hi k) (λc v k=>ER _ _ _ ho k)).RN e1 hs.1 hs.2
end
theorem dB.of{X:Fx}{t:List (FuncId×(List AV→Heap→Option (AV×Heap)))}(hc:X.call=A.tab (λ_ _=>none) t) (ht:∀p∈t,Sound X.P X.nm p.1 p.2) (hd:∀f,Sound X.P X.nm f (X.dyn (X.nm.getD f 0))):dB X:=by
 refine⟨λf args σ r σ' h=>?_,λf=>hd f⟩;rw[hc]at h;clear hc;induction t with
 |nil=>cases h
 |cons p t ih=>
  obtain⟨m,x⟩:=p;simp only[A.tab]at h;cases hm:(f==m)
  ·rw[hm]at h;exact ih (λp hp=>ht p (um _ hp)) h
  ·rw[hm]at h;have:f=m:=by simpa using hm
   subst this;exact ht (f,x) (List.mem_cons_self) _ _ _ _ h
theorem Sound.none{P:Program}{nm:List Nat}{f:FuncId}:Sound P nm f (λ_ _=>Option.none):=λ_ _ _ _ h=>by cases h
theorem aO.nil{P:Program}{nm:List Nat}:∀p∈([]:List (FuncId×(List AV→Heap→Option (AV×Heap)))),Sound P nm p.1 p.2:=λ_ h=>by cases h
theorem aO.cons{P:Program}{nm:List Nat}{f:FuncId}{m:List AV→Heap→Option (AV×Heap)}{l:List (FuncId×(List AV→Heap→Option (AV×Heap)))}(h:Sound P nm f m)(t:∀p∈l,Sound P nm p.1 p.2):∀p∈(f,m)::l,Sound P nm p.1 p.2:=
 λp hp=>by rcases eM.1 hp with rfl|hp;exact h;exact t p hp
theorem nu.nil{P:Program}{nm:List Nat}:∀p∈([]:List (Nat×(List AV→Heap→Option (AV×Heap)))),∀f,nm.getD f 0=p.1→Sound P nm f p.2:=λ_ h=>by cases h
theorem nu.cons{P:Program}{nm:List Nat}{k:Nat}{m:List AV→Heap→Option (AV×Heap)}{l:List (Nat×(List AV→Heap→Option (AV×Heap)))}(h:∀f,nm.getD f 0=k→Sound P nm f m)(t:∀p∈l,∀f,nm.getD f 0=p.1→Sound P nm f p.2):∀p∈(k,m)::l,∀f,nm.getD f 0=p.1→Sound P nm f p.2:=
 λp hp=>by rcases eM.1 hp with rfl|hp;exact h;exact t p hp
theorem xq{P:Program}{nm:List Nat}{t:List (Nat×(List AV→Heap→Option (AV×Heap)))}(ht:∀p∈t,∀f,nm.getD f 0=p.1→Sound P nm f p.2)(f:FuncId):Sound P nm f (A.tab (λ_ _=>Option.none) t (nm.getD f 0)):=by
 induction t with
 |nil=>exact Sound.none
 |cons p t ih=>
  obtain⟨k,x⟩:=p;simp only[A.tab];cases hm:(nm.getD f 0==k)
  ·exact ih (λp hp=>ht p (um _ hp))
  ·exact ht (k,x) List.mem_cons_self f (by simpa using hm)
theorem aaN{nm:List Nat}{k g:Nat}(h:(nm.zipIdx.filter λp=>p.1==k)=[(k,g)]) (hk:(0==k)=false) {f:Nat} (hf:nm.getD f 0=k):f=g:=by
 have hlt:f<nm.length:=by
  rcases Nat.lt_or_ge f nm.length with e|e
  ·exact e
  ·simp only[List.getD,ku e,Option.getD_none]at hf;subst hf;simp at hk
 have:(k,f)∈nm.zipIdx.filter λp=>p.1==k:=by refine List.mem_filter.2 ⟨List.mem_iff_getElem?.2 ⟨f,?_⟩,by simp⟩;simp only[List.getD]at hf;rw[cI hlt]at hf;simp [cI hlt,←hf]
 rw[h]at this;simpa using this
theorem xg{P:Program}{nm:List Nat}{k g:Nat}{m:List AV→Heap→Option (AV×Heap)}(hs:Sound P nm g m)(h:(nm.zipIdx.filter λp=>p.1==k)=[(k,g)]) (hk:(0==k)=false):∀f,nm.getD f 0=k→Sound P nm f m:=
 λf hf=>by have e:=aaN h hk hf;subst e;exact hs
def fuel(F:(Nat→List AV→Heap→Option (AV×Heap))→List (Nat×(List AV→Heap→Option (AV×Heap)))):Nat→Nat→List AV→Heap→Option (AV×Heap)
 |0,_=>λ_ _=>none
 |n+1,k=>A.tab (λ_ _=>none) (F (fuel F n)) k
theorem M4{P:Program}{nm:List Nat}{F:(Nat→List AV→Heap→Option (AV×Heap))→List (Nat×(List AV→Heap→Option (AV×Heap)))}
  (h:∀rec,(∀f,Sound P nm f (rec (nm.getD f 0)))→∀p∈F rec,∀f,nm.getD f 0=p.1→Sound P nm f p.2):∀n f,Sound P nm f (fuel F n (nm.getD f 0))
 |0,f=>Sound.none
 |n+1,f=>xq (h (fuel F n) (M4 h n)) f
namespace A
def eP(f:AV→Heap→Option (AV×Heap)):List AV→Heap→Option (AV×Heap)
 |[x0],σ=>f x0 σ
 |_,_=>none
def dU(f:AV→AV→Heap→Option (AV×Heap)):List AV→Heap→Option (AV×Heap)
 |[x0,x1],σ=>f x0 x1 σ
 |_,_=>none
def oh(f:AV→AV→AV→Heap→Option (AV×Heap)):List AV→Heap→Option (AV×Heap)
 |[x0,x1,x2],σ=>f x0 x1 x2 σ
 |_,_=>none
def tr(f:AV→AV→AV→AV→Heap→Option (AV×Heap)):List AV→Heap→Option (AV×Heap)
 |[x0,x1,x2,x3],σ=>f x0 x1 x2 x3 σ
 |_,_=>none
def mg(f:AV→AV→AV→AV→AV→Heap→Option (AV×Heap)):List AV→Heap→Option (AV×Heap)
 |[x0,x1,x2,x3,x4],σ=>f x0 x1 x2 x3 x4 σ
 |_,_=>none
def Kt(f:AV→AV→AV→AV→AV→AV→Heap→Option (AV×Heap)):List AV→Heap→Option (AV×Heap)
 |[x0,x1,x2,x3,x4,x5],σ=>f x0 x1 x2 x3 x4 x5 σ
 |_,_=>none
def Ku(f:AV→AV→AV→AV→AV→AV→AV→Heap→Option (AV×Heap)):List AV→Heap→Option (AV×Heap)
 |[x0,x1,x2,x3,x4,x5,x6],σ=>f x0 x1 x2 x3 x4 x5 x6 σ
 |_,_=>none
end A
section
variable {X : Fx} {f : FuncId} {fn : Func} {bO : jy}
theorem Sound.Cm{m:AV→Heap→Option (AV×Heap)}(keep:mJ)(hkeep:keep.Ok)(hs:dB X)(hf:X.P.funcs[f]? =some fn)(hc:∀cB w,(callFunc f cB).run X.P w=.ok (.enter f cB) w)(he:∀(x0:AV) (σ:Heap),mO X keep bO fn [x0] σ=m x0 σ):Sound X.P X.nm f (A.eP m):=by
 intro args σ r σ' h;unfold A.eP at h;split at h
 ·exact wW hs hkeep hf hc ((he _ _).trans h)
 ·cases h
theorem Sound.wv{m:AV→AV→Heap→Option (AV×Heap)}(keep:mJ)(hkeep:keep.Ok)(hs:dB X)(hf:X.P.funcs[f]? =some fn)(hc:∀cB w,(callFunc f cB).run X.P w=.ok (.enter f cB) w)(he:∀(x0 x1:AV) (σ:Heap),mO X keep bO fn [x0,x1] σ=m x0 x1 σ):Sound X.P X.nm f (A.dU m):=by
 intro args σ r σ' h;unfold A.dU at h;split at h
 ·exact wW hs hkeep hf hc ((he _ _ _).trans h)
 ·cases h
theorem Sound.Fm{m:AV→AV→AV→Heap→Option (AV×Heap)}(keep:mJ)(hkeep:keep.Ok)(hs:dB X)(hf:X.P.funcs[f]? =some fn)(hc:∀cB w,(callFunc f cB).run X.P w=.ok (.enter f cB) w)(he:∀(x0 x1 x2:AV) (σ:Heap),mO X keep bO fn [x0,x1,x2] σ=m x0 x1 x2 σ):Sound X.P X.nm f (A.oh m):=by
 intro args σ r σ' h;unfold A.oh at h;split at h
 ·exact wW hs hkeep hf hc ((he _ _ _ _).trans h)
 ·cases h
theorem Sound.RV{m:AV→AV→AV→AV→Heap→Option (AV×Heap)}(keep:mJ)(hkeep:keep.Ok)(hs:dB X)(hf:X.P.funcs[f]? =some fn)(hc:∀cB w,(callFunc f cB).run X.P w=.ok (.enter f cB) w)(he:∀(x0 x1 x2 x3:AV) (σ:Heap),mO X keep bO fn [x0,x1,x2,x3] σ=m x0 x1 x2 x3 σ):Sound X.P X.nm f (A.tr m):=by
 intro args σ r σ' h;unfold A.tr at h;split at h
 ·exact wW hs hkeep hf hc ((he _ _ _ _ _).trans h)
 ·cases h
theorem Sound.Fo{m:AV→AV→AV→AV→AV→Heap→Option (AV×Heap)}(keep:mJ)(hkeep:keep.Ok)(hs:dB X)(hf:X.P.funcs[f]? =some fn)(hc:∀cB w,(callFunc f cB).run X.P w=.ok (.enter f cB) w)(he:∀(x0 x1 x2 x3 x4:AV) (σ:Heap),mO X keep bO fn [x0,x1,x2,x3,x4] σ=m x0 x1 x2 x3 x4 σ):Sound X.P X.nm f (A.mg m):=by
 intro args σ r σ' h;unfold A.mg at h;split at h
 ·exact wW hs hkeep hf hc ((he _ _ _ _ _ _).trans h)
 ·cases h
theorem Sound.acI{m:AV→AV→AV→AV→AV→AV→Heap→Option (AV×Heap)}(keep:mJ)(hkeep:keep.Ok)(hs:dB X)(hf:X.P.funcs[f]? =some fn)(hc:∀cB w,(callFunc f cB).run X.P w=.ok (.enter f cB) w)(he:∀(x0 x1 x2 x3 x4 x5:AV) (σ:Heap),mO X keep bO fn [x0,x1,x2,x3,x4,x5] σ=m x0 x1 x2 x3 x4 x5 σ):Sound X.P X.nm f (A.Kt m):=by
 intro args σ r σ' h;unfold A.Kt at h;split at h
 ·exact wW hs hkeep hf hc ((he _ _ _ _ _ _ _).trans h)
 ·cases h
theorem Sound.acJ{m:AV→AV→AV→AV→AV→AV→AV→Heap→Option (AV×Heap)}(keep:mJ)(hkeep:keep.Ok)(hs:dB X)(hf:X.P.funcs[f]? =some fn)(hc:∀cB w,(callFunc f cB).run X.P w=.ok (.enter f cB) w)(he:∀(x0 x1 x2 x3 x4 x5 x6:AV) (σ:Heap),mO X keep bO fn [x0,x1,x2,x3,x4,x5,x6] σ=m x0 x1 x2 x3 x4 x5 x6 σ):Sound X.P X.nm f (A.Ku m):=by
 intro args σ r σ' h;unfold A.Ku at h;split at h
 ·exact wW hs hkeep hf hc ((he _ _ _ _ _ _ _ _).trans h)
 ·cases h
end
end
abbrev o8:List Sh:=[.k,.k,.k,.k,.k,.k,(.s 3)]
abbrev sU:Sh:=(.a [(.s 3),(.s 4)])
section
set_option maxRecDepth 100000
noncomputable def aJ:List Nat:=[0,0,0,453,450,451,101,452,102,441,444,448,449,139,94,117,118,121,119,3,124,122,14,69,12,13,71,21,88,22,92,53,0,440,443,1,73,2,334,112,113,445,447,4,89,5,6,138,93,120,123,63,66,67,68,10,11,70,20,85,86,87,90,91,52,0,108,147,146,442,72,0,116,446,0,62,65,64,9,16,19,84,0,24,107,0,111,115,0,59,60,61,15,18,81,83,25,0,0,0,23,103,106,110,114,0,58,17,80,82,0,32,0,27,33,0,105,109,26,0,0,34,104,0,0,28,29,30,31,0,0,0,0,0,0,0,0,0,0,0,0,0,0,0,0,0]
section
variable {l : List (FuncId × (an → Heap → az))} {f : FuncId} {fn : Func} {ro : Bool} {cW : List Sh} {dm : Sh}
noncomputable def yu (l:List (FuncId×(an→Heap→az))) (L:List Nat) (n:Nat):Fx:=⟨Try.prog,aJ,A.tab (λ_ _=>none) l,λ_ _ _=>none,L,[],n,[]⟩
theorem q1{m:AV→Heap→az}(L:List Nat)(n:Nat)(bO:jy)(h:∀p∈l,Sound Try.prog aJ p.1 p.2)(hf:Try.prog.funcs[f]? =some fn)(hc:∀cB w,(callFunc f cB).run Try.prog w=.ok (.enter f cB) w)(he:∀(x0:AV) (σ:Heap),mO (yu l L n) .F bO fn [x0] σ=m x0 σ)(hi:Sh.fR cW=true)(ho:dm.ok=true):Sound Try.prog aJ f (A.wrap ro cW dm (A.eP m)):=Sound.wrap (Sound.Cm .F trivial (dB.of rfl h λ_=>Sound.none) hf hc he) _ _ _ hi ho
theorem q2{m:AV→AV→Heap→az}(L:List Nat)(n:Nat)(bO:jy)(h:∀p∈l,Sound Try.prog aJ p.1 p.2)(hf:Try.prog.funcs[f]? =some fn)(hc:∀cB w,(callFunc f cB).run Try.prog w=.ok (.enter f cB) w)(he:∀(x0 x1:AV) (σ:Heap),mO (yu l L n) .F bO fn [x0,x1] σ=m x0 x1 σ)(hi:Sh.fR cW=true)(ho:dm.ok=true):Sound Try.prog aJ f (A.wrap ro cW dm (A.dU m)):=Sound.wrap (Sound.wv .F trivial (dB.of rfl h λ_=>Sound.none) hf hc he) _ _ _ hi ho
theorem q3{m:AV→AV→AV→Heap→az}(L:List Nat)(n:Nat)(bO:jy)(h:∀p∈l,Sound Try.prog aJ p.1 p.2)(hf:Try.prog.funcs[f]? =some fn)(hc:∀cB w,(callFunc f cB).run Try.prog w=.ok (.enter f cB) w)(he:∀(x0 x1 x2:AV) (σ:Heap),mO (yu l L n) .F bO fn [x0,x1,x2] σ=m x0 x1 x2 σ)(hi:Sh.fR cW=true)(ho:dm.ok=true):Sound Try.prog aJ f (A.wrap ro cW dm (A.oh m)):=Sound.wrap (Sound.Fm .F trivial (dB.of rfl h λ_=>Sound.none) hf hc he) _ _ _ hi ho
theorem q4{m:AV→AV→AV→AV→Heap→az}(L:List Nat)(n:Nat)(bO:jy)(h:∀p∈l,Sound Try.prog aJ p.1 p.2)(hf:Try.prog.funcs[f]? =some fn)(hc:∀cB w,(callFunc f cB).run Try.prog w=.ok (.enter f cB) w)(he:∀(x0 x1 x2 x3:AV) (σ:Heap),mO (yu l L n) .F bO fn [x0,x1,x2,x3] σ=m x0 x1 x2 x3 σ)(hi:Sh.fR cW=true)(ho:dm.ok=true):Sound Try.prog aJ f (A.wrap ro cW dm (A.tr m)):=Sound.wrap (Sound.RV .F trivial (dB.of rfl h λ_=>Sound.none) hf hc he) _ _ _ hi ho
theorem q5{m:AV→AV→AV→AV→AV→Heap→az}(L:List Nat)(n:Nat)(bO:jy)(h:∀p∈l,Sound Try.prog aJ p.1 p.2)(hf:Try.prog.funcs[f]? =some fn)(hc:∀cB w,(callFunc f cB).run Try.prog w=.ok (.enter f cB) w)(he:∀(x0 x1 x2 x3 x4:AV) (σ:Heap),mO (yu l L n) .F bO fn [x0,x1,x2,x3,x4] σ=m x0 x1 x2 x3 x4 σ)(hi:Sh.fR cW=true)(ho:dm.ok=true):Sound Try.prog aJ f (A.wrap ro cW dm (A.mg m)):=Sound.wrap (Sound.Fo .F trivial (dB.of rfl h λ_=>Sound.none) hf hc he) _ _ _ hi ho
theorem q6{m:AV→AV→AV→AV→AV→AV→Heap→az}(L:List Nat)(n:Nat)(bO:jy)(h:∀p∈l,Sound Try.prog aJ p.1 p.2)(hf:Try.prog.funcs[f]? =some fn)(hc:∀cB w,(callFunc f cB).run Try.prog w=.ok (.enter f cB) w)(he:∀(x0 x1 x2 x3 x4 x5:AV) (σ:Heap),mO (yu l L n) .F bO fn [x0,x1,x2,x3,x4,x5] σ=m x0 x1 x2 x3 x4 x5 σ)(hi:Sh.fR cW=true)(ho:dm.ok=true):Sound Try.prog aJ f (A.wrap ro cW dm (A.Kt m)):=Sound.wrap (Sound.acI .F trivial (dB.of rfl h λ_=>Sound.none) hf hc he) _ _ _ hi ho
theorem q7{m:AV→AV→AV→AV→AV→AV→AV→Heap→az}(L:List Nat)(n:Nat)(bO:jy)(h:∀p∈l,Sound Try.prog aJ p.1 p.2)(hf:Try.prog.funcs[f]? =some fn)(hc:∀cB w,(callFunc f cB).run Try.prog w=.ok (.enter f cB) w)(he:∀(x0 x1 x2 x3 x4 x5 x6:AV) (σ:Heap),mO (yu l L n) .F bO fn [x0,x1,x2,x3,x4,x5,x6] σ=m x0 x1 x2 x3 x4 x5 x6 σ)(hi:Sh.fR cW=true)(ho:dm.ok=true):Sound Try.prog aJ f (A.wrap ro cW dm (A.Ku m)):=Sound.wrap (Sound.acJ .F trivial (dB.of rfl h λ_=>Sound.none) hf hc he) _ _ _ hi ho
end
end
abbrev aZ(n:Int):Prop:=-9223372036854775808≤n∧n≤9223372036854775807
abbrev bQ:Nat:=9223372036854775807
def dA{κ:Type}[DecidableEq κ](k:κ)(S:List κ):Bool:=S.any λx=>decide (x=k)
theorem Ek{κ:Type}[DecidableEq κ]{k:κ}{S:List κ}:dA k S=true↔k∈S:=by simp only[dA,List.any_eq_true,decide_eq_true_eq];exact⟨λ⟨x,h,e⟩=>e▸h,λh=>⟨k,h,rfl⟩⟩
theorem DX{κ:Type}[DecidableEq κ]{k:κ}{S:List κ}:dA k S=false↔k∉S:=by rw[←Ek];simp
def cC(n:Int):an:=[.ah n]
def abO(s:ByteArray):an:=[.str s]
def sl{α:Type}(sz:Nat)(c:α→an)(l:List α):AV:=.sl sz (l.map c)
def fR{α:Type}(p:α→Prop)(l:List α):Prop:=l.length≤bQ∧∀x∈l,p x
def iK(s:ByteArray):Prop:=s.size≤bQ
theorem PI(n:Int):A.aB 0 (cC n)=some (.ah n):=rfl
theorem PJ(s:ByteArray):A.aB 0 (abO s)=some (.str s):=rfl
structure P0 where
 time:Int
 way:Int
deriving DecidableEq
structure Jc where
 kind:Int
 aaU:(List P0)
structure QG where
 frm:Int
 to:Int
 start:Int
 Jt:Int
 time:Int
 Js:Jc
structure Y5 where
 time:Int
 level:Int
deriving DecidableEq
structure ko where
 low:Int
 high:Int
 name:ByteArray
deriving DecidableEq
def gm(x:ko):an:=[.ah x.low,.ah x.high,.str x.name]
theorem Wl(x:ko):(gm x).length=3:=rfl
def I7(x:ko):Prop:=aZ x.low∧aZ x.high∧iK x.name
theorem sj(x:ko):A.aB 0 (gm x)=some (.ah x.low):=rfl
theorem sk(x:ko):A.aB 1 (gm x)=some (.ah x.high):=rfl
theorem su(x:ko):A.aB 2 (gm x)=some (.str x.name):=rfl
theorem sx(x:ko):A.aG 0 3 (gm x)=some (.agg (gm x)):=rfl
theorem sw(x:ko):A.cells 3 (.agg (gm x))=some (gm x):=rfl
theorem sy(x:ko)(l:an)(h:l.length=3):A.bh 0 (gm x) l=some (gm x):=by simp [A.bh,Wl,h]
structure dR where
 name:ByteArray
 group:Int
 ef:Int
 cU:Int
 default:Int
 snap:Bool
 ranges:(List ko)
def b7(x:dR):an:=[.str x.name,.ah x.group,.ah x.ef,.ah x.cU,.ah x.default,.bool x.snap,sl 3 gm x.ranges]
theorem Wk(x:dR):(b7 x).length=7:=rfl
def I6(x:dR):Prop:=iK x.name∧aZ x.group∧aZ x.ef∧aZ x.cU∧aZ x.default∧(fR I7) x.ranges
theorem jO(x:dR):A.aB 0 (b7 x)=some (.str x.name):=rfl
theorem jP(x:dR):A.aB 1 (b7 x)=some (.ah x.group):=rfl
theorem jQ(x:dR):A.aB 2 (b7 x)=some (.ah x.ef):=rfl
theorem jR(x:dR):A.aB 3 (b7 x)=some (.ah x.cU):=rfl
theorem jS(x:dR):A.aB 4 (b7 x)=some (.ah x.default):=rfl
theorem jT(x:dR):A.aB 5 (b7 x)=some (.bool x.snap):=rfl
theorem jU(x:dR):A.aB 6 (b7 x)=some (sl 3 gm x.ranges):=rfl
theorem jW(x:dR):A.aG 0 7 (b7 x)=some (.agg (b7 x)):=rfl
theorem jV(x:dR):A.cells 7 (.agg (b7 x))=some (b7 x):=rfl
theorem jq(x:dR)(l:an)(h:l.length=7):A.bh 0 (b7 x) l=some (b7 x):=by simp [A.bh,Wk,h]
structure ct where
 name:ByteArray
 size:Int
 params:(List dR)
def cH(x:ct):an:=[.str x.name,.ah x.size,sl 7 b7 x.params]
theorem Vo(x:ct):(cH x).length=3:=rfl
def wY(x:ct):Prop:=iK x.name∧aZ x.size∧(fR I6) x.params
theorem gJ(x:ct):A.aB 0 (cH x)=some (.str x.name):=rfl
theorem gK(x:ct):A.aB 1 (cH x)=some (.ah x.size):=rfl
theorem gL(x:ct):A.aB 2 (cH x)=some (sl 7 b7 x.params):=rfl
theorem gO(x:ct):A.aG 0 3 (cH x)=some (.agg (cH x)):=rfl
theorem gM(x:ct):A.cells 3 (.agg (cH x))=some (cH x):=rfl
theorem gP(x:ct)(l:an)(h:l.length=3):A.bh 0 (cH x) l=some (cH x):=by simp [A.bh,Vo,h]
structure eG where
 cz:Int
 fq:ByteArray
 univ:Int
 address:Int
deriving DecidableEq
def eD(x:eG):an:=[.ah x.cz,.str x.fq,.ah x.univ,.ah x.address]
theorem Xa(x:eG):(eD x).length=4:=rfl
def Qn(x:eG):Prop:=aZ x.cz∧iK x.fq∧aZ x.univ∧aZ x.address
theorem ga(x:eG):A.aB 0 (eD x)=some (.ah x.cz):=rfl
theorem gb(x:eG):A.aB 1 (eD x)=some (.str x.fq):=rfl
theorem gd(x:eG):A.aB 2 (eD x)=some (.ah x.univ):=rfl
theorem gf(x:eG):A.aB 3 (eD x)=some (.ah x.address):=rfl
theorem gj(x:eG):A.aG 0 4 (eD x)=some (.agg (eD x)):=rfl
theorem gh(x:eG):A.cells 4 (.agg (eD x))=some (eD x):=rfl
theorem gl(x:eG)(l:an)(h:l.length=4):A.bh 0 (eD x) l=some (eD x):=by simp [A.bh,Xa,h]
structure dP where
 bL:(List ct)
 fA:(List eG)
def dr(x:dP):an:=[sl 3 cH x.bL,sl 4 eD x.fA]
theorem Ye(x:dP):(dr x).length=2:=rfl
def nQ(x:dP):Prop:=(fR wY) x.bL∧(fR Qn) x.fA
theorem iz(x:dP):A.aB 0 (dr x)=some (sl 3 cH x.bL):=rfl
theorem iA(x:dP):A.aB 1 (dr x)=some (sl 4 eD x.fA):=rfl
theorem iC(x:dP):A.aG 0 2 (dr x)=some (.agg (dr x)):=rfl
theorem iB(x:dP):A.cells 2 (.agg (dr x))=some (dr x):=rfl
theorem iD(x:dP)(l:an)(h:l.length=2):A.bh 0 (dr x) l=some (dr x):=by simp [A.bh,Ye,h]
structure aS where
 unit:Int
 param:ByteArray
deriving DecidableEq
def cu(x:aS):an:=[.ah x.unit,.str x.param]
theorem Yd(x:aS):(cu x).length=2:=rfl
def aby(x:aS):Prop:=aZ x.unit∧iK x.param
theorem NW(x:aS):A.aB 0 (cu x)=some (.ah x.unit):=rfl
theorem NX(x:aS):A.aB 1 (cu x)=some (.str x.param):=rfl
theorem PK(x:aS):A.aG 0 2 (cu x)=some (.agg (cu x)):=rfl
theorem O4(x:aS):A.cells 2 (.agg (cu x))=some (cu x):=rfl
theorem I9(x:aS)(l:an)(h:l.length=2):A.bh 0 (cu x) l=some (cu x):=by simp [A.bh,Yd,h]
structure aA where
 key:aS
 level:Int
deriving DecidableEq
def aH(x:aA):an:=[.ah x.key.unit,.str x.key.param,.ah x.level]
def NS(x:aA):Prop:=aby x.key∧aZ x.level
structure O3 where
 cz:Int
 title:ByteArray
 ac6:(List aA)
structure iF where
 dg:(List Int)
 block:Int
 eR:Int
def kS(x:iF):an:=[sl 1 cC x.dg,.ah x.block,.ah x.eR]
def Q8(x:iF):Prop:=(fR aZ) x.dg∧aZ x.block∧aZ x.eR
structure Jd where
 level:Int
 ade:Int
deriving DecidableEq
structure EU where
 key:aS
 value:Jd
 release:Bool
 adA:Bool
 Jt:Int
 time:Int
deriving DecidableEq
structure uq where
 cz:Int
 title:ByteArray
 Jt:Int
 up:Int
 down:Int
 other:Int
 Js:Jc
 block:Bool
 Qa:Int
 E0:(List EU)
structure aai where
 key:aS
 value:Jd
 Sd:Int
deriving DecidableEq
structure abb where
 unit:Int
 frm:Int
 to:Int
deriving DecidableEq
structure QH where
 cz:Int
 adH:(List uq)
structure Nq where
 cz:Int
 list:Int
 ac4:Int
deriving DecidableEq
structure aam where
 rig:dP
 ac8:(List O3)
 adx:(List QH)
 ac3:(List Nq)
structure O1 where
 time:Int
 kind:Int
 YG:Int
 Sd:Int
 level:Int
deriving DecidableEq
structure aaj where
 ef:Int
 action:O1
deriving DecidableEq
structure aan where
 hours:Int
 minutes:Int
 seconds:Int
 frames:Int
deriving DecidableEq
structure Rc where
 key:aS
 abV:QG
 adl:Int
 ending:Bool
structure W7 where
 YG:Int
 Sd:Int
 adp:Int
 adb:Bool
 Qa:Int
 runs:(List Rc)
structure MC where
 level:Int
 hold:Int
 abV:Int
deriving DecidableEq
structure O2 where
 form:Int
 low:Int
 high:Int
 adn:Int
 width:Int
 spread:Int
 back:Bool
 ac5:Bool
 steps:(List MC)
structure QI where
 time:Int
 ac7:Int
deriving DecidableEq
structure X8 where
 effect:O2
 keys:(List aS)
 start:Int
 ady:(List QI)
 AQ:Int
 fin:Int
 out:Int
def Gp:an→Heap→az:=A.dU λa b σ=>match a,b with
 |.str a,.str b=>some (.int .i64 (Lib.compareBytes a.data.toList b.data.toList),σ)
 |_,_=>none
def rY:an→Heap→az:=A.dU λa b σ=>match a,b with
 |.sl sz es,.os id g sz' off len=>match σ[id]? with
  |some (.arr h s es')=>if es≠[]∧g=h∧es'≠[]∧0<len then some (.bool false,σ)else none
  |_=>none
 |_,_=>none
def Ac(a b:aS):Int:=if ¬(a.unit=b.unit)then(if a.unit<b.unit then -1 else 1)else Lib.compareBytes a.param.data.toList b.param.data.toList
section
set_option maxRecDepth 100000
noncomputable def Ds (dyn:Nat→an→Heap→az) (a0 a1:AV) (σ:Heap):az:=(A.br a0).bind λx1=>(A.loop (λv2 s3=>(A.lss (aj v2 1) x1).bind λx5=>A.cond x5 ((A.aM 3 a0 (aj v2 1)).bind λx6=>((A.deref x6 s3).bind λc7=>A.aG 0 3 c7).bind λx8=>(A.gZ dyn a1 [x8] s3).bind λr9=>A.cond r9.1 (some (AX.ret,[(aj v2 1),(aj v2 1)],r9.2)) ((A.add (aj v2 1) (AV.ah 1)).bind λbf=>some (AX.normal,[(aj v2 0),bf],r9.2))) (some (AX.exit 0,[(aj v2 0),(aj v2 1)],s3))) [(AV.ah 0),(AV.ah 0)] σ).bind λdQ=>bif dQ.1==AX.exit 0 then(A.fin σ (AV.ah (-1)) dQ.2.2)else bif dQ.1==AX.ret then(A.fin σ (aj dQ.2.1 0) dQ.2.2)else none
noncomputable def Dr (dyn:Nat→an→Heap→az):an→Heap→az:=A.wrap true [(.s 3)] .k (A.dU (Ds dyn))
noncomputable def Gl (a0 a1:AV) (σ:Heap):az:=(A.br a0).bind λx1=>(A.loop (λv2 s3=>(A.lss (aj v2 1) x1).bind λx5=>A.cond x5 ((A.aM 1 a0 (aj v2 1)).bind λx6=>((A.deref x6 s3).bind λc7=>A.aB 0 c7).bind λx8=>(A.eql .i a1 x8).bind λx9=>A.cond x9 (some (AX.ret,[(aj v2 1),(aj v2 1)],s3)) ((A.add (aj v2 1) (AV.ah 1)).bind λbf=>some (AX.normal,[(aj v2 0),bf],s3))) (some (AX.exit 0,[(aj v2 0),(aj v2 1)],s3))) [(AV.ah 0),(AV.ah 0)] σ).bind λdQ=>bif dQ.1==AX.exit 0 then(A.fin σ (AV.ah (-1)) dQ.2.2)else bif dQ.1==AX.ret then(A.fin σ (aj dQ.2.1 0) dQ.2.2)else none
noncomputable def Gj:an→Heap→az:=A.wrap true [(.s 1)] .k (A.dU Gl)
noncomputable def Gg (a0 a1:AV) (σ:Heap):az:=(Gj [a0,a1] σ).bind λr1=>(A.geq r1.1 (AV.ah 0)).bind λx2=>A.fin σ x2 r1.2
noncomputable def A7:an→Heap→az:=A.wrap true [(.s 1)] .k (A.dU Gg)
noncomputable def F7 (a0 a1:AV) (σ:Heap):az:=(A.br a0).bind λx1=>(A.br a1).bind λx2=>(A.neq .i x1 x2).bind λx3=>A.cond x3 (A.fin σ bI σ) ((A.br a0).bind λx4=>(A.loop (λv5 s6=>(A.lss (aj v5 1) x4).bind λx8=>A.cond x8 ((A.aM 3 a0 (aj v5 1)).bind λx9=>((A.deref x9 s6).bind λlN=>A.aG 0 3 lN).bind λcK=>(A.aM 3 a1 (aj v5 1)).bind λbT=>((A.deref bT s6).bind λru=>A.aG 0 3 ru).bind λcq=>(A.neq (.s [0,2,0]) cK cq).bind λaW=>A.cond aW (some (AX.ret,[bI,(aj v5 1)],s6)) ((A.add (aj v5 1) (AV.ah 1)).bind λbK=>some (AX.normal,[(aj v5 0),bK],s6))) (some (AX.exit 0,[(aj v5 0),(aj v5 1)],s6))) [bI,(AV.ah 0)] σ).bind λoC=>bif oC.1==AX.exit 0 then(A.fin σ ew oC.2.2)else bif oC.1==AX.ret then(A.fin σ (aj oC.2.1 0) oC.2.2)else none)
noncomputable def Dv:an→Heap→az:=A.wrap true [(.s 3),(.s 3)] .k (A.dU F7)
noncomputable def Dz (dyn:Nat→an→Heap→az) (a0 a1:AV) (σ:Heap):az:=(A.br a0).bind λx1=>(A.loop (λv2 s3=>(A.lss (aj v2 1) x1).bind λx5=>A.cond x5 ((A.aM 1 a0 (aj v2 1)).bind λx6=>((A.deref x6 s3).bind λc7=>A.aB 0 c7).bind λx8=>(A.gZ dyn a1 [x8] s3).bind λr9=>A.cond r9.1 (some (AX.ret,[(aj v2 1),(aj v2 1)],r9.2)) ((A.add (aj v2 1) (AV.ah 1)).bind λbf=>some (AX.normal,[(aj v2 0),bf],r9.2))) (some (AX.exit 0,[(aj v2 0),(aj v2 1)],s3))) [(AV.ah 0),(AV.ah 0)] σ).bind λdQ=>bif dQ.1==AX.exit 0 then(A.fin σ (AV.ah (-1)) dQ.2.2)else bif dQ.1==AX.ret then(A.fin σ (aj dQ.2.1 0) dQ.2.2)else none
noncomputable def Dy (dyn:Nat→an→Heap→az):an→Heap→az:=A.wrap true [(.s 1)] .k (A.dU (Dz dyn))
noncomputable def Dx (dyn:Nat→an→Heap→az) (a0 a1:AV) (σ:Heap):az:=(Dy dyn [a0,a1] σ).bind λr1=>(A.geq r1.1 (AV.ah 0)).bind λx2=>A.fin σ x2 r1.2
noncomputable def Dw (dyn:Nat→an→Heap→az):an→Heap→az:=A.wrap true [(.s 1)] .k (A.dU (Dx dyn))
noncomputable def Mb (a0:AV) (σ:Heap):az:=(A.FC a0 AV.aN).bind λx1=>A.cond x1 (some (AV.aN,σ)) ((A.append 3 (140737488355328 / 32) AV.ez a0 σ).bind λr2=>some (r2.1,r2.2))
noncomputable def Du:an→Heap→az:=A.EJ (A.wrap true [(.s 3)] .k (A.eP Mb))
noncomputable def Dm (dyn:Nat→an→Heap→az) (a0 a1 a2 a3:AV) (σ:Heap):az:=(A.add a1 (AV.ah 1)).bind λx1=>(A.loop (λv2 s3=>(A.lss (aj v2 0) a2).bind λx5=>A.cond x5 ((A.loop (λv6 s7=>(A.gtr (aj v6 0) a1).bind λx9=>(A.guard x9 true (some a3) aq).bind λbf=>(A.guard x9 true (some a0) aq).bind λcK=>(A.guard x9 true (some (aj v6 0)) aq).bind λbT=>(A.guard x9 true (A.aM 3 cK bT) aq).bind λbJ=>(A.guard x9 true ((A.deref bJ s7).bind λiq=>A.aG 0 3 iq) aq).bind λaW=>(A.guard x9 true (some a0) aq).bind λbK=>(A.guard x9 true (some (aj v6 0)) aq).bind λbW=>(A.guard x9 true (A.sub bW (AV.ah 1)) aq).bind λbN=>(A.guard x9 true (A.aM 3 bK bN) aq).bind λcZ=>(A.guard x9 true ((A.deref cZ s7).bind λgH=>A.aG 0 3 gH) aq).bind λbX=>(A.guard x9 true (A.quiet (A.gZ dyn bf [aW,bX] s7) s7) aq).bind λdc=>(A.guard x9 true (A.lss dc (AV.ah 0)) aq).bind λdX=>(A.pick x9 dX bI).bind λx24=>A.cond x24 ((A.sub (aj v6 0) (AV.ah 1)).bind λx25=>(A.sub (aj v6 0) (AV.ah 1)).bind λeA=>(A.aM 3 a0 eA).bind λcg=>((A.deref cg s7).bind λmm=>A.aG 0 3 mm).bind λx29=>(A.aM 3 a0 (aj v6 0)).bind λcG=>((A.deref cG s7).bind λnE=>A.aG 0 3 nE).bind λx32=>(A.aM 3 a0 (aj v6 0)).bind λiN=>(A.cells 3 x29).bind λpG=>(A.storeAt iN pG s7).bind λmo=>(A.aM 3 a0 x25).bind λkZ=>(A.cells 3 x32).bind λnF=>(A.storeAt kZ nF mo).bind λrz=>(A.sub (aj v6 0) (AV.ah 1)).bind λi6=>some (AX.normal,[i6],rz)) (some (AX.exit 2,[(aj v6 0)],s7))) [(aj v2 0)] s3).bind λC5=>bif C5.1==AX.exit 2 then((A.add (aj v2 0) (AV.ah 1)).bind λiy=>some (AX.normal,[iy],C5.2.2))else none) (some (AX.exit 0,[(aj v2 0)],s3))) [x1] σ).bind λiW=>bif iW.1==AX.exit 0 then(some ((AV.aD []),iW.2.2))else none
noncomputable def tK (dyn:Nat→an→Heap→az):an→Heap→az:=A.wrap false [] .k (A.tr (Dm dyn))
noncomputable def zb (a0 a1 a2 a3 a4:AV) (σ:Heap):az:=(A.loop (λv1 s2=>(A.lss (aj v1 0) a3).bind λx4=>A.cond x4 ((A.add a1 (aj v1 0)).bind λx5=>(A.add a2 (aj v1 0)).bind λx6=>(A.add a2 (aj v1 0)).bind λx7=>(A.aM 3 a0 x7).bind λx8=>((A.deref x8 s2).bind λc9=>A.aG 0 3 c9).bind λbf=>(A.add a1 (aj v1 0)).bind λcK=>(A.aM 3 a0 cK).bind λbT=>((A.deref bT s2).bind λru=>A.aG 0 3 ru).bind λcq=>(A.aM 3 a0 x5).bind λaW=>(A.cells 3 bf).bind λyh=>(A.storeAt aW yh s2).bind λmh=>(A.aM 3 a0 x6).bind λbN=>(A.cells 3 cq).bind λpq=>(A.storeAt bN pq mh).bind λgH=>(A.add (aj v1 0) (AV.ah 1)).bind λbX=>some (AX.normal,[bX],gH)) (some (AX.exit 0,[(aj v1 0)],s2))) [(AV.ah 0)] σ).bind λiM=>bif iM.1==AX.exit 0 then(some ((AV.aD []),iM.2.2))else none
noncomputable def tL:an→Heap→az:=A.wrap false [] .k (A.mg zb)
noncomputable def zf (a0 a1 a2 a3 a4:AV) (σ:Heap):az:=(A.sub a2 a1).bind λx1=>(A.sub a3 a2).bind λx2=>(A.loop (λv3 s4=>(A.neq .i (aj v3 0) (aj v3 1)).bind λx6=>A.cond x6 ((A.gtr (aj v3 0) (aj v3 1)).bind λx7=>(A.cond x7 ((A.sub a2 (aj v3 0)).bind λx9=>(tL [a0,x9,a2,(aj v3 1),a4] s4).bind λyL=>(A.sub (aj v3 0) (aj v3 1)).bind λcK=>some ([cK,(aj v3 1)],yL.2)) ((A.sub a2 (aj v3 0)).bind λbT=>(A.add a2 (aj v3 1)).bind λbJ=>(A.sub bJ (aj v3 0)).bind λcq=>(tL [a0,bT,cq,(aj v3 0),a4] s4).bind λrI=>(A.sub (aj v3 1) (aj v3 0)).bind λbK=>some ([(aj v3 0),bK],rI.2))).bind λr8=>some (AX.normal,[(aj r8.1 0),(aj r8.1 1)],r8.2)) (some (AX.exit 0,[(aj v3 0),(aj v3 1)],s4))) [x1,x2] σ).bind λoC=>bif oC.1==AX.exit 0 then((A.sub a2 (aj oC.2.1 0)).bind λbN=>(tL [a0,bN,a2,(aj oC.2.1 0),a4] oC.2.2).bind λeE=>some ((AV.aD []),eE.2))else none
noncomputable def A1:an→Heap→az:=A.wrap false [] .k (A.mg zf)
noncomputable def Dn (rec:Nat→an→Heap→az) (dyn:Nat→an→Heap→az) (a0 a1 a2 a3 a4:AV) (σ:Heap):az:=(A.sub a2 a1).bind λx1=>(A.eql .i x1 (AV.ah 1)).bind λx2=>A.cond x2 ((A.loop (λv3 s4=>(A.lss (aj v3 0) (aj v3 1)).bind λx6=>A.cond x6 ((A.add (aj v3 0) (aj v3 1)).bind λx7=>(A.conv .u64 x7).bind λx8=>(A.shr x8 (AV.int .u64 1)).bind λx9=>(A.conv .i64 x9).bind λbf=>(A.aM 3 a0 bf).bind λcK=>((A.deref cK s4).bind λdG=>A.aG 0 3 dG).bind λbJ=>(A.aM 3 a0 a1).bind λcq=>((A.deref cq s4).bind λgp=>A.aG 0 3 gp).bind λbK=>(A.quiet (A.gZ dyn a4 [bJ,bK] s4) s4).bind λbW=>(A.lss bW (AV.ah 0)).bind λbN=>(A.cond bN ((A.add bf (AV.ah 1)).bind λdw=>some ([dw,(aj v3 1)],s4)) (some ([(aj v3 0),bf],s4))).bind λeE=>some (AX.normal,[(aj eE.1 0),(aj eE.1 1)],eE.2)) (some (AX.exit 0,[(aj v3 0),(aj v3 1)],s4))) [a2,a3] σ).bind λfG=>bif fG.1==AX.exit 0 then((A.loop (λv22 jl=>(A.sub (aj fG.2.1 0) (AV.ah 1)).bind λx25=>(A.lss (aj v22 0) x25).bind λeA=>A.cond eA ((A.add (aj v22 0) (AV.ah 1)).bind λcg=>(A.add (aj v22 0) (AV.ah 1)).bind λx28=>(A.aM 3 a0 x28).bind λx29=>((A.deref x29 jl).bind λwF=>A.aG 0 3 wF).bind λx31=>(A.aM 3 a0 (aj v22 0)).bind λx32=>((A.deref x32 jl).bind λuK=>A.aG 0 3 uK).bind λx34=>(A.aM 3 a0 (aj v22 0)).bind λnK=>(A.cells 3 x31).bind λuL=>(A.storeAt nK uL jl).bind λnF=>(A.aM 3 a0 cg).bind λx38=>(A.cells 3 x34).bind λCs=>(A.storeAt x38 Cs nF).bind λpH=>(A.add (aj v22 0) (AV.ah 1)).bind λiy=>some (AX.normal,[iy],pH)) (some (AX.exit 2,[(aj v22 0)],jl))) [a1] fG.2.2).bind λiW=>bif iW.1==AX.exit 2 then(some ((AV.aD []),iW.2.2))else none)else none) ((A.sub a3 a2).bind λrS=>(A.eql .i rS (AV.ah 1)).bind λk9=>A.cond k9 ((A.loop (λv45 iX=>(A.lss (aj v45 0) (aj v45 1)).bind λpP=>A.cond pP ((A.add (aj v45 0) (aj v45 1)).bind λjM=>(A.conv .u64 jM).bind λfc=>(A.shr fc (AV.int .u64 1)).bind λfS=>(A.conv .i64 fS).bind λgC=>(A.aM 3 a0 a2).bind λpQ=>((A.deref pQ iX).bind λuO=>A.aG 0 3 uO).bind λmA=>(A.aM 3 a0 gC).bind λjN=>((A.deref jN iX).bind λuP=>A.aG 0 3 uP).bind λrU=>(A.quiet (A.gZ dyn a4 [mA,rU] iX) iX).bind λkJ=>(A.lss kJ (AV.ah 0)).bind λpS=>(A.not pS).bind λlR=>(A.cond lR ((A.add gC (AV.ah 1)).bind λmB=>some ([mB,(aj v45 1)],iX)) (some ([(aj v45 0),gC],iX))).bind λjK=>some (AX.normal,[(aj jK.1 0),(aj jK.1 1)],jK.2)) (some (AX.exit 4,[(aj v45 0),(aj v45 1)],iX))) [a1,a2] σ).bind λr64=>bif r64.1==AX.exit 4 then((A.loop (λiZ oG=>(A.gtr (aj iZ 0) (aj r64.2.1 0)).bind λyU=>A.cond yU ((A.sub (aj iZ 0) (AV.ah 1)).bind λpU=>(A.sub (aj iZ 0) (AV.ah 1)).bind λyV=>(A.aM 3 a0 yV).bind λyW=>((A.deref yW oG).bind λCy=>A.aG 0 3 Cy).bind λyX=>(A.aM 3 a0 (aj iZ 0)).bind λyY=>((A.deref yY oG).bind λCz=>A.aG 0 3 Cz).bind λqC=>(A.aM 3 a0 (aj iZ 0)).bind λrV=>(A.cells 3 yX).bind λym=>(A.storeAt rV ym oG).bind λCA=>(A.aM 3 a0 pU).bind λDh=>(A.cells 3 qC).bind λCB=>(A.storeAt Dh CB CA).bind λyp=>(A.sub (aj iZ 0) (AV.ah 1)).bind λvq=>some (AX.normal,[vq],yp)) (some (AX.exit 6,[(aj iZ 0)],oG))) [a2] r64.2.2).bind λTi=>bif Ti.1==AX.exit 6 then(some ((AV.aD []),Ti.2.2))else none)else none) ((A.add a1 a3).bind λLV=>(A.conv .u64 LV).bind λx86=>(A.shr x86 (AV.int .u64 1)).bind λLW=>(A.conv .i64 LW).bind λqD=>(A.add qD a2).bind λyZ=>(A.gtr a2 qD).bind λx90=>(A.cond x90 ((A.sub yZ a3).bind λLX=>some ([LX,qD],σ)) (some ([a1,a2],σ))).bind λLy=>(A.sub yZ (AV.ah 1)).bind λx93=>(A.loop (λgX iY=>(A.lss (aj gX 0) (aj gX 1)).bind λDi=>A.cond Di ((A.add (aj gX 0) (aj gX 1)).bind λx98=>(A.conv .u64 x98).bind λx99=>(A.shr x99 (AV.int .u64 1)).bind λCn=>(A.conv .i64 Cn).bind λx101=>(A.sub x93 x101).bind λx102=>(A.aM 3 a0 x102).bind λwA=>((A.deref wA iY).bind λCa=>A.aG 0 3 Ca).bind λtd=>(A.aM 3 a0 x101).bind λxU=>((A.deref xU iY).bind λCb=>A.aG 0 3 Cb).bind λxV=>(A.quiet (A.gZ dyn a4 [td,xV] iY) iY).bind λxW=>(A.lss xW (AV.ah 0)).bind λnC=>(A.not nC).bind λxX=>(A.cond xX ((A.add x101 (AV.ah 1)).bind λx113=>some ([x113,(aj gX 1)],iY)) (some ([(aj gX 0),x101],iY))).bind λqZ=>some (AX.normal,[(aj qZ.1 0),(aj qZ.1 1)],qZ.2)) (some (AX.exit 8,[(aj gX 0),(aj gX 1)],iY))) [(aj Ly.1 0),(aj Ly.1 1)] Ly.2).bind λuz=>bif uz.1==AX.exit 8 then((A.sub yZ (aj uz.2.1 0)).bind λx115=>(A.lss (aj uz.2.1 0) a2).bind λAu=>(A.guard Au true (some a2) aq).bind λKj=>(A.guard Au true (some x115) aq).bind λKk=>(A.guard Au true (A.lss Kj Kk) aq).bind λacM=>(A.pick Au acM bI).bind λKl=>(A.cond Kl ((A1 [a0,(aj uz.2.1 0),a2,x115,a4] uz.2.2).bind λacD=>some (([]:an),acD.2)) (some (([]:an),uz.2.2))).bind λRS=>(A.lss a1 (aj uz.2.1 0)).bind λAv=>(A.guard Av true (some (aj uz.2.1 0)) aq).bind λacP=>(A.guard Av true (some qD) aq).bind λKm=>(A.guard Av true (A.lss acP Km) aq).bind λacQ=>(A.pick Av acQ bI).bind λacR=>(A.cond acR ((rec 106 [a0,a1,(aj uz.2.1 0),qD,a4] RS.2).bind λacE=>some (([]:an),acE.2)) (some (([]:an),RS.2))).bind λRT=>(A.lss qD x115).bind λAw=>(A.guard Aw true (some x115) aq).bind λacT=>(A.guard Aw true (some a3) aq).bind λacU=>(A.guard Aw true (A.lss acT acU) aq).bind λacV=>(A.pick Aw acV bI).bind λKn=>(A.cond Kn ((rec 106 [a0,qD,x115,a3,a4] RT.2).bind λacG=>some (([]:an),acG.2)) (some (([]:an),RT.2))).bind λacF=>some ((AV.aD []),acF.2))else none))
noncomputable def zc (dyn:Nat→an→Heap→az) (rec:Nat→an→Heap→az):List (Nat×(an→Heap→az)):=[(106,A.wrap false [] .k (A.mg (Dn rec dyn)))]
noncomputable def rX (dyn:Nat→an→Heap→az):an→Heap→az:=fuel (zc dyn) 2000000 106
noncomputable def Dq (dyn:Nat→an→Heap→az) (a0 a1 a2:AV) (σ:Heap):az:=(A.loop (λv1 s2=>(A.leq (aj v1 1) a1).bind λx4=>A.cond x4 ((tK dyn [a0,(aj v1 0),(aj v1 1),a2] s2).bind λr5=>(A.add (aj v1 1) (AV.ah 20)).bind λx6=>some (AX.normal,[(aj v1 1),x6],r5.2)) (some (AX.exit 0,[(aj v1 0),(aj v1 1)],s2))) [(AV.ah 0),(AV.ah 20)] σ).bind λr7=>bif r7.1==AX.exit 0 then((tK dyn [a0,(aj r7.2.1 0),a1,a2] r7.2.2).bind λr8=>(A.loop (λv9 C9=>(A.lss (aj v9 0) a1).bind λbT=>A.cond bT ((A.mul (AV.ah 2) (aj v9 0)).bind λbJ=>(A.loop (λe8 rN=>(A.leq (aj e8 1) a1).bind λbW=>A.cond bW ((A.add (aj e8 0) (aj v9 0)).bind λbN=>(rX dyn [a0,(aj e8 0),bN,(aj e8 1),a2] rN).bind λeE=>(A.mul (AV.ah 2) (aj v9 0)).bind λdw=>(A.add (aj e8 1) dw).bind λbX=>some (AX.normal,[(aj e8 1),bX],eE.2)) (some (AX.exit 4,[(aj e8 0),(aj e8 1)],rN))) [(AV.ah 0),bJ] C9).bind λiM=>bif iM.1==AX.exit 4 then((A.add (aj iM.2.1 0) (aj v9 0)).bind λdX=>(A.lss dX a1).bind λx24=>(A.cond x24 ((rX dyn [a0,(aj iM.2.1 0),dX,a1,a2] iM.2.2).bind λgW=>some (([]:an),gW.2)) (some (([]:an),iM.2.2))).bind λpM=>(A.mul (aj v9 0) (AV.ah 2)).bind λcg=>some (AX.normal,[cg],pM.2))else none) (some (AX.exit 2,[(aj v9 0)],C9))) [(AV.ah 20)] r8.2).bind λfM=>bif fM.1==AX.exit 2 then(some ((AV.aD []),fM.2.2))else none)else none
noncomputable def A2 (dyn:Nat→an→Heap→az):an→Heap→az:=A.wrap false [] .k (A.oh (Dq dyn))
noncomputable def Dp (dyn:Nat→an→Heap→az) (a0 a1:AV) (σ:Heap):az:=(A.br a0).bind λx1=>(A2 dyn [a0,x1,a1] σ).bind λr2=>some ((AV.aD []),r2.2)
noncomputable def ze (dyn:Nat→an→Heap→az):an→Heap→az:=A.wrap false [] .k (A.dU (Dp dyn))
noncomputable def L9 (a0:AV) (σ:Heap):az:=(A.br a0).bind λx1=>(A.sub x1 (AV.ah 1)).bind λx2=>(A.loop (λv3 s4=>(A.lss (aj v3 0) (aj v3 1)).bind λx6=>A.cond x6 ((A.aM 3 a0 (aj v3 1)).bind λx7=>((A.deref x7 s4).bind λc8=>A.aG 0 3 c8).bind λx9=>(A.aM 3 a0 (aj v3 0)).bind λbf=>((A.deref bf s4).bind λfW=>A.aG 0 3 fW).bind λbT=>(A.aM 3 a0 (aj v3 0)).bind λbJ=>(A.cells 3 x9).bind λiq=>(A.storeAt bJ iq s4).bind λgp=>(A.aM 3 a0 (aj v3 1)).bind λbK=>(A.cells 3 bT).bind λmh=>(A.storeAt bK mh gp).bind λiU=>(A.add (aj v3 0) (AV.ah 1)).bind λcZ=>(A.sub (aj v3 1) (AV.ah 1)).bind λdw=>some (AX.normal,[cZ,dw],iU)) (some (AX.exit 0,[(aj v3 0),(aj v3 1)],s4))) [(AV.ah 0),x2] σ).bind λfG=>bif fG.1==AX.exit 0 then(some ((AV.aD []),fG.2.2))else none
noncomputable def A4:an→Heap→az:=A.wrap false [] .k (A.eP L9)
noncomputable def L8 (a0 a1:AV) (σ:Heap):az:=(A.cm 3 a0 none (some a1) σ).bind λx1=>(A4 [x1] σ).bind λr2=>(A.cm 3 a0 (some a1) none r2.2).bind λx3=>(A4 [x3] r2.2).bind λr4=>(A4 [a0] r4.2).bind λr5=>some ((AV.aD []),r5.2)
noncomputable def F6:an→Heap→az:=A.wrap false [] .k (A.dU L8)
noncomputable def L7 (a0 a1:AV) (σ:Heap):az:=(A.br a0).bind λx1=>(A.sub x1 a1).bind λx2=>(F6 [a0,x2] σ).bind λr3=>some ((AV.aD []),r3.2)
noncomputable def A3:an→Heap→az:=A.wrap false [] .k (A.dU L7)
noncomputable def Dt (a0 a1 a2:AV) (σ:Heap):az:=(A.cm 3 a0 (some a1) none σ).bind λx1=>(A.br a2).bind λx2=>(A.eql .i x2 (AV.ah 0)).bind λx3=>A.cond x3 (A.renew [a0,a1,a2] σ a0 σ) ((A.br a0).bind λx4=>(A.eql .i a1 x4).bind λx5=>A.cond x5 ((A.append 3 (140737488355328 / 32) a0 a2 σ).bind λr6=>A.renew [a0,a1,a2] σ r6.1 r6.2) ((A.add x4 x2).bind λx7=>A.vU (A.Cc a0) (λx8=>(A.gtr x7 x8).bind λx9=>A.cond x9 ((A.cm 3 a0 none (some a1) σ).bind λbf=>(A.add x4 x2).bind λcK=>(A.sub cK a1).bind λbT=>(A.qJ 3 (140737488355328 / 32) [(AV.ah 0),cv,(AV.ah 0)] bf bT σ).bind λiL=>(A.cm 3 iL.1 (some a1) none iL.2).bind λcq=>(A.hM 3 cq a2 iL.2).bind λrI=>(A.add a1 x2).bind λbK=>(A.cm 3 iL.1 (some bK) none rI.2).bind λbW=>(A.cm 3 a0 (some a1) none rI.2).bind λbN=>(A.hM 3 bW bN rI.2).bind λeE=>A.renew [a0,a1,a2] σ iL.1 eE.2) ((A.add x4 x2).bind λdw=>(A.cm 3 a0 none (some dw) σ).bind λbX=>(A.add a1 x2).bind λdc=>(A.cm 3 bX (some dc) none σ).bind λdX=>(rY [a2,dX] σ).bind λkX=>(A.not kX.1).bind λx25=>A.cond x25 ((A.add a1 x2).bind λeA=>(A.cm 3 bX (some eA) none kX.2).bind λcg=>(A.cm 3 bX (some a1) none kX.2).bind λx28=>(A.hM 3 cg x28 kX.2).bind λqy=>(A.cm 3 bX (some a1) none qy.2).bind λcG=>(A.hM 3 cG a2 qy.2).bind λmX=>A.renew [a0,a1,a2] σ bX mX.2) ((A.cm 3 bX (some x4) none kX.2).bind λx32=>(A.hM 3 x32 a2 kX.2).bind λkH=>(A.cm 3 bX (some a1) none kH.2).bind λx34=>(A3 [x34,x2] kH.2).bind λmw=>A.renew [a0,a1,a2] σ bX mw.2))) (A.vV a0 σ λn36 rP=>(A.gtr x7 (AV.ah n36)).bind λx38=>A.cond x38 ((A.cm 3 a0 none (some a1) rP).bind λi6=>(A.add x4 x2).bind λpO=>(A.sub pO a1).bind λiy=>(A.qJ 3 (140737488355328 / 32) [(AV.ah 0),cv,(AV.ah 0)] i6 iy rP).bind λiW=>(A.cm 3 iW.1 (some a1) none iW.2).bind λrS=>(A.hM 3 rS a2 iW.2).bind λyN=>(A.add a1 x2).bind λlg=>(A.cm 3 iW.1 (some lg) none yN.2).bind λyS=>(A.cm 3 a0 (some a1) none yN.2).bind λjL=>(A.hM 3 yS jL yN.2).bind λAU=>A.renew [a0,a1,a2] σ iW.1 AU.2) ((A.add x4 x2).bind λjM=>(A.cm 3 a0 none (some jM) rP).bind λfc=>(A.add a1 x2).bind λfS=>(A.cm 3 fc (some fS) none rP).bind λgC=>(rY [a2,gC] rP).bind λkY=>(A.not kY.1).bind λpR=>A.cond pR ((A.add a1 x2).bind λmA=>(A.cm 3 fc (some mA) none kY.2).bind λjN=>(A.cm 3 fc (some a1) none kY.2).bind λrT=>(A.hM 3 jN rT kY.2).bind λC6=>(A.cm 3 fc (some a1) none C6.2).bind λkJ=>(A.hM 3 kJ a2 C6.2).bind λLv=>A.renew [a0,a1,a2] σ fc Lv.2) ((A.cm 3 fc (some x4) none kY.2).bind λlR=>(A.hM 3 lR a2 kY.2).bind λjK=>(A.cm 3 fc (some a1) none jK.2).bind λmB=>(A3 [mB,x2] jK.2).bind λr64=>A.renew [a0,a1,a2] σ fc r64.2)))))
noncomputable def zg:an→Heap→az:=A.wrap false [] .k (A.oh Dt)
end
def aaW(n d:Int):Int:=(2*n+d) / (2*d)
def aaX(l:List Int)(n i:Nat):Int:=
 if n=1 then l.getD 0 0 else aaW (l.getD (i*(l.length-1) / (n-1)) 0*((n-1:Nat):Int)+(l.getD (i*(l.length-1) / (n-1)+1) 0-l.getD (i*(l.length-1) / (n-1)) 0)*((i*(l.length-1) % (n-1):Nat):Int)) ((n-1:Nat):Int)
def abz(l:List Int)(n:Nat):List Int:=(List.range n).map (aaX l n)
def aaV(c:List Int)(B G n i:Nat):Int:=
 (abz c (((n+B-1) / B+G-1) / G)).getD (if i / B / (((n+B-1) / B+G-1) / G) % 2=1 then((n+B-1) / B+G-1) / G-1-i / B % (((n+B-1) / B+G-1) / G)else i / B % (((n+B-1) / B+G-1) / G)) 0
def mG(c:List Int)(B G n:Nat):List Int:=(List.range n).map (aaV c B G n)
def wN(c:List Int)(b g n:Int):Prop:=0<c.length∧c.length≤20∧(∀x∈c,0≤x∧x≤65535)∧(1≤b∧b≤9999)∧(1≤g∧g≤50)∧0≤n∧n≤400
def oP(es:List an):List Int:=es.map λe=>match e with|[.int .i64 n]=>n|_=>0
theorem D8:∀l:List Int,oP (l.map cC)=l
 |[]=>rfl
 |x::l=>by have:=D8 l;unfold oP at this ⊢;rw[fJ,fJ,this];rfl
def uy(es:List an)(b g n:Int):Prop:=es=(oP es).map cC∧wN (oP es) b g n
noncomputable def DO:an→Heap→az:=A.dU λx y σ=>match x,y with
 |.agg [.sl 1 es,.int .i64 b,.int .i64 g],.int .i64 n=>open Classical in if uy es b g n then some (sl 1 cC (mG (oP es) b.toNat g.toNat n.toNat),σ)else none
 |_,_=>none
noncomputable def DH:an→Heap→az:=A.dU λx y σ=>match x,y with
 |.agg [.sl 1 es,.int .i64 b,.int .i64 g],.int .i64 n=>open Classical in if uy es b g n then some (.aD [sl 1 cC (mG (oP es) b.toNat g.toNat n.toNat),.int .i64 0],σ)else none
 |_,_=>none
theorem PM{l:List Int}{b g n:Int}(h:wN l b g n):uy (l.map cC) b g n:=by unfold uy;rw[D8];exact⟨rfl,h⟩
theorem XA{f:iF}{n:Int}(h:wN f.dg f.block f.eR n)(σ:Heap):DO [.agg (kS f),.int .i64 n] σ=some (sl 1 cC (mG f.dg f.block.toNat f.eR.toNat n.toNat),σ):=by show(open Classical in if uy (f.dg.map cC) f.block f.eR n then some (sl 1 cC (mG (oP (f.dg.map cC)) f.block.toNat f.eR.toNat n.toNat),σ)else none)=_;rw[aK (PM h),D8]
theorem XB{f:iF}{n:Int}(h:wN f.dg f.block f.eR n)(σ:Heap):DH [.agg (kS f),.int .i64 n] σ=some (.aD [sl 1 cC (mG f.dg f.block.toNat f.eR.toNat n.toNat),.int .i64 0],σ):=by show(open Classical in if uy (f.dg.map cC) f.block f.eR n then some (AV.aD [sl 1 cC (mG (oP (f.dg.map cC)) f.block.toNat f.eR.toNat n.toNat),.int .i64 0],σ)else none)=_;rw[aK (PM h),D8]
section
set_option maxRecDepth 100000
noncomputable def Ic (a0:AV) (σ:Heap):az:=(A.xQ a0).bind λx1=>(A.loop (λv2 s3=>(A.lss (aj v2 1) x1).bind λx5=>A.cond x5 ((A.o7 a0 (aj v2 1)).bind λx6=>(A.geq x6 (AV.int .u8 97)).bind λx7=>(A.guard x7 true (some x6) aq).bind λx8=>(A.guard x7 true (A.leq x8 (AV.int .u8 122)) aq).bind λx9=>(A.pick x7 x9 bI).bind λbf=>(A.guard bf false (some x6) aq).bind λcK=>(A.guard bf false (A.geq cK (AV.int .u8 48)) aq).bind λbT=>(A.guard bf false (some bT) aq).bind λbJ=>(A.guard bJ true (some x6) aq).bind λcq=>(A.guard bJ true (A.leq cq (AV.int .u8 57)) aq).bind λaW=>(A.guard bf false (A.pick bJ aW bI) aq).bind λbK=>(A.pick bf ew bK).bind λbW=>(A.guard bW false (some x6) aq).bind λbN=>(A.guard bW false (A.eql .i bN (AV.int .u8 45)) aq).bind λcZ=>(A.pick bW ew cZ).bind λdw=>(A.not dw).bind λbX=>A.cond bX (some (AX.ret,[bI,(aj v2 1)],s3)) ((A.add (aj v2 1) (AV.ah 1)).bind λdc=>some (AX.normal,[(aj v2 0),dc],s3))) (some (AX.exit 0,[(aj v2 0),(aj v2 1)],s3))) [bI,(AV.ah 0)] σ).bind λpL=>bif pL.1==AX.exit 0 then((A.neq .z a0 cv).bind λx24=>A.fin σ x24 pL.2.2)else bif pL.1==AX.ret then(A.fin σ (aj pL.2.1 0) pL.2.2)else none
noncomputable def HU:an→Heap→az:=A.wrap true [] .k (A.eP Ic)
noncomputable def Hq (a0:AV) (σ:Heap):az:=(HU [a0] σ).bind λr1=>(A.guard r1.1 true (some a0) aq).bind λx2=>(A.guard r1.1 true (A.xQ x2) aq).bind λx3=>(A.guard r1.1 true (A.leq x3 (AV.ah 20)) aq).bind λx4=>(A.pick r1.1 x4 bI).bind λx5=>(A.guard x5 true (some a0) aq).bind λx6=>(A.guard x5 true (A.o7 x6 (AV.ah 0)) aq).bind λx7=>(A.guard x5 true (A.geq x7 (AV.int .u8 97)) aq).bind λx8=>(A.pick x5 x8 bI).bind λx9=>(A.guard x9 true (some a0) aq).bind λbf=>(A.guard x9 true (A.o7 bf (AV.ah 0)) aq).bind λcK=>(A.guard x9 true (A.leq cK (AV.int .u8 122)) aq).bind λbT=>(A.pick x9 bT bI).bind λbJ=>A.fin σ bJ r1.2
noncomputable def Bl:an→Heap→az:=A.wrap true [] .k (A.eP Hq)
noncomputable def GO (a0 a1 a2:AV) (σ:Heap):az:=(A.geq a0 a1).bind λx1=>(A.guard x1 true (some a0) aq).bind λx2=>(A.guard x1 true (some a2) aq).bind λx3=>(A.guard x1 true (A.leq x2 x3) aq).bind λx4=>(A.pick x1 x4 bI).bind λx5=>A.fin σ x5 σ
noncomputable def nM:an→Heap→az:=A.wrap true [] .k (A.oh GO)
noncomputable def Hr (a0 a1:AV) (σ:Heap):az:=A.cond a0 (A.fin σ a1 σ) (A.fin σ (AV.ah 0) σ)
noncomputable def He:an→Heap→az:=A.wrap true [] .k (A.dU Hr)
noncomputable def GY (a0:AV) (σ:Heap):az:=(A.br a0).bind λx1=>(A.loop (λv2 s3=>(A.lss (aj v2 1) x1).bind λx5=>A.cond x5 ((A.aM 1 a0 (aj v2 1)).bind λx6=>((A.deref x6 s3).bind λc7=>A.aB 0 c7).bind λx8=>(A.neq .i x8 (AV.ah 0)).bind λx9=>A.cond x9 (some (AX.ret,[x8,(aj v2 1)],s3)) ((A.add (aj v2 1) (AV.ah 1)).bind λbf=>some (AX.normal,[(aj v2 0),bf],s3))) (some (AX.exit 0,[(aj v2 0),(aj v2 1)],s3))) [(AV.ah 0),(AV.ah 0)] σ).bind λdQ=>bif dQ.1==AX.exit 0 then(A.fin σ (AV.ah 0) dQ.2.2)else bif dQ.1==AX.ret then(A.fin σ (aj dQ.2.1 0) dQ.2.2)else none
noncomputable def GS:an→Heap→az:=A.wrap true [(.s 1)] .k (A.eP GY)
end
section
set_option maxRecDepth 100000
noncomputable def Gt (a0:AV) (σ:Heap):az:=(nM [a0,(AV.ah 0),(AV.ah 65535)] σ).bind λr1=>A.fin σ r1.1 r1.2
noncomputable def Ba:an→Heap→az:=A.wrap true [] .k (A.eP Gt)
noncomputable def Ge (a0:AV) (σ:Heap):az:=(A.br a0).bind λx1=>(A.gtr x1 (AV.ah 30)).bind λx2=>A.cond x2 (A.fin σ (AV.ah 2) σ) ((A.br a0).bind λx3=>(A.loop (λv4 s5=>(A.lss (aj v4 1) x3).bind λx7=>A.cond x7 ((A.aM 3 a0 (aj v4 1)).bind λx8=>((A.deref x8 s5).bind λc9=>A.aG 0 3 c9).bind λbf=>(A.cells 3 bf).bind λfW=>(A.bh 0 fW [(AV.ah 0),(AV.ah 0),cv]).bind λdG=>(A.aB 0 dG).bind λbJ=>(Ba [bJ] s5).bind λkG=>(A.not kG.1).bind λaW=>(A.guard aW false (A.aB 1 dG) aq).bind λbK=>(A.guard aW false (A.quiet (Ba [bK] kG.2) kG.2) aq).bind λbW=>(A.guard aW false (A.not bW) aq).bind λbN=>(A.pick aW ew bN).bind λcZ=>(A.guard cZ false (A.aB 0 dG) aq).bind λdw=>(A.guard cZ false (A.aB 1 dG) aq).bind λbX=>(A.guard cZ false (A.gtr dw bX) aq).bind λdc=>(A.pick cZ ew dc).bind λdX=>A.cond dX (some (AX.ret,[(AV.ah 1),(aj v4 1)],kG.2)) ((A.gtr (aj v4 1) (AV.ah 0)).bind λx24=>(A.guard x24 true (A.aB 0 dG) aq).bind λx25=>(A.guard x24 true (some a0) aq).bind λeA=>(A.guard x24 true (some (aj v4 1)) aq).bind λcg=>(A.guard x24 true (A.sub cg (AV.ah 1)) aq).bind λx28=>(A.guard x24 true (A.aM 3 eA x28) aq).bind λx29=>(A.guard x24 true (A.ia 1 x29) aq).bind λcG=>(A.guard x24 true ((A.deref cG kG.2).bind λnE=>A.aB 0 nE) aq).bind λx32=>(A.guard x24 true (A.leq x25 x32) aq).bind λiN=>(A.pick x24 iN bI).bind λx34=>A.cond x34 (some (AX.ret,[(AV.ah 7),(aj v4 1)],kG.2)) ((A.aB 2 dG).bind λnK=>(Bl [nK] kG.2).bind λrK=>(A.not rK.1).bind λvk=>A.cond vk (some (AX.ret,[(AV.ah 5),(aj v4 1)],rK.2)) ((A.aB 2 dG).bind λx38=>(A.look .z (AV.om σ.length) x38 bI rK.2).bind λi6=>A.cond i6 (some (AX.ret,[(AV.ah 6),(aj v4 1)],rK.2)) ((A.aB 2 dG).bind λpO=>(A.iS .z (AV.om σ.length) pO ew rK.2).bind λh41=>(A.add (aj v4 1) (AV.ah 1)).bind λvo=>some (AX.normal,[(aj v4 0),vo],h41)))))) (some (AX.exit 0,[(aj v4 0),(aj v4 1)],s5))) [(AV.ah 0),(AV.ah 0)] (σ++[bk.map []])).bind λve=>bif ve.1==AX.exit 0 then(A.fin σ (AV.ah 0) ve.2.2)else bif ve.1==AX.ret then(A.fin σ (aj ve.2.1 0) ve.2.2)else none)
noncomputable def Gd:an→Heap→az:=A.wrap true [(.s 3)] .k (A.eP Ge)
noncomputable def Gc (a0:AV) (σ:Heap):az:=(A.cells 3 a0).bind λc1=>(A.aB 0 c1).bind λx2=>(Bl [x2] σ).bind λr3=>(A.not r3.1).bind λx4=>A.cond x4 (A.fin σ (AV.ah 5) r3.2) ((A.aB 1 c1).bind λx5=>(nM [x5,(AV.ah 1),(AV.ah 512)] r3.2).bind λr6=>(A.not r6.1).bind λx7=>A.cond x7 (A.fin σ (AV.ah 1) r6.2) ((A.aB 2 c1).bind λx8=>(A.br x8).bind λx9=>(A.eql .i x9 (AV.ah 0)).bind λbf=>A.cond bf (A.fin σ (AV.ah 8) r6.2) ((A.aB 2 c1).bind λcK=>(A.br cK).bind λbT=>(A.gtr bT (AV.ah 40)).bind λbJ=>A.cond bJ (A.fin σ (AV.ah 2) r6.2) ((A.aB 2 c1).bind λcq=>(A.br cq).bind λaW=>(A.loop (λdW rO=>(A.lss (aj dW 2) aW).bind λcZ=>A.cond cZ ((A.aM 7 cq (aj dW 2)).bind λdw=>((A.deref dw rO).bind λmj=>A.aG 0 7 mj).bind λdc=>(A.cells 7 dc).bind λiV=>(A.bh 0 iV [cv,(AV.ah 0),(AV.ah 0),(AV.ah 0),(AV.ah 0),bI,AV.aN]).bind λiI=>(A.aB 0 iI).bind λx25=>(Bl [x25] rO).bind λgW=>(A.not gW.1).bind λcg=>A.cond cg (some (AX.ret,[(aj dW 0),(AV.ah 5),(aj dW 2)],gW.2)) ((A.aB 0 iI).bind λx28=>(A.look .z (AV.om r6.2.length) x28 bI gW.2).bind λx29=>A.cond x29 (some (AX.ret,[(aj dW 0),(AV.ah 6),(aj dW 2)],gW.2)) ((A.aB 1 iI).bind λcG=>(nM [cG,(AV.ah 1),(AV.ah 4)] gW.2).bind λmX=>(A.not mX.1).bind λx32=>A.cond x32 (some (AX.ret,[(aj dW 0),(AV.ah 4),(aj dW 2)],mX.2)) ((A.aB 2 iI).bind λiN=>((A.lb (aj dW 0)).bind λ_=>some (1)).bind λp34=>((A.lb (aj dW 0)).bind λmo=>A.aB p34 mo).bind λkZ=>(nM [iN,(AV.ah 1),kZ] mX.2).bind λtG=>(A.not tG.1).bind λx38=>(A.guard x38 false (A.aB 3 iI) aq).bind λi6=>((A.lb (aj dW 0)).bind λ_ => some (1)).bind λp40 =>(A.guard x38 false ((A.lb (aj dW 0)).bind λKx=>A.aB p40 Kx) aq).bind λvo=>(A.guard x38 false (A.quiet (nM [i6,(AV.ah 0),vo] tG.2) tG.2) aq).bind λrS=>(A.guard x38 false (A.not rS) aq).bind λk9=>(A.pick x38 ew k9).bind λlg=>(A.guard lg false (A.aB 4 iI) aq).bind λyS=>(A.guard lg false (A.quiet (Ba [yS] tG.2) tG.2) aq).bind λjL=>(A.guard lg false (A.not jL) aq).bind λpP=>(A.pick lg ew pP).bind λjM=>A.cond jM (some (AX.ret,[(aj dW 0),(AV.ah 1),(aj dW 2)],tG.2)) ((A.aB 2 iI).bind λfc=>(A.aB 3 iI).bind λfS=>(A.eql .i fc fS).bind λgC=>(A.guard gC false (some (AV.om (r6.2++[bk.map []]).length)) aq).bind λpQ=>(A.guard gC false (A.aB 2 iI) aq).bind λpR=>(A.guard gC false (A.look .i pQ pR bI tG.2) aq).bind λmA=>(A.pick gC ew mA).bind λjN=>(A.guard jN false (A.aB 3 iI) aq).bind λrT=>(A.guard jN false (A.gtr rT (AV.ah 0)) aq).bind λrU=>(A.guard jN false (some rU) aq).bind λkJ=>(A.guard kJ true (some (AV.om (r6.2++[bk.map []]).length)) aq).bind λpS=>(A.guard kJ true (A.aB 3 iI) aq).bind λlR=>(A.guard kJ true (A.look .i pS lR bI tG.2) aq).bind λLO=>(A.guard jN false (A.pick kJ LO bI) aq).bind λmB=>(A.pick jN ew mB).bind λLP=>A.cond LP (some (AX.ret,[(aj dW 0),(AV.ah 12),(aj dW 2)],tG.2)) ((A.aB 6 iI).bind λyT=>(Gd [yT] tG.2).bind λtH=>(A.neq .i tH.1 (AV.ah 0)).bind λDf=>A.cond Df (some (AX.ret,[(aj dW 0),tH.1,(aj dW 2)],tH.2)) ((A.aB 0 iI).bind λyU=>(A.aB 2 iI).bind λpU=>(A.iS .z (AV.om r6.2.length) yU ew tH.2).bind λh70=>(A.iS .i (AV.om (r6.2++[bk.map []]).length) pU ew h70).bind λSz=>(A.aB 3 iI).bind λDg=>(A.gtr Dg (AV.ah 0)).bind λyX=>(A.cond yX ((A.aB 3 iI).bind λLR=>(A.iS .i (AV.om (r6.2++[bk.map []]).length) LR ew Sz).bind λh76=>some ([(aj dW 0)],h76)) (some ([(aj dW 0)],Sz))).bind λTg=>(A.add (aj dW 2) (AV.ah 1)).bind λrV=>some (AX.normal,[(aj Tg.1 0),(aj dW 1),rV],Tg.2)))))))) (some (AX.exit 1,[(aj dW 0),(aj dW 1),(aj dW 2)],rO))) [(AV.lbx c1),(AV.ah 0),(AV.ah 0)] ((r6.2++[bk.map []])++[bk.map []])).bind λoD=>bif oD.1==AX.exit 1 then(A.fin σ (AV.ah 0) oD.2.2)else bif oD.1==AX.ret then(A.fin σ (aj oD.2.1 1) oD.2.2)else none))))
noncomputable def Ga:an→Heap→az:=A.wrap true [(.a [.k,.k,(.s 7)])] .k (A.eP Gc)
noncomputable def Gb (a0:AV) (σ:Heap):az:=(A.br a0).bind λx1=>(A.gtr x1 (AV.ah 60)).bind λx2=>A.cond x2 (A.fin σ (AV.ah 2) σ) ((A.br a0).bind λx3=>(A.loop (λv4 s5=>(A.lss (aj v4 1) x3).bind λx7=>A.cond x7 ((A.aM 3 a0 (aj v4 1)).bind λx8=>((A.deref x8 s5).bind λc9=>A.aG 0 3 c9).bind λbf=>(A.cells 3 bf).bind λfW=>(A.bh 0 fW [cv,(AV.ah 0),AV.aN]).bind λdG=>(A.aG 0 3 dG).bind λbJ=>(Ga [bJ] s5).bind λkG=>(A.neq .i kG.1 (AV.ah 0)).bind λaW=>A.cond aW (some (AX.ret,[kG.1,(aj v4 1)],kG.2)) ((A.aB 0 dG).bind λbK=>(A.look .z (AV.om σ.length) bK bI kG.2).bind λbW=>A.cond bW (some (AX.ret,[(AV.ah 6),(aj v4 1)],kG.2)) ((A.aB 0 dG).bind λbN=>(A.iS .z (AV.om σ.length) bN ew kG.2).bind λh19=>(A.add (aj v4 1) (AV.ah 1)).bind λdw=>some (AX.normal,[(aj v4 0),dw],h19)))) (some (AX.exit 0,[(aj v4 0),(aj v4 1)],s5))) [(AV.ah 0),(AV.ah 0)] (σ++[bk.map []])).bind λfG=>bif fG.1==AX.exit 0 then(A.fin σ (AV.ah 0) fG.2.2)else bif fG.1==AX.ret then(A.fin σ (aj fG.2.1 0) fG.2.2)else none)
noncomputable def F9:an→Heap→az:=A.wrap true [(.s 3)] .k (A.eP Gb)
noncomputable def Gf (a0 a1:AV) (σ:Heap):az:=(A.cells 3 a0).bind λc1=>(A.aB 0 c1).bind λx2=>((A.deref a1 σ).bind λc3=>A.aB 0 c3).bind λx4=>(A.eql .z x2 x4).bind λx5=>A.fin σ x5 σ
noncomputable def A6:an→Heap→az:=A.wrap true [(.a [.k,.k,(.s 7)])] .k (A.dU Gf)
noncomputable def DC (a0 a1:AV) (σ:Heap):az:=(((A.cell a1).bind λv=>some [v]).bind λcs=>some (AV.rp cs)).bind λx1=>(Dr (A.tab (λ_ _=>none) [(64,A6)]) [a0,(AV.fn 64 [x1])] σ).bind λr2=>(A.lss r2.1 (AV.ah 0)).bind λx3=>A.cond x3 ((A.cells 3 (AV.agg [cv,(AV.ah 0),AV.aN])).bind λc4=>(A.bh 0 c4 [cv,(AV.ah 0),AV.aN]).bind λc5=>(A.aG 0 3 c5).bind λx6=>A.fin σ (AV.aD [x6,bI]) r2.2) ((A.aM 3 a0 r2.1).bind λx7=>((A.deref x7 r2.2).bind λc8=>A.aG 0 3 c8).bind λx9=>(A.cells 3 x9).bind λlN=>(A.bh 0 lN [cv,(AV.ah 0),AV.aN]).bind λfW=>(A.aG 0 3 fW).bind λbT=>A.fin σ (AV.aD [bT,ew]) r2.2)
noncomputable def DB:an→Heap→az:=A.wrap true [(.s 3)] (.t [(.a [.k,.k,(.e 7 o8)]),.k]) (A.dU DC)
noncomputable def A8 (a0 a1 a2:AV) (σ:Heap):az:=(A.eql .p a0 AV.np).bind λx1=>A.cond x1 ((A.add a1 a2).bind λx2=>(A.sub x2 (AV.ah 1)).bind λx3=>(A.leq x3 (AV.ah 512)).bind λx4=>A.fin σ x4 σ) ((A.loop (λv5 s6=>(A.add a1 a2).bind λx8=>(A.lss (aj v5 1) x8).bind λx9=>A.cond x9 ((A.gtr (aj v5 1) (AV.ah 512)).bind λbf=>(A.guard bf false (some a0) aq).bind λcK=>(A.guard bf false (some (aj v5 1)) aq).bind λbT=>(A.guard bf false (A.sR cK) aq).bind λbJ=>(A.guard bf false (A.sM 513 1 bJ bT) aq).bind λcq=>(A.guard bf false ((A.deref cq s6).bind λgp=>A.aB 0 gp) aq).bind λbK=>(A.pick bf ew bK).bind λbW=>A.cond bW (some (AX.ret,[bI,(aj v5 1)],s6)) ((A.add (aj v5 1) (AV.ah 1)).bind λbN=>some (AX.normal,[(aj v5 0),bN],s6))) (some (AX.exit 0,[(aj v5 0),(aj v5 1)],s6))) [bI,a1] σ).bind λeE=>bif eE.1==AX.exit 0 then(A.fin σ ew eE.2.2)else bif eE.1==AX.ret then(A.fin σ (aj eE.2.1 0) eE.2.2)else none)
noncomputable def zh:an→Heap→az:=A.wrap true [] .k (A.oh A8)
noncomputable def Bd (a0 a1 a2:AV) (σ:Heap):az:=(A.cells 4 a1).bind λc1=>(A.aB 2 c1).bind λx2=>(A.look .i a0 x2 AV.np σ).bind λx3=>(A.eql .p x3 AV.np).bind λx4=>(A.cond x4 ((A.aB 2 c1).bind λx6=>(A.iS .i a0 x6 (AV.op σ.length 0) (σ++[bk.box (List.replicate 513 bI)])).bind λh7=>some ([(AV.lbx c1)],h7)) (some ([(AV.lbx c1)],σ))).bind λr5=>((A.lb (aj r5.1 0)).bind λ_=>some (3)).bind λp8=>((A.lb (aj r5.1 0)).bind λc9=>A.aB p8 c9).bind λbf=>(A.loop (λv11 fN=>((A.lb (aj v11 0)).bind λ_=>some (3)).bind λp14=>((A.lb (aj v11 0)).bind λgp=>A.aB p14 gp).bind λbK=>(A.add bK a2).bind λbW=>(A.lss (aj v11 1) bW).bind λbN=>A.cond bN (((A.lb (aj v11 0)).bind λ_=>some (2)).bind λLk=>((A.lb (aj v11 0)).bind λgH=>A.aB Lk gH).bind λbX=>(A.look .i a0 bX AV.np fN).bind λdc=>(A.sR dc).bind λdX=>(A.sM 513 1 dX (aj v11 1)).bind λx24=>((A.cell ew).bind λv=>some [v]).bind λyl=>(A.storeAt x24 yl fN).bind λuJ=>(A.add (aj v11 1) (AV.ah 1)).bind λcg=>some (AX.normal,[(aj v11 0),cg],uJ)) (some (AX.exit 0,[(aj v11 0),(aj v11 1)],fN))) [(aj r5.1 0),bf] r5.2).bind λfM=>bif fM.1==AX.exit 0 then(some ((AV.aD []),fM.2.2))else none
noncomputable def DF:an→Heap→az:=A.wrap false [] .k (A.oh Bd)
noncomputable def Gk (a0:AV) (σ:Heap):az:=(A.cells 2 a0).bind λc1=>(A.aB 0 c1).bind λx2=>(F9 [x2] σ).bind λr3=>(A.neq .i r3.1 (AV.ah 0)).bind λx4=>A.cond x4 (A.fin σ r3.1 r3.2) ((A.aB 1 c1).bind λx5=>(A.br x5).bind λx6=>(A.gtr x6 (AV.ah 400)).bind λx7=>A.cond x7 (A.fin σ (AV.ah 2) r3.2) ((A.aB 1 c1).bind λx8=>(A.br x8).bind λx9=>(A.loop (λv10 rM=>(A.lss (aj v10 2) x9).bind λbJ=>A.cond bJ ((A.aM 4 x8 (aj v10 2)).bind λcq=>((A.deref cq rM).bind λgp=>A.aG 0 4 gp).bind λbK=>(A.cells 4 bK).bind λmh=>(A.bh 0 mh [(AV.ah 0),cv,(AV.ah 0),(AV.ah 0)]).bind λiU=>(A.aB 0 iU).bind λcZ=>(nM [cZ,(AV.ah 1),(AV.ah 9999)] rM).bind λep=>(A.not ep.1).bind λbX=>A.cond bX (some (AX.ret,[(aj v10 0),(AV.ah 1),(aj v10 2)],ep.2)) ((A.gtr (aj v10 2) (AV.ah 0)).bind λdc=>(A.guard dc true (A.aB 0 iU) aq).bind λdX=>((A.lb (aj v10 0)).bind λ_ => some (1)).bind λp24 =>(A.guard dc true ((A.lb (aj v10 0)).bind λyl=>A.aB p24 yl) aq).bind λeA=>(A.guard dc true (some (aj v10 2)) aq).bind λcg=>(A.guard dc true (A.sub cg (AV.ah 1)) aq).bind λx28=>(A.guard dc true (A.aM 4 eA x28) aq).bind λx29=>(A.guard dc true (A.ia 0 x29) aq).bind λcG=>(A.guard dc true ((A.deref cG ep.2).bind λnE=>A.aB 0 nE) aq).bind λx32=>(A.guard dc true (A.leq dX x32) aq).bind λiN=>(A.pick dc iN bI).bind λx34=>A.cond x34 (some (AX.ret,[(aj v10 0),(AV.ah 7),(aj v10 2)],ep.2)) (((A.lb (aj v10 0)).bind λ_=>some (0)).bind λp35=>((A.lb (aj v10 0)).bind λuL=>A.aB p35 uL).bind λvk=>(A.aB 1 iU).bind λx38=>(DB [vk,x38] ep.2).bind λmY=>(A.ext 0 mY.1).bind λpO=>(A.ext 1 mY.1).bind λiy=>(A.cells 3 pO).bind λKy=>(A.bh 0 Ky [cv,(AV.ah 0),AV.aN]).bind λuM=>(A.not iy).bind λk9=>A.cond k9 (some (AX.ret,[(aj v10 0),(AV.ah 5),(aj v10 2)],mY.2)) ((A.aB 2 iU).bind λlg=>(nM [lg,(AV.ah 1),(AV.ah 64)] mY.2).bind λnJ=>(A.not nJ.1).bind λjL=>(A.guard jL false (A.aB 3 iU) aq).bind λpP=>(A.guard jL false (A.quiet (nM [pP,(AV.ah 1),(AV.ah 512)] nJ.2) nJ.2) aq).bind λjM=>(A.guard jL false (A.not jM) aq).bind λfc=>(A.pick jL ew fc).bind λfS=>(A.guard fS false (A.aB 3 iU) aq).bind λgC=>(A.guard fS false (A.aB 1 uM) aq).bind λpQ=>(A.guard fS false (A.add gC pQ) aq).bind λpR=>(A.guard fS false (A.sub pR (AV.ah 1)) aq).bind λmA=>(A.guard fS false (A.gtr mA (AV.ah 512)) aq).bind λjN=>(A.pick fS ew jN).bind λrT=>A.cond rT (some (AX.ret,[(aj v10 0),(AV.ah 1),(aj v10 2)],nJ.2)) ((A.aB 2 iU).bind λrU=>(A.look .i (AV.om r3.2.length) rU AV.np nJ.2).bind λkJ=>(A.aB 3 iU).bind λpS=>(A.aB 1 uM).bind λlR=>(zh [kJ,pS,lR] nJ.2).bind λjK=>(A.not jK.1).bind λmB=>A.cond mB (some (AX.ret,[(aj v10 0),(AV.ah 12),(aj v10 2)],jK.2)) ((A.aG 0 4 iU).bind λLP=>(A.aB 1 uM).bind λyT=>(DF [(AV.om r3.2.length),LP,yT] jK.2).bind λtH=>(A.add (aj v10 2) (AV.ah 1)).bind λDf=>some (AX.normal,[(aj v10 0),(aj v10 1),Df],tH.2))))))) (some (AX.exit 0,[(aj v10 0),(aj v10 1),(aj v10 2)],rM))) [(AV.lbx c1),(AV.ah 0),(AV.ah 0)] (r3.2++[bk.map []])).bind λC7=>bif C7.1==AX.exit 0 then(A.fin σ (AV.ah 0) C7.2.2)else bif C7.1==AX.ret then(A.fin σ (aj C7.2.1 1) C7.2.2)else none))
noncomputable def DA:an→Heap→az:=A.wrap true [sU] .k (A.eP Gk)
noncomputable def Bc (a0:AV) (σ:Heap):az:=(A.cells 2 a0).bind λc1=>(A.aG 0 2 c1).bind λx2=>(DA [x2] σ).bind λr3=>(A.neq .i r3.1 (AV.ah 0)).bind λx4=>A.cond x4 (A.fin σ (AV.aD [AV.aN,r3.1]) r3.2) ((A.aB 1 c1).bind λx5=>(A.br x5).bind λx6=>(A.loop (λv7 s8=>(A.lss (aj v7 2) x6).bind λbf=>A.cond bf ((A.aM 4 x5 (aj v7 2)).bind λcK=>((A.deref cK s8).bind λdG=>A.aG 0 4 dG).bind λbJ=>(A.cells 4 bJ).bind λiq=>(A.bh 0 iq [(AV.ah 0),cv,(AV.ah 0),(AV.ah 0)]).bind λgp=>((A.lb (aj v7 0)).bind λ_=>some (0)).bind λLj=>((A.lb (aj v7 0)).bind λmh=>A.aB Lj mh).bind λbN=>(A.aB 1 gp).bind λcZ=>(DB [bN,cZ] s8).bind λep=>(A.ext 0 ep.1).bind λbX=>(A.ext 1 ep.1).bind λdc=>(A.cells 3 bX).bind λiV=>(A.bh 0 iV [cv,(AV.ah 0),AV.aN]).bind λiI=>(A.aB 2 iI).bind λx25=>(A.br x25).bind λeA=>(A.loop (λqB LB=>(A.lss (aj qB 3) eA).bind λcG=>A.cond cG ((A.aM 7 x25 (aj qB 3)).bind λx31=>((A.deref x31 LB).bind λCr=>A.aG 0 7 Cr).bind λiN=>(A.cells 7 iN).bind λpG=>(A.bh 0 pG [cv,(AV.ah 0),(AV.ah 0),(AV.ah 0),(AV.ah 0),bI,AV.aN]).bind λmo=>((A.lb (aj qB 2)).bind λ_=>some (0)).bind λp36=>((A.lb (aj qB 2)).bind λnF=>A.aB p36 nF).bind λx38=>(A.aB 0 mo).bind λi6=>((((A.cell x38).bind λv=>some [v]).bind λpH=>(A.bh 0 pH [(AV.ah 0),cv]).bind λKx=>((A.cell i6).bind λv=>some [v]).bind λKy=>(A.bh 1 Ky Kx).bind λuM=>some uM).bind λcs=>some (AV.agg cs)).bind λk9=>(((A.cells 2 k9).bind λc45=>(A.bh 0 c45 [(AV.ah 0),cv]).bind λuN=>some uN).bind λcs=>some (AV.sl 2 (je 2 1 cs))).bind λjL=>(A.append 2 (140737488355328 / 24) (aj qB 1) jL LB).bind λAU=>(A.add (aj qB 3) (AV.ah 1)).bind λjM=>some (AX.normal,[(aj qB 0),AU.1,(aj qB 2),jM],AU.2)) (some (AX.exit 2,[(aj qB 0),(aj qB 1),(aj qB 2),(aj qB 3)],LB))) [(aj v7 0),(aj v7 1),(AV.lbx gp),(AV.ah 0)] ep.2).bind λFW=>bif FW.1==AX.exit 2 then((A.add (aj v7 2) (AV.ah 1)).bind λfS=>some (AX.normal,[(aj FW.2.1 0),(aj FW.2.1 1),fS],FW.2.2))else none) (some (AX.exit 0,[(aj v7 0),(aj v7 1),(aj v7 2)],s8))) [(AV.lbx c1),AV.aN,(AV.ah 0)] r3.2).bind λLs=>bif Ls.1==AX.exit 0 then(A.fin σ (AV.aD [(aj Ls.2.1 1),(AV.ah 0)]) Ls.2.2)else none)
noncomputable def Gy:an→Heap→az:=A.wrap true [sU] (.t [(.s 2),.k]) (A.eP Bc)
end
section
set_option maxRecDepth 100000
noncomputable def Ho (a0:AV) (σ:Heap):az:=(A.cells 2 a0).bind λc1=>(A.aG 0 2 c1).bind λx2=>(Gy [x2] σ).bind λr3=>(A.ext 0 r3.1).bind λx4=>(A.ext 1 r3.1).bind λx5=>(A.br x4).bind λx6=>(A.loop (λv7 s8=>(A.lss (aj v7 0) x6).bind λbf=>A.cond bf ((A.aM 2 x4 (aj v7 0)).bind λcK=>((A.deref cK s8).bind λdG=>A.aG 0 2 dG).bind λbJ=>(A.cells 2 bJ).bind λiq=>(A.bh 0 iq [(AV.ah 0),cv]).bind λgp=>(A.aG 0 2 gp).bind λbK=>(A.iS (.s [0,2]) (AV.om r3.2.length) bK ew s8).bind λh17=>(A.add (aj v7 0) (AV.ah 1)).bind λbN=>some (AX.normal,[bN],h17)) (some (AX.exit 0,[(aj v7 0)],s8))) [(AV.ah 0)] (r3.2++[bk.map []])).bind λeE=>bif eE.1==AX.exit 0 then(A.fin σ (AV.om r3.2.length) eE.2.2)else none
noncomputable def G9:an→Heap→az:=A.wrap true [sU] .k (A.eP Ho)
noncomputable def GC (a0:AV) (σ:Heap):az:=(nM [a0,(AV.ah 0),(AV.ah 65535)] σ).bind λr1=>A.fin σ r1.1 r1.2
noncomputable def GA:an→Heap→az:=A.wrap true [] .k (A.eP GC)
noncomputable def Gh (a0:AV) (σ:Heap):az:=(GA [a0] σ).bind λr1=>(A.not r1.1).bind λx2=>A.fin σ x2 r1.2
noncomputable def A9:an→Heap→az:=A.wrap true [] .k (A.eP Gh)
noncomputable def DE (a0:AV) (σ:Heap):az:=(A.cells 3 a0).bind λc1=>(A.aB 0 c1).bind λx2=>(A.br x2).bind λx3=>(A.eql .i x3 (AV.ah 0)).bind λx4=>A.cond x4 (A.fin σ (AV.ah 8) σ) ((A.aB 0 c1).bind λx5=>(A.br x5).bind λx6=>(A.gtr x6 (AV.ah 20)).bind λx7=>A.cond x7 (A.fin σ (AV.ah 2) σ) ((A.aB 0 c1).bind λx8=>(Dw (A.tab (λ_ _=>none) [(11,A9)]) [x8,(AV.fn 11 [])] σ).bind λr9=>A.cond r9.1 (A.fin σ (AV.ah 1) r9.2) ((A.aB 1 c1).bind λbf=>(nM [bf,(AV.ah 1),(AV.ah 9999)] r9.2).bind λdQ=>(A.not dQ.1).bind λbT=>(A.guard bT false (A.aB 2 c1) aq).bind λbJ=>(A.guard bT false (A.quiet (nM [bJ,(AV.ah 1),(AV.ah 50)] dQ.2) dQ.2) aq).bind λcq=>(A.guard bT false (A.not cq) aq).bind λaW=>(A.pick bT ew aW).bind λbK=>A.cond bK (A.fin σ (AV.ah 1) dQ.2) (A.fin σ (AV.ah 0) dQ.2))))
noncomputable def Gw:an→Heap→az:=A.wrap true [(.a [(.s 1),.k,.k])] .k (A.eP DE)
noncomputable def GN (a0 a1 a2 a3:AV) (σ:Heap):az:=(A.cells 2 a0).bind λc1=>(A.cells 3 a3).bind λc2=>(A.aG 0 2 c1).bind λx3=>(A.quiet (DA [x3] σ) σ).bind λx4=>(A.aG 0 3 c2).bind λx5=>(A.quiet (Gw [x5] σ) σ).bind λx6=>(A.br a1).bind λx7=>(A.gtr x7 (AV.ah 400)).bind λx8=>(A.quiet (He [x8,(AV.ah 2)] σ) σ).bind λx9=>((((A.cell x4).bind λv=>some [v]).bind λlN=>(A.bh 0 lN [(AV.ah 0),(AV.ah 0),(AV.ah 0)]).bind λfW=>((A.cell x6).bind λv=>some [v]).bind λdG=>(A.bh 1 dG fW).bind λru=>((A.cell x9).bind λv=>some [v]).bind λiq=>(A.bh 2 iq ru).bind λgp=>some gp).bind λcs=>some (AV.sl 1 (je 1 3 cs))).bind λbK=>(A.quiet (GS [bK] σ) σ).bind λbW=>(A.neq .i bW (AV.ah 0)).bind λbN=>A.cond bN (A.fin σ (AV.aD [AV.aN,bW]) σ) ((A.aG 0 2 c1).bind λcZ=>(G9 [cZ] σ).bind λep=>(A.br a1).bind λbX=>(A.loop (λv22 jl=>(A.lss (aj v22 3) bX).bind λx25=>A.cond x25 ((A.aM 1 a1 (aj v22 3)).bind λeA=>((A.deref eA jl).bind λwE=>A.aB 0 wE).bind λx28=>((((A.cell x28).bind λv=>some [v]).bind λpE=>(A.bh 0 pE [(AV.ah 0),cv]).bind λwF=>((A.cell a2).bind λv=>some [v]).bind λnE=>(A.bh 1 nE wF).bind λCr=>some Cr).bind λcs=>some (AV.agg cs)).bind λiN=>(A.look (.s [0,2]) ep.1 iN bI jl).bind λx34=>(A.not x34).bind λnK=>A.cond nK (some (AX.ret,[(aj v22 0),AV.aN,(AV.ah 8),(aj v22 3)],jl)) ((A.look .i (AV.om ep.2.length) x28 bI jl).bind λkZ=>A.cond kZ (some (AX.ret,[(aj v22 0),AV.aN,(AV.ah 6),(aj v22 3)],jl)) ((A.iS .i (AV.om ep.2.length) x28 ew jl).bind λh37=>(A.add (aj v22 3) (AV.ah 1)).bind λx38=>some (AX.normal,[(aj v22 0),(aj v22 1),(aj v22 2),x38],h37)))) (some (AX.exit 0,[(aj v22 0),(aj v22 1),(aj v22 2),(aj v22 3)],jl))) [(AV.lbx c2),AV.aN,(AV.ah 0),(AV.ah 0)] (ep.2++[bk.map []])).bind λmY=>bif mY.1==AX.exit 0 then(((A.lb (aj mY.2.1 0)).bind λpH=>A.aG 0 3 pH).bind λiy=>(A.br a1).bind λvo=>(DH [iy,vo] mY.2.2).bind λve=>(A.ext 0 ve.1).bind λk9=>(A.ext 1 ve.1).bind λlg=>(A.br a1).bind λyS=>(A.loop (λyR FY=>(A.lss (aj yR 1) yS).bind λfc=>A.cond fc ((A.aM 1 a1 (aj yR 1)).bind λfS=>((A.deref fS FY).bind λCv=>A.aB 0 Cv).bind λpQ=>((((A.cell pQ).bind λv=>some [v]).bind λuO=>(A.bh 0 uO [(AV.ah 0),cv]).bind λc55=>((A.cell a2).bind λv=>some [v]).bind λKE=>(A.bh 1 KE c55).bind λuP=>some uP).bind λcs=>some (AV.agg cs)).bind λrU=>(A.aM 1 k9 (aj yR 1)).bind λkJ=>((A.deref kJ FY).bind λKH=>A.aB 0 KH).bind λlR=>(((A.cells 2 rU).bind λCw=>(A.bh 0 Cw [(AV.ah 0),cv,(AV.ah 0)]).bind λc63=>((A.cell lR).bind λv=>some [v]).bind λc64=>(A.bh 2 c64 c63).bind λc65=>some c65).bind λcs=>some (AV.agg cs)).bind λLQ=>(((A.cells 3 LQ).bind λc67=>(A.bh 0 c67 [(AV.ah 0),cv,(AV.ah 0)]).bind λKJ=>some KJ).bind λcs=>some (AV.sl 3 (je 3 1 cs))).bind λpU=>(A.append 3 (140737488355328 / 32) (aj yR 0) pU FY).bind λTf=>(A.add (aj yR 1) (AV.ah 1)).bind λyW=>some (AX.normal,[Tf.1,yW],Tf.2)) (some (AX.exit 2,[(aj yR 0),(aj yR 1)],FY))) [AV.aN,(AV.ah 0)] ve.2).bind λLw=>bif Lw.1==AX.exit 2 then(A.fin σ (AV.aD [(aj Lw.2.1 0),(AV.ah 0)]) Lw.2.2)else none)else bif mY.1==AX.ret then(A.fin σ (AV.aD [(aj mY.2.1 1),(aj mY.2.1 2)]) mY.2.2)else none)
noncomputable def GJ:an→Heap→az:=A.wrap true [sU,(.s 1),.k,(.a [(.s 1),.k,.k])] (.t [(.s 3),.k]) (A.tr GN)
noncomputable def GB (a0 a1:AV) (σ:Heap):az:=(A.cells 2 a0).bind λc1=>(A.cells 2 a1).bind λc2=>(A.aB 0 c1).bind λx3=>(A.aB 0 c2).bind λx4=>(A.neq .i x3 x4).bind λx5=>A.cond x5 ((A.aB 0 c1).bind λx6=>(A.aB 0 c2).bind λx7=>(A.lss x6 x7).bind λx8=>A.cond x8 (A.fin σ (AV.ah (-1)) σ) (A.fin σ (AV.ah 1) σ)) ((A.aB 1 c1).bind λx9=>(A.aB 1 c2).bind λbf=>(Gp [x9,bf] σ).bind λdQ=>A.fin σ dQ.1 dQ.2)
noncomputable def Gz:an→Heap→az:=A.wrap true [] .k (A.dU GB)
noncomputable def Gu (a0 a1:AV) (σ:Heap):az:=(A.cells 3 a0).bind λc1=>(A.cells 3 a1).bind λc2=>(A.aG 0 2 c1).bind λx3=>(A.aG 0 2 c2).bind λx4=>(Gz [x3,x4] σ).bind λr5=>A.fin σ r5.1 r5.2
noncomputable def tM:an→Heap→az:=A.wrap true [] .k (A.dU Gu)
noncomputable def Be (a0:AV) (σ:Heap):az:=(Du [a0] σ).bind λr1=>(ze (A.tab (λ_ _=>none) [(147,tM)]) [r1.1,(AV.fn 147 [])] r1.2).bind λr2=>(A.br r1.1).bind λx3=>(A.loop (λv4 s5=>(A.lss (aj v4 1) x3).bind λx7=>A.cond x7 ((A.aM 3 r1.1 (aj v4 1)).bind λx8=>((A.deref x8 s5).bind λc9=>A.aG 0 3 c9).bind λbf=>(A.cells 3 bf).bind λfW=>(A.bh 0 fW [(AV.ah 0),cv,(AV.ah 0)]).bind λdG=>(A.add (aj v4 1) (AV.ah 1)).bind λbJ=>(A.br r1.1).bind λcq=>(A.eql .i bJ cq).bind λaW=>(A.guard aW false (some r1.1) aq).bind λbK=>(A.guard aW false (some (aj v4 1)) aq).bind λbW=>(A.guard aW false (A.add bW (AV.ah 1)) aq).bind λbN=>(A.guard aW false (A.aM 3 bK bN) aq).bind λcZ=>(A.guard aW false (A.ia 0 cZ) aq).bind λdw=>(A.guard aW false ((A.deref dw s5).bind λmj=>A.aG 0 2 mj) aq).bind λdc=>(A.guard aW false (A.aG 0 2 dG) aq).bind λdX=>(A.guard aW false (A.neq (.s [0,2]) dc dX) aq).bind λx24=>(A.pick aW ew x24).bind λx25=>(A.cond x25 ((A.aG 0 3 dG).bind λcg=>(((A.cells 3 cg).bind λmm=>(A.bh 0 mm [(AV.ah 0),cv,(AV.ah 0)]).bind λpE=>some pE).bind λcs=>some (AV.sl 3 (je 3 1 cs))).bind λcG=>(A.append 3 (140737488355328 / 32) (aj v4 0) cG s5).bind λmX=>some ([mX.1],mX.2)) (some ([(aj v4 0)],s5))).bind λgW=>(A.add (aj v4 1) (AV.ah 1)).bind λx32=>some (AX.normal,[(aj gW.1 0),x32],gW.2)) (some (AX.exit 0,[(aj v4 0),(aj v4 1)],s5))) [AV.aN,(AV.ah 0)] r2.2).bind λkH=>bif kH.1==AX.exit 0 then(A.fin σ (aj kH.2.1 0) kH.2.2)else none
noncomputable def DI:an→Heap→az:=A.wrap true [(.s 3)] (.s 3) (A.eP Be)
noncomputable def GM (a0:AV) (σ:Heap):az:=(A.br a0).bind λx1=>(A.gtr x1 (AV.ah 20000)).bind λx2=>A.cond x2 (A.fin σ (AV.aD [AV.aN,(AV.ah 2)]) σ) ((DI [a0] σ).bind λr3=>A.fin σ (AV.aD [r3.1,(AV.ah 0)]) r3.2)
noncomputable def GI:an→Heap→az:=A.wrap true [(.s 3)] (.t [(.s 3),.k]) (A.eP GM)
end
section
set_option maxRecDepth 100000
noncomputable def Hg (a0:AV) (σ:Heap):az:=(A.xQ a0).bind λx1=>(A.loop (λv2 s3=>(A.lss (aj v2 1) x1).bind λx5=>A.cond x5 ((A.o7 a0 (aj v2 1)).bind λx6=>(A.lss x6 (AV.int .u8 97)).bind λx7=>(A.guard x7 false (some x6) aq).bind λx8=>(A.guard x7 false (A.gtr x8 (AV.int .u8 122)) aq).bind λx9=>(A.pick x7 ew x9).bind λbf=>(A.guard bf true (some x6) aq).bind λcK=>(A.guard bf true (A.lss cK (AV.int .u8 48)) aq).bind λbT=>(A.guard bf true (some bT) aq).bind λbJ=>(A.guard bJ false (some x6) aq).bind λcq=>(A.guard bJ false (A.gtr cq (AV.int .u8 57)) aq).bind λaW=>(A.guard bf true (A.pick bJ ew aW) aq).bind λbK=>(A.pick bf bK bI).bind λbW=>(A.guard bW true (some x6) aq).bind λbN=>(A.guard bW true (A.neq .i bN (AV.int .u8 45)) aq).bind λcZ=>(A.pick bW cZ bI).bind λdw=>A.cond dw (some (AX.ret,[bI,(aj v2 1)],s3)) ((A.add (aj v2 1) (AV.ah 1)).bind λbX=>some (AX.normal,[(aj v2 0),bX],s3))) (some (AX.exit 0,[(aj v2 0),(aj v2 1)],s3))) [bI,(AV.ah 0)] σ).bind λiM=>bif iM.1==AX.exit 0 then((A.neq .z a0 cv).bind λdX=>A.fin σ dX iM.2.2)else bif iM.1==AX.ret then(A.fin σ (aj iM.2.1 0) iM.2.2)else none
noncomputable def G6:an→Heap→az:=A.wrap true [] .k (A.eP Hg)
noncomputable def Hf (a0:AV) (σ:Heap):az:=(G6 [a0] σ).bind λr1=>(A.guard r1.1 true (some a0) aq).bind λx2=>(A.guard r1.1 true (A.xQ x2) aq).bind λx3=>(A.guard r1.1 true (A.leq x3 (AV.ah 20)) aq).bind λx4=>(A.pick r1.1 x4 bI).bind λx5=>(A.guard x5 true (some a0) aq).bind λx6=>(A.guard x5 true (A.o7 x6 (AV.ah 0)) aq).bind λx7=>(A.guard x5 true (A.geq x7 (AV.int .u8 97)) aq).bind λx8=>(A.pick x5 x8 bI).bind λx9=>(A.guard x9 true (some a0) aq).bind λbf=>(A.guard x9 true (A.o7 bf (AV.ah 0)) aq).bind λcK=>(A.guard x9 true (A.leq cK (AV.int .u8 122)) aq).bind λbT=>(A.pick x9 bT bI).bind λbJ=>A.fin σ bJ r1.2
noncomputable def Bk:an→Heap→az:=A.wrap true [] .k (A.eP Hf)
noncomputable def Hh (a0 a1 a2:AV) (σ:Heap):az:=(A.geq a0 a1).bind λx1=>(A.guard x1 true (some a0) aq).bind λx2=>(A.guard x1 true (some a2) aq).bind λx3=>(A.guard x1 true (A.leq x2 x3) aq).bind λx4=>(A.pick x1 x4 bI).bind λx5=>A.fin σ x5 σ
noncomputable def pW:an→Heap→az:=A.wrap true [] .k (A.oh Hh)
noncomputable def GV (a0:AV) (σ:Heap):az:=(pW [a0,(AV.ah 0),(AV.ah 65535)] σ).bind λr1=>A.fin σ r1.1 r1.2
noncomputable def zo:an→Heap→az:=A.wrap true [] .k (A.eP GV)
end
section
set_option maxRecDepth 100000
noncomputable def Ib (a0:AV) (σ:Heap):az:=(A.cells 7 a0).bind λc1=>(A.aB 3 c1).bind λx2=>(A.eql .i x2 (AV.ah 0)).bind λx3=>A.cond x3 ((A.aB 2 c1).bind λx4=>((((A.cell x4).bind λv=>some [v]).bind λc5=>(A.bh 0 c5 [(AV.ah 0)]).bind λc6=>some c6).bind λcs=>some (AV.sl 1 (je 1 1 cs))).bind λx7=>A.fin σ x7 σ) ((A.aB 2 c1).bind λx8=>(A.aB 3 c1).bind λx9=>((((A.cell x8).bind λv=>some [v]).bind λlN=>(A.bh 0 lN [(AV.ah 0),(AV.ah 0)]).bind λfW=>((A.cell x9).bind λv=>some [v]).bind λdG=>(A.bh 1 dG fW).bind λru=>some ru).bind λcs=>some (AV.sl 1 (je 1 2 cs))).bind λcq=>A.fin σ cq σ)
noncomputable def DW:an→Heap→az:=A.wrap true [(.a o8)] (.s 1) (A.eP Ib)
noncomputable def Gx (a0 a1 a2:AV) (σ:Heap):az:=(A.cells 7 a0).bind λc1=>(A.aB 0 c1).bind λx2=>(Bk [x2] σ).bind λr3=>(A.not r3.1).bind λx4=>A.cond x4 (A.fin σ (AV.ah 5) r3.2) ((A.br a1).bind λx5=>(A.loop (λv6 s7=>(A.lss (aj v6 2) x5).bind λx9=>A.cond x9 ((A.aM 7 a1 (aj v6 2)).bind λbf=>((A.deref bf s7).bind λfW=>A.aG 0 7 fW).bind λbT=>(A.cells 7 bT).bind λru=>(A.bh 0 ru [cv,(AV.ah 0),(AV.ah 0),(AV.ah 0),(AV.ah 0),bI,AV.aN]).bind λiq=>(A.aB 0 iq).bind λaW=>((A.lb (aj v6 0)).bind λ_=>some (0)).bind λLj=>((A.lb (aj v6 0)).bind λmh=>A.aB Lj mh).bind λbN=>(A.eql .z aW bN).bind λcZ=>A.cond cZ (some (AX.ret,[(aj v6 0),(AV.ah 6),(aj v6 2)],s7)) ((A.add (aj v6 2) (AV.ah 1)).bind λdw=>some (AX.normal,[(aj v6 0),(aj v6 1),dw],s7))) (some (AX.exit 0,[(aj v6 0),(aj v6 1),(aj v6 2)],s7))) [(AV.lbx c1),(AV.ah 0),(AV.ah 0)] r3.2).bind λfG=>bif fG.1==AX.exit 0 then(((A.lb (aj fG.2.1 0)).bind λ_=>some (1)).bind λuZ=>((A.lb (aj fG.2.1 0)).bind λiV=>A.aB uZ iV).bind λx24=>(pW [x24,(AV.ah 1),(AV.ah 4)] fG.2.2).bind λpM=>(A.not pM.1).bind λeA=>A.cond eA (A.fin σ (AV.ah 4) pM.2) (((A.lb (aj fG.2.1 0)).bind λ_=>some (2)).bind λp27=>((A.lb (aj fG.2.1 0)).bind λmm=>A.aB p27 mm).bind λx29=>(pW [x29,(AV.ah 1),a2] pM.2).bind λwO=>(A.not wO.1).bind λx31=>((A.lb (aj fG.2.1 0)).bind λ_=>some (3)).bind λp32=>(A.guard x31 false ((A.lb (aj fG.2.1 0)).bind λuK=>A.aB p32 uK) aq).bind λx34=>(A.guard x31 false (some a2) aq).bind λnK=>(A.guard x31 false (A.quiet (pW [x34,(AV.ah 0),nK] wO.2) wO.2) aq).bind λkZ=>(A.guard x31 false (A.not kZ) aq).bind λvk=>(A.pick x31 ew vk).bind λx38=>((A.lb (aj fG.2.1 0)).bind λ_=>some (4)).bind λp39=>(A.guard x38 false ((A.lb (aj fG.2.1 0)).bind λpH=>A.aB p39 pH) aq).bind λiy=>(A.guard x38 false (A.quiet (zo [iy] wO.2) wO.2) aq).bind λvo=>(A.guard x38 false (A.not vo) aq).bind λrS=>(A.pick x38 ew rS).bind λk9=>A.cond k9 (A.fin σ (AV.ah 1) wO.2) (((A.lb (aj fG.2.1 0)).bind λ_=>some (2)).bind λp45=>((A.lb (aj fG.2.1 0)).bind λuN=>A.aB p45 uN).bind λjL=>((A.lb (aj fG.2.1 0)).bind λ_=>some (3)).bind λp48=>((A.lb (aj fG.2.1 0)).bind λKB=>A.aB p48 KB).bind λfc=>(A.eql .i jL fc).bind λfS=>A.cond fS (A.fin σ (AV.ah 12) wO.2) ((A.br a1).bind λgC=>(A.loop (λv53 LC=>(A.lss (aj v53 2) gC).bind λjN=>A.cond jN ((A.aM 7 a1 (aj v53 2)).bind λrT=>((A.deref rT LC).bind λKF=>A.aG 0 7 KF).bind λkJ=>(A.cells 7 kJ).bind λKH=>(A.bh 0 KH [cv,(AV.ah 0),(AV.ah 0),(AV.ah 0),(AV.ah 0),bI,AV.aN]).bind λKI=>((A.lb (aj v53 0)).bind λCw=>A.aG 0 7 Cw).bind λmB=>(DW [mB] LC).bind λr64=>(A.br r64.1).bind λyT=>(A.loop (λv66 LD=>(A.lss (aj v66 3) yT).bind λpU=>A.cond pU ((A.aM 1 r64.1 (aj v66 3)).bind λyV=>((A.deref yV LD).bind λCx=>A.aB 0 Cx).bind λDg=>((A.lb (aj v66 2)).bind λc73=>A.aG 0 7 c73).bind λyY=>(DW [yY] LD).bind λTh=>(A7 [Th.1,Dg] Th.2).bind λLx=>A.cond Lx.1 (some (AX.ret,[(aj v66 0),(AV.ah 12),(aj v66 2),(aj v66 3)],Lx.2)) ((A.add (aj v66 3) (AV.ah 1)).bind λrV=>some (AX.normal,[(aj v66 0),(aj v66 1),(aj v66 2),rV],Lx.2))) (some (AX.exit 5,[(aj v66 0),(aj v66 1),(aj v66 2),(aj v66 3)],LD))) [(aj v53 0),(aj v53 1),(AV.lbx KI),(AV.ah 0)] r64.2).bind λoD=>bif oD.1==AX.exit 5 then((A.add (aj v53 2) (AV.ah 1)).bind λLU=>some (AX.normal,[(aj oD.2.1 0),(aj oD.2.1 1),LU],oD.2.2))else bif oD.1==AX.ret then(some (AX.ret,[(aj oD.2.1 0),(aj oD.2.1 1),(aj v53 2)],oD.2.2))else none) (some (AX.exit 3,[(aj v53 0),(aj v53 1),(aj v53 2)],LC))) [(aj fG.2.1 0),(aj fG.2.1 1),(AV.ah 0)] wO.2).bind λqz=>bif qz.1==AX.exit 3 then(((A.lb (aj qz.2.1 0)).bind λ_=>some (6)).bind λp81=>((A.lb (aj qz.2.1 0)).bind λyp=>A.aB p81 yp).bind λvq=>(A.br vq).bind λwT=>(A.gtr wT (AV.ah 30)).bind λLV=>A.cond LV (A.fin σ (AV.ah 2) qz.2.2) (((A.lb (aj qz.2.1 0)).bind λ_=>some (6)).bind λp86=>((A.lb (aj qz.2.1 0)).bind λc87=>A.aB p86 c87).bind λqD=>(A.br qD).bind λyZ=>(A.loop (λjm LF=>(A.lss (aj jm 2) yZ).bind λx93=>A.cond x93 ((A.aM 3 qD (aj jm 2)).bind λLY=>((A.deref LY LF).bind λc95=>A.aG 0 3 c95).bind λx96=>(A.cells 3 x96).bind λc97=>(A.bh 0 c97 [(AV.ah 0),(AV.ah 0),cv]).bind λyq=>(A.aB 0 yq).bind λx99=>(zo [x99] LF).bind λxR=>(A.not xR.1).bind λx101=>(A.guard x101 false (A.aB 1 yq) aq).bind λx102=>(A.guard x101 false (A.quiet (zo [x102] xR.2) xR.2) aq).bind λwA=>(A.guard x101 false (A.not wA) aq).bind λx104=>(A.pick x101 ew x104).bind λtd=>(A.guard td false (A.aB 0 yq) aq).bind λxU=>(A.guard td false (A.aB 1 yq) aq).bind λacL=>(A.guard td false (A.gtr xU acL) aq).bind λxV=>(A.pick td ew xV).bind λxW=>A.cond xW (some (AX.ret,[(aj jm 0),(AV.ah 1),(aj jm 2)],xR.2)) ((A.gtr (aj jm 2) (AV.ah 0)).bind λnC=>(A.guard nC true (A.aB 0 yq) aq).bind λxX=>((A.lb (aj jm 0)).bind λ_=>some (6)).bind λacz=>(A.guard nC true ((A.lb (aj jm 0)).bind λabH=>A.aB acz abH) aq).bind λx114=>(A.guard nC true (some (aj jm 2)) aq).bind λx115=>(A.guard nC true (A.sub x115 (AV.ah 1)) aq).bind λAu=>(A.guard nC true (A.aM 3 x114 Au) aq).bind λKj=>(A.guard nC true (A.ia 1 Kj) aq).bind λKk=>(A.guard nC true ((A.deref Kk xR.2).bind λabI=>A.aB 0 abI) aq).bind λKl=>(A.guard nC true (A.leq xX Kl) aq).bind λacN=>(A.pick nC acN bI).bind λacO=>A.cond acO (some (AX.ret,[(aj jm 0),(AV.ah 7),(aj jm 2)],xR.2)) ((A.aB 2 yq).bind λAv=>(Bk [Av] xR.2).bind λwq=>(A.not wq.1).bind λKm=>A.cond Km (some (AX.ret,[(aj jm 0),(AV.ah 5),(aj jm 2)],wq.2)) (((A.lb (aj jm 0)).bind λ_=>some (6)).bind λacA=>((A.lb (aj jm 0)).bind λabJ=>A.aB acA abJ).bind λacS=>(A.cm 3 acS none (some (aj jm 2)) wq.2).bind λRY=>(A.br RY).bind λAw=>(A.loop (λv131 Fp=>(A.lss (aj v131 3) Aw).bind λKn=>A.cond Kn ((A.aM 3 RY (aj v131 3)).bind λacW=>((A.deref acW Fp).bind λabK=>A.aG 0 3 abK).bind λacX=>(A.cells 3 acX).bind λabL=>(A.bh 0 abL [(AV.ah 0),(AV.ah 0),cv]).bind λabM=>(A.aB 2 abM).bind λacY=>((A.lb (aj v131 2)).bind λ_=>some (2)).bind λacB=>((A.lb (aj v131 2)).bind λabN=>A.aB acB abN).bind λacZ=>(A.eql .z acY acZ).bind λac0=>A.cond ac0 (some (AX.ret,[(aj v131 0),(AV.ah 6),(aj v131 2),(aj v131 3)],Fp)) ((A.add (aj v131 3) (AV.ah 1)).bind λac1=>some (AX.normal,[(aj v131 0),(aj v131 1),(aj v131 2),ac1],Fp))) (some (AX.exit 10,[(aj v131 0),(aj v131 1),(aj v131 2),(aj v131 3)],Fp))) [(aj jm 0),(aj jm 1),(AV.lbx yq),(AV.ah 0)] wq.2).bind λwu=>bif wu.1==AX.exit 10 then((A.add (aj jm 2) (AV.ah 1)).bind λac2=>some (AX.normal,[(aj wu.2.1 0),(aj wu.2.1 1),ac2],wu.2.2))else bif wu.1==AX.ret then(some (AX.ret,[(aj wu.2.1 0),(aj wu.2.1 1),(aj jm 2)],wu.2.2))else none)))) (some (AX.exit 7,[(aj jm 0),(aj jm 1),(aj jm 2)],LF))) [(aj qz.2.1 0),(aj qz.2.1 1),(AV.ah 0)] qz.2.2).bind λCl=>bif Cl.1==AX.exit 7 then(A.fin σ (AV.ah 0) Cl.2.2)else bif Cl.1==AX.ret then(A.fin σ (aj Cl.2.1 1) Cl.2.2)else none))else bif qz.1==AX.ret then(A.fin σ (aj qz.2.1 1) qz.2.2)else none))))else bif fG.1==AX.ret then(A.fin σ (aj fG.2.1 1) fG.2.2)else none)
noncomputable def Gv:an→Heap→az:=A.wrap true [(.a o8),(.s 7)] .k (A.oh Gx)
noncomputable def Gs (a0:AV) (σ:Heap):az:=(A.cells 3 a0).bind λc1=>(A.aB 0 c1).bind λx2=>(Bk [x2] σ).bind λr3=>(A.not r3.1).bind λx4=>A.cond x4 (A.fin σ (AV.ah 5) r3.2) ((A.aB 1 c1).bind λx5=>(pW [x5,(AV.ah 1),(AV.ah 512)] r3.2).bind λr6=>(A.not r6.1).bind λx7=>A.cond x7 (A.fin σ (AV.ah 1) r6.2) ((A.aB 2 c1).bind λx8=>(A.br x8).bind λx9=>(A.eql .i x9 (AV.ah 0)).bind λbf=>A.cond bf (A.fin σ (AV.ah 8) r6.2) ((A.aB 2 c1).bind λcK=>(A.br cK).bind λbT=>(A.gtr bT (AV.ah 40)).bind λbJ=>A.cond bJ (A.fin σ (AV.ah 2) r6.2) ((A.aB 2 c1).bind λcq=>(A.br cq).bind λaW=>(A.loop (λdW rO=>(A.lss (aj dW 2) aW).bind λcZ=>A.cond cZ ((A.aM 7 cq (aj dW 2)).bind λdw=>((A.deref dw rO).bind λmj=>A.aG 0 7 mj).bind λdc=>(A.cells 7 dc).bind λiV=>(A.bh 0 iV [cv,(AV.ah 0),(AV.ah 0),(AV.ah 0),(AV.ah 0),bI,AV.aN]).bind λiI=>(A.aG 0 7 iI).bind λx25=>((A.lb (aj dW 0)).bind λ_=>some (2)).bind λLm=>((A.lb (aj dW 0)).bind λwE=>A.aB Lm wE).bind λx28=>(A.cm 7 x28 none (some (aj dW 2)) rO).bind λx29=>((A.lb (aj dW 0)).bind λ_=>some (1)).bind λp30=>((A.lb (aj dW 0)).bind λnE=>A.aB p30 nE).bind λx32=>(A.quiet (Gv [x25,x29,x32] rO) rO).bind λiN=>(A.neq .i iN (AV.ah 0)).bind λx34=>A.cond x34 (some (AX.ret,[(aj dW 0),iN,(aj dW 2)],rO)) ((A.add (aj dW 2) (AV.ah 1)).bind λnK=>some (AX.normal,[(aj dW 0),(aj dW 1),nK],rO))) (some (AX.exit 1,[(aj dW 0),(aj dW 1),(aj dW 2)],rO))) [(AV.lbx c1),(AV.ah 0),(AV.ah 0)] r6.2).bind λrK=>bif rK.1==AX.exit 1 then(A.fin σ (AV.ah 0) rK.2.2)else bif rK.1==AX.ret then(A.fin σ (aj rK.2.1 1) rK.2.2)else none))))
noncomputable def Gn:an→Heap→az:=A.wrap true [(.a [.k,.k,(.s 7)])] .k (A.eP Gs)
noncomputable def Gq (a0:AV) (σ:Heap):az:=(A.br a0).bind λx1=>(A.gtr x1 (AV.ah 60)).bind λx2=>A.cond x2 (A.fin σ (AV.ah 2) σ) ((A.br a0).bind λx3=>(A.loop (λv4 s5=>(A.lss (aj v4 1) x3).bind λx7=>A.cond x7 ((A.aM 3 a0 (aj v4 1)).bind λx8=>((A.deref x8 s5).bind λc9=>A.aG 0 3 c9).bind λbf=>(A.cells 3 bf).bind λfW=>(A.bh 0 fW [cv,(AV.ah 0),AV.aN]).bind λdG=>(A.aG 0 3 dG).bind λbJ=>(Gn [bJ] s5).bind λkG=>(A.neq .i kG.1 (AV.ah 0)).bind λaW=>A.cond aW (some (AX.ret,[kG.1,(aj v4 1)],kG.2)) ((A.cm 3 a0 none (some (aj v4 1)) kG.2).bind λbK=>(A.br bK).bind λbW=>(A.loop (λqA oF=>(A.lss (aj qA 2) bW).bind λbX=>A.cond bX ((A.aM 3 bK (aj qA 2)).bind λdc=>((A.deref dc oF).bind λiV=>A.aG 0 3 iV).bind λx24=>(A.cells 3 x24).bind λyl=>(A.bh 0 yl [cv,(AV.ah 0),AV.aN]).bind λuJ=>(A.aB 0 uJ).bind λcg=>((A.lb (aj qA 1)).bind λ_=>some (0)).bind λp28=>((A.lb (aj qA 1)).bind λpE=>A.aB p28 pE).bind λcG=>(A.eql .z cg cG).bind λx31=>A.cond x31 (some (AX.ret,[(AV.ah 6),(aj qA 1),(aj qA 2)],oF)) ((A.add (aj qA 2) (AV.ah 1)).bind λx32=>some (AX.normal,[(aj qA 0),(aj qA 1),x32],oF))) (some (AX.exit 2,[(aj qA 0),(aj qA 1),(aj qA 2)],oF))) [(aj v4 0),(AV.lbx dG),(AV.ah 0)] kG.2).bind λkH=>bif kH.1==AX.exit 2 then((A.add (aj v4 1) (AV.ah 1)).bind λx34=>some (AX.normal,[(aj kH.2.1 0),x34],kH.2.2))else bif kH.1==AX.ret then(some (AX.ret,[(aj kH.2.1 0),(aj v4 1)],kH.2.2))else none)) (some (AX.exit 0,[(aj v4 0),(aj v4 1)],s5))) [(AV.ah 0),(AV.ah 0)] σ).bind λmw=>bif mw.1==AX.exit 0 then(A.fin σ (AV.ah 0) mw.2.2)else bif mw.1==AX.ret then(A.fin σ (aj mw.2.1 0) mw.2.2)else none)
noncomputable def Gm:an→Heap→az:=A.wrap true [(.s 3)] .k (A.eP Gq)
noncomputable def GX (a0 a1:AV) (σ:Heap):az:=(A.br a0).bind λx1=>(A.loop (λv2 s3=>(A.lss (aj v2 2) x1).bind λx5=>A.cond x5 ((A.aM 3 a0 (aj v2 2)).bind λx6=>((A.deref x6 s3).bind λc7=>A.aG 0 3 c7).bind λx8=>(A.cells 3 x8).bind λc9=>(A.bh 0 c9 [cv,(AV.ah 0),AV.aN]).bind λlN=>(A.aB 0 lN).bind λcK=>(A.eql .z cK a1).bind λbT=>A.cond bT ((A.aG 0 3 lN).bind λbJ=>(A.lb (aj v2 0)).bind λyh=>(A.cells 3 bJ).bind λiq=>(A.bh 0 iq yh).bind λgp=>some (AX.ret,[(AV.lbx gp),ew,(aj v2 2)],s3)) ((A.add (aj v2 2) (AV.ah 1)).bind λbW=>some (AX.normal,[(aj v2 0),(aj v2 1),bW],s3))) (some (AX.exit 0,[(aj v2 0),(aj v2 1),(aj v2 2)],s3))) [(AV.lbx [cv,(AV.ah 0),AV.aN]),bI,(AV.ah 0)] σ).bind λyM=>bif yM.1==AX.exit 0 then((A.lb (aj yM.2.1 0)).bind λmj=>(A.cells 3 (AV.agg [cv,(AV.ah 0),AV.aN])).bind λpq=>(A.bh 0 pq mj).bind λgH=>(A.aG 0 3 gH).bind λdc=>A.fin σ (AV.aD [dc,bI]) yM.2.2)else bif yM.1==AX.ret then(((A.lb (aj yM.2.1 0)).bind λiI=>A.aG 0 3 iI).bind λdX=>A.fin σ (AV.aD [dX,(aj yM.2.1 1)]) yM.2.2)else none
noncomputable def Bh:an→Heap→az:=A.wrap true [(.s 3)] (.t [(.a [.k,.k,(.e 7 o8)]),.k]) (A.dU GX)
noncomputable def Io (a0 a1:AV) (σ:Heap):az:=(A.cells 2 a0).bind λc1=>(A.cells 4 a1).bind λc2=>(A.aB 0 c1).bind λx3=>(A.aB 1 c2).bind λx4=>(Bh [x3,x4] σ).bind λr5=>(A.ext 0 r5.1).bind λx6=>(A.ext 1 r5.1).bind λx7=>(A.cells 3 x6).bind λc8=>(A.bh 0 c8 [cv,(AV.ah 0),AV.aN]).bind λc9=>(A.aB 3 c2).bind λbf=>(A.aB 1 c9).bind λcK=>(A.add bf cK).bind λbT=>(A.sub bT (AV.ah 1)).bind λbJ=>A.fin σ bJ r5.2
noncomputable def Bv:an→Heap→az:=A.wrap true [sU] .k (A.dU Io)
noncomputable def GK (a0:AV) (σ:Heap):az:=(A.cells 2 a0).bind λc1=>(A.aB 0 c1).bind λx2=>(Gm [x2] σ).bind λr3=>(A.neq .i r3.1 (AV.ah 0)).bind λx4=>A.cond x4 (A.fin σ r3.1 r3.2) ((A.aB 1 c1).bind λx5=>(A.br x5).bind λx6=>(A.gtr x6 (AV.ah 400)).bind λx7=>A.cond x7 (A.fin σ (AV.ah 2) r3.2) ((A.aB 1 c1).bind λx8=>(A.br x8).bind λx9=>(A.loop (λv10 rM=>(A.lss (aj v10 2) x9).bind λbJ=>A.cond bJ ((A.aM 4 x8 (aj v10 2)).bind λcq=>((A.deref cq rM).bind λgp=>A.aG 0 4 gp).bind λbK=>(A.cells 4 bK).bind λmh=>(A.bh 0 mh [(AV.ah 0),cv,(AV.ah 0),(AV.ah 0)]).bind λiU=>((A.lb (aj v10 0)).bind λ_=>some (0)).bind λLk=>((A.lb (aj v10 0)).bind λgH=>A.aB Lk gH).bind λbX=>(A.aB 1 iU).bind λdc=>(Bh [bX,dc] rM).bind λpL=>(A.ext 0 pL.1).bind λx24=>(A.ext 1 pL.1).bind λx25=>(A.cells 3 x24).bind λuJ=>(A.bh 0 uJ [cv,(AV.ah 0),AV.aN]).bind λwE=>(A.aB 0 iU).bind λx28=>(pW [x28,(AV.ah 1),(AV.ah 9999)] pL.2).bind λqy=>(A.not qy.1).bind λcG=>A.cond cG (some (AX.ret,[(aj v10 0),(AV.ah 1),(aj v10 2)],qy.2)) ((A.gtr (aj v10 2) (AV.ah 0)).bind λx31=>(A.guard x31 true (A.aB 0 iU) aq).bind λx32=>((A.lb (aj v10 0)).bind λ_ => some (1)).bind λp33 =>(A.guard x31 true ((A.lb (aj v10 0)).bind λpG=>A.aB p33 pG) aq).bind λnK=>(A.guard x31 true (some (aj v10 2)) aq).bind λkZ=>(A.guard x31 true (A.sub kZ (AV.ah 1)) aq).bind λvk=>(A.guard x31 true (A.aM 4 nK vk) aq).bind λx38=>(A.guard x31 true (A.ia 0 x38) aq).bind λi6=>(A.guard x31 true ((A.deref i6 qy.2).bind λpH=>A.aB 0 pH) aq).bind λiy=>(A.guard x31 true (A.leq x32 iy) aq).bind λvo=>(A.pick x31 vo bI).bind λrS=>A.cond rS (some (AX.ret,[(aj v10 0),(AV.ah 7),(aj v10 2)],qy.2)) ((A.not x25).bind λk9=>A.cond k9 (some (AX.ret,[(aj v10 0),(AV.ah 5),(aj v10 2)],qy.2)) ((A.aB 2 iU).bind λlg=>(pW [lg,(AV.ah 1),(AV.ah 64)] qy.2).bind λnJ=>(A.not nJ.1).bind λjL=>(A.guard jL false (A.aB 3 iU) aq).bind λpP=>(A.guard jL false (A.quiet (pW [pP,(AV.ah 1),(AV.ah 512)] nJ.2) nJ.2) aq).bind λjM=>(A.guard jL false (A.not jM) aq).bind λfc=>(A.pick jL ew fc).bind λfS=>(A.guard fS false ((A.lb (aj v10 0)).bind λCv=>A.aG 0 2 Cv) aq).bind λpQ=>(A.guard fS false (A.aG 0 4 iU) aq).bind λpR=>(A.guard fS false (A.quiet (Bv [pQ,pR] nJ.2) nJ.2) aq).bind λmA=>(A.guard fS false (A.gtr mA (AV.ah 512)) aq).bind λjN=>(A.pick fS ew jN).bind λrT=>A.cond rT (some (AX.ret,[(aj v10 0),(AV.ah 1),(aj v10 2)],nJ.2)) (((A.lb (aj v10 0)).bind λ_=>some (1)).bind λp58=>((A.lb (aj v10 0)).bind λKG=>A.aB p58 KG).bind λpS=>(A.cm 4 pS none (some (aj v10 2)) nJ.2).bind λlR=>(A.br lR).bind λLO=>(A.loop (λkI wQ=>(A.lss (aj kI 3) LO).bind λLQ=>A.cond LQ ((A.aM 4 lR (aj kI 3)).bind λDf=>((A.deref Df wQ).bind λKJ=>A.aG 0 4 KJ).bind λpU=>(A.cells 4 pU).bind λc70=>(A.bh 0 c70 [(AV.ah 0),cv,(AV.ah 0),(AV.ah 0)]).bind λCx=>(A.aB 2 Cx).bind λDg=>((A.lb (aj kI 2)).bind λ_=>some (2)).bind λp73=>((A.lb (aj kI 2)).bind λc74=>A.aB p73 c74).bind λLR=>(A.eql .i Dg LR).bind λqC=>(A.guard qC true (A.aB 3 Cx) aq).bind λrV=>(A.guard qC true ((A.lb (aj kI 0)).bind λym=>A.aG 0 2 ym) aq).bind λLU=>(A.guard qC true ((A.lb (aj kI 2)).bind λc80=>A.aG 0 4 c80) aq).bind λx81=>(A.guard qC true (A.quiet (Bv [LU,x81] wQ) wQ) aq).bind λx82=>(A.guard qC true (A.leq rV x82) aq).bind λvq=>(A.pick qC vq bI).bind λwT=>((A.lb (aj kI 2)).bind λ_=>some (3)).bind λp85=>(A.guard wT true ((A.lb (aj kI 2)).bind λc86=>A.aB p85 c86) aq).bind λLW=>(A.guard wT true ((A.lb (aj kI 0)).bind λc88=>A.aG 0 2 c88) aq).bind λyZ=>(A.guard wT true (A.aG 0 4 Cx) aq).bind λx90=>(A.guard wT true (A.quiet (Bv [yZ,x90] wQ) wQ) aq).bind λx91=>(A.guard wT true (A.leq LW x91) aq).bind λLX=>(A.pick wT LX bI).bind λx93=>A.cond x93 (some (AX.ret,[(aj kI 0),(AV.ah 12),(aj kI 2),(aj kI 3)],wQ)) ((A.add (aj kI 3) (AV.ah 1)).bind λLY=>some (AX.normal,[(aj kI 0),(aj kI 1),(aj kI 2),LY],wQ))) (some (AX.exit 3,[(aj kI 0),(aj kI 1),(aj kI 2),(aj kI 3)],wQ))) [(aj v10 0),(aj v10 1),(AV.lbx iU),(AV.ah 0)] nJ.2).bind λwP=>bif wP.1==AX.exit 3 then((A.add (aj v10 2) (AV.ah 1)).bind λx96=>some (AX.normal,[(aj wP.2.1 0),(aj wP.2.1 1),x96],wP.2.2))else bif wP.1==AX.ret then(some (AX.ret,[(aj wP.2.1 0),(aj wP.2.1 1),(aj v10 2)],wP.2.2))else none))))) (some (AX.exit 0,[(aj v10 0),(aj v10 1),(aj v10 2)],rM))) [(AV.lbx c1),(AV.ah 0),(AV.ah 0)] r3.2).bind λC8=>bif C8.1==AX.exit 0 then(A.fin σ (AV.ah 0) C8.2.2)else bif C8.1==AX.ret then(A.fin σ (aj C8.2.1 1) C8.2.2)else none))
noncomputable def GG:an→Heap→az:=A.wrap true [sU] .k (A.eP GK)
noncomputable def Ip (a0 a1:AV) (σ:Heap):az:=(A.cells 2 a0).bind λc1=>(A.aB 1 c1).bind λx2=>(A.br x2).bind λx3=>(A.loop (λv4 s5=>(A.lss (aj v4 1) x3).bind λx7=>A.cond x7 ((A.aM 4 x2 (aj v4 1)).bind λx8=>((A.deref x8 s5).bind λc9=>A.aG 0 4 c9).bind λbf=>(A.cells 4 bf).bind λfW=>(A.bh 0 fW [(AV.ah 0),cv,(AV.ah 0),(AV.ah 0)]).bind λdG=>(A.aB 0 dG).bind λbJ=>(A.eql .i bJ a1).bind λcq=>A.cond cq (some (AX.ret,[(aj v4 1),(aj v4 1)],s5)) ((A.add (aj v4 1) (AV.ah 1)).bind λaW=>some (AX.normal,[(aj v4 0),aW],s5))) (some (AX.exit 0,[(aj v4 0),(aj v4 1)],s5))) [(AV.ah 0),(AV.ah 0)] σ).bind λrJ=>bif rJ.1==AX.exit 0 then(A.fin σ (AV.ah (-1)) rJ.2.2)else bif rJ.1==AX.ret then(A.fin σ (aj rJ.2.1 0) rJ.2.2)else none
noncomputable def Il:an→Heap→az:=A.wrap true [sU] .k (A.dU Ip)
noncomputable def Ia (a0 a1:AV) (σ:Heap):az:=(A.cells 3 a0).bind λc1=>(A.aB 2 c1).bind λx2=>(A.br x2).bind λx3=>(A.loop (λv4 s5=>(A.lss (aj v4 2) x3).bind λx7=>A.cond x7 ((A.aM 7 x2 (aj v4 2)).bind λx8=>((A.deref x8 s5).bind λc9=>A.aG 0 7 c9).bind λbf=>(A.cells 7 bf).bind λfW=>(A.bh 0 fW [cv,(AV.ah 0),(AV.ah 0),(AV.ah 0),(AV.ah 0),bI,AV.aN]).bind λdG=>(A.aB 0 dG).bind λbJ=>(A.eql .z bJ a1).bind λcq=>A.cond cq ((A.aG 0 7 dG).bind λaW=>(A.lb (aj v4 0)).bind λiU=>(A.cells 7 aW).bind λyh=>(A.bh 0 yh iU).bind λmh=>some (AX.ret,[(AV.lbx mh),ew,(aj v4 2)],s5)) ((A.add (aj v4 2) (AV.ah 1)).bind λcZ=>some (AX.normal,[(aj v4 0),(aj v4 1),cZ],s5))) (some (AX.exit 0,[(aj v4 0),(aj v4 1),(aj v4 2)],s5))) [(AV.lbx [cv,(AV.ah 0),(AV.ah 0),(AV.ah 0),(AV.ah 0),bI,AV.aN]),bI,(AV.ah 0)] σ).bind λep=>bif ep.1==AX.exit 0 then((A.lb (aj ep.2.1 0)).bind λiV=>(A.cells 7 (AV.agg [cv,(AV.ah 0),(AV.ah 0),(AV.ah 0),(AV.ah 0),bI,AV.aN])).bind λmj=>(A.bh 0 mj iV).bind λyj=>(A.aG 0 7 yj).bind λx24=>A.fin σ (AV.aD [x24,bI]) ep.2.2)else bif ep.1==AX.ret then(((A.lb (aj ep.2.1 0)).bind λuJ=>A.aG 0 7 uJ).bind λx25=>A.fin σ (AV.aD [x25,(aj ep.2.1 1)]) ep.2.2)else none
noncomputable def HJ:an→Heap→az:=A.wrap true [(.a [.k,.k,(.s 7)])] (.t [(.a o8),.k]) (A.dU Ia)
noncomputable def GW (a0 a1:AV) (σ:Heap):az:=(A.cells 2 a0).bind λc1=>(A.cells 2 a1).bind λc2=>(A.aG 0 2 c1).bind λx3=>(A.aB 0 c2).bind λx4=>(Il [x3,x4] σ).bind λr5=>(A.lss r5.1 (AV.ah 0)).bind λx6=>A.cond x6 ((A.cells 7 (AV.agg [cv,(AV.ah 0),(AV.ah 0),(AV.ah 0),(AV.ah 0),bI,AV.aN])).bind λc7=>(A.bh 0 c7 [cv,(AV.ah 0),(AV.ah 0),(AV.ah 0),(AV.ah 0),bI,AV.aN]).bind λc8=>(A.aG 0 7 c8).bind λx9=>A.fin σ (AV.aD [x9,bI]) r5.2) ((A.aB 0 c1).bind λbf=>(A.aB 1 c1).bind λcK=>(A.aM 4 cK r5.1).bind λbT=>(A.ia 1 bT).bind λbJ=>((A.deref bJ r5.2).bind λiq=>A.aB 0 iq).bind λaW=>(A.quiet (Bh [bf,aW] r5.2) r5.2).bind λbK=>(A.ext 0 bK).bind λbW=>(A.ext 1 bK).bind λbN=>(A.cells 3 bW).bind λpq=>(A.bh 0 pq [cv,(AV.ah 0),AV.aN]).bind λgH=>(A.aG 0 3 gH).bind λbX=>(A.aB 1 c2).bind λdc=>(HJ [bX,dc] r5.2).bind λpL=>(A.ext 0 pL.1).bind λx24=>(A.ext 1 pL.1).bind λx25=>(A.cells 7 x24).bind λuJ=>(A.bh 0 uJ [cv,(AV.ah 0),(AV.ah 0),(AV.ah 0),(AV.ah 0),bI,AV.aN]).bind λwE=>(A.aG 0 7 wE).bind λx28=>A.fin σ (AV.aD [x28,x25]) pL.2)
noncomputable def GR:an→Heap→az:=A.wrap true [sU] (.t [(.a o8),.k]) (A.dU GW)
end
section
set_option maxRecDepth 100000
noncomputable def Hi (a0 a1:AV) (σ:Heap):az:=(A.cells 2 a0).bind λc1=>(A.cells 2 a1).bind λc2=>(A.aB 0 c1).bind λx3=>(A.aB 0 c2).bind λx4=>(A.lss x3 x4).bind λx5=>(A.guard x5 false (A.aB 0 c1) aq).bind λx6=>(A.guard x5 false (A.aB 0 c2) aq).bind λx7=>(A.guard x5 false (A.eql .i x6 x7) aq).bind λx8=>(A.guard x5 false (some x8) aq).bind λx9=>(A.guard x9 true (A.aB 1 c1) aq).bind λbf=>(A.guard x9 true (A.aB 1 c2) aq).bind λcK=>(A.guard x9 true (A.lss bf cK) aq).bind λbT=>(A.guard x5 false (A.pick x9 bT bI) aq).bind λbJ=>(A.pick x5 ew bJ).bind λcq=>A.fin σ cq σ
noncomputable def wV:an→Heap→az:=A.wrap true [] .k (A.dU Hi)
noncomputable def GL (a0:AV) (σ:Heap):az:=(A.cells 3 a0).bind λc1=>(A.aB 0 c1).bind λx2=>(A.br x2).bind λx3=>(A.eql .i x3 (AV.ah 0)).bind λx4=>A.cond x4 (A.fin σ (AV.ah 8) σ) ((A.aB 0 c1).bind λx5=>(A.br x5).bind λx6=>(A.gtr x6 (AV.ah 20)).bind λx7=>A.cond x7 (A.fin σ (AV.ah 2) σ) ((A.aB 0 c1).bind λx8=>(A.br x8).bind λx9=>(A.loop (λv10 rM=>(A.lss (aj v10 2) x9).bind λbJ=>A.cond bJ ((A.aM 1 x8 (aj v10 2)).bind λcq=>((A.deref cq rM).bind λgp=>A.aB 0 gp).bind λbK=>(zo [bK] rM).bind λoC=>(A.not oC.1).bind λbN=>A.cond bN (some (AX.ret,[(aj v10 0),(AV.ah 1),(aj v10 2)],oC.2)) ((A.add (aj v10 2) (AV.ah 1)).bind λcZ=>some (AX.normal,[(aj v10 0),(aj v10 1),cZ],oC.2))) (some (AX.exit 1,[(aj v10 0),(aj v10 1),(aj v10 2)],rM))) [(AV.lbx c1),(AV.ah 0),(AV.ah 0)] σ).bind λep=>bif ep.1==AX.exit 1 then(((A.lb (aj ep.2.1 0)).bind λ_=>some (1)).bind λp21=>((A.lb (aj ep.2.1 0)).bind λyj=>A.aB p21 yj).bind λdX=>(pW [dX,(AV.ah 1),(AV.ah 9999)] ep.2.2).bind λkX=>(A.not kX.1).bind λx25=>((A.lb (aj ep.2.1 0)).bind λ_=>some (2)).bind λLm=>(A.guard x25 false ((A.lb (aj ep.2.1 0)).bind λwE=>A.aB Lm wE) aq).bind λx28=>(A.guard x25 false (A.quiet (pW [x28,(AV.ah 1),(AV.ah 50)] kX.2) kX.2) aq).bind λx29=>(A.guard x25 false (A.not x29) aq).bind λcG=>(A.pick x25 ew cG).bind λx31=>A.cond x31 (A.fin σ (AV.ah 1) kX.2) (A.fin σ (AV.ah 0) kX.2))else bif ep.1==AX.ret then(A.fin σ (aj ep.2.1 1) ep.2.2)else none))
noncomputable def GH:an→Heap→az:=A.wrap true [(.a [(.s 1),.k,.k])] .k (A.eP GL)
noncomputable def DQ (a0:AV) (σ:Heap):az:=(A.br a0).bind λx1=>(A.loop (λv2 s3=>(A.lss (aj v2 1) x1).bind λx5=>A.cond x5 ((A.aM 3 a0 (aj v2 1)).bind λx6=>((A.deref x6 s3).bind λc7=>A.aG 0 3 c7).bind λx8=>(A.cells 3 x8).bind λc9=>(A.bh 0 c9 [(AV.ah 0),cv,(AV.ah 0)]).bind λlN=>(A.loop (λv11 fN=>(A.br (aj v2 0)).bind λcq=>(A.lss (aj v11 1) cq).bind λaW=>(A.guard aW true (some (aj v2 0)) aq).bind λbK=>(A.guard aW true (some (aj v11 1)) aq).bind λbW=>(A.guard aW true (A.aM 3 bK bW) aq).bind λbN=>(A.guard aW true (A.ia 0 bN) aq).bind λcZ=>(A.guard aW true ((A.deref cZ fN).bind λgH=>A.aG 0 2 gH) aq).bind λbX=>((A.lb (aj v11 0)).bind λ_=>some (0)).bind λuZ=>(A.guard aW true ((A.lb (aj v11 0)).bind λiV=>A.aG uZ 2 iV) aq).bind λx24=>(A.guard aW true (A.quiet (wV [bX,x24] fN) fN) aq).bind λx25=>(A.pick aW x25 bI).bind λeA=>A.cond eA ((A.add (aj v11 1) (AV.ah 1)).bind λcg=>some (AX.normal,[(aj v11 0),cg],fN)) (some (AX.exit 2,[(aj v11 0),(aj v11 1)],fN))) [(AV.lbx lN),(AV.ah 0)] s3).bind λfM=>bif fM.1==AX.exit 2 then((A.br (aj v2 0)).bind λx29=>(A.lss (aj fM.2.1 1) x29).bind λcG=>(A.guard cG true (some (aj v2 0)) aq).bind λx31=>(A.guard cG true (some (aj fM.2.1 1)) aq).bind λx32=>(A.guard cG true (A.aM 3 x31 x32) aq).bind λiN=>(A.guard cG true (A.ia 0 iN) aq).bind λx34=>(A.guard cG true ((A.deref x34 fM.2.2).bind λmo=>A.aG 0 2 mo) aq).bind λkZ=>((A.lb (aj fM.2.1 0)).bind λ_=>some (0)).bind λLn=>(A.guard cG true ((A.lb (aj fM.2.1 0)).bind λrz=>A.aG Ln 2 rz) aq).bind λi6=>(A.guard cG true (A.eql (.s [0,2]) kZ i6) aq).bind λpO=>(A.pick cG pO bI).bind λiy=>(A.cond iy (((A.lb (aj fM.2.1 0)).bind λuM=>A.aG 0 3 uM).bind λk9=>(A.aM 3 (aj v2 0) (aj fM.2.1 1)).bind λlg=>(A.cells 3 k9).bind λuN=>(A.storeAt lg uN fM.2.2).bind λKz=>some ([(aj v2 0)],Kz)) (((A.lb (aj fM.2.1 0)).bind λKA=>A.aG 0 3 KA).bind λjM=>(((A.cells 3 jM).bind λKD=>(A.bh 0 KD [(AV.ah 0),cv,(AV.ah 0)]).bind λCu=>some Cu).bind λcs=>some (AV.sl 3 (je 3 1 cs))).bind λgC=>(zg [(aj v2 0),(aj fM.2.1 1),gC] fM.2.2).bind λkY=>some ([kY.1],kY.2))).bind λiW=>(A.add (aj v2 1) (AV.ah 1)).bind λpR=>some (AX.normal,[(aj iW.1 0),pR],iW.2))else none) (some (AX.exit 0,[(aj v2 0),(aj v2 1)],s3))) [AV.aN,(AV.ah 0)] σ).bind λLu=>bif Lu.1==AX.exit 0 then(A.fin σ (aj Lu.2.1 0) Lu.2.2)else none
noncomputable def DP:an→Heap→az:=A.wrap true [(.s 3)] (.s 3) (A.eP DQ)
noncomputable def Hj (a0:AV) (σ:Heap):az:=(A.br a0).bind λx1=>(A.gtr x1 (AV.ah 20000)).bind λx2=>A.cond x2 (A.fin σ (AV.aD [AV.aN,(AV.ah 2)]) σ) ((DP [a0] σ).bind λr3=>A.fin σ (AV.aD [r3.1,(AV.ah 0)]) r3.2)
noncomputable def G7:an→Heap→az:=A.wrap true [(.s 3)] (.t [(.s 3),.k]) (A.eP Hj)
noncomputable def Hl (a0 a1 a2 a3:AV) (σ:Heap):az:=(A.cells 2 a0).bind λc1=>(A.cells 3 a3).bind λc2=>(A.aG 0 2 c1).bind λx3=>(GG [x3] σ).bind λr4=>(A.neq .i r4.1 (AV.ah 0)).bind λx5=>A.cond x5 (A.fin σ (AV.aD [AV.aN,r4.1]) r4.2) ((A.aG 0 3 c2).bind λx6=>(GH [x6] r4.2).bind λr7=>(A.neq .i r7.1 (AV.ah 0)).bind λx8=>A.cond x8 (A.fin σ (AV.aD [AV.aN,r7.1]) r7.2) ((A.br a1).bind λx9=>(A.gtr x9 (AV.ah 400)).bind λbf=>A.cond bf (A.fin σ (AV.aD [AV.aN,(AV.ah 2)]) r7.2) ((A.br a1).bind λcK=>(A.loop (λv12 LA=>(A.lss (aj v12 4) cK).bind λaW=>A.cond aW ((A.aM 1 a1 (aj v12 4)).bind λbK=>((A.deref bK LA).bind λmh=>A.aB 0 mh).bind λbN=>((A.lb (aj v12 0)).bind λpq=>A.aG 0 2 pq).bind λdw=>((((A.cell bN).bind λv=>some [v]).bind λmj=>(A.bh 0 mj [(AV.ah 0),cv]).bind λyj=>((A.cell a2).bind λv=>some [v]).bind λiV=>(A.bh 1 iV yj).bind λiI=>some iI).bind λcs=>some (AV.agg cs)).bind λx25=>(GR [dw,x25] LA).bind λgW=>(A.ext 0 gW.1).bind λcg=>(A.ext 1 gW.1).bind λx28=>(A.cells 7 cg).bind λpE=>(A.bh 0 pE [cv,(AV.ah 0),(AV.ah 0),(AV.ah 0),(AV.ah 0),bI,AV.aN]).bind λwF=>(A.not x28).bind λx31=>A.cond x31 (some (AX.ret,[(aj v12 0),(aj v12 1),AV.aN,(AV.ah 8),(aj v12 4)],gW.2)) ((A.cm 1 a1 none (some (aj v12 4)) gW.2).bind λx32=>(A7 [x32,bN] gW.2).bind λkH=>A.cond kH.1 (some (AX.ret,[(aj v12 0),(aj v12 1),AV.aN,(AV.ah 6),(aj v12 4)],kH.2)) ((A.add (aj v12 4) (AV.ah 1)).bind λx34=>some (AX.normal,[(aj v12 0),(aj v12 1),(aj v12 2),(aj v12 3),x34],kH.2)))) (some (AX.exit 0,[(aj v12 0),(aj v12 1),(aj v12 2),(aj v12 3),(aj v12 4)],LA))) [(AV.lbx c1),(AV.lbx c2),AV.aN,(AV.ah 0),(AV.ah 0)] r7.2).bind λmw=>bif mw.1==AX.exit 0 then(((A.lb (aj mw.2.1 1)).bind λuL=>A.aG 0 3 uL).bind λvk=>(A.br a1).bind λx38=>(DO [vk,x38] mw.2.2).bind λmY=>(A.br mY.1).bind λpO=>(A.loop (λv41 FX=>(A.lss (aj v41 1) pO).bind λk9=>A.cond k9 ((A.aM 1 mY.1 (aj v41 1)).bind λlg=>((A.deref lg FX).bind λuN=>A.aB 0 uN).bind λjL=>(A.aM 1 a1 (aj v41 1)).bind λpP=>((A.deref pP FX).bind λKB=>A.aB 0 KB).bind λfc=>((((A.cell fc).bind λv=>some [v]).bind λCu=>(A.bh 0 Cu [(AV.ah 0),cv]).bind λCv=>((A.cell a2).bind λv=>some [v]).bind λc53=>(A.bh 1 c53 Cv).bind λuO=>some uO).bind λcs=>some (AV.agg cs)).bind λmA=>(((A.cells 2 mA).bind λKE=>(A.bh 0 KE [(AV.ah 0),cv,(AV.ah 0)]).bind λuP=>((A.cell jL).bind λv=>some [v]).bind λKF=>(A.bh 2 KF uP).bind λKG=>some KG).bind λcs=>some (AV.agg cs)).bind λpS=>(((A.cells 3 pS).bind λKI=>(A.bh 0 KI [(AV.ah 0),cv,(AV.ah 0)]).bind λCw=>some Cw).bind λcs=>some (AV.sl 3 (je 3 1 cs))).bind λmB=>(A.append 3 (140737488355328 / 32) (aj v41 0) mB FX).bind λr64=>(A.add (aj v41 1) (AV.ah 1)).bind λyT=>some (AX.normal,[r64.1,yT],r64.2)) (some (AX.exit 2,[(aj v41 0),(aj v41 1)],FX))) [AV.aN,(AV.ah 0)] mY.2).bind λtH=>bif tH.1==AX.exit 2 then(A.fin σ (AV.aD [(aj tH.2.1 0),(AV.ah 0)]) tH.2.2)else none)else bif mw.1==AX.ret then(A.fin σ (AV.aD [(aj mw.2.1 2),(aj mw.2.1 3)]) mw.2.2)else none)))
noncomputable def G8:an→Heap→az:=A.wrap true [sU,(.s 1),.k,(.a [(.s 1),.k,.k])] (.t [(.s 3),.k]) (A.tr Hl)
end
section
set_option maxRecDepth 100000
noncomputable def F8 (a0 a1 a2 a3 a4:AV) (σ:Heap):az:=(A.cells 2 a0).bind λc1=>(A.cells 3 a3).bind λc2=>(A.aG 0 2 c1).bind λx3=>(A.aG 0 3 c2).bind λx4=>(GJ [x3,a1,a2,x4] σ).bind λr5=>(A.ext 0 r5.1).bind λx6=>(A.ext 1 r5.1).bind λx7=>(A.aG 0 2 c1).bind λx8=>(A.aG 0 3 c2).bind λx9=>(G8 [x8,a1,a2,x9] r5.2).bind λyL=>(A.ext 0 yL.1).bind λcK=>(A.ext 1 yL.1).bind λbT=>(Dv [x6,cK] yL.2).bind λiL=>(A.not iL.1).bind λcq=>(A.guard cq false (some x7) aq).bind λaW=>(A.guard cq false (some bT) aq).bind λbK=>(A.guard cq false (A.neq .i aW bK) aq).bind λbW=>(A.pick cq ew bW).bind λbN=>A.cond bN (A.fin σ bI iL.2) ((GI [a4] iL.2).bind λeE=>(A.ext 0 eE.1).bind λdw=>(A.ext 1 eE.1).bind λbX=>(G7 [a4] eE.2).bind λiM=>(A.ext 0 iM.1).bind λdX=>(A.ext 1 iM.1).bind λx24=>(Dv [dw,dX] iM.2).bind λpM=>(A.guard pM.1 true (some bX) aq).bind λeA=>(A.guard pM.1 true (some x24) aq).bind λcg=>(A.guard pM.1 true (A.eql .i eA cg) aq).bind λx28=>(A.pick pM.1 x28 bI).bind λx29=>A.fin σ x29 pM.2)
noncomputable def Mc:an→Heap→az:=A.wrap true [sU,(.s 1),.k,(.a [(.s 1),.k,.k]),(.s 3)] .k (A.mg F8)
end
section
open Go.RowKit
theorem lC.same{P:Program}{nm:List Nat}{f:FuncId}{args:an}{σ:Heap}{r:AV}(hc:∀us w,(callFunc f us).run P w=.ok (.enter f us) w)
  (h:∀(c:RC)(vs:Array Value)(w:World),aC c args vs.toList→Calls P f vs w λe w'=>∃v,e=.returned v∧Below w.heap.size w w'∧∀c',ak c' r v):lC P nm f args σ r σ:=by
 refine .inl ⟨f,hc,λz vs e1 e2 hh ha=>(h _ vs z.w ha).mono ?_⟩;rintro e w' ⟨v,k1,k2,k3⟩;have ho:Out z z.w z.E:=⟨rfl,rfl,rfl,ay _,λ_ _ _=>rfl,λi p hp=>.inr ⟨p,hp,rfl⟩,λi p hp=>⟨p,hp,.inl rfl⟩,e2,λp hp=>hh.lt hp⟩
 exact⟨v,z.E,k1,ho.grow k2,hh.mono (pY k2) rfl (λp hp=>k2.block _ (hh.lt hp)),k3 _⟩
theorem E5{c:RC}{a:AV}{vs:Array Value}(h:aC c [a] vs.toList):∃v,vs=#[v]∧ak c a v:=by simp only[aC]at h;obtain⟨v,vs',e,h1,e2⟩:=h;refine⟨v,?_,h1⟩;subst e2;cases vs;simp at e;simp [e]
theorem JE{c:RC}{a b:AV}{vs:Array Value}(h:aC c [a,b] vs.toList):∃v u,vs=#[v,u]∧ak c a v∧ak c b u:=by simp only[aC]at h;obtain⟨v,vs',e,h1,u,vs2,e2,h2,e3⟩:=h;refine⟨v,u,?_,h1,h2⟩;subst e3;subst e2;cases vs;simp at e;simp [e]
theorem Uv:Sound Try.prog aJ 74 Gp:=by
 intro args σ r σ' h;unfold Gp A.dU at h;split at h
 ·simp only at h;split at h
  ·simp only[Option.some.injEq,Prod.mk.injEq]at h;obtain⟨rfl,rfl⟩:=h;refine lC.same Try.call74 λc vs w hr=>?_
   obtain⟨v,u,rfl,h1,h2⟩:=JE hr;simp only[ak]at h1 h2;subst h1 h2;refine(Try.strings_Compare _ _ w).mono ?_;rintro e w' ⟨rfl,rfl⟩;exact⟨_,rfl,Below.refl _ _,λc'=>by simp [ak]⟩
  ·cases h
 ·cases h
end
section
open Go.RowKit
set_option maxRecDepth 100000
theorem VG{P:Program}{nm:List Nat}{f:FuncId}{m0:an→Heap→az}(h0:Sound P nm f m0)(hc:∀us w,(callFunc f us).run P w=.ok (.enter f us) w)
  (hz:∀a cap w,Calls P f #[.slice a 0 cap] w λe w'=>∃q,e=.returned (.slice q 0 0)∧Below w.heap.size w w'):Sound P nm f (A.EJ m0):=by
 intro args σ r σ' h;unfold A.EJ at h;split at h
 ·simp only[Option.some.injEq,Prod.mk.injEq]at h;obtain⟨rfl,rfl⟩:=h;refine lC.same hc λc vs w hr=>?_
  obtain⟨v,rfl,h1⟩:=E5 hr;simp only[ak]at h1;obtain⟨a,cap,rfl,_⟩:=h1;refine(hz _ _ w).mono ?_;rintro e w' ⟨q,rfl,hb⟩;exact⟨_,rfl,hb,λc'=>by simp [ak]⟩
 ·simp only[Option.some.injEq,Prod.mk.injEq]at h;obtain⟨rfl,rfl⟩:=h;refine lC.same hc λc vs w hr=>?_
  obtain⟨v,rfl,h1⟩:=E5 hr;simp only[ak]at h1;subst h1;refine(hz _ _ w).mono ?_;rintro e w' ⟨q,rfl,hb⟩;exact⟨_,rfl,hb,λc'=>by simp [ak]⟩
 ·simp only[Option.some.injEq,Prod.mk.injEq]at h;obtain⟨rfl,rfl⟩:=h;refine lC.same hc λc vs w hr=>?_
  obtain⟨v,rfl,h1⟩:=E5 hr;simp only[ak]at h1;obtain⟨a,rfl⟩:=h1;refine(hz _ _ w).mono ?_;rintro e w' ⟨q,rfl,hb⟩;exact⟨_,rfl,hb,λc'=>by simp [ak]⟩
 ·simp only[Option.some.injEq,Prod.mk.injEq]at h;obtain⟨rfl,rfl⟩:=h;refine lC.same hc λc vs w hr=>?_
  obtain⟨v,rfl,h1⟩:=E5 hr;simp only[ak]at h1;obtain⟨_,p,_,_,a,cap,rfl,_⟩:=h1;refine(hz _ _ w).mono ?_;rintro e w' ⟨q,rfl,hb⟩;exact⟨_,rfl,hb,λc'=>by simp [ak]⟩
 ·exact h0 _ _ _ _ h
theorem Pz{P:Program}{t e:TypeId}(ht:P.underlying t=some (.slice e))(a:Option Addr)(n m:Nat)(w:World):Sem.run P (binOp .eql t (.slice a n m) (.slice none 0 0)) w=.ok (.bool a.isNone) w:=by simp [binOp,show(Op.equal t (.slice a n m) (.slice none 0 0)).run P w=.ok a.isNone w from Qz w 9999 t a n m ht]
theorem Wn(a:Option Addr)(cap:Nat)(w:World):Calls Try.prog 38 #[.slice a 0 cap] w λe w'=>∃q,e=.returned (.slice q 0 0)∧Below w.heap.size w w':=by
 go_enter Try.func38,Try.ntmps38
 cases a
 ·go_wp2_with (simp only[Pz (Try.underlying29),Option.isNone_none,Result.andThen_ok])
  go_ret
  exact⟨_,rfl,Below.refl _ _⟩
 ·go_wp2_with (simp only[Pz (Try.underlying29),Option.isNone_some,Result.andThen_ok])
  go_ret
  exact⟨_,rfl,(Below.refl _ _).alloc (ay _) _⟩
end
end Go.Proofs.Ytjjjjbgohkklnaa
