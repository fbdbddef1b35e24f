/- Parts of the proof of PickPresetsMatchSpec, in order. -/
import Derived.Orders
import Derived.Below
import Derived.WalkKit
import Derived.Laws.StructEq
import Derived.Laws.Append
import Derived.Laws.AppendOwn
import Derived.Test.YtjjjjbgohkklnaaRows
import Derived.KernelRfl
import Derived.Lib.Bytealg
import Derived.Sort.Defs
import Derived.Lib.BitFns
import Derived.Test.YtjjjjbgohkklnaaKPickPresetsMatchSpec1
namespace Go.Proofs.Ytjjjjbgohkklnaa
set_option linter.unusedVariables false
set_option linter.unusedSimpArgs false
set_option linter.unusedSectionVars false
section
open Go.RowKit
section
variable {X : Fx} {z : Z} {s : AS} {a : Act} {w w' : World} {E : List Pl} {pb : Nat → Option Nat} {R : Type}
theorem mK{o:Oper}{v:Value}{w':World}{K:Act→World→Prop}{Q:Exit→Act→World→Prop}(h:(execOp a.eval o).run X.P w=.ok (.value v) w')(k:K (a.put o.dst v) w'):o.wp X.P a w K Q:=by unfold Oper.wp;rw[h,Oper.upon_value];exact k
theorem HR{o:Oper}{w':World}{K:Act→World→Prop}{Q:Exit→Act→World→Prop}(h:(execOp a.eval o).run X.P w=.ok .skip w')(k:K (a.put o.dst undef) w'):o.wp X.P a w K Q:=by unfold Oper.wp;rw[h,Oper.upon_skip];exact k
theorem St.undef(h:St X z s a w E pb)(d:Option Nat):St X z (s.put X d (.aD [])) (a.put d undef) w E pb:=
 h.put d (by simp only[ak];exact⟨#[],rfl,by simp [aG]⟩)
theorem uc(hs:cR X)(h:St X z s a w E pb){o:Oper}{k:AS→Option R}{r:R}(hk:((dQ X o s none).bind λv=>k (s.put X o.dst v))=some r) {K:Act→World→Prop} {Q:Exit→Act→World→Prop}
  (hK:∀s' a' w' E' bB,St X z s' a' w' E' bB→k s'=some r→K a' w'):o.wp X.P a w K Q:=by
 obtain⟨av,h1,h2⟩:=bk.1 hk;exact OZ hs h (tag:=none) trivial h1 λv w' E' h3 h4=>hK _ _ _ _ _ (h3.put o.dst h4) h2
theorem Xw(h:St X z s a w E pb){q str:Bool}{i:Operand}{dst:Option Nat}{ty:TypeId}{pos:String}{af:Array Edge}{g:Option (Nat×Bool)}{k:AS→Option R}{r:R}
  (hk:(bif q||str then none else A.vY (ev X s i) s.σ λv σ=>k ((s.heap σ).put X dst v))=some r) {K:Act→World→Prop} {Q:Exit→Act→World→Prop}
  (hK:∀s' a' w' E' bB,St X z s' a' w' E' bB→k s'=some r→K a' w'):Oper.wp X.P ⟨dst,.next i str,ty,pos,af,g⟩ a w K Q:=by
 cases hq:(q||str)
 ·rw[hq]at hk;simp only[aV]at hk;simp only[jY]at hq;obtain⟨rfl,rfl⟩:=hq;obtain⟨av,σ',v',w',k1,k2,k3,k4⟩:=Xx (ty:=ty) h hk (cV h i);exact mK (w':=w') (by simp [execOp,k2]) (hK _ _ _ _ _ (k3.put dst k4) k1)
 ·rw[hq]at hk;cases hk
theorem Ue(hs:cR X)(h:St X z s a w E pb){d t n:Nat}{ps:Array (Nat×Operand)}{ty:TypeId}{pos:String}{af:Array Edge}{g:Option (Nat×Bool)}{k:AS→Option R}{r:R}
  (hk:((dQ X ⟨some d,.buildSlice t n ps,ty,pos,af,g⟩ s none).bind λv=>A.Aq v λsz es=>k ((s.heap (s.σ++[.arr es.length sz es])).put X (some d) (.os s.σ.length es.length sz 0 es.length)))=some r) {K:Act→World→Prop} {Q:Exit→Act→World→Prop}
  (hK:∀s' a' w' E' bB,St X z s' a' w' E' bB→k s'=some r→K a' w'):Oper.wp X.P ⟨some d,.buildSlice t n ps,ty,pos,af,g⟩ a w K Q:=by
 obtain⟨v,h1,h2⟩:=bk.1 hk;unfold A.Aq at h2;split at h2
 ·rename_i sz es;cases hl:(es.length==0)
  ·rw[hl]at h2;simp only[aV]at h2;have hne:0<es.length:=by simp at hl;exact List.length_pos_iff.2 hl
   obtain⟨arr,et,e1,e2,e3,e4,e5⟩:=Tm h h1;have hlen:=h.heap.len;simp only[ctx]at hlen;refine mK e1 (hK _ _ _ _ _ ((h.um (.cells arr et) (.arr es.length sz es) ⟨w.heap.size,0,es.length,sz,arr.size⟩ rfl λhx=>?_).put (some d) (av:=.os s.σ.length es.length sz 0 es.length) ?_) h2)
   ·have hb:=(MapKept.heap_alloc w (.cells arr et)).1;exact⟨rfl,hne,rfl,e3,⟨arr,et,hb,rfl⟩,by rw[e2];simp,e4 _ hb hx,vO hb e5⟩
   ·simp only[ak];refine⟨hne,⟨w.heap.size,0,es.length,sz,arr.size⟩,by show(E++[_])[s.σ.length]? =_;rw[←hlen];exact vZ,bU _,⟨w.heap.size,0,none⟩,es.length,rfl,bU _,λ_=>⟨rfl,.inr (by simp),by rw[e2];simp⟩⟩
  ·rw[hl]at h2;cases h2
 ·cases h2
theorem OV(hs:cR X)(h:St X z s a w E pb){q:Bool}{o:Oper}{k:AS→Option R}{r:R}(hk:eC X q o s k=some r){K:Act→World→Prop}{Q:Exit→Act→World→Prop}
  (hK:∀s' a' w' E' bB,St X z s' a' w' E' bB→k s'=some r→K a' w'):o.wp X.P a w K Q:=by
 unfold eC at hk;cases hp:gE X o s none with
 |some p=>obtain⟨b,rr⟩:=p;rw[hp]at hk;simp only at hk;obtain⟨off,h1,h2⟩:=bk.1 hk;subst h1;obtain⟨n,k1,k2⟩:=OY h (tag:=none) trivial hp;exact mK k2 (hK _ _ _ _ _ (h.I5 o.dst (λ_=>⟨n,k1,rfl⟩)) h2)
 |none=>
  rw[hp]at hk;simp only at hk;obtain⟨dst,op,ty,pos,af,g⟩:=o;cases op<;>simp only at hk<;>first|exact Xw h hk hK|exact uc hs h hk hK|skip
  case alloc t=>
   cases dst with
   |none=>cases hk
   |some d=>
    simp only at hk;cases hL:X.L.contains d
    ·rw[hL]at hk;simp only[aV]at hk;cases hO:X.O.contains d
     ·rw[hO]at hk;exact uc hs h hk hK
     ·rw[hO]at hk;simp only[bA]at hk;split at hk
      ·rename_i cs hz;obtain⟨i,v,h1,h2,h3,h4,h5,h6⟩:=sH (w:=w) hz (ctx z w E pb)
       have hrun:(execOp a.eval ⟨some d,.alloc t,ty,pos,af,g⟩).run X.P w=.ok (.value (.pointer (some ⟨w.heap.size,0,none⟩))) (w.alloc (.cells v.cells t)):=by simp [execOp,Instr.alloc,h3,newVar,sD]
       have hst:=h.um (.cells v.cells t) (.box cs) ⟨w.heap.size,0,0,0,0⟩ rfl (λhx=>by
        have hb:(w.alloc (.cells v.cells t)).heap[w.heap.size]? =some (.cells v.cells t (0,0)):=(MapKept.heap_alloc w _).1
        exact⟨rfl,⟨_,_,hb,by have:=h5.length;simpa using this.symm⟩,aZ.tL hb (aG.mono hx _ _ h5) h6 (λi hi=>by simp)⟩)
       have hlen:=h.heap.len;simp only[ctx]at hlen;refine mK hrun (hK _ _ _ _ _ (hst.put (some d) (av:=.op s.σ.length 0) ?_) hk);simp only[ak];exact⟨⟨w.heap.size,0,0,0,0⟩,by show(E++[_])[s.σ.length]? =_;rw[←hlen];exact vZ,rfl,rfl⟩
      ·cases hk
    ·rw[hL]at hk;simp only[bA]at hk;split at hk
     ·rename_i cs hz;obtain⟨i,v,h1,h2,h3,h4,h5,h6⟩:=sH (w:=w) hz (ctx z w E pb)
      have hrun:(execOp a.eval ⟨some d,.alloc t,ty,pos,af,g⟩).run X.P w=.ok (.value (.pointer (some ⟨w.heap.size,0,none⟩))) (w.alloc (.cells v.cells t)):=by simp [execOp,Instr.alloc,h3,newVar,sD]
      obtain⟨bB,hst⟩:=h.lB d hL (vs:=v.cells.toList) t h5 h6;exact mK hrun (hK _ _ _ _ _ (by simpa using hst) hk)
     ·cases hk
  case box t x=>
   cases dst with
   |none=>cases hk
   |some d=>
    simp only at hk;cases hL:X.L.contains d
    ·rw[hL]at hk;simp only[aV]at hk;cases hO:X.O.contains d
     ·rw[hO]at hk;exact uc hs h hk hK
     ·rw[hO]at hk;simp only[bA]at hk;obtain⟨cs,h1,h2⟩:=bk.1 hk;obtain⟨h5,h6,_,_⟩:=zC X h1 (cV h x)
      have hrun:(execOp a.eval ⟨some d,.box t x,ty,pos,af,g⟩).run X.P w=.ok (.value (.pointer (some ⟨w.heap.size,0,none⟩))) (w.alloc (.cells (a.eval x).cells t)):=by simp [execOp,Instr.box,newVar,sD]
      have hst:=h.um (.cells (a.eval x).cells t) (.box cs) ⟨w.heap.size,0,0,0,0⟩ rfl (λhx=>by
       have hb:(w.alloc (.cells (a.eval x).cells t)).heap[w.heap.size]? =some (.cells (a.eval x).cells t (0,0)):=(MapKept.heap_alloc w _).1
       exact⟨rfl,⟨_,_,hb,by have:=h5.length;simpa using this.symm⟩,aZ.tL hb (aG.mono hx _ _ h5) h6 (λi hi=>by simp)⟩)
      have hlen:=h.heap.len;simp only[ctx]at hlen;refine mK hrun (hK _ _ _ _ _ (hst.put (some d) (av:=.op s.σ.length 0) ?_) h2);simp only[ak];exact⟨⟨w.heap.size,0,0,0,0⟩,by show(E++[_])[s.σ.length]? =_;rw[←hlen];exact vZ,rfl,rfl⟩
    ·rw[hL]at hk;simp only[bA]at hk;obtain⟨cs,h1,h2⟩:=bk.1 hk;obtain⟨h5,h6,_,_⟩:=zC X h1 (cV h x)
     have hrun:(execOp a.eval ⟨some d,.box t x,ty,pos,af,g⟩).run X.P w=.ok (.value (.pointer (some ⟨w.heap.size,0,none⟩))) (w.alloc (.cells (a.eval x).cells t)):=by simp [execOp,Instr.box,newVar,sD]
     obtain⟨bB,hst⟩:=h.lB d hL (vs:=(a.eval x).cells.toList) t h5 h6;exact mK hrun (hK _ _ _ _ _ (by simpa using hst) h2)
  case store t x v=>
   split at hk
   ·rename_i b off hp;obtain⟨cs,h1,h2⟩:=bk.1 hk;obtain⟨new,h3,h4⟩:=bk.1 h2;obtain⟨cs',h5,h6⟩:=bk.1 h4;obtain⟨n,k1,k2,k3,k4⟩:=zI h (tag:=none) trivial hp h1;obtain⟨r1,r2,r3,d,hd⟩:=zC X h3 (cV h v);obtain⟨arr,bt,j1,j2,j3⟩:=Nd k3;obtain⟨j4,j5⟩:=j2.dY h5 r1;have hrun:=G1 (P:=X.P) (t:=t) j1 r3 (Ld hd) r2 j5;have hst:=h.YD k1 ⟨cs,k4⟩ (t:=bt) j4 (zU j3 r2);refine HR (w':=_) ?_ (hK _ _ _ _ _ (hst.undef dst) h6);simp only[execOp,k2,Sem.run_bind];rw[show(Instr.storeAt t (.pointer (some ⟨n,off,none⟩)) (a.eval v)).run X.P w=_ from hrun];rfl
   ·obtain⟨new,h3,h4⟩:=bk.1 hk;obtain⟨σ',h5,h6⟩:=bk.1 h4;obtain⟨w',k1,k2⟩:=Vc h h3 (cV h v) h5 (cV h x);refine HR (w':=w') ?_ (hK _ _ _ _ _ (k2.undef dst) h6);simp only[execOp,Sem.run_bind,k1];rfl
  case makeMap t rr=>
   cases rr with
   |some x=>cases hk
   |none=>
    simp only at hk
    have hrun:(execOp a.eval ⟨dst,.makeMap t none,ty,pos,af,g⟩).run X.P w=.ok (.value (.map (some w.heap.size))) (w.alloc (.map #[] 0)):=by simp [execOp,Instr.makeMap,newObj,Sem.run]
    have hst:=h.um (.map #[] 0) (.map []) ⟨w.heap.size,0,0,0,0⟩ rfl (λhx=>by
     have hb:(w.alloc (.map #[] 0)).heap[w.heap.size]? =some (.map #[] 0):=(MapKept.heap_alloc w _).1
     exact⟨rfl,_,_,hb,l6.empty,rfl⟩)
    have hlen:=h.heap.len;simp only[ctx]at hlen;refine mK hrun (hK _ _ _ _ _ (hst.put dst (av:=.om s.σ.length) ?_) hk);simp only[ak];exact⟨⟨w.heap.size,0,0,0,0⟩,by show(E++[_])[s.σ.length]? =_;rw[←hlen];exact vZ,rfl,rfl⟩
  case range t x=>
   split at hk
   ·rename_i kt et hd;obtain⟨es,h1,h2⟩:=bk.1 hk;obtain⟨o,k1,k2⟩:=Wp h hd h1 (cV h x);have hlen:=h.heap.len;simp only[ctx]at hlen;refine mK (v:=.pointer (some ⟨w.heap.size,0,none⟩)) (w':=w.alloc o) (by simp [execOp,k1]) (hK _ _ _ _ _ (k2.put dst (av:=.op s.σ.length 0) ?_) h2);simp only[ak];exact⟨⟨w.heap.size,0,0,0,0⟩,by show(E++[_])[s.σ.length]? =_;rw[←hlen];exact vZ,rfl,rfl⟩
   ·cases hk
  case buildSlice t n ps=>
   cases dst with
   |none=>exact uc hs h hk hK
   |some d=>
    simp only at hk;cases hO:X.O.contains d
    ·rw[hO]at hk;exact uc hs h hk hK
    ·rw[hO]at hk;simp only[bA]at hk;exact Ue hs h hk hK
  case mapUpdate t m i v=>
   split at hk
   ·rename_i kt et hd;split at hk
    ·rename_i ek he;obtain⟨σ',h1,h2⟩:=bk.1 hk;obtain⟨w',k1,k2⟩:=Xu h hd he h1 (cV h m) (cV h i) (cV h v);refine HR (w':=w') ?_ (hK _ _ _ _ _ (k2.undef dst) h2);simp only[execOp,Sem.run_bind,k1];rfl
    ·cases hk
   ·cases hk
  case call c=>
   have hargs:(c.args.map a.eval).toList=c.args.toList.map a.eval:=by simp
   have re:=zR h c.args.toList;split at hk
   ·rename_i hc;split at hk
    ·rename_i t u x y h1 h2;split at hk
     ·rename_i e e' hd hu;split at hk
      ·rename_i i hi;cases dj:jV i
       ·rw[dj]at hk;simp only[aV]at hk;simp only[jV,jY,beq_eq_false_iff_ne]at dj;obtain⟨⟨z1,z2⟩,z3⟩:=dj;cases J9:i.zero with
        |none=>rw[J9]at z3;cases z3
        |some zv=>
         rw[J9]at z3;simp only[jY,bne_eq_false_iff_eq,Bool.not_eq_false']at z3;obtain⟨z3,z4⟩:=z3;obtain⟨⟨rr,σ'⟩,h3,h4⟩:=bk.1 hk;rw[h2]at re
         have hl:∃v vy,c.args.toList.map a.eval=[v,vy]∧ak (ctx z w E pb) x v∧ak (ctx z w E pb) y vy:=by
          generalize c.args.toList.map a.eval=vs at *
          simp only[aG]at re;obtain⟨v,_,rfl,r1,u',_,rfl,r2,rfl⟩:=re;exact⟨v,u',rfl,r1,r2⟩
         obtain⟨v,vy,hvs,r1,r2⟩:=hl;have hone:∀x∈zv.cells.toList,cG x=true:=ow.1 z4;obtain⟨n,w',E',k1,k2,k3⟩:=Vh (ty:=ty) h hd hu hi J9 z3 z1 z2 hone h3 r1 r2;have h1':c.argTypes=#[t,u]:=by apply jZ.1;simpa using h1
         have rP:c.args.map a.eval=#[v,vy]:=by apply jZ.1;rw[hargs,hvs]
         have hrun:(execOp a.eval ⟨dst,.call c,ty,pos,af,g⟩).run X.P w=.ok (.value n) w':=by simp only[execOp,resolve,hc,Sem.run_bind,Sem.run_pure,Result.andThen_ok,invoke,builtin,rP,h1',k1]
         exact mK hrun (hK _ _ _ _ _ (k2.put dst k3) h4)
       ·rw[dj]at hk;cases hk
      ·cases hk
     ·rename_i e kk hd hu;split at hk
      ·rename_i i zs hi hz;cases dj:jV i
       ·rw[dj]at hk;simp only[aV]at hk;simp only[jV,jY,beq_eq_false_iff_ne]at dj;obtain⟨⟨z1,z2⟩,z3⟩:=dj;obtain⟨i',zv,g1,g2,g3,g4,g5,g6⟩:=sH (w:=w) hz (ctx z w E pb);rw[hi]at g1;injection g1 with g1;subst g1
        rw[g2]at z3;simp only[jY,bne_eq_false_iff_eq,Bool.not_eq_false']at z3;obtain⟨z3,z4⟩:=z3
        have mZ:∀c,aG c zs zv.cells.toList:=λc=>by
         obtain⟨i2,v2,f1,f2,f3,f4,f5,f6⟩:=sH (w:=w) hz c;rw[hi]at f1;injection f1 with f1;subst f1
         rw[g2]at f2;injection f2 with f2;subst f2
         exact f5
        obtain⟨⟨rr,σ'⟩,h3,h4⟩:=bk.1 hk;rw[h2]at re
        have hl:∃v vy,c.args.toList.map a.eval=[v,vy]∧ak (ctx z w E pb) x v∧ak (ctx z w E pb) y vy:=by
         generalize c.args.toList.map a.eval=vs at *
         simp only[aG]at re;obtain⟨v,_,rfl,r1,u',_,rfl,r2,rfl⟩:=re;exact⟨v,u',rfl,r1,r2⟩
        obtain⟨v,vy,hvs,r1,r2⟩:=hl;obtain⟨n,w',E',k1,k2,k3⟩:=UD (ty:=ty) h hd hu hi g2 z3 z1 z2 mZ g6 h3 r1 r2;have h1':c.argTypes=#[t,u]:=by apply jZ.1;simpa using h1
        have rP:c.args.map a.eval=#[v,vy]:=by apply jZ.1;rw[hargs,hvs]
        have hrun:(execOp a.eval ⟨dst,.call c,ty,pos,af,g⟩).run X.P w=.ok (.value n) w':=by simp only[execOp,resolve,hc,Sem.run_bind,Sem.run_pure,Result.andThen_ok,invoke,builtin,rP,h1',k1]
        exact mK hrun (hK _ _ _ _ _ (k2.put dst k3) h4)
       ·rw[dj]at hk;cases hk
      ·cases hk
     ·cases hk
    ·cases hk
   ·rename_i hc;split at hk
    ·rename_i t u x y h1 h2;split at hk
     ·rename_i e e' hd hu;split at hk
      ·rename_i i hi;cases dj:jV i
       ·rw[dj]at hk;simp only[aV]at hk;simp only[jV,jY,beq_eq_false_iff_ne]at dj;obtain⟨⟨z1,z2⟩,z3⟩:=dj;obtain⟨⟨rr,σ'⟩,h3,h4⟩:=bk.1 hk;rw[h2]at re
        have hl:∃v vy,c.args.toList.map a.eval=[v,vy]∧ak (ctx z w E pb) x v∧ak (ctx z w E pb) y vy:=by
         generalize c.args.toList.map a.eval=vs at *
         simp only[aG]at re;obtain⟨v,_,rfl,r1,u',_,rfl,r2,rfl⟩:=re;exact⟨v,u',rfl,r1,r2⟩
        obtain⟨v,vy,hvs,r1,r2⟩:=hl;obtain⟨n,w',k1,k2,k3⟩:=WW (ty:=ty) h hd hu hi z1 h3 r1 r2;have h1':c.argTypes=#[t,u]:=by apply jZ.1;simpa using h1
        have rP:c.args.map a.eval=#[v,vy]:=by apply jZ.1;rw[hargs,hvs]
        have hrun:(execOp a.eval ⟨dst,.call c,ty,pos,af,g⟩).run X.P w=.ok (.value n) w':=by simp only[execOp,resolve,hc,Sem.run_bind,Sem.run_pure,Result.andThen_ok,invoke,builtin,rP,h1',k1]
        exact mK hrun (hK _ _ _ _ _ (k2.put dst k3) h4)
       ·rw[dj]at hk;cases hk
      ·cases hk
     ·cases hk
    ·cases hk
   ·rename_i hc;cases hv:dQ X ⟨dst,.call c,ty,pos,af,g⟩ s none with
    |some v=>rw[hv]at hk;exact uc hs h (by rw[hv];exact hk) hK
    |none=>
     rw[hv]at hk;simp only[A.oz]at hk;cases q
     ·simp only[aV]at hk;split at hk
      ·rename_i t x h1 h2;split at hk
       ·rename_i e hd;rw[h2]at re
        have hl:∃v,c.args.toList.map a.eval=[v]∧ak (ctx z w E pb) x v:=by
         generalize c.args.toList.map a.eval=vs at *
         simp only[aG]at re;obtain⟨v,_,rfl,r1,rfl⟩:=re;exact⟨v,rfl,r1⟩
        obtain⟨v,hvs,r1⟩:=hl;obtain⟨n,σ',k1,k2,k3⟩:=WS (ty:=ty) h hd hk r1;have h1':c.argTypes=#[t]:=by apply jZ.1;simpa using h1
        have rP:c.args.map a.eval=#[v]:=by apply jZ.1;rw[hargs,hvs]
        have hrun:(execOp a.eval ⟨dst,.call c,ty,pos,af,g⟩).run X.P w=.ok (.value (.int .i64 (n:Int))) w:=by simp only[execOp,resolve,hc,Sem.run_bind,Sem.run_pure,Result.andThen_ok,invoke,builtin,rP,h1',k2]
        exact mK hrun (hK _ _ _ _ _ (k3.put dst (by simp [ak])) k1)
       ·cases hk
      ·cases hk
     ·cases hk
   ·rename_i hc;split at hk
    ·rename_i t x h1 h2;split at hk
     ·rename_i e hd;split at hk
      ·rename_i i zs hi hz;cases dj:jV i
       ·rw[dj]at hk;simp only[aV]at hk;simp only[jV,jY,beq_eq_false_iff_ne]at dj;obtain⟨⟨z1,z2⟩,z3⟩:=dj;obtain⟨i',zv,g1,g2,g3,g4,g5,g6⟩:=sH (w:=w) hz (ctx z w E pb);rw[hi]at g1;injection g1 with g1;subst g1
        rw[g2]at z3;simp only[jY,bne_eq_false_iff_eq,Bool.not_eq_false']at z3;obtain⟨z3,z4⟩:=z3
        have mZ:∀c,aG c zs zv.cells.toList:=λc=>by
         obtain⟨i2,v2,f1,f2,f3,f4,f5,f6⟩:=sH (w:=w) hz c;rw[hi]at f1;injection f1 with f1;subst f1
         rw[g2]at f2;injection f2 with f2;subst f2
         exact f5
        obtain⟨σ',h3,h4⟩:=bk.1 hk;rw[h2]at re
        have hl:∃v,c.args.toList.map a.eval=[v]∧ak (ctx z w E pb) x v:=by
         generalize c.args.toList.map a.eval=vs at *
         simp only[aG]at re;obtain⟨v,_,rfl,r1,rfl⟩:=re;exact⟨v,rfl,r1⟩
        obtain⟨v,hvs,r1⟩:=hl;obtain⟨w',k1,k2⟩:=V6 (ty:=ty) h hd (Vd X.P hi g2) z3 z1 mZ g6 h3 r1;have h1':c.argTypes=#[t]:=by apply jZ.1;simpa using h1
        have rP:c.args.map a.eval=#[v]:=by apply jZ.1;rw[hargs,hvs]
        have hrun:(execOp a.eval ⟨dst,.call c,ty,pos,af,g⟩).run X.P w=.ok (.value undef) w':=by simp only[execOp,resolve,hc,Sem.run_bind,Sem.run_pure,Result.andThen_ok,invoke,builtin,rP,h1',k1];rfl
        exact mK hrun (hK _ _ _ _ _ (k2.undef dst) h4)
       ·rw[dj]at hk;cases hk
      ·cases hk
     ·cases hk
    ·cases hk
   ·rename_i hc;split at hk
    ·rename_i t u m key h1 h2;split at hk
     ·rename_i kt et hd;split at hk
      ·rename_i ek he;obtain⟨σ',h3,h4⟩:=bk.1 hk;rw[h2]at re
       have hl:∃v vy,c.args.toList.map a.eval=[v,vy]∧ak (ctx z w E pb) m v∧ak (ctx z w E pb) key vy:=by
        generalize c.args.toList.map a.eval=vs at *
        simp only[aG]at re;obtain⟨v,_,rfl,r1,u',_,rfl,r2,rfl⟩:=re;exact⟨v,u',rfl,r1,r2⟩
       obtain⟨v,vy,hvs,r1,r2⟩:=hl;obtain⟨w',k1,k2⟩:=Xr (u:=u) (ty:=ty) h hd he h3 r1 r2;have h1':c.argTypes=#[t,u]:=by apply jZ.1;simpa using h1
       have rP:c.args.map a.eval=#[v,vy]:=by apply jZ.1;rw[hargs,hvs]
       have hrun:(execOp a.eval ⟨dst,.call c,ty,pos,af,g⟩).run X.P w=.ok (.value undef) w':=by simp only[execOp,resolve,hc,Sem.run_bind,Sem.run_pure,Result.andThen_ok,invoke,builtin,rP,h1',k1];rfl
       exact mK hrun (hK _ _ _ _ _ (k2.undef dst) h4)
      ·cases hk
     ·cases hk
    ·cases hk
   ·exact uc hs h hk hK
   ·rename_i f hc;cases hq:(q&&!X.W.contains f)
    ·rw[hq]at hk;simp only[aV]at hk;obtain⟨⟨rr,σ'⟩,h3,h4⟩:=bk.1 hk;exact BA h (hs.call _ _ _ _ _ h3) (by rw[hargs];exact re) (K4 hc) (λv w' E' h1 h2=>hK _ _ _ _ _ (h1.put dst h2) h4)
    ·rw[hq]at hk;simp only[bA]at hk;exact uc hs h hk hK
   ·rename_i x hnf hc;cases q
    ·simp only[aV]at hk;obtain⟨⟨rr,σ'⟩,h3,h4⟩:=bk.1 hk;have rx:=cV h x;generalize ev X s x=vx at *
     cases vx<;>simp only[A.fC]at h3<;>first|(cases h3;done)|skip
     rename_i fn0 BO;simp only[ak]at rx;obtain⟨f,cs,e1,e2,e3⟩:=rx;rw[←e2]at h3;have vc:X.dyn (X.nm.getD f 0) (c.args.toList.map (ev X s)++BO) s.σ=some (rr,σ'):=by rw[h.nm];exact h3
     exact BA h (hs.dyn _ _ _ _ _ vc) (vs:=c.args.map a.eval++cs) (by rw[Array.toList_append,hargs];exact re.append e3) (Gm hc e1) (λv w' E' h1 h2=>hK _ _ _ _ _ (h1.put dst h2) h4)
    ·simp only[bA]at hk;exact uc hs h hk hK
   ·cases hk
end
end
section
structure Up where
 d:Option Nat
 v:AV
 bx:Option (Nat×AV)
 new:Option pH
 qU:Bool
 σ:Option Heap
def mg(qU:Bool)(d:Nat)(a:Option pH):Option pH:=match lu d a with|some p=>bif qU&&p.slot==d then none else some p|none=>none
def Up.sl(u:Up)(l:List AV):List AV:=match u.d with
 |some d=>(match u.bx with|some (b,x)=>l.set b x|none=>l).set d u.v
 |none=>(match u.bx with|some (b,x)=>l.set b x|none=>l)
def Up.A(u:Up)(A:Nat→Option pH)(t:Nat):Option pH:=match u.d with|none=>A t|some d=>bif t==d then u.new else mg u.qU d (A t)
def Up.ap(u:Up)(s:AS):AS:=⟨u.sl s.sl,u.A s.A,u.σ.getD s.σ⟩
theorem Bj(d:Nat)(a:Option pH):mg false d a=lu d a:=by unfold mg;cases lu d a<;>rfl
theorem G7(i:Bool)(d:Nat)(a:Option pH):mg i d a=a∨mg i d a=none:=by
 cases a with
 |none=>left;rfl
 |some p=>
  unfold mg;cases hk:lu d (some p)with
  |none=>right;rfl
  |some q=>
   simp only
   have:q=p:=by
    simp only[lu]at hk;cases ht:p.tag with
    |none=>rw[ht]at hk;simpa using hk.symm
    |some g=>
     obtain⟨g,w⟩:=g;rw[ht]at hk;simp only at hk;cases hg:(g==d)
     ·rw[hg]at hk;simpa using hk.symm
     ·rw[hg]at hk;cases hk
   subst this;cases hb:(i&&q.slot==d)
   ·left;rfl
   ·right;rfl
theorem D6(i:Bool)(d:Nat):mg i d none=none:=rfl
theorem Vw(i j:Bool)(d e:Nat)(a:Option pH):mg i d (mg j e a)=mg j e (mg i d a):=by
 rcases G7 i d a with h1|h1<;>rcases G7 j e a with h2|h2
 ·rw[h2,h1,h2]
 ·rw[h2,D6,h1,h2]
 ·rw[h2,h1,D6]
 ·rw[h2,D6,h1,D6]
structure Up.O8 (x y : Up) : Prop where
 d:∀d,x.d=some d→y.d≠some d
 bx:∀b v,x.bx=some (b,v)→(∀c w,y.bx=some (c,w)→c≠b)∧y.d≠some b
 Qz:∀b v,y.bx=some (b,v)→(∀c w,x.bx=some (c,w)→c≠b)∧x.d≠some b
 nx:∀d,y.d=some d→mg y.qU d x.new=x.new
 ny:∀d,x.d=some d→mg x.qU d y.new=y.new
 σ:x.σ=none∨y.σ=none
theorem Up.comm{x y:Up}(h:x.O8 y)(s:AS):x.ap (y.ap s)=y.ap (x.ap s):=by
 obtain⟨hd,qE,hby,hnx,hny,dH⟩:=h;unfold Up.ap;congr 1
 ·show x.sl (y.sl s.sl)=y.sl (x.sl s.sl);generalize s.sl=l;obtain⟨xd,xv,xb,xn,xi,xs⟩:=x;obtain⟨yd,yv,yb,yn,yi,ys⟩:=y;simp only at hd qE hby;cases xb with
  |none=>
   cases yb with
   |none=>
    cases xd with
    |none=>cases yd<;>simp [Up.sl]
    |some dx=>cases yd with
     |none=>simp [Up.sl]
     |some dy=>simp only[Up.sl];rw[List.set_comm];intro e;exact hd dx rfl (by rw[e])
   |some bv=>
    obtain⟨b,v⟩:=bv;obtain⟨_,hb⟩:=hby b v rfl;cases xd with
    |none=>cases yd<;>simp [Up.sl]
    |some dx=>
     have hne:dx≠b:=λe=>hb (by rw[e])
     cases yd with
     |none=>simp only[Up.sl];rw[List.set_comm _ _ (λe=>hne e.symm)]
     |some dy=>
      have oJ:dx≠dy:=λe=>hd dx rfl (by rw[e])
      simp only[Up.sl];rw[List.set_comm _ _ (λe=>oJ e.symm),List.set_comm _ _ (λe=>hne e.symm)]
  |some bv=>
   obtain⟨b,v⟩:=bv;obtain⟨C0,hb⟩:=qE b v rfl;cases yb with
   |none=>
    cases yd with
    |none=>cases xd<;>simp [Up.sl]
    |some dy=>
     have hne:dy≠b:=λe=>hb (by rw[e])
     cases xd with
     |none=>simp only[Up.sl];rw[List.set_comm _ _ hne]
     |some dx=>
      have oJ:dx≠dy:=λe=>hd dx rfl (by rw[e])
      simp only[Up.sl];rw[List.set_comm _ _ hne,List.set_comm _ _ (λe=>oJ e.symm)]
   |some cw=>
    obtain⟨c,u⟩:=cw;have hcb:c≠b:=C0 c u rfl;obtain⟨_,hc⟩:=hby c u rfl;cases xd with
    |none=>
     cases yd with
     |none=>simp only[Up.sl];rw[List.set_comm _ _ hcb]
     |some dy=>
      have hne:dy≠b:=λe=>hb (by rw[e])
      simp only[Up.sl];rw[List.set_comm _ _ hne,List.set_comm _ _ hcb]
    |some dx=>
     have hnc:dx≠c:=λe=>hc (by rw[e])
     cases yd with
     |none=>simp only[Up.sl];rw[List.set_comm _ _ hcb,List.set_comm _ _ (λe=>hnc e.symm)]
     |some dy=>
      have hne:dy≠b:=λe=>hb (by rw[e])
      have oJ:dx≠dy:=λe=>hd dx rfl (by rw[e])
      simp only[Up.sl];rw[List.set_comm _ _ hne,List.set_comm _ _ (λe=>oJ e.symm),List.set_comm _ _ hcb,List.set_comm _ _ (λe=>hnc e.symm)]
 ·funext t;show x.A (y.A s.A) t=y.A (x.A s.A) t;generalize s.A t=a0;unfold Up.A;cases Rn:x.d with
  |none=>cases y.d<;>rfl
  |some dx=>
   cases Rp:y.d with
   |none=>rfl
   |some dy=>
    have oJ:dx≠dy:=λe=>hd dx Rn (by rw[Rp,e])
    simp only;by_cases h1:t=dx
    ·subst h1;have:(t==dy)=false:=by simpa using oJ
     simp only[beq_self_eq_true,bA,this,aV];exact(hnx dy Rp).symm
    ·have h1':(t==dx)=false:=by simpa using h1
     by_cases h2:t=dy
     ·subst h2;simp only[beq_self_eq_true,bA,h1',aV];exact hny dx Rn
     ·have h2':(t==dy)=false:=by simpa using h2
      simp only[h1',h2',aV];exact Vw ..
 ·rcases dH with e|e<;>simp [e]
structure RI (X : Fx) (Rt : List (Nat × Nat)) (Bt : List Nat) (s : AS) : Prop where
 l:∀t b,Rt.lookup t=some b→X.L.contains b=true
 a:∀t p,s.A t=some p→Rt.lookup t=some p.slot
 v:∀t b,Rt.lookup t=some b→X.L.contains t=false→jj (s.sl.getD t .undef)=true
 b:∀t,Bt.contains t=true→lE (s.sl.getD t .undef)=true
def mM(σ σ':Heap):Prop:=∀(id:Nat)(cs:List AV),σ[id]? =some (bu.box cs)↔σ'[id]? =some (bu.box cs)
section
variable {R : Type} {X : Fx} {Rt : List (Nat × Nat)} {Bt : List Nat} {s s' : AS}
theorem Et(h:RI X Rt Bt s){tag:Option (Nat×Bool)}{x:Operand}{b off:Nat}(hp:place X s tag x=some (b,off)):tP X Rt x=some b:=by
 cases x with
 |tmp t=>
  simp only[place]at hp;simp only[tP];cases hL:X.L.contains t
  ·rw[hL]at hp;simp only[aV]at hp ⊢;split at hp
   ·rename_i p hA;cases hc:X.L.contains p.slot
    ·rw[hc]at hp;cases hp
    ·rw[hc]at hp;simp only[bA]at hp;have ha:=h.a t p hA;split at hp
     ·simp only[Option.some.injEq,Prod.mk.injEq]at hp;rw[ha,hp.1]
     ·rename_i g hg;cases ht:(tag==some g)
      ·rw[ht]at hp;cases hp
      ·rw[ht]at hp;simp only[bA,Option.some.injEq,Prod.mk.injEq]at hp;rw[ha,hp.1]
   ·cases hp
  ·rw[hL]at hp;simp only[bA,Option.some.injEq,Prod.mk.injEq]at hp ⊢;exact hp.1
 |_=>simp [place]at hp
theorem zO(h:RI X Rt Bt s){tag:Option (Nat×Bool)}{x:Operand}{b:Nat}(hr:tP X Rt x=some b)(hp:place X s tag x=none):jj (ev X s x)=true:=by
 cases x with
 |tmp t=>
  simp only[tP]at hr;cases hL:X.L.contains t
  ·rw[hL]at hr;simp only[aV]at hr;simp only[ev,hL,aV];exact h.v t b hr hL
  ·simp only[place,hL,bA]at hp;cases hp
 |_=>simp [tP]at hr
theorem Nf{v:AV}{σ:Heap}(h:jj v=true):A.deref v σ=none:=by unfold jj at h;split at h<;>first|rfl|cases h
theorem Vs{v:AV}{σ σ':Heap}(h:mM σ σ')(hv:lE v=true):A.deref v σ=A.deref v σ':=by
 cases v<;>first|rfl|skip
 case op id off=>
  simp only[A.deref];cases h1:σ[id]? with
  |none=>
   cases h2:σ'[id]? with
   |none=>rfl
   |some b=>cases b<;>first|rfl|(have:=(h id _).2 h2;rw[h1]at this;cases this)
  |some b=>
   cases b with
   |box cs=>rw[(h id cs).1 h1]
   |_=>
    cases h2:σ'[id]? with
    |none=>rfl
    |some b=>cases b<;>first|rfl|(have:=(h id _).2 h2;rw[h1]at this;cases this)
 case oe id g i off=>cases hv
theorem Vb{v:AV}{new:List AV}{σ:Heap}(h:jj v=true):A.storeAt v new σ=none:=by unfold jj at h;split at h<;>first|rfl|cases h
theorem GP{pl:Nat→Option (Nat×TypeId)}:∀(ps:List (Nat×Operand))(cs:List AV),(∀p∈ps,ev X s p.2=ev X s' p.2)→lC X s pl ps cs=lC X s' pl ps cs
 |[],cs,_=>rfl
 |(i,x)::ps,cs,h=>by
  have hx:=h (i,x) (by simp);simp only at hx;simp only[lC,hx];cases pl i with
  |none=>rfl
  |some ot=>simp only;congr 1;funext new;congr 1;funext cs';exact GP ps cs' (λp hp=>h p (by simp [hp]))
theorem Hu{o:Oper}{tag:Option (Nat×Bool)}(dP:∀x∈o.op.operands.toList,ev X s x=ev X s' x)(hpl:∀x,kT o=some x→place X s tag x=place X s' tag x)(hb:∀b,rt X Rt o=some b→s.sl.getD b .undef=s'.sl.getD b .undef)
  (CX:∀x b off,kT o=some x→place X s' tag x=some (b,off)→rt X Rt o=some b):gE X o s tag=gE X o s' tag:=by
 obtain⟨dst,op,ty,pos,af,g⟩:=o;cases op<;>simp only[gE]
 case nilCheck x=>
  rw[hpl x rfl];split
  ·rename_i b off hp;rw[hb b (CX x b off rfl hp)]
  ·rfl
 case fieldAddr t x f=>
  rw[hpl x rfl];split
  ·rename_i b off hp;rw[hb b (CX x b off rfl hp)]
  ·rfl
 case indexAddr t x i=>
  rw[hpl x rfl,dP i (by simp [Op.operands])];split
  ·rename_i b off hp;rw[hb b (CX x b off rfl hp)]
  ·rfl
theorem Ea{o:Oper}{tag:Option (Nat×Bool)}(dP:∀x∈o.op.operands.toList,ev X s x=ev X s' x)(hpl:∀x,kT o=some x→place X s tag x=place X s' tag x)(hb:∀b,rt X Rt o=some b→s.sl.getD b .undef=s'.sl.getD b .undef)
  (CX:∀x b off,kT o=some x→place X s' tag x=some (b,off)→rt X Rt o=some b) (hno:∀x b,kT o=some x→rt X Rt o=some b→place X s' tag x=none→jj (ev X s' x)=true) (dH:pX X Rt o=true→soft Bt o=false→s.σ=s'.σ) (ZO:pX X Rt o=true→soft Bt o=true→mM s.σ s'.σ) (hB:∀t,Bt.contains t=true→lE (ev X s' (.tmp t))=true):dQ X o s tag=dQ X o s' tag:=by
 obtain⟨dst,op,ty,pos,af,g⟩:=o;cases op<;>simp only[dQ];case move x=>rw[dP x (by simp [Op.operands])]
 case assign x=>rw[dP x (by simp [Op.operands])]
 case pick x y u=>rw[dP x (by simp [Op.operands]),dP y (by simp [Op.operands]),dP u (by simp [Op.operands])]
 case box t x=>rw[dP x (by simp [Op.operands])]
 case build t ps=>
  have hps:∀p∈ps.toList,ev X s p.2=ev X s' p.2:=λp hp=>dP p.2 (by simp only[Op.operands];simp;exact⟨p.1,by simpa using hp⟩)
  split
  ·rw[GP ps.toList _ hps]
  ·rfl
 case buildSlice t n ps=>
  have hps:∀p∈ps.toList,ev X s p.2=ev X s' p.2:=λp hp=>dP p.2 (by simp only[Op.operands];simp;exact⟨p.1,by simpa using hp⟩)
  split
  ·split
   ·rw[GP ps.toList _ hps]
   ·rfl
  ·rfl
 case load t x=>
  rw[hpl x rfl,dP x (by simp [Op.operands])];split
  ·rename_i b off hp;rw[hb b (CX x b off rfl hp)]
  ·rename_i hp;cases hr:rt X Rt ⟨dst,.load t x,ty,pos,af,g⟩with
   |none=>
    cases yR:soft Bt ⟨dst,.load t x,ty,pos,af,g⟩
    ·rw[dH (by simp only[pX,hr,Option.isNone_none]) yR]
    ·rw[Vs (ZO (by simp only[pX,hr,Option.isNone_none]) yR) (by
      cases x with
      |tmp u=>exact hB u yR
      |_=>simp [soft]at yR)]
   |some b=>rw[Nf (hno x b rfl hr hp),Nf (hno x b rfl hr hp)]
 case nilCheck x=>rw[dP x (by simp [Op.operands])]
 case binOp op t x y u=>rw[dP x (by simp [Op.operands]),dP y (by simp [Op.operands])]
 case unOp op t x=>rw[dP x (by simp [Op.operands])]
 case convert a b x=>rw[dP x (by simp [Op.operands])]
 case makeFunc fn first caps=>
  have:caps.toList.map (ev X s)=caps.toList.map (ev X s'):=List.map_congr_left λx hx=>dP x (by simp [Op.operands];exact .inr (by simpa using hx))
  rw[this]
 case slice t x lo hi mx=>
  have h1:lo.map (ev X s)=lo.map (ev X s'):=by cases lo with|none=>rfl|some y=>simp only[eO];rw[dP y (by simp [Op.operands])]
  have h2:hi.map (ev X s)=hi.map (ev X s'):=by cases hi with|none=>rfl|some y=>simp only[eO];rw[dP y (by simp [Op.operands])]
  rw[dP x (by simp [Op.operands]),h1,h2,dH rfl rfl];split
  ·rfl
  ·split
   ·rw[dP _ (by simp [Op.operands]),dP _ (by simp [Op.operands])]
   ·rfl
 case fieldAddr t x f=>rw[dP x (by simp [Op.operands])]
 case field t x f=>rw[dP x (by simp [Op.operands])]
 case indexAddr t x i=>rw[dP x (by simp [Op.operands]),dP i (by simp [Op.operands])]
 case index t x i=>rw[dP x (by simp [Op.operands]),dP i (by simp [Op.operands])]
 case lookup t x i ok=>rw[dP x (by simp [Op.operands]),dP i (by simp [Op.operands]),dH rfl rfl]
 case extract x i=>rw[dP x (by simp [Op.operands])]
 case entry i=>rw[dP i (by simp [Op.operands]),dH rfl rfl]
 case call c=>
  have ha:c.args.toList.map (ev X s)=c.args.toList.map (ev X s'):=List.map_congr_left λx hx=>dP x (by simp [Op.operands,Call.operands];exact .inr (by simpa using hx))
  rw[ha,dH rfl rfl];cases hc:c.callee with
  |value f=>have hf:=dP f (by simp [Op.operands,Call.operands,hc]);cases f<;>simp only[hf]
  |_=>rfl
theorem Ed{σ:Heap}{b:bu}(hb:∀cs,b≠.box cs):mM σ (σ++[b]):=by
 intro id cs;by_cases h:id<σ.length
 ·rw[fH h]
 ·rw[kN (by omega),fD (by omega)];constructor
  ·intro e;cases e
  ·intro e;have:=cM e;simp at this;exact absurd this.symm (hb cs)
theorem HW{σ:Heap}{id:Nat}{b b':bu}(hb:∀cs,b≠.box cs)(hb':∀cs,b'≠.box cs)(h:σ[id]? =some b):mM σ (σ.set id b'):=by
 intro i cs;rw[fO];by_cases e:id=i
 ·subst e;rw[h];have hlt:=(cq.1 h).1;simp only[if_true,hlt];constructor
  ·intro e;injection e with e;exact absurd e (hb cs)
  ·intro e;injection e with e;exact absurd e (hb' cs)
 ·simp [e]
theorem xm(σ:Heap):mM σ σ:=λ_ _=>Iff.rfl
theorem V1{ek:A.EK}{m k v:AV}{σ σ':Heap}(h:A.ji ek m k v σ=some σ'):mM σ σ':=by
 unfold A.ji at h;cases hk:A.jy ek k
 ·rw[hk]at h;cases h
 rw[hk]at h;simp only[bA]at h;split at h
 ·split at h
  ·rename_i es hg;obtain⟨es',_,e⟩:=cI.1 h;subst e;exact HW (λcs e=>by cases e) (λcs e=>by cases e) hg
  ·cases h
 ·cases h
theorem Lz{sz most:Nat}{x r:AV}{ys:List (List AV)}{σ σ':Heap}(h:A.kE sz most x ys σ=some (r,σ')):mM σ σ':=by
 unfold A.kE at h;split at h
 ·split at h
  ·injection h with h;injection h with _ h;subst h;exact xm _
  ·split at h
   ·injection h with h;injection h with _ h;subst h;exact Ed λcs e=>by cases e
   ·cases h
 ·split at h
  ·injection h with h;injection h with _ h;subst h;exact xm _
  ·split at h
   ·injection h with h;injection h with _ h;subst h;exact Ed λcs e=>by cases e
   ·cases h
 ·split at h
  ·rename_i hg;split at h
   ·split at h
    ·injection h with h;injection h with _ h;subst h;exact xm _
    ·split at h
     ·injection h with h;injection h with _ h;subst h;exact HW (λcs e=>by cases e) (λcs e=>by cases e) hg
     ·injection h with h;injection h with _ h;subst h;exact HW (λcs e=>by cases e) (λcs e=>by cases e) hg
   ·cases h
  ·split at h
   ·injection h with h;injection h with _ h;subst h;exact Ed λcs e=>by cases e
   ·cases h
  ·cases h
 ·cases h
theorem UE{sz most:Nat}{x y r:AV}{σ σ':Heap}(h:A.append sz most x y σ=some (r,σ')):mM σ σ':=by unfold A.append at h;obtain⟨ys,_,h2⟩:=bk.1 h;exact Lz h2
theorem Ud{sz most:Nat}{zs:List AV}{x n r:AV}{σ σ':Heap}(h:A.kF sz most zs x n σ=some (r,σ')):mM σ σ':=by
 unfold A.kF at h;split at h
 ·split at h
  ·exact Lz h
  ·cases h
 ·cases h
structure Ag (X : Fx) (Rt : List (Nat × Nat)) (Bt : List Nat) (o : Oper) (ls : List Nat) (tag : Option (Nat × Bool)) (s s' : AS) : Prop where
 r1:RI X Rt Bt s
 r2:RI X Rt Bt s'
 dP:∀t∈ls,X.L.contains t=false→s.sl.getD t .undef=s'.sl.getD t .undef
 pl:∀t,kT o=some (.tmp t)→place X s tag (.tmp t)=place X s' tag (.tmp t)
 bx:∀b,rt X Rt o=some b→s.sl.getD b .undef=s'.sl.getD b .undef
 σ:pX X Rt o=true→soft Bt o=false→s.σ=s'.σ
 Dn:pX X Rt o=true→soft Bt o=true→mM s.σ s'.σ
theorem Wn{tag:Option (Nat×Bool)}{x:Operand}{b off:Nat}(h:place X s tag x=some (b,off)):X.L.contains b=true:=by
 cases x with
 |tmp t=>
  simp only[place]at h;cases hL:X.L.contains t
  ·rw[hL]at h;simp only[aV]at h;split at h
   ·rename_i p hA;cases hp:X.L.contains p.slot
    ·rw[hp]at h;cases h
    ·rw[hp]at h;simp only[bA]at h;split at h
     ·simp only[Option.some.injEq,Prod.mk.injEq]at h;rw[←h.1];exact hp
     ·rename_i g hg;cases ht:(tag==some g)
      ·rw[ht]at h;cases h
      ·rw[ht]at h;simp only[bA,Option.some.injEq,Prod.mk.injEq]at h;rw[←h.1];exact hp
   ·cases h
  ·rw[hL]at h;simp only[bA,Option.some.injEq,Prod.mk.injEq]at h;rw[←h.1];exact hL
 |_=>simp [place]at h
theorem Ag.wF{o:Oper}{ls:List Nat}{tag:Option (Nat×Bool)}(h:Ag X Rt Bt o ls tag s s')(hls:∀t,Operand.tmp t∈o.op.operands.toList→t∈ls):∀x∈o.op.operands.toList,ev X s x=ev X s' x:=by
 intro x hx;cases x with
 |tmp t=>
  simp only[ev];cases hL:X.L.contains t
  ·simp only[aV];exact h.dP t (hls t hx) hL
  ·rfl
 |_=>rfl
theorem RI.Ay(h:RI X Rt Bt s):∀t,Bt.contains t=true→lE (ev X s (.tmp t))=true:=by
 intro t ht;simp only[ev];cases X.L.contains t
 ·exact h.b t ht
 ·rfl
theorem Ag.vn{o:Oper}{ls:List Nat}{tag:Option (Nat×Bool)}(h:Ag X Rt Bt o ls tag s s'):∀x,kT o=some x→place X s tag x=place X s' tag x:=by
 intro x hx;cases x with
 |tmp t=>exact h.pl t hx
 |_=>rfl
def wX(X:Fx)(d:Option Nat)(v:AV):Up:=⟨d,match d with|some d=>bif X.L.contains d then .undef else v|none=>.undef,none,none,false,none⟩
def Dh(X:Fx)(d:Option Nat)(σ:Heap)(v:AV):Up:=⟨d,match d with|some d=>bif X.L.contains d then .undef else v|none=>.undef,none,none,false,some σ⟩
def FL(X:Fx)(d:Option Nat)(b:Nat)(cs:List AV):Up:=⟨d,match d with|some d=>bif X.L.contains d then .undef else .aD []|none=>.undef,some (b,.lbx cs),none,false,none⟩
def FK(d:Nat)(cs:List AV):Up:=⟨some d,.lbx cs,none,none,true,none⟩
def AL(X:Fx)(d:Option Nat)(b off:Nat)(tag:Option (Nat×Bool)):Up:=
 ⟨d,.undef,none,match d with|some d=>(bif X.L.contains d||!Nat.blt d X.n then none else match tag with|some (g,w)=>(bif g==d then none else some ⟨b,off,some (g,w)⟩)|none=>some ⟨b,off,none⟩)|none=>none,false,none⟩
theorem Ab(d:Option Nat)(v:AV)(s:AS):s.put X d v=(wX X d v).ap s:=by
 cases d with
 |none=>rfl
 |some d=>simp only[AS.put,Up.ap,wX,Up.sl,Option.getD_none];congr 1;funext t;simp only[Up.A,Bj]
theorem gY(d:Option Nat)(v:AV)(σ:Heap)(s:AS):(s.heap σ).put X d v=(Dh X d σ v).ap s:=by
 cases d with
 |none=>rfl
 |some d=>simp only[AS.put,AS.heap,Up.ap,Dh,Up.sl,Option.getD_some];congr 1;funext t;simp only[Up.A,Bj]
theorem Mt(d:Option Nat)(b:Nat)(cs:List AV)(s:AS):(⟨s.sl.set b (.lbx cs),s.A,s.σ⟩:AS).put X d (.aD [])=(FL X d b cs).ap s:=by
 cases d with
 |none=>rfl
 |some d=>simp only[AS.put,Up.ap,FL,Up.sl,Option.getD_none];congr 1;funext t;simp only[Up.A,Bj]
theorem D9(d:Nat)(cs:List AV)(s:AS):s.lB d cs=(FK d cs).ap s:=by simp only[AS.lB,Up.ap,FK,Up.sl,Option.getD_none];congr 1
theorem EM(d:Option Nat)(b off:Nat)(tag:Option (Nat×Bool))(s:AS):s.jD X d b off tag=(AL X d b off tag).ap s:=by
 cases d with
 |none=>rfl
 |some d=>simp only[AS.jD,Up.ap,AL,Up.sl,Option.getD_none];congr 1;funext t;simp only[Up.A,Bj];rfl
structure pe (X : Fx) (Rt : List (Nat × Nat)) (Bt : List Nat) (o : Oper) (ls : List Nat) (τ : Heap) (u : Up) : Prop where
 d:u.d=o.dst
 bx:∀b v,u.bx=some (b,v)→X.L.contains b=true∧wb X Rt o=some b
 new:∀p,u.new=some p→rL o=true∧(∀g w,p.tag=some (g,w)→g∈ls)∧rt X Rt o=some p.slot∧∀d,u.d=some d→Rt.lookup d=some p.slot
 box:u.qU=true→∃d,o.dst=some d∧X.L.contains d=true
 σ:u.σ≠none→mF X Rt o=true
 v:∀d b,u.d=some d→Rt.lookup d=some b→X.L.contains d=false→jj u.v=true
 vb:∀d,u.d=some d→Bt.contains d=true→lE u.v=true
 bxv:∀b v,u.bx=some (b,v)→lE v=true
 fr:wG o=true→∀σ,u.σ=some σ→mM τ σ
def pI(X:Fx)(Rt:List (Nat×Nat))(Bt:List Nat)(o:Oper):Prop:=(∀d,o.dst=some d→X.L.contains d=false→Rt.lookup d=(bif oX o then rt X Rt o else none))∧∀d,o.dst=some d→Bt.contains d=true→sO Bt o=true
theorem pI.of{o:Oper}(h:I3 X Rt o=true)(hb:I1 Bt o=true):pI X Rt Bt o:=by
 refine⟨λd hd hL=>?_,λd hd hc=>?_⟩
 ·unfold I3 at h;rw[hd]at h;simp only[hL,Bool.false_or,beq_iff_eq]at h;exact h
 ·unfold I1 at hb;rw[hd]at hb;simp only[hc,Bool.not_true,Bool.false_or]at hb;exact hb
theorem IJ{o:Oper}{ls:List Nat}(v:AV)(hR:pI X Rt Bt o)(hv:oX o=true→∀b,rt X Rt o=some b→jj v=true)(J8:sO Bt o=true→lE v=true){τ:Heap}:pe X Rt Bt o ls τ (wX X o.dst v):=by
 refine⟨rfl,(λb v h=>by cases h),(λp h=>by cases h),(λh=>by cases h),(λh=>absurd rfl h),λd b hd hl hL=>?_,λd hd hc=>?_,(λb v h=>by cases h),(λ_ σ h=>by cases h)⟩
 ·simp only[wX]at hd ⊢;rw[hd];simp only[hL,aV];rw[hR.1 d hd hL]at hl;cases ha:oX o
  ·rw[ha]at hl;cases hl
  ·rw[ha]at hl;exact hv ha b hl
 ·have:=J8 (hR.2 d hd hc);simp only[wX]at hd ⊢;rw[hd];simp only;cases X.L.contains d
  ·exact this
  ·rfl
theorem oV{o:Oper}{ls:List Nat}(σ:Heap)(v:AV)(hR:pI X Rt Bt o)(h:mF X Rt o=true)(hn:oX o=false)(hcb:sO Bt o=false){τ:Heap}(hf:wG o=true→mM τ σ):pe X Rt Bt o ls τ (Dh X o.dst σ v):=by
 refine⟨rfl,(λb v h=>by cases h),(λp h=>by cases h),(λh=>by cases h),(λ_=>h),λd b hd hl hL=>?_,λd hd hc=>?_,(λb v h=>by cases h),(λhw σ' h=>?_)⟩
 ·simp only[Dh]at hd;rw[hR.1 d hd hL,hn]at hl;cases hl
 ·have:=hR.2 d hd hc;rw[hcb]at this;cases this
 ·simp only[Dh,Option.some.injEq]at h;subst h;exact hf hw
theorem O5{τ:Heap}{o:Oper}{ls:List Nat}{b off:Nat}{tag:Option (Nat×Bool)}(hR:pI X Rt Bt o)(ha:oX o=true)(hr:rt X Rt o=some b)(h:rL o=true)(ht:∀g w,tag=some (g,w)→g∈ls):pe X Rt Bt o ls τ (AL X o.dst b off tag):=by
 refine⟨rfl,(λb v h=>by cases h),(λp hp=>?_),(λh=>by cases h),(λh=>absurd rfl h),(λd b hd hl hL=>rfl),(λ_ _ _=>rfl),(λb v h=>by cases h),(λ_ σ h=>by cases h)⟩
 have key:p.slot=b∧(∀g w,p.tag=some (g,w)→g∈ls)∧∀d,o.dst=some d→X.L.contains d=false:=by
  unfold AL at hp;simp only at hp;cases hd:o.dst with
  |none=>rw[hd]at hp;cases hp
  |some d=>
   rw[hd]at hp;simp only at hp;cases hc:(X.L.contains d||!Nat.blt d X.n)
   ·rw[hc]at hp;simp only[aV]at hp;have hL:X.L.contains d=false:=by simp only[jY]at hc;exact hc.1
    cases tag with
    |none=>simp only[Option.some.injEq]at hp;subst hp;exact⟨rfl,(λg w e=>by cases e),λd' e=>by injection e with e;rw[←e];exact hL⟩
    |some gw=>
     obtain⟨g',w'⟩:=gw;simp only at hp;cases hg:(g'==d)
     ·rw[hg]at hp;simp only[aV,Option.some.injEq]at hp;subst hp;refine⟨rfl,λg w e=>?_,λd' e=>by injection e with e;rw[←e];exact hL⟩;simp only[Option.some.injEq,Prod.mk.injEq]at e;rw[←e.1];exact ht g' w' rfl
     ·rw[hg]at hp;cases hp
   ·rw[hc]at hp;cases hp
 refine⟨h,key.2.1,by rw[hr,key.1],λd hd=>?_⟩;have hd':o.dst=some d:=hd;rw[hR.1 d hd' (key.2.2 d hd'),ha,bA,hr,key.1]
theorem D7(l:List AV)(d t:Nat)(v:AV)(h:t≠d):(l.set d v).getD t .undef=l.getD t .undef:=by
 have h':¬d=t:=λe=>h (Eq.symm e)
 simp only[List.getD,fO,aQ h']
theorem IY{u:Up}{l:List AV}{t:Nat}(h1:u.d≠some t)(h2:∀b v,u.bx=some (b,v)→t≠b):(u.sl l).getD t .undef=l.getD t .undef:=by
 unfold Up.sl;cases hd:u.d with
 |none=>
  cases hb:u.bx with
  |none=>rfl
  |some bv=>obtain⟨b,v⟩:=bv;exact D7 _ _ _ _ (h2 b v hb)
 |some d=>
  have hne:t≠d:=λe=>h1 (by rw[hd,e])
  cases hb:u.bx with
  |none=>exact D7 _ _ _ _ hne
  |some bv=>obtain⟨b,v⟩:=bv;simp only;rw[D7 _ _ _ _ hne,D7 _ _ _ _ (h2 b v hb)]
theorem pe.ri{τ:Heap}{o:Oper}{ls:List Nat}{u:Up}(h:pe X Rt Bt o ls τ u)(hs:RI X Rt Bt s):RI X Rt Bt (u.ap s):=by
 refine⟨hs.l,λt p hp=>?_,λt b ht hL=>?_,λt ht=>?_⟩
 ·have hp':u.A s.A t=some p:=hp;unfold Up.A at hp';cases hd:u.d with
  |none=>rw[hd]at hp';exact hs.a t p hp'
  |some d=>
   rw[hd]at hp';simp only at hp';cases hc:(t==d)
   ·rw[hc]at hp';simp only[aV]at hp';rcases G7 u.qU d (s.A t)with e|e
    ·rw[e]at hp';exact hs.a t p hp'
    ·rw[e]at hp';cases hp'
   ·rw[hc]at hp';simp only[bA]at hp';have:t=d:=by simpa using hc
    subst this;exact(h.new p hp').2.2.2 t hd
 ·show jj ((u.sl s.sl).getD t .undef)=true;by_cases hd:u.d=some t
  ·have hv:=h.v t b hd ht hL
   have:(u.sl s.sl).getD t .undef=u.v∨(u.sl s.sl).getD t .undef=.undef:=by
    unfold Up.sl;rw[hd];simp only[List.getD];rw[fO];simp only[if_true];generalize (match u.bx with|some (b,x)=>s.sl.set b x|none=>s.sl)=q;by_cases hq:t<q.length
    ·left;simp [hq]
    ·right;simp [hq]
   rcases this with e|e
   ·rw[e];exact hv
   ·rw[e];rfl
  ·rw[IY hd (λb' v hb e=>by have:=(h.bx b' v hb).1;rw[←e,hL]at this;cases this)];exact hs.v t b ht hL
 ·show lE ((u.sl s.sl).getD t .undef)=true
  have nB:∀(l:List AV)(d:Nat)(v:AV),(l.set d v).getD t .undef=v∧t=d∨(l.set d v).getD t .undef=l.getD t .undef∨(l.set d v).getD t .undef=.undef:=by
   intro l d v;simp only[List.getD,fO];by_cases e:d=t
   ·subst e;by_cases hq:d<l.length
    ·left;simp [hq]
    ·right;right;simp [hq]
   ·right;left;simp [e]
  have qE:lE ((match u.bx with|some (b,x)=>s.sl.set b x|none=>s.sl).getD t .undef)=true:=by
   cases hb:u.bx with
   |none=>exact hs.b t ht
   |some bv=>
    obtain⟨b,v⟩:=bv;rcases nB s.sl b v with⟨e,_⟩|e|e
    ·simp only;rw[e];exact h.bxv b v hb
    ·simp only;rw[e];exact hs.b t ht
    ·simp only;rw[e];rfl
  unfold Up.sl;generalize (match u.bx with|some (b,x)=>s.sl.set b x|none=>s.sl)=q at qE;cases hd:u.d with
  |none=>exact qE
  |some d=>
   simp only;rcases nB q d u.v with⟨e,e2⟩|e|e
   ·rw[e];exact h.vb d hd (e2▸ht)
   ·rw[e];exact qE
   ·rw[e];rfl
theorem OW{o:Oper}{tag:Option (Nat×Bool)}{p:Nat×Option Nat}(h:gE X o s tag=some p):rL o=true:=by obtain⟨dst,op,ty,pos,af,g⟩:=o;cases op<;>simp only[gE]at h<;>first|(cases h;done)|rfl
theorem Oc{o:Oper}{tag:Option (Nat×Bool)}{p:Nat×Option Nat}(h:gE X o s tag=some p):oX o=true:=by obtain⟨dst,op,ty,pos,af,g⟩:=o;cases op<;>simp only[gE]at h<;>first|(cases h;done)|rfl
theorem OX(hI:RI X Rt Bt s){o:Oper}{tag:Option (Nat×Bool)}{b:Nat}{rr:Option Nat}(h:gE X o s tag=some (b,rr)):rt X Rt o=some b:=by
 obtain⟨dst,op,ty,pos,af,g⟩:=o;cases op<;>simp only[gE]at h<;>first|(cases h;done)|skip
 all_goals
  split at h
  ·rename_i b' off hp;simp only[Option.some.injEq,Prod.mk.injEq]at h;simp only[rt,kT];rw[←h.1];exact Et hI hp
  ·cases h
theorem Od(hI:RI X Rt Bt s){o:Oper}{tag:Option (Nat×Bool)}{v:AV}(ha:oX o=true){b:Nat}(hr:rt X Rt o=some b)(hp:gE X o s tag=none)(h:dQ X o s tag=some v):False:=by
 obtain⟨dst,op,ty,pos,af,g⟩:=o;have nf:∀(x:AV)(n:Nat),jj x=true→A.eG n x=none:=λx n h=>by unfold jj at h;split at h<;>first|rfl|cases h
 have nn:∀(x:AV),jj x=true→A.lD x=none:=λx h=>by unfold jj at h;split at h<;>first|rfl|cases h
 have ni:∀(x i:AV)(n:Nat),jj x=true→A.aK n x i=none:=λx i n h=>by unfold jj at h;split at h<;>first|rfl|cases h
 have na:∀(x i:AV)(m n:Nat),jj x=true→A.sY m n x i=none:=λx i m n h=>by
  unfold jj at h;unfold A.sY;split at h<;>first|(cases h;done)|skip
  all_goals cases A.idx m i<;>rfl
 cases op<;>simp only[oX]at ha<;>first|(cases ha;done)|skip
 case nilCheck x=>
  simp only[gE]at hp;simp only[rt,kT]at hr;split at hp
  ·cases hp
  ·rename_i hpl;simp only[dQ,nn _ (zO hI hr hpl)]at h;cases h
 case fieldAddr t x f=>
  simp only[gE]at hp;simp only[rt,kT]at hr;split at hp
  ·cases hp
  ·rename_i hpl;simp only[dQ]at h;split at h
   ·split at h
    ·rename_i i _;cases hz:(i.size==0)
     ·rw[hz]at h;simp only[aV,nf _ _ (zO hI hr hpl)]at h;cases h
     ·rw[hz]at h;cases h
    ·cases h
   ·cases h
 case indexAddr t x i=>
  simp only[gE]at hp;simp only[rt,kT]at hr;split at hp
  ·cases hp
  ·rename_i hpl;simp only[dQ]at h;split at h
   ·split at h
    ·simp only[ni _ _ _ (zO hI hr hpl)]at h;cases h
    ·cases h
   ·split at h
    ·simp only[na _ _ _ _ (zO hI hr hpl)]at h;cases h
    ·cases h
   ·cases h
theorem jt{α β:Type}{x:Option α}{f:α→Option β}{b:β}(h:x.bind f=some b):∃a,x=some a∧f a=some b:=bk.1 h
theorem MN(hB:∀t,Bt.contains t=true→lE (ev X s (.tmp t))=true){o:Oper}{tag:Option (Nat×Bool)}{v:AV}(hc:sO Bt o=true)(h:dQ X o s tag=some v):lE v=true:=by
 obtain⟨dst,op,ty,pos,af,g⟩:=o
 have nk:∀x,lE x=true→∀y,A.lD x=some y→lE y=true:=λx hx y e=>by cases x<;>simp only[A.lD]at e<;>first|(cases e;done)|(injection e with e;subst e;exact hx)
 have nf:∀x,lE x=true→∀n y,A.eG n x=some y→lE y=true:=λx hx n y e=>by cases x<;>simp only[A.eG]at e<;>first|(cases e;done)|(cases hx;done)|(injection e with e;subst e;rfl)
 cases op<;>simp only[sO]at hc<;>first|(cases hc;done)|skip
 case move x=>
  cases x<;>first|(cases hc;done)|skip
  simp only[dQ,Option.some.injEq]at h;subst h;exact hB _ hc
 case assign x=>
  cases x<;>first|(cases hc;done)|skip
  simp only[dQ,Option.some.injEq]at h;subst h;exact hB _ hc
 case nilCheck x=>
  cases x<;>first|(cases hc;done)|skip
  simp only[dQ]at h;exact nk _ (hB _ hc) _ h
 case fieldAddr t x f=>
  cases x<;>first|(cases hc;done)|skip
  simp only[dQ]at h;split at h
  ·split at h
   ·rename_i i _;cases hz:(i.size==0)
    ·rw[hz]at h;simp only[aV]at h;exact nf _ (hB _ hc) _ _ h
    ·rw[hz]at h;cases h
   ·cases h
  ·cases h
theorem OU{o:Oper}{ls:List Nat}(hR:pI X Rt Bt o)(hI:RI X Rt Bt s)(hls:∀t,Operand.tmp t∈o.op.operands.toList→t∈ls){k:AS→Option R}{r:R}(h:eC X true o s k=some r):
  ∃u,pe X Rt Bt o ls s.σ u∧k (u.ap s)=some r∧∀(R':Type)(k':AS→Option R')(s':AS),Ag X Rt Bt o ls none s s'→eC X true o s' k'=k' (u.ap s'):=by
 have wq:∀(s':AS),RI X Rt Bt s'→∀x b off,kT o=some x→place X s' none x=some (b,off)→rt X Rt o=some b:=λs' hi x b off hx hp=>by simp only[rt,hx];exact Et hi hp
 have Ap:∀(s':AS),RI X Rt Bt s'→∀x b,kT o=some x→rt X Rt o=some b→place X s' none x=none→jj (ev X s' x)=true:=λs' hi x b hx hr hp=>by simp only[rt,hx]at hr;exact zO hi hr hp
 unfold eC at h;cases hp:gE X o s none with
 |some p=>
  obtain⟨b,rr⟩:=p;rw[hp]at h;simp only at h;obtain⟨off,e1,e2⟩:=jt h;subst e1;refine⟨AL X o.dst b off none,O5 hR (Oc hp) (OX hI hp) (OW hp) (λg w e=>by cases e),by rw[←EM];exact e2,λR' k' s' ha=>?_⟩;have:gE X o s' none=some (b,some off):=by rw[←hp];exact(Hu (ha.wF hls) ha.vn ha.bx (wq s' ha.r2)).symm
  unfold eC;rw[this];simp only[aM];rw[EM]
 |none=>
  rw[hp]at h;simp only at h;have hP:∀s',Ag X Rt Bt o ls none s s'→gE X o s' none=none:=λs' ha=>by rw[←hp];exact(Hu (ha.wF hls) ha.vn ha.bx (wq s' ha.r2)).symm
  have dflt:((dQ X o s none).bind λv=>k (s.put X o.dst v))=some r→(∀(R':Type)(k':AS→Option R')(s':AS),Ag X Rt Bt o ls none s s'→eC X true o s' k'=(dQ X o s' none).bind λv=>k' (s'.put X o.dst v))→
    ∃u,pe X Rt Bt o ls s.σ u∧k (u.ap s)=some r∧∀(R':Type)(k':AS→Option R')(s':AS),Ag X Rt Bt o ls none s s'→eC X true o s' k'=k' (u.ap s'):=by
   intro hd hsame;obtain⟨v,e1,e2⟩:=jt hd;refine⟨wX X o.dst v,IJ v hR (λha b hr=>(Od hI ha hr hp e1).elim) (λhc=>MN hI.Ay hc e1),by rw[←Ab];exact e2,λR' k' s' ha=>?_⟩;have:dQ X o s' none=some v:=by rw[←e1];exact(Ea (ha.wF hls) ha.vn ha.bx (wq s' ha.r2) (Ap s' ha.r2) ha.σ ha.Dn ha.r2.Ay).symm
   rw[hsame R' k' s' ha,this,aM,Ab]
  obtain⟨dst,op,ty,pos,af,g⟩:=o;have tC:∀s',Ag X Rt Bt ⟨dst,op,ty,pos,af,g⟩ ls none s s'→∀x∈op.operands.toList,ev X s x=ev X s' x:=λs' ha=>ha.wF hls
  have unf:∀{R':Type}(k':AS→Option R')(s':AS),Ag X Rt Bt ⟨dst,op,ty,pos,af,g⟩ ls none s s'→gE X ⟨dst,op,ty,pos,af,g⟩ s' none=none:=λk' s' ha=>hP s' ha
  cases op<;>simp only at h<;>first
   |(exact absurd (show(none:Option R)=some r from h) (by simp))
   |exact dflt h (λR' k' s' ha=>by unfold eC;rw[hP s' ha])
   |skip
  case alloc t=>
   cases dst with
   |none=>cases h
   |some d=>
    simp only at h;cases hL:X.L.contains d
    ·rw[hL]at h;simp only[aV]at h;cases hO:X.O.contains d
     ·rw[hO]at h;exact dflt h (λR' k' s' ha=>by unfold eC;rw[hP s' ha];simp only[hL,hO,aV])
     ·rw[hO]at h;simp only[bA]at h;split at h
      ·rename_i cs hz;rw[gY]at h;refine⟨_,oV _ _ hR (by simp [mF,wH];simpa using hO) rfl rfl (λh=>by cases h),h,λR' k' s' ha=>?_⟩;have dH:=ha.σ (by simpa [pX]using hO) rfl;unfold eC;rw[hP s' ha];simp only[hL,hO,aV,bA,hz,dH];rw[gY]
      ·cases h
    ·rw[hL]at h;simp only[bA]at h;split at h
     ·rename_i cs hz;rw[D9]at h;refine⟨_,⟨rfl,(λb v h=>by cases h),(λp h=>by cases h),(λ_=>⟨d,rfl,hL⟩),(λh=>absurd rfl h),(λd' b e _ hL'=>by simp only[FK,Option.some.injEq]at e;rw[←e,hL]at hL';cases hL'),(λ_ _ _=>rfl),(λb v h=>by cases h),(λ_ σ h=>by cases h)⟩,h,λR' k' s' ha=>?_⟩;unfold eC;rw[hP s' ha];simp only[hL,bA,hz];rw[D9]
     ·cases h
  case box t x=>
   cases dst with
   |none=>cases h
   |some d=>
    simp only at h;cases hL:X.L.contains d
    ·rw[hL]at h;simp only[aV]at h;cases hO:X.O.contains d
     ·rw[hO]at h;exact dflt h (λR' k' s' ha=>by unfold eC;rw[hP s' ha];simp only[hL,hO,aV])
     ·rw[hO]at h;simp only[bA]at h;obtain⟨cs,e1,e2⟩:=jt h;rw[gY]at e2;refine⟨_,oV _ _ hR (by simp [mF,wH];simpa using hO) rfl rfl (λh=>by cases h),e2,λR' k' s' ha=>?_⟩;have dH:=ha.σ (by simpa [pX]using hO) rfl;have hx:=tC s' ha x (by simp [Op.operands]);unfold eC;rw[hP s' ha];simp only[hL,hO,aV,bA,←hx,e1,aM,dH];rw[gY]
    ·rw[hL]at h;simp only[bA]at h;obtain⟨cs,e1,e2⟩:=jt h;rw[D9]at e2;refine⟨_,⟨rfl,(λb v h=>by cases h),(λp h=>by cases h),(λ_=>⟨d,rfl,hL⟩),(λh=>absurd rfl h),(λd' b e _ hL'=>by simp only[FK,Option.some.injEq]at e;rw[←e,hL]at hL';cases hL'),(λ_ _ _=>rfl),(λb v h=>by cases h),(λ_ σ h=>by cases h)⟩,e2,λR' k' s' ha=>?_⟩;have hx:=tC s' ha x (by simp [Op.operands]);unfold eC;rw[hP s' ha];simp only[hL,bA,←hx,e1,aM];rw[D9]
  case store t x v=>
   split at h
   ·rename_i b off hpl;obtain⟨cs,e1,e2⟩:=jt h;obtain⟨new,e3,e4⟩:=jt e2;obtain⟨cs',e5,e6⟩:=jt e4;rw[Mt]at e6;have vf:rt X Rt ⟨dst,.store t x v,ty,pos,af,g⟩=some b:=by simp only[rt,kT];exact Et hI hpl
    refine⟨_,⟨rfl,(λb' v' hb=>by simp only[FL,Option.some.injEq,Prod.mk.injEq]at hb;rw[←hb.1];exact⟨Wn hpl,vf⟩),(λp h=>by cases h),(λh=>by cases h),(λh=>absurd rfl h),(λd1 b1 e hl hL=>by rw[hR.1 d1 e hL]at hl;cases hl),(λd1 e hc=>by have:=hR.2 d1 e hc;cases this),(λb1 v1 hb=>by simp only[FL,Option.some.injEq,Prod.mk.injEq]at hb;rw[←hb.2];rfl),(λ_ σ h=>by cases h)⟩,e6,λR' k' s' ha=>?_⟩;have hv:=tC s' ha v (by simp [Op.operands]);have hpx:place X s' none x=some (b,off):=by rw[←hpl];exact(ha.vn x rfl).symm
    have qE:=ha.bx b vf;unfold eC;rw[hP s' ha];simp only[hpx,←qE,e1,aM,←hv,e3,e5];rw[Mt]
   ·rename_i hpl;obtain⟨new,e3,e4⟩:=jt h;obtain⟨σ',e5,e6⟩:=jt e4;rw[gY]at e6
    have vf:rt X Rt ⟨dst,.store t x v,ty,pos,af,g⟩=none:=by
     cases hr:rt X Rt ⟨dst,.store t x v,ty,pos,af,g⟩with
     |none=>rfl
     |some b=>rw[Vb (Ap s hI x b rfl hr hpl)]at e5;cases e5
    have hw:mF X Rt ⟨dst,.store t x v,ty,pos,af,g⟩=true:=by simp only[mF,vf,Option.isNone_none]
    refine⟨_,oV _ _ hR hw rfl rfl (λh=>by cases h),e6,λR' k' s' ha=>?_⟩;have hv:=tC s' ha v (by simp [Op.operands]);have hx:=tC s' ha x (by simp [Op.operands]);have dH:=ha.σ (by simp only[pX,vf,Option.isNone_none]) rfl;have hpx:place X s' none x=none:=by rw[←hpl];exact(ha.vn x rfl).symm
    unfold eC;rw[hP s' ha];simp only[hpx,←hv,←hx,e3,aM,←dH,e5];rw[gY]
  case makeMap t rr=>
   cases rr with
   |some x=>cases h
   |none=>simp only at h;rw[gY]at h;refine⟨_,oV _ _ hR rfl rfl rfl (λ_=>Ed (λcs e=>by cases e)),h,λR' k' s' ha=>?_⟩;have dH:=ha.σ rfl rfl;unfold eC;rw[hP s' ha];simp only[←dH];rw[gY]
  case range t x=>
   split at h
   ·rename_i kt et hd;obtain⟨es,e1,e2⟩:=jt h;rw[gY]at e2;refine⟨_,oV _ _ hR rfl rfl rfl (λh=>by cases h),e2,λR' k' s' ha=>?_⟩;have hx:=tC s' ha x (by simp [Op.operands]);have dH:=ha.σ rfl rfl;unfold eC;rw[hP s' ha];simp only[hd,←hx,←dH,e1,aM];rw[gY]
   ·cases h
  case buildSlice t n ps=>
   cases dst with
   |none=>exact dflt h (λR' k' s' ha=>by unfold eC;rw[hP s' ha])
   |some d=>
    simp only at h;cases hO:X.O.contains d
    ·rw[hO]at h;exact dflt h (λR' k' s' ha=>by unfold eC;rw[hP s' ha];simp only[hO,aV])
    ·rw[hO]at h;simp only[bA]at h;obtain⟨v,e1,e2⟩:=jt h
     have hv:∀s',Ag X Rt Bt ⟨some d,.buildSlice t n ps,ty,pos,af,g⟩ ls none s s'→dQ X ⟨some d,.buildSlice t n ps,ty,pos,af,g⟩ s' none=some v:=λs' ha=>by rw[←e1];exact(Ea (ha.wF hls) ha.vn ha.bx (wq s' ha.r2) (Ap s' ha.r2) ha.σ ha.Dn ha.r2.Ay).symm
     unfold A.Aq at e2;split at e2
     ·rename_i sz es;cases hl:(es.length==0)
      ·rw[hl]at e2;simp only[aV]at e2;rw[gY]at e2;refine⟨_,oV _ _ hR (by simp [mF,wH];simpa using hO) rfl rfl (λh=>by cases h),e2,λR' k' s' ha=>?_⟩;have dH:=ha.σ (by simpa [pX]using hO) rfl;unfold eC;rw[hP s' ha];simp only[hO,bA,hv s' ha,aM,A.Aq,hl,aV,←dH];rw[gY]
      ·rw[hl]at e2;cases e2
     ·cases e2
  case mapUpdate t m i v=>
   split at h
   ·rename_i kt et hd;split at h
    ·rename_i ek he;obtain⟨σ',e1,e2⟩:=jt h;rw[gY]at e2;refine⟨_,oV _ _ hR rfl rfl rfl (λ_=>V1 e1),e2,λR' k' s' ha=>?_⟩;have hm:=tC s' ha m (by simp [Op.operands]);have hi:=tC s' ha i (by simp [Op.operands]);have hv:=tC s' ha v (by simp [Op.operands]);have dH:=ha.σ rfl rfl;unfold eC;rw[hP s' ha];simp only[hd,he,←hm,←hi,←hv,←dH,e1,aM];rw[gY]
    ·cases h
   ·cases h
  case call c=>
   have hargs:∀s',Ag X Rt Bt ⟨dst,.call c,ty,pos,af,g⟩ ls none s s'→c.args.toList.map (ev X s)=c.args.toList.map (ev X s'):=λs' ha=>
    List.map_congr_left λx hx=>tC s' ha x (by simp [Op.operands,Call.operands];exact .inr (by simpa using hx))
   split at h
   ·rename_i hc;split at h
    ·rename_i t u x y h1 h2;split at h
     ·rename_i e e' hd hu;split at h
      ·rename_i i hi;cases dj:jV i
       ·rw[dj]at h;simp only[aV]at h;obtain⟨⟨rr,σ'⟩,e1,e2⟩:=jt h;simp only at e2;rw[gY]at e2;refine⟨_,oV _ _ hR (by simp [mF,wH,hc]) rfl rfl (λ_=>UE e1),e2,λR' k' s' ha=>?_⟩;have dH:=ha.σ rfl rfl;unfold eC;rw[hP s' ha];simp only[hc,←hargs s' ha,h1,h2,hd,hu,hi,dj,aV,←dH,e1,aM];rw[gY]
       ·rw[dj]at h;cases h
      ·cases h
     ·rename_i e kk hd hu;split at h
      ·rename_i i zs hi hz;cases dj:jV i
       ·rw[dj]at h;simp only[aV]at h;obtain⟨⟨rr,σ'⟩,e1,e2⟩:=jt h;simp only at e2;rw[gY]at e2;refine⟨_,oV _ _ hR (by simp [mF,wH,hc]) rfl rfl (λ_=>Ud e1),e2,λR' k' s' ha=>?_⟩;have dH:=ha.σ rfl rfl;unfold eC;rw[hP s' ha];simp only[hc,←hargs s' ha,h1,h2,hd,hu,hi,hz,dj,aV,←dH,e1,aM];rw[gY]
       ·rw[dj]at h;cases h
      ·cases h
     ·cases h
    ·cases h
   ·rename_i hc;split at h
    ·rename_i t u x y h1 h2;split at h
     ·rename_i e e' hd hu;split at h
      ·rename_i i hi;cases dj:jV i
       ·rw[dj]at h;simp only[aV]at h;obtain⟨⟨rr,σ'⟩,e1,e2⟩:=jt h;simp only at e2;rw[gY]at e2;refine⟨_,oV _ _ hR (by simp [mF,wH,hc]) rfl rfl (λh=>by simp [wG,hc]at h),e2,λR' k' s' ha=>?_⟩;have dH:=ha.σ rfl rfl;unfold eC;rw[hP s' ha];simp only[hc,←hargs s' ha,h1,h2,hd,hu,hi,dj,aV,←dH,e1,aM];rw[gY]
       ·rw[dj]at h;cases h
      ·cases h
     ·cases h
    ·cases h
   ·rename_i hc;cases hv:dQ X ⟨dst,.call c,ty,pos,af,g⟩ s none with
    |none=>rw[hv]at h;simp [A.oz]at h
    |some v=>
     rw[hv]at h
     exact dflt (by rw[hv];exact h) (λR' k' s' ha=>by
      have hv':dQ X ⟨dst,.call c,ty,pos,af,g⟩ s' none=some v:=by rw[←hv];exact(Ea (ha.wF hls) ha.vn ha.bx (wq s' ha.r2) (Ap s' ha.r2) ha.σ ha.Dn ha.r2.Ay).symm
      unfold eC;rw[hP s' ha];simp only[hc,hv',aM,A.oz])
   ·rename_i hc;split at h
    ·rename_i t x h1 h2;split at h
     ·rename_i e hd;split at h
      ·rename_i i zs hi hz;cases dj:jV i
       ·rw[dj]at h;simp only[aV]at h;obtain⟨σ',e1,e2⟩:=jt h;rw[gY]at e2;refine⟨_,oV _ _ hR (by simp [mF,wH,hc]) rfl rfl (λh=>by simp [wG,hc]at h),e2,λR' k' s' ha=>?_⟩;have dH:=ha.σ rfl rfl;unfold eC;rw[hP s' ha];simp only[hc,←hargs s' ha,h1,h2,hd,hi,hz,dj,aV,←dH,e1,aM];rw[gY]
       ·rw[dj]at h;cases h
      ·cases h
     ·cases h
    ·cases h
   ·rename_i hc;split at h
    ·rename_i t u m key h1 h2;split at h
     ·rename_i kt et hd;split at h
      ·rename_i ek he;obtain⟨σ',e1,e2⟩:=jt h;rw[gY]at e2;refine⟨_,oV _ _ hR (by simp [mF,wH,hc]) rfl rfl (λh=>by simp [wG,hc]at h),e2,λR' k' s' ha=>?_⟩;have dH:=ha.σ rfl rfl;unfold eC;rw[hP s' ha];simp only[hc,←hargs s' ha,h1,h2,hd,he,←dH,e1,aM];rw[gY]
      ·cases h
     ·cases h
    ·cases h
   ·rename_i b hn1 hn2 kn mY pS hc
    exact dflt h (λR' k' s' ha=>by
     unfold eC;rw[hP s' ha];simp only[hc]
     all_goals (first|rfl|(cases b<;>first|rfl|exact absurd rfl hn1|exact absurd rfl hn2|exact absurd rfl kn|exact absurd rfl mY|exact absurd rfl pS)))
   ·rename_i f hc;cases hw:X.W.contains f
    ·simp only[hw,Bool.not_false,Bool.and_true,bA]at h;exact dflt h (λR' k' s' ha=>by unfold eC;rw[hP s' ha];simp only[hc,hw,Bool.not_false,Bool.and_true,bA])
    ·simp only[hw,Bool.not_true,Bool.and_false,aV]at h;obtain⟨⟨rr,σ'⟩,e1,e2⟩:=jt h;simp only at e2;rw[gY]at e2;refine⟨_,oV _ _ hR (by simp only[mF,wH,hc];exact hw) rfl rfl (λh=>by simp [wG,hc]at h),e2,λR' k' s' ha=>?_⟩;have dH:=ha.σ rfl rfl;unfold eC;rw[hP s' ha];simp only[hc,←hargs s' ha,hw,Bool.not_true,Bool.and_false,aV,←dH,e1,aM];rw[gY]
   ·rename_i x hnf hc;simp only[bA]at h
    exact dflt h (λR' k' s' ha=>by
     unfold eC;rw[hP s' ha];simp only[hc]
     cases x<;>first|exact absurd rfl (hnf _)|simp only[bA])
   ·cases h
end
end
section
section
variable {R : Type} {X : Fx} {Rt : List (Nat × Nat)} {Bt : List Nat} {s s' : AS} {ops : Array Oper}
theorem Bu{o:Oper}{t:Nat}(h:Operand.tmp t∈o.op.operands.toList):t∈o.looksAt ops:=by unfold Oper.looksAt;refine ew.2 (.inl (List.mem_filterMap.2 ⟨.tmp t,h,rfl⟩))
theorem Uk{o:Oper}{j d:Nat}{want:Bool}(hg:o.guard=some (j,want))(hd:(ops[j]?).bind (·.dst)=some d):d∈o.looksAt ops:=by unfold Oper.looksAt;refine ew.2 (.inr ?_);rw[hg];simp only[hd];simp
def Aw(X:Fx)(Rt:List (Nat×Nat))(Bt:List Nat)(ops:Array Oper)(o:Oper)(s s':AS):Prop:=∀tag:Option (Nat×Bool),(∀g w,tag=some (g,w)→g∈o.looksAt ops)→Ag X Rt Bt o (o.looksAt ops) tag s s'
theorem Ag.symm{o:Oper}{ls:List Nat}{tag:Option (Nat×Bool)}(h:Ag X Rt Bt o ls tag s s'):Ag X Rt Bt o ls tag s' s:=
 ⟨h.r2,h.r1,λt ht hL=>(h.dP t ht hL).symm,λt ht=>(h.pl t ht).symm,λb hb=>(h.bx b hb).symm,(λhr hs=>(h.σ hr hs).symm),λhr hs id cs=>(h.Dn hr hs id cs).symm⟩
theorem Aw.symm{o:Oper}(h:Aw X Rt Bt ops o s s'):Aw X Rt Bt ops o s' s:=λtag ht=>(h tag ht).symm
theorem HD{q:Bool}{o:Oper}{f:FuncId}{l:List Operand}(h:Ah X o=some (f,l))(s:AS)(k:AS→Option R):eC X q o s k=(X.call f (l.map (ev X s)) s.σ).bind λr=>k ((s.heap r.2).put X o.dst r.1):=by
 unfold Ah at h;split at h
 ·rename_i c ho;split at h
  ·rename_i f' hc;cases hw:X.W.contains f'
   ·rw[hw]at h;cases h
   ·rw[hw]at h;simp only[bA,Option.some.injEq,Prod.mk.injEq]at h;obtain⟨rfl,rfl⟩:=h;unfold eC gE;simp only[ho,hc,hw,Bool.not_true,Bool.and_false,aV]
  ·cases h
 ·cases h
theorem Iz{o:Oper}{k:AS→Option R}{r:R}(hR:pI X Rt Bt o)(hI:RI X Rt Bt s)(h:jI X true ops o s k=some r):
  ∃u,pe X Rt Bt o (o.looksAt ops) s.σ u∧k (u.ap s)=some r∧∀(R':Type)(k':AS→Option R')(s':AS),Aw X Rt Bt ops o s s'→jI X true ops o s' k'=k' (u.ap s'):=by
 unfold jI at h;cases hg:o.guard with
 |none=>rw[hg]at h;obtain⟨u,h1,h2,h3⟩:=OU (ls:=o.looksAt ops) hR hI (λt ht=>Bu ht) h;refine⟨u,h1,h2,λR' k' s' ha=>?_⟩;unfold jI;rw[hg];exact h3 R' k' s' (ha none (λg w e=>by cases e))
 |some jw=>
  obtain⟨j,want⟩:=jw;rw[hg]at h;simp only at h;cases hd:(ops[j]?).bind (·.dst)with
  |none=>rw[hd]at h;cases h
  |some d=>
   rw[hd]at h;simp only at h;cases hb:Bs X o d
   ·rw[hb]at h;simp only[aV]at h;have lS:=Uk (ops:=ops) hg hd;have wu:∀g w,(some (d,want):Option (Nat×Bool))=some (g,w)→g∈o.looksAt ops:=λg w e=>by injection e with e;injection e with e _;rw[←e];exact lS
    have JU:X.L.contains d=false:=by simp only[Bs,jY]at hb;exact hb.1
    cases nO:Ah X o with
    |some fa=>
     obtain⟨f,as'⟩:=fa;rw[nO]at h;simp only at h;obtain⟨rv,e1,e2⟩:=jt h
     have key:∀(x:AV),s.sl.getD d .undef=x→(x=.aD []∨∃c,x=.bool c∧(c==want)=false)∨∃c,x=.bool c∧(c==want)=true:=by
      intro x hx;rw[hx]at e1;unfold A.guard at e1;split at e1
      ·rename_i c;cases hc:(c==want)
       ·exact .inl (.inr ⟨c,rfl,hc⟩)
       ·exact .inr ⟨c,rfl,hc⟩
      ·exact .inl (.inl rfl)
      ·cases e1
     rcases key _ rfl with hno|⟨c,hc,JS⟩
     ·have hG:∀(R':Type)(x:Option R')(y:Option R'),A.guard (s.sl.getD d .undef) want x y=y:=by
       intro R' x y;rcases hno with hh|⟨c,hh,JS⟩
       ·rw[hh];rfl
       ·rw[hh];simp only[A.guard,JS,aV]
      rw[hG]at e1;injection e1 with e1
      subst e1
      have EZ:oX o=false∧sO Bt o=false:=by
       unfold Ah at nO;split at nO
       ·rename_i c ho;exact⟨by simp only[oX,ho],by simp only[sO,ho]⟩
       ·cases nO
      refine⟨wX X o.dst (.aD []),IJ _ hR (λha=>by rw[EZ.1]at ha;cases ha) (λha=>by rw[EZ.2]at ha;cases ha),by rw[←Ab];exact e2,λR' k' s' ha=>?_⟩;have a:=ha _ wu;have iA:=a.dP d lS JU;unfold jI;rw[hg];simp only[hd,hb,aV,nO];rw[←iA,hG,aM,←Ab];rfl
     ·have hG:∀(R':Type)(x:Option R')(y:Option R'),A.guard (s.sl.getD d .undef) want x y=x:=by intro R' x y;rw[hc];simp only[A.guard,JS,bA]
      have hA:eC X true o s k=some r:=by rw[HD nO];rw[hG]at h;exact h
      obtain⟨u,h1,h2,h3⟩:=OU (ls:=o.looksAt ops) hR hI (λt ht=>Bu ht) hA;refine⟨u,h1,h2,λR' k' s' ha=>?_⟩;have a:=ha _ wu;have iA:=a.dP d lS JU;rw[←h3 R' k' s' (ha none (λg w e=>by cases e)),HD nO];unfold jI;rw[hg];simp only[hd,hb,aV,nO];rw[←iA,hG]
    |none=>
    rw[nO]at h;simp only at h;have wq:∀(s':AS),RI X Rt Bt s'→∀x b off,kT o=some x→place X s' (some (d,want)) x=some (b,off)→rt X Rt o=some b:=λs' hi x b off hx hp=>by simp only[rt,hx];exact Et hi hp
    have Ap:∀(s':AS),RI X Rt Bt s'→∀x b,kT o=some x→rt X Rt o=some b→place X s' (some (d,want)) x=none→jj (ev X s' x)=true:=λs' hi x b hx hr hp=>by simp only[rt,hx]at hr;exact zO hi hr hp
    have hP:∀s',Aw X Rt Bt ops o s s'→gE X o s' (some (d,want))=gE X o s (some (d,want)):=λs' ha=>by have a:=ha _ wu;exact(Hu (a.wF λt ht=>Bu ht) a.vn a.bx (wq s' a.r2)).symm
    cases hp:gE X o s (some (d,want))with
    |some p=>obtain⟨b,rr⟩:=p;rw[hp]at h;simp only at h;obtain⟨off,e1,e2⟩:=jt h;subst e1;refine⟨AL X o.dst b off (some (d,want)),O5 hR (Oc hp) (OX hI hp) (OW hp) wu,by rw[←EM];exact e2,λR' k' s' ha=>?_⟩;unfold jI;rw[hg];simp only[hd,hb,aV,nO,hP s' ha,hp,aM];rw[EM]
    |none=>
     rw[hp]at h;simp only at h;obtain⟨v,e1,e2⟩:=jt h
     have hv:oX o=true→∀b,rt X Rt o=some b→jj v=true:=by
      intro ha b hr;unfold A.guard at e1;split at e1
      ·rename_i c _;cases hc:(c==want)
       ·rw[hc]at e1;simp only[aV,Option.some.injEq]at e1;subst e1;rfl
       ·rw[hc]at e1;exact(Od hI ha hr hp e1).elim
      ·simp only[Option.some.injEq]at e1;subst e1;rfl
      ·cases e1
     have J8:sO Bt o=true→lE v=true:=by
      intro hc;unfold A.guard at e1;split at e1
      ·rename_i c _;cases mX:(c==want)
       ·rw[mX]at e1;simp only[aV,Option.some.injEq]at e1;subst e1;rfl
       ·rw[mX]at e1;exact MN hI.Ay hc e1
      ·simp only[Option.some.injEq]at e1;subst e1;rfl
      ·cases e1
     refine⟨wX X o.dst v,IJ v hR hv J8,by rw[←Ab];exact e2,λR' k' s' ha=>?_⟩;have a:=ha _ wu;have hV:dQ X o s' (some (d,want))=dQ X o s (some (d,want)):=(Ea (a.wF λt ht=>Bu ht) a.vn a.bx (wq s' a.r2) (Ap s' a.r2) a.σ a.Dn a.r2.Ay).symm;have iA:=a.dP d lS JU;unfold jI;rw[hg];simp only[hd,hb,aV,nO,hP s' ha,hp,hV,←iA,e1,aM];rw[Ab]
   ·rw[hb]at h;cases h
structure tG (X : Fx) (Rt : List (Nat × Nat)) (Bt : List Nat) (ops : Array Oper) (x y : Oper) : Prop where
 dx:∀d,x.dst=some d→d∉y.looksAt ops
 dd:∀d,x.dst=some d→y.dst≠some d
 dy:∀d,y.dst=some d→d∉x.looksAt ops
 c1:sZ X Rt Bt x y=false
 c2:sZ X Rt Bt y x=false
theorem tG.symm{x y:Oper}(h:tG X Rt Bt ops x y):tG X Rt Bt ops y x:=⟨h.dy,λd hd e=>h.dd d e hd,h.dx,h.c2,h.c1⟩
theorem VB{x y:Oper}(h:indep X Rt Bt ops x y=true):tG X Rt Bt ops x y:=by simp only[indep,eN,Bool.not_eq_true']at h;obtain⟨⟨h1,h2⟩,h3⟩:=h;obtain⟨a1,a2,a3⟩:=Oper.apart_spec h1;exact⟨a1,a2,a3,h2,h3⟩
theorem NQ{x y:Oper}(h:sZ X Rt Bt x y=false){b:Nat}(hb:wb X Rt x=some b):rt X Rt y≠some b:=by unfold sZ at h;simp only[jY]at h;have:=h.1.1;rw[hb]at this;simpa using this
theorem Ez{x y:Oper}(h:sZ X Rt Bt x y=false){d:Nat}(hd:x.dst=some d)(hL:X.L.contains d=true):rt X Rt y≠some d:=by unfold sZ at h;simp only[jY]at h;have:=h.1.2;rw[hd]at this;simp only[hL,Bool.true_and]at this;simpa using this
theorem EA{x y:Oper}(h:sZ X Rt Bt x y=false)(hw:mF X Rt x=true):(pX X Rt y=false∨(soft Bt y=true∧wG x=true))∧mF X Rt y=false:=by
 unfold sZ at h;simp only[jY]at h;have:=h.2;rw[hw]at this;simp only[Bool.true_and,jY]at this;refine⟨?_,this.2⟩;cases hr:pX X Rt y
 ·exact .inl rfl
 ·have h2:=this.1;rw[hr,Bool.true_and,Bool.not_eq_false']at h2;exact .inr (by simpa using h2)
theorem X3{x:Oper}{a:Operand}(h:kT x=some a):a∈x.op.operands.toList:=by obtain⟨dst,op,ty,pos,af,g⟩:=x;cases op<;>simp only[kT]at h<;>first|(cases h;done)|(injection h with h;subst h;simp [Op.operands])
theorem ZZ(h:RI X Rt Bt s){x:Oper}{b:Nat}(hr:rt X Rt x=some b)(hL:X.L.contains b=false):False:=by
 unfold rt at hr;split at hr
 ·rename_i a _;cases a with
  |tmp t=>
   simp only[tP]at hr;cases hc:X.L.contains t
   ·rw[hc]at hr;have:=h.l t b hr;rw[hL]at this;cases this
   ·rw[hc]at hr;simp only[bA,Option.some.injEq]at hr;subst hr;rw[hL]at hc;cases hc
  |_=>simp [tP]at hr
 ·cases hr
theorem PJ{x:Oper}{b:Nat}(h:wb X Rt x=some b):rt X Rt x=some b:=by
 unfold wb at h;split at h
 ·exact h
 ·cases h
theorem Po{τ:Heap}{x y:Oper}(h:tG X Rt Bt ops x y){u:Up}(hu:pe X Rt Bt y (y.looksAt ops) τ u)(s:AS)(hs:RI X Rt Bt s)(hτ:u.σ≠none→mM s.σ τ):Aw X Rt Bt ops x s (u.ap s):=by
 intro tag ht;have hnd:∀t,t∈x.looksAt ops→u.d≠some t:=λt ht e=>by rw[hu.d]at e;exact h.dy t e ht
 refine⟨hs,hu.ri hs,λt J6 hL=>?_,λt Q4=>?_,λb hb=>?_,λhr yR=>?_,λhr yR=>?_⟩
 ·exact(IY (hnd t J6) (λb v hb e=>by have:=(hu.bx b v hb).1;rw[←e,hL]at this;cases this)).symm
 ·have J6:t∈x.looksAt ops:=Bu (X3 Q4);simp only[place];cases hL:X.L.contains t
  ·simp only[aV];show _=match u.A s.A t with|some p=>_|none=>none
   unfold Up.A;cases hd:u.d with
   |none=>rfl
   |some d=>
    have htd:(t==d)=false:=by simp only[beq_eq_false_iff_ne];intro e;exact hnd t J6 (by rw[hd,e])
    simp only[htd,aV];cases hA:s.A t with
    |none=>rfl
    |some p=>
     have vf:tP X Rt (.tmp t)=some p.slot:=by simp only[tP,hL,aV];exact hs.a t p hA
     have hf:mg u.qU d (some p)=lu d (some p):=by
      cases hi:u.qU with
      |false=>exact Bj d _
      |true=>
       obtain⟨d',hd',hL'⟩:=hu.box hi;have oJ:d'=d:=by rw[hu.d]at hd;rw[hd]at hd';injection hd' with e;exact e.symm
       subst oJ;unfold mg;cases hk:lu d' (some p)with
       |none=>rfl
       |some q=>
        have hqs:q=p:=by
         simp only[lu]at hk;cases yS:p.tag with
         |none=>rw[yS]at hk;simpa using hk.symm
         |some g=>
          obtain⟨g,w⟩:=g;rw[yS]at hk;simp only at hk;cases hg:(g==d')
          ·rw[hg]at hk;simpa using hk.symm
          ·rw[hg]at hk;cases hk
        subst hqs
        have hne:(q.slot==d')=false:=by
         rw[beq_eq_false_iff_ne];intro e;have:rt X Rt x=some q.slot:=by simp only[rt,Q4];exact vf
         exact Ez h.c2 hd' hL' (by rw[this,e])
        simp only[hne,Bool.and_false,aV]
     rw[hf];simp only[lu];cases yS:p.tag with
     |none=>simp only[yS]
     |some gw=>
      obtain⟨g,w⟩:=gw;simp only;cases hgd:(g==d)
      ·simp only[aV,yS]
      ·simp only[bA];have ZC:g=d:=by simpa using hgd
       have:(tag==some (g,w))=false:=by rw[beq_eq_false_iff_ne];intro e;exact hnd g (ht g w e) (by rw[hd,ZC])
       rw[this];cases X.L.contains p.slot<;>rfl
  ·rfl
 ·refine(IY (λe=>?_) (λb' v hb' e=>?_)).symm
  ·rw[hu.d]at e
   have hLb:X.L.contains b=true:=by
    cases hc:X.L.contains b with
    |true=>rfl
    |false=>exfalso;exact ZZ hs hb hc
   exact Ez h.c2 e hLb hb
  ·exact NQ h.c2 (hu.bx b' v hb').2 (by rw[←e];exact hb)
 ·show s.σ=u.σ.getD s.σ;cases hs':u.σ with
  |none=>rfl
  |some σ=>
   rcases(EA h.c2 (hu.σ (by rw[hs'];intro e;cases e))).1 with this|⟨this,_⟩
   ·rw[hr]at this;cases this
   ·rw[yR]at this;cases this
 ·show mM s.σ (u.σ.getD s.σ);cases hs':u.σ with
  |none=>exact xm _
  |some σ=>
   rcases(EA h.c2 (hu.σ (by rw[hs'];intro e;cases e))).1 with this|⟨_,hf⟩
   ·rw[hr]at this;cases this
   ·exact λid cs=>(hτ (by rw[hs'];intro e;cases e) id cs).trans (hu.fr hf σ hs' id cs)
theorem WD{τ Dp:Heap}{x y:Oper}(h:tG X Rt Bt ops x y){u v:Up}(hu:pe X Rt Bt x (x.looksAt ops) τ u)(hv:pe X Rt Bt y (y.looksAt ops) Dp v):u.O8 v:=by
 have half:∀{τ Dp:Heap}{x y:Oper}{u v:Up},tG X Rt Bt ops x y→pe X Rt Bt x (x.looksAt ops) τ u→pe X Rt Bt y (y.looksAt ops) Dp v→(∀b a,u.bx=some (b,a)→(∀c a',v.bx=some (c,a')→c≠b)∧v.d≠some b)∧(∀d,v.d=some d→mg v.qU d u.new=u.new):=by
  intro τ Dp x y u v h hu hv;refine⟨λb a hb=>?_,λd hd=>?_⟩
  ·obtain⟨k1,k2⟩:=hu.bx b a hb;refine⟨λc a' hc e=>?_,λe=>?_⟩
   ·have:=(hv.bx c a' hc).2;subst e;exact NQ h.c1 k2 (PJ this)
   ·rw[hv.d]at e;exact Ez h.c2 e k1 (PJ k2)
  ·cases hn:u.new with
   |none=>rfl
   |some p=>
    obtain⟨k1,k2,k3,k4⟩:=hu.new p hn
    have hkt:lu d (some p)=some p:=by
     simp only[lu];cases yS:p.tag with
     |none=>rfl
     |some gw=>
      obtain⟨g,w⟩:=gw;simp only
      have:(g==d)=false:=by rw[beq_eq_false_iff_ne];intro e;rw[hv.d]at hd;exact h.dy d hd (e▸k2 g w yS)
      rw[this];rfl
    unfold mg;rw[hkt];simp only;cases hi:v.qU with
    |false=>rfl
    |true=>
     obtain⟨d',hd',hL'⟩:=hv.box hi;have oJ:d'=d:=by rw[hv.d]at hd;rw[hd]at hd';injection hd' with e;exact e.symm
     subst oJ
     have:(p.slot==d')=false:=by rw[beq_eq_false_iff_ne];intro e;exact Ez h.c2 hd' hL' (by rw[k3,e])
     simp only[this,Bool.and_false,aV]
 obtain⟨a1,a2⟩:=half h hu hv;obtain⟨b1,b2⟩:=half h.symm hv hu;refine⟨λd hd e=>?_,a1,b1,a2,b2,?_⟩
 ·rw[hu.d]at hd;rw[hv.d]at e;exact h.dd d hd e
 ·cases hs:u.σ with
  |none=>exact .inl rfl
  |some σ=>
   right;have hw:=hu.σ (by rw[hs];intro e;cases e);have Ra:=(EA h.c1 hw).2;cases oK:v.σ with
   |none=>rfl
   |some σ2=>rw[hv.σ (by rw[oK];intro e;cases e)]at Ra;cases Ra
theorem MO{o:Oper}{k:AS→Option R}{r:R}(ho:pI X Rt Bt o):∀(l1 l2:List Oper)(s:AS),RI X Rt Bt s→(∀y∈l1,pI X Rt Bt y)→(∀y∈l1,tG X Rt Bt ops y o)→oG X true ops (l1++o::l2) s k=some r→jI X true ops o s (λs1=>oG X true ops (l1++l2) s1 k)=some r
 |[],l2,s,_,_,_,h=>h
 |y::l1,l2,s,hs,hr,hi,h=>by
  simp only[nr,oG]at h;obtain⟨u,u1,u2,u3⟩:=Iz (hr y (by simp)) hs h;have ih:=MO ho l1 l2 (u.ap s) (u1.ri hs) (λz hz=>hr z (by simp [hz])) (λz hz=>hi z (by simp [hz])) u2;obtain⟨v,v1,v2,v3⟩:=Iz ho (u1.ri hs) ih;have hy:=hi y (by simp)
  have hbe:v.σ≠none→mM s.σ (u.ap s).σ:=λhv=>by
   have hnu:u.σ=none:=by
    cases hu:u.σ with
    |none=>rfl
    |some σ=>have hw:=(EA hy.c1 (u1.σ (by rw[hu];intro e;cases e))).2;rw[v1.σ hv]at hw;cases hw
   show mM s.σ (u.σ.getD s.σ);rw[hnu];exact xm _
  rw[v3 R _ s (Po hy.symm u1 s hs (λ_=>xm _)).symm];simp only[nr,oG];rw[u3 R _ (v.ap s) (Po hy v1 s hs hbe),Up.comm (WD hy u1 v1)];exact v2
def Down(ops:Array Oper)(S:Nat→Prop):Prop:=∀i o e,S i→ops[i]? =some o→e∈o.after→Region.binds .any e=true→S e.on
def E9(ops:Array Oper)(i:Nat)(S:Nat→Prop):Prop:=∀o e,ops[i]? =some o→e∈o.after→Region.binds .any e=true→S e.on
theorem Np(acc:List Nat):∀(es:List Edge)(m j:Nat),(es.foldl (λs e=>bif Region.binds .any e then s ||| 2 ^ e.on ||| acc.getD e.on 0 else s) m).testBit j=true→
  m.testBit j=true∨∃e∈es,Region.binds .any e=true∧(e.on=j∨(acc.getD e.on 0).testBit j=true)
 |[],m,j,h=>.inl h
 |e::es,m,j,h=>by
  simp only[List.foldl_cons]at h;rcases Np acc es _ j h with h|⟨e',he',hb,hx⟩
  ·cases hb:Region.binds .any e
   ·rw[hb]at h;exact .inl h
   ·rw[hb]at h;simp only[bA,Nat.testBit_or,Bool.or_eq_true]at h;rcases h with(h|h)|h
    ·exact .inl h
    ·refine .inr ⟨e,by simp,hb,.inl ?_⟩;rw[Nat.testBit_two_pow]at h;simpa using h
    ·exact .inr ⟨e,by simp,hb,.inr h⟩
  ·exact .inr ⟨e',by simp [he'],hb,hx⟩
theorem M8:∀(l:List Oper)(acc:List Nat),(∀i,l[i]? =ops[acc.length+i]?)→
  (∀(m j:Nat),(acc.getD m 0).testBit j=true→∀S,Down ops S→E9 ops m S→S j)→
  ∀(m j:Nat),((EW l acc).getD m 0).testBit j=true→∀S,Down ops S→E9 ops m S→S j
 |[],acc,hl,hacc=>hacc
 |o::l,acc,hl,hacc=>by
  simp only[EW];refine M8 l _ (λi=>by have:=hl (i+1);simp at this;rw[this];simp;congr 1;omega) ?_;intro m j h S hS hD;have h0:=hl 0;simp at h0;by_cases hm:m<acc.length
  ·rw[List.getD,fH hm]at h;exact hacc m j h S hS hD
  ·by_cases hm2:m=acc.length
   ·subst hm2;rw[List.getD,fD (bU _)]at h;simp only[Nat.sub_self,List.getElem?_cons_zero,Option.getD_some]at h;rcases Np acc _ _ j h with h|⟨e,he,hb,hx⟩
    ·simp at h
    ·have AG:S e.on:=hD o e h0.symm (by simpa using he) hb;rcases hx with hx|hx
     ·exact hx▸AG
     ·exact hacc e.on j hx S hS (λo' e' ho' he' hb'=>hS e.on o' e' AG ho' he' hb')
   ·rw[List.getD,fD (by omega),kN (by simp;omega)]at h;simp at h
theorem Mb{Cr:List Nat}:∀(l:List Oper)(i:Nat),(∀j,l[j]? =ops[i+j]?)→EG X Rt Bt ops Cr l i=true→∀n o,i≤n→ops[n]? =some o→∀m y,m<n→ops[m]? =some y→(Cr.getD n 0).testBit m=true∨indep X Rt Bt ops y o=true
 |[],i,hl,_,n,o,hn,ho,m,y,hm,hy=>by have:=hl (n-i);rw[show i+(n-i)=n by omega,ho]at this;simp at this
 |x::l,i,hl,h,n,o,hn,ho,m,y,hm,hy=>by
  simp only[EG,eN]at h;by_cases hni:n=i
  ·subst hni;have h0:=hl 0;simp at h0;rw[ho]at h0;injection h0 with h0;subst h0
   have:=ow.1 h.1 (y,m) (by
    rw[List.mem_zipIdx_iff_getElem?];simp only;rw[List.getElem?_take_of_lt hm,Array.getElem?_toList]
    exact hy)
   simpa using this
  ·exact Mb l (i+1) (λj=>by have:=hl (j+1);simp at this;rw[this];congr 1;omega) h.2 n o (by omega) ho m y hm hy
theorem Mr:∀(l:List Oper)(i:Nat),(∀j,l[j]? =ops[i+j]?)→EN l i=true→∀n o e,i≤n→ops[n]? =some o→e∈o.after→Region.binds .any e=true→e.on<n
 |[],i,hl,_,n,o,e,hn,ho,he,hb=>by have:=hl (n-i);rw[show i+(n-i)=n by omega,ho]at this;simp at this
 |x::l,i,hl,h,n,o,e,hn,ho,he,hb=>by
  simp only[EN,eN]at h;by_cases hni:n=i
  ·subst hni;have h0:=hl 0;simp at h0;rw[ho]at h0;injection h0 with h0;subst h0
   have:=ow.1 h.1 e (by simpa using he);rw[hb]at this;simpa [Nat.blt_eq]using this
  ·exact Mr l (i+1) (λj=>by have:=hl (j+1);simp at this;rw[this];congr 1;omega) h.2 n o e (by omega) ho he hb
def mR(listed:Array Bool)(n:Nat):List Nat:=(List.range n).filter λi=>!listed.getD i true
def uI(ops:Array Oper)(listed:Array Bool):List Oper:=(mR listed ops.size).filterMap (ops[·]?)
theorem U1{listed:Array Bool}{n i:Nat}(hi:i<n)(hl:listed.getD i true=false)(hs:listed.size=n):
  ∃l1 l2,mR listed n=l1++i::l2∧mR (listed.setIfInBounds i true) n=l1++l2∧∀j∈l1,j<i∧listed.getD j true=false:=by
 refine⟨(List.range i).filter λj=>!listed.getD j true,((List.range' (i+1) (n-i-1))).filter λj=>!listed.getD j true,?_,?_,λj hj=>?_⟩
 ·unfold mR
  rw[show List.range n=List.range i++i::List.range' (i+1) (n-i-1) by
   rw[List.range_eq_range',List.range_eq_range',←List.range'_succ,show n-i-1+1=n-i by omega];have:=List.range'_append_1 (s:=0) (m:=i) (n:=n-i);rw[show 0+i=i by omega,show i+(n-i)=n by omega]at this
   exact this.symm]
  rw[List.filter_append,List.filter_cons,hl];simp
 ·unfold mR
  rw[show List.range n=List.range i++i::List.range' (i+1) (n-i-1) by
   rw[List.range_eq_range',List.range_eq_range',←List.range'_succ,show n-i-1+1=n-i by omega];have:=List.range'_append_1 (s:=0) (m:=i) (n:=n-i);rw[show 0+i=i by omega,show i+(n-i)=n by omega]at this
   exact this.symm]
  rw[List.filter_append,List.filter_cons];have nB:(listed.setIfInBounds i true).getD i true=true:=by simp [Array.getD,hs,hi]
  rw[nB];simp only[Bool.not_true,Bool.false_eq_true,if_false];congr 1
  ·apply List.filter_congr;intro j hj;have:j<i:=by simpa using hj
   rw[kM,kM,Array.getElem?_setIfInBounds_ne (by omega)]
  ·apply List.filter_congr;intro j hj;have:i<j:=by simp at hj;omega
   rw[kM,kM,Array.getElem?_setIfInBounds_ne (by omega)]
 ·rw[List.mem_filter]at hj;exact⟨by simpa using hj.1,by simpa using hj.2⟩
end
end
section
open Go.RowKit
section
variable {X : Fx} {z : Z} {s : AS} {a : Act} {w w' : World} {E : List Pl} {pb : Nat → Option Nat} {R : Type}
theorem Ew(h:St X z s a w E pb){d:Nat}{av:AV}(yJ:s.sl.getD d .undef=av)(h1:av≠.undef)(h2:∀cs,av≠.lbx cs):∃v,a.tmps[d]? =some v∧a.tmps.getD d undef=v∧ak (ctx z w E pb) av v:=by
 by_cases hd:d<s.sl.length
 ·have e:s.sl[d]? =some av:=by rw[cu hd];rw[←yJ];simp [List.getD,hd]
  have r:=(h.slot d av e).rep h2;have hd':d<a.tmps.size:=by rw[h.len];exact hd
  exact⟨a.tmps.getD d undef,by simp [Array.getD,hd'],rfl,r⟩
 ·exact absurd (by rw[←yJ];simp [List.getD,Nat.le_of_not_lt hd]) h1
theorem Yy(hs:cR X)(h:St X z s a w E pb){q:Bool}{ops:Array Oper}{i:Nat}{o:Oper}(hi:ops[i]? =some o){k:AS→Option R}{r:R}(hk:jI X q ops o s k=some r){K:Act→World→Prop}{Q:Exit→Act→World→Prop}
  (hK:∀s' a' w' E' bB,St X z s' a' w' E' bB→k s'=some r→K a' w'):wpOp X.P ops Q i K a w:=by
 unfold wpOp;rw[hi];simp only;unfold jI at hk;cases hg:o.guard with
 |none=>rw[hg]at hk;rw[aP (by simp [Region.wanted,hg])];exact .inl (OV hs h hk hK)
 |some jw=>
  obtain⟨j,want⟩:=jw;rw[hg]at hk;simp only at hk;cases hd:(ops[j]?).bind (·.dst)with
  |none=>rw[hd]at hk;cases hk
  |some d=>
   rw[hd]at hk;simp only at hk;cases hL:Bs X o d
   ·rw[hL]at hk;simp only[aV]at hk;have vX:Region.wanted o (yielded ops a.tmps)=(yielded ops a.tmps j==some want):=by simp [Region.wanted,hg]
    have hy:yielded ops a.tmps j=match a.tmps[d]? with|some (.bool b)=>some b|_=>none:=by simp only[yielded,hd,aM];rfl
    cases nO:Ah X o with
    |some fa=>
     obtain⟨f,as'⟩:=fa;rw[nO]at hk;simp only at hk;obtain⟨rv,e1,e2⟩:=bk.1 hk;generalize iA:s.sl.getD d .undef=gv at e1;cases gv<;>simp only[A.guard]at e1<;>first|(cases e1;done)|skip
     case bool b=>
      obtain⟨v,v1,v2,v3⟩:=Ew h iA (by intro e;cases e) (by intro cs e;cases e);simp only[ak]at v3;subst v3;cases rN:(b==want)
      ·rw[rN]at e1;simp only[aV]at e1;injection e1 with e1;subst e1
       have hw:¬Region.wanted o (yielded ops a.tmps)=true:=by rw[vX,hy,v1];simp at rN ⊢;exact rN
       rw[aQ hw];exact hK _ _ _ _ _ (h.undef o.dst) e2
      ·rw[rN]at e1;simp only[bA]at e1;have Fh:b=want:=by simpa using rN
       have hw:Region.wanted o (yielded ops a.tmps)=true:=by rw[vX,hy,v1];simp [Fh]
       rw[aP hw];exact .inl (OV (q:=q) hs h (by rw[HD nO,e1];exact e2) hK)
     case aD vs=>
      cases vs with
      |cons x xs=>cases e1
      |nil=>
       injection e1 with e1;subst e1
       obtain⟨v,v1,v2,v3⟩:=Ew h iA (by intro e;cases e) (by intro cs e;cases e);simp only[ak]at v3;obtain⟨us,rfl,_⟩:=v3;have hw:¬Region.wanted o (yielded ops a.tmps)=true:=by rw[vX,hy,v1];simp
       rw[aQ hw];exact hK _ _ _ _ _ (h.undef o.dst) e2
    |none=>
    rw[nO]at hk;simp only at hk;cases hp:gE X o s (some (d,want))with
    |some p=>
     obtain⟨b,rr⟩:=p;rw[hp]at hk;simp only at hk;obtain⟨off,e1,e2⟩:=bk.1 hk;subst e1;by_cases hw:Region.wanted o (yielded ops a.tmps)=true
     ·rw[aP hw]
      have ht:mN a (some (d,want)):=by
       rw[vX,hy]at hw;simp only[mN];split at hw
       ·rename_i b' hb';simp at hw;subst hw;rw[kM,hb'];rfl
       ·simp at hw
      obtain⟨n,k1,k2⟩:=OY h ht hp;exact .inl (mK k2 (hK _ _ _ _ _ (h.I5 o.dst (λ_=>⟨n,k1,rfl⟩)) e2))
     ·rw[aQ hw];refine hK _ _ _ _ _ (h.I5 o.dst (λht=>absurd ?_ hw)) e2;rw[vX,hy];simp only[mN]at ht;rw[kM]at ht;cases hc:a.tmps[d]? with
      |none=>rw[hc]at ht;simp [undef]at ht
      |some v=>rw[hc]at ht;simp at ht;subst ht;simp
    |none=>
     rw[hp]at hk;simp only at hk;obtain⟨av,e1,e2⟩:=bk.1 hk;generalize iA:s.sl.getD d .undef=gv at e1;cases gv<;>simp only[A.guard]at e1<;>first|(cases e1;done)|skip
     case bool b=>
      obtain⟨v,v1,v2,v3⟩:=Ew h iA (by intro e;cases e) (by intro cs e;cases e);simp only[ak]at v3;subst v3;cases rN:(b==want)
      ·rw[rN]at e1;simp only[aV]at e1;injection e1 with e1;subst e1
       have hw:¬Region.wanted o (yielded ops a.tmps)=true:=by rw[vX,hy,v1];simp at rN ⊢;exact rN
       rw[aQ hw];exact hK _ _ _ _ _ (h.undef o.dst) e2
      ·rw[rN]at e1;simp only[bA]at e1;have Fh:b=want:=by simpa using rN
       have hw:Region.wanted o (yielded ops a.tmps)=true:=by rw[vX,hy,v1];simp [Fh]
       rw[aP hw];have ht:mN a (some (d,want)):=by simp only[mN];rw[v2,Fh]
       exact .inl (OZ hs h ht e1 λv w' E' h3 h4=>hK _ _ _ _ _ (h3.put o.dst h4) e2)
     case aD vs=>
      cases vs with
      |cons x xs=>cases e1
      |nil=>
       injection e1 with e1;subst e1
       obtain⟨v,v1,v2,v3⟩:=Ew h iA (by intro e;cases e) (by intro cs e;cases e);simp only[ak]at v3;obtain⟨us,rfl,_⟩:=v3;have hw:¬Region.wanted o (yielded ops a.tmps)=true:=by rw[vX,hy,v1];simp
       rw[aQ hw];exact hK _ _ _ _ _ (h.undef o.dst) e2
   ·rw[hL]at hk;cases hk
def Fr(X:Fx)(ds:List Nat)(s s':AS):Prop:=∀i,i∉ds→X.L.contains i=false→s'.sl[i]? =s.sl[i]?
theorem Fr.refl(ds:List Nat)(s:AS):Fr X ds s s:=λ_ _ _=>rfl
theorem Fr.trans{d1 d2:List Nat}{s s' s'':AS}(h:Fr X d1 s s')(k:Fr X d2 s' s''):Fr X (d1++d2) s s'':=λi hi hL=>by rw[ew]at hi;exact(k i (λe=>hi (.inr e)) hL).trans (h i (λe=>hi (.inl e)) hL)
theorem Fr.mono{d1 d2:List Nat}{s s':AS}(h:Fr X d1 s s')(k:∀i∈d1,i∈d2):Fr X d2 s s':=λi hi hL=>h i (λe=>hi (k i e)) hL
theorem Fr.put(d:Option Nat)(v:AV)(s:AS):Fr X d.toList s (s.put X d v):=λi hi hL=>by
 cases d with
 |none=>rfl
 |some d=>simp only[AS.put];rw[fO,aQ];intro e;subst e;simp at hi
theorem Fr.jD(d:Option Nat)(b off:Nat)(tag:Option (Nat×Bool))(s:AS):Fr X d.toList s (s.jD X d b off tag):=λi hi hL=>by
 cases d with
 |none=>rfl
 |some d=>simp only[AS.jD];rw[fO,aQ];intro e;subst e;simp at hi
theorem Fr.lB(d:Nat)(cs:List AV)(s:AS):Fr X [d] s (s.lB d cs):=λi hi hL=>by simp only[AS.lB];rw[fO,aQ];intro e;subst e;simp at hi
theorem Fr.lZ(d:Option Nat)(v:AV)(σ:Heap)(s:AS):Fr X d.toList s ((s.heap σ).put X d v):=λi hi hL=>by
 cases d with
 |none=>rfl
 |some d=>simp only[AS.put,AS.heap];rw[fO,aQ];intro e;subst e;simp at hi
theorem Fr.X5(d:Option Nat)(v:AV)(b:Nat)(cs:List AV)(hb:X.L.contains b=true)(s:AS):Fr X d.toList s ((⟨s.sl.set b (.lbx cs),s.A,s.σ⟩:AS).put X d v):=λi hi hL=>by
 have Q5:b≠i:=λe=>by rw[e,hL]at hb;cases hb
 cases d with
 |none=>simp only[AS.put];rw[fO,aQ Q5]
 |some d=>simp only[AS.put];rw[fO,aQ,fO,aQ Q5];intro e;subst e;simp at hi
theorem XB{tag:Option (Nat×Bool)}{x:Operand}{b off:Nat}(h:place X s tag x=some (b,off)):X.L.contains b=true:=by
 cases x with
 |tmp t=>
  simp only[place]at h;cases hL:X.L.contains t
  ·rw[hL]at h;simp only[aV]at h;split at h
   ·rename_i p hA;cases hp:X.L.contains p.slot
    ·rw[hp]at h;cases h
    ·rw[hp]at h;simp only[bA]at h;split at h
     ·simp only[Option.some.injEq,Prod.mk.injEq]at h;rw[←h.1];exact hp
     ·rename_i g hg;cases ht:(tag==some g)
      ·rw[ht]at h;cases h
      ·rw[ht]at h;simp only[bA,Option.some.injEq,Prod.mk.injEq]at h;rw[←h.1];exact hp
   ·cases h
  ·rw[hL]at h;simp only[bA,Option.some.injEq,Prod.mk.injEq]at h;rw[←h.1];exact hL
 |_=>simp [place]at h
theorem bind_congr{α β:Type}{x:Option α}{f g:α→Option β}(h:∀a,x=some a→f a=g a):x.bind f=x.bind g:=by cases x with|none=>rfl|some a=>exact h a rfl
theorem UI{x:AV}{σ:Heap}{f g:Nat→Heap→Option R}(h:∀n σ,f n σ=g n σ):A.qw x σ f=A.qw x σ g:=by
 have:f=g:=funext λn=>funext λσ=>h n σ
 rw[this]
theorem Um{x:AV}{σ:Heap}{f g:AV→Heap→Option R}(h:∀v σ,f v σ=g v σ):A.vY x σ f=A.vY x σ g:=by
 have:f=g:=funext λn=>funext λσ=>h n σ
 rw[this]
theorem UT{q str:Bool}{i:Operand}{dst:Option Nat}{k k2:AS→Option R}(h:∀s',Fr X dst.toList s s'→k s'=k2 s'):
  (bif q||str then none else A.vY (ev X s i) s.σ λv σ=>k ((s.heap σ).put X dst v))=(bif q||str then none else A.vY (ev X s i) s.σ λv σ=>k2 ((s.heap σ).put X dst v)):=by
 cases(q||str)
 ·simp only[aV];exact Um λ_ _=>h _ (Fr.lZ _ _ _ _)
 ·rfl
theorem VI{q:Bool}{o:Oper}{k k2:AS→Option R}(h:∀s',Fr X o.dst.toList s s'→k s'=k2 s'):eC X q o s k=eC X q o s k2:=by
 unfold eC;cases hp:gE X o s none with
 |some p=>obtain⟨b,rr⟩:=p;exact bind_congr λp _=>h _ (Fr.jD _ _ _ _ _)
 |none=>
  simp only;have dflt:((dQ X o s none).bind λv=>k (s.put X o.dst v))=(dQ X o s none).bind λv=>k2 (s.put X o.dst v):=bind_congr λv _=>h _ (Fr.put _ _ _)
  obtain⟨dst,op,ty,pos,af,g⟩:=o;cases op<;>simp only<;>first|exact UT h|exact dflt|skip
  case alloc t=>
   cases dst with
   |none=>rfl
   |some d=>
    simp only;cases X.L.contains d
    ·simp only[aV];cases X.O.contains d
     ·exact dflt
     ·simp only[bA];split
      ·exact h _ (Fr.lZ _ _ _ _)
      ·rfl
    ·simp only[bA];split
     ·exact h _ (Fr.lB _ _ _)
     ·rfl
  case box t x=>
   cases dst with
   |none=>rfl
   |some d=>
    simp only;cases X.L.contains d
    ·simp only[aV];cases X.O.contains d
     ·exact dflt
     ·exact bind_congr λcs _=>h _ (Fr.lZ _ _ _ _)
    ·exact bind_congr λcs _=>h _ (Fr.lB _ _ _)
  case store t x v=>
   split
   ·rename_i b off hpl;exact bind_congr λ_ _=>bind_congr λ_ _=>bind_congr λ_ _=>h _ (Fr.X5 _ _ _ _ (XB hpl) _)
   ·exact bind_congr λ_ _=>bind_congr λ_ _=>h _ (Fr.lZ _ _ _ _)
  case makeMap t rr=>
   cases rr with
   |none=>exact h _ (Fr.lZ _ _ _ _)
   |some x=>rfl
  case range t x=>
   split
   ·exact bind_congr λ_ _=>h _ (Fr.lZ _ _ _ _)
   ·rfl
  case buildSlice t n ps=>
   cases dst with
   |none=>exact dflt
   |some d=>
    simp only;cases X.O.contains d
    ·exact dflt
    ·simp only[bA];refine bind_congr λv _=>?_
     unfold A.Aq;split
     ·cases(List.length _==0)
      ·exact h _ (Fr.lZ _ _ _ _)
      ·rfl
     ·rfl
  case mapUpdate t m i v=>
   split
   ·split
    ·exact bind_congr λ_ _=>h _ (Fr.lZ _ _ _ _)
    ·rfl
   ·rfl
  case call c=>
   split
   ·split
    ·split
     ·split
      ·cases jV _
       ·exact bind_congr λ_ _=>h _ (Fr.lZ _ _ _ _)
       ·rfl
      ·rfl
     ·split
      ·cases jV _
       ·exact bind_congr λ_ _=>h _ (Fr.lZ _ _ _ _)
       ·rfl
      ·rfl
     ·rfl
    ·rfl
   ·split
    ·split
     ·split
      ·cases jV _
       ·exact bind_congr λ_ _=>h _ (Fr.lZ _ _ _ _)
       ·rfl
      ·rfl
     ·rfl
    ·rfl
   ·cases hv:dQ X _ s none
    ·simp only[A.oz];cases q
     ·simp only[aV];split
      ·split
       ·exact UI λ_ _=>h _ (Fr.lZ _ _ _ _)
       ·rfl
      ·rfl
     ·rfl
    ·exact h _ (Fr.put _ _ _)
   ·split
    ·split
     ·split
      ·cases jV _
       ·exact bind_congr λ_ _=>h _ (Fr.lZ _ _ _ _)
       ·rfl
      ·rfl
     ·rfl
    ·rfl
   ·split
    ·split
     ·split
      ·exact bind_congr λ_ _=>h _ (Fr.lZ _ _ _ _)
      ·rfl
     ·rfl
    ·rfl
   ·exact dflt
   ·cases(q&&!X.W.contains _)
    ·exact bind_congr λ_ _=>h _ (Fr.lZ _ _ _ _)
    ·exact dflt
   ·cases q
    ·exact bind_congr λ_ _=>h _ (Fr.lZ _ _ _ _)
    ·exact dflt
   ·rfl
theorem VJ{q:Bool}{ops:Array Oper}{o:Oper}{k k2:AS→Option R}(h:∀s',Fr X o.dst.toList s s'→k s'=k2 s'):jI X q ops o s k=jI X q ops o s k2:=by
 unfold jI;split
 ·exact VI h
 ·split
  ·cases Bs X o _
   ·simp only[aV];split
    ·exact bind_congr λ_ _=>h _ (Fr.lZ _ _ _ _)
    ·split
     ·exact bind_congr λ_ _=>h _ (Fr.jD _ _ _ _ _)
     ·exact bind_congr λ_ _=>h _ (Fr.put _ _ _)
   ·rfl
  ·rfl
theorem Ob(hs:cR X)(h:St X z s a w E pb){q:Bool}{ops:Array Oper}{i:Nat}{o:Oper}(hi:ops[i]? =some o){k:AS→Option R}{r:R}(hk:jI X q ops o s k=some r){K:Act→World→Prop}{Q:Exit→Act→World→Prop}
  (hK:∀s' a' w' E' bB,St X z s' a' w' E' bB→Fr X o.dst.toList s s'→k s'=some r→K a' w'):wpOp X.P ops Q i K a w:=by
 classical
 have e:jI X q ops o s k=jI X q ops o s (λs'=>if Fr X o.dst.toList s s' then k s' else none):=VJ λs' hf=>by rw[aP hf]
 rw[e]at hk;refine Yy hs h hi hk λs' a' w' E' bB h' hk'=>?_
 split at hk'
 ·exact hK s' a' w' E' bB h' (by assumption) hk'
 ·cases hk'
theorem Oe(hs:cR X){q:Bool}{ops:Array Oper}{Q:Exit→Act→World→Prop}{r:R}{k:AS→Option R}{s0:AS}:
  ∀(l:List Oper)(i:Nat)(s:AS)(a:Act)(w:World)(E:List Pl)(pb:Nat→Option Nat),(∀j,l[j]? =ops[i+j]?)→St X z s a w E pb→oG X q ops l s k=some r→
   (∀s' a' w' E' bB,St X z s' a' w' E' bB→Fr X (l.filterMap (·.dst)) s s'→k s'=some r→Q .normal a' w')→wpOps X.P ops Q (List.range' i l.length) a w
 |[],i,s,a,w,E,pb,_,h,hk,hQ=>by simpa [wpOps]using hQ _ _ _ _ _ h (Fr.refl _ _) hk
 |o::l,i,s,a,w,E,pb,hl,h,hk,hQ=>by
  have h0:=hl 0;simp at h0;simp only[List.length_cons,List.range'_succ];rw[wpOps_cons];refine Ob hs h h0.symm hk λs' a' w' E' bB h' hf hk'=>?_
  refine Oe hs (s0:=s0) l (i+1) s' a' w' E' bB (λj=>by have:=hl (j+1);simp at this;rw[this];congr 1;omega) h' hk' λs2 a2 w2 E2 Kj h2 yM hk2=>hQ s2 a2 w2 E2 Kj h2 ((hf.trans yM).mono ?_) hk2
  intro j hj;rw[List.filterMap_cons];cases hd:o.dst with
  |none=>rw[hd]at hj;simpa using hj
  |some d=>rw[hd]at hj;simpa using hj
theorem Xy(hs:cR X){Rt:List (Nat×Nat)}{Bt:List Nat}(h:St X z s a w E pb)(hI:RI X Rt Bt s){ops:Array Oper}{i:Nat}{o:Oper}(hR:pI X Rt Bt o)(hi:ops[i]? =some o){k:AS→Option R}{r:R}(hk:jI X true ops o s k=some r){K:Act→World→Prop}{Q:Exit→Act→World→Prop}
  (hK:∀s' a' w' E' bB,St X z s' a' w' E' bB→Fr X o.dst.toList s s'→RI X Rt Bt s'→k s'=some r→K a' w'):wpOp X.P ops Q i K a w:=by
 classical
 have e:jI X true ops o s (λs'=>if RI X Rt Bt s' then k s' else none)=some r:=by obtain⟨u,h1,h2,h3⟩:=Iz hR hI hk;rw[h3 R _ s (λtag _=>⟨hI,hI,λ_ _ _=>rfl,λ_ _=>rfl,λ_ _=>rfl,λ_ _=>rfl,λ_ _=>xm _⟩),aP (h1.ri hI)];exact h2
 refine Ob hs h hi e λs' a' w' E' bB h' hf hk'=>?_
 split at hk'
 ·exact hK s' a' w' E' bB h' hf (by assumption) hk'
 ·cases hk'
theorem Wa(hs:cR X){Rt:List (Nat×Nat)}{Bt:List Nat}{ops:Array Oper}{Q:Exit→Act→World→Prop}{r:R}{k:AS→Option R}{s0:AS}(IM:∀n o e,ops[n]? =some o→e∈o.after→Region.binds .any e=true→e.on<n)
  (YX:∀n o m y,ops[n]? =some o→m<n→ops[m]? =some y→(∀S,Down ops S→E9 ops n S→S m)∨tG X Rt Bt ops y o) (Jc:∀(n:Nat)(o:Oper),ops[n]? =some o→pI X Rt Bt o)
  (hQ:∀s' a' w' E' bB,St X z s' a' w' E' bB→Fr X (ops.toList.filterMap (·.dst)) s0 s'→k s'=some r→Q .normal a' w'):
  ∀(fuel:Nat)(listed:Array Bool)(s:AS)(a:Act)(w:World)(E:List Pl)(pb:Nat→Option Nat),listed.size=ops.size→(mR listed ops.size).length≤fuel→Down ops (λi=>listed.getD i true=true)→St X z s a w E pb→RI X Rt Bt s→oG X true ops (uI ops listed) s k=some r→Fr X (ops.toList.filterMap (·.dst)) s0 s→
   wpAny X.P .any ops Q fuel listed a w:=by
 have hnone:∀(listed:Array Bool),mR listed ops.size=[]→Region.ready .any ops listed=[]:=by intro listed h;unfold Region.ready;rw[List.filter_eq_nil_iff];intro i hi hr;simp only[eN]at hr;have:i∈mR listed ops.size:=List.mem_filter.2 ⟨hi,hr.1⟩;rw[h]at this;simp at this
 have hsome:∀(listed:Array Bool),listed.size=ops.size→Region.ready .any ops listed=[]→mR listed ops.size=[]:=by
  intro listed hsz hr;cases ru:mR listed ops.size with
  |nil=>rfl
  |cons i0 tl=>
   exfalso;have hm:i0∈mR listed ops.size:=by rw[ru];simp
   obtain⟨h1,h2⟩:=List.mem_filter.1 hm;have hlt:i0<ops.size:=by simpa using h1
   have Re:(mR listed ops.size).Pairwise (·<·):=List.Pairwise.filter _ List.pairwise_lt_range;rw[ru,List.pairwise_cons]at Re
   have hall:∀j,j<i0→listed.getD j true=true:=by
    intro j hj;cases hc:listed.getD j true with
    |true=>rfl
    |false=>
     have:j∈mR listed ops.size:=List.mem_filter.2 ⟨by simp;omega,by simp [hc]⟩;rw[ru]at this;rcases eu.1 this with e|e
     ·omega
     ·have:=Re.1 j e;omega
   have:i0∈Region.ready .any ops listed:=by
    unfold Region.ready;refine List.mem_filter.2 ⟨h1,?_⟩;rw[eN];refine⟨h2,?_⟩;rw[qW hlt];simp only[eO,Option.getD_some];rw[Array.all_eq_true_iff_forall_mem];intro e he;cases hb:Region.binds .any e with
    |false=>rfl
    |true=>have AG:=IM i0 _ e (qW hlt) he hb;have:=hall e.on AG;rw[kM,qW (by omega)]at this;simp only[Option.getD_some]at this;rw[kM,qW (by omega)];simp [this]
   rw[hr]at this;simp at this
 intro fuel;induction fuel with
 |zero=>intro listed s a w E pb hsz hle hdn h hI hk hf;have ru:mR listed ops.size=[]:=uA (by omega);refine⟨hnone listed ru,hQ s a w E pb h hf ?_⟩;simpa [uI,ru,oG]using hk
 |succ fuel ih=>
  intro listed s a w E pb hsz hle hdn h hI hk hf;refine⟨λhr=>hQ s a w E pb h hf (by simpa [uI,hsome listed hsz hr,oG]using hk),λi hi=>?_⟩;unfold Region.ready at hi;obtain⟨h1,h2⟩:=List.mem_filter.1 hi;rw[eN]at h2;obtain⟨h2,h3⟩:=h2;have hlt:i<ops.size:=by simpa using h1
  have hun:listed.getD i true=false:=by simpa using h2
  have ho:ops[i]? =some ops[i]:=qW hlt
  have Pt:E9 ops i (λj=>listed.getD j true=true):=by intro o e Rb he hb;rw[Rb]at h3;simp only[eO,Option.getD_some]at h3;rw[Array.all_eq_true_iff_forall_mem]at h3;have h4:=h3 e he;rw[hb]at h4;simp only[Bool.not_true,Bool.false_or]at h4;have AG:=IM i o e Rb he hb;rw[kM,qW (by omega)]at h4;simp only[Option.getD_some]at h4;show listed.getD e.on true=true;rw[kM,qW (by omega)];simpa using h4
  obtain⟨l1,l2,e1,e2,e3⟩:=U1 hlt hun hsz
  have ru:uI ops listed=l1.filterMap (ops[·]?)++ops[i]::l2.filterMap (ops[·]?):=by unfold uI;rw[e1,List.filterMap_append,List.filterMap_cons,ho]
  have YZ:uI ops (listed.setIfInBounds i true)=l1.filterMap (ops[·]?)++l2.filterMap (ops[·]?):=by unfold uI;rw[e2,List.filterMap_append]
  rw[ru]at hk
  have ZJ:∀y∈l1.filterMap (ops[·]?),pI X Rt Bt y:=by intro y hy;obtain⟨j,hj,JX⟩:=List.mem_filterMap.1 hy;exact Jc j y JX
  have ZE:∀y∈l1.filterMap (ops[·]?),tG X Rt Bt ops y ops[i]:=by
   intro y hy;obtain⟨j,hj,JX⟩:=List.mem_filterMap.1 hy;obtain⟨j1,j2⟩:=e3 j hj;rcases YX i ops[i] j y ho j1 JX with k1|k1
   ·have:=k1 _ hdn Pt;rw[j2]at this;cases this
   ·exact k1
  have Ye:=MO (Jc i _ ho) _ _ s hI ZJ ZE hk;refine Xy hs h hI (Jc i _ ho) ho Ye λs' a' w' E' bB h' hf' JM hk'=>?_
  rw[←YZ]at hk';refine ih _ s' a' w' E' bB (by simpa using hsz) ?_ ?_ h' JM hk' ((hf.trans hf').mono ?_)
  ·rw[e2];rw[e1]at hle;simp at hle ⊢;omega
  ·intro j o e hj J1 he hb;by_cases hji:j=i
   ·subst hji;have:=Pt o e J1 he hb;show(listed.setIfInBounds j true).getD e.on true=true;have AG:=IM j o e J1 he hb;rw[kM,Array.getElem?_setIfInBounds_ne (by omega),←kM];exact this
   ·have hj':listed.getD j true=true:=by replace hj:(listed.setIfInBounds i true).getD j true=true:=hj;rw[kM,Array.getElem?_setIfInBounds_ne (λe=>hji e.symm),←kM]at hj;exact hj
    have:=hdn j o e hj' J1 he hb;show(listed.setIfInBounds i true).getD e.on true=true;by_cases Q7:e.on=i
    ·rw[Q7];simp [Array.getD,hsz,hlt]
    ·rw[kM,Array.getElem?_setIfInBounds_ne (λe'=>Q7 e'.symm),←kM];exact this
  ·intro d hd;rcases ew.1 hd with hd|hd
   ·exact hd
   ·refine List.mem_filterMap.2 ⟨ops[i],by simp,?_⟩;cases oJ:ops[i].dst with
    |none=>rw[oJ]at hd;simp at hd
    |some d'=>rw[oJ]at hd;simp at hd;rw[hd]
theorem G8{t b:Nat}:∀{l:List (Nat×Nat)},l.lookup t=some b→(t,b)∈l
 |[],h=>by cases h
 |(t',b')::l,h=>by
  simp only[List.lookup]at h;cases hc:(t==t')
  ·rw[hc]at h;exact uB _ (G8 h)
  ·rw[hc]at h;simp only[Option.some.injEq]at h;have:t=t':=by simpa using hc
   subst this;subst h;exact List.mem_cons_self
theorem WX(hs:cR X){ops:Array Oper}{Q:Exit→Act→World→Prop}{r:R}{k:AS→Option R}(hok:Bx X ops s.sl=true)(hA:∀t,s.A t=none)(hQ:∀s' a' w' E' bB,St X z s' a' w' E' bB→Fr X (ops.toList.filterMap (·.dst)) s s'→k s'=some r→Q .normal a' w'){id:Nat}
  (h:St X z s a w E pb) (hk:oG X true ops ops.toList s k=some r):(Code.region id ops true).wp X.P Q a w:=by
 obtain⟨Rt,Bt,hok⟩:∃Rt Bt,Eb X Rt Bt ops s.sl=true:=by
  unfold Bx at hok;rcases Bool.or_eq_true_iff.1 hok with h|h
  ·exact⟨_,_,h⟩
  ·exact⟨_,_,h⟩
 unfold Eb at hok;simp only[eN]at hok;obtain⟨⟨⟨⟨⟨⟨⟨h1,h2⟩,h3⟩,h4⟩,h5⟩,h6⟩,h7⟩,h8⟩:=hok
 have hI:RI X Rt Bt s:=by
  refine⟨λt b hl=>?_,λt p hp=>(by rw[hA t]at hp;cases hp),λt b hl _=>?_,λt ht=>ow.1 h8 t (by simpa using ht)⟩
  ·have:=ow.1 h6 (t,b) (G8 hl);exact this
  ·have:=ow.1 h5 (t,b) (G8 hl);exact this
 have Pw:∀j,ops.toList[j]? =ops[0+j]? :=λj=>by simp
 have ru:mR (Array.replicate ops.size false) ops.size=List.range ops.size:=by
  unfold mR;rw[List.filter_eq_self];intro i hi;have:i<ops.size:=by simpa using hi
  simp [Array.getD,this]
 have Y0:uI ops (Array.replicate ops.size false)=ops.toList:=by
  unfold uI;rw[ru]
  have gen:∀(l pre:List Oper),(List.range' pre.length l.length).filterMap (λi=>(pre++l)[i]?)=l:=by
   intro l;induction l with
   |nil=>intro pre;rfl
   |cons x l ih=>intro pre;simp only[List.length_cons,List.range'_succ,List.filterMap_cons];rw[fD (bU _)];simp only[Nat.sub_self,List.getElem?_cons_zero];have:=ih (pre++[x]);simp only[List.length_append,List.length_cons,List.length_nil,Nat.zero_add,jg,nr,List.nil_append]at this;rw[this]
  have:=gen ops.toList [];rw[List.range_eq_range'];simpa using this
 refine wp_region_any h1 (Wa (s0:=s) hs (λn o e ho he hb=>Mr ops.toList 0 Pw h2 n o e (lH _) ho he hb) (λn o m y ho hm hy=>?_) (λn o ho=>pI.of (ow.1 h4 o (by have:=Array.mem_of_getElem? ho;simpa using this)) (ow.1 h7 o (by have:=Array.mem_of_getElem? ho;simpa using this))) hQ ops.size _ s a _ E pb (by simp) (by rw[ru];simp) ?_ (h.grow (w':=w.drew) ((Below.refl _ _).drew)) hI (by rw[Y0];exact hk) (Fr.refl _ _))
 ·rcases Mb ops.toList 0 Pw h3 n o (lH _) ho m y hm hy with k1|k1
  ·left;exact λS hS hD=>M8 ops.toList [] (λi=>by simp) (λm j h=>by simp at h) n m k1 S hS hD
  ·exact .inr (VB k1)
 ·intro i o e hi ho he hb;have hlt:i<ops.size:=(th.1 ho).1;exfalso;simp [Array.getD,hlt]at hi
theorem St.Kc(h:St X z s a w E pb):St X z ⟨s.sl,λ_=>none,s.σ⟩ a w E pb:=
 ⟨h.len,h.mQ,h.slot,h.box,(λt p hp=>by cases hp),h.priv,h.inj,h.heap,h.defers,h.out,h.nm⟩
def AX.to:AX→Exit
 |.normal=>.normal
 |.exit i=>.exit i
 |.ret=>.ret
theorem DM:∀(ds:List Nat)(sl:List AV)(i:Nat),(qQ sl ds).length=sl.length∧((qQ sl ds)[i]? =sl[i]? ∨(qQ sl ds)[i]? =some .undef)∧(i∉ds→(qQ sl ds)[i]? =sl[i]?)∧(i∈ds→i<sl.length→(qQ sl ds)[i]? =some .undef)
 |[],sl,i=>⟨rfl,.inl rfl,λ_=>rfl,λh=>by simp at h⟩
 |d::ds,sl,i=>by
  obtain⟨h1,h2,h3,h4⟩:=DM ds (sl.set d .undef) i;simp only[qQ]
  have nB:(sl.set d .undef)[i]? =if d=i then(if i<sl.length then some .undef else none)else sl[i]? :=by
   rw[fO];by_cases e:d=i
   ·subst e;simp
   ·simp [e]
  have hnone:¬i<sl.length→sl[i]? =none:=λk=>kN (by omega)
  refine⟨by rw[h1];simp,?_,λhi=>?_,λhi hl=>?_⟩
  ·rcases h2 with h2|h2
   ·rw[h2,nB];by_cases e:d=i
    ·rw[aP e];split
     ·exact .inr rfl
     ·rename_i k;rw[hnone k];exact .inl rfl
    ·rw[aQ e];exact .inl rfl
   ·exact .inr h2
  ·simp only[eu,not_or]at hi;rw[h3 hi.2,nB,aQ (λe=>hi.1 e.symm)]
  ·by_cases hm:i∈ds
   ·exact h4 hm (by simpa using hl)
   ·simp only[eu]at hi;have:i=d:=hi.resolve_right hm;rw[h3 hm,nB,aP this.symm,aP hl]
theorem D3(vs:List AV):∀(live:List Nat)(j:Nat)(sl:List AV)(i:Nat),(Ac vs sl live j).length=sl.length∧(i∉live→(Ac vs sl live j)[i]? =sl[i]?)∧(i∈live→i<sl.length→∃n,n<live.length∧live[n]? =some i∧(Ac vs sl live j)[i]? =some (vs.getD (j+n) .undef))
 |[],j,sl,i=>⟨rfl,λ_=>rfl,λh=>by simp at h⟩
 |d::live,j,sl,i=>by
  obtain⟨h1,h2,h3⟩:=D3 vs live (j+1) (sl.set d (vs.getD j .undef)) i;simp only[Ac];refine⟨by rw[h1];simp,λhi=>?_,λhi hl=>?_⟩
  ·simp only[eu,not_or]at hi;rw[h2 hi.2,fO,aQ (λe=>hi.1 e.symm)]
  ·by_cases hm:i∈live
   ·obtain⟨n,k1,k2,k3⟩:=h3 hm (by simpa using hl);exact⟨n+1,by simp;omega,by simpa using k2,by rw[k3];congr 2;omega⟩
   ·simp only[eu]at hi;have:i=d:=hi.resolve_right hm;subst this;exact⟨0,by simp,rfl,by rw[h2 hm,fO];simp [hl]⟩
theorem St.meet{s s':AS}(h:St X z s' a w E pb){mods live:List Nat}(hl:s.sl.length=s'.sl.length)(hf:∀i,i∉mods→s'.sl[i]? =s.sl[i]?):St X z (s.meet mods live (vals s'.sl live) s'.σ) a w E pb:=by
 have iY:∀i:Nat,(s.meet mods live (vals s'.sl live) s'.σ).sl[i]? =s'.sl[i]? ∨(s.meet mods live (vals s'.sl live) s'.σ).sl[i]? =some AV.undef:=by
  intro i;simp only[AS.meet];obtain⟨c1,c2,c3,c4⟩:=DM mods s.sl i;obtain⟨m1,m2,m3⟩:=D3 (vals s'.sl live) live 0 (qQ s.sl mods) i;by_cases hm:i∈live
  ·by_cases hlt:i<s.sl.length
   ·obtain⟨n,k1,k2,k3⟩:=m3 hm (by rw[c1];exact hlt);left;rw[k3,Nat.zero_add]
    have:(vals s'.sl live).getD n .undef=s'.sl.getD i .undef:=by simp only[vals,List.getD,Aj,k2];rfl
    rw[this,cu (by omega)];simp [List.getD,show i<s'.sl.length by omega]
   ·left;rw[kN (by rw[m1,c1];omega),kN (by omega)]
  ·rw[m2 hm];by_cases hd:i∈mods
   ·by_cases hlt:i<s.sl.length
    ·exact .inr (c4 hd hlt)
    ·left;rw[kN (by rw[c1];omega),kN (by omega)]
   ·left;rw[c3 hd,hf i hd]
 have hlen:(s.meet mods live (vals s'.sl live) s'.σ).sl.length=s'.sl.length:=by simp only[AS.meet];rw[(D3 (vals s'.sl live) live 0 (qQ s.sl mods) 0).1,(DM mods s.sl 0).1];exact hl
 refine⟨by rw[h.len,hlen],by rw[hlen,h.mQ],λi av hi=>?_,λi cs hi=>?_,(λt p hp=>by cases hp),h.priv,h.inj,h.heap,h.defers,h.out,h.nm⟩
 ·rcases iY i with e|e
  ·rw[e]at hi;exact h.slot i av hi
  ·rw[e]at hi;injection hi with hi;subst hi;trivial
 ·rcases iY i with e|e
  ·rw[e]at hi;exact h.box i cs hi
  ·rw[e]at hi;cases hi
end
end
section
open Go.RowKit
section
variable {X : Fx} {z : Z}
theorem force_eq{R:Type}:∀(l:List AV)(k:List AV→Option R),force l k=k l
 |[],k=>rfl
 |x::l,k=>by simp only[force];rw[force_eq l]
theorem Of{R:Type}{q:Bool}{ops:Array Oper}:∀(l:List Oper)(s:AS)(k:AS→Option R),Cg X q ops l s k=oG X q ops l s k
 |[],s,k=>rfl
 |o::l,s,k=>by simp only[Cg,oG];congr 1;funext s;rw[force_eq];exact Of l _ k
theorem Mu{α:Type}{c:AV}{t e:Option α}{r:α}(h:A.cond c t e=some r):(c=.bool true∧t=some r)∨(c=.bool false∧e=some r):=by
 cases c<;>simp only[A.cond]at h<;>first|(cases h;done)|skip
 rename_i b;cases b
 ·exact .inr ⟨rfl,h⟩
 ·exact .inl ⟨rfl,h⟩
theorem VE{f:List AV→Heap→Option (AX×List AV×Heap)}{v:List AV}{σ:Heap}{r:AX×List AV×Heap}(h:A.loop f v σ=some r):∃n,A.iter f n v σ=some r:=by
 unfold A.loop at h;split at h
 ·rename_i hx;injection h with h
  exact⟨_,h▸Classical.choose_spec (Classical.choose_spec hx)⟩
 ·cases h
theorem UQ{R:Type}{f:List AV→Heap→(AX×List AV×Heap→Option R)→Option R}{v:List AV}{σ:Heap}{K:AX×List AV×Heap→Option R}{r:R}(h:A.IU f v σ K=some r):∃n,A.BQ f n v σ K=some r:=by
 unfold A.IU at h;split at h
 ·rename_i hx;injection h with h
  obtain⟨n,hn⟩:=Classical.choose_spec hx;exact⟨n,h▸hn n (bU _)⟩
 ·cases h
theorem Ev{R:Type}{e:AX}{k:AX→Option R}{r:R}:∀{xs:List AX},A.sel e k xs=some r→k e=some r
 |[],h=>by cases h
 |x::xs,h=>by
  simp only[A.sel]at h;cases he:(e==x)
  ·rw[he]at h;exact Ev h
  ·rw[he]at h;have:e=x:=by simpa using he
   subst this;exact h
theorem zS{X:Fx}{c:Code}{ds:List Nat}{s s':AS}(h:Fr X ds s s'):∀i,i∉ds++X.L→s'.sl[i]? =s.sl[i]? :=λi hi=>by
 rw[ew]at hi
 exact h i (λe=>hi (.inl e)) (by
  cases hc:X.L.contains i
  ·rfl
  ·exact absurd (List.contains_iff_mem.1 hc) (λe=>hi (.inr e)))
theorem vN{X:Fx}{s:AS}{ds live:List Nat}{vs:List AV}{σ:Heap}(hl:(live.all λd=>(ds++X.L).contains d)=true):Fr X ds s (s.meet (ds++X.L) live vs σ):=λi hi hL=>by
 have hni:i∉ds++X.L:=by
  rw[ew];rintro(e|e)
  ·exact hi e
  ·rw[List.contains_iff_mem.2 e]at hL;cases hL
 simp only[AS.meet];rw[(D3 vs live 0 (qQ s.sl (ds++X.L)) i).2.1 (λe=>hni ?_),(DM (ds++X.L) s.sl i).2.2.1 hni];exact List.contains_iff_mem.1 (ow.1 hl i e)
theorem LJ{live:List Nat}{e:AX}{s:AS}{r:List AV×Heap}(h:ES live e s=some r):e=.normal∧r=(vals s.sl live,s.σ):=by cases e<;>simp only[ES]at h<;>first|(cases h;done)|(injection h with h;exact⟨rfl,h.symm⟩)
theorem N7{P:Program}{c:Code}{Q:Exit→Act→World→Prop}(I:Nat→Act→World→Prop)(round:∀n a w,I n a w→c.wp P (Exit.then (λa' w'=>∃m,m<n∧I m a' w') Q) a w) {n:Nat} {a:Act} {w:World} (h:I n a w):(Code.loop c).wp P Q a w:=by
 intro b k cs
 have key:∀n a w,I n a w→∃e a' w',Q e a' w'∧Arrives P (lone (b.at a (.code c::.inLoop c::k)) cs w) b k cs e a' w':=by
  intro n;induction n using Nat.strongRecOn with
  |_ n ih=>
   intro a w hI;obtain⟨e,a1,w1,hq,wo⟩:=round n a w hI b (.inLoop c::k) cs;cases e with
   |normal=>obtain⟨m,hlt,hm⟩:=hq;obtain⟨e2,a2,w2,wO,YQ⟩:=ih m hlt a1 w1 hm;exact⟨e2,a2,w2,wO,.of_steps (Steps.trans wo (.one step_inLoop)) YQ⟩
   |exit id=>exact⟨_,a1,w1,hq,.pass (x:=.inLoop c) rfl (λ_ _=>.inl (by simp)) wo⟩
   |goto l=>exact⟨_,a1,w1,hq,.pass (x:=.inLoop c) rfl (λ_ _=>.inl (by simp)) wo⟩
   |ret=>exact⟨_,a1,w1,hq,.pass (x:=.inLoop c) rfl (λ_ _=>.inl (by simp)) wo⟩
   |panic ch=>exact⟨_,a1,w1,hq,.pass (x:=.inLoop c) rfl (λ_ _=>.inl (by simp)) wo⟩
   |outgrown=>exact⟨_,a1,w1,hq,.pass (x:=.inLoop c) rfl (λ_ _=>.inl (by simp)) wo⟩
 obtain⟨e,a',w',hq,wo⟩:=key n a w h;exact⟨e,a',w',hq,.of_steps (.one step_loop) wo⟩
theorem sL(hs:cR X):∀(c:Code){R:Type}(bN:jC)(s:AS)(a:Act)(w:World)(E:List Pl)(pb:Nat→Option Nat)(k:AX→AS→Option R)(r:R)(Q:Exit→Act→World→Prop),exec X bN c s k=some r→St X z s a w E pb→
  (∀e s' a' w' E' bB,St X z s' a' w' E' bB→Fr X (cX c) s s'→k e s'=some r→Q e.to a' w')→c.wp X.P Q a w
 |.skip,R,bN,s,a,w,E,pb,k,r,Q,hk,h,hQ=>by
  have hk':k .normal s=some r:=by cases bN<;>simpa [exec]using hk
  exact wp_skip (hQ .normal s a w E pb h (Fr.refl _ _) hk')
 |.label l,R,bN,s,a,w,E,pb,k,r,Q,hk,h,hQ=>by
  have hk':k .normal s=some r:=by cases bN<;>simpa [exec]using hk
  exact wp_label (hQ .normal s a w E pb h (Fr.refl _ _) hk')
 |.exit id,R,bN,s,a,w,E,pb,k,r,Q,hk,h,hQ=>by
  have hk':k (.exit id) s=some r:=by cases bN<;>simpa [exec]using hk
  exact wp_exit (hQ (.exit id) s a w E pb h (Fr.refl _ _) hk')
 |.ret,R,bN,s,a,w,E,pb,k,r,Q,hk,h,hQ=>by
  have hk':k .ret s=some r:=by cases bN<;>simpa [exec]using hk
  exact wp_ret (hQ .ret s a w E pb h (Fr.refl _ _) hk')
 |.region id ops draw,R,bN,s,a,w,E,pb,k,r,Q,hk,h,hQ=>by
  have hk':(bif draw then(bif Bx X ops s.sl then oG X true ops ops.toList ⟨s.sl,λ_=>none,s.σ⟩ λs=>k .normal ⟨s.sl,λ_=>none,s.σ⟩else none)else oG X false ops ops.toList s λs=>k .normal ⟨s.sl,λ_=>none,s.σ⟩)=some r:=by cases bN<;>simpa [exec,force_eq,Of]using hk
  cases draw
  ·simp only[aV]at hk';refine wp_region ?_;have:=Oe (z:=z) (Q:=Q) (s0:=s) hs ops.toList 0 s a w E pb (λj=>by simp) h hk' (λs' a' w' E' bB h' hf hk2=>hQ .normal _ a' w' E' bB h'.Kc (λi hi hL=>hf i (by simpa [cX]using hi) hL) hk2);rw[List.range_eq_range'];simpa using this
  ·simp only[bA]at hk';cases hok:Bx X ops s.sl
   ·rw[hok]at hk';cases hk'
   ·rw[hok]at hk';simp only[bA]at hk';exact WX (s:=⟨s.sl,λ_=>none,s.σ⟩) hs hok (λ_=>rfl) (λs' a' w' E' bB h' hf hk2=>hQ .normal _ a' w' E' bB h'.Kc (λi hi hL=>hf i (by simpa [cX]using hi) hL) hk2) h.Kc hk'
 |.seq x y,R,bN,s,a,w,E,pb,k,r,Q,hk,h,hQ=>by
  cases bN<;>simp only[exec]at hk<;>first|(cases hk;done)|skip
  rename_i aa bb;refine wp_seq (sL hs x aa s a w E pb _ r _ hk h λe s' a' w' E' bB h' hf hk'=>?_);cases e with
  |normal=>exact sL hs y bb s' a' w' E' bB k r Q hk' h' λe2 s2 a2 w2 E2 Kj h2 yM hk2=>hQ e2 s2 a2 w2 E2 Kj h2 (by simpa [cX]using hf.trans yM) hk2
  |exit i=>exact hQ (.exit i) s' a' w' E' bB h' (hf.mono λi hi=>by simp [cX,hi]) hk'
  |ret=>exact hQ .ret s' a' w' E' bB h' (hf.mono λi hi=>by simp [cX,hi]) hk'
 |.cond c x y,R,bN,s,a,w,E,pb,k,r,Q,hk,h,hQ=>by
  have rc:=cV h c;cases bN<;>simp only[exec,force_eq]at hk<;>first|(cases hk;done)|skip
  case c live aa bb=>
   cases hl:(live.all λd=>(cX x++cX y++X.L).contains d)
   ·rw[hl]at hk;cases hk
   ·rw[hl]at hk;simp only[Bool.not_true,aV]at hk;obtain⟨⟨vs,σ'⟩,h1,h2⟩:=bk.1 hk;rcases Mu h1 with⟨ec,hb⟩|⟨ec,hb⟩
    ·rw[ec]at rc;simp only[ak]at rc;refine wp_cond_true rc (sL hs x aa s a w E pb _ _ Q hb h λe s' a' w' E' bB h' hf hk'=>?_);obtain⟨rfl,hv⟩:=LJ hk';simp only[Prod.mk.injEq]at hv;obtain⟨rfl,rfl⟩:=hv;have yM:Fr X (cX x++cX y) s s':=hf.mono λi hi=>by simp [hi]
     exact hQ .normal _ a' w' E' bB (h'.meet (by rw[h.mQ,h'.mQ]) (zS (c:=x) yM)) (by simpa [cX]using vN (X:=X) hl) h2
    ·rw[ec]at rc;simp only[ak]at rc;refine wp_cond_false rc (sL hs y bb s a w E pb _ _ Q hb h λe s' a' w' E' bB h' hf hk'=>?_);obtain⟨rfl,hv⟩:=LJ hk';simp only[Prod.mk.injEq]at hv;obtain⟨rfl,rfl⟩:=hv;have yM:Fr X (cX x++cX y) s s':=hf.mono λi hi=>by simp [hi]
     exact hQ .normal _ a' w' E' bB (h'.meet (by rw[h.mQ,h'.mQ]) (zS (c:=x) yM)) (by simpa [cX]using vN (X:=X) hl) h2
  case j aa bb=>
   rcases Mu hk with⟨ec,hb⟩|⟨ec,hb⟩
   ·rw[ec]at rc;simp only[ak]at rc;exact wp_cond_true rc (sL hs x aa s a w E pb k r Q hb h λe s' a' w' E' bB h' hf hk'=>hQ e s' a' w' E' bB h' (hf.mono λi hi=>by simp [cX,hi]) hk')
   ·rw[ec]at rc;simp only[ak]at rc;exact wp_cond_false rc (sL hs y bb s a w E pb k r Q hb h λe s' a' w' E' bB h' hf hk'=>hQ e s' a' w' E' bB h' (hf.mono λi hi=>by simp [cX,hi]) hk')
 |.block id c,R,bN,s,a,w,E,pb,k,r,Q,hk,h,hQ=>by
  cases bN<;>simp only[exec]at hk<;>first|(cases hk;done)|skip
  rename_i aa;refine wp_block (sL hs c aa s a w E pb _ r _ hk h λe s' a' w' E' bB h' hf hk'=>?_);cases e with
  |normal=>exact hQ .normal s' a' w' E' bB h' (by simpa [cX]using hf) hk'
  |ret=>exact hQ .ret s' a' w' E' bB h' (by simpa [cX]using hf) hk'
  |exit i=>
   simp only[AX.to,Exit.inBlock];simp only at hk';by_cases e:i=id
   ·have:(i==id)=true:=by simpa using e
    rw[this]at hk';rw[aP e];exact hQ .normal s' a' w' E' bB h' (by simpa [cX]using hf) hk'
   ·have:(i==id)=false:=by simpa using e
    rw[this]at hk';rw[aQ e];exact hQ (.exit i) s' a' w' E' bB h' (by simpa [cX]using hf) hk'
 |.loop c,R,bN,s,a,w,E,pb,k,r,Q,hk,h,hQ=>by
  cases bN<;>simp only[exec,force_eq]at hk<;>first|(cases hk;done)|skip
  case lc live xs aa=>
   cases hl:(live.all λd=>(cX c++X.L).contains d)
   ·rw[hl]at hk;cases hk
   ·rw[hl]at hk;simp only[Bool.not_true,aV]at hk;obtain⟨n,hn⟩:=UQ hk;refine N7 (λn a w=>∃vs σ E pb,A.BQ (λvs σ K=>exec X aa c (s.meet (cX c++X.L) live vs σ) λe s'=>K (e,vals s'.sl live,s'.σ)) n vs σ (λr=>A.sel r.1 (λe=>k e (s.meet (cX c++X.L) live r.2.1 r.2.2)) xs)=some r∧St X z (s.meet (cX c++X.L) live vs σ) a w E pb) ?_ (n:=n) ⟨_,_,E,pb,hn,h.meet rfl (λi _=>rfl)⟩;rintro n a w ⟨vs,σ,E,pb,hit,hst⟩;cases n with
    |zero=>cases hit
    |succ n=>
     simp only[A.BQ]at hit;refine sL hs c aa _ a w E pb _ _ _ hit hst λe s' a' w' E' bB h' hf hk'=>?_
     have hfr:∀i,i∉cX c++X.L→s'.sl[i]? =s.sl[i]? :=λi hi=>by rw[zS (c:=c) hf i hi];exact zS (c:=c) (vN (X:=X) (s:=s) (vs:=vs) (σ:=σ) hl) i hi
     have xU:=h'.meet (s:=s) (mods:=cX c++X.L) (live:=live) (by rw[h.mQ,h'.mQ]) hfr;cases e with
     |normal=>exact⟨n,Nat.lt_succ_self n,_,_,E',bB,hk',xU⟩
     |exit i=>exact hQ (.exit i) _ a' w' E' bB xU (by simpa [cX]using vN (X:=X) hl) (Ev hk')
     |ret=>exact hQ .ret _ a' w' E' bB xU (by simpa [cX]using vN (X:=X) hl) (Ev hk')
  rename_i live xs aa;cases hl:(live.all λd=>(cX c++X.L).contains d)
  ·rw[hl]at hk;cases hk
  ·rw[hl]at hk;simp only[Bool.not_true,aV]at hk;obtain⟨⟨e0,wY,aO⟩,h1,h2⟩:=bk.1 hk;have hsel:=Ev h2;obtain⟨n,hn⟩:=VE h1;refine N7 (λn a w=>∃vs σ E pb,A.iter (λvs σ=>exec X aa c (s.meet (cX c++X.L) live vs σ) (leave live)) n vs σ=some (e0,wY,aO)∧St X z (s.meet (cX c++X.L) live vs σ) a w E pb) ?_ (n:=n) ⟨_,_,E,pb,hn,h.meet rfl (λi _=>rfl)⟩;rintro n a w ⟨vs,σ,E,pb,hit,hst⟩;cases n with
   |zero=>cases hit
   |succ n=>
    simp only[A.iter]at hit;obtain⟨⟨e1,vs1,σ1⟩,g1,g2⟩:=bk.1 hit;refine sL hs c aa _ a w E pb _ _ _ g1 hst λe s' a' w' E' bB h' hf hk'=>?_
    simp only[leave,Option.some.injEq,Prod.mk.injEq]at hk';obtain⟨rfl,rfl,rfl⟩:=hk'
    have hfr:∀i,i∉cX c++X.L→s'.sl[i]? =s.sl[i]? :=λi hi=>by rw[zS (c:=c) hf i hi];exact zS (c:=c) (vN (X:=X) (s:=s) (vs:=vs) (σ:=σ) hl) i hi
    have xU:=h'.meet (s:=s) (mods:=cX c++X.L) (live:=live) (by rw[h.mQ,h'.mQ]) hfr;cases e with
    |normal=>exact⟨n,Nat.lt_succ_self n,_,_,E',bB,g2,xU⟩
    |exit i=>simp only[Option.some.injEq,Prod.mk.injEq]at g2;obtain⟨rfl,rfl,rfl⟩:=g2;exact hQ (.exit i) _ a' w' E' bB xU (by simpa [cX]using vN (X:=X) hl) hsel
    |ret=>simp only[Option.some.injEq,Prod.mk.injEq]at g2;obtain⟨rfl,rfl,rfl⟩:=g2;exact hQ .ret _ a' w' E' bB xU (by simpa [cX]using vN (X:=X) hl) hsel
 |.rangeFunc ..,R,bN,s,a,w,E,pb,k,r,Q,hk,h,hQ=>by cases bN<;>simp [exec]at hk
 |.scope _,R,bN,s,a,w,E,pb,k,r,Q,hk,h,hQ=>by cases bN<;>simp [exec]at hk
 |.goto _,R,bN,s,a,w,E,pb,k,r,Q,hk,h,hQ=>by cases bN<;>simp [exec]at hk
 |.refuse _,R,bN,s,a,w,E,pb,k,r,Q,hk,h,hQ=>by cases bN<;>simp [exec]at hk
end
end
section
open Go.RowKit
section
variable {X : Fx} {z : Z} {s : AS} {a : Act} {w w' : World} {E : List Pl} {pb : Nat → Option Nat}
def uK(tmps:Array Value):ResultVar→Sem Value
 |.tmp t=>pure (tmps.getD t undef)
 |.cell a t=>do loadVar t (←asAddr (tmps.getD a undef))
theorem HN(h:St X z s a w E pb){R:Type}:∀(rs:List ResultVar)(k:List AV→Option R)(r:R),uJ X s rs k=some r→∃vs kg,(rs.mapM (uK a.tmps)).run X.P w=.ok vs w∧aG (ctx z w E pb) kg vs∧k kg=some r
 |[],k,r,hk=>⟨[],[],by simp,by simp [aG],hk⟩
 |.tmp t::rs,k,r,hk=>by simp only[uJ]at hk;obtain⟨vs,kg,h1,h2,h3⟩:=HN h rs _ r hk;refine⟨a.tmps.getD t undef::vs,ev X s (.tmp t)::kg,?_,by simp only[aG];exact⟨_,_,rfl,cV h (.tmp t),h2⟩,h3⟩;simp only[List.mapM_cons,Sem.run_bind,uK,Sem.run_pure,Result.andThen_ok,h1]
 |.cell q t::rs,k,r,hk=>by
  simp only[uJ]at hk
  have fin:∀(v:Value)(av:AV),(uK a.tmps (.cell q t)).run X.P w=.ok v w→ak (ctx z w E pb) av v→uJ X s rs (λvs=>k (av::vs))=some r→∃vs kg,((ResultVar.cell q t::rs).mapM (uK a.tmps)).run X.P w=.ok vs w∧aG (ctx z w E pb) kg vs∧k kg=some r:=by intro v av hv hr hk;obtain⟨vs,kg,h1,h2,h3⟩:=HN h rs _ r hk;refine⟨v::vs,av::kg,?_,by simp only[aG];exact⟨_,_,rfl,hr,h2⟩,h3⟩;simp only[List.mapM_cons,Sem.run_bind,hv,Sem.run_pure,Result.andThen_ok,h1]
  split at hk
  ·rename_i b off hp;obtain⟨av,e1,e2⟩:=bk.1 hk;obtain⟨cs,e3,e4⟩:=bk.1 e1;obtain⟨n,k1,k2,k3,k4⟩:=zI h (tag:=none) trivial hp e3;obtain⟨v,j1,j2⟩:=D0 (c:=ctx z w E pb) w X rfl k3.2 e4;rw[Nat.zero_add]at j1;simp only[Act.eval]at k2;exact fin v av (by simp [uK,k2,asAddr,j1]) j2 e2
  ·obtain⟨av,e1,e2⟩:=bk.1 hk;obtain⟨cs,e3,e4⟩:=bk.1 e1;obtain⟨b,off,k2,k3⟩:=Mv h.heap e3 (cV h (.tmp q));obtain⟨v,j1,j2⟩:=D0 (c:=ctx z w E pb) w X rfl k3 e4;rw[Nat.add_zero]at j1;simp only[Act.eval]at k2;exact fin v av (by simp [uK,k2,asAddr,j1]) j2 e2
theorem Ut{P:Program}{fn:Func}{tmps:Array Value}{vs:List Value}(h:(fn.results.toList.mapM (uK tmps)).run P w=.ok vs w):∃v,(results fn tmps).run P w=.ok v w∧∀(c:RC)(kg:List AV),aG c kg vs→ak c (one kg) v:=by
 have e:results fn tmps=(do let vs ←fn.results.mapM (uK tmps);pure (if h:vs.size=1 then vs[0]else .tuple vs)):=by unfold results;congr 1
 have hm:(fn.results.mapM (uK tmps)).run P w=.ok vs.toArray w:=by rw[Array.mapM_eq_mapM_toList,Sem.run_map,h];rfl
 have hrun:(results fn tmps).run P w=.ok (if h:vs.toArray.size=1 then vs.toArray[0]else .tuple vs.toArray) w:=by rw[e,Sem.run_bind,hm];rfl
 refine⟨_,hrun,λc kg r=>?_⟩
 match kg,vs,r with
 |[x],[v],r=>simp only[aG]at r;obtain⟨v',_,e',r1,rfl⟩:=r;injection e' with e1 _;subst e1;simpa [one]using r1
 |[],[],r=>simp only[one,ak];exact⟨#[],by simp,by simp [aG]⟩
 |x::y::xs,v::u::us,r=>simp only[one,ak];exact⟨(v::u::us).toArray,by simp,by simpa using r⟩
 |[_],_::_::_,r=>exact absurd r.length (by simp)
 |_::_::_,[_],r=>exact absurd r.length (by simp)
 |[],_::_,r=>exact absurd r.length (by simp)
 |_::_,[],r=>exact absurd r.length (by simp)
end
section
variable {c c' : RC} {σ : Heap} {n : Nat}
structure qX (c c' : RC) (σ : Heap) (n : Nat) : Prop where
 w:c'.w=c.w
 nm:c'.nm=c.nm
 X:∀b,c'.X b→c.X b
 E:∀(id:Nat)(p:Pl),id<n→c.E[id]? =some p→c'.E[id]? =some p
 heap:eS c σ
 Fg:∀(id:Nat)(p:Pl),n≤id→c.E[id]? =some p→¬c'.X p.b
theorem HJ(d:Nat):∀(l l':List AV),A.dr σ n d l=some l'→l'.length=l.length
 |[],l',e=>by simp only[A.dr]at e;injection e with e;subst e;rfl
 |x::l,l',e=>by simp only[A.dr]at e;obtain⟨y,h1,h2⟩:=bk.1 e;obtain⟨l2,h3,rfl⟩:=cI.1 h2;simp [HJ d l l2 h3]
theorem Bm(d:Nat):∀(l l':List (List AV)),A.iK σ n d l=some l'→l'.length=l.length
 |[],l',e=>by simp only[A.iK]at e;injection e with e;subst e;rfl
 |x::l,l',e=>by simp only[A.iK]at e;obtain⟨y,h1,h2⟩:=bk.1 e;obtain⟨l2,h3,rfl⟩:=cI.1 h2;simp [Bm d l l2 h3]
theorem Br(d:Nat):∀(l:List (List AV)),A.BI σ n d l=A.iK σ n d l
 |[]=>by simp [A.iK,A.BI]
 |x::l=>by simp [A.iK,A.BI,Br d l]
def xF:AV→Bool
 |.os ..=>true
 |.op ..=>true
 |.oe ..=>true
 |.om ..=>true
 |_=>false
theorem Ia(d:Nat):∀(l:List AV),A.tc σ n d l=A.dr σ n d l
 |[]=>by simp [A.dr,A.tc]
 |x::l=>by simp [A.dr,A.tc,Ia d l]
theorem NW(d:Nat):∀(l:List (AV×AV)),A.vV σ n d l=A.oC σ n d l
 |[]=>by simp [A.oC,A.vV]
 |(k,v)::l=>by simp [A.oC,A.vV,NW d l]
theorem W9(d:Nat)(m:Int)(s:ByteArray):A.bM σ n d (.agg [.int .i64 m,.str s])=some (.agg [.int .i64 m,.str s]):=by cases d<;>simp [A.bM,A.dr]
theorem MD{d:Nat}:∀{es es':List (AV×AV)},(∀p∈es,∃m s,p.1=.agg [.int .i64 m,.str s])→A.oC σ n d es=some es'→es'.map (·.1)=es.map (·.1)
 |[],es',_,h=>by simp only[A.oC]at h;injection h with h;subst h;rfl
 |(k,v)::r,es',hk,h=>by simp only[A.oC]at h;obtain⟨m,s,e⟩:=hk (k,v) List.mem_cons_self;simp only at e;subst e;rw[W9]at h;simp only[aM]at h;obtain⟨v',h1,h2⟩:=bk.1 h;obtain⟨r',h3,rfl⟩:=cI.1 h2;simp only[fP,MD (λp hp=>hk p (uB _ hp)) h3]
theorem Vy{d:Nat}{es es':List (AV×AV)}(hd:BN es)(h:A.oC σ n d es=some es'):BN es':=by
 have e:=MD hd.1 h;refine⟨λp hp=>?_,by rw[e];exact hd.2⟩;have:p.1∈es.map (·.1):=by rw[←e];exact List.mem_map_of_mem hp
 obtain⟨q,hq,e2⟩:=l9.1 this;rw[←e2];exact hd.1 q hq
mutual
theorem zT(h:qX c c' σ n)(d:Nat)(hos:∀av b7 v,xF av=true→A.bM σ n d av=some b7→ak c av v→ak c' b7 v):∀(av b7:AV)(v:Value),A.bM σ n d av=some b7→ak c av v→ak c' b7 v
 |.undef,b7,v,e,r=>by cases d<;>simp [A.bM]at e
 |.int k m,b7,v,e,r=>by
  have:b7=.int k m:=by cases d<;>simpa [A.bM]using e.symm
  subst this;simpa [ak]using r
 |.bool b,b7,v,e,r=>by
  have:b7=.bool b:=by cases d<;>simpa [A.bM]using e.symm
  subst this;simpa [ak]using r
 |.str s,b7,v,e,r=>by
  have:b7=.str s:=by cases d<;>simpa [A.bM]using e.symm
  subst this;simpa [ak]using r
 |.au,b7,v,e,r=>by
  have:b7=.au:=by cases d<;>simpa [A.bM]using e.symm
  subst this;simpa [ak]using r
 |.ez,b7,v,e,r=>by
  have:b7=.ez:=by cases d<;>simpa [A.bM]using e.symm
  subst this;simpa [ak]using r
 |.np,b7,v,e,r=>by
  have:b7=.np:=by cases d<;>simpa [A.bM]using e.symm
  subst this;simpa [ak]using r
 |.nm,b7,v,e,r=>by
  have:b7=.nm:=by cases d<;>simpa [A.bM]using e.symm
  subst this;simpa [ak]using r
 |.tK,b7,v,e,r=>by
  have:b7=.tK:=by cases d<;>simpa [A.bM]using e.symm
  subst this;simpa [ak]using r
 |.agg cs,b7,v,e,r=>by
  have e':(A.dr σ n d cs).map .agg=some b7:=by cases d<;>simpa [A.bM]using e
  obtain⟨cs',h1,rfl⟩:=cI.1 e';simp only[ak]at r ⊢;obtain⟨vs,e,r1,r2⟩:=r;exact⟨vs,e,zL h d hos cs cs' _ h1 r1,r2⟩
 |.aD cs,b7,v,e,r=>by
  have e':(A.dr σ n d cs).map .aD=some b7:=by cases d<;>simpa [A.bM]using e
  obtain⟨cs',h1,rfl⟩:=cI.1 e';simp only[ak]at r ⊢;obtain⟨vs,e,r1⟩:=r;exact⟨vs,e,zL h d hos cs cs' _ h1 r1⟩
 |.sl sz es,b7,v,e,r=>by
  have e':(A.iK σ n d es).map (.sl sz)=some b7:=by cases d<;>simpa [A.bM]using e
  obtain⟨es',h1,rfl⟩:=cI.1 e';simp only[ak]at r ⊢;obtain⟨q,cap,e,k1,k2,r⟩:=r;have hl:es'.length=es.length:=Bm d es es' h1;refine⟨q,cap,by rw[hl];exact e,by rw[hl];exact k1,k2,?_⟩;rcases r with r|⟨b,off,e2,hb,hx,r⟩
  ·left;subst r;simpa using hl
  ·right;exact⟨b,off,e2,by rw[h.w];exact hb,λk=>hx (h.X b k),Bq h d hos sz b es es' off h1 r⟩
 |.rp cs,b7,v,e,r=>by
  have e':(A.dr σ n d cs).map .rp=some b7:=by cases d<;>simpa [A.bM]using e
  obtain⟨cs',h1,rfl⟩:=cI.1 e';simp only[ak]at r ⊢;obtain⟨b,off,e2,hb,hx,r⟩:=r;exact⟨b,off,e2,by rw[h.w];exact hb,λk=>hx (h.X b k),zK h d hos b cs cs' off h1 r⟩
 |.fm es,b7,v,e,r=>by
  have e':(A.oC σ n d es).map .fm=some b7:=by cases d<;>simpa [A.bM]using e
  obtain⟨es',h1,rfl⟩:=cI.1 e';simp only[ak]at r ⊢;obtain⟨b,e2,hb,hx,aX,bg,k1,kw,l,k2,k3⟩:=r;exact⟨b,e2,by rw[h.w];exact hb,λk=>hx (h.X b k),aX,bg,by rw[h.w];exact k1,kw,l,Eo h d hos es es' _ h1 k2,k3.imp_right λq=>⟨q.1,Vy q.2 h1⟩⟩
 |.op id off,b7,v,e,r=>hos _ b7 v rfl e r
 |.oe id g i off,b7,v,e,r=>hos _ b7 v rfl e r
 |.om id,b7,v,e,r=>hos _ b7 v rfl e r
 |.fn f cs,b7,v,e,r=>by
  have e':(A.dr σ n d cs).map (.fn f)=some b7:=by cases d<;>simpa [A.bM]using e
  obtain⟨cs',h1,rfl⟩:=cI.1 e';simp only[ak]at r ⊢;obtain⟨g,vs,e,k,r1⟩:=r;exact⟨g,vs,e,by rw[h.nm];exact k,zL h d hos cs cs' _ h1 r1⟩
 |.lbx cs,b7,v,e,r=>by cases d<;>simp [A.bM]at e
 |.os id g sz off len,b7,v,e,r=>hos _ b7 v rfl e r
theorem zL(h:qX c c' σ n)(d:Nat)(hos:∀av b7 v,xF av=true→A.bM σ n d av=some b7→ak c av v→ak c' b7 v):∀(l l':List AV)(vs:List Value),A.dr σ n d l=some l'→aG c l vs→aG c' l' vs
 |[],l',vs,e,r=>by simp only[A.dr]at e;injection e with e;subst e;simpa [aG]using r
 |x::l,l',vs,e,r=>by simp only[A.dr]at e;obtain⟨y,h1,h2⟩:=bk.1 e;obtain⟨l2,h3,rfl⟩:=cI.1 h2;simp only[aG]at r ⊢;obtain⟨v,vs',e,r1,r2⟩:=r;exact⟨v,vs',e,zT h d hos x y v h1 r1,zL h d hos l l2 vs' h3 r2⟩
theorem Eo(h:qX c c' σ n)(d:Nat)(hos:∀av b7 v,xF av=true→A.bM σ n d av=some b7→ak c av v→ak c' b7 v):∀(l l':List (AV×AV))(es:List MapEntry),A.oC σ n d l=some l'→bR c l es→bR c' l' es
 |[],l',es,e,r=>by simp only[A.oC]at e;injection e with e;subst e;simpa [bR]using r
 |(k,v)::l,l',es,e,r=>by simp only[A.oC]at e;obtain⟨k',h1,h2⟩:=bk.1 e;obtain⟨v',h3,h4⟩:=bk.1 h2;obtain⟨l2,h5,rfl⟩:=cI.1 h4;simp only[bR]at r ⊢;obtain⟨x,es',e,r1,r2,r3⟩:=r;exact⟨x,es',e,zT h d hos k k' _ h1 r1,zT h d hos v v' _ h3 r2,Eo h d hos l l2 es' h5 r3⟩
theorem zK(h:qX c c' σ n)(d:Nat)(hos:∀av b7 v,xF av=true→A.bM σ n d av=some b7→ak c av v→ak c' b7 v)(b:Nat):∀(l l':List AV)(off:Nat),A.dr σ n d l=some l'→aZ c b off l→aZ c' b off l'
 |[],l',off,e,r=>by simp only[A.dr]at e;injection e with e;subst e;simp [aZ]
 |x::l,l',off,e,r=>by simp only[A.dr]at e;obtain⟨y,h1,h2⟩:=bk.1 e;obtain⟨l2,h3,rfl⟩:=cI.1 h2;simp only[aZ]at r ⊢;obtain⟨⟨v,e1,e2,r1⟩,r2⟩:=r;exact⟨⟨v,by rw[h.w];exact e1,e2,zT h d hos x y v h1 r1⟩,zK h d hos b l l2 (off+1) h3 r2⟩
theorem Bq(h:qX c c' σ n)(d:Nat)(hos:∀av b7 v,xF av=true→A.bM σ n d av=some b7→ak c av v→ak c' b7 v)(sz b:Nat):∀(l l':List (List AV))(off:Nat),A.iK σ n d l=some l'→bh c sz b off l→bh c' sz b off l'
 |[],l',off,e,r=>by simp only[A.iK]at e;injection e with e;subst e;simp [bh]
 |x::l,l',off,e,r=>by simp only[A.iK]at e;obtain⟨y,h1,h2⟩:=bk.1 e;obtain⟨l2,h3,rfl⟩:=cI.1 h2;simp only[bh]at r ⊢;exact⟨by rw[HJ d x y h1];exact r.1,zK h d hos b x y off h1 r.2.1,Bq h d hos sz b l l2 (off+sz) h3 r.2.2⟩
end
structure rD (c0 c c' : RC) : Prop where
 w:c'.w=c.w
 nm:c'.nm=c.nm
 X:∀b,c'.X b→c.X b
 E:∀(id:Nat)(p0 p:Pl),c0.E[id]? =some p0→c.E[id]? =some p→c'.E[id]? =some p
mutual
theorem zQ{c0 c c':RC}(h:rD c0 c c'):∀(av:AV)(v0 v:Value),ak c0 av v0→ak c av v→ak c' av v
 |.undef,v0,v,r0,r=>by simp [ak]
 |.int k m,v0,v,r0,r=>by simpa [ak]using r
 |.bool b,v0,v,r0,r=>by simpa [ak]using r
 |.str s,v0,v,r0,r=>by simpa [ak]using r
 |.au,v0,v,r0,r=>by simpa [ak]using r
 |.ez,v0,v,r0,r=>by simpa [ak]using r
 |.np,v0,v,r0,r=>by simpa [ak]using r
 |.nm,v0,v,r0,r=>by simpa [ak]using r
 |.fm es,v0,v,r0,r=>by simp only[ak]at r0 r ⊢;obtain⟨_,_,_,_,_,_,_,_,_,r0,_⟩:=r0;obtain⟨b,e,hb,hx,aX,bg,k1,kw,l,k2,k3⟩:=r;exact⟨b,e,by rw[h.w];exact hb,λk=>hx (h.X b k),aX,bg,by rw[h.w];exact k1,kw,l,Eh h es _ _ r0 k2,k3⟩
 |.tK,v0,v,r0,r=>by simpa [ak]using r
 |.agg cs,v0,v,r0,r=>by simp only[ak]at r0 r ⊢;obtain⟨wY,_,yV,_⟩:=r0;obtain⟨vs,e,r1,r2⟩:=r;exact⟨vs,e,Eg h cs _ _ yV r1,r2⟩
 |.aD cs,v0,v,r0,r=>by simp only[ak]at r0 r ⊢;obtain⟨wY,_,yV⟩:=r0;obtain⟨vs,e,r1⟩:=r;exact⟨vs,e,Eg h cs _ _ yV r1⟩
 |.sl sz es,v0,v,r0,r=>by
  simp only[ak]at r0 r ⊢;obtain⟨_,_,_,_,_,r0⟩:=r0;obtain⟨q,cap,e,k1,k2,r⟩:=r;refine⟨q,cap,e,k1,k2,?_⟩;rcases r with r|⟨b,off,e2,hb,hx,r⟩
  ·exact .inl r
  ·rcases r0 with r0|⟨b0,lK,_,_,_,r0⟩
   ·exact .inl r0
   ·exact .inr ⟨b,off,e2,by rw[h.w];exact hb,λk=>hx (h.X b k),Ef h sz b0 b es lK off r0 r⟩
 |.rp cs,v0,v,r0,r=>by simp only[ak]at r0 r ⊢;obtain⟨b0,lK,_,_,_,r0⟩:=r0;obtain⟨b,off,e2,hb,hx,r⟩:=r;exact⟨b,off,e2,by rw[h.w];exact hb,λk=>hx (h.X b k),Bp h b0 b cs lK off r0 r⟩
 |.op id off,v0,v,r0,r=>by simp only[ak]at r0 r ⊢;obtain⟨p0,e0,_⟩:=r0;obtain⟨p,e1,e2,e3⟩:=r;exact⟨p,h.E id p0 p e0 e1,e2,e3⟩
 |.oe id g i off,v0,v,r0,r=>by simp only[ak]at r0 r ⊢;obtain⟨_,p0,e0,_⟩:=r0;obtain⟨hg,p,e1,e2⟩:=r;exact⟨hg,p,h.E id p0 p e0 e1,e2⟩
 |.os id g sz off len,v0,v,r0,r=>by simp only[ak]at r0 r ⊢;obtain⟨_,p0,e0,_⟩:=r0;obtain⟨hg,p,e1,e2⟩:=r;exact⟨hg,p,h.E id p0 p e0 e1,e2⟩
 |.om id,v0,v,r0,r=>by simp only[ak]at r0 r ⊢;obtain⟨p0,e0,_⟩:=r0;obtain⟨p,e1,e2,e3⟩:=r;exact⟨p,h.E id p0 p e0 e1,e2,e3⟩
 |.fn f cs,v0,v,r0,r=>by simp only[ak]at r0 r ⊢;obtain⟨_,_,_,_,r0⟩:=r0;obtain⟨g,vs,e1,e2,r⟩:=r;exact⟨g,vs,e1,by rw[h.nm];exact e2,Eg h cs _ _ r0 r⟩
 |.lbx cs,v0,v,r0,r=>by simp [ak]at r
theorem Eg{c0 c c':RC}(h:rD c0 c c'):∀(l:List AV)(wY vs:List Value),aG c0 l wY→aG c l vs→aG c' l vs
 |[],wY,vs,r0,r=>by simpa [aG]using r
 |x::l,wY,vs,r0,r=>by simp only[aG]at r0 r ⊢;obtain⟨v0,us0,_,yV,Kk⟩:=r0;obtain⟨v,us,e,r1,r2⟩:=r;exact⟨v,us,e,zQ h x _ _ yV r1,Eg h l _ _ Kk r2⟩
theorem Eh{c0 c c':RC}(h:rD c0 c c'):∀(l:List (AV×AV))(fR es:List MapEntry),bR c0 l fR→bR c l es→bR c' l es
 |[],fR,es,r0,r=>by simpa [bR]using r
 |(k,v)::l,fR,es,r0,r=>by simp only[bR]at r0 r ⊢;obtain⟨e0,Zt,_,k1,k2,k3⟩:=r0;obtain⟨e,es',e1,j1,j2,j3⟩:=r;exact⟨e,es',e1,zQ h k _ _ k1 j1,zQ h v _ _ k2 j2,Eh h l Zt es' k3 j3⟩
theorem Bp{c0 c c':RC}(h:rD c0 c c')(b0 b:Nat):∀(l:List AV)(lK off:Nat),aZ c0 b0 lK l→aZ c b off l→aZ c' b off l
 |[],lK,off,r0,r=>by simp [aZ]
 |x::l,lK,off,r0,r=>by simp only[aZ]at r0 r ⊢;obtain⟨⟨v0,_,_,yV⟩,Kk⟩:=r0;obtain⟨⟨v,e1,e2,r1⟩,r2⟩:=r;exact⟨⟨v,by rw[h.w];exact e1,e2,zQ h x _ _ yV r1⟩,Bp h b0 b l _ _ Kk r2⟩
theorem Ef{c0 c c':RC}(h:rD c0 c c')(sz b0 b:Nat):∀(l:List (List AV))(lK off:Nat),bh c0 sz b0 lK l→bh c sz b off l→bh c' sz b off l
 |[],lK,off,r0,r=>by simp [bh]
 |x::l,lK,off,r0,r=>by simp only[bh]at r0 r ⊢;exact⟨r.1,Bp h b0 b x _ _ r0.2.1 r.2.1,Ef h sz b0 b l _ _ r0.2.2 r.2.2⟩
end
theorem Ee{c0 c c':RC}(h:rD c0 c c'){p0 p:Pl}{x:bu}(k0:l5 c0 p0 x)(k:l5 c p x):l5 c' p x:=by
 cases x with
 |box cs=>obtain⟨h1,⟨⟨arr,t,h2,h3⟩,h4⟩⟩:=k;exact⟨h1,⟨arr,t,by rw[h.w];exact h2,h3⟩,Bp h _ _ cs _ _ k0.2.2 h4⟩
 |arr g sz es=>obtain⟨h1,h2,h3,h4,⟨arr,t,h5,h6⟩,h7,h8,h9⟩:=k;obtain⟨_,_,_,_,_,_,k8,_⟩:=k0;exact⟨h1,h2,h3,h4,⟨arr,t,by rw[h.w];exact h5,h6⟩,h7,Ef h sz _ _ es _ _ k8 h8,λarr t fz e=>h9 arr t fz (by rw[←h.w];exact e)⟩
 |kR g sz es=>obtain⟨h1,h2,h3,h4,⟨arr,t,h5,h6⟩,h7,h8,h9⟩:=k;obtain⟨_,_,_,_,_,_,k8,_⟩:=k0;exact⟨h1,h2,h3,h4,⟨arr,t,by rw[h.w];exact h5,h6⟩,h7,Ef h sz _ _ es _ _ k8 h8,λarr t fz e=>h9 arr t fz (by rw[←h.w];exact e)⟩
 |map es=>obtain⟨h1,aX,bg,h2,hw,h3⟩:=k;obtain⟨_,_,_,_,_,k3⟩:=k0;exact⟨h1,aX,bg,by rw[h.w];exact h2,hw,Eh h es _ _ k3 h3⟩
 |it cur left=>
  obtain⟨h1,h2⟩:=k;obtain⟨_,k2⟩:=k0;refine⟨h1,?_⟩;rcases h2 with⟨h2,h2',since,seen,last,h3⟩|⟨m,seen,aX,bg,h3,h4,h5,h6,h7,h8,h9⟩
  ·exact .inl ⟨h2,h2',since,seen,last,by rw[h.w];exact h3⟩
  ·rcases k2 with⟨q1,q2,_⟩|⟨m0,aaE,aaw,aak,q3,q4,q5,q6,q7,q8,q9⟩
   ·refine .inr ⟨m,seen,aX,bg,by rw[h.w];exact h3,by rw[h.w];exact h4,λk=>h5 (h.X m k),by rw[h.w];exact h6,h7,by rw[q2]at h8 ⊢;exact h8,.inl q1⟩
   ·refine .inr ⟨m,seen,aX,bg,by rw[h.w];exact h3,by rw[h.w];exact h4,λk=>h5 (h.X m k),by rw[h.w];exact h6,h7,(by obtain⟨l0,q8,_⟩:=q8;obtain⟨l,h8,hp⟩:=h8;exact⟨l,Eh h left _ _ q8 h8,hp⟩),?_⟩;rcases h9 with h9|⟨kk,v,e,e1,e2,e3,e4,e5⟩
    ·exact .inl h9
    ·rcases q9 with q9|⟨kk',v',e',f1,f2,f3,f4,f5⟩
     ·exact .inl q9
     ·rw[e1]at f1;simp only[List.cons.injEq,Prod.mk.injEq,and_true]at f1;obtain⟨rfl,rfl⟩:=f1;exact .inr ⟨_,_,e,e1,e2,e3,zQ h _ _ _ f4 e4,zQ h _ _ _ f5 e5⟩
def Zw:bu→Nat
 |.arr g _ _=>g
 |.kR g _ _=>g
 |_=>0
theorem HV{c:RC}{p:Pl}{x:bu}(k:l5 c p x):p.g=Zw x:=by cases x<;>exact k.1
theorem NR{c0 c c':RC}(h:rD c0 c c')(sz b:Nat):∀(l:List (List AV))(off:Nat),(∀y∈l,∃b0 o0,aZ c0 b0 o0 y)→bh c sz b off l→bh c' sz b off l
 |[],off,h0,r=>by simp [bh]
 |x::l,off,h0,r=>by simp only[bh]at r ⊢;obtain⟨b0,o0,k⟩:=h0 x (by simp);exact⟨r.1,Bp h b0 b x _ _ k r.2.1,NR h sz b l _ (λy hy=>h0 y (by simp [hy])) r.2.2⟩
theorem NC{c:RC}:∀{args:List AV}{vs:List Value},aG c args vs→∀y∈A.rowsOf args,∃b0 o0,aZ c b0 o0 y
 |[],_,_,y,hy=>by simp [A.rowsOf]at hy
 |a::args,vs,h,y,hy=>by
  simp only[aG]at h;obtain⟨v,vs',rfl,h1,h2⟩:=h;simp only[A.rowsOf,ew]at hy;rcases hy with hy|hy
  ·cases a<;>simp only[List.not_mem_nil]at hy;rename_i sz es;simp only[ak]at h1;obtain⟨a,cap,rfl,_,_,h3⟩:=h1;rcases h3 with h3|⟨b,off,_,_,_,h4⟩
   ·rw[h3]at hy;cases hy
   ·obtain⟨i,hi⟩:=Ai.1 hy;exact⟨_,_,(bh.nth h4 hi).2⟩
  ·exact NC h2 y hy
theorem sM(h:qX c c' σ n):∀(d:Nat)(av b7:AV)(v:Value),A.bM σ n d av=some b7→ak c av v→ak c' b7 v
 |0=>zT h 0 (λav b7 v ho e r=>by cases av<;>first|(simp [A.bM]at e;done)|(simp [xF]at ho;done))
 |d+1=>zT h (d+1) (λav b7 v ho e r=>match av,ho,e,r with
  |.op id off,_,e,r=>by
   simp only[A.bM]at e;simp only[ak]at r;obtain⟨p,h1,h2,rfl⟩:=r;split at e
   ·rename_i hlt;injection e with e;subst e
    simp only[ak];exact⟨p,h.E id p hlt h1,h2,rfl⟩
   ·rename_i hge;split at e
    ·rename_i cs hs;obtain⟨cs',e1,rfl⟩:=cI.1 e;rw[Ia]at e1;obtain⟨j1,⟨⟨arr,t,j2,j3⟩,j4⟩⟩:=h.heap.blk id p _ h1 hs;simp only[ak];refine⟨p.b,off,rfl,by rw[h.w];exact(th.1 j2).1,h.Fg id p (by omega) h1,?_⟩;have j5:=j4.drop off;rw[Nat.zero_add]at j5;exact zK h d (λav b7 v _ e r=>sM h d _ _ _ e r) p.b _ cs' _ e1 j5
    ·cases e
  |.oe id g i off,_,e,r=>by
   simp only[A.bM]at e;simp only[ak]at r;obtain⟨hg,p,h1,h2,a,rfl,h3⟩:=r;split at e
   ·rename_i hlt;injection e with e;subst e
    simp only[ak];exact⟨hg,p,h.E id p hlt h1,h2,a,rfl,h3⟩
   ·rename_i hge;split at e
    ·rename_i g' sz' es hs;split at e
     ·rename_i hc;subst hc;split at e
      ·rename_i el hel;obtain⟨cs',e1,rfl⟩:=cI.1 e;rw[Ia]at e1;obtain⟨j1,j2,j3,j4,⟨arr,bt,j5,j6⟩,j7,j8,j9⟩:=h.heap.blk id p _ h1 hs;have ha:=h3 j1.symm;subst ha;simp only[ak];refine⟨p.b,_,rfl,by rw[h.w];exact(th.1 j5).1,h.Fg id p (by omega) h1,?_⟩;rw[j3];have j9:=(j8.nth hel).2.drop off;exact zK h d (λav b7 v _ e r=>sM h d _ _ _ e r) p.b _ cs' _ e1 j9
      ·cases e
     ·cases e
    ·cases e
  |.om id,_,e,r=>by
   simp only[A.bM]at e;simp only[ak]at r;obtain⟨p,h1,h2,rfl⟩:=r;split at e
   ·rename_i hlt;injection e with e;subst e
    simp only[ak];exact⟨p,h.E id p hlt h1,h2,rfl⟩
   ·rename_i hge;split at e
    ·rename_i es hs;obtain⟨es',e1,rfl⟩:=cI.1 e;rw[NW]at e1;obtain⟨j1,aX,bg,j2,jw,j3⟩:=h.heap.blk id p _ h1 hs;simp only[ak];exact⟨p.b,rfl,by rw[h.w];exact(th.1 j2).1,h.Fg id p (by omega) h1,aX,bg,by rw[h.w];exact j2,jw,_,Eo h d (λav b7 v _ e r=>sM h d _ _ _ e r) _ es' _ e1 j3,.inl rfl⟩
    ·cases e
  |.os id g sz off len,_,e,r=>by
   simp only[A.bM]at e;simp only[ak]at r;obtain⟨hg,p,h1,h2,q,cap,rfl,h3,r⟩:=r;split at e
   ·rename_i hlt;injection e with e;subst e
    simp only[ak];exact⟨hg,p,h.E id p hlt h1,h2,q,cap,rfl,h3,r⟩
   ·rename_i hge;split at e
    ·rename_i g' sz' es hs;split at e
     ·rename_i hc;obtain⟨rfl,rfl,hle⟩:=hc;obtain⟨es',e1,rfl⟩:=cI.1 e;rw[Br]at e1;obtain⟨j1,j2,j3,j4,⟨arr,bt,j5,j6⟩,j7,j8,j9⟩:=h.heap.blk id p _ h1 hs;obtain⟨k1,k2,k3⟩:=r j1.symm;have hl:=Bm d _ _ e1;have rO:((es.drop off).take len).length=len:=by simp;omega
      simp only[ak];refine⟨some q,cap,by rw[hl,rO],by rw[hl,rO];exact h3,j4,?_⟩;by_cases hz:len=0
      ·left;apply uA;rw[hl,rO,hz]
      ·right
       have hq:q=⟨p.b,p.base+off*p.sz,none⟩:=by
        rcases k2 with k2|k2
        ·omega
        ·exact k2
       refine⟨p.b,p.base+off*p.sz,by rw[hq],by rw[h.w];exact(th.1 j5).1,h.Fg id p (by omega) h1,?_⟩;refine Bq h d (λav b7 v _ e r=>sM h d _ _ _ e r) sz p.b _ es' _ e1 ?_;rw[j3];exact(j8.drop off).take len
     ·cases e
    ·cases e)
end
section
variable {c c' : RC} {σ : Heap} {n : Nat}
theorem VM{es es':List (AV×AV)}(hp:es.Perm es'):∀{l:List MapEntry},bR c es l→∃l',bR c es' l'∧l'.Perm l:=by
 induction hp with
 |nil=>intro l h;exact⟨l,h,.refl _⟩
 |cons x _ ih=>intro l h;obtain⟨e,l1,rfl,h2,h3,h4⟩:=h;obtain⟨l',k1,k2⟩:=ih h4;exact⟨e::l',⟨_,_,rfl,h2,h3,k1⟩,k2.cons e⟩
 |swap x y l0=>intro l h;obtain⟨e,l1,rfl,h2,h3,e',l2,rfl,h4,h5,h6⟩:=h;exact⟨e'::e::l2,⟨_,_,rfl,h4,h5,_,_,rfl,h2,h3,h6⟩,.swap _ _ _⟩
 |trans _ _ ih1 ih2=>intro l h;obtain⟨l1,k1,k2⟩:=ih1 h;obtain⟨l2,k3,k4⟩:=ih2 k1;exact⟨l2,k3,k4.trans k2⟩
theorem Vk(es:List (AV×AV)):(A.PR es).Perm es:=Classical.choose_spec (p:=λl:List (AV×AV)=>l.Perm es) ⟨es,.refl _⟩
theorem WQ{x:AV}{v:Value}(r:ak c x v):ak c (A.can x) v:=by
 cases x<;>try exact r
 case fm es=>
  unfold A.can;simp only;split
  ·rename_i hd;simp only[ak]at r ⊢;obtain⟨b,e,hb,hx,aX,bg,k1,kw,l,k2,k3⟩:=r;have hp:=Vk es;obtain⟨l',j1,j2⟩:=VM hp.symm k2;refine⟨b,e,hb,hx,aX,bg,k1,kw,l',j1,.inr ⟨?_,?_⟩⟩
   ·rcases k3 with rfl|⟨k3,_⟩
    ·exact j2
    ·exact j2.trans k3
   ·exact⟨λp hp'=>hd.1 p (hp.mem_iff.1 hp'),(hp.map _).nodup_iff.2 hd.2⟩
  ·exact r
theorem Hj{b:Nat}:∀{l:List AV}{off:Nat},aZ c b off l→aZ c b off (l.map A.can)
 |[],off,_=>by simp [aZ]
 |x::l,off,r=>by simp only[fP,aZ]at r ⊢;obtain⟨⟨v,h1,h2,h3⟩,h4⟩:=r;exact⟨⟨v,h1,h2,WQ h3⟩,Hj h4⟩
theorem Hl{sz b:Nat}:∀{l:List (List AV)}{off:Nat},bh c sz b off l→bh c sz b off (l.map (·.map A.can))
 |[],off,_=>by simp [bh]
 |x::l,off,r=>by simp only[fP,bh,List.length_map]at r ⊢;exact⟨r.1,Hj r.2.1,Hl r.2.2⟩
theorem We(h:qX c c' σ n){p:Pl}{x x':bu}(e:A.Jb σ n x=some x')(k:l5 c p x):l5 c' p x':=by
 have hos:∀av b7 v,xF av=true→A.bM σ n 8 av=some b7→ak c av v→ak c' b7 v:=λav b7 v _ e r=>sM h 8 _ _ _ e r
 cases x with
 |box cs=>obtain⟨cs',e1,rfl⟩:=cI.1 e;obtain⟨h1,⟨⟨arr,t,h2,h3⟩,h4⟩⟩:=k;exact⟨h1,⟨arr,t,by rw[h.w];exact h2,by rw[List.length_map,HJ 8 _ _ e1];exact h3⟩,Hj (zK h 8 hos _ _ _ _ e1 h4)⟩
 |arr g sz es=>obtain⟨es',e1,rfl⟩:=cI.1 e;obtain⟨h1,h2,h3,h4,⟨arr,t,h5,h6⟩,h7,h8,h9⟩:=k;exact⟨h1,h2,h3,h4,⟨arr,t,by rw[h.w];exact h5,h6⟩,by rw[List.length_map,Bm 8 _ _ e1];exact h7,Hl (Bq h 8 hos _ _ _ _ _ e1 h8),λarr t fz e=>h9 arr t fz (by rw[←h.w];exact e)⟩
 |kR g sz es=>obtain⟨es',e1,rfl⟩:=cI.1 e;obtain⟨h1,h2,h3,h4,⟨arr,t,h5,h6⟩,h7,h8,h9⟩:=k;exact⟨h1,h2,h3,h4,⟨arr,t,by rw[h.w];exact h5,h6⟩,by rw[List.length_map,Bm 8 _ _ e1];exact h7,Hl (Bq h 8 hos _ _ _ _ _ e1 h8),λarr t fz e=>h9 arr t fz (by rw[←h.w];exact e)⟩
 |map es=>obtain⟨es',e1,rfl⟩:=cI.1 e;obtain⟨h1,aX,bg,h2,hwf,h3⟩:=k;exact⟨h1,aX,bg,by rw[h.w];exact h2,hwf,Eo h 8 hos _ _ _ e1 h3⟩
 |it cur left=>cases e
theorem MC{n:Nat}:∀{FM FN τ:Heap},A.Ae σ n FM FN=some τ→τ.length=FM.length∧FM.length≤FN.length∧∀(i:Nat)x,τ[i]? =some x→∃b b',FM[i]? =some b∧FN[i]? =some b'∧((b'=b∧x=b)∨A.Jb σ n b'=some x)
 |[],FN,τ,h=>by simp only[A.Ae]at h;injection h with h;subst h;simp
 |_::_,[],τ,h=>by simp [A.Ae]at h
 |b::r,b'::r',τ,h=>by
  simp only[A.Ae]at h;obtain⟨y,h1,h2⟩:=bk.1 h;obtain⟨Dp,h3,rfl⟩:=cI.1 h2;obtain⟨k1,k2,k3⟩:=MC h3;refine⟨by simp [k1],by simp;omega,λi x hi=>?_⟩;cases i with
  |zero=>
   simp only[List.getElem?_cons_zero,Option.some.injEq]at hi;subst hi;refine⟨b,b',rfl,rfl,?_⟩;split at h1
   ·rename_i e;injection h1 with h1
    exact .inl ⟨e,h1.symm⟩
   ·exact .inr h1
  |succ i=>exact k3 i x hi
end
section
variable {X : Fx}
def mP.Ok:mP→Prop
 |.N g=>∀c a v,ak c a v→ak c (g a) v
 |_=>True
theorem xg(hs:cR X){f:FuncId}{fn:Func}{keep:mP}(hkeep:keep.Ok){bN:jC}{args:List AV}{σ σ':Heap}{r:AV}(hf:X.P.funcs[f]? =some fn)(EZ:∀cz w,(callFunc f cz).run X.P w=.ok (.enter f cz) w)
  (hr:mS X keep bN fn args σ=some (r,σ')):lA X.P X.nm f args σ r σ':=by
 refine .inl ⟨f,EZ,λz vs hnm hlt hh ha=>?_⟩;unfold mS at hr;cases hb:fn.body with
 |none=>rw[hb]at hr;cases hr
 |some c=>
  rw[hb]at hr;simp only at hr;cases hc:(Nat.ble args.length fn.ntmps&&X.n==fn.ntmps)
  ·rw[hc]at hr;cases hr
  ·rw[hc]at hr;simp only[Bool.not_true,aV]at hr;simp only[eN,beq_iff_eq]at hc;obtain⟨qF,mX⟩:=hc;have hle:args.length≤fn.ntmps:=Nat.le_of_ble_eq_true qF;have hal:=ha.length;have aaU:args.length=vs.size:=by simpa using hal
   have hst:St X z ⟨args++List.replicate (fn.ntmps-args.length) (.aD []),λ_=>none,σ⟩ {tmps:=vs++Array.replicate (fn.ntmps-vs.size) undef,defers:=[]} z.w z.E b9:=by
    have Py:∀i av,(args++List.replicate (fn.ntmps-args.length) (.aD []))[i]? =some av→ak (ctx z z.w z.E b9) av ((vs++Array.replicate (fn.ntmps-vs.size) undef).getD i undef):=by
     intro i av hi;by_cases hlt':i<args.length
     ·rw[fH hlt']at hi;obtain⟨v,k1,k2⟩:=ha.nth hi
      have:(vs++Array.replicate (fn.ntmps-vs.size) undef).getD i undef=v:=by rw[kM,Array.getElem?_append_left (by omega),←Array.getElem?_toList,k1];rfl
      rw[this];exact k2
     ·rw[fD (by omega)]at hi;have hm:=cM hi;rw[List.mem_replicate]at hm;rw[hm.2]
      have:(vs++Array.replicate (fn.ntmps-vs.size) undef).getD i undef=undef:=by rw[kM,Array.getElem?_append_right (by omega),Array.getElem?_replicate];split<;>rfl
      rw[this];simp only[ak];exact⟨#[],rfl,by simp [aG]⟩
    refine⟨by simp;omega,by simp;omega,λi av hi=>Slot.of (Py i av hi),λi cs hi=>?_,(λt p hp=>by cases hp),(λi b hb=>by cases hb),(λi j b hb=>by cases hb),hh,rfl,?_,hnm.symm⟩
    ·have:=Py i _ hi;simp [ak]at this
    ·exact⟨rfl,rfl,rfl,bU _,λ_ _ _=>rfl,λi p hp=>.inr ⟨p,hp,rfl⟩,λi p hp=>⟨p,hp,.inl rfl⟩,hlt,λp hp=>hh.lt hp⟩
   refine calls_of_wp hf hb (sL hs c bN _ _ _ _ _ _ _ _ hr hst λe s' a' w' E' bB h' _ hk=>?_)
   have hno:Ext (ctx z w' E' bB) (ctx z w' E' b9):=Ext.same rfl rfl (λb k=>by
    rcases k with k|k|⟨i,k⟩
    ·exact .inl k
    ·exact .inr (.inl k)
    ·cases k) rfl
   have PV:∀(x:AV)(v:Value)(r:AV)(σ':Heap),ak (ctx z w' E' bB) x v→A.fin σ x s'.σ=some (r,σ')→∃gb,Out z w' gb∧eS (ctx z w' gb b9) σ'∧ak (ctx z w' gb b9) r v:=by
     intro x v r σ' rv k3;unfold A.fin at k3;split at k3
     ·rename_i he;simp only[Option.some.injEq,Prod.mk.injEq]at k3;obtain⟨rfl,rfl⟩:=k3;exact⟨E',h'.out,by rw[←he];exact h'.heap.mono hno rfl (λp hp=>rfl),ak.mono hno _ _ rv⟩
     ·split at k3
      ·rename_i he;obtain⟨r',k6,k7⟩:=cI.1 k3;simp only[Prod.mk.injEq]at k7;obtain⟨rfl,rfl⟩:=k7;have hlen:=h'.heap.len;simp only[ctx]at hlen;have hzl:z.E.length=σ.length:=hh.len
       have PZ:σ.length≤s'.σ.length:=by have:=congrArg List.length he;simp at this;omega
       have jH:∀(id:Nat)(p:Pl),id<σ.length→E'[id]? =some p→(E'.take σ.length)[id]? =some p:=λid p hlt' hp=>by rw[List.getElem?_take_of_lt hlt'];exact hp
       have mh:∀(id:Nat)(p:Pl),(E'.take σ.length)[id]? =some p→id<σ.length∧E'[id]? =some p:=λid p hp=>by
        rw[List.getElem?_take]at hp;split at hp
        ·exact⟨by assumption,hp⟩
        ·cases hp
       have oo:qX (ctx z w' E' bB) (ctx z w' (E'.take σ.length) b9) s'.σ σ.length:=by
        refine⟨rfl,rfl,λb k=>?_,jH,h'.heap,λid p hge hp k=>?_⟩
        ·rcases k with k|⟨p,hp,k⟩|⟨i,k⟩
         ·exact .inl k
         ·exact .inr (.inl ⟨p,uC hp,k⟩)
         ·cases k
        ·rcases k with k|⟨q,hq,k⟩|⟨i,k⟩
         ·have hb:=hlt _ k;rcases h'.out.fresh' id p hp with e|⟨q,hq,_⟩
          ·omega
          ·rw[kN (by omega)]at hq;cases hq
         ·obtain⟨j,hj,rfl⟩:=List.mem_iff_getElem.1 hq;obtain⟨h1,h2⟩:=mh j _ (cu hj);have:=h'.heap.inj j id _ p h2 hp k;omega
         ·cases k
       have heq:∀(id:Nat),id<σ.length→σ[id]? =s'.σ[id]? :=λid hlt'=>by have h1:(List.take σ.length s'.σ)[id]? =s'.σ[id]? :=List.getElem?_take_of_lt hlt';rw[he]at h1;exact h1
       have held:rD (ctx z z.w z.E b9) (ctx z w' E' bB) (ctx z w' (E'.take σ.length) b9):=
        ⟨rfl,rfl,oo.X,λid p0 p e0 e1=>jH id p (by have:=(cq.1 e0).1;simp only[ctx]at this;omega) e1⟩
       refine⟨E'.take σ.length,?_,?_,sM oo 8 _ _ _ k6 rv⟩
       ·have o:=h'.out
        exact⟨o.os,o.tape,o.output,o.size,o.stay,λi p hp=>o.fresh' i p (mh i p hp).2,λi p hp=>by
         obtain⟨p',m1,m2⟩:=o.env i p hp
         exact⟨p',jH i p' (by have:=(cq.1 hp).1;omega) m1,m2⟩,o.lt,o.mine⟩
       ·refine⟨by simp only[ctx,kP];omega,λi j p q hp hq e=>h'.heap.inj i j p q (mh i p hp).2 (mh j q hq).2 e,λi p x hp hx=>?_⟩;obtain⟨hi,hp2⟩:=mh i p hp;have dj:z.E[i]? =some z.E[i]:=cu (by omega);exact Ee held (hh.blk i _ x dj hx) (h'.heap.blk i p x hp2 (by rw[←heq i hi];exact hx))
      ·cases k3
   have Cb:∀(x:AV)(v:Value)(r:AV)(σ':Heap),ak (ctx z w' E' bB) x v→A.Cb σ x s'.σ=some (r,σ')→∃gb,Out z w' gb∧eS (ctx z w' gb b9) σ'∧ak (ctx z w' gb b9) r v:=by
     intro x v r σ' rv k3;unfold A.Cb at k3;obtain⟨τ,q0,k4⟩:=bk.1 k3;obtain⟨r',k6,k7⟩:=cI.1 k4;simp only[Prod.mk.injEq]at k7;obtain⟨rfl,rfl⟩:=k7;obtain⟨q1,PZ,q3⟩:=MC q0;have hlen:=h'.heap.len;simp only[ctx]at hlen;have hzl:z.E.length=σ.length:=hh.len;have jH:∀(id:Nat)(p:Pl),id<σ.length→E'[id]? =some p→(E'.take σ.length)[id]? =some p:=λid p hlt' hp=>by rw[List.getElem?_take_of_lt hlt'];exact hp
     have mh:∀(id:Nat)(p:Pl),(E'.take σ.length)[id]? =some p→id<σ.length∧E'[id]? =some p:=λid p hp=>by
      rw[List.getElem?_take]at hp;split at hp
      ·exact⟨by assumption,hp⟩
      ·cases hp
     have oo:qX (ctx z w' E' bB) (ctx z w' (E'.take σ.length) b9) s'.σ σ.length:=by
      refine⟨rfl,rfl,λb k=>?_,jH,h'.heap,λid p hge hp k=>?_⟩
      ·rcases k with k|⟨p,hp,k⟩|⟨i,k⟩
       ·exact .inl k
       ·exact .inr (.inl ⟨p,uC hp,k⟩)
       ·cases k
      ·rcases k with k|⟨q,hq,k⟩|⟨i,k⟩
       ·have hb:=hlt _ k;rcases h'.out.fresh' id p hp with e|⟨q,hq,_⟩
        ·omega
        ·rw[kN (by omega)]at hq;cases hq
       ·obtain⟨j,hj,rfl⟩:=List.mem_iff_getElem.1 hq;obtain⟨h1,h2⟩:=mh j _ (cu hj);have:=h'.heap.inj j id _ p h2 hp k;omega
       ·cases k
     have held:rD (ctx z z.w z.E b9) (ctx z w' E' bB) (ctx z w' (E'.take σ.length) b9):=
      ⟨rfl,rfl,oo.X,λid p0 p e0 e1=>jH id p (by have:=(cq.1 e0).1;simp only[ctx]at this;omega) e1⟩
     refine⟨E'.take σ.length,?_,?_,sM oo 8 _ _ _ k6 rv⟩
     ·have o:=h'.out
      exact⟨o.os,o.tape,o.output,o.size,o.stay,λi p hp=>o.fresh' i p (mh i p hp).2,λi p hp=>by
       obtain⟨p',m1,m2⟩:=o.env i p hp
       exact⟨p',jH i p' (by have:=(cq.1 hp).1;omega) m1,m2⟩,o.lt,o.mine⟩
     ·refine⟨by simp only[ctx,kP];omega,λi j p q hp hq e=>h'.heap.inj i j p q (mh i p hp).2 (mh j q hq).2 e,λi p x hp hx=>?_⟩;obtain⟨hi,hp2⟩:=mh i p hp;obtain⟨b,b',m1,m2,m3⟩:=q3 i x hx;rcases m3 with⟨rfl,rfl⟩|m3
      ·have dj:z.E[i]? =some z.E[i]:=cu (by omega);exact Ee held (hh.blk i _ x dj m1) (h'.heap.blk i p x hp2 m2)
      ·exact We oo m3 (h'.heap.blk i p b' hp2 m2)
   have done:∀(hk:uJ X s' fn.results.toList (λvs=>keep.run args σ (one vs) s'.σ)=some (r,σ')),
     a'.defers=[]∧∃v,(results fn a'.tmps).run X.P w'=.ok v w'∧∃v' E',Ending.returned v=.returned v'∧Out z w' E'∧eS (ctx z w' E' b9) σ'∧ak (ctx z w' E' b9) r v':=by
    intro hk;refine⟨h'.defers,?_⟩;obtain⟨us,kg,k1,k2,k3⟩:=HN h' _ _ _ hk;obtain⟨v,k4,k5⟩:=Ut k1;have rv:=k5 _ _ k2;refine⟨v,k4,v,?_⟩
    have kept:∃E',Ending.returned v=.returned v∧Out z w' E'∧eS (ctx z w' E' b9) s'.σ∧ak (ctx z w' E' b9) (one kg) v:=
     ⟨E',rfl,h'.out,h'.heap.mono hno rfl (λp hp=>rfl),ak.mono hno _ _ rv⟩
    cases keep with
    |K=>simp only[mP.run,Option.some.injEq,Prod.mk.injEq]at k3;obtain⟨rfl,rfl⟩:=k3;exact kept
    |F=>obtain⟨gb,q1,q2,q3⟩:=PV _ _ _ _ rv k3;exact⟨gb,rfl,q1,q2,q3⟩
    |G=>obtain⟨gb,q1,q2,q3⟩:=Cb _ _ _ _ rv k3;exact⟨gb,rfl,q1,q2,q3⟩
    |N g=>simp only[mP.run]at k3;obtain⟨⟨r0,aO⟩,k6,k7⟩:=cI.1 k3;simp only[Prod.mk.injEq]at k7;obtain⟨rfl,rfl⟩:=k7;obtain⟨gb,q1,q2,q3⟩:=PV _ _ _ _ rv k6;exact⟨gb,rfl,q1,q2,hkeep _ _ _ q3⟩
    |R=>
     simp only[mP.run]at k3;obtain⟨x,hx⟩:∃x,x=one kg:=⟨_,rfl⟩
     rw[←hx]at rv k3 kept;unfold A.renew at k3;split at k3
     ·rename_i id g sz off len;split at k3
      ·rename_i g' sz' es hs';split at k3
       ·rename_i hc;obtain⟨rfl,rfl,hle,aaZ⟩:=hc;simp only[ak]at rv;obtain⟨hg,p,e1,e2,qa,cp,rfl,hcap,rx⟩:=rv;obtain⟨j1,j2,j3,j4,⟨arr,bt,j5,j6⟩,j7,j8,j9⟩:=h'.heap.blk id p _ e1 hs';obtain⟨q1,q2,q3⟩:=rx j1.symm;have hid:id<E'.length:=(cq.1 e1).1;have lS:((es.drop off).take len).length=len:=by simp;omega
        have hmul:(off+len)*sz≤es.length*sz:=mO _ hle;rw[fM]at hmul;split at k3
        ·simp only[Option.some.injEq,Prod.mk.injEq]at k3;obtain⟨rfl,rfl⟩:=k3
         have AE:=h'.move (id:=id) (p:=p) (p':=⟨p.b,p.base+off*sz,A.gen args+1,sz,p.mU⟩) (w':=w') (blk:=.arr (A.gen args+1) sz ((es.drop off).take len)) e1
          ⟨by omega,by show p.g<A.gen args+1;omega⟩ rfl rfl rfl (bU _) (λb _ _=>rfl) (.inl rfl) (λhx=>by
           refine⟨rfl,by show 0<A.gen args+1;omega,rfl,j4,⟨arr,bt,j5,j6⟩,?_,?_,j9⟩
           ·rw[lS];show p.base+off*sz+len*sz≤p.mU;omega
           ·exact bh.mono hx sz p.b rfl _ _ ((j8.drop off).take len))
         have ZI:Ext (ctx z w' (E'.set id ⟨p.b,p.base+off*sz,A.gen args+1,sz,p.mU⟩) bB) (ctx z w' (E'.set id ⟨p.b,p.base+off*sz,A.gen args+1,sz,p.mU⟩) b9):=Ext.same rfl rfl (λb k=>by
          rcases k with k|k|⟨i,k⟩
          ·exact .inl k
          ·exact .inr (.inl k)
          ·cases k) rfl
         refine⟨_,rfl,AE.1.out,AE.1.heap.mono ZI rfl (λp hp=>rfl),?_⟩;simp only[ak];refine⟨by omega,⟨p.b,p.base+off*sz,A.gen args+1,sz,p.mU⟩,by simp [ctx,hid],bU _,qa,cp,rfl,hcap,λ_=>⟨rfl,?_,?_⟩⟩
         ·rcases q2 with q2|q2
          ·exact .inl q2
          ·exact .inr (by rw[q2,q1];simp)
         ·simp only[Nat.zero_add];rw[q1,fM]at q3;omega
        ·unfold A.merge at k3;split at k3
         ·rename_i gD g0 Jt lK Jo rest _ _ _;split at k3
          ·rename_i g1 vw qC hs0;split at k3
           ·rename_i IN;obtain⟨aaY,aaA,rfl,hg1,hsame,hF,P9⟩:=IN;simp only[Option.some.injEq,Prod.mk.injEq]at k3;obtain⟨rfl,rfl⟩:=k3;have hzl:z.E.length=σ.length:=hh.len;have hEl:E'.length=s'.σ.length:=h'.heap.len;have ZD:gD<σ.length:=(cq.1 hs0).1;obtain⟨pz,AH⟩:∃pz,z.E[gD]? =some pz:=⟨_,cu (by omega)⟩
            obtain⟨y1,y2,y3,y4,y5,y6,y7,y8⟩:=hh.blk gD pz _ AH hs0;obtain⟨p'',rq⟩:∃p'':Pl,p''=⟨p.b,p.base+off*vw,A.gen (.os gD g0 Jt lK Jo::rest)+1,vw,p.mU⟩:=⟨_,rfl⟩
            have hne:id≠gD:=by omega
            have Pv:∀(j:Nat)(q p2:Pl),j≠gD→z.E[j]? =some q→E'[j]? =some p2→p2=q:=by
             intro j q p2 hj hq hp2;have hjl:j<σ.length:=by rw[←hzl];exact(cq.1 hq).1
             obtain⟨p3,m1,m2⟩:=h'.out.env j q hq;rw[hp2]at m1;injection m1 with m1;subst m1
             rcases m2 with m2|⟨m2,m3⟩
             ·exact m2
             ·have hsj:=hsame j hjl hj;have hx0:σ[j]? =some σ[j]:=cu hjl;have u1:=HV (hh.blk j q _ hq hx0);have u2:=HV (h'.heap.blk j p2 _ hp2 (by rw[hsj];exact hx0));omega
            have yP:∃p0,E'[gD]? =some p0:=⟨_,cu (by omega)⟩
            obtain⟨p0,yP⟩:=yP;have aa0:p0.g=g1:=HV (h'.heap.blk gD p0 _ yP hF)
            have hfr:z.w.heap.size≤p.b:=by
             rcases h'.out.fresh' id p e1 with k|⟨q,hq,_⟩
             ·exact k
             ·rw[kN (by omega)]at hq;cases hq
            have hm:p∈E':=cM e1
            have hx:Ext (ctx z w' E' bB) (ctx z w' (E'.set gD p'') b9):=by
             refine⟨bU _,λb hb hn=>⟨rfl,?_⟩,λj q hq=>?_,rfl⟩
             ·rintro(k|⟨q,hq,k⟩|⟨i,k⟩)
              ·exact hn (.inl k)
              ·rcases List.mem_or_eq_of_mem_set hq with hq|hq
               ·exact hn (.inr (.inl ⟨q,hq,k⟩))
               ·exact hn (.inr (.inl ⟨p,hm,by rw[←k,hq,rq]⟩))
              ·cases k
             ·by_cases e:gD=j
              ·subst e;simp only[ctx]at hq;rw[yP]at hq;injection hq with hq;subst hq
               exact⟨p'',by simp only[ctx];rw[l8 (cq.1 yP).1],.inr ⟨by omega,by rw[rq];show p0.g<A.gen (.os gD g0 Jt lK Jo::rest)+1;omega⟩⟩
              ·exact⟨q,by simp only[ctx]at hq ⊢;rw[List.getElem?_set_ne e];exact hq,.inl rfl⟩
            have CI:∀(j:Nat)(q:Pl),(z.E.set gD p'')[j]? =some q→(j=gD∧q=p'')∨(j≠gD∧z.E[j]? =some q):=λj q hq=>by
             by_cases e:gD=j
             ·subst e;rw[l8 (cq.1 AH).1]at hq;injection hq with hq;exact .inl ⟨rfl,hq.symm⟩
             ·rw[List.getElem?_set_ne e]at hq;exact .inr ⟨λe'=>e e'.symm,hq⟩
            have QY:∀(j:Nat)(q:Pl),j≠gD→z.E[j]? =some q→E'[j]? =some q:=λj q hj hq=>by have hjl:j<z.E.length:=(cq.1 hq).1;obtain⟨p3,m1,_⟩:=h'.out.env j q hq;rw[m1,Pv j q p3 hj hq m1]
            have held:rD (ctx z z.w z.E b9) (ctx z w' (E'.set gD p'') b9) (ctx z w' (z.E.set gD p'') b9):=by
             refine⟨rfl,rfl,λb k=>?_,λj q0 q J5 hq=>?_⟩
             ·rcases k with k|⟨q,hq,k⟩|⟨i,k⟩
              ·exact .inl k
              ·obtain⟨j,hj⟩:=Ai.1 hq;rcases CI j q hj with⟨e3,e4⟩|⟨e3,e4⟩
               ·subst e3;exact .inr (.inl ⟨q,cM (i:=j) (by rw[l8 (cq.1 yP).1,e4]),k⟩)
               ·exact .inr (.inl ⟨q,cM (i:=j) (by rw[List.getElem?_set_ne (λe=>e3 e.symm)];exact QY j q e3 e4),k⟩)
              ·cases k
             ·simp only[ctx]at J5 hq ⊢;by_cases e:gD=j
              ·subst e;rw[l8 (cq.1 yP).1]at hq;rw[l8 (cq.1 AH).1];exact hq
              ·rw[List.getElem?_set_ne e]at hq ⊢;rw[Pv j q0 q (λe'=>e e'.symm) J5 hq];exact J5
            refine⟨z.E.set gD p'',rfl,?_,?_,?_⟩
            ·have o:=h'.out;refine⟨o.os,o.tape,o.output,o.size,o.stay,λj q hq=>?_,λj q hq=>?_,o.lt,o.mine⟩
             ·rcases CI j q hq with⟨e3,e4⟩|⟨e3,e4⟩
              ·left;rw[e4,rq];exact hfr
              ·exact .inr ⟨q,e4,rfl⟩
             ·by_cases e:gD=j
              ·subst e;rw[AH]at hq;injection hq with hq;subst hq
               exact⟨p'',l8 (cq.1 AH).1,.inr ⟨by omega,by rw[rq];show pz.g<A.gen (.os gD g0 Jt lK Jo::rest)+1;omega⟩⟩
              ·exact⟨q,by rw[List.getElem?_set_ne e];exact hq,.inl rfl⟩
            ·refine⟨by simp [ctx,hzl],λi j q r hq hr he=>?_,λi q x hq cS=>?_⟩
             ·have P0:∀(j:Nat)(q:Pl),z.E[j]? =some q→q.b<z.w.heap.size:=λj q hq=>hh.lt (p:=q) (cM hq)
              rcases CI i q hq with⟨e3,e4⟩|⟨e3,e4⟩<;>rcases CI j r hr with⟨e5,e6⟩|⟨e5,e6⟩
              ·rw[e3,e5]
              ·have:=P0 j r e6;rw[e4,rq]at he;simp only at he;omega
              ·have:=P0 i q e4;rw[e6,rq]at he;simp only at he;omega
              ·exact hh.inj i j q r e4 e6 he
             ·rcases CI i q hq with⟨e3,e4⟩|⟨e3,e4⟩
              ·subst e3;rw[l8 ZD]at cS;injection cS with cS
               subst cS;subst e4;subst rq;refine⟨rfl,Nat.succ_pos _,rfl,j4,⟨arr,bt,j5,j6⟩,?_,?_,j9⟩
               ·rw[lS];show p.base+off*vw+len*vw≤p.mU;omega
               ·refine NR held vw p.b _ _ (λy hy=>?_) (bh.mono hx vw p.b rfl _ _ ((j8.drop off).take len));rcases P9 y hy with k|k
                ·obtain⟨i,hi⟩:=Ai.1 k;exact⟨_,_,(bh.nth y7 hi).2⟩
                ·exact NC ha y k
              ·rw[List.getElem?_set_ne (λe=>e3 e.symm)]at cS;have hil:i<σ.length:=(cq.1 cS).1;exact Ee held (hh.blk i q x e4 cS) ((h'.heap.blk i q x (QY i q e3 e4) (by rw[hsame i hil e3];exact cS)).mono hx rfl)
            ·simp only[ak];refine⟨Nat.succ_pos _,p'',by simp only[ctx];exact l8 (cq.1 AH).1,by rw[rq];exact bU _,qa,cp,by rw[lS],by rw[lS];exact hcap,λ_=>⟨by rw[rq],?_,?_⟩⟩
             ·rcases q2 with q2|q2
              ·exact .inl q2
              ·exact .inr (by rw[q2,q1,rq];simp)
             ·rw[rq];simp only[Nat.zero_add];rw[q1,fM]at q3;omega
           ·cases k3
          ·cases k3
         ·cases k3
       ·cases k3
      ·cases k3
     ·simp only[Option.some.injEq,Prod.mk.injEq]at k3;obtain⟨rfl,rfl⟩:=k3;exact kept
     ·simp only[Option.some.injEq,Prod.mk.injEq]at k3;obtain⟨rfl,rfl⟩:=k3;exact kept
     ·simp only[Option.some.injEq,Prod.mk.injEq]at k3;obtain⟨rfl,rfl⟩:=k3;exact kept
     ·cases k3
   cases e with
   |normal=>exact done hk
   |ret=>exact done hk
   |exit i=>cases hk
end
end
section
open Go.RowKit
inductive Sh where
 |k
 |s(sz:Nat)
 |e(sz:Nat)(l:List Sh)
 |a(l:List Sh)
 |t(l:List Sh)
 |p(l:List Sh)
namespace A
mutual
def nn:Sh→AV→AV
 |.k,v=>v
 |.s sz,v=>match v with|.au=>.sl sz []|.ez=>.sl sz []|v=>v
 |.e sz l,v=>match v with|.au=>.sl sz []|.ez=>.sl sz []|.sl sz' es=>.sl sz' (es.map (cj l))|v=>v
 |.a l,v=>match v with|.agg cs=>.agg (cj l cs)|v=>v
 |.t l,v=>match v with|.aD vs=>.aD (cj l vs)|v=>v
 |.p l,v=>match v with|.rp cs=>.rp (cj l cs)|v=>v
def cj:List Sh→List AV→List AV
 |[],vs=>vs
 |s::ss,vs=>match vs with|[]=>[]|v::vs=>nn s v::cj ss vs
end
def Jr:AV→Bool
 |.os ..=>true
 |.op ..=>true
 |.oe ..=>true
 |.om ..=>true
 |_=>false
def own:AV→Bool
 |.agg cs=>cs.any Jr
 |v=>Jr v
def qp:AV→Bool
 |.int ..=>true
 |.bool ..=>true
 |.str ..=>true
 |.np=>true
 |.au=>true
 |.ez=>true
 |.nm=>true
 |.tK=>true
 |.sl _ []=>true
 |_=>false
def o7:AV→Bool
 |.agg cs=>cs.all qp
 |v=>qp v
def yc:AV→Bool
 |.aD vs=>vs.all o7
 |v=>o7 v
def fresh(v:AV):Bool:=match v with
 |.os ..=>true
 |.om _=>true
 |v=>o7 v
def uj:AV→Bool
 |.aD vs=>vs.all fresh
 |v=>fresh v
def BH:bu→Bool
 |.box cs=>cs.all qp
 |.arr _ _ es=>es.all λe=>e.all qp
 |.map es=>es.all λp=>o7 p.1&&o7 p.2
 |_=>false
def shift(n:Nat)(v:AV):AV:=match v with
 |.os id g sz off len=>.os (id+n) g sz off len
 |.om id=>.om (id+n)
 |v=>v
def sW(n:Nat):AV→AV
 |.aD vs=>.aD (vs.map (shift n))
 |v=>shift n v
noncomputable def wrap (ro:Bool) (dB:List Sh) (dM:Sh) (r:List AV→Heap→Option (AV×Heap)) (args:List AV) (σ:Heap):Option (AV×Heap):=bif ro&&args.any own then (dr σ 0 8 args).bind λargs=>(r (cj dB args) []).bind λq=>bif uj (nn dM q.1)&&q.2.all BH then some (sW σ.length (nn dM q.1),σ++q.2)else none else(r (cj dB args) σ).map λq=>(nn dM q.1,q.2)
noncomputable def oA (sh:Sh) (m:List AV→Heap→Option (AV×Heap)) (args:List AV) (σ:Heap):Option (AV×Heap):=(m args σ).bind λp=>(fin σ p.1 p.2).map λq=>(nn sh q.1,q.2)
noncomputable def EP (m:List AV→Heap→Option (AV×Heap)) (args:List AV) (σ:Heap):Option (AV×Heap):=match args with
 |[.sl _ []]=>some (.ez,σ)
 |[.au]=>some (.ez,σ)
 |[.ez]=>some (.ez,σ)
 |[.os _ _ _ _ 0]=>some (.ez,σ)
 |_=>m args σ
end A
def Sound(P:Program)(nm:List Nat)(f:FuncId)(m:List AV→Heap→Option (AV×Heap)):Prop:=∀args σ r σ',m args σ=some (r,σ')→lA P nm f args σ r σ'
section
variable {P : Program} {nm : List Nat} {f : FuncId} {c c' : RC}
theorem OS{v:Value}(sz:Nat)(hsz:0<sz)(h:ak c .au v):ak c (.sl sz []) v:=by simp only[ak]at h ⊢;subst h;exact⟨none,0,rfl,bU _,hsz,.inl trivial⟩
theorem Pr{v:Value}(sz:Nat)(hsz:0<sz)(h:ak c .ez v):ak c (.sl sz []) v:=by simp only[ak]at h ⊢;obtain⟨a,rfl⟩:=h;exact⟨a,0,rfl,bU _,hsz,.inl trivial⟩
mutual
def Sh.ok:Sh→Bool
 |.k=>true
 |.s sz=>Nat.blt 0 sz
 |.e sz l=>Nat.blt 0 sz&&Sh.eY l
 |.a l=>Sh.eY l
 |.t l=>Sh.eY l
 |.p l=>Sh.eY l
def Sh.eY:List Sh→Bool
 |[]=>true
 |x::l=>x.ok&&Sh.eY l
end
theorem Oa:∀(l:List Sh)(cs:List AV),(A.cj l cs).length=cs.length
 |[],cs=>by simp [A.cj]
 |_::_,[]=>by simp [A.cj]
 |o::l,v::cs=>by simp [A.cj,Oa l cs]
mutual
theorem Aa:∀(s:Sh)(a:AV)(v:Value),s.ok=true→ak c a v→ak c (A.nn s a) v
 |.k,a,v,_,h=>by simpa [A.nn]using h
 |.s sz,a,v,ho,h=>by cases a<;>simp only[A.nn]<;>first|exact h|exact OS sz (by simpa [Sh.ok]using ho) h|exact Pr sz (by simpa [Sh.ok]using ho) h
 |.e sz l,a,v,ho,h=>by
  simp only[Sh.ok,eN]at ho;cases a<;>simp only[A.nn]<;>first|exact h|exact OS sz (by simpa using ho.1) h|exact Pr sz (by simpa using ho.1) h|skip
  simp only[ak]at h ⊢;obtain⟨a,cap,e,h1,h2,h3⟩:=h;refine⟨a,cap,by rw[List.length_map];exact e,by rw[List.length_map];exact h1,h2,?_⟩;rcases h3 with h3|⟨b,off,e1,e2,e3,e4⟩
  ·left;rw[h3];rfl
  ·right;exact⟨b,off,e1,e2,e3,OQ l ho.2 _ _ e4⟩
 |.a l,a,v,ho,h=>by
  simp only[Sh.ok]at ho;cases a<;>simp only[A.nn]<;>first|exact h|skip
  simp only[ak]at h ⊢;obtain⟨vs,e,h1,h2⟩:=h;exact⟨vs,e,BF l _ _ ho h1,h2⟩
 |.t ss,a,v,ho,h=>by
  simp only[Sh.ok]at ho;cases a<;>simp only[A.nn]<;>first|exact h|skip
  simp only[ak]at h ⊢;obtain⟨vs,e,h1⟩:=h;exact⟨vs,e,BF ss _ _ ho h1⟩
 |.p l,a,v,ho,h=>by
  simp only[Sh.ok]at ho;cases a<;>simp only[A.nn]<;>first|exact h|skip
  simp only[ak]at h ⊢;obtain⟨b,off,e,h1,h2,h3⟩:=h;exact⟨b,off,e,h1,h2,Iy l _ _ ho h3⟩
theorem BF:∀(ss:List Sh)(l:List AV)(vs:List Value),Sh.eY ss=true→aG c l vs→aG c (A.cj ss l) vs
 |[],l,vs,_,h=>by simpa [A.cj]using h
 |_::_,[],vs,_,h=>by simpa [A.cj]using h
 |s::ss,a::l,vs,ho,h=>by simp only[Sh.eY,eN]at ho;simp only[A.cj,aG]at h ⊢;obtain⟨v,vs',e,h1,h2⟩:=h;exact⟨v,vs',e,Aa s a v ho.1 h1,BF ss l vs' ho.2 h2⟩
theorem Iy{b:Nat}:∀(l:List Sh)(cs:List AV)(off:Nat),Sh.eY l=true→aZ c b off cs→aZ c b off (A.cj l cs)
 |[],cs,off,_,h=>by simpa [A.cj]using h
 |_::_,[],off,_,h=>by simpa [A.cj]using h
 |o::l,a::cs,off,ho,h=>by simp only[Sh.eY,eN]at ho;simp only[A.cj,aZ]at h ⊢;obtain⟨⟨v,h1,h2,h3⟩,h4⟩:=h;exact⟨⟨v,h1,h2,Aa o a v ho.1 h3⟩,Iy l cs (off+1) ho.2 h4⟩
theorem OQ{sz b:Nat}(l:List Sh)(hl:Sh.eY l=true):∀(es:List (List AV))(off:Nat),bh c sz b off es→bh c sz b off (es.map (A.cj l))
 |[],off,h=>by simp [bh]
 |e::es,off,h=>by simp only[fP,bh]at h ⊢;exact⟨by rw[Oa];exact h.1,Iy l e off hl h.2.1,OQ l hl es _ h.2.2⟩
end
theorem Hy:∀{a:AV}{v:Value},A.qp a=true→ak c a v→ak c' a v:=by
 intro a v h r;cases a<;>simp only[A.qp]at h<;>first|(cases h;done)|skip
 case sl sz es=>
  cases es with
  |nil=>simp only[ak]at r ⊢;obtain⟨q,cap,e,h1,h2,_⟩:=r;exact⟨q,cap,e,h1,h2,.inl trivial⟩
  |cons _ _=>simp at h
 all_goals simpa [ak]using r
theorem Mi:∀{l:List AV}{vs:List Value},l.all A.qp=true→aG c l vs→aG c' l vs
 |[],vs,_,r=>by simpa [aG]using r
 |a::l,vs,h,r=>by simp only[List.all_cons,eN]at h;simp only[aG]at r ⊢;obtain⟨v,vs',e,h1,h2⟩:=r;exact⟨v,vs',e,Hy h.1 h1,Mi h.2 h2⟩
theorem Hz{a:AV}{v:Value}(h:A.o7 a=true)(r:ak c a v):ak c' a v:=by
 unfold A.o7 at h;split at h
 ·simp only[ak]at r ⊢;obtain⟨vs,e,h1,h2⟩:=r;exact⟨vs,e,Mi h h1,h2⟩
 ·exact Hy h r
theorem lA.conv{args args':List AV}{σ σ':Heap}{r r':AV}(h:lA P nm f args' σ r σ')(ha:∀c vs,aG c args vs→aG c args' vs)(hr:∀c v,ak c r v→ak c r' v):lA P nm f args σ r' σ':=by
 rcases h with⟨g,h1,h2⟩|h
 ·refine .inl ⟨g,h1,λz vs e1 e2 e3 e4=>(h2 z vs e1 e2 e3 (ha _ _ e4)).mono ?_⟩;rintro e w' ⟨v,E',k1,k2,k3,k4⟩;exact⟨v,E',k1,k2,k3,hr _ _ k4⟩
 ·refine .inr λz vs e1 e2 e3 e4=>?_
  obtain⟨v,w',E',k1,k2,k3,k4⟩:=h z vs e1 e2 e3 (ha _ _ e4);exact⟨v,w',E',k1,k2,k3,hr _ _ k4⟩
theorem M1{z0 z:Z}{w':World}{E':List Pl}{n:Nat}(hn:n=z.E.length){a:AV}{v:Value}(h:A.fresh a=true)(r:ak (ctx z0 w' E' b9) a v):ak (ctx z w' (z.E++E') b9) (A.shift n a) v:=by
 have key:∀(id:Nat)(p:Pl),E'[id]? =some p→(z.E++E')[id+n]? =some p:=λid p hp=>by rw[fD (by omega),hn,Nat.add_sub_cancel];exact hp
 unfold A.fresh at h;unfold A.shift;split at h
 ·simp only[ak]at r ⊢;obtain⟨hg,p,h1,h2,r⟩:=r;exact⟨hg,p,key _ _ h1,h2,r⟩
 ·simp only[ak]at r ⊢;obtain⟨p,h1,h2,r⟩:=r;exact⟨p,key _ _ h1,h2,r⟩
 ·exact Hz h r
theorem Uy{z0 z:Z}{w':World}{E':List Pl}{n:Nat}(hn:n=z.E.length){vs:List AV}{v:Value}(h:vs.all A.fresh=true)(r:ak (ctx z0 w' E' b9) (.aD vs) v):ak (ctx z w' (z.E++E') b9) (A.sW n (.aD vs)) v:=by
 simp only[ak,A.sW]at r ⊢;obtain⟨us,rfl,r⟩:=r;refine⟨us,rfl,?_⟩;generalize us.toList=us' at r ⊢;induction vs generalizing us' with
 |nil=>simpa [aG]using r
 |cons x l ih=>simp only[List.all_cons,eN]at h;simp only[aG,fP]at r ⊢;obtain⟨v,vs',e,h1,h2⟩:=r;exact⟨v,vs',e,M1 hn h.1 h1,ih h.2 _ h2⟩
theorem U6{z0 z:Z}{w':World}{E':List Pl}{n:Nat}(hn:n=z.E.length){a:AV}{v:Value}(h:A.uj a=true)(r:ak (ctx z0 w' E' b9) a v):ak (ctx z w' (z.E++E') b9) (A.sW n a) v:=by
 by_cases ht:∃vs,a=.aD vs
 ·obtain⟨vs,rfl⟩:=ht;exact Uy hn h r
 ·have e1:A.uj a=A.fresh a:=by cases a<;>first|rfl|exact absurd ⟨_,rfl⟩ ht
  have e2:A.sW n a=A.shift n a:=by cases a<;>first|rfl|exact absurd ⟨_,rfl⟩ ht
  rw[e1]at h;rw[e2];exact M1 hn h r
theorem G2{b:Nat}:∀{l:List AV}{off:Nat},l.all A.qp=true→c'.w=c.w→aZ c b off l→aZ c' b off l
 |[],off,_,_,_=>by simp [aZ]
 |a::l,off,h,hw,r=>by simp only[List.all_cons,eN]at h;simp only[aZ]at r ⊢;obtain⟨⟨v,h1,h2,h3⟩,h4⟩:=r;exact⟨⟨v,by rw[hw];exact h1,h2,Hy h.1 h3⟩,G2 h.2 hw h4⟩
theorem LU{sz b:Nat}:∀{l:List (List AV)}{off:Nat},(l.all λe=>e.all A.qp)=true→c'.w=c.w→bh c sz b off l→bh c' sz b off l
 |[],off,_,_,_=>by simp [bh]
 |a::l,off,h,hw,r=>by simp only[List.all_cons,eN]at h;simp only[bh]at r ⊢;obtain⟨h1,h2,h3⟩:=r;exact⟨h1,G2 h.1 hw h2,LU h.2 hw h3⟩
theorem Mj:∀{l:List (AV×AV)}{es:List MapEntry},(l.all λp=>A.o7 p.1&&A.o7 p.2)=true→bR c l es→bR c' l es
 |[],es,_,r=>by simpa [bR]using r
 |(k,v)::l,es,h,r=>by simp only[List.all_cons,eN]at h;simp only[bR]at r ⊢;obtain⟨e,es',h1,h2,h3,h4⟩:=r;exact⟨e,es',h1,Hz h.1.1 h2,Hz h.1.2 h3,Mj h.2 h4⟩
theorem UL{p:Pl}{x:bu}(h:A.BH x=true)(hw:c'.w=c.w)(r:l5 c p x):l5 c' p x:=by
 cases x with
 |box cs=>obtain⟨h1,⟨⟨arr,t,h2,h3⟩,h4⟩⟩:=r;exact⟨h1,⟨arr,t,by rw[hw];exact h2,h3⟩,G2 h hw h4⟩
 |arr g sz es=>obtain⟨h1,h2,h3,h4,⟨arr,t,h5,h6⟩,h7,h8,h9⟩:=r;exact⟨h1,h2,h3,h4,⟨arr,t,by rw[hw];exact h5,h6⟩,h7,LU h hw h8,λarr t fz e=>h9 arr t fz (by rw[←hw];exact e)⟩
 |map es=>obtain⟨h1,aX,bg,h2,hwf,h3⟩:=r;exact⟨h1,aX,bg,by rw[hw];exact h2,hwf,Mj h h3⟩
 |kR g sz es=>cases h
 |it cur left=>cases h
theorem Nv{z:Z}{σ σ':Heap}{r:AV}{v:Value}{w':World}{E':List Pl}(e2:∀b,z.X b→b<z.w.heap.size)(hh:eS (ctx z z.w z.E b9) σ)(hv:A.uj r=true)(hb:σ'.all A.BH=true)
  (k2:Out ⟨z.w,[],λ_=>False,z.nm⟩ w' E') (k3:eS (ctx ⟨z.w,[],λ_=>False,z.nm⟩ w' E' b9) σ') (k4:ak (ctx ⟨z.w,[],λ_=>False,z.nm⟩ w' E' b9) r v):
  ∃gb,Out z w' gb∧eS (ctx z w' gb b9) (σ++σ')∧ak (ctx z w' gb b9) (A.sW σ.length r) v:=by
 have hlen:z.E.length=σ.length:=hh.len;have hlen':E'.length=σ'.length:=k3.len;have hst:∀b,b<z.w.heap.size→w'.heap[b]? =z.w.heap[b]? :=λb hb=>k2.stay b hb (λp hp=>by cases hp)
 have hlt:∀p∈z.E,p.b<z.w.heap.size:=λp hp=>hh.lt hp
 have hfr:∀p∈E',z.w.heap.size≤p.b:=λp hp=>by
  rcases k2.fresh p hp with k|⟨q,hq,_⟩
  ·exact k
  ·cases hq
 have hx:Ext (ctx z z.w z.E b9) (ctx z w' (z.E++E') b9):=by
  refine⟨k2.size,λb hb hn=>⟨hst b hb,?_⟩,λi p hp=>⟨p,?_,.inl rfl⟩,rfl⟩
  ·rintro(k|⟨p,hp,k⟩|⟨i,k⟩)
   ·exact hn (.inl k)
   ·rcases ew.1 hp with hp|hp
    ·exact hn (.inr (.inl ⟨p,hp,k⟩))
    ·have:=hfr p hp;simp only[ctx]at hb;omega
   ·cases k
  ·simp only[ctx]at hp ⊢;rw[fH (cq.1 hp).1];exact hp
 have key:∀(i:Nat)(p:Pl),(z.E++E')[i]? =some p→(i<z.E.length∧z.E[i]? =some p)∨(z.E.length≤i∧E'[i-z.E.length]? =some p):=λi p hp=>by
  by_cases hi:i<z.E.length
  ·rw[fH hi]at hp;exact .inl ⟨hi,hp⟩
  ·rw[fD (by omega)]at hp;exact .inr ⟨by omega,hp⟩
 refine⟨z.E++E',⟨k2.os,k2.tape,k2.output,k2.size,λb hb _=>hst b hb,λi p hp=>?_,λi p hp=>⟨p,?_,.inl rfl⟩,e2,hlt⟩,⟨by simp [ctx,hlen,hlen'],λi j p q hp hq e=>?_,λi p x hp cS=>?_⟩,U6 hlen.symm hv k4⟩
 ·rcases key i p hp with⟨_,k⟩|⟨_,k⟩
  ·exact .inr ⟨p,k,rfl⟩
  ·exact .inl (hfr p (cM k))
 ·rw[fH (cq.1 hp).1];exact hp
 ·simp only[ctx]at hp hq;rcases key i p hp with⟨i1,k⟩|⟨i1,k⟩<;>rcases key j q hq with⟨j1,m⟩|⟨j1,m⟩
  ·exact hh.inj i j p q k m e
  ·have:=hlt p (cM k);have:=hfr q (cM m);omega
  ·have:=hlt q (cM m);have:=hfr p (cM k);omega
  ·have:=k3.inj _ _ p q k m e;omega
 ·simp only[ctx]at hp;rcases key i p hp with⟨i1,k⟩|⟨i1,k⟩
  ·rw[fH (by omega)]at cS;exact(hh.blk i p x k cS).mono hx (hst _ (hlt p (cM k)))
  ·rw[fD (by omega),←hlen]at cS;exact UL (c:=ctx ⟨z.w,[],λ_=>False,z.nm⟩ w' E' b9) (ow.1 hb x (cM cS)) rfl (k3.blk _ p x k cS)
theorem lA.Jp{args args':List AV}{σ σ':Heap}{r:AV}(h:lA P nm f args' [] r σ')(ha:A.dr σ 0 8 args=some args')(hv:A.uj r=true)(hb:σ'.all A.BH=true):lA P nm f args σ (A.sW σ.length r) (σ++σ'):=by
 have hX:∀(z:Z)b,¬(ctx ⟨z.w,[],λ_=>False,z.nm⟩ z.w [] b9).X b:=by
  rintro z b (k|⟨p,hp,_⟩|⟨i,k⟩)
  ·exact k.elim
  ·cases hp
  ·cases k
 have oo:∀(z:Z),eS (ctx z z.w z.E b9) σ→qX (ctx z z.w z.E b9) (ctx ⟨z.w,[],λ_=>False,z.nm⟩ z.w [] b9) σ 0:=λz hh=>
  ⟨rfl,rfl,λb k=>(hX z b k).elim,λid p k=>absurd k (Nat.not_lt_zero _),hh,λid p _ _=>hX z _⟩
 have h0:∀(z:Z),eS (ctx ⟨z.w,[],λ_=>False,z.nm⟩ z.w [] b9) []:=λz=>by
  refine⟨rfl,λi j p q hp=>?_,λi p x hp=>?_⟩
  ·simp [ctx]at hp
  ·simp [ctx]at hp
 rcases h with⟨g,h1,h2⟩|h2
 ·refine .inl ⟨g,h1,λz vs e1 e2 hh e4=>?_⟩;have ha':aG (ctx ⟨z.w,[],λ_=>False,z.nm⟩ z.w [] b9) args' vs.toList:=zL (oo z hh) 8 (λav b7 v _ e r=>sM (oo z hh) 8 _ _ _ e r) _ _ _ ha e4;refine(h2 ⟨z.w,[],λ_=>False,z.nm⟩ vs e1 (λb k=>k.elim) (h0 z) ha').mono ?_;rintro e w' ⟨v,E',k1,k2,k3,k4⟩;obtain⟨gb,q1,q2,q3⟩:=Nv e2 hh hv hb k2 k3 k4;exact⟨v,gb,k1,q1,q2,q3⟩
 ·refine .inr λz vs e1 e2 hh e4=>?_
  have ha':aG (ctx ⟨z.w,[],λ_=>False,z.nm⟩ z.w [] b9) args' vs.toList:=zL (oo z hh) 8 (λav b7 v _ e r=>sM (oo z hh) 8 _ _ _ e r) _ _ _ ha e4;obtain⟨v,w',E',k1,k2,k3,k4⟩:=h2 ⟨z.w,[],λ_=>False,z.nm⟩ vs e1 (λb k=>k.elim) (h0 z) ha';obtain⟨gb,q1,q2,q3⟩:=Nv e2 hh hv hb k2 k3 k4;exact⟨v,w',gb,k1,q1,q2,q3⟩
theorem NT{z:Z}{w':World}{E':List Pl}{σ σ1 σ':Heap}{x r:AV}{v:Value}(hh:eS (ctx z z.w z.E b9) σ)(hlt:∀b,z.X b→b<z.w.heap.size)(ho:Out z w' E')(hr:eS (ctx z w' E' b9) σ1)(rv:ak (ctx z w' E' b9) x v)(k3:A.fin σ x σ1=some (r,σ')):
  ∃gb,Out z w' gb∧eS (ctx z w' gb b9) σ'∧ak (ctx z w' gb b9) r v:=by
 unfold A.fin at k3;split at k3
 ·rename_i he;simp only[Option.some.injEq,Prod.mk.injEq]at k3;obtain⟨rfl,rfl⟩:=k3;exact⟨E',ho,by rw[←he];exact hr,rv⟩
 ·split at k3
  ·rename_i he;obtain⟨r',k6,k7⟩:=cI.1 k3;simp only[Prod.mk.injEq]at k7;obtain⟨rfl,rfl⟩:=k7;have hlen:=hr.len;simp only[ctx]at hlen;have hzl:z.E.length=σ.length:=hh.len
   have PZ:σ.length≤σ1.length:=by have:=congrArg List.length he;simp at this;omega
   have jH:∀(id:Nat)(p:Pl),id<σ.length→E'[id]? =some p→(E'.take σ.length)[id]? =some p:=λid p hlt' hp=>by rw[List.getElem?_take_of_lt hlt'];exact hp
   have mh:∀(id:Nat)(p:Pl),(E'.take σ.length)[id]? =some p→id<σ.length∧E'[id]? =some p:=λid p hp=>by
    rw[List.getElem?_take]at hp;split at hp
    ·exact⟨by assumption,hp⟩
    ·cases hp
   have oo:qX (ctx z w' E' b9) (ctx z w' (E'.take σ.length) b9) σ1 σ.length:=by
    refine⟨rfl,rfl,λb k=>?_,jH,hr,λid p hge hp k=>?_⟩
    ·rcases k with k|⟨p,hp,k⟩|⟨i,k⟩
     ·exact .inl k
     ·exact .inr (.inl ⟨p,uC hp,k⟩)
     ·cases k
    ·rcases k with k|⟨q,hq,k⟩|⟨i,k⟩
     ·have hb:=hlt _ k;rcases ho.fresh' id p hp with e|⟨q,hq,_⟩
      ·omega
      ·rw[kN (by omega)]at hq;cases hq
     ·obtain⟨j,hj,rfl⟩:=List.mem_iff_getElem.1 hq;obtain⟨h1,h2⟩:=mh j _ (cu hj);have:=hr.inj j id _ p h2 hp k;omega
     ·cases k
   have heq:∀(id:Nat),id<σ.length→σ[id]? =σ1[id]? :=λid hlt'=>by have h1:(List.take σ.length σ1)[id]? =σ1[id]? :=List.getElem?_take_of_lt hlt';rw[he]at h1;exact h1
   have held:rD (ctx z z.w z.E b9) (ctx z w' E' b9) (ctx z w' (E'.take σ.length) b9):=
    ⟨rfl,rfl,oo.X,λid p0 p e0 e1=>jH id p (by have:=(cq.1 e0).1;simp only[ctx]at this;omega) e1⟩
   refine⟨E'.take σ.length,?_,?_,sM oo 8 _ _ _ k6 rv⟩
   ·have o:=ho
    exact⟨o.os,o.tape,o.output,o.size,o.stay,λi p hp=>o.fresh' i p (mh i p hp).2,λi p hp=>by
     obtain⟨p',m1,m2⟩:=o.env i p hp
     exact⟨p',jH i p' (by have:=(cq.1 hp).1;omega) m1,m2⟩,o.lt,o.mine⟩
   ·refine⟨by simp only[ctx,kP];omega,λi j p q hp hq e=>hr.inj i j p q (mh i p hp).2 (mh j q hq).2 e,λi p x hp hx=>?_⟩;obtain⟨hi,hp2⟩:=mh i p hp;have dj:z.E[i]? =some z.E[i]:=cu (by omega);exact Ee held (hh.blk i _ x dj hx) (hr.blk i p x hp2 (by rw[←heq i hi];exact hx))
  ·cases k3
theorem Sound.oA{m:List AV→Heap→Option (AV×Heap)}(h:Sound P nm f m)(sh:Sh)(hs:sh.ok=true):Sound P nm f (A.oA sh m):=by
 intro args σ r σ' e;unfold A.oA at e;obtain⟨⟨x,σ1⟩,e1,e2⟩:=bk.1 e;obtain⟨⟨y,σ2⟩,e3,e4⟩:=cI.1 e2;simp only[Prod.mk.injEq]at e4;obtain⟨rfl,rfl⟩:=e4;rcases h _ _ _ _ e1 with⟨g,h1,h2⟩|h2
 ·refine .inl ⟨g,h1,λz vs k1 k2 hh k4=>?_⟩;refine(h2 z vs k1 k2 hh k4).mono ?_;rintro e w' ⟨v,E',q1,q2,q3,q4⟩;obtain⟨gb,p1,p2,p3⟩:=NT hh k2 q2 q3 q4 e3;exact⟨v,gb,q1,p1,p2,Aa _ _ _ hs p3⟩
 ·refine .inr λz vs k1 k2 hh k4=>?_
  obtain⟨v,w',E',q1,q2,q3,q4⟩:=h2 z vs k1 k2 hh k4;obtain⟨gb,p1,p2,p3⟩:=NT hh k2 q2 q3 q4 e3;exact⟨v,w',gb,q1,p1,p2,Aa _ _ _ hs p3⟩
theorem Sound.wrap{r:List AV→Heap→Option (AV×Heap)}(h:Sound P nm f r)(ro:Bool)(dB:List Sh)(dM:Sh)(hi:Sh.eY dB=true)(ho:dM.ok=true):Sound P nm f (A.wrap ro dB dM r):=by
 intro args σ v σ' e;unfold A.wrap at e;cases hc:(ro&&args.any A.own)
 ·rw[hc]at e;simp only[aV]at e;obtain⟨q,e1,e2⟩:=cI.1 e;injection e2 with e2 e3
  subst e2 e3;exact(h _ _ _ _ e1).conv (λc vs k=>BF _ _ _ hi k) (λc v k=>Aa _ _ _ ho k)
 ·rw[hc]at e;simp only[bA]at e;obtain⟨args',e1,e2⟩:=bk.1 e;obtain⟨q,e3,e4⟩:=bk.1 e2;obtain⟨q1,q2⟩:=q;simp only at e4;cases hs:(A.uj (A.nn dM q1)&&q2.all A.BH)
  ·rw[hs]at e4;cases e4
  ·rw[hs]at e4;simp only[bA,Option.some.injEq,Prod.mk.injEq]at e4;obtain⟨rfl,rfl⟩:=e4;simp only[eN]at hs;exact((h _ _ _ _ e3).conv (args:=args') (λc vs k=>BF _ _ _ hi k) (λc v k=>Aa _ _ _ ho k)).Jp e1 hs.1 hs.2
end
theorem cR.of{X:Fx}{t:List (FuncId×(List AV→Heap→Option (AV×Heap)))}(hc:X.call=A.tab (λ_ _=>none) t) (ht:∀p∈t,Sound X.P X.nm p.1 p.2) (hd:∀f,Sound X.P X.nm f (X.dyn (X.nm.getD f 0))):cR X:=by
 refine⟨λf args σ r σ' h=>?_,λf=>hd f⟩;rw[hc]at h;clear hc;induction t with
 |nil=>cases h
 |cons p t ih=>
  obtain⟨m,x⟩:=p;simp only[A.tab]at h;cases hm:(f==m)
  ·rw[hm]at h;exact ih (λp hp=>ht p (uB _ hp)) h
  ·rw[hm]at h;have:f=m:=by simpa using hm
   subst this;exact ht (f,x) (List.mem_cons_self) _ _ _ _ h
theorem Sound.none{P:Program}{nm:List Nat}{f:FuncId}:Sound P nm f (λ_ _=>Option.none):=λ_ _ _ _ h=>by cases h
theorem aL.nil{P:Program}{nm:List Nat}:∀p∈([]:List (FuncId×(List AV→Heap→Option (AV×Heap)))),Sound P nm p.1 p.2:=λ_ h=>by cases h
theorem aL.cons{P:Program}{nm:List Nat}{f:FuncId}{m:List AV→Heap→Option (AV×Heap)}{l:List (FuncId×(List AV→Heap→Option (AV×Heap)))}(h:Sound P nm f m)(t:∀p∈l,Sound P nm p.1 p.2):∀p∈(f,m)::l,Sound P nm p.1 p.2:=
 λp hp=>by rcases eu.1 hp with rfl|hp;exact h;exact t p hp
theorem kQ.nil{P:Program}{nm:List Nat}:∀p∈([]:List (Nat×(List AV→Heap→Option (AV×Heap)))),∀f,nm.getD f 0=p.1→Sound P nm f p.2:=λ_ h=>by cases h
theorem kQ.cons{P:Program}{nm:List Nat}{k:Nat}{m:List AV→Heap→Option (AV×Heap)}{l:List (Nat×(List AV→Heap→Option (AV×Heap)))}(h:∀f,nm.getD f 0=k→Sound P nm f m)(t:∀p∈l,∀f,nm.getD f 0=p.1→Sound P nm f p.2):∀p∈(k,m)::l,∀f,nm.getD f 0=p.1→Sound P nm f p.2:=
 λp hp=>by rcases eu.1 hp with rfl|hp;exact h;exact t p hp
theorem uh{P:Program}{nm:List Nat}{t:List (Nat×(List AV→Heap→Option (AV×Heap)))}(ht:∀p∈t,∀f,nm.getD f 0=p.1→Sound P nm f p.2)(f:FuncId):Sound P nm f (A.tab (λ_ _=>Option.none) t (nm.getD f 0)):=by
 induction t with
 |nil=>exact Sound.none
 |cons p t ih=>
  obtain⟨k,x⟩:=p;simp only[A.tab];cases hm:(nm.getD f 0==k)
  ·exact ih (λp hp=>ht p (uB _ hp))
  ·exact ht (k,x) List.mem_cons_self f (by simpa using hm)
theorem Yt{nm:List Nat}{k g:Nat}(h:(nm.zipIdx.filter λp=>p.1==k)=[(k,g)]) (hk:(0==k)=false) {f:Nat} (hf:nm.getD f 0=k):f=g:=by
 have hlt:f<nm.length:=by
  rcases Nat.lt_or_ge f nm.length with e|e
  ·exact e
  ·simp only[List.getD,kN e,Option.getD_none]at hf;subst hf;simp at hk
 have:(k,f)∈nm.zipIdx.filter λp=>p.1==k:=by refine List.mem_filter.2 ⟨Ai.2 ⟨f,?_⟩,by simp⟩;simp only[List.getD]at hf;rw[cu hlt]at hf;simp [cu hlt,←hf]
 rw[h]at this;simpa using this
theorem ud{P:Program}{nm:List Nat}{k g:Nat}{m:List AV→Heap→Option (AV×Heap)}(hs:Sound P nm g m)(h:(nm.zipIdx.filter λp=>p.1==k)=[(k,g)]) (hk:(0==k)=false):∀f,nm.getD f 0=k→Sound P nm f m:=
 λf hf=>by have e:=Yt h hk hf;subst e;exact hs
def fuel(F:(Nat→List AV→Heap→Option (AV×Heap))→List (Nat×(List AV→Heap→Option (AV×Heap)))):Nat→Nat→List AV→Heap→Option (AV×Heap)
 |0,_=>λ_ _=>none
 |n+1,k=>A.tab (λ_ _=>none) (F (fuel F n)) k
theorem L6{P:Program}{nm:List Nat}{F:(Nat→List AV→Heap→Option (AV×Heap))→List (Nat×(List AV→Heap→Option (AV×Heap)))}
  (h:∀rec,(∀f,Sound P nm f (rec (nm.getD f 0)))→∀p∈F rec,∀f,nm.getD f 0=p.1→Sound P nm f p.2):∀n f,Sound P nm f (fuel F n (nm.getD f 0))
 |0,f=>Sound.none
 |n+1,f=>uh (h (fuel F n) (L6 h n)) f
namespace A
def eP(f:AV→Heap→Option (AV×Heap)):List AV→Heap→Option (AV×Heap)
 |[x0],σ=>f x0 σ
 |_,_=>none
def dA(f:AV→AV→Heap→Option (AV×Heap)):List AV→Heap→Option (AV×Heap)
 |[x0,x1],σ=>f x0 x1 σ
 |_,_=>none
def ke(f:AV→AV→AV→Heap→Option (AV×Heap)):List AV→Heap→Option (AV×Heap)
 |[x0,x1,x2],σ=>f x0 x1 x2 σ
 |_,_=>none
def yl(f:AV→AV→AV→AV→Heap→Option (AV×Heap)):List AV→Heap→Option (AV×Heap)
 |[x0,x1,x2,x3],σ=>f x0 x1 x2 x3 σ
 |_,_=>none
def nH(f:AV→AV→AV→AV→AV→Heap→Option (AV×Heap)):List AV→Heap→Option (AV×Heap)
 |[x0,x1,x2,x3,x4],σ=>f x0 x1 x2 x3 x4 σ
 |_,_=>none
def uU(f:AV→AV→AV→AV→AV→AV→Heap→Option (AV×Heap)):List AV→Heap→Option (AV×Heap)
 |[x0,x1,x2,x3,x4,x5],σ=>f x0 x1 x2 x3 x4 x5 σ
 |_,_=>none
def JF(f:AV→AV→AV→AV→AV→AV→AV→Heap→Option (AV×Heap)):List AV→Heap→Option (AV×Heap)
 |[x0,x1,x2,x3,x4,x5,x6],σ=>f x0 x1 x2 x3 x4 x5 x6 σ
 |_,_=>none
end A
section
variable {X : Fx} {f : FuncId} {fn : Func} {bN : jC}
theorem Sound.Ck{m:AV→Heap→Option (AV×Heap)}(keep:mP)(hkeep:keep.Ok)(hs:cR X)(hf:X.P.funcs[f]? =some fn)(hc:∀cz w,(callFunc f cz).run X.P w=.ok (.enter f cz) w)(he:∀(x0:AV) (σ:Heap),mS X keep bN fn [x0] σ=m x0 σ):Sound X.P X.nm f (A.eP m):=by
 intro args σ r σ' h;unfold A.eP at h;split at h
 ·exact xg hs hkeep hf hc ((he _ _).trans h)
 ·cases h
theorem Sound.uN{m:AV→AV→Heap→Option (AV×Heap)}(keep:mP)(hkeep:keep.Ok)(hs:cR X)(hf:X.P.funcs[f]? =some fn)(hc:∀cz w,(callFunc f cz).run X.P w=.ok (.enter f cz) w)(he:∀(x0 x1:AV) (σ:Heap),mS X keep bN fn [x0,x1] σ=m x0 x1 σ):Sound X.P X.nm f (A.dA m):=by
 intro args σ r σ' h;unfold A.dA at h;split at h
 ·exact xg hs hkeep hf hc ((he _ _ _).trans h)
 ·cases h
theorem Sound.xZ{m:AV→AV→AV→Heap→Option (AV×Heap)}(keep:mP)(hkeep:keep.Ok)(hs:cR X)(hf:X.P.funcs[f]? =some fn)(hc:∀cz w,(callFunc f cz).run X.P w=.ok (.enter f cz) w)(he:∀(x0 x1 x2:AV) (σ:Heap),mS X keep bN fn [x0,x1,x2] σ=m x0 x1 x2 σ):Sound X.P X.nm f (A.ke m):=by
 intro args σ r σ' h;unfold A.ke at h;split at h
 ·exact xg hs hkeep hf hc ((he _ _ _ _).trans h)
 ·cases h
theorem Sound.Qn{m:AV→AV→AV→AV→Heap→Option (AV×Heap)}(keep:mP)(hkeep:keep.Ok)(hs:cR X)(hf:X.P.funcs[f]? =some fn)(hc:∀cz w,(callFunc f cz).run X.P w=.ok (.enter f cz) w)(he:∀(x0 x1 x2 x3:AV) (σ:Heap),mS X keep bN fn [x0,x1,x2,x3] σ=m x0 x1 x2 x3 σ):Sound X.P X.nm f (A.yl m):=by
 intro args σ r σ' h;unfold A.yl at h;split at h
 ·exact xg hs hkeep hf hc ((he _ _ _ _ _).trans h)
 ·cases h
theorem Sound.Fl{m:AV→AV→AV→AV→AV→Heap→Option (AV×Heap)}(keep:mP)(hkeep:keep.Ok)(hs:cR X)(hf:X.P.funcs[f]? =some fn)(hc:∀cz w,(callFunc f cz).run X.P w=.ok (.enter f cz) w)(he:∀(x0 x1 x2 x3 x4:AV) (σ:Heap),mS X keep bN fn [x0,x1,x2,x3,x4] σ=m x0 x1 x2 x3 x4 σ):Sound X.P X.nm f (A.nH m):=by
 intro args σ r σ' h;unfold A.nH at h;split at h
 ·exact xg hs hkeep hf hc ((he _ _ _ _ _ _).trans h)
 ·cases h
theorem Sound.Js{m:AV→AV→AV→AV→AV→AV→Heap→Option (AV×Heap)}(keep:mP)(hkeep:keep.Ok)(hs:cR X)(hf:X.P.funcs[f]? =some fn)(hc:∀cz w,(callFunc f cz).run X.P w=.ok (.enter f cz) w)(he:∀(x0 x1 x2 x3 x4 x5:AV) (σ:Heap),mS X keep bN fn [x0,x1,x2,x3,x4,x5] σ=m x0 x1 x2 x3 x4 x5 σ):Sound X.P X.nm f (A.uU m):=by
 intro args σ r σ' h;unfold A.uU at h;split at h
 ·exact xg hs hkeep hf hc ((he _ _ _ _ _ _ _).trans h)
 ·cases h
theorem Sound.Z0{m:AV→AV→AV→AV→AV→AV→AV→Heap→Option (AV×Heap)}(keep:mP)(hkeep:keep.Ok)(hs:cR X)(hf:X.P.funcs[f]? =some fn)(hc:∀cz w,(callFunc f cz).run X.P w=.ok (.enter f cz) w)(he:∀(x0 x1 x2 x3 x4 x5 x6:AV) (σ:Heap),mS X keep bN fn [x0,x1,x2,x3,x4,x5,x6] σ=m x0 x1 x2 x3 x4 x5 x6 σ):Sound X.P X.nm f (A.JF m):=by
 intro args σ r σ' h;unfold A.JF at h;split at h
 ·exact xg hs hkeep hf hc ((he _ _ _ _ _ _ _ _).trans h)
 ·cases h
end
end
abbrev pG:List Sh:=[.k,.k,.k,.k,.k,.k,(.s 3)]
abbrev lI:Sh:=(.a [(.s 3),(.s 4)])
abbrev me:List Sh:=[.k,.k,(.s 3)]
section
set_option maxRecDepth 100000
noncomputable def aJ:List Nat:=[0,0,0,0,450,451,101,0,102,441,444,448,449,139,94,117,118,121,119,3,124,122,14,69,12,13,71,21,88,22,92,53,0,440,443,1,73,2,334,112,113,445,447,4,89,5,6,138,93,120,123,63,66,67,68,10,11,70,20,85,86,87,90,91,52,0,108,147,146,442,72,0,116,446,0,62,65,64,9,16,19,84,0,24,107,0,111,115,0,59,60,61,15,18,81,83,25,0,0,0,23,103,106,110,114,0,58,17,80,82,0,32,0,27,33,0,105,109,26,0,0,34,104,0,0,28,29,30,31,0,0,0,0,0,0,0,0,0,0,0,0,0,0,0,0,0]
section
variable {l : List (FuncId × (aq → Heap → aB))} {f : FuncId} {fn : Func} {ro : Bool} {dB : List Sh} {dM : Sh}
noncomputable def yH (l:List (FuncId×(aq→Heap→aB))) (L:List Nat) (n:Nat):Fx:=⟨Try.prog,aJ,A.tab (λ_ _=>none) l,λ_ _ _=>none,L,[],n,[]⟩
theorem q1{m:AV→Heap→aB}(L:List Nat)(n:Nat)(bN:jC)(h:∀p∈l,Sound Try.prog aJ p.1 p.2)(hf:Try.prog.funcs[f]? =some fn)(hc:∀cz w,(callFunc f cz).run Try.prog w=.ok (.enter f cz) w)(he:∀(x0:AV) (σ:Heap),mS (yH l L n) .F bN fn [x0] σ=m x0 σ)(hi:Sh.eY dB=true)(ho:dM.ok=true):Sound Try.prog aJ f (A.wrap ro dB dM (A.eP m)):=Sound.wrap (Sound.Ck .F trivial (cR.of rfl h λ_=>Sound.none) hf hc he) _ _ _ hi ho
theorem q2{m:AV→AV→Heap→aB}(L:List Nat)(n:Nat)(bN:jC)(h:∀p∈l,Sound Try.prog aJ p.1 p.2)(hf:Try.prog.funcs[f]? =some fn)(hc:∀cz w,(callFunc f cz).run Try.prog w=.ok (.enter f cz) w)(he:∀(x0 x1:AV) (σ:Heap),mS (yH l L n) .F bN fn [x0,x1] σ=m x0 x1 σ)(hi:Sh.eY dB=true)(ho:dM.ok=true):Sound Try.prog aJ f (A.wrap ro dB dM (A.dA m)):=Sound.wrap (Sound.uN .F trivial (cR.of rfl h λ_=>Sound.none) hf hc he) _ _ _ hi ho
theorem q3{m:AV→AV→AV→Heap→aB}(L:List Nat)(n:Nat)(bN:jC)(h:∀p∈l,Sound Try.prog aJ p.1 p.2)(hf:Try.prog.funcs[f]? =some fn)(hc:∀cz w,(callFunc f cz).run Try.prog w=.ok (.enter f cz) w)(he:∀(x0 x1 x2:AV) (σ:Heap),mS (yH l L n) .F bN fn [x0,x1,x2] σ=m x0 x1 x2 σ)(hi:Sh.eY dB=true)(ho:dM.ok=true):Sound Try.prog aJ f (A.wrap ro dB dM (A.ke m)):=Sound.wrap (Sound.xZ .F trivial (cR.of rfl h λ_=>Sound.none) hf hc he) _ _ _ hi ho
theorem q4{m:AV→AV→AV→AV→Heap→aB}(L:List Nat)(n:Nat)(bN:jC)(h:∀p∈l,Sound Try.prog aJ p.1 p.2)(hf:Try.prog.funcs[f]? =some fn)(hc:∀cz w,(callFunc f cz).run Try.prog w=.ok (.enter f cz) w)(he:∀(x0 x1 x2 x3:AV) (σ:Heap),mS (yH l L n) .F bN fn [x0,x1,x2,x3] σ=m x0 x1 x2 x3 σ)(hi:Sh.eY dB=true)(ho:dM.ok=true):Sound Try.prog aJ f (A.wrap ro dB dM (A.yl m)):=Sound.wrap (Sound.Qn .F trivial (cR.of rfl h λ_=>Sound.none) hf hc he) _ _ _ hi ho
theorem q5{m:AV→AV→AV→AV→AV→Heap→aB}(L:List Nat)(n:Nat)(bN:jC)(h:∀p∈l,Sound Try.prog aJ p.1 p.2)(hf:Try.prog.funcs[f]? =some fn)(hc:∀cz w,(callFunc f cz).run Try.prog w=.ok (.enter f cz) w)(he:∀(x0 x1 x2 x3 x4:AV) (σ:Heap),mS (yH l L n) .F bN fn [x0,x1,x2,x3,x4] σ=m x0 x1 x2 x3 x4 σ)(hi:Sh.eY dB=true)(ho:dM.ok=true):Sound Try.prog aJ f (A.wrap ro dB dM (A.nH m)):=Sound.wrap (Sound.Fl .F trivial (cR.of rfl h λ_=>Sound.none) hf hc he) _ _ _ hi ho
theorem q6{m:AV→AV→AV→AV→AV→AV→Heap→aB}(L:List Nat)(n:Nat)(bN:jC)(h:∀p∈l,Sound Try.prog aJ p.1 p.2)(hf:Try.prog.funcs[f]? =some fn)(hc:∀cz w,(callFunc f cz).run Try.prog w=.ok (.enter f cz) w)(he:∀(x0 x1 x2 x3 x4 x5:AV) (σ:Heap),mS (yH l L n) .F bN fn [x0,x1,x2,x3,x4,x5] σ=m x0 x1 x2 x3 x4 x5 σ)(hi:Sh.eY dB=true)(ho:dM.ok=true):Sound Try.prog aJ f (A.wrap ro dB dM (A.uU m)):=Sound.wrap (Sound.Js .F trivial (cR.of rfl h λ_=>Sound.none) hf hc he) _ _ _ hi ho
theorem q7{m:AV→AV→AV→AV→AV→AV→AV→Heap→aB}(L:List Nat)(n:Nat)(bN:jC)(h:∀p∈l,Sound Try.prog aJ p.1 p.2)(hf:Try.prog.funcs[f]? =some fn)(hc:∀cz w,(callFunc f cz).run Try.prog w=.ok (.enter f cz) w)(he:∀(x0 x1 x2 x3 x4 x5 x6:AV) (σ:Heap),mS (yH l L n) .F bN fn [x0,x1,x2,x3,x4,x5,x6] σ=m x0 x1 x2 x3 x4 x5 x6 σ)(hi:Sh.eY dB=true)(ho:dM.ok=true):Sound Try.prog aJ f (A.wrap ro dB dM (A.JF m)):=Sound.wrap (Sound.Z0 .F trivial (cR.of rfl h λ_=>Sound.none) hf hc he) _ _ _ hi ho
end
end
abbrev bp(n:Int):Prop:=-9223372036854775808≤n∧n≤9223372036854775807
abbrev bX:Nat:=9223372036854775807
def dw{κ:Type}[DecidableEq κ](k:κ)(S:List κ):Bool:=S.any λx=>decide (x=k)
theorem Er{κ:Type}[DecidableEq κ]{k:κ}{S:List κ}:dw k S=true↔k∈S:=by simp only[dw,List.any_eq_true,decide_eq_true_eq];exact⟨λ⟨x,h,e⟩=>e▸h,λh=>⟨k,h,rfl⟩⟩
theorem DY{κ:Type}[DecidableEq κ]{k:κ}{S:List κ}:dw k S=false↔k∉S:=by rw[←Er];simp
def nu(n:Int):aq:=[.aj n]
def Zo(s:ByteArray):aq:=[.str s]
def sl{α:Type}(sz:Nat)(c:α→aq)(l:List α):AV:=.sl sz (l.map c)
def eY{α:Type}(p:α→Prop)(l:List α):Prop:=l.length≤bX∧∀x∈l,p x
def eB(s:ByteArray):Prop:=s.size≤bX
theorem Og(n:Int):A.ay 0 (nu n)=some (.aj n):=rfl
theorem Oh(s:ByteArray):A.ay 0 (Zo s)=some (.str s):=rfl
structure OC where
 time:Int
 way:Int
deriving DecidableEq
structure Io where
 kind:Int
 YA:(List OC)
structure O9 where
 frm:Int
 to:Int
 start:Int
 IL:Int
 time:Int
 IK:Io
structure WJ where
 time:Int
 level:Int
deriving DecidableEq
structure jW where
 low:Int
 high:Int
 name:ByteArray
deriving DecidableEq
def gC(x:jW):aq:=[.aj x.low,.aj x.high,.str x.name]
theorem UH(x:jW):(gC x).length=3:=rfl
def Ij(x:jW):Prop:=bp x.low∧bp x.high∧eB x.name
theorem sA(x:jW):A.ay 0 (gC x)=some (.aj x.low):=rfl
theorem sB(x:jW):A.ay 1 (gC x)=some (.aj x.high):=rfl
theorem sC(x:jW):A.ay 2 (gC x)=some (.str x.name):=rfl
theorem sF(x:jW):A.aA 0 3 (gC x)=some (.agg (gC x)):=rfl
theorem sE(x:jW):A.cells 3 (.agg (gC x))=some (gC x):=rfl
theorem sG(x:jW)(l:aq)(h:l.length=3):A.aH 0 (gC x) l=some (gC x):=by simp [A.aH,UH,h]
structure dW where
 name:ByteArray
 group:Int
 eA:Int
 dc:Int
 default:Int
 snap:Bool
 ranges:(List jW)
def b8(x:dW):aq:=[.str x.name,.aj x.group,.aj x.eA,.aj x.dc,.aj x.default,.bool x.snap,sl 3 gC x.ranges]
theorem UG(x:dW):(b8 x).length=7:=rfl
def Ii(x:dW):Prop:=eB x.name∧bp x.group∧bp x.eA∧bp x.dc∧bp x.default∧(eY Ij) x.ranges
theorem jM(x:dW):A.ay 0 (b8 x)=some (.str x.name):=rfl
theorem jN(x:dW):A.ay 1 (b8 x)=some (.aj x.group):=rfl
theorem jO(x:dW):A.ay 2 (b8 x)=some (.aj x.eA):=rfl
theorem jP(x:dW):A.ay 3 (b8 x)=some (.aj x.dc):=rfl
theorem jQ(x:dW):A.ay 4 (b8 x)=some (.aj x.default):=rfl
theorem jR(x:dW):A.ay 5 (b8 x)=some (.bool x.snap):=rfl
theorem jS(x:dW):A.ay 6 (b8 x)=some (sl 3 gC x.ranges):=rfl
theorem jT(x:dW):A.aA 0 7 (b8 x)=some (.agg (b8 x)):=rfl
theorem ju(x:dW):A.cells 7 (.agg (b8 x))=some (b8 x):=rfl
theorem jv(x:dW)(l:aq)(h:l.length=7):A.aH 0 (b8 x) l=some (b8 x):=by simp [A.aH,UG,h]
structure cm where
 name:ByteArray
 size:Int
 params:(List dW)
def cE(x:cm):aq:=[.str x.name,.aj x.size,sl 7 b8 x.params]
theorem TU(x:cm):(cE x).length=3:=rfl
def xj(x:cm):Prop:=eB x.name∧bp x.size∧(eY Ii) x.params
theorem gR(x:cm):A.ay 0 (cE x)=some (.str x.name):=rfl
theorem gS(x:cm):A.ay 1 (cE x)=some (.aj x.size):=rfl
theorem gU(x:cm):A.ay 2 (cE x)=some (sl 7 b8 x.params):=rfl
theorem gW(x:cm):A.aA 0 3 (cE x)=some (.agg (cE x)):=rfl
theorem gV(x:cm):A.cells 3 (.agg (cE x))=some (cE x):=rfl
theorem gX(x:cm)(l:aq)(h:l.length=3):A.aH 0 (cE x) l=some (cE x):=by simp [A.aH,TU,h]
structure eM where
 aF:Int
 fB:ByteArray
 univ:Int
 address:Int
deriving DecidableEq
def eF(x:eM):aq:=[.aj x.aF,.str x.fB,.aj x.univ,.aj x.address]
theorem Vj(x:eM):(eF x).length=4:=rfl
def OT(x:eM):Prop:=bp x.aF∧eB x.fB∧bp x.univ∧bp x.address
theorem gq(x:eM):A.ay 0 (eF x)=some (.aj x.aF):=rfl
theorem gr(x:eM):A.ay 1 (eF x)=some (.str x.fB):=rfl
theorem gu(x:eM):A.ay 2 (eF x)=some (.aj x.univ):=rfl
theorem gy(x:eM):A.ay 3 (eF x)=some (.aj x.address):=rfl
theorem gA(x:eM):A.aA 0 4 (eF x)=some (.agg (eF x)):=rfl
theorem gz(x:eM):A.cells 4 (.agg (eF x))=some (eF x):=rfl
theorem gB(x:eM)(l:aq)(h:l.length=4):A.aH 0 (eF x) l=some (eF x):=by simp [A.aH,Vj,h]
structure cN where
 bQ:(List cm)
 fG:(List eM)
def bW(x:cN):aq:=[sl 3 cE x.bQ,sl 4 eF x.fG]
theorem V3(x:cN):(bW x).length=2:=rfl
def lF(x:cN):Prop:=(eY xj) x.bQ∧(eY OT) x.fG
theorem iH(x:cN):A.ay 0 (bW x)=some (sl 3 cE x.bQ):=rfl
theorem iI(x:cN):A.ay 1 (bW x)=some (sl 4 eF x.fG):=rfl
theorem gL(x:cN):A.aA 0 2 (bW x)=some (.agg (bW x)):=rfl
theorem gK(x:cN):A.cells 2 (.agg (bW x))=some (bW x):=rfl
theorem iJ(x:cN)(l:aq)(h:l.length=2):A.aH 0 (bW x) l=some (bW x):=by simp [A.aH,V3,h]
structure bP where
 unit:Int
 param:ByteArray
deriving DecidableEq
def bV(x:bP):aq:=[.aj x.unit,.str x.param]
theorem V2(x:bP):(bV x).length=2:=rfl
def Y4(x:bP):Prop:=bp x.unit∧eB x.param
theorem MP(x:bP):A.ay 0 (bV x)=some (.aj x.unit):=rfl
theorem MQ(x:bP):A.ay 1 (bV x)=some (.str x.param):=rfl
theorem Oi(x:bP):A.aA 0 2 (bV x)=some (.agg (bV x)):=rfl
theorem NO(x:bP):A.cells 2 (.agg (bV x))=some (bV x):=rfl
theorem Ik(x:bP)(l:aq)(h:l.length=2):A.aH 0 (bV x) l=some (bV x):=by simp [A.aH,V2,h]
structure aN where
 key:bP
 level:Int
deriving DecidableEq
def aC(x:aN):aq:=[.aj x.key.unit,.str x.key.param,.aj x.level]
theorem TV(x:aN):(aC x).length=3:=rfl
def Ht(x:aN):Prop:=Y4 x.key∧bp x.level
theorem Le(x:aN):A.ay 2 (aC x)=some (.aj x.level):=rfl
theorem K0(x:aN):A.aA 0 2 (aC x)=some (.agg (bV x.key)):=rfl
theorem LV(x:aN)(l:aq)(h:l.length=3):A.aH 0 (aC x) l=some (aC x):=by simp [A.aH,TV,h]
structure bn where
 aF:Int
 title:ByteArray
 cL:(List aN)
def aE(x:bn):aq:=[.aj x.aF,.str x.title,sl 3 aC x.cL]
theorem Uf(x:bn):(aE x).length=3:=rfl
def vK(x:bn):Prop:=bp x.aF∧eB x.title∧(eY Ht) x.cL
theorem Ma(x:bn):A.aA 0 3 (aE x)=some (.agg (aE x)):=rfl
theorem D4(x:bn)(l:aq)(h:l.length=3):A.aH 0 (aE x) l=some (aE x):=by simp [A.aH,Uf,h]
structure Zb where
 aah:(List Int)
 block:Int
 aaG:Int
structure Ip where
 level:Int
 aam:Int
deriving DecidableEq
structure EV where
 key:bP
 value:Ip
 release:Bool
 aaF:Bool
 IL:Int
 time:Int
deriving DecidableEq
structure uD where
 aF:Int
 title:ByteArray
 IL:Int
 up:Int
 down:Int
 other:Int
 IK:Io
 block:Bool
 OL:Int
 E4:(List EV)
structure XW where
 key:bP
 value:Ip
 QC:Int
deriving DecidableEq
structure YL where
 unit:Int
 frm:Int
 to:Int
deriving DecidableEq
structure Pa where
 aF:Int
 aaQ:(List uD)
structure Mq where
 aF:Int
 list:Int
 aaf:Int
deriving DecidableEq
structure XZ where
 rig:cN
 aaj:(List bn)
 aaC:(List Pa)
 aae:(List Mq)
structure NM where
 time:Int
 kind:Int
 Wo:Int
 QC:Int
 level:Int
deriving DecidableEq
structure XX where
 eA:Int
 action:NM
deriving DecidableEq
structure X0 where
 hours:Int
 minutes:Int
 seconds:Int
 frames:Int
deriving DecidableEq
structure PK where
 key:bP
 Zu:O9
 aau:Int
 ending:Bool
structure Vg where
 Wo:Int
 QC:Int
 aax:Int
 aal:Bool
 OL:Int
 runs:(List PK)
structure Lw where
 level:Int
 hold:Int
 Zu:Int
deriving DecidableEq
structure NN where
 form:Int
 low:Int
 high:Int
 aav:Int
 width:Int
 spread:Int
 back:Bool
 aag:Bool
 steps:(List Lw)
structure Pb where
 time:Int
 aai:Int
deriving DecidableEq
structure VX where
 effect:NN
 keys:(List bP)
 start:Int
 aaD:(List Pb)
 AI:Int
 fin:Int
 out:Int
def DE:aq→Heap→aB:=A.dA λa b σ=>match a,b with
 |.str a,.str b=>some (.int .i64 (Lib.compareBytes a.data.toList b.data.toList),σ)
 |_,_=>none
def n7:aq→Heap→aB:=A.dA λa b σ=>match a,b with
 |.sl sz es,.os id g sz' off len=>match σ[id]? with
  |some (.arr h s es')=>if es≠[]∧g=h∧es'≠[]∧0<len then some (.bool false,σ)else none
  |_=>none
 |_,_=>none
def zY(a b:bP):Int:=if ¬(a.unit=b.unit)then(if a.unit<b.unit then -1 else 1)else Lib.compareBytes a.param.data.toList b.param.data.toList
section
set_option maxRecDepth 100000
noncomputable def Dw (dyn:Nat→aq→Heap→aB) (a0 a1:AV) (σ:Heap):aB:=(A.aY a0).bind λx1=>(A.loop (λv2 s3=>(A.lss (ah v2 1) x1).bind λx5=>A.cond x5 ((A.aK 3 a0 (ah v2 1)).bind λx6=>((A.deref x6 s3).bind λc7=>A.aA 0 3 c7).bind λx8=>(A.fC dyn a1 [x8] s3).bind λr9=>A.cond r9.1 (some (AX.ret,[(ah v2 1),(ah v2 1)],r9.2)) ((A.add (ah v2 1) (AV.aj 1)).bind λaS=>some (AX.normal,[(ah v2 0),aS],r9.2))) (some (AX.exit 0,[(ah v2 0),(ah v2 1)],s3))) [(AV.aj 0),(AV.aj 0)] σ).bind λfS=>bif fS.1==AX.exit 0 then(A.fin σ (AV.aj (-1)) fS.2.2)else bif fS.1==AX.ret then(A.fin σ (ah fS.2.1 0) fS.2.2)else none
noncomputable def Dv (dyn:Nat→aq→Heap→aB):aq→Heap→aB:=A.wrap true [(.s 3)] .k (A.dA (Dw dyn))
noncomputable def F7 (a0 a1:AV) (σ:Heap):aB:=(A.aY a0).bind λx1=>(A.loop (λv2 s3=>(A.lss (ah v2 1) x1).bind λx5=>A.cond x5 ((A.aK 1 a0 (ah v2 1)).bind λx6=>((A.deref x6 s3).bind λc7=>A.ay 0 c7).bind λx8=>(A.eql .i a1 x8).bind λx9=>A.cond x9 (some (AX.ret,[(ah v2 1),(ah v2 1)],s3)) ((A.add (ah v2 1) (AV.aj 1)).bind λaS=>some (AX.normal,[(ah v2 0),aS],s3))) (some (AX.exit 0,[(ah v2 0),(ah v2 1)],s3))) [(AV.aj 0),(AV.aj 0)] σ).bind λfS=>bif fS.1==AX.exit 0 then(A.fin σ (AV.aj (-1)) fS.2.2)else bif fS.1==AX.ret then(A.fin σ (ah fS.2.1 0) fS.2.2)else none
noncomputable def F5:aq→Heap→aB:=A.wrap true [(.s 1)] .k (A.dA F7)
noncomputable def F3 (a0 a1:AV) (σ:Heap):aB:=(F5 [a0,a1] σ).bind λr1=>(A.geq r1.1 (AV.aj 0)).bind λx2=>A.fin σ x2 r1.2
noncomputable def DB:aq→Heap→aB:=A.wrap true [(.s 1)] .k (A.dA F3)
noncomputable def FT (a0 a1:AV) (σ:Heap):aB:=(A.aY a0).bind λx1=>(A.aY a1).bind λx2=>(A.neq .i x1 x2).bind λx3=>A.cond x3 (A.fin σ aU σ) ((A.aY a0).bind λx4=>(A.loop (λv5 s6=>(A.lss (ah v5 1) x4).bind λx8=>A.cond x8 ((A.aK 3 a0 (ah v5 1)).bind λx9=>((A.deref x9 s6).bind λi6=>A.aA 0 3 i6).bind λbI=>(A.aK 3 a1 (ah v5 1)).bind λbD=>((A.deref bD s6).bind λkU=>A.aA 0 3 kU).bind λbG=>(A.neq (.s [0,2,0]) bI bG).bind λaW=>A.cond aW (some (AX.ret,[aU,(ah v5 1)],s6)) ((A.add (ah v5 1) (AV.aj 1)).bind λbE=>some (AX.normal,[(ah v5 0),bE],s6))) (some (AX.exit 0,[(ah v5 0),(ah v5 1)],s6))) [aU,(AV.aj 0)] σ).bind λkW=>bif kW.1==AX.exit 0 then(A.fin σ cY kW.2.2)else bif kW.1==AX.ret then(A.fin σ (ah kW.2.1 0) kW.2.2)else none)
noncomputable def FR:aq→Heap→aB:=A.wrap true [(.s 3),(.s 3)] .k (A.dA FT)
noncomputable def KL (a0:AV) (σ:Heap):aB:=(A.Fp a0 AV.au).bind λx1=>A.cond x1 (some (AV.au,σ)) ((A.append 3 (140737488355328 / 32) AV.ez a0 σ).bind λr2=>some (r2.1,r2.2))
noncomputable def p9:aq→Heap→aB:=A.EP (A.wrap true [(.s 3)] .k (A.eP KL))
noncomputable def Dq (dyn:Nat→aq→Heap→aB) (a0 a1 a2 a3:AV) (σ:Heap):aB:=(A.add a1 (AV.aj 1)).bind λx1=>(A.loop (λv2 s3=>(A.lss (ah v2 0) a2).bind λx5=>A.cond x5 ((A.loop (λv6 s7=>(A.gtr (ah v6 0) a1).bind λx9=>(A.guard x9 true (some a3) an).bind λaS=>(A.guard x9 true (some a0) an).bind λbI=>(A.guard x9 true (some (ah v6 0)) an).bind λbD=>(A.guard x9 true (A.aK 3 bI bD) an).bind λbw=>(A.guard x9 true ((A.deref bw s7).bind λgf=>A.aA 0 3 gf) an).bind λaW=>(A.guard x9 true (some a0) an).bind λbE=>(A.guard x9 true (some (ah v6 0)) an).bind λbJ=>(A.guard x9 true (A.sub bJ (AV.aj 1)) an).bind λbz=>(A.guard x9 true (A.aK 3 bE bz) an).bind λbY=>(A.guard x9 true ((A.deref bY s7).bind λdN=>A.aA 0 3 dN) an).bind λaT=>(A.guard x9 true (A.quiet (A.fC dyn aS [aW,aT] s7) s7) an).bind λbO=>(A.guard x9 true (A.lss bO (AV.aj 0)) an).bind λcg=>(A.pick x9 cg aU).bind λcr=>A.cond cr ((A.sub (ah v6 0) (AV.aj 1)).bind λck=>(A.sub (ah v6 0) (AV.aj 1)).bind λcH=>(A.aK 3 a0 cH).bind λcQ=>((A.deref cQ s7).bind λjF=>A.aA 0 3 jF).bind λcZ=>(A.aK 3 a0 (ah v6 0)).bind λcA=>((A.deref cA s7).bind λlP=>A.aA 0 3 lP).bind λcK=>(A.aK 3 a0 (ah v6 0)).bind λeJ=>(A.cells 3 cZ).bind λmq=>(A.storeAt eJ mq s7).bind λiM=>(A.aK 3 a0 ck).bind λfV=>(A.cells 3 cK).bind λnL=>(A.storeAt fV nL iM).bind λrG=>(A.sub (ah v6 0) (AV.aj 1)).bind λeR=>some (AX.normal,[eR],rG)) (some (AX.exit 2,[(ah v6 0)],s7))) [(ah v2 0)] s3).bind λmD=>bif mD.1==AX.exit 2 then((A.add (ah v2 0) (AV.aj 1)).bind λfK=>some (AX.normal,[fK],mD.2.2))else none) (some (AX.exit 0,[(ah v2 0)],s3))) [x1] σ).bind λgm=>bif gm.1==AX.exit 0 then(some ((AV.aD []),gm.2.2))else none
noncomputable def tT (dyn:Nat→aq→Heap→aB):aq→Heap→aB:=A.wrap false [] .k (A.yl (Dq dyn))
noncomputable def zc (a0 a1 a2 a3 a4:AV) (σ:Heap):aB:=(A.loop (λv1 s2=>(A.lss (ah v1 0) a3).bind λx4=>A.cond x4 ((A.add a1 (ah v1 0)).bind λx5=>(A.add a2 (ah v1 0)).bind λx6=>(A.add a2 (ah v1 0)).bind λx7=>(A.aK 3 a0 x7).bind λx8=>((A.deref x8 s2).bind λc9=>A.aA 0 3 c9).bind λaS=>(A.add a1 (ah v1 0)).bind λbI=>(A.aK 3 a0 bI).bind λbD=>((A.deref bD s2).bind λkU=>A.aA 0 3 kU).bind λbG=>(A.aK 3 a0 x5).bind λaW=>(A.cells 3 aS).bind λjE=>(A.storeAt aW jE s2).bind λiz=>(A.aK 3 a0 x6).bind λbz=>(A.cells 3 bG).bind λnJ=>(A.storeAt bz nJ iz).bind λdN=>(A.add (ah v1 0) (AV.aj 1)).bind λaT=>some (AX.normal,[aT],dN)) (some (AX.exit 0,[(ah v1 0)],s2))) [(AV.aj 0)] σ).bind λiC=>bif iC.1==AX.exit 0 then(some ((AV.aD []),iC.2.2))else none
noncomputable def tU:aq→Heap→aB:=A.wrap false [] .k (A.nH zc)
noncomputable def zg (a0 a1 a2 a3 a4:AV) (σ:Heap):aB:=(A.sub a2 a1).bind λx1=>(A.sub a3 a2).bind λx2=>(A.loop (λv3 s4=>(A.neq .i (ah v3 0) (ah v3 1)).bind λx6=>A.cond x6 ((A.gtr (ah v3 0) (ah v3 1)).bind λx7=>(A.cond x7 ((A.sub a2 (ah v3 0)).bind λx9=>(tU [a0,x9,a2,(ah v3 1),a4] s4).bind λKl=>(A.sub (ah v3 0) (ah v3 1)).bind λbI=>some ([bI,(ah v3 1)],Kl.2)) ((A.sub a2 (ah v3 0)).bind λbD=>(A.add a2 (ah v3 1)).bind λbw=>(A.sub bw (ah v3 0)).bind λbG=>(tU [a0,bD,bG,(ah v3 0),a4] s4).bind λig=>(A.sub (ah v3 1) (ah v3 0)).bind λbE=>some ([(ah v3 0),bE],ig.2))).bind λr8=>some (AX.normal,[(ah r8.1 0),(ah r8.1 1)],r8.2)) (some (AX.exit 0,[(ah v3 0),(ah v3 1)],s4))) [x1,x2] σ).bind λkW=>bif kW.1==AX.exit 0 then((A.sub a2 (ah kW.2.1 0)).bind λbz=>(tU [a0,bz,a2,(ah kW.2.1 0),a4] kW.2.2).bind λeZ=>some ((AV.aD []),eZ.2))else none
noncomputable def AM:aq→Heap→aB:=A.wrap false [] .k (A.nH zg)
noncomputable def Ds (rec:Nat→aq→Heap→aB) (dyn:Nat→aq→Heap→aB) (a0 a1 a2 a3 a4:AV) (σ:Heap):aB:=(A.sub a2 a1).bind λx1=>(A.eql .i x1 (AV.aj 1)).bind λx2=>A.cond x2 ((A.loop (λv3 s4=>(A.lss (ah v3 0) (ah v3 1)).bind λx6=>A.cond x6 ((A.add (ah v3 0) (ah v3 1)).bind λx7=>(A.conv .u64 x7).bind λx8=>(A.shr x8 (AV.int .u64 1)).bind λx9=>(A.conv .i64 x9).bind λaS=>(A.aK 3 a0 aS).bind λbI=>((A.deref bI s4).bind λdD=>A.aA 0 3 dD).bind λbw=>(A.aK 3 a0 a1).bind λbG=>((A.deref bG s4).bind λeU=>A.aA 0 3 eU).bind λbE=>(A.quiet (A.fC dyn a4 [bw,bE] s4) s4).bind λbJ=>(A.lss bJ (AV.aj 0)).bind λbz=>(A.cond bz ((A.add aS (AV.aj 1)).bind λbZ=>some ([bZ,(ah v3 1)],s4)) (some ([(ah v3 0),aS],s4))).bind λeZ=>some (AX.normal,[(ah eZ.1 0),(ah eZ.1 1)],eZ.2)) (some (AX.exit 0,[(ah v3 0),(ah v3 1)],s4))) [a2,a3] σ).bind λdR=>bif dR.1==AX.exit 0 then((A.loop (λjc oN=>(A.sub (ah dR.2.1 0) (AV.aj 1)).bind λck=>(A.lss (ah jc 0) ck).bind λcH=>A.cond cH ((A.add (ah jc 0) (AV.aj 1)).bind λcQ=>(A.add (ah jc 0) (AV.aj 1)).bind λef=>(A.aK 3 a0 ef).bind λcZ=>((A.deref cZ oN).bind λnK=>A.aA 0 3 nK).bind λeo=>(A.aK 3 a0 (ah jc 0)).bind λcK=>((A.deref cK oN).bind λyt=>A.aA 0 3 yt).bind λgn=>(A.aK 3 a0 (ah jc 0)).bind λiD=>(A.cells 3 eo).bind λuV=>(A.storeAt iD uV oN).bind λnL=>(A.aK 3 a0 cQ).bind λdU=>(A.cells 3 gn).bind λCs=>(A.storeAt dU Cs nL).bind λrI=>(A.add (ah jc 0) (AV.aj 1)).bind λfK=>some (AX.normal,[fK],rI)) (some (AX.exit 2,[(ah jc 0)],oN))) [a1] dR.2.2).bind λgm=>bif gm.1==AX.exit 2 then(some ((AV.aD []),gm.2.2))else none)else none) ((A.sub a3 a2).bind λnU=>(A.eql .i nU (AV.aj 1)).bind λkZ=>A.cond kZ ((A.loop (λdn fy=>(A.lss (ah dn 0) (ah dn 1)).bind λk9=>A.cond k9 ((A.add (ah dn 0) (ah dn 1)).bind λgp=>(A.conv .u64 gp).bind λdJ=>(A.shr dJ (AV.int .u64 1)).bind λdV=>(A.conv .i64 dV).bind λfE=>(A.aK 3 a0 a2).bind λmG=>((A.deref mG fy).bind λCz=>A.aA 0 3 Cz).bind λiF=>(A.aK 3 a0 fE).bind λiG=>((A.deref iG fy).bind λkV=>A.aA 0 3 kV).bind λmH=>(A.quiet (A.fC dyn a4 [iF,mH] fy) fy).bind λiV=>(A.lss iV (AV.aj 0)).bind λld=>(A.not ld).bind λiW=>(A.cond iW ((A.add fE (AV.aj 1)).bind λdG=>some ([dG,(ah dn 1)],fy)) (some ([(ah dn 0),fE],fy))).bind λfJ=>some (AX.normal,[(ah fJ.1 0),(ah fJ.1 1)],fJ.2)) (some (AX.exit 4,[(ah dn 0),(ah dn 1)],fy))) [a1,a2] σ).bind λr64=>bif r64.1==AX.exit 4 then((A.loop (λjd oO=>(A.gtr (ah jd 0) (ah r64.2.1 0)).bind λnW=>A.cond nW ((A.sub (ah jd 0) (AV.aj 1)).bind λnZ=>(A.sub (ah jd 0) (AV.aj 1)).bind λrY=>(A.aK 3 a0 rY).bind λDi=>((A.deref Di oO).bind λCC=>A.aA 0 3 CC).bind λrZ=>(A.aK 3 a0 (ah jd 0)).bind λsj=>((A.deref sj oO).bind λCD=>A.aA 0 3 CD).bind λjr=>(A.aK 3 a0 (ah jd 0)).bind λgQ=>(A.cells 3 rZ).bind λpP=>(A.storeAt gQ pP oO).bind λCE=>(A.aK 3 a0 nZ).bind λDj=>(A.cells 3 jr).bind λmw=>(A.storeAt Dj mw CE).bind λyE=>(A.sub (ah jd 0) (AV.aj 1)).bind λmJ=>some (AX.normal,[mJ],yE)) (some (AX.exit 6,[(ah jd 0)],oO))) [a2] r64.2.2).bind λRy=>bif Ry.1==AX.exit 6 then(some ((AV.aD []),Ry.2.2))else none)else none) ((A.add a1 a3).bind λso=>(A.conv .u64 so).bind λvB=>(A.shr vB (AV.int .u64 1)).bind λKB=>(A.conv .i64 KB).bind λqN=>(A.add qN a2).bind λlf=>(A.gtr a2 qN).bind λKC=>(A.cond KC ((A.sub lf a3).bind λsu=>some ([su,qN],σ)) (some ([a1,a2],σ))).bind λKm=>(A.sub lf (AV.aj 1)).bind λvC=>(A.loop (λiu i7=>(A.lss (ah iu 0) (ah iu 1)).bind λsv=>A.cond sv ((A.add (ah iu 0) (ah iu 1)).bind λyZ=>(A.conv .u64 yZ).bind λvD=>(A.shr vD (AV.int .u64 1)).bind λCl=>(A.conv .i64 Cl).bind λgP=>(A.sub vC gP).bind λrC=>(A.aK 3 a0 rC).bind λtE=>((A.deref tE i7).bind λxL=>A.aA 0 3 xL).bind λtF=>(A.aK 3 a0 gP).bind λuO=>((A.deref uO i7).bind λB0=>A.aA 0 3 B0).bind λpE=>(A.quiet (A.fC dyn a4 [tF,pE] i7) i7).bind λuQ=>(A.lss uQ (AV.aj 0)).bind λmj=>(A.not mj).bind λqA=>(A.cond qA ((A.add gP (AV.aj 1)).bind λuR=>some ([uR,(ah iu 1)],i7)) (some ([(ah iu 0),gP],i7))).bind λrA=>some (AX.normal,[(ah rA.1 0),(ah rA.1 1)],rA.2)) (some (AX.exit 8,[(ah iu 0),(ah iu 1)],i7))) [(ah Km.1 0),(ah Km.1 1)] Km.2).bind λuH=>bif uH.1==AX.exit 8 then((A.sub lf (ah uH.2.1 0)).bind λmm=>(A.lss (ah uH.2.1 0) a2).bind λAs=>(A.guard As true (some a2) an).bind λJx=>(A.guard As true (some mm) an).bind λuS=>(A.guard As true (A.lss Jx uS) an).bind λZ3=>(A.pick As Z3 aU).bind λuT=>(A.cond uT ((AM [a0,(ah uH.2.1 0),a2,mm,a4] uH.2.2).bind λZW=>some (([]:aq),ZW.2)) (some (([]:aq),uH.2.2))).bind λqz=>(A.lss a1 (ah uH.2.1 0)).bind λAu=>(A.guard Au true (some (ah uH.2.1 0)) an).bind λZ5=>(A.guard Au true (some qN) an).bind λyj=>(A.guard Au true (A.lss Z5 yj) an).bind λZ6=>(A.pick Au Z6 aU).bind λZ7=>(A.cond Z7 ((rec 106 [a0,a1,(ah uH.2.1 0),qN,a4] qz.2).bind λxX=>some (([]:aq),xX.2)) (some (([]:aq),qz.2))).bind λQl=>(A.lss qN mm).bind λAv=>(A.guard Av true (some mm) an).bind λZ8=>(A.guard Av true (some a3) an).bind λJy=>(A.guard Av true (A.lss Z8 Jy) an).bind λJz=>(A.pick Av Jz aU).bind λwE=>(A.cond wE ((rec 106 [a0,qN,mm,a3,a4] Ql.2).bind λZY=>some (([]:aq),ZY.2)) (some (([]:aq),Ql.2))).bind λZX=>some ((AV.aD []),ZX.2))else none))
noncomputable def ze (dyn:Nat→aq→Heap→aB) (rec:Nat→aq→Heap→aB):List (Nat×(aq→Heap→aB)):=[(106,A.wrap false [] .k (A.nH (Ds rec dyn)))]
noncomputable def sw (dyn:Nat→aq→Heap→aB):aq→Heap→aB:=fuel (ze dyn) 2000000 106
noncomputable def Du (dyn:Nat→aq→Heap→aB) (a0 a1 a2:AV) (σ:Heap):aB:=(A.loop (λv1 s2=>(A.leq (ah v1 1) a1).bind λx4=>A.cond x4 ((tT dyn [a0,(ah v1 0),(ah v1 1),a2] s2).bind λr5=>(A.add (ah v1 1) (AV.aj 20)).bind λx6=>some (AX.normal,[(ah v1 1),x6],r5.2)) (some (AX.exit 0,[(ah v1 0),(ah v1 1)],s2))) [(AV.aj 0),(AV.aj 20)] σ).bind λr7=>bif r7.1==AX.exit 0 then((tT dyn [a0,(ah r7.2.1 0),a1,a2] r7.2.2).bind λr8=>(A.loop (λv9 Da=>(A.lss (ah v9 0) a1).bind λbD=>A.cond bD ((A.mul (AV.aj 2) (ah v9 0)).bind λbw=>(A.loop (λfA rW=>(A.leq (ah fA 1) a1).bind λbJ=>A.cond bJ ((A.add (ah fA 0) (ah v9 0)).bind λbz=>(sw dyn [a0,(ah fA 0),bz,(ah fA 1),a2] rW).bind λeZ=>(A.mul (AV.aj 2) (ah v9 0)).bind λbZ=>(A.add (ah fA 1) bZ).bind λaT=>some (AX.normal,[(ah fA 1),aT],eZ.2)) (some (AX.exit 4,[(ah fA 0),(ah fA 1)],rW))) [(AV.aj 0),bw] Da).bind λiC=>bif iC.1==AX.exit 4 then((A.add (ah iC.2.1 0) (ah v9 0)).bind λcg=>(A.lss cg a1).bind λcr=>(A.cond cr ((sw dyn [a0,(ah iC.2.1 0),cg,a1,a2] iC.2.2).bind λko=>some (([]:aq),ko.2)) (some (([]:aq),iC.2.2))).bind λpW=>(A.mul (ah v9 0) (AV.aj 2)).bind λcQ=>some (AX.normal,[cQ],pW.2))else none) (some (AX.exit 2,[(ah v9 0)],Da))) [(AV.aj 20)] r8.2).bind λfU=>bif fU.1==AX.exit 2 then(some ((AV.aD []),fU.2.2))else none)else none
noncomputable def AN (dyn:Nat→aq→Heap→aB):aq→Heap→aB:=A.wrap false [] .k (A.ke (Du dyn))
noncomputable def Dt (dyn:Nat→aq→Heap→aB) (a0 a1:AV) (σ:Heap):aB:=(A.aY a0).bind λx1=>(AN dyn [a0,x1,a1] σ).bind λr2=>some ((AV.aD []),r2.2)
noncomputable def zf (dyn:Nat→aq→Heap→aB):aq→Heap→aB:=A.wrap false [] .k (A.dA (Dt dyn))
noncomputable def KI (a0:AV) (σ:Heap):aB:=(A.aY a0).bind λx1=>(A.sub x1 (AV.aj 1)).bind λx2=>(A.loop (λv3 s4=>(A.lss (ah v3 0) (ah v3 1)).bind λx6=>A.cond x6 ((A.aK 3 a0 (ah v3 1)).bind λx7=>((A.deref x7 s4).bind λc8=>A.aA 0 3 c8).bind λx9=>(A.aK 3 a0 (ah v3 0)).bind λaS=>((A.deref aS s4).bind λgd=>A.aA 0 3 gd).bind λbD=>(A.aK 3 a0 (ah v3 0)).bind λbw=>(A.cells 3 x9).bind λgf=>(A.storeAt bw gf s4).bind λeU=>(A.aK 3 a0 (ah v3 1)).bind λbE=>(A.cells 3 bD).bind λiz=>(A.storeAt bE iz eU).bind λfQ=>(A.add (ah v3 0) (AV.aj 1)).bind λbY=>(A.sub (ah v3 1) (AV.aj 1)).bind λbZ=>some (AX.normal,[bY,bZ],fQ)) (some (AX.exit 0,[(ah v3 0),(ah v3 1)],s4))) [(AV.aj 0),x2] σ).bind λdR=>bif dR.1==AX.exit 0 then(some ((AV.aD []),dR.2.2))else none
noncomputable def AQ:aq→Heap→aB:=A.wrap false [] .k (A.eP KI)
noncomputable def KF (a0 a1:AV) (σ:Heap):aB:=(A.bl 3 a0 none (some a1) σ).bind λx1=>(AQ [x1] σ).bind λr2=>(A.bl 3 a0 (some a1) none r2.2).bind λx3=>(AQ [x3] r2.2).bind λr4=>(AQ [a0] r4.2).bind λr5=>some ((AV.aD []),r5.2)
noncomputable def FO:aq→Heap→aB:=A.wrap false [] .k (A.dA KF)
noncomputable def KE (a0 a1:AV) (σ:Heap):aB:=(A.aY a0).bind λx1=>(A.sub x1 a1).bind λx2=>(FO [a0,x2] σ).bind λr3=>some ((AV.aD []),r3.2)
noncomputable def AO:aq→Heap→aB:=A.wrap false [] .k (A.dA KE)
noncomputable def Dz (a0 a1 a2:AV) (σ:Heap):aB:=(A.bl 3 a0 (some a1) none σ).bind λx1=>(A.aY a2).bind λx2=>(A.eql .i x2 (AV.aj 0)).bind λx3=>A.cond x3 (A.renew [a0,a1,a2] σ a0 σ) ((A.aY a0).bind λx4=>(A.eql .i a1 x4).bind λx5=>A.cond x5 ((A.append 3 (140737488355328 / 32) a0 a2 σ).bind λr6=>A.renew [a0,a1,a2] σ r6.1 r6.2) ((A.add x4 x2).bind λx7=>A.oz (A.qZ a0) (λx8=>(A.gtr x7 x8).bind λx9=>A.cond x9 ((A.bl 3 a0 none (some a1) σ).bind λaS=>(A.add x4 x2).bind λbI=>(A.sub bI a1).bind λbD=>(A.kF 3 (140737488355328 / 32) [(AV.aj 0),aR,(AV.aj 0)] aS bD σ).bind λgG=>(A.bl 3 gG.1 (some a1) none gG.2).bind λbG=>(A.fq 3 bG a2 gG.2).bind λig=>(A.add a1 x2).bind λbE=>(A.bl 3 gG.1 (some bE) none ig.2).bind λbJ=>(A.bl 3 a0 (some a1) none ig.2).bind λbz=>(A.fq 3 bJ bz ig.2).bind λeZ=>A.renew [a0,a1,a2] σ gG.1 eZ.2) ((A.add x4 x2).bind λbZ=>(A.bl 3 a0 none (some bZ) σ).bind λaT=>(A.add a1 x2).bind λbO=>(A.bl 3 aT (some bO) none σ).bind λcg=>(n7 [a2,cg] σ).bind λij=>(A.not ij.1).bind λck=>A.cond ck ((A.add a1 x2).bind λcH=>(A.bl 3 aT (some cH) none ij.2).bind λcQ=>(A.bl 3 aT (some a1) none ij.2).bind λef=>(A.fq 3 cQ ef ij.2).bind λnP=>(A.bl 3 aT (some a1) none nP.2).bind λcA=>(A.fq 3 cA a2 nP.2).bind λlU=>A.renew [a0,a1,a2] σ aT lU.2) ((A.bl 3 aT (some x4) none ij.2).bind λcK=>(A.fq 3 cK a2 ij.2).bind λkX=>(A.bl 3 aT (some a1) none kX.2).bind λgn=>(AO [gn,x2] kX.2).bind λrS=>A.renew [a0,a1,a2] σ aT rS.2))) (A.qw a0 σ λC2 mE=>(A.gtr x7 (AV.aj C2)).bind λdU=>A.cond dU ((A.bl 3 a0 none (some a1) mE).bind λeR=>(A.add x4 x2).bind λjL=>(A.sub jL a1).bind λfK=>(A.kF 3 (140737488355328 / 32) [(AV.aj 0),aR,(AV.aj 0)] eR fK mE).bind λgm=>(A.bl 3 gm.1 (some a1) none gm.2).bind λnU=>(A.fq 3 nU a2 gm.2).bind λrT=>(A.add a1 x2).bind λjq=>(A.bl 3 gm.1 (some jq) none rT.2).bind λqL=>(A.bl 3 a0 (some a1) none rT.2).bind λiE=>(A.fq 3 qL iE rT.2).bind λwR=>A.renew [a0,a1,a2] σ gm.1 wR.2) ((A.add x4 x2).bind λgp=>(A.bl 3 a0 none (some gp) mE).bind λdJ=>(A.add a1 x2).bind λdV=>(A.bl 3 dJ (some dV) none mE).bind λfE=>(n7 [a2,fE] mE).bind λiq=>(A.not iq.1).bind λje=>A.cond je ((A.add a1 x2).bind λiF=>(A.bl 3 dJ (some iF) none iq.2).bind λiG=>(A.bl 3 dJ (some a1) none iq.2).bind λnV=>(A.fq 3 iG nV iq.2).bind λwT=>(A.bl 3 dJ (some a1) none wT.2).bind λiV=>(A.fq 3 iV a2 wT.2).bind λC7=>A.renew [a0,a1,a2] σ dJ C7.2) ((A.bl 3 dJ (some x4) none iq.2).bind λiW=>(A.fq 3 iW a2 iq.2).bind λfJ=>(A.bl 3 dJ (some a1) none fJ.2).bind λdG=>(AO [dG,x2] fJ.2).bind λr64=>A.renew [a0,a1,a2] σ dJ r64.2)))))
noncomputable def zh:aq→Heap→aB:=A.wrap false [] .k (A.ke Dz)
noncomputable def Dr (dyn:Nat→aq→Heap→aB) (a0 a1 a2:AV) (σ:Heap):aB:=(A.aY a0).bind λx1=>(A.loop (λv2 s3=>(A.lss (ah v2 0) (ah v2 1)).bind λx5=>A.cond x5 ((A.add (ah v2 0) (ah v2 1)).bind λx6=>(A.conv .u64 x6).bind λx7=>(A.shr x7 (AV.int .u64 1)).bind λx8=>(A.conv .i64 x8).bind λx9=>(A.aK 3 a0 x9).bind λaS=>((A.deref aS s3).bind λgd=>A.aA 0 3 gd).bind λbD=>(A.fC dyn a2 [bD,a1] s3).bind λgG=>(A.lss gG.1 (AV.aj 0)).bind λbG=>(A.cond bG ((A.add x9 (AV.aj 1)).bind λbE=>some ([bE,(ah v2 1)],gG.2)) (some ([(ah v2 0),x9],gG.2))).bind λig=>some (AX.normal,[(ah ig.1 0),(ah ig.1 1)],ig.2)) (some (AX.exit 0,[(ah v2 0),(ah v2 1)],s3))) [(AV.aj 0),x1] σ).bind λkW=>bif kW.1==AX.exit 0 then((A.lss (ah kW.2.1 0) x1).bind λbz=>(A.guard bz true (some a2) an).bind λbY=>(A.guard bz true (some a0) an).bind λbZ=>(A.guard bz true (some (ah kW.2.1 0)) an).bind λaT=>(A.guard bz true (A.aK 3 bZ aT) an).bind λbO=>(A.guard bz true ((A.deref bO kW.2.2).bind λeW=>A.aA 0 3 eW) an).bind λcr=>(A.guard bz true (some a1) an).bind λck=>(A.guard bz true (A.quiet (A.fC dyn bY [cr,ck] kW.2.2) kW.2.2) an).bind λcH=>(A.guard bz true (A.eql .i cH (AV.aj 0)) an).bind λcQ=>(A.pick bz cQ aU).bind λef=>A.fin σ (AV.aD [(ah kW.2.1 0),ef]) kW.2.2)else none
noncomputable def zb (dyn:Nat→aq→Heap→aB):aq→Heap→aB:=A.wrap true [(.s 3)] .k (A.ke (Dr dyn))
noncomputable def KJ (a0:AV) (σ:Heap):aB:=(A.aY a0).bind λx1=>(A.sub x1 (AV.aj 1)).bind λx2=>(A.loop (λv3 s4=>(A.lss (ah v3 0) (ah v3 1)).bind λx6=>A.cond x6 ((A.aK 3 a0 (ah v3 1)).bind λx7=>((A.deref x7 s4).bind λc8=>A.aA 0 3 c8).bind λx9=>(A.aK 3 a0 (ah v3 0)).bind λaS=>((A.deref aS s4).bind λgd=>A.aA 0 3 gd).bind λbD=>(A.aK 3 a0 (ah v3 0)).bind λbw=>(A.cells 3 x9).bind λgf=>(A.storeAt bw gf s4).bind λeU=>(A.aK 3 a0 (ah v3 1)).bind λbE=>(A.cells 3 bD).bind λiz=>(A.storeAt bE iz eU).bind λfQ=>(A.add (ah v3 0) (AV.aj 1)).bind λbY=>(A.sub (ah v3 1) (AV.aj 1)).bind λbZ=>some (AX.normal,[bY,bZ],fQ)) (some (AX.exit 0,[(ah v3 0),(ah v3 1)],s4))) [(AV.aj 0),x2] σ).bind λdR=>bif dR.1==AX.exit 0 then(some ((AV.aD []),dR.2.2))else none
noncomputable def AR:aq→Heap→aB:=A.wrap false [] .k (A.eP KJ)
noncomputable def KH (a0 a1:AV) (σ:Heap):aB:=(A.bl 3 a0 none (some a1) σ).bind λx1=>(AR [x1] σ).bind λr2=>(A.bl 3 a0 (some a1) none r2.2).bind λx3=>(AR [x3] r2.2).bind λr4=>(AR [a0] r4.2).bind λr5=>some ((AV.aD []),r5.2)
noncomputable def FP:aq→Heap→aB:=A.wrap false [] .k (A.dA KH)
noncomputable def KG (a0 a1:AV) (σ:Heap):aB:=(A.aY a0).bind λx1=>(A.sub x1 a1).bind λx2=>(FP [a0,x2] σ).bind λr3=>some ((AV.aD []),r3.2)
noncomputable def AP:aq→Heap→aB:=A.wrap false [] .k (A.dA KG)
noncomputable def DA (a0 a1 a2:AV) (σ:Heap):aB:=(A.bl 3 a0 (some a1) none σ).bind λx1=>(A.aY a2).bind λx2=>(A.eql .i x2 (AV.aj 0)).bind λx3=>A.cond x3 (A.renew [a0,a1,a2] σ a0 σ) ((A.aY a0).bind λx4=>(A.eql .i a1 x4).bind λx5=>A.cond x5 ((A.append 3 (140737488355328 / 48) a0 a2 σ).bind λr6=>A.renew [a0,a1,a2] σ r6.1 r6.2) ((A.add x4 x2).bind λx7=>A.oz (A.qZ a0) (λx8=>(A.gtr x7 x8).bind λx9=>A.cond x9 ((A.bl 3 a0 none (some a1) σ).bind λaS=>(A.add x4 x2).bind λbI=>(A.sub bI a1).bind λbD=>(A.kF 3 (140737488355328 / 48) [(AV.aj 0),aR,AV.au] aS bD σ).bind λgG=>(A.bl 3 gG.1 (some a1) none gG.2).bind λbG=>(A.fq 3 bG a2 gG.2).bind λig=>(A.add a1 x2).bind λbE=>(A.bl 3 gG.1 (some bE) none ig.2).bind λbJ=>(A.bl 3 a0 (some a1) none ig.2).bind λbz=>(A.fq 3 bJ bz ig.2).bind λeZ=>A.renew [a0,a1,a2] σ gG.1 eZ.2) ((A.add x4 x2).bind λbZ=>(A.bl 3 a0 none (some bZ) σ).bind λaT=>(A.add a1 x2).bind λbO=>(A.bl 3 aT (some bO) none σ).bind λcg=>(n7 [a2,cg] σ).bind λij=>(A.not ij.1).bind λck=>A.cond ck ((A.add a1 x2).bind λcH=>(A.bl 3 aT (some cH) none ij.2).bind λcQ=>(A.bl 3 aT (some a1) none ij.2).bind λef=>(A.fq 3 cQ ef ij.2).bind λnP=>(A.bl 3 aT (some a1) none nP.2).bind λcA=>(A.fq 3 cA a2 nP.2).bind λlU=>A.renew [a0,a1,a2] σ aT lU.2) ((A.bl 3 aT (some x4) none ij.2).bind λcK=>(A.fq 3 cK a2 ij.2).bind λkX=>(A.bl 3 aT (some a1) none kX.2).bind λgn=>(AP [gn,x2] kX.2).bind λrS=>A.renew [a0,a1,a2] σ aT rS.2))) (A.qw a0 σ λC2 mE=>(A.gtr x7 (AV.aj C2)).bind λdU=>A.cond dU ((A.bl 3 a0 none (some a1) mE).bind λeR=>(A.add x4 x2).bind λjL=>(A.sub jL a1).bind λfK=>(A.kF 3 (140737488355328 / 48) [(AV.aj 0),aR,AV.au] eR fK mE).bind λgm=>(A.bl 3 gm.1 (some a1) none gm.2).bind λnU=>(A.fq 3 nU a2 gm.2).bind λrT=>(A.add a1 x2).bind λjq=>(A.bl 3 gm.1 (some jq) none rT.2).bind λqL=>(A.bl 3 a0 (some a1) none rT.2).bind λiE=>(A.fq 3 qL iE rT.2).bind λwR=>A.renew [a0,a1,a2] σ gm.1 wR.2) ((A.add x4 x2).bind λgp=>(A.bl 3 a0 none (some gp) mE).bind λdJ=>(A.add a1 x2).bind λdV=>(A.bl 3 dJ (some dV) none mE).bind λfE=>(n7 [a2,fE] mE).bind λiq=>(A.not iq.1).bind λje=>A.cond je ((A.add a1 x2).bind λiF=>(A.bl 3 dJ (some iF) none iq.2).bind λiG=>(A.bl 3 dJ (some a1) none iq.2).bind λnV=>(A.fq 3 iG nV iq.2).bind λwT=>(A.bl 3 dJ (some a1) none wT.2).bind λiV=>(A.fq 3 iV a2 wT.2).bind λC7=>A.renew [a0,a1,a2] σ dJ C7.2) ((A.bl 3 dJ (some x4) none iq.2).bind λiW=>(A.fq 3 iW a2 iq.2).bind λfJ=>(A.bl 3 dJ (some a1) none fJ.2).bind λdG=>(AP [dG,x2] fJ.2).bind λr64=>A.renew [a0,a1,a2] σ dJ r64.2)))))
noncomputable def zi:aq→Heap→aB:=A.wrap false [] .k (A.ke DA)
noncomputable def w5 (a0 a1:AV) (σ:Heap):aB:=(A.lss a1 (AV.aj 0)).bind λx1=>(A.cond x1 (((none:Option AV)).bind λx3=>some (([]:aq),σ)) (some (([]:aq),σ))).bind λr2=>A.oz (A.qZ a0) (λx4=>(A.aY a0).bind λx5=>(A.sub x4 x5).bind λx6=>(A.sub a1 x6).bind λx7=>(A.gtr x7 (AV.aj 0)).bind λx8=>(A.cond x8 (A.oz (A.qZ a0) (λaS=>(A.bl 3 a0 none (some aS) r2.2).bind λbI=>(A.kF 3 (140737488355328 / 32) [(AV.aj 0),aR,(AV.aj 0)] bI x7 r2.2).bind λpV=>(A.aY a0).bind λbw=>(A.bl 3 pV.1 none (some bw) pV.2).bind λbG=>some ([bG],pV.2)) (A.qw a0 r2.2 λn15 oM=>(A.bl 3 a0 none (some (AV.aj n15)) oM).bind λbJ=>(A.kF 3 (140737488355328 / 32) [(AV.aj 0),aR,(AV.aj 0)] bJ x7 oM).bind λgl=>(A.aY a0).bind λbY=>(A.bl 3 gl.1 none (some bY) gl.2).bind λbZ=>some ([bZ],gl.2))) (some ([a0],r2.2))).bind λr9=>some ((ah r9.1 0),r9.2)) (A.qw a0 r2.2 λn21 FI=>(A.aY a0).bind λcg=>(A.sub (AV.aj n21) cg).bind λcr=>(A.sub a1 cr).bind λck=>(A.gtr ck (AV.aj 0)).bind λcH=>(A.cond cH (A.oz (A.qZ a0) (λef=>(A.bl 3 a0 none (some ef) FI).bind λcZ=>(A.kF 3 (140737488355328 / 32) [(AV.aj 0),aR,(AV.aj 0)] cZ ck FI).bind λlT=>(A.aY a0).bind λeo=>(A.bl 3 lT.1 none (some eo) lT.2).bind λcK=>some ([cK],lT.2)) (A.qw a0 FI λn33 Rz=>(A.bl 3 a0 none (some (AV.aj n33)) Rz).bind λiD=>(A.kF 3 (140737488355328 / 32) [(AV.aj 0),aR,(AV.aj 0)] iD ck Rz).bind λnQ=>(A.aY a0).bind λkY=>(A.bl 3 nQ.1 none (some kY) nQ.2).bind λdU=>some ([dU],nQ.2))) (some ([a0],FI))).bind λfT=>some ((ah fT.1 0),fT.2))
noncomputable def zk:aq→Heap→aB:=A.wrap false [] .k (A.dA w5)
noncomputable def FQ (a0:AV) (σ:Heap):aB:=(A.aY a0).bind λx1=>(A.loop (λv2 s3=>(A.lss (ah v2 1) x1).bind λx5=>A.cond x5 ((A.aK 1 a0 (ah v2 1)).bind λx6=>((A.deref x6 s3).bind λc7=>A.ay 0 c7).bind λx8=>(A.aY x8).bind λx9=>(A.add (ah v2 0) x9).bind λaS=>(A.lss aS (AV.aj 0)).bind λbI=>(A.cond bI (((none:Option AV)).bind λbw=>some (([]:aq),s3)) (some (([]:aq),s3))).bind λpV=>(A.add (ah v2 1) (AV.aj 1)).bind λbG=>some (AX.normal,[aS,bG],pV.2)) (some (AX.exit 0,[(ah v2 0),(ah v2 1)],s3))) [(AV.aj 0),(AV.aj 0)] σ).bind λig=>bif ig.1==AX.exit 0 then((zk [AV.au,(ah ig.2.1 0)] ig.2.2).bind λwQ=>(A.aY a0).bind λbJ=>(A.loop (λgI qJ=>(A.lss (ah gI 1) bJ).bind λaT=>A.cond aT ((A.aK 1 a0 (ah gI 1)).bind λbO=>((A.deref bO qJ).bind λeW=>A.ay 0 eW).bind λcr=>(A.append 3 (140737488355328 / 32) (ah gI 0) cr qJ).bind λpW=>(A.add (ah gI 1) (AV.aj 1)).bind λcH=>some (AX.normal,[pW.1,cH],pW.2)) (some (AX.exit 2,[(ah gI 0),(ah gI 1)],qJ))) [wQ.1,(AV.aj 0)] wQ.2).bind λfT=>bif fT.1==AX.exit 2 then(A.fin σ (ah fT.2.1 0) fT.2.2)else none)else none
noncomputable def vF:aq→Heap→aB:=A.wrap true [(.s 1)] (.s 3) (A.eP FQ)
noncomputable def Dy (dyn:Nat→aq→Heap→aB) (a0 a1 a2:AV) (σ:Heap):aB:=(A.aY a0).bind λx1=>(A.aY a1).bind λx2=>(A.neq .i x1 x2).bind λx3=>A.cond x3 (A.fin σ aU σ) ((A.aY a0).bind λx4=>(A.loop (λv5 s6=>(A.lss (ah v5 1) x4).bind λx8=>A.cond x8 ((A.aK 3 a0 (ah v5 1)).bind λx9=>((A.deref x9 s6).bind λi6=>A.aA 0 3 i6).bind λbI=>(A.cells 3 bI).bind λdD=>(A.aH 0 dD [(AV.aj 0),aR,AV.au]).bind λkU=>(A.aK 3 a1 (ah v5 1)).bind λbG=>((A.deref bG s6).bind λeU=>A.aA 0 3 eU).bind λbE=>(A.cells 3 bE).bind λiz=>(A.aH 0 iz [(AV.aj 0),aR,AV.au]).bind λfQ=>(A.aA 0 3 kU).bind λbY=>(A.aA 0 3 fQ).bind λbZ=>(A.fC dyn a2 [bY,bZ] s6).bind λdR=>(A.not dR.1).bind λbO=>A.cond bO (some (AX.ret,[aU,(ah v5 1)],dR.2)) ((A.add (ah v5 1) (AV.aj 1)).bind λcg=>some (AX.normal,[(ah v5 0),cg],dR.2))) (some (AX.exit 0,[(ah v5 0),(ah v5 1)],s6))) [aU,(AV.aj 0)] σ).bind λij=>bif ij.1==AX.exit 0 then(A.fin σ cY ij.2.2)else bif ij.1==AX.ret then(A.fin σ (ah ij.2.1 0) ij.2.2)else none)
noncomputable def Dx (dyn:Nat→aq→Heap→aB):aq→Heap→aB:=A.wrap true [(.s 3),(.s 3)] .k (A.ke (Dy dyn))
end
section
set_option maxRecDepth 100000
noncomputable def Hi (a0:AV) (σ:Heap):aB:=(A.pg a0).bind λx1=>(A.loop (λv2 s3=>(A.lss (ah v2 1) x1).bind λx5=>A.cond x5 ((A.jA a0 (ah v2 1)).bind λx6=>(A.geq x6 (AV.int .u8 97)).bind λx7=>(A.guard x7 true (some x6) an).bind λx8=>(A.guard x7 true (A.leq x8 (AV.int .u8 122)) an).bind λx9=>(A.pick x7 x9 aU).bind λaS=>(A.guard aS false (some x6) an).bind λbI=>(A.guard aS false (A.geq bI (AV.int .u8 48)) an).bind λbD=>(A.guard aS false (some bD) an).bind λbw=>(A.guard bw true (some x6) an).bind λbG=>(A.guard bw true (A.leq bG (AV.int .u8 57)) an).bind λaW=>(A.guard aS false (A.pick bw aW aU) an).bind λbE=>(A.pick aS cY bE).bind λbJ=>(A.guard bJ false (some x6) an).bind λbz=>(A.guard bJ false (A.eql .i bz (AV.int .u8 45)) an).bind λbY=>(A.pick bJ cY bY).bind λbZ=>(A.not bZ).bind λaT=>A.cond aT (some (AX.ret,[aU,(ah v2 1)],s3)) ((A.add (ah v2 1) (AV.aj 1)).bind λbO=>some (AX.normal,[(ah v2 0),bO],s3))) (some (AX.exit 0,[(ah v2 0),(ah v2 1)],s3))) [aU,(AV.aj 0)] σ).bind λjJ=>bif jJ.1==AX.exit 0 then((A.neq .z a0 aR).bind λcr=>A.fin σ cr jJ.2.2)else bif jJ.1==AX.ret then(A.fin σ (ah jJ.2.1 0) jJ.2.2)else none
noncomputable def He:aq→Heap→aB:=A.wrap true [] .k (A.eP Hi)
noncomputable def GY (a0:AV) (σ:Heap):aB:=(He [a0] σ).bind λr1=>(A.guard r1.1 true (some a0) an).bind λx2=>(A.guard r1.1 true (A.pg x2) an).bind λx3=>(A.guard r1.1 true (A.leq x3 (AV.aj 20)) an).bind λx4=>(A.pick r1.1 x4 aU).bind λx5=>(A.guard x5 true (some a0) an).bind λx6=>(A.guard x5 true (A.jA x6 (AV.aj 0)) an).bind λx7=>(A.guard x5 true (A.geq x7 (AV.int .u8 97)) an).bind λx8=>(A.pick x5 x8 aU).bind λx9=>(A.guard x9 true (some a0) an).bind λaS=>(A.guard x9 true (A.jA aS (AV.aj 0)) an).bind λbI=>(A.guard x9 true (A.leq bI (AV.int .u8 122)) an).bind λbD=>(A.pick x9 bD aU).bind λbw=>A.fin σ bw r1.2
noncomputable def Bh:aq→Heap→aB:=A.wrap true [] .k (A.eP GY)
noncomputable def Gw (a0 a1 a2:AV) (σ:Heap):aB:=(A.geq a0 a1).bind λx1=>(A.guard x1 true (some a0) an).bind λx2=>(A.guard x1 true (some a2) an).bind λx3=>(A.guard x1 true (A.leq x2 x3) an).bind λx4=>(A.pick x1 x4 aU).bind λx5=>A.fin σ x5 σ
noncomputable def n8:aq→Heap→aB:=A.wrap true [] .k (A.ke Gw)
noncomputable def GZ (a0 a1:AV) (σ:Heap):aB:=A.cond a0 (A.fin σ a1 σ) (A.fin σ (AV.aj 0) σ)
noncomputable def xe:aq→Heap→aB:=A.wrap true [] .k (A.dA GZ)
noncomputable def GH (a0:AV) (σ:Heap):aB:=(A.aY a0).bind λx1=>(A.loop (λv2 s3=>(A.lss (ah v2 1) x1).bind λx5=>A.cond x5 ((A.aK 1 a0 (ah v2 1)).bind λx6=>((A.deref x6 s3).bind λc7=>A.ay 0 c7).bind λx8=>(A.neq .i x8 (AV.aj 0)).bind λx9=>A.cond x9 (some (AX.ret,[x8,(ah v2 1)],s3)) ((A.add (ah v2 1) (AV.aj 1)).bind λaS=>some (AX.normal,[(ah v2 0),aS],s3))) (some (AX.exit 0,[(ah v2 0),(ah v2 1)],s3))) [(AV.aj 0),(AV.aj 0)] σ).bind λfS=>bif fS.1==AX.exit 0 then(A.fin σ (AV.aj 0) fS.2.2)else bif fS.1==AX.ret then(A.fin σ (ah fS.2.1 0) fS.2.2)else none
noncomputable def Bd:aq→Heap→aB:=A.wrap true [(.s 1)] .k (A.eP GH)
noncomputable def GI (a0:AV) (σ:Heap):aB:=(A.pg a0).bind λx1=>(A.loop (λv2 s3=>(A.lss (ah v2 1) x1).bind λx5=>A.cond x5 ((A.jA a0 (ah v2 1)).bind λx6=>(A.lss x6 (AV.int .u8 32)).bind λx7=>(A.guard x7 false (some a0) an).bind λx8=>(A.guard x7 false (some (ah v2 1)) an).bind λx9=>(A.guard x7 false (A.jA x8 x9) an).bind λaS=>(A.guard x7 false (A.gtr aS (AV.int .u8 126)) an).bind λbI=>(A.pick x7 cY bI).bind λbD=>A.cond bD (some (AX.ret,[aU,(ah v2 1)],s3)) ((A.add (ah v2 1) (AV.aj 1)).bind λbw=>some (AX.normal,[(ah v2 0),bw],s3))) (some (AX.exit 0,[(ah v2 0),(ah v2 1)],s3))) [aU,(AV.aj 0)] σ).bind λia=>bif ia.1==AX.exit 0 then((A.neq .z a0 aR).bind λaW=>(A.guard aW true (some a0) an).bind λbE=>(A.guard aW true (A.pg bE) an).bind λbJ=>(A.guard aW true (A.leq bJ (AV.aj 60)) an).bind λbz=>(A.pick aW bz aU).bind λbY=>(A.guard bY true (some a0) an).bind λbZ=>(A.guard bY true (A.jA bZ (AV.aj 0)) an).bind λaT=>(A.guard bY true (A.neq .i aT (AV.int .u8 32)) an).bind λbO=>(A.pick bY bO aU).bind λcg=>(A.guard cg true (some a0) an).bind λcr=>(A.guard cg true (some a0) an).bind λck=>(A.guard cg true (A.pg ck) an).bind λcH=>(A.guard cg true (A.sub cH (AV.aj 1)) an).bind λcQ=>(A.guard cg true (A.jA cr cQ) an).bind λef=>(A.guard cg true (A.neq .i ef (AV.int .u8 32)) an).bind λcZ=>(A.pick cg cZ aU).bind λcA=>A.fin σ cA ia.2.2)else bif ia.1==AX.ret then(A.fin σ (ah ia.2.1 0) ia.2.2)else none
noncomputable def Gz:aq→Heap→aB:=A.wrap true [] .k (A.eP GI)
end
section
set_option maxRecDepth 100000
noncomputable def Gd (a0:AV) (σ:Heap):aB:=(n8 [a0,(AV.aj 0),(AV.aj 65535)] σ).bind λr1=>A.fin σ r1.1 r1.2
noncomputable def AZ:aq→Heap→aB:=A.wrap true [] .k (A.eP Gd)
noncomputable def F1 (a0:AV) (σ:Heap):aB:=(A.aY a0).bind λx1=>(A.gtr x1 (AV.aj 30)).bind λx2=>A.cond x2 (A.fin σ (AV.aj 2) σ) ((A.aY a0).bind λx3=>(A.loop (λv4 s5=>(A.lss (ah v4 1) x3).bind λx7=>A.cond x7 ((A.aK 3 a0 (ah v4 1)).bind λx8=>((A.deref x8 s5).bind λc9=>A.aA 0 3 c9).bind λaS=>(A.cells 3 aS).bind λgd=>(A.aH 0 gd [(AV.aj 0),(AV.aj 0),aR]).bind λdD=>(A.ay 0 dD).bind λbw=>(AZ [bw] s5).bind λia=>(A.not ia.1).bind λaW=>(A.guard aW false (A.ay 1 dD) an).bind λbE=>(A.guard aW false (A.quiet (AZ [bE] ia.2) ia.2) an).bind λbJ=>(A.guard aW false (A.not bJ) an).bind λbz=>(A.pick aW cY bz).bind λbY=>(A.guard bY false (A.ay 0 dD) an).bind λbZ=>(A.guard bY false (A.ay 1 dD) an).bind λaT=>(A.guard bY false (A.gtr bZ aT) an).bind λbO=>(A.pick bY cY bO).bind λcg=>A.cond cg (some (AX.ret,[(AV.aj 1),(ah v4 1)],ia.2)) ((A.gtr (ah v4 1) (AV.aj 0)).bind λcr=>(A.guard cr true (A.ay 0 dD) an).bind λck=>(A.guard cr true (some a0) an).bind λcH=>(A.guard cr true (some (ah v4 1)) an).bind λcQ=>(A.guard cr true (A.sub cQ (AV.aj 1)) an).bind λef=>(A.guard cr true (A.aK 3 cH ef) an).bind λcZ=>(A.guard cr true (A.eG 1 cZ) an).bind λcA=>(A.guard cr true ((A.deref cA ia.2).bind λlP=>A.ay 0 lP) an).bind λcK=>(A.guard cr true (A.leq ck cK) an).bind λeJ=>(A.pick cr eJ aU).bind λgn=>A.cond gn (some (AX.ret,[(AV.aj 7),(ah v4 1)],ia.2)) ((A.ay 2 dD).bind λiD=>(Bh [iD] ia.2).bind λnQ=>(A.not nQ.1).bind λkY=>A.cond kY (some (AX.ret,[(AV.aj 5),(ah v4 1)],nQ.2)) ((A.ay 2 dD).bind λdU=>(A.look .z (AV.om σ.length) dU aU nQ.2).bind λeR=>A.cond eR (some (AX.ret,[(AV.aj 6),(ah v4 1)],nQ.2)) ((A.ay 2 dD).bind λjL=>(A.ji .z (AV.om σ.length) jL cY nQ.2).bind λh41=>(A.add (ah v4 1) (AV.aj 1)).bind λnT=>some (AX.normal,[(ah v4 0),nT],h41)))))) (some (AX.exit 0,[(ah v4 0),(ah v4 1)],s5))) [(AV.aj 0),(AV.aj 0)] (σ++[bu.map []])).bind λqG=>bif qG.1==AX.exit 0 then(A.fin σ (AV.aj 0) qG.2.2)else bif qG.1==AX.ret then(A.fin σ (ah qG.2.1 0) qG.2.2)else none)
noncomputable def F0:aq→Heap→aB:=A.wrap true [(.s 3)] .k (A.eP F1)
noncomputable def FZ (a0:AV) (σ:Heap):aB:=(A.cells 3 a0).bind λc1=>(A.ay 0 c1).bind λx2=>(Bh [x2] σ).bind λr3=>(A.not r3.1).bind λx4=>A.cond x4 (A.fin σ (AV.aj 5) r3.2) ((A.ay 1 c1).bind λx5=>(n8 [x5,(AV.aj 1),(AV.aj 512)] r3.2).bind λr6=>(A.not r6.1).bind λx7=>A.cond x7 (A.fin σ (AV.aj 1) r6.2) ((A.ay 2 c1).bind λx8=>(A.aY x8).bind λx9=>(A.eql .i x9 (AV.aj 0)).bind λaS=>A.cond aS (A.fin σ (AV.aj 8) r6.2) ((A.ay 2 c1).bind λbI=>(A.aY bI).bind λbD=>(A.gtr bD (AV.aj 40)).bind λbw=>A.cond bw (A.fin σ (AV.aj 2) r6.2) ((A.ay 2 c1).bind λbG=>(A.aY bG).bind λaW=>(A.loop (λdZ rX=>(A.lss (ah dZ 2) aW).bind λbY=>A.cond bY ((A.aK 7 bG (ah dZ 2)).bind λbZ=>((A.deref bZ rX).bind λmo=>A.aA 0 7 mo).bind λbO=>(A.cells 7 bO).bind λeW=>(A.aH 0 eW [aR,(AV.aj 0),(AV.aj 0),(AV.aj 0),(AV.aj 0),aU,AV.au]).bind λeI=>(A.ay 0 eI).bind λck=>(Bh [ck] rX).bind λko=>(A.not ko.1).bind λcQ=>A.cond cQ (some (AX.ret,[(ah dZ 0),(AV.aj 5),(ah dZ 2)],ko.2)) ((A.ay 0 eI).bind λef=>(A.look .z (AV.om r6.2.length) ef aU ko.2).bind λcZ=>A.cond cZ (some (AX.ret,[(ah dZ 0),(AV.aj 6),(ah dZ 2)],ko.2)) ((A.ay 1 eI).bind λcA=>(n8 [cA,(AV.aj 1),(AV.aj 4)] ko.2).bind λlU=>(A.not lU.1).bind λcK=>A.cond cK (some (AX.ret,[(ah dZ 0),(AV.aj 4),(ah dZ 2)],lU.2)) ((A.ay 2 eI).bind λeJ=>((A.lb (ah dZ 0)).bind λ_=>some (1)).bind λp34=>((A.lb (ah dZ 0)).bind λiM=>A.ay p34 iM).bind λfV=>(n8 [eJ,(AV.aj 1),fV] lU.2).bind λmC=>(A.not mC.1).bind λdU=>(A.guard dU false (A.ay 3 eI) an).bind λeR=>((A.lb (ah dZ 0)).bind λ_ => some (1)).bind λp40 =>(A.guard dU false ((A.lb (ah dZ 0)).bind λCu=>A.ay p40 Cu) an).bind λnT=>(A.guard dU false (A.quiet (n8 [eR,(AV.aj 0),nT] mC.2) mC.2) an).bind λnU=>(A.guard dU false (A.not nU) an).bind λkZ=>(A.pick dU cY kZ).bind λjq=>(A.guard jq false (A.ay 4 eI) an).bind λqL=>(A.guard jq false (A.quiet (AZ [qL] mC.2) mC.2) an).bind λiE=>(A.guard jq false (A.not iE) an).bind λk9=>(A.pick jq cY k9).bind λgp=>A.cond gp (some (AX.ret,[(ah dZ 0),(AV.aj 1),(ah dZ 2)],mC.2)) ((A.ay 2 eI).bind λdJ=>(A.ay 3 eI).bind λdV=>(A.eql .i dJ dV).bind λfE=>(A.guard fE false (some (AV.om (r6.2++[bu.map []]).length)) an).bind λmG=>(A.guard fE false (A.ay 2 eI) an).bind λje=>(A.guard fE false (A.look .i mG je aU mC.2) an).bind λiF=>(A.pick fE cY iF).bind λiG=>(A.guard iG false (A.ay 3 eI) an).bind λnV=>(A.guard iG false (A.gtr nV (AV.aj 0)) an).bind λmH=>(A.guard iG false (some mH) an).bind λiV=>(A.guard iV true (some (AV.om (r6.2++[bu.map []]).length)) an).bind λld=>(A.guard iV true (A.ay 3 eI) an).bind λiW=>(A.guard iV true (A.look .i ld iW aU mC.2) an).bind λyX=>(A.guard iG false (A.pick iV yX aU) an).bind λdG=>(A.pick iG cY dG).bind λKz=>A.cond Kz (some (AX.ret,[(ah dZ 0),(AV.aj 12),(ah dZ 2)],mC.2)) ((A.ay 6 eI).bind λvA=>(F0 [vA] mC.2).bind λqI=>(A.neq .i qI.1 (AV.aj 0)).bind λqM=>A.cond qM (some (AX.ret,[(ah dZ 0),qI.1,(ah dZ 2)],qI.2)) ((A.ay 0 eI).bind λnW=>(A.ay 2 eI).bind λnZ=>(A.ji .z (AV.om r6.2.length) nW cY qI.2).bind λh70=>(A.ji .i (AV.om (r6.2++[bu.map []]).length) nZ cY h70).bind λQX=>(A.ay 3 eI).bind λn4=>(A.gtr n4 (AV.aj 0)).bind λrZ=>(A.cond rZ ((A.ay 3 eI).bind λsk=>(A.ji .i (AV.om (r6.2++[bu.map []]).length) sk cY QX).bind λh76=>some ([(ah dZ 0)],h76)) (some ([(ah dZ 0)],QX))).bind λRw=>(A.add (ah dZ 2) (AV.aj 1)).bind λgQ=>some (AX.normal,[(ah Rw.1 0),(ah dZ 1),gQ],Rw.2)))))))) (some (AX.exit 1,[(ah dZ 0),(ah dZ 1),(ah dZ 2)],rX))) [(AV.lbx c1),(AV.aj 0),(AV.aj 0)] ((r6.2++[bu.map []])++[bu.map []])).bind λfX=>bif fX.1==AX.exit 1 then(A.fin σ (AV.aj 0) fX.2.2)else bif fX.1==AX.ret then(A.fin σ (ah fX.2.1 1) fX.2.2)else none))))
noncomputable def FX:aq→Heap→aB:=A.wrap true [(.a [.k,.k,(.s 7)])] .k (A.eP FZ)
noncomputable def FY (a0:AV) (σ:Heap):aB:=(A.aY a0).bind λx1=>(A.gtr x1 (AV.aj 60)).bind λx2=>A.cond x2 (A.fin σ (AV.aj 2) σ) ((A.aY a0).bind λx3=>(A.loop (λv4 s5=>(A.lss (ah v4 1) x3).bind λx7=>A.cond x7 ((A.aK 3 a0 (ah v4 1)).bind λx8=>((A.deref x8 s5).bind λc9=>A.aA 0 3 c9).bind λaS=>(A.cells 3 aS).bind λgd=>(A.aH 0 gd [aR,(AV.aj 0),AV.au]).bind λdD=>(A.aA 0 3 dD).bind λbw=>(FX [bw] s5).bind λia=>(A.neq .i ia.1 (AV.aj 0)).bind λaW=>A.cond aW (some (AX.ret,[ia.1,(ah v4 1)],ia.2)) ((A.ay 0 dD).bind λbE=>(A.look .z (AV.om σ.length) bE aU ia.2).bind λbJ=>A.cond bJ (some (AX.ret,[(AV.aj 6),(ah v4 1)],ia.2)) ((A.ay 0 dD).bind λbz=>(A.ji .z (AV.om σ.length) bz cY ia.2).bind λh19=>(A.add (ah v4 1) (AV.aj 1)).bind λbZ=>some (AX.normal,[(ah v4 0),bZ],h19)))) (some (AX.exit 0,[(ah v4 0),(ah v4 1)],s5))) [(AV.aj 0),(AV.aj 0)] (σ++[bu.map []])).bind λdR=>bif dR.1==AX.exit 0 then(A.fin σ (AV.aj 0) dR.2.2)else bif dR.1==AX.ret then(A.fin σ (ah dR.2.1 0) dR.2.2)else none)
noncomputable def FW:aq→Heap→aB:=A.wrap true [(.s 3)] .k (A.eP FY)
noncomputable def F2 (a0 a1:AV) (σ:Heap):aB:=(A.cells 3 a0).bind λc1=>(A.ay 0 c1).bind λx2=>((A.deref a1 σ).bind λc3=>A.ay 0 c3).bind λx4=>(A.eql .z x2 x4).bind λx5=>A.fin σ x5 σ
noncomputable def AT:aq→Heap→aB:=A.wrap true [(.a [.k,.k,(.s 7)])] .k (A.dA F2)
noncomputable def DF (a0 a1:AV) (σ:Heap):aB:=(((A.cell a1).bind λv=>some [v]).bind λcs=>some (AV.rp cs)).bind λx1=>(Dv (A.tab (λ_ _=>none) [(64,AT)]) [a0,(AV.fn 64 [x1])] σ).bind λr2=>(A.lss r2.1 (AV.aj 0)).bind λx3=>A.cond x3 ((A.cells 3 (AV.agg [aR,(AV.aj 0),AV.au])).bind λc4=>(A.aH 0 c4 [aR,(AV.aj 0),AV.au]).bind λc5=>(A.aA 0 3 c5).bind λx6=>A.fin σ (AV.aD [x6,aU]) r2.2) ((A.aK 3 a0 r2.1).bind λx7=>((A.deref x7 r2.2).bind λc8=>A.aA 0 3 c8).bind λx9=>(A.cells 3 x9).bind λi6=>(A.aH 0 i6 [aR,(AV.aj 0),AV.au]).bind λgd=>(A.aA 0 3 gd).bind λbD=>A.fin σ (AV.aD [bD,cY]) r2.2)
noncomputable def DD:aq→Heap→aB:=A.wrap true [(.s 3)] (.t [(.a [.k,.k,(.e 7 pG)]),.k]) (A.dA DF)
noncomputable def AU (a0 a1 a2:AV) (σ:Heap):aB:=(A.eql .p a0 AV.np).bind λx1=>A.cond x1 ((A.add a1 a2).bind λx2=>(A.sub x2 (AV.aj 1)).bind λx3=>(A.leq x3 (AV.aj 512)).bind λx4=>A.fin σ x4 σ) ((A.loop (λv5 s6=>(A.add a1 a2).bind λx8=>(A.lss (ah v5 1) x8).bind λx9=>A.cond x9 ((A.gtr (ah v5 1) (AV.aj 512)).bind λaS=>(A.guard aS false (some a0) an).bind λbI=>(A.guard aS false (some (ah v5 1)) an).bind λbD=>(A.guard aS false (A.lD bI) an).bind λbw=>(A.guard aS false (A.sY 513 1 bw bD) an).bind λbG=>(A.guard aS false ((A.deref bG s6).bind λeU=>A.ay 0 eU) an).bind λbE=>(A.pick aS cY bE).bind λbJ=>A.cond bJ (some (AX.ret,[aU,(ah v5 1)],s6)) ((A.add (ah v5 1) (AV.aj 1)).bind λbz=>some (AX.normal,[(ah v5 0),bz],s6))) (some (AX.exit 0,[(ah v5 0),(ah v5 1)],s6))) [aU,a1] σ).bind λeZ=>bif eZ.1==AX.exit 0 then(A.fin σ cY eZ.2.2)else bif eZ.1==AX.ret then(A.fin σ (ah eZ.2.1 0) eZ.2.2)else none)
noncomputable def zl:aq→Heap→aB:=A.wrap true [] .k (A.ke AU)
noncomputable def A6 (a0 a1 a2:AV) (σ:Heap):aB:=(A.cells 4 a1).bind λc1=>(A.ay 2 c1).bind λx2=>(A.look .i a0 x2 AV.np σ).bind λx3=>(A.eql .p x3 AV.np).bind λx4=>(A.cond x4 ((A.ay 2 c1).bind λx6=>(A.ji .i a0 x6 (AV.op σ.length 0) (σ++[bu.box (List.replicate 513 aU)])).bind λh7=>some ([(AV.lbx c1)],h7)) (some ([(AV.lbx c1)],σ))).bind λr5=>((A.lb (ah r5.1 0)).bind λ_=>some (3)).bind λp8=>((A.lb (ah r5.1 0)).bind λc9=>A.ay p8 c9).bind λaS=>(A.loop (λv11 e9=>((A.lb (ah v11 0)).bind λ_=>some (3)).bind λp14=>((A.lb (ah v11 0)).bind λeU=>A.ay p14 eU).bind λbE=>(A.add bE a2).bind λbJ=>(A.lss (ah v11 1) bJ).bind λbz=>A.cond bz (((A.lb (ah v11 0)).bind λ_=>some (2)).bind λKf=>((A.lb (ah v11 0)).bind λdN=>A.ay Kf dN).bind λaT=>(A.look .i a0 aT AV.np e9).bind λbO=>(A.lD bO).bind λcg=>(A.sY 513 1 cg (ah v11 1)).bind λcr=>((A.cell cY).bind λv=>some [v]).bind λlO=>(A.storeAt cr lO e9).bind λpK=>(A.add (ah v11 1) (AV.aj 1)).bind λcQ=>some (AX.normal,[(ah v11 0),cQ],pK)) (some (AX.exit 0,[(ah v11 0),(ah v11 1)],e9))) [(ah r5.1 0),aS] r5.2).bind λfU=>bif fU.1==AX.exit 0 then(some ((AV.aD []),fU.2.2))else none
noncomputable def DH:aq→Heap→aB:=A.wrap false [] .k (A.ke A6)
noncomputable def F6 (a0:AV) (σ:Heap):aB:=(A.cells 2 a0).bind λc1=>(A.ay 0 c1).bind λx2=>(FW [x2] σ).bind λr3=>(A.neq .i r3.1 (AV.aj 0)).bind λx4=>A.cond x4 (A.fin σ r3.1 r3.2) ((A.ay 1 c1).bind λx5=>(A.aY x5).bind λx6=>(A.gtr x6 (AV.aj 400)).bind λx7=>A.cond x7 (A.fin σ (AV.aj 2) r3.2) ((A.ay 1 c1).bind λx8=>(A.aY x8).bind λx9=>(A.loop (λv10 yW=>(A.lss (ah v10 2) x9).bind λbw=>A.cond bw ((A.aK 4 x8 (ah v10 2)).bind λbG=>((A.deref bG yW).bind λeU=>A.aA 0 4 eU).bind λbE=>(A.cells 4 bE).bind λiz=>(A.aH 0 iz [(AV.aj 0),aR,(AV.aj 0),(AV.aj 0)]).bind λfQ=>(A.ay 0 fQ).bind λbY=>(n8 [bY,(AV.aj 1),(AV.aj 9999)] yW).bind λiB=>(A.not iB.1).bind λaT=>A.cond aT (some (AX.ret,[(ah v10 0),(AV.aj 1),(ah v10 2)],iB.2)) ((A.gtr (ah v10 2) (AV.aj 0)).bind λbO=>(A.guard bO true (A.ay 0 fQ) an).bind λcg=>((A.lb (ah v10 0)).bind λ_ => some (1)).bind λp24 =>(A.guard bO true ((A.lb (ah v10 0)).bind λlO=>A.ay p24 lO) an).bind λcH=>(A.guard bO true (some (ah v10 2)) an).bind λcQ=>(A.guard bO true (A.sub cQ (AV.aj 1)) an).bind λef=>(A.guard bO true (A.aK 4 cH ef) an).bind λcZ=>(A.guard bO true (A.eG 0 cZ) an).bind λcA=>(A.guard bO true ((A.deref cA iB.2).bind λlP=>A.ay 0 lP) an).bind λcK=>(A.guard bO true (A.leq cg cK) an).bind λeJ=>(A.pick bO eJ aU).bind λgn=>A.cond gn (some (AX.ret,[(ah v10 0),(AV.aj 7),(ah v10 2)],iB.2)) (((A.lb (ah v10 0)).bind λ_=>some (0)).bind λp35=>((A.lb (ah v10 0)).bind λuV=>A.ay p35 uV).bind λkY=>(A.ay 1 fQ).bind λdU=>(DD [kY,dU] iB.2).bind λFD=>(A.ext 0 FD.1).bind λjL=>(A.ext 1 FD.1).bind λfK=>(A.cells 3 jL).bind λyu=>(A.aH 0 yu [aR,(AV.aj 0),AV.au]).bind λpM=>(A.not fK).bind λkZ=>A.cond kZ (some (AX.ret,[(ah v10 0),(AV.aj 5),(ah v10 2)],FD.2)) ((A.ay 2 fQ).bind λjq=>(n8 [jq,(AV.aj 1),(AV.aj 64)] FD.2).bind λnR=>(A.not nR.1).bind λiE=>(A.guard iE false (A.ay 3 fQ) an).bind λk9=>(A.guard iE false (A.quiet (n8 [k9,(AV.aj 1),(AV.aj 512)] nR.2) nR.2) an).bind λgp=>(A.guard iE false (A.not gp) an).bind λdJ=>(A.pick iE cY dJ).bind λdV=>(A.guard dV false (A.ay 3 fQ) an).bind λfE=>(A.guard dV false (A.ay 1 pM) an).bind λmG=>(A.guard dV false (A.add fE mG) an).bind λje=>(A.guard dV false (A.sub je (AV.aj 1)) an).bind λiF=>(A.guard dV false (A.gtr iF (AV.aj 512)) an).bind λiG=>(A.pick dV cY iG).bind λnV=>A.cond nV (some (AX.ret,[(ah v10 0),(AV.aj 1),(ah v10 2)],nR.2)) ((A.ay 2 fQ).bind λmH=>(A.look .i (AV.om r3.2.length) mH AV.np nR.2).bind λiV=>(A.ay 3 fQ).bind λld=>(A.ay 1 pM).bind λiW=>(zl [iV,ld,iW] nR.2).bind λfJ=>(A.not fJ.1).bind λdG=>A.cond dG (some (AX.ret,[(ah v10 0),(AV.aj 12),(ah v10 2)],fJ.2)) ((A.aA 0 4 fQ).bind λKz=>(A.ay 1 pM).bind λvA=>(DH [(AV.om r3.2.length),Kz,vA] fJ.2).bind λqI=>(A.add (ah v10 2) (AV.aj 1)).bind λqM=>some (AX.normal,[(ah v10 0),(ah v10 1),qM],qI.2))))))) (some (AX.exit 0,[(ah v10 0),(ah v10 1),(ah v10 2)],yW))) [(AV.lbx c1),(AV.aj 0),(AV.aj 0)] (r3.2++[bu.map []])).bind λC8=>bif C8.1==AX.exit 0 then(A.fin σ (AV.aj 0) C8.2.2)else bif C8.1==AX.ret then(A.fin σ (ah C8.2.1 1) C8.2.2)else none))
noncomputable def DC:aq→Heap→aB:=A.wrap true [lI] .k (A.eP F6)
noncomputable def A5 (a0:AV) (σ:Heap):aB:=(A.cells 2 a0).bind λc1=>(A.aA 0 2 c1).bind λx2=>(DC [x2] σ).bind λr3=>(A.neq .i r3.1 (AV.aj 0)).bind λx4=>A.cond x4 (A.fin σ (AV.aD [AV.au,r3.1]) r3.2) ((A.ay 1 c1).bind λx5=>(A.aY x5).bind λx6=>(A.loop (λv7 s8=>(A.lss (ah v7 2) x6).bind λaS=>A.cond aS ((A.aK 4 x5 (ah v7 2)).bind λbI=>((A.deref bI s8).bind λdD=>A.aA 0 4 dD).bind λbw=>(A.cells 4 bw).bind λgf=>(A.aH 0 gf [(AV.aj 0),aR,(AV.aj 0),(AV.aj 0)]).bind λeU=>((A.lb (ah v7 0)).bind λ_=>some (0)).bind λKe=>((A.lb (ah v7 0)).bind λiz=>A.ay Ke iz).bind λbz=>(A.ay 1 eU).bind λbY=>(DD [bz,bY] s8).bind λiB=>(A.ext 0 iB.1).bind λaT=>(A.ext 1 iB.1).bind λbO=>(A.cells 3 aT).bind λeW=>(A.aH 0 eW [aR,(AV.aj 0),AV.au]).bind λeI=>(A.ay 2 eI).bind λck=>(A.aY ck).bind λcH=>(A.loop (λdF jK=>(A.lss (ah dF 3) cH).bind λcA=>A.cond cA ((A.aK 7 ck (ah dF 3)).bind λeo=>((A.deref eo jK).bind λyq=>A.aA 0 7 yq).bind λeJ=>(A.cells 7 eJ).bind λmq=>(A.aH 0 mq [aR,(AV.aj 0),(AV.aj 0),(AV.aj 0),(AV.aj 0),aU,AV.au]).bind λiM=>((A.lb (ah dF 2)).bind λ_=>some (0)).bind λp36=>((A.lb (ah dF 2)).bind λnL=>A.ay p36 nL).bind λdU=>(A.ay 0 iM).bind λeR=>((((A.cell dU).bind λv=>some [v]).bind λrI=>(A.aH 0 rI [(AV.aj 0),aR]).bind λCu=>((A.cell eR).bind λv=>some [v]).bind λyu=>(A.aH 1 yu Cu).bind λpM=>some pM).bind λcs=>some (AV.agg cs)).bind λkZ=>(((A.cells 2 kZ).bind λCv=>(A.aH 0 Cv [(AV.aj 0),aR]).bind λrJ=>some rJ).bind λcs=>some (AV.sl 2 (dK 2 1 cs))).bind λiE=>(A.append 2 (140737488355328 / 24) (ah dF 1) iE jK).bind λwR=>(A.add (ah dF 3) (AV.aj 1)).bind λgp=>some (AX.normal,[(ah dF 0),wR.1,(ah dF 2),gp],wR.2)) (some (AX.exit 2,[(ah dF 0),(ah dF 1),(ah dF 2),(ah dF 3)],jK))) [(ah v7 0),(ah v7 1),(AV.lbx eU),(AV.aj 0)] iB.2).bind λFF=>bif FF.1==AX.exit 2 then((A.add (ah v7 2) (AV.aj 1)).bind λdV=>some (AX.normal,[(ah FF.2.1 0),(ah FF.2.1 1),dV],FF.2.2))else none) (some (AX.exit 0,[(ah v7 0),(ah v7 1),(ah v7 2)],s8))) [(AV.lbx c1),AV.au,(AV.aj 0)] r3.2).bind λwS=>bif wS.1==AX.exit 0 then(A.fin σ (AV.aD [(ah wS.2.1 1),(AV.aj 0)]) wS.2.2)else none)
noncomputable def Gi:aq→Heap→aB:=A.wrap true [lI] (.t [(.s 2),.k]) (A.eP A5)
end
section
set_option maxRecDepth 100000
noncomputable def GX (a0:AV) (σ:Heap):aB:=(A.cells 2 a0).bind λc1=>(A.aA 0 2 c1).bind λx2=>(Gi [x2] σ).bind λr3=>(A.ext 0 r3.1).bind λx4=>(A.ext 1 r3.1).bind λx5=>(A.aY x4).bind λx6=>(A.loop (λv7 s8=>(A.lss (ah v7 0) x6).bind λaS=>A.cond aS ((A.aK 2 x4 (ah v7 0)).bind λbI=>((A.deref bI s8).bind λdD=>A.aA 0 2 dD).bind λbw=>(A.cells 2 bw).bind λgf=>(A.aH 0 gf [(AV.aj 0),aR]).bind λeU=>(A.aA 0 2 eU).bind λbE=>(A.ji (.s [0,2]) (AV.om r3.2.length) bE cY s8).bind λh17=>(A.add (ah v7 0) (AV.aj 1)).bind λbz=>some (AX.normal,[bz],h17)) (some (AX.exit 0,[(ah v7 0)],s8))) [(AV.aj 0)] (r3.2++[bu.map []])).bind λeZ=>bif eZ.1==AX.exit 0 then(A.fin σ (AV.om r3.2.length) eZ.2.2)else none
noncomputable def Bg:aq→Heap→aB:=A.wrap true [lI] .k (A.eP GX)
noncomputable def GG (a0:AV) (σ:Heap):aB:=(A.eql .z a0 aR).bind λx1=>(A.guard x1 false (some a0) an).bind λx2=>(A.guard x1 false (A.quiet (Gz [x2] σ) σ) an).bind λx3=>(A.pick x1 cY x3).bind λx4=>A.fin σ x4 σ
noncomputable def Bc:aq→Heap→aB:=A.wrap true [] .k (A.eP GG)
noncomputable def Gl (a0:AV) (σ:Heap):aB:=(n8 [a0,(AV.aj 0),(AV.aj 65535)] σ).bind λr1=>A.fin σ r1.1 r1.2
noncomputable def w8:aq→Heap→aB:=A.wrap true [] .k (A.eP Gl)
noncomputable def Gv (a0 a1:AV) (σ:Heap):aB:=(A.cells 2 a0).bind λc1=>(A.cells 2 a1).bind λc2=>(A.ay 0 c1).bind λx3=>(A.ay 0 c2).bind λx4=>(A.neq .i x3 x4).bind λx5=>A.cond x5 ((A.ay 0 c1).bind λx6=>(A.ay 0 c2).bind λx7=>(A.lss x6 x7).bind λx8=>A.fin σ x8 σ) ((A.ay 1 c1).bind λx9=>(A.ay 1 c2).bind λaS=>(DE [x9,aS] σ).bind λfS=>(A.lss fS.1 (AV.aj 0)).bind λbD=>A.fin σ bD fS.2)
noncomputable def Gs:aq→Heap→aB:=A.wrap true [] .k (A.dA Gv)
noncomputable def F4 (a0 a1:AV) (σ:Heap):aB:=(A.cells 2 a0).bind λc1=>(A.aA 0 2 c1).bind λx2=>(DC [x2] σ).bind λr3=>(A.aY a1).bind λx4=>(A.gtr x4 (AV.aj 200)).bind λx5=>(xe [x5,(AV.aj 2)] r3.2).bind λr6=>((((A.cell r3.1).bind λv=>some [v]).bind λc7=>(A.aH 0 c7 [(AV.aj 0),(AV.aj 0)]).bind λc8=>((A.cell r6.1).bind λv=>some [v]).bind λc9=>(A.aH 1 c9 c8).bind λi6=>some i6).bind λcs=>some (AV.sl 1 (dK 1 2 cs))).bind λbI=>(Bd [bI] r6.2).bind λpV=>(A.neq .i pV.1 (AV.aj 0)).bind λbw=>A.cond bw (A.fin σ pV.1 pV.2) ((A.aA 0 2 c1).bind λbG=>(Bg [bG] pV.2).bind λig=>(A.aY a1).bind λbE=>(A.loop (λpY Ko=>(A.lss (ah pY 1) bE).bind λbZ=>A.cond bZ ((A.aK 3 a1 (ah pY 1)).bind λaT=>((A.deref aT Ko).bind λpJ=>A.aA 0 3 pJ).bind λcg=>(A.cells 3 cg).bind λeI=>(A.aH 0 eI [(AV.aj 0),aR,AV.au]).bind λlO=>(A.ay 0 lO).bind λcH=>(n8 [cH,(AV.aj 1),(AV.aj 999)] Ko).bind λfT=>(A.not fT.1).bind λef=>A.cond ef (some (AX.ret,[(AV.aj 1),(ah pY 1)],fT.2)) ((A.gtr (ah pY 1) (AV.aj 0)).bind λcZ=>(A.guard cZ true (A.ay 0 lO) an).bind λcA=>(A.guard cZ true (some a1) an).bind λeo=>(A.guard cZ true (some (ah pY 1)) an).bind λcK=>(A.guard cZ true (A.sub cK (AV.aj 1)) an).bind λeJ=>(A.guard cZ true (A.aK 3 eo eJ) an).bind λgn=>(A.guard cZ true (A.eG 0 gn) an).bind λiD=>(A.guard cZ true ((A.deref iD fT.2).bind λuV=>A.ay 0 uV) an).bind λkY=>(A.guard cZ true (A.leq cA kY) an).bind λdU=>(A.pick cZ dU aU).bind λeR=>A.cond eR (some (AX.ret,[(AV.aj 7),(ah pY 1)],fT.2)) ((A.ay 1 lO).bind λjL=>(Bc [jL] fT.2).bind λFE=>(A.not FE.1).bind λnT=>A.cond nT (some (AX.ret,[(AV.aj 3),(ah pY 1)],FE.2)) ((A.ay 2 lO).bind λnU=>(A.aY nU).bind λkZ=>(A.gtr kZ (AV.aj 2000)).bind λjq=>A.cond jq (some (AX.ret,[(AV.aj 2),(ah pY 1)],FE.2)) ((A.ay 2 lO).bind λqL=>(A.aY qL).bind λiE=>(A.loop (λlV Db=>(A.lss (ah lV 2) iE).bind λdV=>A.cond dV ((A.aK 3 qL (ah lV 2)).bind λfE=>((A.deref fE Db).bind λtI=>A.aA 0 3 tI).bind λje=>(A.cells 3 je).bind λc55=>(A.aH 0 c55 [(AV.aj 0),aR,(AV.aj 0)]).bind λnM=>(A.aA 0 2 nM).bind λnV=>(A.look (.s [0,2]) ig.1 nV aU Db).bind λmH=>(A.not mH).bind λiV=>A.cond iV (some (AX.ret,[(AV.aj 8),(ah lV 1),(ah lV 2)],Db)) ((A.ay 2 nM).bind λld=>(w8 [ld] Db).bind λnS=>(A.not nS.1).bind λyX=>A.cond yX (some (AX.ret,[(AV.aj 1),(ah lV 1),(ah lV 2)],nS.2)) ((A.gtr (ah lV 2) (AV.aj 0)).bind λdG=>((A.lb (ah lV 1)).bind λ_ => some (2)).bind λKi =>(A.guard dG true ((A.lb (ah lV 1)).bind λJI=>A.ay Ki JI) an).bind λwZ=>(A.guard dG true (some (ah lV 2)) an).bind λqM=>(A.guard dG true (A.sub qM (AV.aj 1)) an).bind λnW=>(A.guard dG true (A.aK 3 wZ nW) an).bind λnZ=>(A.guard dG true (A.eG 0 nZ) an).bind λrY=>(A.guard dG true ((A.deref rY nS.2).bind λmu=>A.aA 0 2 mu) an).bind λn4=>(A.guard dG true (A.aA 0 2 nM) an).bind λrZ=>(A.guard dG true (A.quiet (Gs [n4,rZ] nS.2) nS.2) an).bind λsj=>(A.guard dG true (A.not sj) an).bind λsk=>(A.pick dG sk aU).bind λjr=>A.cond jr (some (AX.ret,[(AV.aj 7),(ah lV 1),(ah lV 2)],nS.2)) ((A.add (ah lV 2) (AV.aj 1)).bind λgQ=>some (AX.normal,[(ah lV 0),(ah lV 1),gQ],nS.2))))) (some (AX.exit 3,[(ah lV 0),(ah lV 1),(ah lV 2)],Db))) [(ah pY 0),(AV.lbx lO),(AV.aj 0)] FE.2).bind λfX=>bif fX.1==AX.exit 3 then((A.add (ah pY 1) (AV.aj 1)).bind λmI=>some (AX.normal,[(ah fX.2.1 0),mI],fX.2.2))else bif fX.1==AX.ret then(some (AX.ret,[(ah fX.2.1 0),(ah pY 1)],fX.2.2))else none))))) (some (AX.exit 0,[(ah pY 0),(ah pY 1)],Ko))) [(AV.aj 0),(AV.aj 0)] ig.2).bind λgH=>bif gH.1==AX.exit 0 then(A.fin σ (AV.aj 0) gH.2.2)else bif gH.1==AX.ret then(A.fin σ (ah gH.2.1 0) gH.2.2)else none)
noncomputable def zm:aq→Heap→aB:=A.wrap true [lI,(.s 3)] .k (A.dA F4)
noncomputable def Gk (a0 a1:AV) (σ:Heap):aB:=(A.cells 2 a0).bind λc1=>(A.cells 2 a1).bind λc2=>(A.ay 0 c1).bind λx3=>(A.ay 0 c2).bind λx4=>(A.neq .i x3 x4).bind λx5=>A.cond x5 ((A.ay 0 c1).bind λx6=>(A.ay 0 c2).bind λx7=>(A.lss x6 x7).bind λx8=>A.cond x8 (A.fin σ (AV.aj (-1)) σ) (A.fin σ (AV.aj 1) σ)) ((A.ay 1 c1).bind λx9=>(A.ay 1 c2).bind λaS=>(DE [x9,aS] σ).bind λfS=>A.fin σ fS.1 fS.2)
noncomputable def Gj:aq→Heap→aB:=A.wrap true [] .k (A.dA Gk)
noncomputable def Ge (a0 a1:AV) (σ:Heap):aB:=(A.cells 3 a0).bind λc1=>(A.cells 3 a1).bind λc2=>(A.aA 0 2 c1).bind λx3=>(A.aA 0 2 c2).bind λx4=>(Gj [x3,x4] σ).bind λr5=>A.fin σ r5.1 r5.2
noncomputable def tV:aq→Heap→aB:=A.wrap true [] .k (A.dA Ge)
noncomputable def A8 (a0:AV) (σ:Heap):aB:=(p9 [a0] σ).bind λr1=>(zf (A.tab (λ_ _=>none) [(147,tV)]) [r1.1,(AV.fn 147 [])] r1.2).bind λr2=>(A.aY r1.1).bind λx3=>(A.loop (λv4 s5=>(A.lss (ah v4 1) x3).bind λx7=>A.cond x7 ((A.aK 3 r1.1 (ah v4 1)).bind λx8=>((A.deref x8 s5).bind λc9=>A.aA 0 3 c9).bind λaS=>(A.cells 3 aS).bind λgd=>(A.aH 0 gd [(AV.aj 0),aR,(AV.aj 0)]).bind λdD=>(A.add (ah v4 1) (AV.aj 1)).bind λbw=>(A.aY r1.1).bind λbG=>(A.eql .i bw bG).bind λaW=>(A.guard aW false (some r1.1) an).bind λbE=>(A.guard aW false (some (ah v4 1)) an).bind λbJ=>(A.guard aW false (A.add bJ (AV.aj 1)) an).bind λbz=>(A.guard aW false (A.aK 3 bE bz) an).bind λbY=>(A.guard aW false (A.eG 0 bY) an).bind λbZ=>(A.guard aW false ((A.deref bZ s5).bind λmo=>A.aA 0 2 mo) an).bind λbO=>(A.guard aW false (A.aA 0 2 dD) an).bind λcg=>(A.guard aW false (A.neq (.s [0,2]) bO cg) an).bind λcr=>(A.pick aW cY cr).bind λck=>(A.cond ck ((A.aA 0 3 dD).bind λcQ=>(((A.cells 3 cQ).bind λjF=>(A.aH 0 jF [(AV.aj 0),aR,(AV.aj 0)]).bind λpL=>some pL).bind λcs=>some (AV.sl 3 (dK 3 1 cs))).bind λcA=>(A.append 3 (140737488355328 / 32) (ah v4 0) cA s5).bind λlU=>some ([lU.1],lU.2)) (some ([(ah v4 0)],s5))).bind λko=>(A.add (ah v4 1) (AV.aj 1)).bind λcK=>some (AX.normal,[(ah ko.1 0),cK],ko.2)) (some (AX.exit 0,[(ah v4 0),(ah v4 1)],s5))) [AV.au,(AV.aj 0)] r2.2).bind λkX=>bif kX.1==AX.exit 0 then(A.fin σ (ah kX.2.1 0) kX.2.2)else none
noncomputable def A7:aq→Heap→aB:=A.wrap true [(.s 3)] (.s 3) (A.eP A8)
noncomputable def KS (a0 a1:AV) (σ:Heap):aB:=(A.cells 3 a0).bind λc1=>(A.ay 0 c1).bind λx2=>(A.sub x2 a1).bind λx3=>A.fin σ x3 σ
noncomputable def sx:aq→Heap→aB:=A.wrap true [(.a me)] .k (A.dA KS)
noncomputable def DK (a0 a1 a2 a3 a4 a5:AV) (σ:Heap):aB:=(A.cells 2 a0).bind λc1=>(A.aA 0 2 c1).bind λx2=>(zm [x2,a1] σ).bind λr3=>(n8 [a2,(AV.aj 1),(AV.aj 999)] r3.2).bind λr4=>(A.not r4.1).bind λx5=>(xe [x5,(AV.aj 1)] r4.2).bind λr6=>(Bc [a3] r6.2).bind λr7=>(A.not r7.1).bind λx8=>(xe [x8,(AV.aj 3)] r7.2).bind λr9=>(A.aY a4).bind λaS=>(A.gtr aS (AV.aj 20000)).bind λbI=>(xe [bI,(AV.aj 2)] r9.2).bind λpV=>((((A.cell r3.1).bind λv=>some [v]).bind λkU=>(A.aH 0 kU [(AV.aj 0),(AV.aj 0),(AV.aj 0),(AV.aj 0)]).bind λgf=>((A.cell r6.1).bind λv=>some [v]).bind λeU=>(A.aH 1 eU gf).bind λjE=>((A.cell r9.1).bind λv=>some [v]).bind λiz=>(A.aH 2 iz jE).bind λfQ=>((A.cell pV.1).bind λv=>some [v]).bind λnJ=>(A.aH 3 nJ fQ).bind λdN=>some dN).bind λcs=>some (AV.sl 1 (dK 1 4 cs))).bind λaT=>(Bd [aT] pV.2).bind λiC=>(A.neq .i iC.1 (AV.aj 0)).bind λcg=>A.cond cg (A.fin σ (AV.aD [AV.au,iC.1]) iC.2) ((A.aA 0 2 c1).bind λcr=>(Bg [cr] iC.2).bind λpW=>(A.aY a4).bind λcH=>(A.loop (λdF jK=>(A.lss (ah dF 2) cH).bind λcA=>A.cond cA ((A.aK 3 a4 (ah dF 2)).bind λeo=>((A.deref eo jK).bind λyq=>A.aA 0 3 yq).bind λeJ=>(A.cells 3 eJ).bind λmq=>(A.aH 0 mq [(AV.aj 0),aR,(AV.aj 0)]).bind λiM=>(A.aA 0 2 iM).bind λfV=>(A.look (.s [0,2]) pW.1 fV aU jK).bind λkY=>(A.not kY).bind λdU=>A.cond dU (some (AX.ret,[AV.au,(AV.aj 8),(ah dF 2)],jK)) ((A.ay 2 iM).bind λeR=>(w8 [eR] jK).bind λmD=>(A.not mD.1).bind λfK=>A.cond fK (some (AX.ret,[AV.au,(AV.aj 1),(ah dF 2)],mD.2)) ((A.add (ah dF 2) (AV.aj 1)).bind λnT=>some (AX.normal,[(ah dF 0),(ah dF 1),nT],mD.2)))) (some (AX.exit 0,[(ah dF 0),(ah dF 1),(ah dF 2)],jK))) [AV.au,(AV.aj 0),(AV.aj 0)] pW.2).bind λqG=>bif qG.1==AX.exit 0 then((A.aY a1).bind λkZ=>(A.loop (λdn fy=>(A.lss (ah dn 1) kZ).bind λk9=>A.cond k9 ((A.aK 3 a1 (ah dn 1)).bind λgp=>((A.deref gp fy).bind λpN=>A.aA 0 3 pN).bind λdV=>(A.cells 3 dV).bind λyx=>(A.aH 0 yx [(AV.aj 0),aR,AV.au]).bind λtI=>(A.ay 2 tI).bind λje=>((A.oA (.s 3) p9) [je] fy).bind λqH=>((A.cell qH.1).bind λv=>some [v]).bind λnM=>(A.aH 2 nM tI).bind λkV=>(A.aA 0 3 kV).bind λmH=>(((A.cells 3 mH).bind λpO=>(A.aH 0 pO [(AV.aj 0),aR,AV.au]).bind λyy=>some yy).bind λcs=>some (AV.sl 3 (dK 3 1 cs))).bind λiW=>(A.append 3 (140737488355328 / 48) (ah dn 0) iW qH.2).bind λfJ=>(A.add (ah dn 1) (AV.aj 1)).bind λdG=>some (AX.normal,[fJ.1,dG],fJ.2)) (some (AX.exit 2,[(ah dn 0),(ah dn 1)],fy))) [AV.au,(AV.aj 0)] qG.2.2).bind λr64=>bif r64.1==AX.exit 2 then((zb (A.tab (λ_ _=>none) [(113,sx)]) [(ah r64.2.1 0),a2,(AV.fn 113 [])] r64.2.2).bind λFG=>(A.ext 0 FG.1).bind λwZ=>(A.ext 1 FG.1).bind λqM=>(A.not qM).bind λnW=>(A.cond nW (((((A.cell a2).bind λv=>some [v]).bind λuW=>(A.aH 0 uW [(AV.aj 0),aR,AV.au]).bind λmu=>some mu).bind λcs=>some (AV.agg cs)).bind λn4=>(((A.cells 3 n4).bind λyB=>(A.aH 0 yB [(AV.aj 0),aR,AV.au]).bind λyC=>some yC).bind λcs=>some (AV.sl 3 (dK 3 1 cs))).bind λsk=>(zi [(ah r64.2.1 0),wZ,sk] FG.2).bind λvo=>some ([vo.1],vo.2)) (some ([(ah r64.2.1 0)],FG.2))).bind λAK=>(A.aK 3 (ah AK.1 0) wZ).bind λgQ=>(A.guard a5 true (some qM) an).bind λKA=>(A.pick a5 KA aU).bind λmI=>(A.cond mI ((A.lD gQ).bind λDk=>(A.eG 2 Dk).bind λkr=>((A.deref kr AK.2).bind λuX=>A.ay 0 uX).bind λku=>((((A.cell ku).bind λv=>some [v]).bind λJJ=>(A.aH 0 JJ [AV.au,AV.au]).bind λCF=>((A.cell a4).bind λv=>some [v]).bind λCG=>(A.aH 1 CG CF).bind λnN=>some nN).bind λcs=>some (AV.sl 1 (dK 1 2 cs))).bind λlf=>(vF [lf] AK.2).bind λvq=>(A.eql .z a3 aR).bind λDl=>(A.cond Dl ((A.lD gQ).bind λvC=>(A.eG 1 vC).bind λyY=>((A.deref yY vq.2).bind λrK=>A.ay 0 rK).bind λpZ=>some ([pZ],vq.2)) (some ([a3],vq.2))).bind λC9=>some ([(ah C9.1 0),vq.1],C9.2)) (some ([a3,a4],AK.2))).bind λgH=>(A7 [(ah gH.1 1)] gH.2).bind λwV=>(A.lD gQ).bind λyZ=>(A.eG 1 yZ).bind λvD=>((A.cell (ah gH.1 0)).bind λv=>some [v]).bind λxK=>(A.storeAt vD xK wV.2).bind λZh=>(A.lD gQ).bind λrC=>(A.eG 2 rC).bind λtE=>((A.cell wV.1).bind λv=>some [v]).bind λxL=>(A.storeAt tE xL Zh).bind λI7=>(A.lD gQ).bind λuO=>(A.eG 2 uO).bind λuP=>((A.deref uP I7).bind λZi=>A.ay 0 Zi).bind λuQ=>(A.aY uQ).bind λmj=>(A.gtr mj (AV.aj 2000)).bind λqA=>(A.guard qA false (some (ah AK.1 0)) an).bind λJw=>(A.guard qA false (A.aY Jw) an).bind λuR=>(A.guard qA false (A.gtr uR (AV.aj 200)) an).bind λCm=>(A.pick qA cY Cm).bind λmm=>A.cond mm (A.fin σ (AV.aD [AV.au,(AV.aj 2)]) I7) (A.fin σ (AV.aD [(ah AK.1 0),(AV.aj 0)]) I7))else none)else bif qG.1==AX.ret then(A.fin σ (AV.aD [(ah qG.2.1 0),(ah qG.2.1 1)]) qG.2.2)else none)
noncomputable def DJ:aq→Heap→aB:=A.wrap true [lI,(.s 3),.k,.k,(.s 3)] (.t [(.e 3 me),.k]) (A.uU DK)
end
section
set_option maxRecDepth 100000
noncomputable def GS (a0:AV) (σ:Heap):aB:=(A.pg a0).bind λx1=>(A.loop (λv2 s3=>(A.lss (ah v2 1) x1).bind λx5=>A.cond x5 ((A.jA a0 (ah v2 1)).bind λx6=>(A.lss x6 (AV.int .u8 97)).bind λx7=>(A.guard x7 false (some x6) an).bind λx8=>(A.guard x7 false (A.gtr x8 (AV.int .u8 122)) an).bind λx9=>(A.pick x7 cY x9).bind λaS=>(A.guard aS true (some x6) an).bind λbI=>(A.guard aS true (A.lss bI (AV.int .u8 48)) an).bind λbD=>(A.guard aS true (some bD) an).bind λbw=>(A.guard bw false (some x6) an).bind λbG=>(A.guard bw false (A.gtr bG (AV.int .u8 57)) an).bind λaW=>(A.guard aS true (A.pick bw cY aW) an).bind λbE=>(A.pick aS bE aU).bind λbJ=>(A.guard bJ true (some x6) an).bind λbz=>(A.guard bJ true (A.neq .i bz (AV.int .u8 45)) an).bind λbY=>(A.pick bJ bY aU).bind λbZ=>A.cond bZ (some (AX.ret,[aU,(ah v2 1)],s3)) ((A.add (ah v2 1) (AV.aj 1)).bind λaT=>some (AX.normal,[(ah v2 0),aT],s3))) (some (AX.exit 0,[(ah v2 0),(ah v2 1)],s3))) [aU,(AV.aj 0)] σ).bind λiC=>bif iC.1==AX.exit 0 then((A.neq .z a0 aR).bind λcg=>A.fin σ cg iC.2.2)else bif iC.1==AX.ret then(A.fin σ (ah iC.2.1 0) iC.2.2)else none
noncomputable def GQ:aq→Heap→aB:=A.wrap true [] .k (A.eP GS)
noncomputable def GR (a0:AV) (σ:Heap):aB:=(GQ [a0] σ).bind λr1=>(A.guard r1.1 true (some a0) an).bind λx2=>(A.guard r1.1 true (A.pg x2) an).bind λx3=>(A.guard r1.1 true (A.leq x3 (AV.aj 20)) an).bind λx4=>(A.pick r1.1 x4 aU).bind λx5=>(A.guard x5 true (some a0) an).bind λx6=>(A.guard x5 true (A.jA x6 (AV.aj 0)) an).bind λx7=>(A.guard x5 true (A.geq x7 (AV.int .u8 97)) an).bind λx8=>(A.pick x5 x8 aU).bind λx9=>(A.guard x9 true (some a0) an).bind λaS=>(A.guard x9 true (A.jA aS (AV.aj 0)) an).bind λbI=>(A.guard x9 true (A.leq bI (AV.int .u8 122)) an).bind λbD=>(A.pick x9 bD aU).bind λbw=>A.fin σ bw r1.2
noncomputable def Bf:aq→Heap→aB:=A.wrap true [] .k (A.eP GR)
noncomputable def GU (a0 a1 a2:AV) (σ:Heap):aB:=(A.geq a0 a1).bind λx1=>(A.guard x1 true (some a0) an).bind λx2=>(A.guard x1 true (some a2) an).bind λx3=>(A.guard x1 true (A.leq x2 x3) an).bind λx4=>(A.pick x1 x4 aU).bind λx5=>A.fin σ x5 σ
noncomputable def qd:aq→Heap→aB:=A.wrap true [] .k (A.ke GU)
noncomputable def GB (a0:AV) (σ:Heap):aB:=(qd [a0,(AV.aj 0),(AV.aj 65535)] σ).bind λr1=>A.fin σ r1.1 r1.2
noncomputable def tY:aq→Heap→aB:=A.wrap true [] .k (A.eP GB)
noncomputable def GC (a0:AV) (σ:Heap):aB:=(A.eql .z a0 aR).bind λx1=>(A.guard x1 false (some a0) an).bind λx2=>(A.guard x1 false (A.pg x2) an).bind λx3=>(A.guard x1 false (A.gtr x3 (AV.aj 60)) an).bind λx4=>(A.pick x1 cY x4).bind λx5=>(A.guard x5 false (some a0) an).bind λx6=>(A.guard x5 false (A.jA x6 (AV.aj 0)) an).bind λx7=>(A.guard x5 false (A.eql .i x7 (AV.int .u8 32)) an).bind λx8=>(A.pick x5 cY x8).bind λx9=>(A.guard x9 false (some a0) an).bind λaS=>(A.guard x9 false (some a0) an).bind λbI=>(A.guard x9 false (A.pg bI) an).bind λbD=>(A.guard x9 false (A.sub bD (AV.aj 1)) an).bind λbw=>(A.guard x9 false (A.jA aS bw) an).bind λbG=>(A.guard x9 false (A.eql .i bG (AV.int .u8 32)) an).bind λaW=>(A.pick x9 cY aW).bind λbE=>A.cond bE (A.fin σ aU σ) ((A.pg a0).bind λbJ=>(A.loop (λgI qJ=>(A.lss (ah gI 1) bJ).bind λaT=>A.cond aT ((A.jA a0 (ah gI 1)).bind λbO=>(A.lss bO (AV.int .u8 32)).bind λcg=>(A.guard cg false (some a0) an).bind λcr=>(A.guard cg false (some (ah gI 1)) an).bind λck=>(A.guard cg false (A.jA cr ck) an).bind λcH=>(A.guard cg false (A.gtr cH (AV.int .u8 126)) an).bind λcQ=>(A.pick cg cY cQ).bind λef=>A.cond ef (some (AX.ret,[aU,(ah gI 1)],qJ)) ((A.add (ah gI 1) (AV.aj 1)).bind λcZ=>some (AX.normal,[(ah gI 0),cZ],qJ))) (some (AX.exit 0,[(ah gI 0),(ah gI 1)],qJ))) [aU,(AV.aj 0)] σ).bind λlT=>bif lT.1==AX.exit 0 then(A.fin σ cY lT.2.2)else bif lT.1==AX.ret then(A.fin σ (ah lT.2.1 0) lT.2.2)else none)
noncomputable def Ba:aq→Heap→aB:=A.wrap true [] .k (A.eP GC)
end
end Go.Proofs.Ytjjjjbgohkklnaa
