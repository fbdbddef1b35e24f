/- Parts of the proof of PlayAskingDoesNotMatter, in order. -/
import Derived.Orders
import Derived.Below
import Derived.WalkKit
import Derived.Laws.StructEq
import Derived.Laws.Append
import Derived.Laws.AppendOwn
import Derived.Test.YtooknfkholjpbaaGreatRows
import Derived.KernelRfl
import Derived.Lib.Bytealg
import Derived.Sort.Defs
import Derived.Lib.BitFns
import Derived.Test.YtooknfkholjpbaaGreatKPlayAskingDoesNotMatter1
namespace Go.Proofs.YtooknfkholjpbaaGreat
set_option linter.unusedVariables false
set_option linter.unusedSimpArgs false
set_option linter.unusedSectionVars false
section
open Go.RowKit
section
variable {X : Fx} {z : Z} {s : AS} {a : Act} {w w' : World} {E : List Pl} {pb : Nat → Option Nat} {R : Type}
theorem tK{o:Oper}{v:Value}{w':World}{K:Act→World→Prop}{Q:Exit→Act→World→Prop}(h:(execOp a.eval o).run X.P w=.ok (.value v) w')(k:K (a.put o.dst v) w'):o.wp X.P a w K Q:=by unfold Oper.wp;rw[h,Oper.upon_value];exact k
theorem Te{o:Oper}{w':World}{K:Act→World→Prop}{Q:Exit→Act→World→Prop}(h:(execOp a.eval o).run X.P w=.ok .skip w')(k:K (a.put o.dst undef) w'):o.wp X.P a w K Q:=by unfold Oper.wp;rw[h,Oper.upon_skip];exact k
theorem St.undef(h:St X z s a w E pb)(d:Option Nat):St X z (s.put X d (.aM [])) (a.put d undef) w E pb:=
 h.put d (by simp only[an];exact⟨#[],rfl,by simp [aR]⟩)
theorem BR(hs:eF X)(h:St X z s a w E pb){o:Oper}{k:AS→Option R}{r:R}(hk:((iW X o s none).bind λv=>k (s.put X o.dst v))=some r) {K:Act→World→Prop} {Q:Exit→Act→World→Prop}
  (hK:∀s' a' w' E' cE,St X z s' a' w' E' cE→k s'=some r→K a' w'):o.wp X.P a w K Q:=by
 obtain⟨av,h1,h2⟩:=bO.1 hk;exact acS hs h (tag:=none) trivial h1 λv w' E' h3 h4=>hK _ _ _ _ _ (h3.put o.dst h4) h2
theorem anS(h:St X z s a w E pb){q str:Bool}{i:Operand}{dst:Option Nat}{ty:TypeId}{pos:String}{af:Array Edge}{g:Option (Nat×Bool)}{k:AS→Option R}{r:R}
  (hk:(bif q||str then none else A.vU (ev X s i) s.σ λv σ=>k ((s.heap σ).put X dst v))=some r) {K:Act→World→Prop} {Q:Exit→Act→World→Prop}
  (hK:∀s' a' w' E' cE,St X z s' a' w' E' cE→k s'=some r→K a' w'):Oper.wp X.P ⟨dst,.next i str,ty,pos,af,g⟩ a w K Q:=by
 cases hq:(q||str)
 ·rw[hq]at hk;simp only[bE]at hk;simp only[oP]at hq;obtain⟨rfl,rfl⟩:=hq;obtain⟨av,σ',v',w',k1,k2,k3,k4⟩:=anT (ty:=ty) h hk (gp h i);exact tK (w':=w') (by simp [execOp,k2]) (hK _ _ _ _ _ (k3.put dst k4) k1)
 ·rw[hq]at hk;cases hk
theorem ah2(hs:eF X)(h:St X z s a w E pb){d t n:Nat}{ps:Array (Nat×Operand)}{ty:TypeId}{pos:String}{af:Array Edge}{g:Option (Nat×Bool)}{k:AS→Option R}{r:R}
  (hk:((iW X ⟨some d,.buildSlice t n ps,ty,pos,af,g⟩ s none).bind λv=>A.IL v λsz es=>k ((s.heap (s.σ++[.arr es.length sz es])).put X (some d) (.os s.σ.length es.length sz 0 es.length)))=some r) {K:Act→World→Prop} {Q:Exit→Act→World→Prop}
  (hK:∀s' a' w' E' cE,St X z s' a' w' E' cE→k s'=some r→K a' w'):Oper.wp X.P ⟨some d,.buildSlice t n ps,ty,pos,af,g⟩ a w K Q:=by
 obtain⟨v,h1,h2⟩:=bO.1 hk;unfold A.IL at h2;split at h2
 ·rename_i sz es;cases hl:(es.length==0)
  ·rw[hl]at h2;simp only[bE]at h2;have hne:0<es.length:=by simp at hl;exact List.length_pos_iff.2 hl
   obtain⟨arr,et,e1,e2,e3,e4,e5⟩:=agJ h h1;have hlen:=h.heap.len;simp only[ctx]at hlen;refine tK e1 (hK _ _ _ _ _ ((h.Cc (.cells arr et) (.arr es.length sz es) ⟨w.heap.size,0,es.length,sz,arr.size⟩ rfl λhx=>?_).put (some d) (av:=.os s.σ.length es.length sz 0 es.length) ?_) h2)
   ·have hb:=(MapKept.heap_alloc w (.cells arr et)).1;exact⟨rfl,hne,rfl,e3,⟨arr,et,hb,rfl⟩,by rw[e2];simp,e4 _ hb hx,DO hb e5⟩
   ·simp only[an];refine⟨hne,⟨w.heap.size,0,es.length,sz,arr.size⟩,by show(E++[_])[s.σ.length]? =_;rw[←hlen];exact Eb,bD _,⟨w.heap.size,0,none⟩,es.length,rfl,bD _,λ_=>⟨rfl,.inr (by simp),by rw[e2];simp⟩⟩
  ·rw[hl]at h2;cases h2
 ·cases h2
theorem acO(hs:eF X)(h:St X z s a w E pb){q:Bool}{o:Oper}{k:AS→Option R}{r:R}(hk:jj X q o s k=some r){K:Act→World→Prop}{Q:Exit→Act→World→Prop}
  (hK:∀s' a' w' E' cE,St X z s' a' w' E' cE→k s'=some r→K a' w'):o.wp X.P a w K Q:=by
 unfold jj at hk;cases hp:mm X o s none with
 |some p=>obtain⟨b,rr⟩:=p;rw[hp]at hk;simp only at hk;obtain⟨off,h1,h2⟩:=bO.1 hk;subst h1;obtain⟨n,k1,k2⟩:=acR h (tag:=none) trivial hp;exact tK k2 (hK _ _ _ _ _ (h.Uw o.dst (λ_=>⟨n,k1,rfl⟩)) h2)
 |none=>
  rw[hp]at hk;simp only at hk;obtain⟨dst,op,ty,pos,af,g⟩:=o;cases op<;>simp only at hk<;>first|exact anS h hk hK|exact BR hs h hk hK|skip
  case alloc t=>
   cases dst with
   |none=>cases hk
   |some d=>
    simp only at hk;cases hL:X.L.contains d
    ·rw[hL]at hk;simp only[bE]at hk;cases hO:X.O.contains d
     ·rw[hO]at hk;exact BR hs h hk hK
     ·rw[hO]at hk;simp only[ck]at hk;split at hk
      ·rename_i cs hz;obtain⟨i,v,h1,h2,h3,h4,h5,h6⟩:=AY (w:=w) hz (ctx z w E pb)
       have hrun:(execOp a.eval ⟨some d,.alloc t,ty,pos,af,g⟩).run X.P w=.ok (.value (.pointer (some ⟨w.heap.size,0,none⟩))) (w.alloc (.cells v.cells t)):=by simp [execOp,Instr.alloc,h3,newVar,AQ]
       have hst:=h.Cc (.cells v.cells t) (.box cs) ⟨w.heap.size,0,0,0,0⟩ rfl (λhx=>by
        have hb:(w.alloc (.cells v.cells t)).heap[w.heap.size]? =some (.cells v.cells t (0,0)):=(MapKept.heap_alloc w _).1
        exact⟨rfl,⟨_,_,hb,by have:=h5.length;simpa using this.symm⟩,bI.BH hb (aR.mono hx _ _ h5) h6 (λi hi=>by simp)⟩)
       have hlen:=h.heap.len;simp only[ctx]at hlen;refine tK hrun (hK _ _ _ _ _ (hst.put (some d) (av:=.op s.σ.length 0) ?_) hk);simp only[an];exact⟨⟨w.heap.size,0,0,0,0⟩,by show(E++[_])[s.σ.length]? =_;rw[←hlen];exact Eb,rfl,rfl⟩
      ·cases hk
    ·rw[hL]at hk;simp only[ck]at hk;split at hk
     ·rename_i cs hz;obtain⟨i,v,h1,h2,h3,h4,h5,h6⟩:=AY (w:=w) hz (ctx z w E pb)
      have hrun:(execOp a.eval ⟨some d,.alloc t,ty,pos,af,g⟩).run X.P w=.ok (.value (.pointer (some ⟨w.heap.size,0,none⟩))) (w.alloc (.cells v.cells t)):=by simp [execOp,Instr.alloc,h3,newVar,AQ]
      obtain⟨cE,hst⟩:=h.ru d hL (vs:=v.cells.toList) t h5 h6;exact tK hrun (hK _ _ _ _ _ (by simpa using hst) hk)
     ·cases hk
  case box t x=>
   cases dst with
   |none=>cases hk
   |some d=>
    simp only at hk;cases hL:X.L.contains d
    ·rw[hL]at hk;simp only[bE]at hk;cases hO:X.O.contains d
     ·rw[hO]at hk;exact BR hs h hk hK
     ·rw[hO]at hk;simp only[ck]at hk;obtain⟨cs,h1,h2⟩:=bO.1 hk;obtain⟨h5,h6,_,_⟩:=HC X h1 (gp h x)
      have hrun:(execOp a.eval ⟨some d,.box t x,ty,pos,af,g⟩).run X.P w=.ok (.value (.pointer (some ⟨w.heap.size,0,none⟩))) (w.alloc (.cells (a.eval x).cells t)):=by simp [execOp,Instr.box,newVar,AQ]
      have hst:=h.Cc (.cells (a.eval x).cells t) (.box cs) ⟨w.heap.size,0,0,0,0⟩ rfl (λhx=>by
       have hb:(w.alloc (.cells (a.eval x).cells t)).heap[w.heap.size]? =some (.cells (a.eval x).cells t (0,0)):=(MapKept.heap_alloc w _).1
       exact⟨rfl,⟨_,_,hb,by have:=h5.length;simpa using this.symm⟩,bI.BH hb (aR.mono hx _ _ h5) h6 (λi hi=>by simp)⟩)
      have hlen:=h.heap.len;simp only[ctx]at hlen;refine tK hrun (hK _ _ _ _ _ (hst.put (some d) (av:=.op s.σ.length 0) ?_) h2);simp only[an];exact⟨⟨w.heap.size,0,0,0,0⟩,by show(E++[_])[s.σ.length]? =_;rw[←hlen];exact Eb,rfl,rfl⟩
    ·rw[hL]at hk;simp only[ck]at hk;obtain⟨cs,h1,h2⟩:=bO.1 hk;obtain⟨h5,h6,_,_⟩:=HC X h1 (gp h x)
     have hrun:(execOp a.eval ⟨some d,.box t x,ty,pos,af,g⟩).run X.P w=.ok (.value (.pointer (some ⟨w.heap.size,0,none⟩))) (w.alloc (.cells (a.eval x).cells t)):=by simp [execOp,Instr.box,newVar,AQ]
     obtain⟨cE,hst⟩:=h.ru d hL (vs:=(a.eval x).cells.toList) t h5 h6;exact tK hrun (hK _ _ _ _ _ (by simpa using hst) h2)
  case store t x v=>
   split at hk
   ·rename_i b off hp;obtain⟨cs,h1,h2⟩:=bO.1 hk;obtain⟨new,h3,h4⟩:=bO.1 h2;obtain⟨cs',h5,h6⟩:=bO.1 h4;obtain⟨n,k1,k2,k3,k4⟩:=HJ h (tag:=none) trivial hp h1;obtain⟨r1,r2,r3,d,hd⟩:=HC X h3 (gp h v);obtain⟨arr,bt,j1,j2,j3⟩:=aar k3;obtain⟨j4,j5⟩:=j2.iw h5 r1;have hrun:=RV (P:=X.P) (t:=t) j1 r3 (XU hd) r2 j5;have hst:=h.aps k1 ⟨cs,k4⟩ (t:=bt) j4 (H6 j3 r2);refine Te (w':=_) ?_ (hK _ _ _ _ _ (hst.undef dst) h6);simp only[execOp,k2,Sem.run_bind];rw[show(Instr.storeAt t (.pointer (some ⟨n,off,none⟩)) (a.eval v)).run X.P w=_ from hrun];rfl
   ·obtain⟨new,h3,h4⟩:=bO.1 hk;obtain⟨σ',h5,h6⟩:=bO.1 h4;obtain⟨w',k1,k2⟩:=aj2 h h3 (gp h v) h5 (gp h x);refine Te (w':=w') ?_ (hK _ _ _ _ _ (k2.undef dst) h6);simp only[execOp,Sem.run_bind,k1];rfl
  case makeMap t rr=>
   cases rr with
   |some x=>cases hk
   |none=>
    simp only at hk
    have hrun:(execOp a.eval ⟨dst,.makeMap t none,ty,pos,af,g⟩).run X.P w=.ok (.value (.map (some w.heap.size))) (w.alloc (.map #[] 0)):=by simp [execOp,Instr.makeMap,newObj,Sem.run]
    have hst:=h.Cc (.map #[] 0) (.map []) ⟨w.heap.size,0,0,0,0⟩ rfl (λhx=>by
     have hb:(w.alloc (.map #[] 0)).heap[w.heap.size]? =some (.map #[] 0):=(MapKept.heap_alloc w _).1
     exact⟨rfl,_,_,hb,qo.empty,rfl⟩)
    have hlen:=h.heap.len;simp only[ctx]at hlen;refine tK hrun (hK _ _ _ _ _ (hst.put dst (av:=.om s.σ.length) ?_) hk);simp only[an];exact⟨⟨w.heap.size,0,0,0,0⟩,by show(E++[_])[s.σ.length]? =_;rw[←hlen];exact Eb,rfl,rfl⟩
  case range t x=>
   split at hk
   ·rename_i kt et hd;obtain⟨es,h1,h2⟩:=bO.1 hk;obtain⟨o,k1,k2⟩:=amm h hd h1 (gp h x);have hlen:=h.heap.len;simp only[ctx]at hlen;refine tK (v:=.pointer (some ⟨w.heap.size,0,none⟩)) (w':=w.alloc o) (by simp [execOp,k1]) (hK _ _ _ _ _ (k2.put dst (av:=.op s.σ.length 0) ?_) h2);simp only[an];exact⟨⟨w.heap.size,0,0,0,0⟩,by show(E++[_])[s.σ.length]? =_;rw[←hlen];exact Eb,rfl,rfl⟩
   ·cases hk
  case buildSlice t n ps=>
   cases dst with
   |none=>exact BR hs h hk hK
   |some d=>
    simp only at hk;cases hO:X.O.contains d
    ·rw[hO]at hk;exact BR hs h hk hK
    ·rw[hO]at hk;simp only[ck]at hk;exact ah2 hs h hk hK
  case mapUpdate t m i v=>
   split at hk
   ·rename_i kt et hd;split at hk
    ·rename_i ek he;obtain⟨σ',h1,h2⟩:=bO.1 hk;obtain⟨w',k1,k2⟩:=anQ h hd he h1 (gp h m) (gp h i) (gp h v);refine Te (w':=w') ?_ (hK _ _ _ _ _ (k2.undef dst) h2);simp only[execOp,Sem.run_bind,k1];rfl
    ·cases hk
   ·cases hk
  case call c=>
   have hargs:(c.args.map a.eval).toList=c.args.toList.map a.eval:=by simp
   have re:=HV h c.args.toList;split at hk
   ·rename_i hc;split at hk
    ·rename_i t u x y h1 h2;split at hk
     ·rename_i e e' hd hu;split at hk
      ·rename_i i hi;cases gf:pV i
       ·rw[gf]at hk;simp only[bE]at hk;simp only[pV,oP,beq_eq_false_iff_ne]at gf;obtain⟨⟨z1,z2⟩,z3⟩:=gf;cases Wv:i.zero with
        |none=>rw[Wv]at z3;cases z3
        |some zv=>
         rw[Wv]at z3;simp only[oP,bne_eq_false_iff_eq,Bool.not_eq_false']at z3;obtain⟨z3,z4⟩:=z3;obtain⟨⟨rr,σ'⟩,h3,h4⟩:=bO.1 hk;rw[h2]at re
         have hl:∃v vy,c.args.toList.map a.eval=[v,vy]∧an (ctx z w E pb) x v∧an (ctx z w E pb) y vy:=by
          generalize c.args.toList.map a.eval=vs at *
          simp only[aR]at re;obtain⟨v,_,rfl,r1,u',_,rfl,r2,rfl⟩:=re;exact⟨v,u',rfl,r1,r2⟩
         obtain⟨v,vy,hvs,r1,r2⟩:=hl;have hone:∀x∈zv.cells.toList,eR x=true:=vX.1 z4;obtain⟨n,w',E',k1,k2,k3⟩:=akd (ty:=ty) h hd hu hi Wv z3 z1 z2 hone h3 r1 r2;have h1':c.argTypes=#[t,u]:=by apply nH.1;simpa using h1
         have tc:c.args.map a.eval=#[v,vy]:=by apply nH.1;rw[hargs,hvs]
         have hrun:(execOp a.eval ⟨dst,.call c,ty,pos,af,g⟩).run X.P w=.ok (.value n) w':=by simp only[execOp,resolve,hc,Sem.run_bind,Sem.run_pure,Result.andThen_ok,invoke,builtin,tc,h1',k1]
         exact tK hrun (hK _ _ _ _ _ (k2.put dst k3) h4)
       ·rw[gf]at hk;cases hk
      ·cases hk
     ·rename_i e kk hd hu;split at hk
      ·rename_i i zs hi hz;cases gf:pV i
       ·rw[gf]at hk;simp only[bE]at hk;simp only[pV,oP,beq_eq_false_iff_ne]at gf;obtain⟨⟨z1,z2⟩,z3⟩:=gf;obtain⟨i',zv,g1,g2,g3,g4,g5,g6⟩:=AY (w:=w) hz (ctx z w E pb);rw[hi]at g1;injection g1 with g1;subst g1
        rw[g2]at z3;simp only[oP,bne_eq_false_iff_eq,Bool.not_eq_false']at z3;obtain⟨z3,z4⟩:=z3
        have uz:∀c,aR c zs zv.cells.toList:=λc=>by
         obtain⟨i2,v2,f1,f2,f3,f4,f5,f6⟩:=AY (w:=w) hz c;rw[hi]at f1;injection f1 with f1;subst f1
         rw[g2]at f2;injection f2 with f2;subst f2
         exact f5
        obtain⟨⟨rr,σ'⟩,h3,h4⟩:=bO.1 hk;rw[h2]at re
        have hl:∃v vy,c.args.toList.map a.eval=[v,vy]∧an (ctx z w E pb) x v∧an (ctx z w E pb) y vy:=by
         generalize c.args.toList.map a.eval=vs at *
         simp only[aR]at re;obtain⟨v,_,rfl,r1,u',_,rfl,r2,rfl⟩:=re;exact⟨v,u',rfl,r1,r2⟩
        obtain⟨v,vy,hvs,r1,r2⟩:=hl;obtain⟨n,w',E',k1,k2,k3⟩:=aiT (ty:=ty) h hd hu hi g2 z3 z1 z2 uz g6 h3 r1 r2;have h1':c.argTypes=#[t,u]:=by apply nH.1;simpa using h1
        have tc:c.args.map a.eval=#[v,vy]:=by apply nH.1;rw[hargs,hvs]
        have hrun:(execOp a.eval ⟨dst,.call c,ty,pos,af,g⟩).run X.P w=.ok (.value n) w':=by simp only[execOp,resolve,hc,Sem.run_bind,Sem.run_pure,Result.andThen_ok,invoke,builtin,tc,h1',k1]
        exact tK hrun (hK _ _ _ _ _ (k2.put dst k3) h4)
       ·rw[gf]at hk;cases hk
      ·cases hk
     ·cases hk
    ·cases hk
   ·rename_i hc;split at hk
    ·rename_i t u x y h1 h2;split at hk
     ·rename_i e e' hd hu;split at hk
      ·rename_i i hi;cases gf:pV i
       ·rw[gf]at hk;simp only[bE]at hk;simp only[pV,oP,beq_eq_false_iff_ne]at gf;obtain⟨⟨z1,z2⟩,z3⟩:=gf;obtain⟨⟨rr,σ'⟩,h3,h4⟩:=bO.1 hk;rw[h2]at re
        have hl:∃v vy,c.args.toList.map a.eval=[v,vy]∧an (ctx z w E pb) x v∧an (ctx z w E pb) y vy:=by
         generalize c.args.toList.map a.eval=vs at *
         simp only[aR]at re;obtain⟨v,_,rfl,r1,u',_,rfl,r2,rfl⟩:=re;exact⟨v,u',rfl,r1,r2⟩
        obtain⟨v,vy,hvs,r1,r2⟩:=hl;obtain⟨n,w',k1,k2,k3⟩:=am5 (ty:=ty) h hd hu hi z1 h3 r1 r2;have h1':c.argTypes=#[t,u]:=by apply nH.1;simpa using h1
        have tc:c.args.map a.eval=#[v,vy]:=by apply nH.1;rw[hargs,hvs]
        have hrun:(execOp a.eval ⟨dst,.call c,ty,pos,af,g⟩).run X.P w=.ok (.value n) w':=by simp only[execOp,resolve,hc,Sem.run_bind,Sem.run_pure,Result.andThen_ok,invoke,builtin,tc,h1',k1]
        exact tK hrun (hK _ _ _ _ _ (k2.put dst k3) h4)
       ·rw[gf]at hk;cases hk
      ·cases hk
     ·cases hk
    ·cases hk
   ·rename_i hc;cases hv:iW X ⟨dst,.call c,ty,pos,af,g⟩ s none with
    |some v=>rw[hv]at hk;exact BR hs h (by rw[hv];exact hk) hK
    |none=>
     rw[hv]at hk;simp only[A.KV]at hk;cases q
     ·simp only[bE]at hk;split at hk
      ·rename_i t x h1 h2;split at hk
       ·rename_i e hd;rw[h2]at re
        have hl:∃v,c.args.toList.map a.eval=[v]∧an (ctx z w E pb) x v:=by
         generalize c.args.toList.map a.eval=vs at *
         simp only[aR]at re;obtain⟨v,_,rfl,r1,rfl⟩:=re;exact⟨v,rfl,r1⟩
        obtain⟨v,hvs,r1⟩:=hl;obtain⟨n,σ',k1,k2,k3⟩:=amY (ty:=ty) h hd hk r1;have h1':c.argTypes=#[t]:=by apply nH.1;simpa using h1
        have tc:c.args.map a.eval=#[v]:=by apply nH.1;rw[hargs,hvs]
        have hrun:(execOp a.eval ⟨dst,.call c,ty,pos,af,g⟩).run X.P w=.ok (.value (.int .i64 (n:Int))) w:=by simp only[execOp,resolve,hc,Sem.run_bind,Sem.run_pure,Result.andThen_ok,invoke,builtin,tc,h1',k2]
        exact tK hrun (hK _ _ _ _ _ (k3.put dst (by simp [an])) k1)
       ·cases hk
      ·cases hk
     ·cases hk
   ·rename_i hc;split at hk
    ·rename_i t x h1 h2;split at hk
     ·rename_i e hd;split at hk
      ·rename_i i zs hi hz;cases gf:pV i
       ·rw[gf]at hk;simp only[bE]at hk;simp only[pV,oP,beq_eq_false_iff_ne]at gf;obtain⟨⟨z1,z2⟩,z3⟩:=gf;obtain⟨i',zv,g1,g2,g3,g4,g5,g6⟩:=AY (w:=w) hz (ctx z w E pb);rw[hi]at g1;injection g1 with g1;subst g1
        rw[g2]at z3;simp only[oP,bne_eq_false_iff_eq,Bool.not_eq_false']at z3;obtain⟨z3,z4⟩:=z3
        have uz:∀c,aR c zs zv.cells.toList:=λc=>by
         obtain⟨i2,v2,f1,f2,f3,f4,f5,f6⟩:=AY (w:=w) hz c;rw[hi]at f1;injection f1 with f1;subst f1
         rw[g2]at f2;injection f2 with f2;subst f2
         exact f5
        obtain⟨σ',h3,h4⟩:=bO.1 hk;rw[h2]at re
        have hl:∃v,c.args.toList.map a.eval=[v]∧an (ctx z w E pb) x v:=by
         generalize c.args.toList.map a.eval=vs at *
         simp only[aR]at re;obtain⟨v,_,rfl,r1,rfl⟩:=re;exact⟨v,rfl,r1⟩
        obtain⟨v,hvs,r1⟩:=hl;obtain⟨w',k1,k2⟩:=aly (ty:=ty) h hd (aj7 X.P hi g2) z3 z1 uz g6 h3 r1;have h1':c.argTypes=#[t]:=by apply nH.1;simpa using h1
        have tc:c.args.map a.eval=#[v]:=by apply nH.1;rw[hargs,hvs]
        have hrun:(execOp a.eval ⟨dst,.call c,ty,pos,af,g⟩).run X.P w=.ok (.value undef) w':=by simp only[execOp,resolve,hc,Sem.run_bind,Sem.run_pure,Result.andThen_ok,invoke,builtin,tc,h1',k1];rfl
        exact tK hrun (hK _ _ _ _ _ (k2.undef dst) h4)
       ·rw[gf]at hk;cases hk
      ·cases hk
     ·cases hk
    ·cases hk
   ·rename_i hc;split at hk
    ·rename_i t u m key h1 h2;split at hk
     ·rename_i kt et hd;split at hk
      ·rename_i ek he;obtain⟨σ',h3,h4⟩:=bO.1 hk;rw[h2]at re
       have hl:∃v vy,c.args.toList.map a.eval=[v,vy]∧an (ctx z w E pb) m v∧an (ctx z w E pb) key vy:=by
        generalize c.args.toList.map a.eval=vs at *
        simp only[aR]at re;obtain⟨v,_,rfl,r1,u',_,rfl,r2,rfl⟩:=re;exact⟨v,u',rfl,r1,r2⟩
       obtain⟨v,vy,hvs,r1,r2⟩:=hl;obtain⟨w',k1,k2⟩:=anM (u:=u) (ty:=ty) h hd he h3 r1 r2;have h1':c.argTypes=#[t,u]:=by apply nH.1;simpa using h1
       have tc:c.args.map a.eval=#[v,vy]:=by apply nH.1;rw[hargs,hvs]
       have hrun:(execOp a.eval ⟨dst,.call c,ty,pos,af,g⟩).run X.P w=.ok (.value undef) w':=by simp only[execOp,resolve,hc,Sem.run_bind,Sem.run_pure,Result.andThen_ok,invoke,builtin,tc,h1',k1];rfl
       exact tK hrun (hK _ _ _ _ _ (k2.undef dst) h4)
      ·cases hk
     ·cases hk
    ·cases hk
   ·exact BR hs h hk hK
   ·rename_i f hc;cases hq:(q&&!X.W.contains f)
    ·rw[hq]at hk;simp only[bE]at hk;obtain⟨⟨rr,σ'⟩,h3,h4⟩:=bO.1 hk;exact Ke h (hs.call _ _ _ _ _ h3) (by rw[hargs];exact re) (XJ hc) (λv w' E' h1 h2=>hK _ _ _ _ _ (h1.put dst h2) h4)
    ·rw[hq]at hk;simp only[ck]at hk;exact BR hs h hk hK
   ·rename_i x hnf hc;cases q
    ·simp only[bE]at hk;obtain⟨⟨rr,σ'⟩,h3,h4⟩:=bO.1 hk;have rx:=gp h x;generalize ev X s x=vx at *
     cases vx<;>simp only[A.lJ]at h3<;>first|(cases h3;done)|skip
     rename_i fn0 KA;simp only[an]at rx;obtain⟨f,cs,e1,e2,e3⟩:=rx;rw[←e2]at h3;have Df:X.dyn (X.nm.getD f 0) (c.args.toList.map (ev X s)++KA) s.σ=some (rr,σ'):=by rw[h.nm];exact h3
     exact Ke h (hs.dyn _ _ _ _ _ Df) (vs:=c.args.map a.eval++cs) (by rw[Array.toList_append,hargs];exact re.append e3) (Q9 hc e1) (λv w' E' h1 h2=>hK _ _ _ _ _ (h1.put dst h2) h4)
    ·simp only[ck]at hk;exact BR hs h hk hK
   ·cases hk
end
end
section
structure Up where
 d:Option Nat
 v:AV
 bx:Option (Nat×AV)
 new:Option xG
 zB:Bool
 σ:Option Heap
def sG(zB:Bool)(d:Nat)(a:Option xG):Option xG:=match qY d a with|some p=>bif zB&&p.slot==d then none else some p|none=>none
def Up.sl(u:Up)(l:List AV):List AV:=match u.d with
 |some d=>(match u.bx with|some (b,x)=>l.set b x|none=>l).set d u.v
 |none=>(match u.bx with|some (b,x)=>l.set b x|none=>l)
def Up.A(u:Up)(A:Nat→Option xG)(t:Nat):Option xG:=match u.d with|none=>A t|some d=>bif t==d then u.new else sG u.zB d (A t)
def Up.ap(u:Up)(s:AS):AS:=⟨u.sl s.sl,u.A s.A,u.σ.getD s.σ⟩
theorem JP(d:Nat)(a:Option xG):sG false d a=qY d a:=by unfold sG;cases qY d a<;>rfl
theorem R4(i:Bool)(d:Nat)(a:Option xG):sG i d a=a∨sG i d a=none:=by
 cases a with
 |none=>left;rfl
 |some p=>
  unfold sG;cases hk:qY d (some p)with
  |none=>right;rfl
  |some q=>
   simp only
   have:q=p:=by
    simp only[qY]at hk;cases ht:p.tag with
    |none=>rw[ht]at hk;simpa using hk.symm
    |some g=>
     obtain⟨g,w⟩:=g;rw[ht]at hk;simp only at hk;cases hg:(g==d)
     ·rw[hg]at hk;simpa using hk.symm
     ·rw[hg]at hk;cases hk
   subst this;cases hb:(i&&q.slot==d)
   ·left;rfl
   ·right;rfl
theorem NJ(i:Bool)(d:Nat):sG i d none=none:=rfl
theorem akt(i j:Bool)(d e:Nat)(a:Option xG):sG i d (sG j e a)=sG j e (sG i d a):=by
 rcases R4 i d a with h1|h1<;>rcases R4 j e a with h2|h2
 ·rw[h2,h1,h2]
 ·rw[h2,NJ,h1,h2]
 ·rw[h2,h1,NJ]
 ·rw[h2,NJ,h1,NJ]
structure Up.ac6 (x y : Up) : Prop where
 d:∀d,x.d=some d→y.d≠some d
 bx:∀b v,x.bx=some (b,v)→(∀c w,y.bx=some (c,w)→c≠b)∧y.d≠some b
 by':∀b v,y.bx=some (b,v)→(∀c w,x.bx=some (c,w)→c≠b)∧x.d≠some b
 nx:∀d,y.d=some d→sG y.zB d x.new=x.new
 ny:∀d,x.d=some d→sG x.zB d y.new=y.new
 σ:x.σ=none∨y.σ=none
theorem Up.comm{x y:Up}(h:x.ac6 y)(s:AS):x.ap (y.ap s)=y.ap (x.ap s):=by
 obtain⟨hd,kq,hby,hnx,hny,iO⟩:=h;unfold Up.ap;congr 1
 ·show x.sl (y.sl s.sl)=y.sl (x.sl s.sl);generalize s.sl=l;obtain⟨xd,xv,xb,xn,xi,xs⟩:=x;obtain⟨yd,yv,yb,yn,yi,ys⟩:=y;simp only at hd kq hby;cases xb with
  |none=>
   cases yb with
   |none=>
    cases xd with
    |none=>cases yd<;>simp [Up.sl]
    |some dx=>cases yd with
     |none=>simp [Up.sl]
     |some dy=>simp only[Up.sl];rw[List.set_comm];intro e;exact hd dx rfl (by rw[e])
   |some bv=>
    obtain⟨b,v⟩:=bv;obtain⟨_,hb⟩:=hby b v rfl;cases xd with
    |none=>cases yd<;>simp [Up.sl]
    |some dx=>
     have hne:dx≠b:=λe=>hb (by rw[e])
     cases yd with
     |none=>simp only[Up.sl];rw[List.set_comm _ _ (λe=>hne e.symm)]
     |some dy=>
      have sZ:dx≠dy:=λe=>hd dx rfl (by rw[e])
      simp only[Up.sl];rw[List.set_comm _ _ (λe=>sZ e.symm),List.set_comm _ _ (λe=>hne e.symm)]
  |some bv=>
   obtain⟨b,v⟩:=bv;obtain⟨L5,hb⟩:=kq b v rfl;cases yb with
   |none=>
    cases yd with
    |none=>cases xd<;>simp [Up.sl]
    |some dy=>
     have hne:dy≠b:=λe=>hb (by rw[e])
     cases xd with
     |none=>simp only[Up.sl];rw[List.set_comm _ _ hne]
     |some dx=>
      have sZ:dx≠dy:=λe=>hd dx rfl (by rw[e])
      simp only[Up.sl];rw[List.set_comm _ _ hne,List.set_comm _ _ (λe=>sZ e.symm)]
   |some cw=>
    obtain⟨c,u⟩:=cw;have hcb:c≠b:=L5 c u rfl;obtain⟨_,hc⟩:=hby c u rfl;cases xd with
    |none=>
     cases yd with
     |none=>simp only[Up.sl];rw[List.set_comm _ _ hcb]
     |some dy=>
      have hne:dy≠b:=λe=>hb (by rw[e])
      simp only[Up.sl];rw[List.set_comm _ _ hne,List.set_comm _ _ hcb]
    |some dx=>
     have hnc:dx≠c:=λe=>hc (by rw[e])
     cases yd with
     |none=>simp only[Up.sl];rw[List.set_comm _ _ hcb,List.set_comm _ _ (λe=>hnc e.symm)]
     |some dy=>
      have hne:dy≠b:=λe=>hb (by rw[e])
      have sZ:dx≠dy:=λe=>hd dx rfl (by rw[e])
      simp only[Up.sl];rw[List.set_comm _ _ hne,List.set_comm _ _ (λe=>sZ e.symm),List.set_comm _ _ hcb,List.set_comm _ _ (λe=>hnc e.symm)]
 ·funext t;show x.A (y.A s.A) t=y.A (x.A s.A) t;generalize s.A t=a0;unfold Up.A;cases hxd:x.d with
  |none=>cases y.d<;>rfl
  |some dx=>
   cases hyd:y.d with
   |none=>rfl
   |some dy=>
    have sZ:dx≠dy:=λe=>hd dx hxd (by rw[hyd,e])
    simp only;by_cases h1:t=dx
    ·subst h1;have:(t==dy)=false:=by simpa using sZ
     simp only[beq_self_eq_true,ck,this,bE];exact(hnx dy hyd).symm
    ·have h1':(t==dx)=false:=by simpa using h1
     by_cases h2:t=dy
     ·subst h2;simp only[beq_self_eq_true,ck,h1',bE];exact hny dx hxd
     ·have h2':(t==dy)=false:=by simpa using h2
      simp only[h1',h2',bE];exact akt ..
 ·rcases iO with e|e<;>simp [e]
structure RI (X : Fx) (Rt : List (Nat × Nat)) (Bt : List Nat) (s : AS) : Prop where
 l:∀t b,Rt.lookup t=some b→X.L.contains b=true
 a:∀t p,s.A t=some p→Rt.lookup t=some p.slot
 v:∀t b,Rt.lookup t=some b→X.L.contains t=false→oA (s.sl.getD t .undef)=true
 b:∀t,Bt.contains t=true→rB (s.sl.getD t .undef)=true
def tQ(σ σ':Heap):Prop:=∀(id:Nat)(cs:List AV),σ[id]? =some (aS.box cs)↔σ'[id]? =some (aS.box cs)
section
variable {R : Type} {X : Fx} {Rt : List (Nat × Nat)} {Bt : List Nat} {s s' : AS}
theorem N9(h:RI X Rt Bt s){tag:Option (Nat×Bool)}{x:Operand}{b off:Nat}(hp:place X s tag x=some (b,off)):BM X Rt x=some b:=by
 cases x with
 |tmp t=>
  simp only[place]at hp;simp only[BM];cases hL:X.L.contains t
  ·rw[hL]at hp;simp only[bE]at hp ⊢;split at hp
   ·rename_i p hA;cases hc:X.L.contains p.slot
    ·rw[hc]at hp;cases hp
    ·rw[hc]at hp;simp only[ck]at hp;have ha:=h.a t p hA;split at hp
     ·simp only[Option.some.injEq,Prod.mk.injEq]at hp;rw[ha,hp.1]
     ·rename_i g hg;cases ht:(tag==some g)
      ·rw[ht]at hp;cases hp
      ·rw[ht]at hp;simp only[ck,Option.some.injEq,Prod.mk.injEq]at hp;rw[ha,hp.1]
   ·cases hp
  ·rw[hL]at hp;simp only[ck,Option.some.injEq,Prod.mk.injEq]at hp ⊢;exact hp.1
 |_=>simp [place]at hp
theorem HT(h:RI X Rt Bt s){tag:Option (Nat×Bool)}{x:Operand}{b:Nat}(hr:BM X Rt x=some b)(hp:place X s tag x=none):oA (ev X s x)=true:=by
 cases x with
 |tmp t=>
  simp only[BM]at hr;cases hL:X.L.contains t
  ·rw[hL]at hr;simp only[bE]at hr;simp only[ev,hL,bE];exact h.v t b hr hL
  ·simp only[place,hL,ck]at hp;cases hp
 |_=>simp [BM]at hr
theorem aat{v:AV}{σ:Heap}(h:oA v=true):A.deref v σ=none:=by unfold oA at h;split at h<;>first|rfl|cases h
theorem akp{v:AV}{σ σ':Heap}(h:tQ σ σ')(hv:rB v=true):A.deref v σ=A.deref v σ':=by
 cases v<;>first|rfl|skip
 case op id off=>
  simp only[A.deref];cases h1:σ[id]? with
  |none=>
   cases h2:σ'[id]? with
   |none=>rfl
   |some b=>cases b<;>first|rfl|(have:=(h id _).2 h2;rw[h1]at this;cases this)
  |some b=>
   cases b with
   |box cs=>rw[(h id cs).1 h1]
   |_=>
    cases h2:σ'[id]? with
    |none=>rfl
    |some b=>cases b<;>first|rfl|(have:=(h id _).2 h2;rw[h1]at this;cases this)
 case oe id g i off=>cases hv
theorem aj1{v:AV}{new:List AV}{σ:Heap}(h:oA v=true):A.storeAt v new σ=none:=by unfold oA at h;split at h<;>first|rfl|cases h
theorem RF{pl:Nat→Option (Nat×TypeId)}:∀(ps:List (Nat×Operand))(cs:List AV),(∀p∈ps,ev X s p.2=ev X s' p.2)→rz X s pl ps cs=rz X s' pl ps cs
 |[],cs,_=>rfl
 |(i,x)::ps,cs,h=>by
  have hx:=h (i,x) (by simp);simp only at hx;simp only[rz,hx];cases pl i with
  |none=>rfl
  |some ot=>simp only;congr 1;funext new;congr 1;funext cs';exact RF ps cs' (λp hp=>h p (by simp [hp]))
theorem SF{o:Oper}{tag:Option (Nat×Bool)}(iV:∀x∈o.op.operands.toList,ev X s x=ev X s' x)(hpl:∀x,qI o=some x→place X s tag x=place X s' tag x)(hb:∀b,rt X Rt o=some b→s.sl.getD b .undef=s'.sl.getD b .undef)
  (LY:∀x b off,qI o=some x→place X s' tag x=some (b,off)→rt X Rt o=some b):mm X o s tag=mm X o s' tag:=by
 obtain⟨dst,op,ty,pos,af,g⟩:=o;cases op<;>simp only[mm]
 case nilCheck x=>
  rw[hpl x rfl];split
  ·rename_i b off hp;rw[hb b (LY x b off rfl hp)]
  ·rfl
 case fieldAddr t x f=>
  rw[hpl x rfl];split
  ·rename_i b off hp;rw[hb b (LY x b off rfl hp)]
  ·rfl
 case indexAddr t x i=>
  rw[hpl x rfl,iV i (by simp [Op.operands])];split
  ·rename_i b off hp;rw[hb b (LY x b off rfl hp)]
  ·rfl
theorem NP{o:Oper}{tag:Option (Nat×Bool)}(iV:∀x∈o.op.operands.toList,ev X s x=ev X s' x)(hpl:∀x,qI o=some x→place X s tag x=place X s' tag x)(hb:∀b,rt X Rt o=some b→s.sl.getD b .undef=s'.sl.getD b .undef)
  (LY:∀x b off,qI o=some x→place X s' tag x=some (b,off)→rt X Rt o=some b) (hno:∀x b,qI o=some x→rt X Rt o=some b→place X s' tag x=none→oA (ev X s' x)=true) (iO:xU X Rt o=true→soft Bt o=false→s.σ=s'.σ) (asc:xU X Rt o=true→soft Bt o=true→tQ s.σ s'.σ) (hB:∀t,Bt.contains t=true→rB (ev X s' (.tmp t))=true):iW X o s tag=iW X o s' tag:=by
 obtain⟨dst,op,ty,pos,af,g⟩:=o;cases op<;>simp only[iW];case move x=>rw[iV x (by simp [Op.operands])]
 case assign x=>rw[iV x (by simp [Op.operands])]
 case pick x y u=>rw[iV x (by simp [Op.operands]),iV y (by simp [Op.operands]),iV u (by simp [Op.operands])]
 case box t x=>rw[iV x (by simp [Op.operands])]
 case build t ps=>
  have hps:∀p∈ps.toList,ev X s p.2=ev X s' p.2:=λp hp=>iV p.2 (by simp only[Op.operands];simp;exact⟨p.1,by simpa using hp⟩)
  split
  ·rw[RF ps.toList _ hps]
  ·rfl
 case buildSlice t n ps=>
  have hps:∀p∈ps.toList,ev X s p.2=ev X s' p.2:=λp hp=>iV p.2 (by simp only[Op.operands];simp;exact⟨p.1,by simpa using hp⟩)
  split
  ·split
   ·rw[RF ps.toList _ hps]
   ·rfl
  ·rfl
 case load t x=>
  rw[hpl x rfl,iV x (by simp [Op.operands])];split
  ·rename_i b off hp;rw[hb b (LY x b off rfl hp)]
  ·rename_i hp;cases hr:rt X Rt ⟨dst,.load t x,ty,pos,af,g⟩with
   |none=>
    cases Gy:soft Bt ⟨dst,.load t x,ty,pos,af,g⟩
    ·rw[iO (by simp only[xU,hr,Option.isNone_none]) Gy]
    ·rw[akp (asc (by simp only[xU,hr,Option.isNone_none]) Gy) (by
      cases x with
      |tmp u=>exact hB u Gy
      |_=>simp [soft]at Gy)]
   |some b=>rw[aat (hno x b rfl hr hp),aat (hno x b rfl hr hp)]
 case nilCheck x=>rw[iV x (by simp [Op.operands])]
 case binOp op t x y u=>rw[iV x (by simp [Op.operands]),iV y (by simp [Op.operands])]
 case unOp op t x=>rw[iV x (by simp [Op.operands])]
 case convert a b x=>rw[iV x (by simp [Op.operands])]
 case makeFunc fn first caps=>
  have:caps.toList.map (ev X s)=caps.toList.map (ev X s'):=List.map_congr_left λx hx=>iV x (by simp [Op.operands];exact .inr (by simpa using hx))
  rw[this]
 case slice t x lo hi mx=>
  have h1:lo.map (ev X s)=lo.map (ev X s'):=by cases lo with|none=>rfl|some y=>simp only[bZ];rw[iV y (by simp [Op.operands])]
  have h2:hi.map (ev X s)=hi.map (ev X s'):=by cases hi with|none=>rfl|some y=>simp only[bZ];rw[iV y (by simp [Op.operands])]
  rw[iV x (by simp [Op.operands]),h1,h2,iO rfl rfl];split
  ·rfl
  ·split
   ·rw[iV _ (by simp [Op.operands]),iV _ (by simp [Op.operands])]
   ·rfl
 case fieldAddr t x f=>rw[iV x (by simp [Op.operands])]
 case field t x f=>rw[iV x (by simp [Op.operands])]
 case indexAddr t x i=>rw[iV x (by simp [Op.operands]),iV i (by simp [Op.operands])]
 case index t x i=>rw[iV x (by simp [Op.operands]),iV i (by simp [Op.operands])]
 case lookup t x i ok=>rw[iV x (by simp [Op.operands]),iV i (by simp [Op.operands]),iO rfl rfl]
 case extract x i=>rw[iV x (by simp [Op.operands])]
 case entry i=>rw[iV i (by simp [Op.operands]),iO rfl rfl]
 case call c=>
  have ha:c.args.toList.map (ev X s)=c.args.toList.map (ev X s'):=List.map_congr_left λx hx=>iV x (by simp [Op.operands,Call.operands];exact .inr (by simpa using hx))
  rw[ha,iO rfl rfl];cases hc:c.callee with
  |value f=>have hf:=iV f (by simp [Op.operands,Call.operands,hc]);cases f<;>simp only[hf]
  |_=>rfl
theorem NW{σ:Heap}{b:aS}(hb:∀cs,b≠.box cs):tQ σ (σ++[b]):=by
 intro id cs;by_cases h:id<σ.length
 ·rw[jg h]
 ·rw[qt (by omega),iZ (by omega)];constructor
  ·intro e;cases e
  ·intro e;have:=cS e;simp at this;exact absurd this.symm (hb cs)
theorem Tj{σ:Heap}{id:Nat}{b b':aS}(hb:∀cs,b≠.box cs)(hb':∀cs,b'≠.box cs)(h:σ[id]? =some b):tQ σ (σ.set id b'):=by
 intro i cs;rw[kW];by_cases e:id=i
 ·subst e;rw[h];have hlt:=(bM.1 h).1;simp only[if_true,hlt];constructor
  ·intro e;injection e with e;exact absurd e (hb cs)
  ·intro e;injection e with e;exact absurd e (hb' cs)
 ·simp [e]
theorem Ff(σ:Heap):tQ σ σ:=λ_ _=>Iff.rfl
theorem alp{ek:A.EK}{m k v:AV}{σ σ':Heap}(h:A.fV ek m k v σ=some σ'):tQ σ σ':=by
 unfold A.fV at h;cases hk:A.lq ek k
 ·rw[hk]at h;cases h
 rw[hk]at h;simp only[ck]at h;split at h
 ·split at h
  ·rename_i es hg;obtain⟨es',_,e⟩:=eG.1 h;subst e;exact Tj (λcs e=>by cases e) (λcs e=>by cases e) hg
  ·cases h
 ·cases h
theorem Yk{sz most:Nat}{x r:AV}{ys:List (List AV)}{σ σ':Heap}(h:A.vO sz most x ys σ=some (r,σ')):tQ σ σ':=by
 unfold A.vO at h;split at h
 ·split at h
  ·injection h with h;injection h with _ h;subst h;exact Ff _
  ·split at h
   ·injection h with h;injection h with _ h;subst h;exact NW λcs e=>by cases e
   ·cases h
 ·split at h
  ·injection h with h;injection h with _ h;subst h;exact Ff _
  ·split at h
   ·injection h with h;injection h with _ h;subst h;exact NW λcs e=>by cases e
   ·cases h
 ·split at h
  ·rename_i hg;split at h
   ·split at h
    ·injection h with h;injection h with _ h;subst h;exact Ff _
    ·split at h
     ·injection h with h;injection h with _ h;subst h;exact Tj (λcs e=>by cases e) (λcs e=>by cases e) hg
     ·injection h with h;injection h with _ h;subst h;exact Tj (λcs e=>by cases e) (λcs e=>by cases e) hg
   ·cases h
  ·split at h
   ·injection h with h;injection h with _ h;subst h;exact NW λcs e=>by cases e
   ·cases h
  ·cases h
 ·cases h
theorem aiV{sz most:Nat}{x y r:AV}{σ σ':Heap}(h:A.append sz most x y σ=some (r,σ')):tQ σ σ':=by unfold A.append at h;obtain⟨ys,_,h2⟩:=bO.1 h;exact Yk h2
theorem ah1{sz most:Nat}{zs:List AV}{x n r:AV}{σ σ':Heap}(h:A.Kc sz most zs x n σ=some (r,σ')):tQ σ σ':=by
 unfold A.Kc at h;split at h
 ·split at h
  ·exact Yk h
  ·cases h
 ·cases h
structure Ag (X : Fx) (Rt : List (Nat × Nat)) (Bt : List Nat) (o : Oper) (ls : List Nat) (tag : Option (Nat × Bool)) (s s' : AS) : Prop where
 r1:RI X Rt Bt s
 r2:RI X Rt Bt s'
 iV:∀t∈ls,X.L.contains t=false→s.sl.getD t .undef=s'.sl.getD t .undef
 pl:∀t,qI o=some (.tmp t)→place X s tag (.tmp t)=place X s' tag (.tmp t)
 bx:∀b,rt X Rt o=some b→s.sl.getD b .undef=s'.sl.getD b .undef
 σ:xU X Rt o=true→soft Bt o=false→s.σ=s'.σ
 Mt:xU X Rt o=true→soft Bt o=true→tQ s.σ s'.σ
theorem amk{tag:Option (Nat×Bool)}{x:Operand}{b off:Nat}(h:place X s tag x=some (b,off)):X.L.contains b=true:=by
 cases x with
 |tmp t=>
  simp only[place]at h;cases hL:X.L.contains t
  ·rw[hL]at h;simp only[bE]at h;split at h
   ·rename_i p hA;cases hp:X.L.contains p.slot
    ·rw[hp]at h;cases h
    ·rw[hp]at h;simp only[ck]at h;split at h
     ·simp only[Option.some.injEq,Prod.mk.injEq]at h;rw[←h.1];exact hp
     ·rename_i g hg;cases ht:(tag==some g)
      ·rw[ht]at h;cases h
      ·rw[ht]at h;simp only[ck,Option.some.injEq,Prod.mk.injEq]at h;rw[←h.1];exact hp
   ·cases h
  ·rw[hL]at h;simp only[ck,Option.some.injEq,Prod.mk.injEq]at h;rw[←h.1];exact hL
 |_=>simp [place]at h
theorem Ag.Ev{o:Oper}{ls:List Nat}{tag:Option (Nat×Bool)}(h:Ag X Rt Bt o ls tag s s')(hls:∀t,Operand.tmp t∈o.op.operands.toList→t∈ls):∀x∈o.op.operands.toList,ev X s x=ev X s' x:=by
 intro x hx;cases x with
 |tmp t=>
  simp only[ev];cases hL:X.L.contains t
  ·simp only[bE];exact h.iV t (hls t hx) hL
  ·rfl
 |_=>rfl
theorem RI.I5(h:RI X Rt Bt s):∀t,Bt.contains t=true→rB (ev X s (.tmp t))=true:=by
 intro t ht;simp only[ev];cases X.L.contains t
 ·exact h.b t ht
 ·rfl
theorem Ag.Dj{o:Oper}{ls:List Nat}{tag:Option (Nat×Bool)}(h:Ag X Rt Bt o ls tag s s'):∀x,qI o=some x→place X s tag x=place X s' tag x:=by
 intro x hx;cases x with
 |tmp t=>exact h.pl t hx
 |_=>rfl
def EI(X:Fx)(d:Option Nat)(v:AV):Up:=⟨d,match d with|some d=>bif X.L.contains d then .undef else v|none=>.undef,none,none,false,none⟩
def Mr(X:Fx)(d:Option Nat)(σ:Heap)(v:AV):Up:=⟨d,match d with|some d=>bif X.L.contains d then .undef else v|none=>.undef,none,none,false,some σ⟩
def P6(X:Fx)(d:Option Nat)(b:Nat)(cs:List AV):Up:=⟨d,match d with|some d=>bif X.L.contains d then .undef else .aM []|none=>.undef,some (b,.lbx cs),none,false,none⟩
def P5(d:Nat)(cs:List AV):Up:=⟨some d,.lbx cs,none,none,true,none⟩
def Ji(X:Fx)(d:Option Nat)(b off:Nat)(tag:Option (Nat×Bool)):Up:=
 ⟨d,.undef,none,match d with|some d=>(bif X.L.contains d||!Nat.blt d X.n then none else match tag with|some (g,w)=>(bif g==d then none else some ⟨b,off,some (g,w)⟩)|none=>some ⟨b,off,none⟩)|none=>none,false,none⟩
theorem Ii(d:Option Nat)(v:AV)(s:AS):s.put X d v=(EI X d v).ap s:=by
 cases d with
 |none=>rfl
 |some d=>simp only[AS.put,Up.ap,EI,Up.sl,Option.getD_none];congr 1;funext t;simp only[Up.A,JP]
theorem mN(d:Option Nat)(v:AV)(σ:Heap)(s:AS):(s.heap σ).put X d v=(Mr X d σ v).ap s:=by
 cases d with
 |none=>rfl
 |some d=>simp only[AS.put,AS.heap,Up.ap,Mr,Up.sl,Option.getD_some];congr 1;funext t;simp only[Up.A,JP]
theorem Zs(d:Option Nat)(b:Nat)(cs:List AV)(s:AS):(⟨s.sl.set b (.lbx cs),s.A,s.σ⟩:AS).put X d (.aM [])=(P6 X d b cs).ap s:=by
 cases d with
 |none=>rfl
 |some d=>simp only[AS.put,Up.ap,P6,Up.sl,Option.getD_none];congr 1;funext t;simp only[Up.A,JP]
theorem NN(d:Nat)(cs:List AV)(s:AS):s.ru d cs=(P5 d cs).ap s:=by simp only[AS.ru,Up.ap,P5,Up.sl,Option.getD_none];congr 1
theorem OK(d:Option Nat)(b off:Nat)(tag:Option (Nat×Bool))(s:AS):s.pe X d b off tag=(Ji X d b off tag).ap s:=by
 cases d with
 |none=>rfl
 |some d=>simp only[AS.pe,Up.ap,Ji,Up.sl,Option.getD_none];congr 1;funext t;simp only[Up.A,JP];rfl
structure xm (X : Fx) (Rt : List (Nat × Nat)) (Bt : List Nat) (o : Oper) (ls : List Nat) (τ : Heap) (u : Up) : Prop where
 d:u.d=o.dst
 bx:∀b v,u.bx=some (b,v)→X.L.contains b=true∧wb X Rt o=some b
 new:∀p,u.new=some p→rL o=true∧(∀g w,p.tag=some (g,w)→g∈ls)∧rt X Rt o=some p.slot∧∀d,u.d=some d→Rt.lookup d=some p.slot
 box:u.zB=true→∃d,o.dst=some d∧X.L.contains d=true
 σ:u.σ≠none→th X Rt o=true
 v:∀d b,u.d=some d→Rt.lookup d=some b→X.L.contains d=false→oA u.v=true
 vb:∀d,u.d=some d→Bt.contains d=true→rB u.v=true
 bxv:∀b v,u.bx=some (b,v)→rB v=true
 fr:Ex o=true→∀σ,u.σ=some σ→tQ τ σ
def xH(X:Fx)(Rt:List (Nat×Nat))(Bt:List Nat)(o:Oper):Prop:=(∀d,o.dst=some d→X.L.contains d=false→Rt.lookup d=(bif wZ o then rt X Rt o else none))∧∀d,o.dst=some d→Bt.contains d=true→chainB Bt o=true
theorem xH.of{o:Oper}(h:Ut X Rt o=true)(hb:Ur Bt o=true):xH X Rt Bt o:=by
 refine⟨λd hd hL=>?_,λd hd hc=>?_⟩
 ·unfold Ut at h;rw[hd]at h;simp only[hL,Bool.false_or,beq_iff_eq]at h;exact h
 ·unfold Ur at hb;rw[hd]at hb;simp only[hc,Bool.not_true,Bool.false_or]at hb;exact hb
theorem T0{o:Oper}{ls:List Nat}(v:AV)(hR:xH X Rt Bt o)(hv:wZ o=true→∀b,rt X Rt o=some b→oA v=true)(BE:chainB Bt o=true→rB v=true){τ:Heap}:xm X Rt Bt o ls τ (EI X o.dst v):=by
 refine⟨rfl,(λb v h=>by cases h),(λp h=>by cases h),(λh=>by cases h),(λh=>absurd rfl h),λd b hd hl hL=>?_,λd hd hc=>?_,(λb v h=>by cases h),(λ_ σ h=>by cases h)⟩
 ·simp only[EI]at hd ⊢;rw[hd];simp only[hL,bE];rw[hR.1 d hd hL]at hl;cases ha:wZ o
  ·rw[ha]at hl;cases hl
  ·rw[ha]at hl;exact hv ha b hl
 ·have:=BE (hR.2 d hd hc);simp only[EI]at hd ⊢;rw[hd];simp only;cases X.L.contains d
  ·exact this
  ·rfl
theorem wW{o:Oper}{ls:List Nat}(σ:Heap)(v:AV)(hR:xH X Rt Bt o)(h:th X Rt o=true)(hn:wZ o=false)(hcb:chainB Bt o=false){τ:Heap}(hf:Ex o=true→tQ τ σ):xm X Rt Bt o ls τ (Mr X o.dst σ v):=by
 refine⟨rfl,(λb v h=>by cases h),(λp h=>by cases h),(λh=>by cases h),(λ_=>h),λd b hd hl hL=>?_,λd hd hc=>?_,(λb v h=>by cases h),(λhw σ' h=>?_)⟩
 ·simp only[Mr]at hd;rw[hR.1 d hd hL,hn]at hl;cases hl
 ·have:=hR.2 d hd hc;rw[hcb]at this;cases this
 ·simp only[Mr,Option.some.injEq]at h;subst h;exact hf hw
theorem ac3{τ:Heap}{o:Oper}{ls:List Nat}{b off:Nat}{tag:Option (Nat×Bool)}(hR:xH X Rt Bt o)(ha:wZ o=true)(hr:rt X Rt o=some b)(h:rL o=true)(ht:∀g w,tag=some (g,w)→g∈ls):xm X Rt Bt o ls τ (Ji X o.dst b off tag):=by
 refine⟨rfl,(λb v h=>by cases h),(λp hp=>?_),(λh=>by cases h),(λh=>absurd rfl h),(λd b hd hl hL=>rfl),(λ_ _ _=>rfl),(λb v h=>by cases h),(λ_ σ h=>by cases h)⟩
 have key:p.slot=b∧(∀g w,p.tag=some (g,w)→g∈ls)∧∀d,o.dst=some d→X.L.contains d=false:=by
  unfold Ji at hp;simp only at hp;cases hd:o.dst with
  |none=>rw[hd]at hp;cases hp
  |some d=>
   rw[hd]at hp;simp only at hp;cases hc:(X.L.contains d||!Nat.blt d X.n)
   ·rw[hc]at hp;simp only[bE]at hp;have hL:X.L.contains d=false:=by simp only[oP]at hc;exact hc.1
    cases tag with
    |none=>simp only[Option.some.injEq]at hp;subst hp;exact⟨rfl,(λg w e=>by cases e),λd' e=>by injection e with e;rw[←e];exact hL⟩
    |some gw=>
     obtain⟨g',w'⟩:=gw;simp only at hp;cases hg:(g'==d)
     ·rw[hg]at hp;simp only[bE,Option.some.injEq]at hp;subst hp;refine⟨rfl,λg w e=>?_,λd' e=>by injection e with e;rw[←e];exact hL⟩;simp only[Option.some.injEq,Prod.mk.injEq]at e;rw[←e.1];exact ht g' w' rfl
     ·rw[hg]at hp;cases hp
   ·rw[hc]at hp;cases hp
 refine⟨h,key.2.1,by rw[hr,key.1],λd hd=>?_⟩;have hd':o.dst=some d:=hd;rw[hR.1 d hd' (key.2.2 d hd'),ha,ck,hr,key.1]
theorem NM(l:List AV)(d t:Nat)(v:AV)(h:t≠d):(l.set d v).getD t .undef=l.getD t .undef:=by
 have h':¬d=t:=λe=>h (Eq.symm e)
 simp only[List.getD,kW,aP h']
theorem Um{u:Up}{l:List AV}{t:Nat}(h1:u.d≠some t)(h2:∀b v,u.bx=some (b,v)→t≠b):(u.sl l).getD t .undef=l.getD t .undef:=by
 unfold Up.sl;cases hd:u.d with
 |none=>
  cases hb:u.bx with
  |none=>rfl
  |some bv=>obtain⟨b,v⟩:=bv;exact NM _ _ _ _ (h2 b v hb)
 |some d=>
  have hne:t≠d:=λe=>h1 (by rw[hd,e])
  cases hb:u.bx with
  |none=>exact NM _ _ _ _ hne
  |some bv=>obtain⟨b,v⟩:=bv;simp only;rw[NM _ _ _ _ hne,NM _ _ _ _ (h2 b v hb)]
theorem xm.ri{τ:Heap}{o:Oper}{ls:List Nat}{u:Up}(h:xm X Rt Bt o ls τ u)(hs:RI X Rt Bt s):RI X Rt Bt (u.ap s):=by
 refine⟨hs.l,λt p hp=>?_,λt b ht hL=>?_,λt ht=>?_⟩
 ·have hp':u.A s.A t=some p:=hp;unfold Up.A at hp';cases hd:u.d with
  |none=>rw[hd]at hp';exact hs.a t p hp'
  |some d=>
   rw[hd]at hp';simp only at hp';cases hc:(t==d)
   ·rw[hc]at hp';simp only[bE]at hp';rcases R4 u.zB d (s.A t)with e|e
    ·rw[e]at hp';exact hs.a t p hp'
    ·rw[e]at hp';cases hp'
   ·rw[hc]at hp';simp only[ck]at hp';have:t=d:=by simpa using hc
    subst this;exact(h.new p hp').2.2.2 t hd
 ·show oA ((u.sl s.sl).getD t .undef)=true;by_cases hd:u.d=some t
  ·have hv:=h.v t b hd ht hL
   have:(u.sl s.sl).getD t .undef=u.v∨(u.sl s.sl).getD t .undef=.undef:=by
    unfold Up.sl;rw[hd];simp only[List.getD];rw[kW];simp only[if_true];generalize (match u.bx with|some (b,x)=>s.sl.set b x|none=>s.sl)=q;by_cases hq:t<q.length
    ·left;simp [hq]
    ·right;simp [hq]
   rcases this with e|e
   ·rw[e];exact hv
   ·rw[e];rfl
  ·rw[Um hd (λb' v hb e=>by have:=(h.bx b' v hb).1;rw[←e,hL]at this;cases this)];exact hs.v t b ht hL
 ·show rB ((u.sl s.sl).getD t .undef)=true
  have sI:∀(l:List AV)(d:Nat)(v:AV),(l.set d v).getD t .undef=v∧t=d∨(l.set d v).getD t .undef=l.getD t .undef∨(l.set d v).getD t .undef=.undef:=by
   intro l d v;simp only[List.getD,kW];by_cases e:d=t
   ·subst e;by_cases hq:d<l.length
    ·left;simp [hq]
    ·right;right;simp [hq]
   ·right;left;simp [e]
  have kq:rB ((match u.bx with|some (b,x)=>s.sl.set b x|none=>s.sl).getD t .undef)=true:=by
   cases hb:u.bx with
   |none=>exact hs.b t ht
   |some bv=>
    obtain⟨b,v⟩:=bv;rcases sI s.sl b v with⟨e,_⟩|e|e
    ·simp only;rw[e];exact h.bxv b v hb
    ·simp only;rw[e];exact hs.b t ht
    ·simp only;rw[e];rfl
  unfold Up.sl;generalize (match u.bx with|some (b,x)=>s.sl.set b x|none=>s.sl)=q at kq;cases hd:u.d with
  |none=>exact kq
  |some d=>
   simp only;rcases sI q d u.v with⟨e,e2⟩|e|e
   ·rw[e];exact h.vb d hd (e2▸ht)
   ·rw[e];exact kq
   ·rw[e];rfl
theorem acP{o:Oper}{tag:Option (Nat×Bool)}{p:Nat×Option Nat}(h:mm X o s tag=some p):rL o=true:=by obtain⟨dst,op,ty,pos,af,g⟩:=o;cases op<;>simp only[mm]at h<;>first|(cases h;done)|rfl
theorem abM{o:Oper}{tag:Option (Nat×Bool)}{p:Nat×Option Nat}(h:mm X o s tag=some p):wZ o=true:=by obtain⟨dst,op,ty,pos,af,g⟩:=o;cases op<;>simp only[mm]at h<;>first|(cases h;done)|rfl
theorem acQ(hI:RI X Rt Bt s){o:Oper}{tag:Option (Nat×Bool)}{b:Nat}{rr:Option Nat}(h:mm X o s tag=some (b,rr)):rt X Rt o=some b:=by
 obtain⟨dst,op,ty,pos,af,g⟩:=o;cases op<;>simp only[mm]at h<;>first|(cases h;done)|skip
 all_goals
  split at h
  ·rename_i b' off hp;simp only[Option.some.injEq,Prod.mk.injEq]at h;simp only[rt,qI];rw[←h.1];exact N9 hI hp
  ·cases h
theorem abN(hI:RI X Rt Bt s){o:Oper}{tag:Option (Nat×Bool)}{v:AV}(ha:wZ o=true){b:Nat}(hr:rt X Rt o=some b)(hp:mm X o s tag=none)(h:iW X o s tag=some v):False:=by
 obtain⟨dst,op,ty,pos,af,g⟩:=o;have nf:∀(x:AV)(n:Nat),oA x=true→A.aF n x=none:=λx n h=>by unfold oA at h;split at h<;>first|rfl|cases h
 have nn:∀(x:AV),oA x=true→A.aU x=none:=λx h=>by unfold oA at h;split at h<;>first|rfl|cases h
 have ni:∀(x i:AV)(n:Nat),oA x=true→A.aY n x i=none:=λx i n h=>by unfold oA at h;split at h<;>first|rfl|cases h
 have na:∀(x i:AV)(m n:Nat),oA x=true→A.Bg m n x i=none:=λx i m n h=>by
  unfold oA at h;unfold A.Bg;split at h<;>first|(cases h;done)|skip
  all_goals cases A.idx m i<;>rfl
 cases op<;>simp only[wZ]at ha<;>first|(cases ha;done)|skip
 case nilCheck x=>
  simp only[mm]at hp;simp only[rt,qI]at hr;split at hp
  ·cases hp
  ·rename_i hpl;simp only[iW,nn _ (HT hI hr hpl)]at h;cases h
 case fieldAddr t x f=>
  simp only[mm]at hp;simp only[rt,qI]at hr;split at hp
  ·cases hp
  ·rename_i hpl;simp only[iW]at h;split at h
   ·split at h
    ·rename_i i _;cases hz:(i.size==0)
     ·rw[hz]at h;simp only[bE,nf _ _ (HT hI hr hpl)]at h;cases h
     ·rw[hz]at h;cases h
    ·cases h
   ·cases h
 case indexAddr t x i=>
  simp only[mm]at hp;simp only[rt,qI]at hr;split at hp
  ·cases hp
  ·rename_i hpl;simp only[iW]at h;split at h
   ·split at h
    ·simp only[ni _ _ _ (HT hI hr hpl)]at h;cases h
    ·cases h
   ·split at h
    ·simp only[na _ _ _ _ (HT hI hr hpl)]at h;cases h
    ·cases h
   ·cases h
theorem oK{α β:Type}{x:Option α}{f:α→Option β}{b:β}(h:x.bind f=some b):∃a,x=some a∧f a=some b:=bO.1 h
theorem ZW(hB:∀t,Bt.contains t=true→rB (ev X s (.tmp t))=true){o:Oper}{tag:Option (Nat×Bool)}{v:AV}(hc:chainB Bt o=true)(h:iW X o s tag=some v):rB v=true:=by
 obtain⟨dst,op,ty,pos,af,g⟩:=o
 have nk:∀x,rB x=true→∀y,A.aU x=some y→rB y=true:=λx hx y e=>by cases x<;>simp only[A.aU]at e<;>first|(cases e;done)|(injection e with e;subst e;exact hx)
 have nf:∀x,rB x=true→∀n y,A.aF n x=some y→rB y=true:=λx hx n y e=>by cases x<;>simp only[A.aF]at e<;>first|(cases e;done)|(cases hx;done)|(injection e with e;subst e;rfl)
 cases op<;>simp only[chainB]at hc<;>first|(cases hc;done)|skip
 case move x=>
  cases x<;>first|(cases hc;done)|skip
  simp only[iW,Option.some.injEq]at h;subst h;exact hB _ hc
 case assign x=>
  cases x<;>first|(cases hc;done)|skip
  simp only[iW,Option.some.injEq]at h;subst h;exact hB _ hc
 case nilCheck x=>
  cases x<;>first|(cases hc;done)|skip
  simp only[iW]at h;exact nk _ (hB _ hc) _ h
 case fieldAddr t x f=>
  cases x<;>first|(cases hc;done)|skip
  simp only[iW]at h;split at h
  ·split at h
   ·rename_i i _;cases hz:(i.size==0)
    ·rw[hz]at h;simp only[bE]at h;exact nf _ (hB _ hc) _ _ h
    ·rw[hz]at h;cases h
   ·cases h
  ·cases h
theorem acN{o:Oper}{ls:List Nat}(hR:xH X Rt Bt o)(hI:RI X Rt Bt s)(hls:∀t,Operand.tmp t∈o.op.operands.toList→t∈ls){k:AS→Option R}{r:R}(h:jj X true o s k=some r):
  ∃u,xm X Rt Bt o ls s.σ u∧k (u.ap s)=some r∧∀(R':Type)(k':AS→Option R')(s':AS),Ag X Rt Bt o ls none s s'→jj X true o s' k'=k' (u.ap s'):=by
 have En:∀(s':AS),RI X Rt Bt s'→∀x b off,qI o=some x→place X s' none x=some (b,off)→rt X Rt o=some b:=λs' hi x b off hx hp=>by simp only[rt,hx];exact N9 hi hp
 have IF:∀(s':AS),RI X Rt Bt s'→∀x b,qI o=some x→rt X Rt o=some b→place X s' none x=none→oA (ev X s' x)=true:=λs' hi x b hx hr hp=>by simp only[rt,hx]at hr;exact HT hi hr hp
 unfold jj at h;cases hp:mm X o s none with
 |some p=>
  obtain⟨b,rr⟩:=p;rw[hp]at h;simp only at h;obtain⟨off,e1,e2⟩:=oK h;subst e1;refine⟨Ji X o.dst b off none,ac3 hR (abM hp) (acQ hI hp) (acP hp) (λg w e=>by cases e),by rw[←OK];exact e2,λR' k' s' ha=>?_⟩;have:mm X o s' none=some (b,some off):=by rw[←hp];exact(SF (ha.Ev hls) ha.Dj ha.bx (En s' ha.r2)).symm
  unfold jj;rw[this];simp only[aX];rw[OK]
 |none=>
  rw[hp]at h;simp only at h;have hP:∀s',Ag X Rt Bt o ls none s s'→mm X o s' none=none:=λs' ha=>by rw[←hp];exact(SF (ha.Ev hls) ha.Dj ha.bx (En s' ha.r2)).symm
  have dflt:((iW X o s none).bind λv=>k (s.put X o.dst v))=some r→(∀(R':Type)(k':AS→Option R')(s':AS),Ag X Rt Bt o ls none s s'→jj X true o s' k'=(iW X o s' none).bind λv=>k' (s'.put X o.dst v))→
    ∃u,xm X Rt Bt o ls s.σ u∧k (u.ap s)=some r∧∀(R':Type)(k':AS→Option R')(s':AS),Ag X Rt Bt o ls none s s'→jj X true o s' k'=k' (u.ap s'):=by
   intro hd hsame;obtain⟨v,e1,e2⟩:=oK hd;refine⟨EI X o.dst v,T0 v hR (λha b hr=>(abN hI ha hr hp e1).elim) (λhc=>ZW hI.I5 hc e1),by rw[←Ii];exact e2,λR' k' s' ha=>?_⟩;have:iW X o s' none=some v:=by rw[←e1];exact(NP (ha.Ev hls) ha.Dj ha.bx (En s' ha.r2) (IF s' ha.r2) ha.σ ha.Mt ha.r2.I5).symm
   rw[hsame R' k' s' ha,this,aX,Ii]
  obtain⟨dst,op,ty,pos,af,g⟩:=o;have Bp:∀s',Ag X Rt Bt ⟨dst,op,ty,pos,af,g⟩ ls none s s'→∀x∈op.operands.toList,ev X s x=ev X s' x:=λs' ha=>ha.Ev hls
  have unf:∀{R':Type}(k':AS→Option R')(s':AS),Ag X Rt Bt ⟨dst,op,ty,pos,af,g⟩ ls none s s'→mm X ⟨dst,op,ty,pos,af,g⟩ s' none=none:=λk' s' ha=>hP s' ha
  cases op<;>simp only at h<;>first
   |(exact absurd (show(none:Option R)=some r from h) (by simp))
   |exact dflt h (λR' k' s' ha=>by unfold jj;rw[hP s' ha])
   |skip
  case alloc t=>
   cases dst with
   |none=>cases h
   |some d=>
    simp only at h;cases hL:X.L.contains d
    ·rw[hL]at h;simp only[bE]at h;cases hO:X.O.contains d
     ·rw[hO]at h;exact dflt h (λR' k' s' ha=>by unfold jj;rw[hP s' ha];simp only[hL,hO,bE])
     ·rw[hO]at h;simp only[ck]at h;split at h
      ·rename_i cs hz;rw[mN]at h;refine⟨_,wW _ _ hR (by simp [th,wH];simpa using hO) rfl rfl (λh=>by cases h),h,λR' k' s' ha=>?_⟩;have iO:=ha.σ (by simpa [xU]using hO) rfl;unfold jj;rw[hP s' ha];simp only[hL,hO,bE,ck,hz,iO];rw[mN]
      ·cases h
    ·rw[hL]at h;simp only[ck]at h;split at h
     ·rename_i cs hz;rw[NN]at h;refine⟨_,⟨rfl,(λb v h=>by cases h),(λp h=>by cases h),(λ_=>⟨d,rfl,hL⟩),(λh=>absurd rfl h),(λd' b e _ hL'=>by simp only[P5,Option.some.injEq]at e;rw[←e,hL]at hL';cases hL'),(λ_ _ _=>rfl),(λb v h=>by cases h),(λ_ σ h=>by cases h)⟩,h,λR' k' s' ha=>?_⟩;unfold jj;rw[hP s' ha];simp only[hL,ck,hz];rw[NN]
     ·cases h
  case box t x=>
   cases dst with
   |none=>cases h
   |some d=>
    simp only at h;cases hL:X.L.contains d
    ·rw[hL]at h;simp only[bE]at h;cases hO:X.O.contains d
     ·rw[hO]at h;exact dflt h (λR' k' s' ha=>by unfold jj;rw[hP s' ha];simp only[hL,hO,bE])
     ·rw[hO]at h;simp only[ck]at h;obtain⟨cs,e1,e2⟩:=oK h;rw[mN]at e2;refine⟨_,wW _ _ hR (by simp [th,wH];simpa using hO) rfl rfl (λh=>by cases h),e2,λR' k' s' ha=>?_⟩;have iO:=ha.σ (by simpa [xU]using hO) rfl;have hx:=Bp s' ha x (by simp [Op.operands]);unfold jj;rw[hP s' ha];simp only[hL,hO,bE,ck,←hx,e1,aX,iO];rw[mN]
    ·rw[hL]at h;simp only[ck]at h;obtain⟨cs,e1,e2⟩:=oK h;rw[NN]at e2;refine⟨_,⟨rfl,(λb v h=>by cases h),(λp h=>by cases h),(λ_=>⟨d,rfl,hL⟩),(λh=>absurd rfl h),(λd' b e _ hL'=>by simp only[P5,Option.some.injEq]at e;rw[←e,hL]at hL';cases hL'),(λ_ _ _=>rfl),(λb v h=>by cases h),(λ_ σ h=>by cases h)⟩,e2,λR' k' s' ha=>?_⟩;have hx:=Bp s' ha x (by simp [Op.operands]);unfold jj;rw[hP s' ha];simp only[hL,ck,←hx,e1,aX];rw[NN]
  case store t x v=>
   split at h
   ·rename_i b off hpl;obtain⟨cs,e1,e2⟩:=oK h;obtain⟨new,e3,e4⟩:=oK e2;obtain⟨cs',e5,e6⟩:=oK e4;rw[Zs]at e6;have Dg:rt X Rt ⟨dst,.store t x v,ty,pos,af,g⟩=some b:=by simp only[rt,qI];exact N9 hI hpl
    refine⟨_,⟨rfl,(λb' v' hb=>by simp only[P6,Option.some.injEq,Prod.mk.injEq]at hb;rw[←hb.1];exact⟨amk hpl,Dg⟩),(λp h=>by cases h),(λh=>by cases h),(λh=>absurd rfl h),(λd1 b1 e hl hL=>by rw[hR.1 d1 e hL]at hl;cases hl),(λd1 e hc=>by have:=hR.2 d1 e hc;cases this),(λb1 v1 hb=>by simp only[P6,Option.some.injEq,Prod.mk.injEq]at hb;rw[←hb.2];rfl),(λ_ σ h=>by cases h)⟩,e6,λR' k' s' ha=>?_⟩;have hv:=Bp s' ha v (by simp [Op.operands]);have hpx:place X s' none x=some (b,off):=by rw[←hpl];exact(ha.Dj x rfl).symm
    have kq:=ha.bx b Dg;unfold jj;rw[hP s' ha];simp only[hpx,←kq,e1,aX,←hv,e3,e5];rw[Zs]
   ·rename_i hpl;obtain⟨new,e3,e4⟩:=oK h;obtain⟨σ',e5,e6⟩:=oK e4;rw[mN]at e6
    have Dg:rt X Rt ⟨dst,.store t x v,ty,pos,af,g⟩=none:=by
     cases hr:rt X Rt ⟨dst,.store t x v,ty,pos,af,g⟩with
     |none=>rfl
     |some b=>rw[aj1 (IF s hI x b rfl hr hpl)]at e5;cases e5
    have hw:th X Rt ⟨dst,.store t x v,ty,pos,af,g⟩=true:=by simp only[th,Dg,Option.isNone_none]
    refine⟨_,wW _ _ hR hw rfl rfl (λh=>by cases h),e6,λR' k' s' ha=>?_⟩;have hv:=Bp s' ha v (by simp [Op.operands]);have hx:=Bp s' ha x (by simp [Op.operands]);have iO:=ha.σ (by simp only[xU,Dg,Option.isNone_none]) rfl;have hpx:place X s' none x=none:=by rw[←hpl];exact(ha.Dj x rfl).symm
    unfold jj;rw[hP s' ha];simp only[hpx,←hv,←hx,e3,aX,←iO,e5];rw[mN]
  case makeMap t rr=>
   cases rr with
   |some x=>cases h
   |none=>simp only at h;rw[mN]at h;refine⟨_,wW _ _ hR rfl rfl rfl (λ_=>NW (λcs e=>by cases e)),h,λR' k' s' ha=>?_⟩;have iO:=ha.σ rfl rfl;unfold jj;rw[hP s' ha];simp only[←iO];rw[mN]
  case range t x=>
   split at h
   ·rename_i kt et hd;obtain⟨es,e1,e2⟩:=oK h;rw[mN]at e2;refine⟨_,wW _ _ hR rfl rfl rfl (λh=>by cases h),e2,λR' k' s' ha=>?_⟩;have hx:=Bp s' ha x (by simp [Op.operands]);have iO:=ha.σ rfl rfl;unfold jj;rw[hP s' ha];simp only[hd,←hx,←iO,e1,aX];rw[mN]
   ·cases h
  case buildSlice t n ps=>
   cases dst with
   |none=>exact dflt h (λR' k' s' ha=>by unfold jj;rw[hP s' ha])
   |some d=>
    simp only at h;cases hO:X.O.contains d
    ·rw[hO]at h;exact dflt h (λR' k' s' ha=>by unfold jj;rw[hP s' ha];simp only[hO,bE])
    ·rw[hO]at h;simp only[ck]at h;obtain⟨v,e1,e2⟩:=oK h
     have hv:∀s',Ag X Rt Bt ⟨some d,.buildSlice t n ps,ty,pos,af,g⟩ ls none s s'→iW X ⟨some d,.buildSlice t n ps,ty,pos,af,g⟩ s' none=some v:=λs' ha=>by rw[←e1];exact(NP (ha.Ev hls) ha.Dj ha.bx (En s' ha.r2) (IF s' ha.r2) ha.σ ha.Mt ha.r2.I5).symm
     unfold A.IL at e2;split at e2
     ·rename_i sz es;cases hl:(es.length==0)
      ·rw[hl]at e2;simp only[bE]at e2;rw[mN]at e2;refine⟨_,wW _ _ hR (by simp [th,wH];simpa using hO) rfl rfl (λh=>by cases h),e2,λR' k' s' ha=>?_⟩;have iO:=ha.σ (by simpa [xU]using hO) rfl;unfold jj;rw[hP s' ha];simp only[hO,ck,hv s' ha,aX,A.IL,hl,bE,←iO];rw[mN]
      ·rw[hl]at e2;cases e2
     ·cases e2
  case mapUpdate t m i v=>
   split at h
   ·rename_i kt et hd;split at h
    ·rename_i ek he;obtain⟨σ',e1,e2⟩:=oK h;rw[mN]at e2;refine⟨_,wW _ _ hR rfl rfl rfl (λ_=>alp e1),e2,λR' k' s' ha=>?_⟩;have hm:=Bp s' ha m (by simp [Op.operands]);have hi:=Bp s' ha i (by simp [Op.operands]);have hv:=Bp s' ha v (by simp [Op.operands]);have iO:=ha.σ rfl rfl;unfold jj;rw[hP s' ha];simp only[hd,he,←hm,←hi,←hv,←iO,e1,aX];rw[mN]
    ·cases h
   ·cases h
  case call c=>
   have hargs:∀s',Ag X Rt Bt ⟨dst,.call c,ty,pos,af,g⟩ ls none s s'→c.args.toList.map (ev X s)=c.args.toList.map (ev X s'):=λs' ha=>
    List.map_congr_left λx hx=>Bp s' ha x (by simp [Op.operands,Call.operands];exact .inr (by simpa using hx))
   split at h
   ·rename_i hc;split at h
    ·rename_i t u x y h1 h2;split at h
     ·rename_i e e' hd hu;split at h
      ·rename_i i hi;cases gf:pV i
       ·rw[gf]at h;simp only[bE]at h;obtain⟨⟨rr,σ'⟩,e1,e2⟩:=oK h;simp only at e2;rw[mN]at e2;refine⟨_,wW _ _ hR (by simp [th,wH,hc]) rfl rfl (λ_=>aiV e1),e2,λR' k' s' ha=>?_⟩;have iO:=ha.σ rfl rfl;unfold jj;rw[hP s' ha];simp only[hc,←hargs s' ha,h1,h2,hd,hu,hi,gf,bE,←iO,e1,aX];rw[mN]
       ·rw[gf]at h;cases h
      ·cases h
     ·rename_i e kk hd hu;split at h
      ·rename_i i zs hi hz;cases gf:pV i
       ·rw[gf]at h;simp only[bE]at h;obtain⟨⟨rr,σ'⟩,e1,e2⟩:=oK h;simp only at e2;rw[mN]at e2;refine⟨_,wW _ _ hR (by simp [th,wH,hc]) rfl rfl (λ_=>ah1 e1),e2,λR' k' s' ha=>?_⟩;have iO:=ha.σ rfl rfl;unfold jj;rw[hP s' ha];simp only[hc,←hargs s' ha,h1,h2,hd,hu,hi,hz,gf,bE,←iO,e1,aX];rw[mN]
       ·rw[gf]at h;cases h
      ·cases h
     ·cases h
    ·cases h
   ·rename_i hc;split at h
    ·rename_i t u x y h1 h2;split at h
     ·rename_i e e' hd hu;split at h
      ·rename_i i hi;cases gf:pV i
       ·rw[gf]at h;simp only[bE]at h;obtain⟨⟨rr,σ'⟩,e1,e2⟩:=oK h;simp only at e2;rw[mN]at e2;refine⟨_,wW _ _ hR (by simp [th,wH,hc]) rfl rfl (λh=>by simp [Ex,hc]at h),e2,λR' k' s' ha=>?_⟩;have iO:=ha.σ rfl rfl;unfold jj;rw[hP s' ha];simp only[hc,←hargs s' ha,h1,h2,hd,hu,hi,gf,bE,←iO,e1,aX];rw[mN]
       ·rw[gf]at h;cases h
      ·cases h
     ·cases h
    ·cases h
   ·rename_i hc;cases hv:iW X ⟨dst,.call c,ty,pos,af,g⟩ s none with
    |none=>rw[hv]at h;simp [A.KV]at h
    |some v=>
     rw[hv]at h
     exact dflt (by rw[hv];exact h) (λR' k' s' ha=>by
      have hv':iW X ⟨dst,.call c,ty,pos,af,g⟩ s' none=some v:=by rw[←hv];exact(NP (ha.Ev hls) ha.Dj ha.bx (En s' ha.r2) (IF s' ha.r2) ha.σ ha.Mt ha.r2.I5).symm
      unfold jj;rw[hP s' ha];simp only[hc,hv',aX,A.KV])
   ·rename_i hc;split at h
    ·rename_i t x h1 h2;split at h
     ·rename_i e hd;split at h
      ·rename_i i zs hi hz;cases gf:pV i
       ·rw[gf]at h;simp only[bE]at h;obtain⟨σ',e1,e2⟩:=oK h;rw[mN]at e2;refine⟨_,wW _ _ hR (by simp [th,wH,hc]) rfl rfl (λh=>by simp [Ex,hc]at h),e2,λR' k' s' ha=>?_⟩;have iO:=ha.σ rfl rfl;unfold jj;rw[hP s' ha];simp only[hc,←hargs s' ha,h1,h2,hd,hi,hz,gf,bE,←iO,e1,aX];rw[mN]
       ·rw[gf]at h;cases h
      ·cases h
     ·cases h
    ·cases h
   ·rename_i hc;split at h
    ·rename_i t u m key h1 h2;split at h
     ·rename_i kt et hd;split at h
      ·rename_i ek he;obtain⟨σ',e1,e2⟩:=oK h;rw[mN]at e2;refine⟨_,wW _ _ hR (by simp [th,wH,hc]) rfl rfl (λh=>by simp [Ex,hc]at h),e2,λR' k' s' ha=>?_⟩;have iO:=ha.σ rfl rfl;unfold jj;rw[hP s' ha];simp only[hc,←hargs s' ha,h1,h2,hd,he,←iO,e1,aX];rw[mN]
      ·cases h
     ·cases h
    ·cases h
   ·rename_i b hn1 hn2 qg ux xQ hc
    exact dflt h (λR' k' s' ha=>by
     unfold jj;rw[hP s' ha];simp only[hc]
     all_goals (first|rfl|(cases b<;>first|rfl|exact absurd rfl hn1|exact absurd rfl hn2|exact absurd rfl qg|exact absurd rfl ux|exact absurd rfl xQ)))
   ·rename_i f hc;cases hw:X.W.contains f
    ·simp only[hw,Bool.not_false,Bool.and_true,ck]at h;exact dflt h (λR' k' s' ha=>by unfold jj;rw[hP s' ha];simp only[hc,hw,Bool.not_false,Bool.and_true,ck])
    ·simp only[hw,Bool.not_true,Bool.and_false,bE]at h;obtain⟨⟨rr,σ'⟩,e1,e2⟩:=oK h;simp only at e2;rw[mN]at e2;refine⟨_,wW _ _ hR (by simp only[th,wH,hc];exact hw) rfl rfl (λh=>by simp [Ex,hc]at h),e2,λR' k' s' ha=>?_⟩;have iO:=ha.σ rfl rfl;unfold jj;rw[hP s' ha];simp only[hc,←hargs s' ha,hw,Bool.not_true,Bool.and_false,bE,←iO,e1,aX];rw[mN]
   ·rename_i x hnf hc;simp only[ck]at h
    exact dflt h (λR' k' s' ha=>by
     unfold jj;rw[hP s' ha];simp only[hc]
     cases x<;>first|exact absurd rfl (hnf _)|simp only[ck])
   ·cases h
end
end
section
section
variable {R : Type} {X : Fx} {Rt : List (Nat × Nat)} {Bt : List Nat} {s s' : AS} {ops : Array Oper}
theorem J6{o:Oper}{t:Nat}(h:Operand.tmp t∈o.op.operands.toList):t∈o.looksAt ops:=by unfold Oper.looksAt;refine kM.2 (.inl (List.mem_filterMap.2 ⟨.tmp t,h,rfl⟩))
theorem aij{o:Oper}{j d:Nat}{want:Bool}(hg:o.guard=some (j,want))(hd:(ops[j]?).bind (·.dst)=some d):d∈o.looksAt ops:=by unfold Oper.looksAt;refine kM.2 (.inr ?_);rw[hg];simp only[hd];simp
def IZ(X:Fx)(Rt:List (Nat×Nat))(Bt:List Nat)(ops:Array Oper)(o:Oper)(s s':AS):Prop:=∀tag:Option (Nat×Bool),(∀g w,tag=some (g,w)→g∈o.looksAt ops)→Ag X Rt Bt o (o.looksAt ops) tag s s'
theorem Ag.symm{o:Oper}{ls:List Nat}{tag:Option (Nat×Bool)}(h:Ag X Rt Bt o ls tag s s'):Ag X Rt Bt o ls tag s' s:=
 ⟨h.r2,h.r1,λt ht hL=>(h.iV t ht hL).symm,λt ht=>(h.pl t ht).symm,λb hb=>(h.bx b hb).symm,(λhr hs=>(h.σ hr hs).symm),λhr hs id cs=>(h.Mt hr hs id cs).symm⟩
theorem IZ.symm{o:Oper}(h:IZ X Rt Bt ops o s s'):IZ X Rt Bt ops o s' s:=λtag ht=>(h tag ht).symm
theorem SQ{q:Bool}{o:Oper}{f:FuncId}{l:List Operand}(h:Iw X o=some (f,l))(s:AS)(k:AS→Option R):jj X q o s k=(X.call f (l.map (ev X s)) s.σ).bind λr=>k ((s.heap r.2).put X o.dst r.1):=by
 unfold Iw at h;split at h
 ·rename_i c ho;split at h
  ·rename_i f' hc;cases hw:X.W.contains f'
   ·rw[hw]at h;cases h
   ·rw[hw]at h;simp only[ck,Option.some.injEq,Prod.mk.injEq]at h;obtain⟨rfl,rfl⟩:=h;unfold jj mm;simp only[ho,hc,hw,Bool.not_true,Bool.and_false,bE]
  ·cases h
 ·cases h
theorem TU{o:Oper}{k:AS→Option R}{r:R}(hR:xH X Rt Bt o)(hI:RI X Rt Bt s)(h:pK X true ops o s k=some r):
  ∃u,xm X Rt Bt o (o.looksAt ops) s.σ u∧k (u.ap s)=some r∧∀(R':Type)(k':AS→Option R')(s':AS),IZ X Rt Bt ops o s s'→pK X true ops o s' k'=k' (u.ap s'):=by
 unfold pK at h;cases hg:o.guard with
 |none=>rw[hg]at h;obtain⟨u,h1,h2,h3⟩:=acN (ls:=o.looksAt ops) hR hI (λt ht=>J6 ht) h;refine⟨u,h1,h2,λR' k' s' ha=>?_⟩;unfold pK;rw[hg];exact h3 R' k' s' (ha none (λg w e=>by cases e))
 |some jw=>
  obtain⟨j,want⟩:=jw;rw[hg]at h;simp only at h;cases hd:(ops[j]?).bind (·.dst)with
  |none=>rw[hd]at h;cases h
  |some d=>
   rw[hd]at h;simp only at h;cases hb:J5 X o d
   ·rw[hb]at h;simp only[bE]at h;have oc:=aij (ops:=ops) hg hd;have Ep:∀g w,(some (d,want):Option (Nat×Bool))=some (g,w)→g∈o.looksAt ops:=λg w e=>by injection e with e;injection e with e _;rw[←e];exact oc
    have Wc:X.L.contains d=false:=by simp only[J5,oP]at hb;exact hb.1
    cases vA:Iw X o with
    |some fa=>
     obtain⟨f,as'⟩:=fa;rw[vA]at h;simp only at h;obtain⟨rv,e1,e2⟩:=oK h
     have key:∀(x:AV),s.sl.getD d .undef=x→(x=.aM []∨∃c,x=.bool c∧(c==want)=false)∨∃c,x=.bool c∧(c==want)=true:=by
      intro x hx;rw[hx]at e1;unfold A.guard at e1;split at e1
      ·rename_i c;cases hc:(c==want)
       ·exact .inl (.inr ⟨c,rfl,hc⟩)
       ·exact .inr ⟨c,rfl,hc⟩
      ·exact .inl (.inl rfl)
      ·cases e1
     rcases key _ rfl with hno|⟨c,hc,Wb⟩
     ·have hG:∀(R':Type)(x:Option R')(y:Option R'),A.guard (s.sl.getD d .undef) want x y=y:=by
       intro R' x y;rcases hno with hh|⟨c,hh,Wb⟩
       ·rw[hh];rfl
       ·rw[hh];simp only[A.guard,Wb,bE]
      rw[hG]at e1;injection e1 with e1
      subst e1
      have OW:wZ o=false∧chainB Bt o=false:=by
       unfold Iw at vA;split at vA
       ·rename_i c ho;exact⟨by simp only[wZ,ho],by simp only[chainB,ho]⟩
       ·cases vA
      refine⟨EI X o.dst (.aM []),T0 _ hR (λha=>by rw[OW.1]at ha;cases ha) (λha=>by rw[OW.2]at ha;cases ha),by rw[←Ii];exact e2,λR' k' s' ha=>?_⟩;have a:=ha _ Ep;have oo:=a.iV d oc Wc;unfold pK;rw[hg];simp only[hd,hb,bE,vA];rw[←oo,hG,aX,←Ii];rfl
     ·have hG:∀(R':Type)(x:Option R')(y:Option R'),A.guard (s.sl.getD d .undef) want x y=x:=by intro R' x y;rw[hc];simp only[A.guard,Wb,ck]
      have hA:jj X true o s k=some r:=by rw[SQ vA];rw[hG]at h;exact h
      obtain⟨u,h1,h2,h3⟩:=acN (ls:=o.looksAt ops) hR hI (λt ht=>J6 ht) hA;refine⟨u,h1,h2,λR' k' s' ha=>?_⟩;have a:=ha _ Ep;have oo:=a.iV d oc Wc;rw[←h3 R' k' s' (ha none (λg w e=>by cases e)),SQ vA];unfold pK;rw[hg];simp only[hd,hb,bE,vA];rw[←oo,hG]
    |none=>
    rw[vA]at h;simp only at h;have En:∀(s':AS),RI X Rt Bt s'→∀x b off,qI o=some x→place X s' (some (d,want)) x=some (b,off)→rt X Rt o=some b:=λs' hi x b off hx hp=>by simp only[rt,hx];exact N9 hi hp
    have IF:∀(s':AS),RI X Rt Bt s'→∀x b,qI o=some x→rt X Rt o=some b→place X s' (some (d,want)) x=none→oA (ev X s' x)=true:=λs' hi x b hx hr hp=>by simp only[rt,hx]at hr;exact HT hi hr hp
    have hP:∀s',IZ X Rt Bt ops o s s'→mm X o s' (some (d,want))=mm X o s (some (d,want)):=λs' ha=>by have a:=ha _ Ep;exact(SF (a.Ev λt ht=>J6 ht) a.Dj a.bx (En s' a.r2)).symm
    cases hp:mm X o s (some (d,want))with
    |some p=>obtain⟨b,rr⟩:=p;rw[hp]at h;simp only at h;obtain⟨off,e1,e2⟩:=oK h;subst e1;refine⟨Ji X o.dst b off (some (d,want)),ac3 hR (abM hp) (acQ hI hp) (acP hp) Ep,by rw[←OK];exact e2,λR' k' s' ha=>?_⟩;unfold pK;rw[hg];simp only[hd,hb,bE,vA,hP s' ha,hp,aX];rw[OK]
    |none=>
     rw[hp]at h;simp only at h;obtain⟨v,e1,e2⟩:=oK h
     have hv:wZ o=true→∀b,rt X Rt o=some b→oA v=true:=by
      intro ha b hr;unfold A.guard at e1;split at e1
      ·rename_i c _;cases hc:(c==want)
       ·rw[hc]at e1;simp only[bE,Option.some.injEq]at e1;subst e1;rfl
       ·rw[hc]at e1;exact(abN hI ha hr hp e1).elim
      ·simp only[Option.some.injEq]at e1;subst e1;rfl
      ·cases e1
     have BE:chainB Bt o=true→rB v=true:=by
      intro hc;unfold A.guard at e1;split at e1
      ·rename_i c _;cases wB:(c==want)
       ·rw[wB]at e1;simp only[bE,Option.some.injEq]at e1;subst e1;rfl
       ·rw[wB]at e1;exact ZW hI.I5 hc e1
      ·simp only[Option.some.injEq]at e1;subst e1;rfl
      ·cases e1
     refine⟨EI X o.dst v,T0 v hR hv BE,by rw[←Ii];exact e2,λR' k' s' ha=>?_⟩;have a:=ha _ Ep;have hV:iW X o s' (some (d,want))=iW X o s (some (d,want)):=(NP (a.Ev λt ht=>J6 ht) a.Dj a.bx (En s' a.r2) (IF s' a.r2) a.σ a.Mt a.r2.I5).symm;have oo:=a.iV d oc Wc;unfold pK;rw[hg];simp only[hd,hb,bE,vA,hP s' ha,hp,hV,←oo,e1,aX];rw[Ii]
   ·rw[hb]at h;cases h
structure Bx (X : Fx) (Rt : List (Nat × Nat)) (Bt : List Nat) (ops : Array Oper) (x y : Oper) : Prop where
 dx:∀d,x.dst=some d→d∉y.looksAt ops
 dd:∀d,x.dst=some d→y.dst≠some d
 dy:∀d,y.dst=some d→d∉x.looksAt ops
 c1:Bh X Rt Bt x y=false
 c2:Bh X Rt Bt y x=false
theorem Bx.symm{x y:Oper}(h:Bx X Rt Bt ops x y):Bx X Rt Bt ops y x:=⟨h.dy,λd hd e=>h.dd d e hd,h.dx,h.c2,h.c1⟩
theorem akC{x y:Oper}(h:indep X Rt Bt ops x y=true):Bx X Rt Bt ops x y:=by simp only[indep,jI,Bool.not_eq_true']at h;obtain⟨⟨h1,h2⟩,h3⟩:=h;obtain⟨a1,a2,a3⟩:=Oper.apart_spec h1;exact⟨a1,a2,a3,h2,h3⟩
theorem abo{x y:Oper}(h:Bh X Rt Bt x y=false){b:Nat}(hb:wb X Rt x=some b):rt X Rt y≠some b:=by unfold Bh at h;simp only[oP]at h;have:=h.1.1;rw[hb]at this;simpa using this
theorem Oq{x y:Oper}(h:Bh X Rt Bt x y=false){d:Nat}(hd:x.dst=some d)(hL:X.L.contains d=true):rt X Rt y≠some d:=by unfold Bh at h;simp only[oP]at h;have:=h.1.2;rw[hd]at this;simp only[hL,Bool.true_and]at this;simpa using this
theorem Ot{x y:Oper}(h:Bh X Rt Bt x y=false)(hw:th X Rt x=true):(xU X Rt y=false∨(soft Bt y=true∧Ex x=true))∧th X Rt y=false:=by
 unfold Bh at h;simp only[oP]at h;have:=h.2;rw[hw]at this;simp only[Bool.true_and,oP]at this;refine⟨?_,this.2⟩;cases hr:xU X Rt y
 ·exact .inl rfl
 ·have h2:=this.1;rw[hr,Bool.true_and,Bool.not_eq_false']at h2;exact .inr (by simpa using h2)
theorem aoE{x:Oper}{a:Operand}(h:qI x=some a):a∈x.op.operands.toList:=by obtain⟨dst,op,ty,pos,af,g⟩:=x;cases op<;>simp only[qI]at h<;>first|(cases h;done)|(injection h with h;subst h;simp [Op.operands])
theorem asz(h:RI X Rt Bt s){x:Oper}{b:Nat}(hr:rt X Rt x=some b)(hL:X.L.contains b=false):False:=by
 unfold rt at hr;split at hr
 ·rename_i a _;cases a with
  |tmp t=>
   simp only[BM]at hr;cases hc:X.L.contains t
   ·rw[hc]at hr;have:=h.l t b hr;rw[hL]at this;cases this
   ·rw[hc]at hr;simp only[ck,Option.some.injEq]at hr;subst hr;rw[hL]at hc;cases hc
  |_=>simp [BM]at hr
 ·cases hr
theorem adT{x:Oper}{b:Nat}(h:wb X Rt x=some b):rt X Rt x=some b:=by
 unfold wb at h;split at h
 ·exact h
 ·cases h
theorem adp{τ:Heap}{x y:Oper}(h:Bx X Rt Bt ops x y){u:Up}(hu:xm X Rt Bt y (y.looksAt ops) τ u)(s:AS)(hs:RI X Rt Bt s)(hτ:u.σ≠none→tQ s.σ τ):IZ X Rt Bt ops x s (u.ap s):=by
 intro tag ht;have hnd:∀t,t∈x.looksAt ops→u.d≠some t:=λt ht e=>by rw[hu.d]at e;exact h.dy t e ht
 refine⟨hs,hu.ri hs,λt htl hL=>?_,λt hax=>?_,λb hb=>?_,λhr Gy=>?_,λhr Gy=>?_⟩
 ·exact(Um (hnd t htl) (λb v hb e=>by have:=(hu.bx b v hb).1;rw[←e,hL]at this;cases this)).symm
 ·have htl:t∈x.looksAt ops:=J6 (aoE hax);simp only[place];cases hL:X.L.contains t
  ·simp only[bE];show _=match u.A s.A t with|some p=>_|none=>none
   unfold Up.A;cases hd:u.d with
   |none=>rfl
   |some d=>
    have htd:(t==d)=false:=by simp only[beq_eq_false_iff_ne];intro e;exact hnd t htl (by rw[hd,e])
    simp only[htd,bE];cases hA:s.A t with
    |none=>rfl
    |some p=>
     have Dg:BM X Rt (.tmp t)=some p.slot:=by simp only[BM,hL,bE];exact hs.a t p hA
     have hf:sG u.zB d (some p)=qY d (some p):=by
      cases hi:u.zB with
      |false=>exact JP d _
      |true=>
       obtain⟨d',hd',hL'⟩:=hu.box hi;have sZ:d'=d:=by rw[hu.d]at hd;rw[hd]at hd';injection hd' with e;exact e.symm
       subst sZ;unfold sG;cases hk:qY d' (some p)with
       |none=>rfl
       |some q=>
        have hqs:q=p:=by
         simp only[qY]at hk;cases Gz:p.tag with
         |none=>rw[Gz]at hk;simpa using hk.symm
         |some g=>
          obtain⟨g,w⟩:=g;rw[Gz]at hk;simp only at hk;cases hg:(g==d')
          ·rw[hg]at hk;simpa using hk.symm
          ·rw[hg]at hk;cases hk
        subst hqs
        have hne:(q.slot==d')=false:=by
         rw[beq_eq_false_iff_ne];intro e;have:rt X Rt x=some q.slot:=by simp only[rt,hax];exact Dg
         exact Oq h.c2 hd' hL' (by rw[this,e])
        simp only[hne,Bool.and_false,bE]
     rw[hf];simp only[qY];cases Gz:p.tag with
     |none=>simp only[Gz]
     |some gw=>
      obtain⟨g,w⟩:=gw;simp only;cases hgd:(g==d)
      ·simp only[bE,Gz]
      ·simp only[ck];have arK:g=d:=by simpa using hgd
       have:(tag==some (g,w))=false:=by rw[beq_eq_false_iff_ne];intro e;exact hnd g (ht g w e) (by rw[hd,arK])
       rw[this];cases X.L.contains p.slot<;>rfl
  ·rfl
 ·refine(Um (λe=>?_) (λb' v hb' e=>?_)).symm
  ·rw[hu.d]at e
   have hLb:X.L.contains b=true:=by
    cases hc:X.L.contains b with
    |true=>rfl
    |false=>exfalso;exact asz hs hb hc
   exact Oq h.c2 e hLb hb
  ·exact abo h.c2 (hu.bx b' v hb').2 (by rw[←e];exact hb)
 ·show s.σ=u.σ.getD s.σ;cases hs':u.σ with
  |none=>rfl
  |some σ=>
   rcases(Ot h.c2 (hu.σ (by rw[hs'];intro e;cases e))).1 with this|⟨this,_⟩
   ·rw[hr]at this;cases this
   ·rw[Gy]at this;cases this
 ·show tQ s.σ (u.σ.getD s.σ);cases hs':u.σ with
  |none=>exact Ff _
  |some σ=>
   rcases(Ot h.c2 (hu.σ (by rw[hs'];intro e;cases e))).1 with this|⟨_,hf⟩
   ·rw[hr]at this;cases this
   ·exact λid cs=>(hτ (by rw[hs'];intro e;cases e) id cs).trans (hu.fr hf σ hs' id cs)
theorem amE{τ Mu:Heap}{x y:Oper}(h:Bx X Rt Bt ops x y){u v:Up}(hu:xm X Rt Bt x (x.looksAt ops) τ u)(hv:xm X Rt Bt y (y.looksAt ops) Mu v):u.ac6 v:=by
 have half:∀{τ Mu:Heap}{x y:Oper}{u v:Up},Bx X Rt Bt ops x y→xm X Rt Bt x (x.looksAt ops) τ u→xm X Rt Bt y (y.looksAt ops) Mu v→(∀b a,u.bx=some (b,a)→(∀c a',v.bx=some (c,a')→c≠b)∧v.d≠some b)∧(∀d,v.d=some d→sG v.zB d u.new=u.new):=by
  intro τ Mu x y u v h hu hv;refine⟨λb a hb=>?_,λd hd=>?_⟩
  ·obtain⟨k1,k2⟩:=hu.bx b a hb;refine⟨λc a' hc e=>?_,λe=>?_⟩
   ·have:=(hv.bx c a' hc).2;subst e;exact abo h.c1 k2 (adT this)
   ·rw[hv.d]at e;exact Oq h.c2 e k1 (adT k2)
  ·cases hn:u.new with
   |none=>rfl
   |some p=>
    obtain⟨k1,k2,k3,k4⟩:=hu.new p hn
    have hkt:qY d (some p)=some p:=by
     simp only[qY];cases Gz:p.tag with
     |none=>rfl
     |some gw=>
      obtain⟨g,w⟩:=gw;simp only
      have:(g==d)=false:=by rw[beq_eq_false_iff_ne];intro e;rw[hv.d]at hd;exact h.dy d hd (e▸k2 g w Gz)
      rw[this];rfl
    unfold sG;rw[hkt];simp only;cases hi:v.zB with
    |false=>rfl
    |true=>
     obtain⟨d',hd',hL'⟩:=hv.box hi;have sZ:d'=d:=by rw[hv.d]at hd;rw[hd]at hd';injection hd' with e;exact e.symm
     subst sZ
     have:(p.slot==d')=false:=by rw[beq_eq_false_iff_ne];intro e;exact Oq h.c2 hd' hL' (by rw[k3,e])
     simp only[this,Bool.and_false,bE]
 obtain⟨a1,a2⟩:=half h hu hv;obtain⟨b1,b2⟩:=half h.symm hv hu;refine⟨λd hd e=>?_,a1,b1,a2,b2,?_⟩
 ·rw[hu.d]at hd;rw[hv.d]at e;exact h.dd d hd e
 ·cases hs:u.σ with
  |none=>exact .inl rfl
  |some σ=>
   right;have hw:=hu.σ (by rw[hs];intro e;cases e);have hnw:=(Ot h.c1 hw).2;cases hs2:v.σ with
   |none=>rfl
   |some σ2=>rw[hv.σ (by rw[hs2];intro e;cases e)]at hnw;cases hnw
theorem ZX{o:Oper}{k:AS→Option R}{r:R}(ho:xH X Rt Bt o):∀(l1 l2:List Oper)(s:AS),RI X Rt Bt s→(∀y∈l1,xH X Rt Bt y)→(∀y∈l1,Bx X Rt Bt ops y o)→wm X true ops (l1++o::l2) s k=some r→pK X true ops o s (λs1=>wm X true ops (l1++l2) s1 k)=some r
 |[],l2,s,_,_,_,h=>h
 |y::l1,l2,s,hs,hr,hi,h=>by
  simp only[nI,wm]at h;obtain⟨u,u1,u2,u3⟩:=TU (hr y (by simp)) hs h;have ih:=ZX ho l1 l2 (u.ap s) (u1.ri hs) (λz hz=>hr z (by simp [hz])) (λz hz=>hi z (by simp [hz])) u2;obtain⟨v,v1,v2,v3⟩:=TU ho (u1.ri hs) ih;have hy:=hi y (by simp)
  have hbe:v.σ≠none→tQ s.σ (u.ap s).σ:=λhv=>by
   have hnu:u.σ=none:=by
    cases hu:u.σ with
    |none=>rfl
    |some σ=>have hw:=(Ot hy.c1 (u1.σ (by rw[hu];intro e;cases e))).2;rw[v1.σ hv]at hw;cases hw
   show tQ s.σ (u.σ.getD s.σ);rw[hnu];exact Ff _
  rw[v3 R _ s (adp hy.symm u1 s hs (λ_=>Ff _)).symm];simp only[nI,wm];rw[u3 R _ (v.ap s) (adp hy v1 s hs hbe),Up.comm (amE hy u1 v1)];exact v2
def Down(ops:Array Oper)(S:Nat→Prop):Prop:=∀i o e,S i→ops[i]? =some o→e∈o.after→Region.binds .any e=true→S e.on
def Pc(ops:Array Oper)(i:Nat)(S:Nat→Prop):Prop:=∀o e,ops[i]? =some o→e∈o.after→Region.binds .any e=true→S e.on
theorem aaE(acc:List Nat):∀(es:List Edge)(m j:Nat),(es.foldl (λs e=>bif Region.binds .any e then s ||| 2 ^ e.on ||| acc.getD e.on 0 else s) m).testBit j=true→
  m.testBit j=true∨∃e∈es,Region.binds .any e=true∧(e.on=j∨(acc.getD e.on 0).testBit j=true)
 |[],m,j,h=>.inl h
 |e::es,m,j,h=>by
  simp only[List.foldl_cons]at h;rcases aaE acc es _ j h with h|⟨e',he',hb,hx⟩
  ·cases hb:Region.binds .any e
   ·rw[hb]at h;exact .inl h
   ·rw[hb]at h;simp only[ck,Nat.testBit_or,Bool.or_eq_true]at h;rcases h with(h|h)|h
    ·exact .inl h
    ·refine .inr ⟨e,by simp,hb,.inl ?_⟩;rw[Nat.testBit_two_pow]at h;simpa using h
    ·exact .inr ⟨e,by simp,hb,.inr h⟩
  ·exact .inr ⟨e',by simp [he'],hb,hx⟩
theorem aak:∀(l:List Oper)(acc:List Nat),(∀i,l[i]? =ops[acc.length+i]?)→
  (∀(m j:Nat),(acc.getD m 0).testBit j=true→∀S,Down ops S→Pc ops m S→S j)→
  ∀(m j:Nat),((OU l acc).getD m 0).testBit j=true→∀S,Down ops S→Pc ops m S→S j
 |[],acc,hl,hacc=>hacc
 |o::l,acc,hl,hacc=>by
  simp only[OU];refine aak l _ (λi=>by have:=hl (i+1);simp at this;rw[this];simp;congr 1;omega) ?_;intro m j h S hS hD;have h0:=hl 0;simp at h0;by_cases hm:m<acc.length
  ·rw[List.getD,jg hm]at h;exact hacc m j h S hS hD
  ·by_cases hm2:m=acc.length
   ·subst hm2;rw[List.getD,iZ (bD _)]at h;simp only[Nat.sub_self,List.getElem?_cons_zero,Option.getD_some]at h;rcases aaE acc _ _ j h with h|⟨e,he,hb,hx⟩
    ·simp at h
    ·have hon:S e.on:=hD o e h0.symm (by simpa using he) hb;rcases hx with hx|hx
     ·exact hx▸hon
     ·exact hacc e.on j hx S hS (λo' e' ho' he' hb'=>hS e.on o' e' hon ho' he' hb')
   ·rw[List.getD,iZ (by omega),qt (by simp;omega)]at h;simp at h
theorem Y4{Lu:List Nat}:∀(l:List Oper)(i:Nat),(∀j,l[j]? =ops[i+j]?)→OC X Rt Bt ops Lu l i=true→∀n o,i≤n→ops[n]? =some o→∀m y,m<n→ops[m]? =some y→(Lu.getD n 0).testBit m=true∨indep X Rt Bt ops y o=true
 |[],i,hl,_,n,o,hn,ho,m,y,hm,hy=>by have:=hl (n-i);rw[show i+(n-i)=n by omega,ho]at this;simp at this
 |x::l,i,hl,h,n,o,hn,ho,m,y,hm,hy=>by
  simp only[OC,jI]at h;by_cases hni:n=i
  ·subst hni;have h0:=hl 0;simp at h0;rw[ho]at h0;injection h0 with h0;subst h0
   have:=vX.1 h.1 (y,m) (by
    rw[List.mem_zipIdx_iff_getElem?];simp only;rw[List.getElem?_take_of_lt hm,Array.getElem?_toList]
    exact hy)
   simpa using this
  ·exact Y4 l (i+1) (λj=>by have:=hl (j+1);simp at this;rw[this];congr 1;omega) h.2 n o (by omega) ho m y hm hy
theorem Zr:∀(l:List Oper)(i:Nat),(∀j,l[j]? =ops[i+j]?)→OL l i=true→∀n o e,i≤n→ops[n]? =some o→e∈o.after→Region.binds .any e=true→e.on<n
 |[],i,hl,_,n,o,e,hn,ho,he,hb=>by have:=hl (n-i);rw[show i+(n-i)=n by omega,ho]at this;simp at this
 |x::l,i,hl,h,n,o,e,hn,ho,he,hb=>by
  simp only[OL,jI]at h;by_cases hni:n=i
  ·subst hni;have h0:=hl 0;simp at h0;rw[ho]at h0;injection h0 with h0;subst h0
   have:=vX.1 h.1 e (by simpa using he);rw[hb]at this;simpa [Nat.blt_eq]using this
  ·exact Zr l (i+1) (λj=>by have:=hl (j+1);simp at this;rw[this];congr 1;omega) h.2 n o e (by omega) ho he hb
def uf(listed:Array Bool)(n:Nat):List Nat:=(List.range n).filter λi=>!listed.getD i true
def CQ(ops:Array Oper)(listed:Array Bool):List Oper:=(uf listed ops.size).filterMap (ops[·]?)
theorem ajK{listed:Array Bool}{n i:Nat}(hi:i<n)(hl:listed.getD i true=false)(hs:listed.size=n):
  ∃l1 l2,uf listed n=l1++i::l2∧uf (listed.setIfInBounds i true) n=l1++l2∧∀j∈l1,j<i∧listed.getD j true=false:=by
 refine⟨(List.range i).filter λj=>!listed.getD j true,((List.range' (i+1) (n-i-1))).filter λj=>!listed.getD j true,?_,?_,λj hj=>?_⟩
 ·unfold uf
  rw[show List.range n=List.range i++i::List.range' (i+1) (n-i-1) by
   rw[List.range_eq_range',List.range_eq_range',←List.range'_succ,show n-i-1+1=n-i by omega];have:=List.range'_append_1 (s:=0) (m:=i) (n:=n-i);rw[show 0+i=i by omega,show i+(n-i)=n by omega]at this
   exact this.symm]
  rw[List.filter_append,List.filter_cons,hl];simp
 ·unfold uf
  rw[show List.range n=List.range i++i::List.range' (i+1) (n-i-1) by
   rw[List.range_eq_range',List.range_eq_range',←List.range'_succ,show n-i-1+1=n-i by omega];have:=List.range'_append_1 (s:=0) (m:=i) (n:=n-i);rw[show 0+i=i by omega,show i+(n-i)=n by omega]at this
   exact this.symm]
  rw[List.filter_append,List.filter_cons];have sI:(listed.setIfInBounds i true).getD i true=true:=by simp [Array.getD,hs,hi]
  rw[sI];simp only[Bool.not_true,Bool.false_eq_true,if_false];congr 1
  ·apply List.filter_congr;intro j hj;have:j<i:=by simpa using hj
   rw[qq,qq,Array.getElem?_setIfInBounds_ne (by omega)]
  ·apply List.filter_congr;intro j hj;have:i<j:=by simp at hj;omega
   rw[qq,qq,Array.getElem?_setIfInBounds_ne (by omega)]
 ·rw[List.mem_filter]at hj;exact⟨by simpa using hj.1,by simpa using hj.2⟩
end
end
section
open Go.RowKit
section
variable {X : Fx} {z : Z} {s : AS} {a : Act} {w w' : World} {E : List Pl} {pb : Nat → Option Nat} {R : Type}
theorem Oe(h:St X z s a w E pb){d:Nat}{av:AV}(Gs:s.sl.getD d .undef=av)(h1:av≠.undef)(h2:∀cs,av≠.lbx cs):∃v,a.tmps[d]? =some v∧a.tmps.getD d undef=v∧an (ctx z w E pb) av v:=by
 by_cases hd:d<s.sl.length
 ·have e:s.sl[d]? =some av:=by rw[bT hd];rw[←Gs];simp [List.getD,hd]
  have r:=(h.slot d av e).rep h2;have hd':d<a.tmps.size:=by rw[h.len];exact hd
  exact⟨a.tmps.getD d undef,by simp [Array.getD,hd'],rfl,r⟩
 ·exact absurd (by rw[←Gs];simp [List.getD,Nat.le_of_not_lt hd]) h1
theorem apf(hs:eF X)(h:St X z s a w E pb){q:Bool}{ops:Array Oper}{i:Nat}{o:Oper}(hi:ops[i]? =some o){k:AS→Option R}{r:R}(hk:pK X q ops o s k=some r){K:Act→World→Prop}{Q:Exit→Act→World→Prop}
  (hK:∀s' a' w' E' cE,St X z s' a' w' E' cE→k s'=some r→K a' w'):wpOp X.P ops Q i K a w:=by
 unfold wpOp;rw[hi];simp only;unfold pK at hk;cases hg:o.guard with
 |none=>rw[hg]at hk;rw[aQ (by simp [Region.wanted,hg])];exact .inl (acO hs h hk hK)
 |some jw=>
  obtain⟨j,want⟩:=jw;rw[hg]at hk;simp only at hk;cases hd:(ops[j]?).bind (·.dst)with
  |none=>rw[hd]at hk;cases hk
  |some d=>
   rw[hd]at hk;simp only at hk;cases hL:J5 X o d
   ·rw[hL]at hk;simp only[bE]at hk;have D5:Region.wanted o (yielded ops a.tmps)=(yielded ops a.tmps j==some want):=by simp [Region.wanted,hg]
    have hy:yielded ops a.tmps j=match a.tmps[d]? with|some (.bool b)=>some b|_=>none:=by simp only[yielded,hd,aX];rfl
    cases vA:Iw X o with
    |some fa=>
     obtain⟨f,as'⟩:=fa;rw[vA]at hk;simp only at hk;obtain⟨rv,e1,e2⟩:=bO.1 hk;generalize oo:s.sl.getD d .undef=gv at e1;cases gv<;>simp only[A.guard]at e1<;>first|(cases e1;done)|skip
     case bool b=>
      obtain⟨v,v1,v2,v3⟩:=Oe h oo (by intro e;cases e) (by intro cs e;cases e);simp only[an]at v3;subst v3;cases Ap:(b==want)
      ·rw[Ap]at e1;simp only[bE]at e1;injection e1 with e1;subst e1
       have hw:¬Region.wanted o (yielded ops a.tmps)=true:=by rw[D5,hy,v1];simp at Ap ⊢;exact Ap
       rw[aP hw];exact hK _ _ _ _ _ (h.undef o.dst) e2
      ·rw[Ap]at e1;simp only[ck]at e1;have Pg:b=want:=by simpa using Ap
       have hw:Region.wanted o (yielded ops a.tmps)=true:=by rw[D5,hy,v1];simp [Pg]
       rw[aQ hw];exact .inl (acO (q:=q) hs h (by rw[SQ vA,e1];exact e2) hK)
     case aM vs=>
      cases vs with
      |cons x xs=>cases e1
      |nil=>
       injection e1 with e1;subst e1
       obtain⟨v,v1,v2,v3⟩:=Oe h oo (by intro e;cases e) (by intro cs e;cases e);simp only[an]at v3;obtain⟨us,rfl,_⟩:=v3;have hw:¬Region.wanted o (yielded ops a.tmps)=true:=by rw[D5,hy,v1];simp
       rw[aP hw];exact hK _ _ _ _ _ (h.undef o.dst) e2
    |none=>
    rw[vA]at hk;simp only at hk;cases hp:mm X o s (some (d,want))with
    |some p=>
     obtain⟨b,rr⟩:=p;rw[hp]at hk;simp only at hk;obtain⟨off,e1,e2⟩:=bO.1 hk;subst e1;by_cases hw:Region.wanted o (yielded ops a.tmps)=true
     ·rw[aQ hw]
      have ht:tW a (some (d,want)):=by
       rw[D5,hy]at hw;simp only[tW];split at hw
       ·rename_i b' hb';simp at hw;subst hw;rw[qq,hb'];rfl
       ·simp at hw
      obtain⟨n,k1,k2⟩:=acR h ht hp;exact .inl (tK k2 (hK _ _ _ _ _ (h.Uw o.dst (λ_=>⟨n,k1,rfl⟩)) e2))
     ·rw[aP hw];refine hK _ _ _ _ _ (h.Uw o.dst (λht=>absurd ?_ hw)) e2;rw[D5,hy];simp only[tW]at ht;rw[qq]at ht;cases hc:a.tmps[d]? with
      |none=>rw[hc]at ht;simp [undef]at ht
      |some v=>rw[hc]at ht;simp at ht;subst ht;simp
    |none=>
     rw[hp]at hk;simp only at hk;obtain⟨av,e1,e2⟩:=bO.1 hk;generalize oo:s.sl.getD d .undef=gv at e1;cases gv<;>simp only[A.guard]at e1<;>first|(cases e1;done)|skip
     case bool b=>
      obtain⟨v,v1,v2,v3⟩:=Oe h oo (by intro e;cases e) (by intro cs e;cases e);simp only[an]at v3;subst v3;cases Ap:(b==want)
      ·rw[Ap]at e1;simp only[bE]at e1;injection e1 with e1;subst e1
       have hw:¬Region.wanted o (yielded ops a.tmps)=true:=by rw[D5,hy,v1];simp at Ap ⊢;exact Ap
       rw[aP hw];exact hK _ _ _ _ _ (h.undef o.dst) e2
      ·rw[Ap]at e1;simp only[ck]at e1;have Pg:b=want:=by simpa using Ap
       have hw:Region.wanted o (yielded ops a.tmps)=true:=by rw[D5,hy,v1];simp [Pg]
       rw[aQ hw];have ht:tW a (some (d,want)):=by simp only[tW];rw[v2,Pg]
       exact .inl (acS hs h ht e1 λv w' E' h3 h4=>hK _ _ _ _ _ (h3.put o.dst h4) e2)
     case aM vs=>
      cases vs with
      |cons x xs=>cases e1
      |nil=>
       injection e1 with e1;subst e1
       obtain⟨v,v1,v2,v3⟩:=Oe h oo (by intro e;cases e) (by intro cs e;cases e);simp only[an]at v3;obtain⟨us,rfl,_⟩:=v3;have hw:¬Region.wanted o (yielded ops a.tmps)=true:=by rw[D5,hy,v1];simp
       rw[aP hw];exact hK _ _ _ _ _ (h.undef o.dst) e2
   ·rw[hL]at hk;cases hk
def Fr(X:Fx)(ds:List Nat)(s s':AS):Prop:=∀i,i∉ds→X.L.contains i=false→s'.sl[i]? =s.sl[i]?
theorem Fr.refl(ds:List Nat)(s:AS):Fr X ds s s:=λ_ _ _=>rfl
theorem Fr.trans{d1 d2:List Nat}{s s' s'':AS}(h:Fr X d1 s s')(k:Fr X d2 s' s''):Fr X (d1++d2) s s'':=λi hi hL=>by rw[kM]at hi;exact(k i (λe=>hi (.inr e)) hL).trans (h i (λe=>hi (.inl e)) hL)
theorem Fr.mono{d1 d2:List Nat}{s s':AS}(h:Fr X d1 s s')(k:∀i∈d1,i∈d2):Fr X d2 s s':=λi hi hL=>h i (λe=>hi (k i e)) hL
theorem Fr.put(d:Option Nat)(v:AV)(s:AS):Fr X d.toList s (s.put X d v):=λi hi hL=>by
 cases d with
 |none=>rfl
 |some d=>simp only[AS.put];rw[kW,aP];intro e;subst e;simp at hi
theorem Fr.pe(d:Option Nat)(b off:Nat)(tag:Option (Nat×Bool))(s:AS):Fr X d.toList s (s.pe X d b off tag):=λi hi hL=>by
 cases d with
 |none=>rfl
 |some d=>simp only[AS.pe];rw[kW,aP];intro e;subst e;simp at hi
theorem Fr.ru(d:Nat)(cs:List AV)(s:AS):Fr X [d] s (s.ru d cs):=λi hi hL=>by simp only[AS.ru];rw[kW,aP];intro e;subst e;simp at hi
theorem Fr.rR(d:Option Nat)(v:AV)(σ:Heap)(s:AS):Fr X d.toList s ((s.heap σ).put X d v):=λi hi hL=>by
 cases d with
 |none=>rfl
 |some d=>simp only[AS.put,AS.heap];rw[kW,aP];intro e;subst e;simp at hi
theorem Fr.aoI(d:Option Nat)(v:AV)(b:Nat)(cs:List AV)(hb:X.L.contains b=true)(s:AS):Fr X d.toList s ((⟨s.sl.set b (.lbx cs),s.A,s.σ⟩:AS).put X d v):=λi hi hL=>by
 have hbi:b≠i:=λe=>by rw[e,hL]at hb;cases hb
 cases d with
 |none=>simp only[AS.put];rw[kW,aP hbi]
 |some d=>simp only[AS.put];rw[kW,aP,kW,aP hbi];intro e;subst e;simp at hi
theorem an3{tag:Option (Nat×Bool)}{x:Operand}{b off:Nat}(h:place X s tag x=some (b,off)):X.L.contains b=true:=by
 cases x with
 |tmp t=>
  simp only[place]at h;cases hL:X.L.contains t
  ·rw[hL]at h;simp only[bE]at h;split at h
   ·rename_i p hA;cases hp:X.L.contains p.slot
    ·rw[hp]at h;cases h
    ·rw[hp]at h;simp only[ck]at h;split at h
     ·simp only[Option.some.injEq,Prod.mk.injEq]at h;rw[←h.1];exact hp
     ·rename_i g hg;cases ht:(tag==some g)
      ·rw[ht]at h;cases h
      ·rw[ht]at h;simp only[ck,Option.some.injEq,Prod.mk.injEq]at h;rw[←h.1];exact hp
   ·cases h
  ·rw[hL]at h;simp only[ck,Option.some.injEq,Prod.mk.injEq]at h;rw[←h.1];exact hL
 |_=>simp [place]at h
theorem bind_congr{α β:Type}{x:Option α}{f g:α→Option β}(h:∀a,x=some a→f a=g a):x.bind f=x.bind g:=by cases x with|none=>rfl|some a=>exact h a rfl
theorem ai3{x:AV}{σ:Heap}{f g:Nat→Heap→Option R}(h:∀n σ,f n σ=g n σ):A.KW x σ f=A.KW x σ g:=by
 have:f=g:=funext λn=>funext λσ=>h n σ
 rw[this]
theorem aim{x:AV}{σ:Heap}{f g:AV→Heap→Option R}(h:∀v σ,f v σ=g v σ):A.vU x σ f=A.vU x σ g:=by
 have:f=g:=funext λn=>funext λσ=>h n σ
 rw[this]
theorem ajk{q str:Bool}{i:Operand}{dst:Option Nat}{k k2:AS→Option R}(h:∀s',Fr X dst.toList s s'→k s'=k2 s'):
  (bif q||str then none else A.vU (ev X s i) s.σ λv σ=>k ((s.heap σ).put X dst v))=(bif q||str then none else A.vU (ev X s i) s.σ λv σ=>k2 ((s.heap σ).put X dst v)):=by
 cases(q||str)
 ·simp only[bE];exact aim λ_ _=>h _ (Fr.rR _ _ _ _)
 ·rfl
theorem akR{q:Bool}{o:Oper}{k k2:AS→Option R}(h:∀s',Fr X o.dst.toList s s'→k s'=k2 s'):jj X q o s k=jj X q o s k2:=by
 unfold jj;cases hp:mm X o s none with
 |some p=>obtain⟨b,rr⟩:=p;exact bind_congr λp _=>h _ (Fr.pe _ _ _ _ _)
 |none=>
  simp only;have dflt:((iW X o s none).bind λv=>k (s.put X o.dst v))=(iW X o s none).bind λv=>k2 (s.put X o.dst v):=bind_congr λv _=>h _ (Fr.put _ _ _)
  obtain⟨dst,op,ty,pos,af,g⟩:=o;cases op<;>simp only<;>first|exact ajk h|exact dflt|skip
  case alloc t=>
   cases dst with
   |none=>rfl
   |some d=>
    simp only;cases X.L.contains d
    ·simp only[bE];cases X.O.contains d
     ·exact dflt
     ·simp only[ck];split
      ·exact h _ (Fr.rR _ _ _ _)
      ·rfl
    ·simp only[ck];split
     ·exact h _ (Fr.ru _ _ _)
     ·rfl
  case box t x=>
   cases dst with
   |none=>rfl
   |some d=>
    simp only;cases X.L.contains d
    ·simp only[bE];cases X.O.contains d
     ·exact dflt
     ·exact bind_congr λcs _=>h _ (Fr.rR _ _ _ _)
    ·exact bind_congr λcs _=>h _ (Fr.ru _ _ _)
  case store t x v=>
   split
   ·rename_i b off hpl;exact bind_congr λ_ _=>bind_congr λ_ _=>bind_congr λ_ _=>h _ (Fr.aoI _ _ _ _ (an3 hpl) _)
   ·exact bind_congr λ_ _=>bind_congr λ_ _=>h _ (Fr.rR _ _ _ _)
  case makeMap t rr=>
   cases rr with
   |none=>exact h _ (Fr.rR _ _ _ _)
   |some x=>rfl
  case range t x=>
   split
   ·exact bind_congr λ_ _=>h _ (Fr.rR _ _ _ _)
   ·rfl
  case buildSlice t n ps=>
   cases dst with
   |none=>exact dflt
   |some d=>
    simp only;cases X.O.contains d
    ·exact dflt
    ·simp only[ck];refine bind_congr λv _=>?_
     unfold A.IL;split
     ·cases(List.length _==0)
      ·exact h _ (Fr.rR _ _ _ _)
      ·rfl
     ·rfl
  case mapUpdate t m i v=>
   split
   ·split
    ·exact bind_congr λ_ _=>h _ (Fr.rR _ _ _ _)
    ·rfl
   ·rfl
  case call c=>
   split
   ·split
    ·split
     ·split
      ·cases pV _
       ·exact bind_congr λ_ _=>h _ (Fr.rR _ _ _ _)
       ·rfl
      ·rfl
     ·split
      ·cases pV _
       ·exact bind_congr λ_ _=>h _ (Fr.rR _ _ _ _)
       ·rfl
      ·rfl
     ·rfl
    ·rfl
   ·split
    ·split
     ·split
      ·cases pV _
       ·exact bind_congr λ_ _=>h _ (Fr.rR _ _ _ _)
       ·rfl
      ·rfl
     ·rfl
    ·rfl
   ·cases hv:iW X _ s none
    ·simp only[A.KV];cases q
     ·simp only[bE];split
      ·split
       ·exact ai3 λ_ _=>h _ (Fr.rR _ _ _ _)
       ·rfl
      ·rfl
     ·rfl
    ·exact h _ (Fr.put _ _ _)
   ·split
    ·split
     ·split
      ·cases pV _
       ·exact bind_congr λ_ _=>h _ (Fr.rR _ _ _ _)
       ·rfl
      ·rfl
     ·rfl
    ·rfl
   ·split
    ·split
     ·split
      ·exact bind_congr λ_ _=>h _ (Fr.rR _ _ _ _)
      ·rfl
     ·rfl
    ·rfl
   ·exact dflt
   ·cases(q&&!X.W.contains _)
    ·exact bind_congr λ_ _=>h _ (Fr.rR _ _ _ _)
    ·exact dflt
   ·cases q
    ·exact bind_congr λ_ _=>h _ (Fr.rR _ _ _ _)
    ·exact dflt
   ·rfl
theorem akS{q:Bool}{ops:Array Oper}{o:Oper}{k k2:AS→Option R}(h:∀s',Fr X o.dst.toList s s'→k s'=k2 s'):pK X q ops o s k=pK X q ops o s k2:=by
 unfold pK;split
 ·exact akR h
 ·split
  ·cases J5 X o _
   ·simp only[bE];split
    ·exact bind_congr λ_ _=>h _ (Fr.rR _ _ _ _)
    ·split
     ·exact bind_congr λ_ _=>h _ (Fr.pe _ _ _ _ _)
     ·exact bind_congr λ_ _=>h _ (Fr.put _ _ _)
   ·rfl
  ·rfl
theorem abL(hs:eF X)(h:St X z s a w E pb){q:Bool}{ops:Array Oper}{i:Nat}{o:Oper}(hi:ops[i]? =some o){k:AS→Option R}{r:R}(hk:pK X q ops o s k=some r){K:Act→World→Prop}{Q:Exit→Act→World→Prop}
  (hK:∀s' a' w' E' cE,St X z s' a' w' E' cE→Fr X o.dst.toList s s'→k s'=some r→K a' w'):wpOp X.P ops Q i K a w:=by
 classical
 have e:pK X q ops o s k=pK X q ops o s (λs'=>if Fr X o.dst.toList s s' then k s' else none):=akS λs' hf=>by rw[aQ hf]
 rw[e]at hk;refine apf hs h hi hk λs' a' w' E' cE h' hk'=>?_
 split at hk'
 ·exact hK s' a' w' E' cE h' (by assumption) hk'
 ·cases hk'
theorem abO(hs:eF X){q:Bool}{ops:Array Oper}{Q:Exit→Act→World→Prop}{r:R}{k:AS→Option R}{s0:AS}:
  ∀(l:List Oper)(i:Nat)(s:AS)(a:Act)(w:World)(E:List Pl)(pb:Nat→Option Nat),(∀j,l[j]? =ops[i+j]?)→St X z s a w E pb→wm X q ops l s k=some r→
   (∀s' a' w' E' cE,St X z s' a' w' E' cE→Fr X (l.filterMap (·.dst)) s s'→k s'=some r→Q .normal a' w')→wpOps X.P ops Q (List.range' i l.length) a w
 |[],i,s,a,w,E,pb,_,h,hk,hQ=>by simpa [wpOps]using hQ _ _ _ _ _ h (Fr.refl _ _) hk
 |o::l,i,s,a,w,E,pb,hl,h,hk,hQ=>by
  have h0:=hl 0;simp at h0;simp only[List.length_cons,List.range'_succ];rw[wpOps_cons];refine abL hs h h0.symm hk λs' a' w' E' cE h' hf hk'=>?_
  refine abO hs (s0:=s0) l (i+1) s' a' w' E' cE (λj=>by have:=hl (j+1);simp at this;rw[this];congr 1;omega) h' hk' λs2 a2 w2 E2 WD h2 vu hk2=>hQ s2 a2 w2 E2 WD h2 ((hf.trans vu).mono ?_) hk2
  intro j hj;rw[List.filterMap_cons];cases hd:o.dst with
  |none=>rw[hd]at hj;simpa using hj
  |some d=>rw[hd]at hj;simpa using hj
theorem anZ(hs:eF X){Rt:List (Nat×Nat)}{Bt:List Nat}(h:St X z s a w E pb)(hI:RI X Rt Bt s){ops:Array Oper}{i:Nat}{o:Oper}(hR:xH X Rt Bt o)(hi:ops[i]? =some o){k:AS→Option R}{r:R}(hk:pK X true ops o s k=some r){K:Act→World→Prop}{Q:Exit→Act→World→Prop}
  (hK:∀s' a' w' E' cE,St X z s' a' w' E' cE→Fr X o.dst.toList s s'→RI X Rt Bt s'→k s'=some r→K a' w'):wpOp X.P ops Q i K a w:=by
 classical
 have e:pK X true ops o s (λs'=>if RI X Rt Bt s' then k s' else none)=some r:=by obtain⟨u,h1,h2,h3⟩:=TU hR hI hk;rw[h3 R _ s (λtag _=>⟨hI,hI,λ_ _ _=>rfl,λ_ _=>rfl,λ_ _=>rfl,λ_ _=>rfl,λ_ _=>Ff _⟩),aQ (h1.ri hI)];exact h2
 refine abL hs h hi e λs' a' w' E' cE h' hf hk'=>?_
 split at hk'
 ·exact hK s' a' w' E' cE h' hf (by assumption) hk'
 ·cases hk'
theorem alG(hs:eF X){Rt:List (Nat×Nat)}{Bt:List Nat}{ops:Array Oper}{Q:Exit→Act→World→Prop}{r:R}{k:AS→Option R}{s0:AS}(T8:∀n o e,ops[n]? =some o→e∈o.after→Region.binds .any e=true→e.on<n)
  (ap7:∀n o m y,ops[n]? =some o→m<n→ops[m]? =some y→(∀S,Down ops S→Pc ops n S→S m)∨Bx X Rt Bt ops y o) (UP:∀(n:Nat)(o:Oper),ops[n]? =some o→xH X Rt Bt o)
  (hQ:∀s' a' w' E' cE,St X z s' a' w' E' cE→Fr X (ops.toList.filterMap (·.dst)) s0 s'→k s'=some r→Q .normal a' w'):
  ∀(fuel:Nat)(listed:Array Bool)(s:AS)(a:Act)(w:World)(E:List Pl)(pb:Nat→Option Nat),listed.size=ops.size→(uf listed ops.size).length≤fuel→Down ops (λi=>listed.getD i true=true)→St X z s a w E pb→RI X Rt Bt s→wm X true ops (CQ ops listed) s k=some r→Fr X (ops.toList.filterMap (·.dst)) s0 s→
   wpAny X.P .any ops Q fuel listed a w:=by
 have hnone:∀(listed:Array Bool),uf listed ops.size=[]→Region.ready .any ops listed=[]:=by intro listed h;unfold Region.ready;rw[List.filter_eq_nil_iff];intro i hi hr;simp only[jI]at hr;have:i∈uf listed ops.size:=List.mem_filter.2 ⟨hi,hr.1⟩;rw[h]at this;simp at this
 have hsome:∀(listed:Array Bool),listed.size=ops.size→Region.ready .any ops listed=[]→uf listed ops.size=[]:=by
  intro listed hsz hr;cases zW:uf listed ops.size with
  |nil=>rfl
  |cons i0 tl=>
   exfalso;have hm:i0∈uf listed ops.size:=by rw[zW];simp
   obtain⟨h1,h2⟩:=List.mem_filter.1 hm;have hlt:i0<ops.size:=by simpa using h1
   have hpw:(uf listed ops.size).Pairwise (·<·):=List.Pairwise.filter _ List.pairwise_lt_range;rw[zW,List.pairwise_cons]at hpw
   have hall:∀j,j<i0→listed.getD j true=true:=by
    intro j hj;cases hc:listed.getD j true with
    |true=>rfl
    |false=>
     have:j∈uf listed ops.size:=List.mem_filter.2 ⟨by simp;omega,by simp [hc]⟩;rw[zW]at this;rcases jY.1 this with e|e
     ·omega
     ·have:=hpw.1 j e;omega
   have:i0∈Region.ready .any ops listed:=by
    unfold Region.ready;refine List.mem_filter.2 ⟨h1,?_⟩;rw[jI];refine⟨h2,?_⟩;rw[uU hlt];simp only[bZ,Option.getD_some];rw[Array.all_eq_true_iff_forall_mem];intro e he;cases hb:Region.binds .any e with
    |false=>rfl
    |true=>have hon:=T8 i0 _ e (uU hlt) he hb;have:=hall e.on hon;rw[qq,uU (by omega)]at this;simp only[Option.getD_some]at this;rw[qq,uU (by omega)];simp [this]
   rw[hr]at this;simp at this
 intro fuel;induction fuel with
 |zero=>intro listed s a w E pb hsz hle hdn h hI hk hf;have zW:uf listed ops.size=[]:=xh (by omega);refine⟨hnone listed zW,hQ s a w E pb h hf ?_⟩;simpa [CQ,zW,wm]using hk
 |succ fuel ih=>
  intro listed s a w E pb hsz hle hdn h hI hk hf;refine⟨λhr=>hQ s a w E pb h hf (by simpa [CQ,hsome listed hsz hr,wm]using hk),λi hi=>?_⟩;unfold Region.ready at hi;obtain⟨h1,h2⟩:=List.mem_filter.1 hi;rw[jI]at h2;obtain⟨h2,h3⟩:=h2;have hlt:i<ops.size:=by simpa using h1
  have hun:listed.getD i true=false:=by simpa using h2
  have ho:ops[i]? =some ops[i]:=uU hlt
  have adz:Pc ops i (λj=>listed.getD j true=true):=by intro o e hoo he hb;rw[hoo]at h3;simp only[bZ,Option.getD_some]at h3;rw[Array.all_eq_true_iff_forall_mem]at h3;have h4:=h3 e he;rw[hb]at h4;simp only[Bool.not_true,Bool.false_or]at h4;have hon:=T8 i o e hoo he hb;rw[qq,uU (by omega)]at h4;simp only[Option.getD_some]at h4;show listed.getD e.on true=true;rw[qq,uU (by omega)];simpa using h4
  obtain⟨l1,l2,e1,e2,e3⟩:=ajK hlt hun hsz
  have zW:CQ ops listed=l1.filterMap (ops[·]?)++ops[i]::l2.filterMap (ops[·]?):=by unfold CQ;rw[e1,List.filterMap_append,List.filterMap_cons,ho]
  have ap9:CQ ops (listed.setIfInBounds i true)=l1.filterMap (ops[·]?)++l2.filterMap (ops[·]?):=by unfold CQ;rw[e2,List.filterMap_append]
  rw[zW]at hk
  have arY:∀y∈l1.filterMap (ops[·]?),xH X Rt Bt y:=by intro y hy;obtain⟨j,hj,Wg⟩:=List.mem_filterMap.1 hy;exact UP j y Wg
  have arN:∀y∈l1.filterMap (ops[·]?),Bx X Rt Bt ops y ops[i]:=by
   intro y hy;obtain⟨j,hj,Wg⟩:=List.mem_filterMap.1 hy;obtain⟨j1,j2⟩:=e3 j hj;rcases ap7 i ops[i] j y ho j1 Wg with k1|k1
   ·have:=k1 _ hdn adz;rw[j2]at this;cases this
   ·exact k1
  have aoZ:=ZX (UP i _ ho) _ _ s hI arY arN hk;refine anZ hs h hI (UP i _ ho) ho aoZ λs' a' w' E' cE h' hf' V4 hk'=>?_
  rw[←ap9]at hk';refine ih _ s' a' w' E' cE (by simpa using hsz) ?_ ?_ h' V4 hk' ((hf.trans hf').mono ?_)
  ·rw[e2];rw[e1]at hle;simp at hle ⊢;omega
  ·intro j o e hj Wk he hb;by_cases hji:j=i
   ·subst hji;have:=adz o e Wk he hb;show(listed.setIfInBounds j true).getD e.on true=true;have hon:=T8 j o e Wk he hb;rw[qq,Array.getElem?_setIfInBounds_ne (by omega),←qq];exact this
   ·have hj':listed.getD j true=true:=by replace hj:(listed.setIfInBounds i true).getD j true=true:=hj;rw[qq,Array.getElem?_setIfInBounds_ne (λe=>hji e.symm),←qq]at hj;exact hj
    have:=hdn j o e hj' Wk he hb;show(listed.setIfInBounds i true).getD e.on true=true;by_cases hei:e.on=i
    ·rw[hei];simp [Array.getD,hsz,hlt]
    ·rw[qq,Array.getElem?_setIfInBounds_ne (λe'=>hei e'.symm),←qq];exact this
  ·intro d hd;rcases kM.1 hd with hd|hd
   ·exact hd
   ·refine List.mem_filterMap.2 ⟨ops[i],by simp,?_⟩;cases sZ:ops[i].dst with
    |none=>rw[sZ]at hd;simp at hd
    |some d'=>rw[sZ]at hd;simp at hd;rw[hd]
theorem R7{t b:Nat}:∀{l:List (Nat×Nat)},l.lookup t=some b→(t,b)∈l
 |[],h=>by cases h
 |(t',b')::l,h=>by
  simp only[List.lookup]at h;cases hc:(t==t')
  ·rw[hc]at h;exact rE _ (R7 h)
  ·rw[hc]at h;simp only[Option.some.injEq]at h;have:t=t':=by simpa using hc
   subst this;subst h;exact List.mem_cons_self
theorem ana(hs:eF X){ops:Array Oper}{Q:Exit→Act→World→Prop}{r:R}{k:AS→Option R}(hok:J9 X ops s.sl=true)(hA:∀t,s.A t=none)(hQ:∀s' a' w' E' cE,St X z s' a' w' E' cE→Fr X (ops.toList.filterMap (·.dst)) s s'→k s'=some r→Q .normal a' w'){id:Nat}
  (h:St X z s a w E pb) (hk:wm X true ops ops.toList s k=some r):(Code.region id ops true).wp X.P Q a w:=by
 obtain⟨Rt,Bt,hok⟩:∃Rt Bt,NR X Rt Bt ops s.sl=true:=by
  unfold J9 at hok;rcases Bool.or_eq_true_iff.1 hok with h|h
  ·exact⟨_,_,h⟩
  ·exact⟨_,_,h⟩
 unfold NR at hok;simp only[jI]at hok;obtain⟨⟨⟨⟨⟨⟨⟨h1,h2⟩,h3⟩,h4⟩,h5⟩,h6⟩,h7⟩,h8⟩:=hok
 have hI:RI X Rt Bt s:=by
  refine⟨λt b hl=>?_,λt p hp=>(by rw[hA t]at hp;cases hp),λt b hl _=>?_,λt ht=>vX.1 h8 t (by simpa using ht)⟩
  ·have:=vX.1 h6 (t,b) (R7 hl);exact this
  ·have:=vX.1 h5 (t,b) (R7 hl);exact this
 have adB:∀j,ops.toList[j]? =ops[0+j]? :=λj=>by simp
 have zW:uf (Array.replicate ops.size false) ops.size=List.range ops.size:=by
  unfold uf;rw[List.filter_eq_self];intro i hi;have:i<ops.size:=by simpa using hi
  simp [Array.getD,this]
 have aqa:CQ ops (Array.replicate ops.size false)=ops.toList:=by
  unfold CQ;rw[zW]
  have gen:∀(l pre:List Oper),(List.range' pre.length l.length).filterMap (λi=>(pre++l)[i]?)=l:=by
   intro l;induction l with
   |nil=>intro pre;rfl
   |cons x l ih=>intro pre;simp only[List.length_cons,List.range'_succ,List.filterMap_cons];rw[iZ (bD _)];simp only[Nat.sub_self,List.getElem?_cons_zero];have:=ih (pre++[x]);simp only[List.length_append,List.length_cons,List.length_nil,Nat.zero_add,lU,nI,List.nil_append]at this;rw[this]
  have:=gen ops.toList [];rw[List.range_eq_range'];simpa using this
 refine wp_region_any h1 (alG (s0:=s) hs (λn o e ho he hb=>Zr ops.toList 0 adB h2 n o e (kY _) ho he hb) (λn o m y ho hm hy=>?_) (λn o ho=>xH.of (vX.1 h4 o (by have:=Array.mem_of_getElem? ho;simpa using this)) (vX.1 h7 o (by have:=Array.mem_of_getElem? ho;simpa using this))) hQ ops.size _ s a _ E pb (by simp) (by rw[zW];simp) ?_ (h.grow (w':=w.drew) ((Below.refl _ _).drew)) hI (by rw[aqa];exact hk) (Fr.refl _ _))
 ·rcases Y4 ops.toList 0 adB h3 n o (kY _) ho m y hm hy with k1|k1
  ·left;exact λS hS hD=>aak ops.toList [] (λi=>by simp) (λm j h=>by simp at h) n m k1 S hS hD
  ·exact .inr (akC k1)
 ·intro i o e hi ho he hb;have hlt:i<ops.size:=(mw.1 ho).1;exfalso;simp [Array.getD,hlt]at hi
theorem St.WB(h:St X z s a w E pb):St X z ⟨s.sl,λ_=>none,s.σ⟩ a w E pb:=
 ⟨h.len,h.ue,h.slot,h.box,(λt p hp=>by cases hp),h.priv,h.inj,h.heap,h.defers,h.out,h.nm⟩
def AX.to:AX→Exit
 |.normal=>.normal
 |.exit i=>.exit i
 |.ret=>.ret
theorem Nb:∀(ds:List Nat)(sl:List AV)(i:Nat),(zo sl ds).length=sl.length∧((zo sl ds)[i]? =sl[i]? ∨(zo sl ds)[i]? =some .undef)∧(i∉ds→(zo sl ds)[i]? =sl[i]?)∧(i∈ds→i<sl.length→(zo sl ds)[i]? =some .undef)
 |[],sl,i=>⟨rfl,.inl rfl,λ_=>rfl,λh=>by simp at h⟩
 |d::ds,sl,i=>by
  obtain⟨h1,h2,h3,h4⟩:=Nb ds (sl.set d .undef) i;simp only[zo]
  have sI:(sl.set d .undef)[i]? =if d=i then(if i<sl.length then some .undef else none)else sl[i]? :=by
   rw[kW];by_cases e:d=i
   ·subst e;simp
   ·simp [e]
  have hnone:¬i<sl.length→sl[i]? =none:=λk=>qt (by omega)
  refine⟨by rw[h1];simp,?_,λhi=>?_,λhi hl=>?_⟩
  ·rcases h2 with h2|h2
   ·rw[h2,sI];by_cases e:d=i
    ·rw[aQ e];split
     ·exact .inr rfl
     ·rename_i k;rw[hnone k];exact .inl rfl
    ·rw[aP e];exact .inl rfl
   ·exact .inr h2
  ·simp only[jY,not_or]at hi;rw[h3 hi.2,sI,aP (λe=>hi.1 e.symm)]
  ·by_cases hm:i∈ds
   ·exact h4 hm (by simpa using hl)
   ·simp only[jY]at hi;have:i=d:=hi.resolve_right hm;rw[h3 hm,sI,aQ this.symm,aQ hl]
theorem NF(vs:List AV):∀(live:List Nat)(j:Nat)(sl:List AV)(i:Nat),(Il vs sl live j).length=sl.length∧(i∉live→(Il vs sl live j)[i]? =sl[i]?)∧(i∈live→i<sl.length→∃n,n<live.length∧live[n]? =some i∧(Il vs sl live j)[i]? =some (vs.getD (j+n) .undef))
 |[],j,sl,i=>⟨rfl,λ_=>rfl,λh=>by simp at h⟩
 |d::live,j,sl,i=>by
  obtain⟨h1,h2,h3⟩:=NF vs live (j+1) (sl.set d (vs.getD j .undef)) i;simp only[Il];refine⟨by rw[h1];simp,λhi=>?_,λhi hl=>?_⟩
  ·simp only[jY,not_or]at hi;rw[h2 hi.2,kW,aP (λe=>hi.1 e.symm)]
  ·by_cases hm:i∈live
   ·obtain⟨n,k1,k2,k3⟩:=h3 hm (by simpa using hl);exact⟨n+1,by simp;omega,by simpa using k2,by rw[k3];congr 2;omega⟩
   ·simp only[jY]at hi;have:i=d:=hi.resolve_right hm;subst this;exact⟨0,by simp,rfl,by rw[h2 hm,kW];simp [hl]⟩
theorem St.meet{s s':AS}(h:St X z s' a w E pb){mods live:List Nat}(hl:s.sl.length=s'.sl.length)(hf:∀i,i∉mods→s'.sl[i]? =s.sl[i]?):St X z (s.meet mods live (vals s'.sl live) s'.σ) a w E pb:=by
 have j0:∀i:Nat,(s.meet mods live (vals s'.sl live) s'.σ).sl[i]? =s'.sl[i]? ∨(s.meet mods live (vals s'.sl live) s'.σ).sl[i]? =some AV.undef:=by
  intro i;simp only[AS.meet];obtain⟨c1,c2,c3,c4⟩:=Nb mods s.sl i;obtain⟨m1,m2,m3⟩:=NF (vals s'.sl live) live 0 (zo s.sl mods) i;by_cases hm:i∈live
  ·by_cases hlt:i<s.sl.length
   ·obtain⟨n,k1,k2,k3⟩:=m3 hm (by rw[c1];exact hlt);left;rw[k3,Nat.zero_add]
    have:(vals s'.sl live).getD n .undef=s'.sl.getD i .undef:=by simp only[vals,List.getD,sy,k2];rfl
    rw[this,bT (by omega)];simp [List.getD,show i<s'.sl.length by omega]
   ·left;rw[qt (by rw[m1,c1];omega),qt (by omega)]
  ·rw[m2 hm];by_cases hd:i∈mods
   ·by_cases hlt:i<s.sl.length
    ·exact .inr (c4 hd hlt)
    ·left;rw[qt (by rw[c1];omega),qt (by omega)]
   ·left;rw[c3 hd,hf i hd]
 have hlen:(s.meet mods live (vals s'.sl live) s'.σ).sl.length=s'.sl.length:=by simp only[AS.meet];rw[(NF (vals s'.sl live) live 0 (zo s.sl mods) 0).1,(Nb mods s.sl 0).1];exact hl
 refine⟨by rw[h.len,hlen],by rw[hlen,h.ue],λi av hi=>?_,λi cs hi=>?_,(λt p hp=>by cases hp),h.priv,h.inj,h.heap,h.defers,h.out,h.nm⟩
 ·rcases j0 i with e|e
  ·rw[e]at hi;exact h.slot i av hi
  ·rw[e]at hi;injection hi with hi;subst hi;trivial
 ·rcases j0 i with e|e
  ·rw[e]at hi;exact h.box i cs hi
  ·rw[e]at hi;cases hi
end
end
section
open Go.RowKit
section
variable {X : Fx} {z : Z}
theorem force_eq{R:Type}:∀(l:List AV)(k:List AV→Option R),force l k=k l
 |[],k=>rfl
 |x::l,k=>by simp only[force];rw[force_eq l]
theorem abP{R:Type}{q:Bool}{ops:Array Oper}:∀(l:List Oper)(s:AS)(k:AS→Option R),Lm X q ops l s k=wm X q ops l s k
 |[],s,k=>rfl
 |o::l,s,k=>by simp only[Lm,wm];congr 1;funext s;rw[force_eq];exact abP l _ k
theorem Zv{α:Type}{c:AV}{t e:Option α}{r:α}(h:A.cond c t e=some r):(c=.bool true∧t=some r)∨(c=.bool false∧e=some r):=by
 cases c<;>simp only[A.cond]at h<;>first|(cases h;done)|skip
 rename_i b;cases b
 ·exact .inr ⟨rfl,h⟩
 ·exact .inl ⟨rfl,h⟩
theorem akK{f:List AV→Heap→Option (AX×List AV×Heap)}{v:List AV}{σ:Heap}{r:AX×List AV×Heap}(h:A.loop f v σ=some r):∃n,A.iter f n v σ=some r:=by
 unfold A.loop at h;split at h
 ·rename_i hx;injection h with h
  exact⟨_,h▸Classical.choose_spec (Classical.choose_spec hx)⟩
 ·cases h
theorem ajh{R:Type}{f:List AV→Heap→(AX×List AV×Heap→Option R)→Option R}{v:List AV}{σ:Heap}{K:AX×List AV×Heap→Option R}{r:R}(h:A.Cn f v σ K=some r):∃n,A.zC f n v σ K=some r:=by
 unfold A.Cn at h;split at h
 ·rename_i hx;injection h with h
  obtain⟨n,hn⟩:=Classical.choose_spec hx;exact⟨n,h▸hn n (bD _)⟩
 ·cases h
theorem Ob{R:Type}{e:AX}{k:AX→Option R}{r:R}:∀{xs:List AX},A.sel e k xs=some r→k e=some r
 |[],h=>by cases h
 |x::xs,h=>by
  simp only[A.sel]at h;cases he:(e==x)
  ·rw[he]at h;exact Ob h
  ·rw[he]at h;have:e=x:=by simpa using he
   subst this;exact h
theorem HX{X:Fx}{c:Code}{ds:List Nat}{s s':AS}(h:Fr X ds s s'):∀i,i∉ds++X.L→s'.sl[i]? =s.sl[i]? :=λi hi=>by
 rw[kM]at hi
 exact h i (λe=>hi (.inl e)) (by
  cases hc:X.L.contains i
  ·rfl
  ·exact absurd (List.contains_iff_mem.1 hc) (λe=>hi (.inr e)))
theorem DN{X:Fx}{s:AS}{ds live:List Nat}{vs:List AV}{σ:Heap}(hl:(live.all λd=>(ds++X.L).contains d)=true):Fr X ds s (s.meet (ds++X.L) live vs σ):=λi hi hL=>by
 have hni:i∉ds++X.L:=by
  rw[kM];rintro(e|e)
  ·exact hi e
  ·rw[List.contains_iff_mem.2 e]at hL;cases hL
 simp only[AS.meet];rw[(NF vs live 0 (zo s.sl (ds++X.L)) i).2.1 (λe=>hni ?_),(Nb (ds++X.L) s.sl i).2.2.1 hni];exact List.contains_iff_mem.1 (vX.1 hl i e)
theorem Yw{live:List Nat}{e:AX}{s:AS}{r:List AV×Heap}(h:OP live e s=some r):e=.normal∧r=(vals s.sl live,s.σ):=by cases e<;>simp only[OP]at h<;>first|(cases h;done)|(injection h with h;exact⟨rfl,h.symm⟩)
theorem abE{P:Program}{c:Code}{Q:Exit→Act→World→Prop}(I:Nat→Act→World→Prop)(round:∀n a w,I n a w→c.wp P (Exit.then (λa' w'=>∃m,m<n∧I m a' w') Q) a w) {n:Nat} {a:Act} {w:World} (h:I n a w):(Code.loop c).wp P Q a w:=by
 intro b k cs
 have key:∀n a w,I n a w→∃e a' w',Q e a' w'∧Arrives P (lone (b.at a (.code c::.inLoop c::k)) cs w) b k cs e a' w':=by
  intro n;induction n using Nat.strongRecOn with
  |_ n ih=>
   intro a w hI;obtain⟨e,a1,w1,hq,Ek⟩:=round n a w hI b (.inLoop c::k) cs;cases e with
   |normal=>obtain⟨m,hlt,hm⟩:=hq;obtain⟨e2,a2,w2,yX,apV⟩:=ih m hlt a1 w1 hm;exact⟨e2,a2,w2,yX,.of_steps (Steps.trans Ek (.one step_inLoop)) apV⟩
   |exit id=>exact⟨_,a1,w1,hq,.pass (x:=.inLoop c) rfl (λ_ _=>.inl (by simp)) Ek⟩
   |goto l=>exact⟨_,a1,w1,hq,.pass (x:=.inLoop c) rfl (λ_ _=>.inl (by simp)) Ek⟩
   |ret=>exact⟨_,a1,w1,hq,.pass (x:=.inLoop c) rfl (λ_ _=>.inl (by simp)) Ek⟩
   |panic ch=>exact⟨_,a1,w1,hq,.pass (x:=.inLoop c) rfl (λ_ _=>.inl (by simp)) Ek⟩
   |outgrown=>exact⟨_,a1,w1,hq,.pass (x:=.inLoop c) rfl (λ_ _=>.inl (by simp)) Ek⟩
 obtain⟨e,a',w',hq,Ek⟩:=key n a w h;exact⟨e,a',w',hq,.of_steps (.one step_loop) Ek⟩
theorem A6(hs:eF X):∀(c:Code){R:Type}(cB:oZ)(s:AS)(a:Act)(w:World)(E:List Pl)(pb:Nat→Option Nat)(k:AX→AS→Option R)(r:R)(Q:Exit→Act→World→Prop),exec X cB c s k=some r→St X z s a w E pb→
  (∀e s' a' w' E' cE,St X z s' a' w' E' cE→Fr X (gq c) s s'→k e s'=some r→Q e.to a' w')→c.wp X.P Q a w
 |.skip,R,cB,s,a,w,E,pb,k,r,Q,hk,h,hQ=>by
  have hk':k .normal s=some r:=by cases cB<;>simpa [exec]using hk
  exact wp_skip (hQ .normal s a w E pb h (Fr.refl _ _) hk')
 |.label l,R,cB,s,a,w,E,pb,k,r,Q,hk,h,hQ=>by
  have hk':k .normal s=some r:=by cases cB<;>simpa [exec]using hk
  exact wp_label (hQ .normal s a w E pb h (Fr.refl _ _) hk')
 |.exit id,R,cB,s,a,w,E,pb,k,r,Q,hk,h,hQ=>by
  have hk':k (.exit id) s=some r:=by cases cB<;>simpa [exec]using hk
  exact wp_exit (hQ (.exit id) s a w E pb h (Fr.refl _ _) hk')
 |.ret,R,cB,s,a,w,E,pb,k,r,Q,hk,h,hQ=>by
  have hk':k .ret s=some r:=by cases cB<;>simpa [exec]using hk
  exact wp_ret (hQ .ret s a w E pb h (Fr.refl _ _) hk')
 |.region id ops draw,R,cB,s,a,w,E,pb,k,r,Q,hk,h,hQ=>by
  have hk':(bif draw then(bif J9 X ops s.sl then wm X true ops ops.toList ⟨s.sl,λ_=>none,s.σ⟩ λs=>k .normal ⟨s.sl,λ_=>none,s.σ⟩else none)else wm X false ops ops.toList s λs=>k .normal ⟨s.sl,λ_=>none,s.σ⟩)=some r:=by cases cB<;>simpa [exec,force_eq,abP]using hk
  cases draw
  ·simp only[bE]at hk';refine wp_region ?_;have:=abO (z:=z) (Q:=Q) (s0:=s) hs ops.toList 0 s a w E pb (λj=>by simp) h hk' (λs' a' w' E' cE h' hf hk2=>hQ .normal _ a' w' E' cE h'.WB (λi hi hL=>hf i (by simpa [gq]using hi) hL) hk2);rw[List.range_eq_range'];simpa using this
  ·simp only[ck]at hk';cases hok:J9 X ops s.sl
   ·rw[hok]at hk';cases hk'
   ·rw[hok]at hk';simp only[ck]at hk';exact ana (s:=⟨s.sl,λ_=>none,s.σ⟩) hs hok (λ_=>rfl) (λs' a' w' E' cE h' hf hk2=>hQ .normal _ a' w' E' cE h'.WB (λi hi hL=>hf i (by simpa [gq]using hi) hL) hk2) h.WB hk'
 |.seq x y,R,cB,s,a,w,E,pb,k,r,Q,hk,h,hQ=>by
  cases cB<;>simp only[exec]at hk<;>first|(cases hk;done)|skip
  rename_i aa bb;refine wp_seq (A6 hs x aa s a w E pb _ r _ hk h λe s' a' w' E' cE h' hf hk'=>?_);cases e with
  |normal=>exact A6 hs y bb s' a' w' E' cE k r Q hk' h' λe2 s2 a2 w2 E2 WD h2 vu hk2=>hQ e2 s2 a2 w2 E2 WD h2 (by simpa [gq]using hf.trans vu) hk2
  |exit i=>exact hQ (.exit i) s' a' w' E' cE h' (hf.mono λi hi=>by simp [gq,hi]) hk'
  |ret=>exact hQ .ret s' a' w' E' cE h' (hf.mono λi hi=>by simp [gq,hi]) hk'
 |.cond c x y,R,cB,s,a,w,E,pb,k,r,Q,hk,h,hQ=>by
  have rc:=gp h c;cases cB<;>simp only[exec,force_eq]at hk<;>first|(cases hk;done)|skip
  case c live aa bb=>
   cases hl:(live.all λd=>(gq x++gq y++X.L).contains d)
   ·rw[hl]at hk;cases hk
   ·rw[hl]at hk;simp only[Bool.not_true,bE]at hk;obtain⟨⟨vs,σ'⟩,h1,h2⟩:=bO.1 hk;rcases Zv h1 with⟨ec,hb⟩|⟨ec,hb⟩
    ·rw[ec]at rc;simp only[an]at rc;refine wp_cond_true rc (A6 hs x aa s a w E pb _ _ Q hb h λe s' a' w' E' cE h' hf hk'=>?_);obtain⟨rfl,hv⟩:=Yw hk';simp only[Prod.mk.injEq]at hv;obtain⟨rfl,rfl⟩:=hv;have vu:Fr X (gq x++gq y) s s':=hf.mono λi hi=>by simp [hi]
     exact hQ .normal _ a' w' E' cE (h'.meet (by rw[h.ue,h'.ue]) (HX (c:=x) vu)) (by simpa [gq]using DN (X:=X) hl) h2
    ·rw[ec]at rc;simp only[an]at rc;refine wp_cond_false rc (A6 hs y bb s a w E pb _ _ Q hb h λe s' a' w' E' cE h' hf hk'=>?_);obtain⟨rfl,hv⟩:=Yw hk';simp only[Prod.mk.injEq]at hv;obtain⟨rfl,rfl⟩:=hv;have vu:Fr X (gq x++gq y) s s':=hf.mono λi hi=>by simp [hi]
     exact hQ .normal _ a' w' E' cE (h'.meet (by rw[h.ue,h'.ue]) (HX (c:=x) vu)) (by simpa [gq]using DN (X:=X) hl) h2
  case j aa bb=>
   rcases Zv hk with⟨ec,hb⟩|⟨ec,hb⟩
   ·rw[ec]at rc;simp only[an]at rc;exact wp_cond_true rc (A6 hs x aa s a w E pb k r Q hb h λe s' a' w' E' cE h' hf hk'=>hQ e s' a' w' E' cE h' (hf.mono λi hi=>by simp [gq,hi]) hk')
   ·rw[ec]at rc;simp only[an]at rc;exact wp_cond_false rc (A6 hs y bb s a w E pb k r Q hb h λe s' a' w' E' cE h' hf hk'=>hQ e s' a' w' E' cE h' (hf.mono λi hi=>by simp [gq,hi]) hk')
 |.block id c,R,cB,s,a,w,E,pb,k,r,Q,hk,h,hQ=>by
  cases cB<;>simp only[exec]at hk<;>first|(cases hk;done)|skip
  rename_i aa;refine wp_block (A6 hs c aa s a w E pb _ r _ hk h λe s' a' w' E' cE h' hf hk'=>?_);cases e with
  |normal=>exact hQ .normal s' a' w' E' cE h' (by simpa [gq]using hf) hk'
  |ret=>exact hQ .ret s' a' w' E' cE h' (by simpa [gq]using hf) hk'
  |exit i=>
   simp only[AX.to,Exit.inBlock];simp only at hk';by_cases e:i=id
   ·have:(i==id)=true:=by simpa using e
    rw[this]at hk';rw[aQ e];exact hQ .normal s' a' w' E' cE h' (by simpa [gq]using hf) hk'
   ·have:(i==id)=false:=by simpa using e
    rw[this]at hk';rw[aP e];exact hQ (.exit i) s' a' w' E' cE h' (by simpa [gq]using hf) hk'
 |.loop c,R,cB,s,a,w,E,pb,k,r,Q,hk,h,hQ=>by
  cases cB<;>simp only[exec,force_eq]at hk<;>first|(cases hk;done)|skip
  case lc live xs aa=>
   cases hl:(live.all λd=>(gq c++X.L).contains d)
   ·rw[hl]at hk;cases hk
   ·rw[hl]at hk;simp only[Bool.not_true,bE]at hk;obtain⟨n,hn⟩:=ajh hk;refine abE (λn a w=>∃vs σ E pb,A.zC (λvs σ K=>exec X aa c (s.meet (gq c++X.L) live vs σ) λe s'=>K (e,vals s'.sl live,s'.σ)) n vs σ (λr=>A.sel r.1 (λe=>k e (s.meet (gq c++X.L) live r.2.1 r.2.2)) xs)=some r∧St X z (s.meet (gq c++X.L) live vs σ) a w E pb) ?_ (n:=n) ⟨_,_,E,pb,hn,h.meet rfl (λi _=>rfl)⟩;rintro n a w ⟨vs,σ,E,pb,hit,hst⟩;cases n with
    |zero=>cases hit
    |succ n=>
     simp only[A.zC]at hit;refine A6 hs c aa _ a w E pb _ _ _ hit hst λe s' a' w' E' cE h' hf hk'=>?_
     have hfr:∀i,i∉gq c++X.L→s'.sl[i]? =s.sl[i]? :=λi hi=>by rw[HX (c:=c) hf i hi];exact HX (c:=c) (DN (X:=X) (s:=s) (vs:=vs) (σ:=σ) hl) i hi
     have zX:=h'.meet (s:=s) (mods:=gq c++X.L) (live:=live) (by rw[h.ue,h'.ue]) hfr;cases e with
     |normal=>exact⟨n,Nat.lt_succ_self n,_,_,E',cE,hk',zX⟩
     |exit i=>exact hQ (.exit i) _ a' w' E' cE zX (by simpa [gq]using DN (X:=X) hl) (Ob hk')
     |ret=>exact hQ .ret _ a' w' E' cE zX (by simpa [gq]using DN (X:=X) hl) (Ob hk')
  rename_i live xs aa;cases hl:(live.all λd=>(gq c++X.L).contains d)
  ·rw[hl]at hk;cases hk
  ·rw[hl]at hk;simp only[Bool.not_true,bE]at hk;obtain⟨⟨e0,EL,aK⟩,h1,h2⟩:=bO.1 hk;have hsel:=Ob h2;obtain⟨n,hn⟩:=akK h1;refine abE (λn a w=>∃vs σ E pb,A.iter (λvs σ=>exec X aa c (s.meet (gq c++X.L) live vs σ) (leave live)) n vs σ=some (e0,EL,aK)∧St X z (s.meet (gq c++X.L) live vs σ) a w E pb) ?_ (n:=n) ⟨_,_,E,pb,hn,h.meet rfl (λi _=>rfl)⟩;rintro n a w ⟨vs,σ,E,pb,hit,hst⟩;cases n with
   |zero=>cases hit
   |succ n=>
    simp only[A.iter]at hit;obtain⟨⟨e1,vs1,σ1⟩,g1,g2⟩:=bO.1 hit;refine A6 hs c aa _ a w E pb _ _ _ g1 hst λe s' a' w' E' cE h' hf hk'=>?_
    simp only[leave,Option.some.injEq,Prod.mk.injEq]at hk';obtain⟨rfl,rfl,rfl⟩:=hk'
    have hfr:∀i,i∉gq c++X.L→s'.sl[i]? =s.sl[i]? :=λi hi=>by rw[HX (c:=c) hf i hi];exact HX (c:=c) (DN (X:=X) (s:=s) (vs:=vs) (σ:=σ) hl) i hi
    have zX:=h'.meet (s:=s) (mods:=gq c++X.L) (live:=live) (by rw[h.ue,h'.ue]) hfr;cases e with
    |normal=>exact⟨n,Nat.lt_succ_self n,_,_,E',cE,g2,zX⟩
    |exit i=>simp only[Option.some.injEq,Prod.mk.injEq]at g2;obtain⟨rfl,rfl,rfl⟩:=g2;exact hQ (.exit i) _ a' w' E' cE zX (by simpa [gq]using DN (X:=X) hl) hsel
    |ret=>simp only[Option.some.injEq,Prod.mk.injEq]at g2;obtain⟨rfl,rfl,rfl⟩:=g2;exact hQ .ret _ a' w' E' cE zX (by simpa [gq]using DN (X:=X) hl) hsel
 |.rangeFunc ..,R,cB,s,a,w,E,pb,k,r,Q,hk,h,hQ=>by cases cB<;>simp [exec]at hk
 |.scope _,R,cB,s,a,w,E,pb,k,r,Q,hk,h,hQ=>by cases cB<;>simp [exec]at hk
 |.goto _,R,cB,s,a,w,E,pb,k,r,Q,hk,h,hQ=>by cases cB<;>simp [exec]at hk
 |.refuse _,R,cB,s,a,w,E,pb,k,r,Q,hk,h,hQ=>by cases cB<;>simp [exec]at hk
end
end
section
open Go.RowKit
section
variable {X : Fx} {z : Z} {s : AS} {a : Act} {w w' : World} {E : List Pl} {pb : Nat → Option Nat}
def CS(tmps:Array Value):ResultVar→Sem Value
 |.tmp t=>pure (tmps.getD t undef)
 |.cell a t=>do loadVar t (←asAddr (tmps.getD a undef))
theorem S6(h:St X z s a w E pb){R:Type}:∀(rs:List ResultVar)(k:List AV→Option R)(r:R),CR X s rs k=some r→∃vs qc,(rs.mapM (CS a.tmps)).run X.P w=.ok vs w∧aR (ctx z w E pb) qc vs∧k qc=some r
 |[],k,r,hk=>⟨[],[],by simp,by simp [aR],hk⟩
 |.tmp t::rs,k,r,hk=>by simp only[CR]at hk;obtain⟨vs,qc,h1,h2,h3⟩:=S6 h rs _ r hk;refine⟨a.tmps.getD t undef::vs,ev X s (.tmp t)::qc,?_,by simp only[aR];exact⟨_,_,rfl,gp h (.tmp t),h2⟩,h3⟩;simp only[List.mapM_cons,Sem.run_bind,CS,Sem.run_pure,Result.andThen_ok,h1]
 |.cell q t::rs,k,r,hk=>by
  simp only[CR]at hk
  have fin:∀(v:Value)(av:AV),(CS a.tmps (.cell q t)).run X.P w=.ok v w→an (ctx z w E pb) av v→CR X s rs (λvs=>k (av::vs))=some r→∃vs qc,((ResultVar.cell q t::rs).mapM (CS a.tmps)).run X.P w=.ok vs w∧aR (ctx z w E pb) qc vs∧k qc=some r:=by intro v av hv hr hk;obtain⟨vs,qc,h1,h2,h3⟩:=S6 h rs _ r hk;refine⟨v::vs,av::qc,?_,by simp only[aR];exact⟨_,_,rfl,hr,h2⟩,h3⟩;simp only[List.mapM_cons,Sem.run_bind,hv,Sem.run_pure,Result.andThen_ok,h1]
  split at hk
  ·rename_i b off hp;obtain⟨av,e1,e2⟩:=bO.1 hk;obtain⟨cs,e3,e4⟩:=bO.1 e1;obtain⟨n,k1,k2,k3,k4⟩:=HJ h (tag:=none) trivial hp e3;obtain⟨v,j1,j2⟩:=NA (c:=ctx z w E pb) w X rfl k3.2 e4;rw[Nat.zero_add]at j1;simp only[Act.eval]at k2;exact fin v av (by simp [CS,k2,asAddr,j1]) j2 e2
  ·obtain⟨av,e1,e2⟩:=bO.1 hk;obtain⟨cs,e3,e4⟩:=bO.1 e1;obtain⟨b,off,k2,k3⟩:=Zw h.heap e3 (gp h (.tmp q));obtain⟨v,j1,j2⟩:=NA (c:=ctx z w E pb) w X rfl k3 e4;rw[Nat.add_zero]at j1;simp only[Act.eval]at k2;exact fin v av (by simp [CS,k2,asAddr,j1]) j2 e2
theorem aiz{P:Program}{fn:Func}{tmps:Array Value}{vs:List Value}(h:(fn.results.toList.mapM (CS tmps)).run P w=.ok vs w):∃v,(results fn tmps).run P w=.ok v w∧∀(c:RC)(qc:List AV),aR c qc vs→an c (one qc) v:=by
 have e:results fn tmps=(do let vs ←fn.results.mapM (CS tmps);pure (if h:vs.size=1 then vs[0]else .tuple vs)):=by unfold results;congr 1
 have hm:(fn.results.mapM (CS tmps)).run P w=.ok vs.toArray w:=by rw[Array.mapM_eq_mapM_toList,Sem.run_map,h];rfl
 have hrun:(results fn tmps).run P w=.ok (if h:vs.toArray.size=1 then vs.toArray[0]else .tuple vs.toArray) w:=by rw[e,Sem.run_bind,hm];rfl
 refine⟨_,hrun,λc qc r=>?_⟩
 match qc,vs,r with
 |[x],[v],r=>simp only[aR]at r;obtain⟨v',_,e',r1,rfl⟩:=r;injection e' with e1 _;subst e1;simpa [one]using r1
 |[],[],r=>simp only[one,an];exact⟨#[],by simp,by simp [aR]⟩
 |x::y::xs,v::u::us,r=>simp only[one,an];exact⟨(v::u::us).toArray,by simp,by simpa using r⟩
 |[_],_::_::_,r=>exact absurd r.length (by simp)
 |_::_::_,[_],r=>exact absurd r.length (by simp)
 |[],_::_,r=>exact absurd r.length (by simp)
 |_::_,[],r=>exact absurd r.length (by simp)
end
section
variable {c c' : RC} {σ : Heap} {n : Nat}
structure zH (c c' : RC) (σ : Heap) (n : Nat) : Prop where
 w:c'.w=c.w
 nm:c'.nm=c.nm
 X:∀b,c'.X b→c.X b
 E:∀(id:Nat)(p:Pl),id<n→c.E[id]? =some p→c'.E[id]? =some p
 heap:jN c σ
 Pe:∀(id:Nat)(p:Pl),n≤id→c.E[id]? =some p→¬c'.X p.b
theorem SY(d:Nat):∀(l l':List AV),A.ga σ n d l=some l'→l'.length=l.length
 |[],l',e=>by simp only[A.ga]at e;injection e with e;subst e;rfl
 |x::l,l',e=>by simp only[A.ga]at e;obtain⟨y,h1,h2⟩:=bO.1 e;obtain⟨l2,h3,rfl⟩:=eG.1 h2;simp [SY d l l2 h3]
theorem JV(d:Nat):∀(l l':List (List AV)),A.kT σ n d l=some l'→l'.length=l.length
 |[],l',e=>by simp only[A.kT]at e;injection e with e;subst e;rfl
 |x::l,l',e=>by simp only[A.kT]at e;obtain⟨y,h1,h2⟩:=bO.1 e;obtain⟨l2,h3,rfl⟩:=eG.1 h2;simp [JV d l l2 h3]
theorem HM(d:Nat):∀(l:List (List AV)),A.Ks σ n d l=A.kT σ n d l
 |[]=>by simp [A.kT,A.Ks]
 |x::l=>by simp [A.kT,A.Ks,HM d l]
def FD:AV→Bool
 |.os ..=>true
 |.op ..=>true
 |.oe ..=>true
 |.om ..=>true
 |_=>false
theorem Kg(d:Nat):∀(l:List AV),A.wY σ n d l=A.ga σ n d l
 |[]=>by simp [A.ga,A.wY]
 |x::l=>by simp [A.ga,A.wY,Kg d l]
theorem aby(d:Nat):∀(l:List (AV×AV)),A.D2 σ n d l=A.sH σ n d l
 |[]=>by simp [A.sH,A.D2]
 |(k,v)::l=>by simp [A.sH,A.D2,aby d l]
theorem anp(d:Nat)(m:Int)(s:ByteArray):A.bG σ n d (.agg [.int .i64 m,.str s])=some (.agg [.int .i64 m,.str s]):=by cases d<;>simp [A.bG,A.ga]
theorem ZI{d:Nat}:∀{es es':List (AV×AV)},(∀p∈es,∃m s,p.1=.agg [.int .i64 m,.str s])→A.sH σ n d es=some es'→es'.map (·.1)=es.map (·.1)
 |[],es',_,h=>by simp only[A.sH]at h;injection h with h;subst h;rfl
 |(k,v)::r,es',hk,h=>by simp only[A.sH]at h;obtain⟨m,s,e⟩:=hk (k,v) List.mem_cons_self;simp only at e;subst e;rw[anp]at h;simp only[aX]at h;obtain⟨v',h1,h2⟩:=bO.1 h;obtain⟨r',h3,rfl⟩:=eG.1 h2;simp only[ef,ZI (λp hp=>hk p (rE _ hp)) h3]
theorem akw{d:Nat}{es es':List (AV×AV)}(hd:Ip es)(h:A.sH σ n d es=some es'):Ip es':=by
 have e:=ZI hd.1 h;refine⟨λp hp=>?_,by rw[e];exact hd.2⟩;have:p.1∈es.map (·.1):=by rw[←e];exact List.mem_map_of_mem hp
 obtain⟨q,hq,e2⟩:=gB.1 this;rw[←e2];exact hd.1 q hq
mutual
theorem HY(h:zH c c' σ n)(d:Nat)(hos:∀av dX v,FD av=true→A.bG σ n d av=some dX→an c av v→an c' dX v):∀(av dX:AV)(v:Value),A.bG σ n d av=some dX→an c av v→an c' dX v
 |.undef,dX,v,e,r=>by cases d<;>simp [A.bG]at e
 |.int k m,dX,v,e,r=>by
  have:dX=.int k m:=by cases d<;>simpa [A.bG]using e.symm
  subst this;simpa [an]using r
 |.bool b,dX,v,e,r=>by
  have:dX=.bool b:=by cases d<;>simpa [A.bG]using e.symm
  subst this;simpa [an]using r
 |.str s,dX,v,e,r=>by
  have:dX=.str s:=by cases d<;>simpa [A.bG]using e.symm
  subst this;simpa [an]using r
 |.az,dX,v,e,r=>by
  have:dX=.az:=by cases d<;>simpa [A.bG]using e.symm
  subst this;simpa [an]using r
 |.ez,dX,v,e,r=>by
  have:dX=.ez:=by cases d<;>simpa [A.bG]using e.symm
  subst this;simpa [an]using r
 |.np,dX,v,e,r=>by
  have:dX=.np:=by cases d<;>simpa [A.bG]using e.symm
  subst this;simpa [an]using r
 |.nm,dX,v,e,r=>by
  have:dX=.nm:=by cases d<;>simpa [A.bG]using e.symm
  subst this;simpa [an]using r
 |.BG,dX,v,e,r=>by
  have:dX=.BG:=by cases d<;>simpa [A.bG]using e.symm
  subst this;simpa [an]using r
 |.agg cs,dX,v,e,r=>by
  have e':(A.ga σ n d cs).map .agg=some dX:=by cases d<;>simpa [A.bG]using e
  obtain⟨cs',h1,rfl⟩:=eG.1 e';simp only[an]at r ⊢;obtain⟨vs,e,r1,r2⟩:=r;exact⟨vs,e,HN h d hos cs cs' _ h1 r1,r2⟩
 |.aM cs,dX,v,e,r=>by
  have e':(A.ga σ n d cs).map .aM=some dX:=by cases d<;>simpa [A.bG]using e
  obtain⟨cs',h1,rfl⟩:=eG.1 e';simp only[an]at r ⊢;obtain⟨vs,e,r1⟩:=r;exact⟨vs,e,HN h d hos cs cs' _ h1 r1⟩
 |.sl sz es,dX,v,e,r=>by
  have e':(A.kT σ n d es).map (.sl sz)=some dX:=by cases d<;>simpa [A.bG]using e
  obtain⟨es',h1,rfl⟩:=eG.1 e';simp only[an]at r ⊢;obtain⟨q,cap,e,k1,k2,r⟩:=r;have hl:es'.length=es.length:=JV d es es' h1;refine⟨q,cap,by rw[hl];exact e,by rw[hl];exact k1,k2,?_⟩;rcases r with r|⟨b,off,e2,hb,hx,r⟩
  ·left;subst r;simpa using hl
  ·right;exact⟨b,off,e2,by rw[h.w];exact hb,λk=>hx (h.X b k),J3 h d hos sz b es es' off h1 r⟩
 |.rp cs,dX,v,e,r=>by
  have e':(A.ga σ n d cs).map .rp=some dX:=by cases d<;>simpa [A.bG]using e
  obtain⟨cs',h1,rfl⟩:=eG.1 e';simp only[an]at r ⊢;obtain⟨b,off,e2,hb,hx,r⟩:=r;exact⟨b,off,e2,by rw[h.w];exact hb,λk=>hx (h.X b k),HL h d hos b cs cs' off h1 r⟩
 |.fm es,dX,v,e,r=>by
  have e':(A.sH σ n d es).map .fm=some dX:=by cases d<;>simpa [A.bG]using e
  obtain⟨es',h1,rfl⟩:=eG.1 e';simp only[an]at r ⊢;obtain⟨b,e2,hb,hx,bC,aI,k1,kw,l,k2,k3⟩:=r;exact⟨b,e2,by rw[h.w];exact hb,λk=>hx (h.X b k),bC,aI,by rw[h.w];exact k1,kw,l,N6 h d hos es es' _ h1 k2,k3.imp_right λq=>⟨q.1,akw q.2 h1⟩⟩
 |.op id off,dX,v,e,r=>hos _ dX v rfl e r
 |.oe id g i off,dX,v,e,r=>hos _ dX v rfl e r
 |.om id,dX,v,e,r=>hos _ dX v rfl e r
 |.fn f cs,dX,v,e,r=>by
  have e':(A.ga σ n d cs).map (.fn f)=some dX:=by cases d<;>simpa [A.bG]using e
  obtain⟨cs',h1,rfl⟩:=eG.1 e';simp only[an]at r ⊢;obtain⟨g,vs,e,k,r1⟩:=r;exact⟨g,vs,e,by rw[h.nm];exact k,HN h d hos cs cs' _ h1 r1⟩
 |.lbx cs,dX,v,e,r=>by cases d<;>simp [A.bG]at e
 |.os id g sz off len,dX,v,e,r=>hos _ dX v rfl e r
theorem HN(h:zH c c' σ n)(d:Nat)(hos:∀av dX v,FD av=true→A.bG σ n d av=some dX→an c av v→an c' dX v):∀(l l':List AV)(vs:List Value),A.ga σ n d l=some l'→aR c l vs→aR c' l' vs
 |[],l',vs,e,r=>by simp only[A.ga]at e;injection e with e;subst e;simpa [aR]using r
 |x::l,l',vs,e,r=>by simp only[A.ga]at e;obtain⟨y,h1,h2⟩:=bO.1 e;obtain⟨l2,h3,rfl⟩:=eG.1 h2;simp only[aR]at r ⊢;obtain⟨v,vs',e,r1,r2⟩:=r;exact⟨v,vs',e,HY h d hos x y v h1 r1,HN h d hos l l2 vs' h3 r2⟩
theorem N6(h:zH c c' σ n)(d:Nat)(hos:∀av dX v,FD av=true→A.bG σ n d av=some dX→an c av v→an c' dX v):∀(l l':List (AV×AV))(es:List MapEntry),A.sH σ n d l=some l'→cZ c l es→cZ c' l' es
 |[],l',es,e,r=>by simp only[A.sH]at e;injection e with e;subst e;simpa [cZ]using r
 |(k,v)::l,l',es,e,r=>by simp only[A.sH]at e;obtain⟨k',h1,h2⟩:=bO.1 e;obtain⟨v',h3,h4⟩:=bO.1 h2;obtain⟨l2,h5,rfl⟩:=eG.1 h4;simp only[cZ]at r ⊢;obtain⟨x,es',e,r1,r2,r3⟩:=r;exact⟨x,es',e,HY h d hos k k' _ h1 r1,HY h d hos v v' _ h3 r2,N6 h d hos l l2 es' h5 r3⟩
theorem HL(h:zH c c' σ n)(d:Nat)(hos:∀av dX v,FD av=true→A.bG σ n d av=some dX→an c av v→an c' dX v)(b:Nat):∀(l l':List AV)(off:Nat),A.ga σ n d l=some l'→bI c b off l→bI c' b off l'
 |[],l',off,e,r=>by simp only[A.ga]at e;injection e with e;subst e;simp [bI]
 |x::l,l',off,e,r=>by simp only[A.ga]at e;obtain⟨y,h1,h2⟩:=bO.1 e;obtain⟨l2,h3,rfl⟩:=eG.1 h2;simp only[bI]at r ⊢;obtain⟨⟨v,e1,e2,r1⟩,r2⟩:=r;exact⟨⟨v,by rw[h.w];exact e1,e2,HY h d hos x y v h1 r1⟩,HL h d hos b l l2 (off+1) h3 r2⟩
theorem J3(h:zH c c' σ n)(d:Nat)(hos:∀av dX v,FD av=true→A.bG σ n d av=some dX→an c av v→an c' dX v)(sz b:Nat):∀(l l':List (List AV))(off:Nat),A.kT σ n d l=some l'→bN c sz b off l→bN c' sz b off l'
 |[],l',off,e,r=>by simp only[A.kT]at e;injection e with e;subst e;simp [bN]
 |x::l,l',off,e,r=>by simp only[A.kT]at e;obtain⟨y,h1,h2⟩:=bO.1 e;obtain⟨l2,h3,rfl⟩:=eG.1 h2;simp only[bN]at r ⊢;exact⟨by rw[SY d x y h1];exact r.1,HL h d hos b x y off h1 r.2.1,J3 h d hos sz b l l2 (off+sz) h3 r.2.2⟩
end
structure Ai (c0 c c' : RC) : Prop where
 w:c'.w=c.w
 nm:c'.nm=c.nm
 X:∀b,c'.X b→c.X b
 E:∀(id:Nat)(p0 p:Pl),c0.E[id]? =some p0→c.E[id]? =some p→c'.E[id]? =some p
mutual
theorem HU{c0 c c':RC}(h:Ai c0 c c'):∀(av:AV)(v0 v:Value),an c0 av v0→an c av v→an c' av v
 |.undef,v0,v,r0,r=>by simp [an]
 |.int k m,v0,v,r0,r=>by simpa [an]using r
 |.bool b,v0,v,r0,r=>by simpa [an]using r
 |.str s,v0,v,r0,r=>by simpa [an]using r
 |.az,v0,v,r0,r=>by simpa [an]using r
 |.ez,v0,v,r0,r=>by simpa [an]using r
 |.np,v0,v,r0,r=>by simpa [an]using r
 |.nm,v0,v,r0,r=>by simpa [an]using r
 |.fm es,v0,v,r0,r=>by simp only[an]at r0 r ⊢;obtain⟨_,_,_,_,_,_,_,_,_,r0,_⟩:=r0;obtain⟨b,e,hb,hx,bC,aI,k1,kw,l,k2,k3⟩:=r;exact⟨b,e,by rw[h.w];exact hb,λk=>hx (h.X b k),bC,aI,by rw[h.w];exact k1,kw,l,N1 h es _ _ r0 k2,k3⟩
 |.BG,v0,v,r0,r=>by simpa [an]using r
 |.agg cs,v0,v,r0,r=>by simp only[an]at r0 r ⊢;obtain⟨EL,_,GO,_⟩:=r0;obtain⟨vs,e,r1,r2⟩:=r;exact⟨vs,e,N0 h cs _ _ GO r1,r2⟩
 |.aM cs,v0,v,r0,r=>by simp only[an]at r0 r ⊢;obtain⟨EL,_,GO⟩:=r0;obtain⟨vs,e,r1⟩:=r;exact⟨vs,e,N0 h cs _ _ GO r1⟩
 |.sl sz es,v0,v,r0,r=>by
  simp only[an]at r0 r ⊢;obtain⟨_,_,_,_,_,r0⟩:=r0;obtain⟨q,cap,e,k1,k2,r⟩:=r;refine⟨q,cap,e,k1,k2,?_⟩;rcases r with r|⟨b,off,e2,hb,hx,r⟩
  ·exact .inl r
  ·rcases r0 with r0|⟨b0,uX,_,_,_,r0⟩
   ·exact .inl r0
   ·exact .inr ⟨b,off,e2,by rw[h.w];exact hb,λk=>hx (h.X b k),NZ h sz b0 b es uX off r0 r⟩
 |.rp cs,v0,v,r0,r=>by simp only[an]at r0 r ⊢;obtain⟨b0,uX,_,_,_,r0⟩:=r0;obtain⟨b,off,e2,hb,hx,r⟩:=r;exact⟨b,off,e2,by rw[h.w];exact hb,λk=>hx (h.X b k),JZ h b0 b cs uX off r0 r⟩
 |.op id off,v0,v,r0,r=>by simp only[an]at r0 r ⊢;obtain⟨p0,e0,_⟩:=r0;obtain⟨p,e1,e2,e3⟩:=r;exact⟨p,h.E id p0 p e0 e1,e2,e3⟩
 |.oe id g i off,v0,v,r0,r=>by simp only[an]at r0 r ⊢;obtain⟨_,p0,e0,_⟩:=r0;obtain⟨hg,p,e1,e2⟩:=r;exact⟨hg,p,h.E id p0 p e0 e1,e2⟩
 |.os id g sz off len,v0,v,r0,r=>by simp only[an]at r0 r ⊢;obtain⟨_,p0,e0,_⟩:=r0;obtain⟨hg,p,e1,e2⟩:=r;exact⟨hg,p,h.E id p0 p e0 e1,e2⟩
 |.om id,v0,v,r0,r=>by simp only[an]at r0 r ⊢;obtain⟨p0,e0,_⟩:=r0;obtain⟨p,e1,e2,e3⟩:=r;exact⟨p,h.E id p0 p e0 e1,e2,e3⟩
 |.fn f cs,v0,v,r0,r=>by simp only[an]at r0 r ⊢;obtain⟨_,_,_,_,r0⟩:=r0;obtain⟨g,vs,e1,e2,r⟩:=r;exact⟨g,vs,e1,by rw[h.nm];exact e2,N0 h cs _ _ r0 r⟩
 |.lbx cs,v0,v,r0,r=>by simp [an]at r
theorem N0{c0 c c':RC}(h:Ai c0 c c'):∀(l:List AV)(EL vs:List Value),aR c0 l EL→aR c l vs→aR c' l vs
 |[],EL,vs,r0,r=>by simpa [aR]using r
 |x::l,EL,vs,r0,r=>by simp only[aR]at r0 r ⊢;obtain⟨v0,us0,_,GO,WG⟩:=r0;obtain⟨v,us,e,r1,r2⟩:=r;exact⟨v,us,e,HU h x _ _ GO r1,N0 h l _ _ WG r2⟩
theorem N1{c0 c c':RC}(h:Ai c0 c c'):∀(l:List (AV×AV))(lD es:List MapEntry),cZ c0 l lD→cZ c l es→cZ c' l es
 |[],lD,es,r0,r=>by simpa [cZ]using r
 |(k,v)::l,lD,es,r0,r=>by simp only[cZ]at r0 r ⊢;obtain⟨e0,arp,_,k1,k2,k3⟩:=r0;obtain⟨e,es',e1,j1,j2,j3⟩:=r;exact⟨e,es',e1,HU h k _ _ k1 j1,HU h v _ _ k2 j2,N1 h l arp es' k3 j3⟩
theorem JZ{c0 c c':RC}(h:Ai c0 c c')(b0 b:Nat):∀(l:List AV)(uX off:Nat),bI c0 b0 uX l→bI c b off l→bI c' b off l
 |[],uX,off,r0,r=>by simp [bI]
 |x::l,uX,off,r0,r=>by simp only[bI]at r0 r ⊢;obtain⟨⟨v0,_,_,GO⟩,WG⟩:=r0;obtain⟨⟨v,e1,e2,r1⟩,r2⟩:=r;exact⟨⟨v,by rw[h.w];exact e1,e2,HU h x _ _ GO r1⟩,JZ h b0 b l _ _ WG r2⟩
theorem NZ{c0 c c':RC}(h:Ai c0 c c')(sz b0 b:Nat):∀(l:List (List AV))(uX off:Nat),bN c0 sz b0 uX l→bN c sz b off l→bN c' sz b off l
 |[],uX,off,r0,r=>by simp [bN]
 |x::l,uX,off,r0,r=>by simp only[bN]at r0 r ⊢;exact⟨r.1,JZ h b0 b x _ _ r0.2.1 r.2.1,NZ h sz b0 b l _ _ r0.2.2 r.2.2⟩
end
theorem NY{c0 c c':RC}(h:Ai c0 c c'){p0 p:Pl}{x:aS}(k0:rW c0 p0 x)(k:rW c p x):rW c' p x:=by
 cases x with
 |box cs=>obtain⟨h1,⟨⟨arr,t,h2,h3⟩,h4⟩⟩:=k;exact⟨h1,⟨arr,t,by rw[h.w];exact h2,h3⟩,JZ h _ _ cs _ _ k0.2.2 h4⟩
 |arr g sz es=>obtain⟨h1,h2,h3,h4,⟨arr,t,h5,h6⟩,h7,h8,h9⟩:=k;obtain⟨_,_,_,_,_,_,k8,_⟩:=k0;exact⟨h1,h2,h3,h4,⟨arr,t,by rw[h.w];exact h5,h6⟩,h7,NZ h sz _ _ es _ _ k8 h8,λarr t fz e=>h9 arr t fz (by rw[←h.w];exact e)⟩
 |we g sz es=>obtain⟨h1,h2,h3,h4,⟨arr,t,h5,h6⟩,h7,h8,h9⟩:=k;obtain⟨_,_,_,_,_,_,k8,_⟩:=k0;exact⟨h1,h2,h3,h4,⟨arr,t,by rw[h.w];exact h5,h6⟩,h7,NZ h sz _ _ es _ _ k8 h8,λarr t fz e=>h9 arr t fz (by rw[←h.w];exact e)⟩
 |map es=>obtain⟨h1,bC,aI,h2,hw,h3⟩:=k;obtain⟨_,_,_,_,_,k3⟩:=k0;exact⟨h1,bC,aI,by rw[h.w];exact h2,hw,N1 h es _ _ k3 h3⟩
 |it cur left=>
  obtain⟨h1,h2⟩:=k;obtain⟨_,k2⟩:=k0;refine⟨h1,?_⟩;rcases h2 with⟨h2,h2',since,seen,last,h3⟩|⟨m,seen,bC,aI,h3,h4,h5,h6,h7,h8,h9⟩
  ·exact .inl ⟨h2,h2',since,seen,last,by rw[h.w];exact h3⟩
  ·rcases k2 with⟨q1,q2,_⟩|⟨m0,atP,atJ,atB,q3,q4,q5,q6,q7,q8,q9⟩
   ·refine .inr ⟨m,seen,bC,aI,by rw[h.w];exact h3,by rw[h.w];exact h4,λk=>h5 (h.X m k),by rw[h.w];exact h6,h7,by rw[q2]at h8 ⊢;exact h8,.inl q1⟩
   ·refine .inr ⟨m,seen,bC,aI,by rw[h.w];exact h3,by rw[h.w];exact h4,λk=>h5 (h.X m k),by rw[h.w];exact h6,h7,(by obtain⟨l0,q8,_⟩:=q8;obtain⟨l,h8,hp⟩:=h8;exact⟨l,N1 h left _ _ q8 h8,hp⟩),?_⟩;rcases h9 with h9|⟨kk,v,e,e1,e2,e3,e4,e5⟩
    ·exact .inl h9
    ·rcases q9 with q9|⟨kk',v',e',f1,f2,f3,f4,f5⟩
     ·exact .inl q9
     ·rw[e1]at f1;simp only[List.cons.injEq,Prod.mk.injEq,and_true]at f1;obtain⟨rfl,rfl⟩:=f1;exact .inr ⟨_,_,e,e1,e2,e3,HU h _ _ _ f4 e4,HU h _ _ _ f5 e5⟩
def art:aS→Nat
 |.arr g _ _=>g
 |.we g _ _=>g
 |_=>0
theorem Ti{c:RC}{p:Pl}{x:aS}(k:rW c p x):p.g=art x:=by cases x<;>exact k.1
theorem abq{c0 c c':RC}(h:Ai c0 c c')(sz b:Nat):∀(l:List (List AV))(off:Nat),(∀y∈l,∃b0 o0,bI c0 b0 o0 y)→bN c sz b off l→bN c' sz b off l
 |[],off,h0,r=>by simp [bN]
 |x::l,off,h0,r=>by simp only[bN]at r ⊢;obtain⟨b0,o0,k⟩:=h0 x (by simp);exact⟨r.1,JZ h b0 b x _ _ k r.2.1,abq h sz b l _ (λy hy=>h0 y (by simp [hy])) r.2.2⟩
theorem aa8{c:RC}:∀{args:List AV}{vs:List Value},aR c args vs→∀y∈A.rowsOf args,∃b0 o0,bI c b0 o0 y
 |[],_,_,y,hy=>by simp [A.rowsOf]at hy
 |a::args,vs,h,y,hy=>by
  simp only[aR]at h;obtain⟨v,vs',rfl,h1,h2⟩:=h;simp only[A.rowsOf,kM]at hy;rcases hy with hy|hy
  ·cases a<;>simp only[List.not_mem_nil]at hy;rename_i sz es;simp only[an]at h1;obtain⟨a,cap,rfl,_,_,h3⟩:=h1;rcases h3 with h3|⟨b,off,_,_,_,h4⟩
   ·rw[h3]at hy;cases hy
   ·obtain⟨i,hi⟩:=tX.1 hy;exact⟨_,_,(bN.nth h4 hi).2⟩
  ·exact aa8 h2 y hy
theorem A7(h:zH c c' σ n):∀(d:Nat)(av dX:AV)(v:Value),A.bG σ n d av=some dX→an c av v→an c' dX v
 |0=>HY h 0 (λav dX v ho e r=>by cases av<;>first|(simp [A.bG]at e;done)|(simp [FD]at ho;done))
 |d+1=>HY h (d+1) (λav dX v ho e r=>match av,ho,e,r with
  |.op id off,_,e,r=>by
   simp only[A.bG]at e;simp only[an]at r;obtain⟨p,h1,h2,rfl⟩:=r;split at e
   ·rename_i hlt;injection e with e;subst e
    simp only[an];exact⟨p,h.E id p hlt h1,h2,rfl⟩
   ·rename_i hge;split at e
    ·rename_i cs hs;obtain⟨cs',e1,rfl⟩:=eG.1 e;rw[Kg]at e1;obtain⟨j1,⟨⟨arr,t,j2,j3⟩,j4⟩⟩:=h.heap.blk id p _ h1 hs;simp only[an];refine⟨p.b,off,rfl,by rw[h.w];exact(mw.1 j2).1,h.Pe id p (by omega) h1,?_⟩;have j5:=j4.drop off;rw[Nat.zero_add]at j5;exact HL h d (λav dX v _ e r=>A7 h d _ _ _ e r) p.b _ cs' _ e1 j5
    ·cases e
  |.oe id g i off,_,e,r=>by
   simp only[A.bG]at e;simp only[an]at r;obtain⟨hg,p,h1,h2,a,rfl,h3⟩:=r;split at e
   ·rename_i hlt;injection e with e;subst e
    simp only[an];exact⟨hg,p,h.E id p hlt h1,h2,a,rfl,h3⟩
   ·rename_i hge;split at e
    ·rename_i g' sz' es hs;split at e
     ·rename_i hc;subst hc;split at e
      ·rename_i el hel;obtain⟨cs',e1,rfl⟩:=eG.1 e;rw[Kg]at e1;obtain⟨j1,j2,j3,j4,⟨arr,bt,j5,j6⟩,j7,j8,j9⟩:=h.heap.blk id p _ h1 hs;have ha:=h3 j1.symm;subst ha;simp only[an];refine⟨p.b,_,rfl,by rw[h.w];exact(mw.1 j5).1,h.Pe id p (by omega) h1,?_⟩;rw[j3];have j9:=(j8.nth hel).2.drop off;exact HL h d (λav dX v _ e r=>A7 h d _ _ _ e r) p.b _ cs' _ e1 j9
      ·cases e
     ·cases e
    ·cases e
  |.om id,_,e,r=>by
   simp only[A.bG]at e;simp only[an]at r;obtain⟨p,h1,h2,rfl⟩:=r;split at e
   ·rename_i hlt;injection e with e;subst e
    simp only[an];exact⟨p,h.E id p hlt h1,h2,rfl⟩
   ·rename_i hge;split at e
    ·rename_i es hs;obtain⟨es',e1,rfl⟩:=eG.1 e;rw[aby]at e1;obtain⟨j1,bC,aI,j2,jw,j3⟩:=h.heap.blk id p _ h1 hs;simp only[an];exact⟨p.b,rfl,by rw[h.w];exact(mw.1 j2).1,h.Pe id p (by omega) h1,bC,aI,by rw[h.w];exact j2,jw,_,N6 h d (λav dX v _ e r=>A7 h d _ _ _ e r) _ es' _ e1 j3,.inl rfl⟩
    ·cases e
  |.os id g sz off len,_,e,r=>by
   simp only[A.bG]at e;simp only[an]at r;obtain⟨hg,p,h1,h2,q,cap,rfl,h3,r⟩:=r;split at e
   ·rename_i hlt;injection e with e;subst e
    simp only[an];exact⟨hg,p,h.E id p hlt h1,h2,q,cap,rfl,h3,r⟩
   ·rename_i hge;split at e
    ·rename_i g' sz' es hs;split at e
     ·rename_i hc;obtain⟨rfl,rfl,hle⟩:=hc;obtain⟨es',e1,rfl⟩:=eG.1 e;rw[HM]at e1;obtain⟨j1,j2,j3,j4,⟨arr,bt,j5,j6⟩,j7,j8,j9⟩:=h.heap.blk id p _ h1 hs;obtain⟨k1,k2,k3⟩:=r j1.symm;have hl:=JV d _ _ e1;have qd:((es.drop off).take len).length=len:=by simp;omega
      simp only[an];refine⟨some q,cap,by rw[hl,qd],by rw[hl,qd];exact h3,j4,?_⟩;by_cases hz:len=0
      ·left;apply xh;rw[hl,qd,hz]
      ·right
       have hq:q=⟨p.b,p.base+off*p.sz,none⟩:=by
        rcases k2 with k2|k2
        ·omega
        ·exact k2
       refine⟨p.b,p.base+off*p.sz,by rw[hq],by rw[h.w];exact(mw.1 j5).1,h.Pe id p (by omega) h1,?_⟩;refine J3 h d (λav dX v _ e r=>A7 h d _ _ _ e r) sz p.b _ es' _ e1 ?_;rw[j3];exact(j8.drop off).take len
     ·cases e
    ·cases e)
end
section
variable {c c' : RC} {σ : Heap} {n : Nat}
theorem ak0{es es':List (AV×AV)}(hp:es.Perm es'):∀{l:List MapEntry},cZ c es l→∃l',cZ c es' l'∧l'.Perm l:=by
 induction hp with
 |nil=>intro l h;exact⟨l,h,.refl _⟩
 |cons x _ ih=>intro l h;obtain⟨e,l1,rfl,h2,h3,h4⟩:=h;obtain⟨l',k1,k2⟩:=ih h4;exact⟨e::l',⟨_,_,rfl,h2,h3,k1⟩,k2.cons e⟩
 |swap x y l0=>intro l h;obtain⟨e,l1,rfl,h2,h3,e',l2,rfl,h4,h5,h6⟩:=h;exact⟨e'::e::l2,⟨_,_,rfl,h4,h5,_,_,rfl,h2,h3,h6⟩,.swap _ _ _⟩
 |trans _ _ ih1 ih2=>intro l h;obtain⟨l1,k1,k2⟩:=ih1 h;obtain⟨l2,k3,k4⟩:=ih2 k1;exact⟨l2,k3,k4.trans k2⟩
theorem Sv(es:List (AV×AV)):(A.Bn es).Perm es:=Classical.choose_spec (p:=λl:List (AV×AV)=>l.Perm es) ⟨es,.refl _⟩
theorem Zt{es es':List (AV×AV)}(h:es.Perm es'):A.Bn es=A.Bn es':=by
 have:(λl:List (AV×AV)=>l.Perm es)=λl=>l.Perm es':=funext λl=>propext ⟨λq=>q.trans h,λq=>q.trans h.symm⟩
 unfold A.Bn;congr 1
theorem amX{x:AV}{v:Value}(r:an c x v):an c (A.can x) v:=by
 cases x<;>try exact r
 case fm es=>
  unfold A.can;simp only;split
  ·rename_i hd;simp only[an]at r ⊢;obtain⟨b,e,hb,hx,bC,aI,k1,kw,l,k2,k3⟩:=r;have hp:=Sv es;obtain⟨l',j1,j2⟩:=ak0 hp.symm k2;refine⟨b,e,hb,hx,bC,aI,k1,kw,l',j1,.inr ⟨?_,?_⟩⟩
   ·rcases k3 with rfl|⟨k3,_⟩
    ·exact j2
    ·exact j2.trans k3
   ·exact⟨λp hp'=>hd.1 p (hp.mem_iff.1 hp'),(hp.map _).nodup_iff.2 hd.2⟩
  ·exact r
theorem Sr{b:Nat}:∀{l:List AV}{off:Nat},bI c b off l→bI c b off (l.map A.can)
 |[],off,_=>by simp [bI]
 |x::l,off,r=>by simp only[ef,bI]at r ⊢;obtain⟨⟨v,h1,h2,h3⟩,h4⟩:=r;exact⟨⟨v,h1,h2,amX h3⟩,Sr h4⟩
theorem Ss{sz b:Nat}:∀{l:List (List AV)}{off:Nat},bN c sz b off l→bN c sz b off (l.map (·.map A.can))
 |[],off,_=>by simp [bN]
 |x::l,off,r=>by simp only[ef,bN,List.length_map]at r ⊢;exact⟨r.1,Sr r.2.1,Ss r.2.2⟩
theorem alU(h:zH c c' σ n){p:Pl}{x x':aS}(e:A.Ei σ n x=some x')(k:rW c p x):rW c' p x':=by
 have hos:∀av dX v,FD av=true→A.bG σ n 8 av=some dX→an c av v→an c' dX v:=λav dX v _ e r=>A7 h 8 _ _ _ e r
 cases x with
 |box cs=>obtain⟨cs',e1,rfl⟩:=eG.1 e;obtain⟨h1,⟨⟨arr,t,h2,h3⟩,h4⟩⟩:=k;exact⟨h1,⟨arr,t,by rw[h.w];exact h2,by rw[List.length_map,SY 8 _ _ e1];exact h3⟩,Sr (HL h 8 hos _ _ _ _ e1 h4)⟩
 |arr g sz es=>obtain⟨es',e1,rfl⟩:=eG.1 e;obtain⟨h1,h2,h3,h4,⟨arr,t,h5,h6⟩,h7,h8,h9⟩:=k;exact⟨h1,h2,h3,h4,⟨arr,t,by rw[h.w];exact h5,h6⟩,by rw[List.length_map,JV 8 _ _ e1];exact h7,Ss (J3 h 8 hos _ _ _ _ _ e1 h8),λarr t fz e=>h9 arr t fz (by rw[←h.w];exact e)⟩
 |we g sz es=>obtain⟨es',e1,rfl⟩:=eG.1 e;obtain⟨h1,h2,h3,h4,⟨arr,t,h5,h6⟩,h7,h8,h9⟩:=k;exact⟨h1,h2,h3,h4,⟨arr,t,by rw[h.w];exact h5,h6⟩,by rw[List.length_map,JV 8 _ _ e1];exact h7,Ss (J3 h 8 hos _ _ _ _ _ e1 h8),λarr t fz e=>h9 arr t fz (by rw[←h.w];exact e)⟩
 |map es=>obtain⟨es',e1,rfl⟩:=eG.1 e;obtain⟨h1,bC,aI,h2,hwf,h3⟩:=k;exact⟨h1,bC,aI,by rw[h.w];exact h2,hwf,N6 h 8 hos _ _ _ e1 h3⟩
 |it cur left=>cases e
theorem ZF{n:Nat}:∀{P8 P9 τ:Heap},A.yA σ n P8 P9=some τ→τ.length=P8.length∧P8.length≤P9.length∧∀(i:Nat)x,τ[i]? =some x→∃b b',P8[i]? =some b∧P9[i]? =some b'∧((b'=b∧x=b)∨A.Ei σ n b'=some x)
 |[],P9,τ,h=>by simp only[A.yA]at h;injection h with h;subst h;simp
 |_::_,[],τ,h=>by simp [A.yA]at h
 |b::r,b'::r',τ,h=>by
  simp only[A.yA]at h;obtain⟨y,h1,h2⟩:=bO.1 h;obtain⟨Mu,h3,rfl⟩:=eG.1 h2;obtain⟨k1,k2,k3⟩:=ZF h3;refine⟨by simp [k1],by simp;omega,λi x hi=>?_⟩;cases i with
  |zero=>
   simp only[List.getElem?_cons_zero,Option.some.injEq]at hi;subst hi;refine⟨b,b',rfl,rfl,?_⟩;split at h1
   ·rename_i e;injection h1 with h1
    exact .inl ⟨e,h1.symm⟩
   ·exact .inr h1
  |succ i=>exact k3 i x hi
end
section
variable {X : Fx}
def tY.Ok:tY→Prop
 |.N g=>∀c a v,an c a v→an c (g a) v
 |_=>True
theorem E6(hs:eF X){f:FuncId}{fn:Func}{keep:tY}(hkeep:keep.Ok){cB:oZ}{args:List AV}{σ σ':Heap}{r:AV}(hf:X.P.funcs[f]? =some fn)(OW:∀dG w,(callFunc f dG).run X.P w=.ok (.enter f dG) w)
  (hr:uh X keep cB fn args σ=some (r,σ')):pW X.P X.nm f args σ r σ':=by
 refine .inl ⟨f,OW,λz vs hnm hlt hh ha=>?_⟩;unfold uh at hr;cases hb:fn.body with
 |none=>rw[hb]at hr;cases hr
 |some c=>
  rw[hb]at hr;simp only at hr;cases hc:(Nat.ble args.length fn.ntmps&&X.n==fn.ntmps)
  ·rw[hc]at hr;cases hr
  ·rw[hc]at hr;simp only[Bool.not_true,bE]at hr;simp only[jI,beq_iff_eq]at hc;obtain⟨hc1,wB⟩:=hc;have hle:args.length≤fn.ntmps:=Nat.le_of_ble_eq_true hc1;have Ez:=ha.length;have at3:args.length=vs.size:=by simpa using Ez
   have hst:St X z ⟨args++List.replicate (fn.ntmps-args.length) (.aM []),λ_=>none,σ⟩ {tmps:=vs++Array.replicate (fn.ntmps-vs.size) undef,defers:=[]} z.w z.E dQ:=by
    have adF:∀i av,(args++List.replicate (fn.ntmps-args.length) (.aM []))[i]? =some av→an (ctx z z.w z.E dQ) av ((vs++Array.replicate (fn.ntmps-vs.size) undef).getD i undef):=by
     intro i av hi;by_cases hlt':i<args.length
     ·rw[jg hlt']at hi;obtain⟨v,k1,k2⟩:=ha.nth hi
      have:(vs++Array.replicate (fn.ntmps-vs.size) undef).getD i undef=v:=by rw[qq,Array.getElem?_append_left (by omega),←Array.getElem?_toList,k1];rfl
      rw[this];exact k2
     ·rw[iZ (by omega)]at hi;have hm:=cS hi;rw[List.mem_replicate]at hm;rw[hm.2]
      have:(vs++Array.replicate (fn.ntmps-vs.size) undef).getD i undef=undef:=by rw[qq,Array.getElem?_append_right (by omega),Array.getElem?_replicate];split<;>rfl
      rw[this];simp only[an];exact⟨#[],rfl,by simp [aR]⟩
    refine⟨by simp;omega,by simp;omega,λi av hi=>Slot.of (adF i av hi),λi cs hi=>?_,(λt p hp=>by cases hp),(λi b hb=>by cases hb),(λi j b hb=>by cases hb),hh,rfl,?_,hnm.symm⟩
    ·have:=adF i _ hi;simp [an]at this
    ·exact⟨rfl,rfl,rfl,bD _,λ_ _ _=>rfl,λi p hp=>.inr ⟨p,hp,rfl⟩,λi p hp=>⟨p,hp,.inl rfl⟩,hlt,λp hp=>hh.lt hp⟩
   refine calls_of_wp hf hb (A6 hs c cB _ _ _ _ _ _ _ _ hr hst λe s' a' w' E' cE h' _ hk=>?_)
   have hno:Ext (ctx z w' E' cE) (ctx z w' E' dQ):=Ext.same rfl rfl (λb k=>by
    rcases k with k|k|⟨i,k⟩
    ·exact .inl k
    ·exact .inr (.inl k)
    ·cases k) rfl
   have ad5:∀(x:AV)(v:Value)(r:AV)(σ':Heap),an (ctx z w' E' cE) x v→A.fin σ x s'.σ=some (r,σ')→∃lX,Out z w' lX∧jN (ctx z w' lX dQ) σ'∧an (ctx z w' lX dQ) r v:=by
     intro x v r σ' rv k3;unfold A.fin at k3;split at k3
     ·rename_i he;simp only[Option.some.injEq,Prod.mk.injEq]at k3;obtain⟨rfl,rfl⟩:=k3;exact⟨E',h'.out,by rw[←he];exact h'.heap.mono hno rfl (λp hp=>rfl),an.mono hno _ _ rv⟩
     ·split at k3
      ·rename_i he;obtain⟨r',k6,k7⟩:=eG.1 k3;simp only[Prod.mk.injEq]at k7;obtain⟨rfl,rfl⟩:=k7;have hlen:=h'.heap.len;simp only[ctx]at hlen;have hzl:z.E.length=σ.length:=hh.len
       have hle2:σ.length≤s'.σ.length:=by have:=congrArg List.length he;simp at this;omega
       have uy:∀(id:Nat)(p:Pl),id<σ.length→E'[id]? =some p→(E'.take σ.length)[id]? =some p:=λid p hlt' hp=>by rw[List.getElem?_take_of_lt hlt'];exact hp
       have sJ:∀(id:Nat)(p:Pl),(E'.take σ.length)[id]? =some p→id<σ.length∧E'[id]? =some p:=λid p hp=>by
        rw[List.getElem?_take]at hp;split at hp
        ·exact⟨by assumption,hp⟩
        ·cases hp
       have vS:zH (ctx z w' E' cE) (ctx z w' (E'.take σ.length) dQ) s'.σ σ.length:=by
        refine⟨rfl,rfl,λb k=>?_,uy,h'.heap,λid p hge hp k=>?_⟩
        ·rcases k with k|⟨p,hp,k⟩|⟨i,k⟩
         ·exact .inl k
         ·exact .inr (.inl ⟨p,xk hp,k⟩)
         ·cases k
        ·rcases k with k|⟨q,hq,k⟩|⟨i,k⟩
         ·have hb:=hlt _ k;rcases h'.out.fresh' id p hp with e|⟨q,hq,_⟩
          ·omega
          ·rw[qt (by omega)]at hq;cases hq
         ·obtain⟨j,hj,rfl⟩:=List.mem_iff_getElem.1 hq;obtain⟨h1,h2⟩:=sJ j _ (bT hj);have:=h'.heap.inj j id _ p h2 hp k;omega
         ·cases k
       have heq:∀(id:Nat),id<σ.length→σ[id]? =s'.σ[id]? :=λid hlt'=>by have h1:(List.take σ.length s'.σ)[id]? =s'.σ[id]? :=List.getElem?_take_of_lt hlt';rw[he]at h1;exact h1
       have held:Ai (ctx z z.w z.E dQ) (ctx z w' E' cE) (ctx z w' (E'.take σ.length) dQ):=
        ⟨rfl,rfl,vS.X,λid p0 p e0 e1=>uy id p (by have:=(bM.1 e0).1;simp only[ctx]at this;omega) e1⟩
       refine⟨E'.take σ.length,?_,?_,A7 vS 8 _ _ _ k6 rv⟩
       ·have o:=h'.out
        exact⟨o.os,o.tape,o.output,o.size,o.stay,λi p hp=>o.fresh' i p (sJ i p hp).2,λi p hp=>by
         obtain⟨p',m1,m2⟩:=o.env i p hp
         exact⟨p',uy i p' (by have:=(bM.1 hp).1;omega) m1,m2⟩,o.lt,o.mine⟩
       ·refine⟨by simp only[ctx,qv];omega,λi j p q hp hq e=>h'.heap.inj i j p q (sJ i p hp).2 (sJ j q hq).2 e,λi p x hp hx=>?_⟩;obtain⟨hi,hp2⟩:=sJ i p hp;have gf:z.E[i]? =some z.E[i]:=bT (by omega);exact NY held (hh.blk i _ x gf hx) (h'.heap.blk i p x hp2 (by rw[←heq i hi];exact hx))
      ·cases k3
   have CJ:∀(x:AV)(v:Value)(r:AV)(σ':Heap),an (ctx z w' E' cE) x v→A.CJ σ x s'.σ=some (r,σ')→∃lX,Out z w' lX∧jN (ctx z w' lX dQ) σ'∧an (ctx z w' lX dQ) r v:=by
     intro x v r σ' rv k3;unfold A.CJ at k3;obtain⟨τ,q0,k4⟩:=bO.1 k3;obtain⟨r',k6,k7⟩:=eG.1 k4;simp only[Prod.mk.injEq]at k7;obtain⟨rfl,rfl⟩:=k7;obtain⟨q1,hle2,q3⟩:=ZF q0;have hlen:=h'.heap.len;simp only[ctx]at hlen;have hzl:z.E.length=σ.length:=hh.len;have uy:∀(id:Nat)(p:Pl),id<σ.length→E'[id]? =some p→(E'.take σ.length)[id]? =some p:=λid p hlt' hp=>by rw[List.getElem?_take_of_lt hlt'];exact hp
     have sJ:∀(id:Nat)(p:Pl),(E'.take σ.length)[id]? =some p→id<σ.length∧E'[id]? =some p:=λid p hp=>by
      rw[List.getElem?_take]at hp;split at hp
      ·exact⟨by assumption,hp⟩
      ·cases hp
     have vS:zH (ctx z w' E' cE) (ctx z w' (E'.take σ.length) dQ) s'.σ σ.length:=by
      refine⟨rfl,rfl,λb k=>?_,uy,h'.heap,λid p hge hp k=>?_⟩
      ·rcases k with k|⟨p,hp,k⟩|⟨i,k⟩
       ·exact .inl k
       ·exact .inr (.inl ⟨p,xk hp,k⟩)
       ·cases k
      ·rcases k with k|⟨q,hq,k⟩|⟨i,k⟩
       ·have hb:=hlt _ k;rcases h'.out.fresh' id p hp with e|⟨q,hq,_⟩
        ·omega
        ·rw[qt (by omega)]at hq;cases hq
       ·obtain⟨j,hj,rfl⟩:=List.mem_iff_getElem.1 hq;obtain⟨h1,h2⟩:=sJ j _ (bT hj);have:=h'.heap.inj j id _ p h2 hp k;omega
       ·cases k
     have held:Ai (ctx z z.w z.E dQ) (ctx z w' E' cE) (ctx z w' (E'.take σ.length) dQ):=
      ⟨rfl,rfl,vS.X,λid p0 p e0 e1=>uy id p (by have:=(bM.1 e0).1;simp only[ctx]at this;omega) e1⟩
     refine⟨E'.take σ.length,?_,?_,A7 vS 8 _ _ _ k6 rv⟩
     ·have o:=h'.out
      exact⟨o.os,o.tape,o.output,o.size,o.stay,λi p hp=>o.fresh' i p (sJ i p hp).2,λi p hp=>by
       obtain⟨p',m1,m2⟩:=o.env i p hp
       exact⟨p',uy i p' (by have:=(bM.1 hp).1;omega) m1,m2⟩,o.lt,o.mine⟩
     ·refine⟨by simp only[ctx,qv];omega,λi j p q hp hq e=>h'.heap.inj i j p q (sJ i p hp).2 (sJ j q hq).2 e,λi p x hp hx=>?_⟩;obtain⟨hi,hp2⟩:=sJ i p hp;obtain⟨b,b',m1,m2,m3⟩:=q3 i x hx;rcases m3 with⟨rfl,rfl⟩|m3
      ·have gf:z.E[i]? =some z.E[i]:=bT (by omega);exact NY held (hh.blk i _ x gf m1) (h'.heap.blk i p x hp2 m2)
      ·exact alU vS m3 (h'.heap.blk i p b' hp2 m2)
   have done:∀(hk:CR X s' fn.results.toList (λvs=>keep.run args σ (one vs) s'.σ)=some (r,σ')),
     a'.defers=[]∧∃v,(results fn a'.tmps).run X.P w'=.ok v w'∧∃v' E',Ending.returned v=.returned v'∧Out z w' E'∧jN (ctx z w' E' dQ) σ'∧an (ctx z w' E' dQ) r v':=by
    intro hk;refine⟨h'.defers,?_⟩;obtain⟨us,qc,k1,k2,k3⟩:=S6 h' _ _ _ hk;obtain⟨v,k4,k5⟩:=aiz k1;have rv:=k5 _ _ k2;refine⟨v,k4,v,?_⟩
    have kept:∃E',Ending.returned v=.returned v∧Out z w' E'∧jN (ctx z w' E' dQ) s'.σ∧an (ctx z w' E' dQ) (one qc) v:=
     ⟨E',rfl,h'.out,h'.heap.mono hno rfl (λp hp=>rfl),an.mono hno _ _ rv⟩
    cases keep with
    |K=>simp only[tY.run,Option.some.injEq,Prod.mk.injEq]at k3;obtain⟨rfl,rfl⟩:=k3;exact kept
    |F=>obtain⟨lX,q1,q2,q3⟩:=ad5 _ _ _ _ rv k3;exact⟨lX,rfl,q1,q2,q3⟩
    |G=>obtain⟨lX,q1,q2,q3⟩:=CJ _ _ _ _ rv k3;exact⟨lX,rfl,q1,q2,q3⟩
    |N g=>simp only[tY.run]at k3;obtain⟨⟨r0,aK⟩,k6,k7⟩:=eG.1 k3;simp only[Prod.mk.injEq]at k7;obtain⟨rfl,rfl⟩:=k7;obtain⟨lX,q1,q2,q3⟩:=ad5 _ _ _ _ rv k6;exact⟨lX,rfl,q1,q2,hkeep _ _ _ q3⟩
    |R=>
     simp only[tY.run]at k3;obtain⟨x,hx⟩:∃x,x=one qc:=⟨_,rfl⟩
     rw[←hx]at rv k3 kept;unfold A.renew at k3;split at k3
     ·rename_i id g sz off len;split at k3
      ·rename_i g' sz' es hs';split at k3
       ·rename_i hc;obtain⟨rfl,rfl,hle,aua⟩:=hc;simp only[an]at rv;obtain⟨hg,p,e1,e2,qa,cp,rfl,hcap,rx⟩:=rv;obtain⟨j1,j2,j3,j4,⟨arr,bt,j5,j6⟩,j7,j8,j9⟩:=h'.heap.blk id p _ e1 hs';obtain⟨q1,q2,q3⟩:=rx j1.symm;have hid:id<E'.length:=(bM.1 e1).1;have oc:((es.drop off).take len).length=len:=by simp;omega
        have hmul:(off+len)*sz≤es.length*sz:=rD _ hle;rw[gO]at hmul;split at k3
        ·simp only[Option.some.injEq,Prod.mk.injEq]at k3;obtain⟨rfl,rfl⟩:=k3
         have nM:=h'.move (id:=id) (p:=p) (p':=⟨p.b,p.base+off*sz,A.gen args+1,sz,p.uq⟩) (w':=w') (blk:=.arr (A.gen args+1) sz ((es.drop off).take len)) e1
          ⟨by omega,by show p.g<A.gen args+1;omega⟩ rfl rfl rfl (bD _) (λb _ _=>rfl) (.inl rfl) (λhx=>by
           refine⟨rfl,by show 0<A.gen args+1;omega,rfl,j4,⟨arr,bt,j5,j6⟩,?_,?_,j9⟩
           ·rw[oc];show p.base+off*sz+len*sz≤p.uq;omega
           ·exact bN.mono hx sz p.b rfl _ _ ((j8.drop off).take len))
         have arT:Ext (ctx z w' (E'.set id ⟨p.b,p.base+off*sz,A.gen args+1,sz,p.uq⟩) cE) (ctx z w' (E'.set id ⟨p.b,p.base+off*sz,A.gen args+1,sz,p.uq⟩) dQ):=Ext.same rfl rfl (λb k=>by
          rcases k with k|k|⟨i,k⟩
          ·exact .inl k
          ·exact .inr (.inl k)
          ·cases k) rfl
         refine⟨_,rfl,nM.1.out,nM.1.heap.mono arT rfl (λp hp=>rfl),?_⟩;simp only[an];refine⟨by omega,⟨p.b,p.base+off*sz,A.gen args+1,sz,p.uq⟩,by simp [ctx,hid],bD _,qa,cp,rfl,hcap,λ_=>⟨rfl,?_,?_⟩⟩
         ·rcases q2 with q2|q2
          ·exact .inl q2
          ·exact .inr (by rw[q2,q1];simp)
         ·simp only[Nat.zero_add];rw[q1,gO]at q3;omega
        ·unfold A.merge at k3;split at k3
         ·rename_i mj g0 Vp uX Vf rest _ _ _;split at k3
          ·rename_i g1 Dr An hs0;split at k3
           ·rename_i D3;obtain⟨at8,atL,rfl,hg1,hsame,hF,ar0⟩:=D3;simp only[Option.some.injEq,Prod.mk.injEq]at k3;obtain⟨rfl,rfl⟩:=k3;have hzl:z.E.length=σ.length:=hh.len;have hEl:E'.length=s'.σ.length:=h'.heap.len;have arL:mj<σ.length:=(bM.1 hs0).1;obtain⟨pz,Jd⟩:∃pz,z.E[mj]? =some pz:=⟨_,bT (by omega)⟩
            obtain⟨y1,y2,y3,y4,y5,y6,y7,y8⟩:=hh.blk mj pz _ Jd hs0;obtain⟨p'',zV⟩:∃p'':Pl,p''=⟨p.b,p.base+off*Dr,A.gen (.os mj g0 Vp uX Vf::rest)+1,Dr,p.uq⟩:=⟨_,rfl⟩
            have hne:id≠mj:=by omega
            have adA:∀(j:Nat)(q p2:Pl),j≠mj→z.E[j]? =some q→E'[j]? =some p2→p2=q:=by
             intro j q p2 hj hq hp2;have hjl:j<σ.length:=by rw[←hzl];exact(bM.1 hq).1
             obtain⟨p3,m1,m2⟩:=h'.out.env j q hq;rw[hp2]at m1;injection m1 with m1;subst m1
             rcases m2 with m2|⟨m2,m3⟩
             ·exact m2
             ·have hsj:=hsame j hjl hj;have hx0:σ[j]? =some σ[j]:=bT hjl;have u1:=Ti (hh.blk j q _ hq hx0);have u2:=Ti (h'.heap.blk j p2 _ hp2 (by rw[hsj];exact hx0));omega
            have Gw:∃p0,E'[mj]? =some p0:=⟨_,bT (by omega)⟩
            obtain⟨p0,Gw⟩:=Gw;have auc:p0.g=g1:=Ti (h'.heap.blk mj p0 _ Gw hF)
            have hfr:z.w.heap.size≤p.b:=by
             rcases h'.out.fresh' id p e1 with k|⟨q,hq,_⟩
             ·exact k
             ·rw[qt (by omega)]at hq;cases hq
            have hm:p∈E':=cS e1
            have hx:Ext (ctx z w' E' cE) (ctx z w' (E'.set mj p'') dQ):=by
             refine⟨bD _,λb hb hn=>⟨rfl,?_⟩,λj q hq=>?_,rfl⟩
             ·rintro(k|⟨q,hq,k⟩|⟨i,k⟩)
              ·exact hn (.inl k)
              ·rcases List.mem_or_eq_of_mem_set hq with hq|hq
               ·exact hn (.inr (.inl ⟨q,hq,k⟩))
               ·exact hn (.inr (.inl ⟨p,hm,by rw[←k,hq,zV]⟩))
              ·cases k
             ·by_cases e:mj=j
              ·subst e;simp only[ctx]at hq;rw[Gw]at hq;injection hq with hq;subst hq
               exact⟨p'',by simp only[ctx];rw[pZ (bM.1 Gw).1],.inr ⟨by omega,by rw[zV];show p0.g<A.gen (.os mj g0 Vp uX Vf::rest)+1;omega⟩⟩
              ·exact⟨q,by simp only[ctx]at hq ⊢;rw[List.getElem?_set_ne e];exact hq,.inl rfl⟩
            have LH:∀(j:Nat)(q:Pl),(z.E.set mj p'')[j]? =some q→(j=mj∧q=p'')∨(j≠mj∧z.E[j]? =some q):=λj q hq=>by
             by_cases e:mj=j
             ·subst e;rw[pZ (bM.1 Jd).1]at hq;injection hq with hq;exact .inl ⟨rfl,hq.symm⟩
             ·rw[List.getElem?_set_ne e]at hq;exact .inr ⟨λe'=>e e'.symm,hq⟩
            have hE3:∀(j:Nat)(q:Pl),j≠mj→z.E[j]? =some q→E'[j]? =some q:=λj q hj hq=>by have hjl:j<z.E.length:=(bM.1 hq).1;obtain⟨p3,m1,_⟩:=h'.out.env j q hq;rw[m1,adA j q p3 hj hq m1]
            have held:Ai (ctx z z.w z.E dQ) (ctx z w' (E'.set mj p'') dQ) (ctx z w' (z.E.set mj p'') dQ):=by
             refine⟨rfl,rfl,λb k=>?_,λj q0 q Wo hq=>?_⟩
             ·rcases k with k|⟨q,hq,k⟩|⟨i,k⟩
              ·exact .inl k
              ·obtain⟨j,hj⟩:=tX.1 hq;rcases LH j q hj with⟨e3,e4⟩|⟨e3,e4⟩
               ·subst e3;exact .inr (.inl ⟨q,cS (i:=j) (by rw[pZ (bM.1 Gw).1,e4]),k⟩)
               ·exact .inr (.inl ⟨q,cS (i:=j) (by rw[List.getElem?_set_ne (λe=>e3 e.symm)];exact hE3 j q e3 e4),k⟩)
              ·cases k
             ·simp only[ctx]at Wo hq ⊢;by_cases e:mj=j
              ·subst e;rw[pZ (bM.1 Gw).1]at hq;rw[pZ (bM.1 Jd).1];exact hq
              ·rw[List.getElem?_set_ne e]at hq ⊢;rw[adA j q0 q (λe'=>e e'.symm) Wo hq];exact Wo
            refine⟨z.E.set mj p'',rfl,?_,?_,?_⟩
            ·have o:=h'.out;refine⟨o.os,o.tape,o.output,o.size,o.stay,λj q hq=>?_,λj q hq=>?_,o.lt,o.mine⟩
             ·rcases LH j q hq with⟨e3,e4⟩|⟨e3,e4⟩
              ·left;rw[e4,zV];exact hfr
              ·exact .inr ⟨q,e4,rfl⟩
             ·by_cases e:mj=j
              ·subst e;rw[Jd]at hq;injection hq with hq;subst hq
               exact⟨p'',pZ (bM.1 Jd).1,.inr ⟨by omega,by rw[zV];show pz.g<A.gen (.os mj g0 Vp uX Vf::rest)+1;omega⟩⟩
              ·exact⟨q,by rw[List.getElem?_set_ne e];exact hq,.inl rfl⟩
            ·refine⟨by simp [ctx,hzl],λi j q r hq hr he=>?_,λi q x hq dz=>?_⟩
             ·have ad9:∀(j:Nat)(q:Pl),z.E[j]? =some q→q.b<z.w.heap.size:=λj q hq=>hh.lt (p:=q) (cS hq)
              rcases LH i q hq with⟨e3,e4⟩|⟨e3,e4⟩<;>rcases LH j r hr with⟨e5,e6⟩|⟨e5,e6⟩
              ·rw[e3,e5]
              ·have:=ad9 j r e6;rw[e4,zV]at he;simp only at he;omega
              ·have:=ad9 i q e4;rw[e6,zV]at he;simp only at he;omega
              ·exact hh.inj i j q r e4 e6 he
             ·rcases LH i q hq with⟨e3,e4⟩|⟨e3,e4⟩
              ·subst e3;rw[pZ arL]at dz;injection dz with dz
               subst dz;subst e4;subst zV;refine⟨rfl,Nat.succ_pos _,rfl,j4,⟨arr,bt,j5,j6⟩,?_,?_,j9⟩
               ·rw[oc];show p.base+off*Dr+len*Dr≤p.uq;omega
               ·refine abq held Dr p.b _ _ (λy hy=>?_) (bN.mono hx Dr p.b rfl _ _ ((j8.drop off).take len));rcases ar0 y hy with k|k
                ·obtain⟨i,hi⟩:=tX.1 k;exact⟨_,_,(bN.nth y7 hi).2⟩
                ·exact aa8 ha y k
              ·rw[List.getElem?_set_ne (λe=>e3 e.symm)]at dz;have hil:i<σ.length:=(bM.1 dz).1;exact NY held (hh.blk i q x e4 dz) ((h'.heap.blk i q x (hE3 i q e3 e4) (by rw[hsame i hil e3];exact dz)).mono hx rfl)
            ·simp only[an];refine⟨Nat.succ_pos _,p'',by simp only[ctx];exact pZ (bM.1 Jd).1,by rw[zV];exact bD _,qa,cp,by rw[oc],by rw[oc];exact hcap,λ_=>⟨by rw[zV],?_,?_⟩⟩
             ·rcases q2 with q2|q2
              ·exact .inl q2
              ·exact .inr (by rw[q2,q1,zV];simp)
             ·rw[zV];simp only[Nat.zero_add];rw[q1,gO]at q3;omega
           ·cases k3
          ·cases k3
         ·cases k3
       ·cases k3
      ·cases k3
     ·simp only[Option.some.injEq,Prod.mk.injEq]at k3;obtain⟨rfl,rfl⟩:=k3;exact kept
     ·simp only[Option.some.injEq,Prod.mk.injEq]at k3;obtain⟨rfl,rfl⟩:=k3;exact kept
     ·simp only[Option.some.injEq,Prod.mk.injEq]at k3;obtain⟨rfl,rfl⟩:=k3;exact kept
     ·cases k3
   cases e with
   |normal=>exact done hk
   |ret=>exact done hk
   |exit i=>cases hk
end
end
section
open Go.RowKit
inductive Sh where
 |k
 |s(sz:Nat)
 |e(sz:Nat)(l:List Sh)
 |a(l:List Sh)
 |t(l:List Sh)
 |p(l:List Sh)
namespace A
mutual
def nn:Sh→AV→AV
 |.k,v=>v
 |.s sz,v=>match v with|.az=>.sl sz []|.ez=>.sl sz []|v=>v
 |.e sz l,v=>match v with|.az=>.sl sz []|.ez=>.sl sz []|.sl sz' es=>.sl sz' (es.map (cG l))|v=>v
 |.a l,v=>match v with|.agg cs=>.agg (cG l cs)|v=>v
 |.t l,v=>match v with|.aM vs=>.aM (cG l vs)|v=>v
 |.p l,v=>match v with|.rp cs=>.rp (cG l cs)|v=>v
def cG:List Sh→List AV→List AV
 |[],vs=>vs
 |s::ss,vs=>match vs with|[]=>[]|v::vs=>nn s v::cG ss vs
end
def Vh:AV→Bool
 |.os ..=>true
 |.op ..=>true
 |.oe ..=>true
 |.om ..=>true
 |_=>false
def own:AV→Bool
 |.agg cs=>cs.any Vh
 |v=>Vh v
def yD:AV→Bool
 |.int ..=>true
 |.bool ..=>true
 |.str ..=>true
 |.np=>true
 |.az=>true
 |.ez=>true
 |.nm=>true
 |.BG=>true
 |.sl _ []=>true
 |_=>false
def xe:AV→Bool
 |.agg cs=>cs.all yD
 |v=>yD v
def F5:AV→Bool
 |.aM vs=>vs.all xe
 |v=>xe v
def fresh(v:AV):Bool:=match v with
 |.os ..=>true
 |.om _=>true
 |v=>xe v
def Ca:AV→Bool
 |.aM vs=>vs.all fresh
 |v=>fresh v
def Kr:aS→Bool
 |.box cs=>cs.all yD
 |.arr _ _ es=>es.all λe=>e.all yD
 |.map es=>es.all λp=>xe p.1&&xe p.2
 |_=>false
def shift(n:Nat)(v:AV):AV:=match v with
 |.os id g sz off len=>.os (id+n) g sz off len
 |.om id=>.om (id+n)
 |v=>v
def Bf(n:Nat):AV→AV
 |.aM vs=>.aM (vs.map (shift n))
 |v=>shift n v
noncomputable def wrap (ro:Bool) (gD:List Sh) (ig:Sh) (r:List AV→Heap→Option (AV×Heap)) (args:List AV) (σ:Heap):Option (AV×Heap):=bif ro&&args.any own then (ga σ 0 8 args).bind λargs=>(r (cG gD args) []).bind λq=>bif Ca (nn ig q.1)&&q.2.all Kr then some (Bf σ.length (nn ig q.1),σ++q.2)else none else(r (cG gD args) σ).map λq=>(nn ig q.1,q.2)
noncomputable def jB (sh:Sh) (m:List AV→Heap→Option (AV×Heap)) (args:List AV) (σ:Heap):Option (AV×Heap):=(m args σ).bind λp=>(fin σ p.1 p.2).map λq=>(nn sh q.1,q.2)
noncomputable def tM (m:List AV→Heap→Option (AV×Heap)) (args:List AV) (σ:Heap):Option (AV×Heap):=match args with
 |[.sl _ []]=>some (.ez,σ)
 |[.az]=>some (.ez,σ)
 |[.ez]=>some (.ez,σ)
 |[.os _ _ _ _ 0]=>some (.ez,σ)
 |_=>m args σ
end A
def Sound(P:Program)(nm:List Nat)(f:FuncId)(m:List AV→Heap→Option (AV×Heap)):Prop:=∀args σ r σ',m args σ=some (r,σ')→pW P nm f args σ r σ'
section
variable {P : Program} {nm : List Nat} {f : FuncId} {c c' : RC}
theorem acK{v:Value}(sz:Nat)(hsz:0<sz)(h:an c .az v):an c (.sl sz []) v:=by simp only[an]at h ⊢;subst h;exact⟨none,0,rfl,bD _,hsz,.inl trivial⟩
theorem adv{v:Value}(sz:Nat)(hsz:0<sz)(h:an c .ez v):an c (.sl sz []) v:=by simp only[an]at h ⊢;obtain⟨a,rfl⟩:=h;exact⟨a,0,rfl,bD _,hsz,.inl trivial⟩
mutual
def Sh.ok:Sh→Bool
 |.k=>true
 |.s sz=>Nat.blt 0 sz
 |.e sz l=>Nat.blt 0 sz&&Sh.gu l
 |.a l=>Sh.gu l
 |.t l=>Sh.gu l
 |.p l=>Sh.gu l
def Sh.gu:List Sh→Bool
 |[]=>true
 |x::l=>x.ok&&Sh.gu l
end
theorem abF:∀(l:List Sh)(cs:List AV),(A.cG l cs).length=cs.length
 |[],cs=>by simp [A.cG]
 |_::_,[]=>by simp [A.cG]
 |o::l,v::cs=>by simp [A.cG,abF l cs]
mutual
theorem Fw:∀(s:Sh)(a:AV)(v:Value),s.ok=true→an c a v→an c (A.nn s a) v
 |.k,a,v,_,h=>by simpa [A.nn]using h
 |.s sz,a,v,ho,h=>by cases a<;>simp only[A.nn]<;>first|exact h|exact acK sz (by simpa [Sh.ok]using ho) h|exact adv sz (by simpa [Sh.ok]using ho) h
 |.e sz l,a,v,ho,h=>by
  simp only[Sh.ok,jI]at ho;cases a<;>simp only[A.nn]<;>first|exact h|exact acK sz (by simpa using ho.1) h|exact adv sz (by simpa using ho.1) h|skip
  simp only[an]at h ⊢;obtain⟨a,cap,e,h1,h2,h3⟩:=h;refine⟨a,cap,by rw[List.length_map];exact e,by rw[List.length_map];exact h1,h2,?_⟩;rcases h3 with h3|⟨b,off,e1,e2,e3,e4⟩
  ·left;rw[h3];rfl
  ·right;exact⟨b,off,e1,e2,e3,acJ l ho.2 _ _ e4⟩
 |.a l,a,v,ho,h=>by
  simp only[Sh.ok]at ho;cases a<;>simp only[A.nn]<;>first|exact h|skip
  simp only[an]at h ⊢;obtain⟨vs,e,h1,h2⟩:=h;exact⟨vs,e,Kj l _ _ ho h1,h2⟩
 |.t ss,a,v,ho,h=>by
  simp only[Sh.ok]at ho;cases a<;>simp only[A.nn]<;>first|exact h|skip
  simp only[an]at h ⊢;obtain⟨vs,e,h1⟩:=h;exact⟨vs,e,Kj ss _ _ ho h1⟩
 |.p l,a,v,ho,h=>by
  simp only[Sh.ok]at ho;cases a<;>simp only[A.nn]<;>first|exact h|skip
  simp only[an]at h ⊢;obtain⟨b,off,e,h1,h2,h3⟩:=h;exact⟨b,off,e,h1,h2,TT l _ _ ho h3⟩
theorem Kj:∀(ss:List Sh)(l:List AV)(vs:List Value),Sh.gu ss=true→aR c l vs→aR c (A.cG ss l) vs
 |[],l,vs,_,h=>by simpa [A.cG]using h
 |_::_,[],vs,_,h=>by simpa [A.cG]using h
 |s::ss,a::l,vs,ho,h=>by simp only[Sh.gu,jI]at ho;simp only[A.cG,aR]at h ⊢;obtain⟨v,vs',e,h1,h2⟩:=h;exact⟨v,vs',e,Fw s a v ho.1 h1,Kj ss l vs' ho.2 h2⟩
theorem TT{b:Nat}:∀(l:List Sh)(cs:List AV)(off:Nat),Sh.gu l=true→bI c b off cs→bI c b off (A.cG l cs)
 |[],cs,off,_,h=>by simpa [A.cG]using h
 |_::_,[],off,_,h=>by simpa [A.cG]using h
 |o::l,a::cs,off,ho,h=>by simp only[Sh.gu,jI]at ho;simp only[A.cG,bI]at h ⊢;obtain⟨⟨v,h1,h2,h3⟩,h4⟩:=h;exact⟨⟨v,h1,h2,Fw o a v ho.1 h3⟩,TT l cs (off+1) ho.2 h4⟩
theorem acJ{sz b:Nat}(l:List Sh)(hl:Sh.gu l=true):∀(es:List (List AV))(off:Nat),bN c sz b off es→bN c sz b off (es.map (A.cG l))
 |[],off,h=>by simp [bN]
 |e::es,off,h=>by simp only[ef,bN]at h ⊢;exact⟨by rw[abF];exact h.1,TT l e off hl h.2.1,acJ l hl es _ h.2.2⟩
end
theorem SL:∀{a:AV}{v:Value},A.yD a=true→an c a v→an c' a v:=by
 intro a v h r;cases a<;>simp only[A.yD]at h<;>first|(cases h;done)|skip
 case sl sz es=>
  cases es with
  |nil=>simp only[an]at r ⊢;obtain⟨q,cap,e,h1,h2,_⟩:=r;exact⟨q,cap,e,h1,h2,.inl trivial⟩
  |cons _ _=>simp at h
 all_goals simpa [an]using r
theorem Zf:∀{l:List AV}{vs:List Value},l.all A.yD=true→aR c l vs→aR c' l vs
 |[],vs,_,r=>by simpa [aR]using r
 |a::l,vs,h,r=>by simp only[List.all_cons,jI]at h;simp only[aR]at r ⊢;obtain⟨v,vs',e,h1,h2⟩:=r;exact⟨v,vs',e,SL h.1 h1,Zf h.2 h2⟩
theorem SM{a:AV}{v:Value}(h:A.xe a=true)(r:an c a v):an c' a v:=by
 unfold A.xe at h;split at h
 ·simp only[an]at r ⊢;obtain⟨vs,e,h1,h2⟩:=r;exact⟨vs,e,Zf h h1,h2⟩
 ·exact SL h r
theorem pW.conv{args args':List AV}{σ σ':Heap}{r r':AV}(h:pW P nm f args' σ r σ')(ha:∀c vs,aR c args vs→aR c args' vs)(hr:∀c v,an c r v→an c r' v):pW P nm f args σ r' σ':=by
 rcases h with⟨g,h1,h2⟩|h
 ·refine .inl ⟨g,h1,λz vs e1 e2 e3 e4=>(h2 z vs e1 e2 e3 (ha _ _ e4)).mono ?_⟩;rintro e w' ⟨v,E',k1,k2,k3,k4⟩;exact⟨v,E',k1,k2,k3,hr _ _ k4⟩
 ·refine .inr λz vs e1 e2 e3 e4=>?_
  obtain⟨v,w',E',k1,k2,k3,k4⟩:=h z vs e1 e2 e3 (ha _ _ e4);exact⟨v,w',E',k1,k2,k3,hr _ _ k4⟩
theorem aac{z0 z:Z}{w':World}{E':List Pl}{n:Nat}(hn:n=z.E.length){a:AV}{v:Value}(h:A.fresh a=true)(r:an (ctx z0 w' E' dQ) a v):an (ctx z w' (z.E++E') dQ) (A.shift n a) v:=by
 have key:∀(id:Nat)(p:Pl),E'[id]? =some p→(z.E++E')[id+n]? =some p:=λid p hp=>by rw[iZ (by omega),hn,Nat.add_sub_cancel];exact hp
 unfold A.fresh at h;unfold A.shift;split at h
 ·simp only[an]at r ⊢;obtain⟨hg,p,h1,h2,r⟩:=r;exact⟨hg,p,key _ _ h1,h2,r⟩
 ·simp only[an]at r ⊢;obtain⟨p,h1,h2,r⟩:=r;exact⟨p,key _ _ h1,h2,r⟩
 ·exact SM h r
theorem aiH{z0 z:Z}{w':World}{E':List Pl}{n:Nat}(hn:n=z.E.length){vs:List AV}{v:Value}(h:vs.all A.fresh=true)(r:an (ctx z0 w' E' dQ) (.aM vs) v):an (ctx z w' (z.E++E') dQ) (A.Bf n (.aM vs)) v:=by
 simp only[an,A.Bf]at r ⊢;obtain⟨us,rfl,r⟩:=r;refine⟨us,rfl,?_⟩;generalize us.toList=us' at r ⊢;induction vs generalizing us' with
 |nil=>simpa [aR]using r
 |cons x l ih=>simp only[List.all_cons,jI]at h;simp only[aR,ef]at r ⊢;obtain⟨v,vs',e,h1,h2⟩:=r;exact⟨v,vs',e,aac hn h.1 h1,ih h.2 _ h2⟩
theorem ajW{z0 z:Z}{w':World}{E':List Pl}{n:Nat}(hn:n=z.E.length){a:AV}{v:Value}(h:A.Ca a=true)(r:an (ctx z0 w' E' dQ) a v):an (ctx z w' (z.E++E') dQ) (A.Bf n a) v:=by
 by_cases ht:∃vs,a=.aM vs
 ·obtain⟨vs,rfl⟩:=ht;exact aiH hn h r
 ·have e1:A.Ca a=A.fresh a:=by cases a<;>first|rfl|exact absurd ⟨_,rfl⟩ ht
  have e2:A.Bf n a=A.shift n a:=by cases a<;>first|rfl|exact absurd ⟨_,rfl⟩ ht
  rw[e1]at h;rw[e2];exact aac hn h r
theorem RX{b:Nat}:∀{l:List AV}{off:Nat},l.all A.yD=true→c'.w=c.w→bI c b off l→bI c' b off l
 |[],off,_,_,_=>by simp [bI]
 |a::l,off,h,hw,r=>by simp only[List.all_cons,jI]at h;simp only[bI]at r ⊢;obtain⟨⟨v,h1,h2,h3⟩,h4⟩:=r;exact⟨⟨v,by rw[hw];exact h1,h2,SL h.1 h3⟩,RX h.2 hw h4⟩
theorem YF{sz b:Nat}:∀{l:List (List AV)}{off:Nat},(l.all λe=>e.all A.yD)=true→c'.w=c.w→bN c sz b off l→bN c' sz b off l
 |[],off,_,_,_=>by simp [bN]
 |a::l,off,h,hw,r=>by simp only[List.all_cons,jI]at h;simp only[bN]at r ⊢;obtain⟨h1,h2,h3⟩:=r;exact⟨h1,RX h.1 hw h2,YF h.2 hw h3⟩
theorem Zg:∀{l:List (AV×AV)}{es:List MapEntry},(l.all λp=>A.xe p.1&&A.xe p.2)=true→cZ c l es→cZ c' l es
 |[],es,_,r=>by simpa [cZ]using r
 |(k,v)::l,es,h,r=>by simp only[List.all_cons,jI]at h;simp only[cZ]at r ⊢;obtain⟨e,es',h1,h2,h3,h4⟩:=r;exact⟨e,es',h1,SM h.1.1 h2,SM h.1.2 h3,Zg h.2 h4⟩
theorem ajb{p:Pl}{x:aS}(h:A.Kr x=true)(hw:c'.w=c.w)(r:rW c p x):rW c' p x:=by
 cases x with
 |box cs=>obtain⟨h1,⟨⟨arr,t,h2,h3⟩,h4⟩⟩:=r;exact⟨h1,⟨arr,t,by rw[hw];exact h2,h3⟩,RX h hw h4⟩
 |arr g sz es=>obtain⟨h1,h2,h3,h4,⟨arr,t,h5,h6⟩,h7,h8,h9⟩:=r;exact⟨h1,h2,h3,h4,⟨arr,t,by rw[hw];exact h5,h6⟩,h7,YF h hw h8,λarr t fz e=>h9 arr t fz (by rw[←hw];exact e)⟩
 |map es=>obtain⟨h1,bC,aI,h2,hwf,h3⟩:=r;exact⟨h1,bC,aI,by rw[hw];exact h2,hwf,Zg h h3⟩
 |we g sz es=>cases h
 |it cur left=>cases h
theorem aaO{z:Z}{σ σ':Heap}{r:AV}{v:Value}{w':World}{E':List Pl}(e2:∀b,z.X b→b<z.w.heap.size)(hh:jN (ctx z z.w z.E dQ) σ)(hv:A.Ca r=true)(hb:σ'.all A.Kr=true)
  (k2:Out ⟨z.w,[],λ_=>False,z.nm⟩ w' E') (k3:jN (ctx ⟨z.w,[],λ_=>False,z.nm⟩ w' E' dQ) σ') (k4:an (ctx ⟨z.w,[],λ_=>False,z.nm⟩ w' E' dQ) r v):
  ∃lX,Out z w' lX∧jN (ctx z w' lX dQ) (σ++σ')∧an (ctx z w' lX dQ) (A.Bf σ.length r) v:=by
 have hlen:z.E.length=σ.length:=hh.len;have hlen':E'.length=σ'.length:=k3.len;have hst:∀b,b<z.w.heap.size→w'.heap[b]? =z.w.heap[b]? :=λb hb=>k2.stay b hb (λp hp=>by cases hp)
 have hlt:∀p∈z.E,p.b<z.w.heap.size:=λp hp=>hh.lt hp
 have hfr:∀p∈E',z.w.heap.size≤p.b:=λp hp=>by
  rcases k2.fresh p hp with k|⟨q,hq,_⟩
  ·exact k
  ·cases hq
 have hx:Ext (ctx z z.w z.E dQ) (ctx z w' (z.E++E') dQ):=by
  refine⟨k2.size,λb hb hn=>⟨hst b hb,?_⟩,λi p hp=>⟨p,?_,.inl rfl⟩,rfl⟩
  ·rintro(k|⟨p,hp,k⟩|⟨i,k⟩)
   ·exact hn (.inl k)
   ·rcases kM.1 hp with hp|hp
    ·exact hn (.inr (.inl ⟨p,hp,k⟩))
    ·have:=hfr p hp;simp only[ctx]at hb;omega
   ·cases k
  ·simp only[ctx]at hp ⊢;rw[jg (bM.1 hp).1];exact hp
 have key:∀(i:Nat)(p:Pl),(z.E++E')[i]? =some p→(i<z.E.length∧z.E[i]? =some p)∨(z.E.length≤i∧E'[i-z.E.length]? =some p):=λi p hp=>by
  by_cases hi:i<z.E.length
  ·rw[jg hi]at hp;exact .inl ⟨hi,hp⟩
  ·rw[iZ (by omega)]at hp;exact .inr ⟨by omega,hp⟩
 refine⟨z.E++E',⟨k2.os,k2.tape,k2.output,k2.size,λb hb _=>hst b hb,λi p hp=>?_,λi p hp=>⟨p,?_,.inl rfl⟩,e2,hlt⟩,⟨by simp [ctx,hlen,hlen'],λi j p q hp hq e=>?_,λi p x hp dz=>?_⟩,ajW hlen.symm hv k4⟩
 ·rcases key i p hp with⟨_,k⟩|⟨_,k⟩
  ·exact .inr ⟨p,k,rfl⟩
  ·exact .inl (hfr p (cS k))
 ·rw[jg (bM.1 hp).1];exact hp
 ·simp only[ctx]at hp hq;rcases key i p hp with⟨i1,k⟩|⟨i1,k⟩<;>rcases key j q hq with⟨j1,m⟩|⟨j1,m⟩
  ·exact hh.inj i j p q k m e
  ·have:=hlt p (cS k);have:=hfr q (cS m);omega
  ·have:=hlt q (cS m);have:=hfr p (cS k);omega
  ·have:=k3.inj _ _ p q k m e;omega
 ·simp only[ctx]at hp;rcases key i p hp with⟨i1,k⟩|⟨i1,k⟩
  ·rw[jg (by omega)]at dz;exact(hh.blk i p x k dz).mono hx (hst _ (hlt p (cS k)))
  ·rw[iZ (by omega),←hlen]at dz;exact ajb (c:=ctx ⟨z.w,[],λ_=>False,z.nm⟩ w' E' dQ) (vX.1 hb x (cS dz)) rfl (k3.blk _ p x k dz)
theorem pW.zY{args args':List AV}{σ σ':Heap}{r:AV}(h:pW P nm f args' [] r σ')(ha:A.ga σ 0 8 args=some args')(hv:A.Ca r=true)(hb:σ'.all A.Kr=true):pW P nm f args σ (A.Bf σ.length r) (σ++σ'):=by
 have hX:∀(z:Z)b,¬(ctx ⟨z.w,[],λ_=>False,z.nm⟩ z.w [] dQ).X b:=by
  rintro z b (k|⟨p,hp,_⟩|⟨i,k⟩)
  ·exact k.elim
  ·cases hp
  ·cases k
 have vS:∀(z:Z),jN (ctx z z.w z.E dQ) σ→zH (ctx z z.w z.E dQ) (ctx ⟨z.w,[],λ_=>False,z.nm⟩ z.w [] dQ) σ 0:=λz hh=>
  ⟨rfl,rfl,λb k=>(hX z b k).elim,λid p k=>absurd k (Nat.not_lt_zero _),hh,λid p _ _=>hX z _⟩
 have h0:∀(z:Z),jN (ctx ⟨z.w,[],λ_=>False,z.nm⟩ z.w [] dQ) []:=λz=>by
  refine⟨rfl,λi j p q hp=>?_,λi p x hp=>?_⟩
  ·simp [ctx]at hp
  ·simp [ctx]at hp
 rcases h with⟨g,h1,h2⟩|h2
 ·refine .inl ⟨g,h1,λz vs e1 e2 hh e4=>?_⟩;have ha':aR (ctx ⟨z.w,[],λ_=>False,z.nm⟩ z.w [] dQ) args' vs.toList:=HN (vS z hh) 8 (λav dX v _ e r=>A7 (vS z hh) 8 _ _ _ e r) _ _ _ ha e4;refine(h2 ⟨z.w,[],λ_=>False,z.nm⟩ vs e1 (λb k=>k.elim) (h0 z) ha').mono ?_;rintro e w' ⟨v,E',k1,k2,k3,k4⟩;obtain⟨lX,q1,q2,q3⟩:=aaO e2 hh hv hb k2 k3 k4;exact⟨v,lX,k1,q1,q2,q3⟩
 ·refine .inr λz vs e1 e2 hh e4=>?_
  have ha':aR (ctx ⟨z.w,[],λ_=>False,z.nm⟩ z.w [] dQ) args' vs.toList:=HN (vS z hh) 8 (λav dX v _ e r=>A7 (vS z hh) 8 _ _ _ e r) _ _ _ ha e4;obtain⟨v,w',E',k1,k2,k3,k4⟩:=h2 ⟨z.w,[],λ_=>False,z.nm⟩ vs e1 (λb k=>k.elim) (h0 z) ha';obtain⟨lX,q1,q2,q3⟩:=aaO e2 hh hv hb k2 k3 k4;exact⟨v,w',lX,k1,q1,q2,q3⟩
theorem abv{z:Z}{w':World}{E':List Pl}{σ σ1 σ':Heap}{x r:AV}{v:Value}(hh:jN (ctx z z.w z.E dQ) σ)(hlt:∀b,z.X b→b<z.w.heap.size)(ho:Out z w' E')(hr:jN (ctx z w' E' dQ) σ1)(rv:an (ctx z w' E' dQ) x v)(k3:A.fin σ x σ1=some (r,σ')):
  ∃lX,Out z w' lX∧jN (ctx z w' lX dQ) σ'∧an (ctx z w' lX dQ) r v:=by
 unfold A.fin at k3;split at k3
 ·rename_i he;simp only[Option.some.injEq,Prod.mk.injEq]at k3;obtain⟨rfl,rfl⟩:=k3;exact⟨E',ho,by rw[←he];exact hr,rv⟩
 ·split at k3
  ·rename_i he;obtain⟨r',k6,k7⟩:=eG.1 k3;simp only[Prod.mk.injEq]at k7;obtain⟨rfl,rfl⟩:=k7;have hlen:=hr.len;simp only[ctx]at hlen;have hzl:z.E.length=σ.length:=hh.len
   have hle2:σ.length≤σ1.length:=by have:=congrArg List.length he;simp at this;omega
   have uy:∀(id:Nat)(p:Pl),id<σ.length→E'[id]? =some p→(E'.take σ.length)[id]? =some p:=λid p hlt' hp=>by rw[List.getElem?_take_of_lt hlt'];exact hp
   have sJ:∀(id:Nat)(p:Pl),(E'.take σ.length)[id]? =some p→id<σ.length∧E'[id]? =some p:=λid p hp=>by
    rw[List.getElem?_take]at hp;split at hp
    ·exact⟨by assumption,hp⟩
    ·cases hp
   have vS:zH (ctx z w' E' dQ) (ctx z w' (E'.take σ.length) dQ) σ1 σ.length:=by
    refine⟨rfl,rfl,λb k=>?_,uy,hr,λid p hge hp k=>?_⟩
    ·rcases k with k|⟨p,hp,k⟩|⟨i,k⟩
     ·exact .inl k
     ·exact .inr (.inl ⟨p,xk hp,k⟩)
     ·cases k
    ·rcases k with k|⟨q,hq,k⟩|⟨i,k⟩
     ·have hb:=hlt _ k;rcases ho.fresh' id p hp with e|⟨q,hq,_⟩
      ·omega
      ·rw[qt (by omega)]at hq;cases hq
     ·obtain⟨j,hj,rfl⟩:=List.mem_iff_getElem.1 hq;obtain⟨h1,h2⟩:=sJ j _ (bT hj);have:=hr.inj j id _ p h2 hp k;omega
     ·cases k
   have heq:∀(id:Nat),id<σ.length→σ[id]? =σ1[id]? :=λid hlt'=>by have h1:(List.take σ.length σ1)[id]? =σ1[id]? :=List.getElem?_take_of_lt hlt';rw[he]at h1;exact h1
   have held:Ai (ctx z z.w z.E dQ) (ctx z w' E' dQ) (ctx z w' (E'.take σ.length) dQ):=
    ⟨rfl,rfl,vS.X,λid p0 p e0 e1=>uy id p (by have:=(bM.1 e0).1;simp only[ctx]at this;omega) e1⟩
   refine⟨E'.take σ.length,?_,?_,A7 vS 8 _ _ _ k6 rv⟩
   ·have o:=ho
    exact⟨o.os,o.tape,o.output,o.size,o.stay,λi p hp=>o.fresh' i p (sJ i p hp).2,λi p hp=>by
     obtain⟨p',m1,m2⟩:=o.env i p hp
     exact⟨p',uy i p' (by have:=(bM.1 hp).1;omega) m1,m2⟩,o.lt,o.mine⟩
   ·refine⟨by simp only[ctx,qv];omega,λi j p q hp hq e=>hr.inj i j p q (sJ i p hp).2 (sJ j q hq).2 e,λi p x hp hx=>?_⟩;obtain⟨hi,hp2⟩:=sJ i p hp;have gf:z.E[i]? =some z.E[i]:=bT (by omega);exact NY held (hh.blk i _ x gf hx) (hr.blk i p x hp2 (by rw[←heq i hi];exact hx))
  ·cases k3
theorem Sound.jB{m:List AV→Heap→Option (AV×Heap)}(h:Sound P nm f m)(sh:Sh)(hs:sh.ok=true):Sound P nm f (A.jB sh m):=by
 intro args σ r σ' e;unfold A.jB at e;obtain⟨⟨x,σ1⟩,e1,e2⟩:=bO.1 e;obtain⟨⟨y,σ2⟩,e3,e4⟩:=eG.1 e2;simp only[Prod.mk.injEq]at e4;obtain⟨rfl,rfl⟩:=e4;rcases h _ _ _ _ e1 with⟨g,h1,h2⟩|h2
 ·refine .inl ⟨g,h1,λz vs k1 k2 hh k4=>?_⟩;refine(h2 z vs k1 k2 hh k4).mono ?_;rintro e w' ⟨v,E',q1,q2,q3,q4⟩;obtain⟨lX,p1,p2,p3⟩:=abv hh k2 q2 q3 q4 e3;exact⟨v,lX,q1,p1,p2,Fw _ _ _ hs p3⟩
 ·refine .inr λz vs k1 k2 hh k4=>?_
  obtain⟨v,w',E',q1,q2,q3,q4⟩:=h2 z vs k1 k2 hh k4;obtain⟨lX,p1,p2,p3⟩:=abv hh k2 q2 q3 q4 e3;exact⟨v,w',lX,q1,p1,p2,Fw _ _ _ hs p3⟩
theorem Sound.wrap{r:List AV→Heap→Option (AV×Heap)}(h:Sound P nm f r)(ro:Bool)(gD:List Sh)(ig:Sh)(hi:Sh.gu gD=true)(ho:ig.ok=true):Sound P nm f (A.wrap ro gD ig r):=by
 intro args σ v σ' e;unfold A.wrap at e;cases hc:(ro&&args.any A.own)
 ·rw[hc]at e;simp only[bE]at e;obtain⟨q,e1,e2⟩:=eG.1 e;injection e2 with e2 e3
  subst e2 e3;exact(h _ _ _ _ e1).conv (λc vs k=>Kj _ _ _ hi k) (λc v k=>Fw _ _ _ ho k)
 ·rw[hc]at e;simp only[ck]at e;obtain⟨args',e1,e2⟩:=bO.1 e;obtain⟨q,e3,e4⟩:=bO.1 e2;obtain⟨q1,q2⟩:=q;simp only at e4;cases hs:(A.Ca (A.nn ig q1)&&q2.all A.Kr)
  ·rw[hs]at e4;cases e4
  ·rw[hs]at e4;simp only[ck,Option.some.injEq,Prod.mk.injEq]at e4;obtain⟨rfl,rfl⟩:=e4;simp only[jI]at hs;exact((h _ _ _ _ e3).conv (args:=args') (λc vs k=>Kj _ _ _ hi k) (λc v k=>Fw _ _ _ ho k)).zY e1 hs.1 hs.2
end
theorem eF.of{X:Fx}{t:List (FuncId×(List AV→Heap→Option (AV×Heap)))}(hc:X.call=A.tab (λ_ _=>none) t) (ht:∀p∈t,Sound X.P X.nm p.1 p.2) (hd:∀f,Sound X.P X.nm f (X.dyn (X.nm.getD f 0))):eF X:=by
 refine⟨λf args σ r σ' h=>?_,λf=>hd f⟩;rw[hc]at h;clear hc;induction t with
 |nil=>cases h
 |cons p t ih=>
  obtain⟨m,x⟩:=p;simp only[A.tab]at h;cases hm:(f==m)
  ·rw[hm]at h;exact ih (λp hp=>ht p (rE _ hp)) h
  ·rw[hm]at h;have:f=m:=by simpa using hm
   subst this;exact ht (f,x) (List.mem_cons_self) _ _ _ _ h
theorem Sound.none{P:Program}{nm:List Nat}{f:FuncId}:Sound P nm f (λ_ _=>Option.none):=λ_ _ _ _ h=>by cases h
theorem aJ.nil{P:Program}{nm:List Nat}:∀p∈([]:List (FuncId×(List AV→Heap→Option (AV×Heap)))),Sound P nm p.1 p.2:=λ_ h=>by cases h
theorem aJ.cons{P:Program}{nm:List Nat}{f:FuncId}{m:List AV→Heap→Option (AV×Heap)}{l:List (FuncId×(List AV→Heap→Option (AV×Heap)))}(h:Sound P nm f m)(t:∀p∈l,Sound P nm p.1 p.2):∀p∈(f,m)::l,Sound P nm p.1 p.2:=
 λp hp=>by rcases jY.1 hp with rfl|hp;exact h;exact t p hp
theorem jA.nil{P:Program}{nm:List Nat}:∀p∈([]:List (Nat×(List AV→Heap→Option (AV×Heap)))),∀f,nm.getD f 0=p.1→Sound P nm f p.2:=λ_ h=>by cases h
theorem jA.cons{P:Program}{nm:List Nat}{k:Nat}{m:List AV→Heap→Option (AV×Heap)}{l:List (Nat×(List AV→Heap→Option (AV×Heap)))}(h:∀f,nm.getD f 0=k→Sound P nm f m)(t:∀p∈l,∀f,nm.getD f 0=p.1→Sound P nm f p.2):∀p∈(k,m)::l,∀f,nm.getD f 0=p.1→Sound P nm f p.2:=
 λp hp=>by rcases jY.1 hp with rfl|hp;exact h;exact t p hp
theorem rU{P:Program}{nm:List Nat}{t:List (Nat×(List AV→Heap→Option (AV×Heap)))}(ht:∀p∈t,∀f,nm.getD f 0=p.1→Sound P nm f p.2)(f:FuncId):Sound P nm f (A.tab (λ_ _=>Option.none) t (nm.getD f 0)):=by
 induction t with
 |nil=>exact Sound.none
 |cons p t ih=>
  obtain⟨k,x⟩:=p;simp only[A.tab];cases hm:(nm.getD f 0==k)
  ·exact ih (λp hp=>ht p (rE _ hp))
  ·exact ht (k,x) List.mem_cons_self f (by simpa using hm)
theorem OQ{nm:List Nat}{k g:Nat}(h:(nm.zipIdx.filter λp=>p.1==k)=[(k,g)]) (hk:(0==k)=false) {f:Nat} (hf:nm.getD f 0=k):f=g:=by
 have hlt:f<nm.length:=by
  rcases Nat.lt_or_ge f nm.length with e|e
  ·exact e
  ·simp only[List.getD,qt e,Option.getD_none]at hf;subst hf;simp at hk
 have:(k,f)∈nm.zipIdx.filter λp=>p.1==k:=by refine List.mem_filter.2 ⟨tX.2 ⟨f,?_⟩,by simp⟩;simp only[List.getD]at hf;rw[bT hlt]at hf;simp [bT hlt,←hf]
 rw[h]at this;simpa using this
theorem pQ{P:Program}{nm:List Nat}{k g:Nat}{m:List AV→Heap→Option (AV×Heap)}(hs:Sound P nm g m)(h:(nm.zipIdx.filter λp=>p.1==k)=[(k,g)]) (hk:(0==k)=false):∀f,nm.getD f 0=k→Sound P nm f m:=
 λf hf=>by have e:=OQ h hk hf;subst e;exact hs
def fuel(F:(Nat→List AV→Heap→Option (AV×Heap))→List (Nat×(List AV→Heap→Option (AV×Heap)))):Nat→Nat→List AV→Heap→Option (AV×Heap)
 |0,_=>λ_ _=>none
 |n+1,k=>A.tab (λ_ _=>none) (F (fuel F n)) k
namespace A
def dH(f:AV→Heap→Option (AV×Heap)):List AV→Heap→Option (AV×Heap)
 |[x0],σ=>f x0 σ
 |_,_=>none
def dI(f:AV→AV→Heap→Option (AV×Heap)):List AV→Heap→Option (AV×Heap)
 |[x0,x1],σ=>f x0 x1 σ
 |_,_=>none
def mU(f:AV→AV→AV→Heap→Option (AV×Heap)):List AV→Heap→Option (AV×Heap)
 |[x0,x1,x2],σ=>f x0 x1 x2 σ
 |_,_=>none
def vg(f:AV→AV→AV→AV→Heap→Option (AV×Heap)):List AV→Heap→Option (AV×Heap)
 |[x0,x1,x2,x3],σ=>f x0 x1 x2 x3 σ
 |_,_=>none
def Gd(f:AV→AV→AV→AV→AV→Heap→Option (AV×Heap)):List AV→Heap→Option (AV×Heap)
 |[x0,x1,x2,x3,x4],σ=>f x0 x1 x2 x3 x4 σ
 |_,_=>none
def Ge(f:AV→AV→AV→AV→AV→AV→Heap→Option (AV×Heap)):List AV→Heap→Option (AV×Heap)
 |[x0,x1,x2,x3,x4,x5],σ=>f x0 x1 x2 x3 x4 x5 σ
 |_,_=>none
def VT(f:AV→AV→AV→AV→AV→AV→AV→Heap→Option (AV×Heap)):List AV→Heap→Option (AV×Heap)
 |[x0,x1,x2,x3,x4,x5,x6],σ=>f x0 x1 x2 x3 x4 x5 x6 σ
 |_,_=>none
end A
section
variable {X : Fx} {f : FuncId} {fn : Func} {cB : oZ}
theorem Sound.xz{m:AV→Heap→Option (AV×Heap)}(keep:tY)(hkeep:keep.Ok)(hs:eF X)(hf:X.P.funcs[f]? =some fn)(hc:∀dG w,(callFunc f dG).run X.P w=.ok (.enter f dG) w)(he:∀(x0:AV) (σ:Heap),uh X keep cB fn [x0] σ=m x0 σ):Sound X.P X.nm f (A.dH m):=by
 intro args σ r σ' h;unfold A.dH at h;split at h
 ·exact E6 hs hkeep hf hc ((he _ _).trans h)
 ·cases h
theorem Sound.ug{m:AV→AV→Heap→Option (AV×Heap)}(keep:tY)(hkeep:keep.Ok)(hs:eF X)(hf:X.P.funcs[f]? =some fn)(hc:∀dG w,(callFunc f dG).run X.P w=.ok (.enter f dG) w)(he:∀(x0 x1:AV) (σ:Heap),uh X keep cB fn [x0,x1] σ=m x0 x1 σ):Sound X.P X.nm f (A.dI m):=by
 intro args σ r σ' h;unfold A.dI at h;split at h
 ·exact E6 hs hkeep hf hc ((he _ _ _).trans h)
 ·cases h
theorem Sound.IW{m:AV→AV→AV→Heap→Option (AV×Heap)}(keep:tY)(hkeep:keep.Ok)(hs:eF X)(hf:X.P.funcs[f]? =some fn)(hc:∀dG w,(callFunc f dG).run X.P w=.ok (.enter f dG) w)(he:∀(x0 x1 x2:AV) (σ:Heap),uh X keep cB fn [x0,x1,x2] σ=m x0 x1 x2 σ):Sound X.P X.nm f (A.mU m):=by
 intro args σ r σ' h;unfold A.mU at h;split at h
 ·exact E6 hs hkeep hf hc ((he _ _ _ _).trans h)
 ·cases h
theorem Sound.Vm{m:AV→AV→AV→AV→Heap→Option (AV×Heap)}(keep:tY)(hkeep:keep.Ok)(hs:eF X)(hf:X.P.funcs[f]? =some fn)(hc:∀dG w,(callFunc f dG).run X.P w=.ok (.enter f dG) w)(he:∀(x0 x1 x2 x3:AV) (σ:Heap),uh X keep cB fn [x0,x1,x2,x3] σ=m x0 x1 x2 x3 σ):Sound X.P X.nm f (A.vg m):=by
 intro args σ r σ' h;unfold A.vg at h;split at h
 ·exact E6 hs hkeep hf hc ((he _ _ _ _ _).trans h)
 ·cases h
theorem Sound.aez{m:AV→AV→AV→AV→AV→Heap→Option (AV×Heap)}(keep:tY)(hkeep:keep.Ok)(hs:eF X)(hf:X.P.funcs[f]? =some fn)(hc:∀dG w,(callFunc f dG).run X.P w=.ok (.enter f dG) w)(he:∀(x0 x1 x2 x3 x4:AV) (σ:Heap),uh X keep cB fn [x0,x1,x2,x3,x4] σ=m x0 x1 x2 x3 x4 σ):Sound X.P X.nm f (A.Gd m):=by
 intro args σ r σ' h;unfold A.Gd at h;split at h
 ·exact E6 hs hkeep hf hc ((he _ _ _ _ _ _).trans h)
 ·cases h
theorem Sound.aeA{m:AV→AV→AV→AV→AV→AV→Heap→Option (AV×Heap)}(keep:tY)(hkeep:keep.Ok)(hs:eF X)(hf:X.P.funcs[f]? =some fn)(hc:∀dG w,(callFunc f dG).run X.P w=.ok (.enter f dG) w)(he:∀(x0 x1 x2 x3 x4 x5:AV) (σ:Heap),uh X keep cB fn [x0,x1,x2,x3,x4,x5] σ=m x0 x1 x2 x3 x4 x5 σ):Sound X.P X.nm f (A.Ge m):=by
 intro args σ r σ' h;unfold A.Ge at h;split at h
 ·exact E6 hs hkeep hf hc ((he _ _ _ _ _ _ _).trans h)
 ·cases h
theorem Sound.asA{m:AV→AV→AV→AV→AV→AV→AV→Heap→Option (AV×Heap)}(keep:tY)(hkeep:keep.Ok)(hs:eF X)(hf:X.P.funcs[f]? =some fn)(hc:∀dG w,(callFunc f dG).run X.P w=.ok (.enter f dG) w)(he:∀(x0 x1 x2 x3 x4 x5 x6:AV) (σ:Heap),uh X keep cB fn [x0,x1,x2,x3,x4,x5,x6] σ=m x0 x1 x2 x3 x4 x5 x6 σ):Sound X.P X.nm f (A.VT m):=by
 intro args σ r σ' h;unfold A.VT at h;split at h
 ·exact E6 hs hkeep hf hc ((he _ _ _ _ _ _ _ _).trans h)
 ·cases h
end
end
abbrev ve:Sh:=(.e 11 [.k,.k,.k,.k,.k,.k,.k,(.s 2),.k,.k,(.s 8)])
abbrev Gb:List Sh:=[(.s 10),.k,.k,.k,(.s 3),(.s 4),(.s 3),(.s 2),(.s 3),(.s 2),.k,(.s 5)]
abbrev Bw:Sh:=(.a [(.s 3),(.s 4),(.s 3),(.s 2),(.s 3)])
abbrev FG:List Sh:=[.k,.k,(.e 7 [.k,.k,.k,.k,.k,.k,(.s 3)])]
abbrev FH:Sh:=(.a [.k,.k,.k,.k,.k,.k,(.s 2)])
section
set_option maxRecDepth 100000
noncomputable def aL:List Nat:=[0,0,0,436,419,421,438,439,0,0,336,416,338,418,357,92,0,102,420,437,136,301,373,374,0,393,392,0,394,0,425,0,426,0,0,402,144,335,70,129,14,13,151,337,155,413,415,355,417,356,90,86,91,5,24,0,422,340,0,360,372,0,343,341,180,135,169,242,240,137,376,379,0,0,0,423,0,424,0,403,0,0,411,0,93,398,399,401,139,1,143,330,331,332,333,334,193,181,69,66,128,127,154,152,339,412,353,352,158,354,414,348,4,23,0,0,358,0,0,359,0,342,94,134,7,241,207,239,166,130,375,168,377,378,0,0,381,380,0,382,384,0,410,383,0,397,400,71,73,2,138,142,3,63,67,68,65,64,153,318,351,350,16,18,0,32,0,27,33,0,34,0,0,258,0,88,89,131,133,6,206,223,238,298,388,391,389,0,387,0,0,409,396,199,72,125,126,141,62,178,203,0,297,140,205,349,15,17,26,0,0,28,29,30,31,361,363,0,367,368,369,370,371,256,257,85,87,132,0,210,390,25,0,0,0,0,345,344,408,395,59,60,61,176,177,0,0,362,262,0,366,365,84,81,209,385,386,0,405,407,58,286,288,0,292,293,294,295,296,364,83,80,208,346,404,406,347,287,291,290,82,53,0,0,289,52,0,0,0,0,0,0,0,0,0,0,0,0,0,0,0,0,0]
section
variable {l : List (FuncId × (au → Heap → aH))} {f : FuncId} {fn : Func} {ro : Bool} {gD : List Sh} {ig : Sh}
noncomputable def Gq (l:List (FuncId×(au→Heap→aH))) (L:List Nat) (n:Nat):Fx:=⟨Tryz.prog,aL,A.tab (λ_ _=>none) l,λ_ _ _=>none,L,[],n,[]⟩
theorem q1{m:AV→Heap→aH}(L:List Nat)(n:Nat)(cB:oZ)(h:∀p∈l,Sound Tryz.prog aL p.1 p.2)(hf:Tryz.prog.funcs[f]? =some fn)(hc:∀dG w,(callFunc f dG).run Tryz.prog w=.ok (.enter f dG) w)(he:∀(x0:AV) (σ:Heap),uh (Gq l L n) .F cB fn [x0] σ=m x0 σ)(hi:Sh.gu gD=true)(ho:ig.ok=true):Sound Tryz.prog aL f (A.wrap ro gD ig (A.dH m)):=Sound.wrap (Sound.xz .F trivial (eF.of rfl h λ_=>Sound.none) hf hc he) _ _ _ hi ho
theorem q2{m:AV→AV→Heap→aH}(L:List Nat)(n:Nat)(cB:oZ)(h:∀p∈l,Sound Tryz.prog aL p.1 p.2)(hf:Tryz.prog.funcs[f]? =some fn)(hc:∀dG w,(callFunc f dG).run Tryz.prog w=.ok (.enter f dG) w)(he:∀(x0 x1:AV) (σ:Heap),uh (Gq l L n) .F cB fn [x0,x1] σ=m x0 x1 σ)(hi:Sh.gu gD=true)(ho:ig.ok=true):Sound Tryz.prog aL f (A.wrap ro gD ig (A.dI m)):=Sound.wrap (Sound.ug .F trivial (eF.of rfl h λ_=>Sound.none) hf hc he) _ _ _ hi ho
theorem q3{m:AV→AV→AV→Heap→aH}(L:List Nat)(n:Nat)(cB:oZ)(h:∀p∈l,Sound Tryz.prog aL p.1 p.2)(hf:Tryz.prog.funcs[f]? =some fn)(hc:∀dG w,(callFunc f dG).run Tryz.prog w=.ok (.enter f dG) w)(he:∀(x0 x1 x2:AV) (σ:Heap),uh (Gq l L n) .F cB fn [x0,x1,x2] σ=m x0 x1 x2 σ)(hi:Sh.gu gD=true)(ho:ig.ok=true):Sound Tryz.prog aL f (A.wrap ro gD ig (A.mU m)):=Sound.wrap (Sound.IW .F trivial (eF.of rfl h λ_=>Sound.none) hf hc he) _ _ _ hi ho
theorem q4{m:AV→AV→AV→AV→Heap→aH}(L:List Nat)(n:Nat)(cB:oZ)(h:∀p∈l,Sound Tryz.prog aL p.1 p.2)(hf:Tryz.prog.funcs[f]? =some fn)(hc:∀dG w,(callFunc f dG).run Tryz.prog w=.ok (.enter f dG) w)(he:∀(x0 x1 x2 x3:AV) (σ:Heap),uh (Gq l L n) .F cB fn [x0,x1,x2,x3] σ=m x0 x1 x2 x3 σ)(hi:Sh.gu gD=true)(ho:ig.ok=true):Sound Tryz.prog aL f (A.wrap ro gD ig (A.vg m)):=Sound.wrap (Sound.Vm .F trivial (eF.of rfl h λ_=>Sound.none) hf hc he) _ _ _ hi ho
theorem q5{m:AV→AV→AV→AV→AV→Heap→aH}(L:List Nat)(n:Nat)(cB:oZ)(h:∀p∈l,Sound Tryz.prog aL p.1 p.2)(hf:Tryz.prog.funcs[f]? =some fn)(hc:∀dG w,(callFunc f dG).run Tryz.prog w=.ok (.enter f dG) w)(he:∀(x0 x1 x2 x3 x4:AV) (σ:Heap),uh (Gq l L n) .F cB fn [x0,x1,x2,x3,x4] σ=m x0 x1 x2 x3 x4 σ)(hi:Sh.gu gD=true)(ho:ig.ok=true):Sound Tryz.prog aL f (A.wrap ro gD ig (A.Gd m)):=Sound.wrap (Sound.aez .F trivial (eF.of rfl h λ_=>Sound.none) hf hc he) _ _ _ hi ho
theorem q6{m:AV→AV→AV→AV→AV→AV→Heap→aH}(L:List Nat)(n:Nat)(cB:oZ)(h:∀p∈l,Sound Tryz.prog aL p.1 p.2)(hf:Tryz.prog.funcs[f]? =some fn)(hc:∀dG w,(callFunc f dG).run Tryz.prog w=.ok (.enter f dG) w)(he:∀(x0 x1 x2 x3 x4 x5:AV) (σ:Heap),uh (Gq l L n) .F cB fn [x0,x1,x2,x3,x4,x5] σ=m x0 x1 x2 x3 x4 x5 σ)(hi:Sh.gu gD=true)(ho:ig.ok=true):Sound Tryz.prog aL f (A.wrap ro gD ig (A.Ge m)):=Sound.wrap (Sound.aeA .F trivial (eF.of rfl h λ_=>Sound.none) hf hc he) _ _ _ hi ho
theorem q7{m:AV→AV→AV→AV→AV→AV→AV→Heap→aH}(L:List Nat)(n:Nat)(cB:oZ)(h:∀p∈l,Sound Tryz.prog aL p.1 p.2)(hf:Tryz.prog.funcs[f]? =some fn)(hc:∀dG w,(callFunc f dG).run Tryz.prog w=.ok (.enter f dG) w)(he:∀(x0 x1 x2 x3 x4 x5 x6:AV) (σ:Heap),uh (Gq l L n) .F cB fn [x0,x1,x2,x3,x4,x5,x6] σ=m x0 x1 x2 x3 x4 x5 x6 σ)(hi:Sh.gu gD=true)(ho:ig.ok=true):Sound Tryz.prog aL f (A.wrap ro gD ig (A.VT m)):=Sound.wrap (Sound.asA .F trivial (eF.of rfl h λ_=>Sound.none) hf hc he) _ _ _ hi ho
end
end
abbrev aV(n:Int):Prop:=-9223372036854775808≤n∧n≤9223372036854775807
abbrev bg:Nat:=9223372036854775807
def lu{κ:Type}[DecidableEq κ](k:κ)(S:List κ):Bool:=S.any λx=>decide (x=k)
theorem S3{κ:Type}[DecidableEq κ]{k:κ}{S:List κ}:lu k S=true↔k∈S:=by simp only[lu,List.any_eq_true,decide_eq_true_eq];exact⟨λ⟨x,h,e⟩=>e▸h,λh=>⟨k,h,rfl⟩⟩
theorem Nw{κ:Type}[DecidableEq κ]{k:κ}{S:List κ}:lu k S=false↔k∉S:=by rw[←S3];simp
def nV(n:Int):au:=[.ah n]
def ari(s:ByteArray):au:=[.str s]
def sl{α:Type}(sz:Nat)(c:α→au)(l:List α):AV:=.sl sz (l.map c)
def gu{α:Type}(p:α→Prop)(l:List α):Prop:=l.length≤bg∧∀x∈l,p x
def kO(s:ByteArray):Prop:=s.size≤bg
theorem TB(n:Int):A.ak 0 (nV n)=some (.ah n):=rfl
theorem abQ(s:ByteArray):A.ak 0 (ari s)=some (.str s):=rfl
structure nF where
 time:Int
 way:Int
deriving DecidableEq
def iJ(x:nF):au:=[.ah x.time,.ah x.way]
theorem ai1(x:nF):(iJ x).length=2:=rfl
def abK(x:nF):Prop:=aV x.time∧aV x.way
theorem JK(x:nF):A.ak 0 (iJ x)=some (.ah x.time):=rfl
theorem JL(x:nF):A.ak 1 (iJ x)=some (.ah x.way):=rfl
theorem Fb(x:nF):A.aB 0 2 (iJ x)=some (.agg (iJ x)):=rfl
theorem E7(x:nF):A.cells 2 (.agg (iJ x))=some (iJ x):=rfl
theorem Fe(x:nF)(l:au)(h:l.length=2):A.aq 0 (iJ x) l=some (iJ x):=by simp [A.aq,ai1,h]
structure rT where
 kind:Int
 bL:(List nF)
def nS(x:rT):au:=[.ah x.kind,sl 2 iJ x.bL]
theorem aiY(x:rT):(nS x).length=2:=rfl
def anX(x:rT):Prop:=aV x.kind∧(gu abK) x.bL
theorem zh(x:rT):A.ak 0 (nS x)=some (.ah x.kind):=rfl
theorem zi(x:rT):A.ak 1 (nS x)=some (sl 2 iJ x.bL):=rfl
theorem zl(x:rT):A.aB 0 2 (nS x)=some (.agg (nS x)):=rfl
theorem zk(x:rT):A.cells 2 (.agg (nS x))=some (nS x):=rfl
theorem zm(x:rT)(l:au)(h:l.length=2):A.aq 0 (nS x) l=some (nS x):=by simp [A.aq,aiY,h]
structure jd where
 eo:Int
 to:Int
 start:Int
 ct:Int
 time:Int
 fB:rT
def gR(x:jd):au:=[.ah x.eo,.ah x.to,.ah x.start,.ah x.ct,.ah x.time,.ah x.fB.kind,sl 2 iJ x.fB.bL]
theorem akf(x:jd):(gR x).length=7:=rfl
theorem Y1(x:jd):A.ak 0 (gR x)=some (.ah x.eo):=rfl
theorem Y2(x:jd):A.ak 1 (gR x)=some (.ah x.to):=rfl
theorem Ny(x:jd):A.ak 2 (gR x)=some (.ah x.start):=rfl
theorem Sc(x:jd):A.ak 3 (gR x)=some (.ah x.ct):=rfl
theorem Y3(x:jd):A.ak 4 (gR x)=some (.ah x.time):=rfl
theorem agQ(x:jd):A.aB 5 2 (gR x)=some (.agg (nS x.fB)):=rfl
theorem HS(x:jd):A.aB 0 7 (gR x)=some (.agg (gR x)):=rfl
theorem Fg(x:jd):A.cells 7 (.agg (gR x))=some (gR x):=rfl
theorem Of(x:jd)(l:au)(h:l.length=7):A.aq 0 (gR x) l=some (gR x):=by simp [A.aq,akf,h]
structure amK where
 time:Int
 level:Int
deriving DecidableEq
structure rj where
 low:Int
 high:Int
 name:ByteArray
deriving DecidableEq
def oM(x:rj):au:=[.ah x.low,.ah x.high,.str x.name]
theorem ai2(x:rj):(oM x).length=3:=rfl
def TA(x:rj):Prop:=aV x.low∧aV x.high∧kO x.name
theorem Nl(x:rj):A.ak 0 (oM x)=some (.ah x.low):=rfl
theorem Nn(x:rj):A.ak 1 (oM x)=some (.ah x.high):=rfl
theorem No(x:rj):A.ak 2 (oM x)=some (.str x.name):=rfl
theorem NQ(x:rj):A.aB 0 3 (oM x)=some (.agg (oM x)):=rfl
theorem NI(x:rj):A.cells 3 (.agg (oM x))=some (oM x):=rfl
theorem NU(x:rj)(l:au)(h:l.length=3):A.aq 0 (oM x) l=some (oM x):=by simp [A.aq,ai2,h]
structure fS where
 name:ByteArray
 group:Int
 p9:Int
 oz:Int
 default:Int
 snap:Bool
 ranges:(List rj)
def gA(x:fS):au:=[.str x.name,.ah x.group,.ah x.p9,.ah x.oz,.ah x.default,.bool x.snap,sl 3 oM x.ranges]
theorem ai0(x:fS):(gA x).length=7:=rfl
def abJ(x:fS):Prop:=kO x.name∧aV x.group∧aV x.p9∧aV x.oz∧aV x.default∧(gu TA) x.ranges
theorem Nk(x:fS):A.ak 0 (gA x)=some (.str x.name):=rfl
theorem RH(x:fS):A.ak 1 (gA x)=some (.ah x.group):=rfl
theorem RJ(x:fS):A.ak 2 (gA x)=some (.ah x.p9):=rfl
theorem RL(x:fS):A.ak 3 (gA x)=some (.ah x.oz):=rfl
theorem RM(x:fS):A.ak 4 (gA x)=some (.ah x.default):=rfl
theorem RN(x:fS):A.ak 5 (gA x)=some (.bool x.snap):=rfl
theorem RO(x:fS):A.ak 6 (gA x)=some (sl 3 oM x.ranges):=rfl
theorem SK(x:fS):A.aB 0 7 (gA x)=some (.agg (gA x)):=rfl
theorem Sy(x:fS):A.cells 7 (.agg (gA x))=some (gA x):=rfl
theorem NT(x:fS)(l:au)(h:l.length=7):A.aq 0 (gA x) l=some (gA x):=by simp [A.aq,ai0,h]
structure dZ where
 name:ByteArray
 size:Int
 params:(List fS)
def dm(x:dZ):au:=[.str x.name,.ah x.size,sl 7 gA x.params]
theorem aht(x:dZ):(dm x).length=3:=rfl
def NO(x:dZ):Prop:=kO x.name∧aV x.size∧(gu abJ) x.params
theorem tu(x:dZ):A.ak 0 (dm x)=some (.str x.name):=rfl
theorem uG(x:dZ):A.ak 1 (dm x)=some (.ah x.size):=rfl
theorem tv(x:dZ):A.ak 2 (dm x)=some (sl 7 gA x.params):=rfl
theorem uJ(x:dZ):A.aB 0 3 (dm x)=some (.agg (dm x)):=rfl
theorem uI(x:dZ):A.cells 3 (.agg (dm x))=some (dm x):=rfl
theorem uK(x:dZ)(l:au)(h:l.length=3):A.aq 0 (dm x) l=some (dm x):=by simp [A.aq,aht,h]
structure jH where
 aC:Int
 kK:ByteArray
 univ:Int
 address:Int
deriving DecidableEq
def cO(x:jH):au:=[.ah x.aC,.str x.kK,.ah x.univ,.ah x.address]
theorem akj(x:jH):(cO x).length=4:=rfl
def acM(x:jH):Prop:=aV x.aC∧kO x.kK∧aV x.univ∧aV x.address
theorem tC(x:jH):A.ak 0 (cO x)=some (.ah x.aC):=rfl
theorem tD(x:jH):A.ak 1 (cO x)=some (.str x.kK):=rfl
theorem tE(x:jH):A.ak 2 (cO x)=some (.ah x.univ):=rfl
theorem tF(x:jH):A.ak 3 (cO x)=some (.ah x.address):=rfl
theorem tH(x:jH):A.aB 0 4 (cO x)=some (.agg (cO x)):=rfl
theorem tG(x:jH):A.cells 4 (.agg (cO x))=some (cO x):=rfl
theorem tJ(x:jH)(l:au)(h:l.length=4):A.aq 0 (cO x) l=some (cO x):=by simp [A.aq,akj,h]
structure je where
 bw:(List dZ)
 dB:(List jH)
def lV(x:je):au:=[sl 3 dm x.bw,sl 4 cO x.dB]
theorem als(x:je):(lV x).length=2:=rfl
def D9(x:je):Prop:=(gu NO) x.bw∧(gu acM) x.dB
theorem AU(x:je):A.ak 0 (lV x)=some (sl 3 dm x.bw):=rfl
theorem AW(x:je):A.ak 1 (lV x)=some (sl 4 cO x.dB):=rfl
theorem A9(x:je):A.aB 0 2 (lV x)=some (.agg (lV x)):=rfl
theorem A5(x:je):A.cells 2 (.agg (lV x))=some (lV x):=rfl
theorem Ba(x:je)(l:au)(h:l.length=2):A.aq 0 (lV x) l=some (lV x):=by simp [A.aq,als,h]
structure aG where
 unit:Int
 param:ByteArray
deriving DecidableEq
def aT(x:aG):au:=[.ah x.unit,.str x.param]
theorem alr(x:aG):(aT x).length=2:=rfl
def adH(x:aG):Prop:=aV x.unit∧kO x.param
theorem qZ(x:aG):A.aB 0 2 (aT x)=some (.agg (aT x)):=rfl
theorem DJ(x:aG):A.cells 2 (.agg (aT x))=some (aT x):=rfl
theorem H8(x:aG)(l:au)(h:l.length=2):A.aq 0 (aT x) l=some (aT x):=by simp [A.aq,alr,h]
structure nP where
 key:aG
 level:Int
deriving DecidableEq
def fD(x:nP):au:=[.ah x.key.unit,.str x.key.param,.ah x.level]
theorem ahu(x:nP):(fD x).length=3:=rfl
def ZT(x:nP):Prop:=adH x.key∧aV x.level
theorem YG(x:nP)(l:au)(h:l.length=3):A.aq 0 (fD x) l=some (fD x):=by simp [A.aq,ahu,h]
structure l5 where
 aC:Int
 title:ByteArray
 lS:(List nP)
def ff(x:l5):au:=[.ah x.aC,.str x.title,sl 3 fD x.lS]
theorem ah3(x:l5):(ff x).length=3:=rfl
def BV(x:l5):Prop:=aV x.aC∧kO x.title∧(gu ZT) x.lS
theorem Zm(x:l5)(l:au)(h:l.length=3):A.aq 0 (ff x) l=some (ff x):=by simp [A.aq,ah3,h]
structure aqn where
 atz:(List Int)
 block:Int
 atQ:Int
structure ow where
 level:Int
 iY:Int
deriving DecidableEq
def yp(x:ow):au:=[.ah x.level,.ah x.iY]
def anY(x:ow):Prop:=aV x.level∧aV x.iY
structure gQ where
 key:aG
 value:ow
 release:Bool
 Bk:Bool
 ct:Int
 time:Int
deriving DecidableEq
def gZ(x:gQ):au:=[.ah x.key.unit,.str x.key.param,.ah x.value.level,.ah x.value.iY,.bool x.release,.bool x.Bk,.ah x.ct,.ah x.time]
theorem akh(x:gQ):(gZ x).length=8:=rfl
def OR(x:gQ):Prop:=adH x.key∧anY x.value∧aV x.ct∧aV x.time
theorem ajp(x:gQ):A.ak 0 (gZ x)=some (.ah x.key.unit):=rfl
theorem ajq(x:gQ):A.ak 1 (gZ x)=some (.str x.key.param):=rfl
theorem ajr(x:gQ):A.ak 2 (gZ x)=some (.ah x.value.level):=rfl
theorem ajs(x:gQ):A.ak 3 (gZ x)=some (.ah x.value.iY):=rfl
theorem ajt(x:gQ):A.ak 4 (gZ x)=some (.bool x.release):=rfl
theorem aju(x:gQ):A.ak 5 (gZ x)=some (.bool x.Bk):=rfl
theorem ajv(x:gQ):A.ak 6 (gZ x)=some (.ah x.ct):=rfl
theorem ajw(x:gQ):A.ak 7 (gZ x)=some (.ah x.time):=rfl
theorem ahK(x:gQ):A.aB 0 2 (gZ x)=some (.agg (aT x.key)):=rfl
theorem agR(x:gQ):A.aB 2 2 (gZ x)=some (.agg (yp x.value)):=rfl
theorem amh(x:gQ):A.aB 0 8 (gZ x)=some (.agg (gZ x)):=rfl
theorem alw(x:gQ):A.cells 8 (.agg (gZ x))=some (gZ x):=rfl
theorem Oh(x:gQ)(l:au)(h:l.length=8):A.aq 0 (gZ x) l=some (gZ x):=by simp [A.aq,akh,h]
structure bz where
 aC:Int
 title:ByteArray
 ct:Int
 up:Int
 down:Int
 other:Int
 fB:rT
 block:Bool
 eA:Int
 dW:(List gQ)
def br(x:bz):au:=[.ah x.aC,.str x.title,.ah x.ct,.ah x.up,.ah x.down,.ah x.other,.ah x.fB.kind,sl 2 iJ x.fB.bL,.bool x.block,.ah x.eA,sl 8 gZ x.dW]
theorem alq(x:bz):(br x).length=11:=rfl
def D8(x:bz):Prop:=aV x.aC∧kO x.title∧aV x.ct∧aV x.up∧aV x.down∧aV x.other∧anX x.fB∧aV x.eA∧(gu OR) x.dW
theorem SG(x:bz):A.ak 0 (br x)=some (.ah x.aC):=rfl
theorem akT(x:bz):A.ak 1 (br x)=some (.str x.title):=rfl
theorem SH(x:bz):A.ak 2 (br x)=some (.ah x.ct):=rfl
theorem ZY(x:bz):A.ak 3 (br x)=some (.ah x.up):=rfl
theorem SI(x:bz):A.ak 4 (br x)=some (.ah x.down):=rfl
theorem ZZ(x:bz):A.ak 5 (br x)=some (.ah x.other):=rfl
theorem akU(x:bz):A.ak 6 (br x)=some (.ah x.fB.kind):=rfl
theorem akV(x:bz):A.ak 7 (br x)=some (sl 2 iJ x.fB.bL):=rfl
theorem akW(x:bz):A.ak 8 (br x)=some (.bool x.block):=rfl
theorem Z0(x:bz):A.ak 9 (br x)=some (.ah x.eA):=rfl
theorem Y0(x:bz):A.ak 10 (br x)=some (sl 8 gZ x.dW):=rfl
theorem Rg(x:bz):A.aB 6 2 (br x)=some (.agg (nS x.fB)):=rfl
theorem Kk(x:bz):A.aB 0 11 (br x)=some (.agg (br x)):=rfl
theorem Oo(x:bz):A.cells 11 (.agg (br x))=some (br x):=rfl
theorem Km(x:bz)(l:au)(h:l.length=11):A.aq 0 (br x) l=some (br x):=by simp [A.aq,alq,h]
structure bB where
 key:aG
 value:ow
 cm:Int
deriving DecidableEq
def dP(x:bB):au:=[.ah x.key.unit,.str x.key.param,.ah x.value.level,.ah x.value.iY,.ah x.cm]
theorem aiZ(x:bB):(dP x).length=5:=rfl
theorem alc(x:bB)(l:au)(h:l.length=5):A.aq 0 (dP x) l=some (dP x):=by simp [A.aq,aiZ,h]
structure apF where
 unit:Int
 eo:Int
 to:Int
deriving DecidableEq
structure kL where
 aC:Int
 bH:(List bz)
def fA(x:kL):au:=[.ah x.aC,sl 11 br x.bH]
theorem akg(x:kL):(fA x).length=2:=rfl
def acL(x:kL):Prop:=aV x.aC∧(gu D8) x.bH
theorem ajo(x:kL):A.ak 0 (fA x)=some (.ah x.aC):=rfl
theorem Sd(x:kL):A.ak 1 (fA x)=some (sl 11 br x.bH):=rfl
theorem amg(x:kL):A.aB 0 2 (fA x)=some (.agg (fA x)):=rfl
theorem alv(x:kL):A.cells 2 (.agg (fA x))=some (fA x):=rfl
theorem Og(x:kL)(l:au)(h:l.length=2):A.aq 0 (fA x) l=some (fA x):=by simp [A.aq,akg,h]
structure nO where
 aC:Int
 list:Int
 kH:Int
deriving DecidableEq
def dh(x:nO):au:=[.ah x.aC,.ah x.list,.ah x.kH]
theorem ag9(x:nO):(dh x).length=3:=rfl
def YZ(x:nO):Prop:=aV x.aC∧aV x.list∧aV x.kH
theorem agN(x:nO):A.ak 0 (dh x)=some (.ah x.aC):=rfl
theorem agO(x:nO):A.ak 1 (dh x)=some (.ah x.list):=rfl
theorem agP(x:nO):A.ak 2 (dh x)=some (.ah x.kH):=rfl
theorem ahL(x:nO):A.aB 0 3 (dh x)=some (.agg (dh x)):=rfl
theorem ahv(x:nO):A.cells 3 (.agg (dh x))=some (dh x):=rfl
theorem Yg(x:nO)(l:au)(h:l.length=3):A.aq 0 (dh x) l=some (dh x):=by simp [A.aq,ag9,h]
structure iQ where
 aZ:je
 cq:(List l5)
 cM:(List kL)
 bU:(List nO)
def bK(x:iQ):au:=[sl 3 dm x.aZ.bw,sl 4 cO x.aZ.dB,sl 3 ff x.cq,sl 2 fA x.cM,sl 3 dh x.bU]
def B4(x:iQ):Prop:=D9 x.aZ∧(gu BV) x.cq∧(gu acL) x.cM∧(gu YZ) x.bU
theorem YC(x:iQ):A.ak 0 (bK x)=some (sl 3 dm x.aZ.bw):=rfl
structure fR where
 time:Int
 kind:Int
 jV:Int
 cm:Int
 level:Int
deriving DecidableEq
def cg(x:fR):au:=[.ah x.time,.ah x.kind,.ah x.jV,.ah x.cm,.ah x.level]
def N8(x:fR):Prop:=aV x.time∧aV x.kind∧aV x.jV∧aV x.cm∧aV x.level
theorem ahJ(x:fR):A.ak 0 (cg x)=some (.ah x.time):=rfl
theorem Nz(x:fR):A.aB 0 5 (cg x)=some (.agg (cg x)):=rfl
structure aoA where
 p9:Int
 action:fR
deriving DecidableEq
structure aoD where
 hours:Int
 minutes:Int
 seconds:Int
 frames:Int
deriving DecidableEq
structure Cs where
 key:aG
 ia:jd
 mP:Int
 ending:Bool
def me(x:Cs):au:=[.ah x.key.unit,.str x.key.param,.ah x.ia.eo,.ah x.ia.to,.ah x.ia.start,.ah x.ia.ct,.ah x.ia.time,.ah x.ia.fB.kind,sl 2 iJ x.ia.fB.bL,.ah x.mP,.bool x.ending]
structure JT where
 jV:Int
 cm:Int
 iK:Int
 acT:Bool
 eA:Int
 runs:(List Cs)
def JU(x:JT):au:=[.ah x.jV,.ah x.cm,.ah x.iK,.bool x.acT,.ah x.eA,sl 11 me x.runs]
structure Yi where
 level:Int
 hold:Int
 ia:Int
deriving DecidableEq
structure abj where
 form:Int
 low:Int
 high:Int
 atI:Int
 width:Int
 spread:Int
 back:Bool
 aty:Bool
 steps:(List Yi)
structure adb where
 time:Int
 atA:Int
deriving DecidableEq
structure alk where
 effect:abj
 keys:(List aG)
 start:Int
 atO:(List adb)
 Jf:Int
 fin:Int
 out:Int
def Jt:au→Heap→aH:=A.dI λa b σ=>match a,b with
 |.str a,.str b=>some (.int .i64 (Lib.compareBytes a.data.toList b.data.toList),σ)
 |_,_=>none
def mO(a b:aG):Int:=if ¬(a.unit=b.unit)then(if a.unit<b.unit then -1 else 1)else Lib.compareBytes a.param.data.toList b.param.data.toList
def oS{α:Type}[Inhabited α](cf:α→α→Int)(l:List α):List α:=(Sort.pdq (λx y=>decide (cf x y<0)) l.toArray 0 l.length (Lib.bitLen l.length) true true).toList
noncomputable def A.KF {α:Type} [Inhabited α] (sz:Nat) (c:α→au) (cf:α→α→Int) (x:AV) (σ:Heap):aH:=match x with
 |.az=>some (.aM [],σ)
 |.os id g iF off len=>match σ[id]? with
  | some (.arr g' sz' es) => open Classical in if h : (g = g' ∧ sz = sz' ∧ iF = sz ∧ off + len ≤ es.length ∧ 0 < len ∧ len < 4611686018427387904) ∧ ∃ l : List α, (es.drop off).take len = l.map c then
    some (.aM [],σ.set id (.arr g sz (es.take off++(oS cf (Classical.choose h.2)).map c++es.drop (off+len))))else none
  |_=>none
 |_=>none
noncomputable def Jm:au→Heap→aH:=A.dI λx f σ=>match f with
 |.fn 297 []=>@A.KF bB ⟨⟨⟨0,⟨#[]⟩⟩,⟨0,0⟩,0⟩⟩ 5 dP (λa b=>mO a.key b.key) x σ
 |_=>none
section
set_option maxRecDepth 100000
noncomputable def MA (dyn:Nat→au→Heap→aH) (a0 a1:AV) (σ:Heap):aH:=(A.bR a0).bind λx1=>(A.loop (λv2 s3=>(A.lss (aj v2 1) x1).bind λx5=>A.cond x5 ((A.aY 3 a0 (aj v2 1)).bind λx6=>((A.deref x6 s3).bind λc7=>A.aB 0 3 c7).bind λx8=>(A.lJ dyn a1 [x8] s3).bind λr9=>A.cond r9.1 (some (AX.ret,[(aj v2 1),(aj v2 1)],r9.2)) ((A.add (aj v2 1) (AV.ah 1)).bind λbX=>some (AX.normal,[(aj v2 0),bX],r9.2))) (some (AX.exit 0,[(aj v2 0),(aj v2 1)],s3))) [(AV.ah 0),(AV.ah 0)] σ).bind λey=>bif ey.1==AX.exit 0 then(A.fin σ (AV.ah (-1)) ey.2.2)else bif ey.1==AX.ret then(A.fin σ (aj ey.2.1 0) ey.2.2)else none
noncomputable def Mz (dyn:Nat→au→Heap→aH):au→Heap→aH:=A.wrap true [(.s 3)] .k (A.dI (MA dyn))
noncomputable def ME (dyn:Nat→au→Heap→aH) (a0 a1:AV) (σ:Heap):aH:=(A.bR a0).bind λx1=>(A.loop (λv2 s3=>(A.lss (aj v2 1) x1).bind λx5=>A.cond x5 ((A.aY 8 a0 (aj v2 1)).bind λx6=>((A.deref x6 s3).bind λc7=>A.aB 0 8 c7).bind λx8=>(A.lJ dyn a1 [x8] s3).bind λr9=>A.cond r9.1 (some (AX.ret,[(aj v2 1),(aj v2 1)],r9.2)) ((A.add (aj v2 1) (AV.ah 1)).bind λbX=>some (AX.normal,[(aj v2 0),bX],r9.2))) (some (AX.exit 0,[(aj v2 0),(aj v2 1)],s3))) [(AV.ah 0),(AV.ah 0)] σ).bind λey=>bif ey.1==AX.exit 0 then(A.fin σ (AV.ah (-1)) ey.2.2)else bif ey.1==AX.ret then(A.fin σ (aj ey.2.1 0) ey.2.2)else none
noncomputable def Jj (dyn:Nat→au→Heap→aH):au→Heap→aH:=A.wrap true [(.s 8)] .k (A.dI (ME dyn))
noncomputable def MH (a0:AV) (σ:Heap):aH:=(A.sY a0 AV.az).bind λx1=>A.cond x1 (some (AV.az,σ)) ((A.append 2 (140737488355328 / 16) AV.ez a0 σ).bind λr2=>some (r2.1,r2.2))
noncomputable def wL:au→Heap→aH:=A.tM (A.wrap true [(.s 2)] .k (A.dH MH))
noncomputable def Qi (a0:AV) (σ:Heap):aH:=(A.sY a0 AV.az).bind λx1=>A.cond x1 (some (AV.az,σ)) ((A.append 8 (140737488355328 / 64) AV.ez a0 σ).bind λr2=>some (r2.1,r2.2))
noncomputable def EN:au→Heap→aH:=A.tM (A.wrap true [(.s 8)] .k (A.dH Qi))
noncomputable def GY (dyn:Nat→au→Heap→aH) (a0 a1 a2:AV) (σ:Heap):aH:=(A.bR a0).bind λx1=>(A.loop (λv2 s3=>(A.lss (aj v2 0) (aj v2 1)).bind λx5=>A.cond x5 ((A.add (aj v2 0) (aj v2 1)).bind λx6=>(A.conv .u64 x6).bind λx7=>(A.shr x7 (AV.int .u64 1)).bind λx8=>(A.conv .i64 x8).bind λx9=>(A.aY 11 a0 x9).bind λbX=>((A.deref bX s3).bind λiq=>A.aB 0 11 iq).bind λdS=>(A.lJ dyn a2 [dS,a1] s3).bind λuB=>(A.lss uB.1 (AV.ah 0)).bind λdY=>(A.cond dY ((A.add x9 (AV.ah 1)).bind λdg=>some ([dg,(aj v2 1)],uB.2)) (some ([(aj v2 0),x9],uB.2))).bind λwD=>some (AX.normal,[(aj wD.1 0),(aj wD.1 1)],wD.2)) (some (AX.exit 0,[(aj v2 0),(aj v2 1)],s3))) [(AV.ah 0),x1] σ).bind λwE=>bif wE.1==AX.exit 0 then((A.lss (aj wE.2.1 0) x1).bind λcI=>(A.guard cI true (some a2) ay).bind λeC=>(A.guard cI true (some a0) ay).bind λep=>(A.guard cI true (some (aj wE.2.1 0)) ay).bind λcN=>(A.guard cI true (A.aY 11 ep cN) ay).bind λeu=>(A.guard cI true ((A.deref eu wE.2.2).bind λgd=>A.aB 0 11 gd) ay).bind λx24=>(A.guard cI true (some a1) ay).bind λx25=>(A.guard cI true (A.quiet (A.lJ dyn eC [x24,x25] wE.2.2) wE.2.2) ay).bind λgh=>(A.guard cI true (A.eql .i gh (AV.ah 0)) ay).bind λeU=>(A.pick cI eU aO).bind λx28=>A.fin σ (AV.aM [(aj wE.2.1 0),x28]) wE.2.2)else none
noncomputable def GX (dyn:Nat→au→Heap→aH):au→Heap→aH:=A.wrap true [(.s 11)] .k (A.mU (GY dyn))
noncomputable def Xd (a0:AV) (σ:Heap):aH:=(A.sY a0 AV.az).bind λx1=>A.cond x1 (some (AV.az,σ)) ((A.append 11 (140737488355328 / 128) AV.ez a0 σ).bind λr2=>some (r2.1,r2.2))
noncomputable def EO:au→Heap→aH:=A.tM (A.wrap true [(.s 11)] .k (A.dH Xd))
noncomputable def MF (dyn:Nat→au→Heap→aH) (a0 a1:AV) (σ:Heap):aH:=(A.bR a0).bind λx1=>(A.loop (λv2 s3=>(A.lss (aj v2 1) x1).bind λx5=>A.cond x5 ((A.aY 11 a0 (aj v2 1)).bind λx6=>((A.deref x6 s3).bind λc7=>A.aB 0 11 c7).bind λx8=>(A.lJ dyn a1 [x8] s3).bind λr9=>A.cond r9.1 (some (AX.ret,[(aj v2 1),(aj v2 1)],r9.2)) ((A.add (aj v2 1) (AV.ah 1)).bind λbX=>some (AX.normal,[(aj v2 0),bX],r9.2))) (some (AX.exit 0,[(aj v2 0),(aj v2 1)],s3))) [(AV.ah 0),(AV.ah 0)] σ).bind λey=>bif ey.1==AX.exit 0 then(A.fin σ (AV.ah (-1)) ey.2.2)else bif ey.1==AX.ret then(A.fin σ (aj ey.2.1 0) ey.2.2)else none
noncomputable def Jl (dyn:Nat→au→Heap→aH):au→Heap→aH:=A.wrap true [(.s 11)] .k (A.dI (MF dyn))
noncomputable def Qe (a0 a1:AV) (σ:Heap):aH:=(A.bR a0).bind λx1=>(A.bR a1).bind λx2=>(A.neq .i x1 x2).bind λx3=>A.cond x3 (A.fin σ aO σ) ((A.bR a0).bind λx4=>(A.loop (λv5 s6=>(A.lss (aj v5 1) x4).bind λx8=>A.cond x8 ((A.aY 3 a0 (aj v5 1)).bind λx9=>((A.deref x9 s6).bind λfL=>A.aB 0 3 fL).bind λdJ=>(A.aY 3 a1 (aj v5 1)).bind λdS=>((A.deref dS s6).bind λkn=>A.aB 0 3 kn).bind λdY=>(A.neq (.s [0,2,0]) dJ dY).bind λdK=>A.cond dK (some (AX.ret,[aO,(aj v5 1)],s6)) ((A.add (aj v5 1) (AV.ah 1)).bind λdg=>some (AX.normal,[(aj v5 0),dg],s6))) (some (AX.exit 0,[(aj v5 0),(aj v5 1)],s6))) [aO,(AV.ah 0)] σ).bind λwE=>bif wE.1==AX.exit 0 then(A.fin σ dR wE.2.2)else bif wE.1==AX.ret then(A.fin σ (aj wE.2.1 0) wE.2.2)else none)
noncomputable def Jk:au→Heap→aH:=A.wrap true [(.s 3),(.s 3)] .k (A.dI Qe)
noncomputable def MD (dyn:Nat→au→Heap→aH) (a0 a1:AV) (σ:Heap):aH:=(A.bR a0).bind λx1=>(A.loop (λv2 s3=>(A.lss (aj v2 1) x1).bind λx5=>A.cond x5 ((A.aY 2 a0 (aj v2 1)).bind λx6=>((A.deref x6 s3).bind λc7=>A.aB 0 2 c7).bind λx8=>(A.lJ dyn a1 [x8] s3).bind λr9=>A.cond r9.1 (some (AX.ret,[(aj v2 1),(aj v2 1)],r9.2)) ((A.add (aj v2 1) (AV.ah 1)).bind λbX=>some (AX.normal,[(aj v2 0),bX],r9.2))) (some (AX.exit 0,[(aj v2 0),(aj v2 1)],s3))) [(AV.ah 0),(AV.ah 0)] σ).bind λey=>bif ey.1==AX.exit 0 then(A.fin σ (AV.ah (-1)) ey.2.2)else bif ey.1==AX.ret then(A.fin σ (aj ey.2.1 0) ey.2.2)else none
noncomputable def MC (dyn:Nat→au→Heap→aH):au→Heap→aH:=A.wrap true [(.s 2)] .k (A.dI (MD dyn))
noncomputable def My (dyn:Nat→au→Heap→aH) (a0 a1:AV) (σ:Heap):aH:=(A.bR a0).bind λx1=>(A.loop (λv2 s3=>(A.lss (aj v2 1) x1).bind λx5=>A.cond x5 ((A.aY 3 a0 (aj v2 1)).bind λx6=>((A.deref x6 s3).bind λc7=>A.aB 0 3 c7).bind λx8=>(A.lJ dyn a1 [x8] s3).bind λr9=>A.cond r9.1 (some (AX.ret,[(aj v2 1),(aj v2 1)],r9.2)) ((A.add (aj v2 1) (AV.ah 1)).bind λbX=>some (AX.normal,[(aj v2 0),bX],r9.2))) (some (AX.exit 0,[(aj v2 0),(aj v2 1)],s3))) [(AV.ah 0),(AV.ah 0)] σ).bind λey=>bif ey.1==AX.exit 0 then(A.fin σ (AV.ah (-1)) ey.2.2)else bif ey.1==AX.ret then(A.fin σ (aj ey.2.1 0) ey.2.2)else none
noncomputable def Mx (dyn:Nat→au→Heap→aH):au→Heap→aH:=A.wrap true [(.s 3)] .k (A.dI (My dyn))
noncomputable def Mw (dyn:Nat→au→Heap→aH) (a0 a1:AV) (σ:Heap):aH:=(Mx dyn [a0,a1] σ).bind λr1=>(A.geq r1.1 (AV.ah 0)).bind λx2=>A.fin σ x2 r1.2
noncomputable def Mv (dyn:Nat→au→Heap→aH):au→Heap→aH:=A.wrap true [(.s 3)] .k (A.dI (Mw dyn))
noncomputable def Qc (a0:AV) (σ:Heap):aH:=(A.sY a0 AV.az).bind λx1=>A.cond x1 (some (AV.az,σ)) ((A.append 3 (140737488355328 / 24) AV.ez a0 σ).bind λr2=>some (r2.1,r2.2))
noncomputable def Qb:au→Heap→aH:=A.tM (A.wrap true [(.s 3)] .k (A.dH Qc))
noncomputable def Qj (a0:AV) (σ:Heap):aH:=(A.sY a0 AV.az).bind λx1=>A.cond x1 (some (AV.az,σ)) ((A.append 4 (140737488355328 / 40) AV.ez a0 σ).bind λr2=>some (r2.1,r2.2))
noncomputable def Qh:au→Heap→aH:=A.tM (A.wrap true [(.s 4)] .k (A.dH Qj))
noncomputable def Xb (a0:AV) (σ:Heap):aH:=(A.sY a0 AV.az).bind λx1=>A.cond x1 (some (AV.az,σ)) ((A.append 7 (140737488355328 / 80) AV.ez a0 σ).bind λr2=>some (r2.1,r2.2))
noncomputable def G5:au→Heap→aH:=A.tM (A.wrap true [(.s 7)] .k (A.dH Xb))
noncomputable def Qg (a0:AV) (σ:Heap):aH:=(A.sY a0 AV.az).bind λx1=>A.cond x1 (some (AV.az,σ)) ((A.append 3 (140737488355328 / 32) AV.ez a0 σ).bind λr2=>some (r2.1,r2.2))
noncomputable def EM:au→Heap→aH:=A.tM (A.wrap true [(.s 3)] .k (A.dH Qg))
noncomputable def Qd (a0:AV) (σ:Heap):aH:=(A.sY a0 AV.az).bind λx1=>A.cond x1 (some (AV.az,σ)) ((A.append 3 (140737488355328 / 32) AV.ez a0 σ).bind λr2=>some (r2.1,r2.2))
noncomputable def GZ:au→Heap→aH:=A.tM (A.wrap true [(.s 3)] .k (A.dH Qd))
noncomputable def Qf (a0:AV) (σ:Heap):aH:=(A.sY a0 AV.az).bind λx1=>A.cond x1 (some (AV.az,σ)) ((A.append 5 (140737488355328 / 40) AV.ez a0 σ).bind λr2=>some (r2.1,r2.2))
noncomputable def MG:au→Heap→aH:=A.tM (A.wrap false [] .k (A.dH Qf))
noncomputable def G4 (a0:AV) (σ:Heap):aH:=(A.sY a0 AV.az).bind λx1=>A.cond x1 (some (AV.az,σ)) ((A.append 10 (140737488355328 / 96) AV.ez a0 σ).bind λr2=>some (r2.1,r2.2))
noncomputable def G3:au→Heap→aH:=A.tM (A.wrap false [] .k (A.dH G4))
noncomputable def MB (dyn:Nat→au→Heap→aH) (a0 a1:AV) (σ:Heap):aH:=(A.bR a0).bind λx1=>(A.loop (λv2 s3=>(A.lss (aj v2 1) x1).bind λx5=>A.cond x5 ((A.aY 10 a0 (aj v2 1)).bind λx6=>((A.deref x6 s3).bind λc7=>A.aB 0 10 c7).bind λx8=>(A.lJ dyn a1 [x8] s3).bind λr9=>A.cond r9.1 (some (AX.ret,[(aj v2 1),(aj v2 1)],r9.2)) ((A.add (aj v2 1) (AV.ah 1)).bind λbX=>some (AX.normal,[(aj v2 0),bX],r9.2))) (some (AX.exit 0,[(aj v2 0),(aj v2 1)],s3))) [(AV.ah 0),(AV.ah 0)] σ).bind λey=>bif ey.1==AX.exit 0 then(A.fin σ (AV.ah (-1)) ey.2.2)else bif ey.1==AX.ret then(A.fin σ (aj ey.2.1 0) ey.2.2)else none
noncomputable def Du (dyn:Nat→au→Heap→aH):au→Heap→aH:=A.wrap true [(.s 10)] .k (A.dI (MB dyn))
noncomputable def Xi (a0:AV) (σ:Heap):aH:=(((A.cell a0).bind λv=>some [v]).bind λcs=>some (AV.rp cs)).bind λx1=>A.fin σ (AV.fn 359 [x1]) σ
noncomputable def MI:au→Heap→aH:=A.wrap true [] .k (A.dH Xi)
end
abbrev iT:={k:aG // 0≤k.unit∧k.unit≤1000000}
instance : Inhabited iT := ⟨⟨⟨0, ⟨#[]⟩⟩, by decide⟩⟩
def KeysOf(es:List (AV×AV))(l:List iT):Prop:=es.map (·.1)=l.map (λk=>AV.agg (aT k.1))∧l.Nodup∧l.length≤1000000
noncomputable def Jn:au→Heap→aH:=A.dI λx f σ=>match x,f with
 |.fn 359 [.rp (m::_)],.fn 372 []=>(A.yt m).bind λes=>open Classical in
  if h:∃l:List iT,KeysOf es l then some (.sl 2 ((oS (λa b:iT=>mO a.1 b.1) (Classical.choose h)).map λk=>aT k.1),σ)else none
 |_,_=>none
section
set_option maxRecDepth 100000
noncomputable def Sj (a0:AV) (σ:Heap):aH:=(A.Er a0).bind λx1=>(A.loop (λv2 s3=>(A.lss (aj v2 1) x1).bind λx5=>A.cond x5 ((A.wu a0 (aj v2 1)).bind λx6=>(A.geq x6 (AV.int .u8 97)).bind λx7=>(A.guard x7 true (some x6) ay).bind λx8=>(A.guard x7 true (A.leq x8 (AV.int .u8 122)) ay).bind λx9=>(A.pick x7 x9 aO).bind λbX=>(A.guard bX false (some x6) ay).bind λdJ=>(A.guard bX false (A.geq dJ (AV.int .u8 48)) ay).bind λdS=>(A.guard bX false (some dS) ay).bind λeB=>(A.guard eB true (some x6) ay).bind λdY=>(A.guard eB true (A.leq dY (AV.int .u8 57)) ay).bind λdK=>(A.guard bX false (A.pick eB dK aO) ay).bind λdg=>(A.pick bX dR dg).bind λdD=>(A.guard dD false (some x6) ay).bind λcI=>(A.guard dD false (A.eql .i cI (AV.int .u8 45)) ay).bind λeC=>(A.pick dD dR eC).bind λep=>(A.not ep).bind λcN=>A.cond cN (some (AX.ret,[aO,(aj v2 1)],s3)) ((A.add (aj v2 1) (AV.ah 1)).bind λeu=>some (AX.normal,[(aj v2 0),eu],s3))) (some (AX.exit 0,[(aj v2 0),(aj v2 1)],s3))) [aO,(AV.ah 0)] σ).bind λqh=>bif qh.1==AX.exit 0 then((A.neq .z a0 bA).bind λx24=>A.fin σ x24 qh.2.2)else bif qh.1==AX.ret then(A.fin σ (aj qh.2.1 0) qh.2.2)else none
noncomputable def Sa:au→Heap→aH:=A.wrap true [] .k (A.dH Sj)
noncomputable def RT (a0:AV) (σ:Heap):aH:=(Sa [a0] σ).bind λr1=>(A.guard r1.1 true (some a0) ay).bind λx2=>(A.guard r1.1 true (A.Er x2) ay).bind λx3=>(A.guard r1.1 true (A.leq x3 (AV.ah 20)) ay).bind λx4=>(A.pick r1.1 x4 aO).bind λx5=>(A.guard x5 true (some a0) ay).bind λx6=>(A.guard x5 true (A.wu x6 (AV.ah 0)) ay).bind λx7=>(A.guard x5 true (A.geq x7 (AV.int .u8 97)) ay).bind λx8=>(A.pick x5 x8 aO).bind λx9=>(A.guard x9 true (some a0) ay).bind λbX=>(A.guard x9 true (A.wu bX (AV.ah 0)) ay).bind λdJ=>(A.guard x9 true (A.leq dJ (AV.int .u8 122)) ay).bind λdS=>(A.pick x9 dS aO).bind λeB=>A.fin σ eB r1.2
noncomputable def Hz:au→Heap→aH:=A.wrap true [] .k (A.dH RT)
noncomputable def Rl (a0 a1 a2:AV) (σ:Heap):aH:=(A.geq a0 a1).bind λx1=>(A.guard x1 true (some a0) ay).bind λx2=>(A.guard x1 true (some a2) ay).bind λx3=>(A.guard x1 true (A.leq x2 x3) ay).bind λx4=>(A.pick x1 x4 aO).bind λx5=>A.fin σ x5 σ
noncomputable def lI:au→Heap→aH:=A.wrap true [] .k (A.mU Rl)
noncomputable def RU (a0 a1:AV) (σ:Heap):aH:=A.cond a0 (A.fin σ a1 σ) (A.fin σ (AV.ah 0) σ)
noncomputable def rP:au→Heap→aH:=A.wrap true [] .k (A.dI RU)
noncomputable def Rw (a0:AV) (σ:Heap):aH:=(A.bR a0).bind λx1=>(A.loop (λv2 s3=>(A.lss (aj v2 1) x1).bind λx5=>A.cond x5 ((A.aY 1 a0 (aj v2 1)).bind λx6=>((A.deref x6 s3).bind λc7=>A.ak 0 c7).bind λx8=>(A.neq .i x8 (AV.ah 0)).bind λx9=>A.cond x9 (some (AX.ret,[x8,(aj v2 1)],s3)) ((A.add (aj v2 1) (AV.ah 1)).bind λbX=>some (AX.normal,[(aj v2 0),bX],s3))) (some (AX.exit 0,[(aj v2 0),(aj v2 1)],s3))) [(AV.ah 0),(AV.ah 0)] σ).bind λey=>bif ey.1==AX.exit 0 then(A.fin σ (AV.ah 0) ey.2.2)else bif ey.1==AX.ret then(A.fin σ (aj ey.2.1 0) ey.2.2)else none
noncomputable def ya:au→Heap→aH:=A.wrap true [(.s 1)] .k (A.dH Rw)
noncomputable def Rz (a0:AV) (σ:Heap):aH:=(A.Er a0).bind λx1=>(A.loop (λv2 s3=>(A.lss (aj v2 1) x1).bind λx5=>A.cond x5 ((A.wu a0 (aj v2 1)).bind λx6=>(A.lss x6 (AV.int .u8 32)).bind λx7=>(A.guard x7 false (some a0) ay).bind λx8=>(A.guard x7 false (some (aj v2 1)) ay).bind λx9=>(A.guard x7 false (A.wu x8 x9) ay).bind λbX=>(A.guard x7 false (A.gtr bX (AV.int .u8 126)) ay).bind λdJ=>(A.pick x7 dR dJ).bind λdS=>A.cond dS (some (AX.ret,[aO,(aj v2 1)],s3)) ((A.add (aj v2 1) (AV.ah 1)).bind λeB=>some (AX.normal,[(aj v2 0),eB],s3))) (some (AX.exit 0,[(aj v2 0),(aj v2 1)],s3))) [aO,(AV.ah 0)] σ).bind λkP=>bif kP.1==AX.exit 0 then((A.neq .z a0 bA).bind λdK=>(A.guard dK true (some a0) ay).bind λdg=>(A.guard dK true (A.Er dg) ay).bind λdD=>(A.guard dK true (A.leq dD (AV.ah 60)) ay).bind λcI=>(A.pick dK cI aO).bind λeC=>(A.guard eC true (some a0) ay).bind λep=>(A.guard eC true (A.wu ep (AV.ah 0)) ay).bind λcN=>(A.guard eC true (A.neq .i cN (AV.int .u8 32)) ay).bind λeu=>(A.pick eC eu aO).bind λfC=>(A.guard fC true (some a0) ay).bind λx24=>(A.guard fC true (some a0) ay).bind λx25=>(A.guard fC true (A.Er x25) ay).bind λgh=>(A.guard fC true (A.sub gh (AV.ah 1)) ay).bind λeU=>(A.guard fC true (A.wu x24 eU) ay).bind λx28=>(A.guard fC true (A.neq .i x28 (AV.int .u8 32)) ay).bind λx29=>(A.pick fC x29 aO).bind λdO=>A.fin σ dO kP.2.2)else bif kP.1==AX.ret then(A.fin σ (aj kP.2.1 0) kP.2.2)else none
noncomputable def Nd:au→Heap→aH:=A.wrap true [] .k (A.dH Rz)
noncomputable def Rx (a0 a1:AV) (σ:Heap):aH:=(A.quo a0 a1).bind λx1=>(A.rem a0 a1).bind λx2=>(A.lss x2 (AV.ah 0)).bind λx3=>(A.cond x3 ((A.sub x1 (AV.ah 1)).bind λx5=>some ([x5],σ)) (some ([x1],σ))).bind λr4=>A.fin σ (aj r4.1 0) r4.2
noncomputable def Ro:au→Heap→aH:=A.wrap true [] .k (A.dI Rx)
noncomputable def Ry (a0 a1:AV) (σ:Heap):aH:=(A.mul (AV.ah 2) a0).bind λx1=>(A.add x1 a1).bind λx2=>(A.mul (AV.ah 2) a1).bind λx3=>(Ro [x2,x3] σ).bind λr4=>A.fin σ r4.1 r4.2
noncomputable def Rp:au→Heap→aH:=A.wrap true [] .k (A.dI Ry)
end
section
set_option maxRecDepth 100000
noncomputable def QE (a0:AV) (σ:Heap):aH:=(lI [a0,(AV.ah 0),(AV.ah 65535)] σ).bind λr1=>A.fin σ r1.1 r1.2
noncomputable def Js:au→Heap→aH:=A.wrap true [] .k (A.dH QE)
noncomputable def Qr (a0:AV) (σ:Heap):aH:=(A.bR a0).bind λx1=>(A.gtr x1 (AV.ah 30)).bind λx2=>A.cond x2 (A.fin σ (AV.ah 2) σ) ((A.bR a0).bind λx3=>(A.loop (λv4 s5=>(A.lss (aj v4 1) x3).bind λx7=>A.cond x7 ((A.aY 3 a0 (aj v4 1)).bind λx8=>((A.deref x8 s5).bind λc9=>A.aB 0 3 c9).bind λbX=>(A.cells 3 bX).bind λiq=>(A.aq 0 iq [(AV.ah 0),(AV.ah 0),bA]).bind λfJ=>(A.ak 0 fJ).bind λeB=>(Js [eB] s5).bind λkP=>(A.not kP.1).bind λdK=>(A.guard dK false (A.ak 1 fJ) ay).bind λdg=>(A.guard dK false (A.quiet (Js [dg] kP.2) kP.2) ay).bind λdD=>(A.guard dK false (A.not dD) ay).bind λcI=>(A.pick dK dR cI).bind λeC=>(A.guard eC false (A.ak 0 fJ) ay).bind λep=>(A.guard eC false (A.ak 1 fJ) ay).bind λcN=>(A.guard eC false (A.gtr ep cN) ay).bind λeu=>(A.pick eC dR eu).bind λfC=>A.cond fC (some (AX.ret,[(AV.ah 1),(aj v4 1)],kP.2)) ((A.gtr (aj v4 1) (AV.ah 0)).bind λx24=>(A.guard x24 true (A.ak 0 fJ) ay).bind λx25=>(A.guard x24 true (some a0) ay).bind λgh=>(A.guard x24 true (some (aj v4 1)) ay).bind λeU=>(A.guard x24 true (A.sub eU (AV.ah 1)) ay).bind λx28=>(A.guard x24 true (A.aY 3 gh x28) ay).bind λx29=>(A.guard x24 true (A.aF 1 x29) ay).bind λdO=>(A.guard x24 true ((A.deref dO kP.2).bind λyO=>A.ak 0 yO) ay).bind λx32=>(A.guard x24 true (A.leq x25 x32) ay).bind λeW=>(A.pick x24 eW aO).bind λx34=>A.cond x34 (some (AX.ret,[(AV.ah 7),(aj v4 1)],kP.2)) ((A.ak 2 fJ).bind λjc=>(Hz [jc] kP.2).bind λMa=>(A.not Ma.1).bind λcK=>A.cond cK (some (AX.ret,[(AV.ah 5),(aj v4 1)],Ma.2)) ((A.ak 2 fJ).bind λx38=>(A.look .z (AV.om σ.length) x38 aO Ma.2).bind λgj=>A.cond gj (some (AX.ret,[(AV.ah 6),(aj v4 1)],Ma.2)) ((A.ak 2 fJ).bind λdV=>(A.fV .z (AV.om σ.length) dV dR Ma.2).bind λh41=>(A.add (aj v4 1) (AV.ah 1)).bind λgz=>some (AX.normal,[(aj v4 0),gz],h41)))))) (some (AX.exit 0,[(aj v4 0),(aj v4 1)],s5))) [(AV.ah 0),(AV.ah 0)] (σ++[aS.map []])).bind λkJ=>bif kJ.1==AX.exit 0 then(A.fin σ (AV.ah 0) kJ.2.2)else bif kJ.1==AX.ret then(A.fin σ (aj kJ.2.1 0) kJ.2.2)else none)
noncomputable def Qq:au→Heap→aH:=A.wrap true [(.s 3)] .k (A.dH Qr)
noncomputable def Qn (a0:AV) (σ:Heap):aH:=(A.cells 3 a0).bind λc1=>(A.ak 0 c1).bind λx2=>(Hz [x2] σ).bind λr3=>(A.not r3.1).bind λx4=>A.cond x4 (A.fin σ (AV.ah 5) r3.2) ((A.ak 1 c1).bind λx5=>(lI [x5,(AV.ah 1),(AV.ah 512)] r3.2).bind λr6=>(A.not r6.1).bind λx7=>A.cond x7 (A.fin σ (AV.ah 1) r6.2) ((A.ak 2 c1).bind λx8=>(A.bR x8).bind λx9=>(A.eql .i x9 (AV.ah 0)).bind λbX=>A.cond bX (A.fin σ (AV.ah 8) r6.2) ((A.ak 2 c1).bind λdJ=>(A.bR dJ).bind λdS=>(A.gtr dS (AV.ah 40)).bind λeB=>A.cond eB (A.fin σ (AV.ah 2) r6.2) ((A.ak 2 c1).bind λdY=>(A.bR dY).bind λdK=>(A.loop (λbu mX=>(A.lss (aj bu 2) dK).bind λeC=>A.cond eC ((A.aY 7 dY (aj bu 2)).bind λep=>((A.deref ep mX).bind λlB=>A.aB 0 7 lB).bind λeu=>(A.cells 7 eu).bind λgd=>(A.aq 0 gd [bA,(AV.ah 0),(AV.ah 0),(AV.ah 0),(AV.ah 0),aO,AV.az]).bind λiB=>(A.ak 0 iB).bind λx25=>(Hz [x25] mX).bind λmo=>(A.not mo.1).bind λeU=>A.cond eU (some (AX.ret,[(aj bu 0),(AV.ah 5),(aj bu 2)],mo.2)) ((A.ak 0 iB).bind λx28=>(A.look .z (AV.om r6.2.length) x28 aO mo.2).bind λx29=>A.cond x29 (some (AX.ret,[(aj bu 0),(AV.ah 6),(aj bu 2)],mo.2)) ((A.ak 1 iB).bind λdO=>(lI [dO,(AV.ah 1),(AV.ah 4)] mo.2).bind λvE=>(A.not vE.1).bind λx32=>A.cond x32 (some (AX.ret,[(aj bu 0),(AV.ah 4),(aj bu 2)],vE.2)) ((A.ak 2 iB).bind λeW=>((A.lb (aj bu 0)).bind λ_=>some (1)).bind λAu=>((A.lb (aj bu 0)).bind λgr=>A.ak Au gr).bind λfG=>(lI [eW,(AV.ah 1),fG] vE.2).bind λjK=>(A.not jK.1).bind λx38=>(A.guard x38 false (A.ak 3 iB) ay).bind λgj=>((A.lb (aj bu 0)).bind λ_ => some (1)).bind λAv =>(A.guard x38 false ((A.lb (aj bu 0)).bind λpE=>A.ak Av pE) ay).bind λgz=>(A.guard x38 false (A.quiet (lI [gj,(AV.ah 0),gz] jK.2) jK.2) ay).bind λfk=>(A.guard x38 false (A.not fk) ay).bind λeY=>(A.pick x38 dR eY).bind λfO=>(A.guard fO false (A.ak 4 iB) ay).bind λgP=>(A.guard fO false (A.quiet (Js [gP] jK.2) jK.2) ay).bind λkr=>(A.guard fO false (A.not kr) ay).bind λgK=>(A.pick fO dR gK).bind λeZ=>A.cond eZ (some (AX.ret,[(aj bu 0),(AV.ah 1),(aj bu 2)],jK.2)) ((A.ak 2 iB).bind λlG=>(A.ak 3 iB).bind λjD=>(A.eql .i lG jD).bind λeP=>(A.guard eP false (some (AV.om (r6.2++[aS.map []]).length)) ay).bind λiy=>(A.guard eP false (A.ak 2 iB) ay).bind λgL=>(A.guard eP false (A.look .i iy gL aO jK.2) ay).bind λjU=>(A.pick eP dR jU).bind λfH=>(A.guard fH false (A.ak 3 iB) ay).bind λmq=>(A.guard fH false (A.gtr mq (AV.ah 0)) ay).bind λiG=>(A.guard fH false (some iG) ay).bind λfK=>(A.guard fK true (some (AV.om (r6.2++[aS.map []]).length)) ay).bind λjE=>(A.guard fK true (A.ak 3 iB) ay).bind λjF=>(A.guard fK true (A.look .i jE jF aO jK.2) ay).bind λfc=>(A.guard fH false (A.pick fK fc aO) ay).bind λgW=>(A.pick fH dR gW).bind λku=>A.cond ku (some (AX.ret,[(aj bu 0),(AV.ah 12),(aj bu 2)],jK.2)) ((A.ak 6 iB).bind λiH=>(Qq [iH] jK.2).bind λy9=>(A.neq .i y9.1 (AV.ah 0)).bind λkC=>A.cond kC (some (AX.ret,[(aj bu 0),y9.1,(aj bu 2)],y9.2)) ((A.ak 0 iB).bind λiI=>(A.ak 2 iB).bind λgX=>(A.fV .z (AV.om r6.2.length) iI dR y9.2).bind λh70=>(A.fV .i (AV.om (r6.2++[aS.map []]).length) gX dR h70).bind λPB=>(A.ak 3 iB).bind λnB=>(A.gtr nB (AV.ah 0)).bind λiz=>(A.cond iz ((A.ak 3 iB).bind λfP=>(A.fV .i (AV.om (r6.2++[aS.map []]).length) fP dR PB).bind λh76=>some ([(aj bu 0)],h76)) (some ([(aj bu 0)],PB))).bind λAA=>(A.add (aj bu 2) (AV.ah 1)).bind λqT=>some (AX.normal,[(aj AA.1 0),(aj bu 1),qT],AA.2)))))))) (some (AX.exit 1,[(aj bu 0),(aj bu 1),(aj bu 2)],mX))) [(AV.lbx c1),(AV.ah 0),(AV.ah 0)] ((r6.2++[aS.map []])++[aS.map []])).bind λza=>bif za.1==AX.exit 1 then(A.fin σ (AV.ah 0) za.2.2)else bif za.1==AX.ret then(A.fin σ (aj za.2.1 1) za.2.2)else none))))
noncomputable def Ql:au→Heap→aH:=A.wrap true [(.a [.k,.k,(.s 7)])] .k (A.dH Qn)
noncomputable def Qm (a0:AV) (σ:Heap):aH:=(A.bR a0).bind λx1=>(A.gtr x1 (AV.ah 60)).bind λx2=>A.cond x2 (A.fin σ (AV.ah 2) σ) ((A.bR a0).bind λx3=>(A.loop (λv4 s5=>(A.lss (aj v4 1) x3).bind λx7=>A.cond x7 ((A.aY 3 a0 (aj v4 1)).bind λx8=>((A.deref x8 s5).bind λc9=>A.aB 0 3 c9).bind λbX=>(A.cells 3 bX).bind λiq=>(A.aq 0 iq [bA,(AV.ah 0),AV.az]).bind λfJ=>(A.aB 0 3 fJ).bind λeB=>(Ql [eB] s5).bind λkP=>(A.neq .i kP.1 (AV.ah 0)).bind λdK=>A.cond dK (some (AX.ret,[kP.1,(aj v4 1)],kP.2)) ((A.ak 0 fJ).bind λdg=>(A.look .z (AV.om σ.length) dg aO kP.2).bind λdD=>A.cond dD (some (AX.ret,[(AV.ah 6),(aj v4 1)],kP.2)) ((A.ak 0 fJ).bind λcI=>(A.fV .z (AV.om σ.length) cI dR kP.2).bind λh19=>(A.add (aj v4 1) (AV.ah 1)).bind λep=>some (AX.normal,[(aj v4 0),ep],h19)))) (some (AX.exit 0,[(aj v4 0),(aj v4 1)],s5))) [(AV.ah 0),(AV.ah 0)] (σ++[aS.map []])).bind λDl=>bif Dl.1==AX.exit 0 then(A.fin σ (AV.ah 0) Dl.2.2)else bif Dl.1==AX.ret then(A.fin σ (aj Dl.2.1 0) Dl.2.2)else none)
noncomputable def Qk:au→Heap→aH:=A.wrap true [(.s 3)] .k (A.dH Qm)
noncomputable def Qs (a0 a1:AV) (σ:Heap):aH:=(A.cells 3 a0).bind λc1=>(A.ak 0 c1).bind λx2=>((A.deref a1 σ).bind λc3=>A.ak 0 c3).bind λx4=>(A.eql .z x2 x4).bind λx5=>A.fin σ x5 σ
noncomputable def Jp:au→Heap→aH:=A.wrap true [(.a [.k,.k,(.s 7)])] .k (A.dI Qs)
noncomputable def MX (a0 a1:AV) (σ:Heap):aH:=(((A.cell a1).bind λv=>some [v]).bind λcs=>some (AV.rp cs)).bind λx1=>(Mz (A.tab (λ_ _=>none) [(64,Jp)]) [a0,(AV.fn 64 [x1])] σ).bind λr2=>(A.lss r2.1 (AV.ah 0)).bind λx3=>A.cond x3 ((A.cells 3 (AV.agg [bA,(AV.ah 0),AV.az])).bind λc4=>(A.aq 0 c4 [bA,(AV.ah 0),AV.az]).bind λc5=>(A.aB 0 3 c5).bind λx6=>A.fin σ (AV.aM [x6,aO]) r2.2) ((A.aY 3 a0 r2.1).bind λx7=>((A.deref x7 r2.2).bind λc8=>A.aB 0 3 c8).bind λx9=>(A.cells 3 x9).bind λfL=>(A.aq 0 fL [bA,(AV.ah 0),AV.az]).bind λiq=>(A.aB 0 3 iq).bind λdS=>A.fin σ (AV.aM [dS,dR]) r2.2)
noncomputable def MT:au→Heap→aH:=A.wrap true [(.s 3)] (.t [(.a FG),.k]) (A.dI MX)
noncomputable def Jq (a0 a1 a2:AV) (σ:Heap):aH:=(A.eql .p a0 AV.np).bind λx1=>A.cond x1 ((A.add a1 a2).bind λx2=>(A.sub x2 (AV.ah 1)).bind λx3=>(A.leq x3 (AV.ah 512)).bind λx4=>A.fin σ x4 σ) ((A.loop (λv5 s6=>(A.add a1 a2).bind λx8=>(A.lss (aj v5 1) x8).bind λx9=>A.cond x9 ((A.gtr (aj v5 1) (AV.ah 512)).bind λbX=>(A.guard bX false (some a0) ay).bind λdJ=>(A.guard bX false (some (aj v5 1)) ay).bind λdS=>(A.guard bX false (A.aU dJ) ay).bind λeB=>(A.guard bX false (A.Bg 513 1 eB dS) ay).bind λdY=>(A.guard bX false ((A.deref dY s6).bind λmV=>A.ak 0 mV) ay).bind λdg=>(A.pick bX dR dg).bind λdD=>A.cond dD (some (AX.ret,[aO,(aj v5 1)],s6)) ((A.add (aj v5 1) (AV.ah 1)).bind λcI=>some (AX.normal,[(aj v5 0),cI],s6))) (some (AX.exit 0,[(aj v5 0),(aj v5 1)],s6))) [aO,a1] σ).bind λmI=>bif mI.1==AX.exit 0 then(A.fin σ dR mI.2.2)else bif mI.1==AX.ret then(A.fin σ (aj mI.2.1 0) mI.2.2)else none)
noncomputable def G7:au→Heap→aH:=A.wrap true [] .k (A.mU Jq)
noncomputable def JC (a0 a1 a2:AV) (σ:Heap):aH:=(A.cells 4 a1).bind λc1=>(A.ak 2 c1).bind λx2=>(A.look .i a0 x2 AV.np σ).bind λx3=>(A.eql .p x3 AV.np).bind λx4=>(A.cond x4 ((A.ak 2 c1).bind λx6=>(A.fV .i a0 x6 (AV.op σ.length 0) (σ++[aS.box (List.replicate 513 aO)])).bind λh7=>some ([(AV.lbx c1)],h7)) (some ([(AV.lbx c1)],σ))).bind λr5=>((A.lb (aj r5.1 0)).bind λ_=>some (3)).bind λp8=>((A.lb (aj r5.1 0)).bind λc9=>A.ak p8 c9).bind λbX=>(A.loop (λv11 mK=>((A.lb (aj v11 0)).bind λ_=>some (3)).bind λp14=>((A.lb (aj v11 0)).bind λmV=>A.ak p14 mV).bind λdg=>(A.add dg a2).bind λdD=>(A.lss (aj v11 1) dD).bind λcI=>A.cond cI (((A.lb (aj v11 0)).bind λ_=>some (2)).bind λp19=>((A.lb (aj v11 0)).bind λjR=>A.ak p19 jR).bind λcN=>(A.look .i a0 cN AV.np mK).bind λeu=>(A.aU eu).bind λfC=>(A.Bg 513 1 fC (aj v11 1)).bind λx24=>((A.cell dR).bind λv=>some [v]).bind λgE=>(A.storeAt x24 gE mK).bind λiC=>(A.add (aj v11 1) (AV.ah 1)).bind λeU=>some (AX.normal,[(aj v11 0),eU],iC)) (some (AX.exit 0,[(aj v11 0),(aj v11 1)],mK))) [(aj r5.1 0),bX] r5.2).bind λvD=>bif vD.1==AX.exit 0 then(some ((AV.aM []),vD.2.2))else none
noncomputable def M1:au→Heap→aH:=A.wrap false [] .k (A.mU JC)
noncomputable def Qy (a0:AV) (σ:Heap):aH:=(A.cells 2 a0).bind λc1=>(A.ak 0 c1).bind λx2=>(Qk [x2] σ).bind λr3=>(A.neq .i r3.1 (AV.ah 0)).bind λx4=>A.cond x4 (A.fin σ r3.1 r3.2) ((A.ak 1 c1).bind λx5=>(A.bR x5).bind λx6=>(A.gtr x6 (AV.ah 400)).bind λx7=>A.cond x7 (A.fin σ (AV.ah 2) r3.2) ((A.ak 1 c1).bind λx8=>(A.bR x8).bind λx9=>(A.loop (λv10 wI=>(A.lss (aj v10 2) x9).bind λeB=>A.cond eB ((A.aY 4 x8 (aj v10 2)).bind λdY=>((A.deref dY wI).bind λmV=>A.aB 0 4 mV).bind λdg=>(A.cells 4 dg).bind λpq=>(A.aq 0 pq [(AV.ah 0),bA,(AV.ah 0),(AV.ah 0)]).bind λjm=>(A.ak 0 jm).bind λeC=>(lI [eC,(AV.ah 1),(AV.ah 9999)] wI).bind λDk=>(A.not Dk.1).bind λcN=>A.cond cN (some (AX.ret,[(aj v10 0),(AV.ah 1),(aj v10 2)],Dk.2)) ((A.gtr (aj v10 2) (AV.ah 0)).bind λeu=>(A.guard eu true (A.ak 0 jm) ay).bind λfC=>((A.lb (aj v10 0)).bind λ_ => some (1)).bind λp24 =>(A.guard eu true ((A.lb (aj v10 0)).bind λgE=>A.ak p24 gE) ay).bind λgh=>(A.guard eu true (some (aj v10 2)) ay).bind λeU=>(A.guard eu true (A.sub eU (AV.ah 1)) ay).bind λx28=>(A.guard eu true (A.aY 4 gh x28) ay).bind λx29=>(A.guard eu true (A.aF 0 x29) ay).bind λdO=>(A.guard eu true ((A.deref dO Dk.2).bind λyO=>A.ak 0 yO) ay).bind λx32=>(A.guard eu true (A.leq fC x32) ay).bind λeW=>(A.pick eu eW aO).bind λx34=>A.cond x34 (some (AX.ret,[(aj v10 0),(AV.ah 7),(aj v10 2)],Dk.2)) (((A.lb (aj v10 0)).bind λ_=>some (0)).bind λp35=>((A.lb (aj v10 0)).bind λjJ=>A.ak p35 jJ).bind λcK=>(A.ak 1 jm).bind λx38=>(MT [cK,x38] Dk.2).bind λiP=>(A.ext 0 iP.1).bind λdV=>(A.ext 1 iP.1).bind λeX=>(A.cells 3 dV).bind λmB=>(A.aq 0 mB [bA,(AV.ah 0),AV.az]).bind λxI=>(A.not eX).bind λeY=>A.cond eY (some (AX.ret,[(aj v10 0),(AV.ah 5),(aj v10 2)],iP.2)) ((A.ak 2 jm).bind λfO=>(lI [fO,(AV.ah 1),(AV.ah 64)] iP.2).bind λqR=>(A.not qR.1).bind λkr=>(A.guard kr false (A.ak 3 jm) ay).bind λgK=>(A.guard kr false (A.quiet (lI [gK,(AV.ah 1),(AV.ah 512)] qR.2) qR.2) ay).bind λeZ=>(A.guard kr false (A.not eZ) ay).bind λlG=>(A.pick kr dR lG).bind λjD=>(A.guard jD false (A.ak 3 jm) ay).bind λeP=>(A.guard jD false (A.ak 1 xI) ay).bind λiy=>(A.guard jD false (A.add eP iy) ay).bind λgL=>(A.guard jD false (A.sub gL (AV.ah 1)) ay).bind λjU=>(A.guard jD false (A.gtr jU (AV.ah 512)) ay).bind λfH=>(A.pick jD dR fH).bind λmq=>A.cond mq (some (AX.ret,[(aj v10 0),(AV.ah 1),(aj v10 2)],qR.2)) ((A.ak 2 jm).bind λiG=>(A.look .i (AV.om r3.2.length) iG AV.np qR.2).bind λfK=>(A.ak 3 jm).bind λjE=>(A.ak 1 xI).bind λjF=>(G7 [fK,jE,jF] qR.2).bind λWH=>(A.not WH.1).bind λgW=>A.cond gW (some (AX.ret,[(aj v10 0),(AV.ah 12),(aj v10 2)],WH.2)) ((A.aB 0 4 jm).bind λku=>(A.ak 1 xI).bind λiH=>(M1 [(AV.om r3.2.length),ku,iH] WH.2).bind λy9=>(A.add (aj v10 2) (AV.ah 1)).bind λkC=>some (AX.normal,[(aj v10 0),(aj v10 1),kC],y9.2))))))) (some (AX.exit 0,[(aj v10 0),(aj v10 1),(aj v10 2)],wI))) [(AV.lbx c1),(AV.ah 0),(AV.ah 0)] (r3.2++[aS.map []])).bind λDn=>bif Dn.1==AX.exit 0 then(A.fin σ (AV.ah 0) Dn.2.2)else bif Dn.1==AX.ret then(A.fin σ (aj Dn.2.1 1) Dn.2.2)else none))
noncomputable def MN:au→Heap→aH:=A.wrap true [(.a [(.s 3),(.s 4)])] .k (A.dH Qy)
noncomputable def JB (a0:AV) (σ:Heap):aH:=(A.cells 2 a0).bind λc1=>(A.aB 0 2 c1).bind λx2=>(MN [x2] σ).bind λr3=>(A.neq .i r3.1 (AV.ah 0)).bind λx4=>A.cond x4 (A.fin σ (AV.aM [AV.az,r3.1]) r3.2) ((A.ak 1 c1).bind λx5=>(A.bR x5).bind λx6=>(A.loop (λv7 s8=>(A.lss (aj v7 2) x6).bind λbX=>A.cond bX ((A.aY 4 x5 (aj v7 2)).bind λdJ=>((A.deref dJ s8).bind λfJ=>A.aB 0 4 fJ).bind λeB=>(A.cells 4 eB).bind λlz=>(A.aq 0 lz [(AV.ah 0),bA,(AV.ah 0),(AV.ah 0)]).bind λmV=>((A.lb (aj v7 0)).bind λ_=>some (0)).bind λp16=>((A.lb (aj v7 0)).bind λpq=>A.ak p16 pq).bind λcI=>(A.ak 1 mV).bind λeC=>(MT [cI,eC] s8).bind λDk=>(A.ext 0 Dk.1).bind λcN=>(A.ext 1 Dk.1).bind λeu=>(A.cells 3 cN).bind λgd=>(A.aq 0 gd [bA,(AV.ah 0),AV.az]).bind λiB=>(A.ak 2 iB).bind λx25=>(A.bR x25).bind λgh=>(A.loop (λzc WL=>(A.lss (aj zc 3) gh).bind λdO=>A.cond dO ((A.aY 7 x25 (aj zc 3)).bind λx31=>((A.deref x31 WL).bind λVU=>A.aB 0 7 VU).bind λeW=>(A.cells 7 eW).bind λvk=>(A.aq 0 vk [bA,(AV.ah 0),(AV.ah 0),(AV.ah 0),(AV.ah 0),aO,AV.az]).bind λgr=>((A.lb (aj zc 2)).bind λ_=>some (0)).bind λp36=>((A.lb (aj zc 2)).bind λiu=>A.ak p36 iu).bind λx38=>(A.ak 0 gr).bind λgj=>((((A.cell x38).bind λv=>some [v]).bind λBy=>(A.aq 0 By [(AV.ah 0),bA]).bind λpE=>((A.cell gj).bind λv=>some [v]).bind λmB=>(A.aq 1 mB pE).bind λxI=>some xI).bind λcs=>some (AV.agg cs)).bind λeY=>(((A.cells 2 eY).bind λAj=>(A.aq 0 Aj [(AV.ah 0),bA]).bind λVV=>some VV).bind λcs=>some (AV.sl 2 (fI 2 1 cs))).bind λkr=>(A.append 2 (140737488355328 / 24) (aj zc 1) kr WL).bind λmJ=>(A.add (aj zc 3) (AV.ah 1)).bind λeZ=>some (AX.normal,[(aj zc 0),mJ.1,(aj zc 2),eZ],mJ.2)) (some (AX.exit 2,[(aj zc 0),(aj zc 1),(aj zc 2),(aj zc 3)],WL))) [(aj v7 0),(aj v7 1),(AV.lbx mV),(AV.ah 0)] Dk.2).bind λdN=>bif dN.1==AX.exit 2 then((A.add (aj v7 2) (AV.ah 1)).bind λjD=>some (AX.normal,[(aj dN.2.1 0),(aj dN.2.1 1),jD],dN.2.2))else none) (some (AX.exit 0,[(aj v7 0),(aj v7 1),(aj v7 2)],s8))) [(AV.lbx c1),AV.az,(AV.ah 0)] r3.2).bind λGR=>bif GR.1==AX.exit 0 then(A.fin σ (AV.aM [(aj GR.2.1 1),(AV.ah 0)]) GR.2.2)else none)
noncomputable def Hj:au→Heap→aH:=A.wrap true [(.a [(.s 3),(.s 4)])] (.t [(.s 2),.k]) (A.dH JB)
end
def JF:au→Heap→aH:=A.dI λa b σ=>match a,b with
 |.int .u64 x,.int .u64 y=>if 0≤x∧x<18446744073709551616∧0≤y∧y<18446744073709551616 then some (.aM [.int .u64 ((x.toNat*y.toNat / 18446744073709551616:Nat):Int),.int .u64 ((x.toNat*y.toNat % 18446744073709551616:Nat):Int)],σ)else none
 |_,_=>none
def Ht:au→Heap→aH:=A.mU λa b c σ=>match a,b,c with
 |.int .u64 x,.int .u64 y,.int .u64 c=>if 0≤x∧x<18446744073709551616∧0≤y∧y<18446744073709551616∧0≤c∧c≤1 then some (.aM [.int .u64 (((x.toNat+y.toNat+c.toNat) % 18446744073709551616:Nat):Int),.int .u64 (((x.toNat+y.toNat+c.toNat) / 18446744073709551616:Nat):Int)],σ)else none
 |_,_,_=>none
section
set_option maxRecDepth 100000
noncomputable def Qz (a0:AV) (σ:Heap):aH:=(A.cells 2 a0).bind λc1=>(A.ak 0 c1).bind λx2=>(lI [x2,(AV.ah 1),(AV.ah 6)] σ).bind λr3=>(A.not r3.1).bind λx4=>A.cond x4 (A.fin σ (AV.ah 4) r3.2) ((A.ak 1 c1).bind λx5=>(A.ak 0 c1).bind λx6=>(A.neq .i x6 (AV.ah 6)).bind λx7=>A.cond x7 ((A.bR x5).bind λx8=>(A.gtr x8 (AV.ah 0)).bind λx9=>(rP [x9,(AV.ah 3)] r3.2).bind λlR=>A.fin σ lR.1 lR.2) ((A.bR x5).bind λdJ=>(A.lss dJ (AV.ah 2)).bind λdS=>A.cond dS (A.fin σ (AV.ah 8) r3.2) ((A.bR x5).bind λeB=>(A.gtr eB (AV.ah 20)).bind λdY=>A.cond dY (A.fin σ (AV.ah 2) r3.2) ((A.bR x5).bind λdK=>(A.loop (λbu mX=>(A.lss (aj bu 1) dK).bind λeC=>A.cond eC ((A.aY 2 x5 (aj bu 1)).bind λep=>((A.deref ep mX).bind λlB=>A.aB 0 2 lB).bind λeu=>(A.cells 2 eu).bind λgd=>(A.aq 0 gd [(AV.ah 0),(AV.ah 0)]).bind λiB=>(A.ak 0 iB).bind λx25=>(lI [x25,(AV.ah 0),(AV.ah 1000)] mX).bind λmo=>(A.not mo.1).bind λeU=>(A.guard eU false (A.ak 1 iB) ay).bind λx28=>(A.guard eU false (A.quiet (lI [x28,(AV.ah 0),(AV.ah 1000)] mo.2) mo.2) ay).bind λx29=>(A.guard eU false (A.not x29) ay).bind λdO=>(A.pick eU dR dO).bind λx31=>A.cond x31 (some (AX.ret,[(AV.ah 1),(aj bu 1)],mo.2)) ((A.add (aj bu 1) (AV.ah 1)).bind λx32=>some (AX.normal,[(aj bu 0),x32],mo.2))) (some (AX.exit 0,[(aj bu 0),(aj bu 1)],mX))) [(AV.ah 0),(AV.ah 0)] r3.2).bind λpN=>bif pN.1==AX.exit 0 then((A.aY 2 x5 (AV.ah 0)).bind λx34=>((A.deref x34 pN.2.2).bind λgr=>A.aB 0 2 gr).bind λfG=>(A.neq (.s [0,0]) fG (AV.agg [(AV.ah 0),(AV.ah 0)])).bind λcK=>(A.guard cK false (some x5) ay).bind λx38=>(A.guard cK false (some x5) ay).bind λgj=>(A.guard cK false (A.bR gj) ay).bind λdV=>(A.guard cK false (A.sub dV (AV.ah 1)) ay).bind λeX=>(A.guard cK false (A.aY 2 x38 eX) ay).bind λgz=>(A.guard cK false ((A.deref gz pN.2.2).bind λxI=>A.aB 0 2 xI) ay).bind λeY=>(A.guard cK false ((((A.cell (AV.ah 1000)).bind λv=>some [v]).bind λAj=>(A.aq 0 Aj [(AV.ah 0),(AV.ah 0)]).bind λVV=>((A.cell (AV.ah 1000)).bind λv=>some [v]).bind λiD=>(A.aq 1 iD VV).bind λsQ=>some sQ).bind λcs=>some (AV.agg cs)) ay).bind λeZ=>(A.guard cK false (A.neq (.s [0,0]) eY eZ) ay).bind λlG=>(A.pick cK dR lG).bind λjD=>A.cond jD (A.fin σ (AV.ah 3) pN.2.2) ((A.loop (λfN jL=>(A.bR x5).bind λjU=>(A.lss (aj fN 1) jU).bind λfH=>A.cond fH ((A.aY 2 x5 (aj fN 1)).bind λmq=>(A.aF 0 mq).bind λiG=>((A.deref iG jL).bind λC3=>A.ak 0 C3).bind λjE=>(A.sub (aj fN 1) (AV.ah 1)).bind λjF=>(A.aY 2 x5 jF).bind λfc=>(A.aF 0 fc).bind λgW=>((A.deref gW jL).bind λsS=>A.ak 0 sS).bind λiH=>(A.leq jE iH).bind λgG=>(A.guard gG false (some x5) ay).bind λkC=>(A.guard gG false (some (aj fN 1)) ay).bind λiI=>(A.guard gG false (A.aY 2 kC iI) ay).bind λgX=>(A.guard gG false (A.aF 1 gX) ay).bind λgM=>(A.guard gG false ((A.deref gM jL).bind λnK=>A.ak 0 nK) ay).bind λnB=>(A.guard gG false (some x5) ay).bind λiz=>(A.guard gG false (some (aj fN 1)) ay).bind λjr=>(A.guard gG false (A.sub jr (AV.ah 1)) ay).bind λfP=>(A.guard gG false (A.aY 2 iz fP) ay).bind λkD=>(A.guard gG false (A.aF 1 kD) ay).bind λqT=>(A.guard gG false ((A.deref qT jL).bind λnr=>A.ak 0 nr) ay).bind λkE=>(A.guard gG false (A.lss nB kE) ay).bind λgm=>(A.pick gG dR gm).bind λnC=>A.cond nC (some (AX.ret,[(AV.ah 7),(aj fN 1)],jL)) ((A.add (aj fN 1) (AV.ah 1)).bind λnD=>some (AX.normal,[(aj fN 0),nD],jL))) (some (AX.exit 2,[(aj fN 0),(aj fN 1)],jL))) [(aj pN.2.1 0),(AV.ah 1)] pN.2.2).bind λMd=>bif Md.1==AX.exit 2 then(A.fin σ (AV.ah 0) Md.2.2)else bif Md.1==AX.ret then(A.fin σ (aj Md.2.1 0) Md.2.2)else none))else bif pN.1==AX.ret then(A.fin σ (aj pN.2.1 0) pN.2.2)else none))))
noncomputable def MO:au→Heap→aH:=A.wrap true [(.a [.k,(.s 2)])] .k (A.dH Qz)
noncomputable def QY (a0:AV) (σ:Heap):aH:=(lI [a0,(AV.ah 0),(AV.ah 65535)] σ).bind λr1=>A.fin σ r1.1 r1.2
noncomputable def QV:au→Heap→aH:=A.wrap true [] .k (A.dH QY)
noncomputable def Q6 (a0:AV) (σ:Heap):aH:=(A.bR a0).bind λx1=>(A.loop (λv2 s3=>(A.lss (aj v2 1) x1).bind λx5=>A.cond x5 ((A.aY 1 a0 (aj v2 1)).bind λx6=>((A.deref x6 s3).bind λc7=>A.ak 0 c7).bind λx8=>(QV [x8] s3).bind λr9=>(A.not r9.1).bind λbX=>A.cond bX (some (AX.ret,[(AV.ah 1),(aj v2 1)],r9.2)) ((A.add (aj v2 1) (AV.ah 1)).bind λdJ=>some (AX.normal,[(aj v2 0),dJ],r9.2))) (some (AX.exit 0,[(aj v2 0),(aj v2 1)],s3))) [(AV.ah 0),(AV.ah 0)] σ).bind λjk=>bif jk.1==AX.exit 0 then(A.fin σ (AV.ah 0) jk.2.2)else bif jk.1==AX.ret then(A.fin σ (aj jk.2.1 0) jk.2.2)else none
noncomputable def M3:au→Heap→aH:=A.wrap true [(.s 1)] .k (A.dH Q6)
noncomputable def Q5 (a0:AV) (σ:Heap):aH:=(lI [a0,(AV.ah 0),(AV.ah 36000000)] σ).bind λr1=>A.fin σ r1.1 r1.2
noncomputable def EW:au→Heap→aH:=A.wrap true [] .k (A.dH Q5)
noncomputable def QF (a0:AV) (σ:Heap):aH:=(A.cells 7 a0).bind λc1=>(A.ak 0 c1).bind λx2=>(A.ak 1 c1).bind λx3=>((((A.cell x2).bind λv=>some [v]).bind λc4=>(A.aq 0 c4 [(AV.ah 0),(AV.ah 0)]).bind λc5=>((A.cell x3).bind λv=>some [v]).bind λc6=>(A.aq 1 c6 c5).bind λc7=>some c7).bind λcs=>some (AV.sl 1 (fI 1 2 cs))).bind λx8=>(M3 [x8] σ).bind λr9=>(A.neq .i r9.1 (AV.ah 0)).bind λbX=>A.cond bX (A.fin σ r9.1 r9.2) ((A.ak 2 c1).bind λdJ=>(EW [dJ] r9.2).bind λjk=>(A.not jk.1).bind λeB=>(A.guard eB false (A.ak 3 c1) ay).bind λdY=>(A.guard eB false (A.quiet (EW [dY] jk.2) jk.2) ay).bind λdK=>(A.guard eB false (A.not dK) ay).bind λdg=>(A.pick eB dR dg).bind λdD=>(A.guard dD false (A.ak 4 c1) ay).bind λcI=>(A.guard dD false (A.quiet (EW [cI] jk.2) jk.2) ay).bind λeC=>(A.guard dD false (A.not eC) ay).bind λep=>(A.pick dD dR ep).bind λcN=>(A.guard cN false (A.ak 2 c1) ay).bind λeu=>(A.guard cN false (A.ak 3 c1) ay).bind λfC=>(A.guard cN false (A.add eu fC) ay).bind λx24=>(A.guard cN false (A.ak 4 c1) ay).bind λx25=>(A.guard cN false (A.add x24 x25) ay).bind λgh=>(A.guard cN false (A.quiet (EW [gh] jk.2) jk.2) ay).bind λeU=>(A.guard cN false (A.not eU) ay).bind λx28=>(A.pick cN dR x28).bind λx29=>A.cond x29 (A.fin σ (AV.ah 1) jk.2) ((A.aB 5 2 c1).bind λdO=>(MO [dO] jk.2).bind λvE=>A.fin σ vE.1 vE.2))
noncomputable def QD:au→Heap→aH:=A.wrap true [FH] .k (A.dH QF)
noncomputable def Si (a0:AV) (σ:Heap):aH:=(A.conv .u64 a0).bind λx1=>((((A.cell (AV.int .u64 0)).bind λv=>some [v]).bind λc2=>(A.aq 0 c2 [(AV.int .u64 0),(AV.int .u64 0)]).bind λc3=>((A.cell x1).bind λv=>some [v]).bind λc4=>(A.aq 1 c4 c3).bind λc5=>some c5).bind λcs=>some (AV.agg cs)).bind λx6=>(A.cells 2 x6).bind λc7=>(A.aq 0 c7 [(AV.int .u64 0),(AV.int .u64 0)]).bind λc8=>(A.aB 0 2 c8).bind λx9=>A.fin σ x9 σ
noncomputable def qW:au→Heap→aH:=A.wrap true [] .k (A.dH Si)
noncomputable def QG (a0 a1:AV) (σ:Heap):aH:=(A.cells 2 a0).bind λc1=>(A.cells 2 a1).bind λc2=>(A.ak 0 c1).bind λx3=>(A.ak 0 c2).bind λx4=>(A.lss x3 x4).bind λx5=>(A.guard x5 false (A.ak 0 c1) ay).bind λx6=>(A.guard x5 false (A.ak 0 c2) ay).bind λx7=>(A.guard x5 false (A.eql .i x6 x7) ay).bind λx8=>(A.guard x5 false (some x8) ay).bind λx9=>(A.guard x9 true (A.ak 1 c1) ay).bind λbX=>(A.guard x9 true (A.ak 1 c2) ay).bind λdJ=>(A.guard x9 true (A.lss bX dJ) ay).bind λdS=>(A.guard x5 false (A.pick x9 dS aO) ay).bind λeB=>(A.pick x5 dR eB).bind λdY=>A.fin σ dY σ
noncomputable def He:au→Heap→aH:=A.wrap true [] .k (A.dI QG)
noncomputable def Ri (a0 a1:AV) (σ:Heap):aH:=((((A.cell a0).bind λv=>some [v]).bind λc1=>(A.aq 0 c1 [(AV.ah 0),(AV.ah 0)]).bind λc2=>((A.cell a1).bind λv=>some [v]).bind λc3=>(A.aq 1 c3 c2).bind λc4=>some c4).bind λcs=>some (AV.sl 1 (fI 1 2 cs))).bind λx5=>(M3 [x5] σ).bind λr6=>(A.neq .i r6.1 (AV.ah 0)).bind λx7=>A.cond x7 (A.fin σ (AV.aM [(AV.ah 0),r6.1]) r6.2) ((A.mul a0 a1).bind λx8=>(Rp [x8,(AV.ah 65535)] r6.2).bind λr9=>A.fin σ (AV.aM [r9.1,(AV.ah 0)]) r9.2)
noncomputable def EY:au→Heap→aH:=A.wrap true [] .k (A.dI Ri)
noncomputable def QA (a0 a1:AV) (σ:Heap):aH:=(A.cells 2 a0).bind λc1=>(A.ak 1 c1).bind λx2=>(A.conv .u64 a1).bind λx3=>(JF [x2,x3] σ).bind λr4=>(A.ext 0 r4.1).bind λx5=>(A.ext 1 r4.1).bind λx6=>(A.ak 0 c1).bind λx7=>(A.conv .u64 a1).bind λx8=>(A.mul x7 x8).bind λx9=>(A.add x9 x5).bind λbX=>((((A.cell bX).bind λv=>some [v]).bind λiq=>(A.aq 0 iq [(AV.int .u64 0),(AV.int .u64 0)]).bind λfJ=>((A.cell x6).bind λv=>some [v]).bind λkn=>(A.aq 1 kn fJ).bind λlz=>some lz).bind λcs=>some (AV.agg cs)).bind λdK=>(A.cells 2 dK).bind λpg=>(A.aq 0 pg [(AV.int .u64 0),(AV.int .u64 0)]).bind λpq=>(A.aB 0 2 pq).bind λcI=>A.fin σ cI r4.2
noncomputable def tj:au→Heap→aH:=A.wrap true [] .k (A.dI QA)
noncomputable def Nr (a0 a1 a2:AV) (σ:Heap):aH:=(A.cells 2 a0).bind λc1=>(qW [a2] σ).bind λr2=>(tj [r2.1,a2] r2.2).bind λr3=>(A.cells 2 r3.1).bind λc4=>(A.aq 0 c4 [(AV.int .u64 0),(AV.int .u64 0)]).bind λc5=>(A.ak 0 c1).bind λx6=>(A.eql .i x6 (AV.ah 2)).bind λx7=>A.cond x7 ((A.quiet (qW [a1] r3.2) r3.2).bind λx8=>(A.quiet (tj [x8,a1] r3.2) r3.2).bind λx9=>(A.aB 0 2 c5).bind λbX=>(A.cells 2 x9).bind λiq=>(A.aq 0 iq [(AV.int .u64 0),(AV.int .u64 0)]).bind λfJ=>(A.cells 2 bX).bind λkn=>(A.aq 0 kn [(AV.int .u64 0),(AV.int .u64 0)]).bind λlz=>(A.aB 0 2 fJ).bind λdK=>(A.aB 0 2 lz).bind λdg=>A.fin σ (AV.aM [dK,dg]) r3.2) ((A.eql .i x6 (AV.ah 3)).bind λdD=>A.cond dD ((A.quiet (qW [a1] r3.2) r3.2).bind λcI=>(A.mul (AV.ah 2) a2).bind λeC=>(A.sub eC a1).bind λep=>(A.quiet (tj [cI,ep] r3.2) r3.2).bind λcN=>(A.aB 0 2 c5).bind λeu=>(A.cells 2 cN).bind λgd=>(A.aq 0 gd [(AV.int .u64 0),(AV.int .u64 0)]).bind λiB=>(A.cells 2 eu).bind λgE=>(A.aq 0 gE [(AV.int .u64 0),(AV.int .u64 0)]).bind λiC=>(A.aB 0 2 iB).bind λeU=>(A.aB 0 2 iC).bind λx28=>A.fin σ (AV.aM [eU,x28]) r3.2) ((A.eql .i x6 (AV.ah 4)).bind λx29=>A.cond x29 ((A.quiet (qW [a1] r3.2) r3.2).bind λdO=>(A.quiet (tj [dO,a1] r3.2) r3.2).bind λx31=>(A.mul (AV.ah 3) a2).bind λx32=>(A.mul (AV.ah 2) a1).bind λeW=>(A.sub x32 eW).bind λx34=>(A.quiet (tj [x31,x34] r3.2) r3.2).bind λjc=>(A.aB 0 2 c5).bind λfG=>(A.quiet (tj [fG,a2] r3.2) r3.2).bind λcK=>(A.cells 2 jc).bind λlY=>(A.aq 0 lY [(AV.int .u64 0),(AV.int .u64 0)]).bind λoC=>(A.cells 2 cK).bind λBy=>(A.aq 0 By [(AV.int .u64 0),(AV.int .u64 0)]).bind λpE=>(A.aB 0 2 oC).bind λgz=>(A.aB 0 2 pE).bind λfk=>A.fin σ (AV.aM [gz,fk]) r3.2) ((A.eql .i x6 (AV.ah 5)).bind λeY=>A.cond eY ((A.lss a1 a2).bind λfO=>A.cond fO ((qW [(AV.ah 0)] r3.2).bind λqR=>(qW [(AV.ah 1)] qR.2).bind λqS=>(A.cells 2 qR.1).bind λsQ=>(A.aq 0 sQ [(AV.int .u64 0),(AV.int .u64 0)]).bind λC2=>(A.cells 2 qS.1).bind λqJ=>(A.aq 0 qJ [(AV.int .u64 0),(AV.int .u64 0)]).bind λpG=>(A.aB 0 2 C2).bind λeP=>(A.aB 0 2 pG).bind λiy=>A.fin σ (AV.aM [eP,iy]) qS.2) ((qW [(AV.ah 1)] r3.2).bind λr54=>(qW [(AV.ah 1)] r54.2).bind λyY=>(A.cells 2 r54.1).bind λsR=>(A.aq 0 sR [(AV.int .u64 0),(AV.int .u64 0)]).bind λjo=>(A.cells 2 yY.1).bind λjh=>(A.aq 0 jh [(AV.int .u64 0),(AV.int .u64 0)]).bind λC3=>(A.aB 0 2 jo).bind λjE=>(A.aB 0 2 C3).bind λjF=>A.fin σ (AV.aM [jE,jF]) yY.2)) ((A.eql .i x6 (AV.ah 6)).bind λfc=>A.cond fc ((A.ak 1 c1).bind λgW=>(A.loop (λv64 i7=>(A.add (aj v64 2) (AV.ah 2)).bind λkC=>(A.bR gW).bind λiI=>(A.lss kC iI).bind λgX=>(A.guard gX true (some a1) ay).bind λgM=>(A.guard gX true (A.mul (AV.ah 1000) gM) ay).bind λmM=>(A.guard gX true (some gW) ay).bind λnB=>(A.guard gX true (some (aj v64 2)) ay).bind λiz=>(A.guard gX true (A.add iz (AV.ah 1)) ay).bind λjr=>(A.guard gX true (A.aY 2 nB jr) ay).bind λfP=>(A.guard gX true (A.aF 0 fP) ay).bind λkD=>(A.guard gX true ((A.deref kD i7).bind λnY=>A.ak 0 nY) ay).bind λkR=>(A.guard gX true (some a2) ay).bind λkE=>(A.guard gX true (A.mul kR kE) ay).bind λgm=>(A.guard gX true (A.geq mM gm) ay).bind λnC=>(A.pick gX nC aO).bind λnD=>A.cond nD ((A.add (aj v64 2) (AV.ah 1)).bind λnN=>some (AX.normal,[(aj v64 0),(aj v64 1),nN],i7)) (some (AX.exit 1,[(aj v64 0),(aj v64 1),(aj v64 2)],i7))) [(AV.lbx [(AV.int .u64 0),(AV.int .u64 0)]),(AV.lbx [(AV.int .u64 0),(AV.int .u64 0)]),(AV.ah 0)] r3.2).bind λEG=>bif EG.1==AX.exit 1 then((A.aY 2 gW (aj EG.2.1 2)).bind λkF=>((A.deref kF EG.2.2).bind λqN=>A.aB 0 2 qN).bind λpP=>(A.add (aj EG.2.1 2) (AV.ah 1)).bind λkG=>(A.aY 2 gW kG).bind λDt=>((A.deref Dt EG.2.2).bind λmE=>A.aB 0 2 mE).bind λx91=>(A.cells 2 pP).bind λc92=>(A.aq 0 c92 [(AV.ah 0),(AV.ah 0)]).bind λuo=>(A.cells 2 x91).bind λn5=>(A.aq 0 n5 [(AV.ah 0),(AV.ah 0)]).bind λlC=>(A.ak 0 lC).bind λx96=>(A.ak 0 uo).bind λAM=>(A.sub x96 AM).bind λx98=>(A.ak 1 uo).bind λx99=>(A.mul x99 x98).bind λqB=>(A.mul qB a2).bind λx101=>(A.ak 1 lC).bind λx102=>(A.ak 1 uo).bind λyN=>(A.sub x102 yN).bind λx104=>(A.mul (AV.ah 1000) a1).bind λCT=>(A.ak 0 uo).bind λqC=>(A.mul qC a2).bind λqD=>(A.sub CT qD).bind λF8=>(A.mul x104 F8).bind λqE=>(A.add x101 qE).bind λCU=>(qW [CU] EG.2.2).bind λaeu=>(A.mul (AV.ah 1000) x98).bind λx112=>(qW [x112] aeu.2).bind λwo=>(tj [wo.1,a2] wo.2).bind λaev=>(A.lb (aj EG.2.1 0)).bind λKM=>(A.cells 2 aeu.1).bind λxq=>(A.aq 0 xq KM).bind λxu=>(A.lb (aj EG.2.1 1)).bind λUy=>(A.cells 2 aev.1).bind λaqA=>(A.aq 0 aqA Uy).bind λaqB=>(A.aB 0 2 xu).bind λAd=>(A.aB 0 2 aqB).bind λLp=>A.fin σ (AV.aM [Ad,Lp]) aev.2)else none) ((qW [a1] r3.2).bind λrG=>(qW [a2] rG.2).bind λaew=>(A.cells 2 rG.1).bind λzK=>(A.aq 0 zK [(AV.int .u64 0),(AV.int .u64 0)]).bind λxw=>(A.cells 2 aew.1).bind λud=>(A.aq 0 ud [(AV.int .u64 0),(AV.int .u64 0)]).bind λnU=>(A.aB 0 2 xw).bind λp7=>(A.aB 0 2 nU).bind λu9=>A.fin σ (AV.aM [p7,u9]) aew.2)))))
noncomputable def Nj:au→Heap→aH:=A.wrap true [(.a [.k,(.s 2)])] .k (A.mU Nr)
noncomputable def QH (a0 a1:AV) (σ:Heap):aH:=(A.cells 2 a0).bind λc1=>(A.cells 2 a1).bind λc2=>(A.ak 1 c1).bind λx3=>(A.ak 1 c2).bind λx4=>(Ht [x3,x4,(AV.int .u64 0)] σ).bind λr5=>(A.ext 0 r5.1).bind λx6=>(A.ext 1 r5.1).bind λx7=>(A.ak 0 c1).bind λx8=>(A.ak 0 c2).bind λx9=>(Ht [x8,x9,x7] r5.2).bind λlR=>(A.ext 0 lR.1).bind λdJ=>(A.ext 1 lR.1).bind λdS=>((((A.cell dJ).bind λv=>some [v]).bind λkn=>(A.aq 0 kn [(AV.int .u64 0),(AV.int .u64 0)]).bind λlz=>((A.cell x6).bind λv=>some [v]).bind λmV=>(A.aq 1 mV lz).bind λpg=>some pg).bind λcs=>some (AV.agg cs)).bind λdD=>(A.cells 2 dD).bind λjm=>(A.aq 0 jm [(AV.int .u64 0),(AV.int .u64 0)]).bind λiM=>(A.aB 0 2 iM).bind λep=>A.fin σ ep lR.2
noncomputable def MU:au→Heap→aH:=A.wrap true [] .k (A.dI QH)
noncomputable def Q7 (a0 a1 a2 a3:AV) (σ:Heap):aH:=(A.cells 2 a2).bind λc1=>(A.cells 2 a3).bind λc2=>(A.geq a1 a0).bind λx3=>A.cond x3 ((A.sub a1 a0).bind λx4=>(A.aB 0 2 c1).bind λx5=>(A.mul (AV.ah 2) x4).bind λx6=>(A.quiet (tj [x5,x6] σ) σ).bind λx7=>(A.aB 0 2 c2).bind λx8=>(A.quiet (MU [x7,x8] σ) σ).bind λx9=>(A.cells 2 x9).bind λfL=>(A.aq 0 fL [(AV.int .u64 0),(AV.int .u64 0)]).bind λiq=>(A.loop (λv12 vF=>(A.lss (aj v12 2) (aj v12 3)).bind λdK=>A.cond dK ((A.add (aj v12 2) (aj v12 3)).bind λdg=>(A.add dg (AV.ah 1)).bind λdD=>(A.quo dD (AV.ah 2)).bind λcI=>((A.lb (aj v12 1)).bind λiM=>A.aB 0 2 iM).bind λep=>((A.lb (aj v12 0)).bind λlB=>A.aB 0 2 lB).bind λeu=>(A.mul (AV.ah 2) cI).bind λfC=>(A.quiet (tj [eu,fC] vF) vF).bind λx24=>(A.quiet (He [ep,x24] vF) vF).bind λx25=>(A.cond x25 ((A.sub cI (AV.ah 1)).bind λeU=>some ([(aj v12 0),(aj v12 1),(aj v12 2),eU],vF)) (some ([(aj v12 0),(aj v12 1),cI,(aj v12 3)],vF))).bind λmo=>some (AX.normal,[(aj mo.1 0),(aj mo.1 1),(aj mo.1 2),(aj mo.1 3)],mo.2)) (some (AX.exit 0,[(aj v12 0),(aj v12 1),(aj v12 2),(aj v12 3)],vF))) [(AV.lbx c2),(AV.lbx iq),(AV.ah 0),x4] σ).bind λvD=>bif vD.1==AX.exit 0 then((A.add a0 (aj vD.2.1 2)).bind λx29=>A.fin σ x29 vD.2.2)else none) ((A.sub a0 a1).bind λdO=>(A.aB 0 2 c1).bind λx31=>(A.mul (AV.ah 2) dO).bind λx32=>(tj [x31,x32] σ).bind λpN=>(A.cells 2 pN.1).bind λvk=>(A.aq 0 vk [(AV.int .u64 0),(AV.int .u64 0)]).bind λgr=>(A.loop (λkQ vI=>(A.lss (aj kQ 2) (aj kQ 3)).bind λgj=>A.cond gj ((A.add (aj kQ 2) (aj kQ 3)).bind λdV=>(A.quo dV (AV.ah 2)).bind λeX=>((A.lb (aj kQ 0)).bind λmB=>A.aB 0 2 mB).bind λfk=>(A.mul (AV.ah 2) eX).bind λeY=>(A.add eY (AV.ah 1)).bind λfO=>(A.quiet (tj [fk,fO] vI) vI).bind λgP=>((A.lb (aj kQ 1)).bind λiD=>A.aB 0 2 iD).bind λgK=>(A.quiet (He [gP,gK] vI) vI).bind λeZ=>(A.cond eZ ((A.add eX (AV.ah 1)).bind λjD=>some ([(aj kQ 0),(aj kQ 1),jD,(aj kQ 3)],vI)) (some ([(aj kQ 0),(aj kQ 1),(aj kQ 2),eX],vI))).bind λdN=>some (AX.normal,[(aj dN.1 0),(aj dN.1 1),(aj dN.1 2),(aj dN.1 3)],dN.2)) (some (AX.exit 2,[(aj kQ 0),(aj kQ 1),(aj kQ 2),(aj kQ 3)],vI))) [(AV.lbx c2),(AV.lbx gr),(AV.ah 0),dO] pN.2).bind λGR=>bif GR.1==AX.exit 2 then((A.sub a0 (aj GR.2.1 2)).bind λiy=>A.fin σ iy GR.2.2)else none)
noncomputable def Q3:au→Heap→aH:=A.wrap true [] .k (A.vg Q7)
noncomputable def Y8 (a0 a1:AV) (σ:Heap):aH:=(A.cells 7 a0).bind λc1=>(A.ak 2 c1).bind λx2=>(A.ak 3 c1).bind λx3=>(A.add x2 x3).bind λx4=>(A.ak 4 c1).bind λx5=>(A.add x4 x5).bind λx6=>(A.geq a1 x6).bind λx7=>A.cond x7 ((A.ak 1 c1).bind λx8=>A.fin σ x8 σ) ((A.leq a1 x4).bind λx9=>A.cond x9 ((A.ak 0 c1).bind λbX=>A.fin σ bX σ) ((A.aB 5 2 c1).bind λdJ=>(A.sub a1 x4).bind λdS=>(A.ak 4 c1).bind λeB=>(Nj [dJ,dS,eB] σ).bind λkP=>(A.ext 0 kP.1).bind λdK=>(A.ext 1 kP.1).bind λdg=>(A.cells 2 dK).bind λpq=>(A.aq 0 pq [(AV.int .u64 0),(AV.int .u64 0)]).bind λjm=>(A.cells 2 dg).bind λiM=>(A.aq 0 iM [(AV.int .u64 0),(AV.int .u64 0)]).bind λjR=>(A.ak 0 c1).bind λcN=>(A.ak 1 c1).bind λeu=>(A.aB 0 2 jm).bind λfC=>(A.aB 0 2 jR).bind λx24=>(Q3 [cN,eu,fC,x24] kP.2).bind λnA=>A.fin σ nA.1 nA.2))
noncomputable def R9:au→Heap→aH:=A.wrap true [FH] .k (A.dI Y8)
noncomputable def Y7 (a0 a1:AV) (σ:Heap):aH:=(A.cells 7 a0).bind λc1=>(A.aB 0 7 c1).bind λx2=>(QD [x2] σ).bind λr3=>(EW [a1] r3.2).bind λr4=>(A.not r4.1).bind λx5=>(rP [x5,(AV.ah 1)] r4.2).bind λr6=>((((A.cell r3.1).bind λv=>some [v]).bind λc7=>(A.aq 0 c7 [(AV.ah 0),(AV.ah 0)]).bind λc8=>((A.cell r6.1).bind λv=>some [v]).bind λc9=>(A.aq 1 c9 c8).bind λfL=>some fL).bind λcs=>some (AV.sl 1 (fI 1 2 cs))).bind λdJ=>(ya [dJ] r6.2).bind λjk=>(A.neq .i jk.1 (AV.ah 0)).bind λeB=>A.cond eB (A.fin σ (AV.aM [(AV.ah 0),jk.1]) jk.2) ((A.aB 0 7 c1).bind λdY=>(R9 [dY,a1] jk.2).bind λwD=>A.fin σ (AV.aM [wD.1,(AV.ah 0)]) wD.2)
noncomputable def R8:au→Heap→aH:=A.wrap true [FH] .k (A.dI Y7)
end
section
set_option maxRecDepth 100000
noncomputable def RS (a0:AV) (σ:Heap):aH:=(A.cells 2 a0).bind λc1=>(A.aB 0 2 c1).bind λx2=>(Hj [x2] σ).bind λr3=>(A.ext 0 r3.1).bind λx4=>(A.ext 1 r3.1).bind λx5=>(A.bR x4).bind λx6=>(A.loop (λv7 s8=>(A.lss (aj v7 0) x6).bind λbX=>A.cond bX ((A.aY 2 x4 (aj v7 0)).bind λdJ=>((A.deref dJ s8).bind λfJ=>A.aB 0 2 fJ).bind λeB=>(A.cells 2 eB).bind λlz=>(A.aq 0 lz [(AV.ah 0),bA]).bind λmV=>(A.aB 0 2 mV).bind λdg=>(A.fV (.s [0,2]) (AV.om r3.2.length) dg dR s8).bind λh17=>(A.add (aj v7 0) (AV.ah 1)).bind λcI=>some (AX.normal,[cI],h17)) (some (AX.exit 0,[(aj v7 0)],s8))) [(AV.ah 0)] (r3.2++[aS.map []])).bind λmI=>bif mI.1==AX.exit 0 then(A.fin σ (AV.om r3.2.length) mI.2.2)else none
noncomputable def RG:au→Heap→aH:=A.wrap true [(.a [(.s 3),(.s 4)])] .k (A.dH RS)
noncomputable def Rv (a0:AV) (σ:Heap):aH:=(A.eql .z a0 bA).bind λx1=>(A.guard x1 false (some a0) ay).bind λx2=>(A.guard x1 false (A.quiet (Nd [x2] σ) σ) ay).bind λx3=>(A.pick x1 dR x3).bind λx4=>A.fin σ x4 σ
noncomputable def Rn:au→Heap→aH:=A.wrap true [] .k (A.dH Rv)
noncomputable def Q8 (a0:AV) (σ:Heap):aH:=(lI [a0,(AV.ah 0),(AV.ah 65535)] σ).bind λr1=>A.fin σ r1.1 r1.2
noncomputable def M4:au→Heap→aH:=A.wrap true [] .k (A.dH Q8)
noncomputable def Rj (a0 a1:AV) (σ:Heap):aH:=(A.cells 2 a0).bind λc1=>(A.cells 2 a1).bind λc2=>(A.ak 0 c1).bind λx3=>(A.ak 0 c2).bind λx4=>(A.neq .i x3 x4).bind λx5=>A.cond x5 ((A.ak 0 c1).bind λx6=>(A.ak 0 c2).bind λx7=>(A.lss x6 x7).bind λx8=>A.fin σ x8 σ) ((A.ak 1 c1).bind λx9=>(A.ak 1 c2).bind λbX=>(Jt [x9,bX] σ).bind λey=>(A.lss ey.1 (AV.ah 0)).bind λdS=>A.fin σ dS ey.2)
noncomputable def Re:au→Heap→aH:=A.wrap true [] .k (A.dI Rj)
noncomputable def Qt (a0 a1:AV) (σ:Heap):aH:=(A.cells 2 a0).bind λc1=>(A.aB 0 2 c1).bind λx2=>(MN [x2] σ).bind λr3=>(A.bR a1).bind λx4=>(A.gtr x4 (AV.ah 200)).bind λx5=>(rP [x5,(AV.ah 2)] r3.2).bind λr6=>((((A.cell r3.1).bind λv=>some [v]).bind λc7=>(A.aq 0 c7 [(AV.ah 0),(AV.ah 0)]).bind λc8=>((A.cell r6.1).bind λv=>some [v]).bind λc9=>(A.aq 1 c9 c8).bind λfL=>some fL).bind λcs=>some (AV.sl 1 (fI 1 2 cs))).bind λdJ=>(ya [dJ] r6.2).bind λjk=>(A.neq .i jk.1 (AV.ah 0)).bind λeB=>A.cond eB (A.fin σ jk.1 jk.2) ((A.aB 0 2 c1).bind λdY=>(RG [dY] jk.2).bind λwD=>(A.bR a1).bind λdg=>(A.loop (λv17 zb=>(A.lss (aj v17 1) dg).bind λep=>A.cond ep ((A.aY 3 a1 (aj v17 1)).bind λcN=>((A.deref cN zb).bind λiU=>A.aB 0 3 iU).bind λfC=>(A.cells 3 fC).bind λiB=>(A.aq 0 iB [(AV.ah 0),bA,AV.az]).bind λgE=>(A.ak 0 gE).bind λgh=>(lI [gh,(AV.ah 1),(AV.ah 999)] zb).bind λAy=>(A.not Ay.1).bind λx28=>A.cond x28 (some (AX.ret,[(AV.ah 1),(aj v17 1)],Ay.2)) ((A.gtr (aj v17 1) (AV.ah 0)).bind λx29=>(A.guard x29 true (A.ak 0 gE) ay).bind λdO=>(A.guard x29 true (some a1) ay).bind λx31=>(A.guard x29 true (some (aj v17 1)) ay).bind λx32=>(A.guard x29 true (A.sub x32 (AV.ah 1)) ay).bind λeW=>(A.guard x29 true (A.aY 3 x31 eW) ay).bind λx34=>(A.guard x29 true (A.aF 0 x34) ay).bind λjc=>(A.guard x29 true ((A.deref jc Ay.2).bind λjJ=>A.ak 0 jJ) ay).bind λcK=>(A.guard x29 true (A.leq dO cK) ay).bind λx38=>(A.pick x29 x38 aO).bind λgj=>A.cond gj (some (AX.ret,[(AV.ah 7),(aj v17 1)],Ay.2)) ((A.ak 1 gE).bind λdV=>(Rn [dV] Ay.2).bind λGQ=>(A.not GQ.1).bind λgz=>A.cond gz (some (AX.ret,[(AV.ah 3),(aj v17 1)],GQ.2)) ((A.ak 2 gE).bind λfk=>(A.bR fk).bind λeY=>(A.gtr eY (AV.ah 2000)).bind λfO=>A.cond fO (some (AX.ret,[(AV.ah 2),(aj v17 1)],GQ.2)) ((A.ak 2 gE).bind λgP=>(A.bR gP).bind λkr=>(A.loop (λrO Mg=>(A.lss (aj rO 2) kr).bind λjD=>A.cond jD ((A.aY 3 gP (aj rO 2)).bind λeP=>((A.deref eP Mg).bind λqK=>A.aB 0 3 qK).bind λgL=>(A.cells 3 gL).bind λjS=>(A.aq 0 jS [(AV.ah 0),bA,(AV.ah 0)]).bind λsR=>(A.aB 0 2 sR).bind λmq=>(A.look (.s [0,2]) wD.1 mq aO Mg).bind λiG=>(A.not iG).bind λfK=>A.cond fK (some (AX.ret,[(AV.ah 8),(aj rO 1),(aj rO 2)],Mg)) ((A.ak 2 sR).bind λjE=>(M4 [jE] Mg).bind λwG=>(A.not wG.1).bind λfc=>A.cond fc (some (AX.ret,[(AV.ah 1),(aj rO 1),(aj rO 2)],wG.2)) ((A.gtr (aj rO 2) (AV.ah 0)).bind λgW=>((A.lb (aj rO 1)).bind λ_ => some (2)).bind λp64 =>(A.guard gW true ((A.lb (aj rO 1)).bind λAk=>A.ak p64 Ak) ay).bind λgG=>(A.guard gW true (some (aj rO 2)) ay).bind λkC=>(A.guard gW true (A.sub kC (AV.ah 1)) ay).bind λiI=>(A.guard gW true (A.aY 3 gG iI) ay).bind λgX=>(A.guard gW true (A.aF 0 gX) ay).bind λgM=>(A.guard gW true ((A.deref gM wG.2).bind λnK=>A.aB 0 2 nK) ay).bind λnB=>(A.guard gW true (A.aB 0 2 sR) ay).bind λiz=>(A.guard gW true (A.quiet (Re [nB,iz] wG.2) wG.2) ay).bind λjr=>(A.guard gW true (A.not jr) ay).bind λfP=>(A.pick gW fP aO).bind λkD=>A.cond kD (some (AX.ret,[(AV.ah 7),(aj rO 1),(aj rO 2)],wG.2)) ((A.add (aj rO 2) (AV.ah 1)).bind λqT=>some (AX.normal,[(aj rO 0),(aj rO 1),qT],wG.2))))) (some (AX.exit 3,[(aj rO 0),(aj rO 1),(aj rO 2)],Mg))) [(aj v17 0),(AV.lbx gE),(AV.ah 0)] GQ.2).bind λza=>bif za.1==AX.exit 3 then((A.add (aj v17 1) (AV.ah 1)).bind λkE=>some (AX.normal,[(aj za.2.1 0),kE],za.2.2))else bif za.1==AX.ret then(some (AX.ret,[(aj za.2.1 0),(aj v17 1)],za.2.2))else none))))) (some (AX.exit 0,[(aj v17 0),(aj v17 1)],zb))) [(AV.ah 0),(AV.ah 0)] wD.2).bind λMc=>bif Mc.1==AX.exit 0 then(A.fin σ (AV.ah 0) Mc.2.2)else bif Mc.1==AX.ret then(A.fin σ (aj Mc.2.1 0) Mc.2.2)else none)
noncomputable def MK:au→Heap→aH:=A.wrap true [(.a [(.s 3),(.s 4)]),(.s 3)] .k (A.dI Qt)
noncomputable def Ru (a0 a1 a2:AV) (σ:Heap):aH:=(A.cells 2 a1).bind λc1=>(A.cells 2 a2).bind λc2=>(A.ak 0 c2).bind λx3=>(A.neq .i x3 (AV.ah 0)).bind λx4=>(A.guard x4 true (A.ak 1 c2) ay).bind λx5=>(A.guard x4 true (A.neq .i x5 (AV.ah 0)) ay).bind λx6=>(A.pick x4 x6 aO).bind λx7=>A.cond x7 (A.fin σ (AV.aM [(AV.ah 0),(AV.ah 3)]) σ) ((A.ak 0 c2).bind λx8=>(M4 [x8] σ).bind λr9=>(A.not r9.1).bind λbX=>A.cond bX (A.fin σ (AV.aM [(AV.ah 0),(AV.ah 1)]) r9.2) ((A.ak 1 c2).bind λdJ=>(A.eql .i dJ (AV.ah 0)).bind λdS=>A.cond dS ((A.ak 0 c2).bind λeB=>A.fin σ (AV.aM [eB,(AV.ah 0)]) r9.2) ((A.bR a0).bind λdY=>(A.loop (λeO mL=>(A.lss (aj eO 4) dY).bind λcI=>A.cond cI ((A.aY 3 a0 (aj eO 4)).bind λeC=>((A.deref eC mL).bind λjR=>A.aB 0 3 jR).bind λcN=>(A.cells 3 cN).bind λiU=>(A.aq 0 iU [(AV.ah 0),bA,AV.az]).bind λgd=>(A.ak 0 gd).bind λx24=>((A.lb (aj eO 1)).bind λ_=>some (1)).bind λp25=>((A.lb (aj eO 1)).bind λiC=>A.ak p25 iC).bind λeU=>(A.neq .i x24 eU).bind λx28=>A.cond x28 ((A.add (aj eO 4) (AV.ah 1)).bind λx29=>some (AX.normal,[(aj eO 0),(aj eO 1),(aj eO 2),(aj eO 3),x29],mL)) ((A.ak 2 gd).bind λdO=>(A.bR dO).bind λx31=>(A.loop (λv32 P4=>(A.lss (aj v32 3) x31).bind λjc=>A.cond jc ((A.aY 3 dO (aj v32 3)).bind λfG=>((A.deref fG P4).bind λiu=>A.aB 0 3 iu).bind λx38=>(A.cells 3 x38).bind λoC=>(A.aq 0 oC [(AV.ah 0),bA,(AV.ah 0)]).bind λBy=>(A.aB 0 2 By).bind λeX=>((A.lb (aj v32 0)).bind λmB=>A.aB 0 2 mB).bind λfk=>(A.eql (.s [0,2]) eX fk).bind λeY=>A.cond eY ((A.ak 2 By).bind λfO=>some (AX.ret,[(aj v32 0),fO,(AV.ah 0),(aj v32 3)],P4)) ((A.add (aj v32 3) (AV.ah 1)).bind λgP=>some (AX.normal,[(aj v32 0),(aj v32 1),(aj v32 2),gP],P4))) (some (AX.exit 2,[(aj v32 0),(aj v32 1),(aj v32 2),(aj v32 3)],P4))) [(aj eO 0),(aj eO 2),(aj eO 3),(AV.ah 0)] mL).bind λqS=>bif qS.1==AX.exit 2 then(some (AX.exit 0,[(aj qS.2.1 0),AV.undef,(aj qS.2.1 1),(aj qS.2.1 2),(aj eO 4)],qS.2.2))else bif qS.1==AX.ret then(some (AX.ret,[(aj qS.2.1 0),AV.undef,(aj qS.2.1 1),(aj qS.2.1 2),(aj eO 4)],qS.2.2))else none)) (some (AX.exit 0,[(aj eO 0),(aj eO 1),(aj eO 2),(aj eO 3),(aj eO 4)],mL))) [(AV.lbx c1),(AV.lbx c2),(AV.ah 0),(AV.ah 0),(AV.ah 0)] r9.2).bind λmJ=>bif mJ.1==AX.exit 0 then(A.fin σ (AV.aM [(AV.ah 0),(AV.ah 8)]) mJ.2.2)else bif mJ.1==AX.ret then(A.fin σ (AV.aM [(aj mJ.2.1 2),(aj mJ.2.1 3)]) mJ.2.2)else none)))
noncomputable def E3:au→Heap→aH:=A.wrap true [(.s 3)] .k (A.mU Ru)
end
section
set_option maxRecDepth 100000
noncomputable def Rs (a0:AV) (σ:Heap):aH:=(lI [a0,(AV.ah 0),(AV.ah 36000000)] σ).bind λr1=>A.fin σ r1.1 r1.2
noncomputable def DA:au→Heap→aH:=A.wrap true [] .k (A.dH Rs)
noncomputable def Rh (a0 a1:AV) (σ:Heap):aH:=(A.cells 2 a0).bind λc1=>(A.cells 2 a1).bind λc2=>(A.ak 0 c1).bind λx3=>(A.ak 0 c2).bind λx4=>(A.neq .i x3 x4).bind λx5=>A.cond x5 ((A.ak 0 c1).bind λx6=>(A.ak 0 c2).bind λx7=>(A.lss x6 x7).bind λx8=>A.cond x8 (A.fin σ (AV.ah (-1)) σ) (A.fin σ (AV.ah 1) σ)) ((A.ak 1 c1).bind λx9=>(A.ak 1 c2).bind λbX=>(Jt [x9,bX] σ).bind λey=>A.fin σ ey.1 ey.2)
noncomputable def M8:au→Heap→aH:=A.wrap true [] .k (A.dI Rh)
noncomputable def QM (a0:AV) (σ:Heap):aH:=(A.bR a0).bind λx1=>(A.loop (λv2 s3=>(A.lss (aj v2 1) x1).bind λx5=>A.cond x5 ((A.aY 8 a0 (aj v2 1)).bind λx6=>((A.deref x6 s3).bind λc7=>A.aB 0 8 c7).bind λx8=>(A.cells 8 x8).bind λc9=>(A.aq 0 c9 [(AV.ah 0),bA,(AV.ah 0),(AV.ah 0),aO,aO,(AV.ah 0),(AV.ah 0)]).bind λfL=>(A.ak 0 fL).bind λdJ=>(lI [dJ,(AV.ah 1),(AV.ah 9999)] s3).bind λjk=>(A.not jk.1).bind λeB=>A.cond eB (some (AX.ret,[(AV.ah 1),(aj v2 1)],jk.2)) ((A.ak 1 fL).bind λdY=>(Hz [dY] jk.2).bind λwD=>(A.not wD.1).bind λdg=>A.cond dg (some (AX.ret,[(AV.ah 5),(aj v2 1)],wD.2)) ((A.ak 4 fL).bind λdD=>(A.guard dD true (A.aB 2 2 fL) ay).bind λcI=>(A.guard dD true (some (AV.agg [(AV.ah 0),(AV.ah 0)])) ay).bind λeC=>(A.guard dD true (A.neq (.s [0,0]) cI eC) ay).bind λep=>(A.pick dD ep aO).bind λcN=>(A.guard cN false (A.ak 2 fL) ay).bind λeu=>(A.guard cN false (A.neq .i eu (AV.ah 0)) ay).bind λfC=>(A.guard cN false (some fC) ay).bind λx24=>(A.guard x24 true (A.ak 3 fL) ay).bind λx25=>(A.guard x24 true (A.neq .i x25 (AV.ah 0)) ay).bind λgh=>(A.guard cN false (A.pick x24 gh aO) ay).bind λeU=>(A.pick cN dR eU).bind λx28=>A.cond x28 (some (AX.ret,[(AV.ah 3),(aj v2 1)],wD.2)) ((A.ak 2 fL).bind λx29=>(lI [x29,(AV.ah 0),(AV.ah 65535)] wD.2).bind λDm=>(A.not Dm.1).bind λx31=>(A.guard x31 false (A.ak 3 fL) ay).bind λx32=>(A.guard x31 false (A.quiet (lI [x32,(AV.ah 0),(AV.ah 999)] Dm.2) Dm.2) ay).bind λeW=>(A.guard x31 false (A.not eW) ay).bind λx34=>(A.pick x31 dR x34).bind λjc=>A.cond jc (some (AX.ret,[(AV.ah 1),(aj v2 1)],Dm.2)) ((A.ak 5 fL).bind λfG=>(A.not fG).bind λcK=>(A.guard cK true (A.ak 6 fL) ay).bind λx38=>(A.guard cK true (A.neq .i x38 (AV.ah 0)) ay).bind λgj=>(A.guard cK true (some gj) ay).bind λdV=>(A.guard dV false (A.ak 7 fL) ay).bind λeX=>(A.guard dV false (A.neq .i eX (AV.ah 0)) ay).bind λgz=>(A.guard cK true (A.pick dV dR gz) ay).bind λfk=>(A.pick cK fk aO).bind λeY=>A.cond eY (some (AX.ret,[(AV.ah 3),(aj v2 1)],Dm.2)) ((A.ak 6 fL).bind λfO=>(DA [fO] Dm.2).bind λqR=>(A.not qR.1).bind λkr=>(A.guard kr false (A.ak 7 fL) ay).bind λgK=>(A.guard kr false (A.quiet (DA [gK] qR.2) qR.2) ay).bind λeZ=>(A.guard kr false (A.not eZ) ay).bind λlG=>(A.pick kr dR lG).bind λjD=>A.cond jD (some (AX.ret,[(AV.ah 1),(aj v2 1)],qR.2)) ((A.gtr (aj v2 1) (AV.ah 0)).bind λeP=>(A.guard eP true (some a0) ay).bind λiy=>(A.guard eP true (some (aj v2 1)) ay).bind λgL=>(A.guard eP true (A.sub gL (AV.ah 1)) ay).bind λjU=>(A.guard eP true (A.aY 8 iy jU) ay).bind λfH=>(A.guard eP true (A.aF 0 fH) ay).bind λmq=>(A.guard eP true ((A.deref mq qR.2).bind λjh=>A.aB 0 2 jh) ay).bind λfK=>(A.guard eP true (A.aB 0 2 fL) ay).bind λjE=>(A.guard eP true (A.quiet (M8 [fK,jE] qR.2) qR.2) ay).bind λjF=>(A.guard eP true (A.geq jF (AV.ah 0)) ay).bind λfc=>(A.pick eP fc aO).bind λgW=>A.cond gW (some (AX.ret,[(AV.ah 7),(aj v2 1)],qR.2)) ((A.add (aj v2 1) (AV.ah 1)).bind λku=>some (AX.normal,[(aj v2 0),ku],qR.2))))))))) (some (AX.exit 0,[(aj v2 0),(aj v2 1)],s3))) [(AV.ah 0),(AV.ah 0)] σ).bind λyZ=>bif yZ.1==AX.exit 0 then(A.fin σ (AV.ah 0) yZ.2.2)else bif yZ.1==AX.ret then(A.fin σ (aj yZ.2.1 0) yZ.2.2)else none
noncomputable def QL:au→Heap→aH:=A.wrap true [(.s 8)] .k (A.dH QM)
noncomputable def Sg (a0:AV) (σ:Heap):aH:=(A.bR a0).bind λx1=>(A.gtr x1 (AV.ah 300)).bind λx2=>A.cond x2 (A.fin σ (AV.ah 2) σ) ((A.bR a0).bind λx3=>(A.loop (λv4 s5=>(A.lss (aj v4 2) x3).bind λx7=>A.cond x7 ((A.aY 11 a0 (aj v4 2)).bind λx8=>((A.deref x8 s5).bind λc9=>A.aB 0 11 c9).bind λbX=>(A.cells 11 bX).bind λiq=>(A.aq 0 iq [(AV.ah 0),bA,(AV.ah 0),(AV.ah 0),(AV.ah 0),(AV.ah 0),(AV.ah 0),AV.az,aO,(AV.ah 0),AV.az]).bind λfJ=>(A.ak 0 fJ).bind λeB=>(lI [eB,(AV.ah 1),(AV.ah 9999999)] s5).bind λkP=>(A.not kP.1).bind λdK=>A.cond dK (some (AX.ret,[(AV.ah 1),(aj v4 1),(aj v4 2)],kP.2)) ((A.gtr (aj v4 2) (AV.ah 0)).bind λdg=>(A.guard dg true (A.ak 0 fJ) ay).bind λdD=>(A.guard dg true (some a0) ay).bind λcI=>(A.guard dg true (some (aj v4 2)) ay).bind λeC=>(A.guard dg true (A.sub eC (AV.ah 1)) ay).bind λep=>(A.guard dg true (A.aY 11 cI ep) ay).bind λcN=>(A.guard dg true (A.aF 0 cN) ay).bind λeu=>(A.guard dg true ((A.deref eu kP.2).bind λgd=>A.ak 0 gd) ay).bind λx24=>(A.guard dg true (A.leq dD x24) ay).bind λx25=>(A.pick dg x25 aO).bind λgh=>A.cond gh (some (AX.ret,[(AV.ah 7),(aj v4 1),(aj v4 2)],kP.2)) ((A.ak 1 fJ).bind λeU=>(A.neq .z eU bA).bind λx28=>(A.guard x28 true (A.ak 1 fJ) ay).bind λx29=>(A.guard x28 true (A.quiet (Nd [x29] kP.2) kP.2) ay).bind λdO=>(A.guard x28 true (A.not dO) ay).bind λx31=>(A.pick x28 x31 aO).bind λx32=>A.cond x32 (some (AX.ret,[(AV.ah 3),(aj v4 1),(aj v4 2)],kP.2)) ((A.ak 2 fJ).bind λeW=>(DA [eW] kP.2).bind λqi=>(A.not qi.1).bind λjc=>(A.guard jc false (A.ak 3 fJ) ay).bind λfG=>(A.guard jc false (A.quiet (DA [fG] qi.2) qi.2) ay).bind λcK=>(A.guard jc false (A.not cK) ay).bind λx38=>(A.pick jc dR x38).bind λgj=>(A.guard gj false (A.ak 4 fJ) ay).bind λdV=>(A.guard gj false (A.quiet (DA [dV] qi.2) qi.2) ay).bind λeX=>(A.guard gj false (A.not eX) ay).bind λgz=>(A.pick gj dR gz).bind λfk=>(A.guard fk false (A.ak 5 fJ) ay).bind λeY=>(A.guard fk false (A.quiet (DA [eY] qi.2) qi.2) ay).bind λfO=>(A.guard fk false (A.not fO) ay).bind λgP=>(A.pick fk dR gP).bind λkr=>(A.guard kr false (A.ak 9 fJ) ay).bind λgK=>(A.guard kr false (A.quiet (lI [gK,(AV.ah (-1)),(AV.ah 36000000)] qi.2) qi.2) ay).bind λeZ=>(A.guard kr false (A.not eZ) ay).bind λlG=>(A.pick kr dR lG).bind λjD=>A.cond jD (some (AX.ret,[(AV.ah 1),(aj v4 1),(aj v4 2)],qi.2)) ((A.aB 6 2 fJ).bind λeP=>(MO [eP] qi.2).bind λdc=>(A.neq .i dc.1 (AV.ah 0)).bind λgL=>A.cond gL (some (AX.ret,[dc.1,(aj v4 1),(aj v4 2)],dc.2)) ((A.ak 10 fJ).bind λjU=>(A.bR jU).bind λfH=>(A.gtr fH (AV.ah 2000)).bind λmq=>A.cond mq (some (AX.ret,[(AV.ah 2),(aj v4 1),(aj v4 2)],dc.2)) ((A.ak 10 fJ).bind λiG=>(QL [iG] dc.2).bind λPY=>(A.neq .i PY.1 (AV.ah 0)).bind λjE=>A.cond jE (some (AX.ret,[PY.1,(aj v4 1),(aj v4 2)],PY.2)) ((A.ak 10 fJ).bind λjF=>(A.bR jF).bind λfc=>(A.add (aj v4 1) fc).bind λgW=>(A.add (aj v4 2) (AV.ah 1)).bind λku=>some (AX.normal,[(aj v4 0),gW,ku],PY.2))))))))) (some (AX.exit 0,[(aj v4 0),(aj v4 1),(aj v4 2)],s5))) [(AV.ah 0),(AV.ah 0),(AV.ah 0)] σ).bind λyZ=>bif yZ.1==AX.exit 0 then((A.gtr (aj yZ.2.1 1) (AV.ah 10000)).bind λgG=>(rP [gG,(AV.ah 2)] yZ.2.2).bind λfQ=>A.fin σ fQ.1 fQ.2)else bif yZ.1==AX.ret then(A.fin σ (aj yZ.2.1 0) yZ.2.2)else none)
noncomputable def JQ:au→Heap→aH:=A.wrap true [ve] .k (A.dH Sg)
noncomputable def QW (a0 a1 a2:AV) (σ:Heap):aH:=(A.cells 2 a0).bind λc1=>(A.aB 0 2 c1).bind λx2=>(MK [x2,a1] σ).bind λr3=>(JQ [a2] r3.2).bind λr4=>((((A.cell r3.1).bind λv=>some [v]).bind λc5=>(A.aq 0 c5 [(AV.ah 0),(AV.ah 0)]).bind λc6=>((A.cell r4.1).bind λv=>some [v]).bind λc7=>(A.aq 1 c7 c6).bind λc8=>some c8).bind λcs=>some (AV.sl 1 (fI 1 2 cs))).bind λx9=>(ya [x9] r4.2).bind λlR=>(A.neq .i lR.1 (AV.ah 0)).bind λdJ=>A.cond dJ (A.fin σ lR.1 lR.2) ((A.aB 0 2 c1).bind λdS=>(Hj [dS] lR.2).bind λuB=>(A.ext 0 uB.1).bind λdY=>(A.ext 1 uB.1).bind λdK=>(A.bR dY).bind λdg=>(A.loop (λv17 zb=>(A.lss (aj v17 0) dg).bind λep=>A.cond ep ((A.aY 2 dY (aj v17 0)).bind λcN=>((A.deref cN zb).bind λiU=>A.aB 0 2 iU).bind λfC=>(A.cells 2 fC).bind λiB=>(A.aq 0 iB [(AV.ah 0),bA]).bind λgE=>(A.aB 0 2 gE).bind λgh=>(A.fV (.s [0,2]) (AV.om uB.2.length) gh dR zb).bind λh27=>(A.add (aj v17 0) (AV.ah 1)).bind λx28=>some (AX.normal,[x28],h27)) (some (AX.exit 0,[(aj v17 0)],zb))) [(AV.ah 0)] (uB.2++[aS.map []])).bind λi6=>bif i6.1==AX.exit 0 then((A.bR a2).bind λdO=>(A.loop (λv31 vH=>(A.lss (aj v31 1) dO).bind λx34=>A.cond x34 ((A.aY 11 a2 (aj v31 1)).bind λjc=>((A.deref jc vH).bind λjJ=>A.aB 0 11 jJ).bind λcK=>(A.cells 11 cK).bind λlY=>(A.aq 0 lY [(AV.ah 0),bA,(AV.ah 0),(AV.ah 0),(AV.ah 0),(AV.ah 0),(AV.ah 0),AV.az,aO,(AV.ah 0),AV.az]).bind λoC=>(A.ak 10 oC).bind λdV=>(A.bR dV).bind λeX=>(A.loop (λEJ Mf=>(A.lss (aj EJ 1) eX).bind λfO=>A.cond fO ((A.aY 8 dV (aj EJ 1)).bind λgP=>((A.deref gP Mf).bind λiD=>A.aB 0 8 iD).bind λgK=>(A.cells 8 gK).bind λC2=>(A.aq 0 C2 [(AV.ah 0),bA,(AV.ah 0),(AV.ah 0),aO,aO,(AV.ah 0),(AV.ah 0)]).bind λqJ=>(A.aB 0 2 qJ).bind λjD=>(A.look (.s [0,2]) (AV.om uB.2.length) jD aO Mf).bind λeP=>(A.not eP).bind λiy=>A.cond iy (some (AX.ret,[(AV.ah 8),(aj EJ 1)],Mf)) ((A.aB 0 2 qJ).bind λgL=>(A.aB 2 2 qJ).bind λjU=>(E3 [a1,gL,jU] Mf).bind λPX=>(A.ext 0 PX.1).bind λmq=>(A.ext 1 PX.1).bind λiG=>(A.neq .i iG (AV.ah 0)).bind λfK=>A.cond fK (some (AX.ret,[iG,(aj EJ 1)],PX.2)) ((A.add (aj EJ 1) (AV.ah 1)).bind λjE=>some (AX.normal,[(aj EJ 0),jE],PX.2)))) (some (AX.exit 4,[(aj EJ 0),(aj EJ 1)],Mf))) [(aj v31 0),(AV.ah 0)] vH).bind λwG=>bif wG.1==AX.exit 4 then((A.add (aj v31 1) (AV.ah 1)).bind λfc=>some (AX.normal,[(aj wG.2.1 0),fc],wG.2.2))else bif wG.1==AX.ret then(some (AX.ret,[(aj wG.2.1 0),(aj v31 1)],wG.2.2))else none) (some (AX.exit 2,[(aj v31 0),(aj v31 1)],vH))) [(AV.ah 0),(AV.ah 0)] i6.2.2).bind λqm=>bif qm.1==AX.exit 2 then(A.fin σ (AV.ah 0) qm.2.2)else bif qm.1==AX.ret then(A.fin σ (aj qm.2.1 0) qm.2.2)else none)else none)
noncomputable def QU:au→Heap→aH:=A.wrap true [(.a [(.e 3 FG),(.s 4)]),(.e 3 [.k,.k,(.s 3)]),ve] .k (A.mU QW)
noncomputable def RR (a0:AV) (σ:Heap):aH:=(A.bR a0).bind λx1=>(A.loop (λv2 s3=>(A.lss (aj v2 0) x1).bind λx5=>A.cond x5 ((A.aY 11 a0 (aj v2 0)).bind λx6=>((A.deref x6 s3).bind λc7=>A.aB 0 11 c7).bind λx8=>(A.cells 11 x8).bind λc9=>(A.aq 0 c9 [(AV.ah 0),bA,(AV.ah 0),(AV.ah 0),(AV.ah 0),(AV.ah 0),(AV.ah 0),AV.az,aO,(AV.ah 0),AV.az]).bind λfL=>(A.ak 10 fL).bind λdJ=>(A.bR dJ).bind λdS=>(A.loop (λtg AH=>(A.lss (aj tg 1) dS).bind λdg=>A.cond dg ((A.aY 8 dJ (aj tg 1)).bind λdD=>((A.deref dD AH).bind λjm=>A.aB 0 8 jm).bind λeC=>(A.cells 8 eC).bind λjR=>(A.aq 0 jR [(AV.ah 0),bA,(AV.ah 0),(AV.ah 0),aO,aO,(AV.ah 0),(AV.ah 0)]).bind λlB=>(A.ak 4 lB).bind λeu=>(A.cond eu ((A.aB 0 2 lB).bind λx24=>(A.F0 (.s [0,2]) (AV.om σ.length) x24 AH).bind λh25=>some ([(aj tg 0)],h25)) ((A.aB 0 2 lB).bind λgh=>(A.aB 0 2 lB).bind λeU=>(A.aB 2 2 lB).bind λx28=>((A.lb (aj tg 0)).bind λ_=>some (0)).bind λp29=>((A.lb (aj tg 0)).bind λvi=>A.ak p29 vi).bind λx31=>(((A.cells 2 eU).bind λVU=>(A.aq 0 VU [(AV.ah 0),bA,(AV.ah 0),(AV.ah 0),(AV.ah 0)]).bind λGl=>(A.cells 2 x28).bind λvk=>(A.aq 2 vk Gl).bind λgr=>((A.cell x31).bind λv=>some [v]).bind λjJ=>(A.aq 4 jJ gr).bind λiu=>some iu).bind λcs=>some (AV.agg cs)).bind λx38=>(A.fV (.s [0,2]) (AV.om σ.length) gh x38 AH).bind λuu=>some ([(aj tg 0)],uu))).bind λqh=>(A.add (aj tg 1) (AV.ah 1)).bind λdV=>some (AX.normal,[(aj qh.1 0),dV],qh.2)) (some (AX.exit 2,[(aj tg 0),(aj tg 1)],AH))) [(AV.lbx fL),(AV.ah 0)] s3).bind λGQ=>bif GQ.1==AX.exit 2 then((A.add (aj v2 0) (AV.ah 1)).bind λgz=>some (AX.normal,[gz],GQ.2.2))else none) (some (AX.exit 0,[(aj v2 0)],s3))) [(AV.ah 0)] (σ++[aS.map []])).bind λkJ=>bif kJ.1==AX.exit 0 then(A.fin σ (AV.om σ.length) kJ.2.2)else none
noncomputable def JJ:au→Heap→aH:=A.wrap true [ve] .k (A.dH RR)
noncomputable def QX (a0 a1:AV) (σ:Heap):aH:=(A.cells 11 a0).bind λc1=>(A.ak 0 c1).bind λx2=>(A.sub x2 a1).bind λx3=>A.fin σ x3 σ
noncomputable def EV:au→Heap→aH:=A.wrap true [(.a [.k,.k,.k,.k,.k,.k,.k,(.s 2),.k,.k,(.s 8)])] .k (A.dI QX)
noncomputable def Nq (a0 a1:AV) (σ:Heap):aH:=(GX (A.tab (λ_ _=>none) [(177,EV)]) [a0,a1,(AV.fn 177 [])] σ).bind λr1=>(A.ext 0 r1.1).bind λx2=>(A.ext 1 r1.1).bind λx3=>A.fin σ (AV.aM [x2,x3]) r1.2
noncomputable def Hy:au→Heap→aH:=A.wrap true [ve] .k (A.dI Nq)
noncomputable def agA (a0 a1:AV) (σ:Heap):aH:=(A.cells 5 a0).bind λc1=>(A.cells 5 a1).bind λc2=>(A.aB 0 2 c1).bind λx3=>(A.aB 0 2 c2).bind λx4=>(M8 [x3,x4] σ).bind λr5=>A.fin σ r5.1 r5.2
noncomputable def XG:au→Heap→aH:=A.wrap true [] .k (A.dI agA)
noncomputable def Np (a0 a1:AV) (σ:Heap):aH:=(JQ [a0] σ).bind λr1=>(A.neq .i r1.1 (AV.ah 0)).bind λx2=>A.cond x2 ((A.fin σ (AV.aM [AV.az,r1.1]) r1.2).map λp=>(A.nn (.t [(.s 5),.k]) p.1,p.2)) ((Hy [a0,a1] r1.2).bind λr3=>(A.ext 0 r3.1).bind λx4=>(A.ext 1 r3.1).bind λx5=>(A.not x5).bind λx6=>A.cond x6 ((A.fin σ (AV.aM [AV.az,(AV.ah 8)]) r3.2).map λp=>(A.nn (.t [(.s 5),.k]) p.1,p.2)) ((A.add x4 (AV.ah 1)).bind λx7=>(A.FA 11 a0 none (some x7) r3.2).bind λx8=>(JJ [x8] r3.2).bind λr9=>(A.yt r9.1).bind λarq=>A.Cn (λv11 mK k13=>A.vU (AV.op r9.2.length 0) mK λdY Dp=>(A.ext 0 dY).bind λdg=>A.cond dg ((A.yq (AV.op r9.2.length 0) Dp).bind λdD=>(A.ext 1 dD).bind λcI=>(A.cells 5 cI).bind λiM=>(A.aq 0 iM [(AV.ah 0),bA,(AV.ah 0),(AV.ah 0),(AV.ah 0)]).bind λjR=>(A.aB 0 5 jR).bind λcN=>(((A.cells 5 cN).bind λiU=>(A.aq 0 iU [(AV.ah 0),bA,(AV.ah 0),(AV.ah 0),(AV.ah 0)]).bind λgd=>some gd).bind λcs=>some (AV.sl 5 (fI 5 1 cs))).bind λx24=>(A.append 5 (140737488355328 / 48) (aj v11 0) x24 Dp).bind λnA=>k13 (AX.normal,[nA.1],nA.2)) (k13 (AX.exit 0,[(aj v11 0)],Dp))) [AV.az] (r9.2++[aS.it [] arq]) λmo=>bif mo.1==AX.exit 0 then((Jm [(aj mo.2.1 0),(AV.fn 297 [])] mo.2.2).bind λAy=>(A.fin σ (AV.aM [(aj mo.2.1 0),(AV.ah 0)]) Ay.2).map λp=>(A.nn (.t [(.s 5),.k]) p.1,p.2))else none))
noncomputable def Ni:au→Heap→aH:=A.wrap true [ve] (.t [(.s 5),.k]) (A.dI Np)
end
end Go.Proofs.YtooknfkholjpbaaGreat
