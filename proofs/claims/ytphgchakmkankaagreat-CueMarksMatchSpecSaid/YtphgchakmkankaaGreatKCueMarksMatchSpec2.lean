/- Parts of the proof of CueMarksMatchSpec, in order. -/
import Derived.Orders
import Derived.Below
import Derived.WalkKit
import Derived.Laws.StructEq
import Derived.Laws.Append
import Derived.Laws.AppendOwn
import Derived.Test.YtphgchakmkankaaGreatRows
import Derived.KernelRfl
import Derived.Lib.Bytealg
import Derived.Sort.Defs
import Derived.Lib.BitFns
import Derived.Test.YtphgchakmkankaaGreatKCueMarksMatchSpec1
namespace Go.Proofs.YtphgchakmkankaaGreat
set_option linter.unusedVariables false
set_option linter.unusedSimpArgs false
set_option linter.unusedSectionVars false
section
open Go.RowKit
section
variable {X : Fx} {z : Z} {s : AS} {a : Act} {w w' : World} {E : List Pl} {pb : Nat → Option Nat} {R : Type}
theorem qD {o:Oper} {v:Value} {w':World} {K:Act→World→Prop} {Q:Exit→Act→World→Prop} (h:(execOp a.eval o).run X.P w=.ok (.value v) w') (k:K (a.put o.dst v) w'):o.wp X.P a w K Q:=by
 unfold Oper.wp;rw[h,Oper.upon_value];exact k
theorem O9 {o:Oper} {w':World} {K:Act→World→Prop} {Q:Exit→Act→World→Prop} (h:(execOp a.eval o).run X.P w=.ok .skip w') (k:K (a.put o.dst undef) w'):o.wp X.P a w K Q:=by
 unfold Oper.wp;rw[h,Oper.upon_skip];exact k
theorem St.undef (h:St X z s a w E pb) (d:Option Nat):St X z (s.put X d (.aL [])) (a.put d undef) w E pb:=
 h.put d (by simp only[aq];exact⟨#[],rfl,by simp [aQ]⟩)
theorem yx (hs:cL X) (h:St X z s a w E pb) {o:Oper} {k:AS→Option R} {r:R} (hk:((gq X o s none).bind fun v=>k (s.put X o.dst v))=some r) {K:Act→World→Prop} {Q:Exit→Act→World→Prop}
  (hK:∀s' a' w' E' ck,St X z s' a' w' E' ck→k s'=some r→K a' w'):o.wp X.P a w K Q:=by
 obtain⟨av,h1,h2⟩:=Option.bind_eq_some_iff.1 hk
 exact XG hs h (tag:=none) trivial h1 fun v w' E' h3 h4=>hK _ _ _ _ _ (h3.put o.dst h4) h2
theorem aif (h:St X z s a w E pb) {q str:Bool} {i:Operand} {dst:Option Nat} {ty:TypeId} {pos:String} {af:Array Edge} {g:Option (Nat×Bool)} {k:AS→Option R} {r:R}
  (hk:(bif q||str then none else A.AM (ev X s i) s.σ fun v σ=>k ((s.heap σ).put X dst v))=some r) {K:Act→World→Prop} {Q:Exit→Act→World→Prop}
  (hK:∀s' a' w' E' ck,St X z s' a' w' E' ck→k s'=some r→K a' w'):Oper.wp X.P ⟨dst,.next i str,ty,pos,af,g⟩ a w K Q:=by
 cases hq:(q||str)
 ·rw[hq]at hk
  simp only[cond_false]at hk
  simp only[Bool.or_eq_false_iff]at hq
  obtain⟨rfl,rfl⟩:=hq
  obtain⟨av,σ',v',w',k1,k2,k3,k4⟩:=aih (ty:=ty) h hk (eW h i)
  exact qD (w':=w') (by simp [execOp,k2]) (hK _ _ _ _ _ (k3.put dst k4) k1)
 ·rw[hq]at hk;cases hk
theorem adk (hs:cL X) (h:St X z s a w E pb) {d t n:Nat} {ps:Array (Nat×Operand)} {ty:TypeId} {pos:String} {af:Array Edge} {g:Option (Nat×Bool)} {k:AS→Option R} {r:R}
  (hk:((gq X ⟨some d,.buildSlice t n ps,ty,pos,af,g⟩ s none).bind fun v=>A.EC v fun sz es=>k ((s.heap (s.σ++[.arr es.length sz es])).put X (some d) (.os s.σ.length es.length sz 0 es.length)))=some r) {K:Act→World→Prop} {Q:Exit→Act→World→Prop}
  (hK:∀s' a' w' E' ck,St X z s' a' w' E' ck→k s'=some r→K a' w'):Oper.wp X.P ⟨some d,.buildSlice t n ps,ty,pos,af,g⟩ a w K Q:=by
 obtain⟨v,h1,h2⟩:=Option.bind_eq_some_iff.1 hk
 unfold A.EC at h2
 split at h2
 ·rename_i sz es
  cases hl:(es.length==0)
  ·rw[hl]at h2
   simp only[cond_false]at h2
   have hne:0<es.length:=by simp at hl;exact List.length_pos_iff.2 hl
   obtain⟨arr,et,e1,e2,e3,e4,e5⟩:=abY h h1
   have hlen:=h.heap.len
   simp only[ctx]at hlen
   refine qD e1 (hK _ _ _ _ _ ((h.yJ (.cells arr et) (.arr es.length sz es) ⟨w.heap.size,0,es.length,sz,arr.size⟩ rfl fun hx=>?_).put (some d) (av:=.os s.σ.length es.length sz 0 es.length) ?_) h2)
   ·have hb:=(MapKept.heap_alloc w (.cells arr et)).1
    exact⟨rfl,hne,rfl,e3,⟨arr,et,hb,rfl⟩,by rw[e2];simp,e4 _ hb hx,As hb e5⟩
   ·simp only[aq]
    refine⟨hne,⟨w.heap.size,0,es.length,sz,arr.size⟩,by show(E++[_])[s.σ.length]? =_;rw[←hlen];exact List.getElem?_concat_length,Nat.le_refl _,⟨w.heap.size,0,none⟩,es.length,rfl,Nat.le_refl _,fun _=>⟨rfl,.inr (by simp),by rw[e2];simp⟩⟩
  ·rw[hl]at h2;cases h2
 ·cases h2
theorem ajj (hs:cL X) (h:St X z s a w E pb) {q:Bool} {o:Oper} {k:AS→Option R} {r:R} (hk:iy X q o s k=some r) {K:Act→World→Prop} {Q:Exit→Act→World→Prop}
  (hK:∀s' a' w' E' ck,St X z s' a' w' E' ck→k s'=some r→K a' w'):o.wp X.P a w K Q:=by
 unfold iy at hk
 cases hp:kR X o s none with
 |some p=>
  obtain⟨b,rr⟩:=p
  rw[hp]at hk
  simp only at hk
  obtain⟨off,h1,h2⟩:=Option.bind_eq_some_iff.1 hk
  subst h1
  obtain⟨n,k1,k2⟩:=XF h (tag:=none) trivial hp
  exact qD k2 (hK _ _ _ _ _ (h.QD o.dst (fun _=>⟨n,k1,rfl⟩)) h2)
 |none=>
  rw[hp]at hk
  simp only at hk
  obtain⟨dst,op,ty,pos,af,g⟩:=o
  cases op<;>simp only at hk<;>first|exact aif h hk hK|exact yx hs h hk hK|skip
  case alloc t=>
   cases dst with
   |none=>cases hk
   |some d=>
    simp only at hk
    cases hL:X.L.contains d
    ·rw[hL]at hk
     simp only[cond_false]at hk
     cases hO:X.O.contains d
     ·rw[hO]at hk;exact yx hs h hk hK
     ·rw[hO]at hk
      simp only[cond_true]at hk
      split at hk
      ·rename_i cs hz
       obtain⟨i,v,h1,h2,h3,h4,h5,h6⟩:=wX (w:=w) hz (ctx z w E pb)
       have hrun:(execOp a.eval ⟨some d,.alloc t,ty,pos,af,g⟩).run X.P w=.ok (.value (.pointer (some ⟨w.heap.size,0,none⟩))) (w.alloc (.cells v.cells t)):=by
        simp [execOp,Instr.alloc,h3,newVar,wP]
       have hst:=h.yJ (.cells v.cells t) (.box cs) ⟨w.heap.size,0,0,0,0⟩ rfl (fun hx=>by
        have hb:(w.alloc (.cells v.cells t)).heap[w.heap.size]? =some (.cells v.cells t (0,0)):=(MapKept.heap_alloc w _).1
        exact⟨rfl,⟨_,_,hb,by have:=h5.length;simpa using this.symm⟩,bE.yc hb (aQ.mono hx _ _ h5) h6 (fun i hi=>by simp)⟩)
       have hlen:=h.heap.len
       simp only[ctx]at hlen
       refine qD hrun (hK _ _ _ _ _ (hst.put (some d) (av:=.op s.σ.length 0) ?_) hk)
       simp only[aq]
       exact⟨⟨w.heap.size,0,0,0,0⟩,by show(E++[_])[s.σ.length]? =_;rw[←hlen];exact List.getElem?_concat_length,rfl,rfl⟩
      ·cases hk
    ·rw[hL]at hk
     simp only[cond_true]at hk
     split at hk
     ·rename_i cs hz
      obtain⟨i,v,h1,h2,h3,h4,h5,h6⟩:=wX (w:=w) hz (ctx z w E pb)
      have hrun:(execOp a.eval ⟨some d,.alloc t,ty,pos,af,g⟩).run X.P w=.ok (.value (.pointer (some ⟨w.heap.size,0,none⟩))) (w.alloc (.cells v.cells t)):=by
       simp [execOp,Instr.alloc,h3,newVar,wP]
      obtain⟨ck,hst⟩:=h.pg d hL (vs:=v.cells.toList) t h5 h6
      exact qD hrun (hK _ _ _ _ _ (by simpa using hst) hk)
     ·cases hk
  case box t x=>
   cases dst with
   |none=>cases hk
   |some d=>
    simp only at hk
    cases hL:X.L.contains d
    ·rw[hL]at hk
     simp only[cond_false]at hk
     cases hO:X.O.contains d
     ·rw[hO]at hk;exact yx hs h hk hK
     ·rw[hO]at hk
      simp only[cond_true]at hk
      obtain⟨cs,h1,h2⟩:=Option.bind_eq_some_iff.1 hk
      obtain⟨h5,h6,_,_⟩:=DG X h1 (eW h x)
      have hrun:(execOp a.eval ⟨some d,.box t x,ty,pos,af,g⟩).run X.P w=.ok (.value (.pointer (some ⟨w.heap.size,0,none⟩))) (w.alloc (.cells (a.eval x).cells t)):=by
       simp [execOp,Instr.box,newVar,wP]
      have hst:=h.yJ (.cells (a.eval x).cells t) (.box cs) ⟨w.heap.size,0,0,0,0⟩ rfl (fun hx=>by
       have hb:(w.alloc (.cells (a.eval x).cells t)).heap[w.heap.size]? =some (.cells (a.eval x).cells t (0,0)):=(MapKept.heap_alloc w _).1
       exact⟨rfl,⟨_,_,hb,by have:=h5.length;simpa using this.symm⟩,bE.yc hb (aQ.mono hx _ _ h5) h6 (fun i hi=>by simp)⟩)
      have hlen:=h.heap.len
      simp only[ctx]at hlen
      refine qD hrun (hK _ _ _ _ _ (hst.put (some d) (av:=.op s.σ.length 0) ?_) h2)
      simp only[aq]
      exact⟨⟨w.heap.size,0,0,0,0⟩,by show(E++[_])[s.σ.length]? =_;rw[←hlen];exact List.getElem?_concat_length,rfl,rfl⟩
    ·rw[hL]at hk
     simp only[cond_true]at hk
     obtain⟨cs,h1,h2⟩:=Option.bind_eq_some_iff.1 hk
     obtain⟨h5,h6,_,_⟩:=DG X h1 (eW h x)
     have hrun:(execOp a.eval ⟨some d,.box t x,ty,pos,af,g⟩).run X.P w=.ok (.value (.pointer (some ⟨w.heap.size,0,none⟩))) (w.alloc (.cells (a.eval x).cells t)):=by
      simp [execOp,Instr.box,newVar,wP]
     obtain⟨ck,hst⟩:=h.pg d hL (vs:=(a.eval x).cells.toList) t h5 h6
     exact qD hrun (hK _ _ _ _ _ (by simpa using hst) h2)
  case store t x v=>
   split at hk
   ·rename_i b off hp
    obtain⟨cs,h1,h2⟩:=Option.bind_eq_some_iff.1 hk
    obtain⟨new,h3,h4⟩:=Option.bind_eq_some_iff.1 h2
    obtain⟨cs',h5,h6⟩:=Option.bind_eq_some_iff.1 h4
    obtain⟨n,k1,k2,k3,k4⟩:=DR h (tag:=none) trivial hp h1
    obtain⟨r1,r2,r3,d,hd⟩:=DG X h3 (eW h v)
    obtain⟨arr,bt,j1,j2,j3⟩:=VD k3
    obtain⟨j4,j5⟩:=j2.gM h5 r1
    have hrun:=NN (P:=X.P) (t:=t) j1 r3 (Tj hd) r2 j5
    have hst:=h.ajs k1 ⟨cs,k4⟩ (t:=bt) j4 (D7 j3 r2)
    refine O9 (w':=_) ?_ (hK _ _ _ _ _ (hst.undef dst) h6)
    simp only[execOp,k2,Sem.run_bind]
    rw[show(Instr.storeAt t (.pointer (some ⟨n,off,none⟩)) (a.eval v)).run X.P w=_ from hrun]
    rfl
   ·obtain⟨new,h3,h4⟩:=Option.bind_eq_some_iff.1 hk
    obtain⟨σ',h5,h6⟩:=Option.bind_eq_some_iff.1 h4
    obtain⟨w',k1,k2⟩:=ae6 h h3 (eW h v) h5 (eW h x)
    refine O9 (w':=w') ?_ (hK _ _ _ _ _ (k2.undef dst) h6)
    simp only[execOp,Sem.run_bind,k1]
    rfl
  case makeMap t rr=>
   cases rr with
   |some x=>cases hk
   |none=>
    simp only at hk
    have hrun:(execOp a.eval ⟨dst,.makeMap t none,ty,pos,af,g⟩).run X.P w=.ok (.value (.map (some w.heap.size))) (w.alloc (.map #[] 0)):=by
     simp [execOp,Instr.makeMap,newObj,Sem.run]
    have hst:=h.yJ (.map #[] 0) (.map []) ⟨w.heap.size,0,0,0,0⟩ rfl (fun hx=>by
     have hb:(w.alloc (.map #[] 0)).heap[w.heap.size]? =some (.map #[] 0):=(MapKept.heap_alloc w _).1
     exact⟨rfl,_,_,hb,p4.empty,rfl⟩)
    have hlen:=h.heap.len
    simp only[ctx]at hlen
    refine qD hrun (hK _ _ _ _ _ (hst.put dst (av:=.om s.σ.length) ?_) hk)
    simp only[aq]
    exact⟨⟨w.heap.size,0,0,0,0⟩,by show(E++[_])[s.σ.length]? =_;rw[←hlen];exact List.getElem?_concat_length,rfl,rfl⟩
  case range t x=>
   split at hk
   ·rename_i kt et hd
    obtain⟨es,h1,h2⟩:=Option.bind_eq_some_iff.1 hk
    obtain⟨o,k1,k2⟩:=ag9 h hd h1 (eW h x)
    have hlen:=h.heap.len
    simp only[ctx]at hlen
    refine qD (v:=.pointer (some ⟨w.heap.size,0,none⟩)) (w':=w.alloc o) (by simp [execOp,k1]) (hK _ _ _ _ _ (k2.put dst (av:=.op s.σ.length 0) ?_) h2)
    simp only[aq]
    exact⟨⟨w.heap.size,0,0,0,0⟩,by show(E++[_])[s.σ.length]? =_;rw[←hlen];exact List.getElem?_concat_length,rfl,rfl⟩
   ·cases hk
  case buildSlice t n ps=>
   cases dst with
   |none=>exact yx hs h hk hK
   |some d=>
    simp only at hk
    cases hO:X.O.contains d
    ·rw[hO]at hk;exact yx hs h hk hK
    ·rw[hO]at hk
     simp only[cond_true]at hk
     exact adk hs h hk hK
  case mapUpdate t m i v=>
   split at hk
   ·rename_i kt et hd
    split at hk
    ·rename_i ek he
     obtain⟨σ',h1,h2⟩:=Option.bind_eq_some_iff.1 hk
     obtain⟨w',k1,k2⟩:=aib h hd he h1 (eW h m) (eW h i) (eW h v)
     refine O9 (w':=w') ?_ (hK _ _ _ _ _ (k2.undef dst) h2)
     simp only[execOp,Sem.run_bind,k1]
     rfl
    ·cases hk
   ·cases hk
  case call c=>
   have hargs:(c.args.map a.eval).toList=c.args.toList.map a.eval:=by simp
   have re:=D2 h c.args.toList
   split at hk
   ·rename_i hc
    split at hk
    ·rename_i t u x y h1 h2
     split at hk
     ·rename_i e e' hd hu
      split at hk
      ·rename_i i hi
       cases fK:nQ i
       ·rw[fK]at hk
        simp only[cond_false]at hk
        simp only[nQ,Bool.or_eq_false_iff,beq_eq_false_iff_ne]at fK
        obtain⟨⟨z1,z2⟩,z3⟩:=fK
        cases R3:i.zero with
        |none=>rw[R3]at z3;cases z3
        |some zv=>
         rw[R3]at z3
         simp only[Bool.or_eq_false_iff,bne_eq_false_iff_eq,Bool.not_eq_false']at z3
         obtain⟨z3,z4⟩:=z3
         obtain⟨⟨rr,σ'⟩,h3,h4⟩:=Option.bind_eq_some_iff.1 hk
         rw[h2]at re
         have hl:∃v vy,c.args.toList.map a.eval=[v,vy]∧aq (ctx z w E pb) x v∧aq (ctx z w E pb) y vy:=by
          generalize c.args.toList.map a.eval=vs at *
          simp only[aQ]at re
          obtain⟨v,_,rfl,r1,u',_,rfl,r2,rfl⟩:=re
          exact⟨v,u',rfl,r1,r2⟩
         obtain⟨v,vy,hvs,r1,r2⟩:=hl
         have hone:∀x∈zv.cells.toList,dM x=true:=List.all_eq_true.1 z4
         obtain⟨n,w',E',k1,k2,k3⟩:=afi (ty:=ty) h hd hu hi R3 z3 z1 z2 hone h3 r1 r2
         have h1':c.argTypes=#[t,u]:=by apply Array.toList_inj.1;simpa using h1
         have vY:c.args.map a.eval=#[v,vy]:=by apply Array.toList_inj.1;rw[hargs,hvs]
         have hrun:(execOp a.eval ⟨dst,.call c,ty,pos,af,g⟩).run X.P w=.ok (.value n) w':=by
          simp only[execOp,resolve,hc,Sem.run_bind,Sem.run_pure,Result.andThen_ok,invoke,builtin,vY,h1',k1]
         exact qD hrun (hK _ _ _ _ _ (k2.put dst k3) h4)
       ·rw[fK]at hk;cases hk
      ·cases hk
     ·rename_i e kk hd hu
      split at hk
      ·rename_i i zs hi hz
       cases fK:nQ i
       ·rw[fK]at hk
        simp only[cond_false]at hk
        simp only[nQ,Bool.or_eq_false_iff,beq_eq_false_iff_ne]at fK
        obtain⟨⟨z1,z2⟩,z3⟩:=fK
        obtain⟨i',zv,g1,g2,g3,g4,g5,g6⟩:=wX (w:=w) hz (ctx z w E pb)
        rw[hi]at g1;injection g1 with g1;subst g1
        rw[g2]at z3
        simp only[Bool.or_eq_false_iff,bne_eq_false_iff_eq,Bool.not_eq_false']at z3
        obtain⟨z3,z4⟩:=z3
        have ru:∀c,aQ c zs zv.cells.toList:=fun c=>by
         obtain⟨i2,v2,f1,f2,f3,f4,f5,f6⟩:=wX (w:=w) hz c
         rw[hi]at f1;injection f1 with f1;subst f1
         rw[g2]at f2;injection f2 with f2;subst f2
         exact f5
        obtain⟨⟨rr,σ'⟩,h3,h4⟩:=Option.bind_eq_some_iff.1 hk
        rw[h2]at re
        have hl:∃v vy,c.args.toList.map a.eval=[v,vy]∧aq (ctx z w E pb) x v∧aq (ctx z w E pb) y vy:=by
         generalize c.args.toList.map a.eval=vs at *
         simp only[aQ]at re
         obtain⟨v,_,rfl,r1,u',_,rfl,r2,rfl⟩:=re
         exact⟨v,u',rfl,r1,r2⟩
        obtain⟨v,vy,hvs,r1,r2⟩:=hl
        obtain⟨n,w',E',k1,k2,k3⟩:=aec (ty:=ty) h hd hu hi g2 z3 z1 z2 ru g6 h3 r1 r2
        have h1':c.argTypes=#[t,u]:=by apply Array.toList_inj.1;simpa using h1
        have vY:c.args.map a.eval=#[v,vy]:=by apply Array.toList_inj.1;rw[hargs,hvs]
        have hrun:(execOp a.eval ⟨dst,.call c,ty,pos,af,g⟩).run X.P w=.ok (.value n) w':=by
         simp only[execOp,resolve,hc,Sem.run_bind,Sem.run_pure,Result.andThen_ok,invoke,builtin,vY,h1',k1]
        exact qD hrun (hK _ _ _ _ _ (k2.put dst k3) h4)
       ·rw[fK]at hk;cases hk
      ·cases hk
     ·cases hk
    ·cases hk
   ·rename_i hc
    split at hk
    ·rename_i t u x y h1 h2
     split at hk
     ·rename_i e e' hd hu
      split at hk
      ·rename_i i hi
       cases fK:nQ i
       ·rw[fK]at hk
        simp only[cond_false]at hk
        simp only[nQ,Bool.or_eq_false_iff,beq_eq_false_iff_ne]at fK
        obtain⟨⟨z1,z2⟩,z3⟩:=fK
        obtain⟨⟨rr,σ'⟩,h3,h4⟩:=Option.bind_eq_some_iff.1 hk
        rw[h2]at re
        have hl:∃v vy,c.args.toList.map a.eval=[v,vy]∧aq (ctx z w E pb) x v∧aq (ctx z w E pb) y vy:=by
         generalize c.args.toList.map a.eval=vs at *
         simp only[aQ]at re
         obtain⟨v,_,rfl,r1,u',_,rfl,r2,rfl⟩:=re
         exact⟨v,u',rfl,r1,r2⟩
        obtain⟨v,vy,hvs,r1,r2⟩:=hl
        obtain⟨n,w',k1,k2,k3⟩:=ahB (ty:=ty) h hd hu hi z1 h3 r1 r2
        have h1':c.argTypes=#[t,u]:=by apply Array.toList_inj.1;simpa using h1
        have vY:c.args.map a.eval=#[v,vy]:=by apply Array.toList_inj.1;rw[hargs,hvs]
        have hrun:(execOp a.eval ⟨dst,.call c,ty,pos,af,g⟩).run X.P w=.ok (.value n) w':=by
         simp only[execOp,resolve,hc,Sem.run_bind,Sem.run_pure,Result.andThen_ok,invoke,builtin,vY,h1',k1]
        exact qD hrun (hK _ _ _ _ _ (k2.put dst k3) h4)
       ·rw[fK]at hk;cases hk
      ·cases hk
     ·cases hk
    ·cases hk
   ·rename_i hc
    cases hv:gq X ⟨dst,.call c,ty,pos,af,g⟩ s none with
    |some v=>
     rw[hv]at hk
     exact yx hs h (by rw[hv];exact hk) hK
    |none=>
     rw[hv]at hk
     simp only[A.yY]at hk
     cases q
     ·simp only[cond_false]at hk
      split at hk
      ·rename_i t x h1 h2
       split at hk
       ·rename_i e hd
        rw[h2]at re
        have hl:∃v,c.args.toList.map a.eval=[v]∧aq (ctx z w E pb) x v:=by
         generalize c.args.toList.map a.eval=vs at *
         simp only[aQ]at re
         obtain⟨v,_,rfl,r1,rfl⟩:=re
         exact⟨v,rfl,r1⟩
        obtain⟨v,hvs,r1⟩:=hl
        obtain⟨n,σ',k1,k2,k3⟩:=ahx (ty:=ty) h hd hk r1
        have h1':c.argTypes=#[t]:=by apply Array.toList_inj.1;simpa using h1
        have vY:c.args.map a.eval=#[v]:=by apply Array.toList_inj.1;rw[hargs,hvs]
        have hrun:(execOp a.eval ⟨dst,.call c,ty,pos,af,g⟩).run X.P w=.ok (.value (.int .i64 (n:Int))) w:=by
         simp only[execOp,resolve,hc,Sem.run_bind,Sem.run_pure,Result.andThen_ok,invoke,builtin,vY,h1',k2]
        exact qD hrun (hK _ _ _ _ _ (k3.put dst (by simp [aq])) k1)
       ·cases hk
      ·cases hk
     ·cases hk
   ·rename_i hc
    split at hk
    ·rename_i t x h1 h2
     split at hk
     ·rename_i e hd
      split at hk
      ·rename_i i zs hi hz
       cases fK:nQ i
       ·rw[fK]at hk
        simp only[cond_false]at hk
        simp only[nQ,Bool.or_eq_false_iff,beq_eq_false_iff_ne]at fK
        obtain⟨⟨z1,z2⟩,z3⟩:=fK
        obtain⟨i',zv,g1,g2,g3,g4,g5,g6⟩:=wX (w:=w) hz (ctx z w E pb)
        rw[hi]at g1;injection g1 with g1;subst g1
        rw[g2]at z3
        simp only[Bool.or_eq_false_iff,bne_eq_false_iff_eq,Bool.not_eq_false']at z3
        obtain⟨z3,z4⟩:=z3
        have ru:∀c,aQ c zs zv.cells.toList:=fun c=>by
         obtain⟨i2,v2,f1,f2,f3,f4,f5,f6⟩:=wX (w:=w) hz c
         rw[hi]at f1;injection f1 with f1;subst f1
         rw[g2]at f2;injection f2 with f2;subst f2
         exact f5
        obtain⟨σ',h3,h4⟩:=Option.bind_eq_some_iff.1 hk
        rw[h2]at re
        have hl:∃v,c.args.toList.map a.eval=[v]∧aq (ctx z w E pb) x v:=by
         generalize c.args.toList.map a.eval=vs at *
         simp only[aQ]at re
         obtain⟨v,_,rfl,r1,rfl⟩:=re
         exact⟨v,rfl,r1⟩
        obtain⟨v,hvs,r1⟩:=hl
        obtain⟨w',k1,k2⟩:=agy (ty:=ty) h hd (afc X.P hi g2) z3 z1 ru g6 h3 r1
        have h1':c.argTypes=#[t]:=by apply Array.toList_inj.1;simpa using h1
        have vY:c.args.map a.eval=#[v]:=by apply Array.toList_inj.1;rw[hargs,hvs]
        have hrun:(execOp a.eval ⟨dst,.call c,ty,pos,af,g⟩).run X.P w=.ok (.value undef) w':=by
         simp only[execOp,resolve,hc,Sem.run_bind,Sem.run_pure,Result.andThen_ok,invoke,builtin,vY,h1',k1]
         rfl
        exact qD hrun (hK _ _ _ _ _ (k2.undef dst) h4)
       ·rw[fK]at hk;cases hk
      ·cases hk
     ·cases hk
    ·cases hk
   ·rename_i hc
    split at hk
    ·rename_i t u m key h1 h2
     split at hk
     ·rename_i kt et hd
      split at hk
      ·rename_i ek he
       obtain⟨σ',h3,h4⟩:=Option.bind_eq_some_iff.1 hk
       rw[h2]at re
       have hl:∃v vy,c.args.toList.map a.eval=[v,vy]∧aq (ctx z w E pb) m v∧aq (ctx z w E pb) key vy:=by
        generalize c.args.toList.map a.eval=vs at *
        simp only[aQ]at re
        obtain⟨v,_,rfl,r1,u',_,rfl,r2,rfl⟩:=re
        exact⟨v,u',rfl,r1,r2⟩
       obtain⟨v,vy,hvs,r1,r2⟩:=hl
       obtain⟨w',k1,k2⟩:=ah7 (u:=u) (ty:=ty) h hd he h3 r1 r2
       have h1':c.argTypes=#[t,u]:=by apply Array.toList_inj.1;simpa using h1
       have vY:c.args.map a.eval=#[v,vy]:=by apply Array.toList_inj.1;rw[hargs,hvs]
       have hrun:(execOp a.eval ⟨dst,.call c,ty,pos,af,g⟩).run X.P w=.ok (.value undef) w':=by
        simp only[execOp,resolve,hc,Sem.run_bind,Sem.run_pure,Result.andThen_ok,invoke,builtin,vY,h1',k1]
        rfl
       exact qD hrun (hK _ _ _ _ _ (k2.undef dst) h4)
      ·cases hk
     ·cases hk
    ·cases hk
   ·exact yx hs h hk hK
   ·rename_i f hc
    cases hq:(q&&!X.W.contains f)
    ·rw[hq]at hk
     simp only[cond_false]at hk
     obtain⟨⟨rr,σ'⟩,h3,h4⟩:=Option.bind_eq_some_iff.1 hk
     exact F3 h (hs.call _ _ _ _ _ h3) (by rw[hargs];exact re) (S5 hc) (fun v w' E' h1 h2=>hK _ _ _ _ _ (h1.put dst h2) h4)
    ·rw[hq]at hk
     simp only[cond_true]at hk
     exact yx hs h hk hK
   ·rename_i x hnf hc
    cases q
    ·simp only[cond_false]at hk
     obtain⟨⟨rr,σ'⟩,h3,h4⟩:=Option.bind_eq_some_iff.1 hk
     have rx:=eW h x
     generalize ev X s x=vx at *
     cases vx<;>simp only[A.iI]at h3<;>first|(cases h3;done)|skip
     rename_i fn0 Gj
     simp only[aq]at rx
     obtain⟨f,cs,e1,e2,e3⟩:=rx
     rw[←e2]at h3
     have zH:X.dyn (X.nm.getD f 0) (c.args.toList.map (ev X s)++Gj) s.σ=some (rr,σ'):=by rw[h.nm];exact h3
     exact F3 h (hs.dyn _ _ _ _ _ zH) (vs:=c.args.map a.eval++cs) (by rw[Array.toList_append,hargs];exact re.append e3) (MO hc e1) (fun v w' E' h1 h2=>hK _ _ _ _ _ (h1.put dst h2) h4)
    ·simp only[cond_true]at hk
     exact yx hs h hk hK
   ·cases hk
end
end
section
structure Up where
 d:Option Nat
 v:U
 bx:Option (Nat×U)
 new:Option tX
 vA:Bool
 σ:Option Heap
def p9 (vA:Bool) (d:Nat) (a:Option tX):Option tX:=match oZ d a with|some p=>bif vA&&p.slot==d then none else some p|none=>none
def Up.sl (u:Up) (l:List U):List U:=match u.d with
 |some d=>(match u.bx with|some (b,x)=>l.set b x|none=>l).set d u.v
 |none=>(match u.bx with|some (b,x)=>l.set b x|none=>l)
def Up.A (u:Up) (A:Nat→Option tX) (t:Nat):Option tX:=match u.d with|none=>A t|some d=>bif t==d then u.new else p9 u.vA d (A t)
def Up.ap (u:Up) (s:AS):AS:=⟨u.sl s.sl,u.A s.A,u.σ.getD s.σ⟩
theorem FE (d:Nat) (a:Option tX):p9 false d a=oZ d a:=by unfold p9;cases oZ d a<;>rfl
theorem NX (i:Bool) (d:Nat) (a:Option tX):p9 i d a=a∨p9 i d a=none:=by
 cases a with
 |none=>left;rfl
 |some p=>
  unfold p9
  cases hk:oZ d (some p)with
  |none=>right;rfl
  |some q=>
   simp only
   have:q=p:=by
    simp only[oZ]at hk
    cases ht:p.tag with
    |none=>rw[ht]at hk;simpa using hk.symm
    |some g=>
     obtain⟨g,w⟩:=g
     rw[ht]at hk
     simp only at hk
     cases hg:(g==d)
     ·rw[hg]at hk;simpa using hk.symm
     ·rw[hg]at hk;cases hk
   subst this
   cases hb:(i&&q.slot==d)
   ·left;rfl
   ·right;rfl
theorem JJ (i:Bool) (d:Nat):p9 i d none=none:=rfl
theorem afx (i j:Bool) (d e:Nat) (a:Option tX):p9 i d (p9 j e a)=p9 j e (p9 i d a):=by
 rcases NX i d a with h1|h1<;>rcases NX j e a with h2|h2
 ·rw[h2,h1,h2]
 ·rw[h2,JJ,h1,h2]
 ·rw[h2,h1,JJ]
 ·rw[h2,JJ,h1,JJ]
structure Up.XS (x y : Up) : Prop where
 d:∀d,x.d=some d→y.d≠some d
 bx:∀b v,x.bx=some (b,v)→(∀c w,y.bx=some (c,w)→c≠b)∧y.d≠some b
 Za:∀b v,y.bx=some (b,v)→(∀c w,x.bx=some (c,w)→c≠b)∧x.d≠some b
 nx:∀d,y.d=some d→p9 y.vA d x.new=x.new
 ny:∀d,x.d=some d→p9 x.vA d y.new=y.new
 σ:x.σ=none∨y.σ=none
theorem Up.comm {x y:Up} (h:x.XS y) (s:AS):x.ap (y.ap s)=y.ap (x.ap s):=by
 obtain⟨hd,uZ,hby,hnx,hny,fQ⟩:=h
 unfold Up.ap
 congr 1
 ·show x.sl (y.sl s.sl)=y.sl (x.sl s.sl)
  generalize s.sl=l
  obtain⟨xd,xv,xb,xn,xi,xs⟩:=x
  obtain⟨yd,yv,yb,yn,yi,ys⟩:=y
  simp only at hd uZ hby
  cases xb with
  |none=>
   cases yb with
   |none=>
    cases xd with
    |none=>cases yd<;>simp [Up.sl]
    |some dx=>cases yd with
     |none=>simp [Up.sl]
     |some dy=>simp only[Up.sl];rw[List.set_comm];intro e;exact hd dx rfl (by rw[e])
   |some bv=>
    obtain⟨b,v⟩:=bv
    obtain⟨_,hb⟩:=hby b v rfl
    cases xd with
    |none=>cases yd<;>simp [Up.sl]
    |some dx=>
     have hne:dx≠b:=fun e=>hb (by rw[e])
     cases yd with
     |none=>simp only[Up.sl];rw[List.set_comm _ _ (fun e=>hne e.symm)]
     |some dy=>
      have sO:dx≠dy:=fun e=>hd dx rfl (by rw[e])
      simp only[Up.sl]
      rw[List.set_comm _ _ (fun e=>sO e.symm),List.set_comm _ _ (fun e=>hne e.symm)]
  |some bv=>
   obtain⟨b,v⟩:=bv
   obtain⟨HO,hb⟩:=uZ b v rfl
   cases yb with
   |none=>
    cases yd with
    |none=>cases xd<;>simp [Up.sl]
    |some dy=>
     have hne:dy≠b:=fun e=>hb (by rw[e])
     cases xd with
     |none=>simp only[Up.sl];rw[List.set_comm _ _ hne]
     |some dx=>
      have sO:dx≠dy:=fun e=>hd dx rfl (by rw[e])
      simp only[Up.sl]
      rw[List.set_comm _ _ hne,List.set_comm _ _ (fun e=>sO e.symm)]
   |some cw=>
    obtain⟨c,u⟩:=cw
    have hcb:c≠b:=HO c u rfl
    obtain⟨_,hc⟩:=hby c u rfl
    cases xd with
    |none=>
     cases yd with
     |none=>simp only[Up.sl];rw[List.set_comm _ _ hcb]
     |some dy=>
      have hne:dy≠b:=fun e=>hb (by rw[e])
      simp only[Up.sl]
      rw[List.set_comm _ _ hne,List.set_comm _ _ hcb]
    |some dx=>
     have hnc:dx≠c:=fun e=>hc (by rw[e])
     cases yd with
     |none=>
      simp only[Up.sl]
      rw[List.set_comm _ _ hcb,List.set_comm _ _ (fun e=>hnc e.symm)]
     |some dy=>
      have hne:dy≠b:=fun e=>hb (by rw[e])
      have sO:dx≠dy:=fun e=>hd dx rfl (by rw[e])
      simp only[Up.sl]
      rw[List.set_comm _ _ hne,List.set_comm _ _ (fun e=>sO e.symm),List.set_comm _ _ hcb,List.set_comm _ _ (fun e=>hnc e.symm)]
 ·funext t
  show x.A (y.A s.A) t=y.A (x.A s.A) t
  generalize s.A t=a0 
  unfold Up.A
  cases ZK:x.d with
  |none=>cases y.d<;>rfl
  |some dx=>
   cases ZL:y.d with
   |none=>rfl
   |some dy=>
    have sO:dx≠dy:=fun e=>hd dx ZK (by rw[ZL,e])
    simp only
    by_cases h1:t=dx
    ·subst h1
     have:(t==dy)=false:=by simpa using sO
     simp only[beq_self_eq_true,cond_true,this,cond_false]
     exact(hnx dy ZL).symm
    ·have h1':(t==dx)=false:=by simpa using h1
     by_cases h2:t=dy
     ·subst h2
      simp only[beq_self_eq_true,cond_true,h1',cond_false]
      exact hny dx ZK
     ·have h2':(t==dy)=false:=by simpa using h2
      simp only[h1',h2',cond_false]
      exact afx ..
 ·rcases fQ with e|e<;>simp [e]
structure RI (X : Fx) (Rt : List (Nat × Nat)) (Bt : List Nat) (s : AS) : Prop where
 l:∀t b,Rt.lookup t=some b→X.L.contains b=true
 a:∀t p,s.A t=some p→Rt.lookup t=some p.slot
 v:∀t b,Rt.lookup t=some b→X.L.contains t=false→mK (s.sl.getD t .undef)=true
 b:∀t,Bt.contains t=true→pJ (s.sl.getD t .undef)=true
def qI (σ σ':Heap):Prop:=∀(id:Nat) (cs:List U),σ[id]? =some (aV.box cs)↔σ'[id]? =some (aV.box cs)
section
variable {R : Type} {X : Fx} {Rt : List (Nat × Nat)} {Bt : List Nat} {s s' : AS}
theorem Ka (h:RI X Rt Bt s) {tag:Option (Nat×Bool)} {x:Operand} {b off:Nat} (hp:place X s tag x=some (b,off)):yl X Rt x=some b:=by
 cases x with
 |tmp t=>
  simp only[place]at hp
  simp only[yl]
  cases hL:X.L.contains t
  ·rw[hL]at hp
   simp only[cond_false]at hp ⊢
   split at hp
   ·rename_i p hA
    cases hc:X.L.contains p.slot
    ·rw[hc]at hp;cases hp
    ·rw[hc]at hp
     simp only[cond_true]at hp
     have ha:=h.a t p hA
     split at hp
     ·simp only[Option.some.injEq,Prod.mk.injEq]at hp;rw[ha,hp.1]
     ·rename_i g hg
      cases ht:(tag==some g)
      ·rw[ht]at hp;cases hp
      ·rw[ht]at hp;simp only[cond_true,Option.some.injEq,Prod.mk.injEq]at hp;rw[ha,hp.1]
   ·cases hp
  ·rw[hL]at hp
   simp only[cond_true,Option.some.injEq,Prod.mk.injEq]at hp ⊢
   exact hp.1
 |_=>simp [place]at hp
theorem DX (h:RI X Rt Bt s) {tag:Option (Nat×Bool)} {x:Operand} {b:Nat} (hr:yl X Rt x=some b) (hp:place X s tag x=none):mK (ev X s x)=true:=by
 cases x with
 |tmp t=>
  simp only[yl]at hr
  cases hL:X.L.contains t
  ·rw[hL]at hr
   simp only[cond_false]at hr
   simp only[ev,hL,cond_false]
   exact h.v t b hr hL
  ·simp only[place,hL,cond_true]at hp;cases hp
 |_=>simp [yl]at hr
theorem VG {v:U} {σ:Heap} (h:mK v=true):A.deref v σ=none:=by
 unfold mK at h;split at h<;>first|rfl|cases h
theorem afs {v:U} {σ σ':Heap} (h:qI σ σ') (hv:pJ v=true):A.deref v σ=A.deref v σ':=by
 cases v<;>first|rfl|skip
 case op id off=>
  simp only[A.deref]
  cases h1:σ[id]? with
  |none=>
   cases h2:σ'[id]? with
   |none=>rfl
   |some b=>cases b<;>first|rfl|(have:=(h id _).2 h2;rw[h1]at this;cases this)
  |some b=>
   cases b with
   |box cs=>rw[(h id cs).1 h1]
   |_=>
    cases h2:σ'[id]? with
    |none=>rfl
    |some b=>cases b<;>first|rfl|(have:=(h id _).2 h2;rw[h1]at this;cases this)
 case oe id g i off=>cases hv
theorem ae5 {v:U} {new:List U} {σ:Heap} (h:mK v=true):A.storeAt v new σ=none:=by
 unfold mK at h;split at h<;>first|rfl|cases h
theorem Nq {pl:Nat→Option (Nat×TypeId)}:∀(ps:List (Nat×Operand)) (cs:List U),(∀p∈ps,ev X s p.2=ev X s' p.2)→pG X s pl ps cs=pG X s' pl ps cs
 |[],cs,_=>rfl
 |(i,x)::ps,cs,h=>by
  have hx:=h (i,x) (by simp)
  simp only at hx
  simp only[pG,hx]
  cases pl i with
  |none=>rfl
  |some ot=>
   simp only
   congr 1;funext new;congr 1;funext cs'
   exact Nq ps cs' (fun p hp=>h p (by simp [hp]))
theorem Om {o:Oper} {tag:Option (Nat×Bool)} (gJ:∀x∈o.op.operands.toList,ev X s x=ev X s' x) (hpl:∀x,oJ o=some x→place X s tag x=place X s' tag x) (hb:∀b,rt X Rt o=some b→s.sl.getD b .undef=s'.sl.getD b .undef)
  (HF:∀x b off,oJ o=some x→place X s' tag x=some (b,off)→rt X Rt o=some b):kR X o s tag=kR X o s' tag:=by
 obtain⟨dst,op,ty,pos,af,g⟩:=o
 cases op<;>simp only[kR]
 case nilCheck x=>
  rw[hpl x rfl]
  split
  ·rename_i b off hp;rw[hb b (HF x b off rfl hp)]
  ·rfl
 case fieldAddr t x f=>
  rw[hpl x rfl]
  split
  ·rename_i b off hp;rw[hb b (HF x b off rfl hp)]
  ·rfl
 case indexAddr t x i=>
  rw[hpl x rfl,gJ i (by simp [Op.operands])]
  split
  ·rename_i b off hp;rw[hb b (HF x b off rfl hp)]
  ·rfl
theorem JR {o:Oper} {tag:Option (Nat×Bool)} (gJ:∀x∈o.op.operands.toList,ev X s x=ev X s' x) (hpl:∀x,oJ o=some x→place X s tag x=place X s' tag x) (hb:∀b,rt X Rt o=some b→s.sl.getD b .undef=s'.sl.getD b .undef)
  (HF:∀x b off,oJ o=some x→place X s' tag x=some (b,off)→rt X Rt o=some b) (hno:∀x b,oJ o=some x→rt X Rt o=some b→place X s' tag x=none→mK (ev X s' x)=true) (fQ:ur X Rt o=true→soft Bt o=false→s.σ=s'.σ) (akT:ur X Rt o=true→soft Bt o=true→qI s.σ s'.σ) (hB:∀t,Bt.contains t=true→pJ (ev X s' (.tmp t))=true):gq X o s tag=gq X o s' tag:=by
 obtain⟨dst,op,ty,pos,af,g⟩:=o
 cases op<;>simp only[gq]
 case move x=>rw[gJ x (by simp [Op.operands])]
 case assign x=>rw[gJ x (by simp [Op.operands])]
 case pick x y u=>rw[gJ x (by simp [Op.operands]),gJ y (by simp [Op.operands]),gJ u (by simp [Op.operands])]
 case box t x=>rw[gJ x (by simp [Op.operands])]
 case build t ps=>
  have hps:∀p∈ps.toList,ev X s p.2=ev X s' p.2:=fun p hp=>gJ p.2 (by simp only[Op.operands];simp;exact⟨p.1,by simpa using hp⟩)
  split
  ·rw[Nq ps.toList _ hps]
  ·rfl
 case buildSlice t n ps=>
  have hps:∀p∈ps.toList,ev X s p.2=ev X s' p.2:=fun p hp=>gJ p.2 (by simp only[Op.operands];simp;exact⟨p.1,by simpa using hp⟩)
  split
  ·split
   ·rw[Nq ps.toList _ hps]
   ·rfl
  ·rfl
 case load t x=>
  rw[hpl x rfl,gJ x (by simp [Op.operands])]
  split
  ·rename_i b off hp;rw[hb b (HF x b off rfl hp)]
  ·rename_i hp
   cases hr:rt X Rt ⟨dst,.load t x,ty,pos,af,g⟩with
   |none=>
    cases CP:soft Bt ⟨dst,.load t x,ty,pos,af,g⟩
    ·rw[fQ (by simp only[ur,hr,Option.isNone_none]) CP]
    ·rw[afs (akT (by simp only[ur,hr,Option.isNone_none]) CP) (by
      cases x with
      |tmp u=>exact hB u CP
      |_=>simp [soft]at CP)]
   |some b=>rw[VG (hno x b rfl hr hp),VG (hno x b rfl hr hp)]
 case nilCheck x=>rw[gJ x (by simp [Op.operands])]
 case binOp op t x y u=>rw[gJ x (by simp [Op.operands]),gJ y (by simp [Op.operands])]
 case unOp op t x=>rw[gJ x (by simp [Op.operands])]
 case convert a b x=>rw[gJ x (by simp [Op.operands])]
 case makeFunc fn first caps=>
  have:caps.toList.map (ev X s)=caps.toList.map (ev X s'):=List.map_congr_left fun x hx=>gJ x (by simp [Op.operands];exact .inr (by simpa using hx))
  rw[this]
 case slice t x lo hi mx=>
  have h1:lo.map (ev X s)=lo.map (ev X s'):=by cases lo with|none=>rfl|some y=>simp only[Option.map_some];rw[gJ y (by simp [Op.operands])]
  have h2:hi.map (ev X s)=hi.map (ev X s'):=by cases hi with|none=>rfl|some y=>simp only[Option.map_some];rw[gJ y (by simp [Op.operands])]
  rw[gJ x (by simp [Op.operands]),h1,h2,fQ rfl rfl]
  split
  ·rfl
  ·split
   ·rw[gJ _ (by simp [Op.operands]),gJ _ (by simp [Op.operands])]
   ·rfl
 case fieldAddr t x f=>rw[gJ x (by simp [Op.operands])]
 case field t x f=>rw[gJ x (by simp [Op.operands])]
 case indexAddr t x i=>rw[gJ x (by simp [Op.operands]),gJ i (by simp [Op.operands])]
 case index t x i=>rw[gJ x (by simp [Op.operands]),gJ i (by simp [Op.operands])]
 case lookup t x i ok=>rw[gJ x (by simp [Op.operands]),gJ i (by simp [Op.operands]),fQ rfl rfl]
 case extract x i=>rw[gJ x (by simp [Op.operands])]
 case entry i=>rw[gJ i (by simp [Op.operands]),fQ rfl rfl]
 case call c=>
  have ha:c.args.toList.map (ev X s)=c.args.toList.map (ev X s'):=List.map_congr_left fun x hx=>gJ x (by simp [Op.operands,Call.operands];exact .inr (by simpa using hx))
  rw[ha,fQ rfl rfl]
  cases hc:c.callee with
  |value f=>
   have hf:=gJ f (by simp [Op.operands,Call.operands,hc])
   cases f<;>simp only[hf]
  |_=>rfl
theorem JW {σ:Heap} {b:aV} (hb:∀cs,b≠.box cs):qI σ (σ++[b]):=by
 intro id cs
 by_cases h:id<σ.length
 ·rw[List.getElem?_append_left h]
 ·rw[List.getElem?_eq_none (by omega),List.getElem?_append_right (by omega)]
  constructor
  ·intro e;cases e
  ·intro e
   have:=List.mem_of_getElem? e
   simp at this
   exact absurd this.symm (hb cs)
theorem Pc {σ:Heap} {id:Nat} {b b':aV} (hb:∀cs,b≠.box cs) (hb':∀cs,b'≠.box cs) (h:σ[id]? =some b):qI σ (σ.set id b'):=by
 intro i cs
 rw[List.getElem?_set]
 by_cases e:id=i
 ·subst e
  rw[h]
  have hlt:=(List.getElem?_eq_some_iff.1 h).1
  simp only[if_true,hlt]
  constructor
  ·intro e;injection e with e;exact absurd e (hb cs)
  ·intro e;injection e with e;exact absurd e (hb' cs)
 ·simp [e]
theorem BF (σ:Heap):qI σ σ:=fun _ _=>Iff.rfl
theorem ags {ek:A.EK} {m k v:U} {σ σ':Heap} (h:A.hG ek m k v σ=some σ'):qI σ σ':=by
 unfold A.hG at h
 cases hk:A.jS ek k
 ·rw[hk]at h;cases h
 rw[hk]at h
 simp only[cond_true]at h
 split at h
 ·split at h
  ·rename_i es hg
   obtain⟨es',_,e⟩:=Option.map_eq_some_iff.1 h
   subst e
   exact Pc (fun cs e=>by cases e) (fun cs e=>by cases e) hg
  ·cases h
 ·cases h
theorem TH {sz most:Nat} {x r:U} {ys:List (List U)} {σ σ':Heap} (h:A.mX sz most x ys σ=some (r,σ')):qI σ σ':=by
 unfold A.mX at h
 split at h
 ·split at h
  ·injection h with h;injection h with _ h;subst h;exact BF _
  ·split at h
   ·injection h with h;injection h with _ h;subst h;exact JW fun cs e=>by cases e
   ·cases h
 ·split at h
  ·injection h with h;injection h with _ h;subst h;exact BF _
  ·split at h
   ·injection h with h;injection h with _ h;subst h;exact JW fun cs e=>by cases e
   ·cases h
 ·split at h
  ·rename_i hg
   split at h
   ·split at h
    ·injection h with h;injection h with _ h;subst h;exact BF _
    ·split at h
     ·injection h with h;injection h with _ h;subst h;exact Pc (fun cs e=>by cases e) (fun cs e=>by cases e) hg
     ·injection h with h;injection h with _ h;subst h;exact Pc (fun cs e=>by cases e) (fun cs e=>by cases e) hg
   ·cases h
  ·split at h
   ·injection h with h;injection h with _ h;subst h;exact JW fun cs e=>by cases e
   ·cases h
  ·cases h
 ·cases h
theorem aed {sz most:Nat} {x y r:U} {σ σ':Heap} (h:A.append sz most x y σ=some (r,σ')):qI σ σ':=by
 unfold A.append at h
 obtain⟨ys,_,h2⟩:=Option.bind_eq_some_iff.1 h
 exact TH h2
theorem adj {sz most:Nat} {zs:List U} {x n r:U} {σ σ':Heap} (h:A.tu sz most zs x n σ=some (r,σ')):qI σ σ':=by
 unfold A.tu at h
 split at h
 ·split at h
  ·exact TH h
  ·cases h
 ·cases h
structure Ag (X : Fx) (Rt : List (Nat × Nat)) (Bt : List Nat) (o : Oper) (ls : List Nat) (tag : Option (Nat × Bool)) (s s' : AS) : Prop where
 r1:RI X Rt Bt s
 r2:RI X Rt Bt s'
 gJ:∀t∈ls,X.L.contains t=false→s.sl.getD t .undef=s'.sl.getD t .undef
 pl:∀t,oJ o=some (.tmp t)→place X s tag (.tmp t)=place X s' tag (.tmp t)
 bx:∀b,rt X Rt o=some b→s.sl.getD b .undef=s'.sl.getD b .undef
 σ:ur X Rt o=true→soft Bt o=false→s.σ=s'.σ
 Im:ur X Rt o=true→soft Bt o=true→qI s.σ s'.σ
theorem ag6 {tag:Option (Nat×Bool)} {x:Operand} {b off:Nat} (h:place X s tag x=some (b,off)):X.L.contains b=true:=by
 cases x with
 |tmp t=>
  simp only[place]at h
  cases hL:X.L.contains t
  ·rw[hL]at h
   simp only[cond_false]at h
   split at h
   ·rename_i p hA
    cases hp:X.L.contains p.slot
    ·rw[hp]at h;cases h
    ·rw[hp]at h
     simp only[cond_true]at h
     split at h
     ·simp only[Option.some.injEq,Prod.mk.injEq]at h;rw[←h.1];exact hp
     ·rename_i g hg
      cases ht:(tag==some g)
      ·rw[ht]at h;cases h
      ·rw[ht]at h;simp only[cond_true,Option.some.injEq,Prod.mk.injEq]at h;rw[←h.1];exact hp
   ·cases h
  ·rw[hL]at h
   simp only[cond_true,Option.some.injEq,Prod.mk.injEq]at h
   rw[←h.1];exact hL
 |_=>simp [place]at h
theorem Ag.Bb {o:Oper} {ls:List Nat} {tag:Option (Nat×Bool)} (h:Ag X Rt Bt o ls tag s s') (hls:∀t,Operand.tmp t∈o.op.operands.toList→t∈ls):∀x∈o.op.operands.toList,ev X s x=ev X s' x:=by
 intro x hx
 cases x with
 |tmp t=>
  simp only[ev]
  cases hL:X.L.contains t
  ·simp only[cond_false];exact h.gJ t (hls t hx) hL
  ·rfl
 |_=>rfl
theorem RI.EH (h:RI X Rt Bt s):∀t,Bt.contains t=true→pJ (ev X s (.tmp t))=true:=by
 intro t ht
 simp only[ev]
 cases X.L.contains t
 ·exact h.b t ht
 ·rfl
theorem Ag.zN {o:Oper} {ls:List Nat} {tag:Option (Nat×Bool)} (h:Ag X Rt Bt o ls tag s s'):∀x,oJ o=some x→place X s tag x=place X s' tag x:=by
 intro x hx
 cases x with
 |tmp t=>exact h.pl t hx
 |_=>rfl
def C0 (X:Fx) (d:Option Nat) (v:U):Up:=⟨d,match d with|some d=>bif X.L.contains d then .undef else v|none=>.undef,none,none,false,none⟩
def Ij (X:Fx) (d:Option Nat) (σ:Heap) (v:U):Up:=⟨d,match d with|some d=>bif X.L.contains d then .undef else v|none=>.undef,none,none,false,some σ⟩
def LR (X:Fx) (d:Option Nat) (b:Nat) (cs:List U):Up:=⟨d,match d with|some d=>bif X.L.contains d then .undef else .aL []|none=>.undef,some (b,.lbx cs),none,false,none⟩
def LQ (d:Nat) (cs:List U):Up:=⟨some d,.lbx cs,none,none,true,none⟩
def EY (X:Fx) (d:Option Nat) (b off:Nat) (tag:Option (Nat×Bool)):Up:=
 ⟨d,.undef,none,match d with|some d=>(bif X.L.contains d||!Nat.blt d X.n then none else match tag with|some (g,w)=>(bif g==d then none else some ⟨b,off,some (g,w)⟩)|none=>some ⟨b,off,none⟩)|none=>none,false,none⟩
theorem KP (d:Option Nat) (v:U) (s:AS):s.put X d v=(C0 X d v).ap s:=by
 cases d with
 |none=>rfl
 |some d=>
  simp only[AS.put,Up.ap,C0,Up.sl,Option.getD_none]
  congr 1;funext t;simp only[Up.A,FE]
theorem lp (d:Option Nat) (v:U) (σ:Heap) (s:AS):(s.heap σ).put X d v=(Ij X d σ v).ap s:=by
 cases d with
 |none=>rfl
 |some d=>
  simp only[AS.put,AS.heap,Up.ap,Ij,Up.sl,Option.getD_some]
  congr 1;funext t;simp only[Up.A,FE]
theorem UI (d:Option Nat) (b:Nat) (cs:List U) (s:AS):(⟨s.sl.set b (.lbx cs),s.A,s.σ⟩:AS).put X d (.aL [])=(LR X d b cs).ap s:=by
 cases d with
 |none=>rfl
 |some d=>
  simp only[AS.put,Up.ap,LR,Up.sl,Option.getD_none]
  congr 1;funext t;simp only[Up.A,FE]
theorem JQ (d:Nat) (cs:List U) (s:AS):s.pg d cs=(LQ d cs).ap s:=by
 simp only[AS.pg,Up.ap,LQ,Up.sl,Option.getD_none]
 congr 1
theorem KH (d:Option Nat) (b off:Nat) (tag:Option (Nat×Bool)) (s:AS):s.nv X d b off tag=(EY X d b off tag).ap s:=by
 cases d with
 |none=>rfl
 |some d=>
  simp only[AS.nv,Up.ap,EY,Up.sl,Option.getD_none]
  congr 1;funext t;simp only[Up.A,FE];rfl
structure tJ (X : Fx) (Rt : List (Nat × Nat)) (Bt : List Nat) (o : Oper) (ls : List Nat) (τ : Heap) (u : Up) : Prop where
 d:u.d=o.dst
 bx:∀b v,u.bx=some (b,v)→X.L.contains b=true∧wb X Rt o=some b
 new:∀p,u.new=some p→rL o=true∧(∀g w,p.tag=some (g,w)→g∈ls)∧rt X Rt o=some p.slot∧∀d,u.d=some d→Rt.lookup d=some p.slot
 box:u.vA=true→∃d,o.dst=some d∧X.L.contains d=true
 σ:u.σ≠none→qy X Rt o=true
 v:∀d b,u.d=some d→Rt.lookup d=some b→X.L.contains d=false→mK u.v=true
 vb:∀d,u.d=some d→Bt.contains d=true→pJ u.v=true
 bxv:∀b v,u.bx=some (b,v)→pJ v=true
 fr:Bc o=true→∀σ,u.σ=some σ→qI τ σ
def tY (X:Fx) (Rt:List (Nat×Nat)) (Bt:List Nat) (o:Oper):Prop:=(∀d,o.dst=some d→X.L.contains d=false→Rt.lookup d=(bif vw o then rt X Rt o else none))∧∀d,o.dst=some d→Bt.contains d=true→Ay Bt o=true
theorem tY.of {o:Oper} (h:QC X Rt o=true) (hb:Qz Bt o=true):tY X Rt Bt o:=by
 refine⟨fun d hd hL=>?_,fun d hd hc=>?_⟩
 ·unfold QC at h
  rw[hd]at h
  simp only[hL,Bool.false_or,beq_iff_eq]at h
  exact h
 ·unfold Qz at hb
  rw[hd]at hb
  simp only[hc,Bool.not_true,Bool.false_or]at hb
  exact hb
theorem XP {o:Oper} {ls:List Nat} (v:U) (hR:tY X Rt Bt o) (hv:vw o=true→∀b,rt X Rt o=some b→mK v=true) (R2:Ay Bt o=true→pJ v=true) {τ:Heap}:tJ X Rt Bt o ls τ (C0 X o.dst v):=by
 refine⟨rfl,(fun b v h=>by cases h),(fun p h=>by cases h),(fun h=>by cases h),(fun h=>absurd rfl h),fun d b hd hl hL=>?_,fun d hd hc=>?_,(fun b v h=>by cases h),(fun _ σ h=>by cases h)⟩
 ·simp only[C0]at hd ⊢
  rw[hd]
  simp only[hL,cond_false]
  rw[hR.1 d hd hL]at hl
  cases ha:vw o
  ·rw[ha]at hl;cases hl
  ·rw[ha]at hl;exact hv ha b hl
 ·have:=R2 (hR.2 d hd hc)
  simp only[C0]at hd ⊢
  rw[hd]
  simp only
  cases X.L.contains d
  ·exact this
  ·rfl
theorem tD {o:Oper} {ls:List Nat} (σ:Heap) (v:U) (hR:tY X Rt Bt o) (h:qy X Rt o=true) (hn:vw o=false) (hcb:Ay Bt o=false) {τ:Heap} (hf:Bc o=true→qI τ σ):tJ X Rt Bt o ls τ (Ij X o.dst σ v):=by
 refine⟨rfl,(fun b v h=>by cases h),(fun p h=>by cases h),(fun h=>by cases h),(fun _=>h),fun d b hd hl hL=>?_,fun d hd hc=>?_,(fun b v h=>by cases h),(fun hw σ' h=>?_)⟩
 ·simp only[Ij]at hd
  rw[hR.1 d hd hL,hn]at hl
  cases hl
 ·have:=hR.2 d hd hc
  rw[hcb]at this;cases this
 ·simp only[Ij,Option.some.injEq]at h
  subst h;exact hf hw
theorem XO {τ:Heap} {o:Oper} {ls:List Nat} {b off:Nat} {tag:Option (Nat×Bool)} (hR:tY X Rt Bt o) (ha:vw o=true) (hr:rt X Rt o=some b) (h:rL o=true) (ht:∀g w,tag=some (g,w)→g∈ls):tJ X Rt Bt o ls τ (EY X o.dst b off tag):=by
 refine⟨rfl,(fun b v h=>by cases h),(fun p hp=>?_),(fun h=>by cases h),(fun h=>absurd rfl h),(fun d b hd hl hL=>rfl),(fun _ _ _=>rfl),(fun b v h=>by cases h),(fun _ σ h=>by cases h)⟩
 have key:p.slot=b∧(∀g w,p.tag=some (g,w)→g∈ls)∧∀d,o.dst=some d→X.L.contains d=false:=by
  unfold EY at hp
  simp only at hp
  cases hd:o.dst with
  |none=>rw[hd]at hp;cases hp
  |some d=>
   rw[hd]at hp
   simp only at hp
   cases hc:(X.L.contains d||!Nat.blt d X.n)
   ·rw[hc]at hp
    simp only[cond_false]at hp
    have hL:X.L.contains d=false:=by simp only[Bool.or_eq_false_iff]at hc;exact hc.1
    cases tag with
    |none=>simp only[Option.some.injEq]at hp;subst hp;exact⟨rfl,(fun g w e=>by cases e),fun d' e=>by injection e with e;rw[←e];exact hL⟩
    |some gw=>
     obtain⟨g',w'⟩:=gw
     simp only at hp
     cases hg:(g'==d)
     ·rw[hg]at hp;simp only[cond_false,Option.some.injEq]at hp;subst hp
      refine⟨rfl,fun g w e=>?_,fun d' e=>by injection e with e;rw[←e];exact hL⟩
      simp only[Option.some.injEq,Prod.mk.injEq]at e
      rw[←e.1];exact ht g' w' rfl
     ·rw[hg]at hp;cases hp
   ·rw[hc]at hp;cases hp
 refine⟨h,key.2.1,by rw[hr,key.1],fun d hd=>?_⟩
 have hd':o.dst=some d:=hd
 rw[hR.1 d hd' (key.2.2 d hd'),ha,cond_true,hr,key.1]
theorem JL (l:List U) (d t:Nat) (v:U) (h:t≠d):(l.set d v).getD t .undef=l.getD t .undef:=by
 have h':¬d=t:=fun e=>h (Eq.symm e)
 simp only[List.getD,List.getElem?_set,if_neg h']
theorem Qv {u:Up} {l:List U} {t:Nat} (h1:u.d≠some t) (h2:∀b v,u.bx=some (b,v)→t≠b):(u.sl l).getD t .undef=l.getD t .undef:=by
 unfold Up.sl
 cases hd:u.d with
 |none=>
  cases hb:u.bx with
  |none=>rfl
  |some bv=>obtain⟨b,v⟩:=bv;exact JL _ _ _ _ (h2 b v hb)
 |some d=>
  have hne:t≠d:=fun e=>h1 (by rw[hd,e])
  cases hb:u.bx with
  |none=>exact JL _ _ _ _ hne
  |some bv=>obtain⟨b,v⟩:=bv;simp only;rw[JL _ _ _ _ hne,JL _ _ _ _ (h2 b v hb)]
theorem tJ.ri {τ:Heap} {o:Oper} {ls:List Nat} {u:Up} (h:tJ X Rt Bt o ls τ u) (hs:RI X Rt Bt s):RI X Rt Bt (u.ap s):=by
 refine⟨hs.l,fun t p hp=>?_,fun t b ht hL=>?_,fun t ht=>?_⟩
 ·have hp':u.A s.A t=some p:=hp
  unfold Up.A at hp'
  cases hd:u.d with
  |none=>rw[hd]at hp';exact hs.a t p hp'
  |some d=>
   rw[hd]at hp'
   simp only at hp'
   cases hc:(t==d)
   ·rw[hc]at hp'
    simp only[cond_false]at hp'
    rcases NX u.vA d (s.A t)with e|e
    ·rw[e]at hp';exact hs.a t p hp'
    ·rw[e]at hp';cases hp'
   ·rw[hc]at hp'
    simp only[cond_true]at hp'
    have:t=d:=by simpa using hc
    subst this
    exact(h.new p hp').2.2.2 t hd
 ·show mK ((u.sl s.sl).getD t .undef)=true
  by_cases hd:u.d=some t
  ·have hv:=h.v t b hd ht hL
   have:(u.sl s.sl).getD t .undef=u.v∨(u.sl s.sl).getD t .undef=.undef:=by
    unfold Up.sl
    rw[hd]
    simp only[List.getD]
    rw[List.getElem?_set]
    simp only[if_true]
    generalize (match u.bx with|some (b,x)=>s.sl.set b x|none=>s.sl)=q
    by_cases hq:t<q.length
    ·left;simp [hq]
    ·right;simp [hq]
   rcases this with e|e
   ·rw[e];exact hv
   ·rw[e];rfl
  ·rw[Qv hd (fun b' v hb e=>by have:=(h.bx b' v hb).1;rw[←e,hL]at this;cases this)]
   exact hs.v t b ht hL
 ·show pJ ((u.sl s.sl).getD t .undef)=true
  have qc:∀(l:List U) (d:Nat) (v:U),(l.set d v).getD t .undef=v∧t=d∨(l.set d v).getD t .undef=l.getD t .undef∨(l.set d v).getD t .undef=.undef:=by
   intro l d v
   simp only[List.getD,List.getElem?_set]
   by_cases e:d=t
   ·subst e
    by_cases hq:d<l.length
    ·left;simp [hq]
    ·right;right;simp [hq]
   ·right;left;simp [e]
  have uZ:pJ ((match u.bx with|some (b,x)=>s.sl.set b x|none=>s.sl).getD t .undef)=true:=by
   cases hb:u.bx with
   |none=>exact hs.b t ht
   |some bv=>
    obtain⟨b,v⟩:=bv
    rcases qc s.sl b v with⟨e,_⟩|e|e
    ·simp only;rw[e];exact h.bxv b v hb
    ·simp only;rw[e];exact hs.b t ht
    ·simp only;rw[e];rfl
  unfold Up.sl
  generalize (match u.bx with|some (b,x)=>s.sl.set b x|none=>s.sl)=q at uZ
  cases hd:u.d with
  |none=>exact uZ
  |some d=>
   simp only
   rcases qc q d u.v with⟨e,e2⟩|e|e
   ·rw[e];exact h.vb d hd (e2▸ht)
   ·rw[e];exact uZ
   ·rw[e];rfl
theorem XD {o:Oper} {tag:Option (Nat×Bool)} {p:Nat×Option Nat} (h:kR X o s tag=some p):rL o=true:=by
 obtain⟨dst,op,ty,pos,af,g⟩:=o
 cases op<;>simp only[kR]at h<;>first|(cases h;done)|rfl
theorem W0 {o:Oper} {tag:Option (Nat×Bool)} {p:Nat×Option Nat} (h:kR X o s tag=some p):vw o=true:=by
 obtain⟨dst,op,ty,pos,af,g⟩:=o
 cases op<;>simp only[kR]at h<;>first|(cases h;done)|rfl
theorem XE (hI:RI X Rt Bt s) {o:Oper} {tag:Option (Nat×Bool)} {b:Nat} {rr:Option Nat} (h:kR X o s tag=some (b,rr)):rt X Rt o=some b:=by
 obtain⟨dst,op,ty,pos,af,g⟩:=o
 cases op<;>simp only[kR]at h<;>first|(cases h;done)|skip
 all_goals
  split at h
  ·rename_i b' off hp
   simp only[Option.some.injEq,Prod.mk.injEq]at h
   simp only[rt,oJ]
   rw[←h.1]
   exact Ka hI hp
  ·cases h
theorem W1 (hI:RI X Rt Bt s) {o:Oper} {tag:Option (Nat×Bool)} {v:U} (ha:vw o=true) {b:Nat} (hr:rt X Rt o=some b) (hp:kR X o s tag=none) (h:gq X o s tag=some v):False:=by
 obtain⟨dst,op,ty,pos,af,g⟩:=o
 have nf:∀(x:U) (n:Nat),mK x=true→A.bA n x=none:=fun x n h=>by unfold mK at h;split at h<;>first|rfl|cases h
 have nn:∀(x:U),mK x=true→A.gZ x=none:=fun x h=>by unfold mK at h;split at h<;>first|rfl|cases h
 have ni:∀(x i:U) (n:Nat),mK x=true→A.aN n x i=none:=fun x i n h=>by unfold mK at h;split at h<;>first|rfl|cases h
 have na:∀(x i:U) (m n:Nat),mK x=true→A.xC m n x i=none:=fun x i m n h=>by
  unfold mK at h
  unfold A.xC
  split at h<;>first|(cases h;done)|skip
  all_goals cases A.idx m i<;>rfl
 cases op<;>simp only[vw]at ha<;>first|(cases ha;done)|skip
 case nilCheck x=>
  simp only[kR]at hp
  simp only[rt,oJ]at hr
  split at hp
  ·cases hp
  ·rename_i hpl
   simp only[gq,nn _ (DX hI hr hpl)]at h
   cases h
 case fieldAddr t x f=>
  simp only[kR]at hp
  simp only[rt,oJ]at hr
  split at hp
  ·cases hp
  ·rename_i hpl
   simp only[gq]at h
   split at h
   ·split at h
    ·rename_i i _
     cases hz:(i.size==0)
     ·rw[hz]at h;simp only[cond_false,nf _ _ (DX hI hr hpl)]at h;cases h
     ·rw[hz]at h;cases h
    ·cases h
   ·cases h
 case indexAddr t x i=>
  simp only[kR]at hp
  simp only[rt,oJ]at hr
  split at hp
  ·cases hp
  ·rename_i hpl
   simp only[gq]at h
   split at h
   ·split at h
    ·simp only[ni _ _ _ (DX hI hr hpl)]at h;cases h
    ·cases h
   ·split at h
    ·simp only[na _ _ _ _ (DX hI hr hpl)]at h;cases h
    ·cases h
   ·cases h
theorem nN {α β:Type} {x:Option α} {f:α→Option β} {b:β} (h:x.bind f=some b):∃a,x=some a∧f a=some b:=Option.bind_eq_some_iff.1 h
theorem U4 (hB:∀t,Bt.contains t=true→pJ (ev X s (.tmp t))=true) {o:Oper} {tag:Option (Nat×Bool)} {v:U} (hc:Ay Bt o=true) (h:gq X o s tag=some v):pJ v=true:=by
 obtain⟨dst,op,ty,pos,af,g⟩:=o
 have nk:∀x,pJ x=true→∀y,A.gZ x=some y→pJ y=true:=fun x hx y e=>by
  cases x<;>simp only[A.gZ]at e<;>first|(cases e;done)|(injection e with e;subst e;exact hx)
 have nf:∀x,pJ x=true→∀n y,A.bA n x=some y→pJ y=true:=fun x hx n y e=>by
  cases x<;>simp only[A.bA]at e<;>first|(cases e;done)|(cases hx;done)|(injection e with e;subst e;rfl)
 cases op<;>simp only[Ay]at hc<;>first|(cases hc;done)|skip
 case move x=>
  cases x<;>first|(cases hc;done)|skip
  simp only[gq,Option.some.injEq]at h
  subst h;exact hB _ hc
 case assign x=>
  cases x<;>first|(cases hc;done)|skip
  simp only[gq,Option.some.injEq]at h
  subst h;exact hB _ hc
 case nilCheck x=>
  cases x<;>first|(cases hc;done)|skip
  simp only[gq]at h
  exact nk _ (hB _ hc) _ h
 case fieldAddr t x f=>
  cases x<;>first|(cases hc;done)|skip
  simp only[gq]at h
  split at h
  ·split at h
   ·rename_i i _
    cases hz:(i.size==0)
    ·rw[hz]at h;simp only[cond_false]at h;exact nf _ (hB _ hc) _ _ h
    ·rw[hz]at h;cases h
   ·cases h
  ·cases h
theorem aji {o:Oper} {ls:List Nat} (hR:tY X Rt Bt o) (hI:RI X Rt Bt s) (hls:∀t,Operand.tmp t∈o.op.operands.toList→t∈ls) {k:AS→Option R} {r:R} (h:iy X true o s k=some r):
  ∃u,tJ X Rt Bt o ls s.σ u∧k (u.ap s)=some r∧∀(R':Type) (k':AS→Option R') (s':AS),Ag X Rt Bt o ls none s s'→iy X true o s' k'=k' (u.ap s'):=by
 have A5:∀(s':AS),RI X Rt Bt s'→∀x b off,oJ o=some x→place X s' none x=some (b,off)→rt X Rt o=some b:=fun s' hi x b off hx hp=>by simp only[rt,hx];exact Ka hi hp
 have Eu:∀(s':AS),RI X Rt Bt s'→∀x b,oJ o=some x→rt X Rt o=some b→place X s' none x=none→mK (ev X s' x)=true:=fun s' hi x b hx hr hp=>by simp only[rt,hx]at hr;exact DX hi hr hp
 unfold iy at h
 cases hp:kR X o s none with
 |some p=>
  obtain⟨b,rr⟩:=p
  rw[hp]at h
  simp only at h
  obtain⟨off,e1,e2⟩:=nN h
  subst e1
  refine⟨EY X o.dst b off none,XO hR (W0 hp) (XE hI hp) (XD hp) (fun g w e=>by cases e),by rw[←KH];exact e2,fun R' k' s' ha=>?_⟩
  have:kR X o s' none=some (b,some off):=by rw[←hp];exact(Om (ha.Bb hls) ha.zN ha.bx (A5 s' ha.r2)).symm
  unfold iy
  rw[this]
  simp only[Option.bind_some]
  rw[KH]
 |none=>
  rw[hp]at h
  simp only at h
  have hP:∀s',Ag X Rt Bt o ls none s s'→kR X o s' none=none:=fun s' ha=>by rw[←hp];exact(Om (ha.Bb hls) ha.zN ha.bx (A5 s' ha.r2)).symm
  have dflt:((gq X o s none).bind fun v=>k (s.put X o.dst v))=some r→(∀(R':Type) (k':AS→Option R') (s':AS),Ag X Rt Bt o ls none s s'→iy X true o s' k'=(gq X o s' none).bind fun v=>k' (s'.put X o.dst v))→
    ∃u,tJ X Rt Bt o ls s.σ u∧k (u.ap s)=some r∧∀(R':Type) (k':AS→Option R') (s':AS),Ag X Rt Bt o ls none s s'→iy X true o s' k'=k' (u.ap s'):=by
   intro hd hsame
   obtain⟨v,e1,e2⟩:=nN hd
   refine⟨C0 X o.dst v,XP v hR (fun ha b hr=>(W1 hI ha hr hp e1).elim) (fun hc=>U4 hI.EH hc e1),by rw[←KP];exact e2,fun R' k' s' ha=>?_⟩
   have:gq X o s' none=some v:=by rw[←e1];exact(JR (ha.Bb hls) ha.zN ha.bx (A5 s' ha.r2) (Eu s' ha.r2) ha.σ ha.Im ha.r2.EH).symm
   rw[hsame R' k' s' ha,this,Option.bind_some,KP]
  obtain⟨dst,op,ty,pos,af,g⟩:=o
  have xO:∀s',Ag X Rt Bt ⟨dst,op,ty,pos,af,g⟩ ls none s s'→∀x∈op.operands.toList,ev X s x=ev X s' x:=fun s' ha=>ha.Bb hls
  have unf:∀{R':Type} (k':AS→Option R') (s':AS),Ag X Rt Bt ⟨dst,op,ty,pos,af,g⟩ ls none s s'→kR X ⟨dst,op,ty,pos,af,g⟩ s' none=none:=fun k' s' ha=>hP s' ha
  cases op<;>simp only at h<;>first
   |(exact absurd (show(none:Option R)=some r from h) (by simp))
   |exact dflt h (fun R' k' s' ha=>by unfold iy;rw[hP s' ha])
   |skip
  case alloc t=>
   cases dst with
   |none=>cases h
   |some d=>
    simp only at h
    cases hL:X.L.contains d
    ·rw[hL]at h
     simp only[cond_false]at h
     cases hO:X.O.contains d
     ·rw[hO]at h
      exact dflt h (fun R' k' s' ha=>by unfold iy;rw[hP s' ha];simp only[hL,hO,cond_false])
     ·rw[hO]at h
      simp only[cond_true]at h
      split at h
      ·rename_i cs hz
       rw[lp]at h
       refine⟨_,tD _ _ hR (by simp [qy,wH];simpa using hO) rfl rfl (fun h=>by cases h),h,fun R' k' s' ha=>?_⟩
       have fQ:=ha.σ (by simpa [ur]using hO) rfl
       unfold iy
       rw[hP s' ha]
       simp only[hL,hO,cond_false,cond_true,hz,fQ]
       rw[lp]
      ·cases h
    ·rw[hL]at h
     simp only[cond_true]at h
     split at h
     ·rename_i cs hz
      rw[JQ]at h
      refine⟨_,⟨rfl,(fun b v h=>by cases h),(fun p h=>by cases h),(fun _=>⟨d,rfl,hL⟩),(fun h=>absurd rfl h),(fun d' b e _ hL'=>by simp only[LQ,Option.some.injEq]at e;rw[←e,hL]at hL';cases hL'),(fun _ _ _=>rfl),(fun b v h=>by cases h),(fun _ σ h=>by cases h)⟩,h,fun R' k' s' ha=>?_⟩
      unfold iy
      rw[hP s' ha]
      simp only[hL,cond_true,hz]
      rw[JQ]
     ·cases h
  case box t x=>
   cases dst with
   |none=>cases h
   |some d=>
    simp only at h
    cases hL:X.L.contains d
    ·rw[hL]at h
     simp only[cond_false]at h
     cases hO:X.O.contains d
     ·rw[hO]at h
      exact dflt h (fun R' k' s' ha=>by unfold iy;rw[hP s' ha];simp only[hL,hO,cond_false])
     ·rw[hO]at h
      simp only[cond_true]at h
      obtain⟨cs,e1,e2⟩:=nN h
      rw[lp]at e2
      refine⟨_,tD _ _ hR (by simp [qy,wH];simpa using hO) rfl rfl (fun h=>by cases h),e2,fun R' k' s' ha=>?_⟩
      have fQ:=ha.σ (by simpa [ur]using hO) rfl
      have hx:=xO s' ha x (by simp [Op.operands])
      unfold iy
      rw[hP s' ha]
      simp only[hL,hO,cond_false,cond_true,←hx,e1,Option.bind_some,fQ]
      rw[lp]
    ·rw[hL]at h
     simp only[cond_true]at h
     obtain⟨cs,e1,e2⟩:=nN h
     rw[JQ]at e2
     refine⟨_,⟨rfl,(fun b v h=>by cases h),(fun p h=>by cases h),(fun _=>⟨d,rfl,hL⟩),(fun h=>absurd rfl h),(fun d' b e _ hL'=>by simp only[LQ,Option.some.injEq]at e;rw[←e,hL]at hL';cases hL'),(fun _ _ _=>rfl),(fun b v h=>by cases h),(fun _ σ h=>by cases h)⟩,e2,fun R' k' s' ha=>?_⟩
     have hx:=xO s' ha x (by simp [Op.operands])
     unfold iy
     rw[hP s' ha]
     simp only[hL,cond_true,←hx,e1,Option.bind_some]
     rw[JQ]
  case store t x v=>
   split at h
   ·rename_i b off hpl
    obtain⟨cs,e1,e2⟩:=nN h
    obtain⟨new,e3,e4⟩:=nN e2
    obtain⟨cs',e5,e6⟩:=nN e4
    rw[UI]at e6
    have zJ:rt X Rt ⟨dst,.store t x v,ty,pos,af,g⟩=some b:=by simp only[rt,oJ];exact Ka hI hpl
    refine⟨_,⟨rfl,(fun b' v' hb=>by simp only[LR,Option.some.injEq,Prod.mk.injEq]at hb;rw[←hb.1];exact⟨ag6 hpl,zJ⟩),(fun p h=>by cases h),(fun h=>by cases h),(fun h=>absurd rfl h),(fun d1 b1 e hl hL=>by rw[hR.1 d1 e hL]at hl;cases hl),(fun d1 e hc=>by have:=hR.2 d1 e hc;cases this),(fun b1 v1 hb=>by simp only[LR,Option.some.injEq,Prod.mk.injEq]at hb;rw[←hb.2];rfl),(fun _ σ h=>by cases h)⟩,e6,fun R' k' s' ha=>?_⟩
    have hv:=xO s' ha v (by simp [Op.operands])
    have hpx:place X s' none x=some (b,off):=by rw[←hpl];exact(ha.zN x rfl).symm
    have uZ:=ha.bx b zJ
    unfold iy
    rw[hP s' ha]
    simp only[hpx,←uZ,e1,Option.bind_some,←hv,e3,e5]
    rw[UI]
   ·rename_i hpl
    obtain⟨new,e3,e4⟩:=nN h
    obtain⟨σ',e5,e6⟩:=nN e4
    rw[lp]at e6
    have zJ:rt X Rt ⟨dst,.store t x v,ty,pos,af,g⟩=none:=by
     cases hr:rt X Rt ⟨dst,.store t x v,ty,pos,af,g⟩with
     |none=>rfl
     |some b=>rw[ae5 (Eu s hI x b rfl hr hpl)]at e5;cases e5
    have hw:qy X Rt ⟨dst,.store t x v,ty,pos,af,g⟩=true:=by simp only[qy,zJ,Option.isNone_none]
    refine⟨_,tD _ _ hR hw rfl rfl (fun h=>by cases h),e6,fun R' k' s' ha=>?_⟩
    have hv:=xO s' ha v (by simp [Op.operands])
    have hx:=xO s' ha x (by simp [Op.operands])
    have fQ:=ha.σ (by simp only[ur,zJ,Option.isNone_none]) rfl
    have hpx:place X s' none x=none:=by rw[←hpl];exact(ha.zN x rfl).symm
    unfold iy
    rw[hP s' ha]
    simp only[hpx,←hv,←hx,e3,Option.bind_some,←fQ,e5]
    rw[lp]
  case makeMap t rr=>
   cases rr with
   |some x=>cases h
   |none=>
    simp only at h
    rw[lp]at h
    refine⟨_,tD _ _ hR rfl rfl rfl (fun _=>JW (fun cs e=>by cases e)),h,fun R' k' s' ha=>?_⟩
    have fQ:=ha.σ rfl rfl
    unfold iy
    rw[hP s' ha]
    simp only[←fQ]
    rw[lp]
  case range t x=>
   split at h
   ·rename_i kt et hd
    obtain⟨es,e1,e2⟩:=nN h
    rw[lp]at e2
    refine⟨_,tD _ _ hR rfl rfl rfl (fun h=>by cases h),e2,fun R' k' s' ha=>?_⟩
    have hx:=xO s' ha x (by simp [Op.operands])
    have fQ:=ha.σ rfl rfl
    unfold iy
    rw[hP s' ha]
    simp only[hd,←hx,←fQ,e1,Option.bind_some]
    rw[lp]
   ·cases h
  case buildSlice t n ps=>
   cases dst with
   |none=>exact dflt h (fun R' k' s' ha=>by unfold iy;rw[hP s' ha])
   |some d=>
    simp only at h
    cases hO:X.O.contains d
    ·rw[hO]at h
     exact dflt h (fun R' k' s' ha=>by unfold iy;rw[hP s' ha];simp only[hO,cond_false])
    ·rw[hO]at h
     simp only[cond_true]at h
     obtain⟨v,e1,e2⟩:=nN h
     have hv:∀s',Ag X Rt Bt ⟨some d,.buildSlice t n ps,ty,pos,af,g⟩ ls none s s'→gq X ⟨some d,.buildSlice t n ps,ty,pos,af,g⟩ s' none=some v:=fun s' ha=>by
      rw[←e1];exact(JR (ha.Bb hls) ha.zN ha.bx (A5 s' ha.r2) (Eu s' ha.r2) ha.σ ha.Im ha.r2.EH).symm
     unfold A.EC at e2
     split at e2
     ·rename_i sz es
      cases hl:(es.length==0)
      ·rw[hl]at e2
       simp only[cond_false]at e2
       rw[lp]at e2
       refine⟨_,tD _ _ hR (by simp [qy,wH];simpa using hO) rfl rfl (fun h=>by cases h),e2,fun R' k' s' ha=>?_⟩
       have fQ:=ha.σ (by simpa [ur]using hO) rfl
       unfold iy
       rw[hP s' ha]
       simp only[hO,cond_true,hv s' ha,Option.bind_some,A.EC,hl,cond_false,←fQ]
       rw[lp]
      ·rw[hl]at e2;cases e2
     ·cases e2
  case mapUpdate t m i v=>
   split at h
   ·rename_i kt et hd
    split at h
    ·rename_i ek he
     obtain⟨σ',e1,e2⟩:=nN h
     rw[lp]at e2
     refine⟨_,tD _ _ hR rfl rfl rfl (fun _=>ags e1),e2,fun R' k' s' ha=>?_⟩
     have hm:=xO s' ha m (by simp [Op.operands])
     have hi:=xO s' ha i (by simp [Op.operands])
     have hv:=xO s' ha v (by simp [Op.operands])
     have fQ:=ha.σ rfl rfl
     unfold iy
     rw[hP s' ha]
     simp only[hd,he,←hm,←hi,←hv,←fQ,e1,Option.bind_some]
     rw[lp]
    ·cases h
   ·cases h
  case call c=>
   have hargs:∀s',Ag X Rt Bt ⟨dst,.call c,ty,pos,af,g⟩ ls none s s'→c.args.toList.map (ev X s)=c.args.toList.map (ev X s'):=fun s' ha=>
    List.map_congr_left fun x hx=>xO s' ha x (by simp [Op.operands,Call.operands];exact .inr (by simpa using hx))
   split at h
   ·rename_i hc
    split at h
    ·rename_i t u x y h1 h2
     split at h
     ·rename_i e e' hd hu
      split at h
      ·rename_i i hi
       cases fK:nQ i
       ·rw[fK]at h
        simp only[cond_false]at h
        obtain⟨⟨rr,σ'⟩,e1,e2⟩:=nN h
        simp only at e2
        rw[lp]at e2
        refine⟨_,tD _ _ hR (by simp [qy,wH,hc]) rfl rfl (fun _=>aed e1),e2,fun R' k' s' ha=>?_⟩
        have fQ:=ha.σ rfl rfl
        unfold iy
        rw[hP s' ha]
        simp only[hc,←hargs s' ha,h1,h2,hd,hu,hi,fK,cond_false,←fQ,e1,Option.bind_some]
        rw[lp]
       ·rw[fK]at h;cases h
      ·cases h
     ·rename_i e kk hd hu
      split at h
      ·rename_i i zs hi hz
       cases fK:nQ i
       ·rw[fK]at h
        simp only[cond_false]at h
        obtain⟨⟨rr,σ'⟩,e1,e2⟩:=nN h
        simp only at e2
        rw[lp]at e2
        refine⟨_,tD _ _ hR (by simp [qy,wH,hc]) rfl rfl (fun _=>adj e1),e2,fun R' k' s' ha=>?_⟩
        have fQ:=ha.σ rfl rfl
        unfold iy
        rw[hP s' ha]
        simp only[hc,←hargs s' ha,h1,h2,hd,hu,hi,hz,fK,cond_false,←fQ,e1,Option.bind_some]
        rw[lp]
       ·rw[fK]at h;cases h
      ·cases h
     ·cases h
    ·cases h
   ·rename_i hc
    split at h
    ·rename_i t u x y h1 h2
     split at h
     ·rename_i e e' hd hu
      split at h
      ·rename_i i hi
       cases fK:nQ i
       ·rw[fK]at h
        simp only[cond_false]at h
        obtain⟨⟨rr,σ'⟩,e1,e2⟩:=nN h
        simp only at e2
        rw[lp]at e2
        refine⟨_,tD _ _ hR (by simp [qy,wH,hc]) rfl rfl (fun h=>by simp [Bc,hc]at h),e2,fun R' k' s' ha=>?_⟩
        have fQ:=ha.σ rfl rfl
        unfold iy
        rw[hP s' ha]
        simp only[hc,←hargs s' ha,h1,h2,hd,hu,hi,fK,cond_false,←fQ,e1,Option.bind_some]
        rw[lp]
       ·rw[fK]at h;cases h
      ·cases h
     ·cases h
    ·cases h
   ·rename_i hc
    cases hv:gq X ⟨dst,.call c,ty,pos,af,g⟩ s none with
    |none=>rw[hv]at h;simp [A.yY]at h
    |some v=>
     rw[hv]at h
     exact dflt (by rw[hv];exact h) (fun R' k' s' ha=>by
      have hv':gq X ⟨dst,.call c,ty,pos,af,g⟩ s' none=some v:=by rw[←hv];exact(JR (ha.Bb hls) ha.zN ha.bx (A5 s' ha.r2) (Eu s' ha.r2) ha.σ ha.Im ha.r2.EH).symm
      unfold iy;rw[hP s' ha];simp only[hc,hv',Option.bind_some,A.yY])
   ·rename_i hc
    split at h
    ·rename_i t x h1 h2
     split at h
     ·rename_i e hd
      split at h
      ·rename_i i zs hi hz
       cases fK:nQ i
       ·rw[fK]at h
        simp only[cond_false]at h
        obtain⟨σ',e1,e2⟩:=nN h
        rw[lp]at e2
        refine⟨_,tD _ _ hR (by simp [qy,wH,hc]) rfl rfl (fun h=>by simp [Bc,hc]at h),e2,fun R' k' s' ha=>?_⟩
        have fQ:=ha.σ rfl rfl
        unfold iy
        rw[hP s' ha]
        simp only[hc,←hargs s' ha,h1,h2,hd,hi,hz,fK,cond_false,←fQ,e1,Option.bind_some]
        rw[lp]
       ·rw[fK]at h;cases h
      ·cases h
     ·cases h
    ·cases h
   ·rename_i hc
    split at h
    ·rename_i t u m key h1 h2
     split at h
     ·rename_i kt et hd
      split at h
      ·rename_i ek he
       obtain⟨σ',e1,e2⟩:=nN h
       rw[lp]at e2
       refine⟨_,tD _ _ hR (by simp [qy,wH,hc]) rfl rfl (fun h=>by simp [Bc,hc]at h),e2,fun R' k' s' ha=>?_⟩
       have fQ:=ha.σ rfl rfl
       unfold iy
       rw[hP s' ha]
       simp only[hc,←hargs s' ha,h1,h2,hd,he,←fQ,e1,Option.bind_some]
       rw[lp]
      ·cases h
     ·cases h
    ·cases h
   ·rename_i b hn1 hn2 nX rq uk hc
    exact dflt h (fun R' k' s' ha=>by
     unfold iy;rw[hP s' ha];simp only[hc]
     all_goals (first|rfl|(cases b<;>first|rfl|exact absurd rfl hn1|exact absurd rfl hn2|exact absurd rfl nX|exact absurd rfl rq|exact absurd rfl uk)))
   ·rename_i f hc
    cases hw:X.W.contains f
    ·simp only[hw,Bool.not_false,Bool.and_true,cond_true]at h
     exact dflt h (fun R' k' s' ha=>by unfold iy;rw[hP s' ha];simp only[hc,hw,Bool.not_false,Bool.and_true,cond_true])
    ·simp only[hw,Bool.not_true,Bool.and_false,cond_false]at h
     obtain⟨⟨rr,σ'⟩,e1,e2⟩:=nN h
     simp only at e2
     rw[lp]at e2
     refine⟨_,tD _ _ hR (by simp only[qy,wH,hc];exact hw) rfl rfl (fun h=>by simp [Bc,hc]at h),e2,fun R' k' s' ha=>?_⟩
     have fQ:=ha.σ rfl rfl
     unfold iy
     rw[hP s' ha]
     simp only[hc,←hargs s' ha,hw,Bool.not_true,Bool.and_false,cond_false,←fQ,e1,Option.bind_some]
     rw[lp]
   ·rename_i x hnf hc
    simp only[cond_true]at h
    exact dflt h (fun R' k' s' ha=>by
     unfold iy;rw[hP s' ha];simp only[hc]
     cases x<;>first|exact absurd rfl (hnf _)|simp only[cond_true])
   ·cases h
end
end
section
section
variable {R : Type} {X : Fx} {Rt : List (Nat × Nat)} {Bt : List Nat} {s s' : AS} {ops : Array Oper}
theorem J8 {o:Oper} {t:Nat} (h:Operand.tmp t∈o.op.operands.toList):t∈o.looksAt ops:=by
 unfold Oper.looksAt
 refine List.mem_append.2 (.inl (List.mem_filterMap.2 ⟨.tmp t,h,rfl⟩))
theorem adu {o:Oper} {j d:Nat} {want:Bool} (hg:o.guard=some (j,want)) (hd:(ops[j]?).bind (·.dst)=some d):d∈o.looksAt ops:=by
 unfold Oper.looksAt
 refine List.mem_append.2 (.inr ?_)
 rw[hg]
 simp only[hd]
 simp
def EE (X:Fx) (Rt:List (Nat×Nat)) (Bt:List Nat) (ops:Array Oper) (o:Oper) (s s':AS):Prop:=∀tag:Option (Nat×Bool),(∀g w,tag=some (g,w)→g∈o.looksAt ops)→Ag X Rt Bt o (o.looksAt ops) tag s s'
theorem Ag.symm {o:Oper} {ls:List Nat} {tag:Option (Nat×Bool)} (h:Ag X Rt Bt o ls tag s s'):Ag X Rt Bt o ls tag s' s:=
 ⟨h.r2,h.r1,fun t ht hL=>(h.gJ t ht hL).symm,fun t ht=>(h.pl t ht).symm,fun b hb=>(h.bx b hb).symm,(fun hr hs=>(h.σ hr hs).symm),fun hr hs id cs=>(h.Im hr hs id cs).symm⟩
theorem EE.symm {o:Oper} (h:EE X Rt Bt ops o s s'):EE X Rt Bt ops o s' s:=fun tag ht=>(h tag ht).symm
theorem P7 {o:Oper} {k:AS→Option R} {r:R} (hR:tY X Rt Bt o) (hI:RI X Rt Bt s) (h:oN X true ops o s k=some r):
  ∃u,tJ X Rt Bt o (o.looksAt ops) s.σ u∧k (u.ap s)=some r∧∀(R':Type) (k':AS→Option R') (s':AS),EE X Rt Bt ops o s s'→oN X true ops o s' k'=k' (u.ap s'):=by
 unfold oN at h
 cases hg:o.guard with
 |none=>
  rw[hg]at h
  obtain⟨u,h1,h2,h3⟩:=aji (ls:=o.looksAt ops) hR hI (fun t ht=>J8 ht) h
  refine⟨u,h1,h2,fun R' k' s' ha=>?_⟩
  unfold oN;rw[hg]
  exact h3 R' k' s' (ha none (fun g w e=>by cases e))
 |some jw=>
  obtain⟨j,want⟩:=jw
  rw[hg]at h
  simp only at h
  cases hd:(ops[j]?).bind (·.dst)with
  |none=>rw[hd]at h;cases h
  |some d=>
   rw[hd]at h
   simp only at h
   cases hb:FT X o d
   ·rw[hb]at h
    simp only[cond_false]at h
    have qo:=adu (ops:=ops) hg hd
    have EA:∀g w,(some (d,want):Option (Nat×Bool))=some (g,w)→g∈o.looksAt ops:=fun g w e=>by injection e with e;injection e with e _;rw[←e];exact qo
    have hdL:X.L.contains d=false:=by simp only[FT,Bool.or_eq_false_iff]at hb;exact hb.1
    have A5:∀(s':AS),RI X Rt Bt s'→∀x b off,oJ o=some x→place X s' (some (d,want)) x=some (b,off)→rt X Rt o=some b:=fun s' hi x b off hx hp=>by simp only[rt,hx];exact Ka hi hp
    have Eu:∀(s':AS),RI X Rt Bt s'→∀x b,oJ o=some x→rt X Rt o=some b→place X s' (some (d,want)) x=none→mK (ev X s' x)=true:=fun s' hi x b hx hr hp=>by simp only[rt,hx]at hr;exact DX hi hr hp
    have hP:∀s',EE X Rt Bt ops o s s'→kR X o s' (some (d,want))=kR X o s (some (d,want)):=fun s' ha=>by
     have a:=ha _ EA
     exact(Om (a.Bb fun t ht=>J8 ht) a.zN a.bx (A5 s' a.r2)).symm
    cases hp:kR X o s (some (d,want))with
    |some p=>
     obtain⟨b,rr⟩:=p
     rw[hp]at h
     simp only at h
     obtain⟨off,e1,e2⟩:=nN h
     subst e1
     refine⟨EY X o.dst b off (some (d,want)),XO hR (W0 hp) (XE hI hp) (XD hp) EA,by rw[←KH];exact e2,fun R' k' s' ha=>?_⟩
     unfold oN
     rw[hg]
     simp only[hd,hb,cond_false,hP s' ha,hp,Option.bind_some]
     rw[KH]
    |none=>
     rw[hp]at h
     simp only at h
     obtain⟨v,e1,e2⟩:=nN h
     have hv:vw o=true→∀b,rt X Rt o=some b→mK v=true:=by
      intro ha b hr
      unfold A.guard at e1
      split at e1
      ·rename_i c _
       cases hc:(c==want)
       ·rw[hc]at e1;simp only[cond_false,Option.some.injEq]at e1;subst e1;rfl
       ·rw[hc]at e1;exact(W1 hI ha hr hp e1).elim
      ·simp only[Option.some.injEq]at e1;subst e1;rfl
      ·cases e1
     have R2:Ay Bt o=true→pJ v=true:=by
      intro hc
      unfold A.guard at e1
      split at e1
      ·rename_i c _
       cases sN:(c==want)
       ·rw[sN]at e1;simp only[cond_false,Option.some.injEq]at e1;subst e1;rfl
       ·rw[sN]at e1;exact U4 hI.EH hc e1
      ·simp only[Option.some.injEq]at e1;subst e1;rfl
      ·cases e1
     refine⟨C0 X o.dst v,XP v hR hv R2,by rw[←KP];exact e2,fun R' k' s' ha=>?_⟩
     have a:=ha _ EA
     have hV:gq X o s' (some (d,want))=gq X o s (some (d,want)):=(JR (a.Bb fun t ht=>J8 ht) a.zN a.bx (A5 s' a.r2) (Eu s' a.r2) a.σ a.Im a.r2.EH).symm
     have qt:=a.gJ d qo hdL
     unfold oN
     rw[hg]
     simp only[hd,hb,cond_false,hP s' ha,hp,hV,←qt,e1,Option.bind_some]
     rw[KP]
   ·rw[hb]at h;cases h
structure xU (X : Fx) (Rt : List (Nat × Nat)) (Bt : List Nat) (ops : Array Oper) (x y : Oper) : Prop where
 dx:∀d,x.dst=some d→d∉y.looksAt ops
 dd:∀d,x.dst=some d→y.dst≠some d
 dy:∀d,y.dst=some d→d∉x.looksAt ops
 c1:xD X Rt Bt x y=false
 c2:xD X Rt Bt y x=false
theorem xU.symm {x y:Oper} (h:xU X Rt Bt ops x y):xU X Rt Bt ops y x:=⟨h.dy,fun d hd e=>h.dd d e hd,h.dx,h.c2,h.c1⟩
theorem afG {x y:Oper} (h:indep X Rt Bt ops x y=true):xU X Rt Bt ops x y:=by
 simp only[indep,Bool.and_eq_true,Bool.not_eq_true']at h
 obtain⟨⟨h1,h2⟩,h3⟩:=h
 obtain⟨a1,a2,a3⟩:=Oper.apart_spec h1
 exact⟨a1,a2,a3,h2,h3⟩
theorem Ww {x y:Oper} (h:xD X Rt Bt x y=false) {b:Nat} (hb:wb X Rt x=some b):rt X Rt y≠some b:=by
 unfold xD at h
 simp only[Bool.or_eq_false_iff]at h
 have:=h.1.1
 rw[hb]at this
 simpa using this
theorem Ko {x y:Oper} (h:xD X Rt Bt x y=false) {d:Nat} (hd:x.dst=some d) (hL:X.L.contains d=true):rt X Rt y≠some d:=by
 unfold xD at h
 simp only[Bool.or_eq_false_iff]at h
 have:=h.1.2
 rw[hd]at this
 simp only[hL,Bool.true_and]at this
 simpa using this
theorem Kp {x y:Oper} (h:xD X Rt Bt x y=false) (hw:qy X Rt x=true):(ur X Rt y=false∨(soft Bt y=true∧Bc x=true))∧qy X Rt y=false:=by
 unfold xD at h
 simp only[Bool.or_eq_false_iff]at h
 have:=h.2
 rw[hw]at this
 simp only[Bool.true_and,Bool.or_eq_false_iff]at this
 refine⟨?_,this.2⟩
 cases hr:ur X Rt y
 ·exact .inl rfl
 ·have h2:=this.1
  rw[hr,Bool.true_and,Bool.not_eq_false']at h2
  exact .inr (by simpa using h2)
theorem aiV {x:Oper} {a:Operand} (h:oJ x=some a):a∈x.op.operands.toList:=by
 obtain⟨dst,op,ty,pos,af,g⟩:=x
 cases op<;>simp only[oJ]at h<;>first|(cases h;done)|(injection h with h;subst h;simp [Op.operands])
theorem ak1 (h:RI X Rt Bt s) {x:Oper} {b:Nat} (hr:rt X Rt x=some b) (hL:X.L.contains b=false):False:=by
 unfold rt at hr
 split at hr
 ·rename_i a _
  cases a with
  |tmp t=>
   simp only[yl]at hr
   cases hc:X.L.contains t
   ·rw[hc]at hr;have:=h.l t b hr;rw[hL]at this;cases this
   ·rw[hc]at hr;simp only[cond_true,Option.some.injEq]at hr;subst hr;rw[hL]at hc;cases hc
  |_=>simp [yl]at hr
 ·cases hr
theorem Yw {x:Oper} {b:Nat} (h:wb X Rt x=some b):rt X Rt x=some b:=by
 unfold wb at h;split at h
 ·exact h
 ·cases h
theorem X6 {τ:Heap} {x y:Oper} (h:xU X Rt Bt ops x y) {u:Up} (hu:tJ X Rt Bt y (y.looksAt ops) τ u) (s:AS) (hs:RI X Rt Bt s) (hτ:u.σ≠none→qI s.σ τ):EE X Rt Bt ops x s (u.ap s):=by
 intro tag ht
 have hnd:∀t,t∈x.looksAt ops→u.d≠some t:=fun t ht e=>by rw[hu.d]at e;exact h.dy t e ht
 refine⟨hs,hu.ri hs,fun t Be hL=>?_,fun t Zw=>?_,fun b hb=>?_,fun hr CP=>?_,fun hr CP=>?_⟩
 ·exact(Qv (hnd t Be) (fun b v hb e=>by have:=(hu.bx b v hb).1;rw[←e,hL]at this;cases this)).symm
 ·have Be:t∈x.looksAt ops:=J8 (aiV Zw)
  simp only[place]
  cases hL:X.L.contains t
  ·simp only[cond_false]
   show _=match u.A s.A t with|some p=>_|none=>none
   unfold Up.A
   cases hd:u.d with
   |none=>rfl
   |some d=>
    have htd:(t==d)=false:=by simp only[beq_eq_false_iff_ne];intro e;exact hnd t Be (by rw[hd,e])
    simp only[htd,cond_false]
    cases hA:s.A t with
    |none=>rfl
    |some p=>
     have zJ:yl X Rt (.tmp t)=some p.slot:=by simp only[yl,hL,cond_false];exact hs.a t p hA
     have hf:p9 u.vA d (some p)=oZ d (some p):=by
      cases hi:u.vA with
      |false=>exact FE d _
      |true=>
       obtain⟨d',hd',hL'⟩:=hu.box hi
       have sO:d'=d:=by rw[hu.d]at hd;rw[hd]at hd';injection hd' with e;exact e.symm
       subst sO
       unfold p9
       cases hk:oZ d' (some p)with
       |none=>rfl
       |some q=>
        have hqs:q=p:=by
         simp only[oZ]at hk
         cases CQ:p.tag with
         |none=>rw[CQ]at hk;simpa using hk.symm
         |some g=>
          obtain⟨g,w⟩:=g
          rw[CQ]at hk
          simp only at hk
          cases hg:(g==d')
          ·rw[hg]at hk;simpa using hk.symm
          ·rw[hg]at hk;cases hk
        subst hqs
        have hne:(q.slot==d')=false:=by
         rw[beq_eq_false_iff_ne]
         intro e
         have:rt X Rt x=some q.slot:=by simp only[rt,Zw];exact zJ
         exact Ko h.c2 hd' hL' (by rw[this,e])
        simp only[hne,Bool.and_false,cond_false]
     rw[hf]
     simp only[oZ]
     cases CQ:p.tag with
     |none=>simp only[CQ]
     |some gw=>
      obtain⟨g,w⟩:=gw
      simp only
      cases hgd:(g==d)
      ·simp only[cond_false,CQ]
      ·simp only[cond_true]
       have akB:g=d:=by simpa using hgd
       have:(tag==some (g,w))=false:=by
        rw[beq_eq_false_iff_ne]
        intro e
        exact hnd g (ht g w e) (by rw[hd,akB])
       rw[this]
       cases X.L.contains p.slot<;>rfl
  ·rfl
 ·refine(Qv (fun e=>?_) (fun b' v hb' e=>?_)).symm
  ·rw[hu.d]at e
   have hLb:X.L.contains b=true:=by
    cases hc:X.L.contains b with
    |true=>rfl
    |false=>
     exfalso
     exact ak1 hs hb hc
   exact Ko h.c2 e hLb hb
  ·exact Ww h.c2 (hu.bx b' v hb').2 (by rw[←e];exact hb)
 ·show s.σ=u.σ.getD s.σ
  cases hs':u.σ with
  |none=>rfl
  |some σ=>
   rcases(Kp h.c2 (hu.σ (by rw[hs'];intro e;cases e))).1 with this|⟨this,_⟩
   ·rw[hr]at this;cases this
   ·rw[CP]at this;cases this
 ·show qI s.σ (u.σ.getD s.σ)
  cases hs':u.σ with
  |none=>exact BF _
  |some σ=>
   rcases(Kp h.c2 (hu.σ (by rw[hs'];intro e;cases e))).1 with this|⟨_,hf⟩
   ·rw[hr]at this;cases this
   ·exact fun id cs=>(hτ (by rw[hs'];intro e;cases e) id cs).trans (hu.fr hf σ hs' id cs)
theorem ahj {τ LU:Heap} {x y:Oper} (h:xU X Rt Bt ops x y) {u v:Up} (hu:tJ X Rt Bt x (x.looksAt ops) τ u) (hv:tJ X Rt Bt y (y.looksAt ops) LU v):u.XS v:=by
 have half:∀{τ LU:Heap} {x y:Oper} {u v:Up},xU X Rt Bt ops x y→tJ X Rt Bt x (x.looksAt ops) τ u→tJ X Rt Bt y (y.looksAt ops) LU v→(∀b a,u.bx=some (b,a)→(∀c a',v.bx=some (c,a')→c≠b)∧v.d≠some b)∧(∀d,v.d=some d→p9 v.vA d u.new=u.new):=by
  intro τ LU x y u v h hu hv
  refine⟨fun b a hb=>?_,fun d hd=>?_⟩
  ·obtain⟨k1,k2⟩:=hu.bx b a hb
   refine⟨fun c a' hc e=>?_,fun e=>?_⟩
   ·have:=(hv.bx c a' hc).2
    subst e
    exact Ww h.c1 k2 (Yw this)
   ·rw[hv.d]at e
    exact Ko h.c2 e k1 (Yw k2)
  ·cases hn:u.new with
   |none=>rfl
   |some p=>
    obtain⟨k1,k2,k3,k4⟩:=hu.new p hn
    have hkt:oZ d (some p)=some p:=by
     simp only[oZ]
     cases CQ:p.tag with
     |none=>rfl
     |some gw=>
      obtain⟨g,w⟩:=gw
      simp only
      have:(g==d)=false:=by
       rw[beq_eq_false_iff_ne];intro e
       rw[hv.d]at hd
       exact h.dy d hd (e▸k2 g w CQ)
      rw[this];rfl
    unfold p9
    rw[hkt]
    simp only
    cases hi:v.vA with
    |false=>rfl
    |true=>
     obtain⟨d',hd',hL'⟩:=hv.box hi
     have sO:d'=d:=by rw[hv.d]at hd;rw[hd]at hd';injection hd' with e;exact e.symm
     subst sO
     have:(p.slot==d')=false:=by
      rw[beq_eq_false_iff_ne];intro e
      exact Ko h.c2 hd' hL' (by rw[k3,e])
     simp only[this,Bool.and_false,cond_false]
 obtain⟨a1,a2⟩:=half h hu hv
 obtain⟨b1,b2⟩:=half h.symm hv hu
 refine⟨fun d hd e=>?_,a1,b1,a2,b2,?_⟩
 ·rw[hu.d]at hd;rw[hv.d]at e;exact h.dd d hd e
 ·cases hs:u.σ with
  |none=>exact .inl rfl
  |some σ=>
   right
   have hw:=hu.σ (by rw[hs];intro e;cases e)
   have ZB:=(Kp h.c1 hw).2
   cases hs2:v.σ with
   |none=>rfl
   |some σ2=>rw[hv.σ (by rw[hs2];intro e;cases e)]at ZB;cases ZB
theorem U5 {o:Oper} {k:AS→Option R} {r:R} (ho:tY X Rt Bt o):∀(l1 l2:List Oper) (s:AS),RI X Rt Bt s→(∀y∈l1,tY X Rt Bt y)→(∀y∈l1,xU X Rt Bt ops y o)→sJ X true ops (l1++o::l2) s k=some r→oN X true ops o s (fun s1=>sJ X true ops (l1++l2) s1 k)=some r
 |[],l2,s,_,_,_,h=>h
 |y::l1,l2,s,hs,hr,hi,h=>by
  simp only[List.cons_append,sJ]at h
  obtain⟨u,u1,u2,u3⟩:=P7 (hr y (by simp)) hs h
  have ih:=U5 ho l1 l2 (u.ap s) (u1.ri hs) (fun z hz=>hr z (by simp [hz])) (fun z hz=>hi z (by simp [hz])) u2
  obtain⟨v,v1,v2,v3⟩:=P7 ho (u1.ri hs) ih
  have hy:=hi y (by simp)
  have hbe:v.σ≠none→qI s.σ (u.ap s).σ:=fun hv=>by
   have hnu:u.σ=none:=by
    cases hu:u.σ with
    |none=>rfl
    |some σ=>
     have hw:=(Kp hy.c1 (u1.σ (by rw[hu];intro e;cases e))).2
     rw[v1.σ hv]at hw;cases hw
   show qI s.σ (u.σ.getD s.σ)
   rw[hnu];exact BF _
  rw[v3 R _ s (X6 hy.symm u1 s hs (fun _=>BF _)).symm]
  simp only[List.cons_append,sJ]
  rw[u3 R _ (v.ap s) (X6 hy v1 s hs hbe),Up.comm (ahj hy u1 v1)]
  exact v2
def Down (ops:Array Oper) (S:Nat→Prop):Prop:=∀i o e,S i→ops[i]? =some o→e∈o.after→Region.binds .any e=true→S e.on
def Lf (ops:Array Oper) (i:Nat) (S:Nat→Prop):Prop:=∀o e,ops[i]? =some o→e∈o.after→Region.binds .any e=true→S e.on
theorem VQ (acc:List Nat):∀(es:List Edge) (m j:Nat),(es.foldl (fun s e=>bif Region.binds .any e then s ||| 2 ^ e.on ||| acc.getD e.on 0 else s) m).testBit j=true→
  m.testBit j=true∨∃e∈es,Region.binds .any e=true∧(e.on=j∨(acc.getD e.on 0).testBit j=true)
 |[],m,j,h=>.inl h
 |e::es,m,j,h=>by
  simp only[List.foldl_cons]at h
  rcases VQ acc es _ j h with h|⟨e',he',hb,hx⟩
  ·cases hb:Region.binds .any e
   ·rw[hb]at h;exact .inl h
   ·rw[hb]at h
    simp only[cond_true,Nat.testBit_or,Bool.or_eq_true]at h
    rcases h with(h|h)|h
    ·exact .inl h
    ·refine .inr ⟨e,by simp,hb,.inl ?_⟩
     rw[Nat.testBit_two_pow]at h
     simpa using h
    ·exact .inr ⟨e,by simp,hb,.inr h⟩
  ·exact .inr ⟨e',by simp [he'],hb,hx⟩
theorem Vy:∀(l:List Oper) (acc:List Nat),(∀i,l[i]? =ops[acc.length+i]?)→
  (∀(m j:Nat),(acc.getD m 0).testBit j=true→∀S,Down ops S→Lf ops m S→S j)→
  ∀(m j:Nat),((KU l acc).getD m 0).testBit j=true→∀S,Down ops S→Lf ops m S→S j
 |[],acc,hl,hacc=>hacc
 |o::l,acc,hl,hacc=>by
  simp only[KU]
  refine Vy l _ (fun i=>by have:=hl (i+1);simp at this;rw[this];simp;congr 1;omega) ?_
  intro m j h S hS hD
  have h0:=hl 0
  simp at h0
  by_cases hm:m<acc.length
  ·rw[List.getD,List.getElem?_append_left hm]at h
   exact hacc m j h S hS hD
  ·by_cases hm2:m=acc.length
   ·subst hm2
    rw[List.getD,List.getElem?_append_right (Nat.le_refl _)]at h
    simp only[Nat.sub_self,List.getElem?_cons_zero,Option.getD_some]at h
    rcases VQ acc _ _ j h with h|⟨e,he,hb,hx⟩
    ·simp at h
    ·have ER:S e.on:=hD o e h0.symm (by simpa using he) hb
     rcases hx with hx|hx
     ·exact hx▸ER
     ·exact hacc e.on j hx S hS (fun o' e' ho' he' hb'=>hS e.on o' e' ER ho' he' hb')
   ·rw[List.getD,List.getElem?_append_right (by omega),List.getElem?_eq_none (by simp;omega)]at h
    simp at h
theorem Uk {G5:List Nat}:∀(l:List Oper) (i:Nat),(∀j,l[j]? =ops[i+j]?)→Kz X Rt Bt ops G5 l i=true→∀n o,i≤n→ops[n]? =some o→∀m y,m<n→ops[m]? =some y→(G5.getD n 0).testBit m=true∨indep X Rt Bt ops y o=true
 |[],i,hl,_,n,o,hn,ho,m,y,hm,hy=>by
  have:=hl (n-i)
  rw[show i+(n-i)=n by omega,ho]at this
  simp at this
 |x::l,i,hl,h,n,o,hn,ho,m,y,hm,hy=>by
  simp only[Kz,Bool.and_eq_true]at h
  by_cases hni:n=i
  ·subst hni
   have h0:=hl 0
   simp at h0
   rw[ho]at h0;injection h0 with h0;subst h0
   have:=List.all_eq_true.1 h.1 (y,m) (by
    rw[List.mem_zipIdx_iff_getElem?]
    simp only
    rw[List.getElem?_take_of_lt hm,Array.getElem?_toList]
    exact hy)
   simpa using this
  ·exact Uk l (i+1) (fun j=>by have:=hl (j+1);simp at this;rw[this];congr 1;omega) h.2 n o (by omega) ho m y hm hy
theorem UH:∀(l:List Oper) (i:Nat),(∀j,l[j]? =ops[i+j]?)→KI l i=true→∀n o e,i≤n→ops[n]? =some o→e∈o.after→Region.binds .any e=true→e.on<n
 |[],i,hl,_,n,o,e,hn,ho,he,hb=>by
  have:=hl (n-i)
  rw[show i+(n-i)=n by omega,ho]at this
  simp at this
 |x::l,i,hl,h,n,o,e,hn,ho,he,hb=>by
  simp only[KI,Bool.and_eq_true]at h
  by_cases hni:n=i
  ·subst hni
   have h0:=hl 0
   simp at h0
   rw[ho]at h0;injection h0 with h0;subst h0
   have:=List.all_eq_true.1 h.1 e (by simpa using he)
   rw[hb]at this
   simpa [Nat.blt_eq]using this
  ·exact UH l (i+1) (fun j=>by have:=hl (j+1);simp at this;rw[this];congr 1;omega) h.2 n o e (by omega) ho he hb
def qP (listed:Array Bool) (n:Nat):List Nat:=(List.range n).filter fun i=>!listed.getD i true
def zk (ops:Array Oper) (listed:Array Bool):List Oper:=(qP listed ops.size).filterMap (ops[·]?)
theorem aeO {listed:Array Bool} {n i:Nat} (hi:i<n) (hl:listed.getD i true=false) (hs:listed.size=n):
  ∃l1 l2,qP listed n=l1++i::l2∧qP (listed.setIfInBounds i true) n=l1++l2∧∀j∈l1,j<i∧listed.getD j true=false:=by
 refine⟨(List.range i).filter fun j=>!listed.getD j true,((List.range' (i+1) (n-i-1))).filter fun j=>!listed.getD j true,?_,?_,fun j hj=>?_⟩
 ·unfold qP
  rw[show List.range n=List.range i++i::List.range' (i+1) (n-i-1) by
   rw[List.range_eq_range',List.range_eq_range',←List.range'_succ,show n-i-1+1=n-i by omega]
   have:=List.range'_append_1 (s:=0) (m:=i) (n:=n-i)
   rw[show 0+i=i by omega,show i+(n-i)=n by omega]at this
   exact this.symm]
  rw[List.filter_append,List.filter_cons,hl]
  simp
 ·unfold qP
  rw[show List.range n=List.range i++i::List.range' (i+1) (n-i-1) by
   rw[List.range_eq_range',List.range_eq_range',←List.range'_succ,show n-i-1+1=n-i by omega]
   have:=List.range'_append_1 (s:=0) (m:=i) (n:=n-i)
   rw[show 0+i=i by omega,show i+(n-i)=n by omega]at this
   exact this.symm]
  rw[List.filter_append,List.filter_cons]
  have qc:(listed.setIfInBounds i true).getD i true=true:=by simp [Array.getD,hs,hi]
  rw[qc]
  simp only[Bool.not_true,Bool.false_eq_true,if_false]
  congr 1
  ·apply List.filter_congr
   intro j hj
   have:j<i:=by simpa using hj
   rw[Array.getD_eq_getD_getElem?,Array.getD_eq_getD_getElem?,Array.getElem?_setIfInBounds_ne (by omega)]
  ·apply List.filter_congr
   intro j hj
   have:i<j:=by simp at hj;omega
   rw[Array.getD_eq_getD_getElem?,Array.getD_eq_getD_getElem?,Array.getElem?_setIfInBounds_ne (by omega)]
 ·rw[List.mem_filter]at hj
  exact⟨by simpa using hj.1,by simpa using hj.2⟩
end
end
section
open Go.RowKit
section
variable {X : Fx} {z : Z} {s : AS} {a : Act} {w w' : World} {E : List Pl} {pb : Nat → Option Nat} {R : Type}
theorem Wi (h:St X z s a w E pb) {d:Nat} {av:U} (CL:s.sl.getD d .undef=av) (h1:av≠.undef) (h2:∀cs,av≠.lbx cs):∃v,a.tmps[d]? =some v∧a.tmps.getD d undef=v∧aq (ctx z w E pb) av v:=by
 by_cases hd:d<s.sl.length
 ·have e:s.sl[d]? =some av:=by rw[List.getElem?_eq_getElem hd];rw[←CL];simp [List.getD,hd]
  have r:=(h.slot d av e).rep h2
  have hd':d<a.tmps.size:=by rw[h.len];exact hd
  exact⟨a.tmps.getD d undef,by simp [Array.getD,hd'],rfl,r⟩
 ·exact absurd (by rw[←CL];simp [List.getD,Nat.le_of_not_lt hd]) h1
theorem ajk (hs:cL X) (h:St X z s a w E pb) {q:Bool} {ops:Array Oper} {i:Nat} {o:Oper} (hi:ops[i]? =some o) {k:AS→Option R} {r:R} (hk:oN X q ops o s k=some r) {K:Act→World→Prop} {Q:Exit→Act→World→Prop}
  (hK:∀s' a' w' E' ck,St X z s' a' w' E' ck→k s'=some r→K a' w'):wpOp X.P ops Q i K a w:=by
 unfold wpOp
 rw[hi]
 simp only
 unfold oN at hk
 cases hg:o.guard with
 |none=>
  rw[hg]at hk
  rw[if_pos (by simp [Region.wanted,hg])]
  exact .inl (ajj hs h hk hK)
 |some jw=>
  obtain⟨j,want⟩:=jw
  rw[hg]at hk
  simp only at hk
  cases hd:(ops[j]?).bind (·.dst)with
  |none=>rw[hd]at hk;cases hk
  |some d=>
   rw[hd]at hk
   simp only at hk
   cases hL:FT X o d
   ·rw[hL]at hk
    simp only[cond_false]at hk
    have Gn:Region.wanted o (yielded ops a.tmps)=(yielded ops a.tmps j==some want):=by simp [Region.wanted,hg]
    have hy:yielded ops a.tmps j=match a.tmps[d]? with|some (.bool b)=>some b|_=>none:=by
     simp only[yielded,hd,Option.bind_some]
     rfl
    cases hp:kR X o s (some (d,want))with
    |some p=>
     obtain⟨b,rr⟩:=p
     rw[hp]at hk
     simp only at hk
     obtain⟨off,e1,e2⟩:=Option.bind_eq_some_iff.1 hk
     subst e1
     by_cases hw:Region.wanted o (yielded ops a.tmps)=true
     ·rw[if_pos hw]
      have ht:qJ a (some (d,want)):=by
       rw[Gn,hy]at hw
       simp only[qJ]
       split at hw
       ·rename_i b' hb'
        simp at hw;subst hw
        rw[Array.getD_eq_getD_getElem?,hb'];rfl
       ·simp at hw
      obtain⟨n,k1,k2⟩:=XF h ht hp
      exact .inl (qD k2 (hK _ _ _ _ _ (h.QD o.dst (fun _=>⟨n,k1,rfl⟩)) e2))
     ·rw[if_neg hw]
      refine hK _ _ _ _ _ (h.QD o.dst (fun ht=>absurd ?_ hw)) e2
      rw[Gn,hy]
      simp only[qJ]at ht
      rw[Array.getD_eq_getD_getElem?]at ht
      cases hc:a.tmps[d]? with
      |none=>rw[hc]at ht;simp [undef]at ht
      |some v=>rw[hc]at ht;simp at ht;subst ht;simp
    |none=>
     rw[hp]at hk
     simp only at hk
     obtain⟨av,e1,e2⟩:=Option.bind_eq_some_iff.1 hk
     generalize qt:s.sl.getD d .undef=gv at e1
     cases gv<;>simp only[A.guard]at e1<;>first|(cases e1;done)|skip
     case bool b=>
      obtain⟨v,v1,v2,v3⟩:=Wi h qt (by intro e;cases e) (by intro cs e;cases e)
      simp only[aq]at v3
      subst v3
      cases Hv:(b==want)
      ·rw[Hv]at e1
       simp only[cond_false]at e1
       injection e1 with e1;subst e1
       have hw:¬Region.wanted o (yielded ops a.tmps)=true:=by
        rw[Gn,hy,v1]
        simp at Hv ⊢
        exact Hv
       rw[if_neg hw]
       exact hK _ _ _ _ _ (h.undef o.dst) e2
      ·rw[Hv]at e1
       simp only[cond_true]at e1
       have YH:b=want:=by simpa using Hv
       have hw:Region.wanted o (yielded ops a.tmps)=true:=by rw[Gn,hy,v1];simp [YH]
       rw[if_pos hw]
       have ht:qJ a (some (d,want)):=by simp only[qJ];rw[v2,YH]
       exact .inl (XG hs h ht e1 fun v w' E' h3 h4=>hK _ _ _ _ _ (h3.put o.dst h4) e2)
     case aL vs=>
      cases vs with
      |cons x xs=>cases e1
      |nil=>
       injection e1 with e1;subst e1
       obtain⟨v,v1,v2,v3⟩:=Wi h qt (by intro e;cases e) (by intro cs e;cases e)
       simp only[aq]at v3
       obtain⟨us,rfl,_⟩:=v3
       have hw:¬Region.wanted o (yielded ops a.tmps)=true:=by rw[Gn,hy,v1];simp
       rw[if_neg hw]
       exact hK _ _ _ _ _ (h.undef o.dst) e2
   ·rw[hL]at hk;cases hk
def Fr (X:Fx) (ds:List Nat) (s s':AS):Prop:=∀i,i∉ds→X.L.contains i=false→s'.sl[i]? =s.sl[i]?
theorem Fr.refl (ds:List Nat) (s:AS):Fr X ds s s:=fun _ _ _=>rfl
theorem Fr.trans {d1 d2:List Nat} {s s' s'':AS} (h:Fr X d1 s s') (k:Fr X d2 s' s''):Fr X (d1++d2) s s'':=fun i hi hL=>by
 rw[List.mem_append]at hi
 exact(k i (fun e=>hi (.inr e)) hL).trans (h i (fun e=>hi (.inl e)) hL)
theorem Fr.mono {d1 d2:List Nat} {s s':AS} (h:Fr X d1 s s') (k:∀i∈d1,i∈d2):Fr X d2 s s':=fun i hi hL=>h i (fun e=>hi (k i e)) hL
theorem Fr.put (d:Option Nat) (v:U) (s:AS):Fr X d.toList s (s.put X d v):=fun i hi hL=>by
 cases d with
 |none=>rfl
 |some d=>simp only[AS.put];rw[List.getElem?_set,if_neg];intro e;subst e;simp at hi
theorem Fr.nv (d:Option Nat) (b off:Nat) (tag:Option (Nat×Bool)) (s:AS):Fr X d.toList s (s.nv X d b off tag):=fun i hi hL=>by
 cases d with
 |none=>rfl
 |some d=>simp only[AS.nv];rw[List.getElem?_set,if_neg];intro e;subst e;simp at hi
theorem Fr.pg (d:Nat) (cs:List U) (s:AS):Fr X [d] s (s.pg d cs):=fun i hi hL=>by
 simp only[AS.pg];rw[List.getElem?_set,if_neg];intro e;subst e;simp at hi
theorem Fr.qF (d:Option Nat) (v:U) (σ:Heap) (s:AS):Fr X d.toList s ((s.heap σ).put X d v):=fun i hi hL=>by
 cases d with
 |none=>rfl
 |some d=>simp only[AS.put,AS.heap];rw[List.getElem?_set,if_neg];intro e;subst e;simp at hi
theorem Fr.aiX (d:Option Nat) (v:U) (b:Nat) (cs:List U) (hb:X.L.contains b=true) (s:AS):Fr X d.toList s ((⟨s.sl.set b (.lbx cs),s.A,s.σ⟩:AS).put X d v):=fun i hi hL=>by
 have Zx:b≠i:=fun e=>by rw[e,hL]at hb;cases hb
 cases d with
 |none=>simp only[AS.put];rw[List.getElem?_set,if_neg Zx]
 |some d=>simp only[AS.put];rw[List.getElem?_set,if_neg,List.getElem?_set,if_neg Zx];intro e;subst e;simp at hi
theorem aip {tag:Option (Nat×Bool)} {x:Operand} {b off:Nat} (h:place X s tag x=some (b,off)):X.L.contains b=true:=by
 cases x with
 |tmp t=>
  simp only[place]at h
  cases hL:X.L.contains t
  ·rw[hL]at h
   simp only[cond_false]at h
   split at h
   ·rename_i p hA
    cases hp:X.L.contains p.slot
    ·rw[hp]at h;cases h
    ·rw[hp]at h
     simp only[cond_true]at h
     split at h
     ·simp only[Option.some.injEq,Prod.mk.injEq]at h;rw[←h.1];exact hp
     ·rename_i g hg
      cases ht:(tag==some g)
      ·rw[ht]at h;cases h
      ·rw[ht]at h;simp only[cond_true,Option.some.injEq,Prod.mk.injEq]at h;rw[←h.1];exact hp
   ·cases h
  ·rw[hL]at h
   simp only[cond_true,Option.some.injEq,Prod.mk.injEq]at h
   rw[←h.1];exact hL
 |_=>simp [place]at h
theorem bind_congr {α β:Type} {x:Option α} {f g:α→Option β} (h:∀a,x=some a→f a=g a):x.bind f=x.bind g:=by cases x with|none=>rfl|some a=>exact h a rfl
theorem aek {x:U} {σ:Heap} {f g:Nat→Heap→Option R} (h:∀n σ,f n σ=g n σ):A.yZ x σ f=A.yZ x σ g:=by
 have:f=g:=funext fun n=>funext fun σ=>h n σ
 rw[this]
theorem adw {x:U} {σ:Heap} {f g:U→Heap→Option R} (h:∀v σ,f v σ=g v σ):A.AM x σ f=A.AM x σ g:=by
 have:f=g:=funext fun n=>funext fun σ=>h n σ
 rw[this]
theorem aey {q str:Bool} {i:Operand} {dst:Option Nat} {k k2:AS→Option R} (h:∀s',Fr X dst.toList s s'→k s'=k2 s'):
  (bif q||str then none else A.AM (ev X s i) s.σ fun v σ=>k ((s.heap σ).put X dst v))=(bif q||str then none else A.AM (ev X s i) s.σ fun v σ=>k2 ((s.heap σ).put X dst v)):=by
 cases(q||str)
 ·simp only[cond_false]
  exact adw fun _ _=>h _ (Fr.qF _ _ _ _)
 ·rfl
theorem afP {q:Bool} {o:Oper} {k k2:AS→Option R} (h:∀s',Fr X o.dst.toList s s'→k s'=k2 s'):iy X q o s k=iy X q o s k2:=by
 unfold iy
 cases hp:kR X o s none with
 |some p=>obtain⟨b,rr⟩:=p;exact bind_congr fun p _=>h _ (Fr.nv _ _ _ _ _)
 |none=>
  simp only
  have dflt:((gq X o s none).bind fun v=>k (s.put X o.dst v))=(gq X o s none).bind fun v=>k2 (s.put X o.dst v):=bind_congr fun v _=>h _ (Fr.put _ _ _)
  obtain⟨dst,op,ty,pos,af,g⟩:=o
  cases op<;>simp only<;>first|exact aey h|exact dflt|skip
  case alloc t=>
   cases dst with
   |none=>rfl
   |some d=>
    simp only
    cases X.L.contains d
    ·simp only[cond_false]
     cases X.O.contains d
     ·exact dflt
     ·simp only[cond_true];split
      ·exact h _ (Fr.qF _ _ _ _)
      ·rfl
    ·simp only[cond_true];split
     ·exact h _ (Fr.pg _ _ _)
     ·rfl
  case box t x=>
   cases dst with
   |none=>rfl
   |some d=>
    simp only
    cases X.L.contains d
    ·simp only[cond_false]
     cases X.O.contains d
     ·exact dflt
     ·exact bind_congr fun cs _=>h _ (Fr.qF _ _ _ _)
    ·exact bind_congr fun cs _=>h _ (Fr.pg _ _ _)
  case store t x v=>
   split
   ·rename_i b off hpl
    exact bind_congr fun _ _=>bind_congr fun _ _=>bind_congr fun _ _=>h _ (Fr.aiX _ _ _ _ (aip hpl) _)
   ·exact bind_congr fun _ _=>bind_congr fun _ _=>h _ (Fr.qF _ _ _ _)
  case makeMap t rr=>
   cases rr with
   |none=>exact h _ (Fr.qF _ _ _ _)
   |some x=>rfl
  case range t x=>
   split
   ·exact bind_congr fun _ _=>h _ (Fr.qF _ _ _ _)
   ·rfl
  case buildSlice t n ps=>
   cases dst with
   |none=>exact dflt
   |some d=>
    simp only
    cases X.O.contains d
    ·exact dflt
    ·simp only[cond_true]
     refine bind_congr fun v _=>?_
     unfold A.EC
     split
     ·cases(List.length _==0)
      ·exact h _ (Fr.qF _ _ _ _)
      ·rfl
     ·rfl
  case mapUpdate t m i v=>
   split
   ·split
    ·exact bind_congr fun _ _=>h _ (Fr.qF _ _ _ _)
    ·rfl
   ·rfl
  case call c=>
   split
   ·split
    ·split
     ·split
      ·cases nQ _
       ·exact bind_congr fun _ _=>h _ (Fr.qF _ _ _ _)
       ·rfl
      ·rfl
     ·split
      ·cases nQ _
       ·exact bind_congr fun _ _=>h _ (Fr.qF _ _ _ _)
       ·rfl
      ·rfl
     ·rfl
    ·rfl
   ·split
    ·split
     ·split
      ·cases nQ _
       ·exact bind_congr fun _ _=>h _ (Fr.qF _ _ _ _)
       ·rfl
      ·rfl
     ·rfl
    ·rfl
   ·cases hv:gq X _ s none
    ·simp only[A.yY]
     cases q
     ·simp only[cond_false]
      split
      ·split
       ·exact aek fun _ _=>h _ (Fr.qF _ _ _ _)
       ·rfl
      ·rfl
     ·rfl
    ·exact h _ (Fr.put _ _ _)
   ·split
    ·split
     ·split
      ·cases nQ _
       ·exact bind_congr fun _ _=>h _ (Fr.qF _ _ _ _)
       ·rfl
      ·rfl
     ·rfl
    ·rfl
   ·split
    ·split
     ·split
      ·exact bind_congr fun _ _=>h _ (Fr.qF _ _ _ _)
      ·rfl
     ·rfl
    ·rfl
   ·exact dflt
   ·cases(q&&!X.W.contains _)
    ·exact bind_congr fun _ _=>h _ (Fr.qF _ _ _ _)
    ·exact dflt
   ·cases q
    ·exact bind_congr fun _ _=>h _ (Fr.qF _ _ _ _)
    ·exact dflt
   ·rfl
theorem afQ {q:Bool} {ops:Array Oper} {o:Oper} {k k2:AS→Option R} (h:∀s',Fr X o.dst.toList s s'→k s'=k2 s'):oN X q ops o s k=oN X q ops o s k2:=by
 unfold oN
 split
 ·exact afP h
 ·split
  ·cases FT X o _
   ·simp only[cond_false]
    split
    ·exact bind_congr fun _ _=>h _ (Fr.nv _ _ _ _ _)
    ·exact bind_congr fun _ _=>h _ (Fr.put _ _ _)
   ·rfl
  ·rfl
theorem WZ (hs:cL X) (h:St X z s a w E pb) {q:Bool} {ops:Array Oper} {i:Nat} {o:Oper} (hi:ops[i]? =some o) {k:AS→Option R} {r:R} (hk:oN X q ops o s k=some r) {K:Act→World→Prop} {Q:Exit→Act→World→Prop}
  (hK:∀s' a' w' E' ck,St X z s' a' w' E' ck→Fr X o.dst.toList s s'→k s'=some r→K a' w'):wpOp X.P ops Q i K a w:=by
 classical
 have e:oN X q ops o s k=oN X q ops o s (fun s'=>if Fr X o.dst.toList s s' then k s' else none):=afQ fun s' hf=>by rw[if_pos hf]
 rw[e]at hk
 refine ajk hs h hi hk fun s' a' w' E' ck h' hk'=>?_
 split at hk'
 ·exact hK s' a' w' E' ck h' (by assumption) hk'
 ·cases hk'
theorem W2 (hs:cL X) {q:Bool} {ops:Array Oper} {Q:Exit→Act→World→Prop} {r:R} {k:AS→Option R} {s0:AS}:
  ∀(l:List Oper) (i:Nat) (s:AS) (a:Act) (w:World) (E:List Pl) (pb:Nat→Option Nat),(∀j,l[j]? =ops[i+j]?)→St X z s a w E pb→sJ X q ops l s k=some r→
   (∀s' a' w' E' ck,St X z s' a' w' E' ck→Fr X (l.filterMap (·.dst)) s s'→k s'=some r→Q .normal a' w')→wpOps X.P ops Q (List.range' i l.length) a w
 |[],i,s,a,w,E,pb,_,h,hk,hQ=>by simpa [wpOps]using hQ _ _ _ _ _ h (Fr.refl _ _) hk
 |o::l,i,s,a,w,E,pb,hl,h,hk,hQ=>by
  have h0:=hl 0
  simp at h0
  simp only[List.length_cons,List.range'_succ]
  rw[wpOps_cons]
  refine WZ hs h h0.symm hk fun s' a' w' E' ck h' hf hk'=>?_
  refine W2 hs (s0:=s0) l (i+1) s' a' w' E' ck (fun j=>by have:=hl (j+1);simp at this;rw[this];congr 1;omega) h' hk' fun s2 a2 w2 E2 Si h2 zF hk2=>hQ s2 a2 w2 E2 Si h2 ((hf.trans zF).mono ?_) hk2
  intro j hj
  rw[List.filterMap_cons]
  cases hd:o.dst with
  |none=>rw[hd]at hj;simpa using hj
  |some d=>rw[hd]at hj;simpa using hj
theorem ail (hs:cL X) {Rt:List (Nat×Nat)} {Bt:List Nat} (h:St X z s a w E pb) (hI:RI X Rt Bt s) {ops:Array Oper} {i:Nat} {o:Oper} (hR:tY X Rt Bt o) (hi:ops[i]? =some o) {k:AS→Option R} {r:R} (hk:oN X true ops o s k=some r) {K:Act→World→Prop} {Q:Exit→Act→World→Prop}
  (hK:∀s' a' w' E' ck,St X z s' a' w' E' ck→Fr X o.dst.toList s s'→RI X Rt Bt s'→k s'=some r→K a' w'):wpOp X.P ops Q i K a w:=by
 classical
 have e:oN X true ops o s (fun s'=>if RI X Rt Bt s' then k s' else none)=some r:=by
  obtain⟨u,h1,h2,h3⟩:=P7 hR hI hk
  rw[h3 R _ s (fun tag _=>⟨hI,hI,fun _ _ _=>rfl,fun _ _=>rfl,fun _ _=>rfl,fun _ _=>rfl,fun _ _=>BF _⟩),if_pos (h1.ri hI)]
  exact h2
 refine WZ hs h hi e fun s' a' w' E' ck h' hf hk'=>?_
 split at hk'
 ·exact hK s' a' w' E' ck h' hf (by assumption) hk'
 ·cases hk'
theorem agG (hs:cL X) {Rt:List (Nat×Nat)} {Bt:List Nat} {ops:Array Oper} {Q:Exit→Act→World→Prop} {r:R} {k:AS→Option R} {s0:AS} (Qi:∀n o e,ops[n]? =some o→e∈o.after→Region.binds .any e=true→e.on<n)
  (ajS:∀n o m y,ops[n]? =some o→m<n→ops[m]? =some y→(∀S,Down ops S→Lf ops n S→S m)∨xU X Rt Bt ops y o) (QT:∀(n:Nat) (o:Oper),ops[n]? =some o→tY X Rt Bt o)
  (hQ:∀s' a' w' E' ck,St X z s' a' w' E' ck→Fr X (ops.toList.filterMap (·.dst)) s0 s'→k s'=some r→Q .normal a' w'):
  ∀(fuel:Nat) (listed:Array Bool) (s:AS) (a:Act) (w:World) (E:List Pl) (pb:Nat→Option Nat),listed.size=ops.size→(qP listed ops.size).length≤fuel→Down ops (fun i=>listed.getD i true=true)→St X z s a w E pb→RI X Rt Bt s→sJ X true ops (zk ops listed) s k=some r→Fr X (ops.toList.filterMap (·.dst)) s0 s→
   wpAny X.P .any ops Q fuel listed a w:=by
 have hnone:∀(listed:Array Bool),qP listed ops.size=[]→Region.ready .any ops listed=[]:=by
  intro listed h
  unfold Region.ready
  rw[List.filter_eq_nil_iff]
  intro i hi hr
  simp only[Bool.and_eq_true]at hr
  have:i∈qP listed ops.size:=List.mem_filter.2 ⟨hi,hr.1⟩
  rw[h]at this;simp at this
 have hsome:∀(listed:Array Bool),listed.size=ops.size→Region.ready .any ops listed=[]→qP listed ops.size=[]:=by
  intro listed hsz hr
  cases vI:qP listed ops.size with
  |nil=>rfl
  |cons i0 tl=>
   exfalso
   have hm:i0∈qP listed ops.size:=by rw[vI];simp
   obtain⟨h1,h2⟩:=List.mem_filter.1 hm
   have hlt:i0<ops.size:=by simpa using h1
   have ZD:(qP listed ops.size).Pairwise (·<·):=List.Pairwise.filter _ List.pairwise_lt_range
   rw[vI,List.pairwise_cons]at ZD
   have hall:∀j,j<i0→listed.getD j true=true:=by
    intro j hj
    cases hc:listed.getD j true with
    |true=>rfl
    |false=>
     have:j∈qP listed ops.size:=List.mem_filter.2 ⟨by simp;omega,by simp [hc]⟩
     rw[vI]at this
     rcases List.mem_cons.1 this with e|e
     ·omega
     ·have:=ZD.1 j e;omega
   have:i0∈Region.ready .any ops listed:=by
    unfold Region.ready
    refine List.mem_filter.2 ⟨h1,?_⟩
    rw[Bool.and_eq_true]
    refine⟨h2,?_⟩
    rw[Array.getElem?_eq_getElem hlt]
    simp only[Option.map_some,Option.getD_some]
    rw[Array.all_eq_true_iff_forall_mem]
    intro e he
    cases hb:Region.binds .any e with
    |false=>rfl
    |true=>
     have ER:=Qi i0 _ e (Array.getElem?_eq_getElem hlt) he hb
     have:=hall e.on ER
     rw[Array.getD_eq_getD_getElem?,Array.getElem?_eq_getElem (by omega)]at this
     simp only[Option.getD_some]at this
     rw[Array.getD_eq_getD_getElem?,Array.getElem?_eq_getElem (by omega)]
     simp [this]
   rw[hr]at this;simp at this
 intro fuel
 induction fuel with
 |zero=>
  intro listed s a w E pb hsz hle hdn h hI hk hf
  have vI:qP listed ops.size=[]:=List.eq_nil_of_length_eq_zero (by omega)
  refine⟨hnone listed vI,hQ s a w E pb h hf ?_⟩
  simpa [zk,vI,sJ]using hk
 |succ fuel ih=>
  intro listed s a w E pb hsz hle hdn h hI hk hf
  refine⟨fun hr=>hQ s a w E pb h hf (by simpa [zk,hsome listed hsz hr,sJ]using hk),fun i hi=>?_⟩
  unfold Region.ready at hi
  obtain⟨h1,h2⟩:=List.mem_filter.1 hi
  rw[Bool.and_eq_true]at h2
  obtain⟨h2,h3⟩:=h2
  have hlt:i<ops.size:=by simpa using h1
  have hun:listed.getD i true=false:=by simpa using h2
  have ho:ops[i]? =some ops[i]:=Array.getElem?_eq_getElem hlt
  have Yf:Lf ops i (fun j=>listed.getD j true=true):=by
   intro o e ZC he hb
   rw[ZC]at h3
   simp only[Option.map_some,Option.getD_some]at h3
   rw[Array.all_eq_true_iff_forall_mem]at h3
   have h4:=h3 e he
   rw[hb]at h4
   simp only[Bool.not_true,Bool.false_or]at h4
   have ER:=Qi i o e ZC he hb
   rw[Array.getD_eq_getD_getElem?,Array.getElem?_eq_getElem (by omega)]at h4
   simp only[Option.getD_some]at h4
   show listed.getD e.on true=true
   rw[Array.getD_eq_getD_getElem?,Array.getElem?_eq_getElem (by omega)]
   simpa using h4
  obtain⟨l1,l2,e1,e2,e3⟩:=aeO hlt hun hsz
  have vI:zk ops listed=l1.filterMap (ops[·]?)++ops[i]::l2.filterMap (ops[·]?):=by
   unfold zk;rw[e1,List.filterMap_append,List.filterMap_cons,ho]
  have ajU:zk ops (listed.setIfInBounds i true)=l1.filterMap (ops[·]?)++l2.filterMap (ops[·]?):=by
   unfold zk;rw[e2,List.filterMap_append]
  rw[vI]at hk
  have akP:∀y∈l1.filterMap (ops[·]?),tY X Rt Bt y:=by
   intro y hy
   obtain⟨j,hj,RT⟩:=List.mem_filterMap.1 hy
   exact QT j y RT
  have akD:∀y∈l1.filterMap (ops[·]?),xU X Rt Bt ops y ops[i]:=by
   intro y hy
   obtain⟨j,hj,RT⟩:=List.mem_filterMap.1 hy
   obtain⟨j1,j2⟩:=e3 j hj
   rcases ajS i ops[i] j y ho j1 RT with k1|k1
   ·have:=k1 _ hdn Yf
    rw[j2]at this;cases this
   ·exact k1
  have ai7:=U5 (QT i _ ho) _ _ s hI akP akD hk
  refine ail hs h hI (QT i _ ho) ho ai7 fun s' a' w' E' ck h' hf' Hq hk'=>?_
  rw[←ajU]at hk'
  refine ih _ s' a' w' E' ck (by simpa using hsz) ?_ ?_ h' Hq hk' ((hf.trans hf').mono ?_)
  ·rw[e2];rw[e1]at hle;simp at hle ⊢;omega
  ·intro j o e hj RW he hb
   by_cases hji:j=i
   ·subst hji
    have:=Yf o e RW he hb
    show(listed.setIfInBounds j true).getD e.on true=true
    have ER:=Qi j o e RW he hb
    rw[Array.getD_eq_getD_getElem?,Array.getElem?_setIfInBounds_ne (by omega),←Array.getD_eq_getD_getElem?];exact this
   ·have hj':listed.getD j true=true:=by
     replace hj:(listed.setIfInBounds i true).getD j true=true:=hj
     rw[Array.getD_eq_getD_getElem?,Array.getElem?_setIfInBounds_ne (fun e=>hji e.symm),←Array.getD_eq_getD_getElem?]at hj;exact hj
    have:=hdn j o e hj' RW he hb
    show(listed.setIfInBounds i true).getD e.on true=true
    by_cases Zz:e.on=i
    ·rw[Zz];simp [Array.getD,hsz,hlt]
    ·rw[Array.getD_eq_getD_getElem?,Array.getElem?_setIfInBounds_ne (fun e'=>Zz e'.symm),←Array.getD_eq_getD_getElem?];exact this
  ·intro d hd
   rcases List.mem_append.1 hd with hd|hd
   ·exact hd
   ·refine List.mem_filterMap.2 ⟨ops[i],by simp,?_⟩
    cases sO:ops[i].dst with
    |none=>rw[sO]at hd;simp at hd
    |some d'=>rw[sO]at hd;simp at hd;rw[hd]
theorem N0 {t b:Nat}:∀{l:List (Nat×Nat)},l.lookup t=some b→(t,b)∈l
 |[],h=>by cases h
 |(t',b')::l,h=>by
  simp only[List.lookup]at h
  cases hc:(t==t')
  ·rw[hc]at h;exact List.mem_cons_of_mem _ (N0 h)
  ·rw[hc]at h
   simp only[Option.some.injEq]at h
   have:t=t':=by simpa using hc
   subst this;subst h
   exact List.mem_cons_self
theorem ahF (hs:cL X) {ops:Array Oper} {Q:Exit→Act→World→Prop} {r:R} {k:AS→Option R} (hok:FZ X ops s.sl=true) (hA:∀t,s.A t=none) (hQ:∀s' a' w' E' ck,St X z s' a' w' E' ck→Fr X (ops.toList.filterMap (·.dst)) s s'→k s'=some r→Q .normal a' w') {id:Nat}
  (h:St X z s a w E pb) (hk:sJ X true ops ops.toList s k=some r):(Code.region id ops true).wp X.P Q a w:=by
 obtain⟨Rt,Bt,hok⟩:∃Rt Bt,JT X Rt Bt ops s.sl=true:=by
  unfold FZ at hok
  rcases Bool.or_eq_true_iff.1 hok with h|h
  ·exact⟨_,_,h⟩
  ·exact⟨_,_,h⟩
 unfold JT at hok
 simp only[Bool.and_eq_true]at hok
 obtain⟨⟨⟨⟨⟨⟨⟨h1,h2⟩,h3⟩,h4⟩,h5⟩,h6⟩,h7⟩,h8⟩:=hok
 have hI:RI X Rt Bt s:=by
  refine⟨fun t b hl=>?_,fun t p hp=>(by rw[hA t]at hp;cases hp),fun t b hl _=>?_,fun t ht=>List.all_eq_true.1 h8 t (by simpa using ht)⟩
  ·have:=List.all_eq_true.1 h6 (t,b) (N0 hl)
   exact this
  ·have:=List.all_eq_true.1 h5 (t,b) (N0 hl)
   exact this
 have Yi:∀j,ops.toList[j]? =ops[0+j]? :=fun j=>by simp
 have vI:qP (Array.replicate ops.size false) ops.size=List.range ops.size:=by
  unfold qP
  rw[List.filter_eq_self]
  intro i hi
  have:i<ops.size:=by simpa using hi
  simp [Array.getD,this]
 have ajV:zk ops (Array.replicate ops.size false)=ops.toList:=by
  unfold zk
  rw[vI]
  have gen:∀(l pre:List Oper),(List.range' pre.length l.length).filterMap (fun i=>(pre++l)[i]?)=l:=by
   intro l
   induction l with
   |nil=>intro pre;rfl
   |cons x l ih=>
    intro pre
    simp only[List.length_cons,List.range'_succ,List.filterMap_cons]
    rw[List.getElem?_append_right (Nat.le_refl _)]
    simp only[Nat.sub_self,List.getElem?_cons_zero]
    have:=ih (pre++[x])
    simp only[List.length_append,List.length_cons,List.length_nil,Nat.zero_add,List.append_assoc,List.cons_append,List.nil_append]at this
    rw[this]
  have:=gen ops.toList []
  rw[List.range_eq_range']
  simpa using this
 refine wp_region_any h1 (agG (s0:=s) hs (fun n o e ho he hb=>UH ops.toList 0 Yi h2 n o e (Nat.zero_le _) ho he hb) (fun n o m y ho hm hy=>?_) (fun n o ho=>tY.of (List.all_eq_true.1 h4 o (by have:=Array.mem_of_getElem? ho;simpa using this)) (List.all_eq_true.1 h7 o (by have:=Array.mem_of_getElem? ho;simpa using this))) hQ ops.size _ s a _ E pb (by simp) (by rw[vI];simp) ?_ (h.grow (w':=w.drew) ((Below.refl _ _).drew)) hI (by rw[ajV];exact hk) (Fr.refl _ _))
 ·rcases Uk ops.toList 0 Yi h3 n o (Nat.zero_le _) ho m y hm hy with k1|k1
  ·left
   exact fun S hS hD=>Vy ops.toList [] (fun i=>by simp) (fun m j h=>by simp at h) n m k1 S hS hD
  ·exact .inr (afG k1)
 ·intro i o e hi ho he hb
  have hlt:i<ops.size:=(Array.getElem?_eq_some_iff.1 ho).1
  exfalso
  simp [Array.getD,hlt]at hi
theorem St.R7 (h:St X z s a w E pb):St X z ⟨s.sl,fun _=>none,s.σ⟩ a w E pb:=
 ⟨h.len,h.qO,h.slot,h.box,(fun t p hp=>by cases hp),h.priv,h.inj,h.heap,h.defers,h.out,h.nm⟩
def AX.to:AX→Exit
 |.normal=>.normal
 |.exit i=>.exit i
 |.ret=>.ret
theorem I4:∀(ds:List Nat) (sl:List U) (i:Nat),(vi sl ds).length=sl.length∧((vi sl ds)[i]? =sl[i]? ∨(vi sl ds)[i]? =some .undef)∧(i∉ds→(vi sl ds)[i]? =sl[i]?)∧(i∈ds→i<sl.length→(vi sl ds)[i]? =some .undef)
 |[],sl,i=>⟨rfl,.inl rfl,fun _=>rfl,fun h=>by simp at h⟩
 |d::ds,sl,i=>by
  obtain⟨h1,h2,h3,h4⟩:=I4 ds (sl.set d .undef) i
  simp only[vi]
  have qc:(sl.set d .undef)[i]? =if d=i then(if i<sl.length then some .undef else none)else sl[i]? :=by
   rw[List.getElem?_set];by_cases e:d=i
   ·subst e;simp
   ·simp [e]
  have hnone:¬i<sl.length→sl[i]? =none:=fun k=>List.getElem?_eq_none (by omega)
  refine⟨by rw[h1];simp,?_,fun hi=>?_,fun hi hl=>?_⟩
  ·rcases h2 with h2|h2
   ·rw[h2,qc]
    by_cases e:d=i
    ·rw[if_pos e];split
     ·exact .inr rfl
     ·rename_i k;rw[hnone k];exact .inl rfl
    ·rw[if_neg e];exact .inl rfl
   ·exact .inr h2
  ·simp only[List.mem_cons,not_or]at hi
   rw[h3 hi.2,qc,if_neg (fun e=>hi.1 e.symm)]
  ·by_cases hm:i∈ds
   ·exact h4 hm (by simpa using hl)
   ·simp only[List.mem_cons]at hi
    have:i=d:=hi.resolve_right hm
    rw[h3 hm,qc,if_pos this.symm,if_pos hl]
theorem JG (vs:List U):∀(live:List Nat) (j:Nat) (sl:List U) (i:Nat),(Ei vs sl live j).length=sl.length∧(i∉live→(Ei vs sl live j)[i]? =sl[i]?)∧(i∈live→i<sl.length→∃n,n<live.length∧live[n]? =some i∧(Ei vs sl live j)[i]? =some (vs.getD (j+n) .undef))
 |[],j,sl,i=>⟨rfl,fun _=>rfl,fun h=>by simp at h⟩
 |d::live,j,sl,i=>by
  obtain⟨h1,h2,h3⟩:=JG vs live (j+1) (sl.set d (vs.getD j .undef)) i
  simp only[Ei]
  refine⟨by rw[h1];simp,fun hi=>?_,fun hi hl=>?_⟩
  ·simp only[List.mem_cons,not_or]at hi
   rw[h2 hi.2,List.getElem?_set,if_neg (fun e=>hi.1 e.symm)]
  ·by_cases hm:i∈live
   ·obtain⟨n,k1,k2,k3⟩:=h3 hm (by simpa using hl)
    exact⟨n+1,by simp;omega,by simpa using k2,by rw[k3];congr 2;omega⟩
   ·simp only[List.mem_cons]at hi
    have:i=d:=hi.resolve_right hm
    subst this
    exact⟨0,by simp,rfl,by rw[h2 hm,List.getElem?_set];simp [hl]⟩
theorem St.meet {s s':AS} (h:St X z s' a w E pb) {mods live:List Nat} (hl:s.sl.length=s'.sl.length) (hf:∀i,i∉mods→s'.sl[i]? =s.sl[i]?):St X z (s.meet mods live (vals s'.sl live) s'.σ) a w E pb:=by
 have mo:∀i:Nat,(s.meet mods live (vals s'.sl live) s'.σ).sl[i]? =s'.sl[i]? ∨(s.meet mods live (vals s'.sl live) s'.σ).sl[i]? =some U.undef:=by
  intro i
  simp only[AS.meet]
  obtain⟨c1,c2,c3,c4⟩:=I4 mods s.sl i
  obtain⟨m1,m2,m3⟩:=JG (vals s'.sl live) live 0 (vi s.sl mods) i
  by_cases hm:i∈live
  ·by_cases hlt:i<s.sl.length
   ·obtain⟨n,k1,k2,k3⟩:=m3 hm (by rw[c1];exact hlt)
    left
    rw[k3,Nat.zero_add]
    have:(vals s'.sl live).getD n .undef=s'.sl.getD i .undef:=by
     simp only[vals,List.getD,List.getElem?_map,k2];rfl
    rw[this,List.getElem?_eq_getElem (by omega)]
    simp [List.getD,show i<s'.sl.length by omega]
   ·left
    rw[List.getElem?_eq_none (by rw[m1,c1];omega),List.getElem?_eq_none (by omega)]
  ·rw[m2 hm]
   by_cases hd:i∈mods
   ·by_cases hlt:i<s.sl.length
    ·exact .inr (c4 hd hlt)
    ·left;rw[List.getElem?_eq_none (by rw[c1];omega),List.getElem?_eq_none (by omega)]
   ·left;rw[c3 hd,hf i hd]
 have hlen:(s.meet mods live (vals s'.sl live) s'.σ).sl.length=s'.sl.length:=by
  simp only[AS.meet]
  rw[(JG (vals s'.sl live) live 0 (vi s.sl mods) 0).1,(I4 mods s.sl 0).1];exact hl
 refine⟨by rw[h.len,hlen],by rw[hlen,h.qO],fun i av hi=>?_,fun i cs hi=>?_,(fun t p hp=>by cases hp),h.priv,h.inj,h.heap,h.defers,h.out,h.nm⟩
 ·rcases mo i with e|e
  ·rw[e]at hi;exact h.slot i av hi
  ·rw[e]at hi;injection hi with hi;subst hi;trivial
 ·rcases mo i with e|e
  ·rw[e]at hi;exact h.box i cs hi
  ·rw[e]at hi;cases hi
end
end
section
open Go.RowKit
section
variable {X : Fx} {z : Z}
theorem force_eq {R:Type}:∀(l:List U) (k:List U→Option R),force l k=k l
 |[],k=>rfl
 |x::l,k=>by simp only[force];rw[force_eq l]
theorem W3 {R:Type} {q:Bool} {ops:Array Oper}:∀(l:List Oper) (s:AS) (k:AS→Option R),GS X q ops l s k=sJ X q ops l s k
 |[],s,k=>rfl
 |o::l,s,k=>by
  simp only[GS,sJ]
  congr 1;funext s
  rw[force_eq];exact W3 l _ k
theorem UK {α:Type} {c:U} {t e:Option α} {r:α} (h:A.cond c t e=some r):(c=.bool true∧t=some r)∨(c=.bool false∧e=some r):=by
 cases c<;>simp only[A.cond]at h<;>first|(cases h;done)|skip
 rename_i b
 cases b
 ·exact .inr ⟨rfl,h⟩
 ·exact .inl ⟨rfl,h⟩
theorem afJ {f:List U→Heap→Option (AX×List U×Heap)} {v:List U} {σ:Heap} {r:AX×List U×Heap} (h:A.loop f v σ=some r):∃n,A.iter f n v σ=some r:=by
 unfold A.loop at h
 split at h
 ·rename_i hx
  injection h with h
  exact⟨_,h▸Classical.choose_spec (Classical.choose_spec hx)⟩
 ·cases h
theorem aev {R:Type} {f:List U→Heap→(AX×List U×Heap→Option R)→Option R} {v:List U} {σ:Heap} {K:AX×List U×Heap→Option R} {r:R} (h:A.Qq f v σ K=some r):∃n,A.Gp f n v σ K=some r:=by
 unfold A.Qq at h
 split at h
 ·rename_i hx
  injection h with h
  obtain⟨n,hn⟩:=Classical.choose_spec hx
  exact⟨n,h▸hn n (Nat.le_refl _)⟩
 ·cases h
theorem Kh {R:Type} {e:AX} {k:AX→Option R} {r:R}:∀{xs:List AX},A.sel e k xs=some r→k e=some r
 |[],h=>by cases h
 |x::xs,h=>by
  simp only[A.sel]at h
  cases he:(e==x)
  ·rw[he]at h;exact Kh h
  ·rw[he]at h
   have:e=x:=by simpa using he
   subst this;exact h
theorem D3 {X:Fx} {c:Code} {ds:List Nat} {s s':AS} (h:Fr X ds s s'):∀i,i∉ds++X.L→s'.sl[i]? =s.sl[i]? :=fun i hi=>by
 rw[List.mem_append]at hi
 exact h i (fun e=>hi (.inl e)) (by
  cases hc:X.L.contains i
  ·rfl
  ·exact absurd (List.contains_iff_mem.1 hc) (fun e=>hi (.inr e)))
theorem Aq {X:Fx} {s:AS} {ds live:List Nat} {vs:List U} {σ:Heap} (hl:(live.all fun d=>(ds++X.L).contains d)=true):Fr X ds s (s.meet (ds++X.L) live vs σ):=fun i hi hL=>by
 have hni:i∉ds++X.L:=by
  rw[List.mem_append];rintro(e|e)
  ·exact hi e
  ·rw[List.contains_iff_mem.2 e]at hL;cases hL
 simp only[AS.meet]
 rw[(JG vs live 0 (vi s.sl (ds++X.L)) i).2.1 (fun e=>hni ?_),(I4 (ds++X.L) s.sl i).2.2.1 hni]
 exact List.contains_iff_mem.1 (List.all_eq_true.1 hl i e)
theorem TQ {live:List Nat} {e:AX} {s:AS} {r:List U×Heap} (h:KN live e s=some r):e=.normal∧r=(vals s.sl live,s.σ):=by
 cases e<;>simp only[KN]at h<;>first|(cases h;done)|(injection h with h;exact⟨rfl,h.symm⟩)
theorem WN {P:Program} {c:Code} {Q:Exit→Act→World→Prop} (I:Nat→Act→World→Prop) (round:∀n a w,I n a w→c.wp P (Exit.then (fun a' w'=>∃m,m<n∧I m a' w') Q) a w) {n:Nat} {a:Act} {w:World} (h:I n a w):(Code.loop c).wp P Q a w:=by
 intro b k cs
 have key:∀n a w,I n a w→∃e a' w',Q e a' w'∧Arrives P (lone (b.at a (.code c::.inLoop c::k)) cs w) b k cs e a' w':=by
  intro n
  induction n using Nat.strongRecOn with
  |_ n ih=>
   intro a w hI
   obtain⟨e,a1,w1,hq,A3⟩:=round n a w hI b (.inLoop c::k) cs
   cases e with
   |normal=>
    obtain⟨m,hlt,hm⟩:=hq
    obtain⟨e2,a2,w2,xX,ajF⟩:=ih m hlt a1 w1 hm
    exact⟨e2,a2,w2,xX,.of_steps (Steps.trans A3 (.one step_inLoop)) ajF⟩
   |exit id=>exact⟨_,a1,w1,hq,.pass (x:=.inLoop c) rfl (fun _ _=>.inl (by simp)) A3⟩
   |goto l=>exact⟨_,a1,w1,hq,.pass (x:=.inLoop c) rfl (fun _ _=>.inl (by simp)) A3⟩
   |ret=>exact⟨_,a1,w1,hq,.pass (x:=.inLoop c) rfl (fun _ _=>.inl (by simp)) A3⟩
   |panic ch=>exact⟨_,a1,w1,hq,.pass (x:=.inLoop c) rfl (fun _ _=>.inl (by simp)) A3⟩
   |outgrown=>exact⟨_,a1,w1,hq,.pass (x:=.inLoop c) rfl (fun _ _=>.inl (by simp)) A3⟩
 obtain⟨e,a',w',hq,A3⟩:=key n a w h
 exact⟨e,a',w',hq,.of_steps (.one step_loop) A3⟩
theorem xh (hs:cL X):∀(c:Code) {R:Type} (bP:nu) (s:AS) (a:Act) (w:World) (E:List Pl) (pb:Nat→Option Nat) (k:AX→AS→Option R) (r:R) (Q:Exit→Act→World→Prop),exec X bP c s k=some r→St X z s a w E pb→
  (∀e s' a' w' E' ck,St X z s' a' w' E' ck→Fr X (eY c) s s'→k e s'=some r→Q e.to a' w')→c.wp X.P Q a w
 |.skip,R,bP,s,a,w,E,pb,k,r,Q,hk,h,hQ=>by
  have hk':k .normal s=some r:=by cases bP<;>simpa [exec]using hk
  exact wp_skip (hQ .normal s a w E pb h (Fr.refl _ _) hk')
 |.label l,R,bP,s,a,w,E,pb,k,r,Q,hk,h,hQ=>by
  have hk':k .normal s=some r:=by cases bP<;>simpa [exec]using hk
  exact wp_label (hQ .normal s a w E pb h (Fr.refl _ _) hk')
 |.exit id,R,bP,s,a,w,E,pb,k,r,Q,hk,h,hQ=>by
  have hk':k (.exit id) s=some r:=by cases bP<;>simpa [exec]using hk
  exact wp_exit (hQ (.exit id) s a w E pb h (Fr.refl _ _) hk')
 |.ret,R,bP,s,a,w,E,pb,k,r,Q,hk,h,hQ=>by
  have hk':k .ret s=some r:=by cases bP<;>simpa [exec]using hk
  exact wp_ret (hQ .ret s a w E pb h (Fr.refl _ _) hk')
 |.region id ops draw,R,bP,s,a,w,E,pb,k,r,Q,hk,h,hQ=>by
  have hk':(bif draw then(bif FZ X ops s.sl then sJ X true ops ops.toList ⟨s.sl,fun _=>none,s.σ⟩ fun s=>k .normal ⟨s.sl,fun _=>none,s.σ⟩else none)else sJ X false ops ops.toList s fun s=>k .normal ⟨s.sl,fun _=>none,s.σ⟩)=some r:=by
   cases bP<;>simpa [exec,force_eq,W3]using hk
  cases draw
  ·simp only[cond_false]at hk'
   refine wp_region ?_
   have:=W2 (z:=z) (Q:=Q) (s0:=s) hs ops.toList 0 s a w E pb (fun j=>by simp) h hk' (fun s' a' w' E' ck h' hf hk2=>hQ .normal _ a' w' E' ck h'.R7 (fun i hi hL=>hf i (by simpa [eY]using hi) hL) hk2)
   rw[List.range_eq_range']
   simpa using this
  ·simp only[cond_true]at hk'
   cases hok:FZ X ops s.sl
   ·rw[hok]at hk';cases hk'
   ·rw[hok]at hk'
    simp only[cond_true]at hk'
    exact ahF (s:=⟨s.sl,fun _=>none,s.σ⟩) hs hok (fun _=>rfl) (fun s' a' w' E' ck h' hf hk2=>hQ .normal _ a' w' E' ck h'.R7 (fun i hi hL=>hf i (by simpa [eY]using hi) hL) hk2) h.R7 hk'
 |.seq x y,R,bP,s,a,w,E,pb,k,r,Q,hk,h,hQ=>by
  cases bP<;>simp only[exec]at hk<;>first|(cases hk;done)|skip
  rename_i aa bb
  refine wp_seq (xh hs x aa s a w E pb _ r _ hk h fun e s' a' w' E' ck h' hf hk'=>?_)
  cases e with
  |normal=>exact xh hs y bb s' a' w' E' ck k r Q hk' h' fun e2 s2 a2 w2 E2 Si h2 zF hk2=>hQ e2 s2 a2 w2 E2 Si h2 (by simpa [eY]using hf.trans zF) hk2
  |exit i=>exact hQ (.exit i) s' a' w' E' ck h' (hf.mono fun i hi=>by simp [eY,hi]) hk'
  |ret=>exact hQ .ret s' a' w' E' ck h' (hf.mono fun i hi=>by simp [eY,hi]) hk'
 |.cond c x y,R,bP,s,a,w,E,pb,k,r,Q,hk,h,hQ=>by
  have rc:=eW h c
  cases bP<;>simp only[exec,force_eq]at hk<;>first|(cases hk;done)|skip
  case c live aa bb=>
   cases hl:(live.all fun d=>(eY x++eY y++X.L).contains d)
   ·rw[hl]at hk;cases hk
   ·rw[hl]at hk
    simp only[Bool.not_true,cond_false]at hk
    obtain⟨⟨vs,σ'⟩,h1,h2⟩:=Option.bind_eq_some_iff.1 hk
    rcases UK h1 with⟨ec,hb⟩|⟨ec,hb⟩
    ·rw[ec]at rc;simp only[aq]at rc
     refine wp_cond_true rc (xh hs x aa s a w E pb _ _ Q hb h fun e s' a' w' E' ck h' hf hk'=>?_)
     obtain⟨rfl,hv⟩:=TQ hk'
     simp only[Prod.mk.injEq]at hv
     obtain⟨rfl,rfl⟩:=hv
     have zF:Fr X (eY x++eY y) s s':=hf.mono fun i hi=>by simp [hi]
     exact hQ .normal _ a' w' E' ck (h'.meet (by rw[h.qO,h'.qO]) (D3 (c:=x) zF)) (by simpa [eY]using Aq (X:=X) hl) h2
    ·rw[ec]at rc;simp only[aq]at rc
     refine wp_cond_false rc (xh hs y bb s a w E pb _ _ Q hb h fun e s' a' w' E' ck h' hf hk'=>?_)
     obtain⟨rfl,hv⟩:=TQ hk'
     simp only[Prod.mk.injEq]at hv
     obtain⟨rfl,rfl⟩:=hv
     have zF:Fr X (eY x++eY y) s s':=hf.mono fun i hi=>by simp [hi]
     exact hQ .normal _ a' w' E' ck (h'.meet (by rw[h.qO,h'.qO]) (D3 (c:=x) zF)) (by simpa [eY]using Aq (X:=X) hl) h2
  case j aa bb=>
   rcases UK hk with⟨ec,hb⟩|⟨ec,hb⟩
   ·rw[ec]at rc;simp only[aq]at rc
    exact wp_cond_true rc (xh hs x aa s a w E pb k r Q hb h fun e s' a' w' E' ck h' hf hk'=>hQ e s' a' w' E' ck h' (hf.mono fun i hi=>by simp [eY,hi]) hk')
   ·rw[ec]at rc;simp only[aq]at rc
    exact wp_cond_false rc (xh hs y bb s a w E pb k r Q hb h fun e s' a' w' E' ck h' hf hk'=>hQ e s' a' w' E' ck h' (hf.mono fun i hi=>by simp [eY,hi]) hk')
 |.block id c,R,bP,s,a,w,E,pb,k,r,Q,hk,h,hQ=>by
  cases bP<;>simp only[exec]at hk<;>first|(cases hk;done)|skip
  rename_i aa
  refine wp_block (xh hs c aa s a w E pb _ r _ hk h fun e s' a' w' E' ck h' hf hk'=>?_)
  cases e with
  |normal=>exact hQ .normal s' a' w' E' ck h' (by simpa [eY]using hf) hk'
  |ret=>exact hQ .ret s' a' w' E' ck h' (by simpa [eY]using hf) hk'
  |exit i=>
   simp only[AX.to,Exit.inBlock]
   simp only at hk'
   by_cases e:i=id
   ·have:(i==id)=true:=by simpa using e
    rw[this]at hk'
    rw[if_pos e]
    exact hQ .normal s' a' w' E' ck h' (by simpa [eY]using hf) hk'
   ·have:(i==id)=false:=by simpa using e
    rw[this]at hk'
    rw[if_neg e]
    exact hQ (.exit i) s' a' w' E' ck h' (by simpa [eY]using hf) hk'
 |.loop c,R,bP,s,a,w,E,pb,k,r,Q,hk,h,hQ=>by
  cases bP<;>simp only[exec,force_eq]at hk<;>first|(cases hk;done)|skip
  case lc live xs aa=>
   cases hl:(live.all fun d=>(eY c++X.L).contains d)
   ·rw[hl]at hk;cases hk
   ·rw[hl]at hk
    simp only[Bool.not_true,cond_false]at hk
    obtain⟨n,hn⟩:=aev hk
    refine WN (fun n a w=>∃vs σ E pb,A.Gp (fun vs σ K=>exec X aa c (s.meet (eY c++X.L) live vs σ) fun e s'=>K (e,vals s'.sl live,s'.σ)) n vs σ (fun r=>A.sel r.1 (fun e=>k e (s.meet (eY c++X.L) live r.2.1 r.2.2)) xs)=some r∧St X z (s.meet (eY c++X.L) live vs σ) a w E pb) ?_ (n:=n) ⟨_,_,E,pb,hn,h.meet rfl (fun i _=>rfl)⟩
    rintro n a w ⟨vs,σ,E,pb,hit,hst⟩
    cases n with
    |zero=>cases hit
    |succ n=>
     simp only[A.Gp]at hit
     refine xh hs c aa _ a w E pb _ _ _ hit hst fun e s' a' w' E' ck h' hf hk'=>?_
     have hfr:∀i,i∉eY c++X.L→s'.sl[i]? =s.sl[i]? :=fun i hi=>by
      rw[D3 (c:=c) hf i hi]
      exact D3 (c:=c) (Aq (X:=X) (s:=s) (vs:=vs) (σ:=σ) hl) i hi
     have Ck:=h'.meet (s:=s) (mods:=eY c++X.L) (live:=live) (by rw[h.qO,h'.qO]) hfr
     cases e with
     |normal=>exact⟨n,Nat.lt_succ_self n,_,_,E',ck,hk',Ck⟩
     |exit i=>exact hQ (.exit i) _ a' w' E' ck Ck (by simpa [eY]using Aq (X:=X) hl) (Kh hk')
     |ret=>exact hQ .ret _ a' w' E' ck Ck (by simpa [eY]using Aq (X:=X) hl) (Kh hk')
  rename_i live xs aa
  cases hl:(live.all fun d=>(eY c++X.L).contains d)
  ·rw[hl]at hk;cases hk
  ·rw[hl]at hk
   simp only[Bool.not_true,cond_false]at hk
   obtain⟨⟨e0,Bm,ay⟩,h1,h2⟩:=Option.bind_eq_some_iff.1 hk
   have hsel:=Kh h2
   obtain⟨n,hn⟩:=afJ h1
   refine WN (fun n a w=>∃vs σ E pb,A.iter (fun vs σ=>exec X aa c (s.meet (eY c++X.L) live vs σ) (leave live)) n vs σ=some (e0,Bm,ay)∧St X z (s.meet (eY c++X.L) live vs σ) a w E pb) ?_ (n:=n) ⟨_,_,E,pb,hn,h.meet rfl (fun i _=>rfl)⟩
   rintro n a w ⟨vs,σ,E,pb,hit,hst⟩
   cases n with
   |zero=>cases hit
   |succ n=>
    simp only[A.iter]at hit
    obtain⟨⟨e1,vs1,σ1⟩,g1,g2⟩:=Option.bind_eq_some_iff.1 hit
    refine xh hs c aa _ a w E pb _ _ _ g1 hst fun e s' a' w' E' ck h' hf hk'=>?_
    simp only[leave,Option.some.injEq,Prod.mk.injEq]at hk'
    obtain⟨rfl,rfl,rfl⟩:=hk'
    have hfr:∀i,i∉eY c++X.L→s'.sl[i]? =s.sl[i]? :=fun i hi=>by
     rw[D3 (c:=c) hf i hi]
     exact D3 (c:=c) (Aq (X:=X) (s:=s) (vs:=vs) (σ:=σ) hl) i hi
    have Ck:=h'.meet (s:=s) (mods:=eY c++X.L) (live:=live) (by rw[h.qO,h'.qO]) hfr
    cases e with
    |normal=>exact⟨n,Nat.lt_succ_self n,_,_,E',ck,g2,Ck⟩
    |exit i=>
     simp only[Option.some.injEq,Prod.mk.injEq]at g2
     obtain⟨rfl,rfl,rfl⟩:=g2
     exact hQ (.exit i) _ a' w' E' ck Ck (by simpa [eY]using Aq (X:=X) hl) hsel
    |ret=>
     simp only[Option.some.injEq,Prod.mk.injEq]at g2
     obtain⟨rfl,rfl,rfl⟩:=g2
     exact hQ .ret _ a' w' E' ck Ck (by simpa [eY]using Aq (X:=X) hl) hsel
 |.rangeFunc ..,R,bP,s,a,w,E,pb,k,r,Q,hk,h,hQ=>by cases bP<;>simp [exec]at hk
 |.scope _,R,bP,s,a,w,E,pb,k,r,Q,hk,h,hQ=>by cases bP<;>simp [exec]at hk
 |.goto _,R,bP,s,a,w,E,pb,k,r,Q,hk,h,hQ=>by cases bP<;>simp [exec]at hk
 |.refuse _,R,bP,s,a,w,E,pb,k,r,Q,hk,h,hQ=>by cases bP<;>simp [exec]at hk
end
end
section
open Go.RowKit
section
variable {X : Fx} {z : Z} {s : AS} {a : Act} {w w' : World} {E : List Pl} {pb : Nat → Option Nat}
def zm (tmps:Array Value):ResultVar→Sem Value
 |.tmp t=>pure (tmps.getD t undef)
 |.cell a t=>do loadVar t (←asAddr (tmps.getD a undef))
theorem O0 (h:St X z s a w E pb) {R:Type}:∀(rs:List ResultVar) (k:List U→Option R) (r:R),zl X s rs k=some r→∃vs nV,(rs.mapM (zm a.tmps)).run X.P w=.ok vs w∧aQ (ctx z w E pb) nV vs∧k nV=some r
 |[],k,r,hk=>⟨[],[],by simp,by simp [aQ],hk⟩
 |.tmp t::rs,k,r,hk=>by
  simp only[zl]at hk
  obtain⟨vs,nV,h1,h2,h3⟩:=O0 h rs _ r hk
  refine⟨a.tmps.getD t undef::vs,ev X s (.tmp t)::nV,?_,by simp only[aQ];exact⟨_,_,rfl,eW h (.tmp t),h2⟩,h3⟩
  simp only[List.mapM_cons,Sem.run_bind,zm,Sem.run_pure,Result.andThen_ok,h1]
 |.cell q t::rs,k,r,hk=>by
  simp only[zl]at hk
  have fin:∀(v:Value) (av:U),(zm a.tmps (.cell q t)).run X.P w=.ok v w→aq (ctx z w E pb) av v→zl X s rs (fun vs=>k (av::vs))=some r→∃vs nV,((ResultVar.cell q t::rs).mapM (zm a.tmps)).run X.P w=.ok vs w∧aQ (ctx z w E pb) nV vs∧k nV=some r:=by
   intro v av hv hr hk
   obtain⟨vs,nV,h1,h2,h3⟩:=O0 h rs _ r hk
   refine⟨v::vs,av::nV,?_,by simp only[aQ];exact⟨_,_,rfl,hr,h2⟩,h3⟩
   simp only[List.mapM_cons,Sem.run_bind,hv,Sem.run_pure,Result.andThen_ok,h1]
  split at hk
  ·rename_i b off hp
   obtain⟨av,e1,e2⟩:=Option.bind_eq_some_iff.1 hk
   obtain⟨cs,e3,e4⟩:=Option.bind_eq_some_iff.1 e1
   obtain⟨n,k1,k2,k3,k4⟩:=DR h (tag:=none) trivial hp e3
   obtain⟨v,j1,j2⟩:=JB (c:=ctx z w E pb) w X rfl k3.2 e4
   rw[Nat.zero_add]at j1
   simp only[Act.eval]at k2
   exact fin v av (by simp [zm,k2,asAddr,j1]) j2 e2
  ·obtain⟨av,e1,e2⟩:=Option.bind_eq_some_iff.1 hk
   obtain⟨cs,e3,e4⟩:=Option.bind_eq_some_iff.1 e1
   obtain⟨b,off,k2,k3⟩:=UL h.heap e3 (eW h (.tmp q))
   obtain⟨v,j1,j2⟩:=JB (c:=ctx z w E pb) w X rfl k3 e4
   rw[Nat.add_zero]at j1
   simp only[Act.eval]at k2
   exact fin v av (by simp [zm,k2,asAddr,j1]) j2 e2
theorem adG {P:Program} {fn:Func} {tmps:Array Value} {vs:List Value} (h:(fn.results.toList.mapM (zm tmps)).run P w=.ok vs w):∃v,(results fn tmps).run P w=.ok v w∧∀(c:RC) (nV:List U),aQ c nV vs→aq c (one nV) v:=by
 have e:results fn tmps=(do let vs ←fn.results.mapM (zm tmps);pure (if h:vs.size=1 then vs[0]else .tuple vs)):=by
  unfold results
  congr 1
 have hm:(fn.results.mapM (zm tmps)).run P w=.ok vs.toArray w:=by
  rw[Array.mapM_eq_mapM_toList,Sem.run_map,h];rfl
 have hrun:(results fn tmps).run P w=.ok (if h:vs.toArray.size=1 then vs.toArray[0]else .tuple vs.toArray) w:=by
  rw[e,Sem.run_bind,hm];rfl
 refine⟨_,hrun,fun c nV r=>?_⟩
 match nV,vs,r with
 |[x],[v],r=>simp only[aQ]at r;obtain⟨v',_,e',r1,rfl⟩:=r;injection e' with e1 _;subst e1;simpa [one]using r1
 |[],[],r=>simp only[one,aq];exact⟨#[],by simp,by simp [aQ]⟩
 |x::y::xs,v::u::us,r=>simp only[one,aq];exact⟨(v::u::us).toArray,by simp,by simpa using r⟩
 |[_],_::_::_,r=>exact absurd r.length (by simp)
 |_::_::_,[_],r=>exact absurd r.length (by simp)
 |[],_::_,r=>exact absurd r.length (by simp)
 |_::_,[],r=>exact absurd r.length (by simp)
end
section
variable {c c' : RC} {σ : Heap} {n : Nat}
structure yT (c c' : RC) (σ : Heap) (n : Nat) : Prop where
 w:c'.w=c.w
 nm:c'.nm=c.nm
 X:∀b,c'.X b→c.X b
 E:∀(id:Nat) (p:Pl),id<n→c.E[id]? =some p→c'.E[id]? =some p
 heap:iF c σ
 Lg:∀(id:Nat) (p:Pl),n≤id→c.E[id]? =some p→¬c'.X p.b
theorem VS (d:Nat):∀(l l':List U),A.fE σ n d l=some l'→l'.length=l.length
 |[],l',e=>by simp only[A.fE]at e;injection e with e;subst e;rfl
 |x::l,l',e=>by
  simp only[A.fE]at e
  obtain⟨y,h1,h2⟩:=Option.bind_eq_some_iff.1 e
  obtain⟨l2,h3,rfl⟩:=Option.map_eq_some_iff.1 h2
  simp [VS d l l2 h3]
theorem Oj (d:Nat):∀(l l':List (List U)),A.lG σ n d l=some l'→l'.length=l.length
 |[],l',e=>by simp only[A.lG]at e;injection e with e;subst e;rfl
 |x::l,l',e=>by
  simp only[A.lG]at e
  obtain⟨y,h1,h2⟩:=Option.bind_eq_some_iff.1 e
  obtain⟨l2,h3,rfl⟩:=Option.map_eq_some_iff.1 h2
  simp [Oj d l l2 h3]
theorem BG (d:Nat):∀(l:List (List U)),A.Gf σ n d l=A.lG σ n d l
 |[]=>by simp [A.lG,A.Gf]
 |x::l=>by simp [A.lG,A.Gf,BG d l]
def El:U→Bool
 |.os ..=>true
 |.op ..=>true
 |.oe ..=>true
 |.om ..=>true
 |_=>false
theorem D4 (d:Nat):∀(l:List U),A.sB σ n d l=A.fE σ n d l
 |[]=>by simp [A.fE,A.sB]
 |x::l=>by simp [A.fE,A.sB,D4 d l]
theorem Po (d:Nat):∀(l:List (U×U)),A.tF σ n d l=A.xM σ n d l
 |[]=>by simp [A.xM,A.tF]
 |(k,v)::l=>by simp [A.xM,A.tF,Po d l]
mutual
theorem D5 (h:yT c c' σ n) (d:Nat) (hos:∀av dm v,El av=true→A.bT σ n d av=some dm→aq c av v→aq c' dm v):∀(av dm:U) (v:Value),A.bT σ n d av=some dm→aq c av v→aq c' dm v
 |.undef,dm,v,e,r=>by cases d<;>simp [A.bT]at e
 |.int k m,dm,v,e,r=>by
  have:dm=.int k m:=by cases d<;>simpa [A.bT]using e.symm
  subst this;simpa [aq]using r
 |.bool b,dm,v,e,r=>by
  have:dm=.bool b:=by cases d<;>simpa [A.bT]using e.symm
  subst this;simpa [aq]using r
 |.str s,dm,v,e,r=>by
  have:dm=.str s:=by cases d<;>simpa [A.bT]using e.symm
  subst this;simpa [aq]using r
 |.aH,dm,v,e,r=>by
  have:dm=.aH:=by cases d<;>simpa [A.bT]using e.symm
  subst this;simpa [aq]using r
 |.ez,dm,v,e,r=>by
  have:dm=.ez:=by cases d<;>simpa [A.bT]using e.symm
  subst this;simpa [aq]using r
 |.np,dm,v,e,r=>by
  have:dm=.np:=by cases d<;>simpa [A.bT]using e.symm
  subst this;simpa [aq]using r
 |.nm,dm,v,e,r=>by
  have:dm=.nm:=by cases d<;>simpa [A.bT]using e.symm
  subst this;simpa [aq]using r
 |.xZ,dm,v,e,r=>by
  have:dm=.xZ:=by cases d<;>simpa [A.bT]using e.symm
  subst this;simpa [aq]using r
 |.agg cs,dm,v,e,r=>by
  have e':(A.fE σ n d cs).map .agg=some dm:=by cases d<;>simpa [A.bT]using e
  obtain⟨cs',h1,rfl⟩:=Option.map_eq_some_iff.1 e'
  simp only[aq]at r ⊢
  obtain⟨vs,e,r1,r2⟩:=r
  exact⟨vs,e,DS h d hos cs cs' _ h1 r1,r2⟩
 |.aL cs,dm,v,e,r=>by
  have e':(A.fE σ n d cs).map .aL=some dm:=by cases d<;>simpa [A.bT]using e
  obtain⟨cs',h1,rfl⟩:=Option.map_eq_some_iff.1 e'
  simp only[aq]at r ⊢
  obtain⟨vs,e,r1⟩:=r
  exact⟨vs,e,DS h d hos cs cs' _ h1 r1⟩
 |.sl sz es,dm,v,e,r=>by
  have e':(A.lG σ n d es).map (.sl sz)=some dm:=by cases d<;>simpa [A.bT]using e
  obtain⟨es',h1,rfl⟩:=Option.map_eq_some_iff.1 e'
  simp only[aq]at r ⊢
  obtain⟨q,cap,e,k1,k2,r⟩:=r
  have hl:es'.length=es.length:=Oj d es es' h1
  refine⟨q,cap,by rw[hl];exact e,by rw[hl];exact k1,k2,?_⟩
  rcases r with r|⟨b,off,e2,hb,hx,r⟩
  ·left;subst r;simpa using hl
  ·right;exact⟨b,off,e2,by rw[h.w];exact hb,fun k=>hx (h.X b k),ON h d hos sz b es es' off h1 r⟩
 |.rp cs,dm,v,e,r=>by
  have e':(A.fE σ n d cs).map .rp=some dm:=by cases d<;>simpa [A.bT]using e
  obtain⟨cs',h1,rfl⟩:=Option.map_eq_some_iff.1 e'
  simp only[aq]at r ⊢
  obtain⟨b,off,e2,hb,hx,r⟩:=r
  exact⟨b,off,e2,by rw[h.w];exact hb,fun k=>hx (h.X b k),FR h d hos b cs cs' off h1 r⟩
 |.fm es,dm,v,e,r=>by
  have e':(A.xM σ n d es).map .fm=some dm:=by cases d<;>simpa [A.bT]using e
  obtain⟨es',h1,rfl⟩:=Option.map_eq_some_iff.1 e'
  simp only[aq]at r ⊢
  obtain⟨b,e2,hb,hx,bD,clock,k1,kw,k2⟩:=r
  exact⟨b,e2,by rw[h.w];exact hb,fun k=>hx (h.X b k),bD,clock,by rw[h.w];exact k1,kw,OO h d hos es es' _ h1 k2⟩
 |.op id off,dm,v,e,r=>hos _ dm v rfl e r
 |.oe id g i off,dm,v,e,r=>hos _ dm v rfl e r
 |.om id,dm,v,e,r=>hos _ dm v rfl e r
 |.fn f cs,dm,v,e,r=>by
  have e':(A.fE σ n d cs).map (.fn f)=some dm:=by cases d<;>simpa [A.bT]using e
  obtain⟨cs',h1,rfl⟩:=Option.map_eq_some_iff.1 e'
  simp only[aq]at r ⊢
  obtain⟨g,vs,e,k,r1⟩:=r
  exact⟨g,vs,e,by rw[h.nm];exact k,DS h d hos cs cs' _ h1 r1⟩
 |.lbx cs,dm,v,e,r=>by cases d<;>simp [A.bT]at e
 |.os id g sz off len,dm,v,e,r=>hos _ dm v rfl e r
theorem DS (h:yT c c' σ n) (d:Nat) (hos:∀av dm v,El av=true→A.bT σ n d av=some dm→aq c av v→aq c' dm v):∀(l l':List U) (vs:List Value),A.fE σ n d l=some l'→aQ c l vs→aQ c' l' vs
 |[],l',vs,e,r=>by simp only[A.fE]at e;injection e with e;subst e;simpa [aQ]using r
 |x::l,l',vs,e,r=>by
  simp only[A.fE]at e
  obtain⟨y,h1,h2⟩:=Option.bind_eq_some_iff.1 e
  obtain⟨l2,h3,rfl⟩:=Option.map_eq_some_iff.1 h2
  simp only[aQ]at r ⊢
  obtain⟨v,vs',e,r1,r2⟩:=r
  exact⟨v,vs',e,D5 h d hos x y v h1 r1,DS h d hos l l2 vs' h3 r2⟩
theorem OO (h:yT c c' σ n) (d:Nat) (hos:∀av dm v,El av=true→A.bT σ n d av=some dm→aq c av v→aq c' dm v):∀(l l':List (U×U)) (es:List MapEntry),A.xM σ n d l=some l'→dh c l es→dh c' l' es
 |[],l',es,e,r=>by simp only[A.xM]at e;injection e with e;subst e;simpa [dh]using r
 |(k,v)::l,l',es,e,r=>by
  simp only[A.xM]at e
  obtain⟨k',h1,h2⟩:=Option.bind_eq_some_iff.1 e
  obtain⟨v',h3,h4⟩:=Option.bind_eq_some_iff.1 h2
  obtain⟨l2,h5,rfl⟩:=Option.map_eq_some_iff.1 h4
  simp only[dh]at r ⊢
  obtain⟨x,es',e,r1,r2,r3⟩:=r
  exact⟨x,es',e,D5 h d hos k k' _ h1 r1,D5 h d hos v v' _ h3 r2,OO h d hos l l2 es' h5 r3⟩
theorem FR (h:yT c c' σ n) (d:Nat) (hos:∀av dm v,El av=true→A.bT σ n d av=some dm→aq c av v→aq c' dm v) (b:Nat):∀(l l':List U) (off:Nat),A.fE σ n d l=some l'→bE c b off l→bE c' b off l'
 |[],l',off,e,r=>by simp only[A.fE]at e;injection e with e;subst e;simp [bE]
 |x::l,l',off,e,r=>by
  simp only[A.fE]at e
  obtain⟨y,h1,h2⟩:=Option.bind_eq_some_iff.1 e
  obtain⟨l2,h3,rfl⟩:=Option.map_eq_some_iff.1 h2
  simp only[bE]at r ⊢
  obtain⟨⟨v,e1,e2,r1⟩,r2⟩:=r
  exact⟨⟨v,by rw[h.w];exact e1,e2,D5 h d hos x y v h1 r1⟩,FR h d hos b l l2 (off+1) h3 r2⟩
theorem ON (h:yT c c' σ n) (d:Nat) (hos:∀av dm v,El av=true→A.bT σ n d av=some dm→aq c av v→aq c' dm v) (sz b:Nat):∀(l l':List (List U)) (off:Nat),A.lG σ n d l=some l'→bM c sz b off l→bM c' sz b off l'
 |[],l',off,e,r=>by simp only[A.lG]at e;injection e with e;subst e;simp [bM]
 |x::l,l',off,e,r=>by
  simp only[A.lG]at e
  obtain⟨y,h1,h2⟩:=Option.bind_eq_some_iff.1 e
  obtain⟨l2,h3,rfl⟩:=Option.map_eq_some_iff.1 h2
  simp only[bM]at r ⊢
  exact⟨by rw[VS d x y h1];exact r.1,FR h d hos b x y off h1 r.2.1,ON h d hos sz b l l2 (off+sz) h3 r.2.2⟩
end
structure xT (c0 c c' : RC) : Prop where
 w:c'.w=c.w
 nm:c'.nm=c.nm
 X:∀b,c'.X b→c.X b
 E:∀(id:Nat) (p0 p:Pl),c0.E[id]? =some p0→c.E[id]? =some p→c'.E[id]? =some p
mutual
theorem D1 {c0 c c':RC} (h:xT c0 c c'):∀(av:U) (v0 v:Value),aq c0 av v0→aq c av v→aq c' av v
 |.undef,v0,v,r0,r=>by simp [aq]
 |.int k m,v0,v,r0,r=>by simpa [aq]using r
 |.bool b,v0,v,r0,r=>by simpa [aq]using r
 |.str s,v0,v,r0,r=>by simpa [aq]using r
 |.aH,v0,v,r0,r=>by simpa [aq]using r
 |.ez,v0,v,r0,r=>by simpa [aq]using r
 |.np,v0,v,r0,r=>by simpa [aq]using r
 |.nm,v0,v,r0,r=>by simpa [aq]using r
 |.fm es,v0,v,r0,r=>by
  simp only[aq]at r0 r ⊢
  obtain⟨_,_,_,_,_,_,_,_,r0⟩:=r0
  obtain⟨b,e,hb,hx,bD,clock,k1,kw,k2⟩:=r
  exact⟨b,e,by rw[h.w];exact hb,fun k=>hx (h.X b k),bD,clock,by rw[h.w];exact k1,kw,JZ h es _ _ r0 k2⟩
 |.xZ,v0,v,r0,r=>by simpa [aq]using r
 |.agg cs,v0,v,r0,r=>by
  simp only[aq]at r0 r ⊢
  obtain⟨Bm,_,CW,_⟩:=r0
  obtain⟨vs,e,r1,r2⟩:=r
  exact⟨vs,e,JY h cs _ _ CW r1,r2⟩
 |.aL cs,v0,v,r0,r=>by
  simp only[aq]at r0 r ⊢
  obtain⟨Bm,_,CW⟩:=r0
  obtain⟨vs,e,r1⟩:=r
  exact⟨vs,e,JY h cs _ _ CW r1⟩
 |.sl sz es,v0,v,r0,r=>by
  simp only[aq]at r0 r ⊢
  obtain⟨_,_,_,_,_,r0⟩:=r0
  obtain⟨q,cap,e,k1,k2,r⟩:=r
  refine⟨q,cap,e,k1,k2,?_⟩
  rcases r with r|⟨b,off,e2,hb,hx,r⟩
  ·exact .inl r
  ·rcases r0 with r0|⟨b0,pN,_,_,_,r0⟩
   ·exact .inl r0
   ·exact .inr ⟨b,off,e2,by rw[h.w];exact hb,fun k=>hx (h.X b k),JX h sz b0 b es pN off r0 r⟩
 |.rp cs,v0,v,r0,r=>by
  simp only[aq]at r0 r ⊢
  obtain⟨b0,pN,_,_,_,r0⟩:=r0
  obtain⟨b,off,e2,hb,hx,r⟩:=r
  exact⟨b,off,e2,by rw[h.w];exact hb,fun k=>hx (h.X b k),FQ h b0 b cs pN off r0 r⟩
 |.op id off,v0,v,r0,r=>by
  simp only[aq]at r0 r ⊢
  obtain⟨p0,e0,_⟩:=r0
  obtain⟨p,e1,e2,e3⟩:=r
  exact⟨p,h.E id p0 p e0 e1,e2,e3⟩
 |.oe id g i off,v0,v,r0,r=>by
  simp only[aq]at r0 r ⊢
  obtain⟨_,p0,e0,_⟩:=r0
  obtain⟨hg,p,e1,e2⟩:=r
  exact⟨hg,p,h.E id p0 p e0 e1,e2⟩
 |.os id g sz off len,v0,v,r0,r=>by
  simp only[aq]at r0 r ⊢
  obtain⟨_,p0,e0,_⟩:=r0
  obtain⟨hg,p,e1,e2⟩:=r
  exact⟨hg,p,h.E id p0 p e0 e1,e2⟩
 |.om id,v0,v,r0,r=>by
  simp only[aq]at r0 r ⊢
  obtain⟨p0,e0,_⟩:=r0
  obtain⟨p,e1,e2,e3⟩:=r
  exact⟨p,h.E id p0 p e0 e1,e2,e3⟩
 |.fn f cs,v0,v,r0,r=>by
  simp only[aq]at r0 r ⊢
  obtain⟨_,_,_,_,r0⟩:=r0
  obtain⟨g,vs,e1,e2,r⟩:=r
  exact⟨g,vs,e1,by rw[h.nm];exact e2,JY h cs _ _ r0 r⟩
 |.lbx cs,v0,v,r0,r=>by simp [aq]at r
theorem JY {c0 c c':RC} (h:xT c0 c c'):∀(l:List U) (Bm vs:List Value),aQ c0 l Bm→aQ c l vs→aQ c' l vs
 |[],Bm,vs,r0,r=>by simpa [aQ]using r
 |x::l,Bm,vs,r0,r=>by
  simp only[aQ]at r0 r ⊢
  obtain⟨v0,us0,_,CW,Sj⟩:=r0
  obtain⟨v,us,e,r1,r2⟩:=r
  exact⟨v,us,e,D1 h x _ _ CW r1,JY h l _ _ Sj r2⟩
theorem JZ {c0 c c':RC} (h:xT c0 c c'):∀(l:List (U×U)) (qm es:List MapEntry),dh c0 l qm→dh c l es→dh c' l es
 |[],qm,es,r0,r=>by simpa [dh]using r
 |(k,v)::l,qm,es,r0,r=>by
  simp only[dh]at r0 r ⊢
  obtain⟨e0,aku,_,k1,k2,k3⟩:=r0
  obtain⟨e,es',e1,j1,j2,j3⟩:=r
  exact⟨e,es',e1,D1 h k _ _ k1 j1,D1 h v _ _ k2 j2,JZ h l aku es' k3 j3⟩
theorem FQ {c0 c c':RC} (h:xT c0 c c') (b0 b:Nat):∀(l:List U) (pN off:Nat),bE c0 b0 pN l→bE c b off l→bE c' b off l
 |[],pN,off,r0,r=>by simp [bE]
 |x::l,pN,off,r0,r=>by
  simp only[bE]at r0 r ⊢
  obtain⟨⟨v0,_,_,CW⟩,Sj⟩:=r0
  obtain⟨⟨v,e1,e2,r1⟩,r2⟩:=r
  exact⟨⟨v,by rw[h.w];exact e1,e2,D1 h x _ _ CW r1⟩,FQ h b0 b l _ _ Sj r2⟩
theorem JX {c0 c c':RC} (h:xT c0 c c') (sz b0 b:Nat):∀(l:List (List U)) (pN off:Nat),bM c0 sz b0 pN l→bM c sz b off l→bM c' sz b off l
 |[],pN,off,r0,r=>by simp [bM]
 |x::l,pN,off,r0,r=>by
  simp only[bM]at r0 r ⊢
  exact⟨r.1,FQ h b0 b x _ _ r0.2.1 r.2.1,JX h sz b0 b l _ _ r0.2.2 r.2.2⟩
end
theorem OI {c0 c c':RC} (h:xT c0 c c') {p0 p:Pl} {x:aV} (k0:rC c0 p0 x) (k:rC c p x):rC c' p x:=by
 cases x with
 |box cs=>
  obtain⟨h1,⟨⟨arr,t,h2,h3⟩,h4⟩⟩:=k
  exact⟨h1,⟨arr,t,by rw[h.w];exact h2,h3⟩,FQ h _ _ cs _ _ k0.2.2 h4⟩
 |arr g sz es=>
  obtain⟨h1,h2,h3,h4,⟨arr,t,h5,h6⟩,h7,h8,h9⟩:=k
  obtain⟨_,_,_,_,_,_,k8,_⟩:=k0
  exact⟨h1,h2,h3,h4,⟨arr,t,by rw[h.w];exact h5,h6⟩,h7,JX h sz _ _ es _ _ k8 h8,fun arr t fz e=>h9 arr t fz (by rw[←h.w];exact e)⟩
 |qN g sz es=>
  obtain⟨h1,h2,h3,h4,⟨arr,t,h5,h6⟩,h7,h8,h9⟩:=k
  obtain⟨_,_,_,_,_,_,k8,_⟩:=k0
  exact⟨h1,h2,h3,h4,⟨arr,t,by rw[h.w];exact h5,h6⟩,h7,JX h sz _ _ es _ _ k8 h8,fun arr t fz e=>h9 arr t fz (by rw[←h.w];exact e)⟩
 |map es=>
  obtain⟨h1,bD,clock,h2,hw,h3⟩:=k
  obtain⟨_,_,_,_,_,k3⟩:=k0
  exact⟨h1,bD,clock,by rw[h.w];exact h2,hw,JZ h es _ _ k3 h3⟩
 |it cur left=>
  obtain⟨h1,h2⟩:=k
  obtain⟨_,k2⟩:=k0
  refine⟨h1,?_⟩
  rcases h2 with⟨h2,h2',since,seen,last,h3⟩|⟨m,seen,bD,clock,h3,h4,h5,h6,h7,h8,h9⟩
  ·exact .inl ⟨h2,h2',since,seen,last,by rw[h.w];exact h3⟩
  ·rcases k2 with⟨q1,q2,_⟩|⟨m0,alv,aln,ali,q3,q4,q5,q6,q7,q8,q9⟩
   ·refine .inr ⟨m,seen,bD,clock,by rw[h.w];exact h3,by rw[h.w];exact h4,fun k=>h5 (h.X m k),by rw[h.w];exact h6,h7,by rw[q2]at h8 ⊢;exact h8,.inl q1⟩
   ·refine .inr ⟨m,seen,bD,clock,by rw[h.w];exact h3,by rw[h.w];exact h4,fun k=>h5 (h.X m k),by rw[h.w];exact h6,h7,JZ h left _ _ q8 h8,?_⟩
    rcases h9 with h9|⟨kk,v,e,e1,e2,e3,e4,e5⟩
    ·exact .inl h9
    ·rcases q9 with q9|⟨kk',v',e',f1,f2,f3,f4,f5⟩
     ·exact .inl q9
     ·rw[e1]at f1
      simp only[List.cons.injEq,Prod.mk.injEq,and_true]at f1
      obtain⟨rfl,rfl⟩:=f1
      exact .inr ⟨_,_,e,e1,e2,e3,D1 h _ _ _ f4 e4,D1 h _ _ _ f5 e5⟩
def akw:aV→Nat
 |.arr g _ _=>g
 |.qN g _ _=>g
 |_=>0
theorem Pb {c:RC} {p:Pl} {x:aV} (k:rC c p x):p.g=akw x:=by cases x<;>exact k.1
theorem Wz {c0 c c':RC} (h:xT c0 c c') (sz b:Nat):∀(l:List (List U)) (off:Nat),(∀y∈l,∃b0 o0,bE c0 b0 o0 y)→bM c sz b off l→bM c' sz b off l
 |[],off,h0,r=>by simp [bM]
 |x::l,off,h0,r=>by
  simp only[bM]at r ⊢
  obtain⟨b0,o0,k⟩:=h0 x (by simp)
  exact⟨r.1,FQ h b0 b x _ _ k r.2.1,Wz h sz b l _ (fun y hy=>h0 y (by simp [hy])) r.2.2⟩
theorem Wc {c:RC}:∀{args:List U} {vs:List Value},aQ c args vs→∀y∈A.rowsOf args,∃b0 o0,bE c b0 o0 y
 |[],_,_,y,hy=>by simp [A.rowsOf]at hy
 |a::args,vs,h,y,hy=>by
  simp only[aQ]at h
  obtain⟨v,vs',rfl,h1,h2⟩:=h
  simp only[A.rowsOf,List.mem_append]at hy
  rcases hy with hy|hy
  ·cases a<;>simp only[List.not_mem_nil]at hy
   rename_i sz es
   simp only[aq]at h1
   obtain⟨a,cap,rfl,_,_,h3⟩:=h1
   rcases h3 with h3|⟨b,off,_,_,_,h4⟩
   ·rw[h3]at hy;cases hy
   ·obtain⟨i,hi⟩:=List.mem_iff_getElem?.1 hy
    exact⟨_,_,(bM.nth h4 hi).2⟩
  ·exact Wc h2 y hy
theorem Am (h:yT c c' σ n):∀(d:Nat) (av dm:U) (v:Value),A.bT σ n d av=some dm→aq c av v→aq c' dm v
 |0=>D5 h 0 (fun av dm v ho e r=>by cases av<;>first|(simp [A.bT]at e;done)|(simp [El]at ho;done))
 |d+1=>D5 h (d+1) (fun av dm v ho e r=>match av,ho,e,r with
  |.op id off,_,e,r=>by
   simp only[A.bT]at e
   simp only[aq]at r
   obtain⟨p,h1,h2,rfl⟩:=r
   split at e
   ·rename_i hlt
    injection e with e;subst e
    simp only[aq]
    exact⟨p,h.E id p hlt h1,h2,rfl⟩
   ·rename_i hge
    split at e
    ·rename_i cs hs
     obtain⟨cs',e1,rfl⟩:=Option.map_eq_some_iff.1 e
     rw[D4]at e1
     obtain⟨j1,⟨⟨arr,t,j2,j3⟩,j4⟩⟩:=h.heap.blk id p _ h1 hs
     simp only[aq]
     refine⟨p.b,off,rfl,by rw[h.w];exact(Array.getElem?_eq_some_iff.1 j2).1,h.Lg id p (by omega) h1,?_⟩
     have j5:=j4.drop off
     rw[Nat.zero_add]at j5
     exact FR h d (fun av dm v _ e r=>Am h d _ _ _ e r) p.b _ cs' _ e1 j5
    ·cases e
  |.oe id g i off,_,e,r=>by
   simp only[A.bT]at e
   simp only[aq]at r
   obtain⟨hg,p,h1,h2,a,rfl,h3⟩:=r
   split at e
   ·rename_i hlt
    injection e with e;subst e
    simp only[aq]
    exact⟨hg,p,h.E id p hlt h1,h2,a,rfl,h3⟩
   ·rename_i hge
    split at e
    ·rename_i g' sz' es hs
     split at e
     ·rename_i hc
      subst hc
      split at e
      ·rename_i el hel
       obtain⟨cs',e1,rfl⟩:=Option.map_eq_some_iff.1 e
       rw[D4]at e1
       obtain⟨j1,j2,j3,j4,⟨arr,bt,j5,j6⟩,j7,j8,j9⟩:=h.heap.blk id p _ h1 hs
       have ha:=h3 j1.symm
       subst ha
       simp only[aq]
       refine⟨p.b,_,rfl,by rw[h.w];exact(Array.getElem?_eq_some_iff.1 j5).1,h.Lg id p (by omega) h1,?_⟩
       rw[j3]
       have j9:=(j8.nth hel).2.drop off
       exact FR h d (fun av dm v _ e r=>Am h d _ _ _ e r) p.b _ cs' _ e1 j9
      ·cases e
     ·cases e
    ·cases e
  |.om id,_,e,r=>by
   simp only[A.bT]at e
   simp only[aq]at r
   obtain⟨p,h1,h2,rfl⟩:=r
   split at e
   ·rename_i hlt
    injection e with e;subst e
    simp only[aq]
    exact⟨p,h.E id p hlt h1,h2,rfl⟩
   ·rename_i hge
    split at e
    ·rename_i es hs
     obtain⟨es',e1,rfl⟩:=Option.map_eq_some_iff.1 e
     rw[Po]at e1
     obtain⟨j1,bD,clock,j2,jw,j3⟩:=h.heap.blk id p _ h1 hs
     simp only[aq]
     exact⟨p.b,rfl,by rw[h.w];exact(Array.getElem?_eq_some_iff.1 j2).1,h.Lg id p (by omega) h1,bD,clock,by rw[h.w];exact j2,jw,OO h d (fun av dm v _ e r=>Am h d _ _ _ e r) _ es' _ e1 j3⟩
    ·cases e
  |.os id g sz off len,_,e,r=>by
   simp only[A.bT]at e
   simp only[aq]at r
   obtain⟨hg,p,h1,h2,q,cap,rfl,h3,r⟩:=r
   split at e
   ·rename_i hlt
    injection e with e;subst e
    simp only[aq]
    exact⟨hg,p,h.E id p hlt h1,h2,q,cap,rfl,h3,r⟩
   ·rename_i hge
    split at e
    ·rename_i g' sz' es hs
     split at e
     ·rename_i hc
      obtain⟨rfl,rfl,hle⟩:=hc
      obtain⟨es',e1,rfl⟩:=Option.map_eq_some_iff.1 e
      rw[BG]at e1
      obtain⟨j1,j2,j3,j4,⟨arr,bt,j5,j6⟩,j7,j8,j9⟩:=h.heap.blk id p _ h1 hs
      obtain⟨k1,k2,k3⟩:=r j1.symm
      have hl:=Oj d _ _ e1
      have vW:((es.drop off).take len).length=len:=by simp;omega
      simp only[aq]
      refine⟨some q,cap,by rw[hl,vW],by rw[hl,vW];exact h3,j4,?_⟩
      by_cases hz:len=0
      ·left;apply List.eq_nil_of_length_eq_zero;rw[hl,vW,hz]
      ·right
       have hq:q=⟨p.b,p.base+off*p.sz,none⟩:=by
        rcases k2 with k2|k2
        ·omega
        ·exact k2
       refine⟨p.b,p.base+off*p.sz,by rw[hq],by rw[h.w];exact(Array.getElem?_eq_some_iff.1 j5).1,h.Lg id p (by omega) h1,?_⟩
       refine ON h d (fun av dm v _ e r=>Am h d _ _ _ e r) sz p.b _ es' _ e1 ?_
       rw[j3]
       exact(j8.drop off).take len
     ·cases e
    ·cases e)
end
section
variable {X : Fx}
def qM.Ok:qM→Prop
 |.N g=>∀c a v,aq c a v→aq c (g a) v
 |_=>True
theorem BA (hs:cL X) {f:FuncId} {fn:Func} {keep:qM} (hkeep:keep.Ok) {bP:nu} {args:List U} {σ σ':Heap} {r:U} (hf:X.P.funcs[f]? =some fn) (ajG:∀cS w,(callFunc f cS).run X.P w=.ok (.enter f cS) w)
  (hr:qQ X keep bP fn args σ=some (r,σ')):pe X.P X.nm f args σ r σ':=by
 refine .inl ⟨f,ajG,fun z vs hnm hlt hh ha=>?_⟩
 unfold qQ at hr
 cases hb:fn.body with
 |none=>rw[hb]at hr;cases hr
 |some c=>
  rw[hb]at hr
  simp only at hr
  cases hc:(Nat.ble args.length fn.ntmps&&X.n==fn.ntmps)
  ·rw[hc]at hr;cases hr
  ·rw[hc]at hr
   simp only[Bool.not_true,cond_false]at hr
   simp only[Bool.and_eq_true,beq_iff_eq]at hc
   obtain⟨hc1,sN⟩:=hc
   have hle:args.length≤fn.ntmps:=Nat.le_of_ble_eq_true hc1
   have hal:=ha.length
   have alz:args.length=vs.size:=by simpa using hal
   have hst:St X z ⟨args++List.replicate (fn.ntmps-args.length) (.aL []),fun _=>none,σ⟩ {tmps:=vs++Array.replicate (fn.ntmps-vs.size) undef,defers:=[]} z.w z.E dF:=by
    have Yk:∀i av,(args++List.replicate (fn.ntmps-args.length) (.aL []))[i]? =some av→aq (ctx z z.w z.E dF) av ((vs++Array.replicate (fn.ntmps-vs.size) undef).getD i undef):=by
     intro i av hi
     by_cases hlt':i<args.length
     ·rw[List.getElem?_append_left hlt']at hi
      obtain⟨v,k1,k2⟩:=ha.nth hi
      have:(vs++Array.replicate (fn.ntmps-vs.size) undef).getD i undef=v:=by
       rw[Array.getD_eq_getD_getElem?,Array.getElem?_append_left (by omega),←Array.getElem?_toList,k1];rfl
      rw[this];exact k2
     ·rw[List.getElem?_append_right (by omega)]at hi
      have hm:=List.mem_of_getElem? hi
      rw[List.mem_replicate]at hm
      rw[hm.2]
      have:(vs++Array.replicate (fn.ntmps-vs.size) undef).getD i undef=undef:=by
       rw[Array.getD_eq_getD_getElem?,Array.getElem?_append_right (by omega),Array.getElem?_replicate]
       split<;>rfl
      rw[this]
      simp only[aq];exact⟨#[],rfl,by simp [aQ]⟩
    refine⟨by simp;omega,by simp;omega,fun i av hi=>Slot.of (Yk i av hi),fun i cs hi=>?_,(fun t p hp=>by cases hp),(fun i b hb=>by cases hb),(fun i j b hb=>by cases hb),hh,rfl,?_,hnm.symm⟩
    ·have:=Yk i _ hi;simp [aq]at this
    ·exact⟨rfl,rfl,rfl,Nat.le_refl _,fun _ _ _=>rfl,fun i p hp=>.inr ⟨p,hp,rfl⟩,fun i p hp=>⟨p,hp,.inl rfl⟩,hlt,fun p hp=>hh.lt hp⟩
   refine calls_of_wp hf hb (xh hs c bP _ _ _ _ _ _ _ _ hr hst fun e s' a' w' E' ck h' _ hk=>?_)
   have hno:Ext (ctx z w' E' ck) (ctx z w' E' dF):=Ext.same rfl rfl (fun b k=>by
    rcases k with k|k|⟨i,k⟩
    ·exact .inl k
    ·exact .inr (.inl k)
    ·cases k) rfl
   have YF:∀(x:U) (v:Value) (r:U) (σ':Heap),aq (ctx z w' E' ck) x v→A.fin σ x s'.σ=some (r,σ')→∃mq,Out z w' mq∧iF (ctx z w' mq dF) σ'∧aq (ctx z w' mq dF) r v:=by
     intro x v r σ' rv k3
     unfold A.fin at k3
     split at k3
     ·rename_i he
      simp only[Option.some.injEq,Prod.mk.injEq]at k3
      obtain⟨rfl,rfl⟩:=k3
      exact⟨E',h'.out,by rw[←he];exact h'.heap.mono hno rfl (fun p hp=>rfl),aq.mono hno _ _ rv⟩
     ·split at k3
      ·rename_i he
       obtain⟨r',k6,k7⟩:=Option.map_eq_some_iff.1 k3
       simp only[Prod.mk.injEq]at k7
       obtain⟨rfl,rfl⟩:=k7
       have hlen:=h'.heap.len
       simp only[ctx]at hlen
       have hzl:z.E.length=σ.length:=hh.len
       have hle2:σ.length≤s'.σ.length:=by
        have:=congrArg List.length he
        simp at this;omega
       have zK:∀(id:Nat) (p:Pl),id<σ.length→E'[id]? =some p→(E'.take σ.length)[id]? =some p:=fun id p hlt' hp=>by rw[List.getElem?_take_of_lt hlt'];exact hp
       have vJ:∀(id:Nat) (p:Pl),(E'.take σ.length)[id]? =some p→id<σ.length∧E'[id]? =some p:=fun id p hp=>by
        rw[List.getElem?_take]at hp
        split at hp
        ·exact⟨by assumption,hp⟩
        ·cases hp
       have xG:yT (ctx z w' E' ck) (ctx z w' (E'.take σ.length) dF) s'.σ σ.length:=by
        refine⟨rfl,rfl,fun b k=>?_,zK,h'.heap,fun id p hge hp k=>?_⟩
        ·rcases k with k|⟨p,hp,k⟩|⟨i,k⟩
         ·exact .inl k
         ·exact .inr (.inl ⟨p,List.mem_of_mem_take hp,k⟩)
         ·cases k
        ·rcases k with k|⟨q,hq,k⟩|⟨i,k⟩
         ·have hb:=hlt _ k
          rcases h'.out.fresh' id p hp with e|⟨q,hq,_⟩
          ·omega
          ·rw[List.getElem?_eq_none (by omega)]at hq;cases hq
         ·obtain⟨j,hj,rfl⟩:=List.mem_iff_getElem.1 hq
          obtain⟨h1,h2⟩:=vJ j _ (List.getElem?_eq_getElem hj)
          have:=h'.heap.inj j id _ p h2 hp k
          omega
         ·cases k
       have heq:∀(id:Nat),id<σ.length→σ[id]? =s'.σ[id]? :=fun id hlt'=>by
        have h1:(List.take σ.length s'.σ)[id]? =s'.σ[id]? :=List.getElem?_take_of_lt hlt'
        rw[he]at h1;exact h1
       have held:xT (ctx z z.w z.E dF) (ctx z w' E' ck) (ctx z w' (E'.take σ.length) dF):=
        ⟨rfl,rfl,xG.X,fun id p0 p e0 e1=>zK id p (by have:=(List.getElem?_eq_some_iff.1 e0).1;simp only[ctx]at this;omega) e1⟩
       refine⟨E'.take σ.length,?_,?_,Am xG 8 _ _ _ k6 rv⟩
       ·have o:=h'.out
        exact⟨o.os,o.tape,o.output,o.size,o.stay,fun i p hp=>o.fresh' i p (vJ i p hp).2,fun i p hp=>by
         obtain⟨p',m1,m2⟩:=o.env i p hp
         exact⟨p',zK i p' (by have:=(List.getElem?_eq_some_iff.1 hp).1;omega) m1,m2⟩,o.lt,o.mine⟩
       ·refine⟨by simp only[ctx,List.length_take];omega,fun i j p q hp hq e=>h'.heap.inj i j p q (vJ i p hp).2 (vJ j q hq).2 e,fun i p x hp hx=>?_⟩
        obtain⟨hi,hp2⟩:=vJ i p hp
        have fK:z.E[i]? =some z.E[i]:=List.getElem?_eq_getElem (by omega)
        exact OI held (hh.blk i _ x fK hx) (h'.heap.blk i p x hp2 (by rw[←heq i hi];exact hx))
      ·cases k3
   have done:∀(hk:zl X s' fn.results.toList (fun vs=>keep.run args σ (one vs) s'.σ)=some (r,σ')),
     a'.defers=[]∧∃v,(results fn a'.tmps).run X.P w'=.ok v w'∧∃v' E',Ending.returned v=.returned v'∧Out z w' E'∧iF (ctx z w' E' dF) σ'∧aq (ctx z w' E' dF) r v':=by
    intro hk
    refine⟨h'.defers,?_⟩
    obtain⟨us,nV,k1,k2,k3⟩:=O0 h' _ _ _ hk
    obtain⟨v,k4,k5⟩:=adG k1
    have rv:=k5 _ _ k2
    refine⟨v,k4,v,?_⟩
    have kept:∃E',Ending.returned v=.returned v∧Out z w' E'∧iF (ctx z w' E' dF) s'.σ∧aq (ctx z w' E' dF) (one nV) v:=
     ⟨E',rfl,h'.out,h'.heap.mono hno rfl (fun p hp=>rfl),aq.mono hno _ _ rv⟩
    cases keep with
    |K=>
     simp only[qM.run,Option.some.injEq,Prod.mk.injEq]at k3
     obtain⟨rfl,rfl⟩:=k3
     exact kept
    |F=>
     obtain⟨mq,q1,q2,q3⟩:=YF _ _ _ _ rv k3
     exact⟨mq,rfl,q1,q2,q3⟩
    |N g=>
     simp only[qM.run]at k3
     obtain⟨⟨r0,ay⟩,k6,k7⟩:=Option.map_eq_some_iff.1 k3
     simp only[Prod.mk.injEq]at k7
     obtain⟨rfl,rfl⟩:=k7
     obtain⟨mq,q1,q2,q3⟩:=YF _ _ _ _ rv k6
     exact⟨mq,rfl,q1,q2,hkeep _ _ _ q3⟩
    |R=>
     simp only[qM.run]at k3
     obtain⟨x,hx⟩:∃x,x=one nV:=⟨_,rfl⟩
     rw[←hx]at rv k3 kept
     unfold A.renew at k3
     split at k3
     ·rename_i id g sz off len
      split at k3
      ·rename_i g' sz' es hs'
       split at k3
       ·rename_i hc
        obtain⟨rfl,rfl,hle,alF⟩:=hc
        simp only[aq]at rv
        obtain⟨hg,p,e1,e2,qa,cp,rfl,hcap,rx⟩:=rv
        obtain⟨j1,j2,j3,j4,⟨arr,bt,j5,j6⟩,j7,j8,j9⟩:=h'.heap.blk id p _ e1 hs'
        obtain⟨q1,q2,q3⟩:=rx j1.symm
        have hid:id<E'.length:=(List.getElem?_eq_some_iff.1 e1).1
        have qo:((es.drop off).take len).length=len:=by simp;omega
        have hmul:(off+len)*sz≤es.length*sz:=Nat.mul_le_mul_right _ hle
        rw[Nat.add_mul]at hmul
        split at k3
        ·simp only[Option.some.injEq,Prod.mk.injEq]at k3
         obtain⟨rfl,rfl⟩:=k3
         have qp:=h'.move (id:=id) (p:=p) (p':=⟨p.b,p.base+off*sz,A.gen args+1,sz,p.qY⟩) (w':=w') (blk:=.arr (A.gen args+1) sz ((es.drop off).take len)) e1
          ⟨by omega,by show p.g<A.gen args+1;omega⟩ rfl rfl rfl (Nat.le_refl _) (fun b _ _=>rfl) (.inl rfl) (fun hx=>by
           refine⟨rfl,by show 0<A.gen args+1;omega,rfl,j4,⟨arr,bt,j5,j6⟩,?_,?_,j9⟩
           ·rw[qo];show p.base+off*sz+len*sz≤p.qY;omega
           ·exact bM.mono hx sz p.b rfl _ _ ((j8.drop off).take len))
         have akH:Ext (ctx z w' (E'.set id ⟨p.b,p.base+off*sz,A.gen args+1,sz,p.qY⟩) ck) (ctx z w' (E'.set id ⟨p.b,p.base+off*sz,A.gen args+1,sz,p.qY⟩) dF):=Ext.same rfl rfl (fun b k=>by
          rcases k with k|k|⟨i,k⟩
          ·exact .inl k
          ·exact .inr (.inl k)
          ·cases k) rfl
         refine⟨_,rfl,qp.1.out,qp.1.heap.mono akH rfl (fun p hp=>rfl),?_⟩
         simp only[aq]
         refine⟨by omega,⟨p.b,p.base+off*sz,A.gen args+1,sz,p.qY⟩,by simp [ctx,hid],Nat.le_refl _,qa,cp,rfl,hcap,fun _=>⟨rfl,?_,?_⟩⟩
         ·rcases q2 with q2|q2
          ·exact .inl q2
          ·exact .inr (by rw[q2,q1];simp)
         ·simp only[Nat.zero_add]
          rw[q1,Nat.add_mul]at q3;omega
        ·unfold A.merge at k3
         split at k3
         ·rename_i kH g0 Rh pN Q9 rest _ _ _
          split at k3
          ·rename_i g1 zS zB hs0
           split at k3
           ·rename_i Gk
            obtain⟨alD,alr,rfl,hg1,hsame,hF,akQ⟩:=Gk
            simp only[Option.some.injEq,Prod.mk.injEq]at k3
            obtain⟨rfl,rfl⟩:=k3
            have hzl:z.E.length=σ.length:=hh.len
            have hEl:E'.length=s'.σ.length:=h'.heap.len
            have akC:kH<σ.length:=(List.getElem?_eq_some_iff.1 hs0).1
            obtain⟨pz,ES⟩:∃pz,z.E[kH]? =some pz:=⟨_,List.getElem?_eq_getElem (by omega)⟩
            obtain⟨y1,y2,y3,y4,y5,y6,y7,y8⟩:=hh.blk kH pz _ ES hs0
            obtain⟨p'',vG⟩:∃p'':Pl,p''=⟨p.b,p.base+off*zS,A.gen (.os kH g0 Rh pN Q9::rest)+1,zS,p.qY⟩:=⟨_,rfl⟩
            have hne:id≠kH:=by omega
            have Yh:∀(j:Nat) (q p2:Pl),j≠kH→z.E[j]? =some q→E'[j]? =some p2→p2=q:=by
             intro j q p2 hj hq hp2
             have hjl:j<σ.length:=by rw[←hzl];exact(List.getElem?_eq_some_iff.1 hq).1
             obtain⟨p3,m1,m2⟩:=h'.out.env j q hq
             rw[hp2]at m1;injection m1 with m1;subst m1
             rcases m2 with m2|⟨m2,m3⟩
             ·exact m2
             ·have hsj:=hsame j hjl hj
              have hx0:σ[j]? =some σ[j]:=List.getElem?_eq_getElem hjl
              have u1:=Pb (hh.blk j q _ hq hx0)
              have u2:=Pb (h'.heap.blk j p2 _ hp2 (by rw[hsj];exact hx0))
              omega
            have CO:∃p0,E'[kH]? =some p0:=⟨_,List.getElem?_eq_getElem (by omega)⟩
            obtain⟨p0,CO⟩:=CO
            have alH:p0.g=g1:=Pb (h'.heap.blk kH p0 _ CO hF)
            have hfr:z.w.heap.size≤p.b:=by
             rcases h'.out.fresh' id p e1 with k|⟨q,hq,_⟩
             ·exact k
             ·rw[List.getElem?_eq_none (by omega)]at hq;cases hq
            have hm:p∈E':=List.mem_of_getElem? e1
            have hx:Ext (ctx z w' E' ck) (ctx z w' (E'.set kH p'') dF):=by
             refine⟨Nat.le_refl _,fun b hb hn=>⟨rfl,?_⟩,fun j q hq=>?_,rfl⟩
             ·rintro(k|⟨q,hq,k⟩|⟨i,k⟩)
              ·exact hn (.inl k)
              ·rcases List.mem_or_eq_of_mem_set hq with hq|hq
               ·exact hn (.inr (.inl ⟨q,hq,k⟩))
               ·exact hn (.inr (.inl ⟨p,hm,by rw[←k,hq,vG]⟩))
              ·cases k
             ·by_cases e:kH=j
              ·subst e
               simp only[ctx]at hq
               rw[CO]at hq;injection hq with hq;subst hq
               exact⟨p'',by simp only[ctx];rw[List.getElem?_set_self (List.getElem?_eq_some_iff.1 CO).1],.inr ⟨by omega,by rw[vG];show p0.g<A.gen (.os kH g0 Rh pN Q9::rest)+1;omega⟩⟩
              ·exact⟨q,by simp only[ctx]at hq ⊢;rw[List.getElem?_set_ne e];exact hq,.inl rfl⟩
            have Ho:∀(j:Nat) (q:Pl),(z.E.set kH p'')[j]? =some q→(j=kH∧q=p'')∨(j≠kH∧z.E[j]? =some q):=fun j q hq=>by
             by_cases e:kH=j
             ·subst e;rw[List.getElem?_set_self (List.getElem?_eq_some_iff.1 ES).1]at hq;injection hq with hq;exact .inl ⟨rfl,hq.symm⟩
             ·rw[List.getElem?_set_ne e]at hq;exact .inr ⟨fun e'=>e e'.symm,hq⟩
            have Zt:∀(j:Nat) (q:Pl),j≠kH→z.E[j]? =some q→E'[j]? =some q:=fun j q hj hq=>by
             have hjl:j<z.E.length:=(List.getElem?_eq_some_iff.1 hq).1
             obtain⟨p3,m1,_⟩:=h'.out.env j q hq
             rw[m1,Yh j q p3 hj hq m1]
            have held:xT (ctx z z.w z.E dF) (ctx z w' (E'.set kH p'') dF) (ctx z w' (z.E.set kH p'') dF):=by
             refine⟨rfl,rfl,fun b k=>?_,fun j q0 q RY hq=>?_⟩
             ·rcases k with k|⟨q,hq,k⟩|⟨i,k⟩
              ·exact .inl k
              ·obtain⟨j,hj⟩:=List.mem_iff_getElem?.1 hq
               rcases Ho j q hj with⟨e3,e4⟩|⟨e3,e4⟩
               ·subst e3;exact .inr (.inl ⟨q,List.mem_of_getElem? (i:=j) (by rw[List.getElem?_set_self (List.getElem?_eq_some_iff.1 CO).1,e4]),k⟩)
               ·exact .inr (.inl ⟨q,List.mem_of_getElem? (i:=j) (by rw[List.getElem?_set_ne (fun e=>e3 e.symm)];exact Zt j q e3 e4),k⟩)
              ·cases k
             ·simp only[ctx]at RY hq ⊢
              by_cases e:kH=j
              ·subst e
               rw[List.getElem?_set_self (List.getElem?_eq_some_iff.1 CO).1]at hq
               rw[List.getElem?_set_self (List.getElem?_eq_some_iff.1 ES).1];exact hq
              ·rw[List.getElem?_set_ne e]at hq ⊢
               rw[Yh j q0 q (fun e'=>e e'.symm) RY hq];exact RY
            refine⟨z.E.set kH p'',rfl,?_,?_,?_⟩
            ·have o:=h'.out
             refine⟨o.os,o.tape,o.output,o.size,o.stay,fun j q hq=>?_,fun j q hq=>?_,o.lt,o.mine⟩
             ·rcases Ho j q hq with⟨e3,e4⟩|⟨e3,e4⟩
              ·left;rw[e4,vG];exact hfr
              ·exact .inr ⟨q,e4,rfl⟩
             ·by_cases e:kH=j
              ·subst e
               rw[ES]at hq;injection hq with hq;subst hq
               exact⟨p'',List.getElem?_set_self (List.getElem?_eq_some_iff.1 ES).1,.inr ⟨by omega,by rw[vG];show pz.g<A.gen (.os kH g0 Rh pN Q9::rest)+1;omega⟩⟩
              ·exact⟨q,by rw[List.getElem?_set_ne e];exact hq,.inl rfl⟩
            ·refine⟨by simp [ctx,hzl],fun i j q r hq hr he=>?_,fun i q x hq dY=>?_⟩
             ·have YJ:∀(j:Nat) (q:Pl),z.E[j]? =some q→q.b<z.w.heap.size:=fun j q hq=>hh.lt (p:=q) (List.mem_of_getElem? hq)
              rcases Ho i q hq with⟨e3,e4⟩|⟨e3,e4⟩<;>rcases Ho j r hr with⟨e5,e6⟩|⟨e5,e6⟩
              ·rw[e3,e5]
              ·have:=YJ j r e6;rw[e4,vG]at he;simp only at he;omega
              ·have:=YJ i q e4;rw[e6,vG]at he;simp only at he;omega
              ·exact hh.inj i j q r e4 e6 he
             ·rcases Ho i q hq with⟨e3,e4⟩|⟨e3,e4⟩
              ·subst e3
               rw[List.getElem?_set_self akC]at dY
               injection dY with dY
               subst dY;subst e4;subst vG
               refine⟨rfl,Nat.succ_pos _,rfl,j4,⟨arr,bt,j5,j6⟩,?_,?_,j9⟩
               ·rw[qo];show p.base+off*zS+len*zS≤p.qY;omega
               ·refine Wz held zS p.b _ _ (fun y hy=>?_) (bM.mono hx zS p.b rfl _ _ ((j8.drop off).take len))
                rcases akQ y hy with k|k
                ·obtain⟨i,hi⟩:=List.mem_iff_getElem?.1 k
                 exact⟨_,_,(bM.nth y7 hi).2⟩
                ·exact Wc ha y k
              ·rw[List.getElem?_set_ne (fun e=>e3 e.symm)]at dY
               have hil:i<σ.length:=(List.getElem?_eq_some_iff.1 dY).1
               exact OI held (hh.blk i q x e4 dY) ((h'.heap.blk i q x (Zt i q e3 e4) (by rw[hsame i hil e3];exact dY)).mono hx rfl)
            ·simp only[aq]
             refine⟨Nat.succ_pos _,p'',by simp only[ctx];exact List.getElem?_set_self (List.getElem?_eq_some_iff.1 ES).1,by rw[vG];exact Nat.le_refl _,qa,cp,by rw[qo],by rw[qo];exact hcap,fun _=>⟨by rw[vG],?_,?_⟩⟩
             ·rcases q2 with q2|q2
              ·exact .inl q2
              ·exact .inr (by rw[q2,q1,vG];simp)
             ·rw[vG]
              simp only[Nat.zero_add]
              rw[q1,Nat.add_mul]at q3;omega
           ·cases k3
          ·cases k3
         ·cases k3
       ·cases k3
      ·cases k3
     ·simp only[Option.some.injEq,Prod.mk.injEq]at k3
      obtain⟨rfl,rfl⟩:=k3
      exact kept
     ·simp only[Option.some.injEq,Prod.mk.injEq]at k3
      obtain⟨rfl,rfl⟩:=k3
      exact kept
     ·simp only[Option.some.injEq,Prod.mk.injEq]at k3
      obtain⟨rfl,rfl⟩:=k3
      exact kept
     ·cases k3
   cases e with
   |normal=>exact done hk
   |ret=>exact done hk
   |exit i=>cases hk
end
end
section
open Go.RowKit
inductive Sh where
 |k
 |s (sz:Nat)
 |e (sz:Nat) (l:List Sh)
 |a (l:List Sh)
 |t (l:List Sh)
namespace A
mutual
def nn:Sh→U→U
 |.k,v=>v
 |.s sz,v=>match v with|.aH=>.sl sz []|.ez=>.sl sz []|v=>v
 |.e sz l,v=>match v with|.aH=>.sl sz []|.ez=>.sl sz []|.sl sz' es=>.sl sz' (es.map (bY l))|v=>v
 |.a l,v=>match v with|.agg cs=>.agg (bY l cs)|v=>v
 |.t l,v=>match v with|.aL vs=>.aL (bY l vs)|v=>v
def bY:List Sh→List U→List U
 |[],vs=>vs
 |s::ss,vs=>match vs with|[]=>[]|v::vs=>nn s v::bY ss vs
end
def vK:U→Bool
 |.os ..=>true
 |.op ..=>true
 |.oe ..=>true
 |.om ..=>true
 |_=>false
def own:U→Bool
 |.agg cs=>cs.any vK
 |v=>vK v
def pL:U→Bool
 |.int ..=>true
 |.bool ..=>true
 |.str ..=>true
 |.np=>true
 |.aH=>true
 |.ez=>true
 |.nm=>true
 |.xZ=>true
 |.sl _ []=>true
 |_=>false
def tH:U→Bool
 |.agg cs=>cs.all pL
 |v=>pL v
def xP:U→Bool
 |.aL vs=>vs.all tH
 |v=>tH v
def fresh (v:U):Bool:=match v with
 |.os ..=>true
 |.om _=>true
 |v=>tH v
def xy:U→Bool
 |.aL vs=>vs.all fresh
 |v=>fresh v
def vo:aV→Bool
 |.box cs=>cs.all pL
 |.arr _ _ es=>es.all fun e=>e.all pL
 |.map es=>es.all fun p=>tH p.1&&tH p.2
 |_=>false
def shift (n:Nat) (v:U):U:=match v with
 |.os id g sz off len=>.os (id+n) g sz off len
 |.om id=>.om (id+n)
 |v=>v
def vr (n:Nat):U→U
 |.aL vs=>.aL (vs.map (shift n))
 |v=>shift n v
noncomputable def wrap (ro:Bool) (cB:List Sh) (eo:Sh) (r:List U→Heap→Option (U×Heap)) (args:List U) (σ:Heap):Option (U×Heap):=
 bif ro&&args.any own then
  (fE σ 0 8 args).bind fun args=>(r (bY cB args) []).bind fun q=>bif xy (nn eo q.1)&&q.2.all vo then some (vr σ.length (nn eo q.1),σ++q.2)else none
 else(r (bY cB args) σ).map fun q=>(nn eo q.1,q.2)
noncomputable def ij (sh:Sh) (m:List U→Heap→Option (U×Heap)) (args:List U) (σ:Heap):Option (U×Heap):=(m args σ).bind fun p=>(fin σ p.1 p.2).map fun q=>(nn sh q.1,q.2)
noncomputable def BS (m:List U→Heap→Option (U×Heap)) (args:List U) (σ:Heap):Option (U×Heap):=match args with
 |[.sl _ []]=>some (.ez,σ)
 |[.aH]=>some (.ez,σ)
 |[.ez]=>some (.ez,σ)
 |[.os _ _ _ _ 0]=>some (.ez,σ)
 |_=>m args σ
end A
def Sound (P:Program) (nm:List Nat) (f:FuncId) (m:List U→Heap→Option (U×Heap)):Prop:=∀args σ r σ',m args σ=some (r,σ')→pe P nm f args σ r σ'
section
variable {P : Program} {nm : List Nat} {f : FuncId} {c c' : RC}
theorem XB {v:Value} (sz:Nat) (hsz:0<sz) (h:aq c .aH v):aq c (.sl sz []) v:=by
 simp only[aq]at h ⊢
 subst h
 exact⟨none,0,rfl,Nat.le_refl _,hsz,.inl trivial⟩
theorem Ya {v:Value} (sz:Nat) (hsz:0<sz) (h:aq c .ez v):aq c (.sl sz []) v:=by
 simp only[aq]at h ⊢
 obtain⟨a,rfl⟩:=h
 exact⟨a,0,rfl,Nat.le_refl _,hsz,.inl trivial⟩
mutual
def Sh.ok:Sh→Bool
 |.k=>true
 |.s sz=>Nat.blt 0 sz
 |.e sz l=>Nat.blt 0 sz&&Sh.cH l
 |.a l=>Sh.cH l
 |.t l=>Sh.cH l
def Sh.cH:List Sh→Bool
 |[]=>true
 |x::l=>x.ok&&Sh.cH l
end
theorem WT:∀(l:List Sh) (cs:List U),(A.bY l cs).length=cs.length
 |[],cs=>by simp [A.bY]
 |_::_,[]=>by simp [A.bY]
 |o::l,v::cs=>by simp [A.bY,WT l cs]
mutual
theorem Eh:∀(s:Sh) (a:U) (v:Value),s.ok=true→aq c a v→aq c (A.nn s a) v
 |.k,a,v,_,h=>by simpa [A.nn]using h
 |.s sz,a,v,ho,h=>by
  cases a<;>simp only[A.nn]<;>first|exact h|exact XB sz (by simpa [Sh.ok]using ho) h|exact Ya sz (by simpa [Sh.ok]using ho) h
 |.e sz l,a,v,ho,h=>by
  simp only[Sh.ok,Bool.and_eq_true]at ho
  cases a<;>simp only[A.nn]<;>first|exact h|exact XB sz (by simpa using ho.1) h|exact Ya sz (by simpa using ho.1) h|skip
  simp only[aq]at h ⊢
  obtain⟨a,cap,e,h1,h2,h3⟩:=h
  refine⟨a,cap,by rw[List.length_map];exact e,by rw[List.length_map];exact h1,h2,?_⟩
  rcases h3 with h3|⟨b,off,e1,e2,e3,e4⟩
  ·left;rw[h3];rfl
  ·right;exact⟨b,off,e1,e2,e3,Xz l ho.2 _ _ e4⟩
 |.a l,a,v,ho,h=>by
  simp only[Sh.ok]at ho
  cases a<;>simp only[A.nn]<;>first|exact h|skip
  simp only[aq]at h ⊢
  obtain⟨vs,e,h1,h2⟩:=h
  exact⟨vs,e,F9 l _ _ ho h1,h2⟩
 |.t ss,a,v,ho,h=>by
  simp only[Sh.ok]at ho
  cases a<;>simp only[A.nn]<;>first|exact h|skip
  simp only[aq]at h ⊢
  obtain⟨vs,e,h1⟩:=h
  exact⟨vs,e,F9 ss _ _ ho h1⟩
theorem F9:∀(ss:List Sh) (l:List U) (vs:List Value),Sh.cH ss=true→aQ c l vs→aQ c (A.bY ss l) vs
 |[],l,vs,_,h=>by simpa [A.bY]using h
 |_::_,[],vs,_,h=>by simpa [A.bY]using h
 |s::ss,a::l,vs,ho,h=>by
  simp only[Sh.cH,Bool.and_eq_true]at ho
  simp only[A.bY,aQ]at h ⊢
  obtain⟨v,vs',e,h1,h2⟩:=h
  exact⟨v,vs',e,Eh s a v ho.1 h1,F9 ss l vs' ho.2 h2⟩
theorem Xy {b:Nat}:∀(l:List Sh) (cs:List U) (off:Nat),Sh.cH l=true→bE c b off cs→bE c b off (A.bY l cs)
 |[],cs,off,_,h=>by simpa [A.bY]using h
 |_::_,[],off,_,h=>by simpa [A.bY]using h
 |o::l,a::cs,off,ho,h=>by
  simp only[Sh.cH,Bool.and_eq_true]at ho
  simp only[A.bY,bE]at h ⊢
  obtain⟨⟨v,h1,h2,h3⟩,h4⟩:=h
  exact⟨⟨v,h1,h2,Eh o a v ho.1 h3⟩,Xy l cs (off+1) ho.2 h4⟩
theorem Xz {sz b:Nat} (l:List Sh) (hl:Sh.cH l=true):∀(es:List (List U)) (off:Nat),bM c sz b off es→bM c sz b off (es.map (A.bY l))
 |[],off,h=>by simp [bM]
 |e::es,off,h=>by
  simp only[List.map_cons,bM]at h ⊢
  exact⟨by rw[WT];exact h.1,Xy l e off hl h.2.1,Xz l hl es _ h.2.2⟩
end
theorem Ov:∀{a:U} {v:Value},A.pL a=true→aq c a v→aq c' a v:=by
 intro a v h r
 cases a<;>simp only[A.pL]at h<;>first|(cases h;done)|skip
 case sl sz es=>
  cases es with
  |nil=>
   simp only[aq]at r ⊢
   obtain⟨q,cap,e,h1,h2,_⟩:=r
   exact⟨q,cap,e,h1,h2,.inl trivial⟩
  |cons _ _=>simp at h
 all_goals simpa [aq]using r
theorem Uu:∀{l:List U} {vs:List Value},l.all A.pL=true→aQ c l vs→aQ c' l vs
 |[],vs,_,r=>by simpa [aQ]using r
 |a::l,vs,h,r=>by
  simp only[List.all_cons,Bool.and_eq_true]at h
  simp only[aQ]at r ⊢
  obtain⟨v,vs',e,h1,h2⟩:=r
  exact⟨v,vs',e,Ov h.1 h1,Uu h.2 h2⟩
theorem Ow {a:U} {v:Value} (h:A.tH a=true) (r:aq c a v):aq c' a v:=by
 unfold A.tH at h
 split at h
 ·simp only[aq]at r ⊢
  obtain⟨vs,e,h1,h2⟩:=r
  exact⟨vs,e,Uu h h1,h2⟩
 ·exact Ov h r
theorem pe.conv {args args':List U} {σ σ':Heap} {r r':U} (h:pe P nm f args' σ r σ') (ha:∀c vs,aQ c args vs→aQ c args' vs) (hr:∀c v,aq c r v→aq c r' v):pe P nm f args σ r' σ':=by
 rcases h with⟨g,h1,h2⟩|h
 ·refine .inl ⟨g,h1,fun z vs e1 e2 e3 e4=>(h2 z vs e1 e2 e3 (ha _ _ e4)).mono ?_⟩
  rintro e w' ⟨v,E',k1,k2,k3,k4⟩
  exact⟨v,E',k1,k2,k3,hr _ _ k4⟩
 ·refine .inr fun z vs e1 e2 e3 e4=>?_
  obtain⟨v,w',E',k1,k2,k3,k4⟩:=h z vs e1 e2 e3 (ha _ _ e4)
  exact⟨v,w',E',k1,k2,k3,hr _ _ k4⟩
theorem Vl {z0 z:Z} {w':World} {E':List Pl} {n:Nat} (hn:n=z.E.length) {a:U} {v:Value} (h:A.fresh a=true) (r:aq (ctx z0 w' E' dF) a v):aq (ctx z w' (z.E++E') dF) (A.shift n a) v:=by
 have key:∀(id:Nat) (p:Pl),E'[id]? =some p→(z.E++E')[id+n]? =some p:=fun id p hp=>by
  rw[List.getElem?_append_right (by omega),hn,Nat.add_sub_cancel];exact hp
 unfold A.fresh at h
 unfold A.shift
 split at h
 ·simp only[aq]at r ⊢
  obtain⟨hg,p,h1,h2,r⟩:=r
  exact⟨hg,p,key _ _ h1,h2,r⟩
 ·simp only[aq]at r ⊢
  obtain⟨p,h1,h2,r⟩:=r
  exact⟨p,key _ _ h1,h2,r⟩
 ·exact Ow h r
theorem adU {z0 z:Z} {w':World} {E':List Pl} {n:Nat} (hn:n=z.E.length) {vs:List U} {v:Value} (h:vs.all A.fresh=true) (r:aq (ctx z0 w' E' dF) (.aL vs) v):aq (ctx z w' (z.E++E') dF) (A.vr n (.aL vs)) v:=by
 simp only[aq,A.vr]at r ⊢
 obtain⟨us,rfl,r⟩:=r
 refine⟨us,rfl,?_⟩
 generalize us.toList=us' at r ⊢
 induction vs generalizing us' with
 |nil=>simpa [aQ]using r
 |cons x l ih=>
  simp only[List.all_cons,Bool.and_eq_true]at h
  simp only[aQ,List.map_cons]at r ⊢
  obtain⟨v,vs',e,h1,h2⟩:=r
  exact⟨v,vs',e,Vl hn h.1 h1,ih h.2 _ h2⟩
theorem ae1 {z0 z:Z} {w':World} {E':List Pl} {n:Nat} (hn:n=z.E.length) {a:U} {v:Value} (h:A.xy a=true) (r:aq (ctx z0 w' E' dF) a v):aq (ctx z w' (z.E++E') dF) (A.vr n a) v:=by
 by_cases ht:∃vs,a=.aL vs
 ·obtain⟨vs,rfl⟩:=ht
  exact adU hn h r
 ·have e1:A.xy a=A.fresh a:=by cases a<;>first|rfl|exact absurd ⟨_,rfl⟩ ht
  have e2:A.vr n a=A.shift n a:=by cases a<;>first|rfl|exact absurd ⟨_,rfl⟩ ht
  rw[e1]at h
  rw[e2]
  exact Vl hn h r
theorem NR {b:Nat}:∀{l:List U} {off:Nat},l.all A.pL=true→c'.w=c.w→bE c b off l→bE c' b off l
 |[],off,_,_,_=>by simp [bE]
 |a::l,off,h,hw,r=>by
  simp only[List.all_cons,Bool.and_eq_true]at h
  simp only[bE]at r ⊢
  obtain⟨⟨v,h1,h2,h3⟩,h4⟩:=r
  exact⟨⟨v,by rw[hw];exact h1,h2,Ov h.1 h3⟩,NR h.2 hw h4⟩
theorem TX {sz b:Nat}:∀{l:List (List U)} {off:Nat},(l.all fun e=>e.all A.pL)=true→c'.w=c.w→bM c sz b off l→bM c' sz b off l
 |[],off,_,_,_=>by simp [bM]
 |a::l,off,h,hw,r=>by
  simp only[List.all_cons,Bool.and_eq_true]at h
  simp only[bM]at r ⊢
  obtain⟨h1,h2,h3⟩:=r
  exact⟨h1,NR h.1 hw h2,TX h.2 hw h3⟩
theorem Uv:∀{l:List (U×U)} {es:List MapEntry},(l.all fun p=>A.tH p.1&&A.tH p.2)=true→dh c l es→dh c' l es
 |[],es,_,r=>by simpa [dh]using r
 |(k,v)::l,es,h,r=>by
  simp only[List.all_cons,Bool.and_eq_true]at h
  simp only[dh]at r ⊢
  obtain⟨e,es',h1,h2,h3,h4⟩:=r
  exact⟨e,es',h1,Ow h.1.1 h2,Ow h.1.2 h3,Uv h.2 h4⟩
theorem aep {p:Pl} {x:aV} (h:A.vo x=true) (hw:c'.w=c.w) (r:rC c p x):rC c' p x:=by
 cases x with
 |box cs=>
  obtain⟨h1,⟨⟨arr,t,h2,h3⟩,h4⟩⟩:=r
  exact⟨h1,⟨arr,t,by rw[hw];exact h2,h3⟩,NR h hw h4⟩
 |arr g sz es=>
  obtain⟨h1,h2,h3,h4,⟨arr,t,h5,h6⟩,h7,h8,h9⟩:=r
  exact⟨h1,h2,h3,h4,⟨arr,t,by rw[hw];exact h5,h6⟩,h7,TX h hw h8,fun arr t fz e=>h9 arr t fz (by rw[←hw];exact e)⟩
 |map es=>
  obtain⟨h1,bD,clock,h2,hwf,h3⟩:=r
  exact⟨h1,bD,clock,by rw[hw];exact h2,hwf,Uv h h3⟩
 |qN g sz es=>cases h
 |it cur left=>cases h
theorem VZ {z:Z} {σ σ':Heap} {r:U} {v:Value} {w':World} {E':List Pl} (e2:∀b,z.X b→b<z.w.heap.size) (hh:iF (ctx z z.w z.E dF) σ) (hv:A.xy r=true) (hb:σ'.all A.vo=true)
  (k2:Out ⟨z.w,[],fun _=>False,z.nm⟩ w' E') (k3:iF (ctx ⟨z.w,[],fun _=>False,z.nm⟩ w' E' dF) σ') (k4:aq (ctx ⟨z.w,[],fun _=>False,z.nm⟩ w' E' dF) r v):
  ∃mq,Out z w' mq∧iF (ctx z w' mq dF) (σ++σ')∧aq (ctx z w' mq dF) (A.vr σ.length r) v:=by
 have hlen:z.E.length=σ.length:=hh.len
 have hlen':E'.length=σ'.length:=k3.len
 have hst:∀b,b<z.w.heap.size→w'.heap[b]? =z.w.heap[b]? :=fun b hb=>k2.stay b hb (fun p hp=>by cases hp)
 have hlt:∀p∈z.E,p.b<z.w.heap.size:=fun p hp=>hh.lt hp
 have hfr:∀p∈E',z.w.heap.size≤p.b:=fun p hp=>by
  rcases k2.fresh p hp with k|⟨q,hq,_⟩
  ·exact k
  ·cases hq
 have hx:Ext (ctx z z.w z.E dF) (ctx z w' (z.E++E') dF):=by
  refine⟨k2.size,fun b hb hn=>⟨hst b hb,?_⟩,fun i p hp=>⟨p,?_,.inl rfl⟩,rfl⟩
  ·rintro(k|⟨p,hp,k⟩|⟨i,k⟩)
   ·exact hn (.inl k)
   ·rcases List.mem_append.1 hp with hp|hp
    ·exact hn (.inr (.inl ⟨p,hp,k⟩))
    ·have:=hfr p hp;simp only[ctx]at hb;omega
   ·cases k
  ·simp only[ctx]at hp ⊢
   rw[List.getElem?_append_left (List.getElem?_eq_some_iff.1 hp).1];exact hp
 have key:∀(i:Nat) (p:Pl),(z.E++E')[i]? =some p→(i<z.E.length∧z.E[i]? =some p)∨(z.E.length≤i∧E'[i-z.E.length]? =some p):=fun i p hp=>by
  by_cases hi:i<z.E.length
  ·rw[List.getElem?_append_left hi]at hp;exact .inl ⟨hi,hp⟩
  ·rw[List.getElem?_append_right (by omega)]at hp;exact .inr ⟨by omega,hp⟩
 refine⟨z.E++E',⟨k2.os,k2.tape,k2.output,k2.size,fun b hb _=>hst b hb,fun i p hp=>?_,fun i p hp=>⟨p,?_,.inl rfl⟩,e2,hlt⟩,⟨by simp [ctx,hlen,hlen'],fun i j p q hp hq e=>?_,fun i p x hp dY=>?_⟩,ae1 hlen.symm hv k4⟩
 ·rcases key i p hp with⟨_,k⟩|⟨_,k⟩
  ·exact .inr ⟨p,k,rfl⟩
  ·exact .inl (hfr p (List.mem_of_getElem? k))
 ·rw[List.getElem?_append_left (List.getElem?_eq_some_iff.1 hp).1];exact hp
 ·simp only[ctx]at hp hq
  rcases key i p hp with⟨i1,k⟩|⟨i1,k⟩<;>rcases key j q hq with⟨j1,m⟩|⟨j1,m⟩
  ·exact hh.inj i j p q k m e
  ·have:=hlt p (List.mem_of_getElem? k);have:=hfr q (List.mem_of_getElem? m);omega
  ·have:=hlt q (List.mem_of_getElem? m);have:=hfr p (List.mem_of_getElem? k);omega
  ·have:=k3.inj _ _ p q k m e;omega
 ·simp only[ctx]at hp
  rcases key i p hp with⟨i1,k⟩|⟨i1,k⟩
  ·rw[List.getElem?_append_left (by omega)]at dY
   exact(hh.blk i p x k dY).mono hx (hst _ (hlt p (List.mem_of_getElem? k)))
  ·rw[List.getElem?_append_right (by omega),←hlen]at dY
   exact aep (c:=ctx ⟨z.w,[],fun _=>False,z.nm⟩ w' E' dF) (List.all_eq_true.1 hb x (List.mem_of_getElem? dY)) rfl (k3.blk _ p x k dY)
theorem pe.ze {args args':List U} {σ σ':Heap} {r:U} (h:pe P nm f args' [] r σ') (ha:A.fE σ 0 8 args=some args') (hv:A.xy r=true) (hb:σ'.all A.vo=true):pe P nm f args σ (A.vr σ.length r) (σ++σ'):=by
 have hX:∀(z:Z) b,¬(ctx ⟨z.w,[],fun _=>False,z.nm⟩ z.w [] dF).X b:=by
  rintro z b (k|⟨p,hp,_⟩|⟨i,k⟩)
  ·exact k.elim
  ·cases hp
  ·cases k
 have xG:∀(z:Z),iF (ctx z z.w z.E dF) σ→yT (ctx z z.w z.E dF) (ctx ⟨z.w,[],fun _=>False,z.nm⟩ z.w [] dF) σ 0:=fun z hh=>
  ⟨rfl,rfl,fun b k=>(hX z b k).elim,fun id p k=>absurd k (Nat.not_lt_zero _),hh,fun id p _ _=>hX z _⟩
 have h0:∀(z:Z),iF (ctx ⟨z.w,[],fun _=>False,z.nm⟩ z.w [] dF) []:=fun z=>by
  refine⟨rfl,fun i j p q hp=>?_,fun i p x hp=>?_⟩
  ·simp [ctx]at hp
  ·simp [ctx]at hp
 rcases h with⟨g,h1,h2⟩|h2
 ·refine .inl ⟨g,h1,fun z vs e1 e2 hh e4=>?_⟩
  have ha':aQ (ctx ⟨z.w,[],fun _=>False,z.nm⟩ z.w [] dF) args' vs.toList:=DS (xG z hh) 8 (fun av dm v _ e r=>Am (xG z hh) 8 _ _ _ e r) _ _ _ ha e4
  refine(h2 ⟨z.w,[],fun _=>False,z.nm⟩ vs e1 (fun b k=>k.elim) (h0 z) ha').mono ?_
  rintro e w' ⟨v,E',k1,k2,k3,k4⟩
  obtain⟨mq,q1,q2,q3⟩:=VZ e2 hh hv hb k2 k3 k4
  exact⟨v,mq,k1,q1,q2,q3⟩
 ·refine .inr fun z vs e1 e2 hh e4=>?_
  have ha':aQ (ctx ⟨z.w,[],fun _=>False,z.nm⟩ z.w [] dF) args' vs.toList:=DS (xG z hh) 8 (fun av dm v _ e r=>Am (xG z hh) 8 _ _ _ e r) _ _ _ ha e4
  obtain⟨v,w',E',k1,k2,k3,k4⟩:=h2 ⟨z.w,[],fun _=>False,z.nm⟩ vs e1 (fun b k=>k.elim) (h0 z) ha'
  obtain⟨mq,q1,q2,q3⟩:=VZ e2 hh hv hb k2 k3 k4
  exact⟨v,w',mq,k1,q1,q2,q3⟩
theorem WD {z:Z} {w':World} {E':List Pl} {σ σ1 σ':Heap} {x r:U} {v:Value} (hh:iF (ctx z z.w z.E dF) σ) (hlt:∀b,z.X b→b<z.w.heap.size) (ho:Out z w' E') (hr:iF (ctx z w' E' dF) σ1) (rv:aq (ctx z w' E' dF) x v) (k3:A.fin σ x σ1=some (r,σ')):
  ∃mq,Out z w' mq∧iF (ctx z w' mq dF) σ'∧aq (ctx z w' mq dF) r v:=by
 unfold A.fin at k3
 split at k3
 ·rename_i he
  simp only[Option.some.injEq,Prod.mk.injEq]at k3
  obtain⟨rfl,rfl⟩:=k3
  exact⟨E',ho,by rw[←he];exact hr,rv⟩
 ·split at k3
  ·rename_i he
   obtain⟨r',k6,k7⟩:=Option.map_eq_some_iff.1 k3
   simp only[Prod.mk.injEq]at k7
   obtain⟨rfl,rfl⟩:=k7
   have hlen:=hr.len
   simp only[ctx]at hlen
   have hzl:z.E.length=σ.length:=hh.len
   have hle2:σ.length≤σ1.length:=by
    have:=congrArg List.length he
    simp at this;omega
   have zK:∀(id:Nat) (p:Pl),id<σ.length→E'[id]? =some p→(E'.take σ.length)[id]? =some p:=fun id p hlt' hp=>by rw[List.getElem?_take_of_lt hlt'];exact hp
   have vJ:∀(id:Nat) (p:Pl),(E'.take σ.length)[id]? =some p→id<σ.length∧E'[id]? =some p:=fun id p hp=>by
    rw[List.getElem?_take]at hp
    split at hp
    ·exact⟨by assumption,hp⟩
    ·cases hp
   have xG:yT (ctx z w' E' dF) (ctx z w' (E'.take σ.length) dF) σ1 σ.length:=by
    refine⟨rfl,rfl,fun b k=>?_,zK,hr,fun id p hge hp k=>?_⟩
    ·rcases k with k|⟨p,hp,k⟩|⟨i,k⟩
     ·exact .inl k
     ·exact .inr (.inl ⟨p,List.mem_of_mem_take hp,k⟩)
     ·cases k
    ·rcases k with k|⟨q,hq,k⟩|⟨i,k⟩
     ·have hb:=hlt _ k
      rcases ho.fresh' id p hp with e|⟨q,hq,_⟩
      ·omega
      ·rw[List.getElem?_eq_none (by omega)]at hq;cases hq
     ·obtain⟨j,hj,rfl⟩:=List.mem_iff_getElem.1 hq
      obtain⟨h1,h2⟩:=vJ j _ (List.getElem?_eq_getElem hj)
      have:=hr.inj j id _ p h2 hp k
      omega
     ·cases k
   have heq:∀(id:Nat),id<σ.length→σ[id]? =σ1[id]? :=fun id hlt'=>by
    have h1:(List.take σ.length σ1)[id]? =σ1[id]? :=List.getElem?_take_of_lt hlt'
    rw[he]at h1;exact h1
   have held:xT (ctx z z.w z.E dF) (ctx z w' E' dF) (ctx z w' (E'.take σ.length) dF):=
    ⟨rfl,rfl,xG.X,fun id p0 p e0 e1=>zK id p (by have:=(List.getElem?_eq_some_iff.1 e0).1;simp only[ctx]at this;omega) e1⟩
   refine⟨E'.take σ.length,?_,?_,Am xG 8 _ _ _ k6 rv⟩
   ·have o:=ho
    exact⟨o.os,o.tape,o.output,o.size,o.stay,fun i p hp=>o.fresh' i p (vJ i p hp).2,fun i p hp=>by
     obtain⟨p',m1,m2⟩:=o.env i p hp
     exact⟨p',zK i p' (by have:=(List.getElem?_eq_some_iff.1 hp).1;omega) m1,m2⟩,o.lt,o.mine⟩
   ·refine⟨by simp only[ctx,List.length_take];omega,fun i j p q hp hq e=>hr.inj i j p q (vJ i p hp).2 (vJ j q hq).2 e,fun i p x hp hx=>?_⟩
    obtain⟨hi,hp2⟩:=vJ i p hp
    have fK:z.E[i]? =some z.E[i]:=List.getElem?_eq_getElem (by omega)
    exact OI held (hh.blk i _ x fK hx) (hr.blk i p x hp2 (by rw[←heq i hi];exact hx))
  ·cases k3
theorem Sound.ij {m:List U→Heap→Option (U×Heap)} (h:Sound P nm f m) (sh:Sh) (hs:sh.ok=true):Sound P nm f (A.ij sh m):=by
 intro args σ r σ' e
 unfold A.ij at e
 obtain⟨⟨x,σ1⟩,e1,e2⟩:=Option.bind_eq_some_iff.1 e
 obtain⟨⟨y,σ2⟩,e3,e4⟩:=Option.map_eq_some_iff.1 e2
 simp only[Prod.mk.injEq]at e4
 obtain⟨rfl,rfl⟩:=e4
 rcases h _ _ _ _ e1 with⟨g,h1,h2⟩|h2
 ·refine .inl ⟨g,h1,fun z vs k1 k2 hh k4=>?_⟩
  refine(h2 z vs k1 k2 hh k4).mono ?_
  rintro e w' ⟨v,E',q1,q2,q3,q4⟩
  obtain⟨mq,p1,p2,p3⟩:=WD hh k2 q2 q3 q4 e3
  exact⟨v,mq,q1,p1,p2,Eh _ _ _ hs p3⟩
 ·refine .inr fun z vs k1 k2 hh k4=>?_
  obtain⟨v,w',E',q1,q2,q3,q4⟩:=h2 z vs k1 k2 hh k4
  obtain⟨mq,p1,p2,p3⟩:=WD hh k2 q2 q3 q4 e3
  exact⟨v,w',mq,q1,p1,p2,Eh _ _ _ hs p3⟩
theorem Sound.wrap {r:List U→Heap→Option (U×Heap)} (h:Sound P nm f r) (ro:Bool) (cB:List Sh) (eo:Sh) (hi:Sh.cH cB=true) (ho:eo.ok=true):Sound P nm f (A.wrap ro cB eo r):=by
 intro args σ v σ' e
 unfold A.wrap at e
 cases hc:(ro&&args.any A.own)
 ·rw[hc]at e
  simp only[cond_false]at e
  obtain⟨q,e1,e2⟩:=Option.map_eq_some_iff.1 e
  injection e2 with e2 e3
  subst e2 e3
  exact(h _ _ _ _ e1).conv (fun c vs k=>F9 _ _ _ hi k) (fun c v k=>Eh _ _ _ ho k)
 ·rw[hc]at e
  simp only[cond_true]at e
  obtain⟨args',e1,e2⟩:=Option.bind_eq_some_iff.1 e
  obtain⟨q,e3,e4⟩:=Option.bind_eq_some_iff.1 e2
  obtain⟨q1,q2⟩:=q
  simp only at e4
  cases hs:(A.xy (A.nn eo q1)&&q2.all A.vo)
  ·rw[hs]at e4;cases e4
  ·rw[hs]at e4
   simp only[cond_true,Option.some.injEq,Prod.mk.injEq]at e4
   obtain⟨rfl,rfl⟩:=e4
   simp only[Bool.and_eq_true]at hs
   exact((h _ _ _ _ e3).conv (args:=args') (fun c vs k=>F9 _ _ _ hi k) (fun c v k=>Eh _ _ _ ho k)).ze e1 hs.1 hs.2
end
theorem cL.of {X:Fx} {t:List (FuncId×(List U→Heap→Option (U×Heap)))} (hc:X.call=A.tab (fun _ _=>none) t) (ht:∀p∈t,Sound X.P X.nm p.1 p.2) (hd:∀f,Sound X.P X.nm f (X.dyn (X.nm.getD f 0))):cL X:=by
 refine⟨fun f args σ r σ' h=>?_,fun f=>hd f⟩
 rw[hc]at h
 clear hc
 induction t with
 |nil=>cases h
 |cons p t ih=>
  obtain⟨m,x⟩:=p
  simp only[A.tab]at h
  cases hm:(f==m)
  ·rw[hm]at h;exact ih (fun p hp=>ht p (List.mem_cons_of_mem _ hp)) h
  ·rw[hm]at h
   have:f=m:=by simpa using hm
   subst this
   exact ht (f,x) (List.mem_cons_self) _ _ _ _ h
theorem Sound.none {P:Program} {nm:List Nat} {f:FuncId}:Sound P nm f (fun _ _=>Option.none):=fun _ _ _ _ h=>by cases h
theorem aC.nil {P:Program} {nm:List Nat}:∀p∈([]:List (FuncId×(List U→Heap→Option (U×Heap)))),Sound P nm p.1 p.2:=fun _ h=>by cases h
theorem aC.cons {P:Program} {nm:List Nat} {f:FuncId} {m:List U→Heap→Option (U×Heap)} {l:List (FuncId×(List U→Heap→Option (U×Heap)))} (h:Sound P nm f m) (t:∀p∈l,Sound P nm p.1 p.2):∀p∈(f,m)::l,Sound P nm p.1 p.2:=
 fun p hp=>by rcases List.mem_cons.1 hp with rfl|hp;exact h;exact t p hp
theorem gm.nil {P:Program} {nm:List Nat}:∀p∈([]:List (Nat×(List U→Heap→Option (U×Heap)))),∀f,nm.getD f 0=p.1→Sound P nm f p.2:=fun _ h=>by cases h
theorem gm.cons {P:Program} {nm:List Nat} {k:Nat} {m:List U→Heap→Option (U×Heap)} {l:List (Nat×(List U→Heap→Option (U×Heap)))} (h:∀f,nm.getD f 0=k→Sound P nm f m) (t:∀p∈l,∀f,nm.getD f 0=p.1→Sound P nm f p.2):∀p∈(k,m)::l,∀f,nm.getD f 0=p.1→Sound P nm f p.2:=
 fun p hp=>by rcases List.mem_cons.1 hp with rfl|hp;exact h;exact t p hp
theorem qG {P:Program} {nm:List Nat} {t:List (Nat×(List U→Heap→Option (U×Heap)))} (ht:∀p∈t,∀f,nm.getD f 0=p.1→Sound P nm f p.2) (f:FuncId):Sound P nm f (A.tab (fun _ _=>Option.none) t (nm.getD f 0)):=by
 induction t with
 |nil=>exact Sound.none
 |cons p t ih=>
  obtain⟨k,x⟩:=p
  simp only[A.tab]
  cases hm:(nm.getD f 0==k)
  ·exact ih (fun p hp=>ht p (List.mem_cons_of_mem _ hp))
  ·exact ht (k,x) List.mem_cons_self f (by simpa using hm)
theorem ajf {nm:List Nat} {k g:Nat} (h:(nm.zipIdx.filter fun p=>p.1==k)=[(k,g)]) (hk:(0==k)=false) {f:Nat} (hf:nm.getD f 0=k):f=g:=by
 have hlt:f<nm.length:=by
  rcases Nat.lt_or_ge f nm.length with e|e
  ·exact e
  ·simp only[List.getD,List.getElem?_eq_none e,Option.getD_none]at hf;subst hf;simp at hk
 have:(k,f)∈nm.zipIdx.filter fun p=>p.1==k:=by
  refine List.mem_filter.2 ⟨List.mem_iff_getElem?.2 ⟨f,?_⟩,by simp⟩
  simp only[List.getD]at hf
  rw[List.getElem?_eq_getElem hlt]at hf
  simp [List.getElem?_eq_getElem hlt,←hf]
 rw[h]at this
 simpa using this
theorem lu {P:Program} {nm:List Nat} {k g:Nat} {m:List U→Heap→Option (U×Heap)} (hs:Sound P nm g m) (h:(nm.zipIdx.filter fun p=>p.1==k)=[(k,g)]) (hk:(0==k)=false):∀f,nm.getD f 0=k→Sound P nm f m:=
 fun f hf=>by have e:=ajf h hk hf;subst e;exact hs
def fuel (F:(Nat→List U→Heap→Option (U×Heap))→List (Nat×(List U→Heap→Option (U×Heap)))):Nat→Nat→List U→Heap→Option (U×Heap)
 |0,_=>fun _ _=>none
 |n+1,k=>A.tab (fun _ _=>none) (F (fuel F n)) k
namespace A
def dU (f:U→Heap→Option (U×Heap)):List U→Heap→Option (U×Heap)
 |[x0],σ=>f x0 σ
 |_,_=>none
def cM (f:U→U→Heap→Option (U×Heap)):List U→Heap→Option (U×Heap)
 |[x0,x1],σ=>f x0 x1 σ
 |_,_=>none
def eG (f:U→U→U→Heap→Option (U×Heap)):List U→Heap→Option (U×Heap)
 |[x0,x1,x2],σ=>f x0 x1 x2 σ
 |_,_=>none
def Ro (f:U→U→U→U→Heap→Option (U×Heap)):List U→Heap→Option (U×Heap)
 |[x0,x1,x2,x3],σ=>f x0 x1 x2 x3 σ
 |_,_=>none
def Rp (f:U→U→U→U→U→Heap→Option (U×Heap)):List U→Heap→Option (U×Heap)
 |[x0,x1,x2,x3,x4],σ=>f x0 x1 x2 x3 x4 σ
 |_,_=>none
def Rq (f:U→U→U→U→U→U→Heap→Option (U×Heap)):List U→Heap→Option (U×Heap)
 |[x0,x1,x2,x3,x4,x5],σ=>f x0 x1 x2 x3 x4 x5 σ
 |_,_=>none
def Rr (f:U→U→U→U→U→U→U→Heap→Option (U×Heap)):List U→Heap→Option (U×Heap)
 |[x0,x1,x2,x3,x4,x5,x6],σ=>f x0 x1 x2 x3 x4 x5 x6 σ
 |_,_=>none
end A
section
variable {X : Fx} {f : FuncId} {fn : Func} {bP : nu}
theorem Sound.vL {m:U→Heap→Option (U×Heap)} (keep:qM) (hkeep:keep.Ok) (hs:cL X) (hf:X.P.funcs[f]? =some fn) (hc:∀cS w,(callFunc f cS).run X.P w=.ok (.enter f cS) w) (he:∀(x0:U) (σ:Heap),qQ X keep bP fn [x0] σ=m x0 σ):Sound X.P X.nm f (A.dU m):=by
 intro args σ r σ' h
 unfold A.dU at h
 split at h
 ·exact BA hs hkeep hf hc ((he _ _).trans h)
 ·cases h
theorem Sound.pO {m:U→U→Heap→Option (U×Heap)} (keep:qM) (hkeep:keep.Ok) (hs:cL X) (hf:X.P.funcs[f]? =some fn) (hc:∀cS w,(callFunc f cS).run X.P w=.ok (.enter f cS) w) (he:∀(x0 x1:U) (σ:Heap),qQ X keep bP fn [x0,x1] σ=m x0 x1 σ):Sound X.P X.nm f (A.cM m):=by
 intro args σ r σ' h
 unfold A.cM at h
 split at h
 ·exact BA hs hkeep hf hc ((he _ _ _).trans h)
 ·cases h
theorem Sound.qg {m:U→U→U→Heap→Option (U×Heap)} (keep:qM) (hkeep:keep.Ok) (hs:cL X) (hf:X.P.funcs[f]? =some fn) (hc:∀cS w,(callFunc f cS).run X.P w=.ok (.enter f cS) w) (he:∀(x0 x1 x2:U) (σ:Heap),qQ X keep bP fn [x0,x1,x2] σ=m x0 x1 x2 σ):Sound X.P X.nm f (A.eG m):=by
 intro args σ r σ' h
 unfold A.eG at h
 split at h
 ·exact BA hs hkeep hf hc ((he _ _ _ _).trans h)
 ·cases h
theorem Sound.ak2 {m:U→U→U→U→Heap→Option (U×Heap)} (keep:qM) (hkeep:keep.Ok) (hs:cL X) (hf:X.P.funcs[f]? =some fn) (hc:∀cS w,(callFunc f cS).run X.P w=.ok (.enter f cS) w) (he:∀(x0 x1 x2 x3:U) (σ:Heap),qQ X keep bP fn [x0,x1,x2,x3] σ=m x0 x1 x2 x3 σ):Sound X.P X.nm f (A.Ro m):=by
 intro args σ r σ' h
 unfold A.Ro at h
 split at h
 ·exact BA hs hkeep hf hc ((he _ _ _ _ _).trans h)
 ·cases h
theorem Sound.ak3 {m:U→U→U→U→U→Heap→Option (U×Heap)} (keep:qM) (hkeep:keep.Ok) (hs:cL X) (hf:X.P.funcs[f]? =some fn) (hc:∀cS w,(callFunc f cS).run X.P w=.ok (.enter f cS) w) (he:∀(x0 x1 x2 x3 x4:U) (σ:Heap),qQ X keep bP fn [x0,x1,x2,x3,x4] σ=m x0 x1 x2 x3 x4 σ):Sound X.P X.nm f (A.Rp m):=by
 intro args σ r σ' h
 unfold A.Rp at h
 split at h
 ·exact BA hs hkeep hf hc ((he _ _ _ _ _ _).trans h)
 ·cases h
theorem Sound.ak4 {m:U→U→U→U→U→U→Heap→Option (U×Heap)} (keep:qM) (hkeep:keep.Ok) (hs:cL X) (hf:X.P.funcs[f]? =some fn) (hc:∀cS w,(callFunc f cS).run X.P w=.ok (.enter f cS) w) (he:∀(x0 x1 x2 x3 x4 x5:U) (σ:Heap),qQ X keep bP fn [x0,x1,x2,x3,x4,x5] σ=m x0 x1 x2 x3 x4 x5 σ):Sound X.P X.nm f (A.Rq m):=by
 intro args σ r σ' h
 unfold A.Rq at h
 split at h
 ·exact BA hs hkeep hf hc ((he _ _ _ _ _ _ _).trans h)
 ·cases h
theorem Sound.ak5 {m:U→U→U→U→U→U→U→Heap→Option (U×Heap)} (keep:qM) (hkeep:keep.Ok) (hs:cL X) (hf:X.P.funcs[f]? =some fn) (hc:∀cS w,(callFunc f cS).run X.P w=.ok (.enter f cS) w) (he:∀(x0 x1 x2 x3 x4 x5 x6:U) (σ:Heap),qQ X keep bP fn [x0,x1,x2,x3,x4,x5,x6] σ=m x0 x1 x2 x3 x4 x5 x6 σ):Sound X.P X.nm f (A.Rr m):=by
 intro args σ r σ' h
 unfold A.Rr at h
 split at h
 ·exact BA hs hkeep hf hc ((he _ _ _ _ _ _ _ _).trans h)
 ·cases h
end
end
abbrev eZ:List Sh:=[.k,.k,.k,.k,.k,.k,.k,(.s 2),.k,.k,(.s 8)]
abbrev qK:List Sh:=[.k,.k,.k,.k,.k,.k,(.s 3)]
abbrev lJ:Sh:=(.a [(.e 3 [.k,.k,(.e 7 qK)]),(.s 4)])
abbrev qL:Sh:=(.e 3 [.k,.k,(.s 3)])
abbrev B6:List Sh:=[.k,.k,.k,.k,.k,.k,.k,.s 2,.k,.k,.s 8]
abbrev xH:Sh:=(.a [(.s 3),(.s 4)])
section
set_option maxRecDepth 100000
noncomputable def aG:List Nat:=[0,0,0,255,317,319,237,247,248,252,254,202,315,279,280,281,316,285,318,298,143,135,299,300,301,102,228,236,246,182,178,233,186,249,251,192,194,169,244,195,253,197,198,201,142,14,13,214,203,180,213,0,271,140,272,273,218,274,278,134,4,283,284,0,297,240,139,70,3,94,92,7,227,242,65,225,232,235,234,243,245,181,176,177,184,185,250,193,93,199,200,1,72,125,126,141,0,258,0,0,217,275,276,211,277,89,130,131,133,179,282,196,219,0,239,69,71,73,2,138,66,88,5,90,86,91,6,226,241,207,231,229,205,0,191,59,259,261,0,266,267,268,269,270,256,257,0,216,132,183,188,286,288,0,292,293,294,295,296,206,223,238,63,67,68,64,85,87,230,190,58,260,262,0,265,264,0,215,81,159,187,287,291,290,0,210,62,84,189,263,80,158,289,209,60,61,83,208,82,53,52,0,0,0,0,0,0,0,0,0,0,0,0,0,0,0,0]
section
variable {l : List (FuncId × (List U → Heap → Option (U × Heap)))} {f : FuncId} {fn : Func} {ro : Bool} {cB : List Sh} {eo : Sh}
noncomputable def CH (l:List (FuncId×(List U→Heap→Option (U×Heap)))) (L:List Nat) (n:Nat):Fx:=⟨Tryz.prog,aG,A.tab (fun _ _=>none) l,fun _ _ _=>none,L,[],n,[]⟩
theorem q1 {m:U→Heap→Option (U×Heap)} (L:List Nat) (n:Nat) (bP:nu) (h:∀p∈l,Sound Tryz.prog aG p.1 p.2) (hf:Tryz.prog.funcs[f]? =some fn) (hc:∀cS w,(callFunc f cS).run Tryz.prog w=.ok (.enter f cS) w) (he:∀(x0:U) (σ:Heap),qQ (CH l L n) .F bP fn [x0] σ=m x0 σ) (hi:Sh.cH cB=true) (ho:eo.ok=true):Sound Tryz.prog aG f (A.wrap ro cB eo (A.dU m)):=Sound.wrap (Sound.vL .F trivial (cL.of rfl h fun _=>Sound.none) hf hc he) _ _ _ hi ho
theorem q2 {m:U→U→Heap→Option (U×Heap)} (L:List Nat) (n:Nat) (bP:nu) (h:∀p∈l,Sound Tryz.prog aG p.1 p.2) (hf:Tryz.prog.funcs[f]? =some fn) (hc:∀cS w,(callFunc f cS).run Tryz.prog w=.ok (.enter f cS) w) (he:∀(x0 x1:U) (σ:Heap),qQ (CH l L n) .F bP fn [x0,x1] σ=m x0 x1 σ) (hi:Sh.cH cB=true) (ho:eo.ok=true):Sound Tryz.prog aG f (A.wrap ro cB eo (A.cM m)):=Sound.wrap (Sound.pO .F trivial (cL.of rfl h fun _=>Sound.none) hf hc he) _ _ _ hi ho
theorem q3 {m:U→U→U→Heap→Option (U×Heap)} (L:List Nat) (n:Nat) (bP:nu) (h:∀p∈l,Sound Tryz.prog aG p.1 p.2) (hf:Tryz.prog.funcs[f]? =some fn) (hc:∀cS w,(callFunc f cS).run Tryz.prog w=.ok (.enter f cS) w) (he:∀(x0 x1 x2:U) (σ:Heap),qQ (CH l L n) .F bP fn [x0,x1,x2] σ=m x0 x1 x2 σ) (hi:Sh.cH cB=true) (ho:eo.ok=true):Sound Tryz.prog aG f (A.wrap ro cB eo (A.eG m)):=Sound.wrap (Sound.qg .F trivial (cL.of rfl h fun _=>Sound.none) hf hc he) _ _ _ hi ho
theorem q4 {m:U→U→U→U→Heap→Option (U×Heap)} (L:List Nat) (n:Nat) (bP:nu) (h:∀p∈l,Sound Tryz.prog aG p.1 p.2) (hf:Tryz.prog.funcs[f]? =some fn) (hc:∀cS w,(callFunc f cS).run Tryz.prog w=.ok (.enter f cS) w) (he:∀(x0 x1 x2 x3:U) (σ:Heap),qQ (CH l L n) .F bP fn [x0,x1,x2,x3] σ=m x0 x1 x2 x3 σ) (hi:Sh.cH cB=true) (ho:eo.ok=true):Sound Tryz.prog aG f (A.wrap ro cB eo (A.Ro m)):=Sound.wrap (Sound.ak2 .F trivial (cL.of rfl h fun _=>Sound.none) hf hc he) _ _ _ hi ho
theorem q5 {m:U→U→U→U→U→Heap→Option (U×Heap)} (L:List Nat) (n:Nat) (bP:nu) (h:∀p∈l,Sound Tryz.prog aG p.1 p.2) (hf:Tryz.prog.funcs[f]? =some fn) (hc:∀cS w,(callFunc f cS).run Tryz.prog w=.ok (.enter f cS) w) (he:∀(x0 x1 x2 x3 x4:U) (σ:Heap),qQ (CH l L n) .F bP fn [x0,x1,x2,x3,x4] σ=m x0 x1 x2 x3 x4 σ) (hi:Sh.cH cB=true) (ho:eo.ok=true):Sound Tryz.prog aG f (A.wrap ro cB eo (A.Rp m)):=Sound.wrap (Sound.ak3 .F trivial (cL.of rfl h fun _=>Sound.none) hf hc he) _ _ _ hi ho
theorem q6 {m:U→U→U→U→U→U→Heap→Option (U×Heap)} (L:List Nat) (n:Nat) (bP:nu) (h:∀p∈l,Sound Tryz.prog aG p.1 p.2) (hf:Tryz.prog.funcs[f]? =some fn) (hc:∀cS w,(callFunc f cS).run Tryz.prog w=.ok (.enter f cS) w) (he:∀(x0 x1 x2 x3 x4 x5:U) (σ:Heap),qQ (CH l L n) .F bP fn [x0,x1,x2,x3,x4,x5] σ=m x0 x1 x2 x3 x4 x5 σ) (hi:Sh.cH cB=true) (ho:eo.ok=true):Sound Tryz.prog aG f (A.wrap ro cB eo (A.Rq m)):=Sound.wrap (Sound.ak4 .F trivial (cL.of rfl h fun _=>Sound.none) hf hc he) _ _ _ hi ho
theorem q7 {m:U→U→U→U→U→U→U→Heap→Option (U×Heap)} (L:List Nat) (n:Nat) (bP:nu) (h:∀p∈l,Sound Tryz.prog aG p.1 p.2) (hf:Tryz.prog.funcs[f]? =some fn) (hc:∀cS w,(callFunc f cS).run Tryz.prog w=.ok (.enter f cS) w) (he:∀(x0 x1 x2 x3 x4 x5 x6:U) (σ:Heap),qQ (CH l L n) .F bP fn [x0,x1,x2,x3,x4,x5,x6] σ=m x0 x1 x2 x3 x4 x5 x6 σ) (hi:Sh.cH cB=true) (ho:eo.ok=true):Sound Tryz.prog aG f (A.wrap ro cB eo (A.Rr m)):=Sound.wrap (Sound.ak5 .F trivial (cL.of rfl h fun _=>Sound.none) hf hc he) _ _ _ hi ho
end
end
abbrev aZ (n:Int):Prop:=-9223372036854775808≤n∧n≤9223372036854775807
abbrev aY:Nat:=9223372036854775807
def fu {κ:Type} [DecidableEq κ] (k:κ) (S:List κ):Bool:=S.any fun x=>decide (x=k)
theorem BJ {κ:Type} [DecidableEq κ] {k:κ} {S:List κ}:fu k S=true↔k∈S:=by
 simp only[fu,List.any_eq_true,decide_eq_true_eq]
 exact⟨fun⟨x,h,e⟩=>e▸h,fun h=>⟨k,h,rfl⟩⟩
theorem Jz {κ:Type} [DecidableEq κ] {k:κ} {S:List κ}:fu k S=false↔k∉S:=by
 rw[←BJ];simp
def rF (n:Int):List U:=[.int .i64 n]
def akl (s:ByteArray):List U:=[.str s]
def sl {α:Type} (sz:Nat) (c:α→List U) (l:List α):U:=.sl sz (l.map c)
def cH {α:Type} (p:α→Prop) (l:List α):Prop:=l.length≤aY∧∀x∈l,p x
def gD (s:ByteArray):Prop:=s.size≤aY
theorem W4 (n:Int):A.an 0 (rF n)=some (.int .i64 n):=rfl
theorem W5 (s:ByteArray):A.an 0 (akl s)=some (.str s):=rfl
structure kL where
 time:Int
 way:Int
deriving DecidableEq
def cW (x:kL):List U:=[.int .i64 x.time,.int .i64 x.way]
theorem aei (x:kL):(cW x).length=2:=rfl
def WY (x:kL):Prop:=aZ x.time∧aZ x.way
theorem wJ (x:kL):A.an 0 (cW x)=some (.int .i64 x.time):=rfl
theorem wK (x:kL):A.an 1 (cW x)=some (.int .i64 x.way):=rfl
theorem wT (x:kL):A.az 0 2 (cW x)=some (.agg (cW x)):=rfl
theorem wQ (x:kL):A.cells 2 (.agg (cW x))=some (cW x):=rfl
theorem wV (x:kL) (l:List U) (h:l.length=2):A.splice 0 (cW x) l=some (cW x):=by
 simp [A.splice,aei,h]
structure rB where
 kind:Int
 points:(List kL)
def oq (x:rB):List U:=[.int .i64 x.kind,sl 2 cW x.points]
theorem aef (x:rB):(oq x).length=2:=rfl
def aij (x:rB):Prop:=aZ x.kind∧(cH WY) x.points
theorem mF (x:rB):A.an 0 (oq x)=some (.int .i64 x.kind):=rfl
theorem mG (x:rB):A.an 1 (oq x)=some (sl 2 cW x.points):=rfl
theorem mI (x:rB):A.az 0 2 (oq x)=some (.agg (oq x)):=rfl
theorem mH (x:rB):A.cells 2 (.agg (oq x))=some (oq x):=rfl
theorem mJ (x:rB) (l:List U) (h:l.length=2):A.splice 0 (oq x) l=some (oq x):=by
 simp [A.splice,aef,h]
structure XT where
 qn:Int
 to:Int
 start:Int
 delay:Int
 time:Int
 dg:rB
structure ahp where
 time:Int
 level:Int
deriving DecidableEq
structure ng where
 low:Int
 high:Int
 name:ByteArray
deriving DecidableEq
def jR (x:ng):List U:=[.int .i64 x.low,.int .i64 x.high,.str x.name]
theorem aej (x:ng):(jR x).length=3:=rfl
def PA (x:ng):Prop:=aZ x.low∧aZ x.high∧gD x.name
theorem wL (x:ng):A.an 0 (jR x)=some (.int .i64 x.low):=rfl
theorem wM (x:ng):A.an 1 (jR x)=some (.int .i64 x.high):=rfl
theorem wN (x:ng):A.an 2 (jR x)=some (.str x.name):=rfl
theorem wU (x:ng):A.az 0 3 (jR x)=some (.agg (jR x)):=rfl
theorem wR (x:ng):A.cells 3 (.agg (jR x))=some (jR x):=rfl
theorem wW (x:ng) (l:List U) (h:l.length=3):A.splice 0 (jR x) l=some (jR x):=by
 simp [A.splice,aej,h]
structure dI where
 name:ByteArray
 group:Int
 gQ:Int
 fq:Int
 default:Int
 snap:Bool
 ranges:(List ng)
def cm (x:dI):List U:=[.str x.name,.int .i64 x.group,.int .i64 x.gQ,.int .i64 x.fq,.int .i64 x.default,.bool x.snap,sl 3 jR x.ranges]
theorem aeh (x:dI):(cm x).length=7:=rfl
def Pz (x:dI):Prop:=gD x.name∧aZ x.group∧aZ x.gQ∧aZ x.fq∧aZ x.default∧(cH PA) x.ranges
theorem nF (x:dI):A.an 0 (cm x)=some (.str x.name):=rfl
theorem nG (x:dI):A.an 1 (cm x)=some (.int .i64 x.group):=rfl
theorem nH (x:dI):A.an 2 (cm x)=some (.int .i64 x.gQ):=rfl
theorem nI (x:dI):A.an 3 (cm x)=some (.int .i64 x.fq):=rfl
theorem nJ (x:dI):A.an 4 (cm x)=some (.int .i64 x.default):=rfl
theorem nK (x:dI):A.an 5 (cm x)=some (.bool x.snap):=rfl
theorem nL (x:dI):A.an 6 (cm x)=some (sl 3 jR x.ranges):=rfl
theorem mT (x:dI):A.az 0 7 (cm x)=some (.agg (cm x)):=rfl
theorem mS (x:dI):A.cells 7 (.agg (cm x))=some (cm x):=rfl
theorem kD (x:dI) (l:List U) (h:l.length=7):A.splice 0 (cm x) l=some (cm x):=by
 simp [A.splice,aeh,h]
structure bV where
 name:ByteArray
 size:Int
 params:(List dI)
def cA (x:bV):List U:=[.str x.name,.int .i64 x.size,sl 7 cm x.params]
theorem acH (x:bV):(cA x).length=3:=rfl
def BC (x:bV):Prop:=gD x.name∧aZ x.size∧(cH Pz) x.params
theorem kW (x:bV):A.an 0 (cA x)=some (.str x.name):=rfl
theorem kX (x:bV):A.an 1 (cA x)=some (.int .i64 x.size):=rfl
theorem kY (x:bV):A.an 2 (cA x)=some (sl 7 cm x.params):=rfl
theorem lg (x:bV):A.az 0 3 (cA x)=some (.agg (cA x)):=rfl
theorem kZ (x:bV):A.cells 3 (.agg (cA x))=some (cA x):=rfl
theorem jQ (x:bV) (l:List U) (h:l.length=3):A.splice 0 (cA x) l=some (cA x):=by
 simp [A.splice,acH,h]
structure bX where
 number:Int
 profile:ByteArray
 univ:Int
 address:Int
deriving DecidableEq
def bQ (x:bX):List U:=[.int .i64 x.number,.str x.profile,.int .i64 x.univ,.int .i64 x.address]
theorem afm (x:bX):(bQ x).length=4:=rfl
def XC (x:bX):Prop:=aZ x.number∧gD x.profile∧aZ x.univ∧aZ x.address
theorem kq (x:bX):A.an 0 (bQ x)=some (.int .i64 x.number):=rfl
theorem kr (x:bX):A.an 1 (bQ x)=some (.str x.profile):=rfl
theorem ku (x:bX):A.an 2 (bQ x)=some (.int .i64 x.univ):=rfl
theorem kC (x:bX):A.an 3 (bQ x)=some (.int .i64 x.address):=rfl
theorem jA (x:bX):A.az 0 4 (bQ x)=some (.agg (bQ x)):=rfl
theorem jx (x:bX):A.cells 4 (.agg (bQ x))=some (bQ x):=rfl
theorem jh (x:bX) (l:List U) (h:l.length=4):A.splice 0 (bQ x) l=some (bQ x):=by
 simp [A.splice,afm,h]
structure bu where
 bz:(List bV)
 units:(List bX)
def aP (x:bu):List U:=[sl 3 cA x.bz,sl 4 bQ x.units]
theorem agv (x:bu):(aP x).length=2:=rfl
def fU (x:bu):Prop:=(cH BC) x.bz∧(cH XC) x.units
theorem lQ (x:bu):A.an 0 (aP x)=some (sl 3 cA x.bz):=rfl
theorem lR (x:bu):A.an 1 (aP x)=some (sl 4 bQ x.units):=rfl
theorem lT (x:bu):A.az 0 2 (aP x)=some (.agg (aP x)):=rfl
theorem lS (x:bu):A.cells 2 (.agg (aP x))=some (aP x):=rfl
theorem lU (x:bu) (l:List U) (h:l.length=2):A.splice 0 (aP x) l=some (aP x):=by
 simp [A.splice,agv,h]
structure aA where
 unit:Int
 param:ByteArray
deriving DecidableEq
def aK (x:aA):List U:=[.int .i64 x.unit,.str x.param]
theorem agu (x:aA):(aK x).length=2:=rfl
def Yo (x:aA):Prop:=aZ x.unit∧gD x.param
theorem On (x:aA):A.an 0 (aK x)=some (.int .i64 x.unit):=rfl
theorem Oo (x:aA):A.an 1 (aK x)=some (.str x.param):=rfl
theorem Ky (x:aA):A.az 0 2 (aK x)=some (.agg (aK x)):=rfl
theorem Pd (x:aA):A.cells 2 (.agg (aK x))=some (aK x):=rfl
theorem Aw (x:aA) (l:List U) (h:l.length=2):A.splice 0 (aK x) l=some (aK x):=by
 simp [A.splice,agu,h]
structure bW where
 key:aA
 level:Int
deriving DecidableEq
def dc (x:bW):List U:=[.int .i64 x.key.unit,.str x.key.param,.int .i64 x.level]
theorem acI (x:bW):(dc x).length=3:=rfl
def U2 (x:bW):Prop:=Yo x.key∧aZ x.level
theorem Bx (x:bW) (l:List U) (h:l.length=3):A.splice 0 (dc x) l=some (dc x):=by
 simp [A.splice,acI,h]
structure bO where
 number:Int
 title:ByteArray
 iY:(List bW)
def eB (x:bO):List U:=[.int .i64 x.number,.str x.title,sl 3 dc x.iY]
theorem adl (x:bO):(eB x).length=3:=rfl
def mV (x:bO):Prop:=aZ x.number∧gD x.title∧(cH U2) x.iY
theorem DJ (x:bO) (l:List U) (h:l.length=3):A.splice 0 (eB x) l=some (eB x):=by
 simp [A.splice,adl,h]
structure aj4 where
 alg:(List Int)
 block:Int
 alw:Int
structure iG where
 level:Int
 dz:Int
deriving DecidableEq
def ou (x:iG):List U:=[.int .i64 x.level,.int .i64 x.dz]
def aik (x:iG):Prop:=aZ x.level∧aZ x.dz
structure aS where
 key:aA
 value:iG
 release:Bool
 yR:Bool
 delay:Int
 time:Int
deriving DecidableEq
def aF (x:aS):List U:=[.int .i64 x.key.unit,.str x.key.param,.int .i64 x.value.level,.int .i64 x.value.dz,.bool x.release,.bool x.yR,.int .i64 x.delay,.int .i64 x.time]
theorem afl (x:aS):(aF x).length=8:=rfl
def tv (x:aS):Prop:=Yo x.key∧aik x.value∧aZ x.delay∧aZ x.time
theorem aeA (x:aS):A.an 0 (aF x)=some (.int .i64 x.key.unit):=rfl
theorem aeB (x:aS):A.an 1 (aF x)=some (.str x.key.param):=rfl
theorem aeC (x:aS):A.an 2 (aF x)=some (.int .i64 x.value.level):=rfl
theorem aeD (x:aS):A.an 3 (aF x)=some (.int .i64 x.value.dz):=rfl
theorem aeE (x:aS):A.an 4 (aF x)=some (.bool x.release):=rfl
theorem aeF (x:aS):A.an 5 (aF x)=some (.bool x.yR):=rfl
theorem aeG (x:aS):A.an 6 (aF x)=some (.int .i64 x.delay):=rfl
theorem aeH (x:aS):A.an 7 (aF x)=some (.int .i64 x.time):=rfl
theorem Bu (x:aS):A.az 0 2 (aF x)=some (.agg (aK x.key)):=rfl
theorem Tc (x:aS):A.az 2 2 (aF x)=some (.agg (ou x.value)):=rfl
theorem tj (x:aS):A.az 0 8 (aF x)=some (.agg (aF x)):=rfl
theorem yz (x:aS):A.cells 8 (.agg (aF x))=some (aF x):=rfl
theorem sx (x:aS) (l:List U) (h:l.length=8):A.splice 0 (aF x) l=some (aF x):=by
 simp [A.splice,afl,h]
structure aO where
 number:Int
 title:ByteArray
 delay:Int
 up:Int
 down:Int
 other:Int
 dg:rB
 block:Bool
 follow:Int
 aJ:(List aS)
def aM (x:aO):List U:=[.int .i64 x.number,.str x.title,.int .i64 x.delay,.int .i64 x.up,.int .i64 x.down,.int .i64 x.other,.int .i64 x.dg.kind,sl 2 cW x.dg.points,.bool x.block,.int .i64 x.follow,sl 8 aF x.aJ]
theorem agt (x:aO):(aM x).length=11:=rfl
def lX (x:aO):Prop:=aZ x.number∧gD x.title∧aZ x.delay∧aZ x.up∧aZ x.down∧aZ x.other∧aij x.dg∧aZ x.follow∧(cH tv) x.aJ
theorem uJ (x:aO):A.az 0 11 (aM x)=some (.agg (aM x)):=rfl
theorem F4 (x:aO):A.cells 11 (.agg (aM x))=some (aM x):=rfl
theorem yF (x:aO) (l:List U) (h:l.length=11):A.splice 0 (aM x) l=some (aM x):=by
 simp [A.splice,agt,h]
structure bJ where
 key:aA
 value:iG
 RD:Int
deriving DecidableEq
def cz (x:bJ):List U:=[.int .i64 x.key.unit,.str x.key.param,.int .i64 x.value.level,.int .i64 x.value.dz,.int .i64 x.RD]
theorem aeg (x:bJ):(cz x).length=5:=rfl
theorem aga (x:bJ) (l:List U) (h:l.length=5):A.splice 0 (cz x) l=some (cz x):=by
 simp [A.splice,aeg,h]
structure jk where
 unit:Int
 qn:Int
 to:Int
deriving DecidableEq
def cZ (x:jk):List U:=[.int .i64 x.unit,.int .i64 x.qn,.int .i64 x.to]
theorem afk (x:jk):(cZ x).length=3:=rfl
theorem V4 (x:jk):A.az 0 3 (cZ x)=some (.agg (cZ x)):=rfl
theorem VC (x:jk):A.cells 3 (.agg (cZ x))=some (cZ x):=rfl
theorem Wk (x:jk) (l:List U) (h:l.length=3):A.splice 0 (cZ x) l=some (cZ x):=by
 simp [A.splice,afk,h]
structure XU where
 number:Int
 alx:(List aO)
structure UG where
 number:Int
 list:Int
 priority:Int
deriving DecidableEq
structure aiT where
 rig:bu
 au:(List bO)
 lists:(List XU)
 ale:(List UG)
structure Wp where
 time:Int
 kind:Int
 ag7:Int
 RD:Int
 level:Int
deriving DecidableEq
structure aiR where
 gQ:Int
 action:Wp
deriving DecidableEq
structure aiU where
 hours:Int
 minutes:Int
 seconds:Int
 frames:Int
deriving DecidableEq
structure Yx where
 key:aA
 akv:XT
 alk:Int
 ending:Bool
structure afh where
 ag7:Int
 RD:Int
 alo:Int
 alj:Bool
 follow:Int
 runs:(List Yx)
structure TF where
 level:Int
 hold:Int
 akv:Int
deriving DecidableEq
structure Wq where
 form:Int
 low:Int
 high:Int
 alm:Int
 width:Int
 spread:Int
 back:Bool
 alf:Bool
 steps:(List TF)
structure XV where
 time:Int
 alh:Int
deriving DecidableEq
structure ago where
 effect:Wq
 keys:(List aA)
 start:Int
 alu:(List XV)
 EU:Int
 fin:Int
 out:Int
def IN:List U→Heap→Option (U×Heap):=A.cM fun a b σ=>match a,b with
 |.str a,.str b=>some (.int .i64 (Lib.compareBytes a.data.toList b.data.toList),σ)
 |_,_=>none
def su:List U→Heap→Option (U×Heap):=A.cM fun a b σ=>match a,b with
 |.sl sz es,.os id g sz' off len=>match σ[id]? with
  |some (.arr h s es')=>if es≠[]∧g=h∧es'≠[]∧0<len then some (.bool false,σ)else none
  |_=>none
 |_,_=>none
section
set_option maxRecDepth 100000
noncomputable def Ir (dyn:Nat→List U→Heap→Option (U×Heap)) (a0 a1:U) (σ:Heap):Option (U×Heap):=
 (A.aT a0).bind fun x1=>
 (A.loop (fun v2 s3=>
   (A.lss (v2.getD 1 U.undef) x1).bind fun x5=>
   A.cond x5 (
    (A.aN 3 a0 (v2.getD 1 U.undef)).bind fun x6=>
    ((A.deref x6 s3).bind fun c7=>A.az 0 3 c7).bind fun x8=>
    (A.iI dyn a1 [x8] s3).bind fun r9=>
    A.cond r9.1 (
     some (AX.ret,[(v2.getD 1 U.undef),(v2.getD 1 U.undef)],r9.2)) (
     (A.add (v2.getD 1 U.undef) aI).bind fun bf=>
     some (AX.normal,[(v2.getD 0 U.undef),bf],r9.2))) (
    some (AX.exit 0,[(v2.getD 0 U.undef),(v2.getD 1 U.undef)],s3))) [ah,ah] σ).bind fun cD=>
 bif cD.1==AX.exit 0 then(
  A.fin σ (U.int .i64 (-1)) cD.2.2)else
 bif cD.1==AX.ret then(
  A.fin σ (cD.2.1.getD 0 U.undef) cD.2.2)else
 none
noncomputable def yp (dyn:Nat→List U→Heap→Option (U×Heap)):List U→Heap→Option (U×Heap):=A.wrap true [(.s 3)] .k (A.cM (Ir dyn))
noncomputable def Iz (dyn:Nat→List U→Heap→Option (U×Heap)) (a0 a1:U) (σ:Heap):Option (U×Heap):=
 (A.aT a0).bind fun x1=>
 (A.loop (fun v2 s3=>
   (A.lss (v2.getD 1 U.undef) x1).bind fun x5=>
   A.cond x5 (
    (A.aN 2 a0 (v2.getD 1 U.undef)).bind fun x6=>
    ((A.deref x6 s3).bind fun c7=>A.az 0 2 c7).bind fun x8=>
    (A.iI dyn a1 [x8] s3).bind fun r9=>
    A.cond r9.1 (
     some (AX.ret,[(v2.getD 1 U.undef),(v2.getD 1 U.undef)],r9.2)) (
     (A.add (v2.getD 1 U.undef) aI).bind fun bf=>
     some (AX.normal,[(v2.getD 0 U.undef),bf],r9.2))) (
    some (AX.exit 0,[(v2.getD 0 U.undef),(v2.getD 1 U.undef)],s3))) [ah,ah] σ).bind fun cD=>
 bif cD.1==AX.exit 0 then(
  A.fin σ (U.int .i64 (-1)) cD.2.2)else
 bif cD.1==AX.ret then(
  A.fin σ (cD.2.1.getD 0 U.undef) cD.2.2)else
 none
noncomputable def Ix (dyn:Nat→List U→Heap→Option (U×Heap)):List U→Heap→Option (U×Heap):=A.wrap true [(.s 2)] .k (A.cM (Iz dyn))
noncomputable def It (dyn:Nat→List U→Heap→Option (U×Heap)) (a0 a1:U) (σ:Heap):Option (U×Heap):=
 (Ix dyn [a0,a1] σ).bind fun r1=>
 (A.geq r1.1 ah).bind fun x2=>
 A.fin σ x2 r1.2
noncomputable def Is (dyn:Nat→List U→Heap→Option (U×Heap)):List U→Heap→Option (U×Heap):=A.wrap true [(.s 2)] .k (A.cM (It dyn))
noncomputable def Iv (dyn:Nat→List U→Heap→Option (U×Heap)) (a0 a1:U) (σ:Heap):Option (U×Heap):=
 (A.aT a0).bind fun x1=>
 (A.loop (fun v2 s3=>
   (A.lss (v2.getD 1 U.undef) x1).bind fun x5=>
   A.cond x5 (
    (A.aN 8 a0 (v2.getD 1 U.undef)).bind fun x6=>
    ((A.deref x6 s3).bind fun c7=>A.az 0 8 c7).bind fun x8=>
    (A.iI dyn a1 [x8] s3).bind fun r9=>
    A.cond r9.1 (
     some (AX.ret,[(v2.getD 1 U.undef),(v2.getD 1 U.undef)],r9.2)) (
     (A.add (v2.getD 1 U.undef) aI).bind fun bf=>
     some (AX.normal,[(v2.getD 0 U.undef),bf],r9.2))) (
    some (AX.exit 0,[(v2.getD 0 U.undef),(v2.getD 1 U.undef)],s3))) [ah,ah] σ).bind fun cD=>
 bif cD.1==AX.exit 0 then(
  A.fin σ (U.int .i64 (-1)) cD.2.2)else
 bif cD.1==AX.ret then(
  A.fin σ (cD.2.1.getD 0 U.undef) cD.2.2)else
 none
noncomputable def Iu (dyn:Nat→List U→Heap→Option (U×Heap)):List U→Heap→Option (U×Heap):=A.wrap true [(.s 8)] .k (A.cM (Iv dyn))
noncomputable def Iq (dyn:Nat→List U→Heap→Option (U×Heap)) (a0 a1:U) (σ:Heap):Option (U×Heap):=
 (Iu dyn [a0,a1] σ).bind fun r1=>
 (A.geq r1.1 ah).bind fun x2=>
 A.fin σ x2 r1.2
noncomputable def E3 (dyn:Nat→List U→Heap→Option (U×Heap)):List U→Heap→Option (U×Heap):=A.wrap true [(.s 8)] .k (A.cM (Iq dyn))
noncomputable def Mn (a0 a1:U) (σ:Heap):Option (U×Heap):=
 (A.aT a0).bind fun x1=>
 (A.loop (fun v2 s3=>
   (A.lss (v2.getD 1 U.undef) x1).bind fun x5=>
   A.cond x5 (
    (A.aN 1 a0 (v2.getD 1 U.undef)).bind fun x6=>
    ((A.deref x6 s3).bind fun c7=>A.an 0 c7).bind fun x8=>
    (A.eql .i a1 x8).bind fun x9=>
    A.cond x9 (
     some (AX.ret,[(v2.getD 1 U.undef),(v2.getD 1 U.undef)],s3)) (
     (A.add (v2.getD 1 U.undef) aI).bind fun bf=>
     some (AX.normal,[(v2.getD 0 U.undef),bf],s3))) (
    some (AX.exit 0,[(v2.getD 0 U.undef),(v2.getD 1 U.undef)],s3))) [ah,ah] σ).bind fun cD=>
 bif cD.1==AX.exit 0 then(
  A.fin σ (U.int .i64 (-1)) cD.2.2)else
 bif cD.1==AX.ret then(
  A.fin σ (cD.2.1.getD 0 U.undef) cD.2.2)else
 none
noncomputable def Mk:List U→Heap→Option (U×Heap):=A.wrap true [(.s 1)] .k (A.cM Mn)
noncomputable def Mf (a0 a1:U) (σ:Heap):Option (U×Heap):=
 (Mk [a0,a1] σ).bind fun r1=>
 (A.geq r1.1 ah).bind fun x2=>
 A.fin σ x2 r1.2
noncomputable def IG:List U→Heap→Option (U×Heap):=A.wrap true [(.s 1)] .k (A.cM Mf)
noncomputable def L0 (a0:U) (σ:Heap):Option (U×Heap):=
 (A.vU a0 U.aH).bind fun x1=>
 A.cond x1 (
  some (U.aH,σ)) (
  (A.append 5 (140737488355328 / 48) U.ez a0 σ).bind fun r2=>
  some (r2.1,r2.2))
noncomputable def IC:List U→Heap→Option (U×Heap):=A.BS (A.wrap true [(.s 5)] .k (A.dU L0))
noncomputable def IA (a0 a1 a2:U) (σ:Heap):Option (U×Heap):=
 (A.aT a0).bind fun x1=>
 (A.slice3 a0 (some a1) a2 x1).bind fun x2=>
 (A.eql .i a1 a2).bind fun x3=>
 A.cond x3 (
  A.renew [a0,a1,a2] σ a0 σ) (
  (A.aT a0).bind fun x4=>
  (A.bG 5 a0 none (some a1) σ).bind fun x5=>
  (A.bG 5 a0 (some a2) none σ).bind fun x6=>
  (A.append 5 (140737488355328 / 48) x5 x6 σ).bind fun r7=>
  (A.aT r7.1).bind fun x8=>
  (A.bG 5 r7.1 (some x8) (some x4) r7.2).bind fun x9=>
  (A.AA 5 [ah,aW,ah,ah,ah] x9 r7.2).bind fun CJ=>
  A.renew [a0,a1,a2] σ r7.1 CJ)
noncomputable def C8:List U→Heap→Option (U×Heap):=A.wrap false [] .k (A.eG IA)
noncomputable def SM (a0:U) (σ:Heap):Option (U×Heap):=
 (A.aT a0).bind fun x1=>
 (A.sub x1 aI).bind fun x2=>
 (A.loop (fun v3 s4=>
   (A.lss (v3.getD 0 U.undef) (v3.getD 1 U.undef)).bind fun x6=>
   A.cond x6 (
    (A.aN 5 a0 (v3.getD 1 U.undef)).bind fun x7=>
    ((A.deref x7 s4).bind fun c8=>A.az 0 5 c8).bind fun x9=>
    (A.aN 5 a0 (v3.getD 0 U.undef)).bind fun bf=>
    ((A.deref bf s4).bind fun dw=>A.az 0 5 dw).bind fun bC=>
    (A.aN 5 a0 (v3.getD 0 U.undef)).bind fun bF=>
    (A.cells 5 x9).bind fun gh=>
    (A.storeAt bF gh s4).bind fun fV=>
    (A.aN 5 a0 (v3.getD 1 U.undef)).bind fun bl=>
    (A.cells 5 bC).bind fun iN=>
    (A.storeAt bl iN fV).bind fun eu=>
    (A.add (v3.getD 0 U.undef) aI).bind fun cg=>
    (A.sub (v3.getD 1 U.undef) aI).bind fun bI=>
    some (AX.normal,[cg,bI],eu)) (
    some (AX.exit 0,[(v3.getD 0 U.undef),(v3.getD 1 U.undef)],s4))) [ah,x2] σ).bind fun dV=>
 bif dV.1==AX.exit 0 then(
  some ((U.aL []),dV.2.2))else
 none
noncomputable def E6:List U→Heap→Option (U×Heap):=A.wrap false [] .k (A.dU SM)
noncomputable def SJ (a0 a1:U) (σ:Heap):Option (U×Heap):=
 (A.bG 5 a0 none (some a1) σ).bind fun x1=>
 (E6 [x1] σ).bind fun r2=>
 (A.bG 5 a0 (some a1) none r2.2).bind fun x3=>
 (E6 [x3] r2.2).bind fun r4=>
 (E6 [a0] r4.2).bind fun r5=>
 some ((U.aL []),r5.2)
noncomputable def LX:List U→Heap→Option (U×Heap):=A.wrap false [] .k (A.cM SJ)
noncomputable def SI (a0 a1:U) (σ:Heap):Option (U×Heap):=
 (A.aT a0).bind fun x1=>
 (A.sub x1 a1).bind fun x2=>
 (LX [a0,x2] σ).bind fun r3=>
 some ((U.aL []),r3.2)
noncomputable def E4:List U→Heap→Option (U×Heap):=A.wrap false [] .k (A.cM SI)
noncomputable def IB (a0 a1 a2:U) (σ:Heap):Option (U×Heap):=
 (A.bG 5 a0 (some a1) none σ).bind fun x1=>
 (A.aT a2).bind fun x2=>
 (A.eql .i x2 ah).bind fun x3=>
 A.cond x3 (
  A.renew [a0,a1,a2] σ a0 σ) (
  (A.aT a0).bind fun x4=>
  (A.eql .i a1 x4).bind fun x5=>
  A.cond x5 (
   (A.append 5 (140737488355328 / 48) a0 a2 σ).bind fun r6=>
   A.renew [a0,a1,a2] σ r6.1 r6.2) (
   (A.add x4 x2).bind fun x7=>
   A.yY (A.Ep a0) (fun x8=>
    (A.gtr x7 x8).bind fun x9=>
    A.cond x9 (
     (A.bG 5 a0 none (some a1) σ).bind fun bf=>
     (A.add x4 x2).bind fun bN=>
     (A.sub bN a1).bind fun bC=>
     (A.tu 5 (140737488355328 / 48) [ah,aW,ah,ah,ah] bf bC σ).bind fun fR=>
     (A.bG 5 fR.1 (some a1) none fR.2).bind fun bw=>
     (A.iJ 5 bw a2 fR.2).bind fun dG=>
     (A.add a1 x2).bind fun bl=>
     (A.bG 5 fR.1 (some bl) none dG.2).bind fun bZ=>
     (A.bG 5 a0 (some a1) none dG.2).bind fun cU=>
     (A.iJ 5 bZ cU dG.2).bind fun mO=>
     A.renew [a0,a1,a2] σ fR.1 mO.2) (
     (A.add x4 x2).bind fun bI=>
     (A.bG 5 a0 none (some bI) σ).bind fun bg=>
     (A.add a1 x2).bind fun bB=>
     (A.bG 5 bg (some bB) none σ).bind fun ct=>
     (su [a2,ct] σ).bind fun gr=>
     (A.not gr.1).bind fun x25=>
     A.cond x25 (
      (A.add a1 x2).bind fun cN=>
      (A.bG 5 bg (some cN) none gr.2).bind fun cR=>
      (A.bG 5 bg (some a1) none gr.2).bind fun x28=>
      (A.iJ 5 cR x28 gr.2).bind fun kI=>
      (A.bG 5 bg (some a1) none kI.2).bind fun cO=>
      (A.iJ 5 cO a2 kI.2).bind fun dQ=>
      A.renew [a0,a1,a2] σ bg dQ.2) (
      (A.bG 5 bg (some x4) none gr.2).bind fun x32=>
      (A.iJ 5 x32 a2 gr.2).bind fun lM=>
      (A.bG 5 bg (some a1) none lM.2).bind fun x34=>
      (E4 [x34,x2] lM.2).bind fun wg=>
      A.renew [a0,a1,a2] σ bg wg.2))) (A.yZ a0 σ fun n36 qw=>
    (A.gtr x7 (U.int .i64 n36)).bind fun x38=>
    A.cond x38 (
     (A.bG 5 a0 none (some a1) qw).bind fun gy=>
     (A.add x4 x2).bind fun fG=>
     (A.sub fG a1).bind fun fW=>
     (A.tu 5 (140737488355328 / 48) [ah,aW,ah,ah,ah] gy fW qw).bind fun qv=>
     (A.bG 5 qv.1 (some a1) none qv.2).bind fun fM=>
     (A.iJ 5 fM a2 qv.2).bind fun lN=>
     (A.add a1 x2).bind fun ew=>
     (A.bG 5 qv.1 (some ew) none lN.2).bind fun ia=>
     (A.bG 5 a0 (some a1) none lN.2).bind fun dK=>
     (A.iJ 5 ia dK lN.2).bind fun mD=>
     A.renew [a0,a1,a2] σ qv.1 mD.2) (
     (A.add x4 x2).bind fun ig=>
     (A.bG 5 a0 none (some ig) qw).bind fun fC=>
     (A.add a1 x2).bind fun ef=>
     (A.bG 5 fC (some ef) none qw).bind fun eM=>
     (su [a2,eM] qw).bind fun iX=>
     (A.not iX.1).bind fun ga=>
     A.cond ga (
      (A.add a1 x2).bind fun iP=>
      (A.bG 5 fC (some iP) none iX.2).bind fun gO=>
      (A.bG 5 fC (some a1) none iX.2).bind fun jf=>
      (A.iJ 5 gO jf iX.2).bind fun Bi=>
      (A.bG 5 fC (some a1) none Bi.2).bind fun jv=>
      (A.iJ 5 jv a2 Bi.2).bind fun sS=>
      A.renew [a0,a1,a2] σ fC sS.2) (
      (A.bG 5 fC (some x4) none iX.2).bind fun gH=>
      (A.iJ 5 gH a2 iX.2).bind fun nZ=>
      (A.bG 5 fC (some a1) none nZ.2).bind fun dW=>
      (E4 [dW,x2] nZ.2).bind fun r64=>
      A.renew [a0,a1,a2] σ fC r64.2)))))
noncomputable def E7:List U→Heap→Option (U×Heap):=A.wrap false [] .k (A.eG IB)
noncomputable def L4 (a0 a1:U) (σ:Heap):Option (U×Heap):=
 (A.aT a0).bind fun x1=>
 (A.aT a1).bind fun x2=>
 (A.neq .i x1 x2).bind fun x3=>
 A.cond x3 (
  A.fin σ aD σ) (
  (A.aT a0).bind fun x4=>
  (A.loop (fun v5 s6=>
    (A.lss (v5.getD 1 U.undef) x4).bind fun x8=>
    A.cond x8 (
     (A.aN 3 a0 (v5.getD 1 U.undef)).bind fun x9=>
     ((A.deref x9 s6).bind fun dr=>A.az 0 3 dr).bind fun bN=>
     (A.aN 3 a1 (v5.getD 1 U.undef)).bind fun bC=>
     ((A.deref bC s6).bind fun ep=>A.az 0 3 ep).bind fun bw=>
     (A.neq (.s [0,0,0]) bN bw).bind fun bU=>
     A.cond bU (
      some (AX.ret,[aD,(v5.getD 1 U.undef)],s6)) (
      (A.add (v5.getD 1 U.undef) aI).bind fun bl=>
      some (AX.normal,[(v5.getD 0 U.undef),bl],s6))) (
     some (AX.exit 0,[(v5.getD 0 U.undef),(v5.getD 1 U.undef)],s6))) [aD,ah] σ).bind fun eT=>
  bif eT.1==AX.exit 0 then(
   A.fin σ br eT.2.2)else
  bif eT.1==AX.ret then(
   A.fin σ (eT.2.1.getD 0 U.undef) eT.2.2)else
  none)
noncomputable def L2:List U→Heap→Option (U×Heap):=A.wrap true [(.s 3),(.s 3)] .k (A.cM L4)
noncomputable def SO (a0:U) (σ:Heap):Option (U×Heap):=
 (A.vU a0 U.aH).bind fun x1=>
 A.cond x1 (
  some (U.aH,σ)) (
  (A.append 2 (140737488355328 / 16) U.ez a0 σ).bind fun r2=>
  some (r2.1,r2.2))
noncomputable def C9:List U→Heap→Option (U×Heap):=A.BS (A.wrap true [(.s 2)] .k (A.dU SO))
noncomputable def SR (a0:U) (σ:Heap):Option (U×Heap):=
 (A.vU a0 U.aH).bind fun x1=>
 A.cond x1 (
  some (U.aH,σ)) (
  (A.append 8 (140737488355328 / 64) U.ez a0 σ).bind fun r2=>
  some (r2.1,r2.2))
noncomputable def Dc:List U→Heap→Option (U×Heap):=A.BS (A.wrap true [(.s 8)] .k (A.dU SR))
noncomputable def C7 (dyn:Nat→List U→Heap→Option (U×Heap)) (a0 a1 a2:U) (σ:Heap):Option (U×Heap):=
 (A.aT a0).bind fun x1=>
 (A.loop (fun v2 s3=>
   (A.lss (v2.getD 0 U.undef) (v2.getD 1 U.undef)).bind fun x5=>
   A.cond x5 (
    (A.add (v2.getD 0 U.undef) (v2.getD 1 U.undef)).bind fun x6=>
    (A.conv .u64 x6).bind fun x7=>
    (A.shr x7 (U.int .u64 1)).bind fun x8=>
    (A.conv .i64 x8).bind fun x9=>
    (A.aN 11 a0 x9).bind fun bf=>
    ((A.deref bf s3).bind fun dw=>A.az 0 11 dw).bind fun bC=>
    (A.iI dyn a2 [bC,a1] s3).bind fun fR=>
    (A.lss fR.1 ah).bind fun bw=>
    (A.cond bw (
     (A.add x9 aI).bind fun bl=>
     some ([bl,(v2.getD 1 U.undef)],fR.2)) (
     some ([(v2.getD 0 U.undef),x9],fR.2))).bind fun dG=>
    some (AX.normal,[(dG.1.getD 0 U.undef),(dG.1.getD 1 U.undef)],dG.2)) (
    some (AX.exit 0,[(v2.getD 0 U.undef),(v2.getD 1 U.undef)],s3))) [ah,x1] σ).bind fun eT=>
 bif eT.1==AX.exit 0 then(
  (A.lss (eT.2.1.getD 0 U.undef) x1).bind fun cU=>
  (A.guard cU true (some a2) aj).bind fun cg=>
  (A.guard cU true (some a0) aj).bind fun bI=>
  (A.guard cU true (some (eT.2.1.getD 0 U.undef)) aj).bind fun bg=>
  (A.guard cU true (A.aN 11 bI bg) aj).bind fun bB=>
  (A.guard cU true ((A.deref bB eT.2.2).bind fun iV=>A.az 0 11 iV) aj).bind fun x24=>
  (A.guard cU true (some a1) aj).bind fun x25=>
  (A.guard cU true (A.quiet (A.iI dyn cg [x24,x25] eT.2.2) eT.2.2) aj).bind fun cN=>
  (A.guard cU true (A.eql .i cN ah) aj).bind fun cR=>
  (A.pick cU cR aD).bind fun x28=>
  A.fin σ (U.aL [(eT.2.1.getD 0 U.undef),x28]) eT.2.2)else
 none
noncomputable def C6 (dyn:Nat→List U→Heap→Option (U×Heap)):List U→Heap→Option (U×Heap):=A.wrap true [(.s 11)] .k (A.eG (C7 dyn))
noncomputable def Ip (dyn:Nat→List U→Heap→Option (U×Heap)) (a0 a1 a2:U) (σ:Heap):Option (U×Heap):=
 (A.cells 2 a1).bind fun c1=>
 (A.aT a0).bind fun x2=>
 (A.loop (fun v3 s4=>
   (A.lss (v3.getD 1 U.undef) (v3.getD 2 U.undef)).bind fun x6=>
   A.cond x6 (
    (A.add (v3.getD 1 U.undef) (v3.getD 2 U.undef)).bind fun x7=>
    (A.conv .u64 x7).bind fun x8=>
    (A.shr x8 (U.int .u64 1)).bind fun x9=>
    (A.conv .i64 x9).bind fun bf=>
    (A.aN 8 a0 bf).bind fun bN=>
    ((A.deref bN s4).bind fun bR=>A.az 0 8 bR).bind fun bF=>
    ((A.lb (v3.getD 0 U.undef)).bind fun gh=>A.az 0 2 gh).bind fun bU=>
    (A.quiet (A.iI dyn a2 [bF,bU] s4) s4).bind fun bl=>
    (A.lss bl ah).bind fun bZ=>
    (A.cond bZ (
     (A.add bf aI).bind fun cg=>
     some ([(v3.getD 0 U.undef),cg,(v3.getD 2 U.undef)],s4)) (
     some ([(v3.getD 0 U.undef),(v3.getD 1 U.undef),bf],s4))).bind fun cI=>
    some (AX.normal,[(cI.1.getD 0 U.undef),(cI.1.getD 1 U.undef),(cI.1.getD 2 U.undef)],cI.2)) (
    some (AX.exit 0,[(v3.getD 0 U.undef),(v3.getD 1 U.undef),(v3.getD 2 U.undef)],s4))) [(U.lbx c1),ah,x2] σ).bind fun fA=>
 bif fA.1==AX.exit 0 then(
  (A.lss (fA.2.1.getD 1 U.undef) x2).bind fun bg=>
  (A.guard bg true (some a2) aj).bind fun bB=>
  (A.guard bg true (some a0) aj).bind fun ct=>
  (A.guard bg true (some (fA.2.1.getD 1 U.undef)) aj).bind fun x24=>
  (A.guard bg true (A.aN 8 ct x24) aj).bind fun x25=>
  (A.guard bg true ((A.deref x25 fA.2.2).bind fun jE=>A.az 0 8 jE) aj).bind fun cR=>
  (A.guard bg true ((A.lb (fA.2.1.getD 0 U.undef)).bind fun mu=>A.az 0 2 mu) aj).bind fun x29=>
  (A.guard bg true (A.quiet (A.iI dyn bB [cR,x29] fA.2.2) fA.2.2) aj).bind fun cO=>
  (A.guard bg true (A.eql .i cO ah) aj).bind fun x31=>
  (A.pick bg x31 aD).bind fun x32=>
  A.fin σ (U.aL [(fA.2.1.getD 1 U.undef),x32]) fA.2.2)else
 none
noncomputable def Io (dyn:Nat→List U→Heap→Option (U×Heap)):List U→Heap→Option (U×Heap):=A.wrap true [(.s 8)] .k (A.eG (Ip dyn))
noncomputable def ID (a0 a1 a2:U) (σ:Heap):Option (U×Heap):=
 (A.aT a0).bind fun x1=>
 (A.slice3 a0 (some a1) a2 x1).bind fun x2=>
 (A.eql .i a1 a2).bind fun x3=>
 A.cond x3 (
  A.renew [a0,a1,a2] σ a0 σ) (
  (A.aT a0).bind fun x4=>
  (A.bG 8 a0 none (some a1) σ).bind fun x5=>
  (A.bG 8 a0 (some a2) none σ).bind fun x6=>
  (A.append 8 (140737488355328 / 64) x5 x6 σ).bind fun r7=>
  (A.aT r7.1).bind fun x8=>
  (A.bG 8 r7.1 (some x8) (some x4) r7.2).bind fun x9=>
  (A.AA 8 [ah,aW,ah,ah,aD,aD,ah,ah] x9 r7.2).bind fun CJ=>
  A.renew [a0,a1,a2] σ r7.1 CJ)
noncomputable def Da:List U→Heap→Option (U×Heap):=A.wrap false [] .k (A.eG ID)
noncomputable def SN (a0:U) (σ:Heap):Option (U×Heap):=
 (A.aT a0).bind fun x1=>
 (A.sub x1 aI).bind fun x2=>
 (A.loop (fun v3 s4=>
   (A.lss (v3.getD 0 U.undef) (v3.getD 1 U.undef)).bind fun x6=>
   A.cond x6 (
    (A.aN 8 a0 (v3.getD 1 U.undef)).bind fun x7=>
    ((A.deref x7 s4).bind fun c8=>A.az 0 8 c8).bind fun x9=>
    (A.aN 8 a0 (v3.getD 0 U.undef)).bind fun bf=>
    ((A.deref bf s4).bind fun dw=>A.az 0 8 dw).bind fun bC=>
    (A.aN 8 a0 (v3.getD 0 U.undef)).bind fun bF=>
    (A.cells 8 x9).bind fun gh=>
    (A.storeAt bF gh s4).bind fun fV=>
    (A.aN 8 a0 (v3.getD 1 U.undef)).bind fun bl=>
    (A.cells 8 bC).bind fun iN=>
    (A.storeAt bl iN fV).bind fun eu=>
    (A.add (v3.getD 0 U.undef) aI).bind fun cg=>
    (A.sub (v3.getD 1 U.undef) aI).bind fun bI=>
    some (AX.normal,[cg,bI],eu)) (
    some (AX.exit 0,[(v3.getD 0 U.undef),(v3.getD 1 U.undef)],s4))) [ah,x2] σ).bind fun dV=>
 bif dV.1==AX.exit 0 then(
  some ((U.aL []),dV.2.2))else
 none
noncomputable def E8:List U→Heap→Option (U×Heap):=A.wrap false [] .k (A.dU SN)
noncomputable def SL (a0 a1:U) (σ:Heap):Option (U×Heap):=
 (A.bG 8 a0 none (some a1) σ).bind fun x1=>
 (E8 [x1] σ).bind fun r2=>
 (A.bG 8 a0 (some a1) none r2.2).bind fun x3=>
 (E8 [x3] r2.2).bind fun r4=>
 (E8 [a0] r4.2).bind fun r5=>
 some ((U.aL []),r5.2)
noncomputable def LY:List U→Heap→Option (U×Heap):=A.wrap false [] .k (A.cM SL)
noncomputable def SK (a0 a1:U) (σ:Heap):Option (U×Heap):=
 (A.aT a0).bind fun x1=>
 (A.sub x1 a1).bind fun x2=>
 (LY [a0,x2] σ).bind fun r3=>
 some ((U.aL []),r3.2)
noncomputable def E5:List U→Heap→Option (U×Heap):=A.wrap false [] .k (A.cM SK)
noncomputable def IE (a0 a1 a2:U) (σ:Heap):Option (U×Heap):=
 (A.bG 8 a0 (some a1) none σ).bind fun x1=>
 (A.aT a2).bind fun x2=>
 (A.eql .i x2 ah).bind fun x3=>
 A.cond x3 (
  A.renew [a0,a1,a2] σ a0 σ) (
  (A.aT a0).bind fun x4=>
  (A.eql .i a1 x4).bind fun x5=>
  A.cond x5 (
   (A.append 8 (140737488355328 / 64) a0 a2 σ).bind fun r6=>
   A.renew [a0,a1,a2] σ r6.1 r6.2) (
   (A.add x4 x2).bind fun x7=>
   A.yY (A.Ep a0) (fun x8=>
    (A.gtr x7 x8).bind fun x9=>
    A.cond x9 (
     (A.bG 8 a0 none (some a1) σ).bind fun bf=>
     (A.add x4 x2).bind fun bN=>
     (A.sub bN a1).bind fun bC=>
     (A.tu 8 (140737488355328 / 64) [ah,aW,ah,ah,aD,aD,ah,ah] bf bC σ).bind fun fR=>
     (A.bG 8 fR.1 (some a1) none fR.2).bind fun bw=>
     (A.iJ 8 bw a2 fR.2).bind fun dG=>
     (A.add a1 x2).bind fun bl=>
     (A.bG 8 fR.1 (some bl) none dG.2).bind fun bZ=>
     (A.bG 8 a0 (some a1) none dG.2).bind fun cU=>
     (A.iJ 8 bZ cU dG.2).bind fun mO=>
     A.renew [a0,a1,a2] σ fR.1 mO.2) (
     (A.add x4 x2).bind fun bI=>
     (A.bG 8 a0 none (some bI) σ).bind fun bg=>
     (A.add a1 x2).bind fun bB=>
     (A.bG 8 bg (some bB) none σ).bind fun ct=>
     (su [a2,ct] σ).bind fun gr=>
     (A.not gr.1).bind fun x25=>
     A.cond x25 (
      (A.add a1 x2).bind fun cN=>
      (A.bG 8 bg (some cN) none gr.2).bind fun cR=>
      (A.bG 8 bg (some a1) none gr.2).bind fun x28=>
      (A.iJ 8 cR x28 gr.2).bind fun kI=>
      (A.bG 8 bg (some a1) none kI.2).bind fun cO=>
      (A.iJ 8 cO a2 kI.2).bind fun dQ=>
      A.renew [a0,a1,a2] σ bg dQ.2) (
      (A.bG 8 bg (some x4) none gr.2).bind fun x32=>
      (A.iJ 8 x32 a2 gr.2).bind fun lM=>
      (A.bG 8 bg (some a1) none lM.2).bind fun x34=>
      (E5 [x34,x2] lM.2).bind fun wg=>
      A.renew [a0,a1,a2] σ bg wg.2))) (A.yZ a0 σ fun n36 qw=>
    (A.gtr x7 (U.int .i64 n36)).bind fun x38=>
    A.cond x38 (
     (A.bG 8 a0 none (some a1) qw).bind fun gy=>
     (A.add x4 x2).bind fun fG=>
     (A.sub fG a1).bind fun fW=>
     (A.tu 8 (140737488355328 / 64) [ah,aW,ah,ah,aD,aD,ah,ah] gy fW qw).bind fun qv=>
     (A.bG 8 qv.1 (some a1) none qv.2).bind fun fM=>
     (A.iJ 8 fM a2 qv.2).bind fun lN=>
     (A.add a1 x2).bind fun ew=>
     (A.bG 8 qv.1 (some ew) none lN.2).bind fun ia=>
     (A.bG 8 a0 (some a1) none lN.2).bind fun dK=>
     (A.iJ 8 ia dK lN.2).bind fun mD=>
     A.renew [a0,a1,a2] σ qv.1 mD.2) (
     (A.add x4 x2).bind fun ig=>
     (A.bG 8 a0 none (some ig) qw).bind fun fC=>
     (A.add a1 x2).bind fun ef=>
     (A.bG 8 fC (some ef) none qw).bind fun eM=>
     (su [a2,eM] qw).bind fun iX=>
     (A.not iX.1).bind fun ga=>
     A.cond ga (
      (A.add a1 x2).bind fun iP=>
      (A.bG 8 fC (some iP) none iX.2).bind fun gO=>
      (A.bG 8 fC (some a1) none iX.2).bind fun jf=>
      (A.iJ 8 gO jf iX.2).bind fun Bi=>
      (A.bG 8 fC (some a1) none Bi.2).bind fun jv=>
      (A.iJ 8 jv a2 Bi.2).bind fun sS=>
      A.renew [a0,a1,a2] σ fC sS.2) (
      (A.bG 8 fC (some x4) none iX.2).bind fun gH=>
      (A.iJ 8 gH a2 iX.2).bind fun nZ=>
      (A.bG 8 fC (some a1) none nZ.2).bind fun dW=>
      (E5 [dW,x2] nZ.2).bind fun r64=>
      A.renew [a0,a1,a2] σ fC r64.2)))))
noncomputable def Bp:List U→Heap→Option (U×Heap):=A.wrap false [] .k (A.eG IE)
noncomputable def SV (a0:U) (σ:Heap):Option (U×Heap):=
 (A.vU a0 U.aH).bind fun x1=>
 A.cond x1 (
  some (U.aH,σ)) (
  (A.append 11 (140737488355328 / 128) U.ez a0 σ).bind fun r2=>
  some (r2.1,r2.2))
noncomputable def IF:List U→Heap→Option (U×Heap):=A.BS (A.wrap true [(.s 11)] .k (A.dU SV))
noncomputable def Iy (dyn:Nat→List U→Heap→Option (U×Heap)) (a0 a1 a2:U) (σ:Heap):Option (U×Heap):=
 (A.aT a0).bind fun x1=>
 (A.aT a1).bind fun x2=>
 (A.neq .i x1 x2).bind fun x3=>
 A.cond x3 (
  A.fin σ aD σ) (
  (A.aT a0).bind fun x4=>
  (A.loop (fun v5 s6=>
    (A.lss (v5.getD 1 U.undef) x4).bind fun x8=>
    A.cond x8 (
     (A.aN 11 a0 (v5.getD 1 U.undef)).bind fun x9=>
     ((A.deref x9 s6).bind fun dr=>A.az 0 11 dr).bind fun bN=>
     (A.cells 11 bN).bind fun bR=>
     (A.splice 0 bR [ah,aW,ah,ah,ah,ah,ah,U.aH,aD,ah,U.aH]).bind fun ep=>
     (A.aN 11 a1 (v5.getD 1 U.undef)).bind fun bw=>
     ((A.deref bw s6).bind fun fV=>A.az 0 11 fV).bind fun bl=>
     (A.cells 11 bl).bind fun iN=>
     (A.splice 0 iN [ah,aW,ah,ah,ah,ah,ah,U.aH,aD,ah,U.aH]).bind fun eu=>
     (A.az 0 11 ep).bind fun cg=>
     (A.az 0 11 eu).bind fun bI=>
     (A.iI dyn a2 [cg,bI] s6).bind fun dV=>
     (A.not dV.1).bind fun bB=>
     A.cond bB (
      some (AX.ret,[aD,(v5.getD 1 U.undef)],dV.2)) (
      (A.add (v5.getD 1 U.undef) aI).bind fun ct=>
      some (AX.normal,[(v5.getD 0 U.undef),ct],dV.2))) (
     some (AX.exit 0,[(v5.getD 0 U.undef),(v5.getD 1 U.undef)],s6))) [aD,ah] σ).bind fun gr=>
  bif gr.1==AX.exit 0 then(
   A.fin σ br gr.2.2)else
  bif gr.1==AX.ret then(
   A.fin σ (gr.2.1.getD 0 U.undef) gr.2.2)else
  none)
noncomputable def Iw (dyn:Nat→List U→Heap→Option (U×Heap)):List U→Heap→Option (U×Heap):=A.wrap true [(.s 11),(.s 11)] .k (A.eG (Iy dyn))
noncomputable def L1 (a0 a1:U) (σ:Heap):Option (U×Heap):=
 (A.aT a0).bind fun x1=>
 (A.aT a1).bind fun x2=>
 (A.neq .i x1 x2).bind fun x3=>
 A.cond x3 (
  A.fin σ aD σ) (
  (A.aT a0).bind fun x4=>
  (A.loop (fun v5 s6=>
    (A.lss (v5.getD 1 U.undef) x4).bind fun x8=>
    A.cond x8 (
     (A.aN 2 a0 (v5.getD 1 U.undef)).bind fun x9=>
     ((A.deref x9 s6).bind fun dr=>A.az 0 2 dr).bind fun bN=>
     (A.aN 2 a1 (v5.getD 1 U.undef)).bind fun bC=>
     ((A.deref bC s6).bind fun ep=>A.az 0 2 ep).bind fun bw=>
     (A.neq (.s [0,0]) bN bw).bind fun bU=>
     A.cond bU (
      some (AX.ret,[aD,(v5.getD 1 U.undef)],s6)) (
      (A.add (v5.getD 1 U.undef) aI).bind fun bl=>
      some (AX.normal,[(v5.getD 0 U.undef),bl],s6))) (
     some (AX.exit 0,[(v5.getD 0 U.undef),(v5.getD 1 U.undef)],s6))) [aD,ah] σ).bind fun eT=>
  bif eT.1==AX.exit 0 then(
   A.fin σ br eT.2.2)else
  bif eT.1==AX.ret then(
   A.fin σ (eT.2.1.getD 0 U.undef) eT.2.2)else
  none)
noncomputable def LZ:List U→Heap→Option (U×Heap):=A.wrap true [(.s 2),(.s 2)] .k (A.cM L1)
noncomputable def L5 (a0 a1:U) (σ:Heap):Option (U×Heap):=
 (A.aT a0).bind fun x1=>
 (A.aT a1).bind fun x2=>
 (A.neq .i x1 x2).bind fun x3=>
 A.cond x3 (
  A.fin σ aD σ) (
  (A.aT a0).bind fun x4=>
  (A.loop (fun v5 s6=>
    (A.lss (v5.getD 1 U.undef) x4).bind fun x8=>
    A.cond x8 (
     (A.aN 8 a0 (v5.getD 1 U.undef)).bind fun x9=>
     ((A.deref x9 s6).bind fun dr=>A.az 0 8 dr).bind fun bN=>
     (A.aN 8 a1 (v5.getD 1 U.undef)).bind fun bC=>
     ((A.deref bC s6).bind fun ep=>A.az 0 8 ep).bind fun bw=>
     (A.neq (.s [0,2,0,0,1,1,0,0]) bN bw).bind fun bU=>
     A.cond bU (
      some (AX.ret,[aD,(v5.getD 1 U.undef)],s6)) (
      (A.add (v5.getD 1 U.undef) aI).bind fun bl=>
      some (AX.normal,[(v5.getD 0 U.undef),bl],s6))) (
     some (AX.exit 0,[(v5.getD 0 U.undef),(v5.getD 1 U.undef)],s6))) [aD,ah] σ).bind fun eT=>
  bif eT.1==AX.exit 0 then(
   A.fin σ br eT.2.2)else
  bif eT.1==AX.ret then(
   A.fin σ (eT.2.1.getD 0 U.undef) eT.2.2)else
  none)
noncomputable def L3:List U→Heap→Option (U×Heap):=A.wrap true [(.s 8),(.s 8)] .k (A.cM L5)
end
section
set_option maxRecDepth 100000
noncomputable def Oe (a0:U) (σ:Heap):Option (U×Heap):=
 (A.tO a0).bind fun x1=>
 (A.loop (fun v2 s3=>
   (A.lss (v2.getD 1 U.undef) x1).bind fun x5=>
   A.cond x5 (
    (A.nr a0 (v2.getD 1 U.undef)).bind fun x6=>
    (A.geq x6 (U.int .u8 97)).bind fun x7=>
    (A.guard x7 true (some x6) aj).bind fun x8=>
    (A.guard x7 true (A.leq x8 (U.int .u8 122)) aj).bind fun x9=>
    (A.pick x7 x9 aD).bind fun bf=>
    (A.guard bf false (some x6) aj).bind fun bN=>
    (A.guard bf false (A.geq bN (U.int .u8 48)) aj).bind fun bC=>
    (A.guard bf false (some bC) aj).bind fun bF=>
    (A.guard bF true (some x6) aj).bind fun bw=>
    (A.guard bF true (A.leq bw (U.int .u8 57)) aj).bind fun bU=>
    (A.guard bf false (A.pick bF bU aD) aj).bind fun bl=>
    (A.pick bf br bl).bind fun bZ=>
    (A.guard bZ false (some x6) aj).bind fun cU=>
    (A.guard bZ false (A.eql .i cU (U.int .u8 45)) aj).bind fun cg=>
    (A.pick bZ br cg).bind fun bI=>
    (A.not bI).bind fun bg=>
    A.cond bg (
     some (AX.ret,[aD,(v2.getD 1 U.undef)],s3)) (
     (A.add (v2.getD 1 U.undef) aI).bind fun bB=>
     some (AX.normal,[(v2.getD 0 U.undef),bB],s3))) (
    some (AX.exit 0,[(v2.getD 0 U.undef),(v2.getD 1 U.undef)],s3))) [aD,ah] σ).bind fun kS=>
 bif kS.1==AX.exit 0 then(
  (A.neq .z a0 aW).bind fun x24=>
  A.fin σ x24 kS.2.2)else
 bif kS.1==AX.ret then(
  A.fin σ (kS.2.1.getD 0 U.undef) kS.2.2)else
 none
noncomputable def N3:List U→Heap→Option (U×Heap):=A.wrap true [] .k (A.dU Oe)
noncomputable def NL (a0:U) (σ:Heap):Option (U×Heap):=
 (N3 [a0] σ).bind fun r1=>
 (A.guard r1.1 true (some a0) aj).bind fun x2=>
 (A.guard r1.1 true (A.tO x2) aj).bind fun x3=>
 (A.guard r1.1 true (A.leq x3 (U.int .i64 20)) aj).bind fun x4=>
 (A.pick r1.1 x4 aD).bind fun x5=>
 (A.guard x5 true (some a0) aj).bind fun x6=>
 (A.guard x5 true (A.nr x6 ah) aj).bind fun x7=>
 (A.guard x5 true (A.geq x7 (U.int .u8 97)) aj).bind fun x8=>
 (A.pick x5 x8 aD).bind fun x9=>
 (A.guard x9 true (some a0) aj).bind fun bf=>
 (A.guard x9 true (A.nr bf ah) aj).bind fun bN=>
 (A.guard x9 true (A.leq bN (U.int .u8 122)) aj).bind fun bC=>
 (A.pick x9 bC aD).bind fun bF=>
 A.fin σ bF r1.2
noncomputable def DA:List U→Heap→Option (U×Heap):=A.wrap true [] .k (A.dU NL)
noncomputable def M3 (a0 a1 a2:U) (σ:Heap):Option (U×Heap):=
 (A.geq a0 a1).bind fun x1=>
 (A.guard x1 true (some a0) aj).bind fun x2=>
 (A.guard x1 true (some a2) aj).bind fun x3=>
 (A.guard x1 true (A.leq x2 x3) aj).bind fun x4=>
 (A.pick x1 x4 aD).bind fun x5=>
 A.fin σ x5 σ
noncomputable def mR:List U→Heap→Option (U×Heap):=A.wrap true [] .k (A.eG M3)
noncomputable def NM (a0 a1:U) (σ:Heap):Option (U×Heap):=
 A.cond a0 (
  A.fin σ a1 σ) (
  A.fin σ ah σ)
noncomputable def Fy:List U→Heap→Option (U×Heap):=A.wrap true [] .k (A.cM NM)
noncomputable def Ni (a0:U) (σ:Heap):Option (U×Heap):=
 (A.aT a0).bind fun x1=>
 (A.loop (fun v2 s3=>
   (A.lss (v2.getD 1 U.undef) x1).bind fun x5=>
   A.cond x5 (
    (A.aN 1 a0 (v2.getD 1 U.undef)).bind fun x6=>
    ((A.deref x6 s3).bind fun c7=>A.an 0 c7).bind fun x8=>
    (A.neq .i x8 ah).bind fun x9=>
    A.cond x9 (
     some (AX.ret,[x8,(v2.getD 1 U.undef)],s3)) (
     (A.add (v2.getD 1 U.undef) aI).bind fun bf=>
     some (AX.normal,[(v2.getD 0 U.undef),bf],s3))) (
    some (AX.exit 0,[(v2.getD 0 U.undef),(v2.getD 1 U.undef)],s3))) [ah,ah] σ).bind fun cD=>
 bif cD.1==AX.exit 0 then(
  A.fin σ ah cD.2.2)else
 bif cD.1==AX.ret then(
  A.fin σ (cD.2.1.getD 0 U.undef) cD.2.2)else
 none
noncomputable def I8:List U→Heap→Option (U×Heap):=A.wrap true [(.s 1)] .k (A.dU Ni)
noncomputable def Nj (a0:U) (σ:Heap):Option (U×Heap):=
 (A.tO a0).bind fun x1=>
 (A.loop (fun v2 s3=>
   (A.lss (v2.getD 1 U.undef) x1).bind fun x5=>
   A.cond x5 (
    (A.nr a0 (v2.getD 1 U.undef)).bind fun x6=>
    (A.lss x6 (U.int .u8 32)).bind fun x7=>
    (A.guard x7 false (some a0) aj).bind fun x8=>
    (A.guard x7 false (some (v2.getD 1 U.undef)) aj).bind fun x9=>
    (A.guard x7 false (A.nr x8 x9) aj).bind fun bf=>
    (A.guard x7 false (A.gtr bf (U.int .u8 126)) aj).bind fun bN=>
    (A.pick x7 br bN).bind fun bC=>
    A.cond bC (
     some (AX.ret,[aD,(v2.getD 1 U.undef)],s3)) (
     (A.add (v2.getD 1 U.undef) aI).bind fun bF=>
     some (AX.normal,[(v2.getD 0 U.undef),bF],s3))) (
    some (AX.exit 0,[(v2.getD 0 U.undef),(v2.getD 1 U.undef)],s3))) [aD,ah] σ).bind fun eL=>
 bif eL.1==AX.exit 0 then(
  (A.neq .z a0 aW).bind fun bU=>
  (A.guard bU true (some a0) aj).bind fun bl=>
  (A.guard bU true (A.tO bl) aj).bind fun bZ=>
  (A.guard bU true (A.leq bZ (U.int .i64 60)) aj).bind fun cU=>
  (A.pick bU cU aD).bind fun cg=>
  (A.guard cg true (some a0) aj).bind fun bI=>
  (A.guard cg true (A.nr bI ah) aj).bind fun bg=>
  (A.guard cg true (A.neq .i bg (U.int .u8 32)) aj).bind fun bB=>
  (A.pick cg bB aD).bind fun ct=>
  (A.guard ct true (some a0) aj).bind fun x24=>
  (A.guard ct true (some a0) aj).bind fun x25=>
  (A.guard ct true (A.tO x25) aj).bind fun cN=>
  (A.guard ct true (A.sub cN aI) aj).bind fun cR=>
  (A.guard ct true (A.nr x24 cR) aj).bind fun x28=>
  (A.guard ct true (A.neq .i x28 (U.int .u8 32)) aj).bind fun x29=>
  (A.pick ct x29 aD).bind fun cO=>
  A.fin σ cO eL.2.2)else
 bif eL.1==AX.ret then(
  A.fin σ (eL.2.1.getD 0 U.undef) eL.2.2)else
 none
noncomputable def I9:List U→Heap→Option (U×Heap):=A.wrap true [] .k (A.dU Nj)
end
section
set_option maxRecDepth 100000
noncomputable def Mu (a0:U) (σ:Heap):Option (U×Heap):=
 (mR [a0,ah,(U.int .i64 65535)] σ).bind fun r1=>
 A.fin σ r1.1 r1.2
noncomputable def Fc:List U→Heap→Option (U×Heap):=A.wrap true [] .k (A.dU Mu)
noncomputable def Md (a0:U) (σ:Heap):Option (U×Heap):=
 (A.aT a0).bind fun x1=>
 (A.gtr x1 (U.int .i64 30)).bind fun x2=>
 A.cond x2 (
  A.fin σ (U.int .i64 2) σ) (
  (A.aT a0).bind fun x3=>
  (A.loop (fun v4 s5=>
    (A.lss (v4.getD 1 U.undef) x3).bind fun x7=>
    A.cond x7 (
     (A.aN 3 a0 (v4.getD 1 U.undef)).bind fun x8=>
     ((A.deref x8 s5).bind fun c9=>A.az 0 3 c9).bind fun bf=>
     (A.cells 3 bf).bind fun dw=>
     (A.splice 0 dw [ah,ah,aW]).bind fun bR=>
     (A.an 0 bR).bind fun bF=>
     (Fc [bF] s5).bind fun eL=>
     (A.not eL.1).bind fun bU=>
     (A.guard bU false (A.an 1 bR) aj).bind fun bl=>
     (A.guard bU false (A.quiet (Fc [bl] eL.2) eL.2) aj).bind fun bZ=>
     (A.guard bU false (A.not bZ) aj).bind fun cU=>
     (A.pick bU br cU).bind fun cg=>
     (A.guard cg false (A.an 0 bR) aj).bind fun bI=>
     (A.guard cg false (A.an 1 bR) aj).bind fun bg=>
     (A.guard cg false (A.gtr bI bg) aj).bind fun bB=>
     (A.pick cg br bB).bind fun ct=>
     A.cond ct (
      some (AX.ret,[aI,(v4.getD 1 U.undef)],eL.2)) (
      (A.gtr (v4.getD 1 U.undef) ah).bind fun x24=>
      (A.guard x24 true (A.an 0 bR) aj).bind fun x25=>
      (A.guard x24 true (some a0) aj).bind fun cN=>
      (A.guard x24 true (some (v4.getD 1 U.undef)) aj).bind fun cR=>
      (A.guard x24 true (A.sub cR aI) aj).bind fun x28=>
      (A.guard x24 true (A.aN 3 cN x28) aj).bind fun x29=>
      (A.guard x24 true (A.bA 1 x29) aj).bind fun cO=>
      (A.guard x24 true ((A.deref cO eL.2).bind fun qU=>A.an 0 qU) aj).bind fun x32=>
      (A.guard x24 true (A.leq x25 x32) aj).bind fun gj=>
      (A.pick x24 gj aD).bind fun x34=>
      A.cond x34 (
       some (AX.ret,[(U.int .i64 7),(v4.getD 1 U.undef)],eL.2)) (
       (A.an 2 bR).bind fun fB=>
       (DA [fB] eL.2).bind fun wj=>
       (A.not wj.1).bind fun cV=>
       A.cond cV (
        some (AX.ret,[(U.int .i64 5),(v4.getD 1 U.undef)],wj.2)) (
        (A.an 2 bR).bind fun x38=>
        (A.look .z (U.om σ.length) x38 aD wj.2).bind fun gy=>
        A.cond gy (
         some (AX.ret,[(U.int .i64 6),(v4.getD 1 U.undef)],wj.2)) (
         (A.an 2 bR).bind fun fG=>
         (A.hG .z (U.om σ.length) fG br wj.2).bind fun h41=>
         (A.add (v4.getD 1 U.undef) aI).bind fun fZ=>
         some (AX.normal,[(v4.getD 0 U.undef),fZ],h41)))))) (
     some (AX.exit 0,[(v4.getD 0 U.undef),(v4.getD 1 U.undef)],s5))) [ah,ah] (σ++[aV.map []])).bind fun Bg=>
  bif Bg.1==AX.exit 0 then(
   A.fin σ ah Bg.2.2)else
  bif Bg.1==AX.ret then(
   A.fin σ (Bg.2.1.getD 0 U.undef) Bg.2.2)else
  none)
noncomputable def Mb:List U→Heap→Option (U×Heap):=A.wrap true [(.s 3)] .k (A.dU Md)
noncomputable def Ma (a0:U) (σ:Heap):Option (U×Heap):=
 (A.cells 3 a0).bind fun c1=>
 (A.an 0 c1).bind fun x2=>
 (DA [x2] σ).bind fun r3=>
 (A.not r3.1).bind fun x4=>
 A.cond x4 (
  A.fin σ (U.int .i64 5) r3.2) (
  (A.an 1 c1).bind fun x5=>
  (mR [x5,aI,(U.int .i64 512)] r3.2).bind fun r6=>
  (A.not r6.1).bind fun x7=>
  A.cond x7 (
   A.fin σ aI r6.2) (
   (A.an 2 c1).bind fun x8=>
   (A.aT x8).bind fun x9=>
   (A.eql .i x9 ah).bind fun bf=>
   A.cond bf (
    A.fin σ (U.int .i64 8) r6.2) (
    (A.an 2 c1).bind fun bN=>
    (A.aT bN).bind fun bC=>
    (A.gtr bC (U.int .i64 40)).bind fun bF=>
    A.cond bF (
     A.fin σ (U.int .i64 2) r6.2) (
     (A.an 2 c1).bind fun bw=>
     (A.aT bw).bind fun bU=>
     (A.loop (fun cC gE=>
       (A.lss (cC.getD 2 U.undef) bU).bind fun cg=>
       A.cond cg (
        (A.aN 7 bw (cC.getD 2 U.undef)).bind fun bI=>
        ((A.deref bI gE).bind fun iu=>A.az 0 7 iu).bind fun bB=>
        (A.cells 7 bB).bind fun iV=>
        (A.splice 0 iV [aW,ah,ah,ah,ah,aD,U.aH]).bind fun eH=>
        (A.an 0 eH).bind fun x25=>
        (DA [x25] gE).bind fun we=>
        (A.not we.1).bind fun cR=>
        A.cond cR (
         some (AX.ret,[(cC.getD 0 U.undef),(U.int .i64 5),(cC.getD 2 U.undef)],we.2)) (
         (A.an 0 eH).bind fun x28=>
         (A.look .z (U.om r6.2.length) x28 aD we.2).bind fun x29=>
         A.cond x29 (
          some (AX.ret,[(cC.getD 0 U.undef),(U.int .i64 6),(cC.getD 2 U.undef)],we.2)) (
          (A.an 1 eH).bind fun cO=>
          (mR [cO,aI,(U.int .i64 4)] we.2).bind fun dQ=>
          (A.not dQ.1).bind fun x32=>
          A.cond x32 (
           some (AX.ret,[(cC.getD 0 U.undef),(U.int .i64 4),(cC.getD 2 U.undef)],dQ.2)) (
           (A.an 2 eH).bind fun gj=>
           ((A.lb (cC.getD 0 U.undef)).bind fun _=>some (1)).bind fun p34=>
           ((A.lb (cC.getD 0 U.undef)).bind fun lE=>A.an p34 lE).bind fun jG=>
           (mR [gj,aI,jG] dQ.2).bind fun nY=>
           (A.not nY.1).bind fun x38=>
           (A.guard x38 false (A.an 3 eH) aj).bind fun gy=>
           ((A.lb (cC.getD 0 U.undef)).bind fun _=>some (1)).bind fun p40=>
                      (A.guard x38 false ((A.lb (cC.getD 0 U.undef)).bind fun nw=>A.an p40 nw) aj).bind fun fZ=>
           (A.guard x38 false (A.quiet (mR [gy,ah,fZ] nY.2) nY.2) aj).bind fun fM=>
           (A.guard x38 false (A.not fM) aj).bind fun dH=>
           (A.pick x38 br dH).bind fun ew=>
           (A.guard ew false (A.an 4 eH) aj).bind fun ia=>
           (A.guard ew false (A.quiet (Fc [ia] nY.2) nY.2) aj).bind fun dK=>
           (A.guard ew false (A.not dK) aj).bind fun gG=>
           (A.pick ew br gG).bind fun ig=>
           A.cond ig (
            some (AX.ret,[(cC.getD 0 U.undef),aI,(cC.getD 2 U.undef)],nY.2)) (
            (A.an 2 eH).bind fun fC=>
            (A.an 3 eH).bind fun ef=>
            (A.eql .i fC ef).bind fun eM=>
            (A.guard eM false (some (U.om (r6.2++[aV.map []]).length)) aj).bind fun kg=>
            (A.guard eM false (A.an 2 eH) aj).bind fun ga=>
            (A.guard eM false (A.look .i kg ga aD nY.2) aj).bind fun iP=>
            (A.pick eM br iP).bind fun gO=>
            (A.guard gO false (A.an 3 eH) aj).bind fun jf=>
            (A.guard gO false (A.gtr jf ah) aj).bind fun gb=>
            (A.guard gO false (some gb) aj).bind fun jv=>
            (A.guard jv true (some (U.om (r6.2++[aV.map []]).length)) aj).bind fun iQ=>
            (A.guard jv true (A.an 3 eH) aj).bind fun gH=>
            (A.guard jv true (A.look .i iQ gH aD nY.2) aj).bind fun gW=>
            (A.guard gO false (A.pick jv gW aD) aj).bind fun dW=>
            (A.pick gO br dW).bind fun kT=>
            A.cond kT (
             some (AX.ret,[(cC.getD 0 U.undef),(U.int .i64 12),(cC.getD 2 U.undef)],nY.2)) (
             (A.an 6 eH).bind fun fH=>
             (Mb [fH] nY.2).bind fun EW=>
             (A.neq .i EW.1 ah).bind fun gX=>
             A.cond gX (
              some (AX.ret,[(cC.getD 0 U.undef),EW.1,(cC.getD 2 U.undef)],EW.2)) (
              (A.an 0 eH).bind fun kj=>
              (A.an 2 eH).bind fun jg=>
              (A.hG .z (U.om r6.2.length) kj br EW.2).bind fun h70=>
              (A.hG .i (U.om (r6.2++[aV.map []]).length) jg br h70).bind fun Zs=>
              (A.an 3 eH).bind fun kV=>
              (A.gtr kV ah).bind fun kn=>
              (A.cond kn (
               (A.an 3 eH).bind fun gP=>
               (A.hG .i (U.om (r6.2++[aV.map []]).length) gP br Zs).bind fun h76=>
               some ([(cC.getD 0 U.undef)],h76)) (
               some ([(cC.getD 0 U.undef)],Zs))).bind fun ZP=>
              (A.add (cC.getD 2 U.undef) aI).bind fun qz=>
              some (AX.normal,[(ZP.1.getD 0 U.undef),(cC.getD 1 U.undef),qz],ZP.2)))))))) (
        some (AX.exit 1,[(cC.getD 0 U.undef),(cC.getD 1 U.undef),(cC.getD 2 U.undef)],gE))) [(U.lbx c1),ah,ah] ((r6.2++[aV.map []])++[aV.map []])).bind fun jO=>
     bif jO.1==AX.exit 1 then(
      A.fin σ ah jO.2.2)else
     bif jO.1==AX.ret then(
      A.fin σ (jO.2.1.getD 1 U.undef) jO.2.2)else
     none))))
noncomputable def L7:List U→Heap→Option (U×Heap):=A.wrap true [(.a [.k,.k,(.s 7)])] .k (A.dU Ma)
noncomputable def L9 (a0:U) (σ:Heap):Option (U×Heap):=
 (A.aT a0).bind fun x1=>
 (A.gtr x1 (U.int .i64 60)).bind fun x2=>
 A.cond x2 (
  A.fin σ (U.int .i64 2) σ) (
  (A.aT a0).bind fun x3=>
  (A.loop (fun v4 s5=>
    (A.lss (v4.getD 1 U.undef) x3).bind fun x7=>
    A.cond x7 (
     (A.aN 3 a0 (v4.getD 1 U.undef)).bind fun x8=>
     ((A.deref x8 s5).bind fun c9=>A.az 0 3 c9).bind fun bf=>
     (A.cells 3 bf).bind fun dw=>
     (A.splice 0 dw [aW,ah,U.aH]).bind fun bR=>
     (A.az 0 3 bR).bind fun bF=>
     (L7 [bF] s5).bind fun eL=>
     (A.neq .i eL.1 ah).bind fun bU=>
     A.cond bU (
      some (AX.ret,[eL.1,(v4.getD 1 U.undef)],eL.2)) (
      (A.an 0 bR).bind fun bl=>
      (A.look .z (U.om σ.length) bl aD eL.2).bind fun bZ=>
      A.cond bZ (
       some (AX.ret,[(U.int .i64 6),(v4.getD 1 U.undef)],eL.2)) (
       (A.an 0 bR).bind fun cU=>
       (A.hG .z (U.om σ.length) cU br eL.2).bind fun h19=>
       (A.add (v4.getD 1 U.undef) aI).bind fun bI=>
       some (AX.normal,[(v4.getD 0 U.undef),bI],h19)))) (
     some (AX.exit 0,[(v4.getD 0 U.undef),(v4.getD 1 U.undef)],s5))) [ah,ah] (σ++[aV.map []])).bind fun dV=>
  bif dV.1==AX.exit 0 then(
   A.fin σ ah dV.2.2)else
  bif dV.1==AX.ret then(
   A.fin σ (dV.2.1.getD 0 U.undef) dV.2.2)else
  none)
noncomputable def L6:List U→Heap→Option (U×Heap):=A.wrap true [(.s 3)] .k (A.dU L9)
noncomputable def Me (a0 a1:U) (σ:Heap):Option (U×Heap):=
 (A.cells 3 a0).bind fun c1=>
 (A.an 0 c1).bind fun x2=>
 ((A.deref a1 σ).bind fun c3=>A.an 0 c3).bind fun x4=>
 (A.eql .z x2 x4).bind fun x5=>
 A.fin σ x5 σ
noncomputable def zU:List U→Heap→Option (U×Heap):=A.wrap true [(.a [.k,.k,(.s 7)])] .k (A.cM Me)
noncomputable def IS (a0 a1:U) (σ:Heap):Option (U×Heap):=
 (((A.cell a1).bind fun v=>some [v]).bind fun cs=>some (U.rp cs)).bind fun x1=>
 (yp (A.tab (fun _ _=>none) [(64,zU),(64,zU)]) [a0,(U.fn 64 [x1])] σ).bind fun r2=>
 (A.lss r2.1 ah).bind fun x3=>
 A.cond x3 (
  (A.cells 3 (U.agg [aW,ah,U.aH])).bind fun c4=>
  (A.splice 0 c4 [aW,ah,U.aH]).bind fun c5=>
  (A.az 0 3 c5).bind fun x6=>
  A.fin σ (U.aL [x6,aD]) r2.2) (
  (A.aN 3 a0 r2.1).bind fun x7=>
  ((A.deref x7 r2.2).bind fun c8=>A.az 0 3 c8).bind fun x9=>
  (A.cells 3 x9).bind fun dr=>
  (A.splice 0 dr [aW,ah,U.aH]).bind fun dw=>
  (A.az 0 3 dw).bind fun bC=>
  A.fin σ (U.aL [bC,br]) r2.2)
noncomputable def IM:List U→Heap→Option (U×Heap):=A.wrap true [(.s 3)] (.t [(.a [.k,.k,(.e 7 qK)]),.k]) (A.cM IS)
noncomputable def Fa (a0 a1 a2:U) (σ:Heap):Option (U×Heap):=
 (A.eql .p a0 U.np).bind fun x1=>
 A.cond x1 (
  (A.add a1 a2).bind fun x2=>
  (A.sub x2 aI).bind fun x3=>
  (A.leq x3 (U.int .i64 512)).bind fun x4=>
  A.fin σ x4 σ) (
  (A.loop (fun v5 s6=>
    (A.add a1 a2).bind fun x8=>
    (A.lss (v5.getD 1 U.undef) x8).bind fun x9=>
    A.cond x9 (
     (A.gtr (v5.getD 1 U.undef) (U.int .i64 512)).bind fun bf=>
     (A.guard bf false (some a0) aj).bind fun bN=>
     (A.guard bf false (some (v5.getD 1 U.undef)) aj).bind fun bC=>
     (A.guard bf false (A.gZ bN) aj).bind fun bF=>
     (A.guard bf false (A.xC 513 1 bF bC) aj).bind fun bw=>
     (A.guard bf false ((A.deref bw s6).bind fun fV=>A.an 0 fV) aj).bind fun bl=>
     (A.pick bf br bl).bind fun bZ=>
     A.cond bZ (
      some (AX.ret,[aD,(v5.getD 1 U.undef)],s6)) (
      (A.add (v5.getD 1 U.undef) aI).bind fun cU=>
      some (AX.normal,[(v5.getD 0 U.undef),cU],s6))) (
     some (AX.exit 0,[(v5.getD 0 U.undef),(v5.getD 1 U.undef)],s6))) [aD,a1] σ).bind fun mO=>
  bif mO.1==AX.exit 0 then(
   A.fin σ br mO.2.2)else
  bif mO.1==AX.ret then(
   A.fin σ (mO.2.1.getD 0 U.undef) mO.2.2)else
  none)
noncomputable def De:List U→Heap→Option (U×Heap):=A.wrap true [] .k (A.eG Fa)
noncomputable def Fk (a0 a1 a2:U) (σ:Heap):Option (U×Heap):=
 (A.cells 4 a1).bind fun c1=>
 (A.an 2 c1).bind fun x2=>
 (A.look .i a0 x2 U.np σ).bind fun x3=>
 (A.eql .p x3 U.np).bind fun x4=>
 (A.cond x4 (
  (A.an 2 c1).bind fun x6=>
  (A.hG .i a0 x6 (U.op σ.length 0) (σ++[aV.box (List.replicate 513 aD)])).bind fun h7=>
  some ([(U.lbx c1)],h7)) (
  some ([(U.lbx c1)],σ))).bind fun r5=>
 ((A.lb (r5.1.getD 0 U.undef)).bind fun _=>some (3)).bind fun p8=>
 ((A.lb (r5.1.getD 0 U.undef)).bind fun c9=>A.an p8 c9).bind fun bf=>
 (A.loop (fun v11 lF=>
   ((A.lb (v11.getD 0 U.undef)).bind fun _=>some (3)).bind fun p14=>
   ((A.lb (v11.getD 0 U.undef)).bind fun fV=>A.an p14 fV).bind fun bl=>
   (A.add bl a2).bind fun bZ=>
   (A.lss (v11.getD 1 U.undef) bZ).bind fun cU=>
   A.cond cU (
    ((A.lb (v11.getD 0 U.undef)).bind fun _=>some (2)).bind fun CV=>
    ((A.lb (v11.getD 0 U.undef)).bind fun i7=>A.an CV i7).bind fun bg=>
    (A.look .i a0 bg U.np lF).bind fun bB=>
    (A.gZ bB).bind fun ct=>
    (A.xC 513 1 ct (v11.getD 1 U.undef)).bind fun x24=>
    ((A.cell br).bind fun v=>some [v]).bind fun jq=>
    (A.storeAt x24 jq lF).bind fun jE=>
    (A.add (v11.getD 1 U.undef) aI).bind fun cR=>
    some (AX.normal,[(v11.getD 0 U.undef),cR],jE)) (
    some (AX.exit 0,[(v11.getD 0 U.undef),(v11.getD 1 U.undef)],lF))) [(r5.1.getD 0 U.undef),bf] r5.2).bind fun HU=>
 bif HU.1==AX.exit 0 then(
  some ((U.aL []),HU.2.2))else
 none
noncomputable def IX:List U→Heap→Option (U×Heap):=A.wrap false [] .k (A.eG Fk)
noncomputable def Ml (a0:U) (σ:Heap):Option (U×Heap):=
 (A.cells 2 a0).bind fun c1=>
 (A.an 0 c1).bind fun x2=>
 (L6 [x2] σ).bind fun r3=>
 (A.neq .i r3.1 ah).bind fun x4=>
 A.cond x4 (
  A.fin σ r3.1 r3.2) (
  (A.an 1 c1).bind fun x5=>
  (A.aT x5).bind fun x6=>
  (A.gtr x6 (U.int .i64 400)).bind fun x7=>
  A.cond x7 (
   A.fin σ (U.int .i64 2) r3.2) (
   (A.an 1 c1).bind fun x8=>
   (A.aT x8).bind fun x9=>
   (A.loop (fun v10 gL=>
     (A.lss (v10.getD 2 U.undef) x9).bind fun bF=>
     A.cond bF (
      (A.aN 4 x8 (v10.getD 2 U.undef)).bind fun bw=>
      ((A.deref bw gL).bind fun fV=>A.az 0 4 fV).bind fun bl=>
      (A.cells 4 bl).bind fun iN=>
      (A.splice 0 iN [ah,aW,ah,ah]).bind fun eu=>
      (A.an 0 eu).bind fun cg=>
      (mR [cg,aI,(U.int .i64 9999)] gL).bind fun fA=>
      (A.not fA.1).bind fun bg=>
      A.cond bg (
       some (AX.ret,[(v10.getD 0 U.undef),aI,(v10.getD 2 U.undef)],fA.2)) (
       (A.gtr (v10.getD 2 U.undef) ah).bind fun bB=>
       (A.guard bB true (A.an 0 eu) aj).bind fun ct=>
       ((A.lb (v10.getD 0 U.undef)).bind fun _ => some (1)).bind fun p24 =>
              (A.guard bB true ((A.lb (v10.getD 0 U.undef)).bind fun jq=>A.an p24 jq) aj).bind fun cN=>
       (A.guard bB true (some (v10.getD 2 U.undef)) aj).bind fun cR=>
       (A.guard bB true (A.sub cR aI) aj).bind fun x28=>
       (A.guard bB true (A.aN 4 cN x28) aj).bind fun x29=>
       (A.guard bB true (A.bA 0 x29) aj).bind fun cO=>
       (A.guard bB true ((A.deref cO fA.2).bind fun qU=>A.an 0 qU) aj).bind fun x32=>
       (A.guard bB true (A.leq ct x32) aj).bind fun gj=>
       (A.pick bB gj aD).bind fun x34=>
       A.cond x34 (
        some (AX.ret,[(v10.getD 0 U.undef),(U.int .i64 7),(v10.getD 2 U.undef)],fA.2)) (
        ((A.lb (v10.getD 0 U.undef)).bind fun _=>some (0)).bind fun p35=>
        ((A.lb (v10.getD 0 U.undef)).bind fun jF=>A.an p35 jF).bind fun cV=>
        (A.an 1 eu).bind fun x38=>
        (IM [cV,x38] fA.2).bind fun zO=>
        (A.ext 0 zO.1).bind fun fG=>
        (A.ext 1 zO.1).bind fun fW=>
        (A.cells 3 fG).bind fun qi=>
        (A.splice 0 qi [aW,ah,U.aH]).bind fun mw=>
        (A.not fW).bind fun dH=>
        A.cond dH (
         some (AX.ret,[(v10.getD 0 U.undef),(U.int .i64 5),(v10.getD 2 U.undef)],zO.2)) (
         (A.an 2 eu).bind fun ew=>
         (mR [ew,aI,(U.int .i64 64)] zO.2).bind fun iW=>
         (A.not iW.1).bind fun dK=>
         (A.guard dK false (A.an 3 eu) aj).bind fun gG=>
         (A.guard dK false (A.quiet (mR [gG,aI,(U.int .i64 512)] iW.2) iW.2) aj).bind fun ig=>
         (A.guard dK false (A.not ig) aj).bind fun fC=>
         (A.pick dK br fC).bind fun ef=>
         (A.guard ef false (A.an 3 eu) aj).bind fun eM=>
         (A.guard ef false (A.an 1 mw) aj).bind fun kg=>
         (A.guard ef false (A.add eM kg) aj).bind fun ga=>
         (A.guard ef false (A.sub ga aI) aj).bind fun iP=>
         (A.guard ef false (A.gtr iP (U.int .i64 512)) aj).bind fun gO=>
         (A.pick ef br gO).bind fun jf=>
         A.cond jf (
          some (AX.ret,[(v10.getD 0 U.undef),aI,(v10.getD 2 U.undef)],iW.2)) (
          (A.an 2 eu).bind fun gb=>
          (A.look .i (U.om r3.2.length) gb U.np iW.2).bind fun jv=>
          (A.an 3 eu).bind fun iQ=>
          (A.an 1 mw).bind fun gH=>
          (De [jv,iQ,gH] iW.2).bind fun nZ=>
          (A.not nZ.1).bind fun dW=>
          A.cond dW (
           some (AX.ret,[(v10.getD 0 U.undef),(U.int .i64 12),(v10.getD 2 U.undef)],nZ.2)) (
           (A.az 0 4 eu).bind fun kT=>
           (A.an 1 mw).bind fun fH=>
           (IX [(U.om r3.2.length),kT,fH] nZ.2).bind fun EW=>
           (A.add (v10.getD 2 U.undef) aI).bind fun gX=>
           some (AX.normal,[(v10.getD 0 U.undef),(v10.getD 1 U.undef),gX],EW.2))))))) (
      some (AX.exit 0,[(v10.getD 0 U.undef),(v10.getD 1 U.undef),(v10.getD 2 U.undef)],gL))) [(U.lbx c1),ah,ah] (r3.2++[aV.map []])).bind fun yh=>
   bif yh.1==AX.exit 0 then(
    A.fin σ ah yh.2.2)else
   bif yh.1==AX.ret then(
    A.fin σ (yh.2.1.getD 1 U.undef) yh.2.2)else
   none))
noncomputable def IL:List U→Heap→Option (U×Heap):=A.wrap true [xH] .k (A.dU Ml)
noncomputable def Fj (a0:U) (σ:Heap):Option (U×Heap):=
 (A.cells 2 a0).bind fun c1=>
 (A.az 0 2 c1).bind fun x2=>
 (IL [x2] σ).bind fun r3=>
 (A.neq .i r3.1 ah).bind fun x4=>
 A.cond x4 (
  A.fin σ (U.aL [U.aH,r3.1]) r3.2) (
  (A.an 1 c1).bind fun x5=>
  (A.aT x5).bind fun x6=>
  (A.loop (fun v7 s8=>
    (A.lss (v7.getD 2 U.undef) x6).bind fun bf=>
    A.cond bf (
     (A.aN 4 x5 (v7.getD 2 U.undef)).bind fun bN=>
     ((A.deref bN s8).bind fun bR=>A.az 0 4 bR).bind fun bF=>
     (A.cells 4 bF).bind fun gh=>
     (A.splice 0 gh [ah,aW,ah,ah]).bind fun fV=>
     ((A.lb (v7.getD 0 U.undef)).bind fun _=>some (0)).bind fun R8=>
     ((A.lb (v7.getD 0 U.undef)).bind fun iN=>A.an R8 iN).bind fun cU=>
     (A.an 1 fV).bind fun cg=>
     (IM [cU,cg] s8).bind fun fA=>
     (A.ext 0 fA.1).bind fun bg=>
     (A.ext 1 fA.1).bind fun bB=>
     (A.cells 3 bg).bind fun iV=>
     (A.splice 0 iV [aW,ah,U.aH]).bind fun eH=>
     (A.an 2 eH).bind fun x25=>
     (A.aT x25).bind fun cN=>
     (A.loop (fun fS iC=>
       (A.lss (fS.getD 3 U.undef) cN).bind fun cO=>
       A.cond cO (
        (A.aN 7 x25 (fS.getD 3 U.undef)).bind fun x31=>
        ((A.deref x31 iC).bind fun vQ=>A.az 0 7 vQ).bind fun gj=>
        (A.cells 7 gj).bind fun tZ=>
        (A.splice 0 tZ [aW,ah,ah,ah,ah,aD,U.aH]).bind fun lE=>
        ((A.lb (fS.getD 2 U.undef)).bind fun _=>some (0)).bind fun p36=>
        ((A.lb (fS.getD 2 U.undef)).bind fun uc=>A.an p36 uc).bind fun x38=>
        (A.an 0 lE).bind fun gy=>
        ((((A.cell x38).bind fun v=>some [v]).bind fun l7=>(A.splice 0 l7 [ah,aW]).bind fun nw=>((A.cell gy).bind fun v=>some [v]).bind fun qi=>(A.splice 1 qi nw).bind fun mw=>some mw).bind fun cs=>some (U.agg cs)).bind fun dH=>
        (((A.cells 2 dH).bind fun rR=>(A.splice 0 rR [ah,aW]).bind fun qj=>some qj).bind fun cs=>some (U.sl 2 (chunks 2 1 cs))).bind fun dK=>
        (A.append 2 (140737488355328 / 24) (fS.getD 1 U.undef) dK iC).bind fun mD=>
        (A.add (fS.getD 3 U.undef) aI).bind fun ig=>
        some (AX.normal,[(fS.getD 0 U.undef),mD.1,(fS.getD 2 U.undef),ig],mD.2)) (
        some (AX.exit 2,[(fS.getD 0 U.undef),(fS.getD 1 U.undef),(fS.getD 2 U.undef),(fS.getD 3 U.undef)],iC))) [(v7.getD 0 U.undef),(v7.getD 1 U.undef),(U.lbx fV),ah] fA.2).bind fun LI=>
     bif LI.1==AX.exit 2 then(
      (A.add (v7.getD 2 U.undef) aI).bind fun ef=>
      some (AX.normal,[(LI.2.1.getD 0 U.undef),(LI.2.1.getD 1 U.undef),ef],LI.2.2))else
     none) (
     some (AX.exit 0,[(v7.getD 0 U.undef),(v7.getD 1 U.undef),(v7.getD 2 U.undef)],s8))) [(U.lbx c1),U.aH,ah] r3.2).bind fun Bh=>
  bif Bh.1==AX.exit 0 then(
   A.fin σ (U.aL [(Bh.2.1.getD 1 U.undef),ah]) Bh.2.2)else
  none)
noncomputable def IW:List U→Heap→Option (U×Heap):=A.wrap true [xH] (.t [(.s 2),.k]) (A.dU Fj)
end
section
set_option maxRecDepth 100000
noncomputable def Mm (a0:U) (σ:Heap):Option (U×Heap):=
 (A.cells 2 a0).bind fun c1=>
 (A.an 0 c1).bind fun x2=>
 (mR [x2,aI,(U.int .i64 6)] σ).bind fun r3=>
 (A.not r3.1).bind fun x4=>
 A.cond x4 (
  A.fin σ (U.int .i64 4) r3.2) (
  (A.an 1 c1).bind fun x5=>
  (A.an 0 c1).bind fun x6=>
  (A.neq .i x6 (U.int .i64 6)).bind fun x7=>
  A.cond x7 (
   (A.aT x5).bind fun x8=>
   (A.gtr x8 ah).bind fun x9=>
   (Fy [x9,(U.int .i64 3)] r3.2).bind fun iz=>
   A.fin σ iz.1 iz.2) (
   (A.aT x5).bind fun bN=>
   (A.lss bN (U.int .i64 2)).bind fun bC=>
   A.cond bC (
    A.fin σ (U.int .i64 8) r3.2) (
    (A.aT x5).bind fun bF=>
    (A.gtr bF (U.int .i64 20)).bind fun bw=>
    A.cond bw (
     A.fin σ (U.int .i64 2) r3.2) (
     (A.aT x5).bind fun bU=>
     (A.loop (fun cC gE=>
       (A.lss (cC.getD 1 U.undef) bU).bind fun cg=>
       A.cond cg (
        (A.aN 2 x5 (cC.getD 1 U.undef)).bind fun bI=>
        ((A.deref bI gE).bind fun iu=>A.az 0 2 iu).bind fun bB=>
        (A.cells 2 bB).bind fun iV=>
        (A.splice 0 iV [ah,ah]).bind fun eH=>
        (A.an 0 eH).bind fun x25=>
        (mR [x25,ah,(U.int .i64 1000)] gE).bind fun we=>
        (A.not we.1).bind fun cR=>
        (A.guard cR false (A.an 1 eH) aj).bind fun x28=>
        (A.guard cR false (A.quiet (mR [x28,ah,(U.int .i64 1000)] we.2) we.2) aj).bind fun x29=>
        (A.guard cR false (A.not x29) aj).bind fun cO=>
        (A.pick cR br cO).bind fun x31=>
        A.cond x31 (
         some (AX.ret,[aI,(cC.getD 1 U.undef)],we.2)) (
         (A.add (cC.getD 1 U.undef) aI).bind fun x32=>
         some (AX.normal,[(cC.getD 0 U.undef),x32],we.2))) (
        some (AX.exit 0,[(cC.getD 0 U.undef),(cC.getD 1 U.undef)],gE))) [ah,ah] r3.2).bind fun lM=>
     bif lM.1==AX.exit 0 then(
      (A.aN 2 x5 ah).bind fun x34=>
      ((A.deref x34 lM.2.2).bind fun lE=>A.az 0 2 lE).bind fun jG=>
      (A.neq (.s [0,0]) jG (U.agg [ah,ah])).bind fun cV=>
      (A.guard cV false (some x5) aj).bind fun x38=>
      (A.guard cV false (some x5) aj).bind fun gy=>
      (A.guard cV false (A.aT gy) aj).bind fun fG=>
      (A.guard cV false (A.sub fG aI) aj).bind fun fW=>
      (A.guard cV false (A.aN 2 x38 fW) aj).bind fun fZ=>
      (A.guard cV false ((A.deref fZ lM.2.2).bind fun mw=>A.az 0 2 mw) aj).bind fun dH=>
      (A.guard cV false ((((A.cell (U.int .i64 1000)).bind fun v=>some [v]).bind fun rR=>(A.splice 0 rR [ah,ah]).bind fun qj=>((A.cell (U.int .i64 1000)).bind fun v=>some [v]).bind fun rS=>(A.splice 1 rS qj).bind fun c48=>some c48).bind fun cs=>some (U.agg cs)) aj).bind fun ig=>
      (A.guard cV false (A.neq (.s [0,0]) dH ig) aj).bind fun fC=>
      (A.pick cV br fC).bind fun ef=>
      A.cond ef (
       A.fin σ (U.int .i64 3) lM.2.2) (
       (A.loop (fun ym CZ=>
         (A.aT x5).bind fun iP=>
         (A.lss (ym.getD 1 U.undef) iP).bind fun gO=>
         A.cond gO (
          (A.aN 2 x5 (ym.getD 1 U.undef)).bind fun jf=>
          (A.bA 0 jf).bind fun gb=>
          ((A.deref gb CZ).bind fun mz=>A.an 0 mz).bind fun iQ=>
          (A.sub (ym.getD 1 U.undef) aI).bind fun gH=>
          (A.aN 2 x5 gH).bind fun gW=>
          (A.bA 0 gW).bind fun dW=>
          ((A.deref dW CZ).bind fun Rv=>A.an 0 Rv).bind fun fH=>
          (A.leq iQ fH).bind fun mE=>
          (A.guard mE false (some x5) aj).bind fun gX=>
          (A.guard mE false (some (ym.getD 1 U.undef)) aj).bind fun kj=>
          (A.guard mE false (A.aN 2 gX kj) aj).bind fun jg=>
          (A.guard mE false (A.bA 1 jg) aj).bind fun kU=>
          (A.guard mE false ((A.deref kU CZ).bind fun kQ=>A.an 0 kQ) aj).bind fun kV=>
          (A.guard mE false (some x5) aj).bind fun kn=>
          (A.guard mE false (some (ym.getD 1 U.undef)) aj).bind fun gY=>
          (A.guard mE false (A.sub gY aI) aj).bind fun gP=>
          (A.guard mE false (A.aN 2 kn gP) aj).bind fun gI=>
          (A.guard mE false (A.bA 1 gI) aj).bind fun qz=>
          (A.guard mE false ((A.deref qz CZ).bind fun ud=>A.an 0 ud) aj).bind fun lP=>
          (A.guard mE false (A.lss kV lP) aj).bind fun sj=>
          (A.pick mE br sj).bind fun oR=>
          A.cond oR (
           some (AX.ret,[(U.int .i64 7),(ym.getD 1 U.undef)],CZ)) (
           (A.add (ym.getD 1 U.undef) aI).bind fun nD=>
           some (AX.normal,[(ym.getD 0 U.undef),nD],CZ))) (
          some (AX.exit 2,[(ym.getD 0 U.undef),(ym.getD 1 U.undef)],CZ))) [(lM.2.1.getD 0 U.undef),aI] lM.2.2).bind fun uq=>
       bif uq.1==AX.exit 2 then(
        A.fin σ ah uq.2.2)else
       bif uq.1==AX.ret then(
        A.fin σ (uq.2.1.getD 0 U.undef) uq.2.2)else
       none))else
     bif lM.1==AX.ret then(
      A.fin σ (lM.2.1.getD 0 U.undef) lM.2.2)else
     none))))
noncomputable def Mj:List U→Heap→Option (U×Heap):=A.wrap true [(.a [.k,(.s 2)])] .k (A.dU Mm)
end
section
set_option maxRecDepth 100000
noncomputable def NK (a0:U) (σ:Heap):Option (U×Heap):=
 (A.cells 2 a0).bind fun c1=>
 (A.az 0 2 c1).bind fun x2=>
 (IW [x2] σ).bind fun r3=>
 (A.ext 0 r3.1).bind fun x4=>
 (A.ext 1 r3.1).bind fun x5=>
 (A.aT x4).bind fun x6=>
 (A.loop (fun v7 s8=>
   (A.lss (v7.getD 0 U.undef) x6).bind fun bf=>
   A.cond bf (
    (A.aN 2 x4 (v7.getD 0 U.undef)).bind fun bN=>
    ((A.deref bN s8).bind fun bR=>A.az 0 2 bR).bind fun bF=>
    (A.cells 2 bF).bind fun gh=>
    (A.splice 0 gh [ah,aW]).bind fun fV=>
    (A.az 0 2 fV).bind fun bl=>
    (A.hG (.s [0,2]) (U.om r3.2.length) bl br s8).bind fun h17=>
    (A.add (v7.getD 0 U.undef) aI).bind fun cU=>
    some (AX.normal,[cU],h17)) (
    some (AX.exit 0,[(v7.getD 0 U.undef)],s8))) [ah] (r3.2++[aV.map []])).bind fun mO=>
 bif mO.1==AX.exit 0 then(
  A.fin σ (U.om r3.2.length) mO.2.2)else
 none
noncomputable def Ny:List U→Heap→Option (U×Heap):=A.wrap true [xH] .k (A.dU NK)
noncomputable def Nh (a0:U) (σ:Heap):Option (U×Heap):=
 (A.eql .z a0 aW).bind fun x1=>
 (A.guard x1 false (some a0) aj).bind fun x2=>
 (A.guard x1 false (A.quiet (I9 [x2] σ) σ) aj).bind fun x3=>
 (A.pick x1 br x3).bind fun x4=>
 A.fin σ x4 σ
noncomputable def M7:List U→Heap→Option (U×Heap):=A.wrap true [] .k (A.dU Nh)
noncomputable def MN (a0:U) (σ:Heap):Option (U×Heap):=
 (mR [a0,ah,(U.int .i64 65535)] σ).bind fun r1=>
 A.fin σ r1.1 r1.2
noncomputable def IY:List U→Heap→Option (U×Heap):=A.wrap true [] .k (A.dU MN)
noncomputable def MZ (a0 a1:U) (σ:Heap):Option (U×Heap):=
 (A.cells 2 a0).bind fun c1=>
 (A.cells 2 a1).bind fun c2=>
 (A.an 0 c1).bind fun x3=>
 (A.an 0 c2).bind fun x4=>
 (A.neq .i x3 x4).bind fun x5=>
 A.cond x5 (
  (A.an 0 c1).bind fun x6=>
  (A.an 0 c2).bind fun x7=>
  (A.lss x6 x7).bind fun x8=>
  A.fin σ x8 σ) (
  (A.an 1 c1).bind fun x9=>
  (A.an 1 c2).bind fun bf=>
  (IN [x9,bf] σ).bind fun cD=>
  (A.lss cD.1 ah).bind fun bC=>
  A.fin σ bC cD.2)
noncomputable def MU:List U→Heap→Option (U×Heap):=A.wrap true [] .k (A.cM MZ)
noncomputable def Mi (a0 a1:U) (σ:Heap):Option (U×Heap):=
 (A.cells 2 a0).bind fun c1=>
 (A.az 0 2 c1).bind fun x2=>
 (IL [x2] σ).bind fun r3=>
 (A.aT a1).bind fun x4=>
 (A.gtr x4 (U.int .i64 200)).bind fun x5=>
 (Fy [x5,(U.int .i64 2)] r3.2).bind fun r6=>
 ((((A.cell r3.1).bind fun v=>some [v]).bind fun c7=>(A.splice 0 c7 [ah,ah]).bind fun c8=>((A.cell r6.1).bind fun v=>some [v]).bind fun c9=>(A.splice 1 c9 c8).bind fun dr=>some dr).bind fun cs=>some (U.sl 1 (chunks 1 2 cs))).bind fun bN=>
 (I8 [bN] r6.2).bind fun pS=>
 (A.neq .i pS.1 ah).bind fun bF=>
 A.cond bF (
  A.fin σ pS.1 pS.2) (
  (A.az 0 2 c1).bind fun bw=>
  (Ny [bw] pS.2).bind fun dG=>
  (A.aT a1).bind fun bl=>
  (A.loop (fun v17 vc=>
    (A.lss (v17.getD 1 U.undef) bl).bind fun bI=>
    A.cond bI (
     (A.aN 3 a1 (v17.getD 1 U.undef)).bind fun bg=>
     ((A.deref bg vc).bind fun lK=>A.az 0 3 lK).bind fun ct=>
     (A.cells 3 ct).bind fun eH=>
     (A.splice 0 eH [ah,aW,U.aH]).bind fun jq=>
     (A.an 0 jq).bind fun cN=>
     (mR [cN,aI,(U.int .i64 999)] vc).bind fun pU=>
     (A.not pU.1).bind fun x28=>
     A.cond x28 (
      some (AX.ret,[aI,(v17.getD 1 U.undef)],pU.2)) (
      (A.gtr (v17.getD 1 U.undef) ah).bind fun x29=>
      (A.guard x29 true (A.an 0 jq) aj).bind fun cO=>
      (A.guard x29 true (some a1) aj).bind fun x31=>
      (A.guard x29 true (some (v17.getD 1 U.undef)) aj).bind fun x32=>
      (A.guard x29 true (A.sub x32 aI) aj).bind fun gj=>
      (A.guard x29 true (A.aN 3 x31 gj) aj).bind fun x34=>
      (A.guard x29 true (A.bA 0 x34) aj).bind fun fB=>
      (A.guard x29 true ((A.deref fB pU.2).bind fun jF=>A.an 0 jF) aj).bind fun cV=>
      (A.guard x29 true (A.leq cO cV) aj).bind fun x38=>
      (A.pick x29 x38 aD).bind fun gy=>
      A.cond gy (
       some (AX.ret,[(U.int .i64 7),(v17.getD 1 U.undef)],pU.2)) (
       (A.an 1 jq).bind fun fG=>
       (M7 [fG] pU.2).bind fun CX=>
       (A.not CX.1).bind fun fZ=>
       A.cond fZ (
        some (AX.ret,[(U.int .i64 3),(v17.getD 1 U.undef)],CX.2)) (
        (A.an 2 jq).bind fun fM=>
        (A.aT fM).bind fun dH=>
        (A.gtr dH (U.int .i64 2000)).bind fun ew=>
        A.cond ew (
         some (AX.ret,[(U.int .i64 2),(v17.getD 1 U.undef)],CX.2)) (
         (A.an 2 jq).bind fun ia=>
         (A.aT ia).bind fun dK=>
         (A.loop (fun pW HY=>
           (A.lss (pW.getD 2 U.undef) dK).bind fun ef=>
           A.cond ef (
            (A.aN 3 ia (pW.getD 2 U.undef)).bind fun eM=>
            ((A.deref eM HY).bind fun Cz=>A.az 0 3 Cz).bind fun ga=>
            (A.cells 3 ga).bind fun Rs=>
            (A.splice 0 Rs [ah,aW,ah]).bind fun CA=>
            (A.az 0 2 CA).bind fun jf=>
            (A.look (.s [0,2]) dG.1 jf aD HY).bind fun gb=>
            (A.not gb).bind fun jv=>
            A.cond jv (
             some (AX.ret,[(U.int .i64 8),(pW.getD 1 U.undef),(pW.getD 2 U.undef)],HY)) (
             (A.an 2 CA).bind fun iQ=>
             (IY [iQ] HY).bind fun mP=>
             (A.not mP.1).bind fun gW=>
             A.cond gW (
              some (AX.ret,[aI,(pW.getD 1 U.undef),(pW.getD 2 U.undef)],mP.2)) (
              (A.gtr (pW.getD 2 U.undef) ah).bind fun dW=>
              ((A.lb (pW.getD 1 U.undef)).bind fun _=>some (2)).bind fun Sg=>
                            (A.guard dW true ((A.lb (pW.getD 1 U.undef)).bind fun CC=>A.an Sg CC) aj).bind fun mE=>
              (A.guard dW true (some (pW.getD 2 U.undef)) aj).bind fun gX=>
              (A.guard dW true (A.sub gX aI) aj).bind fun kj=>
              (A.guard dW true (A.aN 3 mE kj) aj).bind fun jg=>
              (A.guard dW true (A.bA 0 jg) aj).bind fun kU=>
              (A.guard dW true ((A.deref kU mP.2).bind fun kQ=>A.az 0 2 kQ) aj).bind fun kV=>
              (A.guard dW true (A.az 0 2 CA) aj).bind fun kn=>
              (A.guard dW true (A.quiet (MU [kV,kn] mP.2) mP.2) aj).bind fun gY=>
              (A.guard dW true (A.not gY) aj).bind fun gP=>
              (A.pick dW gP aD).bind fun gI=>
              A.cond gI (
               some (AX.ret,[(U.int .i64 7),(pW.getD 1 U.undef),(pW.getD 2 U.undef)],mP.2)) (
               (A.add (pW.getD 2 U.undef) aI).bind fun qz=>
               some (AX.normal,[(pW.getD 0 U.undef),(pW.getD 1 U.undef),qz],mP.2))))) (
            some (AX.exit 3,[(pW.getD 0 U.undef),(pW.getD 1 U.undef),(pW.getD 2 U.undef)],HY))) [(v17.getD 0 U.undef),(U.lbx jq),ah] CX.2).bind fun jO=>
         bif jO.1==AX.exit 3 then(
          (A.add (v17.getD 1 U.undef) aI).bind fun lP=>
          some (AX.normal,[(jO.2.1.getD 0 U.undef),lP],jO.2.2))else
         bif jO.1==AX.ret then(
          some (AX.ret,[(jO.2.1.getD 0 U.undef),(v17.getD 1 U.undef)],jO.2.2))else
         none))))) (
     some (AX.exit 0,[(v17.getD 0 U.undef),(v17.getD 1 U.undef)],vc))) [ah,ah] dG.2).bind fun jd=>
  bif jd.1==AX.exit 0 then(
   A.fin σ ah jd.2.2)else
  bif jd.1==AX.ret then(
   A.fin σ (jd.2.1.getD 0 U.undef) jd.2.2)else
  none)
noncomputable def Mh:List U→Heap→Option (U×Heap):=A.wrap true [xH,(.s 3)] .k (A.cM Mi)
noncomputable def Ng (a0 a1 a2:U) (σ:Heap):Option (U×Heap):=
 (A.cells 2 a1).bind fun c1=>
 (A.cells 2 a2).bind fun c2=>
 (A.an 0 c2).bind fun x3=>
 (A.neq .i x3 ah).bind fun x4=>
 (A.guard x4 true (A.an 1 c2) aj).bind fun x5=>
 (A.guard x4 true (A.neq .i x5 ah) aj).bind fun x6=>
 (A.pick x4 x6 aD).bind fun x7=>
 A.cond x7 (
  A.fin σ (U.aL [ah,(U.int .i64 3)]) σ) (
  (A.an 0 c2).bind fun x8=>
  (IY [x8] σ).bind fun r9=>
  (A.not r9.1).bind fun bf=>
  A.cond bf (
   A.fin σ (U.aL [ah,aI]) r9.2) (
   (A.an 1 c2).bind fun bN=>
   (A.eql .i bN ah).bind fun bC=>
   A.cond bC (
    (A.an 0 c2).bind fun bF=>
    A.fin σ (U.aL [bF,ah]) r9.2) (
    (A.aT a0).bind fun bw=>
    (A.loop (fun oQ LL=>
      (A.lss (oQ.getD 4 U.undef) bw).bind fun cU=>
      A.cond cU (
       (A.aN 3 a0 (oQ.getD 4 U.undef)).bind fun cg=>
       ((A.deref cg LL).bind fun i7=>A.az 0 3 i7).bind fun bg=>
       (A.cells 3 bg).bind fun lK=>
       (A.splice 0 lK [ah,aW,U.aH]).bind fun iV=>
       (A.an 0 iV).bind fun x24=>
       ((A.lb (oQ.getD 1 U.undef)).bind fun _=>some (1)).bind fun p25=>
       ((A.lb (oQ.getD 1 U.undef)).bind fun jE=>A.an p25 jE).bind fun cR=>
       (A.neq .i x24 cR).bind fun x28=>
       A.cond x28 (
        (A.add (oQ.getD 4 U.undef) aI).bind fun x29=>
        some (AX.normal,[(oQ.getD 0 U.undef),(oQ.getD 1 U.undef),(oQ.getD 2 U.undef),(oQ.getD 3 U.undef),x29],LL)) (
        (A.an 2 iV).bind fun cO=>
        (A.aT cO).bind fun x31=>
        (A.loop (fun v32 LN=>
          (A.lss (v32.getD 3 U.undef) x31).bind fun fB=>
          A.cond fB (
           (A.aN 3 cO (v32.getD 3 U.undef)).bind fun jG=>
           ((A.deref jG LN).bind fun uc=>A.az 0 3 uc).bind fun x38=>
           (A.cells 3 x38).bind fun jX=>
           (A.splice 0 jX [ah,aW,ah]).bind fun l7=>
           (A.az 0 2 l7).bind fun fW=>
           ((A.lb (v32.getD 0 U.undef)).bind fun qi=>A.az 0 2 qi).bind fun fM=>
           (A.eql (.s [0,2]) fW fM).bind fun dH=>
           A.cond dH (
            (A.an 2 l7).bind fun ew=>
            some (AX.ret,[(v32.getD 0 U.undef),ew,ah,(v32.getD 3 U.undef)],LN)) (
            (A.add (v32.getD 3 U.undef) aI).bind fun ia=>
            some (AX.normal,[(v32.getD 0 U.undef),(v32.getD 1 U.undef),(v32.getD 2 U.undef),ia],LN))) (
           some (AX.exit 2,[(v32.getD 0 U.undef),(v32.getD 1 U.undef),(v32.getD 2 U.undef),(v32.getD 3 U.undef)],LN))) [(oQ.getD 0 U.undef),(oQ.getD 2 U.undef),(oQ.getD 3 U.undef),ah] LL).bind fun oO=>
        bif oO.1==AX.exit 2 then(
         some (AX.exit 0,[(oO.2.1.getD 0 U.undef),U.undef,(oO.2.1.getD 1 U.undef),(oO.2.1.getD 2 U.undef),(oQ.getD 4 U.undef)],oO.2.2))else
        bif oO.1==AX.ret then(
         some (AX.ret,[(oO.2.1.getD 0 U.undef),U.undef,(oO.2.1.getD 1 U.undef),(oO.2.1.getD 2 U.undef),(oQ.getD 4 U.undef)],oO.2.2))else
        none)) (
       some (AX.exit 0,[(oQ.getD 0 U.undef),(oQ.getD 1 U.undef),(oQ.getD 2 U.undef),(oQ.getD 3 U.undef),(oQ.getD 4 U.undef)],LL))) [(U.lbx c1),(U.lbx c2),ah,ah,ah] r9.2).bind fun mD=>
    bif mD.1==AX.exit 0 then(
     A.fin σ (U.aL [ah,(U.int .i64 8)]) mD.2.2)else
    bif mD.1==AX.ret then(
     A.fin σ (U.aL [(mD.2.1.getD 2 U.undef),(mD.2.1.getD 3 U.undef)]) mD.2.2)else
    none)))
noncomputable def Fm:List U→Heap→Option (U×Heap):=A.wrap true [(.s 3)] .k (A.eG Ng)
end
end Go.Proofs.YtphgchakmkankaaGreat
