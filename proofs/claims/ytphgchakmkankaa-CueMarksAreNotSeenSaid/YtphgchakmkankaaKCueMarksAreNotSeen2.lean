/- Parts of the proof of CueMarksAreNotSeen, in order. -/
import Derived.Orders
import Derived.Below
import Derived.WalkKit
import Derived.Laws.StructEq
import Derived.Laws.Append
import Derived.Laws.AppendOwn
import Derived.Test.YtphgchakmkankaaRows
import Derived.KernelRfl
import Derived.Lib.Bytealg
import Derived.Sort.Defs
import Derived.Lib.BitFns
import Derived.Test.YtphgchakmkankaaKCueMarksAreNotSeen1
namespace Go.Proofs.Ytphgchakmkankaa
set_option linter.unusedVariables false
set_option linter.unusedSimpArgs false
set_option linter.unusedSectionVars false
section
open Go.RowKit
section
variable {X : Fx} {z : Z} {s : AS} {a : Act} {w w' : World} {E : List Pl} {pb : Nat → Option Nat} {R : Type}
theorem mK {o:Oper} {v:Value} {w':World} {K:Act→World→Prop} {Q:Exit→Act→World→Prop} (h:(execOp a.eval o).run X.P w=.ok (.value v) w') (k:K (a.put o.dst v) w'):o.wp X.P a w K Q:=by
 unfold Oper.wp;rw[h,Oper.upon_value];exact k
theorem JA {o:Oper} {w':World} {K:Act→World→Prop} {Q:Exit→Act→World→Prop} (h:(execOp a.eval o).run X.P w=.ok .skip w') (k:K (a.put o.dst undef) w'):o.wp X.P a w K Q:=by
 unfold Oper.wp;rw[h,Oper.upon_skip];exact k
theorem St.undef (h:St X z s a w E pb) (d:Option Nat):St X z (s.put X d (.aA [])) (a.put d undef) w E pb:=
 h.put d (by simp only[ah];exact⟨#[],rfl,by simp [aC]⟩)
theorem uf (hs:cD X) (h:St X z s a w E pb) {o:Oper} {k:AS→Option R} {r:R} (hk:((ew X o s none).bind fun v=>k (s.put X o.dst v))=some r) {K:Act→World→Prop} {Q:Exit→Act→World→Prop}
  (hK:∀s' a' w' E' bz,St X z s' a' w' E' bz→k s'=some r→K a' w'):o.wp X.P a w K Q:=by
 obtain⟨av,h1,h2⟩:=Option.bind_eq_some_iff.1 hk
 exact RJ hs h (tag:=none) trivial h1 fun v w' E' h3 h4=>hK _ _ _ _ _ (h3.put o.dst h4) h2
theorem aaG (h:St X z s a w E pb) {q str:Bool} {i:Operand} {dst:Option Nat} {ty:TypeId} {pos:String} {af:Array Edge} {g:Option (Nat×Bool)} {k:AS→Option R} {r:R}
  (hk:(bif q||str then none else A.wo (ev X s i) s.σ fun v σ=>k ((s.heap σ).put X dst v))=some r) {K:Act→World→Prop} {Q:Exit→Act→World→Prop}
  (hK:∀s' a' w' E' bz,St X z s' a' w' E' bz→k s'=some r→K a' w'):Oper.wp X.P ⟨dst,.next i str,ty,pos,af,g⟩ a w K Q:=by
 cases hq:(q||str)
 ·rw[hq]at hk
  simp only[cond_false]at hk
  simp only[Bool.or_eq_false_iff]at hq
  obtain⟨rfl,rfl⟩:=hq
  obtain⟨av,σ',v',w',k1,k2,k3,k4⟩:=aaH (ty:=ty) h hk (cO h i)
  exact mK (w':=w') (by simp [execOp,k2]) (hK _ _ _ _ _ (k3.put dst k4) k1)
 ·rw[hq]at hk;cases hk
theorem Wt (hs:cD X) (h:St X z s a w E pb) {d t n:Nat} {ps:Array (Nat×Operand)} {ty:TypeId} {pos:String} {af:Array Edge} {g:Option (Nat×Bool)} {k:AS→Option R} {r:R}
  (hk:((ew X ⟨some d,.buildSlice t n ps,ty,pos,af,g⟩ s none).bind fun v=>A.AW v fun sz es=>k ((s.heap (s.σ++[.arr es.length sz es])).put X (some d) (.os s.σ.length es.length sz 0 es.length)))=some r) {K:Act→World→Prop} {Q:Exit→Act→World→Prop}
  (hK:∀s' a' w' E' bz,St X z s' a' w' E' bz→k s'=some r→K a' w'):Oper.wp X.P ⟨some d,.buildSlice t n ps,ty,pos,af,g⟩ a w K Q:=by
 obtain⟨v,h1,h2⟩:=Option.bind_eq_some_iff.1 hk
 unfold A.AW at h2
 split at h2
 ·rename_i sz es
  cases hl:(es.length==0)
  ·rw[hl]at h2
   simp only[cond_false]at h2
   have hne:0<es.length:=by simp at hl;exact List.length_pos_iff.2 hl
   obtain⟨arr,et,e1,e2,e3,e4,e5⟩:=Vv h h1
   have hlen:=h.heap.len
   simp only[ctx]at hlen
   refine mK e1 (hK _ _ _ _ _ ((h.uw (.cells arr et) (.arr es.length sz es) ⟨w.heap.size,0,es.length,sz,arr.size⟩ rfl fun hx=>?_).put (some d) (av:=.os s.σ.length es.length sz 0 es.length) ?_) h2)
   ·have hb:=(MapKept.heap_alloc w (.cells arr et)).1
    exact⟨rfl,hne,rfl,e3,⟨arr,et,hb,rfl⟩,by rw[e2];simp,e4 _ hb hx,vR hb e5⟩
   ·simp only[ah]
    refine⟨hne,⟨w.heap.size,0,es.length,sz,arr.size⟩,by show(E++[_])[s.σ.length]? =_;rw[←hlen];exact List.getElem?_concat_length,Nat.le_refl _,⟨w.heap.size,0,none⟩,es.length,rfl,Nat.le_refl _,fun _=>⟨rfl,.inr (by simp),by rw[e2];simp⟩⟩
  ·rw[hl]at h2;cases h2
 ·cases h2
theorem abJ (hs:cD X) (h:St X z s a w E pb) {q:Bool} {o:Oper} {k:AS→Option R} {r:R} (hk:eX X q o s k=some r) {K:Act→World→Prop} {Q:Exit→Act→World→Prop}
  (hK:∀s' a' w' E' bz,St X z s' a' w' E' bz→k s'=some r→K a' w'):o.wp X.P a w K Q:=by
 unfold eX at hk
 cases hp:gX X o s none with
 |some p=>
  obtain⟨b,rr⟩:=p
  rw[hp]at hk
  simp only at hk
  obtain⟨off,h1,h2⟩:=Option.bind_eq_some_iff.1 hk
  subst h1
  obtain⟨n,k1,k2⟩:=RH h (tag:=none) trivial hp
  exact mK k2 (hK _ _ _ _ _ (h.KM o.dst (fun _=>⟨n,k1,rfl⟩)) h2)
 |none=>
  rw[hp]at hk
  simp only at hk
  obtain⟨dst,op,ty,pos,af,g⟩:=o
  cases op<;>simp only at hk<;>first|exact aaG h hk hK|exact uf hs h hk hK|skip
  case alloc t=>
   cases dst with
   |none=>cases hk
   |some d=>
    simp only at hk
    cases hL:X.L.contains d
    ·rw[hL]at hk
     simp only[cond_false]at hk
     cases hO:X.O.contains d
     ·rw[hO]at hk;exact uf hs h hk hK
     ·rw[hO]at hk
      simp only[cond_true]at hk
      split at hk
      ·rename_i cs hz
       obtain⟨i,v,h1,h2,h3,h4,h5,h6⟩:=sM (w:=w) hz (ctx z w E pb)
       have hrun:(execOp a.eval ⟨some d,.alloc t,ty,pos,af,g⟩).run X.P w=.ok (.value (.pointer (some ⟨w.heap.size,0,none⟩))) (w.alloc (.cells v.cells t)):=by
        simp [execOp,Instr.alloc,h3,newVar,sK]
       have hst:=h.uw (.cells v.cells t) (.box cs) ⟨w.heap.size,0,0,0,0⟩ rfl (fun hx=>by
        have hb:(w.alloc (.cells v.cells t)).heap[w.heap.size]? =some (.cells v.cells t (0,0)):=(MapKept.heap_alloc w _).1
        exact⟨rfl,⟨_,_,hb,by have:=h5.length;simpa using this.symm⟩,aX.tP hb (aC.mono hx _ _ h5) h6 (fun i hi=>by simp)⟩)
       have hlen:=h.heap.len
       simp only[ctx]at hlen
       refine mK hrun (hK _ _ _ _ _ (hst.put (some d) (av:=.op s.σ.length 0) ?_) hk)
       simp only[ah]
       exact⟨⟨w.heap.size,0,0,0,0⟩,by show(E++[_])[s.σ.length]? =_;rw[←hlen];exact List.getElem?_concat_length,rfl,rfl⟩
      ·cases hk
    ·rw[hL]at hk
     simp only[cond_true]at hk
     split at hk
     ·rename_i cs hz
      obtain⟨i,v,h1,h2,h3,h4,h5,h6⟩:=sM (w:=w) hz (ctx z w E pb)
      have hrun:(execOp a.eval ⟨some d,.alloc t,ty,pos,af,g⟩).run X.P w=.ok (.value (.pointer (some ⟨w.heap.size,0,none⟩))) (w.alloc (.cells v.cells t)):=by
       simp [execOp,Instr.alloc,h3,newVar,sK]
      obtain⟨bz,hst⟩:=h.lG d hL (vs:=v.cells.toList) t h5 h6
      exact mK hrun (hK _ _ _ _ _ (by simpa using hst) hk)
     ·cases hk
  case box t x=>
   cases dst with
   |none=>cases hk
   |some d=>
    simp only at hk
    cases hL:X.L.contains d
    ·rw[hL]at hk
     simp only[cond_false]at hk
     cases hO:X.O.contains d
     ·rw[hO]at hk;exact uf hs h hk hK
     ·rw[hO]at hk
      simp only[cond_true]at hk
      obtain⟨cs,h1,h2⟩:=Option.bind_eq_some_iff.1 hk
      obtain⟨h5,h6,_,_⟩:=zR X h1 (cO h x)
      have hrun:(execOp a.eval ⟨some d,.box t x,ty,pos,af,g⟩).run X.P w=.ok (.value (.pointer (some ⟨w.heap.size,0,none⟩))) (w.alloc (.cells (a.eval x).cells t)):=by
       simp [execOp,Instr.box,newVar,sK]
      have hst:=h.uw (.cells (a.eval x).cells t) (.box cs) ⟨w.heap.size,0,0,0,0⟩ rfl (fun hx=>by
       have hb:(w.alloc (.cells (a.eval x).cells t)).heap[w.heap.size]? =some (.cells (a.eval x).cells t (0,0)):=(MapKept.heap_alloc w _).1
       exact⟨rfl,⟨_,_,hb,by have:=h5.length;simpa using this.symm⟩,aX.tP hb (aC.mono hx _ _ h5) h6 (fun i hi=>by simp)⟩)
      have hlen:=h.heap.len
      simp only[ctx]at hlen
      refine mK hrun (hK _ _ _ _ _ (hst.put (some d) (av:=.op s.σ.length 0) ?_) h2)
      simp only[ah]
      exact⟨⟨w.heap.size,0,0,0,0⟩,by show(E++[_])[s.σ.length]? =_;rw[←hlen];exact List.getElem?_concat_length,rfl,rfl⟩
    ·rw[hL]at hk
     simp only[cond_true]at hk
     obtain⟨cs,h1,h2⟩:=Option.bind_eq_some_iff.1 hk
     obtain⟨h5,h6,_,_⟩:=zR X h1 (cO h x)
     have hrun:(execOp a.eval ⟨some d,.box t x,ty,pos,af,g⟩).run X.P w=.ok (.value (.pointer (some ⟨w.heap.size,0,none⟩))) (w.alloc (.cells (a.eval x).cells t)):=by
      simp [execOp,Instr.box,newVar,sK]
     obtain⟨bz,hst⟩:=h.lG d hL (vs:=(a.eval x).cells.toList) t h5 h6
     exact mK hrun (hK _ _ _ _ _ (by simpa using hst) h2)
  case store t x v=>
   split at hk
   ·rename_i b off hp
    obtain⟨cs,h1,h2⟩:=Option.bind_eq_some_iff.1 hk
    obtain⟨new,h3,h4⟩:=Option.bind_eq_some_iff.1 h2
    obtain⟨cs',h5,h6⟩:=Option.bind_eq_some_iff.1 h4
    obtain⟨n,k1,k2,k3,k4⟩:=Aa h (tag:=none) trivial hp h1
    obtain⟨r1,r2,r3,d,hd⟩:=zR X h3 (cO h v)
    obtain⟨arr,bt,j1,j2,j3⟩:=Pj k3
    obtain⟨j4,j5⟩:=j2.eD h5 r1
    have hrun:=Iw (P:=X.P) (t:=t) j1 r3 (M5 hd) r2 j5
    have hst:=h.abQ k1 ⟨cs,k4⟩ (t:=bt) j4 (Ap j3 r2)
    refine JA (w':=_) ?_ (hK _ _ _ _ _ (hst.undef dst) h6)
    simp only[execOp,k2,Sem.run_bind]
    rw[show(Instr.storeAt t (.pointer (some ⟨n,off,none⟩)) (a.eval v)).run X.P w=_ from hrun]
    rfl
   ·obtain⟨new,h3,h4⟩:=Option.bind_eq_some_iff.1 hk
    obtain⟨σ',h5,h6⟩:=Option.bind_eq_some_iff.1 h4
    obtain⟨w',k1,k2⟩:=XM h h3 (cO h v) h5 (cO h x)
    refine JA (w':=w') ?_ (hK _ _ _ _ _ (k2.undef dst) h6)
    simp only[execOp,Sem.run_bind,k1]
    rfl
  case makeMap t rr=>
   cases rr with
   |some x=>cases hk
   |none=>
    simp only at hk
    have hrun:(execOp a.eval ⟨dst,.makeMap t none,ty,pos,af,g⟩).run X.P w=.ok (.value (.map (some w.heap.size))) (w.alloc (.map #[] 0)):=by
     simp [execOp,Instr.makeMap,newObj,Sem.run]
    have hst:=h.uw (.map #[] 0) (.map []) ⟨w.heap.size,0,0,0,0⟩ rfl (fun hx=>by
     have hb:(w.alloc (.map #[] 0)).heap[w.heap.size]? =some (.map #[] 0):=(MapKept.heap_alloc w _).1
     exact⟨rfl,_,_,hb,l6.empty,rfl⟩)
    have hlen:=h.heap.len
    simp only[ctx]at hlen
    refine mK hrun (hK _ _ _ _ _ (hst.put dst (av:=.om s.σ.length) ?_) hk)
    simp only[ah]
    exact⟨⟨w.heap.size,0,0,0,0⟩,by show(E++[_])[s.σ.length]? =_;rw[←hlen];exact List.getElem?_concat_length,rfl,rfl⟩
  case range t x=>
   split at hk
   ·rename_i kt et hd
    obtain⟨es,h1,h2⟩:=Option.bind_eq_some_iff.1 hk
    obtain⟨o,k1,k2⟩:=Zx h hd h1 (cO h x)
    have hlen:=h.heap.len
    simp only[ctx]at hlen
    refine mK (v:=.pointer (some ⟨w.heap.size,0,none⟩)) (w':=w.alloc o) (by simp [execOp,k1]) (hK _ _ _ _ _ (k2.put dst (av:=.op s.σ.length 0) ?_) h2)
    simp only[ah]
    exact⟨⟨w.heap.size,0,0,0,0⟩,by show(E++[_])[s.σ.length]? =_;rw[←hlen];exact List.getElem?_concat_length,rfl,rfl⟩
   ·cases hk
  case buildSlice t n ps=>
   cases dst with
   |none=>exact uf hs h hk hK
   |some d=>
    simp only at hk
    cases hO:X.O.contains d
    ·rw[hO]at hk;exact uf hs h hk hK
    ·rw[hO]at hk
     simp only[cond_true]at hk
     exact Wt hs h hk hK
  case mapUpdate t m i v=>
   split at hk
   ·rename_i kt et hd
    split at hk
    ·rename_i ek he
     obtain⟨σ',h1,h2⟩:=Option.bind_eq_some_iff.1 hk
     obtain⟨w',k1,k2⟩:=aaC h hd he h1 (cO h m) (cO h i) (cO h v)
     refine JA (w':=w') ?_ (hK _ _ _ _ _ (k2.undef dst) h2)
     simp only[execOp,Sem.run_bind,k1]
     rfl
    ·cases hk
   ·cases hk
  case call c=>
   have hargs:(c.args.map a.eval).toList=c.args.toList.map a.eval:=by simp
   have re:=Ak h c.args.toList
   split at hk
   ·rename_i hc
    split at hk
    ·rename_i t u x y h1 h2
     split at hk
     ·rename_i e e' hd hu
      split at hk
      ·rename_i i hi
       cases dH:kq i
       ·rw[dH]at hk
        simp only[cond_false]at hk
        simp only[kq,Bool.or_eq_false_iff,beq_eq_false_iff_ne]at dH
        obtain⟨⟨z1,z2⟩,z3⟩:=dH
        cases Mb:i.zero with
        |none=>rw[Mb]at z3;cases z3
        |some zv=>
         rw[Mb]at z3
         simp only[Bool.or_eq_false_iff,bne_eq_false_iff_eq,Bool.not_eq_false']at z3
         obtain⟨z3,z4⟩:=z3
         obtain⟨⟨rr,σ'⟩,h3,h4⟩:=Option.bind_eq_some_iff.1 hk
         rw[h2]at re
         have hl:∃v vy,c.args.toList.map a.eval=[v,vy]∧ah (ctx z w E pb) x v∧ah (ctx z w E pb) y vy:=by
          generalize c.args.toList.map a.eval=vs at *
          simp only[aC]at re
          obtain⟨v,_,rfl,r1,u',_,rfl,r2,rfl⟩:=re
          exact⟨v,u',rfl,r1,r2⟩
         obtain⟨v,vy,hvs,r1,r2⟩:=hl
         have hone:∀x∈zv.cells.toList,cu x=true:=List.all_eq_true.1 z4
         obtain⟨n,w',E',k1,k2,k3⟩:=XS (ty:=ty) h hd hu hi Mb z3 z1 z2 hone h3 r1 r2
         have h1':c.argTypes=#[t,u]:=by apply Array.toList_inj.1;simpa using h1
         have sj:c.args.map a.eval=#[v,vy]:=by apply Array.toList_inj.1;rw[hargs,hvs]
         have hrun:(execOp a.eval ⟨dst,.call c,ty,pos,af,g⟩).run X.P w=.ok (.value n) w':=by
          simp only[execOp,resolve,hc,Sem.run_bind,Sem.run_pure,Result.andThen_ok,invoke,builtin,sj,h1',k1]
         exact mK hrun (hK _ _ _ _ _ (k2.put dst k3) h4)
       ·rw[dH]at hk;cases hk
      ·cases hk
     ·rename_i e kk hd hu
      split at hk
      ·rename_i i zs hi hz
       cases dH:kq i
       ·rw[dH]at hk
        simp only[cond_false]at hk
        simp only[kq,Bool.or_eq_false_iff,beq_eq_false_iff_ne]at dH
        obtain⟨⟨z1,z2⟩,z3⟩:=dH
        obtain⟨i',zv,g1,g2,g3,g4,g5,g6⟩:=sM (w:=w) hz (ctx z w E pb)
        rw[hi]at g1;injection g1 with g1;subst g1
        rw[g2]at z3
        simp only[Bool.or_eq_false_iff,bne_eq_false_iff_eq,Bool.not_eq_false']at z3
        obtain⟨z3,z4⟩:=z3
        have nv:∀c,aC c zs zv.cells.toList:=fun c=>by
         obtain⟨i2,v2,f1,f2,f3,f4,f5,f6⟩:=sM (w:=w) hz c
         rw[hi]at f1;injection f1 with f1;subst f1
         rw[g2]at f2;injection f2 with f2;subst f2
         exact f5
        obtain⟨⟨rr,σ'⟩,h3,h4⟩:=Option.bind_eq_some_iff.1 hk
        rw[h2]at re
        have hl:∃v vy,c.args.toList.map a.eval=[v,vy]∧ah (ctx z w E pb) x v∧ah (ctx z w E pb) y vy:=by
         generalize c.args.toList.map a.eval=vs at *
         simp only[aC]at re
         obtain⟨v,_,rfl,r1,u',_,rfl,r2,rfl⟩:=re
         exact⟨v,u',rfl,r1,r2⟩
        obtain⟨v,vy,hvs,r1,r2⟩:=hl
        obtain⟨n,w',E',k1,k2,k3⟩:=WV (ty:=ty) h hd hu hi g2 z3 z1 z2 nv g6 h3 r1 r2
        have h1':c.argTypes=#[t,u]:=by apply Array.toList_inj.1;simpa using h1
        have sj:c.args.map a.eval=#[v,vy]:=by apply Array.toList_inj.1;rw[hargs,hvs]
        have hrun:(execOp a.eval ⟨dst,.call c,ty,pos,af,g⟩).run X.P w=.ok (.value n) w':=by
         simp only[execOp,resolve,hc,Sem.run_bind,Sem.run_pure,Result.andThen_ok,invoke,builtin,sj,h1',k1]
        exact mK hrun (hK _ _ _ _ _ (k2.put dst k3) h4)
       ·rw[dH]at hk;cases hk
      ·cases hk
     ·cases hk
    ·cases hk
   ·rename_i hc
    split at hk
    ·rename_i t u x y h1 h2
     split at hk
     ·rename_i e e' hd hu
      split at hk
      ·rename_i i hi
       cases dH:kq i
       ·rw[dH]at hk
        simp only[cond_false]at hk
        simp only[kq,Bool.or_eq_false_iff,beq_eq_false_iff_ne]at dH
        obtain⟨⟨z1,z2⟩,z3⟩:=dH
        obtain⟨⟨rr,σ'⟩,h3,h4⟩:=Option.bind_eq_some_iff.1 hk
        rw[h2]at re
        have hl:∃v vy,c.args.toList.map a.eval=[v,vy]∧ah (ctx z w E pb) x v∧ah (ctx z w E pb) y vy:=by
         generalize c.args.toList.map a.eval=vs at *
         simp only[aC]at re
         obtain⟨v,_,rfl,r1,u',_,rfl,r2,rfl⟩:=re
         exact⟨v,u',rfl,r1,r2⟩
        obtain⟨v,vy,hvs,r1,r2⟩:=hl
        obtain⟨n,w',k1,k2,k3⟩:=Z0 (ty:=ty) h hd hu hi z1 h3 r1 r2
        have h1':c.argTypes=#[t,u]:=by apply Array.toList_inj.1;simpa using h1
        have sj:c.args.map a.eval=#[v,vy]:=by apply Array.toList_inj.1;rw[hargs,hvs]
        have hrun:(execOp a.eval ⟨dst,.call c,ty,pos,af,g⟩).run X.P w=.ok (.value n) w':=by
         simp only[execOp,resolve,hc,Sem.run_bind,Sem.run_pure,Result.andThen_ok,invoke,builtin,sj,h1',k1]
        exact mK hrun (hK _ _ _ _ _ (k2.put dst k3) h4)
       ·rw[dH]at hk;cases hk
      ·cases hk
     ·cases hk
    ·cases hk
   ·rename_i hc
    cases hv:ew X ⟨dst,.call c,ty,pos,af,g⟩ s none with
    |some v=>
     rw[hv]at hk
     exact uf hs h (by rw[hv];exact hk) hK
    |none=>
     rw[hv]at hk
     simp only[A.wJ]at hk
     cases q
     ·simp only[cond_false]at hk
      split at hk
      ·rename_i t x h1 h2
       split at hk
       ·rename_i e hd
        rw[h2]at re
        have hl:∃v,c.args.toList.map a.eval=[v]∧ah (ctx z w E pb) x v:=by
         generalize c.args.toList.map a.eval=vs at *
         simp only[aC]at re
         obtain⟨v,_,rfl,r1,rfl⟩:=re
         exact⟨v,rfl,r1⟩
        obtain⟨v,hvs,r1⟩:=hl
        obtain⟨n,σ',k1,k2,k3⟩:=ZW (ty:=ty) h hd hk r1
        have h1':c.argTypes=#[t]:=by apply Array.toList_inj.1;simpa using h1
        have sj:c.args.map a.eval=#[v]:=by apply Array.toList_inj.1;rw[hargs,hvs]
        have hrun:(execOp a.eval ⟨dst,.call c,ty,pos,af,g⟩).run X.P w=.ok (.value (.int .i64 (n:Int))) w:=by
         simp only[execOp,resolve,hc,Sem.run_bind,Sem.run_pure,Result.andThen_ok,invoke,builtin,sj,h1',k2]
        exact mK hrun (hK _ _ _ _ _ (k3.put dst (by simp [ah])) k1)
       ·cases hk
      ·cases hk
     ·cases hk
   ·rename_i hc
    split at hk
    ·rename_i t x h1 h2
     split at hk
     ·rename_i e hd
      split at hk
      ·rename_i i zs hi hz
       cases dH:kq i
       ·rw[dH]at hk
        simp only[cond_false]at hk
        simp only[kq,Bool.or_eq_false_iff,beq_eq_false_iff_ne]at dH
        obtain⟨⟨z1,z2⟩,z3⟩:=dH
        obtain⟨i',zv,g1,g2,g3,g4,g5,g6⟩:=sM (w:=w) hz (ctx z w E pb)
        rw[hi]at g1;injection g1 with g1;subst g1
        rw[g2]at z3
        simp only[Bool.or_eq_false_iff,bne_eq_false_iff_eq,Bool.not_eq_false']at z3
        obtain⟨z3,z4⟩:=z3
        have nv:∀c,aC c zs zv.cells.toList:=fun c=>by
         obtain⟨i2,v2,f1,f2,f3,f4,f5,f6⟩:=sM (w:=w) hz c
         rw[hi]at f1;injection f1 with f1;subst f1
         rw[g2]at f2;injection f2 with f2;subst f2
         exact f5
        obtain⟨σ',h3,h4⟩:=Option.bind_eq_some_iff.1 hk
        rw[h2]at re
        have hl:∃v,c.args.toList.map a.eval=[v]∧ah (ctx z w E pb) x v:=by
         generalize c.args.toList.map a.eval=vs at *
         simp only[aC]at re
         obtain⟨v,_,rfl,r1,rfl⟩:=re
         exact⟨v,rfl,r1⟩
        obtain⟨v,hvs,r1⟩:=hl
        obtain⟨w',k1,k2⟩:=YZ (ty:=ty) h hd (XQ X.P hi g2) z3 z1 nv g6 h3 r1
        have h1':c.argTypes=#[t]:=by apply Array.toList_inj.1;simpa using h1
        have sj:c.args.map a.eval=#[v]:=by apply Array.toList_inj.1;rw[hargs,hvs]
        have hrun:(execOp a.eval ⟨dst,.call c,ty,pos,af,g⟩).run X.P w=.ok (.value undef) w':=by
         simp only[execOp,resolve,hc,Sem.run_bind,Sem.run_pure,Result.andThen_ok,invoke,builtin,sj,h1',k1]
         rfl
        exact mK hrun (hK _ _ _ _ _ (k2.undef dst) h4)
       ·rw[dH]at hk;cases hk
      ·cases hk
     ·cases hk
    ·cases hk
   ·rename_i hc
    split at hk
    ·rename_i t u m key h1 h2
     split at hk
     ·rename_i kt et hd
      split at hk
      ·rename_i ek he
       obtain⟨σ',h3,h4⟩:=Option.bind_eq_some_iff.1 hk
       rw[h2]at re
       have hl:∃v vy,c.args.toList.map a.eval=[v,vy]∧ah (ctx z w E pb) m v∧ah (ctx z w E pb) key vy:=by
        generalize c.args.toList.map a.eval=vs at *
        simp only[aC]at re
        obtain⟨v,_,rfl,r1,u',_,rfl,r2,rfl⟩:=re
        exact⟨v,u',rfl,r1,r2⟩
       obtain⟨v,vy,hvs,r1,r2⟩:=hl
       obtain⟨w',k1,k2⟩:=aaz (u:=u) (ty:=ty) h hd he h3 r1 r2
       have h1':c.argTypes=#[t,u]:=by apply Array.toList_inj.1;simpa using h1
       have sj:c.args.map a.eval=#[v,vy]:=by apply Array.toList_inj.1;rw[hargs,hvs]
       have hrun:(execOp a.eval ⟨dst,.call c,ty,pos,af,g⟩).run X.P w=.ok (.value undef) w':=by
        simp only[execOp,resolve,hc,Sem.run_bind,Sem.run_pure,Result.andThen_ok,invoke,builtin,sj,h1',k1]
        rfl
       exact mK hrun (hK _ _ _ _ _ (k2.undef dst) h4)
      ·cases hk
     ·cases hk
    ·cases hk
   ·exact uf hs h hk hK
   ·rename_i f hc
    cases hq:(q&&!X.W.contains f)
    ·rw[hq]at hk
     simp only[cond_false]at hk
     obtain⟨⟨rr,σ'⟩,h3,h4⟩:=Option.bind_eq_some_iff.1 hk
     exact B6 h (hs.call _ _ _ _ _ h3) (by rw[hargs];exact re) (MU hc) (fun v w' E' h1 h2=>hK _ _ _ _ _ (h1.put dst h2) h4)
    ·rw[hq]at hk
     simp only[cond_true]at hk
     exact uf hs h hk hK
   ·rename_i x hnf hc
    cases q
    ·simp only[cond_false]at hk
     obtain⟨⟨rr,σ'⟩,h3,h4⟩:=Option.bind_eq_some_iff.1 hk
     have rx:=cO h x
     generalize ev X s x=vx at *
     cases vx<;>simp only[A.fO]at h3<;>first|(cases h3;done)|skip
     rename_i fn0 Cp
     simp only[ah]at rx
     obtain⟨f,cs,e1,e2,e3⟩:=rx
     rw[←e2]at h3
     have vf:X.dyn (X.nm.getD f 0) (c.args.toList.map (ev X s)++Cp) s.σ=some (rr,σ'):=by rw[h.nm];exact h3
     exact B6 h (hs.dyn _ _ _ _ _ vf) (vs:=c.args.map a.eval++cs) (by rw[Array.toList_append,hargs];exact re.append e3) (HQ hc e1) (fun v w' E' h1 h2=>hK _ _ _ _ _ (h1.put dst h2) h4)
    ·simp only[cond_true]at hk
     exact uf hs h hk hK
   ·cases hk
end
end
section
structure Up where
 d:Option Nat
 v:U
 bx:Option (Nat×U)
 new:Option pN
 rJ:Bool
 σ:Option Heap
def mm (rJ:Bool) (d:Nat) (a:Option pN):Option pN:=match lC d a with|some p=>bif rJ&&p.slot==d then none else some p|none=>none
def Up.sl (u:Up) (l:List U):List U:=match u.d with
 |some d=>(match u.bx with|some (b,x)=>l.set b x|none=>l).set d u.v
 |none=>(match u.bx with|some (b,x)=>l.set b x|none=>l)
def Up.A (u:Up) (A:Nat→Option pN) (t:Nat):Option pN:=match u.d with|none=>A t|some d=>bif t==d then u.new else mm u.rJ d (A t)
def Up.ap (u:Up) (s:AS):AS:=⟨u.sl s.sl,u.A s.A,u.σ.getD s.σ⟩
theorem BI (d:Nat) (a:Option pN):mm false d a=lC d a:=by unfold mm;cases lC d a<;>rfl
theorem IE (i:Bool) (d:Nat) (a:Option pN):mm i d a=a∨mm i d a=none:=by
 cases a with
 |none=>left;rfl
 |some p=>
  unfold mm
  cases hk:lC d (some p)with
  |none=>right;rfl
  |some q=>
   simp only
   have:q=p:=by
    simp only[lC]at hk
    cases ht:p.tag with
    |none=>rw[ht]at hk;simpa using hk.symm
    |some g=>
     obtain⟨g,w⟩:=g
     rw[ht]at hk
     simp only at hk
     cases hg:(g==d)
     ·rw[hg]at hk;simpa using hk.symm
     ·rw[hg]at hk;cases hk
   subst this
   cases hb:(i&&q.slot==d)
   ·left;rfl
   ·right;rfl
theorem E0 (i:Bool) (d:Nat):mm i d none=none:=rfl
theorem X3 (i j:Bool) (d e:Nat) (a:Option pN):mm i d (mm j e a)=mm j e (mm i d a):=by
 rcases IE i d a with h1|h1<;>rcases IE j e a with h2|h2
 ·rw[h2,h1,h2]
 ·rw[h2,E0,h1,h2]
 ·rw[h2,h1,E0]
 ·rw[h2,E0,h1,E0]
structure Up.RW (x y : Up) : Prop where
 d:∀d,x.d=some d→y.d≠some d
 bx:∀b v,x.bx=some (b,v)→(∀c w,y.bx=some (c,w)→c≠b)∧y.d≠some b
 Tj:∀b v,y.bx=some (b,v)→(∀c w,x.bx=some (c,w)→c≠b)∧x.d≠some b
 nx:∀d,y.d=some d→mm y.rJ d x.new=x.new
 ny:∀d,x.d=some d→mm x.rJ d y.new=y.new
 σ:x.σ=none∨y.σ=none
theorem Up.comm {x y:Up} (h:x.RW y) (s:AS):x.ap (y.ap s)=y.ap (x.ap s):=by
 obtain⟨hd,qH,hby,hnx,hny,dO⟩:=h
 unfold Up.ap
 congr 1
 ·show x.sl (y.sl s.sl)=y.sl (x.sl s.sl)
  generalize s.sl=l
  obtain⟨xd,xv,xb,xn,xi,xs⟩:=x
  obtain⟨yd,yv,yb,yn,yi,ys⟩:=y
  simp only at hd qH hby
  cases xb with
  |none=>
   cases yb with
   |none=>
    cases xd with
    |none=>cases yd<;>simp [Up.sl]
    |some dx=>cases yd with
     |none=>simp [Up.sl]
     |some dy=>simp only[Up.sl];rw[List.set_comm];intro e;exact hd dx rfl (by rw[e])
   |some bv=>
    obtain⟨b,v⟩:=bv
    obtain⟨_,hb⟩:=hby b v rfl
    cases xd with
    |none=>cases yd<;>simp [Up.sl]
    |some dx=>
     have hne:dx≠b:=fun e=>hb (by rw[e])
     cases yd with
     |none=>simp only[Up.sl];rw[List.set_comm _ _ (fun e=>hne e.symm)]
     |some dy=>
      have oH:dx≠dy:=fun e=>hd dx rfl (by rw[e])
      simp only[Up.sl]
      rw[List.set_comm _ _ (fun e=>oH e.symm),List.set_comm _ _ (fun e=>hne e.symm)]
  |some bv=>
   obtain⟨b,v⟩:=bv
   obtain⟨Dx,hb⟩:=qH b v rfl
   cases yb with
   |none=>
    cases yd with
    |none=>cases xd<;>simp [Up.sl]
    |some dy=>
     have hne:dy≠b:=fun e=>hb (by rw[e])
     cases xd with
     |none=>simp only[Up.sl];rw[List.set_comm _ _ hne]
     |some dx=>
      have oH:dx≠dy:=fun e=>hd dx rfl (by rw[e])
      simp only[Up.sl]
      rw[List.set_comm _ _ hne,List.set_comm _ _ (fun e=>oH e.symm)]
   |some cw=>
    obtain⟨c,u⟩:=cw
    have hcb:c≠b:=Dx c u rfl
    obtain⟨_,hc⟩:=hby c u rfl
    cases xd with
    |none=>
     cases yd with
     |none=>simp only[Up.sl];rw[List.set_comm _ _ hcb]
     |some dy=>
      have hne:dy≠b:=fun e=>hb (by rw[e])
      simp only[Up.sl]
      rw[List.set_comm _ _ hne,List.set_comm _ _ hcb]
    |some dx=>
     have hnc:dx≠c:=fun e=>hc (by rw[e])
     cases yd with
     |none=>
      simp only[Up.sl]
      rw[List.set_comm _ _ hcb,List.set_comm _ _ (fun e=>hnc e.symm)]
     |some dy=>
      have hne:dy≠b:=fun e=>hb (by rw[e])
      have oH:dx≠dy:=fun e=>hd dx rfl (by rw[e])
      simp only[Up.sl]
      rw[List.set_comm _ _ hne,List.set_comm _ _ (fun e=>oH e.symm),List.set_comm _ _ hcb,List.set_comm _ _ (fun e=>hnc e.symm)]
 ·funext t
  show x.A (y.A s.A) t=y.A (x.A s.A) t
  generalize s.A t=a0 
  unfold Up.A
  cases TX:x.d with
  |none=>cases y.d<;>rfl
  |some dx=>
   cases TY:y.d with
   |none=>rfl
   |some dy=>
    have oH:dx≠dy:=fun e=>hd dx TX (by rw[TY,e])
    simp only
    by_cases h1:t=dx
    ·subst h1
     have:(t==dy)=false:=by simpa using oH
     simp only[beq_self_eq_true,cond_true,this,cond_false]
     exact(hnx dy TY).symm
    ·have h1':(t==dx)=false:=by simpa using h1
     by_cases h2:t=dy
     ·subst h2
      simp only[beq_self_eq_true,cond_true,h1',cond_false]
      exact hny dx TX
     ·have h2':(t==dy)=false:=by simpa using h2
      simp only[h1',h2',cond_false]
      exact X3 ..
 ·rcases dO with e|e<;>simp [e]
structure RI (X : Fx) (Rt : List (Nat × Nat)) (Bt : List Nat) (s : AS) : Prop where
 l:∀t b,Rt.lookup t=some b→X.L.contains b=true
 a:∀t p,s.A t=some p→Rt.lookup t=some p.slot
 v:∀t b,Rt.lookup t=some b→X.L.contains t=false→jy (s.sl.getD t .undef)=true
 b:∀t,Bt.contains t=true→lI (s.sl.getD t .undef)=true
def mN (σ σ':Heap):Prop:=∀(id:Nat) (cs:List U),σ[id]? =some (aO.box cs)↔σ'[id]? =some (aO.box cs)
section
variable {R : Type} {X : Fx} {Rt : List (Nat × Nat)} {Bt : List Nat} {s s' : AS}
theorem Fw (h:RI X Rt Bt s) {tag:Option (Nat×Bool)} {x:Operand} {b off:Nat} (hp:place X s tag x=some (b,off)):tW X Rt x=some b:=by
 cases x with
 |tmp t=>
  simp only[place]at hp
  simp only[tW]
  cases hL:X.L.contains t
  ·rw[hL]at hp
   simp only[cond_false]at hp ⊢
   split at hp
   ·rename_i p hA
    cases hc:X.L.contains p.slot
    ·rw[hc]at hp;cases hp
    ·rw[hc]at hp
     simp only[cond_true]at hp
     have ha:=h.a t p hA
     split at hp
     ·simp only[Option.some.injEq,Prod.mk.injEq]at hp;rw[ha,hp.1]
     ·rename_i g hg
      cases ht:(tag==some g)
      ·rw[ht]at hp;cases hp
      ·rw[ht]at hp;simp only[cond_true,Option.some.injEq,Prod.mk.injEq]at hp;rw[ha,hp.1]
   ·cases hp
  ·rw[hL]at hp
   simp only[cond_true,Option.some.injEq,Prod.mk.injEq]at hp ⊢
   exact hp.1
 |_=>simp [place]at hp
theorem Ah (h:RI X Rt Bt s) {tag:Option (Nat×Bool)} {x:Operand} {b:Nat} (hr:tW X Rt x=some b) (hp:place X s tag x=none):jy (ev X s x)=true:=by
 cases x with
 |tmp t=>
  simp only[tW]at hr
  cases hL:X.L.contains t
  ·rw[hL]at hr
   simp only[cond_false]at hr
   simp only[ev,hL,cond_false]
   exact h.v t b hr hL
  ·simp only[place,hL,cond_true]at hp;cases hp
 |_=>simp [tW]at hr
theorem Pp {v:U} {σ:Heap} (h:jy v=true):A.deref v σ=none:=by
 unfold jy at h;split at h<;>first|rfl|cases h
theorem XZ {v:U} {σ σ':Heap} (h:mN σ σ') (hv:lI v=true):A.deref v σ=A.deref v σ':=by
 cases v<;>first|rfl|skip
 case op id off=>
  simp only[A.deref]
  cases h1:σ[id]? with
  |none=>
   cases h2:σ'[id]? with
   |none=>rfl
   |some b=>cases b<;>first|rfl|(have:=(h id _).2 h2;rw[h1]at this;cases this)
  |some b=>
   cases b with
   |box cs=>rw[(h id cs).1 h1]
   |_=>
    cases h2:σ'[id]? with
    |none=>rfl
    |some b=>cases b<;>first|rfl|(have:=(h id _).2 h2;rw[h1]at this;cases this)
 case oe id g i off=>cases hv
theorem XL {v:U} {new:List U} {σ:Heap} (h:jy v=true):A.storeAt v new σ=none:=by
 unfold jy at h;split at h<;>first|rfl|cases h
theorem Iq {pl:Nat→Option (Nat×TypeId)}:∀(ps:List (Nat×Operand)) (cs:List U),(∀p∈ps,ev X s p.2=ev X s' p.2)→lH X s pl ps cs=lH X s' pl ps cs
 |[],cs,_=>rfl
 |(i,x)::ps,cs,h=>by
  have hx:=h (i,x) (by simp)
  simp only at hx
  simp only[lH,hx]
  cases pl i with
  |none=>rfl
  |some ot=>
   simp only
   congr 1;funext new;congr 1;funext cs'
   exact Iq ps cs' (fun p hp=>h p (by simp [hp]))
theorem I2 {o:Oper} {tag:Option (Nat×Bool)} (eC:∀x∈o.op.operands.toList,ev X s x=ev X s' x) (hpl:∀x,kR o=some x→place X s tag x=place X s' tag x) (hb:∀b,rt X Rt o=some b→s.sl.getD b .undef=s'.sl.getD b .undef)
  (Dq:∀x b off,kR o=some x→place X s' tag x=some (b,off)→rt X Rt o=some b):gX X o s tag=gX X o s' tag:=by
 obtain⟨dst,op,ty,pos,af,g⟩:=o
 cases op<;>simp only[gX]
 case nilCheck x=>
  rw[hpl x rfl]
  split
  ·rename_i b off hp;rw[hb b (Dq x b off rfl hp)]
  ·rfl
 case fieldAddr t x f=>
  rw[hpl x rfl]
  split
  ·rename_i b off hp;rw[hb b (Dq x b off rfl hp)]
  ·rfl
 case indexAddr t x i=>
  rw[hpl x rfl,eC i (by simp [Op.operands])]
  split
  ·rename_i b off hp;rw[hb b (Dq x b off rfl hp)]
  ·rfl
theorem E8 {o:Oper} {tag:Option (Nat×Bool)} (eC:∀x∈o.op.operands.toList,ev X s x=ev X s' x) (hpl:∀x,kR o=some x→place X s tag x=place X s' tag x) (hb:∀b,rt X Rt o=some b→s.sl.getD b .undef=s'.sl.getD b .undef)
  (Dq:∀x b off,kR o=some x→place X s' tag x=some (b,off)→rt X Rt o=some b) (hno:∀x b,kR o=some x→rt X Rt o=some b→place X s' tag x=none→jy (ev X s' x)=true) (dO:p4 X Rt o=true→soft Bt o=false→s.σ=s'.σ) (adx:p4 X Rt o=true→soft Bt o=true→mN s.σ s'.σ) (hB:∀t,Bt.contains t=true→lI (ev X s' (.tmp t))=true):ew X o s tag=ew X o s' tag:=by
 obtain⟨dst,op,ty,pos,af,g⟩:=o
 cases op<;>simp only[ew]
 case move x=>rw[eC x (by simp [Op.operands])]
 case assign x=>rw[eC x (by simp [Op.operands])]
 case pick x y u=>rw[eC x (by simp [Op.operands]),eC y (by simp [Op.operands]),eC u (by simp [Op.operands])]
 case box t x=>rw[eC x (by simp [Op.operands])]
 case build t ps=>
  have hps:∀p∈ps.toList,ev X s p.2=ev X s' p.2:=fun p hp=>eC p.2 (by simp only[Op.operands];simp;exact⟨p.1,by simpa using hp⟩)
  split
  ·rw[Iq ps.toList _ hps]
  ·rfl
 case buildSlice t n ps=>
  have hps:∀p∈ps.toList,ev X s p.2=ev X s' p.2:=fun p hp=>eC p.2 (by simp only[Op.operands];simp;exact⟨p.1,by simpa using hp⟩)
  split
  ·split
   ·rw[Iq ps.toList _ hps]
   ·rfl
  ·rfl
 case load t x=>
  rw[hpl x rfl,eC x (by simp [Op.operands])]
  split
  ·rename_i b off hp;rw[hb b (Dq x b off rfl hp)]
  ·rename_i hp
   cases hr:rt X Rt ⟨dst,.load t x,ty,pos,af,g⟩with
   |none=>
    cases zc:soft Bt ⟨dst,.load t x,ty,pos,af,g⟩
    ·rw[dO (by simp only[p4,hr,Option.isNone_none]) zc]
    ·rw[XZ (adx (by simp only[p4,hr,Option.isNone_none]) zc) (by
      cases x with
      |tmp u=>exact hB u zc
      |_=>simp [soft]at zc)]
   |some b=>rw[Pp (hno x b rfl hr hp),Pp (hno x b rfl hr hp)]
 case nilCheck x=>rw[eC x (by simp [Op.operands])]
 case binOp op t x y u=>rw[eC x (by simp [Op.operands]),eC y (by simp [Op.operands])]
 case unOp op t x=>rw[eC x (by simp [Op.operands])]
 case convert a b x=>rw[eC x (by simp [Op.operands])]
 case makeFunc fn first caps=>
  have:caps.toList.map (ev X s)=caps.toList.map (ev X s'):=List.map_congr_left fun x hx=>eC x (by simp [Op.operands];exact .inr (by simpa using hx))
  rw[this]
 case slice t x lo hi mx=>
  have h1:lo.map (ev X s)=lo.map (ev X s'):=by cases lo with|none=>rfl|some y=>simp only[Option.map_some];rw[eC y (by simp [Op.operands])]
  have h2:hi.map (ev X s)=hi.map (ev X s'):=by cases hi with|none=>rfl|some y=>simp only[Option.map_some];rw[eC y (by simp [Op.operands])]
  rw[eC x (by simp [Op.operands]),h1,h2,dO rfl rfl]
  split
  ·rfl
  ·split
   ·rw[eC _ (by simp [Op.operands]),eC _ (by simp [Op.operands])]
   ·rfl
 case fieldAddr t x f=>rw[eC x (by simp [Op.operands])]
 case field t x f=>rw[eC x (by simp [Op.operands])]
 case indexAddr t x i=>rw[eC x (by simp [Op.operands]),eC i (by simp [Op.operands])]
 case index t x i=>rw[eC x (by simp [Op.operands]),eC i (by simp [Op.operands])]
 case lookup t x i ok=>rw[eC x (by simp [Op.operands]),eC i (by simp [Op.operands]),dO rfl rfl]
 case extract x i=>rw[eC x (by simp [Op.operands])]
 case entry i=>rw[eC i (by simp [Op.operands]),dO rfl rfl]
 case call c=>
  have ha:c.args.toList.map (ev X s)=c.args.toList.map (ev X s'):=List.map_congr_left fun x hx=>eC x (by simp [Op.operands,Call.operands];exact .inr (by simpa using hx))
  rw[ha,dO rfl rfl]
  cases hc:c.callee with
  |value f=>
   have hf:=eC f (by simp [Op.operands,Call.operands,hc])
   cases f<;>simp only[hf]
  |_=>rfl
theorem Fg {σ:Heap} {b:aO} (hb:∀cs,b≠.box cs):mN σ (σ++[b]):=by
 intro id cs
 by_cases h:id<σ.length
 ·rw[List.getElem?_append_left h]
 ·rw[List.getElem?_eq_none (by omega),List.getElem?_append_right (by omega)]
  constructor
  ·intro e;cases e
  ·intro e
   have:=List.mem_of_getElem? e
   simp at this
   exact absurd this.symm (hb cs)
theorem JD {σ:Heap} {id:Nat} {b b':aO} (hb:∀cs,b≠.box cs) (hb':∀cs,b'≠.box cs) (h:σ[id]? =some b):mN σ (σ.set id b'):=by
 intro i cs
 rw[List.getElem?_set]
 by_cases e:id=i
 ·subst e
  rw[h]
  have hlt:=(List.getElem?_eq_some_iff.1 h).1
  simp only[if_true,hlt]
  constructor
  ·intro e;injection e with e;exact absurd e (hb cs)
  ·intro e;injection e with e;exact absurd e (hb' cs)
 ·simp [e]
theorem xT (σ:Heap):mN σ σ:=fun _ _=>Iff.rfl
theorem YT {ek:A.EK} {m k v:U} {σ σ':Heap} (h:A.eU ek m k v σ=some σ'):mN σ σ':=by
 unfold A.eU at h
 cases hk:A.gj ek k
 ·rw[hk]at h;cases h
 rw[hk]at h
 simp only[cond_true]at h
 split at h
 ·split at h
  ·rename_i es hg
   obtain⟨es',_,e⟩:=Option.map_eq_some_iff.1 h
   subst e
   exact JD (fun cs e=>by cases e) (fun cs e=>by cases e) hg
  ·cases h
 ·cases h
theorem Nu {sz most:Nat} {x r:U} {ys:List (List U)} {σ σ':Heap} (h:A.jG sz most x ys σ=some (r,σ')):mN σ σ':=by
 unfold A.jG at h
 split at h
 ·split at h
  ·injection h with h;injection h with _ h;subst h;exact xT _
  ·split at h
   ·injection h with h;injection h with _ h;subst h;exact Fg fun cs e=>by cases e
   ·cases h
 ·split at h
  ·injection h with h;injection h with _ h;subst h;exact xT _
  ·split at h
   ·injection h with h;injection h with _ h;subst h;exact Fg fun cs e=>by cases e
   ·cases h
 ·split at h
  ·rename_i hg
   split at h
   ·split at h
    ·injection h with h;injection h with _ h;subst h;exact xT _
    ·split at h
     ·injection h with h;injection h with _ h;subst h;exact JD (fun cs e=>by cases e) (fun cs e=>by cases e) hg
     ·injection h with h;injection h with _ h;subst h;exact JD (fun cs e=>by cases e) (fun cs e=>by cases e) hg
   ·cases h
  ·split at h
   ·injection h with h;injection h with _ h;subst h;exact Fg fun cs e=>by cases e
   ·cases h
  ·cases h
 ·cases h
theorem WW {sz most:Nat} {x y r:U} {σ σ':Heap} (h:A.append sz most x y σ=some (r,σ')):mN σ σ':=by
 unfold A.append at h
 obtain⟨ys,_,h2⟩:=Option.bind_eq_some_iff.1 h
 exact Nu h2
theorem Ws {sz most:Nat} {zs:List U} {x n r:U} {σ σ':Heap} (h:A.rj sz most zs x n σ=some (r,σ')):mN σ σ':=by
 unfold A.rj at h
 split at h
 ·split at h
  ·exact Nu h
  ·cases h
 ·cases h
structure Ag (X : Fx) (Rt : List (Nat × Nat)) (Bt : List Nat) (o : Oper) (ls : List Nat) (tag : Option (Nat × Bool)) (s s' : AS) : Prop where
 r1:RI X Rt Bt s
 r2:RI X Rt Bt s'
 eC:∀t∈ls,X.L.contains t=false→s.sl.getD t .undef=s'.sl.getD t .undef
 pl:∀t,kR o=some (.tmp t)→place X s tag (.tmp t)=place X s' tag (.tmp t)
 bx:∀b,rt X Rt o=some b→s.sl.getD b .undef=s'.sl.getD b .undef
 σ:p4 X Rt o=true→soft Bt o=false→s.σ=s'.σ
 DX:p4 X Rt o=true→soft Bt o=true→mN s.σ s'.σ
theorem Zv {tag:Option (Nat×Bool)} {x:Operand} {b off:Nat} (h:place X s tag x=some (b,off)):X.L.contains b=true:=by
 cases x with
 |tmp t=>
  simp only[place]at h
  cases hL:X.L.contains t
  ·rw[hL]at h
   simp only[cond_false]at h
   split at h
   ·rename_i p hA
    cases hp:X.L.contains p.slot
    ·rw[hp]at h;cases h
    ·rw[hp]at h
     simp only[cond_true]at h
     split at h
     ·simp only[Option.some.injEq,Prod.mk.injEq]at h;rw[←h.1];exact hp
     ·rename_i g hg
      cases ht:(tag==some g)
      ·rw[ht]at h;cases h
      ·rw[ht]at h;simp only[cond_true,Option.some.injEq,Prod.mk.injEq]at h;rw[←h.1];exact hp
   ·cases h
  ·rw[hL]at h
   simp only[cond_true,Option.some.injEq,Prod.mk.injEq]at h
   rw[←h.1];exact hL
 |_=>simp [place]at h
theorem Ag.w8 {o:Oper} {ls:List Nat} {tag:Option (Nat×Bool)} (h:Ag X Rt Bt o ls tag s s') (hls:∀t,Operand.tmp t∈o.op.operands.toList→t∈ls):∀x∈o.op.operands.toList,ev X s x=ev X s' x:=by
 intro x hx
 cases x with
 |tmp t=>
  simp only[ev]
  cases hL:X.L.contains t
  ·simp only[cond_false];exact h.eC t (hls t hx) hL
  ·rfl
 |_=>rfl
theorem RI.A5 (h:RI X Rt Bt s):∀t,Bt.contains t=true→lI (ev X s (.tmp t))=true:=by
 intro t ht
 simp only[ev]
 cases X.L.contains t
 ·exact h.b t ht
 ·rfl
theorem Ag.vo {o:Oper} {ls:List Nat} {tag:Option (Nat×Bool)} (h:Ag X Rt Bt o ls tag s s'):∀x,kR o=some x→place X s tag x=place X s' tag x:=by
 intro x hx
 cases x with
 |tmp t=>exact h.pl t hx
 |_=>rfl
def zq (X:Fx) (d:Option Nat) (v:U):Up:=⟨d,match d with|some d=>bif X.L.contains d then .undef else v|none=>.undef,none,none,false,none⟩
def DQ (X:Fx) (d:Option Nat) (σ:Heap) (v:U):Up:=⟨d,match d with|some d=>bif X.L.contains d then .undef else v|none=>.undef,none,none,false,some σ⟩
def Hf (X:Fx) (d:Option Nat) (b:Nat) (cs:List U):Up:=⟨d,match d with|some d=>bif X.L.contains d then .undef else .aA []|none=>.undef,some (b,.lbx cs),none,false,none⟩
def He (d:Nat) (cs:List U):Up:=⟨some d,.lbx cs,none,none,true,none⟩
def Bl (X:Fx) (d:Option Nat) (b off:Nat) (tag:Option (Nat×Bool)):Up:=
 ⟨d,.undef,none,match d with|some d=>(bif X.L.contains d||!Nat.blt d X.n then none else match tag with|some (g,w)=>(bif g==d then none else some ⟨b,off,some (g,w)⟩)|none=>some ⟨b,off,none⟩)|none=>none,false,none⟩
theorem Ge (d:Option Nat) (v:U) (s:AS):s.put X d v=(zq X d v).ap s:=by
 cases d with
 |none=>rfl
 |some d=>
  simp only[AS.put,Up.ap,zq,Up.sl,Option.getD_none]
  congr 1;funext t;simp only[Up.A,BI]
theorem hG (d:Option Nat) (v:U) (σ:Heap) (s:AS):(s.heap σ).put X d v=(DQ X d σ v).ap s:=by
 cases d with
 |none=>rfl
 |some d=>
  simp only[AS.put,AS.heap,Up.ap,DQ,Up.sl,Option.getD_some]
  congr 1;funext t;simp only[Up.A,BI]
theorem Ot (d:Option Nat) (b:Nat) (cs:List U) (s:AS):(⟨s.sl.set b (.lbx cs),s.A,s.σ⟩:AS).put X d (.aA [])=(Hf X d b cs).ap s:=by
 cases d with
 |none=>rfl
 |some d=>
  simp only[AS.put,Up.ap,Hf,Up.sl,Option.getD_none]
  congr 1;funext t;simp only[Up.A,BI]
theorem E7 (d:Nat) (cs:List U) (s:AS):s.lG d cs=(He d cs).ap s:=by
 simp only[AS.lG,Up.ap,He,Up.sl,Option.getD_none]
 congr 1
theorem F5 (d:Option Nat) (b off:Nat) (tag:Option (Nat×Bool)) (s:AS):s.jN X d b off tag=(Bl X d b off tag).ap s:=by
 cases d with
 |none=>rfl
 |some d=>
  simp only[AS.jN,Up.ap,Bl,Up.sl,Option.getD_none]
  congr 1;funext t;simp only[Up.A,BI];rfl
structure pI (X : Fx) (Rt : List (Nat × Nat)) (Bt : List Nat) (o : Oper) (ls : List Nat) (τ : Heap) (u : Up) : Prop where
 d:u.d=o.dst
 bx:∀b v,u.bx=some (b,v)→X.L.contains b=true∧wb X Rt o=some b
 new:∀p,u.new=some p→rL o=true∧(∀g w,p.tag=some (g,w)→g∈ls)∧rt X Rt o=some p.slot∧∀d,u.d=some d→Rt.lookup d=some p.slot
 box:u.rJ=true→∃d,o.dst=some d∧X.L.contains d=true
 σ:u.σ≠none→mD X Rt o=true
 v:∀d b,u.d=some d→Rt.lookup d=some b→X.L.contains d=false→jy u.v=true
 vb:∀d,u.d=some d→Bt.contains d=true→lI u.v=true
 bxv:∀b v,u.bx=some (b,v)→lI v=true
 fr:xg o=true→∀σ,u.σ=some σ→mN τ σ
def pO (X:Fx) (Rt:List (Nat×Nat)) (Bt:List Nat) (o:Oper):Prop:=(∀d,o.dst=some d→X.L.contains d=false→Rt.lookup d=(bif rI o then rt X Rt o else none))∧∀d,o.dst=some d→Bt.contains d=true→vV Bt o=true
theorem pO.of {o:Oper} (h:KJ X Rt o=true) (hb:KH Bt o=true):pO X Rt Bt o:=by
 refine⟨fun d hd hL=>?_,fun d hd hc=>?_⟩
 ·unfold KJ at h
  rw[hd]at h
  simp only[hL,Bool.false_or,beq_iff_eq]at h
  exact h
 ·unfold KH at hb
  rw[hd]at hb
  simp only[hc,Bool.not_true,Bool.false_or]at hb
  exact hb
theorem RT {o:Oper} {ls:List Nat} (v:U) (hR:pO X Rt Bt o) (hv:rI o=true→∀b,rt X Rt o=some b→jy v=true) (L9:vV Bt o=true→lI v=true) {τ:Heap}:pI X Rt Bt o ls τ (zq X o.dst v):=by
 refine⟨rfl,(fun b v h=>by cases h),(fun p h=>by cases h),(fun h=>by cases h),(fun h=>absurd rfl h),fun d b hd hl hL=>?_,fun d hd hc=>?_,(fun b v h=>by cases h),(fun _ σ h=>by cases h)⟩
 ·simp only[zq]at hd ⊢
  rw[hd]
  simp only[hL,cond_false]
  rw[hR.1 d hd hL]at hl
  cases ha:rI o
  ·rw[ha]at hl;cases hl
  ·rw[ha]at hl;exact hv ha b hl
 ·have:=L9 (hR.2 d hd hc)
  simp only[zq]at hd ⊢
  rw[hd]
  simp only
  cases X.L.contains d
  ·exact this
  ·rfl
theorem pe {o:Oper} {ls:List Nat} (σ:Heap) (v:U) (hR:pO X Rt Bt o) (h:mD X Rt o=true) (hn:rI o=false) (hcb:vV Bt o=false) {τ:Heap} (hf:xg o=true→mN τ σ):pI X Rt Bt o ls τ (DQ X o.dst σ v):=by
 refine⟨rfl,(fun b v h=>by cases h),(fun p h=>by cases h),(fun h=>by cases h),(fun _=>h),fun d b hd hl hL=>?_,fun d hd hc=>?_,(fun b v h=>by cases h),(fun hw σ' h=>?_)⟩
 ·simp only[DQ]at hd
  rw[hR.1 d hd hL,hn]at hl
  cases hl
 ·have:=hR.2 d hd hc
  rw[hcb]at this;cases this
 ·simp only[DQ,Option.some.injEq]at h
  subst h;exact hf hw
theorem RS {τ:Heap} {o:Oper} {ls:List Nat} {b off:Nat} {tag:Option (Nat×Bool)} (hR:pO X Rt Bt o) (ha:rI o=true) (hr:rt X Rt o=some b) (h:rL o=true) (ht:∀g w,tag=some (g,w)→g∈ls):pI X Rt Bt o ls τ (Bl X o.dst b off tag):=by
 refine⟨rfl,(fun b v h=>by cases h),(fun p hp=>?_),(fun h=>by cases h),(fun h=>absurd rfl h),(fun d b hd hl hL=>rfl),(fun _ _ _=>rfl),(fun b v h=>by cases h),(fun _ σ h=>by cases h)⟩
 have key:p.slot=b∧(∀g w,p.tag=some (g,w)→g∈ls)∧∀d,o.dst=some d→X.L.contains d=false:=by
  unfold Bl at hp
  simp only at hp
  cases hd:o.dst with
  |none=>rw[hd]at hp;cases hp
  |some d=>
   rw[hd]at hp
   simp only at hp
   cases hc:(X.L.contains d||!Nat.blt d X.n)
   ·rw[hc]at hp
    simp only[cond_false]at hp
    have hL:X.L.contains d=false:=by simp only[Bool.or_eq_false_iff]at hc;exact hc.1
    cases tag with
    |none=>simp only[Option.some.injEq]at hp;subst hp;exact⟨rfl,(fun g w e=>by cases e),fun d' e=>by injection e with e;rw[←e];exact hL⟩
    |some gw=>
     obtain⟨g',w'⟩:=gw
     simp only at hp
     cases hg:(g'==d)
     ·rw[hg]at hp;simp only[cond_false,Option.some.injEq]at hp;subst hp
      refine⟨rfl,fun g w e=>?_,fun d' e=>by injection e with e;rw[←e];exact hL⟩
      simp only[Option.some.injEq,Prod.mk.injEq]at e
      rw[←e.1];exact ht g' w' rfl
     ·rw[hg]at hp;cases hp
   ·rw[hc]at hp;cases hp
 refine⟨h,key.2.1,by rw[hr,key.1],fun d hd=>?_⟩
 have hd':o.dst=some d:=hd
 rw[hR.1 d hd' (key.2.2 d hd'),ha,cond_true,hr,key.1]
theorem E3 (l:List U) (d t:Nat) (v:U) (h:t≠d):(l.set d v).getD t .undef=l.getD t .undef:=by
 have h':¬d=t:=fun e=>h (Eq.symm e)
 simp only[List.getD,List.getElem?_set,if_neg h']
theorem KD {u:Up} {l:List U} {t:Nat} (h1:u.d≠some t) (h2:∀b v,u.bx=some (b,v)→t≠b):(u.sl l).getD t .undef=l.getD t .undef:=by
 unfold Up.sl
 cases hd:u.d with
 |none=>
  cases hb:u.bx with
  |none=>rfl
  |some bv=>obtain⟨b,v⟩:=bv;exact E3 _ _ _ _ (h2 b v hb)
 |some d=>
  have hne:t≠d:=fun e=>h1 (by rw[hd,e])
  cases hb:u.bx with
  |none=>exact E3 _ _ _ _ hne
  |some bv=>obtain⟨b,v⟩:=bv;simp only;rw[E3 _ _ _ _ hne,E3 _ _ _ _ (h2 b v hb)]
theorem pI.ri {τ:Heap} {o:Oper} {ls:List Nat} {u:Up} (h:pI X Rt Bt o ls τ u) (hs:RI X Rt Bt s):RI X Rt Bt (u.ap s):=by
 refine⟨hs.l,fun t p hp=>?_,fun t b ht hL=>?_,fun t ht=>?_⟩
 ·have hp':u.A s.A t=some p:=hp
  unfold Up.A at hp'
  cases hd:u.d with
  |none=>rw[hd]at hp';exact hs.a t p hp'
  |some d=>
   rw[hd]at hp'
   simp only at hp'
   cases hc:(t==d)
   ·rw[hc]at hp'
    simp only[cond_false]at hp'
    rcases IE u.rJ d (s.A t)with e|e
    ·rw[e]at hp';exact hs.a t p hp'
    ·rw[e]at hp';cases hp'
   ·rw[hc]at hp'
    simp only[cond_true]at hp'
    have:t=d:=by simpa using hc
    subst this
    exact(h.new p hp').2.2.2 t hd
 ·show jy ((u.sl s.sl).getD t .undef)=true
  by_cases hd:u.d=some t
  ·have hv:=h.v t b hd ht hL
   have:(u.sl s.sl).getD t .undef=u.v∨(u.sl s.sl).getD t .undef=.undef:=by
    unfold Up.sl
    rw[hd]
    simp only[List.getD]
    rw[List.getElem?_set]
    simp only[if_true]
    generalize (match u.bx with|some (b,x)=>s.sl.set b x|none=>s.sl)=q
    by_cases hq:t<q.length
    ·left;simp [hq]
    ·right;simp [hq]
   rcases this with e|e
   ·rw[e];exact hv
   ·rw[e];rfl
  ·rw[KD hd (fun b' v hb e=>by have:=(h.bx b' v hb).1;rw[←e,hL]at this;cases this)]
   exact hs.v t b ht hL
 ·show lI ((u.sl s.sl).getD t .undef)=true
  have nL:∀(l:List U) (d:Nat) (v:U),(l.set d v).getD t .undef=v∧t=d∨(l.set d v).getD t .undef=l.getD t .undef∨(l.set d v).getD t .undef=.undef:=by
   intro l d v
   simp only[List.getD,List.getElem?_set]
   by_cases e:d=t
   ·subst e
    by_cases hq:d<l.length
    ·left;simp [hq]
    ·right;right;simp [hq]
   ·right;left;simp [e]
  have qH:lI ((match u.bx with|some (b,x)=>s.sl.set b x|none=>s.sl).getD t .undef)=true:=by
   cases hb:u.bx with
   |none=>exact hs.b t ht
   |some bv=>
    obtain⟨b,v⟩:=bv
    rcases nL s.sl b v with⟨e,_⟩|e|e
    ·simp only;rw[e];exact h.bxv b v hb
    ·simp only;rw[e];exact hs.b t ht
    ·simp only;rw[e];rfl
  unfold Up.sl
  generalize (match u.bx with|some (b,x)=>s.sl.set b x|none=>s.sl)=q at qH
  cases hd:u.d with
  |none=>exact qH
  |some d=>
   simp only
   rcases nL q d u.v with⟨e,e2⟩|e|e
   ·rw[e];exact h.vb d hd (e2▸ht)
   ·rw[e];exact qH
   ·rw[e];rfl
theorem RF {o:Oper} {tag:Option (Nat×Bool)} {p:Nat×Option Nat} (h:gX X o s tag=some p):rL o=true:=by
 obtain⟨dst,op,ty,pos,af,g⟩:=o
 cases op<;>simp only[gX]at h<;>first|(cases h;done)|rfl
theorem QT {o:Oper} {tag:Option (Nat×Bool)} {p:Nat×Option Nat} (h:gX X o s tag=some p):rI o=true:=by
 obtain⟨dst,op,ty,pos,af,g⟩:=o
 cases op<;>simp only[gX]at h<;>first|(cases h;done)|rfl
theorem RG (hI:RI X Rt Bt s) {o:Oper} {tag:Option (Nat×Bool)} {b:Nat} {rr:Option Nat} (h:gX X o s tag=some (b,rr)):rt X Rt o=some b:=by
 obtain⟨dst,op,ty,pos,af,g⟩:=o
 cases op<;>simp only[gX]at h<;>first|(cases h;done)|skip
 all_goals
  split at h
  ·rename_i b' off hp
   simp only[Option.some.injEq,Prod.mk.injEq]at h
   simp only[rt,kR]
   rw[←h.1]
   exact Fw hI hp
  ·cases h
theorem QU (hI:RI X Rt Bt s) {o:Oper} {tag:Option (Nat×Bool)} {v:U} (ha:rI o=true) {b:Nat} (hr:rt X Rt o=some b) (hp:gX X o s tag=none) (h:ew X o s tag=some v):False:=by
 obtain⟨dst,op,ty,pos,af,g⟩:=o
 have nf:∀(x:U) (n:Nat),jy x=true→A.bD n x=none:=fun x n h=>by unfold jy at h;split at h<;>first|rfl|cases h
 have nn:∀(x:U),jy x=true→A.eT x=none:=fun x h=>by unfold jy at h;split at h<;>first|rfl|cases h
 have ni:∀(x i:U) (n:Nat),jy x=true→A.aU n x i=none:=fun x i n h=>by unfold jy at h;split at h<;>first|rfl|cases h
 have na:∀(x i:U) (m n:Nat),jy x=true→A.sZ m n x i=none:=fun x i m n h=>by
  unfold jy at h
  unfold A.sZ
  split at h<;>first|(cases h;done)|skip
  all_goals cases A.idx m i<;>rfl
 cases op<;>simp only[rI]at ha<;>first|(cases ha;done)|skip
 case nilCheck x=>
  simp only[gX]at hp
  simp only[rt,kR]at hr
  split at hp
  ·cases hp
  ·rename_i hpl
   simp only[ew,nn _ (Ah hI hr hpl)]at h
   cases h
 case fieldAddr t x f=>
  simp only[gX]at hp
  simp only[rt,kR]at hr
  split at hp
  ·cases hp
  ·rename_i hpl
   simp only[ew]at h
   split at h
   ·split at h
    ·rename_i i _
     cases hz:(i.size==0)
     ·rw[hz]at h;simp only[cond_false,nf _ _ (Ah hI hr hpl)]at h;cases h
     ·rw[hz]at h;cases h
    ·cases h
   ·cases h
 case indexAddr t x i=>
  simp only[gX]at hp
  simp only[rt,kR]at hr
  split at hp
  ·cases hp
  ·rename_i hpl
   simp only[ew]at h
   split at h
   ·split at h
    ·simp only[ni _ _ _ (Ah hI hr hpl)]at h;cases h
    ·cases h
   ·split at h
    ·simp only[na _ _ _ _ (Ah hI hr hpl)]at h;cases h
    ·cases h
   ·cases h
theorem jZ {α β:Type} {x:Option α} {f:α→Option β} {b:β} (h:x.bind f=some b):∃a,x=some a∧f a=some b:=Option.bind_eq_some_iff.1 h
theorem ON (hB:∀t,Bt.contains t=true→lI (ev X s (.tmp t))=true) {o:Oper} {tag:Option (Nat×Bool)} {v:U} (hc:vV Bt o=true) (h:ew X o s tag=some v):lI v=true:=by
 obtain⟨dst,op,ty,pos,af,g⟩:=o
 have nk:∀x,lI x=true→∀y,A.eT x=some y→lI y=true:=fun x hx y e=>by
  cases x<;>simp only[A.eT]at e<;>first|(cases e;done)|(injection e with e;subst e;exact hx)
 have nf:∀x,lI x=true→∀n y,A.bD n x=some y→lI y=true:=fun x hx n y e=>by
  cases x<;>simp only[A.bD]at e<;>first|(cases e;done)|(cases hx;done)|(injection e with e;subst e;rfl)
 cases op<;>simp only[vV]at hc<;>first|(cases hc;done)|skip
 case move x=>
  cases x<;>first|(cases hc;done)|skip
  simp only[ew,Option.some.injEq]at h
  subst h;exact hB _ hc
 case assign x=>
  cases x<;>first|(cases hc;done)|skip
  simp only[ew,Option.some.injEq]at h
  subst h;exact hB _ hc
 case nilCheck x=>
  cases x<;>first|(cases hc;done)|skip
  simp only[ew]at h
  exact nk _ (hB _ hc) _ h
 case fieldAddr t x f=>
  cases x<;>first|(cases hc;done)|skip
  simp only[ew]at h
  split at h
  ·split at h
   ·rename_i i _
    cases hz:(i.size==0)
    ·rw[hz]at h;simp only[cond_false]at h;exact nf _ (hB _ hc) _ _ h
    ·rw[hz]at h;cases h
   ·cases h
  ·cases h
theorem abI {o:Oper} {ls:List Nat} (hR:pO X Rt Bt o) (hI:RI X Rt Bt s) (hls:∀t,Operand.tmp t∈o.op.operands.toList→t∈ls) {k:AS→Option R} {r:R} (h:eX X true o s k=some r):
  ∃u,pI X Rt Bt o ls s.σ u∧k (u.ap s)=some r∧∀(R':Type) (k':AS→Option R') (s':AS),Ag X Rt Bt o ls none s s'→eX X true o s' k'=k' (u.ap s'):=by
 have wS:∀(s':AS),RI X Rt Bt s'→∀x b off,kR o=some x→place X s' none x=some (b,off)→rt X Rt o=some b:=fun s' hi x b off hx hp=>by simp only[rt,hx];exact Fw hi hp
 have AN:∀(s':AS),RI X Rt Bt s'→∀x b,kR o=some x→rt X Rt o=some b→place X s' none x=none→jy (ev X s' x)=true:=fun s' hi x b hx hr hp=>by simp only[rt,hx]at hr;exact Ah hi hr hp
 unfold eX at h
 cases hp:gX X o s none with
 |some p=>
  obtain⟨b,rr⟩:=p
  rw[hp]at h
  simp only at h
  obtain⟨off,e1,e2⟩:=jZ h
  subst e1
  refine⟨Bl X o.dst b off none,RS hR (QT hp) (RG hI hp) (RF hp) (fun g w e=>by cases e),by rw[←F5];exact e2,fun R' k' s' ha=>?_⟩
  have:gX X o s' none=some (b,some off):=by rw[←hp];exact(I2 (ha.w8 hls) ha.vo ha.bx (wS s' ha.r2)).symm
  unfold eX
  rw[this]
  simp only[Option.bind_some]
  rw[F5]
 |none=>
  rw[hp]at h
  simp only at h
  have hP:∀s',Ag X Rt Bt o ls none s s'→gX X o s' none=none:=fun s' ha=>by rw[←hp];exact(I2 (ha.w8 hls) ha.vo ha.bx (wS s' ha.r2)).symm
  have dflt:((ew X o s none).bind fun v=>k (s.put X o.dst v))=some r→(∀(R':Type) (k':AS→Option R') (s':AS),Ag X Rt Bt o ls none s s'→eX X true o s' k'=(ew X o s' none).bind fun v=>k' (s'.put X o.dst v))→
    ∃u,pI X Rt Bt o ls s.σ u∧k (u.ap s)=some r∧∀(R':Type) (k':AS→Option R') (s':AS),Ag X Rt Bt o ls none s s'→eX X true o s' k'=k' (u.ap s'):=by
   intro hd hsame
   obtain⟨v,e1,e2⟩:=jZ hd
   refine⟨zq X o.dst v,RT v hR (fun ha b hr=>(QU hI ha hr hp e1).elim) (fun hc=>ON hI.A5 hc e1),by rw[←Ge];exact e2,fun R' k' s' ha=>?_⟩
   have:ew X o s' none=some v:=by rw[←e1];exact(E8 (ha.w8 hls) ha.vo ha.bx (wS s' ha.r2) (AN s' ha.r2) ha.σ ha.DX ha.r2.A5).symm
   rw[hsame R' k' s' ha,this,Option.bind_some,Ge]
  obtain⟨dst,op,ty,pos,af,g⟩:=o
  have tC:∀s',Ag X Rt Bt ⟨dst,op,ty,pos,af,g⟩ ls none s s'→∀x∈op.operands.toList,ev X s x=ev X s' x:=fun s' ha=>ha.w8 hls
  have unf:∀{R':Type} (k':AS→Option R') (s':AS),Ag X Rt Bt ⟨dst,op,ty,pos,af,g⟩ ls none s s'→gX X ⟨dst,op,ty,pos,af,g⟩ s' none=none:=fun k' s' ha=>hP s' ha
  cases op<;>simp only at h<;>first
   |(exact absurd (show(none:Option R)=some r from h) (by simp))
   |exact dflt h (fun R' k' s' ha=>by unfold eX;rw[hP s' ha])
   |skip
  case alloc t=>
   cases dst with
   |none=>cases h
   |some d=>
    simp only at h
    cases hL:X.L.contains d
    ·rw[hL]at h
     simp only[cond_false]at h
     cases hO:X.O.contains d
     ·rw[hO]at h
      exact dflt h (fun R' k' s' ha=>by unfold eX;rw[hP s' ha];simp only[hL,hO,cond_false])
     ·rw[hO]at h
      simp only[cond_true]at h
      split at h
      ·rename_i cs hz
       rw[hG]at h
       refine⟨_,pe _ _ hR (by simp [mD,wH];simpa using hO) rfl rfl (fun h=>by cases h),h,fun R' k' s' ha=>?_⟩
       have dO:=ha.σ (by simpa [p4]using hO) rfl
       unfold eX
       rw[hP s' ha]
       simp only[hL,hO,cond_false,cond_true,hz,dO]
       rw[hG]
      ·cases h
    ·rw[hL]at h
     simp only[cond_true]at h
     split at h
     ·rename_i cs hz
      rw[E7]at h
      refine⟨_,⟨rfl,(fun b v h=>by cases h),(fun p h=>by cases h),(fun _=>⟨d,rfl,hL⟩),(fun h=>absurd rfl h),(fun d' b e _ hL'=>by simp only[He,Option.some.injEq]at e;rw[←e,hL]at hL';cases hL'),(fun _ _ _=>rfl),(fun b v h=>by cases h),(fun _ σ h=>by cases h)⟩,h,fun R' k' s' ha=>?_⟩
      unfold eX
      rw[hP s' ha]
      simp only[hL,cond_true,hz]
      rw[E7]
     ·cases h
  case box t x=>
   cases dst with
   |none=>cases h
   |some d=>
    simp only at h
    cases hL:X.L.contains d
    ·rw[hL]at h
     simp only[cond_false]at h
     cases hO:X.O.contains d
     ·rw[hO]at h
      exact dflt h (fun R' k' s' ha=>by unfold eX;rw[hP s' ha];simp only[hL,hO,cond_false])
     ·rw[hO]at h
      simp only[cond_true]at h
      obtain⟨cs,e1,e2⟩:=jZ h
      rw[hG]at e2
      refine⟨_,pe _ _ hR (by simp [mD,wH];simpa using hO) rfl rfl (fun h=>by cases h),e2,fun R' k' s' ha=>?_⟩
      have dO:=ha.σ (by simpa [p4]using hO) rfl
      have hx:=tC s' ha x (by simp [Op.operands])
      unfold eX
      rw[hP s' ha]
      simp only[hL,hO,cond_false,cond_true,←hx,e1,Option.bind_some,dO]
      rw[hG]
    ·rw[hL]at h
     simp only[cond_true]at h
     obtain⟨cs,e1,e2⟩:=jZ h
     rw[E7]at e2
     refine⟨_,⟨rfl,(fun b v h=>by cases h),(fun p h=>by cases h),(fun _=>⟨d,rfl,hL⟩),(fun h=>absurd rfl h),(fun d' b e _ hL'=>by simp only[He,Option.some.injEq]at e;rw[←e,hL]at hL';cases hL'),(fun _ _ _=>rfl),(fun b v h=>by cases h),(fun _ σ h=>by cases h)⟩,e2,fun R' k' s' ha=>?_⟩
     have hx:=tC s' ha x (by simp [Op.operands])
     unfold eX
     rw[hP s' ha]
     simp only[hL,cond_true,←hx,e1,Option.bind_some]
     rw[E7]
  case store t x v=>
   split at h
   ·rename_i b off hpl
    obtain⟨cs,e1,e2⟩:=jZ h
    obtain⟨new,e3,e4⟩:=jZ e2
    obtain⟨cs',e5,e6⟩:=jZ e4
    rw[Ot]at e6
    have vi:rt X Rt ⟨dst,.store t x v,ty,pos,af,g⟩=some b:=by simp only[rt,kR];exact Fw hI hpl
    refine⟨_,⟨rfl,(fun b' v' hb=>by simp only[Hf,Option.some.injEq,Prod.mk.injEq]at hb;rw[←hb.1];exact⟨Zv hpl,vi⟩),(fun p h=>by cases h),(fun h=>by cases h),(fun h=>absurd rfl h),(fun d1 b1 e hl hL=>by rw[hR.1 d1 e hL]at hl;cases hl),(fun d1 e hc=>by have:=hR.2 d1 e hc;cases this),(fun b1 v1 hb=>by simp only[Hf,Option.some.injEq,Prod.mk.injEq]at hb;rw[←hb.2];rfl),(fun _ σ h=>by cases h)⟩,e6,fun R' k' s' ha=>?_⟩
    have hv:=tC s' ha v (by simp [Op.operands])
    have hpx:place X s' none x=some (b,off):=by rw[←hpl];exact(ha.vo x rfl).symm
    have qH:=ha.bx b vi
    unfold eX
    rw[hP s' ha]
    simp only[hpx,←qH,e1,Option.bind_some,←hv,e3,e5]
    rw[Ot]
   ·rename_i hpl
    obtain⟨new,e3,e4⟩:=jZ h
    obtain⟨σ',e5,e6⟩:=jZ e4
    rw[hG]at e6
    have vi:rt X Rt ⟨dst,.store t x v,ty,pos,af,g⟩=none:=by
     cases hr:rt X Rt ⟨dst,.store t x v,ty,pos,af,g⟩with
     |none=>rfl
     |some b=>rw[XL (AN s hI x b rfl hr hpl)]at e5;cases e5
    have hw:mD X Rt ⟨dst,.store t x v,ty,pos,af,g⟩=true:=by simp only[mD,vi,Option.isNone_none]
    refine⟨_,pe _ _ hR hw rfl rfl (fun h=>by cases h),e6,fun R' k' s' ha=>?_⟩
    have hv:=tC s' ha v (by simp [Op.operands])
    have hx:=tC s' ha x (by simp [Op.operands])
    have dO:=ha.σ (by simp only[p4,vi,Option.isNone_none]) rfl
    have hpx:place X s' none x=none:=by rw[←hpl];exact(ha.vo x rfl).symm
    unfold eX
    rw[hP s' ha]
    simp only[hpx,←hv,←hx,e3,Option.bind_some,←dO,e5]
    rw[hG]
  case makeMap t rr=>
   cases rr with
   |some x=>cases h
   |none=>
    simp only at h
    rw[hG]at h
    refine⟨_,pe _ _ hR rfl rfl rfl (fun _=>Fg (fun cs e=>by cases e)),h,fun R' k' s' ha=>?_⟩
    have dO:=ha.σ rfl rfl
    unfold eX
    rw[hP s' ha]
    simp only[←dO]
    rw[hG]
  case range t x=>
   split at h
   ·rename_i kt et hd
    obtain⟨es,e1,e2⟩:=jZ h
    rw[hG]at e2
    refine⟨_,pe _ _ hR rfl rfl rfl (fun h=>by cases h),e2,fun R' k' s' ha=>?_⟩
    have hx:=tC s' ha x (by simp [Op.operands])
    have dO:=ha.σ rfl rfl
    unfold eX
    rw[hP s' ha]
    simp only[hd,←hx,←dO,e1,Option.bind_some]
    rw[hG]
   ·cases h
  case buildSlice t n ps=>
   cases dst with
   |none=>exact dflt h (fun R' k' s' ha=>by unfold eX;rw[hP s' ha])
   |some d=>
    simp only at h
    cases hO:X.O.contains d
    ·rw[hO]at h
     exact dflt h (fun R' k' s' ha=>by unfold eX;rw[hP s' ha];simp only[hO,cond_false])
    ·rw[hO]at h
     simp only[cond_true]at h
     obtain⟨v,e1,e2⟩:=jZ h
     have hv:∀s',Ag X Rt Bt ⟨some d,.buildSlice t n ps,ty,pos,af,g⟩ ls none s s'→ew X ⟨some d,.buildSlice t n ps,ty,pos,af,g⟩ s' none=some v:=fun s' ha=>by
      rw[←e1];exact(E8 (ha.w8 hls) ha.vo ha.bx (wS s' ha.r2) (AN s' ha.r2) ha.σ ha.DX ha.r2.A5).symm
     unfold A.AW at e2
     split at e2
     ·rename_i sz es
      cases hl:(es.length==0)
      ·rw[hl]at e2
       simp only[cond_false]at e2
       rw[hG]at e2
       refine⟨_,pe _ _ hR (by simp [mD,wH];simpa using hO) rfl rfl (fun h=>by cases h),e2,fun R' k' s' ha=>?_⟩
       have dO:=ha.σ (by simpa [p4]using hO) rfl
       unfold eX
       rw[hP s' ha]
       simp only[hO,cond_true,hv s' ha,Option.bind_some,A.AW,hl,cond_false,←dO]
       rw[hG]
      ·rw[hl]at e2;cases e2
     ·cases e2
  case mapUpdate t m i v=>
   split at h
   ·rename_i kt et hd
    split at h
    ·rename_i ek he
     obtain⟨σ',e1,e2⟩:=jZ h
     rw[hG]at e2
     refine⟨_,pe _ _ hR rfl rfl rfl (fun _=>YT e1),e2,fun R' k' s' ha=>?_⟩
     have hm:=tC s' ha m (by simp [Op.operands])
     have hi:=tC s' ha i (by simp [Op.operands])
     have hv:=tC s' ha v (by simp [Op.operands])
     have dO:=ha.σ rfl rfl
     unfold eX
     rw[hP s' ha]
     simp only[hd,he,←hm,←hi,←hv,←dO,e1,Option.bind_some]
     rw[hG]
    ·cases h
   ·cases h
  case call c=>
   have hargs:∀s',Ag X Rt Bt ⟨dst,.call c,ty,pos,af,g⟩ ls none s s'→c.args.toList.map (ev X s)=c.args.toList.map (ev X s'):=fun s' ha=>
    List.map_congr_left fun x hx=>tC s' ha x (by simp [Op.operands,Call.operands];exact .inr (by simpa using hx))
   split at h
   ·rename_i hc
    split at h
    ·rename_i t u x y h1 h2
     split at h
     ·rename_i e e' hd hu
      split at h
      ·rename_i i hi
       cases dH:kq i
       ·rw[dH]at h
        simp only[cond_false]at h
        obtain⟨⟨rr,σ'⟩,e1,e2⟩:=jZ h
        simp only at e2
        rw[hG]at e2
        refine⟨_,pe _ _ hR (by simp [mD,wH,hc]) rfl rfl (fun _=>WW e1),e2,fun R' k' s' ha=>?_⟩
        have dO:=ha.σ rfl rfl
        unfold eX
        rw[hP s' ha]
        simp only[hc,←hargs s' ha,h1,h2,hd,hu,hi,dH,cond_false,←dO,e1,Option.bind_some]
        rw[hG]
       ·rw[dH]at h;cases h
      ·cases h
     ·rename_i e kk hd hu
      split at h
      ·rename_i i zs hi hz
       cases dH:kq i
       ·rw[dH]at h
        simp only[cond_false]at h
        obtain⟨⟨rr,σ'⟩,e1,e2⟩:=jZ h
        simp only at e2
        rw[hG]at e2
        refine⟨_,pe _ _ hR (by simp [mD,wH,hc]) rfl rfl (fun _=>Ws e1),e2,fun R' k' s' ha=>?_⟩
        have dO:=ha.σ rfl rfl
        unfold eX
        rw[hP s' ha]
        simp only[hc,←hargs s' ha,h1,h2,hd,hu,hi,hz,dH,cond_false,←dO,e1,Option.bind_some]
        rw[hG]
       ·rw[dH]at h;cases h
      ·cases h
     ·cases h
    ·cases h
   ·rename_i hc
    split at h
    ·rename_i t u x y h1 h2
     split at h
     ·rename_i e e' hd hu
      split at h
      ·rename_i i hi
       cases dH:kq i
       ·rw[dH]at h
        simp only[cond_false]at h
        obtain⟨⟨rr,σ'⟩,e1,e2⟩:=jZ h
        simp only at e2
        rw[hG]at e2
        refine⟨_,pe _ _ hR (by simp [mD,wH,hc]) rfl rfl (fun h=>by simp [xg,hc]at h),e2,fun R' k' s' ha=>?_⟩
        have dO:=ha.σ rfl rfl
        unfold eX
        rw[hP s' ha]
        simp only[hc,←hargs s' ha,h1,h2,hd,hu,hi,dH,cond_false,←dO,e1,Option.bind_some]
        rw[hG]
       ·rw[dH]at h;cases h
      ·cases h
     ·cases h
    ·cases h
   ·rename_i hc
    cases hv:ew X ⟨dst,.call c,ty,pos,af,g⟩ s none with
    |none=>rw[hv]at h;simp [A.wJ]at h
    |some v=>
     rw[hv]at h
     exact dflt (by rw[hv];exact h) (fun R' k' s' ha=>by
      have hv':ew X ⟨dst,.call c,ty,pos,af,g⟩ s' none=some v:=by rw[←hv];exact(E8 (ha.w8 hls) ha.vo ha.bx (wS s' ha.r2) (AN s' ha.r2) ha.σ ha.DX ha.r2.A5).symm
      unfold eX;rw[hP s' ha];simp only[hc,hv',Option.bind_some,A.wJ])
   ·rename_i hc
    split at h
    ·rename_i t x h1 h2
     split at h
     ·rename_i e hd
      split at h
      ·rename_i i zs hi hz
       cases dH:kq i
       ·rw[dH]at h
        simp only[cond_false]at h
        obtain⟨σ',e1,e2⟩:=jZ h
        rw[hG]at e2
        refine⟨_,pe _ _ hR (by simp [mD,wH,hc]) rfl rfl (fun h=>by simp [xg,hc]at h),e2,fun R' k' s' ha=>?_⟩
        have dO:=ha.σ rfl rfl
        unfold eX
        rw[hP s' ha]
        simp only[hc,←hargs s' ha,h1,h2,hd,hi,hz,dH,cond_false,←dO,e1,Option.bind_some]
        rw[hG]
       ·rw[dH]at h;cases h
      ·cases h
     ·cases h
    ·cases h
   ·rename_i hc
    split at h
    ·rename_i t u m key h1 h2
     split at h
     ·rename_i kt et hd
      split at h
      ·rename_i ek he
       obtain⟨σ',e1,e2⟩:=jZ h
       rw[hG]at e2
       refine⟨_,pe _ _ hR (by simp [mD,wH,hc]) rfl rfl (fun h=>by simp [xg,hc]at h),e2,fun R' k' s' ha=>?_⟩
       have dO:=ha.σ rfl rfl
       unfold eX
       rw[hP s' ha]
       simp only[hc,←hargs s' ha,h1,h2,hd,he,←dO,e1,Option.bind_some]
       rw[hG]
      ·cases h
     ·cases h
    ·cases h
   ·rename_i b hn1 hn2 kE nu pW hc
    exact dflt h (fun R' k' s' ha=>by
     unfold eX;rw[hP s' ha];simp only[hc]
     all_goals (first|rfl|(cases b<;>first|rfl|exact absurd rfl hn1|exact absurd rfl hn2|exact absurd rfl kE|exact absurd rfl nu|exact absurd rfl pW)))
   ·rename_i f hc
    cases hw:X.W.contains f
    ·simp only[hw,Bool.not_false,Bool.and_true,cond_true]at h
     exact dflt h (fun R' k' s' ha=>by unfold eX;rw[hP s' ha];simp only[hc,hw,Bool.not_false,Bool.and_true,cond_true])
    ·simp only[hw,Bool.not_true,Bool.and_false,cond_false]at h
     obtain⟨⟨rr,σ'⟩,e1,e2⟩:=jZ h
     simp only at e2
     rw[hG]at e2
     refine⟨_,pe _ _ hR (by simp only[mD,wH,hc];exact hw) rfl rfl (fun h=>by simp [xg,hc]at h),e2,fun R' k' s' ha=>?_⟩
     have dO:=ha.σ rfl rfl
     unfold eX
     rw[hP s' ha]
     simp only[hc,←hargs s' ha,hw,Bool.not_true,Bool.and_false,cond_false,←dO,e1,Option.bind_some]
     rw[hG]
   ·rename_i x hnf hc
    simp only[cond_true]at h
    exact dflt h (fun R' k' s' ha=>by
     unfold eX;rw[hP s' ha];simp only[hc]
     cases x<;>first|exact absurd rfl (hnf _)|simp only[cond_true])
   ·cases h
end
end
section
section
variable {R : Type} {X : Fx} {Rt : List (Nat × Nat)} {Bt : List Nat} {s s' : AS} {ops : Array Oper}
theorem Fv {o:Oper} {t:Nat} (h:Operand.tmp t∈o.op.operands.toList):t∈o.looksAt ops:=by
 unfold Oper.looksAt
 refine List.mem_append.2 (.inl (List.mem_filterMap.2 ⟨.tmp t,h,rfl⟩))
theorem WB {o:Oper} {j d:Nat} {want:Bool} (hg:o.guard=some (j,want)) (hd:(ops[j]?).bind (·.dst)=some d):d∈o.looksAt ops:=by
 unfold Oper.looksAt
 refine List.mem_append.2 (.inr ?_)
 rw[hg]
 simp only[hd]
 simp
def A1 (X:Fx) (Rt:List (Nat×Nat)) (Bt:List Nat) (ops:Array Oper) (o:Oper) (s s':AS):Prop:=∀tag:Option (Nat×Bool),(∀g w,tag=some (g,w)→g∈o.looksAt ops)→Ag X Rt Bt o (o.looksAt ops) tag s s'
theorem Ag.symm {o:Oper} {ls:List Nat} {tag:Option (Nat×Bool)} (h:Ag X Rt Bt o ls tag s s'):Ag X Rt Bt o ls tag s' s:=
 ⟨h.r2,h.r1,fun t ht hL=>(h.eC t ht hL).symm,fun t ht=>(h.pl t ht).symm,fun b hb=>(h.bx b hb).symm,(fun hr hs=>(h.σ hr hs).symm),fun hr hs id cs=>(h.DX hr hs id cs).symm⟩
theorem A1.symm {o:Oper} (h:A1 X Rt Bt ops o s s'):A1 X Rt Bt ops o s' s:=fun tag ht=>(h tag ht).symm
theorem Ke {o:Oper} {k:AS→Option R} {r:R} (hR:pO X Rt Bt o) (hI:RI X Rt Bt s) (h:kW X true ops o s k=some r):
  ∃u,pI X Rt Bt o (o.looksAt ops) s.σ u∧k (u.ap s)=some r∧∀(R':Type) (k':AS→Option R') (s':AS),A1 X Rt Bt ops o s s'→kW X true ops o s' k'=k' (u.ap s'):=by
 unfold kW at h
 cases hg:o.guard with
 |none=>
  rw[hg]at h
  obtain⟨u,h1,h2,h3⟩:=abI (ls:=o.looksAt ops) hR hI (fun t ht=>Fv ht) h
  refine⟨u,h1,h2,fun R' k' s' ha=>?_⟩
  unfold kW;rw[hg]
  exact h3 R' k' s' (ha none (fun g w e=>by cases e))
 |some jw=>
  obtain⟨j,want⟩:=jw
  rw[hg]at h
  simp only at h
  cases hd:(ops[j]?).bind (·.dst)with
  |none=>rw[hd]at h;cases h
  |some d=>
   rw[hd]at h
   simp only at h
   cases hb:BX X o d
   ·rw[hb]at h
    simp only[cond_false]at h
    have nr:=WB (ops:=ops) hg hd
    have AU:∀g w,(some (d,want):Option (Nat×Bool))=some (g,w)→g∈o.looksAt ops:=fun g w e=>by injection e with e;injection e with e _;rw[←e];exact nr
    have hdL:X.L.contains d=false:=by simp only[BX,Bool.or_eq_false_iff]at hb;exact hb.1
    have wS:∀(s':AS),RI X Rt Bt s'→∀x b off,kR o=some x→place X s' (some (d,want)) x=some (b,off)→rt X Rt o=some b:=fun s' hi x b off hx hp=>by simp only[rt,hx];exact Fw hi hp
    have AN:∀(s':AS),RI X Rt Bt s'→∀x b,kR o=some x→rt X Rt o=some b→place X s' (some (d,want)) x=none→jy (ev X s' x)=true:=fun s' hi x b hx hr hp=>by simp only[rt,hx]at hr;exact Ah hi hr hp
    have hP:∀s',A1 X Rt Bt ops o s s'→gX X o s' (some (d,want))=gX X o s (some (d,want)):=fun s' ha=>by
     have a:=ha _ AU
     exact(I2 (a.w8 fun t ht=>Fv ht) a.vo a.bx (wS s' a.r2)).symm
    cases hp:gX X o s (some (d,want))with
    |some p=>
     obtain⟨b,rr⟩:=p
     rw[hp]at h
     simp only at h
     obtain⟨off,e1,e2⟩:=jZ h
     subst e1
     refine⟨Bl X o.dst b off (some (d,want)),RS hR (QT hp) (RG hI hp) (RF hp) AU,by rw[←F5];exact e2,fun R' k' s' ha=>?_⟩
     unfold kW
     rw[hg]
     simp only[hd,hb,cond_false,hP s' ha,hp,Option.bind_some]
     rw[F5]
    |none=>
     rw[hp]at h
     simp only at h
     obtain⟨v,e1,e2⟩:=jZ h
     have hv:rI o=true→∀b,rt X Rt o=some b→jy v=true:=by
      intro ha b hr
      unfold A.guard at e1
      split at e1
      ·rename_i c _
       cases hc:(c==want)
       ·rw[hc]at e1;simp only[cond_false,Option.some.injEq]at e1;subst e1;rfl
       ·rw[hc]at e1;exact(QU hI ha hr hp e1).elim
      ·simp only[Option.some.injEq]at e1;subst e1;rfl
      ·cases e1
     have L9:vV Bt o=true→lI v=true:=by
      intro hc
      unfold A.guard at e1
      split at e1
      ·rename_i c _
       cases oG:(c==want)
       ·rw[oG]at e1;simp only[cond_false,Option.some.injEq]at e1;subst e1;rfl
       ·rw[oG]at e1;exact ON hI.A5 hc e1
      ·simp only[Option.some.injEq]at e1;subst e1;rfl
      ·cases e1
     refine⟨zq X o.dst v,RT v hR hv L9,by rw[←Ge];exact e2,fun R' k' s' ha=>?_⟩
     have a:=ha _ AU
     have hV:ew X o s' (some (d,want))=ew X o s (some (d,want)):=(E8 (a.w8 fun t ht=>Fv ht) a.vo a.bx (wS s' a.r2) (AN s' a.r2) a.σ a.DX a.r2.A5).symm
     have oJ:=a.eC d nr hdL
     unfold kW
     rw[hg]
     simp only[hd,hb,cond_false,hP s' ha,hp,hV,←oJ,e1,Option.bind_some]
     rw[Ge]
   ·rw[hb]at h;cases h
structure tJ (X : Fx) (Rt : List (Nat × Nat)) (Bt : List Nat) (ops : Array Oper) (x y : Oper) : Prop where
 dx:∀d,x.dst=some d→d∉y.looksAt ops
 dd:∀d,x.dst=some d→y.dst≠some d
 dy:∀d,y.dst=some d→d∉x.looksAt ops
 c1:tc X Rt Bt x y=false
 c2:tc X Rt Bt y x=false
theorem tJ.symm {x y:Oper} (h:tJ X Rt Bt ops x y):tJ X Rt Bt ops y x:=⟨h.dy,fun d hd e=>h.dd d e hd,h.dx,h.c2,h.c1⟩
theorem Ye {x y:Oper} (h:indep X Rt Bt ops x y=true):tJ X Rt Bt ops x y:=by
 simp only[indep,Bool.and_eq_true,Bool.not_eq_true']at h
 obtain⟨⟨h1,h2⟩,h3⟩:=h
 obtain⟨a1,a2,a3⟩:=Oper.apart_spec h1
 exact⟨a1,a2,a3,h2,h3⟩
theorem Qs {x y:Oper} (h:tc X Rt Bt x y=false) {b:Nat} (hb:wb X Rt x=some b):rt X Rt y≠some b:=by
 unfold tc at h
 simp only[Bool.or_eq_false_iff]at h
 have:=h.1.1
 rw[hb]at this
 simpa using this
theorem FI {x y:Oper} (h:tc X Rt Bt x y=false) {d:Nat} (hd:x.dst=some d) (hL:X.L.contains d=true):rt X Rt y≠some d:=by
 unfold tc at h
 simp only[Bool.or_eq_false_iff]at h
 have:=h.1.2
 rw[hd]at this
 simp only[hL,Bool.true_and]at this
 simpa using this
theorem FJ {x y:Oper} (h:tc X Rt Bt x y=false) (hw:mD X Rt x=true):(p4 X Rt y=false∨(soft Bt y=true∧xg x=true))∧mD X Rt y=false:=by
 unfold tc at h
 simp only[Bool.or_eq_false_iff]at h
 have:=h.2
 rw[hw]at this
 simp only[Bool.true_and,Bool.or_eq_false_iff]at this
 refine⟨?_,this.2⟩
 cases hr:p4 X Rt y
 ·exact .inl rfl
 ·have h2:=this.1
  rw[hr,Bool.true_and,Bool.not_eq_false']at h2
  exact .inr (by simpa using h2)
theorem abm {x:Oper} {a:Operand} (h:kR x=some a):a∈x.op.operands.toList:=by
 obtain⟨dst,op,ty,pos,af,g⟩:=x
 cases op<;>simp only[kR]at h<;>first|(cases h;done)|(injection h with h;subst h;simp [Op.operands])
theorem adB (h:RI X Rt Bt s) {x:Oper} {b:Nat} (hr:rt X Rt x=some b) (hL:X.L.contains b=false):False:=by
 unfold rt at hr
 split at hr
 ·rename_i a _
  cases a with
  |tmp t=>
   simp only[tW]at hr
   cases hc:X.L.contains t
   ·rw[hc]at hr;have:=h.l t b hr;rw[hL]at this;cases this
   ·rw[hc]at hr;simp only[cond_true,Option.some.injEq]at hr;subst hr;rw[hL]at hc;cases hc
  |_=>simp [tW]at hr
 ·cases hr
theorem SE {x:Oper} {b:Nat} (h:wb X Rt x=some b):rt X Rt x=some b:=by
 unfold wb at h;split at h
 ·exact h
 ·cases h
theorem Sb {τ:Heap} {x y:Oper} (h:tJ X Rt Bt ops x y) {u:Up} (hu:pI X Rt Bt y (y.looksAt ops) τ u) (s:AS) (hs:RI X Rt Bt s) (hτ:u.σ≠none→mN s.σ τ):A1 X Rt Bt ops x s (u.ap s):=by
 intro tag ht
 have hnd:∀t,t∈x.looksAt ops→u.d≠some t:=fun t ht e=>by rw[hu.d]at e;exact h.dy t e ht
 refine⟨hs,hu.ri hs,fun t GW hL=>?_,fun t TG=>?_,fun b hb=>?_,fun hr zc=>?_,fun hr zc=>?_⟩
 ·exact(KD (hnd t GW) (fun b v hb e=>by have:=(hu.bx b v hb).1;rw[←e,hL]at this;cases this)).symm
 ·have GW:t∈x.looksAt ops:=Fv (abm TG)
  simp only[place]
  cases hL:X.L.contains t
  ·simp only[cond_false]
   show _=match u.A s.A t with|some p=>_|none=>none
   unfold Up.A
   cases hd:u.d with
   |none=>rfl
   |some d=>
    have htd:(t==d)=false:=by simp only[beq_eq_false_iff_ne];intro e;exact hnd t GW (by rw[hd,e])
    simp only[htd,cond_false]
    cases hA:s.A t with
    |none=>rfl
    |some p=>
     have vi:tW X Rt (.tmp t)=some p.slot:=by simp only[tW,hL,cond_false];exact hs.a t p hA
     have hf:mm u.rJ d (some p)=lC d (some p):=by
      cases hi:u.rJ with
      |false=>exact BI d _
      |true=>
       obtain⟨d',hd',hL'⟩:=hu.box hi
       have oH:d'=d:=by rw[hu.d]at hd;rw[hd]at hd';injection hd' with e;exact e.symm
       subst oH
       unfold mm
       cases hk:lC d' (some p)with
       |none=>rfl
       |some q=>
        have hqs:q=p:=by
         simp only[lC]at hk
         cases ze:p.tag with
         |none=>rw[ze]at hk;simpa using hk.symm
         |some g=>
          obtain⟨g,w⟩:=g
          rw[ze]at hk
          simp only at hk
          cases hg:(g==d')
          ·rw[hg]at hk;simpa using hk.symm
          ·rw[hg]at hk;cases hk
        subst hqs
        have hne:(q.slot==d')=false:=by
         rw[beq_eq_false_iff_ne]
         intro e
         have:rt X Rt x=some q.slot:=by simp only[rt,TG];exact vi
         exact FI h.c2 hd' hL' (by rw[this,e])
        simp only[hne,Bool.and_false,cond_false]
     rw[hf]
     simp only[lC]
     cases ze:p.tag with
     |none=>simp only[ze]
     |some gw=>
      obtain⟨g,w⟩:=gw
      simp only
      cases hgd:(g==d)
      ·simp only[cond_false,ze]
      ·simp only[cond_true]
       have adf:g=d:=by simpa using hgd
       have:(tag==some (g,w))=false:=by
        rw[beq_eq_false_iff_ne]
        intro e
        exact hnd g (ht g w e) (by rw[hd,adf])
       rw[this]
       cases X.L.contains p.slot<;>rfl
  ·rfl
 ·refine(KD (fun e=>?_) (fun b' v hb' e=>?_)).symm
  ·rw[hu.d]at e
   have hLb:X.L.contains b=true:=by
    cases hc:X.L.contains b with
    |true=>rfl
    |false=>
     exfalso
     exact adB hs hb hc
   exact FI h.c2 e hLb hb
  ·exact Qs h.c2 (hu.bx b' v hb').2 (by rw[←e];exact hb)
 ·show s.σ=u.σ.getD s.σ
  cases hs':u.σ with
  |none=>rfl
  |some σ=>
   rcases(FJ h.c2 (hu.σ (by rw[hs'];intro e;cases e))).1 with this|⟨this,_⟩
   ·rw[hr]at this;cases this
   ·rw[zc]at this;cases this
 ·show mN s.σ (u.σ.getD s.σ)
  cases hs':u.σ with
  |none=>exact xT _
  |some σ=>
   rcases(FJ h.c2 (hu.σ (by rw[hs'];intro e;cases e))).1 with this|⟨_,hf⟩
   ·rw[hr]at this;cases this
   ·exact fun id cs=>(hτ (by rw[hs'];intro e;cases e) id cs).trans (hu.fr hf σ hs' id cs)
theorem ZM {τ Hh:Heap} {x y:Oper} (h:tJ X Rt Bt ops x y) {u v:Up} (hu:pI X Rt Bt x (x.looksAt ops) τ u) (hv:pI X Rt Bt y (y.looksAt ops) Hh v):u.RW v:=by
 have half:∀{τ Hh:Heap} {x y:Oper} {u v:Up},tJ X Rt Bt ops x y→pI X Rt Bt x (x.looksAt ops) τ u→pI X Rt Bt y (y.looksAt ops) Hh v→(∀b a,u.bx=some (b,a)→(∀c a',v.bx=some (c,a')→c≠b)∧v.d≠some b)∧(∀d,v.d=some d→mm v.rJ d u.new=u.new):=by
  intro τ Hh x y u v h hu hv
  refine⟨fun b a hb=>?_,fun d hd=>?_⟩
  ·obtain⟨k1,k2⟩:=hu.bx b a hb
   refine⟨fun c a' hc e=>?_,fun e=>?_⟩
   ·have:=(hv.bx c a' hc).2
    subst e
    exact Qs h.c1 k2 (SE this)
   ·rw[hv.d]at e
    exact FI h.c2 e k1 (SE k2)
  ·cases hn:u.new with
   |none=>rfl
   |some p=>
    obtain⟨k1,k2,k3,k4⟩:=hu.new p hn
    have hkt:lC d (some p)=some p:=by
     simp only[lC]
     cases ze:p.tag with
     |none=>rfl
     |some gw=>
      obtain⟨g,w⟩:=gw
      simp only
      have:(g==d)=false:=by
       rw[beq_eq_false_iff_ne];intro e
       rw[hv.d]at hd
       exact h.dy d hd (e▸k2 g w ze)
      rw[this];rfl
    unfold mm
    rw[hkt]
    simp only
    cases hi:v.rJ with
    |false=>rfl
    |true=>
     obtain⟨d',hd',hL'⟩:=hv.box hi
     have oH:d'=d:=by rw[hv.d]at hd;rw[hd]at hd';injection hd' with e;exact e.symm
     subst oH
     have:(p.slot==d')=false:=by
      rw[beq_eq_false_iff_ne];intro e
      exact FI h.c2 hd' hL' (by rw[k3,e])
     simp only[this,Bool.and_false,cond_false]
 obtain⟨a1,a2⟩:=half h hu hv
 obtain⟨b1,b2⟩:=half h.symm hv hu
 refine⟨fun d hd e=>?_,a1,b1,a2,b2,?_⟩
 ·rw[hu.d]at hd;rw[hv.d]at e;exact h.dd d hd e
 ·cases hs:u.σ with
  |none=>exact .inl rfl
  |some σ=>
   right
   have hw:=hu.σ (by rw[hs];intro e;cases e)
   have TN:=(FJ h.c1 hw).2
   cases hs2:v.σ with
   |none=>rfl
   |some σ2=>rw[hv.σ (by rw[hs2];intro e;cases e)]at TN;cases TN
theorem OO {o:Oper} {k:AS→Option R} {r:R} (ho:pO X Rt Bt o):∀(l1 l2:List Oper) (s:AS),RI X Rt Bt s→(∀y∈l1,pO X Rt Bt y)→(∀y∈l1,tJ X Rt Bt ops y o)→ou X true ops (l1++o::l2) s k=some r→kW X true ops o s (fun s1=>ou X true ops (l1++l2) s1 k)=some r
 |[],l2,s,_,_,_,h=>h
 |y::l1,l2,s,hs,hr,hi,h=>by
  simp only[List.cons_append,ou]at h
  obtain⟨u,u1,u2,u3⟩:=Ke (hr y (by simp)) hs h
  have ih:=OO ho l1 l2 (u.ap s) (u1.ri hs) (fun z hz=>hr z (by simp [hz])) (fun z hz=>hi z (by simp [hz])) u2
  obtain⟨v,v1,v2,v3⟩:=Ke ho (u1.ri hs) ih
  have hy:=hi y (by simp)
  have hbe:v.σ≠none→mN s.σ (u.ap s).σ:=fun hv=>by
   have hnu:u.σ=none:=by
    cases hu:u.σ with
    |none=>rfl
    |some σ=>
     have hw:=(FJ hy.c1 (u1.σ (by rw[hu];intro e;cases e))).2
     rw[v1.σ hv]at hw;cases hw
   show mN s.σ (u.σ.getD s.σ)
   rw[hnu];exact xT _
  rw[v3 R _ s (Sb hy.symm u1 s hs (fun _=>xT _)).symm]
  simp only[List.cons_append,ou]
  rw[u3 R _ (v.ap s) (Sb hy v1 s hs hbe),Up.comm (ZM hy u1 v1)]
  exact v2
def Down (ops:Array Oper) (S:Nat→Prop):Prop:=∀i o e,S i→ops[i]? =some o→e∈o.after→Region.binds .any e=true→S e.on
def Gt (ops:Array Oper) (i:Nat) (S:Nat→Prop):Prop:=∀o e,ops[i]? =some o→e∈o.after→Region.binds .any e=true→S e.on
theorem PC (acc:List Nat):∀(es:List Edge) (m j:Nat),(es.foldl (fun s e=>bif Region.binds .any e then s ||| 2 ^ e.on ||| acc.getD e.on 0 else s) m).testBit j=true→
  m.testBit j=true∨∃e∈es,Region.binds .any e=true∧(e.on=j∨(acc.getD e.on 0).testBit j=true)
 |[],m,j,h=>.inl h
 |e::es,m,j,h=>by
  simp only[List.foldl_cons]at h
  rcases PC acc es _ j h with h|⟨e',he',hb,hx⟩
  ·cases hb:Region.binds .any e
   ·rw[hb]at h;exact .inl h
   ·rw[hb]at h
    simp only[cond_true,Nat.testBit_or,Bool.or_eq_true]at h
    rcases h with(h|h)|h
    ·exact .inl h
    ·refine .inr ⟨e,by simp,hb,.inl ?_⟩
     rw[Nat.testBit_two_pow]at h
     simpa using h
    ·exact .inr ⟨e,by simp,hb,.inr h⟩
  ·exact .inr ⟨e',by simp [he'],hb,hx⟩
theorem Pe:∀(l:List Oper) (acc:List Nat),(∀i,l[i]? =ops[acc.length+i]?)→
  (∀(m j:Nat),(acc.getD m 0).testBit j=true→∀S,Down ops S→Gt ops m S→S j)→
  ∀(m j:Nat),((Gh l acc).getD m 0).testBit j=true→∀S,Down ops S→Gt ops m S→S j
 |[],acc,hl,hacc=>hacc
 |o::l,acc,hl,hacc=>by
  simp only[Gh]
  refine Pe l _ (fun i=>by have:=hl (i+1);simp at this;rw[this];simp;congr 1;omega) ?_
  intro m j h S hS hD
  have h0:=hl 0
  simp at h0
  by_cases hm:m<acc.length
  ·rw[List.getD,List.getElem?_append_left hm]at h
   exact hacc m j h S hS hD
  ·by_cases hm2:m=acc.length
   ·subst hm2
    rw[List.getD,List.getElem?_append_right (Nat.le_refl _)]at h
    simp only[Nat.sub_self,List.getElem?_cons_zero,Option.getD_some]at h
    rcases PC acc _ _ j h with h|⟨e,he,hb,hx⟩
    ·simp at h
    ·have Bc:S e.on:=hD o e h0.symm (by simpa using he) hb
     rcases hx with hx|hx
     ·exact hx▸Bc
     ·exact hacc e.on j hx S hS (fun o' e' ho' he' hb'=>hS e.on o' e' Bc ho' he' hb')
   ·rw[List.getD,List.getElem?_append_right (by omega),List.getElem?_eq_none (by simp;omega)]at h
    simp at h
theorem N3 {CV:List Nat}:∀(l:List Oper) (i:Nat),(∀j,l[j]? =ops[i+j]?)→FW X Rt Bt ops CV l i=true→∀n o,i≤n→ops[n]? =some o→∀m y,m<n→ops[m]? =some y→(CV.getD n 0).testBit m=true∨indep X Rt Bt ops y o=true
 |[],i,hl,_,n,o,hn,ho,m,y,hm,hy=>by
  have:=hl (n-i)
  rw[show i+(n-i)=n by omega,ho]at this
  simp at this
 |x::l,i,hl,h,n,o,hn,ho,m,y,hm,hy=>by
  simp only[FW,Bool.and_eq_true]at h
  by_cases hni:n=i
  ·subst hni
   have h0:=hl 0
   simp at h0
   rw[ho]at h0;injection h0 with h0;subst h0
   have:=List.all_eq_true.1 h.1 (y,m) (by
    rw[List.mem_zipIdx_iff_getElem?]
    simp only
    rw[List.getElem?_take_of_lt hm,Array.getElem?_toList]
    exact hy)
   simpa using this
  ·exact N3 l (i+1) (fun j=>by have:=hl (j+1);simp at this;rw[this];congr 1;omega) h.2 n o (by omega) ho m y hm hy
theorem Oq:∀(l:List Oper) (i:Nat),(∀j,l[j]? =ops[i+j]?)→F6 l i=true→∀n o e,i≤n→ops[n]? =some o→e∈o.after→Region.binds .any e=true→e.on<n
 |[],i,hl,_,n,o,e,hn,ho,he,hb=>by
  have:=hl (n-i)
  rw[show i+(n-i)=n by omega,ho]at this
  simp at this
 |x::l,i,hl,h,n,o,e,hn,ho,he,hb=>by
  simp only[F6,Bool.and_eq_true]at h
  by_cases hni:n=i
  ·subst hni
   have h0:=hl 0
   simp at h0
   rw[ho]at h0;injection h0 with h0;subst h0
   have:=List.all_eq_true.1 h.1 e (by simpa using he)
   rw[hb]at this
   simpa [Nat.blt_eq]using this
  ·exact Oq l (i+1) (fun j=>by have:=hl (j+1);simp at this;rw[this];congr 1;omega) h.2 n o e (by omega) ho he hb
def mV (listed:Array Bool) (n:Nat):List Nat:=(List.range n).filter fun i=>!listed.getD i true
def uN (ops:Array Oper) (listed:Array Bool):List Oper:=(mV listed ops.size).filterMap (ops[·]?)
theorem XA {listed:Array Bool} {n i:Nat} (hi:i<n) (hl:listed.getD i true=false) (hs:listed.size=n):
  ∃l1 l2,mV listed n=l1++i::l2∧mV (listed.setIfInBounds i true) n=l1++l2∧∀j∈l1,j<i∧listed.getD j true=false:=by
 refine⟨(List.range i).filter fun j=>!listed.getD j true,((List.range' (i+1) (n-i-1))).filter fun j=>!listed.getD j true,?_,?_,fun j hj=>?_⟩
 ·unfold mV
  rw[show List.range n=List.range i++i::List.range' (i+1) (n-i-1) by
   rw[List.range_eq_range',List.range_eq_range',←List.range'_succ,show n-i-1+1=n-i by omega]
   have:=List.range'_append_1 (s:=0) (m:=i) (n:=n-i)
   rw[show 0+i=i by omega,show i+(n-i)=n by omega]at this
   exact this.symm]
  rw[List.filter_append,List.filter_cons,hl]
  simp
 ·unfold mV
  rw[show List.range n=List.range i++i::List.range' (i+1) (n-i-1) by
   rw[List.range_eq_range',List.range_eq_range',←List.range'_succ,show n-i-1+1=n-i by omega]
   have:=List.range'_append_1 (s:=0) (m:=i) (n:=n-i)
   rw[show 0+i=i by omega,show i+(n-i)=n by omega]at this
   exact this.symm]
  rw[List.filter_append,List.filter_cons]
  have nL:(listed.setIfInBounds i true).getD i true=true:=by simp [Array.getD,hs,hi]
  rw[nL]
  simp only[Bool.not_true,Bool.false_eq_true,if_false]
  congr 1
  ·apply List.filter_congr
   intro j hj
   have:j<i:=by simpa using hj
   rw[Array.getD_eq_getD_getElem?,Array.getD_eq_getD_getElem?,Array.getElem?_setIfInBounds_ne (by omega)]
  ·apply List.filter_congr
   intro j hj
   have:i<j:=by simp at hj;omega
   rw[Array.getD_eq_getD_getElem?,Array.getD_eq_getD_getElem?,Array.getElem?_setIfInBounds_ne (by omega)]
 ·rw[List.mem_filter]at hj
  exact⟨by simpa using hj.1,by simpa using hj.2⟩
end
end
section
open Go.RowKit
section
variable {X : Fx} {z : Z} {s : AS} {a : Act} {w w' : World} {E : List Pl} {pb : Nat → Option Nat} {R : Type}
theorem Qe (h:St X z s a w E pb) {d:Nat} {av:U} (yX:s.sl.getD d .undef=av) (h1:av≠.undef) (h2:∀cs,av≠.lbx cs):∃v,a.tmps[d]? =some v∧a.tmps.getD d undef=v∧ah (ctx z w E pb) av v:=by
 by_cases hd:d<s.sl.length
 ·have e:s.sl[d]? =some av:=by rw[List.getElem?_eq_getElem hd];rw[←yX];simp [List.getD,hd]
  have r:=(h.slot d av e).rep h2
  have hd':d<a.tmps.size:=by rw[h.len];exact hd
  exact⟨a.tmps.getD d undef,by simp [Array.getD,hd'],rfl,r⟩
 ·exact absurd (by rw[←yX];simp [List.getD,Nat.le_of_not_lt hd]) h1
theorem abK (hs:cD X) (h:St X z s a w E pb) {q:Bool} {ops:Array Oper} {i:Nat} {o:Oper} (hi:ops[i]? =some o) {k:AS→Option R} {r:R} (hk:kW X q ops o s k=some r) {K:Act→World→Prop} {Q:Exit→Act→World→Prop}
  (hK:∀s' a' w' E' bz,St X z s' a' w' E' bz→k s'=some r→K a' w'):wpOp X.P ops Q i K a w:=by
 unfold wpOp
 rw[hi]
 simp only
 unfold kW at hk
 cases hg:o.guard with
 |none=>
  rw[hg]at hk
  rw[if_pos (by simp [Region.wanted,hg])]
  exact .inl (abJ hs h hk hK)
 |some jw=>
  obtain⟨j,want⟩:=jw
  rw[hg]at hk
  simp only at hk
  cases hd:(ops[j]?).bind (·.dst)with
  |none=>rw[hd]at hk;cases hk
  |some d=>
   rw[hd]at hk
   simp only at hk
   cases hL:BX X o d
   ·rw[hL]at hk
    simp only[cond_false]at hk
    have Cr:Region.wanted o (yielded ops a.tmps)=(yielded ops a.tmps j==some want):=by simp [Region.wanted,hg]
    have hy:yielded ops a.tmps j=match a.tmps[d]? with|some (.bool b)=>some b|_=>none:=by
     simp only[yielded,hd,Option.bind_some]
     rfl
    cases hp:gX X o s (some (d,want))with
    |some p=>
     obtain⟨b,rr⟩:=p
     rw[hp]at hk
     simp only at hk
     obtain⟨off,e1,e2⟩:=Option.bind_eq_some_iff.1 hk
     subst e1
     by_cases hw:Region.wanted o (yielded ops a.tmps)=true
     ·rw[if_pos hw]
      have ht:mR a (some (d,want)):=by
       rw[Cr,hy]at hw
       simp only[mR]
       split at hw
       ·rename_i b' hb'
        simp at hw;subst hw
        rw[Array.getD_eq_getD_getElem?,hb'];rfl
       ·simp at hw
      obtain⟨n,k1,k2⟩:=RH h ht hp
      exact .inl (mK k2 (hK _ _ _ _ _ (h.KM o.dst (fun _=>⟨n,k1,rfl⟩)) e2))
     ·rw[if_neg hw]
      refine hK _ _ _ _ _ (h.KM o.dst (fun ht=>absurd ?_ hw)) e2
      rw[Cr,hy]
      simp only[mR]at ht
      rw[Array.getD_eq_getD_getElem?]at ht
      cases hc:a.tmps[d]? with
      |none=>rw[hc]at ht;simp [undef]at ht
      |some v=>rw[hc]at ht;simp at ht;subst ht;simp
    |none=>
     rw[hp]at hk
     simp only at hk
     obtain⟨av,e1,e2⟩:=Option.bind_eq_some_iff.1 hk
     generalize oJ:s.sl.getD d .undef=gv at e1
     cases gv<;>simp only[A.guard]at e1<;>first|(cases e1;done)|skip
     case bool b=>
      obtain⟨v,v1,v2,v3⟩:=Qe h oJ (by intro e;cases e) (by intro cs e;cases e)
      simp only[ah]at v3
      subst v3
      cases Dg:(b==want)
      ·rw[Dg]at e1
       simp only[cond_false]at e1
       injection e1 with e1;subst e1
       have hw:¬Region.wanted o (yielded ops a.tmps)=true:=by
        rw[Cr,hy,v1]
        simp at Dg ⊢
        exact Dg
       rw[if_neg hw]
       exact hK _ _ _ _ _ (h.undef o.dst) e2
      ·rw[Dg]at e1
       simp only[cond_true]at e1
       have SM:b=want:=by simpa using Dg
       have hw:Region.wanted o (yielded ops a.tmps)=true:=by rw[Cr,hy,v1];simp [SM]
       rw[if_pos hw]
       have ht:mR a (some (d,want)):=by simp only[mR];rw[v2,SM]
       exact .inl (RJ hs h ht e1 fun v w' E' h3 h4=>hK _ _ _ _ _ (h3.put o.dst h4) e2)
     case aA vs=>
      cases vs with
      |cons x xs=>cases e1
      |nil=>
       injection e1 with e1;subst e1
       obtain⟨v,v1,v2,v3⟩:=Qe h oJ (by intro e;cases e) (by intro cs e;cases e)
       simp only[ah]at v3
       obtain⟨us,rfl,_⟩:=v3
       have hw:¬Region.wanted o (yielded ops a.tmps)=true:=by rw[Cr,hy,v1];simp
       rw[if_neg hw]
       exact hK _ _ _ _ _ (h.undef o.dst) e2
   ·rw[hL]at hk;cases hk
def Fr (X:Fx) (ds:List Nat) (s s':AS):Prop:=∀i,i∉ds→X.L.contains i=false→s'.sl[i]? =s.sl[i]?
theorem Fr.refl (ds:List Nat) (s:AS):Fr X ds s s:=fun _ _ _=>rfl
theorem Fr.trans {d1 d2:List Nat} {s s' s'':AS} (h:Fr X d1 s s') (k:Fr X d2 s' s''):Fr X (d1++d2) s s'':=fun i hi hL=>by
 rw[List.mem_append]at hi
 exact(k i (fun e=>hi (.inr e)) hL).trans (h i (fun e=>hi (.inl e)) hL)
theorem Fr.mono {d1 d2:List Nat} {s s':AS} (h:Fr X d1 s s') (k:∀i∈d1,i∈d2):Fr X d2 s s':=fun i hi hL=>h i (fun e=>hi (k i e)) hL
theorem Fr.put (d:Option Nat) (v:U) (s:AS):Fr X d.toList s (s.put X d v):=fun i hi hL=>by
 cases d with
 |none=>rfl
 |some d=>simp only[AS.put];rw[List.getElem?_set,if_neg];intro e;subst e;simp at hi
theorem Fr.jN (d:Option Nat) (b off:Nat) (tag:Option (Nat×Bool)) (s:AS):Fr X d.toList s (s.jN X d b off tag):=fun i hi hL=>by
 cases d with
 |none=>rfl
 |some d=>simp only[AS.jN];rw[List.getElem?_set,if_neg];intro e;subst e;simp at hi
theorem Fr.lG (d:Nat) (cs:List U) (s:AS):Fr X [d] s (s.lG d cs):=fun i hi hL=>by
 simp only[AS.lG];rw[List.getElem?_set,if_neg];intro e;subst e;simp at hi
theorem Fr.mL (d:Option Nat) (v:U) (σ:Heap) (s:AS):Fr X d.toList s ((s.heap σ).put X d v):=fun i hi hL=>by
 cases d with
 |none=>rfl
 |some d=>simp only[AS.put,AS.heap];rw[List.getElem?_set,if_neg];intro e;subst e;simp at hi
theorem Fr.abo (d:Option Nat) (v:U) (b:Nat) (cs:List U) (hb:X.L.contains b=true) (s:AS):Fr X d.toList s ((⟨s.sl.set b (.lbx cs),s.A,s.σ⟩:AS).put X d v):=fun i hi hL=>by
 have TH:b≠i:=fun e=>by rw[e,hL]at hb;cases hb
 cases d with
 |none=>simp only[AS.put];rw[List.getElem?_set,if_neg TH]
 |some d=>simp only[AS.put];rw[List.getElem?_set,if_neg,List.getElem?_set,if_neg TH];intro e;subst e;simp at hi
theorem aaQ {tag:Option (Nat×Bool)} {x:Operand} {b off:Nat} (h:place X s tag x=some (b,off)):X.L.contains b=true:=by
 cases x with
 |tmp t=>
  simp only[place]at h
  cases hL:X.L.contains t
  ·rw[hL]at h
   simp only[cond_false]at h
   split at h
   ·rename_i p hA
    cases hp:X.L.contains p.slot
    ·rw[hp]at h;cases h
    ·rw[hp]at h
     simp only[cond_true]at h
     split at h
     ·simp only[Option.some.injEq,Prod.mk.injEq]at h;rw[←h.1];exact hp
     ·rename_i g hg
      cases ht:(tag==some g)
      ·rw[ht]at h;cases h
      ·rw[ht]at h;simp only[cond_true,Option.some.injEq,Prod.mk.injEq]at h;rw[←h.1];exact hp
   ·cases h
  ·rw[hL]at h
   simp only[cond_true,Option.some.injEq,Prod.mk.injEq]at h
   rw[←h.1];exact hL
 |_=>simp [place]at h
theorem bind_congr {α β:Type} {x:Option α} {f g:α→Option β} (h:∀a,x=some a→f a=g a):x.bind f=x.bind g:=by cases x with|none=>rfl|some a=>exact h a rfl
theorem W4 {x:U} {σ:Heap} {f g:Nat→Heap→Option R} (h:∀n σ,f n σ=g n σ):A.wK x σ f=A.wK x σ g:=by
 have:f=g:=funext fun n=>funext fun σ=>h n σ
 rw[this]
theorem WC {x:U} {σ:Heap} {f g:U→Heap→Option R} (h:∀v σ,f v σ=g v σ):A.wo x σ f=A.wo x σ g:=by
 have:f=g:=funext fun n=>funext fun σ=>h n σ
 rw[this]
theorem Xj {q str:Bool} {i:Operand} {dst:Option Nat} {k k2:AS→Option R} (h:∀s',Fr X dst.toList s s'→k s'=k2 s'):
  (bif q||str then none else A.wo (ev X s i) s.σ fun v σ=>k ((s.heap σ).put X dst v))=(bif q||str then none else A.wo (ev X s i) s.σ fun v σ=>k2 ((s.heap σ).put X dst v)):=by
 cases(q||str)
 ·simp only[cond_false]
  exact WC fun _ _=>h _ (Fr.mL _ _ _ _)
 ·rfl
theorem Yo {q:Bool} {o:Oper} {k k2:AS→Option R} (h:∀s',Fr X o.dst.toList s s'→k s'=k2 s'):eX X q o s k=eX X q o s k2:=by
 unfold eX
 cases hp:gX X o s none with
 |some p=>obtain⟨b,rr⟩:=p;exact bind_congr fun p _=>h _ (Fr.jN _ _ _ _ _)
 |none=>
  simp only
  have dflt:((ew X o s none).bind fun v=>k (s.put X o.dst v))=(ew X o s none).bind fun v=>k2 (s.put X o.dst v):=bind_congr fun v _=>h _ (Fr.put _ _ _)
  obtain⟨dst,op,ty,pos,af,g⟩:=o
  cases op<;>simp only<;>first|exact Xj h|exact dflt|skip
  case alloc t=>
   cases dst with
   |none=>rfl
   |some d=>
    simp only
    cases X.L.contains d
    ·simp only[cond_false]
     cases X.O.contains d
     ·exact dflt
     ·simp only[cond_true];split
      ·exact h _ (Fr.mL _ _ _ _)
      ·rfl
    ·simp only[cond_true];split
     ·exact h _ (Fr.lG _ _ _)
     ·rfl
  case box t x=>
   cases dst with
   |none=>rfl
   |some d=>
    simp only
    cases X.L.contains d
    ·simp only[cond_false]
     cases X.O.contains d
     ·exact dflt
     ·exact bind_congr fun cs _=>h _ (Fr.mL _ _ _ _)
    ·exact bind_congr fun cs _=>h _ (Fr.lG _ _ _)
  case store t x v=>
   split
   ·rename_i b off hpl
    exact bind_congr fun _ _=>bind_congr fun _ _=>bind_congr fun _ _=>h _ (Fr.abo _ _ _ _ (aaQ hpl) _)
   ·exact bind_congr fun _ _=>bind_congr fun _ _=>h _ (Fr.mL _ _ _ _)
  case makeMap t rr=>
   cases rr with
   |none=>exact h _ (Fr.mL _ _ _ _)
   |some x=>rfl
  case range t x=>
   split
   ·exact bind_congr fun _ _=>h _ (Fr.mL _ _ _ _)
   ·rfl
  case buildSlice t n ps=>
   cases dst with
   |none=>exact dflt
   |some d=>
    simp only
    cases X.O.contains d
    ·exact dflt
    ·simp only[cond_true]
     refine bind_congr fun v _=>?_
     unfold A.AW
     split
     ·cases(List.length _==0)
      ·exact h _ (Fr.mL _ _ _ _)
      ·rfl
     ·rfl
  case mapUpdate t m i v=>
   split
   ·split
    ·exact bind_congr fun _ _=>h _ (Fr.mL _ _ _ _)
    ·rfl
   ·rfl
  case call c=>
   split
   ·split
    ·split
     ·split
      ·cases kq _
       ·exact bind_congr fun _ _=>h _ (Fr.mL _ _ _ _)
       ·rfl
      ·rfl
     ·split
      ·cases kq _
       ·exact bind_congr fun _ _=>h _ (Fr.mL _ _ _ _)
       ·rfl
      ·rfl
     ·rfl
    ·rfl
   ·split
    ·split
     ·split
      ·cases kq _
       ·exact bind_congr fun _ _=>h _ (Fr.mL _ _ _ _)
       ·rfl
      ·rfl
     ·rfl
    ·rfl
   ·cases hv:ew X _ s none
    ·simp only[A.wJ]
     cases q
     ·simp only[cond_false]
      split
      ·split
       ·exact W4 fun _ _=>h _ (Fr.mL _ _ _ _)
       ·rfl
      ·rfl
     ·rfl
    ·exact h _ (Fr.put _ _ _)
   ·split
    ·split
     ·split
      ·cases kq _
       ·exact bind_congr fun _ _=>h _ (Fr.mL _ _ _ _)
       ·rfl
      ·rfl
     ·rfl
    ·rfl
   ·split
    ·split
     ·split
      ·exact bind_congr fun _ _=>h _ (Fr.mL _ _ _ _)
      ·rfl
     ·rfl
    ·rfl
   ·exact dflt
   ·cases(q&&!X.W.contains _)
    ·exact bind_congr fun _ _=>h _ (Fr.mL _ _ _ _)
    ·exact dflt
   ·cases q
    ·exact bind_congr fun _ _=>h _ (Fr.mL _ _ _ _)
    ·exact dflt
   ·rfl
theorem Yp {q:Bool} {ops:Array Oper} {o:Oper} {k k2:AS→Option R} (h:∀s',Fr X o.dst.toList s s'→k s'=k2 s'):kW X q ops o s k=kW X q ops o s k2:=by
 unfold kW
 split
 ·exact Yo h
 ·split
  ·cases BX X o _
   ·simp only[cond_false]
    split
    ·exact bind_congr fun _ _=>h _ (Fr.jN _ _ _ _ _)
    ·exact bind_congr fun _ _=>h _ (Fr.put _ _ _)
   ·rfl
  ·rfl
theorem QS (hs:cD X) (h:St X z s a w E pb) {q:Bool} {ops:Array Oper} {i:Nat} {o:Oper} (hi:ops[i]? =some o) {k:AS→Option R} {r:R} (hk:kW X q ops o s k=some r) {K:Act→World→Prop} {Q:Exit→Act→World→Prop}
  (hK:∀s' a' w' E' bz,St X z s' a' w' E' bz→Fr X o.dst.toList s s'→k s'=some r→K a' w'):wpOp X.P ops Q i K a w:=by
 classical
 have e:kW X q ops o s k=kW X q ops o s (fun s'=>if Fr X o.dst.toList s s' then k s' else none):=Yp fun s' hf=>by rw[if_pos hf]
 rw[e]at hk
 refine abK hs h hi hk fun s' a' w' E' bz h' hk'=>?_
 split at hk'
 ·exact hK s' a' w' E' bz h' (by assumption) hk'
 ·cases hk'
theorem QV (hs:cD X) {q:Bool} {ops:Array Oper} {Q:Exit→Act→World→Prop} {r:R} {k:AS→Option R} {s0:AS}:
  ∀(l:List Oper) (i:Nat) (s:AS) (a:Act) (w:World) (E:List Pl) (pb:Nat→Option Nat),(∀j,l[j]? =ops[i+j]?)→St X z s a w E pb→ou X q ops l s k=some r→
   (∀s' a' w' E' bz,St X z s' a' w' E' bz→Fr X (l.filterMap (·.dst)) s s'→k s'=some r→Q .normal a' w')→wpOps X.P ops Q (List.range' i l.length) a w
 |[],i,s,a,w,E,pb,_,h,hk,hQ=>by simpa [wpOps]using hQ _ _ _ _ _ h (Fr.refl _ _) hk
 |o::l,i,s,a,w,E,pb,hl,h,hk,hQ=>by
  have h0:=hl 0
  simp at h0
  simp only[List.length_cons,List.range'_succ]
  rw[wpOps_cons]
  refine QS hs h h0.symm hk fun s' a' w' E' bz h' hf hk'=>?_
  refine QV hs (s0:=s0) l (i+1) s' a' w' E' bz (fun j=>by have:=hl (j+1);simp at this;rw[this];congr 1;omega) h' hk' fun s2 a2 w2 E2 Mk h2 vc hk2=>hQ s2 a2 w2 E2 Mk h2 ((hf.trans vc).mono ?_) hk2
  intro j hj
  rw[List.filterMap_cons]
  cases hd:o.dst with
  |none=>rw[hd]at hj;simpa using hj
  |some d=>rw[hd]at hj;simpa using hj
theorem aaN (hs:cD X) {Rt:List (Nat×Nat)} {Bt:List Nat} (h:St X z s a w E pb) (hI:RI X Rt Bt s) {ops:Array Oper} {i:Nat} {o:Oper} (hR:pO X Rt Bt o) (hi:ops[i]? =some o) {k:AS→Option R} {r:R} (hk:kW X true ops o s k=some r) {K:Act→World→Prop} {Q:Exit→Act→World→Prop}
  (hK:∀s' a' w' E' bz,St X z s' a' w' E' bz→Fr X o.dst.toList s s'→RI X Rt Bt s'→k s'=some r→K a' w'):wpOp X.P ops Q i K a w:=by
 classical
 have e:kW X true ops o s (fun s'=>if RI X Rt Bt s' then k s' else none)=some r:=by
  obtain⟨u,h1,h2,h3⟩:=Ke hR hI hk
  rw[h3 R _ s (fun tag _=>⟨hI,hI,fun _ _ _=>rfl,fun _ _=>rfl,fun _ _=>rfl,fun _ _=>rfl,fun _ _=>xT _⟩),if_pos (h1.ri hI)]
  exact h2
 refine QS hs h hi e fun s' a' w' E' bz h' hf hk'=>?_
 split at hk'
 ·exact hK s' a' w' E' bz h' hf (by assumption) hk'
 ·cases hk'
theorem Y4 (hs:cD X) {Rt:List (Nat×Nat)} {Bt:List Nat} {ops:Array Oper} {Q:Exit→Act→World→Prop} {r:R} {k:AS→Option R} {s0:AS} (Kn:∀n o e,ops[n]? =some o→e∈o.after→Region.binds .any e=true→e.on<n)
  (acn:∀n o m y,ops[n]? =some o→m<n→ops[m]? =some y→(∀S,Down ops S→Gt ops n S→S m)∨tJ X Rt Bt ops y o) (KX:∀(n:Nat) (o:Oper),ops[n]? =some o→pO X Rt Bt o)
  (hQ:∀s' a' w' E' bz,St X z s' a' w' E' bz→Fr X (ops.toList.filterMap (·.dst)) s0 s'→k s'=some r→Q .normal a' w'):
  ∀(fuel:Nat) (listed:Array Bool) (s:AS) (a:Act) (w:World) (E:List Pl) (pb:Nat→Option Nat),listed.size=ops.size→(mV listed ops.size).length≤fuel→Down ops (fun i=>listed.getD i true=true)→St X z s a w E pb→RI X Rt Bt s→ou X true ops (uN ops listed) s k=some r→Fr X (ops.toList.filterMap (·.dst)) s0 s→
   wpAny X.P .any ops Q fuel listed a w:=by
 have hnone:∀(listed:Array Bool),mV listed ops.size=[]→Region.ready .any ops listed=[]:=by
  intro listed h
  unfold Region.ready
  rw[List.filter_eq_nil_iff]
  intro i hi hr
  simp only[Bool.and_eq_true]at hr
  have:i∈mV listed ops.size:=List.mem_filter.2 ⟨hi,hr.1⟩
  rw[h]at this;simp at this
 have hsome:∀(listed:Array Bool),listed.size=ops.size→Region.ready .any ops listed=[]→mV listed ops.size=[]:=by
  intro listed hsz hr
  cases rQ:mV listed ops.size with
  |nil=>rfl
  |cons i0 tl=>
   exfalso
   have hm:i0∈mV listed ops.size:=by rw[rQ];simp
   obtain⟨h1,h2⟩:=List.mem_filter.1 hm
   have hlt:i0<ops.size:=by simpa using h1
   have TQ:(mV listed ops.size).Pairwise (·<·):=List.Pairwise.filter _ List.pairwise_lt_range
   rw[rQ,List.pairwise_cons]at TQ
   have hall:∀j,j<i0→listed.getD j true=true:=by
    intro j hj
    cases hc:listed.getD j true with
    |true=>rfl
    |false=>
     have:j∈mV listed ops.size:=List.mem_filter.2 ⟨by simp;omega,by simp [hc]⟩
     rw[rQ]at this
     rcases List.mem_cons.1 this with e|e
     ·omega
     ·have:=TQ.1 j e;omega
   have:i0∈Region.ready .any ops listed:=by
    unfold Region.ready
    refine List.mem_filter.2 ⟨h1,?_⟩
    rw[Bool.and_eq_true]
    refine⟨h2,?_⟩
    rw[Array.getElem?_eq_getElem hlt]
    simp only[Option.map_some,Option.getD_some]
    rw[Array.all_eq_true_iff_forall_mem]
    intro e he
    cases hb:Region.binds .any e with
    |false=>rfl
    |true=>
     have Bc:=Kn i0 _ e (Array.getElem?_eq_getElem hlt) he hb
     have:=hall e.on Bc
     rw[Array.getD_eq_getD_getElem?,Array.getElem?_eq_getElem (by omega)]at this
     simp only[Option.getD_some]at this
     rw[Array.getD_eq_getD_getElem?,Array.getElem?_eq_getElem (by omega)]
     simp [this]
   rw[hr]at this;simp at this
 intro fuel
 induction fuel with
 |zero=>
  intro listed s a w E pb hsz hle hdn h hI hk hf
  have rQ:mV listed ops.size=[]:=List.eq_nil_of_length_eq_zero (by omega)
  refine⟨hnone listed rQ,hQ s a w E pb h hf ?_⟩
  simpa [uN,rQ,ou]using hk
 |succ fuel ih=>
  intro listed s a w E pb hsz hle hdn h hI hk hf
  refine⟨fun hr=>hQ s a w E pb h hf (by simpa [uN,hsome listed hsz hr,ou]using hk),fun i hi=>?_⟩
  unfold Region.ready at hi
  obtain⟨h1,h2⟩:=List.mem_filter.1 hi
  rw[Bool.and_eq_true]at h2
  obtain⟨h2,h3⟩:=h2
  have hlt:i<ops.size:=by simpa using h1
  have hun:listed.getD i true=false:=by simpa using h2
  have ho:ops[i]? =some ops[i]:=Array.getElem?_eq_getElem hlt
  have Sk:Gt ops i (fun j=>listed.getD j true=true):=by
   intro o e TO he hb
   rw[TO]at h3
   simp only[Option.map_some,Option.getD_some]at h3
   rw[Array.all_eq_true_iff_forall_mem]at h3
   have h4:=h3 e he
   rw[hb]at h4
   simp only[Bool.not_true,Bool.false_or]at h4
   have Bc:=Kn i o e TO he hb
   rw[Array.getD_eq_getD_getElem?,Array.getElem?_eq_getElem (by omega)]at h4
   simp only[Option.getD_some]at h4
   show listed.getD e.on true=true
   rw[Array.getD_eq_getD_getElem?,Array.getElem?_eq_getElem (by omega)]
   simpa using h4
  obtain⟨l1,l2,e1,e2,e3⟩:=XA hlt hun hsz
  have rQ:uN ops listed=l1.filterMap (ops[·]?)++ops[i]::l2.filterMap (ops[·]?):=by
   unfold uN;rw[e1,List.filterMap_append,List.filterMap_cons,ho]
  have acp:uN ops (listed.setIfInBounds i true)=l1.filterMap (ops[·]?)++l2.filterMap (ops[·]?):=by
   unfold uN;rw[e2,List.filterMap_append]
  rw[rQ]at hk
  have adt:∀y∈l1.filterMap (ops[·]?),pO X Rt Bt y:=by
   intro y hy
   obtain⟨j,hj,L1⟩:=List.mem_filterMap.1 hy
   exact KX j y L1
  have adh:∀y∈l1.filterMap (ops[·]?),tJ X Rt Bt ops y ops[i]:=by
   intro y hy
   obtain⟨j,hj,L1⟩:=List.mem_filterMap.1 hy
   obtain⟨j1,j2⟩:=e3 j hj
   rcases acn i ops[i] j y ho j1 L1 with k1|k1
   ·have:=k1 _ hdn Sk
    rw[j2]at this;cases this
   ·exact k1
  have abw:=OO (KX i _ ho) _ _ s hI adt adh hk
  refine aaN hs h hI (KX i _ ho) ho abw fun s' a' w' E' bz h' hf' LU hk'=>?_
  rw[←acp]at hk'
  refine ih _ s' a' w' E' bz (by simpa using hsz) ?_ ?_ h' LU hk' ((hf.trans hf').mono ?_)
  ·rw[e2];rw[e1]at hle;simp at hle ⊢;omega
  ·intro j o e hj L4 he hb
   by_cases hji:j=i
   ·subst hji
    have:=Sk o e L4 he hb
    show(listed.setIfInBounds j true).getD e.on true=true
    have Bc:=Kn j o e L4 he hb
    rw[Array.getD_eq_getD_getElem?,Array.getElem?_setIfInBounds_ne (by omega),←Array.getD_eq_getD_getElem?];exact this
   ·have hj':listed.getD j true=true:=by
     replace hj:(listed.setIfInBounds i true).getD j true=true:=hj
     rw[Array.getD_eq_getD_getElem?,Array.getElem?_setIfInBounds_ne (fun e=>hji e.symm),←Array.getD_eq_getD_getElem?]at hj;exact hj
    have:=hdn j o e hj' L4 he hb
    show(listed.setIfInBounds i true).getD e.on true=true
    by_cases TJ:e.on=i
    ·rw[TJ];simp [Array.getD,hsz,hlt]
    ·rw[Array.getD_eq_getD_getElem?,Array.getElem?_setIfInBounds_ne (fun e'=>TJ e'.symm),←Array.getD_eq_getD_getElem?];exact this
  ·intro d hd
   rcases List.mem_append.1 hd with hd|hd
   ·exact hd
   ·refine List.mem_filterMap.2 ⟨ops[i],by simp,?_⟩
    cases oH:ops[i].dst with
    |none=>rw[oH]at hd;simp at hd
    |some d'=>rw[oH]at hd;simp at hd;rw[hd]
theorem IG {t b:Nat}:∀{l:List (Nat×Nat)},l.lookup t=some b→(t,b)∈l
 |[],h=>by cases h
 |(t',b')::l,h=>by
  simp only[List.lookup]at h
  cases hc:(t==t')
  ·rw[hc]at h;exact List.mem_cons_of_mem _ (IG h)
  ·rw[hc]at h
   simp only[Option.some.injEq]at h
   have:t=t':=by simpa using hc
   subst this;subst h
   exact List.mem_cons_self
theorem Z3 (hs:cD X) {ops:Array Oper} {Q:Exit→Act→World→Prop} {r:R} {k:AS→Option R} (hok:B1 X ops s.sl=true) (hA:∀t,s.A t=none) (hQ:∀s' a' w' E' bz,St X z s' a' w' E' bz→Fr X (ops.toList.filterMap (·.dst)) s s'→k s'=some r→Q .normal a' w') {id:Nat}
  (h:St X z s a w E pb) (hk:ou X true ops ops.toList s k=some r):(Code.region id ops true).wp X.P Q a w:=by
 obtain⟨Rt,Bt,hok⟩:∃Rt Bt,Fb X Rt Bt ops s.sl=true:=by
  unfold B1 at hok
  rcases Bool.or_eq_true_iff.1 hok with h|h
  ·exact⟨_,_,h⟩
  ·exact⟨_,_,h⟩
 unfold Fb at hok
 simp only[Bool.and_eq_true]at hok
 obtain⟨⟨⟨⟨⟨⟨⟨h1,h2⟩,h3⟩,h4⟩,h5⟩,h6⟩,h7⟩,h8⟩:=hok
 have hI:RI X Rt Bt s:=by
  refine⟨fun t b hl=>?_,fun t p hp=>(by rw[hA t]at hp;cases hp),fun t b hl _=>?_,fun t ht=>List.all_eq_true.1 h8 t (by simpa using ht)⟩
  ·have:=List.all_eq_true.1 h6 (t,b) (IG hl)
   exact this
  ·have:=List.all_eq_true.1 h5 (t,b) (IG hl)
   exact this
 have Sn:∀j,ops.toList[j]? =ops[0+j]? :=fun j=>by simp
 have rQ:mV (Array.replicate ops.size false) ops.size=List.range ops.size:=by
  unfold mV
  rw[List.filter_eq_self]
  intro i hi
  have:i<ops.size:=by simpa using hi
  simp [Array.getD,this]
 have acq:uN ops (Array.replicate ops.size false)=ops.toList:=by
  unfold uN
  rw[rQ]
  have gen:∀(l pre:List Oper),(List.range' pre.length l.length).filterMap (fun i=>(pre++l)[i]?)=l:=by
   intro l
   induction l with
   |nil=>intro pre;rfl
   |cons x l ih=>
    intro pre
    simp only[List.length_cons,List.range'_succ,List.filterMap_cons]
    rw[List.getElem?_append_right (Nat.le_refl _)]
    simp only[Nat.sub_self,List.getElem?_cons_zero]
    have:=ih (pre++[x])
    simp only[List.length_append,List.length_cons,List.length_nil,Nat.zero_add,List.append_assoc,List.cons_append,List.nil_append]at this
    rw[this]
  have:=gen ops.toList []
  rw[List.range_eq_range']
  simpa using this
 refine wp_region_any h1 (Y4 (s0:=s) hs (fun n o e ho he hb=>Oq ops.toList 0 Sn h2 n o e (Nat.zero_le _) ho he hb) (fun n o m y ho hm hy=>?_) (fun n o ho=>pO.of (List.all_eq_true.1 h4 o (by have:=Array.mem_of_getElem? ho;simpa using this)) (List.all_eq_true.1 h7 o (by have:=Array.mem_of_getElem? ho;simpa using this))) hQ ops.size _ s a _ E pb (by simp) (by rw[rQ];simp) ?_ (h.grow (w':=w.drew) ((Below.refl _ _).drew)) hI (by rw[acq];exact hk) (Fr.refl _ _))
 ·rcases N3 ops.toList 0 Sn h3 n o (Nat.zero_le _) ho m y hm hy with k1|k1
  ·left
   exact fun S hS hD=>Pe ops.toList [] (fun i=>by simp) (fun m j h=>by simp at h) n m k1 S hS hD
  ·exact .inr (Ye k1)
 ·intro i o e hi ho he hb
  have hlt:i<ops.size:=(Array.getElem?_eq_some_iff.1 ho).1
  exfalso
  simp [Array.getD,hlt]at hi
theorem St.Mg (h:St X z s a w E pb):St X z ⟨s.sl,fun _=>none,s.σ⟩ a w E pb:=
 ⟨h.len,h.mU,h.slot,h.box,(fun t p hp=>by cases hp),h.priv,h.inj,h.heap,h.defers,h.out,h.nm⟩
def AX.to:AX→Exit
 |.normal=>.normal
 |.exit i=>.exit i
 |.ret=>.ret
theorem Ew:∀(ds:List Nat) (sl:List U) (i:Nat),(qY sl ds).length=sl.length∧((qY sl ds)[i]? =sl[i]? ∨(qY sl ds)[i]? =some .undef)∧(i∉ds→(qY sl ds)[i]? =sl[i]?)∧(i∈ds→i<sl.length→(qY sl ds)[i]? =some .undef)
 |[],sl,i=>⟨rfl,.inl rfl,fun _=>rfl,fun h=>by simp at h⟩
 |d::ds,sl,i=>by
  obtain⟨h1,h2,h3,h4⟩:=Ew ds (sl.set d .undef) i
  simp only[qY]
  have nL:(sl.set d .undef)[i]? =if d=i then(if i<sl.length then some .undef else none)else sl[i]? :=by
   rw[List.getElem?_set];by_cases e:d=i
   ·subst e;simp
   ·simp [e]
  have hnone:¬i<sl.length→sl[i]? =none:=fun k=>List.getElem?_eq_none (by omega)
  refine⟨by rw[h1];simp,?_,fun hi=>?_,fun hi hl=>?_⟩
  ·rcases h2 with h2|h2
   ·rw[h2,nL]
    by_cases e:d=i
    ·rw[if_pos e];split
     ·exact .inr rfl
     ·rename_i k;rw[hnone k];exact .inl rfl
    ·rw[if_neg e];exact .inl rfl
   ·exact .inr h2
  ·simp only[List.mem_cons,not_or]at hi
   rw[h3 hi.2,nL,if_neg (fun e=>hi.1 e.symm)]
  ·by_cases hm:i∈ds
   ·exact h4 hm (by simpa using hl)
   ·simp only[List.mem_cons]at hi
    have:i=d:=hi.resolve_right hm
    rw[h3 hm,nL,if_pos this.symm,if_pos hl]
theorem EY (vs:List U):∀(live:List Nat) (j:Nat) (sl:List U) (i:Nat),(AD vs sl live j).length=sl.length∧(i∉live→(AD vs sl live j)[i]? =sl[i]?)∧(i∈live→i<sl.length→∃n,n<live.length∧live[n]? =some i∧(AD vs sl live j)[i]? =some (vs.getD (j+n) .undef))
 |[],j,sl,i=>⟨rfl,fun _=>rfl,fun h=>by simp at h⟩
 |d::live,j,sl,i=>by
  obtain⟨h1,h2,h3⟩:=EY vs live (j+1) (sl.set d (vs.getD j .undef)) i
  simp only[AD]
  refine⟨by rw[h1];simp,fun hi=>?_,fun hi hl=>?_⟩
  ·simp only[List.mem_cons,not_or]at hi
   rw[h2 hi.2,List.getElem?_set,if_neg (fun e=>hi.1 e.symm)]
  ·by_cases hm:i∈live
   ·obtain⟨n,k1,k2,k3⟩:=h3 hm (by simpa using hl)
    exact⟨n+1,by simp;omega,by simpa using k2,by rw[k3];congr 2;omega⟩
   ·simp only[List.mem_cons]at hi
    have:i=d:=hi.resolve_right hm
    subst this
    exact⟨0,by simp,rfl,by rw[h2 hm,List.getElem?_set];simp [hl]⟩
theorem St.meet {s s':AS} (h:St X z s' a w E pb) {mods live:List Nat} (hl:s.sl.length=s'.sl.length) (hf:∀i,i∉mods→s'.sl[i]? =s.sl[i]?):St X z (s.meet mods live (vals s'.sl live) s'.σ) a w E pb:=by
 have jd:∀i:Nat,(s.meet mods live (vals s'.sl live) s'.σ).sl[i]? =s'.sl[i]? ∨(s.meet mods live (vals s'.sl live) s'.σ).sl[i]? =some U.undef:=by
  intro i
  simp only[AS.meet]
  obtain⟨c1,c2,c3,c4⟩:=Ew mods s.sl i
  obtain⟨m1,m2,m3⟩:=EY (vals s'.sl live) live 0 (qY s.sl mods) i
  by_cases hm:i∈live
  ·by_cases hlt:i<s.sl.length
   ·obtain⟨n,k1,k2,k3⟩:=m3 hm (by rw[c1];exact hlt)
    left
    rw[k3,Nat.zero_add]
    have:(vals s'.sl live).getD n .undef=s'.sl.getD i .undef:=by
     simp only[vals,List.getD,List.getElem?_map,k2];rfl
    rw[this,List.getElem?_eq_getElem (by omega)]
    simp [List.getD,show i<s'.sl.length by omega]
   ·left
    rw[List.getElem?_eq_none (by rw[m1,c1];omega),List.getElem?_eq_none (by omega)]
  ·rw[m2 hm]
   by_cases hd:i∈mods
   ·by_cases hlt:i<s.sl.length
    ·exact .inr (c4 hd hlt)
    ·left;rw[List.getElem?_eq_none (by rw[c1];omega),List.getElem?_eq_none (by omega)]
   ·left;rw[c3 hd,hf i hd]
 have hlen:(s.meet mods live (vals s'.sl live) s'.σ).sl.length=s'.sl.length:=by
  simp only[AS.meet]
  rw[(EY (vals s'.sl live) live 0 (qY s.sl mods) 0).1,(Ew mods s.sl 0).1];exact hl
 refine⟨by rw[h.len,hlen],by rw[hlen,h.mU],fun i av hi=>?_,fun i cs hi=>?_,(fun t p hp=>by cases hp),h.priv,h.inj,h.heap,h.defers,h.out,h.nm⟩
 ·rcases jd i with e|e
  ·rw[e]at hi;exact h.slot i av hi
  ·rw[e]at hi;injection hi with hi;subst hi;trivial
 ·rcases jd i with e|e
  ·rw[e]at hi;exact h.box i cs hi
  ·rw[e]at hi;cases hi
end
end
section
open Go.RowKit
section
variable {X : Fx} {z : Z}
theorem force_eq {R:Type}:∀(l:List U) (k:List U→Option R),force l k=k l
 |[],k=>rfl
 |x::l,k=>by simp only[force];rw[force_eq l]
theorem QW {R:Type} {q:Bool} {ops:Array Oper}:∀(l:List Oper) (s:AS) (k:AS→Option R),CP X q ops l s k=ou X q ops l s k
 |[],s,k=>rfl
 |o::l,s,k=>by
  simp only[CP,ou]
  congr 1;funext s
  rw[force_eq];exact QW l _ k
theorem Ov {α:Type} {c:U} {t e:Option α} {r:α} (h:A.cond c t e=some r):(c=.bool true∧t=some r)∨(c=.bool false∧e=some r):=by
 cases c<;>simp only[A.cond]at h<;>first|(cases h;done)|skip
 rename_i b
 cases b
 ·exact .inr ⟨rfl,h⟩
 ·exact .inl ⟨rfl,h⟩
theorem Yi {f:List U→Heap→Option (AX×List U×Heap)} {v:List U} {σ:Heap} {r:AX×List U×Heap} (h:A.loop f v σ=some r):∃n,A.iter f n v σ=some r:=by
 unfold A.loop at h
 split at h
 ·rename_i hx
  injection h with h
  exact⟨_,h▸Classical.choose_spec (Classical.choose_spec hx)⟩
 ·cases h
theorem Xg {R:Type} {f:List U→Heap→(AX×List U×Heap→Option R)→Option R} {v:List U} {σ:Heap} {K:AX×List U×Heap→Option R} {r:R} (h:A.Kv f v σ K=some r):∃n,A.Cs f n v σ K=some r:=by
 unfold A.Kv at h
 split at h
 ·rename_i hx
  injection h with h
  obtain⟨n,hn⟩:=Classical.choose_spec hx
  exact⟨n,h▸hn n (Nat.le_refl _)⟩
 ·cases h
theorem FB {R:Type} {e:AX} {k:AX→Option R} {r:R}:∀{xs:List AX},A.sel e k xs=some r→k e=some r
 |[],h=>by cases h
 |x::xs,h=>by
  simp only[A.sel]at h
  cases he:(e==x)
  ·rw[he]at h;exact FB h
  ·rw[he]at h
   have:e=x:=by simpa using he
   subst this;exact h
theorem Al {X:Fx} {c:Code} {ds:List Nat} {s s':AS} (h:Fr X ds s s'):∀i,i∉ds++X.L→s'.sl[i]? =s.sl[i]? :=fun i hi=>by
 rw[List.mem_append]at hi
 exact h i (fun e=>hi (.inl e)) (by
  cases hc:X.L.contains i
  ·rfl
  ·exact absurd (List.contains_iff_mem.1 hc) (fun e=>hi (.inr e)))
theorem vQ {X:Fx} {s:AS} {ds live:List Nat} {vs:List U} {σ:Heap} (hl:(live.all fun d=>(ds++X.L).contains d)=true):Fr X ds s (s.meet (ds++X.L) live vs σ):=fun i hi hL=>by
 have hni:i∉ds++X.L:=by
  rw[List.mem_append];rintro(e|e)
  ·exact hi e
  ·rw[List.contains_iff_mem.2 e]at hL;cases hL
 simp only[AS.meet]
 rw[(EY vs live 0 (qY s.sl (ds++X.L)) i).2.1 (fun e=>hni ?_),(Ew (ds++X.L) s.sl i).2.2.1 hni]
 exact List.contains_iff_mem.1 (List.all_eq_true.1 hl i e)
theorem ND {live:List Nat} {e:AX} {s:AS} {r:List U×Heap} (h:Gc live e s=some r):e=.normal∧r=(vals s.sl live,s.σ):=by
 cases e<;>simp only[Gc]at h<;>first|(cases h;done)|(injection h with h;exact⟨rfl,h.symm⟩)
theorem QF {P:Program} {c:Code} {Q:Exit→Act→World→Prop} (I:Nat→Act→World→Prop) (round:∀n a w,I n a w→c.wp P (Exit.then (fun a' w'=>∃m,m<n∧I m a' w') Q) a w) {n:Nat} {a:Act} {w:World} (h:I n a w):(Code.loop c).wp P Q a w:=by
 intro b k cs
 have key:∀n a w,I n a w→∃e a' w',Q e a' w'∧Arrives P (lone (b.at a (.code c::.inLoop c::k)) cs w) b k cs e a' w':=by
  intro n
  induction n using Nat.strongRecOn with
  |_ n ih=>
   intro a w hI
   obtain⟨e,a1,w1,hq,wQ⟩:=round n a w hI b (.inLoop c::k) cs
   cases e with
   |normal=>
    obtain⟨m,hlt,hm⟩:=hq
    obtain⟨e2,a2,w2,tM,ab4⟩:=ih m hlt a1 w1 hm
    exact⟨e2,a2,w2,tM,.of_steps (Steps.trans wQ (.one step_inLoop)) ab4⟩
   |exit id=>exact⟨_,a1,w1,hq,.pass (x:=.inLoop c) rfl (fun _ _=>.inl (by simp)) wQ⟩
   |goto l=>exact⟨_,a1,w1,hq,.pass (x:=.inLoop c) rfl (fun _ _=>.inl (by simp)) wQ⟩
   |ret=>exact⟨_,a1,w1,hq,.pass (x:=.inLoop c) rfl (fun _ _=>.inl (by simp)) wQ⟩
   |panic ch=>exact⟨_,a1,w1,hq,.pass (x:=.inLoop c) rfl (fun _ _=>.inl (by simp)) wQ⟩
   |outgrown=>exact⟨_,a1,w1,hq,.pass (x:=.inLoop c) rfl (fun _ _=>.inl (by simp)) wQ⟩
 obtain⟨e,a',w',hq,wQ⟩:=key n a w h
 exact⟨e,a',w',hq,.of_steps (.one step_loop) wQ⟩
theorem sP (hs:cD X):∀(c:Code) {R:Type} (bF:jM) (s:AS) (a:Act) (w:World) (E:List Pl) (pb:Nat→Option Nat) (k:AX→AS→Option R) (r:R) (Q:Exit→Act→World→Prop),exec X bF c s k=some r→St X z s a w E pb→
  (∀e s' a' w' E' bz,St X z s' a' w' E' bz→Fr X (cQ c) s s'→k e s'=some r→Q e.to a' w')→c.wp X.P Q a w
 |.skip,R,bF,s,a,w,E,pb,k,r,Q,hk,h,hQ=>by
  have hk':k .normal s=some r:=by cases bF<;>simpa [exec]using hk
  exact wp_skip (hQ .normal s a w E pb h (Fr.refl _ _) hk')
 |.label l,R,bF,s,a,w,E,pb,k,r,Q,hk,h,hQ=>by
  have hk':k .normal s=some r:=by cases bF<;>simpa [exec]using hk
  exact wp_label (hQ .normal s a w E pb h (Fr.refl _ _) hk')
 |.exit id,R,bF,s,a,w,E,pb,k,r,Q,hk,h,hQ=>by
  have hk':k (.exit id) s=some r:=by cases bF<;>simpa [exec]using hk
  exact wp_exit (hQ (.exit id) s a w E pb h (Fr.refl _ _) hk')
 |.ret,R,bF,s,a,w,E,pb,k,r,Q,hk,h,hQ=>by
  have hk':k .ret s=some r:=by cases bF<;>simpa [exec]using hk
  exact wp_ret (hQ .ret s a w E pb h (Fr.refl _ _) hk')
 |.region id ops draw,R,bF,s,a,w,E,pb,k,r,Q,hk,h,hQ=>by
  have hk':(bif draw then(bif B1 X ops s.sl then ou X true ops ops.toList ⟨s.sl,fun _=>none,s.σ⟩ fun s=>k .normal ⟨s.sl,fun _=>none,s.σ⟩else none)else ou X false ops ops.toList s fun s=>k .normal ⟨s.sl,fun _=>none,s.σ⟩)=some r:=by
   cases bF<;>simpa [exec,force_eq,QW]using hk
  cases draw
  ·simp only[cond_false]at hk'
   refine wp_region ?_
   have:=QV (z:=z) (Q:=Q) (s0:=s) hs ops.toList 0 s a w E pb (fun j=>by simp) h hk' (fun s' a' w' E' bz h' hf hk2=>hQ .normal _ a' w' E' bz h'.Mg (fun i hi hL=>hf i (by simpa [cQ]using hi) hL) hk2)
   rw[List.range_eq_range']
   simpa using this
  ·simp only[cond_true]at hk'
   cases hok:B1 X ops s.sl
   ·rw[hok]at hk';cases hk'
   ·rw[hok]at hk'
    simp only[cond_true]at hk'
    exact Z3 (s:=⟨s.sl,fun _=>none,s.σ⟩) hs hok (fun _=>rfl) (fun s' a' w' E' bz h' hf hk2=>hQ .normal _ a' w' E' bz h'.Mg (fun i hi hL=>hf i (by simpa [cQ]using hi) hL) hk2) h.Mg hk'
 |.seq x y,R,bF,s,a,w,E,pb,k,r,Q,hk,h,hQ=>by
  cases bF<;>simp only[exec]at hk<;>first|(cases hk;done)|skip
  rename_i aa bb
  refine wp_seq (sP hs x aa s a w E pb _ r _ hk h fun e s' a' w' E' bz h' hf hk'=>?_)
  cases e with
  |normal=>exact sP hs y bb s' a' w' E' bz k r Q hk' h' fun e2 s2 a2 w2 E2 Mk h2 vc hk2=>hQ e2 s2 a2 w2 E2 Mk h2 (by simpa [cQ]using hf.trans vc) hk2
  |exit i=>exact hQ (.exit i) s' a' w' E' bz h' (hf.mono fun i hi=>by simp [cQ,hi]) hk'
  |ret=>exact hQ .ret s' a' w' E' bz h' (hf.mono fun i hi=>by simp [cQ,hi]) hk'
 |.cond c x y,R,bF,s,a,w,E,pb,k,r,Q,hk,h,hQ=>by
  have rc:=cO h c
  cases bF<;>simp only[exec,force_eq]at hk<;>first|(cases hk;done)|skip
  case c live aa bb=>
   cases hl:(live.all fun d=>(cQ x++cQ y++X.L).contains d)
   ·rw[hl]at hk;cases hk
   ·rw[hl]at hk
    simp only[Bool.not_true,cond_false]at hk
    obtain⟨⟨vs,σ'⟩,h1,h2⟩:=Option.bind_eq_some_iff.1 hk
    rcases Ov h1 with⟨ec,hb⟩|⟨ec,hb⟩
    ·rw[ec]at rc;simp only[ah]at rc
     refine wp_cond_true rc (sP hs x aa s a w E pb _ _ Q hb h fun e s' a' w' E' bz h' hf hk'=>?_)
     obtain⟨rfl,hv⟩:=ND hk'
     simp only[Prod.mk.injEq]at hv
     obtain⟨rfl,rfl⟩:=hv
     have vc:Fr X (cQ x++cQ y) s s':=hf.mono fun i hi=>by simp [hi]
     exact hQ .normal _ a' w' E' bz (h'.meet (by rw[h.mU,h'.mU]) (Al (c:=x) vc)) (by simpa [cQ]using vQ (X:=X) hl) h2
    ·rw[ec]at rc;simp only[ah]at rc
     refine wp_cond_false rc (sP hs y bb s a w E pb _ _ Q hb h fun e s' a' w' E' bz h' hf hk'=>?_)
     obtain⟨rfl,hv⟩:=ND hk'
     simp only[Prod.mk.injEq]at hv
     obtain⟨rfl,rfl⟩:=hv
     have vc:Fr X (cQ x++cQ y) s s':=hf.mono fun i hi=>by simp [hi]
     exact hQ .normal _ a' w' E' bz (h'.meet (by rw[h.mU,h'.mU]) (Al (c:=x) vc)) (by simpa [cQ]using vQ (X:=X) hl) h2
  case j aa bb=>
   rcases Ov hk with⟨ec,hb⟩|⟨ec,hb⟩
   ·rw[ec]at rc;simp only[ah]at rc
    exact wp_cond_true rc (sP hs x aa s a w E pb k r Q hb h fun e s' a' w' E' bz h' hf hk'=>hQ e s' a' w' E' bz h' (hf.mono fun i hi=>by simp [cQ,hi]) hk')
   ·rw[ec]at rc;simp only[ah]at rc
    exact wp_cond_false rc (sP hs y bb s a w E pb k r Q hb h fun e s' a' w' E' bz h' hf hk'=>hQ e s' a' w' E' bz h' (hf.mono fun i hi=>by simp [cQ,hi]) hk')
 |.block id c,R,bF,s,a,w,E,pb,k,r,Q,hk,h,hQ=>by
  cases bF<;>simp only[exec]at hk<;>first|(cases hk;done)|skip
  rename_i aa
  refine wp_block (sP hs c aa s a w E pb _ r _ hk h fun e s' a' w' E' bz h' hf hk'=>?_)
  cases e with
  |normal=>exact hQ .normal s' a' w' E' bz h' (by simpa [cQ]using hf) hk'
  |ret=>exact hQ .ret s' a' w' E' bz h' (by simpa [cQ]using hf) hk'
  |exit i=>
   simp only[AX.to,Exit.inBlock]
   simp only at hk'
   by_cases e:i=id
   ·have:(i==id)=true:=by simpa using e
    rw[this]at hk'
    rw[if_pos e]
    exact hQ .normal s' a' w' E' bz h' (by simpa [cQ]using hf) hk'
   ·have:(i==id)=false:=by simpa using e
    rw[this]at hk'
    rw[if_neg e]
    exact hQ (.exit i) s' a' w' E' bz h' (by simpa [cQ]using hf) hk'
 |.loop c,R,bF,s,a,w,E,pb,k,r,Q,hk,h,hQ=>by
  cases bF<;>simp only[exec,force_eq]at hk<;>first|(cases hk;done)|skip
  case lc live xs aa=>
   cases hl:(live.all fun d=>(cQ c++X.L).contains d)
   ·rw[hl]at hk;cases hk
   ·rw[hl]at hk
    simp only[Bool.not_true,cond_false]at hk
    obtain⟨n,hn⟩:=Xg hk
    refine QF (fun n a w=>∃vs σ E pb,A.Cs (fun vs σ K=>exec X aa c (s.meet (cQ c++X.L) live vs σ) fun e s'=>K (e,vals s'.sl live,s'.σ)) n vs σ (fun r=>A.sel r.1 (fun e=>k e (s.meet (cQ c++X.L) live r.2.1 r.2.2)) xs)=some r∧St X z (s.meet (cQ c++X.L) live vs σ) a w E pb) ?_ (n:=n) ⟨_,_,E,pb,hn,h.meet rfl (fun i _=>rfl)⟩
    rintro n a w ⟨vs,σ,E,pb,hit,hst⟩
    cases n with
    |zero=>cases hit
    |succ n=>
     simp only[A.Cs]at hit
     refine sP hs c aa _ a w E pb _ _ _ hit hst fun e s' a' w' E' bz h' hf hk'=>?_
     have hfr:∀i,i∉cQ c++X.L→s'.sl[i]? =s.sl[i]? :=fun i hi=>by
      rw[Al (c:=c) hf i hi]
      exact Al (c:=c) (vQ (X:=X) (s:=s) (vs:=vs) (σ:=σ) hl) i hi
     have yF:=h'.meet (s:=s) (mods:=cQ c++X.L) (live:=live) (by rw[h.mU,h'.mU]) hfr
     cases e with
     |normal=>exact⟨n,Nat.lt_succ_self n,_,_,E',bz,hk',yF⟩
     |exit i=>exact hQ (.exit i) _ a' w' E' bz yF (by simpa [cQ]using vQ (X:=X) hl) (FB hk')
     |ret=>exact hQ .ret _ a' w' E' bz yF (by simpa [cQ]using vQ (X:=X) hl) (FB hk')
  rename_i live xs aa
  cases hl:(live.all fun d=>(cQ c++X.L).contains d)
  ·rw[hl]at hk;cases hk
  ·rw[hl]at hk
   simp only[Bool.not_true,cond_false]at hk
   obtain⟨⟨e0,xx,au⟩,h1,h2⟩:=Option.bind_eq_some_iff.1 hk
   have hsel:=FB h2
   obtain⟨n,hn⟩:=Yi h1
   refine QF (fun n a w=>∃vs σ E pb,A.iter (fun vs σ=>exec X aa c (s.meet (cQ c++X.L) live vs σ) (leave live)) n vs σ=some (e0,xx,au)∧St X z (s.meet (cQ c++X.L) live vs σ) a w E pb) ?_ (n:=n) ⟨_,_,E,pb,hn,h.meet rfl (fun i _=>rfl)⟩
   rintro n a w ⟨vs,σ,E,pb,hit,hst⟩
   cases n with
   |zero=>cases hit
   |succ n=>
    simp only[A.iter]at hit
    obtain⟨⟨e1,vs1,σ1⟩,g1,g2⟩:=Option.bind_eq_some_iff.1 hit
    refine sP hs c aa _ a w E pb _ _ _ g1 hst fun e s' a' w' E' bz h' hf hk'=>?_
    simp only[leave,Option.some.injEq,Prod.mk.injEq]at hk'
    obtain⟨rfl,rfl,rfl⟩:=hk'
    have hfr:∀i,i∉cQ c++X.L→s'.sl[i]? =s.sl[i]? :=fun i hi=>by
     rw[Al (c:=c) hf i hi]
     exact Al (c:=c) (vQ (X:=X) (s:=s) (vs:=vs) (σ:=σ) hl) i hi
    have yF:=h'.meet (s:=s) (mods:=cQ c++X.L) (live:=live) (by rw[h.mU,h'.mU]) hfr
    cases e with
    |normal=>exact⟨n,Nat.lt_succ_self n,_,_,E',bz,g2,yF⟩
    |exit i=>
     simp only[Option.some.injEq,Prod.mk.injEq]at g2
     obtain⟨rfl,rfl,rfl⟩:=g2
     exact hQ (.exit i) _ a' w' E' bz yF (by simpa [cQ]using vQ (X:=X) hl) hsel
    |ret=>
     simp only[Option.some.injEq,Prod.mk.injEq]at g2
     obtain⟨rfl,rfl,rfl⟩:=g2
     exact hQ .ret _ a' w' E' bz yF (by simpa [cQ]using vQ (X:=X) hl) hsel
 |.rangeFunc ..,R,bF,s,a,w,E,pb,k,r,Q,hk,h,hQ=>by cases bF<;>simp [exec]at hk
 |.scope _,R,bF,s,a,w,E,pb,k,r,Q,hk,h,hQ=>by cases bF<;>simp [exec]at hk
 |.goto _,R,bF,s,a,w,E,pb,k,r,Q,hk,h,hQ=>by cases bF<;>simp [exec]at hk
 |.refuse _,R,bF,s,a,w,E,pb,k,r,Q,hk,h,hQ=>by cases bF<;>simp [exec]at hk
end
end
section
open Go.RowKit
section
variable {X : Fx} {z : Z} {s : AS} {a : Act} {w w' : World} {E : List Pl} {pb : Nat → Option Nat}
def uP (tmps:Array Value):ResultVar→Sem Value
 |.tmp t=>pure (tmps.getD t undef)
 |.cell a t=>do loadVar t (←asAddr (tmps.getD a undef))
theorem Ju (h:St X z s a w E pb) {R:Type}:∀(rs:List ResultVar) (k:List U→Option R) (r:R),uO X s rs k=some r→∃vs kC,(rs.mapM (uP a.tmps)).run X.P w=.ok vs w∧aC (ctx z w E pb) kC vs∧k kC=some r
 |[],k,r,hk=>⟨[],[],by simp,by simp [aC],hk⟩
 |.tmp t::rs,k,r,hk=>by
  simp only[uO]at hk
  obtain⟨vs,kC,h1,h2,h3⟩:=Ju h rs _ r hk
  refine⟨a.tmps.getD t undef::vs,ev X s (.tmp t)::kC,?_,by simp only[aC];exact⟨_,_,rfl,cO h (.tmp t),h2⟩,h3⟩
  simp only[List.mapM_cons,Sem.run_bind,uP,Sem.run_pure,Result.andThen_ok,h1]
 |.cell q t::rs,k,r,hk=>by
  simp only[uO]at hk
  have fin:∀(v:Value) (av:U),(uP a.tmps (.cell q t)).run X.P w=.ok v w→ah (ctx z w E pb) av v→uO X s rs (fun vs=>k (av::vs))=some r→∃vs kC,((ResultVar.cell q t::rs).mapM (uP a.tmps)).run X.P w=.ok vs w∧aC (ctx z w E pb) kC vs∧k kC=some r:=by
   intro v av hv hr hk
   obtain⟨vs,kC,h1,h2,h3⟩:=Ju h rs _ r hk
   refine⟨v::vs,av::kC,?_,by simp only[aC];exact⟨_,_,rfl,hr,h2⟩,h3⟩
   simp only[List.mapM_cons,Sem.run_bind,hv,Sem.run_pure,Result.andThen_ok,h1]
  split at hk
  ·rename_i b off hp
   obtain⟨av,e1,e2⟩:=Option.bind_eq_some_iff.1 hk
   obtain⟨cs,e3,e4⟩:=Option.bind_eq_some_iff.1 e1
   obtain⟨n,k1,k2,k3,k4⟩:=Aa h (tag:=none) trivial hp e3
   obtain⟨v,j1,j2⟩:=ET (c:=ctx z w E pb) w X rfl k3.2 e4
   rw[Nat.zero_add]at j1
   simp only[Act.eval]at k2
   exact fin v av (by simp [uP,k2,asAddr,j1]) j2 e2
  ·obtain⟨av,e1,e2⟩:=Option.bind_eq_some_iff.1 hk
   obtain⟨cs,e3,e4⟩:=Option.bind_eq_some_iff.1 e1
   obtain⟨b,off,k2,k3⟩:=Ox h.heap e3 (cO h (.tmp q))
   obtain⟨v,j1,j2⟩:=ET (c:=ctx z w E pb) w X rfl k3 e4
   rw[Nat.add_zero]at j1
   simp only[Act.eval]at k2
   exact fin v av (by simp [uP,k2,asAddr,j1]) j2 e2
theorem WN {P:Program} {fn:Func} {tmps:Array Value} {vs:List Value} (h:(fn.results.toList.mapM (uP tmps)).run P w=.ok vs w):∃v,(results fn tmps).run P w=.ok v w∧∀(c:RC) (kC:List U),aC c kC vs→ah c (one kC) v:=by
 have e:results fn tmps=(do let vs ←fn.results.mapM (uP tmps);pure (if h:vs.size=1 then vs[0]else .tuple vs)):=by
  unfold results
  congr 1
 have hm:(fn.results.mapM (uP tmps)).run P w=.ok vs.toArray w:=by
  rw[Array.mapM_eq_mapM_toList,Sem.run_map,h];rfl
 have hrun:(results fn tmps).run P w=.ok (if h:vs.toArray.size=1 then vs.toArray[0]else .tuple vs.toArray) w:=by
  rw[e,Sem.run_bind,hm];rfl
 refine⟨_,hrun,fun c kC r=>?_⟩
 match kC,vs,r with
 |[x],[v],r=>simp only[aC]at r;obtain⟨v',_,e',r1,rfl⟩:=r;injection e' with e1 _;subst e1;simpa [one]using r1
 |[],[],r=>simp only[one,ah];exact⟨#[],by simp,by simp [aC]⟩
 |x::y::xs,v::u::us,r=>simp only[one,ah];exact⟨(v::u::us).toArray,by simp,by simpa using r⟩
 |[_],_::_::_,r=>exact absurd r.length (by simp)
 |_::_::_,[_],r=>exact absurd r.length (by simp)
 |[],_::_,r=>exact absurd r.length (by simp)
 |_::_,[],r=>exact absurd r.length (by simp)
end
section
variable {c c' : RC} {σ : Heap} {n : Nat}
structure uE (c c' : RC) (σ : Heap) (n : Nat) : Prop where
 w:c'.w=c.w
 nm:c'.nm=c.nm
 X:∀b,c'.X b→c.X b
 E:∀(id:Nat) (p:Pl),id<n→c.E[id]? =some p→c'.E[id]? =some p
 heap:fq c σ
 Gx:∀(id:Nat) (p:Pl),n≤id→c.E[id]? =some p→¬c'.X p.b
theorem PE (d:Nat):∀(l l':List U),A.dm σ n d l=some l'→l'.length=l.length
 |[],l',e=>by simp only[A.dm]at e;injection e with e;subst e;rfl
 |x::l,l',e=>by
  simp only[A.dm]at e
  obtain⟨y,h1,h2⟩:=Option.bind_eq_some_iff.1 e
  obtain⟨l2,h3,rfl⟩:=Option.map_eq_some_iff.1 h2
  simp [PE d l l2 h3]
theorem IX (d:Nat):∀(l l':List (List U)),A.iI σ n d l=some l'→l'.length=l.length
 |[],l',e=>by simp only[A.iI]at e;injection e with e;subst e;rfl
 |x::l,l',e=>by
  simp only[A.iI]at e
  obtain⟨y,h1,h2⟩:=Option.bind_eq_some_iff.1 e
  obtain⟨l2,h3,rfl⟩:=Option.map_eq_some_iff.1 h2
  simp [IX d l l2 h3]
theorem xU (d:Nat):∀(l:List (List U)),A.Ci σ n d l=A.iI σ n d l
 |[]=>by simp [A.iI,A.Ci]
 |x::l=>by simp [A.iI,A.Ci,xU d l]
def AG:U→Bool
 |.os ..=>true
 |.op ..=>true
 |.oe ..=>true
 |.om ..=>true
 |_=>false
theorem Am (d:Nat):∀(l:List U),A.oc σ n d l=A.dm σ n d l
 |[]=>by simp [A.dm,A.oc]
 |x::l=>by simp [A.dm,A.oc,Am d l]
theorem JM (d:Nat):∀(l:List (U×U)),A.pq σ n d l=A.tv σ n d l
 |[]=>by simp [A.tv,A.pq]
 |(k,v)::l=>by simp [A.tv,A.pq,JM d l]
mutual
theorem An (h:uE c c' σ n) (d:Nat) (hos:∀av bR v,AG av=true→A.bn σ n d av=some bR→ah c av v→ah c' bR v):∀(av bR:U) (v:Value),A.bn σ n d av=some bR→ah c av v→ah c' bR v
 |.undef,bR,v,e,r=>by cases d<;>simp [A.bn]at e
 |.int k m,bR,v,e,r=>by
  have:bR=.int k m:=by cases d<;>simpa [A.bn]using e.symm
  subst this;simpa [ah]using r
 |.bool b,bR,v,e,r=>by
  have:bR=.bool b:=by cases d<;>simpa [A.bn]using e.symm
  subst this;simpa [ah]using r
 |.str s,bR,v,e,r=>by
  have:bR=.str s:=by cases d<;>simpa [A.bn]using e.symm
  subst this;simpa [ah]using r
 |.aB,bR,v,e,r=>by
  have:bR=.aB:=by cases d<;>simpa [A.bn]using e.symm
  subst this;simpa [ah]using r
 |.ez,bR,v,e,r=>by
  have:bR=.ez:=by cases d<;>simpa [A.bn]using e.symm
  subst this;simpa [ah]using r
 |.np,bR,v,e,r=>by
  have:bR=.np:=by cases d<;>simpa [A.bn]using e.symm
  subst this;simpa [ah]using r
 |.nm,bR,v,e,r=>by
  have:bR=.nm:=by cases d<;>simpa [A.bn]using e.symm
  subst this;simpa [ah]using r
 |.tO,bR,v,e,r=>by
  have:bR=.tO:=by cases d<;>simpa [A.bn]using e.symm
  subst this;simpa [ah]using r
 |.agg cs,bR,v,e,r=>by
  have e':(A.dm σ n d cs).map .agg=some bR:=by cases d<;>simpa [A.bn]using e
  obtain⟨cs',h1,rfl⟩:=Option.map_eq_some_iff.1 e'
  simp only[ah]at r ⊢
  obtain⟨vs,e,r1,r2⟩:=r
  exact⟨vs,e,Ab h d hos cs cs' _ h1 r1,r2⟩
 |.aA cs,bR,v,e,r=>by
  have e':(A.dm σ n d cs).map .aA=some bR:=by cases d<;>simpa [A.bn]using e
  obtain⟨cs',h1,rfl⟩:=Option.map_eq_some_iff.1 e'
  simp only[ah]at r ⊢
  obtain⟨vs,e,r1⟩:=r
  exact⟨vs,e,Ab h d hos cs cs' _ h1 r1⟩
 |.sl sz es,bR,v,e,r=>by
  have e':(A.iI σ n d es).map (.sl sz)=some bR:=by cases d<;>simpa [A.bn]using e
  obtain⟨es',h1,rfl⟩:=Option.map_eq_some_iff.1 e'
  simp only[ah]at r ⊢
  obtain⟨q,cap,e,k1,k2,r⟩:=r
  have hl:es'.length=es.length:=IX d es es' h1
  refine⟨q,cap,by rw[hl];exact e,by rw[hl];exact k1,k2,?_⟩
  rcases r with r|⟨b,off,e2,hb,hx,r⟩
  ·left;subst r;simpa using hl
  ·right;exact⟨b,off,e2,by rw[h.w];exact hb,fun k=>hx (h.X b k),Jk h d hos sz b es es' off h1 r⟩
 |.rp cs,bR,v,e,r=>by
  have e':(A.dm σ n d cs).map .rp=some bR:=by cases d<;>simpa [A.bn]using e
  obtain⟨cs',h1,rfl⟩:=Option.map_eq_some_iff.1 e'
  simp only[ah]at r ⊢
  obtain⟨b,off,e2,hb,hx,r⟩:=r
  exact⟨b,off,e2,by rw[h.w];exact hb,fun k=>hx (h.X b k),BV h d hos b cs cs' off h1 r⟩
 |.fm es,bR,v,e,r=>by
  have e':(A.tv σ n d es).map .fm=some bR:=by cases d<;>simpa [A.bn]using e
  obtain⟨es',h1,rfl⟩:=Option.map_eq_some_iff.1 e'
  simp only[ah]at r ⊢
  obtain⟨b,e2,hb,hx,aW,clock,k1,kw,k2⟩:=r
  exact⟨b,e2,by rw[h.w];exact hb,fun k=>hx (h.X b k),aW,clock,by rw[h.w];exact k1,kw,Jl h d hos es es' _ h1 k2⟩
 |.op id off,bR,v,e,r=>hos _ bR v rfl e r
 |.oe id g i off,bR,v,e,r=>hos _ bR v rfl e r
 |.om id,bR,v,e,r=>hos _ bR v rfl e r
 |.fn f cs,bR,v,e,r=>by
  have e':(A.dm σ n d cs).map (.fn f)=some bR:=by cases d<;>simpa [A.bn]using e
  obtain⟨cs',h1,rfl⟩:=Option.map_eq_some_iff.1 e'
  simp only[ah]at r ⊢
  obtain⟨g,vs,e,k,r1⟩:=r
  exact⟨g,vs,e,by rw[h.nm];exact k,Ab h d hos cs cs' _ h1 r1⟩
 |.lbx cs,bR,v,e,r=>by cases d<;>simp [A.bn]at e
 |.os id g sz off len,bR,v,e,r=>hos _ bR v rfl e r
theorem Ab (h:uE c c' σ n) (d:Nat) (hos:∀av bR v,AG av=true→A.bn σ n d av=some bR→ah c av v→ah c' bR v):∀(l l':List U) (vs:List Value),A.dm σ n d l=some l'→aC c l vs→aC c' l' vs
 |[],l',vs,e,r=>by simp only[A.dm]at e;injection e with e;subst e;simpa [aC]using r
 |x::l,l',vs,e,r=>by
  simp only[A.dm]at e
  obtain⟨y,h1,h2⟩:=Option.bind_eq_some_iff.1 e
  obtain⟨l2,h3,rfl⟩:=Option.map_eq_some_iff.1 h2
  simp only[aC]at r ⊢
  obtain⟨v,vs',e,r1,r2⟩:=r
  exact⟨v,vs',e,An h d hos x y v h1 r1,Ab h d hos l l2 vs' h3 r2⟩
theorem Jl (h:uE c c' σ n) (d:Nat) (hos:∀av bR v,AG av=true→A.bn σ n d av=some bR→ah c av v→ah c' bR v):∀(l l':List (U×U)) (es:List MapEntry),A.tv σ n d l=some l'→bQ c l es→bQ c' l' es
 |[],l',es,e,r=>by simp only[A.tv]at e;injection e with e;subst e;simpa [bQ]using r
 |(k,v)::l,l',es,e,r=>by
  simp only[A.tv]at e
  obtain⟨k',h1,h2⟩:=Option.bind_eq_some_iff.1 e
  obtain⟨v',h3,h4⟩:=Option.bind_eq_some_iff.1 h2
  obtain⟨l2,h5,rfl⟩:=Option.map_eq_some_iff.1 h4
  simp only[bQ]at r ⊢
  obtain⟨x,es',e,r1,r2,r3⟩:=r
  exact⟨x,es',e,An h d hos k k' _ h1 r1,An h d hos v v' _ h3 r2,Jl h d hos l l2 es' h5 r3⟩
theorem BV (h:uE c c' σ n) (d:Nat) (hos:∀av bR v,AG av=true→A.bn σ n d av=some bR→ah c av v→ah c' bR v) (b:Nat):∀(l l':List U) (off:Nat),A.dm σ n d l=some l'→aX c b off l→aX c' b off l'
 |[],l',off,e,r=>by simp only[A.dm]at e;injection e with e;subst e;simp [aX]
 |x::l,l',off,e,r=>by
  simp only[A.dm]at e
  obtain⟨y,h1,h2⟩:=Option.bind_eq_some_iff.1 e
  obtain⟨l2,h3,rfl⟩:=Option.map_eq_some_iff.1 h2
  simp only[aX]at r ⊢
  obtain⟨⟨v,e1,e2,r1⟩,r2⟩:=r
  exact⟨⟨v,by rw[h.w];exact e1,e2,An h d hos x y v h1 r1⟩,BV h d hos b l l2 (off+1) h3 r2⟩
theorem Jk (h:uE c c' σ n) (d:Nat) (hos:∀av bR v,AG av=true→A.bn σ n d av=some bR→ah c av v→ah c' bR v) (sz b:Nat):∀(l l':List (List U)) (off:Nat),A.iI σ n d l=some l'→bg c sz b off l→bg c' sz b off l'
 |[],l',off,e,r=>by simp only[A.iI]at e;injection e with e;subst e;simp [bg]
 |x::l,l',off,e,r=>by
  simp only[A.iI]at e
  obtain⟨y,h1,h2⟩:=Option.bind_eq_some_iff.1 e
  obtain⟨l2,h3,rfl⟩:=Option.map_eq_some_iff.1 h2
  simp only[bg]at r ⊢
  exact⟨by rw[PE d x y h1];exact r.1,BV h d hos b x y off h1 r.2.1,Jk h d hos sz b l l2 (off+sz) h3 r.2.2⟩
end
structure tI (c0 c c' : RC) : Prop where
 w:c'.w=c.w
 nm:c'.nm=c.nm
 X:∀b,c'.X b→c.X b
 E:∀(id:Nat) (p0 p:Pl),c0.E[id]? =some p0→c.E[id]? =some p→c'.E[id]? =some p
mutual
theorem Aj {c0 c c':RC} (h:tI c0 c c'):∀(av:U) (v0 v:Value),ah c0 av v0→ah c av v→ah c' av v
 |.undef,v0,v,r0,r=>by simp [ah]
 |.int k m,v0,v,r0,r=>by simpa [ah]using r
 |.bool b,v0,v,r0,r=>by simpa [ah]using r
 |.str s,v0,v,r0,r=>by simpa [ah]using r
 |.aB,v0,v,r0,r=>by simpa [ah]using r
 |.ez,v0,v,r0,r=>by simpa [ah]using r
 |.np,v0,v,r0,r=>by simpa [ah]using r
 |.nm,v0,v,r0,r=>by simpa [ah]using r
 |.fm es,v0,v,r0,r=>by
  simp only[ah]at r0 r ⊢
  obtain⟨_,_,_,_,_,_,_,_,r0⟩:=r0
  obtain⟨b,e,hb,hx,aW,clock,k1,kw,k2⟩:=r
  exact⟨b,e,by rw[h.w];exact hb,fun k=>hx (h.X b k),aW,clock,by rw[h.w];exact k1,kw,Fk h es _ _ r0 k2⟩
 |.tO,v0,v,r0,r=>by simpa [ah]using r
 |.agg cs,v0,v,r0,r=>by
  simp only[ah]at r0 r ⊢
  obtain⟨xx,_,zi,_⟩:=r0
  obtain⟨vs,e,r1,r2⟩:=r
  exact⟨vs,e,Fj h cs _ _ zi r1,r2⟩
 |.aA cs,v0,v,r0,r=>by
  simp only[ah]at r0 r ⊢
  obtain⟨xx,_,zi⟩:=r0
  obtain⟨vs,e,r1⟩:=r
  exact⟨vs,e,Fj h cs _ _ zi r1⟩
 |.sl sz es,v0,v,r0,r=>by
  simp only[ah]at r0 r ⊢
  obtain⟨_,_,_,_,_,r0⟩:=r0
  obtain⟨q,cap,e,k1,k2,r⟩:=r
  refine⟨q,cap,e,k1,k2,?_⟩
  rcases r with r|⟨b,off,e2,hb,hx,r⟩
  ·exact .inl r
  ·rcases r0 with r0|⟨b0,lN,_,_,_,r0⟩
   ·exact .inl r0
   ·exact .inr ⟨b,off,e2,by rw[h.w];exact hb,fun k=>hx (h.X b k),Fi h sz b0 b es lN off r0 r⟩
 |.rp cs,v0,v,r0,r=>by
  simp only[ah]at r0 r ⊢
  obtain⟨b0,lN,_,_,_,r0⟩:=r0
  obtain⟨b,off,e2,hb,hx,r⟩:=r
  exact⟨b,off,e2,by rw[h.w];exact hb,fun k=>hx (h.X b k),BS h b0 b cs lN off r0 r⟩
 |.op id off,v0,v,r0,r=>by
  simp only[ah]at r0 r ⊢
  obtain⟨p0,e0,_⟩:=r0
  obtain⟨p,e1,e2,e3⟩:=r
  exact⟨p,h.E id p0 p e0 e1,e2,e3⟩
 |.oe id g i off,v0,v,r0,r=>by
  simp only[ah]at r0 r ⊢
  obtain⟨_,p0,e0,_⟩:=r0
  obtain⟨hg,p,e1,e2⟩:=r
  exact⟨hg,p,h.E id p0 p e0 e1,e2⟩
 |.os id g sz off len,v0,v,r0,r=>by
  simp only[ah]at r0 r ⊢
  obtain⟨_,p0,e0,_⟩:=r0
  obtain⟨hg,p,e1,e2⟩:=r
  exact⟨hg,p,h.E id p0 p e0 e1,e2⟩
 |.om id,v0,v,r0,r=>by
  simp only[ah]at r0 r ⊢
  obtain⟨p0,e0,_⟩:=r0
  obtain⟨p,e1,e2,e3⟩:=r
  exact⟨p,h.E id p0 p e0 e1,e2,e3⟩
 |.fn f cs,v0,v,r0,r=>by
  simp only[ah]at r0 r ⊢
  obtain⟨_,_,_,_,r0⟩:=r0
  obtain⟨g,vs,e1,e2,r⟩:=r
  exact⟨g,vs,e1,by rw[h.nm];exact e2,Fj h cs _ _ r0 r⟩
 |.lbx cs,v0,v,r0,r=>by simp [ah]at r
theorem Fj {c0 c c':RC} (h:tI c0 c c'):∀(l:List U) (xx vs:List Value),aC c0 l xx→aC c l vs→aC c' l vs
 |[],xx,vs,r0,r=>by simpa [aC]using r
 |x::l,xx,vs,r0,r=>by
  simp only[aC]at r0 r ⊢
  obtain⟨v0,us0,_,zi,Ml⟩:=r0
  obtain⟨v,us,e,r1,r2⟩:=r
  exact⟨v,us,e,Aj h x _ _ zi r1,Fj h l _ _ Ml r2⟩
theorem Fk {c0 c c':RC} (h:tI c0 c c'):∀(l:List (U×U)) (mA es:List MapEntry),bQ c0 l mA→bQ c l es→bQ c' l es
 |[],mA,es,r0,r=>by simpa [bQ]using r
 |(k,v)::l,mA,es,r0,r=>by
  simp only[bQ]at r0 r ⊢
  obtain⟨e0,ac5,_,k1,k2,k3⟩:=r0
  obtain⟨e,es',e1,j1,j2,j3⟩:=r
  exact⟨e,es',e1,Aj h k _ _ k1 j1,Aj h v _ _ k2 j2,Fk h l ac5 es' k3 j3⟩
theorem BS {c0 c c':RC} (h:tI c0 c c') (b0 b:Nat):∀(l:List U) (lN off:Nat),aX c0 b0 lN l→aX c b off l→aX c' b off l
 |[],lN,off,r0,r=>by simp [aX]
 |x::l,lN,off,r0,r=>by
  simp only[aX]at r0 r ⊢
  obtain⟨⟨v0,_,_,zi⟩,Ml⟩:=r0
  obtain⟨⟨v,e1,e2,r1⟩,r2⟩:=r
  exact⟨⟨v,by rw[h.w];exact e1,e2,Aj h x _ _ zi r1⟩,BS h b0 b l _ _ Ml r2⟩
theorem Fi {c0 c c':RC} (h:tI c0 c c') (sz b0 b:Nat):∀(l:List (List U)) (lN off:Nat),bg c0 sz b0 lN l→bg c sz b off l→bg c' sz b off l
 |[],lN,off,r0,r=>by simp [bg]
 |x::l,lN,off,r0,r=>by
  simp only[bg]at r0 r ⊢
  exact⟨r.1,BS h b0 b x _ _ r0.2.1 r.2.1,Fi h sz b0 b l _ _ r0.2.2 r.2.2⟩
end
theorem Jg {c0 c c':RC} (h:tI c0 c c') {p0 p:Pl} {x:aO} (k0:nF c0 p0 x) (k:nF c p x):nF c' p x:=by
 cases x with
 |box cs=>
  obtain⟨h1,⟨⟨arr,t,h2,h3⟩,h4⟩⟩:=k
  exact⟨h1,⟨arr,t,by rw[h.w];exact h2,h3⟩,BS h _ _ cs _ _ k0.2.2 h4⟩
 |arr g sz es=>
  obtain⟨h1,h2,h3,h4,⟨arr,t,h5,h6⟩,h7,h8,h9⟩:=k
  obtain⟨_,_,_,_,_,_,k8,_⟩:=k0
  exact⟨h1,h2,h3,h4,⟨arr,t,by rw[h.w];exact h5,h6⟩,h7,Fi h sz _ _ es _ _ k8 h8,fun arr t fz e=>h9 arr t fz (by rw[←h.w];exact e)⟩
 |mT g sz es=>
  obtain⟨h1,h2,h3,h4,⟨arr,t,h5,h6⟩,h7,h8,h9⟩:=k
  obtain⟨_,_,_,_,_,_,k8,_⟩:=k0
  exact⟨h1,h2,h3,h4,⟨arr,t,by rw[h.w];exact h5,h6⟩,h7,Fi h sz _ _ es _ _ k8 h8,fun arr t fz e=>h9 arr t fz (by rw[←h.w];exact e)⟩
 |map es=>
  obtain⟨h1,aW,clock,h2,hw,h3⟩:=k
  obtain⟨_,_,_,_,_,k3⟩:=k0
  exact⟨h1,aW,clock,by rw[h.w];exact h2,hw,Fk h es _ _ k3 h3⟩
 |it cur left=>
  obtain⟨h1,h2⟩:=k
  obtain⟨_,k2⟩:=k0
  refine⟨h1,?_⟩
  rcases h2 with⟨h2,h2',since,seen,last,h3⟩|⟨m,seen,aW,clock,h3,h4,h5,h6,h7,h8,h9⟩
  ·exact .inl ⟨h2,h2',since,seen,last,by rw[h.w];exact h3⟩
  ·rcases k2 with⟨q1,q2,_⟩|⟨m0,adZ,adS,adN,q3,q4,q5,q6,q7,q8,q9⟩
   ·refine .inr ⟨m,seen,aW,clock,by rw[h.w];exact h3,by rw[h.w];exact h4,fun k=>h5 (h.X m k),by rw[h.w];exact h6,h7,by rw[q2]at h8 ⊢;exact h8,.inl q1⟩
   ·refine .inr ⟨m,seen,aW,clock,by rw[h.w];exact h3,by rw[h.w];exact h4,fun k=>h5 (h.X m k),by rw[h.w];exact h6,h7,Fk h left _ _ q8 h8,?_⟩
    rcases h9 with h9|⟨kk,v,e,e1,e2,e3,e4,e5⟩
    ·exact .inl h9
    ·rcases q9 with q9|⟨kk',v',e',f1,f2,f3,f4,f5⟩
     ·exact .inl q9
     ·rw[e1]at f1
      simp only[List.cons.injEq,Prod.mk.injEq,and_true]at f1
      obtain⟨rfl,rfl⟩:=f1
      exact .inr ⟨_,_,e,e1,e2,e3,Aj h _ _ _ f4 e4,Aj h _ _ _ f5 e5⟩
def ac7:aO→Nat
 |.arr g _ _=>g
 |.mT g _ _=>g
 |_=>0
theorem JC {c:RC} {p:Pl} {x:aO} (k:nF c p x):p.g=ac7 x:=by cases x<;>exact k.1
theorem Qv {c0 c c':RC} (h:tI c0 c c') (sz b:Nat):∀(l:List (List U)) (off:Nat),(∀y∈l,∃b0 o0,aX c0 b0 o0 y)→bg c sz b off l→bg c' sz b off l
 |[],off,h0,r=>by simp [bg]
 |x::l,off,h0,r=>by
  simp only[bg]at r ⊢
  obtain⟨b0,o0,k⟩:=h0 x (by simp)
  exact⟨r.1,BS h b0 b x _ _ k r.2.1,Qv h sz b l _ (fun y hy=>h0 y (by simp [hy])) r.2.2⟩
theorem P6 {c:RC}:∀{args:List U} {vs:List Value},aC c args vs→∀y∈A.rowsOf args,∃b0 o0,aX c b0 o0 y
 |[],_,_,y,hy=>by simp [A.rowsOf]at hy
 |a::args,vs,h,y,hy=>by
  simp only[aC]at h
  obtain⟨v,vs',rfl,h1,h2⟩:=h
  simp only[A.rowsOf,List.mem_append]at hy
  rcases hy with hy|hy
  ·cases a<;>simp only[List.not_mem_nil]at hy
   rename_i sz es
   simp only[ah]at h1
   obtain⟨a,cap,rfl,_,_,h3⟩:=h1
   rcases h3 with h3|⟨b,off,_,_,_,h4⟩
   ·rw[h3]at hy;cases hy
   ·obtain⟨i,hi⟩:=List.mem_iff_getElem?.1 hy
    exact⟨_,_,(bg.nth h4 hi).2⟩
  ·exact P6 h2 y hy
theorem vN (h:uE c c' σ n):∀(d:Nat) (av bR:U) (v:Value),A.bn σ n d av=some bR→ah c av v→ah c' bR v
 |0=>An h 0 (fun av bR v ho e r=>by cases av<;>first|(simp [A.bn]at e;done)|(simp [AG]at ho;done))
 |d+1=>An h (d+1) (fun av bR v ho e r=>match av,ho,e,r with
  |.op id off,_,e,r=>by
   simp only[A.bn]at e
   simp only[ah]at r
   obtain⟨p,h1,h2,rfl⟩:=r
   split at e
   ·rename_i hlt
    injection e with e;subst e
    simp only[ah]
    exact⟨p,h.E id p hlt h1,h2,rfl⟩
   ·rename_i hge
    split at e
    ·rename_i cs hs
     obtain⟨cs',e1,rfl⟩:=Option.map_eq_some_iff.1 e
     rw[Am]at e1
     obtain⟨j1,⟨⟨arr,t,j2,j3⟩,j4⟩⟩:=h.heap.blk id p _ h1 hs
     simp only[ah]
     refine⟨p.b,off,rfl,by rw[h.w];exact(Array.getElem?_eq_some_iff.1 j2).1,h.Gx id p (by omega) h1,?_⟩
     have j5:=j4.drop off
     rw[Nat.zero_add]at j5
     exact BV h d (fun av bR v _ e r=>vN h d _ _ _ e r) p.b _ cs' _ e1 j5
    ·cases e
  |.oe id g i off,_,e,r=>by
   simp only[A.bn]at e
   simp only[ah]at r
   obtain⟨hg,p,h1,h2,a,rfl,h3⟩:=r
   split at e
   ·rename_i hlt
    injection e with e;subst e
    simp only[ah]
    exact⟨hg,p,h.E id p hlt h1,h2,a,rfl,h3⟩
   ·rename_i hge
    split at e
    ·rename_i g' sz' es hs
     split at e
     ·rename_i hc
      subst hc
      split at e
      ·rename_i el hel
       obtain⟨cs',e1,rfl⟩:=Option.map_eq_some_iff.1 e
       rw[Am]at e1
       obtain⟨j1,j2,j3,j4,⟨arr,bt,j5,j6⟩,j7,j8,j9⟩:=h.heap.blk id p _ h1 hs
       have ha:=h3 j1.symm
       subst ha
       simp only[ah]
       refine⟨p.b,_,rfl,by rw[h.w];exact(Array.getElem?_eq_some_iff.1 j5).1,h.Gx id p (by omega) h1,?_⟩
       rw[j3]
       have j9:=(j8.nth hel).2.drop off
       exact BV h d (fun av bR v _ e r=>vN h d _ _ _ e r) p.b _ cs' _ e1 j9
      ·cases e
     ·cases e
    ·cases e
  |.om id,_,e,r=>by
   simp only[A.bn]at e
   simp only[ah]at r
   obtain⟨p,h1,h2,rfl⟩:=r
   split at e
   ·rename_i hlt
    injection e with e;subst e
    simp only[ah]
    exact⟨p,h.E id p hlt h1,h2,rfl⟩
   ·rename_i hge
    split at e
    ·rename_i es hs
     obtain⟨es',e1,rfl⟩:=Option.map_eq_some_iff.1 e
     rw[JM]at e1
     obtain⟨j1,aW,clock,j2,jw,j3⟩:=h.heap.blk id p _ h1 hs
     simp only[ah]
     exact⟨p.b,rfl,by rw[h.w];exact(Array.getElem?_eq_some_iff.1 j2).1,h.Gx id p (by omega) h1,aW,clock,by rw[h.w];exact j2,jw,Jl h d (fun av bR v _ e r=>vN h d _ _ _ e r) _ es' _ e1 j3⟩
    ·cases e
  |.os id g sz off len,_,e,r=>by
   simp only[A.bn]at e
   simp only[ah]at r
   obtain⟨hg,p,h1,h2,q,cap,rfl,h3,r⟩:=r
   split at e
   ·rename_i hlt
    injection e with e;subst e
    simp only[ah]
    exact⟨hg,p,h.E id p hlt h1,h2,q,cap,rfl,h3,r⟩
   ·rename_i hge
    split at e
    ·rename_i g' sz' es hs
     split at e
     ·rename_i hc
      obtain⟨rfl,rfl,hle⟩:=hc
      obtain⟨es',e1,rfl⟩:=Option.map_eq_some_iff.1 e
      rw[xU]at e1
      obtain⟨j1,j2,j3,j4,⟨arr,bt,j5,j6⟩,j7,j8,j9⟩:=h.heap.blk id p _ h1 hs
      obtain⟨k1,k2,k3⟩:=r j1.symm
      have hl:=IX d _ _ e1
      have rZ:((es.drop off).take len).length=len:=by simp;omega
      simp only[ah]
      refine⟨some q,cap,by rw[hl,rZ],by rw[hl,rZ];exact h3,j4,?_⟩
      by_cases hz:len=0
      ·left;apply List.eq_nil_of_length_eq_zero;rw[hl,rZ,hz]
      ·right
       have hq:q=⟨p.b,p.base+off*p.sz,none⟩:=by
        rcases k2 with k2|k2
        ·omega
        ·exact k2
       refine⟨p.b,p.base+off*p.sz,by rw[hq],by rw[h.w];exact(Array.getElem?_eq_some_iff.1 j5).1,h.Gx id p (by omega) h1,?_⟩
       refine Jk h d (fun av bR v _ e r=>vN h d _ _ _ e r) sz p.b _ es' _ e1 ?_
       rw[j3]
       exact(j8.drop off).take len
     ·cases e
    ·cases e)
end
section
variable {X : Fx}
def mS.Ok:mS→Prop
 |.N g=>∀c a v,ah c a v→ah c (g a) v
 |_=>True
theorem xP (hs:cD X) {f:FuncId} {fn:Func} {keep:mS} (hkeep:keep.Ok) {bF:jM} {args:List U} {σ σ':Heap} {r:U} (hf:X.P.funcs[f]? =some fn) (ab5:∀bV w,(callFunc f bV).run X.P w=.ok (.enter f bV) w)
  (hr:mX X keep bF fn args σ=some (r,σ')):lD X.P X.nm f args σ r σ':=by
 refine .inl ⟨f,ab5,fun z vs hnm hlt hh ha=>?_⟩
 unfold mX at hr
 cases hb:fn.body with
 |none=>rw[hb]at hr;cases hr
 |some c=>
  rw[hb]at hr
  simp only at hr
  cases hc:(Nat.ble args.length fn.ntmps&&X.n==fn.ntmps)
  ·rw[hc]at hr;cases hr
  ·rw[hc]at hr
   simp only[Bool.not_true,cond_false]at hr
   simp only[Bool.and_eq_true,beq_iff_eq]at hc
   obtain⟨hc1,oG⟩:=hc
   have hle:args.length≤fn.ntmps:=Nat.le_of_ble_eq_true hc1
   have TF:=ha.length
   have ad3:args.length=vs.size:=by simpa using TF
   have hst:St X z ⟨args++List.replicate (fn.ntmps-args.length) (.aA []),fun _=>none,σ⟩ {tmps:=vs++Array.replicate (fn.ntmps-vs.size) undef,defers:=[]} z.w z.E bY:=by
    have Sq:∀i av,(args++List.replicate (fn.ntmps-args.length) (.aA []))[i]? =some av→ah (ctx z z.w z.E bY) av ((vs++Array.replicate (fn.ntmps-vs.size) undef).getD i undef):=by
     intro i av hi
     by_cases hlt':i<args.length
     ·rw[List.getElem?_append_left hlt']at hi
      obtain⟨v,k1,k2⟩:=ha.nth hi
      have:(vs++Array.replicate (fn.ntmps-vs.size) undef).getD i undef=v:=by
       rw[Array.getD_eq_getD_getElem?,Array.getElem?_append_left (by omega),←Array.getElem?_toList,k1];rfl
      rw[this];exact k2
     ·rw[List.getElem?_append_right (by omega)]at hi
      have hm:=List.mem_of_getElem? hi
      rw[List.mem_replicate]at hm
      rw[hm.2]
      have:(vs++Array.replicate (fn.ntmps-vs.size) undef).getD i undef=undef:=by
       rw[Array.getD_eq_getD_getElem?,Array.getElem?_append_right (by omega),Array.getElem?_replicate]
       split<;>rfl
      rw[this]
      simp only[ah];exact⟨#[],rfl,by simp [aC]⟩
    refine⟨by simp;omega,by simp;omega,fun i av hi=>Slot.of (Sq i av hi),fun i cs hi=>?_,(fun t p hp=>by cases hp),(fun i b hb=>by cases hb),(fun i j b hb=>by cases hb),hh,rfl,?_,hnm.symm⟩
    ·have:=Sq i _ hi;simp [ah]at this
    ·exact⟨rfl,rfl,rfl,Nat.le_refl _,fun _ _ _=>rfl,fun i p hp=>.inr ⟨p,hp,rfl⟩,fun i p hp=>⟨p,hp,.inl rfl⟩,hlt,fun p hp=>hh.lt hp⟩
   refine calls_of_wp hf hb (sP hs c bF _ _ _ _ _ _ _ _ hr hst fun e s' a' w' E' bz h' _ hk=>?_)
   have hno:Ext (ctx z w' E' bz) (ctx z w' E' bY):=Ext.same rfl rfl (fun b k=>by
    rcases k with k|k|⟨i,k⟩
    ·exact .inl k
    ·exact .inr (.inl k)
    ·cases k) rfl
   have SL:∀(x:U) (v:Value) (r:U) (σ':Heap),ah (ctx z w' E' bz) x v→A.fin σ x s'.σ=some (r,σ')→∃jf,Out z w' jf∧fq (ctx z w' jf bY) σ'∧ah (ctx z w' jf bY) r v:=by
     intro x v r σ' rv k3
     unfold A.fin at k3
     split at k3
     ·rename_i he
      simp only[Option.some.injEq,Prod.mk.injEq]at k3
      obtain⟨rfl,rfl⟩:=k3
      exact⟨E',h'.out,by rw[←he];exact h'.heap.mono hno rfl (fun p hp=>rfl),ah.mono hno _ _ rv⟩
     ·split at k3
      ·rename_i he
       obtain⟨r',k6,k7⟩:=Option.map_eq_some_iff.1 k3
       simp only[Prod.mk.injEq]at k7
       obtain⟨rfl,rfl⟩:=k7
       have hlen:=h'.heap.len
       simp only[ctx]at hlen
       have hzl:z.E.length=σ.length:=hh.len
       have hle2:σ.length≤s'.σ.length:=by
        have:=congrArg List.length he
        simp at this;omega
       have vk:∀(id:Nat) (p:Pl),id<σ.length→E'[id]? =some p→(E'.take σ.length)[id]? =some p:=fun id p hlt' hp=>by rw[List.getElem?_take_of_lt hlt'];exact hp
       have rR:∀(id:Nat) (p:Pl),(E'.take σ.length)[id]? =some p→id<σ.length∧E'[id]? =some p:=fun id p hp=>by
        rw[List.getElem?_take]at hp
        split at hp
        ·exact⟨by assumption,hp⟩
        ·cases hp
       have td:uE (ctx z w' E' bz) (ctx z w' (E'.take σ.length) bY) s'.σ σ.length:=by
        refine⟨rfl,rfl,fun b k=>?_,vk,h'.heap,fun id p hge hp k=>?_⟩
        ·rcases k with k|⟨p,hp,k⟩|⟨i,k⟩
         ·exact .inl k
         ·exact .inr (.inl ⟨p,List.mem_of_mem_take hp,k⟩)
         ·cases k
        ·rcases k with k|⟨q,hq,k⟩|⟨i,k⟩
         ·have hb:=hlt _ k
          rcases h'.out.fresh' id p hp with e|⟨q,hq,_⟩
          ·omega
          ·rw[List.getElem?_eq_none (by omega)]at hq;cases hq
         ·obtain⟨j,hj,rfl⟩:=List.mem_iff_getElem.1 hq
          obtain⟨h1,h2⟩:=rR j _ (List.getElem?_eq_getElem hj)
          have:=h'.heap.inj j id _ p h2 hp k
          omega
         ·cases k
       have heq:∀(id:Nat),id<σ.length→σ[id]? =s'.σ[id]? :=fun id hlt'=>by
        have h1:(List.take σ.length s'.σ)[id]? =s'.σ[id]? :=List.getElem?_take_of_lt hlt'
        rw[he]at h1;exact h1
       have held:tI (ctx z z.w z.E bY) (ctx z w' E' bz) (ctx z w' (E'.take σ.length) bY):=
        ⟨rfl,rfl,td.X,fun id p0 p e0 e1=>vk id p (by have:=(List.getElem?_eq_some_iff.1 e0).1;simp only[ctx]at this;omega) e1⟩
       refine⟨E'.take σ.length,?_,?_,vN td 8 _ _ _ k6 rv⟩
       ·have o:=h'.out
        exact⟨o.os,o.tape,o.output,o.size,o.stay,fun i p hp=>o.fresh' i p (rR i p hp).2,fun i p hp=>by
         obtain⟨p',m1,m2⟩:=o.env i p hp
         exact⟨p',vk i p' (by have:=(List.getElem?_eq_some_iff.1 hp).1;omega) m1,m2⟩,o.lt,o.mine⟩
       ·refine⟨by simp only[ctx,List.length_take];omega,fun i j p q hp hq e=>h'.heap.inj i j p q (rR i p hp).2 (rR j q hq).2 e,fun i p x hp hx=>?_⟩
        obtain⟨hi,hp2⟩:=rR i p hp
        have dH:z.E[i]? =some z.E[i]:=List.getElem?_eq_getElem (by omega)
        exact Jg held (hh.blk i _ x dH hx) (h'.heap.blk i p x hp2 (by rw[←heq i hi];exact hx))
      ·cases k3
   have done:∀(hk:uO X s' fn.results.toList (fun vs=>keep.run args σ (one vs) s'.σ)=some (r,σ')),
     a'.defers=[]∧∃v,(results fn a'.tmps).run X.P w'=.ok v w'∧∃v' E',Ending.returned v=.returned v'∧Out z w' E'∧fq (ctx z w' E' bY) σ'∧ah (ctx z w' E' bY) r v':=by
    intro hk
    refine⟨h'.defers,?_⟩
    obtain⟨us,kC,k1,k2,k3⟩:=Ju h' _ _ _ hk
    obtain⟨v,k4,k5⟩:=WN k1
    have rv:=k5 _ _ k2
    refine⟨v,k4,v,?_⟩
    have kept:∃E',Ending.returned v=.returned v∧Out z w' E'∧fq (ctx z w' E' bY) s'.σ∧ah (ctx z w' E' bY) (one kC) v:=
     ⟨E',rfl,h'.out,h'.heap.mono hno rfl (fun p hp=>rfl),ah.mono hno _ _ rv⟩
    cases keep with
    |K=>
     simp only[mS.run,Option.some.injEq,Prod.mk.injEq]at k3
     obtain⟨rfl,rfl⟩:=k3
     exact kept
    |F=>
     obtain⟨jf,q1,q2,q3⟩:=SL _ _ _ _ rv k3
     exact⟨jf,rfl,q1,q2,q3⟩
    |N g=>
     simp only[mS.run]at k3
     obtain⟨⟨r0,au⟩,k6,k7⟩:=Option.map_eq_some_iff.1 k3
     simp only[Prod.mk.injEq]at k7
     obtain⟨rfl,rfl⟩:=k7
     obtain⟨jf,q1,q2,q3⟩:=SL _ _ _ _ rv k6
     exact⟨jf,rfl,q1,q2,hkeep _ _ _ q3⟩
    |R=>
     simp only[mS.run]at k3
     obtain⟨x,hx⟩:∃x,x=one kC:=⟨_,rfl⟩
     rw[←hx]at rv k3 kept
     unfold A.renew at k3
     split at k3
     ·rename_i id g sz off len
      split at k3
      ·rename_i g' sz' es hs'
       split at k3
       ·rename_i hc
        obtain⟨rfl,rfl,hle,ad9⟩:=hc
        simp only[ah]at rv
        obtain⟨hg,p,e1,e2,qa,cp,rfl,hcap,rx⟩:=rv
        obtain⟨j1,j2,j3,j4,⟨arr,bt,j5,j6⟩,j7,j8,j9⟩:=h'.heap.blk id p _ e1 hs'
        obtain⟨q1,q2,q3⟩:=rx j1.symm
        have hid:id<E'.length:=(List.getElem?_eq_some_iff.1 e1).1
        have nr:((es.drop off).take len).length=len:=by simp;omega
        have hmul:(off+len)*sz≤es.length*sz:=Nat.mul_le_mul_right _ hle
        rw[Nat.add_mul]at hmul
        split at k3
        ·simp only[Option.some.injEq,Prod.mk.injEq]at k3
         obtain⟨rfl,rfl⟩:=k3
         have i6:=h'.move (id:=id) (p:=p) (p':=⟨p.b,p.base+off*sz,A.gen args+1,sz,p.nj⟩) (w':=w') (blk:=.arr (A.gen args+1) sz ((es.drop off).take len)) e1
          ⟨by omega,by show p.g<A.gen args+1;omega⟩ rfl rfl rfl (Nat.le_refl _) (fun b _ _=>rfl) (.inl rfl) (fun hx=>by
           refine⟨rfl,by show 0<A.gen args+1;omega,rfl,j4,⟨arr,bt,j5,j6⟩,?_,?_,j9⟩
           ·rw[nr];show p.base+off*sz+len*sz≤p.nj;omega
           ·exact bg.mono hx sz p.b rfl _ _ ((j8.drop off).take len))
         have adn:Ext (ctx z w' (E'.set id ⟨p.b,p.base+off*sz,A.gen args+1,sz,p.nj⟩) bz) (ctx z w' (E'.set id ⟨p.b,p.base+off*sz,A.gen args+1,sz,p.nj⟩) bY):=Ext.same rfl rfl (fun b k=>by
          rcases k with k|k|⟨i,k⟩
          ·exact .inl k
          ·exact .inr (.inl k)
          ·cases k) rfl
         refine⟨_,rfl,i6.1.out,i6.1.heap.mono adn rfl (fun p hp=>rfl),?_⟩
         simp only[ah]
         refine⟨by omega,⟨p.b,p.base+off*sz,A.gen args+1,sz,p.nj⟩,by simp [ctx,hid],Nat.le_refl _,qa,cp,rfl,hcap,fun _=>⟨rfl,?_,?_⟩⟩
         ·rcases q2 with q2|q2
          ·exact .inl q2
          ·exact .inr (by rw[q2,q1];simp)
         ·simp only[Nat.zero_add]
          rw[q1,Nat.add_mul]at q3;omega
        ·unfold A.merge at k3
         split at k3
         ·rename_i gP g0 Lp lN Ln rest _ _ _
          split at k3
          ·rename_i g1 vw u0 hs0
           split at k3
           ·rename_i Ko
            obtain⟨ad7,adW,rfl,hg1,hsame,hF,adu⟩:=Ko
            simp only[Option.some.injEq,Prod.mk.injEq]at k3
            obtain⟨rfl,rfl⟩:=k3
            have hzl:z.E.length=σ.length:=hh.len
            have hEl:E'.length=s'.σ.length:=h'.heap.len
            have adg:gP<σ.length:=(List.getElem?_eq_some_iff.1 hs0).1
            obtain⟨pz,Bd⟩:∃pz,z.E[gP]? =some pz:=⟨_,List.getElem?_eq_getElem (by omega)⟩
            obtain⟨y1,y2,y3,y4,y5,y6,y7,y8⟩:=hh.blk gP pz _ Bd hs0
            obtain⟨p'',rP⟩:∃p'':Pl,p''=⟨p.b,p.base+off*vw,A.gen (.os gP g0 Lp lN Ln::rest)+1,vw,p.nj⟩:=⟨_,rfl⟩
            have hne:id≠gP:=by omega
            have Sm:∀(j:Nat) (q p2:Pl),j≠gP→z.E[j]? =some q→E'[j]? =some p2→p2=q:=by
             intro j q p2 hj hq hp2
             have hjl:j<σ.length:=by rw[←hzl];exact(List.getElem?_eq_some_iff.1 hq).1
             obtain⟨p3,m1,m2⟩:=h'.out.env j q hq
             rw[hp2]at m1;injection m1 with m1;subst m1
             rcases m2 with m2|⟨m2,m3⟩
             ·exact m2
             ·have hsj:=hsame j hjl hj
              have hx0:σ[j]? =some σ[j]:=List.getElem?_eq_getElem hjl
              have u1:=JC (hh.blk j q _ hq hx0)
              have u2:=JC (h'.heap.blk j p2 _ hp2 (by rw[hsj];exact hx0))
              omega
            have za:∃p0,E'[gP]? =some p0:=⟨_,List.getElem?_eq_getElem (by omega)⟩
            obtain⟨p0,za⟩:=za
            have aeb:p0.g=g1:=JC (h'.heap.blk gP p0 _ za hF)
            have hfr:z.w.heap.size≤p.b:=by
             rcases h'.out.fresh' id p e1 with k|⟨q,hq,_⟩
             ·exact k
             ·rw[List.getElem?_eq_none (by omega)]at hq;cases hq
            have hm:p∈E':=List.mem_of_getElem? e1
            have hx:Ext (ctx z w' E' bz) (ctx z w' (E'.set gP p'') bY):=by
             refine⟨Nat.le_refl _,fun b hb hn=>⟨rfl,?_⟩,fun j q hq=>?_,rfl⟩
             ·rintro(k|⟨q,hq,k⟩|⟨i,k⟩)
              ·exact hn (.inl k)
              ·rcases List.mem_or_eq_of_mem_set hq with hq|hq
               ·exact hn (.inr (.inl ⟨q,hq,k⟩))
               ·exact hn (.inr (.inl ⟨p,hm,by rw[←k,hq,rP]⟩))
              ·cases k
             ·by_cases e:gP=j
              ·subst e
               simp only[ctx]at hq
               rw[za]at hq;injection hq with hq;subst hq
               exact⟨p'',by simp only[ctx];rw[List.getElem?_set_self (List.getElem?_eq_some_iff.1 za).1],.inr ⟨by omega,by rw[rP];show p0.g<A.gen (.os gP g0 Lp lN Ln::rest)+1;omega⟩⟩
              ·exact⟨q,by simp only[ctx]at hq ⊢;rw[List.getElem?_set_ne e];exact hq,.inl rfl⟩
            have Dc:∀(j:Nat) (q:Pl),(z.E.set gP p'')[j]? =some q→(j=gP∧q=p'')∨(j≠gP∧z.E[j]? =some q):=fun j q hq=>by
             by_cases e:gP=j
             ·subst e;rw[List.getElem?_set_self (List.getElem?_eq_some_iff.1 Bd).1]at hq;injection hq with hq;exact .inl ⟨rfl,hq.symm⟩
             ·rw[List.getElem?_set_ne e]at hq;exact .inr ⟨fun e'=>e e'.symm,hq⟩
            have TC:∀(j:Nat) (q:Pl),j≠gP→z.E[j]? =some q→E'[j]? =some q:=fun j q hj hq=>by
             have hjl:j<z.E.length:=(List.getElem?_eq_some_iff.1 hq).1
             obtain⟨p3,m1,_⟩:=h'.out.env j q hq
             rw[m1,Sm j q p3 hj hq m1]
            have held:tI (ctx z z.w z.E bY) (ctx z w' (E'.set gP p'') bY) (ctx z w' (z.E.set gP p'') bY):=by
             refine⟨rfl,rfl,fun b k=>?_,fun j q0 q L6 hq=>?_⟩
             ·rcases k with k|⟨q,hq,k⟩|⟨i,k⟩
              ·exact .inl k
              ·obtain⟨j,hj⟩:=List.mem_iff_getElem?.1 hq
               rcases Dc j q hj with⟨e3,e4⟩|⟨e3,e4⟩
               ·subst e3;exact .inr (.inl ⟨q,List.mem_of_getElem? (i:=j) (by rw[List.getElem?_set_self (List.getElem?_eq_some_iff.1 za).1,e4]),k⟩)
               ·exact .inr (.inl ⟨q,List.mem_of_getElem? (i:=j) (by rw[List.getElem?_set_ne (fun e=>e3 e.symm)];exact TC j q e3 e4),k⟩)
              ·cases k
             ·simp only[ctx]at L6 hq ⊢
              by_cases e:gP=j
              ·subst e
               rw[List.getElem?_set_self (List.getElem?_eq_some_iff.1 za).1]at hq
               rw[List.getElem?_set_self (List.getElem?_eq_some_iff.1 Bd).1];exact hq
              ·rw[List.getElem?_set_ne e]at hq ⊢
               rw[Sm j q0 q (fun e'=>e e'.symm) L6 hq];exact L6
            refine⟨z.E.set gP p'',rfl,?_,?_,?_⟩
            ·have o:=h'.out
             refine⟨o.os,o.tape,o.output,o.size,o.stay,fun j q hq=>?_,fun j q hq=>?_,o.lt,o.mine⟩
             ·rcases Dc j q hq with⟨e3,e4⟩|⟨e3,e4⟩
              ·left;rw[e4,rP];exact hfr
              ·exact .inr ⟨q,e4,rfl⟩
             ·by_cases e:gP=j
              ·subst e
               rw[Bd]at hq;injection hq with hq;subst hq
               exact⟨p'',List.getElem?_set_self (List.getElem?_eq_some_iff.1 Bd).1,.inr ⟨by omega,by rw[rP];show pz.g<A.gen (.os gP g0 Lp lN Ln::rest)+1;omega⟩⟩
              ·exact⟨q,by rw[List.getElem?_set_ne e];exact hq,.inl rfl⟩
            ·refine⟨by simp [ctx,hzl],fun i j q r hq hr he=>?_,fun i q x hq cG=>?_⟩
             ·have SO:∀(j:Nat) (q:Pl),z.E[j]? =some q→q.b<z.w.heap.size:=fun j q hq=>hh.lt (p:=q) (List.mem_of_getElem? hq)
              rcases Dc i q hq with⟨e3,e4⟩|⟨e3,e4⟩<;>rcases Dc j r hr with⟨e5,e6⟩|⟨e5,e6⟩
              ·rw[e3,e5]
              ·have:=SO j r e6;rw[e4,rP]at he;simp only at he;omega
              ·have:=SO i q e4;rw[e6,rP]at he;simp only at he;omega
              ·exact hh.inj i j q r e4 e6 he
             ·rcases Dc i q hq with⟨e3,e4⟩|⟨e3,e4⟩
              ·subst e3
               rw[List.getElem?_set_self adg]at cG
               injection cG with cG
               subst cG;subst e4;subst rP
               refine⟨rfl,Nat.succ_pos _,rfl,j4,⟨arr,bt,j5,j6⟩,?_,?_,j9⟩
               ·rw[nr];show p.base+off*vw+len*vw≤p.nj;omega
               ·refine Qv held vw p.b _ _ (fun y hy=>?_) (bg.mono hx vw p.b rfl _ _ ((j8.drop off).take len))
                rcases adu y hy with k|k
                ·obtain⟨i,hi⟩:=List.mem_iff_getElem?.1 k
                 exact⟨_,_,(bg.nth y7 hi).2⟩
                ·exact P6 ha y k
              ·rw[List.getElem?_set_ne (fun e=>e3 e.symm)]at cG
               have hil:i<σ.length:=(List.getElem?_eq_some_iff.1 cG).1
               exact Jg held (hh.blk i q x e4 cG) ((h'.heap.blk i q x (TC i q e3 e4) (by rw[hsame i hil e3];exact cG)).mono hx rfl)
            ·simp only[ah]
             refine⟨Nat.succ_pos _,p'',by simp only[ctx];exact List.getElem?_set_self (List.getElem?_eq_some_iff.1 Bd).1,by rw[rP];exact Nat.le_refl _,qa,cp,by rw[nr],by rw[nr];exact hcap,fun _=>⟨by rw[rP],?_,?_⟩⟩
             ·rcases q2 with q2|q2
              ·exact .inl q2
              ·exact .inr (by rw[q2,q1,rP];simp)
             ·rw[rP]
              simp only[Nat.zero_add]
              rw[q1,Nat.add_mul]at q3;omega
           ·cases k3
          ·cases k3
         ·cases k3
       ·cases k3
      ·cases k3
     ·simp only[Option.some.injEq,Prod.mk.injEq]at k3
      obtain⟨rfl,rfl⟩:=k3
      exact kept
     ·simp only[Option.some.injEq,Prod.mk.injEq]at k3
      obtain⟨rfl,rfl⟩:=k3
      exact kept
     ·simp only[Option.some.injEq,Prod.mk.injEq]at k3
      obtain⟨rfl,rfl⟩:=k3
      exact kept
     ·cases k3
   cases e with
   |normal=>exact done hk
   |ret=>exact done hk
   |exit i=>cases hk
end
end
section
open Go.RowKit
inductive Sh where
 |k
 |s (sz:Nat)
 |e (sz:Nat) (l:List Sh)
 |a (l:List Sh)
 |t (l:List Sh)
namespace A
mutual
def nn:Sh→U→U
 |.k,v=>v
 |.s sz,v=>match v with|.aB=>.sl sz []|.ez=>.sl sz []|v=>v
 |.e sz l,v=>match v with|.aB=>.sl sz []|.ez=>.sl sz []|.sl sz' es=>.sl sz' (es.map (bI l))|v=>v
 |.a l,v=>match v with|.agg cs=>.agg (bI l cs)|v=>v
 |.t l,v=>match v with|.aA vs=>.aA (bI l vs)|v=>v
def bI:List Sh→List U→List U
 |[],vs=>vs
 |s::ss,vs=>match vs with|[]=>[]|v::vs=>nn s v::bI ss vs
end
def rS:U→Bool
 |.os ..=>true
 |.op ..=>true
 |.oe ..=>true
 |.om ..=>true
 |_=>false
def own:U→Bool
 |.agg cs=>cs.any rS
 |v=>rS v
def nI:U→Bool
 |.int ..=>true
 |.bool ..=>true
 |.str ..=>true
 |.np=>true
 |.aB=>true
 |.ez=>true
 |.nm=>true
 |.tO=>true
 |.sl _ []=>true
 |_=>false
def pG:U→Bool
 |.agg cs=>cs.all nI
 |v=>nI v
def tF:U→Bool
 |.aA vs=>vs.all pG
 |v=>pG v
def fresh (v:U):Bool:=match v with
 |.os ..=>true
 |.om _=>true
 |v=>pG v
def sW:U→Bool
 |.aA vs=>vs.all fresh
 |v=>fresh v
def yh:aO→Bool
 |.box cs=>cs.all nI
 |.arr _ _ es=>es.all fun e=>e.all nI
 |.map es=>es.all fun p=>pG p.1&&pG p.2
 |_=>false
def shift (n:Nat) (v:U):U:=match v with
 |.os id g sz off len=>.os (id+n) g sz off len
 |.om id=>.om (id+n)
 |v=>v
def rE (n:Nat):U→U
 |.aA vs=>.aA (vs.map (shift n))
 |v=>shift n v
noncomputable def wrap (ro:Bool) (bL:List Sh) (cC:Sh) (r:List U→Heap→Option (U×Heap)) (args:List U) (σ:Heap):Option (U×Heap):=
 bif ro&&args.any own then
  (dm σ 0 8 args).bind fun args=>(r (bI bL args) []).bind fun q=>bif sW (nn cC q.1)&&q.2.all yh then some (rE σ.length (nn cC q.1),σ++q.2)else none
 else(r (bI bL args) σ).map fun q=>(nn cC q.1,q.2)
noncomputable def ku (sh:Sh) (m:List U→Heap→Option (U×Heap)) (args:List U) (σ:Heap):Option (U×Heap):=(m args σ).bind fun p=>(fin σ p.1 p.2).map fun q=>(nn sh q.1,q.2)
noncomputable def Ch (m:List U→Heap→Option (U×Heap)) (args:List U) (σ:Heap):Option (U×Heap):=match args with
 |[.sl _ []]=>some (.ez,σ)
 |[.aB]=>some (.ez,σ)
 |[.ez]=>some (.ez,σ)
 |[.os _ _ _ _ 0]=>some (.ez,σ)
 |_=>m args σ
end A
def Sound (P:Program) (nm:List Nat) (f:FuncId) (m:List U→Heap→Option (U×Heap)):Prop:=∀args σ r σ',m args σ=some (r,σ')→lD P nm f args σ r σ'
section
variable {P : Program} {nm : List Nat} {f : FuncId} {c c' : RC}
theorem RD {v:Value} (sz:Nat) (hsz:0<sz) (h:ah c .aB v):ah c (.sl sz []) v:=by
 simp only[ah]at h ⊢
 subst h
 exact⟨none,0,rfl,Nat.le_refl _,hsz,.inl trivial⟩
theorem Se {v:Value} (sz:Nat) (hsz:0<sz) (h:ah c .ez v):ah c (.sl sz []) v:=by
 simp only[ah]at h ⊢
 obtain⟨a,rfl⟩:=h
 exact⟨a,0,rfl,Nat.le_refl _,hsz,.inl trivial⟩
mutual
def Sh.ok:Sh→Bool
 |.k=>true
 |.s sz=>Nat.blt 0 sz
 |.e sz l=>Nat.blt 0 sz&&Sh.cB l
 |.a l=>Sh.cB l
 |.t l=>Sh.cB l
def Sh.cB:List Sh→Bool
 |[]=>true
 |x::l=>x.ok&&Sh.cB l
end
theorem QK:∀(l:List Sh) (cs:List U),(A.bI l cs).length=cs.length
 |[],cs=>by simp [A.bI]
 |_::_,[]=>by simp [A.bI]
 |o::l,v::cs=>by simp [A.bI,QK l cs]
mutual
theorem AB:∀(s:Sh) (a:U) (v:Value),s.ok=true→ah c a v→ah c (A.nn s a) v
 |.k,a,v,_,h=>by simpa [A.nn]using h
 |.s sz,a,v,ho,h=>by
  cases a<;>simp only[A.nn]<;>first|exact h|exact RD sz (by simpa [Sh.ok]using ho) h|exact Se sz (by simpa [Sh.ok]using ho) h
 |.e sz l,a,v,ho,h=>by
  simp only[Sh.ok,Bool.and_eq_true]at ho
  cases a<;>simp only[A.nn]<;>first|exact h|exact RD sz (by simpa using ho.1) h|exact Se sz (by simpa using ho.1) h|skip
  simp only[ah]at h ⊢
  obtain⟨a,cap,e,h1,h2,h3⟩:=h
  refine⟨a,cap,by rw[List.length_map];exact e,by rw[List.length_map];exact h1,h2,?_⟩
  rcases h3 with h3|⟨b,off,e1,e2,e3,e4⟩
  ·left;rw[h3];rfl
  ·right;exact⟨b,off,e1,e2,e3,Ry l ho.2 _ _ e4⟩
 |.a l,a,v,ho,h=>by
  simp only[Sh.ok]at ho
  cases a<;>simp only[A.nn]<;>first|exact h|skip
  simp only[ah]at h ⊢
  obtain⟨vs,e,h1,h2⟩:=h
  exact⟨vs,e,Cb l _ _ ho h1,h2⟩
 |.t ss,a,v,ho,h=>by
  simp only[Sh.ok]at ho
  cases a<;>simp only[A.nn]<;>first|exact h|skip
  simp only[ah]at h ⊢
  obtain⟨vs,e,h1⟩:=h
  exact⟨vs,e,Cb ss _ _ ho h1⟩
theorem Cb:∀(ss:List Sh) (l:List U) (vs:List Value),Sh.cB ss=true→aC c l vs→aC c (A.bI ss l) vs
 |[],l,vs,_,h=>by simpa [A.bI]using h
 |_::_,[],vs,_,h=>by simpa [A.bI]using h
 |s::ss,a::l,vs,ho,h=>by
  simp only[Sh.cB,Bool.and_eq_true]at ho
  simp only[A.bI,aC]at h ⊢
  obtain⟨v,vs',e,h1,h2⟩:=h
  exact⟨v,vs',e,AB s a v ho.1 h1,Cb ss l vs' ho.2 h2⟩
theorem Rx {b:Nat}:∀(l:List Sh) (cs:List U) (off:Nat),Sh.cB l=true→aX c b off cs→aX c b off (A.bI l cs)
 |[],cs,off,_,h=>by simpa [A.bI]using h
 |_::_,[],off,_,h=>by simpa [A.bI]using h
 |o::l,a::cs,off,ho,h=>by
  simp only[Sh.cB,Bool.and_eq_true]at ho
  simp only[A.bI,aX]at h ⊢
  obtain⟨⟨v,h1,h2,h3⟩,h4⟩:=h
  exact⟨⟨v,h1,h2,AB o a v ho.1 h3⟩,Rx l cs (off+1) ho.2 h4⟩
theorem Ry {sz b:Nat} (l:List Sh) (hl:Sh.cB l=true):∀(es:List (List U)) (off:Nat),bg c sz b off es→bg c sz b off (es.map (A.bI l))
 |[],off,h=>by simp [bg]
 |e::es,off,h=>by
  simp only[List.map_cons,bg]at h ⊢
  exact⟨by rw[QK];exact h.1,Rx l e off hl h.2.1,Ry l hl es _ h.2.2⟩
end
theorem I6:∀{a:U} {v:Value},A.nI a=true→ah c a v→ah c' a v:=by
 intro a v h r
 cases a<;>simp only[A.nI]at h<;>first|(cases h;done)|skip
 case sl sz es=>
  cases es with
  |nil=>
   simp only[ah]at r ⊢
   obtain⟨q,cap,e,h1,h2,_⟩:=r
   exact⟨q,cap,e,h1,h2,.inl trivial⟩
  |cons _ _=>simp at h
 all_goals simpa [ah]using r
theorem N9:∀{l:List U} {vs:List Value},l.all A.nI=true→aC c l vs→aC c' l vs
 |[],vs,_,r=>by simpa [aC]using r
 |a::l,vs,h,r=>by
  simp only[List.all_cons,Bool.and_eq_true]at h
  simp only[aC]at r ⊢
  obtain⟨v,vs',e,h1,h2⟩:=r
  exact⟨v,vs',e,I6 h.1 h1,N9 h.2 h2⟩
theorem I7 {a:U} {v:Value} (h:A.pG a=true) (r:ah c a v):ah c' a v:=by
 unfold A.pG at h
 split at h
 ·simp only[ah]at r ⊢
  obtain⟨vs,e,h1,h2⟩:=r
  exact⟨vs,e,N9 h h1,h2⟩
 ·exact I6 h r
theorem lD.conv {args args':List U} {σ σ':Heap} {r r':U} (h:lD P nm f args' σ r σ') (ha:∀c vs,aC c args vs→aC c args' vs) (hr:∀c v,ah c r v→ah c r' v):lD P nm f args σ r' σ':=by
 rcases h with⟨g,h1,h2⟩|h
 ·refine .inl ⟨g,h1,fun z vs e1 e2 e3 e4=>(h2 z vs e1 e2 e3 (ha _ _ e4)).mono ?_⟩
  rintro e w' ⟨v,E',k1,k2,k3,k4⟩
  exact⟨v,E',k1,k2,k3,hr _ _ k4⟩
 ·refine .inr fun z vs e1 e2 e3 e4=>?_
  obtain⟨v,w',E',k1,k2,k3,k4⟩:=h z vs e1 e2 e3 (ha _ _ e4)
  exact⟨v,w',E',k1,k2,k3,hr _ _ k4⟩
theorem O2 {z0 z:Z} {w':World} {E':List Pl} {n:Nat} (hn:n=z.E.length) {a:U} {v:Value} (h:A.fresh a=true) (r:ah (ctx z0 w' E' bY) a v):ah (ctx z w' (z.E++E') bY) (A.shift n a) v:=by
 have key:∀(id:Nat) (p:Pl),E'[id]? =some p→(z.E++E')[id+n]? =some p:=fun id p hp=>by
  rw[List.getElem?_append_right (by omega),hn,Nat.add_sub_cancel];exact hp
 unfold A.fresh at h
 unfold A.shift
 split at h
 ·simp only[ah]at r ⊢
  obtain⟨hg,p,h1,h2,r⟩:=r
  exact⟨hg,p,key _ _ h1,h2,r⟩
 ·simp only[ah]at r ⊢
  obtain⟨p,h1,h2,r⟩:=r
  exact⟨p,key _ _ h1,h2,r⟩
 ·exact I7 h r
theorem WR {z0 z:Z} {w':World} {E':List Pl} {n:Nat} (hn:n=z.E.length) {vs:List U} {v:Value} (h:vs.all A.fresh=true) (r:ah (ctx z0 w' E' bY) (.aA vs) v):ah (ctx z w' (z.E++E') bY) (A.rE n (.aA vs)) v:=by
 simp only[ah,A.rE]at r ⊢
 obtain⟨us,rfl,r⟩:=r
 refine⟨us,rfl,?_⟩
 generalize us.toList=us' at r ⊢
 induction vs generalizing us' with
 |nil=>simpa [aC]using r
 |cons x l ih=>
  simp only[List.all_cons,Bool.and_eq_true]at h
  simp only[aC,List.map_cons]at r ⊢
  obtain⟨v,vs',e,h1,h2⟩:=r
  exact⟨v,vs',e,O2 hn h.1 h1,ih h.2 _ h2⟩
theorem XH {z0 z:Z} {w':World} {E':List Pl} {n:Nat} (hn:n=z.E.length) {a:U} {v:Value} (h:A.sW a=true) (r:ah (ctx z0 w' E' bY) a v):ah (ctx z w' (z.E++E') bY) (A.rE n a) v:=by
 by_cases ht:∃vs,a=.aA vs
 ·obtain⟨vs,rfl⟩:=ht
  exact WR hn h r
 ·have e1:A.sW a=A.fresh a:=by cases a<;>first|rfl|exact absurd ⟨_,rfl⟩ ht
  have e2:A.rE n a=A.shift n a:=by cases a<;>first|rfl|exact absurd ⟨_,rfl⟩ ht
  rw[e1]at h
  rw[e2]
  exact O2 hn h r
theorem Iz {b:Nat}:∀{l:List U} {off:Nat},l.all A.nI=true→c'.w=c.w→aX c b off l→aX c' b off l
 |[],off,_,_,_=>by simp [aX]
 |a::l,off,h,hw,r=>by
  simp only[List.all_cons,Bool.and_eq_true]at h
  simp only[aX]at r ⊢
  obtain⟨⟨v,h1,h2,h3⟩,h4⟩:=r
  exact⟨⟨v,by rw[hw];exact h1,h2,I6 h.1 h3⟩,Iz h.2 hw h4⟩
theorem NK {sz b:Nat}:∀{l:List (List U)} {off:Nat},(l.all fun e=>e.all A.nI)=true→c'.w=c.w→bg c sz b off l→bg c' sz b off l
 |[],off,_,_,_=>by simp [bg]
 |a::l,off,h,hw,r=>by
  simp only[List.all_cons,Bool.and_eq_true]at h
  simp only[bg]at r ⊢
  obtain⟨h1,h2,h3⟩:=r
  exact⟨h1,Iz h.1 hw h2,NK h.2 hw h3⟩
theorem Oa:∀{l:List (U×U)} {es:List MapEntry},(l.all fun p=>A.pG p.1&&A.pG p.2)=true→bQ c l es→bQ c' l es
 |[],es,_,r=>by simpa [bQ]using r
 |(k,v)::l,es,h,r=>by
  simp only[List.all_cons,Bool.and_eq_true]at h
  simp only[bQ]at r ⊢
  obtain⟨e,es',h1,h2,h3,h4⟩:=r
  exact⟨e,es',h1,I7 h.1.1 h2,I7 h.1.2 h3,Oa h.2 h4⟩
theorem Xa {p:Pl} {x:aO} (h:A.yh x=true) (hw:c'.w=c.w) (r:nF c p x):nF c' p x:=by
 cases x with
 |box cs=>
  obtain⟨h1,⟨⟨arr,t,h2,h3⟩,h4⟩⟩:=r
  exact⟨h1,⟨arr,t,by rw[hw];exact h2,h3⟩,Iz h hw h4⟩
 |arr g sz es=>
  obtain⟨h1,h2,h3,h4,⟨arr,t,h5,h6⟩,h7,h8,h9⟩:=r
  exact⟨h1,h2,h3,h4,⟨arr,t,by rw[hw];exact h5,h6⟩,h7,NK h hw h8,fun arr t fz e=>h9 arr t fz (by rw[←hw];exact e)⟩
 |map es=>
  obtain⟨h1,aW,clock,h2,hwf,h3⟩:=r
  exact⟨h1,aW,clock,by rw[hw];exact h2,hwf,Oa h h3⟩
 |mT g sz es=>cases h
 |it cur left=>cases h
theorem PN {z:Z} {σ σ':Heap} {r:U} {v:Value} {w':World} {E':List Pl} (e2:∀b,z.X b→b<z.w.heap.size) (hh:fq (ctx z z.w z.E bY) σ) (hv:A.sW r=true) (hb:σ'.all A.yh=true)
  (k2:Out ⟨z.w,[],fun _=>False,z.nm⟩ w' E') (k3:fq (ctx ⟨z.w,[],fun _=>False,z.nm⟩ w' E' bY) σ') (k4:ah (ctx ⟨z.w,[],fun _=>False,z.nm⟩ w' E' bY) r v):
  ∃jf,Out z w' jf∧fq (ctx z w' jf bY) (σ++σ')∧ah (ctx z w' jf bY) (A.rE σ.length r) v:=by
 have hlen:z.E.length=σ.length:=hh.len
 have hlen':E'.length=σ'.length:=k3.len
 have hst:∀b,b<z.w.heap.size→w'.heap[b]? =z.w.heap[b]? :=fun b hb=>k2.stay b hb (fun p hp=>by cases hp)
 have hlt:∀p∈z.E,p.b<z.w.heap.size:=fun p hp=>hh.lt hp
 have hfr:∀p∈E',z.w.heap.size≤p.b:=fun p hp=>by
  rcases k2.fresh p hp with k|⟨q,hq,_⟩
  ·exact k
  ·cases hq
 have hx:Ext (ctx z z.w z.E bY) (ctx z w' (z.E++E') bY):=by
  refine⟨k2.size,fun b hb hn=>⟨hst b hb,?_⟩,fun i p hp=>⟨p,?_,.inl rfl⟩,rfl⟩
  ·rintro(k|⟨p,hp,k⟩|⟨i,k⟩)
   ·exact hn (.inl k)
   ·rcases List.mem_append.1 hp with hp|hp
    ·exact hn (.inr (.inl ⟨p,hp,k⟩))
    ·have:=hfr p hp;simp only[ctx]at hb;omega
   ·cases k
  ·simp only[ctx]at hp ⊢
   rw[List.getElem?_append_left (List.getElem?_eq_some_iff.1 hp).1];exact hp
 have key:∀(i:Nat) (p:Pl),(z.E++E')[i]? =some p→(i<z.E.length∧z.E[i]? =some p)∨(z.E.length≤i∧E'[i-z.E.length]? =some p):=fun i p hp=>by
  by_cases hi:i<z.E.length
  ·rw[List.getElem?_append_left hi]at hp;exact .inl ⟨hi,hp⟩
  ·rw[List.getElem?_append_right (by omega)]at hp;exact .inr ⟨by omega,hp⟩
 refine⟨z.E++E',⟨k2.os,k2.tape,k2.output,k2.size,fun b hb _=>hst b hb,fun i p hp=>?_,fun i p hp=>⟨p,?_,.inl rfl⟩,e2,hlt⟩,⟨by simp [ctx,hlen,hlen'],fun i j p q hp hq e=>?_,fun i p x hp cG=>?_⟩,XH hlen.symm hv k4⟩
 ·rcases key i p hp with⟨_,k⟩|⟨_,k⟩
  ·exact .inr ⟨p,k,rfl⟩
  ·exact .inl (hfr p (List.mem_of_getElem? k))
 ·rw[List.getElem?_append_left (List.getElem?_eq_some_iff.1 hp).1];exact hp
 ·simp only[ctx]at hp hq
  rcases key i p hp with⟨i1,k⟩|⟨i1,k⟩<;>rcases key j q hq with⟨j1,m⟩|⟨j1,m⟩
  ·exact hh.inj i j p q k m e
  ·have:=hlt p (List.mem_of_getElem? k);have:=hfr q (List.mem_of_getElem? m);omega
  ·have:=hlt q (List.mem_of_getElem? m);have:=hfr p (List.mem_of_getElem? k);omega
  ·have:=k3.inj _ _ p q k m e;omega
 ·simp only[ctx]at hp
  rcases key i p hp with⟨i1,k⟩|⟨i1,k⟩
  ·rw[List.getElem?_append_left (by omega)]at cG
   exact(hh.blk i p x k cG).mono hx (hst _ (hlt p (List.mem_of_getElem? k)))
  ·rw[List.getElem?_append_right (by omega),←hlen]at cG
   exact Xa (c:=ctx ⟨z.w,[],fun _=>False,z.nm⟩ w' E' bY) (List.all_eq_true.1 hb x (List.mem_of_getElem? cG)) rfl (k3.blk _ p x k cG)
theorem lD.CO {args args':List U} {σ σ':Heap} {r:U} (h:lD P nm f args' [] r σ') (ha:A.dm σ 0 8 args=some args') (hv:A.sW r=true) (hb:σ'.all A.yh=true):lD P nm f args σ (A.rE σ.length r) (σ++σ'):=by
 have hX:∀(z:Z) b,¬(ctx ⟨z.w,[],fun _=>False,z.nm⟩ z.w [] bY).X b:=by
  rintro z b (k|⟨p,hp,_⟩|⟨i,k⟩)
  ·exact k.elim
  ·cases hp
  ·cases k
 have td:∀(z:Z),fq (ctx z z.w z.E bY) σ→uE (ctx z z.w z.E bY) (ctx ⟨z.w,[],fun _=>False,z.nm⟩ z.w [] bY) σ 0:=fun z hh=>
  ⟨rfl,rfl,fun b k=>(hX z b k).elim,fun id p k=>absurd k (Nat.not_lt_zero _),hh,fun id p _ _=>hX z _⟩
 have h0:∀(z:Z),fq (ctx ⟨z.w,[],fun _=>False,z.nm⟩ z.w [] bY) []:=fun z=>by
  refine⟨rfl,fun i j p q hp=>?_,fun i p x hp=>?_⟩
  ·simp [ctx]at hp
  ·simp [ctx]at hp
 rcases h with⟨g,h1,h2⟩|h2
 ·refine .inl ⟨g,h1,fun z vs e1 e2 hh e4=>?_⟩
  have ha':aC (ctx ⟨z.w,[],fun _=>False,z.nm⟩ z.w [] bY) args' vs.toList:=Ab (td z hh) 8 (fun av bR v _ e r=>vN (td z hh) 8 _ _ _ e r) _ _ _ ha e4
  refine(h2 ⟨z.w,[],fun _=>False,z.nm⟩ vs e1 (fun b k=>k.elim) (h0 z) ha').mono ?_
  rintro e w' ⟨v,E',k1,k2,k3,k4⟩
  obtain⟨jf,q1,q2,q3⟩:=PN e2 hh hv hb k2 k3 k4
  exact⟨v,jf,k1,q1,q2,q3⟩
 ·refine .inr fun z vs e1 e2 hh e4=>?_
  have ha':aC (ctx ⟨z.w,[],fun _=>False,z.nm⟩ z.w [] bY) args' vs.toList:=Ab (td z hh) 8 (fun av bR v _ e r=>vN (td z hh) 8 _ _ _ e r) _ _ _ ha e4
  obtain⟨v,w',E',k1,k2,k3,k4⟩:=h2 ⟨z.w,[],fun _=>False,z.nm⟩ vs e1 (fun b k=>k.elim) (h0 z) ha'
  obtain⟨jf,q1,q2,q3⟩:=PN e2 hh hv hb k2 k3 k4
  exact⟨v,w',jf,k1,q1,q2,q3⟩
theorem Qx {z:Z} {w':World} {E':List Pl} {σ σ1 σ':Heap} {x r:U} {v:Value} (hh:fq (ctx z z.w z.E bY) σ) (hlt:∀b,z.X b→b<z.w.heap.size) (ho:Out z w' E') (hr:fq (ctx z w' E' bY) σ1) (rv:ah (ctx z w' E' bY) x v) (k3:A.fin σ x σ1=some (r,σ')):
  ∃jf,Out z w' jf∧fq (ctx z w' jf bY) σ'∧ah (ctx z w' jf bY) r v:=by
 unfold A.fin at k3
 split at k3
 ·rename_i he
  simp only[Option.some.injEq,Prod.mk.injEq]at k3
  obtain⟨rfl,rfl⟩:=k3
  exact⟨E',ho,by rw[←he];exact hr,rv⟩
 ·split at k3
  ·rename_i he
   obtain⟨r',k6,k7⟩:=Option.map_eq_some_iff.1 k3
   simp only[Prod.mk.injEq]at k7
   obtain⟨rfl,rfl⟩:=k7
   have hlen:=hr.len
   simp only[ctx]at hlen
   have hzl:z.E.length=σ.length:=hh.len
   have hle2:σ.length≤σ1.length:=by
    have:=congrArg List.length he
    simp at this;omega
   have vk:∀(id:Nat) (p:Pl),id<σ.length→E'[id]? =some p→(E'.take σ.length)[id]? =some p:=fun id p hlt' hp=>by rw[List.getElem?_take_of_lt hlt'];exact hp
   have rR:∀(id:Nat) (p:Pl),(E'.take σ.length)[id]? =some p→id<σ.length∧E'[id]? =some p:=fun id p hp=>by
    rw[List.getElem?_take]at hp
    split at hp
    ·exact⟨by assumption,hp⟩
    ·cases hp
   have td:uE (ctx z w' E' bY) (ctx z w' (E'.take σ.length) bY) σ1 σ.length:=by
    refine⟨rfl,rfl,fun b k=>?_,vk,hr,fun id p hge hp k=>?_⟩
    ·rcases k with k|⟨p,hp,k⟩|⟨i,k⟩
     ·exact .inl k
     ·exact .inr (.inl ⟨p,List.mem_of_mem_take hp,k⟩)
     ·cases k
    ·rcases k with k|⟨q,hq,k⟩|⟨i,k⟩
     ·have hb:=hlt _ k
      rcases ho.fresh' id p hp with e|⟨q,hq,_⟩
      ·omega
      ·rw[List.getElem?_eq_none (by omega)]at hq;cases hq
     ·obtain⟨j,hj,rfl⟩:=List.mem_iff_getElem.1 hq
      obtain⟨h1,h2⟩:=rR j _ (List.getElem?_eq_getElem hj)
      have:=hr.inj j id _ p h2 hp k
      omega
     ·cases k
   have heq:∀(id:Nat),id<σ.length→σ[id]? =σ1[id]? :=fun id hlt'=>by
    have h1:(List.take σ.length σ1)[id]? =σ1[id]? :=List.getElem?_take_of_lt hlt'
    rw[he]at h1;exact h1
   have held:tI (ctx z z.w z.E bY) (ctx z w' E' bY) (ctx z w' (E'.take σ.length) bY):=
    ⟨rfl,rfl,td.X,fun id p0 p e0 e1=>vk id p (by have:=(List.getElem?_eq_some_iff.1 e0).1;simp only[ctx]at this;omega) e1⟩
   refine⟨E'.take σ.length,?_,?_,vN td 8 _ _ _ k6 rv⟩
   ·have o:=ho
    exact⟨o.os,o.tape,o.output,o.size,o.stay,fun i p hp=>o.fresh' i p (rR i p hp).2,fun i p hp=>by
     obtain⟨p',m1,m2⟩:=o.env i p hp
     exact⟨p',vk i p' (by have:=(List.getElem?_eq_some_iff.1 hp).1;omega) m1,m2⟩,o.lt,o.mine⟩
   ·refine⟨by simp only[ctx,List.length_take];omega,fun i j p q hp hq e=>hr.inj i j p q (rR i p hp).2 (rR j q hq).2 e,fun i p x hp hx=>?_⟩
    obtain⟨hi,hp2⟩:=rR i p hp
    have dH:z.E[i]? =some z.E[i]:=List.getElem?_eq_getElem (by omega)
    exact Jg held (hh.blk i _ x dH hx) (hr.blk i p x hp2 (by rw[←heq i hi];exact hx))
  ·cases k3
theorem Sound.ku {m:List U→Heap→Option (U×Heap)} (h:Sound P nm f m) (sh:Sh) (hs:sh.ok=true):Sound P nm f (A.ku sh m):=by
 intro args σ r σ' e
 unfold A.ku at e
 obtain⟨⟨x,σ1⟩,e1,e2⟩:=Option.bind_eq_some_iff.1 e
 obtain⟨⟨y,σ2⟩,e3,e4⟩:=Option.map_eq_some_iff.1 e2
 simp only[Prod.mk.injEq]at e4
 obtain⟨rfl,rfl⟩:=e4
 rcases h _ _ _ _ e1 with⟨g,h1,h2⟩|h2
 ·refine .inl ⟨g,h1,fun z vs k1 k2 hh k4=>?_⟩
  refine(h2 z vs k1 k2 hh k4).mono ?_
  rintro e w' ⟨v,E',q1,q2,q3,q4⟩
  obtain⟨jf,p1,p2,p3⟩:=Qx hh k2 q2 q3 q4 e3
  exact⟨v,jf,q1,p1,p2,AB _ _ _ hs p3⟩
 ·refine .inr fun z vs k1 k2 hh k4=>?_
  obtain⟨v,w',E',q1,q2,q3,q4⟩:=h2 z vs k1 k2 hh k4
  obtain⟨jf,p1,p2,p3⟩:=Qx hh k2 q2 q3 q4 e3
  exact⟨v,w',jf,q1,p1,p2,AB _ _ _ hs p3⟩
theorem Sound.wrap {r:List U→Heap→Option (U×Heap)} (h:Sound P nm f r) (ro:Bool) (bL:List Sh) (cC:Sh) (hi:Sh.cB bL=true) (ho:cC.ok=true):Sound P nm f (A.wrap ro bL cC r):=by
 intro args σ v σ' e
 unfold A.wrap at e
 cases hc:(ro&&args.any A.own)
 ·rw[hc]at e
  simp only[cond_false]at e
  obtain⟨q,e1,e2⟩:=Option.map_eq_some_iff.1 e
  injection e2 with e2 e3
  subst e2 e3
  exact(h _ _ _ _ e1).conv (fun c vs k=>Cb _ _ _ hi k) (fun c v k=>AB _ _ _ ho k)
 ·rw[hc]at e
  simp only[cond_true]at e
  obtain⟨args',e1,e2⟩:=Option.bind_eq_some_iff.1 e
  obtain⟨q,e3,e4⟩:=Option.bind_eq_some_iff.1 e2
  obtain⟨q1,q2⟩:=q
  simp only at e4
  cases hs:(A.sW (A.nn cC q1)&&q2.all A.yh)
  ·rw[hs]at e4;cases e4
  ·rw[hs]at e4
   simp only[cond_true,Option.some.injEq,Prod.mk.injEq]at e4
   obtain⟨rfl,rfl⟩:=e4
   simp only[Bool.and_eq_true]at hs
   exact((h _ _ _ _ e3).conv (args:=args') (fun c vs k=>Cb _ _ _ hi k) (fun c v k=>AB _ _ _ ho k)).CO e1 hs.1 hs.2
end
theorem cD.of {X:Fx} {t:List (FuncId×(List U→Heap→Option (U×Heap)))} (hc:X.call=A.tab (fun _ _=>none) t) (ht:∀p∈t,Sound X.P X.nm p.1 p.2) (hd:∀f,Sound X.P X.nm f (X.dyn (X.nm.getD f 0))):cD X:=by
 refine⟨fun f args σ r σ' h=>?_,fun f=>hd f⟩
 rw[hc]at h
 clear hc
 induction t with
 |nil=>cases h
 |cons p t ih=>
  obtain⟨m,x⟩:=p
  simp only[A.tab]at h
  cases hm:(f==m)
  ·rw[hm]at h;exact ih (fun p hp=>ht p (List.mem_cons_of_mem _ hp)) h
  ·rw[hm]at h
   have:f=m:=by simpa using hm
   subst this
   exact ht (f,x) (List.mem_cons_self) _ _ _ _ h
theorem Sound.none {P:Program} {nm:List Nat} {f:FuncId}:Sound P nm f (fun _ _=>Option.none):=fun _ _ _ _ h=>by cases h
theorem aN.nil {P:Program} {nm:List Nat}:∀p∈([]:List (FuncId×(List U→Heap→Option (U×Heap)))),Sound P nm p.1 p.2:=fun _ h=>by cases h
theorem aN.cons {P:Program} {nm:List Nat} {f:FuncId} {m:List U→Heap→Option (U×Heap)} {l:List (FuncId×(List U→Heap→Option (U×Heap)))} (h:Sound P nm f m) (t:∀p∈l,Sound P nm p.1 p.2):∀p∈(f,m)::l,Sound P nm p.1 p.2:=
 fun p hp=>by rcases List.mem_cons.1 hp with rfl|hp;exact h;exact t p hp
theorem eO.nil {P:Program} {nm:List Nat}:∀p∈([]:List (Nat×(List U→Heap→Option (U×Heap)))),∀f,nm.getD f 0=p.1→Sound P nm f p.2:=fun _ h=>by cases h
theorem eO.cons {P:Program} {nm:List Nat} {k:Nat} {m:List U→Heap→Option (U×Heap)} {l:List (Nat×(List U→Heap→Option (U×Heap)))} (h:∀f,nm.getD f 0=k→Sound P nm f m) (t:∀p∈l,∀f,nm.getD f 0=p.1→Sound P nm f p.2):∀p∈(k,m)::l,∀f,nm.getD f 0=p.1→Sound P nm f p.2:=
 fun p hp=>by rcases List.mem_cons.1 hp with rfl|hp;exact h;exact t p hp
theorem n5 {P:Program} {nm:List Nat} {t:List (Nat×(List U→Heap→Option (U×Heap)))} (ht:∀p∈t,∀f,nm.getD f 0=p.1→Sound P nm f p.2) (f:FuncId):Sound P nm f (A.tab (fun _ _=>Option.none) t (nm.getD f 0)):=by
 induction t with
 |nil=>exact Sound.none
 |cons p t ih=>
  obtain⟨k,x⟩:=p
  simp only[A.tab]
  cases hm:(nm.getD f 0==k)
  ·exact ih (fun p hp=>ht p (List.mem_cons_of_mem _ hp))
  ·exact ht (k,x) List.mem_cons_self f (by simpa using hm)
theorem abF {nm:List Nat} {k g:Nat} (h:(nm.zipIdx.filter fun p=>p.1==k)=[(k,g)]) (hk:(0==k)=false) {f:Nat} (hf:nm.getD f 0=k):f=g:=by
 have hlt:f<nm.length:=by
  rcases Nat.lt_or_ge f nm.length with e|e
  ·exact e
  ·simp only[List.getD,List.getElem?_eq_none e,Option.getD_none]at hf;subst hf;simp at hk
 have:(k,f)∈nm.zipIdx.filter fun p=>p.1==k:=by
  refine List.mem_filter.2 ⟨List.mem_iff_getElem?.2 ⟨f,?_⟩,by simp⟩
  simp only[List.getD]at hf
  rw[List.getElem?_eq_getElem hlt]at hf
  simp [List.getElem?_eq_getElem hlt,←hf]
 rw[h]at this
 simpa using this
theorem iT {P:Program} {nm:List Nat} {k g:Nat} {m:List U→Heap→Option (U×Heap)} (hs:Sound P nm g m) (h:(nm.zipIdx.filter fun p=>p.1==k)=[(k,g)]) (hk:(0==k)=false):∀f,nm.getD f 0=k→Sound P nm f m:=
 fun f hf=>by have e:=abF h hk hf;subst e;exact hs
def fuel (F:(Nat→List U→Heap→Option (U×Heap))→List (Nat×(List U→Heap→Option (U×Heap)))):Nat→Nat→List U→Heap→Option (U×Heap)
 |0,_=>fun _ _=>none
 |n+1,k=>A.tab (fun _ _=>none) (F (fuel F n)) k
namespace A
def fD (f:U→Heap→Option (U×Heap)):List U→Heap→Option (U×Heap)
 |[x0],σ=>f x0 σ
 |_,_=>none
def ep (f:U→U→Heap→Option (U×Heap)):List U→Heap→Option (U×Heap)
 |[x0,x1],σ=>f x0 x1 σ
 |_,_=>none
def fE (f:U→U→U→Heap→Option (U×Heap)):List U→Heap→Option (U×Heap)
 |[x0,x1,x2],σ=>f x0 x1 x2 σ
 |_,_=>none
def GK (f:U→U→U→U→Heap→Option (U×Heap)):List U→Heap→Option (U×Heap)
 |[x0,x1,x2,x3],σ=>f x0 x1 x2 x3 σ
 |_,_=>none
def Lw (f:U→U→U→U→U→Heap→Option (U×Heap)):List U→Heap→Option (U×Heap)
 |[x0,x1,x2,x3,x4],σ=>f x0 x1 x2 x3 x4 σ
 |_,_=>none
def Lx (f:U→U→U→U→U→U→Heap→Option (U×Heap)):List U→Heap→Option (U×Heap)
 |[x0,x1,x2,x3,x4,x5],σ=>f x0 x1 x2 x3 x4 x5 σ
 |_,_=>none
def Ly (f:U→U→U→U→U→U→U→Heap→Option (U×Heap)):List U→Heap→Option (U×Heap)
 |[x0,x1,x2,x3,x4,x5,x6],σ=>f x0 x1 x2 x3 x4 x5 x6 σ
 |_,_=>none
end A
section
variable {X : Fx} {f : FuncId} {fn : Func} {bF : jM}
theorem Sound.AZ {m:U→Heap→Option (U×Heap)} (keep:mS) (hkeep:keep.Ok) (hs:cD X) (hf:X.P.funcs[f]? =some fn) (hc:∀bV w,(callFunc f bV).run X.P w=.ok (.enter f bV) w) (he:∀(x0:U) (σ:Heap),mX X keep bF fn [x0] σ=m x0 σ):Sound X.P X.nm f (A.fD m):=by
 intro args σ r σ' h
 unfold A.fD at h
 split at h
 ·exact xP hs hkeep hf hc ((he _ _).trans h)
 ·cases h
theorem Sound.qy {m:U→U→Heap→Option (U×Heap)} (keep:mS) (hkeep:keep.Ok) (hs:cD X) (hf:X.P.funcs[f]? =some fn) (hc:∀bV w,(callFunc f bV).run X.P w=.ok (.enter f bV) w) (he:∀(x0 x1:U) (σ:Heap),mX X keep bF fn [x0,x1] σ=m x0 x1 σ):Sound X.P X.nm f (A.ep m):=by
 intro args σ r σ' h
 unfold A.ep at h
 split at h
 ·exact xP hs hkeep hf hc ((he _ _ _).trans h)
 ·cases h
theorem Sound.qz {m:U→U→U→Heap→Option (U×Heap)} (keep:mS) (hkeep:keep.Ok) (hs:cD X) (hf:X.P.funcs[f]? =some fn) (hc:∀bV w,(callFunc f bV).run X.P w=.ok (.enter f bV) w) (he:∀(x0 x1 x2:U) (σ:Heap),mX X keep bF fn [x0,x1,x2] σ=m x0 x1 x2 σ):Sound X.P X.nm f (A.fE m):=by
 intro args σ r σ' h
 unfold A.fE at h
 split at h
 ·exact xP hs hkeep hf hc ((he _ _ _ _).trans h)
 ·cases h
theorem Sound.adC {m:U→U→U→U→Heap→Option (U×Heap)} (keep:mS) (hkeep:keep.Ok) (hs:cD X) (hf:X.P.funcs[f]? =some fn) (hc:∀bV w,(callFunc f bV).run X.P w=.ok (.enter f bV) w) (he:∀(x0 x1 x2 x3:U) (σ:Heap),mX X keep bF fn [x0,x1,x2,x3] σ=m x0 x1 x2 x3 σ):Sound X.P X.nm f (A.GK m):=by
 intro args σ r σ' h
 unfold A.GK at h
 split at h
 ·exact xP hs hkeep hf hc ((he _ _ _ _ _).trans h)
 ·cases h
theorem Sound.adD {m:U→U→U→U→U→Heap→Option (U×Heap)} (keep:mS) (hkeep:keep.Ok) (hs:cD X) (hf:X.P.funcs[f]? =some fn) (hc:∀bV w,(callFunc f bV).run X.P w=.ok (.enter f bV) w) (he:∀(x0 x1 x2 x3 x4:U) (σ:Heap),mX X keep bF fn [x0,x1,x2,x3,x4] σ=m x0 x1 x2 x3 x4 σ):Sound X.P X.nm f (A.Lw m):=by
 intro args σ r σ' h
 unfold A.Lw at h
 split at h
 ·exact xP hs hkeep hf hc ((he _ _ _ _ _ _).trans h)
 ·cases h
theorem Sound.adE {m:U→U→U→U→U→U→Heap→Option (U×Heap)} (keep:mS) (hkeep:keep.Ok) (hs:cD X) (hf:X.P.funcs[f]? =some fn) (hc:∀bV w,(callFunc f bV).run X.P w=.ok (.enter f bV) w) (he:∀(x0 x1 x2 x3 x4 x5:U) (σ:Heap),mX X keep bF fn [x0,x1,x2,x3,x4,x5] σ=m x0 x1 x2 x3 x4 x5 σ):Sound X.P X.nm f (A.Lx m):=by
 intro args σ r σ' h
 unfold A.Lx at h
 split at h
 ·exact xP hs hkeep hf hc ((he _ _ _ _ _ _ _).trans h)
 ·cases h
theorem Sound.adF {m:U→U→U→U→U→U→U→Heap→Option (U×Heap)} (keep:mS) (hkeep:keep.Ok) (hs:cD X) (hf:X.P.funcs[f]? =some fn) (hc:∀bV w,(callFunc f bV).run X.P w=.ok (.enter f bV) w) (he:∀(x0 x1 x2 x3 x4 x5 x6:U) (σ:Heap),mX X keep bF fn [x0,x1,x2,x3,x4,x5,x6] σ=m x0 x1 x2 x3 x4 x5 x6 σ):Sound X.P X.nm f (A.Ly m):=by
 intro args σ r σ' h
 unfold A.Ly at h
 split at h
 ·exact xP hs hkeep hf hc ((he _ _ _ _ _ _ _ _).trans h)
 ·cases h
end
end
abbrev iy:List Sh:=[.k,.k,.k,.k,.k,.k,.k,(.s 2),.k,.k,(.s 8)]
abbrev yx:List Sh:=[.k,.k,.k,.k,.k,.k,(.s 3)]
abbrev jL:List Sh:=[.k,.k,(.e 7 yx)]
abbrev tj:Sh:=(.e 3 [.k,.k,(.s 3)])
section
set_option maxRecDepth 100000
noncomputable def aJ:List Nat:=[0,0,0,302,307,310,312,322,323,324,325,326,283,284,202,222,303,304,305,224,306,308,309,252,300,92,311,321,320,313,299,159,314,315,316,142,178,14,13,179,192,282,134,169,4,194,196,195,253,197,219,198,201,182,221,203,212,240,186,251,213,298,277,214,141,272,183,218,188,273,133,275,239,143,228,236,233,249,227,90,86,91,318,206,158,180,0,271,140,1,72,125,126,176,177,89,130,131,193,181,93,250,199,200,220,204,211,184,185,59,0,217,187,132,207,223,238,139,70,3,65,225,232,235,234,226,0,297,0,258,0,0,191,205,58,216,81,5,0,210,69,71,73,2,138,66,231,229,0,259,261,0,266,267,268,269,270,256,257,0,190,215,80,209,63,67,68,64,230,286,288,0,292,293,294,295,296,260,262,0,265,264,0,189,208,62,287,291,290,263,60,61,289,0,0,0,0,0,0,0,0,0,0,0,0,0,0,0,0]
section
variable {l : List (FuncId × (List U → Heap → Option (U × Heap)))} {f : FuncId} {fn : Func} {ro : Bool} {bL : List Sh} {cC : Sh}
noncomputable def yW (l:List (FuncId×(List U→Heap→Option (U×Heap)))) (L:List Nat) (n:Nat):Fx:=⟨Try.prog,aJ,A.tab (fun _ _=>none) l,fun _ _ _=>none,L,[],n,[]⟩
theorem q1 {m:U→Heap→Option (U×Heap)} (L:List Nat) (n:Nat) (bF:jM) (h:∀p∈l,Sound Try.prog aJ p.1 p.2) (hf:Try.prog.funcs[f]? =some fn) (hc:∀bV w,(callFunc f bV).run Try.prog w=.ok (.enter f bV) w) (he:∀(x0:U) (σ:Heap),mX (yW l L n) .F bF fn [x0] σ=m x0 σ) (hi:Sh.cB bL=true) (ho:cC.ok=true):Sound Try.prog aJ f (A.wrap ro bL cC (A.fD m)):=Sound.wrap (Sound.AZ .F trivial (cD.of rfl h fun _=>Sound.none) hf hc he) _ _ _ hi ho
theorem q2 {m:U→U→Heap→Option (U×Heap)} (L:List Nat) (n:Nat) (bF:jM) (h:∀p∈l,Sound Try.prog aJ p.1 p.2) (hf:Try.prog.funcs[f]? =some fn) (hc:∀bV w,(callFunc f bV).run Try.prog w=.ok (.enter f bV) w) (he:∀(x0 x1:U) (σ:Heap),mX (yW l L n) .F bF fn [x0,x1] σ=m x0 x1 σ) (hi:Sh.cB bL=true) (ho:cC.ok=true):Sound Try.prog aJ f (A.wrap ro bL cC (A.ep m)):=Sound.wrap (Sound.qy .F trivial (cD.of rfl h fun _=>Sound.none) hf hc he) _ _ _ hi ho
theorem q3 {m:U→U→U→Heap→Option (U×Heap)} (L:List Nat) (n:Nat) (bF:jM) (h:∀p∈l,Sound Try.prog aJ p.1 p.2) (hf:Try.prog.funcs[f]? =some fn) (hc:∀bV w,(callFunc f bV).run Try.prog w=.ok (.enter f bV) w) (he:∀(x0 x1 x2:U) (σ:Heap),mX (yW l L n) .F bF fn [x0,x1,x2] σ=m x0 x1 x2 σ) (hi:Sh.cB bL=true) (ho:cC.ok=true):Sound Try.prog aJ f (A.wrap ro bL cC (A.fE m)):=Sound.wrap (Sound.qz .F trivial (cD.of rfl h fun _=>Sound.none) hf hc he) _ _ _ hi ho
theorem q4 {m:U→U→U→U→Heap→Option (U×Heap)} (L:List Nat) (n:Nat) (bF:jM) (h:∀p∈l,Sound Try.prog aJ p.1 p.2) (hf:Try.prog.funcs[f]? =some fn) (hc:∀bV w,(callFunc f bV).run Try.prog w=.ok (.enter f bV) w) (he:∀(x0 x1 x2 x3:U) (σ:Heap),mX (yW l L n) .F bF fn [x0,x1,x2,x3] σ=m x0 x1 x2 x3 σ) (hi:Sh.cB bL=true) (ho:cC.ok=true):Sound Try.prog aJ f (A.wrap ro bL cC (A.GK m)):=Sound.wrap (Sound.adC .F trivial (cD.of rfl h fun _=>Sound.none) hf hc he) _ _ _ hi ho
theorem q5 {m:U→U→U→U→U→Heap→Option (U×Heap)} (L:List Nat) (n:Nat) (bF:jM) (h:∀p∈l,Sound Try.prog aJ p.1 p.2) (hf:Try.prog.funcs[f]? =some fn) (hc:∀bV w,(callFunc f bV).run Try.prog w=.ok (.enter f bV) w) (he:∀(x0 x1 x2 x3 x4:U) (σ:Heap),mX (yW l L n) .F bF fn [x0,x1,x2,x3,x4] σ=m x0 x1 x2 x3 x4 σ) (hi:Sh.cB bL=true) (ho:cC.ok=true):Sound Try.prog aJ f (A.wrap ro bL cC (A.Lw m)):=Sound.wrap (Sound.adD .F trivial (cD.of rfl h fun _=>Sound.none) hf hc he) _ _ _ hi ho
theorem q6 {m:U→U→U→U→U→U→Heap→Option (U×Heap)} (L:List Nat) (n:Nat) (bF:jM) (h:∀p∈l,Sound Try.prog aJ p.1 p.2) (hf:Try.prog.funcs[f]? =some fn) (hc:∀bV w,(callFunc f bV).run Try.prog w=.ok (.enter f bV) w) (he:∀(x0 x1 x2 x3 x4 x5:U) (σ:Heap),mX (yW l L n) .F bF fn [x0,x1,x2,x3,x4,x5] σ=m x0 x1 x2 x3 x4 x5 σ) (hi:Sh.cB bL=true) (ho:cC.ok=true):Sound Try.prog aJ f (A.wrap ro bL cC (A.Lx m)):=Sound.wrap (Sound.adE .F trivial (cD.of rfl h fun _=>Sound.none) hf hc he) _ _ _ hi ho
theorem q7 {m:U→U→U→U→U→U→U→Heap→Option (U×Heap)} (L:List Nat) (n:Nat) (bF:jM) (h:∀p∈l,Sound Try.prog aJ p.1 p.2) (hf:Try.prog.funcs[f]? =some fn) (hc:∀bV w,(callFunc f bV).run Try.prog w=.ok (.enter f bV) w) (he:∀(x0 x1 x2 x3 x4 x5 x6:U) (σ:Heap),mX (yW l L n) .F bF fn [x0,x1,x2,x3,x4,x5,x6] σ=m x0 x1 x2 x3 x4 x5 x6 σ) (hi:Sh.cB bL=true) (ho:cC.ok=true):Sound Try.prog aJ f (A.wrap ro bL cC (A.Ly m)):=Sound.wrap (Sound.adF .F trivial (cD.of rfl h fun _=>Sound.none) hf hc he) _ _ _ hi ho
end
end
abbrev aS (n:Int):Prop:=-9223372036854775808≤n∧n≤9223372036854775807
abbrev br:Nat:=9223372036854775807
def fQ {κ:Type} [DecidableEq κ] (k:κ) (S:List κ):Bool:=S.any fun x=>decide (x=k)
theorem Af {κ:Type} [DecidableEq κ] {k:κ} {S:List κ}:fQ k S=true↔k∈S:=by
 simp only[fQ,List.any_eq_true,decide_eq_true_eq]
 exact⟨fun⟨x,h,e⟩=>e▸h,fun h=>⟨k,h,rfl⟩⟩
theorem ER {κ:Type} [DecidableEq κ] {k:κ} {S:List κ}:fQ k S=false↔k∉S:=by
 rw[←Af];simp
def AK (n:Int):List U:=[.int .i64 n]
def acW (s:ByteArray):List U:=[.str s]
def sl {α:Type} (sz:Nat) (c:α→List U) (l:List α):U:=.sl sz (l.map c)
def cB {α:Type} (p:α→Prop) (l:List α):Prop:=l.length≤br∧∀x∈l,p x
def fK (s:ByteArray):Prop:=s.size≤br
theorem QX (n:Int):A.aq 0 (AK n)=some (.int .i64 n):=rfl
theorem QY (s:ByteArray):A.aq 0 (acW s)=some (.str s):=rfl
structure kK where
 time:Int
 way:Int
deriving DecidableEq
def eS (x:kK):List U:=[.int .i64 x.time,.int .i64 x.way]
theorem W2 (x:kK):(eS x).length=2:=rfl
def QO (x:kK):Prop:=aS x.time∧aS x.way
theorem BD (x:kK):A.aq 0 (eS x)=some (.int .i64 x.time):=rfl
theorem BE (x:kK):A.aq 1 (eS x)=some (.int .i64 x.way):=rfl
theorem BN (x:kK):A.aD 0 2 (eS x)=some (.agg (eS x)):=rfl
theorem BL (x:kK):A.cells 2 (.agg (eS x))=some (eS x):=rfl
theorem BQ (x:kK) (l:List U) (h:l.length=2):A.splice 0 (eS x) l=some (eS x):=by
 simp [A.splice,W2,h]
structure nZ where
 kind:Int
 points:(List kK)
def ru (x:nZ):List U:=[.int .i64 x.kind,sl 2 eS x.points]
theorem WY (x:nZ):(ru x).length=2:=rfl
def aaL (x:nZ):Prop:=aS x.kind∧(cB QO) x.points
theorem qS (x:nZ):A.aq 0 (ru x)=some (.int .i64 x.kind):=rfl
theorem qT (x:nZ):A.aq 1 (ru x)=some (sl 2 eS x.points):=rfl
theorem qV (x:nZ):A.aD 0 2 (ru x)=some (.agg (ru x)):=rfl
theorem qU (x:nZ):A.cells 2 (.agg (ru x))=some (ru x):=rfl
theorem qW (x:nZ) (l:List U) (h:l.length=2):A.splice 0 (ru x) l=some (ru x):=by
 simp [A.splice,WY,h]
structure RX where
 oF:Int
 to:Int
 start:Int
 delay:Int
 time:Int
 fB:nZ
structure ZQ where
 time:Int
 level:Int
deriving DecidableEq
structure lX where
 low:Int
 high:Int
 name:ByteArray
deriving DecidableEq
def lE (x:lX):List U:=[.int .i64 x.low,.int .i64 x.high,.str x.name]
theorem W3 (x:lX):(lE x).length=3:=rfl
def JT (x:lX):Prop:=aS x.low∧aS x.high∧fK x.name
theorem EI (x:lX):A.aq 0 (lE x)=some (.int .i64 x.low):=rfl
theorem EJ (x:lX):A.aq 1 (lE x)=some (.int .i64 x.high):=rfl
theorem EL (x:lX):A.aq 2 (lE x)=some (.str x.name):=rfl
theorem E9 (x:lX):A.aD 0 3 (lE x)=some (.agg (lE x)):=rfl
theorem EZ (x:lX):A.cells 3 (.agg (lE x))=some (lE x):=rfl
theorem Fc (x:lX) (l:List U) (h:l.length=3):A.splice 0 (lE x) l=some (lE x):=by
 simp [A.splice,W3,h]
structure eu where
 name:ByteArray
 group:Int
 mq:Int
 lK:Int
 default:Int
 snap:Bool
 ranges:(List lX)
def eA (x:eu):List U:=[.str x.name,.int .i64 x.group,.int .i64 x.mq,.int .i64 x.lK,.int .i64 x.default,.bool x.snap,sl 3 lE x.ranges]
theorem W1 (x:eu):(eA x).length=7:=rfl
def QN (x:eu):Prop:=fK x.name∧aS x.group∧aS x.mq∧aS x.lK∧aS x.default∧(cB JT) x.ranges
theorem xE (x:eu):A.aq 0 (eA x)=some (.str x.name):=rfl
theorem xF (x:eu):A.aq 1 (eA x)=some (.int .i64 x.group):=rfl
theorem xG (x:eu):A.aq 2 (eA x)=some (.int .i64 x.mq):=rfl
theorem xH (x:eu):A.aq 3 (eA x)=some (.int .i64 x.lK):=rfl
theorem xI (x:eu):A.aq 4 (eA x)=some (.int .i64 x.default):=rfl
theorem xJ (x:eu):A.aq 5 (eA x)=some (.bool x.snap):=rfl
theorem xK (x:eu):A.aq 6 (eA x)=some (sl 3 lE x.ranges):=rfl
theorem vK (x:eu):A.aD 0 7 (eA x)=some (.agg (eA x)):=rfl
theorem vI (x:eu):A.cells 7 (.agg (eA x))=some (eA x):=rfl
theorem qX (x:eu) (l:List U) (h:l.length=7):A.splice 0 (eA x) l=some (eA x):=by
 simp [A.splice,W1,h]
structure bG where
 name:ByteArray
 size:Int
 params:(List eu)
def ct (x:bG):List U:=[.str x.name,.int .i64 x.size,sl 7 eA x.params]
theorem VX (x:bG):(ct x).length=3:=rfl
def BM (x:bG):Prop:=fK x.name∧aS x.size∧(cB QN) x.params
theorem jT (x:bG):A.aq 0 (ct x)=some (.str x.name):=rfl
theorem jU (x:bG):A.aq 1 (ct x)=some (.int .i64 x.size):=rfl
theorem jV (x:bG):A.aq 2 (ct x)=some (sl 7 eA x.params):=rfl
theorem jX (x:bG):A.aD 0 3 (ct x)=some (.agg (ct x)):=rfl
theorem jW (x:bG):A.cells 3 (.agg (ct x))=some (ct x):=rfl
theorem jY (x:bG) (l:List U) (h:l.length=3):A.splice 0 (ct x) l=some (ct x):=by
 simp [A.splice,VX,h]
structure bE where
 number:Int
 profile:ByteArray
 univ:Int
 address:Int
deriving DecidableEq
def bX (x:bE):List U:=[.int .i64 x.number,.str x.profile,.int .i64 x.univ,.int .i64 x.address]
theorem XW (x:bE):(bX x).length=4:=rfl
def RE (x:bE):Prop:=aS x.number∧fK x.profile∧aS x.univ∧aS x.address
theorem lp (x:bE):A.aq 0 (bX x)=some (.int .i64 x.number):=rfl
theorem lq (x:bE):A.aq 1 (bX x)=some (.str x.profile):=rfl
theorem lu (x:bE):A.aq 2 (bX x)=some (.int .i64 x.univ):=rfl
theorem lz (x:bE):A.aq 3 (bX x)=some (.int .i64 x.address):=rfl
theorem kg (x:bE):A.aD 0 4 (bX x)=some (.agg (bX x)):=rfl
theorem kf (x:bE):A.cells 4 (.agg (bX x))=some (bX x):=rfl
theorem kj (x:bE) (l:List U) (h:l.length=4):A.splice 0 (bX x) l=some (bX x):=by
 simp [A.splice,XW,h]
structure aV where
 bp:(List bG)
 units:(List bE)
def bh (x:aV):List U:=[sl 3 ct x.bp,sl 4 bX x.units]
theorem YW (x:aV):(bh x).length=2:=rfl
def gK (x:aV):Prop:=(cB BM) x.bp∧(cB RE) x.units
theorem oP (x:aV):A.aq 0 (bh x)=some (sl 3 ct x.bp):=rfl
theorem oQ (x:aV):A.aq 1 (bh x)=some (sl 4 bX x.units):=rfl
theorem oU (x:aV):A.aD 0 2 (bh x)=some (.agg (bh x)):=rfl
theorem oT (x:aV):A.cells 2 (.agg (bh x))=some (bh x):=rfl
theorem oV (x:aV) (l:List U) (h:l.length=2):A.splice 0 (bh x) l=some (bh x):=by
 simp [A.splice,YW,h]
structure az where
 unit:Int
 param:ByteArray
deriving DecidableEq
def aH (x:az):List U:=[.int .i64 x.unit,.str x.param]
theorem YV (x:az):(aH x).length=2:=rfl
def Ss (x:az):Prop:=aS x.unit∧fK x.param
theorem I3 (x:az):A.aq 0 (aH x)=some (.int .i64 x.unit):=rfl
theorem I4 (x:az):A.aq 1 (aH x)=some (.str x.param):=rfl
theorem FV (x:az):A.aD 0 2 (aH x)=some (.agg (aH x)):=rfl
theorem JE (x:az):A.cells 2 (.agg (aH x))=some (aH x):=rfl
theorem yc (x:az) (l:List U) (h:l.length=2):A.splice 0 (aH x) l=some (aH x):=by
 simp [A.splice,YV,h]
structure bW where
 key:az
 level:Int
deriving DecidableEq
def ck (x:bW):List U:=[.int .i64 x.key.unit,.str x.key.param,.int .i64 x.level]
theorem VY (x:bW):(ck x).length=3:=rfl
def OL (x:bW):Prop:=Ss x.key∧aS x.level
theorem BG (x:bW) (l:List U) (h:l.length=3):A.splice 0 (ck x) l=some (ck x):=by
 simp [A.splice,VY,h]
structure bJ where
 number:Int
 title:ByteArray
 jq:(List bW)
def gh (x:bJ):List U:=[.int .i64 x.number,.str x.title,sl 3 ck x.jq]
theorem Wu (x:bJ):(gh x).length=3:=rfl
def nX (x:bJ):Prop:=aS x.number∧fK x.title∧(cB OL) x.jq
theorem Og (x:bJ) (l:List U) (h:l.length=3):A.splice 0 (gh x) l=some (gh x):=by
 simp [A.splice,Wu,h]
structure acC where
 adL:(List Int)
 block:Int
 ad0:Int
structure fN where
 level:Int
 dV:Int
deriving DecidableEq
def qn (x:fN):List U:=[.int .i64 x.level,.int .i64 x.dV]
def aaM (x:fN):Prop:=aS x.level∧aS x.dV
structure aM where
 key:az
 value:fN
 release:Bool
 yw:Bool
 delay:Int
 time:Int
deriving DecidableEq
def aK (x:aM):List U:=[.int .i64 x.key.unit,.str x.key.param,.int .i64 x.value.level,.int .i64 x.value.dV,.bool x.release,.bool x.yw,.int .i64 x.delay,.int .i64 x.time]
theorem XV (x:aM):(aK x).length=8:=rfl
def rC (x:aM):Prop:=Ss x.key∧aaM x.value∧aS x.delay∧aS x.time
theorem Xm (x:aM):A.aq 0 (aK x)=some (.int .i64 x.key.unit):=rfl
theorem Xn (x:aM):A.aq 1 (aK x)=some (.str x.key.param):=rfl
theorem Xo (x:aM):A.aq 2 (aK x)=some (.int .i64 x.value.level):=rfl
theorem Xp (x:aM):A.aq 3 (aK x)=some (.int .i64 x.value.dV):=rfl
theorem Xq (x:aM):A.aq 4 (aK x)=some (.bool x.release):=rfl
theorem Xr (x:aM):A.aq 5 (aK x)=some (.bool x.yw):=rfl
theorem Xt (x:aM):A.aq 6 (aK x)=some (.int .i64 x.delay):=rfl
theorem Xu (x:aM):A.aq 7 (aK x)=some (.int .i64 x.time):=rfl
theorem Ia (x:aM):A.aD 0 2 (aK x)=some (.agg (aH x.key)):=rfl
theorem Vz (x:aM):A.aD 2 2 (aK x)=some (.agg (qn x.value)):=rfl
theorem xV (x:aM):A.aD 0 8 (aK x)=some (.agg (aK x)):=rfl
theorem Fh (x:aM):A.cells 8 (.agg (aK x))=some (aK x):=rfl
theorem xX (x:aM) (l:List U) (h:l.length=8):A.splice 0 (aK x) l=some (aK x):=by
 simp [A.splice,XV,h]
structure aG where
 number:Int
 title:ByteArray
 delay:Int
 up:Int
 down:Int
 other:Int
 fB:nZ
 block:Bool
 follow:Int
 aL:(List aM)
def aQ (x:aG):List U:=[.int .i64 x.number,.str x.title,.int .i64 x.delay,.int .i64 x.up,.int .i64 x.down,.int .i64 x.other,.int .i64 x.fB.kind,sl 2 eS x.fB.points,.bool x.block,.int .i64 x.follow,sl 8 aK x.aL]
theorem YU (x:aG):(aQ x).length=11:=rfl
def mP (x:aG):Prop:=aS x.number∧fK x.title∧aS x.delay∧aS x.up∧aS x.down∧aS x.other∧aaL x.fB∧aS x.follow∧(cB rC) x.aL
theorem xZ (x:aG):A.aD 0 11 (aQ x)=some (.agg (aQ x)):=rfl
theorem Qp (x:aG):A.cells 11 (.agg (aQ x))=some (aQ x):=rfl
theorem Cd (x:aG) (l:List U) (h:l.length=11):A.splice 0 (aQ x) l=some (aQ x):=by
 simp [A.splice,YU,h]
structure bB where
 key:az
 value:fN
 LN:Int
deriving DecidableEq
def jc (x:bB):List U:=[.int .i64 x.key.unit,.str x.key.param,.int .i64 x.value.level,.int .i64 x.value.dV,.int .i64 x.LN]
theorem WZ (x:bB):(jc x).length=5:=rfl
theorem YG (x:bB) (l:List U) (h:l.length=5):A.splice 0 (jc x) l=some (jc x):=by
 simp [A.splice,WZ,h]
structure kr where
 unit:Int
 oF:Int
 to:Int
deriving DecidableEq
def fA (x:kr):List U:=[.int .i64 x.unit,.int .i64 x.oF,.int .i64 x.to]
theorem XU (x:kr):(fA x).length=3:=rfl
theorem Zu (x:kr):A.aD 0 3 (fA x)=some (.agg (fA x)):=rfl
theorem YX (x:kr):A.cells 3 (.agg (fA x))=some (fA x):=rfl
theorem ZK (x:kr) (l:List U) (h:l.length=3):A.splice 0 (fA x) l=some (fA x):=by
 simp [A.splice,XU,h]
structure RY where
 number:Int
 ad1:(List aG)
structure Oo where
 number:Int
 list:Int
 priority:Int
deriving DecidableEq
structure abk where
 rig:aV
 ak:(List bJ)
 lists:(List RY)
 adJ:(List Oo)
structure Qk where
 time:Int
 kind:Int
 Zw:Int
 LN:Int
 level:Int
deriving DecidableEq
structure abi where
 mq:Int
 action:Qk
deriving DecidableEq
structure abl where
 hours:Int
 minutes:Int
 seconds:Int
 frames:Int
deriving DecidableEq
structure SF where
 key:az
 ac6:RX
 adQ:Int
 ending:Bool
structure XR where
 Zw:Int
 LN:Int
 adT:Int
 adP:Bool
 follow:Int
 runs:(List SF)
structure Ns where
 level:Int
 hold:Int
 ac6:Int
deriving DecidableEq
structure Ql where
 form:Int
 low:Int
 high:Int
 adR:Int
 width:Int
 spread:Int
 back:Bool
 adK:Bool
 steps:(List Ns)
structure RZ where
 time:Int
 adM:Int
deriving DecidableEq
structure YP where
 effect:Ql
 keys:(List az)
 start:Int
 adY:(List RZ)
 Be:Int
 fin:Int
 out:Int
def Ei:List U→Heap→Option (U×Heap):=A.ep fun a b σ=>match a,b with
 |.str a,.str b=>some (.int .i64 (Lib.compareBytes a.data.toList b.data.toList),σ)
 |_,_=>none
def sH:List U→Heap→Option (U×Heap):=A.ep fun a b σ=>match a,b with
 |.sl sz es,.os id g sz' off len=>match σ[id]? with
  |some (.arr h s es')=>if es≠[]∧g=h∧es'≠[]∧0<len then some (.bool false,σ)else none
  |_=>none
 |_,_=>none
section
set_option maxRecDepth 100000
noncomputable def D1 (dyn:Nat→List U→Heap→Option (U×Heap)) (a0 a1:U) (σ:Heap):Option (U×Heap):=
 (A.bf a0).bind fun x1=>
 (A.loop (fun v2 s3=>
   (A.lss (v2.getD 1 U.undef) x1).bind fun x5=>
   A.cond x5 (
    (A.aU 3 a0 (v2.getD 1 U.undef)).bind fun x6=>
    ((A.deref x6 s3).bind fun c7=>A.aD 0 3 c7).bind fun x8=>
    (A.fO dyn a1 [x8] s3).bind fun r9=>
    A.cond r9.1 (
     some (AX.ret,[(v2.getD 1 U.undef),(v2.getD 1 U.undef)],r9.2)) (
     (A.add (v2.getD 1 U.undef) aR).bind fun bu=>
     some (AX.normal,[(v2.getD 0 U.undef),bu],r9.2))) (
    some (AX.exit 0,[(v2.getD 0 U.undef),(v2.getD 1 U.undef)],s3))) [aj,aj] σ).bind fun cg=>
 bif cg.1==AX.exit 0 then(
  A.fin σ (U.int .i64 (-1)) cg.2.2)else
 bif cg.1==AX.ret then(
  A.fin σ (cg.2.1.getD 0 U.undef) cg.2.2)else
 none
noncomputable def tY (dyn:Nat→List U→Heap→Option (U×Heap)):List U→Heap→Option (U×Heap):=A.wrap true [(.s 3)] .k (A.ep (D1 dyn))
noncomputable def D7 (dyn:Nat→List U→Heap→Option (U×Heap)) (a0 a1:U) (σ:Heap):Option (U×Heap):=
 (A.bf a0).bind fun x1=>
 (A.loop (fun v2 s3=>
   (A.lss (v2.getD 1 U.undef) x1).bind fun x5=>
   A.cond x5 (
    (A.aU 2 a0 (v2.getD 1 U.undef)).bind fun x6=>
    ((A.deref x6 s3).bind fun c7=>A.aD 0 2 c7).bind fun x8=>
    (A.fO dyn a1 [x8] s3).bind fun r9=>
    A.cond r9.1 (
     some (AX.ret,[(v2.getD 1 U.undef),(v2.getD 1 U.undef)],r9.2)) (
     (A.add (v2.getD 1 U.undef) aR).bind fun bu=>
     some (AX.normal,[(v2.getD 0 U.undef),bu],r9.2))) (
    some (AX.exit 0,[(v2.getD 0 U.undef),(v2.getD 1 U.undef)],s3))) [aj,aj] σ).bind fun cg=>
 bif cg.1==AX.exit 0 then(
  A.fin σ (U.int .i64 (-1)) cg.2.2)else
 bif cg.1==AX.ret then(
  A.fin σ (cg.2.1.getD 0 U.undef) cg.2.2)else
 none
noncomputable def D6 (dyn:Nat→List U→Heap→Option (U×Heap)):List U→Heap→Option (U×Heap):=A.wrap true [(.s 2)] .k (A.ep (D7 dyn))
noncomputable def D3 (dyn:Nat→List U→Heap→Option (U×Heap)) (a0 a1:U) (σ:Heap):Option (U×Heap):=
 (D6 dyn [a0,a1] σ).bind fun r1=>
 (A.geq r1.1 aj).bind fun x2=>
 A.fin σ x2 r1.2
noncomputable def D2 (dyn:Nat→List U→Heap→Option (U×Heap)):List U→Heap→Option (U×Heap):=A.wrap true [(.s 2)] .k (A.ep (D3 dyn))
noncomputable def D5 (dyn:Nat→List U→Heap→Option (U×Heap)) (a0 a1:U) (σ:Heap):Option (U×Heap):=
 (A.bf a0).bind fun x1=>
 (A.loop (fun v2 s3=>
   (A.lss (v2.getD 1 U.undef) x1).bind fun x5=>
   A.cond x5 (
    (A.aU 8 a0 (v2.getD 1 U.undef)).bind fun x6=>
    ((A.deref x6 s3).bind fun c7=>A.aD 0 8 c7).bind fun x8=>
    (A.fO dyn a1 [x8] s3).bind fun r9=>
    A.cond r9.1 (
     some (AX.ret,[(v2.getD 1 U.undef),(v2.getD 1 U.undef)],r9.2)) (
     (A.add (v2.getD 1 U.undef) aR).bind fun bu=>
     some (AX.normal,[(v2.getD 0 U.undef),bu],r9.2))) (
    some (AX.exit 0,[(v2.getD 0 U.undef),(v2.getD 1 U.undef)],s3))) [aj,aj] σ).bind fun cg=>
 bif cg.1==AX.exit 0 then(
  A.fin σ (U.int .i64 (-1)) cg.2.2)else
 bif cg.1==AX.ret then(
  A.fin σ (cg.2.1.getD 0 U.undef) cg.2.2)else
 none
noncomputable def D4 (dyn:Nat→List U→Heap→Option (U×Heap)):List U→Heap→Option (U×Heap):=A.wrap true [(.s 8)] .k (A.ep (D5 dyn))
noncomputable def D0 (dyn:Nat→List U→Heap→Option (U×Heap)) (a0 a1:U) (σ:Heap):Option (U×Heap):=
 (D4 dyn [a0,a1] σ).bind fun r1=>
 (A.geq r1.1 aj).bind fun x2=>
 A.fin σ x2 r1.2
noncomputable def Bm (dyn:Nat→List U→Heap→Option (U×Heap)):List U→Heap→Option (U×Heap):=A.wrap true [(.s 8)] .k (A.ep (D0 dyn))
noncomputable def MJ (a0:U) (σ:Heap):Option (U×Heap):=
 (A.uZ a0 U.aB).bind fun x1=>
 A.cond x1 (
  some (U.aB,σ)) (
  (A.append 2 (140737488355328 / 16) U.ez a0 σ).bind fun r2=>
  some (r2.1,r2.2))
noncomputable def D8:List U→Heap→Option (U×Heap):=A.Ch (A.wrap true [(.s 2)] .k (A.fD MJ))
noncomputable def ML (a0:U) (σ:Heap):Option (U×Heap):=
 (A.uZ a0 U.aB).bind fun x1=>
 A.cond x1 (
  some (U.aB,σ)) (
  (A.append 8 (140737488355328 / 64) U.ez a0 σ).bind fun r2=>
  some (r2.1,r2.2))
noncomputable def Eb:List U→Heap→Option (U×Heap):=A.Ch (A.wrap true [(.s 8)] .k (A.fD ML))
noncomputable def zD (dyn:Nat→List U→Heap→Option (U×Heap)) (a0 a1 a2:U) (σ:Heap):Option (U×Heap):=
 (A.bf a0).bind fun x1=>
 (A.loop (fun v2 s3=>
   (A.lss (v2.getD 0 U.undef) (v2.getD 1 U.undef)).bind fun x5=>
   A.cond x5 (
    (A.add (v2.getD 0 U.undef) (v2.getD 1 U.undef)).bind fun x6=>
    (A.conv .u64 x6).bind fun x7=>
    (A.shr x7 (U.int .u64 1)).bind fun x8=>
    (A.conv .i64 x8).bind fun x9=>
    (A.aU 11 a0 x9).bind fun bu=>
    ((A.deref bu s3).bind fun gz=>A.aD 0 11 gz).bind fun cE=>
    (A.fO dyn a2 [cE,a1] s3).bind fun gQ=>
    (A.lss gQ.1 aj).bind fun cA=>
    (A.cond cA (
     (A.add x9 aR).bind fun bM=>
     some ([bM,(v2.getD 1 U.undef)],gQ.2)) (
     some ([(v2.getD 0 U.undef),x9],gQ.2))).bind fun fR=>
    some (AX.normal,[(fR.1.getD 0 U.undef),(fR.1.getD 1 U.undef)],fR.2)) (
    some (AX.exit 0,[(v2.getD 0 U.undef),(v2.getD 1 U.undef)],s3))) [aj,x1] σ).bind fun xm=>
 bif xm.1==AX.exit 0 then(
  (A.lss (xm.2.1.getD 0 U.undef) x1).bind fun eL=>
  (A.guard eL true (some a2) ay).bind fun dw=>
  (A.guard eL true (some a0) ay).bind fun dJ=>
  (A.guard eL true (some (xm.2.1.getD 0 U.undef)) ay).bind fun bC=>
  (A.guard eL true (A.aU 11 dJ bC) ay).bind fun bT=>
  (A.guard eL true ((A.deref bT xm.2.2).bind fun iY=>A.aD 0 11 iY) ay).bind fun x24=>
  (A.guard eL true (some a1) ay).bind fun x25=>
  (A.guard eL true (A.quiet (A.fO dyn dw [x24,x25] xm.2.2) xm.2.2) ay).bind fun dY=>
  (A.guard eL true (A.eql .i dY aj) ay).bind fun dK=>
  (A.pick eL dK aP).bind fun x28=>
  A.fin σ (U.aA [(xm.2.1.getD 0 U.undef),x28]) xm.2.2)else
 none
noncomputable def zC (dyn:Nat→List U→Heap→Option (U×Heap)):List U→Heap→Option (U×Heap):=A.wrap true [(.s 11)] .k (A.fE (zD dyn))
noncomputable def DZ (dyn:Nat→List U→Heap→Option (U×Heap)) (a0 a1 a2:U) (σ:Heap):Option (U×Heap):=
 (A.cells 2 a1).bind fun c1=>
 (A.bf a0).bind fun x2=>
 (A.loop (fun v3 s4=>
   (A.lss (v3.getD 1 U.undef) (v3.getD 2 U.undef)).bind fun x6=>
   A.cond x6 (
    (A.add (v3.getD 1 U.undef) (v3.getD 2 U.undef)).bind fun x7=>
    (A.conv .u64 x7).bind fun x8=>
    (A.shr x8 (U.int .u64 1)).bind fun x9=>
    (A.conv .i64 x9).bind fun bu=>
    (A.aU 8 a0 bu).bind fun dc=>
    ((A.deref dc s4).bind fun cU=>A.aD 0 8 cU).bind fun cm=>
    ((A.lb (v3.getD 0 U.undef)).bind fun jC=>A.aD 0 2 jC).bind fun dR=>
    (A.quiet (A.fO dyn a2 [cm,dR] s4) s4).bind fun bM=>
    (A.lss bM aj).bind fun dI=>
    (A.cond dI (
     (A.add bu aR).bind fun dw=>
     some ([(v3.getD 0 U.undef),dw,(v3.getD 2 U.undef)],s4)) (
     some ([(v3.getD 0 U.undef),(v3.getD 1 U.undef),bu],s4))).bind fun qJ=>
    some (AX.normal,[(qJ.1.getD 0 U.undef),(qJ.1.getD 1 U.undef),(qJ.1.getD 2 U.undef)],qJ.2)) (
    some (AX.exit 0,[(v3.getD 0 U.undef),(v3.getD 1 U.undef),(v3.getD 2 U.undef)],s4))) [(U.lbx c1),aj,x2] σ).bind fun eH=>
 bif eH.1==AX.exit 0 then(
  (A.lss (eH.2.1.getD 1 U.undef) x2).bind fun bC=>
  (A.guard bC true (some a2) ay).bind fun bT=>
  (A.guard bC true (some a0) ay).bind fun eE=>
  (A.guard bC true (some (eH.2.1.getD 1 U.undef)) ay).bind fun x24=>
  (A.guard bC true (A.aU 8 eE x24) ay).bind fun x25=>
  (A.guard bC true ((A.deref x25 eH.2.2).bind fun jO=>A.aD 0 8 jO) ay).bind fun dK=>
  (A.guard bC true ((A.lb (eH.2.1.getD 0 U.undef)).bind fun nP=>A.aD 0 2 nP) ay).bind fun x29=>
  (A.guard bC true (A.quiet (A.fO dyn bT [dK,x29] eH.2.2) eH.2.2) ay).bind fun eM=>
  (A.guard bC true (A.eql .i eM aj) ay).bind fun x31=>
  (A.pick bC x31 aP).bind fun x32=>
  A.fin σ (U.aA [(eH.2.1.getD 1 U.undef),x32]) eH.2.2)else
 none
noncomputable def DY (dyn:Nat→List U→Heap→Option (U×Heap)):List U→Heap→Option (U×Heap):=A.wrap true [(.s 8)] .k (A.fE (DZ dyn))
noncomputable def D9 (a0 a1 a2:U) (σ:Heap):Option (U×Heap):=
 (A.bf a0).bind fun x1=>
 (A.slice3 a0 (some a1) a2 x1).bind fun x2=>
 (A.eql .i a1 a2).bind fun x3=>
 A.cond x3 (
  A.renew [a0,a1,a2] σ a0 σ) (
  (A.bf a0).bind fun x4=>
  (A.bN 8 a0 none (some a1) σ).bind fun x5=>
  (A.bN 8 a0 (some a2) none σ).bind fun x6=>
  (A.append 8 (140737488355328 / 64) x5 x6 σ).bind fun r7=>
  (A.bf r7.1).bind fun x8=>
  (A.bN 8 r7.1 (some x8) (some x4) r7.2).bind fun x9=>
  (A.yg 8 [aj,bw,aj,aj,aP,aP,aj,aj] x9 r7.2).bind fun Da=>
  A.renew [a0,a1,a2] σ r7.1 Da)
noncomputable def zF:List U→Heap→Option (U×Heap):=A.wrap false [] .k (A.fE D9)
noncomputable def MI (a0:U) (σ:Heap):Option (U×Heap):=
 (A.bf a0).bind fun x1=>
 (A.sub x1 aR).bind fun x2=>
 (A.loop (fun v3 s4=>
   (A.lss (v3.getD 0 U.undef) (v3.getD 1 U.undef)).bind fun x6=>
   A.cond x6 (
    (A.aU 8 a0 (v3.getD 1 U.undef)).bind fun x7=>
    ((A.deref x7 s4).bind fun c8=>A.aD 0 8 c8).bind fun x9=>
    (A.aU 8 a0 (v3.getD 0 U.undef)).bind fun bu=>
    ((A.deref bu s4).bind fun gz=>A.aD 0 8 gz).bind fun cE=>
    (A.aU 8 a0 (v3.getD 0 U.undef)).bind fun cm=>
    (A.cells 8 x9).bind fun jC=>
    (A.storeAt cm jC s4).bind fun iz=>
    (A.aU 8 a0 (v3.getD 1 U.undef)).bind fun bM=>
    (A.cells 8 cE).bind fun kS=>
    (A.storeAt bM kS iz).bind fun eP=>
    (A.add (v3.getD 0 U.undef) aR).bind fun dw=>
    (A.sub (v3.getD 1 U.undef) aR).bind fun dJ=>
    some (AX.normal,[dw,dJ],eP)) (
    some (AX.exit 0,[(v3.getD 0 U.undef),(v3.getD 1 U.undef)],s4))) [aj,x2] σ).bind fun qL=>
 bif qL.1==AX.exit 0 then(
  some ((U.aA []),qL.2.2))else
 none
noncomputable def Bo:List U→Heap→Option (U×Heap):=A.wrap false [] .k (A.fD MI)
noncomputable def MH (a0 a1:U) (σ:Heap):Option (U×Heap):=
 (A.bN 8 a0 none (some a1) σ).bind fun x1=>
 (Bo [x1] σ).bind fun r2=>
 (A.bN 8 a0 (some a1) none r2.2).bind fun x3=>
 (Bo [x3] r2.2).bind fun r4=>
 (Bo [a0] r4.2).bind fun r5=>
 some ((U.aA []),r5.2)
noncomputable def Hl:List U→Heap→Option (U×Heap):=A.wrap false [] .k (A.ep MH)
noncomputable def MG (a0 a1:U) (σ:Heap):Option (U×Heap):=
 (A.bf a0).bind fun x1=>
 (A.sub x1 a1).bind fun x2=>
 (Hl [a0,x2] σ).bind fun r3=>
 some ((U.aA []),r3.2)
noncomputable def Bn:List U→Heap→Option (U×Heap):=A.wrap false [] .k (A.ep MG)
noncomputable def Ea (a0 a1 a2:U) (σ:Heap):Option (U×Heap):=
 (A.bN 8 a0 (some a1) none σ).bind fun x1=>
 (A.bf a2).bind fun x2=>
 (A.eql .i x2 aj).bind fun x3=>
 A.cond x3 (
  A.renew [a0,a1,a2] σ a0 σ) (
  (A.bf a0).bind fun x4=>
  (A.eql .i a1 x4).bind fun x5=>
  A.cond x5 (
   (A.append 8 (140737488355328 / 64) a0 a2 σ).bind fun r6=>
   A.renew [a0,a1,a2] σ r6.1 r6.2) (
   (A.add x4 x2).bind fun x7=>
   A.wJ (A.CA a0) (fun x8=>
    (A.gtr x7 x8).bind fun x9=>
    A.cond x9 (
     (A.bN 8 a0 none (some a1) σ).bind fun bu=>
     (A.add x4 x2).bind fun dc=>
     (A.sub dc a1).bind fun cE=>
     (A.rj 8 (140737488355328 / 64) [aj,bw,aj,aj,aP,aP,aj,aj] bu cE σ).bind fun gQ=>
     (A.bN 8 gQ.1 (some a1) none gQ.2).bind fun cA=>
     (A.iH 8 cA a2 gQ.2).bind fun fR=>
     (A.add a1 x2).bind fun bM=>
     (A.bN 8 gQ.1 (some bM) none fR.2).bind fun dI=>
     (A.bN 8 a0 (some a1) none fR.2).bind fun eL=>
     (A.iH 8 dI eL fR.2).bind fun qK=>
     A.renew [a0,a1,a2] σ gQ.1 qK.2) (
     (A.add x4 x2).bind fun dJ=>
     (A.bN 8 a0 none (some dJ) σ).bind fun bC=>
     (A.add a1 x2).bind fun bT=>
     (A.bN 8 bC (some bT) none σ).bind fun eE=>
     (sH [a2,eE] σ).bind fun nw=>
     (A.not nw.1).bind fun x25=>
     A.cond x25 (
      (A.add a1 x2).bind fun dY=>
      (A.bN 8 bC (some dY) none nw.2).bind fun dK=>
      (A.bN 8 bC (some a1) none nw.2).bind fun x28=>
      (A.iH 8 dK x28 nw.2).bind fun mC=>
      (A.bN 8 bC (some a1) none mC.2).bind fun eM=>
      (A.iH 8 eM a2 mC.2).bind fun cZ=>
      A.renew [a0,a1,a2] σ bC cZ.2) (
      (A.bN 8 bC (some x4) none nw.2).bind fun x32=>
      (A.iH 8 x32 a2 nw.2).bind fun nU=>
      (A.bN 8 bC (some a1) none nU.2).bind fun x34=>
      (Bn [x34,x2] nU.2).bind fun Mm=>
      A.renew [a0,a1,a2] σ bC Mm.2))) (A.wK a0 σ fun n36 sA=>
    (A.gtr x7 (U.int .i64 n36)).bind fun x38=>
    A.cond x38 (
     (A.bN 8 a0 none (some a1) sA).bind fun iC=>
     (A.add x4 x2).bind fun eZ=>
     (A.sub eZ a1).bind fun mF=>
     (A.rj 8 (140737488355328 / 64) [aj,bw,aj,aj,aP,aP,aj,aj] iC mF sA).bind fun sx=>
     (A.bN 8 sx.1 (some a1) none sx.2).bind fun iD=>
     (A.iH 8 iD a2 sx.2).bind fun zk=>
     (A.add a1 x2).bind fun gU=>
     (A.bN 8 sx.1 (some gU) none zk.2).bind fun lU=>
     (A.bN 8 a0 (some a1) none zk.2).bind fun fI=>
     (A.iH 8 lU fI zk.2).bind fun pY=>
     A.renew [a0,a1,a2] σ sx.1 pY.2) (
     (A.add x4 x2).bind fun i7=>
     (A.bN 8 a0 none (some i7) sA).bind fun fL=>
     (A.add a1 x2).bind fun eW=>
     (A.bN 8 fL (some eW) none sA).bind fun fM=>
     (sH [a2,fM] sA).bind fun kX=>
     (A.not kX.1).bind fun gC=>
     A.cond gC (
      (A.add a1 x2).bind fun jj=>
      (A.bN 8 fL (some jj) none kX.2).bind fun gD=>
      (A.bN 8 fL (some a1) none kX.2).bind fun lg=>
      (A.iH 8 gD lg kX.2).bind fun DE=>
      (A.bN 8 fL (some a1) none DE.2).bind fun iO=>
      (A.iH 8 iO a2 DE.2).bind fun qM=>
      A.renew [a0,a1,a2] σ fL qM.2) (
      (A.bN 8 fL (some x4) none kX.2).bind fun gE=>
      (A.iH 8 gE a2 kX.2).bind fun vr=>
      (A.bN 8 fL (some a1) none vr.2).bind fun ff=>
      (Bn [ff,x2] vr.2).bind fun r64=>
      A.renew [a0,a1,a2] σ fL r64.2)))))
noncomputable def Bp:List U→Heap→Option (U×Heap):=A.wrap false [] .k (A.fE Ea)
end
section
set_option maxRecDepth 100000
noncomputable def IS (a0:U) (σ:Heap):Option (U×Heap):=
 (A.wV a0).bind fun x1=>
 (A.loop (fun v2 s3=>
   (A.lss (v2.getD 1 U.undef) x1).bind fun x5=>
   A.cond x5 (
    (A.oz a0 (v2.getD 1 U.undef)).bind fun x6=>
    (A.geq x6 (U.int .u8 97)).bind fun x7=>
    (A.guard x7 true (some x6) ay).bind fun x8=>
    (A.guard x7 true (A.leq x8 (U.int .u8 122)) ay).bind fun x9=>
    (A.pick x7 x9 aP).bind fun bu=>
    (A.guard bu false (some x6) ay).bind fun dc=>
    (A.guard bu false (A.geq dc (U.int .u8 48)) ay).bind fun cE=>
    (A.guard bu false (some cE) ay).bind fun cm=>
    (A.guard cm true (some x6) ay).bind fun cA=>
    (A.guard cm true (A.leq cA (U.int .u8 57)) ay).bind fun dR=>
    (A.guard bu false (A.pick cm dR aP) ay).bind fun bM=>
    (A.pick bu cq bM).bind fun dI=>
    (A.guard dI false (some x6) ay).bind fun eL=>
    (A.guard dI false (A.eql .i eL (U.int .u8 45)) ay).bind fun dw=>
    (A.pick dI cq dw).bind fun dJ=>
    (A.not dJ).bind fun bC=>
    A.cond bC (
     some (AX.ret,[aP,(v2.getD 1 U.undef)],s3)) (
     (A.add (v2.getD 1 U.undef) aR).bind fun bT=>
     some (AX.normal,[(v2.getD 0 U.undef),bT],s3))) (
    some (AX.exit 0,[(v2.getD 0 U.undef),(v2.getD 1 U.undef)],s3))) [aP,aj] σ).bind fun jh=>
 bif jh.1==AX.exit 0 then(
  (A.neq .z a0 bw).bind fun x24=>
  A.fin σ x24 jh.2.2)else
 bif jh.1==AX.ret then(
  A.fin σ (jh.2.1.getD 0 U.undef) jh.2.2)else
 none
noncomputable def IJ:List U→Heap→Option (U×Heap):=A.wrap true [] .k (A.fD IS)
noncomputable def Iu (a0:U) (σ:Heap):Option (U×Heap):=
 (IJ [a0] σ).bind fun r1=>
 (A.guard r1.1 true (some a0) ay).bind fun x2=>
 (A.guard r1.1 true (A.wV x2) ay).bind fun x3=>
 (A.guard r1.1 true (A.leq x3 (U.int .i64 20)) ay).bind fun x4=>
 (A.pick r1.1 x4 aP).bind fun x5=>
 (A.guard x5 true (some a0) ay).bind fun x6=>
 (A.guard x5 true (A.oz x6 aj) ay).bind fun x7=>
 (A.guard x5 true (A.geq x7 (U.int .u8 97)) ay).bind fun x8=>
 (A.pick x5 x8 aP).bind fun x9=>
 (A.guard x9 true (some a0) ay).bind fun bu=>
 (A.guard x9 true (A.oz bu aj) ay).bind fun dc=>
 (A.guard x9 true (A.leq dc (U.int .u8 122)) ay).bind fun cE=>
 (A.pick x9 cE aP).bind fun cm=>
 A.fin σ cm r1.2
noncomputable def zP:List U→Heap→Option (U×Heap):=A.wrap true [] .k (A.fD Iu)
noncomputable def HX (a0 a1 a2:U) (σ:Heap):Option (U×Heap):=
 (A.geq a0 a1).bind fun x1=>
 (A.guard x1 true (some a0) ay).bind fun x2=>
 (A.guard x1 true (some a2) ay).bind fun x3=>
 (A.guard x1 true (A.leq x2 x3) ay).bind fun x4=>
 (A.pick x1 x4 aP).bind fun x5=>
 A.fin σ x5 σ
noncomputable def jF:List U→Heap→Option (U×Heap):=A.wrap true [] .k (A.fE HX)
noncomputable def Iv (a0 a1:U) (σ:Heap):Option (U×Heap):=
 A.cond a0 (
  A.fin σ a1 σ) (
  A.fin σ aj σ)
noncomputable def BC:List U→Heap→Option (U×Heap):=A.wrap true [] .k (A.ep Iv)
noncomputable def Ij (a0:U) (σ:Heap):Option (U×Heap):=
 (A.bf a0).bind fun x1=>
 (A.loop (fun v2 s3=>
   (A.lss (v2.getD 1 U.undef) x1).bind fun x5=>
   A.cond x5 (
    (A.aU 1 a0 (v2.getD 1 U.undef)).bind fun x6=>
    ((A.deref x6 s3).bind fun c7=>A.aq 0 c7).bind fun x8=>
    (A.neq .i x8 aj).bind fun x9=>
    A.cond x9 (
     some (AX.ret,[x8,(v2.getD 1 U.undef)],s3)) (
     (A.add (v2.getD 1 U.undef) aR).bind fun bu=>
     some (AX.normal,[(v2.getD 0 U.undef),bu],s3))) (
    some (AX.exit 0,[(v2.getD 0 U.undef),(v2.getD 1 U.undef)],s3))) [aj,aj] σ).bind fun cg=>
 bif cg.1==AX.exit 0 then(
  A.fin σ aj cg.2.2)else
 bif cg.1==AX.ret then(
  A.fin σ (cg.2.1.getD 0 U.undef) cg.2.2)else
 none
noncomputable def EB:List U→Heap→Option (U×Heap):=A.wrap true [(.s 1)] .k (A.fD Ij)
noncomputable def Ik (a0:U) (σ:Heap):Option (U×Heap):=
 (A.wV a0).bind fun x1=>
 (A.loop (fun v2 s3=>
   (A.lss (v2.getD 1 U.undef) x1).bind fun x5=>
   A.cond x5 (
    (A.oz a0 (v2.getD 1 U.undef)).bind fun x6=>
    (A.lss x6 (U.int .u8 32)).bind fun x7=>
    (A.guard x7 false (some a0) ay).bind fun x8=>
    (A.guard x7 false (some (v2.getD 1 U.undef)) ay).bind fun x9=>
    (A.guard x7 false (A.oz x8 x9) ay).bind fun bu=>
    (A.guard x7 false (A.gtr bu (U.int .u8 126)) ay).bind fun dc=>
    (A.pick x7 cq dc).bind fun cE=>
    A.cond cE (
     some (AX.ret,[aP,(v2.getD 1 U.undef)],s3)) (
     (A.add (v2.getD 1 U.undef) aR).bind fun cm=>
     some (AX.normal,[(v2.getD 0 U.undef),cm],s3))) (
    some (AX.exit 0,[(v2.getD 0 U.undef),(v2.getD 1 U.undef)],s3))) [aP,aj] σ).bind fun gB=>
 bif gB.1==AX.exit 0 then(
  (A.neq .z a0 bw).bind fun dR=>
  (A.guard dR true (some a0) ay).bind fun bM=>
  (A.guard dR true (A.wV bM) ay).bind fun dI=>
  (A.guard dR true (A.leq dI (U.int .i64 60)) ay).bind fun eL=>
  (A.pick dR eL aP).bind fun dw=>
  (A.guard dw true (some a0) ay).bind fun dJ=>
  (A.guard dw true (A.oz dJ aj) ay).bind fun bC=>
  (A.guard dw true (A.neq .i bC (U.int .u8 32)) ay).bind fun bT=>
  (A.pick dw bT aP).bind fun eE=>
  (A.guard eE true (some a0) ay).bind fun x24=>
  (A.guard eE true (some a0) ay).bind fun x25=>
  (A.guard eE true (A.wV x25) ay).bind fun dY=>
  (A.guard eE true (A.sub dY aR) ay).bind fun dK=>
  (A.guard eE true (A.oz x24 dK) ay).bind fun x28=>
  (A.guard eE true (A.neq .i x28 (U.int .u8 32)) ay).bind fun x29=>
  (A.pick eE x29 aP).bind fun eM=>
  A.fin σ eM gB.2.2)else
 bif gB.1==AX.ret then(
  A.fin σ (gB.2.1.getD 0 U.undef) gB.2.2)else
 none
noncomputable def EC:List U→Heap→Option (U×Heap):=A.wrap true [] .k (A.fD Ik)
end
section
set_option maxRecDepth 100000
noncomputable def HF (a0:U) (σ:Heap):Option (U×Heap):=
 (jF [a0,aj,(U.int .i64 65535)] σ).bind fun r1=>
 A.fin σ r1.1 r1.2
noncomputable def Bs:List U→Heap→Option (U×Heap):=A.wrap true [] .k (A.fD HF)
noncomputable def Hx (a0:U) (σ:Heap):Option (U×Heap):=
 (A.bf a0).bind fun x1=>
 (A.gtr x1 (U.int .i64 30)).bind fun x2=>
 A.cond x2 (
  A.fin σ (U.int .i64 2) σ) (
  (A.bf a0).bind fun x3=>
  (A.loop (fun v4 s5=>
    (A.lss (v4.getD 1 U.undef) x3).bind fun x7=>
    A.cond x7 (
     (A.aU 3 a0 (v4.getD 1 U.undef)).bind fun x8=>
     ((A.deref x8 s5).bind fun c9=>A.aD 0 3 c9).bind fun bu=>
     (A.cells 3 bu).bind fun gz=>
     (A.splice 0 gz [aj,aj,bw]).bind fun cU=>
     (A.aq 0 cU).bind fun cm=>
     (Bs [cm] s5).bind fun gB=>
     (A.not gB.1).bind fun dR=>
     (A.guard dR false (A.aq 1 cU) ay).bind fun bM=>
     (A.guard dR false (A.quiet (Bs [bM] gB.2) gB.2) ay).bind fun dI=>
     (A.guard dR false (A.not dI) ay).bind fun eL=>
     (A.pick dR cq eL).bind fun dw=>
     (A.guard dw false (A.aq 0 cU) ay).bind fun dJ=>
     (A.guard dw false (A.aq 1 cU) ay).bind fun bC=>
     (A.guard dw false (A.gtr dJ bC) ay).bind fun bT=>
     (A.pick dw cq bT).bind fun eE=>
     A.cond eE (
      some (AX.ret,[aR,(v4.getD 1 U.undef)],gB.2)) (
      (A.gtr (v4.getD 1 U.undef) aj).bind fun x24=>
      (A.guard x24 true (A.aq 0 cU) ay).bind fun x25=>
      (A.guard x24 true (some a0) ay).bind fun dY=>
      (A.guard x24 true (some (v4.getD 1 U.undef)) ay).bind fun dK=>
      (A.guard x24 true (A.sub dK aR) ay).bind fun x28=>
      (A.guard x24 true (A.aU 3 dY x28) ay).bind fun x29=>
      (A.guard x24 true (A.bD 1 x29) ay).bind fun eM=>
      (A.guard x24 true ((A.deref eM gB.2).bind fun CZ=>A.aq 0 CZ) ay).bind fun x32=>
      (A.guard x24 true (A.leq x25 x32) ay).bind fun mE=>
      (A.pick x24 mE aP).bind fun x34=>
      A.cond x34 (
       some (AX.ret,[(U.int .i64 7),(v4.getD 1 U.undef)],gB.2)) (
       (A.aq 2 cU).bind fun gR=>
       (zP [gR] gB.2).bind fun DD=>
       (A.not DD.1).bind fun dA=>
       A.cond dA (
        some (AX.ret,[(U.int .i64 5),(v4.getD 1 U.undef)],DD.2)) (
        (A.aq 2 cU).bind fun x38=>
        (A.look .z (U.om σ.length) x38 aP DD.2).bind fun iC=>
        A.cond iC (
         some (AX.ret,[(U.int .i64 6),(v4.getD 1 U.undef)],DD.2)) (
         (A.aq 2 cU).bind fun eZ=>
         (A.eU .z (U.om σ.length) eZ cq DD.2).bind fun h41=>
         (A.add (v4.getD 1 U.undef) aR).bind fun gZ=>
         some (AX.normal,[(v4.getD 0 U.undef),gZ],h41)))))) (
     some (AX.exit 0,[(v4.getD 0 U.undef),(v4.getD 1 U.undef)],s5))) [aj,aj] (σ++[aO.map []])).bind fun xq=>
  bif xq.1==AX.exit 0 then(
   A.fin σ aj xq.2.2)else
  bif xq.1==AX.ret then(
   A.fin σ (xq.2.1.getD 0 U.undef) xq.2.2)else
  none)
noncomputable def Hv:List U→Heap→Option (U×Heap):=A.wrap true [(.s 3)] .k (A.fD Hx)
noncomputable def Hu (a0:U) (σ:Heap):Option (U×Heap):=
 (A.cells 3 a0).bind fun c1=>
 (A.aq 0 c1).bind fun x2=>
 (zP [x2] σ).bind fun r3=>
 (A.not r3.1).bind fun x4=>
 A.cond x4 (
  A.fin σ (U.int .i64 5) r3.2) (
  (A.aq 1 c1).bind fun x5=>
  (jF [x5,aR,(U.int .i64 512)] r3.2).bind fun r6=>
  (A.not r6.1).bind fun x7=>
  A.cond x7 (
   A.fin σ aR r6.2) (
   (A.aq 2 c1).bind fun x8=>
   (A.bf x8).bind fun x9=>
   (A.eql .i x9 aj).bind fun bu=>
   A.cond bu (
    A.fin σ (U.int .i64 8) r6.2) (
    (A.aq 2 c1).bind fun dc=>
    (A.bf dc).bind fun cE=>
    (A.gtr cE (U.int .i64 40)).bind fun cm=>
    A.cond cm (
     A.fin σ (U.int .i64 2) r6.2) (
     (A.aq 2 c1).bind fun cA=>
     (A.bf cA).bind fun dR=>
     (A.loop (fun bZ fG=>
       (A.lss (bZ.getD 2 U.undef) dR).bind fun dw=>
       A.cond dw (
        (A.aU 7 cA (bZ.getD 2 U.undef)).bind fun dJ=>
        ((A.deref dJ fG).bind fun gO=>A.aD 0 7 gO).bind fun bT=>
        (A.cells 7 bT).bind fun iY=>
        (A.splice 0 iY [bw,aj,aj,aj,aj,aP,U.aB]).bind fun eB=>
        (A.aq 0 eB).bind fun x25=>
        (zP [x25] fG).bind fun sw=>
        (A.not sw.1).bind fun dK=>
        A.cond dK (
         some (AX.ret,[(bZ.getD 0 U.undef),(U.int .i64 5),(bZ.getD 2 U.undef)],sw.2)) (
         (A.aq 0 eB).bind fun x28=>
         (A.look .z (U.om r6.2.length) x28 aP sw.2).bind fun x29=>
         A.cond x29 (
          some (AX.ret,[(bZ.getD 0 U.undef),(U.int .i64 6),(bZ.getD 2 U.undef)],sw.2)) (
          (A.aq 1 eB).bind fun eM=>
          (jF [eM,aR,(U.int .i64 4)] sw.2).bind fun cZ=>
          (A.not cZ.1).bind fun x32=>
          A.cond x32 (
           some (AX.ret,[(bZ.getD 0 U.undef),(U.int .i64 4),(bZ.getD 2 U.undef)],cZ.2)) (
           (A.aq 2 eB).bind fun mE=>
           ((A.lb (bZ.getD 0 U.undef)).bind fun _=>some (1)).bind fun p34=>
           ((A.lb (bZ.getD 0 U.undef)).bind fun rU=>A.aq p34 rU).bind fun p7=>
           (jF [mE,aR,p7] cZ.2).bind fun tT=>
           (A.not tT.1).bind fun x38=>
           (A.guard x38 false (A.aq 3 eB) ay).bind fun iC=>
           ((A.lb (bZ.getD 0 U.undef)).bind fun _=>some (1)).bind fun p40=>
                      (A.guard x38 false ((A.lb (bZ.getD 0 U.undef)).bind fun mu=>A.aq p40 mu) ay).bind fun gZ=>
           (A.guard x38 false (A.quiet (jF [iC,aj,gZ] tT.2) tT.2) ay).bind fun iD=>
           (A.guard x38 false (A.not iD) ay).bind fun jR=>
           (A.pick x38 cq jR).bind fun gU=>
           (A.guard gU false (A.aq 4 eB) ay).bind fun lU=>
           (A.guard gU false (A.quiet (Bs [lU] tT.2) tT.2) ay).bind fun fI=>
           (A.guard gU false (A.not fI) ay).bind fun iE=>
           (A.pick gU cq iE).bind fun i7=>
           A.cond i7 (
            some (AX.ret,[(bZ.getD 0 U.undef),aR,(bZ.getD 2 U.undef)],tT.2)) (
            (A.aq 2 eB).bind fun fL=>
            (A.aq 3 eB).bind fun eW=>
            (A.eql .i fL eW).bind fun fM=>
            (A.guard fM false (some (U.om (r6.2++[aO.map []]).length)) ay).bind fun nW=>
            (A.guard fM false (A.aq 2 eB) ay).bind fun gC=>
            (A.guard fM false (A.look .i nW gC aP tT.2) ay).bind fun jj=>
            (A.pick fM cq jj).bind fun gD=>
            (A.guard gD false (A.aq 3 eB) ay).bind fun lg=>
            (A.guard gD false (A.gtr lg aj) ay).bind fun eF=>
            (A.guard gD false (some eF) ay).bind fun iO=>
            (A.guard iO true (some (U.om (r6.2++[aO.map []]).length)) ay).bind fun jk=>
            (A.guard iO true (A.aq 3 eB) ay).bind fun gE=>
            (A.guard iO true (A.look .i jk gE aP tT.2) ay).bind fun gG=>
            (A.guard gD false (A.pick iO gG aP) ay).bind fun ff=>
            (A.pick gD cq ff).bind fun iP=>
            A.cond iP (
             some (AX.ret,[(bZ.getD 0 U.undef),(U.int .i64 12),(bZ.getD 2 U.undef)],tT.2)) (
             (A.aq 6 eB).bind fun dS=>
             (Hv [dS] tT.2).bind fun Bj=>
             (A.neq .i Bj.1 aj).bind fun gH=>
             A.cond gH (
              some (AX.ret,[(bZ.getD 0 U.undef),Bj.1,(bZ.getD 2 U.undef)],Bj.2)) (
              (A.aq 0 eB).bind fun jl=>
              (A.aq 2 eB).bind fun fV=>
              (A.eU .z (U.om r6.2.length) jl cq Bj.2).bind fun h70=>
              (A.eU .i (U.om (r6.2++[aO.map []]).length) fV cq h70).bind fun TB=>
              (A.aq 3 eB).bind fun jm=>
              (A.gtr jm aj).bind fun mG=>
              (A.cond mG (
               (A.aq 3 eB).bind fun iR=>
               (A.eU .i (U.om (r6.2++[aO.map []]).length) iR cq TB).bind fun h76=>
               some ([(bZ.getD 0 U.undef)],h76)) (
               some ([(bZ.getD 0 U.undef)],TB))).bind fun T5=>
              (A.add (bZ.getD 2 U.undef) aR).bind fun qc=>
              some (AX.normal,[(T5.1.getD 0 U.undef),(bZ.getD 1 U.undef),qc],T5.2)))))))) (
        some (AX.exit 1,[(bZ.getD 0 U.undef),(bZ.getD 1 U.undef),(bZ.getD 2 U.undef)],fG))) [(U.lbx c1),aj,aj] ((r6.2++[aO.map []])++[aO.map []])).bind fun jP=>
     bif jP.1==AX.exit 1 then(
      A.fin σ aj jP.2.2)else
     bif jP.1==AX.ret then(
      A.fin σ (jP.2.1.getD 1 U.undef) jP.2.2)else
     none))))
noncomputable def Hr:List U→Heap→Option (U×Heap):=A.wrap true [(.a [.k,.k,(.s 7)])] .k (A.fD Hu)
noncomputable def Ht (a0:U) (σ:Heap):Option (U×Heap):=
 (A.bf a0).bind fun x1=>
 (A.gtr x1 (U.int .i64 60)).bind fun x2=>
 A.cond x2 (
  A.fin σ (U.int .i64 2) σ) (
  (A.bf a0).bind fun x3=>
  (A.loop (fun v4 s5=>
    (A.lss (v4.getD 1 U.undef) x3).bind fun x7=>
    A.cond x7 (
     (A.aU 3 a0 (v4.getD 1 U.undef)).bind fun x8=>
     ((A.deref x8 s5).bind fun c9=>A.aD 0 3 c9).bind fun bu=>
     (A.cells 3 bu).bind fun gz=>
     (A.splice 0 gz [bw,aj,U.aB]).bind fun cU=>
     (A.aD 0 3 cU).bind fun cm=>
     (Hr [cm] s5).bind fun gB=>
     (A.neq .i gB.1 aj).bind fun dR=>
     A.cond dR (
      some (AX.ret,[gB.1,(v4.getD 1 U.undef)],gB.2)) (
      (A.aq 0 cU).bind fun bM=>
      (A.look .z (U.om σ.length) bM aP gB.2).bind fun dI=>
      A.cond dI (
       some (AX.ret,[(U.int .i64 6),(v4.getD 1 U.undef)],gB.2)) (
       (A.aq 0 cU).bind fun eL=>
       (A.eU .z (U.om σ.length) eL cq gB.2).bind fun h19=>
       (A.add (v4.getD 1 U.undef) aR).bind fun dJ=>
       some (AX.normal,[(v4.getD 0 U.undef),dJ],h19)))) (
     some (AX.exit 0,[(v4.getD 0 U.undef),(v4.getD 1 U.undef)],s5))) [aj,aj] (σ++[aO.map []])).bind fun qL=>
  bif qL.1==AX.exit 0 then(
   A.fin σ aj qL.2.2)else
  bif qL.1==AX.ret then(
   A.fin σ (qL.2.1.getD 0 U.undef) qL.2.2)else
  none)
noncomputable def Hq:List U→Heap→Option (U×Heap):=A.wrap true [(.s 3)] .k (A.fD Ht)
noncomputable def Hy (a0 a1:U) (σ:Heap):Option (U×Heap):=
 (A.cells 3 a0).bind fun c1=>
 (A.aq 0 c1).bind fun x2=>
 ((A.deref a1 σ).bind fun c3=>A.aq 0 c3).bind fun x4=>
 (A.eql .z x2 x4).bind fun x5=>
 A.fin σ x5 σ
noncomputable def vB:List U→Heap→Option (U×Heap):=A.wrap true [(.a [.k,.k,(.s 7)])] .k (A.ep Hy)
noncomputable def El (a0 a1:U) (σ:Heap):Option (U×Heap):=
 (((A.cell a1).bind fun v=>some [v]).bind fun cs=>some (U.rp cs)).bind fun x1=>
 (tY (A.tab (fun _ _=>none) [(64,vB),(64,vB)]) [a0,(U.fn 64 [x1])] σ).bind fun r2=>
 (A.lss r2.1 aj).bind fun x3=>
 A.cond x3 (
  (A.cells 3 (U.agg [bw,aj,U.aB])).bind fun c4=>
  (A.splice 0 c4 [bw,aj,U.aB]).bind fun c5=>
  (A.aD 0 3 c5).bind fun x6=>
  A.fin σ (U.aA [x6,aP]) r2.2) (
  (A.aU 3 a0 r2.1).bind fun x7=>
  ((A.deref x7 r2.2).bind fun c8=>A.aD 0 3 c8).bind fun x9=>
  (A.cells 3 x9).bind fun fU=>
  (A.splice 0 fU [bw,aj,U.aB]).bind fun gz=>
  (A.aD 0 3 gz).bind fun cE=>
  A.fin σ (U.aA [cE,cq]) r2.2)
noncomputable def Eh:List U→Heap→Option (U×Heap):=A.wrap true [(.s 3)] (.t [(.a jL),.k]) (A.ep El)
noncomputable def Br (a0 a1 a2:U) (σ:Heap):Option (U×Heap):=
 (A.eql .p a0 U.np).bind fun x1=>
 A.cond x1 (
  (A.add a1 a2).bind fun x2=>
  (A.sub x2 aR).bind fun x3=>
  (A.leq x3 (U.int .i64 512)).bind fun x4=>
  A.fin σ x4 σ) (
  (A.loop (fun v5 s6=>
    (A.add a1 a2).bind fun x8=>
    (A.lss (v5.getD 1 U.undef) x8).bind fun x9=>
    A.cond x9 (
     (A.gtr (v5.getD 1 U.undef) (U.int .i64 512)).bind fun bu=>
     (A.guard bu false (some a0) ay).bind fun dc=>
     (A.guard bu false (some (v5.getD 1 U.undef)) ay).bind fun cE=>
     (A.guard bu false (A.eT dc) ay).bind fun cm=>
     (A.guard bu false (A.sZ 513 1 cm cE) ay).bind fun cA=>
     (A.guard bu false ((A.deref cA s6).bind fun iz=>A.aq 0 iz) ay).bind fun bM=>
     (A.pick bu cq bM).bind fun dI=>
     A.cond dI (
      some (AX.ret,[aP,(v5.getD 1 U.undef)],s6)) (
      (A.add (v5.getD 1 U.undef) aR).bind fun eL=>
      some (AX.normal,[(v5.getD 0 U.undef),eL],s6))) (
     some (AX.exit 0,[(v5.getD 0 U.undef),(v5.getD 1 U.undef)],s6))) [aP,a1] σ).bind fun qK=>
  bif qK.1==AX.exit 0 then(
   A.fin σ cq qK.2.2)else
  bif qK.1==AX.ret then(
   A.fin σ (qK.2.1.getD 0 U.undef) qK.2.2)else
  none)
noncomputable def zG:List U→Heap→Option (U×Heap):=A.wrap true [] .k (A.fE Br)
noncomputable def Bz (a0 a1 a2:U) (σ:Heap):Option (U×Heap):=
 (A.cells 4 a1).bind fun c1=>
 (A.aq 2 c1).bind fun x2=>
 (A.look .i a0 x2 U.np σ).bind fun x3=>
 (A.eql .p x3 U.np).bind fun x4=>
 (A.cond x4 (
  (A.aq 2 c1).bind fun x6=>
  (A.eU .i a0 x6 (U.op σ.length 0) (σ++[aO.box (List.replicate 513 aP)])).bind fun h7=>
  some ([(U.lbx c1)],h7)) (
  some ([(U.lbx c1)],σ))).bind fun r5=>
 ((A.lb (r5.1.getD 0 U.undef)).bind fun _=>some (3)).bind fun p8=>
 ((A.lb (r5.1.getD 0 U.undef)).bind fun c9=>A.aq p8 c9).bind fun bu=>
 (A.loop (fun v11 nB=>
   ((A.lb (v11.getD 0 U.undef)).bind fun _=>some (3)).bind fun p14=>
   ((A.lb (v11.getD 0 U.undef)).bind fun iz=>A.aq p14 iz).bind fun bM=>
   (A.add bM a2).bind fun dI=>
   (A.lss (v11.getD 1 U.undef) dI).bind fun eL=>
   A.cond eL (
    ((A.lb (v11.getD 0 U.undef)).bind fun _=>some (2)).bind fun DA=>
    ((A.lb (v11.getD 0 U.undef)).bind fun iN=>A.aq DA iN).bind fun bC=>
    (A.look .i a0 bC U.np nB).bind fun bT=>
    (A.eT bT).bind fun eE=>
    (A.sZ 513 1 eE (v11.getD 1 U.undef)).bind fun x24=>
    ((A.cell cq).bind fun v=>some [v]).bind fun jD=>
    (A.storeAt x24 jD nB).bind fun jO=>
    (A.add (v11.getD 1 U.undef) aR).bind fun dK=>
    some (AX.normal,[(v11.getD 0 U.undef),dK],jO)) (
    some (AX.exit 0,[(v11.getD 0 U.undef),(v11.getD 1 U.undef)],nB))) [(r5.1.getD 0 U.undef),bu] r5.2).bind fun T3=>
 bif T3.1==AX.exit 0 then(
  some ((U.aA []),T3.2.2))else
 none
noncomputable def Er:List U→Heap→Option (U×Heap):=A.wrap false [] .k (A.fE Bz)
noncomputable def HD (a0:U) (σ:Heap):Option (U×Heap):=
 (A.cells 2 a0).bind fun c1=>
 (A.aq 0 c1).bind fun x2=>
 (Hq [x2] σ).bind fun r3=>
 (A.neq .i r3.1 aj).bind fun x4=>
 A.cond x4 (
  A.fin σ r3.1 r3.2) (
  (A.aq 1 c1).bind fun x5=>
  (A.bf x5).bind fun x6=>
  (A.gtr x6 (U.int .i64 400)).bind fun x7=>
  A.cond x7 (
   A.fin σ (U.int .i64 2) r3.2) (
   (A.aq 1 c1).bind fun x8=>
   (A.bf x8).bind fun x9=>
   (A.loop (fun v10 fS=>
     (A.lss (v10.getD 2 U.undef) x9).bind fun cm=>
     A.cond cm (
      (A.aU 4 x8 (v10.getD 2 U.undef)).bind fun cA=>
      ((A.deref cA fS).bind fun iz=>A.aD 0 4 iz).bind fun bM=>
      (A.cells 4 bM).bind fun kS=>
      (A.splice 0 kS [aj,bw,aj,aj]).bind fun eP=>
      (A.aq 0 eP).bind fun dw=>
      (jF [dw,aR,(U.int .i64 9999)] fS).bind fun eH=>
      (A.not eH.1).bind fun bC=>
      A.cond bC (
       some (AX.ret,[(v10.getD 0 U.undef),aR,(v10.getD 2 U.undef)],eH.2)) (
       (A.gtr (v10.getD 2 U.undef) aj).bind fun bT=>
       (A.guard bT true (A.aq 0 eP) ay).bind fun eE=>
       ((A.lb (v10.getD 0 U.undef)).bind fun _ => some (1)).bind fun p24 =>
              (A.guard bT true ((A.lb (v10.getD 0 U.undef)).bind fun jD=>A.aq p24 jD) ay).bind fun dY=>
       (A.guard bT true (some (v10.getD 2 U.undef)) ay).bind fun dK=>
       (A.guard bT true (A.sub dK aR) ay).bind fun x28=>
       (A.guard bT true (A.aU 4 dY x28) ay).bind fun x29=>
       (A.guard bT true (A.bD 0 x29) ay).bind fun eM=>
       (A.guard bT true ((A.deref eM eH.2).bind fun CZ=>A.aq 0 CZ) ay).bind fun x32=>
       (A.guard bT true (A.leq eE x32) ay).bind fun mE=>
       (A.pick bT mE aP).bind fun x34=>
       A.cond x34 (
        some (AX.ret,[(v10.getD 0 U.undef),(U.int .i64 7),(v10.getD 2 U.undef)],eH.2)) (
        ((A.lb (v10.getD 0 U.undef)).bind fun _=>some (0)).bind fun p35=>
        ((A.lb (v10.getD 0 U.undef)).bind fun kU=>A.aq p35 kU).bind fun dA=>
        (A.aq 1 eP).bind fun x38=>
        (Eh [dA,x38] eH.2).bind fun G3=>
        (A.ext 0 G3.1).bind fun eZ=>
        (A.ext 1 G3.1).bind fun mF=>
        (A.cells 3 eZ).bind fun wX=>
        (A.splice 0 wX [bw,aj,U.aB]).bind fun pP=>
        (A.not mF).bind fun jR=>
        A.cond jR (
         some (AX.ret,[(v10.getD 0 U.undef),(U.int .i64 5),(v10.getD 2 U.undef)],G3.2)) (
         (A.aq 2 eP).bind fun gU=>
         (jF [gU,aR,(U.int .i64 64)] G3.2).bind fun nA=>
         (A.not nA.1).bind fun fI=>
         (A.guard fI false (A.aq 3 eP) ay).bind fun iE=>
         (A.guard fI false (A.quiet (jF [iE,aR,(U.int .i64 512)] nA.2) nA.2) ay).bind fun i7=>
         (A.guard fI false (A.not i7) ay).bind fun fL=>
         (A.pick fI cq fL).bind fun eW=>
         (A.guard eW false (A.aq 3 eP) ay).bind fun fM=>
         (A.guard eW false (A.aq 1 pP) ay).bind fun nW=>
         (A.guard eW false (A.add fM nW) ay).bind fun gC=>
         (A.guard eW false (A.sub gC aR) ay).bind fun jj=>
         (A.guard eW false (A.gtr jj (U.int .i64 512)) ay).bind fun gD=>
         (A.pick eW cq gD).bind fun lg=>
         A.cond lg (
          some (AX.ret,[(v10.getD 0 U.undef),aR,(v10.getD 2 U.undef)],nA.2)) (
          (A.aq 2 eP).bind fun eF=>
          (A.look .i (U.om r3.2.length) eF U.np nA.2).bind fun iO=>
          (A.aq 3 eP).bind fun jk=>
          (A.aq 1 pP).bind fun gE=>
          (zG [iO,jk,gE] nA.2).bind fun vr=>
          (A.not vr.1).bind fun ff=>
          A.cond ff (
           some (AX.ret,[(v10.getD 0 U.undef),(U.int .i64 12),(v10.getD 2 U.undef)],vr.2)) (
           (A.aD 0 4 eP).bind fun iP=>
           (A.aq 1 pP).bind fun dS=>
           (Er [(U.om r3.2.length),iP,dS] vr.2).bind fun Bj=>
           (A.add (v10.getD 2 U.undef) aR).bind fun gH=>
           some (AX.normal,[(v10.getD 0 U.undef),(v10.getD 1 U.undef),gH],Bj.2))))))) (
      some (AX.exit 0,[(v10.getD 0 U.undef),(v10.getD 1 U.undef),(v10.getD 2 U.undef)],fS))) [(U.lbx c1),aj,aj] (r3.2++[aO.map []])).bind fun tV=>
   bif tV.1==AX.exit 0 then(
    A.fin σ aj tV.2.2)else
   bif tV.1==AX.ret then(
    A.fin σ (tV.2.1.getD 1 U.undef) tV.2.2)else
   none))
noncomputable def Ef:List U→Heap→Option (U×Heap):=A.wrap true [(.a [(.s 3),(.s 4)])] .k (A.fD HD)
noncomputable def By (a0:U) (σ:Heap):Option (U×Heap):=
 (A.cells 2 a0).bind fun c1=>
 (A.aD 0 2 c1).bind fun x2=>
 (Ef [x2] σ).bind fun r3=>
 (A.neq .i r3.1 aj).bind fun x4=>
 A.cond x4 (
  A.fin σ (U.aA [U.aB,r3.1]) r3.2) (
  (A.aq 1 c1).bind fun x5=>
  (A.bf x5).bind fun x6=>
  (A.loop (fun v7 s8=>
    (A.lss (v7.getD 2 U.undef) x6).bind fun bu=>
    A.cond bu (
     (A.aU 4 x5 (v7.getD 2 U.undef)).bind fun dc=>
     ((A.deref dc s8).bind fun cU=>A.aD 0 4 cU).bind fun cm=>
     (A.cells 4 cm).bind fun jC=>
     (A.splice 0 jC [aj,bw,aj,aj]).bind fun iz=>
     ((A.lb (v7.getD 0 U.undef)).bind fun _=>some (0)).bind fun p16=>
     ((A.lb (v7.getD 0 U.undef)).bind fun kS=>A.aq p16 kS).bind fun eL=>
     (A.aq 1 iz).bind fun dw=>
     (Eh [eL,dw] s8).bind fun eH=>
     (A.ext 0 eH.1).bind fun bC=>
     (A.ext 1 eH.1).bind fun bT=>
     (A.cells 3 bC).bind fun iY=>
     (A.splice 0 iY [bw,aj,U.aB]).bind fun eB=>
     (A.aq 2 eB).bind fun x25=>
     (A.bf x25).bind fun dY=>
     (A.loop (fun qQ Mq=>
       (A.lss (qQ.getD 3 U.undef) dY).bind fun eM=>
       A.cond eM (
        (A.aU 7 x25 (qQ.getD 3 U.undef)).bind fun x31=>
        ((A.deref x31 Mq).bind fun C0=>A.aD 0 7 C0).bind fun mE=>
        (A.cells 7 mE).bind fun Lz=>
        (A.splice 0 Lz [bw,aj,aj,aj,aj,aP,U.aB]).bind fun rU=>
        ((A.lb (qQ.getD 2 U.undef)).bind fun _=>some (0)).bind fun p36=>
        ((A.lb (qQ.getD 2 U.undef)).bind fun yR=>A.aq p36 yR).bind fun x38=>
        (A.aq 0 rU).bind fun iC=>
        ((((A.cell x38).bind fun v=>some [v]).bind fun A3=>(A.splice 0 A3 [aj,bw]).bind fun mu=>((A.cell iC).bind fun v=>some [v]).bind fun wX=>(A.splice 1 wX mu).bind fun pP=>some pP).bind fun cs=>some (U.agg cs)).bind fun jR=>
        (((A.cells 2 jR).bind fun rV=>(A.splice 0 rV [aj,bw]).bind fun nQ=>some nQ).bind fun cs=>some (U.sl 2 (chunks 2 1 cs))).bind fun fI=>
        (A.append 2 (140737488355328 / 24) (qQ.getD 1 U.undef) fI Mq).bind fun pY=>
        (A.add (qQ.getD 3 U.undef) aR).bind fun i7=>
        some (AX.normal,[(qQ.getD 0 U.undef),pY.1,(qQ.getD 2 U.undef),i7],pY.2)) (
        some (AX.exit 2,[(qQ.getD 0 U.undef),(qQ.getD 1 U.undef),(qQ.getD 2 U.undef),(qQ.getD 3 U.undef)],Mq))) [(v7.getD 0 U.undef),(v7.getD 1 U.undef),(U.lbx iz),aj] eH.2).bind fun G4=>
     bif G4.1==AX.exit 2 then(
      (A.add (v7.getD 2 U.undef) aR).bind fun eW=>
      some (AX.normal,[(G4.2.1.getD 0 U.undef),(G4.2.1.getD 1 U.undef),eW],G4.2.2))else
     none) (
     some (AX.exit 0,[(v7.getD 0 U.undef),(v7.getD 1 U.undef),(v7.getD 2 U.undef)],s8))) [(U.lbx c1),U.aB,aj] r3.2).bind fun xu=>
  bif xu.1==AX.exit 0 then(
   A.fin σ (U.aA [(xu.2.1.getD 1 U.undef),aj]) xu.2.2)else
  none)
noncomputable def Ep:List U→Heap→Option (U×Heap):=A.wrap true [(.a [(.s 3),(.s 4)])] (.t [(.s 2),.k]) (A.fD By)
end
section
set_option maxRecDepth 100000
noncomputable def HE (a0:U) (σ:Heap):Option (U×Heap):=
 (A.cells 2 a0).bind fun c1=>
 (A.aq 0 c1).bind fun x2=>
 (jF [x2,aR,(U.int .i64 6)] σ).bind fun r3=>
 (A.not r3.1).bind fun x4=>
 A.cond x4 (
  A.fin σ (U.int .i64 4) r3.2) (
  (A.aq 1 c1).bind fun x5=>
  (A.aq 0 c1).bind fun x6=>
  (A.neq .i x6 (U.int .i64 6)).bind fun x7=>
  A.cond x7 (
   (A.bf x5).bind fun x8=>
   (A.gtr x8 aj).bind fun x9=>
   (BC [x9,(U.int .i64 3)] r3.2).bind fun fF=>
   A.fin σ fF.1 fF.2) (
   (A.bf x5).bind fun dc=>
   (A.lss dc (U.int .i64 2)).bind fun cE=>
   A.cond cE (
    A.fin σ (U.int .i64 8) r3.2) (
    (A.bf x5).bind fun cm=>
    (A.gtr cm (U.int .i64 20)).bind fun cA=>
    A.cond cA (
     A.fin σ (U.int .i64 2) r3.2) (
     (A.bf x5).bind fun dR=>
     (A.loop (fun bZ fG=>
       (A.lss (bZ.getD 1 U.undef) dR).bind fun dw=>
       A.cond dw (
        (A.aU 2 x5 (bZ.getD 1 U.undef)).bind fun dJ=>
        ((A.deref dJ fG).bind fun gO=>A.aD 0 2 gO).bind fun bT=>
        (A.cells 2 bT).bind fun iY=>
        (A.splice 0 iY [aj,aj]).bind fun eB=>
        (A.aq 0 eB).bind fun x25=>
        (jF [x25,aj,(U.int .i64 1000)] fG).bind fun sw=>
        (A.not sw.1).bind fun dK=>
        (A.guard dK false (A.aq 1 eB) ay).bind fun x28=>
        (A.guard dK false (A.quiet (jF [x28,aj,(U.int .i64 1000)] sw.2) sw.2) ay).bind fun x29=>
        (A.guard dK false (A.not x29) ay).bind fun eM=>
        (A.pick dK cq eM).bind fun x31=>
        A.cond x31 (
         some (AX.ret,[aR,(bZ.getD 1 U.undef)],sw.2)) (
         (A.add (bZ.getD 1 U.undef) aR).bind fun x32=>
         some (AX.normal,[(bZ.getD 0 U.undef),x32],sw.2))) (
        some (AX.exit 0,[(bZ.getD 0 U.undef),(bZ.getD 1 U.undef)],fG))) [aj,aj] r3.2).bind fun nU=>
     bif nU.1==AX.exit 0 then(
      (A.aU 2 x5 aj).bind fun x34=>
      ((A.deref x34 nU.2.2).bind fun rU=>A.aD 0 2 rU).bind fun p7=>
      (A.neq (.s [0,0]) p7 (U.agg [aj,aj])).bind fun dA=>
      (A.guard dA false (some x5) ay).bind fun x38=>
      (A.guard dA false (some x5) ay).bind fun iC=>
      (A.guard dA false (A.bf iC) ay).bind fun eZ=>
      (A.guard dA false (A.sub eZ aR) ay).bind fun mF=>
      (A.guard dA false (A.aU 2 x38 mF) ay).bind fun gZ=>
      (A.guard dA false ((A.deref gZ nU.2.2).bind fun pP=>A.aD 0 2 pP) ay).bind fun jR=>
      (A.guard dA false ((((A.cell (U.int .i64 1000)).bind fun v=>some [v]).bind fun rV=>(A.splice 0 rV [aj,aj]).bind fun nQ=>((A.cell (U.int .i64 1000)).bind fun v=>some [v]).bind fun rW=>(A.splice 1 rW nQ).bind fun c48=>some c48).bind fun cs=>some (U.agg cs)) ay).bind fun i7=>
      (A.guard dA false (A.neq (.s [0,0]) jR i7) ay).bind fun fL=>
      (A.pick dA cq fL).bind fun eW=>
      A.cond eW (
       A.fin σ (U.int .i64 3) nU.2.2) (
       (A.loop (fun tX zo=>
         (A.bf x5).bind fun jj=>
         (A.lss (tX.getD 1 U.undef) jj).bind fun gD=>
         A.cond gD (
          (A.aU 2 x5 (tX.getD 1 U.undef)).bind fun lg=>
          (A.bD 0 lg).bind fun eF=>
          ((A.deref eF zo).bind fun pQ=>A.aq 0 pQ).bind fun jk=>
          (A.sub (tX.getD 1 U.undef) aR).bind fun gE=>
          (A.aU 2 x5 gE).bind fun gG=>
          (A.bD 0 gG).bind fun ff=>
          ((A.deref ff zo).bind fun C4=>A.aq 0 C4).bind fun dS=>
          (A.leq jk dS).bind fun iQ=>
          (A.guard iQ false (some x5) ay).bind fun gH=>
          (A.guard iQ false (some (tX.getD 1 U.undef)) ay).bind fun jl=>
          (A.guard iQ false (A.aU 2 gH jl) ay).bind fun fV=>
          (A.guard iQ false (A.bD 1 fV) ay).bind fun p9=>
          (A.guard iQ false ((A.deref p9 zo).bind fun pR=>A.aq 0 pR) ay).bind fun jm=>
          (A.guard iQ false (some x5) ay).bind fun mG=>
          (A.guard iQ false (some (tX.getD 1 U.undef)) ay).bind fun jo=>
          (A.guard iQ false (A.sub jo aR) ay).bind fun iR=>
          (A.guard iQ false (A.aU 2 mG iR) ay).bind fun jS=>
          (A.guard iQ false (A.bD 1 jS) ay).bind fun qc=>
          (A.guard iQ false ((A.deref qc zo).bind fun yV=>A.aq 0 yV) ay).bind fun sE=>
          (A.guard iQ false (A.lss jm sE) ay).bind fun DS=>
          (A.pick iQ cq DS).bind fun DT=>
          A.cond DT (
           some (AX.ret,[(U.int .i64 7),(tX.getD 1 U.undef)],zo)) (
           (A.add (tX.getD 1 U.undef) aR).bind fun zA=>
           some (AX.normal,[(tX.getD 0 U.undef),zA],zo))) (
          some (AX.exit 2,[(tX.getD 0 U.undef),(tX.getD 1 U.undef)],zo))) [(nU.2.1.getD 0 U.undef),aR] nU.2.2).bind fun pZ=>
       bif pZ.1==AX.exit 2 then(
        A.fin σ aj pZ.2.2)else
       bif pZ.1==AX.ret then(
        A.fin σ (pZ.2.1.getD 0 U.undef) pZ.2.2)else
       none))else
     bif nU.1==AX.ret then(
      A.fin σ (nU.2.1.getD 0 U.undef) nU.2.2)else
     none))))
noncomputable def HC:List U→Heap→Option (U×Heap):=A.wrap true [(.a [.k,(.s 2)])] .k (A.fD HE)
end
section
set_option maxRecDepth 100000
noncomputable def It (a0:U) (σ:Heap):Option (U×Heap):=
 (A.cells 2 a0).bind fun c1=>
 (A.aD 0 2 c1).bind fun x2=>
 (Ep [x2] σ).bind fun r3=>
 (A.ext 0 r3.1).bind fun x4=>
 (A.ext 1 r3.1).bind fun x5=>
 (A.bf x4).bind fun x6=>
 (A.loop (fun v7 s8=>
   (A.lss (v7.getD 0 U.undef) x6).bind fun bu=>
   A.cond bu (
    (A.aU 2 x4 (v7.getD 0 U.undef)).bind fun dc=>
    ((A.deref dc s8).bind fun cU=>A.aD 0 2 cU).bind fun cm=>
    (A.cells 2 cm).bind fun jC=>
    (A.splice 0 jC [aj,bw]).bind fun iz=>
    (A.aD 0 2 iz).bind fun bM=>
    (A.eU (.s [0,2]) (U.om r3.2.length) bM cq s8).bind fun h17=>
    (A.add (v7.getD 0 U.undef) aR).bind fun eL=>
    some (AX.normal,[eL],h17)) (
    some (AX.exit 0,[(v7.getD 0 U.undef)],s8))) [aj] (r3.2++[aO.map []])).bind fun qK=>
 bif qK.1==AX.exit 0 then(
  A.fin σ (U.om r3.2.length) qK.2.2)else
 none
noncomputable def Ir:List U→Heap→Option (U×Heap):=A.wrap true [(.a [(.s 3),(.s 4)])] .k (A.fD It)
noncomputable def Ii (a0:U) (σ:Heap):Option (U×Heap):=
 (A.eql .z a0 bw).bind fun x1=>
 (A.guard x1 false (some a0) ay).bind fun x2=>
 (A.guard x1 false (A.quiet (EC [x2] σ) σ) ay).bind fun x3=>
 (A.pick x1 cq x3).bind fun x4=>
 A.fin σ x4 σ
noncomputable def H8:List U→Heap→Option (U×Heap):=A.wrap true [] .k (A.fD Ii)
noncomputable def HO (a0:U) (σ:Heap):Option (U×Heap):=
 (jF [a0,aj,(U.int .i64 65535)] σ).bind fun r1=>
 A.fin σ r1.1 r1.2
noncomputable def Es:List U→Heap→Option (U×Heap):=A.wrap true [] .k (A.fD HO)
noncomputable def HW (a0 a1:U) (σ:Heap):Option (U×Heap):=
 (A.cells 2 a0).bind fun c1=>
 (A.cells 2 a1).bind fun c2=>
 (A.aq 0 c1).bind fun x3=>
 (A.aq 0 c2).bind fun x4=>
 (A.neq .i x3 x4).bind fun x5=>
 A.cond x5 (
  (A.aq 0 c1).bind fun x6=>
  (A.aq 0 c2).bind fun x7=>
  (A.lss x6 x7).bind fun x8=>
  A.fin σ x8 σ) (
  (A.aq 1 c1).bind fun x9=>
  (A.aq 1 c2).bind fun bu=>
  (Ei [x9,bu] σ).bind fun cg=>
  (A.lss cg.1 aj).bind fun cE=>
  A.fin σ cE cg.2)
noncomputable def HS:List U→Heap→Option (U×Heap):=A.wrap true [] .k (A.ep HW)
noncomputable def HB (a0 a1:U) (σ:Heap):Option (U×Heap):=
 (A.cells 2 a0).bind fun c1=>
 (A.aD 0 2 c1).bind fun x2=>
 (Ef [x2] σ).bind fun r3=>
 (A.bf a1).bind fun x4=>
 (A.gtr x4 (U.int .i64 200)).bind fun x5=>
 (BC [x5,(U.int .i64 2)] r3.2).bind fun r6=>
 ((((A.cell r3.1).bind fun v=>some [v]).bind fun c7=>(A.splice 0 c7 [aj,aj]).bind fun c8=>((A.cell r6.1).bind fun v=>some [v]).bind fun c9=>(A.splice 1 c9 c8).bind fun fU=>some fU).bind fun cs=>some (U.sl 1 (chunks 1 2 cs))).bind fun dc=>
 (EB [dc] r6.2).bind fun su=>
 (A.neq .i su.1 aj).bind fun cm=>
 A.cond cm (
  A.fin σ su.1 su.2) (
  (A.aD 0 2 c1).bind fun cA=>
  (Ir [cA] su.2).bind fun fR=>
  (A.bf a1).bind fun bM=>
  (A.loop (fun v17 qO=>
    (A.lss (v17.getD 1 U.undef) bM).bind fun dJ=>
    A.cond dJ (
     (A.aU 3 a1 (v17.getD 1 U.undef)).bind fun bC=>
     ((A.deref bC qO).bind fun nO=>A.aD 0 3 nO).bind fun eE=>
     (A.cells 3 eE).bind fun eB=>
     (A.splice 0 eB [aj,bw,U.aB]).bind fun jD=>
     (A.aq 0 jD).bind fun dY=>
     (jF [dY,aR,(U.int .i64 999)] qO).bind fun vq=>
     (A.not vq.1).bind fun x28=>
     A.cond x28 (
      some (AX.ret,[aR,(v17.getD 1 U.undef)],vq.2)) (
      (A.gtr (v17.getD 1 U.undef) aj).bind fun x29=>
      (A.guard x29 true (A.aq 0 jD) ay).bind fun eM=>
      (A.guard x29 true (some a1) ay).bind fun x31=>
      (A.guard x29 true (some (v17.getD 1 U.undef)) ay).bind fun x32=>
      (A.guard x29 true (A.sub x32 aR) ay).bind fun mE=>
      (A.guard x29 true (A.aU 3 x31 mE) ay).bind fun x34=>
      (A.guard x29 true (A.bD 0 x34) ay).bind fun gR=>
      (A.guard x29 true ((A.deref gR vq.2).bind fun kU=>A.aq 0 kU) ay).bind fun dA=>
      (A.guard x29 true (A.leq eM dA) ay).bind fun x38=>
      (A.pick x29 x38 aP).bind fun iC=>
      A.cond iC (
       some (AX.ret,[(U.int .i64 7),(v17.getD 1 U.undef)],vq.2)) (
       (A.aq 1 jD).bind fun eZ=>
       (H8 [eZ] vq.2).bind fun zj=>
       (A.not zj.1).bind fun gZ=>
       A.cond gZ (
        some (AX.ret,[(U.int .i64 3),(v17.getD 1 U.undef)],zj.2)) (
        (A.aq 2 jD).bind fun iD=>
        (A.bf iD).bind fun jR=>
        (A.gtr jR (U.int .i64 2000)).bind fun gU=>
        A.cond gU (
         some (AX.ret,[(U.int .i64 2),(v17.getD 1 U.undef)],zj.2)) (
         (A.aq 2 jD).bind fun lU=>
         (A.bf lU).bind fun fI=>
         (A.loop (fun lT DH=>
           (A.lss (lT.getD 2 U.undef) fI).bind fun eW=>
           A.cond eW (
            (A.aU 3 lU (lT.getD 2 U.undef)).bind fun fM=>
            ((A.deref fM DH).bind fun rX=>A.aD 0 3 rX).bind fun gC=>
            (A.cells 3 gC).bind fun c55=>
            (A.splice 0 c55 [aj,bw,aj]).bind fun LA=>
            (A.aD 0 2 LA).bind fun lg=>
            (A.look (.s [0,2]) fR.1 lg aP DH).bind fun eF=>
            (A.not eF).bind fun iO=>
            A.cond iO (
             some (AX.ret,[(U.int .i64 8),(lT.getD 1 U.undef),(lT.getD 2 U.undef)],DH)) (
             (A.aq 2 LA).bind fun jk=>
             (Es [jk] DH).bind fun oK=>
             (A.not oK.1).bind fun gG=>
             A.cond gG (
              some (AX.ret,[aR,(lT.getD 1 U.undef),(lT.getD 2 U.undef)],oK.2)) (
              (A.gtr (lT.getD 2 U.undef) aj).bind fun ff=>
              ((A.lb (lT.getD 1 U.undef)).bind fun _=>some (2)).bind fun p64=>
                            (A.guard ff true ((A.lb (lT.getD 1 U.undef)).bind fun C5=>A.aq p64 C5) ay).bind fun iQ=>
              (A.guard ff true (some (lT.getD 2 U.undef)) ay).bind fun gH=>
              (A.guard ff true (A.sub gH aR) ay).bind fun jl=>
              (A.guard ff true (A.aU 3 iQ jl) ay).bind fun fV=>
              (A.guard ff true (A.bD 0 fV) ay).bind fun p9=>
              (A.guard ff true ((A.deref p9 oK.2).bind fun pR=>A.aD 0 2 pR) ay).bind fun jm=>
              (A.guard ff true (A.aD 0 2 LA) ay).bind fun mG=>
              (A.guard ff true (A.quiet (HS [jm,mG] oK.2) oK.2) ay).bind fun jo=>
              (A.guard ff true (A.not jo) ay).bind fun iR=>
              (A.pick ff iR aP).bind fun jS=>
              A.cond jS (
               some (AX.ret,[(U.int .i64 7),(lT.getD 1 U.undef),(lT.getD 2 U.undef)],oK.2)) (
               (A.add (lT.getD 2 U.undef) aR).bind fun qc=>
               some (AX.normal,[(lT.getD 0 U.undef),(lT.getD 1 U.undef),qc],oK.2))))) (
            some (AX.exit 3,[(lT.getD 0 U.undef),(lT.getD 1 U.undef),(lT.getD 2 U.undef)],DH))) [(v17.getD 0 U.undef),(U.lbx jD),aj] zj.2).bind fun jP=>
         bif jP.1==AX.exit 3 then(
          (A.add (v17.getD 1 U.undef) aR).bind fun sE=>
          some (AX.normal,[(jP.2.1.getD 0 U.undef),sE],jP.2.2))else
         bif jP.1==AX.ret then(
          some (AX.ret,[(jP.2.1.getD 0 U.undef),(v17.getD 1 U.undef)],jP.2.2))else
         none))))) (
     some (AX.exit 0,[(v17.getD 0 U.undef),(v17.getD 1 U.undef)],qO))) [aj,aj] fR.2).bind fun kG=>
  bif kG.1==AX.exit 0 then(
   A.fin σ aj kG.2.2)else
  bif kG.1==AX.ret then(
   A.fin σ (kG.2.1.getD 0 U.undef) kG.2.2)else
  none)
noncomputable def HA:List U→Heap→Option (U×Heap):=A.wrap true [(.a [(.s 3),(.s 4)]),(.s 3)] .k (A.ep HB)
noncomputable def Ih (a0 a1 a2:U) (σ:Heap):Option (U×Heap):=
 (A.cells 2 a1).bind fun c1=>
 (A.cells 2 a2).bind fun c2=>
 (A.aq 0 c2).bind fun x3=>
 (A.neq .i x3 aj).bind fun x4=>
 (A.guard x4 true (A.aq 1 c2) ay).bind fun x5=>
 (A.guard x4 true (A.neq .i x5 aj) ay).bind fun x6=>
 (A.pick x4 x6 aP).bind fun x7=>
 A.cond x7 (
  A.fin σ (U.aA [aj,(U.int .i64 3)]) σ) (
  (A.aq 0 c2).bind fun x8=>
  (Es [x8] σ).bind fun r9=>
  (A.not r9.1).bind fun bu=>
  A.cond bu (
   A.fin σ (U.aA [aj,aR]) r9.2) (
   (A.aq 1 c2).bind fun dc=>
   (A.eql .i dc aj).bind fun cE=>
   A.cond cE (
    (A.aq 0 c2).bind fun cm=>
    A.fin σ (U.aA [cm,aj]) r9.2) (
    (A.bf a0).bind fun cA=>
    (A.loop (fun kZ G7=>
      (A.lss (kZ.getD 4 U.undef) cA).bind fun eL=>
      A.cond eL (
       (A.aU 3 a0 (kZ.getD 4 U.undef)).bind fun dw=>
       ((A.deref dw G7).bind fun iN=>A.aD 0 3 iN).bind fun bC=>
       (A.cells 3 bC).bind fun nO=>
       (A.splice 0 nO [aj,bw,U.aB]).bind fun iY=>
       (A.aq 0 iY).bind fun x24=>
       ((A.lb (kZ.getD 1 U.undef)).bind fun _=>some (1)).bind fun p25=>
       ((A.lb (kZ.getD 1 U.undef)).bind fun jO=>A.aq p25 jO).bind fun dK=>
       (A.neq .i x24 dK).bind fun x28=>
       A.cond x28 (
        (A.add (kZ.getD 4 U.undef) aR).bind fun x29=>
        some (AX.normal,[(kZ.getD 0 U.undef),(kZ.getD 1 U.undef),(kZ.getD 2 U.undef),(kZ.getD 3 U.undef),x29],G7)) (
        (A.aq 2 iY).bind fun eM=>
        (A.bf eM).bind fun x31=>
        (A.loop (fun v32 G8=>
          (A.lss (v32.getD 3 U.undef) x31).bind fun gR=>
          A.cond gR (
           (A.aU 3 eM (v32.getD 3 U.undef)).bind fun p7=>
           ((A.deref p7 G8).bind fun yR=>A.aD 0 3 yR).bind fun x38=>
           (A.cells 3 x38).bind fun kV=>
           (A.splice 0 kV [aj,bw,aj]).bind fun A3=>
           (A.aD 0 2 A3).bind fun mF=>
           ((A.lb (v32.getD 0 U.undef)).bind fun wX=>A.aD 0 2 wX).bind fun iD=>
           (A.eql (.s [0,2]) mF iD).bind fun jR=>
           A.cond jR (
            (A.aq 2 A3).bind fun gU=>
            some (AX.ret,[(v32.getD 0 U.undef),gU,aj,(v32.getD 3 U.undef)],G8)) (
            (A.add (v32.getD 3 U.undef) aR).bind fun lU=>
            some (AX.normal,[(v32.getD 0 U.undef),(v32.getD 1 U.undef),(v32.getD 2 U.undef),lU],G8))) (
           some (AX.exit 2,[(v32.getD 0 U.undef),(v32.getD 1 U.undef),(v32.getD 2 U.undef),(v32.getD 3 U.undef)],G8))) [(kZ.getD 0 U.undef),(kZ.getD 2 U.undef),(kZ.getD 3 U.undef),aj] G7).bind fun tU=>
        bif tU.1==AX.exit 2 then(
         some (AX.exit 0,[(tU.2.1.getD 0 U.undef),U.undef,(tU.2.1.getD 1 U.undef),(tU.2.1.getD 2 U.undef),(kZ.getD 4 U.undef)],tU.2.2))else
        bif tU.1==AX.ret then(
         some (AX.ret,[(tU.2.1.getD 0 U.undef),U.undef,(tU.2.1.getD 1 U.undef),(tU.2.1.getD 2 U.undef),(kZ.getD 4 U.undef)],tU.2.2))else
        none)) (
       some (AX.exit 0,[(kZ.getD 0 U.undef),(kZ.getD 1 U.undef),(kZ.getD 2 U.undef),(kZ.getD 3 U.undef),(kZ.getD 4 U.undef)],G7))) [(U.lbx c1),(U.lbx c2),aj,aj,aj] r9.2).bind fun pY=>
    bif pY.1==AX.exit 0 then(
     A.fin σ (U.aA [aj,(U.int .i64 8)]) pY.2.2)else
    bif pY.1==AX.ret then(
     A.fin σ (U.aA [(pY.2.1.getD 2 U.undef),(pY.2.1.getD 3 U.undef)]) pY.2.2)else
    none)))
noncomputable def BA:List U→Heap→Option (U×Heap):=A.wrap true [(.s 3)] .k (A.fE Ih)
end
end Go.Proofs.Ytphgchakmkankaa
