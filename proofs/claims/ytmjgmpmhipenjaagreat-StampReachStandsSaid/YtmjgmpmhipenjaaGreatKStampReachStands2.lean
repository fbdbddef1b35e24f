/- Parts of the proof of StampReachStands, in order. -/
import Derived.Test.YtmjgmpmhipenjaaGreatRows
import Derived.KernelRfl
import Derived.Lib.Bytealg
import Derived.Sort.Defs
import Derived.Lib.BitFns
import Derived.Lib.Strings
import Derived.Lib.ItoaNum
import Derived.Test.YtmjgmpmhipenjaaGreatKStampReachStands1
namespace Go.Proofs.YtmjgmpmhipenjaaGreat
set_option linter.unusedVariables false
set_option linter.unusedSimpArgs false
set_option linter.unusedSectionVars false
set_option maxRecDepth 1000000
noncomputable section
open List renaming mem_iff_getElem->X4,range'_succ->aCC,getElem?_set_ne->ZN,replicate->Z5,any_eq_true->Tg,range_eq_range'->V3,length_cons->R7,length->VN,all_cons->aCh,nil_append->Tp,mem_replicate->Ti,filterMap_append->ZV,pairwise_cons->Tc,mem_filterMap->YQ,mem_filter->TR,set_comm->Wc,map_congr_left->TA,getElem?_take_of_lt->Vh,mem_map_of_mem->Vb,filterMap_cons->SU,length_nil->TZ,length_append->Ve,range'->Tz,getElem?_take->aBQ,contains_iff_mem->Yg,length_map->Z7,mem_cons_self->XJ,getD->YA
open Go.Region renaming wanted->SH,ready->SI,binds->Xu
open A renaming az->Φ,leq->Y0,neq->Uq,loop->p7,append->Uv,cond->Γ,lb->ZE,mul->WR,guard->μ,geq->ZC,deref->χ,quiet->wh,bQ->UM,bH->Wr,look->WK,fD->UC,gtr->Tt,cell->Θ,eql->Wn,bC->SD,add->Z8,sub->T6,iter->U1,ak->φ,lss->Sq,aN->p5,aF->l7,gen->aBZ,cells->ψ,not->Yr,ext->TH,tab->ZG,fin->l6,storeAt->l8,pick->p9,bW->UT
open AV renaming aA->i6,om->Vq,ah->ε,rp->Sf,op->S7,agg->Λ,sl->SQ,aM->XF,lbx->p6,int->Z6,np->Wp
open Option renaming isNone_none->UB,none->ξ,getD_none->Va,some->δ,getD_some->SG
open aq renaming mono->Tu
open Classical renaming choose_spec->ZR,choose->V7
open Bool renaming not_eq_false'->aCd,false_eq_true->UP,and_false->Tb,not_eq_true'->XX,not_true->Xk,not_false->U6,false->ι,true->η
open Go.Sem renaming run->Sp,run_pure->Vf,run_bind->u9
open Go.Lib renaming bitLen->XK,compareBytes->Ux
open _root_.Array renaming getD->aCc,toList_append->aCz,all_eq_true_iff_forall_mem->aCi,getElem?_toList->Ta,getElem?_setIfInBounds_ne->Wl,replicate->Wt
open aT renaming map->YE,box->Sd
open Nat renaming zero_add->WW,sub_self->Wz,blt->aBL,not_lt_zero->aBP
open AX renaming normal->l9,exit->Ψ,ret->n9
open AS renaming put->aBR
open Go.MapKept renaming heap_alloc->Wu
open Option.some renaming injEq->Δ
open Go.Result renaming andThen_ok->ir
open Prod.mk renaming injEq->j0
open aR renaming mono->Vs
open IntKind renaming i64->θ
open Go.Call renaming operands->aCZ
open Go.Op renaming operands->y9
section
open Go.RowKit
section
variable {X : Fx} {z : Z} {s : AS} {a : Act} {w w' : World} {E : List Pl} {pb : Nat -> Option Nat} {R : Type}
theorem tH{o:Oper}{v:Value}{w':World}{K:Act->World->Prop}{Q:Exit->Act->World->Prop}(h:(execOp a.eval o).run X.P w=.ok (.value v) w')(k:K (a.put o.dst v) w'):o.wp X.P a w K Q:=by unfold Oper.wp;rw[h,Oper.upon_value];exact k
theorem VB{o:Oper}{w':World}{K:Act->World->Prop}{Q:Exit->Act->World->Prop}(h:(execOp a.eval o).run X.P w=.ok .skip w')(k:K (a.put o.dst undef) w'):o.wp X.P a w K Q:=by unfold Oper.wp;rw[h,Oper.upon_skip];exact k
theorem St.undef(h:St X z s a w E pb)(d:Option Nat):St X z (s.put X d (.aM [])) (a.put d undef) w E pb:=
 h.put d (by simp only[aq];exact⟨#[],rfl,by simp [aR]⟩)
theorem BM(hs:eC X)(h:St X z s a w E pb){o:Oper}{k:AS->Option R}{r:R}(hk:((ij X o s ξ).bind λv=>k (s.put X o.dst v))=δ r) {K:Act->World->Prop} {Q:Exit->Act->World->Prop}
  (hK:∀s' a' w' E' cL,St X z s' a' w' E' cL->k s'=δ r->K a' w'):o.wp X.P a w K Q:=by
 obtain⟨av,h1,h2⟩:=bX.1 hk;exact agv hs h (tag:=ξ) trivial h1 λv w' E' h3 h4=>hK _ _ _ _ _ (h3.put o.dst h4) h2
theorem asx(h:St X z s a w E pb){q str:Bool}{i:Operand}{dst:Option Nat}{ty:TypeId}{pos:String}{af:Array Edge}{g:Option (Nat×Bool)}{k:AS->Option R}{r:R}
  (hk:(bif q||str then ξ else A.vO (ev X s i) s.σ λv σ=>k ((s.heap σ).put X dst v))=δ r) {K:Act->World->Prop} {Q:Exit->Act->World->Prop}
  (hK:∀s' a' w' E' cL,St X z s' a' w' E' cL->k s'=δ r->K a' w'):Oper.wp X.P ⟨dst,.next i str,ty,pos,af,g⟩ a w K Q:=by
 cases hq:(q||str)
 ·rw[hq]at hk;simp only[bK]at hk;simp only[oG]at hq;obtain⟨rfl,rfl⟩:=hq;obtain⟨av,σ',v',w',k1,k2,k3,k4⟩:=asy (ty:=ty) h hk (gf h i);exact tH (w':=w') (by simp [execOp,k2]) (hK _ _ _ _ _ (k3.put dst k4) k1)
 ·rw[hq]at hk;cases hk
theorem alX(hs:eC X)(h:St X z s a w E pb){d t n:Nat}{ps:Array (Nat×Operand)}{ty:TypeId}{pos:String}{af:Array Edge}{g:Option (Nat×Bool)}{k:AS->Option R}{r:R}
  (hk:((ij X ⟨δ d,.buildSlice t n ps,ty,pos,af,g⟩ s ξ).bind λv=>A.Jf v λsz es=>k ((s.heap (s.σ++[.arr es.length sz es])).put X (δ d) (.os s.σ.length es.length sz 0 es.length)))=δ r) {K:Act->World->Prop} {Q:Exit->Act->World->Prop}
  (hK:∀s' a' w' E' cL,St X z s' a' w' E' cL->k s'=δ r->K a' w'):Oper.wp X.P ⟨δ d,.buildSlice t n ps,ty,pos,af,g⟩ a w K Q:=by
 obtain⟨v,h1,h2⟩:=bX.1 hk;unfold A.Jf at h2;split at h2
 ·rename_i sz es;cases hl:(es.length==0)
  ·rw[hl]at h2;simp only[bK]at h2;have hne:0<es.length:=by simp at hl;exact List.length_pos_iff.2 hl
   obtain⟨arr,et,e1,e2,e3,e4,e5⟩:=akx h h1;have hlen:=h.heap.len;simp only[ctx]at hlen;refine tH e1 (hK _ _ _ _ _ ((h.B5 (.cells arr et) (.arr es.length sz es) ⟨w.heap.size,0,es.length,sz,arr.size⟩ rfl λhx=>?_).put (δ d) (av:=.os s.σ.length es.length sz 0 es.length) ?_) h2)
   ·have hb:=(Wu w (.cells arr et)).1;exact⟨rfl,hne,rfl,e3,⟨arr,et,hb,rfl⟩,by rw[e2];simp,e4 _ hb hx,DJ hb e5⟩
   ·simp only[aq];refine⟨hne,⟨w.heap.size,0,es.length,sz,arr.size⟩,by show(E++[_])[s.σ.length]? =_;rw[<-hlen];exact D9,bF _,⟨w.heap.size,0,ξ⟩,es.length,rfl,bF _,λ_=>⟨rfl,.inr (by simp),by rw[e2];simp⟩⟩
  ·rw[hl]at h2;cases h2
 ·cases h2
theorem agr(hs:eC X)(h:St X z s a w E pb){q:Bool}{o:Oper}{k:AS->Option R}{r:R}(hk:iS X q o s k=δ r){K:Act->World->Prop}{Q:Exit->Act->World->Prop}
  (hK:∀s' a' w' E' cL,St X z s' a' w' E' cL->k s'=δ r->K a' w'):o.wp X.P a w K Q:=by
 unfold iS at hk;cases hp:lP X o s ξ with
 |some p=>obtain⟨b,rr⟩:=p;rw[hp]at hk;simp only at hk;obtain⟨off,h1,h2⟩:=bX.1 hk;subst h1;obtain⟨n,k1,k2⟩:=agu h (tag:=ξ) trivial hp;exact tH k2 (hK _ _ _ _ _ (h.WT o.dst (λ_=>⟨n,k1,rfl⟩)) h2)
 |none=>
  rw[hp]at hk;simp only at hk;obtain⟨dst,op,ty,pos,af,g⟩:=o;cases op<;>simp only at hk<;>first|exact asx h hk hK|exact BM hs h hk hK|skip
  case alloc t=>
   cases dst with
   |none=>cases hk
   |some d=>
    simp only at hk;cases hL:X.L.contains d
    ·rw[hL]at hk;simp only[bK]at hk;cases hO:X.O.contains d
     ·rw[hO]at hk;exact BM hs h hk hK
     ·rw[hO]at hk;simp only[cA]at hk;split at hk
      ·rename_i cs hz;obtain⟨i,v,h1,h2,h3,h4,h5,h6⟩:=AQ (w:=w) hz (ctx z w E pb)
       have hrun:(execOp a.eval ⟨δ d,.alloc t,ty,pos,af,g⟩).run X.P w=.ok (.value (.pointer (δ ⟨w.heap.size,0,ξ⟩))) (w.alloc (.cells v.cells t)):=by simp [execOp,Instr.alloc,h3,newVar,AN]
       have hst:=h.B5 (.cells v.cells t) (.box cs) ⟨w.heap.size,0,0,0,0⟩ rfl (λhx=>by
        have hb:(w.alloc (.cells v.cells t)).heap[w.heap.size]? =δ (.cells v.cells t (0,0)):=(Wu w _).1
        exact⟨rfl,⟨_,_,hb,by have:=h5.length;simpa using this.symm⟩,bT.BA hb (Vs hx _ _ h5) h6 (λi hi=>by simp)⟩)
       have hlen:=h.heap.len;simp only[ctx]at hlen;refine tH hrun (hK _ _ _ _ _ (hst.put (δ d) (av:=.op s.σ.length 0) ?_) hk);simp only[aq];exact⟨⟨w.heap.size,0,0,0,0⟩,by show(E++[_])[s.σ.length]? =_;rw[<-hlen];exact D9,rfl,rfl⟩
      ·cases hk
    ·rw[hL]at hk;simp only[cA]at hk;split at hk
     ·rename_i cs hz;obtain⟨i,v,h1,h2,h3,h4,h5,h6⟩:=AQ (w:=w) hz (ctx z w E pb)
      have hrun:(execOp a.eval ⟨δ d,.alloc t,ty,pos,af,g⟩).run X.P w=.ok (.value (.pointer (δ ⟨w.heap.size,0,ξ⟩))) (w.alloc (.cells v.cells t)):=by simp [execOp,Instr.alloc,h3,newVar,AN]
      obtain⟨cL,hst⟩:=h.qW d hL (vs:=v.cells.toList) t h5 h6;exact tH hrun (hK _ _ _ _ _ (by simpa using hst) hk)
     ·cases hk
  case box t x=>
   cases dst with
   |none=>cases hk
   |some d=>
    simp only at hk;cases hL:X.L.contains d
    ·rw[hL]at hk;simp only[bK]at hk;cases hO:X.O.contains d
     ·rw[hO]at hk;exact BM hs h hk hK
     ·rw[hO]at hk;simp only[cA]at hk;obtain⟨cs,h1,h2⟩:=bX.1 hk;obtain⟨h5,h6,_,_⟩:=Ia X h1 (gf h x)
      have hrun:(execOp a.eval ⟨δ d,.box t x,ty,pos,af,g⟩).run X.P w=.ok (.value (.pointer (δ ⟨w.heap.size,0,ξ⟩))) (w.alloc (.cells (a.eval x).cells t)):=by simp [execOp,Instr.box,newVar,AN]
      have hst:=h.B5 (.cells (a.eval x).cells t) (.box cs) ⟨w.heap.size,0,0,0,0⟩ rfl (λhx=>by
       have hb:(w.alloc (.cells (a.eval x).cells t)).heap[w.heap.size]? =δ (.cells (a.eval x).cells t (0,0)):=(Wu w _).1
       exact⟨rfl,⟨_,_,hb,by have:=h5.length;simpa using this.symm⟩,bT.BA hb (Vs hx _ _ h5) h6 (λi hi=>by simp)⟩)
      have hlen:=h.heap.len;simp only[ctx]at hlen;refine tH hrun (hK _ _ _ _ _ (hst.put (δ d) (av:=.op s.σ.length 0) ?_) h2);simp only[aq];exact⟨⟨w.heap.size,0,0,0,0⟩,by show(E++[_])[s.σ.length]? =_;rw[<-hlen];exact D9,rfl,rfl⟩
    ·rw[hL]at hk;simp only[cA]at hk;obtain⟨cs,h1,h2⟩:=bX.1 hk;obtain⟨h5,h6,_,_⟩:=Ia X h1 (gf h x)
     have hrun:(execOp a.eval ⟨δ d,.box t x,ty,pos,af,g⟩).run X.P w=.ok (.value (.pointer (δ ⟨w.heap.size,0,ξ⟩))) (w.alloc (.cells (a.eval x).cells t)):=by simp [execOp,Instr.box,newVar,AN]
     obtain⟨cL,hst⟩:=h.qW d hL (vs:=(a.eval x).cells.toList) t h5 h6;exact tH hrun (hK _ _ _ _ _ (by simpa using hst) h2)
  case store t x v=>
   split at hk
   ·rename_i b off hp;obtain⟨cs,h1,h2⟩:=bX.1 hk;obtain⟨new,h3,h4⟩:=bX.1 h2;obtain⟨cs',h5,h6⟩:=bX.1 h4;obtain⟨n,k1,k2,k3,k4⟩:=Ik h (tag:=ξ) trivial hp h1;obtain⟨r1,r2,r3,d,hd⟩:=Ia X h3 (gf h v);obtain⟨arr,bt,j1,j2,j3⟩:=ad1 k3;obtain⟨j4,j5⟩:=j2.gI h5 r1;have hrun:=Uc (P:=X.P) (t:=t) j1 r3 (aa6 hd) r2 j5;have hst:=h.aui k1 ⟨cs,k4⟩ (t:=bt) j4 (ID j3 r2);refine VB (w':=_) ?_ (hK _ _ _ _ _ (hst.undef dst) h6);simp only[execOp,k2,u9];rw[show(Instr.storeAt t (.pointer (δ ⟨n,off,ξ⟩)) (a.eval v)).run X.P w=_ from hrun];rfl
   ·obtain⟨new,h3,h4⟩:=bX.1 hk;obtain⟨σ',h5,h6⟩:=bX.1 h4;obtain⟨w',k1,k2⟩:=an8 h h3 (gf h v) h5 (gf h x);refine VB (w':=w') ?_ (hK _ _ _ _ _ (k2.undef dst) h6);simp only[execOp,u9,k1];rfl
  case makeMap t rr=>
   cases rr with
   |some x=>cases hk
   |none=>
    simp only at hk
    have hrun:(execOp a.eval ⟨dst,.makeMap t ξ,ty,pos,af,g⟩).run X.P w=.ok (.value (.map (δ w.heap.size))) (w.alloc (.map #[] 0)):=by simp [execOp,Instr.makeMap,newObj,Sp]
    have hst:=h.B5 (.map #[] 0) (.map []) ⟨w.heap.size,0,0,0,0⟩ rfl (λhx=>by
     have hb:(w.alloc (.map #[] 0)).heap[w.heap.size]? =δ (.map #[] 0):=(Wu w _).1
     exact⟨rfl,_,_,hb,qh.empty,rfl⟩)
    have hlen:=h.heap.len;simp only[ctx]at hlen;refine tH hrun (hK _ _ _ _ _ (hst.put dst (av:=.om s.σ.length) ?_) hk);simp only[aq];exact⟨⟨w.heap.size,0,0,0,0⟩,by show(E++[_])[s.σ.length]? =_;rw[<-hlen];exact D9,rfl,rfl⟩
  case range t x=>
   split at hk
   ·rename_i kt et hd;obtain⟨es,h1,h2⟩:=bX.1 hk;obtain⟨o,k1,k2⟩:=aqG h hd h1 (gf h x);have hlen:=h.heap.len;simp only[ctx]at hlen;refine tH (v:=.pointer (δ ⟨w.heap.size,0,ξ⟩)) (w':=w.alloc o) (by simp [execOp,k1]) (hK _ _ _ _ _ (k2.put dst (av:=.op s.σ.length 0) ?_) h2);simp only[aq];exact⟨⟨w.heap.size,0,0,0,0⟩,by show(E++[_])[s.σ.length]? =_;rw[<-hlen];exact D9,rfl,rfl⟩
   ·cases hk
  case buildSlice t n ps=>
   cases dst with
   |none=>exact BM hs h hk hK
   |some d=>
    simp only at hk;cases hO:X.O.contains d
    ·rw[hO]at hk;exact BM hs h hk hK
    ·rw[hO]at hk;simp only[cA]at hk;exact alX hs h hk hK
  case mapUpdate t m i v=>
   split at hk
   ·rename_i kt et hd;split at hk
    ·rename_i ek he;obtain⟨σ',h1,h2⟩:=bX.1 hk;obtain⟨w',k1,k2⟩:=asv h hd he h1 (gf h m) (gf h i) (gf h v);refine VB (w':=w') ?_ (hK _ _ _ _ _ (k2.undef dst) h2);simp only[execOp,u9,k1];rfl
    ·cases hk
   ·cases hk
  case call c=>
   have hargs:(c.args.map a.eval).toList=c.args.toList.map a.eval:=by simp
   have re:=Ix h c.args.toList;split at hk
   ·rename_i hc;split at hk
    ·rename_i t u x y h1 h2;split at hk
     ·rename_i e e' hd hu;split at hk
      ·rename_i i hi;cases fV:pE i
       ·rw[fV]at hk;simp only[bK]at hk;simp only[pE,oG,beq_eq_false_iff_ne]at fV;obtain⟨⟨z1,z2⟩,z3⟩:=fV;cases Zr:i.zero with
        |none=>rw[Zr]at z3;cases z3
        |some zv=>
         rw[Zr]at z3;simp only[oG,bne_eq_false_iff_eq,aCd]at z3;obtain⟨z3,z4⟩:=z3;obtain⟨⟨rr,σ'⟩,h3,h4⟩:=bX.1 hk;rw[h2]at re
         have hl:∃v vy,c.args.toList.map a.eval=[v,vy]/\aq (ctx z w E pb) x v/\aq (ctx z w E pb) y vy:=by
          generalize c.args.toList.map a.eval=vs at *
          simp only[aR]at re;obtain⟨v,_,rfl,r1,u',_,rfl,r2,rfl⟩:=re;exact⟨v,u',rfl,r1,r2⟩
         obtain⟨v,vy,hvs,r1,r2⟩:=hl;have hone:∀x∈zv.cells.toList,fc x=η:=vS.1 z4;obtain⟨n,w',E',k1,k2,k3⟩:=aoj (ty:=ty) h hd hu hi Zr z3 z1 z2 hone h3 r1 r2;have h1':c.argTypes=#[t,u]:=by apply mU.1;simpa using h1
         have wA:c.args.map a.eval=#[v,vy]:=by apply mU.1;rw[hargs,hvs]
         have hrun:(execOp a.eval ⟨dst,.call c,ty,pos,af,g⟩).run X.P w=.ok (.value n) w':=by simp only[execOp,resolve,hc,u9,Vf,ir,invoke,builtin,wA,h1',k1]
         exact tH hrun (hK _ _ _ _ _ (k2.put dst k3) h4)
       ·rw[fV]at hk;cases hk
      ·cases hk
     ·rename_i e kk hd hu;split at hk
      ·rename_i i zs hi hz;cases fV:pE i
       ·rw[fV]at hk;simp only[bK]at hk;simp only[pE,oG,beq_eq_false_iff_ne]at fV;obtain⟨⟨z1,z2⟩,z3⟩:=fV;obtain⟨i',zv,g1,g2,g3,g4,g5,g6⟩:=AQ (w:=w) hz (ctx z w E pb);rw[hi]at g1;injection g1 with g1;subst g1
        rw[g2]at z3;simp only[oG,bne_eq_false_iff_eq,aCd]at z3;obtain⟨z3,z4⟩:=z3
        have ug:∀c,aR c zs zv.cells.toList:=λc=>by
         obtain⟨i2,v2,f1,f2,f3,f4,f5,f6⟩:=AQ (w:=w) hz c;rw[hi]at f1;injection f1 with f1;subst f1
         rw[g2]at f2;injection f2 with f2;subst f2
         exact f5
        obtain⟨⟨rr,σ'⟩,h3,h4⟩:=bX.1 hk;rw[h2]at re
        have hl:∃v vy,c.args.toList.map a.eval=[v,vy]/\aq (ctx z w E pb) x v/\aq (ctx z w E pb) y vy:=by
         generalize c.args.toList.map a.eval=vs at *
         simp only[aR]at re;obtain⟨v,_,rfl,r1,u',_,rfl,r2,rfl⟩:=re;exact⟨v,u',rfl,r1,r2⟩
        obtain⟨v,vy,hvs,r1,r2⟩:=hl;obtain⟨n,w',E',k1,k2,k3⟩:=amV (ty:=ty) h hd hu hi g2 z3 z1 z2 ug g6 h3 r1 r2;have h1':c.argTypes=#[t,u]:=by apply mU.1;simpa using h1
        have wA:c.args.map a.eval=#[v,vy]:=by apply mU.1;rw[hargs,hvs]
        have hrun:(execOp a.eval ⟨dst,.call c,ty,pos,af,g⟩).run X.P w=.ok (.value n) w':=by simp only[execOp,resolve,hc,u9,Vf,ir,invoke,builtin,wA,h1',k1]
        exact tH hrun (hK _ _ _ _ _ (k2.put dst k3) h4)
       ·rw[fV]at hk;cases hk
      ·cases hk
     ·cases hk
    ·cases hk
   ·rename_i hc;split at hk
    ·rename_i t u x y h1 h2;split at hk
     ·rename_i e e' hd hu;split at hk
      ·rename_i i hi;cases fV:pE i
       ·rw[fV]at hk;simp only[bK]at hk;simp only[pE,oG,beq_eq_false_iff_ne]at fV;obtain⟨⟨z1,z2⟩,z3⟩:=fV;obtain⟨⟨rr,σ'⟩,h3,h4⟩:=bX.1 hk;rw[h2]at re
        have hl:∃v vy,c.args.toList.map a.eval=[v,vy]/\aq (ctx z w E pb) x v/\aq (ctx z w E pb) y vy:=by
         generalize c.args.toList.map a.eval=vs at *
         simp only[aR]at re;obtain⟨v,_,rfl,r1,u',_,rfl,r2,rfl⟩:=re;exact⟨v,u',rfl,r1,r2⟩
        obtain⟨v,vy,hvs,r1,r2⟩:=hl;obtain⟨n,w',k1,k2,k3⟩:=arx (ty:=ty) h hd hu hi z1 h3 r1 r2;have h1':c.argTypes=#[t,u]:=by apply mU.1;simpa using h1
        have wA:c.args.map a.eval=#[v,vy]:=by apply mU.1;rw[hargs,hvs]
        have hrun:(execOp a.eval ⟨dst,.call c,ty,pos,af,g⟩).run X.P w=.ok (.value n) w':=by simp only[execOp,resolve,hc,u9,Vf,ir,invoke,builtin,wA,h1',k1]
        exact tH hrun (hK _ _ _ _ _ (k2.put dst k3) h4)
       ·rw[fV]at hk;cases hk
      ·cases hk
     ·cases hk
    ·cases hk
   ·rename_i hc;cases hv:ij X ⟨dst,.call c,ty,pos,af,g⟩ s ξ with
    |some v=>rw[hv]at hk;exact BM hs h (by rw[hv];exact hk) hK
    |none=>
     rw[hv]at hk;simp only[A.Bg]at hk;cases q
     ·simp only[bK]at hk;split at hk
      ·rename_i t x h1 h2;split at hk
       ·rename_i e hd;rw[h2]at re
        have hl:∃v,c.args.toList.map a.eval=[v]/\aq (ctx z w E pb) x v:=by
         generalize c.args.toList.map a.eval=vs at *
         simp only[aR]at re;obtain⟨v,_,rfl,r1,rfl⟩:=re;exact⟨v,rfl,r1⟩
        obtain⟨v,hvs,r1⟩:=hl;obtain⟨n,σ',k1,k2,k3⟩:=arp (ty:=ty) h hd hk r1;have h1':c.argTypes=#[t]:=by apply mU.1;simpa using h1
        have wA:c.args.map a.eval=#[v]:=by apply mU.1;rw[hargs,hvs]
        have hrun:(execOp a.eval ⟨dst,.call c,ty,pos,af,g⟩).run X.P w=.ok (.value (.int θ (n:Int))) w:=by simp only[execOp,resolve,hc,u9,Vf,ir,invoke,builtin,wA,h1',k2]
        exact tH hrun (hK _ _ _ _ _ (k3.put dst (by simp [aq])) k1)
       ·cases hk
      ·cases hk
     ·cases hk
   ·rename_i hc;split at hk
    ·rename_i t x h1 h2;split at hk
     ·rename_i e hd;split at hk
      ·rename_i i zs hi hz;cases fV:pE i
       ·rw[fV]at hk;simp only[bK]at hk;simp only[pE,oG,beq_eq_false_iff_ne]at fV;obtain⟨⟨z1,z2⟩,z3⟩:=fV;obtain⟨i',zv,g1,g2,g3,g4,g5,g6⟩:=AQ (w:=w) hz (ctx z w E pb);rw[hi]at g1;injection g1 with g1;subst g1
        rw[g2]at z3;simp only[oG,bne_eq_false_iff_eq,aCd]at z3;obtain⟨z3,z4⟩:=z3
        have ug:∀c,aR c zs zv.cells.toList:=λc=>by
         obtain⟨i2,v2,f1,f2,f3,f4,f5,f6⟩:=AQ (w:=w) hz c;rw[hi]at f1;injection f1 with f1;subst f1
         rw[g2]at f2;injection f2 with f2;subst f2
         exact f5
        obtain⟨σ',h3,h4⟩:=bX.1 hk;rw[h2]at re
        have hl:∃v,c.args.toList.map a.eval=[v]/\aq (ctx z w E pb) x v:=by
         generalize c.args.toList.map a.eval=vs at *
         simp only[aR]at re;obtain⟨v,_,rfl,r1,rfl⟩:=re;exact⟨v,rfl,r1⟩
        obtain⟨v,hvs,r1⟩:=hl;obtain⟨w',k1,k2⟩:=apO (ty:=ty) h hd (aoe X.P hi g2) z3 z1 ug g6 h3 r1;have h1':c.argTypes=#[t]:=by apply mU.1;simpa using h1
        have wA:c.args.map a.eval=#[v]:=by apply mU.1;rw[hargs,hvs]
        have hrun:(execOp a.eval ⟨dst,.call c,ty,pos,af,g⟩).run X.P w=.ok (.value undef) w':=by simp only[execOp,resolve,hc,u9,Vf,ir,invoke,builtin,wA,h1',k1];rfl
        exact tH hrun (hK _ _ _ _ _ (k2.undef dst) h4)
       ·rw[fV]at hk;cases hk
      ·cases hk
     ·cases hk
    ·cases hk
   ·rename_i hc;split at hk
    ·rename_i t u m key h1 h2;split at hk
     ·rename_i kt et hd;split at hk
      ·rename_i ek he;obtain⟨σ',h3,h4⟩:=bX.1 hk;rw[h2]at re
       have hl:∃v vy,c.args.toList.map a.eval=[v,vy]/\aq (ctx z w E pb) m v/\aq (ctx z w E pb) key vy:=by
        generalize c.args.toList.map a.eval=vs at *
        simp only[aR]at re;obtain⟨v,_,rfl,r1,u',_,rfl,r2,rfl⟩:=re;exact⟨v,u',rfl,r1,r2⟩
       obtain⟨v,vy,hvs,r1,r2⟩:=hl;obtain⟨w',k1,k2⟩:=asq (u:=u) (ty:=ty) h hd he h3 r1 r2;have h1':c.argTypes=#[t,u]:=by apply mU.1;simpa using h1
       have wA:c.args.map a.eval=#[v,vy]:=by apply mU.1;rw[hargs,hvs]
       have hrun:(execOp a.eval ⟨dst,.call c,ty,pos,af,g⟩).run X.P w=.ok (.value undef) w':=by simp only[execOp,resolve,hc,u9,Vf,ir,invoke,builtin,wA,h1',k1];rfl
       exact tH hrun (hK _ _ _ _ _ (k2.undef dst) h4)
      ·cases hk
     ·cases hk
    ·cases hk
   ·exact BM hs h hk hK
   ·rename_i f hc;cases hq:(q&&!X.W.contains f)
    ·rw[hq]at hk;simp only[bK]at hk;obtain⟨⟨rr,σ'⟩,h3,h4⟩:=bX.1 hk;exact La h (hs.call _ _ _ _ _ h3) (by rw[hargs];exact re) (aaP hc) (λv w' E' h1 h2=>hK _ _ _ _ _ (h1.put dst h2) h4)
    ·rw[hq]at hk;simp only[cA]at hk;exact BM hs h hk hK
   ·rename_i x hnf hc;cases q
    ·simp only[bK]at hk;obtain⟨⟨rr,σ'⟩,h3,h4⟩:=bX.1 hk;have rx:=gf h x;generalize ev X s x=vx at *
     cases vx<;>simp only[A.jC]at h3<;>first|(cases h3;done)|skip
     rename_i fn0 LB;simp only[aq]at rx;obtain⟨f,cs,e1,e2,e3⟩:=rx;rw[<-e2]at h3;have C6:X.dyn (X.nm.getD f 0) (c.args.toList.map (ev X s)++LB) s.σ=δ (rr,σ'):=by rw[h.nm];exact h3
     exact La h (hs.dyn _ _ _ _ _ C6) (vs:=c.args.map a.eval++cs) (by rw[aCz,hargs];exact re.append e3) (ann hc e1) (λv w' E' h1 h2=>hK _ _ _ _ _ (h1.put dst h2) h4)
    ·simp only[cA]at hk;exact BM hs h hk hK
   ·cases hk
end
end
section
structure Up where
 d:Option Nat
 v:AV
 bx:Option (Nat×AV)
 new:Option xA
 zQ:Bool
 σ:Option Heap
def su(zQ:Bool)(d:Nat)(a:Option xA):Option xA:=match qR d a with|some p=>bif zQ&&p.slot==d then ξ else δ p|none=>ξ
def Up.sl(u:Up)(l:List AV):List AV:=match u.d with
 |some d=>(match u.bx with|some (b,x)=>l.set b x|none=>l).set d u.v
 |none=>(match u.bx with|some (b,x)=>l.set b x|none=>l)
def Up.A(u:Up)(A:Nat->Option xA)(t:Nat):Option xA:=match u.d with|none=>A t|some d=>bif t==d then u.new else su u.zQ d (A t)
def Up.ap(u:Up)(s:AS):AS:=⟨u.sl s.sl,u.A s.A,u.σ.getD s.σ⟩
theorem KH(d:Nat)(a:Option xA):su ι d a=qR d a:=by unfold su;cases qR d a<;>rfl
theorem Uk(i:Bool)(d:Nat)(a:Option xA):su i d a=a\/su i d a=ξ:=by
 cases a with
 |none=>left;rfl
 |some p=>
  unfold su;cases hk:qR d (δ p)with
  |none=>right;rfl
  |some q=>
   simp only
   have:q=p:=by
    simp only[qR]at hk;cases ht:p.tag with
    |none=>rw[ht]at hk;simpa using hk.symm
    |some g=>
     obtain⟨g,w⟩:=g;rw[ht]at hk;simp only at hk;cases hg:(g==d)
     ·rw[hg]at hk;simpa using hk.symm
     ·rw[hg]at hk;cases hk
   subst this;cases hb:(i&&q.slot==d)
   ·left;rfl
   ·right;rfl
theorem O9(i:Bool)(d:Nat):su i d ξ=ξ:=rfl
theorem aoC(i j:Bool)(d e:Nat)(a:Option xA):su i d (su j e a)=su j e (su i d a):=by
 rcases Uk i d a with h1|h1<;>rcases Uk j e a with h2|h2
 ·rw[h2,h1,h2]
 ·rw[h2,O9,h1,h2]
 ·rw[h2,h1,O9]
 ·rw[h2,O9,h1,O9]
structure Up.agH (x y : Up) : Prop where
 d:∀d,x.d=δ d->y.d≠δ d
 bx:∀b v,x.bx=δ (b,v)->(∀c w,y.bx=δ (c,w)->c≠b)/\y.d≠δ b
 by':∀b v,y.bx=δ (b,v)->(∀c w,x.bx=δ (c,w)->c≠b)/\x.d≠δ b
 nx:∀d,y.d=δ d->su y.zQ d x.new=x.new
 ny:∀d,x.d=δ d->su x.zQ d y.new=y.new
 σ:x.σ=ξ\/y.σ=ξ
theorem Up.comm{x y:Up}(h:x.agH y)(s:AS):x.ap (y.ap s)=y.ap (x.ap s):=by
 obtain⟨hd,kQ,hby,hnx,hny,gW⟩:=h;unfold Up.ap;congr 1
 ·show x.sl (y.sl s.sl)=y.sl (x.sl s.sl);generalize s.sl=l;obtain⟨xd,xv,xb,xn,xi,xs⟩:=x;obtain⟨yd,yv,yb,yn,yi,ys⟩:=y;simp only at hd kQ hby;cases xb with
  |none=>
   cases yb with
   |none=>
    cases xd with
    |none=>cases yd<;>simp [Up.sl]
    |some dx=>cases yd with
     |none=>simp [Up.sl]
     |some dy=>simp only[Up.sl];rw[Wc];intro e;exact hd dx rfl (by rw[e])
   |some bv=>
    obtain⟨b,v⟩:=bv;obtain⟨_,hb⟩:=hby b v rfl;cases xd with
    |none=>cases yd<;>simp [Up.sl]
    |some dx=>
     have hne:dx≠b:=λe=>hb (by rw[e])
     cases yd with
     |none=>simp only[Up.sl];rw[Wc _ _ (λe=>hne e.symm)]
     |some dy=>
      have sP:dx≠dy:=λe=>hd dx rfl (by rw[e])
      simp only[Up.sl];rw[Wc _ _ (λe=>sP e.symm),Wc _ _ (λe=>hne e.symm)]
  |some bv=>
   obtain⟨b,v⟩:=bv;obtain⟨M7,hb⟩:=kQ b v rfl;cases yb with
   |none=>
    cases yd with
    |none=>cases xd<;>simp [Up.sl]
    |some dy=>
     have hne:dy≠b:=λe=>hb (by rw[e])
     cases xd with
     |none=>simp only[Up.sl];rw[Wc _ _ hne]
     |some dx=>
      have sP:dx≠dy:=λe=>hd dx rfl (by rw[e])
      simp only[Up.sl];rw[Wc _ _ hne,Wc _ _ (λe=>sP e.symm)]
   |some cw=>
    obtain⟨c,u⟩:=cw;have hcb:c≠b:=M7 c u rfl;obtain⟨_,hc⟩:=hby c u rfl;cases xd with
    |none=>
     cases yd with
     |none=>simp only[Up.sl];rw[Wc _ _ hcb]
     |some dy=>
      have hne:dy≠b:=λe=>hb (by rw[e])
      simp only[Up.sl];rw[Wc _ _ hne,Wc _ _ hcb]
    |some dx=>
     have hnc:dx≠c:=λe=>hc (by rw[e])
     cases yd with
     |none=>simp only[Up.sl];rw[Wc _ _ hcb,Wc _ _ (λe=>hnc e.symm)]
     |some dy=>
      have hne:dy≠b:=λe=>hb (by rw[e])
      have sP:dx≠dy:=λe=>hd dx rfl (by rw[e])
      simp only[Up.sl];rw[Wc _ _ hne,Wc _ _ (λe=>sP e.symm),Wc _ _ hcb,Wc _ _ (λe=>hnc e.symm)]
 ·funext t;show x.A (y.A s.A) t=y.A (x.A s.A) t;generalize s.A t=a0;unfold Up.A;cases hxd:x.d with
  |none=>cases y.d<;>rfl
  |some dx=>
   cases hyd:y.d with
   |none=>rfl
   |some dy=>
    have sP:dx≠dy:=λe=>hd dx hxd (by rw[hyd,e])
    simp only;by_cases h1:t=dx
    ·subst h1;have:(t==dy)=ι:=by simpa using sP
     simp only[beq_self_eq_true,cA,this,bK];exact(hnx dy hyd).symm
    ·have h1':(t==dx)=ι:=by simpa using h1
     by_cases h2:t=dy
     ·subst h2;simp only[beq_self_eq_true,cA,h1',bK];exact hny dx hxd
     ·have h2':(t==dy)=ι:=by simpa using h2
      simp only[h1',h2',bK];exact aoC ..
 ·rcases gW with e|e<;>simp [e]
structure RI (X : Fx) (Rt : List (Nat × Nat)) (Bt : List Nat) (s : AS) : Prop where
 l:∀t b,Rt.lookup t=δ b->X.L.contains b=η
 a:∀t p,s.A t=δ p->Rt.lookup t=δ p.slot
 v:∀t b,Rt.lookup t=δ b->X.L.contains t=ι->nW (s.sl.getD t .undef)=η
 b:∀t,Bt.contains t=η->rj (s.sl.getD t .undef)=η
def tL(σ σ':Heap):Prop:=∀(id:Nat)(cs:List AV),σ[id]? =δ (Sd cs)↔σ'[id]? =δ (Sd cs)
section
variable {R : Type} {X : Fx} {Rt : List (Nat × Nat)} {Bt : List Nat} {s s' : AS}
theorem PC(h:RI X Rt Bt s){tag:Option (Nat×Bool)}{x:Operand}{b off:Nat}(hp:place X s tag x=δ (b,off)):BF X Rt x=δ b:=by
 cases x with
 |tmp t=>
  simp only[place]at hp;simp only[BF];cases hL:X.L.contains t
  ·rw[hL]at hp;simp only[bK]at hp ⊢;split at hp
   ·rename_i p hA;cases hc:X.L.contains p.slot
    ·rw[hc]at hp;cases hp
    ·rw[hc]at hp;simp only[cA]at hp;have ha:=h.a t p hA;split at hp
     ·simp only[Δ,j0]at hp;rw[ha,hp.1]
     ·rename_i g hg;cases ht:(tag==δ g)
      ·rw[ht]at hp;cases hp
      ·rw[ht]at hp;simp only[cA,Δ,j0]at hp;rw[ha,hp.1]
   ·cases hp
  ·rw[hL]at hp;simp only[cA,Δ,j0]at hp ⊢;exact hp.1
 |_=>simp [place]at hp
theorem It(h:RI X Rt Bt s){tag:Option (Nat×Bool)}{x:Operand}{b:Nat}(hr:BF X Rt x=δ b)(hp:place X s tag x=ξ):nW (ev X s x)=η:=by
 cases x with
 |tmp t=>
  simp only[BF]at hr;cases hL:X.L.contains t
  ·rw[hL]at hr;simp only[bK]at hr;simp only[ev,hL,bK];exact h.v t b hr hL
  ·simp only[place,hL,cA]at hp;cases hp
 |_=>simp [BF]at hr
theorem ad2{v:AV}{σ:Heap}(h:nW v=η):χ v σ=ξ:=by unfold nW at h;split at h<;>first|rfl|cases h
theorem aox{v:AV}{σ σ':Heap}(h:tL σ σ')(hv:rj v=η):χ v σ=χ v σ':=by
 cases v<;>first|rfl|skip
 case op id off=>
  simp only[χ];cases h1:σ[id]? with
  |none=>
   cases h2:σ'[id]? with
   |none=>rfl
   |some b=>cases b<;>first|rfl|(have:=(h id _).2 h2;rw[h1]at this;cases this)
  |some b=>
   cases b with
   |box cs=>rw[(h id cs).1 h1]
   |_=>
    cases h2:σ'[id]? with
    |none=>rfl
    |some b=>cases b<;>first|rfl|(have:=(h id _).2 h2;rw[h1]at this;cases this)
 case oe id g i off=>cases hv
theorem an7{v:AV}{new:List AV}{σ:Heap}(h:nW v=η):l8 v new σ=ξ:=by unfold nW at h;split at h<;>first|rfl|cases h
theorem ar7{pl:Nat->Option (Nat×TypeId)}:∀(ps:List (Nat×Operand))(cs:List AV),(∀p∈ps,ev X s p.2=ev X s' p.2)->qY X s pl ps cs=qY X s' pl ps cs
 |[],cs,_=>rfl
 |(i,x)::ps,cs,h=>by
  have hx:=h (i,x) (by simp);simp only at hx;simp only[qY,hx];cases pl i with
  |none=>rfl
  |some ot=>simp only;congr 1;funext new;congr 1;funext cs';exact ar7 ps cs' (λp hp=>h p (by simp [hp]))
theorem UW{o:Oper}{tag:Option (Nat×Bool)}(ig:∀x∈o.op.operands.toList,ev X s x=ev X s' x)(hpl:∀x,qx o=δ x->place X s tag x=place X s' tag x)(hb:∀b,rt X Rt o=δ b->s.sl.getD b .undef=s'.sl.getD b .undef)
  (MZ:∀x b off,qx o=δ x->place X s' tag x=δ (b,off)->rt X Rt o=δ b):lP X o s tag=lP X o s' tag:=by
 obtain⟨dst,op,ty,pos,af,g⟩:=o;cases op<;>simp only[lP]
 case nilCheck x=>
  rw[hpl x rfl];split
  ·rename_i b off hp;rw[hb b (MZ x b off rfl hp)]
  ·rfl
 case fieldAddr t x f=>
  rw[hpl x rfl];split
  ·rename_i b off hp;rw[hb b (MZ x b off rfl hp)]
  ·rfl
 case indexAddr t x i=>
  rw[hpl x rfl,ig i (by simp [y9])];split
  ·rename_i b off hp;rw[hb b (MZ x b off rfl hp)]
  ·rfl
theorem Pf{o:Oper}{tag:Option (Nat×Bool)}(ig:∀x∈o.op.operands.toList,ev X s x=ev X s' x)(hpl:∀x,qx o=δ x->place X s tag x=place X s' tag x)(hb:∀b,rt X Rt o=δ b->s.sl.getD b .undef=s'.sl.getD b .undef)
  (MZ:∀x b off,qx o=δ x->place X s' tag x=δ (b,off)->rt X Rt o=δ b) (hno:∀x b,qx o=δ x->rt X Rt o=δ b->place X s' tag x=ξ->nW (ev X s' x)=η) (gW:xT X Rt o=η->soft Bt o=ι->s.σ=s'.σ) (axb:xT X Rt o=η->soft Bt o=η->tL s.σ s'.σ) (hB:∀t,Bt.contains t=η->rj (ev X s' (.tmp t))=η):ij X o s tag=ij X o s' tag:=by
 obtain⟨dst,op,ty,pos,af,g⟩:=o;cases op<;>simp only[ij];case move x=>rw[ig x (by simp [y9])]
 case assign x=>rw[ig x (by simp [y9])]
 case pick x y u=>rw[ig x (by simp [y9]),ig y (by simp [y9]),ig u (by simp [y9])]
 case box t x=>rw[ig x (by simp [y9])]
 case build t ps=>
  have hps:∀p∈ps.toList,ev X s p.2=ev X s' p.2:=λp hp=>ig p.2 (by simp only[y9];simp;exact⟨p.1,by simpa using hp⟩)
  split
  ·rw[ar7 ps.toList _ hps]
  ·rfl
 case buildSlice t n ps=>
  have hps:∀p∈ps.toList,ev X s p.2=ev X s' p.2:=λp hp=>ig p.2 (by simp only[y9];simp;exact⟨p.1,by simpa using hp⟩)
  split
  ·split
   ·rw[ar7 ps.toList _ hps]
   ·rfl
  ·rfl
 case load t x=>
  rw[hpl x rfl,ig x (by simp [y9])];split
  ·rename_i b off hp;rw[hb b (MZ x b off rfl hp)]
  ·rename_i hp;cases hr:rt X Rt ⟨dst,.load t x,ty,pos,af,g⟩with
   |none=>
    cases GQ:soft Bt ⟨dst,.load t x,ty,pos,af,g⟩
    ·rw[gW (by simp only[xT,hr,UB]) GQ]
    ·rw[aox (axb (by simp only[xT,hr,UB]) GQ) (by
      cases x with
      |tmp u=>exact hB u GQ
      |_=>simp [soft]at GQ)]
   |some b=>rw[ad2 (hno x b rfl hr hp),ad2 (hno x b rfl hr hp)]
 case nilCheck x=>rw[ig x (by simp [y9])]
 case binOp op t x y u=>rw[ig x (by simp [y9]),ig y (by simp [y9])]
 case unOp op t x=>rw[ig x (by simp [y9])]
 case convert a b x=>rw[ig x (by simp [y9])]
 case makeFunc fn first caps=>
  have:caps.toList.map (ev X s)=caps.toList.map (ev X s'):=TA λx hx=>ig x (by simp [y9];exact .inr (by simpa using hx))
  rw[this]
 case slice t x lo hi mx=>
  have h1:lo.map (ev X s)=lo.map (ev X s'):=by cases lo with|none=>rfl|some y=>simp only[cq];rw[ig y (by simp [y9])]
  have h2:hi.map (ev X s)=hi.map (ev X s'):=by cases hi with|none=>rfl|some y=>simp only[cq];rw[ig y (by simp [y9])]
  rw[ig x (by simp [y9]),h1,h2,gW rfl rfl];split
  ·rfl
  ·split
   ·rw[ig _ (by simp [y9]),ig _ (by simp [y9])]
   ·rfl
 case fieldAddr t x f=>rw[ig x (by simp [y9])]
 case field t x f=>rw[ig x (by simp [y9])]
 case indexAddr t x i=>rw[ig x (by simp [y9]),ig i (by simp [y9])]
 case index t x i=>rw[ig x (by simp [y9]),ig i (by simp [y9])]
 case lookup t x i ok=>rw[ig x (by simp [y9]),ig i (by simp [y9]),gW rfl rfl]
 case extract x i=>rw[ig x (by simp [y9])]
 case entry i=>rw[ig i (by simp [y9]),gW rfl rfl]
 case call c=>
  have ha:c.args.toList.map (ev X s)=c.args.toList.map (ev X s'):=TA λx hx=>ig x (by simp [y9,aCZ];exact .inr (by simpa using hx))
  rw[ha,gW rfl rfl];cases hc:c.callee with
  |value f=>have hf:=ig f (by simp [y9,aCZ,hc]);cases f<;>simp only[hf]
  |_=>rfl
theorem Po{σ:Heap}{b:aT}(hb:∀cs,b≠.box cs):tL σ (σ++[b]):=by
 intro id cs;by_cases h:id<σ.length
 ·rw[iG h]
 ·rw[qm (by omega),iz (by omega)];constructor
  ·intro e;cases e
  ·intro e;have:=cE e;simp at this;exact absurd this.symm (hb cs)
theorem VH{σ:Heap}{id:Nat}{b b':aT}(hb:∀cs,b≠.box cs)(hb':∀cs,b'≠.box cs)(h:σ[id]? =δ b):tL σ (σ.set id b'):=by
 intro i cs;rw[jm];by_cases e:id=i
 ·subst e;rw[h];have hlt:=(bD.1 h).1;simp only[if_true,hlt];constructor
  ·intro e;injection e with e;exact absurd e (hb cs)
  ·intro e;injection e with e;exact absurd e (hb' cs)
 ·simp [e]
theorem Fp(σ:Heap):tL σ σ:=λ_ _=>Iff.rfl
theorem apG{ek:A.EK}{m k v:AV}{σ σ':Heap}(h:A.iX ek m k v σ=δ σ'):tL σ σ':=by
 unfold A.iX at h;cases hk:A.kK ek k
 ·rw[hk]at h;cases h
 rw[hk]at h;simp only[cA]at h;split at h
 ·split at h
  ·rename_i es hg;obtain⟨es',_,e⟩:=eP.1 h;subst e;exact VH (λcs e=>by cases e) (λcs e=>by cases e) hg
  ·cases h
 ·cases h
theorem abB{sz most:Nat}{x r:AV}{ys:List (List AV)}{σ σ':Heap}(h:A.pe sz most x ys σ=δ (r,σ')):tL σ σ':=by
 unfold A.pe at h;split at h
 ·split at h
  ·injection h with h;injection h with _ h;subst h;exact Fp _
  ·split at h
   ·injection h with h;injection h with _ h;subst h;exact Po λcs e=>by cases e
   ·cases h
 ·split at h
  ·injection h with h;injection h with _ h;subst h;exact Fp _
  ·split at h
   ·injection h with h;injection h with _ h;subst h;exact Po λcs e=>by cases e
   ·cases h
 ·split at h
  ·rename_i hg;split at h
   ·split at h
    ·injection h with h;injection h with _ h;subst h;exact Fp _
    ·split at h
     ·injection h with h;injection h with _ h;subst h;exact VH (λcs e=>by cases e) (λcs e=>by cases e) hg
     ·injection h with h;injection h with _ h;subst h;exact VH (λcs e=>by cases e) (λcs e=>by cases e) hg
   ·cases h
  ·split at h
   ·injection h with h;injection h with _ h;subst h;exact Po λcs e=>by cases e
   ·cases h
  ·cases h
 ·cases h
theorem amX{sz most:Nat}{x y r:AV}{σ σ':Heap}(h:Uv sz most x y σ=δ (r,σ')):tL σ σ':=by unfold Uv at h;obtain⟨ys,_,h2⟩:=bX.1 h;exact abB h2
theorem alW{sz most:Nat}{zs:List AV}{x n r:AV}{σ σ':Heap}(h:A.zK sz most zs x n σ=δ (r,σ')):tL σ σ':=by
 unfold A.zK at h;split at h
 ·split at h
  ·exact abB h
  ·cases h
 ·cases h
structure Ag (X : Fx) (Rt : List (Nat × Nat)) (Bt : List Nat) (o : Oper) (ls : List Nat) (tag : Option (Nat × Bool)) (s s' : AS) : Prop where
 r1:RI X Rt Bt s
 r2:RI X Rt Bt s'
 ig:∀t∈ls,X.L.contains t=ι->s.sl.getD t .undef=s'.sl.getD t .undef
 pl:∀t,qx o=δ (.tmp t)->place X s tag (.tmp t)=place X s' tag (.tmp t)
 bx:∀b,rt X Rt o=δ b->s.sl.getD b .undef=s'.sl.getD b .undef
 σ:xT X Rt o=η->soft Bt o=ι->s.σ=s'.σ
 NI:xT X Rt o=η->soft Bt o=η->tL s.σ s'.σ
theorem aqE{tag:Option (Nat×Bool)}{x:Operand}{b off:Nat}(h:place X s tag x=δ (b,off)):X.L.contains b=η:=by
 cases x with
 |tmp t=>
  simp only[place]at h;cases hL:X.L.contains t
  ·rw[hL]at h;simp only[bK]at h;split at h
   ·rename_i p hA;cases hp:X.L.contains p.slot
    ·rw[hp]at h;cases h
    ·rw[hp]at h;simp only[cA]at h;split at h
     ·simp only[Δ,j0]at h;rw[<-h.1];exact hp
     ·rename_i g hg;cases ht:(tag==δ g)
      ·rw[ht]at h;cases h
      ·rw[ht]at h;simp only[cA,Δ,j0]at h;rw[<-h.1];exact hp
   ·cases h
  ·rw[hL]at h;simp only[cA,Δ,j0]at h;rw[<-h.1];exact hL
 |_=>simp [place]at h
theorem Ag.EB{o:Oper}{ls:List Nat}{tag:Option (Nat×Bool)}(h:Ag X Rt Bt o ls tag s s')(hls:∀t,Operand.tmp t∈o.op.operands.toList->t∈ls):∀x∈o.op.operands.toList,ev X s x=ev X s' x:=by
 intro x hx;cases x with
 |tmp t=>
  simp only[ev];cases hL:X.L.contains t
  ·simp only[bK];exact h.ig t (hls t hx) hL
  ·rfl
 |_=>rfl
theorem RI.Jy(h:RI X Rt Bt s):∀t,Bt.contains t=η->rj (ev X s (.tmp t))=η:=by
 intro t ht;simp only[ev];cases X.L.contains t
 ·exact h.b t ht
 ·rfl
theorem Ag.Da{o:Oper}{ls:List Nat}{tag:Option (Nat×Bool)}(h:Ag X Rt Bt o ls tag s s'):∀x,qx o=δ x->place X s tag x=place X s' tag x:=by
 intro x hx;cases x with
 |tmp t=>exact h.pl t hx
 |_=>rfl
def EP(X:Fx)(d:Option Nat)(v:AV):Up:=⟨d,match d with|some d=>bif X.L.contains d then .undef else v|none=>.undef,ξ,ξ,ι,ξ⟩
def NF(X:Fx)(d:Option Nat)(σ:Heap)(v:AV):Up:=⟨d,match d with|some d=>bif X.L.contains d then .undef else v|none=>.undef,ξ,ξ,ι,δ σ⟩
def RZ(X:Fx)(d:Option Nat)(b:Nat)(cs:List AV):Up:=⟨d,match d with|some d=>bif X.L.contains d then .undef else .aM []|none=>.undef,δ (b,.lbx cs),ξ,ι,ξ⟩
def RY(d:Nat)(cs:List AV):Up:=⟨δ d,.lbx cs,ξ,ξ,η,ξ⟩
def JQ(X:Fx)(d:Option Nat)(b off:Nat)(tag:Option (Nat×Bool)):Up:=
 ⟨d,.undef,ξ,match d with|some d=>(bif X.L.contains d||!aBL d X.n then ξ else match tag with|some (g,w)=>(bif g==d then ξ else δ ⟨b,off,δ (g,w)⟩)|none=>δ ⟨b,off,ξ⟩)|none=>ξ,ι,ξ⟩
theorem IM(d:Option Nat)(v:AV)(s:AS):s.put X d v=(EP X d v).ap s:=by
 cases d with
 |none=>rfl
 |some d=>simp only[aBR,Up.ap,EP,Up.sl,Va];congr 1;funext t;simp only[Up.A,KH]
theorem mh(d:Option Nat)(v:AV)(σ:Heap)(s:AS):(s.heap σ).put X d v=(NF X d σ v).ap s:=by
 cases d with
 |none=>rfl
 |some d=>simp only[aBR,AS.heap,Up.ap,NF,Up.sl,SG];congr 1;funext t;simp only[Up.A,KH]
theorem acU(d:Option Nat)(b:Nat)(cs:List AV)(s:AS):(⟨s.sl.set b (.lbx cs),s.A,s.σ⟩:AS).put X d (.aM [])=(RZ X d b cs).ap s:=by
 cases d with
 |none=>rfl
 |some d=>simp only[aBR,Up.ap,RZ,Up.sl,Va];congr 1;funext t;simp only[Up.A,KH]
theorem Pd(d:Nat)(cs:List AV)(s:AS):s.qW d cs=(RY d cs).ap s:=by simp only[AS.qW,Up.ap,RY,Up.sl,Va];congr 1
theorem Qd(d:Option Nat)(b off:Nat)(tag:Option (Nat×Bool))(s:AS):s.oN X d b off tag=(JQ X d b off tag).ap s:=by
 cases d with
 |none=>rfl
 |some d=>simp only[AS.oN,Up.ap,JQ,Up.sl,Va];congr 1;funext t;simp only[Up.A,KH];rfl
structure xu (X : Fx) (Rt : List (Nat × Nat)) (Bt : List Nat) (o : Oper) (ls : List Nat) (τ : Heap) (u : Up) : Prop where
 d:u.d=o.dst
 bx:∀b v,u.bx=δ (b,v)->X.L.contains b=η/\wb X Rt o=δ b
 new:∀p,u.new=δ p->rL o=η/\(∀g w,p.tag=δ (g,w)->g∈ls)/\rt X Rt o=δ p.slot/\∀d,u.d=δ d->Rt.lookup d=δ p.slot
 box:u.zQ=η->∃d,o.dst=δ d/\X.L.contains d=η
 σ:u.σ≠ξ->sX X Rt o=η
 v:∀d b,u.d=δ d->Rt.lookup d=δ b->X.L.contains d=ι->nW u.v=η
 vb:∀d,u.d=δ d->Bt.contains d=η->rj u.v=η
 bxv:∀b v,u.bx=δ (b,v)->rj v=η
 fr:EC o=η->∀σ,u.σ=δ σ->tL τ σ
def xB(X:Fx)(Rt:List (Nat×Nat))(Bt:List Nat)(o:Oper):Prop:=(∀d,o.dst=δ d->X.L.contains d=ι->Rt.lookup d=(bif xe o then rt X Rt o else ξ))/\∀d,o.dst=δ d->Bt.contains d=η->chainB Bt o=η
theorem xB.of{o:Oper}(h:WQ X Rt o=η)(hb:WM Bt o=η):xB X Rt Bt o:=by
 refine⟨λd hd hL=>?_,λd hd hc=>?_⟩
 ·unfold WQ at h;rw[hd]at h;simp only[hL,Bool.false_or,beq_iff_eq]at h;exact h
 ·unfold WM at hb;rw[hd]at hb;simp only[hc,Xk,Bool.false_or]at hb;exact hb
theorem Wi{o:Oper}{ls:List Nat}(v:AV)(hR:xB X Rt Bt o)(hv:xe o=η->∀b,rt X Rt o=δ b->nW v=η)(By:chainB Bt o=η->rj v=η){τ:Heap}:xu X Rt Bt o ls τ (EP X o.dst v):=by
 refine⟨rfl,(λb v h=>by cases h),(λp h=>by cases h),(λh=>by cases h),(λh=>absurd rfl h),λd b hd hl hL=>?_,λd hd hc=>?_,(λb v h=>by cases h),(λ_ σ h=>by cases h)⟩
 ·simp only[EP]at hd ⊢;rw[hd];simp only[hL,bK];rw[hR.1 d hd hL]at hl;cases ha:xe o
  ·rw[ha]at hl;cases hl
  ·rw[ha]at hl;exact hv ha b hl
 ·have:=By (hR.2 d hd hc);simp only[EP]at hd ⊢;rw[hd];simp only;cases X.L.contains d
  ·exact this
  ·rfl
theorem wW{o:Oper}{ls:List Nat}(σ:Heap)(v:AV)(hR:xB X Rt Bt o)(h:sX X Rt o=η)(hn:xe o=ι)(hcb:chainB Bt o=ι){τ:Heap}(hf:EC o=η->tL τ σ):xu X Rt Bt o ls τ (NF X o.dst σ v):=by
 refine⟨rfl,(λb v h=>by cases h),(λp h=>by cases h),(λh=>by cases h),(λ_=>h),λd b hd hl hL=>?_,λd hd hc=>?_,(λb v h=>by cases h),(λhw σ' h=>?_)⟩
 ·simp only[NF]at hd;rw[hR.1 d hd hL,hn]at hl;cases hl
 ·have:=hR.2 d hd hc;rw[hcb]at this;cases this
 ·simp only[NF,Δ]at h;subst h;exact hf hw
theorem agD{τ:Heap}{o:Oper}{ls:List Nat}{b off:Nat}{tag:Option (Nat×Bool)}(hR:xB X Rt Bt o)(ha:xe o=η)(hr:rt X Rt o=δ b)(h:rL o=η)(ht:∀g w,tag=δ (g,w)->g∈ls):xu X Rt Bt o ls τ (JQ X o.dst b off tag):=by
 refine⟨rfl,(λb v h=>by cases h),(λp hp=>?_),(λh=>by cases h),(λh=>absurd rfl h),(λd b hd hl hL=>rfl),(λ_ _ _=>rfl),(λb v h=>by cases h),(λ_ σ h=>by cases h)⟩
 have key:p.slot=b/\(∀g w,p.tag=δ (g,w)->g∈ls)/\∀d,o.dst=δ d->X.L.contains d=ι:=by
  unfold JQ at hp;simp only at hp;cases hd:o.dst with
  |none=>rw[hd]at hp;cases hp
  |some d=>
   rw[hd]at hp;simp only at hp;cases hc:(X.L.contains d||!aBL d X.n)
   ·rw[hc]at hp;simp only[bK]at hp;have hL:X.L.contains d=ι:=by simp only[oG]at hc;exact hc.1
    cases tag with
    |none=>simp only[Δ]at hp;subst hp;exact⟨rfl,(λg w e=>by cases e),λd' e=>by injection e with e;rw[<-e];exact hL⟩
    |some gw=>
     obtain⟨g',w'⟩:=gw;simp only at hp;cases hg:(g'==d)
     ·rw[hg]at hp;simp only[bK,Δ]at hp;subst hp;refine⟨rfl,λg w e=>?_,λd' e=>by injection e with e;rw[<-e];exact hL⟩;simp only[Δ,j0]at e;rw[<-e.1];exact ht g' w' rfl
     ·rw[hg]at hp;cases hp
   ·rw[hc]at hp;cases hp
 refine⟨h,key.2.1,by rw[hr,key.1],λd hd=>?_⟩;have hd':o.dst=δ d:=hd;rw[hR.1 d hd' (key.2.2 d hd'),ha,cA,hr,key.1]
theorem Pc(l:List AV)(d t:Nat)(v:AV)(h:t≠d):(l.set d v).getD t .undef=l.getD t .undef:=by
 have h':¬d=t:=λe=>h (Eq.symm e)
 simp only[YA,jm,aL h']
theorem WI{u:Up}{l:List AV}{t:Nat}(h1:u.d≠δ t)(h2:∀b v,u.bx=δ (b,v)->t≠b):(u.sl l).getD t .undef=l.getD t .undef:=by
 unfold Up.sl;cases hd:u.d with
 |none=>
  cases hb:u.bx with
  |none=>rfl
  |some bv=>obtain⟨b,v⟩:=bv;exact Pc _ _ _ _ (h2 b v hb)
 |some d=>
  have hne:t≠d:=λe=>h1 (by rw[hd,e])
  cases hb:u.bx with
  |none=>exact Pc _ _ _ _ hne
  |some bv=>obtain⟨b,v⟩:=bv;simp only;rw[Pc _ _ _ _ hne,Pc _ _ _ _ (h2 b v hb)]
theorem xu.ri{τ:Heap}{o:Oper}{ls:List Nat}{u:Up}(h:xu X Rt Bt o ls τ u)(hs:RI X Rt Bt s):RI X Rt Bt (u.ap s):=by
 refine⟨hs.l,λt p hp=>?_,λt b ht hL=>?_,λt ht=>?_⟩
 ·have hp':u.A s.A t=δ p:=hp;unfold Up.A at hp';cases hd:u.d with
  |none=>rw[hd]at hp';exact hs.a t p hp'
  |some d=>
   rw[hd]at hp';simp only at hp';cases hc:(t==d)
   ·rw[hc]at hp';simp only[bK]at hp';rcases Uk u.zQ d (s.A t)with e|e
    ·rw[e]at hp';exact hs.a t p hp'
    ·rw[e]at hp';cases hp'
   ·rw[hc]at hp';simp only[cA]at hp';have:t=d:=by simpa using hc
    subst this;exact(h.new p hp').2.2.2 t hd
 ·show nW ((u.sl s.sl).getD t .undef)=η;by_cases hd:u.d=δ t
  ·have hv:=h.v t b hd ht hL
   have:(u.sl s.sl).getD t .undef=u.v\/(u.sl s.sl).getD t .undef=.undef:=by
    unfold Up.sl;rw[hd];simp only[YA];rw[jm];simp only[if_true];generalize (match u.bx with|some (b,x)=>s.sl.set b x|none=>s.sl)=q;by_cases hq:t<q.length
    ·left;simp [hq]
    ·right;simp [hq]
   rcases this with e|e
   ·rw[e];exact hv
   ·rw[e];rfl
  ·rw[WI hd (λb' v hb e=>by have:=(h.bx b' v hb).1;rw[<-e,hL]at this;cases this)];exact hs.v t b ht hL
 ·show rj ((u.sl s.sl).getD t .undef)=η
  have sx:∀(l:List AV)(d:Nat)(v:AV),(l.set d v).getD t .undef=v/\t=d\/(l.set d v).getD t .undef=l.getD t .undef\/(l.set d v).getD t .undef=.undef:=by
   intro l d v;simp only[YA,jm];by_cases e:d=t
   ·subst e;by_cases hq:d<l.length
    ·left;simp [hq]
    ·right;right;simp [hq]
   ·right;left;simp [e]
  have kQ:rj ((match u.bx with|some (b,x)=>s.sl.set b x|none=>s.sl).getD t .undef)=η:=by
   cases hb:u.bx with
   |none=>exact hs.b t ht
   |some bv=>
    obtain⟨b,v⟩:=bv;rcases sx s.sl b v with⟨e,_⟩|e|e
    ·simp only;rw[e];exact h.bxv b v hb
    ·simp only;rw[e];exact hs.b t ht
    ·simp only;rw[e];rfl
  unfold Up.sl;generalize (match u.bx with|some (b,x)=>s.sl.set b x|none=>s.sl)=q at kQ;cases hd:u.d with
  |none=>exact kQ
  |some d=>
   simp only;rcases sx q d u.v with⟨e,e2⟩|e|e
   ·rw[e];exact h.vb d hd (e2▸ht)
   ·rw[e];exact kQ
   ·rw[e];rfl
theorem ags{o:Oper}{tag:Option (Nat×Bool)}{p:Nat×Option Nat}(h:lP X o s tag=δ p):rL o=η:=by obtain⟨dst,op,ty,pos,af,g⟩:=o;cases op<;>simp only[lP]at h<;>first|(cases h;done)|rfl
theorem afm{o:Oper}{tag:Option (Nat×Bool)}{p:Nat×Option Nat}(h:lP X o s tag=δ p):xe o=η:=by obtain⟨dst,op,ty,pos,af,g⟩:=o;cases op<;>simp only[lP]at h<;>first|(cases h;done)|rfl
theorem agt(hI:RI X Rt Bt s){o:Oper}{tag:Option (Nat×Bool)}{b:Nat}{rr:Option Nat}(h:lP X o s tag=δ (b,rr)):rt X Rt o=δ b:=by
 obtain⟨dst,op,ty,pos,af,g⟩:=o;cases op<;>simp only[lP]at h<;>first|(cases h;done)|skip
 all_goals
  split at h
  ·rename_i b' off hp;simp only[Δ,j0]at h;simp only[rt,qx];rw[<-h.1];exact PC hI hp
  ·cases h
theorem afn(hI:RI X Rt Bt s){o:Oper}{tag:Option (Nat×Bool)}{v:AV}(ha:xe o=η){b:Nat}(hr:rt X Rt o=δ b)(hp:lP X o s tag=ξ)(h:ij X o s tag=δ v):False:=by
 obtain⟨dst,op,ty,pos,af,g⟩:=o;have nf:∀(x:AV)(n:Nat),nW x=η->p5 n x=ξ:=λx n h=>by unfold nW at h;split at h<;>first|rfl|cases h
 have nn:∀(x:AV),nW x=η->SD x=ξ:=λx h=>by unfold nW at h;split at h<;>first|rfl|cases h
 have ni:∀(x i:AV)(n:Nat),nW x=η->UM n x i=ξ:=λx i n h=>by unfold nW at h;split at h<;>first|rfl|cases h
 have na:∀(x i:AV)(m n:Nat),nW x=η->A.A8 m n x i=ξ:=λx i m n h=>by
  unfold nW at h;unfold A.A8;split at h<;>first|(cases h;done)|skip
  all_goals cases A.idx m i<;>rfl
 cases op<;>simp only[xe]at ha<;>first|(cases ha;done)|skip
 case nilCheck x=>
  simp only[lP]at hp;simp only[rt,qx]at hr;split at hp
  ·cases hp
  ·rename_i hpl;simp only[ij,nn _ (It hI hr hpl)]at h;cases h
 case fieldAddr t x f=>
  simp only[lP]at hp;simp only[rt,qx]at hr;split at hp
  ·cases hp
  ·rename_i hpl;simp only[ij]at h;split at h
   ·split at h
    ·rename_i i _;cases hz:(i.size==0)
     ·rw[hz]at h;simp only[bK,nf _ _ (It hI hr hpl)]at h;cases h
     ·rw[hz]at h;cases h
    ·cases h
   ·cases h
 case indexAddr t x i=>
  simp only[lP]at hp;simp only[rt,qx]at hr;split at hp
  ·cases hp
  ·rename_i hpl;simp only[ij]at h;split at h
   ·split at h
    ·simp only[ni _ _ _ (It hI hr hpl)]at h;cases h
    ·cases h
   ·split at h
    ·simp only[na _ _ _ _ (It hI hr hpl)]at h;cases h
    ·cases h
   ·cases h
theorem oo{α β:Type}{x:Option α}{f:α->Option β}{b:β}(h:x.bind f=δ b):∃a,x=δ a/\f a=δ b:=bX.1 h
theorem adu(hB:∀t,Bt.contains t=η->rj (ev X s (.tmp t))=η){o:Oper}{tag:Option (Nat×Bool)}{v:AV}(hc:chainB Bt o=η)(h:ij X o s tag=δ v):rj v=η:=by
 obtain⟨dst,op,ty,pos,af,g⟩:=o
 have nk:∀x,rj x=η->∀y,SD x=δ y->rj y=η:=λx hx y e=>by cases x<;>simp only[SD]at e<;>first|(cases e;done)|(injection e with e;subst e;exact hx)
 have nf:∀x,rj x=η->∀n y,p5 n x=δ y->rj y=η:=λx hx n y e=>by cases x<;>simp only[p5]at e<;>first|(cases e;done)|(cases hx;done)|(injection e with e;subst e;rfl)
 cases op<;>simp only[chainB]at hc<;>first|(cases hc;done)|skip
 case move x=>
  cases x<;>first|(cases hc;done)|skip
  simp only[ij,Δ]at h;subst h;exact hB _ hc
 case assign x=>
  cases x<;>first|(cases hc;done)|skip
  simp only[ij,Δ]at h;subst h;exact hB _ hc
 case nilCheck x=>
  cases x<;>first|(cases hc;done)|skip
  simp only[ij]at h;exact nk _ (hB _ hc) _ h
 case fieldAddr t x f=>
  cases x<;>first|(cases hc;done)|skip
  simp only[ij]at h;split at h
  ·split at h
   ·rename_i i _;cases hz:(i.size==0)
    ·rw[hz]at h;simp only[bK]at h;exact nf _ (hB _ hc) _ _ h
    ·rw[hz]at h;cases h
   ·cases h
  ·cases h
theorem agq{o:Oper}{ls:List Nat}(hR:xB X Rt Bt o)(hI:RI X Rt Bt s)(hls:∀t,Operand.tmp t∈o.op.operands.toList->t∈ls){k:AS->Option R}{r:R}(h:iS X η o s k=δ r):
  ∃u,xu X Rt Bt o ls s.σ u/\k (u.ap s)=δ r/\∀(R':Type)(k':AS->Option R')(s':AS),Ag X Rt Bt o ls ξ s s'->iS X η o s' k'=k' (u.ap s'):=by
 have Eo:∀(s':AS),RI X Rt Bt s'->∀x b off,qx o=δ x->place X s' ξ x=δ (b,off)->rt X Rt o=δ b:=λs' hi x b off hx hp=>by simp only[rt,hx];exact PC hi hp
 have Ja:∀(s':AS),RI X Rt Bt s'->∀x b,qx o=δ x->rt X Rt o=δ b->place X s' ξ x=ξ->nW (ev X s' x)=η:=λs' hi x b hx hr hp=>by simp only[rt,hx]at hr;exact It hi hr hp
 unfold iS at h;cases hp:lP X o s ξ with
 |some p=>
  obtain⟨b,rr⟩:=p;rw[hp]at h;simp only at h;obtain⟨off,e1,e2⟩:=oo h;subst e1;refine⟨JQ X o.dst b off ξ,agD hR (afm hp) (agt hI hp) (ags hp) (λg w e=>by cases e),by rw[<-Qd];exact e2,λR' k' s' ha=>?_⟩;have:lP X o s' ξ=δ (b,δ off):=by rw[<-hp];exact(UW (ha.EB hls) ha.Da ha.bx (Eo s' ha.r2)).symm
  unfold iS;rw[this];simp only[aP];rw[Qd]
 |none=>
  rw[hp]at h;simp only at h;have hP:∀s',Ag X Rt Bt o ls ξ s s'->lP X o s' ξ=ξ:=λs' ha=>by rw[<-hp];exact(UW (ha.EB hls) ha.Da ha.bx (Eo s' ha.r2)).symm
  have dflt:((ij X o s ξ).bind λv=>k (s.put X o.dst v))=δ r->(∀(R':Type)(k':AS->Option R')(s':AS),Ag X Rt Bt o ls ξ s s'->iS X η o s' k'=(ij X o s' ξ).bind λv=>k' (s'.put X o.dst v))->
    ∃u,xu X Rt Bt o ls s.σ u/\k (u.ap s)=δ r/\∀(R':Type)(k':AS->Option R')(s':AS),Ag X Rt Bt o ls ξ s s'->iS X η o s' k'=k' (u.ap s'):=by
   intro hd hsame;obtain⟨v,e1,e2⟩:=oo hd;refine⟨EP X o.dst v,Wi v hR (λha b hr=>(afn hI ha hr hp e1).elim) (λhc=>adu hI.Jy hc e1),by rw[<-IM];exact e2,λR' k' s' ha=>?_⟩;have:ij X o s' ξ=δ v:=by rw[<-e1];exact(Pf (ha.EB hls) ha.Da ha.bx (Eo s' ha.r2) (Ja s' ha.r2) ha.σ ha.NI ha.r2.Jy).symm
   rw[hsame R' k' s' ha,this,aP,IM]
  obtain⟨dst,op,ty,pos,af,g⟩:=o;have Bi:∀s',Ag X Rt Bt ⟨dst,op,ty,pos,af,g⟩ ls ξ s s'->∀x∈op.operands.toList,ev X s x=ev X s' x:=λs' ha=>ha.EB hls
  have unf:∀{R':Type}(k':AS->Option R')(s':AS),Ag X Rt Bt ⟨dst,op,ty,pos,af,g⟩ ls ξ s s'->lP X ⟨dst,op,ty,pos,af,g⟩ s' ξ=ξ:=λk' s' ha=>hP s' ha
  cases op<;>simp only at h<;>first
   |(exact absurd (show(ξ:Option R)=δ r from h) (by simp))
   |exact dflt h (λR' k' s' ha=>by unfold iS;rw[hP s' ha])
   |skip
  case alloc t=>
   cases dst with
   |none=>cases h
   |some d=>
    simp only at h;cases hL:X.L.contains d
    ·rw[hL]at h;simp only[bK]at h;cases hO:X.O.contains d
     ·rw[hO]at h;exact dflt h (λR' k' s' ha=>by unfold iS;rw[hP s' ha];simp only[hL,hO,bK])
     ·rw[hO]at h;simp only[cA]at h;split at h
      ·rename_i cs hz;rw[mh]at h;refine⟨_,wW _ _ hR (by simp [sX,wH];simpa using hO) rfl rfl (λh=>by cases h),h,λR' k' s' ha=>?_⟩;have gW:=ha.σ (by simpa [xT]using hO) rfl;unfold iS;rw[hP s' ha];simp only[hL,hO,bK,cA,hz,gW];rw[mh]
      ·cases h
    ·rw[hL]at h;simp only[cA]at h;split at h
     ·rename_i cs hz;rw[Pd]at h;refine⟨_,⟨rfl,(λb v h=>by cases h),(λp h=>by cases h),(λ_=>⟨d,rfl,hL⟩),(λh=>absurd rfl h),(λd' b e _ hL'=>by simp only[RY,Δ]at e;rw[<-e,hL]at hL';cases hL'),(λ_ _ _=>rfl),(λb v h=>by cases h),(λ_ σ h=>by cases h)⟩,h,λR' k' s' ha=>?_⟩;unfold iS;rw[hP s' ha];simp only[hL,cA,hz];rw[Pd]
     ·cases h
  case box t x=>
   cases dst with
   |none=>cases h
   |some d=>
    simp only at h;cases hL:X.L.contains d
    ·rw[hL]at h;simp only[bK]at h;cases hO:X.O.contains d
     ·rw[hO]at h;exact dflt h (λR' k' s' ha=>by unfold iS;rw[hP s' ha];simp only[hL,hO,bK])
     ·rw[hO]at h;simp only[cA]at h;obtain⟨cs,e1,e2⟩:=oo h;rw[mh]at e2;refine⟨_,wW _ _ hR (by simp [sX,wH];simpa using hO) rfl rfl (λh=>by cases h),e2,λR' k' s' ha=>?_⟩;have gW:=ha.σ (by simpa [xT]using hO) rfl;have hx:=Bi s' ha x (by simp [y9]);unfold iS;rw[hP s' ha];simp only[hL,hO,bK,cA,<-hx,e1,aP,gW];rw[mh]
    ·rw[hL]at h;simp only[cA]at h;obtain⟨cs,e1,e2⟩:=oo h;rw[Pd]at e2;refine⟨_,⟨rfl,(λb v h=>by cases h),(λp h=>by cases h),(λ_=>⟨d,rfl,hL⟩),(λh=>absurd rfl h),(λd' b e _ hL'=>by simp only[RY,Δ]at e;rw[<-e,hL]at hL';cases hL'),(λ_ _ _=>rfl),(λb v h=>by cases h),(λ_ σ h=>by cases h)⟩,e2,λR' k' s' ha=>?_⟩;have hx:=Bi s' ha x (by simp [y9]);unfold iS;rw[hP s' ha];simp only[hL,cA,<-hx,e1,aP];rw[Pd]
  case store t x v=>
   split at h
   ·rename_i b off hpl;obtain⟨cs,e1,e2⟩:=oo h;obtain⟨new,e3,e4⟩:=oo e2;obtain⟨cs',e5,e6⟩:=oo e4;rw[acU]at e6;have C7:rt X Rt ⟨dst,.store t x v,ty,pos,af,g⟩=δ b:=by simp only[rt,qx];exact PC hI hpl
    refine⟨_,⟨rfl,(λb' v' hb=>by simp only[RZ,Δ,j0]at hb;rw[<-hb.1];exact⟨aqE hpl,C7⟩),(λp h=>by cases h),(λh=>by cases h),(λh=>absurd rfl h),(λd1 b1 e hl hL=>by rw[hR.1 d1 e hL]at hl;cases hl),(λd1 e hc=>by have:=hR.2 d1 e hc;cases this),(λb1 v1 hb=>by simp only[RZ,Δ,j0]at hb;rw[<-hb.2];rfl),(λ_ σ h=>by cases h)⟩,e6,λR' k' s' ha=>?_⟩;have hv:=Bi s' ha v (by simp [y9]);have hpx:place X s' ξ x=δ (b,off):=by rw[<-hpl];exact(ha.Da x rfl).symm
    have kQ:=ha.bx b C7;unfold iS;rw[hP s' ha];simp only[hpx,<-kQ,e1,aP,<-hv,e3,e5];rw[acU]
   ·rename_i hpl;obtain⟨new,e3,e4⟩:=oo h;obtain⟨σ',e5,e6⟩:=oo e4;rw[mh]at e6
    have C7:rt X Rt ⟨dst,.store t x v,ty,pos,af,g⟩=ξ:=by
     cases hr:rt X Rt ⟨dst,.store t x v,ty,pos,af,g⟩with
     |none=>rfl
     |some b=>rw[an7 (Ja s hI x b rfl hr hpl)]at e5;cases e5
    have hw:sX X Rt ⟨dst,.store t x v,ty,pos,af,g⟩=η:=by simp only[sX,C7,UB]
    refine⟨_,wW _ _ hR hw rfl rfl (λh=>by cases h),e6,λR' k' s' ha=>?_⟩;have hv:=Bi s' ha v (by simp [y9]);have hx:=Bi s' ha x (by simp [y9]);have gW:=ha.σ (by simp only[xT,C7,UB]) rfl;have hpx:place X s' ξ x=ξ:=by rw[<-hpl];exact(ha.Da x rfl).symm
    unfold iS;rw[hP s' ha];simp only[hpx,<-hv,<-hx,e3,aP,<-gW,e5];rw[mh]
  case makeMap t rr=>
   cases rr with
   |some x=>cases h
   |none=>simp only at h;rw[mh]at h;refine⟨_,wW _ _ hR rfl rfl rfl (λ_=>Po (λcs e=>by cases e)),h,λR' k' s' ha=>?_⟩;have gW:=ha.σ rfl rfl;unfold iS;rw[hP s' ha];simp only[<-gW];rw[mh]
  case range t x=>
   split at h
   ·rename_i kt et hd;obtain⟨es,e1,e2⟩:=oo h;rw[mh]at e2;refine⟨_,wW _ _ hR rfl rfl rfl (λh=>by cases h),e2,λR' k' s' ha=>?_⟩;have hx:=Bi s' ha x (by simp [y9]);have gW:=ha.σ rfl rfl;unfold iS;rw[hP s' ha];simp only[hd,<-hx,<-gW,e1,aP];rw[mh]
   ·cases h
  case buildSlice t n ps=>
   cases dst with
   |none=>exact dflt h (λR' k' s' ha=>by unfold iS;rw[hP s' ha])
   |some d=>
    simp only at h;cases hO:X.O.contains d
    ·rw[hO]at h;exact dflt h (λR' k' s' ha=>by unfold iS;rw[hP s' ha];simp only[hO,bK])
    ·rw[hO]at h;simp only[cA]at h;obtain⟨v,e1,e2⟩:=oo h
     have hv:∀s',Ag X Rt Bt ⟨δ d,.buildSlice t n ps,ty,pos,af,g⟩ ls ξ s s'->ij X ⟨δ d,.buildSlice t n ps,ty,pos,af,g⟩ s' ξ=δ v:=λs' ha=>by rw[<-e1];exact(Pf (ha.EB hls) ha.Da ha.bx (Eo s' ha.r2) (Ja s' ha.r2) ha.σ ha.NI ha.r2.Jy).symm
     unfold A.Jf at e2;split at e2
     ·rename_i sz es;cases hl:(es.length==0)
      ·rw[hl]at e2;simp only[bK]at e2;rw[mh]at e2;refine⟨_,wW _ _ hR (by simp [sX,wH];simpa using hO) rfl rfl (λh=>by cases h),e2,λR' k' s' ha=>?_⟩;have gW:=ha.σ (by simpa [xT]using hO) rfl;unfold iS;rw[hP s' ha];simp only[hO,cA,hv s' ha,aP,A.Jf,hl,bK,<-gW];rw[mh]
      ·rw[hl]at e2;cases e2
     ·cases e2
  case mapUpdate t m i v=>
   split at h
   ·rename_i kt et hd;split at h
    ·rename_i ek he;obtain⟨σ',e1,e2⟩:=oo h;rw[mh]at e2;refine⟨_,wW _ _ hR rfl rfl rfl (λ_=>apG e1),e2,λR' k' s' ha=>?_⟩;have hm:=Bi s' ha m (by simp [y9]);have hi:=Bi s' ha i (by simp [y9]);have hv:=Bi s' ha v (by simp [y9]);have gW:=ha.σ rfl rfl;unfold iS;rw[hP s' ha];simp only[hd,he,<-hm,<-hi,<-hv,<-gW,e1,aP];rw[mh]
    ·cases h
   ·cases h
  case call c=>
   have hargs:∀s',Ag X Rt Bt ⟨dst,.call c,ty,pos,af,g⟩ ls ξ s s'->c.args.toList.map (ev X s)=c.args.toList.map (ev X s'):=λs' ha=>
    TA λx hx=>Bi s' ha x (by simp [y9,aCZ];exact .inr (by simpa using hx))
   split at h
   ·rename_i hc;split at h
    ·rename_i t u x y h1 h2;split at h
     ·rename_i e e' hd hu;split at h
      ·rename_i i hi;cases fV:pE i
       ·rw[fV]at h;simp only[bK]at h;obtain⟨⟨rr,σ'⟩,e1,e2⟩:=oo h;simp only at e2;rw[mh]at e2;refine⟨_,wW _ _ hR (by simp [sX,wH,hc]) rfl rfl (λ_=>amX e1),e2,λR' k' s' ha=>?_⟩;have gW:=ha.σ rfl rfl;unfold iS;rw[hP s' ha];simp only[hc,<-hargs s' ha,h1,h2,hd,hu,hi,fV,bK,<-gW,e1,aP];rw[mh]
       ·rw[fV]at h;cases h
      ·cases h
     ·rename_i e kk hd hu;split at h
      ·rename_i i zs hi hz;cases fV:pE i
       ·rw[fV]at h;simp only[bK]at h;obtain⟨⟨rr,σ'⟩,e1,e2⟩:=oo h;simp only at e2;rw[mh]at e2;refine⟨_,wW _ _ hR (by simp [sX,wH,hc]) rfl rfl (λ_=>alW e1),e2,λR' k' s' ha=>?_⟩;have gW:=ha.σ rfl rfl;unfold iS;rw[hP s' ha];simp only[hc,<-hargs s' ha,h1,h2,hd,hu,hi,hz,fV,bK,<-gW,e1,aP];rw[mh]
       ·rw[fV]at h;cases h
      ·cases h
     ·cases h
    ·cases h
   ·rename_i hc;split at h
    ·rename_i t u x y h1 h2;split at h
     ·rename_i e e' hd hu;split at h
      ·rename_i i hi;cases fV:pE i
       ·rw[fV]at h;simp only[bK]at h;obtain⟨⟨rr,σ'⟩,e1,e2⟩:=oo h;simp only at e2;rw[mh]at e2;refine⟨_,wW _ _ hR (by simp [sX,wH,hc]) rfl rfl (λh=>by simp [EC,hc]at h),e2,λR' k' s' ha=>?_⟩;have gW:=ha.σ rfl rfl;unfold iS;rw[hP s' ha];simp only[hc,<-hargs s' ha,h1,h2,hd,hu,hi,fV,bK,<-gW,e1,aP];rw[mh]
       ·rw[fV]at h;cases h
      ·cases h
     ·cases h
    ·cases h
   ·rename_i hc;cases hv:ij X ⟨dst,.call c,ty,pos,af,g⟩ s ξ with
    |none=>rw[hv]at h;simp [A.Bg]at h
    |some v=>
     rw[hv]at h
     exact dflt (by rw[hv];exact h) (λR' k' s' ha=>by
      have Zo:ij X ⟨dst,.call c,ty,pos,af,g⟩ s' ξ=δ v:=by rw[<-hv];exact(Pf (ha.EB hls) ha.Da ha.bx (Eo s' ha.r2) (Ja s' ha.r2) ha.σ ha.NI ha.r2.Jy).symm
      unfold iS;rw[hP s' ha];simp only[hc,Zo,aP,A.Bg])
   ·rename_i hc;split at h
    ·rename_i t x h1 h2;split at h
     ·rename_i e hd;split at h
      ·rename_i i zs hi hz;cases fV:pE i
       ·rw[fV]at h;simp only[bK]at h;obtain⟨σ',e1,e2⟩:=oo h;rw[mh]at e2;refine⟨_,wW _ _ hR (by simp [sX,wH,hc]) rfl rfl (λh=>by simp [EC,hc]at h),e2,λR' k' s' ha=>?_⟩;have gW:=ha.σ rfl rfl;unfold iS;rw[hP s' ha];simp only[hc,<-hargs s' ha,h1,h2,hd,hi,hz,fV,bK,<-gW,e1,aP];rw[mh]
       ·rw[fV]at h;cases h
      ·cases h
     ·cases h
    ·cases h
   ·rename_i hc;split at h
    ·rename_i t u m key h1 h2;split at h
     ·rename_i kt et hd;split at h
      ·rename_i ek he;obtain⟨σ',e1,e2⟩:=oo h;rw[mh]at e2;refine⟨_,wW _ _ hR (by simp [sX,wH,hc]) rfl rfl (λh=>by simp [EC,hc]at h),e2,λR' k' s' ha=>?_⟩;have gW:=ha.σ rfl rfl;unfold iS;rw[hP s' ha];simp only[hc,<-hargs s' ha,h1,h2,hd,he,<-gW,e1,aP];rw[mh]
      ·cases h
     ·cases h
    ·cases h
   ·rename_i b hn1 hn2 pV ue xL hc
    exact dflt h (λR' k' s' ha=>by
     unfold iS;rw[hP s' ha];simp only[hc]
     all_goals (first|rfl|(cases b<;>first|rfl|exact absurd rfl hn1|exact absurd rfl hn2|exact absurd rfl pV|exact absurd rfl ue|exact absurd rfl xL)))
   ·rename_i f hc;cases hw:X.W.contains f
    ·simp only[hw,U6,Bool.and_true,cA]at h;exact dflt h (λR' k' s' ha=>by unfold iS;rw[hP s' ha];simp only[hc,hw,U6,Bool.and_true,cA])
    ·simp only[hw,Xk,Tb,bK]at h;obtain⟨⟨rr,σ'⟩,e1,e2⟩:=oo h;simp only at e2;rw[mh]at e2;refine⟨_,wW _ _ hR (by simp only[sX,wH,hc];exact hw) rfl rfl (λh=>by simp [EC,hc]at h),e2,λR' k' s' ha=>?_⟩;have gW:=ha.σ rfl rfl;unfold iS;rw[hP s' ha];simp only[hc,<-hargs s' ha,hw,Xk,Tb,bK,<-gW,e1,aP];rw[mh]
   ·rename_i x hnf hc;simp only[cA]at h
    exact dflt h (λR' k' s' ha=>by
     unfold iS;rw[hP s' ha];simp only[hc]
     cases x<;>first|exact absurd rfl (hnf _)|simp only[cA])
   ·cases h
end
end
section
section
variable {R : Type} {X : Fx} {Rt : List (Nat × Nat)} {Bt : List Nat} {s s' : AS} {ops : Array Oper}
theorem KU{o:Oper}{t:Nat}(h:Operand.tmp t∈o.op.operands.toList):t∈o.looksAt ops:=by unfold Oper.looksAt;refine jJ.2 (.inl (YQ.2 ⟨.tmp t,h,rfl⟩))
theorem amb{o:Oper}{j d:Nat}{want:Bool}(hg:o.guard=δ (j,want))(hd:(ops[j]?).bind (·.dst)=δ d):d∈o.looksAt ops:=by unfold Oper.looksAt;refine jJ.2 (.inr ?_);rw[hg];simp only[hd];simp
def Jr(X:Fx)(Rt:List (Nat×Nat))(Bt:List Nat)(ops:Array Oper)(o:Oper)(s s':AS):Prop:=∀tag:Option (Nat×Bool),(∀g w,tag=δ (g,w)->g∈o.looksAt ops)->Ag X Rt Bt o (o.looksAt ops) tag s s'
theorem Ag.symm{o:Oper}{ls:List Nat}{tag:Option (Nat×Bool)}(h:Ag X Rt Bt o ls tag s s'):Ag X Rt Bt o ls tag s' s:=
 ⟨h.r2,h.r1,λt ht hL=>(h.ig t ht hL).symm,λt ht=>(h.pl t ht).symm,λb hb=>(h.bx b hb).symm,(λhr hs=>(h.σ hr hs).symm),λhr hs id cs=>(h.NI hr hs id cs).symm⟩
theorem Jr.symm{o:Oper}(h:Jr X Rt Bt ops o s s'):Jr X Rt Bt ops o s' s:=λtag ht=>(h tag ht).symm
theorem aAL{q:Bool}{o:Oper}{f:FuncId}{l:List Operand}(h:I1 X o=δ (f,l))(s:AS)(k:AS->Option R):iS X q o s k=(X.call f (l.map (ev X s)) s.σ).bind λr=>k ((s.heap r.2).put X o.dst r.1):=by
 unfold I1 at h;split at h
 ·rename_i c ho;split at h
  ·rename_i f' hc;cases hw:X.W.contains f'
   ·rw[hw]at h;cases h
   ·rw[hw]at h;simp only[cA,Δ,j0]at h;obtain⟨rfl,rfl⟩:=h;unfold iS lP;simp only[ho,hc,hw,Xk,Tb,bK]
  ·cases h
 ·cases h
theorem aA6{o:Oper}{k:AS->Option R}{r:R}(hR:xB X Rt Bt o)(hI:RI X Rt Bt s)(h:oU X η ops o s k=δ r):
  ∃u,xu X Rt Bt o (o.looksAt ops) s.σ u/\k (u.ap s)=δ r/\∀(R':Type)(k':AS->Option R')(s':AS),Jr X Rt Bt ops o s s'->oU X η ops o s' k'=k' (u.ap s'):=by
 unfold oU at h;cases hg:o.guard with
 |none=>rw[hg]at h;obtain⟨u,h1,h2,h3⟩:=agq (ls:=o.looksAt ops) hR hI (λt ht=>KU ht) h;refine⟨u,h1,h2,λR' k' s' ha=>?_⟩;unfold oU;rw[hg];exact h3 R' k' s' (ha ξ (λg w e=>by cases e))
 |some jw=>
  obtain⟨j,want⟩:=jw;rw[hg]at h;simp only at h;cases hd:(ops[j]?).bind (·.dst)with
  |none=>rw[hd]at h;cases h
  |some d=>
   rw[hd]at h;simp only at h;cases hb:KT X o d
   ·rw[hb]at h;simp only[bK]at h;have me:=amb (ops:=ops) hg hd;have Ep:∀g w,(δ (d,want):Option (Nat×Bool))=δ (g,w)->g∈o.looksAt ops:=λg w e=>by injection e with e;injection e with e _;rw[<-e];exact me
    have Y6:X.L.contains d=ι:=by simp only[KT,oG]at hb;exact hb.1
    cases uW:I1 X o with
    |some fa=>
     obtain⟨f,as'⟩:=fa;rw[uW]at h;simp only at h;obtain⟨rv,e1,e2⟩:=oo h
     have key:∀(x:AV),s.sl.getD d .undef=x->(x=.aM []\/∃c,x=.bool c/\(c==want)=ι)\/∃c,x=.bool c/\(c==want)=η:=by
      intro x hx;rw[hx]at e1;unfold μ at e1;split at e1
      ·rename_i c;cases hc:(c==want)
       ·exact .inl (.inr ⟨c,rfl,hc⟩)
       ·exact .inr ⟨c,rfl,hc⟩
      ·exact .inl (.inl rfl)
      ·cases e1
     rcases key _ rfl with hno|⟨c,hc,Y5⟩
     ·have hG:∀(R':Type)(x:Option R')(y:Option R'),μ (s.sl.getD d .undef) want x y=y:=by
       intro R' x y;rcases hno with hh|⟨c,hh,Y5⟩
       ·rw[hh];rfl
       ·rw[hh];simp only[μ,Y5,bK]
      rw[hG]at e1;injection e1 with e1
      subst e1
      have Qw:xe o=ι/\chainB Bt o=ι:=by
       unfold I1 at uW;split at uW
       ·rename_i c ho;exact⟨by simp only[xe,ho],by simp only[chainB,ho]⟩
       ·cases uW
      refine⟨EP X o.dst (.aM []),Wi _ hR (λha=>by rw[Qw.1]at ha;cases ha) (λha=>by rw[Qw.2]at ha;cases ha),by rw[<-IM];exact e2,λR' k' s' ha=>?_⟩;have a:=ha _ Ep;have nH:=a.ig d me Y6;unfold oU;rw[hg];simp only[hd,hb,bK,uW];rw[<-nH,hG,aP,<-IM];rfl
     ·have hG:∀(R':Type)(x:Option R')(y:Option R'),μ (s.sl.getD d .undef) want x y=x:=by intro R' x y;rw[hc];simp only[μ,Y5,cA]
      have hA:iS X η o s k=δ r:=by rw[aAL uW];rw[hG]at h;exact h
      obtain⟨u,h1,h2,h3⟩:=agq (ls:=o.looksAt ops) hR hI (λt ht=>KU ht) hA;refine⟨u,h1,h2,λR' k' s' ha=>?_⟩;have a:=ha _ Ep;have nH:=a.ig d me Y6;rw[<-h3 R' k' s' (ha ξ (λg w e=>by cases e)),aAL uW];unfold oU;rw[hg];simp only[hd,hb,bK,uW];rw[<-nH,hG]
    |none=>
    rw[uW]at h;simp only at h;have Eo:∀(s':AS),RI X Rt Bt s'->∀x b off,qx o=δ x->place X s' (δ (d,want)) x=δ (b,off)->rt X Rt o=δ b:=λs' hi x b off hx hp=>by simp only[rt,hx];exact PC hi hp
    have Ja:∀(s':AS),RI X Rt Bt s'->∀x b,qx o=δ x->rt X Rt o=δ b->place X s' (δ (d,want)) x=ξ->nW (ev X s' x)=η:=λs' hi x b hx hr hp=>by simp only[rt,hx]at hr;exact It hi hr hp
    have hP:∀s',Jr X Rt Bt ops o s s'->lP X o s' (δ (d,want))=lP X o s (δ (d,want)):=λs' ha=>by have a:=ha _ Ep;exact(UW (a.EB λt ht=>KU ht) a.Da a.bx (Eo s' a.r2)).symm
    cases hp:lP X o s (δ (d,want))with
    |some p=>obtain⟨b,rr⟩:=p;rw[hp]at h;simp only at h;obtain⟨off,e1,e2⟩:=oo h;subst e1;refine⟨JQ X o.dst b off (δ (d,want)),agD hR (afm hp) (agt hI hp) (ags hp) Ep,by rw[<-Qd];exact e2,λR' k' s' ha=>?_⟩;unfold oU;rw[hg];simp only[hd,hb,bK,uW,hP s' ha,hp,aP];rw[Qd]
    |none=>
     rw[hp]at h;simp only at h;obtain⟨v,e1,e2⟩:=oo h
     have hv:xe o=η->∀b,rt X Rt o=δ b->nW v=η:=by
      intro ha b hr;unfold μ at e1;split at e1
      ·rename_i c _;cases hc:(c==want)
       ·rw[hc]at e1;simp only[bK,Δ]at e1;subst e1;rfl
       ·rw[hc]at e1;exact(afn hI ha hr hp e1).elim
      ·simp only[Δ]at e1;subst e1;rfl
      ·cases e1
     have By:chainB Bt o=η->rj v=η:=by
      intro hc;unfold μ at e1;split at e1
      ·rename_i c _;cases ud:(c==want)
       ·rw[ud]at e1;simp only[bK,Δ]at e1;subst e1;rfl
       ·rw[ud]at e1;exact adu hI.Jy hc e1
      ·simp only[Δ]at e1;subst e1;rfl
      ·cases e1
     refine⟨EP X o.dst v,Wi v hR hv By,by rw[<-IM];exact e2,λR' k' s' ha=>?_⟩;have a:=ha _ Ep;have hV:ij X o s' (δ (d,want))=ij X o s (δ (d,want)):=(Pf (a.EB λt ht=>KU ht) a.Da a.bx (Eo s' a.r2) (Ja s' a.r2) a.σ a.NI a.r2.Jy).symm;have nH:=a.ig d me Y6;unfold oU;rw[hg];simp only[hd,hb,bK,uW,hP s' ha,hp,hV,<-nH,e1,aP];rw[IM]
   ·rw[hb]at h;cases h
structure Bq (X : Fx) (Rt : List (Nat × Nat)) (Bt : List Nat) (ops : Array Oper) (x y : Oper) : Prop where
 dx:∀d,x.dst=δ d->d∉y.looksAt ops
 dd:∀d,x.dst=δ d->y.dst≠δ d
 dy:∀d,y.dst=δ d->d∉x.looksAt ops
 c1:A9 X Rt Bt x y=ι
 c2:A9 X Rt Bt y x=ι
theorem Bq.symm{x y:Oper}(h:Bq X Rt Bt ops x y):Bq X Rt Bt ops y x:=⟨h.dy,λd hd e=>h.dd d e hd,h.dx,h.c2,h.c1⟩
theorem aoM{x y:Oper}(h:indep X Rt Bt ops x y=η):Bq X Rt Bt ops x y:=by simp only[indep,je,XX]at h;obtain⟨⟨h1,h2⟩,h3⟩:=h;obtain⟨a1,a2,a3⟩:=Oper.apart_spec h1;exact⟨a1,a2,a3,h2,h3⟩
theorem aeU{x y:Oper}(h:A9 X Rt Bt x y=ι){b:Nat}(hb:wb X Rt x=δ b):rt X Rt y≠δ b:=by unfold A9 at h;simp only[oG]at h;have:=h.1.1;rw[hb]at this;simpa using this
theorem PS{x y:Oper}(h:A9 X Rt Bt x y=ι){d:Nat}(hd:x.dst=δ d)(hL:X.L.contains d=η):rt X Rt y≠δ d:=by unfold A9 at h;simp only[oG]at h;have:=h.1.2;rw[hd]at this;simp only[hL,Bool.true_and]at this;simpa using this
theorem PT{x y:Oper}(h:A9 X Rt Bt x y=ι)(hw:sX X Rt x=η):(xT X Rt y=ι\/(soft Bt y=η/\EC x=η))/\sX X Rt y=ι:=by
 unfold A9 at h;simp only[oG]at h;have:=h.2;rw[hw]at this;simp only[Bool.true_and,oG]at this;refine⟨?_,this.2⟩;cases hr:xT X Rt y
 ·exact .inl rfl
 ·have h2:=this.1;rw[hr,Bool.true_and,aCd]at h2;exact .inr (by simpa using h2)
theorem atj{x:Oper}{a:Operand}(h:qx x=δ a):a∈x.op.operands.toList:=by obtain⟨dst,op,ty,pos,af,g⟩:=x;cases op<;>simp only[qx]at h<;>first|(cases h;done)|(injection h with h;subst h;simp [y9])
theorem axy(h:RI X Rt Bt s){x:Oper}{b:Nat}(hr:rt X Rt x=δ b)(hL:X.L.contains b=ι):False:=by
 unfold rt at hr;split at hr
 ·rename_i a _;cases a with
  |tmp t=>
   simp only[BF]at hr;cases hc:X.L.contains t
   ·rw[hc]at hr;have:=h.l t b hr;rw[hL]at this;cases this
   ·rw[hc]at hr;simp only[cA,Δ]at hr;subst hr;rw[hL]at hc;cases hc
  |_=>simp [BF]at hr
 ·cases hr
theorem ahq{x:Oper}{b:Nat}(h:wb X Rt x=δ b):rt X Rt x=δ b:=by
 unfold wb at h;split at h
 ·exact h
 ·cases h
theorem agY{τ:Heap}{x y:Oper}(h:Bq X Rt Bt ops x y){u:Up}(hu:xu X Rt Bt y (y.looksAt ops) τ u)(s:AS)(hs:RI X Rt Bt s)(hτ:u.σ≠ξ->tL s.σ τ):Jr X Rt Bt ops x s (u.ap s):=by
 intro tag ht;have hnd:∀t,t∈x.looksAt ops->u.d≠δ t:=λt ht e=>by rw[hu.d]at e;exact h.dy t e ht
 refine⟨hs,hu.ri hs,λt htl hL=>?_,λt hax=>?_,λb hb=>?_,λhr GQ=>?_,λhr GQ=>?_⟩
 ·exact(WI (hnd t htl) (λb v hb e=>by have:=(hu.bx b v hb).1;rw[<-e,hL]at this;cases this)).symm
 ·have htl:t∈x.looksAt ops:=KU (atj hax);simp only[place];cases hL:X.L.contains t
  ·simp only[bK];show _=match u.A s.A t with|some p=>_|none=>ξ
   unfold Up.A;cases hd:u.d with
   |none=>rfl
   |some d=>
    have htd:(t==d)=ι:=by simp only[beq_eq_false_iff_ne];intro e;exact hnd t htl (by rw[hd,e])
    simp only[htd,bK];cases hA:s.A t with
    |none=>rfl
    |some p=>
     have C7:BF X Rt (.tmp t)=δ p.slot:=by simp only[BF,hL,bK];exact hs.a t p hA
     have hf:su u.zQ d (δ p)=qR d (δ p):=by
      cases hi:u.zQ with
      |false=>exact KH d _
      |true=>
       obtain⟨d',hd',hL'⟩:=hu.box hi;have sP:d'=d:=by rw[hu.d]at hd;rw[hd]at hd';injection hd' with e;exact e.symm
       subst sP;unfold su;cases hk:qR d' (δ p)with
       |none=>rfl
       |some q=>
        have hqs:q=p:=by
         simp only[qR]at hk;cases GR:p.tag with
         |none=>rw[GR]at hk;simpa using hk.symm
         |some g=>
          obtain⟨g,w⟩:=g;rw[GR]at hk;simp only at hk;cases hg:(g==d')
          ·rw[hg]at hk;simpa using hk.symm
          ·rw[hg]at hk;cases hk
        subst hqs
        have hne:(q.slot==d')=ι:=by
         rw[beq_eq_false_iff_ne];intro e;have:rt X Rt x=δ q.slot:=by simp only[rt,hax];exact C7
         exact PS h.c2 hd' hL' (by rw[this,e])
        simp only[hne,Tb,bK]
     rw[hf];simp only[qR];cases GR:p.tag with
     |none=>simp only[GR]
     |some gw=>
      obtain⟨g,w⟩:=gw;simp only;cases hgd:(g==d)
      ·simp only[bK,GR]
      ·simp only[cA];have awQ:g=d:=by simpa using hgd
       have:(tag==δ (g,w))=ι:=by rw[beq_eq_false_iff_ne];intro e;exact hnd g (ht g w e) (by rw[hd,awQ])
       rw[this];cases X.L.contains p.slot<;>rfl
  ·rfl
 ·refine(WI (λe=>?_) (λb' v hb' e=>?_)).symm
  ·rw[hu.d]at e
   have hLb:X.L.contains b=η:=by
    cases hc:X.L.contains b with
    |true=>rfl
    |false=>exfalso;exact axy hs hb hc
   exact PS h.c2 e hLb hb
  ·exact aeU h.c2 (hu.bx b' v hb').2 (by rw[<-e];exact hb)
 ·show s.σ=u.σ.getD s.σ;cases hs':u.σ with
  |none=>rfl
  |some σ=>
   rcases(PT h.c2 (hu.σ (by rw[hs'];intro e;cases e))).1 with this|⟨this,_⟩
   ·rw[hr]at this;cases this
   ·rw[GQ]at this;cases this
 ·show tL s.σ (u.σ.getD s.σ);cases hs':u.σ with
  |none=>exact Fp _
  |some σ=>
   rcases(PT h.c2 (hu.σ (by rw[hs'];intro e;cases e))).1 with this|⟨_,hf⟩
   ·rw[hr]at this;cases this
   ·exact λid cs=>(hτ (by rw[hs'];intro e;cases e) id cs).trans (hu.fr hf σ hs' id cs)
theorem aq1{τ NJ:Heap}{x y:Oper}(h:Bq X Rt Bt ops x y){u v:Up}(hu:xu X Rt Bt x (x.looksAt ops) τ u)(hv:xu X Rt Bt y (y.looksAt ops) NJ v):u.agH v:=by
 have half:∀{τ NJ:Heap}{x y:Oper}{u v:Up},Bq X Rt Bt ops x y->xu X Rt Bt x (x.looksAt ops) τ u->xu X Rt Bt y (y.looksAt ops) NJ v->(∀b a,u.bx=δ (b,a)->(∀c a',v.bx=δ (c,a')->c≠b)/\v.d≠δ b)/\(∀d,v.d=δ d->su v.zQ d u.new=u.new):=by
  intro τ NJ x y u v h hu hv;refine⟨λb a hb=>?_,λd hd=>?_⟩
  ·obtain⟨k1,k2⟩:=hu.bx b a hb;refine⟨λc a' hc e=>?_,λe=>?_⟩
   ·have:=(hv.bx c a' hc).2;subst e;exact aeU h.c1 k2 (ahq this)
   ·rw[hv.d]at e;exact PS h.c2 e k1 (ahq k2)
  ·cases hn:u.new with
   |none=>rfl
   |some p=>
    obtain⟨k1,k2,k3,k4⟩:=hu.new p hn
    have hkt:qR d (δ p)=δ p:=by
     simp only[qR];cases GR:p.tag with
     |none=>rfl
     |some gw=>
      obtain⟨g,w⟩:=gw;simp only
      have:(g==d)=ι:=by rw[beq_eq_false_iff_ne];intro e;rw[hv.d]at hd;exact h.dy d hd (e▸k2 g w GR)
      rw[this];rfl
    unfold su;rw[hkt];simp only;cases hi:v.zQ with
    |false=>rfl
    |true=>
     obtain⟨d',hd',hL'⟩:=hv.box hi;have sP:d'=d:=by rw[hv.d]at hd;rw[hd]at hd';injection hd' with e;exact e.symm
     subst sP
     have:(p.slot==d')=ι:=by rw[beq_eq_false_iff_ne];intro e;exact PS h.c2 hd' hL' (by rw[k3,e])
     simp only[this,Tb,bK]
 obtain⟨a1,a2⟩:=half h hu hv;obtain⟨b1,b2⟩:=half h.symm hv hu;refine⟨λd hd e=>?_,a1,b1,a2,b2,?_⟩
 ·rw[hu.d]at hd;rw[hv.d]at e;exact h.dd d hd e
 ·cases hs:u.σ with
  |none=>exact .inl rfl
  |some σ=>
   right;have hw:=hu.σ (by rw[hs];intro e;cases e);have hnw:=(PT h.c1 hw).2;cases hs2:v.σ with
   |none=>rfl
   |some σ2=>rw[hv.σ (by rw[hs2];intro e;cases e)]at hnw;cases hnw
theorem adv{o:Oper}{k:AS->Option R}{r:R}(ho:xB X Rt Bt o):∀(l1 l2:List Oper)(s:AS),RI X Rt Bt s->(∀y∈l1,xB X Rt Bt y)->(∀y∈l1,Bq X Rt Bt ops y o)->vY X η ops (l1++o::l2) s k=δ r->oU X η ops o s (λs1=>vY X η ops (l1++l2) s1 k)=δ r
 |[],l2,s,_,_,_,h=>h
 |y::l1,l2,s,hs,hr,hi,h=>by
  simp only[mq,vY]at h;obtain⟨u,u1,u2,u3⟩:=aA6 (hr y (by simp)) hs h;have ih:=adv ho l1 l2 (u.ap s) (u1.ri hs) (λz hz=>hr z (by simp [hz])) (λz hz=>hi z (by simp [hz])) u2;obtain⟨v,v1,v2,v3⟩:=aA6 ho (u1.ri hs) ih;have hy:=hi y (by simp)
  have hbe:v.σ≠ξ->tL s.σ (u.ap s).σ:=λhv=>by
   have hnu:u.σ=ξ:=by
    cases hu:u.σ with
    |none=>rfl
    |some σ=>have hw:=(PT hy.c1 (u1.σ (by rw[hu];intro e;cases e))).2;rw[v1.σ hv]at hw;cases hw
   show tL s.σ (u.σ.getD s.σ);rw[hnu];exact Fp _
  rw[v3 R _ s (agY hy.symm u1 s hs (λ_=>Fp _)).symm];simp only[mq,vY];rw[u3 R _ (v.ap s) (agY hy v1 s hs hbe),Up.comm (aq1 hy u1 v1)];exact v2
def Down(ops:Array Oper)(S:Nat->Prop):Prop:=∀i o e,S i->ops[i]? =δ o->e∈o.after->Xu .any e=η->S e.on
def QO(ops:Array Oper)(i:Nat)(S:Nat->Prop):Prop:=∀o e,ops[i]? =δ o->e∈o.after->Xu .any e=η->S e.on
theorem aeb(acc:List Nat):∀(es:List Edge)(m j:Nat),(es.foldl (λs e=>bif Xu .any e then s ||| 2 ^ e.on ||| acc.getD e.on 0 else s) m).testBit j=η->
  m.testBit j=η\/∃e∈es,Xu .any e=η/\(e.on=j\/(acc.getD e.on 0).testBit j=η)
 |[],m,j,h=>.inl h
 |e::es,m,j,h=>by
  simp only[List.foldl_cons]at h;rcases aeb acc es _ j h with h|⟨e',he',hb,hx⟩
  ·cases hb:Xu .any e
   ·rw[hb]at h;exact .inl h
   ·rw[hb]at h;simp only[cA,Nat.testBit_or,Bool.or_eq_true]at h;rcases h with(h|h)|h
    ·exact .inl h
    ·refine .inr ⟨e,by simp,hb,.inl ?_⟩;rw[Nat.testBit_two_pow]at h;simpa using h
    ·exact .inr ⟨e,by simp,hb,.inr h⟩
  ·exact .inr ⟨e',by simp [he'],hb,hx⟩
theorem adU:∀(l:List Oper)(acc:List Nat),(∀i,l[i]? =ops[acc.length+i]?)->
  (∀(m j:Nat),(acc.getD m 0).testBit j=η->∀S,Down ops S->QO ops m S->S j)->
  ∀(m j:Nat),((Qs l acc).getD m 0).testBit j=η->∀S,Down ops S->QO ops m S->S j
 |[],acc,hl,hacc=>hacc
 |o::l,acc,hl,hacc=>by
  simp only[Qs];refine adU l _ (λi=>by have:=hl (i+1);simp at this;rw[this];simp;congr 1;omega) ?_;intro m j h S hS hD;have h0:=hl 0;simp at h0;by_cases hm:m<acc.length
  ·rw[YA,iG hm]at h;exact hacc m j h S hS hD
  ·by_cases hm2:m=acc.length
   ·subst hm2;rw[YA,iz (bF _)]at h;simp only[Wz,List.getElem?_cons_zero,SG]at h;rcases aeb acc _ _ j h with h|⟨e,he,hb,hx⟩
    ·simp at h
    ·have hon:S e.on:=hD o e h0.symm (by simpa using he) hb;rcases hx with hx|hx
     ·exact hx▸hon
     ·exact hacc e.on j hx S hS (λo' e' ho' he' hb'=>hS e.on o' e' hon ho' he' hb')
   ·rw[YA,iz (by omega),qm (by simp;omega)]at h;simp at h
theorem acu{MC:List Nat}:∀(l:List Oper)(i:Nat),(∀j,l[j]? =ops[i+j]?)->P4 X Rt Bt ops MC l i=η->∀n o,i<=n->ops[n]? =δ o->∀m y,m<n->ops[m]? =δ y->(MC.getD n 0).testBit m=η\/indep X Rt Bt ops y o=η
 |[],i,hl,_,n,o,hn,ho,m,y,hm,hy=>by have:=hl (n-i);rw[show i+(n-i)=n by omega,ho]at this;simp at this
 |x::l,i,hl,h,n,o,hn,ho,m,y,hm,hy=>by
  simp only[P4,je]at h;by_cases hni:n=i
  ·subst hni;have h0:=hl 0;simp at h0;rw[ho]at h0;injection h0 with h0;subst h0
   have:=vS.1 h.1 (y,m) (by
    rw[List.mem_zipIdx_iff_getElem?];simp only;rw[Vh hm,Ta]
    exact hy)
   simpa using this
  ·exact acu l (i+1) (λj=>by have:=hl (j+1);simp at this;rw[this];congr 1;omega) h.2 n o (by omega) ho m y hm hy
theorem acT:∀(l:List Oper)(i:Nat),(∀j,l[j]? =ops[i+j]?)->Qf l i=η->∀n o e,i<=n->ops[n]? =δ o->e∈o.after->Xu .any e=η->e.on<n
 |[],i,hl,_,n,o,e,hn,ho,he,hb=>by have:=hl (n-i);rw[show i+(n-i)=n by omega,ho]at this;simp at this
 |x::l,i,hl,h,n,o,e,hn,ho,he,hb=>by
  simp only[Qf,je]at h;by_cases hni:n=i
  ·subst hni;have h0:=hl 0;simp at h0;rw[ho]at h0;injection h0 with h0;subst h0
   have:=vS.1 h.1 e (by simpa using he);rw[hb]at this;simpa [Nat.blt_eq]using this
  ·exact acT l (i+1) (λj=>by have:=hl (j+1);simp at this;rw[this];congr 1;omega) h.2 n o e (by omega) ho he hb
def tQ(listed:Array Bool)(n:Nat):List Nat:=(List.range n).filter λi=>!listed.getD i η
def CA(ops:Array Oper)(listed:Array Bool):List Oper:=(tQ listed ops.size).filterMap (ops[·]?)
theorem anR{listed:Array Bool}{n i:Nat}(hi:i<n)(hl:listed.getD i η=ι)(hs:listed.size=n):
  ∃l1 l2,tQ listed n=l1++i::l2/\tQ (listed.setIfInBounds i η) n=l1++l2/\∀j∈l1,j<i/\listed.getD j η=ι:=by
 refine⟨(List.range i).filter λj=>!listed.getD j η,((Tz (i+1) (n-i-1))).filter λj=>!listed.getD j η,?_,?_,λj hj=>?_⟩
 ·unfold tQ
  rw[show List.range n=List.range i++i::Tz (i+1) (n-i-1) by
   rw[V3,V3,<-aCC,show n-i-1+1=n-i by omega];have:=List.range'_append_1 (s:=0) (m:=i) (n:=n-i);rw[show 0+i=i by omega,show i+(n-i)=n by omega]at this
   exact this.symm]
  rw[List.filter_append,List.filter_cons,hl];simp
 ·unfold tQ
  rw[show List.range n=List.range i++i::Tz (i+1) (n-i-1) by
   rw[V3,V3,<-aCC,show n-i-1+1=n-i by omega];have:=List.range'_append_1 (s:=0) (m:=i) (n:=n-i);rw[show 0+i=i by omega,show i+(n-i)=n by omega]at this
   exact this.symm]
  rw[List.filter_append,List.filter_cons];have sx:(listed.setIfInBounds i η).getD i η=η:=by simp [aCc,hs,hi]
  rw[sx];simp only[Xk,UP,if_false];congr 1
  ·apply List.filter_congr;intro j hj;have:j<i:=by simpa using hj
   rw[ql,ql,Wl (by omega)]
  ·apply List.filter_congr;intro j hj;have:i<j:=by simp at hj;omega
   rw[ql,ql,Wl (by omega)]
 ·rw[TR]at hj;exact⟨by simpa using hj.1,by simpa using hj.2⟩
end
end
section
open Go.RowKit
section
variable {X : Fx} {z : Z} {s : AS} {a : Act} {w w' : World} {E : List Pl} {pb : Nat -> Option Nat} {R : Type}
theorem PI(h:St X z s a w E pb){d:Nat}{av:AV}(GK:s.sl.getD d .undef=av)(h1:av≠.undef)(h2:∀cs,av≠.lbx cs):∃v,a.tmps[d]? =δ v/\a.tmps.getD d undef=v/\aq (ctx z w E pb) av v:=by
 by_cases hd:d<s.sl.length
 ·have e:s.sl[d]? =δ av:=by rw[bU hd];rw[<-GK];simp [YA,hd]
  have r:=(h.slot d av e).rep h2;have hd':d<a.tmps.size:=by rw[h.len];exact hd
  exact⟨a.tmps.getD d undef,by simp [aCc,hd'],rfl,r⟩
 ·exact absurd (by rw[<-GK];simp [YA,Nat.le_of_not_lt hd]) h1
theorem at5(hs:eC X)(h:St X z s a w E pb){q:Bool}{ops:Array Oper}{i:Nat}{o:Oper}(hi:ops[i]? =δ o){k:AS->Option R}{r:R}(hk:oU X q ops o s k=δ r){K:Act->World->Prop}{Q:Exit->Act->World->Prop}
  (hK:∀s' a' w' E' cL,St X z s' a' w' E' cL->k s'=δ r->K a' w'):wpOp X.P ops Q i K a w:=by
 unfold wpOp;rw[hi];simp only;unfold oU at hk;cases hg:o.guard with
 |none=>rw[hg]at hk;rw[aO (by simp [SH,hg])];exact .inl (agr hs h hk hK)
 |some jw=>
  obtain⟨j,want⟩:=jw;rw[hg]at hk;simp only at hk;cases hd:(ops[j]?).bind (·.dst)with
  |none=>rw[hd]at hk;cases hk
  |some d=>
   rw[hd]at hk;simp only at hk;cases hL:KT X o d
   ·rw[hL]at hk;simp only[bK]at hk;have D2:SH o (yielded ops a.tmps)=(yielded ops a.tmps j==δ want):=by simp [SH,hg]
    have hy:yielded ops a.tmps j=match a.tmps[d]? with|some (.bool b)=>δ b|_=>ξ:=by simp only[yielded,hd,aP];rfl
    cases uW:I1 X o with
    |some fa=>
     obtain⟨f,as'⟩:=fa;rw[uW]at hk;simp only at hk;obtain⟨rv,e1,e2⟩:=bX.1 hk;generalize nH:s.sl.getD d .undef=gv at e1;cases gv<;>simp only[μ]at e1<;>first|(cases e1;done)|skip
     case bool b=>
      obtain⟨v,v1,v2,v3⟩:=PI h nH (by intro e;cases e) (by intro cs e;cases e);simp only[aq]at v3;subst v3;cases AA:(b==want)
      ·rw[AA]at e1;simp only[bK]at e1;injection e1 with e1;subst e1
       have hw:¬SH o (yielded ops a.tmps)=η:=by rw[D2,hy,v1];simp at AA ⊢;exact AA
       rw[aL hw];exact hK _ _ _ _ _ (h.undef o.dst) e2
      ·rw[AA]at e1;simp only[cA]at e1;have QZ:b=want:=by simpa using AA
       have hw:SH o (yielded ops a.tmps)=η:=by rw[D2,hy,v1];simp [QZ]
       rw[aO hw];exact .inl (agr (q:=q) hs h (by rw[aAL uW,e1];exact e2) hK)
     case aM vs=>
      cases vs with
      |cons x xs=>cases e1
      |nil=>
       injection e1 with e1;subst e1
       obtain⟨v,v1,v2,v3⟩:=PI h nH (by intro e;cases e) (by intro cs e;cases e);simp only[aq]at v3;obtain⟨us,rfl,_⟩:=v3;have hw:¬SH o (yielded ops a.tmps)=η:=by rw[D2,hy,v1];simp
       rw[aL hw];exact hK _ _ _ _ _ (h.undef o.dst) e2
    |none=>
    rw[uW]at hk;simp only at hk;cases hp:lP X o s (δ (d,want))with
    |some p=>
     obtain⟨b,rr⟩:=p;rw[hp]at hk;simp only at hk;obtain⟨off,e1,e2⟩:=bX.1 hk;subst e1;by_cases hw:SH o (yielded ops a.tmps)=η
     ·rw[aO hw]
      have ht:tN a (δ (d,want)):=by
       rw[D2,hy]at hw;simp only[tN];split at hw
       ·rename_i b' hb';simp at hw;subst hw;rw[ql,hb'];rfl
       ·simp at hw
      obtain⟨n,k1,k2⟩:=agu h ht hp;exact .inl (tH k2 (hK _ _ _ _ _ (h.WT o.dst (λ_=>⟨n,k1,rfl⟩)) e2))
     ·rw[aL hw];refine hK _ _ _ _ _ (h.WT o.dst (λht=>absurd ?_ hw)) e2;rw[D2,hy];simp only[tN]at ht;rw[ql]at ht;cases hc:a.tmps[d]? with
      |none=>rw[hc]at ht;simp [undef]at ht
      |some v=>rw[hc]at ht;simp at ht;subst ht;simp
    |none=>
     rw[hp]at hk;simp only at hk;obtain⟨av,e1,e2⟩:=bX.1 hk;generalize nH:s.sl.getD d .undef=gv at e1;cases gv<;>simp only[μ]at e1<;>first|(cases e1;done)|skip
     case bool b=>
      obtain⟨v,v1,v2,v3⟩:=PI h nH (by intro e;cases e) (by intro cs e;cases e);simp only[aq]at v3;subst v3;cases AA:(b==want)
      ·rw[AA]at e1;simp only[bK]at e1;injection e1 with e1;subst e1
       have hw:¬SH o (yielded ops a.tmps)=η:=by rw[D2,hy,v1];simp at AA ⊢;exact AA
       rw[aL hw];exact hK _ _ _ _ _ (h.undef o.dst) e2
      ·rw[AA]at e1;simp only[cA]at e1;have QZ:b=want:=by simpa using AA
       have hw:SH o (yielded ops a.tmps)=η:=by rw[D2,hy,v1];simp [QZ]
       rw[aO hw];have ht:tN a (δ (d,want)):=by simp only[tN];rw[v2,QZ]
       exact .inl (agv hs h ht e1 λv w' E' h3 h4=>hK _ _ _ _ _ (h3.put o.dst h4) e2)
     case aM vs=>
      cases vs with
      |cons x xs=>cases e1
      |nil=>
       injection e1 with e1;subst e1
       obtain⟨v,v1,v2,v3⟩:=PI h nH (by intro e;cases e) (by intro cs e;cases e);simp only[aq]at v3;obtain⟨us,rfl,_⟩:=v3;have hw:¬SH o (yielded ops a.tmps)=η:=by rw[D2,hy,v1];simp
       rw[aL hw];exact hK _ _ _ _ _ (h.undef o.dst) e2
   ·rw[hL]at hk;cases hk
def Fr(X:Fx)(ds:List Nat)(s s':AS):Prop:=∀i,i∉ds->X.L.contains i=ι->s'.sl[i]? =s.sl[i]?
theorem Fr.refl(ds:List Nat)(s:AS):Fr X ds s s:=λ_ _ _=>rfl
theorem Fr.trans{d1 d2:List Nat}{s s' s'':AS}(h:Fr X d1 s s')(k:Fr X d2 s' s''):Fr X (d1++d2) s s'':=λi hi hL=>by rw[jJ]at hi;exact(k i (λe=>hi (.inr e)) hL).trans (h i (λe=>hi (.inl e)) hL)
theorem Fr.mono{d1 d2:List Nat}{s s':AS}(h:Fr X d1 s s')(k:∀i∈d1,i∈d2):Fr X d2 s s':=λi hi hL=>h i (λe=>hi (k i e)) hL
theorem Fr.put(d:Option Nat)(v:AV)(s:AS):Fr X d.toList s (s.put X d v):=λi hi hL=>by
 cases d with
 |none=>rfl
 |some d=>simp only[aBR];rw[jm,aL];intro e;subst e;simp at hi
theorem Fr.oN(d:Option Nat)(b off:Nat)(tag:Option (Nat×Bool))(s:AS):Fr X d.toList s (s.oN X d b off tag):=λi hi hL=>by
 cases d with
 |none=>rfl
 |some d=>simp only[AS.oN];rw[jm,aL];intro e;subst e;simp at hi
theorem Fr.qW(d:Nat)(cs:List AV)(s:AS):Fr X [d] s (s.qW d cs):=λi hi hL=>by simp only[AS.qW];rw[jm,aL];intro e;subst e;simp at hi
theorem Fr.rP(d:Option Nat)(v:AV)(σ:Heap)(s:AS):Fr X d.toList s ((s.heap σ).put X d v):=λi hi hL=>by
 cases d with
 |none=>rfl
 |some d=>simp only[aBR,AS.heap];rw[jm,aL];intro e;subst e;simp at hi
theorem Fr.atm(d:Option Nat)(v:AV)(b:Nat)(cs:List AV)(hb:X.L.contains b=η)(s:AS):Fr X d.toList s ((⟨s.sl.set b (.lbx cs),s.A,s.σ⟩:AS).put X d v):=λi hi hL=>by
 have hbi:b≠i:=λe=>by rw[e,hL]at hb;cases hb
 cases d with
 |none=>simp only[aBR];rw[jm,aL hbi]
 |some d=>simp only[aBR];rw[jm,aL,jm,aL hbi];intro e;subst e;simp at hi
theorem asI{tag:Option (Nat×Bool)}{x:Operand}{b off:Nat}(h:place X s tag x=δ (b,off)):X.L.contains b=η:=by
 cases x with
 |tmp t=>
  simp only[place]at h;cases hL:X.L.contains t
  ·rw[hL]at h;simp only[bK]at h;split at h
   ·rename_i p hA;cases hp:X.L.contains p.slot
    ·rw[hp]at h;cases h
    ·rw[hp]at h;simp only[cA]at h;split at h
     ·simp only[Δ,j0]at h;rw[<-h.1];exact hp
     ·rename_i g hg;cases ht:(tag==δ g)
      ·rw[ht]at h;cases h
      ·rw[ht]at h;simp only[cA,Δ,j0]at h;rw[<-h.1];exact hp
   ·cases h
  ·rw[hL]at h;simp only[cA,Δ,j0]at h;rw[<-h.1];exact hL
 |_=>simp [place]at h
theorem bind_congr{α β:Type}{x:Option α}{f g:α->Option β}(h:∀a,x=δ a->f a=g a):x.bind f=x.bind g:=by cases x with|none=>rfl|some a=>exact h a rfl
theorem am6{x:AV}{σ:Heap}{f g:Nat->Heap->Option R}(h:∀n σ,f n σ=g n σ):A.Ee x σ f=A.Ee x σ g:=by
 have:f=g:=funext λn=>funext λσ=>h n σ
 rw[this]
theorem ame{x:AV}{σ:Heap}{f g:AV->Heap->Option R}(h:∀v σ,f v σ=g v σ):A.vO x σ f=A.vO x σ g:=by
 have:f=g:=funext λn=>funext λσ=>h n σ
 rw[this]
theorem anq{q str:Bool}{i:Operand}{dst:Option Nat}{k k2:AS->Option R}(h:∀s',Fr X dst.toList s s'->k s'=k2 s'):
  (bif q||str then ξ else A.vO (ev X s i) s.σ λv σ=>k ((s.heap σ).put X dst v))=(bif q||str then ξ else A.vO (ev X s i) s.σ λv σ=>k2 ((s.heap σ).put X dst v)):=by
 cases(q||str)
 ·simp only[bK];exact ame λ_ _=>h _ (Fr.rP _ _ _ _)
 ·rfl
theorem ao4{q:Bool}{o:Oper}{k k2:AS->Option R}(h:∀s',Fr X o.dst.toList s s'->k s'=k2 s'):iS X q o s k=iS X q o s k2:=by
 unfold iS;cases hp:lP X o s ξ with
 |some p=>obtain⟨b,rr⟩:=p;exact bind_congr λp _=>h _ (Fr.oN _ _ _ _ _)
 |none=>
  simp only;have dflt:((ij X o s ξ).bind λv=>k (s.put X o.dst v))=(ij X o s ξ).bind λv=>k2 (s.put X o.dst v):=bind_congr λv _=>h _ (Fr.put _ _ _)
  obtain⟨dst,op,ty,pos,af,g⟩:=o;cases op<;>simp only<;>first|exact anq h|exact dflt|skip
  case alloc t=>
   cases dst with
   |none=>rfl
   |some d=>
    simp only;cases X.L.contains d
    ·simp only[bK];cases X.O.contains d
     ·exact dflt
     ·simp only[cA];split
      ·exact h _ (Fr.rP _ _ _ _)
      ·rfl
    ·simp only[cA];split
     ·exact h _ (Fr.qW _ _ _)
     ·rfl
  case box t x=>
   cases dst with
   |none=>rfl
   |some d=>
    simp only;cases X.L.contains d
    ·simp only[bK];cases X.O.contains d
     ·exact dflt
     ·exact bind_congr λcs _=>h _ (Fr.rP _ _ _ _)
    ·exact bind_congr λcs _=>h _ (Fr.qW _ _ _)
  case store t x v=>
   split
   ·rename_i b off hpl;exact bind_congr λ_ _=>bind_congr λ_ _=>bind_congr λ_ _=>h _ (Fr.atm _ _ _ _ (asI hpl) _)
   ·exact bind_congr λ_ _=>bind_congr λ_ _=>h _ (Fr.rP _ _ _ _)
  case makeMap t rr=>
   cases rr with
   |none=>exact h _ (Fr.rP _ _ _ _)
   |some x=>rfl
  case range t x=>
   split
   ·exact bind_congr λ_ _=>h _ (Fr.rP _ _ _ _)
   ·rfl
  case buildSlice t n ps=>
   cases dst with
   |none=>exact dflt
   |some d=>
    simp only;cases X.O.contains d
    ·exact dflt
    ·simp only[cA];refine bind_congr λv _=>?_
     unfold A.Jf;split
     ·cases(VN _==0)
      ·exact h _ (Fr.rP _ _ _ _)
      ·rfl
     ·rfl
  case mapUpdate t m i v=>
   split
   ·split
    ·exact bind_congr λ_ _=>h _ (Fr.rP _ _ _ _)
    ·rfl
   ·rfl
  case call c=>
   split
   ·split
    ·split
     ·split
      ·cases pE _
       ·exact bind_congr λ_ _=>h _ (Fr.rP _ _ _ _)
       ·rfl
      ·rfl
     ·split
      ·cases pE _
       ·exact bind_congr λ_ _=>h _ (Fr.rP _ _ _ _)
       ·rfl
      ·rfl
     ·rfl
    ·rfl
   ·split
    ·split
     ·split
      ·cases pE _
       ·exact bind_congr λ_ _=>h _ (Fr.rP _ _ _ _)
       ·rfl
      ·rfl
     ·rfl
    ·rfl
   ·cases hv:ij X _ s ξ
    ·simp only[A.Bg];cases q
     ·simp only[bK];split
      ·split
       ·exact am6 λ_ _=>h _ (Fr.rP _ _ _ _)
       ·rfl
      ·rfl
     ·rfl
    ·exact h _ (Fr.put _ _ _)
   ·split
    ·split
     ·split
      ·cases pE _
       ·exact bind_congr λ_ _=>h _ (Fr.rP _ _ _ _)
       ·rfl
      ·rfl
     ·rfl
    ·rfl
   ·split
    ·split
     ·split
      ·exact bind_congr λ_ _=>h _ (Fr.rP _ _ _ _)
      ·rfl
     ·rfl
    ·rfl
   ·exact dflt
   ·cases(q&&!X.W.contains _)
    ·exact bind_congr λ_ _=>h _ (Fr.rP _ _ _ _)
    ·exact dflt
   ·cases q
    ·exact bind_congr λ_ _=>h _ (Fr.rP _ _ _ _)
    ·exact dflt
   ·rfl
theorem ao5{q:Bool}{ops:Array Oper}{o:Oper}{k k2:AS->Option R}(h:∀s',Fr X o.dst.toList s s'->k s'=k2 s'):oU X q ops o s k=oU X q ops o s k2:=by
 unfold oU;split
 ·exact ao4 h
 ·split
  ·cases KT X o _
   ·simp only[bK];split
    ·exact bind_congr λ_ _=>h _ (Fr.rP _ _ _ _)
    ·split
     ·exact bind_congr λ_ _=>h _ (Fr.oN _ _ _ _ _)
     ·exact bind_congr λ_ _=>h _ (Fr.put _ _ _)
   ·rfl
  ·rfl
theorem afl(hs:eC X)(h:St X z s a w E pb){q:Bool}{ops:Array Oper}{i:Nat}{o:Oper}(hi:ops[i]? =δ o){k:AS->Option R}{r:R}(hk:oU X q ops o s k=δ r){K:Act->World->Prop}{Q:Exit->Act->World->Prop}
  (hK:∀s' a' w' E' cL,St X z s' a' w' E' cL->Fr X o.dst.toList s s'->k s'=δ r->K a' w'):wpOp X.P ops Q i K a w:=by
 classical
 have e:oU X q ops o s k=oU X q ops o s (λs'=>if Fr X o.dst.toList s s' then k s' else ξ):=ao5 λs' hf=>by rw[aO hf]
 rw[e]at hk;refine at5 hs h hi hk λs' a' w' E' cL h' hk'=>?_
 split at hk'
 ·exact hK s' a' w' E' cL h' (by assumption) hk'
 ·cases hk'
theorem afo(hs:eC X){q:Bool}{ops:Array Oper}{Q:Exit->Act->World->Prop}{r:R}{k:AS->Option R}{s0:AS}:
  ∀(l:List Oper)(i:Nat)(s:AS)(a:Act)(w:World)(E:List Pl)(pb:Nat->Option Nat),(∀j,l[j]? =ops[i+j]?)->St X z s a w E pb->vY X q ops l s k=δ r->
   (∀s' a' w' E' cL,St X z s' a' w' E' cL->Fr X (l.filterMap (·.dst)) s s'->k s'=δ r->Q .normal a' w')->wpOps X.P ops Q (Tz i l.length) a w
 |[],i,s,a,w,E,pb,_,h,hk,hQ=>by simpa [wpOps]using hQ _ _ _ _ _ h (Fr.refl _ _) hk
 |o::l,i,s,a,w,E,pb,hl,h,hk,hQ=>by
  have h0:=hl 0;simp at h0;simp only[R7,aCC];rw[wpOps_cons];refine afl hs h h0.symm hk λs' a' w' E' cL h' hf hk'=>?_
  refine afo hs (s0:=s0) l (i+1) s' a' w' E' cL (λj=>by have:=hl (j+1);simp at this;rw[this];congr 1;omega) h' hk' λs2 a2 w2 E2 ZJ h2 rI hk2=>hQ s2 a2 w2 E2 ZJ h2 ((hf.trans rI).mono ?_) hk2
  intro j hj;rw[SU];cases hd:o.dst with
  |none=>rw[hd]at hj;simpa using hj
  |some d=>rw[hd]at hj;simpa using hj
theorem asE(hs:eC X){Rt:List (Nat×Nat)}{Bt:List Nat}(h:St X z s a w E pb)(hI:RI X Rt Bt s){ops:Array Oper}{i:Nat}{o:Oper}(hR:xB X Rt Bt o)(hi:ops[i]? =δ o){k:AS->Option R}{r:R}(hk:oU X η ops o s k=δ r){K:Act->World->Prop}{Q:Exit->Act->World->Prop}
  (hK:∀s' a' w' E' cL,St X z s' a' w' E' cL->Fr X o.dst.toList s s'->RI X Rt Bt s'->k s'=δ r->K a' w'):wpOp X.P ops Q i K a w:=by
 classical
 have e:oU X η ops o s (λs'=>if RI X Rt Bt s' then k s' else ξ)=δ r:=by obtain⟨u,h1,h2,h3⟩:=aA6 hR hI hk;rw[h3 R _ s (λtag _=>⟨hI,hI,λ_ _ _=>rfl,λ_ _=>rfl,λ_ _=>rfl,λ_ _=>rfl,λ_ _=>Fp _⟩),aO (h1.ri hI)];exact h2
 refine afl hs h hi e λs' a' w' E' cL h' hf hk'=>?_
 split at hk'
 ·exact hK s' a' w' E' cL h' hf (by assumption) hk'
 ·cases hk'
theorem apV(hs:eC X){Rt:List (Nat×Nat)}{Bt:List Nat}{ops:Array Oper}{Q:Exit->Act->World->Prop}{r:R}{k:AS->Option R}{s0:AS}(Wq:∀n o e,ops[n]? =δ o->e∈o.after->Xu .any e=η->e.on<n)
  (au7:∀n o m y,ops[n]? =δ o->m<n->ops[m]? =δ y->(∀S,Down ops S->QO ops n S->S m)\/Bq X Rt Bt ops y o) (Xw:∀(n:Nat)(o:Oper),ops[n]? =δ o->xB X Rt Bt o)
  (hQ:∀s' a' w' E' cL,St X z s' a' w' E' cL->Fr X (ops.toList.filterMap (·.dst)) s0 s'->k s'=δ r->Q .normal a' w'):
  ∀(fuel:Nat)(listed:Array Bool)(s:AS)(a:Act)(w:World)(E:List Pl)(pb:Nat->Option Nat),listed.size=ops.size->(tQ listed ops.size).length<=fuel->Down ops (λi=>listed.getD i η=η)->St X z s a w E pb->RI X Rt Bt s->vY X η ops (CA ops listed) s k=δ r->Fr X (ops.toList.filterMap (·.dst)) s0 s->
   wpAny X.P .any ops Q fuel listed a w:=by
 have hnone:∀(listed:Array Bool),tQ listed ops.size=[]->SI .any ops listed=[]:=by intro listed h;unfold SI;rw[List.filter_eq_nil_iff];intro i hi hr;simp only[je]at hr;have:i∈tQ listed ops.size:=TR.2 ⟨hi,hr.1⟩;rw[h]at this;simp at this
 have hsome:∀(listed:Array Bool),listed.size=ops.size->SI .any ops listed=[]->tQ listed ops.size=[]:=by
  intro listed hsz hr;cases Ah:tQ listed ops.size with
  |nil=>rfl
  |cons i0 tl=>
   exfalso;have hm:i0∈tQ listed ops.size:=by rw[Ah];simp
   obtain⟨h1,h2⟩:=TR.1 hm;have hlt:i0<ops.size:=by simpa using h1
   have hpw:(tQ listed ops.size).Pairwise (·<·):=List.Pairwise.filter _ List.pairwise_lt_range;rw[Ah,Tc]at hpw
   have hall:∀j,j<i0->listed.getD j η=η:=by
    intro j hj;cases hc:listed.getD j η with
    |true=>rfl
    |false=>
     have:j∈tQ listed ops.size:=TR.2 ⟨by simp;omega,by simp [hc]⟩;rw[Ah]at this;rcases iV.1 this with e|e
     ·omega
     ·have:=hpw.1 j e;omega
   have:i0∈SI .any ops listed:=by
    unfold SI;refine TR.2 ⟨h1,?_⟩;rw[je];refine⟨h2,?_⟩;rw[uD hlt];simp only[cq,SG];rw[aCi];intro e he;cases hb:Xu .any e with
    |false=>rfl
    |true=>have hon:=Wq i0 _ e (uD hlt) he hb;have:=hall e.on hon;rw[ql,uD (by omega)]at this;simp only[SG]at this;rw[ql,uD (by omega)];simp [this]
   rw[hr]at this;simp at this
 intro fuel;induction fuel with
 |zero=>intro listed s a w E pb hsz hle hdn h hI hk hf;have Ah:tQ listed ops.size=[]:=vQ (by omega);refine⟨hnone listed Ah,hQ s a w E pb h hf ?_⟩;simpa [CA,Ah,vY]using hk
 |succ fuel ih=>
  intro listed s a w E pb hsz hle hdn h hI hk hf;refine⟨λhr=>hQ s a w E pb h hf (by simpa [CA,hsome listed hsz hr,vY]using hk),λi hi=>?_⟩;unfold SI at hi;obtain⟨h1,h2⟩:=TR.1 hi;rw[je]at h2;obtain⟨h2,h3⟩:=h2;have hlt:i<ops.size:=by simpa using h1
  have hun:listed.getD i η=ι:=by simpa using h2
  have ho:ops[i]? =δ ops[i]:=uD hlt
  have ag7:QO ops i (λj=>listed.getD j η=η):=by intro o e hoo he hb;rw[hoo]at h3;simp only[cq,SG]at h3;rw[aCi]at h3;have h4:=h3 e he;rw[hb]at h4;simp only[Xk,Bool.false_or]at h4;have hon:=Wq i o e hoo he hb;rw[ql,uD (by omega)]at h4;simp only[SG]at h4;show listed.getD e.on η=η;rw[ql,uD (by omega)];simpa using h4
  obtain⟨l1,l2,e1,e2,e3⟩:=anR hlt hun hsz
  have Ah:CA ops listed=l1.filterMap (ops[·]?)++ops[i]::l2.filterMap (ops[·]?):=by unfold CA;rw[e1,ZV,SU,ho]
  have au9:CA ops (listed.setIfInBounds i η)=l1.filterMap (ops[·]?)++l2.filterMap (ops[·]?):=by unfold CA;rw[e2,ZV]
  rw[Ah]at hk
  have aw4:∀y∈l1.filterMap (ops[·]?),xB X Rt Bt y:=by intro y hy;obtain⟨j,hj,Za⟩:=YQ.1 hy;exact Xw j y Za
  have awT:∀y∈l1.filterMap (ops[·]?),Bq X Rt Bt ops y ops[i]:=by
   intro y hy;obtain⟨j,hj,Za⟩:=YQ.1 hy;obtain⟨j1,j2⟩:=e3 j hj;rcases au7 i ops[i] j y ho j1 Za with k1|k1
   ·have:=k1 _ hdn ag7;rw[j2]at this;cases this
   ·exact k1
  have atI:=adv (Xw i _ ho) _ _ s hI aw4 awT hk;refine asE hs h hI (Xw i _ ho) ho atI λs' a' w' E' cL h' hf' YY hk'=>?_
  rw[<-au9]at hk';refine ih _ s' a' w' E' cL (by simpa using hsz) ?_ ?_ h' YY hk' ((hf.trans hf').mono ?_)
  ·rw[e2];rw[e1]at hle;simp at hle ⊢;omega
  ·intro j o e hj Zg he hb;by_cases hji:j=i
   ·subst hji;have:=ag7 o e Zg he hb;show(listed.setIfInBounds j η).getD e.on η=η;have hon:=Wq j o e Zg he hb;rw[ql,Wl (by omega),<-ql];exact this
   ·have hj':listed.getD j η=η:=by replace hj:(listed.setIfInBounds i η).getD j η=η:=hj;rw[ql,Wl (λe=>hji e.symm),<-ql]at hj;exact hj
    have:=hdn j o e hj' Zg he hb;show(listed.setIfInBounds i η).getD e.on η=η;by_cases hei:e.on=i
    ·rw[hei];simp [aCc,hsz,hlt]
    ·rw[ql,Wl (λe'=>hei e'.symm),<-ql];exact this
  ·intro d hd;rcases jJ.1 hd with hd|hd
   ·exact hd
   ·refine YQ.2 ⟨ops[i],by simp,?_⟩;cases sP:ops[i].dst with
    |none=>rw[sP]at hd;simp at hd
    |some d'=>rw[sP]at hd;simp at hd;rw[hd]
theorem aAD{t b:Nat}:∀{l:List (Nat×Nat)},l.lookup t=δ b->(t,b)∈l
 |[],h=>by cases h
 |(t',b')::l,h=>by
  simp only[List.lookup]at h;cases hc:(t==t')
  ·rw[hc]at h;exact rA _ (aAD h)
  ·rw[hc]at h;simp only[Δ]at h;have:t=t':=by simpa using hc
   subst this;subst h;exact XJ
theorem arE(hs:eC X){ops:Array Oper}{Q:Exit->Act->World->Prop}{r:R}{k:AS->Option R}(hok:KY X ops s.sl=η)(hA:∀t,s.A t=ξ)(hQ:∀s' a' w' E' cL,St X z s' a' w' E' cL->Fr X (ops.toList.filterMap (·.dst)) s s'->k s'=δ r->Q .normal a' w'){id:Nat}
  (h:St X z s a w E pb) (hk:vY X η ops ops.toList s k=δ r):(Code.region id ops η).wp X.P Q a w:=by
 obtain⟨Rt,Bt,hok⟩:∃Rt Bt,Ph X Rt Bt ops s.sl=η:=by
  unfold KY at hok;rcases Bool.or_eq_true_iff.1 hok with h|h
  ·exact⟨_,_,h⟩
  ·exact⟨_,_,h⟩
 unfold Ph at hok;simp only[je]at hok;obtain⟨⟨⟨⟨⟨⟨⟨h1,h2⟩,h3⟩,h4⟩,h5⟩,h6⟩,h7⟩,h8⟩:=hok
 have hI:RI X Rt Bt s:=by
  refine⟨λt b hl=>?_,λt p hp=>(by rw[hA t]at hp;cases hp),λt b hl _=>?_,λt ht=>vS.1 h8 t (by simpa using ht)⟩
  ·have:=vS.1 h6 (t,b) (aAD hl);exact this
  ·have:=vS.1 h5 (t,b) (aAD hl);exact this
 have ag9:∀j,ops.toList[j]? =ops[0+j]? :=λj=>by simp
 have Ah:tQ (Wt ops.size ι) ops.size=List.range ops.size:=by
  unfold tQ;rw[List.filter_eq_self];intro i hi;have:i<ops.size:=by simpa using hi
  simp [aCc,this]
 have ava:CA ops (Wt ops.size ι)=ops.toList:=by
  unfold CA;rw[Ah]
  have gen:∀(l pre:List Oper),(Tz pre.length l.length).filterMap (λi=>(pre++l)[i]?)=l:=by
   intro l;induction l with
   |nil=>intro pre;rfl
   |cons x l ih=>intro pre;simp only[R7,aCC,SU];rw[iz (bF _)];simp only[Wz,List.getElem?_cons_zero];have:=ih (pre++[x]);simp only[Ve,R7,TZ,WW,kS,mq,Tp]at this;rw[this]
  have:=gen ops.toList [];rw[V3];simpa using this
 refine wp_region_any h1 (apV (s0:=s) hs (λn o e ho he hb=>acT ops.toList 0 ag9 h2 n o e (kD _) ho he hb) (λn o m y ho hm hy=>?_) (λn o ho=>xB.of (vS.1 h4 o (by have:=Array.mem_of_getElem? ho;simpa using this)) (vS.1 h7 o (by have:=Array.mem_of_getElem? ho;simpa using this))) hQ ops.size _ s a _ E pb (by simp) (by rw[Ah];simp) ?_ (h.grow (w':=w.drew) ((Below.refl _ _).drew)) hI (by rw[ava];exact hk) (Fr.refl _ _))
 ·rcases acu ops.toList 0 ag9 h3 n o (kD _) ho m y hm hy with k1|k1
  ·left;exact λS hS hD=>adU ops.toList [] (λi=>by simp) (λm j h=>by simp at h) n m k1 S hS hD
  ·exact .inr (aoM k1)
 ·intro i o e hi ho he hb;have hlt:i<ops.size:=(lT.1 ho).1;exfalso;simp [aCc,hlt]at hi
theorem St.ZA(h:St X z s a w E pb):St X z ⟨s.sl,λ_=>ξ,s.σ⟩ a w E pb:=
 ⟨h.len,h.tP,h.slot,h.box,(λt p hp=>by cases hp),h.priv,h.inj,h.heap,h.defers,h.out,h.nm⟩
def AX.to:AX->Exit
 |.normal=>.normal
 |.exit i=>.exit i
 |.ret=>.ret
theorem OE:∀(ds:List Nat)(sl:List AV)(i:Nat),(zF sl ds).length=sl.length/\((zF sl ds)[i]? =sl[i]? \/(zF sl ds)[i]? =δ .undef)/\(i∉ds->(zF sl ds)[i]? =sl[i]?)/\(i∈ds->i<sl.length->(zF sl ds)[i]? =δ .undef)
 |[],sl,i=>⟨rfl,.inl rfl,λ_=>rfl,λh=>by simp at h⟩
 |d::ds,sl,i=>by
  obtain⟨h1,h2,h3,h4⟩:=OE ds (sl.set d .undef) i;simp only[zF]
  have sx:(sl.set d .undef)[i]? =if d=i then(if i<sl.length then δ .undef else ξ)else sl[i]? :=by
   rw[jm];by_cases e:d=i
   ·subst e;simp
   ·simp [e]
  have hnone:¬i<sl.length->sl[i]? =ξ:=λk=>qm (by omega)
  refine⟨by rw[h1];simp,?_,λhi=>?_,λhi hl=>?_⟩
  ·rcases h2 with h2|h2
   ·rw[h2,sx];by_cases e:d=i
    ·rw[aO e];split
     ·exact .inr rfl
     ·rename_i k;rw[hnone k];exact .inl rfl
    ·rw[aL e];exact .inl rfl
   ·exact .inr h2
  ·simp only[iV,not_or]at hi;rw[h3 hi.2,sx,aL (λe=>hi.1 e.symm)]
  ·by_cases hm:i∈ds
   ·exact h4 hm (by simpa using hl)
   ·simp only[iV]at hi;have:i=d:=hi.resolve_right hm;rw[h3 hm,sx,aO this.symm,aO hl]
theorem O6(vs:List AV):∀(live:List Nat)(j:Nat)(sl:List AV)(i:Nat),(IQ vs sl live j).length=sl.length/\(i∉live->(IQ vs sl live j)[i]? =sl[i]?)/\(i∈live->i<sl.length->∃n,n<live.length/\live[n]? =δ i/\(IQ vs sl live j)[i]? =δ (vs.getD (j+n) .undef))
 |[],j,sl,i=>⟨rfl,λ_=>rfl,λh=>by simp at h⟩
 |d::live,j,sl,i=>by
  obtain⟨h1,h2,h3⟩:=O6 vs live (j+1) (sl.set d (vs.getD j .undef)) i;simp only[IQ];refine⟨by rw[h1];simp,λhi=>?_,λhi hl=>?_⟩
  ·simp only[iV,not_or]at hi;rw[h2 hi.2,jm,aL (λe=>hi.1 e.symm)]
  ·by_cases hm:i∈live
   ·obtain⟨n,k1,k2,k3⟩:=h3 hm (by simpa using hl);exact⟨n+1,by simp;omega,by simpa using k2,by rw[k3];congr 2;omega⟩
   ·simp only[iV]at hi;have:i=d:=hi.resolve_right hm;subst this;exact⟨0,by simp,rfl,by rw[h2 hm,jm];simp [hl]⟩
theorem St.meet{s s':AS}(h:St X z s' a w E pb){mods live:List Nat}(hl:s.sl.length=s'.sl.length)(hf:∀i,i∉mods->s'.sl[i]? =s.sl[i]?):St X z (s.meet mods live (vals s'.sl live) s'.σ) a w E pb:=by
 have jL:∀i:Nat,(s.meet mods live (vals s'.sl live) s'.σ).sl[i]? =s'.sl[i]? \/(s.meet mods live (vals s'.sl live) s'.σ).sl[i]? =δ AV.undef:=by
  intro i;simp only[AS.meet];obtain⟨c1,c2,c3,c4⟩:=OE mods s.sl i;obtain⟨m1,m2,m3⟩:=O6 (vals s'.sl live) live 0 (zF s.sl mods) i;by_cases hm:i∈live
  ·by_cases hlt:i<s.sl.length
   ·obtain⟨n,k1,k2,k3⟩:=m3 hm (by rw[c1];exact hlt);left;rw[k3,WW]
    have:(vals s'.sl live).getD n .undef=s'.sl.getD i .undef:=by simp only[vals,YA,qo,k2];rfl
    rw[this,bU (by omega)];simp [YA,show i<s'.sl.length by omega]
   ·left;rw[qm (by rw[m1,c1];omega),qm (by omega)]
  ·rw[m2 hm];by_cases hd:i∈mods
   ·by_cases hlt:i<s.sl.length
    ·exact .inr (c4 hd hlt)
    ·left;rw[qm (by rw[c1];omega),qm (by omega)]
   ·left;rw[c3 hd,hf i hd]
 have hlen:(s.meet mods live (vals s'.sl live) s'.σ).sl.length=s'.sl.length:=by simp only[AS.meet];rw[(O6 (vals s'.sl live) live 0 (zF s.sl mods) 0).1,(OE mods s.sl 0).1];exact hl
 refine⟨by rw[h.len,hlen],by rw[hlen,h.tP],λi av hi=>?_,λi cs hi=>?_,(λt p hp=>by cases hp),h.priv,h.inj,h.heap,h.defers,h.out,h.nm⟩
 ·rcases jL i with e|e
  ·rw[e]at hi;exact h.slot i av hi
  ·rw[e]at hi;injection hi with hi;subst hi;trivial
 ·rcases jL i with e|e
  ·rw[e]at hi;exact h.box i cs hi
  ·rw[e]at hi;cases hi
end
end
open Fr renaming refl->aCH
section
open Go.RowKit
section
variable {X : Fx} {z : Z}
theorem force_eq{R:Type}:∀(l:List AV)(k:List AV->Option R),force l k=k l
 |[],k=>rfl
 |x::l,k=>by simp only[force];rw[force_eq l]
theorem afp{R:Type}{q:Bool}{ops:Array Oper}:∀(l:List Oper)(s:AS)(k:AS->Option R),Mq X q ops l s k=vY X q ops l s k
 |[],s,k=>rfl
 |o::l,s,k=>by simp only[Mq,vY];congr 1;funext s;rw[force_eq];exact afp l _ k
theorem acX{α:Type}{c:AV}{t e:Option α}{r:α}(h:Γ c t e=δ r):(c=.bool η/\t=δ r)\/(c=.bool ι/\e=δ r):=by
 cases c<;>simp only[Γ]at h<;>first|(cases h;done)|skip
 rename_i b;cases b
 ·exact .inr ⟨rfl,h⟩
 ·exact .inl ⟨rfl,h⟩
theorem aoY{f:List AV->Heap->Option (AX×List AV×Heap)}{v:List AV}{σ:Heap}{r:AX×List AV×Heap}(h:p7 f v σ=δ r):∃n,U1 f n v σ=δ r:=by
 unfold p7 at h;split at h
 ·rename_i hx;injection h with h
  exact⟨_,h▸ZR (ZR hx)⟩
 ·cases h
theorem ano{R:Type}{f:List AV->Heap->(AX×List AV×Heap->Option R)->Option R}{v:List AV}{σ:Heap}{K:AX×List AV×Heap->Option R}{r:R}(h:A.Ch f v σ K=δ r):∃n,A.zR f n v σ K=δ r:=by
 unfold A.Ch at h;split at h
 ·rename_i hx;injection h with h
  obtain⟨n,hn⟩:=ZR hx;exact⟨n,h▸hn n (bF _)⟩
 ·cases h
theorem PE{R:Type}{e:AX}{k:AX->Option R}{r:R}:∀{xs:List AX},A.sel e k xs=δ r->k e=δ r
 |[],h=>by cases h
 |x::xs,h=>by
  simp only[A.sel]at h;cases he:(e==x)
  ·rw[he]at h;exact PE h
  ·rw[he]at h;have:e=x:=by simpa using he
   subst this;exact h
theorem Iz{X:Fx}{c:Code}{ds:List Nat}{s s':AS}(h:Fr X ds s s'):∀i,i∉ds++X.L->s'.sl[i]? =s.sl[i]? :=λi hi=>by
 rw[jJ]at hi
 exact h i (λe=>hi (.inl e)) (by
  cases hc:X.L.contains i
  ·rfl
  ·exact absurd (Yg.1 hc) (λe=>hi (.inr e)))
theorem DH{X:Fx}{s:AS}{ds live:List Nat}{vs:List AV}{σ:Heap}(hl:(live.all λd=>(ds++X.L).contains d)=η):Fr X ds s (s.meet (ds++X.L) live vs σ):=λi hi hL=>by
 have hni:i∉ds++X.L:=by
  rw[jJ];rintro(e|e)
  ·exact hi e
  ·rw[Yg.2 e]at hL;cases hL
 simp only[AS.meet];rw[(O6 vs live 0 (zF s.sl (ds++X.L)) i).2.1 (λe=>hni ?_),(OE (ds++X.L) s.sl i).2.2.1 hni];exact Yg.1 (vS.1 hl i e)
theorem abN{live:List Nat}{e:AX}{s:AS}{r:List AV×Heap}(h:Qn live e s=δ r):e=.normal/\r=(vals s.sl live,s.σ):=by cases e<;>simp only[Qn]at h<;>first|(cases h;done)|(injection h with h;exact⟨rfl,h.symm⟩)
theorem afe{P:Program}{c:Code}{Q:Exit->Act->World->Prop}(I:Nat->Act->World->Prop)(round:∀n a w,I n a w->c.wp P (Exit.then (λa' w'=>∃m,m<n/\I m a' w') Q) a w) {n:Nat} {a:Act} {w:World} (h:I n a w):(Code.loop c).wp P Q a w:=by
 intro b k cs
 have key:∀n a w,I n a w->∃e a' w',Q e a' w'/\Arrives P (lone (b.at a (.code c::.inLoop c::k)) cs w) b k cs e a' w':=by
  intro n;induction n using Nat.strongRecOn with
  |_ n ih=>
   intro a w hI;obtain⟨e,a1,w1,hq,Ek⟩:=round n a w hI b (.inLoop c::k) cs;cases e with
   |normal=>obtain⟨m,hlt,hm⟩:=hq;obtain⟨e2,a2,w2,zb,auS⟩:=ih m hlt a1 w1 hm;exact⟨e2,a2,w2,zb,.of_steps (Steps.trans Ek (.one step_inLoop)) auS⟩
   |exit id=>exact⟨_,a1,w1,hq,.pass (x:=.inLoop c) rfl (λ_ _=>.inl (by simp)) Ek⟩
   |goto l=>exact⟨_,a1,w1,hq,.pass (x:=.inLoop c) rfl (λ_ _=>.inl (by simp)) Ek⟩
   |ret=>exact⟨_,a1,w1,hq,.pass (x:=.inLoop c) rfl (λ_ _=>.inl (by simp)) Ek⟩
   |panic ch=>exact⟨_,a1,w1,hq,.pass (x:=.inLoop c) rfl (λ_ _=>.inl (by simp)) Ek⟩
   |outgrown=>exact⟨_,a1,w1,hq,.pass (x:=.inLoop c) rfl (λ_ _=>.inl (by simp)) Ek⟩
 obtain⟨e,a',w',hq,Ek⟩:=key n a w h;exact⟨e,a',w',hq,.of_steps (.one step_loop) Ek⟩
theorem AW(hs:eC X):∀(c:Code){R:Type}(cH:oM)(s:AS)(a:Act)(w:World)(E:List Pl)(pb:Nat->Option Nat)(k:AX->AS->Option R)(r:R)(Q:Exit->Act->World->Prop),exec X cH c s k=δ r->St X z s a w E pb->
  (∀e s' a' w' E' cL,St X z s' a' w' E' cL->Fr X (gh c) s s'->k e s'=δ r->Q e.to a' w')->c.wp X.P Q a w
 |.skip,R,cH,s,a,w,E,pb,k,r,Q,hk,h,hQ=>by
  have hk':k .normal s=δ r:=by cases cH<;>simpa [exec]using hk
  exact wp_skip (hQ .normal s a w E pb h (aCH _ _) hk')
 |.label l,R,cH,s,a,w,E,pb,k,r,Q,hk,h,hQ=>by
  have hk':k .normal s=δ r:=by cases cH<;>simpa [exec]using hk
  exact wp_label (hQ .normal s a w E pb h (aCH _ _) hk')
 |.exit id,R,cH,s,a,w,E,pb,k,r,Q,hk,h,hQ=>by
  have hk':k (.exit id) s=δ r:=by cases cH<;>simpa [exec]using hk
  exact wp_exit (hQ (.exit id) s a w E pb h (aCH _ _) hk')
 |.ret,R,cH,s,a,w,E,pb,k,r,Q,hk,h,hQ=>by
  have hk':k .ret s=δ r:=by cases cH<;>simpa [exec]using hk
  exact wp_ret (hQ .ret s a w E pb h (aCH _ _) hk')
 |.region id ops draw,R,cH,s,a,w,E,pb,k,r,Q,hk,h,hQ=>by
  have hk':(bif draw then(bif KY X ops s.sl then vY X η ops ops.toList ⟨s.sl,λ_=>ξ,s.σ⟩ λs=>k .normal ⟨s.sl,λ_=>ξ,s.σ⟩else ξ)else vY X ι ops ops.toList s λs=>k .normal ⟨s.sl,λ_=>ξ,s.σ⟩)=δ r:=by cases cH<;>simpa [exec,force_eq,afp]using hk
  cases draw
  ·simp only[bK]at hk';refine wp_region ?_;have:=afo (z:=z) (Q:=Q) (s0:=s) hs ops.toList 0 s a w E pb (λj=>by simp) h hk' (λs' a' w' E' cL h' hf hk2=>hQ .normal _ a' w' E' cL h'.ZA (λi hi hL=>hf i (by simpa [gh]using hi) hL) hk2);rw[V3];simpa using this
  ·simp only[cA]at hk';cases hok:KY X ops s.sl
   ·rw[hok]at hk';cases hk'
   ·rw[hok]at hk';simp only[cA]at hk';exact arE (s:=⟨s.sl,λ_=>ξ,s.σ⟩) hs hok (λ_=>rfl) (λs' a' w' E' cL h' hf hk2=>hQ .normal _ a' w' E' cL h'.ZA (λi hi hL=>hf i (by simpa [gh]using hi) hL) hk2) h.ZA hk'
 |.seq x y,R,cH,s,a,w,E,pb,k,r,Q,hk,h,hQ=>by
  cases cH<;>simp only[exec]at hk<;>first|(cases hk;done)|skip
  rename_i aa bb;refine wp_seq (AW hs x aa s a w E pb _ r _ hk h λe s' a' w' E' cL h' hf hk'=>?_);cases e with
  |normal=>exact AW hs y bb s' a' w' E' cL k r Q hk' h' λe2 s2 a2 w2 E2 ZJ h2 rI hk2=>hQ e2 s2 a2 w2 E2 ZJ h2 (by simpa [gh]using hf.trans rI) hk2
  |exit i=>exact hQ (.exit i) s' a' w' E' cL h' (hf.mono λi hi=>by simp [gh,hi]) hk'
  |ret=>exact hQ .ret s' a' w' E' cL h' (hf.mono λi hi=>by simp [gh,hi]) hk'
 |.cond c x y,R,cH,s,a,w,E,pb,k,r,Q,hk,h,hQ=>by
  have rc:=gf h c;cases cH<;>simp only[exec,force_eq]at hk<;>first|(cases hk;done)|skip
  case c live aa bb=>
   cases hl:(live.all λd=>(gh x++gh y++X.L).contains d)
   ·rw[hl]at hk;cases hk
   ·rw[hl]at hk;simp only[Xk,bK]at hk;obtain⟨⟨vs,σ'⟩,h1,h2⟩:=bX.1 hk;rcases acX h1 with⟨ec,hb⟩|⟨ec,hb⟩
    ·rw[ec]at rc;simp only[aq]at rc;refine wp_cond_true rc (AW hs x aa s a w E pb _ _ Q hb h λe s' a' w' E' cL h' hf hk'=>?_);obtain⟨rfl,hv⟩:=abN hk';simp only[j0]at hv;obtain⟨rfl,rfl⟩:=hv;have rI:Fr X (gh x++gh y) s s':=hf.mono λi hi=>by simp [hi]
     exact hQ .normal _ a' w' E' cL (h'.meet (by rw[h.tP,h'.tP]) (Iz (c:=x) rI)) (by simpa [gh]using DH (X:=X) hl) h2
    ·rw[ec]at rc;simp only[aq]at rc;refine wp_cond_false rc (AW hs y bb s a w E pb _ _ Q hb h λe s' a' w' E' cL h' hf hk'=>?_);obtain⟨rfl,hv⟩:=abN hk';simp only[j0]at hv;obtain⟨rfl,rfl⟩:=hv;have rI:Fr X (gh x++gh y) s s':=hf.mono λi hi=>by simp [hi]
     exact hQ .normal _ a' w' E' cL (h'.meet (by rw[h.tP,h'.tP]) (Iz (c:=x) rI)) (by simpa [gh]using DH (X:=X) hl) h2
  case j aa bb=>
   rcases acX hk with⟨ec,hb⟩|⟨ec,hb⟩
   ·rw[ec]at rc;simp only[aq]at rc;exact wp_cond_true rc (AW hs x aa s a w E pb k r Q hb h λe s' a' w' E' cL h' hf hk'=>hQ e s' a' w' E' cL h' (hf.mono λi hi=>by simp [gh,hi]) hk')
   ·rw[ec]at rc;simp only[aq]at rc;exact wp_cond_false rc (AW hs y bb s a w E pb k r Q hb h λe s' a' w' E' cL h' hf hk'=>hQ e s' a' w' E' cL h' (hf.mono λi hi=>by simp [gh,hi]) hk')
 |.block id c,R,cH,s,a,w,E,pb,k,r,Q,hk,h,hQ=>by
  cases cH<;>simp only[exec]at hk<;>first|(cases hk;done)|skip
  rename_i aa;refine wp_block (AW hs c aa s a w E pb _ r _ hk h λe s' a' w' E' cL h' hf hk'=>?_);cases e with
  |normal=>exact hQ .normal s' a' w' E' cL h' (by simpa [gh]using hf) hk'
  |ret=>exact hQ .ret s' a' w' E' cL h' (by simpa [gh]using hf) hk'
  |exit i=>
   simp only[AX.to,Exit.inBlock];simp only at hk';by_cases e:i=id
   ·have:(i==id)=η:=by simpa using e
    rw[this]at hk';rw[aO e];exact hQ .normal s' a' w' E' cL h' (by simpa [gh]using hf) hk'
   ·have:(i==id)=ι:=by simpa using e
    rw[this]at hk';rw[aL e];exact hQ (.exit i) s' a' w' E' cL h' (by simpa [gh]using hf) hk'
 |.loop c,R,cH,s,a,w,E,pb,k,r,Q,hk,h,hQ=>by
  cases cH<;>simp only[exec,force_eq]at hk<;>first|(cases hk;done)|skip
  case lc live xs aa=>
   cases hl:(live.all λd=>(gh c++X.L).contains d)
   ·rw[hl]at hk;cases hk
   ·rw[hl]at hk;simp only[Xk,bK]at hk;obtain⟨n,hn⟩:=ano hk;refine afe (λn a w=>∃vs σ E pb,A.zR (λvs σ K=>exec X aa c (s.meet (gh c++X.L) live vs σ) λe s'=>K (e,vals s'.sl live,s'.σ)) n vs σ (λr=>A.sel r.1 (λe=>k e (s.meet (gh c++X.L) live r.2.1 r.2.2)) xs)=δ r/\St X z (s.meet (gh c++X.L) live vs σ) a w E pb) ?_ (n:=n) ⟨_,_,E,pb,hn,h.meet rfl (λi _=>rfl)⟩;rintro n a w ⟨vs,σ,E,pb,hit,hst⟩;cases n with
    |zero=>cases hit
    |succ n=>
     simp only[A.zR]at hit;refine AW hs c aa _ a w E pb _ _ _ hit hst λe s' a' w' E' cL h' hf hk'=>?_
     have hfr:∀i,i∉gh c++X.L->s'.sl[i]? =s.sl[i]? :=λi hi=>by rw[Iz (c:=c) hf i hi];exact Iz (c:=c) (DH (X:=X) (s:=s) (vs:=vs) (σ:=σ) hl) i hi
     have Aj:=h'.meet (s:=s) (mods:=gh c++X.L) (live:=live) (by rw[h.tP,h'.tP]) hfr;cases e with
     |normal=>exact⟨n,Nat.lt_succ_self n,_,_,E',cL,hk',Aj⟩
     |exit i=>exact hQ (.exit i) _ a' w' E' cL Aj (by simpa [gh]using DH (X:=X) hl) (PE hk')
     |ret=>exact hQ .ret _ a' w' E' cL Aj (by simpa [gh]using DH (X:=X) hl) (PE hk')
  rename_i live xs aa;cases hl:(live.all λd=>(gh c++X.L).contains d)
  ·rw[hl]at hk;cases hk
  ·rw[hl]at hk;simp only[Xk,bK]at hk;obtain⟨⟨e0,ES,aH⟩,h1,h2⟩:=bX.1 hk;have hsel:=PE h2;obtain⟨n,hn⟩:=aoY h1;refine afe (λn a w=>∃vs σ E pb,U1 (λvs σ=>exec X aa c (s.meet (gh c++X.L) live vs σ) (leave live)) n vs σ=δ (e0,ES,aH)/\St X z (s.meet (gh c++X.L) live vs σ) a w E pb) ?_ (n:=n) ⟨_,_,E,pb,hn,h.meet rfl (λi _=>rfl)⟩;rintro n a w ⟨vs,σ,E,pb,hit,hst⟩;cases n with
   |zero=>cases hit
   |succ n=>
    simp only[U1]at hit;obtain⟨⟨e1,vs1,σ1⟩,g1,g2⟩:=bX.1 hit;refine AW hs c aa _ a w E pb _ _ _ g1 hst λe s' a' w' E' cL h' hf hk'=>?_
    simp only[leave,Δ,j0]at hk';obtain⟨rfl,rfl,rfl⟩:=hk'
    have hfr:∀i,i∉gh c++X.L->s'.sl[i]? =s.sl[i]? :=λi hi=>by rw[Iz (c:=c) hf i hi];exact Iz (c:=c) (DH (X:=X) (s:=s) (vs:=vs) (σ:=σ) hl) i hi
    have Aj:=h'.meet (s:=s) (mods:=gh c++X.L) (live:=live) (by rw[h.tP,h'.tP]) hfr;cases e with
    |normal=>exact⟨n,Nat.lt_succ_self n,_,_,E',cL,g2,Aj⟩
    |exit i=>simp only[Δ,j0]at g2;obtain⟨rfl,rfl,rfl⟩:=g2;exact hQ (.exit i) _ a' w' E' cL Aj (by simpa [gh]using DH (X:=X) hl) hsel
    |ret=>simp only[Δ,j0]at g2;obtain⟨rfl,rfl,rfl⟩:=g2;exact hQ .ret _ a' w' E' cL Aj (by simpa [gh]using DH (X:=X) hl) hsel
 |.rangeFunc ..,R,cH,s,a,w,E,pb,k,r,Q,hk,h,hQ=>by cases cH<;>simp [exec]at hk
 |.scope _,R,cH,s,a,w,E,pb,k,r,Q,hk,h,hQ=>by cases cH<;>simp [exec]at hk
 |.goto _,R,cH,s,a,w,E,pb,k,r,Q,hk,h,hQ=>by cases cH<;>simp [exec]at hk
 |.refuse _,R,cH,s,a,w,E,pb,k,r,Q,hk,h,hQ=>by cases cH<;>simp [exec]at hk
end
end
section
open Go.RowKit
section
variable {X : Fx} {z : Z} {s : AS} {a : Act} {w w' : World} {E : List Pl} {pb : Nat -> Option Nat}
def CC(tmps:Array Value):ResultVar->Sem Value
 |.tmp t=>pure (tmps.getD t undef)
 |.cell a t=>do loadVar t (<-asAddr (tmps.getD a undef))
theorem Vt(h:St X z s a w E pb){R:Type}:∀(rs:List ResultVar)(k:List AV->Option R)(r:R),CB X s rs k=δ r->∃vs nB,(rs.mapM (CC a.tmps)).run X.P w=.ok vs w/\aR (ctx z w E pb) nB vs/\k nB=δ r
 |[],k,r,hk=>⟨[],[],by simp,by simp [aR],hk⟩
 |.tmp t::rs,k,r,hk=>by simp only[CB]at hk;obtain⟨vs,nB,h1,h2,h3⟩:=Vt h rs _ r hk;refine⟨a.tmps.getD t undef::vs,ev X s (.tmp t)::nB,?_,by simp only[aR];exact⟨_,_,rfl,gf h (.tmp t),h2⟩,h3⟩;simp only[List.mapM_cons,u9,CC,Vf,ir,h1]
 |.cell q t::rs,k,r,hk=>by
  simp only[CB]at hk
  have fin:∀(v:Value)(av:AV),(CC a.tmps (.cell q t)).run X.P w=.ok v w->aq (ctx z w E pb) av v->CB X s rs (λvs=>k (av::vs))=δ r->∃vs nB,((ResultVar.cell q t::rs).mapM (CC a.tmps)).run X.P w=.ok vs w/\aR (ctx z w E pb) nB vs/\k nB=δ r:=by intro v av hv hr hk;obtain⟨vs,nB,h1,h2,h3⟩:=Vt h rs _ r hk;refine⟨v::vs,av::nB,?_,by simp only[aR];exact⟨_,_,rfl,hr,h2⟩,h3⟩;simp only[List.mapM_cons,u9,hv,Vf,ir,h1]
  split at hk
  ·rename_i b off hp;obtain⟨av,e1,e2⟩:=bX.1 hk;obtain⟨cs,e3,e4⟩:=bX.1 e1;obtain⟨n,k1,k2,k3,k4⟩:=Ik h (tag:=ξ) trivial hp e3;obtain⟨v,j1,j2⟩:=O1 (c:=ctx z w E pb) w X rfl k3.2 e4;rw[WW]at j1;simp only[Act.eval]at k2;exact fin v av (by simp [CC,k2,asAddr,j1]) j2 e2
  ·obtain⟨av,e1,e2⟩:=bX.1 hk;obtain⟨cs,e3,e4⟩:=bX.1 e1;obtain⟨b,off,k2,k3⟩:=acY h.heap e3 (gf h (.tmp q));obtain⟨v,j1,j2⟩:=O1 (c:=ctx z w E pb) w X rfl k3 e4;rw[Nat.add_zero]at j1;simp only[Act.eval]at k2;exact fin v av (by simp [CC,k2,asAddr,j1]) j2 e2
theorem amy{P:Program}{fn:Func}{tmps:Array Value}{vs:List Value}(h:(fn.results.toList.mapM (CC tmps)).run P w=.ok vs w):∃v,(results fn tmps).run P w=.ok v w/\∀(c:RC)(nB:List AV),aR c nB vs->aq c (one nB) v:=by
 have e:results fn tmps=(do let vs <-fn.results.mapM (CC tmps);pure (if h:vs.size=1 then vs[0]else .tuple vs)):=by unfold results;congr 1
 have hm:(fn.results.mapM (CC tmps)).run P w=.ok vs.toArray w:=by rw[Array.mapM_eq_mapM_toList,Sem.run_map,h];rfl
 have hrun:(results fn tmps).run P w=.ok (if h:vs.toArray.size=1 then vs.toArray[0]else .tuple vs.toArray) w:=by rw[e,u9,hm];rfl
 refine⟨_,hrun,λc nB r=>?_⟩
 match nB,vs,r with
 |[x],[v],r=>simp only[aR]at r;obtain⟨v',_,e',r1,rfl⟩:=r;injection e' with e1 _;subst e1;simpa [one]using r1
 |[],[],r=>simp only[one,aq];exact⟨#[],by simp,by simp [aR]⟩
 |x::y::xs,v::u::us,r=>simp only[one,aq];exact⟨(v::u::us).toArray,by simp,by simpa using r⟩
 |[_],_::_::_,r=>exact absurd r.length (by simp)
 |_::_::_,[_],r=>exact absurd r.length (by simp)
 |[],_::_,r=>exact absurd r.length (by simp)
 |_::_,[],r=>exact absurd r.length (by simp)
end
section
variable {c c' : RC} {σ : Heap} {n : Nat}
structure zW (c c' : RC) (σ : Heap) (n : Nat) : Prop where
 w:c'.w=c.w
 nm:c'.nm=c.nm
 X:∀b,c'.X b->c.X b
 E:∀(id:Nat)(p:Pl),id<n->c.E[id]? =δ p->c'.E[id]? =δ p
 heap:jA c σ
 QW:∀(id:Nat)(p:Pl),n<=id->c.E[id]? =δ p->¬c'.X p.b
theorem Vk(d:Nat):∀(l l':List AV),UC σ n d l=δ l'->l'.length=l.length
 |[],l',e=>by simp only[UC]at e;injection e with e;subst e;rfl
 |x::l,l',e=>by simp only[UC]at e;obtain⟨y,h1,h2⟩:=bX.1 e;obtain⟨l2,h3,rfl⟩:=eP.1 h2;simp [Vk d l l2 h3]
theorem KN(d:Nat):∀(l l':List (List AV)),A.ku σ n d l=δ l'->l'.length=l.length
 |[],l',e=>by simp only[A.ku]at e;injection e with e;subst e;rfl
 |x::l,l',e=>by simp only[A.ku]at e;obtain⟨y,h1,h2⟩:=bX.1 e;obtain⟨l2,h3,rfl⟩:=eP.1 h2;simp [KN d l l2 h3]
theorem Ft(d:Nat):∀(l:List (List AV)),A.Lo σ n d l=A.ku σ n d l
 |[]=>by simp [A.ku,A.Lo]
 |x::l=>by simp [A.ku,A.Lo,Ft d l]
def FN:AV->Bool
 |.os ..=>η
 |.op ..=>η
 |.oe ..=>η
 |.om ..=>η
 |_=>ι
theorem Fw(d:Nat):∀(l:List AV),A.wZ σ n d l=UC σ n d l
 |[]=>by simp [UC,A.wZ]
 |x::l=>by simp [UC,A.wZ,Fw d l]
theorem ae5(d:Nat):∀(l:List (AV×AV)),A.DZ σ n d l=A.sw σ n d l
 |[]=>by simp [A.sw,A.DZ]
 |(k,v)::l=>by simp [A.sw,A.DZ,ae5 d l]
theorem arR(d:Nat)(m:Int)(s:ByteArray):Wr σ n d (.agg [.int θ m,.str s])=δ (.agg [.int θ m,.str s]):=by cases d<;>simp [Wr,UC]
theorem ada{d:Nat}:∀{es es':List (AV×AV)},(∀p∈es,∃m s,p.1=.agg [.int θ m,.str s])->A.sw σ n d es=δ es'->es'.map (·.1)=es.map (·.1)
 |[],es',_,h=>by simp only[A.sw]at h;injection h with h;subst h;rfl
 |(k,v)::r,es',hk,h=>by simp only[A.sw]at h;obtain⟨m,s,e⟩:=hk (k,v) XJ;simp only at e;subst e;rw[arR]at h;simp only[aP]at h;obtain⟨v',h1,h2⟩:=bX.1 h;obtain⟨r',h3,rfl⟩:=eP.1 h2;simp only[eo,ada (λp hp=>hk p (rA _ hp)) h3]
theorem aoF{d:Nat}{es es':List (AV×AV)}(hd:IU es)(h:A.sw σ n d es=δ es'):IU es':=by
 have e:=ada hd.1 h;refine⟨λp hp=>?_,by rw[e];exact hd.2⟩;have:p.1∈es.map (·.1):=by rw[<-e];exact Vb hp
 obtain⟨q,hq,e2⟩:=fL.1 this;rw[<-e2];exact hd.1 q hq
mutual
theorem IA(h:zW c c' σ n)(d:Nat)(hos:∀av eu v,FN av=η->Wr σ n d av=δ eu->aq c av v->aq c' eu v):∀(av eu:AV)(v:Value),Wr σ n d av=δ eu->aq c av v->aq c' eu v
 |.undef,eu,v,e,r=>by cases d<;>simp [Wr]at e
 |.int k m,eu,v,e,r=>by
  have:eu=.int k m:=by cases d<;>simpa [Wr]using e.symm
  subst this;simpa [aq]using r
 |.bool b,eu,v,e,r=>by
  have:eu=.bool b:=by cases d<;>simpa [Wr]using e.symm
  subst this;simpa [aq]using r
 |.str s,eu,v,e,r=>by
  have:eu=.str s:=by cases d<;>simpa [Wr]using e.symm
  subst this;simpa [aq]using r
 |.aA,eu,v,e,r=>by
  have:eu=.aA:=by cases d<;>simpa [Wr]using e.symm
  subst this;simpa [aq]using r
 |.ez,eu,v,e,r=>by
  have:eu=.ez:=by cases d<;>simpa [Wr]using e.symm
  subst this;simpa [aq]using r
 |.np,eu,v,e,r=>by
  have:eu=.np:=by cases d<;>simpa [Wr]using e.symm
  subst this;simpa [aq]using r
 |.nm,eu,v,e,r=>by
  have:eu=.nm:=by cases d<;>simpa [Wr]using e.symm
  subst this;simpa [aq]using r
 |.ze,eu,v,e,r=>by
  have:eu=.ze:=by cases d<;>simpa [Wr]using e.symm
  subst this;simpa [aq]using r
 |.agg cs,eu,v,e,r=>by
  have e':(UC σ n d cs).map .agg=δ eu:=by cases d<;>simpa [Wr]using e
  obtain⟨cs',h1,rfl⟩:=eP.1 e';simp only[aq]at r ⊢;obtain⟨vs,e,r1,r2⟩:=r;exact⟨vs,e,Io h d hos cs cs' _ h1 r1,r2⟩
 |.aM cs,eu,v,e,r=>by
  have e':(UC σ n d cs).map .aM=δ eu:=by cases d<;>simpa [Wr]using e
  obtain⟨cs',h1,rfl⟩:=eP.1 e';simp only[aq]at r ⊢;obtain⟨vs,e,r1⟩:=r;exact⟨vs,e,Io h d hos cs cs' _ h1 r1⟩
 |.sl sz es,eu,v,e,r=>by
  have e':(A.ku σ n d es).map (.sl sz)=δ eu:=by cases d<;>simpa [Wr]using e
  obtain⟨es',h1,rfl⟩:=eP.1 e';simp only[aq]at r ⊢;obtain⟨q,cap,e,k1,k2,r⟩:=r;have hl:es'.length=es.length:=KN d es es' h1;refine⟨q,cap,by rw[hl];exact e,by rw[hl];exact k1,k2,?_⟩;rcases r with r|⟨b,off,e2,hb,hx,r⟩
  ·left;subst r;simpa using hl
  ·right;exact⟨b,off,e2,by rw[h.w];exact hb,λk=>hx (h.X b k),KR h d hos sz b es es' off h1 r⟩
 |.rp cs,eu,v,e,r=>by
  have e':(UC σ n d cs).map .rp=δ eu:=by cases d<;>simpa [Wr]using e
  obtain⟨cs',h1,rfl⟩:=eP.1 e';simp only[aq]at r ⊢;obtain⟨b,off,e2,hb,hx,r⟩:=r;exact⟨b,off,e2,by rw[h.w];exact hb,λk=>hx (h.X b k),Im h d hos b cs cs' off h1 r⟩
 |.fm es,eu,v,e,r=>by
  have e':(A.sw σ n d es).map .fm=δ eu:=by cases d<;>simpa [Wr]using e
  obtain⟨es',h1,rfl⟩:=eP.1 e';simp only[aq]at r ⊢;obtain⟨b,e2,hb,hx,bJ,aJ,k1,kw,l,k2,k3⟩:=r;exact⟨b,e2,by rw[h.w];exact hb,λk=>hx (h.X b k),bJ,aJ,by rw[h.w];exact k1,kw,l,PA h d hos es es' _ h1 k2,k3.imp_right λq=>⟨q.1,aoF q.2 h1⟩⟩
 |.op id off,eu,v,e,r=>hos _ eu v rfl e r
 |.oe id g i off,eu,v,e,r=>hos _ eu v rfl e r
 |.om id,eu,v,e,r=>hos _ eu v rfl e r
 |.fn f cs,eu,v,e,r=>by
  have e':(UC σ n d cs).map (.fn f)=δ eu:=by cases d<;>simpa [Wr]using e
  obtain⟨cs',h1,rfl⟩:=eP.1 e';simp only[aq]at r ⊢;obtain⟨g,vs,e,k,r1⟩:=r;exact⟨g,vs,e,by rw[h.nm];exact k,Io h d hos cs cs' _ h1 r1⟩
 |.lbx cs,eu,v,e,r=>by cases d<;>simp [Wr]at e
 |.os id g sz off len,eu,v,e,r=>hos _ eu v rfl e r
theorem Io(h:zW c c' σ n)(d:Nat)(hos:∀av eu v,FN av=η->Wr σ n d av=δ eu->aq c av v->aq c' eu v):∀(l l':List AV)(vs:List Value),UC σ n d l=δ l'->aR c l vs->aR c' l' vs
 |[],l',vs,e,r=>by simp only[UC]at e;injection e with e;subst e;simpa [aR]using r
 |x::l,l',vs,e,r=>by simp only[UC]at e;obtain⟨y,h1,h2⟩:=bX.1 e;obtain⟨l2,h3,rfl⟩:=eP.1 h2;simp only[aR]at r ⊢;obtain⟨v,vs',e,r1,r2⟩:=r;exact⟨v,vs',e,IA h d hos x y v h1 r1,Io h d hos l l2 vs' h3 r2⟩
theorem PA(h:zW c c' σ n)(d:Nat)(hos:∀av eu v,FN av=η->Wr σ n d av=δ eu->aq c av v->aq c' eu v):∀(l l':List (AV×AV))(es:List MapEntry),A.sw σ n d l=δ l'->dD c l es->dD c' l' es
 |[],l',es,e,r=>by simp only[A.sw]at e;injection e with e;subst e;simpa [dD]using r
 |(k,v)::l,l',es,e,r=>by simp only[A.sw]at e;obtain⟨k',h1,h2⟩:=bX.1 e;obtain⟨v',h3,h4⟩:=bX.1 h2;obtain⟨l2,h5,rfl⟩:=eP.1 h4;simp only[dD]at r ⊢;obtain⟨x,es',e,r1,r2,r3⟩:=r;exact⟨x,es',e,IA h d hos k k' _ h1 r1,IA h d hos v v' _ h3 r2,PA h d hos l l2 es' h5 r3⟩
theorem Im(h:zW c c' σ n)(d:Nat)(hos:∀av eu v,FN av=η->Wr σ n d av=δ eu->aq c av v->aq c' eu v)(b:Nat):∀(l l':List AV)(off:Nat),UC σ n d l=δ l'->bT c b off l->bT c' b off l'
 |[],l',off,e,r=>by simp only[UC]at e;injection e with e;subst e;simp [bT]
 |x::l,l',off,e,r=>by simp only[UC]at e;obtain⟨y,h1,h2⟩:=bX.1 e;obtain⟨l2,h3,rfl⟩:=eP.1 h2;simp only[bT]at r ⊢;obtain⟨⟨v,e1,e2,r1⟩,r2⟩:=r;exact⟨⟨v,by rw[h.w];exact e1,e2,IA h d hos x y v h1 r1⟩,Im h d hos b l l2 (off+1) h3 r2⟩
theorem KR(h:zW c c' σ n)(d:Nat)(hos:∀av eu v,FN av=η->Wr σ n d av=δ eu->aq c av v->aq c' eu v)(sz b:Nat):∀(l l':List (List AV))(off:Nat),A.ku σ n d l=δ l'->bY c sz b off l->bY c' sz b off l'
 |[],l',off,e,r=>by simp only[A.ku]at e;injection e with e;subst e;simp [bY]
 |x::l,l',off,e,r=>by simp only[A.ku]at e;obtain⟨y,h1,h2⟩:=bX.1 e;obtain⟨l2,h3,rfl⟩:=eP.1 h2;simp only[bY]at r ⊢;exact⟨by rw[Vk d x y h1];exact r.1,Im h d hos b x y off h1 r.2.1,KR h d hos sz b l l2 (off+sz) h3 r.2.2⟩
end
structure Am (c0 c c' : RC) : Prop where
 w:c'.w=c.w
 nm:c'.nm=c.nm
 X:∀b,c'.X b->c.X b
 E:∀(id:Nat)(p0 p:Pl),c0.E[id]? =δ p0->c.E[id]? =δ p->c'.E[id]? =δ p
mutual
theorem Iw{c0 c c':RC}(h:Am c0 c c'):∀(av:AV)(v0 v:Value),aq c0 av v0->aq c av v->aq c' av v
 |.undef,v0,v,r0,r=>by simp [aq]
 |.int k m,v0,v,r0,r=>by simpa [aq]using r
 |.bool b,v0,v,r0,r=>by simpa [aq]using r
 |.str s,v0,v,r0,r=>by simpa [aq]using r
 |.aA,v0,v,r0,r=>by simpa [aq]using r
 |.ez,v0,v,r0,r=>by simpa [aq]using r
 |.np,v0,v,r0,r=>by simpa [aq]using r
 |.nm,v0,v,r0,r=>by simpa [aq]using r
 |.fm es,v0,v,r0,r=>by simp only[aq]at r0 r ⊢;obtain⟨_,_,_,_,_,_,_,_,_,r0,_⟩:=r0;obtain⟨b,e,hb,hx,bJ,aJ,k1,kw,l,k2,k3⟩:=r;exact⟨b,e,by rw[h.w];exact hb,λk=>hx (h.X b k),bJ,aJ,by rw[h.w];exact k1,kw,l,Pv h es _ _ r0 k2,k3⟩
 |.ze,v0,v,r0,r=>by simpa [aq]using r
 |.agg cs,v0,v,r0,r=>by simp only[aq]at r0 r ⊢;obtain⟨ES,_,GY,_⟩:=r0;obtain⟨vs,e,r1,r2⟩:=r;exact⟨vs,e,Pu h cs _ _ GY r1,r2⟩
 |.aM cs,v0,v,r0,r=>by simp only[aq]at r0 r ⊢;obtain⟨ES,_,GY⟩:=r0;obtain⟨vs,e,r1⟩:=r;exact⟨vs,e,Pu h cs _ _ GY r1⟩
 |.sl sz es,v0,v,r0,r=>by
  simp only[aq]at r0 r ⊢;obtain⟨_,_,_,_,_,r0⟩:=r0;obtain⟨q,cap,e,k1,k2,r⟩:=r;refine⟨q,cap,e,k1,k2,?_⟩;rcases r with r|⟨b,off,e2,hb,hx,r⟩
  ·exact .inl r
  ·rcases r0 with r0|⟨b0,uI,_,_,_,r0⟩
   ·exact .inl r0
   ·exact .inr ⟨b,off,e2,by rw[h.w];exact hb,λk=>hx (h.X b k),Pt h sz b0 b es uI off r0 r⟩
 |.rp cs,v0,v,r0,r=>by simp only[aq]at r0 r ⊢;obtain⟨b0,uI,_,_,_,r0⟩:=r0;obtain⟨b,off,e2,hb,hx,r⟩:=r;exact⟨b,off,e2,by rw[h.w];exact hb,λk=>hx (h.X b k),KQ h b0 b cs uI off r0 r⟩
 |.op id off,v0,v,r0,r=>by simp only[aq]at r0 r ⊢;obtain⟨p0,e0,_⟩:=r0;obtain⟨p,e1,e2,e3⟩:=r;exact⟨p,h.E id p0 p e0 e1,e2,e3⟩
 |.oe id g i off,v0,v,r0,r=>by simp only[aq]at r0 r ⊢;obtain⟨_,p0,e0,_⟩:=r0;obtain⟨hg,p,e1,e2⟩:=r;exact⟨hg,p,h.E id p0 p e0 e1,e2⟩
 |.os id g sz off len,v0,v,r0,r=>by simp only[aq]at r0 r ⊢;obtain⟨_,p0,e0,_⟩:=r0;obtain⟨hg,p,e1,e2⟩:=r;exact⟨hg,p,h.E id p0 p e0 e1,e2⟩
 |.om id,v0,v,r0,r=>by simp only[aq]at r0 r ⊢;obtain⟨p0,e0,_⟩:=r0;obtain⟨p,e1,e2,e3⟩:=r;exact⟨p,h.E id p0 p e0 e1,e2,e3⟩
 |.fn f cs,v0,v,r0,r=>by simp only[aq]at r0 r ⊢;obtain⟨_,_,_,_,r0⟩:=r0;obtain⟨g,vs,e1,e2,r⟩:=r;exact⟨g,vs,e1,by rw[h.nm];exact e2,Pu h cs _ _ r0 r⟩
 |.lbx cs,v0,v,r0,r=>by simp [aq]at r
theorem Pu{c0 c c':RC}(h:Am c0 c c'):∀(l:List AV)(ES vs:List Value),aR c0 l ES->aR c l vs->aR c' l vs
 |[],ES,vs,r0,r=>by simpa [aR]using r
 |x::l,ES,vs,r0,r=>by simp only[aR]at r0 r ⊢;obtain⟨v0,us0,_,GY,ZL⟩:=r0;obtain⟨v,us,e,r1,r2⟩:=r;exact⟨v,us,e,Iw h x _ _ GY r1,Pu h l _ _ ZL r2⟩
theorem Pv{c0 c c':RC}(h:Am c0 c c'):∀(l:List (AV×AV))(kP es:List MapEntry),dD c0 l kP->dD c l es->dD c' l es
 |[],kP,es,r0,r=>by simpa [dD]using r
 |(k,v)::l,kP,es,r0,r=>by simp only[dD]at r0 r ⊢;obtain⟨e0,awy,_,k1,k2,k3⟩:=r0;obtain⟨e,es',e1,j1,j2,j3⟩:=r;exact⟨e,es',e1,Iw h k _ _ k1 j1,Iw h v _ _ k2 j2,Pv h l awy es' k3 j3⟩
theorem KQ{c0 c c':RC}(h:Am c0 c c')(b0 b:Nat):∀(l:List AV)(uI off:Nat),bT c0 b0 uI l->bT c b off l->bT c' b off l
 |[],uI,off,r0,r=>by simp [bT]
 |x::l,uI,off,r0,r=>by simp only[bT]at r0 r ⊢;obtain⟨⟨v0,_,_,GY⟩,ZL⟩:=r0;obtain⟨⟨v,e1,e2,r1⟩,r2⟩:=r;exact⟨⟨v,by rw[h.w];exact e1,e2,Iw h x _ _ GY r1⟩,KQ h b0 b l _ _ ZL r2⟩
theorem Pt{c0 c c':RC}(h:Am c0 c c')(sz b0 b:Nat):∀(l:List (List AV))(uI off:Nat),bY c0 sz b0 uI l->bY c sz b off l->bY c' sz b off l
 |[],uI,off,r0,r=>by simp [bY]
 |x::l,uI,off,r0,r=>by simp only[bY]at r0 r ⊢;exact⟨r.1,KQ h b0 b x _ _ r0.2.1 r.2.1,Pt h sz b0 b l _ _ r0.2.2 r.2.2⟩
end
theorem Pr{c0 c c':RC}(h:Am c0 c c'){p0 p:Pl}{x:aT}(k0:rT c0 p0 x)(k:rT c p x):rT c' p x:=by
 cases x with
 |box cs=>obtain⟨h1,⟨⟨arr,t,h2,h3⟩,h4⟩⟩:=k;exact⟨h1,⟨arr,t,by rw[h.w];exact h2,h3⟩,KQ h _ _ cs _ _ k0.2.2 h4⟩
 |arr g sz es=>obtain⟨h1,h2,h3,h4,⟨arr,t,h5,h6⟩,h7,h8,h9⟩:=k;obtain⟨_,_,_,_,_,_,k8,_⟩:=k0;exact⟨h1,h2,h3,h4,⟨arr,t,by rw[h.w];exact h5,h6⟩,h7,Pt h sz _ _ es _ _ k8 h8,λarr t fz e=>h9 arr t fz (by rw[<-h.w];exact e)⟩
 |vT g sz es=>obtain⟨h1,h2,h3,h4,⟨arr,t,h5,h6⟩,h7,h8,h9⟩:=k;obtain⟨_,_,_,_,_,_,k8,_⟩:=k0;exact⟨h1,h2,h3,h4,⟨arr,t,by rw[h.w];exact h5,h6⟩,h7,Pt h sz _ _ es _ _ k8 h8,λarr t fz e=>h9 arr t fz (by rw[<-h.w];exact e)⟩
 |map es=>obtain⟨h1,bJ,aJ,h2,hw,h3⟩:=k;obtain⟨_,_,_,_,_,k3⟩:=k0;exact⟨h1,bJ,aJ,by rw[h.w];exact h2,hw,Pv h es _ _ k3 h3⟩
 |it cur left=>
  obtain⟨h1,h2⟩:=k;obtain⟨_,k2⟩:=k0;refine⟨h1,?_⟩;rcases h2 with⟨h2,h2',since,seen,last,h3⟩|⟨m,seen,bJ,aJ,h3,h4,h5,h6,h7,h8,h9⟩
  ·exact .inl ⟨h2,h2',since,seen,last,by rw[h.w];exact h3⟩
  ·rcases k2 with⟨q1,q2,_⟩|⟨m0,ayP,ayJ,ayB,q3,q4,q5,q6,q7,q8,q9⟩
   ·refine .inr ⟨m,seen,bJ,aJ,by rw[h.w];exact h3,by rw[h.w];exact h4,λk=>h5 (h.X m k),by rw[h.w];exact h6,h7,by rw[q2]at h8 ⊢;exact h8,.inl q1⟩
   ·refine .inr ⟨m,seen,bJ,aJ,by rw[h.w];exact h3,by rw[h.w];exact h4,λk=>h5 (h.X m k),by rw[h.w];exact h6,h7,(by obtain⟨l0,q8,_⟩:=q8;obtain⟨l,h8,hp⟩:=h8;exact⟨l,Pv h left _ _ q8 h8,hp⟩),?_⟩;rcases h9 with h9|⟨kk,v,e,e1,e2,e3,e4,e5⟩
    ·exact .inl h9
    ·rcases q9 with q9|⟨kk',v',e',f1,f2,f3,f4,f5⟩
     ·exact .inl q9
     ·rw[e1]at f1;simp only[List.cons.injEq,j0,and_true]at f1;obtain⟨rfl,rfl⟩:=f1;exact .inr ⟨_,_,e,e1,e2,e3,Iw h _ _ _ f4 e4,Iw h _ _ _ f5 e5⟩
def awB:aT->Nat
 |.arr g _ _=>g
 |.vT g _ _=>g
 |_=>0
theorem aAS{c:RC}{p:Pl}{x:aT}(k:rT c p x):p.g=awB x:=by cases x<;>exact k.1
theorem aeX{c0 c c':RC}(h:Am c0 c c')(sz b:Nat):∀(l:List (List AV))(off:Nat),(∀y∈l,∃b0 o0,bT c0 b0 o0 y)->bY c sz b off l->bY c' sz b off l
 |[],off,h0,r=>by simp [bY]
 |x::l,off,h0,r=>by simp only[bY]at r ⊢;obtain⟨b0,o0,k⟩:=h0 x (by simp);exact⟨r.1,KQ h b0 b x _ _ k r.2.1,aeX h sz b l _ (λy hy=>h0 y (by simp [hy])) r.2.2⟩
theorem aeE{c:RC}:∀{args:List AV}{vs:List Value},aR c args vs->∀y∈A.rowsOf args,∃b0 o0,bT c b0 o0 y
 |[],_,_,y,hy=>by simp [A.rowsOf]at hy
 |a::args,vs,h,y,hy=>by
  simp only[aR]at h;obtain⟨v,vs',rfl,h1,h2⟩:=h;simp only[A.rowsOf,jJ]at hy;rcases hy with hy|hy
  ·cases a<;>simp only[List.not_mem_nil]at hy;rename_i sz es;simp only[aq]at h1;obtain⟨a,cap,rfl,_,_,h3⟩:=h1;rcases h3 with h3|⟨b,off,_,_,_,h4⟩
   ·rw[h3]at hy;cases hy
   ·obtain⟨i,hi⟩:=pK.1 hy;exact⟨_,_,(bY.nth h4 hi).2⟩
  ·exact aeE h2 y hy
theorem AY(h:zW c c' σ n):∀(d:Nat)(av eu:AV)(v:Value),Wr σ n d av=δ eu->aq c av v->aq c' eu v
 |0=>IA h 0 (λav eu v ho e r=>by cases av<;>first|(simp [Wr]at e;done)|(simp [FN]at ho;done))
 |d+1=>IA h (d+1) (λav eu v ho e r=>match av,ho,e,r with
  |.op id off,_,e,r=>by
   simp only[Wr]at e;simp only[aq]at r;obtain⟨p,h1,h2,rfl⟩:=r;split at e
   ·rename_i hlt;injection e with e;subst e
    simp only[aq];exact⟨p,h.E id p hlt h1,h2,rfl⟩
   ·rename_i hge;split at e
    ·rename_i cs hs;obtain⟨cs',e1,rfl⟩:=eP.1 e;rw[Fw]at e1;obtain⟨j1,⟨⟨arr,t,j2,j3⟩,j4⟩⟩:=h.heap.blk id p _ h1 hs;simp only[aq];refine⟨p.b,off,rfl,by rw[h.w];exact(lT.1 j2).1,h.QW id p (by omega) h1,?_⟩;have j5:=j4.drop off;rw[WW]at j5;exact Im h d (λav eu v _ e r=>AY h d _ _ _ e r) p.b _ cs' _ e1 j5
    ·cases e
  |.oe id g i off,_,e,r=>by
   simp only[Wr]at e;simp only[aq]at r;obtain⟨hg,p,h1,h2,a,rfl,h3⟩:=r;split at e
   ·rename_i hlt;injection e with e;subst e
    simp only[aq];exact⟨hg,p,h.E id p hlt h1,h2,a,rfl,h3⟩
   ·rename_i hge;split at e
    ·rename_i g' sz' es hs;split at e
     ·rename_i hc;subst hc;split at e
      ·rename_i el hel;obtain⟨cs',e1,rfl⟩:=eP.1 e;rw[Fw]at e1;obtain⟨j1,j2,j3,j4,⟨arr,bt,j5,j6⟩,j7,j8,j9⟩:=h.heap.blk id p _ h1 hs;have ha:=h3 j1.symm;subst ha;simp only[aq];refine⟨p.b,_,rfl,by rw[h.w];exact(lT.1 j5).1,h.QW id p (by omega) h1,?_⟩;rw[j3];have j9:=(j8.nth hel).2.drop off;exact Im h d (λav eu v _ e r=>AY h d _ _ _ e r) p.b _ cs' _ e1 j9
      ·cases e
     ·cases e
    ·cases e
  |.om id,_,e,r=>by
   simp only[Wr]at e;simp only[aq]at r;obtain⟨p,h1,h2,rfl⟩:=r;split at e
   ·rename_i hlt;injection e with e;subst e
    simp only[aq];exact⟨p,h.E id p hlt h1,h2,rfl⟩
   ·rename_i hge;split at e
    ·rename_i es hs;obtain⟨es',e1,rfl⟩:=eP.1 e;rw[ae5]at e1;obtain⟨j1,bJ,aJ,j2,jw,j3⟩:=h.heap.blk id p _ h1 hs;simp only[aq];exact⟨p.b,rfl,by rw[h.w];exact(lT.1 j2).1,h.QW id p (by omega) h1,bJ,aJ,by rw[h.w];exact j2,jw,_,PA h d (λav eu v _ e r=>AY h d _ _ _ e r) _ es' _ e1 j3,.inl rfl⟩
    ·cases e
  |.os id g sz off len,_,e,r=>by
   simp only[Wr]at e;simp only[aq]at r;obtain⟨hg,p,h1,h2,q,cap,rfl,h3,r⟩:=r;split at e
   ·rename_i hlt;injection e with e;subst e
    simp only[aq];exact⟨hg,p,h.E id p hlt h1,h2,q,cap,rfl,h3,r⟩
   ·rename_i hge;split at e
    ·rename_i g' sz' es hs;split at e
     ·rename_i hc;obtain⟨rfl,rfl,hle⟩:=hc;obtain⟨es',e1,rfl⟩:=eP.1 e;rw[Ft]at e1;obtain⟨j1,j2,j3,j4,⟨arr,bt,j5,j6⟩,j7,j8,j9⟩:=h.heap.blk id p _ h1 hs;obtain⟨k1,k2,k3⟩:=r j1.symm;have hl:=KN d _ _ e1;have pU:((es.drop off).take len).length=len:=by simp;omega
      simp only[aq];refine⟨δ q,cap,by rw[hl,pU],by rw[hl,pU];exact h3,j4,?_⟩;by_cases hz:len=0
      ·left;apply vQ;rw[hl,pU,hz]
      ·right
       have hq:q=⟨p.b,p.base+off*p.sz,ξ⟩:=by
        rcases k2 with k2|k2
        ·omega
        ·exact k2
       refine⟨p.b,p.base+off*p.sz,by rw[hq],by rw[h.w];exact(lT.1 j5).1,h.QW id p (by omega) h1,?_⟩;refine KR h d (λav eu v _ e r=>AY h d _ _ _ e r) sz p.b _ es' _ e1 ?_;rw[j3];exact(j8.drop off).take len
     ·cases e
    ·cases e)
end
section
variable {c c' : RC} {σ : Heap} {n : Nat}
theorem ape{es es':List (AV×AV)}(hp:es.Perm es'):∀{l:List MapEntry},dD c es l->∃l',dD c es' l'/\l'.Perm l:=by
 induction hp with
 |nil=>intro l h;exact⟨l,h,.refl _⟩
 |cons x _ ih=>intro l h;obtain⟨e,l1,rfl,h2,h3,h4⟩:=h;obtain⟨l',k1,k2⟩:=ih h4;exact⟨e::l',⟨_,_,rfl,h2,h3,k1⟩,k2.cons e⟩
 |swap x y l0=>intro l h;obtain⟨e,l1,rfl,h2,h3,e',l2,rfl,h4,h5,h6⟩:=h;exact⟨e'::e::l2,⟨_,_,rfl,h4,h5,_,_,rfl,h2,h3,h6⟩,.swap _ _ _⟩
 |trans _ _ ih1 ih2=>intro l h;obtain⟨l1,k1,k2⟩:=ih1 h;obtain⟨l2,k3,k4⟩:=ih2 k1;exact⟨l2,k3,k4.trans k2⟩
theorem UK(es:List (AV×AV)):(A.Bf es).Perm es:=ZR (p:=λl:List (AV×AV)=>l.Perm es) ⟨es,.refl _⟩
theorem acV{es es':List (AV×AV)}(h:es.Perm es'):A.Bf es=A.Bf es':=by
 have:(λl:List (AV×AV)=>l.Perm es)=λl=>l.Perm es':=funext λl=>propext ⟨λq=>q.trans h,λq=>q.trans h.symm⟩
 unfold A.Bf;congr 1
theorem aro{x:AV}{v:Value}(r:aq c x v):aq c (A.can x) v:=by
 cases x<;>try exact r
 case fm es=>
  unfold A.can;simp only;split
  ·rename_i hd;simp only[aq]at r ⊢;obtain⟨b,e,hb,hx,bJ,aJ,k1,kw,l,k2,k3⟩:=r;have hp:=UK es;obtain⟨l',j1,j2⟩:=ape hp.symm k2;refine⟨b,e,hb,hx,bJ,aJ,k1,kw,l',j1,.inr ⟨?_,?_⟩⟩
   ·rcases k3 with rfl|⟨k3,_⟩
    ·exact j2
    ·exact j2.trans k3
   ·exact⟨λp hp'=>hd.1 p (hp.mem_iff.1 hp'),(hp.map _).nodup_iff.2 hd.2⟩
  ·exact r
theorem UH{b:Nat}:∀{l:List AV}{off:Nat},bT c b off l->bT c b off (l.map A.can)
 |[],off,_=>by simp [bT]
 |x::l,off,r=>by simp only[eo,bT]at r ⊢;obtain⟨⟨v,h1,h2,h3⟩,h4⟩:=r;exact⟨⟨v,h1,h2,aro h3⟩,UH h4⟩
theorem UI{sz b:Nat}:∀{l:List (List AV)}{off:Nat},bY c sz b off l->bY c sz b off (l.map (·.map A.can))
 |[],off,_=>by simp [bY]
 |x::l,off,r=>by simp only[eo,bY,Z7]at r ⊢;exact⟨r.1,UH r.2.1,UI r.2.2⟩
theorem ap9(h:zW c c' σ n){p:Pl}{x x':aT}(e:A.Ei σ n x=δ x')(k:rT c p x):rT c' p x':=by
 have hos:∀av eu v,FN av=η->Wr σ n 8 av=δ eu->aq c av v->aq c' eu v:=λav eu v _ e r=>AY h 8 _ _ _ e r
 cases x with
 |box cs=>obtain⟨cs',e1,rfl⟩:=eP.1 e;obtain⟨h1,⟨⟨arr,t,h2,h3⟩,h4⟩⟩:=k;exact⟨h1,⟨arr,t,by rw[h.w];exact h2,by rw[Z7,Vk 8 _ _ e1];exact h3⟩,UH (Im h 8 hos _ _ _ _ e1 h4)⟩
 |arr g sz es=>obtain⟨es',e1,rfl⟩:=eP.1 e;obtain⟨h1,h2,h3,h4,⟨arr,t,h5,h6⟩,h7,h8,h9⟩:=k;exact⟨h1,h2,h3,h4,⟨arr,t,by rw[h.w];exact h5,h6⟩,by rw[Z7,KN 8 _ _ e1];exact h7,UI (KR h 8 hos _ _ _ _ _ e1 h8),λarr t fz e=>h9 arr t fz (by rw[<-h.w];exact e)⟩
 |vT g sz es=>obtain⟨es',e1,rfl⟩:=eP.1 e;obtain⟨h1,h2,h3,h4,⟨arr,t,h5,h6⟩,h7,h8,h9⟩:=k;exact⟨h1,h2,h3,h4,⟨arr,t,by rw[h.w];exact h5,h6⟩,by rw[Z7,KN 8 _ _ e1];exact h7,UI (KR h 8 hos _ _ _ _ _ e1 h8),λarr t fz e=>h9 arr t fz (by rw[<-h.w];exact e)⟩
 |map es=>obtain⟨es',e1,rfl⟩:=eP.1 e;obtain⟨h1,bJ,aJ,h2,hwf,h3⟩:=k;exact⟨h1,bJ,aJ,by rw[h.w];exact h2,hwf,PA h 8 hos _ _ _ e1 h3⟩
 |it cur left=>cases e
theorem ac7{n:Nat}:∀{R4 R5 τ:Heap},A.yC σ n R4 R5=δ τ->τ.length=R4.length/\R4.length<=R5.length/\∀(i:Nat)x,τ[i]? =δ x->∃b b',R4[i]? =δ b/\R5[i]? =δ b'/\((b'=b/\x=b)\/A.Ei σ n b'=δ x)
 |[],R5,τ,h=>by simp only[A.yC]at h;injection h with h;subst h;simp
 |_::_,[],τ,h=>by simp [A.yC]at h
 |b::r,b'::r',τ,h=>by
  simp only[A.yC]at h;obtain⟨y,h1,h2⟩:=bX.1 h;obtain⟨NJ,h3,rfl⟩:=eP.1 h2;obtain⟨k1,k2,k3⟩:=ac7 h3;refine⟨by simp [k1],by simp;omega,λi x hi=>?_⟩;cases i with
  |zero=>
   simp only[List.getElem?_cons_zero,Δ]at hi;subst hi;refine⟨b,b',rfl,rfl,?_⟩;split at h1
   ·rename_i e;injection h1 with h1
    exact .inl ⟨e,h1.symm⟩
   ·exact .inr h1
  |succ i=>exact k3 i x hi
end
section
variable {X : Fx}
def tO.Ok:tO->Prop
 |.N g=>∀c a v,aq c a v->aq c (g a) v
 |_=>True
theorem Fh(hs:eC X){f:FuncId}{fn:Func}{keep:tO}(hkeep:keep.Ok){cH:oM}{args:List AV}{σ σ':Heap}{r:AV}(hf:X.P.funcs[f]? =δ fn)(Qw:∀dR w,(callFunc f dR).run X.P w=.ok (.enter f dR) w)
  (hr:tT X keep cH fn args σ=δ (r,σ')):pG X.P X.nm f args σ r σ':=by
 refine .inl ⟨f,Qw,λz vs hnm hlt hh ha=>?_⟩;unfold tT at hr;cases hb:fn.body with
 |none=>rw[hb]at hr;cases hr
 |some c=>
  rw[hb]at hr;simp only at hr;cases hc:(Nat.ble args.length fn.ntmps&&X.n==fn.ntmps)
  ·rw[hc]at hr;cases hr
  ·rw[hc]at hr;simp only[Xk,bK]at hr;simp only[je,beq_iff_eq]at hc;obtain⟨hc1,ud⟩:=hc;have hle:args.length<=fn.ntmps:=Nat.le_of_ble_eq_true hc1;have JF:=ha.length;have ay2:args.length=vs.size:=by simpa using JF
   have hst:St X z ⟨args++Z5 (fn.ntmps-args.length) (.aM []),λ_=>ξ,σ⟩ {tmps:=vs++Wt (fn.ntmps-vs.size) undef,defers:=[]} z.w z.E dV:=by
    have ahd:∀i av,(args++Z5 (fn.ntmps-args.length) (.aM []))[i]? =δ av->aq (ctx z z.w z.E dV) av ((vs++Wt (fn.ntmps-vs.size) undef).getD i undef):=by
     intro i av hi;by_cases hlt':i<args.length
     ·rw[iG hlt']at hi;obtain⟨v,k1,k2⟩:=ha.nth hi
      have:(vs++Wt (fn.ntmps-vs.size) undef).getD i undef=v:=by rw[ql,Array.getElem?_append_left (by omega),<-Ta,k1];rfl
      rw[this];exact k2
     ·rw[iz (by omega)]at hi;have hm:=cE hi;rw[Ti]at hm;rw[hm.2]
      have:(vs++Wt (fn.ntmps-vs.size) undef).getD i undef=undef:=by rw[ql,Array.getElem?_append_right (by omega),Array.getElem?_replicate];split<;>rfl
      rw[this];simp only[aq];exact⟨#[],rfl,by simp [aR]⟩
    refine⟨by simp;omega,by simp;omega,λi av hi=>Slot.of (ahd i av hi),λi cs hi=>?_,(λt p hp=>by cases hp),(λi b hb=>by cases hb),(λi j b hb=>by cases hb),hh,rfl,?_,hnm.symm⟩
    ·have:=ahd i _ hi;simp [aq]at this
    ·exact⟨rfl,rfl,rfl,bF _,λ_ _ _=>rfl,λi p hp=>.inr ⟨p,hp,rfl⟩,λi p hp=>⟨p,hp,.inl rfl⟩,hlt,λp hp=>hh.lt hp⟩
   refine calls_of_wp hf hb (AW hs c cH _ _ _ _ _ _ _ _ hr hst λe s' a' w' E' cL h' _ hk=>?_)
   have hno:Ext (ctx z w' E' cL) (ctx z w' E' dV):=Ext.same rfl rfl (λb k=>by
    rcases k with k|k|⟨i,k⟩
    ·exact .inl k
    ·exact .inr (.inl k)
    ·cases k) rfl
   have ahC:∀(x:AV)(v:Value)(r:AV)(σ':Heap),aq (ctx z w' E' cL) x v->l6 σ x s'.σ=δ (r,σ')->∃lu,Out z w' lu/\jA (ctx z w' lu dV) σ'/\aq (ctx z w' lu dV) r v:=by
     intro x v r σ' rv k3;unfold l6 at k3;split at k3
     ·rename_i he;simp only[Δ,j0]at k3;obtain⟨rfl,rfl⟩:=k3;exact⟨E',h'.out,by rw[<-he];exact h'.heap.mono hno rfl (λp hp=>rfl),Tu hno _ _ rv⟩
     ·split at k3
      ·rename_i he;obtain⟨r',k6,k7⟩:=eP.1 k3;simp only[j0]at k7;obtain⟨rfl,rfl⟩:=k7;have hlen:=h'.heap.len;simp only[ctx]at hlen;have hzl:z.E.length=σ.length:=hh.len
       have hle2:σ.length<=s'.σ.length:=by have:=congrArg VN he;simp at this;omega
       have uf:∀(id:Nat)(p:Pl),id<σ.length->E'[id]? =δ p->(E'.take σ.length)[id]? =δ p:=λid p hlt' hp=>by rw[Vh hlt'];exact hp
       have sy:∀(id:Nat)(p:Pl),(E'.take σ.length)[id]? =δ p->id<σ.length/\E'[id]? =δ p:=λid p hp=>by
        rw[aBQ]at hp;split at hp
        ·exact⟨by assumption,hp⟩
        ·cases hp
       have vL:zW (ctx z w' E' cL) (ctx z w' (E'.take σ.length) dV) s'.σ σ.length:=by
        refine⟨rfl,rfl,λb k=>?_,uf,h'.heap,λid p hge hp k=>?_⟩
        ·rcases k with k|⟨p,hp,k⟩|⟨i,k⟩
         ·exact .inl k
         ·exact .inr (.inl ⟨p,xq hp,k⟩)
         ·cases k
        ·rcases k with k|⟨q,hq,k⟩|⟨i,k⟩
         ·have hb:=hlt _ k;rcases h'.out.fresh' id p hp with e|⟨q,hq,_⟩
          ·omega
          ·rw[qm (by omega)]at hq;cases hq
         ·obtain⟨j,hj,rfl⟩:=X4.1 hq;obtain⟨h1,h2⟩:=sy j _ (bU hj);have:=h'.heap.inj j id _ p h2 hp k;omega
         ·cases k
       have heq:∀(id:Nat),id<σ.length->σ[id]? =s'.σ[id]? :=λid hlt'=>by have h1:(List.take σ.length s'.σ)[id]? =s'.σ[id]? :=Vh hlt';rw[he]at h1;exact h1
       have held:Am (ctx z z.w z.E dV) (ctx z w' E' cL) (ctx z w' (E'.take σ.length) dV):=
        ⟨rfl,rfl,vL.X,λid p0 p e0 e1=>uf id p (by have:=(bD.1 e0).1;simp only[ctx]at this;omega) e1⟩
       refine⟨E'.take σ.length,?_,?_,AY vL 8 _ _ _ k6 rv⟩
       ·have o:=h'.out
        exact⟨o.os,o.tape,o.output,o.size,o.stay,λi p hp=>o.fresh' i p (sy i p hp).2,λi p hp=>by
         obtain⟨p',m1,m2⟩:=o.env i p hp
         exact⟨p',uf i p' (by have:=(bD.1 hp).1;omega) m1,m2⟩,o.lt,o.mine⟩
       ·refine⟨by simp only[ctx,oH];omega,λi j p q hp hq e=>h'.heap.inj i j p q (sy i p hp).2 (sy j q hq).2 e,λi p x hp hx=>?_⟩;obtain⟨hi,hp2⟩:=sy i p hp;have fV:z.E[i]? =δ z.E[i]:=bU (by omega);exact Pr held (hh.blk i _ x fV hx) (h'.heap.blk i p x hp2 (by rw[<-heq i hi];exact hx))
      ·cases k3
   have Cs:∀(x:AV)(v:Value)(r:AV)(σ':Heap),aq (ctx z w' E' cL) x v->A.Cs σ x s'.σ=δ (r,σ')->∃lu,Out z w' lu/\jA (ctx z w' lu dV) σ'/\aq (ctx z w' lu dV) r v:=by
     intro x v r σ' rv k3;unfold A.Cs at k3;obtain⟨τ,q0,k4⟩:=bX.1 k3;obtain⟨r',k6,k7⟩:=eP.1 k4;simp only[j0]at k7;obtain⟨rfl,rfl⟩:=k7;obtain⟨q1,hle2,q3⟩:=ac7 q0;have hlen:=h'.heap.len;simp only[ctx]at hlen;have hzl:z.E.length=σ.length:=hh.len;have uf:∀(id:Nat)(p:Pl),id<σ.length->E'[id]? =δ p->(E'.take σ.length)[id]? =δ p:=λid p hlt' hp=>by rw[Vh hlt'];exact hp
     have sy:∀(id:Nat)(p:Pl),(E'.take σ.length)[id]? =δ p->id<σ.length/\E'[id]? =δ p:=λid p hp=>by
      rw[aBQ]at hp;split at hp
      ·exact⟨by assumption,hp⟩
      ·cases hp
     have vL:zW (ctx z w' E' cL) (ctx z w' (E'.take σ.length) dV) s'.σ σ.length:=by
      refine⟨rfl,rfl,λb k=>?_,uf,h'.heap,λid p hge hp k=>?_⟩
      ·rcases k with k|⟨p,hp,k⟩|⟨i,k⟩
       ·exact .inl k
       ·exact .inr (.inl ⟨p,xq hp,k⟩)
       ·cases k
      ·rcases k with k|⟨q,hq,k⟩|⟨i,k⟩
       ·have hb:=hlt _ k;rcases h'.out.fresh' id p hp with e|⟨q,hq,_⟩
        ·omega
        ·rw[qm (by omega)]at hq;cases hq
       ·obtain⟨j,hj,rfl⟩:=X4.1 hq;obtain⟨h1,h2⟩:=sy j _ (bU hj);have:=h'.heap.inj j id _ p h2 hp k;omega
       ·cases k
     have held:Am (ctx z z.w z.E dV) (ctx z w' E' cL) (ctx z w' (E'.take σ.length) dV):=
      ⟨rfl,rfl,vL.X,λid p0 p e0 e1=>uf id p (by have:=(bD.1 e0).1;simp only[ctx]at this;omega) e1⟩
     refine⟨E'.take σ.length,?_,?_,AY vL 8 _ _ _ k6 rv⟩
     ·have o:=h'.out
      exact⟨o.os,o.tape,o.output,o.size,o.stay,λi p hp=>o.fresh' i p (sy i p hp).2,λi p hp=>by
       obtain⟨p',m1,m2⟩:=o.env i p hp
       exact⟨p',uf i p' (by have:=(bD.1 hp).1;omega) m1,m2⟩,o.lt,o.mine⟩
     ·refine⟨by simp only[ctx,oH];omega,λi j p q hp hq e=>h'.heap.inj i j p q (sy i p hp).2 (sy j q hq).2 e,λi p x hp hx=>?_⟩;obtain⟨hi,hp2⟩:=sy i p hp;obtain⟨b,b',m1,m2,m3⟩:=q3 i x hx;rcases m3 with⟨rfl,rfl⟩|m3
      ·have fV:z.E[i]? =δ z.E[i]:=bU (by omega);exact Pr held (hh.blk i _ x fV m1) (h'.heap.blk i p x hp2 m2)
      ·exact ap9 vL m3 (h'.heap.blk i p b' hp2 m2)
   have done:∀(hk:CB X s' fn.results.toList (λvs=>keep.run args σ (one vs) s'.σ)=δ (r,σ')),
     a'.defers=[]/\∃v,(results fn a'.tmps).run X.P w'=.ok v w'/\∃v' E',Ending.returned v=.returned v'/\Out z w' E'/\jA (ctx z w' E' dV) σ'/\aq (ctx z w' E' dV) r v':=by
    intro hk;refine⟨h'.defers,?_⟩;obtain⟨us,nB,k1,k2,k3⟩:=Vt h' _ _ _ hk;obtain⟨v,k4,k5⟩:=amy k1;have rv:=k5 _ _ k2;refine⟨v,k4,v,?_⟩
    have kept:∃E',Ending.returned v=.returned v/\Out z w' E'/\jA (ctx z w' E' dV) s'.σ/\aq (ctx z w' E' dV) (one nB) v:=
     ⟨E',rfl,h'.out,h'.heap.mono hno rfl (λp hp=>rfl),Tu hno _ _ rv⟩
    cases keep with
    |K=>simp only[tO.run,Δ,j0]at k3;obtain⟨rfl,rfl⟩:=k3;exact kept
    |F=>obtain⟨lu,q1,q2,q3⟩:=ahC _ _ _ _ rv k3;exact⟨lu,rfl,q1,q2,q3⟩
    |G=>obtain⟨lu,q1,q2,q3⟩:=Cs _ _ _ _ rv k3;exact⟨lu,rfl,q1,q2,q3⟩
    |N g=>simp only[tO.run]at k3;obtain⟨⟨r0,aH⟩,k6,k7⟩:=eP.1 k3;simp only[j0]at k7;obtain⟨rfl,rfl⟩:=k7;obtain⟨lu,q1,q2,q3⟩:=ahC _ _ _ _ rv k6;exact⟨lu,rfl,q1,q2,hkeep _ _ _ q3⟩
    |R=>
     simp only[tO.run]at k3;obtain⟨x,hx⟩:∃x,x=one nB:=⟨_,rfl⟩
     rw[<-hx]at rv k3 kept;unfold A.renew at k3;split at k3
     ·rename_i id g sz off len;split at k3
      ·rename_i g' sz' es hs';split at k3
       ·rename_i hc;obtain⟨rfl,rfl,hle,ay9⟩:=hc;simp only[aq]at rv;obtain⟨hg,p,e1,e2,qa,cp,rfl,hcap,rx⟩:=rv;obtain⟨j1,j2,j3,j4,⟨arr,bt,j5,j6⟩,j7,j8,j9⟩:=h'.heap.blk id p _ e1 hs';obtain⟨q1,q2,q3⟩:=rx j1.symm;have hid:id<E'.length:=(bD.1 e1).1;have me:((es.drop off).take len).length=len:=by simp;omega
        have hmul:(off+len)*sz<=es.length*sz:=rz _ hle;rw[gu]at hmul;split at k3
        ·simp only[Δ,j0]at k3;obtain⟨rfl,rfl⟩:=k3
         have ng:=h'.move (id:=id) (p:=p) (p':=⟨p.b,p.base+off*sz,aBZ args+1,sz,p.tX⟩) (w':=w') (blk:=.arr (aBZ args+1) sz ((es.drop off).take len)) e1
          ⟨by omega,by show p.g<aBZ args+1;omega⟩ rfl rfl rfl (bF _) (λb _ _=>rfl) (.inl rfl) (λhx=>by
           refine⟨rfl,by show 0<aBZ args+1;omega,rfl,j4,⟨arr,bt,j5,j6⟩,?_,?_,j9⟩
           ·rw[me];show p.base+off*sz+len*sz<=p.tX;omega
           ·exact bY.mono hx sz p.b rfl _ _ ((j8.drop off).take len))
         have awZ:Ext (ctx z w' (E'.set id ⟨p.b,p.base+off*sz,aBZ args+1,sz,p.tX⟩) cL) (ctx z w' (E'.set id ⟨p.b,p.base+off*sz,aBZ args+1,sz,p.tX⟩) dV):=Ext.same rfl rfl (λb k=>by
          rcases k with k|k|⟨i,k⟩
          ·exact .inl k
          ·exact .inr (.inl k)
          ·cases k) rfl
         refine⟨_,rfl,ng.1.out,ng.1.heap.mono awZ rfl (λp hp=>rfl),?_⟩;simp only[aq];refine⟨by omega,⟨p.b,p.base+off*sz,aBZ args+1,sz,p.tX⟩,by simp [ctx,hid],bF _,qa,cp,rfl,hcap,λ_=>⟨rfl,?_,?_⟩⟩
         ·rcases q2 with q2|q2
          ·exact .inl q2
          ·exact .inr (by rw[q2,q1];simp)
         ·simp only[WW];rw[q1,gu]at q3;omega
        ·unfold A.merge at k3;split at k3
         ·rename_i lN g0 Ye uI XZ rest _ _ _;split at k3
          ·rename_i g1 Df Aw hs0;split at k3
           ·rename_i D0;obtain⟨ay7,ayL,rfl,hg1,hsame,hF,aw6⟩:=D0;simp only[Δ,j0]at k3;obtain⟨rfl,rfl⟩:=k3;have hzl:z.E.length=σ.length:=hh.len;have hEl:E'.length=s'.σ.length:=h'.heap.len;have awR:lN<σ.length:=(bD.1 hs0).1;obtain⟨pz,JK⟩:∃pz,z.E[lN]? =δ pz:=⟨_,bU (by omega)⟩
            obtain⟨y1,y2,y3,y4,y5,y6,y7,y8⟩:=hh.blk lN pz _ JK hs0;obtain⟨p'',Af⟩:∃p'':Pl,p''=⟨p.b,p.base+off*Df,aBZ (.os lN g0 Ye uI XZ::rest)+1,Df,p.tX⟩:=⟨_,rfl⟩
            have hne:id≠lN:=by omega
            have ag8:∀(j:Nat)(q p2:Pl),j≠lN->z.E[j]? =δ q->E'[j]? =δ p2->p2=q:=by
             intro j q p2 hj hq hp2;have hjl:j<σ.length:=by rw[<-hzl];exact(bD.1 hq).1
             obtain⟨p3,m1,m2⟩:=h'.out.env j q hq;rw[hp2]at m1;injection m1 with m1;subst m1
             rcases m2 with m2|⟨m2,m3⟩
             ·exact m2
             ·have hsj:=hsame j hjl hj;have hx0:σ[j]? =δ σ[j]:=bU hjl;have u1:=aAS (hh.blk j q _ hq hx0);have u2:=aAS (h'.heap.blk j p2 _ hp2 (by rw[hsj];exact hx0));omega
            have GO:∃p0,E'[lN]? =δ p0:=⟨_,bU (by omega)⟩
            obtain⟨p0,GO⟩:=GO;have aza:p0.g=g1:=aAS (h'.heap.blk lN p0 _ GO hF)
            have hfr:z.w.heap.size<=p.b:=by
             rcases h'.out.fresh' id p e1 with k|⟨q,hq,_⟩
             ·exact k
             ·rw[qm (by omega)]at hq;cases hq
            have hm:p∈E':=cE e1
            have hx:Ext (ctx z w' E' cL) (ctx z w' (E'.set lN p'') dV):=by
             refine⟨bF _,λb hb hn=>⟨rfl,?_⟩,λj q hq=>?_,rfl⟩
             ·rintro(k|⟨q,hq,k⟩|⟨i,k⟩)
              ·exact hn (.inl k)
              ·rcases List.mem_or_eq_of_mem_set hq with hq|hq
               ·exact hn (.inr (.inl ⟨q,hq,k⟩))
               ·exact hn (.inr (.inl ⟨p,hm,by rw[<-k,hq,Af]⟩))
              ·cases k
             ·by_cases e:lN=j
              ·subst e;simp only[ctx]at hq;rw[GO]at hq;injection hq with hq;subst hq
               exact⟨p'',by simp only[ctx];rw[oF (bD.1 GO).1],.inr ⟨by omega,by rw[Af];show p0.g<aBZ (.os lN g0 Ye uI XZ::rest)+1;omega⟩⟩
              ·exact⟨q,by simp only[ctx]at hq ⊢;rw[ZN e];exact hq,.inl rfl⟩
            have ML:∀(j:Nat)(q:Pl),(z.E.set lN p'')[j]? =δ q->(j=lN/\q=p'')\/(j≠lN/\z.E[j]? =δ q):=λj q hq=>by
             by_cases e:lN=j
             ·subst e;rw[oF (bD.1 JK).1]at hq;injection hq with hq;exact .inl ⟨rfl,hq.symm⟩
             ·rw[ZN e]at hq;exact .inr ⟨λe'=>e e'.symm,hq⟩
            have hE3:∀(j:Nat)(q:Pl),j≠lN->z.E[j]? =δ q->E'[j]? =δ q:=λj q hj hq=>by have hjl:j<z.E.length:=(bD.1 hq).1;obtain⟨p3,m1,_⟩:=h'.out.env j q hq;rw[m1,ag8 j q p3 hj hq m1]
            have held:Am (ctx z z.w z.E dV) (ctx z w' (E'.set lN p'') dV) (ctx z w' (z.E.set lN p'') dV):=by
             refine⟨rfl,rfl,λb k=>?_,λj q0 q Zl hq=>?_⟩
             ·rcases k with k|⟨q,hq,k⟩|⟨i,k⟩
              ·exact .inl k
              ·obtain⟨j,hj⟩:=pK.1 hq;rcases ML j q hj with⟨e3,e4⟩|⟨e3,e4⟩
               ·subst e3;exact .inr (.inl ⟨q,cE (i:=j) (by rw[oF (bD.1 GO).1,e4]),k⟩)
               ·exact .inr (.inl ⟨q,cE (i:=j) (by rw[ZN (λe=>e3 e.symm)];exact hE3 j q e3 e4),k⟩)
              ·cases k
             ·simp only[ctx]at Zl hq ⊢;by_cases e:lN=j
              ·subst e;rw[oF (bD.1 GO).1]at hq;rw[oF (bD.1 JK).1];exact hq
              ·rw[ZN e]at hq ⊢;rw[ag8 j q0 q (λe'=>e e'.symm) Zl hq];exact Zl
            refine⟨z.E.set lN p'',rfl,?_,?_,?_⟩
            ·have o:=h'.out;refine⟨o.os,o.tape,o.output,o.size,o.stay,λj q hq=>?_,λj q hq=>?_,o.lt,o.mine⟩
             ·rcases ML j q hq with⟨e3,e4⟩|⟨e3,e4⟩
              ·left;rw[e4,Af];exact hfr
              ·exact .inr ⟨q,e4,rfl⟩
             ·by_cases e:lN=j
              ·subst e;rw[JK]at hq;injection hq with hq;subst hq
               exact⟨p'',oF (bD.1 JK).1,.inr ⟨by omega,by rw[Af];show pz.g<aBZ (.os lN g0 Ye uI XZ::rest)+1;omega⟩⟩
              ·exact⟨q,by rw[ZN e];exact hq,.inl rfl⟩
            ·refine⟨by simp [ctx,hzl],λi j q r hq hr he=>?_,λi q x hq dB=>?_⟩
             ·have ahI:∀(j:Nat)(q:Pl),z.E[j]? =δ q->q.b<z.w.heap.size:=λj q hq=>hh.lt (p:=q) (cE hq)
              rcases ML i q hq with⟨e3,e4⟩|⟨e3,e4⟩<;>rcases ML j r hr with⟨e5,e6⟩|⟨e5,e6⟩
              ·rw[e3,e5]
              ·have:=ahI j r e6;rw[e4,Af]at he;simp only at he;omega
              ·have:=ahI i q e4;rw[e6,Af]at he;simp only at he;omega
              ·exact hh.inj i j q r e4 e6 he
             ·rcases ML i q hq with⟨e3,e4⟩|⟨e3,e4⟩
              ·subst e3;rw[oF awR]at dB;injection dB with dB
               subst dB;subst e4;subst Af;refine⟨rfl,Nat.succ_pos _,rfl,j4,⟨arr,bt,j5,j6⟩,?_,?_,j9⟩
               ·rw[me];show p.base+off*Df+len*Df<=p.tX;omega
               ·refine aeX held Df p.b _ _ (λy hy=>?_) (bY.mono hx Df p.b rfl _ _ ((j8.drop off).take len));rcases aw6 y hy with k|k
                ·obtain⟨i,hi⟩:=pK.1 k;exact⟨_,_,(bY.nth y7 hi).2⟩
                ·exact aeE ha y k
              ·rw[ZN (λe=>e3 e.symm)]at dB;have hil:i<σ.length:=(bD.1 dB).1;exact Pr held (hh.blk i q x e4 dB) ((h'.heap.blk i q x (hE3 i q e3 e4) (by rw[hsame i hil e3];exact dB)).mono hx rfl)
            ·simp only[aq];refine⟨Nat.succ_pos _,p'',by simp only[ctx];exact oF (bD.1 JK).1,by rw[Af];exact bF _,qa,cp,by rw[me],by rw[me];exact hcap,λ_=>⟨by rw[Af],?_,?_⟩⟩
             ·rcases q2 with q2|q2
              ·exact .inl q2
              ·exact .inr (by rw[q2,q1,Af];simp)
             ·rw[Af];simp only[WW];rw[q1,gu]at q3;omega
           ·cases k3
          ·cases k3
         ·cases k3
       ·cases k3
      ·cases k3
     ·simp only[Δ,j0]at k3;obtain⟨rfl,rfl⟩:=k3;exact kept
     ·simp only[Δ,j0]at k3;obtain⟨rfl,rfl⟩:=k3;exact kept
     ·simp only[Δ,j0]at k3;obtain⟨rfl,rfl⟩:=k3;exact kept
     ·cases k3
   cases e with
   |normal=>exact done hk
   |ret=>exact done hk
   |exit i=>cases hk
end
end
section
open Go.RowKit
inductive Sh where
 |k
 |s(sz:Nat)
 |e(sz:Nat)(l:List Sh)
 |a(l:List Sh)
 |t(l:List Sh)
 |p(l:List Sh)
namespace A
mutual
def nn:Sh->AV->AV
 |.k,v=>v
 |.s sz,v=>match v with|.aA=>.sl sz []|.ez=>.sl sz []|v=>v
 |.e sz l,v=>match v with|.aA=>.sl sz []|.ez=>.sl sz []|.sl sz' es=>.sl sz' (es.map (cU l))|v=>v
 |.a l,v=>match v with|.agg cs=>.agg (cU l cs)|v=>v
 |.t l,v=>match v with|.aM vs=>.aM (cU l vs)|v=>v
 |.p l,v=>match v with|.rp cs=>.rp (cU l cs)|v=>v
def cU:List Sh->List AV->List AV
 |[],vs=>vs
 |s::ss,vs=>match vs with|[]=>[]|v::vs=>nn s v::cU ss vs
end
def Q7:AV->Bool
 |.os ..=>η
 |.op ..=>η
 |.oe ..=>η
 |.om ..=>η
 |_=>ι
def own:AV->Bool
 |.agg cs=>cs.any Q7
 |v=>Q7 v
def yE:AV->Bool
 |.int ..=>η
 |.bool ..=>η
 |.str ..=>η
 |.np=>η
 |.aA=>η
 |.ez=>η
 |.nm=>η
 |.ze=>η
 |.sl _ []=>η
 |_=>ι
def xk:AV->Bool
 |.agg cs=>cs.all yE
 |v=>yE v
def Ey:AV->Bool
 |.aM vs=>vs.all xk
 |v=>xk v
def fresh(v:AV):Bool:=match v with
 |.os ..=>η
 |.om _=>η
 |v=>xk v
def B3:AV->Bool
 |.aM vs=>vs.all fresh
 |v=>fresh v
def Ln:aT->Bool
 |.box cs=>cs.all yE
 |.arr _ _ es=>es.all λe=>e.all yE
 |.map es=>es.all λp=>xk p.1&&xk p.2
 |_=>ι
def shift(n:Nat)(v:AV):AV:=match v with
 |.os id g sz off len=>.os (id+n) g sz off len
 |.om id=>.om (id+n)
 |v=>v
def A7(n:Nat):AV->AV
 |.aM vs=>.aM (vs.map (shift n))
 |v=>shift n v
def wrap (ro:Bool) (eX:List Sh) (fE:Sh) (r:List AV->Heap->Option (AV×Heap)) (args:List AV) (σ:Heap):Option (AV×Heap):=bif ro&&args.any own then (fD σ 0 8 args).bind λargs=>(r (cU eX args) []).bind λq=>bif B3 (nn fE q.1)&&q.2.all Ln then δ (A7 σ.length (nn fE q.1),σ++q.2)else ξ else(r (cU eX args) σ).map λq=>(nn fE q.1,q.2)
def oJ (sh:Sh) (m:List AV->Heap->Option (AV×Heap)) (args:List AV) (σ:Heap):Option (AV×Heap):=(m args σ).bind λp=>(fin σ p.1 p.2).map λq=>(nn sh q.1,q.2)
def wT (m:List AV->Heap->Option (AV×Heap)) (args:List AV) (σ:Heap):Option (AV×Heap):=match args with
 |[.sl _ []]=>δ (.ez,σ)
 |[.aA]=>δ (.ez,σ)
 |[.ez]=>δ (.ez,σ)
 |[.os _ _ _ _ 0]=>δ (.ez,σ)
 |_=>m args σ
end A
def Sound(P:Program)(nm:List Nat)(f:FuncId)(m:List AV->Heap->Option (AV×Heap)):Prop:=∀args σ r σ',m args σ=δ (r,σ')->pG P nm f args σ r σ'
section
variable {P : Program} {nm : List Nat} {f : FuncId} {c c' : RC}
theorem ago{v:Value}(sz:Nat)(hsz:0<sz)(h:aq c .aA v):aq c (.sl sz []) v:=by simp only[aq]at h ⊢;subst h;exact⟨ξ,0,rfl,bF _,hsz,.inl trivial⟩
theorem ag6{v:Value}(sz:Nat)(hsz:0<sz)(h:aq c .ez v):aq c (.sl sz []) v:=by simp only[aq]at h ⊢;obtain⟨a,rfl⟩:=h;exact⟨a,0,rfl,bF _,hsz,.inl trivial⟩
mutual
def Sh.ok:Sh->Bool
 |.k=>η
 |.s sz=>aBL 0 sz
 |.e sz l=>aBL 0 sz&&Sh.fI l
 |.a l=>Sh.fI l
 |.t l=>Sh.fI l
 |.p l=>Sh.fI l
def Sh.fI:List Sh->Bool
 |[]=>η
 |x::l=>x.ok&&Sh.fI l
end
theorem aff:∀(l:List Sh)(cs:List AV),(A.cU l cs).length=cs.length
 |[],cs=>by simp [A.cU]
 |_::_,[]=>by simp [A.cU]
 |o::l,v::cs=>by simp [A.cU,aff l cs]
mutual
theorem FJ:∀(s:Sh)(a:AV)(v:Value),s.ok=η->aq c a v->aq c (A.nn s a) v
 |.k,a,v,_,h=>by simpa [A.nn]using h
 |.s sz,a,v,ho,h=>by cases a<;>simp only[A.nn]<;>first|exact h|exact ago sz (by simpa [Sh.ok]using ho) h|exact ag6 sz (by simpa [Sh.ok]using ho) h
 |.e sz l,a,v,ho,h=>by
  simp only[Sh.ok,je]at ho;cases a<;>simp only[A.nn]<;>first|exact h|exact ago sz (by simpa using ho.1) h|exact ag6 sz (by simpa using ho.1) h|skip
  simp only[aq]at h ⊢;obtain⟨a,cap,e,h1,h2,h3⟩:=h;refine⟨a,cap,by rw[Z7];exact e,by rw[Z7];exact h1,h2,?_⟩;rcases h3 with h3|⟨b,off,e1,e2,e3,e4⟩
  ·left;rw[h3];rfl
  ·right;exact⟨b,off,e1,e2,e3,agn l ho.2 _ _ e4⟩
 |.a l,a,v,ho,h=>by
  simp only[Sh.ok]at ho;cases a<;>simp only[A.nn]<;>first|exact h|skip
  simp only[aq]at h ⊢;obtain⟨vs,e,h1,h2⟩:=h;exact⟨vs,e,Lf l _ _ ho h1,h2⟩
 |.t ss,a,v,ho,h=>by
  simp only[Sh.ok]at ho;cases a<;>simp only[A.nn]<;>first|exact h|skip
  simp only[aq]at h ⊢;obtain⟨vs,e,h1⟩:=h;exact⟨vs,e,Lf ss _ _ ho h1⟩
 |.p l,a,v,ho,h=>by
  simp only[Sh.ok]at ho;cases a<;>simp only[A.nn]<;>first|exact h|skip
  simp only[aq]at h ⊢;obtain⟨b,off,e,h1,h2,h3⟩:=h;exact⟨b,off,e,h1,h2,aAi l _ _ ho h3⟩
theorem Lf:∀(ss:List Sh)(l:List AV)(vs:List Value),Sh.fI ss=η->aR c l vs->aR c (A.cU ss l) vs
 |[],l,vs,_,h=>by simpa [A.cU]using h
 |_::_,[],vs,_,h=>by simpa [A.cU]using h
 |s::ss,a::l,vs,ho,h=>by simp only[Sh.fI,je]at ho;simp only[A.cU,aR]at h ⊢;obtain⟨v,vs',e,h1,h2⟩:=h;exact⟨v,vs',e,FJ s a v ho.1 h1,Lf ss l vs' ho.2 h2⟩
theorem aAi{b:Nat}:∀(l:List Sh)(cs:List AV)(off:Nat),Sh.fI l=η->bT c b off cs->bT c b off (A.cU l cs)
 |[],cs,off,_,h=>by simpa [A.cU]using h
 |_::_,[],off,_,h=>by simpa [A.cU]using h
 |o::l,a::cs,off,ho,h=>by simp only[Sh.fI,je]at ho;simp only[A.cU,bT]at h ⊢;obtain⟨⟨v,h1,h2,h3⟩,h4⟩:=h;exact⟨⟨v,h1,h2,FJ o a v ho.1 h3⟩,aAi l cs (off+1) ho.2 h4⟩
theorem agn{sz b:Nat}(l:List Sh)(hl:Sh.fI l=η):∀(es:List (List AV))(off:Nat),bY c sz b off es->bY c sz b off (es.map (A.cU l))
 |[],off,h=>by simp [bY]
 |e::es,off,h=>by simp only[eo,bY]at h ⊢;exact⟨by rw[aff];exact h.1,aAi l e off hl h.2.1,agn l hl es _ h.2.2⟩
end
theorem U3:∀{a:AV}{v:Value},A.yE a=η->aq c a v->aq c' a v:=by
 intro a v h r;cases a<;>simp only[A.yE]at h<;>first|(cases h;done)|skip
 case sl sz es=>
  cases es with
  |nil=>simp only[aq]at r ⊢;obtain⟨q,cap,e,h1,h2,_⟩:=r;exact⟨q,cap,e,h1,h2,.inl trivial⟩
  |cons _ _=>simp at h
 all_goals simpa [aq]using r
theorem acH:∀{l:List AV}{vs:List Value},l.all A.yE=η->aR c l vs->aR c' l vs
 |[],vs,_,r=>by simpa [aR]using r
 |a::l,vs,h,r=>by simp only[aCh,je]at h;simp only[aR]at r ⊢;obtain⟨v,vs',e,h1,h2⟩:=r;exact⟨v,vs',e,U3 h.1 h1,acH h.2 h2⟩
theorem azB{a:AV}{v:Value}(h:A.xk a=η)(r:aq c a v):aq c' a v:=by
 unfold A.xk at h;split at h
 ·simp only[aq]at r ⊢;obtain⟨vs,e,h1,h2⟩:=r;exact⟨vs,e,acH h h1,h2⟩
 ·exact U3 h r
theorem pG.conv{args args':List AV}{σ σ':Heap}{r r':AV}(h:pG P nm f args' σ r σ')(ha:∀c vs,aR c args vs->aR c args' vs)(hr:∀c v,aq c r v->aq c r' v):pG P nm f args σ r' σ':=by
 rcases h with⟨g,h1,h2⟩|h
 ·refine .inl ⟨g,h1,λz vs e1 e2 e3 e4=>(h2 z vs e1 e2 e3 (ha _ _ e4)).mono ?_⟩;rintro e w' ⟨v,E',k1,k2,k3,k4⟩;exact⟨v,E',k1,k2,k3,hr _ _ k4⟩
 ·refine .inr λz vs e1 e2 e3 e4=>?_
  obtain⟨v,w',E',k1,k2,k3,k4⟩:=h z vs e1 e2 e3 (ha _ _ e4);exact⟨v,w',E',k1,k2,k3,hr _ _ k4⟩
theorem adK{z0 z:Z}{w':World}{E':List Pl}{n:Nat}(hn:n=z.E.length){a:AV}{v:Value}(h:A.fresh a=η)(r:aq (ctx z0 w' E' dV) a v):aq (ctx z w' (z.E++E') dV) (A.shift n a) v:=by
 have key:∀(id:Nat)(p:Pl),E'[id]? =δ p->(z.E++E')[id+n]? =δ p:=λid p hp=>by rw[iz (by omega),hn,Nat.add_sub_cancel];exact hp
 unfold A.fresh at h;unfold A.shift;split at h
 ·simp only[aq]at r ⊢;obtain⟨hg,p,h1,h2,r⟩:=r;exact⟨hg,p,key _ _ h1,h2,r⟩
 ·simp only[aq]at r ⊢;obtain⟨p,h1,h2,r⟩:=r;exact⟨p,key _ _ h1,h2,r⟩
 ·exact azB h r
theorem amG{z0 z:Z}{w':World}{E':List Pl}{n:Nat}(hn:n=z.E.length){vs:List AV}{v:Value}(h:vs.all A.fresh=η)(r:aq (ctx z0 w' E' dV) (.aM vs) v):aq (ctx z w' (z.E++E') dV) (A.A7 n (.aM vs)) v:=by
 simp only[aq,A.A7]at r ⊢;obtain⟨us,rfl,r⟩:=r;refine⟨us,rfl,?_⟩;generalize us.toList=us' at r ⊢;induction vs generalizing us' with
 |nil=>simpa [aR]using r
 |cons x l ih=>simp only[aCh,je]at h;simp only[aR,eo]at r ⊢;obtain⟨v,vs',e,h1,h2⟩:=r;exact⟨v,vs',e,adK hn h.1 h1,ih h.2 _ h2⟩
theorem an1{z0 z:Z}{w':World}{E':List Pl}{n:Nat}(hn:n=z.E.length){a:AV}{v:Value}(h:A.B3 a=η)(r:aq (ctx z0 w' E' dV) a v):aq (ctx z w' (z.E++E') dV) (A.A7 n a) v:=by
 by_cases ht:∃vs,a=.aM vs
 ·obtain⟨vs,rfl⟩:=ht;exact amG hn h r
 ·have e1:A.B3 a=A.fresh a:=by cases a<;>first|rfl|exact absurd ⟨_,rfl⟩ ht
  have e2:A.A7 n a=A.shift n a:=by cases a<;>first|rfl|exact absurd ⟨_,rfl⟩ ht
  rw[e1]at h;rw[e2];exact adK hn h r
theorem Uf{b:Nat}:∀{l:List AV}{off:Nat},l.all A.yE=η->c'.w=c.w->bT c b off l->bT c' b off l
 |[],off,_,_,_=>by simp [bT]
 |a::l,off,h,hw,r=>by simp only[aCh,je]at h;simp only[bT]at r ⊢;obtain⟨⟨v,h1,h2,h3⟩,h4⟩:=r;exact⟨⟨v,by rw[hw];exact h1,h2,U3 h.1 h3⟩,Uf h.2 hw h4⟩
theorem abZ{sz b:Nat}:∀{l:List (List AV)}{off:Nat},(l.all λe=>e.all A.yE)=η->c'.w=c.w->bY c sz b off l->bY c' sz b off l
 |[],off,_,_,_=>by simp [bY]
 |a::l,off,h,hw,r=>by simp only[aCh,je]at h;simp only[bY]at r ⊢;obtain⟨h1,h2,h3⟩:=r;exact⟨h1,Uf h.1 hw h2,abZ h.2 hw h3⟩
theorem acI:∀{l:List (AV×AV)}{es:List MapEntry},(l.all λp=>A.xk p.1&&A.xk p.2)=η->dD c l es->dD c' l es
 |[],es,_,r=>by simpa [dD]using r
 |(k,v)::l,es,h,r=>by simp only[aCh,je]at h;simp only[dD]at r ⊢;obtain⟨e,es',h1,h2,h3,h4⟩:=r;exact⟨e,es',h1,azB h.1.1 h2,azB h.1.2 h3,acI h.2 h4⟩
theorem anh{p:Pl}{x:aT}(h:A.Ln x=η)(hw:c'.w=c.w)(r:rT c p x):rT c' p x:=by
 cases x with
 |box cs=>obtain⟨h1,⟨⟨arr,t,h2,h3⟩,h4⟩⟩:=r;exact⟨h1,⟨arr,t,by rw[hw];exact h2,h3⟩,Uf h hw h4⟩
 |arr g sz es=>obtain⟨h1,h2,h3,h4,⟨arr,t,h5,h6⟩,h7,h8,h9⟩:=r;exact⟨h1,h2,h3,h4,⟨arr,t,by rw[hw];exact h5,h6⟩,h7,abZ h hw h8,λarr t fz e=>h9 arr t fz (by rw[<-hw];exact e)⟩
 |map es=>obtain⟨h1,bJ,aJ,h2,hwf,h3⟩:=r;exact⟨h1,bJ,aJ,by rw[hw];exact h2,hwf,acI h h3⟩
 |vT g sz es=>cases h
 |it cur left=>cases h
theorem aen{z:Z}{σ σ':Heap}{r:AV}{v:Value}{w':World}{E':List Pl}(e2:yS z)(hh:jA (ctx z z.w z.E dV) σ)(hv:A.B3 r=η)(hb:σ'.all A.Ln=η)
  (k2:Out ⟨z.w,[],λ_=>False,z.nm⟩ w' E') (k3:jA (ctx ⟨z.w,[],λ_=>False,z.nm⟩ w' E' dV) σ') (k4:aq (ctx ⟨z.w,[],λ_=>False,z.nm⟩ w' E' dV) r v):
  ∃lu,Out z w' lu/\jA (ctx z w' lu dV) (σ++σ')/\aq (ctx z w' lu dV) (A.A7 σ.length r) v:=by
 have hlen:z.E.length=σ.length:=hh.len;have hlen':E'.length=σ'.length:=k3.len;have hst:∀b,b<z.w.heap.size->w'.heap[b]? =z.w.heap[b]? :=λb hb=>k2.stay b hb (λp hp=>by cases hp)
 have hlt:∀p∈z.E,p.b<z.w.heap.size:=λp hp=>hh.lt hp
 have hfr:∀p∈E',z.w.heap.size<=p.b:=λp hp=>by
  rcases k2.fresh p hp with k|⟨q,hq,_⟩
  ·exact k
  ·cases hq
 have hx:Ext (ctx z z.w z.E dV) (ctx z w' (z.E++E') dV):=by
  refine⟨k2.size,λb hb hn=>⟨hst b hb,?_⟩,λi p hp=>⟨p,?_,.inl rfl⟩,rfl⟩
  ·rintro(k|⟨p,hp,k⟩|⟨i,k⟩)
   ·exact hn (.inl k)
   ·rcases jJ.1 hp with hp|hp
    ·exact hn (.inr (.inl ⟨p,hp,k⟩))
    ·have:=hfr p hp;simp only[ctx]at hb;omega
   ·cases k
  ·simp only[ctx]at hp ⊢;rw[iG (bD.1 hp).1];exact hp
 have key:∀(i:Nat)(p:Pl),(z.E++E')[i]? =δ p->(i<z.E.length/\z.E[i]? =δ p)\/(z.E.length<=i/\E'[i-z.E.length]? =δ p):=λi p hp=>by
  by_cases hi:i<z.E.length
  ·rw[iG hi]at hp;exact .inl ⟨hi,hp⟩
  ·rw[iz (by omega)]at hp;exact .inr ⟨by omega,hp⟩
 refine⟨z.E++E',⟨k2.os,k2.tape,k2.output,k2.size,λb hb _=>hst b hb,λi p hp=>?_,λi p hp=>⟨p,?_,.inl rfl⟩,e2,hlt⟩,⟨by simp [ctx,hlen,hlen'],λi j p q hp hq e=>?_,λi p x hp dB=>?_⟩,an1 hlen.symm hv k4⟩
 ·rcases key i p hp with⟨_,k⟩|⟨_,k⟩
  ·exact .inr ⟨p,k,rfl⟩
  ·exact .inl (hfr p (cE k))
 ·rw[iG (bD.1 hp).1];exact hp
 ·simp only[ctx]at hp hq;rcases key i p hp with⟨i1,k⟩|⟨i1,k⟩<;>rcases key j q hq with⟨j1,m⟩|⟨j1,m⟩
  ·exact hh.inj i j p q k m e
  ·have:=hlt p (cE k);have:=hfr q (cE m);omega
  ·have:=hlt q (cE m);have:=hfr p (cE k);omega
  ·have:=k3.inj _ _ p q k m e;omega
 ·simp only[ctx]at hp;rcases key i p hp with⟨i1,k⟩|⟨i1,k⟩
  ·rw[iG (by omega)]at dB;exact(hh.blk i p x k dB).mono hx (hst _ (hlt p (cE k)))
  ·rw[iz (by omega),<-hlen]at dB;exact anh (c:=ctx ⟨z.w,[],λ_=>False,z.nm⟩ w' E' dV) (vS.1 hb x (cE dB)) rfl (k3.blk _ p x k dB)
theorem pG.Bk{args args':List AV}{σ σ':Heap}{r:AV}(h:pG P nm f args' [] r σ')(ha:UC σ 0 8 args=δ args')(hv:A.B3 r=η)(hb:σ'.all A.Ln=η):pG P nm f args σ (A.A7 σ.length r) (σ++σ'):=by
 have hX:∀(z:Z)b,¬(ctx ⟨z.w,[],λ_=>False,z.nm⟩ z.w [] dV).X b:=by
  rintro z b (k|⟨p,hp,_⟩|⟨i,k⟩)
  ·exact k.elim
  ·cases hp
  ·cases k
 have vL:∀(z:Z),jA (ctx z z.w z.E dV) σ->zW (ctx z z.w z.E dV) (ctx ⟨z.w,[],λ_=>False,z.nm⟩ z.w [] dV) σ 0:=λz hh=>
  ⟨rfl,rfl,λb k=>(hX z b k).elim,λid p k=>absurd k (aBP _),hh,λid p _ _=>hX z _⟩
 have h0:∀(z:Z),jA (ctx ⟨z.w,[],λ_=>False,z.nm⟩ z.w [] dV) []:=λz=>by
  refine⟨rfl,λi j p q hp=>?_,λi p x hp=>?_⟩
  ·simp [ctx]at hp
  ·simp [ctx]at hp
 rcases h with⟨g,h1,h2⟩|h2
 ·refine .inl ⟨g,h1,λz vs e1 e2 hh e4=>?_⟩;have ha':aR (ctx ⟨z.w,[],λ_=>False,z.nm⟩ z.w [] dV) args' vs.toList:=Io (vL z hh) 8 (λav eu v _ e r=>AY (vL z hh) 8 _ _ _ e r) _ _ _ ha e4;refine(h2 ⟨z.w,[],λ_=>False,z.nm⟩ vs e1 e2.none (h0 z) ha').mono ?_;rintro e w' ⟨v,E',k1,k2,k3,k4⟩;obtain⟨lu,q1,q2,q3⟩:=aen e2 hh hv hb k2 k3 k4;exact⟨v,lu,k1,q1,q2,q3⟩
 ·refine .inr λz vs e1 e2 hh e4=>?_
  have ha':aR (ctx ⟨z.w,[],λ_=>False,z.nm⟩ z.w [] dV) args' vs.toList:=Io (vL z hh) 8 (λav eu v _ e r=>AY (vL z hh) 8 _ _ _ e r) _ _ _ ha e4;obtain⟨v,w',E',k1,k2,k3,k4⟩:=h2 ⟨z.w,[],λ_=>False,z.nm⟩ vs e1 e2.none (h0 z) ha';obtain⟨lu,q1,q2,q3⟩:=aen e2 hh hv hb k2 k3 k4;exact⟨v,w',lu,k1,q1,q2,q3⟩
theorem ae1{z:Z}{w':World}{E':List Pl}{σ σ1 σ':Heap}{x r:AV}{v:Value}(hh:jA (ctx z z.w z.E dV) σ)(hlt:yS z)(ho:Out z w' E')(hr:jA (ctx z w' E' dV) σ1)(rv:aq (ctx z w' E' dV) x v)(k3:l6 σ x σ1=δ (r,σ')):
  ∃lu,Out z w' lu/\jA (ctx z w' lu dV) σ'/\aq (ctx z w' lu dV) r v:=by
 unfold l6 at k3;split at k3
 ·rename_i he;simp only[Δ,j0]at k3;obtain⟨rfl,rfl⟩:=k3;exact⟨E',ho,by rw[<-he];exact hr,rv⟩
 ·split at k3
  ·rename_i he;obtain⟨r',k6,k7⟩:=eP.1 k3;simp only[j0]at k7;obtain⟨rfl,rfl⟩:=k7;have hlen:=hr.len;simp only[ctx]at hlen;have hzl:z.E.length=σ.length:=hh.len
   have hle2:σ.length<=σ1.length:=by have:=congrArg VN he;simp at this;omega
   have uf:∀(id:Nat)(p:Pl),id<σ.length->E'[id]? =δ p->(E'.take σ.length)[id]? =δ p:=λid p hlt' hp=>by rw[Vh hlt'];exact hp
   have sy:∀(id:Nat)(p:Pl),(E'.take σ.length)[id]? =δ p->id<σ.length/\E'[id]? =δ p:=λid p hp=>by
    rw[aBQ]at hp;split at hp
    ·exact⟨by assumption,hp⟩
    ·cases hp
   have vL:zW (ctx z w' E' dV) (ctx z w' (E'.take σ.length) dV) σ1 σ.length:=by
    refine⟨rfl,rfl,λb k=>?_,uf,hr,λid p hge hp k=>?_⟩
    ·rcases k with k|⟨p,hp,k⟩|⟨i,k⟩
     ·exact .inl k
     ·exact .inr (.inl ⟨p,xq hp,k⟩)
     ·cases k
    ·rcases k with k|⟨q,hq,k⟩|⟨i,k⟩
     ·have hb:=hlt _ k;rcases ho.fresh' id p hp with e|⟨q,hq,_⟩
      ·omega
      ·rw[qm (by omega)]at hq;cases hq
     ·obtain⟨j,hj,rfl⟩:=X4.1 hq;obtain⟨h1,h2⟩:=sy j _ (bU hj);have:=hr.inj j id _ p h2 hp k;omega
     ·cases k
   have heq:∀(id:Nat),id<σ.length->σ[id]? =σ1[id]? :=λid hlt'=>by have h1:(List.take σ.length σ1)[id]? =σ1[id]? :=Vh hlt';rw[he]at h1;exact h1
   have held:Am (ctx z z.w z.E dV) (ctx z w' E' dV) (ctx z w' (E'.take σ.length) dV):=
    ⟨rfl,rfl,vL.X,λid p0 p e0 e1=>uf id p (by have:=(bD.1 e0).1;simp only[ctx]at this;omega) e1⟩
   refine⟨E'.take σ.length,?_,?_,AY vL 8 _ _ _ k6 rv⟩
   ·have o:=ho
    exact⟨o.os,o.tape,o.output,o.size,o.stay,λi p hp=>o.fresh' i p (sy i p hp).2,λi p hp=>by
     obtain⟨p',m1,m2⟩:=o.env i p hp
     exact⟨p',uf i p' (by have:=(bD.1 hp).1;omega) m1,m2⟩,o.lt,o.mine⟩
   ·refine⟨by simp only[ctx,oH];omega,λi j p q hp hq e=>hr.inj i j p q (sy i p hp).2 (sy j q hq).2 e,λi p x hp hx=>?_⟩;obtain⟨hi,hp2⟩:=sy i p hp;have fV:z.E[i]? =δ z.E[i]:=bU (by omega);exact Pr held (hh.blk i _ x fV hx) (hr.blk i p x hp2 (by rw[<-heq i hi];exact hx))
  ·cases k3
theorem Sound.oJ{m:List AV->Heap->Option (AV×Heap)}(h:Sound P nm f m)(sh:Sh)(hs:sh.ok=η):Sound P nm f (A.oJ sh m):=by
 intro args σ r σ' e;unfold A.oJ at e;obtain⟨⟨x,σ1⟩,e1,e2⟩:=bX.1 e;obtain⟨⟨y,σ2⟩,e3,e4⟩:=eP.1 e2;simp only[j0]at e4;obtain⟨rfl,rfl⟩:=e4;rcases h _ _ _ _ e1 with⟨g,h1,h2⟩|h2
 ·refine .inl ⟨g,h1,λz vs k1 k2 hh k4=>?_⟩;refine(h2 z vs k1 k2 hh k4).mono ?_;rintro e w' ⟨v,E',q1,q2,q3,q4⟩;obtain⟨lu,p1,p2,p3⟩:=ae1 hh k2 q2 q3 q4 e3;exact⟨v,lu,q1,p1,p2,FJ _ _ _ hs p3⟩
 ·refine .inr λz vs k1 k2 hh k4=>?_
  obtain⟨v,w',E',q1,q2,q3,q4⟩:=h2 z vs k1 k2 hh k4;obtain⟨lu,p1,p2,p3⟩:=ae1 hh k2 q2 q3 q4 e3;exact⟨v,w',lu,q1,p1,p2,FJ _ _ _ hs p3⟩
theorem Sound.wrap{r:List AV->Heap->Option (AV×Heap)}(h:Sound P nm f r)(ro:Bool)(eX:List Sh)(fE:Sh)(hi:Sh.fI eX=η)(ho:fE.ok=η):Sound P nm f (A.wrap ro eX fE r):=by
 intro args σ v σ' e;unfold A.wrap at e;cases hc:(ro&&args.any A.own)
 ·rw[hc]at e;simp only[bK]at e;obtain⟨q,e1,e2⟩:=eP.1 e;injection e2 with e2 e3
  subst e2 e3;exact(h _ _ _ _ e1).conv (λc vs k=>Lf _ _ _ hi k) (λc v k=>FJ _ _ _ ho k)
 ·rw[hc]at e;simp only[cA]at e;obtain⟨args',e1,e2⟩:=bX.1 e;obtain⟨q,e3,e4⟩:=bX.1 e2;obtain⟨q1,q2⟩:=q;simp only at e4;cases hs:(A.B3 (A.nn fE q1)&&q2.all A.Ln)
  ·rw[hs]at e4;cases e4
  ·rw[hs]at e4;simp only[cA,Δ,j0]at e4;obtain⟨rfl,rfl⟩:=e4;simp only[je]at hs;exact((h _ _ _ _ e3).conv (args:=args') (λc vs k=>Lf _ _ _ hi k) (λc v k=>FJ _ _ _ ho k)).Bk e1 hs.1 hs.2
end
theorem eC.of{X:Fx}{t:List (FuncId×(List AV->Heap->Option (AV×Heap)))}(hc:X.call=ZG (λ_ _=>ξ) t) (ht:∀p∈t,Sound X.P X.nm p.1 p.2) (hd:∀f,Sound X.P X.nm f (X.dyn (X.nm.getD f 0))):eC X:=by
 refine⟨λf args σ r σ' h=>?_,λf=>hd f⟩;rw[hc]at h;clear hc;induction t with
 |nil=>cases h
 |cons p t ih=>
  obtain⟨m,x⟩:=p;simp only[ZG]at h;cases hm:(f==m)
  ·rw[hm]at h;exact ih (λp hp=>ht p (rA _ hp)) h
  ·rw[hm]at h;have:f=m:=by simpa using hm
   subst this;exact ht (f,x) (XJ) _ _ _ _ h
theorem Sound.none{P:Program}{nm:List Nat}{f:FuncId}:Sound P nm f (λ_ _=>Option.none):=λ_ _ _ _ h=>by cases h
theorem aG.nil{P:Program}{nm:List Nat}:∀p∈([]:List (FuncId×(List AV->Heap->Option (AV×Heap)))),Sound P nm p.1 p.2:=λ_ h=>by cases h
theorem aG.cons{P:Program}{nm:List Nat}{f:FuncId}{m:List AV->Heap->Option (AV×Heap)}{l:List (FuncId×(List AV->Heap->Option (AV×Heap)))}(h:Sound P nm f m)(t:∀p∈l,Sound P nm p.1 p.2):∀p∈(f,m)::l,Sound P nm p.1 p.2:=
 λp hp=>by rcases iV.1 hp with rfl|hp;exact h;exact t p hp
theorem fU.nil{P:Program}{nm:List Nat}:∀p∈([]:List (Nat×(List AV->Heap->Option (AV×Heap)))),∀f,nm.getD f 0=p.1->Sound P nm f p.2:=λ_ h=>by cases h
theorem fU.cons{P:Program}{nm:List Nat}{k:Nat}{m:List AV->Heap->Option (AV×Heap)}{l:List (Nat×(List AV->Heap->Option (AV×Heap)))}(h:∀f,nm.getD f 0=k->Sound P nm f m)(t:∀p∈l,∀f,nm.getD f 0=p.1->Sound P nm f p.2):∀p∈(k,m)::l,∀f,nm.getD f 0=p.1->Sound P nm f p.2:=
 λp hp=>by rcases iV.1 hp with rfl|hp;exact h;exact t p hp
theorem nw{P:Program}{nm:List Nat}{t:List (Nat×(List AV->Heap->Option (AV×Heap)))}(ht:∀p∈t,∀f,nm.getD f 0=p.1->Sound P nm f p.2)(f:FuncId):Sound P nm f (ZG (λ_ _=>Option.none) t (nm.getD f 0)):=by
 induction t with
 |nil=>exact Sound.none
 |cons p t ih=>
  obtain⟨k,x⟩:=p;simp only[ZG];cases hm:(nm.getD f 0==k)
  ·exact ih (λp hp=>ht p (rA _ hp))
  ·exact ht (k,x) XJ f (by simpa using hm)
theorem Qo{nm:List Nat}{k g:Nat}(h:(nm.zipIdx.filter λp=>p.1==k)=[(k,g)]) (hk:(0==k)=ι) {f:Nat} (hf:nm.getD f 0=k):f=g:=by
 have hlt:f<nm.length:=by
  rcases Nat.lt_or_ge f nm.length with e|e
  ·exact e
  ·simp only[YA,qm e,Va]at hf;subst hf;simp at hk
 have:(k,f)∈nm.zipIdx.filter λp=>p.1==k:=by refine TR.2 ⟨pK.2 ⟨f,?_⟩,by simp⟩;simp only[YA]at hf;rw[bU hlt]at hf;simp [bU hlt,<-hf]
 rw[h]at this;simpa using this
theorem lE{P:Program}{nm:List Nat}{k g:Nat}{m:List AV->Heap->Option (AV×Heap)}(hs:Sound P nm g m)(h:(nm.zipIdx.filter λp=>p.1==k)=[(k,g)]) (hk:(0==k)=ι):∀f,nm.getD f 0=k->Sound P nm f m:=
 λf hf=>by have e:=Qo h hk hf;subst e;exact hs
def fuel(F:(Nat->List AV->Heap->Option (AV×Heap))->List (Nat×(List AV->Heap->Option (AV×Heap)))):Nat->Nat->List AV->Heap->Option (AV×Heap)
 |0,_=>λ_ _=>ξ
 |n+1,k=>ZG (λ_ _=>ξ) (F (fuel F n)) k
namespace A
def dZ(f:AV->Heap->Option (AV×Heap)):List AV->Heap->Option (AV×Heap)
 |[x0],σ=>f x0 σ
 |_,_=>ξ
def cQ(f:AV->AV->Heap->Option (AV×Heap)):List AV->Heap->Option (AV×Heap)
 |[x0,x1],σ=>f x0 x1 σ
 |_,_=>ξ
def lJ(f:AV->AV->AV->Heap->Option (AV×Heap)):List AV->Heap->Option (AV×Heap)
 |[x0,x1,x2],σ=>f x0 x1 x2 σ
 |_,_=>ξ
def An(f:AV->AV->AV->AV->Heap->Option (AV×Heap)):List AV->Heap->Option (AV×Heap)
 |[x0,x1,x2,x3],σ=>f x0 x1 x2 x3 σ
 |_,_=>ξ
def wj(f:AV->AV->AV->AV->AV->Heap->Option (AV×Heap)):List AV->Heap->Option (AV×Heap)
 |[x0,x1,x2,x3,x4],σ=>f x0 x1 x2 x3 x4 σ
 |_,_=>ξ
def Br(f:AV->AV->AV->AV->AV->AV->Heap->Option (AV×Heap)):List AV->Heap->Option (AV×Heap)
 |[x0,x1,x2,x3,x4,x5],σ=>f x0 x1 x2 x3 x4 x5 σ
 |_,_=>ξ
def YP(f:AV->AV->AV->AV->AV->AV->AV->Heap->Option (AV×Heap)):List AV->Heap->Option (AV×Heap)
 |[x0,x1,x2,x3,x4,x5,x6],σ=>f x0 x1 x2 x3 x4 x5 x6 σ
 |_,_=>ξ
end A
section
variable {X : Fx} {f : FuncId} {fn : Func} {cH : oM}
theorem Sound.yN{m:AV->Heap->Option (AV×Heap)}(keep:tO)(hkeep:keep.Ok)(hs:eC X)(hf:X.P.funcs[f]? =δ fn)(hc:∀dR w,(callFunc f dR).run X.P w=.ok (.enter f dR) w)(he:∀(x0:AV) (σ:Heap),tT X keep cH fn [x0] σ=m x0 σ):Sound X.P X.nm f (A.dZ m):=by
 intro args σ r σ' h;unfold A.dZ at h;split at h
 ·exact Fh hs hkeep hf hc ((he _ _).trans h)
 ·cases h
theorem Sound.pM{m:AV->AV->Heap->Option (AV×Heap)}(keep:tO)(hkeep:keep.Ok)(hs:eC X)(hf:X.P.funcs[f]? =δ fn)(hc:∀dR w,(callFunc f dR).run X.P w=.ok (.enter f dR) w)(he:∀(x0 x1:AV) (σ:Heap),tT X keep cH fn [x0,x1] σ=m x0 x1 σ):Sound X.P X.nm f (A.cQ m):=by
 intro args σ r σ' h;unfold A.cQ at h;split at h
 ·exact Fh hs hkeep hf hc ((he _ _ _).trans h)
 ·cases h
theorem Sound.Gh{m:AV->AV->AV->Heap->Option (AV×Heap)}(keep:tO)(hkeep:keep.Ok)(hs:eC X)(hf:X.P.funcs[f]? =δ fn)(hc:∀dR w,(callFunc f dR).run X.P w=.ok (.enter f dR) w)(he:∀(x0 x1 x2:AV) (σ:Heap),tT X keep cH fn [x0,x1,x2] σ=m x0 x1 x2 σ):Sound X.P X.nm f (A.lJ m):=by
 intro args σ r σ' h;unfold A.lJ at h;split at h
 ·exact Fh hs hkeep hf hc ((he _ _ _ _).trans h)
 ·cases h
theorem Sound.aih{m:AV->AV->AV->AV->Heap->Option (AV×Heap)}(keep:tO)(hkeep:keep.Ok)(hs:eC X)(hf:X.P.funcs[f]? =δ fn)(hc:∀dR w,(callFunc f dR).run X.P w=.ok (.enter f dR) w)(he:∀(x0 x1 x2 x3:AV) (σ:Heap),tT X keep cH fn [x0,x1,x2,x3] σ=m x0 x1 x2 x3 σ):Sound X.P X.nm f (A.An m):=by
 intro args σ r σ' h;unfold A.An at h;split at h
 ·exact Fh hs hkeep hf hc ((he _ _ _ _ _).trans h)
 ·cases h
theorem Sound.X7{m:AV->AV->AV->AV->AV->Heap->Option (AV×Heap)}(keep:tO)(hkeep:keep.Ok)(hs:eC X)(hf:X.P.funcs[f]? =δ fn)(hc:∀dR w,(callFunc f dR).run X.P w=.ok (.enter f dR) w)(he:∀(x0 x1 x2 x3 x4:AV) (σ:Heap),tT X keep cH fn [x0,x1,x2,x3,x4] σ=m x0 x1 x2 x3 x4 σ):Sound X.P X.nm f (A.wj m):=by
 intro args σ r σ' h;unfold A.wj at h;split at h
 ·exact Fh hs hkeep hf hc ((he _ _ _ _ _ _).trans h)
 ·cases h
theorem Sound.aAI{m:AV->AV->AV->AV->AV->AV->Heap->Option (AV×Heap)}(keep:tO)(hkeep:keep.Ok)(hs:eC X)(hf:X.P.funcs[f]? =δ fn)(hc:∀dR w,(callFunc f dR).run X.P w=.ok (.enter f dR) w)(he:∀(x0 x1 x2 x3 x4 x5:AV) (σ:Heap),tT X keep cH fn [x0,x1,x2,x3,x4,x5] σ=m x0 x1 x2 x3 x4 x5 σ):Sound X.P X.nm f (A.Br m):=by
 intro args σ r σ' h;unfold A.Br at h;split at h
 ·exact Fh hs hkeep hf hc ((he _ _ _ _ _ _ _).trans h)
 ·cases h
theorem Sound.axz{m:AV->AV->AV->AV->AV->AV->AV->Heap->Option (AV×Heap)}(keep:tO)(hkeep:keep.Ok)(hs:eC X)(hf:X.P.funcs[f]? =δ fn)(hc:∀dR w,(callFunc f dR).run X.P w=.ok (.enter f dR) w)(he:∀(x0 x1 x2 x3 x4 x5 x6:AV) (σ:Heap),tT X keep cH fn [x0,x1,x2,x3,x4,x5,x6] σ=m x0 x1 x2 x3 x4 x5 x6 σ):Sound X.P X.nm f (A.YP m):=by
 intro args σ r σ' h;unfold A.YP at h;split at h
 ·exact Fh hs hkeep hf hc ((he _ _ _ _ _ _ _ _).trans h)
 ·cases h
end
end
open Sh renaming fI->Vg
open Sound renaming wrap->Z9,yN->YB,none->X2,Gh->aC0,pM->Vu
open A renaming cQ->YS,wrap->Ω,dZ->ZY
open eC renaming of->UJ
abbrev qv:List Sh:=[.k,.k,.k,.k,.k,.k,.k,(.s 2),.k,.k,(.s 8)]
abbrev sE:Sh:=(.a [(.s 3),(.s 4),(.s 3),(.s 2),(.s 3)])
abbrev I3:List Sh:=[(.s 10),.k,.k,.k,(.s 3),(.s 4),(.s 3),(.s 2),(.s 3),(.s 2),.k,(.s 5)]
abbrev FQ:List Sh:=[.k,.k,(.e 7 [.k,.k,.k,.k,.k,.k,(.s 3)])]
abbrev FR:Sh:=(.a [.k,.k,.k,.k,.k,.k,(.s 2)])
section
def aK:List Nat:=[0,0,0,512,511,508,510,420,509,338,437,502,507,161,501,1,505,503,336,416,14,149,13,150,422,340,0,360,372,0,343,341,180,148,18,506,160,504,144,335,70,129,151,337,155,413,415,353,358,355,0,0,359,0,342,17,159,156,157,139,143,330,331,332,333,334,193,181,69,66,128,127,154,152,339,412,352,158,354,414,0,0,258,0,71,73,2,138,142,3,63,67,68,65,64,153,318,410,411,351,350,361,363,0,367,368,369,370,371,256,257,72,125,126,141,62,178,203,0,297,140,409,348,205,349,362,262,0,366,365,59,60,61,176,177,0,345,344,408,16,364,58,286,288,0,292,293,294,295,296,405,407,15,287,291,290,346,404,406,347,289,0,0,0,0,0,0,0,0,0,0,0,0,0,0,0,0,0,0]
section
variable {l : List (FuncId × (an -> Heap -> aC))} {f : FuncId} {fn : Func} {ro : Bool} {eX : List Sh} {fE : Sh}
def GJ (l:List (FuncId×(an->Heap->aC))) (L:List Nat) (n:Nat):Fx:=⟨Tryz.prog,aK,ZG (λ_ _=>ξ) l,λ_ _ _=>ξ,L,[],n,[]⟩
theorem q1{m:AV->Heap->aC}(L:List Nat)(n:Nat)(cH:oM)(h:∀p∈l,Sound Tryz.prog aK p.1 p.2)(hf:Tryz.prog.funcs[f]? =δ fn)(hc:∀dR w,(callFunc f dR).run Tryz.prog w=.ok (.enter f dR) w)(he:∀(x0:AV) (σ:Heap),tT (GJ l L n) .F cH fn [x0] σ=m x0 σ)(hi:Vg eX=η)(ho:fE.ok=η):Sound Tryz.prog aK f (Ω ro eX fE (ZY m)):=Z9 (YB .F trivial (UJ rfl h λ_=>X2) hf hc he) _ _ _ hi ho
theorem q2{m:AV->AV->Heap->aC}(L:List Nat)(n:Nat)(cH:oM)(h:∀p∈l,Sound Tryz.prog aK p.1 p.2)(hf:Tryz.prog.funcs[f]? =δ fn)(hc:∀dR w,(callFunc f dR).run Tryz.prog w=.ok (.enter f dR) w)(he:∀(x0 x1:AV) (σ:Heap),tT (GJ l L n) .F cH fn [x0,x1] σ=m x0 x1 σ)(hi:Vg eX=η)(ho:fE.ok=η):Sound Tryz.prog aK f (Ω ro eX fE (YS m)):=Z9 (Vu .F trivial (UJ rfl h λ_=>X2) hf hc he) _ _ _ hi ho
theorem q3{m:AV->AV->AV->Heap->aC}(L:List Nat)(n:Nat)(cH:oM)(h:∀p∈l,Sound Tryz.prog aK p.1 p.2)(hf:Tryz.prog.funcs[f]? =δ fn)(hc:∀dR w,(callFunc f dR).run Tryz.prog w=.ok (.enter f dR) w)(he:∀(x0 x1 x2:AV) (σ:Heap),tT (GJ l L n) .F cH fn [x0,x1,x2] σ=m x0 x1 x2 σ)(hi:Vg eX=η)(ho:fE.ok=η):Sound Tryz.prog aK f (Ω ro eX fE (A.lJ m)):=Z9 (aC0 .F trivial (UJ rfl h λ_=>X2) hf hc he) _ _ _ hi ho
theorem q4{m:AV->AV->AV->AV->Heap->aC}(L:List Nat)(n:Nat)(cH:oM)(h:∀p∈l,Sound Tryz.prog aK p.1 p.2)(hf:Tryz.prog.funcs[f]? =δ fn)(hc:∀dR w,(callFunc f dR).run Tryz.prog w=.ok (.enter f dR) w)(he:∀(x0 x1 x2 x3:AV) (σ:Heap),tT (GJ l L n) .F cH fn [x0,x1,x2,x3] σ=m x0 x1 x2 x3 σ)(hi:Vg eX=η)(ho:fE.ok=η):Sound Tryz.prog aK f (Ω ro eX fE (A.An m)):=Z9 (Sound.aih .F trivial (UJ rfl h λ_=>X2) hf hc he) _ _ _ hi ho
theorem q5{m:AV->AV->AV->AV->AV->Heap->aC}(L:List Nat)(n:Nat)(cH:oM)(h:∀p∈l,Sound Tryz.prog aK p.1 p.2)(hf:Tryz.prog.funcs[f]? =δ fn)(hc:∀dR w,(callFunc f dR).run Tryz.prog w=.ok (.enter f dR) w)(he:∀(x0 x1 x2 x3 x4:AV) (σ:Heap),tT (GJ l L n) .F cH fn [x0,x1,x2,x3,x4] σ=m x0 x1 x2 x3 x4 σ)(hi:Vg eX=η)(ho:fE.ok=η):Sound Tryz.prog aK f (Ω ro eX fE (A.wj m)):=Z9 (Sound.X7 .F trivial (UJ rfl h λ_=>X2) hf hc he) _ _ _ hi ho
theorem q6{m:AV->AV->AV->AV->AV->AV->Heap->aC}(L:List Nat)(n:Nat)(cH:oM)(h:∀p∈l,Sound Tryz.prog aK p.1 p.2)(hf:Tryz.prog.funcs[f]? =δ fn)(hc:∀dR w,(callFunc f dR).run Tryz.prog w=.ok (.enter f dR) w)(he:∀(x0 x1 x2 x3 x4 x5:AV) (σ:Heap),tT (GJ l L n) .F cH fn [x0,x1,x2,x3,x4,x5] σ=m x0 x1 x2 x3 x4 x5 σ)(hi:Vg eX=η)(ho:fE.ok=η):Sound Tryz.prog aK f (Ω ro eX fE (A.Br m)):=Z9 (Sound.aAI .F trivial (UJ rfl h λ_=>X2) hf hc he) _ _ _ hi ho
theorem q7{m:AV->AV->AV->AV->AV->AV->AV->Heap->aC}(L:List Nat)(n:Nat)(cH:oM)(h:∀p∈l,Sound Tryz.prog aK p.1 p.2)(hf:Tryz.prog.funcs[f]? =δ fn)(hc:∀dR w,(callFunc f dR).run Tryz.prog w=.ok (.enter f dR) w)(he:∀(x0 x1 x2 x3 x4 x5 x6:AV) (σ:Heap),tT (GJ l L n) .F cH fn [x0,x1,x2,x3,x4,x5,x6] σ=m x0 x1 x2 x3 x4 x5 x6 σ)(hi:Vg eX=η)(ho:fE.ok=η):Sound Tryz.prog aK f (Ω ro eX fE (A.YP m)):=Z9 (Sound.axz .F trivial (UJ rfl h λ_=>X2) hf hc he) _ _ _ hi ho
end
end
def Kt:an->Heap->aC:=YS λa b σ=>match a,b with
 |.int .u64 x,.int .u64 y=>if 0<=x/\x<18446744073709551616/\0<=y/\y<18446744073709551616 then δ (.aM [.int .u64 ((x.toNat*y.toNat / 18446744073709551616:Nat):Int),.int .u64 ((x.toNat*y.toNat % 18446744073709551616:Nat):Int)],σ)else ξ
 |_,_=>ξ
def HT:an->Heap->aC:=A.lJ λa b c σ=>match a,b,c with
 |.int .u64 x,.int .u64 y,.int .u64 c=>if 0<=x/\x<18446744073709551616/\0<=y/\y<18446744073709551616/\0<=c/\c<=1 then δ (.aM [.int .u64 (((x.toNat+y.toNat+c.toNat) % 18446744073709551616:Nat):Int),.int .u64 (((x.toNat+y.toNat+c.toNat) / 18446744073709551616:Nat):Int)],σ)else ξ
 |_,_,_=>ξ
section
def azv (a0:AV) (σ:Heap):aC:=(A.Er a0).bind λx1=>(p7 (λv2 s3=>(Sq (aj v2 1) x1).bind λx5=>Γ x5 ((A.we a0 (aj v2 1)).bind λx6=>(ZC x6 (Z6 .u8 97)).bind λx7=>(μ x7 η (δ x6) aB).bind λx8=>(μ x7 η (Y0 x8 (Z6 .u8 122)) aB).bind λx9=>(p9 x7 x9 aY).bind λbR=>(μ bR ι (δ x6) aB).bind λcR=>(μ bR ι (ZC cR (Z6 .u8 48)) aB).bind λdc=>(μ bR ι (δ dc) aB).bind λdg=>(μ dg η (δ x6) aB).bind λdI=>(μ dg η (Y0 dI (Z6 .u8 57)) aB).bind λeE=>(μ bR ι (p9 dg eE aY) aB).bind λdJ=>(p9 bR dQ dJ).bind λdz=>(μ dz ι (δ x6) aB).bind λdh=>(μ dz ι (Wn .i dh (Z6 .u8 45)) aB).bind λfC=>(p9 dz dQ fC).bind λew=>(Yr ew).bind λdm=>Γ dm (δ (n9,[aY,(aj v2 1)],s3)) ((Z8 (aj v2 1) (ε 1)).bind λey=>δ (l9,[(aj v2 0),ey],s3))) (δ (Ψ 0,[(aj v2 0),(aj v2 1)],s3))) [aY,(ε 0)] σ).bind λuk=>bif uk.1==Ψ 0 then((Uq .z a0 dY).bind λx24=>l6 σ x24 uk.2.2)else bif uk.1==n9 then(l6 σ (aj uk.2.1 0) uk.2.2)else ξ
def Us:an->Heap->aC:=Ω η [] .k (ZY azv)
def Ua (a0:AV) (σ:Heap):aC:=(Us [a0] σ).bind λr1=>(μ r1.1 η (δ a0) aB).bind λx2=>(μ r1.1 η (A.Er x2) aB).bind λx3=>(μ r1.1 η (Y0 x3 (ε 20)) aB).bind λx4=>(p9 r1.1 x4 aY).bind λx5=>(μ x5 η (δ a0) aB).bind λx6=>(μ x5 η (A.we x6 (ε 0)) aB).bind λx7=>(μ x5 η (ZC x7 (Z6 .u8 97)) aB).bind λx8=>(p9 x5 x8 aY).bind λx9=>(μ x9 η (δ a0) aB).bind λbR=>(μ x9 η (A.we bR (ε 0)) aB).bind λcR=>(μ x9 η (Y0 cR (Z6 .u8 122)) aB).bind λdc=>(p9 x9 dc aY).bind λdg=>l6 σ dg r1.2
def H7:an->Heap->aC:=Ω η [] .k (ZY Ua)
def Ty (a0 a1 a2:AV) (σ:Heap):aC:=(ZC a0 a1).bind λx1=>(μ x1 η (δ a0) aB).bind λx2=>(μ x1 η (δ a2) aB).bind λx3=>(μ x1 η (Y0 x2 x3) aB).bind λx4=>(p9 x1 x4 aY).bind λx5=>l6 σ x5 σ
def jS:an->Heap->aC:=Ω η [] .k (A.lJ Ty)
def Ub (a0 a1:AV) (σ:Heap):aC:=Γ a0 (l6 σ a1 σ) (l6 σ (ε 0) σ)
def mG:an->Heap->aC:=Ω η [] .k (YS Ub)
def TK (a0:AV) (σ:Heap):aC:=(UT a0).bind λx1=>(p7 (λv2 s3=>(Sq (aj v2 1) x1).bind λx5=>Γ x5 ((UM 1 a0 (aj v2 1)).bind λx6=>((χ x6 s3).bind λc7=>φ 0 c7).bind λx8=>(Uq .i x8 (ε 0)).bind λx9=>Γ x9 (δ (n9,[x8,(aj v2 1)],s3)) ((Z8 (aj v2 1) (ε 1)).bind λbR=>δ (l9,[(aj v2 0),bR],s3))) (δ (Ψ 0,[(aj v2 0),(aj v2 1)],s3))) [(ε 0),(ε 0)] σ).bind λdH=>bif dH.1==Ψ 0 then(l6 σ (ε 0) dH.2.2)else bif dH.1==n9 then(l6 σ (aj dH.2.1 0) dH.2.2)else ξ
def qM:an->Heap->aC:=Ω η [(.s 1)] .k (ZY TK)
def TN (a0:AV) (σ:Heap):aC:=(A.Er a0).bind λx1=>(p7 (λv2 s3=>(Sq (aj v2 1) x1).bind λx5=>Γ x5 ((A.we a0 (aj v2 1)).bind λx6=>(Sq x6 (Z6 .u8 32)).bind λx7=>(μ x7 ι (δ a0) aB).bind λx8=>(μ x7 ι (δ (aj v2 1)) aB).bind λx9=>(μ x7 ι (A.we x8 x9) aB).bind λbR=>(μ x7 ι (Tt bR (Z6 .u8 126)) aB).bind λcR=>(p9 x7 dQ cR).bind λdc=>Γ dc (δ (n9,[aY,(aj v2 1)],s3)) ((Z8 (aj v2 1) (ε 1)).bind λdg=>δ (l9,[(aj v2 0),dg],s3))) (δ (Ψ 0,[(aj v2 0),(aj v2 1)],s3))) [aY,(ε 0)] σ).bind λkn=>bif kn.1==Ψ 0 then((Uq .z a0 dY).bind λeE=>(μ eE η (δ a0) aB).bind λdJ=>(μ eE η (A.Er dJ) aB).bind λdz=>(μ eE η (Y0 dz (ε 60)) aB).bind λdh=>(p9 eE dh aY).bind λfC=>(μ fC η (δ a0) aB).bind λew=>(μ fC η (A.we ew (ε 0)) aB).bind λdm=>(μ fC η (Uq .i dm (Z6 .u8 32)) aB).bind λey=>(p9 fC ey aY).bind λeU=>(μ eU η (δ a0) aB).bind λx24=>(μ eU η (δ a0) aB).bind λx25=>(μ eU η (A.Er x25) aB).bind λfF=>(μ eU η (T6 fF (ε 1)) aB).bind λfG=>(μ eU η (A.we x24 fG) aB).bind λx28=>(μ eU η (Uq .i x28 (Z6 .u8 32)) aB).bind λx29=>(p9 eU x29 aY).bind λeG=>l6 σ eG kn.2.2)else bif kn.1==n9 then(l6 σ (aj kn.2.1 0) kn.2.2)else ξ
def OH:an->Heap->aC:=Ω η [] .k (ZY TN)
def TL (a0 a1:AV) (σ:Heap):aC:=(A.quo a0 a1).bind λx1=>(A.rem a0 a1).bind λx2=>(Sq x2 (ε 0)).bind λx3=>(Γ x3 ((T6 x1 (ε 1)).bind λx5=>δ ([x5],σ)) (δ ([x1],σ))).bind λr4=>l6 σ (aj r4.1 0) r4.2
def TD:an->Heap->aC:=Ω η [] .k (YS TL)
def TM (a0 a1:AV) (σ:Heap):aC:=(WR (ε 2) a0).bind λx1=>(Z8 x1 a1).bind λx2=>(WR (ε 2) a1).bind λx3=>(TD [x2,x3] σ).bind λr4=>l6 σ r4.1 r4.2
def OG:an->Heap->aC:=Ω η [] .k (YS TM)
end
section
def az5 (a0:AV) (σ:Heap):aC:=(ψ 2 a0).bind λc1=>(φ 0 c1).bind λx2=>(jS [x2,(ε 1),(ε 6)] σ).bind λr3=>(Yr r3.1).bind λx4=>Γ x4 (l6 σ (ε 4) r3.2) ((φ 1 c1).bind λx5=>(φ 0 c1).bind λx6=>(Uq .i x6 (ε 6)).bind λx7=>Γ x7 ((UT x5).bind λx8=>(Tt x8 (ε 0)).bind λx9=>(mG [x9,(ε 3)] r3.2).bind λjf=>l6 σ jf.1 jf.2) ((UT x5).bind λcR=>(Sq cR (ε 2)).bind λdc=>Γ dc (l6 σ (ε 8) r3.2) ((UT x5).bind λdg=>(Tt dg (ε 20)).bind λdI=>Γ dI (l6 σ (ε 2) r3.2) ((UT x5).bind λeE=>(p7 (λeM um=>(Sq (aj eM 1) eE).bind λfC=>Γ fC ((UM 2 x5 (aj eM 1)).bind λew=>((χ ew um).bind λkN=>l7 0 2 kN).bind λey=>(ψ 2 ey).bind λiK=>(Φ 0 iK [(ε 0),(ε 0)]).bind λjc=>(φ 0 jc).bind λx25=>(jS [x25,(ε 0),(ε 1000)] um).bind λlQ=>(Yr lQ.1).bind λfG=>(μ fG ι (φ 1 jc) aB).bind λx28=>(μ fG ι (wh (jS [x28,(ε 0),(ε 1000)] lQ.2) lQ.2) aB).bind λx29=>(μ fG ι (Yr x29) aB).bind λeG=>(p9 fG dQ eG).bind λx31=>Γ x31 (δ (n9,[(ε 1),(aj eM 1)],lQ.2)) ((Z8 (aj eM 1) (ε 1)).bind λx32=>δ (l9,[(aj eM 0),x32],lQ.2))) (δ (Ψ 0,[(aj eM 0),(aj eM 1)],um))) [(ε 0),(ε 0)] r3.2).bind λsQ=>bif sQ.1==Ψ 0 then((UM 2 x5 (ε 0)).bind λx34=>((χ x34 sQ.2.2).bind λkg=>l7 0 2 kg).bind λgX=>(Uq (.s [0,0]) gX (Λ [(ε 0),(ε 0)])).bind λeY=>(μ eY ι (δ x5) aB).bind λx38=>(μ eY ι (δ x5) aB).bind λiO=>(μ eY ι (UT iO) aB).bind λfH=>(μ eY ι (T6 fH (ε 1)) aB).bind λiP=>(μ eY ι (UM 2 x38 iP) aB).bind λlC=>(μ eY ι ((χ lC sQ.2.2).bind λsG=>l7 0 2 sG) aB).bind λjx=>(μ eY ι ((((Θ (ε 1000)).bind λv=>δ [v]).bind λuN=>(Φ 0 uN [(ε 0),(ε 0)]).bind λGD=>((Θ (ε 1000)).bind λv=>δ [v]).bind λmN=>(Φ 1 mN GD).bind λsH=>δ sH).bind λcs=>δ (Λ cs)) aB).bind λgB=>(μ eY ι (Uq (.s [0,0]) jx gB) aB).bind λnM=>(p9 eY dQ nM).bind λiT=>Γ iT (l6 σ (ε 3) sQ.2.2) ((p7 (λmP sV=>(UT x5).bind λlD=>(Sq (aj mP 1) lD).bind λkR=>Γ kR ((UM 2 x5 (aj mP 1)).bind λmE=>(p5 0 mE).bind λkq=>((χ kq sV).bind λCM=>φ 0 CM).bind λkX=>(T6 (aj mP 1) (ε 1)).bind λmF=>(UM 2 x5 mF).bind λiq=>(p5 0 iq).bind λgP=>((χ gP sV).bind λxD=>φ 0 xD).bind λkY=>(Y0 kX kY).bind λjH=>(μ jH ι (δ x5) aB).bind λqH=>(μ jH ι (δ (aj mP 1)) aB).bind λqI=>(μ jH ι (UM 2 qH qI) aB).bind λjR=>(μ jH ι (p5 1 jR) aB).bind λmQ=>(μ jH ι ((χ mQ sV).bind λwm=>φ 0 wm) aB).bind λvq=>(μ jH ι (δ x5) aB).bind λoc=>(μ jH ι (δ (aj mP 1)) aB).bind λsY=>(μ jH ι (T6 sY (ε 1)) aB).bind λkr=>(μ jH ι (UM 2 oc kr) aB).bind λrO=>(μ jH ι (p5 1 rO) aB).bind λAJ=>(μ jH ι ((χ AJ sV).bind λCR=>φ 0 CR) aB).bind λxX=>(μ jH ι (Sq vq xX) aB).bind λpW=>(p9 jH dQ pW).bind λoh=>Γ oh (δ (n9,[(ε 7),(aj mP 1)],sV)) ((Z8 (aj mP 1) (ε 1)).bind λxY=>δ (l9,[(aj mP 0),xY],sV))) (δ (Ψ 2,[(aj mP 0),(aj mP 1)],sV))) [(aj sQ.2.1 0),(ε 1)] sQ.2.2).bind λNf=>bif Nf.1==Ψ 2 then(l6 σ (ε 0) Nf.2.2)else bif Nf.1==n9 then(l6 σ (aj Nf.2.1 0) Nf.2.2)else ξ))else bif sQ.1==n9 then(l6 σ (aj sQ.2.1 0) sQ.2.2)else ξ))))
def Oa:an->Heap->aC:=Ω η [(.a [.k,(.s 2)])] .k (ZY az5)
def aAw (a0:AV) (σ:Heap):aC:=(jS [a0,(ε 0),(ε 65535)] σ).bind λr1=>l6 σ r1.1 r1.2
def aBk:an->Heap->aC:=Ω η [] .k (ZY aAw)
def Tf (a0:AV) (σ:Heap):aC:=(UT a0).bind λx1=>(p7 (λv2 s3=>(Sq (aj v2 1) x1).bind λx5=>Γ x5 ((UM 1 a0 (aj v2 1)).bind λx6=>((χ x6 s3).bind λc7=>φ 0 c7).bind λx8=>(aBk [x8] s3).bind λr9=>(Yr r9.1).bind λbR=>Γ bR (δ (n9,[(ε 1),(aj v2 1)],r9.2)) ((Z8 (aj v2 1) (ε 1)).bind λcR=>δ (l9,[(aj v2 0),cR],r9.2))) (δ (Ψ 0,[(aj v2 0),(aj v2 1)],s3))) [(ε 0),(ε 0)] σ).bind λgp=>bif gp.1==Ψ 0 then(l6 σ (ε 0) gp.2.2)else bif gp.1==n9 then(l6 σ (aj gp.2.1 0) gp.2.2)else ξ
def Oq:an->Heap->aC:=Ω η [(.s 1)] .k (ZY Tf)
def Te (a0:AV) (σ:Heap):aC:=(jS [a0,(ε 0),(ε 36000000)] σ).bind λr1=>l6 σ r1.1 r1.2
def E7:an->Heap->aC:=Ω η [] .k (ZY Te)
def SL (a0:AV) (σ:Heap):aC:=(ψ 7 a0).bind λc1=>(φ 0 c1).bind λx2=>(φ 1 c1).bind λx3=>((((Θ x2).bind λv=>δ [v]).bind λc4=>(Φ 0 c4 [(ε 0),(ε 0)]).bind λc5=>((Θ x3).bind λv=>δ [v]).bind λc6=>(Φ 1 c6 c5).bind λc7=>δ c7).bind λcs=>δ (SQ 1 (gd 1 2 cs))).bind λx8=>(Oq [x8] σ).bind λr9=>(Uq .i r9.1 (ε 0)).bind λbR=>Γ bR (l6 σ r9.1 r9.2) ((φ 2 c1).bind λcR=>(E7 [cR] r9.2).bind λgp=>(Yr gp.1).bind λdg=>(μ dg ι (φ 3 c1) aB).bind λdI=>(μ dg ι (wh (E7 [dI] gp.2) gp.2) aB).bind λeE=>(μ dg ι (Yr eE) aB).bind λdJ=>(p9 dg dQ dJ).bind λdz=>(μ dz ι (φ 4 c1) aB).bind λdh=>(μ dz ι (wh (E7 [dh] gp.2) gp.2) aB).bind λfC=>(μ dz ι (Yr fC) aB).bind λew=>(p9 dz dQ ew).bind λdm=>(μ dm ι (φ 2 c1) aB).bind λey=>(μ dm ι (φ 3 c1) aB).bind λeU=>(μ dm ι (Z8 ey eU) aB).bind λx24=>(μ dm ι (φ 4 c1) aB).bind λx25=>(μ dm ι (Z8 x24 x25) aB).bind λfF=>(μ dm ι (wh (E7 [fF] gp.2) gp.2) aB).bind λfG=>(μ dm ι (Yr fG) aB).bind λx28=>(p9 dm dQ x28).bind λx29=>Γ x29 (l6 σ (ε 1) gp.2) ((l7 5 2 c1).bind λeG=>(Oa [eG] gp.2).bind λoa=>l6 σ oa.1 oa.2))
def SJ:an->Heap->aC:=Ω η [FR] .k (ZY SL)
def UA (a0:AV) (σ:Heap):aC:=(A.conv .u64 a0).bind λx1=>((((Θ (Z6 .u64 0)).bind λv=>δ [v]).bind λc2=>(Φ 0 c2 [(Z6 .u64 0),(Z6 .u64 0)]).bind λc3=>((Θ x1).bind λv=>δ [v]).bind λc4=>(Φ 1 c4 c3).bind λc5=>δ c5).bind λcs=>δ (Λ cs)).bind λx6=>(ψ 2 x6).bind λc7=>(Φ 0 c7 [(Z6 .u64 0),(Z6 .u64 0)]).bind λc8=>(l7 0 2 c8).bind λx9=>l6 σ x9 σ
def qN:an->Heap->aC:=Ω η [] .k (ZY UA)
def SM (a0 a1:AV) (σ:Heap):aC:=(ψ 2 a0).bind λc1=>(ψ 2 a1).bind λc2=>(φ 0 c1).bind λx3=>(φ 0 c2).bind λx4=>(Sq x3 x4).bind λx5=>(μ x5 ι (φ 0 c1) aB).bind λx6=>(μ x5 ι (φ 0 c2) aB).bind λx7=>(μ x5 ι (Wn .i x6 x7) aB).bind λx8=>(μ x5 ι (δ x8) aB).bind λx9=>(μ x9 η (φ 1 c1) aB).bind λbR=>(μ x9 η (φ 1 c2) aB).bind λcR=>(μ x9 η (Sq bR cR) aB).bind λdc=>(μ x5 ι (p9 x9 dc aY) aB).bind λdg=>(p9 x5 dQ dg).bind λdI=>l6 σ dI σ
def Hy:an->Heap->aC:=Ω η [] .k (YS SM)
def aAl (a0 a1:AV) (σ:Heap):aC:=((((Θ a0).bind λv=>δ [v]).bind λc1=>(Φ 0 c1 [(ε 0),(ε 0)]).bind λc2=>((Θ a1).bind λv=>δ [v]).bind λc3=>(Φ 1 c3 c2).bind λc4=>δ c4).bind λcs=>δ (SQ 1 (gd 1 2 cs))).bind λx5=>(Oq [x5] σ).bind λr6=>(Uq .i r6.1 (ε 0)).bind λx7=>Γ x7 (l6 σ (XF [(ε 0),r6.1]) r6.2) ((WR a0 a1).bind λx8=>(OG [x8,(ε 65535)] r6.2).bind λr9=>l6 σ (XF [r9.1,(ε 0)]) r9.2)
def OA:an->Heap->aC:=Ω η [] .k (YS aAl)
def aAf (a0 a1:AV) (σ:Heap):aC:=(ψ 2 a0).bind λc1=>(φ 1 c1).bind λx2=>(A.conv .u64 a1).bind λx3=>(Kt [x2,x3] σ).bind λr4=>(TH 0 r4.1).bind λx5=>(TH 1 r4.1).bind λx6=>(φ 0 c1).bind λx7=>(A.conv .u64 a1).bind λx8=>(WR x7 x8).bind λx9=>(Z8 x9 x5).bind λbR=>((((Θ bR).bind λv=>δ [v]).bind λgn=>(Φ 0 gn [(Z6 .u64 0),(Z6 .u64 0)]).bind λfq=>((Θ x6).bind λv=>δ [v]).bind λjr=>(Φ 1 jr fq).bind λjN=>δ jN).bind λcs=>δ (Λ cs)).bind λeE=>(ψ 2 eE).bind λoO=>(Φ 0 oO [(Z6 .u64 0),(Z6 .u64 0)]).bind λmL=>(l7 0 2 mL).bind λdh=>l6 σ dh r4.2
def sZ:an->Heap->aC:=Ω η [] .k (YS aAf)
def azS (gP:AV) (a1:AV) (a2:AV):an->Heap->Option (AX×an×Heap):=λv64 EN=>(Z8 (aj v64 2) (ε 2)).bind λqH=>(UT gP).bind λqI=>(Sq qH qI).bind λjR=>(μ jR η (δ a1) aB).bind λmQ=>(μ jR η (WR (ε 1000) mQ) aB).bind λvn=>(μ jR η (δ gP) aB).bind λvq=>(μ jR η (δ (aj v64 2)) aB).bind λoc=>(μ jR η (Z8 oc (ε 1)) aB).bind λsY=>(μ jR η (UM 2 vq sY) aB).bind λkr=>(μ jR η (p5 0 kr) aB).bind λrO=>(μ jR η ((χ rO EN).bind λuQ=>φ 0 uQ) aB).bind λoW=>(μ jR η (δ a2) aB).bind λxX=>(μ jR η (WR oW xX) aB).bind λpW=>(μ jR η (ZC vn pW) aB).bind λoh=>(p9 jR oh aY).bind λxY=>Γ xY ((Z8 (aj v64 2) (ε 1)).bind λwF=>δ (l9,[(aj v64 0),(aj v64 1),wF],EN)) (δ (Ψ 1,[(aj v64 0),(aj v64 1),(aj v64 2)],EN))
def OS (a0 a1 a2:AV) (σ:Heap):aC:=(ψ 2 a0).bind λc1=>(qN [a2] σ).bind λr2=>(sZ [r2.1,a2] r2.2).bind λr3=>(ψ 2 r3.1).bind λc4=>(Φ 0 c4 [(Z6 .u64 0),(Z6 .u64 0)]).bind λc5=>(φ 0 c1).bind λx6=>(Wn .i x6 (ε 2)).bind λx7=>Γ x7 ((wh (qN [a1] r3.2) r3.2).bind λx8=>(wh (sZ [x8,a1] r3.2) r3.2).bind λx9=>(l7 0 2 c5).bind λbR=>(ψ 2 x9).bind λgn=>(Φ 0 gn [(Z6 .u64 0),(Z6 .u64 0)]).bind λfq=>(ψ 2 bR).bind λjr=>(Φ 0 jr [(Z6 .u64 0),(Z6 .u64 0)]).bind λjN=>(l7 0 2 fq).bind λeE=>(l7 0 2 jN).bind λdJ=>l6 σ (XF [eE,dJ]) r3.2) ((Wn .i x6 (ε 3)).bind λdz=>Γ dz ((wh (qN [a1] r3.2) r3.2).bind λdh=>(WR (ε 2) a2).bind λfC=>(T6 fC a1).bind λew=>(wh (sZ [dh,ew] r3.2) r3.2).bind λdm=>(l7 0 2 c5).bind λey=>(ψ 2 dm).bind λiK=>(Φ 0 iK [(Z6 .u64 0),(Z6 .u64 0)]).bind λjc=>(ψ 2 ey).bind λiL=>(Φ 0 iL [(Z6 .u64 0),(Z6 .u64 0)]).bind λlz=>(l7 0 2 jc).bind λfG=>(l7 0 2 lz).bind λx28=>l6 σ (XF [fG,x28]) r3.2) ((Wn .i x6 (ε 4)).bind λx29=>Γ x29 ((wh (qN [a1] r3.2) r3.2).bind λeG=>(wh (sZ [eG,a1] r3.2) r3.2).bind λx31=>(WR (ε 3) a2).bind λx32=>(WR (ε 2) a1).bind λiN=>(T6 x32 iN).bind λx34=>(wh (sZ [x31,x34] r3.2) r3.2).bind λgj=>(l7 0 2 c5).bind λgX=>(wh (sZ [gX,a2] r3.2) r3.2).bind λeY=>(ψ 2 gj).bind λoP=>(Φ 0 oP [(Z6 .u64 0),(Z6 .u64 0)]).bind λmY=>(ψ 2 eY).bind λBu=>(Φ 0 Bu [(Z6 .u64 0),(Z6 .u64 0)]).bind λuM=>(l7 0 2 mY).bind λlC=>(l7 0 2 uM).bind λji=>l6 σ (XF [lC,ji]) r3.2) ((Wn .i x6 (ε 5)).bind λjx=>Γ jx ((Sq a1 a2).bind λgO=>Γ gO ((qN [(ε 0)] r3.2).bind λnK=>(qN [(ε 1)] nK.2).bind λqF=>(ψ 2 nK.1).bind λsH=>(Φ 0 sH [(Z6 .u64 0),(Z6 .u64 0)]).bind λyT=>(ψ 2 qF.1).bind λuO=>(Φ 0 uO [(Z6 .u64 0),(Z6 .u64 0)]).bind λxC=>(l7 0 2 yT).bind λfS=>(l7 0 2 xC).bind λmD=>l6 σ (XF [fS,mD]) qF.2) ((qN [(ε 1)] r3.2).bind λr54=>(qN [(ε 1)] r54.2).bind λzh=>(ψ 2 r54.1).bind λsI=>(Φ 0 sI [(Z6 .u64 0),(Z6 .u64 0)]).bind λlX=>(ψ 2 zh.1).bind λmZ=>(Φ 0 mZ [(Z6 .u64 0),(Z6 .u64 0)]).bind λCM=>(l7 0 2 lX).bind λkX=>(l7 0 2 CM).bind λmF=>l6 σ (XF [kX,mF]) zh.2)) ((Wn .i x6 (ε 6)).bind λiq=>Γ iq ((φ 1 c1).bind λgP=>(p7 (azS gP a1 a2) [(p6 [(Z6 .u64 0),(Z6 .u64 0)]),(p6 [(Z6 .u64 0),(Z6 .u64 0)]),(ε 0)] r3.2).bind λvf=>bif vf.1==Ψ 1 then((UM 2 gP (aj vf.2.1 2)).bind λqJ=>((χ qJ vf.2.2).bind λxE=>l7 0 2 xE).bind λya=>(Z8 (aj vf.2.1 2) (ε 1)).bind λvr=>(UM 2 gP vr).bind λHh=>((χ Hh vf.2.2).bind λsK=>l7 0 2 sK).bind λx91=>(ψ 2 ya).bind λc92=>(Φ 0 c92 [(ε 0),(ε 0)]).bind λwo=>(ψ 2 x91).bind λxF=>(Φ 0 xF [(ε 0),(ε 0)]).bind λsL=>(φ 0 sL).bind λx96=>(φ 0 wo).bind λJS=>(T6 x96 JS).bind λx98=>(φ 1 wo).bind λx99=>(WR x99 x98).bind λCE=>(WR CE a2).bind λx101=>(φ 1 sL).bind λx102=>(φ 1 wo).bind λCF=>(T6 x102 CF).bind λx104=>(WR (ε 1000) a1).bind λGk=>(φ 0 wo).bind λCG=>(WR CG a2).bind λCH=>(T6 Gk CH).bind λGl=>(WR x104 Gl).bind λGm=>(Z8 x101 Gm).bind λJq=>(qN [Jq] vf.2.2).bind λaia=>(WR (ε 1000) x98).bind λx112=>(qN [x112] aia.2).bind λMr=>(sZ [Mr.1,a2] Mr.2).bind λaib=>(ZE (aj vf.2.1 0)).bind λzZ=>(ψ 2 aia.1).bind λQU=>(Φ 0 QU zZ).bind λxw=>(ZE (aj vf.2.1 1)).bind λWY=>(ψ 2 aib.1).bind λavG=>(Φ 0 avG WY).bind λavH=>(l7 0 2 xw).bind λYi=>(l7 0 2 avH).bind λMs=>l6 σ (XF [Yi,Ms]) aib.2)else ξ) ((qN [a1] r3.2).bind λrD=>(qN [a2] rD.2).bind λEu=>(ψ 2 rD.1).bind λLX=>(Φ 0 LX [(Z6 .u64 0),(Z6 .u64 0)]).bind λFZ=>(ψ 2 Eu.1).bind λBe=>(Φ 0 Be [(Z6 .u64 0),(Z6 .u64 0)]).bind λCo=>(l7 0 2 FZ).bind λyQ=>(l7 0 2 Co).bind λGs=>l6 σ (XF [yQ,Gs]) Eu.2)))))
def OL:an->Heap->aC:=Ω η [(.a [.k,(.s 2)])] .k (A.lJ OS)
def azD (a0 a1:AV) (σ:Heap):aC:=(ψ 2 a0).bind λc1=>(ψ 2 a1).bind λc2=>(φ 1 c1).bind λx3=>(φ 1 c2).bind λx4=>(HT [x3,x4,(Z6 .u64 0)] σ).bind λr5=>(TH 0 r5.1).bind λx6=>(TH 1 r5.1).bind λx7=>(φ 0 c1).bind λx8=>(φ 0 c2).bind λx9=>(HT [x8,x9,x7] r5.2).bind λjf=>(TH 0 jf.1).bind λcR=>(TH 1 jf.1).bind λdc=>((((Θ cR).bind λv=>δ [v]).bind λjr=>(Φ 0 jr [(Z6 .u64 0),(Z6 .u64 0)]).bind λjN=>((Θ x6).bind λv=>δ [v]).bind λkF=>(Φ 1 kF jN).bind λoO=>δ oO).bind λcs=>δ (Λ cs)).bind λdz=>(ψ 2 dz).bind λjt=>(Φ 0 jt [(Z6 .u64 0),(Z6 .u64 0)]).bind λiZ=>(l7 0 2 iZ).bind λew=>l6 σ ew jf.2
def Od:an->Heap->aC:=Ω η [] .k (YS azD)
def azq (a0 a1 a2 a3:AV) (σ:Heap):aC:=(ψ 2 a2).bind λc1=>(ψ 2 a3).bind λc2=>(ZC a1 a0).bind λx3=>Γ x3 ((T6 a1 a0).bind λx4=>(l7 0 2 c1).bind λx5=>(WR (ε 2) x4).bind λx6=>(wh (sZ [x5,x6] σ) σ).bind λx7=>(l7 0 2 c2).bind λx8=>(wh (Od [x7,x8] σ) σ).bind λx9=>(ψ 2 x9).bind λfM=>(Φ 0 fM [(Z6 .u64 0),(Z6 .u64 0)]).bind λgn=>(p7 (λv12 vg=>(Sq (aj v12 2) (aj v12 3)).bind λeE=>Γ eE ((Z8 (aj v12 2) (aj v12 3)).bind λdJ=>(Z8 dJ (ε 1)).bind λdz=>(A.quo dz (ε 2)).bind λdh=>((ZE (aj v12 1)).bind λiZ=>l7 0 2 iZ).bind λew=>((ZE (aj v12 0)).bind λkN=>l7 0 2 kN).bind λey=>(WR (ε 2) dh).bind λeU=>(wh (sZ [ey,eU] vg) vg).bind λx24=>(wh (Hy [ew,x24] vg) vg).bind λx25=>(Γ x25 ((T6 dh (ε 1)).bind λfG=>δ ([(aj v12 0),(aj v12 1),(aj v12 2),fG],vg)) (δ ([(aj v12 0),(aj v12 1),dh,(aj v12 3)],vg))).bind λlQ=>δ (l9,[(aj lQ.1 0),(aj lQ.1 1),(aj lQ.1 2),(aj lQ.1 3)],lQ.2)) (δ (Ψ 0,[(aj v12 0),(aj v12 1),(aj v12 2),(aj v12 3)],vg))) [(p6 c2),(p6 gn),(ε 0),x4] σ).bind λuX=>bif uX.1==Ψ 0 then((Z8 a0 (aj uX.2.1 2)).bind λx29=>l6 σ x29 uX.2.2)else ξ) ((T6 a0 a1).bind λeG=>(l7 0 2 c1).bind λx31=>(WR (ε 2) eG).bind λx32=>(sZ [x31,x32] σ).bind λsQ=>(ψ 2 sQ.1).bind λuL=>(Φ 0 uL [(Z6 .u64 0),(Z6 .u64 0)]).bind λkg=>(p7 (λko vi=>(Sq (aj ko 2) (aj ko 3)).bind λiO=>Γ iO ((Z8 (aj ko 2) (aj ko 3)).bind λfH=>(A.quo fH (ε 2)).bind λiP=>((ZE (aj ko 0)).bind λkO=>l7 0 2 kO).bind λji=>(WR (ε 2) iP).bind λjx=>(Z8 jx (ε 1)).bind λgO=>(wh (sZ [ji,gO] vi) vi).bind λjG=>((ZE (aj ko 1)).bind λmN=>l7 0 2 mN).bind λjQ=>(wh (Hy [jG,jQ] vi) vi).bind λgB=>(Γ gB ((Z8 iP (ε 1)).bind λiT=>δ ([(aj ko 0),(aj ko 1),iT,(aj ko 3)],vi)) (δ ([(aj ko 0),(aj ko 1),(aj ko 2),iP],vi))).bind λjv=>δ (l9,[(aj jv.1 0),(aj jv.1 1),(aj jv.1 2),(aj jv.1 3)],jv.2)) (δ (Ψ 2,[(aj ko 0),(aj ko 1),(aj ko 2),(aj ko 3)],vi))) [(p6 c2),(p6 kg),(ε 0),eG] sQ.2).bind λG3=>bif G3.1==Ψ 2 then((T6 a0 (aj G3.2.1 2)).bind λmD=>l6 σ mD G3.2.2)else ξ)
def aBd:an->Heap->aC:=Ω η [] .k (A.An azq)
def acz (a0 a1:AV) (σ:Heap):aC:=(ψ 7 a0).bind λc1=>(φ 2 c1).bind λx2=>(φ 3 c1).bind λx3=>(Z8 x2 x3).bind λx4=>(φ 4 c1).bind λx5=>(Z8 x4 x5).bind λx6=>(ZC a1 x6).bind λx7=>Γ x7 ((φ 1 c1).bind λx8=>l6 σ x8 σ) ((Y0 a1 x4).bind λx9=>Γ x9 ((φ 0 c1).bind λbR=>l6 σ bR σ) ((l7 5 2 c1).bind λcR=>(T6 a1 x4).bind λdc=>(φ 4 c1).bind λdg=>(OL [cR,dc,dg] σ).bind λkn=>(TH 0 kn.1).bind λeE=>(TH 1 kn.1).bind λdJ=>(ψ 2 eE).bind λmL=>(Φ 0 mL [(Z6 .u64 0),(Z6 .u64 0)]).bind λjt=>(ψ 2 dJ).bind λiZ=>(Φ 0 iZ [(Z6 .u64 0),(Z6 .u64 0)]).bind λkG=>(φ 0 c1).bind λdm=>(φ 1 c1).bind λey=>(l7 0 2 jt).bind λeU=>(l7 0 2 kG).bind λx24=>(aBd [dm,ey,eU,x24] kn.2).bind λqD=>l6 σ qD.1 qD.2))
def Ur:an->Heap->aC:=Ω η [FR] .k (YS acz)
def acy (a0 a1:AV) (σ:Heap):aC:=(ψ 7 a0).bind λc1=>(l7 0 7 c1).bind λx2=>(SJ [x2] σ).bind λr3=>(E7 [a1] r3.2).bind λr4=>(Yr r4.1).bind λx5=>(mG [x5,(ε 1)] r4.2).bind λr6=>((((Θ r3.1).bind λv=>δ [v]).bind λc7=>(Φ 0 c7 [(ε 0),(ε 0)]).bind λc8=>((Θ r6.1).bind λv=>δ [v]).bind λc9=>(Φ 1 c9 c8).bind λfM=>δ fM).bind λcs=>δ (SQ 1 (gd 1 2 cs))).bind λcR=>(qM [cR] r6.2).bind λgp=>(Uq .i gp.1 (ε 0)).bind λdg=>Γ dg (l6 σ (XF [(ε 0),gp.1]) gp.2) ((l7 0 7 c1).bind λdI=>(Ur [dI,a1] gp.2).bind λmC=>l6 σ (XF [mC.1,(ε 0)]) mC.2)
def azh:an->Heap->aC:=Ω η [FR] .k (YS acy)
end
abbrev aU(n:Int):Prop:=-9223372036854775808<=n/\n<=9223372036854775807
abbrev aZ:Nat:=9223372036854775807
def kM{κ:Type}[DecidableEq κ](k:κ)(S:List κ):Bool:=S.any λx=>decide (x=k)
theorem aBw{κ:Type}[DecidableEq κ]{k:κ}{S:List κ}:kM k S=η↔k∈S:=by simp only[kM,Tg,decide_eq_true_eq];exact⟨λ⟨x,h,e⟩=>e▸h,λh=>⟨k,h,rfl⟩⟩
theorem OY{κ:Type}[DecidableEq κ]{k:κ}{S:List κ}:kM k S=ι↔k∉S:=by rw[<-aBw];simp
def nT(n:Int):an:=[.ah n]
def awr(s:ByteArray):an:=[.str s]
def sl{α:Type}(sz:Nat)(c:α->an)(l:List α):AV:=.sl sz (l.map c)
def fI{α:Type}(p:α->Prop)(l:List α):Prop:=l.length<=aZ/\∀x∈l,p x
def kj(s:ByteArray):Prop:=s.size<=aZ
theorem afq(n:Int):φ 0 (nT n)=δ (.ah n):=rfl
theorem afr(s:ByteArray):φ 0 (awr s)=δ (.str s):=rfl
structure mS where
 time:Int
 way:Int
deriving DecidableEq
def gY(x:mS):an:=[.ah x.time,.ah x.way]
theorem am4(x:mS):(gY x).length=2:=rfl
def afk(x:mS):Prop:=aU x.time/\aU x.way
theorem KB(x:mS):φ 0 (gY x)=δ (.ah x.time):=rfl
theorem KC(x:mS):φ 1 (gY x)=δ (.ah x.way):=rfl
theorem Fl(x:mS):l7 0 2 (gY x)=δ (.agg (gY x)):=rfl
theorem Fi(x:mS):ψ 2 (.agg (gY x))=δ (gY x):=rfl
theorem Fo(x:mS)(l:an)(h:l.length=2):Φ 0 (gY x) l=δ (gY x):=by simp [Φ,am4,h]
structure rR where
 kind:Int
 bV:(List mS)
def nv(x:rR):an:=[.ah x.kind,sl 2 gY x.bV]
theorem am0(x:rR):(nv x).length=2:=rfl
def asC(x:rR):Prop:=aU x.kind/\(fI afk) x.bV
theorem zw(x:rR):φ 0 (nv x)=δ (.ah x.kind):=rfl
theorem zx(x:rR):φ 1 (nv x)=δ (sl 2 gY x.bV):=rfl
theorem zA(x:rR):l7 0 2 (nv x)=δ (.agg (nv x)):=rfl
theorem zz(x:rR):ψ 2 (.agg (nv x))=δ (nv x):=rfl
theorem zB(x:rR)(l:an)(h:l.length=2):Φ 0 (nv x) l=δ (nv x):=by simp [Φ,am0,h]
structure iF where
 eD:Int
 to:Int
 start:Int
 cI:Int
 time:Int
 fA:rR
def gA(x:iF):an:=[.ah x.eD,.ah x.to,.ah x.start,.ah x.cI,.ah x.time,.ah x.fA.kind,sl 2 gY x.fA.bV]
theorem aol(x:iF):(gA x).length=7:=rfl
theorem acq(x:iF):φ 0 (gA x)=δ (.ah x.eD):=rfl
theorem acr(x:iF):φ 1 (gA x)=δ (.ah x.to):=rfl
theorem O0(x:iF):φ 2 (gA x)=δ (.ah x.start):=rfl
theorem aAF(x:iF):φ 3 (gA x)=δ (.ah x.cI):=rfl
theorem acs(x:iF):φ 4 (gA x)=δ (.ah x.time):=rfl
theorem akG(x:iF):l7 5 2 (gA x)=δ (.agg (nv x.fA)):=rfl
theorem Is(x:iF):l7 0 7 (gA x)=δ (.agg (gA x)):=rfl
theorem Fq(x:iF):ψ 7 (.agg (gA x))=δ (gA x):=rfl
theorem PJ(x:iF)(l:an)(h:l.length=7):Φ 0 (gA x) l=δ (gA x):=by simp [Φ,aol,h]
structure aq8 where
 time:Int
 level:Int
deriving DecidableEq
structure qU where
 low:Int
 high:Int
 name:ByteArray
deriving DecidableEq
def ou(x:qU):an:=[.ah x.low,.ah x.high,.str x.name]
theorem am5(x:qU):(ou x).length=3:=rfl
def VZ(x:qU):Prop:=aU x.low/\aU x.high/\kj x.name
theorem ON(x:qU):φ 0 (ou x)=δ (.ah x.low):=rfl
theorem OO(x:qU):φ 1 (ou x)=δ (.ah x.high):=rfl
theorem OP(x:qU):φ 2 (ou x)=δ (.str x.name):=rfl
theorem Pg(x:qU):l7 0 3 (ou x)=δ (.agg (ou x)):=rfl
theorem O8(x:qU):ψ 3 (.agg (ou x))=δ (ou x):=rfl
theorem Pm(x:qU)(l:an)(h:l.length=3):Φ 0 (ou x) l=δ (ou x):=by simp [Φ,am5,h]
structure fO where
 name:ByteArray
 group:Int
 ep:Int
 nV:Int
 default:Int
 snap:Bool
 ranges:(List qU)
def gm(x:fO):an:=[.str x.name,.ah x.group,.ah x.ep,.ah x.nV,.ah x.default,.bool x.snap,sl 3 ou x.ranges]
theorem am3(x:fO):(gm x).length=7:=rfl
def afj(x:fO):Prop:=kj x.name/\aU x.group/\aU x.ep/\aU x.nV/\aU x.default/\(fI VZ) x.ranges
theorem OM(x:fO):φ 0 (gm x)=δ (.str x.name):=rfl
theorem TX(x:fO):φ 1 (gm x)=δ (.ah x.group):=rfl
theorem TY(x:fO):φ 2 (gm x)=δ (.ah x.ep):=rfl
theorem azO(x:fO):φ 3 (gm x)=δ (.ah x.nV):=rfl
theorem T0(x:fO):φ 4 (gm x)=δ (.ah x.default):=rfl
theorem aA9(x:fO):φ 5 (gm x)=δ (.bool x.snap):=rfl
theorem aAx(x:fO):φ 6 (gm x)=δ (sl 3 ou x.ranges):=rfl
theorem aBz(x:fO):l7 0 7 (gm x)=δ (.agg (gm x)):=rfl
theorem azk(x:fO):ψ 7 (.agg (gm x))=δ (gm x):=rfl
theorem Pk(x:fO)(l:an)(h:l.length=7):Φ 0 (gm x) l=δ (gm x):=by simp [Φ,am3,h]
structure eA where
 name:ByteArray
 size:Int
 params:(List fO)
def dF(x:eA):an:=[.str x.name,.ah x.size,sl 7 gm x.params]
theorem alp(x:eA):(dF x).length=3:=rfl
def Pe(x:eA):Prop:=kj x.name/\aU x.size/\(fI afj) x.params
theorem tc(x:eA):φ 0 (dF x)=δ (.str x.name):=rfl
theorem ur(x:eA):φ 1 (dF x)=δ (.ah x.size):=rfl
theorem td(x:eA):φ 2 (dF x)=δ (sl 7 gm x.params):=rfl
theorem uv(x:eA):l7 0 3 (dF x)=δ (.agg (dF x)):=rfl
theorem uu(x:eA):ψ 3 (.agg (dF x))=δ (dF x):=rfl
theorem uw(x:eA)(l:an)(h:l.length=3):Φ 0 (dF x) l=δ (dF x):=by simp [Φ,alp,h]
structure jk where
 au:Int
 jX:ByteArray
 univ:Int
 address:Int
deriving DecidableEq
def dr(x:jk):an:=[.ah x.au,.str x.jX,.ah x.univ,.ah x.address]
theorem aop(x:jk):(dr x).length=4:=rfl
def agp(x:jk):Prop:=aU x.au/\kj x.jX/\aU x.univ/\aU x.address
theorem tg(x:jk):φ 0 (dr x)=δ (.ah x.au):=rfl
theorem th(x:jk):φ 1 (dr x)=δ (.str x.jX):=rfl
theorem tj(x:jk):φ 2 (dr x)=δ (.ah x.univ):=rfl
theorem tu(x:jk):φ 3 (dr x)=δ (.ah x.address):=rfl
theorem tD(x:jk):l7 0 4 (dr x)=δ (.agg (dr x)):=rfl
theorem tC(x:jk):ψ 4 (.agg (dr x))=δ (dr x):=rfl
theorem tG(x:jk)(l:an)(h:l.length=4):Φ 0 (dr x) l=δ (dr x):=by simp [Φ,aop,h]
structure iH where
 bA:(List eA)
 dK:(List jk)
def lq(x:iH):an:=[sl 3 dF x.bA,sl 4 dr x.dK]
theorem apJ(x:iH):(lq x).length=2:=rfl
def D7(x:iH):Prop:=(fI Pe) x.bA/\(fI agp) x.dK
theorem AO(x:iH):φ 0 (lq x)=δ (sl 3 dF x.bA):=rfl
theorem AP(x:iH):φ 1 (lq x)=δ (sl 4 dr x.dK):=rfl
theorem A0(x:iH):l7 0 2 (lq x)=δ (.agg (lq x)):=rfl
theorem AU(x:iH):ψ 2 (.agg (lq x))=δ (lq x):=rfl
theorem A3(x:iH)(l:an)(h:l.length=2):Φ 0 (lq x) l=δ (lq x):=by simp [Φ,apJ,h]
structure aI where
 unit:Int
 param:ByteArray
deriving DecidableEq
def aV(x:aI):an:=[.ah x.unit,.str x.param]
theorem apI(x:aI):(aV x).length=2:=rfl
def ahf(x:aI):Prop:=aU x.unit/\kj x.param
theorem uA(x:aI):l7 0 2 (aV x)=δ (.agg (aV x)):=rfl
theorem Iv(x:aI):ψ 2 (.agg (aV x))=δ (aV x):=rfl
theorem Li(x:aI)(l:an)(h:l.length=2):Φ 0 (aV x) l=δ (aV x):=by simp [Φ,apI,h]
structure zC where
 key:aI
 level:Int
deriving DecidableEq
def tv(x:zC):an:=[.ah x.key.unit,.str x.key.param,.ah x.level]
theorem alq(x:zC):(tv x).length=3:=rfl
def adq(x:zC):Prop:=ahf x.key/\aU x.level
theorem ab0(x:zC)(l:an)(h:l.length=3):Φ 0 (tv x) l=δ (tv x):=by simp [Φ,alq,h]
structure lF where
 au:Int
 title:ByteArray
 kZ:(List zC)
def fk(x:lF):an:=[.ah x.au,.str x.title,sl 3 tv x.kZ]
theorem alZ(x:lF):(fk x).length=3:=rfl
def BQ(x:lF):Prop:=aU x.au/\kj x.title/\(fI adq) x.kZ
theorem acO(x:lF)(l:an)(h:l.length=3):Φ 0 (fk x) l=δ (fk x):=by simp [Φ,alZ,h]
structure avn where
 ayz:(List Int)
 block:Int
 ayQ:Int
structure nP where
 level:Int
 iw:Int
deriving DecidableEq
def yt(x:nP):an:=[.ah x.level,.ah x.iw]
def asD(x:nP):Prop:=aU x.level/\aU x.iw
structure gz where
 key:aI
 value:nP
 release:Bool
 Bb:Bool
 cI:Int
 time:Int
deriving DecidableEq
def gE(x:gz):an:=[.ah x.key.unit,.str x.key.param,.ah x.value.level,.ah x.value.iw,.bool x.release,.bool x.Bb,.ah x.cI,.ah x.time]
theorem aon(x:gz):(gE x).length=8:=rfl
def Qq(x:gz):Prop:=ahf x.key/\asD x.value/\aU x.cI/\aU x.time
theorem anv(x:gz):φ 0 (gE x)=δ (.ah x.key.unit):=rfl
theorem anw(x:gz):φ 1 (gE x)=δ (.str x.key.param):=rfl
theorem anx(x:gz):φ 2 (gE x)=δ (.ah x.value.level):=rfl
theorem anz(x:gz):φ 3 (gE x)=δ (.ah x.value.iw):=rfl
theorem anA(x:gz):φ 4 (gE x)=δ (.bool x.release):=rfl
theorem anB(x:gz):φ 5 (gE x)=δ (.bool x.Bb):=rfl
theorem anC(x:gz):φ 6 (gE x)=δ (.ah x.cI):=rfl
theorem anD(x:gz):φ 7 (gE x)=δ (.ah x.time):=rfl
theorem alG(x:gz):l7 0 2 (gE x)=δ (.agg (aV x.key)):=rfl
theorem akH(x:gz):l7 2 2 (gE x)=δ (.agg (yt x.value)):=rfl
theorem aqB(x:gz):l7 0 8 (gE x)=δ (.agg (gE x)):=rfl
theorem apM(x:gz):ψ 8 (.agg (gE x))=δ (gE x):=rfl
theorem PK(x:gz)(l:an)(h:l.length=8):Φ 0 (gE x) l=δ (gE x):=by simp [Φ,aon,h]
structure bl where
 au:Int
 title:ByteArray
 cI:Int
 up:Int
 down:Int
 other:Int
 fA:rR
 block:Bool
 cM:Int
 ef:(List gz)
def bn(x:bl):an:=[.ah x.au,.str x.title,.ah x.cI,.ah x.up,.ah x.down,.ah x.other,.ah x.fA.kind,sl 2 gY x.fA.bV,.bool x.block,.ah x.cM,sl 8 gE x.ef]
theorem apH(x:bl):(bn x).length=11:=rfl
def D6(x:bl):Prop:=aU x.au/\kj x.title/\aU x.cI/\aU x.up/\aU x.down/\aU x.other/\asC x.fA/\aU x.cM/\(fI Qq) x.ef
theorem UX(x:bl):φ 0 (bn x)=δ (.ah x.au):=rfl
theorem ao6(x:bl):φ 1 (bn x)=δ (.str x.title):=rfl
theorem UY(x:bl):φ 2 (bn x)=δ (.ah x.cI):=rfl
theorem adw(x:bl):φ 3 (bn x)=δ (.ah x.up):=rfl
theorem azY(x:bl):φ 4 (bn x)=δ (.ah x.down):=rfl
theorem adx(x:bl):φ 5 (bn x)=δ (.ah x.other):=rfl
theorem ao7(x:bl):φ 6 (bn x)=δ (.ah x.fA.kind):=rfl
theorem ao8(x:bl):φ 7 (bn x)=δ (sl 2 gY x.fA.bV):=rfl
theorem ao9(x:bl):φ 8 (bn x)=δ (.bool x.block):=rfl
theorem ady(x:bl):φ 9 (bn x)=δ (.ah x.cM):=rfl
theorem acp(x:bl):φ 10 (bn x)=δ (sl 8 gE x.ef):=rfl
theorem Tr(x:bl):l7 6 2 (bn x)=δ (.agg (nv x.fA)):=rfl
theorem Lg(x:bl):l7 0 11 (bn x)=δ (.agg (bn x)):=rfl
theorem PR(x:bl):ψ 11 (.agg (bn x))=δ (bn x):=rfl
theorem IE(x:bl)(l:an)(h:l.length=11):Φ 0 (bn x) l=δ (bn x):=by simp [Φ,apH,h]
structure bI where
 key:aI
 value:nP
 bw:Int
deriving DecidableEq
def dS(x:bI):an:=[.ah x.key.unit,.str x.key.param,.ah x.value.level,.ah x.value.iw,.ah x.bw]
theorem am1(x:bI):(dS x).length=5:=rfl
theorem apr(x:bI)(l:an)(h:l.length=5):Φ 0 (dS x) l=δ (dS x):=by simp [Φ,am1,h]
structure auw where
 unit:Int
 eD:Int
 to:Int
deriving DecidableEq
structure jU where
 au:Int
 bg:(List bl)
def eZ(x:jU):an:=[.ah x.au,sl 11 bn x.bg]
theorem aom(x:jU):(eZ x).length=2:=rfl
def Qp(x:jU):Prop:=aU x.au/\(fI D6) x.bg
theorem anu(x:jU):φ 0 (eZ x)=δ (.ah x.au):=rfl
theorem ar3(x:jU):φ 1 (eZ x)=δ (sl 11 bn x.bg):=rfl
theorem aqA(x:jU):l7 0 2 (eZ x)=δ (.agg (eZ x)):=rfl
theorem apL(x:jU):ψ 2 (.agg (eZ x))=δ (eZ x):=rfl
theorem Iu(x:jU)(l:an)(h:l.length=2):Φ 0 (eZ x) l=δ (eZ x):=by simp [Φ,aom,h]
structure iC where
 au:Int
 list:Int
 jT:Int
deriving DecidableEq
def cr(x:iC):an:=[.ah x.au,.ah x.list,.ah x.jT]
theorem ak0(x:iC):(cr x).length=3:=rfl
def aco(x:iC):Prop:=aU x.au/\aU x.list/\aU x.jT
theorem akD(x:iC):φ 0 (cr x)=δ (.ah x.au):=rfl
theorem akE(x:iC):φ 1 (cr x)=δ (.ah x.list):=rfl
theorem akF(x:iC):φ 2 (cr x)=δ (.ah x.jT):=rfl
theorem alH(x:iC):l7 0 3 (cr x)=δ (.agg (cr x)):=rfl
theorem alr(x:iC):ψ 3 (.agg (cr x))=δ (cr x):=rfl
theorem TP(x:iC)(l:an)(h:l.length=3):Φ 0 (cr x) l=δ (cr x):=by simp [Φ,ak0,h]
structure ct where
 bh:iH
 cG:(List lF)
 bZ:(List jU)
 aS:(List iC)
def bu(x:ct):an:=[sl 3 dF x.bh.bA,sl 4 dr x.bh.dK,sl 3 fk x.cG,sl 2 eZ x.bZ,sl 3 cr x.aS]
def rQ(x:ct):Prop:=D7 x.bh/\(fI BQ) x.cG/\(fI Qp) x.bZ/\(fI aco) x.aS
theorem abT(x:ct):φ 0 (bu x)=δ (sl 3 dF x.bh.bA):=rfl
theorem abU(x:ct):φ 4 (bu x)=δ (sl 3 cr x.aS):=rfl
structure cW where
 time:Int
 kind:Int
 gD:Int
 bw:Int
 level:Int
deriving DecidableEq
def bz(x:cW):an:=[.ah x.time,.ah x.kind,.ah x.gD,.ah x.bw,.ah x.level]
theorem alY(x:cW):(bz x).length=5:=rfl
def aqy(x:cW):Prop:=aU x.time/\aU x.kind/\aU x.gD/\aU x.bw/\aU x.level
theorem alF(x:cW):φ 0 (bz x)=δ (.ah x.time):=rfl
theorem Fg(x:cW):l7 0 5 (bz x)=δ (.agg (bz x)):=rfl
theorem an6(x:cW)(l:an)(h:l.length=5):Φ 0 (bz x) l=δ (bz x):=by simp [Φ,alY,h]
structure cV where
 ep:Int
 action:cW
deriving DecidableEq
def dW(x:cV):an:=[.ah x.ep,.ah x.action.time,.ah x.action.kind,.ah x.action.gD,.ah x.action.bw,.ah x.action.level]
theorem am2(x:cV):(dW x).length=6:=rfl
def DI(x:cV):Prop:=aU x.ep/\aqy x.action
theorem amh(x:cV):φ 0 (dW x)=δ (.ah x.ep):=rfl
theorem ami(x:cV):φ 1 (dW x)=δ (.ah x.action.time):=rfl
theorem amj(x:cV):φ 2 (dW x)=δ (.ah x.action.kind):=rfl
theorem amk(x:cV):φ 3 (dW x)=δ (.ah x.action.gD):=rfl
theorem aml(x:cV):φ 4 (dW x)=δ (.ah x.action.bw):=rfl
theorem amm(x:cV):φ 5 (dW x)=δ (.ah x.action.level):=rfl
theorem aj9(x:cV):l7 1 5 (dW x)=δ (.agg (bz x.action)):=rfl
theorem apa(x:cV):l7 0 6 (dW x)=δ (.agg (dW x)):=rfl
theorem aor(x:cV):ψ 6 (.agg (dW x))=δ (dW x):=rfl
theorem U5(x:cV)(l:an)(h:l.length=6):Φ 0 (dW x) l=δ (dW x):=by simp [Φ,am2,h]
structure ati where
 hours:Int
 minutes:Int
 seconds:Int
 frames:Int
deriving DecidableEq
structure Cl where
 key:aI
 gG:iF
 mm:Int
 ending:Bool
def lH(x:Cl):an:=[.ah x.key.unit,.str x.key.param,.ah x.gG.eD,.ah x.gG.to,.ah x.gG.start,.ah x.gG.cI,.ah x.gG.time,.ah x.gG.fA.kind,sl 2 gY x.gG.fA.bV,.ah x.mm,.bool x.ending]
structure zy where
 gD:Int
 bw:Int
 eF:Int
 wU:Bool
 cM:Int
 runs:(List Cl)
def pX(x:zy):an:=[.ah x.gD,.ah x.bw,.ah x.eF,.bool x.wU,.ah x.cM,sl 11 lH x.runs]
theorem ak1(x:zy):(pX x).length=6:=rfl
theorem aaV(x:zy):φ 1 (pX x)=δ (.ah x.bw):=rfl
theorem aaW(x:zy):φ 2 (pX x)=δ (.ah x.eF):=rfl
theorem aaX(x:zy):φ 3 (pX x)=δ (.bool x.wU):=rfl
theorem aAk(x:zy):ψ 6 (.agg (pX x))=δ (pX x):=rfl
theorem TQ(x:zy)(l:an)(h:l.length=6):Φ 0 (pX x) l=δ (pX x):=by simp [Φ,ak1,h]
structure abz where
 level:Int
 hold:Int
 gG:Int
deriving DecidableEq
structure aeO where
 form:Int
 low:Int
 high:Int
 ayI:Int
 width:Int
 spread:Int
 back:Bool
 ayy:Bool
 steps:(List abz)
structure agM where
 time:Int
 ayA:Int
deriving DecidableEq
structure apB where
 effect:aeO
 keys:(List aI)
 start:Int
 ayO:(List agM)
 JN:Int
 fin:Int
 out:Int
def Kc:an->Heap->aC:=YS λa b σ=>match a,b with
 |.str a,.str b=>δ (.int θ (Ux a.data.toList b.data.toList),σ)
 |_,_=>ξ
def mj(a b:aI):Int:=if ¬(a.unit=b.unit)then(if a.unit<b.unit then -1 else 1)else Ux a.param.data.toList b.param.data.toList
def oK{α:Type}[Inhabited α](cf:α->α->Int)(l:List α):List α:=(Sort.pdq (λx y=>decide (cf x y<0)) l.toArray 0 l.length (XK l.length) η η).toList
def A.LK {α:Type} [Inhabited α] (sz:Nat) (c:α->an) (cf:α->α->Int) (x:AV) (σ:Heap):aC:=match x with
 |.aA=>δ (.aM [],σ)
 |.os id g gM off len=>match σ[id]? with
  | some (.arr g' sz' es) => open Classical in if h : (g = g' /\ sz = sz' /\ gM = sz /\ off + len <= es.length /\ 0 < len /\ len < 4611686018427387904) /\ ∃ l : List α, (es.drop off).take len = l.map c then
    δ (.aM [],σ.set id (.arr g sz (es.take off++(oK cf (V7 h.2)).map c++es.drop (off+len))))else ξ
  |_=>ξ
 |_=>ξ
def JW:an->Heap->aC:=YS λx f σ=>match f with
 |.fn 297 []=>@A.LK bI ⟨⟨⟨0,⟨#[]⟩⟩,⟨0,0⟩,0⟩⟩ 5 dS (λa b=>mj a.key b.key) x σ
 |_=>ξ
section
def NQ (dyn:Nat->an->Heap->aC) (a0 a1:AV) (σ:Heap):aC:=(UT a0).bind λx1=>(p7 (λv2 s3=>(Sq (aj v2 1) x1).bind λx5=>Γ x5 ((UM 3 a0 (aj v2 1)).bind λx6=>((χ x6 s3).bind λc7=>l7 0 3 c7).bind λx8=>(A.jC dyn a1 [x8] s3).bind λr9=>Γ r9.1 (δ (n9,[(aj v2 1),(aj v2 1)],r9.2)) ((Z8 (aj v2 1) (ε 1)).bind λbR=>δ (l9,[(aj v2 0),bR],r9.2))) (δ (Ψ 0,[(aj v2 0),(aj v2 1)],s3))) [(ε 0),(ε 0)] σ).bind λdH=>bif dH.1==Ψ 0 then(l6 σ (ε (-1)) dH.2.2)else bif dH.1==n9 then(l6 σ (aj dH.2.1 0) dH.2.2)else ξ
def NP (dyn:Nat->an->Heap->aC):an->Heap->aC:=Ω η [(.s 3)] .k (YS (NQ dyn))
def NY (dyn:Nat->an->Heap->aC) (a0 a1:AV) (σ:Heap):aC:=(UT a0).bind λx1=>(p7 (λv2 s3=>(Sq (aj v2 1) x1).bind λx5=>Γ x5 ((UM 8 a0 (aj v2 1)).bind λx6=>((χ x6 s3).bind λc7=>l7 0 8 c7).bind λx8=>(A.jC dyn a1 [x8] s3).bind λr9=>Γ r9.1 (δ (n9,[(aj v2 1),(aj v2 1)],r9.2)) ((Z8 (aj v2 1) (ε 1)).bind λbR=>δ (l9,[(aj v2 0),bR],r9.2))) (δ (Ψ 0,[(aj v2 0),(aj v2 1)],s3))) [(ε 0),(ε 0)] σ).bind λdH=>bif dH.1==Ψ 0 then(l6 σ (ε (-1)) dH.2.2)else bif dH.1==n9 then(l6 σ (aj dH.2.1 0) dH.2.2)else ξ
def JU (dyn:Nat->an->Heap->aC):an->Heap->aC:=Ω η [(.s 8)] .k (YS (NY dyn))
def N2 (a0:AV) (σ:Heap):aC:=(A.wu a0 i6).bind λx1=>Γ x1 (δ (i6,σ)) ((Uv 2 (140737488355328 / 16) AV.ez a0 σ).bind λr2=>δ (r2.1,r2.2))
def EV:an->Heap->aC:=A.wT (Ω η [(.s 2)] .k (ZY N2))
def aAr (a0:AV) (σ:Heap):aC:=(A.wu a0 i6).bind λx1=>Γ x1 (δ (i6,σ)) ((Uv 8 (140737488355328 / 64) AV.ez a0 σ).bind λr2=>δ (r2.1,r2.2))
def aze:an->Heap->aC:=A.wT (Ω η [(.s 8)] .k (ZY aAr))
def Hj (dyn:Nat->an->Heap->aC) (a0 a1 a2:AV) (σ:Heap):aC:=(UT a0).bind λx1=>(p7 (λv2 s3=>(Sq (aj v2 0) (aj v2 1)).bind λx5=>Γ x5 ((Z8 (aj v2 0) (aj v2 1)).bind λx6=>(A.conv .u64 x6).bind λx7=>(A.shr x7 (Z6 .u64 1)).bind λx8=>(A.conv θ x8).bind λx9=>(UM 11 a0 x9).bind λbR=>((χ bR s3).bind λgn=>l7 0 11 gn).bind λdc=>(A.jC dyn a2 [dc,a1] s3).bind λqB=>(Sq qB.1 (ε 0)).bind λdI=>(Γ dI ((Z8 x9 (ε 1)).bind λdJ=>δ ([dJ,(aj v2 1)],qB.2)) (δ ([(aj v2 0),x9],qB.2))).bind λmC=>δ (l9,[(aj mC.1 0),(aj mC.1 1)],mC.2)) (δ (Ψ 0,[(aj v2 0),(aj v2 1)],s3))) [(ε 0),x1] σ).bind λEI=>bif EI.1==Ψ 0 then((Sq (aj EI.2.1 0) x1).bind λdh=>(μ dh η (δ a2) aB).bind λfC=>(μ dh η (δ a0) aB).bind λew=>(μ dh η (δ (aj EI.2.1 0)) aB).bind λdm=>(μ dh η (UM 11 ew dm) aB).bind λey=>(μ dh η ((χ ey EI.2.2).bind λiK=>l7 0 11 iK) aB).bind λx24=>(μ dh η (δ a1) aB).bind λx25=>(μ dh η (wh (A.jC dyn fC [x24,x25] EI.2.2) EI.2.2) aB).bind λfF=>(μ dh η (Wn .i fF (ε 0)) aB).bind λfG=>(p9 dh fG aY).bind λx28=>l6 σ (XF [(aj EI.2.1 0),x28]) EI.2.2)else ξ
def Hi (dyn:Nat->an->Heap->aC):an->Heap->aC:=Ω η [(.s 11)] .k (A.lJ (Hj dyn))
def aad (a0:AV) (σ:Heap):aC:=(A.wu a0 i6).bind λx1=>Γ x1 (δ (i6,σ)) ((Uv 11 (140737488355328 / 128) AV.ez a0 σ).bind λr2=>δ (r2.1,r2.2))
def N3:an->Heap->aC:=A.wT (Ω η [(.s 11)] .k (ZY aad))
def N1 (dyn:Nat->an->Heap->aC) (a0 a1:AV) (σ:Heap):aC:=(UT a0).bind λx1=>(p7 (λv2 s3=>(Sq (aj v2 1) x1).bind λx5=>Γ x5 ((UM 11 a0 (aj v2 1)).bind λx6=>((χ x6 s3).bind λc7=>l7 0 11 c7).bind λx8=>(A.jC dyn a1 [x8] s3).bind λr9=>Γ r9.1 (δ (n9,[(aj v2 1),(aj v2 1)],r9.2)) ((Z8 (aj v2 1) (ε 1)).bind λbR=>δ (l9,[(aj v2 0),bR],r9.2))) (δ (Ψ 0,[(aj v2 0),(aj v2 1)],s3))) [(ε 0),(ε 0)] σ).bind λdH=>bif dH.1==Ψ 0 then(l6 σ (ε (-1)) dH.2.2)else bif dH.1==n9 then(l6 σ (aj dH.2.1 0) dH.2.2)else ξ
def EU (dyn:Nat->an->Heap->aC):an->Heap->aC:=Ω η [(.s 11)] .k (YS (N1 dyn))
def NS (dyn:Nat->an->Heap->aC) (a0 a1:AV) (σ:Heap):aC:=(EU dyn [a0,a1] σ).bind λr1=>(ZC r1.1 (ε 0)).bind λx2=>l6 σ x2 r1.2
def NR (dyn:Nat->an->Heap->aC):an->Heap->aC:=Ω η [(.s 11)] .k (YS (NS dyn))
def NX (dyn:Nat->an->Heap->aC) (a0 a1:AV) (σ:Heap):aC:=(UT a0).bind λx1=>(p7 (λv2 s3=>(Sq (aj v2 1) x1).bind λx5=>Γ x5 ((UM 2 a0 (aj v2 1)).bind λx6=>((χ x6 s3).bind λc7=>l7 0 2 c7).bind λx8=>(A.jC dyn a1 [x8] s3).bind λr9=>Γ r9.1 (δ (n9,[(aj v2 1),(aj v2 1)],r9.2)) ((Z8 (aj v2 1) (ε 1)).bind λbR=>δ (l9,[(aj v2 0),bR],r9.2))) (δ (Ψ 0,[(aj v2 0),(aj v2 1)],s3))) [(ε 0),(ε 0)] σ).bind λdH=>bif dH.1==Ψ 0 then(l6 σ (ε (-1)) dH.2.2)else bif dH.1==n9 then(l6 σ (aj dH.2.1 0) dH.2.2)else ξ
def NW (dyn:Nat->an->Heap->aC):an->Heap->aC:=Ω η [(.s 2)] .k (YS (NX dyn))
def NO (dyn:Nat->an->Heap->aC) (a0 a1:AV) (σ:Heap):aC:=(UT a0).bind λx1=>(p7 (λv2 s3=>(Sq (aj v2 1) x1).bind λx5=>Γ x5 ((UM 3 a0 (aj v2 1)).bind λx6=>((χ x6 s3).bind λc7=>l7 0 3 c7).bind λx8=>(A.jC dyn a1 [x8] s3).bind λr9=>Γ r9.1 (δ (n9,[(aj v2 1),(aj v2 1)],r9.2)) ((Z8 (aj v2 1) (ε 1)).bind λbR=>δ (l9,[(aj v2 0),bR],r9.2))) (δ (Ψ 0,[(aj v2 0),(aj v2 1)],s3))) [(ε 0),(ε 0)] σ).bind λdH=>bif dH.1==Ψ 0 then(l6 σ (ε (-1)) dH.2.2)else bif dH.1==n9 then(l6 σ (aj dH.2.1 0) dH.2.2)else ξ
def NM (dyn:Nat->an->Heap->aC):an->Heap->aC:=Ω η [(.s 3)] .k (YS (NO dyn))
def NL (dyn:Nat->an->Heap->aC) (a0 a1:AV) (σ:Heap):aC:=(NM dyn [a0,a1] σ).bind λr1=>(ZC r1.1 (ε 0)).bind λx2=>l6 σ x2 r1.2
def NK (dyn:Nat->an->Heap->aC):an->Heap->aC:=Ω η [(.s 3)] .k (YS (NL dyn))
def ar5 (a0:AV) (σ:Heap):aC:=(A.wu a0 i6).bind λx1=>Γ x1 (δ (i6,σ)) ((Uv 3 (140737488355328 / 24) AV.ez a0 σ).bind λr2=>δ (r2.1,r2.2))
def R6:an->Heap->aC:=A.wT (Ω η [(.s 3)] .k (ZY ar5))
def Sg (a0:AV) (σ:Heap):aC:=(A.wu a0 i6).bind λx1=>Γ x1 (δ (i6,σ)) ((Uv 4 (140737488355328 / 40) AV.ez a0 σ).bind λr2=>δ (r2.1,r2.2))
def Se:an->Heap->aC:=A.wT (Ω η [(.s 4)] .k (ZY Sg))
def aaa (a0:AV) (σ:Heap):aC:=(A.wu a0 i6).bind λx1=>Γ x1 (δ (i6,σ)) ((Uv 7 (140737488355328 / 80) AV.ez a0 σ).bind λr2=>δ (r2.1,r2.2))
def Sa:an->Heap->aC:=A.wT (Ω η [(.s 7)] .k (ZY aaa))
def Sc (a0:AV) (σ:Heap):aC:=(A.wu a0 i6).bind λx1=>Γ x1 (δ (i6,σ)) ((Uv 3 (140737488355328 / 32) AV.ez a0 σ).bind λr2=>δ (r2.1,r2.2))
def Sb:an->Heap->aC:=A.wT (Ω η [(.s 3)] .k (ZY Sc))
def R9 (a0:AV) (σ:Heap):aC:=(A.wu a0 i6).bind λx1=>Γ x1 (δ (i6,σ)) ((Uv 3 (140737488355328 / 32) AV.ez a0 σ).bind λr2=>δ (r2.1,r2.2))
def R8:an->Heap->aC:=A.wT (Ω η [(.s 3)] .k (ZY R9))
def Ho (a0:AV) (σ:Heap):aC:=(A.wu a0 i6).bind λx1=>Γ x1 (δ (i6,σ)) ((Uv 10 (140737488355328 / 96) AV.ez a0 σ).bind λr2=>δ (r2.1,r2.2))
def Hl:an->Heap->aC:=A.wT (Ω ι [] .k (ZY Ho))
def NT (dyn:Nat->an->Heap->aC) (a0 a1:AV) (σ:Heap):aC:=(UT a0).bind λx1=>(p7 (λv2 s3=>(Sq (aj v2 1) x1).bind λx5=>Γ x5 ((UM 10 a0 (aj v2 1)).bind λx6=>((χ x6 s3).bind λc7=>l7 0 10 c7).bind λx8=>(A.jC dyn a1 [x8] s3).bind λr9=>Γ r9.1 (δ (n9,[(aj v2 1),(aj v2 1)],r9.2)) ((Z8 (aj v2 1) (ε 1)).bind λbR=>δ (l9,[(aj v2 0),bR],r9.2))) (δ (Ψ 0,[(aj v2 0),(aj v2 1)],s3))) [(ε 0),(ε 0)] σ).bind λdH=>bif dH.1==Ψ 0 then(l6 σ (ε (-1)) dH.2.2)else bif dH.1==n9 then(l6 σ (aj dH.2.1 0) dH.2.2)else ξ
def Di (dyn:Nat->an->Heap->aC):an->Heap->aC:=Ω η [(.s 10)] .k (YS (NT dyn))
def aaj (a0:AV) (σ:Heap):aC:=(((Θ a0).bind λv=>δ [v]).bind λcs=>δ (Sf cs)).bind λx1=>l6 σ (AV.fn 359 [x1]) σ
def N4:an->Heap->aC:=Ω η [] .k (ZY aaj)
def NV (dyn:Nat->an->Heap->aC) (a0 a1:AV) (σ:Heap):aC:=(UT a0).bind λx1=>(p7 (λv2 s3=>(Sq (aj v2 1) x1).bind λx5=>Γ x5 ((UM 6 a0 (aj v2 1)).bind λx6=>((χ x6 s3).bind λc7=>l7 0 6 c7).bind λx8=>(A.jC dyn a1 [x8] s3).bind λr9=>Γ r9.1 (δ (n9,[(aj v2 1),(aj v2 1)],r9.2)) ((Z8 (aj v2 1) (ε 1)).bind λbR=>δ (l9,[(aj v2 0),bR],r9.2))) (δ (Ψ 0,[(aj v2 0),(aj v2 1)],s3))) [(ε 0),(ε 0)] σ).bind λdH=>bif dH.1==Ψ 0 then(l6 σ (ε (-1)) dH.2.2)else bif dH.1==n9 then(l6 σ (aj dH.2.1 0) dH.2.2)else ξ
def NU (dyn:Nat->an->Heap->aC):an->Heap->aC:=Ω η [(.s 6)] .k (YS (NV dyn))
def NN (dyn:Nat->an->Heap->aC) (a0 a1:AV) (σ:Heap):aC:=(NU dyn [a0,a1] σ).bind λr1=>(ZC r1.1 (ε 0)).bind λx2=>l6 σ x2 r1.2
def JT (dyn:Nat->an->Heap->aC):an->Heap->aC:=Ω η [(.s 6)] .k (YS (NN dyn))
def EX (a0 a1:AV) (σ:Heap):aC:=(Sq a1 (ε 0)).bind λx1=>(Γ x1 (((ξ:Option AV)).bind λx3=>δ (([]:an),σ)) (δ (([]:an),σ))).bind λr2=>A.Bg (A.F5 a0) (λx4=>(UT a0).bind λx5=>(T6 x4 x5).bind λx6=>(T6 a1 x6).bind λx7=>(Tt x7 (ε 0)).bind λx8=>(Γ x8 (A.Bg (A.F5 a0) (λbR=>(A.qd 5 a0 ξ (δ bR) r2.2).bind λcR=>(A.zK 5 (140737488355328 / 40) [(ε 0),(ε 0),(ε 0),(ε 0),(ε 0)] cR x7 r2.2).bind λgp=>(UT a0).bind λdg=>(A.qd 5 gp.1 ξ (δ dg) gp.2).bind λdI=>δ ([dI],gp.2)) (A.Ee a0 r2.2 λn15 nL=>(A.qd 5 a0 ξ (δ (ε n15)) nL).bind λdz=>(A.zK 5 (140737488355328 / 40) [(ε 0),(ε 0),(ε 0),(ε 0),(ε 0)] dz x7 nL).bind λEJ=>(UT a0).bind λfC=>(A.qd 5 EJ.1 ξ (δ fC) EJ.2).bind λew=>δ ([ew],EJ.2))) (δ ([a0],r2.2))).bind λr9=>δ ((aj r9.1 0),r9.2)) (A.Ee a0 r2.2 λn21 xV=>(UT a0).bind λeU=>(T6 (ε n21) eU).bind λx24=>(T6 a1 x24).bind λx25=>(Tt x25 (ε 0)).bind λfF=>(Γ fF (A.Bg (A.F5 a0) (λx28=>(A.qd 5 a0 ξ (δ x28) xV).bind λx29=>(A.zK 5 (140737488355328 / 40) [(ε 0),(ε 0),(ε 0),(ε 0),(ε 0)] x29 x25 xV).bind λxR=>(UT a0).bind λx31=>(A.qd 5 xR.1 ξ (δ x31) xR.2).bind λx32=>δ ([x32],xR.2)) (A.Ee a0 xV λn33 s34=>(A.qd 5 a0 ξ (δ (ε n33)) s34).bind λgj=>(A.zK 5 (140737488355328 / 40) [(ε 0),(ε 0),(ε 0),(ε 0),(ε 0)] gj x25 s34).bind λrJ=>(UT a0).bind λeY=>(A.qd 5 rJ.1 ξ (δ eY) rJ.2).bind λx38=>δ ([x38],rJ.2))) (δ ([a0],xV))).bind λmO=>δ ((aj mO.1 0),mO.2))
def EW:an->Heap->aC:=Ω ι [] .k (YS EX)
def N0 (a0:AV) (σ:Heap):aC:=(UT a0).bind λx1=>(p7 (λv2 s3=>(Sq (aj v2 1) x1).bind λx5=>Γ x5 ((UM 1 a0 (aj v2 1)).bind λx6=>((χ x6 s3).bind λc7=>φ 0 c7).bind λx8=>(UT x8).bind λx9=>(Z8 (aj v2 0) x9).bind λbR=>(Sq bR (ε 0)).bind λcR=>(Γ cR (((ξ:Option AV)).bind λdg=>δ (([]:an),s3)) (δ (([]:an),s3))).bind λgp=>(Z8 (aj v2 1) (ε 1)).bind λdI=>δ (l9,[bR,dI],gp.2)) (δ (Ψ 0,[(aj v2 0),(aj v2 1)],s3))) [(ε 0),(ε 0)] σ).bind λmC=>bif mC.1==Ψ 0 then((EW [i6,(aj mC.2.1 0)] mC.2.2).bind λxQ=>(UT a0).bind λdz=>(p7 (λgJ rK=>(Sq (aj gJ 1) dz).bind λdm=>Γ dm ((UM 1 a0 (aj gJ 1)).bind λey=>((χ ey rK).bind λiK=>φ 0 iK).bind λx24=>(Uv 5 (140737488355328 / 40) (aj gJ 0) x24 rK).bind λqD=>(Z8 (aj gJ 1) (ε 1)).bind λfF=>δ (l9,[qD.1,fF],qD.2)) (δ (Ψ 2,[(aj gJ 0),(aj gJ 1)],rK))) [xQ.1,(ε 0)] xQ.2).bind λmO=>bif mO.1==Ψ 2 then(δ ((aj mO.2.1 0),mO.2.2))else ξ)else ξ
def NZ:an->Heap->aC:=Ω η [(.s 1)] .k (ZY N0)
end
abbrev ia:={k:aI // 0<=k.unit/\k.unit<=1000000}
instance : Inhabited ia := ⟨⟨⟨0, ⟨#[]⟩⟩, by decide⟩⟩
def KeysOf(es:List (AV×AV))(l:List ia):Prop:=es.map (·.1)=l.map (λk=>Λ (aV k.1))/\l.Nodup/\l.length<=1000000
def JX:an->Heap->aC:=YS λx f σ=>match x,f with
 |.fn 359 [.rp (m::_)],.fn 372 []=>(A.yx m).bind λes=>open Classical in
  if h:∃l:List ia,KeysOf es l then δ (.sl 2 ((oK (λa b:ia=>mj a.1 b.1) (V7 h)).map λk=>aV k.1),σ)else ξ
 |_,_=>ξ
section
def SK (a0:AV) (σ:Heap):aC:=(jS [a0,(ε 0),(ε 65535)] σ).bind λr1=>l6 σ r1.1 r1.2
def Kb:an->Heap->aC:=Ω η [] .k (ZY SK)
def Sv (a0:AV) (σ:Heap):aC:=(UT a0).bind λx1=>(Tt x1 (ε 30)).bind λx2=>Γ x2 (l6 σ (ε 2) σ) ((UT a0).bind λx3=>(p7 (λv4 s5=>(Sq (aj v4 1) x3).bind λx7=>Γ x7 ((UM 3 a0 (aj v4 1)).bind λx8=>((χ x8 s5).bind λc9=>l7 0 3 c9).bind λbR=>(ψ 3 bR).bind λgn=>(Φ 0 gn [(ε 0),(ε 0),dY]).bind λfq=>(φ 0 fq).bind λdg=>(Kb [dg] s5).bind λkn=>(Yr kn.1).bind λeE=>(μ eE ι (φ 1 fq) aB).bind λdJ=>(μ eE ι (wh (Kb [dJ] kn.2) kn.2) aB).bind λdz=>(μ eE ι (Yr dz) aB).bind λdh=>(p9 eE dQ dh).bind λfC=>(μ fC ι (φ 0 fq) aB).bind λew=>(μ fC ι (φ 1 fq) aB).bind λdm=>(μ fC ι (Tt ew dm) aB).bind λey=>(p9 fC dQ ey).bind λeU=>Γ eU (δ (n9,[(ε 1),(aj v4 1)],kn.2)) ((Tt (aj v4 1) (ε 0)).bind λx24=>(μ x24 η (φ 0 fq) aB).bind λx25=>(μ x24 η (δ a0) aB).bind λfF=>(μ x24 η (δ (aj v4 1)) aB).bind λfG=>(μ x24 η (T6 fG (ε 1)) aB).bind λx28=>(μ x24 η (UM 3 fF x28) aB).bind λx29=>(μ x24 η (p5 1 x29) aB).bind λeG=>(μ x24 η ((χ eG kn.2).bind λwk=>φ 0 wk) aB).bind λx32=>(μ x24 η (Y0 x25 x32) aB).bind λiN=>(p9 x24 iN aY).bind λx34=>Γ x34 (δ (n9,[(ε 7),(aj v4 1)],kn.2)) ((φ 2 fq).bind λgj=>(H7 [gj] kn.2).bind λrJ=>(Yr rJ.1).bind λeY=>Γ eY (δ (n9,[(ε 5),(aj v4 1)],rJ.2)) ((φ 2 fq).bind λx38=>(WK .z (Vq σ.length) x38 aY rJ.2).bind λiO=>Γ iO (δ (n9,[(ε 6),(aj v4 1)],rJ.2)) ((φ 2 fq).bind λfH=>(A.iX .z (Vq σ.length) fH dQ rJ.2).bind λh41=>(Z8 (aj v4 1) (ε 1)).bind λlC=>δ (l9,[(aj v4 0),lC],h41)))))) (δ (Ψ 0,[(aj v4 0),(aj v4 1)],s5))) [(ε 0),(ε 0)] (σ++[YE []])).bind λqE=>bif qE.1==Ψ 0 then(l6 σ (ε 0) qE.2.2)else bif qE.1==n9 then(l6 σ (aj qE.2.1 0) qE.2.2)else ξ)
def aBh:an->Heap->aC:=Ω η [(.s 3)] .k (ZY Sv)
def azZ (a0:AV) (σ:Heap):aC:=(ψ 3 a0).bind λc1=>(φ 0 c1).bind λx2=>(H7 [x2] σ).bind λr3=>(Yr r3.1).bind λx4=>Γ x4 (l6 σ (ε 5) r3.2) ((φ 1 c1).bind λx5=>(jS [x5,(ε 1),(ε 512)] r3.2).bind λr6=>(Yr r6.1).bind λx7=>Γ x7 (l6 σ (ε 1) r6.2) ((φ 2 c1).bind λx8=>(UT x8).bind λx9=>(Wn .i x9 (ε 0)).bind λbR=>Γ bR (l6 σ (ε 8) r6.2) ((φ 2 c1).bind λcR=>(UT cR).bind λdc=>(Tt dc (ε 40)).bind λdg=>Γ dg (l6 σ (ε 2) r6.2) ((φ 2 c1).bind λdI=>(UT dI).bind λeE=>(p7 (λeM um=>(Sq (aj eM 2) eE).bind λfC=>Γ fC ((UM 7 dI (aj eM 2)).bind λew=>((χ ew um).bind λkN=>l7 0 7 kN).bind λey=>(ψ 7 ey).bind λiK=>(Φ 0 iK [dY,(ε 0),(ε 0),(ε 0),(ε 0),aY,i6]).bind λjc=>(φ 0 jc).bind λx25=>(H7 [x25] um).bind λlQ=>(Yr lQ.1).bind λfG=>Γ fG (δ (n9,[(aj eM 0),(ε 5),(aj eM 2)],lQ.2)) ((φ 0 jc).bind λx28=>(WK .z (Vq r6.2.length) x28 aY lQ.2).bind λx29=>Γ x29 (δ (n9,[(aj eM 0),(ε 6),(aj eM 2)],lQ.2)) ((φ 1 jc).bind λeG=>(jS [eG,(ε 1),(ε 4)] lQ.2).bind λoa=>(Yr oa.1).bind λx32=>Γ x32 (δ (n9,[(aj eM 0),(ε 4),(aj eM 2)],oa.2)) ((φ 2 jc).bind λiN=>((ZE (aj eM 0)).bind λ_=>δ (1)).bind λZD=>((ZE (aj eM 0)).bind λkg=>φ ZD kg).bind λgX=>(jS [iN,(ε 1),gX] oa.2).bind λjV=>(Yr jV.1).bind λx38=>(μ x38 ι (φ 3 jc) aB).bind λiO=>((ZE (aj eM 0)).bind λ_ => δ (1)).bind λp40 =>(μ x38 ι ((ZE (aj eM 0)).bind λuM=>φ p40 uM) aB).bind λlC=>(μ x38 ι (wh (jS [iO,(ε 0),lC] jV.2) jV.2) aB).bind λji=>(μ x38 ι (Yr ji) aB).bind λjx=>(p9 x38 dQ jx).bind λgO=>(μ gO ι (φ 4 jc) aB).bind λjG=>(μ gO ι (wh (Kb [jG] jV.2) jV.2) aB).bind λjP=>(μ gO ι (Yr jP) aB).bind λjQ=>(p9 gO dQ jQ).bind λgB=>Γ gB (δ (n9,[(aj eM 0),(ε 1),(aj eM 2)],jV.2)) ((φ 2 jc).bind λnM=>(φ 3 jc).bind λiT=>(Wn .i nM iT).bind λfS=>(μ fS ι (δ (Vq (r6.2++[YE []]).length)) aB).bind λmD=>(μ fS ι (φ 2 jc) aB).bind λnN=>(μ fS ι (WK .i mD nN aY jV.2) aB).bind λlD=>(p9 fS dQ lD).bind λkR=>(μ kR ι (φ 3 jc) aB).bind λmE=>(μ kR ι (Tt mE (ε 0)) aB).bind λkq=>(μ kR ι (δ kq) aB).bind λjW=>(μ jW η (δ (Vq (r6.2++[YE []]).length)) aB).bind λkX=>(μ jW η (φ 3 jc) aB).bind λmF=>(μ jW η (WK .i kX mF aY jV.2) aB).bind λiq=>(μ kR ι (p9 jW iq aY) aB).bind λgP=>(p9 kR dQ gP).bind λqG=>Γ qG (δ (n9,[(aj eM 0),(ε 12),(aj eM 2)],jV.2)) ((φ 6 jc).bind λkY=>(aBh [kY] jV.2).bind λDb=>(Uq .i Db.1 (ε 0)).bind λqH=>Γ qH (δ (n9,[(aj eM 0),Db.1,(aj eM 2)],Db.2)) ((φ 0 jc).bind λqI=>(φ 2 jc).bind λjR=>(A.iX .z (Vq r6.2.length) qI dQ Db.2).bind λh70=>(A.iX .i (Vq (r6.2++[YE []]).length) jR dQ h70).bind λRp=>(φ 3 jc).bind λvq=>(Tt vq (ε 0)).bind λoc=>(Γ oc ((φ 3 jc).bind λkr=>(A.iX .i (Vq (r6.2++[YE []]).length) kr dQ Rp).bind λh76=>δ ([(aj eM 0)],h76)) (δ ([(aj eM 0)],Rp))).bind λNb=>(Z8 (aj eM 2) (ε 1)).bind λAJ=>δ (l9,[(aj Nb.1 0),(aj eM 1),AJ],Nb.2)))))))) (δ (Ψ 1,[(aj eM 0),(aj eM 1),(aj eM 2)],um))) [(p6 c1),(ε 0),(ε 0)] ((r6.2++[YE []])++[YE []])).bind λzj=>bif zj.1==Ψ 1 then(l6 σ (ε 0) zj.2.2)else bif zj.1==n9 then(l6 σ (aj zj.2.1 1) zj.2.2)else ξ))))
def Sm:an->Heap->aC:=Ω η [(.a [.k,.k,(.s 7)])] .k (ZY azZ)
def Sn (a0:AV) (σ:Heap):aC:=(UT a0).bind λx1=>(Tt x1 (ε 60)).bind λx2=>Γ x2 (l6 σ (ε 2) σ) ((UT a0).bind λx3=>(p7 (λv4 s5=>(Sq (aj v4 1) x3).bind λx7=>Γ x7 ((UM 3 a0 (aj v4 1)).bind λx8=>((χ x8 s5).bind λc9=>l7 0 3 c9).bind λbR=>(ψ 3 bR).bind λgn=>(Φ 0 gn [dY,(ε 0),i6]).bind λfq=>(l7 0 3 fq).bind λdg=>(Sm [dg] s5).bind λkn=>(Uq .i kn.1 (ε 0)).bind λeE=>Γ eE (δ (n9,[kn.1,(aj v4 1)],kn.2)) ((φ 0 fq).bind λdJ=>(WK .z (Vq σ.length) dJ aY kn.2).bind λdz=>Γ dz (δ (n9,[(ε 6),(aj v4 1)],kn.2)) ((φ 0 fq).bind λdh=>(A.iX .z (Vq σ.length) dh dQ kn.2).bind λh19=>(Z8 (aj v4 1) (ε 1)).bind λew=>δ (l9,[(aj v4 0),ew],h19)))) (δ (Ψ 0,[(aj v4 0),(aj v4 1)],s5))) [(ε 0),(ε 0)] (σ++[YE []])).bind λkW=>bif kW.1==Ψ 0 then(l6 σ (ε 0) kW.2.2)else bif kW.1==n9 then(l6 σ (aj kW.2.1 0) kW.2.2)else ξ)
def Sk:an->Heap->aC:=Ω η [(.s 3)] .k (ZY Sn)
def Sw (a0 a1:AV) (σ:Heap):aC:=(ψ 3 a0).bind λc1=>(φ 0 c1).bind λx2=>((χ a1 σ).bind λc3=>φ 0 c3).bind λx4=>(Wn .z x2 x4).bind λx5=>l6 σ x5 σ
def J4:an->Heap->aC:=Ω η [(.a [.k,.k,(.s 7)])] .k (YS Sw)
def Of (a0 a1:AV) (σ:Heap):aC:=(((Θ a1).bind λv=>δ [v]).bind λcs=>δ (Sf cs)).bind λx1=>(NP (ZG (λ_ _=>ξ) [(64,J4)]) [a0,(AV.fn 64 [x1])] σ).bind λr2=>(Sq r2.1 (ε 0)).bind λx3=>Γ x3 ((ψ 3 (Λ [dY,(ε 0),i6])).bind λc4=>(Φ 0 c4 [dY,(ε 0),i6]).bind λc5=>(l7 0 3 c5).bind λx6=>l6 σ (XF [x6,aY]) r2.2) ((UM 3 a0 r2.1).bind λx7=>((χ x7 r2.2).bind λc8=>l7 0 3 c8).bind λx9=>(ψ 3 x9).bind λfM=>(Φ 0 fM [dY,(ε 0),i6]).bind λgn=>(l7 0 3 gn).bind λdc=>l6 σ (XF [dc,dQ]) r2.2)
def Oc:an->Heap->aC:=Ω η [(.s 3)] (.t [(.a FQ),.k]) (YS Of)
def J7 (a0 a1 a2:AV) (σ:Heap):aC:=(Wn .p a0 Wp).bind λx1=>Γ x1 ((Z8 a1 a2).bind λx2=>(T6 x2 (ε 1)).bind λx3=>(Y0 x3 (ε 512)).bind λx4=>l6 σ x4 σ) ((p7 (λv5 s6=>(Z8 a1 a2).bind λx8=>(Sq (aj v5 1) x8).bind λx9=>Γ x9 ((Tt (aj v5 1) (ε 512)).bind λbR=>(μ bR ι (δ a0) aB).bind λcR=>(μ bR ι (δ (aj v5 1)) aB).bind λdc=>(μ bR ι (SD cR) aB).bind λdg=>(μ bR ι (A.A8 513 1 dg dc) aB).bind λdI=>(μ bR ι ((χ dI s6).bind λkF=>φ 0 kF) aB).bind λdJ=>(p9 bR dQ dJ).bind λdz=>Γ dz (δ (n9,[aY,(aj v5 1)],s6)) ((Z8 (aj v5 1) (ε 1)).bind λdh=>δ (l9,[(aj v5 0),dh],s6))) (δ (Ψ 0,[(aj v5 0),(aj v5 1)],s6))) [aY,a1] σ).bind λnh=>bif nh.1==Ψ 0 then(l6 σ dQ nh.2.2)else bif nh.1==n9 then(l6 σ (aj nh.2.1 0) nh.2.2)else ξ)
def Hr:an->Heap->aC:=Ω η [] .k (A.lJ J7)
def Km (a0 a1 a2:AV) (σ:Heap):aC:=(ψ 4 a1).bind λc1=>(φ 2 c1).bind λx2=>(WK .i a0 x2 Wp σ).bind λx3=>(Wn .p x3 Wp).bind λx4=>(Γ x4 ((φ 2 c1).bind λx6=>(A.iX .i a0 x6 (S7 σ.length 0) (σ++[Sd (Z5 513 aY)])).bind λh7=>δ ([(p6 c1)],h7)) (δ ([(p6 c1)],σ))).bind λr5=>((ZE (aj r5.1 0)).bind λ_=>δ (3)).bind λp8=>((ZE (aj r5.1 0)).bind λc9=>φ p8 c9).bind λbR=>(p7 (λv11 Dd=>((ZE (aj v11 0)).bind λ_=>δ (3)).bind λp14=>((ZE (aj v11 0)).bind λkF=>φ p14 kF).bind λdJ=>(Z8 dJ a2).bind λdz=>(Sq (aj v11 1) dz).bind λdh=>Γ dh (((ZE (aj v11 0)).bind λ_=>δ (2)).bind λp19=>((ZE (aj v11 0)).bind λkG=>φ p19 kG).bind λdm=>(WK .i a0 dm Wp Dd).bind λey=>(SD ey).bind λeU=>(A.A8 513 1 eU (aj v11 1)).bind λx24=>((Θ dQ).bind λv=>δ [v]).bind λiL=>(l8 x24 iL Dd).bind λlz=>(Z8 (aj v11 1) (ε 1)).bind λfG=>δ (l9,[(aj v11 0),fG],lz)) (δ (Ψ 0,[(aj v11 0),(aj v11 1)],Dd))) [(aj r5.1 0),bR] r5.2).bind λuX=>bif uX.1==Ψ 0 then(δ ((XF []),uX.2.2))else ξ
def Oo:an->Heap->aC:=Ω ι [] .k (A.lJ Km)
def SF (a0:AV) (σ:Heap):aC:=(ψ 2 a0).bind λc1=>(φ 0 c1).bind λx2=>(Sk [x2] σ).bind λr3=>(Uq .i r3.1 (ε 0)).bind λx4=>Γ x4 (l6 σ r3.1 r3.2) ((φ 1 c1).bind λx5=>(UT x5).bind λx6=>(Tt x6 (ε 400)).bind λx7=>Γ x7 (l6 σ (ε 2) r3.2) ((φ 1 c1).bind λx8=>(UT x8).bind λx9=>(p7 (λv10 wC=>(Sq (aj v10 2) x9).bind λdg=>Γ dg ((UM 4 x8 (aj v10 2)).bind λdI=>((χ dI wC).bind λkF=>l7 0 4 kF).bind λdJ=>(ψ 4 dJ).bind λmL=>(Φ 0 mL [(ε 0),dY,(ε 0),(ε 0)]).bind λjt=>(φ 0 jt).bind λfC=>(jS [fC,(ε 1),(ε 9999)] wC).bind λuj=>(Yr uj.1).bind λdm=>Γ dm (δ (n9,[(aj v10 0),(ε 1),(aj v10 2)],uj.2)) ((Tt (aj v10 2) (ε 0)).bind λey=>(μ ey η (φ 0 jt) aB).bind λeU=>((ZE (aj v10 0)).bind λ_ => δ (1)).bind λp24 =>(μ ey η ((ZE (aj v10 0)).bind λiL=>φ p24 iL) aB).bind λfF=>(μ ey η (δ (aj v10 2)) aB).bind λfG=>(μ ey η (T6 fG (ε 1)) aB).bind λx28=>(μ ey η (UM 4 fF x28) aB).bind λx29=>(μ ey η (p5 0 x29) aB).bind λeG=>(μ ey η ((χ eG uj.2).bind λwk=>φ 0 wk) aB).bind λx32=>(μ ey η (Y0 eU x32) aB).bind λiN=>(p9 ey iN aY).bind λx34=>Γ x34 (δ (n9,[(aj v10 0),(ε 7),(aj v10 2)],uj.2)) (((ZE (aj v10 0)).bind λ_=>δ (0)).bind λp35=>((ZE (aj v10 0)).bind λmM=>φ p35 mM).bind λeY=>(φ 1 jt).bind λx38=>(Oc [eY,x38] uj.2).bind λuY=>(TH 0 uY.1).bind λfH=>(TH 1 uY.1).bind λiP=>(ψ 3 fH).bind λkO=>(Φ 0 kO [dY,(ε 0),i6]).bind λsG=>(Yr iP).bind λjx=>Γ jx (δ (n9,[(aj v10 0),(ε 5),(aj v10 2)],uY.2)) ((φ 2 jt).bind λgO=>(jS [gO,(ε 1),(ε 64)] uY.2).bind λnK=>(Yr nK.1).bind λjP=>(μ jP ι (φ 3 jt) aB).bind λjQ=>(μ jP ι (wh (jS [jQ,(ε 1),(ε 512)] nK.2) nK.2) aB).bind λgB=>(μ jP ι (Yr gB) aB).bind λnM=>(p9 jP dQ nM).bind λiT=>(μ iT ι (φ 3 jt) aB).bind λfS=>(μ iT ι (φ 1 sG) aB).bind λmD=>(μ iT ι (Z8 fS mD) aB).bind λnN=>(μ iT ι (T6 nN (ε 1)) aB).bind λlD=>(μ iT ι (Tt lD (ε 512)) aB).bind λkR=>(p9 iT dQ kR).bind λmE=>Γ mE (δ (n9,[(aj v10 0),(ε 1),(aj v10 2)],nK.2)) ((φ 2 jt).bind λkq=>(WK .i (Vq r3.2.length) kq Wp nK.2).bind λjW=>(φ 3 jt).bind λkX=>(φ 1 sG).bind λmF=>(Hr [jW,kX,mF] nK.2).bind λZM=>(Yr ZM.1).bind λgP=>Γ gP (δ (n9,[(aj v10 0),(ε 12),(aj v10 2)],ZM.2)) ((l7 0 4 jt).bind λqG=>(φ 1 sG).bind λkY=>(Oo [(Vq r3.2.length),qG,kY] ZM.2).bind λDb=>(Z8 (aj v10 2) (ε 1)).bind λqH=>δ (l9,[(aj v10 0),(aj v10 1),qH],Db.2))))))) (δ (Ψ 0,[(aj v10 0),(aj v10 1),(aj v10 2)],wC))) [(p6 c1),(ε 0),(ε 0)] (r3.2++[YE []])).bind λDc=>bif Dc.1==Ψ 0 then(l6 σ (ε 0) Dc.2.2)else bif Dc.1==n9 then(l6 σ (aj Dc.2.1 1) Dc.2.2)else ξ))
def N9:an->Heap->aC:=Ω η [(.a [(.s 3),(.s 4)])] .k (ZY SF)
def Kl (a0:AV) (σ:Heap):aC:=(ψ 2 a0).bind λc1=>(l7 0 2 c1).bind λx2=>(N9 [x2] σ).bind λr3=>(Uq .i r3.1 (ε 0)).bind λx4=>Γ x4 (l6 σ (XF [i6,r3.1]) r3.2) ((φ 1 c1).bind λx5=>(UT x5).bind λx6=>(p7 (λv7 s8=>(Sq (aj v7 2) x6).bind λbR=>Γ bR ((UM 4 x5 (aj v7 2)).bind λcR=>((χ cR s8).bind λfq=>l7 0 4 fq).bind λdg=>(ψ 4 dg).bind λjN=>(Φ 0 jN [(ε 0),dY,(ε 0),(ε 0)]).bind λkF=>((ZE (aj v7 0)).bind λ_=>δ (0)).bind λp16=>((ZE (aj v7 0)).bind λmL=>φ p16 mL).bind λdh=>(φ 1 kF).bind λfC=>(Oc [dh,fC] s8).bind λuj=>(TH 0 uj.1).bind λdm=>(TH 1 uj.1).bind λey=>(ψ 3 dm).bind λiK=>(Φ 0 iK [dY,(ε 0),i6]).bind λjc=>(φ 2 jc).bind λx25=>(UT x25).bind λfF=>(p7 (λzk ZT=>(Sq (aj zk 3) fF).bind λeG=>Γ eG ((UM 7 x25 (aj zk 3)).bind λx31=>((χ x31 ZT).bind λCK=>l7 0 7 CK).bind λiN=>(ψ 7 iN).bind λuL=>(Φ 0 uL [dY,(ε 0),(ε 0),(ε 0),(ε 0),aY,i6]).bind λkg=>((ZE (aj zk 2)).bind λ_=>δ (0)).bind λp36=>((ZE (aj zk 2)).bind λlK=>φ p36 lK).bind λx38=>(φ 0 kg).bind λiO=>((((Θ x38).bind λv=>δ [v]).bind λBu=>(Φ 0 Bu [(ε 0),dY]).bind λuM=>((Θ iO).bind λv=>δ [v]).bind λkO=>(Φ 1 kO uM).bind λsG=>δ sG).bind λcs=>δ (Λ cs)).bind λjx=>(((ψ 2 jx).bind λuN=>(Φ 0 uN [(ε 0),dY]).bind λGD=>δ GD).bind λcs=>δ (SQ 2 (gd 2 1 cs))).bind λjP=>(Uv 2 (140737488355328 / 24) (aj zk 1) jP ZT).bind λve=>(Z8 (aj zk 3) (ε 1)).bind λgB=>δ (l9,[(aj zk 0),ve.1,(aj zk 2),gB],ve.2)) (δ (Ψ 2,[(aj zk 0),(aj zk 1),(aj zk 2),(aj zk 3)],ZT))) [(aj v7 0),(aj v7 1),(p6 kF),(ε 0)] uj.2).bind λjv=>bif jv.1==Ψ 2 then((Z8 (aj v7 2) (ε 1)).bind λiT=>δ (l9,[(aj jv.2.1 0),(aj jv.2.1 1),iT],jv.2.2))else ξ) (δ (Ψ 0,[(aj v7 0),(aj v7 1),(aj v7 2)],s8))) [(p6 c1),i6,(ε 0)] r3.2).bind λG3=>bif G3.1==Ψ 0 then(l6 σ (XF [(aj G3.2.1 1),(ε 0)]) G3.2.2)else ξ)
def HL:an->Heap->aC:=Ω η [(.a [(.s 3),(.s 4)])] (.t [(.s 2),.k]) (ZY Kl)
end
section
def T7 (a0:AV) (σ:Heap):aC:=(ψ 2 a0).bind λc1=>(l7 0 2 c1).bind λx2=>(HL [x2] σ).bind λr3=>(TH 0 r3.1).bind λx4=>(TH 1 r3.1).bind λx5=>(UT x4).bind λx6=>(p7 (λv7 s8=>(Sq (aj v7 0) x6).bind λbR=>Γ bR ((UM 2 x4 (aj v7 0)).bind λcR=>((χ cR s8).bind λfq=>l7 0 2 fq).bind λdg=>(ψ 2 dg).bind λjN=>(Φ 0 jN [(ε 0),dY]).bind λkF=>(l7 0 2 kF).bind λdJ=>(A.iX (.s [0,2]) (Vq r3.2.length) dJ dQ s8).bind λYT=>(Z8 (aj v7 0) (ε 1)).bind λdh=>δ (l9,[dh],YT)) (δ (Ψ 0,[(aj v7 0)],s8))) [(ε 0)] (r3.2++[YE []])).bind λnh=>bif nh.1==Ψ 0 then(l6 σ (Vq r3.2.length) nh.2.2)else ξ
def TW:an->Heap->aC:=Ω η [(.a [(.s 3),(.s 4)])] .k (ZY T7)
def TI (a0:AV) (σ:Heap):aC:=(Wn .z a0 dY).bind λx1=>(μ x1 ι (δ a0) aB).bind λx2=>(μ x1 ι (wh (OH [x2] σ) σ) aB).bind λx3=>(p9 x1 dQ x3).bind λx4=>l6 σ x4 σ
def TC:an->Heap->aC:=Ω η [] .k (ZY TI)
def Th (a0:AV) (σ:Heap):aC:=(jS [a0,(ε 0),(ε 65535)] σ).bind λr1=>l6 σ r1.1 r1.2
def Ot:an->Heap->aC:=Ω η [] .k (ZY Th)
def az7 (a0 a1:AV) (σ:Heap):aC:=(ψ 2 a0).bind λc1=>(ψ 2 a1).bind λc2=>(φ 0 c1).bind λx3=>(φ 0 c2).bind λx4=>(Uq .i x3 x4).bind λx5=>Γ x5 ((φ 0 c1).bind λx6=>(φ 0 c2).bind λx7=>(Sq x6 x7).bind λx8=>l6 σ x8 σ) ((φ 1 c1).bind λx9=>(φ 1 c2).bind λbR=>(Kc [x9,bR] σ).bind λdH=>(Sq dH.1 (ε 0)).bind λdc=>l6 σ dc dH.2)
def auz:an->Heap->aC:=Ω η [] .k (YS az7)
def Sz (a0 a1:AV) (σ:Heap):aC:=(ψ 2 a0).bind λc1=>(l7 0 2 c1).bind λx2=>(N9 [x2] σ).bind λr3=>(UT a1).bind λx4=>(Tt x4 (ε 200)).bind λx5=>(mG [x5,(ε 2)] r3.2).bind λr6=>((((Θ r3.1).bind λv=>δ [v]).bind λc7=>(Φ 0 c7 [(ε 0),(ε 0)]).bind λc8=>((Θ r6.1).bind λv=>δ [v]).bind λc9=>(Φ 1 c9 c8).bind λfM=>δ fM).bind λcs=>δ (SQ 1 (gd 1 2 cs))).bind λcR=>(qM [cR] r6.2).bind λgp=>(Uq .i gp.1 (ε 0)).bind λdg=>Γ dg (l6 σ gp.1 gp.2) ((l7 0 2 c1).bind λdI=>(TW [dI] gp.2).bind λmC=>(UT a1).bind λdJ=>(p7 (λv17 sS=>(Sq (aj v17 1) dJ).bind λew=>Γ ew ((UM 3 a1 (aj v17 1)).bind λdm=>((χ dm sS).bind λgR=>l7 0 3 gR).bind λeU=>(ψ 3 eU).bind λjc=>(Φ 0 jc [(ε 0),dY,i6]).bind λiL=>(φ 0 iL).bind λfF=>(jS [fF,(ε 1),(ε 999)] sS).bind λmO=>(Yr mO.1).bind λx28=>Γ x28 (δ (n9,[(ε 1),(aj v17 1)],mO.2)) ((Tt (aj v17 1) (ε 0)).bind λx29=>(μ x29 η (φ 0 iL) aB).bind λeG=>(μ x29 η (δ a1) aB).bind λx31=>(μ x29 η (δ (aj v17 1)) aB).bind λx32=>(μ x29 η (T6 x32 (ε 1)) aB).bind λiN=>(μ x29 η (UM 3 x31 iN) aB).bind λx34=>(μ x29 η (p5 0 x34) aB).bind λgj=>(μ x29 η ((χ gj mO.2).bind λmM=>φ 0 mM) aB).bind λeY=>(μ x29 η (Y0 eG eY) aB).bind λx38=>(p9 x29 x38 aY).bind λiO=>Γ iO (δ (n9,[(ε 7),(aj v17 1)],mO.2)) ((φ 1 iL).bind λfH=>(TC [fH] mO.2).bind λuZ=>(Yr uZ.1).bind λlC=>Γ lC (δ (n9,[(ε 3),(aj v17 1)],uZ.2)) ((φ 2 iL).bind λji=>(UT ji).bind λjx=>(Tt jx (ε 2000)).bind λgO=>Γ gO (δ (n9,[(ε 2),(aj v17 1)],uZ.2)) ((φ 2 iL).bind λjG=>(UT jG).bind λjP=>(p7 (λrN Nl=>(Sq (aj rN 2) jP).bind λiT=>Γ iT ((UM 3 jG (aj rN 2)).bind λfS=>((χ fS Nl).bind λuP=>l7 0 3 uP).bind λnN=>(ψ 3 nN).bind λpP=>(Φ 0 pP [(ε 0),dY,(ε 0)]).bind λsI=>(l7 0 2 sI).bind λmE=>(WK (.s [0,2]) mC.1 mE aY Nl).bind λkq=>(Yr kq).bind λjW=>Γ jW (δ (n9,[(ε 8),(aj rN 1),(aj rN 2)],Nl)) ((φ 2 sI).bind λkX=>(Ot [kX] Nl).bind λwB=>(Yr wB.1).bind λiq=>Γ iq (δ (n9,[(ε 1),(aj rN 1),(aj rN 2)],wB.2)) ((Tt (aj rN 2) (ε 0)).bind λgP=>((ZE (aj rN 1)).bind λ_ => δ (2)).bind λp64 =>(μ gP η ((ZE (aj rN 1)).bind λME=>φ p64 ME) aB).bind λjH=>(μ gP η (δ (aj rN 2)) aB).bind λqH=>(μ gP η (T6 qH (ε 1)) aB).bind λqI=>(μ gP η (UM 3 jH qI) aB).bind λjR=>(μ gP η (p5 0 jR) aB).bind λmQ=>(μ gP η ((χ mQ wB.2).bind λwm=>l7 0 2 wm) aB).bind λvq=>(μ gP η (l7 0 2 sI) aB).bind λoc=>(μ gP η (wh (auz [vq,oc] wB.2) wB.2) aB).bind λsY=>(μ gP η (Yr sY) aB).bind λkr=>(p9 gP kr aY).bind λrO=>Γ rO (δ (n9,[(ε 7),(aj rN 1),(aj rN 2)],wB.2)) ((Z8 (aj rN 2) (ε 1)).bind λAJ=>δ (l9,[(aj rN 0),(aj rN 1),AJ],wB.2))))) (δ (Ψ 3,[(aj rN 0),(aj rN 1),(aj rN 2)],Nl))) [(aj v17 0),(p6 iL),(ε 0)] uZ.2).bind λzj=>bif zj.1==Ψ 3 then((Z8 (aj v17 1) (ε 1)).bind λxX=>δ (l9,[(aj zj.2.1 0),xX],zj.2.2))else bif zj.1==n9 then(δ (n9,[(aj zj.2.1 0),(aj v17 1)],zj.2.2))else ξ))))) (δ (Ψ 0,[(aj v17 0),(aj v17 1)],sS))) [(ε 0),(ε 0)] mC.2).bind λNc=>bif Nc.1==Ψ 0 then(l6 σ (ε 0) Nc.2.2)else bif Nc.1==n9 then(l6 σ (aj Nc.2.1 0) Nc.2.2)else ξ)
def N6:an->Heap->aC:=Ω η [(.a [(.s 3),(.s 4)]),(.s 3)] .k (YS Sz)
def ar1 (a0 a1 a2:AV) (σ:Heap):aC:=(ψ 2 a1).bind λc1=>(ψ 2 a2).bind λc2=>(φ 0 c2).bind λx3=>(Uq .i x3 (ε 0)).bind λx4=>(μ x4 η (φ 1 c2) aB).bind λx5=>(μ x4 η (Uq .i x5 (ε 0)) aB).bind λx6=>(p9 x4 x6 aY).bind λx7=>Γ x7 (l6 σ (XF [(ε 0),(ε 3)]) σ) ((φ 0 c2).bind λx8=>(Ot [x8] σ).bind λr9=>(Yr r9.1).bind λbR=>Γ bR (l6 σ (XF [(ε 0),(ε 1)]) r9.2) ((φ 1 c2).bind λcR=>(Wn .i cR (ε 0)).bind λdc=>Γ dc ((φ 0 c2).bind λdg=>l6 σ (XF [dg,(ε 0)]) r9.2) ((UT a0).bind λdI=>(p7 (λjh nL=>(Sq (aj jh 4) dI).bind λdh=>Γ dh ((UM 3 a0 (aj jh 4)).bind λfC=>((χ fC nL).bind λkG=>l7 0 3 kG).bind λdm=>(ψ 3 dm).bind λgR=>(Φ 0 gR [(ε 0),dY,i6]).bind λiK=>(φ 0 iK).bind λx24=>((ZE (aj jh 1)).bind λ_=>δ (1)).bind λp25=>((ZE (aj jh 1)).bind λlz=>φ p25 lz).bind λfG=>(Uq .i x24 fG).bind λx28=>Γ x28 ((Z8 (aj jh 4) (ε 1)).bind λx29=>δ (l9,[(aj jh 0),(aj jh 1),(aj jh 2),(aj jh 3),x29],nL)) ((φ 2 iK).bind λeG=>(UT eG).bind λx31=>(p7 (λv32 RV=>(Sq (aj v32 3) x31).bind λgj=>Γ gj ((UM 3 eG (aj v32 3)).bind λgX=>((χ gX RV).bind λlK=>l7 0 3 lK).bind λx38=>(ψ 3 x38).bind λmY=>(Φ 0 mY [(ε 0),dY,(ε 0)]).bind λBu=>(l7 0 2 Bu).bind λiP=>((ZE (aj v32 0)).bind λkO=>l7 0 2 kO).bind λji=>(Wn (.s [0,2]) iP ji).bind λjx=>Γ jx ((φ 2 Bu).bind λgO=>δ (n9,[(aj v32 0),gO,(ε 0),(aj v32 3)],RV)) ((Z8 (aj v32 3) (ε 1)).bind λjG=>δ (l9,[(aj v32 0),(aj v32 1),(aj v32 2),jG],RV))) (δ (Ψ 2,[(aj v32 0),(aj v32 1),(aj v32 2),(aj v32 3)],RV))) [(aj jh 0),(aj jh 2),(aj jh 3),(ε 0)] nL).bind λqF=>bif qF.1==Ψ 2 then(δ (Ψ 0,[(aj qF.2.1 0),AV.undef,(aj qF.2.1 1),(aj qF.2.1 2),(aj jh 4)],qF.2.2))else bif qF.1==n9 then(δ (n9,[(aj qF.2.1 0),AV.undef,(aj qF.2.1 1),(aj qF.2.1 2),(aj jh 4)],qF.2.2))else ξ)) (δ (Ψ 0,[(aj jh 0),(aj jh 1),(aj jh 2),(aj jh 3),(aj jh 4)],nL))) [(p6 c1),(p6 c2),(ε 0),(ε 0),(ε 0)] r9.2).bind λve=>bif ve.1==Ψ 0 then(l6 σ (XF [(ε 0),(ε 8)]) ve.2.2)else bif ve.1==n9 then(l6 σ (XF [(aj ve.2.1 2),(aj ve.2.1 3)]) ve.2.2)else ξ)))
def Ku:an->Heap->aC:=Ω η [(.s 3)] .k (A.lJ ar1)
end
end
end Go.Proofs.YtmjgmpmhipenjaaGreat
