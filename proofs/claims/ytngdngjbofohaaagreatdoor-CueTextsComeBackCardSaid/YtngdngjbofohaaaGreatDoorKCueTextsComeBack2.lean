/- Parts of the proof of CueTextsComeBack, in order. -/
import Derived.Lib.Bytealg
import Derived.Sort.Defs
import Derived.Lib.BitFns
import Derived.Lib.Strings
import Derived.Lib.Split
import Derived.Lib.IndexMore
import Derived.Lib.TrimByte
import Derived.Lib.Join
import Derived.Lib.Atoi
import Derived.Test.YtngdngjbofohaaaGreatDoorKCueTextsComeBack1
namespace Go.Proofs.YtngdngjbofohaaaGreatDoor
set_option linter.unusedVariables false
set_option linter.unusedSimpArgs false
set_option linter.unusedSectionVars false
set_option maxRecDepth 1000000
noncomputable section
open Go.Sem renaming run_pure->Zz,run->Za,run_bind->i7
open List renaming getElem?_set_ne->Z4,mem_map_of_mem->aoV,range_eq_range'->Z1,length_map->XZ,replicate->w8,filterMap_cons->ao1,mem_iff_getElem?->S1,nil_append->ZH,mem_cons_self->p6,contains_iff_mem->aoP,getElem?_cons_zero->SD,range'_succ->apw,getD->ZI,filter_cons->ap5,length_append->p5,all_cons->Rq,mem_replicate->Zn,mem_filter->ZD,getElem?_take_of_lt->UY,length_nil->Zh,range'->ZQ,not_mem_nil->ZF,getElem?_take->aoH,mem_filterMap->Ud,mem_iff_getElem->To,length_cons->n9,filter_eq_self->apv,set_comm->ZE,map_congr_left->Ub
open Bool renaming not_eq_true'->VC,not_eq_false'->aoJ,and_false->ZO,not_true->AV,true_and->Y8,false_or->ZV,false->ε,false_eq_true->n5,not_false->Zy,true->ι
open A renaming add->u9,cell->n8,append->SI,bF->ZJ,sub->Uw,pick->ir,storeAt->WG,cV->YK,aH->n4,fin->Θ,gtr->ZR,eql->p4,dI->UU,bn->Zv,iter->aoM,tab->aoQ,look->Zl,loop->Zp,ext->j0,aN->p9,cells->Φ,lb->Zm,cond->Γ,deref->Ψ,neq->Lu,guard->θ,gen->aoR,quiet->Zf,aA->Ω,lss->ZS,bM->ZG,not->Zo
open U renaming rp->T3,az->l6,str->ψ,aD->IM,int->Ru,op->UK,lbx->Z3,ah->η,agg->l7
open AX renaming ret->l8,exit->i6,normal->y9
open aF renaming mono->UN
open Go.Lib renaming trimRightB->apH,compareBytes->R4,decNat->apI
open Nat renaming add_zero->aps,zero_add->ZP,blt->aoD
open _root_.Array renaming getD->ao6,all_eq_true_iff_forall_mem->apb,toList_append->apt,getElem?_setIfInBounds_ne->ZM,replicate->V1,getElem?_toList->ZT
open Option.some renaming injEq->χ
open Go.MapKept renaming heap_alloc->Zr
open Option renaming getD_some->ZY,isNone_none->SJ,none->μ,some->δ,getD_none->ZZ
open Prod.mk renaming injEq->Ξ
open Go.Region renaming wanted->ZU,ready->WQ,binds->XM
open Go.Call renaming operands->apW
open Go.Result renaming andThen_ok->Λ
open AS renaming put->aoI
open IntKind renaming i64->ξ
open Go.Oper renaming upon_value->apR
open bw renaming nth->apd
open List.cons renaming injEq->VP
open Go.Op renaming operands->l5
open an renaming mono->ZK
open bQ renaming map->Z2
open Classical renaming choose_spec->Zx
section
open Go.RowKit
section
variable {X : Fx} {z : Z} {s : AS} {a : Act} {w w' : World} {E : List Pl} {pb : Nat -> Option Nat} {R : Type}
theorem mR{o:Oper}{v:Value}{w':World}{K:Act->World->Prop}{Q:Exit->Act->World->Prop}(h:(execOp a.eval o).run X.P w=.ok (.value v) w')(k:K (a.put o.dst v) w'):o.wp X.P a w K Q:=by unfold Oper.wp;rw[h,apR];exact k
theorem MK{o:Oper}{w':World}{K:Act->World->Prop}{Q:Exit->Act->World->Prop}(h:(execOp a.eval o).run X.P w=.ok .skip w')(k:K (a.put o.dst undef) w'):o.wp X.P a w K Q:=by unfold Oper.wp;rw[h,Oper.upon_skip];exact k
theorem St.undef(h:St X z s a w E pb)(d:Option Nat):St X z (s.put X d (.az [])) (a.put d undef) w E pb:=
 h.put d (by simp only[an];exact⟨#[],rfl,by simp [aF]⟩)
theorem uD(hs:fU X)(h:St X z s a w E pb){o:Oper}{k:AS->Option R}{r:R}(hk:((eR X o s μ).bind λv=>k (s.put X o.dst v))=δ r) {K:Act->World->Prop} {Q:Exit->Act->World->Prop}
  (hK:∀s' a' w' E' bL,St X z s' a' w' E' bL->k s'=δ r->K a' w'):o.wp X.P a w K Q:=by
 obtain⟨av,h1,h2⟩:=bh.1 hk;exact anX hs h (tag:=μ) trivial h1 λv w' E' h3 h4=>hK _ _ _ _ _ (h3.put o.dst h4) h2
theorem afx(h:St X z s a w E pb){q str:Bool}{i:Operand}{dst:Option Nat}{ty:TypeId}{pos:String}{af:Array Edge}{g:Option (Nat×Bool)}{k:AS->Option R}{r:R}
  (hk:(bif q||str then μ else A.xz (ev X s i) s.σ λv σ=>k ((s.heap σ).put X dst v))=δ r) {K:Act->World->Prop} {Q:Exit->Act->World->Prop}
  (hK:∀s' a' w' E' bL,St X z s' a' w' E' bL->k s'=δ r->K a' w'):Oper.wp X.P ⟨dst,.next i str,ty,pos,af,g⟩ a w K Q:=by
 cases hq:(q||str)
 ·rw[hq]at hk;simp only[bA]at hk;simp only[kH]at hq;obtain⟨rfl,rfl⟩:=hq;obtain⟨av,σ',v',w',k1,k2,k3,k4⟩:=afy (ty:=ty) h hk (dA h i);exact mR (w':=w') (by simp [execOp,k2]) (hK _ _ _ _ _ (k3.put dst k4) k1)
 ·rw[hq]at hk;cases hk
theorem abu(hs:fU X)(h:St X z s a w E pb){d t n:Nat}{ps:Array (Nat×Operand)}{ty:TypeId}{pos:String}{af:Array Edge}{g:Option (Nat×Bool)}{k:AS->Option R}{r:R}
  (hk:((eR X ⟨δ d,.buildSlice t n ps,ty,pos,af,g⟩ s μ).bind λv=>A.BO v λsz es=>k ((s.heap (s.σ++[.arr es.length sz es])).put X (δ d) (.os s.σ.length es.length sz 0 es.length)))=δ r) {K:Act->World->Prop} {Q:Exit->Act->World->Prop}
  (hK:∀s' a' w' E' bL,St X z s' a' w' E' bL->k s'=δ r->K a' w'):Oper.wp X.P ⟨δ d,.buildSlice t n ps,ty,pos,af,g⟩ a w K Q:=by
 obtain⟨v,h1,h2⟩:=bh.1 hk;unfold A.BO at h2;split at h2
 ·rename_i sz es;cases hl:(es.length==0)
  ·rw[hl]at h2;simp only[bA]at h2;have hne:0<es.length:=by simp at hl;exact List.length_pos_iff.2 hl
   obtain⟨arr,et,e1,e2,e3,e4,e5⟩:=amO h h1;have hlen:=h.heap.len;simp only[ctx]at hlen;refine mR e1 (hK _ _ _ _ _ ((h.uR (.cells arr et) (.arr es.length sz es) ⟨w.heap.size,0,es.length,sz,arr.size⟩ rfl λhx=>?_).put (δ d) (av:=.os s.σ.length es.length sz 0 es.length) ?_) h2)
   ·have hb:=(Zr w (.cells arr et)).1;exact⟨rfl,hne,rfl,e3,⟨arr,et,hb,rfl⟩,by rw[e2];simp,e4 _ hb hx,wV hb e5⟩
   ·simp only[an];refine⟨hne,⟨w.heap.size,0,es.length,sz,arr.size⟩,by show(E++[_])[s.σ.length]? =_;rw[<-hlen];exact xB,cg _,⟨w.heap.size,0,μ⟩,es.length,rfl,cg _,λ_=>⟨rfl,.inr (by simp),by rw[e2];simp⟩⟩
  ·rw[hl]at h2;cases h2
 ·cases h2
theorem V8(hs:fU X)(h:St X z s a w E pb){q:Bool}{o:Oper}{k:AS->Option R}{r:R}(hk:eZ X q o s k=δ r){K:Act->World->Prop}{Q:Exit->Act->World->Prop}
  (hK:∀s' a' w' E' bL,St X z s' a' w' E' bL->k s'=δ r->K a' w'):o.wp X.P a w K Q:=by
 unfold eZ at hk;cases hp:gQ X o s μ with
 |some p=>obtain⟨b,rr⟩:=p;rw[hp]at hk;simp only at hk;obtain⟨off,h1,h2⟩:=bh.1 hk;subst h1;obtain⟨n,k1,k2⟩:=Wb h (tag:=μ) trivial hp;exact mR k2 (hK _ _ _ _ _ (h.N1 o.dst (λ_=>⟨n,k1,rfl⟩)) h2)
 |none=>
  rw[hp]at hk;simp only at hk;obtain⟨dst,op,ty,pos,af,g⟩:=o;cases op<;>simp only at hk<;>first|exact afx h hk hK|exact uD hs h hk hK|skip
  case alloc t=>
   cases dst with
   |none=>cases hk
   |some d=>
    simp only at hk;cases hL:X.L.contains d
    ·rw[hL]at hk;simp only[bA]at hk;cases hO:X.O.contains d
     ·rw[hO]at hk;exact uD hs h hk hK
     ·rw[hO]at hk;simp only[bR]at hk;split at hk
      ·rename_i cs hz;obtain⟨i,v,h1,h2,h3,h4,h5,h6⟩:=td (w:=w) hz (ctx z w E pb)
       have hrun:(execOp a.eval ⟨δ d,.alloc t,ty,pos,af,g⟩).run X.P w=.ok (.value (.pointer (δ ⟨w.heap.size,0,μ⟩))) (w.alloc (.cells v.cells t)):=by simp [execOp,Instr.alloc,h3,newVar,sW]
       have hst:=h.uR (.cells v.cells t) (.box cs) ⟨w.heap.size,0,0,0,0⟩ rfl (λhx=>by
        have hb:(w.alloc (.cells v.cells t)).heap[w.heap.size]? =δ (.cells v.cells t (0,0)):=(Zr w _).1
        exact⟨rfl,⟨_,_,hb,by have:=h5.length;simpa using this.symm⟩,aS.uo hb (UN hx _ _ h5) h6 (λi hi=>by simp)⟩)
       have hlen:=h.heap.len;simp only[ctx]at hlen;refine mR hrun (hK _ _ _ _ _ (hst.put (δ d) (av:=.op s.σ.length 0) ?_) hk);simp only[an];exact⟨⟨w.heap.size,0,0,0,0⟩,by show(E++[_])[s.σ.length]? =_;rw[<-hlen];exact xB,rfl,rfl⟩
      ·cases hk
    ·rw[hL]at hk;simp only[bR]at hk;split at hk
     ·rename_i cs hz;obtain⟨i,v,h1,h2,h3,h4,h5,h6⟩:=td (w:=w) hz (ctx z w E pb)
      have hrun:(execOp a.eval ⟨δ d,.alloc t,ty,pos,af,g⟩).run X.P w=.ok (.value (.pointer (δ ⟨w.heap.size,0,μ⟩))) (w.alloc (.cells v.cells t)):=by simp [execOp,Instr.alloc,h3,newVar,sW]
      obtain⟨bL,hst⟩:=h.lA d hL (vs:=v.cells.toList) t h5 h6;exact mR hrun (hK _ _ _ _ _ (by simpa using hst) hk)
     ·cases hk
  case box t x=>
   cases dst with
   |none=>cases hk
   |some d=>
    simp only at hk;cases hL:X.L.contains d
    ·rw[hL]at hk;simp only[bA]at hk;cases hO:X.O.contains d
     ·rw[hO]at hk;exact uD hs h hk hK
     ·rw[hO]at hk;simp only[bR]at hk;obtain⟨cs,h1,h2⟩:=bh.1 hk;obtain⟨h5,h6,_,_⟩:=A2 X h1 (dA h x)
      have hrun:(execOp a.eval ⟨δ d,.box t x,ty,pos,af,g⟩).run X.P w=.ok (.value (.pointer (δ ⟨w.heap.size,0,μ⟩))) (w.alloc (.cells (a.eval x).cells t)):=by simp [execOp,Instr.box,newVar,sW]
      have hst:=h.uR (.cells (a.eval x).cells t) (.box cs) ⟨w.heap.size,0,0,0,0⟩ rfl (λhx=>by
       have hb:(w.alloc (.cells (a.eval x).cells t)).heap[w.heap.size]? =δ (.cells (a.eval x).cells t (0,0)):=(Zr w _).1
       exact⟨rfl,⟨_,_,hb,by have:=h5.length;simpa using this.symm⟩,aS.uo hb (UN hx _ _ h5) h6 (λi hi=>by simp)⟩)
      have hlen:=h.heap.len;simp only[ctx]at hlen;refine mR hrun (hK _ _ _ _ _ (hst.put (δ d) (av:=.op s.σ.length 0) ?_) h2);simp only[an];exact⟨⟨w.heap.size,0,0,0,0⟩,by show(E++[_])[s.σ.length]? =_;rw[<-hlen];exact xB,rfl,rfl⟩
    ·rw[hL]at hk;simp only[bR]at hk;obtain⟨cs,h1,h2⟩:=bh.1 hk;obtain⟨h5,h6,_,_⟩:=A2 X h1 (dA h x)
     have hrun:(execOp a.eval ⟨δ d,.box t x,ty,pos,af,g⟩).run X.P w=.ok (.value (.pointer (δ ⟨w.heap.size,0,μ⟩))) (w.alloc (.cells (a.eval x).cells t)):=by simp [execOp,Instr.box,newVar,sW]
     obtain⟨bL,hst⟩:=h.lA d hL (vs:=(a.eval x).cells.toList) t h5 h6;exact mR hrun (hK _ _ _ _ _ (by simpa using hst) h2)
  case store t x v=>
   split at hk
   ·rename_i b off hp;obtain⟨cs,h1,h2⟩:=bh.1 hk;obtain⟨new,h3,h4⟩:=bh.1 h2;obtain⟨cs',h5,h6⟩:=bh.1 h4;obtain⟨n,k1,k2,k3,k4⟩:=A7 h (tag:=μ) trivial hp h1;obtain⟨r1,r2,r3,d,hd⟩:=A2 X h3 (dA h v);obtain⟨arr,bt,j1,j2,j3⟩:=TV k3;obtain⟨j4,j5⟩:=j2.eX h5 r1;have hrun:=LN (P:=X.P) (t:=t) j1 r3 (RT hd) r2 j5;have hst:=h.agG k1 ⟨cs,k4⟩ (t:=bt) j4 (Bp j3 r2);refine MK (w':=_) ?_ (hK _ _ _ _ _ (hst.undef dst) h6);simp only[execOp,k2,i7];rw[show(Instr.storeAt t (.pointer (δ ⟨n,off,μ⟩)) (a.eval v)).run X.P w=_ from hrun];rfl
   ·obtain⟨new,h3,h4⟩:=bh.1 hk;obtain⟨σ',h5,h6⟩:=bh.1 h4;obtain⟨w',k1,k2⟩:=acK h h3 (dA h v) h5 (dA h x);refine MK (w':=w') ?_ (hK _ _ _ _ _ (k2.undef dst) h6);simp only[execOp,i7,k1];rfl
  case makeMap t rr=>
   cases rr with
   |some x=>cases hk
   |none=>
    simp only at hk
    have hrun:(execOp a.eval ⟨dst,.makeMap t μ,ty,pos,af,g⟩).run X.P w=.ok (.value (.map (δ w.heap.size))) (w.alloc (.map #[] 0)):=by simp [execOp,Instr.makeMap,newObj,Za]
    have hst:=h.uR (.map #[] 0) (.map []) ⟨w.heap.size,0,0,0,0⟩ rfl (λhx=>by
     have hb:(w.alloc (.map #[] 0)).heap[w.heap.size]? =δ (.map #[] 0):=(Zr w _).1
     exact⟨rfl,_,_,hb,me.empty,rfl⟩)
    have hlen:=h.heap.len;simp only[ctx]at hlen;refine mR hrun (hK _ _ _ _ _ (hst.put dst (av:=.om s.σ.length) ?_) hk);simp only[an];exact⟨⟨w.heap.size,0,0,0,0⟩,by show(E++[_])[s.σ.length]? =_;rw[<-hlen];exact xB,rfl,rfl⟩
  case range t x=>
   split at hk
   ·rename_i kt et hd;obtain⟨es,h1,h2⟩:=bh.1 hk;obtain⟨o,k1,k2⟩:=aev h hd h1 (dA h x);have hlen:=h.heap.len;simp only[ctx]at hlen;refine mR (v:=.pointer (δ ⟨w.heap.size,0,μ⟩)) (w':=w.alloc o) (by simp [execOp,k1]) (hK _ _ _ _ _ (k2.put dst (av:=.op s.σ.length 0) ?_) h2);simp only[an];exact⟨⟨w.heap.size,0,0,0,0⟩,by show(E++[_])[s.σ.length]? =_;rw[<-hlen];exact xB,rfl,rfl⟩
   ·cases hk
  case buildSlice t n ps=>
   cases dst with
   |none=>exact uD hs h hk hK
   |some d=>
    simp only at hk;cases hO:X.O.contains d
    ·rw[hO]at hk;exact uD hs h hk hK
    ·rw[hO]at hk;simp only[bR]at hk;exact abu hs h hk hK
  case mapUpdate t m i v=>
   split at hk
   ·rename_i kt et hd;split at hk
    ·rename_i ek he;obtain⟨σ',h1,h2⟩:=bh.1 hk;obtain⟨w',k1,k2⟩:=aft h hd he h1 (dA h m) (dA h i) (dA h v);refine MK (w':=w') ?_ (hK _ _ _ _ _ (k2.undef dst) h2);simp only[execOp,i7,k1];rfl
    ·cases hk
   ·cases hk
  case call c=>
   have hargs:(c.args.map a.eval).toList=c.args.toList.map a.eval:=by simp
   have re:=Bk h c.args.toList;split at hk
   ·rename_i hc;split at hk
    ·rename_i t u x y h1 h2;split at hk
     ·rename_i e e' hd hu;split at hk
      ·rename_i i hi;cases hz0:kE i
       ·rw[hz0]at hk;simp only[bA]at hk;simp only[kE,kH,beq_eq_false_iff_ne]at hz0;obtain⟨⟨z1,z2⟩,z3⟩:=hz0;cases QH:i.zero with
        |none=>rw[QH]at z3;cases z3
        |some zv=>
         rw[QH]at z3;simp only[kH,bne_eq_false_iff_eq,aoJ]at z3;obtain⟨z3,z4⟩:=z3;obtain⟨⟨rr,σ'⟩,h3,h4⟩:=bh.1 hk;rw[h2]at re
         have hl:∃v vy,c.args.toList.map a.eval=[v,vy]/\an (ctx z w E pb) x v/\an (ctx z w E pb) y vy:=by
          generalize c.args.toList.map a.eval=vs at *
          simp only[aF]at re;obtain⟨v,_,rfl,r1,u',_,rfl,r2,rfl⟩:=re;exact⟨v,u',rfl,r1,r2⟩
         obtain⟨v,vy,hvs,r1,r2⟩:=hl;have hone:∀x∈zv.cells.toList,cM x=ι:=kV.1 z4;obtain⟨n,w',E',k1,k2,k3⟩:=acQ (ty:=ty) h hd hu hi QH z3 z1 z2 hone h3 r1 r2;have h1':c.argTypes=#[t,u]:=by apply jI.1;simpa using h1
         have sI:c.args.map a.eval=#[v,vy]:=by apply jI.1;rw[hargs,hvs]
         have hrun:(execOp a.eval ⟨dst,.call c,ty,pos,af,g⟩).run X.P w=.ok (.value n) w':=by simp only[execOp,resolve,hc,i7,Zz,Λ,invoke,builtin,sI,h1',k1]
         exact mR hrun (hK _ _ _ _ _ (k2.put dst k3) h4)
       ·rw[hz0]at hk;cases hk
      ·cases hk
     ·rename_i e kk hd hu;split at hk
      ·rename_i i zs hi hz;cases hz0:kE i
       ·rw[hz0]at hk;simp only[bA]at hk;simp only[kE,kH,beq_eq_false_iff_ne]at hz0;obtain⟨⟨z1,z2⟩,z3⟩:=hz0;obtain⟨i',zv,g1,g2,g3,g4,g5,g6⟩:=td (w:=w) hz (ctx z w E pb);rw[hi]at g1;injection g1 with g1;subst g1
        rw[g2]at z3;simp only[kH,bne_eq_false_iff_eq,aoJ]at z3;obtain⟨z3,z4⟩:=z3
        have nE:∀c,aF c zs zv.cells.toList:=λc=>by
         obtain⟨i2,v2,f1,f2,f3,f4,f5,f6⟩:=td (w:=w) hz c;rw[hi]at f1;injection f1 with f1;subst f1
         rw[g2]at f2;injection f2 with f2;subst f2
         exact f5
        obtain⟨⟨rr,σ'⟩,h3,h4⟩:=bh.1 hk;rw[h2]at re
        have hl:∃v vy,c.args.toList.map a.eval=[v,vy]/\an (ctx z w E pb) x v/\an (ctx z w E pb) y vy:=by
         generalize c.args.toList.map a.eval=vs at *
         simp only[aF]at re;obtain⟨v,_,rfl,r1,u',_,rfl,r2,rfl⟩:=re;exact⟨v,u',rfl,r1,r2⟩
        obtain⟨v,vy,hvs,r1,r2⟩:=hl;obtain⟨n,w',E',k1,k2,k3⟩:=abV (ty:=ty) h hd hu hi g2 z3 z1 z2 nE g6 h3 r1 r2;have h1':c.argTypes=#[t,u]:=by apply jI.1;simpa using h1
        have sI:c.args.map a.eval=#[v,vy]:=by apply jI.1;rw[hargs,hvs]
        have hrun:(execOp a.eval ⟨dst,.call c,ty,pos,af,g⟩).run X.P w=.ok (.value n) w':=by simp only[execOp,resolve,hc,i7,Zz,Λ,invoke,builtin,sI,h1',k1]
        exact mR hrun (hK _ _ _ _ _ (k2.put dst k3) h4)
       ·rw[hz0]at hk;cases hk
      ·cases hk
     ·cases hk
    ·cases hk
   ·rename_i hc;split at hk
    ·rename_i t u x y h1 h2;split at hk
     ·rename_i e e' hd hu;split at hk
      ·rename_i i hi;cases hz0:kE i
       ·rw[hz0]at hk;simp only[bA]at hk;simp only[kE,kH,beq_eq_false_iff_ne]at hz0;obtain⟨⟨z1,z2⟩,z3⟩:=hz0;obtain⟨⟨rr,σ'⟩,h3,h4⟩:=bh.1 hk;rw[h2]at re
        have hl:∃v vy,c.args.toList.map a.eval=[v,vy]/\an (ctx z w E pb) x v/\an (ctx z w E pb) y vy:=by
         generalize c.args.toList.map a.eval=vs at *
         simp only[aF]at re;obtain⟨v,_,rfl,r1,u',_,rfl,r2,rfl⟩:=re;exact⟨v,u',rfl,r1,r2⟩
        obtain⟨v,vy,hvs,r1,r2⟩:=hl;obtain⟨n,w',k1,k2,k3⟩:=ae0 (ty:=ty) h hd hu hi z1 h3 r1 r2;have h1':c.argTypes=#[t,u]:=by apply jI.1;simpa using h1
        have sI:c.args.map a.eval=#[v,vy]:=by apply jI.1;rw[hargs,hvs]
        have hrun:(execOp a.eval ⟨dst,.call c,ty,pos,af,g⟩).run X.P w=.ok (.value n) w':=by simp only[execOp,resolve,hc,i7,Zz,Λ,invoke,builtin,sI,h1',k1]
        exact mR hrun (hK _ _ _ _ _ (k2.put dst k3) h4)
       ·rw[hz0]at hk;cases hk
      ·cases hk
     ·cases hk
    ·cases hk
   ·rename_i hc;cases hv:eR X ⟨dst,.call c,ty,pos,af,g⟩ s μ with
    |some v=>rw[hv]at hk;exact uD hs h (by rw[hv];exact hk) hK
    |none=>
     rw[hv]at hk;simp only[A.DI]at hk;cases q
     ·simp only[bA]at hk;split at hk
      ·rename_i t x h1 h2;split at hk
       ·rename_i e hd;rw[h2]at re
        have hl:∃v,c.args.toList.map a.eval=[v]/\an (ctx z w E pb) x v:=by
         generalize c.args.toList.map a.eval=vs at *
         simp only[aF]at re;obtain⟨v,_,rfl,r1,rfl⟩:=re;exact⟨v,rfl,r1⟩
        obtain⟨v,hvs,r1⟩:=hl;obtain⟨n,σ',k1,k2,k3⟩:=aeU (ty:=ty) h hd hk r1;have h1':c.argTypes=#[t]:=by apply jI.1;simpa using h1
        have sI:c.args.map a.eval=#[v]:=by apply jI.1;rw[hargs,hvs]
        have hrun:(execOp a.eval ⟨dst,.call c,ty,pos,af,g⟩).run X.P w=.ok (.value (.int ξ (n:Int))) w:=by simp only[execOp,resolve,hc,i7,Zz,Λ,invoke,builtin,sI,h1',k2]
        exact mR hrun (hK _ _ _ _ _ (k3.put dst (by simp [an])) k1)
       ·cases hk
      ·cases hk
     ·cases hk
   ·rename_i hc;split at hk
    ·rename_i t x h1 h2;split at hk
     ·rename_i e hd;split at hk
      ·rename_i i zs hi hz;cases hz0:kE i
       ·rw[hz0]at hk;simp only[bA]at hk;simp only[kE,kH,beq_eq_false_iff_ne]at hz0;obtain⟨⟨z1,z2⟩,z3⟩:=hz0;obtain⟨i',zv,g1,g2,g3,g4,g5,g6⟩:=td (w:=w) hz (ctx z w E pb);rw[hi]at g1;injection g1 with g1;subst g1
        rw[g2]at z3;simp only[kH,bne_eq_false_iff_eq,aoJ]at z3;obtain⟨z3,z4⟩:=z3
        have nE:∀c,aF c zs zv.cells.toList:=λc=>by
         obtain⟨i2,v2,f1,f2,f3,f4,f5,f6⟩:=td (w:=w) hz c;rw[hi]at f1;injection f1 with f1;subst f1
         rw[g2]at f2;injection f2 with f2;subst f2
         exact f5
        obtain⟨σ',h3,h4⟩:=bh.1 hk;rw[h2]at re
        have hl:∃v,c.args.toList.map a.eval=[v]/\an (ctx z w E pb) x v:=by
         generalize c.args.toList.map a.eval=vs at *
         simp only[aF]at re;obtain⟨v,_,rfl,r1,rfl⟩:=re;exact⟨v,rfl,r1⟩
        obtain⟨v,hvs,r1⟩:=hl;obtain⟨w',k1,k2⟩:=adV (ty:=ty) h hd (acM X.P hi g2) z3 z1 nE g6 h3 r1;have h1':c.argTypes=#[t]:=by apply jI.1;simpa using h1
        have sI:c.args.map a.eval=#[v]:=by apply jI.1;rw[hargs,hvs]
        have hrun:(execOp a.eval ⟨dst,.call c,ty,pos,af,g⟩).run X.P w=.ok (.value undef) w':=by simp only[execOp,resolve,hc,i7,Zz,Λ,invoke,builtin,sI,h1',k1];rfl
        exact mR hrun (hK _ _ _ _ _ (k2.undef dst) h4)
       ·rw[hz0]at hk;cases hk
      ·cases hk
     ·cases hk
    ·cases hk
   ·rename_i hc;split at hk
    ·rename_i t u m key h1 h2;split at hk
     ·rename_i kt et hd;split at hk
      ·rename_i ek he;obtain⟨σ',h3,h4⟩:=bh.1 hk;rw[h2]at re
       have hl:∃v vy,c.args.toList.map a.eval=[v,vy]/\an (ctx z w E pb) m v/\an (ctx z w E pb) key vy:=by
        generalize c.args.toList.map a.eval=vs at *
        simp only[aF]at re;obtain⟨v,_,rfl,r1,u',_,rfl,r2,rfl⟩:=re;exact⟨v,u',rfl,r1,r2⟩
       obtain⟨v,vy,hvs,r1,r2⟩:=hl;obtain⟨w',k1,k2⟩:=afr (u:=u) (ty:=ty) h hd he h3 r1 r2;have h1':c.argTypes=#[t,u]:=by apply jI.1;simpa using h1
       have sI:c.args.map a.eval=#[v,vy]:=by apply jI.1;rw[hargs,hvs]
       have hrun:(execOp a.eval ⟨dst,.call c,ty,pos,af,g⟩).run X.P w=.ok (.value undef) w':=by simp only[execOp,resolve,hc,i7,Zz,Λ,invoke,builtin,sI,h1',k1];rfl
       exact mR hrun (hK _ _ _ _ _ (k2.undef dst) h4)
      ·cases hk
     ·cases hk
    ·cases hk
   ·exact uD hs h hk hK
   ·rename_i f hc;cases hq:(q&&!X.W.contains f)
    ·rw[hq]at hk;simp only[bA]at hk;obtain⟨⟨rr,σ'⟩,h3,h4⟩:=bh.1 hk;exact C3 h (hs.call _ _ _ _ _ h3) (by rw[hargs];exact re) (RF hc) (λv w' E' h1 h2=>hK _ _ _ _ _ (h1.put dst h2) h4)
    ·rw[hq]at hk;simp only[bR]at hk;exact uD hs h hk hK
   ·rename_i x hnf hc;cases q
    ·simp only[bA]at hk;obtain⟨⟨rr,σ'⟩,h3,h4⟩:=bh.1 hk;have rx:=dA h x;generalize ev X s x=vx at *
     cases vx<;>simp only[A.rK]at h3<;>first|(cases h3;done)|skip
     rename_i fn0 Dl;simp only[an]at rx;obtain⟨f,cs,e1,e2,e3⟩:=rx;rw[<-e2]at h3;have vY:X.dyn (X.nm.getD f 0) (c.args.toList.map (ev X s)++Dl) s.σ=δ (rr,σ'):=by rw[h.nm];exact h3
     exact C3 h (hs.dyn _ _ _ _ _ vY) (vs:=c.args.map a.eval++cs) (by rw[apt,hargs];exact re.append e3) (KM hc e1) (λv w' E' h1 h2=>hK _ _ _ _ _ (h1.put dst h2) h4)
    ·simp only[bR]at hk;exact uD hs h hk hK
   ·cases hk
end
end
section
structure Up where
 d:Option Nat
 v:U
 bx:Option (Nat×U)
 new:Option qd
 rN:Bool
 σ:Option Heap
def mw(rN:Bool)(d:Nat)(a:Option qd):Option qd:=match lu d a with|some p=>bif rN&&p.slot==d then μ else δ p|none=>μ
def Up.sl(u:Up)(l:List U):List U:=match u.d with
 |some d=>(match u.bx with|some (b,x)=>l.set b x|none=>l).set d u.v
 |none=>(match u.bx with|some (b,x)=>l.set b x|none=>l)
def Up.A(u:Up)(A:Nat->Option qd)(t:Nat):Option qd:=match u.d with|none=>A t|some d=>bif t==d then u.new else mw u.rN d (A t)
def Up.ap(u:Up)(s:AS):AS:=⟨u.sl s.sl,u.A s.A,u.σ.getD s.σ⟩
theorem CJ(d:Nat)(a:Option qd):mw ε d a=lu d a:=by unfold mw;cases lu d a<;>rfl
theorem LV(i:Bool)(d:Nat)(a:Option qd):mw i d a=a\/mw i d a=μ:=by
 cases a with
 |none=>left;rfl
 |some p=>
  unfold mw;cases hk:lu d (δ p)with
  |none=>right;rfl
  |some q=>
   simp only
   have:q=p:=by
    simp only[lu]at hk;cases ht:p.tag with
    |none=>rw[ht]at hk;simpa using hk.symm
    |some g=>
     obtain⟨g,w⟩:=g;rw[ht]at hk;simp only at hk;cases hg:(g==d)
     ·rw[hg]at hk;simpa using hk.symm
     ·rw[hg]at hk;cases hk
   subst this;cases hb:(i&&q.slot==d)
   ·left;rfl
   ·right;rfl
theorem G1(i:Bool)(d:Nat):mw i d μ=μ:=rfl
theorem ac4(i j:Bool)(d e:Nat)(a:Option qd):mw i d (mw j e a)=mw j e (mw i d a):=by
 rcases LV i d a with h1|h1<;>rcases LV j e a with h2|h2
 ·rw[h2,h1,h2]
 ·rw[h2,G1,h1,h2]
 ·rw[h2,h1,G1]
 ·rw[h2,G1,h1,G1]
structure Up.Wp (x y : Up) : Prop where
 d:∀d,x.d=δ d->y.d≠δ d
 bx:∀b v,x.bx=δ (b,v)->(∀c w,y.bx=δ (c,w)->c≠b)/\y.d≠δ b
 Ym:∀b v,y.bx=δ (b,v)->(∀c w,x.bx=δ (c,w)->c≠b)/\x.d≠δ b
 nx:∀d,y.d=δ d->mw y.rN d x.new=x.new
 ny:∀d,x.d=δ d->mw x.rN d y.new=y.new
 σ:x.σ=μ\/y.σ=μ
theorem Up.comm{x y:Up}(h:x.Wp y)(s:AS):x.ap (y.ap s)=y.ap (x.ap s):=by
 obtain⟨hd,qO,hby,hnx,hny,eI⟩:=h;unfold Up.ap;congr 1
 ·show x.sl (y.sl s.sl)=y.sl (x.sl s.sl);generalize s.sl=l;obtain⟨xd,xv,xb,xn,xi,xs⟩:=x;obtain⟨yd,yv,yb,yn,yi,ys⟩:=y;simp only at hd qO hby;cases xb with
  |none=>
   cases yb with
   |none=>
    cases xd with
    |none=>cases yd<;>simp [Up.sl]
    |some dx=>cases yd with
     |none=>simp [Up.sl]
     |some dy=>simp only[Up.sl];rw[ZE];intro e;exact hd dx rfl (by rw[e])
   |some bv=>
    obtain⟨b,v⟩:=bv;obtain⟨_,hb⟩:=hby b v rfl;cases xd with
    |none=>cases yd<;>simp [Up.sl]
    |some dx=>
     have hne:dx≠b:=λe=>hb (by rw[e])
     cases yd with
     |none=>simp only[Up.sl];rw[ZE _ _ (λe=>hne e.symm)]
     |some dy=>
      have oW:dx≠dy:=λe=>hd dx rfl (by rw[e])
      simp only[Up.sl];rw[ZE _ _ (λe=>oW e.symm),ZE _ _ (λe=>hne e.symm)]
  |some bv=>
   obtain⟨b,v⟩:=bv;obtain⟨FI,hb⟩:=qO b v rfl;cases yb with
   |none=>
    cases yd with
    |none=>cases xd<;>simp [Up.sl]
    |some dy=>
     have hne:dy≠b:=λe=>hb (by rw[e])
     cases xd with
     |none=>simp only[Up.sl];rw[ZE _ _ hne]
     |some dx=>
      have oW:dx≠dy:=λe=>hd dx rfl (by rw[e])
      simp only[Up.sl];rw[ZE _ _ hne,ZE _ _ (λe=>oW e.symm)]
   |some cw=>
    obtain⟨c,u⟩:=cw;have hcb:c≠b:=FI c u rfl;obtain⟨_,hc⟩:=hby c u rfl;cases xd with
    |none=>
     cases yd with
     |none=>simp only[Up.sl];rw[ZE _ _ hcb]
     |some dy=>
      have hne:dy≠b:=λe=>hb (by rw[e])
      simp only[Up.sl];rw[ZE _ _ hne,ZE _ _ hcb]
    |some dx=>
     have hnc:dx≠c:=λe=>hc (by rw[e])
     cases yd with
     |none=>simp only[Up.sl];rw[ZE _ _ hcb,ZE _ _ (λe=>hnc e.symm)]
     |some dy=>
      have hne:dy≠b:=λe=>hb (by rw[e])
      have oW:dx≠dy:=λe=>hd dx rfl (by rw[e])
      simp only[Up.sl];rw[ZE _ _ hne,ZE _ _ (λe=>oW e.symm),ZE _ _ hcb,ZE _ _ (λe=>hnc e.symm)]
 ·funext t;show x.A (y.A s.A) t=y.A (x.A s.A) t;generalize s.A t=a0;unfold Up.A;cases YZ:x.d with
  |none=>cases y.d<;>rfl
  |some dx=>
   cases Y1:y.d with
   |none=>rfl
   |some dy=>
    have oW:dx≠dy:=λe=>hd dx YZ (by rw[Y1,e])
    simp only;by_cases h1:t=dx
    ·subst h1;have:(t==dy)=ε:=by simpa using oW
     simp only[beq_self_eq_true,bR,this,bA];exact(hnx dy Y1).symm
    ·have h1':(t==dx)=ε:=by simpa using h1
     by_cases h2:t=dy
     ·subst h2;simp only[beq_self_eq_true,bR,h1',bA];exact hny dx YZ
     ·have h2':(t==dy)=ε:=by simpa using h2
      simp only[h1',h2',bA];exact ac4 ..
 ·rcases eI with e|e<;>simp [e]
structure RI (X : Fx) (Rt : List (Nat × Nat)) (Bt : List Nat) (s : AS) : Prop where
 l:∀t b,Rt.lookup t=δ b->X.L.contains b=ι
 a:∀t p,s.A t=δ p->Rt.lookup t=δ p.slot
 v:∀t b,Rt.lookup t=δ b->X.L.contains t=ε->jK (s.sl.getD t .undef)=ι
 b:∀t,Bt.contains t=ι->lD (s.sl.getD t .undef)=ι
def mT(σ σ':Heap):Prop:=∀(id:Nat)(cs:List U),σ[id]? =δ (bQ.box cs)↔σ'[id]? =δ (bQ.box cs)
section
variable {R : Type} {X : Fx} {Rt : List (Nat × Nat)} {Bt : List Nat} {s s' : AS}
theorem Hw(h:RI X Rt Bt s){tag:Option (Nat×Bool)}{x:Operand}{b off:Nat}(hp:place X s tag x=δ (b,off)):ux X Rt x=δ b:=by
 cases x with
 |tmp t=>
  simp only[place]at hp;simp only[ux];cases hL:X.L.contains t
  ·rw[hL]at hp;simp only[bA]at hp ⊢;split at hp
   ·rename_i p hA;cases hc:X.L.contains p.slot
    ·rw[hc]at hp;cases hp
    ·rw[hc]at hp;simp only[bR]at hp;have ha:=h.a t p hA;split at hp
     ·simp only[χ,Ξ]at hp;rw[ha,hp.1]
     ·rename_i g hg;cases ht:(tag==δ g)
      ·rw[ht]at hp;cases hp
      ·rw[ht]at hp;simp only[bR,χ,Ξ]at hp;rw[ha,hp.1]
   ·cases hp
  ·rw[hL]at hp;simp only[bR,χ,Ξ]at hp ⊢;exact hp.1
 |_=>simp [place]at hp
theorem Bg(h:RI X Rt Bt s){tag:Option (Nat×Bool)}{x:Operand}{b:Nat}(hr:ux X Rt x=δ b)(hp:place X s tag x=μ):jK (ev X s x)=ι:=by
 cases x with
 |tmp t=>
  simp only[ux]at hr;cases hL:X.L.contains t
  ·rw[hL]at hr;simp only[bA]at hr;simp only[ev,hL,bA];exact h.v t b hr hL
  ·simp only[place,hL,bR]at hp;cases hp
 |_=>simp [ux]at hr
theorem TY{v:U}{σ:Heap}(h:jK v=ι):Ψ v σ=μ:=by unfold jK at h;split at h<;>first|rfl|cases h
theorem acZ{v:U}{σ σ':Heap}(h:mT σ σ')(hv:lD v=ι):Ψ v σ=Ψ v σ':=by
 cases v<;>first|rfl|skip
 case op id off=>
  simp only[Ψ];cases h1:σ[id]? with
  |none=>
   cases h2:σ'[id]? with
   |none=>rfl
   |some b=>cases b<;>first|rfl|(have:=(h id _).2 h2;rw[h1]at this;cases this)
  |some b=>
   cases b with
   |box cs=>rw[(h id cs).1 h1]
   |_=>
    cases h2:σ'[id]? with
    |none=>rfl
    |some b=>cases b<;>first|rfl|(have:=(h id _).2 h2;rw[h1]at this;cases this)
 case oe id g i off=>cases hv
theorem acJ{v:U}{new:List U}{σ:Heap}(h:jK v=ι):WG v new σ=μ:=by unfold jK at h;split at h<;>first|rfl|cases h
theorem Lx{pl:Nat->Option (Nat×TypeId)}:∀(ps:List (Nat×Operand))(cs:List U),(∀p∈ps,ev X s p.2=ev X s' p.2)->lC X s pl ps cs=lC X s' pl ps cs
 |[],cs,_=>rfl
 |(i,x)::ps,cs,h=>by
  have hx:=h (i,x) (by simp);simp only at hx;simp only[lC,hx];cases pl i with
  |none=>rfl
  |some ot=>simp only;congr 1;funext new;congr 1;funext cs';exact Lx ps cs' (λp hp=>h p (by simp [hp]))
theorem Mj{o:Oper}{tag:Option (Nat×Bool)}(eP:∀x∈o.op.operands.toList,ev X s x=ev X s' x)(hpl:∀x,kX o=δ x->place X s tag x=place X s' tag x)(hb:∀b,rt X Rt o=δ b->s.sl.getD b .undef=s'.sl.getD b .undef)
  (FF:∀x b off,kX o=δ x->place X s' tag x=δ (b,off)->rt X Rt o=δ b):gQ X o s tag=gQ X o s' tag:=by
 obtain⟨dst,op,ty,pos,af,g⟩:=o;cases op<;>simp only[gQ]
 case nilCheck x=>
  rw[hpl x rfl];split
  ·rename_i b off hp;rw[hb b (FF x b off rfl hp)]
  ·rfl
 case fieldAddr t x f=>
  rw[hpl x rfl];split
  ·rename_i b off hp;rw[hb b (FF x b off rfl hp)]
  ·rfl
 case indexAddr t x i=>
  rw[hpl x rfl,eP i (by simp [l5])];split
  ·rename_i b off hp;rw[hb b (FF x b off rfl hp)]
  ·rfl
theorem G5{o:Oper}{tag:Option (Nat×Bool)}(eP:∀x∈o.op.operands.toList,ev X s x=ev X s' x)(hpl:∀x,kX o=δ x->place X s tag x=place X s' tag x)(hb:∀b,rt X Rt o=δ b->s.sl.getD b .undef=s'.sl.getD b .undef)
  (FF:∀x b off,kX o=δ x->place X s' tag x=δ (b,off)->rt X Rt o=δ b) (hno:∀x b,kX o=δ x->rt X Rt o=δ b->place X s' tag x=μ->jK (ev X s' x)=ι) (eI:qv X Rt o=ι->soft Bt o=ε->s.σ=s'.σ) (ajz:qv X Rt o=ι->soft Bt o=ι->mT s.σ s'.σ) (hB:∀t,Bt.contains t=ι->lD (ev X s' (.tmp t))=ι):eR X o s tag=eR X o s' tag:=by
 obtain⟨dst,op,ty,pos,af,g⟩:=o;cases op<;>simp only[eR];case move x=>rw[eP x (by simp [l5])]
 case assign x=>rw[eP x (by simp [l5])]
 case pick x y u=>rw[eP x (by simp [l5]),eP y (by simp [l5]),eP u (by simp [l5])]
 case box t x=>rw[eP x (by simp [l5])]
 case build t ps=>
  have hps:∀p∈ps.toList,ev X s p.2=ev X s' p.2:=λp hp=>eP p.2 (by simp only[l5];simp;exact⟨p.1,by simpa using hp⟩)
  split
  ·rw[Lx ps.toList _ hps]
  ·rfl
 case buildSlice t n ps=>
  have hps:∀p∈ps.toList,ev X s p.2=ev X s' p.2:=λp hp=>eP p.2 (by simp only[l5];simp;exact⟨p.1,by simpa using hp⟩)
  split
  ·split
   ·rw[Lx ps.toList _ hps]
   ·rfl
  ·rfl
 case load t x=>
  rw[hpl x rfl,eP x (by simp [l5])];split
  ·rename_i b off hp;rw[hb b (FF x b off rfl hp)]
  ·rename_i hp;cases hr:rt X Rt ⟨dst,.load t x,ty,pos,af,g⟩with
   |none=>
    cases zU:soft Bt ⟨dst,.load t x,ty,pos,af,g⟩
    ·rw[eI (by simp only[qv,hr,SJ]) zU]
    ·rw[acZ (ajz (by simp only[qv,hr,SJ]) zU) (by
      cases x with
      |tmp u=>exact hB u zU
      |_=>simp [soft]at zU)]
   |some b=>rw[TY (hno x b rfl hr hp),TY (hno x b rfl hr hp)]
 case nilCheck x=>rw[eP x (by simp [l5])]
 case binOp op t x y u=>rw[eP x (by simp [l5]),eP y (by simp [l5])]
 case unOp op t x=>rw[eP x (by simp [l5])]
 case convert a b x=>rw[eP x (by simp [l5])]
 case makeFunc fn first caps=>
  have:caps.toList.map (ev X s)=caps.toList.map (ev X s'):=Ub λx hx=>eP x (by simp [l5];exact .inr (by simpa using hx))
  rw[this]
 case slice t x lo hi mx=>
  have h1:lo.map (ev X s)=lo.map (ev X s'):=by cases lo with|none=>rfl|some y=>simp only[eB];rw[eP y (by simp [l5])]
  have h2:hi.map (ev X s)=hi.map (ev X s'):=by cases hi with|none=>rfl|some y=>simp only[eB];rw[eP y (by simp [l5])]
  rw[eP x (by simp [l5]),h1,h2,eI rfl rfl];split
  ·rfl
  ·split
   ·rw[eP _ (by simp [l5]),eP _ (by simp [l5])]
   ·rfl
 case fieldAddr t x f=>rw[eP x (by simp [l5])]
 case field t x f=>rw[eP x (by simp [l5])]
 case indexAddr t x i=>rw[eP x (by simp [l5]),eP i (by simp [l5])]
 case index t x i=>rw[eP x (by simp [l5]),eP i (by simp [l5])]
 case lookup t x i ok=>rw[eP x (by simp [l5]),eP i (by simp [l5]),eI rfl rfl]
 case extract x i=>rw[eP x (by simp [l5])]
 case entry i=>rw[eP i (by simp [l5]),eI rfl rfl]
 case call c=>
  have ha:c.args.toList.map (ev X s)=c.args.toList.map (ev X s'):=Ub λx hx=>eP x (by simp [l5,apW];exact .inr (by simpa using hx))
  rw[ha,eI rfl rfl];cases hc:c.callee with
  |value f=>have hf:=eP f (by simp [l5,apW,hc]);cases f<;>simp only[hf]
  |_=>rfl
theorem Hf{σ:Heap}{b:bQ}(hb:∀cs,b≠.box cs):mT σ (σ++[b]):=by
 intro id cs;by_cases h:id<σ.length
 ·rw[iK h]
 ·rw[lG (by omega),jH (by omega)];constructor
  ·intro e;cases e
  ·intro e;have:=cW e;simp at this;exact absurd this.symm (hb cs)
theorem MP{σ:Heap}{id:Nat}{b b':bQ}(hb:∀cs,b≠.box cs)(hb':∀cs,b'≠.box cs)(h:σ[id]? =δ b):mT σ (σ.set id b'):=by
 intro i cs;rw[gm];by_cases e:id=i
 ·subst e;rw[h];have hlt:=(cD.1 h).1;simp only[if_true,hlt];constructor
  ·intro e;injection e with e;exact absurd e (hb cs)
  ·intro e;injection e with e;exact absurd e (hb' cs)
 ·simp [e]
theorem yM(σ:Heap):mT σ σ:=λ_ _=>Iff.rfl
theorem adR{ek:A.EK}{m k v:U}{σ σ':Heap}(h:A.jk ek m k v σ=δ σ'):mT σ σ':=by
 unfold A.jk at h;cases hk:A.jg ek k
 ·rw[hk]at h;cases h
 rw[hk]at h;simp only[bR]at h;split at h
 ·split at h
  ·rename_i es hg;obtain⟨es',_,e⟩:=cL.1 h;subst e;exact MP (λcs e=>by cases e) (λcs e=>by cases e) hg
  ·cases h
 ·cases h
theorem anJ{sz most:Nat}{x r:U}{ys:List (List U)}{σ σ':Heap}(h:A.qG sz most x ys σ=δ (r,σ')):mT σ σ':=by
 unfold A.qG at h;split at h
 ·split at h
  ·injection h with h;injection h with _ h;subst h;exact yM _
  ·split at h
   ·injection h with h;injection h with _ h;subst h;exact Hf λcs e=>by cases e
   ·cases h
 ·split at h
  ·injection h with h;injection h with _ h;subst h;exact yM _
  ·split at h
   ·injection h with h;injection h with _ h;subst h;exact Hf λcs e=>by cases e
   ·cases h
 ·split at h
  ·rename_i hg;split at h
   ·split at h
    ·injection h with h;injection h with _ h;subst h;exact yM _
    ·split at h
     ·injection h with h;injection h with _ h;subst h;exact MP (λcs e=>by cases e) (λcs e=>by cases e) hg
     ·injection h with h;injection h with _ h;subst h;exact MP (λcs e=>by cases e) (λcs e=>by cases e) hg
   ·cases h
  ·split at h
   ·injection h with h;injection h with _ h;subst h;exact Hf λcs e=>by cases e
   ·cases h
  ·cases h
 ·cases h
theorem abW{sz most:Nat}{x y r:U}{σ σ':Heap}(h:SI sz most x y σ=δ (r,σ')):mT σ σ':=by unfold SI at h;obtain⟨ys,_,h2⟩:=bh.1 h;exact anJ h2
theorem abt{sz most:Nat}{zs:List U}{x n r:U}{σ σ':Heap}(h:A.C2 sz most zs x n σ=δ (r,σ')):mT σ σ':=by
 unfold A.C2 at h;split at h
 ·split at h
  ·exact anJ h
  ·cases h
 ·cases h
structure Ag (X : Fx) (Rt : List (Nat × Nat)) (Bt : List Nat) (o : Oper) (ls : List Nat) (tag : Option (Nat × Bool)) (s s' : AS) : Prop where
 r1:RI X Rt Bt s
 r2:RI X Rt Bt s'
 eP:∀t∈ls,X.L.contains t=ε->s.sl.getD t .undef=s'.sl.getD t .undef
 pl:∀t,kX o=δ (.tmp t)->place X s tag (.tmp t)=place X s' tag (.tmp t)
 bx:∀b,rt X Rt o=δ b->s.sl.getD b .undef=s'.sl.getD b .undef
 σ:qv X Rt o=ι->soft Bt o=ε->s.σ=s'.σ
 Gd:qv X Rt o=ι->soft Bt o=ι->mT s.σ s'.σ
theorem aet{tag:Option (Nat×Bool)}{x:Operand}{b off:Nat}(h:place X s tag x=δ (b,off)):X.L.contains b=ι:=by
 cases x with
 |tmp t=>
  simp only[place]at h;cases hL:X.L.contains t
  ·rw[hL]at h;simp only[bA]at h;split at h
   ·rename_i p hA;cases hp:X.L.contains p.slot
    ·rw[hp]at h;cases h
    ·rw[hp]at h;simp only[bR]at h;split at h
     ·simp only[χ,Ξ]at h;rw[<-h.1];exact hp
     ·rename_i g hg;cases ht:(tag==δ g)
      ·rw[ht]at h;cases h
      ·rw[ht]at h;simp only[bR,χ,Ξ]at h;rw[<-h.1];exact hp
   ·cases h
  ·rw[hL]at h;simp only[bR,χ,Ξ]at h;rw[<-h.1];exact hL
 |_=>simp [place]at h
theorem Ag.xY{o:Oper}{ls:List Nat}{tag:Option (Nat×Bool)}(h:Ag X Rt Bt o ls tag s s')(hls:∀t,Operand.tmp t∈o.op.operands.toList->t∈ls):∀x∈o.op.operands.toList,ev X s x=ev X s' x:=by
 intro x hx;cases x with
 |tmp t=>
  simp only[ev];cases hL:X.L.contains t
  ·simp only[bA];exact h.eP t (hls t hx) hL
  ·rfl
 |_=>rfl
theorem RI.B5(h:RI X Rt Bt s):∀t,Bt.contains t=ι->lD (ev X s (.tmp t))=ι:=by
 intro t ht;simp only[ev];cases X.L.contains t
 ·exact h.b t ht
 ·rfl
theorem Ag.wk{o:Oper}{ls:List Nat}{tag:Option (Nat×Bool)}(h:Ag X Rt Bt o ls tag s s'):∀x,kX o=δ x->place X s tag x=place X s' tag x:=by
 intro x hx;cases x with
 |tmp t=>exact h.pl t hx
 |_=>rfl
def ym(X:Fx)(d:Option Nat)(v:U):Up:=⟨d,match d with|some d=>bif X.L.contains d then .undef else v|none=>.undef,μ,μ,ε,μ⟩
def F2(X:Fx)(d:Option Nat)(σ:Heap)(v:U):Up:=⟨d,match d with|some d=>bif X.L.contains d then .undef else v|none=>.undef,μ,μ,ε,δ σ⟩
def JO(X:Fx)(d:Option Nat)(b:Nat)(cs:List U):Up:=⟨d,match d with|some d=>bif X.L.contains d then .undef else .az []|none=>.undef,δ (b,.lbx cs),μ,ε,μ⟩
def JN(d:Nat)(cs:List U):Up:=⟨δ d,.lbx cs,μ,μ,ι,μ⟩
def Ci(X:Fx)(d:Option Nat)(b off:Nat)(tag:Option (Nat×Bool)):Up:=
 ⟨d,.undef,μ,match d with|some d=>(bif X.L.contains d||!aoD d X.n then μ else match tag with|some (g,w)=>(bif g==d then μ else δ ⟨b,off,δ (g,w)⟩)|none=>δ ⟨b,off,μ⟩)|none=>μ,ε,μ⟩
theorem By(d:Option Nat)(v:U)(s:AS):s.put X d v=(ym X d v).ap s:=by
 cases d with
 |none=>rfl
 |some d=>simp only[aoI,Up.ap,ym,Up.sl,ZZ];congr 1;funext t;simp only[Up.A,CJ]
theorem ig(d:Option Nat)(v:U)(σ:Heap)(s:AS):(s.heap σ).put X d v=(F2 X d σ v).ap s:=by
 cases d with
 |none=>rfl
 |some d=>simp only[aoI,AS.heap,Up.ap,F2,Up.sl,ZY];congr 1;funext t;simp only[Up.A,CJ]
theorem S7(d:Option Nat)(b:Nat)(cs:List U)(s:AS):(⟨s.sl.set b (.lbx cs),s.A,s.σ⟩:AS).put X d (.az [])=(JO X d b cs).ap s:=by
 cases d with
 |none=>rfl
 |some d=>simp only[aoI,Up.ap,JO,Up.sl,ZZ];congr 1;funext t;simp only[Up.A,CJ]
theorem G3(d:Nat)(cs:List U)(s:AS):s.lA d cs=(JN d cs).ap s:=by simp only[AS.lA,Up.ap,JN,Up.sl,ZZ];congr 1
theorem Im(d:Option Nat)(b off:Nat)(tag:Option (Nat×Bool))(s:AS):s.kq X d b off tag=(Ci X d b off tag).ap s:=by
 cases d with
 |none=>rfl
 |some d=>simp only[AS.kq,Up.ap,Ci,Up.sl,ZZ];congr 1;funext t;simp only[Up.A,CJ];rfl
structure pW (X : Fx) (Rt : List (Nat × Nat)) (Bt : List Nat) (o : Oper) (ls : List Nat) (τ : Heap) (u : Up) : Prop where
 d:u.d=o.dst
 bx:∀b v,u.bx=δ (b,v)->X.L.contains b=ι/\wb X Rt o=δ b
 new:∀p,u.new=δ p->rL o=ι/\(∀g w,p.tag=δ (g,w)->g∈ls)/\rt X Rt o=δ p.slot/\∀d,u.d=δ d->Rt.lookup d=δ p.slot
 box:u.rN=ι->∃d,o.dst=δ d/\X.L.contains d=ι
 σ:u.σ≠μ->mG X Rt o=ι
 v:∀d b,u.d=δ d->Rt.lookup d=δ b->X.L.contains d=ε->jK u.v=ι
 vb:∀d,u.d=δ d->Bt.contains d=ι->lD u.v=ι
 bxv:∀b v,u.bx=δ (b,v)->lD v=ι
 fr:xZ o=ι->∀σ,u.σ=δ σ->mT τ σ
def qg(X:Fx)(Rt:List (Nat×Nat))(Bt:List Nat)(o:Oper):Prop:=(∀d,o.dst=δ d->X.L.contains d=ε->Rt.lookup d=(bif pP o then rt X Rt o else μ))/\∀d,o.dst=δ d->Bt.contains d=ι->chainB Bt o=ι
theorem qg.of{o:Oper}(h:NW X Rt o=ι)(hb:NU Bt o=ι):qg X Rt Bt o:=by
 refine⟨λd hd hL=>?_,λd hd hc=>?_⟩
 ·unfold NW at h;rw[hd]at h;simp only[hL,ZV,beq_iff_eq]at h;exact h
 ·unfold NU at hb;rw[hd]at hb;simp only[hc,AV,ZV]at hb;exact hb
theorem Nz{o:Oper}{ls:List Nat}(v:U)(hR:qg X Rt Bt o)(hv:pP o=ι->∀b,rt X Rt o=δ b->jK v=ι)(QG:chainB Bt o=ι->lD v=ι){τ:Heap}:pW X Rt Bt o ls τ (ym X o.dst v):=by
 refine⟨rfl,(λb v h=>by cases h),(λp h=>by cases h),(λh=>by cases h),(λh=>absurd rfl h),λd b hd hl hL=>?_,λd hd hc=>?_,(λb v h=>by cases h),(λ_ σ h=>by cases h)⟩
 ·simp only[ym]at hd ⊢;rw[hd];simp only[hL,bA];rw[hR.1 d hd hL]at hl;cases ha:pP o
  ·rw[ha]at hl;cases hl
  ·rw[ha]at hl;exact hv ha b hl
 ·have:=QG (hR.2 d hd hc);simp only[ym]at hd ⊢;rw[hd];simp only;cases X.L.contains d
  ·exact this
  ·rfl
theorem pM{o:Oper}{ls:List Nat}(σ:Heap)(v:U)(hR:qg X Rt Bt o)(h:mG X Rt o=ι)(hn:pP o=ε)(hcb:chainB Bt o=ε){τ:Heap}(hf:xZ o=ι->mT τ σ):pW X Rt Bt o ls τ (F2 X o.dst σ v):=by
 refine⟨rfl,(λb v h=>by cases h),(λp h=>by cases h),(λh=>by cases h),(λ_=>h),λd b hd hl hL=>?_,λd hd hc=>?_,(λb v h=>by cases h),(λhw σ' h=>?_)⟩
 ·simp only[F2]at hd;rw[hR.1 d hd hL,hn]at hl;cases hl
 ·have:=hR.2 d hd hc;rw[hcb]at this;cases this
 ·simp only[F2,χ]at h;subst h;exact hf hw
theorem Wm{τ:Heap}{o:Oper}{ls:List Nat}{b off:Nat}{tag:Option (Nat×Bool)}(hR:qg X Rt Bt o)(ha:pP o=ι)(hr:rt X Rt o=δ b)(h:rL o=ι)(ht:∀g w,tag=δ (g,w)->g∈ls):pW X Rt Bt o ls τ (Ci X o.dst b off tag):=by
 refine⟨rfl,(λb v h=>by cases h),(λp hp=>?_),(λh=>by cases h),(λh=>absurd rfl h),(λd b hd hl hL=>rfl),(λ_ _ _=>rfl),(λb v h=>by cases h),(λ_ σ h=>by cases h)⟩
 have key:p.slot=b/\(∀g w,p.tag=δ (g,w)->g∈ls)/\∀d,o.dst=δ d->X.L.contains d=ε:=by
  unfold Ci at hp;simp only at hp;cases hd:o.dst with
  |none=>rw[hd]at hp;cases hp
  |some d=>
   rw[hd]at hp;simp only at hp;cases hc:(X.L.contains d||!aoD d X.n)
   ·rw[hc]at hp;simp only[bA]at hp;have hL:X.L.contains d=ε:=by simp only[kH]at hc;exact hc.1
    cases tag with
    |none=>simp only[χ]at hp;subst hp;exact⟨rfl,(λg w e=>by cases e),λd' e=>by injection e with e;rw[<-e];exact hL⟩
    |some gw=>
     obtain⟨g',w'⟩:=gw;simp only at hp;cases hg:(g'==d)
     ·rw[hg]at hp;simp only[bA,χ]at hp;subst hp;refine⟨rfl,λg w e=>?_,λd' e=>by injection e with e;rw[<-e];exact hL⟩;simp only[χ,Ξ]at e;rw[<-e.1];exact ht g' w' rfl
     ·rw[hg]at hp;cases hp
   ·rw[hc]at hp;cases hp
 refine⟨h,key.2.1,by rw[hr,key.1],λd hd=>?_⟩;have hd':o.dst=δ d:=hd;rw[hR.1 d hd' (key.2.2 d hd'),ha,bR,hr,key.1]
theorem G2(l:List U)(d t:Nat)(v:U)(h:t≠d):(l.set d v).getD t .undef=l.getD t .undef:=by
 have h':¬d=t:=λe=>h (Eq.symm e)
 simp only[ZI,gm,aE h']
theorem NQ{u:Up}{l:List U}{t:Nat}(h1:u.d≠δ t)(h2:∀b v,u.bx=δ (b,v)->t≠b):(u.sl l).getD t .undef=l.getD t .undef:=by
 unfold Up.sl;cases hd:u.d with
 |none=>
  cases hb:u.bx with
  |none=>rfl
  |some bv=>obtain⟨b,v⟩:=bv;exact G2 _ _ _ _ (h2 b v hb)
 |some d=>
  have hne:t≠d:=λe=>h1 (by rw[hd,e])
  cases hb:u.bx with
  |none=>exact G2 _ _ _ _ hne
  |some bv=>obtain⟨b,v⟩:=bv;simp only;rw[G2 _ _ _ _ hne,G2 _ _ _ _ (h2 b v hb)]
theorem pW.ri{τ:Heap}{o:Oper}{ls:List Nat}{u:Up}(h:pW X Rt Bt o ls τ u)(hs:RI X Rt Bt s):RI X Rt Bt (u.ap s):=by
 refine⟨hs.l,λt p hp=>?_,λt b ht hL=>?_,λt ht=>?_⟩
 ·have hp':u.A s.A t=δ p:=hp;unfold Up.A at hp';cases hd:u.d with
  |none=>rw[hd]at hp';exact hs.a t p hp'
  |some d=>
   rw[hd]at hp';simp only at hp';cases hc:(t==d)
   ·rw[hc]at hp';simp only[bA]at hp';rcases LV u.rN d (s.A t)with e|e
    ·rw[e]at hp';exact hs.a t p hp'
    ·rw[e]at hp';cases hp'
   ·rw[hc]at hp';simp only[bR]at hp';have:t=d:=by simpa using hc
    subst this;exact(h.new p hp').2.2.2 t hd
 ·show jK ((u.sl s.sl).getD t .undef)=ι;by_cases hd:u.d=δ t
  ·have hv:=h.v t b hd ht hL
   have:(u.sl s.sl).getD t .undef=u.v\/(u.sl s.sl).getD t .undef=.undef:=by
    unfold Up.sl;rw[hd];simp only[ZI];rw[gm];simp only[if_true];generalize (match u.bx with|some (b,x)=>s.sl.set b x|none=>s.sl)=q;by_cases hq:t<q.length
    ·left;simp [hq]
    ·right;simp [hq]
   rcases this with e|e
   ·rw[e];exact hv
   ·rw[e];rfl
  ·rw[NQ hd (λb' v hb e=>by have:=(h.bx b' v hb).1;rw[<-e,hL]at this;cases this)];exact hs.v t b ht hL
 ·show lD ((u.sl s.sl).getD t .undef)=ι
  have hset:∀(l:List U)(d:Nat)(v:U),(l.set d v).getD t .undef=v/\t=d\/(l.set d v).getD t .undef=l.getD t .undef\/(l.set d v).getD t .undef=.undef:=by
   intro l d v;simp only[ZI,gm];by_cases e:d=t
   ·subst e;by_cases hq:d<l.length
    ·left;simp [hq]
    ·right;right;simp [hq]
   ·right;left;simp [e]
  have qO:lD ((match u.bx with|some (b,x)=>s.sl.set b x|none=>s.sl).getD t .undef)=ι:=by
   cases hb:u.bx with
   |none=>exact hs.b t ht
   |some bv=>
    obtain⟨b,v⟩:=bv;rcases hset s.sl b v with⟨e,_⟩|e|e
    ·simp only;rw[e];exact h.bxv b v hb
    ·simp only;rw[e];exact hs.b t ht
    ·simp only;rw[e];rfl
  unfold Up.sl;generalize (match u.bx with|some (b,x)=>s.sl.set b x|none=>s.sl)=q at qO;cases hd:u.d with
  |none=>exact qO
  |some d=>
   simp only;rcases hset q d u.v with⟨e,e2⟩|e|e
   ·rw[e];exact h.vb d hd (e2▸ht)
   ·rw[e];exact qO
   ·rw[e];rfl
theorem V9{o:Oper}{tag:Option (Nat×Bool)}{p:Nat×Option Nat}(h:gQ X o s tag=δ p):rL o=ι:=by obtain⟨dst,op,ty,pos,af,g⟩:=o;cases op<;>simp only[gQ]at h<;>first|(cases h;done)|rfl
theorem Vj{o:Oper}{tag:Option (Nat×Bool)}{p:Nat×Option Nat}(h:gQ X o s tag=δ p):pP o=ι:=by obtain⟨dst,op,ty,pos,af,g⟩:=o;cases op<;>simp only[gQ]at h<;>first|(cases h;done)|rfl
theorem Wa(hI:RI X Rt Bt s){o:Oper}{tag:Option (Nat×Bool)}{b:Nat}{rr:Option Nat}(h:gQ X o s tag=δ (b,rr)):rt X Rt o=δ b:=by
 obtain⟨dst,op,ty,pos,af,g⟩:=o;cases op<;>simp only[gQ]at h<;>first|(cases h;done)|skip
 all_goals
  split at h
  ·rename_i b' off hp;simp only[χ,Ξ]at h;simp only[rt,kX];rw[<-h.1];exact Hw hI hp
  ·cases h
theorem Vk(hI:RI X Rt Bt s){o:Oper}{tag:Option (Nat×Bool)}{v:U}(ha:pP o=ι){b:Nat}(hr:rt X Rt o=δ b)(hp:gQ X o s tag=μ)(h:eR X o s tag=δ v):False:=by
 obtain⟨dst,op,ty,pos,af,g⟩:=o;have nf:∀(x:U)(n:Nat),jK x=ι->YK n x=μ:=λx n h=>by unfold jK at h;split at h<;>first|rfl|cases h
 have nn:∀(x:U),jK x=ι->A.mU x=μ:=λx h=>by unfold jK at h;split at h<;>first|rfl|cases h
 have ni:∀(x i:U)(n:Nat),jK x=ι->Zv n x i=μ:=λx i n h=>by unfold jK at h;split at h<;>first|rfl|cases h
 have na:∀(x i:U)(m n:Nat),jK x=ι->A.tK m n x i=μ:=λx i m n h=>by
  unfold jK at h;unfold A.tK;split at h<;>first|(cases h;done)|skip
  all_goals cases A.idx m i<;>rfl
 cases op<;>simp only[pP]at ha<;>first|(cases ha;done)|skip
 case nilCheck x=>
  simp only[gQ]at hp;simp only[rt,kX]at hr;split at hp
  ·cases hp
  ·rename_i hpl;simp only[eR,nn _ (Bg hI hr hpl)]at h;cases h
 case fieldAddr t x f=>
  simp only[gQ]at hp;simp only[rt,kX]at hr;split at hp
  ·cases hp
  ·rename_i hpl;simp only[eR]at h;split at h
   ·split at h
    ·rename_i i _;cases hz:(i.size==0)
     ·rw[hz]at h;simp only[bA,nf _ _ (Bg hI hr hpl)]at h;cases h
     ·rw[hz]at h;cases h
    ·cases h
   ·cases h
 case indexAddr t x i=>
  simp only[gQ]at hp;simp only[rt,kX]at hr;split at hp
  ·cases hp
  ·rename_i hpl;simp only[eR]at h;split at h
   ·split at h
    ·simp only[ni _ _ _ (Bg hI hr hpl)]at h;cases h
    ·cases h
   ·split at h
    ·simp only[na _ _ _ _ (Bg hI hr hpl)]at h;cases h
    ·cases h
   ·cases h
theorem jW{α β:Type}{x:Option α}{f:α->Option β}{b:β}(h:x.bind f=δ b):∃a,x=δ a/\f a=δ b:=bh.1 h
theorem aou(hB:∀t,Bt.contains t=ι->lD (ev X s (.tmp t))=ι){o:Oper}{tag:Option (Nat×Bool)}{v:U}(hc:chainB Bt o=ι)(h:eR X o s tag=δ v):lD v=ι:=by
 obtain⟨dst,op,ty,pos,af,g⟩:=o
 have nk:∀x,lD x=ι->∀y,A.mU x=δ y->lD y=ι:=λx hx y e=>by cases x<;>simp only[A.mU]at e<;>first|(cases e;done)|(injection e with e;subst e;exact hx)
 have nf:∀x,lD x=ι->∀n y,YK n x=δ y->lD y=ι:=λx hx n y e=>by cases x<;>simp only[YK]at e<;>first|(cases e;done)|(cases hx;done)|(injection e with e;subst e;rfl)
 cases op<;>simp only[chainB]at hc<;>first|(cases hc;done)|skip
 case move x=>
  cases x<;>first|(cases hc;done)|skip
  simp only[eR,χ]at h;subst h;exact hB _ hc
 case assign x=>
  cases x<;>first|(cases hc;done)|skip
  simp only[eR,χ]at h;subst h;exact hB _ hc
 case nilCheck x=>
  cases x<;>first|(cases hc;done)|skip
  simp only[eR]at h;exact nk _ (hB _ hc) _ h
 case fieldAddr t x f=>
  cases x<;>first|(cases hc;done)|skip
  simp only[eR]at h;split at h
  ·split at h
   ·rename_i i _;cases hz:(i.size==0)
    ·rw[hz]at h;simp only[bA]at h;exact nf _ (hB _ hc) _ _ h
    ·rw[hz]at h;cases h
   ·cases h
  ·cases h
theorem V7{o:Oper}{ls:List Nat}(hR:qg X Rt Bt o)(hI:RI X Rt Bt s)(hls:∀t,Operand.tmp t∈o.op.operands.toList->t∈ls){k:AS->Option R}{r:R}(h:eZ X ι o s k=δ r):
  ∃u,pW X Rt Bt o ls s.σ u/\k (u.ap s)=δ r/\∀(R':Type)(k':AS->Option R')(s':AS),Ag X Rt Bt o ls μ s s'->eZ X ι o s' k'=k' (u.ap s'):=by
 have xK:∀(s':AS),RI X Rt Bt s'->∀x b off,kX o=δ x->place X s' μ x=δ (b,off)->rt X Rt o=δ b:=λs' hi x b off hx hp=>by simp only[rt,hx];exact Hw hi hp
 have BM:∀(s':AS),RI X Rt Bt s'->∀x b,kX o=δ x->rt X Rt o=δ b->place X s' μ x=μ->jK (ev X s' x)=ι:=λs' hi x b hx hr hp=>by simp only[rt,hx]at hr;exact Bg hi hr hp
 unfold eZ at h;cases hp:gQ X o s μ with
 |some p=>
  obtain⟨b,rr⟩:=p;rw[hp]at h;simp only at h;obtain⟨off,e1,e2⟩:=jW h;subst e1;refine⟨Ci X o.dst b off μ,Wm hR (Vj hp) (Wa hI hp) (V9 hp) (λg w e=>by cases e),by rw[<-Im];exact e2,λR' k' s' ha=>?_⟩;have:gQ X o s' μ=δ (b,δ off):=by rw[<-hp];exact(Mj (ha.xY hls) ha.wk ha.bx (xK s' ha.r2)).symm
  unfold eZ;rw[this];simp only[aB];rw[Im]
 |none=>
  rw[hp]at h;simp only at h;have hP:∀s',Ag X Rt Bt o ls μ s s'->gQ X o s' μ=μ:=λs' ha=>by rw[<-hp];exact(Mj (ha.xY hls) ha.wk ha.bx (xK s' ha.r2)).symm
  have dflt:((eR X o s μ).bind λv=>k (s.put X o.dst v))=δ r->(∀(R':Type)(k':AS->Option R')(s':AS),Ag X Rt Bt o ls μ s s'->eZ X ι o s' k'=(eR X o s' μ).bind λv=>k' (s'.put X o.dst v))->
    ∃u,pW X Rt Bt o ls s.σ u/\k (u.ap s)=δ r/\∀(R':Type)(k':AS->Option R')(s':AS),Ag X Rt Bt o ls μ s s'->eZ X ι o s' k'=k' (u.ap s'):=by
   intro hd hsame;obtain⟨v,e1,e2⟩:=jW hd;refine⟨ym X o.dst v,Nz v hR (λha b hr=>(Vk hI ha hr hp e1).elim) (λhc=>aou hI.B5 hc e1),by rw[<-By];exact e2,λR' k' s' ha=>?_⟩;have:eR X o s' μ=δ v:=by rw[<-e1];exact(G5 (ha.xY hls) ha.wk ha.bx (xK s' ha.r2) (BM s' ha.r2) ha.σ ha.Gd ha.r2.B5).symm
   rw[hsame R' k' s' ha,this,aB,By]
  obtain⟨dst,op,ty,pos,af,g⟩:=o;have tY:∀s',Ag X Rt Bt ⟨dst,op,ty,pos,af,g⟩ ls μ s s'->∀x∈op.operands.toList,ev X s x=ev X s' x:=λs' ha=>ha.xY hls
  have unf:∀{R':Type}(k':AS->Option R')(s':AS),Ag X Rt Bt ⟨dst,op,ty,pos,af,g⟩ ls μ s s'->gQ X ⟨dst,op,ty,pos,af,g⟩ s' μ=μ:=λk' s' ha=>hP s' ha
  cases op<;>simp only at h<;>first
   |(exact absurd (show(μ:Option R)=δ r from h) (by simp))
   |exact dflt h (λR' k' s' ha=>by unfold eZ;rw[hP s' ha])
   |skip
  case alloc t=>
   cases dst with
   |none=>cases h
   |some d=>
    simp only at h;cases hL:X.L.contains d
    ·rw[hL]at h;simp only[bA]at h;cases hO:X.O.contains d
     ·rw[hO]at h;exact dflt h (λR' k' s' ha=>by unfold eZ;rw[hP s' ha];simp only[hL,hO,bA])
     ·rw[hO]at h;simp only[bR]at h;split at h
      ·rename_i cs hz;rw[ig]at h;refine⟨_,pM _ _ hR (by simp [mG,wH];simpa using hO) rfl rfl (λh=>by cases h),h,λR' k' s' ha=>?_⟩;have eI:=ha.σ (by simpa [qv]using hO) rfl;unfold eZ;rw[hP s' ha];simp only[hL,hO,bA,bR,hz,eI];rw[ig]
      ·cases h
    ·rw[hL]at h;simp only[bR]at h;split at h
     ·rename_i cs hz;rw[G3]at h;refine⟨_,⟨rfl,(λb v h=>by cases h),(λp h=>by cases h),(λ_=>⟨d,rfl,hL⟩),(λh=>absurd rfl h),(λd' b e _ hL'=>by simp only[JN,χ]at e;rw[<-e,hL]at hL';cases hL'),(λ_ _ _=>rfl),(λb v h=>by cases h),(λ_ σ h=>by cases h)⟩,h,λR' k' s' ha=>?_⟩;unfold eZ;rw[hP s' ha];simp only[hL,bR,hz];rw[G3]
     ·cases h
  case box t x=>
   cases dst with
   |none=>cases h
   |some d=>
    simp only at h;cases hL:X.L.contains d
    ·rw[hL]at h;simp only[bA]at h;cases hO:X.O.contains d
     ·rw[hO]at h;exact dflt h (λR' k' s' ha=>by unfold eZ;rw[hP s' ha];simp only[hL,hO,bA])
     ·rw[hO]at h;simp only[bR]at h;obtain⟨cs,e1,e2⟩:=jW h;rw[ig]at e2;refine⟨_,pM _ _ hR (by simp [mG,wH];simpa using hO) rfl rfl (λh=>by cases h),e2,λR' k' s' ha=>?_⟩;have eI:=ha.σ (by simpa [qv]using hO) rfl;have hx:=tY s' ha x (by simp [l5]);unfold eZ;rw[hP s' ha];simp only[hL,hO,bA,bR,<-hx,e1,aB,eI];rw[ig]
    ·rw[hL]at h;simp only[bR]at h;obtain⟨cs,e1,e2⟩:=jW h;rw[G3]at e2;refine⟨_,⟨rfl,(λb v h=>by cases h),(λp h=>by cases h),(λ_=>⟨d,rfl,hL⟩),(λh=>absurd rfl h),(λd' b e _ hL'=>by simp only[JN,χ]at e;rw[<-e,hL]at hL';cases hL'),(λ_ _ _=>rfl),(λb v h=>by cases h),(λ_ σ h=>by cases h)⟩,e2,λR' k' s' ha=>?_⟩;have hx:=tY s' ha x (by simp [l5]);unfold eZ;rw[hP s' ha];simp only[hL,bR,<-hx,e1,aB];rw[G3]
  case store t x v=>
   split at h
   ·rename_i b off hpl;obtain⟨cs,e1,e2⟩:=jW h;obtain⟨new,e3,e4⟩:=jW e2;obtain⟨cs',e5,e6⟩:=jW e4;rw[S7]at e6;have we:rt X Rt ⟨dst,.store t x v,ty,pos,af,g⟩=δ b:=by simp only[rt,kX];exact Hw hI hpl
    refine⟨_,⟨rfl,(λb' v' hb=>by simp only[JO,χ,Ξ]at hb;rw[<-hb.1];exact⟨aet hpl,we⟩),(λp h=>by cases h),(λh=>by cases h),(λh=>absurd rfl h),(λd1 b1 e hl hL=>by rw[hR.1 d1 e hL]at hl;cases hl),(λd1 e hc=>by have:=hR.2 d1 e hc;cases this),(λb1 v1 hb=>by simp only[JO,χ,Ξ]at hb;rw[<-hb.2];rfl),(λ_ σ h=>by cases h)⟩,e6,λR' k' s' ha=>?_⟩;have hv:=tY s' ha v (by simp [l5]);have hpx:place X s' μ x=δ (b,off):=by rw[<-hpl];exact(ha.wk x rfl).symm
    have qO:=ha.bx b we;unfold eZ;rw[hP s' ha];simp only[hpx,<-qO,e1,aB,<-hv,e3,e5];rw[S7]
   ·rename_i hpl;obtain⟨new,e3,e4⟩:=jW h;obtain⟨σ',e5,e6⟩:=jW e4;rw[ig]at e6
    have we:rt X Rt ⟨dst,.store t x v,ty,pos,af,g⟩=μ:=by
     cases hr:rt X Rt ⟨dst,.store t x v,ty,pos,af,g⟩with
     |none=>rfl
     |some b=>rw[acJ (BM s hI x b rfl hr hpl)]at e5;cases e5
    have hw:mG X Rt ⟨dst,.store t x v,ty,pos,af,g⟩=ι:=by simp only[mG,we,SJ]
    refine⟨_,pM _ _ hR hw rfl rfl (λh=>by cases h),e6,λR' k' s' ha=>?_⟩;have hv:=tY s' ha v (by simp [l5]);have hx:=tY s' ha x (by simp [l5]);have eI:=ha.σ (by simp only[qv,we,SJ]) rfl;have hpx:place X s' μ x=μ:=by rw[<-hpl];exact(ha.wk x rfl).symm
    unfold eZ;rw[hP s' ha];simp only[hpx,<-hv,<-hx,e3,aB,<-eI,e5];rw[ig]
  case makeMap t rr=>
   cases rr with
   |some x=>cases h
   |none=>simp only at h;rw[ig]at h;refine⟨_,pM _ _ hR rfl rfl rfl (λ_=>Hf (λcs e=>by cases e)),h,λR' k' s' ha=>?_⟩;have eI:=ha.σ rfl rfl;unfold eZ;rw[hP s' ha];simp only[<-eI];rw[ig]
  case range t x=>
   split at h
   ·rename_i kt et hd;obtain⟨es,e1,e2⟩:=jW h;rw[ig]at e2;refine⟨_,pM _ _ hR rfl rfl rfl (λh=>by cases h),e2,λR' k' s' ha=>?_⟩;have hx:=tY s' ha x (by simp [l5]);have eI:=ha.σ rfl rfl;unfold eZ;rw[hP s' ha];simp only[hd,<-hx,<-eI,e1,aB];rw[ig]
   ·cases h
  case buildSlice t n ps=>
   cases dst with
   |none=>exact dflt h (λR' k' s' ha=>by unfold eZ;rw[hP s' ha])
   |some d=>
    simp only at h;cases hO:X.O.contains d
    ·rw[hO]at h;exact dflt h (λR' k' s' ha=>by unfold eZ;rw[hP s' ha];simp only[hO,bA])
    ·rw[hO]at h;simp only[bR]at h;obtain⟨v,e1,e2⟩:=jW h
     have hv:∀s',Ag X Rt Bt ⟨δ d,.buildSlice t n ps,ty,pos,af,g⟩ ls μ s s'->eR X ⟨δ d,.buildSlice t n ps,ty,pos,af,g⟩ s' μ=δ v:=λs' ha=>by rw[<-e1];exact(G5 (ha.xY hls) ha.wk ha.bx (xK s' ha.r2) (BM s' ha.r2) ha.σ ha.Gd ha.r2.B5).symm
     unfold A.BO at e2;split at e2
     ·rename_i sz es;cases hl:(es.length==0)
      ·rw[hl]at e2;simp only[bA]at e2;rw[ig]at e2;refine⟨_,pM _ _ hR (by simp [mG,wH];simpa using hO) rfl rfl (λh=>by cases h),e2,λR' k' s' ha=>?_⟩;have eI:=ha.σ (by simpa [qv]using hO) rfl;unfold eZ;rw[hP s' ha];simp only[hO,bR,hv s' ha,aB,A.BO,hl,bA,<-eI];rw[ig]
      ·rw[hl]at e2;cases e2
     ·cases e2
  case mapUpdate t m i v=>
   split at h
   ·rename_i kt et hd;split at h
    ·rename_i ek he;obtain⟨σ',e1,e2⟩:=jW h;rw[ig]at e2;refine⟨_,pM _ _ hR rfl rfl rfl (λ_=>adR e1),e2,λR' k' s' ha=>?_⟩;have hm:=tY s' ha m (by simp [l5]);have hi:=tY s' ha i (by simp [l5]);have hv:=tY s' ha v (by simp [l5]);have eI:=ha.σ rfl rfl;unfold eZ;rw[hP s' ha];simp only[hd,he,<-hm,<-hi,<-hv,<-eI,e1,aB];rw[ig]
    ·cases h
   ·cases h
  case call c=>
   have hargs:∀s',Ag X Rt Bt ⟨dst,.call c,ty,pos,af,g⟩ ls μ s s'->c.args.toList.map (ev X s)=c.args.toList.map (ev X s'):=λs' ha=>
    Ub λx hx=>tY s' ha x (by simp [l5,apW];exact .inr (by simpa using hx))
   split at h
   ·rename_i hc;split at h
    ·rename_i t u x y h1 h2;split at h
     ·rename_i e e' hd hu;split at h
      ·rename_i i hi;cases hz0:kE i
       ·rw[hz0]at h;simp only[bA]at h;obtain⟨⟨rr,σ'⟩,e1,e2⟩:=jW h;simp only at e2;rw[ig]at e2;refine⟨_,pM _ _ hR (by simp [mG,wH,hc]) rfl rfl (λ_=>abW e1),e2,λR' k' s' ha=>?_⟩;have eI:=ha.σ rfl rfl;unfold eZ;rw[hP s' ha];simp only[hc,<-hargs s' ha,h1,h2,hd,hu,hi,hz0,bA,<-eI,e1,aB];rw[ig]
       ·rw[hz0]at h;cases h
      ·cases h
     ·rename_i e kk hd hu;split at h
      ·rename_i i zs hi hz;cases hz0:kE i
       ·rw[hz0]at h;simp only[bA]at h;obtain⟨⟨rr,σ'⟩,e1,e2⟩:=jW h;simp only at e2;rw[ig]at e2;refine⟨_,pM _ _ hR (by simp [mG,wH,hc]) rfl rfl (λ_=>abt e1),e2,λR' k' s' ha=>?_⟩;have eI:=ha.σ rfl rfl;unfold eZ;rw[hP s' ha];simp only[hc,<-hargs s' ha,h1,h2,hd,hu,hi,hz,hz0,bA,<-eI,e1,aB];rw[ig]
       ·rw[hz0]at h;cases h
      ·cases h
     ·cases h
    ·cases h
   ·rename_i hc;split at h
    ·rename_i t u x y h1 h2;split at h
     ·rename_i e e' hd hu;split at h
      ·rename_i i hi;cases hz0:kE i
       ·rw[hz0]at h;simp only[bA]at h;obtain⟨⟨rr,σ'⟩,e1,e2⟩:=jW h;simp only at e2;rw[ig]at e2;refine⟨_,pM _ _ hR (by simp [mG,wH,hc]) rfl rfl (λh=>by simp [xZ,hc]at h),e2,λR' k' s' ha=>?_⟩;have eI:=ha.σ rfl rfl;unfold eZ;rw[hP s' ha];simp only[hc,<-hargs s' ha,h1,h2,hd,hu,hi,hz0,bA,<-eI,e1,aB];rw[ig]
       ·rw[hz0]at h;cases h
      ·cases h
     ·cases h
    ·cases h
   ·rename_i hc;cases hv:eR X ⟨dst,.call c,ty,pos,af,g⟩ s μ with
    |none=>rw[hv]at h;simp [A.DI]at h
    |some v=>
     rw[hv]at h
     exact dflt (by rw[hv];exact h) (λR' k' s' ha=>by
      have hv':eR X ⟨dst,.call c,ty,pos,af,g⟩ s' μ=δ v:=by rw[<-hv];exact(G5 (ha.xY hls) ha.wk ha.bx (xK s' ha.r2) (BM s' ha.r2) ha.σ ha.Gd ha.r2.B5).symm
      unfold eZ;rw[hP s' ha];simp only[hc,hv',aB,A.DI])
   ·rename_i hc;split at h
    ·rename_i t x h1 h2;split at h
     ·rename_i e hd;split at h
      ·rename_i i zs hi hz;cases hz0:kE i
       ·rw[hz0]at h;simp only[bA]at h;obtain⟨σ',e1,e2⟩:=jW h;rw[ig]at e2;refine⟨_,pM _ _ hR (by simp [mG,wH,hc]) rfl rfl (λh=>by simp [xZ,hc]at h),e2,λR' k' s' ha=>?_⟩;have eI:=ha.σ rfl rfl;unfold eZ;rw[hP s' ha];simp only[hc,<-hargs s' ha,h1,h2,hd,hi,hz,hz0,bA,<-eI,e1,aB];rw[ig]
       ·rw[hz0]at h;cases h
      ·cases h
     ·cases h
    ·cases h
   ·rename_i hc;split at h
    ·rename_i t u m key h1 h2;split at h
     ·rename_i kt et hd;split at h
      ·rename_i ek he;obtain⟨σ',e1,e2⟩:=jW h;rw[ig]at e2;refine⟨_,pM _ _ hR (by simp [mG,wH,hc]) rfl rfl (λh=>by simp [xZ,hc]at h),e2,λR' k' s' ha=>?_⟩;have eI:=ha.σ rfl rfl;unfold eZ;rw[hP s' ha];simp only[hc,<-hargs s' ha,h1,h2,hd,he,<-eI,e1,aB];rw[ig]
      ·cases h
     ·cases h
    ·cases h
   ·rename_i b hn1 hn2 jP nD qn hc
    exact dflt h (λR' k' s' ha=>by
     unfold eZ;rw[hP s' ha];simp only[hc]
     all_goals (first|rfl|(cases b<;>first|rfl|exact absurd rfl hn1|exact absurd rfl hn2|exact absurd rfl jP|exact absurd rfl nD|exact absurd rfl qn)))
   ·rename_i f hc;cases hw:X.W.contains f
    ·simp only[hw,Zy,Bool.and_true,bR]at h;exact dflt h (λR' k' s' ha=>by unfold eZ;rw[hP s' ha];simp only[hc,hw,Zy,Bool.and_true,bR])
    ·simp only[hw,AV,ZO,bA]at h;obtain⟨⟨rr,σ'⟩,e1,e2⟩:=jW h;simp only at e2;rw[ig]at e2;refine⟨_,pM _ _ hR (by simp only[mG,wH,hc];exact hw) rfl rfl (λh=>by simp [xZ,hc]at h),e2,λR' k' s' ha=>?_⟩;have eI:=ha.σ rfl rfl;unfold eZ;rw[hP s' ha];simp only[hc,<-hargs s' ha,hw,AV,ZO,bA,<-eI,e1,aB];rw[ig]
   ·rename_i x hnf hc;simp only[bR]at h
    exact dflt h (λR' k' s' ha=>by
     unfold eZ;rw[hP s' ha];simp only[hc]
     cases x<;>first|exact absurd rfl (hnf _)|simp only[bR])
   ·cases h
end
end
section
section
variable {R : Type} {X : Fx} {Rt : List (Nat × Nat)} {Bt : List Nat} {s s' : AS} {ops : Array Oper}
theorem CW{o:Oper}{t:Nat}(h:Operand.tmp t∈o.op.operands.toList):t∈o.looksAt ops:=by unfold Oper.looksAt;refine ga.2 (.inl (Ud.2 ⟨.tmp t,h,rfl⟩))
theorem abD{o:Oper}{j d:Nat}{want:Bool}(hg:o.guard=δ (j,want))(hd:(ops[j]?).bind (·.dst)=δ d):d∈o.looksAt ops:=by unfold Oper.looksAt;refine ga.2 (.inr ?_);rw[hg];simp only[hd];simp
def B1(X:Fx)(Rt:List (Nat×Nat))(Bt:List Nat)(ops:Array Oper)(o:Oper)(s s':AS):Prop:=∀tag:Option (Nat×Bool),(∀g w,tag=δ (g,w)->g∈o.looksAt ops)->Ag X Rt Bt o (o.looksAt ops) tag s s'
theorem Ag.symm{o:Oper}{ls:List Nat}{tag:Option (Nat×Bool)}(h:Ag X Rt Bt o ls tag s s'):Ag X Rt Bt o ls tag s' s:=
 ⟨h.r2,h.r1,λt ht hL=>(h.eP t ht hL).symm,λt ht=>(h.pl t ht).symm,λb hb=>(h.bx b hb).symm,(λhr hs=>(h.σ hr hs).symm),λhr hs id cs=>(h.Gd hr hs id cs).symm⟩
theorem B1.symm{o:Oper}(h:B1 X Rt Bt ops o s s'):B1 X Rt Bt ops o s' s:=λtag ht=>(h tag ht).symm
theorem Ms{q:Bool}{o:Oper}{f:FuncId}{l:List Operand}(h:BE X o=δ (f,l))(s:AS)(k:AS->Option R):eZ X q o s k=(X.call f (l.map (ev X s)) s.σ).bind λr=>k ((s.heap r.2).put X o.dst r.1):=by
 unfold BE at h;split at h
 ·rename_i c ho;split at h
  ·rename_i f' hc;cases hw:X.W.contains f'
   ·rw[hw]at h;cases h
   ·rw[hw]at h;simp only[bR,χ,Ξ]at h;obtain⟨rfl,rfl⟩:=h;unfold eZ gQ;simp only[ho,hc,hw,AV,ZO,bA]
  ·cases h
 ·cases h
theorem Ns{o:Oper}{k:AS->Option R}{r:R}(hR:qg X Rt Bt o)(hI:RI X Rt Bt s)(h:kr X ι ops o s k=δ r):
  ∃u,pW X Rt Bt o (o.looksAt ops) s.σ u/\k (u.ap s)=δ r/\∀(R':Type)(k':AS->Option R')(s':AS),B1 X Rt Bt ops o s s'->kr X ι ops o s' k'=k' (u.ap s'):=by
 unfold kr at h;cases hg:o.guard with
 |none=>rw[hg]at h;obtain⟨u,h1,h2,h3⟩:=V7 (ls:=o.looksAt ops) hR hI (λt ht=>CW ht) h;refine⟨u,h1,h2,λR' k' s' ha=>?_⟩;unfold kr;rw[hg];exact h3 R' k' s' (ha μ (λg w e=>by cases e))
 |some jw=>
  obtain⟨j,want⟩:=jw;rw[hg]at h;simp only at h;cases hd:(ops[j]?).bind (·.dst)with
  |none=>rw[hd]at h;cases h
  |some d=>
   rw[hd]at h;simp only at h;cases hb:CV X o d
   ·rw[hb]at h;simp only[bA]at h;have kK:=abD (ops:=ops) hg hd;have xM:∀g w,(δ (d,want):Option (Nat×Bool))=δ (g,w)->g∈o.looksAt ops:=λg w e=>by injection e with e;injection e with e _;rw[<-e];exact kK
    have Qq:X.L.contains d=ε:=by simp only[CV,kH]at hb;exact hb.1
    cases oD:BE X o with
    |some fa=>
     obtain⟨f,as'⟩:=fa;rw[oD]at h;simp only at h;obtain⟨rv,e1,e2⟩:=jW h
     have key:∀(x:U),s.sl.getD d .undef=x->(x=.az []\/∃c,x=.bool c/\(c==want)=ε)\/∃c,x=.bool c/\(c==want)=ι:=by
      intro x hx;rw[hx]at e1;unfold θ at e1;split at e1
      ·rename_i c;cases hc:(c==want)
       ·exact .inl (.inr ⟨c,rfl,hc⟩)
       ·exact .inr ⟨c,rfl,hc⟩
      ·exact .inl (.inl rfl)
      ·cases e1
     rcases key _ rfl with hno|⟨c,hc,Qo⟩
     ·have hG:∀(R':Type)(x:Option R')(y:Option R'),θ (s.sl.getD d .undef) want x y=y:=by
       intro R' x y;rcases hno with hh|⟨c,hh,Qo⟩
       ·rw[hh];rfl
       ·rw[hh];simp only[θ,Qo,bA]
      rw[hG]at e1;injection e1 with e1
      subst e1
      have IE:pP o=ε/\chainB Bt o=ε:=by
       unfold BE at oD;split at oD
       ·rename_i c ho;exact⟨by simp only[pP,ho],by simp only[chainB,ho]⟩
       ·cases oD
      refine⟨ym X o.dst (.az []),Nz _ hR (λha=>by rw[IE.1]at ha;cases ha) (λha=>by rw[IE.2]at ha;cases ha),by rw[<-By];exact e2,λR' k' s' ha=>?_⟩;have a:=ha _ xM;have jQ:=a.eP d kK Qq;unfold kr;rw[hg];simp only[hd,hb,bA,oD];rw[<-jQ,hG,aB,<-By];rfl
     ·have hG:∀(R':Type)(x:Option R')(y:Option R'),θ (s.sl.getD d .undef) want x y=x:=by intro R' x y;rw[hc];simp only[θ,Qo,bR]
      have hA:eZ X ι o s k=δ r:=by rw[Ms oD];rw[hG]at h;exact h
      obtain⟨u,h1,h2,h3⟩:=V7 (ls:=o.looksAt ops) hR hI (λt ht=>CW ht) hA;refine⟨u,h1,h2,λR' k' s' ha=>?_⟩;have a:=ha _ xM;have jQ:=a.eP d kK Qq;rw[<-h3 R' k' s' (ha μ (λg w e=>by cases e)),Ms oD];unfold kr;rw[hg];simp only[hd,hb,bA,oD];rw[<-jQ,hG]
    |none=>
    rw[oD]at h;simp only at h;have xK:∀(s':AS),RI X Rt Bt s'->∀x b off,kX o=δ x->place X s' (δ (d,want)) x=δ (b,off)->rt X Rt o=δ b:=λs' hi x b off hx hp=>by simp only[rt,hx];exact Hw hi hp
    have BM:∀(s':AS),RI X Rt Bt s'->∀x b,kX o=δ x->rt X Rt o=δ b->place X s' (δ (d,want)) x=μ->jK (ev X s' x)=ι:=λs' hi x b hx hr hp=>by simp only[rt,hx]at hr;exact Bg hi hr hp
    have hP:∀s',B1 X Rt Bt ops o s s'->gQ X o s' (δ (d,want))=gQ X o s (δ (d,want)):=λs' ha=>by have a:=ha _ xM;exact(Mj (a.xY λt ht=>CW ht) a.wk a.bx (xK s' a.r2)).symm
    cases hp:gQ X o s (δ (d,want))with
    |some p=>obtain⟨b,rr⟩:=p;rw[hp]at h;simp only at h;obtain⟨off,e1,e2⟩:=jW h;subst e1;refine⟨Ci X o.dst b off (δ (d,want)),Wm hR (Vj hp) (Wa hI hp) (V9 hp) xM,by rw[<-Im];exact e2,λR' k' s' ha=>?_⟩;unfold kr;rw[hg];simp only[hd,hb,bA,oD,hP s' ha,hp,aB];rw[Im]
    |none=>
     rw[hp]at h;simp only at h;obtain⟨v,e1,e2⟩:=jW h
     have hv:pP o=ι->∀b,rt X Rt o=δ b->jK v=ι:=by
      intro ha b hr;unfold θ at e1;split at e1
      ·rename_i c _;cases hc:(c==want)
       ·rw[hc]at e1;simp only[bA,χ]at e1;subst e1;rfl
       ·rw[hc]at e1;exact(Vk hI ha hr hp e1).elim
      ·simp only[χ]at e1;subst e1;rfl
      ·cases e1
     have QG:chainB Bt o=ι->lD v=ι:=by
      intro hc;unfold θ at e1;split at e1
      ·rename_i c _;cases qm:(c==want)
       ·rw[qm]at e1;simp only[bA,χ]at e1;subst e1;rfl
       ·rw[qm]at e1;exact aou hI.B5 hc e1
      ·simp only[χ]at e1;subst e1;rfl
      ·cases e1
     refine⟨ym X o.dst v,Nz v hR hv QG,by rw[<-By];exact e2,λR' k' s' ha=>?_⟩;have a:=ha _ xM;have hV:eR X o s' (δ (d,want))=eR X o s (δ (d,want)):=(G5 (a.xY λt ht=>CW ht) a.wk a.bx (xK s' a.r2) (BM s' a.r2) a.σ a.Gd a.r2.B5).symm;have jQ:=a.eP d kK Qq;unfold kr;rw[hg];simp only[hd,hb,bA,oD,hP s' ha,hp,hV,<-jQ,e1,aB];rw[By]
   ·rw[hb]at h;cases h
structure ug (X : Fx) (Rt : List (Nat × Nat)) (Bt : List Nat) (ops : Array Oper) (x y : Oper) : Prop where
 dx:∀d,x.dst=δ d->d∉y.looksAt ops
 dd:∀d,x.dst=δ d->y.dst≠δ d
 dy:∀d,y.dst=δ d->d∉x.looksAt ops
 c1:tL X Rt Bt x y=ε
 c2:tL X Rt Bt y x=ε
theorem ug.symm{x y:Oper}(h:ug X Rt Bt ops x y):ug X Rt Bt ops y x:=⟨h.dy,λd hd e=>h.dd d e hd,h.dx,h.c2,h.c1⟩
theorem adg{x y:Oper}(h:indep X Rt Bt ops x y=ι):ug X Rt Bt ops x y:=by simp only[indep,dZ,VC]at h;obtain⟨⟨h1,h2⟩,h3⟩:=h;obtain⟨a1,a2,a3⟩:=Oper.apart_spec h1;exact⟨a1,a2,a3,h2,h3⟩
theorem aom{x y:Oper}(h:tL X Rt Bt x y=ε){b:Nat}(hb:wb X Rt x=δ b):rt X Rt y≠δ b:=by unfold tL at h;simp only[kH]at h;have:=h.1.1;rw[hb]at this;simpa using this
theorem HK{x y:Oper}(h:tL X Rt Bt x y=ε){d:Nat}(hd:x.dst=δ d)(hL:X.L.contains d=ι):rt X Rt y≠δ d:=by unfold tL at h;simp only[kH]at h;have:=h.1.2;rw[hd]at this;simp only[hL,Y8]at this;simpa using this
theorem HL{x y:Oper}(h:tL X Rt Bt x y=ε)(hw:mG X Rt x=ι):(qv X Rt y=ε\/(soft Bt y=ι/\xZ x=ι))/\mG X Rt y=ε:=by
 unfold tL at h;simp only[kH]at h;have:=h.2;rw[hw]at this;simp only[Y8,kH]at this;refine⟨?_,this.2⟩;cases hr:qv X Rt y
 ·exact .inl rfl
 ·have h2:=this.1;rw[hr,Y8,aoJ]at h2;exact .inr (by simpa using h2)
theorem af8{x:Oper}{a:Operand}(h:kX x=δ a):a∈x.op.operands.toList:=by obtain⟨dst,op,ty,pos,af,g⟩:=x;cases op<;>simp only[kX]at h<;>first|(cases h;done)|(injection h with h;subst h;simp [l5])
theorem ajD(h:RI X Rt Bt s){x:Oper}{b:Nat}(hr:rt X Rt x=δ b)(hL:X.L.contains b=ε):False:=by
 unfold rt at hr;split at hr
 ·rename_i a _;cases a with
  |tmp t=>
   simp only[ux]at hr;cases hc:X.L.contains t
   ·rw[hc]at hr;have:=h.l t b hr;rw[hL]at this;cases this
   ·rw[hc]at hr;simp only[bR,χ]at hr;subst hr;rw[hL]at hc;cases hc
  |_=>simp [ux]at hr
 ·cases hr
theorem W9{x:Oper}{b:Nat}(h:wb X Rt x=δ b):rt X Rt x=δ b:=by
 unfold wb at h;split at h
 ·exact h
 ·cases h
theorem WD{τ:Heap}{x y:Oper}(h:ug X Rt Bt ops x y){u:Up}(hu:pW X Rt Bt y (y.looksAt ops) τ u)(s:AS)(hs:RI X Rt Bt s)(hτ:u.σ≠μ->mT s.σ τ):B1 X Rt Bt ops x s (u.ap s):=by
 intro tag ht;have hnd:∀t,t∈x.looksAt ops->u.d≠δ t:=λt ht e=>by rw[hu.d]at e;exact h.dy t e ht
 refine⟨hs,hu.ri hs,λt htl hL=>?_,λt oV=>?_,λb hb=>?_,λhr zU=>?_,λhr zU=>?_⟩
 ·exact(NQ (hnd t htl) (λb v hb e=>by have:=(hu.bx b v hb).1;rw[<-e,hL]at this;cases this)).symm
 ·have htl:t∈x.looksAt ops:=CW (af8 oV);simp only[place];cases hL:X.L.contains t
  ·simp only[bA];show _=match u.A s.A t with|some p=>_|none=>μ
   unfold Up.A;cases hd:u.d with
   |none=>rfl
   |some d=>
    have htd:(t==d)=ε:=by simp only[beq_eq_false_iff_ne];intro e;exact hnd t htl (by rw[hd,e])
    simp only[htd,bA];cases hA:s.A t with
    |none=>rfl
    |some p=>
     have we:ux X Rt (.tmp t)=δ p.slot:=by simp only[ux,hL,bA];exact hs.a t p hA
     have hf:mw u.rN d (δ p)=lu d (δ p):=by
      cases hi:u.rN with
      |false=>exact CJ d _
      |true=>
       obtain⟨d',hd',hL'⟩:=hu.box hi;have oW:d'=d:=by rw[hu.d]at hd;rw[hd]at hd';injection hd' with e;exact e.symm
       subst oW;unfold mw;cases hk:lu d' (δ p)with
       |none=>rfl
       |some q=>
        have hqs:q=p:=by
         simp only[lu]at hk;cases zV:p.tag with
         |none=>rw[zV]at hk;simpa using hk.symm
         |some g=>
          obtain⟨g,w⟩:=g;rw[zV]at hk;simp only at hk;cases hg:(g==d')
          ·rw[hg]at hk;simpa using hk.symm
          ·rw[hg]at hk;cases hk
        subst hqs
        have hne:(q.slot==d')=ε:=by
         rw[beq_eq_false_iff_ne];intro e;have:rt X Rt x=δ q.slot:=by simp only[rt,oV];exact we
         exact HK h.c2 hd' hL' (by rw[this,e])
        simp only[hne,ZO,bA]
     rw[hf];simp only[lu];cases zV:p.tag with
     |none=>simp only[zV]
     |some gw=>
      obtain⟨g,w⟩:=gw;simp only;cases hgd:(g==d)
      ·simp only[bA,zV]
      ·simp only[bR];have ajl:g=d:=by simpa using hgd
       have:(tag==δ (g,w))=ε:=by rw[beq_eq_false_iff_ne];intro e;exact hnd g (ht g w e) (by rw[hd,ajl])
       rw[this];cases X.L.contains p.slot<;>rfl
  ·rfl
 ·refine(NQ (λe=>?_) (λb' v hb' e=>?_)).symm
  ·rw[hu.d]at e
   have hLb:X.L.contains b=ι:=by
    cases hc:X.L.contains b with
    |true=>rfl
    |false=>exfalso;exact ajD hs hb hc
   exact HK h.c2 e hLb hb
  ·exact aom h.c2 (hu.bx b' v hb').2 (by rw[<-e];exact hb)
 ·show s.σ=u.σ.getD s.σ;cases hs':u.σ with
  |none=>rfl
  |some σ=>
   rcases(HL h.c2 (hu.σ (by rw[hs'];intro e;cases e))).1 with this|⟨this,_⟩
   ·rw[hr]at this;cases this
   ·rw[zU]at this;cases this
 ·show mT s.σ (u.σ.getD s.σ);cases hs':u.σ with
  |none=>exact yM _
  |some σ=>
   rcases(HL h.c2 (hu.σ (by rw[hs'];intro e;cases e))).1 with this|⟨_,hf⟩
   ·rw[hr]at this;cases this
   ·exact λid cs=>(hτ (by rw[hs'];intro e;cases e) id cs).trans (hu.fr hf σ hs' id cs)
theorem aeH{τ Ge:Heap}{x y:Oper}(h:ug X Rt Bt ops x y){u v:Up}(hu:pW X Rt Bt x (x.looksAt ops) τ u)(hv:pW X Rt Bt y (y.looksAt ops) Ge v):u.Wp v:=by
 have half:∀{τ Ge:Heap}{x y:Oper}{u v:Up},ug X Rt Bt ops x y->pW X Rt Bt x (x.looksAt ops) τ u->pW X Rt Bt y (y.looksAt ops) Ge v->(∀b a,u.bx=δ (b,a)->(∀c a',v.bx=δ (c,a')->c≠b)/\v.d≠δ b)/\(∀d,v.d=δ d->mw v.rN d u.new=u.new):=by
  intro τ Ge x y u v h hu hv;refine⟨λb a hb=>?_,λd hd=>?_⟩
  ·obtain⟨k1,k2⟩:=hu.bx b a hb;refine⟨λc a' hc e=>?_,λe=>?_⟩
   ·have:=(hv.bx c a' hc).2;subst e;exact aom h.c1 k2 (W9 this)
   ·rw[hv.d]at e;exact HK h.c2 e k1 (W9 k2)
  ·cases hn:u.new with
   |none=>rfl
   |some p=>
    obtain⟨k1,k2,k3,k4⟩:=hu.new p hn
    have hkt:lu d (δ p)=δ p:=by
     simp only[lu];cases zV:p.tag with
     |none=>rfl
     |some gw=>
      obtain⟨g,w⟩:=gw;simp only
      have:(g==d)=ε:=by rw[beq_eq_false_iff_ne];intro e;rw[hv.d]at hd;exact h.dy d hd (e▸k2 g w zV)
      rw[this];rfl
    unfold mw;rw[hkt];simp only;cases hi:v.rN with
    |false=>rfl
    |true=>
     obtain⟨d',hd',hL'⟩:=hv.box hi;have oW:d'=d:=by rw[hv.d]at hd;rw[hd]at hd';injection hd' with e;exact e.symm
     subst oW
     have:(p.slot==d')=ε:=by rw[beq_eq_false_iff_ne];intro e;exact HK h.c2 hd' hL' (by rw[k3,e])
     simp only[this,ZO,bA]
 obtain⟨a1,a2⟩:=half h hu hv;obtain⟨b1,b2⟩:=half h.symm hv hu;refine⟨λd hd e=>?_,a1,b1,a2,b2,?_⟩
 ·rw[hu.d]at hd;rw[hv.d]at e;exact h.dd d hd e
 ·cases hs:u.σ with
  |none=>exact .inl rfl
  |some σ=>
   right;have hw:=hu.σ (by rw[hs];intro e;cases e);have YQ:=(HL h.c1 hw).2;cases hs2:v.σ with
   |none=>rfl
   |some σ2=>rw[hv.σ (by rw[hs2];intro e;cases e)]at YQ;cases YQ
theorem Tw{o:Oper}{k:AS->Option R}{r:R}(ho:qg X Rt Bt o):∀(l1 l2:List Oper)(s:AS),RI X Rt Bt s->(∀y∈l1,qg X Rt Bt y)->(∀y∈l1,ug X Rt Bt ops y o)->oS X ι ops (l1++o::l2) s k=δ r->kr X ι ops o s (λs1=>oS X ι ops (l1++l2) s1 k)=δ r
 |[],l2,s,_,_,_,h=>h
 |y::l1,l2,s,hs,hr,hi,h=>by
  simp only[iA,oS]at h;obtain⟨u,u1,u2,u3⟩:=Ns (hr y (by simp)) hs h;have ih:=Tw ho l1 l2 (u.ap s) (u1.ri hs) (λz hz=>hr z (by simp [hz])) (λz hz=>hi z (by simp [hz])) u2;obtain⟨v,v1,v2,v3⟩:=Ns ho (u1.ri hs) ih;have hy:=hi y (by simp)
  have Ft:v.σ≠μ->mT s.σ (u.ap s).σ:=λhv=>by
   have hnu:u.σ=μ:=by
    cases hu:u.σ with
    |none=>rfl
    |some σ=>have hw:=(HL hy.c1 (u1.σ (by rw[hu];intro e;cases e))).2;rw[v1.σ hv]at hw;cases hw
   show mT s.σ (u.σ.getD s.σ);rw[hnu];exact yM _
  rw[v3 R _ s (WD hy.symm u1 s hs (λ_=>yM _)).symm];simp only[iA,oS];rw[u3 R _ (v.ap s) (WD hy v1 s hs Ft),Up.comm (aeH hy u1 v1)];exact v2
def Down(ops:Array Oper)(S:Nat->Prop):Prop:=∀i o e,S i->ops[i]? =δ o->e∈o.after->XM .any e=ι->S e.on
def IN(ops:Array Oper)(i:Nat)(S:Nat->Prop):Prop:=∀o e,ops[i]? =δ o->e∈o.after->XM .any e=ι->S e.on
theorem an1(acc:List Nat):∀(es:List Edge)(m j:Nat),(es.foldl (λs e=>bif XM .any e then s ||| 2 ^ e.on ||| acc.getD e.on 0 else s) m).testBit j=ι->
  m.testBit j=ι\/∃e∈es,XM .any e=ι/\(e.on=j\/(acc.getD e.on 0).testBit j=ι)
 |[],m,j,h=>.inl h
 |e::es,m,j,h=>by
  simp only[List.foldl_cons]at h;rcases an1 acc es _ j h with h|⟨e',he',hb,hx⟩
  ·cases hb:XM .any e
   ·rw[hb]at h;exact .inl h
   ·rw[hb]at h;simp only[bR,Nat.testBit_or,Bool.or_eq_true]at h;rcases h with(h|h)|h
    ·exact .inl h
    ·refine .inr ⟨e,by simp,hb,.inl ?_⟩;rw[Nat.testBit_two_pow]at h;simpa using h
    ·exact .inr ⟨e,by simp,hb,.inr h⟩
  ·exact .inr ⟨e',by simp [he'],hb,hx⟩
theorem TS:∀(l:List Oper)(acc:List Nat),(∀i,l[i]? =ops[acc.length+i]?)->
  (∀(m j:Nat),(acc.getD m 0).testBit j=ι->∀S,Down ops S->IN ops m S->S j)->
  ∀(m j:Nat),((ID l acc).getD m 0).testBit j=ι->∀S,Down ops S->IN ops m S->S j
 |[],acc,hl,hacc=>hacc
 |o::l,acc,hl,hacc=>by
  simp only[ID];refine TS l _ (λi=>by have:=hl (i+1);simp at this;rw[this];simp;congr 1;omega) ?_;intro m j h S hS hD;have h0:=hl 0;simp at h0;by_cases hm:m<acc.length
  ·rw[ZI,iK hm]at h;exact hacc m j h S hS hD
  ·by_cases hm2:m=acc.length
   ·subst hm2;rw[ZI,jH (cg _)]at h;simp only[Nat.sub_self,SD,ZY]at h;rcases an1 acc _ _ j h with h|⟨e,he,hb,hx⟩
    ·simp at h
    ·have hon:S e.on:=hD o e h0.symm (by simpa using he) hb;rcases hx with hx|hx
     ·exact hx▸hon
     ·exact hacc e.on j hx S hS (λo' e' ho' he' hb'=>hS e.on o' e' hon ho' he' hb')
   ·rw[ZI,jH (by omega),lG (by simp;omega)]at h;simp at h
theorem SL{E0:List Nat}:∀(l:List Oper)(i:Nat),(∀j,l[j]? =ops[i+j]?)->Ic X Rt Bt ops E0 l i=ι->∀n o,i<=n->ops[n]? =δ o->∀m y,m<n->ops[m]? =δ y->(E0.getD n 0).testBit m=ι\/indep X Rt Bt ops y o=ι
 |[],i,hl,_,n,o,hn,ho,m,y,hm,hy=>by have:=hl (n-i);rw[show i+(n-i)=n by omega,ho]at this;simp at this
 |x::l,i,hl,h,n,o,hn,ho,m,y,hm,hy=>by
  simp only[Ic,dZ]at h;by_cases hni:n=i
  ·subst hni;have h0:=hl 0;simp at h0;rw[ho]at h0;injection h0 with h0;subst h0
   have:=kV.1 h.1 (y,m) (by
    rw[List.mem_zipIdx_iff_getElem?];simp only;rw[UY hm,ZT]
    exact hy)
   simpa using this
  ·exact SL l (i+1) (λj=>by have:=hl (j+1);simp at this;rw[this];congr 1;omega) h.2 n o (by omega) ho m y hm hy
theorem S6:∀(l:List Oper)(i:Nat),(∀j,l[j]? =ops[i+j]?)->Io l i=ι->∀n o e,i<=n->ops[n]? =δ o->e∈o.after->XM .any e=ι->e.on<n
 |[],i,hl,_,n,o,e,hn,ho,he,hb=>by have:=hl (n-i);rw[show i+(n-i)=n by omega,ho]at this;simp at this
 |x::l,i,hl,h,n,o,e,hn,ho,he,hb=>by
  simp only[Io,dZ]at h;by_cases hni:n=i
  ·subst hni;have h0:=hl 0;simp at h0;rw[ho]at h0;injection h0 with h0;subst h0
   have:=kV.1 h.1 e (by simpa using he);rw[hb]at this;simpa [Nat.blt_eq]using this
  ·exact S6 l (i+1) (λj=>by have:=hl (j+1);simp at this;rw[this];congr 1;omega) h.2 n o e (by omega) ho he hb
def nh(listed:Array Bool)(n:Nat):List Nat:=(List.range n).filter λi=>!listed.getD i ι
def vA(ops:Array Oper)(listed:Array Bool):List Oper:=(nh listed ops.size).filterMap (ops[·]?)
theorem acy{listed:Array Bool}{n i:Nat}(hi:i<n)(hl:listed.getD i ι=ε)(hs:listed.size=n):
  ∃l1 l2,nh listed n=l1++i::l2/\nh (listed.setIfInBounds i ι) n=l1++l2/\∀j∈l1,j<i/\listed.getD j ι=ε:=by
 refine⟨(List.range i).filter λj=>!listed.getD j ι,((ZQ (i+1) (n-i-1))).filter λj=>!listed.getD j ι,?_,?_,λj hj=>?_⟩
 ·unfold nh
  rw[show List.range n=List.range i++i::ZQ (i+1) (n-i-1) by
   rw[Z1,Z1,<-apw,show n-i-1+1=n-i by omega];have:=List.range'_append_1 (s:=0) (m:=i) (n:=n-i);rw[show 0+i=i by omega,show i+(n-i)=n by omega]at this
   exact this.symm]
  rw[List.filter_append,ap5,hl];simp
 ·unfold nh
  rw[show List.range n=List.range i++i::ZQ (i+1) (n-i-1) by
   rw[Z1,Z1,<-apw,show n-i-1+1=n-i by omega];have:=List.range'_append_1 (s:=0) (m:=i) (n:=n-i);rw[show 0+i=i by omega,show i+(n-i)=n by omega]at this
   exact this.symm]
  rw[List.filter_append,ap5];have hset:(listed.setIfInBounds i ι).getD i ι=ι:=by simp [ao6,hs,hi]
  rw[hset];simp only[AV,n5,if_false];congr 1
  ·apply List.filter_congr;intro j hj;have:j<i:=by simpa using hj
   rw[kU,kU,ZM (by omega)]
  ·apply List.filter_congr;intro j hj;have:i<j:=by simp at hj;omega
   rw[kU,kU,ZM (by omega)]
 ·rw[ZD]at hj;exact⟨by simpa using hj.1,by simpa using hj.2⟩
end
end
section
open Go.RowKit
section
variable {X : Fx} {z : Z} {s : AS} {a : Act} {w w' : World} {E : List Pl} {pb : Nat -> Option Nat} {R : Type}
theorem HE(h:St X z s a w E pb){d:Nat}{av:U}(zR:s.sl.getD d .undef=av)(h1:av≠.undef)(h2:∀cs,av≠.lbx cs):∃v,a.tmps[d]? =δ v/\a.tmps.getD d undef=v/\an (ctx z w E pb) av v:=by
 by_cases hd:d<s.sl.length
 ·have e:s.sl[d]? =δ av:=by rw[cy hd];rw[<-zR];simp [ZI,hd]
  have r:=(h.slot d av e).rep h2;have hd':d<a.tmps.size:=by rw[h.len];exact hd
  exact⟨a.tmps.getD d undef,by simp [ao6,hd'],rfl,r⟩
 ·exact absurd (by rw[<-zR];simp [ZI,Nat.le_of_not_lt hd]) h1
theorem agz(hs:fU X)(h:St X z s a w E pb){q:Bool}{ops:Array Oper}{i:Nat}{o:Oper}(hi:ops[i]? =δ o){k:AS->Option R}{r:R}(hk:kr X q ops o s k=δ r){K:Act->World->Prop}{Q:Exit->Act->World->Prop}
  (hK:∀s' a' w' E' bL,St X z s' a' w' E' bL->k s'=δ r->K a' w'):wpOp X.P ops Q i K a w:=by
 unfold wpOp;rw[hi];simp only;unfold kr at hk;cases hg:o.guard with
 |none=>rw[hg]at hk;rw[aG (by simp [ZU,hg])];exact .inl (V8 hs h hk hK)
 |some jw=>
  obtain⟨j,want⟩:=jw;rw[hg]at hk;simp only at hk;cases hd:(ops[j]?).bind (·.dst)with
  |none=>rw[hd]at hk;cases hk
  |some d=>
   rw[hd]at hk;simp only at hk;cases hL:CV X o d
   ·rw[hL]at hk;simp only[bA]at hk;have xw:ZU o (yielded ops a.tmps)=(yielded ops a.tmps j==δ want):=by simp [ZU,hg]
    have hy:yielded ops a.tmps j=match a.tmps[d]? with|some (.bool b)=>δ b|_=>μ:=by simp only[yielded,hd,aB];rfl
    cases oD:BE X o with
    |some fa=>
     obtain⟨f,as'⟩:=fa;rw[oD]at hk;simp only at hk;obtain⟨rv,e1,e2⟩:=bh.1 hk;generalize jQ:s.sl.getD d .undef=gv at e1;cases gv<;>simp only[θ]at e1<;>first|(cases e1;done)|skip
     case bool b=>
      obtain⟨v,v1,v2,v3⟩:=HE h jQ (by intro e;cases e) (by intro cs e;cases e);simp only[an]at v3;subst v3;cases sD:(b==want)
      ·rw[sD]at e1;simp only[bA]at e1;injection e1 with e1;subst e1
       have hw:¬ZU o (yielded ops a.tmps)=ι:=by rw[xw,hy,v1];simp at sD ⊢;exact sD
       rw[aE hw];exact hK _ _ _ _ _ (h.undef o.dst) e2
      ·rw[sD]at e1;simp only[bR]at e1;have I1:b=want:=by simpa using sD
       have hw:ZU o (yielded ops a.tmps)=ι:=by rw[xw,hy,v1];simp [I1]
       rw[aG hw];exact .inl (V8 (q:=q) hs h (by rw[Ms oD,e1];exact e2) hK)
     case az vs=>
      cases vs with
      |cons x xs=>cases e1
      |nil=>
       injection e1 with e1;subst e1
       obtain⟨v,v1,v2,v3⟩:=HE h jQ (by intro e;cases e) (by intro cs e;cases e);simp only[an]at v3;obtain⟨us,rfl,_⟩:=v3;have hw:¬ZU o (yielded ops a.tmps)=ι:=by rw[xw,hy,v1];simp
       rw[aE hw];exact hK _ _ _ _ _ (h.undef o.dst) e2
    |none=>
    rw[oD]at hk;simp only at hk;cases hp:gQ X o s (δ (d,want))with
    |some p=>
     obtain⟨b,rr⟩:=p;rw[hp]at hk;simp only at hk;obtain⟨off,e1,e2⟩:=bh.1 hk;subst e1;by_cases hw:ZU o (yielded ops a.tmps)=ι
     ·rw[aG hw]
      have ht:mV a (δ (d,want)):=by
       rw[xw,hy]at hw;simp only[mV];split at hw
       ·rename_i b' hb';simp at hw;subst hw;rw[kU,hb'];rfl
       ·simp at hw
      obtain⟨n,k1,k2⟩:=Wb h ht hp;exact .inl (mR k2 (hK _ _ _ _ _ (h.N1 o.dst (λ_=>⟨n,k1,rfl⟩)) e2))
     ·rw[aE hw];refine hK _ _ _ _ _ (h.N1 o.dst (λht=>absurd ?_ hw)) e2;rw[xw,hy];simp only[mV]at ht;rw[kU]at ht;cases hc:a.tmps[d]? with
      |none=>rw[hc]at ht;simp [undef]at ht
      |some v=>rw[hc]at ht;simp at ht;subst ht;simp
    |none=>
     rw[hp]at hk;simp only at hk;obtain⟨av,e1,e2⟩:=bh.1 hk;generalize jQ:s.sl.getD d .undef=gv at e1;cases gv<;>simp only[θ]at e1<;>first|(cases e1;done)|skip
     case bool b=>
      obtain⟨v,v1,v2,v3⟩:=HE h jQ (by intro e;cases e) (by intro cs e;cases e);simp only[an]at v3;subst v3;cases sD:(b==want)
      ·rw[sD]at e1;simp only[bA]at e1;injection e1 with e1;subst e1
       have hw:¬ZU o (yielded ops a.tmps)=ι:=by rw[xw,hy,v1];simp at sD ⊢;exact sD
       rw[aE hw];exact hK _ _ _ _ _ (h.undef o.dst) e2
      ·rw[sD]at e1;simp only[bR]at e1;have I1:b=want:=by simpa using sD
       have hw:ZU o (yielded ops a.tmps)=ι:=by rw[xw,hy,v1];simp [I1]
       rw[aG hw];have ht:mV a (δ (d,want)):=by simp only[mV];rw[v2,I1]
       exact .inl (anX hs h ht e1 λv w' E' h3 h4=>hK _ _ _ _ _ (h3.put o.dst h4) e2)
     case az vs=>
      cases vs with
      |cons x xs=>cases e1
      |nil=>
       injection e1 with e1;subst e1
       obtain⟨v,v1,v2,v3⟩:=HE h jQ (by intro e;cases e) (by intro cs e;cases e);simp only[an]at v3;obtain⟨us,rfl,_⟩:=v3;have hw:¬ZU o (yielded ops a.tmps)=ι:=by rw[xw,hy,v1];simp
       rw[aE hw];exact hK _ _ _ _ _ (h.undef o.dst) e2
   ·rw[hL]at hk;cases hk
def Fr(X:Fx)(ds:List Nat)(s s':AS):Prop:=∀i,i∉ds->X.L.contains i=ε->s'.sl[i]? =s.sl[i]?
theorem Fr.refl(ds:List Nat)(s:AS):Fr X ds s s:=λ_ _ _=>rfl
theorem Fr.trans{d1 d2:List Nat}{s s' s'':AS}(h:Fr X d1 s s')(k:Fr X d2 s' s''):Fr X (d1++d2) s s'':=λi hi hL=>by rw[ga]at hi;exact(k i (λe=>hi (.inr e)) hL).trans (h i (λe=>hi (.inl e)) hL)
theorem Fr.mono{d1 d2:List Nat}{s s':AS}(h:Fr X d1 s s')(k:∀i∈d1,i∈d2):Fr X d2 s s':=λi hi hL=>h i (λe=>hi (k i e)) hL
theorem Fr.put(d:Option Nat)(v:U)(s:AS):Fr X d.toList s (s.put X d v):=λi hi hL=>by
 cases d with
 |none=>rfl
 |some d=>simp only[aoI];rw[gm,aE];intro e;subst e;simp at hi
theorem Fr.kq(d:Option Nat)(b off:Nat)(tag:Option (Nat×Bool))(s:AS):Fr X d.toList s (s.kq X d b off tag):=λi hi hL=>by
 cases d with
 |none=>rfl
 |some d=>simp only[AS.kq];rw[gm,aE];intro e;subst e;simp at hi
theorem Fr.lA(d:Nat)(cs:List U)(s:AS):Fr X [d] s (s.lA d cs):=λi hi hL=>by simp only[AS.lA];rw[gm,aE];intro e;subst e;simp at hi
theorem Fr.lW(d:Option Nat)(v:U)(σ:Heap)(s:AS):Fr X d.toList s ((s.heap σ).put X d v):=λi hi hL=>by
 cases d with
 |none=>rfl
 |some d=>simp only[aoI,AS.heap];rw[gm,aE];intro e;subst e;simp at hi
theorem Fr.agb(d:Option Nat)(v:U)(b:Nat)(cs:List U)(hb:X.L.contains b=ι)(s:AS):Fr X d.toList s ((⟨s.sl.set b (.lbx cs),s.A,s.σ⟩:AS).put X d v):=λi hi hL=>by
 have YL:b≠i:=λe=>by rw[e,hL]at hb;cases hb
 cases d with
 |none=>simp only[aoI];rw[gm,aE YL]
 |some d=>simp only[aoI];rw[gm,aE,gm,aE YL];intro e;subst e;simp at hi
theorem afH{tag:Option (Nat×Bool)}{x:Operand}{b off:Nat}(h:place X s tag x=δ (b,off)):X.L.contains b=ι:=by
 cases x with
 |tmp t=>
  simp only[place]at h;cases hL:X.L.contains t
  ·rw[hL]at h;simp only[bA]at h;split at h
   ·rename_i p hA;cases hp:X.L.contains p.slot
    ·rw[hp]at h;cases h
    ·rw[hp]at h;simp only[bR]at h;split at h
     ·simp only[χ,Ξ]at h;rw[<-h.1];exact hp
     ·rename_i g hg;cases ht:(tag==δ g)
      ·rw[ht]at h;cases h
      ·rw[ht]at h;simp only[bR,χ,Ξ]at h;rw[<-h.1];exact hp
   ·cases h
  ·rw[hL]at h;simp only[bR,χ,Ξ]at h;rw[<-h.1];exact hL
 |_=>simp [place]at h
theorem bind_congr{α β:Type}{x:Option α}{f g:α->Option β}(h:∀a,x=δ a->f a=g a):x.bind f=x.bind g:=by cases x with|none=>rfl|some a=>exact h a rfl
theorem ab2{x:U}{σ:Heap}{f g:Nat->Heap->Option R}(h:∀n σ,f n σ=g n σ):A.DJ x σ f=A.DJ x σ g:=by
 have:f=g:=funext λn=>funext λσ=>h n σ
 rw[this]
theorem abE{x:U}{σ:Heap}{f g:U->Heap->Option R}(h:∀v σ,f v σ=g v σ):A.xz x σ f=A.xz x σ g:=by
 have:f=g:=funext λn=>funext λσ=>h n σ
 rw[this]
theorem ack{q str:Bool}{i:Operand}{dst:Option Nat}{k k2:AS->Option R}(h:∀s',Fr X dst.toList s s'->k s'=k2 s'):
  (bif q||str then μ else A.xz (ev X s i) s.σ λv σ=>k ((s.heap σ).put X dst v))=(bif q||str then μ else A.xz (ev X s i) s.σ λv σ=>k2 ((s.heap σ).put X dst v)):=by
 cases(q||str)
 ·simp only[bA];exact abE λ_ _=>h _ (Fr.lW _ _ _ _)
 ·rfl
theorem ads{q:Bool}{o:Oper}{k k2:AS->Option R}(h:∀s',Fr X o.dst.toList s s'->k s'=k2 s'):eZ X q o s k=eZ X q o s k2:=by
 unfold eZ;cases hp:gQ X o s μ with
 |some p=>obtain⟨b,rr⟩:=p;exact bind_congr λp _=>h _ (Fr.kq _ _ _ _ _)
 |none=>
  simp only;have dflt:((eR X o s μ).bind λv=>k (s.put X o.dst v))=(eR X o s μ).bind λv=>k2 (s.put X o.dst v):=bind_congr λv _=>h _ (Fr.put _ _ _)
  obtain⟨dst,op,ty,pos,af,g⟩:=o;cases op<;>simp only<;>first|exact ack h|exact dflt|skip
  case alloc t=>
   cases dst with
   |none=>rfl
   |some d=>
    simp only;cases X.L.contains d
    ·simp only[bA];cases X.O.contains d
     ·exact dflt
     ·simp only[bR];split
      ·exact h _ (Fr.lW _ _ _ _)
      ·rfl
    ·simp only[bR];split
     ·exact h _ (Fr.lA _ _ _)
     ·rfl
  case box t x=>
   cases dst with
   |none=>rfl
   |some d=>
    simp only;cases X.L.contains d
    ·simp only[bA];cases X.O.contains d
     ·exact dflt
     ·exact bind_congr λcs _=>h _ (Fr.lW _ _ _ _)
    ·exact bind_congr λcs _=>h _ (Fr.lA _ _ _)
  case store t x v=>
   split
   ·rename_i b off hpl;exact bind_congr λ_ _=>bind_congr λ_ _=>bind_congr λ_ _=>h _ (Fr.agb _ _ _ _ (afH hpl) _)
   ·exact bind_congr λ_ _=>bind_congr λ_ _=>h _ (Fr.lW _ _ _ _)
  case makeMap t rr=>
   cases rr with
   |none=>exact h _ (Fr.lW _ _ _ _)
   |some x=>rfl
  case range t x=>
   split
   ·exact bind_congr λ_ _=>h _ (Fr.lW _ _ _ _)
   ·rfl
  case buildSlice t n ps=>
   cases dst with
   |none=>exact dflt
   |some d=>
    simp only;cases X.O.contains d
    ·exact dflt
    ·simp only[bR];refine bind_congr λv _=>?_
     unfold A.BO;split
     ·cases(List.length _==0)
      ·exact h _ (Fr.lW _ _ _ _)
      ·rfl
     ·rfl
  case mapUpdate t m i v=>
   split
   ·split
    ·exact bind_congr λ_ _=>h _ (Fr.lW _ _ _ _)
    ·rfl
   ·rfl
  case call c=>
   split
   ·split
    ·split
     ·split
      ·cases kE _
       ·exact bind_congr λ_ _=>h _ (Fr.lW _ _ _ _)
       ·rfl
      ·rfl
     ·split
      ·cases kE _
       ·exact bind_congr λ_ _=>h _ (Fr.lW _ _ _ _)
       ·rfl
      ·rfl
     ·rfl
    ·rfl
   ·split
    ·split
     ·split
      ·cases kE _
       ·exact bind_congr λ_ _=>h _ (Fr.lW _ _ _ _)
       ·rfl
      ·rfl
     ·rfl
    ·rfl
   ·cases hv:eR X _ s μ
    ·simp only[A.DI];cases q
     ·simp only[bA];split
      ·split
       ·exact ab2 λ_ _=>h _ (Fr.lW _ _ _ _)
       ·rfl
      ·rfl
     ·rfl
    ·exact h _ (Fr.put _ _ _)
   ·split
    ·split
     ·split
      ·cases kE _
       ·exact bind_congr λ_ _=>h _ (Fr.lW _ _ _ _)
       ·rfl
      ·rfl
     ·rfl
    ·rfl
   ·split
    ·split
     ·split
      ·exact bind_congr λ_ _=>h _ (Fr.lW _ _ _ _)
      ·rfl
     ·rfl
    ·rfl
   ·exact dflt
   ·cases(q&&!X.W.contains _)
    ·exact bind_congr λ_ _=>h _ (Fr.lW _ _ _ _)
    ·exact dflt
   ·cases q
    ·exact bind_congr λ_ _=>h _ (Fr.lW _ _ _ _)
    ·exact dflt
   ·rfl
theorem adt{q:Bool}{ops:Array Oper}{o:Oper}{k k2:AS->Option R}(h:∀s',Fr X o.dst.toList s s'->k s'=k2 s'):kr X q ops o s k=kr X q ops o s k2:=by
 unfold kr;split
 ·exact ads h
 ·split
  ·cases CV X o _
   ·simp only[bA];split
    ·exact bind_congr λ_ _=>h _ (Fr.lW _ _ _ _)
    ·split
     ·exact bind_congr λ_ _=>h _ (Fr.kq _ _ _ _ _)
     ·exact bind_congr λ_ _=>h _ (Fr.put _ _ _)
   ·rfl
  ·rfl
theorem Vi(hs:fU X)(h:St X z s a w E pb){q:Bool}{ops:Array Oper}{i:Nat}{o:Oper}(hi:ops[i]? =δ o){k:AS->Option R}{r:R}(hk:kr X q ops o s k=δ r){K:Act->World->Prop}{Q:Exit->Act->World->Prop}
  (hK:∀s' a' w' E' bL,St X z s' a' w' E' bL->Fr X o.dst.toList s s'->k s'=δ r->K a' w'):wpOp X.P ops Q i K a w:=by
 classical
 have e:kr X q ops o s k=kr X q ops o s (λs'=>if Fr X o.dst.toList s s' then k s' else μ):=adt λs' hf=>by rw[aG hf]
 rw[e]at hk;refine agz hs h hi hk λs' a' w' E' bL h' hk'=>?_
 split at hk'
 ·exact hK s' a' w' E' bL h' (by assumption) hk'
 ·cases hk'
theorem Vl(hs:fU X){q:Bool}{ops:Array Oper}{Q:Exit->Act->World->Prop}{r:R}{k:AS->Option R}{s0:AS}:
  ∀(l:List Oper)(i:Nat)(s:AS)(a:Act)(w:World)(E:List Pl)(pb:Nat->Option Nat),(∀j,l[j]? =ops[i+j]?)->St X z s a w E pb->oS X q ops l s k=δ r->
   (∀s' a' w' E' bL,St X z s' a' w' E' bL->Fr X (l.filterMap (·.dst)) s s'->k s'=δ r->Q .normal a' w')->wpOps X.P ops Q (ZQ i l.length) a w
 |[],i,s,a,w,E,pb,_,h,hk,hQ=>by simpa [wpOps]using hQ _ _ _ _ _ h (Fr.refl _ _) hk
 |o::l,i,s,a,w,E,pb,hl,h,hk,hQ=>by
  have h0:=hl 0;simp at h0;simp only[n9,apw];rw[wpOps_cons];refine Vi hs h h0.symm hk λs' a' w' E' bL h' hf hk'=>?_
  refine Vl hs (s0:=s0) l (i+1) s' a' w' E' bL (λj=>by have:=hl (j+1);simp at this;rw[this];congr 1;omega) h' hk' λs2 a2 w2 E2 QU h2 vV hk2=>hQ s2 a2 w2 E2 QU h2 ((hf.trans vV).mono ?_) hk2
  intro j hj;rw[ao1];cases hd:o.dst with
  |none=>rw[hd]at hj;simpa using hj
  |some d=>rw[hd]at hj;simpa using hj
theorem afD(hs:fU X){Rt:List (Nat×Nat)}{Bt:List Nat}(h:St X z s a w E pb)(hI:RI X Rt Bt s){ops:Array Oper}{i:Nat}{o:Oper}(hR:qg X Rt Bt o)(hi:ops[i]? =δ o){k:AS->Option R}{r:R}(hk:kr X ι ops o s k=δ r){K:Act->World->Prop}{Q:Exit->Act->World->Prop}
  (hK:∀s' a' w' E' bL,St X z s' a' w' E' bL->Fr X o.dst.toList s s'->RI X Rt Bt s'->k s'=δ r->K a' w'):wpOp X.P ops Q i K a w:=by
 classical
 have e:kr X ι ops o s (λs'=>if RI X Rt Bt s' then k s' else μ)=δ r:=by obtain⟨u,h1,h2,h3⟩:=Ns hR hI hk;rw[h3 R _ s (λtag _=>⟨hI,hI,λ_ _ _=>rfl,λ_ _=>rfl,λ_ _=>rfl,λ_ _=>rfl,λ_ _=>yM _⟩),aG (h1.ri hI)];exact h2
 refine Vi hs h hi e λs' a' w' E' bL h' hf hk'=>?_
 split at hk'
 ·exact hK s' a' w' E' bL h' hf (by assumption) hk'
 ·cases hk'
theorem ad0(hs:fU X){Rt:List (Nat×Nat)}{Bt:List Nat}{ops:Array Oper}{Q:Exit->Act->World->Prop}{r:R}{k:AS->Option R}{s0:AS}(NF:∀n o e,ops[n]? =δ o->e∈o.after->XM .any e=ι->e.on<n)
  (ag6:∀n o m y,ops[n]? =δ o->m<n->ops[m]? =δ y->(∀S,Down ops S->IN ops n S->S m)\/ug X Rt Bt ops y o) (OH:∀(n:Nat)(o:Oper),ops[n]? =δ o->qg X Rt Bt o)
  (hQ:∀s' a' w' E' bL,St X z s' a' w' E' bL->Fr X (ops.toList.filterMap (·.dst)) s0 s'->k s'=δ r->Q .normal a' w'):
  ∀(fuel:Nat)(listed:Array Bool)(s:AS)(a:Act)(w:World)(E:List Pl)(pb:Nat->Option Nat),listed.size=ops.size->(nh listed ops.size).length<=fuel->Down ops (λi=>listed.getD i ι=ι)->St X z s a w E pb->RI X Rt Bt s->oS X ι ops (vA ops listed) s k=δ r->Fr X (ops.toList.filterMap (·.dst)) s0 s->
   wpAny X.P .any ops Q fuel listed a w:=by
 have hnone:∀(listed:Array Bool),nh listed ops.size=[]->WQ .any ops listed=[]:=by intro listed h;unfold WQ;rw[List.filter_eq_nil_iff];intro i hi hr;simp only[dZ]at hr;have:i∈nh listed ops.size:=ZD.2 ⟨hi,hr.1⟩;rw[h]at this;simp at this
 have hsome:∀(listed:Array Bool),listed.size=ops.size->WQ .any ops listed=[]->nh listed ops.size=[]:=by
  intro listed hsz hr;cases rW:nh listed ops.size with
  |nil=>rfl
  |cons i0 tl=>
   exfalso;have hm:i0∈nh listed ops.size:=by rw[rW];simp
   obtain⟨h1,h2⟩:=ZD.1 hm;have hlt:i0<ops.size:=by simpa using h1
   have YU:(nh listed ops.size).Pairwise (·<·):=List.Pairwise.filter _ List.pairwise_lt_range;rw[rW,List.pairwise_cons]at YU
   have hall:∀j,j<i0->listed.getD j ι=ι:=by
    intro j hj;cases hc:listed.getD j ι with
    |true=>rfl
    |false=>
     have:j∈nh listed ops.size:=ZD.2 ⟨by simp;omega,by simp [hc]⟩;rw[rW]at this;rcases dW.1 this with e|e
     ·omega
     ·have:=YU.1 j e;omega
   have:i0∈WQ .any ops listed:=by
    unfold WQ;refine ZD.2 ⟨h1,?_⟩;rw[dZ];refine⟨h2,?_⟩;rw[rT hlt];simp only[eB,ZY];rw[apb];intro e he;cases hb:XM .any e with
    |false=>rfl
    |true=>have hon:=NF i0 _ e (rT hlt) he hb;have:=hall e.on hon;rw[kU,rT (by omega)]at this;simp only[ZY]at this;rw[kU,rT (by omega)];simp [this]
   rw[hr]at this;simp at this
 intro fuel;induction fuel with
 |zero=>intro listed s a w E pb hsz hle hdn h hI hk hf;have rW:nh listed ops.size=[]:=xA (by omega);refine⟨hnone listed rW,hQ s a w E pb h hf ?_⟩;simpa [vA,rW,oS]using hk
 |succ fuel ih=>
  intro listed s a w E pb hsz hle hdn h hI hk hf;refine⟨λhr=>hQ s a w E pb h hf (by simpa [vA,hsome listed hsz hr,oS]using hk),λi hi=>?_⟩;unfold WQ at hi;obtain⟨h1,h2⟩:=ZD.1 hi;rw[dZ]at h2;obtain⟨h2,h3⟩:=h2;have hlt:i<ops.size:=by simpa using h1
  have hun:listed.getD i ι=ε:=by simpa using h2
  have ho:ops[i]? =δ ops[i]:=rT hlt
  have WN:IN ops i (λj=>listed.getD j ι=ι):=by intro o e YR he hb;rw[YR]at h3;simp only[eB,ZY]at h3;rw[apb]at h3;have h4:=h3 e he;rw[hb]at h4;simp only[AV,ZV]at h4;have hon:=NF i o e YR he hb;rw[kU,rT (by omega)]at h4;simp only[ZY]at h4;show listed.getD e.on ι=ι;rw[kU,rT (by omega)];simpa using h4
  obtain⟨l1,l2,e1,e2,e3⟩:=acy hlt hun hsz
  have rW:vA ops listed=l1.filterMap (ops[·]?)++ops[i]::l2.filterMap (ops[·]?):=by unfold vA;rw[e1,List.filterMap_append,ao1,ho]
  have ag8:vA ops (listed.setIfInBounds i ι)=l1.filterMap (ops[·]?)++l2.filterMap (ops[·]?):=by unfold vA;rw[e2,List.filterMap_append]
  rw[rW]at hk
  have aju:∀y∈l1.filterMap (ops[·]?),qg X Rt Bt y:=by intro y hy;obtain⟨j,hj,Qv⟩:=Ud.1 hy;exact OH j y Qv
  have ajn:∀y∈l1.filterMap (ops[·]?),ug X Rt Bt ops y ops[i]:=by
   intro y hy;obtain⟨j,hj,Qv⟩:=Ud.1 hy;obtain⟨j1,j2⟩:=e3 j hj;rcases ag6 i ops[i] j y ho j1 Qv with k1|k1
   ·have:=k1 _ hdn WN;rw[j2]at this;cases this
   ·exact k1
  have agl:=Tw (OH i _ ho) _ _ s hI aju ajn hk;refine afD hs h hI (OH i _ ho) ho agl λs' a' w' E' bL h' hf' Fl hk'=>?_
  rw[<-ag8]at hk';refine ih _ s' a' w' E' bL (by simpa using hsz) ?_ ?_ h' Fl hk' ((hf.trans hf').mono ?_)
  ·rw[e2];rw[e1]at hle;simp at hle ⊢;omega
  ·intro j o e hj Qy he hb;by_cases hji:j=i
   ·subst hji;have:=WN o e Qy he hb;show(listed.setIfInBounds j ι).getD e.on ι=ι;have hon:=NF j o e Qy he hb;rw[kU,ZM (by omega),<-kU];exact this
   ·have hj':listed.getD j ι=ι:=by replace hj:(listed.setIfInBounds i ι).getD j ι=ι:=hj;rw[kU,ZM (λe=>hji e.symm),<-kU]at hj;exact hj
    have:=hdn j o e hj' Qy he hb;show(listed.setIfInBounds i ι).getD e.on ι=ι;by_cases aoB:e.on=i
    ·rw[aoB];simp [ao6,hsz,hlt]
    ·rw[kU,ZM (λe'=>aoB e'.symm),<-kU];exact this
  ·intro d hd;rcases ga.1 hd with hd|hd
   ·exact hd
   ·refine Ud.2 ⟨ops[i],by simp,?_⟩;cases oW:ops[i].dst with
    |none=>rw[oW]at hd;simp at hd
    |some d'=>rw[oW]at hd;simp at hd;rw[hd]
theorem LX{t b:Nat}:∀{l:List (Nat×Nat)},l.lookup t=δ b->(t,b)∈l
 |[],h=>by cases h
 |(t',b')::l,h=>by
  simp only[List.lookup]at h;cases hc:(t==t')
  ·rw[hc]at h;exact iR _ (LX h)
  ·rw[hc]at h;simp only[χ]at h;have:t=t':=by simpa using hc
   subst this;subst h;exact p6
theorem ae6(hs:fU X){ops:Array Oper}{Q:Exit->Act->World->Prop}{r:R}{k:AS->Option R}(hok:CZ X ops s.sl=ι)(hA:∀t,s.A t=μ)(hQ:∀s' a' w' E' bL,St X z s' a' w' E' bL->Fr X (ops.toList.filterMap (·.dst)) s s'->k s'=δ r->Q .normal a' w'){id:Nat}
  (h:St X z s a w E pb) (hk:oS X ι ops ops.toList s k=δ r):(Code.region id ops ι).wp X.P Q a w:=by
 obtain⟨Rt,Bt,hok⟩:∃Rt Bt,G7 X Rt Bt ops s.sl=ι:=by
  unfold CZ at hok;rcases Bool.or_eq_true_iff.1 hok with h|h
  ·exact⟨_,_,h⟩
  ·exact⟨_,_,h⟩
 unfold G7 at hok;simp only[dZ]at hok;obtain⟨⟨⟨⟨⟨⟨⟨h1,h2⟩,h3⟩,h4⟩,h5⟩,h6⟩,h7⟩,h8⟩:=hok
 have hI:RI X Rt Bt s:=by
  refine⟨λt b hl=>?_,λt p hp=>(by rw[hA t]at hp;cases hp),λt b hl _=>?_,λt ht=>kV.1 h8 t (by simpa using ht)⟩
  ·have:=kV.1 h6 (t,b) (LX hl);exact this
  ·have:=kV.1 h5 (t,b) (LX hl);exact this
 have WR:∀j,ops.toList[j]? =ops[0+j]? :=λj=>by simp
 have rW:nh (V1 ops.size ε) ops.size=List.range ops.size:=by
  unfold nh;rw[apv];intro i hi;have:i<ops.size:=by simpa using hi
  simp [ao6,this]
 have ag9:vA ops (V1 ops.size ε)=ops.toList:=by
  unfold vA;rw[rW]
  have gen:∀(l pre:List Oper),(ZQ pre.length l.length).filterMap (λi=>(pre++l)[i]?)=l:=by
   intro l;induction l with
   |nil=>intro pre;rfl
   |cons x l ih=>intro pre;simp only[n9,apw,ao1];rw[jH (cg _)];simp only[Nat.sub_self,SD];have:=ih (pre++[x]);simp only[p5,n9,Zh,ZP,rR,iA,ZH]at this;rw[this]
  have:=gen ops.toList [];rw[Z1];simpa using this
 refine wp_region_any h1 (ad0 (s0:=s) hs (λn o e ho he hb=>S6 ops.toList 0 WR h2 n o e (ve _) ho he hb) (λn o m y ho hm hy=>?_) (λn o ho=>qg.of (kV.1 h4 o (by have:=Array.mem_of_getElem? ho;simpa using this)) (kV.1 h7 o (by have:=Array.mem_of_getElem? ho;simpa using this))) hQ ops.size _ s a _ E pb (by simp) (by rw[rW];simp) ?_ (h.grow (w':=w.drew) ((Below.refl _ _).drew)) hI (by rw[ag9];exact hk) (Fr.refl _ _))
 ·rcases SL ops.toList 0 WR h3 n o (ve _) ho m y hm hy with k1|k1
  ·left;exact λS hS hD=>TS ops.toList [] (λi=>by simp) (λm j h=>by simp at h) n m k1 S hS hD
  ·exact .inr (adg k1)
 ·intro i o e hi ho he hb;have hlt:i<ops.size:=(tQ.1 ho).1;exfalso;simp [ao6,hlt]at hi
theorem St.QL(h:St X z s a w E pb):St X z ⟨s.sl,λ_=>μ,s.σ⟩ a w E pb:=
 ⟨h.len,h.mZ,h.slot,h.box,(λt p hp=>by cases hp),h.priv,h.inj,h.heap,h.defers,h.out,h.nm⟩
def AX.to:AX->Exit
 |.normal=>.normal
 |.exit i=>.exit i
 |.ret=>.ret
theorem GG:∀(ds:List Nat)(sl:List U)(i:Nat),(rE sl ds).length=sl.length/\((rE sl ds)[i]? =sl[i]? \/(rE sl ds)[i]? =δ .undef)/\(i∉ds->(rE sl ds)[i]? =sl[i]?)/\(i∈ds->i<sl.length->(rE sl ds)[i]? =δ .undef)
 |[],sl,i=>⟨rfl,.inl rfl,λ_=>rfl,λh=>by simp at h⟩
 |d::ds,sl,i=>by
  obtain⟨h1,h2,h3,h4⟩:=GG ds (sl.set d .undef) i;simp only[rE]
  have hset:(sl.set d .undef)[i]? =if d=i then(if i<sl.length then δ .undef else μ)else sl[i]? :=by
   rw[gm];by_cases e:d=i
   ·subst e;simp
   ·simp [e]
  have hnone:¬i<sl.length->sl[i]? =μ:=λk=>lG (by omega)
  refine⟨by rw[h1];simp,?_,λhi=>?_,λhi hl=>?_⟩
  ·rcases h2 with h2|h2
   ·rw[h2,hset];by_cases e:d=i
    ·rw[aG e];split
     ·exact .inr rfl
     ·rename_i k;rw[hnone k];exact .inl rfl
    ·rw[aE e];exact .inl rfl
   ·exact .inr h2
  ·simp only[dW,not_or]at hi;rw[h3 hi.2,hset,aE (λe=>hi.1 e.symm)]
  ·by_cases hm:i∈ds
   ·exact h4 hm (by simpa using hl)
   ·simp only[dW]at hi;have:i=d:=hi.resolve_right hm;rw[h3 hm,hset,aG this.symm,aG hl]
theorem GY(vs:List U):∀(live:List Nat)(j:Nat)(sl:List U)(i:Nat),(Bz vs sl live j).length=sl.length/\(i∉live->(Bz vs sl live j)[i]? =sl[i]?)/\(i∈live->i<sl.length->∃n,n<live.length/\live[n]? =δ i/\(Bz vs sl live j)[i]? =δ (vs.getD (j+n) .undef))
 |[],j,sl,i=>⟨rfl,λ_=>rfl,λh=>by simp at h⟩
 |d::live,j,sl,i=>by
  obtain⟨h1,h2,h3⟩:=GY vs live (j+1) (sl.set d (vs.getD j .undef)) i;simp only[Bz];refine⟨by rw[h1];simp,λhi=>?_,λhi hl=>?_⟩
  ·simp only[dW,not_or]at hi;rw[h2 hi.2,gm,aE (λe=>hi.1 e.symm)]
  ·by_cases hm:i∈live
   ·obtain⟨n,k1,k2,k3⟩:=h3 hm (by simpa using hl);exact⟨n+1,by simp;omega,by simpa using k2,by rw[k3];congr 2;omega⟩
   ·simp only[dW]at hi;have:i=d:=hi.resolve_right hm;subst this;exact⟨0,by simp,rfl,by rw[h2 hm,gm];simp [hl]⟩
theorem St.meet{s s':AS}(h:St X z s' a w E pb){mods live:List Nat}(hl:s.sl.length=s'.sl.length)(hf:∀i,i∉mods->s'.sl[i]? =s.sl[i]?):St X z (s.meet mods live (vals s'.sl live) s'.σ) a w E pb:=by
 have jj:∀i:Nat,(s.meet mods live (vals s'.sl live) s'.σ).sl[i]? =s'.sl[i]? \/(s.meet mods live (vals s'.sl live) s'.σ).sl[i]? =δ U.undef:=by
  intro i;simp only[AS.meet];obtain⟨c1,c2,c3,c4⟩:=GG mods s.sl i;obtain⟨m1,m2,m3⟩:=GY (vals s'.sl live) live 0 (rE s.sl mods) i;by_cases hm:i∈live
  ·by_cases hlt:i<s.sl.length
   ·obtain⟨n,k1,k2,k3⟩:=m3 hm (by rw[c1];exact hlt);left;rw[k3,ZP]
    have:(vals s'.sl live).getD n .undef=s'.sl.getD i .undef:=by simp only[vals,ZI,List.getElem?_map,k2];rfl
    rw[this,cy (by omega)];simp [ZI,show i<s'.sl.length by omega]
   ·left;rw[lG (by rw[m1,c1];omega),lG (by omega)]
  ·rw[m2 hm];by_cases hd:i∈mods
   ·by_cases hlt:i<s.sl.length
    ·exact .inr (c4 hd hlt)
    ·left;rw[lG (by rw[c1];omega),lG (by omega)]
   ·left;rw[c3 hd,hf i hd]
 have hlen:(s.meet mods live (vals s'.sl live) s'.σ).sl.length=s'.sl.length:=by simp only[AS.meet];rw[(GY (vals s'.sl live) live 0 (rE s.sl mods) 0).1,(GG mods s.sl 0).1];exact hl
 refine⟨by rw[h.len,hlen],by rw[hlen,h.mZ],λi av hi=>?_,λi cs hi=>?_,(λt p hp=>by cases hp),h.priv,h.inj,h.heap,h.defers,h.out,h.nm⟩
 ·rcases jj i with e|e
  ·rw[e]at hi;exact h.slot i av hi
  ·rw[e]at hi;injection hi with hi;subst hi;trivial
 ·rcases jj i with e|e
  ·rw[e]at hi;exact h.box i cs hi
  ·rw[e]at hi;cases hi
end
end
open Fr renaming refl->apz
section
open Go.RowKit
section
variable {X : Fx} {z : Z}
theorem force_eq{R:Type}:∀(l:List U)(k:List U->Option R),force l k=k l
 |[],k=>rfl
 |x::l,k=>by simp only[force];rw[force_eq l]
theorem Vm{R:Type}{q:Bool}{ops:Array Oper}:∀(l:List Oper)(s:AS)(k:AS->Option R),D8 X q ops l s k=oS X q ops l s k
 |[],s,k=>rfl
 |o::l,s,k=>by simp only[D8,oS];congr 1;funext s;rw[force_eq];exact Vm l _ k
theorem S8{α:Type}{c:U}{t e:Option α}{r:α}(h:Γ c t e=δ r):(c=.bool ι/\t=δ r)\/(c=.bool ε/\e=δ r):=by
 cases c<;>simp only[Γ]at h<;>first|(cases h;done)|skip
 rename_i b;cases b
 ·exact .inr ⟨rfl,h⟩
 ·exact .inl ⟨rfl,h⟩
theorem adl{f:List U->Heap->Option (AX×List U×Heap)}{v:List U}{σ:Heap}{r:AX×List U×Heap}(h:Zp f v σ=δ r):∃n,aoM f n v σ=δ r:=by
 unfold Zp at h;split at h
 ·rename_i hx;injection h with h
  exact⟨_,h▸Zx (Zx hx)⟩
 ·cases h
theorem ach{R:Type}{f:List U->Heap->(AX×List U×Heap->Option R)->Option R}{v:List U}{σ:Heap}{K:AX×List U×Heap->Option R}{r:R}(h:A.NJ f v σ K=δ r):∃n,A.Dp f n v σ K=δ r:=by
 unfold A.NJ at h;split at h
 ·rename_i hx;injection h with h
  obtain⟨n,hn⟩:=Zx hx;exact⟨n,h▸hn n (cg _)⟩
 ·cases h
theorem Hz{R:Type}{e:AX}{k:AX->Option R}{r:R}:∀{xs:List AX},A.sel e k xs=δ r->k e=δ r
 |[],h=>by cases h
 |x::xs,h=>by
  simp only[A.sel]at h;cases he:(e==x)
  ·rw[he]at h;exact Hz h
  ·rw[he]at h;have:e=x:=by simpa using he
   subst this;exact h
theorem Bl{X:Fx}{c:Code}{ds:List Nat}{s s':AS}(h:Fr X ds s s'):∀i,i∉ds++X.L->s'.sl[i]? =s.sl[i]? :=λi hi=>by
 rw[ga]at hi
 exact h i (λe=>hi (.inl e)) (by
  cases hc:X.L.contains i
  ·rfl
  ·exact absurd (aoP.1 hc) (λe=>hi (.inr e)))
theorem wU{X:Fx}{s:AS}{ds live:List Nat}{vs:List U}{σ:Heap}(hl:(live.all λd=>(ds++X.L).contains d)=ι):Fr X ds s (s.meet (ds++X.L) live vs σ):=λi hi hL=>by
 have hni:i∉ds++X.L:=by
  rw[ga];rintro(e|e)
  ·exact hi e
  ·rw[aoP.2 e]at hL;cases hL
 simp only[AS.meet];rw[(GY vs live 0 (rE s.sl (ds++X.L)) i).2.1 (λe=>hni ?_),(GG (ds++X.L) s.sl i).2.2.1 hni];exact aoP.1 (kV.1 hl i e)
theorem Ss{live:List Nat}{e:AX}{s:AS}{r:List U×Heap}(h:Iv live e s=δ r):e=.normal/\r=(vals s.sl live,s.σ):=by cases e<;>simp only[Iv]at h<;>first|(cases h;done)|(injection h with h;exact⟨rfl,h.symm⟩)
theorem U9{P:Program}{c:Code}{Q:Exit->Act->World->Prop}(I:Nat->Act->World->Prop)(round:∀n a w,I n a w->c.wp P (Exit.then (λa' w'=>∃m,m<n/\I m a' w') Q) a w) {n:Nat} {a:Act} {w:World} (h:I n a w):(Code.loop c).wp P Q a w:=by
 intro b k cs
 have key:∀n a w,I n a w->∃e a' w',Q e a' w'/\Arrives P (lone (b.at a (.code c::.inLoop c::k)) cs w) b k cs e a' w':=by
  intro n;induction n using Nat.strongRecOn with
  |_ n ih=>
   intro a w hI;obtain⟨e,a1,w1,hq,xI⟩:=round n a w hI b (.inLoop c::k) cs;cases e with
   |normal=>obtain⟨m,hlt,hm⟩:=hq;obtain⟨e2,a2,w2,uk,agW⟩:=ih m hlt a1 w1 hm;exact⟨e2,a2,w2,uk,.of_steps (Steps.trans xI (.one step_inLoop)) agW⟩
   |exit id=>exact⟨_,a1,w1,hq,.pass (x:=.inLoop c) rfl (λ_ _=>.inl (by simp)) xI⟩
   |goto l=>exact⟨_,a1,w1,hq,.pass (x:=.inLoop c) rfl (λ_ _=>.inl (by simp)) xI⟩
   |ret=>exact⟨_,a1,w1,hq,.pass (x:=.inLoop c) rfl (λ_ _=>.inl (by simp)) xI⟩
   |panic ch=>exact⟨_,a1,w1,hq,.pass (x:=.inLoop c) rfl (λ_ _=>.inl (by simp)) xI⟩
   |outgrown=>exact⟨_,a1,w1,hq,.pass (x:=.inLoop c) rfl (λ_ _=>.inl (by simp)) xI⟩
 obtain⟨e,a',w',hq,xI⟩:=key n a w h;exact⟨e,a',w',hq,.of_steps (.one step_loop) xI⟩
theorem tj(hs:fU X):∀(c:Code){R:Type}(cN:kn)(s:AS)(a:Act)(w:World)(E:List Pl)(pb:Nat->Option Nat)(k:AX->AS->Option R)(r:R)(Q:Exit->Act->World->Prop),exec X cN c s k=δ r->St X z s a w E pb->
  (∀e s' a' w' E' bL,St X z s' a' w' E' bL->Fr X (dD c) s s'->k e s'=δ r->Q e.to a' w')->c.wp X.P Q a w
 |.skip,R,cN,s,a,w,E,pb,k,r,Q,hk,h,hQ=>by
  have hk':k .normal s=δ r:=by cases cN<;>simpa [exec]using hk
  exact wp_skip (hQ .normal s a w E pb h (apz _ _) hk')
 |.label l,R,cN,s,a,w,E,pb,k,r,Q,hk,h,hQ=>by
  have hk':k .normal s=δ r:=by cases cN<;>simpa [exec]using hk
  exact wp_label (hQ .normal s a w E pb h (apz _ _) hk')
 |.exit id,R,cN,s,a,w,E,pb,k,r,Q,hk,h,hQ=>by
  have hk':k (.exit id) s=δ r:=by cases cN<;>simpa [exec]using hk
  exact wp_exit (hQ (.exit id) s a w E pb h (apz _ _) hk')
 |.ret,R,cN,s,a,w,E,pb,k,r,Q,hk,h,hQ=>by
  have hk':k .ret s=δ r:=by cases cN<;>simpa [exec]using hk
  exact wp_ret (hQ .ret s a w E pb h (apz _ _) hk')
 |.region id ops draw,R,cN,s,a,w,E,pb,k,r,Q,hk,h,hQ=>by
  have hk':(bif draw then(bif CZ X ops s.sl then oS X ι ops ops.toList ⟨s.sl,λ_=>μ,s.σ⟩ λs=>k .normal ⟨s.sl,λ_=>μ,s.σ⟩else μ)else oS X ε ops ops.toList s λs=>k .normal ⟨s.sl,λ_=>μ,s.σ⟩)=δ r:=by cases cN<;>simpa [exec,force_eq,Vm]using hk
  cases draw
  ·simp only[bA]at hk';refine wp_region ?_;have:=Vl (z:=z) (Q:=Q) (s0:=s) hs ops.toList 0 s a w E pb (λj=>by simp) h hk' (λs' a' w' E' bL h' hf hk2=>hQ .normal _ a' w' E' bL h'.QL (λi hi hL=>hf i (by simpa [dD]using hi) hL) hk2);rw[Z1];simpa using this
  ·simp only[bR]at hk';cases hok:CZ X ops s.sl
   ·rw[hok]at hk';cases hk'
   ·rw[hok]at hk';simp only[bR]at hk';exact ae6 (s:=⟨s.sl,λ_=>μ,s.σ⟩) hs hok (λ_=>rfl) (λs' a' w' E' bL h' hf hk2=>hQ .normal _ a' w' E' bL h'.QL (λi hi hL=>hf i (by simpa [dD]using hi) hL) hk2) h.QL hk'
 |.seq x y,R,cN,s,a,w,E,pb,k,r,Q,hk,h,hQ=>by
  cases cN<;>simp only[exec]at hk<;>first|(cases hk;done)|skip
  rename_i aa bb;refine wp_seq (tj hs x aa s a w E pb _ r _ hk h λe s' a' w' E' bL h' hf hk'=>?_);cases e with
  |normal=>exact tj hs y bb s' a' w' E' bL k r Q hk' h' λe2 s2 a2 w2 E2 QU h2 vV hk2=>hQ e2 s2 a2 w2 E2 QU h2 (by simpa [dD]using hf.trans vV) hk2
  |exit i=>exact hQ (.exit i) s' a' w' E' bL h' (hf.mono λi hi=>by simp [dD,hi]) hk'
  |ret=>exact hQ .ret s' a' w' E' bL h' (hf.mono λi hi=>by simp [dD,hi]) hk'
 |.cond c x y,R,cN,s,a,w,E,pb,k,r,Q,hk,h,hQ=>by
  have rc:=dA h c;cases cN<;>simp only[exec,force_eq]at hk<;>first|(cases hk;done)|skip
  case c live aa bb=>
   cases hl:(live.all λd=>(dD x++dD y++X.L).contains d)
   ·rw[hl]at hk;cases hk
   ·rw[hl]at hk;simp only[AV,bA]at hk;obtain⟨⟨vs,σ'⟩,h1,h2⟩:=bh.1 hk;rcases S8 h1 with⟨ec,hb⟩|⟨ec,hb⟩
    ·rw[ec]at rc;simp only[an]at rc;refine wp_cond_true rc (tj hs x aa s a w E pb _ _ Q hb h λe s' a' w' E' bL h' hf hk'=>?_);obtain⟨rfl,hv⟩:=Ss hk';simp only[Ξ]at hv;obtain⟨rfl,rfl⟩:=hv;have vV:Fr X (dD x++dD y) s s':=hf.mono λi hi=>by simp [hi]
     exact hQ .normal _ a' w' E' bL (h'.meet (by rw[h.mZ,h'.mZ]) (Bl (c:=x) vV)) (by simpa [dD]using wU (X:=X) hl) h2
    ·rw[ec]at rc;simp only[an]at rc;refine wp_cond_false rc (tj hs y bb s a w E pb _ _ Q hb h λe s' a' w' E' bL h' hf hk'=>?_);obtain⟨rfl,hv⟩:=Ss hk';simp only[Ξ]at hv;obtain⟨rfl,rfl⟩:=hv;have vV:Fr X (dD x++dD y) s s':=hf.mono λi hi=>by simp [hi]
     exact hQ .normal _ a' w' E' bL (h'.meet (by rw[h.mZ,h'.mZ]) (Bl (c:=x) vV)) (by simpa [dD]using wU (X:=X) hl) h2
  case j aa bb=>
   rcases S8 hk with⟨ec,hb⟩|⟨ec,hb⟩
   ·rw[ec]at rc;simp only[an]at rc;exact wp_cond_true rc (tj hs x aa s a w E pb k r Q hb h λe s' a' w' E' bL h' hf hk'=>hQ e s' a' w' E' bL h' (hf.mono λi hi=>by simp [dD,hi]) hk')
   ·rw[ec]at rc;simp only[an]at rc;exact wp_cond_false rc (tj hs y bb s a w E pb k r Q hb h λe s' a' w' E' bL h' hf hk'=>hQ e s' a' w' E' bL h' (hf.mono λi hi=>by simp [dD,hi]) hk')
 |.block id c,R,cN,s,a,w,E,pb,k,r,Q,hk,h,hQ=>by
  cases cN<;>simp only[exec]at hk<;>first|(cases hk;done)|skip
  rename_i aa;refine wp_block (tj hs c aa s a w E pb _ r _ hk h λe s' a' w' E' bL h' hf hk'=>?_);cases e with
  |normal=>exact hQ .normal s' a' w' E' bL h' (by simpa [dD]using hf) hk'
  |ret=>exact hQ .ret s' a' w' E' bL h' (by simpa [dD]using hf) hk'
  |exit i=>
   simp only[AX.to,Exit.inBlock];simp only at hk';by_cases e:i=id
   ·have:(i==id)=ι:=by simpa using e
    rw[this]at hk';rw[aG e];exact hQ .normal s' a' w' E' bL h' (by simpa [dD]using hf) hk'
   ·have:(i==id)=ε:=by simpa using e
    rw[this]at hk';rw[aE e];exact hQ (.exit i) s' a' w' E' bL h' (by simpa [dD]using hf) hk'
 |.loop c,R,cN,s,a,w,E,pb,k,r,Q,hk,h,hQ=>by
  cases cN<;>simp only[exec,force_eq]at hk<;>first|(cases hk;done)|skip
  case lc live xs aa=>
   cases hl:(live.all λd=>(dD c++X.L).contains d)
   ·rw[hl]at hk;cases hk
   ·rw[hl]at hk;simp only[AV,bA]at hk;obtain⟨n,hn⟩:=ach hk;refine U9 (λn a w=>∃vs σ E pb,A.Dp (λvs σ K=>exec X aa c (s.meet (dD c++X.L) live vs σ) λe s'=>K (e,vals s'.sl live,s'.σ)) n vs σ (λr=>A.sel r.1 (λe=>k e (s.meet (dD c++X.L) live r.2.1 r.2.2)) xs)=δ r/\St X z (s.meet (dD c++X.L) live vs σ) a w E pb) ?_ (n:=n) ⟨_,_,E,pb,hn,h.meet rfl (λi _=>rfl)⟩;rintro n a w ⟨vs,σ,E,pb,hit,hst⟩;cases n with
    |zero=>cases hit
    |succ n=>
     simp only[A.Dp]at hit;refine tj hs c aa _ a w E pb _ _ _ hit hst λe s' a' w' E' bL h' hf hk'=>?_
     have hfr:∀i,i∉dD c++X.L->s'.sl[i]? =s.sl[i]? :=λi hi=>by rw[Bl (c:=c) hf i hi];exact Bl (c:=c) (wU (X:=X) (s:=s) (vs:=vs) (σ:=σ) hl) i hi
     have ze:=h'.meet (s:=s) (mods:=dD c++X.L) (live:=live) (by rw[h.mZ,h'.mZ]) hfr;cases e with
     |normal=>exact⟨n,Nat.lt_succ_self n,_,_,E',bL,hk',ze⟩
     |exit i=>exact hQ (.exit i) _ a' w' E' bL ze (by simpa [dD]using wU (X:=X) hl) (Hz hk')
     |ret=>exact hQ .ret _ a' w' E' bL ze (by simpa [dD]using wU (X:=X) hl) (Hz hk')
  rename_i live xs aa;cases hl:(live.all λd=>(dD c++X.L).contains d)
  ·rw[hl]at hk;cases hk
  ·rw[hl]at hk;simp only[AV,bA]at hk;obtain⟨⟨e0,yq,aM⟩,h1,h2⟩:=bh.1 hk;have hsel:=Hz h2;obtain⟨n,hn⟩:=adl h1;refine U9 (λn a w=>∃vs σ E pb,aoM (λvs σ=>exec X aa c (s.meet (dD c++X.L) live vs σ) (leave live)) n vs σ=δ (e0,yq,aM)/\St X z (s.meet (dD c++X.L) live vs σ) a w E pb) ?_ (n:=n) ⟨_,_,E,pb,hn,h.meet rfl (λi _=>rfl)⟩;rintro n a w ⟨vs,σ,E,pb,hit,hst⟩;cases n with
   |zero=>cases hit
   |succ n=>
    simp only[aoM]at hit;obtain⟨⟨e1,vs1,σ1⟩,g1,g2⟩:=bh.1 hit;refine tj hs c aa _ a w E pb _ _ _ g1 hst λe s' a' w' E' bL h' hf hk'=>?_
    simp only[leave,χ,Ξ]at hk';obtain⟨rfl,rfl,rfl⟩:=hk'
    have hfr:∀i,i∉dD c++X.L->s'.sl[i]? =s.sl[i]? :=λi hi=>by rw[Bl (c:=c) hf i hi];exact Bl (c:=c) (wU (X:=X) (s:=s) (vs:=vs) (σ:=σ) hl) i hi
    have ze:=h'.meet (s:=s) (mods:=dD c++X.L) (live:=live) (by rw[h.mZ,h'.mZ]) hfr;cases e with
    |normal=>exact⟨n,Nat.lt_succ_self n,_,_,E',bL,g2,ze⟩
    |exit i=>simp only[χ,Ξ]at g2;obtain⟨rfl,rfl,rfl⟩:=g2;exact hQ (.exit i) _ a' w' E' bL ze (by simpa [dD]using wU (X:=X) hl) hsel
    |ret=>simp only[χ,Ξ]at g2;obtain⟨rfl,rfl,rfl⟩:=g2;exact hQ .ret _ a' w' E' bL ze (by simpa [dD]using wU (X:=X) hl) hsel
 |.rangeFunc ..,R,cN,s,a,w,E,pb,k,r,Q,hk,h,hQ=>by cases cN<;>simp [exec]at hk
 |.scope _,R,cN,s,a,w,E,pb,k,r,Q,hk,h,hQ=>by cases cN<;>simp [exec]at hk
 |.goto _,R,cN,s,a,w,E,pb,k,r,Q,hk,h,hQ=>by cases cN<;>simp [exec]at hk
 |.refuse _,R,cN,s,a,w,E,pb,k,r,Q,hk,h,hQ=>by cases cN<;>simp [exec]at hk
end
end
section
open Go.RowKit
section
variable {X : Fx} {z : Z} {s : AS} {a : Act} {w w' : World} {E : List Pl} {pb : Nat -> Option Nat}
def vC(tmps:Array Value):ResultVar->Sem Value
 |.tmp t=>pure (tmps.getD t undef)
 |.cell a t=>do loadVar t (<-asAddr (tmps.getD a undef))
theorem MH(h:St X z s a w E pb){R:Type}:∀(rs:List ResultVar)(k:List U->Option R)(r:R),vB X s rs k=δ r->∃vs iT,(rs.mapM (vC a.tmps)).run X.P w=.ok vs w/\aF (ctx z w E pb) iT vs/\k iT=δ r
 |[],k,r,hk=>⟨[],[],by simp,by simp [aF],hk⟩
 |.tmp t::rs,k,r,hk=>by simp only[vB]at hk;obtain⟨vs,iT,h1,h2,h3⟩:=MH h rs _ r hk;refine⟨a.tmps.getD t undef::vs,ev X s (.tmp t)::iT,?_,by simp only[aF];exact⟨_,_,rfl,dA h (.tmp t),h2⟩,h3⟩;simp only[List.mapM_cons,i7,vC,Zz,Λ,h1]
 |.cell q t::rs,k,r,hk=>by
  simp only[vB]at hk
  have fin:∀(v:Value)(av:U),(vC a.tmps (.cell q t)).run X.P w=.ok v w->an (ctx z w E pb) av v->vB X s rs (λvs=>k (av::vs))=δ r->∃vs iT,((ResultVar.cell q t::rs).mapM (vC a.tmps)).run X.P w=.ok vs w/\aF (ctx z w E pb) iT vs/\k iT=δ r:=by intro v av hv hr hk;obtain⟨vs,iT,h1,h2,h3⟩:=MH h rs _ r hk;refine⟨v::vs,av::iT,?_,by simp only[aF];exact⟨_,_,rfl,hr,h2⟩,h3⟩;simp only[List.mapM_cons,i7,hv,Zz,Λ,h1]
  split at hk
  ·rename_i b off hp;obtain⟨av,e1,e2⟩:=bh.1 hk;obtain⟨cs,e3,e4⟩:=bh.1 e1;obtain⟨n,k1,k2,k3,k4⟩:=A7 h (tag:=μ) trivial hp e3;obtain⟨v,j1,j2⟩:=GU (c:=ctx z w E pb) w X rfl k3.2 e4;rw[ZP]at j1;simp only[Act.eval]at k2;exact fin v av (by simp [vC,k2,asAddr,j1]) j2 e2
  ·obtain⟨av,e1,e2⟩:=bh.1 hk;obtain⟨cs,e3,e4⟩:=bh.1 e1;obtain⟨b,off,k2,k3⟩:=Ta h.heap e3 (dA h (.tmp q));obtain⟨v,j1,j2⟩:=GU (c:=ctx z w E pb) w X rfl k3 e4;rw[aps]at j1;simp only[Act.eval]at k2;exact fin v av (by simp [vC,k2,asAddr,j1]) j2 e2
theorem abN{P:Program}{fn:Func}{tmps:Array Value}{vs:List Value}(h:(fn.results.toList.mapM (vC tmps)).run P w=.ok vs w):∃v,(results fn tmps).run P w=.ok v w/\∀(c:RC)(iT:List U),aF c iT vs->an c (one iT) v:=by
 have e:results fn tmps=(do let vs <-fn.results.mapM (vC tmps);pure (if h:vs.size=1 then vs[0]else .tuple vs)):=by unfold results;congr 1
 have hm:(fn.results.mapM (vC tmps)).run P w=.ok vs.toArray w:=by rw[Array.mapM_eq_mapM_toList,Sem.run_map,h];rfl
 have hrun:(results fn tmps).run P w=.ok (if h:vs.toArray.size=1 then vs.toArray[0]else .tuple vs.toArray) w:=by rw[e,i7,hm];rfl
 refine⟨_,hrun,λc iT r=>?_⟩
 match iT,vs,r with
 |[x],[v],r=>simp only[aF]at r;obtain⟨v',_,e',r1,rfl⟩:=r;injection e' with e1 _;subst e1;simpa [one]using r1
 |[],[],r=>simp only[one,an];exact⟨#[],by simp,by simp [aF]⟩
 |x::y::xs,v::u::us,r=>simp only[one,an];exact⟨(v::u::us).toArray,by simp,by simpa using r⟩
 |[_],_::_::_,r=>exact absurd r.length (by simp)
 |_::_::_,[_],r=>exact absurd r.length (by simp)
 |[],_::_,r=>exact absurd r.length (by simp)
 |_::_,[],r=>exact absurd r.length (by simp)
end
section
variable {c c' : RC} {σ : Heap} {n : Nat}
structure tT (c c' : RC) (σ : Heap) (n : Nat) : Prop where
 w:c'.w=c.w
 nm:c'.nm=c.nm
 X:∀b,c'.X b->c.X b
 E:∀(id:Nat)(p:Pl),id<n->c.E[id]? =δ p->c'.E[id]? =δ p
 heap:fQ c σ
 IW:∀(id:Nat)(p:Pl),n<=id->c.E[id]? =δ p->¬c'.X p.b
theorem MB(d:Nat):∀(l l':List U),UU σ n d l=δ l'->l'.length=l.length
 |[],l',e=>by simp only[UU]at e;injection e with e;subst e;rfl
 |x::l,l',e=>by simp only[UU]at e;obtain⟨y,h1,h2⟩:=bh.1 e;obtain⟨l2,h3,rfl⟩:=cL.1 h2;simp [MB d l l2 h3]
theorem CO(d:Nat):∀(l l':List (List U)),A.iP σ n d l=δ l'->l'.length=l.length
 |[],l',e=>by simp only[A.iP]at e;injection e with e;subst e;rfl
 |x::l,l',e=>by simp only[A.iP]at e;obtain⟨y,h1,h2⟩:=bh.1 e;obtain⟨l2,h3,rfl⟩:=cL.1 h2;simp [CO d l l2 h3]
theorem Bb(d:Nat):∀(l:List (List U)),A.Dg σ n d l=A.iP σ n d l
 |[]=>by simp [A.iP,A.Dg]
 |x::l=>by simp [A.iP,A.Dg,Bb d l]
def yU:U->Bool
 |.os ..=>ι
 |.op ..=>ι
 |.oe ..=>ι
 |.om ..=>ι
 |_=>ε
theorem MW(d:Nat):∀(l:List U),A.tN σ n d l=UU σ n d l
 |[]=>by simp [UU,A.tN]
 |x::l=>by simp [UU,A.tN,MW d l]
theorem U1(d:Nat):∀(l:List (U×U)),A.xp σ n d l=A.oQ σ n d l
 |[]=>by simp [A.oQ,A.xp]
 |(k,v)::l=>by simp [A.oQ,A.xp,U1 d l]
theorem afd(d:Nat)(m:Int)(s:ByteArray):ZG σ n d (.agg [.int ξ m,.str s])=δ (.agg [.int ξ m,.str s]):=by cases d<;>simp [ZG,UU]
theorem Th{d:Nat}:∀{es es':List (U×U)},(∀p∈es,∃m s,p.1=.agg [.int ξ m,.str s])->A.oQ σ n d es=δ es'->es'.map (·.1)=es.map (·.1)
 |[],es',_,h=>by simp only[A.oQ]at h;injection h with h;subst h;rfl
 |(k,v)::r,es',hk,h=>by simp only[A.oQ]at h;obtain⟨m,s,e⟩:=hk (k,v) p6;simp only at e;subst e;rw[afd]at h;simp only[aB]at h;obtain⟨v',h1,h2⟩:=bh.1 h;obtain⟨r',h3,rfl⟩:=cL.1 h2;simp only[dJ,Th (λp hp=>hk p (iR _ hp)) h3]
theorem ac7{d:Nat}{es es':List (U×U)}(hd:Dk es)(h:A.oQ σ n d es=δ es'):Dk es':=by
 have e:=Th hd.1 h;refine⟨λp hp=>?_,by rw[e];exact hd.2⟩;have:p.1∈es.map (·.1):=by rw[<-e];exact aoV hp
 obtain⟨q,hq,e2⟩:=jJ.1 this;rw[<-e2];exact hd.1 q hq
mutual
theorem Bm(h:tT c c' σ n)(d:Nat)(hos:∀av cj v,yU av=ι->ZG σ n d av=δ cj->an c av v->an c' cj v):∀(av cj:U)(v:Value),ZG σ n d av=δ cj->an c av v->an c' cj v
 |.undef,cj,v,e,r=>by cases d<;>simp [ZG]at e
 |.int k m,cj,v,e,r=>by
  have:cj=.int k m:=by cases d<;>simpa [ZG]using e.symm
  subst this;simpa [an]using r
 |.bool b,cj,v,e,r=>by
  have:cj=.bool b:=by cases d<;>simpa [ZG]using e.symm
  subst this;simpa [an]using r
 |.str s,cj,v,e,r=>by
  have:cj=.str s:=by cases d<;>simpa [ZG]using e.symm
  subst this;simpa [an]using r
 |.aD,cj,v,e,r=>by
  have:cj=.aD:=by cases d<;>simpa [ZG]using e.symm
  subst this;simpa [an]using r
 |.ez,cj,v,e,r=>by
  have:cj=.ez:=by cases d<;>simpa [ZG]using e.symm
  subst this;simpa [an]using r
 |.np,cj,v,e,r=>by
  have:cj=.np:=by cases d<;>simpa [ZG]using e.symm
  subst this;simpa [an]using r
 |.nm,cj,v,e,r=>by
  have:cj=.nm:=by cases d<;>simpa [ZG]using e.symm
  subst this;simpa [an]using r
 |.um,cj,v,e,r=>by
  have:cj=.um:=by cases d<;>simpa [ZG]using e.symm
  subst this;simpa [an]using r
 |.agg cs,cj,v,e,r=>by
  have e':(UU σ n d cs).map .agg=δ cj:=by cases d<;>simpa [ZG]using e
  obtain⟨cs',h1,rfl⟩:=cL.1 e';simp only[an]at r ⊢;obtain⟨vs,e,r1,r2⟩:=r;exact⟨vs,e,Bc h d hos cs cs' _ h1 r1,r2⟩
 |.az cs,cj,v,e,r=>by
  have e':(UU σ n d cs).map .az=δ cj:=by cases d<;>simpa [ZG]using e
  obtain⟨cs',h1,rfl⟩:=cL.1 e';simp only[an]at r ⊢;obtain⟨vs,e,r1⟩:=r;exact⟨vs,e,Bc h d hos cs cs' _ h1 r1⟩
 |.sl sz es,cj,v,e,r=>by
  have e':(A.iP σ n d es).map (.sl sz)=δ cj:=by cases d<;>simpa [ZG]using e
  obtain⟨es',h1,rfl⟩:=cL.1 e';simp only[an]at r ⊢;obtain⟨q,cap,e,k1,k2,r⟩:=r;have hl:es'.length=es.length:=CO d es es' h1;refine⟨q,cap,by rw[hl];exact e,by rw[hl];exact k1,k2,?_⟩;rcases r with r|⟨b,off,e2,hb,hx,r⟩
  ·left;subst r;simpa using hl
  ·right;exact⟨b,off,e2,by rw[h.w];exact hb,λk=>hx (h.X b k),CU h d hos sz b es es' off h1 r⟩
 |.rp cs,cj,v,e,r=>by
  have e':(UU σ n d cs).map .rp=δ cj:=by cases d<;>simpa [ZG]using e
  obtain⟨cs',h1,rfl⟩:=cL.1 e';simp only[an]at r ⊢;obtain⟨b,off,e2,hb,hx,r⟩:=r;exact⟨b,off,e2,by rw[h.w];exact hb,λk=>hx (h.X b k),Ba h d hos b cs cs' off h1 r⟩
 |.fm es,cj,v,e,r=>by
  have e':(A.oQ σ n d es).map .fm=δ cj:=by cases d<;>simpa [ZG]using e
  obtain⟨es',h1,rfl⟩:=cL.1 e';simp only[an]at r ⊢;obtain⟨b,e2,hb,hx,bg,bC,k1,kw,l,k2,k3⟩:=r;exact⟨b,e2,by rw[h.w];exact hb,λk=>hx (h.X b k),bg,bC,by rw[h.w];exact k1,kw,l,Ht h d hos es es' _ h1 k2,k3.imp_right λq=>⟨q.1,ac7 q.2 h1⟩⟩
 |.op id off,cj,v,e,r=>hos _ cj v rfl e r
 |.oe id g i off,cj,v,e,r=>hos _ cj v rfl e r
 |.om id,cj,v,e,r=>hos _ cj v rfl e r
 |.fn f cs,cj,v,e,r=>by
  have e':(UU σ n d cs).map (.fn f)=δ cj:=by cases d<;>simpa [ZG]using e
  obtain⟨cs',h1,rfl⟩:=cL.1 e';simp only[an]at r ⊢;obtain⟨g,vs,e,k,r1⟩:=r;exact⟨g,vs,e,by rw[h.nm];exact k,Bc h d hos cs cs' _ h1 r1⟩
 |.lbx cs,cj,v,e,r=>by cases d<;>simp [ZG]at e
 |.os id g sz off len,cj,v,e,r=>hos _ cj v rfl e r
theorem Bc(h:tT c c' σ n)(d:Nat)(hos:∀av cj v,yU av=ι->ZG σ n d av=δ cj->an c av v->an c' cj v):∀(l l':List U)(vs:List Value),UU σ n d l=δ l'->aF c l vs->aF c' l' vs
 |[],l',vs,e,r=>by simp only[UU]at e;injection e with e;subst e;simpa [aF]using r
 |x::l,l',vs,e,r=>by simp only[UU]at e;obtain⟨y,h1,h2⟩:=bh.1 e;obtain⟨l2,h3,rfl⟩:=cL.1 h2;simp only[aF]at r ⊢;obtain⟨v,vs',e,r1,r2⟩:=r;exact⟨v,vs',e,Bm h d hos x y v h1 r1,Bc h d hos l l2 vs' h3 r2⟩
theorem Ht(h:tT c c' σ n)(d:Nat)(hos:∀av cj v,yU av=ι->ZG σ n d av=δ cj->an c av v->an c' cj v):∀(l l':List (U×U))(es:List MapEntry),A.oQ σ n d l=δ l'->bX c l es->bX c' l' es
 |[],l',es,e,r=>by simp only[A.oQ]at e;injection e with e;subst e;simpa [bX]using r
 |(k,v)::l,l',es,e,r=>by simp only[A.oQ]at e;obtain⟨k',h1,h2⟩:=bh.1 e;obtain⟨v',h3,h4⟩:=bh.1 h2;obtain⟨l2,h5,rfl⟩:=cL.1 h4;simp only[bX]at r ⊢;obtain⟨x,es',e,r1,r2,r3⟩:=r;exact⟨x,es',e,Bm h d hos k k' _ h1 r1,Bm h d hos v v' _ h3 r2,Ht h d hos l l2 es' h5 r3⟩
theorem Ba(h:tT c c' σ n)(d:Nat)(hos:∀av cj v,yU av=ι->ZG σ n d av=δ cj->an c av v->an c' cj v)(b:Nat):∀(l l':List U)(off:Nat),UU σ n d l=δ l'->aS c b off l->aS c' b off l'
 |[],l',off,e,r=>by simp only[UU]at e;injection e with e;subst e;simp [aS]
 |x::l,l',off,e,r=>by simp only[UU]at e;obtain⟨y,h1,h2⟩:=bh.1 e;obtain⟨l2,h3,rfl⟩:=cL.1 h2;simp only[aS]at r ⊢;obtain⟨⟨v,e1,e2,r1⟩,r2⟩:=r;exact⟨⟨v,by rw[h.w];exact e1,e2,Bm h d hos x y v h1 r1⟩,Ba h d hos b l l2 (off+1) h3 r2⟩
theorem CU(h:tT c c' σ n)(d:Nat)(hos:∀av cj v,yU av=ι->ZG σ n d av=δ cj->an c av v->an c' cj v)(sz b:Nat):∀(l l':List (List U))(off:Nat),A.iP σ n d l=δ l'->bw c sz b off l->bw c' sz b off l'
 |[],l',off,e,r=>by simp only[A.iP]at e;injection e with e;subst e;simp [bw]
 |x::l,l',off,e,r=>by simp only[A.iP]at e;obtain⟨y,h1,h2⟩:=bh.1 e;obtain⟨l2,h3,rfl⟩:=cL.1 h2;simp only[bw]at r ⊢;exact⟨by rw[MB d x y h1];exact r.1,Ba h d hos b x y off h1 r.2.1,CU h d hos sz b l l2 (off+sz) h3 r.2.2⟩
end
structure uf (c0 c c' : RC) : Prop where
 w:c'.w=c.w
 nm:c'.nm=c.nm
 X:∀b,c'.X b->c.X b
 E:∀(id:Nat)(p0 p:Pl),c0.E[id]? =δ p0->c.E[id]? =δ p->c'.E[id]? =δ p
mutual
theorem Bj{c0 c c':RC}(h:uf c0 c c'):∀(av:U)(v0 v:Value),an c0 av v0->an c av v->an c' av v
 |.undef,v0,v,r0,r=>by simp [an]
 |.int k m,v0,v,r0,r=>by simpa [an]using r
 |.bool b,v0,v,r0,r=>by simpa [an]using r
 |.str s,v0,v,r0,r=>by simpa [an]using r
 |.aD,v0,v,r0,r=>by simpa [an]using r
 |.ez,v0,v,r0,r=>by simpa [an]using r
 |.np,v0,v,r0,r=>by simpa [an]using r
 |.nm,v0,v,r0,r=>by simpa [an]using r
 |.fm es,v0,v,r0,r=>by simp only[an]at r0 r ⊢;obtain⟨_,_,_,_,_,_,_,_,_,r0,_⟩:=r0;obtain⟨b,e,hb,hx,bg,bC,k1,kw,l,k2,k3⟩:=r;exact⟨b,e,by rw[h.w];exact hb,λk=>hx (h.X b k),bg,bC,by rw[h.w];exact k1,kw,l,Hj h es _ _ r0 k2,k3⟩
 |.um,v0,v,r0,r=>by simpa [an]using r
 |.agg cs,v0,v,r0,r=>by simp only[an]at r0 r ⊢;obtain⟨yq,_,zX,_⟩:=r0;obtain⟨vs,e,r1,r2⟩:=r;exact⟨vs,e,Hi h cs _ _ zX r1,r2⟩
 |.az cs,v0,v,r0,r=>by simp only[an]at r0 r ⊢;obtain⟨yq,_,zX⟩:=r0;obtain⟨vs,e,r1⟩:=r;exact⟨vs,e,Hi h cs _ _ zX r1⟩
 |.sl sz es,v0,v,r0,r=>by
  simp only[an]at r0 r ⊢;obtain⟨_,_,_,_,_,r0⟩:=r0;obtain⟨q,cap,e,k1,k2,r⟩:=r;refine⟨q,cap,e,k1,k2,?_⟩;rcases r with r|⟨b,off,e2,hb,hx,r⟩
  ·exact .inl r
  ·rcases r0 with r0|⟨b0,oz,_,_,_,r0⟩
   ·exact .inl r0
   ·exact .inr ⟨b,off,e2,by rw[h.w];exact hb,λk=>hx (h.X b k),Hh h sz b0 b es oz off r0 r⟩
 |.rp cs,v0,v,r0,r=>by simp only[an]at r0 r ⊢;obtain⟨b0,oz,_,_,_,r0⟩:=r0;obtain⟨b,off,e2,hb,hx,r⟩:=r;exact⟨b,off,e2,by rw[h.w];exact hb,λk=>hx (h.X b k),CS h b0 b cs oz off r0 r⟩
 |.op id off,v0,v,r0,r=>by simp only[an]at r0 r ⊢;obtain⟨p0,e0,_⟩:=r0;obtain⟨p,e1,e2,e3⟩:=r;exact⟨p,h.E id p0 p e0 e1,e2,e3⟩
 |.oe id g i off,v0,v,r0,r=>by simp only[an]at r0 r ⊢;obtain⟨_,p0,e0,_⟩:=r0;obtain⟨hg,p,e1,e2⟩:=r;exact⟨hg,p,h.E id p0 p e0 e1,e2⟩
 |.os id g sz off len,v0,v,r0,r=>by simp only[an]at r0 r ⊢;obtain⟨_,p0,e0,_⟩:=r0;obtain⟨hg,p,e1,e2⟩:=r;exact⟨hg,p,h.E id p0 p e0 e1,e2⟩
 |.om id,v0,v,r0,r=>by simp only[an]at r0 r ⊢;obtain⟨p0,e0,_⟩:=r0;obtain⟨p,e1,e2,e3⟩:=r;exact⟨p,h.E id p0 p e0 e1,e2,e3⟩
 |.fn f cs,v0,v,r0,r=>by simp only[an]at r0 r ⊢;obtain⟨_,_,_,_,r0⟩:=r0;obtain⟨g,vs,e1,e2,r⟩:=r;exact⟨g,vs,e1,by rw[h.nm];exact e2,Hi h cs _ _ r0 r⟩
 |.lbx cs,v0,v,r0,r=>by simp [an]at r
theorem Hi{c0 c c':RC}(h:uf c0 c c'):∀(l:List U)(yq vs:List Value),aF c0 l yq->aF c l vs->aF c' l vs
 |[],yq,vs,r0,r=>by simpa [aF]using r
 |x::l,yq,vs,r0,r=>by simp only[aF]at r0 r ⊢;obtain⟨v0,us0,_,zX,QV⟩:=r0;obtain⟨v,us,e,r1,r2⟩:=r;exact⟨v,us,e,Bj h x _ _ zX r1,Hi h l _ _ QV r2⟩
theorem Hj{c0 c c':RC}(h:uf c0 c c'):∀(l:List (U×U))(gq es:List MapEntry),bX c0 l gq->bX c l es->bX c' l es
 |[],gq,es,r0,r=>by simpa [bX]using r
 |(k,v)::l,gq,es,r0,r=>by simp only[bX]at r0 r ⊢;obtain⟨e0,ajc,_,k1,k2,k3⟩:=r0;obtain⟨e,es',e1,j1,j2,j3⟩:=r;exact⟨e,es',e1,Bj h k _ _ k1 j1,Bj h v _ _ k2 j2,Hj h l ajc es' k3 j3⟩
theorem CS{c0 c c':RC}(h:uf c0 c c')(b0 b:Nat):∀(l:List U)(oz off:Nat),aS c0 b0 oz l->aS c b off l->aS c' b off l
 |[],oz,off,r0,r=>by simp [aS]
 |x::l,oz,off,r0,r=>by simp only[aS]at r0 r ⊢;obtain⟨⟨v0,_,_,zX⟩,QV⟩:=r0;obtain⟨⟨v,e1,e2,r1⟩,r2⟩:=r;exact⟨⟨v,by rw[h.w];exact e1,e2,Bj h x _ _ zX r1⟩,CS h b0 b l _ _ QV r2⟩
theorem Hh{c0 c c':RC}(h:uf c0 c c')(sz b0 b:Nat):∀(l:List (List U))(oz off:Nat),bw c0 sz b0 oz l->bw c sz b off l->bw c' sz b off l
 |[],oz,off,r0,r=>by simp [bw]
 |x::l,oz,off,r0,r=>by simp only[bw]at r0 r ⊢;exact⟨r.1,CS h b0 b x _ _ r0.2.1 r.2.1,Hh h sz b0 b l _ _ r0.2.2 r.2.2⟩
end
theorem My{c0 c c':RC}(h:uf c0 c c'){p0 p:Pl}{x:bQ}(k0:lY c0 p0 x)(k:lY c p x):lY c' p x:=by
 cases x with
 |box cs=>obtain⟨h1,⟨⟨arr,t,h2,h3⟩,h4⟩⟩:=k;exact⟨h1,⟨arr,t,by rw[h.w];exact h2,h3⟩,CS h _ _ cs _ _ k0.2.2 h4⟩
 |arr g sz es=>obtain⟨h1,h2,h3,h4,⟨arr,t,h5,h6⟩,h7,h8,h9⟩:=k;obtain⟨_,_,_,_,_,_,k8,_⟩:=k0;exact⟨h1,h2,h3,h4,⟨arr,t,by rw[h.w];exact h5,h6⟩,h7,Hh h sz _ _ es _ _ k8 h8,λarr t fz e=>h9 arr t fz (by rw[<-h.w];exact e)⟩
 |oO g sz es=>obtain⟨h1,h2,h3,h4,⟨arr,t,h5,h6⟩,h7,h8,h9⟩:=k;obtain⟨_,_,_,_,_,_,k8,_⟩:=k0;exact⟨h1,h2,h3,h4,⟨arr,t,by rw[h.w];exact h5,h6⟩,h7,Hh h sz _ _ es _ _ k8 h8,λarr t fz e=>h9 arr t fz (by rw[<-h.w];exact e)⟩
 |map es=>obtain⟨h1,bg,bC,h2,hw,h3⟩:=k;obtain⟨_,_,_,_,_,k3⟩:=k0;exact⟨h1,bg,bC,by rw[h.w];exact h2,hw,Hj h es _ _ k3 h3⟩
 |it cur left=>
  obtain⟨h1,h2⟩:=k;obtain⟨_,k2⟩:=k0;refine⟨h1,?_⟩;rcases h2 with⟨h2,h2',since,seen,last,h3⟩|⟨m,seen,bg,bC,h3,h4,h5,h6,h7,h8,h9⟩
  ·exact .inl ⟨h2,h2',since,seen,last,by rw[h.w];exact h3⟩
  ·rcases k2 with⟨q1,q2,_⟩|⟨m0,amr,amk,ama,q3,q4,q5,q6,q7,q8,q9⟩
   ·refine .inr ⟨m,seen,bg,bC,by rw[h.w];exact h3,by rw[h.w];exact h4,λk=>h5 (h.X m k),by rw[h.w];exact h6,h7,by rw[q2]at h8 ⊢;exact h8,.inl q1⟩
   ·refine .inr ⟨m,seen,bg,bC,by rw[h.w];exact h3,by rw[h.w];exact h4,λk=>h5 (h.X m k),by rw[h.w];exact h6,h7,(by obtain⟨l0,q8,_⟩:=q8;obtain⟨l,h8,hp⟩:=h8;exact⟨l,Hj h left _ _ q8 h8,hp⟩),?_⟩;rcases h9 with h9|⟨kk,v,e,e1,e2,e3,e4,e5⟩
    ·exact .inl h9
    ·rcases q9 with q9|⟨kk',v',e',f1,f2,f3,f4,f5⟩
     ·exact .inl q9
     ·rw[e1]at f1;simp only[VP,Ξ,and_true]at f1;obtain⟨rfl,rfl⟩:=f1;exact .inr ⟨_,_,e,e1,e2,e3,Bj h _ _ _ f4 e4,Bj h _ _ _ f5 e5⟩
def aje:bQ->Nat
 |.arr g _ _=>g
 |.oO g _ _=>g
 |_=>0
theorem MO{c:RC}{p:Pl}{x:bQ}(k:lY c p x):p.g=aje x:=by cases x<;>exact k.1
theorem US{c0 c c':RC}(h:uf c0 c c')(sz b:Nat):∀(l:List (List U))(off:Nat),(∀y∈l,∃b0 o0,aS c0 b0 o0 y)->bw c sz b off l->bw c' sz b off l
 |[],off,h0,r=>by simp [bw]
 |x::l,off,h0,r=>by simp only[bw]at r ⊢;obtain⟨b0,o0,k⟩:=h0 x (by simp);exact⟨r.1,CS h b0 b x _ _ k r.2.1,US h sz b l _ (λy hy=>h0 y (by simp [hy])) r.2.2⟩
theorem aoj{c:RC}:∀{args:List U}{vs:List Value},aF c args vs->∀y∈A.rowsOf args,∃b0 o0,aS c b0 o0 y
 |[],_,_,y,hy=>by simp [A.rowsOf]at hy
 |a::args,vs,h,y,hy=>by
  simp only[aF]at h;obtain⟨v,vs',rfl,h1,h2⟩:=h;simp only[A.rowsOf,ga]at hy;rcases hy with hy|hy
  ·cases a<;>simp only[ZF]at hy;rename_i sz es;simp only[an]at h1;obtain⟨a,cap,rfl,_,_,h3⟩:=h1;rcases h3 with h3|⟨b,off,_,_,_,h4⟩
   ·rw[h3]at hy;cases hy
   ·obtain⟨i,hi⟩:=S1.1 hy;exact⟨_,_,(apd h4 hi).2⟩
  ·exact aoj h2 y hy
theorem uM(h:tT c c' σ n):∀(d:Nat)(av cj:U)(v:Value),ZG σ n d av=δ cj->an c av v->an c' cj v
 |0=>Bm h 0 (λav cj v ho e r=>by cases av<;>first|(simp [ZG]at e;done)|(simp [yU]at ho;done))
 |d+1=>Bm h (d+1) (λav cj v ho e r=>match av,ho,e,r with
  |.op id off,_,e,r=>by
   simp only[ZG]at e;simp only[an]at r;obtain⟨p,h1,h2,rfl⟩:=r;split at e
   ·rename_i hlt;injection e with e;subst e
    simp only[an];exact⟨p,h.E id p hlt h1,h2,rfl⟩
   ·rename_i hge;split at e
    ·rename_i cs hs;obtain⟨cs',e1,rfl⟩:=cL.1 e;rw[MW]at e1;obtain⟨j1,⟨⟨arr,t,j2,j3⟩,j4⟩⟩:=h.heap.blk id p _ h1 hs;simp only[an];refine⟨p.b,off,rfl,by rw[h.w];exact(tQ.1 j2).1,h.IW id p (by omega) h1,?_⟩;have j5:=j4.drop off;rw[ZP]at j5;exact Ba h d (λav cj v _ e r=>uM h d _ _ _ e r) p.b _ cs' _ e1 j5
    ·cases e
  |.oe id g i off,_,e,r=>by
   simp only[ZG]at e;simp only[an]at r;obtain⟨hg,p,h1,h2,a,rfl,h3⟩:=r;split at e
   ·rename_i hlt;injection e with e;subst e
    simp only[an];exact⟨hg,p,h.E id p hlt h1,h2,a,rfl,h3⟩
   ·rename_i hge;split at e
    ·rename_i g' sz' es hs;split at e
     ·rename_i hc;subst hc;split at e
      ·rename_i el hel;obtain⟨cs',e1,rfl⟩:=cL.1 e;rw[MW]at e1;obtain⟨j1,j2,j3,j4,⟨arr,bt,j5,j6⟩,j7,j8,j9⟩:=h.heap.blk id p _ h1 hs;have ha:=h3 j1.symm;subst ha;simp only[an];refine⟨p.b,_,rfl,by rw[h.w];exact(tQ.1 j5).1,h.IW id p (by omega) h1,?_⟩;rw[j3];have j9:=(j8.nth hel).2.drop off;exact Ba h d (λav cj v _ e r=>uM h d _ _ _ e r) p.b _ cs' _ e1 j9
      ·cases e
     ·cases e
    ·cases e
  |.om id,_,e,r=>by
   simp only[ZG]at e;simp only[an]at r;obtain⟨p,h1,h2,rfl⟩:=r;split at e
   ·rename_i hlt;injection e with e;subst e
    simp only[an];exact⟨p,h.E id p hlt h1,h2,rfl⟩
   ·rename_i hge;split at e
    ·rename_i es hs;obtain⟨es',e1,rfl⟩:=cL.1 e;rw[U1]at e1;obtain⟨j1,bg,bC,j2,jw,j3⟩:=h.heap.blk id p _ h1 hs;simp only[an];exact⟨p.b,rfl,by rw[h.w];exact(tQ.1 j2).1,h.IW id p (by omega) h1,bg,bC,by rw[h.w];exact j2,jw,_,Ht h d (λav cj v _ e r=>uM h d _ _ _ e r) _ es' _ e1 j3,.inl rfl⟩
    ·cases e
  |.os id g sz off len,_,e,r=>by
   simp only[ZG]at e;simp only[an]at r;obtain⟨hg,p,h1,h2,q,cap,rfl,h3,r⟩:=r;split at e
   ·rename_i hlt;injection e with e;subst e
    simp only[an];exact⟨hg,p,h.E id p hlt h1,h2,q,cap,rfl,h3,r⟩
   ·rename_i hge;split at e
    ·rename_i g' sz' es hs;split at e
     ·rename_i hc;obtain⟨rfl,rfl,hle⟩:=hc;obtain⟨es',e1,rfl⟩:=cL.1 e;rw[Bb]at e1;obtain⟨j1,j2,j3,j4,⟨arr,bt,j5,j6⟩,j7,j8,j9⟩:=h.heap.blk id p _ h1 hs;obtain⟨k1,k2,k3⟩:=r j1.symm;have hl:=CO d _ _ e1;have sE:((es.drop off).take len).length=len:=by simp;omega
      simp only[an];refine⟨δ q,cap,by rw[hl,sE],by rw[hl,sE];exact h3,j4,?_⟩;by_cases hz:len=0
      ·left;apply xA;rw[hl,sE,hz]
      ·right
       have hq:q=⟨p.b,p.base+off*p.sz,μ⟩:=by
        rcases k2 with k2|k2
        ·omega
        ·exact k2
       refine⟨p.b,p.base+off*p.sz,by rw[hq],by rw[h.w];exact(tQ.1 j5).1,h.IW id p (by omega) h1,?_⟩;refine CU h d (λav cj v _ e r=>uM h d _ _ _ e r) sz p.b _ es' _ e1 ?_;rw[j3];exact(j8.drop off).take len
     ·cases e
    ·cases e)
end
section
variable {c c' : RC} {σ : Heap} {n : Nat}
theorem adv{es es':List (U×U)}(hp:es.Perm es'):∀{l:List MapEntry},bX c es l->∃l',bX c es' l'/\l'.Perm l:=by
 induction hp with
 |nil=>intro l h;exact⟨l,h,.refl _⟩
 |cons x _ ih=>intro l h;obtain⟨e,l1,rfl,h2,h3,h4⟩:=h;obtain⟨l',k1,k2⟩:=ih h4;exact⟨e::l',⟨_,_,rfl,h2,h3,k1⟩,k2.cons e⟩
 |swap x y l0=>intro l h;obtain⟨e,l1,rfl,h2,h3,e',l2,rfl,h4,h5,h6⟩:=h;exact⟨e'::e::l2,⟨_,_,rfl,h4,h5,_,_,rfl,h2,h3,h6⟩,.swap _ _ _⟩
 |trans _ _ ih1 ih2=>intro l h;obtain⟨l1,k1,k2⟩:=ih1 h;obtain⟨l2,k3,k4⟩:=ih2 k1;exact⟨l2,k3,k4.trans k2⟩
theorem acU(es:List (U×U)):(A.Xr es).Perm es:=Zx (p:=λl:List (U×U)=>l.Perm es) ⟨es,.refl _⟩
theorem aeT{x:U}{v:Value}(r:an c x v):an c (A.can x) v:=by
 cases x<;>try exact r
 case fm es=>
  unfold A.can;simp only;split
  ·rename_i hd;simp only[an]at r ⊢;obtain⟨b,e,hb,hx,bg,bC,k1,kw,l,k2,k3⟩:=r;have hp:=acU es;obtain⟨l',j1,j2⟩:=adv hp.symm k2;refine⟨b,e,hb,hx,bg,bC,k1,kw,l',j1,.inr ⟨?_,?_⟩⟩
   ·rcases k3 with rfl|⟨k3,_⟩
    ·exact j2
    ·exact j2.trans k3
   ·exact⟨λp hp'=>hd.1 p (hp.mem_iff.1 hp'),(hp.map _).nodup_iff.2 hd.2⟩
  ·exact r
theorem L9{b:Nat}:∀{l:List U}{off:Nat},aS c b off l->aS c b off (l.map A.can)
 |[],off,_=>by simp [aS]
 |x::l,off,r=>by simp only[dJ,aS]at r ⊢;obtain⟨⟨v,h1,h2,h3⟩,h4⟩:=r;exact⟨⟨v,h1,h2,aeT h3⟩,L9 h4⟩
theorem Ma{sz b:Nat}:∀{l:List (List U)}{off:Nat},bw c sz b off l->bw c sz b off (l.map (·.map A.can))
 |[],off,_=>by simp [bw]
 |x::l,off,r=>by simp only[dJ,bw,XZ]at r ⊢;exact⟨r.1,L9 r.2.1,Ma r.2.2⟩
theorem ad8(h:tT c c' σ n){p:Pl}{x x':bQ}(e:A.OE σ n x=δ x')(k:lY c p x):lY c' p x':=by
 have hos:∀av cj v,yU av=ι->ZG σ n 8 av=δ cj->an c av v->an c' cj v:=λav cj v _ e r=>uM h 8 _ _ _ e r
 cases x with
 |box cs=>obtain⟨cs',e1,rfl⟩:=cL.1 e;obtain⟨h1,⟨⟨arr,t,h2,h3⟩,h4⟩⟩:=k;exact⟨h1,⟨arr,t,by rw[h.w];exact h2,by rw[XZ,MB 8 _ _ e1];exact h3⟩,L9 (Ba h 8 hos _ _ _ _ e1 h4)⟩
 |arr g sz es=>obtain⟨es',e1,rfl⟩:=cL.1 e;obtain⟨h1,h2,h3,h4,⟨arr,t,h5,h6⟩,h7,h8,h9⟩:=k;exact⟨h1,h2,h3,h4,⟨arr,t,by rw[h.w];exact h5,h6⟩,by rw[XZ,CO 8 _ _ e1];exact h7,Ma (CU h 8 hos _ _ _ _ _ e1 h8),λarr t fz e=>h9 arr t fz (by rw[<-h.w];exact e)⟩
 |oO g sz es=>obtain⟨es',e1,rfl⟩:=cL.1 e;obtain⟨h1,h2,h3,h4,⟨arr,t,h5,h6⟩,h7,h8,h9⟩:=k;exact⟨h1,h2,h3,h4,⟨arr,t,by rw[h.w];exact h5,h6⟩,by rw[XZ,CO 8 _ _ e1];exact h7,Ma (CU h 8 hos _ _ _ _ _ e1 h8),λarr t fz e=>h9 arr t fz (by rw[<-h.w];exact e)⟩
 |map es=>obtain⟨es',e1,rfl⟩:=cL.1 e;obtain⟨h1,bg,bC,h2,hwf,h3⟩:=k;exact⟨h1,bg,bC,by rw[h.w];exact h2,hwf,Ht h 8 hos _ _ _ e1 h3⟩
 |it cur left=>cases e
theorem Tg{n:Nat}:∀{JQ JR τ:Heap},A.BD σ n JQ JR=δ τ->τ.length=JQ.length/\JQ.length<=JR.length/\∀(i:Nat)x,τ[i]? =δ x->∃b b',JQ[i]? =δ b/\JR[i]? =δ b'/\((b'=b/\x=b)\/A.OE σ n b'=δ x)
 |[],JR,τ,h=>by simp only[A.BD]at h;injection h with h;subst h;simp
 |_::_,[],τ,h=>by simp [A.BD]at h
 |b::r,b'::r',τ,h=>by
  simp only[A.BD]at h;obtain⟨y,h1,h2⟩:=bh.1 h;obtain⟨Ge,h3,rfl⟩:=cL.1 h2;obtain⟨k1,k2,k3⟩:=Tg h3;refine⟨by simp [k1],by simp;omega,λi x hi=>?_⟩;cases i with
  |zero=>
   simp only[SD,χ]at hi;subst hi;refine⟨b,b',rfl,rfl,?_⟩;split at h1
   ·rename_i e;injection h1 with h1
    exact .inl ⟨e,h1.symm⟩
   ·exact .inr h1
  |succ i=>exact k3 i x hi
end
section
variable {X : Fx}
def mY.Ok:mY->Prop
 |.N g=>∀c a v,an c a v->an c (g a) v
 |_=>True
theorem yH(hs:fU X){f:FuncId}{fn:Func}{keep:mY}(hkeep:keep.Ok){cN:kn}{args:List U}{σ σ':Heap}{r:U}(hf:X.P.funcs[f]? =δ fn)(IE:∀cH w,(callFunc f cH).run X.P w=.ok (.enter f cH) w)
  (hr:nr X keep cN fn args σ=δ (r,σ')):iJ X.P X.nm f args σ r σ':=by
 refine .inl ⟨f,IE,λz vs hnm hlt hh ha=>?_⟩;unfold nr at hr;cases hb:fn.body with
 |none=>rw[hb]at hr;cases hr
 |some c=>
  rw[hb]at hr;simp only at hr;cases hc:(Nat.ble args.length fn.ntmps&&X.n==fn.ntmps)
  ·rw[hc]at hr;cases hr
  ·rw[hc]at hr;simp only[AV,bA]at hr;simp only[dZ,beq_iff_eq]at hc;obtain⟨hc1,qm⟩:=hc;have hle:args.length<=fn.ntmps:=Nat.le_of_ble_eq_true hc1;have hal:=ha.length;have amE:args.length=vs.size:=by simpa using hal
   have hst:St X z ⟨args++w8 (fn.ntmps-args.length) (.az []),λ_=>μ,σ⟩ {tmps:=vs++V1 (fn.ntmps-vs.size) undef,defers:=[]} z.w z.E cm:=by
    have WV:∀i av,(args++w8 (fn.ntmps-args.length) (.az []))[i]? =δ av->an (ctx z z.w z.E cm) av ((vs++V1 (fn.ntmps-vs.size) undef).getD i undef):=by
     intro i av hi;by_cases hlt':i<args.length
     ·rw[iK hlt']at hi;obtain⟨v,k1,k2⟩:=ha.nth hi
      have:(vs++V1 (fn.ntmps-vs.size) undef).getD i undef=v:=by rw[kU,Array.getElem?_append_left (by omega),<-ZT,k1];rfl
      rw[this];exact k2
     ·rw[jH (by omega)]at hi;have hm:=cW hi;rw[Zn]at hm;rw[hm.2]
      have:(vs++V1 (fn.ntmps-vs.size) undef).getD i undef=undef:=by rw[kU,Array.getElem?_append_right (by omega),Array.getElem?_replicate];split<;>rfl
      rw[this];simp only[an];exact⟨#[],rfl,by simp [aF]⟩
    refine⟨by simp;omega,by simp;omega,λi av hi=>Slot.of (WV i av hi),λi cs hi=>?_,(λt p hp=>by cases hp),(λi b hb=>by cases hb),(λi j b hb=>by cases hb),hh,rfl,?_,hnm.symm⟩
    ·have:=WV i _ hi;simp [an]at this
    ·exact⟨rfl,rfl,rfl,cg _,λ_ _ _=>rfl,λi p hp=>.inr ⟨p,hp,rfl⟩,λi p hp=>⟨p,hp,.inl rfl⟩,hlt,λp hp=>hh.lt hp⟩
   refine calls_of_wp hf hb (tj hs c cN _ _ _ _ _ _ _ _ hr hst λe s' a' w' E' bL h' _ hk=>?_)
   have hno:Ext (ctx z w' E' bL) (ctx z w' E' cm):=Ext.same rfl rfl (λb k=>by
    rcases k with k|k|⟨i,k⟩
    ·exact .inl k
    ·exact .inr (.inl k)
    ·cases k) rfl
   have Xw:∀(x:U)(v:Value)(r:U)(σ':Heap),an (ctx z w' E' bL) x v->Θ σ x s'.σ=δ (r,σ')->∃ko,Out z w' ko/\fQ (ctx z w' ko cm) σ'/\an (ctx z w' ko cm) r v:=by
     intro x v r σ' rv k3;unfold Θ at k3;split at k3
     ·rename_i he;simp only[χ,Ξ]at k3;obtain⟨rfl,rfl⟩:=k3;exact⟨E',h'.out,by rw[<-he];exact h'.heap.mono hno rfl (λp hp=>rfl),ZK hno _ _ rv⟩
     ·split at k3
      ·rename_i he;obtain⟨r',k6,k7⟩:=cL.1 k3;simp only[Ξ]at k7;obtain⟨rfl,rfl⟩:=k7;have hlen:=h'.heap.len;simp only[ctx]at hlen;have hzl:z.E.length=σ.length:=hh.len
       have ajo:σ.length<=s'.σ.length:=by have:=congrArg List.length he;simp at this;omega
       have wg:∀(id:Nat)(p:Pl),id<σ.length->E'[id]? =δ p->(E'.take σ.length)[id]? =δ p:=λid p hlt' hp=>by rw[UY hlt'];exact hp
       have rX:∀(id:Nat)(p:Pl),(E'.take σ.length)[id]? =δ p->id<σ.length/\E'[id]? =δ p:=λid p hp=>by
        rw[aoH]at hp;split at hp
        ·exact⟨by assumption,hp⟩
        ·cases hp
       have rM:tT (ctx z w' E' bL) (ctx z w' (E'.take σ.length) cm) s'.σ σ.length:=by
        refine⟨rfl,rfl,λb k=>?_,wg,h'.heap,λid p hge hp k=>?_⟩
        ·rcases k with k|⟨p,hp,k⟩|⟨i,k⟩
         ·exact .inl k
         ·exact .inr (.inl ⟨p,yX hp,k⟩)
         ·cases k
        ·rcases k with k|⟨q,hq,k⟩|⟨i,k⟩
         ·have hb:=hlt _ k;rcases h'.out.fresh' id p hp with e|⟨q,hq,_⟩
          ·omega
          ·rw[lG (by omega)]at hq;cases hq
         ·obtain⟨j,hj,rfl⟩:=To.1 hq;obtain⟨h1,h2⟩:=rX j _ (cy hj);have:=h'.heap.inj j id _ p h2 hp k;omega
         ·cases k
       have heq:∀(id:Nat),id<σ.length->σ[id]? =s'.σ[id]? :=λid hlt'=>by have h1:(List.take σ.length s'.σ)[id]? =s'.σ[id]? :=UY hlt';rw[he]at h1;exact h1
       have held:uf (ctx z z.w z.E cm) (ctx z w' E' bL) (ctx z w' (E'.take σ.length) cm):=
        ⟨rfl,rfl,rM.X,λid p0 p e0 e1=>wg id p (by have:=(cD.1 e0).1;simp only[ctx]at this;omega) e1⟩
       refine⟨E'.take σ.length,?_,?_,uM rM 8 _ _ _ k6 rv⟩
       ·have o:=h'.out
        exact⟨o.os,o.tape,o.output,o.size,o.stay,λi p hp=>o.fresh' i p (rX i p hp).2,λi p hp=>by
         obtain⟨p',m1,m2⟩:=o.env i p hp
         exact⟨p',wg i p' (by have:=(cD.1 hp).1;omega) m1,m2⟩,o.lt,o.mine⟩
       ·refine⟨by simp only[ctx,pV];omega,λi j p q hp hq e=>h'.heap.inj i j p q (rX i p hp).2 (rX j q hq).2 e,λi p x hp hx=>?_⟩;obtain⟨hi,hp2⟩:=rX i p hp;have hz0:z.E[i]? =δ z.E[i]:=cy (by omega);exact My held (hh.blk i _ x hz0 hx) (h'.heap.blk i p x hp2 (by rw[<-heq i hi];exact hx))
      ·cases k3
   have DM:∀(x:U)(v:Value)(r:U)(σ':Heap),an (ctx z w' E' bL) x v->A.DM σ x s'.σ=δ (r,σ')->∃ko,Out z w' ko/\fQ (ctx z w' ko cm) σ'/\an (ctx z w' ko cm) r v:=by
     intro x v r σ' rv k3;unfold A.DM at k3;obtain⟨τ,q0,k4⟩:=bh.1 k3;obtain⟨r',k6,k7⟩:=cL.1 k4;simp only[Ξ]at k7;obtain⟨rfl,rfl⟩:=k7;obtain⟨q1,ajo,q3⟩:=Tg q0;have hlen:=h'.heap.len;simp only[ctx]at hlen;have hzl:z.E.length=σ.length:=hh.len;have wg:∀(id:Nat)(p:Pl),id<σ.length->E'[id]? =δ p->(E'.take σ.length)[id]? =δ p:=λid p hlt' hp=>by rw[UY hlt'];exact hp
     have rX:∀(id:Nat)(p:Pl),(E'.take σ.length)[id]? =δ p->id<σ.length/\E'[id]? =δ p:=λid p hp=>by
      rw[aoH]at hp;split at hp
      ·exact⟨by assumption,hp⟩
      ·cases hp
     have rM:tT (ctx z w' E' bL) (ctx z w' (E'.take σ.length) cm) s'.σ σ.length:=by
      refine⟨rfl,rfl,λb k=>?_,wg,h'.heap,λid p hge hp k=>?_⟩
      ·rcases k with k|⟨p,hp,k⟩|⟨i,k⟩
       ·exact .inl k
       ·exact .inr (.inl ⟨p,yX hp,k⟩)
       ·cases k
      ·rcases k with k|⟨q,hq,k⟩|⟨i,k⟩
       ·have hb:=hlt _ k;rcases h'.out.fresh' id p hp with e|⟨q,hq,_⟩
        ·omega
        ·rw[lG (by omega)]at hq;cases hq
       ·obtain⟨j,hj,rfl⟩:=To.1 hq;obtain⟨h1,h2⟩:=rX j _ (cy hj);have:=h'.heap.inj j id _ p h2 hp k;omega
       ·cases k
     have held:uf (ctx z z.w z.E cm) (ctx z w' E' bL) (ctx z w' (E'.take σ.length) cm):=
      ⟨rfl,rfl,rM.X,λid p0 p e0 e1=>wg id p (by have:=(cD.1 e0).1;simp only[ctx]at this;omega) e1⟩
     refine⟨E'.take σ.length,?_,?_,uM rM 8 _ _ _ k6 rv⟩
     ·have o:=h'.out
      exact⟨o.os,o.tape,o.output,o.size,o.stay,λi p hp=>o.fresh' i p (rX i p hp).2,λi p hp=>by
       obtain⟨p',m1,m2⟩:=o.env i p hp
       exact⟨p',wg i p' (by have:=(cD.1 hp).1;omega) m1,m2⟩,o.lt,o.mine⟩
     ·refine⟨by simp only[ctx,pV];omega,λi j p q hp hq e=>h'.heap.inj i j p q (rX i p hp).2 (rX j q hq).2 e,λi p x hp hx=>?_⟩;obtain⟨hi,hp2⟩:=rX i p hp;obtain⟨b,b',m1,m2,m3⟩:=q3 i x hx;rcases m3 with⟨rfl,rfl⟩|m3
      ·have hz0:z.E[i]? =δ z.E[i]:=cy (by omega);exact My held (hh.blk i _ x hz0 m1) (h'.heap.blk i p x hp2 m2)
      ·exact ad8 rM m3 (h'.heap.blk i p b' hp2 m2)
   have done:∀(hk:vB X s' fn.results.toList (λvs=>keep.run args σ (one vs) s'.σ)=δ (r,σ')),
     a'.defers=[]/\∃v,(results fn a'.tmps).run X.P w'=.ok v w'/\∃v' E',Ending.returned v=.returned v'/\Out z w' E'/\fQ (ctx z w' E' cm) σ'/\an (ctx z w' E' cm) r v':=by
    intro hk;refine⟨h'.defers,?_⟩;obtain⟨us,iT,k1,k2,k3⟩:=MH h' _ _ _ hk;obtain⟨v,k4,k5⟩:=abN k1;have rv:=k5 _ _ k2;refine⟨v,k4,v,?_⟩
    have kept:∃E',Ending.returned v=.returned v/\Out z w' E'/\fQ (ctx z w' E' cm) s'.σ/\an (ctx z w' E' cm) (one iT) v:=
     ⟨E',rfl,h'.out,h'.heap.mono hno rfl (λp hp=>rfl),ZK hno _ _ rv⟩
    cases keep with
    |K=>simp only[mY.run,χ,Ξ]at k3;obtain⟨rfl,rfl⟩:=k3;exact kept
    |F=>obtain⟨ko,q1,q2,q3⟩:=Xw _ _ _ _ rv k3;exact⟨ko,rfl,q1,q2,q3⟩
    |G=>obtain⟨ko,q1,q2,q3⟩:=DM _ _ _ _ rv k3;exact⟨ko,rfl,q1,q2,q3⟩
    |N g=>simp only[mY.run]at k3;obtain⟨⟨r0,aM⟩,k6,k7⟩:=cL.1 k3;simp only[Ξ]at k7;obtain⟨rfl,rfl⟩:=k7;obtain⟨ko,q1,q2,q3⟩:=Xw _ _ _ _ rv k6;exact⟨ko,rfl,q1,q2,hkeep _ _ _ q3⟩
    |R=>
     simp only[mY.run]at k3;obtain⟨x,hx⟩:∃x,x=one iT:=⟨_,rfl⟩
     rw[<-hx]at rv k3 kept;unfold A.renew at k3;split at k3
     ·rename_i id g sz off len;split at k3
      ·rename_i g' sz' es hs';split at k3
       ·rename_i hc;obtain⟨rfl,rfl,hle,hlt2⟩:=hc;simp only[an]at rv;obtain⟨hg,p,e1,e2,qa,cp,rfl,hcap,rx⟩:=rv;obtain⟨j1,j2,j3,j4,⟨arr,bt,j5,j6⟩,j7,j8,j9⟩:=h'.heap.blk id p _ e1 hs';obtain⟨q1,q2,q3⟩:=rx j1.symm;have hid:id<E'.length:=(cD.1 e1).1;have kK:((es.drop off).take len).length=len:=by simp;omega
        have hmul:(off+len)*sz<=es.length*sz:=mX _ hle;rw[fJ]at hmul;split at k3
        ·simp only[χ,Ξ]at k3;obtain⟨rfl,rfl⟩:=k3
         have sF:=h'.move (id:=id) (p:=p) (p':=⟨p.b,p.base+off*sz,aoR args+1,sz,p.nB⟩) (w':=w') (blk:=.arr (aoR args+1) sz ((es.drop off).take len)) e1
          ⟨by omega,by show p.g<aoR args+1;omega⟩ rfl rfl rfl (cg _) (λb _ _=>rfl) (.inl rfl) (λhx=>by
           refine⟨rfl,by show 0<aoR args+1;omega,rfl,j4,⟨arr,bt,j5,j6⟩,?_,?_,j9⟩
           ·rw[kK];show p.base+off*sz+len*sz<=p.nB;omega
           ·exact bw.mono hx sz p.b rfl _ _ ((j8.drop off).take len))
         have ajs:Ext (ctx z w' (E'.set id ⟨p.b,p.base+off*sz,aoR args+1,sz,p.nB⟩) bL) (ctx z w' (E'.set id ⟨p.b,p.base+off*sz,aoR args+1,sz,p.nB⟩) cm):=Ext.same rfl rfl (λb k=>by
          rcases k with k|k|⟨i,k⟩
          ·exact .inl k
          ·exact .inr (.inl k)
          ·cases k) rfl
         refine⟨_,rfl,sF.1.out,sF.1.heap.mono ajs rfl (λp hp=>rfl),?_⟩;simp only[an];refine⟨by omega,⟨p.b,p.base+off*sz,aoR args+1,sz,p.nB⟩,by simp [ctx,hid],cg _,qa,cp,rfl,hcap,λ_=>⟨rfl,?_,?_⟩⟩
         ·rcases q2 with q2|q2
          ·exact .inl q2
          ·exact .inr (by rw[q2,q1];simp)
         ·simp only[ZP];rw[q1,fJ]at q3;omega
        ·unfold A.merge at k3;split at k3
         ·rename_i gP g0 O7 oz O1 rest _ _ _;split at k3
          ·rename_i g1 wu sB hs0;split at k3
           ·rename_i WM;obtain⟨amG,amn,rfl,hg1,hsame,hF,ajw⟩:=WM;simp only[χ,Ξ]at k3;obtain⟨rfl,rfl⟩:=k3;have hzl:z.E.length=σ.length:=hh.len;have hEl:E'.length=s'.σ.length:=h'.heap.len;have ajm:gP<σ.length:=(cD.1 hs0).1;obtain⟨pz,Ca⟩:∃pz,z.E[gP]? =δ pz:=⟨_,cy (by omega)⟩
            obtain⟨y1,y2,y3,y4,y5,y6,y7,y8⟩:=hh.blk gP pz _ Ca hs0;obtain⟨p'',rV⟩:∃p'':Pl,p''=⟨p.b,p.base+off*wu,aoR (.os gP g0 O7 oz O1::rest)+1,wu,p.nB⟩:=⟨_,rfl⟩
            have hne:id≠gP:=by omega
            have WO:∀(j:Nat)(q p2:Pl),j≠gP->z.E[j]? =δ q->E'[j]? =δ p2->p2=q:=by
             intro j q p2 hj hq hp2;have hjl:j<σ.length:=by rw[<-hzl];exact(cD.1 hq).1
             obtain⟨p3,m1,m2⟩:=h'.out.env j q hq;rw[hp2]at m1;injection m1 with m1;subst m1
             rcases m2 with m2|⟨m2,m3⟩
             ·exact m2
             ·have hsj:=hsame j hjl hj;have hx0:σ[j]? =δ σ[j]:=cy hjl;have u1:=MO (hh.blk j q _ hq hx0);have u2:=MO (h'.heap.blk j p2 _ hp2 (by rw[hsj];exact hx0));omega
            have zT:∃p0,E'[gP]? =δ p0:=⟨_,cy (by omega)⟩
            obtain⟨p0,zT⟩:=zT;have amH:p0.g=g1:=MO (h'.heap.blk gP p0 _ zT hF)
            have hfr:z.w.heap.size<=p.b:=by
             rcases h'.out.fresh' id p e1 with k|⟨q,hq,_⟩
             ·exact k
             ·rw[lG (by omega)]at hq;cases hq
            have hm:p∈E':=cW e1
            have hx:Ext (ctx z w' E' bL) (ctx z w' (E'.set gP p'') cm):=by
             refine⟨cg _,λb hb hn=>⟨rfl,?_⟩,λj q hq=>?_,rfl⟩
             ·rintro(k|⟨q,hq,k⟩|⟨i,k⟩)
              ·exact hn (.inl k)
              ·rcases List.mem_or_eq_of_mem_set hq with hq|hq
               ·exact hn (.inr (.inl ⟨q,hq,k⟩))
               ·exact hn (.inr (.inl ⟨p,hm,by rw[<-k,hq,rV]⟩))
              ·cases k
             ·by_cases e:gP=j
              ·subst e;simp only[ctx]at hq;rw[zT]at hq;injection hq with hq;subst hq
               exact⟨p'',by simp only[ctx];rw[pU (cD.1 zT).1],.inr ⟨by omega,by rw[rV];show p0.g<aoR (.os gP g0 O7 oz O1::rest)+1;omega⟩⟩
              ·exact⟨q,by simp only[ctx]at hq ⊢;rw[Z4 e];exact hq,.inl rfl⟩
            have Fi:∀(j:Nat)(q:Pl),(z.E.set gP p'')[j]? =δ q->(j=gP/\q=p'')\/(j≠gP/\z.E[j]? =δ q):=λj q hq=>by
             by_cases e:gP=j
             ·subst e;rw[pU (cD.1 Ca).1]at hq;injection hq with hq;exact .inl ⟨rfl,hq.symm⟩
             ·rw[Z4 e]at hq;exact .inr ⟨λe'=>e e'.symm,hq⟩
            have YG:∀(j:Nat)(q:Pl),j≠gP->z.E[j]? =δ q->E'[j]? =δ q:=λj q hj hq=>by have hjl:j<z.E.length:=(cD.1 hq).1;obtain⟨p3,m1,_⟩:=h'.out.env j q hq;rw[m1,WO j q p3 hj hq m1]
            have held:uf (ctx z z.w z.E cm) (ctx z w' (E'.set gP p'') cm) (ctx z w' (z.E.set gP p'') cm):=by
             refine⟨rfl,rfl,λb k=>?_,λj q0 q QE hq=>?_⟩
             ·rcases k with k|⟨q,hq,k⟩|⟨i,k⟩
              ·exact .inl k
              ·obtain⟨j,hj⟩:=S1.1 hq;rcases Fi j q hj with⟨e3,e4⟩|⟨e3,e4⟩
               ·subst e3;exact .inr (.inl ⟨q,cW (i:=j) (by rw[pU (cD.1 zT).1,e4]),k⟩)
               ·exact .inr (.inl ⟨q,cW (i:=j) (by rw[Z4 (λe=>e3 e.symm)];exact YG j q e3 e4),k⟩)
              ·cases k
             ·simp only[ctx]at QE hq ⊢;by_cases e:gP=j
              ·subst e;rw[pU (cD.1 zT).1]at hq;rw[pU (cD.1 Ca).1];exact hq
              ·rw[Z4 e]at hq ⊢;rw[WO j q0 q (λe'=>e e'.symm) QE hq];exact QE
            refine⟨z.E.set gP p'',rfl,?_,?_,?_⟩
            ·have o:=h'.out;refine⟨o.os,o.tape,o.output,o.size,o.stay,λj q hq=>?_,λj q hq=>?_,o.lt,o.mine⟩
             ·rcases Fi j q hq with⟨e3,e4⟩|⟨e3,e4⟩
              ·left;rw[e4,rV];exact hfr
              ·exact .inr ⟨q,e4,rfl⟩
             ·by_cases e:gP=j
              ·subst e;rw[Ca]at hq;injection hq with hq;subst hq
               exact⟨p'',pU (cD.1 Ca).1,.inr ⟨by omega,by rw[rV];show pz.g<aoR (.os gP g0 O7 oz O1::rest)+1;omega⟩⟩
              ·exact⟨q,by rw[Z4 e];exact hq,.inl rfl⟩
            ·refine⟨by simp [ctx,hzl],λi j q r hq hr he=>?_,λi q x hq cX=>?_⟩
             ·have aoq:∀(j:Nat)(q:Pl),z.E[j]? =δ q->q.b<z.w.heap.size:=λj q hq=>hh.lt (p:=q) (cW hq)
              rcases Fi i q hq with⟨e3,e4⟩|⟨e3,e4⟩<;>rcases Fi j r hr with⟨e5,e6⟩|⟨e5,e6⟩
              ·rw[e3,e5]
              ·have:=aoq j r e6;rw[e4,rV]at he;simp only at he;omega
              ·have:=aoq i q e4;rw[e6,rV]at he;simp only at he;omega
              ·exact hh.inj i j q r e4 e6 he
             ·rcases Fi i q hq with⟨e3,e4⟩|⟨e3,e4⟩
              ·subst e3;rw[pU ajm]at cX;injection cX with cX
               subst cX;subst e4;subst rV;refine⟨rfl,Nat.succ_pos _,rfl,j4,⟨arr,bt,j5,j6⟩,?_,?_,j9⟩
               ·rw[kK];show p.base+off*wu+len*wu<=p.nB;omega
               ·refine US held wu p.b _ _ (λy hy=>?_) (bw.mono hx wu p.b rfl _ _ ((j8.drop off).take len));rcases ajw y hy with k|k
                ·obtain⟨i,hi⟩:=S1.1 k;exact⟨_,_,(apd y7 hi).2⟩
                ·exact aoj ha y k
              ·rw[Z4 (λe=>e3 e.symm)]at cX;have hil:i<σ.length:=(cD.1 cX).1;exact My held (hh.blk i q x e4 cX) ((h'.heap.blk i q x (YG i q e3 e4) (by rw[hsame i hil e3];exact cX)).mono hx rfl)
            ·simp only[an];refine⟨Nat.succ_pos _,p'',by simp only[ctx];exact pU (cD.1 Ca).1,by rw[rV];exact cg _,qa,cp,by rw[kK],by rw[kK];exact hcap,λ_=>⟨by rw[rV],?_,?_⟩⟩
             ·rcases q2 with q2|q2
              ·exact .inl q2
              ·exact .inr (by rw[q2,q1,rV];simp)
             ·rw[rV];simp only[ZP];rw[q1,fJ]at q3;omega
           ·cases k3
          ·cases k3
         ·cases k3
       ·cases k3
      ·cases k3
     ·simp only[χ,Ξ]at k3;obtain⟨rfl,rfl⟩:=k3;exact kept
     ·simp only[χ,Ξ]at k3;obtain⟨rfl,rfl⟩:=k3;exact kept
     ·simp only[χ,Ξ]at k3;obtain⟨rfl,rfl⟩:=k3;exact kept
     ·cases k3
   cases e with
   |normal=>exact done hk
   |ret=>exact done hk
   |exit i=>cases hk
end
end
section
open Go.RowKit
inductive Sh where
 |k
 |s(sz:Nat)
 |e(sz:Nat)(l:List Sh)
 |a(l:List Sh)
 |t(l:List Sh)
 |p(l:List Sh)
namespace A
mutual
def nn:Sh->U->U
 |.k,v=>v
 |.s sz,v=>match v with|.aD=>.sl sz []|.ez=>.sl sz []|v=>v
 |.e sz l,v=>match v with|.aD=>.sl sz []|.ez=>.sl sz []|.sl sz' es=>.sl sz' (es.map (dL l))|v=>v
 |.a l,v=>match v with|.agg cs=>.agg (dL l cs)|v=>v
 |.t l,v=>match v with|.az vs=>.az (dL l vs)|v=>v
 |.p l,v=>match v with|.rp cs=>.rp (dL l cs)|v=>v
def dL:List Sh->List U->List U
 |[],vs=>vs
 |s::ss,vs=>match vs with|[]=>[]|v::vs=>nn s v::dL ss vs
end
def BQ:U->Bool
 |.os ..=>ι
 |.op ..=>ι
 |.oe ..=>ι
 |.om ..=>ι
 |_=>ε
def own:U->Bool
 |.agg cs=>cs.any BQ
 |v=>BQ v
def qK:U->Bool
 |.int ..=>ι
 |.bool ..=>ι
 |.str ..=>ι
 |.np=>ι
 |.aD=>ι
 |.ez=>ι
 |.nm=>ι
 |.um=>ι
 |.sl _ []=>ι
 |_=>ε
def pR:U->Bool
 |.agg cs=>cs.all qK
 |v=>qK v
def zh:U->Bool
 |.az vs=>vs.all pR
 |v=>pR v
def fresh(v:U):Bool:=match v with
 |.os ..=>ι
 |.om _=>ι
 |v=>pR v
def uO:U->Bool
 |.az vs=>vs.all fresh
 |v=>fresh v
def Df:bQ->Bool
 |.box cs=>cs.all qK
 |.arr _ _ es=>es.all λe=>e.all qK
 |.map es=>es.all λp=>pR p.1&&pR p.2
 |_=>ε
def shift(n:Nat)(v:U):U:=match v with
 |.os id g sz off len=>.os (id+n) g sz off len
 |.om id=>.om (id+n)
 |v=>v
def tI(n:Nat):U->U
 |.az vs=>.az (vs.map (shift n))
 |v=>shift n v
def wrap (ro:Bool) (dF:List Sh) (dO:Sh) (r:List U->Heap->Option (U×Heap)) (args:List U) (σ:Heap):Option (U×Heap):=bif ro&&args.any own then (dI σ 0 8 args).bind λargs=>(r (dL dF args) []).bind λq=>bif uO (nn dO q.1)&&q.2.all Df then δ (tI σ.length (nn dO q.1),σ++q.2)else μ else(r (dL dF args) σ).map λq=>(nn dO q.1,q.2)
end A
def Sound(P:Program)(nm:List Nat)(f:FuncId)(m:List U->Heap->Option (U×Heap)):Prop:=∀args σ r σ',m args σ=δ (r,σ')->iJ P nm f args σ r σ'
section
variable {P : Program} {nm : List Nat} {f : FuncId} {c c' : RC}
theorem V5{v:Value}(sz:Nat)(hsz:0<sz)(h:an c .aD v):an c (.sl sz []) v:=by simp only[an]at h ⊢;subst h;exact⟨μ,0,rfl,cg _,hsz,.inl trivial⟩
theorem WH{v:Value}(sz:Nat)(hsz:0<sz)(h:an c .ez v):an c (.sl sz []) v:=by simp only[an]at h ⊢;obtain⟨a,rfl⟩:=h;exact⟨a,0,rfl,cg _,hsz,.inl trivial⟩
mutual
def Sh.ok:Sh->Bool
 |.k=>ι
 |.s sz=>aoD 0 sz
 |.e sz l=>aoD 0 sz&&Sh.dX l
 |.a l=>Sh.dX l
 |.t l=>Sh.dX l
 |.p l=>Sh.dX l
def Sh.dX:List Sh->Bool
 |[]=>ι
 |x::l=>x.ok&&Sh.dX l
end
theorem Ve:∀(l:List Sh)(cs:List U),(A.dL l cs).length=cs.length
 |[],cs=>by simp [A.dL]
 |_::_,[]=>by simp [A.dL]
 |o::l,v::cs=>by simp [A.dL,Ve l cs]
mutual
theorem Iw:∀(s:Sh)(a:U)(v:Value),s.ok=ι->an c a v->an c (A.nn s a) v
 |.k,a,v,_,h=>by simpa [A.nn]using h
 |.s sz,a,v,ho,h=>by cases a<;>simp only[A.nn]<;>first|exact h|exact V5 sz (by simpa [Sh.ok]using ho) h|exact WH sz (by simpa [Sh.ok]using ho) h
 |.e sz l,a,v,ho,h=>by
  simp only[Sh.ok,dZ]at ho;cases a<;>simp only[A.nn]<;>first|exact h|exact V5 sz (by simpa using ho.1) h|exact WH sz (by simpa using ho.1) h|skip
  simp only[an]at h ⊢;obtain⟨a,cap,e,h1,h2,h3⟩:=h;refine⟨a,cap,by rw[XZ];exact e,by rw[XZ];exact h1,h2,?_⟩;rcases h3 with h3|⟨b,off,e1,e2,e3,e4⟩
  ·left;rw[h3];rfl
  ·right;exact⟨b,off,e1,e2,e3,anU l ho.2 _ _ e4⟩
 |.a l,a,v,ho,h=>by
  simp only[Sh.ok]at ho;cases a<;>simp only[A.nn]<;>first|exact h|skip
  simp only[an]at h ⊢;obtain⟨vs,e,h1,h2⟩:=h;exact⟨vs,e,C9 l _ _ ho h1,h2⟩
 |.t ss,a,v,ho,h=>by
  simp only[Sh.ok]at ho;cases a<;>simp only[A.nn]<;>first|exact h|skip
  simp only[an]at h ⊢;obtain⟨vs,e,h1⟩:=h;exact⟨vs,e,C9 ss _ _ ho h1⟩
 |.p l,a,v,ho,h=>by
  simp only[Sh.ok]at ho;cases a<;>simp only[A.nn]<;>first|exact h|skip
  simp only[an]at h ⊢;obtain⟨b,off,e,h1,h2,h3⟩:=h;exact⟨b,off,e,h1,h2,No l _ _ ho h3⟩
theorem C9:∀(ss:List Sh)(l:List U)(vs:List Value),Sh.dX ss=ι->aF c l vs->aF c (A.dL ss l) vs
 |[],l,vs,_,h=>by simpa [A.dL]using h
 |_::_,[],vs,_,h=>by simpa [A.dL]using h
 |s::ss,a::l,vs,ho,h=>by simp only[Sh.dX,dZ]at ho;simp only[A.dL,aF]at h ⊢;obtain⟨v,vs',e,h1,h2⟩:=h;exact⟨v,vs',e,Iw s a v ho.1 h1,C9 ss l vs' ho.2 h2⟩
theorem No{b:Nat}:∀(l:List Sh)(cs:List U)(off:Nat),Sh.dX l=ι->aS c b off cs->aS c b off (A.dL l cs)
 |[],cs,off,_,h=>by simpa [A.dL]using h
 |_::_,[],off,_,h=>by simpa [A.dL]using h
 |o::l,a::cs,off,ho,h=>by simp only[Sh.dX,dZ]at ho;simp only[A.dL,aS]at h ⊢;obtain⟨⟨v,h1,h2,h3⟩,h4⟩:=h;exact⟨⟨v,h1,h2,Iw o a v ho.1 h3⟩,No l cs (off+1) ho.2 h4⟩
theorem anU{sz b:Nat}(l:List Sh)(hl:Sh.dX l=ι):∀(es:List (List U))(off:Nat),bw c sz b off es->bw c sz b off (es.map (A.dL l))
 |[],off,h=>by simp [bw]
 |e::es,off,h=>by simp only[dJ,bw]at h ⊢;exact⟨by rw[Ve];exact h.1,No l e off hl h.2.1,anU l hl es _ h.2.2⟩
end
theorem Ml:∀{a:U}{v:Value},A.qK a=ι->an c a v->an c' a v:=by
 intro a v h r;cases a<;>simp only[A.qK]at h<;>first|(cases h;done)|skip
 case sl sz es=>
  cases es with
  |nil=>simp only[an]at r ⊢;obtain⟨q,cap,e,h1,h2,_⟩:=r;exact⟨q,cap,e,h1,h2,.inl trivial⟩
  |cons _ _=>simp at h
 all_goals simpa [an]using r
theorem SU:∀{l:List U}{vs:List Value},l.all A.qK=ι->aF c l vs->aF c' l vs
 |[],vs,_,r=>by simpa [aF]using r
 |a::l,vs,h,r=>by simp only[Rq,dZ]at h;simp only[aF]at r ⊢;obtain⟨v,vs',e,h1,h2⟩:=r;exact⟨v,vs',e,Ml h.1 h1,SU h.2 h2⟩
theorem Mm{a:U}{v:Value}(h:A.pR a=ι)(r:an c a v):an c' a v:=by
 unfold A.pR at h;split at h
 ·simp only[an]at r ⊢;obtain⟨vs,e,h1,h2⟩:=r;exact⟨vs,e,SU h h1,h2⟩
 ·exact Ml h r
theorem iJ.conv{args args':List U}{σ σ':Heap}{r r':U}(h:iJ P nm f args' σ r σ')(ha:∀c vs,aF c args vs->aF c args' vs)(hr:∀c v,an c r v->an c r' v):iJ P nm f args σ r' σ':=by
 rcases h with⟨g,h1,h2⟩|h
 ·refine .inl ⟨g,h1,λz vs e1 e2 e3 e4=>(h2 z vs e1 e2 e3 (ha _ _ e4)).mono ?_⟩;rintro e w' ⟨v,E',k1,k2,k3,k4⟩;exact⟨v,E',k1,k2,k3,hr _ _ k4⟩
 ·refine .inr λz vs e1 e2 e3 e4=>?_
  obtain⟨v,w',E',k1,k2,k3,k4⟩:=h z vs e1 e2 e3 (ha _ _ e4);exact⟨v,w',E',k1,k2,k3,hr _ _ k4⟩
theorem TH{z0 z:Z}{w':World}{E':List Pl}{n:Nat}(hn:n=z.E.length){a:U}{v:Value}(h:A.fresh a=ι)(r:an (ctx z0 w' E' cm) a v):an (ctx z w' (z.E++E') cm) (A.shift n a) v:=by
 have key:∀(id:Nat)(p:Pl),E'[id]? =δ p->(z.E++E')[id+n]? =δ p:=λid p hp=>by rw[jH (by omega),hn,Nat.add_sub_cancel];exact hp
 unfold A.fresh at h;unfold A.shift;split at h
 ·simp only[an]at r ⊢;obtain⟨hg,p,h1,h2,r⟩:=r;exact⟨hg,p,key _ _ h1,h2,r⟩
 ·simp only[an]at r ⊢;obtain⟨p,h1,h2,r⟩:=r;exact⟨p,key _ _ h1,h2,r⟩
 ·exact Mm h r
theorem abR{z0 z:Z}{w':World}{E':List Pl}{n:Nat}(hn:n=z.E.length){vs:List U}{v:Value}(h:vs.all A.fresh=ι)(r:an (ctx z0 w' E' cm) (.az vs) v):an (ctx z w' (z.E++E') cm) (A.tI n (.az vs)) v:=by
 simp only[an,A.tI]at r ⊢;obtain⟨us,rfl,r⟩:=r;refine⟨us,rfl,?_⟩;generalize us.toList=us' at r ⊢;induction vs generalizing us' with
 |nil=>simpa [aF]using r
 |cons x l ih=>simp only[Rq,dZ]at h;simp only[aF,dJ]at r ⊢;obtain⟨v,vs',e,h1,h2⟩:=r;exact⟨v,vs',e,TH hn h.1 h1,ih h.2 _ h2⟩
theorem acF{z0 z:Z}{w':World}{E':List Pl}{n:Nat}(hn:n=z.E.length){a:U}{v:Value}(h:A.uO a=ι)(r:an (ctx z0 w' E' cm) a v):an (ctx z w' (z.E++E') cm) (A.tI n a) v:=by
 by_cases ht:∃vs,a=.az vs
 ·obtain⟨vs,rfl⟩:=ht;exact abR hn h r
 ·have e1:A.uO a=A.fresh a:=by cases a<;>first|rfl|exact absurd ⟨_,rfl⟩ ht
  have e2:A.tI n a=A.shift n a:=by cases a<;>first|rfl|exact absurd ⟨_,rfl⟩ ht
  rw[e1]at h;rw[e2];exact TH hn h r
theorem LP{b:Nat}:∀{l:List U}{off:Nat},l.all A.qK=ι->c'.w=c.w->aS c b off l->aS c' b off l
 |[],off,_,_,_=>by simp [aS]
 |a::l,off,h,hw,r=>by simp only[Rq,dZ]at h;simp only[aS]at r ⊢;obtain⟨⟨v,h1,h2,h3⟩,h4⟩:=r;exact⟨⟨v,by rw[hw];exact h1,h2,Ml h.1 h3⟩,LP h.2 hw h4⟩
theorem Sw{sz b:Nat}:∀{l:List (List U)}{off:Nat},(l.all λe=>e.all A.qK)=ι->c'.w=c.w->bw c sz b off l->bw c' sz b off l
 |[],off,_,_,_=>by simp [bw]
 |a::l,off,h,hw,r=>by simp only[Rq,dZ]at h;simp only[bw]at r ⊢;obtain⟨h1,h2,h3⟩:=r;exact⟨h1,LP h.1 hw h2,Sw h.2 hw h3⟩
theorem SV:∀{l:List (U×U)}{es:List MapEntry},(l.all λp=>A.pR p.1&&A.pR p.2)=ι->bX c l es->bX c' l es
 |[],es,_,r=>by simpa [bX]using r
 |(k,v)::l,es,h,r=>by simp only[Rq,dZ]at h;simp only[bX]at r ⊢;obtain⟨e,es',h1,h2,h3,h4⟩:=r;exact⟨e,es',h1,Mm h.1.1 h2,Mm h.1.2 h3,SV h.2 h4⟩
theorem ab6{p:Pl}{x:bQ}(h:A.Df x=ι)(hw:c'.w=c.w)(r:lY c p x):lY c' p x:=by
 cases x with
 |box cs=>obtain⟨h1,⟨⟨arr,t,h2,h3⟩,h4⟩⟩:=r;exact⟨h1,⟨arr,t,by rw[hw];exact h2,h3⟩,LP h hw h4⟩
 |arr g sz es=>obtain⟨h1,h2,h3,h4,⟨arr,t,h5,h6⟩,h7,h8,h9⟩:=r;exact⟨h1,h2,h3,h4,⟨arr,t,by rw[hw];exact h5,h6⟩,h7,Sw h hw h8,λarr t fz e=>h9 arr t fz (by rw[<-hw];exact e)⟩
 |map es=>obtain⟨h1,bg,bC,h2,hwf,h3⟩:=r;exact⟨h1,bg,bC,by rw[hw];exact h2,hwf,SV h h3⟩
 |oO g sz es=>cases h
 |it cur left=>cases h
theorem Ul{z:Z}{σ σ':Heap}{r:U}{v:Value}{w':World}{E':List Pl}(e2:oU z)(hh:fQ (ctx z z.w z.E cm) σ)(hv:A.uO r=ι)(hb:σ'.all A.Df=ι)
  (k2:Out ⟨z.w,[],λ_=>False,z.nm⟩ w' E') (k3:fQ (ctx ⟨z.w,[],λ_=>False,z.nm⟩ w' E' cm) σ') (k4:an (ctx ⟨z.w,[],λ_=>False,z.nm⟩ w' E' cm) r v):
  ∃ko,Out z w' ko/\fQ (ctx z w' ko cm) (σ++σ')/\an (ctx z w' ko cm) (A.tI σ.length r) v:=by
 have hlen:z.E.length=σ.length:=hh.len;have hlen':E'.length=σ'.length:=k3.len;have hst:∀b,b<z.w.heap.size->w'.heap[b]? =z.w.heap[b]? :=λb hb=>k2.stay b hb (λp hp=>by cases hp)
 have hlt:∀p∈z.E,p.b<z.w.heap.size:=λp hp=>hh.lt hp
 have hfr:∀p∈E',z.w.heap.size<=p.b:=λp hp=>by
  rcases k2.fresh p hp with k|⟨q,hq,_⟩
  ·exact k
  ·cases hq
 have hx:Ext (ctx z z.w z.E cm) (ctx z w' (z.E++E') cm):=by
  refine⟨k2.size,λb hb hn=>⟨hst b hb,?_⟩,λi p hp=>⟨p,?_,.inl rfl⟩,rfl⟩
  ·rintro(k|⟨p,hp,k⟩|⟨i,k⟩)
   ·exact hn (.inl k)
   ·rcases ga.1 hp with hp|hp
    ·exact hn (.inr (.inl ⟨p,hp,k⟩))
    ·have:=hfr p hp;simp only[ctx]at hb;omega
   ·cases k
  ·simp only[ctx]at hp ⊢;rw[iK (cD.1 hp).1];exact hp
 have key:∀(i:Nat)(p:Pl),(z.E++E')[i]? =δ p->(i<z.E.length/\z.E[i]? =δ p)\/(z.E.length<=i/\E'[i-z.E.length]? =δ p):=λi p hp=>by
  by_cases hi:i<z.E.length
  ·rw[iK hi]at hp;exact .inl ⟨hi,hp⟩
  ·rw[jH (by omega)]at hp;exact .inr ⟨by omega,hp⟩
 refine⟨z.E++E',⟨k2.os,k2.tape,k2.output,k2.size,λb hb _=>hst b hb,λi p hp=>?_,λi p hp=>⟨p,?_,.inl rfl⟩,e2,hlt⟩,⟨by simp [ctx,hlen,hlen'],λi j p q hp hq e=>?_,λi p x hp cX=>?_⟩,acF hlen.symm hv k4⟩
 ·rcases key i p hp with⟨_,k⟩|⟨_,k⟩
  ·exact .inr ⟨p,k,rfl⟩
  ·exact .inl (hfr p (cW k))
 ·rw[iK (cD.1 hp).1];exact hp
 ·simp only[ctx]at hp hq;rcases key i p hp with⟨i1,k⟩|⟨i1,k⟩<;>rcases key j q hq with⟨j1,m⟩|⟨j1,m⟩
  ·exact hh.inj i j p q k m e
  ·have:=hlt p (cW k);have:=hfr q (cW m);omega
  ·have:=hlt q (cW m);have:=hfr p (cW k);omega
  ·have:=k3.inj _ _ p q k m e;omega
 ·simp only[ctx]at hp;rcases key i p hp with⟨i1,k⟩|⟨i1,k⟩
  ·rw[iK (by omega)]at cX;exact(hh.blk i p x k cX).mono hx (hst _ (hlt p (cW k)))
  ·rw[jH (by omega),<-hlen]at cX;exact ab6 (c:=ctx ⟨z.w,[],λ_=>False,z.nm⟩ w' E' cm) (kV.1 hb x (cW cX)) rfl (k3.blk _ p x k cX)
theorem iJ.O2{args args':List U}{σ σ':Heap}{r:U}(h:iJ P nm f args' [] r σ')(ha:UU σ 0 8 args=δ args')(hv:A.uO r=ι)(hb:σ'.all A.Df=ι):iJ P nm f args σ (A.tI σ.length r) (σ++σ'):=by
 have hX:∀(z:Z)b,¬(ctx ⟨z.w,[],λ_=>False,z.nm⟩ z.w [] cm).X b:=by
  rintro z b (k|⟨p,hp,_⟩|⟨i,k⟩)
  ·exact k.elim
  ·cases hp
  ·cases k
 have rM:∀(z:Z),fQ (ctx z z.w z.E cm) σ->tT (ctx z z.w z.E cm) (ctx ⟨z.w,[],λ_=>False,z.nm⟩ z.w [] cm) σ 0:=λz hh=>
  ⟨rfl,rfl,λb k=>(hX z b k).elim,λid p k=>absurd k (Nat.not_lt_zero _),hh,λid p _ _=>hX z _⟩
 have h0:∀(z:Z),fQ (ctx ⟨z.w,[],λ_=>False,z.nm⟩ z.w [] cm) []:=λz=>by
  refine⟨rfl,λi j p q hp=>?_,λi p x hp=>?_⟩
  ·simp [ctx]at hp
  ·simp [ctx]at hp
 rcases h with⟨g,h1,h2⟩|h2
 ·refine .inl ⟨g,h1,λz vs e1 e2 hh e4=>?_⟩;have ha':aF (ctx ⟨z.w,[],λ_=>False,z.nm⟩ z.w [] cm) args' vs.toList:=Bc (rM z hh) 8 (λav cj v _ e r=>uM (rM z hh) 8 _ _ _ e r) _ _ _ ha e4;refine(h2 ⟨z.w,[],λ_=>False,z.nm⟩ vs e1 e2.none (h0 z) ha').mono ?_;rintro e w' ⟨v,E',k1,k2,k3,k4⟩;obtain⟨ko,q1,q2,q3⟩:=Ul e2 hh hv hb k2 k3 k4;exact⟨v,ko,k1,q1,q2,q3⟩
 ·refine .inr λz vs e1 e2 hh e4=>?_
  have ha':aF (ctx ⟨z.w,[],λ_=>False,z.nm⟩ z.w [] cm) args' vs.toList:=Bc (rM z hh) 8 (λav cj v _ e r=>uM (rM z hh) 8 _ _ _ e r) _ _ _ ha e4;obtain⟨v,w',E',k1,k2,k3,k4⟩:=h2 ⟨z.w,[],λ_=>False,z.nm⟩ vs e1 e2.none (h0 z) ha';obtain⟨ko,q1,q2,q3⟩:=Ul e2 hh hv hb k2 k3 k4;exact⟨v,w',ko,k1,q1,q2,q3⟩
theorem Sound.wrap{r:List U->Heap->Option (U×Heap)}(h:Sound P nm f r)(ro:Bool)(dF:List Sh)(dO:Sh)(hi:Sh.dX dF=ι)(ho:dO.ok=ι):Sound P nm f (A.wrap ro dF dO r):=by
 intro args σ v σ' e;unfold A.wrap at e;cases hc:(ro&&args.any A.own)
 ·rw[hc]at e;simp only[bA]at e;obtain⟨q,e1,e2⟩:=cL.1 e;injection e2 with e2 e3
  subst e2 e3;exact(h _ _ _ _ e1).conv (λc vs k=>C9 _ _ _ hi k) (λc v k=>Iw _ _ _ ho k)
 ·rw[hc]at e;simp only[bR]at e;obtain⟨args',e1,e2⟩:=bh.1 e;obtain⟨q,e3,e4⟩:=bh.1 e2;obtain⟨q1,q2⟩:=q;simp only at e4;cases hs:(A.uO (A.nn dO q1)&&q2.all A.Df)
  ·rw[hs]at e4;cases e4
  ·rw[hs]at e4;simp only[bR,χ,Ξ]at e4;obtain⟨rfl,rfl⟩:=e4;simp only[dZ]at hs;exact((h _ _ _ _ e3).conv (args:=args') (λc vs k=>C9 _ _ _ hi k) (λc v k=>Iw _ _ _ ho k)).O2 e1 hs.1 hs.2
end
theorem fU.of{X:Fx}{t:List (FuncId×(List U->Heap->Option (U×Heap)))}(hc:X.call=aoQ (λ_ _=>μ) t) (ht:∀p∈t,Sound X.P X.nm p.1 p.2) (hd:∀f,Sound X.P X.nm f (X.dyn (X.nm.getD f 0))):fU X:=by
 refine⟨λf args σ r σ' h=>?_,λf=>hd f⟩;rw[hc]at h;clear hc;induction t with
 |nil=>cases h
 |cons p t ih=>
  obtain⟨m,x⟩:=p;simp only[aoQ]at h;cases hm:(f==m)
  ·rw[hm]at h;exact ih (λp hp=>ht p (iR _ hp)) h
  ·rw[hm]at h;have:f=m:=by simpa using hm
   subst this;exact ht (f,x) (p6) _ _ _ _ h
theorem Sound.none{P:Program}{nm:List Nat}{f:FuncId}:Sound P nm f (λ_ _=>Option.none):=λ_ _ _ _ h=>by cases h
theorem aI.nil{P:Program}{nm:List Nat}:∀p∈([]:List (FuncId×(List U->Heap->Option (U×Heap)))),Sound P nm p.1 p.2:=λ_ h=>by cases h
theorem aI.cons{P:Program}{nm:List Nat}{f:FuncId}{m:List U->Heap->Option (U×Heap)}{l:List (FuncId×(List U->Heap->Option (U×Heap)))}(h:Sound P nm f m)(t:∀p∈l,Sound P nm p.1 p.2):∀p∈(f,m)::l,Sound P nm p.1 p.2:=
 λp hp=>by rcases dW.1 hp with rfl|hp;exact h;exact t p hp
theorem vf.nil{P:Program}{nm:List Nat}:∀p∈([]:List (Nat×(List U->Heap->Option (U×Heap)))),∀f,nm.getD f 0=p.1->Sound P nm f p.2:=λ_ h=>by cases h
theorem vf.cons{P:Program}{nm:List Nat}{k:Nat}{m:List U->Heap->Option (U×Heap)}{l:List (Nat×(List U->Heap->Option (U×Heap)))}(h:∀f,nm.getD f 0=k->Sound P nm f m)(t:∀p∈l,∀f,nm.getD f 0=p.1->Sound P nm f p.2):∀p∈(k,m)::l,∀f,nm.getD f 0=p.1->Sound P nm f p.2:=
 λp hp=>by rcases dW.1 hp with rfl|hp;exact h;exact t p hp
theorem Iq{P:Program}{nm:List Nat}{t:List (Nat×(List U->Heap->Option (U×Heap)))}(ht:∀p∈t,∀f,nm.getD f 0=p.1->Sound P nm f p.2)(f:FuncId):Sound P nm f (aoQ (λ_ _=>Option.none) t (nm.getD f 0)):=by
 induction t with
 |nil=>exact Sound.none
 |cons p t ih=>
  obtain⟨k,x⟩:=p;simp only[aoQ];cases hm:(nm.getD f 0==k)
  ·exact ih (λp hp=>ht p (iR _ hp))
  ·exact ht (k,x) p6 f (by simpa using hm)
theorem agt{nm:List Nat}{k g:Nat}(h:(nm.zipIdx.filter λp=>p.1==k)=[(k,g)]) (hk:(0==k)=ε) {f:Nat} (hf:nm.getD f 0=k):f=g:=by
 have hlt:f<nm.length:=by
  rcases Nat.lt_or_ge f nm.length with e|e
  ·exact e
  ·simp only[ZI,lG e,ZZ]at hf;subst hf;simp at hk
 have:(k,f)∈nm.zipIdx.filter λp=>p.1==k:=by refine ZD.2 ⟨S1.2 ⟨f,?_⟩,by simp⟩;simp only[ZI]at hf;rw[cy hlt]at hf;simp [cy hlt,<-hf]
 rw[h]at this;simpa using this
theorem Hv{P:Program}{nm:List Nat}{k g:Nat}{m:List U->Heap->Option (U×Heap)}(hs:Sound P nm g m)(h:(nm.zipIdx.filter λp=>p.1==k)=[(k,g)]) (hk:(0==k)=ε):∀f,nm.getD f 0=k->Sound P nm f m:=
 λf hf=>by have e:=agt h hk hf;subst e;exact hs
def fuel(F:(Nat->List U->Heap->Option (U×Heap))->List (Nat×(List U->Heap->Option (U×Heap)))):Nat->Nat->List U->Heap->Option (U×Heap)
 |0,_=>λ_ _=>μ
 |n+1,k=>aoQ (λ_ _=>μ) (F (fuel F n)) k
namespace A
def eo(f:U->Heap->Option (U×Heap)):List U->Heap->Option (U×Heap)
 |[x0],σ=>f x0 σ
 |_,_=>μ
def eH(f:U->U->Heap->Option (U×Heap)):List U->Heap->Option (U×Heap)
 |[x0,x1],σ=>f x0 x1 σ
 |_,_=>μ
def nA(f:U->U->U->Heap->Option (U×Heap)):List U->Heap->Option (U×Heap)
 |[x0,x1,x2],σ=>f x0 x1 x2 σ
 |_,_=>μ
def PX(f:U->U->U->U->Heap->Option (U×Heap)):List U->Heap->Option (U×Heap)
 |[x0,x1,x2,x3],σ=>f x0 x1 x2 x3 σ
 |_,_=>μ
def PY(f:U->U->U->U->U->Heap->Option (U×Heap)):List U->Heap->Option (U×Heap)
 |[x0,x1,x2,x3,x4],σ=>f x0 x1 x2 x3 x4 σ
 |_,_=>μ
def PZ(f:U->U->U->U->U->U->Heap->Option (U×Heap)):List U->Heap->Option (U×Heap)
 |[x0,x1,x2,x3,x4,x5],σ=>f x0 x1 x2 x3 x4 x5 σ
 |_,_=>μ
def P0(f:U->U->U->U->U->U->U->Heap->Option (U×Heap)):List U->Heap->Option (U×Heap)
 |[x0,x1,x2,x3,x4,x5,x6],σ=>f x0 x1 x2 x3 x4 x5 x6 σ
 |_,_=>μ
end A
section
variable {X : Fx} {f : FuncId} {fn : Func} {cN : kn}
theorem Sound.X6{m:U->Heap->Option (U×Heap)}(keep:mY)(hkeep:keep.Ok)(hs:fU X)(hf:X.P.funcs[f]? =δ fn)(hc:∀cH w,(callFunc f cH).run X.P w=.ok (.enter f cH) w)(he:∀(x0:U) (σ:Heap),nr X keep cN fn [x0] σ=m x0 σ):Sound X.P X.nm f (A.eo m):=by
 intro args σ r σ' h;unfold A.eo at h;split at h
 ·exact yH hs hkeep hf hc ((he _ _).trans h)
 ·cases h
theorem Sound.I8{m:U->U->Heap->Option (U×Heap)}(keep:mY)(hkeep:keep.Ok)(hs:fU X)(hf:X.P.funcs[f]? =δ fn)(hc:∀cH w,(callFunc f cH).run X.P w=.ok (.enter f cH) w)(he:∀(x0 x1:U) (σ:Heap),nr X keep cN fn [x0,x1] σ=m x0 x1 σ):Sound X.P X.nm f (A.eH m):=by
 intro args σ r σ' h;unfold A.eH at h;split at h
 ·exact yH hs hkeep hf hc ((he _ _ _).trans h)
 ·cases h
theorem Sound.O6{m:U->U->U->Heap->Option (U×Heap)}(keep:mY)(hkeep:keep.Ok)(hs:fU X)(hf:X.P.funcs[f]? =δ fn)(hc:∀cH w,(callFunc f cH).run X.P w=.ok (.enter f cH) w)(he:∀(x0 x1 x2:U) (σ:Heap),nr X keep cN fn [x0,x1,x2] σ=m x0 x1 x2 σ):Sound X.P X.nm f (A.nA m):=by
 intro args σ r σ' h;unfold A.nA at h;split at h
 ·exact yH hs hkeep hf hc ((he _ _ _ _).trans h)
 ·cases h
theorem Sound.ajE{m:U->U->U->U->Heap->Option (U×Heap)}(keep:mY)(hkeep:keep.Ok)(hs:fU X)(hf:X.P.funcs[f]? =δ fn)(hc:∀cH w,(callFunc f cH).run X.P w=.ok (.enter f cH) w)(he:∀(x0 x1 x2 x3:U) (σ:Heap),nr X keep cN fn [x0,x1,x2,x3] σ=m x0 x1 x2 x3 σ):Sound X.P X.nm f (A.PX m):=by
 intro args σ r σ' h;unfold A.PX at h;split at h
 ·exact yH hs hkeep hf hc ((he _ _ _ _ _).trans h)
 ·cases h
theorem Sound.ajF{m:U->U->U->U->U->Heap->Option (U×Heap)}(keep:mY)(hkeep:keep.Ok)(hs:fU X)(hf:X.P.funcs[f]? =δ fn)(hc:∀cH w,(callFunc f cH).run X.P w=.ok (.enter f cH) w)(he:∀(x0 x1 x2 x3 x4:U) (σ:Heap),nr X keep cN fn [x0,x1,x2,x3,x4] σ=m x0 x1 x2 x3 x4 σ):Sound X.P X.nm f (A.PY m):=by
 intro args σ r σ' h;unfold A.PY at h;split at h
 ·exact yH hs hkeep hf hc ((he _ _ _ _ _ _).trans h)
 ·cases h
theorem Sound.ajG{m:U->U->U->U->U->U->Heap->Option (U×Heap)}(keep:mY)(hkeep:keep.Ok)(hs:fU X)(hf:X.P.funcs[f]? =δ fn)(hc:∀cH w,(callFunc f cH).run X.P w=.ok (.enter f cH) w)(he:∀(x0 x1 x2 x3 x4 x5:U) (σ:Heap),nr X keep cN fn [x0,x1,x2,x3,x4,x5] σ=m x0 x1 x2 x3 x4 x5 σ):Sound X.P X.nm f (A.PZ m):=by
 intro args σ r σ' h;unfold A.PZ at h;split at h
 ·exact yH hs hkeep hf hc ((he _ _ _ _ _ _ _).trans h)
 ·cases h
theorem Sound.ajH{m:U->U->U->U->U->U->U->Heap->Option (U×Heap)}(keep:mY)(hkeep:keep.Ok)(hs:fU X)(hf:X.P.funcs[f]? =δ fn)(hc:∀cH w,(callFunc f cH).run X.P w=.ok (.enter f cH) w)(he:∀(x0 x1 x2 x3 x4 x5 x6:U) (σ:Heap),nr X keep cN fn [x0,x1,x2,x3,x4,x5,x6] σ=m x0 x1 x2 x3 x4 x5 x6 σ):Sound X.P X.nm f (A.P0 m):=by
 intro args σ r σ' h;unfold A.P0 at h;split at h
 ·exact yH hs hkeep hf hc ((he _ _ _ _ _ _ _ _).trans h)
 ·cases h
end
end
open Sound renaming none->Ze,wrap->Z5
open A renaming eH->Sv,wrap->l9,eo->Tu
open Sh renaming dX->Wv
abbrev sj:List Sh:=[.k,.k,.k,.k,.k,.k,.k,(.s 2),.k,.k,(.s 8)]
abbrev vE:List Sh:=[.k,.k,(.e 7 [.k,.k,.k,.k,.k,.k,(.s 3)])]
section
def aX:List Nat:=[0,0,0,554,0,0,541,202,0,0,143,0,519,521,522,0,14,139,13,523,526,536,540,198,201,135,0,0,94,550,0,0,142,70,3,0,513,516,518,0,520,69,71,1,73,2,138,0,525,0,527,58,532,535,530,537,539,0,199,200,134,92,7,0,0,0,546,548,549,88,4,89,5,93,0,551,552,0,0,0,0,0,0,72,125,126,141,66,0,0,515,517,0,15,18,63,67,68,0,0,524,0,0,531,0,534,0,529,538,0,130,131,133,90,86,91,6,0,545,547,85,87,80,0,0,0,553,59,140,65,64,478,480,482,0,344,514,0,17,62,0,0,0,0,0,0,533,528,0,132,0,84,0,0,481,0,0,0,0,0,0,60,61,0,0,0,0,0,0,485,0,479,483,0,0,81,543,544,83,0,0,0,0,0,0,0,0,257,0,0,0,0,0,0,542,0,82,53,0,0,486,0,484,0,0,52,0,0,0,0,0,0,0,0,0,0,0,0,0,0,0,0,0,0,0,0,0,0,0,0,0,0,0,0,0,0,0,0]
section
variable {l : List (FuncId × (ay -> Heap -> aL))} {f : FuncId} {fn : Func} {ro : Bool} {dF : List Sh} {dO : Sh}
def zO (l:List (FuncId×(ay->Heap->aL))) (L:List Nat) (n:Nat):Fx:=⟨Tryz.prog,aX,aoQ (λ_ _=>μ) l,λ_ _ _=>μ,L,[],n,[]⟩
theorem q1{m:U->Heap->aL}(L:List Nat)(n:Nat)(cN:kn)(h:∀p∈l,Sound Tryz.prog aX p.1 p.2)(hf:Tryz.prog.funcs[f]? =δ fn)(hc:∀cH w,(callFunc f cH).run Tryz.prog w=.ok (.enter f cH) w)(he:∀(x0:U) (σ:Heap),nr (zO l L n) .F cN fn [x0] σ=m x0 σ)(hi:Wv dF=ι)(ho:dO.ok=ι):Sound Tryz.prog aX f (l9 ro dF dO (Tu m)):=Z5 (Sound.X6 .F trivial (fU.of rfl h λ_=>Ze) hf hc he) _ _ _ hi ho
theorem q2{m:U->U->Heap->aL}(L:List Nat)(n:Nat)(cN:kn)(h:∀p∈l,Sound Tryz.prog aX p.1 p.2)(hf:Tryz.prog.funcs[f]? =δ fn)(hc:∀cH w,(callFunc f cH).run Tryz.prog w=.ok (.enter f cH) w)(he:∀(x0 x1:U) (σ:Heap),nr (zO l L n) .F cN fn [x0,x1] σ=m x0 x1 σ)(hi:Wv dF=ι)(ho:dO.ok=ι):Sound Tryz.prog aX f (l9 ro dF dO (Sv m)):=Z5 (Sound.I8 .F trivial (fU.of rfl h λ_=>Ze) hf hc he) _ _ _ hi ho
theorem q3{m:U->U->U->Heap->aL}(L:List Nat)(n:Nat)(cN:kn)(h:∀p∈l,Sound Tryz.prog aX p.1 p.2)(hf:Tryz.prog.funcs[f]? =δ fn)(hc:∀cH w,(callFunc f cH).run Tryz.prog w=.ok (.enter f cH) w)(he:∀(x0 x1 x2:U) (σ:Heap),nr (zO l L n) .F cN fn [x0,x1,x2] σ=m x0 x1 x2 σ)(hi:Wv dF=ι)(ho:dO.ok=ι):Sound Tryz.prog aX f (l9 ro dF dO (A.nA m)):=Z5 (Sound.O6 .F trivial (fU.of rfl h λ_=>Ze) hf hc he) _ _ _ hi ho
theorem q4{m:U->U->U->U->Heap->aL}(L:List Nat)(n:Nat)(cN:kn)(h:∀p∈l,Sound Tryz.prog aX p.1 p.2)(hf:Tryz.prog.funcs[f]? =δ fn)(hc:∀cH w,(callFunc f cH).run Tryz.prog w=.ok (.enter f cH) w)(he:∀(x0 x1 x2 x3:U) (σ:Heap),nr (zO l L n) .F cN fn [x0,x1,x2,x3] σ=m x0 x1 x2 x3 σ)(hi:Wv dF=ι)(ho:dO.ok=ι):Sound Tryz.prog aX f (l9 ro dF dO (A.PX m)):=Z5 (Sound.ajE .F trivial (fU.of rfl h λ_=>Ze) hf hc he) _ _ _ hi ho
theorem q5{m:U->U->U->U->U->Heap->aL}(L:List Nat)(n:Nat)(cN:kn)(h:∀p∈l,Sound Tryz.prog aX p.1 p.2)(hf:Tryz.prog.funcs[f]? =δ fn)(hc:∀cH w,(callFunc f cH).run Tryz.prog w=.ok (.enter f cH) w)(he:∀(x0 x1 x2 x3 x4:U) (σ:Heap),nr (zO l L n) .F cN fn [x0,x1,x2,x3,x4] σ=m x0 x1 x2 x3 x4 σ)(hi:Wv dF=ι)(ho:dO.ok=ι):Sound Tryz.prog aX f (l9 ro dF dO (A.PY m)):=Z5 (Sound.ajF .F trivial (fU.of rfl h λ_=>Ze) hf hc he) _ _ _ hi ho
theorem q6{m:U->U->U->U->U->U->Heap->aL}(L:List Nat)(n:Nat)(cN:kn)(h:∀p∈l,Sound Tryz.prog aX p.1 p.2)(hf:Tryz.prog.funcs[f]? =δ fn)(hc:∀cH w,(callFunc f cH).run Tryz.prog w=.ok (.enter f cH) w)(he:∀(x0 x1 x2 x3 x4 x5:U) (σ:Heap),nr (zO l L n) .F cN fn [x0,x1,x2,x3,x4,x5] σ=m x0 x1 x2 x3 x4 x5 σ)(hi:Wv dF=ι)(ho:dO.ok=ι):Sound Tryz.prog aX f (l9 ro dF dO (A.PZ m)):=Z5 (Sound.ajG .F trivial (fU.of rfl h λ_=>Ze) hf hc he) _ _ _ hi ho
theorem q7{m:U->U->U->U->U->U->U->Heap->aL}(L:List Nat)(n:Nat)(cN:kn)(h:∀p∈l,Sound Tryz.prog aX p.1 p.2)(hf:Tryz.prog.funcs[f]? =δ fn)(hc:∀cH w,(callFunc f cH).run Tryz.prog w=.ok (.enter f cH) w)(he:∀(x0 x1 x2 x3 x4 x5 x6:U) (σ:Heap),nr (zO l L n) .F cN fn [x0,x1,x2,x3,x4,x5,x6] σ=m x0 x1 x2 x3 x4 x5 x6 σ)(hi:Wv dF=ι)(ho:dO.ok=ι):Sound Tryz.prog aX f (l9 ro dF dO (A.P0 m)):=Z5 (Sound.ajH .F trivial (fU.of rfl h λ_=>Ze) hf hc he) _ _ _ hi ho
end
end
abbrev aR(n:Int):Prop:=-9223372036854775808<=n/\n<=9223372036854775807
abbrev cz:Nat:=9223372036854775807
def gM{κ:Type}[DecidableEq κ](k:κ)(S:List κ):Bool:=S.any λx=>decide (x=k)
theorem MD{κ:Type}[DecidableEq κ]{k:κ}{S:List κ}:gM k S=ι↔k∈S:=by simp only[gM,List.any_eq_true,decide_eq_true_eq];exact⟨λ⟨x,h,e⟩=>e▸h,λh=>⟨k,h,rfl⟩⟩
theorem GR{κ:Type}[DecidableEq κ]{k:κ}{S:List κ}:gM k S=ε↔k∉S:=by rw[<-MD];simp
def xF(n:Int):ay:=[.ah n]
def cO(s:ByteArray):ay:=[.str s]
def sl{α:Type}(sz:Nat)(c:α->ay)(l:List α):U:=.sl sz (l.map c)
def dX{α:Type}(p:α->Prop)(l:List α):Prop:=l.length<=cz/\∀x∈l,p x
def gb(s:ByteArray):Prop:=s.size<=cz
theorem Vn(n:Int):Ω 0 (xF n)=δ (.ah n):=rfl
theorem Vo(s:ByteArray):Ω 0 (cO s)=δ (.str s):=rfl
structure eA where
 time:Int
 way:Int
deriving DecidableEq
def cx(x:eA):ay:=[.ah x.time,.ah x.way]
theorem ab0(x:eA):(cx x).length=2:=rfl
def Vh(x:eA):Prop:=aR x.time/\aR x.way
theorem CF(x:eA):Ω 0 (cx x)=δ (.ah x.time):=rfl
theorem CG(x:eA):Ω 1 (cx x)=δ (.ah x.way):=rfl
theorem CP(x:eA):p9 0 2 (cx x)=δ (.agg (cx x)):=rfl
theorem CN(x:eA):Φ 2 (.agg (cx x))=δ (cx x):=rfl
theorem A8(x:eA)(l:ay)(h:l.length=2):n4 0 (cx x) l=δ (cx x):=by simp [n4,ab0,h]
structure fZ where
 kind:Int
 bp:(List eA)
def jE(x:fZ):ay:=[.ah x.kind,sl 2 cx x.bp]
theorem abY(x:fZ):(jE x).length=2:=rfl
def afB(x:fZ):Prop:=aR x.kind/\(dX Vh) x.bp
theorem ru(x:fZ):Ω 0 (jE x)=δ (.ah x.kind):=rfl
theorem rz(x:fZ):Ω 1 (jE x)=δ (sl 2 cx x.bp):=rfl
theorem rB(x:fZ):p9 0 2 (jE x)=δ (.agg (jE x)):=rfl
theorem rA(x:fZ):Φ 2 (.agg (jE x))=δ (jE x):=rfl
theorem rC(x:fZ)(l:ay)(h:l.length=2):n4 0 (jE x) l=δ (jE x):=by simp [n4,abY,h]
structure Wq where
 frm:Int
 to:Int
 start:Int
 br:Int
 time:Int
 bS:fZ
structure aeN where
 time:Int
 level:Int
deriving DecidableEq
structure lX where
 low:Int
 high:Int
 name:ByteArray
deriving DecidableEq
def lz(x:lX):ay:=[.ah x.low,.ah x.high,.str x.name]
theorem ab1(x:lX):(lz x).length=3:=rfl
def M4(x:lX):Prop:=aR x.low/\aR x.high/\gb x.name
theorem GL(x:lX):Ω 0 (lz x)=δ (.ah x.low):=rfl
theorem GM(x:lX):Ω 1 (lz x)=δ (.ah x.high):=rfl
theorem GN(x:lX):Ω 2 (lz x)=δ (.str x.name):=rfl
theorem G6(x:lX):p9 0 3 (lz x)=δ (.agg (lz x)):=rfl
theorem G0(x:lX):Φ 3 (.agg (lz x))=δ (lz x):=rfl
theorem G8(x:lX)(l:ay)(h:l.length=3):n4 0 (lz x) l=δ (lz x):=by simp [n4,ab1,h]
structure iu where
 name:ByteArray
 group:Int
 mB:Int
 lI:Int
 default:Int
 snap:Bool
 ranges:(List lX)
def jf(x:iu):ay:=[.str x.name,.ah x.group,.ah x.mB,.ah x.lI,.ah x.default,.bool x.snap,sl 3 lz x.ranges]
theorem abZ(x:iu):(jf x).length=7:=rfl
def Vg(x:iu):Prop:=gb x.name/\aR x.group/\aR x.mB/\aR x.lI/\aR x.default/\(dX M4) x.ranges
theorem LA(x:iu):Ω 0 (jf x)=δ (.str x.name):=rfl
theorem LB(x:iu):Ω 1 (jf x)=δ (.ah x.group):=rfl
theorem LC(x:iu):Ω 2 (jf x)=δ (.ah x.mB):=rfl
theorem LD(x:iu):Ω 3 (jf x)=δ (.ah x.lI):=rfl
theorem LF(x:iu):Ω 4 (jf x)=δ (.ah x.default):=rfl
theorem LG(x:iu):Ω 5 (jf x)=δ (.bool x.snap):=rfl
theorem LH(x:iu):Ω 6 (jf x)=δ (sl 3 lz x.ranges):=rfl
theorem Mk(x:iu):p9 0 7 (jf x)=δ (.agg (jf x)):=rfl
theorem Mb(x:iu):Φ 7 (.agg (jf x))=δ (jf x):=rfl
theorem Mo(x:iu)(l:ay)(h:l.length=7):n4 0 (jf x) l=δ (jf x):=by simp [n4,abZ,h]
structure dG where
 name:ByteArray
 size:Int
 params:(List iu)
def fI(x:dG):ay:=[.str x.name,.ah x.size,sl 7 jf x.params]
theorem aaT(x:dG):(fI x).length=3:=rfl
def G4(x:dG):Prop:=gb x.name/\aR x.size/\(dX Vg) x.params
theorem nR(x:dG):Ω 0 (fI x)=δ (.str x.name):=rfl
theorem nS(x:dG):Ω 1 (fI x)=δ (.ah x.size):=rfl
theorem nT(x:dG):Ω 2 (fI x)=δ (sl 7 jf x.params):=rfl
theorem nV(x:dG):p9 0 3 (fI x)=δ (.agg (fI x)):=rfl
theorem nU(x:dG):Φ 3 (.agg (fI x))=δ (fI x):=rfl
theorem nW(x:dG)(l:ay)(h:l.length=3):n4 0 (fI x) l=δ (fI x):=by simp [n4,aaT,h]
structure fS where
 aY:Int
 iq:ByteArray
 univ:Int
 address:Int
deriving DecidableEq
def gH(x:fS):ay:=[.ah x.aY,.str x.iq,.ah x.univ,.ah x.address]
theorem acT(x:fS):(gH x).length=4:=rfl
def V6(x:fS):Prop:=aR x.aY/\gb x.iq/\aR x.univ/\aR x.address
theorem mK(x:fS):Ω 0 (gH x)=δ (.ah x.aY):=rfl
theorem mL(x:fS):Ω 1 (gH x)=δ (.str x.iq):=rfl
theorem mM(x:fS):Ω 2 (gH x)=δ (.ah x.univ):=rfl
theorem mN(x:fS):Ω 3 (gH x)=δ (.ah x.address):=rfl
theorem mP(x:fS):p9 0 4 (gH x)=δ (.agg (gH x)):=rfl
theorem mO(x:fS):Φ 4 (.agg (gH x))=δ (gH x):=rfl
theorem mQ(x:fS)(l:ay)(h:l.length=4):n4 0 (gH x) l=δ (gH x):=by simp [n4,acT,h]
structure ef where
 dn:(List dG)
 ji:(List fS)
def cR(x:ef):ay:=[sl 3 fI x.dn,sl 4 gH x.ji]
theorem adU(x:ef):(cR x).length=2:=rfl
def pQ(x:ef):Prop:=(dX G4) x.dn/\(dX V6) x.ji
theorem sZ(x:ef):Ω 0 (cR x)=δ (sl 3 fI x.dn):=rfl
theorem tc(x:ef):Ω 1 (cR x)=δ (sl 4 gH x.ji):=rfl
theorem tu(x:ef):p9 0 2 (cR x)=δ (.agg (cR x)):=rfl
theorem th(x:ef):Φ 2 (.agg (cR x))=δ (cR x):=rfl
theorem tv(x:ef)(l:ay)(h:l.length=2):n4 0 (cR x) l=δ (cR x):=by simp [n4,adU,h]
structure au where
 unit:Int
 param:ByteArray
deriving DecidableEq
def cB(x:au):ay:=[.ah x.unit,.str x.param]
theorem adT(x:au):(cB x).length=2:=rfl
def anY(x:au):Prop:=aR x.unit/\gb x.param
theorem Vw(x:au)(l:ay)(h:l.length=2):n4 0 (cB x) l=δ (cB x):=by simp [n4,adT,h]
structure rD where
 key:au
 level:Int
deriving DecidableEq
def qD(x:rD):ay:=[.ah x.key.unit,.str x.key.param,.ah x.level]
theorem aaU(x:rD):(qD x).length=3:=rfl
def Tt(x:rD):Prop:=anY x.key/\aR x.level
theorem Sy(x:rD)(l:ay)(h:l.length=3):n4 0 (qD x) l=δ (qD x):=by simp [n4,aaU,h]
structure fY where
 aY:Int
 title:ByteArray
 jX:(List rD)
def gT(x:fY):ay:=[.ah x.aY,.str x.title,sl 3 qD x.jX]
theorem abv(x:fY):(gT x).length=3:=rfl
def uG(x:fY):Prop:=aR x.aY/\gb x.title/\(dX Tt) x.jX
theorem an7(x:fY)(l:ay)(h:l.length=3):n4 0 (gT x) l=δ (gT x):=by simp [n4,abv,h]
structure ahi where
 al8:(List Int)
 block:Int
 ams:Int
structure aO where
 level:Int
 bW:Int
deriving DecidableEq
def tD(x:aO):ay:=[.ah x.level,.ah x.bW]
def afC(x:aO):Prop:=aR x.level/\aR x.bW
structure aJ where
 key:au
 value:aO
 release:Bool
 cG:Bool
 br:Int
 time:Int
deriving DecidableEq
def aW(x:aJ):ay:=[.ah x.key.unit,.str x.key.param,.ah x.value.level,.ah x.value.bW,.bool x.release,.bool x.cG,.ah x.br,.ah x.time]
theorem acS(x:aJ):(aW x).length=8:=rfl
def Ix(x:aJ):Prop:=anY x.key/\afC x.value/\aR x.br/\aR x.time
theorem jY(x:aJ)(l:ay)(h:l.length=8):n4 0 (aW x) l=δ (aW x):=by simp [n4,acS,h]
structure aP where
 aY:Int
 title:ByteArray
 br:Int
 up:Int
 down:Int
 other:Int
 bS:fZ
 block:Bool
 dr:Int
 bJ:(List aJ)
def bY(x:aP):ay:=[.ah x.aY,.str x.title,.ah x.br,.ah x.up,.ah x.down,.ah x.other,.ah x.bS.kind,sl 2 cx x.bS.bp,.bool x.block,.ah x.dr,sl 8 aW x.bJ]
theorem adS(x:aP):(bY x).length=11:=rfl
def rQ(x:aP):Prop:=aR x.aY/\gb x.title/\aR x.br/\aR x.up/\aR x.down/\aR x.other/\afB x.bS/\aR x.dr/\(dX Ix) x.bJ
theorem afG(x:aP):p9 0 11 (bY x)=δ (.agg (bY x)):=rfl
theorem aeV(x:aP):Φ 11 (.agg (bY x))=δ (bY x):=rfl
theorem M9(x:aP)(l:ay)(h:l.length=11):n4 0 (bY x) l=δ (bY x):=by simp [n4,adS,h]
structure afX where
 key:au
 value:aO
 Yo:Int
deriving DecidableEq
structure agS where
 unit:Int
 frm:Int
 to:Int
deriving DecidableEq
structure Wr where
 aY:Int
 amC:(List aP)
structure S5 where
 aY:Int
 list:Int
 al6:Int
deriving DecidableEq
structure af3 where
 rig:ef
 kP:(List fY)
 amp:(List Wr)
 al5:(List S5)
structure UE where
 time:Int
 kind:Int
 aeu:Int
 Yo:Int
 level:Int
deriving DecidableEq
structure afY where
 mB:Int
 action:UE
deriving DecidableEq
structure af6 where
 hours:Int
 minutes:Int
 seconds:Int
 frames:Int
deriving DecidableEq
structure Xa where
 key:au
 ajd:Wq
 ami:Int
 ending:Bool
structure acO where
 aeu:Int
 Yo:Int
 aml:Int
 amb:Bool
 dr:Int
 runs:(List Xa)
structure an0 where
 level:Int
 hold:Int
 ajd:Int
deriving DecidableEq
structure UG where
 form:Int
 low:Int
 high:Int
 amj:Int
 width:Int
 spread:Int
 back:Bool
 al7:Bool
 steps:(List an0)
structure aoe where
 time:Int
 al9:Int
deriving DecidableEq
structure adL where
 effect:UG
 keys:(List au)
 start:Int
 amq:(List aoe)
 Cb:Int
 fin:Int
 out:Int
def Gq:ay->Heap->aL:=Sv λa b σ=>match a,b with
 |.str a,.str b=>δ (.int ξ (R4 a.data.toList b.data.toList),σ)
 |_,_=>μ
def ke(n:Int):ByteArray:=⟨(Lib.itoa n).toArray⟩
def nQ:ay->Heap->aL:=Tu λa σ=>match a with
 |.int ξ n=>if -9223372036854775808<=n/\n<=9223372036854775807 then δ (.str (ke n),σ)else μ
 |_=>μ
theorem qF(n:Int)(h:aR n)(σ:Heap):nQ [.int ξ n] σ=δ (.str (ke n),σ):=aG h
def bZ(l:List UInt8):ByteArray:=⟨l.toArray⟩
abbrev lZ(s:ByteArray):List UInt8:=s.data.toList
def iL(s p:ByteArray):ByteArray×ByteArray×Bool:=(bZ (Lib.cut (lZ s) (lZ p)).1,bZ (Lib.cut (lZ s) (lZ p)).2.1,(Lib.cut (lZ s) (lZ p)).2.2)
def mS(s p:ByteArray):List ByteArray:=Lib.splitB p 0 (Lib.countB s p) s
def qB:ay->Heap->aL:=Sv λa b σ=>match a,b with
 |.str s,.str p=>if s.size<4294967281 then δ (.az [.str (iL s p).1,.str (iL s p).2.1,.bool (iL s p).2.2],σ)else μ
 |_,_=>μ
theorem yQ(s p:ByteArray)(h:s.size<4294967281)(σ:Heap):qB [.str s,.str p] σ=δ (.az [.str (iL s p).1,.str (iL s p).2.1,.bool (iL s p).2.2],σ):=aG h
def Gn:ay->Heap->aL:=Sv λa b σ=>match a,b with
 |.str s,.str p=>if s.size<4294967281 then δ (.bool (Lib.contains (lZ s) (lZ p)),σ)else μ
 |_,_=>μ
theorem abn(s p:ByteArray)(h:s.size<4294967281)(σ:Heap):Gn [.str s,.str p] σ=δ (.bool (Lib.contains (lZ s) (lZ p)),σ):=aG h
def sU:ay->Heap->aL:=Sv λa b σ=>match a,b with
 |.str s,.str p=>if s.size<4294967281/\1<=p.size then δ (sl 1 cO (mS s p),σ)else μ
 |_,_=>μ
theorem He(s p:ByteArray)(h:s.size<4294967281/\1<=p.size)(σ:Heap):sU [.str s,.str p] σ=δ (sl 1 cO (mS s p),σ):=aG h
def Av:ay->Heap->aL:=Sv λa b σ=>match a,b with
 |.str s,.str ⟨⟨[c]⟩⟩=>if c.toNat<128/\s.size<=9223372036854775807 then δ (.str (bZ (apH (lZ s) c)),σ)else μ
 |_,_=>μ
theorem aaQ(s:ByteArray)(c:UInt8)(h:c.toNat<128/\s.size<=9223372036854775807)(σ:Heap):Av [.str s,.str ⟨#[c]⟩] σ=δ (.str (bZ (apH (lZ s) c)),σ):=aG h
def Dw(s:ByteArray):ByteArray:=bZ (apH (lZ s) 48)
theorem SA(s c:ByteArray)(h:s.size<=9223372036854775807/\c=⟨#[48]⟩)(σ:Heap):Av [.str s,.str c] σ=δ (.str (Dw s),σ):=by obtain⟨h1,rfl⟩:=h;exact aaQ s 48 ⟨by decide,h1⟩ σ
def strsOf:List ay->Option (List ByteArray)
 |[]=>δ []
 |[.str s]::r=>(strsOf r).map (s::·)
 |_::_=>μ
theorem anK:∀l:List ByteArray,strsOf (l.map cO)=δ l
 |[]=>rfl
 |x::l=>by show(strsOf (l.map cO)).map (x::·)=_;rw[anK l];rfl
def xx(l:List ByteArray)(p:ByteArray):ByteArray:=bZ (Lib.join (l.map lZ) (lZ p))
def uB:ay->Heap->aL:=Sv λa b σ=>match a,b with
 |.sl 1 es,.str p=>(strsOf es).bind λl=>if l.length<=140737488355328/\(Lib.join (l.map lZ) (lZ p)).length<=140737488355328 then δ (.str (xx l p),σ)else μ
 |_,_=>μ
theorem aeO(l:List ByteArray)(p:ByteArray)(h:l.length<=140737488355328/\(Lib.join (l.map lZ) (lZ p)).length<=140737488355328)(σ:Heap):uB [sl 1 cO l,.str p] σ=δ (.str (xx l p),σ):=by show((strsOf (l.map cO)).bind λl=>if l.length<=140737488355328/\(Lib.join (l.map lZ) (lZ p)).length<=140737488355328 then δ (ψ (xx l p),σ)else μ)=_;rw[anK,aB,aG h]
def iB(b:UInt8):Bool:=decide (48<=b.toNat/\b.toNat<=57)
def mo(s:ByteArray):Bool:=!(lZ s).isEmpty&&(lZ s).all iB
def AK:ay->Heap->aL:=Tu λa σ=>match a with
 |.str s=>if s.size<=9223372036854775807 then δ (.bool (mo s),σ)else μ
 |_=>μ
theorem L7(s:ByteArray)(h:s.size<=9223372036854775807)(σ:Heap):AK [.str s] σ=δ (.bool (mo s),σ):=aG h
def lJ(s:ByteArray)(most:Int):Int×Bool:=
 if mo s=ε\/most<(s.size:Int)\/(1<s.size/\(lZ s).head? =δ 48)then(0,ε)else(((apI (lZ s)).getD 0:Nat),ι)
def AF:ay->Heap->aL:=Sv λa b σ=>match a,b with
 |.str s,.int ξ n=>if s.size<=9223372036854775807/\n<=18 then δ (.az [.int ξ (lJ s n).1,.bool (lJ s n).2],σ)else μ
 |_,_=>μ
theorem Lw(s:ByteArray)(n:Int)(h:s.size<=9223372036854775807/\n<=18)(σ:Heap):AF [.str s,.int ξ n] σ=δ (.az [.int ξ (lJ s n).1,.bool (lJ s n).2],σ):=aG h
section
def Gh (dyn:Nat->ay->Heap->aL) (a0 a1:U) (σ:Heap):aL:=(ZJ a0).bind λx1=>(Zp (λv2 s3=>(ZS (ak v2 1) x1).bind λx5=>Γ x5 ((Zv 3 a0 (ak v2 1)).bind λx6=>((Ψ x6 s3).bind λc7=>p9 0 3 c7).bind λx8=>(A.rK dyn a1 [x8] s3).bind λr9=>Γ r9.1 (δ (l8,[(ak v2 1),(ak v2 1)],r9.2)) ((u9 (ak v2 1) (η 1)).bind λbO=>δ (y9,[(ak v2 0),bO],r9.2))) (δ (i6 0,[(ak v2 0),(ak v2 1)],s3))) [(η 0),(η 0)] σ).bind λeC=>bif eC.1==i6 0 then(Θ σ (η (-1)) eC.2.2)else bif eC.1==l8 then(Θ σ (ak eC.2.1 0) eC.2.2)else μ
def Gg (dyn:Nat->ay->Heap->aL):ay->Heap->aL:=l9 ι [(.s 3)] .k (Sv (Gh dyn))
def Gj (dyn:Nat->ay->Heap->aL) (a0 a1 a2:U) (σ:Heap):aL:=(ZJ a0).bind λx1=>(ZJ a1).bind λx2=>(Lu .i x1 x2).bind λx3=>Γ x3 (Θ σ aC σ) ((ZJ a0).bind λx4=>(Zp (λv5 s6=>(ZS (ak v5 1) x4).bind λx8=>Γ x8 ((Zv 11 a0 (ak v5 1)).bind λx9=>((Ψ x9 s6).bind λdR=>p9 0 11 dR).bind λbB=>(Φ 11 bB).bind λeu=>(n4 0 eu [(η 0),aV,(η 0),(η 0),(η 0),(η 0),(η 0),IM,aC,(η 0),IM]).bind λqh=>(Zv 11 a1 (ak v5 1)).bind λcr=>((Ψ cr s6).bind λiU=>p9 0 11 iU).bind λcq=>(Φ 11 cq).bind λiE=>(n4 0 iE [(η 0),aV,(η 0),(η 0),(η 0),(η 0),(η 0),IM,aC,(η 0),IM]).bind λjo=>(p9 0 11 qh).bind λcE=>(p9 0 11 jo).bind λcK=>(A.rK dyn a2 [cE,cK] s6).bind λqp=>(Zo qp.1).bind λbV=>Γ bV (δ (l8,[aC,(ak v5 1)],qp.2)) ((u9 (ak v5 1) (η 1)).bind λcQ=>δ (y9,[(ak v5 0),cQ],qp.2))) (δ (i6 0,[(ak v5 0),(ak v5 1)],s6))) [aC,(η 0)] σ).bind λgE=>bif gE.1==i6 0 then(Θ σ bH gE.2.2)else bif gE.1==l8 then(Θ σ (ak gE.2.1 0) gE.2.2)else μ)
def Gi (dyn:Nat->ay->Heap->aL):ay->Heap->aL:=l9 ι [(.s 11),(.s 11)] .k (A.nA (Gj dyn))
def J2 (a0 a1:U) (σ:Heap):aL:=(ZJ a0).bind λx1=>(ZJ a1).bind λx2=>(Lu .i x1 x2).bind λx3=>Γ x3 (Θ σ aC σ) ((ZJ a0).bind λx4=>(Zp (λv5 s6=>(ZS (ak v5 1) x4).bind λx8=>Γ x8 ((Zv 2 a0 (ak v5 1)).bind λx9=>((Ψ x9 s6).bind λdR=>p9 0 2 dR).bind λbB=>(Zv 2 a1 (ak v5 1)).bind λbP=>((Ψ bP s6).bind λqh=>p9 0 2 qh).bind λcr=>(Lu (.s [0,0]) bB cr).bind λct=>Γ ct (δ (l8,[aC,(ak v5 1)],s6)) ((u9 (ak v5 1) (η 1)).bind λcq=>δ (y9,[(ak v5 0),cq],s6))) (δ (i6 0,[(ak v5 0),(ak v5 1)],s6))) [aC,(η 0)] σ).bind λnF=>bif nF.1==i6 0 then(Θ σ bH nF.2.2)else bif nF.1==l8 then(Θ σ (ak nF.2.1 0) nF.2.2)else μ)
def J1:ay->Heap->aL:=l9 ι [(.s 2),(.s 2)] .k (Sv J2)
def J4 (a0 a1:U) (σ:Heap):aL:=(ZJ a0).bind λx1=>(ZJ a1).bind λx2=>(Lu .i x1 x2).bind λx3=>Γ x3 (Θ σ aC σ) ((ZJ a0).bind λx4=>(Zp (λv5 s6=>(ZS (ak v5 1) x4).bind λx8=>Γ x8 ((Zv 8 a0 (ak v5 1)).bind λx9=>((Ψ x9 s6).bind λdR=>p9 0 8 dR).bind λbB=>(Zv 8 a1 (ak v5 1)).bind λbP=>((Ψ bP s6).bind λqh=>p9 0 8 qh).bind λcr=>(Lu (.s [0,2,0,0,1,1,0,0]) bB cr).bind λct=>Γ ct (δ (l8,[aC,(ak v5 1)],s6)) ((u9 (ak v5 1) (η 1)).bind λcq=>δ (y9,[(ak v5 0),cq],s6))) (δ (i6 0,[(ak v5 0),(ak v5 1)],s6))) [aC,(η 0)] σ).bind λnF=>bif nF.1==i6 0 then(Θ σ bH nF.2.2)else bif nF.1==l8 then(Θ σ (ak nF.2.1 0) nF.2.2)else μ)
def J3:ay->Heap->aL:=l9 ι [(.s 8),(.s 8)] .k (Sv J4)
def JZ (a0 a1:U) (σ:Heap):aL:=(A.gX a0).bind λx1=>(A.gX a1).bind λx2=>(A.geq x1 x2).bind λx3=>(θ x3 ι (δ a0) aq).bind λx4=>(θ x3 ι (δ a1) aq).bind λx5=>(θ x3 ι (A.gX x5) aq).bind λx6=>(θ x3 ι (A.oN x4 μ (δ x6)) aq).bind λx7=>(θ x3 ι (δ a1) aq).bind λx8=>(θ x3 ι (p4 .z x7 x8) aq).bind λx9=>(ir x3 x9 aC).bind λbO=>Θ σ bO σ
def Gf:ay->Heap->aL:=l9 ι [] .k (Sv JZ)
def JX (a0 a1:U) (σ:Heap):aL:=(Gf [a0,a1] σ).bind λr1=>(Zo r1.1).bind λx2=>Γ x2 (Θ σ (l6 [a0,aC]) r1.2) ((A.gX a1).bind λx3=>(A.oN a0 (δ x3) μ).bind λx4=>Θ σ (l6 [x4,bH]) r1.2)
def JU:ay->Heap->aL:=l9 ι [] .k (Sv JX)
def Ki (a0 a1:U) (σ:Heap):aL:=(JU [a0,a1] σ).bind λr1=>(j0 0 r1.1).bind λx2=>(j0 1 r1.1).bind λx3=>Θ σ (l6 [x2,x3]) r1.2
def Gl:ay->Heap->aL:=l9 ι [] .k (Sv Ki)
def J0 (a0 a1:U) (σ:Heap):aL:=(A.gX a0).bind λx1=>(A.gX a1).bind λx2=>(A.geq x1 x2).bind λx3=>(θ x3 ι (δ a0) aq).bind λx4=>(θ x3 ι (δ a0) aq).bind λx5=>(θ x3 ι (A.gX x5) aq).bind λx6=>(θ x3 ι (δ a1) aq).bind λx7=>(θ x3 ι (A.gX x7) aq).bind λx8=>(θ x3 ι (Uw x6 x8) aq).bind λx9=>(θ x3 ι (A.oN x4 (δ x9) μ) aq).bind λbO=>(θ x3 ι (δ a1) aq).bind λbB=>(θ x3 ι (p4 .z bO bB) aq).bind λbP=>(ir x3 bP aC).bind λbU=>Θ σ bU σ
def JW:ay->Heap->aL:=l9 ι [] .k (Sv J0)
def JY (a0 a1:U) (σ:Heap):aL:=(JW [a0,a1] σ).bind λr1=>(Zo r1.1).bind λx2=>Γ x2 (Θ σ (l6 [a0,aC]) r1.2) ((A.gX a0).bind λx3=>(A.gX a1).bind λx4=>(Uw x3 x4).bind λx5=>(A.oN a0 μ (δ x5)).bind λx6=>Θ σ (l6 [x6,bH]) r1.2)
def JV:ay->Heap->aL:=l9 ι [] .k (Sv JY)
def Kj (a0 a1:U) (σ:Heap):aL:=(JV [a0,a1] σ).bind λr1=>(j0 0 r1.1).bind λx2=>(j0 1 r1.1).bind λx3=>Θ σ (l6 [x2,x3]) r1.2
def Au:ay->Heap->aL:=l9 ι [] .k (Sv Kj)
def JT (a0 a1:U) (σ:Heap):aL:=(Gf [a0,a1] σ).bind λr1=>Γ r1.1 ((A.gX a1).bind λx2=>(A.oN a0 (δ x2) μ).bind λx3=>Θ σ x3 r1.2) (Θ σ a0 r1.2)
def JS:ay->Heap->aL:=l9 ι [] .k (Sv JT)
def Ke (a0 a1:U) (σ:Heap):aL:=(JS [a0,a1] σ).bind λr1=>Θ σ r1.1 r1.2
def Kc:ay->Heap->aL:=l9 ι [] .k (Sv Ke)
end
section
def CL (a0:U) (σ:Heap):aL:=(A.gX a0).bind λx1=>(Zp (λv2 s3=>(ZS (ak v2 1) x1).bind λx5=>Γ x5 ((A.kJ a0 (ak v2 1)).bind λx6=>(A.geq x6 (Ru .u8 97)).bind λx7=>(θ x7 ι (δ x6) aq).bind λx8=>(θ x7 ι (A.leq x8 (Ru .u8 122)) aq).bind λx9=>(ir x7 x9 aC).bind λbO=>(θ bO ε (δ x6) aq).bind λbB=>(θ bO ε (A.geq bB (Ru .u8 48)) aq).bind λbP=>(θ bO ε (δ bP) aq).bind λbU=>(θ bU ι (δ x6) aq).bind λcr=>(θ bU ι (A.leq cr (Ru .u8 57)) aq).bind λct=>(θ bO ε (ir bU ct aC) aq).bind λcq=>(ir bO bH cq).bind λdw=>(θ dw ε (δ x6) aq).bind λcU=>(θ dw ε (p4 .i cU (Ru .u8 45)) aq).bind λcE=>(ir dw bH cE).bind λcK=>(Zo cK).bind λbK=>Γ bK (δ (l8,[aC,(ak v2 1)],s3)) ((u9 (ak v2 1) (η 1)).bind λbV=>δ (y9,[(ak v2 0),bV],s3))) (δ (i6 0,[(ak v2 0),(ak v2 1)],s3))) [aC,(η 0)] σ).bind λku=>bif ku.1==i6 0 then((Lu .z a0 aV).bind λdM=>Θ σ dM ku.2.2)else bif ku.1==l8 then(Θ σ (ak ku.2.1 0) ku.2.2)else μ
def CK:ay->Heap->aL:=l9 ι [] .k (Tu CL)
def LK (a0:U) (σ:Heap):aL:=(CK [a0] σ).bind λr1=>(θ r1.1 ι (δ a0) aq).bind λx2=>(θ r1.1 ι (A.gX x2) aq).bind λx3=>(θ r1.1 ι (A.leq x3 (η 20)) aq).bind λx4=>(ir r1.1 x4 aC).bind λx5=>(θ x5 ι (δ a0) aq).bind λx6=>(θ x5 ι (A.kJ x6 (η 0)) aq).bind λx7=>(θ x5 ι (A.geq x7 (Ru .u8 97)) aq).bind λx8=>(ir x5 x8 aC).bind λx9=>(θ x9 ι (δ a0) aq).bind λbO=>(θ x9 ι (A.kJ bO (η 0)) aq).bind λbB=>(θ x9 ι (A.leq bB (Ru .u8 122)) aq).bind λbP=>(ir x9 bP aC).bind λbU=>Θ σ bU r1.2
def AW:ay->Heap->aL:=l9 ι [] .k (Tu LK)
def KY (a0 a1 a2:U) (σ:Heap):aL:=(A.geq a0 a1).bind λx1=>(θ x1 ι (δ a0) aq).bind λx2=>(θ x1 ι (δ a2) aq).bind λx3=>(θ x1 ι (A.leq x2 x3) aq).bind λx4=>(ir x1 x4 aC).bind λx5=>Θ σ x5 σ
def jd:ay->Heap->aL:=l9 ι [] .k (A.nA KY)
def LM (a0 a1:U) (σ:Heap):aL:=Γ a0 (Θ σ a1 σ) (Θ σ (η 0) σ)
def AY:ay->Heap->aL:=l9 ι [] .k (Sv LM)
def Lh (a0:U) (σ:Heap):aL:=(ZJ a0).bind λx1=>(Zp (λv2 s3=>(ZS (ak v2 1) x1).bind λx5=>Γ x5 ((Zv 1 a0 (ak v2 1)).bind λx6=>((Ψ x6 s3).bind λc7=>Ω 0 c7).bind λx8=>(Lu .i x8 (η 0)).bind λx9=>Γ x9 (δ (l8,[x8,(ak v2 1)],s3)) ((u9 (ak v2 1) (η 1)).bind λbO=>δ (y9,[(ak v2 0),bO],s3))) (δ (i6 0,[(ak v2 0),(ak v2 1)],s3))) [(η 0),(η 0)] σ).bind λeC=>bif eC.1==i6 0 then(Θ σ (η 0) eC.2.2)else bif eC.1==l8 then(Θ σ (ak eC.2.1 0) eC.2.2)else μ
def CB:ay->Heap->aL:=l9 ι [(.s 1)] .k (Tu Lh)
def Ll (a0:U) (σ:Heap):aL:=(A.gX a0).bind λx1=>(Zp (λv2 s3=>(ZS (ak v2 1) x1).bind λx5=>Γ x5 ((A.kJ a0 (ak v2 1)).bind λx6=>(ZS x6 (Ru .u8 32)).bind λx7=>(θ x7 ε (δ a0) aq).bind λx8=>(θ x7 ε (δ (ak v2 1)) aq).bind λx9=>(θ x7 ε (A.kJ x8 x9) aq).bind λbO=>(θ x7 ε (ZR bO (Ru .u8 126)) aq).bind λbB=>(ir x7 bH bB).bind λbP=>Γ bP (δ (l8,[aC,(ak v2 1)],s3)) ((u9 (ak v2 1) (η 1)).bind λbU=>δ (y9,[(ak v2 0),bU],s3))) (δ (i6 0,[(ak v2 0),(ak v2 1)],s3))) [aC,(η 0)] σ).bind λeJ=>bif eJ.1==i6 0 then((Lu .z a0 aV).bind λct=>(θ ct ι (δ a0) aq).bind λcq=>(θ ct ι (A.gX cq) aq).bind λdw=>(θ ct ι (A.leq dw (η 60)) aq).bind λcU=>(ir ct cU aC).bind λcE=>(θ cE ι (δ a0) aq).bind λcK=>(θ cE ι (A.kJ cK (η 0)) aq).bind λbK=>(θ cE ι (Lu .i bK (Ru .u8 32)) aq).bind λbV=>(ir cE bV aC).bind λcQ=>(θ cQ ι (δ a0) aq).bind λdM=>(θ cQ ι (δ a0) aq).bind λdQ=>(θ cQ ι (A.gX dQ) aq).bind λdS=>(θ cQ ι (Uw dS (η 1)) aq).bind λcZ=>(θ cQ ι (A.kJ dM cZ) aq).bind λfH=>(θ cQ ι (Lu .i fH (Ru .u8 32)) aq).bind λeU=>(ir cQ eU aC).bind λeD=>Θ σ eD eJ.2.2)else bif eJ.1==l8 then(Θ σ (ak eJ.2.1 0) eJ.2.2)else μ
def GI:ay->Heap->aL:=l9 ι [] .k (Tu Ll)
def Li (a0 a1:U) (σ:Heap):aL:=(A.quo a0 a1).bind λx1=>(A.rem a0 a1).bind λx2=>(ZS x2 (η 0)).bind λx3=>(Γ x3 ((Uw x1 (η 1)).bind λx5=>δ ([x5],σ)) (δ ([x1],σ))).bind λr4=>Θ σ (ak r4.1 0) r4.2
def K8:ay->Heap->aL:=l9 ι [] .k (Sv Li)
def Lk (a0 a1:U) (σ:Heap):aL:=(A.mul (η 2) a0).bind λx1=>(u9 x1 a1).bind λx2=>(A.mul (η 2) a1).bind λx3=>(K8 [x2,x3] σ).bind λr4=>Θ σ r4.1 r4.2
def CC:ay->Heap->aL:=l9 ι [] .k (Sv Lk)
def Lj (a0:U) (σ:Heap):aL:=(p4 .z a0 aV).bind λx1=>Γ x1 (Θ σ (l6 [IM,bH]) σ) ((sU [a0,(ψ ⟨#[10]⟩)] σ).bind λr2=>(ZJ r2.1).bind λx3=>(Uw x3 (η 1)).bind λx4=>(Zv 1 r2.1 x4).bind λx5=>((Ψ x5 r2.2).bind λc6=>Ω 0 c6).bind λx7=>(p4 .z x7 aV).bind λx8=>Γ x8 ((ZJ r2.1).bind λx9=>(Uw x9 (η 1)).bind λbO=>(A.gV 1 r2.1 μ (δ bO) r2.2).bind λbB=>Θ σ (l6 [bB,bH]) r2.2) (Θ σ (l6 [r2.1,aC]) r2.2))
def K9:ay->Heap->aL:=l9 ι [] (.t [(.s 1),.k]) (Tu Lj)
def KX (a0:U) (σ:Heap):aL:=(AF [a0,(η 9)] σ).bind λr1=>(j0 0 r1.1).bind λx2=>(j0 1 r1.1).bind λx3=>Θ σ (l6 [x2,x3]) r1.2
def wL:ay->Heap->aL:=l9 ι [] .k (Tu KX)
def LL (a0 a1:U) (σ:Heap):aL:=(qB [a0,a1] σ).bind λr1=>(j0 0 r1.1).bind λx2=>(j0 1 r1.1).bind λx3=>(j0 2 r1.1).bind λx4=>(wL [x2] r1.2).bind λr5=>(j0 0 r5.1).bind λx6=>(j0 1 r5.1).bind λx7=>(wL [x3] r5.2).bind λr8=>(j0 0 r8.1).bind λx9=>(j0 1 r8.1).bind λbO=>(θ x4 ι (δ x7) aq).bind λbB=>(ir x4 bB aC).bind λbP=>(θ bP ι (δ bO) aq).bind λbU=>(ir bP bU aC).bind λcr=>Θ σ (l6 [x6,x9,cr]) r8.2
def Lz:ay->Heap->aL:=l9 ι [] .k (Sv LL)
end
section
def Ko (a0:U) (σ:Heap):aL:=(jd [a0,(η 0),(η 65535)] σ).bind λr1=>Θ σ r1.1 r1.2
def Cs:ay->Heap->aL:=l9 ι [] .k (Tu Ko)
def Ka (a0:U) (σ:Heap):aL:=(ZJ a0).bind λx1=>(ZR x1 (η 30)).bind λx2=>Γ x2 (Θ σ (η 2) σ) ((ZJ a0).bind λx3=>(Zp (λv4 s5=>(ZS (ak v4 1) x3).bind λx7=>Γ x7 ((Zv 3 a0 (ak v4 1)).bind λx8=>((Ψ x8 s5).bind λc9=>p9 0 3 c9).bind λbO=>(Φ 3 bO).bind λmC=>(n4 0 mC [(η 0),(η 0),aV]).bind λeu=>(Ω 0 eu).bind λbU=>(Cs [bU] s5).bind λeJ=>(Zo eJ.1).bind λct=>(θ ct ε (Ω 1 eu) aq).bind λcq=>(θ ct ε (Zf (Cs [cq] eJ.2) eJ.2) aq).bind λdw=>(θ ct ε (Zo dw) aq).bind λcU=>(ir ct bH cU).bind λcE=>(θ cE ε (Ω 0 eu) aq).bind λcK=>(θ cE ε (Ω 1 eu) aq).bind λbK=>(θ cE ε (ZR cK bK) aq).bind λbV=>(ir cE bH bV).bind λcQ=>Γ cQ (δ (l8,[(η 1),(ak v4 1)],eJ.2)) ((ZR (ak v4 1) (η 0)).bind λdM=>(θ dM ι (Ω 0 eu) aq).bind λdQ=>(θ dM ι (δ a0) aq).bind λdS=>(θ dM ι (δ (ak v4 1)) aq).bind λcZ=>(θ dM ι (Uw cZ (η 1)) aq).bind λfH=>(θ dM ι (Zv 3 dS fH) aq).bind λeU=>(θ dM ι (YK 1 eU) aq).bind λeD=>(θ dM ι ((Ψ eD eJ.2).bind λzB=>Ω 0 zB) aq).bind λgF=>(θ dM ι (A.leq dQ gF) aq).bind λeL=>(ir dM eL aC).bind λeM=>Γ eM (δ (l8,[(η 7),(ak v4 1)],eJ.2)) ((Ω 2 eu).bind λcI=>(AW [cI] eJ.2).bind λyj=>(Zo yj.1).bind λdU=>Γ dU (δ (l8,[(η 5),(ak v4 1)],yj.2)) ((Ω 2 eu).bind λfM=>(Zl .z (U.om σ.length) fM aC yj.2).bind λey=>Γ ey (δ (l8,[(η 6),(ak v4 1)],yj.2)) ((Ω 2 eu).bind λfk=>(A.jk .z (U.om σ.length) fk bH yj.2).bind λh41=>(u9 (ak v4 1) (η 1)).bind λia=>δ (y9,[(ak v4 0),ia],h41)))))) (δ (i6 0,[(ak v4 0),(ak v4 1)],s5))) [(η 0),(η 0)] (σ++[Z2 []])).bind λjT=>bif jT.1==i6 0 then(Θ σ (η 0) jT.2.2)else bif jT.1==l8 then(Θ σ (ak jT.2.1 0) jT.2.2)else μ)
def J9:ay->Heap->aL:=l9 ι [(.s 3)] .k (Tu Ka)
def J8 (a0:U) (σ:Heap):aL:=(Φ 3 a0).bind λc1=>(Ω 0 c1).bind λx2=>(AW [x2] σ).bind λr3=>(Zo r3.1).bind λx4=>Γ x4 (Θ σ (η 5) r3.2) ((Ω 1 c1).bind λx5=>(jd [x5,(η 1),(η 512)] r3.2).bind λr6=>(Zo r6.1).bind λx7=>Γ x7 (Θ σ (η 1) r6.2) ((Ω 2 c1).bind λx8=>(ZJ x8).bind λx9=>(p4 .i x9 (η 0)).bind λbO=>Γ bO (Θ σ (η 8) r6.2) ((Ω 2 c1).bind λbB=>(ZJ bB).bind λbP=>(ZR bP (η 40)).bind λbU=>Γ bU (Θ σ (η 2) r6.2) ((Ω 2 c1).bind λcr=>(ZJ cr).bind λct=>(Zp (λgd Ab=>(ZS (ak gd 2) ct).bind λcE=>Γ cE ((Zv 7 cr (ak gd 2)).bind λcK=>((Ψ cK Ab).bind λsu=>p9 0 7 su).bind λbV=>(Φ 7 bV).bind λlM=>(n4 0 lM [aV,(η 0),(η 0),(η 0),(η 0),aC,IM]).bind λgp=>(Ω 0 gp).bind λdQ=>(AW [dQ] Ab).bind λgR=>(Zo gR.1).bind λcZ=>Γ cZ (δ (l8,[(ak gd 0),(η 5),(ak gd 2)],gR.2)) ((Ω 0 gp).bind λfH=>(Zl .z (U.om r6.2.length) fH aC gR.2).bind λeU=>Γ eU (δ (l8,[(ak gd 0),(η 6),(ak gd 2)],gR.2)) ((Ω 1 gp).bind λeD=>(jd [eD,(η 1),(η 4)] gR.2).bind λqt=>(Zo qt.1).bind λgF=>Γ gF (δ (l8,[(ak gd 0),(η 4),(ak gd 2)],qt.2)) ((Ω 2 gp).bind λeL=>((Zm (ak gd 0)).bind λ_=>δ (1)).bind λQS=>((Zm (ak gd 0)).bind λoB=>Ω QS oB).bind λgB=>(jd [eL,(η 1),gB] qt.2).bind λjS=>(Zo jS.1).bind λfM=>(θ fM ε (Ω 3 gp) aq).bind λey=>((Zm (ak gd 0)).bind λ_ => δ (1)).bind λp40 =>(θ fM ε ((Zm (ak gd 0)).bind λsy=>Ω p40 sy) aq).bind λia=>(θ fM ε (Zf (jd [ey,(η 0),ia] jS.2) jS.2) aq).bind λgr=>(θ fM ε (Zo gr) aq).bind λgu=>(ir fM bH gu).bind λfX=>(θ fX ε (Ω 4 gp) aq).bind λgC=>(θ fX ε (Zf (Cs [gC] jS.2) jS.2) aq).bind λiZ=>(θ fX ε (Zo iZ) aq).bind λlT=>(ir fX bH lT).bind λjv=>Γ jv (δ (l8,[(ak gd 0),(η 1),(ak gd 2)],jS.2)) ((Ω 2 gp).bind λjx=>(Ω 3 gp).bind λjc=>(p4 .i jx jc).bind λgy=>(θ gy ε (δ (U.om (r6.2++[Z2 []]).length)) aq).bind λjU=>(θ gy ε (Ω 2 gp) aq).bind λkN=>(θ gy ε (Zl .i jU kN aC jS.2) aq).bind λkC=>(ir gy bH kC).bind λjy=>(θ jy ε (Ω 3 gp) aq).bind λjz=>(θ jy ε (ZR jz (η 0)) aq).bind λnL=>(θ jy ε (δ nL) aq).bind λnM=>(θ nM ι (δ (U.om (r6.2++[Z2 []]).length)) aq).bind λmH=>(θ nM ι (Ω 3 gp) aq).bind λsO=>(θ nM ι (Zl .i mH sO aC jS.2) aq).bind λmI=>(θ jy ε (ir nM mI aC) aq).bind λjV=>(ir jy bH jV).bind λwv=>Γ wv (δ (l8,[(ak gd 0),(η 12),(ak gd 2)],jS.2)) ((Ω 6 gp).bind λsP=>(J9 [sP] jS.2).bind λwq=>(Lu .i wq.1 (η 0)).bind λwz=>Γ wz (δ (l8,[(ak gd 0),wq.1,(ak gd 2)],wq.2)) ((Ω 0 gp).bind λsQ=>(Ω 2 gp).bind λF3=>(A.jk .z (U.om r6.2.length) sQ bH wq.2).bind λh70=>(A.jk .i (U.om (r6.2++[Z2 []]).length) F3 bH h70).bind λYF=>(Ω 3 gp).bind λAi=>(ZR Ai (η 0)).bind λAj=>(Γ Aj ((Ω 3 gp).bind λpI=>(A.jk .i (U.om (r6.2++[Z2 []]).length) pI bH YF).bind λh76=>δ ([(ak gd 0)],h76)) (δ ([(ak gd 0)],YF))).bind λY6=>(u9 (ak gd 2) (η 1)).bind λwB=>δ (y9,[(ak Y6.1 0),(ak gd 1),wB],Y6.2)))))))) (δ (i6 1,[(ak gd 0),(ak gd 1),(ak gd 2)],Ab))) [(Z3 c1),(η 0),(η 0)] ((r6.2++[Z2 []])++[Z2 []])).bind λqV=>bif qV.1==i6 1 then(Θ σ (η 0) qV.2.2)else bif qV.1==l8 then(Θ σ (ak qV.2.1 1) qV.2.2)else μ))))
def J6:ay->Heap->aL:=l9 ι [(.a [.k,.k,(.s 7)])] .k (Tu J8)
def J7 (a0:U) (σ:Heap):aL:=(ZJ a0).bind λx1=>(ZR x1 (η 60)).bind λx2=>Γ x2 (Θ σ (η 2) σ) ((ZJ a0).bind λx3=>(Zp (λv4 s5=>(ZS (ak v4 1) x3).bind λx7=>Γ x7 ((Zv 3 a0 (ak v4 1)).bind λx8=>((Ψ x8 s5).bind λc9=>p9 0 3 c9).bind λbO=>(Φ 3 bO).bind λmC=>(n4 0 mC [aV,(η 0),IM]).bind λeu=>(p9 0 3 eu).bind λbU=>(J6 [bU] s5).bind λeJ=>(Lu .i eJ.1 (η 0)).bind λct=>Γ ct (δ (l8,[eJ.1,(ak v4 1)],eJ.2)) ((Ω 0 eu).bind λcq=>(Zl .z (U.om σ.length) cq aC eJ.2).bind λdw=>Γ dw (δ (l8,[(η 6),(ak v4 1)],eJ.2)) ((Ω 0 eu).bind λcU=>(A.jk .z (U.om σ.length) cU bH eJ.2).bind λh19=>(u9 (ak v4 1) (η 1)).bind λcK=>δ (y9,[(ak v4 0),cK],h19)))) (δ (i6 0,[(ak v4 0),(ak v4 1)],s5))) [(η 0),(η 0)] (σ++[Z2 []])).bind λqp=>bif qp.1==i6 0 then(Θ σ (η 0) qp.2.2)else bif qp.1==l8 then(Θ σ (ak qp.2.1 0) qp.2.2)else μ)
def J5:ay->Heap->aL:=l9 ι [(.s 3)] .k (Tu J7)
def Kb (a0 a1:U) (σ:Heap):aL:=(Φ 3 a0).bind λc1=>(Ω 0 c1).bind λx2=>((Ψ a1 σ).bind λc3=>Ω 0 c3).bind λx4=>(p4 .z x2 x4).bind λx5=>Θ σ x5 σ
def Cp:ay->Heap->aL:=l9 ι [(.a [.k,.k,(.s 7)])] .k (Sv Kb)
def Gs (a0 a1:U) (σ:Heap):aL:=(((n8 a1).bind λv=>δ [v]).bind λcs=>δ (T3 cs)).bind λx1=>(Gg (aoQ (λ_ _=>μ) [(64,Cp)]) [a0,(U.fn 64 [x1])] σ).bind λr2=>(ZS r2.1 (η 0)).bind λx3=>Γ x3 ((Φ 3 (l7 [aV,(η 0),IM])).bind λc4=>(n4 0 c4 [aV,(η 0),IM]).bind λc5=>(p9 0 3 c5).bind λx6=>Θ σ (l6 [x6,aC]) r2.2) ((Zv 3 a0 r2.1).bind λx7=>((Ψ x7 r2.2).bind λc8=>p9 0 3 c8).bind λx9=>(Φ 3 x9).bind λdR=>(n4 0 dR [aV,(η 0),IM]).bind λmC=>(p9 0 3 mC).bind λbP=>Θ σ (l6 [bP,bH]) r2.2)
def Gp:ay->Heap->aL:=l9 ι [(.s 3)] (.t [(.a vE),.k]) (Sv Gs)
def Cr (a0 a1 a2:U) (σ:Heap):aL:=(p4 .p a0 U.np).bind λx1=>Γ x1 ((u9 a1 a2).bind λx2=>(Uw x2 (η 1)).bind λx3=>(A.leq x3 (η 512)).bind λx4=>Θ σ x4 σ) ((Zp (λv5 s6=>(u9 a1 a2).bind λx8=>(ZS (ak v5 1) x8).bind λx9=>Γ x9 ((ZR (ak v5 1) (η 512)).bind λbO=>(θ bO ε (δ a0) aq).bind λbB=>(θ bO ε (δ (ak v5 1)) aq).bind λbP=>(θ bO ε (A.mU bB) aq).bind λbU=>(θ bO ε (A.tK 513 1 bU bP) aq).bind λcr=>(θ bO ε ((Ψ cr s6).bind λiU=>Ω 0 iU) aq).bind λcq=>(ir bO bH cq).bind λdw=>Γ dw (δ (l8,[aC,(ak v5 1)],s6)) ((u9 (ak v5 1) (η 1)).bind λcU=>δ (y9,[(ak v5 0),cU],s6))) (δ (i6 0,[(ak v5 0),(ak v5 1)],s6))) [aC,a1] σ).bind λkM=>bif kM.1==i6 0 then(Θ σ bH kM.2.2)else bif kM.1==l8 then(Θ σ (ak kM.2.1 0) kM.2.2)else μ)
def As:ay->Heap->aL:=l9 ι [] .k (A.nA Cr)
def Cx (a0 a1 a2:U) (σ:Heap):aL:=(Φ 4 a1).bind λc1=>(Ω 2 c1).bind λx2=>(Zl .i a0 x2 U.np σ).bind λx3=>(p4 .p x3 U.np).bind λx4=>(Γ x4 ((Ω 2 c1).bind λx6=>(A.jk .i a0 x6 (UK σ.length 0) (σ++[bQ.box (w8 513 aC)])).bind λh7=>δ ([(Z3 c1)],h7)) (δ ([(Z3 c1)],σ))).bind λr5=>((Zm (ak r5.1 0)).bind λ_=>δ (3)).bind λp8=>((Zm (ak r5.1 0)).bind λc9=>Ω p8 c9).bind λbO=>(Zp (λv11 Aa=>((Zm (ak v11 0)).bind λ_=>δ (3)).bind λQN=>((Zm (ak v11 0)).bind λiU=>Ω QN iU).bind λcq=>(u9 cq a2).bind λdw=>(ZS (ak v11 1) dw).bind λcU=>Γ cU (((Zm (ak v11 0)).bind λ_=>δ (2)).bind λp19=>((Zm (ak v11 0)).bind λzx=>Ω p19 zx).bind λbK=>(Zl .i a0 bK U.np Aa).bind λbV=>(A.mU bV).bind λcQ=>(A.tK 513 1 cQ (ak v11 1)).bind λdM=>((n8 bH).bind λv=>δ [v]).bind λiV=>(WG dM iV Aa).bind λsx=>(u9 (ak v11 1) (η 1)).bind λcZ=>δ (y9,[(ak v11 0),cZ],sx)) (δ (i6 0,[(ak v11 0),(ak v11 1)],Aa))) [(ak r5.1 0),bO] r5.2).bind λjt=>bif jt.1==i6 0 then(δ ((l6 []),jt.2.2))else μ
def Gy:ay->Heap->aL:=l9 ε [] .k (A.nA Cx)
def Kk (a0:U) (σ:Heap):aL:=(Φ 2 a0).bind λc1=>(Ω 0 c1).bind λx2=>(J5 [x2] σ).bind λr3=>(Lu .i r3.1 (η 0)).bind λx4=>Γ x4 (Θ σ r3.1 r3.2) ((Ω 1 c1).bind λx5=>(ZJ x5).bind λx6=>(ZR x6 (η 400)).bind λx7=>Γ x7 (Θ σ (η 2) r3.2) ((Ω 1 c1).bind λx8=>(ZJ x8).bind λx9=>(Zp (λv10 QZ=>(ZS (ak v10 2) x9).bind λbU=>Γ bU ((Zv 4 x8 (ak v10 2)).bind λcr=>((Ψ cr QZ).bind λiU=>p9 0 4 iU).bind λcq=>(Φ 4 cq).bind λiE=>(n4 0 iE [(η 0),aV,(η 0),(η 0)]).bind λjo=>(Ω 0 jo).bind λcE=>(jd [cE,(η 1),(η 9999)] QZ).bind λcY=>(Zo cY.1).bind λbK=>Γ bK (δ (l8,[(ak v10 0),(η 1),(ak v10 2)],cY.2)) ((ZR (ak v10 2) (η 0)).bind λbV=>(θ bV ι (Ω 0 jo) aq).bind λcQ=>((Zm (ak v10 0)).bind λ_ => δ (1)).bind λFN =>(θ bV ι ((Zm (ak v10 0)).bind λiV=>Ω FN iV) aq).bind λdS=>(θ bV ι (δ (ak v10 2)) aq).bind λcZ=>(θ bV ι (Uw cZ (η 1)) aq).bind λfH=>(θ bV ι (Zv 4 dS fH) aq).bind λeU=>(θ bV ι (YK 0 eU) aq).bind λeD=>(θ bV ι ((Ψ eD cY.2).bind λzB=>Ω 0 zB) aq).bind λgF=>(θ bV ι (A.leq cQ gF) aq).bind λeL=>(ir bV eL aC).bind λeM=>Γ eM (δ (l8,[(ak v10 0),(η 7),(ak v10 2)],cY.2)) (((Zm (ak v10 0)).bind λ_=>δ (0)).bind λp35=>((Zm (ak v10 0)).bind λoC=>Ω p35 oC).bind λdU=>(Ω 1 jo).bind λfM=>(Gp [dU,fM] cY.2).bind λqT=>(j0 0 qT.1).bind λfk=>(j0 1 qT.1).bind λfu=>(Φ 3 fk).bind λqM=>(n4 0 qM [aV,(η 0),IM]).bind λvI=>(Zo fu).bind λgu=>Γ gu (δ (l8,[(ak v10 0),(η 5),(ak v10 2)],qT.2)) ((Ω 2 jo).bind λfX=>(jd [fX,(η 1),(η 64)] qT.2).bind λnH=>(Zo nH.1).bind λiZ=>(θ iZ ε (Ω 3 jo) aq).bind λlT=>(θ iZ ε (Zf (jd [lT,(η 1),(η 512)] nH.2) nH.2) aq).bind λjv=>(θ iZ ε (Zo jv) aq).bind λjx=>(ir iZ bH jx).bind λjc=>(θ jc ε (Ω 3 jo) aq).bind λgy=>(θ jc ε (Ω 1 vI) aq).bind λjU=>(θ jc ε (u9 gy jU) aq).bind λkN=>(θ jc ε (Uw kN (η 1)) aq).bind λkC=>(θ jc ε (ZR kC (η 512)) aq).bind λjy=>(ir jc bH jy).bind λjz=>Γ jz (δ (l8,[(ak v10 0),(η 1),(ak v10 2)],nH.2)) ((Ω 2 jo).bind λnL=>(Zl .i (U.om r3.2.length) nL U.np nH.2).bind λnM=>(Ω 3 jo).bind λmH=>(Ω 1 vI).bind λsO=>(As [nM,mH,sO] nH.2).bind λyl=>(Zo yl.1).bind λjV=>Γ jV (δ (l8,[(ak v10 0),(η 12),(ak v10 2)],yl.2)) ((p9 0 4 jo).bind λwv=>(Ω 1 vI).bind λsP=>(Gy [(U.om r3.2.length),wv,sP] yl.2).bind λwq=>(u9 (ak v10 2) (η 1)).bind λwz=>δ (y9,[(ak v10 0),(ak v10 1),wz],wq.2))))))) (δ (i6 0,[(ak v10 0),(ak v10 1),(ak v10 2)],QZ))) [(Z3 c1),(η 0),(η 0)] (r3.2++[Z2 []])).bind λFP=>bif FP.1==i6 0 then(Θ σ (η 0) FP.2.2)else bif FP.1==l8 then(Θ σ (ak FP.2.1 1) FP.2.2)else μ))
def Gm:ay->Heap->aL:=l9 ι [(.a [(.s 3),(.s 4)])] .k (Tu Kk)
def Cw (a0:U) (σ:Heap):aL:=(Φ 2 a0).bind λc1=>(p9 0 2 c1).bind λx2=>(Gm [x2] σ).bind λr3=>(Lu .i r3.1 (η 0)).bind λx4=>Γ x4 (Θ σ (l6 [IM,r3.1]) r3.2) ((Ω 1 c1).bind λx5=>(ZJ x5).bind λx6=>(Zp (λv7 s8=>(ZS (ak v7 2) x6).bind λbO=>Γ bO ((Zv 4 x5 (ak v7 2)).bind λbB=>((Ψ bB s8).bind λeu=>p9 0 4 eu).bind λbU=>(Φ 4 bU).bind λoA=>(n4 0 oA [(η 0),aV,(η 0),(η 0)]).bind λiU=>((Zm (ak v7 0)).bind λ_=>δ (0)).bind λp16=>((Zm (ak v7 0)).bind λiE=>Ω p16 iE).bind λcU=>(Ω 1 iU).bind λcE=>(Gp [cU,cE] s8).bind λcY=>(j0 0 cY.1).bind λbK=>(j0 1 cY.1).bind λbV=>(Φ 3 bK).bind λlM=>(n4 0 lM [aV,(η 0),IM]).bind λgp=>(Ω 2 gp).bind λdQ=>(ZJ dQ).bind λdS=>(Zp (λqX Q2=>(ZS (ak qX 3) dS).bind λeD=>Γ eD ((Zv 7 dQ (ak qX 3)).bind λgS=>((Ψ gS Q2).bind λE1=>p9 0 7 E1).bind λeL=>(Φ 7 eL).bind λP3=>(n4 0 P3 [aV,(η 0),(η 0),(η 0),(η 0),aC,IM]).bind λoB=>((Zm (ak qX 2)).bind λ_=>δ (0)).bind λp36=>((Zm (ak qX 2)).bind λvH=>Ω p36 vH).bind λfM=>(Ω 0 oB).bind λey=>((((n8 fM).bind λv=>δ [v]).bind λB2=>(n4 0 B2 [(η 0),aV]).bind λsy=>((n8 ey).bind λv=>δ [v]).bind λqM=>(n4 1 qM sy).bind λvI=>δ vI).bind λcs=>δ (l7 cs)).bind λgu=>(((Φ 2 gu).bind λvJ=>(n4 0 vJ [(η 0),aV]).bind λE3=>δ E3).bind λcs=>δ (U.sl 2 (iO 2 1 cs))).bind λiZ=>(SI 2 (140737488355328 / 24) (ak qX 1) iZ Q2).bind λwm=>(u9 (ak qX 3) (η 1)).bind λjv=>δ (y9,[(ak qX 0),wm.1,(ak qX 2),jv],wm.2)) (δ (i6 2,[(ak qX 0),(ak qX 1),(ak qX 2),(ak qX 3)],Q2))) [(ak v7 0),(ak v7 1),(Z3 iU),(η 0)] cY.2).bind λJC=>bif JC.1==i6 2 then((u9 (ak v7 2) (η 1)).bind λjc=>δ (y9,[(ak JC.2.1 0),(ak JC.2.1 1),jc],JC.2.2))else μ) (δ (i6 0,[(ak v7 0),(ak v7 1),(ak v7 2)],s8))) [(Z3 c1),IM,(η 0)] r3.2).bind λQW=>bif QW.1==i6 0 then(Θ σ (l6 [(ak QW.2.1 1),(η 0)]) QW.2.2)else μ)
def Gx:ay->Heap->aL:=l9 ι [(.a [(.s 3),(.s 4)])] (.t [(.s 2),.k]) (Tu Cw)
end
section
def Kl (a0:U) (σ:Heap):aL:=(Φ 2 a0).bind λc1=>(Ω 0 c1).bind λx2=>(jd [x2,(η 1),(η 6)] σ).bind λr3=>(Zo r3.1).bind λx4=>Γ x4 (Θ σ (η 4) r3.2) ((Ω 1 c1).bind λx5=>(Ω 0 c1).bind λx6=>(Lu .i x6 (η 6)).bind λx7=>Γ x7 ((ZJ x5).bind λx8=>(ZR x8 (η 0)).bind λx9=>(AY [x9,(η 3)] r3.2).bind λbG=>Θ σ bG.1 bG.2) ((ZJ x5).bind λbB=>(ZS bB (η 2)).bind λbP=>Γ bP (Θ σ (η 8) r3.2) ((ZJ x5).bind λbU=>(ZR bU (η 20)).bind λcr=>Γ cr (Θ σ (η 2) r3.2) ((ZJ x5).bind λct=>(Zp (λgd Ab=>(ZS (ak gd 1) ct).bind λcE=>Γ cE ((Zv 2 x5 (ak gd 1)).bind λcK=>((Ψ cK Ab).bind λsu=>p9 0 2 su).bind λbV=>(Φ 2 bV).bind λlM=>(n4 0 lM [(η 0),(η 0)]).bind λgp=>(Ω 0 gp).bind λdQ=>(jd [dQ,(η 0),(η 1000)] Ab).bind λgR=>(Zo gR.1).bind λcZ=>(θ cZ ε (Ω 1 gp) aq).bind λfH=>(θ cZ ε (Zf (jd [fH,(η 0),(η 1000)] gR.2) gR.2) aq).bind λeU=>(θ cZ ε (Zo eU) aq).bind λeD=>(ir cZ bH eD).bind λgS=>Γ gS (δ (l8,[(η 1),(ak gd 1)],gR.2)) ((u9 (ak gd 1) (η 1)).bind λgF=>δ (y9,[(ak gd 0),gF],gR.2))) (δ (i6 0,[(ak gd 0),(ak gd 1)],Ab))) [(η 0),(η 0)] r3.2).bind λpe=>bif pe.1==i6 0 then((Zv 2 x5 (η 0)).bind λeM=>((Ψ eM pe.2.2).bind λoB=>p9 0 2 oB).bind λgB=>(Lu (.s [0,0]) gB (l7 [(η 0),(η 0)])).bind λdU=>(θ dU ε (δ x5) aq).bind λfM=>(θ dU ε (δ x5) aq).bind λey=>(θ dU ε (ZJ ey) aq).bind λfk=>(θ dU ε (Uw fk (η 1)) aq).bind λfu=>(θ dU ε (Zv 2 fM fu) aq).bind λia=>(θ dU ε ((Ψ ia pe.2.2).bind λvI=>p9 0 2 vI) aq).bind λgu=>(θ dU ε ((((n8 (η 1000)).bind λv=>δ [v]).bind λvJ=>(n4 0 vJ [(η 0),(η 0)]).bind λE3=>((n8 (η 1000)).bind λv=>δ [v]).bind λsA=>(n4 1 sA E3).bind λvK=>δ vK).bind λcs=>δ (l7 cs)) aq).bind λjv=>(θ dU ε (Lu (.s [0,0]) gu jv) aq).bind λjx=>(ir dU bH jx).bind λjc=>Γ jc (Θ σ (η 3) pe.2.2) ((Zp (λuy Ac=>(ZJ x5).bind λkC=>(ZS (ak uy 1) kC).bind λjy=>Γ jy ((Zv 2 x5 (ak uy 1)).bind λjz=>(YK 0 jz).bind λnL=>((Ψ nL Ac).bind λvL=>Ω 0 vL).bind λmH=>(Uw (ak uy 1) (η 1)).bind λsO=>(Zv 2 x5 sO).bind λmI=>(YK 0 mI).bind λjV=>((Ψ jV Ac).bind λvM=>Ω 0 vM).bind λsP=>(A.leq mH sP).bind λjA=>(θ jA ε (δ x5) aq).bind λwz=>(θ jA ε (δ (ak uy 1)) aq).bind λsQ=>(θ jA ε (Zv 2 wz sQ) aq).bind λF3=>(θ jA ε (YK 1 F3) aq).bind λF4=>(θ jA ε ((Ψ F4 Ac).bind λvN=>Ω 0 vN) aq).bind λAi=>(θ jA ε (δ x5) aq).bind λAj=>(θ jA ε (δ (ak uy 1)) aq).bind λwA=>(θ jA ε (Uw wA (η 1)) aq).bind λpI=>(θ jA ε (Zv 2 Aj pI) aq).bind λnN=>(θ jA ε (YK 1 nN) aq).bind λwB=>(θ jA ε ((Ψ wB Ac).bind λQc=>Ω 0 Qc) aq).bind λF5=>(θ jA ε (ZS Ai F5) aq).bind λqA=>(ir jA bH qA).bind λwC=>Γ wC (δ (l8,[(η 7),(ak uy 1)],Ac)) ((u9 (ak uy 1) (η 1)).bind λRe=>δ (y9,[(ak uy 0),Re],Ac))) (δ (i6 2,[(ak uy 0),(ak uy 1)],Ac))) [(ak pe.2.1 0),(η 1)] pe.2.2).bind λFR=>bif FR.1==i6 2 then(Θ σ (η 0) FR.2.2)else bif FR.1==l8 then(Θ σ (ak FR.2.1 0) FR.2.2)else μ))else bif pe.1==l8 then(Θ σ (ak pe.2.1 0) pe.2.2)else μ))))
def Ax:ay->Heap->aL:=l9 ι [(.a [.k,(.s 2)])] .k (Tu Kl)
def KC (a0:U) (σ:Heap):aL:=(jd [a0,(η 0),(η 65535)] σ).bind λr1=>Θ σ r1.1 r1.2
def Gu:ay->Heap->aL:=l9 ι [] .k (Tu KC)
def KK (a0:U) (σ:Heap):aL:=(jd [a0,(η 0),(η 36000000)] σ).bind λr1=>Θ σ r1.1 r1.2
def KG:ay->Heap->aL:=l9 ι [] .k (Tu KK)
def Kg (a0:U) (σ:Heap):aL:=(p4 .i a0 (η 0)).bind λx1=>Γ x1 (Θ σ aV σ) ((u9 (η 1000) a0).bind λx2=>(nQ [x2] σ).bind λr3=>(A.oN r3.1 (δ (η 1)) μ).bind λx4=>(Av [x4,(ψ ⟨#[48]⟩)] r3.2).bind λr5=>(u9 (ψ ⟨#[46]⟩) r5.1).bind λx6=>Θ σ x6 r5.2)
def Kf:ay->Heap->aL:=l9 ι [] .k (Tu Kg)
def Kz (a0:U) (σ:Heap):aL:=(KG [a0] σ).bind λr1=>(Zo r1.1).bind λx2=>Γ x2 (Θ σ (l6 [aV,(η 1)]) r1.2) ((A.quo a0 (η 1000)).bind λx3=>(A.rem a0 (η 1000)).bind λx4=>(Kf [x4] r1.2).bind λr5=>(ZS x3 (η 60)).bind λx6=>Γ x6 ((nQ [x3] r5.2).bind λr7=>(u9 r7.1 r5.1).bind λx8=>Θ σ (l6 [x8,(η 0)]) r7.2) ((A.quo x3 (η 60)).bind λx9=>(nQ [x9] r5.2).bind λbG=>(u9 bG.1 (ψ ⟨#[58]⟩)).bind λbB=>(A.rem x3 (η 60)).bind λbP=>(u9 (η 100) bP).bind λbU=>(nQ [bU] bG.2).bind λeJ=>(A.oN eJ.1 (δ (η 1)) μ).bind λct=>(u9 bB ct).bind λcq=>(u9 cq r5.1).bind λdw=>Θ σ (l6 [dw,(η 0)]) eJ.2))
def Ku:ay->Heap->aL:=l9 ι [] .k (Tu Kz)
def Kr (a0:U) (σ:Heap):aL:=(p4 .i a0 (η 1)).bind λx1=>Γ x1 (Θ σ (ψ ⟨#[108,105,110,101,97,114]⟩) σ) ((p4 .i a0 (η 2)).bind λx2=>Γ x2 (Θ σ (ψ ⟨#[115,108,111,119]⟩) σ) ((p4 .i a0 (η 3)).bind λx3=>Γ x3 (Θ σ (ψ ⟨#[102,97,115,116]⟩) σ) ((p4 .i a0 (η 4)).bind λx4=>Γ x4 (Θ σ (ψ ⟨#[115,111,102,116]⟩) σ) ((p4 .i a0 (η 5)).bind λx5=>Γ x5 (Θ σ (ψ ⟨#[115,116,101,112]⟩) σ) (Θ σ (ψ ⟨#[116,97,98,108,101]⟩) σ)))))
def Cu:ay->Heap->aL:=l9 ι [] .k (Tu Kr)
def Kp (a0:U) (σ:Heap):aL:=(Φ 2 a0).bind λc1=>(p9 0 2 c1).bind λx2=>(Ax [x2] σ).bind λr3=>(Lu .i r3.1 (η 0)).bind λx4=>Γ x4 (Θ σ (l6 [aV,r3.1]) r3.2) ((Ω 0 c1).bind λx5=>(Cu [x5] r3.2).bind λr6=>(Ω 1 c1).bind λx7=>(ZJ x7).bind λx8=>(Zp (λv9 zZ=>(ZS (ak v9 1) x8).bind λbP=>Γ bP ((Zv 2 x7 (ak v9 1)).bind λbU=>((Ψ bU zZ).bind λoA=>p9 0 2 oA).bind λct=>(Φ 2 ct).bind λjm=>(n4 0 jm [(η 0),(η 0)]).bind λiE=>(Ω 0 iE).bind λcU=>(Zf (nQ [cU] zZ) zZ).bind λcE=>(u9 (ψ ⟨#[32]⟩) cE).bind λcK=>(u9 cK (ψ ⟨#[58]⟩)).bind λbK=>(Ω 1 iE).bind λbV=>(Zf (nQ [bV] zZ) zZ).bind λcQ=>(u9 bK cQ).bind λdM=>(u9 (ak v9 0) dM).bind λdQ=>(u9 (ak v9 1) (η 1)).bind λdS=>δ (y9,[dQ,dS],zZ)) (δ (i6 0,[(ak v9 0),(ak v9 1)],zZ))) [r6.1,(η 0)] r6.2).bind λnG=>bif nG.1==i6 0 then(Θ σ (l6 [(ak nG.2.1 0),(η 0)]) nG.2.2)else μ)
def Kn:ay->Heap->aL:=l9 ι [(.a [.k,(.s 2)])] .k (Tu Kp)
def Le (a0:U) (σ:Heap):aL:=(Gu [a0] σ).bind λr1=>(Zo r1.1).bind λx2=>Γ x2 (Θ σ (l6 [aV,(η 1)]) r1.2) ((p4 .i a0 (η 0)).bind λx3=>Γ x3 (Θ σ (l6 [(ψ ⟨#[111,117,116]⟩),(η 0)]) r1.2) ((p4 .i a0 (η 65535)).bind λx4=>Γ x4 (Θ σ (l6 [(ψ ⟨#[102,117,108,108]⟩),(η 0)]) r1.2) ((A.mul (η 100) a0).bind λx5=>(CC [x5,(η 65535)] r1.2).bind λr6=>(A.mul r6.1 (η 65535)).bind λx7=>(CC [x7,(η 100)] r6.2).bind λr8=>(p4 .i r8.1 a0).bind λx9=>Γ x9 ((nQ [r6.1] r8.2).bind λbG=>(u9 bG.1 (ψ ⟨#[37]⟩)).bind λbB=>Θ σ (l6 [bB,(η 0)]) bG.2) ((nQ [a0] r8.2).bind λfG=>(u9 (ψ ⟨#[35]⟩) fG.1).bind λbU=>Θ σ (l6 [bU,(η 0)]) fG.2))))
def K5:ay->Heap->aL:=l9 ι [] .k (Tu Le)
def KB (a0 a1:U) (σ:Heap):aL:=(qB [a0,(ψ ⟨#[46]⟩)] σ).bind λr1=>(j0 0 r1.1).bind λx2=>(j0 1 r1.1).bind λx3=>(j0 2 r1.1).bind λx4=>(wL [x2] r1.2).bind λr5=>(j0 0 r5.1).bind λx6=>(j0 1 r5.1).bind λx7=>(Zo x7).bind λx8=>(θ x8 ε (δ x4) aq).bind λx9=>(θ x8 ε (δ x9) aq).bind λbO=>(θ bO ι (δ x3) aq).bind λbB=>(θ bO ι (Zf (AK [bB] r5.2) r5.2) aq).bind λbP=>(θ bO ι (Zo bP) aq).bind λbU=>(θ bO ι (δ bU) aq).bind λcr=>(θ cr ε (δ x3) aq).bind λct=>(θ cr ε (A.gX ct) aq).bind λcq=>(θ cr ε (δ a1) aq).bind λdw=>(θ cr ε (ZR cq dw) aq).bind λcU=>(θ bO ι (ir cr bH cU) aq).bind λcE=>(θ bO ι (δ cE) aq).bind λcK=>(θ cK ε (δ x3) aq).bind λbK=>(θ cK ε (δ x3) aq).bind λbV=>(θ cK ε (A.gX bV) aq).bind λcQ=>(θ cK ε (Uw cQ (η 1)) aq).bind λdM=>(θ cK ε (A.kJ bK dM) aq).bind λdQ=>(θ cK ε (p4 .i dQ (Ru .u8 48)) aq).bind λdS=>(θ bO ι (ir cK bH dS) aq).bind λcZ=>(θ x8 ε (ir bO cZ aC) aq).bind λfH=>(ir x8 bH fH).bind λeU=>Γ eU (Θ σ (l6 [(η 0),aC]) r5.2) ((Zp (λv30 Q4=>(ZS (ak v30 1) a1).bind λeL=>Γ eL ((A.mul (ak v30 0) (η 10)).bind λeM=>(A.gX x3).bind λcI=>(ZS (ak v30 1) cI).bind λgB=>(Γ gB ((A.kJ x3 (ak v30 1)).bind λfM=>(Uw fM (Ru .u8 48)).bind λey=>(A.conv ξ ey).bind λfk=>(u9 eM fk).bind λfu=>δ ([fu],Q4)) (δ ([eM],Q4))).bind λjS=>(u9 (ak v30 1) (η 1)).bind λia=>δ (y9,[(ak jS.1 0),ia],jS.2)) (δ (i6 0,[(ak v30 0),(ak v30 1)],Q4))) [x6,(η 0)] r5.2).bind λjT=>bif jT.1==i6 0 then(Θ σ (l6 [(ak jT.2.1 0),bH]) jT.2.2)else μ)
def AE:ay->Heap->aL:=l9 ι [] .k (Sv KB)
def Ld (a0:U) (σ:Heap):aL:=(p4 .z a0 (ψ ⟨#[111,117,116]⟩)).bind λx1=>Γ x1 (Θ σ (l6 [(η 0),(η 0)]) σ) ((p4 .z a0 (ψ ⟨#[102,117,108,108]⟩)).bind λx2=>Γ x2 (Θ σ (l6 [(η 65535),(η 0)]) σ) ((Gl [a0,(ψ ⟨#[35]⟩)] σ).bind λr3=>(j0 0 r3.1).bind λx4=>(j0 1 r3.1).bind λx5=>Γ x5 ((wL [x4] r3.2).bind λr6=>(j0 0 r6.1).bind λx7=>(j0 1 r6.1).bind λx8=>(Zo x8).bind λx9=>(θ x9 ε (δ x7) aq).bind λbO=>(θ x9 ε (Zf (Gu [bO] r6.2) r6.2) aq).bind λbB=>(θ x9 ε (Zo bB) aq).bind λbP=>(ir x9 bH bP).bind λbU=>Γ bU (Θ σ (l6 [(η 0),(η 9)]) r6.2) (Θ σ (l6 [x7,(η 0)]) r6.2)) ((Au [a0,(ψ ⟨#[37]⟩)] r3.2).bind λeJ=>(j0 0 eJ.1).bind λct=>(j0 1 eJ.1).bind λcq=>(AE [ct,(η 2)] eJ.2).bind λnF=>(j0 0 nF.1).bind λcU=>(j0 1 nF.1).bind λcE=>(Zo cq).bind λcK=>(θ cK ε (δ cE) aq).bind λbK=>(θ cK ε (Zo bK) aq).bind λbV=>(ir cK bH bV).bind λcQ=>(θ cQ ε (δ cU) aq).bind λdM=>(θ cQ ε (ZR dM (η 10000)) aq).bind λdQ=>(ir cQ bH dQ).bind λdS=>Γ dS (Θ σ (l6 [(η 0),(η 9)]) nF.2) ((A.mul cU (η 65535)).bind λcZ=>(CC [cZ,(η 10000)] nF.2).bind λjt=>Θ σ (l6 [jt.1,(η 0)]) jt.2))))
def K4:ay->Heap->aL:=l9 ι [] .k (Tu Ld)
def Ky (a0:U) (σ:Heap):aL:=(qB [a0,(ψ ⟨#[58]⟩)] σ).bind λr1=>(j0 0 r1.1).bind λx2=>(j0 1 r1.1).bind λx3=>(j0 2 r1.1).bind λx4=>(Zo x4).bind λx5=>Γ x5 ((AE [a0,(η 3)] r1.2).bind λr6=>(j0 0 r6.1).bind λx7=>(j0 1 r6.1).bind λx8=>(Zo x8).bind λx9=>(θ x9 ε (δ x7) aq).bind λbO=>(θ x9 ε (ZR bO (η 59999)) aq).bind λbB=>(ir x9 bH bB).bind λbP=>Γ bP (Θ σ (l6 [(η 0),(η 9)]) r6.2) (Θ σ (l6 [x7,(η 0)]) r6.2)) ((AF [x2,(η 4)] r1.2).bind λfW=>(j0 0 fW.1).bind λcr=>(j0 1 fW.1).bind λct=>(qB [x3,(ψ ⟨#[46]⟩)] fW.2).bind λuu=>(j0 0 uu.1).bind λdw=>(j0 1 uu.1).bind λcU=>(j0 2 uu.1).bind λcE=>(Zo ct).bind λcK=>(θ cK ε (δ cr) aq).bind λbK=>(θ cK ε (p4 .i bK (η 0)) aq).bind λbV=>(ir cK bH bV).bind λcQ=>(θ cQ ε (δ dw) aq).bind λdM=>(θ cQ ε (A.gX dM) aq).bind λdQ=>(θ cQ ε (Lu .i dQ (η 2)) aq).bind λdS=>(ir cQ bH dS).bind λcZ=>(θ cZ ε (δ dw) aq).bind λfH=>(θ cZ ε (Zf (AK [fH] uu.2) uu.2) aq).bind λeU=>(θ cZ ε (Zo eU) aq).bind λeD=>(ir cZ bH eD).bind λgS=>Γ gS (Θ σ (l6 [(η 0),(η 9)]) uu.2) ((Kc [x3,(ψ ⟨#[48]⟩)] uu.2).bind λr32=>(AE [r32.1,(η 3)] r32.2).bind λpe=>(j0 0 pe.1).bind λeM=>(j0 1 pe.1).bind λcI=>(p4 .z dw (ψ ⟨#[48,48]⟩)).bind λgB=>(Γ gB ((A.oN x3 (δ (η 1)) μ).bind λfM=>(AE [fM,(η 3)] pe.2).bind λqT=>(j0 0 qT.1).bind λfk=>(j0 1 qT.1).bind λfu=>δ ([fu,fk],qT.2)) (δ ([cI,eM],pe.2))).bind λjS=>(Zo (ak jS.1 0)).bind λia=>(θ ia ε (δ (ak jS.1 1)) aq).bind λgr=>(θ ia ε (ZR gr (η 59999)) aq).bind λgu=>(ir ia bH gu).bind λfX=>(θ fX ε (δ cU) aq).bind λgC=>(θ fX ε (p4 .z gC aV) aq).bind λiZ=>(θ fX ε (δ iZ) aq).bind λlT=>(θ lT ι (δ x3) aq).bind λjv=>(θ lT ι (Zf (Gn [jv,(ψ ⟨#[46]⟩)] jS.2) jS.2) aq).bind λjx=>(θ fX ε (ir lT jx aC) aq).bind λjc=>(ir fX bH jc).bind λgy=>Γ gy (Θ σ (l6 [(η 0),(η 9)]) jS.2) ((A.mul cr (η 60000)).bind λjU=>(u9 (ak jS.1 1) jU).bind λkN=>(ZR kN (η 36000000)).bind λkC=>Γ kC (Θ σ (l6 [(η 0),(η 1)]) jS.2) (Θ σ (l6 [kN,(η 0)]) jS.2))))
def nO:ay->Heap->aL:=l9 ι [] .k (Tu Ky)
def Kq (a0:U) (σ:Heap):aL:=(sU [a0,(ψ ⟨#[32]⟩)] σ).bind λr1=>(Φ 2 (l7 [(η 0),IM])).bind λc2=>(n4 0 c2 [(η 0),IM]).bind λc3=>(Zp (λv4 s5=>(A.leq (ak v4 2) (η 6)).bind λx7=>Γ x7 ((Zf (Cu [(ak v4 2)] s5) s5).bind λx8=>(Zv 1 r1.1 (η 0)).bind λx9=>((Ψ x9 s5).bind λdR=>Ω 0 dR).bind λbB=>(p4 .z x8 bB).bind λbP=>(Γ bP (((Zm (ak v4 1)).bind λ_=>δ (0)).bind λQN=>(Zm (ak v4 1)).bind λiE=>((n8 (ak v4 2)).bind λv=>δ [v]).bind λiU=>(n4 QN iU iE).bind λjm=>δ ([(ak v4 0),(Z3 jm)],s5)) (δ ([(ak v4 0),(ak v4 1)],s5))).bind λfW=>(u9 (ak v4 2) (η 1)).bind λcU=>δ (y9,[(ak fW.1 0),(ak fW.1 1),cU],fW.2)) (δ (i6 0,[(ak v4 0),(ak v4 1),(ak v4 2)],s5))) [(Z3 [(η 0),IM]),(Z3 c3),(η 1)] r1.2).bind λkM=>bif kM.1==i6 0 then(((Zm (ak kM.2.1 1)).bind λ_=>δ (0)).bind λp20=>((Zm (ak kM.2.1 1)).bind λsu=>Ω p20 su).bind λbV=>(p4 .i bV (η 0)).bind λcQ=>((Zm (ak kM.2.1 1)).bind λ_=>δ (0)).bind λFN=>(θ cQ ε ((Zm (ak kM.2.1 1)).bind λiV=>Ω FN iV) aq).bind λdS=>(θ cQ ε (Lu .i dS (η 6)) aq).bind λcZ=>(θ cQ ε (δ cZ) aq).bind λfH=>(θ fH ι (δ r1.1) aq).bind λeU=>(θ fH ι (ZJ eU) aq).bind λeD=>(θ fH ι (ZR eD (η 1)) aq).bind λgS=>(θ cQ ε (ir fH gS aC) aq).bind λgF=>(ir cQ bH gF).bind λeL=>Γ eL ((Zm (ak kM.2.1 0)).bind λoC=>(Φ 2 (l7 [(η 0),IM])).bind λP3=>(n4 0 P3 oC).bind λoB=>(p9 0 2 oB).bind λdU=>Θ σ (l6 [dU,(η 9)]) kM.2.2) ((A.gV 1 r1.1 (δ (η 1)) μ kM.2.2).bind λfM=>(ZJ fM).bind λey=>(Zp (λv40 Q6=>(ZS (ak v40 3) ey).bind λgr=>Γ gr ((Zv 1 fM (ak v40 3)).bind λgu=>((Ψ gu Q6).bind λvJ=>Ω 0 vJ).bind λgC=>(Lz [gC,(ψ ⟨#[58]⟩)] Q6).bind λiI=>(j0 0 iI.1).bind λlT=>(j0 1 iI.1).bind λjv=>(j0 2 iI.1).bind λjx=>(Zo jx).bind λjc=>Γ jc ((Zm (ak v40 0)).bind λE5=>(Φ 2 (l7 [(η 0),IM])).bind λzF=>(n4 0 zF E5).bind λP7=>δ (l8,[(Z3 P7),(η 9),(ak v40 2),(ak v40 3)],iI.2)) (((Zm (ak v40 2)).bind λ_=>δ (1)).bind λp55=>((Zm (ak v40 2)).bind λE6=>Ω p55 E6).bind λjz=>((((n8 lT).bind λv=>δ [v]).bind λzG=>(n4 0 zG [(η 0),(η 0)]).bind λvL=>((n8 jv).bind λv=>δ [v]).bind λzH=>(n4 1 zH vL).bind λzI=>δ zI).bind λcs=>δ (l7 cs)).bind λmI=>(((Φ 2 mI).bind λzJ=>(n4 0 zJ [(η 0),(η 0)]).bind λvM=>δ vM).bind λcs=>δ (U.sl 2 (iO 2 1 cs))).bind λsP=>(SI 2 (140737488355328 / 16) jz sP iI.2).bind λwq=>((Zm (ak v40 2)).bind λ_=>δ (1)).bind λp67=>(Zm (ak v40 2)).bind λzM=>((n8 wq.1).bind λv=>δ [v]).bind λE8=>(n4 p67 E8 zM).bind λzL=>(u9 (ak v40 3) (η 1)).bind λCk=>δ (y9,[(ak v40 0),(ak v40 1),(Z3 zL),Ck],wq.2))) (δ (i6 2,[(ak v40 0),(ak v40 1),(ak v40 2),(ak v40 3)],Q6))) [(ak kM.2.1 0),(η 0),(ak kM.2.1 1),(η 0)] kM.2.2).bind λqu=>bif qu.1==i6 2 then(((Zm (ak qu.2.1 2)).bind λzN=>p9 0 2 zN).bind λwA=>(Ax [wA] qu.2.2).bind λJF=>(Lu .i JF.1 (η 0)).bind λnN=>Γ nN ((Zm (ak qu.2.1 0)).bind λQd=>(Φ 2 (l7 [(η 0),IM])).bind λQb=>(n4 0 Qb Qd).bind λQc=>(p9 0 2 Qc).bind λqA=>Θ σ (l6 [qA,JF.1]) JF.2) (((Zm (ak qu.2.1 2)).bind λc81=>p9 0 2 c81).bind λRe=>(Zm (ak qu.2.1 0)).bind λc85=>(Φ 2 Re).bind λc83=>(n4 0 c83 c85).bind λQe=>(p9 0 2 Qe).bind λwD=>Θ σ (l6 [wD,(η 0)]) JF.2))else bif qu.1==l8 then(((Zm (ak qu.2.1 0)).bind λxV=>p9 0 2 xV).bind λAk=>Θ σ (l6 [Ak,(ak qu.2.1 1)]) qu.2.2)else μ))else μ
def wG:ay->Heap->aL:=l9 ι [] (.t [(.a [.k,(.s 2)]),.k]) (Tu Kq)
end
section
def LJ (a0:U) (σ:Heap):aL:=(Φ 2 a0).bind λc1=>(p9 0 2 c1).bind λx2=>(Gx [x2] σ).bind λr3=>(j0 0 r3.1).bind λx4=>(j0 1 r3.1).bind λx5=>(ZJ x4).bind λx6=>(Zp (λv7 s8=>(ZS (ak v7 0) x6).bind λbO=>Γ bO ((Zv 2 x4 (ak v7 0)).bind λbB=>((Ψ bB s8).bind λeu=>p9 0 2 eu).bind λbU=>(Φ 2 bU).bind λoA=>(n4 0 oA [(η 0),aV]).bind λiU=>(p9 0 2 iU).bind λcq=>(A.jk (.s [0,2]) (U.om r3.2.length) cq bH s8).bind λh17=>(u9 (ak v7 0) (η 1)).bind λcU=>δ (y9,[cU],h17)) (δ (i6 0,[(ak v7 0)],s8))) [(η 0)] (r3.2++[Z2 []])).bind λkM=>bif kM.1==i6 0 then(Θ σ (U.om r3.2.length) kM.2.2)else μ
def Ly:ay->Heap->aL:=l9 ι [(.a [(.s 3),(.s 4)])] .k (Tu LJ)
def Lg (a0:U) (σ:Heap):aL:=(p4 .z a0 aV).bind λx1=>(θ x1 ε (δ a0) aq).bind λx2=>(θ x1 ε (Zf (GI [x2] σ) σ) aq).bind λx3=>(ir x1 bH x3).bind λx4=>Θ σ x4 σ
def K7:ay->Heap->aL:=l9 ι [] .k (Tu Lg)
def KL (a0:U) (σ:Heap):aL:=(jd [a0,(η 0),(η 65535)] σ).bind λr1=>Θ σ r1.1 r1.2
def Gz:ay->Heap->aL:=l9 ι [] .k (Tu KL)
def KW (a0 a1:U) (σ:Heap):aL:=(Φ 2 a0).bind λc1=>(Φ 2 a1).bind λc2=>(Ω 0 c1).bind λx3=>(Ω 0 c2).bind λx4=>(Lu .i x3 x4).bind λx5=>Γ x5 ((Ω 0 c1).bind λx6=>(Ω 0 c2).bind λx7=>(ZS x6 x7).bind λx8=>Θ σ x8 σ) ((Ω 1 c1).bind λx9=>(Ω 1 c2).bind λbO=>(Gq [x9,bO] σ).bind λeC=>(ZS eC.1 (η 0)).bind λbP=>Θ σ bP eC.2)
def KT:ay->Heap->aL:=l9 ι [] .k (Sv KW)
def Kh (a0 a1:U) (σ:Heap):aL:=(Φ 2 a0).bind λc1=>(p9 0 2 c1).bind λx2=>(Gm [x2] σ).bind λr3=>(ZJ a1).bind λx4=>(ZR x4 (η 200)).bind λx5=>(AY [x5,(η 2)] r3.2).bind λr6=>((((n8 r3.1).bind λv=>δ [v]).bind λc7=>(n4 0 c7 [(η 0),(η 0)]).bind λc8=>((n8 r6.1).bind λv=>δ [v]).bind λc9=>(n4 1 c9 c8).bind λdR=>δ dR).bind λcs=>δ (U.sl 1 (iO 1 2 cs))).bind λbB=>(CB [bB] r6.2).bind λfG=>(Lu .i fG.1 (η 0)).bind λbU=>Γ bU (Θ σ fG.1 fG.2) ((p9 0 2 c1).bind λcr=>(Ly [cr] fG.2).bind λiN=>(ZJ a1).bind λcq=>(Zp (λlR qW=>(ZS (ak lR 1) cq).bind λcK=>Γ cK ((Zv 3 a1 (ak lR 1)).bind λbK=>((Ψ bK qW).bind λsw=>p9 0 3 sw).bind λcQ=>(Φ 3 cQ).bind λgp=>(n4 0 gp [(η 0),aV,IM]).bind λiV=>(Ω 0 iV).bind λdS=>(jd [dS,(η 1),(η 999)] qW).bind λnG=>(Zo nG.1).bind λfH=>Γ fH (δ (l8,[(η 1),(ak lR 1)],nG.2)) ((ZR (ak lR 1) (η 0)).bind λeU=>(θ eU ι (Ω 0 iV) aq).bind λeD=>(θ eU ι (δ a1) aq).bind λgS=>(θ eU ι (δ (ak lR 1)) aq).bind λgF=>(θ eU ι (Uw gF (η 1)) aq).bind λeL=>(θ eU ι (Zv 3 gS eL) aq).bind λeM=>(θ eU ι (YK 0 eM) aq).bind λcI=>(θ eU ι ((Ψ cI nG.2).bind λoC=>Ω 0 oC) aq).bind λdU=>(θ eU ι (A.leq eD dU) aq).bind λfM=>(ir eU fM aC).bind λey=>Γ ey (δ (l8,[(η 7),(ak lR 1)],nG.2)) ((Ω 1 iV).bind λfk=>(K7 [fk] nG.2).bind λkZ=>(Zo kZ.1).bind λia=>Γ ia (δ (l8,[(η 3),(ak lR 1)],kZ.2)) ((Ω 2 iV).bind λgr=>(ZJ gr).bind λgu=>(ZR gu (η 2000)).bind λfX=>Γ fX (δ (l8,[(η 2),(ak lR 1)],kZ.2)) ((Ω 2 iV).bind λgC=>(ZJ gC).bind λiZ=>(Zp (λlS FV=>(ZS (ak lS 2) iZ).bind λjc=>Γ jc ((Zv 3 gC (ak lS 2)).bind λgy=>((Ψ gy FV).bind λP7=>p9 0 3 P7).bind λkN=>(Φ 3 kN).bind λP8=>(n4 0 P8 [(η 0),aV,(η 0)]).bind λE6=>(p9 0 2 E6).bind λjz=>(Zl (.s [0,2]) iN.1 jz aC FV).bind λnL=>(Zo nL).bind λnM=>Γ nM (δ (l8,[(η 8),(ak lS 1),(ak lS 2)],FV)) ((Ω 2 E6).bind λmH=>(Gz [mH] FV).bind λmE=>(Zo mE.1).bind λmI=>Γ mI (δ (l8,[(η 1),(ak lS 1),(ak lS 2)],mE.2)) ((ZR (ak lS 2) (η 0)).bind λjV=>((Zm (ak lS 1)).bind λ_ => δ (2)).bind λQT =>(θ jV ι ((Zm (ak lS 1)).bind λE7=>Ω QT E7) aq).bind λjA=>(θ jV ι (δ (ak lS 2)) aq).bind λwz=>(θ jV ι (Uw wz (η 1)) aq).bind λsQ=>(θ jV ι (Zv 3 jA sQ) aq).bind λF3=>(θ jV ι (YK 0 F3) aq).bind λF4=>(θ jV ι ((Ψ F4 mE.2).bind λvN=>p9 0 2 vN) aq).bind λAi=>(θ jV ι (p9 0 2 E6) aq).bind λAj=>(θ jV ι (Zf (KT [Ai,Aj] mE.2) mE.2) aq).bind λwA=>(θ jV ι (Zo wA) aq).bind λpI=>(ir jV pI aC).bind λnN=>Γ nN (δ (l8,[(η 7),(ak lS 1),(ak lS 2)],mE.2)) ((u9 (ak lS 2) (η 1)).bind λwB=>δ (y9,[(ak lS 0),(ak lS 1),wB],mE.2))))) (δ (i6 3,[(ak lS 0),(ak lS 1),(ak lS 2)],FV))) [(ak lR 0),(Z3 iV),(η 0)] kZ.2).bind λqV=>bif qV.1==i6 3 then((u9 (ak lR 1) (η 1)).bind λF5=>δ (y9,[(ak qV.2.1 0),F5],qV.2.2))else bif qV.1==l8 then(δ (l8,[(ak qV.2.1 0),(ak lR 1)],qV.2.2))else μ))))) (δ (i6 0,[(ak lR 0),(ak lR 1)],qW))) [(η 0),(η 0)] iN.2).bind λFQ=>bif FQ.1==i6 0 then(Θ σ (η 0) FQ.2.2)else bif FQ.1==l8 then(Θ σ (ak FQ.2.1 0) FQ.2.2)else μ)
def Gk:ay->Heap->aL:=l9 ι [(.a [(.s 3),(.s 4)]),(.s 3)] .k (Sv Kh)
def Lf (a0 a1 a2:U) (σ:Heap):aL:=(Φ 2 a1).bind λc1=>(Φ 2 a2).bind λc2=>(Ω 0 c2).bind λx3=>(Lu .i x3 (η 0)).bind λx4=>(θ x4 ι (Ω 1 c2) aq).bind λx5=>(θ x4 ι (Lu .i x5 (η 0)) aq).bind λx6=>(ir x4 x6 aC).bind λx7=>Γ x7 (Θ σ (l6 [(η 0),(η 3)]) σ) ((Ω 0 c2).bind λx8=>(Gz [x8] σ).bind λr9=>(Zo r9.1).bind λbO=>Γ bO (Θ σ (l6 [(η 0),(η 1)]) r9.2) ((Ω 1 c2).bind λbB=>(p4 .i bB (η 0)).bind λbP=>Γ bP ((Ω 0 c2).bind λbU=>Θ σ (l6 [bU,(η 0)]) r9.2) ((ZJ a0).bind λcr=>(Zp (λlg JI=>(ZS (ak lg 4) cr).bind λcU=>Γ cU ((Zv 3 a0 (ak lg 4)).bind λcE=>((Ψ cE JI).bind λzx=>p9 0 3 zx).bind λbK=>(Φ 3 bK).bind λsw=>(n4 0 sw [(η 0),aV,IM]).bind λlM=>(Ω 0 lM).bind λdM=>((Zm (ak lg 1)).bind λ_=>δ (1)).bind λp25=>((Zm (ak lg 1)).bind λsx=>Ω p25 sx).bind λcZ=>(Lu .i dM cZ).bind λfH=>Γ fH ((u9 (ak lg 4) (η 1)).bind λeU=>δ (y9,[(ak lg 0),(ak lg 1),(ak lg 2),(ak lg 3),eU],JI)) ((Ω 2 lM).bind λeD=>(ZJ eD).bind λgS=>(Zp (λqx JK=>(ZS (ak qx 3) gS).bind λcI=>Γ cI ((Zv 3 eD (ak qx 3)).bind λgB=>((Ψ gB JK).bind λvH=>p9 0 3 vH).bind λfM=>(Φ 3 fM).bind λP4=>(n4 0 P4 [(η 0),aV,(η 0)]).bind λB2=>(p9 0 2 B2).bind λfu=>((Zm (ak qx 0)).bind λqM=>p9 0 2 qM).bind λgr=>(p4 (.s [0,2]) fu gr).bind λgu=>Γ gu ((Ω 2 B2).bind λfX=>δ (l8,[(ak qx 0),fX,(η 0),(ak qx 3)],JK)) ((u9 (ak qx 3) (η 1)).bind λgC=>δ (y9,[(ak qx 0),(ak qx 1),(ak qx 2),gC],JK))) (δ (i6 2,[(ak qx 0),(ak qx 1),(ak qx 2),(ak qx 3)],JK))) [(ak lg 0),(ak lg 2),(ak lg 3),(η 0)] JI).bind λiI=>bif iI.1==i6 2 then(δ (i6 0,[(ak iI.2.1 0),U.undef,(ak iI.2.1 1),(ak iI.2.1 2),(ak lg 4)],iI.2.2))else bif iI.1==l8 then(δ (l8,[(ak iI.2.1 0),U.undef,(ak iI.2.1 1),(ak iI.2.1 2),(ak lg 4)],iI.2.2))else μ)) (δ (i6 0,[(ak lg 0),(ak lg 1),(ak lg 2),(ak lg 3),(ak lg 4)],JI))) [(Z3 c1),(Z3 c2),(η 0),(η 0),(η 0)] r9.2).bind λwm=>bif wm.1==i6 0 then(Θ σ (l6 [(η 0),(η 8)]) wm.2.2)else bif wm.1==l8 then(Θ σ (l6 [(ak wm.2.1 2),(ak wm.2.1 3)]) wm.2.2)else μ)))
def K6:ay->Heap->aL:=l9 ι [(.s 3)] .k (A.nA Lf)
end
end
end Go.Proofs.YtngdngjbofohaaaGreatDoor
