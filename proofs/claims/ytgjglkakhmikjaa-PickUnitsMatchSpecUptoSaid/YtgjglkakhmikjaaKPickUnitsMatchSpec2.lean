/- Parts of the proof of PickUnitsMatchSpec, in order. -/
import Derived.Test.YtgjglkakhmikjaaRows
import Derived.KernelRfl
import Derived.Lib.Bytealg
import Derived.Sort.Defs
import Derived.Lib.BitFns
import Derived.Lib.Strings
import Derived.Lib.ItoaNum
import Derived.Test.YtgjglkakhmikjaaKPickUnitsMatchSpec1
namespace Go.Proofs.Ytgjglkakhmikjaa
set_option linter.unusedVariables false
set_option linter.unusedSimpArgs false
set_option linter.unusedSectionVars false
set_option maxRecDepth 1000000
noncomputable section
open A renaming pick->ZM,aZ->ZO,cells->Φ,storeAt->ZX,dL->Uj,lb->Z2,append->ZI,look->ZJ,leq->Wr,aQ->Zv,aS->Zp,cell->ZS,dh->SN,guard->θ,ay->Δ,cond->ξ,add->Zn,bA->X0,dF->Xu,neq->Tn,deref->Γ,aR->Z0,fin->wh,lss->ZN,gtr->Zx,loop->Zo,sub->YR,tab->Z5,eql->Zt,gen->XC,not->ZR,ext->Zl,iter->apH,quiet->Zu
open AV renaming om->V9,np->aqa,op->UX,sl->U0,int->UB,aJ->Zz,aC->ZK,lbx->Z1,agg->Y8,ah->ε
open Go.Sem renaming run_bind->Zm,run->TV,run_pure->ZW
open AX renaming normal->Λ,ret->Ω,exit->φ
open List renaming mem_filterMap->RD,length_nil->Us,getD->RU,range'_succ->aqq,any_eq_true->Xd,mem_filter->Ve,length_cons->ZT,range_eq_range'->TF,length->Ym,contains_iff_mem->apO,mem_cons_self->ZA,nil_append->YU,all_cons->ap8,mem_iff_getElem->Ut,range'->apN,filter_eq_self->apW,length_append->PU,mem_map_of_mem->apV,getElem?_take->Vj,getElem?_take_of_lt->Vp,foldl_cons->Wv,mem_replicate->X5,length_map->Zk,set_comm->Z8,filterMap_cons->ap0,map_congr_left->RO,getElem?_set_ne->ZY,filter_append->XI,replicate->ZB,filter_cons->Sn,getElem?_cons_zero->Y3
open bC renaming nth->aqe
open Go.Lib renaming compareBytes->apJ
open Go.Op renaming operands->ZU
open _root_.Array renaming replicate->U6,toList_append->aqo,all_eq_true_iff_forall_mem->aqb,getElem?_setIfInBounds_ne->Ti,getElem?_toList->ZQ,getD->ap5
open Go.MapKept renaming heap_alloc->ZF
open Bool renaming not_true->YV,not_eq_false'->apC,true_and->ap7,not_eq_true'->apR,and_false->R4,false->ι,false_eq_true->ZD,true->η
open Nat renaming blt->TO,not_lt_zero->ap9,zero_add->Z3
open Option renaming some->δ,getD_some->Sk,isNone_none->apG,getD_none->UG,none->μ
open aN renaming mono->U3
open Prod.mk renaming injEq->ir
open aP renaming box->apF,map->ZH
open Classical renaming choose_spec->SA
open Go.Region renaming wanted->Tm,binds->Rv,ready->WW
open an renaming mono->TK
open AS renaming put->SF
open Go.Call renaming operands->aqL
open IntKind renaming i64->Θ
open Option.some renaming injEq->ψ
open Go.Result renaming andThen_ok->Yl
section
open Go.RowKit
section
variable {X : Fx} {z : Z} {s : AS} {a : Act} {w w' : World} {E : List Pl} {pb : Nat -> Option Nat} {R : Type}
theorem oR{o:Oper}{v:Value}{w':World}{K:Act->World->Prop}{Q:Exit->Act->World->Prop}(h:(execOp a.eval o).run X.P w=.ok (.value v) w')(k:K (a.put o.dst v) w'):o.wp X.P a w K Q:=by unfold Oper.wp;rw[h,Oper.upon_value];exact k
theorem MP{o:Oper}{w':World}{K:Act->World->Prop}{Q:Exit->Act->World->Prop}(h:(execOp a.eval o).run X.P w=.ok .skip w')(k:K (a.put o.dst undef) w'):o.wp X.P a w K Q:=by unfold Oper.wp;rw[h,Oper.upon_skip];exact k
theorem St.undef(h:St X z s a w E pb)(d:Option Nat):St X z (s.put X d (.aJ [])) (a.put d undef) w E pb:=
 h.put d (by simp only[an];exact⟨#[],rfl,by simp [aN]⟩)
theorem vN(hs:cP X)(h:St X z s a w E pb){o:Oper}{k:AS->Option R}{r:R}(hk:((eF X o s μ).bind λv=>k (s.put X o.dst v))=δ r) {K:Act->World->Prop} {Q:Exit->Act->World->Prop}
  (hK:∀s' a' w' E' bJ,St X z s' a' w' E' bJ->k s'=δ r->K a' w'):o.wp X.P a w K Q:=by
 obtain⟨av,h1,h2⟩:=bD.1 hk;exact We hs h (tag:=μ) trivial h1 λv w' E' h3 h4=>hK _ _ _ _ _ (h3.put o.dst h4) h2
theorem af4(h:St X z s a w E pb){q str:Bool}{i:Operand}{dst:Option Nat}{ty:TypeId}{pos:String}{af:Array Edge}{g:Option (Nat×Bool)}{k:AS->Option R}{r:R}
  (hk:(bif q||str then μ else A.yl (ev X s i) s.σ λv σ=>k ((s.heap σ).put X dst v))=δ r) {K:Act->World->Prop} {Q:Exit->Act->World->Prop}
  (hK:∀s' a' w' E' bJ,St X z s' a' w' E' bJ->k s'=δ r->K a' w'):Oper.wp X.P ⟨dst,.next i str,ty,pos,af,g⟩ a w K Q:=by
 cases hq:(q||str)
 ·rw[hq]at hk;simp only[bk]at hk;simp only[mP]at hq;obtain⟨rfl,rfl⟩:=hq;obtain⟨av,σ',v',w',k1,k2,k3,k4⟩:=af5 (ty:=ty) h hk (dB h i);exact oR (w':=w') (by simp [execOp,k2]) (hK _ _ _ _ _ (k3.put dst k4) k1)
 ·rw[hq]at hk;cases hk
theorem abQ(hs:cP X)(h:St X z s a w E pb){d t n:Nat}{ps:Array (Nat×Operand)}{ty:TypeId}{pos:String}{af:Array Edge}{g:Option (Nat×Bool)}{k:AS->Option R}{r:R}
  (hk:((eF X ⟨δ d,.buildSlice t n ps,ty,pos,af,g⟩ s μ).bind λv=>A.ve v λsz es=>k ((s.heap (s.σ++[.arr es.length sz es])).put X (δ d) (.os s.σ.length es.length sz 0 es.length)))=δ r) {K:Act->World->Prop} {Q:Exit->Act->World->Prop}
  (hK:∀s' a' w' E' bJ,St X z s' a' w' E' bJ->k s'=δ r->K a' w'):Oper.wp X.P ⟨δ d,.buildSlice t n ps,ty,pos,af,g⟩ a w K Q:=by
 obtain⟨v,h1,h2⟩:=bD.1 hk;unfold A.ve at h2;split at h2
 ·rename_i sz es;cases hl:(es.length==0)
  ·rw[hl]at h2;simp only[bk]at h2;have hne:0<es.length:=by simp at hl;exact List.length_pos_iff.2 hl
   obtain⟨arr,et,e1,e2,e3,e4,e5⟩:=aap h h1;have hlen:=h.heap.len;simp only[ctx]at hlen;refine oR e1 (hK _ _ _ _ _ ((h.we (.cells arr et) (.arr es.length sz es) ⟨w.heap.size,0,es.length,sz,arr.size⟩ rfl λhx=>?_).put (δ d) (av:=.os s.σ.length es.length sz 0 es.length) ?_) h2)
   ·have hb:=(ZF w (.cells arr et)).1;exact⟨rfl,hne,rfl,e3,⟨arr,et,hb,rfl⟩,by rw[e2];simp,e4 _ hb hx,xP hb e5⟩
   ·simp only[an];refine⟨hne,⟨w.heap.size,0,es.length,sz,arr.size⟩,by show(E++[_])[s.σ.length]? =_;rw[<-hlen];exact yq,bR _,⟨w.heap.size,0,μ⟩,es.length,rfl,bR _,λ_=>⟨rfl,.inr (by simp),by rw[e2];simp⟩⟩
  ·rw[hl]at h2;cases h2
 ·cases h2
theorem anS(hs:cP X)(h:St X z s a w E pb){q:Bool}{o:Oper}{k:AS->Option R}{r:R}(hk:fq X q o s k=δ r){K:Act->World->Prop}{Q:Exit->Act->World->Prop}
  (hK:∀s' a' w' E' bJ,St X z s' a' w' E' bJ->k s'=δ r->K a' w'):o.wp X.P a w K Q:=by
 unfold fq at hk;cases hp:iR X o s μ with
 |some p=>obtain⟨b,rr⟩:=p;rw[hp]at hk;simp only at hk;obtain⟨off,h1,h2⟩:=bD.1 hk;subst h1;obtain⟨n,k1,k2⟩:=Wd h (tag:=μ) trivial hp;exact oR k2 (hK _ _ _ _ _ (h.NZ o.dst (λ_=>⟨n,k1,rfl⟩)) h2)
 |none=>
  rw[hp]at hk;simp only at hk;obtain⟨dst,op,ty,pos,af,g⟩:=o;cases op<;>simp only at hk<;>first|exact af4 h hk hK|exact vN hs h hk hK|skip
  case alloc t=>
   cases dst with
   |none=>cases hk
   |some d=>
    simp only at hk;cases hL:X.L.contains d
    ·rw[hL]at hk;simp only[bk]at hk;cases hO:X.O.contains d
     ·rw[hO]at hk;exact vN hs h hk hK
     ·rw[hO]at hk;simp only[bz]at hk;split at hk
      ·rename_i cs hz;obtain⟨i,v,h1,h2,h3,h4,h5,h6⟩:=uD (w:=w) hz (ctx z w E pb)
       have hrun:(execOp a.eval ⟨δ d,.alloc t,ty,pos,af,g⟩).run X.P w=.ok (.value (.pointer (δ ⟨w.heap.size,0,μ⟩))) (w.alloc (.cells v.cells t)):=by simp [execOp,Instr.alloc,h3,newVar,uz]
       have hst:=h.we (.cells v.cells t) (.box cs) ⟨w.heap.size,0,0,0,0⟩ rfl (λhx=>by
        have hb:(w.alloc (.cells v.cells t)).heap[w.heap.size]? =δ (.cells v.cells t (0,0)):=(ZF w _).1
        exact⟨rfl,⟨_,_,hb,by have:=h5.length;simpa using this.symm⟩,bp.vD hb (U3 hx _ _ h5) h6 (λi hi=>by simp)⟩)
       have hlen:=h.heap.len;simp only[ctx]at hlen;refine oR hrun (hK _ _ _ _ _ (hst.put (δ d) (av:=.op s.σ.length 0) ?_) hk);simp only[an];exact⟨⟨w.heap.size,0,0,0,0⟩,by show(E++[_])[s.σ.length]? =_;rw[<-hlen];exact yq,rfl,rfl⟩
      ·cases hk
    ·rw[hL]at hk;simp only[bz]at hk;split at hk
     ·rename_i cs hz;obtain⟨i,v,h1,h2,h3,h4,h5,h6⟩:=uD (w:=w) hz (ctx z w E pb)
      have hrun:(execOp a.eval ⟨δ d,.alloc t,ty,pos,af,g⟩).run X.P w=.ok (.value (.pointer (δ ⟨w.heap.size,0,μ⟩))) (w.alloc (.cells v.cells t)):=by simp [execOp,Instr.alloc,h3,newVar,uz]
      obtain⟨bJ,hst⟩:=h.nA d hL (vs:=v.cells.toList) t h5 h6;exact oR hrun (hK _ _ _ _ _ (by simpa using hst) hk)
     ·cases hk
  case box t x=>
   cases dst with
   |none=>cases hk
   |some d=>
    simp only at hk;cases hL:X.L.contains d
    ·rw[hL]at hk;simp only[bk]at hk;cases hO:X.O.contains d
     ·rw[hO]at hk;exact vN hs h hk hK
     ·rw[hO]at hk;simp only[bz]at hk;obtain⟨cs,h1,h2⟩:=bD.1 hk;obtain⟨h5,h6,_,_⟩:=BX X h1 (dB h x)
      have hrun:(execOp a.eval ⟨δ d,.box t x,ty,pos,af,g⟩).run X.P w=.ok (.value (.pointer (δ ⟨w.heap.size,0,μ⟩))) (w.alloc (.cells (a.eval x).cells t)):=by simp [execOp,Instr.box,newVar,uz]
      have hst:=h.we (.cells (a.eval x).cells t) (.box cs) ⟨w.heap.size,0,0,0,0⟩ rfl (λhx=>by
       have hb:(w.alloc (.cells (a.eval x).cells t)).heap[w.heap.size]? =δ (.cells (a.eval x).cells t (0,0)):=(ZF w _).1
       exact⟨rfl,⟨_,_,hb,by have:=h5.length;simpa using this.symm⟩,bp.vD hb (U3 hx _ _ h5) h6 (λi hi=>by simp)⟩)
      have hlen:=h.heap.len;simp only[ctx]at hlen;refine oR hrun (hK _ _ _ _ _ (hst.put (δ d) (av:=.op s.σ.length 0) ?_) h2);simp only[an];exact⟨⟨w.heap.size,0,0,0,0⟩,by show(E++[_])[s.σ.length]? =_;rw[<-hlen];exact yq,rfl,rfl⟩
    ·rw[hL]at hk;simp only[bz]at hk;obtain⟨cs,h1,h2⟩:=bD.1 hk;obtain⟨h5,h6,_,_⟩:=BX X h1 (dB h x)
     have hrun:(execOp a.eval ⟨δ d,.box t x,ty,pos,af,g⟩).run X.P w=.ok (.value (.pointer (δ ⟨w.heap.size,0,μ⟩))) (w.alloc (.cells (a.eval x).cells t)):=by simp [execOp,Instr.box,newVar,uz]
     obtain⟨bJ,hst⟩:=h.nA d hL (vs:=(a.eval x).cells.toList) t h5 h6;exact oR hrun (hK _ _ _ _ _ (by simpa using hst) h2)
  case store t x v=>
   split at hk
   ·rename_i b off hp;obtain⟨cs,h1,h2⟩:=bD.1 hk;obtain⟨new,h3,h4⟩:=bD.1 h2;obtain⟨cs',h5,h6⟩:=bD.1 h4;obtain⟨n,k1,k2,k3,k4⟩:=B9 h (tag:=μ) trivial hp h1;obtain⟨r1,r2,r3,d,hd⟩:=BX X h3 (dB h v);obtain⟨arr,bt,j1,j2,j3⟩:=Ub k3;obtain⟨j4,j5⟩:=j2.eR h5 r1;have hrun:=LN (P:=X.P) (t:=t) j1 r3 (RG hd) r2 j5;have hst:=h.ag6 k1 ⟨cs,k4⟩ (t:=bt) j4 (Cr j3 r2);refine MP (w':=_) ?_ (hK _ _ _ _ _ (hst.undef dst) h6);simp only[execOp,k2,Zm];rw[show(Instr.storeAt t (.pointer (δ ⟨n,off,μ⟩)) (a.eval v)).run X.P w=_ from hrun];rfl
   ·obtain⟨new,h3,h4⟩:=bD.1 hk;obtain⟨σ',h5,h6⟩:=bD.1 h4;obtain⟨w',k1,k2⟩:=adt h h3 (dB h v) h5 (dB h x);refine MP (w':=w') ?_ (hK _ _ _ _ _ (k2.undef dst) h6);simp only[execOp,Zm,k1];rfl
  case makeMap t rr=>
   cases rr with
   |some x=>cases hk
   |none=>
    simp only at hk
    have hrun:(execOp a.eval ⟨dst,.makeMap t μ,ty,pos,af,g⟩).run X.P w=.ok (.value (.map (δ w.heap.size))) (w.alloc (.map #[] 0)):=by simp [execOp,Instr.makeMap,newObj,TV]
    have hst:=h.we (.map #[] 0) (.map []) ⟨w.heap.size,0,0,0,0⟩ rfl (λhx=>by
     have hb:(w.alloc (.map #[] 0)).heap[w.heap.size]? =δ (.map #[] 0):=(ZF w _).1
     exact⟨rfl,_,_,hb,oc.empty,rfl⟩)
    have hlen:=h.heap.len;simp only[ctx]at hlen;refine oR hrun (hK _ _ _ _ _ (hst.put dst (av:=.om s.σ.length) ?_) hk);simp only[an];exact⟨⟨w.heap.size,0,0,0,0⟩,by show(E++[_])[s.σ.length]? =_;rw[<-hlen];exact yq,rfl,rfl⟩
  case range t x=>
   split at hk
   ·rename_i kt et hd;obtain⟨es,h1,h2⟩:=bD.1 hk;obtain⟨o,k1,k2⟩:=ae8 h hd h1 (dB h x);have hlen:=h.heap.len;simp only[ctx]at hlen;refine oR (v:=.pointer (δ ⟨w.heap.size,0,μ⟩)) (w':=w.alloc o) (by simp [execOp,k1]) (hK _ _ _ _ _ (k2.put dst (av:=.op s.σ.length 0) ?_) h2);simp only[an];exact⟨⟨w.heap.size,0,0,0,0⟩,by show(E++[_])[s.σ.length]? =_;rw[<-hlen];exact yq,rfl,rfl⟩
   ·cases hk
  case buildSlice t n ps=>
   cases dst with
   |none=>exact vN hs h hk hK
   |some d=>
    simp only at hk;cases hO:X.O.contains d
    ·rw[hO]at hk;exact vN hs h hk hK
    ·rw[hO]at hk;simp only[bz]at hk;exact abQ hs h hk hK
  case mapUpdate t m i v=>
   split at hk
   ·rename_i kt et hd;split at hk
    ·rename_i ek he;obtain⟨σ',h1,h2⟩:=bD.1 hk;obtain⟨w',k1,k2⟩:=af2 h hd he h1 (dB h m) (dB h i) (dB h v);refine MP (w':=w') ?_ (hK _ _ _ _ _ (k2.undef dst) h2);simp only[execOp,Zm,k1];rfl
    ·cases hk
   ·cases hk
  case call c=>
   have hargs:(c.args.map a.eval).toList=c.args.toList.map a.eval:=by simp
   have re:=Co h c.args.toList;split at hk
   ·rename_i hc;split at hk
    ·rename_i t u x y h1 h2;split at hk
     ·rename_i e e' hd hu;split at hk
      ·rename_i i hi;cases dU:mq i
       ·rw[dU]at hk;simp only[bk]at hk;simp only[mq,mP,beq_eq_false_iff_ne]at dU;obtain⟨⟨z1,z2⟩,z3⟩:=dU;cases Qu:i.zero with
        |none=>rw[Qu]at z3;cases z3
        |some zv=>
         rw[Qu]at z3;simp only[mP,bne_eq_false_iff_eq,apC]at z3;obtain⟨z3,z4⟩:=z3;obtain⟨⟨rr,σ'⟩,h3,h4⟩:=bD.1 hk;rw[h2]at re
         have hl:∃v vy,c.args.toList.map a.eval=[v,vy]/\an (ctx z w E pb) x v/\an (ctx z w E pb) y vy:=by
          generalize c.args.toList.map a.eval=vs at *
          simp only[aN]at re;obtain⟨v,_,rfl,r1,u',_,rfl,r2,rfl⟩:=re;exact⟨v,u',rfl,r1,r2⟩
         obtain⟨v,vy,hvs,r1,r2⟩:=hl;have hone:∀x∈zv.cells.toList,cR x=η:=jC.1 z4;obtain⟨n,w',E',k1,k2,k3⟩:=adE (ty:=ty) h hd hu hi Qu z3 z1 z2 hone h3 r1 r2;have h1':c.argTypes=#[t,u]:=by apply mz.1;simpa using h1
         have tW:c.args.map a.eval=#[v,vy]:=by apply mz.1;rw[hargs,hvs]
         have hrun:(execOp a.eval ⟨dst,.call c,ty,pos,af,g⟩).run X.P w=.ok (.value n) w':=by simp only[execOp,resolve,hc,Zm,ZW,Yl,invoke,builtin,tW,h1',k1]
         exact oR hrun (hK _ _ _ _ _ (k2.put dst k3) h4)
       ·rw[dU]at hk;cases hk
      ·cases hk
     ·rename_i e kk hd hu;split at hk
      ·rename_i i zs hi hz;cases dU:mq i
       ·rw[dU]at hk;simp only[bk]at hk;simp only[mq,mP,beq_eq_false_iff_ne]at dU;obtain⟨⟨z1,z2⟩,z3⟩:=dU;obtain⟨i',zv,g1,g2,g3,g4,g5,g6⟩:=uD (w:=w) hz (ctx z w E pb);rw[hi]at g1;injection g1 with g1;subst g1
        rw[g2]at z3;simp only[mP,bne_eq_false_iff_eq,apC]at z3;obtain⟨z3,z4⟩:=z3
        have pe:∀c,aN c zs zv.cells.toList:=λc=>by
         obtain⟨i2,v2,f1,f2,f3,f4,f5,f6⟩:=uD (w:=w) hz c;rw[hi]at f1;injection f1 with f1;subst f1
         rw[g2]at f2;injection f2 with f2;subst f2
         exact f5
        obtain⟨⟨rr,σ'⟩,h3,h4⟩:=bD.1 hk;rw[h2]at re
        have hl:∃v vy,c.args.toList.map a.eval=[v,vy]/\an (ctx z w E pb) x v/\an (ctx z w E pb) y vy:=by
         generalize c.args.toList.map a.eval=vs at *
         simp only[aN]at re;obtain⟨v,_,rfl,r1,u',_,rfl,r2,rfl⟩:=re;exact⟨v,u',rfl,r1,r2⟩
        obtain⟨v,vy,hvs,r1,r2⟩:=hl;obtain⟨n,w',E',k1,k2,k3⟩:=acE (ty:=ty) h hd hu hi g2 z3 z1 z2 pe g6 h3 r1 r2;have h1':c.argTypes=#[t,u]:=by apply mz.1;simpa using h1
        have tW:c.args.map a.eval=#[v,vy]:=by apply mz.1;rw[hargs,hvs]
        have hrun:(execOp a.eval ⟨dst,.call c,ty,pos,af,g⟩).run X.P w=.ok (.value n) w':=by simp only[execOp,resolve,hc,Zm,ZW,Yl,invoke,builtin,tW,h1',k1]
        exact oR hrun (hK _ _ _ _ _ (k2.put dst k3) h4)
       ·rw[dU]at hk;cases hk
      ·cases hk
     ·cases hk
    ·cases hk
   ·rename_i hc;split at hk
    ·rename_i t u x y h1 h2;split at hk
     ·rename_i e e' hd hu;split at hk
      ·rename_i i hi;cases dU:mq i
       ·rw[dU]at hk;simp only[bk]at hk;simp only[mq,mP,beq_eq_false_iff_ne]at dU;obtain⟨⟨z1,z2⟩,z3⟩:=dU;obtain⟨⟨rr,σ'⟩,h3,h4⟩:=bD.1 hk;rw[h2]at re
        have hl:∃v vy,c.args.toList.map a.eval=[v,vy]/\an (ctx z w E pb) x v/\an (ctx z w E pb) y vy:=by
         generalize c.args.toList.map a.eval=vs at *
         simp only[aN]at re;obtain⟨v,_,rfl,r1,u',_,rfl,r2,rfl⟩:=re;exact⟨v,u',rfl,r1,r2⟩
        obtain⟨v,vy,hvs,r1,r2⟩:=hl;obtain⟨n,w',k1,k2,k3⟩:=afB (ty:=ty) h hd hu hi z1 h3 r1 r2;have h1':c.argTypes=#[t,u]:=by apply mz.1;simpa using h1
        have tW:c.args.map a.eval=#[v,vy]:=by apply mz.1;rw[hargs,hvs]
        have hrun:(execOp a.eval ⟨dst,.call c,ty,pos,af,g⟩).run X.P w=.ok (.value n) w':=by simp only[execOp,resolve,hc,Zm,ZW,Yl,invoke,builtin,tW,h1',k1]
        exact oR hrun (hK _ _ _ _ _ (k2.put dst k3) h4)
       ·rw[dU]at hk;cases hk
      ·cases hk
     ·cases hk
    ·cases hk
   ·rename_i hc;cases hv:eF X ⟨dst,.call c,ty,pos,af,g⟩ s μ with
    |some v=>rw[hv]at hk;exact vN hs h (by rw[hv];exact hk) hK
    |none=>
     rw[hv]at hk;simp only[A.uY]at hk;cases q
     ·simp only[bk]at hk;split at hk
      ·rename_i t x h1 h2;split at hk
       ·rename_i e hd;rw[h2]at re
        have hl:∃v,c.args.toList.map a.eval=[v]/\an (ctx z w E pb) x v:=by
         generalize c.args.toList.map a.eval=vs at *
         simp only[aN]at re;obtain⟨v,_,rfl,r1,rfl⟩:=re;exact⟨v,rfl,r1⟩
        obtain⟨v,hvs,r1⟩:=hl;obtain⟨n,σ',k1,k2,k3⟩:=afw (ty:=ty) h hd hk r1;have h1':c.argTypes=#[t]:=by apply mz.1;simpa using h1
        have tW:c.args.map a.eval=#[v]:=by apply mz.1;rw[hargs,hvs]
        have hrun:(execOp a.eval ⟨dst,.call c,ty,pos,af,g⟩).run X.P w=.ok (.value (.int Θ (n:Int))) w:=by simp only[execOp,resolve,hc,Zm,ZW,Yl,invoke,builtin,tW,h1',k2]
        exact oR hrun (hK _ _ _ _ _ (k3.put dst (by simp [an])) k1)
       ·cases hk
      ·cases hk
     ·cases hk
   ·rename_i hc;split at hk
    ·rename_i t x h1 h2;split at hk
     ·rename_i e hd;split at hk
      ·rename_i i zs hi hz;cases dU:mq i
       ·rw[dU]at hk;simp only[bk]at hk;simp only[mq,mP,beq_eq_false_iff_ne]at dU;obtain⟨⟨z1,z2⟩,z3⟩:=dU;obtain⟨i',zv,g1,g2,g3,g4,g5,g6⟩:=uD (w:=w) hz (ctx z w E pb);rw[hi]at g1;injection g1 with g1;subst g1
        rw[g2]at z3;simp only[mP,bne_eq_false_iff_eq,apC]at z3;obtain⟨z3,z4⟩:=z3
        have pe:∀c,aN c zs zv.cells.toList:=λc=>by
         obtain⟨i2,v2,f1,f2,f3,f4,f5,f6⟩:=uD (w:=w) hz c;rw[hi]at f1;injection f1 with f1;subst f1
         rw[g2]at f2;injection f2 with f2;subst f2
         exact f5
        obtain⟨σ',h3,h4⟩:=bD.1 hk;rw[h2]at re
        have hl:∃v,c.args.toList.map a.eval=[v]/\an (ctx z w E pb) x v:=by
         generalize c.args.toList.map a.eval=vs at *
         simp only[aN]at re;obtain⟨v,_,rfl,r1,rfl⟩:=re;exact⟨v,rfl,r1⟩
        obtain⟨v,hvs,r1⟩:=hl;obtain⟨w',k1,k2⟩:=aeJ (ty:=ty) h hd (adC X.P hi g2) z3 z1 pe g6 h3 r1;have h1':c.argTypes=#[t]:=by apply mz.1;simpa using h1
        have tW:c.args.map a.eval=#[v]:=by apply mz.1;rw[hargs,hvs]
        have hrun:(execOp a.eval ⟨dst,.call c,ty,pos,af,g⟩).run X.P w=.ok (.value undef) w':=by simp only[execOp,resolve,hc,Zm,ZW,Yl,invoke,builtin,tW,h1',k1];rfl
        exact oR hrun (hK _ _ _ _ _ (k2.undef dst) h4)
       ·rw[dU]at hk;cases hk
      ·cases hk
     ·cases hk
    ·cases hk
   ·rename_i hc;split at hk
    ·rename_i t u m key h1 h2;split at hk
     ·rename_i kt et hd;split at hk
      ·rename_i ek he;obtain⟨σ',h3,h4⟩:=bD.1 hk;rw[h2]at re
       have hl:∃v vy,c.args.toList.map a.eval=[v,vy]/\an (ctx z w E pb) m v/\an (ctx z w E pb) key vy:=by
        generalize c.args.toList.map a.eval=vs at *
        simp only[aN]at re;obtain⟨v,_,rfl,r1,u',_,rfl,r2,rfl⟩:=re;exact⟨v,u',rfl,r1,r2⟩
       obtain⟨v,vy,hvs,r1,r2⟩:=hl;obtain⟨w',k1,k2⟩:=af0 (u:=u) (ty:=ty) h hd he h3 r1 r2;have h1':c.argTypes=#[t,u]:=by apply mz.1;simpa using h1
       have tW:c.args.map a.eval=#[v,vy]:=by apply mz.1;rw[hargs,hvs]
       have hrun:(execOp a.eval ⟨dst,.call c,ty,pos,af,g⟩).run X.P w=.ok (.value undef) w':=by simp only[execOp,resolve,hc,Zm,ZW,Yl,invoke,builtin,tW,h1',k1];rfl
       exact oR hrun (hK _ _ _ _ _ (k2.undef dst) h4)
      ·cases hk
     ·cases hk
    ·cases hk
   ·exact vN hs h hk hK
   ·rename_i f hc;cases hq:(q&&!X.W.contains f)
    ·rw[hq]at hk;simp only[bk]at hk;obtain⟨⟨rr,σ'⟩,h3,h4⟩:=bD.1 hk;exact Es h (hs.call _ _ _ _ _ h3) (by rw[hargs];exact re) (RA hc) (λv w' E' h1 h2=>hK _ _ _ _ _ (h1.put dst h2) h4)
    ·rw[hq]at hk;simp only[bz]at hk;exact vN hs h hk hK
   ·rename_i x hnf hc;cases q
    ·simp only[bk]at hk;obtain⟨⟨rr,σ'⟩,h3,h4⟩:=bD.1 hk;have rx:=dB h x;generalize ev X s x=vx at *
     cases vx<;>simp only[A.nC]at h3<;>first|(cases h3;done)|skip
     rename_i fn0 EI;simp only[an]at rx;obtain⟨f,cs,e1,e2,e3⟩:=rx;rw[<-e2]at h3;have xe:X.dyn (X.nm.getD f 0) (c.args.toList.map (ev X s)++EI) s.σ=δ (rr,σ'):=by rw[h.nm];exact h3
     exact Es h (hs.dyn _ _ _ _ _ xe) (vs:=c.args.map a.eval++cs) (by rw[aqo,hargs];exact re.append e3) (KI hc e1) (λv w' E' h1 h2=>hK _ _ _ _ _ (h1.put dst h2) h4)
    ·simp only[bz]at hk;exact vN hs h hk hK
   ·cases hk
end
end
section
structure Up where
 d:Option Nat
 v:AV
 bx:Option (Nat×AV)
 new:Option rK
 tC:Bool
 σ:Option Heap
def oz(tC:Bool)(d:Nat)(a:Option rK):Option rK:=match nr d a with|some p=>bif tC&&p.slot==d then μ else δ p|none=>μ
def Up.sl(u:Up)(l:List AV):List AV:=match u.d with
 |some d=>(match u.bx with|some (b,x)=>l.set b x|none=>l).set d u.v
 |none=>(match u.bx with|some (b,x)=>l.set b x|none=>l)
def Up.A(u:Up)(A:Nat->Option rK)(t:Nat):Option rK:=match u.d with|none=>A t|some d=>bif t==d then u.new else oz u.tC d (A t)
def Up.ap(u:Up)(s:AS):AS:=⟨u.sl s.sl,u.A s.A,u.σ.getD s.σ⟩
theorem DY(d:Nat)(a:Option rK):oz ι d a=nr d a:=by unfold oz;cases nr d a<;>rfl
theorem LX(i:Bool)(d:Nat)(a:Option rK):oz i d a=a\/oz i d a=μ:=by
 cases a with
 |none=>left;rfl
 |some p=>
  unfold oz;cases hk:nr d (δ p)with
  |none=>right;rfl
  |some q=>
   simp only
   have:q=p:=by
    simp only[nr]at hk;cases ht:p.tag with
    |none=>rw[ht]at hk;simpa using hk.symm
    |some g=>
     obtain⟨g,w⟩:=g;rw[ht]at hk;simp only at hk;cases hg:(g==d)
     ·rw[hg]at hk;simpa using hk.symm
     ·rw[hg]at hk;cases hk
   subst this;cases hb:(i&&q.slot==d)
   ·left;rfl
   ·right;rfl
theorem HJ(i:Bool)(d:Nat):oz i d μ=μ:=rfl
theorem adV(i j:Bool)(d e:Nat)(a:Option rK):oz i d (oz j e a)=oz j e (oz i d a):=by
 rcases LX i d a with h1|h1<;>rcases LX j e a with h2|h2
 ·rw[h2,h1,h2]
 ·rw[h2,HJ,h1,h2]
 ·rw[h2,h1,HJ]
 ·rw[h2,HJ,h1,HJ]
structure Up.aoE (x y : Up) : Prop where
 d:∀d,x.d=δ d->y.d≠δ d
 bx:∀b v,x.bx=δ (b,v)->(∀c w,y.bx=δ (c,w)->c≠b)/\y.d≠δ b
 aol:∀b v,y.bx=δ (b,v)->(∀c w,x.bx=δ (c,w)->c≠b)/\x.d≠δ b
 nx:∀d,y.d=δ d->oz y.tC d x.new=x.new
 ny:∀d,x.d=δ d->oz x.tC d y.new=y.new
 σ:x.σ=μ\/y.σ=μ
theorem Up.comm{x y:Up}(h:x.aoE y)(s:AS):x.ap (y.ap s)=y.ap (x.ap s):=by
 obtain⟨hd,sN,hby,Qj,hny,eD⟩:=h;unfold Up.ap;congr 1
 ·show x.sl (y.sl s.sl)=y.sl (x.sl s.sl);generalize s.sl=l;obtain⟨xd,xv,xb,xn,xi,xs⟩:=x;obtain⟨yd,yv,yb,yn,yi,ys⟩:=y;simp only at hd sN hby;cases xb with
  |none=>
   cases yb with
   |none=>
    cases xd with
    |none=>cases yd<;>simp [Up.sl]
    |some dx=>cases yd with
     |none=>simp [Up.sl]
     |some dy=>simp only[Up.sl];rw[Z8];intro e;exact hd dx rfl (by rw[e])
   |some bv=>
    obtain⟨b,v⟩:=bv;obtain⟨_,hb⟩:=hby b v rfl;cases xd with
    |none=>cases yd<;>simp [Up.sl]
    |some dx=>
     have hne:dx≠b:=λe=>hb (by rw[e])
     cases yd with
     |none=>simp only[Up.sl];rw[Z8 _ _ (λe=>hne e.symm)]
     |some dy=>
      have qL:dx≠dy:=λe=>hd dx rfl (by rw[e])
      simp only[Up.sl];rw[Z8 _ _ (λe=>qL e.symm),Z8 _ _ (λe=>hne e.symm)]
  |some bv=>
   obtain⟨b,v⟩:=bv;obtain⟨Gf,hb⟩:=sN b v rfl;cases yb with
   |none=>
    cases yd with
    |none=>cases xd<;>simp [Up.sl]
    |some dy=>
     have hne:dy≠b:=λe=>hb (by rw[e])
     cases xd with
     |none=>simp only[Up.sl];rw[Z8 _ _ hne]
     |some dx=>
      have qL:dx≠dy:=λe=>hd dx rfl (by rw[e])
      simp only[Up.sl];rw[Z8 _ _ hne,Z8 _ _ (λe=>qL e.symm)]
   |some cw=>
    obtain⟨c,u⟩:=cw;have hcb:c≠b:=Gf c u rfl;obtain⟨_,hc⟩:=hby c u rfl;cases xd with
    |none=>
     cases yd with
     |none=>simp only[Up.sl];rw[Z8 _ _ hcb]
     |some dy=>
      have hne:dy≠b:=λe=>hb (by rw[e])
      simp only[Up.sl];rw[Z8 _ _ hne,Z8 _ _ hcb]
    |some dx=>
     have hnc:dx≠c:=λe=>hc (by rw[e])
     cases yd with
     |none=>simp only[Up.sl];rw[Z8 _ _ hcb,Z8 _ _ (λe=>hnc e.symm)]
     |some dy=>
      have hne:dy≠b:=λe=>hb (by rw[e])
      have qL:dx≠dy:=λe=>hd dx rfl (by rw[e])
      simp only[Up.sl];rw[Z8 _ _ hne,Z8 _ _ (λe=>qL e.symm),Z8 _ _ hcb,Z8 _ _ (λe=>hnc e.symm)]
 ·funext t;show x.A (y.A s.A) t=y.A (x.A s.A) t;generalize s.A t=a0;unfold Up.A;cases Ge:x.d with
  |none=>cases y.d<;>rfl
  |some dx=>
   cases Y1:y.d with
   |none=>rfl
   |some dy=>
    have qL:dx≠dy:=λe=>hd dx Ge (by rw[Y1,e])
    simp only;by_cases h1:t=dx
    ·subst h1;have:(t==dy)=ι:=by simpa using qL
     simp only[beq_self_eq_true,bz,this,bk];exact(Qj dy Y1).symm
    ·have h1':(t==dx)=ι:=by simpa using h1
     by_cases h2:t=dy
     ·subst h2;simp only[beq_self_eq_true,bz,h1',bk];exact hny dx Ge
     ·have h2':(t==dy)=ι:=by simpa using h2
      simp only[h1',h2',bk];exact adV ..
 ·rcases eD with e|e<;>simp [e]
structure RI (X : Fx) (Rt : List (Nat × Nat)) (Bt : List Nat) (s : AS) : Prop where
 l:∀t b,Rt.lookup t=δ b->X.L.contains b=η
 a:∀t p,s.A t=δ p->Rt.lookup t=δ p.slot
 v:∀t b,Rt.lookup t=δ b->X.L.contains t=ι->kV (s.sl.getD t .undef)=η
 b:∀t,Bt.contains t=η->nE (s.sl.getD t .undef)=η
def oT(σ σ':Heap):Prop:=∀(id:Nat)(cs:List AV),σ[id]? =δ (apF cs)↔σ'[id]? =δ (apF cs)
section
variable {R : Type} {X : Fx} {Rt : List (Nat × Nat)} {Bt : List Nat} {s s' : AS}
theorem Ih(h:RI X Rt Bt s){tag:Option (Nat×Bool)}{x:Operand}{b off:Nat}(hp:place X s tag x=δ (b,off)):vG X Rt x=δ b:=by
 cases x with
 |tmp t=>
  simp only[place]at hp;simp only[vG];cases hL:X.L.contains t
  ·rw[hL]at hp;simp only[bk]at hp ⊢;split at hp
   ·rename_i p hA;cases hc:X.L.contains p.slot
    ·rw[hc]at hp;cases hp
    ·rw[hc]at hp;simp only[bz]at hp;have ha:=h.a t p hA;split at hp
     ·simp only[ψ,ir]at hp;rw[ha,hp.1]
     ·rename_i g hg;cases ht:(tag==δ g)
      ·rw[ht]at hp;cases hp
      ·rw[ht]at hp;simp only[bz,ψ,ir]at hp;rw[ha,hp.1]
   ·cases hp
  ·rw[hL]at hp;simp only[bz,ψ,ir]at hp ⊢;exact hp.1
 |_=>simp [place]at hp
theorem Ch(h:RI X Rt Bt s){tag:Option (Nat×Bool)}{x:Operand}{b:Nat}(hr:vG X Rt x=δ b)(hp:place X s tag x=μ):kV (ev X s x)=η:=by
 cases x with
 |tmp t=>
  simp only[vG]at hr;cases hL:X.L.contains t
  ·rw[hL]at hr;simp only[bk]at hr;simp only[ev,hL,bk];exact h.v t b hr hL
  ·simp only[place,hL,bz]at hp;cases hp
 |_=>simp [vG]at hr
theorem Ue{v:AV}{σ:Heap}(h:kV v=η):Γ v σ=μ:=by unfold kV at h;split at h<;>first|rfl|cases h
theorem adS{v:AV}{σ σ':Heap}(h:oT σ σ')(hv:nE v=η):Γ v σ=Γ v σ':=by
 cases v<;>first|rfl|skip
 case op id off=>
  simp only[Γ];cases h1:σ[id]? with
  |none=>
   cases h2:σ'[id]? with
   |none=>rfl
   |some b=>cases b<;>first|rfl|(have:=(h id _).2 h2;rw[h1]at this;cases this)
  |some b=>
   cases b with
   |box cs=>rw[(h id cs).1 h1]
   |_=>
    cases h2:σ'[id]? with
    |none=>rfl
    |some b=>cases b<;>first|rfl|(have:=(h id _).2 h2;rw[h1]at this;cases this)
 case oe id g i off=>cases hv
theorem ads{v:AV}{new:List AV}{σ:Heap}(h:kV v=η):ZX v new σ=μ:=by unfold kV at h;split at h<;>first|rfl|cases h
theorem Lw{pl:Nat->Option (Nat×TypeId)}:∀(ps:List (Nat×Operand))(cs:List AV),(∀p∈ps,ev X s p.2=ev X s' p.2)->nD X s pl ps cs=nD X s' pl ps cs
 |[],cs,_=>rfl
 |(i,x)::ps,cs,h=>by
  have hx:=h (i,x) (by simp);simp only at hx;simp only[nD,hx];cases pl i with
  |none=>rfl
  |some ot=>simp only;congr 1;funext new;congr 1;funext cs';exact Lw ps cs' (λp hp=>h p (by simp [hp]))
theorem Ml{o:Oper}{tag:Option (Nat×Bool)}(eE:∀x∈o.op.operands.toList,ev X s x=ev X s' x)(hpl:∀x,mV o=δ x->place X s tag x=place X s' tag x)(hb:∀b,rt X Rt o=δ b->s.sl.getD b .undef=s'.sl.getD b .undef)
  (F6:∀x b off,mV o=δ x->place X s' tag x=δ (b,off)->rt X Rt o=δ b):iR X o s tag=iR X o s' tag:=by
 obtain⟨dst,op,ty,pos,af,g⟩:=o;cases op<;>simp only[iR]
 case nilCheck x=>
  rw[hpl x rfl];split
  ·rename_i b off hp;rw[hb b (F6 x b off rfl hp)]
  ·rfl
 case fieldAddr t x f=>
  rw[hpl x rfl];split
  ·rename_i b off hp;rw[hb b (F6 x b off rfl hp)]
  ·rfl
 case indexAddr t x i=>
  rw[hpl x rfl,eE i (by simp [ZU])];split
  ·rename_i b off hp;rw[hb b (F6 x b off rfl hp)]
  ·rfl
theorem HO{o:Oper}{tag:Option (Nat×Bool)}(eE:∀x∈o.op.operands.toList,ev X s x=ev X s' x)(hpl:∀x,mV o=δ x->place X s tag x=place X s' tag x)(hb:∀b,rt X Rt o=δ b->s.sl.getD b .undef=s'.sl.getD b .undef)
  (F6:∀x b off,mV o=δ x->place X s' tag x=δ (b,off)->rt X Rt o=δ b) (hno:∀x b,mV o=δ x->rt X Rt o=δ b->place X s' tag x=μ->kV (ev X s' x)=η) (eD:sj X Rt o=η->soft Bt o=ι->s.σ=s'.σ) (ajm:sj X Rt o=η->soft Bt o=η->oT s.σ s'.σ) (hB:∀t,Bt.contains t=η->nE (ev X s' (.tmp t))=η):eF X o s tag=eF X o s' tag:=by
 obtain⟨dst,op,ty,pos,af,g⟩:=o;cases op<;>simp only[eF];case move x=>rw[eE x (by simp [ZU])]
 case assign x=>rw[eE x (by simp [ZU])]
 case pick x y u=>rw[eE x (by simp [ZU]),eE y (by simp [ZU]),eE u (by simp [ZU])]
 case box t x=>rw[eE x (by simp [ZU])]
 case build t ps=>
  have hps:∀p∈ps.toList,ev X s p.2=ev X s' p.2:=λp hp=>eE p.2 (by simp only[ZU];simp;exact⟨p.1,by simpa using hp⟩)
  split
  ·rw[Lw ps.toList _ hps]
  ·rfl
 case buildSlice t n ps=>
  have hps:∀p∈ps.toList,ev X s p.2=ev X s' p.2:=λp hp=>eE p.2 (by simp only[ZU];simp;exact⟨p.1,by simpa using hp⟩)
  split
  ·split
   ·rw[Lw ps.toList _ hps]
   ·rfl
  ·rfl
 case load t x=>
  rw[hpl x rfl,eE x (by simp [ZU])];split
  ·rename_i b off hp;rw[hb b (F6 x b off rfl hp)]
  ·rename_i hp;cases hr:rt X Rt ⟨dst,.load t x,ty,pos,af,g⟩with
   |none=>
    cases AR:soft Bt ⟨dst,.load t x,ty,pos,af,g⟩
    ·rw[eD (by simp only[sj,hr,apG]) AR]
    ·rw[adS (ajm (by simp only[sj,hr,apG]) AR) (by
      cases x with
      |tmp u=>exact hB u AR
      |_=>simp [soft]at AR)]
   |some b=>rw[Ue (hno x b rfl hr hp),Ue (hno x b rfl hr hp)]
 case nilCheck x=>rw[eE x (by simp [ZU])]
 case binOp op t x y u=>rw[eE x (by simp [ZU]),eE y (by simp [ZU])]
 case unOp op t x=>rw[eE x (by simp [ZU])]
 case convert a b x=>rw[eE x (by simp [ZU])]
 case makeFunc fn first caps=>
  have:caps.toList.map (ev X s)=caps.toList.map (ev X s'):=RO λx hx=>eE x (by simp [ZU];exact .inr (by simpa using hx))
  rw[this]
 case slice t x lo hi mx=>
  have h1:lo.map (ev X s)=lo.map (ev X s'):=by cases lo with|none=>rfl|some y=>simp only[ff];rw[eE y (by simp [ZU])]
  have h2:hi.map (ev X s)=hi.map (ev X s'):=by cases hi with|none=>rfl|some y=>simp only[ff];rw[eE y (by simp [ZU])]
  rw[eE x (by simp [ZU]),h1,h2,eD rfl rfl];split
  ·rfl
  ·split
   ·rw[eE _ (by simp [ZU]),eE _ (by simp [ZU])]
   ·rfl
 case fieldAddr t x f=>rw[eE x (by simp [ZU])]
 case field t x f=>rw[eE x (by simp [ZU])]
 case indexAddr t x i=>rw[eE x (by simp [ZU]),eE i (by simp [ZU])]
 case index t x i=>rw[eE x (by simp [ZU]),eE i (by simp [ZU])]
 case lookup t x i ok=>rw[eE x (by simp [ZU]),eE i (by simp [ZU]),eD rfl rfl]
 case extract x i=>rw[eE x (by simp [ZU])]
 case entry i=>rw[eE i (by simp [ZU]),eD rfl rfl]
 case call c=>
  have ha:c.args.toList.map (ev X s)=c.args.toList.map (ev X s'):=RO λx hx=>eE x (by simp [ZU,aqL];exact .inr (by simpa using hx))
  rw[ha,eD rfl rfl];cases hc:c.callee with
  |value f=>have hf:=eE f (by simp [ZU,aqL,hc]);cases f<;>simp only[hf]
  |_=>rfl
theorem HU{σ:Heap}{b:aP}(hb:∀cs,b≠.box cs):oT σ (σ++[b]):=by
 intro id cs;by_cases h:id<σ.length
 ·rw[gZ h]
 ·rw[kD (by omega),kC (by omega)];constructor
  ·intro e;cases e
  ·intro e;have:=ct e;simp at this;exact absurd this.symm (hb cs)
theorem MV{σ:Heap}{id:Nat}{b b':aP}(hb:∀cs,b≠.box cs)(hb':∀cs,b'≠.box cs)(h:σ[id]? =δ b):oT σ (σ.set id b'):=by
 intro i cs;rw[gd];by_cases e:id=i
 ·subst e;rw[h];have hlt:=(bG.1 h).1;simp only[if_true,hlt];constructor
  ·intro e;injection e with e;exact absurd e (hb cs)
  ·intro e;injection e with e;exact absurd e (hb' cs)
 ·simp [e]
theorem zw(σ:Heap):oT σ σ:=λ_ _=>Iff.rfl
theorem aeE{ek:A.EK}{m k v:AV}{σ σ':Heap}(h:Uj ek m k v σ=δ σ'):oT σ σ':=by
 unfold Uj at h;cases hk:A.fP ek k
 ·rw[hk]at h;cases h
 rw[hk]at h;simp only[bz]at h;split at h
 ·split at h
  ·rename_i es hg;obtain⟨es',_,e⟩:=cO.1 h;subst e;exact MV (λcs e=>by cases e) (λcs e=>by cases e) hg
  ·cases h
 ·cases h
theorem apm{sz most:Nat}{x r:AV}{ys:List (List AV)}{σ σ':Heap}(h:A.kS sz most x ys σ=δ (r,σ')):oT σ σ':=by
 unfold A.kS at h;split at h
 ·split at h
  ·injection h with h;injection h with _ h;subst h;exact zw _
  ·split at h
   ·injection h with h;injection h with _ h;subst h;exact HU λcs e=>by cases e
   ·cases h
 ·split at h
  ·injection h with h;injection h with _ h;subst h;exact zw _
  ·split at h
   ·injection h with h;injection h with _ h;subst h;exact HU λcs e=>by cases e
   ·cases h
 ·split at h
  ·rename_i hg;split at h
   ·split at h
    ·injection h with h;injection h with _ h;subst h;exact zw _
    ·split at h
     ·injection h with h;injection h with _ h;subst h;exact MV (λcs e=>by cases e) (λcs e=>by cases e) hg
     ·injection h with h;injection h with _ h;subst h;exact MV (λcs e=>by cases e) (λcs e=>by cases e) hg
   ·cases h
  ·split at h
   ·injection h with h;injection h with _ h;subst h;exact HU λcs e=>by cases e
   ·cases h
  ·cases h
 ·cases h
theorem acF{sz most:Nat}{x y r:AV}{σ σ':Heap}(h:ZI sz most x y σ=δ (r,σ')):oT σ σ':=by unfold ZI at h;obtain⟨ys,_,h2⟩:=bD.1 h;exact apm h2
theorem abP{sz most:Nat}{zs:List AV}{x n r:AV}{σ σ':Heap}(h:A.tg sz most zs x n σ=δ (r,σ')):oT σ σ':=by
 unfold A.tg at h;split at h
 ·split at h
  ·exact apm h
  ·cases h
 ·cases h
structure Ag (X : Fx) (Rt : List (Nat × Nat)) (Bt : List Nat) (o : Oper) (ls : List Nat) (tag : Option (Nat × Bool)) (s s' : AS) : Prop where
 r1:RI X Rt Bt s
 r2:RI X Rt Bt s'
 eE:∀t∈ls,X.L.contains t=ι->s.sl.getD t .undef=s'.sl.getD t .undef
 pl:∀t,mV o=δ (.tmp t)->place X s tag (.tmp t)=place X s' tag (.tmp t)
 bx:∀b,rt X Rt o=δ b->s.sl.getD b .undef=s'.sl.getD b .undef
 σ:sj X Rt o=η->soft Bt o=ι->s.σ=s'.σ
 GR:sj X Rt o=η->soft Bt o=η->oT s.σ s'.σ
theorem ae6{tag:Option (Nat×Bool)}{x:Operand}{b off:Nat}(h:place X s tag x=δ (b,off)):X.L.contains b=η:=by
 cases x with
 |tmp t=>
  simp only[place]at h;cases hL:X.L.contains t
  ·rw[hL]at h;simp only[bk]at h;split at h
   ·rename_i p hA;cases hp:X.L.contains p.slot
    ·rw[hp]at h;cases h
    ·rw[hp]at h;simp only[bz]at h;split at h
     ·simp only[ψ,ir]at h;rw[<-h.1];exact hp
     ·rename_i g hg;cases ht:(tag==δ g)
      ·rw[ht]at h;cases h
      ·rw[ht]at h;simp only[bz,ψ,ir]at h;rw[<-h.1];exact hp
   ·cases h
  ·rw[hL]at h;simp only[bz,ψ,ir]at h;rw[<-h.1];exact hL
 |_=>simp [place]at h
theorem Ag.yM{o:Oper}{ls:List Nat}{tag:Option (Nat×Bool)}(h:Ag X Rt Bt o ls tag s s')(hls:∀t,Operand.tmp t∈o.op.operands.toList->t∈ls):∀x∈o.op.operands.toList,ev X s x=ev X s' x:=by
 intro x hx;cases x with
 |tmp t=>
  simp only[ev];cases hL:X.L.contains t
  ·simp only[bk];exact h.eE t (hls t hx) hL
  ·rfl
 |_=>rfl
theorem RI.C3(h:RI X Rt Bt s):∀t,Bt.contains t=η->nE (ev X s (.tmp t))=η:=by
 intro t ht;simp only[ev];cases X.L.contains t
 ·exact h.b t ht
 ·rfl
theorem Ag.xk{o:Oper}{ls:List Nat}{tag:Option (Nat×Bool)}(h:Ag X Rt Bt o ls tag s s'):∀x,mV o=δ x->place X s tag x=place X s' tag x:=by
 intro x hx;cases x with
 |tmp t=>exact h.pl t hx
 |_=>rfl
def y9(X:Fx)(d:Option Nat)(v:AV):Up:=⟨d,match d with|some d=>bif X.L.contains d then .undef else v|none=>.undef,μ,μ,ι,μ⟩
def GL(X:Fx)(d:Option Nat)(σ:Heap)(v:AV):Up:=⟨d,match d with|some d=>bif X.L.contains d then .undef else v|none=>.undef,μ,μ,ι,δ σ⟩
def J3(X:Fx)(d:Option Nat)(b:Nat)(cs:List AV):Up:=⟨d,match d with|some d=>bif X.L.contains d then .undef else .aJ []|none=>.undef,δ (b,.lbx cs),μ,ι,μ⟩
def J2(d:Nat)(cs:List AV):Up:=⟨δ d,.lbx cs,μ,μ,η,μ⟩
def Dn(X:Fx)(d:Option Nat)(b off:Nat)(tag:Option (Nat×Bool)):Up:=
 ⟨d,.undef,μ,match d with|some d=>(bif X.L.contains d||!TO d X.n then μ else match tag with|some (g,w)=>(bif g==d then μ else δ ⟨b,off,δ (g,w)⟩)|none=>δ ⟨b,off,μ⟩)|none=>μ,ι,μ⟩
theorem CC(d:Option Nat)(v:AV)(s:AS):s.put X d v=(y9 X d v).ap s:=by
 cases d with
 |none=>rfl
 |some d=>simp only[SF,Up.ap,y9,Up.sl,UG];congr 1;funext t;simp only[Up.A,DY]
theorem jy(d:Option Nat)(v:AV)(σ:Heap)(s:AS):(s.heap σ).put X d v=(GL X d σ v).ap s:=by
 cases d with
 |none=>rfl
 |some d=>simp only[SF,AS.heap,Up.ap,GL,Up.sl,Sk];congr 1;funext t;simp only[Up.A,DY]
theorem Tj(d:Option Nat)(b:Nat)(cs:List AV)(s:AS):(⟨s.sl.set b (.lbx cs),s.A,s.σ⟩:AS).put X d (.aJ [])=(J3 X d b cs).ap s:=by
 cases d with
 |none=>rfl
 |some d=>simp only[SF,Up.ap,J3,Up.sl,UG];congr 1;funext t;simp only[Up.A,DY]
theorem HN(d:Nat)(cs:List AV)(s:AS):s.nA d cs=(J2 d cs).ap s:=by simp only[AS.nA,Up.ap,J2,Up.sl,UG];congr 1
theorem ID(d:Option Nat)(b off:Nat)(tag:Option (Nat×Bool))(s:AS):s.lM X d b off tag=(Dn X d b off tag).ap s:=by
 cases d with
 |none=>rfl
 |some d=>simp only[AS.lM,Up.ap,Dn,Up.sl,UG];congr 1;funext t;simp only[Up.A,DY];rfl
structure rA (X : Fx) (Rt : List (Nat × Nat)) (Bt : List Nat) (o : Oper) (ls : List Nat) (τ : Heap) (u : Up) : Prop where
 d:u.d=o.dst
 bx:∀b v,u.bx=δ (b,v)->X.L.contains b=η/\wb X Rt o=δ b
 new:∀p,u.new=δ p->rL o=η/\(∀g w,p.tag=δ (g,w)->g∈ls)/\rt X Rt o=δ p.slot/\∀d,u.d=δ d->Rt.lookup d=δ p.slot
 box:u.tC=η->∃d,o.dst=δ d/\X.L.contains d=η
 σ:u.σ≠μ->oN X Rt o=η
 v:∀d b,u.d=δ d->Rt.lookup d=δ b->X.L.contains d=ι->kV u.v=η
 vb:∀d,u.d=δ d->Bt.contains d=η->nE u.v=η
 bxv:∀b v,u.bx=δ (b,v)->nE v=η
 fr:yN o=η->∀σ,u.σ=δ σ->oT τ σ
def rM(X:Fx)(Rt:List (Nat×Nat))(Bt:List Nat)(o:Oper):Prop:=(∀d,o.dst=δ d->X.L.contains d=ι->Rt.lookup d=(bif rj o then rt X Rt o else μ))/\∀d,o.dst=δ d->Bt.contains d=η->uL Bt o=η
theorem rM.of{o:Oper}(h:NX X Rt o=η)(hb:NV Bt o=η):rM X Rt Bt o:=by
 refine⟨λd hd hL=>?_,λd hd hc=>?_⟩
 ·unfold NX at h;rw[hd]at h;simp only[hL,Bool.false_or,beq_iff_eq]at h;exact h
 ·unfold NV at hb;rw[hd]at hb;simp only[hc,YV,Bool.false_or]at hb;exact hb
theorem Nw{o:Oper}{ls:List Nat}(v:AV)(hR:rM X Rt Bt o)(hv:rj o=η->∀b,rt X Rt o=δ b->kV v=η)(Qt:uL Bt o=η->nE v=η){τ:Heap}:rA X Rt Bt o ls τ (y9 X o.dst v):=by
 refine⟨rfl,(λb v h=>by cases h),(λp h=>by cases h),(λh=>by cases h),(λh=>absurd rfl h),λd b hd hl hL=>?_,λd hd hc=>?_,(λb v h=>by cases h),(λ_ σ h=>by cases h)⟩
 ·simp only[y9]at hd ⊢;rw[hd];simp only[hL,bk];rw[hR.1 d hd hL]at hl;cases ha:rj o
  ·rw[ha]at hl;cases hl
  ·rw[ha]at hl;exact hv ha b hl
 ·have:=Qt (hR.2 d hd hc);simp only[y9]at hd ⊢;rw[hd];simp only;cases X.L.contains d
  ·exact this
  ·rfl
theorem qZ{o:Oper}{ls:List Nat}(σ:Heap)(v:AV)(hR:rM X Rt Bt o)(h:oN X Rt o=η)(hn:rj o=ι)(hcb:uL Bt o=ι){τ:Heap}(hf:yN o=η->oT τ σ):rA X Rt Bt o ls τ (GL X o.dst σ v):=by
 refine⟨rfl,(λb v h=>by cases h),(λp h=>by cases h),(λh=>by cases h),(λ_=>h),λd b hd hl hL=>?_,λd hd hc=>?_,(λb v h=>by cases h),(λhw σ' h=>?_)⟩
 ·simp only[GL]at hd;rw[hR.1 d hd hL,hn]at hl;cases hl
 ·have:=hR.2 d hd hc;rw[hcb]at this;cases this
 ·simp only[GL,ψ]at h;subst h;exact hf hw
theorem Wn{τ:Heap}{o:Oper}{ls:List Nat}{b off:Nat}{tag:Option (Nat×Bool)}(hR:rM X Rt Bt o)(ha:rj o=η)(hr:rt X Rt o=δ b)(h:rL o=η)(ht:∀g w,tag=δ (g,w)->g∈ls):rA X Rt Bt o ls τ (Dn X o.dst b off tag):=by
 refine⟨rfl,(λb v h=>by cases h),(λp hp=>?_),(λh=>by cases h),(λh=>absurd rfl h),(λd b hd hl hL=>rfl),(λ_ _ _=>rfl),(λb v h=>by cases h),(λ_ σ h=>by cases h)⟩
 have key:p.slot=b/\(∀g w,p.tag=δ (g,w)->g∈ls)/\∀d,o.dst=δ d->X.L.contains d=ι:=by
  unfold Dn at hp;simp only at hp;cases hd:o.dst with
  |none=>rw[hd]at hp;cases hp
  |some d=>
   rw[hd]at hp;simp only at hp;cases hc:(X.L.contains d||!TO d X.n)
   ·rw[hc]at hp;simp only[bk]at hp;have hL:X.L.contains d=ι:=by simp only[mP]at hc;exact hc.1
    cases tag with
    |none=>simp only[ψ]at hp;subst hp;exact⟨rfl,(λg w e=>by cases e),λd' e=>by injection e with e;rw[<-e];exact hL⟩
    |some gw=>
     obtain⟨g',w'⟩:=gw;simp only at hp;cases hg:(g'==d)
     ·rw[hg]at hp;simp only[bk,ψ]at hp;subst hp;refine⟨rfl,λg w e=>?_,λd' e=>by injection e with e;rw[<-e];exact hL⟩;simp only[ψ,ir]at e;rw[<-e.1];exact ht g' w' rfl
     ·rw[hg]at hp;cases hp
   ·rw[hc]at hp;cases hp
 refine⟨h,key.2.1,by rw[hr,key.1],λd hd=>?_⟩;have hd':o.dst=δ d:=hd;rw[hR.1 d hd' (key.2.2 d hd'),ha,bz,hr,key.1]
theorem HK(l:List AV)(d t:Nat)(v:AV)(h:t≠d):(l.set d v).getD t .undef=l.getD t .undef:=by
 have h':¬d=t:=λe=>h (Eq.symm e)
 simp only[RU,gd,aF h']
theorem NS{u:Up}{l:List AV}{t:Nat}(h1:u.d≠δ t)(h2:∀b v,u.bx=δ (b,v)->t≠b):(u.sl l).getD t .undef=l.getD t .undef:=by
 unfold Up.sl;cases hd:u.d with
 |none=>
  cases hb:u.bx with
  |none=>rfl
  |some bv=>obtain⟨b,v⟩:=bv;exact HK _ _ _ _ (h2 b v hb)
 |some d=>
  have hne:t≠d:=λe=>h1 (by rw[hd,e])
  cases hb:u.bx with
  |none=>exact HK _ _ _ _ hne
  |some bv=>obtain⟨b,v⟩:=bv;simp only;rw[HK _ _ _ _ hne,HK _ _ _ _ (h2 b v hb)]
theorem rA.ri{τ:Heap}{o:Oper}{ls:List Nat}{u:Up}(h:rA X Rt Bt o ls τ u)(hs:RI X Rt Bt s):RI X Rt Bt (u.ap s):=by
 refine⟨hs.l,λt p hp=>?_,λt b ht hL=>?_,λt ht=>?_⟩
 ·have hp':u.A s.A t=δ p:=hp;unfold Up.A at hp';cases hd:u.d with
  |none=>rw[hd]at hp';exact hs.a t p hp'
  |some d=>
   rw[hd]at hp';simp only at hp';cases hc:(t==d)
   ·rw[hc]at hp';simp only[bk]at hp';rcases LX u.tC d (s.A t)with e|e
    ·rw[e]at hp';exact hs.a t p hp'
    ·rw[e]at hp';cases hp'
   ·rw[hc]at hp';simp only[bz]at hp';have:t=d:=by simpa using hc
    subst this;exact(h.new p hp').2.2.2 t hd
 ·show kV ((u.sl s.sl).getD t .undef)=η;by_cases hd:u.d=δ t
  ·have hv:=h.v t b hd ht hL
   have:(u.sl s.sl).getD t .undef=u.v\/(u.sl s.sl).getD t .undef=.undef:=by
    unfold Up.sl;rw[hd];simp only[RU];rw[gd];simp only[if_true];generalize (match u.bx with|some (b,x)=>s.sl.set b x|none=>s.sl)=q;by_cases hq:t<q.length
    ·left;simp [hq]
    ·right;simp [hq]
   rcases this with e|e
   ·rw[e];exact hv
   ·rw[e];rfl
  ·rw[NS hd (λb' v hb e=>by have:=(h.bx b' v hb).1;rw[<-e,hL]at this;cases this)];exact hs.v t b ht hL
 ·show nE ((u.sl s.sl).getD t .undef)=η
  have rC:∀(l:List AV)(d:Nat)(v:AV),(l.set d v).getD t .undef=v/\t=d\/(l.set d v).getD t .undef=l.getD t .undef\/(l.set d v).getD t .undef=.undef:=by
   intro l d v;simp only[RU,gd];by_cases e:d=t
   ·subst e;by_cases hq:d<l.length
    ·left;simp [hq]
    ·right;right;simp [hq]
   ·right;left;simp [e]
  have sN:nE ((match u.bx with|some (b,x)=>s.sl.set b x|none=>s.sl).getD t .undef)=η:=by
   cases hb:u.bx with
   |none=>exact hs.b t ht
   |some bv=>
    obtain⟨b,v⟩:=bv;rcases rC s.sl b v with⟨e,_⟩|e|e
    ·simp only;rw[e];exact h.bxv b v hb
    ·simp only;rw[e];exact hs.b t ht
    ·simp only;rw[e];rfl
  unfold Up.sl;generalize (match u.bx with|some (b,x)=>s.sl.set b x|none=>s.sl)=q at sN;cases hd:u.d with
  |none=>exact sN
  |some d=>
   simp only;rcases rC q d u.v with⟨e,e2⟩|e|e
   ·rw[e];exact h.vb d hd (e2▸ht)
   ·rw[e];exact sN
   ·rw[e];rfl
theorem apa{o:Oper}{tag:Option (Nat×Bool)}{p:Nat×Option Nat}(h:iR X o s tag=δ p):rL o=η:=by obtain⟨dst,op,ty,pos,af,g⟩:=o;cases op<;>simp only[iR]at h<;>first|(cases h;done)|rfl
theorem Vn{o:Oper}{tag:Option (Nat×Bool)}{p:Nat×Option Nat}(h:iR X o s tag=δ p):rj o=η:=by obtain⟨dst,op,ty,pos,af,g⟩:=o;cases op<;>simp only[iR]at h<;>first|(cases h;done)|rfl
theorem Wc(hI:RI X Rt Bt s){o:Oper}{tag:Option (Nat×Bool)}{b:Nat}{rr:Option Nat}(h:iR X o s tag=δ (b,rr)):rt X Rt o=δ b:=by
 obtain⟨dst,op,ty,pos,af,g⟩:=o;cases op<;>simp only[iR]at h<;>first|(cases h;done)|skip
 all_goals
  split at h
  ·rename_i b' off hp;simp only[ψ,ir]at h;simp only[rt,mV];rw[<-h.1];exact Ih hI hp
  ·cases h
theorem Vo(hI:RI X Rt Bt s){o:Oper}{tag:Option (Nat×Bool)}{v:AV}(ha:rj o=η){b:Nat}(hr:rt X Rt o=δ b)(hp:iR X o s tag=μ)(h:eF X o s tag=δ v):False:=by
 obtain⟨dst,op,ty,pos,af,g⟩:=o;have nf:∀(x:AV)(n:Nat),kV x=η->SN n x=μ:=λx n h=>by unfold kV at h;split at h<;>first|rfl|cases h
 have nn:∀(x:AV),kV x=η->A.jJ x=μ:=λx h=>by unfold kV at h;split at h<;>first|rfl|cases h
 have ni:∀(x i:AV)(n:Nat),kV x=η->Zp n x i=μ:=λx i n h=>by unfold kV at h;split at h<;>first|rfl|cases h
 have na:∀(x i:AV)(m n:Nat),kV x=η->A.uU m n x i=μ:=λx i m n h=>by
  unfold kV at h;unfold A.uU;split at h<;>first|(cases h;done)|skip
  all_goals cases A.idx m i<;>rfl
 cases op<;>simp only[rj]at ha<;>first|(cases ha;done)|skip
 case nilCheck x=>
  simp only[iR]at hp;simp only[rt,mV]at hr;split at hp
  ·cases hp
  ·rename_i hpl;simp only[eF,nn _ (Ch hI hr hpl)]at h;cases h
 case fieldAddr t x f=>
  simp only[iR]at hp;simp only[rt,mV]at hr;split at hp
  ·cases hp
  ·rename_i hpl;simp only[eF]at h;split at h
   ·split at h
    ·rename_i i _;cases hz:(i.size==0)
     ·rw[hz]at h;simp only[bk,nf _ _ (Ch hI hr hpl)]at h;cases h
     ·rw[hz]at h;cases h
    ·cases h
   ·cases h
 case indexAddr t x i=>
  simp only[iR]at hp;simp only[rt,mV]at hr;split at hp
  ·cases hp
  ·rename_i hpl;simp only[eF]at h;split at h
   ·split at h
    ·simp only[ni _ _ _ (Ch hI hr hpl)]at h;cases h
    ·cases h
   ·split at h
    ·simp only[na _ _ _ _ (Ch hI hr hpl)]at h;cases h
    ·cases h
   ·cases h
theorem lD{α β:Type}{x:Option α}{f:α->Option β}{b:β}(h:x.bind f=δ b):∃a,x=δ a/\f a=δ b:=bD.1 h
theorem TI(hB:∀t,Bt.contains t=η->nE (ev X s (.tmp t))=η){o:Oper}{tag:Option (Nat×Bool)}{v:AV}(hc:uL Bt o=η)(h:eF X o s tag=δ v):nE v=η:=by
 obtain⟨dst,op,ty,pos,af,g⟩:=o
 have nk:∀x,nE x=η->∀y,A.jJ x=δ y->nE y=η:=λx hx y e=>by cases x<;>simp only[A.jJ]at e<;>first|(cases e;done)|(injection e with e;subst e;exact hx)
 have nf:∀x,nE x=η->∀n y,SN n x=δ y->nE y=η:=λx hx n y e=>by cases x<;>simp only[SN]at e<;>first|(cases e;done)|(cases hx;done)|(injection e with e;subst e;rfl)
 cases op<;>simp only[uL]at hc<;>first|(cases hc;done)|skip
 case move x=>
  cases x<;>first|(cases hc;done)|skip
  simp only[eF,ψ]at h;subst h;exact hB _ hc
 case assign x=>
  cases x<;>first|(cases hc;done)|skip
  simp only[eF,ψ]at h;subst h;exact hB _ hc
 case nilCheck x=>
  cases x<;>first|(cases hc;done)|skip
  simp only[eF]at h;exact nk _ (hB _ hc) _ h
 case fieldAddr t x f=>
  cases x<;>first|(cases hc;done)|skip
  simp only[eF]at h;split at h
  ·split at h
   ·rename_i i _;cases hz:(i.size==0)
    ·rw[hz]at h;simp only[bk]at h;exact nf _ (hB _ hc) _ _ h
    ·rw[hz]at h;cases h
   ·cases h
  ·cases h
theorem an7{o:Oper}{ls:List Nat}(hR:rM X Rt Bt o)(hI:RI X Rt Bt s)(hls:∀t,Operand.tmp t∈o.op.operands.toList->t∈ls){k:AS->Option R}{r:R}(h:fq X η o s k=δ r):
  ∃u,rA X Rt Bt o ls s.σ u/\k (u.ap s)=δ r/\∀(R':Type)(k':AS->Option R')(s':AS),Ag X Rt Bt o ls μ s s'->fq X η o s' k'=k' (u.ap s'):=by
 have yB:∀(s':AS),RI X Rt Bt s'->∀x b off,mV o=δ x->place X s' μ x=δ (b,off)->rt X Rt o=δ b:=λs' hi x b off hx hp=>by simp only[rt,hx];exact Ih hi hp
 have CO:∀(s':AS),RI X Rt Bt s'->∀x b,mV o=δ x->rt X Rt o=δ b->place X s' μ x=μ->kV (ev X s' x)=η:=λs' hi x b hx hr hp=>by simp only[rt,hx]at hr;exact Ch hi hr hp
 unfold fq at h;cases hp:iR X o s μ with
 |some p=>
  obtain⟨b,rr⟩:=p;rw[hp]at h;simp only at h;obtain⟨off,e1,e2⟩:=lD h;subst e1;refine⟨Dn X o.dst b off μ,Wn hR (Vn hp) (Wc hI hp) (apa hp) (λg w e=>by cases e),by rw[<-ID];exact e2,λR' k' s' ha=>?_⟩;have:iR X o s' μ=δ (b,δ off):=by rw[<-hp];exact(Ml (ha.yM hls) ha.xk ha.bx (yB s' ha.r2)).symm
  unfold fq;rw[this];simp only[aO];rw[ID]
 |none=>
  rw[hp]at h;simp only at h;have hP:∀s',Ag X Rt Bt o ls μ s s'->iR X o s' μ=μ:=λs' ha=>by rw[<-hp];exact(Ml (ha.yM hls) ha.xk ha.bx (yB s' ha.r2)).symm
  have dflt:((eF X o s μ).bind λv=>k (s.put X o.dst v))=δ r->(∀(R':Type)(k':AS->Option R')(s':AS),Ag X Rt Bt o ls μ s s'->fq X η o s' k'=(eF X o s' μ).bind λv=>k' (s'.put X o.dst v))->
    ∃u,rA X Rt Bt o ls s.σ u/\k (u.ap s)=δ r/\∀(R':Type)(k':AS->Option R')(s':AS),Ag X Rt Bt o ls μ s s'->fq X η o s' k'=k' (u.ap s'):=by
   intro hd hsame;obtain⟨v,e1,e2⟩:=lD hd;refine⟨y9 X o.dst v,Nw v hR (λha b hr=>(Vo hI ha hr hp e1).elim) (λhc=>TI hI.C3 hc e1),by rw[<-CC];exact e2,λR' k' s' ha=>?_⟩;have:eF X o s' μ=δ v:=by rw[<-e1];exact(HO (ha.yM hls) ha.xk ha.bx (yB s' ha.r2) (CO s' ha.r2) ha.σ ha.GR ha.r2.C3).symm
   rw[hsame R' k' s' ha,this,aO,CC]
  obtain⟨dst,op,ty,pos,af,g⟩:=o;have vc:∀s',Ag X Rt Bt ⟨dst,op,ty,pos,af,g⟩ ls μ s s'->∀x∈op.operands.toList,ev X s x=ev X s' x:=λs' ha=>ha.yM hls
  have unf:∀{R':Type}(k':AS->Option R')(s':AS),Ag X Rt Bt ⟨dst,op,ty,pos,af,g⟩ ls μ s s'->iR X ⟨dst,op,ty,pos,af,g⟩ s' μ=μ:=λk' s' ha=>hP s' ha
  cases op<;>simp only at h<;>first
   |(exact absurd (show(μ:Option R)=δ r from h) (by simp))
   |exact dflt h (λR' k' s' ha=>by unfold fq;rw[hP s' ha])
   |skip
  case alloc t=>
   cases dst with
   |none=>cases h
   |some d=>
    simp only at h;cases hL:X.L.contains d
    ·rw[hL]at h;simp only[bk]at h;cases hO:X.O.contains d
     ·rw[hO]at h;exact dflt h (λR' k' s' ha=>by unfold fq;rw[hP s' ha];simp only[hL,hO,bk])
     ·rw[hO]at h;simp only[bz]at h;split at h
      ·rename_i cs hz;rw[jy]at h;refine⟨_,qZ _ _ hR (by simp [oN,wH];simpa using hO) rfl rfl (λh=>by cases h),h,λR' k' s' ha=>?_⟩;have eD:=ha.σ (by simpa [sj]using hO) rfl;unfold fq;rw[hP s' ha];simp only[hL,hO,bk,bz,hz,eD];rw[jy]
      ·cases h
    ·rw[hL]at h;simp only[bz]at h;split at h
     ·rename_i cs hz;rw[HN]at h;refine⟨_,⟨rfl,(λb v h=>by cases h),(λp h=>by cases h),(λ_=>⟨d,rfl,hL⟩),(λh=>absurd rfl h),(λd' b e _ hL'=>by simp only[J2,ψ]at e;rw[<-e,hL]at hL';cases hL'),(λ_ _ _=>rfl),(λb v h=>by cases h),(λ_ σ h=>by cases h)⟩,h,λR' k' s' ha=>?_⟩;unfold fq;rw[hP s' ha];simp only[hL,bz,hz];rw[HN]
     ·cases h
  case box t x=>
   cases dst with
   |none=>cases h
   |some d=>
    simp only at h;cases hL:X.L.contains d
    ·rw[hL]at h;simp only[bk]at h;cases hO:X.O.contains d
     ·rw[hO]at h;exact dflt h (λR' k' s' ha=>by unfold fq;rw[hP s' ha];simp only[hL,hO,bk])
     ·rw[hO]at h;simp only[bz]at h;obtain⟨cs,e1,e2⟩:=lD h;rw[jy]at e2;refine⟨_,qZ _ _ hR (by simp [oN,wH];simpa using hO) rfl rfl (λh=>by cases h),e2,λR' k' s' ha=>?_⟩;have eD:=ha.σ (by simpa [sj]using hO) rfl;have hx:=vc s' ha x (by simp [ZU]);unfold fq;rw[hP s' ha];simp only[hL,hO,bk,bz,<-hx,e1,aO,eD];rw[jy]
    ·rw[hL]at h;simp only[bz]at h;obtain⟨cs,e1,e2⟩:=lD h;rw[HN]at e2;refine⟨_,⟨rfl,(λb v h=>by cases h),(λp h=>by cases h),(λ_=>⟨d,rfl,hL⟩),(λh=>absurd rfl h),(λd' b e _ hL'=>by simp only[J2,ψ]at e;rw[<-e,hL]at hL';cases hL'),(λ_ _ _=>rfl),(λb v h=>by cases h),(λ_ σ h=>by cases h)⟩,e2,λR' k' s' ha=>?_⟩;have hx:=vc s' ha x (by simp [ZU]);unfold fq;rw[hP s' ha];simp only[hL,bz,<-hx,e1,aO];rw[HN]
  case store t x v=>
   split at h
   ·rename_i b off hpl;obtain⟨cs,e1,e2⟩:=lD h;obtain⟨new,e3,e4⟩:=lD e2;obtain⟨cs',e5,e6⟩:=lD e4;rw[Tj]at e6;have xh:rt X Rt ⟨dst,.store t x v,ty,pos,af,g⟩=δ b:=by simp only[rt,mV];exact Ih hI hpl
    refine⟨_,⟨rfl,(λb' v' hb=>by simp only[J3,ψ,ir]at hb;rw[<-hb.1];exact⟨ae6 hpl,xh⟩),(λp h=>by cases h),(λh=>by cases h),(λh=>absurd rfl h),(λd1 b1 e hl hL=>by rw[hR.1 d1 e hL]at hl;cases hl),(λd1 e hc=>by have:=hR.2 d1 e hc;cases this),(λb1 v1 hb=>by simp only[J3,ψ,ir]at hb;rw[<-hb.2];rfl),(λ_ σ h=>by cases h)⟩,e6,λR' k' s' ha=>?_⟩;have hv:=vc s' ha v (by simp [ZU]);have hpx:place X s' μ x=δ (b,off):=by rw[<-hpl];exact(ha.xk x rfl).symm
    have sN:=ha.bx b xh;unfold fq;rw[hP s' ha];simp only[hpx,<-sN,e1,aO,<-hv,e3,e5];rw[Tj]
   ·rename_i hpl;obtain⟨new,e3,e4⟩:=lD h;obtain⟨σ',e5,e6⟩:=lD e4;rw[jy]at e6
    have xh:rt X Rt ⟨dst,.store t x v,ty,pos,af,g⟩=μ:=by
     cases hr:rt X Rt ⟨dst,.store t x v,ty,pos,af,g⟩with
     |none=>rfl
     |some b=>rw[ads (CO s hI x b rfl hr hpl)]at e5;cases e5
    have hw:oN X Rt ⟨dst,.store t x v,ty,pos,af,g⟩=η:=by simp only[oN,xh,apG]
    refine⟨_,qZ _ _ hR hw rfl rfl (λh=>by cases h),e6,λR' k' s' ha=>?_⟩;have hv:=vc s' ha v (by simp [ZU]);have hx:=vc s' ha x (by simp [ZU]);have eD:=ha.σ (by simp only[sj,xh,apG]) rfl;have hpx:place X s' μ x=μ:=by rw[<-hpl];exact(ha.xk x rfl).symm
    unfold fq;rw[hP s' ha];simp only[hpx,<-hv,<-hx,e3,aO,<-eD,e5];rw[jy]
  case makeMap t rr=>
   cases rr with
   |some x=>cases h
   |none=>simp only at h;rw[jy]at h;refine⟨_,qZ _ _ hR rfl rfl rfl (λ_=>HU (λcs e=>by cases e)),h,λR' k' s' ha=>?_⟩;have eD:=ha.σ rfl rfl;unfold fq;rw[hP s' ha];simp only[<-eD];rw[jy]
  case range t x=>
   split at h
   ·rename_i kt et hd;obtain⟨es,e1,e2⟩:=lD h;rw[jy]at e2;refine⟨_,qZ _ _ hR rfl rfl rfl (λh=>by cases h),e2,λR' k' s' ha=>?_⟩;have hx:=vc s' ha x (by simp [ZU]);have eD:=ha.σ rfl rfl;unfold fq;rw[hP s' ha];simp only[hd,<-hx,<-eD,e1,aO];rw[jy]
   ·cases h
  case buildSlice t n ps=>
   cases dst with
   |none=>exact dflt h (λR' k' s' ha=>by unfold fq;rw[hP s' ha])
   |some d=>
    simp only at h;cases hO:X.O.contains d
    ·rw[hO]at h;exact dflt h (λR' k' s' ha=>by unfold fq;rw[hP s' ha];simp only[hO,bk])
    ·rw[hO]at h;simp only[bz]at h;obtain⟨v,e1,e2⟩:=lD h
     have hv:∀s',Ag X Rt Bt ⟨δ d,.buildSlice t n ps,ty,pos,af,g⟩ ls μ s s'->eF X ⟨δ d,.buildSlice t n ps,ty,pos,af,g⟩ s' μ=δ v:=λs' ha=>by rw[<-e1];exact(HO (ha.yM hls) ha.xk ha.bx (yB s' ha.r2) (CO s' ha.r2) ha.σ ha.GR ha.r2.C3).symm
     unfold A.ve at e2;split at e2
     ·rename_i sz es;cases hl:(es.length==0)
      ·rw[hl]at e2;simp only[bk]at e2;rw[jy]at e2;refine⟨_,qZ _ _ hR (by simp [oN,wH];simpa using hO) rfl rfl (λh=>by cases h),e2,λR' k' s' ha=>?_⟩;have eD:=ha.σ (by simpa [sj]using hO) rfl;unfold fq;rw[hP s' ha];simp only[hO,bz,hv s' ha,aO,A.ve,hl,bk,<-eD];rw[jy]
      ·rw[hl]at e2;cases e2
     ·cases e2
  case mapUpdate t m i v=>
   split at h
   ·rename_i kt et hd;split at h
    ·rename_i ek he;obtain⟨σ',e1,e2⟩:=lD h;rw[jy]at e2;refine⟨_,qZ _ _ hR rfl rfl rfl (λ_=>aeE e1),e2,λR' k' s' ha=>?_⟩;have hm:=vc s' ha m (by simp [ZU]);have hi:=vc s' ha i (by simp [ZU]);have hv:=vc s' ha v (by simp [ZU]);have eD:=ha.σ rfl rfl;unfold fq;rw[hP s' ha];simp only[hd,he,<-hm,<-hi,<-hv,<-eD,e1,aO];rw[jy]
    ·cases h
   ·cases h
  case call c=>
   have hargs:∀s',Ag X Rt Bt ⟨dst,.call c,ty,pos,af,g⟩ ls μ s s'->c.args.toList.map (ev X s)=c.args.toList.map (ev X s'):=λs' ha=>
    RO λx hx=>vc s' ha x (by simp [ZU,aqL];exact .inr (by simpa using hx))
   split at h
   ·rename_i hc;split at h
    ·rename_i t u x y h1 h2;split at h
     ·rename_i e e' hd hu;split at h
      ·rename_i i hi;cases dU:mq i
       ·rw[dU]at h;simp only[bk]at h;obtain⟨⟨rr,σ'⟩,e1,e2⟩:=lD h;simp only at e2;rw[jy]at e2;refine⟨_,qZ _ _ hR (by simp [oN,wH,hc]) rfl rfl (λ_=>acF e1),e2,λR' k' s' ha=>?_⟩;have eD:=ha.σ rfl rfl;unfold fq;rw[hP s' ha];simp only[hc,<-hargs s' ha,h1,h2,hd,hu,hi,dU,bk,<-eD,e1,aO];rw[jy]
       ·rw[dU]at h;cases h
      ·cases h
     ·rename_i e kk hd hu;split at h
      ·rename_i i zs hi hz;cases dU:mq i
       ·rw[dU]at h;simp only[bk]at h;obtain⟨⟨rr,σ'⟩,e1,e2⟩:=lD h;simp only at e2;rw[jy]at e2;refine⟨_,qZ _ _ hR (by simp [oN,wH,hc]) rfl rfl (λ_=>abP e1),e2,λR' k' s' ha=>?_⟩;have eD:=ha.σ rfl rfl;unfold fq;rw[hP s' ha];simp only[hc,<-hargs s' ha,h1,h2,hd,hu,hi,hz,dU,bk,<-eD,e1,aO];rw[jy]
       ·rw[dU]at h;cases h
      ·cases h
     ·cases h
    ·cases h
   ·rename_i hc;split at h
    ·rename_i t u x y h1 h2;split at h
     ·rename_i e e' hd hu;split at h
      ·rename_i i hi;cases dU:mq i
       ·rw[dU]at h;simp only[bk]at h;obtain⟨⟨rr,σ'⟩,e1,e2⟩:=lD h;simp only at e2;rw[jy]at e2;refine⟨_,qZ _ _ hR (by simp [oN,wH,hc]) rfl rfl (λh=>by simp [yN,hc]at h),e2,λR' k' s' ha=>?_⟩;have eD:=ha.σ rfl rfl;unfold fq;rw[hP s' ha];simp only[hc,<-hargs s' ha,h1,h2,hd,hu,hi,dU,bk,<-eD,e1,aO];rw[jy]
       ·rw[dU]at h;cases h
      ·cases h
     ·cases h
    ·cases h
   ·rename_i hc;cases hv:eF X ⟨dst,.call c,ty,pos,af,g⟩ s μ with
    |none=>rw[hv]at h;simp [A.uY]at h
    |some v=>
     rw[hv]at h
     exact dflt (by rw[hv];exact h) (λR' k' s' ha=>by
      have hv':eF X ⟨dst,.call c,ty,pos,af,g⟩ s' μ=δ v:=by rw[<-hv];exact(HO (ha.yM hls) ha.xk ha.bx (yB s' ha.r2) (CO s' ha.r2) ha.σ ha.GR ha.r2.C3).symm
      unfold fq;rw[hP s' ha];simp only[hc,hv',aO,A.uY])
   ·rename_i hc;split at h
    ·rename_i t x h1 h2;split at h
     ·rename_i e hd;split at h
      ·rename_i i zs hi hz;cases dU:mq i
       ·rw[dU]at h;simp only[bk]at h;obtain⟨σ',e1,e2⟩:=lD h;rw[jy]at e2;refine⟨_,qZ _ _ hR (by simp [oN,wH,hc]) rfl rfl (λh=>by simp [yN,hc]at h),e2,λR' k' s' ha=>?_⟩;have eD:=ha.σ rfl rfl;unfold fq;rw[hP s' ha];simp only[hc,<-hargs s' ha,h1,h2,hd,hi,hz,dU,bk,<-eD,e1,aO];rw[jy]
       ·rw[dU]at h;cases h
      ·cases h
     ·cases h
    ·cases h
   ·rename_i hc;split at h
    ·rename_i t u m key h1 h2;split at h
     ·rename_i kt et hd;split at h
      ·rename_i ek he;obtain⟨σ',e1,e2⟩:=lD h;rw[jy]at e2;refine⟨_,qZ _ _ hR (by simp [oN,wH,hc]) rfl rfl (λh=>by simp [yN,hc]at h),e2,λR' k' s' ha=>?_⟩;have eD:=ha.σ rfl rfl;unfold fq;rw[hP s' ha];simp only[hc,<-hargs s' ha,h1,h2,hd,he,<-eD,e1,aO];rw[jy]
      ·cases h
     ·cases h
    ·cases h
   ·rename_i b hn1 hn2 mD o9 rW hc
    exact dflt h (λR' k' s' ha=>by
     unfold fq;rw[hP s' ha];simp only[hc]
     all_goals (first|rfl|(cases b<;>first|rfl|exact absurd rfl hn1|exact absurd rfl hn2|exact absurd rfl mD|exact absurd rfl o9|exact absurd rfl rW)))
   ·rename_i f hc;cases hw:X.W.contains f
    ·simp only[hw,Bool.not_false,Bool.and_true,bz]at h;exact dflt h (λR' k' s' ha=>by unfold fq;rw[hP s' ha];simp only[hc,hw,Bool.not_false,Bool.and_true,bz])
    ·simp only[hw,YV,R4,bk]at h;obtain⟨⟨rr,σ'⟩,e1,e2⟩:=lD h;simp only at e2;rw[jy]at e2;refine⟨_,qZ _ _ hR (by simp only[oN,wH,hc];exact hw) rfl rfl (λh=>by simp [yN,hc]at h),e2,λR' k' s' ha=>?_⟩;have eD:=ha.σ rfl rfl;unfold fq;rw[hP s' ha];simp only[hc,<-hargs s' ha,hw,YV,R4,bk,<-eD,e1,aO];rw[jy]
   ·rename_i x hnf hc;simp only[bz]at h
    exact dflt h (λR' k' s' ha=>by
     unfold fq;rw[hP s' ha];simp only[hc]
     cases x<;>first|exact absurd rfl (hnf _)|simp only[bz])
   ·cases h
end
end
section
section
variable {R : Type} {X : Fx} {Rt : List (Nat × Nat)} {Bt : List Nat} {s s' : AS} {ops : Array Oper}
theorem El{o:Oper}{t:Nat}(h:Operand.tmp t∈o.op.operands.toList):t∈o.looksAt ops:=by unfold Oper.looksAt;refine fB.2 (.inl (RD.2 ⟨.tmp t,h,rfl⟩))
theorem ab7{o:Oper}{j d:Nat}{want:Bool}(hg:o.guard=δ (j,want))(hd:(ops[j]?).bind (·.dst)=δ d):d∈o.looksAt ops:=by unfold Oper.looksAt;refine fB.2 (.inr ?_);rw[hg];simp only[hd];simp
def CV(X:Fx)(Rt:List (Nat×Nat))(Bt:List Nat)(ops:Array Oper)(o:Oper)(s s':AS):Prop:=∀tag:Option (Nat×Bool),(∀g w,tag=δ (g,w)->g∈o.looksAt ops)->Ag X Rt Bt o (o.looksAt ops) tag s s'
theorem Ag.symm{o:Oper}{ls:List Nat}{tag:Option (Nat×Bool)}(h:Ag X Rt Bt o ls tag s s'):Ag X Rt Bt o ls tag s' s:=
 ⟨h.r2,h.r1,λt ht hL=>(h.eE t ht hL).symm,λt ht=>(h.pl t ht).symm,λb hb=>(h.bx b hb).symm,(λhr hs=>(h.σ hr hs).symm),λhr hs id cs=>(h.GR hr hs id cs).symm⟩
theorem CV.symm{o:Oper}(h:CV X Rt Bt ops o s s'):CV X Rt Bt ops o s' s:=λtag ht=>(h tag ht).symm
theorem Mx{q:Bool}{o:Oper}{f:FuncId}{l:List Operand}(h:CH X o=δ (f,l))(s:AS)(k:AS->Option R):fq X q o s k=(X.call f (l.map (ev X s)) s.σ).bind λr=>k ((s.heap r.2).put X o.dst r.1):=by
 unfold CH at h;split at h
 ·rename_i c ho;split at h
  ·rename_i f' hc;cases hw:X.W.contains f'
   ·rw[hw]at h;cases h
   ·rw[hw]at h;simp only[bz,ψ,ir]at h;obtain⟨rfl,rfl⟩:=h;unfold fq iR;simp only[ho,hc,hw,YV,R4,bk]
  ·cases h
 ·cases h
theorem No{o:Oper}{k:AS->Option R}{r:R}(hR:rM X Rt Bt o)(hI:RI X Rt Bt s)(h:lS X η ops o s k=δ r):
  ∃u,rA X Rt Bt o (o.looksAt ops) s.σ u/\k (u.ap s)=δ r/\∀(R':Type)(k':AS->Option R')(s':AS),CV X Rt Bt ops o s s'->lS X η ops o s' k'=k' (u.ap s'):=by
 unfold lS at h;cases hg:o.guard with
 |none=>rw[hg]at h;obtain⟨u,h1,h2,h3⟩:=an7 (ls:=o.looksAt ops) hR hI (λt ht=>El ht) h;refine⟨u,h1,h2,λR' k' s' ha=>?_⟩;unfold lS;rw[hg];exact h3 R' k' s' (ha μ (λg w e=>by cases e))
 |some jw=>
  obtain⟨j,want⟩:=jw;rw[hg]at h;simp only at h;cases hd:(ops[j]?).bind (·.dst)with
  |none=>rw[hd]at h;cases h
  |some d=>
   rw[hd]at h;simp only at h;cases hb:Ej X o d
   ·rw[hb]at h;simp only[bk]at h;have lQ:=ab7 (ops:=ops) hg hd;have yD:∀g w,(δ (d,want):Option (Nat×Bool))=δ (g,w)->g∈o.looksAt ops:=λg w e=>by injection e with e;injection e with e _;rw[<-e];exact lQ
    have P9:X.L.contains d=ι:=by simp only[Ej,mP]at hb;exact hb.1
    cases qh:CH X o with
    |some fa=>
     obtain⟨f,as'⟩:=fa;rw[qh]at h;simp only at h;obtain⟨rv,e1,e2⟩:=lD h
     have key:∀(x:AV),s.sl.getD d .undef=x->(x=.aJ []\/∃c,x=.bool c/\(c==want)=ι)\/∃c,x=.bool c/\(c==want)=η:=by
      intro x hx;rw[hx]at e1;unfold θ at e1;split at e1
      ·rename_i c;cases hc:(c==want)
       ·exact .inl (.inr ⟨c,rfl,hc⟩)
       ·exact .inr ⟨c,rfl,hc⟩
      ·exact .inl (.inl rfl)
      ·cases e1
     rcases key _ rfl with hno|⟨c,hc,P7⟩
     ·have hG:∀(R':Type)(x:Option R')(y:Option R'),θ (s.sl.getD d .undef) want x y=y:=by
       intro R' x y;rcases hno with hh|⟨c,hh,P7⟩
       ·rw[hh];rfl
       ·rw[hh];simp only[θ,P7,bk]
      rw[hG]at e1;injection e1 with e1
      subst e1
      have yc:rj o=ι/\uL Bt o=ι:=by
       unfold CH at qh;split at qh
       ·rename_i c ho;exact⟨by simp only[rj,ho],by simp only[uL,ho]⟩
       ·cases qh
      refine⟨y9 X o.dst (.aJ []),Nw _ hR (λha=>by rw[yc.1]at ha;cases ha) (λha=>by rw[yc.2]at ha;cases ha),by rw[<-CC];exact e2,λR' k' s' ha=>?_⟩;have a:=ha _ yD;have kN:=a.eE d lQ P9;unfold lS;rw[hg];simp only[hd,hb,bk,qh];rw[<-kN,hG,aO,<-CC];rfl
     ·have hG:∀(R':Type)(x:Option R')(y:Option R'),θ (s.sl.getD d .undef) want x y=x:=by intro R' x y;rw[hc];simp only[θ,P7,bz]
      have hA:fq X η o s k=δ r:=by rw[Mx qh];rw[hG]at h;exact h
      obtain⟨u,h1,h2,h3⟩:=an7 (ls:=o.looksAt ops) hR hI (λt ht=>El ht) hA;refine⟨u,h1,h2,λR' k' s' ha=>?_⟩;have a:=ha _ yD;have kN:=a.eE d lQ P9;rw[<-h3 R' k' s' (ha μ (λg w e=>by cases e)),Mx qh];unfold lS;rw[hg];simp only[hd,hb,bk,qh];rw[<-kN,hG]
    |none=>
    rw[qh]at h;simp only at h;have yB:∀(s':AS),RI X Rt Bt s'->∀x b off,mV o=δ x->place X s' (δ (d,want)) x=δ (b,off)->rt X Rt o=δ b:=λs' hi x b off hx hp=>by simp only[rt,hx];exact Ih hi hp
    have CO:∀(s':AS),RI X Rt Bt s'->∀x b,mV o=δ x->rt X Rt o=δ b->place X s' (δ (d,want)) x=μ->kV (ev X s' x)=η:=λs' hi x b hx hr hp=>by simp only[rt,hx]at hr;exact Ch hi hr hp
    have hP:∀s',CV X Rt Bt ops o s s'->iR X o s' (δ (d,want))=iR X o s (δ (d,want)):=λs' ha=>by have a:=ha _ yD;exact(Ml (a.yM λt ht=>El ht) a.xk a.bx (yB s' a.r2)).symm
    cases hp:iR X o s (δ (d,want))with
    |some p=>obtain⟨b,rr⟩:=p;rw[hp]at h;simp only at h;obtain⟨off,e1,e2⟩:=lD h;subst e1;refine⟨Dn X o.dst b off (δ (d,want)),Wn hR (Vn hp) (Wc hI hp) (apa hp) yD,by rw[<-ID];exact e2,λR' k' s' ha=>?_⟩;unfold lS;rw[hg];simp only[hd,hb,bk,qh,hP s' ha,hp,aO];rw[ID]
    |none=>
     rw[hp]at h;simp only at h;obtain⟨v,e1,e2⟩:=lD h
     have hv:rj o=η->∀b,rt X Rt o=δ b->kV v=η:=by
      intro ha b hr;unfold θ at e1;split at e1
      ·rename_i c _;cases hc:(c==want)
       ·rw[hc]at e1;simp only[bk,ψ]at e1;subst e1;rfl
       ·rw[hc]at e1;exact(Vo hI ha hr hp e1).elim
      ·simp only[ψ]at e1;subst e1;rfl
      ·cases e1
     have Qt:uL Bt o=η->nE v=η:=by
      intro hc;unfold θ at e1;split at e1
      ·rename_i c _;cases jI:(c==want)
       ·rw[jI]at e1;simp only[bk,ψ]at e1;subst e1;rfl
       ·rw[jI]at e1;exact TI hI.C3 hc e1
      ·simp only[ψ]at e1;subst e1;rfl
      ·cases e1
     refine⟨y9 X o.dst v,Nw v hR hv Qt,by rw[<-CC];exact e2,λR' k' s' ha=>?_⟩;have a:=ha _ yD;have hV:eF X o s' (δ (d,want))=eF X o s (δ (d,want)):=(HO (a.yM λt ht=>El ht) a.xk a.bx (yB s' a.r2) (CO s' a.r2) a.σ a.GR a.r2.C3).symm;have kN:=a.eE d lQ P9;unfold lS;rw[hg];simp only[hd,hb,bk,qh,hP s' ha,hp,hV,<-kN,e1,aO];rw[CC]
   ·rw[hb]at h;cases h
structure vk (X : Fx) (Rt : List (Nat × Nat)) (Bt : List Nat) (ops : Array Oper) (x y : Oper) : Prop where
 dx:∀d,x.dst=δ d->d∉y.looksAt ops
 dd:∀d,x.dst=δ d->y.dst≠δ d
 dy:∀d,y.dst=δ d->d∉x.looksAt ops
 c1:uV X Rt Bt x y=ι
 c2:uV X Rt Bt y x=ι
theorem vk.symm{x y:Oper}(h:vk X Rt Bt ops x y):vk X Rt Bt ops y x:=⟨h.dy,λd hd e=>h.dd d e hd,h.dx,h.c2,h.c1⟩
theorem ad2{x y:Oper}(h:indep X Rt Bt ops x y=η):vk X Rt Bt ops x y:=by simp only[indep,fy,apR]at h;obtain⟨⟨h1,h2⟩,h3⟩:=h;obtain⟨a1,a2,a3⟩:=Oper.apart_spec h1;exact⟨a1,a2,a3,h2,h3⟩
theorem aoP{x y:Oper}(h:uV X Rt Bt x y=ι){b:Nat}(hb:wb X Rt x=δ b):rt X Rt y≠δ b:=by unfold uV at h;simp only[mP]at h;have:=h.1.1;rw[hb]at this;simpa using this
theorem Io{x y:Oper}(h:uV X Rt Bt x y=ι){d:Nat}(hd:x.dst=δ d)(hL:X.L.contains d=η):rt X Rt y≠δ d:=by unfold uV at h;simp only[mP]at h;have:=h.1.2;rw[hd]at this;simp only[hL,ap7]at this;simpa using this
theorem Ip{x y:Oper}(h:uV X Rt Bt x y=ι)(hw:oN X Rt x=η):(sj X Rt y=ι\/(soft Bt y=η/\yN x=η))/\oN X Rt y=ι:=by
 unfold uV at h;simp only[mP]at h;have:=h.2;rw[hw]at this;simp only[ap7,mP]at this;refine⟨?_,this.2⟩;cases hr:sj X Rt y
 ·exact .inl rfl
 ·have h2:=this.1;rw[hr,ap7,apC]at h2;exact .inr (by simpa using h2)
theorem agz{x:Oper}{a:Operand}(h:mV x=δ a):a∈x.op.operands.toList:=by obtain⟨dst,op,ty,pos,af,g⟩:=x;cases op<;>simp only[mV]at h<;>first|(cases h;done)|(injection h with h;subst h;simp [ZU])
theorem aj2(h:RI X Rt Bt s){x:Oper}{b:Nat}(hr:rt X Rt x=δ b)(hL:X.L.contains b=ι):False:=by
 unfold rt at hr;split at hr
 ·rename_i a _;cases a with
  |tmp t=>
   simp only[vG]at hr;cases hc:X.L.contains t
   ·rw[hc]at hr;have:=h.l t b hr;rw[hL]at this;cases this
   ·rw[hc]at hr;simp only[bz,ψ]at hr;subst hr;rw[hL]at hc;cases hc
  |_=>simp [vG]at hr
 ·cases hr
theorem W7{x:Oper}{b:Nat}(h:wb X Rt x=δ b):rt X Rt x=δ b:=by
 unfold wb at h;split at h
 ·exact h
 ·cases h
theorem WE{τ:Heap}{x y:Oper}(h:vk X Rt Bt ops x y){u:Up}(hu:rA X Rt Bt y (y.looksAt ops) τ u)(s:AS)(hs:RI X Rt Bt s)(hτ:u.σ≠μ->oT s.σ τ):CV X Rt Bt ops x s (u.ap s):=by
 intro tag ht;have hnd:∀t,t∈x.looksAt ops->u.d≠δ t:=λt ht e=>by rw[hu.d]at e;exact h.dy t e ht
 refine⟨hs,hu.ri hs,λt Qr hL=>?_,λt YK=>?_,λb hb=>?_,λhr AR=>?_,λhr AR=>?_⟩
 ·exact(NS (hnd t Qr) (λb v hb e=>by have:=(hu.bx b v hb).1;rw[<-e,hL]at this;cases this)).symm
 ·have Qr:t∈x.looksAt ops:=El (agz YK);simp only[place];cases hL:X.L.contains t
  ·simp only[bk];show _=match u.A s.A t with|some p=>_|none=>μ
   unfold Up.A;cases hd:u.d with
   |none=>rfl
   |some d=>
    have htd:(t==d)=ι:=by simp only[beq_eq_false_iff_ne];intro e;exact hnd t Qr (by rw[hd,e])
    simp only[htd,bk];cases hA:s.A t with
    |none=>rfl
    |some p=>
     have xh:vG X Rt (.tmp t)=δ p.slot:=by simp only[vG,hL,bk];exact hs.a t p hA
     have hf:oz u.tC d (δ p)=nr d (δ p):=by
      cases hi:u.tC with
      |false=>exact DY d _
      |true=>
       obtain⟨d',hd',hL'⟩:=hu.box hi;have qL:d'=d:=by rw[hu.d]at hd;rw[hd]at hd';injection hd' with e;exact e.symm
       subst qL;unfold oz;cases hk:nr d' (δ p)with
       |none=>rfl
       |some q=>
        have hqs:q=p:=by
         simp only[nr]at hk;cases AT:p.tag with
         |none=>rw[AT]at hk;simpa using hk.symm
         |some g=>
          obtain⟨g,w⟩:=g;rw[AT]at hk;simp only at hk;cases hg:(g==d')
          ·rw[hg]at hk;simpa using hk.symm
          ·rw[hg]at hk;cases hk
        subst hqs
        have hne:(q.slot==d')=ι:=by
         rw[beq_eq_false_iff_ne];intro e;have:rt X Rt x=δ q.slot:=by simp only[rt,YK];exact xh
         exact Io h.c2 hd' hL' (by rw[this,e])
        simp only[hne,R4,bk]
     rw[hf];simp only[nr];cases AT:p.tag with
     |none=>simp only[AT]
     |some gw=>
      obtain⟨g,w⟩:=gw;simp only;cases hgd:(g==d)
      ·simp only[bk,AT]
      ·simp only[bz];have ajb:g=d:=by simpa using hgd
       have:(tag==δ (g,w))=ι:=by rw[beq_eq_false_iff_ne];intro e;exact hnd g (ht g w e) (by rw[hd,ajb])
       rw[this];cases X.L.contains p.slot<;>rfl
  ·rfl
 ·refine(NS (λe=>?_) (λb' v hb' e=>?_)).symm
  ·rw[hu.d]at e
   have hLb:X.L.contains b=η:=by
    cases hc:X.L.contains b with
    |true=>rfl
    |false=>exfalso;exact aj2 hs hb hc
   exact Io h.c2 e hLb hb
  ·exact aoP h.c2 (hu.bx b' v hb').2 (by rw[<-e];exact hb)
 ·show s.σ=u.σ.getD s.σ;cases hs':u.σ with
  |none=>rfl
  |some σ=>
   rcases(Ip h.c2 (hu.σ (by rw[hs'];intro e;cases e))).1 with this|⟨this,_⟩
   ·rw[hr]at this;cases this
   ·rw[AR]at this;cases this
 ·show oT s.σ (u.σ.getD s.σ);cases hs':u.σ with
  |none=>exact zw _
  |some σ=>
   rcases(Ip h.c2 (hu.σ (by rw[hs'];intro e;cases e))).1 with this|⟨_,hf⟩
   ·rw[hr]at this;cases this
   ·exact λid cs=>(hτ (by rw[hs'];intro e;cases e) id cs).trans (hu.fr hf σ hs' id cs)
theorem afk{τ GS:Heap}{x y:Oper}(h:vk X Rt Bt ops x y){u v:Up}(hu:rA X Rt Bt x (x.looksAt ops) τ u)(hv:rA X Rt Bt y (y.looksAt ops) GS v):u.aoE v:=by
 have half:∀{τ GS:Heap}{x y:Oper}{u v:Up},vk X Rt Bt ops x y->rA X Rt Bt x (x.looksAt ops) τ u->rA X Rt Bt y (y.looksAt ops) GS v->(∀b a,u.bx=δ (b,a)->(∀c a',v.bx=δ (c,a')->c≠b)/\v.d≠δ b)/\(∀d,v.d=δ d->oz v.tC d u.new=u.new):=by
  intro τ GS x y u v h hu hv;refine⟨λb a hb=>?_,λd hd=>?_⟩
  ·obtain⟨k1,k2⟩:=hu.bx b a hb;refine⟨λc a' hc e=>?_,λe=>?_⟩
   ·have:=(hv.bx c a' hc).2;subst e;exact aoP h.c1 k2 (W7 this)
   ·rw[hv.d]at e;exact Io h.c2 e k1 (W7 k2)
  ·cases hn:u.new with
   |none=>rfl
   |some p=>
    obtain⟨k1,k2,k3,k4⟩:=hu.new p hn
    have hkt:nr d (δ p)=δ p:=by
     simp only[nr];cases AT:p.tag with
     |none=>rfl
     |some gw=>
      obtain⟨g,w⟩:=gw;simp only
      have:(g==d)=ι:=by rw[beq_eq_false_iff_ne];intro e;rw[hv.d]at hd;exact h.dy d hd (e▸k2 g w AT)
      rw[this];rfl
    unfold oz;rw[hkt];simp only;cases hi:v.tC with
    |false=>rfl
    |true=>
     obtain⟨d',hd',hL'⟩:=hv.box hi;have qL:d'=d:=by rw[hv.d]at hd;rw[hd]at hd';injection hd' with e;exact e.symm
     subst qL
     have:(p.slot==d')=ι:=by rw[beq_eq_false_iff_ne];intro e;exact Io h.c2 hd' hL' (by rw[k3,e])
     simp only[this,R4,bk]
 obtain⟨a1,a2⟩:=half h hu hv;obtain⟨b1,b2⟩:=half h.symm hv hu;refine⟨λd hd e=>?_,a1,b1,a2,b2,?_⟩
 ·rw[hu.d]at hd;rw[hv.d]at e;exact h.dd d hd e
 ·cases hs:u.σ with
  |none=>exact .inl rfl
  |some σ=>
   right;have hw:=hu.σ (by rw[hs];intro e;cases e);have aoo:=(Ip h.c1 hw).2;cases kM:v.σ with
   |none=>rfl
   |some σ2=>rw[hv.σ (by rw[kM];intro e;cases e)]at aoo;cases aoo
theorem TJ{o:Oper}{k:AS->Option R}{r:R}(ho:rM X Rt Bt o):∀(l1 l2:List Oper)(s:AS),RI X Rt Bt s->(∀y∈l1,rM X Rt Bt y)->(∀y∈l1,vk X Rt Bt ops y o)->qG X η ops (l1++o::l2) s k=δ r->lS X η ops o s (λs1=>qG X η ops (l1++l2) s1 k)=δ r
 |[],l2,s,_,_,_,h=>h
 |y::l1,l2,s,hs,hr,hi,h=>by
  simp only[kF,qG]at h;obtain⟨u,u1,u2,u3⟩:=No (hr y (by simp)) hs h;have ih:=TJ ho l1 l2 (u.ap s) (u1.ri hs) (λz hz=>hr z (by simp [hz])) (λz hz=>hi z (by simp [hz])) u2;obtain⟨v,v1,v2,v3⟩:=No ho (u1.ri hs) ih;have hy:=hi y (by simp)
  have hbe:v.σ≠μ->oT s.σ (u.ap s).σ:=λhv=>by
   have hnu:u.σ=μ:=by
    cases hu:u.σ with
    |none=>rfl
    |some σ=>have hw:=(Ip hy.c1 (u1.σ (by rw[hu];intro e;cases e))).2;rw[v1.σ hv]at hw;cases hw
   show oT s.σ (u.σ.getD s.σ);rw[hnu];exact zw _
  rw[v3 R _ s (WE hy.symm u1 s hs (λ_=>zw _)).symm];simp only[kF,qG];rw[u3 R _ (v.ap s) (WE hy v1 s hs hbe),Up.comm (afk hy u1 v1)];exact v2
def Down(ops:Array Oper)(S:Nat->Prop):Prop:=∀i o e,S i->ops[i]? =δ o->e∈o.after->Rv .any e=η->S e.on
def I9(ops:Array Oper)(i:Nat)(S:Nat->Prop):Prop:=∀o e,ops[i]? =δ o->e∈o.after->Rv .any e=η->S e.on
theorem Un(acc:List Nat):∀(es:List Edge)(m j:Nat),(es.foldl (λs e=>bif Rv .any e then s ||| 2 ^ e.on ||| acc.getD e.on 0 else s) m).testBit j=η->
  m.testBit j=η\/∃e∈es,Rv .any e=η/\(e.on=j\/(acc.getD e.on 0).testBit j=η)
 |[],m,j,h=>.inl h
 |e::es,m,j,h=>by
  simp only[Wv]at h;rcases Un acc es _ j h with h|⟨e',he',hb,hx⟩
  ·cases hb:Rv .any e
   ·rw[hb]at h;exact .inl h
   ·rw[hb]at h;simp only[bz,Nat.testBit_or,Bool.or_eq_true]at h;rcases h with(h|h)|h
    ·exact .inl h
    ·refine .inr ⟨e,by simp,hb,.inl ?_⟩;rw[Nat.testBit_two_pow]at h;simpa using h
    ·exact .inr ⟨e,by simp,hb,.inr h⟩
  ·exact .inr ⟨e',by simp [he'],hb,hx⟩
theorem T8:∀(l:List Oper)(acc:List Nat),(∀i,l[i]? =ops[acc.length+i]?)->
  (∀(m j:Nat),(acc.getD m 0).testBit j=η->∀S,Down ops S->I9 ops m S->S j)->
  ∀(m j:Nat),((IW l acc).getD m 0).testBit j=η->∀S,Down ops S->I9 ops m S->S j
 |[],acc,hl,hacc=>hacc
 |o::l,acc,hl,hacc=>by
  simp only[IW];refine T8 l _ (λi=>by have:=hl (i+1);simp at this;rw[this];simp;congr 1;omega) ?_;intro m j h S hS hD;have h0:=hl 0;simp at h0;by_cases hm:m<acc.length
  ·rw[RU,gZ hm]at h;exact hacc m j h S hS hD
  ·by_cases hm2:m=acc.length
   ·subst hm2;rw[RU,kC (bR _)]at h;simp only[Nat.sub_self,Y3,Sk]at h;rcases Un acc _ _ j h with h|⟨e,he,hb,hx⟩
    ·simp at h
    ·have Db:S e.on:=hD o e h0.symm (by simpa using he) hb;rcases hx with hx|hx
     ·exact hx▸Db
     ·exact hacc e.on j hx S hS (λo' e' ho' he' hb'=>hS e.on o' e' Db ho' he' hb')
   ·rw[RU,kC (by omega),kD (by simp;omega)]at h;simp at h
theorem SQ{FA:List Nat}:∀(l:List Oper)(i:Nat),(∀j,l[j]? =ops[i+j]?)->Iz X Rt Bt ops FA l i=η->∀n o,i<=n->ops[n]? =δ o->∀m y,m<n->ops[m]? =δ y->(FA.getD n 0).testBit m=η\/indep X Rt Bt ops y o=η
 |[],i,hl,_,n,o,hn,ho,m,y,hm,hy=>by have:=hl (n-i);rw[show i+(n-i)=n by omega,ho]at this;simp at this
 |x::l,i,hl,h,n,o,hn,ho,m,y,hm,hy=>by
  simp only[Iz,fy]at h;by_cases hni:n=i
  ·subst hni;have h0:=hl 0;simp at h0;rw[ho]at h0;injection h0 with h0;subst h0
   have:=jC.1 h.1 (y,m) (by
    rw[List.mem_zipIdx_iff_getElem?];simp only;rw[Vp hm,ZQ]
    exact hy)
   simpa using this
  ·exact SQ l (i+1) (λj=>by have:=hl (j+1);simp at this;rw[this];congr 1;omega) h.2 n o (by omega) ho m y hm hy
theorem Th:∀(l:List Oper)(i:Nat),(∀j,l[j]? =ops[i+j]?)->IF l i=η->∀n o e,i<=n->ops[n]? =δ o->e∈o.after->Rv .any e=η->e.on<n
 |[],i,hl,_,n,o,e,hn,ho,he,hb=>by have:=hl (n-i);rw[show i+(n-i)=n by omega,ho]at this;simp at this
 |x::l,i,hl,h,n,o,e,hn,ho,he,hb=>by
  simp only[IF,fy]at h;by_cases hni:n=i
  ·subst hni;have h0:=hl 0;simp at h0;rw[ho]at h0;injection h0 with h0;subst h0
   have:=jC.1 h.1 e (by simpa using he);rw[hb]at this;simpa [Nat.blt_eq]using this
  ·exact Th l (i+1) (λj=>by have:=hl (j+1);simp at this;rw[this];congr 1;omega) h.2 n o e (by omega) ho he hb
def oX(listed:Array Bool)(n:Nat):List Nat:=(List.range n).filter λi=>!listed.getD i η
def wJ(ops:Array Oper)(listed:Array Bool):List Oper:=(oX listed ops.size).filterMap (ops[·]?)
theorem ada{listed:Array Bool}{n i:Nat}(hi:i<n)(hl:listed.getD i η=ι)(hs:listed.size=n):
  ∃l1 l2,oX listed n=l1++i::l2/\oX (listed.setIfInBounds i η) n=l1++l2/\∀j∈l1,j<i/\listed.getD j η=ι:=by
 refine⟨(List.range i).filter λj=>!listed.getD j η,((apN (i+1) (n-i-1))).filter λj=>!listed.getD j η,?_,?_,λj hj=>?_⟩
 ·unfold oX
  rw[show List.range n=List.range i++i::apN (i+1) (n-i-1) by
   rw[TF,TF,<-aqq,show n-i-1+1=n-i by omega];have:=List.range'_append_1 (s:=0) (m:=i) (n:=n-i);rw[show 0+i=i by omega,show i+(n-i)=n by omega]at this
   exact this.symm]
  rw[XI,Sn,hl];simp
 ·unfold oX
  rw[show List.range n=List.range i++i::apN (i+1) (n-i-1) by
   rw[TF,TF,<-aqq,show n-i-1+1=n-i by omega];have:=List.range'_append_1 (s:=0) (m:=i) (n:=n-i);rw[show 0+i=i by omega,show i+(n-i)=n by omega]at this
   exact this.symm]
  rw[XI,Sn];have rC:(listed.setIfInBounds i η).getD i η=η:=by simp [ap5,hs,hi]
  rw[rC];simp only[YV,ZD,if_false];congr 1
  ·apply List.filter_congr;intro j hj;have:j<i:=by simpa using hj
   rw[mO,mO,Ti (by omega)]
  ·apply List.filter_congr;intro j hj;have:i<j:=by simp at hj;omega
   rw[mO,mO,Ti (by omega)]
 ·rw[Ve]at hj;exact⟨by simpa using hj.1,by simpa using hj.2⟩
end
end
section
open Go.RowKit
section
variable {X : Fx} {z : Z} {s : AS} {a : Act} {w w' : World} {E : List Pl} {pb : Nat -> Option Nat} {R : Type}
theorem Ik(h:St X z s a w E pb){d:Nat}{av:AV}(AK:s.sl.getD d .undef=av)(h1:av≠.undef)(h2:∀cs,av≠.lbx cs):∃v,a.tmps[d]? =δ v/\a.tmps.getD d undef=v/\an (ctx z w E pb) av v:=by
 by_cases hd:d<s.sl.length
 ·have e:s.sl[d]? =δ av:=by rw[dg hd];rw[<-AK];simp [RU,hd]
  have r:=(h.slot d av e).rep h2;have hd':d<a.tmps.size:=by rw[h.len];exact hd
  exact⟨a.tmps.getD d undef,by simp [ap5,hd'],rfl,r⟩
 ·exact absurd (by rw[<-AK];simp [RU,Nat.le_of_not_lt hd]) h1
theorem ag2(hs:cP X)(h:St X z s a w E pb){q:Bool}{ops:Array Oper}{i:Nat}{o:Oper}(hi:ops[i]? =δ o){k:AS->Option R}{r:R}(hk:lS X q ops o s k=δ r){K:Act->World->Prop}{Q:Exit->Act->World->Prop}
  (hK:∀s' a' w' E' bJ,St X z s' a' w' E' bJ->k s'=δ r->K a' w'):wpOp X.P ops Q i K a w:=by
 unfold wpOp;rw[hi];simp only;unfold lS at hk;cases hg:o.guard with
 |none=>rw[hg]at hk;rw[aH (by simp [Tm,hg])];exact .inl (anS hs h hk hK)
 |some jw=>
  obtain⟨j,want⟩:=jw;rw[hg]at hk;simp only at hk;cases hd:(ops[j]?).bind (·.dst)with
  |none=>rw[hd]at hk;cases hk
  |some d=>
   rw[hd]at hk;simp only at hk;cases hL:Ej X o d
   ·rw[hL]at hk;simp only[bk]at hk;have yh:Tm o (yielded ops a.tmps)=(yielded ops a.tmps j==δ want):=by simp [Tm,hg]
    have hy:yielded ops a.tmps j=match a.tmps[d]? with|some (.bool b)=>δ b|_=>μ:=by simp only[yielded,hd,aO];rfl
    cases qh:CH X o with
    |some fa=>
     obtain⟨f,as'⟩:=fa;rw[qh]at hk;simp only at hk;obtain⟨rv,e1,e2⟩:=bD.1 hk;generalize kN:s.sl.getD d .undef=gv at e1;cases gv<;>simp only[θ]at e1<;>first|(cases e1;done)|skip
     case bool b=>
      obtain⟨v,v1,v2,v3⟩:=Ik h kN (by intro e;cases e) (by intro cs e;cases e);simp only[an]at v3;subst v3;cases tT:(b==want)
      ·rw[tT]at e1;simp only[bk]at e1;injection e1 with e1;subst e1
       have hw:¬Tm o (yielded ops a.tmps)=η:=by rw[yh,hy,v1];simp at tT ⊢;exact tT
       rw[aF hw];exact hK _ _ _ _ _ (h.undef o.dst) e2
      ·rw[tT]at e1;simp only[bz]at e1;have Jf:b=want:=by simpa using tT
       have hw:Tm o (yielded ops a.tmps)=η:=by rw[yh,hy,v1];simp [Jf]
       rw[aH hw];exact .inl (anS (q:=q) hs h (by rw[Mx qh,e1];exact e2) hK)
     case aJ vs=>
      cases vs with
      |cons x xs=>cases e1
      |nil=>
       injection e1 with e1;subst e1
       obtain⟨v,v1,v2,v3⟩:=Ik h kN (by intro e;cases e) (by intro cs e;cases e);simp only[an]at v3;obtain⟨us,rfl,_⟩:=v3;have hw:¬Tm o (yielded ops a.tmps)=η:=by rw[yh,hy,v1];simp
       rw[aF hw];exact hK _ _ _ _ _ (h.undef o.dst) e2
    |none=>
    rw[qh]at hk;simp only at hk;cases hp:iR X o s (δ (d,want))with
    |some p=>
     obtain⟨b,rr⟩:=p;rw[hp]at hk;simp only at hk;obtain⟨off,e1,e2⟩:=bD.1 hk;subst e1;by_cases hw:Tm o (yielded ops a.tmps)=η
     ·rw[aH hw]
      have ht:oU a (δ (d,want)):=by
       rw[yh,hy]at hw;simp only[oU];split at hw
       ·rename_i b' hb';simp at hw;subst hw;rw[mO,hb'];rfl
       ·simp at hw
      obtain⟨n,k1,k2⟩:=Wd h ht hp;exact .inl (oR k2 (hK _ _ _ _ _ (h.NZ o.dst (λ_=>⟨n,k1,rfl⟩)) e2))
     ·rw[aF hw];refine hK _ _ _ _ _ (h.NZ o.dst (λht=>absurd ?_ hw)) e2;rw[yh,hy];simp only[oU]at ht;rw[mO]at ht;cases hc:a.tmps[d]? with
      |none=>rw[hc]at ht;simp [undef]at ht
      |some v=>rw[hc]at ht;simp at ht;subst ht;simp
    |none=>
     rw[hp]at hk;simp only at hk;obtain⟨av,e1,e2⟩:=bD.1 hk;generalize kN:s.sl.getD d .undef=gv at e1;cases gv<;>simp only[θ]at e1<;>first|(cases e1;done)|skip
     case bool b=>
      obtain⟨v,v1,v2,v3⟩:=Ik h kN (by intro e;cases e) (by intro cs e;cases e);simp only[an]at v3;subst v3;cases tT:(b==want)
      ·rw[tT]at e1;simp only[bk]at e1;injection e1 with e1;subst e1
       have hw:¬Tm o (yielded ops a.tmps)=η:=by rw[yh,hy,v1];simp at tT ⊢;exact tT
       rw[aF hw];exact hK _ _ _ _ _ (h.undef o.dst) e2
      ·rw[tT]at e1;simp only[bz]at e1;have Jf:b=want:=by simpa using tT
       have hw:Tm o (yielded ops a.tmps)=η:=by rw[yh,hy,v1];simp [Jf]
       rw[aH hw];have ht:oU a (δ (d,want)):=by simp only[oU];rw[v2,Jf]
       exact .inl (We hs h ht e1 λv w' E' h3 h4=>hK _ _ _ _ _ (h3.put o.dst h4) e2)
     case aJ vs=>
      cases vs with
      |cons x xs=>cases e1
      |nil=>
       injection e1 with e1;subst e1
       obtain⟨v,v1,v2,v3⟩:=Ik h kN (by intro e;cases e) (by intro cs e;cases e);simp only[an]at v3;obtain⟨us,rfl,_⟩:=v3;have hw:¬Tm o (yielded ops a.tmps)=η:=by rw[yh,hy,v1];simp
       rw[aF hw];exact hK _ _ _ _ _ (h.undef o.dst) e2
   ·rw[hL]at hk;cases hk
def Fr(X:Fx)(ds:List Nat)(s s':AS):Prop:=∀i,i∉ds->X.L.contains i=ι->s'.sl[i]? =s.sl[i]?
theorem Fr.refl(ds:List Nat)(s:AS):Fr X ds s s:=λ_ _ _=>rfl
theorem Fr.trans{d1 d2:List Nat}{s s' s'':AS}(h:Fr X d1 s s')(k:Fr X d2 s' s''):Fr X (d1++d2) s s'':=λi hi hL=>by rw[fB]at hi;exact(k i (λe=>hi (.inr e)) hL).trans (h i (λe=>hi (.inl e)) hL)
theorem Fr.mono{d1 d2:List Nat}{s s':AS}(h:Fr X d1 s s')(k:∀i∈d1,i∈d2):Fr X d2 s s':=λi hi hL=>h i (λe=>hi (k i e)) hL
theorem Fr.put(d:Option Nat)(v:AV)(s:AS):Fr X d.toList s (s.put X d v):=λi hi hL=>by
 cases d with
 |none=>rfl
 |some d=>simp only[SF];rw[gd,aF];intro e;subst e;simp at hi
theorem Fr.lM(d:Option Nat)(b off:Nat)(tag:Option (Nat×Bool))(s:AS):Fr X d.toList s (s.lM X d b off tag):=λi hi hL=>by
 cases d with
 |none=>rfl
 |some d=>simp only[AS.lM];rw[gd,aF];intro e;subst e;simp at hi
theorem Fr.nA(d:Nat)(cs:List AV)(s:AS):Fr X [d] s (s.nA d cs):=λi hi hL=>by simp only[AS.nA];rw[gd,aF];intro e;subst e;simp at hi
theorem Fr.nX(d:Option Nat)(v:AV)(σ:Heap)(s:AS):Fr X d.toList s ((s.heap σ).put X d v):=λi hi hL=>by
 cases d with
 |none=>rfl
 |some d=>simp only[SF,AS.heap];rw[gd,aF];intro e;subst e;simp at hi
theorem Fr.agC(d:Option Nat)(v:AV)(b:Nat)(cs:List AV)(hb:X.L.contains b=η)(s:AS):Fr X d.toList s ((⟨s.sl.set b (.lbx cs),s.A,s.σ⟩:AS).put X d v):=λi hi hL=>by
 have YL:b≠i:=λe=>by rw[e,hL]at hb;cases hb
 cases d with
 |none=>simp only[SF];rw[gd,aF YL]
 |some d=>simp only[SF];rw[gd,aF,gd,aF YL];intro e;subst e;simp at hi
theorem agc{tag:Option (Nat×Bool)}{x:Operand}{b off:Nat}(h:place X s tag x=δ (b,off)):X.L.contains b=η:=by
 cases x with
 |tmp t=>
  simp only[place]at h;cases hL:X.L.contains t
  ·rw[hL]at h;simp only[bk]at h;split at h
   ·rename_i p hA;cases hp:X.L.contains p.slot
    ·rw[hp]at h;cases h
    ·rw[hp]at h;simp only[bz]at h;split at h
     ·simp only[ψ,ir]at h;rw[<-h.1];exact hp
     ·rename_i g hg;cases ht:(tag==δ g)
      ·rw[ht]at h;cases h
      ·rw[ht]at h;simp only[bz,ψ,ir]at h;rw[<-h.1];exact hp
   ·cases h
  ·rw[hL]at h;simp only[bz,ψ,ir]at h;rw[<-h.1];exact hL
 |_=>simp [place]at h
theorem bind_congr{α β:Type}{x:Option α}{f g:α->Option β}(h:∀a,x=δ a->f a=g a):x.bind f=x.bind g:=by cases x with|none=>rfl|some a=>exact h a rfl
theorem acJ{x:AV}{σ:Heap}{f g:Nat->Heap->Option R}(h:∀n σ,f n σ=g n σ):A.yw x σ f=A.yw x σ g:=by
 have:f=g:=funext λn=>funext λσ=>h n σ
 rw[this]
theorem ab9{x:AV}{σ:Heap}{f g:AV->Heap->Option R}(h:∀v σ,f v σ=g v σ):A.yl x σ f=A.yl x σ g:=by
 have:f=g:=funext λn=>funext λσ=>h n σ
 rw[this]
theorem ac2{q str:Bool}{i:Operand}{dst:Option Nat}{k k2:AS->Option R}(h:∀s',Fr X dst.toList s s'->k s'=k2 s'):
  (bif q||str then μ else A.yl (ev X s i) s.σ λv σ=>k ((s.heap σ).put X dst v))=(bif q||str then μ else A.yl (ev X s i) s.σ λv σ=>k2 ((s.heap σ).put X dst v)):=by
 cases(q||str)
 ·simp only[bk];exact ab9 λ_ _=>h _ (Fr.nX _ _ _ _)
 ·rfl
theorem ad9{q:Bool}{o:Oper}{k k2:AS->Option R}(h:∀s',Fr X o.dst.toList s s'->k s'=k2 s'):fq X q o s k=fq X q o s k2:=by
 unfold fq;cases hp:iR X o s μ with
 |some p=>obtain⟨b,rr⟩:=p;exact bind_congr λp _=>h _ (Fr.lM _ _ _ _ _)
 |none=>
  simp only;have dflt:((eF X o s μ).bind λv=>k (s.put X o.dst v))=(eF X o s μ).bind λv=>k2 (s.put X o.dst v):=bind_congr λv _=>h _ (Fr.put _ _ _)
  obtain⟨dst,op,ty,pos,af,g⟩:=o;cases op<;>simp only<;>first|exact ac2 h|exact dflt|skip
  case alloc t=>
   cases dst with
   |none=>rfl
   |some d=>
    simp only;cases X.L.contains d
    ·simp only[bk];cases X.O.contains d
     ·exact dflt
     ·simp only[bz];split
      ·exact h _ (Fr.nX _ _ _ _)
      ·rfl
    ·simp only[bz];split
     ·exact h _ (Fr.nA _ _ _)
     ·rfl
  case box t x=>
   cases dst with
   |none=>rfl
   |some d=>
    simp only;cases X.L.contains d
    ·simp only[bk];cases X.O.contains d
     ·exact dflt
     ·exact bind_congr λcs _=>h _ (Fr.nX _ _ _ _)
    ·exact bind_congr λcs _=>h _ (Fr.nA _ _ _)
  case store t x v=>
   split
   ·rename_i b off hpl;exact bind_congr λ_ _=>bind_congr λ_ _=>bind_congr λ_ _=>h _ (Fr.agC _ _ _ _ (agc hpl) _)
   ·exact bind_congr λ_ _=>bind_congr λ_ _=>h _ (Fr.nX _ _ _ _)
  case makeMap t rr=>
   cases rr with
   |none=>exact h _ (Fr.nX _ _ _ _)
   |some x=>rfl
  case range t x=>
   split
   ·exact bind_congr λ_ _=>h _ (Fr.nX _ _ _ _)
   ·rfl
  case buildSlice t n ps=>
   cases dst with
   |none=>exact dflt
   |some d=>
    simp only;cases X.O.contains d
    ·exact dflt
    ·simp only[bz];refine bind_congr λv _=>?_
     unfold A.ve;split
     ·cases(Ym _==0)
      ·exact h _ (Fr.nX _ _ _ _)
      ·rfl
     ·rfl
  case mapUpdate t m i v=>
   split
   ·split
    ·exact bind_congr λ_ _=>h _ (Fr.nX _ _ _ _)
    ·rfl
   ·rfl
  case call c=>
   split
   ·split
    ·split
     ·split
      ·cases mq _
       ·exact bind_congr λ_ _=>h _ (Fr.nX _ _ _ _)
       ·rfl
      ·rfl
     ·split
      ·cases mq _
       ·exact bind_congr λ_ _=>h _ (Fr.nX _ _ _ _)
       ·rfl
      ·rfl
     ·rfl
    ·rfl
   ·split
    ·split
     ·split
      ·cases mq _
       ·exact bind_congr λ_ _=>h _ (Fr.nX _ _ _ _)
       ·rfl
      ·rfl
     ·rfl
    ·rfl
   ·cases hv:eF X _ s μ
    ·simp only[A.uY];cases q
     ·simp only[bk];split
      ·split
       ·exact acJ λ_ _=>h _ (Fr.nX _ _ _ _)
       ·rfl
      ·rfl
     ·rfl
    ·exact h _ (Fr.put _ _ _)
   ·split
    ·split
     ·split
      ·cases mq _
       ·exact bind_congr λ_ _=>h _ (Fr.nX _ _ _ _)
       ·rfl
      ·rfl
     ·rfl
    ·rfl
   ·split
    ·split
     ·split
      ·exact bind_congr λ_ _=>h _ (Fr.nX _ _ _ _)
      ·rfl
     ·rfl
    ·rfl
   ·exact dflt
   ·cases(q&&!X.W.contains _)
    ·exact bind_congr λ_ _=>h _ (Fr.nX _ _ _ _)
    ·exact dflt
   ·cases q
    ·exact bind_congr λ_ _=>h _ (Fr.nX _ _ _ _)
    ·exact dflt
   ·rfl
theorem aea{q:Bool}{ops:Array Oper}{o:Oper}{k k2:AS->Option R}(h:∀s',Fr X o.dst.toList s s'->k s'=k2 s'):lS X q ops o s k=lS X q ops o s k2:=by
 unfold lS;split
 ·exact ad9 h
 ·split
  ·cases Ej X o _
   ·simp only[bk];split
    ·exact bind_congr λ_ _=>h _ (Fr.nX _ _ _ _)
    ·split
     ·exact bind_congr λ_ _=>h _ (Fr.lM _ _ _ _ _)
     ·exact bind_congr λ_ _=>h _ (Fr.put _ _ _)
   ·rfl
  ·rfl
theorem Vm(hs:cP X)(h:St X z s a w E pb){q:Bool}{ops:Array Oper}{i:Nat}{o:Oper}(hi:ops[i]? =δ o){k:AS->Option R}{r:R}(hk:lS X q ops o s k=δ r){K:Act->World->Prop}{Q:Exit->Act->World->Prop}
  (hK:∀s' a' w' E' bJ,St X z s' a' w' E' bJ->Fr X o.dst.toList s s'->k s'=δ r->K a' w'):wpOp X.P ops Q i K a w:=by
 classical
 have e:lS X q ops o s k=lS X q ops o s (λs'=>if Fr X o.dst.toList s s' then k s' else μ):=aea λs' hf=>by rw[aH hf]
 rw[e]at hk;refine ag2 hs h hi hk λs' a' w' E' bJ h' hk'=>?_
 split at hk'
 ·exact hK s' a' w' E' bJ h' (by assumption) hk'
 ·cases hk'
theorem anV(hs:cP X){q:Bool}{ops:Array Oper}{Q:Exit->Act->World->Prop}{r:R}{k:AS->Option R}{s0:AS}:
  ∀(l:List Oper)(i:Nat)(s:AS)(a:Act)(w:World)(E:List Pl)(pb:Nat->Option Nat),(∀j,l[j]? =ops[i+j]?)->St X z s a w E pb->qG X q ops l s k=δ r->
   (∀s' a' w' E' bJ,St X z s' a' w' E' bJ->Fr X (l.filterMap (·.dst)) s s'->k s'=δ r->Q .normal a' w')->wpOps X.P ops Q (apN i l.length) a w
 |[],i,s,a,w,E,pb,_,h,hk,hQ=>by simpa [wpOps]using hQ _ _ _ _ _ h (Fr.refl _ _) hk
 |o::l,i,s,a,w,E,pb,hl,h,hk,hQ=>by
  have h0:=hl 0;simp at h0;simp only[ZT,aqq];rw[wpOps_cons];refine Vm hs h h0.symm hk λs' a' w' E' bJ h' hf hk'=>?_
  refine anV hs (s0:=s0) l (i+1) s' a' w' E' bJ (λj=>by have:=hl (j+1);simp at this;rw[this];congr 1;omega) h' hk' λs2 a2 w2 E2 QU h2 qd hk2=>hQ s2 a2 w2 E2 QU h2 ((hf.trans qd).mono ?_) hk2
  intro j hj;rw[ap0];cases hd:o.dst with
  |none=>rw[hd]at hj;simpa using hj
  |some d=>rw[hd]at hj;simpa using hj
theorem af8(hs:cP X){Rt:List (Nat×Nat)}{Bt:List Nat}(h:St X z s a w E pb)(hI:RI X Rt Bt s){ops:Array Oper}{i:Nat}{o:Oper}(hR:rM X Rt Bt o)(hi:ops[i]? =δ o){k:AS->Option R}{r:R}(hk:lS X η ops o s k=δ r){K:Act->World->Prop}{Q:Exit->Act->World->Prop}
  (hK:∀s' a' w' E' bJ,St X z s' a' w' E' bJ->Fr X o.dst.toList s s'->RI X Rt Bt s'->k s'=δ r->K a' w'):wpOp X.P ops Q i K a w:=by
 classical
 have e:lS X η ops o s (λs'=>if RI X Rt Bt s' then k s' else μ)=δ r:=by obtain⟨u,h1,h2,h3⟩:=No hR hI hk;rw[h3 R _ s (λtag _=>⟨hI,hI,λ_ _ _=>rfl,λ_ _=>rfl,λ_ _=>rfl,λ_ _=>rfl,λ_ _=>zw _⟩),aH (h1.ri hI)];exact h2
 refine Vm hs h hi e λs' a' w' E' bJ h' hf hk'=>?_
 split at hk'
 ·exact hK s' a' w' E' bJ h' hf (by assumption) hk'
 ·cases hk'
theorem aeL(hs:cP X){Rt:List (Nat×Nat)}{Bt:List Nat}{ops:Array Oper}{Q:Exit->Act->World->Prop}{r:R}{k:AS->Option R}{s0:AS}(ND:∀n o e,ops[n]? =δ o->e∈o.after->Rv .any e=η->e.on<n)
  (ahE:∀n o m y,ops[n]? =δ o->m<n->ops[m]? =δ y->(∀S,Down ops S->I9 ops n S->S m)\/vk X Rt Bt ops y o) (Og:∀(n:Nat)(o:Oper),ops[n]? =δ o->rM X Rt Bt o)
  (hQ:∀s' a' w' E' bJ,St X z s' a' w' E' bJ->Fr X (ops.toList.filterMap (·.dst)) s0 s'->k s'=δ r->Q .normal a' w'):
  ∀(fuel:Nat)(listed:Array Bool)(s:AS)(a:Act)(w:World)(E:List Pl)(pb:Nat->Option Nat),listed.size=ops.size->(oX listed ops.size).length<=fuel->Down ops (λi=>listed.getD i η=η)->St X z s a w E pb->RI X Rt Bt s->qG X η ops (wJ ops listed) s k=δ r->Fr X (ops.toList.filterMap (·.dst)) s0 s->
   wpAny X.P .any ops Q fuel listed a w:=by
 have hnone:∀(listed:Array Bool),oX listed ops.size=[]->WW .any ops listed=[]:=by intro listed h;unfold WW;rw[List.filter_eq_nil_iff];intro i hi hr;simp only[fy]at hr;have:i∈oX listed ops.size:=Ve.2 ⟨hi,hr.1⟩;rw[h]at this;simp at this
 have hsome:∀(listed:Array Bool),listed.size=ops.size->WW .any ops listed=[]->oX listed ops.size=[]:=by
  intro listed hsz hr;cases tN:oX listed ops.size with
  |nil=>rfl
  |cons i0 tl=>
   exfalso;have hm:i0∈oX listed ops.size:=by rw[tN];simp
   obtain⟨h1,h2⟩:=Ve.1 hm;have hlt:i0<ops.size:=by simpa using h1
   have YW:(oX listed ops.size).Pairwise (·<·):=List.Pairwise.filter _ List.pairwise_lt_range;rw[tN,List.pairwise_cons]at YW
   have hall:∀j,j<i0->listed.getD j η=η:=by
    intro j hj;cases hc:listed.getD j η with
    |true=>rfl
    |false=>
     have:j∈oX listed ops.size:=Ve.2 ⟨by simp;omega,by simp [hc]⟩;rw[tN]at this;rcases fA.1 this with e|e
     ·omega
     ·have:=YW.1 j e;omega
   have:i0∈WW .any ops listed:=by
    unfold WW;refine Ve.2 ⟨h1,?_⟩;rw[fy];refine⟨h2,?_⟩;rw[tF hlt];simp only[ff,Sk];rw[aqb];intro e he;cases hb:Rv .any e with
    |false=>rfl
    |true=>have Db:=ND i0 _ e (tF hlt) he hb;have:=hall e.on Db;rw[mO,tF (by omega)]at this;simp only[Sk]at this;rw[mO,tF (by omega)];simp [this]
   rw[hr]at this;simp at this
 intro fuel;induction fuel with
 |zero=>intro listed s a w E pb hsz hle hdn h hI hk hf;have tN:oX listed ops.size=[]:=tE (by omega);refine⟨hnone listed tN,hQ s a w E pb h hf ?_⟩;simpa [wJ,tN,qG]using hk
 |succ fuel ih=>
  intro listed s a w E pb hsz hle hdn h hI hk hf;refine⟨λhr=>hQ s a w E pb h hf (by simpa [wJ,hsome listed hsz hr,qG]using hk),λi hi=>?_⟩;unfold WW at hi;obtain⟨h1,h2⟩:=Ve.1 hi;rw[fy]at h2;obtain⟨h2,h3⟩:=h2;have hlt:i<ops.size:=by simpa using h1
  have hun:listed.getD i η=ι:=by simpa using h2
  have ho:ops[i]? =δ ops[i]:=tF hlt
  have WN:I9 ops i (λj=>listed.getD j η=η):=by intro o e YS he hb;rw[YS]at h3;simp only[ff,Sk]at h3;rw[aqb]at h3;have h4:=h3 e he;rw[hb]at h4;simp only[YV,Bool.false_or]at h4;have Db:=ND i o e YS he hb;rw[mO,tF (by omega)]at h4;simp only[Sk]at h4;show listed.getD e.on η=η;rw[mO,tF (by omega)];simpa using h4
  obtain⟨l1,l2,e1,e2,e3⟩:=ada hlt hun hsz
  have tN:wJ ops listed=l1.filterMap (ops[·]?)++ops[i]::l2.filterMap (ops[·]?):=by unfold wJ;rw[e1,List.filterMap_append,ap0,ho]
  have ahG:wJ ops (listed.setIfInBounds i η)=l1.filterMap (ops[·]?)++l2.filterMap (ops[·]?):=by unfold wJ;rw[e2,List.filterMap_append]
  rw[tN]at hk
  have ajh:∀y∈l1.filterMap (ops[·]?),rM X Rt Bt y:=by intro y hy;obtain⟨j,hj,Qg⟩:=RD.1 hy;exact Og j y Qg
  have ajd:∀y∈l1.filterMap (ops[·]?),vk X Rt Bt ops y ops[i]:=by
   intro y hy;obtain⟨j,hj,Qg⟩:=RD.1 hy;obtain⟨j1,j2⟩:=e3 j hj;rcases ahE i ops[i] j y ho j1 Qg with k1|k1
   ·have:=k1 _ hdn WN;rw[j2]at this;cases this
   ·exact k1
  have agL:=TJ (Og i _ ho) _ _ s hI ajh ajd hk;refine af8 hs h hI (Og i _ ho) ho agL λs' a' w' E' bJ h' hf' PX hk'=>?_
  rw[<-ahG]at hk';refine ih _ s' a' w' E' bJ (by simpa using hsz) ?_ ?_ h' PX hk' ((hf.trans hf').mono ?_)
  ·rw[e2];rw[e1]at hle;simp at hle ⊢;omega
  ·intro j o e hj Qm he hb;by_cases hji:j=i
   ·subst hji;have:=WN o e Qm he hb;show(listed.setIfInBounds j η).getD e.on η=η;have Db:=ND j o e Qm he hb;rw[mO,Ti (by omega),<-mO];exact this
   ·have hj':listed.getD j η=η:=by replace hj:(listed.setIfInBounds i η).getD j η=η:=hj;rw[mO,Ti (λe=>hji e.symm),<-mO]at hj;exact hj
    have:=hdn j o e hj' Qm he hb;show(listed.setIfInBounds i η).getD e.on η=η;by_cases YM:e.on=i
    ·rw[YM];simp [ap5,hsz,hlt]
    ·rw[mO,Ti (λe'=>YM e'.symm),<-mO];exact this
  ·intro d hd;rcases fB.1 hd with hd|hd
   ·exact hd
   ·refine RD.2 ⟨ops[i],by simp,?_⟩;cases qL:ops[i].dst with
    |none=>rw[qL]at hd;simp at hd
    |some d'=>rw[qL]at hd;simp at hd;rw[hd]
theorem LY{t b:Nat}:∀{l:List (Nat×Nat)},l.lookup t=δ b->(t,b)∈l
 |[],h=>by cases h
 |(t',b')::l,h=>by
  simp only[List.lookup]at h;cases hc:(t==t')
  ·rw[hc]at h;exact jU _ (LY h)
  ·rw[hc]at h;simp only[ψ]at h;have:t=t':=by simpa using hc
   subst this;subst h;exact ZA
theorem afC(hs:cP X){ops:Array Oper}{Q:Exit->Act->World->Prop}{r:R}{k:AS->Option R}(hok:Ep X ops s.sl=η)(hA:∀t,s.A t=μ)(hQ:∀s' a' w' E' bJ,St X z s' a' w' E' bJ->Fr X (ops.toList.filterMap (·.dst)) s s'->k s'=δ r->Q .normal a' w'){id:Nat}
  (h:St X z s a w E pb) (hk:qG X η ops ops.toList s k=δ r):(Code.region id ops η).wp X.P Q a w:=by
 obtain⟨Rt,Bt,hok⟩:∃Rt Bt,HQ X Rt Bt ops s.sl=η:=by
  unfold Ep at hok;rcases Bool.or_eq_true_iff.1 hok with h|h
  ·exact⟨_,_,h⟩
  ·exact⟨_,_,h⟩
 unfold HQ at hok;simp only[fy]at hok;obtain⟨⟨⟨⟨⟨⟨⟨h1,h2⟩,h3⟩,h4⟩,h5⟩,h6⟩,h7⟩,h8⟩:=hok
 have hI:RI X Rt Bt s:=by
  refine⟨λt b hl=>?_,λt p hp=>(by rw[hA t]at hp;cases hp),λt b hl _=>?_,λt ht=>jC.1 h8 t (by simpa using ht)⟩
  ·have:=jC.1 h6 (t,b) (LY hl);exact this
  ·have:=jC.1 h5 (t,b) (LY hl);exact this
 have WR:∀j,ops.toList[j]? =ops[0+j]? :=λj=>by simp
 have tN:oX (U6 ops.size ι) ops.size=List.range ops.size:=by
  unfold oX;rw[apW];intro i hi;have:i<ops.size:=by simpa using hi
  simp [ap5,this]
 have ahH:wJ ops (U6 ops.size ι)=ops.toList:=by
  unfold wJ;rw[tN]
  have gen:∀(l pre:List Oper),(apN pre.length l.length).filterMap (λi=>(pre++l)[i]?)=l:=by
   intro l;induction l with
   |nil=>intro pre;rfl
   |cons x l ih=>intro pre;simp only[ZT,aqq,ap0];rw[kC (bR _)];simp only[Nat.sub_self,Y3];have:=ih (pre++[x]);simp only[PU,ZT,Us,Z3,nG,kF,YU]at this;rw[this]
  have:=gen ops.toList [];rw[TF];simpa using this
 refine wp_region_any h1 (aeL (s0:=s) hs (λn o e ho he hb=>Th ops.toList 0 WR h2 n o e (jK _) ho he hb) (λn o m y ho hm hy=>?_) (λn o ho=>rM.of (jC.1 h4 o (by have:=Array.mem_of_getElem? ho;simpa using this)) (jC.1 h7 o (by have:=Array.mem_of_getElem? ho;simpa using this))) hQ ops.size _ s a _ E pb (by simp) (by rw[tN];simp) ?_ (h.grow (w':=w.drew) ((Below.refl _ _).drew)) hI (by rw[ahH];exact hk) (Fr.refl _ _))
 ·rcases SQ ops.toList 0 WR h3 n o (jK _) ho m y hm hy with k1|k1
  ·left;exact λS hS hD=>T8 ops.toList [] (λi=>by simp) (λm j h=>by simp at h) n m k1 S hS hD
  ·exact .inr (ad2 k1)
 ·intro i o e hi ho he hb;have hlt:i<ops.size:=(wz.1 ho).1;exfalso;simp [ap5,hlt]at hi
theorem St.QD(h:St X z s a w E pb):St X z ⟨s.sl,λ_=>μ,s.σ⟩ a w E pb:=
 ⟨h.len,h.oW,h.slot,h.box,(λt p hp=>by cases hp),h.priv,h.inj,h.heap,h.defers,h.out,h.nm⟩
def AX.to:AX->Exit
 |.normal=>.normal
 |.exit i=>.exit i
 |.ret=>.ret
theorem He:∀(ds:List Nat)(sl:List AV)(i:Nat),(sZ sl ds).length=sl.length/\((sZ sl ds)[i]? =sl[i]? \/(sZ sl ds)[i]? =δ .undef)/\(i∉ds->(sZ sl ds)[i]? =sl[i]?)/\(i∈ds->i<sl.length->(sZ sl ds)[i]? =δ .undef)
 |[],sl,i=>⟨rfl,.inl rfl,λ_=>rfl,λh=>by simp at h⟩
 |d::ds,sl,i=>by
  obtain⟨h1,h2,h3,h4⟩:=He ds (sl.set d .undef) i;simp only[sZ]
  have rC:(sl.set d .undef)[i]? =if d=i then(if i<sl.length then δ .undef else μ)else sl[i]? :=by
   rw[gd];by_cases e:d=i
   ·subst e;simp
   ·simp [e]
  have hnone:¬i<sl.length->sl[i]? =μ:=λk=>kD (by omega)
  refine⟨by rw[h1];simp,?_,λhi=>?_,λhi hl=>?_⟩
  ·rcases h2 with h2|h2
   ·rw[h2,rC];by_cases e:d=i
    ·rw[aH e];split
     ·exact .inr rfl
     ·rename_i k;rw[hnone k];exact .inl rfl
    ·rw[aF e];exact .inl rfl
   ·exact .inr h2
  ·simp only[fA,not_or]at hi;rw[h3 hi.2,rC,aF (λe=>hi.1 e.symm)]
  ·by_cases hm:i∈ds
   ·exact h4 hm (by simpa using hl)
   ·simp only[fA]at hi;have:i=d:=hi.resolve_right hm;rw[h3 hm,rC,aH this.symm,aH hl]
theorem HF(vs:List AV):∀(live:List Nat)(j:Nat)(sl:List AV)(i:Nat),(CD vs sl live j).length=sl.length/\(i∉live->(CD vs sl live j)[i]? =sl[i]?)/\(i∈live->i<sl.length->∃n,n<live.length/\live[n]? =δ i/\(CD vs sl live j)[i]? =δ (vs.getD (j+n) .undef))
 |[],j,sl,i=>⟨rfl,λ_=>rfl,λh=>by simp at h⟩
 |d::live,j,sl,i=>by
  obtain⟨h1,h2,h3⟩:=HF vs live (j+1) (sl.set d (vs.getD j .undef)) i;simp only[CD];refine⟨by rw[h1];simp,λhi=>?_,λhi hl=>?_⟩
  ·simp only[fA,not_or]at hi;rw[h2 hi.2,gd,aF (λe=>hi.1 e.symm)]
  ·by_cases hm:i∈live
   ·obtain⟨n,k1,k2,k3⟩:=h3 hm (by simpa using hl);exact⟨n+1,by simp;omega,by simpa using k2,by rw[k3];congr 2;omega⟩
   ·simp only[fA]at hi;have:i=d:=hi.resolve_right hm;subst this;exact⟨0,by simp,rfl,by rw[h2 hm,gd];simp [hl]⟩
theorem St.meet{s s':AS}(h:St X z s' a w E pb){mods live:List Nat}(hl:s.sl.length=s'.sl.length)(hf:∀i,i∉mods->s'.sl[i]? =s.sl[i]?):St X z (s.meet mods live (vals s'.sl live) s'.σ) a w E pb:=by
 have kG:∀i:Nat,(s.meet mods live (vals s'.sl live) s'.σ).sl[i]? =s'.sl[i]? \/(s.meet mods live (vals s'.sl live) s'.σ).sl[i]? =δ AV.undef:=by
  intro i;simp only[AS.meet];obtain⟨c1,c2,c3,c4⟩:=He mods s.sl i;obtain⟨m1,m2,m3⟩:=HF (vals s'.sl live) live 0 (sZ s.sl mods) i;by_cases hm:i∈live
  ·by_cases hlt:i<s.sl.length
   ·obtain⟨n,k1,k2,k3⟩:=m3 hm (by rw[c1];exact hlt);left;rw[k3,Z3]
    have:(vals s'.sl live).getD n .undef=s'.sl.getD i .undef:=by simp only[vals,RU,tG,k2];rfl
    rw[this,dg (by omega)];simp [RU,show i<s'.sl.length by omega]
   ·left;rw[kD (by rw[m1,c1];omega),kD (by omega)]
  ·rw[m2 hm];by_cases hd:i∈mods
   ·by_cases hlt:i<s.sl.length
    ·exact .inr (c4 hd hlt)
    ·left;rw[kD (by rw[c1];omega),kD (by omega)]
   ·left;rw[c3 hd,hf i hd]
 have hlen:(s.meet mods live (vals s'.sl live) s'.σ).sl.length=s'.sl.length:=by simp only[AS.meet];rw[(HF (vals s'.sl live) live 0 (sZ s.sl mods) 0).1,(He mods s.sl 0).1];exact hl
 refine⟨by rw[h.len,hlen],by rw[hlen,h.oW],λi av hi=>?_,λi cs hi=>?_,(λt p hp=>by cases hp),h.priv,h.inj,h.heap,h.defers,h.out,h.nm⟩
 ·rcases kG i with e|e
  ·rw[e]at hi;exact h.slot i av hi
  ·rw[e]at hi;injection hi with hi;subst hi;trivial
 ·rcases kG i with e|e
  ·rw[e]at hi;exact h.box i cs hi
  ·rw[e]at hi;cases hi
end
end
open Fr renaming refl->aqu
section
open Go.RowKit
section
variable {X : Fx} {z : Z}
theorem force_eq{R:Type}:∀(l:List AV)(k:List AV->Option R),force l k=k l
 |[],k=>rfl
 |x::l,k=>by simp only[force];rw[force_eq l]
theorem Vq{R:Type}{q:Bool}{ops:Array Oper}:∀(l:List Oper)(s:AS)(k:AS->Option R),E9 X q ops l s k=qG X q ops l s k
 |[],s,k=>rfl
 |o::l,s,k=>by simp only[E9,qG];congr 1;funext s;rw[force_eq];exact Vq l _ k
theorem anR{α:Type}{c:AV}{t e:Option α}{r:α}(h:ξ c t e=δ r):(c=.bool η/\t=δ r)\/(c=.bool ι/\e=δ r):=by
 cases c<;>simp only[ξ]at h<;>first|(cases h;done)|skip
 rename_i b;cases b
 ·exact .inr ⟨rfl,h⟩
 ·exact .inl ⟨rfl,h⟩
theorem ad6{f:List AV->Heap->Option (AX×List AV×Heap)}{v:List AV}{σ:Heap}{r:AX×List AV×Heap}(h:Zo f v σ=δ r):∃n,apH f n v σ=δ r:=by
 unfold Zo at h;split at h
 ·rename_i hx;injection h with h
  exact⟨_,h▸SA (SA hx)⟩
 ·cases h
theorem acZ{R:Type}{f:List AV->Heap->(AX×List AV×Heap->Option R)->Option R}{v:List AV}{σ:Heap}{K:AX×List AV×Heap->Option R}{r:R}(h:A.NN f v σ K=δ r):∃n,A.EN f n v σ K=δ r:=by
 unfold A.NN at h;split at h
 ·rename_i hx;injection h with h
  obtain⟨n,hn⟩:=SA hx;exact⟨n,h▸hn n (bR _)⟩
 ·cases h
theorem Ij{R:Type}{e:AX}{k:AX->Option R}{r:R}:∀{xs:List AX},A.sel e k xs=δ r->k e=δ r
 |[],h=>by cases h
 |x::xs,h=>by
  simp only[A.sel]at h;cases he:(e==x)
  ·rw[he]at h;exact Ij h
  ·rw[he]at h;have:e=x:=by simpa using he
   subst this;exact h
theorem Cp{X:Fx}{c:Code}{ds:List Nat}{s s':AS}(h:Fr X ds s s'):∀i,i∉ds++X.L->s'.sl[i]? =s.sl[i]? :=λi hi=>by
 rw[fB]at hi
 exact h i (λe=>hi (.inl e)) (by
  cases hc:X.L.contains i
  ·rfl
  ·exact absurd (apO.1 hc) (λe=>hi (.inr e)))
theorem xO{X:Fx}{s:AS}{ds live:List Nat}{vs:List AV}{σ:Heap}(hl:(live.all λd=>(ds++X.L).contains d)=η):Fr X ds s (s.meet (ds++X.L) live vs σ):=λi hi hL=>by
 have hni:i∉ds++X.L:=by
  rw[fB];rintro(e|e)
  ·exact hi e
  ·rw[apO.2 e]at hL;cases hL
 simp only[AS.meet];rw[(HF vs live 0 (sZ s.sl (ds++X.L)) i).2.1 (λe=>hni ?_),(He (ds++X.L) s.sl i).2.2.1 hni];exact apO.1 (jC.1 hl i e)
theorem Sg{live:List Nat}{e:AX}{s:AS}{r:List AV×Heap}(h:IL live e s=δ r):e=.normal/\r=(vals s.sl live,s.σ):=by cases e<;>simp only[IL]at h<;>first|(cases h;done)|(injection h with h;exact⟨rfl,h.symm⟩)
theorem aph{P:Program}{c:Code}{Q:Exit->Act->World->Prop}(I:Nat->Act->World->Prop)(round:∀n a w,I n a w->c.wp P (Exit.then (λa' w'=>∃m,m<n/\I m a' w') Q) a w) {n:Nat} {a:Act} {w:World} (h:I n a w):(Code.loop c).wp P Q a w:=by
 intro b k cs
 have key:∀n a w,I n a w->∃e a' w',Q e a' w'/\Arrives P (lone (b.at a (.code c::.inLoop c::k)) cs w) b k cs e a' w':=by
  intro n;induction n using Nat.strongRecOn with
  |_ n ih=>
   intro a w hI;obtain⟨e,a1,w1,hq,yA⟩:=round n a w hI b (.inLoop c::k) cs;cases e with
   |normal=>obtain⟨m,hlt,hm⟩:=hq;obtain⟨e2,a2,w2,yR,ahq⟩:=ih m hlt a1 w1 hm;exact⟨e2,a2,w2,yR,.of_steps (Steps.trans yA (.one step_inLoop)) ahq⟩
   |exit id=>exact⟨_,a1,w1,hq,.pass (x:=.inLoop c) rfl (λ_ _=>.inl (by simp)) yA⟩
   |goto l=>exact⟨_,a1,w1,hq,.pass (x:=.inLoop c) rfl (λ_ _=>.inl (by simp)) yA⟩
   |ret=>exact⟨_,a1,w1,hq,.pass (x:=.inLoop c) rfl (λ_ _=>.inl (by simp)) yA⟩
   |panic ch=>exact⟨_,a1,w1,hq,.pass (x:=.inLoop c) rfl (λ_ _=>.inl (by simp)) yA⟩
   |outgrown=>exact⟨_,a1,w1,hq,.pass (x:=.inLoop c) rfl (λ_ _=>.inl (by simp)) yA⟩
 obtain⟨e,a',w',hq,yA⟩:=key n a w h;exact⟨e,a',w',hq,.of_steps (.one step_loop) yA⟩
theorem uI(hs:cP X):∀(c:Code){R:Type}(bK:lK)(s:AS)(a:Act)(w:World)(E:List Pl)(pb:Nat->Option Nat)(k:AX->AS->Option R)(r:R)(Q:Exit->Act->World->Prop),exec X bK c s k=δ r->St X z s a w E pb->
  (∀e s' a' w' E' bJ,St X z s' a' w' E' bJ->Fr X (dD c) s s'->k e s'=δ r->Q e.to a' w')->c.wp X.P Q a w
 |.skip,R,bK,s,a,w,E,pb,k,r,Q,hk,h,hQ=>by
  have hk':k .normal s=δ r:=by cases bK<;>simpa [exec]using hk
  exact wp_skip (hQ .normal s a w E pb h (aqu _ _) hk')
 |.label l,R,bK,s,a,w,E,pb,k,r,Q,hk,h,hQ=>by
  have hk':k .normal s=δ r:=by cases bK<;>simpa [exec]using hk
  exact wp_label (hQ .normal s a w E pb h (aqu _ _) hk')
 |.exit id,R,bK,s,a,w,E,pb,k,r,Q,hk,h,hQ=>by
  have hk':k (.exit id) s=δ r:=by cases bK<;>simpa [exec]using hk
  exact wp_exit (hQ (.exit id) s a w E pb h (aqu _ _) hk')
 |.ret,R,bK,s,a,w,E,pb,k,r,Q,hk,h,hQ=>by
  have hk':k .ret s=δ r:=by cases bK<;>simpa [exec]using hk
  exact wp_ret (hQ .ret s a w E pb h (aqu _ _) hk')
 |.region id ops draw,R,bK,s,a,w,E,pb,k,r,Q,hk,h,hQ=>by
  have hk':(bif draw then(bif Ep X ops s.sl then qG X η ops ops.toList ⟨s.sl,λ_=>μ,s.σ⟩ λs=>k .normal ⟨s.sl,λ_=>μ,s.σ⟩else μ)else qG X ι ops ops.toList s λs=>k .normal ⟨s.sl,λ_=>μ,s.σ⟩)=δ r:=by cases bK<;>simpa [exec,force_eq,Vq]using hk
  cases draw
  ·simp only[bk]at hk';refine wp_region ?_;have:=anV (z:=z) (Q:=Q) (s0:=s) hs ops.toList 0 s a w E pb (λj=>by simp) h hk' (λs' a' w' E' bJ h' hf hk2=>hQ .normal _ a' w' E' bJ h'.QD (λi hi hL=>hf i (by simpa [dD]using hi) hL) hk2);rw[TF];simpa using this
  ·simp only[bz]at hk';cases hok:Ep X ops s.sl
   ·rw[hok]at hk';cases hk'
   ·rw[hok]at hk';simp only[bz]at hk';exact afC (s:=⟨s.sl,λ_=>μ,s.σ⟩) hs hok (λ_=>rfl) (λs' a' w' E' bJ h' hf hk2=>hQ .normal _ a' w' E' bJ h'.QD (λi hi hL=>hf i (by simpa [dD]using hi) hL) hk2) h.QD hk'
 |.seq x y,R,bK,s,a,w,E,pb,k,r,Q,hk,h,hQ=>by
  cases bK<;>simp only[exec]at hk<;>first|(cases hk;done)|skip
  rename_i aa bb;refine wp_seq (uI hs x aa s a w E pb _ r _ hk h λe s' a' w' E' bJ h' hf hk'=>?_);cases e with
  |normal=>exact uI hs y bb s' a' w' E' bJ k r Q hk' h' λe2 s2 a2 w2 E2 QU h2 qd hk2=>hQ e2 s2 a2 w2 E2 QU h2 (by simpa [dD]using hf.trans qd) hk2
  |exit i=>exact hQ (.exit i) s' a' w' E' bJ h' (hf.mono λi hi=>by simp [dD,hi]) hk'
  |ret=>exact hQ .ret s' a' w' E' bJ h' (hf.mono λi hi=>by simp [dD,hi]) hk'
 |.cond c x y,R,bK,s,a,w,E,pb,k,r,Q,hk,h,hQ=>by
  have rc:=dB h c;cases bK<;>simp only[exec,force_eq]at hk<;>first|(cases hk;done)|skip
  case c live aa bb=>
   cases hl:(live.all λd=>(dD x++dD y++X.L).contains d)
   ·rw[hl]at hk;cases hk
   ·rw[hl]at hk;simp only[YV,bk]at hk;obtain⟨⟨vs,σ'⟩,h1,h2⟩:=bD.1 hk;rcases anR h1 with⟨ec,hb⟩|⟨ec,hb⟩
    ·rw[ec]at rc;simp only[an]at rc;refine wp_cond_true rc (uI hs x aa s a w E pb _ _ Q hb h λe s' a' w' E' bJ h' hf hk'=>?_);obtain⟨rfl,hv⟩:=Sg hk';simp only[ir]at hv;obtain⟨rfl,rfl⟩:=hv;have qd:Fr X (dD x++dD y) s s':=hf.mono λi hi=>by simp [hi]
     exact hQ .normal _ a' w' E' bJ (h'.meet (by rw[h.oW,h'.oW]) (Cp (c:=x) qd)) (by simpa [dD]using xO (X:=X) hl) h2
    ·rw[ec]at rc;simp only[an]at rc;refine wp_cond_false rc (uI hs y bb s a w E pb _ _ Q hb h λe s' a' w' E' bJ h' hf hk'=>?_);obtain⟨rfl,hv⟩:=Sg hk';simp only[ir]at hv;obtain⟨rfl,rfl⟩:=hv;have qd:Fr X (dD x++dD y) s s':=hf.mono λi hi=>by simp [hi]
     exact hQ .normal _ a' w' E' bJ (h'.meet (by rw[h.oW,h'.oW]) (Cp (c:=x) qd)) (by simpa [dD]using xO (X:=X) hl) h2
  case j aa bb=>
   rcases anR hk with⟨ec,hb⟩|⟨ec,hb⟩
   ·rw[ec]at rc;simp only[an]at rc;exact wp_cond_true rc (uI hs x aa s a w E pb k r Q hb h λe s' a' w' E' bJ h' hf hk'=>hQ e s' a' w' E' bJ h' (hf.mono λi hi=>by simp [dD,hi]) hk')
   ·rw[ec]at rc;simp only[an]at rc;exact wp_cond_false rc (uI hs y bb s a w E pb k r Q hb h λe s' a' w' E' bJ h' hf hk'=>hQ e s' a' w' E' bJ h' (hf.mono λi hi=>by simp [dD,hi]) hk')
 |.block id c,R,bK,s,a,w,E,pb,k,r,Q,hk,h,hQ=>by
  cases bK<;>simp only[exec]at hk<;>first|(cases hk;done)|skip
  rename_i aa;refine wp_block (uI hs c aa s a w E pb _ r _ hk h λe s' a' w' E' bJ h' hf hk'=>?_);cases e with
  |normal=>exact hQ .normal s' a' w' E' bJ h' (by simpa [dD]using hf) hk'
  |ret=>exact hQ .ret s' a' w' E' bJ h' (by simpa [dD]using hf) hk'
  |exit i=>
   simp only[AX.to,Exit.inBlock];simp only at hk';by_cases e:i=id
   ·have:(i==id)=η:=by simpa using e
    rw[this]at hk';rw[aH e];exact hQ .normal s' a' w' E' bJ h' (by simpa [dD]using hf) hk'
   ·have:(i==id)=ι:=by simpa using e
    rw[this]at hk';rw[aF e];exact hQ (.exit i) s' a' w' E' bJ h' (by simpa [dD]using hf) hk'
 |.loop c,R,bK,s,a,w,E,pb,k,r,Q,hk,h,hQ=>by
  cases bK<;>simp only[exec,force_eq]at hk<;>first|(cases hk;done)|skip
  case lc live xs aa=>
   cases hl:(live.all λd=>(dD c++X.L).contains d)
   ·rw[hl]at hk;cases hk
   ·rw[hl]at hk;simp only[YV,bk]at hk;obtain⟨n,hn⟩:=acZ hk;refine aph (λn a w=>∃vs σ E pb,A.EN (λvs σ K=>exec X aa c (s.meet (dD c++X.L) live vs σ) λe s'=>K (e,vals s'.sl live,s'.σ)) n vs σ (λr=>A.sel r.1 (λe=>k e (s.meet (dD c++X.L) live r.2.1 r.2.2)) xs)=δ r/\St X z (s.meet (dD c++X.L) live vs σ) a w E pb) ?_ (n:=n) ⟨_,_,E,pb,hn,h.meet rfl (λi _=>rfl)⟩;rintro n a w ⟨vs,σ,E,pb,hit,hst⟩;cases n with
    |zero=>cases hit
    |succ n=>
     simp only[A.EN]at hit;refine uI hs c aa _ a w E pb _ _ _ hit hst λe s' a' w' E' bJ h' hf hk'=>?_
     have hfr:∀i,i∉dD c++X.L->s'.sl[i]? =s.sl[i]? :=λi hi=>by rw[Cp (c:=c) hf i hi];exact Cp (c:=c) (xO (X:=X) (s:=s) (vs:=vs) (σ:=σ) hl) i hi
     have Aa:=h'.meet (s:=s) (mods:=dD c++X.L) (live:=live) (by rw[h.oW,h'.oW]) hfr;cases e with
     |normal=>exact⟨n,Nat.lt_succ_self n,_,_,E',bJ,hk',Aa⟩
     |exit i=>exact hQ (.exit i) _ a' w' E' bJ Aa (by simpa [dD]using xO (X:=X) hl) (Ij hk')
     |ret=>exact hQ .ret _ a' w' E' bJ Aa (by simpa [dD]using xO (X:=X) hl) (Ij hk')
  rename_i live xs aa;cases hl:(live.all λd=>(dD c++X.L).contains d)
  ·rw[hl]at hk;cases hk
  ·rw[hl]at hk;simp only[YV,bk]at hk;obtain⟨⟨e0,za,au⟩,h1,h2⟩:=bD.1 hk;have hsel:=Ij h2;obtain⟨n,hn⟩:=ad6 h1;refine aph (λn a w=>∃vs σ E pb,apH (λvs σ=>exec X aa c (s.meet (dD c++X.L) live vs σ) (leave live)) n vs σ=δ (e0,za,au)/\St X z (s.meet (dD c++X.L) live vs σ) a w E pb) ?_ (n:=n) ⟨_,_,E,pb,hn,h.meet rfl (λi _=>rfl)⟩;rintro n a w ⟨vs,σ,E,pb,hit,hst⟩;cases n with
   |zero=>cases hit
   |succ n=>
    simp only[apH]at hit;obtain⟨⟨e1,vs1,σ1⟩,g1,g2⟩:=bD.1 hit;refine uI hs c aa _ a w E pb _ _ _ g1 hst λe s' a' w' E' bJ h' hf hk'=>?_
    simp only[leave,ψ,ir]at hk';obtain⟨rfl,rfl,rfl⟩:=hk'
    have hfr:∀i,i∉dD c++X.L->s'.sl[i]? =s.sl[i]? :=λi hi=>by rw[Cp (c:=c) hf i hi];exact Cp (c:=c) (xO (X:=X) (s:=s) (vs:=vs) (σ:=σ) hl) i hi
    have Aa:=h'.meet (s:=s) (mods:=dD c++X.L) (live:=live) (by rw[h.oW,h'.oW]) hfr;cases e with
    |normal=>exact⟨n,Nat.lt_succ_self n,_,_,E',bJ,g2,Aa⟩
    |exit i=>simp only[ψ,ir]at g2;obtain⟨rfl,rfl,rfl⟩:=g2;exact hQ (.exit i) _ a' w' E' bJ Aa (by simpa [dD]using xO (X:=X) hl) hsel
    |ret=>simp only[ψ,ir]at g2;obtain⟨rfl,rfl,rfl⟩:=g2;exact hQ .ret _ a' w' E' bJ Aa (by simpa [dD]using xO (X:=X) hl) hsel
 |.rangeFunc ..,R,bK,s,a,w,E,pb,k,r,Q,hk,h,hQ=>by cases bK<;>simp [exec]at hk
 |.scope _,R,bK,s,a,w,E,pb,k,r,Q,hk,h,hQ=>by cases bK<;>simp [exec]at hk
 |.goto _,R,bK,s,a,w,E,pb,k,r,Q,hk,h,hQ=>by cases bK<;>simp [exec]at hk
 |.refuse _,R,bK,s,a,w,E,pb,k,r,Q,hk,h,hQ=>by cases bK<;>simp [exec]at hk
end
end
section
open Go.RowKit
section
variable {X : Fx} {z : Z} {s : AS} {a : Act} {w w' : World} {E : List Pl} {pb : Nat -> Option Nat}
def wL(tmps:Array Value):ResultVar->Sem Value
 |.tmp t=>pure (tmps.getD t undef)
 |.cell a t=>do loadVar t (<-asAddr (tmps.getD a undef))
theorem MK(h:St X z s a w E pb){R:Type}:∀(rs:List ResultVar)(k:List AV->Option R)(r:R),wK X s rs k=δ r->∃vs kI,(rs.mapM (wL a.tmps)).run X.P w=.ok vs w/\aN (ctx z w E pb) kI vs/\k kI=δ r
 |[],k,r,hk=>⟨[],[],by simp,by simp [aN],hk⟩
 |.tmp t::rs,k,r,hk=>by simp only[wK]at hk;obtain⟨vs,kI,h1,h2,h3⟩:=MK h rs _ r hk;refine⟨a.tmps.getD t undef::vs,ev X s (.tmp t)::kI,?_,by simp only[aN];exact⟨_,_,rfl,dB h (.tmp t),h2⟩,h3⟩;simp only[List.mapM_cons,Zm,wL,ZW,Yl,h1]
 |.cell q t::rs,k,r,hk=>by
  simp only[wK]at hk
  have fin:∀(v:Value)(av:AV),(wL a.tmps (.cell q t)).run X.P w=.ok v w->an (ctx z w E pb) av v->wK X s rs (λvs=>k (av::vs))=δ r->∃vs kI,((ResultVar.cell q t::rs).mapM (wL a.tmps)).run X.P w=.ok vs w/\aN (ctx z w E pb) kI vs/\k kI=δ r:=by intro v av hv hr hk;obtain⟨vs,kI,h1,h2,h3⟩:=MK h rs _ r hk;refine⟨v::vs,av::kI,?_,by simp only[aN];exact⟨_,_,rfl,hr,h2⟩,h3⟩;simp only[List.mapM_cons,Zm,hv,ZW,Yl,h1]
  split at hk
  ·rename_i b off hp;obtain⟨av,e1,e2⟩:=bD.1 hk;obtain⟨cs,e3,e4⟩:=bD.1 e1;obtain⟨n,k1,k2,k3,k4⟩:=B9 h (tag:=μ) trivial hp e3;obtain⟨v,j1,j2⟩:=HD (c:=ctx z w E pb) w X rfl k3.2 e4;rw[Z3]at j1;simp only[Act.eval]at k2;exact fin v av (by simp [wL,k2,asAddr,j1]) j2 e2
  ·obtain⟨av,e1,e2⟩:=bD.1 hk;obtain⟨cs,e3,e4⟩:=bD.1 e1;obtain⟨b,off,k2,k3⟩:=To h.heap e3 (dB h (.tmp q));obtain⟨v,j1,j2⟩:=HD (c:=ctx z w E pb) w X rfl k3 e4;rw[Nat.add_zero]at j1;simp only[Act.eval]at k2;exact fin v av (by simp [wL,k2,asAddr,j1]) j2 e2
theorem acj{P:Program}{fn:Func}{tmps:Array Value}{vs:List Value}(h:(fn.results.toList.mapM (wL tmps)).run P w=.ok vs w):∃v,(results fn tmps).run P w=.ok v w/\∀(c:RC)(kI:List AV),aN c kI vs->an c (one kI) v:=by
 have e:results fn tmps=(do let vs <-fn.results.mapM (wL tmps);pure (if h:vs.size=1 then vs[0]else .tuple vs)):=by unfold results;congr 1
 have hm:(fn.results.mapM (wL tmps)).run P w=.ok vs.toArray w:=by rw[Array.mapM_eq_mapM_toList,Sem.run_map,h];rfl
 have hrun:(results fn tmps).run P w=.ok (if h:vs.toArray.size=1 then vs.toArray[0]else .tuple vs.toArray) w:=by rw[e,Zm,hm];rfl
 refine⟨_,hrun,λc kI r=>?_⟩
 match kI,vs,r with
 |[x],[v],r=>simp only[aN]at r;obtain⟨v',_,e',r1,rfl⟩:=r;injection e' with e1 _;subst e1;simpa [one]using r1
 |[],[],r=>simp only[one,an];exact⟨#[],by simp,by simp [aN]⟩
 |x::y::xs,v::u::us,r=>simp only[one,an];exact⟨(v::u::us).toArray,by simp,by simpa using r⟩
 |[_],_::_::_,r=>exact absurd r.length (by simp)
 |_::_::_,[_],r=>exact absurd r.length (by simp)
 |[],_::_,r=>exact absurd r.length (by simp)
 |_::_,[],r=>exact absurd r.length (by simp)
end
section
variable {c c' : RC} {σ : Heap} {n : Nat}
structure tH (c c' : RC) (σ : Heap) (n : Nat) : Prop where
 w:c'.w=c.w
 nm:c'.nm=c.nm
 X:∀b,c'.X b->c.X b
 E:∀(id:Nat)(p:Pl),id<n->c.E[id]? =δ p->c'.E[id]? =δ p
 heap:fO c σ
 Jd:∀(id:Nat)(p:Pl),n<=id->c.E[id]? =δ p->¬c'.X p.b
theorem ME(d:Nat):∀(l l':List AV),Xu σ n d l=δ l'->l'.length=l.length
 |[],l',e=>by simp only[Xu]at e;injection e with e;subst e;rfl
 |x::l,l',e=>by simp only[Xu]at e;obtain⟨y,h1,h2⟩:=bD.1 e;obtain⟨l2,h3,rfl⟩:=cO.1 h2;simp [ME d l l2 h3]
theorem D7(d:Nat):∀(l l':List (List AV)),A.lG σ n d l=δ l'->l'.length=l.length
 |[],l',e=>by simp only[A.lG]at e;injection e with e;subst e;rfl
 |x::l,l',e=>by simp only[A.lG]at e;obtain⟨y,h1,h2⟩:=bD.1 e;obtain⟨l2,h3,rfl⟩:=cO.1 h2;simp [D7 d l l2 h3]
theorem zx(d:Nat):∀(l:List (List AV)),A.ED σ n d l=A.lG σ n d l
 |[]=>by simp [A.lG,A.ED]
 |x::l=>by simp [A.lG,A.ED,zx d l]
def zH:AV->Bool
 |.os ..=>η
 |.op ..=>η
 |.oe ..=>η
 |.om ..=>η
 |_=>ι
theorem MZ(d:Nat):∀(l:List AV),A.sD σ n d l=Xu σ n d l
 |[]=>by simp [Xu,A.sD]
 |x::l=>by simp [Xu,A.sD,MZ d l]
theorem U5(d:Nat):∀(l:List (AV×AV)),A.tu σ n d l=A.qE σ n d l
 |[]=>by simp [A.qE,A.tu]
 |(k,v)::l=>by simp [A.qE,A.tu,U5 d l]
theorem afN(d:Nat)(m:Int)(s:ByteArray):X0 σ n d (.agg [.int Θ m,.str s])=δ (.agg [.int Θ m,.str s]):=by cases d<;>simp [X0,Xu]
theorem Tu{d:Nat}:∀{es es':List (AV×AV)},(∀p∈es,∃m s,p.1=.agg [.int Θ m,.str s])->A.qE σ n d es=δ es'->es'.map (·.1)=es.map (·.1)
 |[],es',_,h=>by simp only[A.qE]at h;injection h with h;subst h;rfl
 |(k,v)::r,es',hk,h=>by simp only[A.qE]at h;obtain⟨m,s,e⟩:=hk (k,v) ZA;simp only at e;subst e;rw[afN]at h;simp only[aO]at h;obtain⟨v',h1,h2⟩:=bD.1 h;obtain⟨r',h3,rfl⟩:=cO.1 h2;simp only[dH,Tu (λp hp=>hk p (jU _ hp)) h3]
theorem adY{d:Nat}{es es':List (AV×AV)}(hd:EG es)(h:A.qE σ n d es=δ es'):EG es':=by
 have e:=Tu hd.1 h;refine⟨λp hp=>?_,by rw[e];exact hd.2⟩;have:p.1∈es.map (·.1):=by rw[<-e];exact apV hp
 obtain⟨q,hq,e2⟩:=i6.1 this;rw[<-e2];exact hd.1 q hq
mutual
theorem Cq(h:tH c c' σ n)(d:Nat)(hos:∀av cm v,zH av=η->X0 σ n d av=δ cm->an c av v->an c' cm v):∀(av cm:AV)(v:Value),X0 σ n d av=δ cm->an c av v->an c' cm v
 |.undef,cm,v,e,r=>by cases d<;>simp [X0]at e
 |.int k m,cm,v,e,r=>by
  have:cm=.int k m:=by cases d<;>simpa [X0]using e.symm
  subst this;simpa [an]using r
 |.bool b,cm,v,e,r=>by
  have:cm=.bool b:=by cases d<;>simpa [X0]using e.symm
  subst this;simpa [an]using r
 |.str s,cm,v,e,r=>by
  have:cm=.str s:=by cases d<;>simpa [X0]using e.symm
  subst this;simpa [an]using r
 |.aC,cm,v,e,r=>by
  have:cm=.aC:=by cases d<;>simpa [X0]using e.symm
  subst this;simpa [an]using r
 |.ez,cm,v,e,r=>by
  have:cm=.ez:=by cases d<;>simpa [X0]using e.symm
  subst this;simpa [an]using r
 |.np,cm,v,e,r=>by
  have:cm=.np:=by cases d<;>simpa [X0]using e.symm
  subst this;simpa [an]using r
 |.nm,cm,v,e,r=>by
  have:cm=.nm:=by cases d<;>simpa [X0]using e.symm
  subst this;simpa [an]using r
 |.vC,cm,v,e,r=>by
  have:cm=.vC:=by cases d<;>simpa [X0]using e.symm
  subst this;simpa [an]using r
 |.agg cs,cm,v,e,r=>by
  have e':(Xu σ n d cs).map .agg=δ cm:=by cases d<;>simpa [X0]using e
  obtain⟨cs',h1,rfl⟩:=cO.1 e';simp only[an]at r ⊢;obtain⟨vs,e,r1,r2⟩:=r;exact⟨vs,e,Cd h d hos cs cs' _ h1 r1,r2⟩
 |.aJ cs,cm,v,e,r=>by
  have e':(Xu σ n d cs).map .aJ=δ cm:=by cases d<;>simpa [X0]using e
  obtain⟨cs',h1,rfl⟩:=cO.1 e';simp only[an]at r ⊢;obtain⟨vs,e,r1⟩:=r;exact⟨vs,e,Cd h d hos cs cs' _ h1 r1⟩
 |.sl sz es,cm,v,e,r=>by
  have e':(A.lG σ n d es).map (.sl sz)=δ cm:=by cases d<;>simpa [X0]using e
  obtain⟨es',h1,rfl⟩:=cO.1 e';simp only[an]at r ⊢;obtain⟨q,cap,e,k1,k2,r⟩:=r;have hl:es'.length=es.length:=D7 d es es' h1;refine⟨q,cap,by rw[hl];exact e,by rw[hl];exact k1,k2,?_⟩;rcases r with r|⟨b,off,e2,hb,hx,r⟩
  ·left;subst r;simpa using hl
  ·right;exact⟨b,off,e2,by rw[h.w];exact hb,λk=>hx (h.X b k),Ei h d hos sz b es es' off h1 r⟩
 |.rp cs,cm,v,e,r=>by
  have e':(Xu σ n d cs).map .rp=δ cm:=by cases d<;>simpa [X0]using e
  obtain⟨cs',h1,rfl⟩:=cO.1 e';simp only[an]at r ⊢;obtain⟨b,off,e2,hb,hx,r⟩:=r;exact⟨b,off,e2,by rw[h.w];exact hb,λk=>hx (h.X b k),Cc h d hos b cs cs' off h1 r⟩
 |.fm es,cm,v,e,r=>by
  have e':(A.qE σ n d es).map .fm=δ cm:=by cases d<;>simpa [X0]using e
  obtain⟨es',h1,rfl⟩:=cO.1 e';simp only[an]at r ⊢;obtain⟨b,e2,hb,hx,bn,bu,k1,kw,l,k2,k3⟩:=r;exact⟨b,e2,by rw[h.w];exact hb,λk=>hx (h.X b k),bn,bu,by rw[h.w];exact k1,kw,l,Ib h d hos es es' _ h1 k2,k3.imp_right λq=>⟨q.1,adY q.2 h1⟩⟩
 |.op id off,cm,v,e,r=>hos _ cm v rfl e r
 |.oe id g i off,cm,v,e,r=>hos _ cm v rfl e r
 |.om id,cm,v,e,r=>hos _ cm v rfl e r
 |.fn f cs,cm,v,e,r=>by
  have e':(Xu σ n d cs).map (.fn f)=δ cm:=by cases d<;>simpa [X0]using e
  obtain⟨cs',h1,rfl⟩:=cO.1 e';simp only[an]at r ⊢;obtain⟨g,vs,e,k,r1⟩:=r;exact⟨g,vs,e,by rw[h.nm];exact k,Cd h d hos cs cs' _ h1 r1⟩
 |.lbx cs,cm,v,e,r=>by cases d<;>simp [X0]at e
 |.os id g sz off len,cm,v,e,r=>hos _ cm v rfl e r
theorem Cd(h:tH c c' σ n)(d:Nat)(hos:∀av cm v,zH av=η->X0 σ n d av=δ cm->an c av v->an c' cm v):∀(l l':List AV)(vs:List Value),Xu σ n d l=δ l'->aN c l vs->aN c' l' vs
 |[],l',vs,e,r=>by simp only[Xu]at e;injection e with e;subst e;simpa [aN]using r
 |x::l,l',vs,e,r=>by simp only[Xu]at e;obtain⟨y,h1,h2⟩:=bD.1 e;obtain⟨l2,h3,rfl⟩:=cO.1 h2;simp only[aN]at r ⊢;obtain⟨v,vs',e,r1,r2⟩:=r;exact⟨v,vs',e,Cq h d hos x y v h1 r1,Cd h d hos l l2 vs' h3 r2⟩
theorem Ib(h:tH c c' σ n)(d:Nat)(hos:∀av cm v,zH av=η->X0 σ n d av=δ cm->an c av v->an c' cm v):∀(l l':List (AV×AV))(es:List MapEntry),A.qE σ n d l=δ l'->bW c l es->bW c' l' es
 |[],l',es,e,r=>by simp only[A.qE]at e;injection e with e;subst e;simpa [bW]using r
 |(k,v)::l,l',es,e,r=>by simp only[A.qE]at e;obtain⟨k',h1,h2⟩:=bD.1 e;obtain⟨v',h3,h4⟩:=bD.1 h2;obtain⟨l2,h5,rfl⟩:=cO.1 h4;simp only[bW]at r ⊢;obtain⟨x,es',e,r1,r2,r3⟩:=r;exact⟨x,es',e,Cq h d hos k k' _ h1 r1,Cq h d hos v v' _ h3 r2,Ib h d hos l l2 es' h5 r3⟩
theorem Cc(h:tH c c' σ n)(d:Nat)(hos:∀av cm v,zH av=η->X0 σ n d av=δ cm->an c av v->an c' cm v)(b:Nat):∀(l l':List AV)(off:Nat),Xu σ n d l=δ l'->bp c b off l->bp c' b off l'
 |[],l',off,e,r=>by simp only[Xu]at e;injection e with e;subst e;simp [bp]
 |x::l,l',off,e,r=>by simp only[Xu]at e;obtain⟨y,h1,h2⟩:=bD.1 e;obtain⟨l2,h3,rfl⟩:=cO.1 h2;simp only[bp]at r ⊢;obtain⟨⟨v,e1,e2,r1⟩,r2⟩:=r;exact⟨⟨v,by rw[h.w];exact e1,e2,Cq h d hos x y v h1 r1⟩,Cc h d hos b l l2 (off+1) h3 r2⟩
theorem Ei(h:tH c c' σ n)(d:Nat)(hos:∀av cm v,zH av=η->X0 σ n d av=δ cm->an c av v->an c' cm v)(sz b:Nat):∀(l l':List (List AV))(off:Nat),A.lG σ n d l=δ l'->bC c sz b off l->bC c' sz b off l'
 |[],l',off,e,r=>by simp only[A.lG]at e;injection e with e;subst e;simp [bC]
 |x::l,l',off,e,r=>by simp only[A.lG]at e;obtain⟨y,h1,h2⟩:=bD.1 e;obtain⟨l2,h3,rfl⟩:=cO.1 h2;simp only[bC]at r ⊢;exact⟨by rw[ME d x y h1];exact r.1,Cc h d hos b x y off h1 r.2.1,Ei h d hos sz b l l2 (off+sz) h3 r.2.2⟩
end
structure tO (c0 c c' : RC) : Prop where
 w:c'.w=c.w
 nm:c'.nm=c.nm
 X:∀b,c'.X b->c.X b
 E:∀(id:Nat)(p0 p:Pl),c0.E[id]? =δ p0->c.E[id]? =δ p->c'.E[id]? =δ p
mutual
theorem Cn{c0 c c':RC}(h:tO c0 c c'):∀(av:AV)(v0 v:Value),an c0 av v0->an c av v->an c' av v
 |.undef,v0,v,r0,r=>by simp [an]
 |.int k m,v0,v,r0,r=>by simpa [an]using r
 |.bool b,v0,v,r0,r=>by simpa [an]using r
 |.str s,v0,v,r0,r=>by simpa [an]using r
 |.aC,v0,v,r0,r=>by simpa [an]using r
 |.ez,v0,v,r0,r=>by simpa [an]using r
 |.np,v0,v,r0,r=>by simpa [an]using r
 |.nm,v0,v,r0,r=>by simpa [an]using r
 |.fm es,v0,v,r0,r=>by simp only[an]at r0 r ⊢;obtain⟨_,_,_,_,_,_,_,_,_,r0,_⟩:=r0;obtain⟨b,e,hb,hx,bn,bu,k1,kw,l,k2,k3⟩:=r;exact⟨b,e,by rw[h.w];exact hb,λk=>hx (h.X b k),bn,bu,by rw[h.w];exact k1,kw,l,HY h es _ _ r0 k2,k3⟩
 |.vC,v0,v,r0,r=>by simpa [an]using r
 |.agg cs,v0,v,r0,r=>by simp only[an]at r0 r ⊢;obtain⟨za,_,A1,_⟩:=r0;obtain⟨vs,e,r1,r2⟩:=r;exact⟨vs,e,HX h cs _ _ A1 r1,r2⟩
 |.aJ cs,v0,v,r0,r=>by simp only[an]at r0 r ⊢;obtain⟨za,_,A1⟩:=r0;obtain⟨vs,e,r1⟩:=r;exact⟨vs,e,HX h cs _ _ A1 r1⟩
 |.sl sz es,v0,v,r0,r=>by
  simp only[an]at r0 r ⊢;obtain⟨_,_,_,_,_,r0⟩:=r0;obtain⟨q,cap,e,k1,k2,r⟩:=r;refine⟨q,cap,e,k1,k2,?_⟩;rcases r with r|⟨b,off,e2,hb,hx,r⟩
  ·exact .inl r
  ·rcases r0 with r0|⟨b0,pW,_,_,_,r0⟩
   ·exact .inl r0
   ·exact .inr ⟨b,off,e2,by rw[h.w];exact hb,λk=>hx (h.X b k),HW h sz b0 b es pW off r0 r⟩
 |.rp cs,v0,v,r0,r=>by simp only[an]at r0 r ⊢;obtain⟨b0,pW,_,_,_,r0⟩:=r0;obtain⟨b,off,e2,hb,hx,r⟩:=r;exact⟨b,off,e2,by rw[h.w];exact hb,λk=>hx (h.X b k),Ef h b0 b cs pW off r0 r⟩
 |.op id off,v0,v,r0,r=>by simp only[an]at r0 r ⊢;obtain⟨p0,e0,_⟩:=r0;obtain⟨p,e1,e2,e3⟩:=r;exact⟨p,h.E id p0 p e0 e1,e2,e3⟩
 |.oe id g i off,v0,v,r0,r=>by simp only[an]at r0 r ⊢;obtain⟨_,p0,e0,_⟩:=r0;obtain⟨hg,p,e1,e2⟩:=r;exact⟨hg,p,h.E id p0 p e0 e1,e2⟩
 |.os id g sz off len,v0,v,r0,r=>by simp only[an]at r0 r ⊢;obtain⟨_,p0,e0,_⟩:=r0;obtain⟨hg,p,e1,e2⟩:=r;exact⟨hg,p,h.E id p0 p e0 e1,e2⟩
 |.om id,v0,v,r0,r=>by simp only[an]at r0 r ⊢;obtain⟨p0,e0,_⟩:=r0;obtain⟨p,e1,e2,e3⟩:=r;exact⟨p,h.E id p0 p e0 e1,e2,e3⟩
 |.fn f cs,v0,v,r0,r=>by simp only[an]at r0 r ⊢;obtain⟨_,_,_,_,r0⟩:=r0;obtain⟨g,vs,e1,e2,r⟩:=r;exact⟨g,vs,e1,by rw[h.nm];exact e2,HX h cs _ _ r0 r⟩
 |.lbx cs,v0,v,r0,r=>by simp [an]at r
theorem HX{c0 c c':RC}(h:tO c0 c c'):∀(l:List AV)(za vs:List Value),aN c0 l za->aN c l vs->aN c' l vs
 |[],za,vs,r0,r=>by simpa [aN]using r
 |x::l,za,vs,r0,r=>by simp only[aN]at r0 r ⊢;obtain⟨v0,us0,_,A1,QW⟩:=r0;obtain⟨v,us,e,r1,r2⟩:=r;exact⟨v,us,e,Cn h x _ _ A1 r1,HX h l _ _ QW r2⟩
theorem HY{c0 c c':RC}(h:tO c0 c c'):∀(l:List (AV×AV))(gS es:List MapEntry),bW c0 l gS->bW c l es->bW c' l es
 |[],gS,es,r0,r=>by simpa [bW]using r
 |(k,v)::l,gS,es,r0,r=>by simp only[bW]at r0 r ⊢;obtain⟨e0,aiY,_,k1,k2,k3⟩:=r0;obtain⟨e,es',e1,j1,j2,j3⟩:=r;exact⟨e,es',e1,Cn h k _ _ k1 j1,Cn h v _ _ k2 j2,HY h l aiY es' k3 j3⟩
theorem Ef{c0 c c':RC}(h:tO c0 c c')(b0 b:Nat):∀(l:List AV)(pW off:Nat),bp c0 b0 pW l->bp c b off l->bp c' b off l
 |[],pW,off,r0,r=>by simp [bp]
 |x::l,pW,off,r0,r=>by simp only[bp]at r0 r ⊢;obtain⟨⟨v0,_,_,A1⟩,QW⟩:=r0;obtain⟨⟨v,e1,e2,r1⟩,r2⟩:=r;exact⟨⟨v,by rw[h.w];exact e1,e2,Cn h x _ _ A1 r1⟩,Ef h b0 b l _ _ QW r2⟩
theorem HW{c0 c c':RC}(h:tO c0 c c')(sz b0 b:Nat):∀(l:List (List AV))(pW off:Nat),bC c0 sz b0 pW l->bC c sz b off l->bC c' sz b off l
 |[],pW,off,r0,r=>by simp [bC]
 |x::l,pW,off,r0,r=>by simp only[bC]at r0 r ⊢;exact⟨r.1,Ef h b0 b x _ _ r0.2.1 r.2.1,HW h sz b0 b l _ _ r0.2.2 r.2.2⟩
end
theorem HV{c0 c c':RC}(h:tO c0 c c'){p0 p:Pl}{x:aP}(k0:oa c0 p0 x)(k:oa c p x):oa c' p x:=by
 cases x with
 |box cs=>obtain⟨h1,⟨⟨arr,t,h2,h3⟩,h4⟩⟩:=k;exact⟨h1,⟨arr,t,by rw[h.w];exact h2,h3⟩,Ef h _ _ cs _ _ k0.2.2 h4⟩
 |arr g sz es=>obtain⟨h1,h2,h3,h4,⟨arr,t,h5,h6⟩,h7,h8,h9⟩:=k;obtain⟨_,_,_,_,_,_,k8,_⟩:=k0;exact⟨h1,h2,h3,h4,⟨arr,t,by rw[h.w];exact h5,h6⟩,h7,HW h sz _ _ es _ _ k8 h8,λarr t fz e=>h9 arr t fz (by rw[<-h.w];exact e)⟩
 |qD g sz es=>obtain⟨h1,h2,h3,h4,⟨arr,t,h5,h6⟩,h7,h8,h9⟩:=k;obtain⟨_,_,_,_,_,_,k8,_⟩:=k0;exact⟨h1,h2,h3,h4,⟨arr,t,by rw[h.w];exact h5,h6⟩,h7,HW h sz _ _ es _ _ k8 h8,λarr t fz e=>h9 arr t fz (by rw[<-h.w];exact e)⟩
 |map es=>obtain⟨h1,bn,bu,h2,hw,h3⟩:=k;obtain⟨_,_,_,_,_,k3⟩:=k0;exact⟨h1,bn,bu,by rw[h.w];exact h2,hw,HY h es _ _ k3 h3⟩
 |it cur left=>
  obtain⟨h1,h2⟩:=k;obtain⟨_,k2⟩:=k0;refine⟨h1,?_⟩;rcases h2 with⟨h2,h2',since,seen,last,h3⟩|⟨m,seen,bn,bu,h3,h4,h5,h6,h7,h8,h9⟩
  ·exact .inl ⟨h2,h2',since,seen,last,by rw[h.w];exact h3⟩
  ·rcases k2 with⟨q1,q2,_⟩|⟨m0,gY,amD,ams,q3,q4,q5,q6,q7,q8,q9⟩
   ·refine .inr ⟨m,seen,bn,bu,by rw[h.w];exact h3,by rw[h.w];exact h4,λk=>h5 (h.X m k),by rw[h.w];exact h6,h7,by rw[q2]at h8 ⊢;exact h8,.inl q1⟩
   ·refine .inr ⟨m,seen,bn,bu,by rw[h.w];exact h3,by rw[h.w];exact h4,λk=>h5 (h.X m k),by rw[h.w];exact h6,h7,(by obtain⟨l0,q8,_⟩:=q8;obtain⟨l,h8,hp⟩:=h8;exact⟨l,HY h left _ _ q8 h8,hp⟩),?_⟩;rcases h9 with h9|⟨kk,v,e,e1,e2,e3,e4,e5⟩
    ·exact .inl h9
    ·rcases q9 with q9|⟨kk',v',e',f1,f2,f3,f4,f5⟩
     ·exact .inl q9
     ·rw[e1]at f1;simp only[List.cons.injEq,ir,and_true]at f1;obtain⟨rfl,rfl⟩:=f1;exact .inr ⟨_,_,e,e1,e2,e3,Cn h _ _ _ f4 e4,Cn h _ _ _ f5 e5⟩
def ai1:aP->Nat
 |.arr g _ _=>g
 |.qD g _ _=>g
 |_=>0
theorem MU{c:RC}{p:Pl}{x:aP}(k:oa c p x):p.g=ai1 x:=by cases x<;>exact k.1
theorem UY{c0 c c':RC}(h:tO c0 c c')(sz b:Nat):∀(l:List (List AV))(off:Nat),(∀y∈l,∃b0 o0,bp c0 b0 o0 y)->bC c sz b off l->bC c' sz b off l
 |[],off,h0,r=>by simp [bC]
 |x::l,off,h0,r=>by simp only[bC]at r ⊢;obtain⟨b0,o0,k⟩:=h0 x (by simp);exact⟨r.1,Ef h b0 b x _ _ k r.2.1,UY h sz b l _ (λy hy=>h0 y (by simp [hy])) r.2.2⟩
theorem apl{c:RC}:∀{args:List AV}{vs:List Value},aN c args vs->∀y∈A.rowsOf args,∃b0 o0,bp c b0 o0 y
 |[],_,_,y,hy=>by simp [A.rowsOf]at hy
 |a::args,vs,h,y,hy=>by
  simp only[aN]at h;obtain⟨v,vs',rfl,h1,h2⟩:=h;simp only[A.rowsOf,fB]at hy;rcases hy with hy|hy
  ·cases a<;>simp only[List.not_mem_nil]at hy;rename_i sz es;simp only[an]at h1;obtain⟨a,cap,rfl,_,_,h3⟩:=h1;rcases h3 with h3|⟨b,off,_,_,_,h4⟩
   ·rw[h3]at hy;cases hy
   ·obtain⟨i,hi⟩:=wA.1 hy;exact⟨_,_,(aqe h4 hi).2⟩
  ·exact apl h2 y hy
theorem uJ(h:tH c c' σ n):∀(d:Nat)(av cm:AV)(v:Value),X0 σ n d av=δ cm->an c av v->an c' cm v
 |0=>Cq h 0 (λav cm v ho e r=>by cases av<;>first|(simp [X0]at e;done)|(simp [zH]at ho;done))
 |d+1=>Cq h (d+1) (λav cm v ho e r=>match av,ho,e,r with
  |.op id off,_,e,r=>by
   simp only[X0]at e;simp only[an]at r;obtain⟨p,h1,h2,rfl⟩:=r;split at e
   ·rename_i hlt;injection e with e;subst e
    simp only[an];exact⟨p,h.E id p hlt h1,h2,rfl⟩
   ·rename_i hge;split at e
    ·rename_i cs hs;obtain⟨cs',e1,rfl⟩:=cO.1 e;rw[MZ]at e1;obtain⟨j1,⟨⟨arr,t,j2,j3⟩,j4⟩⟩:=h.heap.blk id p _ h1 hs;simp only[an];refine⟨p.b,off,rfl,by rw[h.w];exact(wz.1 j2).1,h.Jd id p (by omega) h1,?_⟩;have j5:=j4.drop off;rw[Z3]at j5;exact Cc h d (λav cm v _ e r=>uJ h d _ _ _ e r) p.b _ cs' _ e1 j5
    ·cases e
  |.oe id g i off,_,e,r=>by
   simp only[X0]at e;simp only[an]at r;obtain⟨hg,p,h1,h2,a,rfl,h3⟩:=r;split at e
   ·rename_i hlt;injection e with e;subst e
    simp only[an];exact⟨hg,p,h.E id p hlt h1,h2,a,rfl,h3⟩
   ·rename_i hge;split at e
    ·rename_i g' sz' es hs;split at e
     ·rename_i hc;subst hc;split at e
      ·rename_i el hel;obtain⟨cs',e1,rfl⟩:=cO.1 e;rw[MZ]at e1;obtain⟨j1,j2,j3,j4,⟨arr,bt,j5,j6⟩,j7,j8,j9⟩:=h.heap.blk id p _ h1 hs;have ha:=h3 j1.symm;subst ha;simp only[an];refine⟨p.b,_,rfl,by rw[h.w];exact(wz.1 j5).1,h.Jd id p (by omega) h1,?_⟩;rw[j3];have j9:=(j8.nth hel).2.drop off;exact Cc h d (λav cm v _ e r=>uJ h d _ _ _ e r) p.b _ cs' _ e1 j9
      ·cases e
     ·cases e
    ·cases e
  |.om id,_,e,r=>by
   simp only[X0]at e;simp only[an]at r;obtain⟨p,h1,h2,rfl⟩:=r;split at e
   ·rename_i hlt;injection e with e;subst e
    simp only[an];exact⟨p,h.E id p hlt h1,h2,rfl⟩
   ·rename_i hge;split at e
    ·rename_i es hs;obtain⟨es',e1,rfl⟩:=cO.1 e;rw[U5]at e1;obtain⟨j1,bn,bu,j2,jw,j3⟩:=h.heap.blk id p _ h1 hs;simp only[an];exact⟨p.b,rfl,by rw[h.w];exact(wz.1 j2).1,h.Jd id p (by omega) h1,bn,bu,by rw[h.w];exact j2,jw,_,Ib h d (λav cm v _ e r=>uJ h d _ _ _ e r) _ es' _ e1 j3,.inl rfl⟩
    ·cases e
  |.os id g sz off len,_,e,r=>by
   simp only[X0]at e;simp only[an]at r;obtain⟨hg,p,h1,h2,q,cap,rfl,h3,r⟩:=r;split at e
   ·rename_i hlt;injection e with e;subst e
    simp only[an];exact⟨hg,p,h.E id p hlt h1,h2,q,cap,rfl,h3,r⟩
   ·rename_i hge;split at e
    ·rename_i g' sz' es hs;split at e
     ·rename_i hc;obtain⟨rfl,rfl,hle⟩:=hc;obtain⟨es',e1,rfl⟩:=cO.1 e;rw[zx]at e1;obtain⟨j1,j2,j3,j4,⟨arr,bt,j5,j6⟩,j7,j8,j9⟩:=h.heap.blk id p _ h1 hs;obtain⟨k1,k2,k3⟩:=r j1.symm;have hl:=D7 d _ _ e1;have o8:((es.drop off).take len).length=len:=by simp;omega
      simp only[an];refine⟨δ q,cap,by rw[hl,o8],by rw[hl,o8];exact h3,j4,?_⟩;by_cases hz:len=0
      ·left;apply tE;rw[hl,o8,hz]
      ·right
       have hq:q=⟨p.b,p.base+off*p.sz,μ⟩:=by
        rcases k2 with k2|k2
        ·omega
        ·exact k2
       refine⟨p.b,p.base+off*p.sz,by rw[hq],by rw[h.w];exact(wz.1 j5).1,h.Jd id p (by omega) h1,?_⟩;refine Ei h d (λav cm v _ e r=>uJ h d _ _ _ e r) sz p.b _ es' _ e1 ?_;rw[j3];exact(j8.drop off).take len
     ·cases e
    ·cases e)
end
section
variable {c c' : RC} {σ : Heap} {n : Nat}
theorem aee{es es':List (AV×AV)}(hp:es.Perm es'):∀{l:List MapEntry},bW c es l->∃l',bW c es' l'/\l'.Perm l:=by
 induction hp with
 |nil=>intro l h;exact⟨l,h,.refl _⟩
 |cons x _ ih=>intro l h;obtain⟨e,l1,rfl,h2,h3,h4⟩:=h;obtain⟨l',k1,k2⟩:=ih h4;exact⟨e::l',⟨_,_,rfl,h2,h3,k1⟩,k2.cons e⟩
 |swap x y l0=>intro l h;obtain⟨e,l1,rfl,h2,h3,e',l2,rfl,h4,h5,h6⟩:=h;exact⟨e'::e::l2,⟨_,_,rfl,h4,h5,_,_,rfl,h2,h3,h6⟩,.swap _ _ _⟩
 |trans _ _ ih1 ih2=>intro l h;obtain⟨l1,k1,k2⟩:=ih1 h;obtain⟨l2,k3,k4⟩:=ih2 k1;exact⟨l2,k3,k4.trans k2⟩
theorem adK(es:List (AV×AV)):(A.Xe es).Perm es:=SA (p:=λl:List (AV×AV)=>l.Perm es) ⟨es,.refl _⟩
theorem afv{x:AV}{v:Value}(r:an c x v):an c (A.can x) v:=by
 cases x<;>try exact r
 case fm es=>
  unfold A.can;simp only;split
  ·rename_i hd;simp only[an]at r ⊢;obtain⟨b,e,hb,hx,bn,bu,k1,kw,l,k2,k3⟩:=r;have hp:=adK es;obtain⟨l',j1,j2⟩:=aee hp.symm k2;refine⟨b,e,hb,hx,bn,bu,k1,kw,l',j1,.inr ⟨?_,?_⟩⟩
   ·rcases k3 with rfl|⟨k3,_⟩
    ·exact j2
    ·exact j2.trans k3
   ·exact⟨λp hp'=>hd.1 p (hp.mem_iff.1 hp'),(hp.map _).nodup_iff.2 hd.2⟩
  ·exact r
theorem Md{b:Nat}:∀{l:List AV}{off:Nat},bp c b off l->bp c b off (l.map A.can)
 |[],off,_=>by simp [bp]
 |x::l,off,r=>by simp only[dH,bp]at r ⊢;obtain⟨⟨v,h1,h2,h3⟩,h4⟩:=r;exact⟨⟨v,h1,h2,afv h3⟩,Md h4⟩
theorem Me{sz b:Nat}:∀{l:List (List AV)}{off:Nat},bC c sz b off l->bC c sz b off (l.map (·.map A.can))
 |[],off,_=>by simp [bC]
 |x::l,off,r=>by simp only[dH,bC,Zk]at r ⊢;exact⟨r.1,Md r.2.1,Me r.2.2⟩
theorem aeR(h:tH c c' σ n){p:Pl}{x x':aP}(e:A.Of σ n x=δ x')(k:oa c p x):oa c' p x':=by
 have hos:∀av cm v,zH av=η->X0 σ n 8 av=δ cm->an c av v->an c' cm v:=λav cm v _ e r=>uJ h 8 _ _ _ e r
 cases x with
 |box cs=>obtain⟨cs',e1,rfl⟩:=cO.1 e;obtain⟨h1,⟨⟨arr,t,h2,h3⟩,h4⟩⟩:=k;exact⟨h1,⟨arr,t,by rw[h.w];exact h2,by rw[Zk,ME 8 _ _ e1];exact h3⟩,Md (Cc h 8 hos _ _ _ _ e1 h4)⟩
 |arr g sz es=>obtain⟨es',e1,rfl⟩:=cO.1 e;obtain⟨h1,h2,h3,h4,⟨arr,t,h5,h6⟩,h7,h8,h9⟩:=k;exact⟨h1,h2,h3,h4,⟨arr,t,by rw[h.w];exact h5,h6⟩,by rw[Zk,D7 8 _ _ e1];exact h7,Me (Ei h 8 hos _ _ _ _ _ e1 h8),λarr t fz e=>h9 arr t fz (by rw[<-h.w];exact e)⟩
 |qD g sz es=>obtain⟨es',e1,rfl⟩:=cO.1 e;obtain⟨h1,h2,h3,h4,⟨arr,t,h5,h6⟩,h7,h8,h9⟩:=k;exact⟨h1,h2,h3,h4,⟨arr,t,by rw[h.w];exact h5,h6⟩,by rw[Zk,D7 8 _ _ e1];exact h7,Me (Ei h 8 hos _ _ _ _ _ e1 h8),λarr t fz e=>h9 arr t fz (by rw[<-h.w];exact e)⟩
 |map es=>obtain⟨es',e1,rfl⟩:=cO.1 e;obtain⟨h1,bn,bu,h2,hwf,h3⟩:=k;exact⟨h1,bn,bu,by rw[h.w];exact h2,hwf,Ib h 8 hos _ _ _ e1 h3⟩
 |it cur left=>cases e
theorem Tt{n:Nat}:∀{J7 J8 τ:Heap},A.CF σ n J7 J8=δ τ->τ.length=J7.length/\J7.length<=J8.length/\∀(i:Nat)x,τ[i]? =δ x->∃b b',J7[i]? =δ b/\J8[i]? =δ b'/\((b'=b/\x=b)\/A.Of σ n b'=δ x)
 |[],J8,τ,h=>by simp only[A.CF]at h;injection h with h;subst h;simp
 |_::_,[],τ,h=>by simp [A.CF]at h
 |b::r,b'::r',τ,h=>by
  simp only[A.CF]at h;obtain⟨y,h1,h2⟩:=bD.1 h;obtain⟨GS,h3,rfl⟩:=cO.1 h2;obtain⟨k1,k2,k3⟩:=Tt h3;refine⟨by simp [k1],by simp;omega,λi x hi=>?_⟩;cases i with
  |zero=>
   simp only[Y3,ψ]at hi;subst hi;refine⟨b,b',rfl,rfl,?_⟩;split at h1
   ·rename_i e;injection h1 with h1
    exact .inl ⟨e,h1.symm⟩
   ·exact .inr h1
  |succ i=>exact k3 i x hi
end
section
variable {X : Fx}
def oq.Ok:oq->Prop
 |.N g=>∀c a v,an c a v->an c (g a) v
 |_=>True
theorem xJ(hs:cP X){f:FuncId}{fn:Func}{keep:oq}(hkeep:keep.Ok){bK:lK}{args:List AV}{σ σ':Heap}{r:AV}(hf:X.P.funcs[f]? =δ fn)(yc:∀cH w,(callFunc f cH).run X.P w=.ok (.enter f cH) w)
  (hr:nN X keep bK fn args σ=δ (r,σ')):nu X.P X.nm f args σ r σ':=by
 refine .inl ⟨f,yc,λz vs hnm hlt hh ha=>?_⟩;unfold nN at hr;cases hb:fn.body with
 |none=>rw[hb]at hr;cases hr
 |some c=>
  rw[hb]at hr;simp only at hr;cases hc:(Nat.ble args.length fn.ntmps&&X.n==fn.ntmps)
  ·rw[hc]at hr;cases hr
  ·rw[hc]at hr;simp only[YV,bk]at hr;simp only[fy,beq_iff_eq]at hc;obtain⟨tU,jI⟩:=hc;have hle:args.length<=fn.ntmps:=Nat.le_of_ble_eq_true tU;have wY:=ha.length;have amY:args.length=vs.size:=by simpa using wY
   have hst:St X z ⟨args++ZB (fn.ntmps-args.length) (.aJ []),λ_=>μ,σ⟩ {tmps:=vs++U6 (fn.ntmps-vs.size) undef,defers:=[]} z.w z.E cz:=by
    have aoS:∀i av,(args++ZB (fn.ntmps-args.length) (.aJ []))[i]? =δ av->an (ctx z z.w z.E cz) av ((vs++U6 (fn.ntmps-vs.size) undef).getD i undef):=by
     intro i av hi;by_cases hlt':i<args.length
     ·rw[gZ hlt']at hi;obtain⟨v,k1,k2⟩:=ha.nth hi
      have:(vs++U6 (fn.ntmps-vs.size) undef).getD i undef=v:=by rw[mO,Array.getElem?_append_left (by omega),<-ZQ,k1];rfl
      rw[this];exact k2
     ·rw[kC (by omega)]at hi;have hm:=ct hi;rw[X5]at hm;rw[hm.2]
      have:(vs++U6 (fn.ntmps-vs.size) undef).getD i undef=undef:=by rw[mO,Array.getElem?_append_right (by omega),Array.getElem?_replicate];split<;>rfl
      rw[this];simp only[an];exact⟨#[],rfl,by simp [aN]⟩
    refine⟨by simp;omega,by simp;omega,λi av hi=>Slot.of (aoS i av hi),λi cs hi=>?_,(λt p hp=>by cases hp),(λi b hb=>by cases hb),(λi j b hb=>by cases hb),hh,rfl,?_,hnm.symm⟩
    ·have:=aoS i _ hi;simp [an]at this
    ·exact⟨rfl,rfl,rfl,bR _,λ_ _ _=>rfl,λi p hp=>.inr ⟨p,hp,rfl⟩,λi p hp=>⟨p,hp,.inl rfl⟩,hlt,λp hp=>hh.lt hp⟩
   refine calls_of_wp hf hb (uI hs c bK _ _ _ _ _ _ _ _ hr hst λe s' a' w' E' bJ h' _ hk=>?_)
   have hno:Ext (ctx z w' E' bJ) (ctx z w' E' cz):=Ext.same rfl rfl (λb k=>by
    rcases k with k|k|⟨i,k⟩
    ·exact .inl k
    ·exact .inr (.inl k)
    ·cases k) rfl
   have Xi:∀(x:AV)(v:Value)(r:AV)(σ':Heap),an (ctx z w' E' bJ) x v->wh σ x s'.σ=δ (r,σ')->∃iu,Out z w' iu/\fO (ctx z w' iu cz) σ'/\an (ctx z w' iu cz) r v:=by
     intro x v r σ' rv k3;unfold wh at k3;split at k3
     ·rename_i he;simp only[ψ,ir]at k3;obtain⟨rfl,rfl⟩:=k3;exact⟨E',h'.out,by rw[<-he];exact h'.heap.mono hno rfl (λp hp=>rfl),TK hno _ _ rv⟩
     ·split at k3
      ·rename_i he;obtain⟨r',k6,k7⟩:=cO.1 k3;simp only[ir]at k7;obtain⟨rfl,rfl⟩:=k7;have hlen:=h'.heap.len;simp only[ctx]at hlen;have hzl:z.E.length=σ.length:=hh.len
       have Xk:σ.length<=s'.σ.length:=by have:=congrArg Ym he;simp at this;omega
       have qg:∀(id:Nat)(p:Pl),id<σ.length->E'[id]? =δ p->(E'.take σ.length)[id]? =δ p:=λid p hlt' hp=>by rw[Vp hlt'];exact hp
       have oB:∀(id:Nat)(p:Pl),(E'.take σ.length)[id]? =δ p->id<σ.length/\E'[id]? =δ p:=λid p hp=>by
        rw[Vj]at hp;split at hp
        ·exact⟨by assumption,hp⟩
        ·cases hp
       have qA:tH (ctx z w' E' bJ) (ctx z w' (E'.take σ.length) cz) s'.σ σ.length:=by
        refine⟨rfl,rfl,λb k=>?_,qg,h'.heap,λid p hge hp k=>?_⟩
        ·rcases k with k|⟨p,hp,k⟩|⟨i,k⟩
         ·exact .inl k
         ·exact .inr (.inl ⟨p,yp hp,k⟩)
         ·cases k
        ·rcases k with k|⟨q,hq,k⟩|⟨i,k⟩
         ·have hb:=hlt _ k;rcases h'.out.fresh' id p hp with e|⟨q,hq,_⟩
          ·omega
          ·rw[kD (by omega)]at hq;cases hq
         ·obtain⟨j,hj,rfl⟩:=Ut.1 hq;obtain⟨h1,h2⟩:=oB j _ (dg hj);have:=h'.heap.inj j id _ p h2 hp k;omega
         ·cases k
       have heq:∀(id:Nat),id<σ.length->σ[id]? =s'.σ[id]? :=λid hlt'=>by have h1:(List.take σ.length s'.σ)[id]? =s'.σ[id]? :=Vp hlt';rw[he]at h1;exact h1
       have held:tO (ctx z z.w z.E cz) (ctx z w' E' bJ) (ctx z w' (E'.take σ.length) cz):=
        ⟨rfl,rfl,qA.X,λid p0 p e0 e1=>qg id p (by have:=(bG.1 e0).1;simp only[ctx]at this;omega) e1⟩
       refine⟨E'.take σ.length,?_,?_,uJ qA 8 _ _ _ k6 rv⟩
       ·have o:=h'.out
        exact⟨o.os,o.tape,o.output,o.size,o.stay,λi p hp=>o.fresh' i p (oB i p hp).2,λi p hp=>by
         obtain⟨p',m1,m2⟩:=o.env i p hp
         exact⟨p',qg i p' (by have:=(bG.1 hp).1;omega) m1,m2⟩,o.lt,o.mine⟩
       ·refine⟨by simp only[ctx,qC];omega,λi j p q hp hq e=>h'.heap.inj i j p q (oB i p hp).2 (oB j q hq).2 e,λi p x hp hx=>?_⟩;obtain⟨hi,hp2⟩:=oB i p hp;have dU:z.E[i]? =δ z.E[i]:=dg (by omega);exact HV held (hh.blk i _ x dU hx) (h'.heap.blk i p x hp2 (by rw[<-heq i hi];exact hx))
      ·cases k3
   have E0:∀(x:AV)(v:Value)(r:AV)(σ':Heap),an (ctx z w' E' bJ) x v->A.E0 σ x s'.σ=δ (r,σ')->∃iu,Out z w' iu/\fO (ctx z w' iu cz) σ'/\an (ctx z w' iu cz) r v:=by
     intro x v r σ' rv k3;unfold A.E0 at k3;obtain⟨τ,q0,k4⟩:=bD.1 k3;obtain⟨r',k6,k7⟩:=cO.1 k4;simp only[ir]at k7;obtain⟨rfl,rfl⟩:=k7;obtain⟨q1,Xk,q3⟩:=Tt q0;have hlen:=h'.heap.len;simp only[ctx]at hlen;have hzl:z.E.length=σ.length:=hh.len;have qg:∀(id:Nat)(p:Pl),id<σ.length->E'[id]? =δ p->(E'.take σ.length)[id]? =δ p:=λid p hlt' hp=>by rw[Vp hlt'];exact hp
     have oB:∀(id:Nat)(p:Pl),(E'.take σ.length)[id]? =δ p->id<σ.length/\E'[id]? =δ p:=λid p hp=>by
      rw[Vj]at hp;split at hp
      ·exact⟨by assumption,hp⟩
      ·cases hp
     have qA:tH (ctx z w' E' bJ) (ctx z w' (E'.take σ.length) cz) s'.σ σ.length:=by
      refine⟨rfl,rfl,λb k=>?_,qg,h'.heap,λid p hge hp k=>?_⟩
      ·rcases k with k|⟨p,hp,k⟩|⟨i,k⟩
       ·exact .inl k
       ·exact .inr (.inl ⟨p,yp hp,k⟩)
       ·cases k
      ·rcases k with k|⟨q,hq,k⟩|⟨i,k⟩
       ·have hb:=hlt _ k;rcases h'.out.fresh' id p hp with e|⟨q,hq,_⟩
        ·omega
        ·rw[kD (by omega)]at hq;cases hq
       ·obtain⟨j,hj,rfl⟩:=Ut.1 hq;obtain⟨h1,h2⟩:=oB j _ (dg hj);have:=h'.heap.inj j id _ p h2 hp k;omega
       ·cases k
     have held:tO (ctx z z.w z.E cz) (ctx z w' E' bJ) (ctx z w' (E'.take σ.length) cz):=
      ⟨rfl,rfl,qA.X,λid p0 p e0 e1=>qg id p (by have:=(bG.1 e0).1;simp only[ctx]at this;omega) e1⟩
     refine⟨E'.take σ.length,?_,?_,uJ qA 8 _ _ _ k6 rv⟩
     ·have o:=h'.out
      exact⟨o.os,o.tape,o.output,o.size,o.stay,λi p hp=>o.fresh' i p (oB i p hp).2,λi p hp=>by
       obtain⟨p',m1,m2⟩:=o.env i p hp
       exact⟨p',qg i p' (by have:=(bG.1 hp).1;omega) m1,m2⟩,o.lt,o.mine⟩
     ·refine⟨by simp only[ctx,qC];omega,λi j p q hp hq e=>h'.heap.inj i j p q (oB i p hp).2 (oB j q hq).2 e,λi p x hp hx=>?_⟩;obtain⟨hi,hp2⟩:=oB i p hp;obtain⟨b,b',m1,m2,m3⟩:=q3 i x hx;rcases m3 with⟨rfl,rfl⟩|m3
      ·have dU:z.E[i]? =δ z.E[i]:=dg (by omega);exact HV held (hh.blk i _ x dU m1) (h'.heap.blk i p x hp2 m2)
      ·exact aeR qA m3 (h'.heap.blk i p b' hp2 m2)
   have done:∀(hk:wK X s' fn.results.toList (λvs=>keep.run args σ (one vs) s'.σ)=δ (r,σ')),
     a'.defers=[]/\∃v,(results fn a'.tmps).run X.P w'=.ok v w'/\∃v' E',Ending.returned v=.returned v'/\Out z w' E'/\fO (ctx z w' E' cz) σ'/\an (ctx z w' E' cz) r v':=by
    intro hk;refine⟨h'.defers,?_⟩;obtain⟨us,kI,k1,k2,k3⟩:=MK h' _ _ _ hk;obtain⟨v,k4,k5⟩:=acj k1;have rv:=k5 _ _ k2;refine⟨v,k4,v,?_⟩
    have kept:∃E',Ending.returned v=.returned v/\Out z w' E'/\fO (ctx z w' E' cz) s'.σ/\an (ctx z w' E' cz) (one kI) v:=
     ⟨E',rfl,h'.out,h'.heap.mono hno rfl (λp hp=>rfl),TK hno _ _ rv⟩
    cases keep with
    |K=>simp only[oq.run,ψ,ir]at k3;obtain⟨rfl,rfl⟩:=k3;exact kept
    |F=>obtain⟨iu,q1,q2,q3⟩:=Xi _ _ _ _ rv k3;exact⟨iu,rfl,q1,q2,q3⟩
    |G=>obtain⟨iu,q1,q2,q3⟩:=E0 _ _ _ _ rv k3;exact⟨iu,rfl,q1,q2,q3⟩
    |N g=>simp only[oq.run]at k3;obtain⟨⟨r0,au⟩,k6,k7⟩:=cO.1 k3;simp only[ir]at k7;obtain⟨rfl,rfl⟩:=k7;obtain⟨iu,q1,q2,q3⟩:=Xi _ _ _ _ rv k6;exact⟨iu,rfl,q1,q2,hkeep _ _ _ q3⟩
    |R=>
     simp only[oq.run]at k3;obtain⟨x,hx⟩:∃x,x=one kI:=⟨_,rfl⟩
     rw[<-hx]at rv k3 kept;unfold A.renew at k3;split at k3
     ·rename_i id g sz off len;split at k3
      ·rename_i g' sz' es hs';split at k3
       ·rename_i hc;obtain⟨rfl,rfl,hle,am2⟩:=hc;simp only[an]at rv;obtain⟨hg,p,e1,e2,qa,cp,rfl,hcap,rx⟩:=rv;obtain⟨j1,j2,j3,j4,⟨arr,bt,j5,j6⟩,j7,j8,j9⟩:=h'.heap.blk id p _ e1 hs';obtain⟨q1,q2,q3⟩:=rx j1.symm;have hid:id<E'.length:=(bG.1 e1).1;have lQ:((es.drop off).take len).length=len:=by simp;omega
        have hmul:(off+len)*sz<=es.length*sz:=mQ _ hle;rw[fQ]at hmul;split at k3
        ·simp only[ψ,ir]at k3;obtain⟨rfl,rfl⟩:=k3
         have C9:=h'.move (id:=id) (p:=p) (p':=⟨p.b,p.base+off*sz,XC args+1,sz,p.o7⟩) (w':=w') (blk:=.arr (XC args+1) sz ((es.drop off).take len)) e1
          ⟨by omega,by show p.g<XC args+1;omega⟩ rfl rfl rfl (bR _) (λb _ _=>rfl) (.inl rfl) (λhx=>by
           refine⟨rfl,by show 0<XC args+1;omega,rfl,j4,⟨arr,bt,j5,j6⟩,?_,?_,j9⟩
           ·rw[lQ];show p.base+off*sz+len*sz<=p.o7;omega
           ·exact bC.mono hx sz p.b rfl _ _ ((j8.drop off).take len))
         have ajf:Ext (ctx z w' (E'.set id ⟨p.b,p.base+off*sz,XC args+1,sz,p.o7⟩) bJ) (ctx z w' (E'.set id ⟨p.b,p.base+off*sz,XC args+1,sz,p.o7⟩) cz):=Ext.same rfl rfl (λb k=>by
          rcases k with k|k|⟨i,k⟩
          ·exact .inl k
          ·exact .inr (.inl k)
          ·cases k) rfl
         refine⟨_,rfl,C9.1.out,C9.1.heap.mono ajf rfl (λp hp=>rfl),?_⟩;simp only[an];refine⟨by omega,⟨p.b,p.base+off*sz,XC args+1,sz,p.o7⟩,by simp [ctx,hid],bR _,qa,cp,rfl,hcap,λ_=>⟨rfl,?_,?_⟩⟩
         ·rcases q2 with q2|q2
          ·exact .inl q2
          ·exact .inr (by rw[q2,q1];simp)
         ·simp only[Z3];rw[q1,fQ]at q3;omega
        ·unfold A.merge at k3;split at k3
         ·rename_i gU g0 OX pW OF rest _ _ _;split at k3
          ·rename_i g1 xx tQ hs0;split at k3
           ·rename_i ahr;obtain⟨am1,amG,rfl,yP,hsame,hF,ajj⟩:=ahr;simp only[ψ,ir]at k3;obtain⟨rfl,rfl⟩:=k3;have hzl:z.E.length=σ.length:=hh.len;have hEl:E'.length=s'.σ.length:=h'.heap.len;have ajc:gU<σ.length:=(bG.1 hs0).1;obtain⟨pz,Dd⟩:∃pz,z.E[gU]? =δ pz:=⟨_,dg (by omega)⟩
            obtain⟨y1,y2,y3,y4,y5,y6,y7,y8⟩:=hh.blk gU pz _ Dd hs0;obtain⟨p'',tM⟩:∃p'':Pl,p''=⟨p.b,p.base+off*xx,XC (.os gU g0 OX pW OF::rest)+1,xx,p.o7⟩:=⟨_,rfl⟩
            have hne:id≠gU:=by omega
            have WQ:∀(j:Nat)(q p2:Pl),j≠gU->z.E[j]? =δ q->E'[j]? =δ p2->p2=q:=by
             intro j q p2 hj hq hp2;have hjl:j<σ.length:=by rw[<-hzl];exact(bG.1 hq).1
             obtain⟨p3,m1,m2⟩:=h'.out.env j q hq;rw[hp2]at m1;injection m1 with m1;subst m1
             rcases m2 with m2|⟨m2,m3⟩
             ·exact m2
             ·have hsj:=hsame j hjl hj;have hx0:σ[j]? =δ σ[j]:=dg hjl;have u1:=MU (hh.blk j q _ hq hx0);have u2:=MU (h'.heap.blk j p2 _ hp2 (by rw[hsj];exact hx0));omega
            have rX:∃p0,E'[gU]? =δ p0:=⟨_,dg (by omega)⟩
            obtain⟨p0,rX⟩:=rX;have am3:p0.g=g1:=MU (h'.heap.blk gU p0 _ rX hF)
            have hfr:z.w.heap.size<=p.b:=by
             rcases h'.out.fresh' id p e1 with k|⟨q,hq,_⟩
             ·exact k
             ·rw[kD (by omega)]at hq;cases hq
            have hm:p∈E':=ct e1
            have hx:Ext (ctx z w' E' bJ) (ctx z w' (E'.set gU p'') cz):=by
             refine⟨bR _,λb hb hn=>⟨rfl,?_⟩,λj q hq=>?_,rfl⟩
             ·rintro(k|⟨q,hq,k⟩|⟨i,k⟩)
              ·exact hn (.inl k)
              ·rcases List.mem_or_eq_of_mem_set hq with hq|hq
               ·exact hn (.inr (.inl ⟨q,hq,k⟩))
               ·exact hn (.inr (.inl ⟨p,hm,by rw[<-k,hq,tM]⟩))
              ·cases k
             ·by_cases e:gU=j
              ·subst e;simp only[ctx]at hq;rw[rX]at hq;injection hq with hq;subst hq
               exact⟨p'',by simp only[ctx];rw[kT (bG.1 rX).1],.inr ⟨by omega,by rw[tM];show p0.g<XC (.os gU g0 OX pW OF::rest)+1;omega⟩⟩
              ·exact⟨q,by simp only[ctx]at hq ⊢;rw[ZY e];exact hq,.inl rfl⟩
            have FU:∀(j:Nat)(q:Pl),(z.E.set gU p'')[j]? =δ q->(j=gU/\q=p'')\/(j≠gU/\z.E[j]? =δ q):=λj q hq=>by
             by_cases e:gU=j
             ·subst e;rw[kT (bG.1 Dd).1]at hq;injection hq with hq;exact .inl ⟨rfl,hq.symm⟩
             ·rw[ZY e]at hq;exact .inr ⟨λe'=>e e'.symm,hq⟩
            have anU:∀(j:Nat)(q:Pl),j≠gU->z.E[j]? =δ q->E'[j]? =δ q:=λj q hj hq=>by have hjl:j<z.E.length:=(bG.1 hq).1;obtain⟨p3,m1,_⟩:=h'.out.env j q hq;rw[m1,WQ j q p3 hj hq m1]
            have held:tO (ctx z z.w z.E cz) (ctx z w' (E'.set gU p'') cz) (ctx z w' (z.E.set gU p'') cz):=by
             refine⟨rfl,rfl,λb k=>?_,λj q0 q Qp hq=>?_⟩
             ·rcases k with k|⟨q,hq,k⟩|⟨i,k⟩
              ·exact .inl k
              ·obtain⟨j,hj⟩:=wA.1 hq;rcases FU j q hj with⟨e3,e4⟩|⟨e3,e4⟩
               ·subst e3;exact .inr (.inl ⟨q,ct (i:=j) (by rw[kT (bG.1 rX).1,e4]),k⟩)
               ·exact .inr (.inl ⟨q,ct (i:=j) (by rw[ZY (λe=>e3 e.symm)];exact anU j q e3 e4),k⟩)
              ·cases k
             ·simp only[ctx]at Qp hq ⊢;by_cases e:gU=j
              ·subst e;rw[kT (bG.1 rX).1]at hq;rw[kT (bG.1 Dd).1];exact hq
              ·rw[ZY e]at hq ⊢;rw[WQ j q0 q (λe'=>e e'.symm) Qp hq];exact Qp
            refine⟨z.E.set gU p'',rfl,?_,?_,?_⟩
            ·have o:=h'.out;refine⟨o.os,o.tape,o.output,o.size,o.stay,λj q hq=>?_,λj q hq=>?_,o.lt,o.mine⟩
             ·rcases FU j q hq with⟨e3,e4⟩|⟨e3,e4⟩
              ·left;rw[e4,tM];exact hfr
              ·exact .inr ⟨q,e4,rfl⟩
             ·by_cases e:gU=j
              ·subst e;rw[Dd]at hq;injection hq with hq;subst hq
               exact⟨p'',kT (bG.1 Dd).1,.inr ⟨by omega,by rw[tM];show pz.g<XC (.os gU g0 OX pW OF::rest)+1;omega⟩⟩
              ·exact⟨q,by rw[ZY e];exact hq,.inl rfl⟩
            ·refine⟨by simp [ctx,hzl],λi j q r hq hr he=>?_,λi q x hq dO=>?_⟩
             ·have Xl:∀(j:Nat)(q:Pl),z.E[j]? =δ q->q.b<z.w.heap.size:=λj q hq=>hh.lt (p:=q) (ct hq)
              rcases FU i q hq with⟨e3,e4⟩|⟨e3,e4⟩<;>rcases FU j r hr with⟨e5,e6⟩|⟨e5,e6⟩
              ·rw[e3,e5]
              ·have:=Xl j r e6;rw[e4,tM]at he;simp only at he;omega
              ·have:=Xl i q e4;rw[e6,tM]at he;simp only at he;omega
              ·exact hh.inj i j q r e4 e6 he
             ·rcases FU i q hq with⟨e3,e4⟩|⟨e3,e4⟩
              ·subst e3;rw[kT ajc]at dO;injection dO with dO
               subst dO;subst e4;subst tM;refine⟨rfl,Nat.succ_pos _,rfl,j4,⟨arr,bt,j5,j6⟩,?_,?_,j9⟩
               ·rw[lQ];show p.base+off*xx+len*xx<=p.o7;omega
               ·refine UY held xx p.b _ _ (λy hy=>?_) (bC.mono hx xx p.b rfl _ _ ((j8.drop off).take len));rcases ajj y hy with k|k
                ·obtain⟨i,hi⟩:=wA.1 k;exact⟨_,_,(aqe y7 hi).2⟩
                ·exact apl ha y k
              ·rw[ZY (λe=>e3 e.symm)]at dO;have hil:i<σ.length:=(bG.1 dO).1;exact HV held (hh.blk i q x e4 dO) ((h'.heap.blk i q x (anU i q e3 e4) (by rw[hsame i hil e3];exact dO)).mono hx rfl)
            ·simp only[an];refine⟨Nat.succ_pos _,p'',by simp only[ctx];exact kT (bG.1 Dd).1,by rw[tM];exact bR _,qa,cp,by rw[lQ],by rw[lQ];exact hcap,λ_=>⟨by rw[tM],?_,?_⟩⟩
             ·rcases q2 with q2|q2
              ·exact .inl q2
              ·exact .inr (by rw[q2,q1,tM];simp)
             ·rw[tM];simp only[Z3];rw[q1,fQ]at q3;omega
           ·cases k3
          ·cases k3
         ·cases k3
       ·cases k3
      ·cases k3
     ·simp only[ψ,ir]at k3;obtain⟨rfl,rfl⟩:=k3;exact kept
     ·simp only[ψ,ir]at k3;obtain⟨rfl,rfl⟩:=k3;exact kept
     ·simp only[ψ,ir]at k3;obtain⟨rfl,rfl⟩:=k3;exact kept
     ·cases k3
   cases e with
   |normal=>exact done hk
   |ret=>exact done hk
   |exit i=>cases hk
end
end
section
open Go.RowKit
inductive Sh where
 |k
 |s(sz:Nat)
 |e(sz:Nat)(l:List Sh)
 |a(l:List Sh)
 |t(l:List Sh)
 |p(l:List Sh)
namespace A
mutual
def nn:Sh->AV->AV
 |.k,v=>v
 |.s sz,v=>match v with|.aC=>.sl sz []|.ez=>.sl sz []|v=>v
 |.e sz l,v=>match v with|.aC=>.sl sz []|.ez=>.sl sz []|.sl sz' es=>.sl sz' (es.map (cZ l))|v=>v
 |.a l,v=>match v with|.agg cs=>.agg (cZ l cs)|v=>v
 |.t l,v=>match v with|.aJ vs=>.aJ (cZ l vs)|v=>v
 |.p l,v=>match v with|.rp cs=>.rp (cZ l cs)|v=>v
def cZ:List Sh->List AV->List AV
 |[],vs=>vs
 |s::ss,vs=>match vs with|[]=>[]|v::vs=>nn s v::cZ ss vs
end
def OJ:AV->Bool
 |.os ..=>η
 |.op ..=>η
 |.oe ..=>η
 |.om ..=>η
 |_=>ι
def own:AV->Bool
 |.agg cs=>cs.any OJ
 |v=>OJ v
def pS:AV->Bool
 |.int ..=>η
 |.bool ..=>η
 |.str ..=>η
 |.np=>η
 |.aC=>η
 |.ez=>η
 |.nm=>η
 |.vC=>η
 |.sl _ []=>η
 |_=>ι
def pU:AV->Bool
 |.agg cs=>cs.all pS
 |v=>pS v
def Ae:AV->Bool
 |.aJ vs=>vs.all pU
 |v=>pU v
def fresh(v:AV):Bool:=match v with
 |.os ..=>η
 |.om _=>η
 |v=>pU v
def uO:AV->Bool
 |.aJ vs=>vs.all fresh
 |v=>fresh v
def zC:aP->Bool
 |.box cs=>cs.all pS
 |.arr _ _ es=>es.all λe=>e.all pS
 |.map es=>es.all λp=>pU p.1&&pU p.2
 |_=>ι
def shift(n:Nat)(v:AV):AV:=match v with
 |.os id g sz off len=>.os (id+n) g sz off len
 |.om id=>.om (id+n)
 |v=>v
def tr(n:Nat):AV->AV
 |.aJ vs=>.aJ (vs.map (shift n))
 |v=>shift n v
def wrap (ro:Bool) (cL:List Sh) (dR:Sh) (r:List AV->Heap->Option (AV×Heap)) (args:List AV) (σ:Heap):Option (AV×Heap):=bif ro&&args.any own then (dF σ 0 8 args).bind λargs=>(r (cZ cL args) []).bind λq=>bif uO (nn dR q.1)&&q.2.all zC then δ (tr σ.length (nn dR q.1),σ++q.2)else μ else(r (cZ cL args) σ).map λq=>(nn dR q.1,q.2)
def yz (sh:Sh) (m:List AV->Heap->Option (AV×Heap)) (args:List AV) (σ:Heap):Option (AV×Heap):=(m args σ).bind λp=>(fin σ p.1 p.2).map λq=>(nn sh q.1,q.2)
def IG (m:List AV->Heap->Option (AV×Heap)) (args:List AV) (σ:Heap):Option (AV×Heap):=match args with
 |[.sl _ []]=>δ (.ez,σ)
 |[.aC]=>δ (.ez,σ)
 |[.ez]=>δ (.ez,σ)
 |[.os _ _ _ _ 0]=>δ (.ez,σ)
 |_=>m args σ
end A
def Sound(P:Program)(nm:List Nat)(f:FuncId)(m:List AV->Heap->Option (AV×Heap)):Prop:=∀args σ r σ',m args σ=δ (r,σ')->nu P nm f args σ r σ'
section
variable {P : Program} {nm : List Nat} {f : FuncId} {c c' : RC}
theorem ao2{v:Value}(sz:Nat)(hsz:0<sz)(h:an c .aC v):an c (.sl sz []) v:=by simp only[an]at h ⊢;subst h;exact⟨μ,0,rfl,bR _,hsz,.inl trivial⟩
theorem WJ{v:Value}(sz:Nat)(hsz:0<sz)(h:an c .ez v):an c (.sl sz []) v:=by simp only[an]at h ⊢;obtain⟨a,rfl⟩:=h;exact⟨a,0,rfl,bR _,hsz,.inl trivial⟩
mutual
def Sh.ok:Sh->Bool
 |.k=>η
 |.s sz=>TO 0 sz
 |.e sz l=>TO 0 sz&&Sh.fW l
 |.a l=>Sh.fW l
 |.t l=>Sh.fW l
 |.p l=>Sh.fW l
def Sh.fW:List Sh->Bool
 |[]=>η
 |x::l=>x.ok&&Sh.fW l
end
theorem Vi:∀(l:List Sh)(cs:List AV),(A.cZ l cs).length=cs.length
 |[],cs=>by simp [A.cZ]
 |_::_,[]=>by simp [A.cZ]
 |o::l,v::cs=>by simp [A.cZ,Vi l cs]
mutual
theorem CB:∀(s:Sh)(a:AV)(v:Value),s.ok=η->an c a v->an c (A.nn s a) v
 |.k,a,v,_,h=>by simpa [A.nn]using h
 |.s sz,a,v,ho,h=>by cases a<;>simp only[A.nn]<;>first|exact h|exact ao2 sz (by simpa [Sh.ok]using ho) h|exact WJ sz (by simpa [Sh.ok]using ho) h
 |.e sz l,a,v,ho,h=>by
  simp only[Sh.ok,fy]at ho;cases a<;>simp only[A.nn]<;>first|exact h|exact ao2 sz (by simpa using ho.1) h|exact WJ sz (by simpa using ho.1) h|skip
  simp only[an]at h ⊢;obtain⟨a,cap,e,h1,h2,h3⟩:=h;refine⟨a,cap,by rw[Zk];exact e,by rw[Zk];exact h1,h2,?_⟩;rcases h3 with h3|⟨b,off,e1,e2,e3,e4⟩
  ·left;rw[h3];rfl
  ·right;exact⟨b,off,e1,e2,e3,V4 l ho.2 _ _ e4⟩
 |.a l,a,v,ho,h=>by
  simp only[Sh.ok]at ho;cases a<;>simp only[A.nn]<;>first|exact h|skip
  simp only[an]at h ⊢;obtain⟨vs,e,h1,h2⟩:=h;exact⟨vs,e,Ez l _ _ ho h1,h2⟩
 |.t ss,a,v,ho,h=>by
  simp only[Sh.ok]at ho;cases a<;>simp only[A.nn]<;>first|exact h|skip
  simp only[an]at h ⊢;obtain⟨vs,e,h1⟩:=h;exact⟨vs,e,Ez ss _ _ ho h1⟩
 |.p l,a,v,ho,h=>by
  simp only[Sh.ok]at ho;cases a<;>simp only[A.nn]<;>first|exact h|skip
  simp only[an]at h ⊢;obtain⟨b,off,e,h1,h2,h3⟩:=h;exact⟨b,off,e,h1,h2,Nn l _ _ ho h3⟩
theorem Ez:∀(ss:List Sh)(l:List AV)(vs:List Value),Sh.fW ss=η->aN c l vs->aN c (A.cZ ss l) vs
 |[],l,vs,_,h=>by simpa [A.cZ]using h
 |_::_,[],vs,_,h=>by simpa [A.cZ]using h
 |s::ss,a::l,vs,ho,h=>by simp only[Sh.fW,fy]at ho;simp only[A.cZ,aN]at h ⊢;obtain⟨v,vs',e,h1,h2⟩:=h;exact⟨v,vs',e,CB s a v ho.1 h1,Ez ss l vs' ho.2 h2⟩
theorem Nn{b:Nat}:∀(l:List Sh)(cs:List AV)(off:Nat),Sh.fW l=η->bp c b off cs->bp c b off (A.cZ l cs)
 |[],cs,off,_,h=>by simpa [A.cZ]using h
 |_::_,[],off,_,h=>by simpa [A.cZ]using h
 |o::l,a::cs,off,ho,h=>by simp only[Sh.fW,fy]at ho;simp only[A.cZ,bp]at h ⊢;obtain⟨⟨v,h1,h2,h3⟩,h4⟩:=h;exact⟨⟨v,h1,h2,CB o a v ho.1 h3⟩,Nn l cs (off+1) ho.2 h4⟩
theorem V4{sz b:Nat}(l:List Sh)(hl:Sh.fW l=η):∀(es:List (List AV))(off:Nat),bC c sz b off es->bC c sz b off (es.map (A.cZ l))
 |[],off,h=>by simp [bC]
 |e::es,off,h=>by simp only[dH,bC]at h ⊢;exact⟨by rw[Vi];exact h.1,Nn l e off hl h.2.1,V4 l hl es _ h.2.2⟩
end
theorem Mr:∀{a:AV}{v:Value},A.pS a=η->an c a v->an c' a v:=by
 intro a v h r;cases a<;>simp only[A.pS]at h<;>first|(cases h;done)|skip
 case sl sz es=>
  cases es with
  |nil=>simp only[an]at r ⊢;obtain⟨q,cap,e,h1,h2,_⟩:=r;exact⟨q,cap,e,h1,h2,.inl trivial⟩
  |cons _ _=>simp at h
 all_goals simpa [an]using r
theorem S4:∀{l:List AV}{vs:List Value},l.all A.pS=η->aN c l vs->aN c' l vs
 |[],vs,_,r=>by simpa [aN]using r
 |a::l,vs,h,r=>by simp only[ap8,fy]at h;simp only[aN]at r ⊢;obtain⟨v,vs',e,h1,h2⟩:=r;exact⟨v,vs',e,Mr h.1 h1,S4 h.2 h2⟩
theorem Ms{a:AV}{v:Value}(h:A.pU a=η)(r:an c a v):an c' a v:=by
 unfold A.pU at h;split at h
 ·simp only[an]at r ⊢;obtain⟨vs,e,h1,h2⟩:=r;exact⟨vs,e,S4 h h1,h2⟩
 ·exact Mr h r
theorem nu.conv{args args':List AV}{σ σ':Heap}{r r':AV}(h:nu P nm f args' σ r σ')(ha:∀c vs,aN c args vs->aN c args' vs)(hr:∀c v,an c r v->an c r' v):nu P nm f args σ r' σ':=by
 rcases h with⟨g,h1,h2⟩|h
 ·refine .inl ⟨g,h1,λz vs e1 e2 e3 e4=>(h2 z vs e1 e2 e3 (ha _ _ e4)).mono ?_⟩;rintro e w' ⟨v,E',k1,k2,k3,k4⟩;exact⟨v,E',k1,k2,k3,hr _ _ k4⟩
 ·refine .inr λz vs e1 e2 e3 e4=>?_
  obtain⟨v,w',E',k1,k2,k3,k4⟩:=h z vs e1 e2 e3 (ha _ _ e4);exact⟨v,w',E',k1,k2,k3,hr _ _ k4⟩
theorem TY{z0 z:Z}{w':World}{E':List Pl}{n:Nat}(hn:n=z.E.length){a:AV}{v:Value}(h:A.fresh a=η)(r:an (ctx z0 w' E' cz) a v):an (ctx z w' (z.E++E') cz) (A.shift n a) v:=by
 have key:∀(id:Nat)(p:Pl),E'[id]? =δ p->(z.E++E')[id+n]? =δ p:=λid p hp=>by rw[kC (by omega),hn,Nat.add_sub_cancel];exact hp
 unfold A.fresh at h;unfold A.shift;split at h
 ·simp only[an]at r ⊢;obtain⟨hg,p,h1,h2,r⟩:=r;exact⟨hg,p,key _ _ h1,h2,r⟩
 ·simp only[an]at r ⊢;obtain⟨p,h1,h2,r⟩:=r;exact⟨p,key _ _ h1,h2,r⟩
 ·exact Ms h r
theorem acs{z0 z:Z}{w':World}{E':List Pl}{n:Nat}(hn:n=z.E.length){vs:List AV}{v:Value}(h:vs.all A.fresh=η)(r:an (ctx z0 w' E' cz) (.aJ vs) v):an (ctx z w' (z.E++E') cz) (A.tr n (.aJ vs)) v:=by
 simp only[an,A.tr]at r ⊢;obtain⟨us,rfl,r⟩:=r;refine⟨us,rfl,?_⟩;generalize us.toList=us' at r ⊢;induction vs generalizing us' with
 |nil=>simpa [aN]using r
 |cons x l ih=>simp only[ap8,fy]at h;simp only[aN,dH]at r ⊢;obtain⟨v,vs',e,h1,h2⟩:=r;exact⟨v,vs',e,TY hn h.1 h1,ih h.2 _ h2⟩
theorem adl{z0 z:Z}{w':World}{E':List Pl}{n:Nat}(hn:n=z.E.length){a:AV}{v:Value}(h:A.uO a=η)(r:an (ctx z0 w' E' cz) a v):an (ctx z w' (z.E++E') cz) (A.tr n a) v:=by
 by_cases ht:∃vs,a=.aJ vs
 ·obtain⟨vs,rfl⟩:=ht;exact acs hn h r
 ·have e1:A.uO a=A.fresh a:=by cases a<;>first|rfl|exact absurd ⟨_,rfl⟩ ht
  have e2:A.tr n a=A.shift n a:=by cases a<;>first|rfl|exact absurd ⟨_,rfl⟩ ht
  rw[e1]at h;rw[e2];exact TY hn h r
theorem LO{b:Nat}:∀{l:List AV}{off:Nat},l.all A.pS=η->c'.w=c.w->bp c b off l->bp c' b off l
 |[],off,_,_,_=>by simp [bp]
 |a::l,off,h,hw,r=>by simp only[ap8,fy]at h;simp only[bp]at r ⊢;obtain⟨⟨v,h1,h2,h3⟩,h4⟩:=r;exact⟨⟨v,by rw[hw];exact h1,h2,Mr h.1 h3⟩,LO h.2 hw h4⟩
theorem aoV{sz b:Nat}:∀{l:List (List AV)}{off:Nat},(l.all λe=>e.all A.pS)=η->c'.w=c.w->bC c sz b off l->bC c' sz b off l
 |[],off,_,_,_=>by simp [bC]
 |a::l,off,h,hw,r=>by simp only[ap8,fy]at h;simp only[bC]at r ⊢;obtain⟨h1,h2,h3⟩:=r;exact⟨h1,LO h.1 hw h2,aoV h.2 hw h3⟩
theorem S5:∀{l:List (AV×AV)}{es:List MapEntry},(l.all λp=>A.pU p.1&&A.pU p.2)=η->bW c l es->bW c' l es
 |[],es,_,r=>by simpa [bW]using r
 |(k,v)::l,es,h,r=>by simp only[ap8,fy]at h;simp only[bW]at r ⊢;obtain⟨e,es',h1,h2,h3,h4⟩:=r;exact⟨e,es',h1,Ms h.1.1 h2,Ms h.1.2 h3,S5 h.2 h4⟩
theorem acN{p:Pl}{x:aP}(h:A.zC x=η)(hw:c'.w=c.w)(r:oa c p x):oa c' p x:=by
 cases x with
 |box cs=>obtain⟨h1,⟨⟨arr,t,h2,h3⟩,h4⟩⟩:=r;exact⟨h1,⟨arr,t,by rw[hw];exact h2,h3⟩,LO h hw h4⟩
 |arr g sz es=>obtain⟨h1,h2,h3,h4,⟨arr,t,h5,h6⟩,h7,h8,h9⟩:=r;exact⟨h1,h2,h3,h4,⟨arr,t,by rw[hw];exact h5,h6⟩,h7,aoV h hw h8,λarr t fz e=>h9 arr t fz (by rw[<-hw];exact e)⟩
 |map es=>obtain⟨h1,bn,bu,h2,hwf,h3⟩:=r;exact⟨h1,bn,bu,by rw[hw];exact h2,hwf,S5 h h3⟩
 |qD g sz es=>cases h
 |it cur left=>cases h
theorem Uu{z:Z}{σ σ':Heap}{r:AV}{v:Value}{w':World}{E':List Pl}(e2:sK z)(hh:fO (ctx z z.w z.E cz) σ)(hv:A.uO r=η)(hb:σ'.all A.zC=η)
  (k2:Out ⟨z.w,[],λ_=>False,z.nm⟩ w' E') (k3:fO (ctx ⟨z.w,[],λ_=>False,z.nm⟩ w' E' cz) σ') (k4:an (ctx ⟨z.w,[],λ_=>False,z.nm⟩ w' E' cz) r v):
  ∃iu,Out z w' iu/\fO (ctx z w' iu cz) (σ++σ')/\an (ctx z w' iu cz) (A.tr σ.length r) v:=by
 have hlen:z.E.length=σ.length:=hh.len;have hlen':E'.length=σ'.length:=k3.len;have hst:∀b,b<z.w.heap.size->w'.heap[b]? =z.w.heap[b]? :=λb hb=>k2.stay b hb (λp hp=>by cases hp)
 have hlt:∀p∈z.E,p.b<z.w.heap.size:=λp hp=>hh.lt hp
 have hfr:∀p∈E',z.w.heap.size<=p.b:=λp hp=>by
  rcases k2.fresh p hp with k|⟨q,hq,_⟩
  ·exact k
  ·cases hq
 have hx:Ext (ctx z z.w z.E cz) (ctx z w' (z.E++E') cz):=by
  refine⟨k2.size,λb hb hn=>⟨hst b hb,?_⟩,λi p hp=>⟨p,?_,.inl rfl⟩,rfl⟩
  ·rintro(k|⟨p,hp,k⟩|⟨i,k⟩)
   ·exact hn (.inl k)
   ·rcases fB.1 hp with hp|hp
    ·exact hn (.inr (.inl ⟨p,hp,k⟩))
    ·have:=hfr p hp;simp only[ctx]at hb;omega
   ·cases k
  ·simp only[ctx]at hp ⊢;rw[gZ (bG.1 hp).1];exact hp
 have key:∀(i:Nat)(p:Pl),(z.E++E')[i]? =δ p->(i<z.E.length/\z.E[i]? =δ p)\/(z.E.length<=i/\E'[i-z.E.length]? =δ p):=λi p hp=>by
  by_cases hi:i<z.E.length
  ·rw[gZ hi]at hp;exact .inl ⟨hi,hp⟩
  ·rw[kC (by omega)]at hp;exact .inr ⟨by omega,hp⟩
 refine⟨z.E++E',⟨k2.os,k2.tape,k2.output,k2.size,λb hb _=>hst b hb,λi p hp=>?_,λi p hp=>⟨p,?_,.inl rfl⟩,e2,hlt⟩,⟨by simp [ctx,hlen,hlen'],λi j p q hp hq e=>?_,λi p x hp dO=>?_⟩,adl hlen.symm hv k4⟩
 ·rcases key i p hp with⟨_,k⟩|⟨_,k⟩
  ·exact .inr ⟨p,k,rfl⟩
  ·exact .inl (hfr p (ct k))
 ·rw[gZ (bG.1 hp).1];exact hp
 ·simp only[ctx]at hp hq;rcases key i p hp with⟨i1,k⟩|⟨i1,k⟩<;>rcases key j q hq with⟨j1,m⟩|⟨j1,m⟩
  ·exact hh.inj i j p q k m e
  ·have:=hlt p (ct k);have:=hfr q (ct m);omega
  ·have:=hlt q (ct m);have:=hfr p (ct k);omega
  ·have:=k3.inj _ _ p q k m e;omega
 ·simp only[ctx]at hp;rcases key i p hp with⟨i1,k⟩|⟨i1,k⟩
  ·rw[gZ (by omega)]at dO;exact(hh.blk i p x k dO).mono hx (hst _ (hlt p (ct k)))
  ·rw[kC (by omega),<-hlen]at dO;exact acN (c:=ctx ⟨z.w,[],λ_=>False,z.nm⟩ w' E' cz) (jC.1 hb x (ct dO)) rfl (k3.blk _ p x k dO)
theorem nu.XK{args args':List AV}{σ σ':Heap}{r:AV}(h:nu P nm f args' [] r σ')(ha:Xu σ 0 8 args=δ args')(hv:A.uO r=η)(hb:σ'.all A.zC=η):nu P nm f args σ (A.tr σ.length r) (σ++σ'):=by
 have hX:∀(z:Z)b,¬(ctx ⟨z.w,[],λ_=>False,z.nm⟩ z.w [] cz).X b:=by
  rintro z b (k|⟨p,hp,_⟩|⟨i,k⟩)
  ·exact k.elim
  ·cases hp
  ·cases k
 have qA:∀(z:Z),fO (ctx z z.w z.E cz) σ->tH (ctx z z.w z.E cz) (ctx ⟨z.w,[],λ_=>False,z.nm⟩ z.w [] cz) σ 0:=λz hh=>
  ⟨rfl,rfl,λb k=>(hX z b k).elim,λid p k=>absurd k (ap9 _),hh,λid p _ _=>hX z _⟩
 have h0:∀(z:Z),fO (ctx ⟨z.w,[],λ_=>False,z.nm⟩ z.w [] cz) []:=λz=>by
  refine⟨rfl,λi j p q hp=>?_,λi p x hp=>?_⟩
  ·simp [ctx]at hp
  ·simp [ctx]at hp
 rcases h with⟨g,h1,h2⟩|h2
 ·refine .inl ⟨g,h1,λz vs e1 e2 hh e4=>?_⟩;have ha':aN (ctx ⟨z.w,[],λ_=>False,z.nm⟩ z.w [] cz) args' vs.toList:=Cd (qA z hh) 8 (λav cm v _ e r=>uJ (qA z hh) 8 _ _ _ e r) _ _ _ ha e4;refine(h2 ⟨z.w,[],λ_=>False,z.nm⟩ vs e1 e2.none (h0 z) ha').mono ?_;rintro e w' ⟨v,E',k1,k2,k3,k4⟩;obtain⟨iu,q1,q2,q3⟩:=Uu e2 hh hv hb k2 k3 k4;exact⟨v,iu,k1,q1,q2,q3⟩
 ·refine .inr λz vs e1 e2 hh e4=>?_
  have ha':aN (ctx ⟨z.w,[],λ_=>False,z.nm⟩ z.w [] cz) args' vs.toList:=Cd (qA z hh) 8 (λav cm v _ e r=>uJ (qA z hh) 8 _ _ _ e r) _ _ _ ha e4;obtain⟨v,w',E',k1,k2,k3,k4⟩:=h2 ⟨z.w,[],λ_=>False,z.nm⟩ vs e1 e2.none (h0 z) ha';obtain⟨iu,q1,q2,q3⟩:=Uu e2 hh hv hb k2 k3 k4;exact⟨v,w',iu,k1,q1,q2,q3⟩
theorem aot{z:Z}{w':World}{E':List Pl}{σ σ1 σ':Heap}{x r:AV}{v:Value}(hh:fO (ctx z z.w z.E cz) σ)(hlt:sK z)(ho:Out z w' E')(hr:fO (ctx z w' E' cz) σ1)(rv:an (ctx z w' E' cz) x v)(k3:wh σ x σ1=δ (r,σ')):
  ∃iu,Out z w' iu/\fO (ctx z w' iu cz) σ'/\an (ctx z w' iu cz) r v:=by
 unfold wh at k3;split at k3
 ·rename_i he;simp only[ψ,ir]at k3;obtain⟨rfl,rfl⟩:=k3;exact⟨E',ho,by rw[<-he];exact hr,rv⟩
 ·split at k3
  ·rename_i he;obtain⟨r',k6,k7⟩:=cO.1 k3;simp only[ir]at k7;obtain⟨rfl,rfl⟩:=k7;have hlen:=hr.len;simp only[ctx]at hlen;have hzl:z.E.length=σ.length:=hh.len
   have Xk:σ.length<=σ1.length:=by have:=congrArg Ym he;simp at this;omega
   have qg:∀(id:Nat)(p:Pl),id<σ.length->E'[id]? =δ p->(E'.take σ.length)[id]? =δ p:=λid p hlt' hp=>by rw[Vp hlt'];exact hp
   have oB:∀(id:Nat)(p:Pl),(E'.take σ.length)[id]? =δ p->id<σ.length/\E'[id]? =δ p:=λid p hp=>by
    rw[Vj]at hp;split at hp
    ·exact⟨by assumption,hp⟩
    ·cases hp
   have qA:tH (ctx z w' E' cz) (ctx z w' (E'.take σ.length) cz) σ1 σ.length:=by
    refine⟨rfl,rfl,λb k=>?_,qg,hr,λid p hge hp k=>?_⟩
    ·rcases k with k|⟨p,hp,k⟩|⟨i,k⟩
     ·exact .inl k
     ·exact .inr (.inl ⟨p,yp hp,k⟩)
     ·cases k
    ·rcases k with k|⟨q,hq,k⟩|⟨i,k⟩
     ·have hb:=hlt _ k;rcases ho.fresh' id p hp with e|⟨q,hq,_⟩
      ·omega
      ·rw[kD (by omega)]at hq;cases hq
     ·obtain⟨j,hj,rfl⟩:=Ut.1 hq;obtain⟨h1,h2⟩:=oB j _ (dg hj);have:=hr.inj j id _ p h2 hp k;omega
     ·cases k
   have heq:∀(id:Nat),id<σ.length->σ[id]? =σ1[id]? :=λid hlt'=>by have h1:(List.take σ.length σ1)[id]? =σ1[id]? :=Vp hlt';rw[he]at h1;exact h1
   have held:tO (ctx z z.w z.E cz) (ctx z w' E' cz) (ctx z w' (E'.take σ.length) cz):=
    ⟨rfl,rfl,qA.X,λid p0 p e0 e1=>qg id p (by have:=(bG.1 e0).1;simp only[ctx]at this;omega) e1⟩
   refine⟨E'.take σ.length,?_,?_,uJ qA 8 _ _ _ k6 rv⟩
   ·have o:=ho
    exact⟨o.os,o.tape,o.output,o.size,o.stay,λi p hp=>o.fresh' i p (oB i p hp).2,λi p hp=>by
     obtain⟨p',m1,m2⟩:=o.env i p hp
     exact⟨p',qg i p' (by have:=(bG.1 hp).1;omega) m1,m2⟩,o.lt,o.mine⟩
   ·refine⟨by simp only[ctx,qC];omega,λi j p q hp hq e=>hr.inj i j p q (oB i p hp).2 (oB j q hq).2 e,λi p x hp hx=>?_⟩;obtain⟨hi,hp2⟩:=oB i p hp;have dU:z.E[i]? =δ z.E[i]:=dg (by omega);exact HV held (hh.blk i _ x dU hx) (hr.blk i p x hp2 (by rw[<-heq i hi];exact hx))
  ·cases k3
theorem Sound.yz{m:List AV->Heap->Option (AV×Heap)}(h:Sound P nm f m)(sh:Sh)(hs:sh.ok=η):Sound P nm f (A.yz sh m):=by
 intro args σ r σ' e;unfold A.yz at e;obtain⟨⟨x,σ1⟩,e1,e2⟩:=bD.1 e;obtain⟨⟨y,σ2⟩,e3,e4⟩:=cO.1 e2;simp only[ir]at e4;obtain⟨rfl,rfl⟩:=e4;rcases h _ _ _ _ e1 with⟨g,h1,h2⟩|h2
 ·refine .inl ⟨g,h1,λz vs k1 k2 hh k4=>?_⟩;refine(h2 z vs k1 k2 hh k4).mono ?_;rintro e w' ⟨v,E',q1,q2,q3,q4⟩;obtain⟨iu,p1,p2,p3⟩:=aot hh k2 q2 q3 q4 e3;exact⟨v,iu,q1,p1,p2,CB _ _ _ hs p3⟩
 ·refine .inr λz vs k1 k2 hh k4=>?_
  obtain⟨v,w',E',q1,q2,q3,q4⟩:=h2 z vs k1 k2 hh k4;obtain⟨iu,p1,p2,p3⟩:=aot hh k2 q2 q3 q4 e3;exact⟨v,w',iu,q1,p1,p2,CB _ _ _ hs p3⟩
theorem Sound.wrap{r:List AV->Heap->Option (AV×Heap)}(h:Sound P nm f r)(ro:Bool)(cL:List Sh)(dR:Sh)(hi:Sh.fW cL=η)(ho:dR.ok=η):Sound P nm f (A.wrap ro cL dR r):=by
 intro args σ v σ' e;unfold A.wrap at e;cases hc:(ro&&args.any A.own)
 ·rw[hc]at e;simp only[bk]at e;obtain⟨q,e1,e2⟩:=cO.1 e;injection e2 with e2 e3
  subst e2 e3;exact(h _ _ _ _ e1).conv (λc vs k=>Ez _ _ _ hi k) (λc v k=>CB _ _ _ ho k)
 ·rw[hc]at e;simp only[bz]at e;obtain⟨args',e1,e2⟩:=bD.1 e;obtain⟨q,e3,e4⟩:=bD.1 e2;obtain⟨q1,q2⟩:=q;simp only at e4;cases hs:(A.uO (A.nn dR q1)&&q2.all A.zC)
  ·rw[hs]at e4;cases e4
  ·rw[hs]at e4;simp only[bz,ψ,ir]at e4;obtain⟨rfl,rfl⟩:=e4;simp only[fy]at hs;exact((h _ _ _ _ e3).conv (args:=args') (λc vs k=>Ez _ _ _ hi k) (λc v k=>CB _ _ _ ho k)).XK e1 hs.1 hs.2
end
theorem cP.of{X:Fx}{t:List (FuncId×(List AV->Heap->Option (AV×Heap)))}(hc:X.call=Z5 (λ_ _=>μ) t) (ht:∀p∈t,Sound X.P X.nm p.1 p.2) (hd:∀f,Sound X.P X.nm f (X.dyn (X.nm.getD f 0))):cP X:=by
 refine⟨λf args σ r σ' h=>?_,λf=>hd f⟩;rw[hc]at h;clear hc;induction t with
 |nil=>cases h
 |cons p t ih=>
  obtain⟨m,x⟩:=p;simp only[Z5]at h;cases hm:(f==m)
  ·rw[hm]at h;exact ih (λp hp=>ht p (jU _ hp)) h
  ·rw[hm]at h;have:f=m:=by simpa using hm
   subst this;exact ht (f,x) (ZA) _ _ _ _ h
theorem Sound.none{P:Program}{nm:List Nat}{f:FuncId}:Sound P nm f (λ_ _=>Option.none):=λ_ _ _ _ h=>by cases h
theorem aM.nil{P:Program}{nm:List Nat}:∀p∈([]:List (FuncId×(List AV->Heap->Option (AV×Heap)))),Sound P nm p.1 p.2:=λ_ h=>by cases h
theorem aM.cons{P:Program}{nm:List Nat}{f:FuncId}{m:List AV->Heap->Option (AV×Heap)}{l:List (FuncId×(List AV->Heap->Option (AV×Heap)))}(h:Sound P nm f m)(t:∀p∈l,Sound P nm p.1 p.2):∀p∈(f,m)::l,Sound P nm p.1 p.2:=
 λp hp=>by rcases fA.1 hp with rfl|hp;exact h;exact t p hp
theorem fG.nil{P:Program}{nm:List Nat}:∀p∈([]:List (Nat×(List AV->Heap->Option (AV×Heap)))),∀f,nm.getD f 0=p.1->Sound P nm f p.2:=λ_ h=>by cases h
theorem fG.cons{P:Program}{nm:List Nat}{k:Nat}{m:List AV->Heap->Option (AV×Heap)}{l:List (Nat×(List AV->Heap->Option (AV×Heap)))}(h:∀f,nm.getD f 0=k->Sound P nm f m)(t:∀p∈l,∀f,nm.getD f 0=p.1->Sound P nm f p.2):∀p∈(k,m)::l,∀f,nm.getD f 0=p.1->Sound P nm f p.2:=
 λp hp=>by rcases fA.1 hp with rfl|hp;exact h;exact t p hp
theorem vZ{P:Program}{nm:List Nat}{t:List (Nat×(List AV->Heap->Option (AV×Heap)))}(ht:∀p∈t,∀f,nm.getD f 0=p.1->Sound P nm f p.2)(f:FuncId):Sound P nm f (Z5 (λ_ _=>Option.none) t (nm.getD f 0)):=by
 induction t with
 |nil=>exact Sound.none
 |cons p t ih=>
  obtain⟨k,x⟩:=p;simp only[Z5];cases hm:(nm.getD f 0==k)
  ·exact ih (λp hp=>ht p (jU _ hp))
  ·exact ht (k,x) ZA f (by simpa using hm)
theorem agW{nm:List Nat}{k g:Nat}(h:(nm.zipIdx.filter λp=>p.1==k)=[(k,g)]) (hk:(0==k)=ι) {f:Nat} (hf:nm.getD f 0=k):f=g:=by
 have hlt:f<nm.length:=by
  rcases Nat.lt_or_ge f nm.length with e|e
  ·exact e
  ·simp only[RU,kD e,UG]at hf;subst hf;simp at hk
 have:(k,f)∈nm.zipIdx.filter λp=>p.1==k:=by refine Ve.2 ⟨wA.2 ⟨f,?_⟩,by simp⟩;simp only[RU]at hf;rw[dg hlt]at hf;simp [dg hlt,<-hf]
 rw[h]at this;simpa using this
theorem nW{P:Program}{nm:List Nat}{k g:Nat}{m:List AV->Heap->Option (AV×Heap)}(hs:Sound P nm g m)(h:(nm.zipIdx.filter λp=>p.1==k)=[(k,g)]) (hk:(0==k)=ι):∀f,nm.getD f 0=k->Sound P nm f m:=
 λf hf=>by have e:=agW h hk hf;subst e;exact hs
def fuel(F:(Nat->List AV->Heap->Option (AV×Heap))->List (Nat×(List AV->Heap->Option (AV×Heap)))):Nat->Nat->List AV->Heap->Option (AV×Heap)
 |0,_=>λ_ _=>μ
 |n+1,k=>Z5 (λ_ _=>μ) (F (fuel F n)) k
theorem sX{P:Program}{nm:List Nat}{F:(Nat->List AV->Heap->Option (AV×Heap))->List (Nat×(List AV->Heap->Option (AV×Heap)))}
  (h:∀rec,(∀f,Sound P nm f (rec (nm.getD f 0)))->∀p∈F rec,∀f,nm.getD f 0=p.1->Sound P nm f p.2):∀n f,Sound P nm f (fuel F n (nm.getD f 0))
 |0,f=>Sound.none
 |n+1,f=>vZ (h (fuel F n) (sX h n)) f
namespace A
def cC(f:AV->Heap->Option (AV×Heap)):List AV->Heap->Option (AV×Heap)
 |[x0],σ=>f x0 σ
 |_,_=>μ
def cX(f:AV->AV->Heap->Option (AV×Heap)):List AV->Heap->Option (AV×Heap)
 |[x0,x1],σ=>f x0 x1 σ
 |_,_=>μ
def i7(f:AV->AV->AV->Heap->Option (AV×Heap)):List AV->Heap->Option (AV×Heap)
 |[x0,x1,x2],σ=>f x0 x1 x2 σ
 |_,_=>μ
def oF(f:AV->AV->AV->AV->Heap->Option (AV×Heap)):List AV->Heap->Option (AV×Heap)
 |[x0,x1,x2,x3],σ=>f x0 x1 x2 x3 σ
 |_,_=>μ
def CX(f:AV->AV->AV->AV->AV->Heap->Option (AV×Heap)):List AV->Heap->Option (AV×Heap)
 |[x0,x1,x2,x3,x4],σ=>f x0 x1 x2 x3 x4 σ
 |_,_=>μ
def Pw(f:AV->AV->AV->AV->AV->AV->Heap->Option (AV×Heap)):List AV->Heap->Option (AV×Heap)
 |[x0,x1,x2,x3,x4,x5],σ=>f x0 x1 x2 x3 x4 x5 σ
 |_,_=>μ
def Px(f:AV->AV->AV->AV->AV->AV->AV->Heap->Option (AV×Heap)):List AV->Heap->Option (AV×Heap)
 |[x0,x1,x2,x3,x4,x5,x6],σ=>f x0 x1 x2 x3 x4 x5 x6 σ
 |_,_=>μ
end A
section
variable {X : Fx} {f : FuncId} {fn : Func} {bK : lK}
theorem Sound.aj5{m:List AV->Heap->Option (AV×Heap)}(keep:oq)(hkeep:keep.Ok)(hs:cP X)(hf:X.P.funcs[f]? =δ fn)(hc:∀cH w,(callFunc f cH).run X.P w=.ok (.enter f cH) w)(he:∀args (σ:Heap) r,m args σ=δ r->nN X keep bK fn args σ=δ r):Sound X.P X.nm f m:=
 λargs σ r σ' h=>xJ hs hkeep hf hc (he args σ (r,σ') h)
theorem Sound.vi{m:AV->Heap->Option (AV×Heap)}(keep:oq)(hkeep:keep.Ok)(hs:cP X)(hf:X.P.funcs[f]? =δ fn)(hc:∀cH w,(callFunc f cH).run X.P w=.ok (.enter f cH) w)(he:∀(x0:AV) (σ:Heap),nN X keep bK fn [x0] σ=m x0 σ):Sound X.P X.nm f (A.cC m):=by
 intro args σ r σ' h;unfold A.cC at h;split at h
 ·exact xJ hs hkeep hf hc ((he _ _).trans h)
 ·cases h
theorem Sound.rF{m:AV->AV->Heap->Option (AV×Heap)}(keep:oq)(hkeep:keep.Ok)(hs:cP X)(hf:X.P.funcs[f]? =δ fn)(hc:∀cH w,(callFunc f cH).run X.P w=.ok (.enter f cH) w)(he:∀(x0 x1:AV) (σ:Heap),nN X keep bK fn [x0,x1] σ=m x0 x1 σ):Sound X.P X.nm f (A.cX m):=by
 intro args σ r σ' h;unfold A.cX at h;split at h
 ·exact xJ hs hkeep hf hc ((he _ _ _).trans h)
 ·cases h
theorem Sound.Ad{m:AV->AV->AV->Heap->Option (AV×Heap)}(keep:oq)(hkeep:keep.Ok)(hs:cP X)(hf:X.P.funcs[f]? =δ fn)(hc:∀cH w,(callFunc f cH).run X.P w=.ok (.enter f cH) w)(he:∀(x0 x1 x2:AV) (σ:Heap),nN X keep bK fn [x0,x1,x2] σ=m x0 x1 x2 σ):Sound X.P X.nm f (A.i7 m):=by
 intro args σ r σ' h;unfold A.i7 at h;split at h
 ·exact xJ hs hkeep hf hc ((he _ _ _ _).trans h)
 ·cases h
theorem Sound.OS{m:AV->AV->AV->AV->Heap->Option (AV×Heap)}(keep:oq)(hkeep:keep.Ok)(hs:cP X)(hf:X.P.funcs[f]? =δ fn)(hc:∀cH w,(callFunc f cH).run X.P w=.ok (.enter f cH) w)(he:∀(x0 x1 x2 x3:AV) (σ:Heap),nN X keep bK fn [x0,x1,x2,x3] σ=m x0 x1 x2 x3 σ):Sound X.P X.nm f (A.oF m):=by
 intro args σ r σ' h;unfold A.oF at h;split at h
 ·exact xJ hs hkeep hf hc ((he _ _ _ _ _).trans h)
 ·cases h
theorem Sound.XX{m:AV->AV->AV->AV->AV->Heap->Option (AV×Heap)}(keep:oq)(hkeep:keep.Ok)(hs:cP X)(hf:X.P.funcs[f]? =δ fn)(hc:∀cH w,(callFunc f cH).run X.P w=.ok (.enter f cH) w)(he:∀(x0 x1 x2 x3 x4:AV) (σ:Heap),nN X keep bK fn [x0,x1,x2,x3,x4] σ=m x0 x1 x2 x3 x4 σ):Sound X.P X.nm f (A.CX m):=by
 intro args σ r σ' h;unfold A.CX at h;split at h
 ·exact xJ hs hkeep hf hc ((he _ _ _ _ _ _).trans h)
 ·cases h
theorem Sound.aj3{m:AV->AV->AV->AV->AV->AV->Heap->Option (AV×Heap)}(keep:oq)(hkeep:keep.Ok)(hs:cP X)(hf:X.P.funcs[f]? =δ fn)(hc:∀cH w,(callFunc f cH).run X.P w=.ok (.enter f cH) w)(he:∀(x0 x1 x2 x3 x4 x5:AV) (σ:Heap),nN X keep bK fn [x0,x1,x2,x3,x4,x5] σ=m x0 x1 x2 x3 x4 x5 σ):Sound X.P X.nm f (A.Pw m):=by
 intro args σ r σ' h;unfold A.Pw at h;split at h
 ·exact xJ hs hkeep hf hc ((he _ _ _ _ _ _ _).trans h)
 ·cases h
theorem Sound.aj4{m:AV->AV->AV->AV->AV->AV->AV->Heap->Option (AV×Heap)}(keep:oq)(hkeep:keep.Ok)(hs:cP X)(hf:X.P.funcs[f]? =δ fn)(hc:∀cH w,(callFunc f cH).run X.P w=.ok (.enter f cH) w)(he:∀(x0 x1 x2 x3 x4 x5 x6:AV) (σ:Heap),nN X keep bK fn [x0,x1,x2,x3,x4,x5,x6] σ=m x0 x1 x2 x3 x4 x5 x6 σ):Sound X.P X.nm f (A.Px m):=by
 intro args σ r σ' h;unfold A.Px at h;split at h
 ·exact xJ hs hkeep hf hc ((he _ _ _ _ _ _ _ _).trans h)
 ·cases h
end
end
open Sound renaming none->ZG,rF->Su,wrap->Z6,vi->apI,Ad->aqM
open cP renaming of->Tw
open Sh renaming fW->Wb
open A renaming wrap->Ξ,cC->RV,cX->T3
abbrev fK:Sh:=(.a [.k,.k,.k,(.s 4)])
abbrev kY:Sh:=(.a [(.s 3),(.s 4)])
abbrev rG:List Sh:=[.k,.k,.k,.k,.k,.k,(.s 3)]
section
def aI:List Nat:=[0,0,0,57,460,45,56,44,55,35,458,459,42,43,51,53,54,1,39,4,49,50,14,139,74,76,79,94,95,100,41,40,52,37,38,46,48,69,13,71,73,2,138,75,36,454,456,457,77,78,88,89,92,5,93,6,96,97,98,99,47,63,66,67,68,70,72,0,455,9,85,86,87,90,91,62,65,64,0,84,59,60,61,0,81,83,58,80,82,0,0,0,0,0,0,0,0,0,0,0,0,0,0,0,0]
section
variable {l : List (FuncId × (aq -> Heap -> aB))} {f : FuncId} {fn : Func} {ro : Bool} {cL : List Sh} {dR : Sh}
def AH (l:List (FuncId×(aq->Heap->aB))) (L:List Nat) (n:Nat):Fx:=⟨Try.prog,aI,Z5 (λ_ _=>μ) l,λ_ _ _=>μ,L,[],n,[]⟩
theorem q1{m:AV->Heap->aB}(L:List Nat)(n:Nat)(bK:lK)(h:∀p∈l,Sound Try.prog aI p.1 p.2)(hf:Try.prog.funcs[f]? =δ fn)(hc:∀cH w,(callFunc f cH).run Try.prog w=.ok (.enter f cH) w)(he:∀(x0:AV) (σ:Heap),nN (AH l L n) .F bK fn [x0] σ=m x0 σ)(hi:Wb cL=η)(ho:dR.ok=η):Sound Try.prog aI f (Ξ ro cL dR (RV m)):=Z6 (apI .F trivial (Tw rfl h λ_=>ZG) hf hc he) _ _ _ hi ho
theorem q2{m:AV->AV->Heap->aB}(L:List Nat)(n:Nat)(bK:lK)(h:∀p∈l,Sound Try.prog aI p.1 p.2)(hf:Try.prog.funcs[f]? =δ fn)(hc:∀cH w,(callFunc f cH).run Try.prog w=.ok (.enter f cH) w)(he:∀(x0 x1:AV) (σ:Heap),nN (AH l L n) .F bK fn [x0,x1] σ=m x0 x1 σ)(hi:Wb cL=η)(ho:dR.ok=η):Sound Try.prog aI f (Ξ ro cL dR (T3 m)):=Z6 (Su .F trivial (Tw rfl h λ_=>ZG) hf hc he) _ _ _ hi ho
theorem q3{m:AV->AV->AV->Heap->aB}(L:List Nat)(n:Nat)(bK:lK)(h:∀p∈l,Sound Try.prog aI p.1 p.2)(hf:Try.prog.funcs[f]? =δ fn)(hc:∀cH w,(callFunc f cH).run Try.prog w=.ok (.enter f cH) w)(he:∀(x0 x1 x2:AV) (σ:Heap),nN (AH l L n) .F bK fn [x0,x1,x2] σ=m x0 x1 x2 σ)(hi:Wb cL=η)(ho:dR.ok=η):Sound Try.prog aI f (Ξ ro cL dR (A.i7 m)):=Z6 (aqM .F trivial (Tw rfl h λ_=>ZG) hf hc he) _ _ _ hi ho
theorem q4{m:AV->AV->AV->AV->Heap->aB}(L:List Nat)(n:Nat)(bK:lK)(h:∀p∈l,Sound Try.prog aI p.1 p.2)(hf:Try.prog.funcs[f]? =δ fn)(hc:∀cH w,(callFunc f cH).run Try.prog w=.ok (.enter f cH) w)(he:∀(x0 x1 x2 x3:AV) (σ:Heap),nN (AH l L n) .F bK fn [x0,x1,x2,x3] σ=m x0 x1 x2 x3 σ)(hi:Wb cL=η)(ho:dR.ok=η):Sound Try.prog aI f (Ξ ro cL dR (A.oF m)):=Z6 (Sound.OS .F trivial (Tw rfl h λ_=>ZG) hf hc he) _ _ _ hi ho
theorem q5{m:AV->AV->AV->AV->AV->Heap->aB}(L:List Nat)(n:Nat)(bK:lK)(h:∀p∈l,Sound Try.prog aI p.1 p.2)(hf:Try.prog.funcs[f]? =δ fn)(hc:∀cH w,(callFunc f cH).run Try.prog w=.ok (.enter f cH) w)(he:∀(x0 x1 x2 x3 x4:AV) (σ:Heap),nN (AH l L n) .F bK fn [x0,x1,x2,x3,x4] σ=m x0 x1 x2 x3 x4 σ)(hi:Wb cL=η)(ho:dR.ok=η):Sound Try.prog aI f (Ξ ro cL dR (A.CX m)):=Z6 (Sound.XX .F trivial (Tw rfl h λ_=>ZG) hf hc he) _ _ _ hi ho
theorem q6{m:AV->AV->AV->AV->AV->AV->Heap->aB}(L:List Nat)(n:Nat)(bK:lK)(h:∀p∈l,Sound Try.prog aI p.1 p.2)(hf:Try.prog.funcs[f]? =δ fn)(hc:∀cH w,(callFunc f cH).run Try.prog w=.ok (.enter f cH) w)(he:∀(x0 x1 x2 x3 x4 x5:AV) (σ:Heap),nN (AH l L n) .F bK fn [x0,x1,x2,x3,x4,x5] σ=m x0 x1 x2 x3 x4 x5 σ)(hi:Wb cL=η)(ho:dR.ok=η):Sound Try.prog aI f (Ξ ro cL dR (A.Pw m)):=Z6 (Sound.aj3 .F trivial (Tw rfl h λ_=>ZG) hf hc he) _ _ _ hi ho
theorem q7{m:AV->AV->AV->AV->AV->AV->AV->Heap->aB}(L:List Nat)(n:Nat)(bK:lK)(h:∀p∈l,Sound Try.prog aI p.1 p.2)(hf:Try.prog.funcs[f]? =δ fn)(hc:∀cH w,(callFunc f cH).run Try.prog w=.ok (.enter f cH) w)(he:∀(x0 x1 x2 x3 x4 x5 x6:AV) (σ:Heap),nN (AH l L n) .F bK fn [x0,x1,x2,x3,x4,x5,x6] σ=m x0 x1 x2 x3 x4 x5 x6 σ)(hi:Wb cL=η)(ho:dR.ok=η):Sound Try.prog aI f (Ξ ro cL dR (A.Px m)):=Z6 (Sound.aj4 .F trivial (Tw rfl h λ_=>ZG) hf hc he) _ _ _ hi ho
end
end
abbrev bE(n:Int):Prop:=-9223372036854775808<=n/\n<=9223372036854775807
abbrev bf:Nat:=9223372036854775807
def eA{κ:Type}[DecidableEq κ](k:κ)(S:List κ):Bool:=S.any λx=>decide (x=k)
theorem Ie{κ:Type}[DecidableEq κ]{k:κ}{S:List κ}:eA k S=η↔k∈S:=by simp only[eA,Xd,decide_eq_true_eq];exact⟨λ⟨x,h,e⟩=>e▸h,λh=>⟨k,h,rfl⟩⟩
theorem HB{κ:Type}[DecidableEq κ]{k:κ}{S:List κ}:eA k S=ι↔k∉S:=by rw[<-Ie];simp
def aL(n:Int):aq:=[.ah n]
def aiR(s:ByteArray):aq:=[.str s]
def sl{α:Type}(sz:Nat)(c:α->aq)(l:List α):AV:=.sl sz (l.map c)
def fW{α:Type}(p:α->Prop)(l:List α):Prop:=l.length<=bf/\∀x∈l,p x
def gE(s:ByteArray):Prop:=s.size<=bf
theorem jS(n:Int):Δ 0 (aL n)=δ (.ah n):=rfl
theorem Vr(s:ByteArray):Δ 0 (aiR s)=δ (.str s):=rfl
structure VL where
 time:Int
 way:Int
deriving DecidableEq
structure Nc where
 kind:Int
 ag3:(List VL)
structure ao4 where
 bg:Int
 to:Int
 start:Int
 NC:Int
 time:Int
 NB:Nc
structure afp where
 time:Int
 level:Int
deriving DecidableEq
structure mu where
 low:Int
 high:Int
 name:ByteArray
deriving DecidableEq
def iM(x:mu):aq:=[.ah x.low,.ah x.high,.str x.name]
theorem acI(x:mu):(iM x).length=3:=rfl
def M7(x:mu):Prop:=bE x.low/\bE x.high/\gE x.name
theorem uv(x:mu):Δ 0 (iM x)=δ (.ah x.low):=rfl
theorem uw(x:mu):Δ 1 (iM x)=δ (.ah x.high):=rfl
theorem ux(x:mu):Δ 2 (iM x)=δ (.str x.name):=rfl
theorem uB(x:mu):Z0 0 3 (iM x)=δ (.agg (iM x)):=rfl
theorem uA(x:mu):Φ 3 (.agg (iM x))=δ (iM x):=rfl
theorem uC(x:mu)(l:aq)(h:l.length=3):Zv 0 (iM x) l=δ (iM x):=by simp [Zv,acI,h]
structure eM where
 name:ByteArray
 group:Int
 fk:Int
 dK:Int
 default:Int
 snap:Bool
 ranges:(List mu)
def cB(x:eM):aq:=[.str x.name,.ah x.group,.ah x.fk,.ah x.dK,.ah x.default,.bool x.snap,sl 3 iM x.ranges]
theorem acH(x:eM):(cB x).length=7:=rfl
def M6(x:eM):Prop:=gE x.name/\bE x.group/\bE x.fk/\bE x.dK/\bE x.default/\(fW M7) x.ranges
theorem lY(x:eM):Δ 0 (cB x)=δ (.str x.name):=rfl
theorem lZ(x:eM):Δ 1 (cB x)=δ (.ah x.group):=rfl
theorem l5(x:eM):Δ 2 (cB x)=δ (.ah x.fk):=rfl
theorem l6(x:eM):Δ 3 (cB x)=δ (.ah x.dK):=rfl
theorem l7(x:eM):Δ 4 (cB x)=δ (.ah x.default):=rfl
theorem l8(x:eM):Δ 5 (cB x)=δ (.bool x.snap):=rfl
theorem l9(x:eM):Δ 6 (cB x)=δ (sl 3 iM x.ranges):=rfl
theorem mg(x:eM):Z0 0 7 (cB x)=δ (.agg (cB x)):=rfl
theorem me(x:eM):Φ 7 (.agg (cB x))=δ (cB x):=rfl
theorem lE(x:eM)(l:aq)(h:l.length=7):Zv 0 (cB x) l=δ (cB x):=by simp [Zv,acH,h]
structure cE where
 name:ByteArray
 size:Int
 params:(List eM)
def cQ(x:cE):aq:=[.str x.name,.ah x.size,sl 7 cB x.params]
theorem aaU(x:cE):(cQ x).length=3:=rfl
def zq(x:cE):Prop:=gE x.name/\bE x.size/\(fW M6) x.params
theorem jq(x:cE):Δ 0 (cQ x)=δ (.str x.name):=rfl
theorem jr(x:cE):Δ 1 (cQ x)=δ (.ah x.size):=rfl
theorem jt(x:cE):Δ 2 (cQ x)=δ (sl 7 cB x.params):=rfl
theorem jv(x:cE):Z0 0 3 (cQ x)=δ (.agg (cQ x)):=rfl
theorem ju(x:cE):Φ 3 (.agg (cQ x))=δ (cQ x):=rfl
theorem jx(x:cE)(l:aq)(h:l.length=3):Zv 0 (cQ x) l=δ (cQ x):=by simp [Zv,aaU,h]
structure fE where
 aE:Int
 gm:ByteArray
 univ:Int
 address:Int
deriving DecidableEq
def eH(x:fE):aq:=[.ah x.aE,.str x.gm,.ah x.univ,.ah x.address]
theorem adJ(x:fE):(eH x).length=4:=rfl
def V8(x:fE):Prop:=bE x.aE/\gE x.gm/\bE x.univ/\bE x.address
theorem gL(x:fE):Δ 0 (eH x)=δ (.ah x.aE):=rfl
theorem iG(x:fE):Δ 1 (eH x)=δ (.str x.gm):=rfl
theorem iH(x:fE):Δ 2 (eH x)=δ (.ah x.univ):=rfl
theorem iI(x:fE):Δ 3 (eH x)=δ (.ah x.address):=rfl
theorem gO(x:fE):Z0 0 4 (eH x)=δ (.agg (eH x)):=rfl
theorem gM(x:fE):Φ 4 (.agg (eH x))=δ (eH x):=rfl
theorem gP(x:fE)(l:aq)(h:l.length=4):Zv 0 (eH x) l=δ (eH x):=by simp [Zv,adJ,h]
structure dj where
 bV:(List cE)
 dQ:(List fE)
def b7(x:dj):aq:=[sl 3 cQ x.bV,sl 4 eH x.dQ]
theorem aeG(x:dj):(b7 x).length=2:=rfl
def oo(x:dj):Prop:=(fW zq) x.bV/\(fW V8) x.dQ
theorem jQ(x:dj):Δ 0 (b7 x)=δ (sl 3 cQ x.bV):=rfl
theorem jz(x:dj):Δ 1 (b7 x)=δ (sl 4 eH x.dQ):=rfl
theorem iK(x:dj):Z0 0 2 (b7 x)=δ (.agg (b7 x)):=rfl
theorem iJ(x:dj):Φ 2 (.agg (b7 x))=δ (b7 x):=rfl
theorem jT(x:dj)(l:aq)(h:l.length=2):Zv 0 (b7 x) l=δ (b7 x):=by simp [Zv,aeG,h]
structure cV where
 unit:Int
 param:ByteArray
deriving DecidableEq
def dm(x:cV):aq:=[.ah x.unit,.str x.param]
theorem aeF(x:cV):(dm x).length=2:=rfl
def ahJ(x:cV):Prop:=bE x.unit/\gE x.param
theorem anZ(x:cV):Δ 0 (dm x)=δ (.ah x.unit):=rfl
theorem TL(x:cV):Δ 1 (dm x)=δ (.str x.param):=rfl
theorem Vs(x:cV):Z0 0 2 (dm x)=δ (.agg (dm x)):=rfl
theorem US(x:cV):Φ 2 (.agg (dm x))=δ (dm x):=rfl
theorem M9(x:cV)(l:aq)(h:l.length=2):Zv 0 (dm x) l=δ (dm x):=by simp [Zv,aeF,h]
structure qx where
 key:cV
 level:Int
deriving DecidableEq
def jA(x:qx):aq:=[.ah x.key.unit,.str x.key.param,.ah x.level]
theorem aaV(x:qx):(jA x).length=3:=rfl
def aon(x:qx):Prop:=ahJ x.key/\bE x.level
theorem RH(x:qx):Δ 0 (jA x)=δ (.ah x.key.unit):=rfl
theorem anT(x:qx):Z0 0 3 (jA x)=δ (.agg (jA x)):=rfl
theorem R9(x:qx):Φ 3 (.agg (jA x))=δ (jA x):=rfl
theorem Hv(x:qx)(l:aq)(h:l.length=3):Zv 0 (jA x) l=δ (jA x):=by simp [Zv,aaV,h]
structure cJ where
 aE:Int
 title:ByteArray
 eW:(List qx)
def cN(x:cJ):aq:=[.ah x.aE,.str x.title,sl 3 jA x.eW]
theorem abR(x:cJ):(cN x).length=3:=rfl
def vQ(x:cJ):Prop:=bE x.aE/\gE x.title/\(fW aon) x.eW
theorem aa8(x:cJ):Δ 0 (cN x)=δ (.ah x.aE):=rfl
theorem RX(x:cJ):Δ 2 (cN x)=δ (sl 3 jA x.eW):=rfl
theorem ac5(x:cJ):Z0 0 3 (cN x)=δ (.agg (cN x)):=rfl
theorem acK(x:cJ):Φ 3 (.agg (cN x))=δ (cN x):=rfl
theorem zn(x:cJ)(l:aq)(h:l.length=3):Zv 0 (cN x) l=δ (cN x):=by simp [Zv,abR,h]
structure ahO where
 amp:(List Int)
 block:Int
 amL:Int
structure Nd where
 level:Int
 amu:Int
deriving DecidableEq
structure IV where
 key:cV
 value:Nd
 release:Bool
 amK:Bool
 NC:Int
 time:Int
deriving DecidableEq
structure wC where
 aE:Int
 title:ByteArray
 NC:Int
 up:Int
 down:Int
 other:Int
 NB:Nc
 block:Bool
 VW:Int
 I2:(List IV)
structure agu where
 key:cV
 value:Nd
 Yi:Int
deriving DecidableEq
structure ahb where
 unit:Int
 bg:Int
 to:Int
deriving DecidableEq
structure Ws where
 aE:Int
 amV:(List wC)
structure Tg where
 aE:Int
 list:Int
 amn:Int
deriving DecidableEq
structure agx where
 rig:dj
 amr:(List cJ)
 amI:(List Ws)
 amm:(List Tg)
structure UO where
 time:Int
 kind:Int
 ae7:Int
 Yi:Int
 level:Int
deriving DecidableEq
structure agv where
 fk:Int
 action:UO
deriving DecidableEq
structure agy where
 hours:Int
 minutes:Int
 seconds:Int
 frames:Int
deriving DecidableEq
structure W8 where
 key:cV
 aiZ:ao4
 amB:Int
 ending:Bool
structure adD where
 ae7:Int
 Yi:Int
 amE:Int
 amt:Bool
 VW:Int
 runs:(List W8)
structure R7 where
 level:Int
 hold:Int
 aiZ:Int
deriving DecidableEq
structure UP where
 form:Int
 low:Int
 high:Int
 amC:Int
 width:Int
 spread:Int
 back:Bool
 amo:Bool
 steps:(List R7)
structure Wt where
 time:Int
 amq:Int
deriving DecidableEq
structure aez where
 effect:UP
 keys:(List cV)
 start:Int
 amJ:(List Wt)
 De:Int
 fin:Int
 out:Int
def Ku:aq->Heap->aB:=T3 λa b σ=>match a,b with
 |.str a,.str b=>δ (.int Θ (apJ a.data.toList b.data.toList),σ)
 |_,_=>μ
section
def GV (dyn:Nat->aq->Heap->aB) (a0 a1:AV) (σ:Heap):aB:=(ZO a0).bind λx1=>(Zo (λv2 s3=>(ZN (aj v2 1) x1).bind λx5=>ξ x5 ((Zp 3 a0 (aj v2 1)).bind λx6=>((Γ x6 s3).bind λc7=>Z0 0 3 c7).bind λx8=>(A.nC dyn a1 [x8] s3).bind λr9=>ξ r9.1 (δ (Ω,[(aj v2 1),(aj v2 1)],r9.2)) ((Zn (aj v2 1) (ε 1)).bind λaY=>δ (Λ,[(aj v2 0),aY],r9.2))) (δ (φ 0,[(aj v2 0),(aj v2 1)],s3))) [(ε 0),(ε 0)] σ).bind λdV=>bif dV.1==φ 0 then(wh σ (ε (-1)) dV.2.2)else bif dV.1==Ω then(wh σ (aj dV.2.1 0) dV.2.2)else μ
def GU (dyn:Nat->aq->Heap->aB):aq->Heap->aB:=Ξ η [(.s 3)] .k (T3 (GV dyn))
def Kq (a0 a1:AV) (σ:Heap):aB:=(ZO a0).bind λx1=>(Zo (λv2 s3=>(ZN (aj v2 1) x1).bind λx5=>ξ x5 ((Zp 1 a0 (aj v2 1)).bind λx6=>((Γ x6 s3).bind λc7=>Δ 0 c7).bind λx8=>(Zt .i a1 x8).bind λx9=>ξ x9 (δ (Ω,[(aj v2 1),(aj v2 1)],s3)) ((Zn (aj v2 1) (ε 1)).bind λaY=>δ (Λ,[(aj v2 0),aY],s3))) (δ (φ 0,[(aj v2 0),(aj v2 1)],s3))) [(ε 0),(ε 0)] σ).bind λdV=>bif dV.1==φ 0 then(wh σ (ε (-1)) dV.2.2)else bif dV.1==Ω then(wh σ (aj dV.2.1 0) dV.2.2)else μ
def Km:aq->Heap->aB:=Ξ η [(.s 1)] .k (T3 Kq)
def Ki (a0 a1:AV) (σ:Heap):aB:=(Km [a0,a1] σ).bind λr1=>(A.geq r1.1 (ε 0)).bind λx2=>wh σ x2 r1.2
def lB:aq->Heap->aB:=Ξ η [(.s 1)] .k (T3 Ki)
def GW (dyn:Nat->aq->Heap->aB) (a0 a1:AV) (σ:Heap):aB:=(ZO a0).bind λx1=>(Zo (λv2 s3=>(ZN (aj v2 1) x1).bind λx5=>ξ x5 ((Zp 1 a0 (aj v2 1)).bind λx6=>((Γ x6 s3).bind λc7=>Δ 0 c7).bind λx8=>(A.nC dyn a1 [x8] s3).bind λr9=>ξ r9.1 (δ (Ω,[(aj v2 1),(aj v2 1)],r9.2)) ((Zn (aj v2 1) (ε 1)).bind λaY=>δ (Λ,[(aj v2 0),aY],r9.2))) (δ (φ 0,[(aj v2 0),(aj v2 1)],s3))) [(ε 0),(ε 0)] σ).bind λdV=>bif dV.1==φ 0 then(wh σ (ε (-1)) dV.2.2)else bif dV.1==Ω then(wh σ (aj dV.2.1 0) dV.2.2)else μ
def sU (dyn:Nat->aq->Heap->aB):aq->Heap->aB:=Ξ η [(.s 1)] .k (T3 (GW dyn))
def Kp (a0 a1:AV) (σ:Heap):aB:=(ZO a0).bind λx1=>(ZO a1).bind λx2=>(Tn .i x1 x2).bind λx3=>ξ x3 (wh σ aT σ) ((ZO a0).bind λx4=>(Zo (λv5 s6=>(ZN (aj v5 1) x4).bind λx8=>ξ x8 ((Zp 1 a0 (aj v5 1)).bind λx9=>((Γ x9 s6).bind λgy=>Δ 0 gy).bind λcg=>(Zp 1 a1 (aj v5 1)).bind λbY=>((Γ bY s6).bind λiw=>Δ 0 iw).bind λcI=>(Tn .i cg cI).bind λbQ=>ξ bQ (δ (Ω,[aT,(aj v5 1)],s6)) ((Zn (aj v5 1) (ε 1)).bind λbM=>δ (Λ,[(aj v5 0),bM],s6))) (δ (φ 0,[(aj v5 0),(aj v5 1)],s6))) [aT,(ε 0)] σ).bind λlg=>bif lg.1==φ 0 then(wh σ br lg.2.2)else bif lg.1==Ω then(wh σ (aj lg.2.1 0) lg.2.2)else μ)
def Kl:aq->Heap->aB:=Ξ η [(.s 1),(.s 1)] .k (T3 Kp)
def Br (a0:AV) (σ:Heap):aB:=(ZO a0).bind λx1=>(YR x1 (ε 1)).bind λx2=>(Zo (λv3 s4=>(ZN (aj v3 0) (aj v3 1)).bind λx6=>ξ x6 ((Zp 1 a0 (aj v3 1)).bind λx7=>((Γ x7 s4).bind λc8=>Δ 0 c8).bind λx9=>(Zp 1 a0 (aj v3 0)).bind λaY=>((Γ aY s4).bind λdI=>Δ 0 dI).bind λbY=>(Zp 1 a0 (aj v3 0)).bind λbB=>((ZS x9).bind λv=>δ [v]).bind λgB=>(ZX bB gB s4).bind λfS=>(Zp 1 a0 (aj v3 1)).bind λbM=>((ZS bY).bind λv=>δ [v]).bind λjM=>(ZX bM jM fS).bind λgC=>(Zn (aj v3 0) (ε 1)).bind λcx=>(YR (aj v3 1) (ε 1)).bind λcM=>δ (Λ,[cx,cM],gC)) (δ (φ 0,[(aj v3 0),(aj v3 1)],s4))) [(ε 0),x2] σ).bind λcD=>bif cD.1==φ 0 then(δ ((Zz []),cD.2.2))else μ
def vK:aq->Heap->aB:=Ξ ι [] .k (RV Br)
def G2 (a0:AV) (σ:Heap):aB:=(A.Jy a0 ZK).bind λx1=>ξ x1 (δ (ZK,σ)) ((ZI 1 (140737488355328 / 8) AV.ez a0 σ).bind λr2=>δ (r2.1,r2.2))
def xC:aq->Heap->aB:=A.IG (Ξ η [(.s 1)] .k (RV G2))
def zg (a0 a1:AV) (σ:Heap):aB:=(ZN a1 (ε 0)).bind λx1=>(ξ x1 (((μ:Option AV)).bind λx3=>δ (([]:aq),σ)) (δ (([]:aq),σ))).bind λr2=>A.uY (A.zS a0) (λx4=>(ZO a0).bind λx5=>(YR x4 x5).bind λx6=>(YR a1 x6).bind λx7=>(Zx x7 (ε 0)).bind λx8=>(ξ x8 (A.uY (A.zS a0) (λaY=>(A.gQ 1 a0 μ (δ aY) r2.2).bind λcg=>(A.tg 1 (140737488355328 / 8) [(ε 0)] cg x7 r2.2).bind λiB=>(ZO a0).bind λbB=>(A.gQ 1 iB.1 μ (δ bB) iB.2).bind λcI=>δ ([cI],iB.2)) (A.yw a0 r2.2 λn15 vH=>(A.gQ 1 a0 μ (δ (ε n15)) vH).bind λcv=>(A.tg 1 (140737488355328 / 8) [(ε 0)] cv x7 vH).bind λdr=>(ZO a0).bind λcx=>(A.gQ 1 dr.1 μ (δ cx) dr.2).bind λcM=>δ ([cM],dr.2))) (δ ([a0],r2.2))).bind λr9=>δ ((aj r9.1 0),r9.2)) (A.yw a0 r2.2 λn21 lu=>(ZO a0).bind λcA=>(YR (ε n21) cA).bind λcS=>(YR a1 cS).bind λeU=>(Zx eU (ε 0)).bind λdz=>(ξ dz (A.uY (A.zS a0) (λgH=>(A.gQ 1 a0 μ (δ gH) lu).bind λcU=>(A.tg 1 (140737488355328 / 8) [(ε 0)] cU eU lu).bind λfC=>(ZO a0).bind λfN=>(A.gQ 1 fC.1 μ (δ fN) fC.2).bind λgI=>δ ([gI],fC.2)) (A.yw a0 lu λn33 Dl=>(A.gQ 1 a0 μ (δ (ε n33)) Dl).bind λkP=>(A.tg 1 (140737488355328 / 8) [(ε 0)] kP eU Dl).bind λjh=>(ZO a0).bind λiE=>(A.gQ 1 jh.1 μ (δ iE) jh.2).bind λgJ=>δ ([gJ],jh.2))) (δ ([a0],lu))).bind λjO=>δ ((aj jO.1 0),jO.2))
def zf:aq->Heap->aB:=Ξ ι [] .k (T3 zg)
def zc (a0:AV) (σ:Heap):aB:=(ZO a0).bind λx1=>(Zo (λv2 s3=>(ZN (aj v2 1) x1).bind λx5=>ξ x5 ((Zp 1 a0 (aj v2 1)).bind λx6=>((Γ x6 s3).bind λc7=>Δ 0 c7).bind λx8=>(ZO x8).bind λx9=>(Zn (aj v2 0) x9).bind λaY=>(ZN aY (ε 0)).bind λcg=>(ξ cg (((μ:Option AV)).bind λbB=>δ (([]:aq),s3)) (δ (([]:aq),s3))).bind λiB=>(Zn (aj v2 1) (ε 1)).bind λcI=>δ (Λ,[aY,cI],iB.2)) (δ (φ 0,[(aj v2 0),(aj v2 1)],s3))) [(ε 0),(ε 0)] σ).bind λpH=>bif pH.1==φ 0 then((zf [ZK,(aj pH.2.1 0)] pH.2.2).bind λlf=>(ZO a0).bind λcv=>(Zo (λiU sR=>(ZN (aj iU 1) cv).bind λbO=>ξ bO ((Zp 1 a0 (aj iU 1)).bind λcj=>((Γ cj sR).bind λjc=>Δ 0 jc).bind λcS=>(ZI 1 (140737488355328 / 8) (aj iU 0) cS sR).bind λoL=>(Zn (aj iU 1) (ε 1)).bind λdz=>δ (Λ,[oL.1,dz],oL.2)) (δ (φ 2,[(aj iU 0),(aj iU 1)],sR))) [lf.1,(ε 0)] lf.2).bind λjO=>bif jO.1==φ 2 then(δ ((aj jO.2.1 0),jO.2.2))else μ)else μ
def Bs:aq->Heap->aB:=Ξ η [(.s 1)] .k (RV zc)
def Dw (dyn:Nat->aq->Heap->aB) (a0 a1:AV) (σ:Heap):aB:=(sU dyn [a0,a1] σ).bind λr1=>(Zt .i r1.1 (ε (-1))).bind λx2=>ξ x2 (A.renew [a0,a1] σ a0 r1.2) ((Zn r1.1 (ε 1)).bind λx3=>(Zo (λv4 s5=>(ZO a0).bind λx7=>(ZN (aj v4 1) x7).bind λx8=>ξ x8 ((Zp 1 a0 (aj v4 1)).bind λx9=>((Γ x9 s5).bind λgy=>Δ 0 gy).bind λcg=>(A.nC dyn a1 [cg] s5).bind λiB=>(ZR iB.1).bind λbB=>(ξ bB ((Zp 1 a0 (aj v4 0)).bind λbQ=>((ZS cg).bind λv=>δ [v]).bind λiQ=>(ZX bQ iQ iB.2).bind λjM=>(Zn (aj v4 0) (ε 1)).bind λdw=>δ ([dw],jM)) (δ ([(aj v4 0)],iB.2))).bind λb8=>(Zn (aj v4 1) (ε 1)).bind λcx=>δ (Λ,[(aj b8.1 0),cx],b8.2)) (δ (φ 0,[(aj v4 0),(aj v4 1)],s5))) [r1.1,x3] r1.2).bind λbI=>bif bI.1==φ 0 then((A.gQ 1 a0 (δ (aj bI.2.1 0)) μ bI.2.2).bind λbO=>(A.zB 1 [(ε 0)] bO bI.2.2).bind λYD=>(A.gQ 1 a0 μ (δ (aj bI.2.1 0)) YD).bind λcA=>A.renew [a0,a1] σ cA YD)else μ)
def Dv (dyn:Nat->aq->Heap->aB):aq->Heap->aB:=Ξ ι [] .k (T3 (Dw dyn))
end
section
def Ma (a0:AV) (σ:Heap):aB:=(A.rD a0).bind λx1=>(Zo (λv2 s3=>(ZN (aj v2 1) x1).bind λx5=>ξ x5 ((A.lJ a0 (aj v2 1)).bind λx6=>(A.geq x6 (UB .u8 97)).bind λx7=>(θ x7 η (δ x6) az).bind λx8=>(θ x7 η (Wr x8 (UB .u8 122)) az).bind λx9=>(ZM x7 x9 aT).bind λaY=>(θ aY ι (δ x6) az).bind λcg=>(θ aY ι (A.geq cg (UB .u8 48)) az).bind λbY=>(θ aY ι (δ bY) az).bind λbB=>(θ bB η (δ x6) az).bind λcI=>(θ bB η (Wr cI (UB .u8 57)) az).bind λbQ=>(θ aY ι (ZM bB bQ aT) az).bind λbM=>(ZM aY br bM).bind λcv=>(θ cv ι (δ x6) az).bind λdw=>(θ cv ι (Zt .i dw (UB .u8 45)) az).bind λcx=>(ZM cv br cx).bind λcM=>(ZR cM).bind λbO=>ξ bO (δ (Ω,[aT,(aj v2 1)],s3)) ((Zn (aj v2 1) (ε 1)).bind λcj=>δ (Λ,[(aj v2 0),cj],s3))) (δ (φ 0,[(aj v2 0),(aj v2 1)],s3))) [aT,(ε 0)] σ).bind λcq=>bif cq.1==φ 0 then((Tn .z a0 cK).bind λcS=>wh σ cS cq.2.2)else bif cq.1==Ω then(wh σ (aj cq.2.1 0) cq.2.2)else μ
def L3:aq->Heap->aB:=Ξ η [] .k (RV Ma)
def LL (a0:AV) (σ:Heap):aB:=(L3 [a0] σ).bind λr1=>(θ r1.1 η (δ a0) az).bind λx2=>(θ r1.1 η (A.rD x2) az).bind λx3=>(θ r1.1 η (Wr x3 (ε 20)) az).bind λx4=>(ZM r1.1 x4 aT).bind λx5=>(θ x5 η (δ a0) az).bind λx6=>(θ x5 η (A.lJ x6 (ε 0)) az).bind λx7=>(θ x5 η (A.geq x7 (UB .u8 97)) az).bind λx8=>(ZM x5 x8 aT).bind λx9=>(θ x9 η (δ a0) az).bind λaY=>(θ x9 η (A.lJ aY (ε 0)) az).bind λcg=>(θ x9 η (Wr cg (UB .u8 122)) az).bind λbY=>(ZM x9 bY aT).bind λbB=>wh σ bB r1.2
def DU:aq->Heap->aB:=Ξ η [] .k (RV LL)
def KP (a0 a1 a2:AV) (σ:Heap):aB:=(A.geq a0 a1).bind λx1=>(θ x1 η (δ a0) az).bind λx2=>(θ x1 η (δ a2) az).bind λx3=>(θ x1 η (Wr x2 x3) az).bind λx4=>(ZM x1 x4 aT).bind λx5=>wh σ x5 σ
def jP:aq->Heap->aB:=Ξ η [] .k (A.i7 KP)
def LM (a0 a1:AV) (σ:Heap):aB:=ξ a0 (wh σ a1 σ) (wh σ (ε 0) σ)
def LC:aq->Heap->aB:=Ξ η [] .k (T3 LM)
def Ln (a0:AV) (σ:Heap):aB:=(ZO a0).bind λx1=>(Zo (λv2 s3=>(ZN (aj v2 1) x1).bind λx5=>ξ x5 ((Zp 1 a0 (aj v2 1)).bind λx6=>((Γ x6 s3).bind λc7=>Δ 0 c7).bind λx8=>(Tn .i x8 (ε 0)).bind λx9=>ξ x9 (δ (Ω,[x8,(aj v2 1)],s3)) ((Zn (aj v2 1) (ε 1)).bind λaY=>δ (Λ,[(aj v2 0),aY],s3))) (δ (φ 0,[(aj v2 0),(aj v2 1)],s3))) [(ε 0),(ε 0)] σ).bind λdV=>bif dV.1==φ 0 then(wh σ (ε 0) dV.2.2)else bif dV.1==Ω then(wh σ (aj dV.2.1 0) dV.2.2)else μ
def DP:aq->Heap->aB:=Ξ η [(.s 1)] .k (RV Ln)
def Lo (a0:AV) (σ:Heap):aB:=(A.rD a0).bind λx1=>(Zo (λv2 s3=>(ZN (aj v2 1) x1).bind λx5=>ξ x5 ((A.lJ a0 (aj v2 1)).bind λx6=>(ZN x6 (UB .u8 32)).bind λx7=>(θ x7 ι (δ a0) az).bind λx8=>(θ x7 ι (δ (aj v2 1)) az).bind λx9=>(θ x7 ι (A.lJ x8 x9) az).bind λaY=>(θ x7 ι (Zx aY (UB .u8 126)) az).bind λcg=>(ZM x7 br cg).bind λbY=>ξ bY (δ (Ω,[aT,(aj v2 1)],s3)) ((Zn (aj v2 1) (ε 1)).bind λbB=>δ (Λ,[(aj v2 0),bB],s3))) (δ (φ 0,[(aj v2 0),(aj v2 1)],s3))) [aT,(ε 0)] σ).bind λb8=>bif b8.1==φ 0 then((Tn .z a0 cK).bind λbQ=>(θ bQ η (δ a0) az).bind λbM=>(θ bQ η (A.rD bM) az).bind λcv=>(θ bQ η (Wr cv (ε 60)) az).bind λdw=>(ZM bQ dw aT).bind λcx=>(θ cx η (δ a0) az).bind λcM=>(θ cx η (A.lJ cM (ε 0)) az).bind λbO=>(θ cx η (Tn .i bO (UB .u8 32)) az).bind λcj=>(ZM cx cj aT).bind λcA=>(θ cA η (δ a0) az).bind λcS=>(θ cA η (δ a0) az).bind λeU=>(θ cA η (A.rD eU) az).bind λdz=>(θ cA η (YR dz (ε 1)) az).bind λew=>(θ cA η (A.lJ cS ew) az).bind λgH=>(θ cA η (Tn .i gH (UB .u8 32)) az).bind λcU=>(ZM cA cU aT).bind λgW=>wh σ gW b8.2.2)else bif b8.1==Ω then(wh σ (aj b8.2.1 0) b8.2.2)else μ
def La:aq->Heap->aB:=Ξ η [] .k (RV Lo)
end
section
def Ky (a0:AV) (σ:Heap):aB:=(jP [a0,(ε 0),(ε 65535)] σ).bind λr1=>wh σ r1.1 r1.2
def DE:aq->Heap->aB:=Ξ η [] .k (RV Ky)
def Kg (a0:AV) (σ:Heap):aB:=(ZO a0).bind λx1=>(Zx x1 (ε 30)).bind λx2=>ξ x2 (wh σ (ε 2) σ) ((ZO a0).bind λx3=>(Zo (λv4 s5=>(ZN (aj v4 1) x3).bind λx7=>ξ x7 ((Zp 3 a0 (aj v4 1)).bind λx8=>((Γ x8 s5).bind λc9=>Z0 0 3 c9).bind λaY=>(Φ 3 aY).bind λdI=>(Zv 0 dI [(ε 0),(ε 0),cK]).bind λb9=>(Δ 0 b9).bind λbB=>(DE [bB] s5).bind λb8=>(ZR b8.1).bind λbQ=>(θ bQ ι (Δ 1 b9) az).bind λbM=>(θ bQ ι (Zu (DE [bM] b8.2) b8.2) az).bind λcv=>(θ bQ ι (ZR cv) az).bind λdw=>(ZM bQ br dw).bind λcx=>(θ cx ι (Δ 0 b9) az).bind λcM=>(θ cx ι (Δ 1 b9) az).bind λbO=>(θ cx ι (Zx cM bO) az).bind λcj=>(ZM cx br cj).bind λcA=>ξ cA (δ (Ω,[(ε 1),(aj v4 1)],b8.2)) ((Zx (aj v4 1) (ε 0)).bind λcS=>(θ cS η (Δ 0 b9) az).bind λeU=>(θ cS η (δ a0) az).bind λdz=>(θ cS η (δ (aj v4 1)) az).bind λew=>(θ cS η (YR ew (ε 1)) az).bind λgH=>(θ cS η (Zp 3 dz gH) az).bind λcU=>(θ cS η (SN 1 cU) az).bind λgW=>(θ cS η ((Γ gW b8.2).bind λrQ=>Δ 0 rQ) az).bind λgI=>(θ cS η (Wr eU gI) az).bind λjl=>(ZM cS jl aT).bind λjm=>ξ jm (δ (Ω,[(ε 7),(aj v4 1)],b8.2)) ((Δ 2 b9).bind λkP=>(DU [kP] b8.2).bind λjh=>(ZR jh.1).bind λiE=>ξ iE (δ (Ω,[(ε 5),(aj v4 1)],jh.2)) ((Δ 2 b9).bind λgJ=>(ZJ .z (V9 σ.length) gJ aT jh.2).bind λjo=>ξ jo (δ (Ω,[(ε 6),(aj v4 1)],jh.2)) ((Δ 2 b9).bind λlA=>(Uj .z (V9 σ.length) lA br jh.2).bind λh41=>(Zn (aj v4 1) (ε 1)).bind λmG=>δ (Λ,[(aj v4 0),mG],h41)))))) (δ (φ 0,[(aj v4 0),(aj v4 1)],s5))) [(ε 0),(ε 0)] (σ++[ZH []])).bind λrZ=>bif rZ.1==φ 0 then(wh σ (ε 0) rZ.2.2)else bif rZ.1==Ω then(wh σ (aj rZ.2.1 0) rZ.2.2)else μ)
def Kf:aq->Heap->aB:=Ξ η [(.s 3)] .k (RV Kg)
def Ke (a0:AV) (σ:Heap):aB:=(Φ 3 a0).bind λc1=>(Δ 0 c1).bind λx2=>(DU [x2] σ).bind λr3=>(ZR r3.1).bind λx4=>ξ x4 (wh σ (ε 5) r3.2) ((Δ 1 c1).bind λx5=>(jP [x5,(ε 1),(ε 512)] r3.2).bind λr6=>(ZR r6.1).bind λx7=>ξ x7 (wh σ (ε 1) r6.2) ((Δ 2 c1).bind λx8=>(ZO x8).bind λx9=>(Zt .i x9 (ε 0)).bind λaY=>ξ aY (wh σ (ε 8) r6.2) ((Δ 2 c1).bind λcg=>(ZO cg).bind λbY=>(Zx bY (ε 40)).bind λbB=>ξ bB (wh σ (ε 2) r6.2) ((Δ 2 c1).bind λcI=>(ZO cI).bind λbQ=>(Zo (λeT tZ=>(ZN (aj eT 2) bQ).bind λcx=>ξ cx ((Zp 7 cI (aj eT 2)).bind λcM=>((Γ cM tZ).bind λlO=>Z0 0 7 lO).bind λcj=>(Φ 7 cj).bind λjc=>(Zv 0 jc [cK,(ε 0),(ε 0),(ε 0),(ε 0),aT,ZK]).bind λfT=>(Δ 0 fT).bind λeU=>(DU [eU] tZ).bind λA2=>(ZR A2.1).bind λew=>ξ ew (δ (Ω,[(aj eT 0),(ε 5),(aj eT 2)],A2.2)) ((Δ 0 fT).bind λgH=>(ZJ .z (V9 r6.2.length) gH aT A2.2).bind λcU=>ξ cU (δ (Ω,[(aj eT 0),(ε 6),(aj eT 2)],A2.2)) ((Δ 1 fT).bind λgW=>(jP [gW,(ε 1),(ε 4)] A2.2).bind λfX=>(ZR fX.1).bind λgI=>ξ gI (δ (Ω,[(aj eT 0),(ε 4),(aj eT 2)],fX.2)) ((Δ 2 fT).bind λjl=>((Z2 (aj eT 0)).bind λ_=>δ (1)).bind λp34=>((Z2 (aj eT 0)).bind λAv=>Δ p34 Av).bind λiV=>(jP [jl,(ε 1),iV] fX.2).bind λlp=>(ZR lp.1).bind λgJ=>(θ gJ ι (Δ 3 fT) az).bind λjo=>((Z2 (aj eT 0)).bind λ_ => δ (1)).bind λp40 =>(θ gJ ι ((Z2 (aj eT 0)).bind λrR=>Δ p40 rR) az).bind λmG=>(θ gJ ι (Zu (jP [jo,(ε 0),mG] lp.2) lp.2) az).bind λmH=>(θ gJ ι (ZR mH) az).bind λlX=>(ZM gJ br lX).bind λmI=>(θ mI ι (Δ 4 fT) az).bind λpM=>(θ mI ι (Zu (DE [pM] lp.2) lp.2) az).bind λkQ=>(θ mI ι (ZR kQ) az).bind λqm=>(ZM mI br qm).bind λmJ=>ξ mJ (δ (Ω,[(aj eT 0),(ε 1),(aj eT 2)],lp.2)) ((Δ 2 fT).bind λm6=>(Δ 3 fT).bind λga=>(Zt .i m6 ga).bind λnS=>(θ nS ι (δ (V9 (r6.2++[ZH []]).length)) az).bind λnT=>(θ nS ι (Δ 2 fT) az).bind λpN=>(θ nS ι (ZJ .i nT pN aT lp.2) az).bind λoO=>(ZM nS br oO).bind λmK=>(θ mK ι (Δ 3 fT) az).bind λnU=>(θ mK ι (Zx nU (ε 0)) az).bind λsu=>(θ mK ι (δ su) az).bind λm7=>(θ m7 η (δ (V9 (r6.2++[ZH []]).length)) az).bind λsv=>(θ m7 η (Δ 3 fT) az).bind λqn=>(θ m7 η (ZJ .i sv qn aT lp.2) az).bind λqo=>(θ mK ι (ZM m7 qo aT) az).bind λiF=>(ZM mK br iF).bind λBe=>ξ Be (δ (Ω,[(aj eT 0),(ε 12),(aj eT 2)],lp.2)) ((Δ 6 fT).bind λqp=>(Kf [qp] lp.2).bind λDk=>(Tn .i Dk.1 (ε 0)).bind λqq=>ξ qq (δ (Ω,[(aj eT 0),Dk.1,(aj eT 2)],Dk.2)) ((Δ 0 fT).bind λsx=>(Δ 2 fT).bind λqt=>(Uj .z (V9 r6.2.length) sx br Dk.2).bind λh70=>(Uj .i (V9 (r6.2++[ZH []]).length) qt br h70).bind λYE=>(Δ 3 fT).bind λoP=>(Zx oP (ε 0)).bind λpO=>(ξ pO ((Δ 3 fT).bind λm8=>(Uj .i (V9 (r6.2++[ZH []]).length) m8 br YE).bind λh76=>δ ([(aj eT 0)],h76)) (δ ([(aj eT 0)],YE))).bind λlT=>(Zn (aj eT 2) (ε 1)).bind λug=>δ (Λ,[(aj lT.1 0),(aj eT 1),ug],lT.2)))))))) (δ (φ 1,[(aj eT 0),(aj eT 1),(aj eT 2)],tZ))) [(Z1 c1),(ε 0),(ε 0)] ((r6.2++[ZH []])++[ZH []])).bind λij=>bif ij.1==φ 1 then(wh σ (ε 0) ij.2.2)else bif ij.1==Ω then(wh σ (aj ij.2.1 1) ij.2.2)else μ))))
def Kb:aq->Heap->aB:=Ξ η [(.a [.k,.k,(.s 7)])] .k (RV Ke)
def Kc (a0:AV) (σ:Heap):aB:=(ZO a0).bind λx1=>(Zx x1 (ε 60)).bind λx2=>ξ x2 (wh σ (ε 2) σ) ((ZO a0).bind λx3=>(Zo (λv4 s5=>(ZN (aj v4 1) x3).bind λx7=>ξ x7 ((Zp 3 a0 (aj v4 1)).bind λx8=>((Γ x8 s5).bind λc9=>Z0 0 3 c9).bind λaY=>(Φ 3 aY).bind λdI=>(Zv 0 dI [cK,(ε 0),ZK]).bind λb9=>(Z0 0 3 b9).bind λbB=>(Kb [bB] s5).bind λb8=>(Tn .i b8.1 (ε 0)).bind λbQ=>ξ bQ (δ (Ω,[b8.1,(aj v4 1)],b8.2)) ((Δ 0 b9).bind λbM=>(ZJ .z (V9 σ.length) bM aT b8.2).bind λcv=>ξ cv (δ (Ω,[(ε 6),(aj v4 1)],b8.2)) ((Δ 0 b9).bind λdw=>(Uj .z (V9 σ.length) dw br b8.2).bind λh19=>(Zn (aj v4 1) (ε 1)).bind λcM=>δ (Λ,[(aj v4 0),cM],h19)))) (δ (φ 0,[(aj v4 0),(aj v4 1)],s5))) [(ε 0),(ε 0)] (σ++[ZH []])).bind λcD=>bif cD.1==φ 0 then(wh σ (ε 0) cD.2.2)else bif cD.1==Ω then(wh σ (aj cD.2.1 0) cD.2.2)else μ)
def Ka:aq->Heap->aB:=Ξ η [(.s 3)] .k (RV Kc)
def Kh (a0 a1:AV) (σ:Heap):aB:=(Φ 3 a0).bind λc1=>(Δ 0 c1).bind λx2=>((Γ a1 σ).bind λc3=>Δ 0 c3).bind λx4=>(Zt .z x2 x4).bind λx5=>wh σ x5 σ
def Dz:aq->Heap->aB:=Ξ η [(.a [.k,.k,(.s 7)])] .k (T3 Kh)
def G4 (a0 a1:AV) (σ:Heap):aB:=(((ZS a1).bind λv=>δ [v]).bind λcs=>δ (AV.rp cs)).bind λx1=>(GU (Z5 (λ_ _=>μ) [(64,Dz)]) [a0,(AV.fn 64 [x1])] σ).bind λr2=>(ZN r2.1 (ε 0)).bind λx3=>ξ x3 ((Φ 3 (Y8 [cK,(ε 0),ZK])).bind λc4=>(Zv 0 c4 [cK,(ε 0),ZK]).bind λc5=>(Z0 0 3 c5).bind λx6=>wh σ (Zz [x6,aT]) r2.2) ((Zp 3 a0 r2.1).bind λx7=>((Γ x7 r2.2).bind λc8=>Z0 0 3 c8).bind λx9=>(Φ 3 x9).bind λgy=>(Zv 0 gy [cK,(ε 0),ZK]).bind λdI=>(Z0 0 3 dI).bind λbY=>wh σ (Zz [bY,br]) r2.2)
def G3:aq->Heap->aB:=Ξ η [(.s 3)] (.t [(.a [.k,.k,(.e 7 rG)]),.k]) (T3 G4)
def DB (a0 a1 a2:AV) (σ:Heap):aB:=(Zt .p a0 aqa).bind λx1=>ξ x1 ((Zn a1 a2).bind λx2=>(YR x2 (ε 1)).bind λx3=>(Wr x3 (ε 512)).bind λx4=>wh σ x4 σ) ((Zo (λv5 s6=>(Zn a1 a2).bind λx8=>(ZN (aj v5 1) x8).bind λx9=>ξ x9 ((Zx (aj v5 1) (ε 512)).bind λaY=>(θ aY ι (δ a0) az).bind λcg=>(θ aY ι (δ (aj v5 1)) az).bind λbY=>(θ aY ι (A.jJ cg) az).bind λbB=>(θ aY ι (A.uU 513 1 bB bY) az).bind λcI=>(θ aY ι ((Γ cI s6).bind λfS=>Δ 0 fS) az).bind λbM=>(ZM aY br bM).bind λcv=>ξ cv (δ (Ω,[aT,(aj v5 1)],s6)) ((Zn (aj v5 1) (ε 1)).bind λdw=>δ (Λ,[(aj v5 0),dw],s6))) (δ (φ 0,[(aj v5 0),(aj v5 1)],s6))) [aT,a1] σ).bind λiS=>bif iS.1==φ 0 then(wh σ br iS.2.2)else bif iS.1==Ω then(wh σ (aj iS.2.1 0) iS.2.2)else μ)
def Bq:aq->Heap->aB:=Ξ η [] .k (A.i7 DB)
def DK (a0 a1 a2:AV) (σ:Heap):aB:=(Φ 4 a1).bind λc1=>(Δ 2 c1).bind λx2=>(ZJ .i a0 x2 aqa σ).bind λx3=>(Zt .p x3 aqa).bind λx4=>(ξ x4 ((Δ 2 c1).bind λx6=>(Uj .i a0 x6 (UX σ.length 0) (σ++[apF (ZB 513 aT)])).bind λh7=>δ ([(Z1 c1)],h7)) (δ ([(Z1 c1)],σ))).bind λr5=>((Z2 (aj r5.1 0)).bind λ_=>δ (3)).bind λp8=>((Z2 (aj r5.1 0)).bind λc9=>Δ p8 c9).bind λaY=>(Zo (λv11 sQ=>((Z2 (aj v11 0)).bind λ_=>δ (3)).bind λp14=>((Z2 (aj v11 0)).bind λfS=>Δ p14 fS).bind λbM=>(Zn bM a2).bind λcv=>(ZN (aj v11 1) cv).bind λdw=>ξ dw (((Z2 (aj v11 0)).bind λ_=>δ (2)).bind λQE=>((Z2 (aj v11 0)).bind λgD=>Δ QE gD).bind λbO=>(ZJ .i a0 bO aqa sQ).bind λcj=>(A.jJ cj).bind λcA=>(A.uU 513 1 cA (aj v11 1)).bind λcS=>((ZS br).bind λv=>δ [v]).bind λjG=>(ZX cS jG sQ).bind λjN=>(Zn (aj v11 1) (ε 1)).bind λew=>δ (Λ,[(aj v11 0),ew],jN)) (δ (φ 0,[(aj v11 0),(aj v11 1)],sQ))) [(aj r5.1 0),aY] r5.2).bind λqN=>bif qN.1==φ 0 then(δ ((Zz []),qN.2.2))else μ
def G6:aq->Heap->aB:=Ξ ι [] .k (A.i7 DK)
def Kn (a0:AV) (σ:Heap):aB:=(Φ 2 a0).bind λc1=>(Δ 0 c1).bind λx2=>(Ka [x2] σ).bind λr3=>(Tn .i r3.1 (ε 0)).bind λx4=>ξ x4 (wh σ r3.1 r3.2) ((Δ 1 c1).bind λx5=>(ZO x5).bind λx6=>(Zx x6 (ε 400)).bind λx7=>ξ x7 (wh σ (ε 2) r3.2) ((Δ 1 c1).bind λx8=>(ZO x8).bind λx9=>(Zo (λv10 oM=>(ZN (aj v10 2) x9).bind λbB=>ξ bB ((Zp 4 x8 (aj v10 2)).bind λcI=>((Γ cI oM).bind λfS=>Z0 0 4 fS).bind λbM=>(Φ 4 bM).bind λjM=>(Zv 0 jM [(ε 0),cK,(ε 0),(ε 0)]).bind λgC=>(Δ 0 gC).bind λcx=>(jP [cx,(ε 1),(ε 9999)] oM).bind λbI=>(ZR bI.1).bind λbO=>ξ bO (δ (Ω,[(aj v10 0),(ε 1),(aj v10 2)],bI.2)) ((Zx (aj v10 2) (ε 0)).bind λcj=>(θ cj η (Δ 0 gC) az).bind λcA=>((Z2 (aj v10 0)).bind λ_ => δ (1)).bind λQG =>(θ cj η ((Z2 (aj v10 0)).bind λjG=>Δ QG jG) az).bind λdz=>(θ cj η (δ (aj v10 2)) az).bind λew=>(θ cj η (YR ew (ε 1)) az).bind λgH=>(θ cj η (Zp 4 dz gH) az).bind λcU=>(θ cj η (SN 0 cU) az).bind λgW=>(θ cj η ((Γ gW bI.2).bind λrQ=>Δ 0 rQ) az).bind λgI=>(θ cj η (Wr cA gI) az).bind λjl=>(ZM cj jl aT).bind λjm=>ξ jm (δ (Ω,[(aj v10 0),(ε 7),(aj v10 2)],bI.2)) (((Z2 (aj v10 0)).bind λ_=>δ (0)).bind λQM=>((Z2 (aj v10 0)).bind λAw=>Δ QM Aw).bind λiE=>(Δ 1 gC).bind λgJ=>(G3 [iE,gJ] bI.2).bind λJR=>(Zl 0 JR.1).bind λlA=>(Zl 1 JR.1).bind λlW=>(Φ 3 lA).bind λtP=>(Zv 0 tP [cK,(ε 0),ZK]).bind λAz=>(ZR lW).bind λlX=>ξ lX (δ (Ω,[(aj v10 0),(ε 5),(aj v10 2)],JR.2)) ((Δ 2 gC).bind λmI=>(jP [mI,(ε 1),(ε 64)] JR.2).bind λqj=>(ZR qj.1).bind λkQ=>(θ kQ ι (Δ 3 gC) az).bind λqm=>(θ kQ ι (Zu (jP [qm,(ε 1),(ε 512)] qj.2) qj.2) az).bind λmJ=>(θ kQ ι (ZR mJ) az).bind λm6=>(ZM kQ br m6).bind λga=>(θ ga ι (Δ 3 gC) az).bind λnS=>(θ ga ι (Δ 1 Az) az).bind λnT=>(θ ga ι (Zn nS nT) az).bind λpN=>(θ ga ι (YR pN (ε 1)) az).bind λoO=>(θ ga ι (Zx oO (ε 512)) az).bind λmK=>(ZM ga br mK).bind λnU=>ξ nU (δ (Ω,[(aj v10 0),(ε 1),(aj v10 2)],qj.2)) ((Δ 2 gC).bind λsu=>(ZJ .i (V9 r3.2.length) su aqa qj.2).bind λm7=>(Δ 3 gC).bind λsv=>(Δ 1 Az).bind λqn=>(Bq [m7,sv,qn] qj.2).bind λr8=>(ZR r8.1).bind λiF=>ξ iF (δ (Ω,[(aj v10 0),(ε 12),(aj v10 2)],r8.2)) ((Z0 0 4 gC).bind λBe=>(Δ 1 Az).bind λqp=>(G6 [(V9 r3.2.length),Be,qp] r8.2).bind λDk=>(Zn (aj v10 2) (ε 1)).bind λqq=>δ (Λ,[(aj v10 0),(aj v10 1),qq],Dk.2))))))) (δ (φ 0,[(aj v10 0),(aj v10 1),(aj v10 2)],oM))) [(Z1 c1),(ε 0),(ε 0)] (r3.2++[ZH []])).bind λGs=>bif Gs.1==φ 0 then(wh σ (ε 0) Gs.2.2)else bif Gs.1==Ω then(wh σ (aj Gs.2.1 1) Gs.2.2)else μ))
def GZ:aq->Heap->aB:=Ξ η [kY] .k (RV Kn)
def DJ (a0:AV) (σ:Heap):aB:=(Φ 2 a0).bind λc1=>(Z0 0 2 c1).bind λx2=>(GZ [x2] σ).bind λr3=>(Tn .i r3.1 (ε 0)).bind λx4=>ξ x4 (wh σ (Zz [ZK,r3.1]) r3.2) ((Δ 1 c1).bind λx5=>(ZO x5).bind λx6=>(Zo (λv7 s8=>(ZN (aj v7 2) x6).bind λaY=>ξ aY ((Zp 4 x5 (aj v7 2)).bind λcg=>((Γ cg s8).bind λb9=>Z0 0 4 b9).bind λbB=>(Φ 4 bB).bind λgB=>(Zv 0 gB [(ε 0),cK,(ε 0),(ε 0)]).bind λfS=>((Z2 (aj v7 0)).bind λ_=>δ (0)).bind λGp=>((Z2 (aj v7 0)).bind λjM=>Δ Gp jM).bind λdw=>(Δ 1 fS).bind λcx=>(G3 [dw,cx] s8).bind λbI=>(Zl 0 bI.1).bind λbO=>(Zl 1 bI.1).bind λcj=>(Φ 3 bO).bind λjc=>(Zv 0 jc [cK,(ε 0),ZK]).bind λfT=>(Δ 2 fT).bind λeU=>(ZO eU).bind λdz=>(Zo (λm5 yZ=>(ZN (aj m5 3) dz).bind λgW=>ξ gW ((Zp 7 eU (aj m5 3)).bind λfN=>((Γ fN yZ).bind λkJ=>Z0 0 7 kJ).bind λjl=>(Φ 7 jl).bind λp9=>(Zv 0 p9 [cK,(ε 0),(ε 0),(ε 0),(ε 0),aT,ZK]).bind λAv=>((Z2 (aj m5 2)).bind λ_=>δ (0)).bind λp36=>((Z2 (aj m5 2)).bind λwO=>Δ p36 wO).bind λgJ=>(Δ 0 Av).bind λjo=>((((ZS gJ).bind λv=>δ [v]).bind λAy=>(Zv 0 Ay [(ε 0),cK]).bind λrR=>((ZS jo).bind λv=>δ [v]).bind λtP=>(Zv 1 tP rR).bind λAz=>δ Az).bind λcs=>δ (Y8 cs)).bind λlX=>(((Φ 2 lX).bind λFD=>(Zv 0 FD [(ε 0),cK]).bind λAA=>δ AA).bind λcs=>δ (U0 2 (dW 2 1 cs))).bind λkQ=>(ZI 2 (140737488355328 / 24) (aj m5 1) kQ yZ).bind λZa=>(Zn (aj m5 3) (ε 1)).bind λmJ=>δ (Λ,[(aj m5 0),Za.1,(aj m5 2),mJ],Za.2)) (δ (φ 2,[(aj m5 0),(aj m5 1),(aj m5 2),(aj m5 3)],yZ))) [(aj v7 0),(aj v7 1),(Z1 fS),(ε 0)] bI.2).bind λyU=>bif yU.1==φ 2 then((Zn (aj v7 2) (ε 1)).bind λga=>δ (Λ,[(aj yU.2.1 0),(aj yU.2.1 1),ga],yU.2.2))else μ) (δ (φ 0,[(aj v7 0),(aj v7 1),(aj v7 2)],s8))) [(Z1 c1),ZK,(ε 0)] r3.2).bind λyV=>bif yV.1==φ 0 then(wh σ (Zz [(aj yV.2.1 1),(ε 0)]) yV.2.2)else μ)
def KE:aq->Heap->aB:=Ξ η [kY] (.t [(.s 2),.k]) (RV DJ)
end
section
def LK (a0:AV) (σ:Heap):aB:=(Φ 2 a0).bind λc1=>(Z0 0 2 c1).bind λx2=>(KE [x2] σ).bind λr3=>(Zl 0 r3.1).bind λx4=>(Zl 1 r3.1).bind λx5=>(ZO x4).bind λx6=>(Zo (λv7 s8=>(ZN (aj v7 0) x6).bind λaY=>ξ aY ((Zp 2 x4 (aj v7 0)).bind λcg=>((Γ cg s8).bind λb9=>Z0 0 2 b9).bind λbB=>(Φ 2 bB).bind λgB=>(Zv 0 gB [(ε 0),cK]).bind λfS=>(Z0 0 2 fS).bind λbM=>(Uj (.s [0,2]) (V9 r3.2.length) bM br s8).bind λh17=>(Zn (aj v7 0) (ε 1)).bind λdw=>δ (Λ,[dw],h17)) (δ (φ 0,[(aj v7 0)],s8))) [(ε 0)] (r3.2++[ZH []])).bind λiS=>bif iS.1==φ 0 then(wh σ (V9 r3.2.length) iS.2.2)else μ
def Lz:aq->Heap->aB:=Ξ η [kY] .k (RV LK)
def Ll (a0:AV) (σ:Heap):aB:=(Zt .z a0 cK).bind λx1=>(θ x1 ι (δ a0) az).bind λx2=>(θ x1 ι (Zu (La [x2] σ) σ) az).bind λx3=>(ZM x1 br x3).bind λx4=>wh σ x4 σ
def KX:aq->Heap->aB:=Ξ η [] .k (RV Ll)
def KH (a0:AV) (σ:Heap):aB:=(jP [a0,(ε 0),(ε 65535)] σ).bind λr1=>wh σ r1.1 r1.2
def KG:aq->Heap->aB:=Ξ η [] .k (RV KH)
def KO (a0 a1:AV) (σ:Heap):aB:=(Φ 2 a0).bind λc1=>(Φ 2 a1).bind λc2=>(Δ 0 c1).bind λx3=>(Δ 0 c2).bind λx4=>(Tn .i x3 x4).bind λx5=>ξ x5 ((Δ 0 c1).bind λx6=>(Δ 0 c2).bind λx7=>(ZN x6 x7).bind λx8=>wh σ x8 σ) ((Δ 1 c1).bind λx9=>(Δ 1 c2).bind λaY=>(Ku [x9,aY] σ).bind λdV=>(ZN dV.1 (ε 0)).bind λbY=>wh σ bY dV.2)
def KL:aq->Heap->aB:=Ξ η [] .k (T3 KO)
def Kk (a0 a1:AV) (σ:Heap):aB:=(Φ 2 a0).bind λc1=>(Z0 0 2 c1).bind λx2=>(GZ [x2] σ).bind λr3=>(ZO a1).bind λx4=>(Zx x4 (ε 200)).bind λx5=>(LC [x5,(ε 2)] r3.2).bind λr6=>((((ZS r3.1).bind λv=>δ [v]).bind λc7=>(Zv 0 c7 [(ε 0),(ε 0)]).bind λc8=>((ZS r6.1).bind λv=>δ [v]).bind λc9=>(Zv 1 c9 c8).bind λgy=>δ gy).bind λcs=>δ (U0 1 (dW 1 2 cs))).bind λcg=>(DP [cg] r6.2).bind λiB=>(Tn .i iB.1 (ε 0)).bind λbB=>ξ bB (wh σ iB.1 iB.2) ((Z0 0 2 c1).bind λcI=>(Lz [cI] iB.2).bind λpH=>(ZO a1).bind λbM=>(Zo (λso QZ=>(ZN (aj so 1) bM).bind λcM=>ξ cM ((Zp 3 a1 (aj so 1)).bind λbO=>((Γ bO QZ).bind λlP=>Z0 0 3 lP).bind λcA=>(Φ 3 cA).bind λfT=>(Zv 0 fT [(ε 0),cK,ZK]).bind λjG=>(Δ 0 jG).bind λdz=>(jP [dz,(ε 1),(ε 999)] QZ).bind λjO=>(ZR jO.1).bind λgH=>ξ gH (δ (Ω,[(ε 1),(aj so 1)],jO.2)) ((Zx (aj so 1) (ε 0)).bind λcU=>(θ cU η (Δ 0 jG) az).bind λgW=>(θ cU η (δ a1) az).bind λfN=>(θ cU η (δ (aj so 1)) az).bind λgI=>(θ cU η (YR gI (ε 1)) az).bind λjl=>(θ cU η (Zp 3 fN jl) az).bind λjm=>(θ cU η (SN 0 jm) az).bind λkP=>(θ cU η ((Γ kP jO.2).bind λAw=>Δ 0 Aw) az).bind λiE=>(θ cU η (Wr gW iE) az).bind λgJ=>(ZM cU gJ aT).bind λjo=>ξ jo (δ (Ω,[(ε 7),(aj so 1)],jO.2)) ((Δ 1 jG).bind λlA=>(KX [lA] jO.2).bind λpI=>(ZR pI.1).bind λmG=>ξ mG (δ (Ω,[(ε 3),(aj so 1)],pI.2)) ((Δ 2 jG).bind λmH=>(ZO mH).bind λlX=>(Zx lX (ε 2000)).bind λmI=>ξ mI (δ (Ω,[(ε 2),(aj so 1)],pI.2)) ((Δ 2 jG).bind λpM=>(ZO pM).bind λkQ=>(Zo (λnR Gv=>(ZN (aj nR 2) kQ).bind λga=>ξ ga ((Zp 3 pM (aj nR 2)).bind λnS=>((Γ nS Gv).bind λFH=>Z0 0 3 FH).bind λpN=>(Φ 3 pN).bind λPB=>(Zv 0 PB [(ε 0),cK,(ε 0)]).bind λCY=>(Z0 0 2 CY).bind λnU=>(ZJ (.s [0,2]) pH.1 nU aT Gv).bind λsu=>(ZR su).bind λm7=>ξ m7 (δ (Ω,[(ε 8),(aj nR 1),(aj nR 2)],Gv)) ((Δ 2 CY).bind λsv=>(KG [sv] Gv).bind λlq=>(ZR lq.1).bind λqo=>ξ qo (δ (Ω,[(ε 1),(aj nR 1),(aj nR 2)],lq.2)) ((Zx (aj nR 2) (ε 0)).bind λiF=>((Z2 (aj nR 1)).bind λ_ => δ (2)).bind λQO =>(θ iF η ((Z2 (aj nR 1)).bind λFI=>Δ QO FI) az).bind λsw=>(θ iF η (δ (aj nR 2)) az).bind λqq=>(θ iF η (YR qq (ε 1)) az).bind λsx=>(θ iF η (Zp 3 sw sx) az).bind λqt=>(θ iF η (SN 0 qt) az).bind λuf=>(θ iF η ((Γ uf lq.2).bind λoZ=>Z0 0 2 oZ) az).bind λoP=>(θ iF η (Z0 0 2 CY) az).bind λpO=>(θ iF η (Zu (KL [oP,pO] lq.2) lq.2) az).bind λqu=>(θ iF η (ZR qu) az).bind λm8=>(ZM iF m8 aT).bind λqR=>ξ qR (δ (Ω,[(ε 7),(aj nR 1),(aj nR 2)],lq.2)) ((Zn (aj nR 2) (ε 1)).bind λug=>δ (Λ,[(aj nR 0),(aj nR 1),ug],lq.2))))) (δ (φ 3,[(aj nR 0),(aj nR 1),(aj nR 2)],Gv))) [(aj so 0),(Z1 jG),(ε 0)] pI.2).bind λij=>bif ij.1==φ 3 then((Zn (aj so 1) (ε 1)).bind λuh=>δ (Λ,[(aj ij.2.1 0),uh],ij.2.2))else bif ij.1==Ω then(δ (Ω,[(aj ij.2.1 0),(aj so 1)],ij.2.2))else μ))))) (δ (φ 0,[(aj so 0),(aj so 1)],QZ))) [(ε 0),(ε 0)] pH.2).bind λji=>bif ji.1==φ 0 then(wh σ (ε 0) ji.2.2)else bif ji.1==Ω then(wh σ (aj ji.2.1 0) ji.2.2)else μ)
def GY:aq->Heap->aB:=Ξ η [kY,(.s 3)] .k (T3 Kk)
def BS (rec:Nat->aq->Heap->aB) (a0:AV) (σ:Heap):aB:=(Φ 4 a0).bind λc1=>(Δ 3 c1).bind λx2=>(ZO x2).bind λx3=>(Zo (λv4 s5=>(ZN (aj v4 2) x3).bind λx7=>ξ x7 ((Zp 4 x2 (aj v4 2)).bind λx8=>((Γ x8 s5).bind λc9=>Z0 0 4 c9).bind λaY=>(Φ 4 aY).bind λdI=>(Zv 0 dI [(ε 0),(ε 0),(ε 0),ZK]).bind λb9=>(Z0 0 4 b9).bind λbB=>(rec 37 [bB] s5).bind λb8=>(Zl 0 b8.1).bind λbQ=>(Zl 1 b8.1).bind λbM=>(Zn (aj v4 0) bQ).bind λcv=>(Zn bM (ε 1)).bind λdw=>(A.max (aj v4 1) dw).bind λcx=>(Zn (aj v4 2) (ε 1)).bind λcM=>δ (Λ,[cv,cx,cM],b8.2)) (δ (φ 0,[(aj v4 0),(aj v4 1),(aj v4 2)],s5))) [(ε 1),(ε 1),(ε 0)] σ).bind λcD=>bif cD.1==φ 0 then(wh σ (Zz [(aj cD.2.1 0),(aj cD.2.1 1)]) cD.2.2)else μ
def BP (rec:Nat->aq->Heap->aB):List (Nat×(aq->Heap->aB)):=[(37,Ξ η [fK] .k (RV (BS rec)))]
def LA:aq->Heap->aB:=fuel (BP) 2000000 37
def BL (rec:Nat->aq->Heap->aB) (a0:AV) (σ:Heap):aB:=(Φ 4 a0).bind λc1=>(Δ 0 c1).bind λx2=>(Zt .i x2 (ε 1)).bind λx3=>ξ x3 ((Δ 3 c1).bind λx4=>(ZO x4).bind λx5=>(Tn .i x5 (ε 0)).bind λx6=>(Δ 0 c1).bind λx7=>(Zt .i x7 (ε 4)).bind λx8=>(ξ x8 ((Δ 3 c1).bind λaY=>(ZO aY).bind λcg=>(ZN cg (ε 2)).bind λbY=>δ ([(Z1 c1),bY],σ)) (δ ([(Z1 c1),x6],σ))).bind λr9=>(θ (aj r9.1 1) ι (δ br) az).bind λbB=>(θ (aj r9.1 1) ι (ZR bB) az).bind λcI=>(θ (aj r9.1 1) ι (δ cI) az).bind λbQ=>((Z2 (aj r9.1 0)).bind λ_=>δ (1)).bind λGp=>(θ bQ η ((Z2 (aj r9.1 0)).bind λjM=>Δ Gp jM) az).bind λdw=>(θ bQ η (Tn .i dw (ε 0)) az).bind λcx=>(θ (aj r9.1 1) ι (ZM bQ cx aT) az).bind λcM=>(ZM (aj r9.1 1) br cM).bind λbO=>(θ bO ι (δ br) az).bind λcj=>(θ bO ι (ZR cj) az).bind λcA=>(θ bO ι (δ cA) az).bind λcS=>((Z2 (aj r9.1 0)).bind λ_=>δ (2)).bind λQH=>(θ cS η ((Z2 (aj r9.1 0)).bind λjN=>Δ QH jN) az).bind λew=>(θ cS η (Tn .i ew (ε 0)) az).bind λgH=>(θ bO ι (ZM cS gH aT) az).bind λcU=>(ZM bO br cU).bind λgW=>ξ gW (wh σ (ε 3) r9.2) (((Z2 (aj r9.1 0)).bind λ_=>δ (0)).bind λp31=>((Z2 (aj r9.1 0)).bind λkJ=>Δ p31 kJ).bind λjl=>(Zt .i jl (ε 2)).bind λjm=>(ξ jm (δ ([(aj r9.1 0),(ε 999)],r9.2)) ((Zt .i jl (ε 3)).bind λiV=>(ξ iV (δ ([(aj r9.1 0),(ε 999)],r9.2)) (δ ([(aj r9.1 0),(ε 9999)],r9.2))).bind λlp=>δ ([(aj lp.1 0),(aj lp.1 1)],lp.2))).bind λgV=>((Z2 (aj gV.1 0)).bind λ_=>δ (1)).bind λQN=>(θ br η ((Z2 (aj gV.1 0)).bind λAx=>Δ QN Ax) az).bind λlA=>(θ br η (δ (aj gV.1 1)) az).bind λlW=>(θ br η (Zu (jP [lA,(ε 1),lW] gV.2) gV.2) az).bind λmG=>(θ br η (ZR mG) az).bind λmH=>(ZM br mH aT).bind λlX=>(θ lX ι (δ br) az).bind λmI=>(θ lX ι (δ mI) az).bind λpM=>((Z2 (aj gV.1 0)).bind λ_=>δ (2)).bind λp47=>(θ pM η ((Z2 (aj gV.1 0)).bind λPA=>Δ p47 PA) az).bind λmJ=>(θ pM η (δ (aj gV.1 1)) az).bind λm6=>(θ pM η (Zu (jP [mJ,(ε 1),m6] gV.2) gV.2) az).bind λga=>(θ pM η (ZR ga) az).bind λnS=>(θ lX ι (ZM pM nS aT) az).bind λnT=>(ZM lX br nT).bind λpN=>ξ pN (wh σ (ε 1) gV.2) (((Z2 (aj gV.1 0)).bind λ_=>δ (3)).bind λp55=>((Z2 (aj gV.1 0)).bind λCY=>Δ p55 CY).bind λnU=>(ZO nU).bind λsu=>(Zo (λv59 Q6=>(ZN (aj v59 1) su).bind λqo=>ξ qo ((Zp 4 nU (aj v59 1)).bind λiF=>((Γ iF Q6).bind λPE=>Z0 0 4 PE).bind λqp=>(Φ 4 qp).bind λPF=>(Zv 0 PF [(ε 0),(ε 0),(ε 0),ZK]).bind λFJ=>(Z0 0 4 FJ).bind λsx=>(rec 38 [sx] Q6).bind λyX=>(Tn .i yX.1 (ε 0)).bind λuf=>ξ uf (δ (Ω,[yX.1,(aj v59 1)],yX.2)) ((Zn (aj v59 1) (ε 1)).bind λRl=>δ (Λ,[(aj v59 0),Rl],yX.2))) (δ (φ 2,[(aj v59 0),(aj v59 1)],Q6))) [(ε 0),(ε 0)] gV.2).bind λGt=>bif Gt.1==φ 2 then(wh σ (ε 0) Gt.2.2)else bif Gt.1==Ω then(wh σ (aj Gt.2.1 0) Gt.2.2)else μ))) ((Zt .i x2 (ε 2)).bind λpO=>(ξ pO (δ ([(Z1 c1),pO],σ)) ((Zt .i x2 (ε 3)).bind λm8=>δ ([(Z1 c1),m8],σ))).bind λlT=>ξ (aj lT.1 1) (((Z2 (aj lT.1 0)).bind λ_=>δ (3)).bind λp76=>((Z2 (aj lT.1 0)).bind λc77=>Δ p76 c77).bind λRm=>(ZO Rm).bind λuh=>(Tn .i uh (ε 0)).bind λBf=>((Z2 (aj lT.1 0)).bind λ_=>δ (0)).bind λQS=>((Z2 (aj lT.1 0)).bind λPJ=>Δ QS PJ).bind λBh=>(Zt .i Bh (ε 4)).bind λsS=>(ξ sS (((Z2 (aj lT.1 0)).bind λ_=>δ (3)).bind λQT=>((Z2 (aj lT.1 0)).bind λwR=>Δ QT wR).bind λvJ=>(ZO vJ).bind λBi=>(ZN Bi (ε 2)).bind λGO=>δ ([(aj lT.1 0),GO],lT.2)) (δ ([(aj lT.1 0),Bf],lT.2))).bind λnQ=>(θ (aj nQ.1 1) ι (δ br) az).bind λxA=>(θ (aj nQ.1 1) ι (ZR xA) az).bind λBj=>(θ (aj nQ.1 1) ι (δ Bj) az).bind λBk=>((Z2 (aj nQ.1 0)).bind λ_=>δ (1)).bind λp94=>(θ Bk η ((Z2 (aj nQ.1 0)).bind λPM=>Δ p94 PM) az).bind λxB=>(θ Bk η (Tn .i xB (ε 0)) az).bind λGP=>(θ (aj nQ.1 1) ι (ZM Bk GP aT) az).bind λRp=>(ZM (aj nQ.1 1) br Rp).bind λuk=>(θ uk ι (δ aT) az).bind λFh=>(θ uk ι (ZR Fh) az).bind λwN=>(θ uk ι (δ wN) az).bind λyI=>((Z2 (aj nQ.1 0)).bind λ_=>δ (2)).bind λOK=>(θ yI η ((Z2 (aj nQ.1 0)).bind λN1=>Δ OK N1) az).bind λsI=>(θ yI η (Tn .i sI (ε 0)) az).bind λO1=>(θ uk ι (ZM yI O1 aT) az).bind λAl=>(ZM uk br Al).bind λFj=>ξ Fj (wh σ (ε 3) nQ.2) (((Z2 (aj nQ.1 0)).bind λ_=>δ (0)).bind λajs=>((Z2 (aj nQ.1 0)).bind λN3=>Δ ajs N3).bind λCR=>(Zt .i CR (ε 2)).bind λO2=>(ξ O2 (δ ([(aj nQ.1 0),(ε 999)],nQ.2)) ((Zt .i CR (ε 3)).bind λFk=>(ξ Fk (δ ([(aj nQ.1 0),(ε 999)],nQ.2)) (δ ([(aj nQ.1 0),(ε 9999)],nQ.2))).bind λCP=>δ ([(aj CP.1 0),(aj CP.1 1)],CP.2))).bind λoC=>((Z2 (aj oC.1 0)).bind λ_=>δ (1)).bind λaju=>(θ br η ((Z2 (aj oC.1 0)).bind λEV=>Δ aju EV) az).bind λO4=>(θ br η (δ (aj oC.1 1)) az).bind λO5=>(θ br η (Zu (jP [O4,(ε 1),O5] oC.2) oC.2) az).bind λO6=>(θ br η (ZR O6) az).bind λCS=>(ZM br CS aT).bind λyJ=>(θ yJ ι (δ aT) az).bind λO7=>(θ yJ ι (δ O7) az).bind λFm=>((Z2 (aj oC.1 0)).bind λ_=>δ (2)).bind λajv=>(θ Fm η ((Z2 (aj oC.1 0)).bind λah2=>Δ ajv ah2) az).bind λO8=>(θ Fm η (δ (aj oC.1 1)) az).bind λO9=>(θ Fm η (Zu (jP [O8,(ε 1),O9] oC.2) oC.2) az).bind λCT=>(θ Fm η (ZR CT) az).bind λPa=>(θ yJ ι (ZM Fm Pa aT) az).bind λPb=>(ZM yJ br Pb).bind λakc=>ξ akc (wh σ (ε 1) oC.2) (((Z2 (aj oC.1 0)).bind λ_=>δ (3)).bind λajx=>((Z2 (aj oC.1 0)).bind λN7=>Δ ajx N7).bind λCU=>(ZO CU).bind λakf=>(Zo (λAh OT=>(ZN (aj Ah 1) akf).bind λFo=>ξ Fo ((Zp 4 CU (aj Ah 1)).bind λakh=>((Γ akh OT).bind λOb=>Z0 0 4 Ob).bind λPd=>(Φ 4 Pd).bind λah9=>(Zv 0 ah9 [(ε 0),(ε 0),(ε 0),ZK]).bind λaia=>(Z0 0 4 aia).bind λakj=>(rec 38 [akj] OT).bind λJj=>(Tn .i Jj.1 (ε 0)).bind λakk=>ξ akk (δ (Ω,[Jj.1,(aj Ah 1)],Jj.2)) ((Zn (aj Ah 1) (ε 1)).bind λPh=>δ (Λ,[(aj Ah 0),Ph],Jj.2))) (δ (φ 2,[(aj Ah 0),(aj Ah 1)],OT))) [(ε 0),(ε 0)] oC.2).bind λFc=>bif Fc.1==φ 2 then(wh σ (ε 0) Fc.2.2)else bif Fc.1==Ω then(wh σ (aj Fc.2.1 0) Fc.2.2)else μ))) ((Zt .i x2 (ε 4)).bind λX2=>(ξ X2 (δ ([(aj lT.1 0),X2],lT.2)) ((Zt .i x2 (ε 5)).bind λakn=>δ ([(aj lT.1 0),akn],lT.2))).bind λoD=>ξ (aj oD.1 1) (((Z2 (aj oD.1 0)).bind λ_=>δ (3)).bind λajz=>((Z2 (aj oD.1 0)).bind λOc=>Δ ajz Oc).bind λPj=>(ZO Pj).bind λPk=>(Tn .i Pk (ε 2)).bind λakp=>((Z2 (aj oD.1 0)).bind λ_=>δ (0)).bind λajA=>((Z2 (aj oD.1 0)).bind λaie=>Δ ajA aie).bind λakr=>(Zt .i akr (ε 4)).bind λPm=>(ξ Pm (((Z2 (aj oD.1 0)).bind λ_=>δ (3)).bind λajD=>((Z2 (aj oD.1 0)).bind λaii=>Δ ajD aii).bind λakt=>(ZO akt).bind λaku=>(ZN aku (ε 2)).bind λakv=>δ ([(aj oD.1 0),akv],oD.2)) (δ ([(aj oD.1 0),akp],oD.2))).bind λnK=>(θ (aj nK.1 1) ι (δ aT) az).bind λakw=>(θ (aj nK.1 1) ι (ZR akw) az).bind λakx=>(θ (aj nK.1 1) ι (δ akx) az).bind λPn=>((Z2 (aj nK.1 0)).bind λ_=>δ (1)).bind λajE=>(θ Pn η ((Z2 (aj nK.1 0)).bind λaij=>Δ ajE aij) az).bind λaky=>(θ Pn η (Tn .i aky (ε 0)) az).bind λakz=>(θ (aj nK.1 1) ι (ZM Pn akz aT) az).bind λakA=>(ZM (aj nK.1 1) br akA).bind λFp=>(θ Fp ι (δ aT) az).bind λakB=>(θ Fp ι (ZR akB) az).bind λakC=>(θ Fp ι (δ akC) az).bind λPo=>((Z2 (aj nK.1 0)).bind λ_=>δ (2)).bind λajF=>(θ Po η ((Z2 (aj nK.1 0)).bind λaik=>Δ ajF aik) az).bind λakD=>(θ Po η (Tn .i akD (ε 0)) az).bind λakE=>(θ Fp ι (ZM Po akE aT) az).bind λakF=>(ZM Fp br akF).bind λakG=>ξ akG (wh σ (ε 3) nK.2) (((Z2 (aj nK.1 0)).bind λ_=>δ (0)).bind λajG=>((Z2 (aj nK.1 0)).bind λail=>Δ ajG ail).bind λX3=>(Zt .i X3 (ε 2)).bind λakH=>(ξ akH (δ ([(aj nK.1 0),(ε 999)],nK.2)) ((Zt .i X3 (ε 3)).bind λakI=>(ξ akI (δ ([(aj nK.1 0),(ε 999)],nK.2)) (δ ([(aj nK.1 0),(ε 9999)],nK.2))).bind λOO=>δ ([(aj OO.1 0),(aj OO.1 1)],OO.2))).bind λqH=>((Z2 (aj qH.1 0)).bind λ_=>δ (1)).bind λajH=>(θ aT η ((Z2 (aj qH.1 0)).bind λaim=>Δ ajH aim) az).bind λakJ=>(θ aT η (δ (aj qH.1 1)) az).bind λakK=>(θ aT η (Zu (jP [akJ,(ε 1),akK] qH.2) qH.2) az).bind λakL=>(θ aT η (ZR akL) az).bind λakM=>(ZM aT akM aT).bind λJt=>(θ Jt ι (δ aT) az).bind λakN=>(θ Jt ι (δ akN) az).bind λFq=>((Z2 (aj qH.1 0)).bind λ_=>δ (2)).bind λajI=>(θ Fq η ((Z2 (aj qH.1 0)).bind λaio=>Δ ajI aio) az).bind λakO=>(θ Fq η (δ (aj qH.1 1)) az).bind λakP=>(θ Fq η (Zu (jP [akO,(ε 1),akP] qH.2) qH.2) az).bind λakQ=>(θ Fq η (ZR akQ) az).bind λakR=>(θ Jt ι (ZM Fq akR aT) az).bind λakS=>(ZM Jt br akS).bind λakT=>ξ akT (wh σ (ε 1) qH.2) (((Z2 (aj qH.1 0)).bind λ_=>δ (3)).bind λajJ=>((Z2 (aj qH.1 0)).bind λaip=>Δ ajJ aip).bind λX4=>(ZO X4).bind λakU=>(Zo (λAi OU=>(ZN (aj Ai 1) akU).bind λakV=>ξ akV ((Zp 4 X4 (aj Ai 1)).bind λakW=>((Γ akW OU).bind λaiq=>Z0 0 4 aiq).bind λakX=>(Φ 4 akX).bind λair=>(Zv 0 air [(ε 0),(ε 0),(ε 0),ZK]).bind λais=>(Z0 0 4 ais).bind λakY=>(rec 38 [akY] OU).bind λJk=>(Tn .i Jk.1 (ε 0)).bind λakZ=>ξ akZ (δ (Ω,[Jk.1,(aj Ai 1)],Jk.2)) ((Zn (aj Ai 1) (ε 1)).bind λak0=>δ (Λ,[(aj Ai 0),ak0],Jk.2))) (δ (φ 2,[(aj Ai 0),(aj Ai 1)],OU))) [(ε 0),(ε 0)] qH.2).bind λFe=>bif Fe.1==φ 2 then(wh σ (ε 0) Fe.2.2)else bif Fe.1==Ω then(wh σ (aj Fe.2.1 0) Fe.2.2)else μ))) ((Zt .i x2 (ε 6)).bind λan3=>(ξ an3 (δ ([(aj oD.1 0),an3],oD.2)) ((Zt .i x2 (ε 7)).bind λX6=>(ξ X6 (δ ([(aj oD.1 0),X6],oD.2)) ((Zt .i x2 (ε 8)).bind λak1=>δ ([(aj oD.1 0),ak1],oD.2))).bind λOP=>δ ([(aj OP.1 0),(aj OP.1 1)],OP.2))).bind λkW=>ξ (aj kW.1 1) (((Z2 (aj kW.1 0)).bind λ_=>δ (3)).bind λajK=>((Z2 (aj kW.1 0)).bind λait=>Δ ajK ait).bind λak2=>(ZO ak2).bind λak3=>(Tn .i ak3 (ε 1)).bind λak4=>((Z2 (aj kW.1 0)).bind λ_=>δ (0)).bind λajL=>((Z2 (aj kW.1 0)).bind λaiu=>Δ ajL aiu).bind λak5=>(Zt .i ak5 (ε 4)).bind λak6=>(ξ ak6 (((Z2 (aj kW.1 0)).bind λ_=>δ (3)).bind λajM=>((Z2 (aj kW.1 0)).bind λaiv=>Δ ajM aiv).bind λak7=>(ZO ak7).bind λak8=>(ZN ak8 (ε 2)).bind λak9=>δ ([(aj kW.1 0),ak9],kW.2)) (δ ([(aj kW.1 0),ak4],kW.2))).bind λnL=>(θ (aj nL.1 1) ι (δ aT) az).bind λala=>(θ (aj nL.1 1) ι (ZR ala) az).bind λalb=>(θ (aj nL.1 1) ι (δ alb) az).bind λPp=>((Z2 (aj nL.1 0)).bind λ_=>δ (1)).bind λajN=>(θ Pp η ((Z2 (aj nL.1 0)).bind λaiw=>Δ ajN aiw) az).bind λalc=>(θ Pp η (Tn .i alc (ε 0)) az).bind λald=>(θ (aj nL.1 1) ι (ZM Pp ald aT) az).bind λale=>(ZM (aj nL.1 1) br ale).bind λFt=>(θ Ft ι (δ aT) az).bind λalf=>(θ Ft ι (ZR alf) az).bind λalg=>(θ Ft ι (δ alg) az).bind λPq=>((Z2 (aj nL.1 0)).bind λ_=>δ (2)).bind λajO=>(θ Pq η ((Z2 (aj nL.1 0)).bind λaix=>Δ ajO aix) az).bind λalh=>(θ Pq η (Tn .i alh (ε 0)) az).bind λali=>(θ Ft ι (ZM Pq ali aT) az).bind λalj=>(ZM Ft br alj).bind λalk=>ξ alk (wh σ (ε 3) nL.2) (((Z2 (aj nL.1 0)).bind λ_=>δ (0)).bind λajP=>((Z2 (aj nL.1 0)).bind λaiy=>Δ ajP aiy).bind λX7=>(Zt .i X7 (ε 2)).bind λalm=>(ξ alm (δ ([(aj nL.1 0),(ε 999)],nL.2)) ((Zt .i X7 (ε 3)).bind λaln=>(ξ aln (δ ([(aj nL.1 0),(ε 999)],nL.2)) (δ ([(aj nL.1 0),(ε 9999)],nL.2))).bind λOQ=>δ ([(aj OQ.1 0),(aj OQ.1 1)],OQ.2))).bind λqI=>((Z2 (aj qI.1 0)).bind λ_=>δ (1)).bind λajQ=>(θ aT η ((Z2 (aj qI.1 0)).bind λaiz=>Δ ajQ aiz) az).bind λalo=>(θ aT η (δ (aj qI.1 1)) az).bind λalp=>(θ aT η (Zu (jP [alo,(ε 1),alp] qI.2) qI.2) az).bind λalq=>(θ aT η (ZR alq) az).bind λalr=>(ZM aT alr aT).bind λJu=>(θ Ju ι (δ aT) az).bind λals=>(θ Ju ι (δ als) az).bind λFu=>((Z2 (aj qI.1 0)).bind λ_=>δ (2)).bind λajR=>(θ Fu η ((Z2 (aj qI.1 0)).bind λaiA=>Δ ajR aiA) az).bind λalu=>(θ Fu η (δ (aj qI.1 1)) az).bind λalv=>(θ Fu η (Zu (jP [alu,(ε 1),alv] qI.2) qI.2) az).bind λalw=>(θ Fu η (ZR alw) az).bind λalx=>(θ Ju ι (ZM Fu alx aT) az).bind λaly=>(ZM Ju br aly).bind λalz=>ξ alz (wh σ (ε 1) qI.2) (((Z2 (aj qI.1 0)).bind λ_=>δ (3)).bind λajS=>((Z2 (aj qI.1 0)).bind λaiB=>Δ ajS aiB).bind λX8=>(ZO X8).bind λalA=>(Zo (λAj OV=>(ZN (aj Aj 1) alA).bind λalB=>ξ alB ((Zp 4 X8 (aj Aj 1)).bind λalC=>((Γ alC OV).bind λaiC=>Z0 0 4 aiC).bind λalD=>(Φ 4 alD).bind λaiD=>(Zv 0 aiD [(ε 0),(ε 0),(ε 0),ZK]).bind λaiE=>(Z0 0 4 aiE).bind λalE=>(rec 38 [alE] OV).bind λJl=>(Tn .i Jl.1 (ε 0)).bind λalF=>ξ alF (δ (Ω,[Jl.1,(aj Aj 1)],Jl.2)) ((Zn (aj Aj 1) (ε 1)).bind λalG=>δ (Λ,[(aj Aj 0),alG],Jl.2))) (δ (φ 2,[(aj Aj 0),(aj Aj 1)],OV))) [(ε 0),(ε 0)] qI.2).bind λFf=>bif Ff.1==φ 2 then(wh σ (ε 0) Ff.2.2)else bif Ff.1==Ω then(wh σ (aj Ff.2.1 0) Ff.2.2)else μ))) ((Zt .i x2 (ε 9)).bind λalH=>ξ alH (((Z2 (aj kW.1 0)).bind λ_=>δ (3)).bind λajT=>((Z2 (aj kW.1 0)).bind λaiF=>Δ ajT aiF).bind λalI=>(ZO alI).bind λalJ=>(Tn .i alJ (ε 1)).bind λalK=>((Z2 (aj kW.1 0)).bind λ_=>δ (0)).bind λajU=>((Z2 (aj kW.1 0)).bind λaiG=>Δ ajU aiG).bind λalL=>(Zt .i alL (ε 4)).bind λalM=>(ξ alM (((Z2 (aj kW.1 0)).bind λ_=>δ (3)).bind λajV=>((Z2 (aj kW.1 0)).bind λaiH=>Δ ajV aiH).bind λalN=>(ZO alN).bind λalO=>(ZN alO (ε 2)).bind λalP=>δ ([(aj kW.1 0),alP],kW.2)) (δ ([(aj kW.1 0),alK],kW.2))).bind λnM=>(θ (aj nM.1 1) ι (δ br) az).bind λalQ=>(θ (aj nM.1 1) ι (ZR alQ) az).bind λalR=>(θ (aj nM.1 1) ι (δ alR) az).bind λPr=>((Z2 (aj nM.1 0)).bind λ_=>δ (1)).bind λajW=>(θ Pr η ((Z2 (aj nM.1 0)).bind λaiI=>Δ ajW aiI) az).bind λalS=>(θ Pr η (Tn .i alS (ε 0)) az).bind λalT=>(θ (aj nM.1 1) ι (ZM Pr alT aT) az).bind λalU=>(ZM (aj nM.1 1) br alU).bind λFv=>(θ Fv ι (δ br) az).bind λalV=>(θ Fv ι (ZR alV) az).bind λalW=>(θ Fv ι (δ alW) az).bind λPt=>((Z2 (aj nM.1 0)).bind λ_=>δ (2)).bind λajX=>(θ Pt η ((Z2 (aj nM.1 0)).bind λaiJ=>Δ ajX aiJ) az).bind λalX=>(θ Pt η (Tn .i alX (ε 0)) az).bind λalY=>(θ Fv ι (ZM Pt alY aT) az).bind λalZ=>(ZM Fv br alZ).bind λal0=>ξ al0 (wh σ (ε 3) nM.2) (((Z2 (aj nM.1 0)).bind λ_=>δ (0)).bind λajY=>((Z2 (aj nM.1 0)).bind λaiK=>Δ ajY aiK).bind λX9=>(Zt .i X9 (ε 2)).bind λal1=>(ξ al1 (δ ([(aj nM.1 0),(ε 999)],nM.2)) ((Zt .i X9 (ε 3)).bind λal2=>(ξ al2 (δ ([(aj nM.1 0),(ε 999)],nM.2)) (δ ([(aj nM.1 0),(ε 9999)],nM.2))).bind λOR=>δ ([(aj OR.1 0),(aj OR.1 1)],OR.2))).bind λqJ=>((Z2 (aj qJ.1 0)).bind λ_ => δ (1)).bind λajZ =>(θ br η ((Z2 (aj qJ.1 0)).bind λaiL=>Δ ajZ aiL) az).bind λal3=>(θ br η (δ (aj qJ.1 1)) az).bind λal4=>(θ br η (Zu (jP [al3,(ε 1),al4] qJ.2) qJ.2) az).bind λal5=>(θ br η (ZR al5) az).bind λal6=>(ZM br al6 aT).bind λJv=>(θ Jv ι (δ br) az).bind λal7=>(θ Jv ι (δ al7) az).bind λFw=>((Z2 (aj qJ.1 0)).bind λ_ => δ (2)).bind λaj0 =>(θ Fw η ((Z2 (aj qJ.1 0)).bind λaiM=>Δ aj0 aiM) az).bind λal8=>(θ Fw η (δ (aj qJ.1 1)) az).bind λal9=>(θ Fw η (Zu (jP [al8,(ε 1),al9] qJ.2) qJ.2) az).bind λama=>(θ Fw η (ZR ama) az).bind λamb=>(θ Jv ι (ZM Fw amb aT) az).bind λamc=>(ZM Jv br amc).bind λamd=>ξ amd (wh σ (ε 1) qJ.2) (((Z2 (aj qJ.1 0)).bind λ_=>δ (3)).bind λaj1=>((Z2 (aj qJ.1 0)).bind λaiN=>Δ aj1 aiN).bind λYa=>(ZO Ya).bind λame=>(Zo (λAk OW=>(ZN (aj Ak 1) ame).bind λamf=>ξ amf ((Zp 4 Ya (aj Ak 1)).bind λamg=>((Γ amg OW).bind λaiO=>Z0 0 4 aiO).bind λamh=>(Φ 4 amh).bind λaiP=>(Zv 0 aiP [(ε 0),(ε 0),(ε 0),ZK]).bind λaiQ=>(Z0 0 4 aiQ).bind λami=>(rec 38 [ami] OW).bind λJm=>(Tn .i Jm.1 (ε 0)).bind λamj=>ξ amj (δ (Ω,[Jm.1,(aj Ak 1)],Jm.2)) ((Zn (aj Ak 1) (ε 1)).bind λamk=>δ (Λ,[(aj Ak 0),amk],Jm.2))) (δ (φ 2,[(aj Ak 0),(aj Ak 1)],OW))) [(ε 0),(ε 0)] qJ.2).bind λFg=>bif Fg.1==φ 2 then(wh σ (ε 0) Fg.2.2)else bif Fg.1==Ω then(wh σ (aj Fg.2.1 0) Fg.2.2)else μ))) (wh σ (ε 4) kW.2)))))
def BF (rec:Nat->aq->Heap->aB):List (Nat×(aq->Heap->aB)):=[(38,Ξ η [fK] .k (RV (BL rec)))]
def KY:aq->Heap->aB:=fuel (BF) 2000000 38
def Lj (a0:AV) (σ:Heap):aB:=(Φ 4 a0).bind λc1=>(Z0 0 4 c1).bind λx2=>(LA [x2] σ).bind λr3=>(Zl 0 r3.1).bind λx4=>(Zl 1 r3.1).bind λx5=>(Zx x4 (ε 200)).bind λx6=>(θ x6 ι (δ x5) az).bind λx7=>(θ x6 ι (Zx x7 (ε 12)) az).bind λx8=>(ZM x6 br x8).bind λx9=>ξ x9 (wh σ (ε 2) r3.2) ((Z0 0 4 c1).bind λaY=>(KY [aY] r3.2).bind λdV=>wh σ dV.1 dV.2)
def DO:aq->Heap->aB:=Ξ η [fK] .k (RV Lj)
def Bw (a0 a1 a2 a3:AV) (σ:Heap):aB:=(Zt .i a0 (ε 2)).bind λx1=>(ξ x1 (((Γ a2 σ).bind λc3=>Δ 0 c3).bind λx4=>(SN 0 a3).bind λx5=>((Γ x5 σ).bind λc6=>Δ 0 c6).bind λx7=>((Γ a2 σ).bind λc8=>Δ 0 c8).bind λx9=>(SN 0 a3).bind λaY=>((Γ aY σ).bind λdI=>Δ 0 dI).bind λbY=>(ZJ .i x9 bY ZK σ).bind λbB=>((((ZS a1).bind λv=>δ [v]).bind λgB=>(Zv 0 gB [(ε 0)]).bind λfS=>δ fS).bind λcs=>δ (U0 1 (dW 1 1 cs))).bind λbM=>(ZI 1 (140737488355328 / 8) bB bM σ).bind λlg=>(Uj .i x4 x7 lg.1 lg.2).bind λAI=>δ (([]:aq),AI)) (δ (([]:aq),σ))).bind λr2=>δ ((Zz []),r2.2)
def G5 (a0 a1 a2 a3:AV) (σ:Heap):aB:=match a1,a2,a3 with|.int i1 o1,.op i2 o2,.op i3 o3=>Bw a0 (.int i1 o1) (.op i2 o2) (.op i3 o3) σ|_,_,_=>μ
def uo:aq->Heap->aB:=Ξ ι [] .k (A.oF G5)
def zi (rec:Nat->aq->Heap->aB) (dyn:Nat->aq->Heap->aB) (a0 a1:AV) (σ:Heap):aB:=(Φ 4 a0).bind λc1=>(Δ 0 c1).bind λx2=>(Zt .i x2 (ε 2)).bind λx3=>(θ x3 ι (Δ 0 c1) az).bind λx4=>(θ x3 ι (Zt .i x4 (ε 3)) az).bind λx5=>(ZM x3 br x5).bind λx6=>(ξ x6 ((Δ 0 c1).bind λx8=>(Δ 1 c1).bind λx9=>(A.nC dyn a1 [x8,x9] σ).bind λfH=>δ ([(Z1 c1)],fH.2)) (δ ([(Z1 c1)],σ))).bind λr7=>((Z2 (aj r7.1 0)).bind λ_=>δ (3)).bind λp11=>((Z2 (aj r7.1 0)).bind λb9=>Δ p11 b9).bind λbB=>(ZO bB).bind λcI=>(Zo (λxy vH=>(ZN (aj xy 0) cI).bind λdw=>ξ dw ((Zp 4 bB (aj xy 0)).bind λcx=>((Γ cx vH).bind λgD=>Z0 0 4 gD).bind λbO=>(Φ 4 bO).bind λlP=>(Zv 0 lP [(ε 0),(ε 0),(ε 0),ZK]).bind λjc=>(Z0 0 4 jc).bind λcS=>(rec 41 [cS,a1] vH).bind λoL=>(Zn (aj xy 0) (ε 1)).bind λdz=>δ (Λ,[dz],oL.2)) (δ (φ 0,[(aj xy 0)],vH))) [(ε 0)] r7.2).bind λjO=>bif jO.1==φ 0 then(δ ((Zz []),jO.2.2))else μ
def ur (dyn:Nat->aq->Heap->aB) (rec:Nat->aq->Heap->aB):List (Nat×(aq->Heap->aB)):=[(41,Ξ ι [] .k (T3 (zi rec dyn)))]
def xD (dyn:Nat->aq->Heap->aB):aq->Heap->aB:=fuel (ur dyn) 2000000 41
def Ht (a0:AV) (σ:Heap):aB:=((ZS (V9 σ.length)).bind λv=>δ [v]).bind λc1=>(ZX (UX (σ++[ZH []]).length 0) c1 ((σ++[ZH []])++[apF [AV.nm]])).bind λc2=>(ZO a0).bind λx3=>(Zo (λv4 s5=>(ZN (aj v4 0) x3).bind λx7=>ξ x7 ((Zp 5 a0 (aj v4 0)).bind λx8=>((Γ x8 s5).bind λc9=>Z0 0 5 c9).bind λaY=>(Φ 5 aY).bind λdI=>(ZX (UX s5.length 0) dI (s5++[apF [(ε 0),(ε 0),(ε 0),(ε 0),ZK]])).bind λb9=>((Γ (UX (σ++[ZH []]).length 0) b9).bind λiw=>Δ 0 iw).bind λcI=>(SN 0 (UX s5.length 0)).bind λbQ=>((Γ bQ b9).bind λiQ=>Δ 0 iQ).bind λcv=>(Uj .i cI cv ZK b9).bind λAI=>(SN 1 (UX s5.length 0)).bind λcx=>((Γ cx AI).bind λgD=>Z0 0 4 gD).bind λbO=>(xD (Z5 (λ_ _=>μ) [(40,uo)]) [bO,(AV.fn 40 [(UX (σ++[ZH []]).length 0),(UX s5.length 0)])] AI).bind λig=>(Zn (aj v4 0) (ε 1)).bind λcA=>δ (Λ,[cA],ig.2)) (δ (φ 0,[(aj v4 0)],s5))) [(ε 0)] c2).bind λsP=>bif sP.1==φ 0 then(((Γ (UX (σ++[ZH []]).length 0) sP.2.2).bind λjG=>Δ 0 jG).bind λdz=>wh σ dz sP.2.2)else μ
def LB:aq->Heap->aB:=Ξ η [(.s 5)] .k (RV Ht)
def Lm (a0 a1:AV) (σ:Heap):aB:=((((ZS a1).bind λv=>δ [v]).bind λc1=>(Zv 0 c1 [(ε 0)]).bind λc2=>δ c2).bind λcs=>δ (U0 1 (dW 1 1 cs))).bind λx3=>A.ve x3 λz4 wW=>(Zo (λv6 s7=>(ZO (aj v6 0)).bind λx9=>(Zx x9 (ε 0)).bind λaY=>ξ aY ((ZO (aj v6 0)).bind λcg=>(YR cg (ε 1)).bind λbY=>(Zp 1 (aj v6 0) bY).bind λbB=>((Γ bB s7).bind λgB=>Δ 0 gB).bind λbQ=>(ZO (aj v6 0)).bind λbM=>(YR bM (ε 1)).bind λcv=>(A.gQ 1 (aj v6 0) μ (δ cv) s7).bind λdw=>(ZJ .i a0 bQ ZK s7).bind λcx=>(ZO cx).bind λcM=>(Zo (λv21 lu=>(ZN (aj v21 1) cM).bind λcS=>ξ cS ((Zp 1 cx (aj v21 1)).bind λeU=>((Γ eU lu).bind λjN=>Δ 0 jN).bind λew=>(ZJ .i (V9 σ.length) ew aT lu).bind λgH=>(ZR gH).bind λcU=>(ξ cU ((Uj .i (V9 σ.length) ew br lu).bind λFT=>((((ZS ew).bind λv=>δ [v]).bind λkJ=>(Zv 0 kJ [(ε 0)]).bind λjd=>δ jd).bind λcs=>δ (U0 1 (dW 1 1 cs))).bind λjm=>(ZI 1 (140737488355328 / 8) (aj v21 0) jm FT).bind λgV=>δ ([gV.1],gV.2)) (δ ([(aj v21 0)],lu))).bind λfC=>(Zn (aj v21 1) (ε 1)).bind λiV=>δ (Λ,[(aj fC.1 0),iV],fC.2)) (δ (φ 2,[(aj v21 0),(aj v21 1)],lu))) [dw,(ε 0)] s7).bind λlp=>bif lp.1==φ 2 then(δ (Λ,[(aj lp.2.1 0)],lp.2.2))else μ) (δ (φ 0,[(aj v6 0)],s7))) [(AV.os (σ++[ZH []]).length wW.length z4 0 wW.length)] ((σ++[ZH []])++[aP.arr wW.length z4 wW])).bind λY9=>bif Y9.1==φ 0 then(wh σ (V9 σ.length) Y9.2.2)else μ
def KZ:aq->Heap->aB:=Ξ η [] .k (T3 Lm)
def Ko (a0:AV) (σ:Heap):aB:=(ZO a0).bind λx1=>(Zx x1 (ε 200)).bind λx2=>ξ x2 (wh σ (ε 2) σ) ((ZO a0).bind λx3=>(Zo (λv4 s5=>(ZN (aj v4 1) x3).bind λx7=>ξ x7 ((Zp 5 a0 (aj v4 1)).bind λx8=>((Γ x8 s5).bind λc9=>Z0 0 5 c9).bind λaY=>(Φ 5 aY).bind λdI=>(Zv 0 dI [(ε 0),(ε 0),(ε 0),(ε 0),ZK]).bind λb9=>(Δ 0 b9).bind λbB=>(jP [bB,(ε 1),(ε 999)] s5).bind λb8=>(ZR b8.1).bind λbQ=>ξ bQ (δ (Ω,[(ε 1),(aj v4 1)],b8.2)) ((Zx (aj v4 1) (ε 0)).bind λbM=>(θ bM η (Δ 0 b9) az).bind λcv=>(θ bM η (δ a0) az).bind λdw=>(θ bM η (δ (aj v4 1)) az).bind λcx=>(θ bM η (YR cx (ε 1)) az).bind λcM=>(θ bM η (Zp 5 dw cM) az).bind λbO=>(θ bM η (SN 0 bO) az).bind λcj=>(θ bM η ((Γ cj b8.2).bind λjc=>Δ 0 jc) az).bind λcS=>(θ bM η (Wr cv cS) az).bind λeU=>(ZM bM eU aT).bind λdz=>ξ dz (δ (Ω,[(ε 7),(aj v4 1)],b8.2)) ((Z0 1 4 b9).bind λew=>(DO [ew] b8.2).bind λqN=>(Tn .i qN.1 (ε 0)).bind λcU=>ξ cU (δ (Ω,[qN.1,(aj v4 1)],qN.2)) ((Zn (aj v4 1) (ε 1)).bind λgW=>δ (Λ,[(aj v4 0),gW],qN.2))))) (δ (φ 0,[(aj v4 0),(aj v4 1)],s5))) [(ε 0),(ε 0)] σ).bind λfX=>bif fX.1==φ 0 then((LB [a0] fX.2.2).bind λr32=>(ZO a0).bind λjl=>(Zo (λA7 JW=>(ZN (aj A7 1) jl).bind λiE=>ξ iE ((Zp 5 a0 (aj A7 1)).bind λgJ=>((Γ gJ JW).bind λAx=>Z0 0 5 Ax).bind λlA=>(Φ 5 lA).bind λrR=>(Zv 0 rR [(ε 0),(ε 0),(ε 0),(ε 0),ZK]).bind λtP=>(Δ 0 tP).bind λmH=>(ZJ .i r32.1 mH ZK JW).bind λlX=>(ZO lX).bind λmI=>(Zo (λv46 Gu=>(ZN (aj v46 1) mI).bind λmJ=>ξ mJ ((Zp 1 lX (aj v46 1)).bind λm6=>((Γ m6 Gu).bind λFF=>Δ 0 FF).bind λnS=>(A.pR .i r32.1 nS ZK Gu).bind λnT=>(Zl 0 nT).bind λpN=>(Zl 1 nT).bind λoO=>(ZR oO).bind λmK=>ξ mK (δ (Ω,[(ε 8),(aj v46 1)],Gu)) ((Zn (aj v46 1) (ε 1)).bind λnU=>δ (Λ,[(aj v46 0),nU],Gu))) (δ (φ 4,[(aj v46 0),(aj v46 1)],Gu))) [(aj A7 0),(ε 0)] JW).bind λDi=>bif Di.1==φ 4 then((Zn (aj A7 1) (ε 1)).bind λm7=>δ (Λ,[(aj Di.2.1 0),m7],Di.2.2))else bif Di.1==Ω then(δ (Ω,[(aj Di.2.1 0),(aj A7 1)],Di.2.2))else μ) (δ (φ 2,[(aj A7 0),(aj A7 1)],JW))) [(aj fX.2.1 0),(ε 0)] r32.2).bind λxm=>bif xm.1==φ 2 then((ZO a0).bind λqn=>(Zo (λA9 A4=>(ZN (aj A9 1) qn).bind λqp=>ξ qp ((Zp 5 a0 (aj A9 1)).bind λsw=>((Γ sw A4).bind λFJ=>Z0 0 5 FJ).bind λsx=>(Φ 5 sx).bind λPG=>(Zv 0 PG [(ε 0),(ε 0),(ε 0),(ε 0),ZK]).bind λyL=>(Δ 0 yL).bind λRl=>(Zu (KZ [r32.1,Rl] A4) A4).bind λoP=>(Δ 0 yL).bind λpO=>(ZJ .i oP pO aT A4).bind λqu=>ξ qu (δ (Ω,[(ε 11),(aj A9 1)],A4)) ((Zn (aj A9 1) (ε 1)).bind λm8=>δ (Λ,[(aj A9 0),m8],A4))) (δ (φ 6,[(aj A9 0),(aj A9 1)],A4))) [(aj xm.2.1 0),(ε 0)] xm.2.2).bind λm4=>bif m4.1==φ 6 then(wh σ (ε 0) m4.2.2)else bif m4.1==Ω then(wh σ (aj m4.2.1 0) m4.2.2)else μ)else bif xm.1==Ω then(wh σ (aj xm.2.1 0) xm.2.2)else μ)else bif fX.1==Ω then(wh σ (aj fX.2.1 0) fX.2.2)else μ)
def G0:aq->Heap->aB:=Ξ η [(.s 5)] .k (RV Ko)
def zk (a0:AV) (σ:Heap):aB:=(ZO a0).bind λx1=>(Zo (λv2 s3=>(ZN (aj v2 1) x1).bind λx5=>ξ x5 ((Zp 1 a0 (aj v2 1)).bind λx6=>((Γ x6 s3).bind λc7=>Δ 0 c7).bind λx8=>(ZJ .i (V9 σ.length) x8 aT s3).bind λx9=>(ZR x9).bind λaY=>(ξ aY ((Uj .i (V9 σ.length) x8 br s3).bind λh12=>((((ZS x8).bind λv=>δ [v]).bind λiw=>(Zv 0 iw [(ε 0)]).bind λgB=>δ gB).bind λcs=>δ (U0 1 (dW 1 1 cs))).bind λbQ=>(ZI 1 (140737488355328 / 8) (aj v2 0) bQ h12).bind λlf=>δ ([lf.1],lf.2)) (δ ([(aj v2 0)],s3))).bind λdV=>(Zn (aj v2 1) (ε 1)).bind λcv=>δ (Λ,[(aj dV.1 0),cv],dV.2)) (δ (φ 0,[(aj v2 0),(aj v2 1)],s3))) [ZK,(ε 0)] (σ++[ZH []])).bind λdr=>bif dr.1==φ 0 then(δ ((aj dr.2.1 0),dr.2.2))else μ
def xF:aq->Heap->aB:=Ξ η [(.s 1)] .k (RV zk)
def Bp (rec:Nat->aq->Heap->aB) (a0 a1 a2:AV) (σ:Heap):aB:=(((ZS a0).bind λv=>δ [v]).bind λcs=>δ (AV.rp cs)).bind λx1=>(Φ 4 a1).bind λc2=>(((ZS a2).bind λv=>δ [v]).bind λcs=>δ (AV.rp cs)).bind λx3=>((ZS aT).bind λv=>δ [v]).bind λc4=>(ZX (UX σ.length 0) c4 (σ++[apF [aT]])).bind λc5=>(Z0 0 4 c2).bind λx6=>(xD (Z5 (λ_ _=>μ) [(75,rec 75)]) [x6,(AV.fn 75 [(UX σ.length 0),x1,x3])] c5).bind λr7=>((Γ (UX σ.length 0) r7.2).bind λc8=>Δ 0 c8).bind λx9=>δ (x9,r7.2)
def Bn (rec:Nat->aq->Heap->aB) (a0 a1 a2 a3 a4:AV) (σ:Heap):aB:=((Γ a2 σ).bind λc1=>Δ 0 c1).bind λx2=>ξ x2 (δ ((Zz []),σ)) ((Zt .i a0 (ε 3)).bind λx3=>ξ x3 (((Γ a3 σ).bind λc4=>Δ 0 c4).bind λx5=>(A.jJ x5).bind λx6=>(SN 2 x6).bind λx7=>((Γ x7 σ).bind λc8=>Δ 0 c8).bind λx9=>(A.pR .i x9 a1 ZK σ).bind λaY=>(Zl 0 aY).bind λcg=>(Zl 1 aY).bind λbY=>(ZR bY).bind λbB=>((ZS bB).bind λv=>δ [v]).bind λgB=>(ZX a2 gB σ).bind λfS=>δ ((Zz []),fS)) (((Γ a3 σ).bind λiQ=>Δ 0 iQ).bind λcv=>(A.jJ cv).bind λdw=>(SN 1 dw).bind λcx=>((Γ cx σ).bind λgD=>Δ 0 gD).bind λbO=>(A.pR .i bO a1 (Y8 [(ε 0),(ε 0),(ε 0),ZK]) σ).bind λcj=>(Zl 0 cj).bind λcA=>(Zl 1 cj).bind λcS=>(Φ 4 cA).bind λjG=>(Zv 0 jG [(ε 0),(ε 0),(ε 0),ZK]).bind λjN=>(ZR cS).bind λew=>(ξ ew (((ZS br).bind λv=>δ [v]).bind λrO=>(ZX a2 rO σ).bind λFB=>δ (([]:aq),FB)) (((Γ a4 σ).bind λrQ=>Δ 0 rQ).bind λgI=>(ZJ .i gI a1 aT σ).bind λjl=>(ZR jl).bind λjm=>(ξ jm (((Γ a4 σ).bind λAw=>Δ 0 Aw).bind λiE=>(Uj .i iE a1 br σ).bind λPV=>((Γ a3 PV).bind λAx=>Δ 0 Ax).bind λlA=>(Z0 0 4 jN).bind λlW=>((Γ a4 PV).bind λtP=>Δ 0 tP).bind λmH=>(rec 76 [lA,lW,mH] PV).bind λtY=>((ZS tY.1).bind λv=>δ [v]).bind λFD=>(ZX a2 FD tY.2).bind λAA=>δ (([]:aq),AA)) (δ (([]:aq),σ))).bind λgV=>δ (([]:aq),gV.2))).bind λqN=>δ ((Zz []),qN.2)))
def Bo (rec:Nat->aq->Heap->aB):List (Nat×(aq->Heap->aB)):=[(76,Ξ ι [] .k (A.i7 (Bp rec))),(75,Ξ ι [] .k (A.CX (Bn rec)))]
def GX:aq->Heap->aB:=fuel (Bo) 2000000 76
def Dy (a0 a1:AV) (σ:Heap):aB:=((Γ a1 σ).bind λc1=>Δ 0 c1).bind λx2=>(ZJ .i x2 a0 aT σ).bind λx3=>wh σ x3 σ
def qw:aq->Heap->aB:=Ξ η [] .k (T3 Dy)
def BM (a0 a1 a2:AV) (σ:Heap):aB:=(YR a2 (ε 1)).bind λx1=>(Zo (λv2 s3=>(ZO a0).bind λx5=>(ZN (aj v2 1) x5).bind λx6=>ξ x6 ((Zp 1 a0 (aj v2 1)).bind λx7=>((Γ x7 s3).bind λc8=>Δ 0 c8).bind λx9=>((((ZS x9).bind λv=>δ [v]).bind λgy=>(Zv 0 gy [(ε 0)]).bind λdI=>δ dI).bind λcs=>δ (U0 1 (dW 1 1 cs))).bind λbY=>(ZI 1 (140737488355328 / 8) (aj v2 0) bY s3).bind λqi=>(Zn (aj v2 1) a1).bind λcI=>δ (Λ,[qi.1,cI],qi.2)) (δ (φ 0,[(aj v2 0),(aj v2 1)],s3))) [ZK,x1] σ).bind λpH=>bif pH.1==φ 0 then(δ ((aj pH.2.1 0),pH.2.2))else μ
def BI:aq->Heap->aB:=Ξ η [(.s 1)] .k (A.i7 BM)
def Bu (rec:Nat->aq->Heap->aB) (a0 a1:AV) (σ:Heap):aB:=(Φ 4 a1).bind λc1=>(Δ 3 c1).bind λx2=>(ZO x2).bind λx3=>(Zo (λv4 s5=>(ZN (aj v4 2) x3).bind λx7=>ξ x7 ((Zp 4 x2 (aj v4 2)).bind λx8=>((Γ x8 s5).bind λc9=>Z0 0 4 c9).bind λaY=>(Φ 4 aY).bind λdI=>(Zv 0 dI [(ε 0),(ε 0),(ε 0),ZK]).bind λb9=>(Z0 0 4 b9).bind λbB=>(rec 79 [a0,bB] s5).bind λb8=>((((ZS b8.1).bind λv=>δ [v]).bind λfS=>(Zv 0 fS [ZK]).bind λiQ=>δ iQ).bind λcs=>δ (U0 1 (dW 1 1 cs))).bind λcv=>(ZI 1 (140737488355328 / 24) (aj v4 1) cv b8.2).bind λdr=>(Zn (aj v4 2) (ε 1)).bind λcx=>δ (Λ,[(aj v4 0),dr.1,cx],dr.2)) (δ (φ 0,[(aj v4 0),(aj v4 1),(aj v4 2)],s5))) [(Z1 c1),ZK,(ε 0)] σ).bind λbI=>bif bI.1==φ 0 then(((Z2 (aj bI.2.1 0)).bind λ_=>δ (0)).bind λp21=>((Z2 (aj bI.2.1 0)).bind λlP=>Δ p21 lP).bind λcA=>(Zt .i cA (ε 1)).bind λcS=>ξ cS (((Z2 (aj bI.2.1 0)).bind λ_=>δ (1)).bind λQH=>((Z2 (aj bI.2.1 0)).bind λjN=>Δ QH jN).bind λew=>((Z2 (aj bI.2.1 0)).bind λ_=>δ (2)).bind λQI=>((Z2 (aj bI.2.1 0)).bind λrO=>Δ QI rO).bind λgW=>(A.min ew gW).bind λfN=>((Z2 (aj bI.2.1 0)).bind λ_=>δ (1)).bind λQK=>((Z2 (aj bI.2.1 0)).bind λjd=>Δ QK jd).bind λjm=>((Z2 (aj bI.2.1 0)).bind λ_=>δ (2)).bind λQM=>((Z2 (aj bI.2.1 0)).bind λAw=>Δ QM Aw).bind λiE=>(A.max jm iE).bind λgJ=>(A.jJ a0).bind λjo=>(SN 0 jo).bind λlA=>((Γ lA bI.2.2).bind λrR=>Δ 0 rR).bind λmG=>(ZO mG).bind λmH=>(Zo (λvI JY=>(ZN (aj vI 2) mH).bind λkQ=>ξ kQ ((Zp 1 mG (aj vI 2)).bind λqm=>((Γ qm JY).bind λFE=>Δ 0 FE).bind λm6=>(Wr fN m6).bind λga=>(θ ga η (δ m6) az).bind λnS=>(θ ga η (δ gJ) az).bind λnT=>(θ ga η (Wr nS nT) az).bind λpN=>(ZM ga pN aT).bind λoO=>(ξ oO (((((ZS m6).bind λv=>δ [v]).bind λwQ=>(Zv 0 wQ [(ε 0)]).bind λCZ=>δ CZ).bind λcs=>δ (U0 1 (dW 1 1 cs))).bind λm7=>(ZI 1 (140737488355328 / 8) (aj vI 1) m7 JY).bind λxm=>δ ([(aj vI 0),xm.1],xm.2)) (δ ([(aj vI 0),(aj vI 1)],JY))).bind λQX=>(Zn (aj vI 2) (ε 1)).bind λqn=>δ (Λ,[(aj QX.1 0),(aj QX.1 1),qn],QX.2)) (δ (φ 3,[(aj vI 0),(aj vI 1),(aj vI 2)],JY))) [(aj bI.2.1 0),ZK,(ε 0)] bI.2.2).bind λr8=>bif r8.1==φ 3 then(((Z2 (aj r8.2.1 0)).bind λ_=>δ (1)).bind λp63=>((Z2 (aj r8.2.1 0)).bind λPE=>Δ p63 PE).bind λqp=>((Z2 (aj r8.2.1 0)).bind λ_=>δ (2)).bind λp66=>((Z2 (aj r8.2.1 0)).bind λFJ=>Δ p66 FJ).bind λsx=>(Zx qp sx).bind λqt=>(ξ qt ((vK [(aj r8.2.1 1)] r8.2.2).bind λr71=>δ (([]:aq),r71.2)) (δ (([]:aq),r8.2.2))).bind λr70=>δ ((aj r8.2.1 1),r70.2))else μ) ((Zt .i cA (ε 2)).bind λoP=>ξ oP ((A.jJ a0).bind λpO=>(SN 3 pO).bind λqu=>((Γ qu bI.2.2).bind λc75=>Δ 0 c75).bind λqR=>((Z2 (aj bI.2.1 0)).bind λ_=>δ (1)).bind λp77=>((Z2 (aj bI.2.1 0)).bind λAE=>Δ p77 AE).bind λuh=>(A.pR .i qR uh ZK bI.2.2).bind λBf=>(Zl 0 Bf).bind λBg=>(Zl 1 Bf).bind λGM=>(ZR GM).bind λBh=>(ξ Bh ((A.jJ a0).bind λxz=>(SN 1 xz).bind λGN=>((Γ GN bI.2.2).bind λwR=>Δ 0 wR).bind λvJ=>((Z2 (aj bI.2.1 0)).bind λ_=>δ (1)).bind λp89=>((Z2 (aj bI.2.1 0)).bind λFL=>Δ p89 FL).bind λxA=>(ZJ .i vJ xA (Y8 [(ε 0),(ε 0),(ε 0),ZK]) bI.2.2).bind λBj=>(rec 79 [a0,Bj] bI.2.2).bind λA3=>(A.jJ a0).bind λuj=>(SN 3 uj).bind λRo=>((Γ Ro A3.2).bind λPN=>Δ 0 PN).bind λGP=>((Z2 (aj bI.2.1 0)).bind λ_=>δ (1)).bind λp98=>((Z2 (aj bI.2.1 0)).bind λc99=>Δ p98 c99).bind λFh=>(Uj .i GP Fh A3.1 A3.2).bind λai3=>δ ([A3.1],ai3)) (δ ([Bg],bI.2.2))).bind λZd=>(xC [(aj Zd.1 0)] Zd.2).bind λXO=>δ (XO.1,XO.2)) ((Zt .i cA (ε 3)).bind λO0=>ξ O0 ((A.jJ a0).bind λFi=>(SN 2 Fi).bind λsI=>((Γ sI bI.2.2).bind λahW=>Δ 0 ahW).bind λAl=>((Z2 (aj bI.2.1 0)).bind λ_=>δ (1)).bind λajr=>((Z2 (aj bI.2.1 0)).bind λN2=>Δ ajr N2).bind λpY=>(ZJ .i Al pY ZK bI.2.2).bind λCR=>(xC [CR] bI.2.2).bind λXP=>δ (XP.1,XP.2)) ((Zt .i cA (ε 4)).bind λO3=>ξ O3 ((Bs [(aj bI.2.1 1)] bI.2.2).bind λFb=>(xF [Fb.1] Fb.2).bind λCP=>δ (CP.1,CP.2)) ((Zt .i cA (ε 5)).bind λFl=>ξ Fl (((ZS (V9 bI.2.2.length)).bind λv=>δ [v]).bind λEV=>(ZX (UX (bI.2.2++[ZH []]).length 0) EV ((bI.2.2++[ZH []])++[apF [AV.nm]])).bind λapg=>(Zp 1 (aj bI.2.1 1) (ε 1)).bind λO5=>((Γ O5 apg).bind λah0=>Δ 0 ah0).bind λCS=>(ZO CS).bind λyJ=>(Zo (λJs Jp=>(ZN (aj Js 0) yJ).bind λakb=>ξ akb ((Zp 1 CS (aj Js 0)).bind λO8=>((Γ O8 Jp).bind λah4=>Δ 0 ah4).bind λCT=>((Γ (UX (bI.2.2++[ZH []]).length 0) Jp).bind λah5=>Δ 0 ah5).bind λPb=>(Uj .i Pb CT br Jp).bind λai5=>(Zn (aj Js 0) (ε 1)).bind λakd=>δ (Λ,[akd],ai5)) (δ (φ 5,[(aj Js 0)],Jp))) [(ε 0)] apg).bind λON=>bif ON.1==φ 5 then((Zp 1 (aj bI.2.1 1) (ε 0)).bind λCU=>((Γ CU ON.2.2).bind λEW=>Δ 0 EW).bind λPc=>(Dv (Z5 (λ_ _=>μ) [(77,qw)]) [Pc,(AV.fn 77 [(UX (bI.2.2++[ZH []]).length 0)])] ON.2.2).bind λXQ=>δ (XQ.1,XQ.2))else μ) ((Zt .i cA (ε 6)).bind λakg=>ξ akg ((Zp 1 (aj bI.2.1 1) (ε 0)).bind λFo=>((Γ Fo bI.2.2).bind λOa=>Δ 0 Oa).bind λaki=>(BI [aki,(ε 2),(ε 1)] bI.2.2).bind λXR=>δ (XR.1,XR.2)) ((Zt .i cA (ε 7)).bind λPe=>ξ Pe ((Zp 1 (aj bI.2.1 1) (ε 0)).bind λPf=>((Γ Pf bI.2.2).bind λaib=>Δ 0 aib).bind λPg=>(BI [Pg,(ε 2),(ε 2)] bI.2.2).bind λyG=>δ (yG.1,yG.2)) ((Zt .i cA (ε 8)).bind λPh=>ξ Ph ((Zp 1 (aj bI.2.1 1) (ε 0)).bind λakl=>((Γ akl bI.2.2).bind λaic=>Δ 0 aic).bind λakm=>(vK [akm] bI.2.2).bind λXS=>(Zp 1 (aj bI.2.1 1) (ε 0)).bind λako=>((Γ ako XS.2).bind λOc=>Δ 0 Oc).bind λPj=>δ (Pj,XS.2)) ((Zp 1 (aj bI.2.1 1) (ε 0)).bind λPk=>((Γ Pk bI.2.2).bind λaid=>Δ 0 aid).bind λakq=>((Z2 (aj bI.2.1 0)).bind λ_=>δ (1)).bind λajB=>((Z2 (aj bI.2.1 0)).bind λaif=>Δ ajB aif).bind λPm=>((Z2 (aj bI.2.1 0)).bind λ_=>δ (2)).bind λajC=>((Z2 (aj bI.2.1 0)).bind λaih=>Δ ajC aih).bind λaks=>(BI [akq,Pm,aks] bI.2.2).bind λXT=>δ (XT.1,XT.2))))))))))else μ
def ze (rec:Nat->aq->Heap->aB):List (Nat×(aq->Heap->aB)):=[(79,Ξ ι [] .k (T3 (Bu rec)))]
def G1:aq->Heap->aB:=fuel (ze) 2000000 79
def Lk (a0 a1 a2 a3:AV) (σ:Heap):aB:=(Φ 2 a0).bind λc1=>(Φ 4 a3).bind λc2=>(Z0 0 2 c1).bind λx3=>(Zu (GY [x3,a2] σ) σ).bind λx4=>(Zu (G0 [a1] σ) σ).bind λx5=>(Z0 0 4 c2).bind λx6=>(Zu (DO [x6] σ) σ).bind λx7=>((((ZS x4).bind λv=>δ [v]).bind λc8=>(Zv 0 c8 [(ε 0),(ε 0),(ε 0)]).bind λc9=>((ZS x5).bind λv=>δ [v]).bind λgy=>(Zv 1 gy c9).bind λdI=>((ZS x7).bind λv=>δ [v]).bind λb9=>(Zv 2 b9 dI).bind λiw=>δ iw).bind λcs=>δ (U0 1 (dW 1 3 cs))).bind λcI=>(Zu (DP [cI] σ) σ).bind λbQ=>(Tn .i bQ (ε 0)).bind λbM=>ξ bM (wh σ (Zz [ZK,bQ]) σ) (((((ZS (V9 σ.length)).bind λv=>δ [v]).bind λjM=>(Zv 1 jM [ZK,AV.nm,AV.nm,AV.nm]).bind λgC=>((ZS (V9 (σ++[ZH []]).length)).bind λv=>δ [v]).bind λlN=>(Zv 2 lN gC).bind λgD=>((ZS (V9 ((σ++[ZH []])++[ZH []]).length)).bind λv=>δ [v]).bind λlO=>(Zv 3 lO gD).bind λlP=>δ lP).bind λcs=>δ (Y8 cs)).bind λcA=>(Φ 4 cA).bind λfT=>(Δ 1 c1).bind λeU=>(ZO eU).bind λdz=>(Zo (λm5 yZ=>(ZN (aj m5 1) dz).bind λgW=>ξ gW ((Zp 4 eU (aj m5 1)).bind λfN=>((Γ fN yZ).bind λkJ=>Z0 0 4 kJ).bind λjl=>(Φ 4 jl).bind λp9=>(Zv 0 p9 [(ε 0),cK,(ε 0),(ε 0)]).bind λAv=>(A.jJ (UX (((σ++[ZH []])++[ZH []])++[ZH []]).length 0)).bind λiV=>(SN 0 iV).bind λiE=>((Γ iE yZ).bind λwP=>Δ 0 wP).bind λjo=>(Δ 0 Av).bind λlA=>((((ZS lA).bind λv=>δ [v]).bind λrR=>(Zv 0 rR [(ε 0)]).bind λtP=>δ tP).bind λcs=>δ (U0 1 (dW 1 1 cs))).bind λmH=>(ZI 1 (140737488355328 / 8) jo mH yZ).bind λtY=>(A.jJ (UX (((σ++[ZH []])++[ZH []])++[ZH []]).length 0)).bind λmI=>(SN 0 mI).bind λpM=>((ZS tY.1).bind λv=>δ [v]).bind λPz=>(ZX pM Pz tY.2).bind λPA=>(Zn (aj m5 1) (ε 1)).bind λmJ=>δ (Λ,[(aj m5 0),mJ],PA)) (δ (φ 0,[(aj m5 0),(aj m5 1)],yZ))) [(Z1 c2),(ε 0)] ((((σ++[ZH []])++[ZH []])++[ZH []])++[apF fT])).bind λyU=>bif yU.1==φ 0 then((ZO a1).bind λga=>(Zo (λDr JZ=>(ZN (aj Dr 1) ga).bind λoO=>ξ oO ((Zp 5 a1 (aj Dr 1)).bind λmK=>((Γ mK JZ).bind λwQ=>Z0 0 5 wQ).bind λsu=>(Φ 5 su).bind λPC=>(Zv 0 PC [(ε 0),(ε 0),(ε 0),(ε 0),ZK]).bind λC0=>(A.jJ (UX (((σ++[ZH []])++[ZH []])++[ZH []]).length 0)).bind λqn=>(SN 1 qn).bind λqo=>((Γ qo JZ).bind λc63=>Δ 0 c63).bind λBe=>(Δ 0 C0).bind λqp=>(Z0 1 4 C0).bind λsw=>(Uj .i Be qp sw JZ).bind λh67=>(Zn (aj Dr 1) (ε 1)).bind λsx=>δ (Λ,[(aj Dr 0),sx],h67)) (δ (φ 2,[(aj Dr 0),(aj Dr 1)],JZ))) [(aj yU.2.1 0),(ε 0)] yU.2.2).bind λyX=>bif yX.1==φ 2 then((ZO a2).bind λuf=>(Zo (λDt Q9=>(ZN (aj Dt 1) uf).bind λqu=>ξ qu ((Zp 3 a2 (aj Dt 1)).bind λm8=>((Γ m8 Q9).bind λc76=>Z0 0 3 c76).bind λug=>(Φ 3 ug).bind λAE=>(Zv 0 AE [(ε 0),cK,ZK]).bind λJx=>(Δ 2 Jx).bind λBf=>(ZO Bf).bind λBg=>(Zo (λlV A5=>(ZN (aj lV 3) Bg).bind λxz=>ξ xz ((Zp 3 Bf (aj lV 3)).bind λGN=>((Γ GN A5).bind λwR=>Z0 0 3 wR).bind λvJ=>(Φ 3 vJ).bind λFK=>(Zv 0 FK [(ε 0),cK,(ε 0)]).bind λFL=>(Δ 0 FL).bind λxA=>((((ZS xA).bind λv=>δ [v]).bind λPL=>(Zv 0 PL [(ε 0)]).bind λFM=>δ FM).bind λcs=>δ (U0 1 (dW 1 1 cs))).bind λuj=>(ZI 1 (140737488355328 / 8) (aj lV 2) uj A5).bind λqO=>(Zn (aj lV 3) (ε 1)).bind λxB=>δ (Λ,[(aj lV 0),(aj lV 1),qO.1,xB],qO.2)) (δ (φ 6,[(aj lV 0),(aj lV 1),(aj lV 2),(aj lV 3)],A5))) [(aj Dt 0),(Z1 Jx),ZK,(ε 0)] Q9).bind λql=>bif ql.1==φ 6 then((A.jJ (UX (((σ++[ZH []])++[ZH []])++[ZH []]).length 0)).bind λRp=>(SN 2 Rp).bind λuk=>((Γ uk ql.2.2).bind λahT=>Δ 0 ahT).bind λwN=>((Z2 (aj ql.2.1 1)).bind λ_=>δ (0)).bind λajp=>((Z2 (aj ql.2.1 1)).bind λahV=>Δ ajp ahV).bind λFi=>(Zu ((A.yz (.s 1) xF) [(aj ql.2.1 2)] ql.2.2) ql.2.2).bind λsI=>(Uj .i wN Fi sI ql.2.2).bind λai4=>(Zn (aj Dt 1) (ε 1)).bind λAl=>δ (Λ,[(aj ql.2.1 0),Al],ai4))else μ) (δ (φ 4,[(aj Dt 0),(aj Dt 1)],Q9))) [(aj yX.2.1 0),(ε 0)] yX.2.2).bind λFa=>bif Fa.1==φ 4 then(((Z2 (aj Fa.2.1 0)).bind λN2=>Z0 0 4 N2).bind λpY=>(GX [(UX (((σ++[ZH []])++[ZH []])++[ZH []]).length 0),pY,(V9 Fa.2.2.length)] (Fa.2.2++[ZH []])).bind λOM=>ξ OM.1 (wh σ (Zz [ZK,(ε 8)]) OM.2) (((Z2 (aj Fa.2.1 0)).bind λN5=>Z0 0 4 N5).bind λO3=>(G1 [(UX (((σ++[ZH []])++[ZH []])++[ZH []]).length 0),O3] OM.2).bind λFb=>wh σ (Zz [Fb.1,(ε 0)]) Fb.2))else μ)else μ)else μ)
def KW:aq->Heap->aB:=Ξ η [kY,(.s 5),(.s 3),fK] (.t [(.s 1),.k]) (A.oF Lk)
end
end
end Go.Proofs.Ytgjglkakhmikjaa
