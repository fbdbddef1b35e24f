/- Parts of the proof of StampEventTextsComeBack, in order. -/
import Derived.Lib.Strings
import Derived.Lib.Split
import Derived.Lib.IndexMore
import Derived.Lib.TrimByte
import Derived.Lib.Join
import Derived.Lib.Atoi
import Derived.Lib.Bytealg
import Derived.Sort.Defs
import Derived.Lib.BitFns
import Derived.Test.YtpcafbmnjchmcaaGreatDoorKStampEventTextsComeBack1
namespace Go.Proofs.YtpcafbmnjchmcaaGreatDoor
set_option linter.unusedVariables false
set_option linter.unusedSimpArgs false
set_option linter.unusedSectionVars false
set_option maxRecDepth 1000000
noncomputable section
open A renaming pick->i6,bX->XI,deref->l6,neq->XQ,add->u0,eql->p5,dZ->Zw,tab->Y1,sub->Yj,gtr->XW,fin->Ξ,look->Yg,aU->ZY,guard->ι,cond->φ,ay->Ψ,iter->XB,cell->Yh,mul->akW,quiet->p6,cu->Z0,cells->j0,append->Z9,lb->W9,gen->akZ,aM->w8,loop->WY,storeAt->akO,ext->p4,bO->Xz,lss->Y3,not->HH
open Nat renaming sub_self->alV,zero_add->Zm,blt->akK
open List renaming mem_map_of_mem->ak3,not_mem_nil->ZK,getElem?_set_ne->W1,getElem?_cons_zero->Z3,contains_iff_mem->akX,getElem?_take->alg,range'_succ->alK,set_comm->Yr,mem_filterMap->Zj,filter_cons->aml,getD->ZC,length_nil->AV,map_congr_left->Zh,range'->YT,filterMap_cons->ala,length_cons->l8,nil_append->Yd,range_eq_range'->YC,length_append->W0,mem_filter->Yk,mem_replicate->ZS,filter_eq_self->alJ,mem_iff_getElem->Y0,all_cons->Z4,getElem?_take_of_lt->ZU,replicate->w4,any_eq_true->WJ,length_map->Yo,mem_cons_self->Xl
open AX renaming ret->i7,normal->wh,exit->eN
open List.cons renaming injEq->ZX
open aF renaming mono->ZD
open U renaming str->Γ,int->Zx,az->p7,om->XH,agg->n9,ah->η,lbx->XK,rp->YH,bA->Yn
open Option renaming getD_none->Xh,some->δ,none->μ,isNone_none->ZP,getD_some->y9
open Go.Sem renaming run_pure->Xe,run->Zb,run_bind->l5
open _root_.Array renaming toList_append->alH,getElem?_toList->Zq,all_eq_true_iff_forall_mem->alq,getElem?_setIfInBounds_ne->Zn,replicate->WL,getD->alh
open aY renaming nth->als
open an renaming mono->Yz
open bH renaming map->Z7
open Go.Region renaming wanted->YY,ready->XR,binds->Zl
open Bool renaming not_true->n8,false_or->WS,not_eq_true'->p9,false_eq_true->Φ,not_false->ZQ,or_eq_true->YW,false->ξ,true->θ,true_and->Zr,not_eq_false'->Xq,and_false->Y4
open Go.Oper renaming upon_value->al8
open Go.MapKept renaming heap_alloc->ZJ
open Option.some renaming injEq->χ
open Go.Result renaming andThen_ok->Ω
open IntKind renaming i64->ε
open Go.Lib renaming trimRightB->alW,compareBytes->ZM,decNat->alX
open Go.Op renaming operands->l7
open Prod.mk renaming injEq->Θ
open Classical renaming choose_spec->Zt
open AS renaming put->akP
open Go.Call renaming operands->amd
section
open Go.RowKit
section
variable {X : Fx} {z : Z} {s : AS} {a : Act} {w w' : World} {E : List Pl} {pb : Nat -> Option Nat} {R : Type}
theorem nC{o:Oper}{v:Value}{w':World}{K:Act->World->Prop}{Q:Exit->Act->World->Prop}(h:(execOp a.eval o).run X.P w=.ok (.value v) w')(k:K (a.put o.dst v) w'):o.wp X.P a w K Q:=by unfold Oper.wp;rw[h,al8];exact k
theorem LY{o:Oper}{w':World}{K:Act->World->Prop}{Q:Exit->Act->World->Prop}(h:(execOp a.eval o).run X.P w=.ok .skip w')(k:K (a.put o.dst undef) w'):o.wp X.P a w K Q:=by unfold Oper.wp;rw[h,Oper.upon_skip];exact k
theorem St.undef(h:St X z s a w E pb)(d:Option Nat):St X z (s.put X d (.az [])) (a.put d undef) w E pb:=
 h.put d (by simp only[an];exact⟨#[],rfl,by simp [aF]⟩)
theorem vc(hs:fc X)(h:St X z s a w E pb){o:Oper}{k:AS->Option R}{r:R}(hk:((eI X o s μ).bind λv=>k (s.put X o.dst v))=δ r) {K:Act->World->Prop} {Q:Exit->Act->World->Prop}
  (hK:∀s' a' w' E' bD,St X z s' a' w' E' bD->k s'=δ r->K a' w'):o.wp X.P a w K Q:=by
 obtain⟨av,h1,h2⟩:=bg.1 hk;exact TR hs h (tag:=μ) trivial h1 λv w' E' h3 h4=>hK _ _ _ _ _ (h3.put o.dst h4) h2
theorem aeL(h:St X z s a w E pb){q str:Bool}{i:Operand}{dst:Option Nat}{ty:TypeId}{pos:String}{af:Array Edge}{g:Option (Nat×Bool)}{k:AS->Option R}{r:R}
  (hk:(bif q||str then μ else A.xB (ev X s i) s.σ λv σ=>k ((s.heap σ).put X dst v))=δ r) {K:Act->World->Prop} {Q:Exit->Act->World->Prop}
  (hK:∀s' a' w' E' bD,St X z s' a' w' E' bD->k s'=δ r->K a' w'):Oper.wp X.P ⟨dst,.next i str,ty,pos,af,g⟩ a w K Q:=by
 cases hq:(q||str)
 ·rw[hq]at hk;simp only[aZ]at hk;simp only[iW]at hq;obtain⟨rfl,rfl⟩:=hq;obtain⟨av,σ',v',w',k1,k2,k3,k4⟩:=aeM (ty:=ty) h hk (dD h i);exact nC (w':=w') (by simp [execOp,k2]) (hK _ _ _ _ _ (k3.put dst k4) k1)
 ·rw[hq]at hk;cases hk
theorem ajf(hs:fc X)(h:St X z s a w E pb){d t n:Nat}{ps:Array (Nat×Operand)}{ty:TypeId}{pos:String}{af:Array Edge}{g:Option (Nat×Bool)}{k:AS->Option R}{r:R}
  (hk:((eI X ⟨δ d,.buildSlice t n ps,ty,pos,af,g⟩ s μ).bind λv=>A.BL v λsz es=>k ((s.heap (s.σ++[.arr es.length sz es])).put X (δ d) (.os s.σ.length es.length sz 0 es.length)))=δ r) {K:Act->World->Prop} {Q:Exit->Act->World->Prop}
  (hK:∀s' a' w' E' bD,St X z s' a' w' E' bD->k s'=δ r->K a' w'):Oper.wp X.P ⟨δ d,.buildSlice t n ps,ty,pos,af,g⟩ a w K Q:=by
 obtain⟨v,h1,h2⟩:=bg.1 hk;unfold A.BL at h2;split at h2
 ·rename_i sz es;cases hl:(es.length==0)
  ·rw[hl]at h2;simp only[aZ]at h2;have hne:0<es.length:=by simp at hl;exact List.length_pos_iff.2 hl
   obtain⟨arr,et,e1,e2,e3,e4,e5⟩:=adm h h1;have hlen:=h.heap.len;simp only[ctx]at hlen;refine nC e1 (hK _ _ _ _ _ ((h.vB (.cells arr et) (.arr es.length sz es) ⟨w.heap.size,0,es.length,sz,arr.size⟩ rfl λhx=>?_).put (δ d) (av:=.os s.σ.length es.length sz 0 es.length) ?_) h2)
   ·have hb:=(ZJ w (.cells arr et)).1;exact⟨rfl,hne,rfl,e3,⟨arr,et,hb,rfl⟩,by rw[e2];simp,e4 _ hb hx,xm hb e5⟩
   ·simp only[an];refine⟨hne,⟨w.heap.size,0,es.length,sz,arr.size⟩,by show(E++[_])[s.σ.length]? =_;rw[<-hlen];exact xH,bL _,⟨w.heap.size,0,μ⟩,es.length,rfl,bL _,λ_=>⟨rfl,.inr (by simp),by rw[e2];simp⟩⟩
  ·rw[hl]at h2;cases h2
 ·cases h2
theorem TN(hs:fc X)(h:St X z s a w E pb){q:Bool}{o:Oper}{k:AS->Option R}{r:R}(hk:eU X q o s k=δ r){K:Act->World->Prop}{Q:Exit->Act->World->Prop}
  (hK:∀s' a' w' E' bD,St X z s' a' w' E' bD->k s'=δ r->K a' w'):o.wp X.P a w K Q:=by
 unfold eU at hk;cases hp:iq X o s μ with
 |some p=>obtain⟨b,rr⟩:=p;rw[hp]at hk;simp only at hk;obtain⟨off,h1,h2⟩:=bg.1 hk;subst h1;obtain⟨n,k1,k2⟩:=TQ h (tag:=μ) trivial hp;exact nC k2 (hK _ _ _ _ _ (h.Nc o.dst (λ_=>⟨n,k1,rfl⟩)) h2)
 |none=>
  rw[hp]at hk;simp only at hk;obtain⟨dst,op,ty,pos,af,g⟩:=o;cases op<;>simp only at hk<;>first|exact aeL h hk hK|exact vc hs h hk hK|skip
  case alloc t=>
   cases dst with
   |none=>cases hk
   |some d=>
    simp only at hk;cases hL:X.L.contains d
    ·rw[hL]at hk;simp only[aZ]at hk;cases hO:X.O.contains d
     ·rw[hO]at hk;exact vc hs h hk hK
     ·rw[hO]at hk;simp only[bG]at hk;split at hk
      ·rename_i cs hz;obtain⟨i,v,h1,h2,h3,h4,h5,h6⟩:=tQ (w:=w) hz (ctx z w E pb)
       have hrun:(execOp a.eval ⟨δ d,.alloc t,ty,pos,af,g⟩).run X.P w=.ok (.value (.pointer (δ ⟨w.heap.size,0,μ⟩))) (w.alloc (.cells v.cells t)):=by simp [execOp,Instr.alloc,h3,newVar,tN]
       have hst:=h.vB (.cells v.cells t) (.box cs) ⟨w.heap.size,0,0,0,0⟩ rfl (λhx=>by
        have hb:(w.alloc (.cells v.cells t)).heap[w.heap.size]? =δ (.cells v.cells t (0,0)):=(ZJ w _).1
        exact⟨rfl,⟨_,_,hb,by have:=h5.length;simpa using this.symm⟩,aT.uK hb (ZD hx _ _ h5) h6 (λi hi=>by simp)⟩)
       have hlen:=h.heap.len;simp only[ctx]at hlen;refine nC hrun (hK _ _ _ _ _ (hst.put (δ d) (av:=.op s.σ.length 0) ?_) hk);simp only[an];exact⟨⟨w.heap.size,0,0,0,0⟩,by show(E++[_])[s.σ.length]? =_;rw[<-hlen];exact xH,rfl,rfl⟩
      ·cases hk
    ·rw[hL]at hk;simp only[bG]at hk;split at hk
     ·rename_i cs hz;obtain⟨i,v,h1,h2,h3,h4,h5,h6⟩:=tQ (w:=w) hz (ctx z w E pb)
      have hrun:(execOp a.eval ⟨δ d,.alloc t,ty,pos,af,g⟩).run X.P w=.ok (.value (.pointer (δ ⟨w.heap.size,0,μ⟩))) (w.alloc (.cells v.cells t)):=by simp [execOp,Instr.alloc,h3,newVar,tN]
      obtain⟨bD,hst⟩:=h.lK d hL (vs:=v.cells.toList) t h5 h6;exact nC hrun (hK _ _ _ _ _ (by simpa using hst) hk)
     ·cases hk
  case box t x=>
   cases dst with
   |none=>cases hk
   |some d=>
    simp only at hk;cases hL:X.L.contains d
    ·rw[hL]at hk;simp only[aZ]at hk;cases hO:X.O.contains d
     ·rw[hO]at hk;exact vc hs h hk hK
     ·rw[hO]at hk;simp only[bG]at hk;obtain⟨cs,h1,h2⟩:=bg.1 hk;obtain⟨h5,h6,_,_⟩:=AR X h1 (dD h x)
      have hrun:(execOp a.eval ⟨δ d,.box t x,ty,pos,af,g⟩).run X.P w=.ok (.value (.pointer (δ ⟨w.heap.size,0,μ⟩))) (w.alloc (.cells (a.eval x).cells t)):=by simp [execOp,Instr.box,newVar,tN]
      have hst:=h.vB (.cells (a.eval x).cells t) (.box cs) ⟨w.heap.size,0,0,0,0⟩ rfl (λhx=>by
       have hb:(w.alloc (.cells (a.eval x).cells t)).heap[w.heap.size]? =δ (.cells (a.eval x).cells t (0,0)):=(ZJ w _).1
       exact⟨rfl,⟨_,_,hb,by have:=h5.length;simpa using this.symm⟩,aT.uK hb (ZD hx _ _ h5) h6 (λi hi=>by simp)⟩)
      have hlen:=h.heap.len;simp only[ctx]at hlen;refine nC hrun (hK _ _ _ _ _ (hst.put (δ d) (av:=.op s.σ.length 0) ?_) h2);simp only[an];exact⟨⟨w.heap.size,0,0,0,0⟩,by show(E++[_])[s.σ.length]? =_;rw[<-hlen];exact xH,rfl,rfl⟩
    ·rw[hL]at hk;simp only[bG]at hk;obtain⟨cs,h1,h2⟩:=bg.1 hk;obtain⟨h5,h6,_,_⟩:=AR X h1 (dD h x)
     have hrun:(execOp a.eval ⟨δ d,.box t x,ty,pos,af,g⟩).run X.P w=.ok (.value (.pointer (δ ⟨w.heap.size,0,μ⟩))) (w.alloc (.cells (a.eval x).cells t)):=by simp [execOp,Instr.box,newVar,tN]
     obtain⟨bD,hst⟩:=h.lK d hL (vs:=(a.eval x).cells.toList) t h5 h6;exact nC hrun (hK _ _ _ _ _ (by simpa using hst) h2)
  case store t x v=>
   split at hk
   ·rename_i b off hp;obtain⟨cs,h1,h2⟩:=bg.1 hk;obtain⟨new,h3,h4⟩:=bg.1 h2;obtain⟨cs',h5,h6⟩:=bg.1 h4;obtain⟨n,k1,k2,k3,k4⟩:=A2 h (tag:=μ) trivial hp h1;obtain⟨r1,r2,r3,d,hd⟩:=AR X h3 (dD h v);obtain⟨arr,bt,j1,j2,j3⟩:=RT k3;obtain⟨j4,j5⟩:=j2.eS h5 r1;have hrun:=K4 (P:=X.P) (t:=t) j1 r3 (PL hd) r2 j5;have hst:=h.afU k1 ⟨cs,k4⟩ (t:=bt) j4 (Bi j3 r2);refine LY (w':=_) ?_ (hK _ _ _ _ _ (hst.undef dst) h6);simp only[execOp,k2,l5];rw[show(Instr.storeAt t (.pointer (δ ⟨n,off,μ⟩)) (a.eval v)).run X.P w=_ from hrun];rfl
   ·obtain⟨new,h3,h4⟩:=bg.1 hk;obtain⟨σ',h5,h6⟩:=bg.1 h4;obtain⟨w',k1,k2⟩:=abu h h3 (dD h v) h5 (dD h x);refine LY (w':=w') ?_ (hK _ _ _ _ _ (k2.undef dst) h6);simp only[execOp,l5,k1];rfl
  case makeMap t rr=>
   cases rr with
   |some x=>cases hk
   |none=>
    simp only at hk
    have hrun:(execOp a.eval ⟨dst,.makeMap t μ,ty,pos,af,g⟩).run X.P w=.ok (.value (.map (δ w.heap.size))) (w.alloc (.map #[] 0)):=by simp [execOp,Instr.makeMap,newObj,Zb]
    have hst:=h.vB (.map #[] 0) (.map []) ⟨w.heap.size,0,0,0,0⟩ rfl (λhx=>by
     have hb:(w.alloc (.map #[] 0)).heap[w.heap.size]? =δ (.map #[] 0):=(ZJ w _).1
     exact⟨rfl,_,_,hb,mG.empty,rfl⟩)
    have hlen:=h.heap.len;simp only[ctx]at hlen;refine nC hrun (hK _ _ _ _ _ (hst.put dst (av:=.om s.σ.length) ?_) hk);simp only[an];exact⟨⟨w.heap.size,0,0,0,0⟩,by show(E++[_])[s.σ.length]? =_;rw[<-hlen];exact xH,rfl,rfl⟩
  case range t x=>
   split at hk
   ·rename_i kt et hd;obtain⟨es,h1,h2⟩:=bg.1 hk;obtain⟨o,k1,k2⟩:=adH h hd h1 (dD h x);have hlen:=h.heap.len;simp only[ctx]at hlen;refine nC (v:=.pointer (δ ⟨w.heap.size,0,μ⟩)) (w':=w.alloc o) (by simp [execOp,k1]) (hK _ _ _ _ _ (k2.put dst (av:=.op s.σ.length 0) ?_) h2);simp only[an];exact⟨⟨w.heap.size,0,0,0,0⟩,by show(E++[_])[s.σ.length]? =_;rw[<-hlen];exact xH,rfl,rfl⟩
   ·cases hk
  case buildSlice t n ps=>
   cases dst with
   |none=>exact vc hs h hk hK
   |some d=>
    simp only at hk;cases hO:X.O.contains d
    ·rw[hO]at hk;exact vc hs h hk hK
    ·rw[hO]at hk;simp only[bG]at hk;exact ajf hs h hk hK
  case mapUpdate t m i v=>
   split at hk
   ·rename_i kt et hd;split at hk
    ·rename_i ek he;obtain⟨σ',h1,h2⟩:=bg.1 hk;obtain⟨w',k1,k2⟩:=aeI h hd he h1 (dD h m) (dD h i) (dD h v);refine LY (w':=w') ?_ (hK _ _ _ _ _ (k2.undef dst) h2);simp only[execOp,l5,k1];rfl
    ·cases hk
   ·cases hk
  case call c=>
   have hargs:(c.args.map a.eval).toList=c.args.toList.map a.eval:=by simp
   have re:=Bd h c.args.toList;split at hk
   ·rename_i hc;split at hk
    ·rename_i t u x y h1 h2;split at hk
     ·rename_i e e' hd hu;split at hk
      ·rename_i i hi;cases dP:kM i
       ·rw[dP]at hk;simp only[aZ]at hk;simp only[kM,iW,beq_eq_false_iff_ne]at dP;obtain⟨⟨z1,z2⟩,z3⟩:=dP;cases OD:i.zero with
        |none=>rw[OD]at z3;cases z3
        |some zv=>
         rw[OD]at z3;simp only[iW,bne_eq_false_iff_eq,Xq]at z3;obtain⟨z3,z4⟩:=z3;obtain⟨⟨rr,σ'⟩,h3,h4⟩:=bg.1 hk;rw[h2]at re
         have hl:∃v vy,c.args.toList.map a.eval=[v,vy]/\an (ctx z w E pb) x v/\an (ctx z w E pb) y vy:=by
          generalize c.args.toList.map a.eval=vs at *
          simp only[aF]at re;obtain⟨v,_,rfl,r1,u',_,rfl,r2,rfl⟩:=re;exact⟨v,u',rfl,r1,r2⟩
         obtain⟨v,vy,hvs,r1,r2⟩:=hl;have hone:∀x∈zv.cells.toList,cx x=θ:=nM.1 z4;obtain⟨n,w',E',k1,k2,k3⟩:=abA (ty:=ty) h hd hu hi OD z3 z1 z2 hone h3 r1 r2;have h1':c.argTypes=#[t,u]:=by apply jv.1;simpa using h1
         have tj:c.args.map a.eval=#[v,vy]:=by apply jv.1;rw[hargs,hvs]
         have hrun:(execOp a.eval ⟨dst,.call c,ty,pos,af,g⟩).run X.P w=.ok (.value n) w':=by simp only[execOp,resolve,hc,l5,Xe,Ω,invoke,builtin,tj,h1',k1]
         exact nC hrun (hK _ _ _ _ _ (k2.put dst k3) h4)
       ·rw[dP]at hk;cases hk
      ·cases hk
     ·rename_i e kk hd hu;split at hk
      ·rename_i i zs hi hz;cases dP:kM i
       ·rw[dP]at hk;simp only[aZ]at hk;simp only[kM,iW,beq_eq_false_iff_ne]at dP;obtain⟨⟨z1,z2⟩,z3⟩:=dP;obtain⟨i',zv,g1,g2,g3,g4,g5,g6⟩:=tQ (w:=w) hz (ctx z w E pb);rw[hi]at g1;injection g1 with g1;subst g1
        rw[g2]at z3;simp only[iW,bne_eq_false_iff_eq,Xq]at z3;obtain⟨z3,z4⟩:=z3
        have nY:∀c,aF c zs zv.cells.toList:=λc=>by
         obtain⟨i2,v2,f1,f2,f3,f4,f5,f6⟩:=tQ (w:=w) hz c;rw[hi]at f1;injection f1 with f1;subst f1
         rw[g2]at f2;injection f2 with f2;subst f2
         exact f5
        obtain⟨⟨rr,σ'⟩,h3,h4⟩:=bg.1 hk;rw[h2]at re
        have hl:∃v vy,c.args.toList.map a.eval=[v,vy]/\an (ctx z w E pb) x v/\an (ctx z w E pb) y vy:=by
         generalize c.args.toList.map a.eval=vs at *
         simp only[aF]at re;obtain⟨v,_,rfl,r1,u',_,rfl,r2,rfl⟩:=re;exact⟨v,u',rfl,r1,r2⟩
        obtain⟨v,vy,hvs,r1,r2⟩:=hl;obtain⟨n,w',E',k1,k2,k3⟩:=aaH (ty:=ty) h hd hu hi g2 z3 z1 z2 nY g6 h3 r1 r2;have h1':c.argTypes=#[t,u]:=by apply jv.1;simpa using h1
        have tj:c.args.map a.eval=#[v,vy]:=by apply jv.1;rw[hargs,hvs]
        have hrun:(execOp a.eval ⟨dst,.call c,ty,pos,af,g⟩).run X.P w=.ok (.value n) w':=by simp only[execOp,resolve,hc,l5,Xe,Ω,invoke,builtin,tj,h1',k1]
        exact nC hrun (hK _ _ _ _ _ (k2.put dst k3) h4)
       ·rw[dP]at hk;cases hk
      ·cases hk
     ·cases hk
    ·cases hk
   ·rename_i hc;split at hk
    ·rename_i t u x y h1 h2;split at hk
     ·rename_i e e' hd hu;split at hk
      ·rename_i i hi;cases dP:kM i
       ·rw[dP]at hk;simp only[aZ]at hk;simp only[kM,iW,beq_eq_false_iff_ne]at dP;obtain⟨⟨z1,z2⟩,z3⟩:=dP;obtain⟨⟨rr,σ'⟩,h3,h4⟩:=bg.1 hk;rw[h2]at re
        have hl:∃v vy,c.args.toList.map a.eval=[v,vy]/\an (ctx z w E pb) x v/\an (ctx z w E pb) y vy:=by
         generalize c.args.toList.map a.eval=vs at *
         simp only[aF]at re;obtain⟨v,_,rfl,r1,u',_,rfl,r2,rfl⟩:=re;exact⟨v,u',rfl,r1,r2⟩
        obtain⟨v,vy,hvs,r1,r2⟩:=hl;obtain⟨n,w',k1,k2,k3⟩:=aee (ty:=ty) h hd hu hi z1 h3 r1 r2;have h1':c.argTypes=#[t,u]:=by apply jv.1;simpa using h1
        have tj:c.args.map a.eval=#[v,vy]:=by apply jv.1;rw[hargs,hvs]
        have hrun:(execOp a.eval ⟨dst,.call c,ty,pos,af,g⟩).run X.P w=.ok (.value n) w':=by simp only[execOp,resolve,hc,l5,Xe,Ω,invoke,builtin,tj,h1',k1]
        exact nC hrun (hK _ _ _ _ _ (k2.put dst k3) h4)
       ·rw[dP]at hk;cases hk
      ·cases hk
     ·cases hk
    ·cases hk
   ·rename_i hc;cases hv:eI X ⟨dst,.call c,ty,pos,af,g⟩ s μ with
    |some v=>rw[hv]at hk;exact vc hs h (by rw[hv];exact hk) hK
    |none=>
     rw[hv]at hk;simp only[A.DA]at hk;cases q
     ·simp only[aZ]at hk;split at hk
      ·rename_i t x h1 h2;split at hk
       ·rename_i e hd;rw[h2]at re
        have hl:∃v,c.args.toList.map a.eval=[v]/\an (ctx z w E pb) x v:=by
         generalize c.args.toList.map a.eval=vs at *
         simp only[aF]at re;obtain⟨v,_,rfl,r1,rfl⟩:=re;exact⟨v,rfl,r1⟩
        obtain⟨v,hvs,r1⟩:=hl;obtain⟨n,σ',k1,k2,k3⟩:=ad5 (ty:=ty) h hd hk r1;have h1':c.argTypes=#[t]:=by apply jv.1;simpa using h1
        have tj:c.args.map a.eval=#[v]:=by apply jv.1;rw[hargs,hvs]
        have hrun:(execOp a.eval ⟨dst,.call c,ty,pos,af,g⟩).run X.P w=.ok (.value (.int ε (n:Int))) w:=by simp only[execOp,resolve,hc,l5,Xe,Ω,invoke,builtin,tj,h1',k2]
        exact nC hrun (hK _ _ _ _ _ (k3.put dst (by simp [an])) k1)
       ·cases hk
      ·cases hk
     ·cases hk
   ·rename_i hc;split at hk
    ·rename_i t x h1 h2;split at hk
     ·rename_i e hd;split at hk
      ·rename_i i zs hi hz;cases dP:kM i
       ·rw[dP]at hk;simp only[aZ]at hk;simp only[kM,iW,beq_eq_false_iff_ne]at dP;obtain⟨⟨z1,z2⟩,z3⟩:=dP;obtain⟨i',zv,g1,g2,g3,g4,g5,g6⟩:=tQ (w:=w) hz (ctx z w E pb);rw[hi]at g1;injection g1 with g1;subst g1
        rw[g2]at z3;simp only[iW,bne_eq_false_iff_eq,Xq]at z3;obtain⟨z3,z4⟩:=z3
        have nY:∀c,aF c zs zv.cells.toList:=λc=>by
         obtain⟨i2,v2,f1,f2,f3,f4,f5,f6⟩:=tQ (w:=w) hz c;rw[hi]at f1;injection f1 with f1;subst f1
         rw[g2]at f2;injection f2 with f2;subst f2
         exact f5
        obtain⟨σ',h3,h4⟩:=bg.1 hk;rw[h2]at re
        have hl:∃v,c.args.toList.map a.eval=[v]/\an (ctx z w E pb) x v:=by
         generalize c.args.toList.map a.eval=vs at *
         simp only[aF]at re;obtain⟨v,_,rfl,r1,rfl⟩:=re;exact⟨v,rfl,r1⟩
        obtain⟨v,hvs,r1⟩:=hl;obtain⟨w',k1,k2⟩:=ac4 (ty:=ty) h hd (abv X.P hi g2) z3 z1 nY g6 h3 r1;have h1':c.argTypes=#[t]:=by apply jv.1;simpa using h1
        have tj:c.args.map a.eval=#[v]:=by apply jv.1;rw[hargs,hvs]
        have hrun:(execOp a.eval ⟨dst,.call c,ty,pos,af,g⟩).run X.P w=.ok (.value undef) w':=by simp only[execOp,resolve,hc,l5,Xe,Ω,invoke,builtin,tj,h1',k1];rfl
        exact nC hrun (hK _ _ _ _ _ (k2.undef dst) h4)
       ·rw[dP]at hk;cases hk
      ·cases hk
     ·cases hk
    ·cases hk
   ·rename_i hc;split at hk
    ·rename_i t u m key h1 h2;split at hk
     ·rename_i kt et hd;split at hk
      ·rename_i ek he;obtain⟨σ',h3,h4⟩:=bg.1 hk;rw[h2]at re
       have hl:∃v vy,c.args.toList.map a.eval=[v,vy]/\an (ctx z w E pb) m v/\an (ctx z w E pb) key vy:=by
        generalize c.args.toList.map a.eval=vs at *
        simp only[aF]at re;obtain⟨v,_,rfl,r1,u',_,rfl,r2,rfl⟩:=re;exact⟨v,u',rfl,r1,r2⟩
       obtain⟨v,vy,hvs,r1,r2⟩:=hl;obtain⟨w',k1,k2⟩:=aeG (u:=u) (ty:=ty) h hd he h3 r1 r2;have h1':c.argTypes=#[t,u]:=by apply jv.1;simpa using h1
       have tj:c.args.map a.eval=#[v,vy]:=by apply jv.1;rw[hargs,hvs]
       have hrun:(execOp a.eval ⟨dst,.call c,ty,pos,af,g⟩).run X.P w=.ok (.value undef) w':=by simp only[execOp,resolve,hc,l5,Xe,Ω,invoke,builtin,tj,h1',k1];rfl
       exact nC hrun (hK _ _ _ _ _ (k2.undef dst) h4)
      ·cases hk
     ·cases hk
    ·cases hk
   ·exact vc hs h hk hK
   ·rename_i f hc;cases hq:(q&&!X.W.contains f)
    ·rw[hq]at hk;simp only[aZ]at hk;obtain⟨⟨rr,σ'⟩,h3,h4⟩:=bg.1 hk;exact C0 h (hs.call _ _ _ _ _ h3) (by rw[hargs];exact re) (PA hc) (λv w' E' h1 h2=>hK _ _ _ _ _ (h1.put dst h2) h4)
    ·rw[hq]at hk;simp only[bG]at hk;exact vc hs h hk hK
   ·rename_i x hnf hc;cases q
    ·simp only[aZ]at hk;obtain⟨⟨rr,σ'⟩,h3,h4⟩:=bg.1 hk;have rx:=dD h x;generalize ev X s x=vx at *
     cases vx<;>simp only[A.pH]at h3<;>first|(cases h3;done)|skip
     rename_i fn0 Dj;simp only[an]at rx;obtain⟨f,cs,e1,e2,e3⟩:=rx;rw[<-e2]at h3;have wz:X.dyn (X.nm.getD f 0) (c.args.toList.map (ev X s)++Dj) s.σ=δ (rr,σ'):=by rw[h.nm];exact h3
     exact C0 h (hs.dyn _ _ _ _ _ wz) (vs:=c.args.map a.eval++cs) (by rw[alH,hargs];exact re.append e3) (JY hc e1) (λv w' E' h1 h2=>hK _ _ _ _ _ (h1.put dst h2) h4)
    ·simp only[bG]at hk;exact vc hs h hk hK
   ·cases hk
end
end
section
structure Up where
 d:Option Nat
 v:U
 bx:Option (Nat×U)
 new:Option qq
 sF:Bool
 σ:Option Heap
def mN(sF:Bool)(d:Nat)(a:Option qq):Option qq:=match lE d a with|some p=>bif sF&&p.slot==d then μ else δ p|none=>μ
def Up.sl(u:Up)(l:List U):List U:=match u.d with
 |some d=>(match u.bx with|some (b,x)=>l.set b x|none=>l).set d u.v
 |none=>(match u.bx with|some (b,x)=>l.set b x|none=>l)
def Up.A(u:Up)(A:Nat->Option qq)(t:Nat):Option qq:=match u.d with|none=>A t|some d=>bif t==d then u.new else mN u.sF d (A t)
def Up.ap(u:Up)(s:AS):AS:=⟨u.sl s.sl,u.A s.A,u.σ.getD s.σ⟩
theorem CC(d:Nat)(a:Option qq):mN ξ d a=lE d a:=by unfold mN;cases lE d a<;>rfl
theorem Lb(i:Bool)(d:Nat)(a:Option qq):mN i d a=a\/mN i d a=μ:=by
 cases a with
 |none=>left;rfl
 |some p=>
  unfold mN;cases hk:lE d (δ p)with
  |none=>right;rfl
  |some q=>
   simp only
   have:q=p:=by
    simp only[lE]at hk;cases ht:p.tag with
    |none=>rw[ht]at hk;simpa using hk.symm
    |some g=>
     obtain⟨g,w⟩:=g;rw[ht]at hk;simp only at hk;cases hg:(g==d)
     ·rw[hg]at hk;simpa using hk.symm
     ·rw[hg]at hk;cases hk
   subst this;cases hb:(i&&q.slot==d)
   ·left;rfl
   ·right;rfl
theorem Ge(i:Bool)(d:Nat):mN i d μ=μ:=rfl
theorem abP(i j:Bool)(d e:Nat)(a:Option qq):mN i d (mN j e a)=mN j e (mN i d a):=by
 rcases Lb i d a with h1|h1<;>rcases Lb j e a with h2|h2
 ·rw[h2,h1,h2]
 ·rw[h2,Ge,h1,h2]
 ·rw[h2,h1,Ge]
 ·rw[h2,Ge,h1,Ge]
structure Up.T6 (x y : Up) : Prop where
 d:∀d,x.d=δ d->y.d≠δ d
 bx:∀b v,x.bx=δ (b,v)->(∀c w,y.bx=δ (c,w)->c≠b)/\y.d≠δ b
 VQ:∀b v,y.bx=δ (b,v)->(∀c w,x.bx=δ (c,w)->c≠b)/\x.d≠δ b
 nx:∀d,y.d=δ d->mN y.sF d x.new=x.new
 ny:∀d,x.d=δ d->mN x.sF d y.new=y.new
 σ:x.σ=μ\/y.σ=μ
theorem Up.comm{x y:Up}(h:x.T6 y)(s:AS):x.ap (y.ap s)=y.ap (x.ap s):=by
 obtain⟨hd,rC,hby,hnx,hny,eA⟩:=h;unfold Up.ap;congr 1
 ·show x.sl (y.sl s.sl)=y.sl (x.sl s.sl);generalize s.sl=l;obtain⟨xd,xv,xb,xn,xi,xs⟩:=x;obtain⟨yd,yv,yb,yn,yi,ys⟩:=y;simp only at hd rC hby;cases xb with
  |none=>
   cases yb with
   |none=>
    cases xd with
    |none=>cases yd<;>simp [Up.sl]
    |some dx=>cases yd with
     |none=>simp [Up.sl]
     |some dy=>simp only[Up.sl];rw[Yr];intro e;exact hd dx rfl (by rw[e])
   |some bv=>
    obtain⟨b,v⟩:=bv;obtain⟨_,hb⟩:=hby b v rfl;cases xd with
    |none=>cases yd<;>simp [Up.sl]
    |some dx=>
     have hne:dx≠b:=λe=>hb (by rw[e])
     cases yd with
     |none=>simp only[Up.sl];rw[Yr _ _ (λe=>hne e.symm)]
     |some dy=>
      have pQ:dx≠dy:=λe=>hd dx rfl (by rw[e])
      simp only[Up.sl];rw[Yr _ _ (λe=>pQ e.symm),Yr _ _ (λe=>hne e.symm)]
  |some bv=>
   obtain⟨b,v⟩:=bv;obtain⟨EB,hb⟩:=rC b v rfl;cases yb with
   |none=>
    cases yd with
    |none=>cases xd<;>simp [Up.sl]
    |some dy=>
     have hne:dy≠b:=λe=>hb (by rw[e])
     cases xd with
     |none=>simp only[Up.sl];rw[Yr _ _ hne]
     |some dx=>
      have pQ:dx≠dy:=λe=>hd dx rfl (by rw[e])
      simp only[Up.sl];rw[Yr _ _ hne,Yr _ _ (λe=>pQ e.symm)]
   |some cw=>
    obtain⟨c,u⟩:=cw;have hcb:c≠b:=EB c u rfl;obtain⟨_,hc⟩:=hby c u rfl;cases xd with
    |none=>
     cases yd with
     |none=>simp only[Up.sl];rw[Yr _ _ hcb]
     |some dy=>
      have hne:dy≠b:=λe=>hb (by rw[e])
      simp only[Up.sl];rw[Yr _ _ hne,Yr _ _ hcb]
    |some dx=>
     have hnc:dx≠c:=λe=>hc (by rw[e])
     cases yd with
     |none=>simp only[Up.sl];rw[Yr _ _ hcb,Yr _ _ (λe=>hnc e.symm)]
     |some dy=>
      have hne:dy≠b:=λe=>hb (by rw[e])
      have pQ:dx≠dy:=λe=>hd dx rfl (by rw[e])
      simp only[Up.sl];rw[Yr _ _ hne,Yr _ _ (λe=>pQ e.symm),Yr _ _ hcb,Yr _ _ (λe=>hnc e.symm)]
 ·funext t;show x.A (y.A s.A) t=y.A (x.A s.A) t;generalize s.A t=a0;unfold Up.A;cases Ws:x.d with
  |none=>cases y.d<;>rfl
  |some dx=>
   cases Wu:y.d with
   |none=>rfl
   |some dy=>
    have pQ:dx≠dy:=λe=>hd dx Ws (by rw[Wu,e])
    simp only;by_cases h1:t=dx
    ·subst h1;have:(t==dy)=ξ:=by simpa using pQ
     simp only[beq_self_eq_true,bG,this,aZ];exact(hnx dy Wu).symm
    ·have h1':(t==dx)=ξ:=by simpa using h1
     by_cases h2:t=dy
     ·subst h2;simp only[beq_self_eq_true,bG,h1',aZ];exact hny dx Ws
     ·have h2':(t==dy)=ξ:=by simpa using h2
      simp only[h1',h2',aZ];exact abP ..
 ·rcases eA with e|e<;>simp [e]
structure RI (X : Fx) (Rt : List (Nat × Nat)) (Bt : List Nat) (s : AS) : Prop where
 l:∀t b,Rt.lookup t=δ b->X.L.contains b=θ
 a:∀t p,s.A t=δ p->Rt.lookup t=δ p.slot
 v:∀t b,Rt.lookup t=δ b->X.L.contains t=ξ->jM (s.sl.getD t .undef)=θ
 b:∀t,Bt.contains t=θ->lO (s.sl.getD t .undef)=θ
def nE(σ σ':Heap):Prop:=∀(id:Nat)(cs:List U),σ[id]? =δ (bH.box cs)↔σ'[id]? =δ (bH.box cs)
section
variable {R : Type} {X : Fx} {Rt : List (Nat × Nat)} {Bt : List Nat} {s s' : AS}
theorem GD(h:RI X Rt Bt s){tag:Option (Nat×Bool)}{x:Operand}{b off:Nat}(hp:place X s tag x=δ (b,off)):uO X Rt x=δ b:=by
 cases x with
 |tmp t=>
  simp only[place]at hp;simp only[uO];cases hL:X.L.contains t
  ·rw[hL]at hp;simp only[aZ]at hp ⊢;split at hp
   ·rename_i p hA;cases hc:X.L.contains p.slot
    ·rw[hc]at hp;cases hp
    ·rw[hc]at hp;simp only[bG]at hp;have ha:=h.a t p hA;split at hp
     ·simp only[χ,Θ]at hp;rw[ha,hp.1]
     ·rename_i g hg;cases ht:(tag==δ g)
      ·rw[ht]at hp;cases hp
      ·rw[ht]at hp;simp only[bG,χ,Θ]at hp;rw[ha,hp.1]
   ·cases hp
  ·rw[hL]at hp;simp only[bG,χ,Θ]at hp ⊢;exact hp.1
 |_=>simp [place]at hp
theorem A9(h:RI X Rt Bt s){tag:Option (Nat×Bool)}{x:Operand}{b:Nat}(hr:uO X Rt x=δ b)(hp:place X s tag x=μ):jM (ev X s x)=θ:=by
 cases x with
 |tmp t=>
  simp only[uO]at hr;cases hL:X.L.contains t
  ·rw[hL]at hr;simp only[aZ]at hr;simp only[ev,hL,aZ];exact h.v t b hr hL
  ·simp only[place,hL,bG]at hp;cases hp
 |_=>simp [uO]at hr
theorem RU{v:U}{σ:Heap}(h:jM v=θ):l6 v σ=μ:=by unfold jM at h;split at h<;>first|rfl|cases h
theorem abJ{v:U}{σ σ':Heap}(h:nE σ σ')(hv:lO v=θ):l6 v σ=l6 v σ':=by
 cases v<;>first|rfl|skip
 case op id off=>
  simp only[l6];cases h1:σ[id]? with
  |none=>
   cases h2:σ'[id]? with
   |none=>rfl
   |some b=>cases b<;>first|rfl|(have:=(h id _).2 h2;rw[h1]at this;cases this)
  |some b=>
   cases b with
   |box cs=>rw[(h id cs).1 h1]
   |_=>
    cases h2:σ'[id]? with
    |none=>rfl
    |some b=>cases b<;>first|rfl|(have:=(h id _).2 h2;rw[h1]at this;cases this)
 case oe id g i off=>cases hv
theorem abt{v:U}{new:List U}{σ:Heap}(h:jM v=θ):akO v new σ=μ:=by unfold jM at h;split at h<;>first|rfl|cases h
theorem KM{pl:Nat->Option (Nat×TypeId)}:∀(ps:List (Nat×Operand))(cs:List U),(∀p∈ps,ev X s p.2=ev X s' p.2)->lM X s pl ps cs=lM X s' pl ps cs
 |[],cs,_=>rfl
 |(i,x)::ps,cs,h=>by
  have hx:=h (i,x) (by simp);simp only at hx;simp only[lM,hx];cases pl i with
  |none=>rfl
  |some ot=>simp only;congr 1;funext new;congr 1;funext cs';exact KM ps cs' (λp hp=>h p (by simp [hp]))
theorem Ly{o:Oper}{tag:Option (Nat×Bool)}(eH:∀x∈o.op.operands.toList,ev X s x=ev X s' x)(hpl:∀x,lf o=δ x->place X s tag x=place X s' tag x)(hb:∀b,rt X Rt o=δ b->s.sl.getD b .undef=s'.sl.getD b .undef)
  (Ev:∀x b off,lf o=δ x->place X s' tag x=δ (b,off)->rt X Rt o=δ b):iq X o s tag=iq X o s' tag:=by
 obtain⟨dst,op,ty,pos,af,g⟩:=o;cases op<;>simp only[iq]
 case nilCheck x=>
  rw[hpl x rfl];split
  ·rename_i b off hp;rw[hb b (Ev x b off rfl hp)]
  ·rfl
 case fieldAddr t x f=>
  rw[hpl x rfl];split
  ·rename_i b off hp;rw[hb b (Ev x b off rfl hp)]
  ·rfl
 case indexAddr t x i=>
  rw[hpl x rfl,eH i (by simp [l7])];split
  ·rename_i b off hp;rw[hb b (Ev x b off rfl hp)]
  ·rfl
theorem Gi{o:Oper}{tag:Option (Nat×Bool)}(eH:∀x∈o.op.operands.toList,ev X s x=ev X s' x)(hpl:∀x,lf o=δ x->place X s tag x=place X s' tag x)(hb:∀b,rt X Rt o=δ b->s.sl.getD b .undef=s'.sl.getD b .undef)
  (Ev:∀x b off,lf o=δ x->place X s' tag x=δ (b,off)->rt X Rt o=δ b) (hno:∀x b,lf o=δ x->rt X Rt o=δ b->place X s' tag x=μ->jM (ev X s' x)=θ) (eA:qH X Rt o=θ->soft Bt o=ξ->s.σ=s'.σ) (ahp:qH X Rt o=θ->soft Bt o=θ->nE s.σ s'.σ) (hB:∀t,Bt.contains t=θ->lO (ev X s' (.tmp t))=θ):eI X o s tag=eI X o s' tag:=by
 obtain⟨dst,op,ty,pos,af,g⟩:=o;cases op<;>simp only[eI];case move x=>rw[eH x (by simp [l7])]
 case assign x=>rw[eH x (by simp [l7])]
 case pick x y u=>rw[eH x (by simp [l7]),eH y (by simp [l7]),eH u (by simp [l7])]
 case box t x=>rw[eH x (by simp [l7])]
 case build t ps=>
  have hps:∀p∈ps.toList,ev X s p.2=ev X s' p.2:=λp hp=>eH p.2 (by simp only[l7];simp;exact⟨p.1,by simpa using hp⟩)
  split
  ·rw[KM ps.toList _ hps]
  ·rfl
 case buildSlice t n ps=>
  have hps:∀p∈ps.toList,ev X s p.2=ev X s' p.2:=λp hp=>eH p.2 (by simp only[l7];simp;exact⟨p.1,by simpa using hp⟩)
  split
  ·split
   ·rw[KM ps.toList _ hps]
   ·rfl
  ·rfl
 case load t x=>
  rw[hpl x rfl,eH x (by simp [l7])];split
  ·rename_i b off hp;rw[hb b (Ev x b off rfl hp)]
  ·rename_i hp;cases hr:rt X Rt ⟨dst,.load t x,ty,pos,af,g⟩with
   |none=>
    cases zU:soft Bt ⟨dst,.load t x,ty,pos,af,g⟩
    ·rw[eA (by simp only[qH,hr,ZP]) zU]
    ·rw[abJ (ahp (by simp only[qH,hr,ZP]) zU) (by
      cases x with
      |tmp u=>exact hB u zU
      |_=>simp [soft]at zU)]
   |some b=>rw[RU (hno x b rfl hr hp),RU (hno x b rfl hr hp)]
 case nilCheck x=>rw[eH x (by simp [l7])]
 case binOp op t x y u=>rw[eH x (by simp [l7]),eH y (by simp [l7])]
 case unOp op t x=>rw[eH x (by simp [l7])]
 case convert a b x=>rw[eH x (by simp [l7])]
 case makeFunc fn first caps=>
  have:caps.toList.map (ev X s)=caps.toList.map (ev X s'):=Zh λx hx=>eH x (by simp [l7];exact .inr (by simpa using hx))
  rw[this]
 case slice t x lo hi mx=>
  have h1:lo.map (ev X s)=lo.map (ev X s'):=by cases lo with|none=>rfl|some y=>simp only[fB];rw[eH y (by simp [l7])]
  have h2:hi.map (ev X s)=hi.map (ev X s'):=by cases hi with|none=>rfl|some y=>simp only[fB];rw[eH y (by simp [l7])]
  rw[eH x (by simp [l7]),h1,h2,eA rfl rfl];split
  ·rfl
  ·split
   ·rw[eH _ (by simp [l7]),eH _ (by simp [l7])]
   ·rfl
 case fieldAddr t x f=>rw[eH x (by simp [l7])]
 case field t x f=>rw[eH x (by simp [l7])]
 case indexAddr t x i=>rw[eH x (by simp [l7]),eH i (by simp [l7])]
 case index t x i=>rw[eH x (by simp [l7]),eH i (by simp [l7])]
 case lookup t x i ok=>rw[eH x (by simp [l7]),eH i (by simp [l7]),eA rfl rfl]
 case extract x i=>rw[eH x (by simp [l7])]
 case entry i=>rw[eH i (by simp [l7]),eA rfl rfl]
 case call c=>
  have ha:c.args.toList.map (ev X s)=c.args.toList.map (ev X s'):=Zh λx hx=>eH x (by simp [l7,amd];exact .inr (by simpa using hx))
  rw[ha,eA rfl rfl];cases hc:c.callee with
  |value f=>have hf:=eH f (by simp [l7,amd,hc]);cases f<;>simp only[hf]
  |_=>rfl
theorem Gp{σ:Heap}{b:bH}(hb:∀cs,b≠.box cs):nE σ (σ++[b]):=by
 intro id cs;by_cases h:id<σ.length
 ·rw[iV h]
 ·rw[lP (by omega),jL (by omega)];constructor
  ·intro e;cases e
  ·intro e;have:=cZ e;simp at this;exact absurd this.symm (hb cs)
theorem L5{σ:Heap}{id:Nat}{b b':bH}(hb:∀cs,b≠.box cs)(hb':∀cs,b'≠.box cs)(h:σ[id]? =δ b):nE σ (σ.set id b'):=by
 intro i cs;rw[gG];by_cases e:id=i
 ·subst e;rw[h];have hlt:=(cL.1 h).1;simp only[if_true,hlt];constructor
  ·intro e;injection e with e;exact absurd e (hb cs)
  ·intro e;injection e with e;exact absurd e (hb' cs)
 ·simp [e]
theorem yR(σ:Heap):nE σ σ:=λ_ _=>Iff.rfl
theorem acZ{ek:A.EK}{m k v:U}{σ σ':Heap}(h:A.jy ek m k v σ=δ σ'):nE σ σ':=by
 unfold A.jy at h;cases hk:A.ju ek k
 ·rw[hk]at h;cases h
 rw[hk]at h;simp only[bG]at h;split at h
 ·split at h
  ·rename_i es hg;obtain⟨es',_,e⟩:=cO.1 h;subst e;exact L5 (λcs e=>by cases e) (λcs e=>by cases e) hg
  ·cases h
 ·cases h
theorem Qc{sz most:Nat}{x r:U}{ys:List (List U)}{σ σ':Heap}(h:A.qT sz most x ys σ=δ (r,σ')):nE σ σ':=by
 unfold A.qT at h;split at h
 ·split at h
  ·injection h with h;injection h with _ h;subst h;exact yR _
  ·split at h
   ·injection h with h;injection h with _ h;subst h;exact Gp λcs e=>by cases e
   ·cases h
 ·split at h
  ·injection h with h;injection h with _ h;subst h;exact yR _
  ·split at h
   ·injection h with h;injection h with _ h;subst h;exact Gp λcs e=>by cases e
   ·cases h
 ·split at h
  ·rename_i hg;split at h
   ·split at h
    ·injection h with h;injection h with _ h;subst h;exact yR _
    ·split at h
     ·injection h with h;injection h with _ h;subst h;exact L5 (λcs e=>by cases e) (λcs e=>by cases e) hg
     ·injection h with h;injection h with _ h;subst h;exact L5 (λcs e=>by cases e) (λcs e=>by cases e) hg
   ·cases h
  ·split at h
   ·injection h with h;injection h with _ h;subst h;exact Gp λcs e=>by cases e
   ·cases h
  ·cases h
 ·cases h
theorem aaI{sz most:Nat}{x y r:U}{σ σ':Heap}(h:Z9 sz most x y σ=δ (r,σ')):nE σ σ':=by unfold Z9 at h;obtain⟨ys,_,h2⟩:=bg.1 h;exact Qc h2
theorem akn{sz most:Nat}{zs:List U}{x n r:U}{σ σ':Heap}(h:A.CZ sz most zs x n σ=δ (r,σ')):nE σ σ':=by
 unfold A.CZ at h;split at h
 ·split at h
  ·exact Qc h
  ·cases h
 ·cases h
structure Ag (X : Fx) (Rt : List (Nat × Nat)) (Bt : List Nat) (o : Oper) (ls : List Nat) (tag : Option (Nat × Bool)) (s s' : AS) : Prop where
 r1:RI X Rt Bt s
 r2:RI X Rt Bt s'
 eH:∀t∈ls,X.L.contains t=ξ->s.sl.getD t .undef=s'.sl.getD t .undef
 pl:∀t,lf o=δ (.tmp t)->place X s tag (.tmp t)=place X s' tag (.tmp t)
 bx:∀b,rt X Rt o=δ b->s.sl.getD b .undef=s'.sl.getD b .undef
 σ:qH X Rt o=θ->soft Bt o=ξ->s.σ=s'.σ
 E7:qH X Rt o=θ->soft Bt o=θ->nE s.σ s'.σ
theorem adE{tag:Option (Nat×Bool)}{x:Operand}{b off:Nat}(h:place X s tag x=δ (b,off)):X.L.contains b=θ:=by
 cases x with
 |tmp t=>
  simp only[place]at h;cases hL:X.L.contains t
  ·rw[hL]at h;simp only[aZ]at h;split at h
   ·rename_i p hA;cases hp:X.L.contains p.slot
    ·rw[hp]at h;cases h
    ·rw[hp]at h;simp only[bG]at h;split at h
     ·simp only[χ,Θ]at h;rw[<-h.1];exact hp
     ·rename_i g hg;cases ht:(tag==δ g)
      ·rw[ht]at h;cases h
      ·rw[ht]at h;simp only[bG,χ,Θ]at h;rw[<-h.1];exact hp
   ·cases h
  ·rw[hL]at h;simp only[bG,χ,Θ]at h;rw[<-h.1];exact hL
 |_=>simp [place]at h
theorem Ag.xY{o:Oper}{ls:List Nat}{tag:Option (Nat×Bool)}(h:Ag X Rt Bt o ls tag s s')(hls:∀t,Operand.tmp t∈o.op.operands.toList->t∈ls):∀x∈o.op.operands.toList,ev X s x=ev X s' x:=by
 intro x hx;cases x with
 |tmp t=>
  simp only[ev];cases hL:X.L.contains t
  ·simp only[aZ];exact h.eH t (hls t hx) hL
  ·rfl
 |_=>rfl
theorem RI.nU(h:RI X Rt Bt s):∀t,Bt.contains t=θ->lO (ev X s (.tmp t))=θ:=by
 intro t ht;simp only[ev];cases X.L.contains t
 ·exact h.b t ht
 ·rfl
theorem Ag.wF{o:Oper}{ls:List Nat}{tag:Option (Nat×Bool)}(h:Ag X Rt Bt o ls tag s s'):∀x,lf o=δ x->place X s tag x=place X s' tag x:=by
 intro x hx;cases x with
 |tmp t=>exact h.pl t hx
 |_=>rfl
def yp(X:Fx)(d:Option Nat)(v:U):Up:=⟨d,match d with|some d=>bif X.L.contains d then .undef else v|none=>.undef,μ,μ,ξ,μ⟩
def E0(X:Fx)(d:Option Nat)(σ:Heap)(v:U):Up:=⟨d,match d with|some d=>bif X.L.contains d then .undef else v|none=>.undef,μ,μ,ξ,δ σ⟩
def IF(X:Fx)(d:Option Nat)(b:Nat)(cs:List U):Up:=⟨d,match d with|some d=>bif X.L.contains d then .undef else .az []|none=>.undef,δ (b,.lbx cs),μ,ξ,μ⟩
def IE(d:Nat)(cs:List U):Up:=⟨δ d,.lbx cs,μ,μ,θ,μ⟩
def B7(X:Fx)(d:Option Nat)(b off:Nat)(tag:Option (Nat×Bool)):Up:=
 ⟨d,.undef,μ,match d with|some d=>(bif X.L.contains d||!akK d X.n then μ else match tag with|some (g,w)=>(bif g==d then μ else δ ⟨b,off,δ (g,w)⟩)|none=>δ ⟨b,off,μ⟩)|none=>μ,ξ,μ⟩
theorem Bp(d:Option Nat)(v:U)(s:AS):s.put X d v=(yp X d v).ap s:=by
 cases d with
 |none=>rfl
 |some d=>simp only[akP,Up.ap,yp,Up.sl,Xh];congr 1;funext t;simp only[Up.A,CC]
theorem iH(d:Option Nat)(v:U)(σ:Heap)(s:AS):(s.heap σ).put X d v=(E0 X d σ v).ap s:=by
 cases d with
 |none=>rfl
 |some d=>simp only[akP,AS.heap,Up.ap,E0,Up.sl,y9];congr 1;funext t;simp only[Up.A,CC]
theorem Q1(d:Option Nat)(b:Nat)(cs:List U)(s:AS):(⟨s.sl.set b (.lbx cs),s.A,s.σ⟩:AS).put X d (.az [])=(IF X d b cs).ap s:=by
 cases d with
 |none=>rfl
 |some d=>simp only[akP,Up.ap,IF,Up.sl,Xh];congr 1;funext t;simp only[Up.A,CC]
theorem Gg(d:Nat)(cs:List U)(s:AS):s.lK d cs=(IE d cs).ap s:=by simp only[AS.lK,Up.ap,IE,Up.sl,Xh];congr 1
theorem G4(d:Option Nat)(b off:Nat)(tag:Option (Nat×Bool))(s:AS):s.kC X d b off tag=(B7 X d b off tag).ap s:=by
 cases d with
 |none=>rfl
 |some d=>simp only[AS.kC,Up.ap,B7,Up.sl,Xh];congr 1;funext t;simp only[Up.A,CC];rfl
structure qp (X : Fx) (Rt : List (Nat × Nat)) (Bt : List Nat) (o : Oper) (ls : List Nat) (τ : Heap) (u : Up) : Prop where
 d:u.d=o.dst
 bx:∀b v,u.bx=δ (b,v)->X.L.contains b=θ/\wb X Rt o=δ b
 new:∀p,u.new=δ p->rL o=θ/\(∀g w,p.tag=δ (g,w)->g∈ls)/\rt X Rt o=δ p.slot/\∀d,u.d=δ d->Rt.lookup d=δ p.slot
 box:u.sF=θ->∃d,o.dst=δ d/\X.L.contains d=θ
 σ:u.σ≠μ->mY X Rt o=θ
 v:∀d b,u.d=δ d->Rt.lookup d=δ b->X.L.contains d=ξ->jM u.v=θ
 vb:∀d,u.d=δ d->Bt.contains d=θ->lO u.v=θ
 bxv:∀b v,u.bx=δ (b,v)->lO v=θ
 fr:xZ o=θ->∀σ,u.σ=δ σ->nE τ σ
def qt(X:Fx)(Rt:List (Nat×Nat))(Bt:List Nat)(o:Oper):Prop:=(∀d,o.dst=δ d->X.L.contains d=ξ->Rt.lookup d=(bif ql o then rt X Rt o else μ))/\∀d,o.dst=δ d->Bt.contains d=θ->chainB Bt o=θ
theorem qt.of{o:Oper}(h:Na X Rt o=θ)(hb:M8 Bt o=θ):qt X Rt Bt o:=by
 refine⟨λd hd hL=>?_,λd hd hc=>?_⟩
 ·unfold Na at h;rw[hd]at h;simp only[hL,WS,beq_iff_eq]at h;exact h
 ·unfold M8 at hb;rw[hd]at hb;simp only[hc,n8,WS]at hb;exact hb
theorem MK{o:Oper}{ls:List Nat}(v:U)(hR:qt X Rt Bt o)(hv:ql o=θ->∀b,rt X Rt o=δ b->jM v=θ)(OC:chainB Bt o=θ->lO v=θ){τ:Heap}:qp X Rt Bt o ls τ (yp X o.dst v):=by
 refine⟨rfl,(λb v h=>by cases h),(λp h=>by cases h),(λh=>by cases h),(λh=>absurd rfl h),λd b hd hl hL=>?_,λd hd hc=>?_,(λb v h=>by cases h),(λ_ σ h=>by cases h)⟩
 ·simp only[yp]at hd ⊢;rw[hd];simp only[hL,aZ];rw[hR.1 d hd hL]at hl;cases ha:ql o
  ·rw[ha]at hl;cases hl
  ·rw[ha]at hl;exact hv ha b hl
 ·have:=OC (hR.2 d hd hc);simp only[yp]at hd ⊢;rw[hd];simp only;cases X.L.contains d
  ·exact this
  ·rfl
theorem qi{o:Oper}{ls:List Nat}(σ:Heap)(v:U)(hR:qt X Rt Bt o)(h:mY X Rt o=θ)(hn:ql o=ξ)(hcb:chainB Bt o=ξ){τ:Heap}(hf:xZ o=θ->nE τ σ):qp X Rt Bt o ls τ (E0 X o.dst σ v):=by
 refine⟨rfl,(λb v h=>by cases h),(λp h=>by cases h),(λh=>by cases h),(λ_=>h),λd b hd hl hL=>?_,λd hd hc=>?_,(λb v h=>by cases h),(λhw σ' h=>?_)⟩
 ·simp only[E0]at hd;rw[hR.1 d hd hL,hn]at hl;cases hl
 ·have:=hR.2 d hd hc;rw[hcb]at this;cases this
 ·simp only[E0,χ]at h;subst h;exact hf hw
theorem T3{τ:Heap}{o:Oper}{ls:List Nat}{b off:Nat}{tag:Option (Nat×Bool)}(hR:qt X Rt Bt o)(ha:ql o=θ)(hr:rt X Rt o=δ b)(h:rL o=θ)(ht:∀g w,tag=δ (g,w)->g∈ls):qp X Rt Bt o ls τ (B7 X o.dst b off tag):=by
 refine⟨rfl,(λb v h=>by cases h),(λp hp=>?_),(λh=>by cases h),(λh=>absurd rfl h),(λd b hd hl hL=>rfl),(λ_ _ _=>rfl),(λb v h=>by cases h),(λ_ σ h=>by cases h)⟩
 have key:p.slot=b/\(∀g w,p.tag=δ (g,w)->g∈ls)/\∀d,o.dst=δ d->X.L.contains d=ξ:=by
  unfold B7 at hp;simp only at hp;cases hd:o.dst with
  |none=>rw[hd]at hp;cases hp
  |some d=>
   rw[hd]at hp;simp only at hp;cases hc:(X.L.contains d||!akK d X.n)
   ·rw[hc]at hp;simp only[aZ]at hp;have hL:X.L.contains d=ξ:=by simp only[iW]at hc;exact hc.1
    cases tag with
    |none=>simp only[χ]at hp;subst hp;exact⟨rfl,(λg w e=>by cases e),λd' e=>by injection e with e;rw[<-e];exact hL⟩
    |some gw=>
     obtain⟨g',w'⟩:=gw;simp only at hp;cases hg:(g'==d)
     ·rw[hg]at hp;simp only[aZ,χ]at hp;subst hp;refine⟨rfl,λg w e=>?_,λd' e=>by injection e with e;rw[<-e];exact hL⟩;simp only[χ,Θ]at e;rw[<-e.1];exact ht g' w' rfl
     ·rw[hg]at hp;cases hp
   ·rw[hc]at hp;cases hp
 refine⟨h,key.2.1,by rw[hr,key.1],λd hd=>?_⟩;have hd':o.dst=δ d:=hd;rw[hR.1 d hd' (key.2.2 d hd'),ha,bG,hr,key.1]
theorem Gf(l:List U)(d t:Nat)(v:U)(h:t≠d):(l.set d v).getD t .undef=l.getD t .undef:=by
 have h':¬d=t:=λe=>h (Eq.symm e)
 simp only[ZC,gG,aD h']
theorem M4{u:Up}{l:List U}{t:Nat}(h1:u.d≠δ t)(h2:∀b v,u.bx=δ (b,v)->t≠b):(u.sl l).getD t .undef=l.getD t .undef:=by
 unfold Up.sl;cases hd:u.d with
 |none=>
  cases hb:u.bx with
  |none=>rfl
  |some bv=>obtain⟨b,v⟩:=bv;exact Gf _ _ _ _ (h2 b v hb)
 |some d=>
  have hne:t≠d:=λe=>h1 (by rw[hd,e])
  cases hb:u.bx with
  |none=>exact Gf _ _ _ _ hne
  |some bv=>obtain⟨b,v⟩:=bv;simp only;rw[Gf _ _ _ _ hne,Gf _ _ _ _ (h2 b v hb)]
theorem qp.ri{τ:Heap}{o:Oper}{ls:List Nat}{u:Up}(h:qp X Rt Bt o ls τ u)(hs:RI X Rt Bt s):RI X Rt Bt (u.ap s):=by
 refine⟨hs.l,λt p hp=>?_,λt b ht hL=>?_,λt ht=>?_⟩
 ·have hp':u.A s.A t=δ p:=hp;unfold Up.A at hp';cases hd:u.d with
  |none=>rw[hd]at hp';exact hs.a t p hp'
  |some d=>
   rw[hd]at hp';simp only at hp';cases hc:(t==d)
   ·rw[hc]at hp';simp only[aZ]at hp';rcases Lb u.sF d (s.A t)with e|e
    ·rw[e]at hp';exact hs.a t p hp'
    ·rw[e]at hp';cases hp'
   ·rw[hc]at hp';simp only[bG]at hp';have:t=d:=by simpa using hc
    subst this;exact(h.new p hp').2.2.2 t hd
 ·show jM ((u.sl s.sl).getD t .undef)=θ;by_cases hd:u.d=δ t
  ·have hv:=h.v t b hd ht hL
   have:(u.sl s.sl).getD t .undef=u.v\/(u.sl s.sl).getD t .undef=.undef:=by
    unfold Up.sl;rw[hd];simp only[ZC];rw[gG];simp only[if_true];generalize (match u.bx with|some (b,x)=>s.sl.set b x|none=>s.sl)=q;by_cases hq:t<q.length
    ·left;simp [hq]
    ·right;simp [hq]
   rcases this with e|e
   ·rw[e];exact hv
   ·rw[e];rfl
  ·rw[M4 hd (λb' v hb e=>by have:=(h.bx b' v hb).1;rw[<-e,hL]at this;cases this)];exact hs.v t b ht hL
 ·show lO ((u.sl s.sl).getD t .undef)=θ
  have hset:∀(l:List U)(d:Nat)(v:U),(l.set d v).getD t .undef=v/\t=d\/(l.set d v).getD t .undef=l.getD t .undef\/(l.set d v).getD t .undef=.undef:=by
   intro l d v;simp only[ZC,gG];by_cases e:d=t
   ·subst e;by_cases hq:d<l.length
    ·left;simp [hq]
    ·right;right;simp [hq]
   ·right;left;simp [e]
  have rC:lO ((match u.bx with|some (b,x)=>s.sl.set b x|none=>s.sl).getD t .undef)=θ:=by
   cases hb:u.bx with
   |none=>exact hs.b t ht
   |some bv=>
    obtain⟨b,v⟩:=bv;rcases hset s.sl b v with⟨e,_⟩|e|e
    ·simp only;rw[e];exact h.bxv b v hb
    ·simp only;rw[e];exact hs.b t ht
    ·simp only;rw[e];rfl
  unfold Up.sl;generalize (match u.bx with|some (b,x)=>s.sl.set b x|none=>s.sl)=q at rC;cases hd:u.d with
  |none=>exact rC
  |some d=>
   simp only;rcases hset q d u.v with⟨e,e2⟩|e|e
   ·rw[e];exact h.vb d hd (e2▸ht)
   ·rw[e];exact rC
   ·rw[e];rfl
theorem TO{o:Oper}{tag:Option (Nat×Bool)}{p:Nat×Option Nat}(h:iq X o s tag=δ p):rL o=θ:=by obtain⟨dst,op,ty,pos,af,g⟩:=o;cases op<;>simp only[iq]at h<;>first|(cases h;done)|rfl
theorem S8{o:Oper}{tag:Option (Nat×Bool)}{p:Nat×Option Nat}(h:iq X o s tag=δ p):ql o=θ:=by obtain⟨dst,op,ty,pos,af,g⟩:=o;cases op<;>simp only[iq]at h<;>first|(cases h;done)|rfl
theorem TP(hI:RI X Rt Bt s){o:Oper}{tag:Option (Nat×Bool)}{b:Nat}{rr:Option Nat}(h:iq X o s tag=δ (b,rr)):rt X Rt o=δ b:=by
 obtain⟨dst,op,ty,pos,af,g⟩:=o;cases op<;>simp only[iq]at h<;>first|(cases h;done)|skip
 all_goals
  split at h
  ·rename_i b' off hp;simp only[χ,Θ]at h;simp only[rt,lf];rw[<-h.1];exact GD hI hp
  ·cases h
theorem S9(hI:RI X Rt Bt s){o:Oper}{tag:Option (Nat×Bool)}{v:U}(ha:ql o=θ){b:Nat}(hr:rt X Rt o=δ b)(hp:iq X o s tag=μ)(h:eI X o s tag=δ v):False:=by
 obtain⟨dst,op,ty,pos,af,g⟩:=o;have nf:∀(x:U)(n:Nat),jM x=θ->A.gY n x=μ:=λx n h=>by unfold jM at h;split at h<;>first|rfl|cases h
 have nn:∀(x:U),jM x=θ->A.um x=μ:=λx h=>by unfold jM at h;split at h<;>first|rfl|cases h
 have ni:∀(x i:U)(n:Nat),jM x=θ->XI n x i=μ:=λx i n h=>by unfold jM at h;split at h<;>first|rfl|cases h
 have na:∀(x i:U)(m n:Nat),jM x=θ->A.uj m n x i=μ:=λx i m n h=>by
  unfold jM at h;unfold A.uj;split at h<;>first|(cases h;done)|skip
  all_goals cases A.idx m i<;>rfl
 cases op<;>simp only[ql]at ha<;>first|(cases ha;done)|skip
 case nilCheck x=>
  simp only[iq]at hp;simp only[rt,lf]at hr;split at hp
  ·cases hp
  ·rename_i hpl;simp only[eI,nn _ (A9 hI hr hpl)]at h;cases h
 case fieldAddr t x f=>
  simp only[iq]at hp;simp only[rt,lf]at hr;split at hp
  ·cases hp
  ·rename_i hpl;simp only[eI]at h;split at h
   ·split at h
    ·rename_i i _;cases hz:(i.size==0)
     ·rw[hz]at h;simp only[aZ,nf _ _ (A9 hI hr hpl)]at h;cases h
     ·rw[hz]at h;cases h
    ·cases h
   ·cases h
 case indexAddr t x i=>
  simp only[iq]at hp;simp only[rt,lf]at hr;split at hp
  ·cases hp
  ·rename_i hpl;simp only[eI]at h;split at h
   ·split at h
    ·simp only[ni _ _ _ (A9 hI hr hpl)]at h;cases h
    ·cases h
   ·split at h
    ·simp only[na _ _ _ _ (A9 hI hr hpl)]at h;cases h
    ·cases h
   ·cases h
theorem jY{α β:Type}{x:Option α}{f:α->Option β}{b:β}(h:x.bind f=δ b):∃a,x=δ a/\f a=δ b:=bg.1 h
theorem Ro(hB:∀t,Bt.contains t=θ->lO (ev X s (.tmp t))=θ){o:Oper}{tag:Option (Nat×Bool)}{v:U}(hc:chainB Bt o=θ)(h:eI X o s tag=δ v):lO v=θ:=by
 obtain⟨dst,op,ty,pos,af,g⟩:=o
 have nk:∀x,lO x=θ->∀y,A.um x=δ y->lO y=θ:=λx hx y e=>by cases x<;>simp only[A.um]at e<;>first|(cases e;done)|(injection e with e;subst e;exact hx)
 have nf:∀x,lO x=θ->∀n y,A.gY n x=δ y->lO y=θ:=λx hx n y e=>by cases x<;>simp only[A.gY]at e<;>first|(cases e;done)|(cases hx;done)|(injection e with e;subst e;rfl)
 cases op<;>simp only[chainB]at hc<;>first|(cases hc;done)|skip
 case move x=>
  cases x<;>first|(cases hc;done)|skip
  simp only[eI,χ]at h;subst h;exact hB _ hc
 case assign x=>
  cases x<;>first|(cases hc;done)|skip
  simp only[eI,χ]at h;subst h;exact hB _ hc
 case nilCheck x=>
  cases x<;>first|(cases hc;done)|skip
  simp only[eI]at h;exact nk _ (hB _ hc) _ h
 case fieldAddr t x f=>
  cases x<;>first|(cases hc;done)|skip
  simp only[eI]at h;split at h
  ·split at h
   ·rename_i i _;cases hz:(i.size==0)
    ·rw[hz]at h;simp only[aZ]at h;exact nf _ (hB _ hc) _ _ h
    ·rw[hz]at h;cases h
   ·cases h
  ·cases h
theorem TM{o:Oper}{ls:List Nat}(hR:qt X Rt Bt o)(hI:RI X Rt Bt s)(hls:∀t,Operand.tmp t∈o.op.operands.toList->t∈ls){k:AS->Option R}{r:R}(h:eU X θ o s k=δ r):
  ∃u,qp X Rt Bt o ls s.σ u/\k (u.ap s)=δ r/\∀(R':Type)(k':AS->Option R')(s':AS),Ag X Rt Bt o ls μ s s'->eU X θ o s' k'=k' (u.ap s'):=by
 have xQ:∀(s':AS),RI X Rt Bt s'->∀x b off,lf o=δ x->place X s' μ x=δ (b,off)->rt X Rt o=δ b:=λs' hi x b off hx hp=>by simp only[rt,hx];exact GD hi hp
 have BK:∀(s':AS),RI X Rt Bt s'->∀x b,lf o=δ x->rt X Rt o=δ b->place X s' μ x=μ->jM (ev X s' x)=θ:=λs' hi x b hx hr hp=>by simp only[rt,hx]at hr;exact A9 hi hr hp
 unfold eU at h;cases hp:iq X o s μ with
 |some p=>
  obtain⟨b,rr⟩:=p;rw[hp]at h;simp only at h;obtain⟨off,e1,e2⟩:=jY h;subst e1;refine⟨B7 X o.dst b off μ,T3 hR (S8 hp) (TP hI hp) (TO hp) (λg w e=>by cases e),by rw[<-G4];exact e2,λR' k' s' ha=>?_⟩;have:iq X o s' μ=δ (b,δ off):=by rw[<-hp];exact(Ly (ha.xY hls) ha.wF ha.bx (xQ s' ha.r2)).symm
  unfold eU;rw[this];simp only[aA];rw[G4]
 |none=>
  rw[hp]at h;simp only at h;have hP:∀s',Ag X Rt Bt o ls μ s s'->iq X o s' μ=μ:=λs' ha=>by rw[<-hp];exact(Ly (ha.xY hls) ha.wF ha.bx (xQ s' ha.r2)).symm
  have dflt:((eI X o s μ).bind λv=>k (s.put X o.dst v))=δ r->(∀(R':Type)(k':AS->Option R')(s':AS),Ag X Rt Bt o ls μ s s'->eU X θ o s' k'=(eI X o s' μ).bind λv=>k' (s'.put X o.dst v))->
    ∃u,qp X Rt Bt o ls s.σ u/\k (u.ap s)=δ r/\∀(R':Type)(k':AS->Option R')(s':AS),Ag X Rt Bt o ls μ s s'->eU X θ o s' k'=k' (u.ap s'):=by
   intro hd hsame;obtain⟨v,e1,e2⟩:=jY hd;refine⟨yp X o.dst v,MK v hR (λha b hr=>(S9 hI ha hr hp e1).elim) (λhc=>Ro hI.nU hc e1),by rw[<-Bp];exact e2,λR' k' s' ha=>?_⟩;have:eI X o s' μ=δ v:=by rw[<-e1];exact(Gi (ha.xY hls) ha.wF ha.bx (xQ s' ha.r2) (BK s' ha.r2) ha.σ ha.E7 ha.r2.nU).symm
   rw[hsame R' k' s' ha,this,aA,Bp]
  obtain⟨dst,op,ty,pos,af,g⟩:=o;have ux:∀s',Ag X Rt Bt ⟨dst,op,ty,pos,af,g⟩ ls μ s s'->∀x∈op.operands.toList,ev X s x=ev X s' x:=λs' ha=>ha.xY hls
  have unf:∀{R':Type}(k':AS->Option R')(s':AS),Ag X Rt Bt ⟨dst,op,ty,pos,af,g⟩ ls μ s s'->iq X ⟨dst,op,ty,pos,af,g⟩ s' μ=μ:=λk' s' ha=>hP s' ha
  cases op<;>simp only at h<;>first
   |(exact absurd (show(μ:Option R)=δ r from h) (by simp))
   |exact dflt h (λR' k' s' ha=>by unfold eU;rw[hP s' ha])
   |skip
  case alloc t=>
   cases dst with
   |none=>cases h
   |some d=>
    simp only at h;cases hL:X.L.contains d
    ·rw[hL]at h;simp only[aZ]at h;cases hO:X.O.contains d
     ·rw[hO]at h;exact dflt h (λR' k' s' ha=>by unfold eU;rw[hP s' ha];simp only[hL,hO,aZ])
     ·rw[hO]at h;simp only[bG]at h;split at h
      ·rename_i cs hz;rw[iH]at h;refine⟨_,qi _ _ hR (by simp [mY,wH];simpa using hO) rfl rfl (λh=>by cases h),h,λR' k' s' ha=>?_⟩;have eA:=ha.σ (by simpa [qH]using hO) rfl;unfold eU;rw[hP s' ha];simp only[hL,hO,aZ,bG,hz,eA];rw[iH]
      ·cases h
    ·rw[hL]at h;simp only[bG]at h;split at h
     ·rename_i cs hz;rw[Gg]at h;refine⟨_,⟨rfl,(λb v h=>by cases h),(λp h=>by cases h),(λ_=>⟨d,rfl,hL⟩),(λh=>absurd rfl h),(λd' b e _ hL'=>by simp only[IE,χ]at e;rw[<-e,hL]at hL';cases hL'),(λ_ _ _=>rfl),(λb v h=>by cases h),(λ_ σ h=>by cases h)⟩,h,λR' k' s' ha=>?_⟩;unfold eU;rw[hP s' ha];simp only[hL,bG,hz];rw[Gg]
     ·cases h
  case box t x=>
   cases dst with
   |none=>cases h
   |some d=>
    simp only at h;cases hL:X.L.contains d
    ·rw[hL]at h;simp only[aZ]at h;cases hO:X.O.contains d
     ·rw[hO]at h;exact dflt h (λR' k' s' ha=>by unfold eU;rw[hP s' ha];simp only[hL,hO,aZ])
     ·rw[hO]at h;simp only[bG]at h;obtain⟨cs,e1,e2⟩:=jY h;rw[iH]at e2;refine⟨_,qi _ _ hR (by simp [mY,wH];simpa using hO) rfl rfl (λh=>by cases h),e2,λR' k' s' ha=>?_⟩;have eA:=ha.σ (by simpa [qH]using hO) rfl;have hx:=ux s' ha x (by simp [l7]);unfold eU;rw[hP s' ha];simp only[hL,hO,aZ,bG,<-hx,e1,aA,eA];rw[iH]
    ·rw[hL]at h;simp only[bG]at h;obtain⟨cs,e1,e2⟩:=jY h;rw[Gg]at e2;refine⟨_,⟨rfl,(λb v h=>by cases h),(λp h=>by cases h),(λ_=>⟨d,rfl,hL⟩),(λh=>absurd rfl h),(λd' b e _ hL'=>by simp only[IE,χ]at e;rw[<-e,hL]at hL';cases hL'),(λ_ _ _=>rfl),(λb v h=>by cases h),(λ_ σ h=>by cases h)⟩,e2,λR' k' s' ha=>?_⟩;have hx:=ux s' ha x (by simp [l7]);unfold eU;rw[hP s' ha];simp only[hL,bG,<-hx,e1,aA];rw[Gg]
  case store t x v=>
   split at h
   ·rename_i b off hpl;obtain⟨cs,e1,e2⟩:=jY h;obtain⟨new,e3,e4⟩:=jY e2;obtain⟨cs',e5,e6⟩:=jY e4;rw[Q1]at e6;have wB:rt X Rt ⟨dst,.store t x v,ty,pos,af,g⟩=δ b:=by simp only[rt,lf];exact GD hI hpl
    refine⟨_,⟨rfl,(λb' v' hb=>by simp only[IF,χ,Θ]at hb;rw[<-hb.1];exact⟨adE hpl,wB⟩),(λp h=>by cases h),(λh=>by cases h),(λh=>absurd rfl h),(λd1 b1 e hl hL=>by rw[hR.1 d1 e hL]at hl;cases hl),(λd1 e hc=>by have:=hR.2 d1 e hc;cases this),(λb1 v1 hb=>by simp only[IF,χ,Θ]at hb;rw[<-hb.2];rfl),(λ_ σ h=>by cases h)⟩,e6,λR' k' s' ha=>?_⟩;have hv:=ux s' ha v (by simp [l7]);have hpx:place X s' μ x=δ (b,off):=by rw[<-hpl];exact(ha.wF x rfl).symm
    have rC:=ha.bx b wB;unfold eU;rw[hP s' ha];simp only[hpx,<-rC,e1,aA,<-hv,e3,e5];rw[Q1]
   ·rename_i hpl;obtain⟨new,e3,e4⟩:=jY h;obtain⟨σ',e5,e6⟩:=jY e4;rw[iH]at e6
    have wB:rt X Rt ⟨dst,.store t x v,ty,pos,af,g⟩=μ:=by
     cases hr:rt X Rt ⟨dst,.store t x v,ty,pos,af,g⟩with
     |none=>rfl
     |some b=>rw[abt (BK s hI x b rfl hr hpl)]at e5;cases e5
    have hw:mY X Rt ⟨dst,.store t x v,ty,pos,af,g⟩=θ:=by simp only[mY,wB,ZP]
    refine⟨_,qi _ _ hR hw rfl rfl (λh=>by cases h),e6,λR' k' s' ha=>?_⟩;have hv:=ux s' ha v (by simp [l7]);have hx:=ux s' ha x (by simp [l7]);have eA:=ha.σ (by simp only[qH,wB,ZP]) rfl;have hpx:place X s' μ x=μ:=by rw[<-hpl];exact(ha.wF x rfl).symm
    unfold eU;rw[hP s' ha];simp only[hpx,<-hv,<-hx,e3,aA,<-eA,e5];rw[iH]
  case makeMap t rr=>
   cases rr with
   |some x=>cases h
   |none=>simp only at h;rw[iH]at h;refine⟨_,qi _ _ hR rfl rfl rfl (λ_=>Gp (λcs e=>by cases e)),h,λR' k' s' ha=>?_⟩;have eA:=ha.σ rfl rfl;unfold eU;rw[hP s' ha];simp only[<-eA];rw[iH]
  case range t x=>
   split at h
   ·rename_i kt et hd;obtain⟨es,e1,e2⟩:=jY h;rw[iH]at e2;refine⟨_,qi _ _ hR rfl rfl rfl (λh=>by cases h),e2,λR' k' s' ha=>?_⟩;have hx:=ux s' ha x (by simp [l7]);have eA:=ha.σ rfl rfl;unfold eU;rw[hP s' ha];simp only[hd,<-hx,<-eA,e1,aA];rw[iH]
   ·cases h
  case buildSlice t n ps=>
   cases dst with
   |none=>exact dflt h (λR' k' s' ha=>by unfold eU;rw[hP s' ha])
   |some d=>
    simp only at h;cases hO:X.O.contains d
    ·rw[hO]at h;exact dflt h (λR' k' s' ha=>by unfold eU;rw[hP s' ha];simp only[hO,aZ])
    ·rw[hO]at h;simp only[bG]at h;obtain⟨v,e1,e2⟩:=jY h
     have hv:∀s',Ag X Rt Bt ⟨δ d,.buildSlice t n ps,ty,pos,af,g⟩ ls μ s s'->eI X ⟨δ d,.buildSlice t n ps,ty,pos,af,g⟩ s' μ=δ v:=λs' ha=>by rw[<-e1];exact(Gi (ha.xY hls) ha.wF ha.bx (xQ s' ha.r2) (BK s' ha.r2) ha.σ ha.E7 ha.r2.nU).symm
     unfold A.BL at e2;split at e2
     ·rename_i sz es;cases hl:(es.length==0)
      ·rw[hl]at e2;simp only[aZ]at e2;rw[iH]at e2;refine⟨_,qi _ _ hR (by simp [mY,wH];simpa using hO) rfl rfl (λh=>by cases h),e2,λR' k' s' ha=>?_⟩;have eA:=ha.σ (by simpa [qH]using hO) rfl;unfold eU;rw[hP s' ha];simp only[hO,bG,hv s' ha,aA,A.BL,hl,aZ,<-eA];rw[iH]
      ·rw[hl]at e2;cases e2
     ·cases e2
  case mapUpdate t m i v=>
   split at h
   ·rename_i kt et hd;split at h
    ·rename_i ek he;obtain⟨σ',e1,e2⟩:=jY h;rw[iH]at e2;refine⟨_,qi _ _ hR rfl rfl rfl (λ_=>acZ e1),e2,λR' k' s' ha=>?_⟩;have hm:=ux s' ha m (by simp [l7]);have hi:=ux s' ha i (by simp [l7]);have hv:=ux s' ha v (by simp [l7]);have eA:=ha.σ rfl rfl;unfold eU;rw[hP s' ha];simp only[hd,he,<-hm,<-hi,<-hv,<-eA,e1,aA];rw[iH]
    ·cases h
   ·cases h
  case call c=>
   have hargs:∀s',Ag X Rt Bt ⟨dst,.call c,ty,pos,af,g⟩ ls μ s s'->c.args.toList.map (ev X s)=c.args.toList.map (ev X s'):=λs' ha=>
    Zh λx hx=>ux s' ha x (by simp [l7,amd];exact .inr (by simpa using hx))
   split at h
   ·rename_i hc;split at h
    ·rename_i t u x y h1 h2;split at h
     ·rename_i e e' hd hu;split at h
      ·rename_i i hi;cases dP:kM i
       ·rw[dP]at h;simp only[aZ]at h;obtain⟨⟨rr,σ'⟩,e1,e2⟩:=jY h;simp only at e2;rw[iH]at e2;refine⟨_,qi _ _ hR (by simp [mY,wH,hc]) rfl rfl (λ_=>aaI e1),e2,λR' k' s' ha=>?_⟩;have eA:=ha.σ rfl rfl;unfold eU;rw[hP s' ha];simp only[hc,<-hargs s' ha,h1,h2,hd,hu,hi,dP,aZ,<-eA,e1,aA];rw[iH]
       ·rw[dP]at h;cases h
      ·cases h
     ·rename_i e kk hd hu;split at h
      ·rename_i i zs hi hz;cases dP:kM i
       ·rw[dP]at h;simp only[aZ]at h;obtain⟨⟨rr,σ'⟩,e1,e2⟩:=jY h;simp only at e2;rw[iH]at e2;refine⟨_,qi _ _ hR (by simp [mY,wH,hc]) rfl rfl (λ_=>akn e1),e2,λR' k' s' ha=>?_⟩;have eA:=ha.σ rfl rfl;unfold eU;rw[hP s' ha];simp only[hc,<-hargs s' ha,h1,h2,hd,hu,hi,hz,dP,aZ,<-eA,e1,aA];rw[iH]
       ·rw[dP]at h;cases h
      ·cases h
     ·cases h
    ·cases h
   ·rename_i hc;split at h
    ·rename_i t u x y h1 h2;split at h
     ·rename_i e e' hd hu;split at h
      ·rename_i i hi;cases dP:kM i
       ·rw[dP]at h;simp only[aZ]at h;obtain⟨⟨rr,σ'⟩,e1,e2⟩:=jY h;simp only at e2;rw[iH]at e2;refine⟨_,qi _ _ hR (by simp [mY,wH,hc]) rfl rfl (λh=>by simp [xZ,hc]at h),e2,λR' k' s' ha=>?_⟩;have eA:=ha.σ rfl rfl;unfold eU;rw[hP s' ha];simp only[hc,<-hargs s' ha,h1,h2,hd,hu,hi,dP,aZ,<-eA,e1,aA];rw[iH]
       ·rw[dP]at h;cases h
      ·cases h
     ·cases h
    ·cases h
   ·rename_i hc;cases hv:eI X ⟨dst,.call c,ty,pos,af,g⟩ s μ with
    |none=>rw[hv]at h;simp [A.DA]at h
    |some v=>
     rw[hv]at h
     exact dflt (by rw[hv];exact h) (λR' k' s' ha=>by
      have hv':eI X ⟨dst,.call c,ty,pos,af,g⟩ s' μ=δ v:=by rw[<-hv];exact(Gi (ha.xY hls) ha.wF ha.bx (xQ s' ha.r2) (BK s' ha.r2) ha.σ ha.E7 ha.r2.nU).symm
      unfold eU;rw[hP s' ha];simp only[hc,hv',aA,A.DA])
   ·rename_i hc;split at h
    ·rename_i t x h1 h2;split at h
     ·rename_i e hd;split at h
      ·rename_i i zs hi hz;cases dP:kM i
       ·rw[dP]at h;simp only[aZ]at h;obtain⟨σ',e1,e2⟩:=jY h;rw[iH]at e2;refine⟨_,qi _ _ hR (by simp [mY,wH,hc]) rfl rfl (λh=>by simp [xZ,hc]at h),e2,λR' k' s' ha=>?_⟩;have eA:=ha.σ rfl rfl;unfold eU;rw[hP s' ha];simp only[hc,<-hargs s' ha,h1,h2,hd,hi,hz,dP,aZ,<-eA,e1,aA];rw[iH]
       ·rw[dP]at h;cases h
      ·cases h
     ·cases h
    ·cases h
   ·rename_i hc;split at h
    ·rename_i t u m key h1 h2;split at h
     ·rename_i kt et hd;split at h
      ·rename_i ek he;obtain⟨σ',e1,e2⟩:=jY h;rw[iH]at e2;refine⟨_,qi _ _ hR (by simp [mY,wH,hc]) rfl rfl (λh=>by simp [xZ,hc]at h),e2,λR' k' s' ha=>?_⟩;have eA:=ha.σ rfl rfl;unfold eU;rw[hP s' ha];simp only[hc,<-hargs s' ha,h1,h2,hd,he,<-eA,e1,aA];rw[iH]
      ·cases h
     ·cases h
    ·cases h
   ·rename_i b hn1 hn2 jT nW qz hc
    exact dflt h (λR' k' s' ha=>by
     unfold eU;rw[hP s' ha];simp only[hc]
     all_goals (first|rfl|(cases b<;>first|rfl|exact absurd rfl hn1|exact absurd rfl hn2|exact absurd rfl jT|exact absurd rfl nW|exact absurd rfl qz)))
   ·rename_i f hc;cases hw:X.W.contains f
    ·simp only[hw,ZQ,Bool.and_true,bG]at h;exact dflt h (λR' k' s' ha=>by unfold eU;rw[hP s' ha];simp only[hc,hw,ZQ,Bool.and_true,bG])
    ·simp only[hw,n8,Y4,aZ]at h;obtain⟨⟨rr,σ'⟩,e1,e2⟩:=jY h;simp only at e2;rw[iH]at e2;refine⟨_,qi _ _ hR (by simp only[mY,wH,hc];exact hw) rfl rfl (λh=>by simp [xZ,hc]at h),e2,λR' k' s' ha=>?_⟩;have eA:=ha.σ rfl rfl;unfold eU;rw[hP s' ha];simp only[hc,<-hargs s' ha,hw,n8,Y4,aZ,<-eA,e1,aA];rw[iH]
   ·rename_i x hnf hc;simp only[bG]at h
    exact dflt h (λR' k' s' ha=>by
     unfold eU;rw[hP s' ha];simp only[hc]
     cases x<;>first|exact absurd rfl (hnf _)|simp only[bG])
   ·cases h
end
end
section
section
variable {R : Type} {X : Fx} {Rt : List (Nat × Nat)} {Bt : List Nat} {s s' : AS} {ops : Array Oper}
theorem CS{o:Oper}{t:Nat}(h:Operand.tmp t∈o.op.operands.toList):t∈o.looksAt ops:=by unfold Oper.looksAt;refine gV.2 (.inl (Zj.2 ⟨.tmp t,h,rfl⟩))
theorem aad{o:Oper}{j d:Nat}{want:Bool}(hg:o.guard=δ (j,want))(hd:(ops[j]?).bind (·.dst)=δ d):d∈o.looksAt ops:=by unfold Oper.looksAt;refine gV.2 (.inr ?_);rw[hg];simp only[hd];simp
def BO(X:Fx)(Rt:List (Nat×Nat))(Bt:List Nat)(ops:Array Oper)(o:Oper)(s s':AS):Prop:=∀tag:Option (Nat×Bool),(∀g w,tag=δ (g,w)->g∈o.looksAt ops)->Ag X Rt Bt o (o.looksAt ops) tag s s'
theorem Ag.symm{o:Oper}{ls:List Nat}{tag:Option (Nat×Bool)}(h:Ag X Rt Bt o ls tag s s'):Ag X Rt Bt o ls tag s' s:=
 ⟨h.r2,h.r1,λt ht hL=>(h.eH t ht hL).symm,λt ht=>(h.pl t ht).symm,λb hb=>(h.bx b hb).symm,(λhr hs=>(h.σ hr hs).symm),λhr hs id cs=>(h.E7 hr hs id cs).symm⟩
theorem BO.symm{o:Oper}(h:BO X Rt Bt ops o s s'):BO X Rt Bt ops o s' s:=λtag ht=>(h tag ht).symm
theorem LG{q:Bool}{o:Oper}{f:FuncId}{l:List Operand}(h:BC X o=δ (f,l))(s:AS)(k:AS->Option R):eU X q o s k=(X.call f (l.map (ev X s)) s.σ).bind λr=>k ((s.heap r.2).put X o.dst r.1):=by
 unfold BC at h;split at h
 ·rename_i c ho;split at h
  ·rename_i f' hc;cases hw:X.W.contains f'
   ·rw[hw]at h;cases h
   ·rw[hw]at h;simp only[bG,χ,Θ]at h;obtain⟨rfl,rfl⟩:=h;unfold eU iq;simp only[ho,hc,hw,n8,Y4,aZ]
  ·cases h
 ·cases h
theorem MD{o:Oper}{k:AS->Option R}{r:R}(hR:qt X Rt Bt o)(hI:RI X Rt Bt s)(h:kE X θ ops o s k=δ r):
  ∃u,qp X Rt Bt o (o.looksAt ops) s.σ u/\k (u.ap s)=δ r/\∀(R':Type)(k':AS->Option R')(s':AS),BO X Rt Bt ops o s s'->kE X θ ops o s' k'=k' (u.ap s'):=by
 unfold kE at h;cases hg:o.guard with
 |none=>rw[hg]at h;obtain⟨u,h1,h2,h3⟩:=TM (ls:=o.looksAt ops) hR hI (λt ht=>CS ht) h;refine⟨u,h1,h2,λR' k' s' ha=>?_⟩;unfold kE;rw[hg];exact h3 R' k' s' (ha μ (λg w e=>by cases e))
 |some jw=>
  obtain⟨j,want⟩:=jw;rw[hg]at h;simp only at h;cases hd:(ops[j]?).bind (·.dst)with
  |none=>rw[hd]at h;cases h
  |some d=>
   rw[hd]at h;simp only at h;cases hb:CQ X o d
   ·rw[hb]at h;simp only[aZ]at h;have jA:=aad (ops:=ops) hg hd;have xR:∀g w,(δ (d,want):Option (Nat×Bool))=δ (g,w)->g∈o.looksAt ops:=λg w e=>by injection e with e;injection e with e _;rw[<-e];exact jA
    have Ot:X.L.contains d=ξ:=by simp only[CQ,iW]at hb;exact hb.1
    cases oW:BC X o with
    |some fa=>
     obtain⟨f,as'⟩:=fa;rw[oW]at h;simp only at h;obtain⟨rv,e1,e2⟩:=jY h
     have key:∀(x:U),s.sl.getD d .undef=x->(x=.az []\/∃c,x=.bool c/\(c==want)=ξ)\/∃c,x=.bool c/\(c==want)=θ:=by
      intro x hx;rw[hx]at e1;unfold ι at e1;split at e1
      ·rename_i c;cases hc:(c==want)
       ·exact .inl (.inr ⟨c,rfl,hc⟩)
       ·exact .inr ⟨c,rfl,hc⟩
      ·exact .inl (.inl rfl)
      ·cases e1
     rcases key _ rfl with hno|⟨c,hc,Oo⟩
     ·have hG:∀(R':Type)(x:Option R')(y:Option R'),ι (s.sl.getD d .undef) want x y=y:=by
       intro R' x y;rcases hno with hh|⟨c,hh,Oo⟩
       ·rw[hh];rfl
       ·rw[hh];simp only[ι,Oo,aZ]
      rw[hG]at e1;injection e1 with e1
      subst e1
      have Hx:ql o=ξ/\chainB Bt o=ξ:=by
       unfold BC at oW;split at oW
       ·rename_i c ho;exact⟨by simp only[ql,ho],by simp only[chainB,ho]⟩
       ·cases oW
      refine⟨yp X o.dst (.az []),MK _ hR (λha=>by rw[Hx.1]at ha;cases ha) (λha=>by rw[Hx.2]at ha;cases ha),by rw[<-Bp];exact e2,λR' k' s' ha=>?_⟩;have a:=ha _ xR;have jU:=a.eH d jA Ot;unfold kE;rw[hg];simp only[hd,hb,aZ,oW];rw[<-jU,hG,aA,<-Bp];rfl
     ·have hG:∀(R':Type)(x:Option R')(y:Option R'),ι (s.sl.getD d .undef) want x y=x:=by intro R' x y;rw[hc];simp only[ι,Oo,bG]
      have hA:eU X θ o s k=δ r:=by rw[LG oW];rw[hG]at h;exact h
      obtain⟨u,h1,h2,h3⟩:=TM (ls:=o.looksAt ops) hR hI (λt ht=>CS ht) hA;refine⟨u,h1,h2,λR' k' s' ha=>?_⟩;have a:=ha _ xR;have jU:=a.eH d jA Ot;rw[<-h3 R' k' s' (ha μ (λg w e=>by cases e)),LG oW];unfold kE;rw[hg];simp only[hd,hb,aZ,oW];rw[<-jU,hG]
    |none=>
    rw[oW]at h;simp only at h;have xQ:∀(s':AS),RI X Rt Bt s'->∀x b off,lf o=δ x->place X s' (δ (d,want)) x=δ (b,off)->rt X Rt o=δ b:=λs' hi x b off hx hp=>by simp only[rt,hx];exact GD hi hp
    have BK:∀(s':AS),RI X Rt Bt s'->∀x b,lf o=δ x->rt X Rt o=δ b->place X s' (δ (d,want)) x=μ->jM (ev X s' x)=θ:=λs' hi x b hx hr hp=>by simp only[rt,hx]at hr;exact A9 hi hr hp
    have hP:∀s',BO X Rt Bt ops o s s'->iq X o s' (δ (d,want))=iq X o s (δ (d,want)):=λs' ha=>by have a:=ha _ xR;exact(Ly (a.xY λt ht=>CS ht) a.wF a.bx (xQ s' a.r2)).symm
    cases hp:iq X o s (δ (d,want))with
    |some p=>obtain⟨b,rr⟩:=p;rw[hp]at h;simp only at h;obtain⟨off,e1,e2⟩:=jY h;subst e1;refine⟨B7 X o.dst b off (δ (d,want)),T3 hR (S8 hp) (TP hI hp) (TO hp) xR,by rw[<-G4];exact e2,λR' k' s' ha=>?_⟩;unfold kE;rw[hg];simp only[hd,hb,aZ,oW,hP s' ha,hp,aA];rw[G4]
    |none=>
     rw[hp]at h;simp only at h;obtain⟨v,e1,e2⟩:=jY h
     have hv:ql o=θ->∀b,rt X Rt o=δ b->jM v=θ:=by
      intro ha b hr;unfold ι at e1;split at e1
      ·rename_i c _;cases hc:(c==want)
       ·rw[hc]at e1;simp only[aZ,χ]at e1;subst e1;rfl
       ·rw[hc]at e1;exact(S9 hI ha hr hp e1).elim
      ·simp only[χ]at e1;subst e1;rfl
      ·cases e1
     have OC:chainB Bt o=θ->lO v=θ:=by
      intro hc;unfold ι at e1;split at e1
      ·rename_i c _;cases hc2:(c==want)
       ·rw[hc2]at e1;simp only[aZ,χ]at e1;subst e1;rfl
       ·rw[hc2]at e1;exact Ro hI.nU hc e1
      ·simp only[χ]at e1;subst e1;rfl
      ·cases e1
     refine⟨yp X o.dst v,MK v hR hv OC,by rw[<-Bp];exact e2,λR' k' s' ha=>?_⟩;have a:=ha _ xR;have hV:eI X o s' (δ (d,want))=eI X o s (δ (d,want)):=(Gi (a.xY λt ht=>CS ht) a.wF a.bx (xQ s' a.r2) (BK s' a.r2) a.σ a.E7 a.r2.nU).symm;have jU:=a.eH d jA Ot;unfold kE;rw[hg];simp only[hd,hb,aZ,oW,hP s' ha,hp,hV,<-jU,e1,aA];rw[Bp]
   ·rw[hb]at h;cases h
structure uD (X : Fx) (Rt : List (Nat × Nat)) (Bt : List Nat) (ops : Array Oper) (x y : Oper) : Prop where
 dx:∀d,x.dst=δ d->d∉y.looksAt ops
 dd:∀d,x.dst=δ d->y.dst≠δ d
 dy:∀d,y.dst=δ d->d∉x.looksAt ops
 c1:uk X Rt Bt x y=ξ
 c2:uk X Rt Bt y x=ξ
theorem uD.symm{x y:Oper}(h:uD X Rt Bt ops x y):uD X Rt Bt ops y x:=⟨h.dy,λd hd e=>h.dd d e hd,h.dx,h.c2,h.c1⟩
theorem ab3{x y:Oper}(h:indep X Rt Bt ops x y=θ):uD X Rt Bt ops x y:=by simp only[indep,dr,p9]at h;obtain⟨⟨h1,h2⟩,h3⟩:=h;obtain⟨a1,a2,a3⟩:=Oper.apart_spec h1;exact⟨a1,a2,a3,h2,h3⟩
theorem SE{x y:Oper}(h:uk X Rt Bt x y=ξ){b:Nat}(hb:wb X Rt x=δ b):rt X Rt y≠δ b:=by unfold uk at h;simp only[iW]at h;have:=h.1.1;rw[hb]at this;simpa using this
theorem GN{x y:Oper}(h:uk X Rt Bt x y=ξ){d:Nat}(hd:x.dst=δ d)(hL:X.L.contains d=θ):rt X Rt y≠δ d:=by unfold uk at h;simp only[iW]at h;have:=h.1.2;rw[hd]at this;simp only[hL,Zr]at this;simpa using this
theorem GO{x y:Oper}(h:uk X Rt Bt x y=ξ)(hw:mY X Rt x=θ):(qH X Rt y=ξ\/(soft Bt y=θ/\xZ x=θ))/\mY X Rt y=ξ:=by
 unfold uk at h;simp only[iW]at h;have:=h.2;rw[hw]at this;simp only[Zr,iW]at this;refine⟨?_,this.2⟩;cases hr:qH X Rt y
 ·exact .inl rfl
 ·have h2:=this.1;rw[hr,Zr,Xq]at h2;exact .inr (by simpa using h2)
theorem afn{x:Oper}{a:Operand}(h:lf x=δ a):a∈x.op.operands.toList:=by obtain⟨dst,op,ty,pos,af,g⟩:=x;cases op<;>simp only[lf]at h<;>first|(cases h;done)|(injection h with h;subst h;simp [l7])
theorem ahs(h:RI X Rt Bt s){x:Oper}{b:Nat}(hr:rt X Rt x=δ b)(hL:X.L.contains b=ξ):False:=by
 unfold rt at hr;split at hr
 ·rename_i a _;cases a with
  |tmp t=>
   simp only[uO]at hr;cases hc:X.L.contains t
   ·rw[hc]at hr;have:=h.l t b hr;rw[hL]at this;cases this
   ·rw[hc]at hr;simp only[bG,χ]at hr;subst hr;rw[hL]at hc;cases hc
  |_=>simp [uO]at hr
 ·cases hr
theorem UK{x:Oper}{b:Nat}(h:wb X Rt x=δ b):rt X Rt x=δ b:=by
 unfold wb at h;split at h
 ·exact h
 ·cases h
theorem Uj{τ:Heap}{x y:Oper}(h:uD X Rt Bt ops x y){u:Up}(hu:qp X Rt Bt y (y.looksAt ops) τ u)(s:AS)(hs:RI X Rt Bt s)(hτ:u.σ≠μ->nE s.σ τ):BO X Rt Bt ops x s (u.ap s):=by
 intro tag ht;have hnd:∀t,t∈x.looksAt ops->u.d≠δ t:=λt ht e=>by rw[hu.d]at e;exact h.dy t e ht
 refine⟨hs,hu.ri hs,λt htl hL=>?_,λt ya=>?_,λb hb=>?_,λhr zU=>?_,λhr zU=>?_⟩
 ·exact(M4 (hnd t htl) (λb v hb e=>by have:=(hu.bx b v hb).1;rw[<-e,hL]at this;cases this)).symm
 ·have htl:t∈x.looksAt ops:=CS (afn ya);simp only[place];cases hL:X.L.contains t
  ·simp only[aZ];show _=match u.A s.A t with|some p=>_|none=>μ
   unfold Up.A;cases hd:u.d with
   |none=>rfl
   |some d=>
    have htd:(t==d)=ξ:=by simp only[beq_eq_false_iff_ne];intro e;exact hnd t htl (by rw[hd,e])
    simp only[htd,aZ];cases hA:s.A t with
    |none=>rfl
    |some p=>
     have wB:uO X Rt (.tmp t)=δ p.slot:=by simp only[uO,hL,aZ];exact hs.a t p hA
     have hf:mN u.sF d (δ p)=lE d (δ p):=by
      cases hi:u.sF with
      |false=>exact CC d _
      |true=>
       obtain⟨d',hd',hL'⟩:=hu.box hi;have pQ:d'=d:=by rw[hu.d]at hd;rw[hd]at hd';injection hd' with e;exact e.symm
       subst pQ;unfold mN;cases hk:lE d' (δ p)with
       |none=>rfl
       |some q=>
        have hqs:q=p:=by
         simp only[lE]at hk;cases zV:p.tag with
         |none=>rw[zV]at hk;simpa using hk.symm
         |some g=>
          obtain⟨g,w⟩:=g;rw[zV]at hk;simp only at hk;cases hg:(g==d')
          ·rw[hg]at hk;simpa using hk.symm
          ·rw[hg]at hk;cases hk
        subst hqs
        have hne:(q.slot==d')=ξ:=by
         rw[beq_eq_false_iff_ne];intro e;have:rt X Rt x=δ q.slot:=by simp only[rt,ya];exact wB
         exact GN h.c2 hd' hL' (by rw[this,e])
        simp only[hne,Y4,aZ]
     rw[hf];simp only[lE];cases zV:p.tag with
     |none=>simp only[zV]
     |some gw=>
      obtain⟨g,w⟩:=gw;simp only;cases hgd:(g==d)
      ·simp only[aZ,zV]
      ·simp only[bG];have ag8:g=d:=by simpa using hgd
       have:(tag==δ (g,w))=ξ:=by rw[beq_eq_false_iff_ne];intro e;exact hnd g (ht g w e) (by rw[hd,ag8])
       rw[this];cases X.L.contains p.slot<;>rfl
  ·rfl
 ·refine(M4 (λe=>?_) (λb' v hb' e=>?_)).symm
  ·rw[hu.d]at e
   have hLb:X.L.contains b=θ:=by
    cases hc:X.L.contains b with
    |true=>rfl
    |false=>exfalso;exact ahs hs hb hc
   exact GN h.c2 e hLb hb
  ·exact SE h.c2 (hu.bx b' v hb').2 (by rw[<-e];exact hb)
 ·show s.σ=u.σ.getD s.σ;cases hs':u.σ with
  |none=>rfl
  |some σ=>
   rcases(GO h.c2 (hu.σ (by rw[hs'];intro e;cases e))).1 with this|⟨this,_⟩
   ·rw[hr]at this;cases this
   ·rw[zU]at this;cases this
 ·show nE s.σ (u.σ.getD s.σ);cases hs':u.σ with
  |none=>exact yR _
  |some σ=>
   rcases(GO h.c2 (hu.σ (by rw[hs'];intro e;cases e))).1 with this|⟨_,hf⟩
   ·rw[hr]at this;cases this
   ·exact λid cs=>(hτ (by rw[hs'];intro e;cases e) id cs).trans (hu.fr hf σ hs' id cs)
theorem adU{τ E8:Heap}{x y:Oper}(h:uD X Rt Bt ops x y){u v:Up}(hu:qp X Rt Bt x (x.looksAt ops) τ u)(hv:qp X Rt Bt y (y.looksAt ops) E8 v):u.T6 v:=by
 have half:∀{τ E8:Heap}{x y:Oper}{u v:Up},uD X Rt Bt ops x y->qp X Rt Bt x (x.looksAt ops) τ u->qp X Rt Bt y (y.looksAt ops) E8 v->(∀b a,u.bx=δ (b,a)->(∀c a',v.bx=δ (c,a')->c≠b)/\v.d≠δ b)/\(∀d,v.d=δ d->mN v.sF d u.new=u.new):=by
  intro τ E8 x y u v h hu hv;refine⟨λb a hb=>?_,λd hd=>?_⟩
  ·obtain⟨k1,k2⟩:=hu.bx b a hb;refine⟨λc a' hc e=>?_,λe=>?_⟩
   ·have:=(hv.bx c a' hc).2;subst e;exact SE h.c1 k2 (UK this)
   ·rw[hv.d]at e;exact GN h.c2 e k1 (UK k2)
  ·cases hn:u.new with
   |none=>rfl
   |some p=>
    obtain⟨k1,k2,k3,k4⟩:=hu.new p hn
    have hkt:lE d (δ p)=δ p:=by
     simp only[lE];cases zV:p.tag with
     |none=>rfl
     |some gw=>
      obtain⟨g,w⟩:=gw;simp only
      have:(g==d)=ξ:=by rw[beq_eq_false_iff_ne];intro e;rw[hv.d]at hd;exact h.dy d hd (e▸k2 g w zV)
      rw[this];rfl
    unfold mN;rw[hkt];simp only;cases hi:v.sF with
    |false=>rfl
    |true=>
     obtain⟨d',hd',hL'⟩:=hv.box hi;have pQ:d'=d:=by rw[hv.d]at hd;rw[hd]at hd';injection hd' with e;exact e.symm
     subst pQ
     have:(p.slot==d')=ξ:=by rw[beq_eq_false_iff_ne];intro e;exact GN h.c2 hd' hL' (by rw[k3,e])
     simp only[this,Y4,aZ]
 obtain⟨a1,a2⟩:=half h hu hv;obtain⟨b1,b2⟩:=half h.symm hv hu;refine⟨λd hd e=>?_,a1,b1,a2,b2,?_⟩
 ·rw[hu.d]at hd;rw[hv.d]at e;exact h.dd d hd e
 ·cases hs:u.σ with
  |none=>exact .inl rfl
  |some σ=>
   right;have hw:=hu.σ (by rw[hs];intro e;cases e);have Wl:=(GO h.c1 hw).2;cases hs2:v.σ with
   |none=>rfl
   |some σ2=>rw[hv.σ (by rw[hs2];intro e;cases e)]at Wl;cases Wl
theorem Rp{o:Oper}{k:AS->Option R}{r:R}(ho:qt X Rt Bt o):∀(l1 l2:List Oper)(s:AS),RI X Rt Bt s->(∀y∈l1,qt X Rt Bt y)->(∀y∈l1,uD X Rt Bt ops y o)->pM X θ ops (l1++o::l2) s k=δ r->kE X θ ops o s (λs1=>pM X θ ops (l1++l2) s1 k)=δ r
 |[],l2,s,_,_,_,h=>h
 |y::l1,l2,s,hs,hr,hi,h=>by
  simp only[kN,pM]at h;obtain⟨u,u1,u2,u3⟩:=MD (hr y (by simp)) hs h;have ih:=Rp ho l1 l2 (u.ap s) (u1.ri hs) (λz hz=>hr z (by simp [hz])) (λz hz=>hi z (by simp [hz])) u2;obtain⟨v,v1,v2,v3⟩:=MD ho (u1.ri hs) ih;have hy:=hi y (by simp)
  have Ek:v.σ≠μ->nE s.σ (u.ap s).σ:=λhv=>by
   have hnu:u.σ=μ:=by
    cases hu:u.σ with
    |none=>rfl
    |some σ=>have hw:=(GO hy.c1 (u1.σ (by rw[hu];intro e;cases e))).2;rw[v1.σ hv]at hw;cases hw
   show nE s.σ (u.σ.getD s.σ);rw[hnu];exact yR _
  rw[v3 R _ s (Uj hy.symm u1 s hs (λ_=>yR _)).symm];simp only[kN,pM];rw[u3 R _ (v.ap s) (Uj hy v1 s hs Ek),Up.comm (adU hy u1 v1)];exact v2
def Down(ops:Array Oper)(S:Nat->Prop):Prop:=∀i o e,S i->ops[i]? =δ o->e∈o.after->Zl .any e=θ->S e.on
def HJ(ops:Array Oper)(i:Nat)(S:Nat->Prop):Prop:=∀o e,ops[i]? =δ o->e∈o.after->Zl .any e=θ->S e.on
theorem R4(acc:List Nat):∀(es:List Edge)(m j:Nat),(es.foldl (λs e=>bif Zl .any e then s ||| 2 ^ e.on ||| acc.getD e.on 0 else s) m).testBit j=θ->
  m.testBit j=θ\/∃e∈es,Zl .any e=θ/\(e.on=j\/(acc.getD e.on 0).testBit j=θ)
 |[],m,j,h=>.inl h
 |e::es,m,j,h=>by
  simp only[List.foldl_cons]at h;rcases R4 acc es _ j h with h|⟨e',he',hb,hx⟩
  ·cases hb:Zl .any e
   ·rw[hb]at h;exact .inl h
   ·rw[hb]at h;simp only[bG,Nat.testBit_or,YW]at h;rcases h with(h|h)|h
    ·exact .inl h
    ·refine .inr ⟨e,by simp,hb,.inl ?_⟩;rw[Nat.testBit_two_pow]at h;simpa using h
    ·exact .inr ⟨e,by simp,hb,.inr h⟩
  ·exact .inr ⟨e',by simp [he'],hb,hx⟩
theorem RQ:∀(l:List Oper)(acc:List Nat),(∀i,l[i]? =ops[acc.length+i]?)->
  (∀(m j:Nat),(acc.getD m 0).testBit j=θ->∀S,Down ops S->HJ ops m S->S j)->
  ∀(m j:Nat),((Hv l acc).getD m 0).testBit j=θ->∀S,Down ops S->HJ ops m S->S j
 |[],acc,hl,hacc=>hacc
 |o::l,acc,hl,hacc=>by
  simp only[Hv];refine RQ l _ (λi=>by have:=hl (i+1);simp at this;rw[this];simp;congr 1;omega) ?_;intro m j h S hS hD;have h0:=hl 0;simp at h0;by_cases hm:m<acc.length
  ·rw[ZC,iV hm]at h;exact hacc m j h S hS hD
  ·by_cases hm2:m=acc.length
   ·subst hm2;rw[ZC,jL (bL _)]at h;simp only[alV,Z3,y9]at h;rcases R4 acc _ _ j h with h|⟨e,he,hb,hx⟩
    ·simp at h
    ·have hon:S e.on:=hD o e h0.symm (by simpa using he) hb;rcases hx with hx|hx
     ·exact hx▸hon
     ·exact hacc e.on j hx S hS (λo' e' ho' he' hb'=>hS e.on o' e' hon ho' he' hb')
   ·rw[ZC,jL (by omega),lP (by simp;omega)]at h;simp at h
theorem QG{DZ:List Nat}:∀(l:List Oper)(i:Nat),(∀j,l[j]? =ops[i+j]?)->GX X Rt Bt ops DZ l i=θ->∀n o,i<=n->ops[n]? =δ o->∀m y,m<n->ops[m]? =δ y->(DZ.getD n 0).testBit m=θ\/indep X Rt Bt ops y o=θ
 |[],i,hl,_,n,o,hn,ho,m,y,hm,hy=>by have:=hl (n-i);rw[show i+(n-i)=n by omega,ho]at this;simp at this
 |x::l,i,hl,h,n,o,hn,ho,m,y,hm,hy=>by
  simp only[GX,dr]at h;by_cases hni:n=i
  ·subst hni;have h0:=hl 0;simp at h0;rw[ho]at h0;injection h0 with h0;subst h0
   have:=nM.1 h.1 (y,m) (by
    rw[List.mem_zipIdx_iff_getElem?];simp only;rw[ZU hm,Zq]
    exact hy)
   simpa using this
  ·exact QG l (i+1) (λj=>by have:=hl (j+1);simp at this;rw[this];congr 1;omega) h.2 n o (by omega) ho m y hm hy
theorem QZ:∀(l:List Oper)(i:Nat),(∀j,l[j]? =ops[i+j]?)->G5 l i=θ->∀n o e,i<=n->ops[n]? =δ o->e∈o.after->Zl .any e=θ->e.on<n
 |[],i,hl,_,n,o,e,hn,ho,he,hb=>by have:=hl (n-i);rw[show i+(n-i)=n by omega,ho]at this;simp at this
 |x::l,i,hl,h,n,o,e,hn,ho,he,hb=>by
  simp only[G5,dr]at h;by_cases hni:n=i
  ·subst hni;have h0:=hl 0;simp at h0;rw[ho]at h0;injection h0 with h0;subst h0
   have:=nM.1 h.1 e (by simpa using he);rw[hb]at this;simpa [Nat.blt_eq]using this
  ·exact QZ l (i+1) (λj=>by have:=hl (j+1);simp at this;rw[this];congr 1;omega) h.2 n o e (by omega) ho he hb
def nP(listed:Array Bool)(n:Nat):List Nat:=(List.range n).filter λi=>!listed.getD i θ
def vU(ops:Array Oper)(listed:Array Bool):List Oper:=(nP listed ops.size).filterMap (ops[·]?)
theorem abi{listed:Array Bool}{n i:Nat}(hi:i<n)(hl:listed.getD i θ=ξ)(hs:listed.size=n):
  ∃l1 l2,nP listed n=l1++i::l2/\nP (listed.setIfInBounds i θ) n=l1++l2/\∀j∈l1,j<i/\listed.getD j θ=ξ:=by
 refine⟨(List.range i).filter λj=>!listed.getD j θ,((YT (i+1) (n-i-1))).filter λj=>!listed.getD j θ,?_,?_,λj hj=>?_⟩
 ·unfold nP
  rw[show List.range n=List.range i++i::YT (i+1) (n-i-1) by
   rw[YC,YC,<-alK,show n-i-1+1=n-i by omega];have:=List.range'_append_1 (s:=0) (m:=i) (n:=n-i);rw[show 0+i=i by omega,show i+(n-i)=n by omega]at this
   exact this.symm]
  rw[List.filter_append,aml,hl];simp
 ·unfold nP
  rw[show List.range n=List.range i++i::YT (i+1) (n-i-1) by
   rw[YC,YC,<-alK,show n-i-1+1=n-i by omega];have:=List.range'_append_1 (s:=0) (m:=i) (n:=n-i);rw[show 0+i=i by omega,show i+(n-i)=n by omega]at this
   exact this.symm]
  rw[List.filter_append,aml];have hset:(listed.setIfInBounds i θ).getD i θ=θ:=by simp [alh,hs,hi]
  rw[hset];simp only[n8,Φ,if_false];congr 1
  ·apply List.filter_congr;intro j hj;have:j<i:=by simpa using hj
   rw[kY,kY,Zn (by omega)]
  ·apply List.filter_congr;intro j hj;have:i<j:=by simp at hj;omega
   rw[kY,kY,Zn (by omega)]
 ·rw[Yk]at hj;exact⟨by simpa using hj.1,by simpa using hj.2⟩
end
end
section
open Go.RowKit
section
variable {X : Fx} {z : Z} {s : AS} {a : Act} {w w' : World} {E : List Pl} {pb : Nat -> Option Nat} {R : Type}
theorem GK(h:St X z s a w E pb){d:Nat}{av:U}(zQ:s.sl.getD d .undef=av)(h1:av≠.undef)(h2:∀cs,av≠.lbx cs):∃v,a.tmps[d]? =δ v/\a.tmps.getD d undef=v/\an (ctx z w E pb) av v:=by
 by_cases hd:d<s.sl.length
 ·have e:s.sl[d]? =δ av:=by rw[bT hd];rw[<-zQ];simp [ZC,hd]
  have r:=(h.slot d av e).rep h2;have hd':d<a.tmps.size:=by rw[h.len];exact hd
  exact⟨a.tmps.getD d undef,by simp [alh,hd'],rfl,r⟩
 ·exact absurd (by rw[<-zQ];simp [ZC,Nat.le_of_not_lt hd]) h1
theorem afQ(hs:fc X)(h:St X z s a w E pb){q:Bool}{ops:Array Oper}{i:Nat}{o:Oper}(hi:ops[i]? =δ o){k:AS->Option R}{r:R}(hk:kE X q ops o s k=δ r){K:Act->World->Prop}{Q:Exit->Act->World->Prop}
  (hK:∀s' a' w' E' bD,St X z s' a' w' E' bD->k s'=δ r->K a' w'):wpOp X.P ops Q i K a w:=by
 unfold wpOp;rw[hi];simp only;unfold kE at hk;cases hg:o.guard with
 |none=>rw[hg]at hk;rw[aE (by simp [YY,hg])];exact .inl (TN hs h hk hK)
 |some jw=>
  obtain⟨j,want⟩:=jw;rw[hg]at hk;simp only at hk;cases hd:(ops[j]?).bind (·.dst)with
  |none=>rw[hd]at hk;cases hk
  |some d=>
   rw[hd]at hk;simp only at hk;cases hL:CQ X o d
   ·rw[hL]at hk;simp only[aZ]at hk;have xA:YY o (yielded ops a.tmps)=(yielded ops a.tmps j==δ want):=by simp [YY,hg]
    have hy:yielded ops a.tmps j=match a.tmps[d]? with|some (.bool b)=>δ b|_=>μ:=by simp only[yielded,hd,aA];rfl
    cases oW:BC X o with
    |some fa=>
     obtain⟨f,as'⟩:=fa;rw[oW]at hk;simp only at hk;obtain⟨rv,e1,e2⟩:=bg.1 hk;generalize jU:s.sl.getD d .undef=gv at e1;cases gv<;>simp only[ι]at e1<;>first|(cases e1;done)|skip
     case bool b=>
      obtain⟨v,v1,v2,v3⟩:=GK h jU (by intro e;cases e) (by intro cs e;cases e);simp only[an]at v3;subst v3;cases sY:(b==want)
      ·rw[sY]at e1;simp only[aZ]at e1;injection e1 with e1;subst e1
       have hw:¬YY o (yielded ops a.tmps)=θ:=by rw[xA,hy,v1];simp at sY ⊢;exact sY
       rw[aD hw];exact hK _ _ _ _ _ (h.undef o.dst) e2
      ·rw[sY]at e1;simp only[bG]at e1;have HU:b=want:=by simpa using sY
       have hw:YY o (yielded ops a.tmps)=θ:=by rw[xA,hy,v1];simp [HU]
       rw[aE hw];exact .inl (TN (q:=q) hs h (by rw[LG oW,e1];exact e2) hK)
     case az vs=>
      cases vs with
      |cons x xs=>cases e1
      |nil=>
       injection e1 with e1;subst e1
       obtain⟨v,v1,v2,v3⟩:=GK h jU (by intro e;cases e) (by intro cs e;cases e);simp only[an]at v3;obtain⟨us,rfl,_⟩:=v3;have hw:¬YY o (yielded ops a.tmps)=θ:=by rw[xA,hy,v1];simp
       rw[aD hw];exact hK _ _ _ _ _ (h.undef o.dst) e2
    |none=>
    rw[oW]at hk;simp only at hk;cases hp:iq X o s (δ (d,want))with
    |some p=>
     obtain⟨b,rr⟩:=p;rw[hp]at hk;simp only at hk;obtain⟨off,e1,e2⟩:=bg.1 hk;subst e1;by_cases hw:YY o (yielded ops a.tmps)=θ
     ·rw[aE hw]
      have ht:nI a (δ (d,want)):=by
       rw[xA,hy]at hw;simp only[nI];split at hw
       ·rename_i b' hb';simp at hw;subst hw;rw[kY,hb'];rfl
       ·simp at hw
      obtain⟨n,k1,k2⟩:=TQ h ht hp;exact .inl (nC k2 (hK _ _ _ _ _ (h.Nc o.dst (λ_=>⟨n,k1,rfl⟩)) e2))
     ·rw[aD hw];refine hK _ _ _ _ _ (h.Nc o.dst (λht=>absurd ?_ hw)) e2;rw[xA,hy];simp only[nI]at ht;rw[kY]at ht;cases hc:a.tmps[d]? with
      |none=>rw[hc]at ht;simp [undef]at ht
      |some v=>rw[hc]at ht;simp at ht;subst ht;simp
    |none=>
     rw[hp]at hk;simp only at hk;obtain⟨av,e1,e2⟩:=bg.1 hk;generalize jU:s.sl.getD d .undef=gv at e1;cases gv<;>simp only[ι]at e1<;>first|(cases e1;done)|skip
     case bool b=>
      obtain⟨v,v1,v2,v3⟩:=GK h jU (by intro e;cases e) (by intro cs e;cases e);simp only[an]at v3;subst v3;cases sY:(b==want)
      ·rw[sY]at e1;simp only[aZ]at e1;injection e1 with e1;subst e1
       have hw:¬YY o (yielded ops a.tmps)=θ:=by rw[xA,hy,v1];simp at sY ⊢;exact sY
       rw[aD hw];exact hK _ _ _ _ _ (h.undef o.dst) e2
      ·rw[sY]at e1;simp only[bG]at e1;have HU:b=want:=by simpa using sY
       have hw:YY o (yielded ops a.tmps)=θ:=by rw[xA,hy,v1];simp [HU]
       rw[aE hw];have ht:nI a (δ (d,want)):=by simp only[nI];rw[v2,HU]
       exact .inl (TR hs h ht e1 λv w' E' h3 h4=>hK _ _ _ _ _ (h3.put o.dst h4) e2)
     case az vs=>
      cases vs with
      |cons x xs=>cases e1
      |nil=>
       injection e1 with e1;subst e1
       obtain⟨v,v1,v2,v3⟩:=GK h jU (by intro e;cases e) (by intro cs e;cases e);simp only[an]at v3;obtain⟨us,rfl,_⟩:=v3;have hw:¬YY o (yielded ops a.tmps)=θ:=by rw[xA,hy,v1];simp
       rw[aD hw];exact hK _ _ _ _ _ (h.undef o.dst) e2
   ·rw[hL]at hk;cases hk
def Fr(X:Fx)(ds:List Nat)(s s':AS):Prop:=∀i,i∉ds->X.L.contains i=ξ->s'.sl[i]? =s.sl[i]?
theorem Fr.refl(ds:List Nat)(s:AS):Fr X ds s s:=λ_ _ _=>rfl
theorem Fr.trans{d1 d2:List Nat}{s s' s'':AS}(h:Fr X d1 s s')(k:Fr X d2 s' s''):Fr X (d1++d2) s s'':=λi hi hL=>by rw[gV]at hi;exact(k i (λe=>hi (.inr e)) hL).trans (h i (λe=>hi (.inl e)) hL)
theorem Fr.mono{d1 d2:List Nat}{s s':AS}(h:Fr X d1 s s')(k:∀i∈d1,i∈d2):Fr X d2 s s':=λi hi hL=>h i (λe=>hi (k i e)) hL
theorem Fr.put(d:Option Nat)(v:U)(s:AS):Fr X d.toList s (s.put X d v):=λi hi hL=>by
 cases d with
 |none=>rfl
 |some d=>simp only[akP];rw[gG,aD];intro e;subst e;simp at hi
theorem Fr.kC(d:Option Nat)(b off:Nat)(tag:Option (Nat×Bool))(s:AS):Fr X d.toList s (s.kC X d b off tag):=λi hi hL=>by
 cases d with
 |none=>rfl
 |some d=>simp only[AS.kC];rw[gG,aD];intro e;subst e;simp at hi
theorem Fr.lK(d:Nat)(cs:List U)(s:AS):Fr X [d] s (s.lK d cs):=λi hi hL=>by simp only[AS.lK];rw[gG,aD];intro e;subst e;simp at hi
theorem Fr.mq(d:Option Nat)(v:U)(σ:Heap)(s:AS):Fr X d.toList s ((s.heap σ).put X d v):=λi hi hL=>by
 cases d with
 |none=>rfl
 |some d=>simp only[akP,AS.heap];rw[gG,aD];intro e;subst e;simp at hi
theorem Fr.afo(d:Option Nat)(v:U)(b:Nat)(cs:List U)(hb:X.L.contains b=θ)(s:AS):Fr X d.toList s ((⟨s.sl.set b (.lbx cs),s.A,s.σ⟩:AS).put X d v):=λi hi hL=>by
 have Wh:b≠i:=λe=>by rw[e,hL]at hb;cases hb
 cases d with
 |none=>simp only[akP];rw[gG,aD Wh]
 |some d=>simp only[akP];rw[gG,aD,gG,aD Wh];intro e;subst e;simp at hi
theorem aeU{tag:Option (Nat×Bool)}{x:Operand}{b off:Nat}(h:place X s tag x=δ (b,off)):X.L.contains b=θ:=by
 cases x with
 |tmp t=>
  simp only[place]at h;cases hL:X.L.contains t
  ·rw[hL]at h;simp only[aZ]at h;split at h
   ·rename_i p hA;cases hp:X.L.contains p.slot
    ·rw[hp]at h;cases h
    ·rw[hp]at h;simp only[bG]at h;split at h
     ·simp only[χ,Θ]at h;rw[<-h.1];exact hp
     ·rename_i g hg;cases ht:(tag==δ g)
      ·rw[ht]at h;cases h
      ·rw[ht]at h;simp only[bG,χ,Θ]at h;rw[<-h.1];exact hp
   ·cases h
  ·rw[hL]at h;simp only[bG,χ,Θ]at h;rw[<-h.1];exact hL
 |_=>simp [place]at h
theorem bind_congr{α β:Type}{x:Option α}{f g:α->Option β}(h:∀a,x=δ a->f a=g a):x.bind f=x.bind g:=by cases x with|none=>rfl|some a=>exact h a rfl
theorem aaQ{x:U}{σ:Heap}{f g:Nat->Heap->Option R}(h:∀n σ,f n σ=g n σ):A.DB x σ f=A.DB x σ g:=by
 have:f=g:=funext λn=>funext λσ=>h n σ
 rw[this]
theorem aae{x:U}{σ:Heap}{f g:U->Heap->Option R}(h:∀v σ,f v σ=g v σ):A.xB x σ f=A.xB x σ g:=by
 have:f=g:=funext λn=>funext λσ=>h n σ
 rw[this]
theorem aa4{q str:Bool}{i:Operand}{dst:Option Nat}{k k2:AS->Option R}(h:∀s',Fr X dst.toList s s'->k s'=k2 s'):
  (bif q||str then μ else A.xB (ev X s i) s.σ λv σ=>k ((s.heap σ).put X dst v))=(bif q||str then μ else A.xB (ev X s i) s.σ λv σ=>k2 ((s.heap σ).put X dst v)):=by
 cases(q||str)
 ·simp only[aZ];exact aae λ_ _=>h _ (Fr.mq _ _ _ _)
 ·rfl
theorem acj{q:Bool}{o:Oper}{k k2:AS->Option R}(h:∀s',Fr X o.dst.toList s s'->k s'=k2 s'):eU X q o s k=eU X q o s k2:=by
 unfold eU;cases hp:iq X o s μ with
 |some p=>obtain⟨b,rr⟩:=p;exact bind_congr λp _=>h _ (Fr.kC _ _ _ _ _)
 |none=>
  simp only;have dflt:((eI X o s μ).bind λv=>k (s.put X o.dst v))=(eI X o s μ).bind λv=>k2 (s.put X o.dst v):=bind_congr λv _=>h _ (Fr.put _ _ _)
  obtain⟨dst,op,ty,pos,af,g⟩:=o;cases op<;>simp only<;>first|exact aa4 h|exact dflt|skip
  case alloc t=>
   cases dst with
   |none=>rfl
   |some d=>
    simp only;cases X.L.contains d
    ·simp only[aZ];cases X.O.contains d
     ·exact dflt
     ·simp only[bG];split
      ·exact h _ (Fr.mq _ _ _ _)
      ·rfl
    ·simp only[bG];split
     ·exact h _ (Fr.lK _ _ _)
     ·rfl
  case box t x=>
   cases dst with
   |none=>rfl
   |some d=>
    simp only;cases X.L.contains d
    ·simp only[aZ];cases X.O.contains d
     ·exact dflt
     ·exact bind_congr λcs _=>h _ (Fr.mq _ _ _ _)
    ·exact bind_congr λcs _=>h _ (Fr.lK _ _ _)
  case store t x v=>
   split
   ·rename_i b off hpl;exact bind_congr λ_ _=>bind_congr λ_ _=>bind_congr λ_ _=>h _ (Fr.afo _ _ _ _ (aeU hpl) _)
   ·exact bind_congr λ_ _=>bind_congr λ_ _=>h _ (Fr.mq _ _ _ _)
  case makeMap t rr=>
   cases rr with
   |none=>exact h _ (Fr.mq _ _ _ _)
   |some x=>rfl
  case range t x=>
   split
   ·exact bind_congr λ_ _=>h _ (Fr.mq _ _ _ _)
   ·rfl
  case buildSlice t n ps=>
   cases dst with
   |none=>exact dflt
   |some d=>
    simp only;cases X.O.contains d
    ·exact dflt
    ·simp only[bG];refine bind_congr λv _=>?_
     unfold A.BL;split
     ·cases(List.length _==0)
      ·exact h _ (Fr.mq _ _ _ _)
      ·rfl
     ·rfl
  case mapUpdate t m i v=>
   split
   ·split
    ·exact bind_congr λ_ _=>h _ (Fr.mq _ _ _ _)
    ·rfl
   ·rfl
  case call c=>
   split
   ·split
    ·split
     ·split
      ·cases kM _
       ·exact bind_congr λ_ _=>h _ (Fr.mq _ _ _ _)
       ·rfl
      ·rfl
     ·split
      ·cases kM _
       ·exact bind_congr λ_ _=>h _ (Fr.mq _ _ _ _)
       ·rfl
      ·rfl
     ·rfl
    ·rfl
   ·split
    ·split
     ·split
      ·cases kM _
       ·exact bind_congr λ_ _=>h _ (Fr.mq _ _ _ _)
       ·rfl
      ·rfl
     ·rfl
    ·rfl
   ·cases hv:eI X _ s μ
    ·simp only[A.DA];cases q
     ·simp only[aZ];split
      ·split
       ·exact aaQ λ_ _=>h _ (Fr.mq _ _ _ _)
       ·rfl
      ·rfl
     ·rfl
    ·exact h _ (Fr.put _ _ _)
   ·split
    ·split
     ·split
      ·cases kM _
       ·exact bind_congr λ_ _=>h _ (Fr.mq _ _ _ _)
       ·rfl
      ·rfl
     ·rfl
    ·rfl
   ·split
    ·split
     ·split
      ·exact bind_congr λ_ _=>h _ (Fr.mq _ _ _ _)
      ·rfl
     ·rfl
    ·rfl
   ·exact dflt
   ·cases(q&&!X.W.contains _)
    ·exact bind_congr λ_ _=>h _ (Fr.mq _ _ _ _)
    ·exact dflt
   ·cases q
    ·exact bind_congr λ_ _=>h _ (Fr.mq _ _ _ _)
    ·exact dflt
   ·rfl
theorem ack{q:Bool}{ops:Array Oper}{o:Oper}{k k2:AS->Option R}(h:∀s',Fr X o.dst.toList s s'->k s'=k2 s'):kE X q ops o s k=kE X q ops o s k2:=by
 unfold kE;split
 ·exact acj h
 ·split
  ·cases CQ X o _
   ·simp only[aZ];split
    ·exact bind_congr λ_ _=>h _ (Fr.mq _ _ _ _)
    ·split
     ·exact bind_congr λ_ _=>h _ (Fr.kC _ _ _ _ _)
     ·exact bind_congr λ_ _=>h _ (Fr.put _ _ _)
   ·rfl
  ·rfl
theorem S7(hs:fc X)(h:St X z s a w E pb){q:Bool}{ops:Array Oper}{i:Nat}{o:Oper}(hi:ops[i]? =δ o){k:AS->Option R}{r:R}(hk:kE X q ops o s k=δ r){K:Act->World->Prop}{Q:Exit->Act->World->Prop}
  (hK:∀s' a' w' E' bD,St X z s' a' w' E' bD->Fr X o.dst.toList s s'->k s'=δ r->K a' w'):wpOp X.P ops Q i K a w:=by
 classical
 have e:kE X q ops o s k=kE X q ops o s (λs'=>if Fr X o.dst.toList s s' then k s' else μ):=ack λs' hf=>by rw[aE hf]
 rw[e]at hk;refine afQ hs h hi hk λs' a' w' E' bD h' hk'=>?_
 split at hk'
 ·exact hK s' a' w' E' bD h' (by assumption) hk'
 ·cases hk'
theorem Ta(hs:fc X){q:Bool}{ops:Array Oper}{Q:Exit->Act->World->Prop}{r:R}{k:AS->Option R}{s0:AS}:
  ∀(l:List Oper)(i:Nat)(s:AS)(a:Act)(w:World)(E:List Pl)(pb:Nat->Option Nat),(∀j,l[j]? =ops[i+j]?)->St X z s a w E pb->pM X q ops l s k=δ r->
   (∀s' a' w' E' bD,St X z s' a' w' E' bD->Fr X (l.filterMap (·.dst)) s s'->k s'=δ r->Q .normal a' w')->wpOps X.P ops Q (YT i l.length) a w
 |[],i,s,a,w,E,pb,_,h,hk,hQ=>by simpa [wpOps]using hQ _ _ _ _ _ h (Fr.refl _ _) hk
 |o::l,i,s,a,w,E,pb,hl,h,hk,hQ=>by
  have h0:=hl 0;simp at h0;simp only[l8,alK];rw[wpOps_cons];refine S7 hs h h0.symm hk λs' a' w' E' bD h' hf hk'=>?_
  refine Ta hs (s0:=s0) l (i+1) s' a' w' E' bD (λj=>by have:=hl (j+1);simp at this;rw[this];congr 1;omega) h' hk' λs2 a2 w2 E2 ON h2 wq hk2=>hQ s2 a2 w2 E2 ON h2 ((hf.trans wq).mono ?_) hk2
  intro j hj;rw[ala];cases hd:o.dst with
  |none=>rw[hd]at hj;simpa using hj
  |some d=>rw[hd]at hj;simpa using hj
theorem aeQ(hs:fc X){Rt:List (Nat×Nat)}{Bt:List Nat}(h:St X z s a w E pb)(hI:RI X Rt Bt s){ops:Array Oper}{i:Nat}{o:Oper}(hR:qt X Rt Bt o)(hi:ops[i]? =δ o){k:AS->Option R}{r:R}(hk:kE X θ ops o s k=δ r){K:Act->World->Prop}{Q:Exit->Act->World->Prop}
  (hK:∀s' a' w' E' bD,St X z s' a' w' E' bD->Fr X o.dst.toList s s'->RI X Rt Bt s'->k s'=δ r->K a' w'):wpOp X.P ops Q i K a w:=by
 classical
 have e:kE X θ ops o s (λs'=>if RI X Rt Bt s' then k s' else μ)=δ r:=by obtain⟨u,h1,h2,h3⟩:=MD hR hI hk;rw[h3 R _ s (λtag _=>⟨hI,hI,λ_ _ _=>rfl,λ_ _=>rfl,λ_ _=>rfl,λ_ _=>rfl,λ_ _=>yR _⟩),aE (h1.ri hI)];exact h2
 refine S7 hs h hi e λs' a' w' E' bD h' hf hk'=>?_
 split at hk'
 ·exact hK s' a' w' E' bD h' hf (by assumption) hk'
 ·cases hk'
theorem ac9(hs:fc X){Rt:List (Nat×Nat)}{Bt:List Nat}{ops:Array Oper}{Q:Exit->Act->World->Prop}{r:R}{k:AS->Option R}{s0:AS}(MO:∀n o e,ops[n]? =δ o->e∈o.after->Zl .any e=θ->e.on<n)
  (ago:∀n o m y,ops[n]? =δ o->m<n->ops[m]? =δ y->(∀S,Down ops S->HJ ops n S->S m)\/uD X Rt Bt ops y o) (Nk:∀(n:Nat)(o:Oper),ops[n]? =δ o->qt X Rt Bt o)
  (hQ:∀s' a' w' E' bD,St X z s' a' w' E' bD->Fr X (ops.toList.filterMap (·.dst)) s0 s'->k s'=δ r->Q .normal a' w'):
  ∀(fuel:Nat)(listed:Array Bool)(s:AS)(a:Act)(w:World)(E:List Pl)(pb:Nat->Option Nat),listed.size=ops.size->(nP listed ops.size).length<=fuel->Down ops (λi=>listed.getD i θ=θ)->St X z s a w E pb->RI X Rt Bt s->pM X θ ops (vU ops listed) s k=δ r->Fr X (ops.toList.filterMap (·.dst)) s0 s->
   wpAny X.P .any ops Q fuel listed a w:=by
 have hnone:∀(listed:Array Bool),nP listed ops.size=[]->XR .any ops listed=[]:=by intro listed h;unfold XR;rw[List.filter_eq_nil_iff];intro i hi hr;simp only[dr]at hr;have:i∈nP listed ops.size:=Yk.2 ⟨hi,hr.1⟩;rw[h]at this;simp at this
 have hsome:∀(listed:Array Bool),listed.size=ops.size->XR .any ops listed=[]->nP listed ops.size=[]:=by
  intro listed hsz hr;cases sM:nP listed ops.size with
  |nil=>rfl
  |cons i0 tl=>
   exfalso;have hm:i0∈nP listed ops.size:=by rw[sM];simp
   obtain⟨h1,h2⟩:=Yk.1 hm;have hlt:i0<ops.size:=by simpa using h1
   have Wo:(nP listed ops.size).Pairwise (·<·):=List.Pairwise.filter _ List.pairwise_lt_range;rw[sM,List.pairwise_cons]at Wo
   have hall:∀j,j<i0->listed.getD j θ=θ:=by
    intro j hj;cases hc:listed.getD j θ with
    |true=>rfl
    |false=>
     have:j∈nP listed ops.size:=Yk.2 ⟨by simp;omega,by simp [hc]⟩;rw[sM]at this;rcases eG.1 this with e|e
     ·omega
     ·have:=Wo.1 j e;omega
   have:i0∈XR .any ops listed:=by
    unfold XR;refine Yk.2 ⟨h1,?_⟩;rw[dr];refine⟨h2,?_⟩;rw[sI hlt];simp only[fB,y9];rw[alq];intro e he;cases hb:Zl .any e with
    |false=>rfl
    |true=>have hon:=MO i0 _ e (sI hlt) he hb;have:=hall e.on hon;rw[kY,sI (by omega)]at this;simp only[y9]at this;rw[kY,sI (by omega)];simp [this]
   rw[hr]at this;simp at this
 intro fuel;induction fuel with
 |zero=>intro listed s a w E pb hsz hle hdn h hI hk hf;have sM:nP listed ops.size=[]:=ze (by omega);refine⟨hnone listed sM,hQ s a w E pb h hf ?_⟩;simpa [vU,sM,pM]using hk
 |succ fuel ih=>
  intro listed s a w E pb hsz hle hdn h hI hk hf;refine⟨λhr=>hQ s a w E pb h hf (by simpa [vU,hsome listed hsz hr,pM]using hk),λi hi=>?_⟩;unfold XR at hi;obtain⟨h1,h2⟩:=Yk.1 hi;rw[dr]at h2;obtain⟨h2,h3⟩:=h2;have hlt:i<ops.size:=by simpa using h1
  have hun:listed.getD i θ=ξ:=by simpa using h2
  have ho:ops[i]? =δ ops[i]:=sI hlt
  have Uu:HJ ops i (λj=>listed.getD j θ=θ):=by intro o e Wm he hb;rw[Wm]at h3;simp only[fB,y9]at h3;rw[alq]at h3;have h4:=h3 e he;rw[hb]at h4;simp only[n8,WS]at h4;have hon:=MO i o e Wm he hb;rw[kY,sI (by omega)]at h4;simp only[y9]at h4;show listed.getD e.on θ=θ;rw[kY,sI (by omega)];simpa using h4
  obtain⟨l1,l2,e1,e2,e3⟩:=abi hlt hun hsz
  have sM:vU ops listed=l1.filterMap (ops[·]?)++ops[i]::l2.filterMap (ops[·]?):=by unfold vU;rw[e1,List.filterMap_append,ala,ho]
  have agq:vU ops (listed.setIfInBounds i θ)=l1.filterMap (ops[·]?)++l2.filterMap (ops[·]?):=by unfold vU;rw[e2,List.filterMap_append]
  rw[sM]at hk
  have ahj:∀y∈l1.filterMap (ops[·]?),qt X Rt Bt y:=by intro y hy;obtain⟨j,hj,Ow⟩:=Zj.1 hy;exact Nk j y Ow
  have aha:∀y∈l1.filterMap (ops[·]?),uD X Rt Bt ops y ops[i]:=by
   intro y hy;obtain⟨j,hj,Ow⟩:=Zj.1 hy;obtain⟨j1,j2⟩:=e3 j hj;rcases ago i ops[i] j y ho j1 Ow with k1|k1
   ·have:=k1 _ hdn Uu;rw[j2]at this;cases this
   ·exact k1
  have afz:=Rp (Nk i _ ho) _ _ s hI ahj aha hk;refine aeQ hs h hI (Nk i _ ho) ho afz λs' a' w' E' bD h' hf' Eg hk'=>?_
  rw[<-agq]at hk';refine ih _ s' a' w' E' bD (by simpa using hsz) ?_ ?_ h' Eg hk' ((hf.trans hf').mono ?_)
  ·rw[e2];rw[e1]at hle;simp at hle ⊢;omega
  ·intro j o e hj zS he hb;by_cases hji:j=i
   ·subst hji;have:=Uu o e zS he hb;show(listed.setIfInBounds j θ).getD e.on θ=θ;have hon:=MO j o e zS he hb;rw[kY,Zn (by omega),<-kY];exact this
   ·have hj':listed.getD j θ=θ:=by replace hj:(listed.setIfInBounds i θ).getD j θ=θ:=hj;rw[kY,Zn (λe=>hji e.symm),<-kY]at hj;exact hj
    have:=hdn j o e hj' zS he hb;show(listed.setIfInBounds i θ).getD e.on θ=θ;by_cases Wi:e.on=i
    ·rw[Wi];simp [alh,hsz,hlt]
    ·rw[kY,Zn (λe'=>Wi e'.symm),<-kY];exact this
  ·intro d hd;rcases gV.1 hd with hd|hd
   ·exact hd
   ·refine Zj.2 ⟨ops[i],by simp,?_⟩;cases pQ:ops[i].dst with
    |none=>rw[pQ]at hd;simp at hd
    |some d'=>rw[pQ]at hd;simp at hd;rw[hd]
theorem Lc{t b:Nat}:∀{l:List (Nat×Nat)},l.lookup t=δ b->(t,b)∈l
 |[],h=>by cases h
 |(t',b')::l,h=>by
  simp only[List.lookup]at h;cases hc:(t==t')
  ·rw[hc]at h;exact nL _ (Lc h)
  ·rw[hc]at h;simp only[χ]at h;have:t=t':=by simpa using hc
   subst this;subst h;exact Xl
theorem aeh(hs:fc X){ops:Array Oper}{Q:Exit->Act->World->Prop}{r:R}{k:AS->Option R}(hok:CW X ops s.sl=θ)(hA:∀t,s.A t=μ)(hQ:∀s' a' w' E' bD,St X z s' a' w' E' bD->Fr X (ops.toList.filterMap (·.dst)) s s'->k s'=δ r->Q .normal a' w'){id:Nat}
  (h:St X z s a w E pb) (hk:pM X θ ops ops.toList s k=δ r):(Code.region id ops θ).wp X.P Q a w:=by
 obtain⟨Rt,Bt,hok⟩:∃Rt Bt,Gk X Rt Bt ops s.sl=θ:=by
  unfold CW at hok;rcases Bool.or_eq_true_iff.1 hok with h|h
  ·exact⟨_,_,h⟩
  ·exact⟨_,_,h⟩
 unfold Gk at hok;simp only[dr]at hok;obtain⟨⟨⟨⟨⟨⟨⟨h1,h2⟩,h3⟩,h4⟩,h5⟩,h6⟩,h7⟩,h8⟩:=hok
 have hI:RI X Rt Bt s:=by
  refine⟨λt b hl=>?_,λt p hp=>(by rw[hA t]at hp;cases hp),λt b hl _=>?_,λt ht=>nM.1 h8 t (by simpa using ht)⟩
  ·have:=nM.1 h6 (t,b) (Lc hl);exact this
  ·have:=nM.1 h5 (t,b) (Lc hl);exact this
 have Uw:∀j,ops.toList[j]? =ops[0+j]? :=λj=>by simp
 have sM:nP (WL ops.size ξ) ops.size=List.range ops.size:=by
  unfold nP;rw[alJ];intro i hi;have:i<ops.size:=by simpa using hi
  simp [alh,this]
 have agr:vU ops (WL ops.size ξ)=ops.toList:=by
  unfold vU;rw[sM]
  have gen:∀(l pre:List Oper),(YT pre.length l.length).filterMap (λi=>(pre++l)[i]?)=l:=by
   intro l;induction l with
   |nil=>intro pre;rfl
   |cons x l ih=>intro pre;simp only[l8,alK,ala];rw[jL (bL _)];simp only[alV,Z3];have:=ih (pre++[x]);simp only[W0,l8,AV,Zm,sH,kN,Yd]at this;rw[this]
  have:=gen ops.toList [];rw[YC];simpa using this
 refine wp_region_any h1 (ac9 (s0:=s) hs (λn o e ho he hb=>QZ ops.toList 0 Uw h2 n o e (ur _) ho he hb) (λn o m y ho hm hy=>?_) (λn o ho=>qt.of (nM.1 h4 o (by have:=Array.mem_of_getElem? ho;simpa using this)) (nM.1 h7 o (by have:=Array.mem_of_getElem? ho;simpa using this))) hQ ops.size _ s a _ E pb (by simp) (by rw[sM];simp) ?_ (h.grow (w':=w.drew) ((Below.refl _ _).drew)) hI (by rw[agr];exact hk) (Fr.refl _ _))
 ·rcases QG ops.toList 0 Uw h3 n o (ur _) ho m y hm hy with k1|k1
  ·left;exact λS hS hD=>RQ ops.toList [] (λi=>by simp) (λm j h=>by simp at h) n m k1 S hS hD
  ·exact .inr (ab3 k1)
 ·intro i o e hi ho he hb;have hlt:i<ops.size:=(uq.1 ho).1;exfalso;simp [alh,hlt]at hi
theorem St.OI(h:St X z s a w E pb):St X z ⟨s.sl,λ_=>μ,s.σ⟩ a w E pb:=
 ⟨h.len,h.nO,h.slot,h.box,(λt p hp=>by cases hp),h.priv,h.inj,h.heap,h.defers,h.out,h.nm⟩
def AX.to:AX->Exit
 |.normal=>.normal
 |.exit i=>.exit i
 |.ret=>.ret
theorem FM:∀(ds:List Nat)(sl:List U)(i:Nat),(su sl ds).length=sl.length/\((su sl ds)[i]? =sl[i]? \/(su sl ds)[i]? =δ .undef)/\(i∉ds->(su sl ds)[i]? =sl[i]?)/\(i∈ds->i<sl.length->(su sl ds)[i]? =δ .undef)
 |[],sl,i=>⟨rfl,.inl rfl,λ_=>rfl,λh=>by simp at h⟩
 |d::ds,sl,i=>by
  obtain⟨h1,h2,h3,h4⟩:=FM ds (sl.set d .undef) i;simp only[su]
  have hset:(sl.set d .undef)[i]? =if d=i then(if i<sl.length then δ .undef else μ)else sl[i]? :=by
   rw[gG];by_cases e:d=i
   ·subst e;simp
   ·simp [e]
  have hnone:¬i<sl.length->sl[i]? =μ:=λk=>lP (by omega)
  refine⟨by rw[h1];simp,?_,λhi=>?_,λhi hl=>?_⟩
  ·rcases h2 with h2|h2
   ·rw[h2,hset];by_cases e:d=i
    ·rw[aE e];split
     ·exact .inr rfl
     ·rename_i k;rw[hnone k];exact .inl rfl
    ·rw[aD e];exact .inl rfl
   ·exact .inr h2
  ·simp only[eG,not_or]at hi;rw[h3 hi.2,hset,aD (λe=>hi.1 e.symm)]
  ·by_cases hm:i∈ds
   ·exact h4 hm (by simpa using hl)
   ·simp only[eG]at hi;have:i=d:=hi.resolve_right hm;rw[h3 hm,hset,aE this.symm,aE hl]
theorem Ga(vs:List U):∀(live:List Nat)(j:Nat)(sl:List U)(i:Nat),(Br vs sl live j).length=sl.length/\(i∉live->(Br vs sl live j)[i]? =sl[i]?)/\(i∈live->i<sl.length->∃n,n<live.length/\live[n]? =δ i/\(Br vs sl live j)[i]? =δ (vs.getD (j+n) .undef))
 |[],j,sl,i=>⟨rfl,λ_=>rfl,λh=>by simp at h⟩
 |d::live,j,sl,i=>by
  obtain⟨h1,h2,h3⟩:=Ga vs live (j+1) (sl.set d (vs.getD j .undef)) i;simp only[Br];refine⟨by rw[h1];simp,λhi=>?_,λhi hl=>?_⟩
  ·simp only[eG,not_or]at hi;rw[h2 hi.2,gG,aD (λe=>hi.1 e.symm)]
  ·by_cases hm:i∈live
   ·obtain⟨n,k1,k2,k3⟩:=h3 hm (by simpa using hl);exact⟨n+1,by simp;omega,by simpa using k2,by rw[k3];congr 2;omega⟩
   ·simp only[eG]at hi;have:i=d:=hi.resolve_right hm;subst this;exact⟨0,by simp,rfl,by rw[h2 hm,gG];simp [hl]⟩
theorem St.meet{s s':AS}(h:St X z s' a w E pb){mods live:List Nat}(hl:s.sl.length=s'.sl.length)(hf:∀i,i∉mods->s'.sl[i]? =s.sl[i]?):St X z (s.meet mods live (vals s'.sl live) s'.σ) a w E pb:=by
 have jx:∀i:Nat,(s.meet mods live (vals s'.sl live) s'.σ).sl[i]? =s'.sl[i]? \/(s.meet mods live (vals s'.sl live) s'.σ).sl[i]? =δ U.undef:=by
  intro i;simp only[AS.meet];obtain⟨c1,c2,c3,c4⟩:=FM mods s.sl i;obtain⟨m1,m2,m3⟩:=Ga (vals s'.sl live) live 0 (su s.sl mods) i;by_cases hm:i∈live
  ·by_cases hlt:i<s.sl.length
   ·obtain⟨n,k1,k2,k3⟩:=m3 hm (by rw[c1];exact hlt);left;rw[k3,Zm]
    have:(vals s'.sl live).getD n .undef=s'.sl.getD i .undef:=by simp only[vals,ZC,List.getElem?_map,k2];rfl
    rw[this,bT (by omega)];simp [ZC,show i<s'.sl.length by omega]
   ·left;rw[lP (by rw[m1,c1];omega),lP (by omega)]
  ·rw[m2 hm];by_cases hd:i∈mods
   ·by_cases hlt:i<s.sl.length
    ·exact .inr (c4 hd hlt)
    ·left;rw[lP (by rw[c1];omega),lP (by omega)]
   ·left;rw[c3 hd,hf i hd]
 have hlen:(s.meet mods live (vals s'.sl live) s'.σ).sl.length=s'.sl.length:=by simp only[AS.meet];rw[(Ga (vals s'.sl live) live 0 (su s.sl mods) 0).1,(FM mods s.sl 0).1];exact hl
 refine⟨by rw[h.len,hlen],by rw[hlen,h.nO],λi av hi=>?_,λi cs hi=>?_,(λt p hp=>by cases hp),h.priv,h.inj,h.heap,h.defers,h.out,h.nm⟩
 ·rcases jx i with e|e
  ·rw[e]at hi;exact h.slot i av hi
  ·rw[e]at hi;injection hi with hi;subst hi;trivial
 ·rcases jx i with e|e
  ·rw[e]at hi;exact h.box i cs hi
  ·rw[e]at hi;cases hi
end
end
open Fr renaming refl->alP
section
open Go.RowKit
section
variable {X : Fx} {z : Z}
theorem force_eq{R:Type}:∀(l:List U)(k:List U->Option R),force l k=k l
 |[],k=>rfl
 |x::l,k=>by simp only[force];rw[force_eq l]
theorem Tb{R:Type}{q:Bool}{ops:Array Oper}:∀(l:List Oper)(s:AS)(k:AS->Option R),DT X q ops l s k=pM X q ops l s k
 |[],s,k=>rfl
 |o::l,s,k=>by simp only[DT,pM];congr 1;funext s;rw[force_eq];exact Tb l _ k
theorem Q2{α:Type}{c:U}{t e:Option α}{r:α}(h:φ c t e=δ r):(c=.bool θ/\t=δ r)\/(c=.bool ξ/\e=δ r):=by
 cases c<;>simp only[φ]at h<;>first|(cases h;done)|skip
 rename_i b;cases b
 ·exact .inr ⟨rfl,h⟩
 ·exact .inl ⟨rfl,h⟩
theorem acd{f:List U->Heap->Option (AX×List U×Heap)}{v:List U}{σ:Heap}{r:AX×List U×Heap}(h:WY f v σ=δ r):∃n,XB f n v σ=δ r:=by
 unfold WY at h;split at h
 ·rename_i hx;injection h with h
  exact⟨_,h▸Zt (Zt hx)⟩
 ·cases h
theorem aa2{R:Type}{f:List U->Heap->(AX×List U×Heap->Option R)->Option R}{v:List U}{σ:Heap}{K:AX×List U×Heap->Option R}{r:R}(h:A.MV f v σ K=δ r):∃n,A.Dn f n v σ K=δ r:=by
 unfold A.MV at h;split at h
 ·rename_i hx;injection h with h
  obtain⟨n,hn⟩:=Zt hx;exact⟨n,h▸hn n (bL _)⟩
 ·cases h
theorem GJ{R:Type}{e:AX}{k:AX->Option R}{r:R}:∀{xs:List AX},A.sel e k xs=δ r->k e=δ r
 |[],h=>by cases h
 |x::xs,h=>by
  simp only[A.sel]at h;cases he:(e==x)
  ·rw[he]at h;exact GJ h
  ·rw[he]at h;have:e=x:=by simpa using he
   subst this;exact h
theorem Be{X:Fx}{c:Code}{ds:List Nat}{s s':AS}(h:Fr X ds s s'):∀i,i∉ds++X.L->s'.sl[i]? =s.sl[i]? :=λi hi=>by
 rw[gV]at hi
 exact h i (λe=>hi (.inl e)) (by
  cases hc:X.L.contains i
  ·rfl
  ·exact absurd (akX.1 hc) (λe=>hi (.inr e)))
theorem xk{X:Fx}{s:AS}{ds live:List Nat}{vs:List U}{σ:Heap}(hl:(live.all λd=>(ds++X.L).contains d)=θ):Fr X ds s (s.meet (ds++X.L) live vs σ):=λi hi hL=>by
 have hni:i∉ds++X.L:=by
  rw[gV];rintro(e|e)
  ·exact hi e
  ·rw[akX.2 e]at hL;cases hL
 simp only[AS.meet];rw[(Ga vs live 0 (su s.sl (ds++X.L)) i).2.1 (λe=>hni ?_),(FM (ds++X.L) s.sl i).2.2.1 hni];exact akX.1 (nM.1 hl i e)
theorem Qm{live:List Nat}{e:AX}{s:AS}{r:List U×Heap}(h:Hg live e s=δ r):e=.normal/\r=(vals s.sl live,s.σ):=by cases e<;>simp only[Hg]at h<;>first|(cases h;done)|(injection h with h;exact⟨rfl,h.symm⟩)
theorem S0{P:Program}{c:Code}{Q:Exit->Act->World->Prop}(I:Nat->Act->World->Prop)(round:∀n a w,I n a w->c.wp P (Exit.then (λa' w'=>∃m,m<n/\I m a' w') Q) a w) {n:Nat} {a:Act} {w:World} (h:I n a w):(Code.loop c).wp P Q a w:=by
 intro b k cs
 have key:∀n a w,I n a w->∃e a' w',Q e a' w'/\Arrives P (lone (b.at a (.code c::.inLoop c::k)) cs w) b k cs e a' w':=by
  intro n;induction n using Nat.strongRecOn with
  |_ n ih=>
   intro a w hI;obtain⟨e,a1,w1,hq,xM⟩:=round n a w hI b (.inLoop c::k) cs;cases e with
   |normal=>obtain⟨m,hlt,hm⟩:=hq;obtain⟨e2,a2,w2,yf,agc⟩:=ih m hlt a1 w1 hm;exact⟨e2,a2,w2,yf,.of_steps (Steps.trans xM (.one step_inLoop)) agc⟩
   |exit id=>exact⟨_,a1,w1,hq,.pass (x:=.inLoop c) rfl (λ_ _=>.inl (by simp)) xM⟩
   |goto l=>exact⟨_,a1,w1,hq,.pass (x:=.inLoop c) rfl (λ_ _=>.inl (by simp)) xM⟩
   |ret=>exact⟨_,a1,w1,hq,.pass (x:=.inLoop c) rfl (λ_ _=>.inl (by simp)) xM⟩
   |panic ch=>exact⟨_,a1,w1,hq,.pass (x:=.inLoop c) rfl (λ_ _=>.inl (by simp)) xM⟩
   |outgrown=>exact⟨_,a1,w1,hq,.pass (x:=.inLoop c) rfl (λ_ _=>.inl (by simp)) xM⟩
 obtain⟨e,a',w',hq,xM⟩:=key n a w h;exact⟨e,a',w',hq,.of_steps (.one step_loop) xM⟩
theorem tW(hs:fc X):∀(c:Code){R:Type}(ck:kr)(s:AS)(a:Act)(w:World)(E:List Pl)(pb:Nat->Option Nat)(k:AX->AS->Option R)(r:R)(Q:Exit->Act->World->Prop),exec X ck c s k=δ r->St X z s a w E pb->
  (∀e s' a' w' E' bD,St X z s' a' w' E' bD->Fr X (dG c) s s'->k e s'=δ r->Q e.to a' w')->c.wp X.P Q a w
 |.skip,R,ck,s,a,w,E,pb,k,r,Q,hk,h,hQ=>by
  have hk':k .normal s=δ r:=by cases ck<;>simpa [exec]using hk
  exact wp_skip (hQ .normal s a w E pb h (alP _ _) hk')
 |.label l,R,ck,s,a,w,E,pb,k,r,Q,hk,h,hQ=>by
  have hk':k .normal s=δ r:=by cases ck<;>simpa [exec]using hk
  exact wp_label (hQ .normal s a w E pb h (alP _ _) hk')
 |.exit id,R,ck,s,a,w,E,pb,k,r,Q,hk,h,hQ=>by
  have hk':k (.exit id) s=δ r:=by cases ck<;>simpa [exec]using hk
  exact wp_exit (hQ (.exit id) s a w E pb h (alP _ _) hk')
 |.ret,R,ck,s,a,w,E,pb,k,r,Q,hk,h,hQ=>by
  have hk':k .ret s=δ r:=by cases ck<;>simpa [exec]using hk
  exact wp_ret (hQ .ret s a w E pb h (alP _ _) hk')
 |.region id ops draw,R,ck,s,a,w,E,pb,k,r,Q,hk,h,hQ=>by
  have hk':(bif draw then(bif CW X ops s.sl then pM X θ ops ops.toList ⟨s.sl,λ_=>μ,s.σ⟩ λs=>k .normal ⟨s.sl,λ_=>μ,s.σ⟩else μ)else pM X ξ ops ops.toList s λs=>k .normal ⟨s.sl,λ_=>μ,s.σ⟩)=δ r:=by cases ck<;>simpa [exec,force_eq,Tb]using hk
  cases draw
  ·simp only[aZ]at hk';refine wp_region ?_;have:=Ta (z:=z) (Q:=Q) (s0:=s) hs ops.toList 0 s a w E pb (λj=>by simp) h hk' (λs' a' w' E' bD h' hf hk2=>hQ .normal _ a' w' E' bD h'.OI (λi hi hL=>hf i (by simpa [dG]using hi) hL) hk2);rw[YC];simpa using this
  ·simp only[bG]at hk';cases hok:CW X ops s.sl
   ·rw[hok]at hk';cases hk'
   ·rw[hok]at hk';simp only[bG]at hk';exact aeh (s:=⟨s.sl,λ_=>μ,s.σ⟩) hs hok (λ_=>rfl) (λs' a' w' E' bD h' hf hk2=>hQ .normal _ a' w' E' bD h'.OI (λi hi hL=>hf i (by simpa [dG]using hi) hL) hk2) h.OI hk'
 |.seq x y,R,ck,s,a,w,E,pb,k,r,Q,hk,h,hQ=>by
  cases ck<;>simp only[exec]at hk<;>first|(cases hk;done)|skip
  rename_i aa bb;refine wp_seq (tW hs x aa s a w E pb _ r _ hk h λe s' a' w' E' bD h' hf hk'=>?_);cases e with
  |normal=>exact tW hs y bb s' a' w' E' bD k r Q hk' h' λe2 s2 a2 w2 E2 ON h2 wq hk2=>hQ e2 s2 a2 w2 E2 ON h2 (by simpa [dG]using hf.trans wq) hk2
  |exit i=>exact hQ (.exit i) s' a' w' E' bD h' (hf.mono λi hi=>by simp [dG,hi]) hk'
  |ret=>exact hQ .ret s' a' w' E' bD h' (hf.mono λi hi=>by simp [dG,hi]) hk'
 |.cond c x y,R,ck,s,a,w,E,pb,k,r,Q,hk,h,hQ=>by
  have rc:=dD h c;cases ck<;>simp only[exec,force_eq]at hk<;>first|(cases hk;done)|skip
  case c live aa bb=>
   cases hl:(live.all λd=>(dG x++dG y++X.L).contains d)
   ·rw[hl]at hk;cases hk
   ·rw[hl]at hk;simp only[n8,aZ]at hk;obtain⟨⟨vs,σ'⟩,h1,h2⟩:=bg.1 hk;rcases Q2 h1 with⟨ec,hb⟩|⟨ec,hb⟩
    ·rw[ec]at rc;simp only[an]at rc;refine wp_cond_true rc (tW hs x aa s a w E pb _ _ Q hb h λe s' a' w' E' bD h' hf hk'=>?_);obtain⟨rfl,hv⟩:=Qm hk';simp only[Θ]at hv;obtain⟨rfl,rfl⟩:=hv;have wq:Fr X (dG x++dG y) s s':=hf.mono λi hi=>by simp [hi]
     exact hQ .normal _ a' w' E' bD (h'.meet (by rw[h.nO,h'.nO]) (Be (c:=x) wq)) (by simpa [dG]using xk (X:=X) hl) h2
    ·rw[ec]at rc;simp only[an]at rc;refine wp_cond_false rc (tW hs y bb s a w E pb _ _ Q hb h λe s' a' w' E' bD h' hf hk'=>?_);obtain⟨rfl,hv⟩:=Qm hk';simp only[Θ]at hv;obtain⟨rfl,rfl⟩:=hv;have wq:Fr X (dG x++dG y) s s':=hf.mono λi hi=>by simp [hi]
     exact hQ .normal _ a' w' E' bD (h'.meet (by rw[h.nO,h'.nO]) (Be (c:=x) wq)) (by simpa [dG]using xk (X:=X) hl) h2
  case j aa bb=>
   rcases Q2 hk with⟨ec,hb⟩|⟨ec,hb⟩
   ·rw[ec]at rc;simp only[an]at rc;exact wp_cond_true rc (tW hs x aa s a w E pb k r Q hb h λe s' a' w' E' bD h' hf hk'=>hQ e s' a' w' E' bD h' (hf.mono λi hi=>by simp [dG,hi]) hk')
   ·rw[ec]at rc;simp only[an]at rc;exact wp_cond_false rc (tW hs y bb s a w E pb k r Q hb h λe s' a' w' E' bD h' hf hk'=>hQ e s' a' w' E' bD h' (hf.mono λi hi=>by simp [dG,hi]) hk')
 |.block id c,R,ck,s,a,w,E,pb,k,r,Q,hk,h,hQ=>by
  cases ck<;>simp only[exec]at hk<;>first|(cases hk;done)|skip
  rename_i aa;refine wp_block (tW hs c aa s a w E pb _ r _ hk h λe s' a' w' E' bD h' hf hk'=>?_);cases e with
  |normal=>exact hQ .normal s' a' w' E' bD h' (by simpa [dG]using hf) hk'
  |ret=>exact hQ .ret s' a' w' E' bD h' (by simpa [dG]using hf) hk'
  |exit i=>
   simp only[AX.to,Exit.inBlock];simp only at hk';by_cases e:i=id
   ·have:(i==id)=θ:=by simpa using e
    rw[this]at hk';rw[aE e];exact hQ .normal s' a' w' E' bD h' (by simpa [dG]using hf) hk'
   ·have:(i==id)=ξ:=by simpa using e
    rw[this]at hk';rw[aD e];exact hQ (.exit i) s' a' w' E' bD h' (by simpa [dG]using hf) hk'
 |.loop c,R,ck,s,a,w,E,pb,k,r,Q,hk,h,hQ=>by
  cases ck<;>simp only[exec,force_eq]at hk<;>first|(cases hk;done)|skip
  case lc live xs aa=>
   cases hl:(live.all λd=>(dG c++X.L).contains d)
   ·rw[hl]at hk;cases hk
   ·rw[hl]at hk;simp only[n8,aZ]at hk;obtain⟨n,hn⟩:=aa2 hk;refine S0 (λn a w=>∃vs σ E pb,A.Dn (λvs σ K=>exec X aa c (s.meet (dG c++X.L) live vs σ) λe s'=>K (e,vals s'.sl live,s'.σ)) n vs σ (λr=>A.sel r.1 (λe=>k e (s.meet (dG c++X.L) live r.2.1 r.2.2)) xs)=δ r/\St X z (s.meet (dG c++X.L) live vs σ) a w E pb) ?_ (n:=n) ⟨_,_,E,pb,hn,h.meet rfl (λi _=>rfl)⟩;rintro n a w ⟨vs,σ,E,pb,hit,hst⟩;cases n with
    |zero=>cases hit
    |succ n=>
     simp only[A.Dn]at hit;refine tW hs c aa _ a w E pb _ _ _ hit hst λe s' a' w' E' bD h' hf hk'=>?_
     have hfr:∀i,i∉dG c++X.L->s'.sl[i]? =s.sl[i]? :=λi hi=>by rw[Be (c:=c) hf i hi];exact Be (c:=c) (xk (X:=X) (s:=s) (vs:=vs) (σ:=σ) hl) i hi
     have zl:=h'.meet (s:=s) (mods:=dG c++X.L) (live:=live) (by rw[h.nO,h'.nO]) hfr;cases e with
     |normal=>exact⟨n,Nat.lt_succ_self n,_,_,E',bD,hk',zl⟩
     |exit i=>exact hQ (.exit i) _ a' w' E' bD zl (by simpa [dG]using xk (X:=X) hl) (GJ hk')
     |ret=>exact hQ .ret _ a' w' E' bD zl (by simpa [dG]using xk (X:=X) hl) (GJ hk')
  rename_i live xs aa;cases hl:(live.all λd=>(dG c++X.L).contains d)
  ·rw[hl]at hk;cases hk
  ·rw[hl]at hk;simp only[n8,aZ]at hk;obtain⟨⟨e0,yt,aP⟩,h1,h2⟩:=bg.1 hk;have hsel:=GJ h2;obtain⟨n,hn⟩:=acd h1;refine S0 (λn a w=>∃vs σ E pb,XB (λvs σ=>exec X aa c (s.meet (dG c++X.L) live vs σ) (leave live)) n vs σ=δ (e0,yt,aP)/\St X z (s.meet (dG c++X.L) live vs σ) a w E pb) ?_ (n:=n) ⟨_,_,E,pb,hn,h.meet rfl (λi _=>rfl)⟩;rintro n a w ⟨vs,σ,E,pb,hit,hst⟩;cases n with
   |zero=>cases hit
   |succ n=>
    simp only[XB]at hit;obtain⟨⟨e1,vs1,σ1⟩,g1,g2⟩:=bg.1 hit;refine tW hs c aa _ a w E pb _ _ _ g1 hst λe s' a' w' E' bD h' hf hk'=>?_
    simp only[leave,χ,Θ]at hk';obtain⟨rfl,rfl,rfl⟩:=hk'
    have hfr:∀i,i∉dG c++X.L->s'.sl[i]? =s.sl[i]? :=λi hi=>by rw[Be (c:=c) hf i hi];exact Be (c:=c) (xk (X:=X) (s:=s) (vs:=vs) (σ:=σ) hl) i hi
    have zl:=h'.meet (s:=s) (mods:=dG c++X.L) (live:=live) (by rw[h.nO,h'.nO]) hfr;cases e with
    |normal=>exact⟨n,Nat.lt_succ_self n,_,_,E',bD,g2,zl⟩
    |exit i=>simp only[χ,Θ]at g2;obtain⟨rfl,rfl,rfl⟩:=g2;exact hQ (.exit i) _ a' w' E' bD zl (by simpa [dG]using xk (X:=X) hl) hsel
    |ret=>simp only[χ,Θ]at g2;obtain⟨rfl,rfl,rfl⟩:=g2;exact hQ .ret _ a' w' E' bD zl (by simpa [dG]using xk (X:=X) hl) hsel
 |.rangeFunc ..,R,ck,s,a,w,E,pb,k,r,Q,hk,h,hQ=>by cases ck<;>simp [exec]at hk
 |.scope _,R,ck,s,a,w,E,pb,k,r,Q,hk,h,hQ=>by cases ck<;>simp [exec]at hk
 |.goto _,R,ck,s,a,w,E,pb,k,r,Q,hk,h,hQ=>by cases ck<;>simp [exec]at hk
 |.refuse _,R,ck,s,a,w,E,pb,k,r,Q,hk,h,hQ=>by cases ck<;>simp [exec]at hk
end
end
section
open Go.RowKit
section
variable {X : Fx} {z : Z} {s : AS} {a : Act} {w w' : World} {E : List Pl} {pb : Nat -> Option Nat}
def vW(tmps:Array Value):ResultVar->Sem Value
 |.tmp t=>pure (tmps.getD t undef)
 |.cell a t=>do loadVar t (<-asAddr (tmps.getD a undef))
theorem LU(h:St X z s a w E pb){R:Type}:∀(rs:List ResultVar)(k:List U->Option R)(r:R),vV X s rs k=δ r->∃vs jl,(rs.mapM (vW a.tmps)).run X.P w=.ok vs w/\aF (ctx z w E pb) jl vs/\k jl=δ r
 |[],k,r,hk=>⟨[],[],by simp,by simp [aF],hk⟩
 |.tmp t::rs,k,r,hk=>by simp only[vV]at hk;obtain⟨vs,jl,h1,h2,h3⟩:=LU h rs _ r hk;refine⟨a.tmps.getD t undef::vs,ev X s (.tmp t)::jl,?_,by simp only[aF];exact⟨_,_,rfl,dD h (.tmp t),h2⟩,h3⟩;simp only[List.mapM_cons,l5,vW,Xe,Ω,h1]
 |.cell q t::rs,k,r,hk=>by
  simp only[vV]at hk
  have fin:∀(v:Value)(av:U),(vW a.tmps (.cell q t)).run X.P w=.ok v w->an (ctx z w E pb) av v->vV X s rs (λvs=>k (av::vs))=δ r->∃vs jl,((ResultVar.cell q t::rs).mapM (vW a.tmps)).run X.P w=.ok vs w/\aF (ctx z w E pb) jl vs/\k jl=δ r:=by intro v av hv hr hk;obtain⟨vs,jl,h1,h2,h3⟩:=LU h rs _ r hk;refine⟨v::vs,av::jl,?_,by simp only[aF];exact⟨_,_,rfl,hr,h2⟩,h3⟩;simp only[List.mapM_cons,l5,hv,Xe,Ω,h1]
  split at hk
  ·rename_i b off hp;obtain⟨av,e1,e2⟩:=bg.1 hk;obtain⟨cs,e3,e4⟩:=bg.1 e1;obtain⟨n,k1,k2,k3,k4⟩:=A2 h (tag:=μ) trivial hp e3;obtain⟨v,j1,j2⟩:=F6 (c:=ctx z w E pb) w X rfl k3.2 e4;rw[Zm]at j1;simp only[Act.eval]at k2;exact fin v av (by simp [vW,k2,asAddr,j1]) j2 e2
  ·obtain⟨av,e1,e2⟩:=bg.1 hk;obtain⟨cs,e3,e4⟩:=bg.1 e1;obtain⟨b,off,k2,k3⟩:=Q3 h.heap e3 (dD h (.tmp q));obtain⟨v,j1,j2⟩:=F6 (c:=ctx z w E pb) w X rfl k3 e4;rw[Nat.add_zero]at j1;simp only[Act.eval]at k2;exact fin v av (by simp [vW,k2,asAddr,j1]) j2 e2
theorem aaq{P:Program}{fn:Func}{tmps:Array Value}{vs:List Value}(h:(fn.results.toList.mapM (vW tmps)).run P w=.ok vs w):∃v,(results fn tmps).run P w=.ok v w/\∀(c:RC)(jl:List U),aF c jl vs->an c (one jl) v:=by
 have e:results fn tmps=(do let vs <-fn.results.mapM (vW tmps);pure (if h:vs.size=1 then vs[0]else .tuple vs)):=by unfold results;congr 1
 have hm:(fn.results.mapM (vW tmps)).run P w=.ok vs.toArray w:=by rw[Array.mapM_eq_mapM_toList,Sem.run_map,h];rfl
 have hrun:(results fn tmps).run P w=.ok (if h:vs.toArray.size=1 then vs.toArray[0]else .tuple vs.toArray) w:=by rw[e,l5,hm];rfl
 refine⟨_,hrun,λc jl r=>?_⟩
 match jl,vs,r with
 |[x],[v],r=>simp only[aF]at r;obtain⟨v',_,e',r1,rfl⟩:=r;injection e' with e1 _;subst e1;simpa [one]using r1
 |[],[],r=>simp only[one,an];exact⟨#[],by simp,by simp [aF]⟩
 |x::y::xs,v::u::us,r=>simp only[one,an];exact⟨(v::u::us).toArray,by simp,by simpa using r⟩
 |[_],_::_::_,r=>exact absurd r.length (by simp)
 |_::_::_,[_],r=>exact absurd r.length (by simp)
 |[],_::_,r=>exact absurd r.length (by simp)
 |_::_,[],r=>exact absurd r.length (by simp)
end
section
variable {c c' : RC} {σ : Heap} {n : Nat}
structure uu (c c' : RC) (σ : Heap) (n : Nat) : Prop where
 w:c'.w=c.w
 nm:c'.nm=c.nm
 X:∀b,c'.X b->c.X b
 E:∀(id:Nat)(p:Pl),id<n->c.E[id]? =δ p->c'.E[id]? =δ p
 heap:fS c σ
 HQ:∀(id:Nat)(p:Pl),n<=id->c.E[id]? =δ p->¬c'.X p.b
theorem LM(d:Nat):∀(l l':List U),Zw σ n d l=δ l'->l'.length=l.length
 |[],l',e=>by simp only[Zw]at e;injection e with e;subst e;rfl
 |x::l,l',e=>by simp only[Zw]at e;obtain⟨y,h1,h2⟩:=bg.1 e;obtain⟨l2,h3,rfl⟩:=cO.1 h2;simp [LM d l l2 h3]
theorem CI(d:Nat):∀(l l':List (List U)),A.ko σ n d l=δ l'->l'.length=l.length
 |[],l',e=>by simp only[A.ko]at e;injection e with e;subst e;rfl
 |x::l,l',e=>by simp only[A.ko]at e;obtain⟨y,h1,h2⟩:=bg.1 e;obtain⟨l2,h3,rfl⟩:=cO.1 h2;simp [CI d l l2 h3]
theorem GA(d:Nat):∀(l:List (List U)),A.De σ n d l=A.ko σ n d l
 |[]=>by simp [A.ko,A.De]
 |x::l=>by simp [A.ko,A.De,GA d l]
def zb:U->Bool
 |.os ..=>θ
 |.op ..=>θ
 |.oe ..=>θ
 |.om ..=>θ
 |_=>ξ
theorem GS(d:Nat):∀(l:List U),A.sC σ n d l=Zw σ n d l
 |[]=>by simp [Zw,A.sC]
 |x::l=>by simp [Zw,A.sC,GS d l]
theorem SP(d:Nat):∀(l:List (U×U)),A.xy σ n d l=A.pK σ n d l
 |[]=>by simp [A.pK,A.xy]
 |(k,v)::l=>by simp [A.pK,A.xy,SP d l]
theorem aeu(d:Nat)(m:Int)(s:ByteArray):Xz σ n d (.agg [.int ε m,.str s])=δ (.agg [.int ε m,.str s]):=by cases d<;>simp [Xz,Zw]
theorem Rc{d:Nat}:∀{es es':List (U×U)},(∀p∈es,∃m s,p.1=.agg [.int ε m,.str s])->A.pK σ n d es=δ es'->es'.map (·.1)=es.map (·.1)
 |[],es',_,h=>by simp only[A.pK]at h;injection h with h;subst h;rfl
 |(k,v)::r,es',hk,h=>by simp only[A.pK]at h;obtain⟨m,s,e⟩:=hk (k,v) Xl;simp only at e;subst e;rw[aeu]at h;simp only[aA]at h;obtain⟨v',h1,h2⟩:=bg.1 h;obtain⟨r',h3,rfl⟩:=cO.1 h2;simp only[fH,Rc (λp hp=>hk p (nL _ hp)) h3]
theorem abS{d:Nat}{es es':List (U×U)}(hd:Di es)(h:A.pK σ n d es=δ es'):Di es':=by
 have e:=Rc hd.1 h;refine⟨λp hp=>?_,by rw[e];exact hd.2⟩;have:p.1∈es.map (·.1):=by rw[<-e];exact ak3 hp
 obtain⟨q,hq,e2⟩:=kZ.1 this;rw[<-e2];exact hd.1 q hq
mutual
theorem Bf(h:uu c c' σ n)(d:Nat)(hos:∀av bU v,zb av=θ->Xz σ n d av=δ bU->an c av v->an c' bU v):∀(av bU:U)(v:Value),Xz σ n d av=δ bU->an c av v->an c' bU v
 |.undef,bU,v,e,r=>by cases d<;>simp [Xz]at e
 |.int k m,bU,v,e,r=>by
  have:bU=.int k m:=by cases d<;>simpa [Xz]using e.symm
  subst this;simpa [an]using r
 |.bool b,bU,v,e,r=>by
  have:bU=.bool b:=by cases d<;>simpa [Xz]using e.symm
  subst this;simpa [an]using r
 |.str s,bU,v,e,r=>by
  have:bU=.str s:=by cases d<;>simpa [Xz]using e.symm
  subst this;simpa [an]using r
 |.bA,bU,v,e,r=>by
  have:bU=.bA:=by cases d<;>simpa [Xz]using e.symm
  subst this;simpa [an]using r
 |.ez,bU,v,e,r=>by
  have:bU=.ez:=by cases d<;>simpa [Xz]using e.symm
  subst this;simpa [an]using r
 |.np,bU,v,e,r=>by
  have:bU=.np:=by cases d<;>simpa [Xz]using e.symm
  subst this;simpa [an]using r
 |.nm,bU,v,e,r=>by
  have:bU=.nm:=by cases d<;>simpa [Xz]using e.symm
  subst this;simpa [an]using r
 |.uI,bU,v,e,r=>by
  have:bU=.uI:=by cases d<;>simpa [Xz]using e.symm
  subst this;simpa [an]using r
 |.agg cs,bU,v,e,r=>by
  have e':(Zw σ n d cs).map .agg=δ bU:=by cases d<;>simpa [Xz]using e
  obtain⟨cs',h1,rfl⟩:=cO.1 e';simp only[an]at r ⊢;obtain⟨vs,e,r1,r2⟩:=r;exact⟨vs,e,A5 h d hos cs cs' _ h1 r1,r2⟩
 |.az cs,bU,v,e,r=>by
  have e':(Zw σ n d cs).map .az=δ bU:=by cases d<;>simpa [Xz]using e
  obtain⟨cs',h1,rfl⟩:=cO.1 e';simp only[an]at r ⊢;obtain⟨vs,e,r1⟩:=r;exact⟨vs,e,A5 h d hos cs cs' _ h1 r1⟩
 |.sl sz es,bU,v,e,r=>by
  have e':(A.ko σ n d es).map (.sl sz)=δ bU:=by cases d<;>simpa [Xz]using e
  obtain⟨es',h1,rfl⟩:=cO.1 e';simp only[an]at r ⊢;obtain⟨q,cap,e,k1,k2,r⟩:=r;have hl:es'.length=es.length:=CI d es es' h1;refine⟨q,cap,by rw[hl];exact e,by rw[hl];exact k1,k2,?_⟩;rcases r with r|⟨b,off,e2,hb,hx,r⟩
  ·left;subst r;simpa using hl
  ·right;exact⟨b,off,e2,by rw[h.w];exact hb,λk=>hx (h.X b k),CP h d hos sz b es es' off h1 r⟩
 |.rp cs,bU,v,e,r=>by
  have e':(Zw σ n d cs).map .rp=δ bU:=by cases d<;>simpa [Xz]using e
  obtain⟨cs',h1,rfl⟩:=cO.1 e';simp only[an]at r ⊢;obtain⟨b,off,e2,hb,hx,r⟩:=r;exact⟨b,off,e2,by rw[h.w];exact hb,λk=>hx (h.X b k),A4 h d hos b cs cs' off h1 r⟩
 |.fm es,bU,v,e,r=>by
  have e':(A.pK σ n d es).map .fm=δ bU:=by cases d<;>simpa [Xz]using e
  obtain⟨es',h1,rfl⟩:=cO.1 e';simp only[an]at r ⊢;obtain⟨b,e2,hb,hx,aV,bh,k1,kw,l,k2,k3⟩:=r;exact⟨b,e2,by rw[h.w];exact hb,λk=>hx (h.X b k),aV,bh,by rw[h.w];exact k1,kw,l,GB h d hos es es' _ h1 k2,k3.imp_right λq=>⟨q.1,abS q.2 h1⟩⟩
 |.op id off,bU,v,e,r=>hos _ bU v rfl e r
 |.oe id g i off,bU,v,e,r=>hos _ bU v rfl e r
 |.om id,bU,v,e,r=>hos _ bU v rfl e r
 |.fn f cs,bU,v,e,r=>by
  have e':(Zw σ n d cs).map (.fn f)=δ bU:=by cases d<;>simpa [Xz]using e
  obtain⟨cs',h1,rfl⟩:=cO.1 e';simp only[an]at r ⊢;obtain⟨g,vs,e,k,r1⟩:=r;exact⟨g,vs,e,by rw[h.nm];exact k,A5 h d hos cs cs' _ h1 r1⟩
 |.lbx cs,bU,v,e,r=>by cases d<;>simp [Xz]at e
 |.os id g sz off len,bU,v,e,r=>hos _ bU v rfl e r
theorem A5(h:uu c c' σ n)(d:Nat)(hos:∀av bU v,zb av=θ->Xz σ n d av=δ bU->an c av v->an c' bU v):∀(l l':List U)(vs:List Value),Zw σ n d l=δ l'->aF c l vs->aF c' l' vs
 |[],l',vs,e,r=>by simp only[Zw]at e;injection e with e;subst e;simpa [aF]using r
 |x::l,l',vs,e,r=>by simp only[Zw]at e;obtain⟨y,h1,h2⟩:=bg.1 e;obtain⟨l2,h3,rfl⟩:=cO.1 h2;simp only[aF]at r ⊢;obtain⟨v,vs',e,r1,r2⟩:=r;exact⟨v,vs',e,Bf h d hos x y v h1 r1,A5 h d hos l l2 vs' h3 r2⟩
theorem GB(h:uu c c' σ n)(d:Nat)(hos:∀av bU v,zb av=θ->Xz σ n d av=δ bU->an c av v->an c' bU v):∀(l l':List (U×U))(es:List MapEntry),A.pK σ n d l=δ l'->bN c l es->bN c' l' es
 |[],l',es,e,r=>by simp only[A.pK]at e;injection e with e;subst e;simpa [bN]using r
 |(k,v)::l,l',es,e,r=>by simp only[A.pK]at e;obtain⟨k',h1,h2⟩:=bg.1 e;obtain⟨v',h3,h4⟩:=bg.1 h2;obtain⟨l2,h5,rfl⟩:=cO.1 h4;simp only[bN]at r ⊢;obtain⟨x,es',e,r1,r2,r3⟩:=r;exact⟨x,es',e,Bf h d hos k k' _ h1 r1,Bf h d hos v v' _ h3 r2,GB h d hos l l2 es' h5 r3⟩
theorem A4(h:uu c c' σ n)(d:Nat)(hos:∀av bU v,zb av=θ->Xz σ n d av=δ bU->an c av v->an c' bU v)(b:Nat):∀(l l':List U)(off:Nat),Zw σ n d l=δ l'->aT c b off l->aT c' b off l'
 |[],l',off,e,r=>by simp only[Zw]at e;injection e with e;subst e;simp [aT]
 |x::l,l',off,e,r=>by simp only[Zw]at e;obtain⟨y,h1,h2⟩:=bg.1 e;obtain⟨l2,h3,rfl⟩:=cO.1 h2;simp only[aT]at r ⊢;obtain⟨⟨v,e1,e2,r1⟩,r2⟩:=r;exact⟨⟨v,by rw[h.w];exact e1,e2,Bf h d hos x y v h1 r1⟩,A4 h d hos b l l2 (off+1) h3 r2⟩
theorem CP(h:uu c c' σ n)(d:Nat)(hos:∀av bU v,zb av=θ->Xz σ n d av=δ bU->an c av v->an c' bU v)(sz b:Nat):∀(l l':List (List U))(off:Nat),A.ko σ n d l=δ l'->aY c sz b off l->aY c' sz b off l'
 |[],l',off,e,r=>by simp only[A.ko]at e;injection e with e;subst e;simp [aY]
 |x::l,l',off,e,r=>by simp only[A.ko]at e;obtain⟨y,h1,h2⟩:=bg.1 e;obtain⟨l2,h3,rfl⟩:=cO.1 h2;simp only[aY]at r ⊢;exact⟨by rw[LM d x y h1];exact r.1,A4 h d hos b x y off h1 r.2.1,CP h d hos sz b l l2 (off+sz) h3 r.2.2⟩
end
structure uC (c0 c c' : RC) : Prop where
 w:c'.w=c.w
 nm:c'.nm=c.nm
 X:∀b,c'.X b->c.X b
 E:∀(id:Nat)(p0 p:Pl),c0.E[id]? =δ p0->c.E[id]? =δ p->c'.E[id]? =δ p
mutual
theorem Bc{c0 c c':RC}(h:uC c0 c c'):∀(av:U)(v0 v:Value),an c0 av v0->an c av v->an c' av v
 |.undef,v0,v,r0,r=>by simp [an]
 |.int k m,v0,v,r0,r=>by simpa [an]using r
 |.bool b,v0,v,r0,r=>by simpa [an]using r
 |.str s,v0,v,r0,r=>by simpa [an]using r
 |.bA,v0,v,r0,r=>by simpa [an]using r
 |.ez,v0,v,r0,r=>by simpa [an]using r
 |.np,v0,v,r0,r=>by simpa [an]using r
 |.nm,v0,v,r0,r=>by simpa [an]using r
 |.fm es,v0,v,r0,r=>by simp only[an]at r0 r ⊢;obtain⟨_,_,_,_,_,_,_,_,_,r0,_⟩:=r0;obtain⟨b,e,hb,hx,aV,bh,k1,kw,l,k2,k3⟩:=r;exact⟨b,e,by rw[h.w];exact hb,λk=>hx (h.X b k),aV,bh,by rw[h.w];exact k1,kw,l,Gv h es _ _ r0 k2,k3⟩
 |.uI,v0,v,r0,r=>by simpa [an]using r
 |.agg cs,v0,v,r0,r=>by simp only[an]at r0 r ⊢;obtain⟨yt,_,zY,_⟩:=r0;obtain⟨vs,e,r1,r2⟩:=r;exact⟨vs,e,Gu h cs _ _ zY r1,r2⟩
 |.az cs,v0,v,r0,r=>by simp only[an]at r0 r ⊢;obtain⟨yt,_,zY⟩:=r0;obtain⟨vs,e,r1⟩:=r;exact⟨vs,e,Gu h cs _ _ zY r1⟩
 |.sl sz es,v0,v,r0,r=>by
  simp only[an]at r0 r ⊢;obtain⟨_,_,_,_,_,r0⟩:=r0;obtain⟨q,cap,e,k1,k2,r⟩:=r;refine⟨q,cap,e,k1,k2,?_⟩;rcases r with r|⟨b,off,e2,hb,hx,r⟩
  ·exact .inl r
  ·rcases r0 with r0|⟨b0,oQ,_,_,_,r0⟩
   ·exact .inl r0
   ·exact .inr ⟨b,off,e2,by rw[h.w];exact hb,λk=>hx (h.X b k),Gt h sz b0 b es oQ off r0 r⟩
 |.rp cs,v0,v,r0,r=>by simp only[an]at r0 r ⊢;obtain⟨b0,oQ,_,_,_,r0⟩:=r0;obtain⟨b,off,e2,hb,hx,r⟩:=r;exact⟨b,off,e2,by rw[h.w];exact hb,λk=>hx (h.X b k),CO h b0 b cs oQ off r0 r⟩
 |.op id off,v0,v,r0,r=>by simp only[an]at r0 r ⊢;obtain⟨p0,e0,_⟩:=r0;obtain⟨p,e1,e2,e3⟩:=r;exact⟨p,h.E id p0 p e0 e1,e2,e3⟩
 |.oe id g i off,v0,v,r0,r=>by simp only[an]at r0 r ⊢;obtain⟨_,p0,e0,_⟩:=r0;obtain⟨hg,p,e1,e2⟩:=r;exact⟨hg,p,h.E id p0 p e0 e1,e2⟩
 |.os id g sz off len,v0,v,r0,r=>by simp only[an]at r0 r ⊢;obtain⟨_,p0,e0,_⟩:=r0;obtain⟨hg,p,e1,e2⟩:=r;exact⟨hg,p,h.E id p0 p e0 e1,e2⟩
 |.om id,v0,v,r0,r=>by simp only[an]at r0 r ⊢;obtain⟨p0,e0,_⟩:=r0;obtain⟨p,e1,e2,e3⟩:=r;exact⟨p,h.E id p0 p e0 e1,e2,e3⟩
 |.fn f cs,v0,v,r0,r=>by simp only[an]at r0 r ⊢;obtain⟨_,_,_,_,r0⟩:=r0;obtain⟨g,vs,e1,e2,r⟩:=r;exact⟨g,vs,e1,by rw[h.nm];exact e2,Gu h cs _ _ r0 r⟩
 |.lbx cs,v0,v,r0,r=>by simp [an]at r
theorem Gu{c0 c c':RC}(h:uC c0 c c'):∀(l:List U)(yt vs:List Value),aF c0 l yt->aF c l vs->aF c' l vs
 |[],yt,vs,r0,r=>by simpa [aF]using r
 |x::l,yt,vs,r0,r=>by simp only[aF]at r0 r ⊢;obtain⟨v0,us0,_,zY,OO⟩:=r0;obtain⟨v,us,e,r1,r2⟩:=r;exact⟨v,us,e,Bc h x _ _ zY r1,Gu h l _ _ OO r2⟩
theorem Gv{c0 c c':RC}(h:uC c0 c c'):∀(l:List (U×U))(gH es:List MapEntry),bN c0 l gH->bN c l es->bN c' l es
 |[],gH,es,r0,r=>by simpa [bN]using r
 |(k,v)::l,gH,es,r0,r=>by simp only[bN]at r0 r ⊢;obtain⟨e0,agZ,_,k1,k2,k3⟩:=r0;obtain⟨e,es',e1,j1,j2,j3⟩:=r;exact⟨e,es',e1,Bc h k _ _ k1 j1,Bc h v _ _ k2 j2,Gv h l agZ es' k3 j3⟩
theorem CO{c0 c c':RC}(h:uC c0 c c')(b0 b:Nat):∀(l:List U)(oQ off:Nat),aT c0 b0 oQ l->aT c b off l->aT c' b off l
 |[],oQ,off,r0,r=>by simp [aT]
 |x::l,oQ,off,r0,r=>by simp only[aT]at r0 r ⊢;obtain⟨⟨v0,_,_,zY⟩,OO⟩:=r0;obtain⟨⟨v,e1,e2,r1⟩,r2⟩:=r;exact⟨⟨v,by rw[h.w];exact e1,e2,Bc h x _ _ zY r1⟩,CO h b0 b l _ _ OO r2⟩
theorem Gt{c0 c c':RC}(h:uC c0 c c')(sz b0 b:Nat):∀(l:List (List U))(oQ off:Nat),aY c0 sz b0 oQ l->aY c sz b off l->aY c' sz b off l
 |[],oQ,off,r0,r=>by simp [aY]
 |x::l,oQ,off,r0,r=>by simp only[aY]at r0 r ⊢;exact⟨r.1,CO h b0 b x _ _ r0.2.1 r.2.1,Gt h sz b0 b l _ _ r0.2.2 r.2.2⟩
end
theorem LK{c0 c c':RC}(h:uC c0 c c'){p0 p:Pl}{x:bH}(k0:mF c0 p0 x)(k:mF c p x):mF c' p x:=by
 cases x with
 |box cs=>obtain⟨h1,⟨⟨arr,t,h2,h3⟩,h4⟩⟩:=k;exact⟨h1,⟨arr,t,by rw[h.w];exact h2,h3⟩,CO h _ _ cs _ _ k0.2.2 h4⟩
 |arr g sz es=>obtain⟨h1,h2,h3,h4,⟨arr,t,h5,h6⟩,h7,h8,h9⟩:=k;obtain⟨_,_,_,_,_,_,k8,_⟩:=k0;exact⟨h1,h2,h3,h4,⟨arr,t,by rw[h.w];exact h5,h6⟩,h7,Gt h sz _ _ es _ _ k8 h8,λarr t fz e=>h9 arr t fz (by rw[<-h.w];exact e)⟩
 |pJ g sz es=>obtain⟨h1,h2,h3,h4,⟨arr,t,h5,h6⟩,h7,h8,h9⟩:=k;obtain⟨_,_,_,_,_,_,k8,_⟩:=k0;exact⟨h1,h2,h3,h4,⟨arr,t,by rw[h.w];exact h5,h6⟩,h7,Gt h sz _ _ es _ _ k8 h8,λarr t fz e=>h9 arr t fz (by rw[<-h.w];exact e)⟩
 |map es=>obtain⟨h1,aV,bh,h2,hw,h3⟩:=k;obtain⟨_,_,_,_,_,k3⟩:=k0;exact⟨h1,aV,bh,by rw[h.w];exact h2,hw,Gv h es _ _ k3 h3⟩
 |it cur left=>
  obtain⟨h1,h2⟩:=k;obtain⟨_,k2⟩:=k0;refine⟨h1,?_⟩;rcases h2 with⟨h2,h2',since,seen,last,h3⟩|⟨m,seen,aV,bh,h3,h4,h5,h6,h7,h8,h9⟩
  ·exact .inl ⟨h2,h2',since,seen,last,by rw[h.w];exact h3⟩
  ·rcases k2 with⟨q1,q2,_⟩|⟨m0,ais,ail,aia,q3,q4,q5,q6,q7,q8,q9⟩
   ·refine .inr ⟨m,seen,aV,bh,by rw[h.w];exact h3,by rw[h.w];exact h4,λk=>h5 (h.X m k),by rw[h.w];exact h6,h7,by rw[q2]at h8 ⊢;exact h8,.inl q1⟩
   ·refine .inr ⟨m,seen,aV,bh,by rw[h.w];exact h3,by rw[h.w];exact h4,λk=>h5 (h.X m k),by rw[h.w];exact h6,h7,(by obtain⟨l0,q8,_⟩:=q8;obtain⟨l,h8,hp⟩:=h8;exact⟨l,Gv h left _ _ q8 h8,hp⟩),?_⟩;rcases h9 with h9|⟨kk,v,e,e1,e2,e3,e4,e5⟩
    ·exact .inl h9
    ·rcases q9 with q9|⟨kk',v',e',f1,f2,f3,f4,f5⟩
     ·exact .inl q9
     ·rw[e1]at f1;simp only[ZX,Θ,and_true]at f1;obtain⟨rfl,rfl⟩:=f1;exact .inr ⟨_,_,e,e1,e2,e3,Bc h _ _ _ f4 e4,Bc h _ _ _ f5 e5⟩
def ag1:bH->Nat
 |.arr g _ _=>g
 |.pJ g _ _=>g
 |_=>0
theorem L4{c:RC}{p:Pl}{x:bH}(k:mF c p x):p.g=ag1 x:=by cases x<;>exact k.1
theorem SG{c0 c c':RC}(h:uC c0 c c')(sz b:Nat):∀(l:List (List U))(off:Nat),(∀y∈l,∃b0 o0,aT c0 b0 o0 y)->aY c sz b off l->aY c' sz b off l
 |[],off,h0,r=>by simp [aY]
 |x::l,off,h0,r=>by simp only[aY]at r ⊢;obtain⟨b0,o0,k⟩:=h0 x (by simp);exact⟨r.1,CO h b0 b x _ _ k r.2.1,SG h sz b l _ (λy hy=>h0 y (by simp [hy])) r.2.2⟩
theorem Sp{c:RC}:∀{args:List U}{vs:List Value},aF c args vs->∀y∈A.rowsOf args,∃b0 o0,aT c b0 o0 y
 |[],_,_,y,hy=>by simp [A.rowsOf]at hy
 |a::args,vs,h,y,hy=>by
  simp only[aF]at h;obtain⟨v,vs',rfl,h1,h2⟩:=h;simp only[A.rowsOf,gV]at hy;rcases hy with hy|hy
  ·cases a<;>simp only[ZK]at hy;rename_i sz es;simp only[an]at h1;obtain⟨a,cap,rfl,_,_,h3⟩:=h1;rcases h3 with h3|⟨b,off,_,_,_,h4⟩
   ·rw[h3]at hy;cases hy
   ·obtain⟨i,hi⟩:=Dv.1 hy;exact⟨_,_,(als h4 hi).2⟩
  ·exact Sp h2 y hy
theorem vk(h:uu c c' σ n):∀(d:Nat)(av bU:U)(v:Value),Xz σ n d av=δ bU->an c av v->an c' bU v
 |0=>Bf h 0 (λav bU v ho e r=>by cases av<;>first|(simp [Xz]at e;done)|(simp [zb]at ho;done))
 |d+1=>Bf h (d+1) (λav bU v ho e r=>match av,ho,e,r with
  |.op id off,_,e,r=>by
   simp only[Xz]at e;simp only[an]at r;obtain⟨p,h1,h2,rfl⟩:=r;split at e
   ·rename_i hlt;injection e with e;subst e
    simp only[an];exact⟨p,h.E id p hlt h1,h2,rfl⟩
   ·rename_i hge;split at e
    ·rename_i cs hs;obtain⟨cs',e1,rfl⟩:=cO.1 e;rw[GS]at e1;obtain⟨j1,⟨⟨arr,t,j2,j3⟩,j4⟩⟩:=h.heap.blk id p _ h1 hs;simp only[an];refine⟨p.b,off,rfl,by rw[h.w];exact(uq.1 j2).1,h.HQ id p (by omega) h1,?_⟩;have j5:=j4.drop off;rw[Zm]at j5;exact A4 h d (λav bU v _ e r=>vk h d _ _ _ e r) p.b _ cs' _ e1 j5
    ·cases e
  |.oe id g i off,_,e,r=>by
   simp only[Xz]at e;simp only[an]at r;obtain⟨hg,p,h1,h2,a,rfl,h3⟩:=r;split at e
   ·rename_i hlt;injection e with e;subst e
    simp only[an];exact⟨hg,p,h.E id p hlt h1,h2,a,rfl,h3⟩
   ·rename_i hge;split at e
    ·rename_i g' sz' es hs;split at e
     ·rename_i hc;subst hc;split at e
      ·rename_i el hel;obtain⟨cs',e1,rfl⟩:=cO.1 e;rw[GS]at e1;obtain⟨j1,j2,j3,j4,⟨arr,bt,j5,j6⟩,j7,j8,j9⟩:=h.heap.blk id p _ h1 hs;have ha:=h3 j1.symm;subst ha;simp only[an];refine⟨p.b,_,rfl,by rw[h.w];exact(uq.1 j5).1,h.HQ id p (by omega) h1,?_⟩;rw[j3];have j9:=(j8.nth hel).2.drop off;exact A4 h d (λav bU v _ e r=>vk h d _ _ _ e r) p.b _ cs' _ e1 j9
      ·cases e
     ·cases e
    ·cases e
  |.om id,_,e,r=>by
   simp only[Xz]at e;simp only[an]at r;obtain⟨p,h1,h2,rfl⟩:=r;split at e
   ·rename_i hlt;injection e with e;subst e
    simp only[an];exact⟨p,h.E id p hlt h1,h2,rfl⟩
   ·rename_i hge;split at e
    ·rename_i es hs;obtain⟨es',e1,rfl⟩:=cO.1 e;rw[SP]at e1;obtain⟨j1,aV,bh,j2,jw,j3⟩:=h.heap.blk id p _ h1 hs;simp only[an];exact⟨p.b,rfl,by rw[h.w];exact(uq.1 j2).1,h.HQ id p (by omega) h1,aV,bh,by rw[h.w];exact j2,jw,_,GB h d (λav bU v _ e r=>vk h d _ _ _ e r) _ es' _ e1 j3,.inl rfl⟩
    ·cases e
  |.os id g sz off len,_,e,r=>by
   simp only[Xz]at e;simp only[an]at r;obtain⟨hg,p,h1,h2,q,cap,rfl,h3,r⟩:=r;split at e
   ·rename_i hlt;injection e with e;subst e
    simp only[an];exact⟨hg,p,h.E id p hlt h1,h2,q,cap,rfl,h3,r⟩
   ·rename_i hge;split at e
    ·rename_i g' sz' es hs;split at e
     ·rename_i hc;obtain⟨rfl,rfl,hle⟩:=hc;obtain⟨es',e1,rfl⟩:=cO.1 e;rw[GA]at e1;obtain⟨j1,j2,j3,j4,⟨arr,bt,j5,j6⟩,j7,j8,j9⟩:=h.heap.blk id p _ h1 hs;obtain⟨k1,k2,k3⟩:=r j1.symm;have hl:=CI d _ _ e1;have qy:((es.drop off).take len).length=len:=by simp;omega
      simp only[an];refine⟨δ q,cap,by rw[hl,qy],by rw[hl,qy];exact h3,j4,?_⟩;by_cases hz:len=0
      ·left;apply ze;rw[hl,qy,hz]
      ·right
       have hq:q=⟨p.b,p.base+off*p.sz,μ⟩:=by
        rcases k2 with k2|k2
        ·omega
        ·exact k2
       refine⟨p.b,p.base+off*p.sz,by rw[hq],by rw[h.w];exact(uq.1 j5).1,h.HQ id p (by omega) h1,?_⟩;refine CP h d (λav bU v _ e r=>vk h d _ _ _ e r) sz p.b _ es' _ e1 ?_;rw[j3];exact(j8.drop off).take len
     ·cases e
    ·cases e)
end
section
variable {c c' : RC} {σ : Heap} {n : Nat}
theorem acz{es es':List (U×U)}(hp:es.Perm es'):∀{l:List MapEntry},bN c es l->∃l',bN c es' l'/\l'.Perm l:=by
 induction hp with
 |nil=>intro l h;exact⟨l,h,.refl _⟩
 |cons x _ ih=>intro l h;obtain⟨e,l1,rfl,h2,h3,h4⟩:=h;obtain⟨l',k1,k2⟩:=ih h4;exact⟨e::l',⟨_,_,rfl,h2,h3,k1⟩,k2.cons e⟩
 |swap x y l0=>intro l h;obtain⟨e,l1,rfl,h2,h3,e',l2,rfl,h4,h5,h6⟩:=h;exact⟨e'::e::l2,⟨_,_,rfl,h4,h5,_,_,rfl,h2,h3,h6⟩,.swap _ _ _⟩
 |trans _ _ ih1 ih2=>intro l h;obtain⟨l1,k1,k2⟩:=ih1 h;obtain⟨l2,k3,k4⟩:=ih2 k1;exact⟨l2,k3,k4.trans k2⟩
theorem abF(es:List (U×U)):(A.UW es).Perm es:=Zt (p:=λl:List (U×U)=>l.Perm es) ⟨es,.refl _⟩
theorem ad4{x:U}{v:Value}(r:an c x v):an c (A.can x) v:=by
 cases x<;>try exact r
 case fm es=>
  unfold A.can;simp only;split
  ·rename_i hd;simp only[an]at r ⊢;obtain⟨b,e,hb,hx,aV,bh,k1,kw,l,k2,k3⟩:=r;have hp:=abF es;obtain⟨l',j1,j2⟩:=acz hp.symm k2;refine⟨b,e,hb,hx,aV,bh,k1,kw,l',j1,.inr ⟨?_,?_⟩⟩
   ·rcases k3 with rfl|⟨k3,_⟩
    ·exact j2
    ·exact j2.trans k3
   ·exact⟨λp hp'=>hd.1 p (hp.mem_iff.1 hp'),(hp.map _).nodup_iff.2 hd.2⟩
  ·exact r
theorem Lm{b:Nat}:∀{l:List U}{off:Nat},aT c b off l->aT c b off (l.map A.can)
 |[],off,_=>by simp [aT]
 |x::l,off,r=>by simp only[fH,aT]at r ⊢;obtain⟨⟨v,h1,h2,h3⟩,h4⟩:=r;exact⟨⟨v,h1,h2,ad4 h3⟩,Lm h4⟩
theorem Ln{sz b:Nat}:∀{l:List (List U)}{off:Nat},aY c sz b off l->aY c sz b off (l.map (·.map A.can))
 |[],off,_=>by simp [aY]
 |x::l,off,r=>by simp only[fH,aY,Yo]at r ⊢;exact⟨r.1,Lm r.2.1,Ln r.2.2⟩
theorem adh(h:uu c c' σ n){p:Pl}{x x':bH}(e:A.Ni σ n x=δ x')(k:mF c p x):mF c' p x':=by
 have hos:∀av bU v,zb av=θ->Xz σ n 8 av=δ bU->an c av v->an c' bU v:=λav bU v _ e r=>vk h 8 _ _ _ e r
 cases x with
 |box cs=>obtain⟨cs',e1,rfl⟩:=cO.1 e;obtain⟨h1,⟨⟨arr,t,h2,h3⟩,h4⟩⟩:=k;exact⟨h1,⟨arr,t,by rw[h.w];exact h2,by rw[Yo,LM 8 _ _ e1];exact h3⟩,Lm (A4 h 8 hos _ _ _ _ e1 h4)⟩
 |arr g sz es=>obtain⟨es',e1,rfl⟩:=cO.1 e;obtain⟨h1,h2,h3,h4,⟨arr,t,h5,h6⟩,h7,h8,h9⟩:=k;exact⟨h1,h2,h3,h4,⟨arr,t,by rw[h.w];exact h5,h6⟩,by rw[Yo,CI 8 _ _ e1];exact h7,Ln (CP h 8 hos _ _ _ _ _ e1 h8),λarr t fz e=>h9 arr t fz (by rw[<-h.w];exact e)⟩
 |pJ g sz es=>obtain⟨es',e1,rfl⟩:=cO.1 e;obtain⟨h1,h2,h3,h4,⟨arr,t,h5,h6⟩,h7,h8,h9⟩:=k;exact⟨h1,h2,h3,h4,⟨arr,t,by rw[h.w];exact h5,h6⟩,by rw[Yo,CI 8 _ _ e1];exact h7,Ln (CP h 8 hos _ _ _ _ _ e1 h8),λarr t fz e=>h9 arr t fz (by rw[<-h.w];exact e)⟩
 |map es=>obtain⟨es',e1,rfl⟩:=cO.1 e;obtain⟨h1,aV,bh,h2,hwf,h3⟩:=k;exact⟨h1,aV,bh,by rw[h.w];exact h2,hwf,GB h 8 hos _ _ _ e1 h3⟩
 |it cur left=>cases e
theorem Rb{n:Nat}:∀{II IJ τ:Heap},A.By σ n II IJ=δ τ->τ.length=II.length/\II.length<=IJ.length/\∀(i:Nat)x,τ[i]? =δ x->∃b b',II[i]? =δ b/\IJ[i]? =δ b'/\((b'=b/\x=b)\/A.Ni σ n b'=δ x)
 |[],IJ,τ,h=>by simp only[A.By]at h;injection h with h;subst h;simp
 |_::_,[],τ,h=>by simp [A.By]at h
 |b::r,b'::r',τ,h=>by
  simp only[A.By]at h;obtain⟨y,h1,h2⟩:=bg.1 h;obtain⟨E8,h3,rfl⟩:=cO.1 h2;obtain⟨k1,k2,k3⟩:=Rb h3;refine⟨by simp [k1],by simp;omega,λi x hi=>?_⟩;cases i with
  |zero=>
   simp only[Z3,χ]at hi;subst hi;refine⟨b,b',rfl,rfl,?_⟩;split at h1
   ·rename_i e;injection h1 with h1
    exact .inl ⟨e,h1.symm⟩
   ·exact .inr h1
  |succ i=>exact k3 i x hi
end
section
variable {X : Fx}
def nN.Ok:nN->Prop
 |.N g=>∀c a v,an c a v->an c (g a) v
 |_=>True
theorem yK(hs:fc X){f:FuncId}{fn:Func}{keep:nN}(hkeep:keep.Ok){ck:kr}{args:List U}{σ σ':Heap}{r:U}(hf:X.P.funcs[f]? =δ fn)(Hx:∀cy w,(callFunc f cy).run X.P w=.ok (.enter f cy) w)
  (hr:nQ X keep ck fn args σ=δ (r,σ')):jH X.P X.nm f args σ r σ':=by
 refine .inl ⟨f,Hx,λz vs hnm hlt hh ha=>?_⟩;unfold nQ at hr;cases hb:fn.body with
 |none=>rw[hb]at hr;cases hr
 |some c=>
  rw[hb]at hr;simp only at hr;cases hc:(Nat.ble args.length fn.ntmps&&X.n==fn.ntmps)
  ·rw[hc]at hr;cases hr
  ·rw[hc]at hr;simp only[n8,aZ]at hr;simp only[dr,beq_iff_eq]at hc;obtain⟨hc1,hc2⟩:=hc;have hle:args.length<=fn.ntmps:=Nat.le_of_ble_eq_true hc1;have hal:=ha.length;have aiF:args.length=vs.size:=by simpa using hal
   have hst:St X z ⟨args++w4 (fn.ntmps-args.length) (.az []),λ_=>μ,σ⟩ {tmps:=vs++WL (fn.ntmps-vs.size) undef,defers:=[]} z.w z.E cg:=by
    have UA:∀i av,(args++w4 (fn.ntmps-args.length) (.az []))[i]? =δ av->an (ctx z z.w z.E cg) av ((vs++WL (fn.ntmps-vs.size) undef).getD i undef):=by
     intro i av hi;by_cases hlt':i<args.length
     ·rw[iV hlt']at hi;obtain⟨v,k1,k2⟩:=ha.nth hi
      have:(vs++WL (fn.ntmps-vs.size) undef).getD i undef=v:=by rw[kY,Array.getElem?_append_left (by omega),<-Zq,k1];rfl
      rw[this];exact k2
     ·rw[jL (by omega)]at hi;have hm:=cZ hi;rw[ZS]at hm;rw[hm.2]
      have:(vs++WL (fn.ntmps-vs.size) undef).getD i undef=undef:=by rw[kY,Array.getElem?_append_right (by omega),Array.getElem?_replicate];split<;>rfl
      rw[this];simp only[an];exact⟨#[],rfl,by simp [aF]⟩
    refine⟨by simp;omega,by simp;omega,λi av hi=>Slot.of (UA i av hi),λi cs hi=>?_,(λt p hp=>by cases hp),(λi b hb=>by cases hb),(λi j b hb=>by cases hb),hh,rfl,?_,hnm.symm⟩
    ·have:=UA i _ hi;simp [an]at this
    ·exact⟨rfl,rfl,rfl,bL _,λ_ _ _=>rfl,λi p hp=>.inr ⟨p,hp,rfl⟩,λi p hp=>⟨p,hp,.inl rfl⟩,hlt,λp hp=>hh.lt hp⟩
   refine calls_of_wp hf hb (tW hs c ck _ _ _ _ _ _ _ _ hr hst λe s' a' w' E' bD h' _ hk=>?_)
   have hno:Ext (ctx z w' E' bD) (ctx z w' E' cg):=Ext.same rfl rfl (λb k=>by
    rcases k with k|k|⟨i,k⟩
    ·exact .inl k
    ·exact .inr (.inl k)
    ·cases k) rfl
   have U0:∀(x:U)(v:Value)(r:U)(σ':Heap),an (ctx z w' E' bD) x v->Ξ σ x s'.σ=δ (r,σ')->∃ku,Out z w' ku/\fS (ctx z w' ku cg) σ'/\an (ctx z w' ku cg) r v:=by
     intro x v r σ' rv k3;unfold Ξ at k3;split at k3
     ·rename_i he;simp only[χ,Θ]at k3;obtain⟨rfl,rfl⟩:=k3;exact⟨E',h'.out,by rw[<-he];exact h'.heap.mono hno rfl (λp hp=>rfl),Yz hno _ _ rv⟩
     ·split at k3
      ·rename_i he;obtain⟨r',k6,k7⟩:=cO.1 k3;simp only[Θ]at k7;obtain⟨rfl,rfl⟩:=k7;have hlen:=h'.heap.len;simp only[ctx]at hlen;have hzl:z.E.length=σ.length:=hh.len
       have ahb:σ.length<=s'.σ.length:=by have:=congrArg List.length he;simp at this;omega
       have wC:∀(id:Nat)(p:Pl),id<σ.length->E'[id]? =δ p->(E'.take σ.length)[id]? =δ p:=λid p hlt' hp=>by rw[ZU hlt'];exact hp
       have sN:∀(id:Nat)(p:Pl),(E'.take σ.length)[id]? =δ p->id<σ.length/\E'[id]? =δ p:=λid p hp=>by
        rw[alg]at hp;split at hp
        ·exact⟨by assumption,hp⟩
        ·cases hp
       have sE:uu (ctx z w' E' bD) (ctx z w' (E'.take σ.length) cg) s'.σ σ.length:=by
        refine⟨rfl,rfl,λb k=>?_,wC,h'.heap,λid p hge hp k=>?_⟩
        ·rcases k with k|⟨p,hp,k⟩|⟨i,k⟩
         ·exact .inl k
         ·exact .inr (.inl ⟨p,xG hp,k⟩)
         ·cases k
        ·rcases k with k|⟨q,hq,k⟩|⟨i,k⟩
         ·have hb:=hlt _ k;rcases h'.out.fresh' id p hp with e|⟨q,hq,_⟩
          ·omega
          ·rw[lP (by omega)]at hq;cases hq
         ·obtain⟨j,hj,rfl⟩:=Y0.1 hq;obtain⟨h1,h2⟩:=sN j _ (bT hj);have:=h'.heap.inj j id _ p h2 hp k;omega
         ·cases k
       have heq:∀(id:Nat),id<σ.length->σ[id]? =s'.σ[id]? :=λid hlt'=>by have h1:(List.take σ.length s'.σ)[id]? =s'.σ[id]? :=ZU hlt';rw[he]at h1;exact h1
       have held:uC (ctx z z.w z.E cg) (ctx z w' E' bD) (ctx z w' (E'.take σ.length) cg):=
        ⟨rfl,rfl,sE.X,λid p0 p e0 e1=>wC id p (by have:=(cL.1 e0).1;simp only[ctx]at this;omega) e1⟩
       refine⟨E'.take σ.length,?_,?_,vk sE 8 _ _ _ k6 rv⟩
       ·have o:=h'.out
        exact⟨o.os,o.tape,o.output,o.size,o.stay,λi p hp=>o.fresh' i p (sN i p hp).2,λi p hp=>by
         obtain⟨p',m1,m2⟩:=o.env i p hp
         exact⟨p',wC i p' (by have:=(cL.1 hp).1;omega) m1,m2⟩,o.lt,o.mine⟩
       ·refine⟨by simp only[ctx,mL];omega,λi j p q hp hq e=>h'.heap.inj i j p q (sN i p hp).2 (sN j q hq).2 e,λi p x hp hx=>?_⟩;obtain⟨hi,hp2⟩:=sN i p hp;have dP:z.E[i]? =δ z.E[i]:=bT (by omega);exact LK held (hh.blk i _ x dP hx) (h'.heap.blk i p x hp2 (by rw[<-heq i hi];exact hx))
      ·cases k3
   have DE:∀(x:U)(v:Value)(r:U)(σ':Heap),an (ctx z w' E' bD) x v->A.DE σ x s'.σ=δ (r,σ')->∃ku,Out z w' ku/\fS (ctx z w' ku cg) σ'/\an (ctx z w' ku cg) r v:=by
     intro x v r σ' rv k3;unfold A.DE at k3;obtain⟨τ,q0,k4⟩:=bg.1 k3;obtain⟨r',k6,k7⟩:=cO.1 k4;simp only[Θ]at k7;obtain⟨rfl,rfl⟩:=k7;obtain⟨q1,ahb,q3⟩:=Rb q0;have hlen:=h'.heap.len;simp only[ctx]at hlen;have hzl:z.E.length=σ.length:=hh.len;have wC:∀(id:Nat)(p:Pl),id<σ.length->E'[id]? =δ p->(E'.take σ.length)[id]? =δ p:=λid p hlt' hp=>by rw[ZU hlt'];exact hp
     have sN:∀(id:Nat)(p:Pl),(E'.take σ.length)[id]? =δ p->id<σ.length/\E'[id]? =δ p:=λid p hp=>by
      rw[alg]at hp;split at hp
      ·exact⟨by assumption,hp⟩
      ·cases hp
     have sE:uu (ctx z w' E' bD) (ctx z w' (E'.take σ.length) cg) s'.σ σ.length:=by
      refine⟨rfl,rfl,λb k=>?_,wC,h'.heap,λid p hge hp k=>?_⟩
      ·rcases k with k|⟨p,hp,k⟩|⟨i,k⟩
       ·exact .inl k
       ·exact .inr (.inl ⟨p,xG hp,k⟩)
       ·cases k
      ·rcases k with k|⟨q,hq,k⟩|⟨i,k⟩
       ·have hb:=hlt _ k;rcases h'.out.fresh' id p hp with e|⟨q,hq,_⟩
        ·omega
        ·rw[lP (by omega)]at hq;cases hq
       ·obtain⟨j,hj,rfl⟩:=Y0.1 hq;obtain⟨h1,h2⟩:=sN j _ (bT hj);have:=h'.heap.inj j id _ p h2 hp k;omega
       ·cases k
     have held:uC (ctx z z.w z.E cg) (ctx z w' E' bD) (ctx z w' (E'.take σ.length) cg):=
      ⟨rfl,rfl,sE.X,λid p0 p e0 e1=>wC id p (by have:=(cL.1 e0).1;simp only[ctx]at this;omega) e1⟩
     refine⟨E'.take σ.length,?_,?_,vk sE 8 _ _ _ k6 rv⟩
     ·have o:=h'.out
      exact⟨o.os,o.tape,o.output,o.size,o.stay,λi p hp=>o.fresh' i p (sN i p hp).2,λi p hp=>by
       obtain⟨p',m1,m2⟩:=o.env i p hp
       exact⟨p',wC i p' (by have:=(cL.1 hp).1;omega) m1,m2⟩,o.lt,o.mine⟩
     ·refine⟨by simp only[ctx,mL];omega,λi j p q hp hq e=>h'.heap.inj i j p q (sN i p hp).2 (sN j q hq).2 e,λi p x hp hx=>?_⟩;obtain⟨hi,hp2⟩:=sN i p hp;obtain⟨b,b',m1,m2,m3⟩:=q3 i x hx;rcases m3 with⟨rfl,rfl⟩|m3
      ·have dP:z.E[i]? =δ z.E[i]:=bT (by omega);exact LK held (hh.blk i _ x dP m1) (h'.heap.blk i p x hp2 m2)
      ·exact adh sE m3 (h'.heap.blk i p b' hp2 m2)
   have done:∀(hk:vV X s' fn.results.toList (λvs=>keep.run args σ (one vs) s'.σ)=δ (r,σ')),
     a'.defers=[]/\∃v,(results fn a'.tmps).run X.P w'=.ok v w'/\∃v' E',Ending.returned v=.returned v'/\Out z w' E'/\fS (ctx z w' E' cg) σ'/\an (ctx z w' E' cg) r v':=by
    intro hk;refine⟨h'.defers,?_⟩;obtain⟨us,jl,k1,k2,k3⟩:=LU h' _ _ _ hk;obtain⟨v,k4,k5⟩:=aaq k1;have rv:=k5 _ _ k2;refine⟨v,k4,v,?_⟩
    have kept:∃E',Ending.returned v=.returned v/\Out z w' E'/\fS (ctx z w' E' cg) s'.σ/\an (ctx z w' E' cg) (one jl) v:=
     ⟨E',rfl,h'.out,h'.heap.mono hno rfl (λp hp=>rfl),Yz hno _ _ rv⟩
    cases keep with
    |K=>simp only[nN.run,χ,Θ]at k3;obtain⟨rfl,rfl⟩:=k3;exact kept
    |F=>obtain⟨ku,q1,q2,q3⟩:=U0 _ _ _ _ rv k3;exact⟨ku,rfl,q1,q2,q3⟩
    |G=>obtain⟨ku,q1,q2,q3⟩:=DE _ _ _ _ rv k3;exact⟨ku,rfl,q1,q2,q3⟩
    |N g=>simp only[nN.run]at k3;obtain⟨⟨r0,aP⟩,k6,k7⟩:=cO.1 k3;simp only[Θ]at k7;obtain⟨rfl,rfl⟩:=k7;obtain⟨ku,q1,q2,q3⟩:=U0 _ _ _ _ rv k6;exact⟨ku,rfl,q1,q2,hkeep _ _ _ q3⟩
    |R=>
     simp only[nN.run]at k3;obtain⟨x,hx⟩:∃x,x=one jl:=⟨_,rfl⟩
     rw[<-hx]at rv k3 kept;unfold A.renew at k3;split at k3
     ·rename_i id g sz off len;split at k3
      ·rename_i g' sz' es hs';split at k3
       ·rename_i hc;obtain⟨rfl,rfl,hle,hlt2⟩:=hc;simp only[an]at rv;obtain⟨hg,p,e1,e2,qa,cp,rfl,hcap,rx⟩:=rv;obtain⟨j1,j2,j3,j4,⟨arr,bt,j5,j6⟩,j7,j8,j9⟩:=h'.heap.blk id p _ e1 hs';obtain⟨q1,q2,q3⟩:=rx j1.symm;have hid:id<E'.length:=(cL.1 e1).1;have jA:((es.drop off).take len).length=len:=by simp;omega
        have hmul:(off+len)*sz<=es.length*sz:=nK _ hle;rw[fU]at hmul;split at k3
        ·simp only[χ,Θ]at k3;obtain⟨rfl,rfl⟩:=k3
         have BW:=h'.move (id:=id) (p:=p) (p':=⟨p.b,p.base+off*sz,akZ args+1,sz,p.nT⟩) (w':=w') (blk:=.arr (akZ args+1) sz ((es.drop off).take len)) e1
          ⟨by omega,by show p.g<akZ args+1;omega⟩ rfl rfl rfl (bL _) (λb _ _=>rfl) (.inl rfl) (λhx=>by
           refine⟨rfl,by show 0<akZ args+1;omega,rfl,j4,⟨arr,bt,j5,j6⟩,?_,?_,j9⟩
           ·rw[jA];show p.base+off*sz+len*sz<=p.nT;omega
           ·exact aY.mono hx sz p.b rfl _ _ ((j8.drop off).take len))
         have ahg:Ext (ctx z w' (E'.set id ⟨p.b,p.base+off*sz,akZ args+1,sz,p.nT⟩) bD) (ctx z w' (E'.set id ⟨p.b,p.base+off*sz,akZ args+1,sz,p.nT⟩) cg):=Ext.same rfl rfl (λb k=>by
          rcases k with k|k|⟨i,k⟩
          ·exact .inl k
          ·exact .inr (.inl k)
          ·cases k) rfl
         refine⟨_,rfl,BW.1.out,BW.1.heap.mono ahg rfl (λp hp=>rfl),?_⟩;simp only[an];refine⟨by omega,⟨p.b,p.base+off*sz,akZ args+1,sz,p.nT⟩,by simp [ctx,hid],bL _,qa,cp,rfl,hcap,λ_=>⟨rfl,?_,?_⟩⟩
         ·rcases q2 with q2|q2
          ·exact .inl q2
          ·exact .inr (by rw[q2,q1];simp)
         ·simp only[Zm];rw[q1,fU]at q3;omega
        ·unfold A.merge at k3;split at k3
         ·rename_i ij g0 NU oQ NJ rest _ _ _;split at k3
          ·rename_i g1 wN sW hs0;split at k3
           ·rename_i Ut;obtain⟨aiH,aip,rfl,hg1,hsame,hF,ahl⟩:=Ut;simp only[χ,Θ]at k3;obtain⟨rfl,rfl⟩:=k3;have hzl:z.E.length=σ.length:=hh.len;have hEl:E'.length=s'.σ.length:=h'.heap.len;have ag9:ij<σ.length:=(cL.1 hs0).1;obtain⟨pz,BY⟩:∃pz,z.E[ij]? =δ pz:=⟨_,bT (by omega)⟩
            obtain⟨y1,y2,y3,y4,y5,y6,y7,y8⟩:=hh.blk ij pz _ BY hs0;obtain⟨p'',sL⟩:∃p'':Pl,p''=⟨p.b,p.base+off*wN,akZ (.os ij g0 NU oQ NJ::rest)+1,wN,p.nT⟩:=⟨_,rfl⟩
            have hne:id≠ij:=by omega
            have Uv:∀(j:Nat)(q p2:Pl),j≠ij->z.E[j]? =δ q->E'[j]? =δ p2->p2=q:=by
             intro j q p2 hj hq hp2;have hjl:j<σ.length:=by rw[<-hzl];exact(cL.1 hq).1
             obtain⟨p3,m1,m2⟩:=h'.out.env j q hq;rw[hp2]at m1;injection m1 with m1;subst m1
             rcases m2 with m2|⟨m2,m3⟩
             ·exact m2
             ·have hsj:=hsame j hjl hj;have hx0:σ[j]? =δ σ[j]:=bT hjl;have u1:=L4 (hh.blk j q _ hq hx0);have u2:=L4 (h'.heap.blk j p2 _ hp2 (by rw[hsj];exact hx0));omega
            have zT:∃p0,E'[ij]? =δ p0:=⟨_,bT (by omega)⟩
            obtain⟨p0,zT⟩:=zT;have aiI:p0.g=g1:=L4 (h'.heap.blk ij p0 _ zT hF)
            have hfr:z.w.heap.size<=p.b:=by
             rcases h'.out.fresh' id p e1 with k|⟨q,hq,_⟩
             ·exact k
             ·rw[lP (by omega)]at hq;cases hq
            have hm:p∈E':=cZ e1
            have hx:Ext (ctx z w' E' bD) (ctx z w' (E'.set ij p'') cg):=by
             refine⟨bL _,λb hb hn=>⟨rfl,?_⟩,λj q hq=>?_,rfl⟩
             ·rintro(k|⟨q,hq,k⟩|⟨i,k⟩)
              ·exact hn (.inl k)
              ·rcases List.mem_or_eq_of_mem_set hq with hq|hq
               ·exact hn (.inr (.inl ⟨q,hq,k⟩))
               ·exact hn (.inr (.inl ⟨p,hm,by rw[<-k,hq,sL]⟩))
              ·cases k
             ·by_cases e:ij=j
              ·subst e;simp only[ctx]at hq;rw[zT]at hq;injection hq with hq;subst hq
               exact⟨p'',by simp only[ctx];rw[vM (cL.1 zT).1],.inr ⟨by omega,by rw[sL];show p0.g<akZ (.os ij g0 NU oQ NJ::rest)+1;omega⟩⟩
              ·exact⟨q,by simp only[ctx]at hq ⊢;rw[W1 e];exact hq,.inl rfl⟩
            have Ef:∀(j:Nat)(q:Pl),(z.E.set ij p'')[j]? =δ q->(j=ij/\q=p'')\/(j≠ij/\z.E[j]? =δ q):=λj q hq=>by
             by_cases e:ij=j
             ·subst e;rw[vM (cL.1 BY).1]at hq;injection hq with hq;exact .inl ⟨rfl,hq.symm⟩
             ·rw[W1 e]at hq;exact .inr ⟨λe'=>e e'.symm,hq⟩
            have Wa:∀(j:Nat)(q:Pl),j≠ij->z.E[j]? =δ q->E'[j]? =δ q:=λj q hj hq=>by have hjl:j<z.E.length:=(cL.1 hq).1;obtain⟨p3,m1,_⟩:=h'.out.env j q hq;rw[m1,Uv j q p3 hj hq m1]
            have held:uC (ctx z z.w z.E cg) (ctx z w' (E'.set ij p'') cg) (ctx z w' (z.E.set ij p'') cg):=by
             refine⟨rfl,rfl,λb k=>?_,λj q0 q OB hq=>?_⟩
             ·rcases k with k|⟨q,hq,k⟩|⟨i,k⟩
              ·exact .inl k
              ·obtain⟨j,hj⟩:=Dv.1 hq;rcases Ef j q hj with⟨e3,e4⟩|⟨e3,e4⟩
               ·subst e3;exact .inr (.inl ⟨q,cZ (i:=j) (by rw[vM (cL.1 zT).1,e4]),k⟩)
               ·exact .inr (.inl ⟨q,cZ (i:=j) (by rw[W1 (λe=>e3 e.symm)];exact Wa j q e3 e4),k⟩)
              ·cases k
             ·simp only[ctx]at OB hq ⊢;by_cases e:ij=j
              ·subst e;rw[vM (cL.1 zT).1]at hq;rw[vM (cL.1 BY).1];exact hq
              ·rw[W1 e]at hq ⊢;rw[Uv j q0 q (λe'=>e e'.symm) OB hq];exact OB
            refine⟨z.E.set ij p'',rfl,?_,?_,?_⟩
            ·have o:=h'.out;refine⟨o.os,o.tape,o.output,o.size,o.stay,λj q hq=>?_,λj q hq=>?_,o.lt,o.mine⟩
             ·rcases Ef j q hq with⟨e3,e4⟩|⟨e3,e4⟩
              ·left;rw[e4,sL];exact hfr
              ·exact .inr ⟨q,e4,rfl⟩
             ·by_cases e:ij=j
              ·subst e;rw[BY]at hq;injection hq with hq;subst hq
               exact⟨p'',vM (cL.1 BY).1,.inr ⟨by omega,by rw[sL];show pz.g<akZ (.os ij g0 NU oQ NJ::rest)+1;omega⟩⟩
              ·exact⟨q,by rw[W1 e];exact hq,.inl rfl⟩
            ·refine⟨by simp [ctx,hzl],λi j q r hq hr he=>?_,λi q x hq cU=>?_⟩
             ·have U4:∀(j:Nat)(q:Pl),z.E[j]? =δ q->q.b<z.w.heap.size:=λj q hq=>hh.lt (p:=q) (cZ hq)
              rcases Ef i q hq with⟨e3,e4⟩|⟨e3,e4⟩<;>rcases Ef j r hr with⟨e5,e6⟩|⟨e5,e6⟩
              ·rw[e3,e5]
              ·have:=U4 j r e6;rw[e4,sL]at he;simp only at he;omega
              ·have:=U4 i q e4;rw[e6,sL]at he;simp only at he;omega
              ·exact hh.inj i j q r e4 e6 he
             ·rcases Ef i q hq with⟨e3,e4⟩|⟨e3,e4⟩
              ·subst e3;rw[vM ag9]at cU;injection cU with cU
               subst cU;subst e4;subst sL;refine⟨rfl,Nat.succ_pos _,rfl,j4,⟨arr,bt,j5,j6⟩,?_,?_,j9⟩
               ·rw[jA];show p.base+off*wN+len*wN<=p.nT;omega
               ·refine SG held wN p.b _ _ (λy hy=>?_) (aY.mono hx wN p.b rfl _ _ ((j8.drop off).take len));rcases ahl y hy with k|k
                ·obtain⟨i,hi⟩:=Dv.1 k;exact⟨_,_,(als y7 hi).2⟩
                ·exact Sp ha y k
              ·rw[W1 (λe=>e3 e.symm)]at cU;have hil:i<σ.length:=(cL.1 cU).1;exact LK held (hh.blk i q x e4 cU) ((h'.heap.blk i q x (Wa i q e3 e4) (by rw[hsame i hil e3];exact cU)).mono hx rfl)
            ·simp only[an];refine⟨Nat.succ_pos _,p'',by simp only[ctx];exact vM (cL.1 BY).1,by rw[sL];exact bL _,qa,cp,by rw[jA],by rw[jA];exact hcap,λ_=>⟨by rw[sL],?_,?_⟩⟩
             ·rcases q2 with q2|q2
              ·exact .inl q2
              ·exact .inr (by rw[q2,q1,sL];simp)
             ·rw[sL];simp only[Zm];rw[q1,fU]at q3;omega
           ·cases k3
          ·cases k3
         ·cases k3
       ·cases k3
      ·cases k3
     ·simp only[χ,Θ]at k3;obtain⟨rfl,rfl⟩:=k3;exact kept
     ·simp only[χ,Θ]at k3;obtain⟨rfl,rfl⟩:=k3;exact kept
     ·simp only[χ,Θ]at k3;obtain⟨rfl,rfl⟩:=k3;exact kept
     ·cases k3
   cases e with
   |normal=>exact done hk
   |ret=>exact done hk
   |exit i=>cases hk
end
end
section
open Go.RowKit
inductive Sh where
 |k
 |s(sz:Nat)
 |e(sz:Nat)(l:List Sh)
 |a(l:List Sh)
 |t(l:List Sh)
 |p(l:List Sh)
namespace A
mutual
def nn:Sh->U->U
 |.k,v=>v
 |.s sz,v=>match v with|.bA=>.sl sz []|.ez=>.sl sz []|v=>v
 |.e sz l,v=>match v with|.bA=>.sl sz []|.ez=>.sl sz []|.sl sz' es=>.sl sz' (es.map (eo l))|v=>v
 |.a l,v=>match v with|.agg cs=>.agg (eo l cs)|v=>v
 |.t l,v=>match v with|.az vs=>.az (eo l vs)|v=>v
 |.p l,v=>match v with|.rp cs=>.rp (eo l cs)|v=>v
def eo:List Sh->List U->List U
 |[],vs=>vs
 |s::ss,vs=>match vs with|[]=>[]|v::vs=>nn s v::eo ss vs
end
def HY:U->Bool
 |.os ..=>θ
 |.op ..=>θ
 |.oe ..=>θ
 |.om ..=>θ
 |_=>ξ
def own:U->Bool
 |.agg cs=>cs.any HY
 |v=>HY v
def rj:U->Bool
 |.int ..=>θ
 |.bool ..=>θ
 |.str ..=>θ
 |.np=>θ
 |.bA=>θ
 |.ez=>θ
 |.nm=>θ
 |.uI=>θ
 |.sl _ []=>θ
 |_=>ξ
def qm:U->Bool
 |.agg cs=>cs.all rj
 |v=>rj v
def xT:U->Bool
 |.az vs=>vs.all qm
 |v=>qm v
def fresh(v:U):Bool:=match v with
 |.os ..=>θ
 |.om _=>θ
 |v=>qm v
def vw:U->Bool
 |.az vs=>vs.all fresh
 |v=>fresh v
def Dd:bH->Bool
 |.box cs=>cs.all rj
 |.arr _ _ es=>es.all λe=>e.all rj
 |.map es=>es.all λp=>qm p.1&&qm p.2
 |_=>ξ
def shift(n:Nat)(v:U):U:=match v with
 |.os id g sz off len=>.os (id+n) g sz off len
 |.om id=>.om (id+n)
 |v=>v
def uh(n:Nat):U->U
 |.az vs=>.az (vs.map (shift n))
 |v=>shift n v
def wrap (ro:Bool) (dc:List Sh) (dw:Sh) (r:List U->Heap->Option (U×Heap)) (args:List U) (σ:Heap):Option (U×Heap):=bif ro&&args.any own then (dZ σ 0 8 args).bind λargs=>(r (eo dc args) []).bind λq=>bif vw (nn dw q.1)&&q.2.all Dd then δ (uh σ.length (nn dw q.1),σ++q.2)else μ else(r (eo dc args) σ).map λq=>(nn dw q.1,q.2)
end A
def Sound(P:Program)(nm:List Nat)(f:FuncId)(m:List U->Heap->Option (U×Heap)):Prop:=∀args σ r σ',m args σ=δ (r,σ')->jH P nm f args σ r σ'
section
variable {P : Program} {nm : List Nat} {f : FuncId} {c c' : RC}
theorem TJ{v:Value}(sz:Nat)(hsz:0<sz)(h:an c .bA v):an c (.sl sz []) v:=by simp only[an]at h ⊢;subst h;exact⟨μ,0,rfl,bL _,hsz,.inl trivial⟩
theorem Uo{v:Value}(sz:Nat)(hsz:0<sz)(h:an c .ez v):an c (.sl sz []) v:=by simp only[an]at h ⊢;obtain⟨a,rfl⟩:=h;exact⟨a,0,rfl,bL _,hsz,.inl trivial⟩
mutual
def Sh.ok:Sh->Bool
 |.k=>θ
 |.s sz=>akK 0 sz
 |.e sz l=>akK 0 sz&&Sh.eB l
 |.a l=>Sh.eB l
 |.t l=>Sh.eB l
 |.p l=>Sh.eB l
def Sh.eB:List Sh->Bool
 |[]=>θ
 |x::l=>x.ok&&Sh.eB l
end
theorem S3:∀(l:List Sh)(cs:List U),(A.eo l cs).length=cs.length
 |[],cs=>by simp [A.eo]
 |_::_,[]=>by simp [A.eo]
 |o::l,v::cs=>by simp [A.eo,S3 l cs]
mutual
theorem Hi:∀(s:Sh)(a:U)(v:Value),s.ok=θ->an c a v->an c (A.nn s a) v
 |.k,a,v,_,h=>by simpa [A.nn]using h
 |.s sz,a,v,ho,h=>by cases a<;>simp only[A.nn]<;>first|exact h|exact TJ sz (by simpa [Sh.ok]using ho) h|exact Uo sz (by simpa [Sh.ok]using ho) h
 |.e sz l,a,v,ho,h=>by
  simp only[Sh.ok,dr]at ho;cases a<;>simp only[A.nn]<;>first|exact h|exact TJ sz (by simpa using ho.1) h|exact Uo sz (by simpa using ho.1) h|skip
  simp only[an]at h ⊢;obtain⟨a,cap,e,h1,h2,h3⟩:=h;refine⟨a,cap,by rw[Yo];exact e,by rw[Yo];exact h1,h2,?_⟩;rcases h3 with h3|⟨b,off,e1,e2,e3,e4⟩
  ·left;rw[h3];rfl
  ·right;exact⟨b,off,e1,e2,e3,TI l ho.2 _ _ e4⟩
 |.a l,a,v,ho,h=>by
  simp only[Sh.ok]at ho;cases a<;>simp only[A.nn]<;>first|exact h|skip
  simp only[an]at h ⊢;obtain⟨vs,e,h1,h2⟩:=h;exact⟨vs,e,C8 l _ _ ho h1,h2⟩
 |.t ss,a,v,ho,h=>by
  simp only[Sh.ok]at ho;cases a<;>simp only[A.nn]<;>first|exact h|skip
  simp only[an]at h ⊢;obtain⟨vs,e,h1⟩:=h;exact⟨vs,e,C8 ss _ _ ho h1⟩
 |.p l,a,v,ho,h=>by
  simp only[Sh.ok]at ho;cases a<;>simp only[A.nn]<;>first|exact h|skip
  simp only[an]at h ⊢;obtain⟨b,off,e,h1,h2,h3⟩:=h;exact⟨b,off,e,h1,h2,Mz l _ _ ho h3⟩
theorem C8:∀(ss:List Sh)(l:List U)(vs:List Value),Sh.eB ss=θ->aF c l vs->aF c (A.eo ss l) vs
 |[],l,vs,_,h=>by simpa [A.eo]using h
 |_::_,[],vs,_,h=>by simpa [A.eo]using h
 |s::ss,a::l,vs,ho,h=>by simp only[Sh.eB,dr]at ho;simp only[A.eo,aF]at h ⊢;obtain⟨v,vs',e,h1,h2⟩:=h;exact⟨v,vs',e,Hi s a v ho.1 h1,C8 ss l vs' ho.2 h2⟩
theorem Mz{b:Nat}:∀(l:List Sh)(cs:List U)(off:Nat),Sh.eB l=θ->aT c b off cs->aT c b off (A.eo l cs)
 |[],cs,off,_,h=>by simpa [A.eo]using h
 |_::_,[],off,_,h=>by simpa [A.eo]using h
 |o::l,a::cs,off,ho,h=>by simp only[Sh.eB,dr]at ho;simp only[A.eo,aT]at h ⊢;obtain⟨⟨v,h1,h2,h3⟩,h4⟩:=h;exact⟨⟨v,h1,h2,Hi o a v ho.1 h3⟩,Mz l cs (off+1) ho.2 h4⟩
theorem TI{sz b:Nat}(l:List Sh)(hl:Sh.eB l=θ):∀(es:List (List U))(off:Nat),aY c sz b off es->aY c sz b off (es.map (A.eo l))
 |[],off,h=>by simp [aY]
 |e::es,off,h=>by simp only[fH,aY]at h ⊢;exact⟨by rw[S3];exact h.1,Mz l e off hl h.2.1,TI l hl es _ h.2.2⟩
end
theorem LA:∀{a:U}{v:Value},A.rj a=θ->an c a v->an c' a v:=by
 intro a v h r;cases a<;>simp only[A.rj]at h<;>first|(cases h;done)|skip
 case sl sz es=>
  cases es with
  |nil=>simp only[an]at r ⊢;obtain⟨q,cap,e,h1,h2,_⟩:=r;exact⟨q,cap,e,h1,h2,.inl trivial⟩
  |cons _ _=>simp at h
 all_goals simpa [an]using r
theorem QN:∀{l:List U}{vs:List Value},l.all A.rj=θ->aF c l vs->aF c' l vs
 |[],vs,_,r=>by simpa [aF]using r
 |a::l,vs,h,r=>by simp only[Z4,dr]at h;simp only[aF]at r ⊢;obtain⟨v,vs',e,h1,h2⟩:=r;exact⟨v,vs',e,LA h.1 h1,QN h.2 h2⟩
theorem LB{a:U}{v:Value}(h:A.qm a=θ)(r:an c a v):an c' a v:=by
 unfold A.qm at h;split at h
 ·simp only[an]at r ⊢;obtain⟨vs,e,h1,h2⟩:=r;exact⟨vs,e,QN h h1,h2⟩
 ·exact LA h r
theorem jH.conv{args args':List U}{σ σ':Heap}{r r':U}(h:jH P nm f args' σ r σ')(ha:∀c vs,aF c args vs->aF c args' vs)(hr:∀c v,an c r v->an c r' v):jH P nm f args σ r' σ':=by
 rcases h with⟨g,h1,h2⟩|h
 ·refine .inl ⟨g,h1,λz vs e1 e2 e3 e4=>(h2 z vs e1 e2 e3 (ha _ _ e4)).mono ?_⟩;rintro e w' ⟨v,E',k1,k2,k3,k4⟩;exact⟨v,E',k1,k2,k3,hr _ _ k4⟩
 ·refine .inr λz vs e1 e2 e3 e4=>?_
  obtain⟨v,w',E',k1,k2,k3,k4⟩:=h z vs e1 e2 e3 (ha _ _ e4);exact⟨v,w',E',k1,k2,k3,hr _ _ k4⟩
theorem RA{z0 z:Z}{w':World}{E':List Pl}{n:Nat}(hn:n=z.E.length){a:U}{v:Value}(h:A.fresh a=θ)(r:an (ctx z0 w' E' cg) a v):an (ctx z w' (z.E++E') cg) (A.shift n a) v:=by
 have key:∀(id:Nat)(p:Pl),E'[id]? =δ p->(z.E++E')[id+n]? =δ p:=λid p hp=>by rw[jL (by omega),hn,Nat.add_sub_cancel];exact hp
 unfold A.fresh at h;unfold A.shift;split at h
 ·simp only[an]at r ⊢;obtain⟨hg,p,h1,h2,r⟩:=r;exact⟨hg,p,key _ _ h1,h2,r⟩
 ·simp only[an]at r ⊢;obtain⟨p,h1,h2,r⟩:=r;exact⟨p,key _ _ h1,h2,r⟩
 ·exact LB h r
theorem aaz{z0 z:Z}{w':World}{E':List Pl}{n:Nat}(hn:n=z.E.length){vs:List U}{v:Value}(h:vs.all A.fresh=θ)(r:an (ctx z0 w' E' cg) (.az vs) v):an (ctx z w' (z.E++E') cg) (A.uh n (.az vs)) v:=by
 simp only[an,A.uh]at r ⊢;obtain⟨us,rfl,r⟩:=r;refine⟨us,rfl,?_⟩;generalize us.toList=us' at r ⊢;induction vs generalizing us' with
 |nil=>simpa [aF]using r
 |cons x l ih=>simp only[Z4,dr]at h;simp only[aF,fH]at r ⊢;obtain⟨v,vs',e,h1,h2⟩:=r;exact⟨v,vs',e,RA hn h.1 h1,ih h.2 _ h2⟩
theorem abn{z0 z:Z}{w':World}{E':List Pl}{n:Nat}(hn:n=z.E.length){a:U}{v:Value}(h:A.vw a=θ)(r:an (ctx z0 w' E' cg) a v):an (ctx z w' (z.E++E') cg) (A.uh n a) v:=by
 by_cases ht:∃vs,a=.az vs
 ·obtain⟨vs,rfl⟩:=ht;exact aaz hn h r
 ·have e1:A.vw a=A.fresh a:=by cases a<;>first|rfl|exact absurd ⟨_,rfl⟩ ht
  have e2:A.uh n a=A.shift n a:=by cases a<;>first|rfl|exact absurd ⟨_,rfl⟩ ht
  rw[e1]at h;rw[e2];exact RA hn h r
theorem K6{b:Nat}:∀{l:List U}{off:Nat},l.all A.rj=θ->c'.w=c.w->aT c b off l->aT c' b off l
 |[],off,_,_,_=>by simp [aT]
 |a::l,off,h,hw,r=>by simp only[Z4,dr]at h;simp only[aT]at r ⊢;obtain⟨⟨v,h1,h2,h3⟩,h4⟩:=r;exact⟨⟨v,by rw[hw];exact h1,h2,LA h.1 h3⟩,K6 h.2 hw h4⟩
theorem Qp{sz b:Nat}:∀{l:List (List U)}{off:Nat},(l.all λe=>e.all A.rj)=θ->c'.w=c.w->aY c sz b off l->aY c' sz b off l
 |[],off,_,_,_=>by simp [aY]
 |a::l,off,h,hw,r=>by simp only[Z4,dr]at h;simp only[aY]at r ⊢;obtain⟨h1,h2,h3⟩:=r;exact⟨h1,K6 h.1 hw h2,Qp h.2 hw h3⟩
theorem QO:∀{l:List (U×U)}{es:List MapEntry},(l.all λp=>A.qm p.1&&A.qm p.2)=θ->bN c l es->bN c' l es
 |[],es,_,r=>by simpa [bN]using r
 |(k,v)::l,es,h,r=>by simp only[Z4,dr]at h;simp only[bN]at r ⊢;obtain⟨e,es',h1,h2,h3,h4⟩:=r;exact⟨e,es',h1,LB h.1.1 h2,LB h.1.2 h3,QO h.2 h4⟩
theorem aaU{p:Pl}{x:bH}(h:A.Dd x=θ)(hw:c'.w=c.w)(r:mF c p x):mF c' p x:=by
 cases x with
 |box cs=>obtain⟨h1,⟨⟨arr,t,h2,h3⟩,h4⟩⟩:=r;exact⟨h1,⟨arr,t,by rw[hw];exact h2,h3⟩,K6 h hw h4⟩
 |arr g sz es=>obtain⟨h1,h2,h3,h4,⟨arr,t,h5,h6⟩,h7,h8,h9⟩:=r;exact⟨h1,h2,h3,h4,⟨arr,t,by rw[hw];exact h5,h6⟩,h7,Qp h hw h8,λarr t fz e=>h9 arr t fz (by rw[<-hw];exact e)⟩
 |map es=>obtain⟨h1,aV,bh,h2,hwf,h3⟩:=r;exact⟨h1,aV,bh,by rw[hw];exact h2,hwf,QO h h3⟩
 |pJ g sz es=>cases h
 |it cur left=>cases h
theorem Se{z:Z}{σ σ':Heap}{r:U}{v:Value}{w':World}{E':List Pl}(e2:pN z)(hh:fS (ctx z z.w z.E cg) σ)(hv:A.vw r=θ)(hb:σ'.all A.Dd=θ)
  (k2:Out ⟨z.w,[],λ_=>False,z.nm⟩ w' E') (k3:fS (ctx ⟨z.w,[],λ_=>False,z.nm⟩ w' E' cg) σ') (k4:an (ctx ⟨z.w,[],λ_=>False,z.nm⟩ w' E' cg) r v):
  ∃ku,Out z w' ku/\fS (ctx z w' ku cg) (σ++σ')/\an (ctx z w' ku cg) (A.uh σ.length r) v:=by
 have hlen:z.E.length=σ.length:=hh.len;have hlen':E'.length=σ'.length:=k3.len;have hst:∀b,b<z.w.heap.size->w'.heap[b]? =z.w.heap[b]? :=λb hb=>k2.stay b hb (λp hp=>by cases hp)
 have hlt:∀p∈z.E,p.b<z.w.heap.size:=λp hp=>hh.lt hp
 have hfr:∀p∈E',z.w.heap.size<=p.b:=λp hp=>by
  rcases k2.fresh p hp with k|⟨q,hq,_⟩
  ·exact k
  ·cases hq
 have hx:Ext (ctx z z.w z.E cg) (ctx z w' (z.E++E') cg):=by
  refine⟨k2.size,λb hb hn=>⟨hst b hb,?_⟩,λi p hp=>⟨p,?_,.inl rfl⟩,rfl⟩
  ·rintro(k|⟨p,hp,k⟩|⟨i,k⟩)
   ·exact hn (.inl k)
   ·rcases gV.1 hp with hp|hp
    ·exact hn (.inr (.inl ⟨p,hp,k⟩))
    ·have:=hfr p hp;simp only[ctx]at hb;omega
   ·cases k
  ·simp only[ctx]at hp ⊢;rw[iV (cL.1 hp).1];exact hp
 have key:∀(i:Nat)(p:Pl),(z.E++E')[i]? =δ p->(i<z.E.length/\z.E[i]? =δ p)\/(z.E.length<=i/\E'[i-z.E.length]? =δ p):=λi p hp=>by
  by_cases hi:i<z.E.length
  ·rw[iV hi]at hp;exact .inl ⟨hi,hp⟩
  ·rw[jL (by omega)]at hp;exact .inr ⟨by omega,hp⟩
 refine⟨z.E++E',⟨k2.os,k2.tape,k2.output,k2.size,λb hb _=>hst b hb,λi p hp=>?_,λi p hp=>⟨p,?_,.inl rfl⟩,e2,hlt⟩,⟨by simp [ctx,hlen,hlen'],λi j p q hp hq e=>?_,λi p x hp cU=>?_⟩,abn hlen.symm hv k4⟩
 ·rcases key i p hp with⟨_,k⟩|⟨_,k⟩
  ·exact .inr ⟨p,k,rfl⟩
  ·exact .inl (hfr p (cZ k))
 ·rw[iV (cL.1 hp).1];exact hp
 ·simp only[ctx]at hp hq;rcases key i p hp with⟨i1,k⟩|⟨i1,k⟩<;>rcases key j q hq with⟨j1,m⟩|⟨j1,m⟩
  ·exact hh.inj i j p q k m e
  ·have:=hlt p (cZ k);have:=hfr q (cZ m);omega
  ·have:=hlt q (cZ m);have:=hfr p (cZ k);omega
  ·have:=k3.inj _ _ p q k m e;omega
 ·simp only[ctx]at hp;rcases key i p hp with⟨i1,k⟩|⟨i1,k⟩
  ·rw[iV (by omega)]at cU;exact(hh.blk i p x k cU).mono hx (hst _ (hlt p (cZ k)))
  ·rw[jL (by omega),<-hlen]at cU;exact aaU (c:=ctx ⟨z.w,[],λ_=>False,z.nm⟩ w' E' cg) (nM.1 hb x (cZ cU)) rfl (k3.blk _ p x k cU)
theorem jH.NK{args args':List U}{σ σ':Heap}{r:U}(h:jH P nm f args' [] r σ')(ha:Zw σ 0 8 args=δ args')(hv:A.vw r=θ)(hb:σ'.all A.Dd=θ):jH P nm f args σ (A.uh σ.length r) (σ++σ'):=by
 have hX:∀(z:Z)b,¬(ctx ⟨z.w,[],λ_=>False,z.nm⟩ z.w [] cg).X b:=by
  rintro z b (k|⟨p,hp,_⟩|⟨i,k⟩)
  ·exact k.elim
  ·cases hp
  ·cases k
 have sE:∀(z:Z),fS (ctx z z.w z.E cg) σ->uu (ctx z z.w z.E cg) (ctx ⟨z.w,[],λ_=>False,z.nm⟩ z.w [] cg) σ 0:=λz hh=>
  ⟨rfl,rfl,λb k=>(hX z b k).elim,λid p k=>absurd k (Nat.not_lt_zero _),hh,λid p _ _=>hX z _⟩
 have h0:∀(z:Z),fS (ctx ⟨z.w,[],λ_=>False,z.nm⟩ z.w [] cg) []:=λz=>by
  refine⟨rfl,λi j p q hp=>?_,λi p x hp=>?_⟩
  ·simp [ctx]at hp
  ·simp [ctx]at hp
 rcases h with⟨g,h1,h2⟩|h2
 ·refine .inl ⟨g,h1,λz vs e1 e2 hh e4=>?_⟩;have ha':aF (ctx ⟨z.w,[],λ_=>False,z.nm⟩ z.w [] cg) args' vs.toList:=A5 (sE z hh) 8 (λav bU v _ e r=>vk (sE z hh) 8 _ _ _ e r) _ _ _ ha e4;refine(h2 ⟨z.w,[],λ_=>False,z.nm⟩ vs e1 e2.none (h0 z) ha').mono ?_;rintro e w' ⟨v,E',k1,k2,k3,k4⟩;obtain⟨ku,q1,q2,q3⟩:=Se e2 hh hv hb k2 k3 k4;exact⟨v,ku,k1,q1,q2,q3⟩
 ·refine .inr λz vs e1 e2 hh e4=>?_
  have ha':aF (ctx ⟨z.w,[],λ_=>False,z.nm⟩ z.w [] cg) args' vs.toList:=A5 (sE z hh) 8 (λav bU v _ e r=>vk (sE z hh) 8 _ _ _ e r) _ _ _ ha e4;obtain⟨v,w',E',k1,k2,k3,k4⟩:=h2 ⟨z.w,[],λ_=>False,z.nm⟩ vs e1 e2.none (h0 z) ha';obtain⟨ku,q1,q2,q3⟩:=Se e2 hh hv hb k2 k3 k4;exact⟨v,w',ku,k1,q1,q2,q3⟩
theorem Sound.wrap{r:List U->Heap->Option (U×Heap)}(h:Sound P nm f r)(ro:Bool)(dc:List Sh)(dw:Sh)(hi:Sh.eB dc=θ)(ho:dw.ok=θ):Sound P nm f (A.wrap ro dc dw r):=by
 intro args σ v σ' e;unfold A.wrap at e;cases hc:(ro&&args.any A.own)
 ·rw[hc]at e;simp only[aZ]at e;obtain⟨q,e1,e2⟩:=cO.1 e;injection e2 with e2 e3
  subst e2 e3;exact(h _ _ _ _ e1).conv (λc vs k=>C8 _ _ _ hi k) (λc v k=>Hi _ _ _ ho k)
 ·rw[hc]at e;simp only[bG]at e;obtain⟨args',e1,e2⟩:=bg.1 e;obtain⟨q,e3,e4⟩:=bg.1 e2;obtain⟨q1,q2⟩:=q;simp only at e4;cases hs:(A.vw (A.nn dw q1)&&q2.all A.Dd)
  ·rw[hs]at e4;cases e4
  ·rw[hs]at e4;simp only[bG,χ,Θ]at e4;obtain⟨rfl,rfl⟩:=e4;simp only[dr]at hs;exact((h _ _ _ _ e3).conv (args:=args') (λc vs k=>C8 _ _ _ hi k) (λc v k=>Hi _ _ _ ho k)).NK e1 hs.1 hs.2
end
theorem fc.of{X:Fx}{t:List (FuncId×(List U->Heap->Option (U×Heap)))}(hc:X.call=Y1 (λ_ _=>μ) t) (ht:∀p∈t,Sound X.P X.nm p.1 p.2) (hd:∀f,Sound X.P X.nm f (X.dyn (X.nm.getD f 0))):fc X:=by
 refine⟨λf args σ r σ' h=>?_,λf=>hd f⟩;rw[hc]at h;clear hc;induction t with
 |nil=>cases h
 |cons p t ih=>
  obtain⟨m,x⟩:=p;simp only[Y1]at h;cases hm:(f==m)
  ·rw[hm]at h;exact ih (λp hp=>ht p (nL _ hp)) h
  ·rw[hm]at h;have:f=m:=by simpa using hm
   subst this;exact ht (f,x) (Xl) _ _ _ _ h
theorem Sound.none{P:Program}{nm:List Nat}{f:FuncId}:Sound P nm f (λ_ _=>Option.none):=λ_ _ _ _ h=>by cases h
theorem aB.nil{P:Program}{nm:List Nat}:∀p∈([]:List (FuncId×(List U->Heap->Option (U×Heap)))),Sound P nm p.1 p.2:=λ_ h=>by cases h
theorem aB.cons{P:Program}{nm:List Nat}{f:FuncId}{m:List U->Heap->Option (U×Heap)}{l:List (FuncId×(List U->Heap->Option (U×Heap)))}(h:Sound P nm f m)(t:∀p∈l,Sound P nm p.1 p.2):∀p∈(f,m)::l,Sound P nm p.1 p.2:=
 λp hp=>by rcases eG.1 hp with rfl|hp;exact h;exact t p hp
theorem mM.nil{P:Program}{nm:List Nat}:∀p∈([]:List (Nat×(List U->Heap->Option (U×Heap)))),∀f,nm.getD f 0=p.1->Sound P nm f p.2:=λ_ h=>by cases h
theorem mM.cons{P:Program}{nm:List Nat}{k:Nat}{m:List U->Heap->Option (U×Heap)}{l:List (Nat×(List U->Heap->Option (U×Heap)))}(h:∀f,nm.getD f 0=k->Sound P nm f m)(t:∀p∈l,∀f,nm.getD f 0=p.1->Sound P nm f p.2):∀p∈(k,m)::l,∀f,nm.getD f 0=p.1->Sound P nm f p.2:=
 λp hp=>by rcases eG.1 hp with rfl|hp;exact h;exact t p hp
theorem xq{P:Program}{nm:List Nat}{t:List (Nat×(List U->Heap->Option (U×Heap)))}(ht:∀p∈t,∀f,nm.getD f 0=p.1->Sound P nm f p.2)(f:FuncId):Sound P nm f (Y1 (λ_ _=>Option.none) t (nm.getD f 0)):=by
 induction t with
 |nil=>exact Sound.none
 |cons p t ih=>
  obtain⟨k,x⟩:=p;simp only[Y1];cases hm:(nm.getD f 0==k)
  ·exact ih (λp hp=>ht p (nL _ hp))
  ·exact ht (k,x) Xl f (by simpa using hm)
theorem afI{nm:List Nat}{k g:Nat}(h:(nm.zipIdx.filter λp=>p.1==k)=[(k,g)]) (hk:(0==k)=ξ) {f:Nat} (hf:nm.getD f 0=k):f=g:=by
 have hlt:f<nm.length:=by
  rcases Nat.lt_or_ge f nm.length with e|e
  ·exact e
  ·simp only[ZC,lP e,Xh]at hf;subst hf;simp at hk
 have:(k,f)∈nm.zipIdx.filter λp=>p.1==k:=by refine Yk.2 ⟨Dv.2 ⟨f,?_⟩,by simp⟩;simp only[ZC]at hf;rw[bT hlt]at hf;simp [bT hlt,<-hf]
 rw[h]at this;simpa using this
theorem xe{P:Program}{nm:List Nat}{k g:Nat}{m:List U->Heap->Option (U×Heap)}(hs:Sound P nm g m)(h:(nm.zipIdx.filter λp=>p.1==k)=[(k,g)]) (hk:(0==k)=ξ):∀f,nm.getD f 0=k->Sound P nm f m:=
 λf hf=>by have e:=afI h hk hf;subst e;exact hs
def fuel(F:(Nat->List U->Heap->Option (U×Heap))->List (Nat×(List U->Heap->Option (U×Heap)))):Nat->Nat->List U->Heap->Option (U×Heap)
 |0,_=>λ_ _=>μ
 |n+1,k=>Y1 (λ_ _=>μ) (F (fuel F n)) k
namespace A
def dR(f:U->Heap->Option (U×Heap)):List U->Heap->Option (U×Heap)
 |[x0],σ=>f x0 σ
 |_,_=>μ
def cG(f:U->U->Heap->Option (U×Heap)):List U->Heap->Option (U×Heap)
 |[x0,x1],σ=>f x0 x1 σ
 |_,_=>μ
def oS(f:U->U->U->Heap->Option (U×Heap)):List U->Heap->Option (U×Heap)
 |[x0,x1,x2],σ=>f x0 x1 x2 σ
 |_,_=>μ
def D0(f:U->U->U->U->Heap->Option (U×Heap)):List U->Heap->Option (U×Heap)
 |[x0,x1,x2,x3],σ=>f x0 x1 x2 x3 σ
 |_,_=>μ
def NZ(f:U->U->U->U->U->Heap->Option (U×Heap)):List U->Heap->Option (U×Heap)
 |[x0,x1,x2,x3,x4],σ=>f x0 x1 x2 x3 x4 σ
 |_,_=>μ
def N0(f:U->U->U->U->U->U->Heap->Option (U×Heap)):List U->Heap->Option (U×Heap)
 |[x0,x1,x2,x3,x4,x5],σ=>f x0 x1 x2 x3 x4 x5 σ
 |_,_=>μ
def N1(f:U->U->U->U->U->U->U->Heap->Option (U×Heap)):List U->Heap->Option (U×Heap)
 |[x0,x1,x2,x3,x4,x5,x6],σ=>f x0 x1 x2 x3 x4 x5 x6 σ
 |_,_=>μ
end A
section
variable {X : Fx} {f : FuncId} {fn : Func} {ck : kr}
theorem Sound.aht{m:U->Heap->Option (U×Heap)}(keep:nN)(hkeep:keep.Ok)(hs:fc X)(hf:X.P.funcs[f]? =δ fn)(hc:∀cy w,(callFunc f cy).run X.P w=.ok (.enter f cy) w)(he:∀(x0:U) (σ:Heap),nQ X keep ck fn [x0] σ=m x0 σ):Sound X.P X.nm f (A.dR m):=by
 intro args σ r σ' h;unfold A.dR at h;split at h
 ·exact yK hs hkeep hf hc ((he _ _).trans h)
 ·cases h
theorem Sound.uB{m:U->U->Heap->Option (U×Heap)}(keep:nN)(hkeep:keep.Ok)(hs:fc X)(hf:X.P.funcs[f]? =δ fn)(hc:∀cy w,(callFunc f cy).run X.P w=.ok (.enter f cy) w)(he:∀(x0 x1:U) (σ:Heap),nQ X keep ck fn [x0,x1] σ=m x0 x1 σ):Sound X.P X.nm f (A.cG m):=by
 intro args σ r σ' h;unfold A.cG at h;split at h
 ·exact yK hs hkeep hf hc ((he _ _ _).trans h)
 ·cases h
theorem Sound.NT{m:U->U->U->Heap->Option (U×Heap)}(keep:nN)(hkeep:keep.Ok)(hs:fc X)(hf:X.P.funcs[f]? =δ fn)(hc:∀cy w,(callFunc f cy).run X.P w=.ok (.enter f cy) w)(he:∀(x0 x1 x2:U) (σ:Heap),nQ X keep ck fn [x0,x1,x2] σ=m x0 x1 x2 σ):Sound X.P X.nm f (A.oS m):=by
 intro args σ r σ' h;unfold A.oS at h;split at h
 ·exact yK hs hkeep hf hc ((he _ _ _ _).trans h)
 ·cases h
theorem Sound.ahu{m:U->U->U->U->Heap->Option (U×Heap)}(keep:nN)(hkeep:keep.Ok)(hs:fc X)(hf:X.P.funcs[f]? =δ fn)(hc:∀cy w,(callFunc f cy).run X.P w=.ok (.enter f cy) w)(he:∀(x0 x1 x2 x3:U) (σ:Heap),nQ X keep ck fn [x0,x1,x2,x3] σ=m x0 x1 x2 x3 σ):Sound X.P X.nm f (A.D0 m):=by
 intro args σ r σ' h;unfold A.D0 at h;split at h
 ·exact yK hs hkeep hf hc ((he _ _ _ _ _).trans h)
 ·cases h
theorem Sound.ahv{m:U->U->U->U->U->Heap->Option (U×Heap)}(keep:nN)(hkeep:keep.Ok)(hs:fc X)(hf:X.P.funcs[f]? =δ fn)(hc:∀cy w,(callFunc f cy).run X.P w=.ok (.enter f cy) w)(he:∀(x0 x1 x2 x3 x4:U) (σ:Heap),nQ X keep ck fn [x0,x1,x2,x3,x4] σ=m x0 x1 x2 x3 x4 σ):Sound X.P X.nm f (A.NZ m):=by
 intro args σ r σ' h;unfold A.NZ at h;split at h
 ·exact yK hs hkeep hf hc ((he _ _ _ _ _ _).trans h)
 ·cases h
theorem Sound.ahw{m:U->U->U->U->U->U->Heap->Option (U×Heap)}(keep:nN)(hkeep:keep.Ok)(hs:fc X)(hf:X.P.funcs[f]? =δ fn)(hc:∀cy w,(callFunc f cy).run X.P w=.ok (.enter f cy) w)(he:∀(x0 x1 x2 x3 x4 x5:U) (σ:Heap),nQ X keep ck fn [x0,x1,x2,x3,x4,x5] σ=m x0 x1 x2 x3 x4 x5 σ):Sound X.P X.nm f (A.N0 m):=by
 intro args σ r σ' h;unfold A.N0 at h;split at h
 ·exact yK hs hkeep hf hc ((he _ _ _ _ _ _ _).trans h)
 ·cases h
theorem Sound.ahx{m:U->U->U->U->U->U->U->Heap->Option (U×Heap)}(keep:nN)(hkeep:keep.Ok)(hs:fc X)(hf:X.P.funcs[f]? =δ fn)(hc:∀cy w,(callFunc f cy).run X.P w=.ok (.enter f cy) w)(he:∀(x0 x1 x2 x3 x4 x5 x6:U) (σ:Heap),nQ X keep ck fn [x0,x1,x2,x3,x4,x5,x6] σ=m x0 x1 x2 x3 x4 x5 x6 σ):Sound X.P X.nm f (A.N1 m):=by
 intro args σ r σ' h;unfold A.N1 at h;split at h
 ·exact yK hs hkeep hf hc ((he _ _ _ _ _ _ _ _).trans h)
 ·cases h
end
end
open fc renaming of->akS
open Sh renaming eB->Yy
open A renaming dR->YF,wrap->ir,cG->Yi
open Sound renaming uB->akT,none->Xr,wrap->XD
abbrev ru:Sh:=(.a [(.s 3),(.s 4),(.s 3),(.s 2),(.s 3)])
abbrev BN:List Sh:=[.k,.k,.k,.k,.k,.k,.k,(.s 2),.k,.k,(.s 8)]
abbrev Ia:Sh:=(.t [(.a [.k,.k,(.e 7 [.k,.k,.k,.k,.k,.k,(.s 3)])]),.k])
section
def aJ:List Nat:=[0,0,0,580,0,0,567,173,0,0,160,171,0,559,556,562,522,0,14,144,149,13,523,0,564,565,566,571,568,0,137,163,550,0,1,150,151,155,159,156,157,4,165,170,0,557,558,555,520,560,0,561,515,139,143,129,148,0,0,563,532,527,537,535,569,570,164,0,576,0,0,94,135,136,578,0,579,154,152,158,166,167,168,169,0,15,18,0,513,344,514,69,71,73,2,138,142,70,3,128,127,0,0,0,0,526,530,531,0,0,534,0,0,575,548,0,0,88,89,92,5,93,134,7,577,0,0,0,0,153,130,17,0,0,63,66,67,68,72,0,125,126,141,0,0,0,0,479,478,480,483,482,0,0,525,529,0,0,533,574,547,0,85,86,87,90,91,131,133,6,0,0,0,0,0,62,65,64,0,59,140,0,0,0,485,0,481,0,0,524,528,0,0,572,573,543,544,0,84,132,0,257,0,0,0,60,61,0,58,0,0,0,0,0,0,0,0,0,542,0,0,81,83,0,0,0,484,0,0,486,0,80,82,53,0,0,52,0,0,0,0,0,0,0,0,0,0,0,0,0,0,0,0,0,0,0,0,0,0,0,0,0,0,0,0,0,0,0,0,0,0,0]
section
variable {l : List (FuncId × (au -> Heap -> aC))} {f : FuncId} {fn : Func} {ro : Bool} {dc : List Sh} {dw : Sh}
def zP (l:List (FuncId×(au->Heap->aC))) (L:List Nat) (n:Nat):Fx:=⟨Tryz.prog,aJ,Y1 (λ_ _=>μ) l,λ_ _ _=>μ,L,[],n,[]⟩
theorem q1{m:U->Heap->aC}(L:List Nat)(n:Nat)(ck:kr)(h:∀p∈l,Sound Tryz.prog aJ p.1 p.2)(hf:Tryz.prog.funcs[f]? =δ fn)(hc:∀cy w,(callFunc f cy).run Tryz.prog w=.ok (.enter f cy) w)(he:∀(x0:U) (σ:Heap),nQ (zP l L n) .F ck fn [x0] σ=m x0 σ)(hi:Yy dc=θ)(ho:dw.ok=θ):Sound Tryz.prog aJ f (ir ro dc dw (YF m)):=XD (Sound.aht .F trivial (akS rfl h λ_=>Xr) hf hc he) _ _ _ hi ho
theorem q2{m:U->U->Heap->aC}(L:List Nat)(n:Nat)(ck:kr)(h:∀p∈l,Sound Tryz.prog aJ p.1 p.2)(hf:Tryz.prog.funcs[f]? =δ fn)(hc:∀cy w,(callFunc f cy).run Tryz.prog w=.ok (.enter f cy) w)(he:∀(x0 x1:U) (σ:Heap),nQ (zP l L n) .F ck fn [x0,x1] σ=m x0 x1 σ)(hi:Yy dc=θ)(ho:dw.ok=θ):Sound Tryz.prog aJ f (ir ro dc dw (Yi m)):=XD (akT .F trivial (akS rfl h λ_=>Xr) hf hc he) _ _ _ hi ho
theorem q3{m:U->U->U->Heap->aC}(L:List Nat)(n:Nat)(ck:kr)(h:∀p∈l,Sound Tryz.prog aJ p.1 p.2)(hf:Tryz.prog.funcs[f]? =δ fn)(hc:∀cy w,(callFunc f cy).run Tryz.prog w=.ok (.enter f cy) w)(he:∀(x0 x1 x2:U) (σ:Heap),nQ (zP l L n) .F ck fn [x0,x1,x2] σ=m x0 x1 x2 σ)(hi:Yy dc=θ)(ho:dw.ok=θ):Sound Tryz.prog aJ f (ir ro dc dw (A.oS m)):=XD (Sound.NT .F trivial (akS rfl h λ_=>Xr) hf hc he) _ _ _ hi ho
theorem q4{m:U->U->U->U->Heap->aC}(L:List Nat)(n:Nat)(ck:kr)(h:∀p∈l,Sound Tryz.prog aJ p.1 p.2)(hf:Tryz.prog.funcs[f]? =δ fn)(hc:∀cy w,(callFunc f cy).run Tryz.prog w=.ok (.enter f cy) w)(he:∀(x0 x1 x2 x3:U) (σ:Heap),nQ (zP l L n) .F ck fn [x0,x1,x2,x3] σ=m x0 x1 x2 x3 σ)(hi:Yy dc=θ)(ho:dw.ok=θ):Sound Tryz.prog aJ f (ir ro dc dw (A.D0 m)):=XD (Sound.ahu .F trivial (akS rfl h λ_=>Xr) hf hc he) _ _ _ hi ho
theorem q5{m:U->U->U->U->U->Heap->aC}(L:List Nat)(n:Nat)(ck:kr)(h:∀p∈l,Sound Tryz.prog aJ p.1 p.2)(hf:Tryz.prog.funcs[f]? =δ fn)(hc:∀cy w,(callFunc f cy).run Tryz.prog w=.ok (.enter f cy) w)(he:∀(x0 x1 x2 x3 x4:U) (σ:Heap),nQ (zP l L n) .F ck fn [x0,x1,x2,x3,x4] σ=m x0 x1 x2 x3 x4 σ)(hi:Yy dc=θ)(ho:dw.ok=θ):Sound Tryz.prog aJ f (ir ro dc dw (A.NZ m)):=XD (Sound.ahv .F trivial (akS rfl h λ_=>Xr) hf hc he) _ _ _ hi ho
theorem q6{m:U->U->U->U->U->U->Heap->aC}(L:List Nat)(n:Nat)(ck:kr)(h:∀p∈l,Sound Tryz.prog aJ p.1 p.2)(hf:Tryz.prog.funcs[f]? =δ fn)(hc:∀cy w,(callFunc f cy).run Tryz.prog w=.ok (.enter f cy) w)(he:∀(x0 x1 x2 x3 x4 x5:U) (σ:Heap),nQ (zP l L n) .F ck fn [x0,x1,x2,x3,x4,x5] σ=m x0 x1 x2 x3 x4 x5 σ)(hi:Yy dc=θ)(ho:dw.ok=θ):Sound Tryz.prog aJ f (ir ro dc dw (A.N0 m)):=XD (Sound.ahw .F trivial (akS rfl h λ_=>Xr) hf hc he) _ _ _ hi ho
theorem q7{m:U->U->U->U->U->U->U->Heap->aC}(L:List Nat)(n:Nat)(ck:kr)(h:∀p∈l,Sound Tryz.prog aJ p.1 p.2)(hf:Tryz.prog.funcs[f]? =δ fn)(hc:∀cy w,(callFunc f cy).run Tryz.prog w=.ok (.enter f cy) w)(he:∀(x0 x1 x2 x3 x4 x5 x6:U) (σ:Heap),nQ (zP l L n) .F ck fn [x0,x1,x2,x3,x4,x5,x6] σ=m x0 x1 x2 x3 x4 x5 x6 σ)(hi:Yy dc=θ)(ho:dw.ok=θ):Sound Tryz.prog aJ f (ir ro dc dw (A.N1 m)):=XD (Sound.ahx .F trivial (akS rfl h λ_=>Xr) hf hc he) _ _ _ hi ho
end
end
abbrev aG(n:Int):Prop:=-9223372036854775808<=n/\n<=9223372036854775807
abbrev bu:Nat:=9223372036854775807
def ia{κ:Type}[DecidableEq κ](k:κ)(S:List κ):Bool:=S.any λx=>decide (x=k)
theorem LQ{κ:Type}[DecidableEq κ]{k:κ}{S:List κ}:ia k S=θ↔k∈S:=by simp only[ia,WJ,decide_eq_true_eq];exact⟨λ⟨x,h,e⟩=>e▸h,λh=>⟨k,h,rfl⟩⟩
theorem F4{κ:Type}[DecidableEq κ]{k:κ}{S:List κ}:ia k S=ξ↔k∉S:=by rw[<-LQ];simp
def sJ(n:Int):au:=[.ah n]
def jh(s:ByteArray):au:=[.str s]
def sl{α:Type}(sz:Nat)(c:α->au)(l:List α):U:=.sl sz (l.map c)
def eB{α:Type}(p:α->Prop)(l:List α):Prop:=l.length<=bu/\∀x∈l,p x
def fN(s:ByteArray):Prop:=s.size<=bu
theorem Tc(n:Int):Ψ 0 (sJ n)=δ (.ah n):=rfl
theorem Td(s:ByteArray):Ψ 0 (jh s)=δ (.str s):=rfl
structure lF where
 time:Int
 way:Int
deriving DecidableEq
def jI(x:lF):au:=[.ah x.time,.ah x.way]
theorem aaN(x:lF):(jI x).length=2:=rfl
def S6(x:lF):Prop:=aG x.time/\aG x.way
theorem Cy(x:lF):Ψ 0 (jI x)=δ (.ah x.time):=rfl
theorem Cz(x:lF):Ψ 1 (jI x)=δ (.ah x.way):=rfl
theorem CJ(x:lF):ZY 0 2 (jI x)=δ (.agg (jI x)):=rfl
theorem CG(x:lF):j0 2 (.agg (jI x))=δ (jI x):=rfl
theorem CL(x:lF)(l:au)(h:l.length=2):w8 0 (jI x) l=δ (jI x):=by simp [w8,aaN,h]
structure pE where
 kind:Int
 cv:(List lF)
def qU(x:pE):au:=[.ah x.kind,sl 2 jI x.cv]
theorem aaK(x:pE):(qU x).length=2:=rfl
def aeO(x:pE):Prop:=aG x.kind/\(eB S6) x.cv
theorem rX(x:pE):Ψ 0 (qU x)=δ (.ah x.kind):=rfl
theorem rY(x:pE):Ψ 1 (qU x)=δ (sl 2 jI x.cv):=rfl
theorem sj(x:pE):ZY 0 2 (qU x)=δ (.agg (qU x)):=rfl
theorem rZ(x:pE):j0 2 (.agg (qU x))=δ (qU x):=rfl
theorem sn(x:pE)(l:au)(h:l.length=2):w8 0 (qU x) l=δ (qU x):=by simp [w8,aaK,h]
structure T7 where
 frm:Int
 to:Int
 start:Int
 fE:Int
 time:Int
 kn:pE
structure adZ where
 time:Int
 level:Int
deriving DecidableEq
structure mu where
 low:Int
 high:Int
 name:ByteArray
deriving DecidableEq
def lH(x:mu):au:=[.ah x.low,.ah x.high,.str x.name]
theorem aaO(x:mu):(lH x).length=3:=rfl
def Me(x:mu):Prop:=aG x.low/\aG x.high/\fN x.name
theorem FY(x:mu):Ψ 0 (lH x)=δ (.ah x.low):=rfl
theorem FZ(x:mu):Ψ 1 (lH x)=δ (.ah x.high):=rfl
theorem F0(x:mu):Ψ 2 (lH x)=δ (.str x.name):=rfl
theorem Gj(x:mu):ZY 0 3 (lH x)=δ (.agg (lH x)):=rfl
theorem Gd(x:mu):j0 3 (.agg (lH x))=δ (lH x):=rfl
theorem Gm(x:mu)(l:au)(h:l.length=3):w8 0 (lH x) l=δ (lH x):=by simp [w8,aaO,h]
structure iL where
 name:ByteArray
 group:Int
 bz:Int
 lR:Int
 default:Int
 snap:Bool
 ranges:(List mu)
def jr(x:iL):au:=[.str x.name,.ah x.group,.ah x.bz,.ah x.lR,.ah x.default,.bool x.snap,sl 3 lH x.ranges]
theorem aaM(x:iL):(jr x).length=7:=rfl
def S5(x:iL):Prop:=fN x.name/\aG x.group/\aG x.bz/\aG x.lR/\aG x.default/\(eB Me) x.ranges
theorem KP(x:iL):Ψ 0 (jr x)=δ (.str x.name):=rfl
theorem KQ(x:iL):Ψ 1 (jr x)=δ (.ah x.group):=rfl
theorem KR(x:iL):Ψ 2 (jr x)=δ (.ah x.bz):=rfl
theorem KS(x:iL):Ψ 3 (jr x)=δ (.ah x.lR):=rfl
theorem KT(x:iL):Ψ 4 (jr x)=δ (.ah x.default):=rfl
theorem KU(x:iL):Ψ 5 (jr x)=δ (.bool x.snap):=rfl
theorem KV(x:iL):Ψ 6 (jr x)=δ (sl 3 lH x.ranges):=rfl
theorem Lz(x:iL):ZY 0 7 (jr x)=δ (.agg (jr x)):=rfl
theorem Lo(x:iL):j0 7 (.agg (jr x))=δ (jr x):=rfl
theorem LC(x:iL)(l:au)(h:l.length=7):w8 0 (jr x) l=δ (jr x):=by simp [w8,aaM,h]
structure dI where
 name:ByteArray
 size:Int
 params:(List iL)
def fD(x:dI):au:=[.str x.name,.ah x.size,sl 7 jr x.params]
theorem aku(x:dI):(fD x).length=3:=rfl
def Gh(x:dI):Prop:=fN x.name/\aG x.size/\(eB S5) x.params
theorem oz(x:dI):Ψ 0 (fD x)=δ (.str x.name):=rfl
theorem oA(x:dI):Ψ 1 (fD x)=δ (.ah x.size):=rfl
theorem oB(x:dI):Ψ 2 (fD x)=δ (sl 7 jr x.params):=rfl
theorem oD(x:dI):ZY 0 3 (fD x)=δ (.agg (fD x)):=rfl
theorem oC(x:dI):j0 3 (.agg (fD x))=δ (fD x):=rfl
theorem oF(x:dI)(l:au)(h:l.length=3):w8 0 (fD x) l=δ (fD x):=by simp [w8,aku,h]
structure fT where
 aH:Int
 iK:ByteArray
 univ:Int
 address:Int
deriving DecidableEq
def gT(x:fT):au:=[.ah x.aH,.str x.iK,.ah x.univ,.ah x.address]
theorem abE(x:fT):(gT x).length=4:=rfl
def TL(x:fT):Prop:=aG x.aH/\fN x.iK/\aG x.univ/\aG x.address
theorem nj(x:fT):Ψ 0 (gT x)=δ (.ah x.aH):=rfl
theorem nr(x:fT):Ψ 1 (gT x)=δ (.str x.iK):=rfl
theorem nu(x:fT):Ψ 2 (gT x)=δ (.ah x.univ):=rfl
theorem nv(x:fT):Ψ 3 (gT x)=δ (.ah x.address):=rfl
theorem nA(x:fT):ZY 0 4 (gT x)=δ (.agg (gT x)):=rfl
theorem nw(x:fT):j0 4 (.agg (gT x))=δ (gT x):=rfl
theorem nB(x:fT)(l:au)(h:l.length=4):w8 0 (gT x) l=δ (gT x):=by simp [w8,abE,h]
structure fA where
 cY:(List dI)
 iU:(List fT)
def hJ(x:fA):au:=[sl 3 fD x.cY,sl 4 gT x.iU]
theorem ac2(x:fA):(hJ x).length=2:=rfl
def xC(x:fA):Prop:=(eB Gh) x.cY/\(eB TL) x.iU
theorem tO(x:fA):Ψ 0 (hJ x)=δ (sl 3 fD x.cY):=rfl
theorem tP(x:fA):Ψ 1 (hJ x)=δ (sl 4 gT x.iU):=rfl
theorem tY(x:fA):ZY 0 2 (hJ x)=δ (.agg (hJ x)):=rfl
theorem tV(x:fA):j0 2 (.agg (hJ x))=δ (hJ x):=rfl
theorem tZ(x:fA)(l:au)(h:l.length=2):w8 0 (hJ x) l=δ (hJ x):=by simp [w8,ac2,h]
structure bP where
 unit:Int
 param:ByteArray
deriving DecidableEq
def ct(x:bP):au:=[.ah x.unit,.str x.param]
theorem ac1(x:bP):(ct x).length=2:=rfl
def UD(x:bP):Prop:=aG x.unit/\fN x.param
theorem Th(x:bP)(l:au)(h:l.length=2):w8 0 (ct x) l=δ (ct x):=by simp [w8,ac1,h]
structure so where
 key:bP
 level:Int
deriving DecidableEq
def qR(x:so):au:=[.ah x.key.unit,.str x.key.param,.ah x.level]
theorem Zk(x:so):(qR x).length=3:=rfl
def Rm(x:so):Prop:=UD x.key/\aG x.level
theorem Qq(x:so)(l:au)(h:l.length=3):w8 0 (qR x) l=δ (qR x):=by simp [w8,Zk,h]
structure iz where
 aH:Int
 title:ByteArray
 jZ:(List so)
def lC(x:iz):au:=[.ah x.aH,.str x.title,sl 3 qR x.jZ]
theorem Z2(x:iz):(lC x).length=3:=rfl
def CT(x:iz):Prop:=aG x.aH/\fN x.title/\(eB Rm) x.jZ
theorem QX(x:iz)(l:au)(h:l.length=3):w8 0 (lC x) l=δ (lC x):=by simp [w8,Z2,h]
structure agw where
 ah8:(List Int)
 block:Int
 ait:Int
structure lG where
 level:Int
 eT:Int
deriving DecidableEq
def ue(x:lG):au:=[.ah x.level,.ah x.eT]
def aeP(x:lG):Prop:=aG x.level/\aG x.eT
structure kj where
 key:bP
 value:lG
 release:Bool
 xE:Bool
 fE:Int
 time:Int
deriving DecidableEq
def nF(x:kj):au:=[.ah x.key.unit,.str x.key.param,.ah x.value.level,.ah x.value.eT,.bool x.release,.bool x.xE,.ah x.fE,.ah x.time]
theorem abD(x:kj):(nF x).length=8:=rfl
def Hj(x:kj):Prop:=UD x.key/\aeP x.value/\aG x.fE/\aG x.time
theorem Ss(x:kj)(l:au)(h:l.length=8):w8 0 (nF x) l=δ (nF x):=by simp [w8,abD,h]
structure cr where
 aH:Int
 title:ByteArray
 fE:Int
 up:Int
 down:Int
 other:Int
 kn:pE
 block:Bool
 lJ:Int
 gU:(List kj)
def dY(x:cr):au:=[.ah x.aH,.str x.title,.ah x.fE,.ah x.up,.ah x.down,.ah x.other,.ah x.kn.kind,sl 2 jI x.kn.cv,.bool x.block,.ah x.lJ,sl 8 nF x.gU]
theorem ac0(x:cr):(dY x).length=11:=rfl
def Dr(x:cr):Prop:=aG x.aH/\fN x.title/\aG x.fE/\aG x.up/\aG x.down/\aG x.other/\aeO x.kn/\aG x.lJ/\(eB Hj) x.gU
theorem acm(x:cr):Ψ 0 (dY x)=δ (.ah x.aH):=rfl
theorem acn(x:cr):Ψ 1 (dY x)=δ (.str x.title):=rfl
theorem aco(x:cr):Ψ 2 (dY x)=δ (.ah x.fE):=rfl
theorem acp(x:cr):Ψ 3 (dY x)=δ (.ah x.up):=rfl
theorem acq(x:cr):Ψ 4 (dY x)=δ (.ah x.down):=rfl
theorem acr(x:cr):Ψ 5 (dY x)=δ (.ah x.other):=rfl
theorem acs(x:cr):Ψ 6 (dY x)=δ (.ah x.kn.kind):=rfl
theorem acu(x:cr):Ψ 7 (dY x)=δ (sl 2 jI x.kn.cv):=rfl
theorem acv(x:cr):Ψ 8 (dY x)=δ (.bool x.block):=rfl
theorem acw(x:cr):Ψ 9 (dY x)=δ (.ah x.lJ):=rfl
theorem aa8(x:cr):Ψ 10 (dY x)=δ (sl 8 nF x.gU):=rfl
theorem YZ(x:cr):ZY 6 2 (dY x)=δ (.agg (qU x.kn)):=rfl
theorem aeT(x:cr):ZY 0 11 (dY x)=δ (.agg (dY x)):=rfl
theorem ad7(x:cr):j0 11 (.agg (dY x))=δ (dY x):=rfl
theorem Ml(x:cr)(l:au)(h:l.length=11):w8 0 (dY x) l=δ (dY x):=by simp [w8,ac0,h]
structure afi where
 key:bP
 value:lG
 gf:Int
deriving DecidableEq
structure af6 where
 unit:Int
 frm:Int
 to:Int
deriving DecidableEq
structure gX where
 aH:Int
 kO:(List cr)
def gO(x:gX):au:=[.ah x.aH,sl 11 dY x.kO]
theorem abC(x:gX):(gO x).length=2:=rfl
def MC(x:gX):Prop:=aG x.aH/\(eB Dr) x.kO
theorem aa9(x:gX):Ψ 0 (gO x)=δ (.ah x.aH):=rfl
theorem aba(x:gX):Ψ 1 (gO x)=δ (sl 11 dY x.kO):=rfl
theorem adC(x:gX):ZY 0 2 (gO x)=δ (.agg (gO x)):=rfl
theorem ac3(x:gX):j0 2 (.agg (gO x))=δ (gO x):=rfl
theorem CX(x:gX)(l:au)(h:l.length=2):w8 0 (gO x) l=δ (gO x):=by simp [w8,abC,h]
structure jq where
 aH:Int
 list:Int
 tT:Int
deriving DecidableEq
def gL(x:jq):au:=[.ah x.aH,.ah x.list,.ah x.tT]
theorem akv(x:jq):(gL x).length=3:=rfl
def QF(x:jq):Prop:=aG x.aH/\aG x.list/\aG x.tT
theorem Yv(x:jq):Ψ 0 (gL x)=δ (.ah x.aH):=rfl
theorem Yw(x:jq):Ψ 1 (gL x)=δ (.ah x.list):=rfl
theorem ai4(x:jq):Ψ 2 (gL x)=δ (.ah x.tT):=rfl
theorem ajB(x:jq):ZY 0 3 (gL x)=δ (.agg (gL x)):=rfl
theorem ajK(x:jq):j0 3 (.agg (gL x))=δ (gL x):=rfl
theorem KG(x:jq)(l:au)(h:l.length=3):w8 0 (gL x) l=δ (gL x):=by simp [w8,akv,h]
structure dM where
 qJ:fA
 gu:(List iz)
 dK:(List gX)
 gF:(List jq)
def dQ(x:dM):au:=[sl 3 fD x.qJ.cY,sl 4 gT x.qJ.iU,sl 3 lC x.gu,sl 2 gO x.dK,sl 3 gL x.gF]
def tX(x:dM):Prop:=xC x.qJ/\(eB CT) x.gu/\(eB MC) x.dK/\(eB QF) x.gF
structure bF where
 time:Int
 kind:Int
 bB:Int
 gf:Int
 level:Int
deriving DecidableEq
def dS(x:bF):au:=[.ah x.time,.ah x.kind,.ah x.bB,.ah x.gf,.ah x.level]
theorem ajY(x:bF):(dS x).length=5:=rfl
def adA(x:bF):Prop:=aG x.time/\aG x.kind/\aG x.bB/\aG x.gf/\aG x.level
theorem AT(x:bF)(l:au)(h:l.length=5):w8 0 (dS x) l=δ (dS x):=by simp [w8,ajY,h]
structure cV where
 bz:Int
 action:bF
deriving DecidableEq
def cE(x:cV):au:=[.ah x.bz,.ah x.action.time,.ah x.action.kind,.ah x.action.bB,.ah x.action.gf,.ah x.action.level]
theorem aaL(x:cV):(cE x).length=6:=rfl
def GV(x:cV):Prop:=aG x.bz/\adA x.action
theorem acH(x:cV)(l:au)(h:l.length=6):w8 0 (cE x) l=δ (cE x):=by simp [w8,aaL,h]
structure iM where
 hours:Int
 minutes:Int
 seconds:Int
 frames:Int
deriving DecidableEq
def iT(x:iM):au:=[.ah x.hours,.ah x.minutes,.ah x.seconds,.ah x.frames]
theorem aaP(x:iM):(iT x).length=4:=rfl
theorem acI(x:iM)(l:au)(h:l.length=4):w8 0 (iT x) l=δ (iT x):=by simp [w8,aaP,h]
structure UN where
 key:bP
 ag0:T7
 aij:Int
 ending:Bool
structure abz where
 bB:Int
 gf:Int
 aim:Int
 aib:Bool
 lJ:Int
 runs:(List UN)
structure P8 where
 level:Int
 hold:Int
 ag0:Int
deriving DecidableEq
structure SA where
 form:Int
 low:Int
 high:Int
 aik:Int
 width:Int
 spread:Int
 back:Bool
 ah7:Bool
 steps:(List P8)
structure T8 where
 time:Int
 ah9:Int
deriving DecidableEq
structure acR where
 effect:SA
 keys:(List bP)
 start:Int
 air:(List T8)
 BZ:Int
 fin:Int
 out:Int
def lN(n:Int):ByteArray:=⟨(Lib.itoa n).toArray⟩
def pX:au->Heap->aC:=YF λa σ=>match a with
 |.int ε n=>if -9223372036854775808<=n/\n<=9223372036854775807 then δ (.str (lN n),σ)else μ
 |_=>μ
theorem tU(n:Int)(h:aG n)(σ:Heap):pX [.int ε n] σ=δ (.str (lN n),σ):=aE h
def bZ(l:List UInt8):ByteArray:=⟨l.toArray⟩
abbrev lZ(s:ByteArray):List UInt8:=s.data.toList
def ji(s p:ByteArray):ByteArray×ByteArray×Bool:=(bZ (Lib.cut (lZ s) (lZ p)).1,bZ (Lib.cut (lZ s) (lZ p)).2.1,(Lib.cut (lZ s) (lZ p)).2.2)
def jt(s p:ByteArray):List ByteArray:=Lib.splitB p 0 (Lib.countB s p) s
def yF:au->Heap->aC:=Yi λa b σ=>match a,b with
 |.str s,.str p=>if s.size<4294967281 then δ (.az [.str (ji s p).1,.str (ji s p).2.1,.bool (ji s p).2.2],σ)else μ
 |_,_=>μ
theorem G3(s p:ByteArray)(h:s.size<4294967281)(σ:Heap):yF [.str s,.str p] σ=δ (.az [.str (ji s p).1,.str (ji s p).2.1,.bool (ji s p).2.2],σ):=aE h
def Fw:au->Heap->aC:=Yi λa b σ=>match a,b with
 |.str s,.str p=>if s.size<4294967281 then δ (.bool (Lib.contains (lZ s) (lZ p)),σ)else μ
 |_,_=>μ
theorem akG(s p:ByteArray)(h:s.size<4294967281)(σ:Heap):Fw [.str s,.str p] σ=δ (.bool (Lib.contains (lZ s) (lZ p)),σ):=aE h
def Cl:au->Heap->aC:=Yi λa b σ=>match a,b with
 |.str s,.str p=>if s.size<4294967281/\1<=p.size then δ (sl 1 jh (jt s p),σ)else μ
 |_,_=>μ
theorem RL(s p:ByteArray)(h:s.size<4294967281/\1<=p.size)(σ:Heap):Cl [.str s,.str p] σ=δ (sl 1 jh (jt s p),σ):=aE h
def Au:au->Heap->aC:=Yi λa b σ=>match a,b with
 |.str s,.str ⟨⟨[c]⟩⟩=>if c.toNat<128/\s.size<=9223372036854775807 then δ (.str (bZ (alW (lZ s) c)),σ)else μ
 |_,_=>μ
theorem ajF(s:ByteArray)(c:UInt8)(h:c.toNat<128/\s.size<=9223372036854775807)(σ:Heap):Au [.str s,.str ⟨#[c]⟩] σ=δ (.str (bZ (alW (lZ s) c)),σ):=aE h
def Du(s:ByteArray):ByteArray:=bZ (alW (lZ s) 48)
theorem Qs(s c:ByteArray)(h:s.size<=9223372036854775807/\c=⟨#[48]⟩)(σ:Heap):Au [.str s,.str c] σ=δ (.str (Du s),σ):=by obtain⟨h1,rfl⟩:=h;exact ajF s 48 ⟨by decide,h1⟩ σ
def iO(b:UInt8):Bool:=decide (48<=b.toNat/\b.toNat<=57)
def jj(s:ByteArray):Bool:=!(lZ s).isEmpty&&(lZ s).all iO
def yG:au->Heap->aC:=YF λa σ=>match a with
 |.str s=>if s.size<=9223372036854775807 then δ (.bool (jj s),σ)else μ
 |_=>μ
theorem Gb(s:ByteArray)(h:s.size<=9223372036854775807)(σ:Heap):yG [.str s] σ=δ (.bool (jj s),σ):=aE h
def lS(s:ByteArray)(most:Int):Int×Bool:=
 if jj s=ξ\/most<(s.size:Int)\/(1<s.size/\(lZ s).head? =δ 48)then(0,ξ)else(((alX (lZ s)).getD 0:Nat),θ)
def AB:au->Heap->aC:=Yi λa b σ=>match a,b with
 |.str s,.int ε n=>if s.size<=9223372036854775807/\n<=18 then δ (.az [.int ε (lS s n).1,.bool (lS s n).2],σ)else μ
 |_,_=>μ
theorem KL(s:ByteArray)(n:Int)(h:s.size<=9223372036854775807/\n<=18)(σ:Heap):AB [.str s,.int ε n] σ=δ (.az [.int ε (lS s n).1,.bool (lS s n).2],σ):=aE h
def FB:au->Heap->aC:=Yi λa b σ=>match a,b with
 |.str a,.str b=>δ (.int ε (ZM a.data.toList b.data.toList),σ)
 |_,_=>μ
section
def Fg (dyn:Nat->au->Heap->aC) (a0 a1:U) (σ:Heap):aC:=(Z0 a0).bind λx1=>(WY (λv2 s3=>(Y3 (ak v2 1) x1).bind λx5=>φ x5 ((XI 3 a0 (ak v2 1)).bind λx6=>((l6 x6 s3).bind λc7=>ZY 0 3 c7).bind λx8=>(A.pH dyn a1 [x8] s3).bind λr9=>φ r9.1 (δ (i7,[(ak v2 1),(ak v2 1)],r9.2)) ((u0 (ak v2 1) (η 1)).bind λaQ=>δ (wh,[(ak v2 0),aQ],r9.2))) (δ (eN 0,[(ak v2 0),(ak v2 1)],s3))) [(η 0),(η 0)] σ).bind λdH=>bif dH.1==eN 0 then(Ξ σ (η (-1)) dH.2.2)else bif dH.1==i7 then(Ξ σ (ak dH.2.1 0) dH.2.2)else μ
def Ff (dyn:Nat->au->Heap->aC):au->Heap->aC:=ir θ [(.s 3)] .k (Yi (Fg dyn))
def Fm (dyn:Nat->au->Heap->aC) (a0 a1:U) (σ:Heap):aC:=(Z0 a0).bind λx1=>(WY (λv2 s3=>(Y3 (ak v2 1) x1).bind λx5=>φ x5 ((XI 11 a0 (ak v2 1)).bind λx6=>((l6 x6 s3).bind λc7=>ZY 0 11 c7).bind λx8=>(A.pH dyn a1 [x8] s3).bind λr9=>φ r9.1 (δ (i7,[(ak v2 1),(ak v2 1)],r9.2)) ((u0 (ak v2 1) (η 1)).bind λaQ=>δ (wh,[(ak v2 0),aQ],r9.2))) (δ (eN 0,[(ak v2 0),(ak v2 1)],s3))) [(η 0),(η 0)] σ).bind λdH=>bif dH.1==eN 0 then(Ξ σ (η (-1)) dH.2.2)else bif dH.1==i7 then(Ξ σ (ak dH.2.1 0) dH.2.2)else μ
def Fl (dyn:Nat->au->Heap->aC):au->Heap->aC:=ir θ [(.s 11)] .k (Yi (Fm dyn))
def Fi (dyn:Nat->au->Heap->aC) (a0 a1:U) (σ:Heap):aC:=(Fl dyn [a0,a1] σ).bind λr1=>(A.geq r1.1 (η 0)).bind λx2=>Ξ σ x2 r1.2
def Fh (dyn:Nat->au->Heap->aC):au->Heap->aC:=ir θ [(.s 11)] .k (Yi (Fi dyn))
def Fk (dyn:Nat->au->Heap->aC) (a0 a1:U) (σ:Heap):aC:=(Z0 a0).bind λx1=>(WY (λv2 s3=>(Y3 (ak v2 1) x1).bind λx5=>φ x5 ((XI 2 a0 (ak v2 1)).bind λx6=>((l6 x6 s3).bind λc7=>ZY 0 2 c7).bind λx8=>(A.pH dyn a1 [x8] s3).bind λr9=>φ r9.1 (δ (i7,[(ak v2 1),(ak v2 1)],r9.2)) ((u0 (ak v2 1) (η 1)).bind λaQ=>δ (wh,[(ak v2 0),aQ],r9.2))) (δ (eN 0,[(ak v2 0),(ak v2 1)],s3))) [(η 0),(η 0)] σ).bind λdH=>bif dH.1==eN 0 then(Ξ σ (η (-1)) dH.2.2)else bif dH.1==i7 then(Ξ σ (ak dH.2.1 0) dH.2.2)else μ
def Fj (dyn:Nat->au->Heap->aC):au->Heap->aC:=ir θ [(.s 2)] .k (Yi (Fk dyn))
def Fe (dyn:Nat->au->Heap->aC) (a0 a1:U) (σ:Heap):aC:=(Z0 a0).bind λx1=>(WY (λv2 s3=>(Y3 (ak v2 1) x1).bind λx5=>φ x5 ((XI 3 a0 (ak v2 1)).bind λx6=>((l6 x6 s3).bind λc7=>ZY 0 3 c7).bind λx8=>(A.pH dyn a1 [x8] s3).bind λr9=>φ r9.1 (δ (i7,[(ak v2 1),(ak v2 1)],r9.2)) ((u0 (ak v2 1) (η 1)).bind λaQ=>δ (wh,[(ak v2 0),aQ],r9.2))) (δ (eN 0,[(ak v2 0),(ak v2 1)],s3))) [(η 0),(η 0)] σ).bind λdH=>bif dH.1==eN 0 then(Ξ σ (η (-1)) dH.2.2)else bif dH.1==i7 then(Ξ σ (ak dH.2.1 0) dH.2.2)else μ
def Fc (dyn:Nat->au->Heap->aC):au->Heap->aC:=ir θ [(.s 3)] .k (Yi (Fe dyn))
def Fa (dyn:Nat->au->Heap->aC) (a0 a1:U) (σ:Heap):aC:=(Fc dyn [a0,a1] σ).bind λr1=>(A.geq r1.1 (η 0)).bind λx2=>Ξ σ x2 r1.2
def E9 (dyn:Nat->au->Heap->aC):au->Heap->aC:=ir θ [(.s 3)] .k (Yi (Fa dyn))
def IW (a0 a1:U) (σ:Heap):aC:=(Z0 a0).bind λx1=>(Z0 a1).bind λx2=>(XQ .i x1 x2).bind λx3=>φ x3 (Ξ σ bw σ) ((Z0 a0).bind λx4=>(WY (λv5 s6=>(Y3 (ak v5 1) x4).bind λx8=>φ x8 ((XI 6 a0 (ak v5 1)).bind λx9=>((l6 x9 s6).bind λfC=>ZY 0 6 fC).bind λaX=>(XI 6 a1 (ak v5 1)).bind λbI=>((l6 bI s6).bind λqu=>ZY 0 6 qu).bind λbV=>(XQ (.s [0,0,0,0,0,0]) aX bV).bind λbS=>φ bS (δ (i7,[bw,(ak v5 1)],s6)) ((u0 (ak v5 1) (η 1)).bind λbW=>δ (wh,[(ak v5 0),bW],s6))) (δ (eN 0,[(ak v5 0),(ak v5 1)],s6))) [bw,(η 0)] σ).bind λjD=>bif jD.1==eN 0 then(Ξ σ bC jD.2.2)else bif jD.1==i7 then(Ξ σ (ak jD.2.1 0) jD.2.2)else μ)
def yx:au->Heap->aC:=ir θ [(.s 6),(.s 6)] .k (Yi IW)
def IT (a0 a1:U) (σ:Heap):aC:=(A.hU a0).bind λx1=>(A.hU a1).bind λx2=>(A.geq x1 x2).bind λx3=>(ι x3 θ (δ a0) aq).bind λx4=>(ι x3 θ (δ a1) aq).bind λx5=>(ι x3 θ (A.hU x5) aq).bind λx6=>(ι x3 θ (A.mE x4 μ (δ x6)) aq).bind λx7=>(ι x3 θ (δ a1) aq).bind λx8=>(ι x3 θ (p5 .z x7 x8) aq).bind λx9=>(i6 x3 x9 bw).bind λaQ=>Ξ σ aQ σ
def Fb:au->Heap->aC:=ir θ [] .k (Yi IT)
def IQ (a0 a1:U) (σ:Heap):aC:=(Fb [a0,a1] σ).bind λr1=>(HH r1.1).bind λx2=>φ x2 (Ξ σ (p7 [a0,bw]) r1.2) ((A.hU a1).bind λx3=>(A.mE a0 (δ x3) μ).bind λx4=>Ξ σ (p7 [x4,bC]) r1.2)
def IM:au->Heap->aC:=ir θ [] .k (Yi IQ)
def Jf (a0 a1:U) (σ:Heap):aC:=(IM [a0,a1] σ).bind λr1=>(p4 0 r1.1).bind λx2=>(p4 1 r1.1).bind λx3=>Ξ σ (p7 [x2,x3]) r1.2
def Jb:au->Heap->aC:=ir θ [] .k (Yi Jf)
def IU (a0 a1:U) (σ:Heap):aC:=(A.hU a0).bind λx1=>(A.hU a1).bind λx2=>(A.geq x1 x2).bind λx3=>(ι x3 θ (δ a0) aq).bind λx4=>(ι x3 θ (δ a0) aq).bind λx5=>(ι x3 θ (A.hU x5) aq).bind λx6=>(ι x3 θ (δ a1) aq).bind λx7=>(ι x3 θ (A.hU x7) aq).bind λx8=>(ι x3 θ (Yj x6 x8) aq).bind λx9=>(ι x3 θ (A.mE x4 (δ x9) μ) aq).bind λaQ=>(ι x3 θ (δ a1) aq).bind λaX=>(ι x3 θ (p5 .z aQ aX) aq).bind λbI=>(i6 x3 bI bw).bind λbJ=>Ξ σ bJ σ
def IP:au->Heap->aC:=ir θ [] .k (Yi IU)
def IS (a0 a1:U) (σ:Heap):aC:=(IP [a0,a1] σ).bind λr1=>(HH r1.1).bind λx2=>φ x2 (Ξ σ (p7 [a0,bw]) r1.2) ((A.hU a0).bind λx3=>(A.hU a1).bind λx4=>(Yj x3 x4).bind λx5=>(A.mE a0 μ (δ x5)).bind λx6=>Ξ σ (p7 [x6,bC]) r1.2)
def IN:au->Heap->aC:=ir θ [] .k (Yi IS)
def Jg (a0 a1:U) (σ:Heap):aC:=(IN [a0,a1] σ).bind λr1=>(p4 0 r1.1).bind λx2=>(p4 1 r1.1).bind λx3=>Ξ σ (p7 [x2,x3]) r1.2
def Jc:au->Heap->aC:=ir θ [] .k (Yi Jg)
def IL (a0 a1:U) (σ:Heap):aC:=(Fb [a0,a1] σ).bind λr1=>φ r1.1 ((A.hU a1).bind λx2=>(A.mE a0 (δ x2) μ).bind λx3=>Ξ σ x3 r1.2) (Ξ σ a0 r1.2)
def IK:au->Heap->aC:=ir θ [] .k (Yi IL)
def I9 (a0 a1:U) (σ:Heap):aC:=(IK [a0,a1] σ).bind λr1=>Ξ σ r1.1 r1.2
def I8:au->Heap->aC:=ir θ [] .k (Yi I9)
end
section
def Ll (a0:U) (σ:Heap):aC:=(A.hU a0).bind λx1=>(WY (λv2 s3=>(Y3 (ak v2 1) x1).bind λx5=>φ x5 ((A.jk a0 (ak v2 1)).bind λx6=>(A.geq x6 (Zx .u8 97)).bind λx7=>(ι x7 θ (δ x6) aq).bind λx8=>(ι x7 θ (A.leq x8 (Zx .u8 122)) aq).bind λx9=>(i6 x7 x9 bw).bind λaQ=>(ι aQ ξ (δ x6) aq).bind λaX=>(ι aQ ξ (A.geq aX (Zx .u8 48)) aq).bind λbI=>(ι aQ ξ (δ bI) aq).bind λbJ=>(ι bJ θ (δ x6) aq).bind λbV=>(ι bJ θ (A.leq bV (Zx .u8 57)) aq).bind λbS=>(ι aQ ξ (i6 bJ bS bw) aq).bind λbW=>(i6 aQ bC bW).bind λcH=>(ι cH ξ (δ x6) aq).bind λcm=>(ι cH ξ (p5 .i cm (Zx .u8 45)) aq).bind λcI=>(i6 cH bC cI).bind λcJ=>(HH cJ).bind λcK=>φ cK (δ (i7,[bw,(ak v2 1)],s3)) ((u0 (ak v2 1) (η 1)).bind λcQ=>δ (wh,[(ak v2 0),cQ],s3))) (δ (eN 0,[(ak v2 0),(ak v2 1)],s3))) [bw,(η 0)] σ).bind λqC=>bif qC.1==eN 0 then((XQ .z a0 gb).bind λcC=>Ξ σ cC qC.2.2)else bif qC.1==i7 then(Ξ σ (ak qC.2.1 0) qC.2.2)else μ
def Le:au->Heap->aC:=ir θ [] .k (YF Ll)
def K0 (a0:U) (σ:Heap):aC:=(Le [a0] σ).bind λr1=>(ι r1.1 θ (δ a0) aq).bind λx2=>(ι r1.1 θ (A.hU x2) aq).bind λx3=>(ι r1.1 θ (A.leq x3 (η 20)) aq).bind λx4=>(i6 r1.1 x4 bw).bind λx5=>(ι x5 θ (δ a0) aq).bind λx6=>(ι x5 θ (A.jk x6 (η 0)) aq).bind λx7=>(ι x5 θ (A.geq x7 (Zx .u8 97)) aq).bind λx8=>(i6 x5 x8 bw).bind λx9=>(ι x9 θ (δ a0) aq).bind λaQ=>(ι x9 θ (A.jk aQ (η 0)) aq).bind λaX=>(ι x9 θ (A.leq aX (Zx .u8 122)) aq).bind λbI=>(i6 x9 bI bw).bind λbJ=>Ξ σ bJ r1.2
def AO:au->Heap->aC:=ir θ [] .k (YF K0)
def Kc (a0 a1 a2:U) (σ:Heap):aC:=(A.geq a0 a1).bind λx1=>(ι x1 θ (δ a0) aq).bind λx2=>(ι x1 θ (δ a2) aq).bind λx3=>(ι x1 θ (A.leq x2 x3) aq).bind λx4=>(i6 x1 x4 bw).bind λx5=>Ξ σ x5 σ
def fQ:au->Heap->aC:=ir θ [] .k (A.oS Kc)
def K3 (a0 a1:U) (σ:Heap):aC:=φ a0 (Ξ σ a1 σ) (Ξ σ (η 0) σ)
def nh:au->Heap->aC:=ir θ [] .k (Yi K3)
def KA (a0:U) (σ:Heap):aC:=(Z0 a0).bind λx1=>(WY (λv2 s3=>(Y3 (ak v2 1) x1).bind λx5=>φ x5 ((XI 1 a0 (ak v2 1)).bind λx6=>((l6 x6 s3).bind λc7=>Ψ 0 c7).bind λx8=>(XQ .i x8 (η 0)).bind λx9=>φ x9 (δ (i7,[x8,(ak v2 1)],s3)) ((u0 (ak v2 1) (η 1)).bind λaQ=>δ (wh,[(ak v2 0),aQ],s3))) (δ (eN 0,[(ak v2 0),(ak v2 1)],s3))) [(η 0),(η 0)] σ).bind λdH=>bif dH.1==eN 0 then(Ξ σ (η 0) dH.2.2)else bif dH.1==i7 then(Ξ σ (ak dH.2.1 0) dH.2.2)else μ
def tK:au->Heap->aC:=ir θ [(.s 1)] .k (YF KA)
def KE (a0:U) (σ:Heap):aC:=(A.hU a0).bind λx1=>(WY (λv2 s3=>(Y3 (ak v2 1) x1).bind λx5=>φ x5 ((A.jk a0 (ak v2 1)).bind λx6=>(Y3 x6 (Zx .u8 32)).bind λx7=>(ι x7 ξ (δ a0) aq).bind λx8=>(ι x7 ξ (δ (ak v2 1)) aq).bind λx9=>(ι x7 ξ (A.jk x8 x9) aq).bind λaQ=>(ι x7 ξ (XW aQ (Zx .u8 126)) aq).bind λaX=>(i6 x7 bC aX).bind λbI=>φ bI (δ (i7,[bw,(ak v2 1)],s3)) ((u0 (ak v2 1) (η 1)).bind λbJ=>δ (wh,[(ak v2 0),bJ],s3))) (δ (eN 0,[(ak v2 0),(ak v2 1)],s3))) [bw,(η 0)] σ).bind λeJ=>bif eJ.1==eN 0 then((XQ .z a0 gb).bind λbS=>(ι bS θ (δ a0) aq).bind λbW=>(ι bS θ (A.hU bW) aq).bind λcH=>(ι bS θ (A.leq cH (η 60)) aq).bind λcm=>(i6 bS cm bw).bind λcI=>(ι cI θ (δ a0) aq).bind λcJ=>(ι cI θ (A.jk cJ (η 0)) aq).bind λcK=>(ι cI θ (XQ .i cK (Zx .u8 32)) aq).bind λcQ=>(i6 cI cQ bw).bind λdU=>(ι dU θ (δ a0) aq).bind λcC=>(ι dU θ (δ a0) aq).bind λeX=>(ι dU θ (A.hU eX) aq).bind λeY=>(ι dU θ (Yj eY (η 1)) aq).bind λdV=>(ι dU θ (A.jk cC dV) aq).bind λdL=>(ι dU θ (XQ .i dL (Zx .u8 32)) aq).bind λdz=>(i6 dU dz bw).bind λdh=>Ξ σ dh eJ.2.2)else bif eJ.1==i7 then(Ξ σ (ak eJ.2.1 0) eJ.2.2)else μ
def FR:au->Heap->aC:=ir θ [] .k (YF KE)
def KB (a0 a1:U) (σ:Heap):aC:=(A.quo a0 a1).bind λx1=>(A.rem a0 a1).bind λx2=>(Y3 x2 (η 0)).bind λx3=>(φ x3 ((Yj x1 (η 1)).bind λx5=>δ ([x5],σ)) (δ ([x1],σ))).bind λr4=>Ξ σ (ak r4.1 0) r4.2
def Ko:au->Heap->aC:=ir θ [] .k (Yi KB)
def KD (a0 a1:U) (σ:Heap):aC:=(akW (η 2) a0).bind λx1=>(u0 x1 a1).bind λx2=>(akW (η 2) a1).bind λx3=>(Ko [x2,x3] σ).bind λr4=>Ξ σ r4.1 r4.2
def Cv:au->Heap->aC:=ir θ [] .k (Yi KD)
def KC (a0:U) (σ:Heap):aC:=(p5 .z a0 gb).bind λx1=>φ x1 (Ξ σ (p7 [Yn,bC]) σ) ((Cl [a0,(Γ ⟨#[10]⟩)] σ).bind λr2=>(Z0 r2.1).bind λx3=>(Yj x3 (η 1)).bind λx4=>(XI 1 r2.1 x4).bind λx5=>((l6 x5 r2.2).bind λc6=>Ψ 0 c6).bind λx7=>(p5 .z x7 gb).bind λx8=>φ x8 ((Z0 r2.1).bind λx9=>(Yj x9 (η 1)).bind λaQ=>(A.yX 1 r2.1 μ (δ aQ) r2.2).bind λaX=>Ξ σ (p7 [aX,bC]) r2.2) (Ξ σ (p7 [r2.1,bw]) r2.2))
def Kp:au->Heap->aC:=ir θ [] (.t [(.s 1),.k]) (YF KC)
def Kb (a0:U) (σ:Heap):aC:=(AB [a0,(η 9)] σ).bind λr1=>(p4 0 r1.1).bind λx2=>(p4 1 r1.1).bind λx3=>Ξ σ (p7 [x2,x3]) r1.2
def Cq:au->Heap->aC:=ir θ [] .k (YF Kb)
end
section
def Js (a0:U) (σ:Heap):aC:=(fQ [a0,(η 0),(η 65535)] σ).bind λr1=>Ξ σ r1.1 r1.2
def Ch:au->Heap->aC:=ir θ [] .k (YF Js)
def I6 (a0:U) (σ:Heap):aC:=(Z0 a0).bind λx1=>(XW x1 (η 30)).bind λx2=>φ x2 (Ξ σ (η 2) σ) ((Z0 a0).bind λx3=>(WY (λv4 s5=>(Y3 (ak v4 1) x3).bind λx7=>φ x7 ((XI 3 a0 (ak v4 1)).bind λx8=>((l6 x8 s5).bind λc9=>ZY 0 3 c9).bind λaQ=>(j0 3 aQ).bind λiY=>(w8 0 iY [(η 0),(η 0),gb]).bind λef=>(Ψ 0 ef).bind λbJ=>(Ch [bJ] s5).bind λeJ=>(HH eJ.1).bind λbS=>(ι bS ξ (Ψ 1 ef) aq).bind λbW=>(ι bS ξ (p6 (Ch [bW] eJ.2) eJ.2) aq).bind λcH=>(ι bS ξ (HH cH) aq).bind λcm=>(i6 bS bC cm).bind λcI=>(ι cI ξ (Ψ 0 ef) aq).bind λcJ=>(ι cI ξ (Ψ 1 ef) aq).bind λcK=>(ι cI ξ (XW cJ cK) aq).bind λcQ=>(i6 cI bC cQ).bind λdU=>φ dU (δ (i7,[(η 1),(ak v4 1)],eJ.2)) ((XW (ak v4 1) (η 0)).bind λcC=>(ι cC θ (Ψ 0 ef) aq).bind λeX=>(ι cC θ (δ a0) aq).bind λeY=>(ι cC θ (δ (ak v4 1)) aq).bind λdV=>(ι cC θ (Yj dV (η 1)) aq).bind λdL=>(ι cC θ (XI 3 eY dL) aq).bind λdz=>(ι cC θ (A.gY 1 dz) aq).bind λdh=>(ι cC θ ((l6 dh eJ.2).bind λvY=>Ψ 0 vY) aq).bind λgj=>(ι cC θ (A.leq eX gj) aq).bind λgQ=>(i6 cC gQ bw).bind λgm=>φ gm (δ (i7,[(η 7),(ak v4 1)],eJ.2)) ((Ψ 2 ef).bind λeR=>(AO [eR] eJ.2).bind λmT=>(HH mT.1).bind λeu=>φ eu (δ (i7,[(η 5),(ak v4 1)],mT.2)) ((Ψ 2 ef).bind λfq=>(Yg .z (XH σ.length) fq bw mT.2).bind λfY=>φ fY (δ (i7,[(η 6),(ak v4 1)],mT.2)) ((Ψ 2 ef).bind λfJ=>(A.jy .z (XH σ.length) fJ bC mT.2).bind λh41=>(u0 (ak v4 1) (η 1)).bind λiG=>δ (wh,[(ak v4 0),iG],h41)))))) (δ (eN 0,[(ak v4 0),(ak v4 1)],s5))) [(η 0),(η 0)] (σ++[Z7 []])).bind λwI=>bif wI.1==eN 0 then(Ξ σ (η 0) wI.2.2)else bif wI.1==i7 then(Ξ σ (ak wI.2.1 0) wI.2.2)else μ)
def I5:au->Heap->aC:=ir θ [(.s 3)] .k (YF I6)
def I2 (a0:U) (σ:Heap):aC:=(j0 3 a0).bind λc1=>(Ψ 0 c1).bind λx2=>(AO [x2] σ).bind λr3=>(HH r3.1).bind λx4=>φ x4 (Ξ σ (η 5) r3.2) ((Ψ 1 c1).bind λx5=>(fQ [x5,(η 1),(η 512)] r3.2).bind λr6=>(HH r6.1).bind λx7=>φ x7 (Ξ σ (η 1) r6.2) ((Ψ 2 c1).bind λx8=>(Z0 x8).bind λx9=>(p5 .i x9 (η 0)).bind λaQ=>φ aQ (Ξ σ (η 8) r6.2) ((Ψ 2 c1).bind λaX=>(Z0 aX).bind λbI=>(XW bI (η 40)).bind λbJ=>φ bJ (Ξ σ (η 2) r6.2) ((Ψ 2 c1).bind λbV=>(Z0 bV).bind λbS=>(WY (λgh Ab=>(Y3 (ak gh 2) bS).bind λcI=>φ cI ((XI 7 bV (ak gh 2)).bind λcJ=>((l6 cJ Ab).bind λzB=>ZY 0 7 zB).bind λcQ=>(j0 7 cQ).bind λjm=>(w8 0 jm [gb,(η 0),(η 0),(η 0),(η 0),bw,Yn]).bind λgd=>(Ψ 0 gd).bind λeX=>(AO [eX] Ab).bind λpR=>(HH pR.1).bind λdV=>φ dV (δ (i7,[(ak gh 0),(η 5),(ak gh 2)],pR.2)) ((Ψ 0 gd).bind λdL=>(Yg .z (XH r6.2.length) dL bw pR.2).bind λdz=>φ dz (δ (i7,[(ak gh 0),(η 6),(ak gh 2)],pR.2)) ((Ψ 1 gd).bind λdh=>(fQ [dh,(η 1),(η 4)] pR.2).bind λrG=>(HH rG.1).bind λgj=>φ gj (δ (i7,[(ak gh 0),(η 4),(ak gh 2)],rG.2)) ((Ψ 2 gd).bind λgQ=>((W9 (ak gh 0)).bind λ_=>δ (1)).bind λp34=>((W9 (ak gh 0)).bind λqv=>Ψ p34 qv).bind λgp=>(fQ [gQ,(η 1),gp] rG.2).bind λgJ=>(HH gJ.1).bind λfq=>(ι fq ξ (Ψ 3 gd) aq).bind λfY=>((W9 (ak gh 0)).bind λ_ => δ (1)).bind λp40 =>(ι fq ξ ((W9 (ak gh 0)).bind λN2=>Ψ p40 N2) aq).bind λiG=>(ι fq ξ (p6 (fQ [fY,(η 0),iG] gJ.2) gJ.2) aq).bind λjW=>(ι fq ξ (HH jW) aq).bind λgD=>(i6 fq bC gD).bind λfZ=>(ι fZ ξ (Ψ 4 gd) aq).bind λow=>(ι fZ ξ (p6 (Ch [ow] gJ.2) gJ.2) aq).bind λgE=>(ι fZ ξ (HH gE) aq).bind λlz=>(i6 fZ bC lz).bind λjE=>φ jE (δ (i7,[(ak gh 0),(η 1),(ak gh 2)],gJ.2)) ((Ψ 2 gd).bind λkH=>(Ψ 3 gd).bind λgR=>(p5 .i kH gR).bind λgK=>(ι gK ξ (δ (XH (r6.2++[Z7 []]).length)) aq).bind λlA=>(ι gK ξ (Ψ 2 gd) aq).bind λjX=>(ι gK ξ (Yg .i lA jX bw gJ.2) aq).bind λkI=>(i6 gK bC kI).bind λjF=>(ι jF ξ (Ψ 3 gd) aq).bind λkT=>(ι jF ξ (XW kT (η 0)) aq).bind λkU=>(ι jF ξ (δ kU) aq).bind λkV=>(ι kV θ (δ (XH (r6.2++[Z7 []]).length)) aq).bind λjG=>(ι kV θ (Ψ 3 gd) aq).bind λiS=>(ι kV θ (Yg .i jG iS bw gJ.2) aq).bind λkJ=>(ι jF ξ (i6 kV kJ bw) aq).bind λgS=>(i6 jF bC gS).bind λmZ=>φ mZ (δ (i7,[(ak gh 0),(η 12),(ak gh 2)],gJ.2)) ((Ψ 6 gd).bind λtE=>(I5 [tE] gJ.2).bind λB5=>(XQ .i B5.1 (η 0)).bind λqL=>φ qL (δ (i7,[(ak gh 0),B5.1,(ak gh 2)],B5.2)) ((Ψ 0 gd).bind λqM=>(Ψ 2 gd).bind λAk=>(A.jy .z (XH r6.2.length) qM bC B5.2).bind λh70=>(A.jy .i (XH (r6.2++[Z7 []]).length) Ak bC h70).bind λV7=>(Ψ 3 gd).bind λtF=>(XW tF (η 0)).bind λrR=>(φ rR ((Ψ 3 gd).bind λkK=>(A.jy .i (XH (r6.2++[Z7 []]).length) kK bC V7).bind λh76=>δ ([(ak gh 0)],h76)) (δ ([(ak gh 0)],V7))).bind λqG=>(u0 (ak gh 2) (η 1)).bind λtG=>δ (wh,[(ak qG.1 0),(ak gh 1),tG],qG.2)))))))) (δ (eN 1,[(ak gh 0),(ak gh 1),(ak gh 2)],Ab))) [(XK c1),(η 0),(η 0)] ((r6.2++[Z7 []])++[Z7 []])).bind λrK=>bif rK.1==eN 1 then(Ξ σ (η 0) rK.2.2)else bif rK.1==i7 then(Ξ σ (ak rK.2.1 1) rK.2.2)else μ))))
def I0:au->Heap->aC:=ir θ [(.a [.k,.k,(.s 7)])] .k (YF I2)
def I1 (a0:U) (σ:Heap):aC:=(Z0 a0).bind λx1=>(XW x1 (η 60)).bind λx2=>φ x2 (Ξ σ (η 2) σ) ((Z0 a0).bind λx3=>(WY (λv4 s5=>(Y3 (ak v4 1) x3).bind λx7=>φ x7 ((XI 3 a0 (ak v4 1)).bind λx8=>((l6 x8 s5).bind λc9=>ZY 0 3 c9).bind λaQ=>(j0 3 aQ).bind λiY=>(w8 0 iY [gb,(η 0),Yn]).bind λef=>(ZY 0 3 ef).bind λbJ=>(I0 [bJ] s5).bind λeJ=>(XQ .i eJ.1 (η 0)).bind λbS=>φ bS (δ (i7,[eJ.1,(ak v4 1)],eJ.2)) ((Ψ 0 ef).bind λbW=>(Yg .z (XH σ.length) bW bw eJ.2).bind λcH=>φ cH (δ (i7,[(η 6),(ak v4 1)],eJ.2)) ((Ψ 0 ef).bind λcm=>(A.jy .z (XH σ.length) cm bC eJ.2).bind λh19=>(u0 (ak v4 1) (η 1)).bind λcJ=>δ (wh,[(ak v4 0),cJ],h19)))) (δ (eN 0,[(ak v4 0),(ak v4 1)],s5))) [(η 0),(η 0)] (σ++[Z7 []])).bind λEE=>bif EE.1==eN 0 then(Ξ σ (η 0) EE.2.2)else bif EE.1==i7 then(Ξ σ (ak EE.2.1 0) EE.2.2)else μ)
def IZ:au->Heap->aC:=ir θ [(.s 3)] .k (YF I1)
def I7 (a0 a1:U) (σ:Heap):aC:=(j0 3 a0).bind λc1=>(Ψ 0 c1).bind λx2=>((l6 a1 σ).bind λc3=>Ψ 0 c3).bind λx4=>(p5 .z x2 x4).bind λx5=>Ξ σ x5 σ
def Ce:au->Heap->aC:=ir θ [(.a [.k,.k,(.s 7)])] .k (Yi I7)
def FC (a0 a1:U) (σ:Heap):aC:=(((Yh a1).bind λv=>δ [v]).bind λcs=>δ (YH cs)).bind λx1=>(Ff (Y1 (λ_ _=>μ) [(64,Ce)]) [a0,(U.fn 64 [x1])] σ).bind λr2=>(Y3 r2.1 (η 0)).bind λx3=>φ x3 ((j0 3 (n9 [gb,(η 0),Yn])).bind λc4=>(w8 0 c4 [gb,(η 0),Yn]).bind λc5=>(ZY 0 3 c5).bind λx6=>Ξ σ (p7 [x6,bw]) r2.2) ((XI 3 a0 r2.1).bind λx7=>((l6 x7 r2.2).bind λc8=>ZY 0 3 c8).bind λx9=>(j0 3 x9).bind λfC=>(w8 0 fC [gb,(η 0),Yn]).bind λiY=>(ZY 0 3 iY).bind λbI=>Ξ σ (p7 [bI,bC]) r2.2)
def FA:au->Heap->aC:=ir θ [(.s 3)] Ia (Yi FC)
def Cf (a0 a1 a2:U) (σ:Heap):aC:=(p5 .p a0 U.np).bind λx1=>φ x1 ((u0 a1 a2).bind λx2=>(Yj x2 (η 1)).bind λx3=>(A.leq x3 (η 512)).bind λx4=>Ξ σ x4 σ) ((WY (λv5 s6=>(u0 a1 a2).bind λx8=>(Y3 (ak v5 1) x8).bind λx9=>φ x9 ((XW (ak v5 1) (η 512)).bind λaQ=>(ι aQ ξ (δ a0) aq).bind λaX=>(ι aQ ξ (δ (ak v5 1)) aq).bind λbI=>(ι aQ ξ (A.um aX) aq).bind λbJ=>(ι aQ ξ (A.uj 513 1 bJ bI) aq).bind λbV=>(ι aQ ξ ((l6 bV s6).bind λlT=>Ψ 0 lT) aq).bind λbW=>(i6 aQ bC bW).bind λcH=>φ cH (δ (i7,[bw,(ak v5 1)],s6)) ((u0 (ak v5 1) (η 1)).bind λcm=>δ (wh,[(ak v5 0),cm],s6))) (δ (eN 0,[(ak v5 0),(ak v5 1)],s6))) [bw,a1] σ).bind λyl=>bif yl.1==eN 0 then(Ξ σ bC yl.2.2)else bif yl.1==i7 then(Ξ σ (ak yl.2.1 0) yl.2.2)else μ)
def Ar:au->Heap->aC:=ir θ [] .k (A.oS Cf)
def Cp (a0 a1 a2:U) (σ:Heap):aC:=(j0 4 a1).bind λc1=>(Ψ 2 c1).bind λx2=>(Yg .i a0 x2 U.np σ).bind λx3=>(p5 .p x3 U.np).bind λx4=>(φ x4 ((Ψ 2 c1).bind λx6=>(A.jy .i a0 x6 (U.op σ.length 0) (σ++[bH.box (w4 513 bw)])).bind λh7=>δ ([(XK c1)],h7)) (δ ([(XK c1)],σ))).bind λr5=>((W9 (ak r5.1 0)).bind λ_=>δ (3)).bind λp8=>((W9 (ak r5.1 0)).bind λc9=>Ψ p8 c9).bind λaQ=>(WY (λv11 Aa=>((W9 (ak v11 0)).bind λ_=>δ (3)).bind λp14=>((W9 (ak v11 0)).bind λlT=>Ψ p14 lT).bind λbW=>(u0 bW a2).bind λcH=>(Y3 (ak v11 1) cH).bind λcm=>φ cm (((W9 (ak v11 0)).bind λ_=>δ (2)).bind λp19=>((W9 (ak v11 0)).bind λD2=>Ψ p19 D2).bind λcK=>(Yg .i a0 cK U.np Aa).bind λcQ=>(A.um cQ).bind λdU=>(A.uj 513 1 dU (ak v11 1)).bind λcC=>((Yh bC).bind λv=>δ [v]).bind λiE=>(akO cC iE Aa).bind λkD=>(u0 (ak v11 1) (η 1)).bind λdV=>δ (wh,[(ak v11 0),dV],kD)) (δ (eN 0,[(ak v11 0),(ak v11 1)],Aa))) [(ak r5.1 0),aQ] r5.2).bind λiZ=>bif iZ.1==eN 0 then(δ ((p7 []),iZ.2.2))else μ
def FG:au->Heap->aC:=ir ξ [] .k (A.oS Cp)
def Jl (a0:U) (σ:Heap):aC:=(j0 2 a0).bind λc1=>(Ψ 0 c1).bind λx2=>(IZ [x2] σ).bind λr3=>(XQ .i r3.1 (η 0)).bind λx4=>φ x4 (Ξ σ r3.1 r3.2) ((Ψ 1 c1).bind λx5=>(Z0 x5).bind λx6=>(XW x6 (η 400)).bind λx7=>φ x7 (Ξ σ (η 2) r3.2) ((Ψ 1 c1).bind λx8=>(Z0 x8).bind λx9=>(WY (λv10 jc=>(Y3 (ak v10 2) x9).bind λbJ=>φ bJ ((XI 4 x8 (ak v10 2)).bind λbV=>((l6 bV jc).bind λlT=>ZY 0 4 lT).bind λbW=>(j0 4 bW).bind λkR=>(w8 0 kR [(η 0),gb,(η 0),(η 0)]).bind λmQ=>(Ψ 0 mQ).bind λcI=>(fQ [cI,(η 1),(η 9999)] jc).bind λwG=>(HH wG.1).bind λcK=>φ cK (δ (i7,[(ak v10 0),(η 1),(ak v10 2)],wG.2)) ((XW (ak v10 2) (η 0)).bind λcQ=>(ι cQ θ (Ψ 0 mQ) aq).bind λdU=>((W9 (ak v10 0)).bind λ_ => δ (1)).bind λp24 =>(ι cQ θ ((W9 (ak v10 0)).bind λiE=>Ψ p24 iE) aq).bind λeY=>(ι cQ θ (δ (ak v10 2)) aq).bind λdV=>(ι cQ θ (Yj dV (η 1)) aq).bind λdL=>(ι cQ θ (XI 4 eY dL) aq).bind λdz=>(ι cQ θ (A.gY 0 dz) aq).bind λdh=>(ι cQ θ ((l6 dh wG.2).bind λvY=>Ψ 0 vY) aq).bind λgj=>(ι cQ θ (A.leq dU gj) aq).bind λgQ=>(i6 cQ gQ bw).bind λgm=>φ gm (δ (i7,[(ak v10 0),(η 7),(ak v10 2)],wG.2)) (((W9 (ak v10 0)).bind λ_=>δ (0)).bind λp35=>((W9 (ak v10 0)).bind λqw=>Ψ p35 qw).bind λeu=>(Ψ 1 mQ).bind λfq=>(FA [eu,fq] wG.2).bind λoh=>(p4 0 oh.1).bind λfJ=>(p4 1 oh.1).bind λgq=>(j0 3 fJ).bind λzF=>(w8 0 zF [gb,(η 0),Yn]).bind λsU=>(HH gq).bind λgD=>φ gD (δ (i7,[(ak v10 0),(η 5),(ak v10 2)],oh.2)) ((Ψ 2 mQ).bind λfZ=>(fQ [fZ,(η 1),(η 64)] oh.2).bind λiy=>(HH iy.1).bind λgE=>(ι gE ξ (Ψ 3 mQ) aq).bind λlz=>(ι gE ξ (p6 (fQ [lz,(η 1),(η 512)] iy.2) iy.2) aq).bind λjE=>(ι gE ξ (HH jE) aq).bind λkH=>(i6 gE bC kH).bind λgR=>(ι gR ξ (Ψ 3 mQ) aq).bind λgK=>(ι gR ξ (Ψ 1 sU) aq).bind λlA=>(ι gR ξ (u0 gK lA) aq).bind λjX=>(ι gR ξ (Yj jX (η 1)) aq).bind λkI=>(ι gR ξ (XW kI (η 512)) aq).bind λjF=>(i6 gR bC jF).bind λkT=>φ kT (δ (i7,[(ak v10 0),(η 1),(ak v10 2)],iy.2)) ((Ψ 2 mQ).bind λkU=>(Yg .i (XH r3.2.length) kU U.np iy.2).bind λkV=>(Ψ 3 mQ).bind λjG=>(Ψ 1 sU).bind λiS=>(Ar [kV,jG,iS] iy.2).bind λOP=>(HH OP.1).bind λgS=>φ gS (δ (i7,[(ak v10 0),(η 12),(ak v10 2)],OP.2)) ((ZY 0 4 mQ).bind λmZ=>(Ψ 1 sU).bind λtE=>(FG [(XH r3.2.length),mZ,tE] OP.2).bind λB5=>(u0 (ak v10 2) (η 1)).bind λqL=>δ (wh,[(ak v10 0),(ak v10 1),qL],B5.2))))))) (δ (eN 0,[(ak v10 0),(ak v10 1),(ak v10 2)],jc))) [(XK c1),(η 0),(η 0)] (r3.2++[Z7 []])).bind λEG=>bif EG.1==eN 0 then(Ξ σ (η 0) EG.2.2)else bif EG.1==i7 then(Ξ σ (ak EG.2.1 1) EG.2.2)else μ))
def Fq:au->Heap->aC:=ir θ [(.a [(.s 3),(.s 4)])] .k (YF Jl)
def Co (a0:U) (σ:Heap):aC:=(j0 2 a0).bind λc1=>(ZY 0 2 c1).bind λx2=>(Fq [x2] σ).bind λr3=>(XQ .i r3.1 (η 0)).bind λx4=>φ x4 (Ξ σ (p7 [Yn,r3.1]) r3.2) ((Ψ 1 c1).bind λx5=>(Z0 x5).bind λx6=>(WY (λv7 s8=>(Y3 (ak v7 2) x6).bind λaQ=>φ aQ ((XI 4 x5 (ak v7 2)).bind λaX=>((l6 aX s8).bind λef=>ZY 0 4 ef).bind λbJ=>(j0 4 bJ).bind λoU=>(w8 0 oU [(η 0),gb,(η 0),(η 0)]).bind λlT=>((W9 (ak v7 0)).bind λ_=>δ (0)).bind λp16=>((W9 (ak v7 0)).bind λkR=>Ψ p16 kR).bind λcm=>(Ψ 1 lT).bind λcI=>(FA [cm,cI] s8).bind λwG=>(p4 0 wG.1).bind λcK=>(p4 1 wG.1).bind λcQ=>(j0 3 cK).bind λjm=>(w8 0 jm [gb,(η 0),Yn]).bind λgd=>(Ψ 2 gd).bind λeX=>(Z0 eX).bind λeY=>(WY (λrN OS=>(Y3 (ak rN 3) eY).bind λdh=>φ dh ((XI 7 eX (ak rN 3)).bind λfX=>((l6 fX OS).bind λzD=>ZY 0 7 zD).bind λgQ=>(j0 7 gQ).bind λc34=>(w8 0 c34 [gb,(η 0),(η 0),(η 0),(η 0),bw,Yn]).bind λqv=>((W9 (ak rN 2)).bind λ_=>δ (0)).bind λp36=>((W9 (ak rN 2)).bind λzE=>Ψ p36 zE).bind λfq=>(Ψ 0 qv).bind λfY=>((((Yh fq).bind λv=>δ [v]).bind λxX=>(w8 0 xX [(η 0),gb]).bind λN2=>((Yh fY).bind λv=>δ [v]).bind λzF=>(w8 1 zF N2).bind λsU=>δ sU).bind λcs=>δ (n9 cs)).bind λgD=>(((j0 2 gD).bind λzG=>(w8 0 zG [(η 0),gb]).bind λzH=>δ zH).bind λcs=>δ (U.sl 2 (lI 2 1 cs))).bind λgE=>(Z9 2 (140737488355328 / 24) (ak rN 1) gE OS).bind λwJ=>(u0 (ak rN 3) (η 1)).bind λjE=>δ (wh,[(ak rN 0),wJ.1,(ak rN 2),jE],wJ.2)) (δ (eN 2,[(ak rN 0),(ak rN 1),(ak rN 2),(ak rN 3)],OS))) [(ak v7 0),(ak v7 1),(XK lT),(η 0)] wG.2).bind λwK=>bif wK.1==eN 2 then((u0 (ak v7 2) (η 1)).bind λgR=>δ (wh,[(ak wK.2.1 0),(ak wK.2.1 1),gR],wK.2.2))else μ) (δ (eN 0,[(ak v7 0),(ak v7 1),(ak v7 2)],s8))) [(XK c1),Yn,(η 0)] r3.2).bind λqE=>bif qE.1==eN 0 then(Ξ σ (p7 [(ak qE.2.1 1),(η 0)]) qE.2.2)else μ)
def FF:au->Heap->aC:=ir θ [(.a [(.s 3),(.s 4)])] (.t [(.s 2),.k]) (YF Co)
end
section
def Jm (a0:U) (σ:Heap):aC:=(j0 2 a0).bind λc1=>(Ψ 0 c1).bind λx2=>(fQ [x2,(η 1),(η 6)] σ).bind λr3=>(HH r3.1).bind λx4=>φ x4 (Ξ σ (η 4) r3.2) ((Ψ 1 c1).bind λx5=>(Ψ 0 c1).bind λx6=>(XQ .i x6 (η 6)).bind λx7=>φ x7 ((Z0 x5).bind λx8=>(XW x8 (η 0)).bind λx9=>(nh [x9,(η 3)] r3.2).bind λcz=>Ξ σ cz.1 cz.2) ((Z0 x5).bind λaX=>(Y3 aX (η 2)).bind λbI=>φ bI (Ξ σ (η 8) r3.2) ((Z0 x5).bind λbJ=>(XW bJ (η 20)).bind λbV=>φ bV (Ξ σ (η 2) r3.2) ((Z0 x5).bind λbS=>(WY (λgh Ab=>(Y3 (ak gh 1) bS).bind λcI=>φ cI ((XI 2 x5 (ak gh 1)).bind λcJ=>((l6 cJ Ab).bind λzB=>ZY 0 2 zB).bind λcQ=>(j0 2 cQ).bind λjm=>(w8 0 jm [(η 0),(η 0)]).bind λgd=>(Ψ 0 gd).bind λeX=>(fQ [eX,(η 0),(η 1000)] Ab).bind λpR=>(HH pR.1).bind λdV=>(ι dV ξ (Ψ 1 gd) aq).bind λdL=>(ι dV ξ (p6 (fQ [dL,(η 0),(η 1000)] pR.2) pR.2) aq).bind λdz=>(ι dV ξ (HH dz) aq).bind λdh=>(i6 dV bC dh).bind λfX=>φ fX (δ (i7,[(η 1),(ak gh 1)],pR.2)) ((u0 (ak gh 1) (η 1)).bind λgj=>δ (wh,[(ak gh 0),gj],pR.2))) (δ (eN 0,[(ak gh 0),(ak gh 1)],Ab))) [(η 0),(η 0)] r3.2).bind λiw=>bif iw.1==eN 0 then((XI 2 x5 (η 0)).bind λgm=>((l6 gm iw.2.2).bind λqv=>ZY 0 2 qv).bind λgp=>(XQ (.s [0,0]) gp (n9 [(η 0),(η 0)])).bind λeu=>(ι eu ξ (δ x5) aq).bind λfq=>(ι eu ξ (δ x5) aq).bind λfY=>(ι eu ξ (Z0 fY) aq).bind λfJ=>(ι eu ξ (Yj fJ (η 1)) aq).bind λgq=>(ι eu ξ (XI 2 fq gq) aq).bind λiG=>(ι eu ξ ((l6 iG iw.2.2).bind λsU=>ZY 0 2 sU) aq).bind λgD=>(ι eu ξ ((((Yh (η 1000)).bind λv=>δ [v]).bind λzG=>(w8 0 zG [(η 0),(η 0)]).bind λzH=>((Yh (η 1000)).bind λv=>δ [v]).bind λsV=>(w8 1 sV zH).bind λzI=>δ zI).bind λcs=>δ (n9 cs)) aq).bind λjE=>(ι eu ξ (XQ (.s [0,0]) gD jE) aq).bind λkH=>(i6 eu bC kH).bind λgR=>φ gR (Ξ σ (η 3) iw.2.2) ((WY (λuP Ad=>(Z0 x5).bind λkI=>(Y3 (ak uP 1) kI).bind λjF=>φ jF ((XI 2 x5 (ak uP 1)).bind λkT=>(A.gY 0 kT).bind λkU=>((l6 kU Ad).bind λN6=>Ψ 0 N6).bind λjG=>(Yj (ak uP 1) (η 1)).bind λiS=>(XI 2 x5 iS).bind λkJ=>(A.gY 0 kJ).bind λgS=>((l6 gS Ad).bind λzJ=>Ψ 0 zJ).bind λtE=>(A.leq jG tE).bind λje=>(ι je ξ (δ x5) aq).bind λqL=>(ι je ξ (δ (ak uP 1)) aq).bind λqM=>(ι je ξ (XI 2 qL qM) aq).bind λAk=>(ι je ξ (A.gY 1 Ak) aq).bind λO1=>(ι je ξ ((l6 O1 Ad).bind λpO=>Ψ 0 pO) aq).bind λtF=>(ι je ξ (δ x5) aq).bind λrR=>(ι je ξ (δ (ak uP 1)) aq).bind λAl=>(ι je ξ (Yj Al (η 1)) aq).bind λkK=>(ι je ξ (XI 2 rR kK) aq).bind λrS=>(ι je ξ (A.gY 1 rS) aq).bind λtG=>(ι je ξ ((l6 tG Ad).bind λzN=>Ψ 0 zN) aq).bind λAm=>(ι je ξ (Y3 tF Am) aq).bind λE1=>(i6 je bC E1).bind λpW=>φ pW (δ (i7,[(η 7),(ak uP 1)],Ad)) ((u0 (ak uP 1) (η 1)).bind λE3=>δ (wh,[(ak uP 0),E3],Ad))) (δ (eN 2,[(ak uP 0),(ak uP 1)],Ad))) [(ak iw.2.1 0),(η 1)] iw.2.2).bind λEJ=>bif EJ.1==eN 2 then(Ξ σ (η 0) EJ.2.2)else bif EJ.1==i7 then(Ξ σ (ak EJ.2.1 0) EJ.2.2)else μ))else bif iw.1==i7 then(Ξ σ (ak iw.2.1 0) iw.2.2)else μ))))
def Ji:au->Heap->aC:=ir θ [(.a [.k,(.s 2)])] .k (YF Jm)
def JL (a0:U) (σ:Heap):aC:=(fQ [a0,(η 0),(η 65535)] σ).bind λr1=>Ξ σ r1.1 r1.2
def FE:au->Heap->aC:=ir θ [] .k (YF JL)
def JU (a0:U) (σ:Heap):aC:=(fQ [a0,(η 0),(η 36000000)] σ).bind λr1=>Ξ σ r1.1 r1.2
def JS:au->Heap->aC:=ir θ [] .k (YF JU)
def Jd (a0:U) (σ:Heap):aC:=(p5 .i a0 (η 0)).bind λx1=>φ x1 (Ξ σ gb σ) ((u0 (η 1000) a0).bind λx2=>(pX [x2] σ).bind λr3=>(A.mE r3.1 (δ (η 1)) μ).bind λx4=>(Au [x4,(Γ ⟨#[48]⟩)] r3.2).bind λr5=>(u0 (Γ ⟨#[46]⟩) r5.1).bind λx6=>Ξ σ x6 r5.2)
def Ja:au->Heap->aC:=ir θ [] .k (YF Jd)
def JF (a0:U) (σ:Heap):aC:=(JS [a0] σ).bind λr1=>(HH r1.1).bind λx2=>φ x2 (Ξ σ (p7 [gb,(η 1)]) r1.2) ((A.quo a0 (η 1000)).bind λx3=>(A.rem a0 (η 1000)).bind λx4=>(Ja [x4] r1.2).bind λr5=>(Y3 x3 (η 60)).bind λx6=>φ x6 ((pX [x3] r5.2).bind λr7=>(u0 r7.1 r5.1).bind λx8=>Ξ σ (p7 [x8,(η 0)]) r7.2) ((A.quo x3 (η 60)).bind λx9=>(pX [x9] r5.2).bind λcz=>(u0 cz.1 (Γ ⟨#[58]⟩)).bind λaX=>(A.rem x3 (η 60)).bind λbI=>(u0 (η 100) bI).bind λbJ=>(pX [bJ] cz.2).bind λeJ=>(A.mE eJ.1 (δ (η 1)) μ).bind λbS=>(u0 aX bS).bind λbW=>(u0 bW r5.1).bind λcH=>Ξ σ (p7 [cH,(η 0)]) eJ.2))
def Jz:au->Heap->aC:=ir θ [] .k (YF JF)
def Kt (a0:U) (σ:Heap):aC:=(FE [a0] σ).bind λr1=>(HH r1.1).bind λx2=>φ x2 (Ξ σ (p7 [gb,(η 1)]) r1.2) ((p5 .i a0 (η 0)).bind λx3=>φ x3 (Ξ σ (p7 [(Γ ⟨#[111,117,116]⟩),(η 0)]) r1.2) ((p5 .i a0 (η 65535)).bind λx4=>φ x4 (Ξ σ (p7 [(Γ ⟨#[102,117,108,108]⟩),(η 0)]) r1.2) ((akW (η 100) a0).bind λx5=>(Cv [x5,(η 65535)] r1.2).bind λr6=>(akW r6.1 (η 65535)).bind λx7=>(Cv [x7,(η 100)] r6.2).bind λr8=>(p5 .i r8.1 a0).bind λx9=>φ x9 ((pX [r6.1] r8.2).bind λcz=>(u0 cz.1 (Γ ⟨#[37]⟩)).bind λaX=>Ξ σ (p7 [aX,(η 0)]) cz.2) ((pX [a0] r8.2).bind λlp=>(u0 (Γ ⟨#[35]⟩) lp.1).bind λbJ=>Ξ σ (p7 [bJ,(η 0)]) lp.2))))
def Kj:au->Heap->aC:=ir θ [] .k (YF Kt)
def JK (a0 a1:U) (σ:Heap):aC:=(yF [a0,(Γ ⟨#[46]⟩)] σ).bind λr1=>(p4 0 r1.1).bind λx2=>(p4 1 r1.1).bind λx3=>(p4 2 r1.1).bind λx4=>(Cq [x2] r1.2).bind λr5=>(p4 0 r5.1).bind λx6=>(p4 1 r5.1).bind λx7=>(HH x7).bind λx8=>(ι x8 ξ (δ x4) aq).bind λx9=>(ι x8 ξ (δ x9) aq).bind λaQ=>(ι aQ θ (δ x3) aq).bind λaX=>(ι aQ θ (p6 (yG [aX] r5.2) r5.2) aq).bind λbI=>(ι aQ θ (HH bI) aq).bind λbJ=>(ι aQ θ (δ bJ) aq).bind λbV=>(ι bV ξ (δ x3) aq).bind λbS=>(ι bV ξ (A.hU bS) aq).bind λbW=>(ι bV ξ (δ a1) aq).bind λcH=>(ι bV ξ (XW bW cH) aq).bind λcm=>(ι aQ θ (i6 bV bC cm) aq).bind λcI=>(ι aQ θ (δ cI) aq).bind λcJ=>(ι cJ ξ (δ x3) aq).bind λcK=>(ι cJ ξ (δ x3) aq).bind λcQ=>(ι cJ ξ (A.hU cQ) aq).bind λdU=>(ι cJ ξ (Yj dU (η 1)) aq).bind λcC=>(ι cJ ξ (A.jk cK cC) aq).bind λeX=>(ι cJ ξ (p5 .i eX (Zx .u8 48)) aq).bind λeY=>(ι aQ θ (i6 cJ bC eY) aq).bind λdV=>(ι x8 ξ (i6 aQ dV bw) aq).bind λdL=>(i6 x8 bC dL).bind λdz=>φ dz (Ξ σ (p7 [(η 0),bw]) r5.2) ((WY (λv30 OU=>(Y3 (ak v30 1) a1).bind λgQ=>φ gQ ((akW (ak v30 0) (η 10)).bind λgm=>(A.hU x3).bind λeR=>(Y3 (ak v30 1) eR).bind λgp=>(φ gp ((A.jk x3 (ak v30 1)).bind λfq=>(Yj fq (Zx .u8 48)).bind λfY=>(A.conv ε fY).bind λfJ=>(u0 gm fJ).bind λgq=>δ ([gq],OU)) (δ ([gm],OU))).bind λgJ=>(u0 (ak v30 1) (η 1)).bind λiG=>δ (wh,[(ak gJ.1 0),iG],gJ.2)) (δ (eN 0,[(ak v30 0),(ak v30 1)],OU))) [x6,(η 0)] r5.2).bind λwI=>bif wI.1==eN 0 then(Ξ σ (p7 [(ak wI.2.1 0),bC]) wI.2.2)else μ)
def AA:au->Heap->aC:=ir θ [] .k (Yi JK)
def Ks (a0:U) (σ:Heap):aC:=(p5 .z a0 (Γ ⟨#[111,117,116]⟩)).bind λx1=>φ x1 (Ξ σ (p7 [(η 0),(η 0)]) σ) ((p5 .z a0 (Γ ⟨#[102,117,108,108]⟩)).bind λx2=>φ x2 (Ξ σ (p7 [(η 65535),(η 0)]) σ) ((Jb [a0,(Γ ⟨#[35]⟩)] σ).bind λr3=>(p4 0 r3.1).bind λx4=>(p4 1 r3.1).bind λx5=>φ x5 ((Cq [x4] r3.2).bind λr6=>(p4 0 r6.1).bind λx7=>(p4 1 r6.1).bind λx8=>(HH x8).bind λx9=>(ι x9 ξ (δ x7) aq).bind λaQ=>(ι x9 ξ (p6 (FE [aQ] r6.2) r6.2) aq).bind λaX=>(ι x9 ξ (HH aX) aq).bind λbI=>(i6 x9 bC bI).bind λbJ=>φ bJ (Ξ σ (p7 [(η 0),(η 9)]) r6.2) (Ξ σ (p7 [x7,(η 0)]) r6.2)) ((Jc [a0,(Γ ⟨#[37]⟩)] r3.2).bind λeJ=>(p4 0 eJ.1).bind λbS=>(p4 1 eJ.1).bind λbW=>(AA [bS,(η 2)] eJ.2).bind λjD=>(p4 0 jD.1).bind λcm=>(p4 1 jD.1).bind λcI=>(HH bW).bind λcJ=>(ι cJ ξ (δ cI) aq).bind λcK=>(ι cJ ξ (HH cK) aq).bind λcQ=>(i6 cJ bC cQ).bind λdU=>(ι dU ξ (δ cm) aq).bind λcC=>(ι dU ξ (XW cC (η 10000)) aq).bind λeX=>(i6 dU bC eX).bind λeY=>φ eY (Ξ σ (p7 [(η 0),(η 9)]) jD.2) ((akW cm (η 65535)).bind λdV=>(Cv [dV,(η 10000)] jD.2).bind λiZ=>Ξ σ (p7 [iZ.1,(η 0)]) iZ.2))))
def FP:au->Heap->aC:=ir θ [] .k (YF Ks)
def JE (a0:U) (σ:Heap):aC:=(yF [a0,(Γ ⟨#[58]⟩)] σ).bind λr1=>(p4 0 r1.1).bind λx2=>(p4 1 r1.1).bind λx3=>(p4 2 r1.1).bind λx4=>(HH x4).bind λx5=>φ x5 ((AA [a0,(η 3)] r1.2).bind λr6=>(p4 0 r6.1).bind λx7=>(p4 1 r6.1).bind λx8=>(HH x8).bind λx9=>(ι x9 ξ (δ x7) aq).bind λaQ=>(ι x9 ξ (XW aQ (η 59999)) aq).bind λaX=>(i6 x9 bC aX).bind λbI=>φ bI (Ξ σ (p7 [(η 0),(η 9)]) r6.2) (Ξ σ (p7 [x7,(η 0)]) r6.2)) ((AB [x2,(η 4)] r1.2).bind λoc=>(p4 0 oc.1).bind λbV=>(p4 1 oc.1).bind λbS=>(yF [x3,(Γ ⟨#[46]⟩)] oc.2).bind λr16=>(p4 0 r16.1).bind λcH=>(p4 1 r16.1).bind λcm=>(p4 2 r16.1).bind λcI=>(HH bS).bind λcJ=>(ι cJ ξ (δ bV) aq).bind λcK=>(ι cJ ξ (p5 .i cK (η 0)) aq).bind λcQ=>(i6 cJ bC cQ).bind λdU=>(ι dU ξ (δ cH) aq).bind λcC=>(ι dU ξ (A.hU cC) aq).bind λeX=>(ι dU ξ (XQ .i eX (η 2)) aq).bind λeY=>(i6 dU bC eY).bind λdV=>(ι dV ξ (δ cH) aq).bind λdL=>(ι dV ξ (p6 (yG [dL] r16.2) r16.2) aq).bind λdz=>(ι dV ξ (HH dz) aq).bind λdh=>(i6 dV bC dh).bind λfX=>φ fX (Ξ σ (p7 [(η 0),(η 9)]) r16.2) ((I8 [x3,(Γ ⟨#[48]⟩)] r16.2).bind λr32=>(AA [r32.1,(η 3)] r32.2).bind λiw=>(p4 0 iw.1).bind λgm=>(p4 1 iw.1).bind λeR=>(p5 .z cH (Γ ⟨#[48,48]⟩)).bind λgp=>(φ gp ((A.mE x3 (δ (η 1)) μ).bind λfq=>(AA [fq,(η 3)] iw.2).bind λoh=>(p4 0 oh.1).bind λfJ=>(p4 1 oh.1).bind λgq=>δ ([gq,fJ],oh.2)) (δ ([eR,gm],iw.2))).bind λgJ=>(HH (ak gJ.1 0)).bind λiG=>(ι iG ξ (δ (ak gJ.1 1)) aq).bind λjW=>(ι iG ξ (XW jW (η 59999)) aq).bind λgD=>(i6 iG bC gD).bind λfZ=>(ι fZ ξ (δ cm) aq).bind λow=>(ι fZ ξ (p5 .z ow gb) aq).bind λgE=>(ι fZ ξ (δ gE) aq).bind λlz=>(ι lz θ (δ x3) aq).bind λjE=>(ι lz θ (p6 (Fw [jE,(Γ ⟨#[46]⟩)] gJ.2) gJ.2) aq).bind λkH=>(ι fZ ξ (i6 lz kH bw) aq).bind λgR=>(i6 fZ bC gR).bind λgK=>φ gK (Ξ σ (p7 [(η 0),(η 9)]) gJ.2) ((akW bV (η 60000)).bind λlA=>(u0 (ak gJ.1 1) lA).bind λjX=>(XW jX (η 36000000)).bind λkI=>φ kI (Ξ σ (p7 [(η 0),(η 1)]) gJ.2) (Ξ σ (p7 [jX,(η 0)]) gJ.2))))
def Jy:au->Heap->aC:=ir θ [] .k (YF JE)
end
section
def KX (a0:U) (σ:Heap):aC:=(j0 2 a0).bind λc1=>(ZY 0 2 c1).bind λx2=>(FF [x2] σ).bind λr3=>(p4 0 r3.1).bind λx4=>(p4 1 r3.1).bind λx5=>(Z0 x4).bind λx6=>(WY (λv7 s8=>(Y3 (ak v7 0) x6).bind λaQ=>φ aQ ((XI 2 x4 (ak v7 0)).bind λaX=>((l6 aX s8).bind λef=>ZY 0 2 ef).bind λbJ=>(j0 2 bJ).bind λoU=>(w8 0 oU [(η 0),gb]).bind λlT=>(ZY 0 2 lT).bind λbW=>(A.jy (.s [0,2]) (XH r3.2.length) bW bC s8).bind λh17=>(u0 (ak v7 0) (η 1)).bind λcm=>δ (wh,[cm],h17)) (δ (eN 0,[(ak v7 0)],s8))) [(η 0)] (r3.2++[Z7 []])).bind λyl=>bif yl.1==eN 0 then(Ξ σ (XH r3.2.length) yl.2.2)else μ
def KN:au->Heap->aC:=ir θ [(.a [(.s 3),(.s 4)])] .k (YF KX)
def Kv (a0:U) (σ:Heap):aC:=(p5 .z a0 gb).bind λx1=>(ι x1 ξ (δ a0) aq).bind λx2=>(ι x1 ξ (p6 (FR [x2] σ) σ) aq).bind λx3=>(i6 x1 bC x3).bind λx4=>Ξ σ x4 σ
def Kl:au->Heap->aC:=ir θ [] .k (YF Kv)
def JV (a0:U) (σ:Heap):aC:=(fQ [a0,(η 0),(η 65535)] σ).bind λr1=>Ξ σ r1.1 r1.2
def FH:au->Heap->aC:=ir θ [] .k (YF JV)
def J8 (a0 a1:U) (σ:Heap):aC:=(j0 2 a0).bind λc1=>(j0 2 a1).bind λc2=>(Ψ 0 c1).bind λx3=>(Ψ 0 c2).bind λx4=>(XQ .i x3 x4).bind λx5=>φ x5 ((Ψ 0 c1).bind λx6=>(Ψ 0 c2).bind λx7=>(Y3 x6 x7).bind λx8=>Ξ σ x8 σ) ((Ψ 1 c1).bind λx9=>(Ψ 1 c2).bind λaQ=>(FB [x9,aQ] σ).bind λdH=>(Y3 dH.1 (η 0)).bind λbI=>Ξ σ bI dH.2)
def J4:au->Heap->aC:=ir θ [] .k (Yi J8)
def Je (a0 a1:U) (σ:Heap):aC:=(j0 2 a0).bind λc1=>(ZY 0 2 c1).bind λx2=>(Fq [x2] σ).bind λr3=>(Z0 a1).bind λx4=>(XW x4 (η 200)).bind λx5=>(nh [x5,(η 2)] r3.2).bind λr6=>((((Yh r3.1).bind λv=>δ [v]).bind λc7=>(w8 0 c7 [(η 0),(η 0)]).bind λc8=>((Yh r6.1).bind λv=>δ [v]).bind λc9=>(w8 1 c9 c8).bind λfC=>δ fC).bind λcs=>δ (U.sl 1 (lI 1 2 cs))).bind λaX=>(tK [aX] r6.2).bind λlp=>(XQ .i lp.1 (η 0)).bind λbJ=>φ bJ (Ξ σ lp.1 lp.2) ((ZY 0 2 c1).bind λbV=>(KN [bV] lp.2).bind λiR=>(Z0 a1).bind λbW=>(WY (λfP mU=>(Y3 (ak fP 1) bW).bind λcJ=>φ cJ ((XI 3 a1 (ak fP 1)).bind λcK=>((l6 cK mU).bind λsQ=>ZY 0 3 sQ).bind λdU=>(j0 3 dU).bind λgd=>(w8 0 gd [(η 0),gb,Yn]).bind λiE=>(Ψ 0 iE).bind λeY=>(fQ [eY,(η 1),(η 999)] mU).bind λlX=>(HH lX.1).bind λdL=>φ dL (δ (i7,[(η 1),(ak fP 1)],lX.2)) ((XW (ak fP 1) (η 0)).bind λdz=>(ι dz θ (Ψ 0 iE) aq).bind λdh=>(ι dz θ (δ a1) aq).bind λfX=>(ι dz θ (δ (ak fP 1)) aq).bind λgj=>(ι dz θ (Yj gj (η 1)) aq).bind λgQ=>(ι dz θ (XI 3 fX gQ) aq).bind λgm=>(ι dz θ (A.gY 0 gm) aq).bind λeR=>(ι dz θ ((l6 eR lX.2).bind λqw=>Ψ 0 qw) aq).bind λeu=>(ι dz θ (A.leq dh eu) aq).bind λfq=>(i6 dz fq bw).bind λfY=>φ fY (δ (i7,[(η 7),(ak fP 1)],lX.2)) ((Ψ 1 iE).bind λfJ=>(Kl [fJ] lX.2).bind λrI=>(HH rI.1).bind λiG=>φ iG (δ (i7,[(η 3),(ak fP 1)],rI.2)) ((Ψ 2 iE).bind λjW=>(Z0 jW).bind λgD=>(XW gD (η 2000)).bind λfZ=>φ fZ (δ (i7,[(η 2),(ak fP 1)],rI.2)) ((Ψ 2 iE).bind λow=>(Z0 ow).bind λgE=>(WY (λmg EN=>(Y3 (ak mg 2) gE).bind λgR=>φ gR ((XI 3 ow (ak mg 2)).bind λgK=>((l6 gK EN).bind λN4=>ZY 0 3 N4).bind λjX=>(j0 3 jX).bind λN5=>(w8 0 N5 [(η 0),gb,(η 0)]).bind λD7=>(ZY 0 2 D7).bind λkT=>(Yg (.s [0,2]) iR.1 kT bw EN).bind λkU=>(HH kU).bind λkV=>φ kV (δ (i7,[(η 8),(ak mg 1),(ak mg 2)],EN)) ((Ψ 2 D7).bind λjG=>(FH [jG] EN).bind λpS=>(HH pS.1).bind λkJ=>φ kJ (δ (i7,[(η 1),(ak mg 1),(ak mg 2)],pS.2)) ((XW (ak mg 2) (η 0)).bind λgS=>((W9 (ak mg 1)).bind λ_ => δ (2)).bind λOM =>(ι gS θ ((W9 (ak mg 1)).bind λzK=>Ψ OM zK) aq).bind λje=>(ι gS θ (δ (ak mg 2)) aq).bind λqL=>(ι gS θ (Yj qL (η 1)) aq).bind λqM=>(ι gS θ (XI 3 je qM) aq).bind λAk=>(ι gS θ (A.gY 0 Ak) aq).bind λO1=>(ι gS θ ((l6 O1 pS.2).bind λpO=>ZY 0 2 pO) aq).bind λtF=>(ι gS θ (ZY 0 2 D7) aq).bind λrR=>(ι gS θ (p6 (J4 [tF,rR] pS.2) pS.2) aq).bind λAl=>(ι gS θ (HH Al) aq).bind λkK=>(i6 gS kK bw).bind λrS=>φ rS (δ (i7,[(η 7),(ak mg 1),(ak mg 2)],pS.2)) ((u0 (ak mg 2) (η 1)).bind λtG=>δ (wh,[(ak mg 0),(ak mg 1),tG],pS.2))))) (δ (eN 3,[(ak mg 0),(ak mg 1),(ak mg 2)],EN))) [(ak fP 0),(XK iE),(η 0)] rI.2).bind λrK=>bif rK.1==eN 3 then((u0 (ak fP 1) (η 1)).bind λAm=>δ (wh,[(ak rK.2.1 0),Am],rK.2.2))else bif rK.1==i7 then(δ (i7,[(ak rK.2.1 0),(ak fP 1)],rK.2.2))else μ))))) (δ (eN 0,[(ak fP 0),(ak fP 1)],mU))) [(η 0),(η 0)] iR.2).bind λEI=>bif EI.1==eN 0 then(Ξ σ (η 0) EI.2.2)else bif EI.1==i7 then(Ξ σ (ak EI.2.1 0) EI.2.2)else μ)
def Fo:au->Heap->aC:=ir θ [(.a [(.s 3),(.s 4)]),(.s 3)] .k (Yi Je)
def Ku (a0 a1 a2:U) (σ:Heap):aC:=(j0 2 a1).bind λc1=>(j0 2 a2).bind λc2=>(Ψ 0 c2).bind λx3=>(XQ .i x3 (η 0)).bind λx4=>(ι x4 θ (Ψ 1 c2) aq).bind λx5=>(ι x4 θ (XQ .i x5 (η 0)) aq).bind λx6=>(i6 x4 x6 bw).bind λx7=>φ x7 (Ξ σ (p7 [(η 0),(η 3)]) σ) ((Ψ 0 c2).bind λx8=>(FH [x8] σ).bind λr9=>(HH r9.1).bind λaQ=>φ aQ (Ξ σ (p7 [(η 0),(η 1)]) r9.2) ((Ψ 1 c2).bind λaX=>(p5 .i aX (η 0)).bind λbI=>φ bI ((Ψ 0 c2).bind λbJ=>Ξ σ (p7 [bJ,(η 0)]) r9.2) ((Z0 a0).bind λbV=>(WY (λlu wM=>(Y3 (ak lu 4) bV).bind λcm=>φ cm ((XI 3 a0 (ak lu 4)).bind λcI=>((l6 cI wM).bind λD2=>ZY 0 3 D2).bind λcK=>(j0 3 cK).bind λsQ=>(w8 0 sQ [(η 0),gb,Yn]).bind λjm=>(Ψ 0 jm).bind λcC=>((W9 (ak lu 1)).bind λ_=>δ (1)).bind λp25=>((W9 (ak lu 1)).bind λkD=>Ψ p25 kD).bind λdV=>(XQ .i cC dV).bind λdL=>φ dL ((u0 (ak lu 4) (η 1)).bind λdz=>δ (wh,[(ak lu 0),(ak lu 1),(ak lu 2),(ak lu 3),dz],wM)) ((Ψ 2 jm).bind λdh=>(Z0 dh).bind λfX=>(WY (λqK IC=>(Y3 (ak qK 3) fX).bind λeR=>φ eR ((XI 3 dh (ak qK 3)).bind λgp=>((l6 gp IC).bind λzE=>ZY 0 3 zE).bind λfq=>(j0 3 fq).bind λD3=>(w8 0 D3 [(η 0),gb,(η 0)]).bind λxX=>(ZY 0 2 xX).bind λgq=>((W9 (ak qK 0)).bind λzF=>ZY 0 2 zF).bind λjW=>(p5 (.s [0,2]) gq jW).bind λgD=>φ gD ((Ψ 2 xX).bind λfZ=>δ (i7,[(ak qK 0),fZ,(η 0),(ak qK 3)],IC)) ((u0 (ak qK 3) (η 1)).bind λow=>δ (wh,[(ak qK 0),(ak qK 1),(ak qK 2),ow],IC))) (δ (eN 2,[(ak qK 0),(ak qK 1),(ak qK 2),(ak qK 3)],IC))) [(ak lu 0),(ak lu 2),(ak lu 3),(η 0)] wM).bind λuM=>bif uM.1==eN 2 then(δ (eN 0,[(ak uM.2.1 0),U.undef,(ak uM.2.1 1),(ak uM.2.1 2),(ak lu 4)],uM.2.2))else bif uM.1==i7 then(δ (i7,[(ak uM.2.1 0),U.undef,(ak uM.2.1 1),(ak uM.2.1 2),(ak lu 4)],uM.2.2))else μ)) (δ (eN 0,[(ak lu 0),(ak lu 1),(ak lu 2),(ak lu 3),(ak lu 4)],wM))) [(XK c1),(XK c2),(η 0),(η 0),(η 0)] r9.2).bind λwJ=>bif wJ.1==eN 0 then(Ξ σ (p7 [(η 0),(η 8)]) wJ.2.2)else bif wJ.1==i7 then(Ξ σ (p7 [(ak wJ.2.1 2),(ak wJ.2.1 3)]) wJ.2.2)else μ)))
def Kk:au->Heap->aC:=ir θ [(.s 3)] .k (A.oS Ku)
end
section
def Kr (a0:U) (σ:Heap):aC:=(fQ [a0,(η 0),(η 36000000)] σ).bind λr1=>Ξ σ r1.1 r1.2
def wU:au->Heap->aC:=ir θ [] .k (YF Kr)
def J7 (a0 a1:U) (σ:Heap):aC:=(j0 2 a0).bind λc1=>(j0 2 a1).bind λc2=>(Ψ 0 c1).bind λx3=>(Ψ 0 c2).bind λx4=>(XQ .i x3 x4).bind λx5=>φ x5 ((Ψ 0 c1).bind λx6=>(Ψ 0 c2).bind λx7=>(Y3 x6 x7).bind λx8=>φ x8 (Ξ σ (η (-1)) σ) (Ξ σ (η 1) σ)) ((Ψ 1 c1).bind λx9=>(Ψ 1 c2).bind λaQ=>(FB [x9,aQ] σ).bind λdH=>Ξ σ dH.1 dH.2)
def J3:au->Heap->aC:=ir θ [] .k (Yi J7)
def JC (a0:U) (σ:Heap):aC:=(Z0 a0).bind λx1=>(WY (λv2 s3=>(Y3 (ak v2 1) x1).bind λx5=>φ x5 ((XI 8 a0 (ak v2 1)).bind λx6=>((l6 x6 s3).bind λc7=>ZY 0 8 c7).bind λx8=>(j0 8 x8).bind λc9=>(w8 0 c9 [(η 0),gb,(η 0),(η 0),bw,bw,(η 0),(η 0)]).bind λfC=>(Ψ 0 fC).bind λaX=>(fQ [aX,(η 1),(η 9999)] s3).bind λlp=>(HH lp.1).bind λbJ=>φ bJ (δ (i7,[(η 1),(ak v2 1)],lp.2)) ((Ψ 1 fC).bind λbV=>(AO [bV] lp.2).bind λiR=>(HH iR.1).bind λbW=>φ bW (δ (i7,[(η 5),(ak v2 1)],iR.2)) ((Ψ 4 fC).bind λcH=>(ι cH θ (ZY 2 2 fC) aq).bind λcm=>(ι cH θ (δ (n9 [(η 0),(η 0)])) aq).bind λcI=>(ι cH θ (XQ (.s [0,0]) cm cI) aq).bind λcJ=>(i6 cH cJ bw).bind λcK=>(ι cK ξ (Ψ 2 fC) aq).bind λcQ=>(ι cK ξ (XQ .i cQ (η 0)) aq).bind λdU=>(ι cK ξ (δ dU) aq).bind λcC=>(ι cC θ (Ψ 3 fC) aq).bind λeX=>(ι cC θ (XQ .i eX (η 0)) aq).bind λeY=>(ι cK ξ (i6 cC eY bw) aq).bind λdV=>(i6 cK bC dV).bind λdL=>φ dL (δ (i7,[(η 3),(ak v2 1)],iR.2)) ((Ψ 2 fC).bind λdz=>(fQ [dz,(η 0),(η 65535)] iR.2).bind λrF=>(HH rF.1).bind λfX=>(ι fX ξ (Ψ 3 fC) aq).bind λgj=>(ι fX ξ (p6 (fQ [gj,(η 0),(η 999)] rF.2) rF.2) aq).bind λgQ=>(ι fX ξ (HH gQ) aq).bind λgm=>(i6 fX bC gm).bind λeR=>φ eR (δ (i7,[(η 1),(ak v2 1)],rF.2)) ((Ψ 5 fC).bind λgp=>(HH gp).bind λeu=>(ι eu θ (Ψ 6 fC) aq).bind λfq=>(ι eu θ (XQ .i fq (η 0)) aq).bind λfY=>(ι eu θ (δ fY) aq).bind λfJ=>(ι fJ ξ (Ψ 7 fC) aq).bind λgq=>(ι fJ ξ (XQ .i gq (η 0)) aq).bind λiG=>(ι eu θ (i6 fJ bC iG) aq).bind λjW=>(i6 eu jW bw).bind λgD=>φ gD (δ (i7,[(η 3),(ak v2 1)],rF.2)) ((Ψ 6 fC).bind λfZ=>(wU [fZ] rF.2).bind λiy=>(HH iy.1).bind λgE=>(ι gE ξ (Ψ 7 fC) aq).bind λlz=>(ι gE ξ (p6 (wU [lz] iy.2) iy.2) aq).bind λjE=>(ι gE ξ (HH jE) aq).bind λkH=>(i6 gE bC kH).bind λgR=>φ gR (δ (i7,[(η 1),(ak v2 1)],iy.2)) ((XW (ak v2 1) (η 0)).bind λgK=>(ι gK θ (δ a0) aq).bind λlA=>(ι gK θ (δ (ak v2 1)) aq).bind λjX=>(ι gK θ (Yj jX (η 1)) aq).bind λkI=>(ι gK θ (XI 8 lA kI) aq).bind λjF=>(ι gK θ (A.gY 0 jF) aq).bind λkT=>(ι gK θ ((l6 kT iy.2).bind λD8=>ZY 0 2 D8) aq).bind λkV=>(ι gK θ (ZY 0 2 fC) aq).bind λjG=>(ι gK θ (p6 (J3 [kV,jG] iy.2) iy.2) aq).bind λiS=>(ι gK θ (A.geq iS (η 0)) aq).bind λkJ=>(i6 gK kJ bw).bind λgS=>φ gS (δ (i7,[(η 7),(ak v2 1)],iy.2)) ((u0 (ak v2 1) (η 1)).bind λmZ=>δ (wh,[(ak v2 0),mZ],iy.2))))))))) (δ (eN 0,[(ak v2 0),(ak v2 1)],s3))) [(η 0),(η 0)] σ).bind λrJ=>bif rJ.1==eN 0 then(Ξ σ (η 0) rJ.2.2)else bif rJ.1==i7 then(Ξ σ (ak rJ.2.1 0) rJ.2.2)else μ
def Jw:au->Heap->aC:=ir θ [(.s 8)] .k (YF JC)
def Lj (a0:U) (σ:Heap):aC:=(Z0 a0).bind λx1=>(XW x1 (η 300)).bind λx2=>φ x2 (Ξ σ (η 2) σ) ((Z0 a0).bind λx3=>(WY (λv4 s5=>(Y3 (ak v4 2) x3).bind λx7=>φ x7 ((XI 11 a0 (ak v4 2)).bind λx8=>((l6 x8 s5).bind λc9=>ZY 0 11 c9).bind λaQ=>(j0 11 aQ).bind λiY=>(w8 0 iY [(η 0),gb,(η 0),(η 0),(η 0),(η 0),(η 0),Yn,bw,(η 0),Yn]).bind λef=>(Ψ 0 ef).bind λbJ=>(fQ [bJ,(η 1),(η 9999999)] s5).bind λeJ=>(HH eJ.1).bind λbS=>φ bS (δ (i7,[(η 1),(ak v4 1),(ak v4 2)],eJ.2)) ((XW (ak v4 2) (η 0)).bind λbW=>(ι bW θ (Ψ 0 ef) aq).bind λcH=>(ι bW θ (δ a0) aq).bind λcm=>(ι bW θ (δ (ak v4 2)) aq).bind λcI=>(ι bW θ (Yj cI (η 1)) aq).bind λcJ=>(ι bW θ (XI 11 cm cJ) aq).bind λcK=>(ι bW θ (A.gY 0 cK) aq).bind λcQ=>(ι bW θ ((l6 cQ eJ.2).bind λjm=>Ψ 0 jm) aq).bind λcC=>(ι bW θ (A.leq cH cC) aq).bind λeX=>(i6 bW eX bw).bind λeY=>φ eY (δ (i7,[(η 7),(ak v4 1),(ak v4 2)],eJ.2)) ((Ψ 1 ef).bind λdV=>(XQ .z dV gb).bind λdL=>(ι dL θ (Ψ 1 ef) aq).bind λdz=>(ι dL θ (p6 (FR [dz] eJ.2) eJ.2) aq).bind λdh=>(ι dL θ (HH dh) aq).bind λfX=>(i6 dL fX bw).bind λgj=>φ gj (δ (i7,[(η 3),(ak v4 1),(ak v4 2)],eJ.2)) ((Ψ 2 ef).bind λgQ=>(wU [gQ] eJ.2).bind λgI=>(HH gI.1).bind λeR=>(ι eR ξ (Ψ 3 ef) aq).bind λgp=>(ι eR ξ (p6 (wU [gp] gI.2) gI.2) aq).bind λeu=>(ι eR ξ (HH eu) aq).bind λfq=>(i6 eR bC fq).bind λfY=>(ι fY ξ (Ψ 4 ef) aq).bind λfJ=>(ι fY ξ (p6 (wU [fJ] gI.2) gI.2) aq).bind λgq=>(ι fY ξ (HH gq) aq).bind λiG=>(i6 fY bC iG).bind λjW=>(ι jW ξ (Ψ 5 ef) aq).bind λgD=>(ι jW ξ (p6 (wU [gD] gI.2) gI.2) aq).bind λfZ=>(ι jW ξ (HH fZ) aq).bind λow=>(i6 jW bC ow).bind λgE=>(ι gE ξ (Ψ 9 ef) aq).bind λlz=>(ι gE ξ (p6 (fQ [lz,(η (-1)),(η 36000000)] gI.2) gI.2) aq).bind λjE=>(ι gE ξ (HH jE) aq).bind λkH=>(i6 gE bC kH).bind λgR=>φ gR (δ (i7,[(η 1),(ak v4 1),(ak v4 2)],gI.2)) ((ZY 6 2 ef).bind λgK=>(Ji [gK] gI.2).bind λlY=>(XQ .i lY.1 (η 0)).bind λjX=>φ jX (δ (i7,[lY.1,(ak v4 1),(ak v4 2)],lY.2)) ((Ψ 10 ef).bind λkI=>(Z0 kI).bind λjF=>(XW jF (η 2000)).bind λkT=>φ kT (δ (i7,[(η 2),(ak v4 1),(ak v4 2)],lY.2)) ((Ψ 10 ef).bind λkU=>(Jw [kU] lY.2).bind λIx=>(XQ .i Ix.1 (η 0)).bind λjG=>φ jG (δ (i7,[Ix.1,(ak v4 1),(ak v4 2)],Ix.2)) ((Ψ 10 ef).bind λiS=>(Z0 iS).bind λkJ=>(u0 (ak v4 1) kJ).bind λgS=>(u0 (ak v4 2) (η 1)).bind λmZ=>δ (wh,[(ak v4 0),gS,mZ],Ix.2))))))))) (δ (eN 0,[(ak v4 0),(ak v4 1),(ak v4 2)],s5))) [(η 0),(η 0),(η 0)] σ).bind λrJ=>bif rJ.1==eN 0 then((XW (ak rJ.2.1 1) (η 10000)).bind λje=>(nh [je,(η 2)] rJ.2.2).bind λWw=>Ξ σ Ww.1 Ww.2)else bif rJ.1==i7 then(Ξ σ (ak rJ.2.1 0) rJ.2.2)else μ)
def Ld:au->Heap->aC:=ir θ [(.e 11 BN)] .k (YF Lj)
def JJ (a0 a1 a2:U) (σ:Heap):aC:=(j0 2 a0).bind λc1=>(ZY 0 2 c1).bind λx2=>(Fo [x2,a1] σ).bind λr3=>(Ld [a2] r3.2).bind λr4=>((((Yh r3.1).bind λv=>δ [v]).bind λc5=>(w8 0 c5 [(η 0),(η 0)]).bind λc6=>((Yh r4.1).bind λv=>δ [v]).bind λc7=>(w8 1 c7 c6).bind λc8=>δ c8).bind λcs=>δ (U.sl 1 (lI 1 2 cs))).bind λx9=>(tK [x9] r4.2).bind λcz=>(XQ .i cz.1 (η 0)).bind λaX=>φ aX (Ξ σ cz.1 cz.2) ((ZY 0 2 c1).bind λbI=>(FF [bI] cz.2).bind λoc=>(p4 0 oc.1).bind λbV=>(p4 1 oc.1).bind λbS=>(Z0 bV).bind λbW=>(WY (λfP mU=>(Y3 (ak fP 0) bW).bind λcJ=>φ cJ ((XI 2 bV (ak fP 0)).bind λcK=>((l6 cK mU).bind λsQ=>ZY 0 2 sQ).bind λdU=>(j0 2 dU).bind λgd=>(w8 0 gd [(η 0),gb]).bind λiE=>(ZY 0 2 iE).bind λeY=>(A.jy (.s [0,2]) (XH oc.2.length) eY bC mU).bind λh27=>(u0 (ak fP 0) (η 1)).bind λdL=>δ (wh,[dL],h27)) (δ (eN 0,[(ak fP 0)],mU))) [(η 0)] (oc.2++[Z7 []])).bind λtC=>bif tC.1==eN 0 then((Z0 a2).bind λdh=>(WY (λv31 OV=>(Y3 (ak v31 1) dh).bind λgm=>φ gm ((XI 11 a2 (ak v31 1)).bind λeR=>((l6 eR OV).bind λqw=>ZY 0 11 qw).bind λeu=>(j0 11 eu).bind λc38=>(w8 0 c38 [(η 0),gb,(η 0),(η 0),(η 0),(η 0),(η 0),Yn,bw,(η 0),Yn]).bind λD3=>(Ψ 10 D3).bind λfJ=>(Z0 fJ).bind λgq=>(WY (λyq EM=>(Y3 (ak yq 1) gq).bind λfZ=>φ fZ ((XI 8 fJ (ak yq 1)).bind λow=>((l6 ow EM).bind λsV=>ZY 0 8 sV).bind λlz=>(j0 8 lz).bind λD5=>(w8 0 D5 [(η 0),gb,(η 0),(η 0),bw,bw,(η 0),(η 0)]).bind λD6=>(ZY 0 2 D6).bind λgR=>(Yg (.s [0,2]) (XH oc.2.length) gR bw EM).bind λgK=>(HH gK).bind λlA=>φ lA (δ (i7,[(η 8),(ak yq 1)],EM)) ((ZY 0 2 D6).bind λjX=>(ZY 2 2 D6).bind λkI=>(Kk [a1,jX,kI] EM).bind λIw=>(p4 0 Iw.1).bind λkT=>(p4 1 Iw.1).bind λkU=>(XQ .i kU (η 0)).bind λkV=>φ kV (δ (i7,[kU,(ak yq 1)],Iw.2)) ((u0 (ak yq 1) (η 1)).bind λjG=>δ (wh,[(ak yq 0),jG],Iw.2)))) (δ (eN 4,[(ak yq 0),(ak yq 1)],EM))) [(ak v31 0),(η 0)] OV).bind λpS=>bif pS.1==eN 4 then((u0 (ak v31 1) (η 1)).bind λkJ=>δ (wh,[(ak pS.2.1 0),kJ],pS.2.2))else bif pS.1==i7 then(δ (i7,[(ak pS.2.1 0),(ak v31 1)],pS.2.2))else μ) (δ (eN 2,[(ak v31 0),(ak v31 1)],OV))) [(η 0),(η 0)] tC.2.2).bind λwL=>bif wL.1==eN 2 then(Ξ σ (η 0) wL.2.2)else bif wL.1==i7 then(Ξ σ (ak wL.2.1 0) wL.2.2)else μ)else μ)
def JH:au->Heap->aC:=ir θ [(.a [(.e 3 [.k,.k,(.e 7 [.k,.k,.k,.k,.k,.k,(.s 3)])]),(.s 4)]),(.e 3 [.k,.k,(.s 3)]),(.e 11 BN)] .k (A.oS JJ)
def JD (a0:U) (σ:Heap):aC:=(A.quo a0 (η 1000)).bind λx1=>(pX [x1] σ).bind λr2=>(A.rem a0 (η 1000)).bind λx3=>(XW x3 (η 0)).bind λx4=>(φ x4 ((A.rem a0 (η 1000)).bind λx6=>(u0 (η 1000) x6).bind λx7=>(pX [x7] r2.2).bind λr8=>(A.mE r8.1 (δ (η 1)) μ).bind λx9=>(Au [x9,(Γ ⟨#[48]⟩)] r8.2).bind λcz=>(u0 (Γ ⟨#[46]⟩) cz.1).bind λaX=>(u0 r2.1 aX).bind λbI=>δ ([bI],cz.2)) (δ ([r2.1],r2.2))).bind λr5=>Ξ σ (ak r5.1 0) r5.2
def Jx:au->Heap->aC:=ir θ [] .k (YF JD)
def JB (a0:U) (σ:Heap):aC:=(yF [a0,(Γ ⟨#[46]⟩)] σ).bind λr1=>(p4 0 r1.1).bind λx2=>(p4 1 r1.1).bind λx3=>(p4 2 r1.1).bind λx4=>(AB [x2,(η 7)] r1.2).bind λr5=>(p4 0 r5.1).bind λx6=>(p4 1 r5.1).bind λx7=>(HH x7).bind λx8=>(ι x8 ξ (δ x4) aq).bind λx9=>(ι x8 ξ (δ x9) aq).bind λaQ=>(ι aQ θ (δ x3) aq).bind λaX=>(ι aQ θ (p6 (yG [aX] r5.2) r5.2) aq).bind λbI=>(ι aQ θ (HH bI) aq).bind λbJ=>(ι aQ θ (δ bJ) aq).bind λbV=>(ι bV ξ (δ x3) aq).bind λbS=>(ι bV ξ (A.hU bS) aq).bind λbW=>(ι bV ξ (XW bW (η 3)) aq).bind λcH=>(ι aQ θ (i6 bV bC cH) aq).bind λcm=>(ι aQ θ (δ cm) aq).bind λcI=>(ι cI ξ (δ x3) aq).bind λcJ=>(ι cI ξ (δ x3) aq).bind λcK=>(ι cI ξ (A.hU cK) aq).bind λcQ=>(ι cI ξ (Yj cQ (η 1)) aq).bind λdU=>(ι cI ξ (A.jk cJ dU) aq).bind λcC=>(ι cI ξ (p5 .i cC (Zx .u8 48)) aq).bind λeX=>(ι aQ θ (i6 cI bC eX) aq).bind λeY=>(ι x8 ξ (i6 aQ eY bw) aq).bind λdV=>(i6 x8 bC dV).bind λdL=>φ dL (Ξ σ (p7 [(η 0),bw]) r5.2) ((WY (λAe OT=>(Y3 (ak Ae 1) (η 3)).bind λgj=>φ gj ((akW (ak Ae 0) (η 10)).bind λgQ=>(A.hU x3).bind λgm=>(Y3 (ak Ae 1) gm).bind λeR=>(φ eR ((A.jk x3 (ak Ae 1)).bind λeu=>(Yj eu (Zx .u8 48)).bind λfq=>(A.conv ε fq).bind λfY=>(u0 gQ fY).bind λfJ=>δ ([fJ],OT)) (δ ([gQ],OT))).bind λmT=>(u0 (ak Ae 1) (η 1)).bind λgq=>δ (wh,[(ak mT.1 0),gq],mT.2)) (δ (eN 0,[(ak Ae 0),(ak Ae 1)],OT))) [x6,(η 0)] r5.2).bind λzZ=>bif zZ.1==eN 0 then(Ξ σ (p7 [(ak zZ.2.1 0),bC]) zZ.2.2)else μ)
def Jv:au->Heap->aC:=ir θ [] .k (YF JB)
def JA (a0:U) (σ:Heap):aC:=(Jx [a0] σ).bind λr1=>Ξ σ r1.1 r1.2
def Ju:au->Heap->aC:=ir θ [] .k (YF JA)
end
abbrev SmK:={k:bP // 0<=k.unit/\k.unit<=1000000}
instance : Inhabited SmK := ⟨⟨⟨0, ⟨#[]⟩⟩, by decide⟩⟩
section
def JM (a0 a1:U) (σ:Heap):aC:=(j0 2 a0).bind λc1=>(Ψ 0 c1).bind λx2=>((l6 a1 σ).bind λc3=>Ψ 0 c3).bind λx4=>(p5 .i x2 x4).bind λx5=>Ξ σ x5 σ
def Cj:au->Heap->aC:=ir θ [(.a [.k,(.s 11)])] .k (Yi JM)
def F1 (a0 a1:U) (σ:Heap):aC:=(j0 5 a0).bind λc1=>(((Yh a1).bind λv=>δ [v]).bind λcs=>δ (YH cs)).bind λx2=>(Ψ 3 c1).bind λx3=>(Fj (Y1 (λ_ _=>μ) [(127,Cj)]) [x3,(U.fn 127 [x2])] σ).bind λr4=>(Y3 r4.1 (η 0)).bind λx5=>φ x5 ((j0 2 (n9 [(η 0),Yn])).bind λc6=>(w8 0 c6 [(η 0),Yn]).bind λc7=>(ZY 0 2 c7).bind λx8=>Ξ σ (p7 [x8,bw]) r4.2) ((Ψ 3 c1).bind λx9=>(XI 2 x9 r4.1).bind λaQ=>((l6 aQ r4.2).bind λiY=>ZY 0 2 iY).bind λbI=>(j0 2 bI).bind λqu=>(w8 0 qu [(η 0),Yn]).bind λoU=>(ZY 0 2 oU).bind λbS=>Ξ σ (p7 [bS,bC]) r4.2)
def KO:au->Heap->aC:=ir θ [ru] (.t [(.a [.k,(.e 11 BN)]),.k]) (Yi F1)
def Jt (a0:U) (σ:Heap):aC:=(j0 5 a0).bind λc1=>(ZY 0 2 c1).bind λx2=>(Ψ 2 c1).bind λx3=>(p6 (Fo [x2,x3] σ) σ).bind λx4=>(Ψ 3 c1).bind λx5=>(Z0 x5).bind λx6=>(XW x6 (η 30)).bind λx7=>(p6 (nh [x7,(η 2)] σ) σ).bind λx8=>((((Yh x4).bind λv=>δ [v]).bind λc9=>(w8 0 c9 [(η 0),(η 0)]).bind λfC=>((Yh x8).bind λv=>δ [v]).bind λiY=>(w8 1 iY fC).bind λef=>δ ef).bind λcs=>δ (U.sl 1 (lI 1 2 cs))).bind λbJ=>(p6 (tK [bJ] σ) σ).bind λbV=>(XQ .i bV (η 0)).bind λbS=>φ bS (Ξ σ bV σ) ((Ψ 3 c1).bind λbW=>(Z0 bW).bind λcH=>(WY (λfk pU=>(Y3 (ak fk 2) cH).bind λcK=>φ cK ((XI 2 bW (ak fk 2)).bind λcQ=>((l6 cQ pU).bind λjm=>ZY 0 2 jm).bind λcC=>(j0 2 cC).bind λiE=>(w8 0 iE [(η 0),Yn]).bind λkD=>(Ψ 0 kD).bind λdV=>(fQ [dV,(η 1),(η 999)] pU).bind λiZ=>(HH iZ.1).bind λdz=>φ dz (δ (i7,[(ak fk 0),(η 1),(ak fk 2)],iZ.2)) ((XW (ak fk 2) (η 0)).bind λdh=>(ι dh θ (Ψ 0 kD) aq).bind λfX=>((W9 (ak fk 0)).bind λ_=>δ (3)).bind λp32=>(ι dh θ ((W9 (ak fk 0)).bind λc33=>Ψ p32 c33) aq).bind λgm=>(ι dh θ (δ (ak fk 2)) aq).bind λeR=>(ι dh θ (Yj eR (η 1)) aq).bind λgp=>(ι dh θ (XI 2 gm gp) aq).bind λeu=>(ι dh θ (A.gY 0 eu) aq).bind λfq=>(ι dh θ ((l6 fq iZ.2).bind λD3=>Ψ 0 D3) aq).bind λfJ=>(ι dh θ (A.leq fX fJ) aq).bind λgq=>(i6 dh gq bw).bind λiG=>φ iG (δ (i7,[(ak fk 0),(η 7),(ak fk 2)],iZ.2)) (((W9 (ak fk 0)).bind λ_=>δ (0)).bind λp43=>((W9 (ak fk 0)).bind λD4=>ZY p43 2 D4).bind λfZ=>((W9 (ak fk 0)).bind λ_=>δ (2)).bind λOL=>((W9 (ak fk 0)).bind λsV=>Ψ OL sV).bind λlz=>(Ψ 1 kD).bind λjE=>(JH [fZ,lz,jE] iZ.2).bind λwK=>(XQ .i wK.1 (η 0)).bind λgR=>φ gR (δ (i7,[(ak fk 0),wK.1,(ak fk 2)],wK.2)) ((u0 (ak fk 2) (η 1)).bind λgK=>δ (wh,[(ak fk 0),(ak fk 1),gK],wK.2))))) (δ (eN 0,[(ak fk 0),(ak fk 1),(ak fk 2)],pU))) [(XK c1),(η 0),(η 0)] σ).bind λlY=>bif lY.1==eN 0 then(((W9 (ak lY.2.1 0)).bind λ_=>δ (4)).bind λp54=>((W9 (ak lY.2.1 0)).bind λN5=>Ψ p54 N5).bind λjF=>(Z0 jF).bind λkT=>(XW kT (η 40)).bind λkU=>φ kU (Ξ σ (η 2) lY.2.2) (((W9 (ak lY.2.1 0)).bind λ_=>δ (4)).bind λp59=>((W9 (ak lY.2.1 0)).bind λN7=>Ψ p59 N7).bind λiS=>(Z0 iS).bind λkJ=>(WY (λkG OW=>(Y3 (ak kG 2) kJ).bind λje=>φ je ((XI 3 iS (ak kG 2)).bind λqL=>((l6 qL OW).bind λEa=>ZY 0 3 Ea).bind λAk=>(j0 3 Ak).bind λzM=>(w8 0 zM [(η 0),(η 0),(η 0)]).bind λpO=>(Ψ 0 pO).bind λtF=>(fQ [tF,(η 1),(η 40)] OW).bind λEH=>(HH EH.1).bind λAl=>φ Al (δ (i7,[(ak kG 0),(η 1),(ak kG 2)],EH.2)) ((XW (ak kG 2) (η 0)).bind λkK=>(ι kK θ (Ψ 0 pO) aq).bind λrS=>((W9 (ak kG 0)).bind λ_=>δ (4)).bind λp77=>(ι kK θ ((W9 (ak kG 0)).bind λzN=>Ψ p77 zN) aq).bind λAm=>(ι kK θ (δ (ak kG 2)) aq).bind λE1=>(ι kK θ (Yj E1 (η 1)) aq).bind λpW=>(ι kK θ (XI 3 Am pW) aq).bind λE3=>(ι kK θ (A.gY 0 E3) aq).bind λE4=>(ι kK θ ((l6 E4 EH.2).bind λOd=>Ψ 0 Od) aq).bind λx85=>(ι kK θ (A.leq rS x85) aq).bind λAn=>(i6 kK An bw).bind λE5=>φ E5 (δ (i7,[(ak kG 0),(η 7),(ak kG 2)],EH.2)) (((W9 (ak kG 0)).bind λOe=>ZY 0 5 Oe).bind λB8=>(Ψ 1 pO).bind λO5=>(KO [B8,O5] EH.2).bind λIA=>(p4 0 IA.1).bind λO6=>(p4 1 IA.1).bind λx93=>(j0 2 O6).bind λc94=>(w8 0 c94 [(η 0),Yn]).bind λc95=>(HH x93).bind λO8=>φ O8 (δ (i7,[(ak kG 0),(η 8),(ak kG 2)],IA.2)) ((Ψ 2 pO).bind λO9=>(fQ [O9,(η 0),(η 100)] IA.2).bind λOQ=>(HH OQ.1).bind λPb=>φ Pb (δ (i7,[(ak kG 0),(η 1),(ak kG 2)],OQ.2)) ((u0 (ak kG 2) (η 1)).bind λNW=>δ (wh,[(ak kG 0),(ak kG 1),NW],OQ.2)))))) (δ (eN 2,[(ak kG 0),(ak kG 1),(ak kG 2)],OW))) [(ak lY.2.1 0),(ak lY.2.1 1),(η 0)] lY.2.2).bind λDV=>bif DV.1==eN 2 then(Ξ σ (η 0) DV.2.2)else bif DV.1==i7 then(Ξ σ (ak DV.2.1 1) DV.2.2)else μ))else bif lY.1==i7 then(Ξ σ (ak lY.2.1 1) lY.2.2)else μ)
def Ci:au->Heap->aC:=ir θ [ru] .k (YF Jt)
def Jn (a0:U) (σ:Heap):aC:=(j0 5 a0).bind λc1=>(Ψ 1 c1).bind λx2=>(fQ [x2,(η 1),(η 9)] σ).bind λr3=>(HH r3.1).bind λx4=>φ x4 (Ξ σ (η 4) r3.2) ((Ψ 1 c1).bind λx5=>(p5 .i x5 (η 8)).bind λx6=>(ι x6 ξ (Ψ 1 c1) aq).bind λx7=>(ι x6 ξ (p5 .i x7 (η 9)) aq).bind λx8=>(i6 x6 bC x8).bind λx9=>(ι x9 ξ (Ψ 1 c1) aq).bind λaQ=>(ι x9 ξ (p5 .i aQ (η 6)) aq).bind λaX=>(i6 x9 bC aX).bind λbI=>(ι bI ξ (Ψ 1 c1) aq).bind λbJ=>(ι bI ξ (p5 .i bJ (η 7)) aq).bind λbV=>(i6 bI bC bV).bind λbS=>(ι x9 θ (Ψ 2 c1) aq).bind λbW=>(ι x9 θ (XQ .i bW (η 0)) aq).bind λcH=>(i6 x9 cH bw).bind λcm=>(ι cm ξ (Ψ 1 c1) aq).bind λcI=>(ι cm ξ (XQ .i cI (η 3)) aq).bind λcJ=>(ι cm ξ (δ cJ) aq).bind λcK=>(ι cK θ (Ψ 3 c1) aq).bind λcQ=>(ι cK θ (XQ .i cQ (η 0)) aq).bind λdU=>(ι cm ξ (i6 cK dU bw) aq).bind λcC=>(i6 cm bC cC).bind λeX=>(ι eX ξ (δ bS) aq).bind λeY=>(ι eX ξ (HH eY) aq).bind λdV=>(ι eX ξ (δ dV) aq).bind λdL=>(ι dL θ (Ψ 4 c1) aq).bind λdz=>(ι dL θ (XQ .i dz (η 0)) aq).bind λdh=>(ι eX ξ (i6 dL dh bw) aq).bind λfX=>(i6 eX bC fX).bind λgj=>φ gj (Ξ σ (η 3) r3.2) (Ξ σ (η 0) r3.2))
def Ft:au->Heap->aC:=ir θ [] .k (YF Jn)
def I3 (a0 a1:U) (σ:Heap):aC:=(j0 3 a0).bind λc1=>(Ψ 0 c1).bind λx2=>(A.gY 2 a1).bind λx3=>((l6 x3 σ).bind λc4=>Ψ 0 c4).bind λx5=>(p5 .i x2 x5).bind λx6=>Ξ σ x6 σ
def Cd:au->Heap->aC:=ir θ [] .k (Yi I3)
def Fy (a0 a1:U) (σ:Heap):aC:=(j0 5 a0).bind λc1=>((j0 5 a1).bind λcs=>δ (YH cs)).bind λx2=>(A.gY 1 x2).bind λx3=>((l6 x3 σ).bind λc4=>Ψ 0 c4).bind λx5=>(p5 .i x5 (η 8)).bind λx6=>(ι x6 ξ (A.gY 1 x2) aq).bind λx7=>(ι x6 ξ ((l6 x7 σ).bind λc8=>Ψ 0 c8) aq).bind λx9=>(ι x6 ξ (p5 .i x9 (η 9)) aq).bind λaQ=>(i6 x6 bC aQ).bind λaX=>(HH aX).bind λbI=>(ι bI θ (Ψ 4 c1) aq).bind λbJ=>(ι bI θ (δ (U.fn 152 [x2])) aq).bind λbV=>(ι bI θ (p6 (E9 (Y1 (λ_ _=>μ) [(152,Cd)]) [bJ,bV] σ) σ) aq).bind λbS=>(ι bI θ (HH bS) aq).bind λbW=>(i6 bI bW bw).bind λcH=>φ cH (Ξ σ (η 8) σ) ((A.gY 1 x2).bind λcm=>((l6 cm σ).bind λoV=>Ψ 0 oV).bind λcJ=>(p5 .i cJ (η 6)).bind λcK=>(φ cK (δ ([(η 36000000)],σ)) ((p5 .i cJ (η 9)).bind λdU=>(φ dU (δ ([(η 1)],σ)) (δ ([(η 65535)],σ))).bind λEF=>δ ([(ak EF.1 0)],EF.2))).bind λqB=>(A.gY 4 x2).bind λeX=>((l6 eX qB.2).bind λkD=>Ψ 0 kD).bind λdV=>(fQ [dV,(η 0),(ak qB.1 0)] qB.2).bind λiZ=>(HH iZ.1).bind λdz=>(nh [dz,(η 1)] iZ.2).bind λrF=>Ξ σ rF.1 rF.2)
def Fu:au->Heap->aC:=ir θ [ru] .k (Yi Fy)
end
end
end Go.Proofs.YtpcafbmnjchmcaaGreatDoor
