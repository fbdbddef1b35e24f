/- Parts of the proof of PickUnitsAreUnits, in order. -/
import Derived.Lib.Bytealg
import Derived.Sort.Defs
import Derived.Lib.BitFns
import Derived.Lib.Strings
import Derived.Test.YtkdafecbdncmiaaDoorKPickUnitsAreUnits1
namespace Go.Proofs.YtkdafecbdncmiaaDoor
set_option linter.unusedVariables false
set_option linter.unusedSimpArgs false
set_option linter.unusedSectionVars false
set_option maxRecDepth 1000000
noncomputable section
open A renaming tab->U8,look->Z8,deref->ψ,sub->Yd,loop->s9,cL->Z9,storeAt->u7,ay->Θ,add->o7,guard->μ,neq->XP,bp->Ze,not->Wc,quiet->Wd,lss->p9,cell->l5,cQ->WN,gtr->W7,pick->l6,lb->l9,aX->EY,bk->WJ,eql->z7,ext->WG,cond->χ,append->wh,aU->y9,fin->e9,br->Ya,iter->XX,cells->i7,cU->XT
open Nat renaming zero_add->Gs,not_lt_zero->amn,sub_self->ama,blt->alM
open Option renaming some->δ,isNone_none->alU,none->η,getD_some->Y6,getD_none->Xn
open _root_.Array renaming replicate->YV,getElem?_setIfInBounds_ne->XS,getD->amh,all_eq_true_iff_forall_mem->amp,toList_append->amz,getElem?_toList->YT
open List renaming range'->al0,length_map->p7,filterMap_cons->amb,map_congr_left->Wk,length_cons->b9,filter_cons->Wy,getElem?_take->X4,length_nil->Zk,all_cons->amm,filter_eq_self->al7,any_eq_true->alW,getElem?_cons_zero->Xw,getElem?_set_ne->u9,range->ami,filter_append->ZE,mem_filterMap->Xo,length->Xg,mem_map_of_mem->al6,mem_replicate->Yq,range_eq_range'->ZT,set_comm->YL,length_append->Λ,mem_cons_self->u0,contains_iff_mem->al1,mem_filter->Y2,getD->Yn,foldl_cons->Zc,range'_succ->amB,mem_iff_getElem->Wg,getElem?_take_of_lt->Wo,replicate->e8,nil_append->Xk
open Option.some renaming injEq->ξ
open Bool renaming false->θ,true->ι,false_eq_true->X6,not_eq_false'->alR,and_false->Zg,not_true->Wq
open Go.Sem renaming run->Yt,run_pure->M6,run_bind->b7
open Go.Region renaming binds->Wz,wanted->ZK,ready->Zp
open aM renaming map->j0,box->WE
open AV renaming lbx->Z4,agg->l8,sl->WV,aH->Ju,om->Wu,op->YI,aN->YM,np->amo,int->amf,rp->Zh,ah->ε
open AS renaming put->alQ
open AX renaming exit->Γ,normal->ir,ret->l7
open Go.MapKept renaming heap_alloc->Zs
open Prod.mk renaming injEq->Δ
open Go.Result renaming andThen_ok->Ψ
open ak renaming mono->X5
open bh renaming nth->amr
open aJ renaming mono->WR
open Go.Lib renaming compareBytes->Xr
open Go.Op renaming operands->b8
open Go.Call renaming operands->amX
open IntKind renaming i64->Ξ
open Classical renaming choose_spec->Yl
section
open Go.RowKit
section
variable {X : Fx} {z : Z} {s : AS} {a : Act} {w w' : World} {E : List Pl} {pb : Nat -> Option Nat} {R : Type}
theorem mE{o:Oper}{v:Value}{w':World}{K:Act->World->Prop}{Q:Exit->Act->World->Prop}(h:(execOp a.eval o).run X.P w=.ok (.value v) w')(k:K (a.put o.dst v) w'):o.wp X.P a w K Q:=by unfold Oper.wp;rw[h,Oper.upon_value];exact k
theorem JY{o:Oper}{w':World}{K:Act->World->Prop}{Q:Exit->Act->World->Prop}(h:(execOp a.eval o).run X.P w=.ok .skip w')(k:K (a.put o.dst undef) w'):o.wp X.P a w K Q:=by unfold Oper.wp;rw[h,Oper.upon_skip];exact k
theorem St.undef(h:St X z s a w E pb)(d:Option Nat):St X z (s.put X d (.aN [])) (a.put d undef) w E pb:=
 h.put d (by simp only[ak];exact⟨#[],rfl,by simp [aJ]⟩)
theorem uk(hs:ct X)(h:St X z s a w E pb){o:Oper}{k:AS->Option R}{r:R}(hk:((dN X o s η).bind λv=>k (s.put X o.dst v))=δ r) {K:Act->World->Prop} {Q:Exit->Act->World->Prop}
  (hK:∀s' a' w' E' bC,St X z s' a' w' E' bC->k s'=δ r->K a' w'):o.wp X.P a w K Q:=by
 obtain⟨av,h1,h2⟩:=bl.1 hk;exact SS hs h (tag:=η) trivial h1 λv w' E' h3 h4=>hK _ _ _ _ _ (h3.put o.dst h4) h2
theorem acg(h:St X z s a w E pb){q str:Bool}{i:Operand}{dst:Option Nat}{ty:TypeId}{pos:String}{af:Array Edge}{g:Option (Nat×Bool)}{k:AS->Option R}{r:R}
  (hk:(bif q||str then η else A.wm (ev X s i) s.σ λv σ=>k ((s.heap σ).put X dst v))=δ r) {K:Act->World->Prop} {Q:Exit->Act->World->Prop}
  (hK:∀s' a' w' E' bC,St X z s' a' w' E' bC->k s'=δ r->K a' w'):Oper.wp X.P ⟨dst,.next i str,ty,pos,af,g⟩ a w K Q:=by
 cases hq:(q||str)
 ·rw[hq]at hk;simp only[aS]at hk;simp only[jZ]at hq;obtain⟨rfl,rfl⟩:=hq;obtain⟨av,σ',v',w',k1,k2,k3,k4⟩:=ach (ty:=ty) h hk (cH h i);exact mE (w':=w') (by simp [execOp,k2]) (hK _ _ _ _ _ (k3.put dst k4) k1)
 ·rw[hq]at hk;cases hk
theorem akl(hs:ct X)(h:St X z s a w E pb){d t n:Nat}{ps:Array (Nat×Operand)}{ty:TypeId}{pos:String}{af:Array Edge}{g:Option (Nat×Bool)}{k:AS->Option R}{r:R}
  (hk:((dN X ⟨δ d,.buildSlice t n ps,ty,pos,af,g⟩ s η).bind λv=>A.wJ v λsz es=>k ((s.heap (s.σ++[.arr es.length sz es])).put X (δ d) (.os s.σ.length es.length sz 0 es.length)))=δ r) {K:Act->World->Prop} {Q:Exit->Act->World->Prop}
  (hK:∀s' a' w' E' bC,St X z s' a' w' E' bC->k s'=δ r->K a' w'):Oper.wp X.P ⟨δ d,.buildSlice t n ps,ty,pos,af,g⟩ a w K Q:=by
 obtain⟨v,h1,h2⟩:=bl.1 hk;unfold A.wJ at h2;split at h2
 ·rename_i sz es;cases hl:(es.length==0)
  ·rw[hl]at h2;simp only[aS]at h2;have hne:0<es.length:=by simp at hl;exact List.length_pos_iff.2 hl
   obtain⟨arr,et,e1,e2,e3,e4,e5⟩:=ajZ h h1;have hlen:=h.heap.len;simp only[ctx]at hlen;refine mE e1 (hK _ _ _ _ _ ((h.ux (.cells arr et) (.arr es.length sz es) ⟨w.heap.size,0,es.length,sz,arr.size⟩ rfl λhx=>?_).put (δ d) (av:=.os s.σ.length es.length sz 0 es.length) ?_) h2)
   ·have hb:=(Zs w (.cells arr et)).1;exact⟨rfl,hne,rfl,e3,⟨arr,et,hb,rfl⟩,by rw[e2];simp,e4 _ hb hx,vU hb e5⟩
   ·simp only[ak];refine⟨hne,⟨w.heap.size,0,es.length,sz,arr.size⟩,by show(E++[_])[s.σ.length]? =_;rw[<-hlen];exact wv,bJ _,⟨w.heap.size,0,η⟩,es.length,rfl,bJ _,λ_=>⟨rfl,.inr (by simp),by rw[e2];simp⟩⟩
  ·rw[hl]at h2;cases h2
 ·cases h2
theorem SO(hs:ct X)(h:St X z s a w E pb){q:Bool}{o:Oper}{k:AS->Option R}{r:R}(hk:ey X q o s k=δ r){K:Act->World->Prop}{Q:Exit->Act->World->Prop}
  (hK:∀s' a' w' E' bC,St X z s' a' w' E' bC->k s'=δ r->K a' w'):o.wp X.P a w K Q:=by
 unfold ey at hk;cases hp:gB X o s η with
 |some p=>obtain⟨b,rr⟩:=p;rw[hp]at hk;simp only at hk;obtain⟨off,h1,h2⟩:=bl.1 hk;subst h1;obtain⟨n,k1,k2⟩:=SR h (tag:=η) trivial hp;exact mE k2 (hK _ _ _ _ _ (h.Lm o.dst (λ_=>⟨n,k1,rfl⟩)) h2)
 |none=>
  rw[hp]at hk;simp only at hk;obtain⟨dst,op,ty,pos,af,g⟩:=o;cases op<;>simp only at hk<;>first|exact acg h hk hK|exact uk hs h hk hK|skip
  case alloc t=>
   cases dst with
   |none=>cases hk
   |some d=>
    simp only at hk;cases hL:X.L.contains d
    ·rw[hL]at hk;simp only[aS]at hk;cases hO:X.O.contains d
     ·rw[hO]at hk;exact uk hs h hk hK
     ·rw[hO]at hk;simp only[bg]at hk;split at hk
      ·rename_i cs hz;obtain⟨i,v,h1,h2,h3,h4,h5,h6⟩:=sS (w:=w) hz (ctx z w E pb)
       have hrun:(execOp a.eval ⟨δ d,.alloc t,ty,pos,af,g⟩).run X.P w=.ok (.value (.pointer (δ ⟨w.heap.size,0,η⟩))) (w.alloc (.cells v.cells t)):=by simp [execOp,Instr.alloc,h3,newVar,sQ]
       have hst:=h.ux (.cells v.cells t) (.box cs) ⟨w.heap.size,0,0,0,0⟩ rfl (λhx=>by
        have hb:(w.alloc (.cells v.cells t)).heap[w.heap.size]? =δ (.cells v.cells t (0,0)):=(Zs w _).1
        exact⟨rfl,⟨_,_,hb,by have:=h5.length;simpa using this.symm⟩,aY.tV hb (WR hx _ _ h5) h6 (λi hi=>by simp)⟩)
       have hlen:=h.heap.len;simp only[ctx]at hlen;refine mE hrun (hK _ _ _ _ _ (hst.put (δ d) (av:=.op s.σ.length 0) ?_) hk);simp only[ak];exact⟨⟨w.heap.size,0,0,0,0⟩,by show(E++[_])[s.σ.length]? =_;rw[<-hlen];exact wv,rfl,rfl⟩
      ·cases hk
    ·rw[hL]at hk;simp only[bg]at hk;split at hk
     ·rename_i cs hz;obtain⟨i,v,h1,h2,h3,h4,h5,h6⟩:=sS (w:=w) hz (ctx z w E pb)
      have hrun:(execOp a.eval ⟨δ d,.alloc t,ty,pos,af,g⟩).run X.P w=.ok (.value (.pointer (δ ⟨w.heap.size,0,η⟩))) (w.alloc (.cells v.cells t)):=by simp [execOp,Instr.alloc,h3,newVar,sQ]
      obtain⟨bC,hst⟩:=h.kQ d hL (vs:=v.cells.toList) t h5 h6;exact mE hrun (hK _ _ _ _ _ (by simpa using hst) hk)
     ·cases hk
  case box t x=>
   cases dst with
   |none=>cases hk
   |some d=>
    simp only at hk;cases hL:X.L.contains d
    ·rw[hL]at hk;simp only[aS]at hk;cases hO:X.O.contains d
     ·rw[hO]at hk;exact uk hs h hk hK
     ·rw[hO]at hk;simp only[bg]at hk;obtain⟨cs,h1,h2⟩:=bl.1 hk;obtain⟨h5,h6,_,_⟩:=zW X h1 (cH h x)
      have hrun:(execOp a.eval ⟨δ d,.box t x,ty,pos,af,g⟩).run X.P w=.ok (.value (.pointer (δ ⟨w.heap.size,0,η⟩))) (w.alloc (.cells (a.eval x).cells t)):=by simp [execOp,Instr.box,newVar,sQ]
      have hst:=h.ux (.cells (a.eval x).cells t) (.box cs) ⟨w.heap.size,0,0,0,0⟩ rfl (λhx=>by
       have hb:(w.alloc (.cells (a.eval x).cells t)).heap[w.heap.size]? =δ (.cells (a.eval x).cells t (0,0)):=(Zs w _).1
       exact⟨rfl,⟨_,_,hb,by have:=h5.length;simpa using this.symm⟩,aY.tV hb (WR hx _ _ h5) h6 (λi hi=>by simp)⟩)
      have hlen:=h.heap.len;simp only[ctx]at hlen;refine mE hrun (hK _ _ _ _ _ (hst.put (δ d) (av:=.op s.σ.length 0) ?_) h2);simp only[ak];exact⟨⟨w.heap.size,0,0,0,0⟩,by show(E++[_])[s.σ.length]? =_;rw[<-hlen];exact wv,rfl,rfl⟩
    ·rw[hL]at hk;simp only[bg]at hk;obtain⟨cs,h1,h2⟩:=bl.1 hk;obtain⟨h5,h6,_,_⟩:=zW X h1 (cH h x)
     have hrun:(execOp a.eval ⟨δ d,.box t x,ty,pos,af,g⟩).run X.P w=.ok (.value (.pointer (δ ⟨w.heap.size,0,η⟩))) (w.alloc (.cells (a.eval x).cells t)):=by simp [execOp,Instr.box,newVar,sQ]
     obtain⟨bC,hst⟩:=h.kQ d hL (vs:=(a.eval x).cells.toList) t h5 h6;exact mE hrun (hK _ _ _ _ _ (by simpa using hst) h2)
  case store t x v=>
   split at hk
   ·rename_i b off hp;obtain⟨cs,h1,h2⟩:=bl.1 hk;obtain⟨new,h3,h4⟩:=bl.1 h2;obtain⟨cs',h5,h6⟩:=bl.1 h4;obtain⟨n,k1,k2,k3,k4⟩:=Af h (tag:=η) trivial hp h1;obtain⟨r1,r2,r3,d,hd⟩:=zW X h3 (cH h v);obtain⟨arr,bt,j1,j2,j3⟩:=Qx k3;obtain⟨j4,j5⟩:=j2.dV h5 r1;have hrun:=I4 (P:=X.P) (t:=t) j1 r3 (Ox hd) r2 j5;have hst:=h.adB k1 ⟨cs,k4⟩ (t:=bt) j4 (Aw j3 r2);refine JY (w':=_) ?_ (hK _ _ _ _ _ (hst.undef dst) h6);simp only[execOp,k2,b7];rw[show(Instr.storeAt t (.pointer (δ ⟨n,off,η⟩)) (a.eval v)).run X.P w=_ from hrun];rfl
   ·obtain⟨new,h3,h4⟩:=bl.1 hk;obtain⟨σ',h5,h6⟩:=bl.1 h4;obtain⟨w',k1,k2⟩:=aja h h3 (cH h v) h5 (cH h x);refine JY (w':=w') ?_ (hK _ _ _ _ _ (k2.undef dst) h6);simp only[execOp,b7,k1];rfl
  case makeMap t rr=>
   cases rr with
   |some x=>cases hk
   |none=>
    simp only at hk
    have hrun:(execOp a.eval ⟨dst,.makeMap t η,ty,pos,af,g⟩).run X.P w=.ok (.value (.map (δ w.heap.size))) (w.alloc (.map #[] 0)):=by simp [execOp,Instr.makeMap,newObj,Yt]
    have hst:=h.ux (.map #[] 0) (.map []) ⟨w.heap.size,0,0,0,0⟩ rfl (λhx=>by
     have hb:(w.alloc (.map #[] 0)).heap[w.heap.size]? =δ (.map #[] 0):=(Zs w _).1
     exact⟨rfl,_,_,hb,lT.empty,rfl⟩)
    have hlen:=h.heap.len;simp only[ctx]at hlen;refine mE hrun (hK _ _ _ _ _ (hst.put dst (av:=.om s.σ.length) ?_) hk);simp only[ak];exact⟨⟨w.heap.size,0,0,0,0⟩,by show(E++[_])[s.σ.length]? =_;rw[<-hlen];exact wv,rfl,rfl⟩
  case range t x=>
   split at hk
   ·rename_i kt et hd;obtain⟨es,h1,h2⟩:=bl.1 hk;obtain⟨o,k1,k2⟩:=abf h hd h1 (cH h x);have hlen:=h.heap.len;simp only[ctx]at hlen;refine mE (v:=.pointer (δ ⟨w.heap.size,0,η⟩)) (w':=w.alloc o) (by simp [execOp,k1]) (hK _ _ _ _ _ (k2.put dst (av:=.op s.σ.length 0) ?_) h2);simp only[ak];exact⟨⟨w.heap.size,0,0,0,0⟩,by show(E++[_])[s.σ.length]? =_;rw[<-hlen];exact wv,rfl,rfl⟩
   ·cases hk
  case buildSlice t n ps=>
   cases dst with
   |none=>exact uk hs h hk hK
   |some d=>
    simp only at hk;cases hO:X.O.contains d
    ·rw[hO]at hk;exact uk hs h hk hK
    ·rw[hO]at hk;simp only[bg]at hk;exact akl hs h hk hK
  case mapUpdate t m i v=>
   split at hk
   ·rename_i kt et hd;split at hk
    ·rename_i ek he;obtain⟨σ',h1,h2⟩:=bl.1 hk;obtain⟨w',k1,k2⟩:=ace h hd he h1 (cH h m) (cH h i) (cH h v);refine JY (w':=w') ?_ (hK _ _ _ _ _ (k2.undef dst) h2);simp only[execOp,b7,k1];rfl
    ·cases hk
   ·cases hk
  case call c=>
   have hargs:(c.args.map a.eval).toList=c.args.toList.map a.eval:=by simp
   have re:=As h c.args.toList;split at hk
   ·rename_i hc;split at hk
    ·rename_i t u x y h1 h2;split at hk
     ·rename_i e e' hd hu;split at hk
      ·rename_i i hi;cases hz0:jH i
       ·rw[hz0]at hk;simp only[aS]at hk;simp only[jH,jZ,beq_eq_false_iff_ne]at hz0;obtain⟨⟨z1,z2⟩,z3⟩:=hz0;cases NA:i.zero with
        |none=>rw[NA]at z3;cases z3
        |some zv=>
         rw[NA]at z3;simp only[jZ,bne_eq_false_iff_eq,alR]at z3;obtain⟨z3,z4⟩:=z3;obtain⟨⟨rr,σ'⟩,h3,h4⟩:=bl.1 hk;rw[h2]at re
         have hl:∃v vy,c.args.toList.map a.eval=[v,vy]/\ak (ctx z w E pb) x v/\ak (ctx z w E pb) y vy:=by
          generalize c.args.toList.map a.eval=vs at *
          simp only[aJ]at re;obtain⟨v,_,rfl,r1,u',_,rfl,r2,rfl⟩:=re;exact⟨v,u',rfl,r1,r2⟩
         obtain⟨v,vy,hvs,r1,r2⟩:=hl;have hone:∀x∈zv.cells.toList,bY x=ι:=iX.1 z4;obtain⟨n,w',E',k1,k2,k3⟩:=aky (ty:=ty) h hd hu hi NA z3 z1 z2 hone h3 r1 r2;have h1':c.argTypes=#[t,u]:=by apply jJ.1;simpa using h1
         have sF:c.args.map a.eval=#[v,vy]:=by apply jJ.1;rw[hargs,hvs]
         have hrun:(execOp a.eval ⟨dst,.call c,ty,pos,af,g⟩).run X.P w=.ok (.value n) w':=by simp only[execOp,resolve,hc,b7,M6,Ψ,invoke,builtin,sF,h1',k1]
         exact mE hrun (hK _ _ _ _ _ (k2.put dst k3) h4)
       ·rw[hz0]at hk;cases hk
      ·cases hk
     ·rename_i e kk hd hu;split at hk
      ·rename_i i zs hi hz;cases hz0:jH i
       ·rw[hz0]at hk;simp only[aS]at hk;simp only[jH,jZ,beq_eq_false_iff_ne]at hz0;obtain⟨⟨z1,z2⟩,z3⟩:=hz0;obtain⟨i',zv,g1,g2,g3,g4,g5,g6⟩:=sS (w:=w) hz (ctx z w E pb);rw[hi]at g1;injection g1 with g1;subst g1
        rw[g2]at z3;simp only[jZ,bne_eq_false_iff_eq,alR]at z3;obtain⟨z3,z4⟩:=z3
        have mT:∀c,aJ c zs zv.cells.toList:=λc=>by
         obtain⟨i2,v2,f1,f2,f3,f4,f5,f6⟩:=sS (w:=w) hz c;rw[hi]at f1;injection f1 with f1;subst f1
         rw[g2]at f2;injection f2 with f2;subst f2
         exact f5
        obtain⟨⟨rr,σ'⟩,h3,h4⟩:=bl.1 hk;rw[h2]at re
        have hl:∃v vy,c.args.toList.map a.eval=[v,vy]/\ak (ctx z w E pb) x v/\ak (ctx z w E pb) y vy:=by
         generalize c.args.toList.map a.eval=vs at *
         simp only[aJ]at re;obtain⟨v,_,rfl,r1,u',_,rfl,r2,rfl⟩:=re;exact⟨v,u',rfl,r1,r2⟩
        obtain⟨v,vy,hvs,r1,r2⟩:=hl;obtain⟨n,w',E',k1,k2,k3⟩:=YZ (ty:=ty) h hd hu hi g2 z3 z1 z2 mT g6 h3 r1 r2;have h1':c.argTypes=#[t,u]:=by apply jJ.1;simpa using h1
        have sF:c.args.map a.eval=#[v,vy]:=by apply jJ.1;rw[hargs,hvs]
        have hrun:(execOp a.eval ⟨dst,.call c,ty,pos,af,g⟩).run X.P w=.ok (.value n) w':=by simp only[execOp,resolve,hc,b7,M6,Ψ,invoke,builtin,sF,h1',k1]
        exact mE hrun (hK _ _ _ _ _ (k2.put dst k3) h4)
       ·rw[hz0]at hk;cases hk
      ·cases hk
     ·cases hk
    ·cases hk
   ·rename_i hc;split at hk
    ·rename_i t u x y h1 h2;split at hk
     ·rename_i e e' hd hu;split at hk
      ·rename_i i hi;cases hz0:jH i
       ·rw[hz0]at hk;simp only[aS]at hk;simp only[jH,jZ,beq_eq_false_iff_ne]at hz0;obtain⟨⟨z1,z2⟩,z3⟩:=hz0;obtain⟨⟨rr,σ'⟩,h3,h4⟩:=bl.1 hk;rw[h2]at re
        have hl:∃v vy,c.args.toList.map a.eval=[v,vy]/\ak (ctx z w E pb) x v/\ak (ctx z w E pb) y vy:=by
         generalize c.args.toList.map a.eval=vs at *
         simp only[aJ]at re;obtain⟨v,_,rfl,r1,u',_,rfl,r2,rfl⟩:=re;exact⟨v,u',rfl,r1,r2⟩
        obtain⟨v,vy,hvs,r1,r2⟩:=hl;obtain⟨n,w',k1,k2,k3⟩:=abM (ty:=ty) h hd hu hi z1 h3 r1 r2;have h1':c.argTypes=#[t,u]:=by apply jJ.1;simpa using h1
        have sF:c.args.map a.eval=#[v,vy]:=by apply jJ.1;rw[hargs,hvs]
        have hrun:(execOp a.eval ⟨dst,.call c,ty,pos,af,g⟩).run X.P w=.ok (.value n) w':=by simp only[execOp,resolve,hc,b7,M6,Ψ,invoke,builtin,sF,h1',k1]
        exact mE hrun (hK _ _ _ _ _ (k2.put dst k3) h4)
       ·rw[hz0]at hk;cases hk
      ·cases hk
     ·cases hk
    ·cases hk
   ·rename_i hc;cases hv:dN X ⟨dst,.call c,ty,pos,af,g⟩ s η with
    |some v=>rw[hv]at hk;exact uk hs h (by rw[hv];exact hk) hK
    |none=>
     rw[hv]at hk;simp only[A.tD]at hk;cases q
     ·simp only[aS]at hk;split at hk
      ·rename_i t x h1 h2;split at hk
       ·rename_i e hd;rw[h2]at re
        have hl:∃v,c.args.toList.map a.eval=[v]/\ak (ctx z w E pb) x v:=by
         generalize c.args.toList.map a.eval=vs at *
         simp only[aJ]at re;obtain⟨v,_,rfl,r1,rfl⟩:=re;exact⟨v,rfl,r1⟩
        obtain⟨v,hvs,r1⟩:=hl;obtain⟨n,σ',k1,k2,k3⟩:=abH (ty:=ty) h hd hk r1;have h1':c.argTypes=#[t]:=by apply jJ.1;simpa using h1
        have sF:c.args.map a.eval=#[v]:=by apply jJ.1;rw[hargs,hvs]
        have hrun:(execOp a.eval ⟨dst,.call c,ty,pos,af,g⟩).run X.P w=.ok (.value (.int Ξ (n:Int))) w:=by simp only[execOp,resolve,hc,b7,M6,Ψ,invoke,builtin,sF,h1',k2]
        exact mE hrun (hK _ _ _ _ _ (k3.put dst (by simp [ak])) k1)
       ·cases hk
      ·cases hk
     ·cases hk
   ·rename_i hc;split at hk
    ·rename_i t x h1 h2;split at hk
     ·rename_i e hd;split at hk
      ·rename_i i zs hi hz;cases hz0:jH i
       ·rw[hz0]at hk;simp only[aS]at hk;simp only[jH,jZ,beq_eq_false_iff_ne]at hz0;obtain⟨⟨z1,z2⟩,z3⟩:=hz0;obtain⟨i',zv,g1,g2,g3,g4,g5,g6⟩:=sS (w:=w) hz (ctx z w E pb);rw[hi]at g1;injection g1 with g1;subst g1
        rw[g2]at z3;simp only[jZ,bne_eq_false_iff_eq,alR]at z3;obtain⟨z3,z4⟩:=z3
        have mT:∀c,aJ c zs zv.cells.toList:=λc=>by
         obtain⟨i2,v2,f1,f2,f3,f4,f5,f6⟩:=sS (w:=w) hz c;rw[hi]at f1;injection f1 with f1;subst f1
         rw[g2]at f2;injection f2 with f2;subst f2
         exact f5
        obtain⟨σ',h3,h4⟩:=bl.1 hk;rw[h2]at re
        have hl:∃v,c.args.toList.map a.eval=[v]/\ak (ctx z w E pb) x v:=by
         generalize c.args.toList.map a.eval=vs at *
         simp only[aJ]at re;obtain⟨v,_,rfl,r1,rfl⟩:=re;exact⟨v,rfl,r1⟩
        obtain⟨v,hvs,r1⟩:=hl;obtain⟨w',k1,k2⟩:=aaH (ty:=ty) h hd (ZH X.P hi g2) z3 z1 mT g6 h3 r1;have h1':c.argTypes=#[t]:=by apply jJ.1;simpa using h1
        have sF:c.args.map a.eval=#[v]:=by apply jJ.1;rw[hargs,hvs]
        have hrun:(execOp a.eval ⟨dst,.call c,ty,pos,af,g⟩).run X.P w=.ok (.value undef) w':=by simp only[execOp,resolve,hc,b7,M6,Ψ,invoke,builtin,sF,h1',k1];rfl
        exact mE hrun (hK _ _ _ _ _ (k2.undef dst) h4)
       ·rw[hz0]at hk;cases hk
      ·cases hk
     ·cases hk
    ·cases hk
   ·rename_i hc;split at hk
    ·rename_i t u m key h1 h2;split at hk
     ·rename_i kt et hd;split at hk
      ·rename_i ek he;obtain⟨σ',h3,h4⟩:=bl.1 hk;rw[h2]at re
       have hl:∃v vy,c.args.toList.map a.eval=[v,vy]/\ak (ctx z w E pb) m v/\ak (ctx z w E pb) key vy:=by
        generalize c.args.toList.map a.eval=vs at *
        simp only[aJ]at re;obtain⟨v,_,rfl,r1,u',_,rfl,r2,rfl⟩:=re;exact⟨v,u',rfl,r1,r2⟩
       obtain⟨v,vy,hvs,r1,r2⟩:=hl;obtain⟨w',k1,k2⟩:=ab9 (u:=u) (ty:=ty) h hd he h3 r1 r2;have h1':c.argTypes=#[t,u]:=by apply jJ.1;simpa using h1
       have sF:c.args.map a.eval=#[v,vy]:=by apply jJ.1;rw[hargs,hvs]
       have hrun:(execOp a.eval ⟨dst,.call c,ty,pos,af,g⟩).run X.P w=.ok (.value undef) w':=by simp only[execOp,resolve,hc,b7,M6,Ψ,invoke,builtin,sF,h1',k1];rfl
       exact mE hrun (hK _ _ _ _ _ (k2.undef dst) h4)
      ·cases hk
     ·cases hk
    ·cases hk
   ·exact uk hs h hk hK
   ·rename_i f hc;cases hq:(q&&!X.W.contains f)
    ·rw[hq]at hk;simp only[aS]at hk;obtain⟨⟨rr,σ'⟩,h3,h4⟩:=bl.1 hk;exact Ci h (hs.call _ _ _ _ _ h3) (by rw[hargs];exact re) (Ot hc) (λv w' E' h1 h2=>hK _ _ _ _ _ (h1.put dst h2) h4)
    ·rw[hq]at hk;simp only[bg]at hk;exact uk hs h hk hK
   ·rename_i x hnf hc;cases q
    ·simp only[aS]at hk;obtain⟨⟨rr,σ'⟩,h3,h4⟩:=bl.1 hk;have rx:=cH h x;generalize ev X s x=vx at *
     cases vx<;>simp only[A.gP]at h3<;>first|(cases h3;done)|skip
     rename_i fn0 Cv;simp only[ak]at rx;obtain⟨f,cs,e1,e2,e3⟩:=rx;rw[<-e2]at h3;have ve:X.dyn (X.nm.getD f 0) (c.args.toList.map (ev X s)++Cv) s.σ=δ (rr,σ'):=by rw[h.nm];exact h3
     exact Ci h (hs.dyn _ _ _ _ _ ve) (vs:=c.args.map a.eval++cs) (by rw[amz,hargs];exact re.append e3) (Ih hc e1) (λv w' E' h1 h2=>hK _ _ _ _ _ (h1.put dst h2) h4)
    ·simp only[bg]at hk;exact uk hs h hk hK
   ·cases hk
end
end
section
structure Up where
 d:Option Nat
 v:AV
 bx:Option (Nat×AV)
 new:Option qh
 rV:Bool
 σ:Option Heap
def lZ(rV:Bool)(d:Nat)(a:Option qh):Option qh:=match kO d a with|some p=>bif rV&&p.slot==d then η else δ p|none=>η
def Up.sl(u:Up)(l:List AV):List AV:=match u.d with
 |some d=>(match u.bx with|some (b,x)=>l.set b x|none=>l).set d u.v
 |none=>(match u.bx with|some (b,x)=>l.set b x|none=>l)
def Up.A(u:Up)(A:Nat->Option qh)(t:Nat):Option qh:=match u.d with|none=>A t|some d=>bif t==d then u.new else lZ u.rV d (A t)
def Up.ap(u:Up)(s:AS):AS:=⟨u.sl s.sl,u.A s.A,u.σ.getD s.σ⟩
theorem BX(d:Nat)(a:Option qh):lZ θ d a=kO d a:=by unfold lZ;cases kO d a<;>rfl
theorem Ja(i:Bool)(d:Nat)(a:Option qh):lZ i d a=a\/lZ i d a=η:=by
 cases a with
 |none=>left;rfl
 |some p=>
  unfold lZ;cases hk:kO d (δ p)with
  |none=>right;rfl
  |some q=>
   simp only
   have:q=p:=by
    simp only[kO]at hk;cases ht:p.tag with
    |none=>rw[ht]at hk;simpa using hk.symm
    |some g=>
     obtain⟨g,w⟩:=g;rw[ht]at hk;simp only at hk;cases hg:(g==d)
     ·rw[hg]at hk;simpa using hk.symm
     ·rw[hg]at hk;cases hk
   subst this;cases hb:(i&&q.slot==d)
   ·left;rfl
   ·right;rfl
theorem Fi(i:Bool)(d:Nat):lZ i d η=η:=rfl
theorem ZU(i j:Bool)(d e:Nat)(a:Option qh):lZ i d (lZ j e a)=lZ j e (lZ i d a):=by
 rcases Ja i d a with h1|h1<;>rcases Ja j e a with h2|h2
 ·rw[h2,h1,h2]
 ·rw[h2,Fi,h1,h2]
 ·rw[h2,h1,Fi]
 ·rw[h2,Fi,h1,Fi]
structure Up.S5 (x y : Up) : Prop where
 d:∀d,x.d=δ d->y.d≠δ d
 bx:∀b v,x.bx=δ (b,v)->(∀c w,y.bx=δ (c,w)->c≠b)/\y.d≠δ b
 U2:∀b v,y.bx=δ (b,v)->(∀c w,x.bx=δ (c,w)->c≠b)/\x.d≠δ b
 nx:∀d,y.d=δ d->lZ y.rV d x.new=x.new
 ny:∀d,x.d=δ d->lZ x.rV d y.new=y.new
 σ:x.σ=η\/y.σ=η
theorem Up.comm{x y:Up}(h:x.S5 y)(s:AS):x.ap (y.ap s)=y.ap (x.ap s):=by
 obtain⟨hd,qU,hby,Nr,hny,ew⟩:=h;unfold Up.ap;congr 1
 ·show x.sl (y.sl s.sl)=y.sl (x.sl s.sl);generalize s.sl=l;obtain⟨xd,xv,xb,xn,xi,xs⟩:=x;obtain⟨yd,yv,yb,yn,yi,ys⟩:=y;simp only at hd qU hby;cases xb with
  |none=>
   cases yb with
   |none=>
    cases xd with
    |none=>cases yd<;>simp [Up.sl]
    |some dx=>cases yd with
     |none=>simp [Up.sl]
     |some dy=>simp only[Up.sl];rw[YL];intro e;exact hd dx rfl (by rw[e])
   |some bv=>
    obtain⟨b,v⟩:=bv;obtain⟨_,hb⟩:=hby b v rfl;cases xd with
    |none=>cases yd<;>simp [Up.sl]
    |some dx=>
     have hne:dx≠b:=λe=>hb (by rw[e])
     cases yd with
     |none=>simp only[Up.sl];rw[YL _ _ (λe=>hne e.symm)]
     |some dy=>
      have pq:dx≠dy:=λe=>hd dx rfl (by rw[e])
      simp only[Up.sl];rw[YL _ _ (λe=>pq e.symm),YL _ _ (λe=>hne e.symm)]
  |some bv=>
   obtain⟨b,v⟩:=bv;obtain⟨DT,hb⟩:=qU b v rfl;cases yb with
   |none=>
    cases yd with
    |none=>cases xd<;>simp [Up.sl]
    |some dy=>
     have hne:dy≠b:=λe=>hb (by rw[e])
     cases xd with
     |none=>simp only[Up.sl];rw[YL _ _ hne]
     |some dx=>
      have pq:dx≠dy:=λe=>hd dx rfl (by rw[e])
      simp only[Up.sl];rw[YL _ _ hne,YL _ _ (λe=>pq e.symm)]
   |some cw=>
    obtain⟨c,u⟩:=cw;have hcb:c≠b:=DT c u rfl;obtain⟨_,hc⟩:=hby c u rfl;cases xd with
    |none=>
     cases yd with
     |none=>simp only[Up.sl];rw[YL _ _ hcb]
     |some dy=>
      have hne:dy≠b:=λe=>hb (by rw[e])
      simp only[Up.sl];rw[YL _ _ hne,YL _ _ hcb]
    |some dx=>
     have hnc:dx≠c:=λe=>hc (by rw[e])
     cases yd with
     |none=>simp only[Up.sl];rw[YL _ _ hcb,YL _ _ (λe=>hnc e.symm)]
     |some dy=>
      have hne:dy≠b:=λe=>hb (by rw[e])
      have pq:dx≠dy:=λe=>hd dx rfl (by rw[e])
      simp only[Up.sl];rw[YL _ _ hne,YL _ _ (λe=>pq e.symm),YL _ _ hcb,YL _ _ (λe=>hnc e.symm)]
 ·funext t;show x.A (y.A s.A) t=y.A (x.A s.A) t;generalize s.A t=a0;unfold Up.A;cases DS:x.d with
  |none=>cases y.d<;>rfl
  |some dx=>
   cases VT:y.d with
   |none=>rfl
   |some dy=>
    have pq:dx≠dy:=λe=>hd dx DS (by rw[VT,e])
    simp only;by_cases h1:t=dx
    ·subst h1;have:(t==dy)=θ:=by simpa using pq
     simp only[beq_self_eq_true,bg,this,aS];exact(Nr dy VT).symm
    ·have h1':(t==dx)=θ:=by simpa using h1
     by_cases h2:t=dy
     ·subst h2;simp only[beq_self_eq_true,bg,h1',aS];exact hny dx DS
     ·have h2':(t==dy)=θ:=by simpa using h2
      simp only[h1',h2',aS];exact ZU ..
 ·rcases ew with e|e<;>simp [e]
structure RI (X : Fx) (Rt : List (Nat × Nat)) (Bt : List Nat) (s : AS) : Prop where
 l:∀t b,Rt.lookup t=δ b->X.L.contains b=ι
 a:∀t p,s.A t=δ p->Rt.lookup t=δ p.slot
 v:∀t b,Rt.lookup t=δ b->X.L.contains t=θ->iY (s.sl.getD t .undef)=ι
 b:∀t,Bt.contains t=ι->kS (s.sl.getD t .undef)=ι
def mI(σ σ':Heap):Prop:=∀(id:Nat)(cs:List AV),σ[id]? =δ (WE cs)↔σ'[id]? =δ (WE cs)
section
variable {R : Type} {X : Fx} {Rt : List (Nat × Nat)} {Bt : List Nat} {s s' : AS}
theorem FJ(h:RI X Rt Bt s){tag:Option (Nat×Bool)}{x:Operand}{b off:Nat}(hp:place X s tag x=δ (b,off)):uc X Rt x=δ b:=by
 cases x with
 |tmp t=>
  simp only[place]at hp;simp only[uc];cases hL:X.L.contains t
  ·rw[hL]at hp;simp only[aS]at hp ⊢;split at hp
   ·rename_i p hA;cases hc:X.L.contains p.slot
    ·rw[hc]at hp;cases hp
    ·rw[hc]at hp;simp only[bg]at hp;have ha:=h.a t p hA;split at hp
     ·simp only[ξ,Δ]at hp;rw[ha,hp.1]
     ·rename_i g hg;cases ht:(tag==δ g)
      ·rw[ht]at hp;cases hp
      ·rw[ht]at hp;simp only[bg,ξ,Δ]at hp;rw[ha,hp.1]
   ·cases hp
  ·rw[hL]at hp;simp only[bg,ξ,Δ]at hp ⊢;exact hp.1
 |_=>simp [place]at hp
theorem An(h:RI X Rt Bt s){tag:Option (Nat×Bool)}{x:Operand}{b:Nat}(hr:uc X Rt x=δ b)(hp:place X s tag x=η):iY (ev X s x)=ι:=by
 cases x with
 |tmp t=>
  simp only[uc]at hr;cases hL:X.L.contains t
  ·rw[hL]at hr;simp only[aS]at hr;simp only[ev,hL,aS];exact h.v t b hr hL
  ·simp only[place,hL,bg]at hp;cases hp
 |_=>simp [uc]at hr
theorem Qz{v:AV}{σ:Heap}(h:iY v=ι):ψ v σ=η:=by unfold iY at h;split at h<;>first|rfl|cases h
theorem ZR{v:AV}{σ σ':Heap}(h:mI σ σ')(hv:kS v=ι):ψ v σ=ψ v σ':=by
 cases v<;>first|rfl|skip
 case op id off=>
  simp only[ψ];cases h1:σ[id]? with
  |none=>
   cases h2:σ'[id]? with
   |none=>rfl
   |some b=>cases b<;>first|rfl|(have:=(h id _).2 h2;rw[h1]at this;cases this)
  |some b=>
   cases b with
   |box cs=>rw[(h id cs).1 h1]
   |_=>
    cases h2:σ'[id]? with
    |none=>rfl
    |some b=>cases b<;>first|rfl|(have:=(h id _).2 h2;rw[h1]at this;cases this)
 case oe id g i off=>cases hv
theorem ZC{v:AV}{new:List AV}{σ:Heap}(h:iY v=ι):u7 v new σ=η:=by unfold iY at h;split at h<;>first|rfl|cases h
theorem II{pl:Nat->Option (Nat×TypeId)}:∀(ps:List (Nat×Operand))(cs:List AV),(∀p∈ps,ev X s p.2=ev X s' p.2)->kR X s pl ps cs=kR X s' pl ps cs
 |[],cs,_=>rfl
 |(i,x)::ps,cs,h=>by
  have hx:=h (i,x) (by simp);simp only at hx;simp only[kR,hx];cases pl i with
  |none=>rfl
  |some ot=>simp only;congr 1;funext new;congr 1;funext cs';exact II ps cs' (λp hp=>h p (by simp [hp]))
theorem Jx{o:Oper}{tag:Option (Nat×Bool)}(dM:∀x∈o.op.operands.toList,ev X s x=ev X s' x)(hpl:∀x,kj o=δ x->place X s tag x=place X s' tag x)(hb:∀b,rt X Rt o=δ b->s.sl.getD b .undef=s'.sl.getD b .undef)
  (DL:∀x b off,kj o=δ x->place X s' tag x=δ (b,off)->rt X Rt o=δ b):gB X o s tag=gB X o s' tag:=by
 obtain⟨dst,op,ty,pos,af,g⟩:=o;cases op<;>simp only[gB]
 case nilCheck x=>
  rw[hpl x rfl];split
  ·rename_i b off hp;rw[hb b (DL x b off rfl hp)]
  ·rfl
 case fieldAddr t x f=>
  rw[hpl x rfl];split
  ·rename_i b off hp;rw[hb b (DL x b off rfl hp)]
  ·rfl
 case indexAddr t x i=>
  rw[hpl x rfl,dM i (by simp [b8])];split
  ·rename_i b off hp;rw[hb b (DL x b off rfl hp)]
  ·rfl
theorem Fo{o:Oper}{tag:Option (Nat×Bool)}(dM:∀x∈o.op.operands.toList,ev X s x=ev X s' x)(hpl:∀x,kj o=δ x->place X s tag x=place X s' tag x)(hb:∀b,rt X Rt o=δ b->s.sl.getD b .undef=s'.sl.getD b .undef)
  (DL:∀x b off,kj o=δ x->place X s' tag x=δ (b,off)->rt X Rt o=δ b) (hno:∀x b,kj o=δ x->rt X Rt o=δ b->place X s' tag x=η->iY (ev X s' x)=ι) (ew:qx X Rt o=ι->soft Bt o=θ->s.σ=s'.σ) (af9:qx X Rt o=ι->soft Bt o=ι->mI s.σ s'.σ) (hB:∀t,Bt.contains t=ι->kS (ev X s' (.tmp t))=ι):dN X o s tag=dN X o s' tag:=by
 obtain⟨dst,op,ty,pos,af,g⟩:=o;cases op<;>simp only[dN];case move x=>rw[dM x (by simp [b8])]
 case assign x=>rw[dM x (by simp [b8])]
 case pick x y u=>rw[dM x (by simp [b8]),dM y (by simp [b8]),dM u (by simp [b8])]
 case box t x=>rw[dM x (by simp [b8])]
 case build t ps=>
  have hps:∀p∈ps.toList,ev X s p.2=ev X s' p.2:=λp hp=>dM p.2 (by simp only[b8];simp;exact⟨p.1,by simpa using hp⟩)
  split
  ·rw[II ps.toList _ hps]
  ·rfl
 case buildSlice t n ps=>
  have hps:∀p∈ps.toList,ev X s p.2=ev X s' p.2:=λp hp=>dM p.2 (by simp only[b8];simp;exact⟨p.1,by simpa using hp⟩)
  split
  ·split
   ·rw[II ps.toList _ hps]
   ·rfl
  ·rfl
 case load t x=>
  rw[hpl x rfl,dM x (by simp [b8])];split
  ·rename_i b off hp;rw[hb b (DL x b off rfl hp)]
  ·rename_i hp;cases hr:rt X Rt ⟨dst,.load t x,ty,pos,af,g⟩with
   |none=>
    cases yU:soft Bt ⟨dst,.load t x,ty,pos,af,g⟩
    ·rw[ew (by simp only[qx,hr,alU]) yU]
    ·rw[ZR (af9 (by simp only[qx,hr,alU]) yU) (by
      cases x with
      |tmp u=>exact hB u yU
      |_=>simp [soft]at yU)]
   |some b=>rw[Qz (hno x b rfl hr hp),Qz (hno x b rfl hr hp)]
 case nilCheck x=>rw[dM x (by simp [b8])]
 case binOp op t x y u=>rw[dM x (by simp [b8]),dM y (by simp [b8])]
 case unOp op t x=>rw[dM x (by simp [b8])]
 case convert a b x=>rw[dM x (by simp [b8])]
 case makeFunc fn first caps=>
  have:caps.toList.map (ev X s)=caps.toList.map (ev X s'):=Wk λx hx=>dM x (by simp [b8];exact .inr (by simpa using hx))
  rw[this]
 case slice t x lo hi mx=>
  have h1:lo.map (ev X s)=lo.map (ev X s'):=by cases lo with|none=>rfl|some y=>simp only[dL];rw[dM y (by simp [b8])]
  have h2:hi.map (ev X s)=hi.map (ev X s'):=by cases hi with|none=>rfl|some y=>simp only[dL];rw[dM y (by simp [b8])]
  rw[dM x (by simp [b8]),h1,h2,ew rfl rfl];split
  ·rfl
  ·split
   ·rw[dM _ (by simp [b8]),dM _ (by simp [b8])]
   ·rfl
 case fieldAddr t x f=>rw[dM x (by simp [b8])]
 case field t x f=>rw[dM x (by simp [b8])]
 case indexAddr t x i=>rw[dM x (by simp [b8]),dM i (by simp [b8])]
 case index t x i=>rw[dM x (by simp [b8]),dM i (by simp [b8])]
 case lookup t x i ok=>rw[dM x (by simp [b8]),dM i (by simp [b8]),ew rfl rfl]
 case extract x i=>rw[dM x (by simp [b8])]
 case entry i=>rw[dM i (by simp [b8]),ew rfl rfl]
 case call c=>
  have ha:c.args.toList.map (ev X s)=c.args.toList.map (ev X s'):=Wk λx hx=>dM x (by simp [b8,amX];exact .inr (by simpa using hx))
  rw[ha,ew rfl rfl];cases hc:c.callee with
  |value f=>have hf:=dM f (by simp [b8,amX,hc]);cases f<;>simp only[hf]
  |_=>rfl
theorem Fw{σ:Heap}{b:aM}(hb:∀cs,b≠.box cs):mI σ (σ++[b]):=by
 intro id cs;by_cases h:id<σ.length
 ·rw[fZ h]
 ·rw[iW (by omega),iH (by omega)];constructor
  ·intro e;cases e
  ·intro e;have:=bR e;simp at this;exact absurd this.symm (hb cs)
theorem J5{σ:Heap}{id:Nat}{b b':aM}(hb:∀cs,b≠.box cs)(hb':∀cs,b'≠.box cs)(h:σ[id]? =δ b):mI σ (σ.set id b'):=by
 intro i cs;rw[fO];by_cases e:id=i
 ·subst e;rw[h];have hlt:=(bB.1 h).1;simp only[if_true,hlt];constructor
  ·intro e;injection e with e;exact absurd e (hb cs)
  ·intro e;injection e with e;exact absurd e (hb' cs)
 ·simp [e]
theorem xB(σ:Heap):mI σ σ:=λ_ _=>Iff.rfl
theorem aaD{ek:A.EK}{m k v:AV}{σ σ':Heap}(h:Z9 ek m k v σ=δ σ'):mI σ σ':=by
 unfold Z9 at h;cases hk:A.eY ek k
 ·rw[hk]at h;cases h
 rw[hk]at h;simp only[bg]at h;split at h
 ·split at h
  ·rename_i es hg;obtain⟨es',_,e⟩:=bX.1 h;subst e;exact J5 (λcs e=>by cases e) (λcs e=>by cases e) hg
  ·cases h
 ·cases h
theorem OM{sz most:Nat}{x r:AV}{ys:List (List AV)}{σ σ':Heap}(h:A.kM sz most x ys σ=δ (r,σ')):mI σ σ':=by
 unfold A.kM at h;split at h
 ·split at h
  ·injection h with h;injection h with _ h;subst h;exact xB _
  ·split at h
   ·injection h with h;injection h with _ h;subst h;exact Fw λcs e=>by cases e
   ·cases h
 ·split at h
  ·injection h with h;injection h with _ h;subst h;exact xB _
  ·split at h
   ·injection h with h;injection h with _ h;subst h;exact Fw λcs e=>by cases e
   ·cases h
 ·split at h
  ·rename_i hg;split at h
   ·split at h
    ·injection h with h;injection h with _ h;subst h;exact xB _
    ·split at h
     ·injection h with h;injection h with _ h;subst h;exact J5 (λcs e=>by cases e) (λcs e=>by cases e) hg
     ·injection h with h;injection h with _ h;subst h;exact J5 (λcs e=>by cases e) (λcs e=>by cases e) hg
   ·cases h
  ·split at h
   ·injection h with h;injection h with _ h;subst h;exact Fw λcs e=>by cases e
   ·cases h
  ·cases h
 ·cases h
theorem Y0{sz most:Nat}{x y r:AV}{σ σ':Heap}(h:wh sz most x y σ=δ (r,σ')):mI σ σ':=by unfold wh at h;obtain⟨ys,_,h2⟩:=bl.1 h;exact OM h2
theorem akk{sz most:Nat}{zs:List AV}{x n r:AV}{σ σ':Heap}(h:A.rK sz most zs x n σ=δ (r,σ')):mI σ σ':=by
 unfold A.rK at h;split at h
 ·split at h
  ·exact OM h
  ·cases h
 ·cases h
structure Ag (X : Fx) (Rt : List (Nat × Nat)) (Bt : List Nat) (o : Oper) (ls : List Nat) (tag : Option (Nat × Bool)) (s s' : AS) : Prop where
 r1:RI X Rt Bt s
 r2:RI X Rt Bt s'
 dM:∀t∈ls,X.L.contains t=θ->s.sl.getD t .undef=s'.sl.getD t .undef
 pl:∀t,kj o=δ (.tmp t)->place X s tag (.tmp t)=place X s' tag (.tmp t)
 bx:∀b,rt X Rt o=δ b->s.sl.getD b .undef=s'.sl.getD b .undef
 σ:qx X Rt o=ι->soft Bt o=θ->s.σ=s'.σ
 Ev:qx X Rt o=ι->soft Bt o=ι->mI s.σ s'.σ
theorem aba{tag:Option (Nat×Bool)}{x:Operand}{b off:Nat}(h:place X s tag x=δ (b,off)):X.L.contains b=ι:=by
 cases x with
 |tmp t=>
  simp only[place]at h;cases hL:X.L.contains t
  ·rw[hL]at h;simp only[aS]at h;split at h
   ·rename_i p hA;cases hp:X.L.contains p.slot
    ·rw[hp]at h;cases h
    ·rw[hp]at h;simp only[bg]at h;split at h
     ·simp only[ξ,Δ]at h;rw[<-h.1];exact hp
     ·rename_i g hg;cases ht:(tag==δ g)
      ·rw[ht]at h;cases h
      ·rw[ht]at h;simp only[bg,ξ,Δ]at h;rw[<-h.1];exact hp
   ·cases h
  ·rw[hL]at h;simp only[bg,ξ,Δ]at h;rw[<-h.1];exact hL
 |_=>simp [place]at h
theorem Ag.wM{o:Oper}{ls:List Nat}{tag:Option (Nat×Bool)}(h:Ag X Rt Bt o ls tag s s')(hls:∀t,Operand.tmp t∈o.op.operands.toList->t∈ls):∀x∈o.op.operands.toList,ev X s x=ev X s' x:=by
 intro x hx;cases x with
 |tmp t=>
  simp only[ev];cases hL:X.L.contains t
  ·simp only[aS];exact h.dM t (hls t hx) hL
  ·rfl
 |_=>rfl
theorem RI.Bb(h:RI X Rt Bt s):∀t,Bt.contains t=ι->kS (ev X s (.tmp t))=ι:=by
 intro t ht;simp only[ev];cases X.L.contains t
 ·exact h.b t ht
 ·rfl
theorem Ag.vn{o:Oper}{ls:List Nat}{tag:Option (Nat×Bool)}(h:Ag X Rt Bt o ls tag s s'):∀x,kj o=δ x->place X s tag x=place X s' tag x:=by
 intro x hx;cases x with
 |tmp t=>exact h.pl t hx
 |_=>rfl
def wV(X:Fx)(d:Option Nat)(v:AV):Up:=⟨d,match d with|some d=>bif X.L.contains d then .undef else v|none=>.undef,η,η,θ,η⟩
def El(X:Fx)(d:Option Nat)(σ:Heap)(v:AV):Up:=⟨d,match d with|some d=>bif X.L.contains d then .undef else v|none=>.undef,η,η,θ,δ σ⟩
def HK(X:Fx)(d:Option Nat)(b:Nat)(cs:List AV):Up:=⟨d,match d with|some d=>bif X.L.contains d then .undef else .aN []|none=>.undef,δ (b,.lbx cs),η,θ,η⟩
def HJ(d:Nat)(cs:List AV):Up:=⟨δ d,.lbx cs,η,η,ι,η⟩
def Bu(X:Fx)(d:Option Nat)(b off:Nat)(tag:Option (Nat×Bool)):Up:=
 ⟨d,.undef,η,match d with|some d=>(bif X.L.contains d||!alM d X.n then η else match tag with|some (g,w)=>(bif g==d then η else δ ⟨b,off,δ (g,w)⟩)|none=>δ ⟨b,off,η⟩)|none=>η,θ,η⟩
theorem AJ(d:Option Nat)(v:AV)(s:AS):s.put X d v=(wV X d v).ap s:=by
 cases d with
 |none=>rfl
 |some d=>simp only[alQ,Up.ap,wV,Up.sl,Xn];congr 1;funext t;simp only[Up.A,BX]
theorem gL(d:Option Nat)(v:AV)(σ:Heap)(s:AS):(s.heap σ).put X d v=(El X d σ v).ap s:=by
 cases d with
 |none=>rfl
 |some d=>simp only[alQ,AS.heap,Up.ap,El,Up.sl,Y6];congr 1;funext t;simp only[Up.A,BX]
theorem PL(d:Option Nat)(b:Nat)(cs:List AV)(s:AS):(⟨s.sl.set b (.lbx cs),s.A,s.σ⟩:AS).put X d (.aN [])=(HK X d b cs).ap s:=by
 cases d with
 |none=>rfl
 |some d=>simp only[alQ,Up.ap,HK,Up.sl,Xn];congr 1;funext t;simp only[Up.A,BX]
theorem Fl(d:Nat)(cs:List AV)(s:AS):s.kQ d cs=(HJ d cs).ap s:=by simp only[AS.kQ,Up.ap,HJ,Up.sl,Xn];congr 1
theorem F3(d:Option Nat)(b off:Nat)(tag:Option (Nat×Bool))(s:AS):s.jy X d b off tag=(Bu X d b off tag).ap s:=by
 cases d with
 |none=>rfl
 |some d=>simp only[AS.jy,Up.ap,Bu,Up.sl,Xn];congr 1;funext t;simp only[Up.A,BX];rfl
structure pZ (X : Fx) (Rt : List (Nat × Nat)) (Bt : List Nat) (o : Oper) (ls : List Nat) (τ : Heap) (u : Up) : Prop where
 d:u.d=o.dst
 bx:∀b v,u.bx=δ (b,v)->X.L.contains b=ι/\wb X Rt o=δ b
 new:∀p,u.new=δ p->rL o=ι/\(∀g w,p.tag=δ (g,w)->g∈ls)/\rt X Rt o=δ p.slot/\∀d,u.d=δ d->Rt.lookup d=δ p.slot
 box:u.rV=ι->∃d,o.dst=δ d/\X.L.contains d=ι
 σ:u.σ≠η->mA X Rt o=ι
 v:∀d b,u.d=δ d->Rt.lookup d=δ b->X.L.contains d=θ->iY u.v=ι
 vb:∀d,u.d=δ d->Bt.contains d=ι->kS u.v=ι
 bxv:∀b v,u.bx=δ (b,v)->kS v=ι
 fr:wN o=ι->∀σ,u.σ=δ σ->mI τ σ
def qi(X:Fx)(Rt:List (Nat×Nat))(Bt:List Nat)(o:Oper):Prop:=(∀d,o.dst=δ d->X.L.contains d=θ->Rt.lookup d=(bif pS o then rt X Rt o else η))/\∀d,o.dst=δ d->Bt.contains d=ι->chainB Bt o=ι
theorem qi.of{o:Oper}(h:Lh X Rt o=ι)(hb:Lf Bt o=ι):qi X Rt Bt o:=by
 refine⟨λd hd hL=>?_,λd hd hc=>?_⟩
 ·unfold Lh at h;rw[hd]at h;simp only[hL,Bool.false_or,beq_iff_eq]at h;exact h
 ·unfold Lf at hb;rw[hd]at hb;simp only[hc,Wq,Bool.false_or]at hb;exact hb
theorem KI{o:Oper}{ls:List Nat}(v:AV)(hR:qi X Rt Bt o)(hv:pS o=ι->∀b,rt X Rt o=δ b->iY v=ι)(Nz:chainB Bt o=ι->kS v=ι){τ:Heap}:pZ X Rt Bt o ls τ (wV X o.dst v):=by
 refine⟨rfl,(λb v h=>by cases h),(λp h=>by cases h),(λh=>by cases h),(λh=>absurd rfl h),λd b hd hl hL=>?_,λd hd hc=>?_,(λb v h=>by cases h),(λ_ σ h=>by cases h)⟩
 ·simp only[wV]at hd ⊢;rw[hd];simp only[hL,aS];rw[hR.1 d hd hL]at hl;cases ha:pS o
  ·rw[ha]at hl;cases hl
  ·rw[ha]at hl;exact hv ha b hl
 ·have:=Nz (hR.2 d hd hc);simp only[wV]at hd ⊢;rw[hd];simp only;cases X.L.contains d
  ·exact this
  ·rfl
theorem pQ{o:Oper}{ls:List Nat}(σ:Heap)(v:AV)(hR:qi X Rt Bt o)(h:mA X Rt o=ι)(hn:pS o=θ)(hcb:chainB Bt o=θ){τ:Heap}(hf:wN o=ι->mI τ σ):pZ X Rt Bt o ls τ (El X o.dst σ v):=by
 refine⟨rfl,(λb v h=>by cases h),(λp h=>by cases h),(λh=>by cases h),(λ_=>h),λd b hd hl hL=>?_,λd hd hc=>?_,(λb v h=>by cases h),(λhw σ' h=>?_)⟩
 ·simp only[El]at hd;rw[hR.1 d hd hL,hn]at hl;cases hl
 ·have:=hR.2 d hd hc;rw[hcb]at this;cases this
 ·simp only[El,ξ]at h;subst h;exact hf hw
theorem SZ{τ:Heap}{o:Oper}{ls:List Nat}{b off:Nat}{tag:Option (Nat×Bool)}(hR:qi X Rt Bt o)(ha:pS o=ι)(hr:rt X Rt o=δ b)(h:rL o=ι)(ht:∀g w,tag=δ (g,w)->g∈ls):pZ X Rt Bt o ls τ (Bu X o.dst b off tag):=by
 refine⟨rfl,(λb v h=>by cases h),(λp hp=>?_),(λh=>by cases h),(λh=>absurd rfl h),(λd b hd hl hL=>rfl),(λ_ _ _=>rfl),(λb v h=>by cases h),(λ_ σ h=>by cases h)⟩
 have key:p.slot=b/\(∀g w,p.tag=δ (g,w)->g∈ls)/\∀d,o.dst=δ d->X.L.contains d=θ:=by
  unfold Bu at hp;simp only at hp;cases hd:o.dst with
  |none=>rw[hd]at hp;cases hp
  |some d=>
   rw[hd]at hp;simp only at hp;cases hc:(X.L.contains d||!alM d X.n)
   ·rw[hc]at hp;simp only[aS]at hp;have hL:X.L.contains d=θ:=by simp only[jZ]at hc;exact hc.1
    cases tag with
    |none=>simp only[ξ]at hp;subst hp;exact⟨rfl,(λg w e=>by cases e),λd' e=>by injection e with e;rw[<-e];exact hL⟩
    |some gw=>
     obtain⟨g',w'⟩:=gw;simp only at hp;cases hg:(g'==d)
     ·rw[hg]at hp;simp only[aS,ξ]at hp;subst hp;refine⟨rfl,λg w e=>?_,λd' e=>by injection e with e;rw[<-e];exact hL⟩;simp only[ξ,Δ]at e;rw[<-e.1];exact ht g' w' rfl
     ·rw[hg]at hp;cases hp
   ·rw[hc]at hp;cases hp
 refine⟨h,key.2.1,by rw[hr,key.1],λd hd=>?_⟩;have hd':o.dst=δ d:=hd;rw[hR.1 d hd' (key.2.2 d hd'),ha,bg,hr,key.1]
theorem Fj(l:List AV)(d t:Nat)(v:AV)(h:t≠d):(l.set d v).getD t .undef=l.getD t .undef:=by
 have h':¬d=t:=λe=>h (Eq.symm e)
 simp only[Yn,fO,aB h']
theorem Lc{u:Up}{l:List AV}{t:Nat}(h1:u.d≠δ t)(h2:∀b v,u.bx=δ (b,v)->t≠b):(u.sl l).getD t .undef=l.getD t .undef:=by
 unfold Up.sl;cases hd:u.d with
 |none=>
  cases hb:u.bx with
  |none=>rfl
  |some bv=>obtain⟨b,v⟩:=bv;exact Fj _ _ _ _ (h2 b v hb)
 |some d=>
  have hne:t≠d:=λe=>h1 (by rw[hd,e])
  cases hb:u.bx with
  |none=>exact Fj _ _ _ _ hne
  |some bv=>obtain⟨b,v⟩:=bv;simp only;rw[Fj _ _ _ _ hne,Fj _ _ _ _ (h2 b v hb)]
theorem pZ.ri{τ:Heap}{o:Oper}{ls:List Nat}{u:Up}(h:pZ X Rt Bt o ls τ u)(hs:RI X Rt Bt s):RI X Rt Bt (u.ap s):=by
 refine⟨hs.l,λt p hp=>?_,λt b ht hL=>?_,λt ht=>?_⟩
 ·have hp':u.A s.A t=δ p:=hp;unfold Up.A at hp';cases hd:u.d with
  |none=>rw[hd]at hp';exact hs.a t p hp'
  |some d=>
   rw[hd]at hp';simp only at hp';cases hc:(t==d)
   ·rw[hc]at hp';simp only[aS]at hp';rcases Ja u.rV d (s.A t)with e|e
    ·rw[e]at hp';exact hs.a t p hp'
    ·rw[e]at hp';cases hp'
   ·rw[hc]at hp';simp only[bg]at hp';have:t=d:=by simpa using hc
    subst this;exact(h.new p hp').2.2.2 t hd
 ·show iY ((u.sl s.sl).getD t .undef)=ι;by_cases hd:u.d=δ t
  ·have hv:=h.v t b hd ht hL
   have:(u.sl s.sl).getD t .undef=u.v\/(u.sl s.sl).getD t .undef=.undef:=by
    unfold Up.sl;rw[hd];simp only[Yn];rw[fO];simp only[if_true];generalize (match u.bx with|some (b,x)=>s.sl.set b x|none=>s.sl)=q;by_cases hq:t<q.length
    ·left;simp [hq]
    ·right;simp [hq]
   rcases this with e|e
   ·rw[e];exact hv
   ·rw[e];rfl
  ·rw[Lc hd (λb' v hb e=>by have:=(h.bx b' v hb).1;rw[<-e,hL]at this;cases this)];exact hs.v t b ht hL
 ·show kS ((u.sl s.sl).getD t .undef)=ι
  have qg:∀(l:List AV)(d:Nat)(v:AV),(l.set d v).getD t .undef=v/\t=d\/(l.set d v).getD t .undef=l.getD t .undef\/(l.set d v).getD t .undef=.undef:=by
   intro l d v;simp only[Yn,fO];by_cases e:d=t
   ·subst e;by_cases hq:d<l.length
    ·left;simp [hq]
    ·right;right;simp [hq]
   ·right;left;simp [e]
  have qU:kS ((match u.bx with|some (b,x)=>s.sl.set b x|none=>s.sl).getD t .undef)=ι:=by
   cases hb:u.bx with
   |none=>exact hs.b t ht
   |some bv=>
    obtain⟨b,v⟩:=bv;rcases qg s.sl b v with⟨e,_⟩|e|e
    ·simp only;rw[e];exact h.bxv b v hb
    ·simp only;rw[e];exact hs.b t ht
    ·simp only;rw[e];rfl
  unfold Up.sl;generalize (match u.bx with|some (b,x)=>s.sl.set b x|none=>s.sl)=q at qU;cases hd:u.d with
  |none=>exact qU
  |some d=>
   simp only;rcases qg q d u.v with⟨e,e2⟩|e|e
   ·rw[e];exact h.vb d hd (e2▸ht)
   ·rw[e];exact qU
   ·rw[e];rfl
theorem SP{o:Oper}{tag:Option (Nat×Bool)}{p:Nat×Option Nat}(h:gB X o s tag=δ p):rL o=ι:=by obtain⟨dst,op,ty,pos,af,g⟩:=o;cases op<;>simp only[gB]at h<;>first|(cases h;done)|rfl
theorem RR{o:Oper}{tag:Option (Nat×Bool)}{p:Nat×Option Nat}(h:gB X o s tag=δ p):pS o=ι:=by obtain⟨dst,op,ty,pos,af,g⟩:=o;cases op<;>simp only[gB]at h<;>first|(cases h;done)|rfl
theorem SQ(hI:RI X Rt Bt s){o:Oper}{tag:Option (Nat×Bool)}{b:Nat}{rr:Option Nat}(h:gB X o s tag=δ (b,rr)):rt X Rt o=δ b:=by
 obtain⟨dst,op,ty,pos,af,g⟩:=o;cases op<;>simp only[gB]at h<;>first|(cases h;done)|skip
 all_goals
  split at h
  ·rename_i b' off hp;simp only[ξ,Δ]at h;simp only[rt,kj];rw[<-h.1];exact FJ hI hp
  ·cases h
theorem RS(hI:RI X Rt Bt s){o:Oper}{tag:Option (Nat×Bool)}{v:AV}(ha:pS o=ι){b:Nat}(hr:rt X Rt o=δ b)(hp:gB X o s tag=η)(h:dN X o s tag=δ v):False:=by
 obtain⟨dst,op,ty,pos,af,g⟩:=o;have nf:∀(x:AV)(n:Nat),iY x=ι->WN n x=η:=λx n h=>by unfold iY at h;split at h<;>first|rfl|cases h
 have nn:∀(x:AV),iY x=ι->A.gZ x=η:=λx h=>by unfold iY at h;split at h<;>first|rfl|cases h
 have ni:∀(x i:AV)(n:Nat),iY x=ι->EY n x i=η:=λx i n h=>by unfold iY at h;split at h<;>first|rfl|cases h
 have na:∀(x i:AV)(m n:Nat),iY x=ι->A.th m n x i=η:=λx i m n h=>by
  unfold iY at h;unfold A.th;split at h<;>first|(cases h;done)|skip
  all_goals cases A.idx m i<;>rfl
 cases op<;>simp only[pS]at ha<;>first|(cases ha;done)|skip
 case nilCheck x=>
  simp only[gB]at hp;simp only[rt,kj]at hr;split at hp
  ·cases hp
  ·rename_i hpl;simp only[dN,nn _ (An hI hr hpl)]at h;cases h
 case fieldAddr t x f=>
  simp only[gB]at hp;simp only[rt,kj]at hr;split at hp
  ·cases hp
  ·rename_i hpl;simp only[dN]at h;split at h
   ·split at h
    ·rename_i i _;cases hz:(i.size==0)
     ·rw[hz]at h;simp only[aS,nf _ _ (An hI hr hpl)]at h;cases h
     ·rw[hz]at h;cases h
    ·cases h
   ·cases h
 case indexAddr t x i=>
  simp only[gB]at hp;simp only[rt,kj]at hr;split at hp
  ·cases hp
  ·rename_i hpl;simp only[dN]at h;split at h
   ·split at h
    ·simp only[ni _ _ _ (An hI hr hpl)]at h;cases h
    ·cases h
   ·split at h
    ·simp only[na _ _ _ _ (An hI hr hpl)]at h;cases h
    ·cases h
   ·cases h
theorem jo{α β:Type}{x:Option α}{f:α->Option β}{b:β}(h:x.bind f=δ b):∃a,x=δ a/\f a=δ b:=bl.1 h
theorem Qb(hB:∀t,Bt.contains t=ι->kS (ev X s (.tmp t))=ι){o:Oper}{tag:Option (Nat×Bool)}{v:AV}(hc:chainB Bt o=ι)(h:dN X o s tag=δ v):kS v=ι:=by
 obtain⟨dst,op,ty,pos,af,g⟩:=o
 have nk:∀x,kS x=ι->∀y,A.gZ x=δ y->kS y=ι:=λx hx y e=>by cases x<;>simp only[A.gZ]at e<;>first|(cases e;done)|(injection e with e;subst e;exact hx)
 have nf:∀x,kS x=ι->∀n y,WN n x=δ y->kS y=ι:=λx hx n y e=>by cases x<;>simp only[WN]at e<;>first|(cases e;done)|(cases hx;done)|(injection e with e;subst e;rfl)
 cases op<;>simp only[chainB]at hc<;>first|(cases hc;done)|skip
 case move x=>
  cases x<;>first|(cases hc;done)|skip
  simp only[dN,ξ]at h;subst h;exact hB _ hc
 case assign x=>
  cases x<;>first|(cases hc;done)|skip
  simp only[dN,ξ]at h;subst h;exact hB _ hc
 case nilCheck x=>
  cases x<;>first|(cases hc;done)|skip
  simp only[dN]at h;exact nk _ (hB _ hc) _ h
 case fieldAddr t x f=>
  cases x<;>first|(cases hc;done)|skip
  simp only[dN]at h;split at h
  ·split at h
   ·rename_i i _;cases hz:(i.size==0)
    ·rw[hz]at h;simp only[aS]at h;exact nf _ (hB _ hc) _ _ h
    ·rw[hz]at h;cases h
   ·cases h
  ·cases h
theorem SN{o:Oper}{ls:List Nat}(hR:qi X Rt Bt o)(hI:RI X Rt Bt s)(hls:∀t,Operand.tmp t∈o.op.operands.toList->t∈ls){k:AS->Option R}{r:R}(h:ey X ι o s k=δ r):
  ∃u,pZ X Rt Bt o ls s.σ u/\k (u.ap s)=δ r/\∀(R':Type)(k':AS->Option R')(s':AS),Ag X Rt Bt o ls η s s'->ey X ι o s' k'=k' (u.ap s'):=by
 have wG:∀(s':AS),RI X Rt Bt s'->∀x b off,kj o=δ x->place X s' η x=δ (b,off)->rt X Rt o=δ b:=λs' hi x b off hx hp=>by simp only[rt,hx];exact FJ hi hp
 have AY:∀(s':AS),RI X Rt Bt s'->∀x b,kj o=δ x->rt X Rt o=δ b->place X s' η x=η->iY (ev X s' x)=ι:=λs' hi x b hx hr hp=>by simp only[rt,hx]at hr;exact An hi hr hp
 unfold ey at h;cases hp:gB X o s η with
 |some p=>
  obtain⟨b,rr⟩:=p;rw[hp]at h;simp only at h;obtain⟨off,e1,e2⟩:=jo h;subst e1;refine⟨Bu X o.dst b off η,SZ hR (RR hp) (SQ hI hp) (SP hp) (λg w e=>by cases e),by rw[<-F3];exact e2,λR' k' s' ha=>?_⟩;have:gB X o s' η=δ (b,δ off):=by rw[<-hp];exact(Jx (ha.wM hls) ha.vn ha.bx (wG s' ha.r2)).symm
  unfold ey;rw[this];simp only[aL];rw[F3]
 |none=>
  rw[hp]at h;simp only at h;have hP:∀s',Ag X Rt Bt o ls η s s'->gB X o s' η=η:=λs' ha=>by rw[<-hp];exact(Jx (ha.wM hls) ha.vn ha.bx (wG s' ha.r2)).symm
  have dflt:((dN X o s η).bind λv=>k (s.put X o.dst v))=δ r->(∀(R':Type)(k':AS->Option R')(s':AS),Ag X Rt Bt o ls η s s'->ey X ι o s' k'=(dN X o s' η).bind λv=>k' (s'.put X o.dst v))->
    ∃u,pZ X Rt Bt o ls s.σ u/\k (u.ap s)=δ r/\∀(R':Type)(k':AS->Option R')(s':AS),Ag X Rt Bt o ls η s s'->ey X ι o s' k'=k' (u.ap s'):=by
   intro hd hsame;obtain⟨v,e1,e2⟩:=jo hd;refine⟨wV X o.dst v,KI v hR (λha b hr=>(RS hI ha hr hp e1).elim) (λhc=>Qb hI.Bb hc e1),by rw[<-AJ];exact e2,λR' k' s' ha=>?_⟩;have:dN X o s' η=δ v:=by rw[<-e1];exact(Fo (ha.wM hls) ha.vn ha.bx (wG s' ha.r2) (AY s' ha.r2) ha.σ ha.Ev ha.r2.Bb).symm
   rw[hsame R' k' s' ha,this,aL,AJ]
  obtain⟨dst,op,ty,pos,af,g⟩:=o;have tH:∀s',Ag X Rt Bt ⟨dst,op,ty,pos,af,g⟩ ls η s s'->∀x∈op.operands.toList,ev X s x=ev X s' x:=λs' ha=>ha.wM hls
  have unf:∀{R':Type}(k':AS->Option R')(s':AS),Ag X Rt Bt ⟨dst,op,ty,pos,af,g⟩ ls η s s'->gB X ⟨dst,op,ty,pos,af,g⟩ s' η=η:=λk' s' ha=>hP s' ha
  cases op<;>simp only at h<;>first
   |(exact absurd (show(η:Option R)=δ r from h) (by simp))
   |exact dflt h (λR' k' s' ha=>by unfold ey;rw[hP s' ha])
   |skip
  case alloc t=>
   cases dst with
   |none=>cases h
   |some d=>
    simp only at h;cases hL:X.L.contains d
    ·rw[hL]at h;simp only[aS]at h;cases hO:X.O.contains d
     ·rw[hO]at h;exact dflt h (λR' k' s' ha=>by unfold ey;rw[hP s' ha];simp only[hL,hO,aS])
     ·rw[hO]at h;simp only[bg]at h;split at h
      ·rename_i cs hz;rw[gL]at h;refine⟨_,pQ _ _ hR (by simp [mA,wH];simpa using hO) rfl rfl (λh=>by cases h),h,λR' k' s' ha=>?_⟩;have ew:=ha.σ (by simpa [qx]using hO) rfl;unfold ey;rw[hP s' ha];simp only[hL,hO,aS,bg,hz,ew];rw[gL]
      ·cases h
    ·rw[hL]at h;simp only[bg]at h;split at h
     ·rename_i cs hz;rw[Fl]at h;refine⟨_,⟨rfl,(λb v h=>by cases h),(λp h=>by cases h),(λ_=>⟨d,rfl,hL⟩),(λh=>absurd rfl h),(λd' b e _ hL'=>by simp only[HJ,ξ]at e;rw[<-e,hL]at hL';cases hL'),(λ_ _ _=>rfl),(λb v h=>by cases h),(λ_ σ h=>by cases h)⟩,h,λR' k' s' ha=>?_⟩;unfold ey;rw[hP s' ha];simp only[hL,bg,hz];rw[Fl]
     ·cases h
  case box t x=>
   cases dst with
   |none=>cases h
   |some d=>
    simp only at h;cases hL:X.L.contains d
    ·rw[hL]at h;simp only[aS]at h;cases hO:X.O.contains d
     ·rw[hO]at h;exact dflt h (λR' k' s' ha=>by unfold ey;rw[hP s' ha];simp only[hL,hO,aS])
     ·rw[hO]at h;simp only[bg]at h;obtain⟨cs,e1,e2⟩:=jo h;rw[gL]at e2;refine⟨_,pQ _ _ hR (by simp [mA,wH];simpa using hO) rfl rfl (λh=>by cases h),e2,λR' k' s' ha=>?_⟩;have ew:=ha.σ (by simpa [qx]using hO) rfl;have hx:=tH s' ha x (by simp [b8]);unfold ey;rw[hP s' ha];simp only[hL,hO,aS,bg,<-hx,e1,aL,ew];rw[gL]
    ·rw[hL]at h;simp only[bg]at h;obtain⟨cs,e1,e2⟩:=jo h;rw[Fl]at e2;refine⟨_,⟨rfl,(λb v h=>by cases h),(λp h=>by cases h),(λ_=>⟨d,rfl,hL⟩),(λh=>absurd rfl h),(λd' b e _ hL'=>by simp only[HJ,ξ]at e;rw[<-e,hL]at hL';cases hL'),(λ_ _ _=>rfl),(λb v h=>by cases h),(λ_ σ h=>by cases h)⟩,e2,λR' k' s' ha=>?_⟩;have hx:=tH s' ha x (by simp [b8]);unfold ey;rw[hP s' ha];simp only[hL,bg,<-hx,e1,aL];rw[Fl]
  case store t x v=>
   split at h
   ·rename_i b off hpl;obtain⟨cs,e1,e2⟩:=jo h;obtain⟨new,e3,e4⟩:=jo e2;obtain⟨cs',e5,e6⟩:=jo e4;rw[PL]at e6;have vg:rt X Rt ⟨dst,.store t x v,ty,pos,af,g⟩=δ b:=by simp only[rt,kj];exact FJ hI hpl
    refine⟨_,⟨rfl,(λb' v' hb=>by simp only[HK,ξ,Δ]at hb;rw[<-hb.1];exact⟨aba hpl,vg⟩),(λp h=>by cases h),(λh=>by cases h),(λh=>absurd rfl h),(λd1 b1 e hl hL=>by rw[hR.1 d1 e hL]at hl;cases hl),(λd1 e hc=>by have:=hR.2 d1 e hc;cases this),(λb1 v1 hb=>by simp only[HK,ξ,Δ]at hb;rw[<-hb.2];rfl),(λ_ σ h=>by cases h)⟩,e6,λR' k' s' ha=>?_⟩;have hv:=tH s' ha v (by simp [b8]);have hpx:place X s' η x=δ (b,off):=by rw[<-hpl];exact(ha.vn x rfl).symm
    have qU:=ha.bx b vg;unfold ey;rw[hP s' ha];simp only[hpx,<-qU,e1,aL,<-hv,e3,e5];rw[PL]
   ·rename_i hpl;obtain⟨new,e3,e4⟩:=jo h;obtain⟨σ',e5,e6⟩:=jo e4;rw[gL]at e6
    have vg:rt X Rt ⟨dst,.store t x v,ty,pos,af,g⟩=η:=by
     cases hr:rt X Rt ⟨dst,.store t x v,ty,pos,af,g⟩with
     |none=>rfl
     |some b=>rw[ZC (AY s hI x b rfl hr hpl)]at e5;cases e5
    have hw:mA X Rt ⟨dst,.store t x v,ty,pos,af,g⟩=ι:=by simp only[mA,vg,alU]
    refine⟨_,pQ _ _ hR hw rfl rfl (λh=>by cases h),e6,λR' k' s' ha=>?_⟩;have hv:=tH s' ha v (by simp [b8]);have hx:=tH s' ha x (by simp [b8]);have ew:=ha.σ (by simp only[qx,vg,alU]) rfl;have hpx:place X s' η x=η:=by rw[<-hpl];exact(ha.vn x rfl).symm
    unfold ey;rw[hP s' ha];simp only[hpx,<-hv,<-hx,e3,aL,<-ew,e5];rw[gL]
  case makeMap t rr=>
   cases rr with
   |some x=>cases h
   |none=>simp only at h;rw[gL]at h;refine⟨_,pQ _ _ hR rfl rfl rfl (λ_=>Fw (λcs e=>by cases e)),h,λR' k' s' ha=>?_⟩;have ew:=ha.σ rfl rfl;unfold ey;rw[hP s' ha];simp only[<-ew];rw[gL]
  case range t x=>
   split at h
   ·rename_i kt et hd;obtain⟨es,e1,e2⟩:=jo h;rw[gL]at e2;refine⟨_,pQ _ _ hR rfl rfl rfl (λh=>by cases h),e2,λR' k' s' ha=>?_⟩;have hx:=tH s' ha x (by simp [b8]);have ew:=ha.σ rfl rfl;unfold ey;rw[hP s' ha];simp only[hd,<-hx,<-ew,e1,aL];rw[gL]
   ·cases h
  case buildSlice t n ps=>
   cases dst with
   |none=>exact dflt h (λR' k' s' ha=>by unfold ey;rw[hP s' ha])
   |some d=>
    simp only at h;cases hO:X.O.contains d
    ·rw[hO]at h;exact dflt h (λR' k' s' ha=>by unfold ey;rw[hP s' ha];simp only[hO,aS])
    ·rw[hO]at h;simp only[bg]at h;obtain⟨v,e1,e2⟩:=jo h
     have hv:∀s',Ag X Rt Bt ⟨δ d,.buildSlice t n ps,ty,pos,af,g⟩ ls η s s'->dN X ⟨δ d,.buildSlice t n ps,ty,pos,af,g⟩ s' η=δ v:=λs' ha=>by rw[<-e1];exact(Fo (ha.wM hls) ha.vn ha.bx (wG s' ha.r2) (AY s' ha.r2) ha.σ ha.Ev ha.r2.Bb).symm
     unfold A.wJ at e2;split at e2
     ·rename_i sz es;cases hl:(es.length==0)
      ·rw[hl]at e2;simp only[aS]at e2;rw[gL]at e2;refine⟨_,pQ _ _ hR (by simp [mA,wH];simpa using hO) rfl rfl (λh=>by cases h),e2,λR' k' s' ha=>?_⟩;have ew:=ha.σ (by simpa [qx]using hO) rfl;unfold ey;rw[hP s' ha];simp only[hO,bg,hv s' ha,aL,A.wJ,hl,aS,<-ew];rw[gL]
      ·rw[hl]at e2;cases e2
     ·cases e2
  case mapUpdate t m i v=>
   split at h
   ·rename_i kt et hd;split at h
    ·rename_i ek he;obtain⟨σ',e1,e2⟩:=jo h;rw[gL]at e2;refine⟨_,pQ _ _ hR rfl rfl rfl (λ_=>aaD e1),e2,λR' k' s' ha=>?_⟩;have hm:=tH s' ha m (by simp [b8]);have hi:=tH s' ha i (by simp [b8]);have hv:=tH s' ha v (by simp [b8]);have ew:=ha.σ rfl rfl;unfold ey;rw[hP s' ha];simp only[hd,he,<-hm,<-hi,<-hv,<-ew,e1,aL];rw[gL]
    ·cases h
   ·cases h
  case call c=>
   have hargs:∀s',Ag X Rt Bt ⟨dst,.call c,ty,pos,af,g⟩ ls η s s'->c.args.toList.map (ev X s)=c.args.toList.map (ev X s'):=λs' ha=>
    Wk λx hx=>tH s' ha x (by simp [b8,amX];exact .inr (by simpa using hx))
   split at h
   ·rename_i hc;split at h
    ·rename_i t u x y h1 h2;split at h
     ·rename_i e e' hd hu;split at h
      ·rename_i i hi;cases hz0:jH i
       ·rw[hz0]at h;simp only[aS]at h;obtain⟨⟨rr,σ'⟩,e1,e2⟩:=jo h;simp only at e2;rw[gL]at e2;refine⟨_,pQ _ _ hR (by simp [mA,wH,hc]) rfl rfl (λ_=>Y0 e1),e2,λR' k' s' ha=>?_⟩;have ew:=ha.σ rfl rfl;unfold ey;rw[hP s' ha];simp only[hc,<-hargs s' ha,h1,h2,hd,hu,hi,hz0,aS,<-ew,e1,aL];rw[gL]
       ·rw[hz0]at h;cases h
      ·cases h
     ·rename_i e kk hd hu;split at h
      ·rename_i i zs hi hz;cases hz0:jH i
       ·rw[hz0]at h;simp only[aS]at h;obtain⟨⟨rr,σ'⟩,e1,e2⟩:=jo h;simp only at e2;rw[gL]at e2;refine⟨_,pQ _ _ hR (by simp [mA,wH,hc]) rfl rfl (λ_=>akk e1),e2,λR' k' s' ha=>?_⟩;have ew:=ha.σ rfl rfl;unfold ey;rw[hP s' ha];simp only[hc,<-hargs s' ha,h1,h2,hd,hu,hi,hz,hz0,aS,<-ew,e1,aL];rw[gL]
       ·rw[hz0]at h;cases h
      ·cases h
     ·cases h
    ·cases h
   ·rename_i hc;split at h
    ·rename_i t u x y h1 h2;split at h
     ·rename_i e e' hd hu;split at h
      ·rename_i i hi;cases hz0:jH i
       ·rw[hz0]at h;simp only[aS]at h;obtain⟨⟨rr,σ'⟩,e1,e2⟩:=jo h;simp only at e2;rw[gL]at e2;refine⟨_,pQ _ _ hR (by simp [mA,wH,hc]) rfl rfl (λh=>by simp [wN,hc]at h),e2,λR' k' s' ha=>?_⟩;have ew:=ha.σ rfl rfl;unfold ey;rw[hP s' ha];simp only[hc,<-hargs s' ha,h1,h2,hd,hu,hi,hz0,aS,<-ew,e1,aL];rw[gL]
       ·rw[hz0]at h;cases h
      ·cases h
     ·cases h
    ·cases h
   ·rename_i hc;cases hv:dN X ⟨dst,.call c,ty,pos,af,g⟩ s η with
    |none=>rw[hv]at h;simp [A.tD]at h
    |some v=>
     rw[hv]at h
     exact dflt (by rw[hv];exact h) (λR' k' s' ha=>by
      have hv':dN X ⟨dst,.call c,ty,pos,af,g⟩ s' η=δ v:=by rw[<-hv];exact(Fo (ha.wM hls) ha.vn ha.bx (wG s' ha.r2) (AY s' ha.r2) ha.σ ha.Ev ha.r2.Bb).symm
      unfold ey;rw[hP s' ha];simp only[hc,hv',aL,A.tD])
   ·rename_i hc;split at h
    ·rename_i t x h1 h2;split at h
     ·rename_i e hd;split at h
      ·rename_i i zs hi hz;cases hz0:jH i
       ·rw[hz0]at h;simp only[aS]at h;obtain⟨σ',e1,e2⟩:=jo h;rw[gL]at e2;refine⟨_,pQ _ _ hR (by simp [mA,wH,hc]) rfl rfl (λh=>by simp [wN,hc]at h),e2,λR' k' s' ha=>?_⟩;have ew:=ha.σ rfl rfl;unfold ey;rw[hP s' ha];simp only[hc,<-hargs s' ha,h1,h2,hd,hi,hz,hz0,aS,<-ew,e1,aL];rw[gL]
       ·rw[hz0]at h;cases h
      ·cases h
     ·cases h
    ·cases h
   ·rename_i hc;split at h
    ·rename_i t u m key h1 h2;split at h
     ·rename_i kt et hd;split at h
      ·rename_i ek he;obtain⟨σ',e1,e2⟩:=jo h;rw[gL]at e2;refine⟨_,pQ _ _ hR (by simp [mA,wH,hc]) rfl rfl (λh=>by simp [wN,hc]at h),e2,λR' k' s' ha=>?_⟩;have ew:=ha.σ rfl rfl;unfold ey;rw[hP s' ha];simp only[hc,<-hargs s' ha,h1,h2,hd,he,<-ew,e1,aL];rw[gL]
      ·cases h
     ·cases h
    ·cases h
   ·rename_i b hn1 hn2 jP mS qq hc
    exact dflt h (λR' k' s' ha=>by
     unfold ey;rw[hP s' ha];simp only[hc]
     all_goals (first|rfl|(cases b<;>first|rfl|exact absurd rfl hn1|exact absurd rfl hn2|exact absurd rfl jP|exact absurd rfl mS|exact absurd rfl qq)))
   ·rename_i f hc;cases hw:X.W.contains f
    ·simp only[hw,Bool.not_false,Bool.and_true,bg]at h;exact dflt h (λR' k' s' ha=>by unfold ey;rw[hP s' ha];simp only[hc,hw,Bool.not_false,Bool.and_true,bg])
    ·simp only[hw,Wq,Zg,aS]at h;obtain⟨⟨rr,σ'⟩,e1,e2⟩:=jo h;simp only at e2;rw[gL]at e2;refine⟨_,pQ _ _ hR (by simp only[mA,wH,hc];exact hw) rfl rfl (λh=>by simp [wN,hc]at h),e2,λR' k' s' ha=>?_⟩;have ew:=ha.σ rfl rfl;unfold ey;rw[hP s' ha];simp only[hc,<-hargs s' ha,hw,Wq,Zg,aS,<-ew,e1,aL];rw[gL]
   ·rename_i x hnf hc;simp only[bg]at h
    exact dflt h (λR' k' s' ha=>by
     unfold ey;rw[hP s' ha];simp only[hc]
     cases x<;>first|exact absurd rfl (hnf _)|simp only[bg])
   ·cases h
end
end
section
section
variable {R : Type} {X : Fx} {Rt : List (Nat × Nat)} {Bt : List Nat} {s s' : AS} {ops : Array Oper}
theorem Cd{o:Oper}{t:Nat}(h:Operand.tmp t∈o.op.operands.toList):t∈o.looksAt ops:=by unfold Oper.looksAt;refine eG.2 (.inl (Xo.2 ⟨.tmp t,h,rfl⟩))
theorem ai8{o:Oper}{j d:Nat}{want:Bool}(hg:o.guard=δ (j,want))(hd:(ops[j]?).bind (·.dst)=δ d):d∈o.looksAt ops:=by unfold Oper.looksAt;refine eG.2 (.inr ?_);rw[hg];simp only[hd];simp
def A6(X:Fx)(Rt:List (Nat×Nat))(Bt:List Nat)(ops:Array Oper)(o:Oper)(s s':AS):Prop:=∀tag:Option (Nat×Bool),(∀g w,tag=δ (g,w)->g∈o.looksAt ops)->Ag X Rt Bt o (o.looksAt ops) tag s s'
theorem Ag.symm{o:Oper}{ls:List Nat}{tag:Option (Nat×Bool)}(h:Ag X Rt Bt o ls tag s s'):Ag X Rt Bt o ls tag s' s:=
 ⟨h.r2,h.r1,λt ht hL=>(h.dM t ht hL).symm,λt ht=>(h.pl t ht).symm,λb hb=>(h.bx b hb).symm,(λhr hs=>(h.σ hr hs).symm),λhr hs id cs=>(h.Ev hr hs id cs).symm⟩
theorem A6.symm{o:Oper}(h:A6 X Rt Bt ops o s s'):A6 X Rt Bt ops o s' s:=λtag ht=>(h tag ht).symm
theorem JJ{q:Bool}{o:Oper}{f:FuncId}{l:List Operand}(h:AO X o=δ (f,l))(s:AS)(k:AS->Option R):ey X q o s k=(X.call f (l.map (ev X s)) s.σ).bind λr=>k ((s.heap r.2).put X o.dst r.1):=by
 unfold AO at h;split at h
 ·rename_i c ho;split at h
  ·rename_i f' hc;cases hw:X.W.contains f'
   ·rw[hw]at h;cases h
   ·rw[hw]at h;simp only[bg,ξ,Δ]at h;obtain⟨rfl,rfl⟩:=h;unfold ey gB;simp only[ho,hc,hw,Wq,Zg,aS]
  ·cases h
 ·cases h
theorem Kt{o:Oper}{k:AS->Option R}{r:R}(hR:qi X Rt Bt o)(hI:RI X Rt Bt s)(h:jD X ι ops o s k=δ r):
  ∃u,pZ X Rt Bt o (o.looksAt ops) s.σ u/\k (u.ap s)=δ r/\∀(R':Type)(k':AS->Option R')(s':AS),A6 X Rt Bt ops o s s'->jD X ι ops o s' k'=k' (u.ap s'):=by
 unfold jD at h;cases hg:o.guard with
 |none=>rw[hg]at h;obtain⟨u,h1,h2,h3⟩:=SN (ls:=o.looksAt ops) hR hI (λt ht=>Cd ht) h;refine⟨u,h1,h2,λR' k' s' ha=>?_⟩;unfold jD;rw[hg];exact h3 R' k' s' (ha η (λg w e=>by cases e))
 |some jw=>
  obtain⟨j,want⟩:=jw;rw[hg]at h;simp only at h;cases hd:(ops[j]?).bind (·.dst)with
  |none=>rw[hd]at h;cases h
  |some d=>
   rw[hd]at h;simp only at h;cases hb:Ca X o d
   ·rw[hb]at h;simp only[aS]at h;have jB:=ai8 (ops:=ops) hg hd;have wI:∀g w,(δ (d,want):Option (Nat×Bool))=δ (g,w)->g∈o.looksAt ops:=λg w e=>by injection e with e;injection e with e _;rw[<-e];exact jB
    have Ni:X.L.contains d=θ:=by simp only[Ca,jZ]at hb;exact hb.1
    cases ou:AO X o with
    |some fa=>
     obtain⟨f,as'⟩:=fa;rw[ou]at h;simp only at h;obtain⟨rv,e1,e2⟩:=jo h
     have key:∀(x:AV),s.sl.getD d .undef=x->(x=.aN []\/∃c,x=.bool c/\(c==want)=θ)\/∃c,x=.bool c/\(c==want)=ι:=by
      intro x hx;rw[hx]at e1;unfold μ at e1;split at e1
      ·rename_i c;cases hc:(c==want)
       ·exact .inl (.inr ⟨c,rfl,hc⟩)
       ·exact .inr ⟨c,rfl,hc⟩
      ·exact .inl (.inl rfl)
      ·cases e1
     rcases key _ rfl with hno|⟨c,hc,Ng⟩
     ·have hG:∀(R':Type)(x:Option R')(y:Option R'),μ (s.sl.getD d .undef) want x y=y:=by
       intro R' x y;rcases hno with hh|⟨c,hh,Ng⟩
       ·rw[hh];rfl
       ·rw[hh];simp only[μ,Ng,aS]
      rw[hG]at e1;injection e1 with e1
      subst e1
      have wg:pS o=θ/\chainB Bt o=θ:=by
       unfold AO at ou;split at ou
       ·rename_i c ho;exact⟨by simp only[pS,ho],by simp only[chainB,ho]⟩
       ·cases ou
      refine⟨wV X o.dst (.aN []),KI _ hR (λha=>by rw[wg.1]at ha;cases ha) (λha=>by rw[wg.2]at ha;cases ha),by rw[<-AJ];exact e2,λR' k' s' ha=>?_⟩;have a:=ha _ wI;have jR:=a.dM d jB Ni;unfold jD;rw[hg];simp only[hd,hb,aS,ou];rw[<-jR,hG,aL,<-AJ];rfl
     ·have hG:∀(R':Type)(x:Option R')(y:Option R'),μ (s.sl.getD d .undef) want x y=x:=by intro R' x y;rw[hc];simp only[μ,Ng,bg]
      have hA:ey X ι o s k=δ r:=by rw[JJ ou];rw[hG]at h;exact h
      obtain⟨u,h1,h2,h3⟩:=SN (ls:=o.looksAt ops) hR hI (λt ht=>Cd ht) hA;refine⟨u,h1,h2,λR' k' s' ha=>?_⟩;have a:=ha _ wI;have jR:=a.dM d jB Ni;rw[<-h3 R' k' s' (ha η (λg w e=>by cases e)),JJ ou];unfold jD;rw[hg];simp only[hd,hb,aS,ou];rw[<-jR,hG]
    |none=>
    rw[ou]at h;simp only at h;have wG:∀(s':AS),RI X Rt Bt s'->∀x b off,kj o=δ x->place X s' (δ (d,want)) x=δ (b,off)->rt X Rt o=δ b:=λs' hi x b off hx hp=>by simp only[rt,hx];exact FJ hi hp
    have AY:∀(s':AS),RI X Rt Bt s'->∀x b,kj o=δ x->rt X Rt o=δ b->place X s' (δ (d,want)) x=η->iY (ev X s' x)=ι:=λs' hi x b hx hr hp=>by simp only[rt,hx]at hr;exact An hi hr hp
    have hP:∀s',A6 X Rt Bt ops o s s'->gB X o s' (δ (d,want))=gB X o s (δ (d,want)):=λs' ha=>by have a:=ha _ wI;exact(Jx (a.wM λt ht=>Cd ht) a.vn a.bx (wG s' a.r2)).symm
    cases hp:gB X o s (δ (d,want))with
    |some p=>obtain⟨b,rr⟩:=p;rw[hp]at h;simp only at h;obtain⟨off,e1,e2⟩:=jo h;subst e1;refine⟨Bu X o.dst b off (δ (d,want)),SZ hR (RR hp) (SQ hI hp) (SP hp) wI,by rw[<-F3];exact e2,λR' k' s' ha=>?_⟩;unfold jD;rw[hg];simp only[hd,hb,aS,ou,hP s' ha,hp,aL];rw[F3]
    |none=>
     rw[hp]at h;simp only at h;obtain⟨v,e1,e2⟩:=jo h
     have hv:pS o=ι->∀b,rt X Rt o=δ b->iY v=ι:=by
      intro ha b hr;unfold μ at e1;split at e1
      ·rename_i c _;cases hc:(c==want)
       ·rw[hc]at e1;simp only[aS,ξ]at e1;subst e1;rfl
       ·rw[hc]at e1;exact(RS hI ha hr hp e1).elim
      ·simp only[ξ]at e1;subst e1;rfl
      ·cases e1
     have Nz:chainB Bt o=ι->kS v=ι:=by
      intro hc;unfold μ at e1;split at e1
      ·rename_i c _;cases jO:(c==want)
       ·rw[jO]at e1;simp only[aS,ξ]at e1;subst e1;rfl
       ·rw[jO]at e1;exact Qb hI.Bb hc e1
      ·simp only[ξ]at e1;subst e1;rfl
      ·cases e1
     refine⟨wV X o.dst v,KI v hR hv Nz,by rw[<-AJ];exact e2,λR' k' s' ha=>?_⟩;have a:=ha _ wI;have hV:dN X o s' (δ (d,want))=dN X o s (δ (d,want)):=(Fo (a.wM λt ht=>Cd ht) a.vn a.bx (wG s' a.r2) (AY s' a.r2) a.σ a.Ev a.r2.Bb).symm;have jR:=a.dM d jB Ni;unfold jD;rw[hg];simp only[hd,hb,aS,ou,hP s' ha,hp,hV,<-jR,e1,aL];rw[AJ]
   ·rw[hb]at h;cases h
structure tL (X : Fx) (Rt : List (Nat × Nat)) (Bt : List Nat) (ops : Array Oper) (x y : Oper) : Prop where
 dx:∀d,x.dst=δ d->d∉y.looksAt ops
 dd:∀d,x.dst=δ d->y.dst≠δ d
 dy:∀d,y.dst=δ d->d∉x.looksAt ops
 c1:tj X Rt Bt x y=θ
 c2:tj X Rt Bt y x=θ
theorem tL.symm{x y:Oper}(h:tL X Rt Bt ops x y):tL X Rt Bt ops y x:=⟨h.dy,λd hd e=>h.dd d e hd,h.dx,h.c2,h.c1⟩
theorem aly{x y:Oper}(h:indep X Rt Bt ops x y=ι):tL X Rt Bt ops x y:=by simp only[indep,eF,Bool.not_eq_true']at h;obtain⟨⟨h1,h2⟩,h3⟩:=h;obtain⟨a1,a2,a3⟩:=Oper.apart_spec h1;exact⟨a1,a2,a3,h2,h3⟩
theorem Rm{x y:Oper}(h:tj X Rt Bt x y=θ){b:Nat}(hb:wb X Rt x=δ b):rt X Rt y≠δ b:=by unfold tj at h;simp only[jZ]at h;have:=h.1.1;rw[hb]at this;simpa using this
theorem FP{x y:Oper}(h:tj X Rt Bt x y=θ){d:Nat}(hd:x.dst=δ d)(hL:X.L.contains d=ι):rt X Rt y≠δ d:=by unfold tj at h;simp only[jZ]at h;have:=h.1.2;rw[hd]at this;simp only[hL,Bool.true_and]at this;simpa using this
theorem FQ{x y:Oper}(h:tj X Rt Bt x y=θ)(hw:mA X Rt x=ι):(qx X Rt y=θ\/(soft Bt y=ι/\wN x=ι))/\mA X Rt y=θ:=by
 unfold tj at h;simp only[jZ]at h;have:=h.2;rw[hw]at this;simp only[Bool.true_and,jZ]at this;refine⟨?_,this.2⟩;cases hr:qx X Rt y
 ·exact .inl rfl
 ·have h2:=this.1;rw[hr,Bool.true_and,alR]at h2;exact .inr (by simpa using h2)
theorem acR{x:Oper}{a:Operand}(h:kj x=δ a):a∈x.op.operands.toList:=by obtain⟨dst,op,ty,pos,af,g⟩:=x;cases op<;>simp only[kj]at h<;>first|(cases h;done)|(injection h with h;subst h;simp [b8])
theorem agS(h:RI X Rt Bt s){x:Oper}{b:Nat}(hr:rt X Rt x=δ b)(hL:X.L.contains b=θ):False:=by
 unfold rt at hr;split at hr
 ·rename_i a _;cases a with
  |tmp t=>
   simp only[uc]at hr;cases hc:X.L.contains t
   ·rw[hc]at hr;have:=h.l t b hr;rw[hL]at this;cases this
   ·rw[hc]at hr;simp only[bg,ξ]at hr;subst hr;rw[hL]at hc;cases hc
  |_=>simp [uc]at hr
 ·cases hr
theorem TK{x:Oper}{b:Nat}(h:wb X Rt x=δ b):rt X Rt x=δ b:=by
 unfold wb at h;split at h
 ·exact h
 ·cases h
theorem Tj{τ:Heap}{x y:Oper}(h:tL X Rt Bt ops x y){u:Up}(hu:pZ X Rt Bt y (y.looksAt ops) τ u)(s:AS)(hs:RI X Rt Bt s)(hτ:u.σ≠η->mI s.σ τ):A6 X Rt Bt ops x s (u.ap s):=by
 intro tag ht;have hnd:∀t,t∈x.looksAt ops->u.d≠δ t:=λt ht e=>by rw[hu.d]at e;exact h.dy t e ht
 refine⟨hs,hu.ri hs,λt htl hL=>?_,λt Vw=>?_,λb hb=>?_,λhr yU=>?_,λhr yU=>?_⟩
 ·exact(Lc (hnd t htl) (λb v hb e=>by have:=(hu.bx b v hb).1;rw[<-e,hL]at this;cases this)).symm
 ·have htl:t∈x.looksAt ops:=Cd (acR Vw);simp only[place];cases hL:X.L.contains t
  ·simp only[aS];show _=match u.A s.A t with|some p=>_|none=>η
   unfold Up.A;cases hd:u.d with
   |none=>rfl
   |some d=>
    have htd:(t==d)=θ:=by simp only[beq_eq_false_iff_ne];intro e;exact hnd t htl (by rw[hd,e])
    simp only[htd,aS];cases hA:s.A t with
    |none=>rfl
    |some p=>
     have vg:uc X Rt (.tmp t)=δ p.slot:=by simp only[uc,hL,aS];exact hs.a t p hA
     have hf:lZ u.rV d (δ p)=kO d (δ p):=by
      cases hi:u.rV with
      |false=>exact BX d _
      |true=>
       obtain⟨d',hd',hL'⟩:=hu.box hi;have pq:d'=d:=by rw[hu.d]at hd;rw[hd]at hd';injection hd' with e;exact e.symm
       subst pq;unfold lZ;cases hk:kO d' (δ p)with
       |none=>rfl
       |some q=>
        have hqs:q=p:=by
         simp only[kO]at hk;cases yV:p.tag with
         |none=>rw[yV]at hk;simpa using hk.symm
         |some g=>
          obtain⟨g,w⟩:=g;rw[yV]at hk;simp only at hk;cases hg:(g==d')
          ·rw[hg]at hk;simpa using hk.symm
          ·rw[hg]at hk;cases hk
        subst hqs
        have hne:(q.slot==d')=θ:=by
         rw[beq_eq_false_iff_ne];intro e;have:rt X Rt x=δ q.slot:=by simp only[rt,Vw];exact vg
         exact FP h.c2 hd' hL' (by rw[this,e])
        simp only[hne,Zg,aS]
     rw[hf];simp only[kO];cases yV:p.tag with
     |none=>simp only[yV]
     |some gw=>
      obtain⟨g,w⟩:=gw;simp only;cases hgd:(g==d)
      ·simp only[aS,yV]
      ·simp only[bg];have afV:g=d:=by simpa using hgd
       have:(tag==δ (g,w))=θ:=by rw[beq_eq_false_iff_ne];intro e;exact hnd g (ht g w e) (by rw[hd,afV])
       rw[this];cases X.L.contains p.slot<;>rfl
  ·rfl
 ·refine(Lc (λe=>?_) (λb' v hb' e=>?_)).symm
  ·rw[hu.d]at e
   have hLb:X.L.contains b=ι:=by
    cases hc:X.L.contains b with
    |true=>rfl
    |false=>exfalso;exact agS hs hb hc
   exact FP h.c2 e hLb hb
  ·exact Rm h.c2 (hu.bx b' v hb').2 (by rw[<-e];exact hb)
 ·show s.σ=u.σ.getD s.σ;cases hs':u.σ with
  |none=>rfl
  |some σ=>
   rcases(FQ h.c2 (hu.σ (by rw[hs'];intro e;cases e))).1 with this|⟨this,_⟩
   ·rw[hr]at this;cases this
   ·rw[yU]at this;cases this
 ·show mI s.σ (u.σ.getD s.σ);cases hs':u.σ with
  |none=>exact xB _
  |some σ=>
   rcases(FQ h.c2 (hu.σ (by rw[hs'];intro e;cases e))).1 with this|⟨_,hf⟩
   ·rw[hr]at this;cases this
   ·exact λid cs=>(hτ (by rw[hs'];intro e;cases e) id cs).trans (hu.fr hf σ hs' id cs)
theorem abq{τ Ew:Heap}{x y:Oper}(h:tL X Rt Bt ops x y){u v:Up}(hu:pZ X Rt Bt x (x.looksAt ops) τ u)(hv:pZ X Rt Bt y (y.looksAt ops) Ew v):u.S5 v:=by
 have half:∀{τ Ew:Heap}{x y:Oper}{u v:Up},tL X Rt Bt ops x y->pZ X Rt Bt x (x.looksAt ops) τ u->pZ X Rt Bt y (y.looksAt ops) Ew v->(∀b a,u.bx=δ (b,a)->(∀c a',v.bx=δ (c,a')->c≠b)/\v.d≠δ b)/\(∀d,v.d=δ d->lZ v.rV d u.new=u.new):=by
  intro τ Ew x y u v h hu hv;refine⟨λb a hb=>?_,λd hd=>?_⟩
  ·obtain⟨k1,k2⟩:=hu.bx b a hb;refine⟨λc a' hc e=>?_,λe=>?_⟩
   ·have:=(hv.bx c a' hc).2;subst e;exact Rm h.c1 k2 (TK this)
   ·rw[hv.d]at e;exact FP h.c2 e k1 (TK k2)
  ·cases hn:u.new with
   |none=>rfl
   |some p=>
    obtain⟨k1,k2,k3,k4⟩:=hu.new p hn
    have hkt:kO d (δ p)=δ p:=by
     simp only[kO];cases yV:p.tag with
     |none=>rfl
     |some gw=>
      obtain⟨g,w⟩:=gw;simp only
      have:(g==d)=θ:=by rw[beq_eq_false_iff_ne];intro e;rw[hv.d]at hd;exact h.dy d hd (e▸k2 g w yV)
      rw[this];rfl
    unfold lZ;rw[hkt];simp only;cases hi:v.rV with
    |false=>rfl
    |true=>
     obtain⟨d',hd',hL'⟩:=hv.box hi;have pq:d'=d:=by rw[hv.d]at hd;rw[hd]at hd';injection hd' with e;exact e.symm
     subst pq
     have:(p.slot==d')=θ:=by rw[beq_eq_false_iff_ne];intro e;exact FP h.c2 hd' hL' (by rw[k3,e])
     simp only[this,Zg,aS]
 obtain⟨a1,a2⟩:=half h hu hv;obtain⟨b1,b2⟩:=half h.symm hv hu;refine⟨λd hd e=>?_,a1,b1,a2,b2,?_⟩
 ·rw[hu.d]at hd;rw[hv.d]at e;exact h.dd d hd e
 ·cases hs:u.σ with
  |none=>exact .inl rfl
  |some σ=>
   right;have hw:=hu.σ (by rw[hs];intro e;cases e);have VC:=(FQ h.c1 hw).2;cases hs2:v.σ with
   |none=>rfl
   |some σ2=>rw[hv.σ (by rw[hs2];intro e;cases e)]at VC;cases VC
theorem Qc{o:Oper}{k:AS->Option R}{r:R}(ho:qi X Rt Bt o):∀(l1 l2:List Oper)(s:AS),RI X Rt Bt s->(∀y∈l1,qi X Rt Bt y)->(∀y∈l1,tL X Rt Bt ops y o)->oR X ι ops (l1++o::l2) s k=δ r->jD X ι ops o s (λs1=>oR X ι ops (l1++l2) s1 k)=δ r
 |[],l2,s,_,_,_,h=>h
 |y::l1,l2,s,hs,hr,hi,h=>by
  simp only[iI,oR]at h;obtain⟨u,u1,u2,u3⟩:=Kt (hr y (by simp)) hs h;have ih:=Qc ho l1 l2 (u.ap s) (u1.ri hs) (λz hz=>hr z (by simp [hz])) (λz hz=>hi z (by simp [hz])) u2;obtain⟨v,v1,v2,v3⟩:=Kt ho (u1.ri hs) ih;have hy:=hi y (by simp)
  have hbe:v.σ≠η->mI s.σ (u.ap s).σ:=λhv=>by
   have hnu:u.σ=η:=by
    cases hu:u.σ with
    |none=>rfl
    |some σ=>have hw:=(FQ hy.c1 (u1.σ (by rw[hu];intro e;cases e))).2;rw[v1.σ hv]at hw;cases hw
   show mI s.σ (u.σ.getD s.σ);rw[hnu];exact xB _
  rw[v3 R _ s (Tj hy.symm u1 s hs (λ_=>xB _)).symm];simp only[iI,oR];rw[u3 R _ (v.ap s) (Tj hy v1 s hs hbe),Up.comm (abq hy u1 v1)];exact v2
def Down(ops:Array Oper)(S:Nat->Prop):Prop:=∀i o e,S i->ops[i]? =δ o->e∈o.after->Wz .any e=ι->S e.on
def Gt(ops:Array Oper)(i:Nat)(S:Nat->Prop):Prop:=∀o e,ops[i]? =δ o->e∈o.after->Wz .any e=ι->S e.on
theorem QL(acc:List Nat):∀(es:List Edge)(m j:Nat),(es.foldl (λs e=>bif Wz .any e then s ||| 2 ^ e.on ||| acc.getD e.on 0 else s) m).testBit j=ι->
  m.testBit j=ι\/∃e∈es,Wz .any e=ι/\(e.on=j\/(acc.getD e.on 0).testBit j=ι)
 |[],m,j,h=>.inl h
 |e::es,m,j,h=>by
  simp only[Zc]at h;rcases QL acc es _ j h with h|⟨e',he',hb,hx⟩
  ·cases hb:Wz .any e
   ·rw[hb]at h;exact .inl h
   ·rw[hb]at h;simp only[bg,Nat.testBit_or,Bool.or_eq_true]at h;rcases h with(h|h)|h
    ·exact .inl h
    ·refine .inr ⟨e,by simp,hb,.inl ?_⟩;rw[Nat.testBit_two_pow]at h;simpa using h
    ·exact .inr ⟨e,by simp,hb,.inr h⟩
  ·exact .inr ⟨e',by simp [he'],hb,hx⟩
theorem Qu:∀(l:List Oper)(acc:List Nat),(∀i,l[i]? =ops[acc.length+i]?)->
  (∀(m j:Nat),(acc.getD m 0).testBit j=ι->∀S,Down ops S->Gt ops m S->S j)->
  ∀(m j:Nat),((Gf l acc).getD m 0).testBit j=ι->∀S,Down ops S->Gt ops m S->S j
 |[],acc,hl,hacc=>hacc
 |o::l,acc,hl,hacc=>by
  simp only[Gf];refine Qu l _ (λi=>by have:=hl (i+1);simp at this;rw[this];simp;congr 1;omega) ?_;intro m j h S hS hD;have h0:=hl 0;simp at h0;by_cases hm:m<acc.length
  ·rw[Yn,fZ hm]at h;exact hacc m j h S hS hD
  ·by_cases hm2:m=acc.length
   ·subst hm2;rw[Yn,iH (bJ _)]at h;simp only[ama,Xw,Y6]at h;rcases QL acc _ _ j h with h|⟨e,he,hb,hx⟩
    ·simp at h
    ·have hon:S e.on:=hD o e h0.symm (by simpa using he) hb;rcases hx with hx|hx
     ·exact hx▸hon
     ·exact hacc e.on j hx S hS (λo' e' ho' he' hb'=>hS e.on o' e' hon ho' he' hb')
   ·rw[Yn,iH (by omega),iW (by simp;omega)]at h;simp at h
theorem Pn{Df:List Nat}:∀(l:List Oper)(i:Nat),(∀j,l[j]? =ops[i+j]?)->F0 X Rt Bt ops Df l i=ι->∀n o,i<=n->ops[n]? =δ o->∀m y,m<n->ops[m]? =δ y->(Df.getD n 0).testBit m=ι\/indep X Rt Bt ops y o=ι
 |[],i,hl,_,n,o,hn,ho,m,y,hm,hy=>by have:=hl (n-i);rw[show i+(n-i)=n by omega,ho]at this;simp at this
 |x::l,i,hl,h,n,o,hn,ho,m,y,hm,hy=>by
  simp only[F0,eF]at h;by_cases hni:n=i
  ·subst hni;have h0:=hl 0;simp at h0;rw[ho]at h0;injection h0 with h0;subst h0
   have:=iX.1 h.1 (y,m) (by
    rw[List.mem_zipIdx_iff_getElem?];simp only;rw[Wo hm,YT]
    exact hy)
   simpa using this
  ·exact Pn l (i+1) (λj=>by have:=hl (j+1);simp at this;rw[this];congr 1;omega) h.2 n o (by omega) ho m y hm hy
theorem PK:∀(l:List Oper)(i:Nat),(∀j,l[j]? =ops[i+j]?)->F5 l i=ι->∀n o e,i<=n->ops[n]? =δ o->e∈o.after->Wz .any e=ι->e.on<n
 |[],i,hl,_,n,o,e,hn,ho,he,hb=>by have:=hl (n-i);rw[show i+(n-i)=n by omega,ho]at this;simp at this
 |x::l,i,hl,h,n,o,e,hn,ho,he,hb=>by
  simp only[F5,eF]at h;by_cases hni:n=i
  ·subst hni;have h0:=hl 0;simp at h0;rw[ho]at h0;injection h0 with h0;subst h0
   have:=iX.1 h.1 e (by simpa using he);rw[hb]at this;simpa [Nat.blt_eq]using this
  ·exact PK l (i+1) (λj=>by have:=hl (j+1);simp at this;rw[this];congr 1;omega) h.2 n o e (by omega) ho he hb
def mN(listed:Array Bool)(n:Nat):List Nat:=(ami n).filter λi=>!listed.getD i ι
def uL(ops:Array Oper)(listed:Array Bool):List Oper:=(mN listed ops.size).filterMap (ops[·]?)
theorem Zu{listed:Array Bool}{n i:Nat}(hi:i<n)(hl:listed.getD i ι=θ)(hs:listed.size=n):
  ∃l1 l2,mN listed n=l1++i::l2/\mN (listed.setIfInBounds i ι) n=l1++l2/\∀j∈l1,j<i/\listed.getD j ι=θ:=by
 refine⟨(ami i).filter λj=>!listed.getD j ι,((al0 (i+1) (n-i-1))).filter λj=>!listed.getD j ι,?_,?_,λj hj=>?_⟩
 ·unfold mN
  rw[show ami n=ami i++i::al0 (i+1) (n-i-1) by
   rw[ZT,ZT,<-amB,show n-i-1+1=n-i by omega];have:=List.range'_append_1 (s:=0) (m:=i) (n:=n-i);rw[show 0+i=i by omega,show i+(n-i)=n by omega]at this
   exact this.symm]
  rw[ZE,Wy,hl];simp
 ·unfold mN
  rw[show ami n=ami i++i::al0 (i+1) (n-i-1) by
   rw[ZT,ZT,<-amB,show n-i-1+1=n-i by omega];have:=List.range'_append_1 (s:=0) (m:=i) (n:=n-i);rw[show 0+i=i by omega,show i+(n-i)=n by omega]at this
   exact this.symm]
  rw[ZE,Wy];have qg:(listed.setIfInBounds i ι).getD i ι=ι:=by simp [amh,hs,hi]
  rw[qg];simp only[Wq,X6,if_false];congr 1
  ·apply List.filter_congr;intro j hj;have:j<i:=by simpa using hj
   rw[jY,jY,XS (by omega)]
  ·apply List.filter_congr;intro j hj;have:i<j:=by simp at hj;omega
   rw[jY,jY,XS (by omega)]
 ·rw[Y2]at hj;exact⟨by simpa using hj.1,by simpa using hj.2⟩
end
end
section
open Go.RowKit
section
variable {X : Fx} {z : Z} {s : AS} {a : Act} {w w' : World} {E : List Pl} {pb : Nat -> Option Nat} {R : Type}
theorem FL(h:St X z s a w E pb){d:Nat}{av:AV}(yR:s.sl.getD d .undef=av)(h1:av≠.undef)(h2:∀cs,av≠.lbx cs):∃v,a.tmps[d]? =δ v/\a.tmps.getD d undef=v/\ak (ctx z w E pb) av v:=by
 by_cases hd:d<s.sl.length
 ·have e:s.sl[d]? =δ av:=by rw[cA hd];rw[<-yR];simp [Yn,hd]
  have r:=(h.slot d av e).rep h2;have hd':d<a.tmps.size:=by rw[h.len];exact hd
  exact⟨a.tmps.getD d undef,by simp [amh,hd'],rfl,r⟩
 ·exact absurd (by rw[<-yR];simp [Yn,Nat.le_of_not_lt hd]) h1
theorem adx(hs:ct X)(h:St X z s a w E pb){q:Bool}{ops:Array Oper}{i:Nat}{o:Oper}(hi:ops[i]? =δ o){k:AS->Option R}{r:R}(hk:jD X q ops o s k=δ r){K:Act->World->Prop}{Q:Exit->Act->World->Prop}
  (hK:∀s' a' w' E' bC,St X z s' a' w' E' bC->k s'=δ r->K a' w'):wpOp X.P ops Q i K a w:=by
 unfold wpOp;rw[hi];simp only;unfold jD at hk;cases hg:o.guard with
 |none=>rw[hg]at hk;rw[aC (by simp [ZK,hg])];exact .inl (SO hs h hk hK)
 |some jw=>
  obtain⟨j,want⟩:=jw;rw[hg]at hk;simp only at hk;cases hd:(ops[j]?).bind (·.dst)with
  |none=>rw[hd]at hk;cases hk
  |some d=>
   rw[hd]at hk;simp only at hk;cases hL:Ca X o d
   ·rw[hL]at hk;simp only[aS]at hk;have wk:ZK o (yielded ops a.tmps)=(yielded ops a.tmps j==δ want):=by simp [ZK,hg]
    have hy:yielded ops a.tmps j=match a.tmps[d]? with|some (.bool b)=>δ b|_=>η:=by simp only[yielded,hd,aL];rfl
    cases ou:AO X o with
    |some fa=>
     obtain⟨f,as'⟩:=fa;rw[ou]at hk;simp only at hk;obtain⟨rv,e1,e2⟩:=bl.1 hk;generalize jR:s.sl.getD d .undef=gv at e1;cases gv<;>simp only[μ]at e1<;>first|(cases e1;done)|skip
     case bool b=>
      obtain⟨v,v1,v2,v3⟩:=FL h jR (by intro e;cases e) (by intro cs e;cases e);simp only[ak]at v3;subst v3;cases sD:(b==want)
      ·rw[sD]at e1;simp only[aS]at e1;injection e1 with e1;subst e1
       have hw:¬ZK o (yielded ops a.tmps)=ι:=by rw[wk,hy,v1];simp at sD ⊢;exact sD
       rw[aB hw];exact hK _ _ _ _ _ (h.undef o.dst) e2
      ·rw[sD]at e1;simp only[bg]at e1;have GB:b=want:=by simpa using sD
       have hw:ZK o (yielded ops a.tmps)=ι:=by rw[wk,hy,v1];simp [GB]
       rw[aC hw];exact .inl (SO (q:=q) hs h (by rw[JJ ou,e1];exact e2) hK)
     case aN vs=>
      cases vs with
      |cons x xs=>cases e1
      |nil=>
       injection e1 with e1;subst e1
       obtain⟨v,v1,v2,v3⟩:=FL h jR (by intro e;cases e) (by intro cs e;cases e);simp only[ak]at v3;obtain⟨us,rfl,_⟩:=v3;have hw:¬ZK o (yielded ops a.tmps)=ι:=by rw[wk,hy,v1];simp
       rw[aB hw];exact hK _ _ _ _ _ (h.undef o.dst) e2
    |none=>
    rw[ou]at hk;simp only at hk;cases hp:gB X o s (δ (d,want))with
    |some p=>
     obtain⟨b,rr⟩:=p;rw[hp]at hk;simp only at hk;obtain⟨off,e1,e2⟩:=bl.1 hk;subst e1;by_cases hw:ZK o (yielded ops a.tmps)=ι
     ·rw[aC hw]
      have ht:mK a (δ (d,want)):=by
       rw[wk,hy]at hw;simp only[mK];split at hw
       ·rename_i b' hb';simp at hw;subst hw;rw[jY,hb'];rfl
       ·simp at hw
      obtain⟨n,k1,k2⟩:=SR h ht hp;exact .inl (mE k2 (hK _ _ _ _ _ (h.Lm o.dst (λ_=>⟨n,k1,rfl⟩)) e2))
     ·rw[aB hw];refine hK _ _ _ _ _ (h.Lm o.dst (λht=>absurd ?_ hw)) e2;rw[wk,hy];simp only[mK]at ht;rw[jY]at ht;cases hc:a.tmps[d]? with
      |none=>rw[hc]at ht;simp [undef]at ht
      |some v=>rw[hc]at ht;simp at ht;subst ht;simp
    |none=>
     rw[hp]at hk;simp only at hk;obtain⟨av,e1,e2⟩:=bl.1 hk;generalize jR:s.sl.getD d .undef=gv at e1;cases gv<;>simp only[μ]at e1<;>first|(cases e1;done)|skip
     case bool b=>
      obtain⟨v,v1,v2,v3⟩:=FL h jR (by intro e;cases e) (by intro cs e;cases e);simp only[ak]at v3;subst v3;cases sD:(b==want)
      ·rw[sD]at e1;simp only[aS]at e1;injection e1 with e1;subst e1
       have hw:¬ZK o (yielded ops a.tmps)=ι:=by rw[wk,hy,v1];simp at sD ⊢;exact sD
       rw[aB hw];exact hK _ _ _ _ _ (h.undef o.dst) e2
      ·rw[sD]at e1;simp only[bg]at e1;have GB:b=want:=by simpa using sD
       have hw:ZK o (yielded ops a.tmps)=ι:=by rw[wk,hy,v1];simp [GB]
       rw[aC hw];have ht:mK a (δ (d,want)):=by simp only[mK];rw[v2,GB]
       exact .inl (SS hs h ht e1 λv w' E' h3 h4=>hK _ _ _ _ _ (h3.put o.dst h4) e2)
     case aN vs=>
      cases vs with
      |cons x xs=>cases e1
      |nil=>
       injection e1 with e1;subst e1
       obtain⟨v,v1,v2,v3⟩:=FL h jR (by intro e;cases e) (by intro cs e;cases e);simp only[ak]at v3;obtain⟨us,rfl,_⟩:=v3;have hw:¬ZK o (yielded ops a.tmps)=ι:=by rw[wk,hy,v1];simp
       rw[aB hw];exact hK _ _ _ _ _ (h.undef o.dst) e2
   ·rw[hL]at hk;cases hk
def Fr(X:Fx)(ds:List Nat)(s s':AS):Prop:=∀i,i∉ds->X.L.contains i=θ->s'.sl[i]? =s.sl[i]?
theorem Fr.refl(ds:List Nat)(s:AS):Fr X ds s s:=λ_ _ _=>rfl
theorem Fr.trans{d1 d2:List Nat}{s s' s'':AS}(h:Fr X d1 s s')(k:Fr X d2 s' s''):Fr X (d1++d2) s s'':=λi hi hL=>by rw[eG]at hi;exact(k i (λe=>hi (.inr e)) hL).trans (h i (λe=>hi (.inl e)) hL)
theorem Fr.mono{d1 d2:List Nat}{s s':AS}(h:Fr X d1 s s')(k:∀i∈d1,i∈d2):Fr X d2 s s':=λi hi hL=>h i (λe=>hi (k i e)) hL
theorem Fr.put(d:Option Nat)(v:AV)(s:AS):Fr X d.toList s (s.put X d v):=λi hi hL=>by
 cases d with
 |none=>rfl
 |some d=>simp only[alQ];rw[fO,aB];intro e;subst e;simp at hi
theorem Fr.jy(d:Option Nat)(b off:Nat)(tag:Option (Nat×Bool))(s:AS):Fr X d.toList s (s.jy X d b off tag):=λi hi hL=>by
 cases d with
 |none=>rfl
 |some d=>simp only[AS.jy];rw[fO,aB];intro e;subst e;simp at hi
theorem Fr.kQ(d:Nat)(cs:List AV)(s:AS):Fr X [d] s (s.kQ d cs):=λi hi hL=>by simp only[AS.kQ];rw[fO,aB];intro e;subst e;simp at hi
theorem Fr.lN(d:Option Nat)(v:AV)(σ:Heap)(s:AS):Fr X d.toList s ((s.heap σ).put X d v):=λi hi hL=>by
 cases d with
 |none=>rfl
 |some d=>simp only[alQ,AS.heap];rw[fO,aB];intro e;subst e;simp at hi
theorem Fr.acY(d:Option Nat)(v:AV)(b:Nat)(cs:List AV)(hb:X.L.contains b=ι)(s:AS):Fr X d.toList s ((⟨s.sl.set b (.lbx cs),s.A,s.σ⟩:AS).put X d v):=λi hi hL=>by
 have Vx:b≠i:=λe=>by rw[e,hL]at hb;cases hb
 cases d with
 |none=>simp only[alQ];rw[fO,aB Vx]
 |some d=>simp only[alQ];rw[fO,aB,fO,aB Vx];intro e;subst e;simp at hi
theorem aco{tag:Option (Nat×Bool)}{x:Operand}{b off:Nat}(h:place X s tag x=δ (b,off)):X.L.contains b=ι:=by
 cases x with
 |tmp t=>
  simp only[place]at h;cases hL:X.L.contains t
  ·rw[hL]at h;simp only[aS]at h;split at h
   ·rename_i p hA;cases hp:X.L.contains p.slot
    ·rw[hp]at h;cases h
    ·rw[hp]at h;simp only[bg]at h;split at h
     ·simp only[ξ,Δ]at h;rw[<-h.1];exact hp
     ·rename_i g hg;cases ht:(tag==δ g)
      ·rw[ht]at h;cases h
      ·rw[ht]at h;simp only[bg,ξ,Δ]at h;rw[<-h.1];exact hp
   ·cases h
  ·rw[hL]at h;simp only[bg,ξ,Δ]at h;rw[<-h.1];exact hL
 |_=>simp [place]at h
theorem bind_congr{α β:Type}{x:Option α}{f g:α->Option β}(h:∀a,x=δ a->f a=g a):x.bind f=x.bind g:=by cases x with|none=>rfl|some a=>exact h a rfl
theorem Y4{x:AV}{σ:Heap}{f g:Nat->Heap->Option R}(h:∀n σ,f n σ=g n σ):A.wB x σ f=A.wB x σ g:=by
 have:f=g:=funext λn=>funext λσ=>h n σ
 rw[this]
theorem akW{x:AV}{σ:Heap}{f g:AV->Heap->Option R}(h:∀v σ,f v σ=g v σ):A.wm x σ f=A.wm x σ g:=by
 have:f=g:=funext λn=>funext λσ=>h n σ
 rw[this]
theorem aku{q str:Bool}{i:Operand}{dst:Option Nat}{k k2:AS->Option R}(h:∀s',Fr X dst.toList s s'->k s'=k2 s'):
  (bif q||str then η else A.wm (ev X s i) s.σ λv σ=>k ((s.heap σ).put X dst v))=(bif q||str then η else A.wm (ev X s i) s.σ λv σ=>k2 ((s.heap σ).put X dst v)):=by
 cases(q||str)
 ·simp only[aS];exact akW λ_ _=>h _ (Fr.lN _ _ _ _)
 ·rfl
theorem aab{q:Bool}{o:Oper}{k k2:AS->Option R}(h:∀s',Fr X o.dst.toList s s'->k s'=k2 s'):ey X q o s k=ey X q o s k2:=by
 unfold ey;cases hp:gB X o s η with
 |some p=>obtain⟨b,rr⟩:=p;exact bind_congr λp _=>h _ (Fr.jy _ _ _ _ _)
 |none=>
  simp only;have dflt:((dN X o s η).bind λv=>k (s.put X o.dst v))=(dN X o s η).bind λv=>k2 (s.put X o.dst v):=bind_congr λv _=>h _ (Fr.put _ _ _)
  obtain⟨dst,op,ty,pos,af,g⟩:=o;cases op<;>simp only<;>first|exact aku h|exact dflt|skip
  case alloc t=>
   cases dst with
   |none=>rfl
   |some d=>
    simp only;cases X.L.contains d
    ·simp only[aS];cases X.O.contains d
     ·exact dflt
     ·simp only[bg];split
      ·exact h _ (Fr.lN _ _ _ _)
      ·rfl
    ·simp only[bg];split
     ·exact h _ (Fr.kQ _ _ _)
     ·rfl
  case box t x=>
   cases dst with
   |none=>rfl
   |some d=>
    simp only;cases X.L.contains d
    ·simp only[aS];cases X.O.contains d
     ·exact dflt
     ·exact bind_congr λcs _=>h _ (Fr.lN _ _ _ _)
    ·exact bind_congr λcs _=>h _ (Fr.kQ _ _ _)
  case store t x v=>
   split
   ·rename_i b off hpl;exact bind_congr λ_ _=>bind_congr λ_ _=>bind_congr λ_ _=>h _ (Fr.acY _ _ _ _ (aco hpl) _)
   ·exact bind_congr λ_ _=>bind_congr λ_ _=>h _ (Fr.lN _ _ _ _)
  case makeMap t rr=>
   cases rr with
   |none=>exact h _ (Fr.lN _ _ _ _)
   |some x=>rfl
  case range t x=>
   split
   ·exact bind_congr λ_ _=>h _ (Fr.lN _ _ _ _)
   ·rfl
  case buildSlice t n ps=>
   cases dst with
   |none=>exact dflt
   |some d=>
    simp only;cases X.O.contains d
    ·exact dflt
    ·simp only[bg];refine bind_congr λv _=>?_
     unfold A.wJ;split
     ·cases(Xg _==0)
      ·exact h _ (Fr.lN _ _ _ _)
      ·rfl
     ·rfl
  case mapUpdate t m i v=>
   split
   ·split
    ·exact bind_congr λ_ _=>h _ (Fr.lN _ _ _ _)
    ·rfl
   ·rfl
  case call c=>
   split
   ·split
    ·split
     ·split
      ·cases jH _
       ·exact bind_congr λ_ _=>h _ (Fr.lN _ _ _ _)
       ·rfl
      ·rfl
     ·split
      ·cases jH _
       ·exact bind_congr λ_ _=>h _ (Fr.lN _ _ _ _)
       ·rfl
      ·rfl
     ·rfl
    ·rfl
   ·split
    ·split
     ·split
      ·cases jH _
       ·exact bind_congr λ_ _=>h _ (Fr.lN _ _ _ _)
       ·rfl
      ·rfl
     ·rfl
    ·rfl
   ·cases hv:dN X _ s η
    ·simp only[A.tD];cases q
     ·simp only[aS];split
      ·split
       ·exact Y4 λ_ _=>h _ (Fr.lN _ _ _ _)
       ·rfl
      ·rfl
     ·rfl
    ·exact h _ (Fr.put _ _ _)
   ·split
    ·split
     ·split
      ·cases jH _
       ·exact bind_congr λ_ _=>h _ (Fr.lN _ _ _ _)
       ·rfl
      ·rfl
     ·rfl
    ·rfl
   ·split
    ·split
     ·split
      ·exact bind_congr λ_ _=>h _ (Fr.lN _ _ _ _)
      ·rfl
     ·rfl
    ·rfl
   ·exact dflt
   ·cases(q&&!X.W.contains _)
    ·exact bind_congr λ_ _=>h _ (Fr.lN _ _ _ _)
    ·exact dflt
   ·cases q
    ·exact bind_congr λ_ _=>h _ (Fr.lN _ _ _ _)
    ·exact dflt
   ·rfl
theorem aac{q:Bool}{ops:Array Oper}{o:Oper}{k k2:AS->Option R}(h:∀s',Fr X o.dst.toList s s'->k s'=k2 s'):jD X q ops o s k=jD X q ops o s k2:=by
 unfold jD;split
 ·exact aab h
 ·split
  ·cases Ca X o _
   ·simp only[aS];split
    ·exact bind_congr λ_ _=>h _ (Fr.lN _ _ _ _)
    ·split
     ·exact bind_congr λ_ _=>h _ (Fr.jy _ _ _ _ _)
     ·exact bind_congr λ_ _=>h _ (Fr.put _ _ _)
   ·rfl
  ·rfl
theorem RQ(hs:ct X)(h:St X z s a w E pb){q:Bool}{ops:Array Oper}{i:Nat}{o:Oper}(hi:ops[i]? =δ o){k:AS->Option R}{r:R}(hk:jD X q ops o s k=δ r){K:Act->World->Prop}{Q:Exit->Act->World->Prop}
  (hK:∀s' a' w' E' bC,St X z s' a' w' E' bC->Fr X o.dst.toList s s'->k s'=δ r->K a' w'):wpOp X.P ops Q i K a w:=by
 classical
 have e:jD X q ops o s k=jD X q ops o s (λs'=>if Fr X o.dst.toList s s' then k s' else η):=aac λs' hf=>by rw[aC hf]
 rw[e]at hk;refine adx hs h hi hk λs' a' w' E' bC h' hk'=>?_
 split at hk'
 ·exact hK s' a' w' E' bC h' (by assumption) hk'
 ·cases hk'
theorem RT(hs:ct X){q:Bool}{ops:Array Oper}{Q:Exit->Act->World->Prop}{r:R}{k:AS->Option R}{s0:AS}:
  ∀(l:List Oper)(i:Nat)(s:AS)(a:Act)(w:World)(E:List Pl)(pb:Nat->Option Nat),(∀j,l[j]? =ops[i+j]?)->St X z s a w E pb->oR X q ops l s k=δ r->
   (∀s' a' w' E' bC,St X z s' a' w' E' bC->Fr X (l.filterMap (·.dst)) s s'->k s'=δ r->Q .normal a' w')->wpOps X.P ops Q (al0 i l.length) a w
 |[],i,s,a,w,E,pb,_,h,hk,hQ=>by simpa [wpOps]using hQ _ _ _ _ _ h (Fr.refl _ _) hk
 |o::l,i,s,a,w,E,pb,hl,h,hk,hQ=>by
  have h0:=hl 0;simp at h0;simp only[b9,amB];rw[wpOps_cons];refine RQ hs h h0.symm hk λs' a' w' E' bC h' hf hk'=>?_
  refine RT hs (s0:=s0) l (i+1) s' a' w' E' bC (λj=>by have:=hl (j+1);simp at this;rw[this];congr 1;omega) h' hk' λs2 a2 w2 E2 NN h2 qV hk2=>hQ s2 a2 w2 E2 NN h2 ((hf.trans qV).mono ?_) hk2
  intro j hj;rw[amb];cases hd:o.dst with
  |none=>rw[hd]at hj;simpa using hj
  |some d=>rw[hd]at hj;simpa using hj
theorem acj(hs:ct X){Rt:List (Nat×Nat)}{Bt:List Nat}(h:St X z s a w E pb)(hI:RI X Rt Bt s){ops:Array Oper}{i:Nat}{o:Oper}(hR:qi X Rt Bt o)(hi:ops[i]? =δ o){k:AS->Option R}{r:R}(hk:jD X ι ops o s k=δ r){K:Act->World->Prop}{Q:Exit->Act->World->Prop}
  (hK:∀s' a' w' E' bC,St X z s' a' w' E' bC->Fr X o.dst.toList s s'->RI X Rt Bt s'->k s'=δ r->K a' w'):wpOp X.P ops Q i K a w:=by
 classical
 have e:jD X ι ops o s (λs'=>if RI X Rt Bt s' then k s' else η)=δ r:=by obtain⟨u,h1,h2,h3⟩:=Kt hR hI hk;rw[h3 R _ s (λtag _=>⟨hI,hI,λ_ _ _=>rfl,λ_ _=>rfl,λ_ _=>rfl,λ_ _=>rfl,λ_ _=>xB _⟩),aC (h1.ri hI)];exact h2
 refine RQ hs h hi e λs' a' w' E' bC h' hf hk'=>?_
 split at hk'
 ·exact hK s' a' w' E' bC h' hf (by assumption) hk'
 ·cases hk'
theorem aaK(hs:ct X){Rt:List (Nat×Nat)}{Bt:List Nat}{ops:Array Oper}{Q:Exit->Act->World->Prop}{r:R}{k:AS->Option R}{s0:AS}(KP:∀n o e,ops[n]? =δ o->e∈o.after->Wz .any e=ι->e.on<n)
  (ael:∀n o m y,ops[n]? =δ o->m<n->ops[m]? =δ y->(∀S,Down ops S->Gt ops n S->S m)\/tL X Rt Bt ops y o) (LF:∀(n:Nat)(o:Oper),ops[n]? =δ o->qi X Rt Bt o)
  (hQ:∀s' a' w' E' bC,St X z s' a' w' E' bC->Fr X (ops.toList.filterMap (·.dst)) s0 s'->k s'=δ r->Q .normal a' w'):
  ∀(fuel:Nat)(listed:Array Bool)(s:AS)(a:Act)(w:World)(E:List Pl)(pb:Nat->Option Nat),listed.size=ops.size->(mN listed ops.size).length<=fuel->Down ops (λi=>listed.getD i ι=ι)->St X z s a w E pb->RI X Rt Bt s->oR X ι ops (uL ops listed) s k=δ r->Fr X (ops.toList.filterMap (·.dst)) s0 s->
   wpAny X.P .any ops Q fuel listed a w:=by
 have hnone:∀(listed:Array Bool),mN listed ops.size=[]->Zp .any ops listed=[]:=by intro listed h;unfold Zp;rw[List.filter_eq_nil_iff];intro i hi hr;simp only[eF]at hr;have:i∈mN listed ops.size:=Y2.2 ⟨hi,hr.1⟩;rw[h]at this;simp at this
 have hsome:∀(listed:Array Bool),listed.size=ops.size->Zp .any ops listed=[]->mN listed ops.size=[]:=by
  intro listed hsz hr;cases sw:mN listed ops.size with
  |nil=>rfl
  |cons i0 tl=>
   exfalso;have hm:i0∈mN listed ops.size:=by rw[sw];simp
   obtain⟨h1,h2⟩:=Y2.1 hm;have hlt:i0<ops.size:=by simpa using h1
   have VG:(mN listed ops.size).Pairwise (·<·):=List.Pairwise.filter _ List.pairwise_lt_range;rw[sw,List.pairwise_cons]at VG
   have hall:∀j,j<i0->listed.getD j ι=ι:=by
    intro j hj;cases hc:listed.getD j ι with
    |true=>rfl
    |false=>
     have:j∈mN listed ops.size:=Y2.2 ⟨by simp;omega,by simp [hc]⟩;rw[sw]at this;rcases eo.1 this with e|e
     ·omega
     ·have:=VG.1 j e;omega
   have:i0∈Zp .any ops listed:=by
    unfold Zp;refine Y2.2 ⟨h1,?_⟩;rw[eF];refine⟨h2,?_⟩;rw[rY hlt];simp only[dL,Y6];rw[amp];intro e he;cases hb:Wz .any e with
    |false=>rfl
    |true=>have hon:=KP i0 _ e (rY hlt) he hb;have:=hall e.on hon;rw[jY,rY (by omega)]at this;simp only[Y6]at this;rw[jY,rY (by omega)];simp [this]
   rw[hr]at this;simp at this
 intro fuel;induction fuel with
 |zero=>intro listed s a w E pb hsz hle hdn h hI hk hf;have sw:mN listed ops.size=[]:=uG (by omega);refine⟨hnone listed sw,hQ s a w E pb h hf ?_⟩;simpa [uL,sw,oR]using hk
 |succ fuel ih=>
  intro listed s a w E pb hsz hle hdn h hI hk hf;refine⟨λhr=>hQ s a w E pb h hf (by simpa [uL,hsome listed hsz hr,oR]using hk),λi hi=>?_⟩;unfold Zp at hi;obtain⟨h1,h2⟩:=Y2.1 hi;rw[eF]at h2;obtain⟨h2,h3⟩:=h2;have hlt:i<ops.size:=by simpa using h1
  have hun:listed.getD i ι=θ:=by simpa using h2
  have ho:ops[i]? =δ ops[i]:=rY hlt
  have Tt:Gt ops i (λj=>listed.getD j ι=ι):=by intro o e VE he hb;rw[VE]at h3;simp only[dL,Y6]at h3;rw[amp]at h3;have h4:=h3 e he;rw[hb]at h4;simp only[Wq,Bool.false_or]at h4;have hon:=KP i o e VE he hb;rw[jY,rY (by omega)]at h4;simp only[Y6]at h4;show listed.getD e.on ι=ι;rw[jY,rY (by omega)];simpa using h4
  obtain⟨l1,l2,e1,e2,e3⟩:=Zu hlt hun hsz
  have sw:uL ops listed=l1.filterMap (ops[·]?)++ops[i]::l2.filterMap (ops[·]?):=by unfold uL;rw[e1,List.filterMap_append,amb,ho]
  have aen:uL ops (listed.setIfInBounds i ι)=l1.filterMap (ops[·]?)++l2.filterMap (ops[·]?):=by unfold uL;rw[e2,List.filterMap_append]
  rw[sw]at hk
  have af3:∀y∈l1.filterMap (ops[·]?),qi X Rt Bt y:=by intro y hy;obtain⟨j,hj,Np⟩:=Xo.1 hy;exact LF j y Np
  have afX:∀y∈l1.filterMap (ops[·]?),tL X Rt Bt ops y ops[i]:=by
   intro y hy;obtain⟨j,hj,Np⟩:=Xo.1 hy;obtain⟨j1,j2⟩:=e3 j hj;rcases ael i ops[i] j y ho j1 Np with k1|k1
   ·have:=k1 _ hdn Tt;rw[j2]at this;cases this
   ·exact k1
  have ac9:=Qc (LF i _ ho) _ _ s hI af3 afX hk;refine acj hs h hI (LF i _ ho) ho ac9 λs' a' w' E' bC h' hf' Na hk'=>?_
  rw[<-aen]at hk';refine ih _ s' a' w' E' bC (by simpa using hsz) ?_ ?_ h' Na hk' ((hf.trans hf').mono ?_)
  ·rw[e2];rw[e1]at hle;simp at hle ⊢;omega
  ·intro j o e hj uZ he hb;by_cases hji:j=i
   ·subst hji;have:=Tt o e uZ he hb;show(listed.setIfInBounds j ι).getD e.on ι=ι;have hon:=KP j o e uZ he hb;rw[jY,XS (by omega),<-jY];exact this
   ·have hj':listed.getD j ι=ι:=by replace hj:(listed.setIfInBounds i ι).getD j ι=ι:=hj;rw[jY,XS (λe=>hji e.symm),<-jY]at hj;exact hj
    have:=hdn j o e hj' uZ he hb;show(listed.setIfInBounds i ι).getD e.on ι=ι;by_cases Vy:e.on=i
    ·rw[Vy];simp [amh,hsz,hlt]
    ·rw[jY,XS (λe'=>Vy e'.symm),<-jY];exact this
  ·intro d hd;rcases eG.1 hd with hd|hd
   ·exact hd
   ·refine Xo.2 ⟨ops[i],by simp,?_⟩;cases pq:ops[i].dst with
    |none=>rw[pq]at hd;simp at hd
    |some d'=>rw[pq]at hd;simp at hd;rw[hd]
theorem Jb{t b:Nat}:∀{l:List (Nat×Nat)},l.lookup t=δ b->(t,b)∈l
 |[],h=>by cases h
 |(t',b')::l,h=>by
  simp only[List.lookup]at h;cases hc:(t==t')
  ·rw[hc]at h;exact iB _ (Jb h)
  ·rw[hc]at h;simp only[ξ]at h;have:t=t':=by simpa using hc
   subst this;subst h;exact u0
theorem abN(hs:ct X){ops:Array Oper}{Q:Exit->Act->World->Prop}{r:R}{k:AS->Option R}(hok:Cg X ops s.sl=ι)(hA:∀t,s.A t=η)(hQ:∀s' a' w' E' bC,St X z s' a' w' E' bC->Fr X (ops.toList.filterMap (·.dst)) s s'->k s'=δ r->Q .normal a' w'){id:Nat}
  (h:St X z s a w E pb) (hk:oR X ι ops ops.toList s k=δ r):(Code.region id ops ι).wp X.P Q a w:=by
 obtain⟨Rt,Bt,hok⟩:∃Rt Bt,Ft X Rt Bt ops s.sl=ι:=by
  unfold Cg at hok;rcases Bool.or_eq_true_iff.1 hok with h|h
  ·exact⟨_,_,h⟩
  ·exact⟨_,_,h⟩
 unfold Ft at hok;simp only[eF]at hok;obtain⟨⟨⟨⟨⟨⟨⟨h1,h2⟩,h3⟩,h4⟩,h5⟩,h6⟩,h7⟩,h8⟩:=hok
 have hI:RI X Rt Bt s:=by
  refine⟨λt b hl=>?_,λt p hp=>(by rw[hA t]at hp;cases hp),λt b hl _=>?_,λt ht=>iX.1 h8 t (by simpa using ht)⟩
  ·have:=iX.1 h6 (t,b) (Jb hl);exact this
  ·have:=iX.1 h5 (t,b) (Jb hl);exact this
 have Tv:∀j,ops.toList[j]? =ops[0+j]? :=λj=>by simp
 have sw:mN (YV ops.size θ) ops.size=ami ops.size:=by
  unfold mN;rw[al7];intro i hi;have:i<ops.size:=by simpa using hi
  simp [amh,this]
 have aeo:uL ops (YV ops.size θ)=ops.toList:=by
  unfold uL;rw[sw]
  have gen:∀(l pre:List Oper),(al0 pre.length l.length).filterMap (λi=>(pre++l)[i]?)=l:=by
   intro l;induction l with
   |nil=>intro pre;rfl
   |cons x l ih=>intro pre;simp only[b9,amB,amb];rw[iH (bJ _)];simp only[ama,Xw];have:=ih (pre++[x]);simp only[Λ,b9,Zk,Gs,nR,iI,Xk]at this;rw[this]
  have:=gen ops.toList [];rw[ZT];simpa using this
 refine wp_region_any h1 (aaK (s0:=s) hs (λn o e ho he hb=>PK ops.toList 0 Tv h2 n o e (jK _) ho he hb) (λn o m y ho hm hy=>?_) (λn o ho=>qi.of (iX.1 h4 o (by have:=Array.mem_of_getElem? ho;simpa using this)) (iX.1 h7 o (by have:=Array.mem_of_getElem? ho;simpa using this))) hQ ops.size _ s a _ E pb (by simp) (by rw[sw];simp) ?_ (h.grow (w':=w.drew) ((Below.refl _ _).drew)) hI (by rw[aeo];exact hk) (Fr.refl _ _))
 ·rcases Pn ops.toList 0 Tv h3 n o (jK _) ho m y hm hy with k1|k1
  ·left;exact λS hS hD=>Qu ops.toList [] (λi=>by simp) (λm j h=>by simp at h) n m k1 S hS hD
  ·exact .inr (aly k1)
 ·intro i o e hi ho he hb;have hlt:i<ops.size:=(tu.1 ho).1;exfalso;simp [amh,hlt]at hi
theorem St.NI(h:St X z s a w E pb):St X z ⟨s.sl,λ_=>η,s.σ⟩ a w E pb:=
 ⟨h.len,h.mM,h.slot,h.box,(λt p hp=>by cases hp),h.priv,h.inj,h.heap,h.defers,h.out,h.nm⟩
def AX.to:AX->Exit
 |.normal=>.normal
 |.exit i=>.exit i
 |.ret=>.ret
theorem EU:∀(ds:List Nat)(sl:List AV)(i:Nat),(rI sl ds).length=sl.length/\((rI sl ds)[i]? =sl[i]? \/(rI sl ds)[i]? =δ .undef)/\(i∉ds->(rI sl ds)[i]? =sl[i]?)/\(i∈ds->i<sl.length->(rI sl ds)[i]? =δ .undef)
 |[],sl,i=>⟨rfl,.inl rfl,λ_=>rfl,λh=>by simp at h⟩
 |d::ds,sl,i=>by
  obtain⟨h1,h2,h3,h4⟩:=EU ds (sl.set d .undef) i;simp only[rI]
  have qg:(sl.set d .undef)[i]? =if d=i then(if i<sl.length then δ .undef else η)else sl[i]? :=by
   rw[fO];by_cases e:d=i
   ·subst e;simp
   ·simp [e]
  have hnone:¬i<sl.length->sl[i]? =η:=λk=>iW (by omega)
  refine⟨by rw[h1];simp,?_,λhi=>?_,λhi hl=>?_⟩
  ·rcases h2 with h2|h2
   ·rw[h2,qg];by_cases e:d=i
    ·rw[aC e];split
     ·exact .inr rfl
     ·rename_i k;rw[hnone k];exact .inl rfl
    ·rw[aB e];exact .inl rfl
   ·exact .inr h2
  ·simp only[eo,not_or]at hi;rw[h3 hi.2,qg,aB (λe=>hi.1 e.symm)]
  ·by_cases hm:i∈ds
   ·exact h4 hm (by simpa using hl)
   ·simp only[eo]at hi;have:i=d:=hi.resolve_right hm;rw[h3 hm,qg,aC this.symm,aC hl]
theorem Ff(vs:List AV):∀(live:List Nat)(j:Nat)(sl:List AV)(i:Nat),(AK vs sl live j).length=sl.length/\(i∉live->(AK vs sl live j)[i]? =sl[i]?)/\(i∈live->i<sl.length->∃n,n<live.length/\live[n]? =δ i/\(AK vs sl live j)[i]? =δ (vs.getD (j+n) .undef))
 |[],j,sl,i=>⟨rfl,λ_=>rfl,λh=>by simp at h⟩
 |d::live,j,sl,i=>by
  obtain⟨h1,h2,h3⟩:=Ff vs live (j+1) (sl.set d (vs.getD j .undef)) i;simp only[AK];refine⟨by rw[h1];simp,λhi=>?_,λhi hl=>?_⟩
  ·simp only[eo,not_or]at hi;rw[h2 hi.2,fO,aB (λe=>hi.1 e.symm)]
  ·by_cases hm:i∈live
   ·obtain⟨n,k1,k2,k3⟩:=h3 hm (by simpa using hl);exact⟨n+1,by simp;omega,by simpa using k2,by rw[k3];congr 2;omega⟩
   ·simp only[eo]at hi;have:i=d:=hi.resolve_right hm;subst this;exact⟨0,by simp,rfl,by rw[h2 hm,fO];simp [hl]⟩
theorem St.meet{s s':AS}(h:St X z s' a w E pb){mods live:List Nat}(hl:s.sl.length=s'.sl.length)(hf:∀i,i∉mods->s'.sl[i]? =s.sl[i]?):St X z (s.meet mods live (vals s'.sl live) s'.σ) a w E pb:=by
 have gu:∀i:Nat,(s.meet mods live (vals s'.sl live) s'.σ).sl[i]? =s'.sl[i]? \/(s.meet mods live (vals s'.sl live) s'.σ).sl[i]? =δ AV.undef:=by
  intro i;simp only[AS.meet];obtain⟨c1,c2,c3,c4⟩:=EU mods s.sl i;obtain⟨m1,m2,m3⟩:=Ff (vals s'.sl live) live 0 (rI s.sl mods) i;by_cases hm:i∈live
  ·by_cases hlt:i<s.sl.length
   ·obtain⟨n,k1,k2,k3⟩:=m3 hm (by rw[c1];exact hlt);left;rw[k3,Gs]
    have:(vals s'.sl live).getD n .undef=s'.sl.getD i .undef:=by simp only[vals,Yn,wu,k2];rfl
    rw[this,cA (by omega)];simp [Yn,show i<s'.sl.length by omega]
   ·left;rw[iW (by rw[m1,c1];omega),iW (by omega)]
  ·rw[m2 hm];by_cases hd:i∈mods
   ·by_cases hlt:i<s.sl.length
    ·exact .inr (c4 hd hlt)
    ·left;rw[iW (by rw[c1];omega),iW (by omega)]
   ·left;rw[c3 hd,hf i hd]
 have hlen:(s.meet mods live (vals s'.sl live) s'.σ).sl.length=s'.sl.length:=by simp only[AS.meet];rw[(Ff (vals s'.sl live) live 0 (rI s.sl mods) 0).1,(EU mods s.sl 0).1];exact hl
 refine⟨by rw[h.len,hlen],by rw[hlen,h.mM],λi av hi=>?_,λi cs hi=>?_,(λt p hp=>by cases hp),h.priv,h.inj,h.heap,h.defers,h.out,h.nm⟩
 ·rcases gu i with e|e
  ·rw[e]at hi;exact h.slot i av hi
  ·rw[e]at hi;injection hi with hi;subst hi;trivial
 ·rcases gu i with e|e
  ·rw[e]at hi;exact h.box i cs hi
  ·rw[e]at hi;cases hi
end
end
open Fr renaming refl->amG
section
open Go.RowKit
section
variable {X : Fx} {z : Z}
theorem force_eq{R:Type}:∀(l:List AV)(k:List AV->Option R),force l k=k l
 |[],k=>rfl
 |x::l,k=>by simp only[force];rw[force_eq l]
theorem RU{R:Type}{q:Bool}{ops:Array Oper}:∀(l:List Oper)(s:AS)(k:AS->Option R),CU X q ops l s k=oR X q ops l s k
 |[],s,k=>rfl
 |o::l,s,k=>by simp only[CU,oR];congr 1;funext s;rw[force_eq];exact RU l _ k
theorem PO{α:Type}{c:AV}{t e:Option α}{r:α}(h:χ c t e=δ r):(c=.bool ι/\t=δ r)\/(c=.bool θ/\e=δ r):=by
 cases c<;>simp only[χ]at h<;>first|(cases h;done)|skip
 rename_i b;cases b
 ·exact .inr ⟨rfl,h⟩
 ·exact .inl ⟨rfl,h⟩
theorem akx{f:List AV->Heap->Option (AX×List AV×Heap)}{v:List AV}{σ:Heap}{r:AX×List AV×Heap}(h:s9 f v σ=δ r):∃n,XX f n v σ=δ r:=by
 unfold s9 at h;split at h
 ·rename_i hx;injection h with h
  exact⟨_,h▸Yl (Yl hx)⟩
 ·cases h
theorem alb{R:Type}{f:List AV->Heap->(AX×List AV×Heap->Option R)->Option R}{v:List AV}{σ:Heap}{K:AX×List AV×Heap->Option R}{r:R}(h:A.KX f v σ K=δ r):∃n,A.CA f n v σ K=δ r:=by
 unfold A.KX at h;split at h
 ·rename_i hx;injection h with h
  obtain⟨n,hn⟩:=Yl hx;exact⟨n,h▸hn n (bJ _)⟩
 ·cases h
theorem FK{R:Type}{e:AX}{k:AX->Option R}{r:R}:∀{xs:List AX},A.sel e k xs=δ r->k e=δ r
 |[],h=>by cases h
 |x::xs,h=>by
  simp only[A.sel]at h;cases he:(e==x)
  ·rw[he]at h;exact FK h
  ·rw[he]at h;have:e=x:=by simpa using he
   subst this;exact h
theorem Au{X:Fx}{c:Code}{ds:List Nat}{s s':AS}(h:Fr X ds s s'):∀i,i∉ds++X.L->s'.sl[i]? =s.sl[i]? :=λi hi=>by
 rw[eG]at hi
 exact h i (λe=>hi (.inl e)) (by
  cases hc:X.L.contains i
  ·rfl
  ·exact absurd (al1.1 hc) (λe=>hi (.inr e)))
theorem vT{X:Fx}{s:AS}{ds live:List Nat}{vs:List AV}{σ:Heap}(hl:(live.all λd=>(ds++X.L).contains d)=ι):Fr X ds s (s.meet (ds++X.L) live vs σ):=λi hi hL=>by
 have hni:i∉ds++X.L:=by
  rw[eG];rintro(e|e)
  ·exact hi e
  ·rw[al1.2 e]at hL;cases hL
 simp only[AS.meet];rw[(Ff vs live 0 (rI s.sl (ds++X.L)) i).2.1 (λe=>hni ?_),(EU (ds++X.L) s.sl i).2.2.1 hni];exact al1.1 (iX.1 hl i e)
theorem OT{live:List Nat}{e:AX}{s:AS}{r:List AV×Heap}(h:F9 live e s=δ r):e=.normal/\r=(vals s.sl live,s.σ):=by cases e<;>simp only[F9]at h<;>first|(cases h;done)|(injection h with h;exact⟨rfl,h.symm⟩)
theorem RH{P:Program}{c:Code}{Q:Exit->Act->World->Prop}(I:Nat->Act->World->Prop)(round:∀n a w,I n a w->c.wp P (Exit.then (λa' w'=>∃m,m<n/\I m a' w') Q) a w) {n:Nat} {a:Act} {w:World} (h:I n a w):(Code.loop c).wp P Q a w:=by
 intro b k cs
 have key:∀n a w,I n a w->∃e a' w',Q e a' w'/\Arrives P (lone (b.at a (.code c::.inLoop c::k)) cs w) b k cs e a' w':=by
  intro n;induction n using Nat.strongRecOn with
  |_ n ih=>
   intro a w hI;obtain⟨e,a1,w1,hq,wE⟩:=round n a w hI b (.inLoop c::k) cs;cases e with
   |normal=>obtain⟨m,hlt,hm⟩:=hq;obtain⟨e2,a2,w2,wO,ad9⟩:=ih m hlt a1 w1 hm;exact⟨e2,a2,w2,wO,.of_steps (Steps.trans wE (.one step_inLoop)) ad9⟩
   |exit id=>exact⟨_,a1,w1,hq,.pass (x:=.inLoop c) rfl (λ_ _=>.inl (by simp)) wE⟩
   |goto l=>exact⟨_,a1,w1,hq,.pass (x:=.inLoop c) rfl (λ_ _=>.inl (by simp)) wE⟩
   |ret=>exact⟨_,a1,w1,hq,.pass (x:=.inLoop c) rfl (λ_ _=>.inl (by simp)) wE⟩
   |panic ch=>exact⟨_,a1,w1,hq,.pass (x:=.inLoop c) rfl (λ_ _=>.inl (by simp)) wE⟩
   |outgrown=>exact⟨_,a1,w1,hq,.pass (x:=.inLoop c) rfl (λ_ _=>.inl (by simp)) wE⟩
 obtain⟨e,a',w',hq,wE⟩:=key n a w h;exact⟨e,a',w',hq,.of_steps (.one step_loop) wE⟩
theorem sV(hs:ct X):∀(c:Code){R:Type}(bH:jx)(s:AS)(a:Act)(w:World)(E:List Pl)(pb:Nat->Option Nat)(k:AX->AS->Option R)(r:R)(Q:Exit->Act->World->Prop),exec X bH c s k=δ r->St X z s a w E pb->
  (∀e s' a' w' E' bC,St X z s' a' w' E' bC->Fr X (cI c) s s'->k e s'=δ r->Q e.to a' w')->c.wp X.P Q a w
 |.skip,R,bH,s,a,w,E,pb,k,r,Q,hk,h,hQ=>by
  have hk':k .normal s=δ r:=by cases bH<;>simpa [exec]using hk
  exact wp_skip (hQ .normal s a w E pb h (amG _ _) hk')
 |.label l,R,bH,s,a,w,E,pb,k,r,Q,hk,h,hQ=>by
  have hk':k .normal s=δ r:=by cases bH<;>simpa [exec]using hk
  exact wp_label (hQ .normal s a w E pb h (amG _ _) hk')
 |.exit id,R,bH,s,a,w,E,pb,k,r,Q,hk,h,hQ=>by
  have hk':k (.exit id) s=δ r:=by cases bH<;>simpa [exec]using hk
  exact wp_exit (hQ (.exit id) s a w E pb h (amG _ _) hk')
 |.ret,R,bH,s,a,w,E,pb,k,r,Q,hk,h,hQ=>by
  have hk':k .ret s=δ r:=by cases bH<;>simpa [exec]using hk
  exact wp_ret (hQ .ret s a w E pb h (amG _ _) hk')
 |.region id ops draw,R,bH,s,a,w,E,pb,k,r,Q,hk,h,hQ=>by
  have hk':(bif draw then(bif Cg X ops s.sl then oR X ι ops ops.toList ⟨s.sl,λ_=>η,s.σ⟩ λs=>k .normal ⟨s.sl,λ_=>η,s.σ⟩else η)else oR X θ ops ops.toList s λs=>k .normal ⟨s.sl,λ_=>η,s.σ⟩)=δ r:=by cases bH<;>simpa [exec,force_eq,RU]using hk
  cases draw
  ·simp only[aS]at hk';refine wp_region ?_;have:=RT (z:=z) (Q:=Q) (s0:=s) hs ops.toList 0 s a w E pb (λj=>by simp) h hk' (λs' a' w' E' bC h' hf hk2=>hQ .normal _ a' w' E' bC h'.NI (λi hi hL=>hf i (by simpa [cI]using hi) hL) hk2);rw[ZT];simpa using this
  ·simp only[bg]at hk';cases hok:Cg X ops s.sl
   ·rw[hok]at hk';cases hk'
   ·rw[hok]at hk';simp only[bg]at hk';exact abN (s:=⟨s.sl,λ_=>η,s.σ⟩) hs hok (λ_=>rfl) (λs' a' w' E' bC h' hf hk2=>hQ .normal _ a' w' E' bC h'.NI (λi hi hL=>hf i (by simpa [cI]using hi) hL) hk2) h.NI hk'
 |.seq x y,R,bH,s,a,w,E,pb,k,r,Q,hk,h,hQ=>by
  cases bH<;>simp only[exec]at hk<;>first|(cases hk;done)|skip
  rename_i aa bb;refine wp_seq (sV hs x aa s a w E pb _ r _ hk h λe s' a' w' E' bC h' hf hk'=>?_);cases e with
  |normal=>exact sV hs y bb s' a' w' E' bC k r Q hk' h' λe2 s2 a2 w2 E2 NN h2 qV hk2=>hQ e2 s2 a2 w2 E2 NN h2 (by simpa [cI]using hf.trans qV) hk2
  |exit i=>exact hQ (.exit i) s' a' w' E' bC h' (hf.mono λi hi=>by simp [cI,hi]) hk'
  |ret=>exact hQ .ret s' a' w' E' bC h' (hf.mono λi hi=>by simp [cI,hi]) hk'
 |.cond c x y,R,bH,s,a,w,E,pb,k,r,Q,hk,h,hQ=>by
  have rc:=cH h c;cases bH<;>simp only[exec,force_eq]at hk<;>first|(cases hk;done)|skip
  case c live aa bb=>
   cases hl:(live.all λd=>(cI x++cI y++X.L).contains d)
   ·rw[hl]at hk;cases hk
   ·rw[hl]at hk;simp only[Wq,aS]at hk;obtain⟨⟨vs,σ'⟩,h1,h2⟩:=bl.1 hk;rcases PO h1 with⟨ec,hb⟩|⟨ec,hb⟩
    ·rw[ec]at rc;simp only[ak]at rc;refine wp_cond_true rc (sV hs x aa s a w E pb _ _ Q hb h λe s' a' w' E' bC h' hf hk'=>?_);obtain⟨rfl,hv⟩:=OT hk';simp only[Δ]at hv;obtain⟨rfl,rfl⟩:=hv;have qV:Fr X (cI x++cI y) s s':=hf.mono λi hi=>by simp [hi]
     exact hQ .normal _ a' w' E' bC (h'.meet (by rw[h.mM,h'.mM]) (Au (c:=x) qV)) (by simpa [cI]using vT (X:=X) hl) h2
    ·rw[ec]at rc;simp only[ak]at rc;refine wp_cond_false rc (sV hs y bb s a w E pb _ _ Q hb h λe s' a' w' E' bC h' hf hk'=>?_);obtain⟨rfl,hv⟩:=OT hk';simp only[Δ]at hv;obtain⟨rfl,rfl⟩:=hv;have qV:Fr X (cI x++cI y) s s':=hf.mono λi hi=>by simp [hi]
     exact hQ .normal _ a' w' E' bC (h'.meet (by rw[h.mM,h'.mM]) (Au (c:=x) qV)) (by simpa [cI]using vT (X:=X) hl) h2
  case j aa bb=>
   rcases PO hk with⟨ec,hb⟩|⟨ec,hb⟩
   ·rw[ec]at rc;simp only[ak]at rc;exact wp_cond_true rc (sV hs x aa s a w E pb k r Q hb h λe s' a' w' E' bC h' hf hk'=>hQ e s' a' w' E' bC h' (hf.mono λi hi=>by simp [cI,hi]) hk')
   ·rw[ec]at rc;simp only[ak]at rc;exact wp_cond_false rc (sV hs y bb s a w E pb k r Q hb h λe s' a' w' E' bC h' hf hk'=>hQ e s' a' w' E' bC h' (hf.mono λi hi=>by simp [cI,hi]) hk')
 |.block id c,R,bH,s,a,w,E,pb,k,r,Q,hk,h,hQ=>by
  cases bH<;>simp only[exec]at hk<;>first|(cases hk;done)|skip
  rename_i aa;refine wp_block (sV hs c aa s a w E pb _ r _ hk h λe s' a' w' E' bC h' hf hk'=>?_);cases e with
  |normal=>exact hQ .normal s' a' w' E' bC h' (by simpa [cI]using hf) hk'
  |ret=>exact hQ .ret s' a' w' E' bC h' (by simpa [cI]using hf) hk'
  |exit i=>
   simp only[AX.to,Exit.inBlock];simp only at hk';by_cases e:i=id
   ·have:(i==id)=ι:=by simpa using e
    rw[this]at hk';rw[aC e];exact hQ .normal s' a' w' E' bC h' (by simpa [cI]using hf) hk'
   ·have:(i==id)=θ:=by simpa using e
    rw[this]at hk';rw[aB e];exact hQ (.exit i) s' a' w' E' bC h' (by simpa [cI]using hf) hk'
 |.loop c,R,bH,s,a,w,E,pb,k,r,Q,hk,h,hQ=>by
  cases bH<;>simp only[exec,force_eq]at hk<;>first|(cases hk;done)|skip
  case lc live xs aa=>
   cases hl:(live.all λd=>(cI c++X.L).contains d)
   ·rw[hl]at hk;cases hk
   ·rw[hl]at hk;simp only[Wq,aS]at hk;obtain⟨n,hn⟩:=alb hk;refine RH (λn a w=>∃vs σ E pb,A.CA (λvs σ K=>exec X aa c (s.meet (cI c++X.L) live vs σ) λe s'=>K (e,vals s'.sl live,s'.σ)) n vs σ (λr=>A.sel r.1 (λe=>k e (s.meet (cI c++X.L) live r.2.1 r.2.2)) xs)=δ r/\St X z (s.meet (cI c++X.L) live vs σ) a w E pb) ?_ (n:=n) ⟨_,_,E,pb,hn,h.meet rfl (λi _=>rfl)⟩;rintro n a w ⟨vs,σ,E,pb,hit,hst⟩;cases n with
    |zero=>cases hit
    |succ n=>
     simp only[A.CA]at hit;refine sV hs c aa _ a w E pb _ _ _ hit hst λe s' a' w' E' bC h' hf hk'=>?_
     have hfr:∀i,i∉cI c++X.L->s'.sl[i]? =s.sl[i]? :=λi hi=>by rw[Au (c:=c) hf i hi];exact Au (c:=c) (vT (X:=X) (s:=s) (vs:=vs) (σ:=σ) hl) i hi
     have xZ:=h'.meet (s:=s) (mods:=cI c++X.L) (live:=live) (by rw[h.mM,h'.mM]) hfr;cases e with
     |normal=>exact⟨n,Nat.lt_succ_self n,_,_,E',bC,hk',xZ⟩
     |exit i=>exact hQ (.exit i) _ a' w' E' bC xZ (by simpa [cI]using vT (X:=X) hl) (FK hk')
     |ret=>exact hQ .ret _ a' w' E' bC xZ (by simpa [cI]using vT (X:=X) hl) (FK hk')
  rename_i live xs aa;cases hl:(live.all λd=>(cI c++X.L).contains d)
  ·rw[hl]at hk;cases hk
  ·rw[hl]at hk;simp only[Wq,aS]at hk;obtain⟨⟨e0,wW,an⟩,h1,h2⟩:=bl.1 hk;have hsel:=FK h2;obtain⟨n,hn⟩:=akx h1;refine RH (λn a w=>∃vs σ E pb,XX (λvs σ=>exec X aa c (s.meet (cI c++X.L) live vs σ) (leave live)) n vs σ=δ (e0,wW,an)/\St X z (s.meet (cI c++X.L) live vs σ) a w E pb) ?_ (n:=n) ⟨_,_,E,pb,hn,h.meet rfl (λi _=>rfl)⟩;rintro n a w ⟨vs,σ,E,pb,hit,hst⟩;cases n with
   |zero=>cases hit
   |succ n=>
    simp only[XX]at hit;obtain⟨⟨e1,vs1,σ1⟩,g1,g2⟩:=bl.1 hit;refine sV hs c aa _ a w E pb _ _ _ g1 hst λe s' a' w' E' bC h' hf hk'=>?_
    simp only[leave,ξ,Δ]at hk';obtain⟨rfl,rfl,rfl⟩:=hk'
    have hfr:∀i,i∉cI c++X.L->s'.sl[i]? =s.sl[i]? :=λi hi=>by rw[Au (c:=c) hf i hi];exact Au (c:=c) (vT (X:=X) (s:=s) (vs:=vs) (σ:=σ) hl) i hi
    have xZ:=h'.meet (s:=s) (mods:=cI c++X.L) (live:=live) (by rw[h.mM,h'.mM]) hfr;cases e with
    |normal=>exact⟨n,Nat.lt_succ_self n,_,_,E',bC,g2,xZ⟩
    |exit i=>simp only[ξ,Δ]at g2;obtain⟨rfl,rfl,rfl⟩:=g2;exact hQ (.exit i) _ a' w' E' bC xZ (by simpa [cI]using vT (X:=X) hl) hsel
    |ret=>simp only[ξ,Δ]at g2;obtain⟨rfl,rfl,rfl⟩:=g2;exact hQ .ret _ a' w' E' bC xZ (by simpa [cI]using vT (X:=X) hl) hsel
 |.rangeFunc ..,R,bH,s,a,w,E,pb,k,r,Q,hk,h,hQ=>by cases bH<;>simp [exec]at hk
 |.scope _,R,bH,s,a,w,E,pb,k,r,Q,hk,h,hQ=>by cases bH<;>simp [exec]at hk
 |.goto _,R,bH,s,a,w,E,pb,k,r,Q,hk,h,hQ=>by cases bH<;>simp [exec]at hk
 |.refuse _,R,bH,s,a,w,E,pb,k,r,Q,hk,h,hQ=>by cases bH<;>simp [exec]at hk
end
end
section
open Go.RowKit
section
variable {X : Fx} {z : Z} {s : AS} {a : Act} {w w' : World} {E : List Pl} {pb : Nat -> Option Nat}
def uN(tmps:Array Value):ResultVar->Sem Value
 |.tmp t=>pure (tmps.getD t undef)
 |.cell a t=>do loadVar t (<-asAddr (tmps.getD a undef))
theorem JR(h:St X z s a w E pb){R:Type}:∀(rs:List ResultVar)(k:List AV->Option R)(r:R),uM X s rs k=δ r->∃vs jM,(rs.mapM (uN a.tmps)).run X.P w=.ok vs w/\aJ (ctx z w E pb) jM vs/\k jM=δ r
 |[],k,r,hk=>⟨[],[],by simp,by simp [aJ],hk⟩
 |.tmp t::rs,k,r,hk=>by simp only[uM]at hk;obtain⟨vs,jM,h1,h2,h3⟩:=JR h rs _ r hk;refine⟨a.tmps.getD t undef::vs,ev X s (.tmp t)::jM,?_,by simp only[aJ];exact⟨_,_,rfl,cH h (.tmp t),h2⟩,h3⟩;simp only[List.mapM_cons,b7,uN,M6,Ψ,h1]
 |.cell q t::rs,k,r,hk=>by
  simp only[uM]at hk
  have fin:∀(v:Value)(av:AV),(uN a.tmps (.cell q t)).run X.P w=.ok v w->ak (ctx z w E pb) av v->uM X s rs (λvs=>k (av::vs))=δ r->∃vs jM,((ResultVar.cell q t::rs).mapM (uN a.tmps)).run X.P w=.ok vs w/\aJ (ctx z w E pb) jM vs/\k jM=δ r:=by intro v av hv hr hk;obtain⟨vs,jM,h1,h2,h3⟩:=JR h rs _ r hk;refine⟨v::vs,av::jM,?_,by simp only[aJ];exact⟨_,_,rfl,hr,h2⟩,h3⟩;simp only[List.mapM_cons,b7,hv,M6,Ψ,h1]
  split at hk
  ·rename_i b off hp;obtain⟨av,e1,e2⟩:=bl.1 hk;obtain⟨cs,e3,e4⟩:=bl.1 e1;obtain⟨n,k1,k2,k3,k4⟩:=Af h (tag:=η) trivial hp e3;obtain⟨v,j1,j2⟩:=Fb (c:=ctx z w E pb) w X rfl k3.2 e4;rw[Gs]at j1;simp only[Act.eval]at k2;exact fin v av (by simp [uN,k2,asAddr,j1]) j2 e2
  ·obtain⟨av,e1,e2⟩:=bl.1 hk;obtain⟨cs,e3,e4⟩:=bl.1 e1;obtain⟨b,off,k2,k3⟩:=PR h.heap e3 (cH h (.tmp q));obtain⟨v,j1,j2⟩:=Fb (c:=ctx z w E pb) w X rfl k3 e4;rw[Nat.add_zero]at j1;simp only[Act.eval]at k2;exact fin v av (by simp [uN,k2,asAddr,j1]) j2 e2
theorem akH{P:Program}{fn:Func}{tmps:Array Value}{vs:List Value}(h:(fn.results.toList.mapM (uN tmps)).run P w=.ok vs w):∃v,(results fn tmps).run P w=.ok v w/\∀(c:RC)(jM:List AV),aJ c jM vs->ak c (one jM) v:=by
 have e:results fn tmps=(do let vs <-fn.results.mapM (uN tmps);pure (if h:vs.size=1 then vs[0]else .tuple vs)):=by unfold results;congr 1
 have hm:(fn.results.mapM (uN tmps)).run P w=.ok vs.toArray w:=by rw[Array.mapM_eq_mapM_toList,Sem.run_map,h];rfl
 have hrun:(results fn tmps).run P w=.ok (if h:vs.toArray.size=1 then vs.toArray[0]else .tuple vs.toArray) w:=by rw[e,b7,hm];rfl
 refine⟨_,hrun,λc jM r=>?_⟩
 match jM,vs,r with
 |[x],[v],r=>simp only[aJ]at r;obtain⟨v',_,e',r1,rfl⟩:=r;injection e' with e1 _;subst e1;simpa [one]using r1
 |[],[],r=>simp only[one,ak];exact⟨#[],by simp,by simp [aJ]⟩
 |x::y::xs,v::u::us,r=>simp only[one,ak];exact⟨(v::u::us).toArray,by simp,by simpa using r⟩
 |[_],_::_::_,r=>exact absurd r.length (by simp)
 |_::_::_,[_],r=>exact absurd r.length (by simp)
 |[],_::_,r=>exact absurd r.length (by simp)
 |_::_,[],r=>exact absurd r.length (by simp)
end
section
variable {c c' : RC} {σ : Heap} {n : Nat}
structure rZ (c c' : RC) (σ : Heap) (n : Nat) : Prop where
 w:c'.w=c.w
 nm:c'.nm=c.nm
 X:∀b,c'.X b->c.X b
 E:∀(id:Nat)(p:Pl),id<n->c.E[id]? =δ p->c'.E[id]? =δ p
 heap:eX c σ
 Gy:∀(id:Nat)(p:Pl),n<=id->c.E[id]? =δ p->¬c'.X p.b
theorem JP(d:Nat):∀(l l':List AV),XT σ n d l=δ l'->l'.length=l.length
 |[],l',e=>by simp only[XT]at e;injection e with e;subst e;rfl
 |x::l,l',e=>by simp only[XT]at e;obtain⟨y,h1,h2⟩:=bl.1 e;obtain⟨l2,h3,rfl⟩:=bX.1 h2;simp [JP d l l2 h3]
theorem B0(d:Nat):∀(l l':List (List AV)),A.iA σ n d l=δ l'->l'.length=l.length
 |[],l',e=>by simp only[A.iA]at e;injection e with e;subst e;rfl
 |x::l,l',e=>by simp only[A.iA]at e;obtain⟨y,h1,h2⟩:=bl.1 e;obtain⟨l2,h3,rfl⟩:=bX.1 h2;simp [B0 d l l2 h3]
theorem Aj(d:Nat):∀(l:List (List AV)),A.Cq σ n d l=A.iA σ n d l
 |[]=>by simp [A.iA,A.Cq]
 |x::l=>by simp [A.iA,A.Cq,Aj d l]
def xL:AV->Bool
 |.os ..=>ι
 |.op ..=>ι
 |.oe ..=>ι
 |.om ..=>ι
 |_=>θ
theorem FV(d:Nat):∀(l:List AV),A.qK σ n d l=XT σ n d l
 |[]=>by simp [XT,A.qK]
 |x::l=>by simp [XT,A.qK,FV d l]
theorem Rw(d:Nat):∀(l:List (AV×AV)),A.rT σ n d l=A.oQ σ n d l
 |[]=>by simp [A.oQ,A.rT]
 |(k,v)::l=>by simp [A.oQ,A.rT,Rw d l]
theorem abY(d:Nat)(m:Int)(s:ByteArray):Ya σ n d (.agg [.int Ξ m,.str s])=δ (.agg [.int Ξ m,.str s]):=by cases d<;>simp [Ya,XT]
theorem PX{d:Nat}:∀{es es':List (AV×AV)},(∀p∈es,∃m s,p.1=.agg [.int Ξ m,.str s])->A.oQ σ n d es=δ es'->es'.map (·.1)=es.map (·.1)
 |[],es',_,h=>by simp only[A.oQ]at h;injection h with h;subst h;rfl
 |(k,v)::r,es',hk,h=>by simp only[A.oQ]at h;obtain⟨m,s,e⟩:=hk (k,v) u0;simp only at e;subst e;rw[abY]at h;simp only[aL]at h;obtain⟨v',h1,h2⟩:=bl.1 h;obtain⟨r',h3,rfl⟩:=bX.1 h2;simp only[bU,PX (λp hp=>hk p (iB _ hp)) h3]
theorem akw{d:Nat}{es es':List (AV×AV)}(hd:Cs es)(h:A.oQ σ n d es=δ es'):Cs es':=by
 have e:=PX hd.1 h;refine⟨λp hp=>?_,by rw[e];exact hd.2⟩;have:p.1∈es.map (·.1):=by rw[<-e];exact al6 hp
 obtain⟨q,hq,e2⟩:=fK.1 this;rw[<-e2];exact hd.1 q hq
mutual
theorem Av(h:rZ c c' σ n)(d:Nat)(hos:∀av bN v,xL av=ι->Ya σ n d av=δ bN->ak c av v->ak c' bN v):∀(av bN:AV)(v:Value),Ya σ n d av=δ bN->ak c av v->ak c' bN v
 |.undef,bN,v,e,r=>by cases d<;>simp [Ya]at e
 |.int k m,bN,v,e,r=>by
  have:bN=.int k m:=by cases d<;>simpa [Ya]using e.symm
  subst this;simpa [ak]using r
 |.bool b,bN,v,e,r=>by
  have:bN=.bool b:=by cases d<;>simpa [Ya]using e.symm
  subst this;simpa [ak]using r
 |.str s,bN,v,e,r=>by
  have:bN=.str s:=by cases d<;>simpa [Ya]using e.symm
  subst this;simpa [ak]using r
 |.aH,bN,v,e,r=>by
  have:bN=.aH:=by cases d<;>simpa [Ya]using e.symm
  subst this;simpa [ak]using r
 |.ez,bN,v,e,r=>by
  have:bN=.ez:=by cases d<;>simpa [Ya]using e.symm
  subst this;simpa [ak]using r
 |.np,bN,v,e,r=>by
  have:bN=.np:=by cases d<;>simpa [Ya]using e.symm
  subst this;simpa [ak]using r
 |.nm,bN,v,e,r=>by
  have:bN=.nm:=by cases d<;>simpa [Ya]using e.symm
  subst this;simpa [ak]using r
 |.tU,bN,v,e,r=>by
  have:bN=.tU:=by cases d<;>simpa [Ya]using e.symm
  subst this;simpa [ak]using r
 |.agg cs,bN,v,e,r=>by
  have e':(XT σ n d cs).map .agg=δ bN:=by cases d<;>simpa [Ya]using e
  obtain⟨cs',h1,rfl⟩:=bX.1 e';simp only[ak]at r ⊢;obtain⟨vs,e,r1,r2⟩:=r;exact⟨vs,e,Ak h d hos cs cs' _ h1 r1,r2⟩
 |.aN cs,bN,v,e,r=>by
  have e':(XT σ n d cs).map .aN=δ bN:=by cases d<;>simpa [Ya]using e
  obtain⟨cs',h1,rfl⟩:=bX.1 e';simp only[ak]at r ⊢;obtain⟨vs,e,r1⟩:=r;exact⟨vs,e,Ak h d hos cs cs' _ h1 r1⟩
 |.sl sz es,bN,v,e,r=>by
  have e':(A.iA σ n d es).map (.sl sz)=δ bN:=by cases d<;>simpa [Ya]using e
  obtain⟨es',h1,rfl⟩:=bX.1 e';simp only[ak]at r ⊢;obtain⟨q,cap,e,k1,k2,r⟩:=r;have hl:es'.length=es.length:=B0 d es es' h1;refine⟨q,cap,by rw[hl];exact e,by rw[hl];exact k1,k2,?_⟩;rcases r with r|⟨b,off,e2,hb,hx,r⟩
  ·left;subst r;simpa using hl
  ·right;exact⟨b,off,e2,by rw[h.w];exact hb,λk=>hx (h.X b k),B9 h d hos sz b es es' off h1 r⟩
 |.rp cs,bN,v,e,r=>by
  have e':(XT σ n d cs).map .rp=δ bN:=by cases d<;>simpa [Ya]using e
  obtain⟨cs',h1,rfl⟩:=bX.1 e';simp only[ak]at r ⊢;obtain⟨b,off,e2,hb,hx,r⟩:=r;exact⟨b,off,e2,by rw[h.w];exact hb,λk=>hx (h.X b k),Ai h d hos b cs cs' off h1 r⟩
 |.fm es,bN,v,e,r=>by
  have e':(A.oQ σ n d es).map .fm=δ bN:=by cases d<;>simpa [Ya]using e
  obtain⟨es',h1,rfl⟩:=bX.1 e';simp only[ak]at r ⊢;obtain⟨b,e2,hb,hx,aW,bf,k1,kw,l,k2,k3⟩:=r;exact⟨b,e2,by rw[h.w];exact hb,λk=>hx (h.X b k),aW,bf,by rw[h.w];exact k1,kw,l,FI h d hos es es' _ h1 k2,k3.imp_right λq=>⟨q.1,akw q.2 h1⟩⟩
 |.op id off,bN,v,e,r=>hos _ bN v rfl e r
 |.oe id g i off,bN,v,e,r=>hos _ bN v rfl e r
 |.om id,bN,v,e,r=>hos _ bN v rfl e r
 |.fn f cs,bN,v,e,r=>by
  have e':(XT σ n d cs).map (.fn f)=δ bN:=by cases d<;>simpa [Ya]using e
  obtain⟨cs',h1,rfl⟩:=bX.1 e';simp only[ak]at r ⊢;obtain⟨g,vs,e,k,r1⟩:=r;exact⟨g,vs,e,by rw[h.nm];exact k,Ak h d hos cs cs' _ h1 r1⟩
 |.lbx cs,bN,v,e,r=>by cases d<;>simp [Ya]at e
 |.os id g sz off len,bN,v,e,r=>hos _ bN v rfl e r
theorem Ak(h:rZ c c' σ n)(d:Nat)(hos:∀av bN v,xL av=ι->Ya σ n d av=δ bN->ak c av v->ak c' bN v):∀(l l':List AV)(vs:List Value),XT σ n d l=δ l'->aJ c l vs->aJ c' l' vs
 |[],l',vs,e,r=>by simp only[XT]at e;injection e with e;subst e;simpa [aJ]using r
 |x::l,l',vs,e,r=>by simp only[XT]at e;obtain⟨y,h1,h2⟩:=bl.1 e;obtain⟨l2,h3,rfl⟩:=bX.1 h2;simp only[aJ]at r ⊢;obtain⟨v,vs',e,r1,r2⟩:=r;exact⟨v,vs',e,Av h d hos x y v h1 r1,Ak h d hos l l2 vs' h3 r2⟩
theorem FI(h:rZ c c' σ n)(d:Nat)(hos:∀av bN v,xL av=ι->Ya σ n d av=δ bN->ak c av v->ak c' bN v):∀(l l':List (AV×AV))(es:List MapEntry),A.oQ σ n d l=δ l'->bL c l es->bL c' l' es
 |[],l',es,e,r=>by simp only[A.oQ]at e;injection e with e;subst e;simpa [bL]using r
 |(k,v)::l,l',es,e,r=>by simp only[A.oQ]at e;obtain⟨k',h1,h2⟩:=bl.1 e;obtain⟨v',h3,h4⟩:=bl.1 h2;obtain⟨l2,h5,rfl⟩:=bX.1 h4;simp only[bL]at r ⊢;obtain⟨x,es',e,r1,r2,r3⟩:=r;exact⟨x,es',e,Av h d hos k k' _ h1 r1,Av h d hos v v' _ h3 r2,FI h d hos l l2 es' h5 r3⟩
theorem Ai(h:rZ c c' σ n)(d:Nat)(hos:∀av bN v,xL av=ι->Ya σ n d av=δ bN->ak c av v->ak c' bN v)(b:Nat):∀(l l':List AV)(off:Nat),XT σ n d l=δ l'->aY c b off l->aY c' b off l'
 |[],l',off,e,r=>by simp only[XT]at e;injection e with e;subst e;simp [aY]
 |x::l,l',off,e,r=>by simp only[XT]at e;obtain⟨y,h1,h2⟩:=bl.1 e;obtain⟨l2,h3,rfl⟩:=bX.1 h2;simp only[aY]at r ⊢;obtain⟨⟨v,e1,e2,r1⟩,r2⟩:=r;exact⟨⟨v,by rw[h.w];exact e1,e2,Av h d hos x y v h1 r1⟩,Ai h d hos b l l2 (off+1) h3 r2⟩
theorem B9(h:rZ c c' σ n)(d:Nat)(hos:∀av bN v,xL av=ι->Ya σ n d av=δ bN->ak c av v->ak c' bN v)(sz b:Nat):∀(l l':List (List AV))(off:Nat),A.iA σ n d l=δ l'->bh c sz b off l->bh c' sz b off l'
 |[],l',off,e,r=>by simp only[A.iA]at e;injection e with e;subst e;simp [bh]
 |x::l,l',off,e,r=>by simp only[A.iA]at e;obtain⟨y,h1,h2⟩:=bl.1 e;obtain⟨l2,h3,rfl⟩:=bX.1 h2;simp only[bh]at r ⊢;exact⟨by rw[JP d x y h1];exact r.1,Ai h d hos b x y off h1 r.2.1,B9 h d hos sz b l l2 (off+sz) h3 r.2.2⟩
end
structure sA (c0 c c' : RC) : Prop where
 w:c'.w=c.w
 nm:c'.nm=c.nm
 X:∀b,c'.X b->c.X b
 E:∀(id:Nat)(p0 p:Pl),c0.E[id]? =δ p0->c.E[id]? =δ p->c'.E[id]? =δ p
mutual
theorem Aq{c0 c c':RC}(h:sA c0 c c'):∀(av:AV)(v0 v:Value),ak c0 av v0->ak c av v->ak c' av v
 |.undef,v0,v,r0,r=>by simp [ak]
 |.int k m,v0,v,r0,r=>by simpa [ak]using r
 |.bool b,v0,v,r0,r=>by simpa [ak]using r
 |.str s,v0,v,r0,r=>by simpa [ak]using r
 |.aH,v0,v,r0,r=>by simpa [ak]using r
 |.ez,v0,v,r0,r=>by simpa [ak]using r
 |.np,v0,v,r0,r=>by simpa [ak]using r
 |.nm,v0,v,r0,r=>by simpa [ak]using r
 |.fm es,v0,v,r0,r=>by simp only[ak]at r0 r ⊢;obtain⟨_,_,_,_,_,_,_,_,_,r0,_⟩:=r0;obtain⟨b,e,hb,hx,aW,bf,k1,kw,l,k2,k3⟩:=r;exact⟨b,e,by rw[h.w];exact hb,λk=>hx (h.X b k),aW,bf,by rw[h.w];exact k1,kw,l,FC h es _ _ r0 k2,k3⟩
 |.tU,v0,v,r0,r=>by simpa [ak]using r
 |.agg cs,v0,v,r0,r=>by simp only[ak]at r0 r ⊢;obtain⟨wW,_,yX,_⟩:=r0;obtain⟨vs,e,r1,r2⟩:=r;exact⟨vs,e,FB h cs _ _ yX r1,r2⟩
 |.aN cs,v0,v,r0,r=>by simp only[ak]at r0 r ⊢;obtain⟨wW,_,yX⟩:=r0;obtain⟨vs,e,r1⟩:=r;exact⟨vs,e,FB h cs _ _ yX r1⟩
 |.sl sz es,v0,v,r0,r=>by
  simp only[ak]at r0 r ⊢;obtain⟨_,_,_,_,_,r0⟩:=r0;obtain⟨q,cap,e,k1,k2,r⟩:=r;refine⟨q,cap,e,k1,k2,?_⟩;rcases r with r|⟨b,off,e2,hb,hx,r⟩
  ·exact .inl r
  ·rcases r0 with r0|⟨b0,nW,_,_,_,r0⟩
   ·exact .inl r0
   ·exact .inr ⟨b,off,e2,by rw[h.w];exact hb,λk=>hx (h.X b k),FA h sz b0 b es nW off r0 r⟩
 |.rp cs,v0,v,r0,r=>by simp only[ak]at r0 r ⊢;obtain⟨b0,nW,_,_,_,r0⟩:=r0;obtain⟨b,off,e2,hb,hx,r⟩:=r;exact⟨b,off,e2,by rw[h.w];exact hb,λk=>hx (h.X b k),B6 h b0 b cs nW off r0 r⟩
 |.op id off,v0,v,r0,r=>by simp only[ak]at r0 r ⊢;obtain⟨p0,e0,_⟩:=r0;obtain⟨p,e1,e2,e3⟩:=r;exact⟨p,h.E id p0 p e0 e1,e2,e3⟩
 |.oe id g i off,v0,v,r0,r=>by simp only[ak]at r0 r ⊢;obtain⟨_,p0,e0,_⟩:=r0;obtain⟨hg,p,e1,e2⟩:=r;exact⟨hg,p,h.E id p0 p e0 e1,e2⟩
 |.os id g sz off len,v0,v,r0,r=>by simp only[ak]at r0 r ⊢;obtain⟨_,p0,e0,_⟩:=r0;obtain⟨hg,p,e1,e2⟩:=r;exact⟨hg,p,h.E id p0 p e0 e1,e2⟩
 |.om id,v0,v,r0,r=>by simp only[ak]at r0 r ⊢;obtain⟨p0,e0,_⟩:=r0;obtain⟨p,e1,e2,e3⟩:=r;exact⟨p,h.E id p0 p e0 e1,e2,e3⟩
 |.fn f cs,v0,v,r0,r=>by simp only[ak]at r0 r ⊢;obtain⟨_,_,_,_,r0⟩:=r0;obtain⟨g,vs,e1,e2,r⟩:=r;exact⟨g,vs,e1,by rw[h.nm];exact e2,FB h cs _ _ r0 r⟩
 |.lbx cs,v0,v,r0,r=>by simp [ak]at r
theorem FB{c0 c c':RC}(h:sA c0 c c'):∀(l:List AV)(wW vs:List Value),aJ c0 l wW->aJ c l vs->aJ c' l vs
 |[],wW,vs,r0,r=>by simpa [aJ]using r
 |x::l,wW,vs,r0,r=>by simp only[aJ]at r0 r ⊢;obtain⟨v0,us0,_,yX,NO⟩:=r0;obtain⟨v,us,e,r1,r2⟩:=r;exact⟨v,us,e,Aq h x _ _ yX r1,FB h l _ _ NO r2⟩
theorem FC{c0 c c':RC}(h:sA c0 c c'):∀(l:List (AV×AV))(fP es:List MapEntry),bL c0 l fP->bL c l es->bL c' l es
 |[],fP,es,r0,r=>by simpa [bL]using r
 |(k,v)::l,fP,es,r0,r=>by simp only[bL]at r0 r ⊢;obtain⟨e0,afI,_,k1,k2,k3⟩:=r0;obtain⟨e,es',e1,j1,j2,j3⟩:=r;exact⟨e,es',e1,Aq h k _ _ k1 j1,Aq h v _ _ k2 j2,FC h l afI es' k3 j3⟩
theorem B6{c0 c c':RC}(h:sA c0 c c')(b0 b:Nat):∀(l:List AV)(nW off:Nat),aY c0 b0 nW l->aY c b off l->aY c' b off l
 |[],nW,off,r0,r=>by simp [aY]
 |x::l,nW,off,r0,r=>by simp only[aY]at r0 r ⊢;obtain⟨⟨v0,_,_,yX⟩,NO⟩:=r0;obtain⟨⟨v,e1,e2,r1⟩,r2⟩:=r;exact⟨⟨v,by rw[h.w];exact e1,e2,Aq h x _ _ yX r1⟩,B6 h b0 b l _ _ NO r2⟩
theorem FA{c0 c c':RC}(h:sA c0 c c')(sz b0 b:Nat):∀(l:List (List AV))(nW off:Nat),bh c0 sz b0 nW l->bh c sz b off l->bh c' sz b off l
 |[],nW,off,r0,r=>by simp [bh]
 |x::l,nW,off,r0,r=>by simp only[bh]at r0 r ⊢;exact⟨r.1,B6 h b0 b x _ _ r0.2.1 r.2.1,FA h sz b0 b l _ _ r0.2.2 r.2.2⟩
end
theorem Fy{c0 c c':RC}(h:sA c0 c c'){p0 p:Pl}{x:aM}(k0:lS c0 p0 x)(k:lS c p x):lS c' p x:=by
 cases x with
 |box cs=>obtain⟨h1,⟨⟨arr,t,h2,h3⟩,h4⟩⟩:=k;exact⟨h1,⟨arr,t,by rw[h.w];exact h2,h3⟩,B6 h _ _ cs _ _ k0.2.2 h4⟩
 |arr g sz es=>obtain⟨h1,h2,h3,h4,⟨arr,t,h5,h6⟩,h7,h8,h9⟩:=k;obtain⟨_,_,_,_,_,_,k8,_⟩:=k0;exact⟨h1,h2,h3,h4,⟨arr,t,by rw[h.w];exact h5,h6⟩,h7,FA h sz _ _ es _ _ k8 h8,λarr t fz e=>h9 arr t fz (by rw[<-h.w];exact e)⟩
 |oO g sz es=>obtain⟨h1,h2,h3,h4,⟨arr,t,h5,h6⟩,h7,h8,h9⟩:=k;obtain⟨_,_,_,_,_,_,k8,_⟩:=k0;exact⟨h1,h2,h3,h4,⟨arr,t,by rw[h.w];exact h5,h6⟩,h7,FA h sz _ _ es _ _ k8 h8,λarr t fz e=>h9 arr t fz (by rw[<-h.w];exact e)⟩
 |map es=>obtain⟨h1,aW,bf,h2,hw,h3⟩:=k;obtain⟨_,_,_,_,_,k3⟩:=k0;exact⟨h1,aW,bf,by rw[h.w];exact h2,hw,FC h es _ _ k3 h3⟩
 |it cur left=>
  obtain⟨h1,h2⟩:=k;obtain⟨_,k2⟩:=k0;refine⟨h1,?_⟩;rcases h2 with⟨h2,h2',since,seen,last,h3⟩|⟨m,seen,aW,bf,h3,h4,h5,h6,h7,h8,h9⟩
  ·exact .inl ⟨h2,h2',since,seen,last,by rw[h.w];exact h3⟩
  ·rcases k2 with⟨q1,q2,_⟩|⟨m0,pX,ajy,ajm,q3,q4,q5,q6,q7,q8,q9⟩
   ·refine .inr ⟨m,seen,aW,bf,by rw[h.w];exact h3,by rw[h.w];exact h4,λk=>h5 (h.X m k),by rw[h.w];exact h6,h7,by rw[q2]at h8 ⊢;exact h8,.inl q1⟩
   ·refine .inr ⟨m,seen,aW,bf,by rw[h.w];exact h3,by rw[h.w];exact h4,λk=>h5 (h.X m k),by rw[h.w];exact h6,h7,(by obtain⟨l0,q8,_⟩:=q8;obtain⟨l,h8,hp⟩:=h8;exact⟨l,FC h left _ _ q8 h8,hp⟩),?_⟩;rcases h9 with h9|⟨kk,v,e,e1,e2,e3,e4,e5⟩
    ·exact .inl h9
    ·rcases q9 with q9|⟨kk',v',e',f1,f2,f3,f4,f5⟩
     ·exact .inl q9
     ·rw[e1]at f1;simp only[List.cons.injEq,Δ,and_true]at f1;obtain⟨rfl,rfl⟩:=f1;exact .inr ⟨_,_,e,e1,e2,e3,Aq h _ _ _ f4 e4,Aq h _ _ _ f5 e5⟩
def afL:aM->Nat
 |.arr g _ _=>g
 |.oO g _ _=>g
 |_=>0
theorem J4{c:RC}{p:Pl}{x:aM}(k:lS c p x):p.g=afL x:=by cases x<;>exact k.1
theorem Rn{c0 c c':RC}(h:sA c0 c c')(sz b:Nat):∀(l:List (List AV))(off:Nat),(∀y∈l,∃b0 o0,aY c0 b0 o0 y)->bh c sz b off l->bh c' sz b off l
 |[],off,h0,r=>by simp [bh]
 |x::l,off,h0,r=>by simp only[bh]at r ⊢;obtain⟨b0,o0,k⟩:=h0 x (by simp);exact⟨r.1,B6 h b0 b x _ _ k r.2.1,Rn h sz b l _ (λy hy=>h0 y (by simp [hy])) r.2.2⟩
theorem Q6{c:RC}:∀{args:List AV}{vs:List Value},aJ c args vs->∀y∈A.rowsOf args,∃b0 o0,aY c b0 o0 y
 |[],_,_,y,hy=>by simp [A.rowsOf]at hy
 |a::args,vs,h,y,hy=>by
  simp only[aJ]at h;obtain⟨v,vs',rfl,h1,h2⟩:=h;simp only[A.rowsOf,eG]at hy;rcases hy with hy|hy
  ·cases a<;>simp only[List.not_mem_nil]at hy;rename_i sz es;simp only[ak]at h1;obtain⟨a,cap,rfl,_,_,h3⟩:=h1;rcases h3 with h3|⟨b,off,_,_,_,h4⟩
   ·rw[h3]at hy;cases hy
   ·obtain⟨i,hi⟩:=rX.1 hy;exact⟨_,_,(amr h4 hi).2⟩
  ·exact Q6 h2 y hy
theorem sW(h:rZ c c' σ n):∀(d:Nat)(av bN:AV)(v:Value),Ya σ n d av=δ bN->ak c av v->ak c' bN v
 |0=>Av h 0 (λav bN v ho e r=>by cases av<;>first|(simp [Ya]at e;done)|(simp [xL]at ho;done))
 |d+1=>Av h (d+1) (λav bN v ho e r=>match av,ho,e,r with
  |.op id off,_,e,r=>by
   simp only[Ya]at e;simp only[ak]at r;obtain⟨p,h1,h2,rfl⟩:=r;split at e
   ·rename_i hlt;injection e with e;subst e
    simp only[ak];exact⟨p,h.E id p hlt h1,h2,rfl⟩
   ·rename_i hge;split at e
    ·rename_i cs hs;obtain⟨cs',e1,rfl⟩:=bX.1 e;rw[FV]at e1;obtain⟨j1,⟨⟨arr,t,j2,j3⟩,j4⟩⟩:=h.heap.blk id p _ h1 hs;simp only[ak];refine⟨p.b,off,rfl,by rw[h.w];exact(tu.1 j2).1,h.Gy id p (by omega) h1,?_⟩;have j5:=j4.drop off;rw[Gs]at j5;exact Ai h d (λav bN v _ e r=>sW h d _ _ _ e r) p.b _ cs' _ e1 j5
    ·cases e
  |.oe id g i off,_,e,r=>by
   simp only[Ya]at e;simp only[ak]at r;obtain⟨hg,p,h1,h2,a,rfl,h3⟩:=r;split at e
   ·rename_i hlt;injection e with e;subst e
    simp only[ak];exact⟨hg,p,h.E id p hlt h1,h2,a,rfl,h3⟩
   ·rename_i hge;split at e
    ·rename_i g' sz' es hs;split at e
     ·rename_i hc;subst hc;split at e
      ·rename_i el hel;obtain⟨cs',e1,rfl⟩:=bX.1 e;rw[FV]at e1;obtain⟨j1,j2,j3,j4,⟨arr,bt,j5,j6⟩,j7,j8,j9⟩:=h.heap.blk id p _ h1 hs;have ha:=h3 j1.symm;subst ha;simp only[ak];refine⟨p.b,_,rfl,by rw[h.w];exact(tu.1 j5).1,h.Gy id p (by omega) h1,?_⟩;rw[j3];have j9:=(j8.nth hel).2.drop off;exact Ai h d (λav bN v _ e r=>sW h d _ _ _ e r) p.b _ cs' _ e1 j9
      ·cases e
     ·cases e
    ·cases e
  |.om id,_,e,r=>by
   simp only[Ya]at e;simp only[ak]at r;obtain⟨p,h1,h2,rfl⟩:=r;split at e
   ·rename_i hlt;injection e with e;subst e
    simp only[ak];exact⟨p,h.E id p hlt h1,h2,rfl⟩
   ·rename_i hge;split at e
    ·rename_i es hs;obtain⟨es',e1,rfl⟩:=bX.1 e;rw[Rw]at e1;obtain⟨j1,aW,bf,j2,jw,j3⟩:=h.heap.blk id p _ h1 hs;simp only[ak];exact⟨p.b,rfl,by rw[h.w];exact(tu.1 j2).1,h.Gy id p (by omega) h1,aW,bf,by rw[h.w];exact j2,jw,_,FI h d (λav bN v _ e r=>sW h d _ _ _ e r) _ es' _ e1 j3,.inl rfl⟩
    ·cases e
  |.os id g sz off len,_,e,r=>by
   simp only[Ya]at e;simp only[ak]at r;obtain⟨hg,p,h1,h2,q,cap,rfl,h3,r⟩:=r;split at e
   ·rename_i hlt;injection e with e;subst e
    simp only[ak];exact⟨hg,p,h.E id p hlt h1,h2,q,cap,rfl,h3,r⟩
   ·rename_i hge;split at e
    ·rename_i g' sz' es hs;split at e
     ·rename_i hc;obtain⟨rfl,rfl,hle⟩:=hc;obtain⟨es',e1,rfl⟩:=bX.1 e;rw[Aj]at e1;obtain⟨j1,j2,j3,j4,⟨arr,bt,j5,j6⟩,j7,j8,j9⟩:=h.heap.blk id p _ h1 hs;obtain⟨k1,k2,k3⟩:=r j1.symm;have hl:=B0 d _ _ e1;have oh:((es.drop off).take len).length=len:=by simp;omega
      simp only[ak];refine⟨δ q,cap,by rw[hl,oh],by rw[hl,oh];exact h3,j4,?_⟩;by_cases hz:len=0
      ·left;apply uG;rw[hl,oh,hz]
      ·right
       have hq:q=⟨p.b,p.base+off*p.sz,η⟩:=by
        rcases k2 with k2|k2
        ·omega
        ·exact k2
       refine⟨p.b,p.base+off*p.sz,by rw[hq],by rw[h.w];exact(tu.1 j5).1,h.Gy id p (by omega) h1,?_⟩;refine B9 h d (λav bN v _ e r=>sW h d _ _ _ e r) sz p.b _ es' _ e1 ?_;rw[j3];exact(j8.drop off).take len
     ·cases e
    ·cases e)
end
section
variable {c c' : RC} {σ : Heap} {n : Nat}
theorem aag{es es':List (AV×AV)}(hp:es.Perm es'):∀{l:List MapEntry},bL c es l->∃l',bL c es' l'/\l'.Perm l:=by
 induction hp with
 |nil=>intro l h;exact⟨l,h,.refl _⟩
 |cons x _ ih=>intro l h;obtain⟨e,l1,rfl,h2,h3,h4⟩:=h;obtain⟨l',k1,k2⟩:=ih h4;exact⟨e::l',⟨_,_,rfl,h2,h3,k1⟩,k2.cons e⟩
 |swap x y l0=>intro l h;obtain⟨e,l1,rfl,h2,h3,e',l2,rfl,h4,h5,h6⟩:=h;exact⟨e'::e::l2,⟨_,_,rfl,h4,h5,_,_,rfl,h2,h3,h6⟩,.swap _ _ _⟩
 |trans _ _ ih1 ih2=>intro l h;obtain⟨l1,k1,k2⟩:=ih1 h;obtain⟨l2,k3,k4⟩:=ih2 k1;exact⟨l2,k3,k4.trans k2⟩
theorem ZO(es:List (AV×AV)):(A.TR es).Perm es:=Yl (p:=λl:List (AV×AV)=>l.Perm es) ⟨es,.refl _⟩
theorem abG{x:AV}{v:Value}(r:ak c x v):ak c (A.can x) v:=by
 cases x<;>try exact r
 case fm es=>
  unfold A.can;simp only;split
  ·rename_i hd;simp only[ak]at r ⊢;obtain⟨b,e,hb,hx,aW,bf,k1,kw,l,k2,k3⟩:=r;have hp:=ZO es;obtain⟨l',j1,j2⟩:=aag hp.symm k2;refine⟨b,e,hb,hx,aW,bf,k1,kw,l',j1,.inr ⟨?_,?_⟩⟩
   ·rcases k3 with rfl|⟨k3,_⟩
    ·exact j2
    ·exact j2.trans k3
   ·exact⟨λp hp'=>hd.1 p (hp.mem_iff.1 hp'),(hp.map _).nodup_iff.2 hd.2⟩
  ·exact r
theorem Jo{b:Nat}:∀{l:List AV}{off:Nat},aY c b off l->aY c b off (l.map A.can)
 |[],off,_=>by simp [aY]
 |x::l,off,r=>by simp only[bU,aY]at r ⊢;obtain⟨⟨v,h1,h2,h3⟩,h4⟩:=r;exact⟨⟨v,h1,h2,abG h3⟩,Jo h4⟩
theorem Jp{sz b:Nat}:∀{l:List (List AV)}{off:Nat},bh c sz b off l->bh c sz b off (l.map (·.map A.can))
 |[],off,_=>by simp [bh]
 |x::l,off,r=>by simp only[bU,bh,p7]at r ⊢;exact⟨r.1,Jo r.2.1,Jp r.2.2⟩
theorem aaQ(h:rZ c c' σ n){p:Pl}{x x':aM}(e:A.LB σ n x=δ x')(k:lS c p x):lS c' p x':=by
 have hos:∀av bN v,xL av=ι->Ya σ n 8 av=δ bN->ak c av v->ak c' bN v:=λav bN v _ e r=>sW h 8 _ _ _ e r
 cases x with
 |box cs=>obtain⟨cs',e1,rfl⟩:=bX.1 e;obtain⟨h1,⟨⟨arr,t,h2,h3⟩,h4⟩⟩:=k;exact⟨h1,⟨arr,t,by rw[h.w];exact h2,by rw[p7,JP 8 _ _ e1];exact h3⟩,Jo (Ai h 8 hos _ _ _ _ e1 h4)⟩
 |arr g sz es=>obtain⟨es',e1,rfl⟩:=bX.1 e;obtain⟨h1,h2,h3,h4,⟨arr,t,h5,h6⟩,h7,h8,h9⟩:=k;exact⟨h1,h2,h3,h4,⟨arr,t,by rw[h.w];exact h5,h6⟩,by rw[p7,B0 8 _ _ e1];exact h7,Jp (B9 h 8 hos _ _ _ _ _ e1 h8),λarr t fz e=>h9 arr t fz (by rw[<-h.w];exact e)⟩
 |oO g sz es=>obtain⟨es',e1,rfl⟩:=bX.1 e;obtain⟨h1,h2,h3,h4,⟨arr,t,h5,h6⟩,h7,h8,h9⟩:=k;exact⟨h1,h2,h3,h4,⟨arr,t,by rw[h.w];exact h5,h6⟩,by rw[p7,B0 8 _ _ e1];exact h7,Jp (B9 h 8 hos _ _ _ _ _ e1 h8),λarr t fz e=>h9 arr t fz (by rw[<-h.w];exact e)⟩
 |map es=>obtain⟨es',e1,rfl⟩:=bX.1 e;obtain⟨h1,aW,bf,h2,hwf,h3⟩:=k;exact⟨h1,aW,bf,by rw[h.w];exact h2,hwf,FI h 8 hos _ _ _ e1 h3⟩
 |it cur left=>cases e
theorem PW{n:Nat}:∀{HL HM τ:Heap},A.AN σ n HL HM=δ τ->τ.length=HL.length/\HL.length<=HM.length/\∀(i:Nat)x,τ[i]? =δ x->∃b b',HL[i]? =δ b/\HM[i]? =δ b'/\((b'=b/\x=b)\/A.LB σ n b'=δ x)
 |[],HM,τ,h=>by simp only[A.AN]at h;injection h with h;subst h;simp
 |_::_,[],τ,h=>by simp [A.AN]at h
 |b::r,b'::r',τ,h=>by
  simp only[A.AN]at h;obtain⟨y,h1,h2⟩:=bl.1 h;obtain⟨Ew,h3,rfl⟩:=bX.1 h2;obtain⟨k1,k2,k3⟩:=PW h3;refine⟨by simp [k1],by simp;omega,λi x hi=>?_⟩;cases i with
  |zero=>
   simp only[Xw,ξ]at hi;subst hi;refine⟨b,b',rfl,rfl,?_⟩;split at h1
   ·rename_i e;injection h1 with h1
    exact .inl ⟨e,h1.symm⟩
   ·exact .inr h1
  |succ i=>exact k3 i x hi
end
section
variable {X : Fx}
def lX.Ok:lX->Prop
 |.N g=>∀c a v,ak c a v->ak c (g a) v
 |_=>True
theorem vO(hs:ct X){f:FuncId}{fn:Func}{keep:lX}(hkeep:keep.Ok){bH:jx}{args:List AV}{σ σ':Heap}{r:AV}(hf:X.P.funcs[f]? =δ fn)(wg:∀bQ w,(callFunc f bQ).run X.P w=.ok (.enter f bQ) w)
  (hr:lu X keep bH fn args σ=δ (r,σ')):jq X.P X.nm f args σ r σ':=by
 refine .inl ⟨f,wg,λz vs hnm hlt hh ha=>?_⟩;unfold lu at hr;cases hb:fn.body with
 |none=>rw[hb]at hr;cases hr
 |some c=>
  rw[hb]at hr;simp only at hr;cases hc:(Nat.ble args.length fn.ntmps&&X.n==fn.ntmps)
  ·rw[hc]at hr;cases hr
  ·rw[hc]at hr;simp only[Wq,aS]at hr;simp only[eF,beq_iff_eq]at hc;obtain⟨hc1,jO⟩:=hc;have hle:args.length<=fn.ntmps:=Nat.le_of_ble_eq_true hc1;have DC:=ha.length;have ajT:args.length=vs.size:=by simpa using DC
   have hst:St X z ⟨args++e8 (fn.ntmps-args.length) (.aN []),λ_=>η,σ⟩ {tmps:=vs++YV (fn.ntmps-vs.size) undef,defers:=[]} z.w z.E bP:=by
    have TC:∀i av,(args++e8 (fn.ntmps-args.length) (.aN []))[i]? =δ av->ak (ctx z z.w z.E bP) av ((vs++YV (fn.ntmps-vs.size) undef).getD i undef):=by
     intro i av hi;by_cases hlt':i<args.length
     ·rw[fZ hlt']at hi;obtain⟨v,k1,k2⟩:=ha.nth hi
      have:(vs++YV (fn.ntmps-vs.size) undef).getD i undef=v:=by rw[jY,Array.getElem?_append_left (by omega),<-YT,k1];rfl
      rw[this];exact k2
     ·rw[iH (by omega)]at hi;have hm:=bR hi;rw[Yq]at hm;rw[hm.2]
      have:(vs++YV (fn.ntmps-vs.size) undef).getD i undef=undef:=by rw[jY,Array.getElem?_append_right (by omega),Array.getElem?_replicate];split<;>rfl
      rw[this];simp only[ak];exact⟨#[],rfl,by simp [aJ]⟩
    refine⟨by simp;omega,by simp;omega,λi av hi=>Slot.of (TC i av hi),λi cs hi=>?_,(λt p hp=>by cases hp),(λi b hb=>by cases hb),(λi j b hb=>by cases hb),hh,rfl,?_,hnm.symm⟩
    ·have:=TC i _ hi;simp [ak]at this
    ·exact⟨rfl,rfl,rfl,bJ _,λ_ _ _=>rfl,λi p hp=>.inr ⟨p,hp,rfl⟩,λi p hp=>⟨p,hp,.inl rfl⟩,hlt,λp hp=>hh.lt hp⟩
   refine calls_of_wp hf hb (sV hs c bH _ _ _ _ _ _ _ _ hr hst λe s' a' w' E' bC h' _ hk=>?_)
   have hno:Ext (ctx z w' E' bC) (ctx z w' E' bP):=Ext.same rfl rfl (λb k=>by
    rcases k with k|k|⟨i,k⟩
    ·exact .inl k
    ·exact .inr (.inl k)
    ·cases k) rfl
   have TU:∀(x:AV)(v:Value)(r:AV)(σ':Heap),ak (ctx z w' E' bC) x v->e9 σ x s'.σ=δ (r,σ')->∃gb,Out z w' gb/\eX (ctx z w' gb bP) σ'/\ak (ctx z w' gb bP) r v:=by
     intro x v r σ' rv k3;unfold e9 at k3;split at k3
     ·rename_i he;simp only[ξ,Δ]at k3;obtain⟨rfl,rfl⟩:=k3;exact⟨E',h'.out,by rw[<-he];exact h'.heap.mono hno rfl (λp hp=>rfl),X5 hno _ _ rv⟩
     ·split at k3
      ·rename_i he;obtain⟨r',k6,k7⟩:=bX.1 k3;simp only[Δ]at k7;obtain⟨rfl,rfl⟩:=k7;have hlen:=h'.heap.len;simp only[ctx]at hlen;have hzl:z.E.length=σ.length:=hh.len
       have hle2:σ.length<=s'.σ.length:=by have:=congrArg Xg he;simp at this;omega
       have oq:∀(id:Nat)(p:Pl),id<σ.length->E'[id]? =δ p->(E'.take σ.length)[id]? =δ p:=λid p hlt' hp=>by rw[Wo hlt'];exact hp
       have me:∀(id:Nat)(p:Pl),(E'.take σ.length)[id]? =δ p->id<σ.length/\E'[id]? =δ p:=λid p hp=>by
        rw[X4]at hp;split at hp
        ·exact⟨by assumption,hp⟩
        ·cases hp
       have oM:rZ (ctx z w' E' bC) (ctx z w' (E'.take σ.length) bP) s'.σ σ.length:=by
        refine⟨rfl,rfl,λb k=>?_,oq,h'.heap,λid p hge hp k=>?_⟩
        ·rcases k with k|⟨p,hp,k⟩|⟨i,k⟩
         ·exact .inl k
         ·exact .inr (.inl ⟨p,wq hp,k⟩)
         ·cases k
        ·rcases k with k|⟨q,hq,k⟩|⟨i,k⟩
         ·have hb:=hlt _ k;rcases h'.out.fresh' id p hp with e|⟨q,hq,_⟩
          ·omega
          ·rw[iW (by omega)]at hq;cases hq
         ·obtain⟨j,hj,rfl⟩:=Wg.1 hq;obtain⟨h1,h2⟩:=me j _ (cA hj);have:=h'.heap.inj j id _ p h2 hp k;omega
         ·cases k
       have heq:∀(id:Nat),id<σ.length->σ[id]? =s'.σ[id]? :=λid hlt'=>by have h1:(List.take σ.length s'.σ)[id]? =s'.σ[id]? :=Wo hlt';rw[he]at h1;exact h1
       have held:sA (ctx z z.w z.E bP) (ctx z w' E' bC) (ctx z w' (E'.take σ.length) bP):=
        ⟨rfl,rfl,oM.X,λid p0 p e0 e1=>oq id p (by have:=(bB.1 e0).1;simp only[ctx]at this;omega) e1⟩
       refine⟨E'.take σ.length,?_,?_,sW oM 8 _ _ _ k6 rv⟩
       ·have o:=h'.out
        exact⟨o.os,o.tape,o.output,o.size,o.stay,λi p hp=>o.fresh' i p (me i p hp).2,λi p hp=>by
         obtain⟨p',m1,m2⟩:=o.env i p hp
         exact⟨p',oq i p' (by have:=(bB.1 hp).1;omega) m1,m2⟩,o.lt,o.mine⟩
       ·refine⟨by simp only[ctx,nT];omega,λi j p q hp hq e=>h'.heap.inj i j p q (me i p hp).2 (me j q hq).2 e,λi p x hp hx=>?_⟩;obtain⟨hi,hp2⟩:=me i p hp;have hz0:z.E[i]? =δ z.E[i]:=cA (by omega);exact Fy held (hh.blk i _ x hz0 hx) (h'.heap.blk i p x hp2 (by rw[<-heq i hi];exact hx))
      ·cases k3
   have CM:∀(x:AV)(v:Value)(r:AV)(σ':Heap),ak (ctx z w' E' bC) x v->A.CM σ x s'.σ=δ (r,σ')->∃gb,Out z w' gb/\eX (ctx z w' gb bP) σ'/\ak (ctx z w' gb bP) r v:=by
     intro x v r σ' rv k3;unfold A.CM at k3;obtain⟨τ,q0,k4⟩:=bl.1 k3;obtain⟨r',k6,k7⟩:=bX.1 k4;simp only[Δ]at k7;obtain⟨rfl,rfl⟩:=k7;obtain⟨q1,hle2,q3⟩:=PW q0;have hlen:=h'.heap.len;simp only[ctx]at hlen;have hzl:z.E.length=σ.length:=hh.len;have oq:∀(id:Nat)(p:Pl),id<σ.length->E'[id]? =δ p->(E'.take σ.length)[id]? =δ p:=λid p hlt' hp=>by rw[Wo hlt'];exact hp
     have me:∀(id:Nat)(p:Pl),(E'.take σ.length)[id]? =δ p->id<σ.length/\E'[id]? =δ p:=λid p hp=>by
      rw[X4]at hp;split at hp
      ·exact⟨by assumption,hp⟩
      ·cases hp
     have oM:rZ (ctx z w' E' bC) (ctx z w' (E'.take σ.length) bP) s'.σ σ.length:=by
      refine⟨rfl,rfl,λb k=>?_,oq,h'.heap,λid p hge hp k=>?_⟩
      ·rcases k with k|⟨p,hp,k⟩|⟨i,k⟩
       ·exact .inl k
       ·exact .inr (.inl ⟨p,wq hp,k⟩)
       ·cases k
      ·rcases k with k|⟨q,hq,k⟩|⟨i,k⟩
       ·have hb:=hlt _ k;rcases h'.out.fresh' id p hp with e|⟨q,hq,_⟩
        ·omega
        ·rw[iW (by omega)]at hq;cases hq
       ·obtain⟨j,hj,rfl⟩:=Wg.1 hq;obtain⟨h1,h2⟩:=me j _ (cA hj);have:=h'.heap.inj j id _ p h2 hp k;omega
       ·cases k
     have held:sA (ctx z z.w z.E bP) (ctx z w' E' bC) (ctx z w' (E'.take σ.length) bP):=
      ⟨rfl,rfl,oM.X,λid p0 p e0 e1=>oq id p (by have:=(bB.1 e0).1;simp only[ctx]at this;omega) e1⟩
     refine⟨E'.take σ.length,?_,?_,sW oM 8 _ _ _ k6 rv⟩
     ·have o:=h'.out
      exact⟨o.os,o.tape,o.output,o.size,o.stay,λi p hp=>o.fresh' i p (me i p hp).2,λi p hp=>by
       obtain⟨p',m1,m2⟩:=o.env i p hp
       exact⟨p',oq i p' (by have:=(bB.1 hp).1;omega) m1,m2⟩,o.lt,o.mine⟩
     ·refine⟨by simp only[ctx,nT];omega,λi j p q hp hq e=>h'.heap.inj i j p q (me i p hp).2 (me j q hq).2 e,λi p x hp hx=>?_⟩;obtain⟨hi,hp2⟩:=me i p hp;obtain⟨b,b',m1,m2,m3⟩:=q3 i x hx;rcases m3 with⟨rfl,rfl⟩|m3
      ·have hz0:z.E[i]? =δ z.E[i]:=cA (by omega);exact Fy held (hh.blk i _ x hz0 m1) (h'.heap.blk i p x hp2 m2)
      ·exact aaQ oM m3 (h'.heap.blk i p b' hp2 m2)
   have done:∀(hk:uM X s' fn.results.toList (λvs=>keep.run args σ (one vs) s'.σ)=δ (r,σ')),
     a'.defers=[]/\∃v,(results fn a'.tmps).run X.P w'=.ok v w'/\∃v' E',Ending.returned v=.returned v'/\Out z w' E'/\eX (ctx z w' E' bP) σ'/\ak (ctx z w' E' bP) r v':=by
    intro hk;refine⟨h'.defers,?_⟩;obtain⟨us,jM,k1,k2,k3⟩:=JR h' _ _ _ hk;obtain⟨v,k4,k5⟩:=akH k1;have rv:=k5 _ _ k2;refine⟨v,k4,v,?_⟩
    have kept:∃E',Ending.returned v=.returned v/\Out z w' E'/\eX (ctx z w' E' bP) s'.σ/\ak (ctx z w' E' bP) (one jM) v:=
     ⟨E',rfl,h'.out,h'.heap.mono hno rfl (λp hp=>rfl),X5 hno _ _ rv⟩
    cases keep with
    |K=>simp only[lX.run,ξ,Δ]at k3;obtain⟨rfl,rfl⟩:=k3;exact kept
    |F=>obtain⟨gb,q1,q2,q3⟩:=TU _ _ _ _ rv k3;exact⟨gb,rfl,q1,q2,q3⟩
    |G=>obtain⟨gb,q1,q2,q3⟩:=CM _ _ _ _ rv k3;exact⟨gb,rfl,q1,q2,q3⟩
    |N g=>simp only[lX.run]at k3;obtain⟨⟨r0,an⟩,k6,k7⟩:=bX.1 k3;simp only[Δ]at k7;obtain⟨rfl,rfl⟩:=k7;obtain⟨gb,q1,q2,q3⟩:=TU _ _ _ _ rv k6;exact⟨gb,rfl,q1,q2,hkeep _ _ _ q3⟩
    |R=>
     simp only[lX.run]at k3;obtain⟨x,hx⟩:∃x,x=one jM:=⟨_,rfl⟩
     rw[<-hx]at rv k3 kept;unfold A.renew at k3;split at k3
     ·rename_i id g sz off len;split at k3
      ·rename_i g' sz' es hs';split at k3
       ·rename_i hc;obtain⟨rfl,rfl,hle,ajW⟩:=hc;simp only[ak]at rv;obtain⟨hg,p,e1,e2,qa,cp,rfl,hcap,rx⟩:=rv;obtain⟨j1,j2,j3,j4,⟨arr,bt,j5,j6⟩,j7,j8,j9⟩:=h'.heap.blk id p _ e1 hs';obtain⟨q1,q2,q3⟩:=rx j1.symm;have hid:id<E'.length:=(bB.1 e1).1;have jB:((es.drop off).take len).length=len:=by simp;omega
        have hmul:(off+len)*sz<=es.length*sz:=kU _ hle;rw[fB]at hmul;split at k3
        ·simp only[ξ,Δ]at k3;obtain⟨rfl,rfl⟩:=k3
         have Bg:=h'.move (id:=id) (p:=p) (p':=⟨p.b,p.base+off*sz,A.gen args+1,sz,p.mP⟩) (w':=w') (blk:=.arr (A.gen args+1) sz ((es.drop off).take len)) e1
          ⟨by omega,by show p.g<A.gen args+1;omega⟩ rfl rfl rfl (bJ _) (λb _ _=>rfl) (.inl rfl) (λhx=>by
           refine⟨rfl,by show 0<A.gen args+1;omega,rfl,j4,⟨arr,bt,j5,j6⟩,?_,?_,j9⟩
           ·rw[jB];show p.base+off*sz+len*sz<=p.mP;omega
           ·exact bh.mono hx sz p.b rfl _ _ ((j8.drop off).take len))
         have af1:Ext (ctx z w' (E'.set id ⟨p.b,p.base+off*sz,A.gen args+1,sz,p.mP⟩) bC) (ctx z w' (E'.set id ⟨p.b,p.base+off*sz,A.gen args+1,sz,p.mP⟩) bP):=Ext.same rfl rfl (λb k=>by
          rcases k with k|k|⟨i,k⟩
          ·exact .inl k
          ·exact .inr (.inl k)
          ·cases k) rfl
         refine⟨_,rfl,Bg.1.out,Bg.1.heap.mono af1 rfl (λp hp=>rfl),?_⟩;simp only[ak];refine⟨by omega,⟨p.b,p.base+off*sz,A.gen args+1,sz,p.mP⟩,by simp [ctx,hid],bJ _,qa,cp,rfl,hcap,λ_=>⟨rfl,?_,?_⟩⟩
         ·rcases q2 with q2|q2
          ·exact .inl q2
          ·exact .inr (by rw[q2,q1];simp)
         ·simp only[Gs];rw[q1,fB]at q3;omega
        ·unfold A.merge at k3;split at k3
         ·rename_i fR g0 Ml nW L4 rest _ _ _;split at k3
          ·rename_i g1 vD sC hs0;split at k3
           ·rename_i KQ;obtain⟨ajV,ajB,rfl,hg1,hsame,hF,af5⟩:=KQ;simp only[ξ,Δ]at k3;obtain⟨rfl,rfl⟩:=k3;have hzl:z.E.length=σ.length:=hh.len;have hEl:E'.length=s'.σ.length:=h'.heap.len;have afW:fR<σ.length:=(bB.1 hs0).1;obtain⟨pz,Bi⟩:∃pz,z.E[fR]? =δ pz:=⟨_,cA (by omega)⟩
            obtain⟨y1,y2,y3,y4,y5,y6,y7,y8⟩:=hh.blk fR pz _ Bi hs0;obtain⟨p'',sv⟩:∃p'':Pl,p''=⟨p.b,p.base+off*vD,A.gen (.os fR g0 Ml nW L4::rest)+1,vD,p.mP⟩:=⟨_,rfl⟩
            have hne:id≠fR:=by omega
            have Tu:∀(j:Nat)(q p2:Pl),j≠fR->z.E[j]? =δ q->E'[j]? =δ p2->p2=q:=by
             intro j q p2 hj hq hp2;have hjl:j<σ.length:=by rw[<-hzl];exact(bB.1 hq).1
             obtain⟨p3,m1,m2⟩:=h'.out.env j q hq;rw[hp2]at m1;injection m1 with m1;subst m1
             rcases m2 with m2|⟨m2,m3⟩
             ·exact m2
             ·have hsj:=hsame j hjl hj;have hx0:σ[j]? =δ σ[j]:=cA hjl;have u1:=J4 (hh.blk j q _ hq hx0);have u2:=J4 (h'.heap.blk j p2 _ hp2 (by rw[hsj];exact hx0));omega
            have oo:∃p0,E'[fR]? =δ p0:=⟨_,cA (by omega)⟩
            obtain⟨p0,oo⟩:=oo;have ajX:p0.g=g1:=J4 (h'.heap.blk fR p0 _ oo hF)
            have hfr:z.w.heap.size<=p.b:=by
             rcases h'.out.fresh' id p e1 with k|⟨q,hq,_⟩
             ·exact k
             ·rw[iW (by omega)]at hq;cases hq
            have hm:p∈E':=bR e1
            have hx:Ext (ctx z w' E' bC) (ctx z w' (E'.set fR p'') bP):=by
             refine⟨bJ _,λb hb hn=>⟨rfl,?_⟩,λj q hq=>?_,rfl⟩
             ·rintro(k|⟨q,hq,k⟩|⟨i,k⟩)
              ·exact hn (.inl k)
              ·rcases List.mem_or_eq_of_mem_set hq with hq|hq
               ·exact hn (.inr (.inl ⟨q,hq,k⟩))
               ·exact hn (.inr (.inl ⟨p,hm,by rw[<-k,hq,sv]⟩))
              ·cases k
             ·by_cases e:fR=j
              ·subst e;simp only[ctx]at hq;rw[oo]at hq;injection hq with hq;subst hq
               exact⟨p'',by simp only[ctx];rw[iU (bB.1 oo).1],.inr ⟨by omega,by rw[sv];show p0.g<A.gen (.os fR g0 Ml nW L4::rest)+1;omega⟩⟩
              ·exact⟨q,by simp only[ctx]at hq ⊢;rw[u9 e];exact hq,.inl rfl⟩
            have Dy:∀(j:Nat)(q:Pl),(z.E.set fR p'')[j]? =δ q->(j=fR/\q=p'')\/(j≠fR/\z.E[j]? =δ q):=λj q hq=>by
             by_cases e:fR=j
             ·subst e;rw[iU (bB.1 Bi).1]at hq;injection hq with hq;exact .inl ⟨rfl,hq.symm⟩
             ·rw[u9 e]at hq;exact .inr ⟨λe'=>e e'.symm,hq⟩
            have Vs:∀(j:Nat)(q:Pl),j≠fR->z.E[j]? =δ q->E'[j]? =δ q:=λj q hj hq=>by have hjl:j<z.E.length:=(bB.1 hq).1;obtain⟨p3,m1,_⟩:=h'.out.env j q hq;rw[m1,Tu j q p3 hj hq m1]
            have held:sA (ctx z z.w z.E bP) (ctx z w' (E'.set fR p'') bP) (ctx z w' (z.E.set fR p'') bP):=by
             refine⟨rfl,rfl,λb k=>?_,λj q0 q Nw hq=>?_⟩
             ·rcases k with k|⟨q,hq,k⟩|⟨i,k⟩
              ·exact .inl k
              ·obtain⟨j,hj⟩:=rX.1 hq;rcases Dy j q hj with⟨e3,e4⟩|⟨e3,e4⟩
               ·subst e3;exact .inr (.inl ⟨q,bR (i:=j) (by rw[iU (bB.1 oo).1,e4]),k⟩)
               ·exact .inr (.inl ⟨q,bR (i:=j) (by rw[u9 (λe=>e3 e.symm)];exact Vs j q e3 e4),k⟩)
              ·cases k
             ·simp only[ctx]at Nw hq ⊢;by_cases e:fR=j
              ·subst e;rw[iU (bB.1 oo).1]at hq;rw[iU (bB.1 Bi).1];exact hq
              ·rw[u9 e]at hq ⊢;rw[Tu j q0 q (λe'=>e e'.symm) Nw hq];exact Nw
            refine⟨z.E.set fR p'',rfl,?_,?_,?_⟩
            ·have o:=h'.out;refine⟨o.os,o.tape,o.output,o.size,o.stay,λj q hq=>?_,λj q hq=>?_,o.lt,o.mine⟩
             ·rcases Dy j q hq with⟨e3,e4⟩|⟨e3,e4⟩
              ·left;rw[e4,sv];exact hfr
              ·exact .inr ⟨q,e4,rfl⟩
             ·by_cases e:fR=j
              ·subst e;rw[Bi]at hq;injection hq with hq;subst hq
               exact⟨p'',iU (bB.1 Bi).1,.inr ⟨by omega,by rw[sv];show pz.g<A.gen (.os fR g0 Ml nW L4::rest)+1;omega⟩⟩
              ·exact⟨q,by rw[u9 e];exact hq,.inl rfl⟩
            ·refine⟨by simp [ctx,hzl],λi j q r hq hr he=>?_,λi q x hq cM=>?_⟩
             ·have TV:∀(j:Nat)(q:Pl),z.E[j]? =δ q->q.b<z.w.heap.size:=λj q hq=>hh.lt (p:=q) (bR hq)
              rcases Dy i q hq with⟨e3,e4⟩|⟨e3,e4⟩<;>rcases Dy j r hr with⟨e5,e6⟩|⟨e5,e6⟩
              ·rw[e3,e5]
              ·have:=TV j r e6;rw[e4,sv]at he;simp only at he;omega
              ·have:=TV i q e4;rw[e6,sv]at he;simp only at he;omega
              ·exact hh.inj i j q r e4 e6 he
             ·rcases Dy i q hq with⟨e3,e4⟩|⟨e3,e4⟩
              ·subst e3;rw[iU afW]at cM;injection cM with cM
               subst cM;subst e4;subst sv;refine⟨rfl,Nat.succ_pos _,rfl,j4,⟨arr,bt,j5,j6⟩,?_,?_,j9⟩
               ·rw[jB];show p.base+off*vD+len*vD<=p.mP;omega
               ·refine Rn held vD p.b _ _ (λy hy=>?_) (bh.mono hx vD p.b rfl _ _ ((j8.drop off).take len));rcases af5 y hy with k|k
                ·obtain⟨i,hi⟩:=rX.1 k;exact⟨_,_,(amr y7 hi).2⟩
                ·exact Q6 ha y k
              ·rw[u9 (λe=>e3 e.symm)]at cM;have hil:i<σ.length:=(bB.1 cM).1;exact Fy held (hh.blk i q x e4 cM) ((h'.heap.blk i q x (Vs i q e3 e4) (by rw[hsame i hil e3];exact cM)).mono hx rfl)
            ·simp only[ak];refine⟨Nat.succ_pos _,p'',by simp only[ctx];exact iU (bB.1 Bi).1,by rw[sv];exact bJ _,qa,cp,by rw[jB],by rw[jB];exact hcap,λ_=>⟨by rw[sv],?_,?_⟩⟩
             ·rcases q2 with q2|q2
              ·exact .inl q2
              ·exact .inr (by rw[q2,q1,sv];simp)
             ·rw[sv];simp only[Gs];rw[q1,fB]at q3;omega
           ·cases k3
          ·cases k3
         ·cases k3
       ·cases k3
      ·cases k3
     ·simp only[ξ,Δ]at k3;obtain⟨rfl,rfl⟩:=k3;exact kept
     ·simp only[ξ,Δ]at k3;obtain⟨rfl,rfl⟩:=k3;exact kept
     ·simp only[ξ,Δ]at k3;obtain⟨rfl,rfl⟩:=k3;exact kept
     ·cases k3
   cases e with
   |normal=>exact done hk
   |ret=>exact done hk
   |exit i=>cases hk
end
end
section
open Go.RowKit
inductive Sh where
 |k
 |s(sz:Nat)
 |e(sz:Nat)(l:List Sh)
 |a(l:List Sh)
 |t(l:List Sh)
 |p(l:List Sh)
namespace A
mutual
def nn:Sh->AV->AV
 |.k,v=>v
 |.s sz,v=>match v with|.aH=>.sl sz []|.ez=>.sl sz []|v=>v
 |.e sz l,v=>match v with|.aH=>.sl sz []|.ez=>.sl sz []|.sl sz' es=>.sl sz' (es.map (dg l))|v=>v
 |.a l,v=>match v with|.agg cs=>.agg (dg l cs)|v=>v
 |.t l,v=>match v with|.aN vs=>.aN (dg l vs)|v=>v
 |.p l,v=>match v with|.rp cs=>.rp (dg l cs)|v=>v
def dg:List Sh->List AV->List AV
 |[],vs=>vs
 |s::ss,vs=>match vs with|[]=>[]|v::vs=>nn s v::dg ss vs
end
def L6:AV->Bool
 |.os ..=>ι
 |.op ..=>ι
 |.oe ..=>ι
 |.om ..=>ι
 |_=>θ
def own:AV->Bool
 |.agg cs=>cs.any L6
 |v=>L6 v
def nO:AV->Bool
 |.int ..=>ι
 |.bool ..=>ι
 |.str ..=>ι
 |.np=>ι
 |.aH=>ι
 |.ez=>ι
 |.nm=>ι
 |.tU=>ι
 |.sl _ []=>ι
 |_=>θ
def nP:AV->Bool
 |.agg cs=>cs.all nO
 |v=>nO v
def yl:AV->Bool
 |.aN vs=>vs.all nP
 |v=>nP v
def fresh(v:AV):Bool:=match v with
 |.os ..=>ι
 |.om _=>ι
 |v=>nP v
def tc:AV->Bool
 |.aN vs=>vs.all fresh
 |v=>fresh v
def xH:aM->Bool
 |.box cs=>cs.all nO
 |.arr _ _ es=>es.all λe=>e.all nO
 |.map es=>es.all λp=>nP p.1&&nP p.2
 |_=>θ
def shift(n:Nat)(v:AV):AV:=match v with
 |.os id g sz off len=>.os (id+n) g sz off len
 |.om id=>.om (id+n)
 |v=>v
def rQ(n:Nat):AV->AV
 |.aN vs=>.aN (vs.map (shift n))
 |v=>shift n v
def wrap (ro:Bool) (cm:List Sh) (dn:Sh) (r:List AV->Heap->Option (AV×Heap)) (args:List AV) (σ:Heap):Option (AV×Heap):=bif ro&&args.any own then (cU σ 0 8 args).bind λargs=>(r (dg cm args) []).bind λq=>bif tc (nn dn q.1)&&q.2.all xH then δ (rQ σ.length (nn dn q.1),σ++q.2)else η else(r (dg cm args) σ).map λq=>(nn dn q.1,q.2)
def qd (sh:Sh) (m:List AV->Heap->Option (AV×Heap)) (args:List AV) (σ:Heap):Option (AV×Heap):=(m args σ).bind λp=>(fin σ p.1 p.2).map λq=>(nn sh q.1,q.2)
def F7 (m:List AV->Heap->Option (AV×Heap)) (args:List AV) (σ:Heap):Option (AV×Heap):=match args with
 |[.sl _ []]=>δ (.ez,σ)
 |[.aH]=>δ (.ez,σ)
 |[.ez]=>δ (.ez,σ)
 |[.os _ _ _ _ 0]=>δ (.ez,σ)
 |_=>m args σ
end A
def Sound(P:Program)(nm:List Nat)(f:FuncId)(m:List AV->Heap->Option (AV×Heap)):Prop:=∀args σ r σ',m args σ=δ (r,σ')->jq P nm f args σ r σ'
section
variable {P : Program} {nm : List Nat} {f : FuncId} {c c' : RC}
theorem SK{v:Value}(sz:Nat)(hsz:0<sz)(h:ak c .aH v):ak c (.sl sz []) v:=by simp only[ak]at h ⊢;subst h;exact⟨η,0,rfl,bJ _,hsz,.inl trivial⟩
theorem Tn{v:Value}(sz:Nat)(hsz:0<sz)(h:ak c .ez v):ak c (.sl sz []) v:=by simp only[ak]at h ⊢;obtain⟨a,rfl⟩:=h;exact⟨a,0,rfl,bJ _,hsz,.inl trivial⟩
mutual
def Sh.ok:Sh->Bool
 |.k=>ι
 |.s sz=>alM 0 sz
 |.e sz l=>alM 0 sz&&Sh.fD l
 |.a l=>Sh.fD l
 |.t l=>Sh.fD l
 |.p l=>Sh.fD l
def Sh.fD:List Sh->Bool
 |[]=>ι
 |x::l=>x.ok&&Sh.fD l
end
theorem RL:∀(l:List Sh)(cs:List AV),(A.dg l cs).length=cs.length
 |[],cs=>by simp [A.dg]
 |_::_,[]=>by simp [A.dg]
 |o::l,v::cs=>by simp [A.dg,RL l cs]
mutual
theorem AI:∀(s:Sh)(a:AV)(v:Value),s.ok=ι->ak c a v->ak c (A.nn s a) v
 |.k,a,v,_,h=>by simpa [A.nn]using h
 |.s sz,a,v,ho,h=>by cases a<;>simp only[A.nn]<;>first|exact h|exact SK sz (by simpa [Sh.ok]using ho) h|exact Tn sz (by simpa [Sh.ok]using ho) h
 |.e sz l,a,v,ho,h=>by
  simp only[Sh.ok,eF]at ho;cases a<;>simp only[A.nn]<;>first|exact h|exact SK sz (by simpa using ho.1) h|exact Tn sz (by simpa using ho.1) h|skip
  simp only[ak]at h ⊢;obtain⟨a,cap,e,h1,h2,h3⟩:=h;refine⟨a,cap,by rw[p7];exact e,by rw[p7];exact h1,h2,?_⟩;rcases h3 with h3|⟨b,off,e1,e2,e3,e4⟩
  ·left;rw[h3];rfl
  ·right;exact⟨b,off,e1,e2,e3,SJ l ho.2 _ _ e4⟩
 |.a l,a,v,ho,h=>by
  simp only[Sh.ok]at ho;cases a<;>simp only[A.nn]<;>first|exact h|skip
  simp only[ak]at h ⊢;obtain⟨vs,e,h1,h2⟩:=h;exact⟨vs,e,Cn l _ _ ho h1,h2⟩
 |.t ss,a,v,ho,h=>by
  simp only[Sh.ok]at ho;cases a<;>simp only[A.nn]<;>first|exact h|skip
  simp only[ak]at h ⊢;obtain⟨vs,e,h1⟩:=h;exact⟨vs,e,Cn ss _ _ ho h1⟩
 |.p l,a,v,ho,h=>by
  simp only[Sh.ok]at ho;cases a<;>simp only[A.nn]<;>first|exact h|skip
  simp only[ak]at h ⊢;obtain⟨b,off,e,h1,h2,h3⟩:=h;exact⟨b,off,e,h1,h2,Ks l _ _ ho h3⟩
theorem Cn:∀(ss:List Sh)(l:List AV)(vs:List Value),Sh.fD ss=ι->aJ c l vs->aJ c (A.dg ss l) vs
 |[],l,vs,_,h=>by simpa [A.dg]using h
 |_::_,[],vs,_,h=>by simpa [A.dg]using h
 |s::ss,a::l,vs,ho,h=>by simp only[Sh.fD,eF]at ho;simp only[A.dg,aJ]at h ⊢;obtain⟨v,vs',e,h1,h2⟩:=h;exact⟨v,vs',e,AI s a v ho.1 h1,Cn ss l vs' ho.2 h2⟩
theorem Ks{b:Nat}:∀(l:List Sh)(cs:List AV)(off:Nat),Sh.fD l=ι->aY c b off cs->aY c b off (A.dg l cs)
 |[],cs,off,_,h=>by simpa [A.dg]using h
 |_::_,[],off,_,h=>by simpa [A.dg]using h
 |o::l,a::cs,off,ho,h=>by simp only[Sh.fD,eF]at ho;simp only[A.dg,aY]at h ⊢;obtain⟨⟨v,h1,h2,h3⟩,h4⟩:=h;exact⟨⟨v,h1,h2,AI o a v ho.1 h3⟩,Ks l cs (off+1) ho.2 h4⟩
theorem SJ{sz b:Nat}(l:List Sh)(hl:Sh.fD l=ι):∀(es:List (List AV))(off:Nat),bh c sz b off es->bh c sz b off (es.map (A.dg l))
 |[],off,h=>by simp [bh]
 |e::es,off,h=>by simp only[bU,bh]at h ⊢;exact⟨by rw[RL];exact h.1,Ks l e off hl h.2.1,SJ l hl es _ h.2.2⟩
end
theorem JD:∀{a:AV}{v:Value},A.nO a=ι->ak c a v->ak c' a v:=by
 intro a v h r;cases a<;>simp only[A.nO]at h<;>first|(cases h;done)|skip
 case sl sz es=>
  cases es with
  |nil=>simp only[ak]at r ⊢;obtain⟨q,cap,e,h1,h2,_⟩:=r;exact⟨q,cap,e,h1,h2,.inl trivial⟩
  |cons _ _=>simp at h
 all_goals simpa [ak]using r
theorem Pu:∀{l:List AV}{vs:List Value},l.all A.nO=ι->aJ c l vs->aJ c' l vs
 |[],vs,_,r=>by simpa [aJ]using r
 |a::l,vs,h,r=>by simp only[amm,eF]at h;simp only[aJ]at r ⊢;obtain⟨v,vs',e,h1,h2⟩:=r;exact⟨v,vs',e,JD h.1 h1,Pu h.2 h2⟩
theorem JE{a:AV}{v:Value}(h:A.nP a=ι)(r:ak c a v):ak c' a v:=by
 unfold A.nP at h;split at h
 ·simp only[ak]at r ⊢;obtain⟨vs,e,h1,h2⟩:=r;exact⟨vs,e,Pu h h1,h2⟩
 ·exact JD h r
theorem jq.conv{args args':List AV}{σ σ':Heap}{r r':AV}(h:jq P nm f args' σ r σ')(ha:∀c vs,aJ c args vs->aJ c args' vs)(hr:∀c v,ak c r v->ak c r' v):jq P nm f args σ r' σ':=by
 rcases h with⟨g,h1,h2⟩|h
 ·refine .inl ⟨g,h1,λz vs e1 e2 e3 e4=>(h2 z vs e1 e2 e3 (ha _ _ e4)).mono ?_⟩;rintro e w' ⟨v,E',k1,k2,k3,k4⟩;exact⟨v,E',k1,k2,k3,hr _ _ k4⟩
 ·refine .inr λz vs e1 e2 e3 e4=>?_
  obtain⟨v,w',E',k1,k2,k3,k4⟩:=h z vs e1 e2 e3 (ha _ _ e4);exact⟨v,w',E',k1,k2,k3,hr _ _ k4⟩
theorem Qn{z0 z:Z}{w':World}{E':List Pl}{n:Nat}(hn:n=z.E.length){a:AV}{v:Value}(h:A.fresh a=ι)(r:ak (ctx z0 w' E' bP) a v):ak (ctx z w' (z.E++E') bP) (A.shift n a) v:=by
 have key:∀(id:Nat)(p:Pl),E'[id]? =δ p->(z.E++E')[id+n]? =δ p:=λid p hp=>by rw[iH (by omega),hn,Nat.add_sub_cancel];exact hp
 unfold A.fresh at h;unfold A.shift;split at h
 ·simp only[ak]at r ⊢;obtain⟨hg,p,h1,h2,r⟩:=r;exact⟨hg,p,key _ _ h1,h2,r⟩
 ·simp only[ak]at r ⊢;obtain⟨p,h1,h2,r⟩:=r;exact⟨p,key _ _ h1,h2,r⟩
 ·exact JE h r
theorem YO{z0 z:Z}{w':World}{E':List Pl}{n:Nat}(hn:n=z.E.length){vs:List AV}{v:Value}(h:vs.all A.fresh=ι)(r:ak (ctx z0 w' E' bP) (.aN vs) v):ak (ctx z w' (z.E++E') bP) (A.rQ n (.aN vs)) v:=by
 simp only[ak,A.rQ]at r ⊢;obtain⟨us,rfl,r⟩:=r;refine⟨us,rfl,?_⟩;generalize us.toList=us' at r ⊢;induction vs generalizing us' with
 |nil=>simpa [aJ]using r
 |cons x l ih=>simp only[amm,eF]at h;simp only[aJ,bU]at r ⊢;obtain⟨v,vs',e,h1,h2⟩:=r;exact⟨v,vs',e,Qn hn h.1 h1,ih h.2 _ h2⟩
theorem alD{z0 z:Z}{w':World}{E':List Pl}{n:Nat}(hn:n=z.E.length){a:AV}{v:Value}(h:A.tc a=ι)(r:ak (ctx z0 w' E' bP) a v):ak (ctx z w' (z.E++E') bP) (A.rQ n a) v:=by
 by_cases ht:∃vs,a=.aN vs
 ·obtain⟨vs,rfl⟩:=ht;exact YO hn h r
 ·have e1:A.tc a=A.fresh a:=by cases a<;>first|rfl|exact absurd ⟨_,rfl⟩ ht
  have e2:A.rQ n a=A.shift n a:=by cases a<;>first|rfl|exact absurd ⟨_,rfl⟩ ht
  rw[e1]at h;rw[e2];exact Qn hn h r
theorem I5{b:Nat}:∀{l:List AV}{off:Nat},l.all A.nO=ι->c'.w=c.w->aY c b off l->aY c' b off l
 |[],off,_,_,_=>by simp [aY]
 |a::l,off,h,hw,r=>by simp only[amm,eF]at h;simp only[aY]at r ⊢;obtain⟨⟨v,h1,h2,h3⟩,h4⟩:=r;exact⟨⟨v,by rw[hw];exact h1,h2,JD h.1 h3⟩,I5 h.2 hw h4⟩
theorem O3{sz b:Nat}:∀{l:List (List AV)}{off:Nat},(l.all λe=>e.all A.nO)=ι->c'.w=c.w->bh c sz b off l->bh c' sz b off l
 |[],off,_,_,_=>by simp [bh]
 |a::l,off,h,hw,r=>by simp only[amm,eF]at h;simp only[bh]at r ⊢;obtain⟨h1,h2,h3⟩:=r;exact⟨h1,I5 h.1 hw h2,O3 h.2 hw h3⟩
theorem Pv:∀{l:List (AV×AV)}{es:List MapEntry},(l.all λp=>A.nP p.1&&A.nP p.2)=ι->bL c l es->bL c' l es
 |[],es,_,r=>by simpa [bL]using r
 |(k,v)::l,es,h,r=>by simp only[amm,eF]at h;simp only[bL]at r ⊢;obtain⟨e,es',h1,h2,h3,h4⟩:=r;exact⟨e,es',h1,JE h.1.1 h2,JE h.1.2 h3,Pv h.2 h4⟩
theorem alH{p:Pl}{x:aM}(h:A.xH x=ι)(hw:c'.w=c.w)(r:lS c p x):lS c' p x:=by
 cases x with
 |box cs=>obtain⟨h1,⟨⟨arr,t,h2,h3⟩,h4⟩⟩:=r;exact⟨h1,⟨arr,t,by rw[hw];exact h2,h3⟩,I5 h hw h4⟩
 |arr g sz es=>obtain⟨h1,h2,h3,h4,⟨arr,t,h5,h6⟩,h7,h8,h9⟩:=r;exact⟨h1,h2,h3,h4,⟨arr,t,by rw[hw];exact h5,h6⟩,h7,O3 h hw h8,λarr t fz e=>h9 arr t fz (by rw[<-hw];exact e)⟩
 |map es=>obtain⟨h1,aW,bf,h2,hwf,h3⟩:=r;exact⟨h1,aW,bf,by rw[hw];exact h2,hwf,Pv h h3⟩
 |oO g sz es=>cases h
 |it cur left=>cases h
theorem QU{z:Z}{σ σ':Heap}{r:AV}{v:Value}{w':World}{E':List Pl}(e2:qS z)(hh:eX (ctx z z.w z.E bP) σ)(hv:A.tc r=ι)(hb:σ'.all A.xH=ι)
  (k2:Out ⟨z.w,[],λ_=>False,z.nm⟩ w' E') (k3:eX (ctx ⟨z.w,[],λ_=>False,z.nm⟩ w' E' bP) σ') (k4:ak (ctx ⟨z.w,[],λ_=>False,z.nm⟩ w' E' bP) r v):
  ∃gb,Out z w' gb/\eX (ctx z w' gb bP) (σ++σ')/\ak (ctx z w' gb bP) (A.rQ σ.length r) v:=by
 have hlen:z.E.length=σ.length:=hh.len;have hlen':E'.length=σ'.length:=k3.len;have hst:∀b,b<z.w.heap.size->w'.heap[b]? =z.w.heap[b]? :=λb hb=>k2.stay b hb (λp hp=>by cases hp)
 have hlt:∀p∈z.E,p.b<z.w.heap.size:=λp hp=>hh.lt hp
 have hfr:∀p∈E',z.w.heap.size<=p.b:=λp hp=>by
  rcases k2.fresh p hp with k|⟨q,hq,_⟩
  ·exact k
  ·cases hq
 have hx:Ext (ctx z z.w z.E bP) (ctx z w' (z.E++E') bP):=by
  refine⟨k2.size,λb hb hn=>⟨hst b hb,?_⟩,λi p hp=>⟨p,?_,.inl rfl⟩,rfl⟩
  ·rintro(k|⟨p,hp,k⟩|⟨i,k⟩)
   ·exact hn (.inl k)
   ·rcases eG.1 hp with hp|hp
    ·exact hn (.inr (.inl ⟨p,hp,k⟩))
    ·have:=hfr p hp;simp only[ctx]at hb;omega
   ·cases k
  ·simp only[ctx]at hp ⊢;rw[fZ (bB.1 hp).1];exact hp
 have key:∀(i:Nat)(p:Pl),(z.E++E')[i]? =δ p->(i<z.E.length/\z.E[i]? =δ p)\/(z.E.length<=i/\E'[i-z.E.length]? =δ p):=λi p hp=>by
  by_cases hi:i<z.E.length
  ·rw[fZ hi]at hp;exact .inl ⟨hi,hp⟩
  ·rw[iH (by omega)]at hp;exact .inr ⟨by omega,hp⟩
 refine⟨z.E++E',⟨k2.os,k2.tape,k2.output,k2.size,λb hb _=>hst b hb,λi p hp=>?_,λi p hp=>⟨p,?_,.inl rfl⟩,e2,hlt⟩,⟨by simp [ctx,hlen,hlen'],λi j p q hp hq e=>?_,λi p x hp cM=>?_⟩,alD hlen.symm hv k4⟩
 ·rcases key i p hp with⟨_,k⟩|⟨_,k⟩
  ·exact .inr ⟨p,k,rfl⟩
  ·exact .inl (hfr p (bR k))
 ·rw[fZ (bB.1 hp).1];exact hp
 ·simp only[ctx]at hp hq;rcases key i p hp with⟨i1,k⟩|⟨i1,k⟩<;>rcases key j q hq with⟨j1,m⟩|⟨j1,m⟩
  ·exact hh.inj i j p q k m e
  ·have:=hlt p (bR k);have:=hfr q (bR m);omega
  ·have:=hlt q (bR m);have:=hfr p (bR k);omega
  ·have:=k3.inj _ _ p q k m e;omega
 ·simp only[ctx]at hp;rcases key i p hp with⟨i1,k⟩|⟨i1,k⟩
  ·rw[fZ (by omega)]at cM;exact(hh.blk i p x k cM).mono hx (hst _ (hlt p (bR k)))
  ·rw[iH (by omega),<-hlen]at cM;exact alH (c:=ctx ⟨z.w,[],λ_=>False,z.nm⟩ w' E' bP) (iX.1 hb x (bR cM)) rfl (k3.blk _ p x k cM)
theorem jq.GG{args args':List AV}{σ σ':Heap}{r:AV}(h:jq P nm f args' [] r σ')(ha:XT σ 0 8 args=δ args')(hv:A.tc r=ι)(hb:σ'.all A.xH=ι):jq P nm f args σ (A.rQ σ.length r) (σ++σ'):=by
 have hX:∀(z:Z)b,¬(ctx ⟨z.w,[],λ_=>False,z.nm⟩ z.w [] bP).X b:=by
  rintro z b (k|⟨p,hp,_⟩|⟨i,k⟩)
  ·exact k.elim
  ·cases hp
  ·cases k
 have oM:∀(z:Z),eX (ctx z z.w z.E bP) σ->rZ (ctx z z.w z.E bP) (ctx ⟨z.w,[],λ_=>False,z.nm⟩ z.w [] bP) σ 0:=λz hh=>
  ⟨rfl,rfl,λb k=>(hX z b k).elim,λid p k=>absurd k (amn _),hh,λid p _ _=>hX z _⟩
 have h0:∀(z:Z),eX (ctx ⟨z.w,[],λ_=>False,z.nm⟩ z.w [] bP) []:=λz=>by
  refine⟨rfl,λi j p q hp=>?_,λi p x hp=>?_⟩
  ·simp [ctx]at hp
  ·simp [ctx]at hp
 rcases h with⟨g,h1,h2⟩|h2
 ·refine .inl ⟨g,h1,λz vs e1 e2 hh e4=>?_⟩;have ha':aJ (ctx ⟨z.w,[],λ_=>False,z.nm⟩ z.w [] bP) args' vs.toList:=Ak (oM z hh) 8 (λav bN v _ e r=>sW (oM z hh) 8 _ _ _ e r) _ _ _ ha e4;refine(h2 ⟨z.w,[],λ_=>False,z.nm⟩ vs e1 e2.none (h0 z) ha').mono ?_;rintro e w' ⟨v,E',k1,k2,k3,k4⟩;obtain⟨gb,q1,q2,q3⟩:=QU e2 hh hv hb k2 k3 k4;exact⟨v,gb,k1,q1,q2,q3⟩
 ·refine .inr λz vs e1 e2 hh e4=>?_
  have ha':aJ (ctx ⟨z.w,[],λ_=>False,z.nm⟩ z.w [] bP) args' vs.toList:=Ak (oM z hh) 8 (λav bN v _ e r=>sW (oM z hh) 8 _ _ _ e r) _ _ _ ha e4;obtain⟨v,w',E',k1,k2,k3,k4⟩:=h2 ⟨z.w,[],λ_=>False,z.nm⟩ vs e1 e2.none (h0 z) ha';obtain⟨gb,q1,q2,q3⟩:=QU e2 hh hv hb k2 k3 k4;exact⟨v,w',gb,k1,q1,q2,q3⟩
theorem Rp{z:Z}{w':World}{E':List Pl}{σ σ1 σ':Heap}{x r:AV}{v:Value}(hh:eX (ctx z z.w z.E bP) σ)(hlt:qS z)(ho:Out z w' E')(hr:eX (ctx z w' E' bP) σ1)(rv:ak (ctx z w' E' bP) x v)(k3:e9 σ x σ1=δ (r,σ')):
  ∃gb,Out z w' gb/\eX (ctx z w' gb bP) σ'/\ak (ctx z w' gb bP) r v:=by
 unfold e9 at k3;split at k3
 ·rename_i he;simp only[ξ,Δ]at k3;obtain⟨rfl,rfl⟩:=k3;exact⟨E',ho,by rw[<-he];exact hr,rv⟩
 ·split at k3
  ·rename_i he;obtain⟨r',k6,k7⟩:=bX.1 k3;simp only[Δ]at k7;obtain⟨rfl,rfl⟩:=k7;have hlen:=hr.len;simp only[ctx]at hlen;have hzl:z.E.length=σ.length:=hh.len
   have hle2:σ.length<=σ1.length:=by have:=congrArg Xg he;simp at this;omega
   have oq:∀(id:Nat)(p:Pl),id<σ.length->E'[id]? =δ p->(E'.take σ.length)[id]? =δ p:=λid p hlt' hp=>by rw[Wo hlt'];exact hp
   have me:∀(id:Nat)(p:Pl),(E'.take σ.length)[id]? =δ p->id<σ.length/\E'[id]? =δ p:=λid p hp=>by
    rw[X4]at hp;split at hp
    ·exact⟨by assumption,hp⟩
    ·cases hp
   have oM:rZ (ctx z w' E' bP) (ctx z w' (E'.take σ.length) bP) σ1 σ.length:=by
    refine⟨rfl,rfl,λb k=>?_,oq,hr,λid p hge hp k=>?_⟩
    ·rcases k with k|⟨p,hp,k⟩|⟨i,k⟩
     ·exact .inl k
     ·exact .inr (.inl ⟨p,wq hp,k⟩)
     ·cases k
    ·rcases k with k|⟨q,hq,k⟩|⟨i,k⟩
     ·have hb:=hlt _ k;rcases ho.fresh' id p hp with e|⟨q,hq,_⟩
      ·omega
      ·rw[iW (by omega)]at hq;cases hq
     ·obtain⟨j,hj,rfl⟩:=Wg.1 hq;obtain⟨h1,h2⟩:=me j _ (cA hj);have:=hr.inj j id _ p h2 hp k;omega
     ·cases k
   have heq:∀(id:Nat),id<σ.length->σ[id]? =σ1[id]? :=λid hlt'=>by have h1:(List.take σ.length σ1)[id]? =σ1[id]? :=Wo hlt';rw[he]at h1;exact h1
   have held:sA (ctx z z.w z.E bP) (ctx z w' E' bP) (ctx z w' (E'.take σ.length) bP):=
    ⟨rfl,rfl,oM.X,λid p0 p e0 e1=>oq id p (by have:=(bB.1 e0).1;simp only[ctx]at this;omega) e1⟩
   refine⟨E'.take σ.length,?_,?_,sW oM 8 _ _ _ k6 rv⟩
   ·have o:=ho
    exact⟨o.os,o.tape,o.output,o.size,o.stay,λi p hp=>o.fresh' i p (me i p hp).2,λi p hp=>by
     obtain⟨p',m1,m2⟩:=o.env i p hp
     exact⟨p',oq i p' (by have:=(bB.1 hp).1;omega) m1,m2⟩,o.lt,o.mine⟩
   ·refine⟨by simp only[ctx,nT];omega,λi j p q hp hq e=>hr.inj i j p q (me i p hp).2 (me j q hq).2 e,λi p x hp hx=>?_⟩;obtain⟨hi,hp2⟩:=me i p hp;have hz0:z.E[i]? =δ z.E[i]:=cA (by omega);exact Fy held (hh.blk i _ x hz0 hx) (hr.blk i p x hp2 (by rw[<-heq i hi];exact hx))
  ·cases k3
theorem Sound.qd{m:List AV->Heap->Option (AV×Heap)}(h:Sound P nm f m)(sh:Sh)(hs:sh.ok=ι):Sound P nm f (A.qd sh m):=by
 intro args σ r σ' e;unfold A.qd at e;obtain⟨⟨x,σ1⟩,e1,e2⟩:=bl.1 e;obtain⟨⟨y,σ2⟩,e3,e4⟩:=bX.1 e2;simp only[Δ]at e4;obtain⟨rfl,rfl⟩:=e4;rcases h _ _ _ _ e1 with⟨g,h1,h2⟩|h2
 ·refine .inl ⟨g,h1,λz vs k1 k2 hh k4=>?_⟩;refine(h2 z vs k1 k2 hh k4).mono ?_;rintro e w' ⟨v,E',q1,q2,q3,q4⟩;obtain⟨gb,p1,p2,p3⟩:=Rp hh k2 q2 q3 q4 e3;exact⟨v,gb,q1,p1,p2,AI _ _ _ hs p3⟩
 ·refine .inr λz vs k1 k2 hh k4=>?_
  obtain⟨v,w',E',q1,q2,q3,q4⟩:=h2 z vs k1 k2 hh k4;obtain⟨gb,p1,p2,p3⟩:=Rp hh k2 q2 q3 q4 e3;exact⟨v,w',gb,q1,p1,p2,AI _ _ _ hs p3⟩
theorem Sound.wrap{r:List AV->Heap->Option (AV×Heap)}(h:Sound P nm f r)(ro:Bool)(cm:List Sh)(dn:Sh)(hi:Sh.fD cm=ι)(ho:dn.ok=ι):Sound P nm f (A.wrap ro cm dn r):=by
 intro args σ v σ' e;unfold A.wrap at e;cases hc:(ro&&args.any A.own)
 ·rw[hc]at e;simp only[aS]at e;obtain⟨q,e1,e2⟩:=bX.1 e;injection e2 with e2 e3
  subst e2 e3;exact(h _ _ _ _ e1).conv (λc vs k=>Cn _ _ _ hi k) (λc v k=>AI _ _ _ ho k)
 ·rw[hc]at e;simp only[bg]at e;obtain⟨args',e1,e2⟩:=bl.1 e;obtain⟨q,e3,e4⟩:=bl.1 e2;obtain⟨q1,q2⟩:=q;simp only at e4;cases hs:(A.tc (A.nn dn q1)&&q2.all A.xH)
  ·rw[hs]at e4;cases e4
  ·rw[hs]at e4;simp only[bg,ξ,Δ]at e4;obtain⟨rfl,rfl⟩:=e4;simp only[eF]at hs;exact((h _ _ _ _ e3).conv (args:=args') (λc vs k=>Cn _ _ _ hi k) (λc v k=>AI _ _ _ ho k)).GG e1 hs.1 hs.2
end
theorem ct.of{X:Fx}{t:List (FuncId×(List AV->Heap->Option (AV×Heap)))}(hc:X.call=U8 (λ_ _=>η) t) (ht:∀p∈t,Sound X.P X.nm p.1 p.2) (hd:∀f,Sound X.P X.nm f (X.dyn (X.nm.getD f 0))):ct X:=by
 refine⟨λf args σ r σ' h=>?_,λf=>hd f⟩;rw[hc]at h;clear hc;induction t with
 |nil=>cases h
 |cons p t ih=>
  obtain⟨m,x⟩:=p;simp only[U8]at h;cases hm:(f==m)
  ·rw[hm]at h;exact ih (λp hp=>ht p (iB _ hp)) h
  ·rw[hm]at h;have:f=m:=by simpa using hm
   subst this;exact ht (f,x) (u0) _ _ _ _ h
theorem Sound.none{P:Program}{nm:List Nat}{f:FuncId}:Sound P nm f (λ_ _=>Option.none):=λ_ _ _ _ h=>by cases h
theorem aR.nil{P:Program}{nm:List Nat}:∀p∈([]:List (FuncId×(List AV->Heap->Option (AV×Heap)))),Sound P nm p.1 p.2:=λ_ h=>by cases h
theorem aR.cons{P:Program}{nm:List Nat}{f:FuncId}{m:List AV->Heap->Option (AV×Heap)}{l:List (FuncId×(List AV->Heap->Option (AV×Heap)))}(h:Sound P nm f m)(t:∀p∈l,Sound P nm p.1 p.2):∀p∈(f,m)::l,Sound P nm p.1 p.2:=
 λp hp=>by rcases eo.1 hp with rfl|hp;exact h;exact t p hp
theorem eR.nil{P:Program}{nm:List Nat}:∀p∈([]:List (Nat×(List AV->Heap->Option (AV×Heap)))),∀f,nm.getD f 0=p.1->Sound P nm f p.2:=λ_ h=>by cases h
theorem eR.cons{P:Program}{nm:List Nat}{k:Nat}{m:List AV->Heap->Option (AV×Heap)}{l:List (Nat×(List AV->Heap->Option (AV×Heap)))}(h:∀f,nm.getD f 0=k->Sound P nm f m)(t:∀p∈l,∀f,nm.getD f 0=p.1->Sound P nm f p.2):∀p∈(k,m)::l,∀f,nm.getD f 0=p.1->Sound P nm f p.2:=
 λp hp=>by rcases eo.1 hp with rfl|hp;exact h;exact t p hp
theorem rO{P:Program}{nm:List Nat}{t:List (Nat×(List AV->Heap->Option (AV×Heap)))}(ht:∀p∈t,∀f,nm.getD f 0=p.1->Sound P nm f p.2)(f:FuncId):Sound P nm f (U8 (λ_ _=>Option.none) t (nm.getD f 0)):=by
 induction t with
 |nil=>exact Sound.none
 |cons p t ih=>
  obtain⟨k,x⟩:=p;simp only[U8];cases hm:(nm.getD f 0==k)
  ·exact ih (λp hp=>ht p (iB _ hp))
  ·exact ht (k,x) u0 f (by simpa using hm)
theorem ado{nm:List Nat}{k g:Nat}(h:(nm.zipIdx.filter λp=>p.1==k)=[(k,g)]) (hk:(0==k)=θ) {f:Nat} (hf:nm.getD f 0=k):f=g:=by
 have hlt:f<nm.length:=by
  rcases Nat.lt_or_ge f nm.length with e|e
  ·exact e
  ·simp only[Yn,iW e,Xn]at hf;subst hf;simp at hk
 have:(k,f)∈nm.zipIdx.filter λp=>p.1==k:=by refine Y2.2 ⟨rX.2 ⟨f,?_⟩,by simp⟩;simp only[Yn]at hf;rw[cA hlt]at hf;simp [cA hlt,<-hf]
 rw[h]at this;simpa using this
theorem kJ{P:Program}{nm:List Nat}{k g:Nat}{m:List AV->Heap->Option (AV×Heap)}(hs:Sound P nm g m)(h:(nm.zipIdx.filter λp=>p.1==k)=[(k,g)]) (hk:(0==k)=θ):∀f,nm.getD f 0=k->Sound P nm f m:=
 λf hf=>by have e:=ado h hk hf;subst e;exact hs
def fuel(F:(Nat->List AV->Heap->Option (AV×Heap))->List (Nat×(List AV->Heap->Option (AV×Heap)))):Nat->Nat->List AV->Heap->Option (AV×Heap)
 |0,_=>λ_ _=>η
 |n+1,k=>U8 (λ_ _=>η) (F (fuel F n)) k
theorem xx{P:Program}{nm:List Nat}{F:(Nat->List AV->Heap->Option (AV×Heap))->List (Nat×(List AV->Heap->Option (AV×Heap)))}
  (h:∀rec,(∀f,Sound P nm f (rec (nm.getD f 0)))->∀p∈F rec,∀f,nm.getD f 0=p.1->Sound P nm f p.2):∀n f,Sound P nm f (fuel F n (nm.getD f 0))
 |0,f=>Sound.none
 |n+1,f=>rO (h (fuel F n) (xx h n)) f
namespace A
def bZ(f:AV->Heap->Option (AV×Heap)):List AV->Heap->Option (AV×Heap)
 |[x0],σ=>f x0 σ
 |_,_=>η
def eD(f:AV->AV->Heap->Option (AV×Heap)):List AV->Heap->Option (AV×Heap)
 |[x0,x1],σ=>f x0 x1 σ
 |_,_=>η
def pg(f:AV->AV->AV->Heap->Option (AV×Heap)):List AV->Heap->Option (AV×Heap)
 |[x0,x1,x2],σ=>f x0 x1 x2 σ
 |_,_=>η
def qT(f:AV->AV->AV->AV->Heap->Option (AV×Heap)):List AV->Heap->Option (AV×Heap)
 |[x0,x1,x2,x3],σ=>f x0 x1 x2 x3 σ
 |_,_=>η
def uO(f:AV->AV->AV->AV->AV->Heap->Option (AV×Heap)):List AV->Heap->Option (AV×Heap)
 |[x0,x1,x2,x3,x4],σ=>f x0 x1 x2 x3 x4 σ
 |_,_=>η
def MK(f:AV->AV->AV->AV->AV->AV->Heap->Option (AV×Heap)):List AV->Heap->Option (AV×Heap)
 |[x0,x1,x2,x3,x4,x5],σ=>f x0 x1 x2 x3 x4 x5 σ
 |_,_=>η
def ML(f:AV->AV->AV->AV->AV->AV->AV->Heap->Option (AV×Heap)):List AV->Heap->Option (AV×Heap)
 |[x0,x1,x2,x3,x4,x5,x6],σ=>f x0 x1 x2 x3 x4 x5 x6 σ
 |_,_=>η
end A
section
variable {X : Fx} {f : FuncId} {fn : Func} {bH : jx}
theorem Sound.agV{m:List AV->Heap->Option (AV×Heap)}(keep:lX)(hkeep:keep.Ok)(hs:ct X)(hf:X.P.funcs[f]? =δ fn)(hc:∀bQ w,(callFunc f bQ).run X.P w=.ok (.enter f bQ) w)(he:∀args (σ:Heap) r,m args σ=δ r->lu X keep bH fn args σ=δ r):Sound X.P X.nm f m:=
 λargs σ r σ' h=>vO hs hkeep hf hc (he args σ (r,σ') h)
theorem Sound.tK{m:AV->Heap->Option (AV×Heap)}(keep:lX)(hkeep:keep.Ok)(hs:ct X)(hf:X.P.funcs[f]? =δ fn)(hc:∀bQ w,(callFunc f bQ).run X.P w=.ok (.enter f bQ) w)(he:∀(x0:AV) (σ:Heap),lu X keep bH fn [x0] σ=m x0 σ):Sound X.P X.nm f (A.bZ m):=by
 intro args σ r σ' h;unfold A.bZ at h;split at h
 ·exact vO hs hkeep hf hc ((he _ _).trans h)
 ·cases h
theorem Sound.sx{m:AV->AV->Heap->Option (AV×Heap)}(keep:lX)(hkeep:keep.Ok)(hs:ct X)(hf:X.P.funcs[f]? =δ fn)(hc:∀bQ w,(callFunc f bQ).run X.P w=.ok (.enter f bQ) w)(he:∀(x0 x1:AV) (σ:Heap),lu X keep bH fn [x0,x1] σ=m x0 x1 σ):Sound X.P X.nm f (A.eD m):=by
 intro args σ r σ' h;unfold A.eD at h;split at h
 ·exact vO hs hkeep hf hc ((he _ _ _).trans h)
 ·cases h
theorem Sound.GM{m:AV->AV->AV->Heap->Option (AV×Heap)}(keep:lX)(hkeep:keep.Ok)(hs:ct X)(hf:X.P.funcs[f]? =δ fn)(hc:∀bQ w,(callFunc f bQ).run X.P w=.ok (.enter f bQ) w)(he:∀(x0 x1 x2:AV) (σ:Heap),lu X keep bH fn [x0,x1,x2] σ=m x0 x1 x2 σ):Sound X.P X.nm f (A.pg m):=by
 intro args σ r σ' h;unfold A.pg at h;split at h
 ·exact vO hs hkeep hf hc ((he _ _ _ _).trans h)
 ·cases h
theorem Sound.Mf{m:AV->AV->AV->AV->Heap->Option (AV×Heap)}(keep:lX)(hkeep:keep.Ok)(hs:ct X)(hf:X.P.funcs[f]? =δ fn)(hc:∀bQ w,(callFunc f bQ).run X.P w=.ok (.enter f bQ) w)(he:∀(x0 x1 x2 x3:AV) (σ:Heap),lu X keep bH fn [x0,x1,x2,x3] σ=m x0 x1 x2 x3 σ):Sound X.P X.nm f (A.qT m):=by
 intro args σ r σ' h;unfold A.qT at h;split at h
 ·exact vO hs hkeep hf hc ((he _ _ _ _ _).trans h)
 ·cases h
theorem Sound.Mg{m:AV->AV->AV->AV->AV->Heap->Option (AV×Heap)}(keep:lX)(hkeep:keep.Ok)(hs:ct X)(hf:X.P.funcs[f]? =δ fn)(hc:∀bQ w,(callFunc f bQ).run X.P w=.ok (.enter f bQ) w)(he:∀(x0 x1 x2 x3 x4:AV) (σ:Heap),lu X keep bH fn [x0,x1,x2,x3,x4] σ=m x0 x1 x2 x3 x4 σ):Sound X.P X.nm f (A.uO m):=by
 intro args σ r σ' h;unfold A.uO at h;split at h
 ·exact vO hs hkeep hf hc ((he _ _ _ _ _ _).trans h)
 ·cases h
theorem Sound.agT{m:AV->AV->AV->AV->AV->AV->Heap->Option (AV×Heap)}(keep:lX)(hkeep:keep.Ok)(hs:ct X)(hf:X.P.funcs[f]? =δ fn)(hc:∀bQ w,(callFunc f bQ).run X.P w=.ok (.enter f bQ) w)(he:∀(x0 x1 x2 x3 x4 x5:AV) (σ:Heap),lu X keep bH fn [x0,x1,x2,x3,x4,x5] σ=m x0 x1 x2 x3 x4 x5 σ):Sound X.P X.nm f (A.MK m):=by
 intro args σ r σ' h;unfold A.MK at h;split at h
 ·exact vO hs hkeep hf hc ((he _ _ _ _ _ _ _).trans h)
 ·cases h
theorem Sound.agU{m:AV->AV->AV->AV->AV->AV->AV->Heap->Option (AV×Heap)}(keep:lX)(hkeep:keep.Ok)(hs:ct X)(hf:X.P.funcs[f]? =δ fn)(hc:∀bQ w,(callFunc f bQ).run X.P w=.ok (.enter f bQ) w)(he:∀(x0 x1 x2 x3 x4 x5 x6:AV) (σ:Heap),lu X keep bH fn [x0,x1,x2,x3,x4,x5,x6] σ=m x0 x1 x2 x3 x4 x5 x6 σ):Sound X.P X.nm f (A.ML m):=by
 intro args σ r σ' h;unfold A.ML at h;split at h
 ·exact vO hs hkeep hf hc ((he _ _ _ _ _ _ _ _).trans h)
 ·cases h
end
end
open Sound renaming sx->XL,tK->alV,wrap->p6,none->VY
open A renaming eD->XQ,bZ->XJ,wrap->Φ
open Sh renaming fD->YW
open ct renaming of->Zl
abbrev iK:Sh:=(.a [.k,.k,.k,(.s 4)])
abbrev GW:Sh:=(.t [(.a [.k,.k,(.e 7 [.k,.k,.k,.k,.k,.k,(.s 3)])]),.k])
section
def aK:List Nat:=[0,0,0,468,473,0,0,463,467,39,49,458,53,471,469,472,36,35,0,0,500,462,466,37,38,46,48,14,139,44,74,76,79,52,470,490,475,0,476,487,492,498,493,495,499,0,461,465,1,4,47,69,13,71,73,2,138,42,43,41,75,454,456,457,77,78,474,489,477,491,497,494,0,464,63,66,67,68,70,72,0,40,455,9,0,488,0,496,0,0,62,65,64,0,0,0,0,0,0,0,59,60,61,0,0,0,0,257,0,0,0,58,0,0,0,0,0,0,0,0,0,0,0,479,478,480,483,482,0,0,0,0,486,481,0,0,0,0,0,0,0,0,0,484,485,0,0,0,0,0,0,0,0,0,0,0,0,0,0,0,0,0,0,0,0,0,0,0,0,0,0,0,0,0,0,0,0]
section
variable {l : List (FuncId × (aq -> Heap -> aG))} {f : FuncId} {fn : Func} {ro : Bool} {cm : List Sh} {dn : Sh}
def yP (l:List (FuncId×(aq->Heap->aG))) (L:List Nat) (n:Nat):Fx:=⟨Tryd.prog,aK,U8 (λ_ _=>η) l,λ_ _ _=>η,L,[],n,[]⟩
theorem q1{m:AV->Heap->aG}(L:List Nat)(n:Nat)(bH:jx)(h:∀p∈l,Sound Tryd.prog aK p.1 p.2)(hf:Tryd.prog.funcs[f]? =δ fn)(hc:∀bQ w,(callFunc f bQ).run Tryd.prog w=.ok (.enter f bQ) w)(he:∀(x0:AV) (σ:Heap),lu (yP l L n) .F bH fn [x0] σ=m x0 σ)(hi:YW cm=ι)(ho:dn.ok=ι):Sound Tryd.prog aK f (Φ ro cm dn (XJ m)):=p6 (alV .F trivial (Zl rfl h λ_=>VY) hf hc he) _ _ _ hi ho
theorem q2{m:AV->AV->Heap->aG}(L:List Nat)(n:Nat)(bH:jx)(h:∀p∈l,Sound Tryd.prog aK p.1 p.2)(hf:Tryd.prog.funcs[f]? =δ fn)(hc:∀bQ w,(callFunc f bQ).run Tryd.prog w=.ok (.enter f bQ) w)(he:∀(x0 x1:AV) (σ:Heap),lu (yP l L n) .F bH fn [x0,x1] σ=m x0 x1 σ)(hi:YW cm=ι)(ho:dn.ok=ι):Sound Tryd.prog aK f (Φ ro cm dn (XQ m)):=p6 (XL .F trivial (Zl rfl h λ_=>VY) hf hc he) _ _ _ hi ho
theorem q3{m:AV->AV->AV->Heap->aG}(L:List Nat)(n:Nat)(bH:jx)(h:∀p∈l,Sound Tryd.prog aK p.1 p.2)(hf:Tryd.prog.funcs[f]? =δ fn)(hc:∀bQ w,(callFunc f bQ).run Tryd.prog w=.ok (.enter f bQ) w)(he:∀(x0 x1 x2:AV) (σ:Heap),lu (yP l L n) .F bH fn [x0,x1,x2] σ=m x0 x1 x2 σ)(hi:YW cm=ι)(ho:dn.ok=ι):Sound Tryd.prog aK f (Φ ro cm dn (A.pg m)):=p6 (Sound.GM .F trivial (Zl rfl h λ_=>VY) hf hc he) _ _ _ hi ho
theorem q4{m:AV->AV->AV->AV->Heap->aG}(L:List Nat)(n:Nat)(bH:jx)(h:∀p∈l,Sound Tryd.prog aK p.1 p.2)(hf:Tryd.prog.funcs[f]? =δ fn)(hc:∀bQ w,(callFunc f bQ).run Tryd.prog w=.ok (.enter f bQ) w)(he:∀(x0 x1 x2 x3:AV) (σ:Heap),lu (yP l L n) .F bH fn [x0,x1,x2,x3] σ=m x0 x1 x2 x3 σ)(hi:YW cm=ι)(ho:dn.ok=ι):Sound Tryd.prog aK f (Φ ro cm dn (A.qT m)):=p6 (Sound.Mf .F trivial (Zl rfl h λ_=>VY) hf hc he) _ _ _ hi ho
theorem q5{m:AV->AV->AV->AV->AV->Heap->aG}(L:List Nat)(n:Nat)(bH:jx)(h:∀p∈l,Sound Tryd.prog aK p.1 p.2)(hf:Tryd.prog.funcs[f]? =δ fn)(hc:∀bQ w,(callFunc f bQ).run Tryd.prog w=.ok (.enter f bQ) w)(he:∀(x0 x1 x2 x3 x4:AV) (σ:Heap),lu (yP l L n) .F bH fn [x0,x1,x2,x3,x4] σ=m x0 x1 x2 x3 x4 σ)(hi:YW cm=ι)(ho:dn.ok=ι):Sound Tryd.prog aK f (Φ ro cm dn (A.uO m)):=p6 (Sound.Mg .F trivial (Zl rfl h λ_=>VY) hf hc he) _ _ _ hi ho
theorem q6{m:AV->AV->AV->AV->AV->AV->Heap->aG}(L:List Nat)(n:Nat)(bH:jx)(h:∀p∈l,Sound Tryd.prog aK p.1 p.2)(hf:Tryd.prog.funcs[f]? =δ fn)(hc:∀bQ w,(callFunc f bQ).run Tryd.prog w=.ok (.enter f bQ) w)(he:∀(x0 x1 x2 x3 x4 x5:AV) (σ:Heap),lu (yP l L n) .F bH fn [x0,x1,x2,x3,x4,x5] σ=m x0 x1 x2 x3 x4 x5 σ)(hi:YW cm=ι)(ho:dn.ok=ι):Sound Tryd.prog aK f (Φ ro cm dn (A.MK m)):=p6 (Sound.agT .F trivial (Zl rfl h λ_=>VY) hf hc he) _ _ _ hi ho
theorem q7{m:AV->AV->AV->AV->AV->AV->AV->Heap->aG}(L:List Nat)(n:Nat)(bH:jx)(h:∀p∈l,Sound Tryd.prog aK p.1 p.2)(hf:Tryd.prog.funcs[f]? =δ fn)(hc:∀bQ w,(callFunc f bQ).run Tryd.prog w=.ok (.enter f bQ) w)(he:∀(x0 x1 x2 x3 x4 x5 x6:AV) (σ:Heap),lu (yP l L n) .F bH fn [x0,x1,x2,x3,x4,x5,x6] σ=m x0 x1 x2 x3 x4 x5 x6 σ)(hi:YW cm=ι)(ho:dn.ok=ι):Sound Tryd.prog aK f (Φ ro cm dn (A.ML m)):=p6 (Sound.agU .F trivial (Zl rfl h λ_=>VY) hf hc he) _ _ _ hi ho
end
end
abbrev bA(n:Int):Prop:=-9223372036854775808<=n/\n<=9223372036854775807
abbrev bD:Nat:=9223372036854775807
def gy{κ:Type}[DecidableEq κ](k:κ)(S:List κ):Bool:=S.any λx=>decide (x=k)
theorem JQ{κ:Type}[DecidableEq κ]{k:κ}{S:List κ}:gy k S=ι↔k∈S:=by simp only[gy,alW,decide_eq_true_eq];exact⟨λ⟨x,h,e⟩=>e▸h,λh=>⟨k,h,rfl⟩⟩
theorem E9{κ:Type}[DecidableEq κ]{k:κ}{S:List κ}:gy k S=θ↔k∉S:=by rw[<-JQ];simp
def aO(n:Int):aq:=[.ah n]
def afA(s:ByteArray):aq:=[.str s]
def sl{α:Type}(sz:Nat)(c:α->aq)(l:List α):AV:=.sl sz (l.map c)
def fD{α:Type}(p:α->Prop)(l:List α):Prop:=l.length<=bD/\∀x∈l,p x
def gW(s:ByteArray):Prop:=s.size<=bD
theorem oI(n:Int):Θ 0 (aO n)=δ (.ah n):=rfl
theorem RV(s:ByteArray):Θ 0 (afA s)=δ (.str s):=rfl
structure Sk where
 time:Int
 way:Int
deriving DecidableEq
structure Kk where
 kind:Int
 ady:(List Sk)
structure S6 where
 aT:Int
 to:Int
 start:Int
 KO:Int
 time:Int
 KN:Kk
structure abw where
 time:Int
 level:Int
deriving DecidableEq
structure mF where
 low:Int
 high:Int
 name:ByteArray
deriving DecidableEq
def lR(x:mF):aq:=[.ah x.low,.ah x.high,.str x.name]
theorem alG(x:mF):(lR x).length=3:=rfl
def Ke(x:mF):Prop:=bA x.low/\bA x.high/\gW x.name
theorem E1(x:mF):Θ 0 (lR x)=δ (.ah x.low):=rfl
theorem E3(x:mF):Θ 1 (lR x)=δ (.ah x.high):=rfl
theorem E4(x:mF):Θ 2 (lR x)=δ (.str x.name):=rfl
theorem Fp(x:mF):Ze 0 3 (lR x)=δ (.agg (lR x)):=rfl
theorem Fh(x:mF):i7 3 (.agg (lR x))=δ (lR x):=rfl
theorem Fv(x:mF)(l:aq)(h:l.length=3):y9 0 (lR x) l=δ (lR x):=by simp [y9,alG,h]
structure gY where
 name:ByteArray
 group:Int
 mj:Int
 kW:Int
 default:Int
 snap:Bool
 ranges:(List mF)
def iS(x:gY):aq:=[.str x.name,.ah x.group,.ah x.mj,.ah x.kW,.ah x.default,.bool x.snap,sl 3 lR x.ranges]
theorem aje(x:gY):(iS x).length=7:=rfl
def RN(x:gY):Prop:=gW x.name/\bA x.group/\bA x.mj/\bA x.kW/\bA x.default/\(fD Ke) x.ranges
theorem IP(x:gY):Θ 0 (iS x)=δ (.str x.name):=rfl
theorem IQ(x:gY):Θ 1 (iS x)=δ (.ah x.group):=rfl
theorem IS(x:gY):Θ 2 (iS x)=δ (.ah x.mj):=rfl
theorem IT(x:gY):Θ 3 (iS x)=δ (.ah x.kW):=rfl
theorem IU(x:gY):Θ 4 (iS x)=δ (.ah x.default):=rfl
theorem IV(x:gY):Θ 5 (iS x)=δ (.bool x.snap):=rfl
theorem IW(x:gY):Θ 6 (iS x)=δ (sl 3 lR x.ranges):=rfl
theorem Jy(x:gY):Ze 0 7 (iS x)=δ (.agg (iS x)):=rfl
theorem Jq(x:gY):i7 7 (.agg (iS x))=δ (iS x):=rfl
theorem JF(x:gY)(l:aq)(h:l.length=7):y9 0 (iS x) l=δ (iS x):=by simp [y9,aje,h]
structure cO where
 name:ByteArray
 size:Int
 params:(List gY)
def fA(x:cO):aq:=[.str x.name,.ah x.size,sl 7 iS x.params]
theorem alA(x:cO):(fA x).length=3:=rfl
def Fm(x:cO):Prop:=gW x.name/\bA x.size/\(fD RN) x.params
theorem nw(x:cO):Θ 0 (fA x)=δ (.str x.name):=rfl
theorem nA(x:cO):Θ 1 (fA x)=δ (.ah x.size):=rfl
theorem nB(x:cO):Θ 2 (fA x)=δ (sl 7 iS x.params):=rfl
theorem nD(x:cO):Ze 0 3 (fA x)=δ (.agg (fA x)):=rfl
theorem nC(x:cO):i7 3 (.agg (fA x))=δ (fA x):=rfl
theorem nE(x:cO)(l:aq)(h:l.length=3):y9 0 (fA x) l=δ (fA x):=by simp [y9,alA,h]
structure dZ where
 aI:Int
 gM:ByteArray
 univ:Int
 address:Int
deriving DecidableEq
def dJ(x:dZ):aq:=[.ah x.aI,.str x.gM,.ah x.univ,.ah x.address]
theorem ZN(x:dZ):(dJ x).length=4:=rfl
def SM(x:dZ):Prop:=bA x.aI/\gW x.gM/\bA x.univ/\bA x.address
theorem jU(x:dZ):Θ 0 (dJ x)=δ (.ah x.aI):=rfl
theorem lH(x:dZ):Θ 1 (dJ x)=δ (.str x.gM):=rfl
theorem lI(x:dZ):Θ 2 (dJ x)=δ (.ah x.univ):=rfl
theorem lJ(x:dZ):Θ 3 (dJ x)=δ (.ah x.address):=rfl
theorem kK(x:dZ):Ze 0 4 (dJ x)=δ (.agg (dJ x)):=rfl
theorem jW(x:dZ):i7 4 (.agg (dJ x))=δ (dJ x):=rfl
theorem kL(x:dZ)(l:aq)(h:l.length=4):y9 0 (dJ x) l=δ (dJ x):=by simp [y9,ZN,h]
structure cS where
 cB:(List cO)
 eZ:(List dZ)
def cZ(x:cS):aq:=[sl 3 fA x.cB,sl 4 dJ x.eZ]
theorem aaF(x:cS):(cZ x).length=2:=rfl
def pW(x:cS):Prop:=(fD Fm) x.cB/\(fD SM) x.eZ
theorem sR(x:cS):Θ 0 (cZ x)=δ (sl 3 fA x.cB):=rfl
theorem rG(x:cS):Θ 1 (cZ x)=δ (sl 4 dJ x.eZ):=rfl
theorem rN(x:cS):Ze 0 2 (cZ x)=δ (.agg (cZ x)):=rfl
theorem rM(x:cS):i7 2 (.agg (cZ x))=δ (cZ x):=rfl
theorem sX(x:cS)(l:aq)(h:l.length=2):y9 0 (cZ x) l=δ (cZ x):=by simp [y9,aaF,h]
structure cK where
 unit:Int
 param:ByteArray
deriving DecidableEq
def eC(x:cK):aq:=[.ah x.unit,.str x.param]
theorem aaE(x:cK):(eC x).length=2:=rfl
def aep(x:cK):Prop:=bA x.unit/\gW x.param
theorem acB(x:cK)(l:aq)(h:l.length=2):y9 0 (eC x) l=δ (eC x):=by simp [y9,aaE,h]
structure pJ where
 key:cK
 level:Int
deriving DecidableEq
def jV(x:pJ):aq:=[.ah x.key.unit,.str x.key.param,.ah x.level]
theorem alz(x:pJ):(jV x).length=3:=rfl
def P8(x:pJ):Prop:=aep x.key/\bA x.level
theorem ald(x:pJ):Θ 0 (jV x)=δ (.ah x.key.unit):=rfl
theorem akm(x:pJ):Ze 0 3 (jV x)=δ (.agg (jV x)):=rfl
theorem akJ(x:pJ):i7 3 (.agg (jV x))=δ (jV x):=rfl
theorem O4(x:pJ)(l:aq)(h:l.length=3):y9 0 (jV x) l=δ (jV x):=by simp [y9,alz,h]
structure eE where
 aI:Int
 title:ByteArray
 gC:(List pJ)
def eA(x:eE):aq:=[.ah x.aI,.str x.title,sl 3 jV x.gC]
theorem Yo(x:eE):(eA x).length=3:=rfl
def uq(x:eE):Prop:=bA x.aI/\gW x.title/\(fD P8) x.gC
theorem XY(x:eE):Θ 0 (eA x)=δ (.ah x.aI):=rfl
theorem XZ(x:eE):Θ 2 (eA x)=δ (sl 3 jV x.gC):=rfl
theorem ak0(x:eE):Ze 0 3 (eA x)=δ (.agg (eA x)):=rfl
theorem Y5(x:eE):i7 3 (.agg (eA x))=δ (eA x):=rfl
theorem PB(x:eE)(l:aq)(h:l.length=3):y9 0 (eA x) l=δ (eA x):=by simp [y9,Yo,h]
structure aew where
 ajj:(List Int)
 block:Int
 ajG:Int
structure Kl where
 level:Int
 ajp:Int
deriving DecidableEq
structure Ge where
 key:cK
 value:Kl
 release:Bool
 ajF:Bool
 KO:Int
 time:Int
deriving DecidableEq
structure uH where
 aI:Int
 title:ByteArray
 KO:Int
 up:Int
 down:Int
 other:Int
 KN:Kk
 block:Bool
 SA:Int
 Gn:(List Ge)
structure acM where
 key:cK
 value:Kl
 U5:Int
deriving DecidableEq
structure adP where
 unit:Int
 aT:Int
 to:Int
deriving DecidableEq
structure S7 where
 aI:Int
 ajQ:(List uH)
structure PI where
 aI:Int
 list:Int
 ajh:Int
deriving DecidableEq
structure acP where
 rig:cS
 ajl:(List eE)
 ajD:(List S7)
 ajg:(List PI)
structure Rc where
 time:Int
 kind:Int
 abb:Int
 U5:Int
 level:Int
deriving DecidableEq
structure acN where
 mj:Int
 action:Rc
deriving DecidableEq
structure acQ where
 hours:Int
 minutes:Int
 seconds:Int
 frames:Int
deriving DecidableEq
structure TL where
 key:cK
 afJ:S6
 ajw:Int
 ending:Bool
structure ZI where
 abb:Int
 U5:Int
 ajz:Int
 ajn:Bool
 SA:Int
 runs:(List TL)
structure OL where
 level:Int
 hold:Int
 afJ:Int
deriving DecidableEq
structure Re where
 form:Int
 low:Int
 high:Int
 ajx:Int
 width:Int
 spread:Int
 back:Bool
 aji:Bool
 steps:(List OL)
structure S8 where
 time:Int
 ajk:Int
deriving DecidableEq
structure aay where
 effect:Re
 keys:(List cK)
 start:Int
 ajE:(List S8)
 Bj:Int
 fin:Int
 out:Int
def Ia:aq->Heap->aG:=XQ λa b σ=>match a,b with
 |.str a,.str b=>δ (.int Ξ (Xr a.data.toList b.data.toList),σ)
 |_,_=>η
section
def Ez (dyn:Nat->aq->Heap->aG) (a0 a1:AV) (σ:Heap):aG:=(WJ a0).bind λx1=>(s9 (λv2 s3=>(p9 (aj v2 1) x1).bind λx5=>χ x5 ((EY 3 a0 (aj v2 1)).bind λx6=>((ψ x6 s3).bind λc7=>Ze 0 3 c7).bind λx8=>(A.gP dyn a1 [x8] s3).bind λr9=>χ r9.1 (δ (l7,[(aj v2 1),(aj v2 1)],r9.2)) ((o7 (aj v2 1) (ε 1)).bind λbE=>δ (ir,[(aj v2 0),bE],r9.2))) (δ (Γ 0,[(aj v2 0),(aj v2 1)],s3))) [(ε 0),(ε 0)] σ).bind λeN=>bif eN.1==Γ 0 then(e9 σ (ε (-1)) eN.2.2)else bif eN.1==l7 then(e9 σ (aj eN.2.1 0) eN.2.2)else η
def Ex (dyn:Nat->aq->Heap->aG):aq->Heap->aG:=Φ ι [(.s 3)] .k (XQ (Ez dyn))
def H9 (a0 a1:AV) (σ:Heap):aG:=(WJ a0).bind λx1=>(s9 (λv2 s3=>(p9 (aj v2 1) x1).bind λx5=>χ x5 ((EY 1 a0 (aj v2 1)).bind λx6=>((ψ x6 s3).bind λc7=>Θ 0 c7).bind λx8=>(z7 .i a1 x8).bind λx9=>χ x9 (δ (l7,[(aj v2 1),(aj v2 1)],s3)) ((o7 (aj v2 1) (ε 1)).bind λbE=>δ (ir,[(aj v2 0),bE],s3))) (δ (Γ 0,[(aj v2 0),(aj v2 1)],s3))) [(ε 0),(ε 0)] σ).bind λeN=>bif eN.1==Γ 0 then(e9 σ (ε (-1)) eN.2.2)else bif eN.1==l7 then(e9 σ (aj eN.2.1 0) eN.2.2)else η
def HZ:aq->Heap->aG:=Φ ι [(.s 1)] .k (XQ H9)
def HX (a0 a1:AV) (σ:Heap):aG:=(HZ [a0,a1] σ).bind λr1=>(A.geq r1.1 (ε 0)).bind λx2=>e9 σ x2 r1.2
def BD:aq->Heap->aG:=Φ ι [(.s 1)] .k (XQ HX)
def ED (dyn:Nat->aq->Heap->aG) (a0 a1:AV) (σ:Heap):aG:=(WJ a0).bind λx1=>(s9 (λv2 s3=>(p9 (aj v2 1) x1).bind λx5=>χ x5 ((EY 1 a0 (aj v2 1)).bind λx6=>((ψ x6 s3).bind λc7=>Θ 0 c7).bind λx8=>(A.gP dyn a1 [x8] s3).bind λr9=>χ r9.1 (δ (l7,[(aj v2 1),(aj v2 1)],r9.2)) ((o7 (aj v2 1) (ε 1)).bind λbE=>δ (ir,[(aj v2 0),bE],r9.2))) (δ (Γ 0,[(aj v2 0),(aj v2 1)],s3))) [(ε 0),(ε 0)] σ).bind λeN=>bif eN.1==Γ 0 then(e9 σ (ε (-1)) eN.2.2)else bif eN.1==l7 then(e9 σ (aj eN.2.1 0) eN.2.2)else η
def rD (dyn:Nat->aq->Heap->aG):aq->Heap->aG:=Φ ι [(.s 1)] .k (XQ (ED dyn))
def H8 (a0 a1:AV) (σ:Heap):aG:=(WJ a0).bind λx1=>(WJ a1).bind λx2=>(XP .i x1 x2).bind λx3=>χ x3 (e9 σ aZ σ) ((WJ a0).bind λx4=>(s9 (λv5 s6=>(p9 (aj v5 1) x4).bind λx8=>χ x8 ((EY 1 a0 (aj v5 1)).bind λx9=>((ψ x9 s6).bind λko=>Θ 0 ko).bind λdI=>(EY 1 a1 (aj v5 1)).bind λdB=>((ψ dB s6).bind λmm=>Θ 0 mm).bind λdw=>(XP .i dI dw).bind λdz=>χ dz (δ (l7,[aZ,(aj v5 1)],s6)) ((o7 (aj v5 1) (ε 1)).bind λcu=>δ (ir,[(aj v5 0),cu],s6))) (δ (Γ 0,[(aj v5 0),(aj v5 1)],s6))) [aZ,(ε 0)] σ).bind λqY=>bif qY.1==Γ 0 then(e9 σ bF qY.2.2)else bif qY.1==l7 then(e9 σ (aj qY.2.1 0) qY.2.2)else η)
def zC:aq->Heap->aG:=Φ ι [(.s 1),(.s 1)] .k (XQ H8)
def zB (a0:AV) (σ:Heap):aG:=(WJ a0).bind λx1=>(Yd x1 (ε 1)).bind λx2=>(s9 (λv3 s4=>(p9 (aj v3 0) (aj v3 1)).bind λx6=>χ x6 ((EY 1 a0 (aj v3 1)).bind λx7=>((ψ x7 s4).bind λc8=>Θ 0 c8).bind λx9=>(EY 1 a0 (aj v3 0)).bind λbE=>((ψ bE s4).bind λfH=>Θ 0 fH).bind λdB=>(EY 1 a0 (aj v3 0)).bind λcg=>((l5 x9).bind λv=>δ [v]).bind λiu=>(u7 cg iu s4).bind λgA=>(EY 1 a0 (aj v3 1)).bind λcu=>((l5 dB).bind λv=>δ [v]).bind λkq=>(u7 cu kq gA).bind λiL=>(o7 (aj v3 0) (ε 1)).bind λck=>(Yd (aj v3 1) (ε 1)).bind λeW=>δ (ir,[ck,eW],iL)) (δ (Γ 0,[(aj v3 0),(aj v3 1)],s4))) [(ε 0),x2] σ).bind λjE=>bif jE.1==Γ 0 then(δ ((YM []),jE.2.2))else η
def wY:aq->Heap->aG:=Φ θ [] .k (XJ zB)
def EL (a0:AV) (σ:Heap):aG:=(A.GZ a0 Ju).bind λx1=>χ x1 (δ (Ju,σ)) ((wh 1 (140737488355328 / 8) AV.ez a0 σ).bind λr2=>δ (r2.1,r2.2))
def vK:aq->Heap->aG:=A.F7 (Φ ι [(.s 1)] .k (XJ EL))
def xh (a0 a1:AV) (σ:Heap):aG:=(p9 a1 (ε 0)).bind λx1=>(χ x1 (((η:Option AV)).bind λx3=>δ (([]:aq),σ)) (δ (([]:aq),σ))).bind λr2=>A.tD (A.xX a0) (λx4=>(WJ a0).bind λx5=>(Yd x4 x5).bind λx6=>(Yd a1 x6).bind λx7=>(W7 x7 (ε 0)).bind λx8=>(χ x8 (A.tD (A.xX a0) (λbE=>(A.gD 1 a0 η (δ bE) r2.2).bind λdI=>(A.rK 1 (140737488355328 / 8) [(ε 0)] dI x7 r2.2).bind λiM=>(WJ a0).bind λcg=>(A.gD 1 iM.1 η (δ cg) iM.2).bind λdw=>δ ([dw],iM.2)) (A.wB a0 r2.2 λn15 ud=>(A.gD 1 a0 η (δ (ε n15)) ud).bind λdD=>(A.rK 1 (140737488355328 / 8) [(ε 0)] dD x7 ud).bind λtX=>(WJ a0).bind λck=>(A.gD 1 tX.1 η (δ ck) tX.2).bind λeW=>δ ([eW],tX.2))) (δ ([a0],r2.2))).bind λr9=>δ ((aj r9.1 0),r9.2)) (A.wB a0 r2.2 λn21 jh=>(WJ a0).bind λcV=>(Yd (ε n21) cV).bind λx24=>(Yd a1 x24).bind λx25=>(W7 x25 (ε 0)).bind λfS=>(χ fS (A.tD (A.xX a0) (λx28=>(A.gD 1 a0 η (δ x28) jh).bind λx29=>(A.rK 1 (140737488355328 / 8) [(ε 0)] x29 x25 jh).bind λjS=>(WJ a0).bind λx31=>(A.gD 1 jS.1 η (δ x31) jS.2).bind λx32=>δ ([x32],jS.2)) (A.wB a0 jh λn33 V6=>(A.gD 1 a0 η (δ (ε n33)) V6).bind λqz=>(A.rK 1 (140737488355328 / 8) [(ε 0)] qz x25 V6).bind λvw=>(WJ a0).bind λkG=>(A.gD 1 vw.1 η (δ kG) vw.2).bind λx38=>δ ([x38],vw.2))) (δ ([a0],jh))).bind λjf=>δ ((aj jf.1 0),jf.2))
def xg:aq->Heap->aG:=Φ θ [] .k (XQ xh)
def wZ (a0:AV) (σ:Heap):aG:=(WJ a0).bind λx1=>(s9 (λv2 s3=>(p9 (aj v2 1) x1).bind λx5=>χ x5 ((EY 1 a0 (aj v2 1)).bind λx6=>((ψ x6 s3).bind λc7=>Θ 0 c7).bind λx8=>(WJ x8).bind λx9=>(o7 (aj v2 0) x9).bind λbE=>(p9 bE (ε 0)).bind λdI=>(χ dI (((η:Option AV)).bind λcg=>δ (([]:aq),s3)) (δ (([]:aq),s3))).bind λiM=>(o7 (aj v2 1) (ε 1)).bind λdw=>δ (ir,[bE,dw],iM.2)) (δ (Γ 0,[(aj v2 0),(aj v2 1)],s3))) [(ε 0),(ε 0)] σ).bind λmZ=>bif mZ.1==Γ 0 then((xg [Ju,(aj mZ.2.1 0)] mZ.2.2).bind λD2=>(WJ a0).bind λdD=>(s9 (λBv NY=>(p9 (aj Bv 1) dD).bind λdA=>χ dA ((EY 1 a0 (aj Bv 1)).bind λdO=>((ψ dO NY).bind λql=>Θ 0 ql).bind λx24=>(wh 1 (140737488355328 / 8) (aj Bv 0) x24 NY).bind λqZ=>(o7 (aj Bv 1) (ε 1)).bind λfS=>δ (ir,[qZ.1,fS],qZ.2)) (δ (Γ 2,[(aj Bv 0),(aj Bv 1)],NY))) [D2.1,(ε 0)] D2.2).bind λjf=>bif jf.1==Γ 2 then(δ ((aj jf.2.1 0),jf.2.2))else η)else η
def EG:aq->Heap->aG:=Φ ι [(.s 1)] .k (XJ wZ)
def BA (dyn:Nat->aq->Heap->aG) (a0 a1:AV) (σ:Heap):aG:=(rD dyn [a0,a1] σ).bind λr1=>(z7 .i r1.1 (ε (-1))).bind λx2=>χ x2 (A.renew [a0,a1] σ a0 r1.2) ((o7 r1.1 (ε 1)).bind λx3=>(s9 (λv4 s5=>(WJ a0).bind λx7=>(p9 (aj v4 1) x7).bind λx8=>χ x8 ((EY 1 a0 (aj v4 1)).bind λx9=>((ψ x9 s5).bind λko=>Θ 0 ko).bind λdI=>(A.gP dyn a1 [dI] s5).bind λiM=>(Wc iM.1).bind λcg=>(χ cg ((EY 1 a0 (aj v4 0)).bind λdz=>((l5 dI).bind λv=>δ [v]).bind λnZ=>(u7 dz nZ iM.2).bind λkq=>(o7 (aj v4 0) (ε 1)).bind λdW=>δ ([dW],kq)) (δ ([(aj v4 0)],iM.2))).bind λcN=>(o7 (aj v4 1) (ε 1)).bind λck=>δ (ir,[(aj cN.1 0),ck],cN.2)) (δ (Γ 0,[(aj v4 0),(aj v4 1)],s5))) [r1.1,x3] r1.2).bind λbK=>bif bK.1==Γ 0 then((A.gD 1 a0 (δ (aj bK.2.1 0)) η bK.2.2).bind λdA=>(A.xG 1 [(ε 0)] dA bK.2.2).bind λVq=>(A.gD 1 a0 η (δ (aj bK.2.1 0)) Vq).bind λcV=>A.renew [a0,a1] σ cV Vq)else η)
def Bz (dyn:Nat->aq->Heap->aG):aq->Heap->aG:=Φ θ [] .k (XQ (BA dyn))
def EB (dyn:Nat->aq->Heap->aG) (a0 a1:AV) (σ:Heap):aG:=(WJ a0).bind λx1=>(s9 (λv2 s3=>(p9 (aj v2 1) x1).bind λx5=>χ x5 ((EY 4 a0 (aj v2 1)).bind λx6=>((ψ x6 s3).bind λc7=>Ze 0 4 c7).bind λx8=>(A.gP dyn a1 [x8] s3).bind λr9=>χ r9.1 (δ (l7,[(aj v2 1),(aj v2 1)],r9.2)) ((o7 (aj v2 1) (ε 1)).bind λbE=>δ (ir,[(aj v2 0),bE],r9.2))) (δ (Γ 0,[(aj v2 0),(aj v2 1)],s3))) [(ε 0),(ε 0)] σ).bind λeN=>bif eN.1==Γ 0 then(e9 σ (ε (-1)) eN.2.2)else bif eN.1==l7 then(e9 σ (aj eN.2.1 0) eN.2.2)else η
def EA (dyn:Nat->aq->Heap->aG):aq->Heap->aG:=Φ ι [(.s 4)] .k (XQ (EB dyn))
def Ey (dyn:Nat->aq->Heap->aG) (a0 a1:AV) (σ:Heap):aG:=(EA dyn [a0,a1] σ).bind λr1=>(A.geq r1.1 (ε 0)).bind λx2=>e9 σ x2 r1.2
def By (dyn:Nat->aq->Heap->aG):aq->Heap->aG:=Φ ι [(.s 4)] .k (XQ (Ey dyn))
end
def iT(n:Int):ByteArray:=⟨(Lib.itoa n).toArray⟩
def zG:aq->Heap->aG:=XJ λa σ=>match a with
 |.int Ξ n=>if -9223372036854775808<=n/\n<=9223372036854775807 then δ (.str (iT n),σ)else η
 |_=>η
theorem Rg(n:Int)(h:bA n)(σ:Heap):zG [.int Ξ n] σ=δ (.str (iT n),σ):=aC h
section
def Jl (a0:AV) (σ:Heap):aG:=(A.uK a0).bind λx1=>(s9 (λv2 s3=>(p9 (aj v2 1) x1).bind λx5=>χ x5 ((A.oZ a0 (aj v2 1)).bind λx6=>(A.geq x6 (amf .u8 97)).bind λx7=>(μ x7 ι (δ x6) az).bind λx8=>(μ x7 ι (A.leq x8 (amf .u8 122)) az).bind λx9=>(l6 x7 x9 aZ).bind λbE=>(μ bE θ (δ x6) az).bind λdI=>(μ bE θ (A.geq dI (amf .u8 48)) az).bind λdB=>(μ bE θ (δ dB) az).bind λcg=>(μ cg ι (δ x6) az).bind λdw=>(μ cg ι (A.leq dw (amf .u8 57)) az).bind λdz=>(μ bE θ (l6 cg dz aZ) az).bind λcu=>(l6 bE bF cu).bind λdD=>(μ dD θ (δ x6) az).bind λdW=>(μ dD θ (z7 .i dW (amf .u8 45)) az).bind λck=>(l6 dD bF ck).bind λeW=>(Wc eW).bind λdA=>χ dA (δ (l7,[aZ,(aj v2 1)],s3)) ((o7 (aj v2 1) (ε 1)).bind λdO=>δ (ir,[(aj v2 0),dO],s3))) (δ (Γ 0,[(aj v2 0),(aj v2 1)],s3))) [aZ,(ε 0)] σ).bind λkE=>bif kE.1==Γ 0 then((XP .z a0 gz).bind λx24=>e9 σ x24 kE.2.2)else bif kE.1==l7 then(e9 σ (aj kE.2.1 0) kE.2.2)else η
def Jc:aq->Heap->aG:=Φ ι [] .k (XJ Jl)
def I2 (a0:AV) (σ:Heap):aG:=(Jc [a0] σ).bind λr1=>(μ r1.1 ι (δ a0) az).bind λx2=>(μ r1.1 ι (A.uK x2) az).bind λx3=>(μ r1.1 ι (A.leq x3 (ε 20)) az).bind λx4=>(l6 r1.1 x4 aZ).bind λx5=>(μ x5 ι (δ a0) az).bind λx6=>(μ x5 ι (A.oZ x6 (ε 0)) az).bind λx7=>(μ x5 ι (A.geq x7 (amf .u8 97)) az).bind λx8=>(l6 x5 x8 aZ).bind λx9=>(μ x9 ι (δ a0) az).bind λbE=>(μ x9 ι (A.oZ bE (ε 0)) az).bind λdI=>(μ x9 ι (A.leq dI (amf .u8 122)) az).bind λdB=>(l6 x9 dB aZ).bind λcg=>e9 σ cg r1.2
def BS:aq->Heap->aG:=Φ ι [] .k (XJ I2)
def Il (a0 a1 a2:AV) (σ:Heap):aG:=(A.geq a0 a1).bind λx1=>(μ x1 ι (δ a0) az).bind λx2=>(μ x1 ι (δ a2) az).bind λx3=>(μ x1 ι (A.leq x2 x3) az).bind λx4=>(l6 x1 x4 aZ).bind λx5=>e9 σ x5 σ
def iz:aq->Heap->aG:=Φ ι [] .k (A.pg Il)
def I3 (a0 a1:AV) (σ:Heap):aG:=χ a0 (e9 σ a1 σ) (e9 σ (ε 0) σ)
def IN:aq->Heap->aG:=Φ ι [] .k (XQ I3)
def IA (a0:AV) (σ:Heap):aG:=(WJ a0).bind λx1=>(s9 (λv2 s3=>(p9 (aj v2 1) x1).bind λx5=>χ x5 ((EY 1 a0 (aj v2 1)).bind λx6=>((ψ x6 s3).bind λc7=>Θ 0 c7).bind λx8=>(XP .i x8 (ε 0)).bind λx9=>χ x9 (δ (l7,[x8,(aj v2 1)],s3)) ((o7 (aj v2 1) (ε 1)).bind λbE=>δ (ir,[(aj v2 0),bE],s3))) (δ (Γ 0,[(aj v2 0),(aj v2 1)],s3))) [(ε 0),(ε 0)] σ).bind λeN=>bif eN.1==Γ 0 then(e9 σ (ε 0) eN.2.2)else bif eN.1==l7 then(e9 σ (aj eN.2.1 0) eN.2.2)else η
def BP:aq->Heap->aG:=Φ ι [(.s 1)] .k (XJ IA)
def IB (a0:AV) (σ:Heap):aG:=(A.uK a0).bind λx1=>(s9 (λv2 s3=>(p9 (aj v2 1) x1).bind λx5=>χ x5 ((A.oZ a0 (aj v2 1)).bind λx6=>(p9 x6 (amf .u8 32)).bind λx7=>(μ x7 θ (δ a0) az).bind λx8=>(μ x7 θ (δ (aj v2 1)) az).bind λx9=>(μ x7 θ (A.oZ x8 x9) az).bind λbE=>(μ x7 θ (W7 bE (amf .u8 126)) az).bind λdI=>(l6 x7 bF dI).bind λdB=>χ dB (δ (l7,[aZ,(aj v2 1)],s3)) ((o7 (aj v2 1) (ε 1)).bind λcg=>δ (ir,[(aj v2 0),cg],s3))) (δ (Γ 0,[(aj v2 0),(aj v2 1)],s3))) [aZ,(ε 0)] σ).bind λcN=>bif cN.1==Γ 0 then((XP .z a0 gz).bind λdz=>(μ dz ι (δ a0) az).bind λcu=>(μ dz ι (A.uK cu) az).bind λdD=>(μ dz ι (A.leq dD (ε 60)) az).bind λdW=>(l6 dz dW aZ).bind λck=>(μ ck ι (δ a0) az).bind λeW=>(μ ck ι (A.oZ eW (ε 0)) az).bind λdA=>(μ ck ι (XP .i dA (amf .u8 32)) az).bind λdO=>(l6 ck dO aZ).bind λcV=>(μ cV ι (δ a0) az).bind λx24=>(μ cV ι (δ a0) az).bind λx25=>(μ cV ι (A.uK x25) az).bind λfS=>(μ cV ι (Yd fS (ε 1)) az).bind λfT=>(μ cV ι (A.oZ x24 fT) az).bind λx28=>(μ cV ι (XP .i x28 (amf .u8 32)) az).bind λx29=>(l6 cV x29 aZ).bind λiO=>e9 σ iO cN.2.2)else bif cN.1==l7 then(e9 σ (aj cN.2.1 0) cN.2.2)else η
def Is:aq->Heap->aG:=Φ ι [] .k (XJ IB)
end
section
def Ib (a0:AV) (σ:Heap):aG:=(iz [a0,(ε 0),(ε 65535)] σ).bind λr1=>e9 σ r1.1 r1.2
def BI:aq->Heap->aG:=Φ ι [] .k (XJ Ib)
def HV (a0:AV) (σ:Heap):aG:=(WJ a0).bind λx1=>(W7 x1 (ε 30)).bind λx2=>χ x2 (e9 σ (ε 2) σ) ((WJ a0).bind λx3=>(s9 (λv4 s5=>(p9 (aj v4 1) x3).bind λx7=>χ x7 ((EY 3 a0 (aj v4 1)).bind λx8=>((ψ x8 s5).bind λc9=>Ze 0 3 c9).bind λbE=>(i7 3 bE).bind λfH=>(y9 0 fH [(ε 0),(ε 0),gz]).bind λdG=>(Θ 0 dG).bind λcg=>(BI [cg] s5).bind λcN=>(Wc cN.1).bind λdz=>(μ dz θ (Θ 1 dG) az).bind λcu=>(μ dz θ (Wd (BI [cu] cN.2) cN.2) az).bind λdD=>(μ dz θ (Wc dD) az).bind λdW=>(l6 dz bF dW).bind λck=>(μ ck θ (Θ 0 dG) az).bind λeW=>(μ ck θ (Θ 1 dG) az).bind λdA=>(μ ck θ (W7 eW dA) az).bind λdO=>(l6 ck bF dO).bind λcV=>χ cV (δ (l7,[(ε 1),(aj v4 1)],cN.2)) ((W7 (aj v4 1) (ε 0)).bind λx24=>(μ x24 ι (Θ 0 dG) az).bind λx25=>(μ x24 ι (δ a0) az).bind λfS=>(μ x24 ι (δ (aj v4 1)) az).bind λfT=>(μ x24 ι (Yd fT (ε 1)) az).bind λx28=>(μ x24 ι (EY 3 fS x28) az).bind λx29=>(μ x24 ι (WN 1 x29) az).bind λiO=>(μ x24 ι ((ψ iO cN.2).bind λsB=>Θ 0 sB) az).bind λx32=>(μ x24 ι (A.leq x25 x32) az).bind λjk=>(l6 x24 jk aZ).bind λx34=>χ x34 (δ (l7,[(ε 7),(aj v4 1)],cN.2)) ((Θ 2 dG).bind λqz=>(BS [qz] cN.2).bind λvw=>(Wc vw.1).bind λkG=>χ kG (δ (l7,[(ε 5),(aj v4 1)],vw.2)) ((Θ 2 dG).bind λx38=>(Z8 .z (Wu σ.length) x38 aZ vw.2).bind λqB=>χ qB (δ (l7,[(ε 6),(aj v4 1)],vw.2)) ((Θ 2 dG).bind λkH=>(Z9 .z (Wu σ.length) kH bF vw.2).bind λh41=>(o7 (aj v4 1) (ε 1)).bind λru=>δ (ir,[(aj v4 0),ru],h41)))))) (δ (Γ 0,[(aj v4 0),(aj v4 1)],s5))) [(ε 0),(ε 0)] (σ++[j0 []])).bind λD4=>bif D4.1==Γ 0 then(e9 σ (ε 0) D4.2.2)else bif D4.1==l7 then(e9 σ (aj D4.2.1 0) D4.2.2)else η)
def HU:aq->Heap->aG:=Φ ι [(.s 3)] .k (XJ HV)
def HT (a0:AV) (σ:Heap):aG:=(i7 3 a0).bind λc1=>(Θ 0 c1).bind λx2=>(BS [x2] σ).bind λr3=>(Wc r3.1).bind λx4=>χ x4 (e9 σ (ε 5) r3.2) ((Θ 1 c1).bind λx5=>(iz [x5,(ε 1),(ε 512)] r3.2).bind λr6=>(Wc r6.1).bind λx7=>χ x7 (e9 σ (ε 1) r6.2) ((Θ 2 c1).bind λx8=>(WJ x8).bind λx9=>(z7 .i x9 (ε 0)).bind λbE=>χ bE (e9 σ (ε 8) r6.2) ((Θ 2 c1).bind λdI=>(WJ dI).bind λdB=>(W7 dB (ε 40)).bind λcg=>χ cg (e9 σ (ε 2) r6.2) ((Θ 2 c1).bind λdw=>(WJ dw).bind λdz=>(s9 (λiy NW=>(p9 (aj iy 2) dz).bind λck=>χ ck ((EY 7 dw (aj iy 2)).bind λeW=>((ψ eW NW).bind λuR=>Ze 0 7 uR).bind λdO=>(i7 7 dO).bind λql=>(y9 0 ql [gz,(ε 0),(ε 0),(ε 0),(ε 0),aZ,Ju]).bind λgV=>(Θ 0 gV).bind λx25=>(BS [x25] NW).bind λD3=>(Wc D3.1).bind λfT=>χ fT (δ (l7,[(aj iy 0),(ε 5),(aj iy 2)],D3.2)) ((Θ 0 gV).bind λx28=>(Z8 .z (Wu r6.2.length) x28 aZ D3.2).bind λx29=>χ x29 (δ (l7,[(aj iy 0),(ε 6),(aj iy 2)],D3.2)) ((Θ 1 gV).bind λiO=>(iz [iO,(ε 1),(ε 4)] D3.2).bind λtY=>(Wc tY.1).bind λx32=>χ x32 (δ (l7,[(aj iy 0),(ε 4),(aj iy 2)],tY.2)) ((Θ 2 gV).bind λjk=>((l9 (aj iy 0)).bind λ_=>δ (1)).bind λp34=>((l9 (aj iy 0)).bind λDg=>Θ p34 Dg).bind λqA=>(iz [jk,(ε 1),qA] tY.2).bind λjg=>(Wc jg.1).bind λx38=>(μ x38 θ (Θ 3 gV) az).bind λqB=>((l9 (aj iy 0)).bind λ_ => δ (1)).bind λp40 =>(μ x38 θ ((l9 (aj iy 0)).bind λqm=>Θ p40 qm) az).bind λru=>(μ x38 θ (Wd (iz [qB,(ε 0),ru] jg.2) jg.2) az).bind λoz=>(μ x38 θ (Wc oz) az).bind λmB=>(l6 x38 bF mB).bind λjl=>(μ jl θ (Θ 4 gV) az).bind λgK=>(μ jl θ (Wd (BI [gK] jg.2) jg.2) az).bind λnr=>(μ jl θ (Wc nr) az).bind λzj=>(l6 jl bF zj).bind λqC=>χ qC (δ (l7,[(aj iy 0),(ε 1),(aj iy 2)],jg.2)) ((Θ 2 gV).bind λoA=>(Θ 3 gV).bind λiP=>(z7 .i oA iP).bind λnu=>(μ nu θ (δ (Wu (r6.2++[j0 []]).length)) az).bind λpH=>(μ nu θ (Θ 2 gV) az).bind λrz=>(μ nu θ (Z8 .i pH rz aZ jg.2) az).bind λsJ=>(l6 nu bF sJ).bind λqD=>(μ qD θ (Θ 3 gV) az).bind λoB=>(μ qD θ (W7 oB (ε 0)) az).bind λsK=>(μ qD θ (δ sK) az).bind λrA=>(μ rA ι (δ (Wu (r6.2++[j0 []]).length)) az).bind λrB=>(μ rA ι (Θ 3 gV) az).bind λoC=>(μ rA ι (Z8 .i rB oC aZ jg.2) az).bind λzk=>(μ qD θ (l6 rA zk aZ) az).bind λjT=>(l6 qD bF jT).bind λvF=>χ vF (δ (l7,[(aj iy 0),(ε 12),(aj iy 2)],jg.2)) ((Θ 6 gV).bind λmC=>(HU [mC] jg.2).bind λBq=>(XP .i Bq.1 (ε 0)).bind λzl=>χ zl (δ (l7,[(aj iy 0),Bq.1,(aj iy 2)],Bq.2)) ((Θ 0 gV).bind λoD=>(Θ 2 gV).bind λvH=>(Z9 .z (Wu r6.2.length) oD bF Bq.2).bind λh70=>(Z9 .i (Wu (r6.2++[j0 []]).length) vH bF h70).bind λVr=>(Θ 3 gV).bind λvI=>(W7 vI (ε 0)).bind λmD=>(χ mD ((Θ 3 gV).bind λqE=>(Z9 .i (Wu (r6.2++[j0 []]).length) qE bF Vr).bind λh76=>δ ([(aj iy 0)],h76)) (δ ([(aj iy 0)],Vr))).bind λlE=>(o7 (aj iy 2) (ε 1)).bind λue=>δ (ir,[(aj lE.1 0),(aj iy 1),ue],lE.2)))))))) (δ (Γ 1,[(aj iy 0),(aj iy 1),(aj iy 2)],NW))) [(Z4 c1),(ε 0),(ε 0)] ((r6.2++[j0 []])++[j0 []])).bind λrj=>bif rj.1==Γ 1 then(e9 σ (ε 0) rj.2.2)else bif rj.1==l7 then(e9 σ (aj rj.2.1 1) rj.2.2)else η))))
def HR:aq->Heap->aG:=Φ ι [(.a [.k,.k,(.s 7)])] .k (XJ HT)
def HS (a0:AV) (σ:Heap):aG:=(WJ a0).bind λx1=>(W7 x1 (ε 60)).bind λx2=>χ x2 (e9 σ (ε 2) σ) ((WJ a0).bind λx3=>(s9 (λv4 s5=>(p9 (aj v4 1) x3).bind λx7=>χ x7 ((EY 3 a0 (aj v4 1)).bind λx8=>((ψ x8 s5).bind λc9=>Ze 0 3 c9).bind λbE=>(i7 3 bE).bind λfH=>(y9 0 fH [gz,(ε 0),Ju]).bind λdG=>(Ze 0 3 dG).bind λcg=>(HR [cg] s5).bind λcN=>(XP .i cN.1 (ε 0)).bind λdz=>χ dz (δ (l7,[cN.1,(aj v4 1)],cN.2)) ((Θ 0 dG).bind λcu=>(Z8 .z (Wu σ.length) cu aZ cN.2).bind λdD=>χ dD (δ (l7,[(ε 6),(aj v4 1)],cN.2)) ((Θ 0 dG).bind λdW=>(Z9 .z (Wu σ.length) dW bF cN.2).bind λh19=>(o7 (aj v4 1) (ε 1)).bind λeW=>δ (ir,[(aj v4 0),eW],h19)))) (δ (Γ 0,[(aj v4 0),(aj v4 1)],s5))) [(ε 0),(ε 0)] (σ++[j0 []])).bind λjE=>bif jE.1==Γ 0 then(e9 σ (ε 0) jE.2.2)else bif jE.1==l7 then(e9 σ (aj jE.2.1 0) jE.2.2)else η)
def HQ:aq->Heap->aG:=Φ ι [(.s 3)] .k (XJ HS)
def HW (a0 a1:AV) (σ:Heap):aG:=(i7 3 a0).bind λc1=>(Θ 0 c1).bind λx2=>((ψ a1 σ).bind λc3=>Θ 0 c3).bind λx4=>(z7 .z x2 x4).bind λx5=>e9 σ x5 σ
def BC:aq->Heap->aG:=Φ ι [(.a [.k,.k,(.s 7)])] .k (XQ HW)
def EN (a0 a1:AV) (σ:Heap):aG:=(((l5 a1).bind λv=>δ [v]).bind λcs=>δ (Zh cs)).bind λx1=>(Ex (U8 (λ_ _=>η) [(64,BC)]) [a0,(AV.fn 64 [x1])] σ).bind λr2=>(p9 r2.1 (ε 0)).bind λx3=>χ x3 ((i7 3 (l8 [gz,(ε 0),Ju])).bind λc4=>(y9 0 c4 [gz,(ε 0),Ju]).bind λc5=>(Ze 0 3 c5).bind λx6=>e9 σ (YM [x6,aZ]) r2.2) ((EY 3 a0 r2.1).bind λx7=>((ψ x7 r2.2).bind λc8=>Ze 0 3 c8).bind λx9=>(i7 3 x9).bind λko=>(y9 0 ko [gz,(ε 0),Ju]).bind λfH=>(Ze 0 3 fH).bind λdB=>e9 σ (YM [dB,bF]) r2.2)
def EM:aq->Heap->aG:=Φ ι [(.s 3)] GW (XQ EN)
def BE (a0 a1 a2:AV) (σ:Heap):aG:=(z7 .p a0 amo).bind λx1=>χ x1 ((o7 a1 a2).bind λx2=>(Yd x2 (ε 1)).bind λx3=>(A.leq x3 (ε 512)).bind λx4=>e9 σ x4 σ) ((s9 (λv5 s6=>(o7 a1 a2).bind λx8=>(p9 (aj v5 1) x8).bind λx9=>χ x9 ((W7 (aj v5 1) (ε 512)).bind λbE=>(μ bE θ (δ a0) az).bind λdI=>(μ bE θ (δ (aj v5 1)) az).bind λdB=>(μ bE θ (A.gZ dI) az).bind λcg=>(μ bE θ (A.th 513 1 cg dB) az).bind λdw=>(μ bE θ ((ψ dw s6).bind λgA=>Θ 0 gA) az).bind λcu=>(l6 bE bF cu).bind λdD=>χ dD (δ (l7,[aZ,(aj v5 1)],s6)) ((o7 (aj v5 1) (ε 1)).bind λdW=>δ (ir,[(aj v5 0),dW],s6))) (δ (Γ 0,[(aj v5 0),(aj v5 1)],s6))) [aZ,a1] σ).bind λwQ=>bif wQ.1==Γ 0 then(e9 σ bF wQ.2.2)else bif wQ.1==l7 then(e9 σ (aj wQ.2.1 0) wQ.2.2)else η)
def zA:aq->Heap->aG:=Φ ι [] .k (A.pg BE)
def BL (a0 a1 a2:AV) (σ:Heap):aG:=(i7 4 a1).bind λc1=>(Θ 2 c1).bind λx2=>(Z8 .i a0 x2 amo σ).bind λx3=>(z7 .p x3 amo).bind λx4=>(χ x4 ((Θ 2 c1).bind λx6=>(Z9 .i a0 x6 (YI σ.length 0) (σ++[WE (e8 513 aZ)])).bind λh7=>δ ([(Z4 c1)],h7)) (δ ([(Z4 c1)],σ))).bind λr5=>((l9 (aj r5.1 0)).bind λ_=>δ (3)).bind λp8=>((l9 (aj r5.1 0)).bind λc9=>Θ p8 c9).bind λbE=>(s9 (λv11 zc=>((l9 (aj v11 0)).bind λ_=>δ (3)).bind λp14=>((l9 (aj v11 0)).bind λgA=>Θ p14 gA).bind λcu=>(o7 cu a2).bind λdD=>(p9 (aj v11 1) dD).bind λdW=>χ dW (((l9 (aj v11 0)).bind λ_=>δ (2)).bind λp19=>((l9 (aj v11 0)).bind λkr=>Θ p19 kr).bind λdA=>(Z8 .i a0 dA amo zc).bind λdO=>(A.gZ dO).bind λcV=>(A.th 513 1 cV (aj v11 1)).bind λx24=>((l5 bF).bind λv=>δ [v]).bind λjd=>(u7 x24 jd zc).bind λmo=>(o7 (aj v11 1) (ε 1)).bind λfT=>δ (ir,[(aj v11 0),fT],mo)) (δ (Γ 0,[(aj v11 0),(aj v11 1)],zc))) [(aj r5.1 0),bE] r5.2).bind λvr=>bif vr.1==Γ 0 then(δ ((YM []),vr.2.2))else η
def EP:aq->Heap->aG:=Φ θ [] .k (A.pg BL)
def H6 (a0:AV) (σ:Heap):aG:=(i7 2 a0).bind λc1=>(Θ 0 c1).bind λx2=>(HQ [x2] σ).bind λr3=>(XP .i r3.1 (ε 0)).bind λx4=>χ x4 (e9 σ r3.1 r3.2) ((Θ 1 c1).bind λx5=>(WJ x5).bind λx6=>(W7 x6 (ε 400)).bind λx7=>χ x7 (e9 σ (ε 2) r3.2) ((Θ 1 c1).bind λx8=>(WJ x8).bind λx9=>(s9 (λv10 NV=>(p9 (aj v10 2) x9).bind λcg=>χ cg ((EY 4 x8 (aj v10 2)).bind λdw=>((ψ dw NV).bind λgA=>Ze 0 4 gA).bind λcu=>(i7 4 cu).bind λkq=>(y9 0 kq [(ε 0),gz,(ε 0),(ε 0)]).bind λiL=>(Θ 0 iL).bind λck=>(iz [ck,(ε 1),(ε 9999)] NV).bind λbK=>(Wc bK.1).bind λdA=>χ dA (δ (l7,[(aj v10 0),(ε 1),(aj v10 2)],bK.2)) ((W7 (aj v10 2) (ε 0)).bind λdO=>(μ dO ι (Θ 0 iL) az).bind λcV=>((l9 (aj v10 0)).bind λ_ => δ (1)).bind λp24 =>(μ dO ι ((l9 (aj v10 0)).bind λjd=>Θ p24 jd) az).bind λfS=>(μ dO ι (δ (aj v10 2)) az).bind λfT=>(μ dO ι (Yd fT (ε 1)) az).bind λx28=>(μ dO ι (EY 4 fS x28) az).bind λx29=>(μ dO ι (WN 0 x29) az).bind λiO=>(μ dO ι ((ψ iO bK.2).bind λsB=>Θ 0 sB) az).bind λx32=>(μ dO ι (A.leq cV x32) az).bind λjk=>(l6 dO jk aZ).bind λx34=>χ x34 (δ (l7,[(aj v10 0),(ε 7),(aj v10 2)],bK.2)) (((l9 (aj v10 0)).bind λ_=>δ (0)).bind λNM=>((l9 (aj v10 0)).bind λyH=>Θ NM yH).bind λkG=>(Θ 1 iL).bind λx38=>(EM [kG,x38] bK.2).bind λHv=>(WG 0 Hv.1).bind λkH=>(WG 1 Hv.1).bind λzi=>(i7 3 kH).bind λjA=>(y9 0 jA [gz,(ε 0),Ju]).bind λyJ=>(Wc zi).bind λmB=>χ mB (δ (l7,[(aj v10 0),(ε 5),(aj v10 2)],Hv.2)) ((Θ 2 iL).bind λjl=>(iz [jl,(ε 1),(ε 64)] Hv.2).bind λBo=>(Wc Bo.1).bind λnr=>(μ nr θ (Θ 3 iL) az).bind λzj=>(μ nr θ (Wd (iz [zj,(ε 1),(ε 512)] Bo.2) Bo.2) az).bind λqC=>(μ nr θ (Wc qC) az).bind λoA=>(l6 nr bF oA).bind λiP=>(μ iP θ (Θ 3 iL) az).bind λnu=>(μ iP θ (Θ 1 yJ) az).bind λpH=>(μ iP θ (o7 nu pH) az).bind λrz=>(μ iP θ (Yd rz (ε 1)) az).bind λsJ=>(μ iP θ (W7 sJ (ε 512)) az).bind λqD=>(l6 iP bF qD).bind λoB=>χ oB (δ (l7,[(aj v10 0),(ε 1),(aj v10 2)],Bo.2)) ((Θ 2 iL).bind λsK=>(Z8 .i (Wu r3.2.length) sK amo Bo.2).bind λrA=>(Θ 3 iL).bind λrB=>(Θ 1 yJ).bind λoC=>(zA [rA,rB,oC] Bo.2).bind λlD=>(Wc lD.1).bind λjT=>χ jT (δ (l7,[(aj v10 0),(ε 12),(aj v10 2)],lD.2)) ((Ze 0 4 iL).bind λvF=>(Θ 1 yJ).bind λmC=>(EP [(Wu r3.2.length),vF,mC] lD.2).bind λBq=>(o7 (aj v10 2) (ε 1)).bind λzl=>δ (ir,[(aj v10 0),(aj v10 1),zl],Bq.2))))))) (δ (Γ 0,[(aj v10 0),(aj v10 1),(aj v10 2)],NV))) [(Z4 c1),(ε 0),(ε 0)] (r3.2++[j0 []])).bind λD7=>bif D7.1==Γ 0 then(e9 σ (ε 0) D7.2.2)else bif D7.1==l7 then(e9 σ (aj D7.2.1 1) D7.2.2)else η))
def EH:aq->Heap->aG:=Φ ι [(.a [(.s 3),(.s 4)])] .k (XJ H6)
def BK (a0:AV) (σ:Heap):aG:=(i7 2 a0).bind λc1=>(Ze 0 2 c1).bind λx2=>(EH [x2] σ).bind λr3=>(XP .i r3.1 (ε 0)).bind λx4=>χ x4 (e9 σ (YM [Ju,r3.1]) r3.2) ((Θ 1 c1).bind λx5=>(WJ x5).bind λx6=>(s9 (λv7 s8=>(p9 (aj v7 2) x6).bind λbE=>χ bE ((EY 4 x5 (aj v7 2)).bind λdI=>((ψ dI s8).bind λdG=>Ze 0 4 dG).bind λcg=>(i7 4 cg).bind λiu=>(y9 0 iu [(ε 0),gz,(ε 0),(ε 0)]).bind λgA=>((l9 (aj v7 0)).bind λ_=>δ (0)).bind λNJ=>((l9 (aj v7 0)).bind λkq=>Θ NJ kq).bind λdW=>(Θ 1 gA).bind λck=>(EM [dW,ck] s8).bind λbK=>(WG 0 bK.1).bind λdA=>(WG 1 bK.1).bind λdO=>(i7 3 dA).bind λql=>(y9 0 ql [gz,(ε 0),Ju]).bind λgV=>(Θ 2 gV).bind λx25=>(WJ x25).bind λfS=>(s9 (λkF wU=>(p9 (aj kF 3) fS).bind λiO=>χ iO ((EY 7 x25 (aj kF 3)).bind λx31=>((ψ x31 wU).bind λku=>Ze 0 7 ku).bind λjk=>(i7 7 jk).bind λMN=>(y9 0 MN [gz,(ε 0),(ε 0),(ε 0),(ε 0),aZ,Ju]).bind λDg=>((l9 (aj kF 2)).bind λ_=>δ (0)).bind λp36=>((l9 (aj kF 2)).bind λMO=>Θ p36 MO).bind λx38=>(Θ 0 Dg).bind λqB=>((((l5 x38).bind λv=>δ [v]).bind λc40=>(y9 0 c40 [(ε 0),gz]).bind λqm=>((l5 qB).bind λv=>δ [v]).bind λjA=>(y9 1 jA qm).bind λyJ=>δ yJ).bind λcs=>δ (l8 cs)).bind λmB=>(((i7 2 mB).bind λMP=>(y9 0 MP [(ε 0),gz]).bind λMQ=>δ MQ).bind λcs=>δ (WV 2 (eO 2 1 cs))).bind λnr=>(wh 2 (140737488355328 / 24) (aj kF 1) nr wU).bind λV3=>(o7 (aj kF 3) (ε 1)).bind λqC=>δ (ir,[(aj kF 0),V3.1,(aj kF 2),qC],V3.2)) (δ (Γ 2,[(aj kF 0),(aj kF 1),(aj kF 2),(aj kF 3)],wU))) [(aj v7 0),(aj v7 1),(Z4 gA),(ε 0)] bK.2).bind λwR=>bif wR.1==Γ 2 then((o7 (aj v7 2) (ε 1)).bind λiP=>δ (ir,[(aj wR.2.1 0),(aj wR.2.1 1),iP],wR.2.2))else η) (δ (Γ 0,[(aj v7 0),(aj v7 1),(aj v7 2)],s8))) [(Z4 c1),Ju,(ε 0)] r3.2).bind λNQ=>bif NQ.1==Γ 0 then(e9 σ (YM [(aj NQ.2.1 1),(ε 0)]) NQ.2.2)else η)
def Ic:aq->Heap->aG:=Φ ι [(.a [(.s 3),(.s 4)])] (.t [(.s 2),.k]) (XJ BK)
end
end
end Go.Proofs.YtkdafecbdncmiaaDoor
