/- Parts of the proof of PlayGoesToTheCue, in order. -/
import Derived.Test.YtooknfkholjpbaaGreatRows
import Derived.KernelRfl
import Derived.Lib.Bytealg
import Derived.Sort.Defs
import Derived.Lib.BitFns
import Derived.Test.YtooknfkholjpbaaGreatKPlayGoesToTheCue1
namespace Go.Proofs.YtooknfkholjpbaaGreat
set_option linter.unusedVariables false
set_option linter.unusedSimpArgs false
set_option linter.unusedSectionVars false
set_option maxRecDepth 1000000
noncomputable section
open AV renaming ah->ε,int->Wz,agg->Φ,aA->Zg,rp->ZN,sl->Yh,aM->Yu,lbx->VD
open A renaming eql->ZA,lss->YY,fin->wh,gen->XD,cells->ψ,not->Wk,guard->η,ext->Yn,pick->UD,bI->ZP,aQ->WC,leq->Ze,tab->Zw,cell->Ψ,bu->UY,add->WE,lb->Tv,bw->Zo,neq->UP,aD->VU,aB->ir,sub->Uk,deref->χ,gtr->YK,iter->Xj,loop->Y7,storeAt->XZ,eA->Wf,cond->φ,append->WK,bV->X4,renew->ZD,geq->YI,quiet->Wi,ak->Γ
open List renaming any_eq_true->VK,range'_succ->aDW,filter_cons->aEo,set_comm->Uo,mem_replicate->Xl,foldl_cons->V4,length->WD,contains_iff_mem->Ua,getD->U1,range_eq_range'->Un,length_map->X1,all_cons->aDz,length_cons->YZ,filterMap_cons->V5,mem_cons_self->YJ,filterMap_append->XY,getElem?_take->aCY,nil_append->V7,mem_iff_getElem->T5,getElem?_set_ne->XX,getElem?_take_of_lt->WG,range'->YO,map_congr_left->Yq,mem_map_of_mem->aDg,pairwise_cons->YE,mem_filter->Tx,length_nil->UB,mem_filterMap->ZJ,length_append->ZY,replicate->Z3
open Bool renaming false_or->aD0,true->θ,not_false->Yx,false_eq_true->YQ,not_eq_false'->aDv,not_eq_true'->UK,true_and->aDh,false->ι,and_false->Wc,not_true->Ur
open Option renaming getD_some->WU,some->δ,none->μ,getD_none->WO,isNone_none->UW
open Nat renaming zero_add->YW,blt->ZQ,sub_self->Yp,not_lt_zero->aCX
open Go.Op renaming operands->VA
open aX renaming mono->Vz
open Go.Lib renaming bitLen->Xf,compareBytes->Xt
open Go.Region renaming wanted->TF,binds->XB,ready->TN
open Prod.mk renaming injEq->T4
open _root_.Array renaming getElem?_setIfInBounds_ne->Vf,getD->aDu,toList_append->aDU,all_eq_true_iff_forall_mem->aDA,getElem?_toList->UE,replicate->X6
open AX renaming normal->Xv,exit->Ξ,ret->YP
open aW renaming box->Vs
open AS renaming put->aCZ
open List.cons renaming injEq->aCW
open Classical renaming choose->To,choose_spec->Vm
open Go.MapKept renaming heap_alloc->Uc
open ay renaming mono->YF
open IntKind renaming i64->ξ
open Go.Sem renaming run_bind->Ts,run_pure->X8,run->U8
open Go.Result renaming andThen_ok->UM
open Go.Call renaming operands->aEj
open Option.some renaming injEq->Θ
section
open Go.RowKit
section
variable {X : Fx} {z : Z} {s : AS} {a : Act} {w w' : World} {E : List Pl} {pb : Nat -> Option Nat} {R : Type}
theorem vn{o:Oper}{v:Value}{w':World}{K:Act->World->Prop}{Q:Exit->Act->World->Prop}(h:(execOp a.eval o).run X.P w=.ok (.value v) w')(k:K (a.put o.dst v) w'):o.wp X.P a w K Q:=by unfold Oper.wp;rw[h,Oper.upon_value];exact k
theorem WX{o:Oper}{w':World}{K:Act->World->Prop}{Q:Exit->Act->World->Prop}(h:(execOp a.eval o).run X.P w=.ok .skip w')(k:K (a.put o.dst undef) w'):o.wp X.P a w K Q:=by unfold Oper.wp;rw[h,Oper.upon_skip];exact k
theorem St.undef(h:St X z s a w E pb)(d:Option Nat):St X z (s.put X d (.aM [])) (a.put d undef) w E pb:=
 h.put d (by simp only[ay];exact⟨#[],rfl,by simp [aX]⟩)
theorem CP(hs:fA X)(h:St X z s a w E pb){o:Oper}{k:AS->Option R}{r:R}(hk:((jA X o s μ).bind λv=>k (s.put X o.dst v))=δ r) {K:Act->World->Prop} {Q:Exit->Act->World->Prop}
  (hK:∀s' a' w' E' dN,St X z s' a' w' E' dN->k s'=δ r->K a' w'):o.wp X.P a w K Q:=by
 obtain⟨av,h1,h2⟩:=ct.1 hk;exact agF hs h (tag:=μ) trivial h1 λv w' E' h3 h4=>hK _ _ _ _ _ (h3.put o.dst h4) h2
theorem as8(h:St X z s a w E pb){q str:Bool}{i:Operand}{dst:Option Nat}{ty:TypeId}{pos:String}{af:Array Edge}{g:Option (Nat×Bool)}{k:AS->Option R}{r:R}
  (hk:(bif q||str then μ else A.xA (ev X s i) s.σ λv σ=>k ((s.heap σ).put X dst v))=δ r) {K:Act->World->Prop} {Q:Exit->Act->World->Prop}
  (hK:∀s' a' w' E' dN,St X z s' a' w' E' dN->k s'=δ r->K a' w'):Oper.wp X.P ⟨dst,.next i str,ty,pos,af,g⟩ a w K Q:=by
 cases hq:(q||str)
 ·rw[hq]at hk;simp only[bQ]at hk;simp only[qw]at hq;obtain⟨rfl,rfl⟩:=hq;obtain⟨av,σ',v',w',k1,k2,k3,k4⟩:=as9 (ty:=ty) h hk (gX h i);exact vn (w':=w') (by simp [execOp,k2]) (hK _ _ _ _ _ (k3.put dst k4) k1)
 ·rw[hq]at hk;cases hk
theorem amo(hs:fA X)(h:St X z s a w E pb){d t n:Nat}{ps:Array (Nat×Operand)}{ty:TypeId}{pos:String}{af:Array Edge}{g:Option (Nat×Bool)}{k:AS->Option R}{r:R}
  (hk:((jA X ⟨δ d,.buildSlice t n ps,ty,pos,af,g⟩ s μ).bind λv=>A.Ks v λsz es=>k ((s.heap (s.σ++[.arr es.length sz es])).put X (δ d) (.os s.σ.length es.length sz 0 es.length)))=δ r) {K:Act->World->Prop} {Q:Exit->Act->World->Prop}
  (hK:∀s' a' w' E' dN,St X z s' a' w' E' dN->k s'=δ r->K a' w'):Oper.wp X.P ⟨δ d,.buildSlice t n ps,ty,pos,af,g⟩ a w K Q:=by
 obtain⟨v,h1,h2⟩:=ct.1 hk;unfold A.Ks at h2;split at h2
 ·rename_i sz es;cases hl:(es.length==0)
  ·rw[hl]at h2;simp only[bQ]at h2;have hne:0<es.length:=by simp at hl;exact List.length_pos_iff.2 hl
   obtain⟨arr,et,e1,e2,e3,e4,e5⟩:=akO h h1;have hlen:=h.heap.len;simp only[ctx]at hlen;refine vn e1 (hK _ _ _ _ _ ((h.C9 (.cells arr et) (.arr es.length sz es) ⟨w.heap.size,0,es.length,sz,arr.size⟩ rfl λhx=>?_).put (δ d) (av:=.os s.σ.length es.length sz 0 es.length) ?_) h2)
   ·have hb:=(Uc w (.cells arr et)).1;exact⟨rfl,hne,rfl,e3,⟨arr,et,hb,rfl⟩,by rw[e2];simp,e4 _ hb hx,EP hb e5⟩
   ·simp only[ay];refine⟨hne,⟨w.heap.size,0,es.length,sz,arr.size⟩,by show(E++[_])[s.σ.length]? =_;rw[<-hlen];exact E8,bN _,⟨w.heap.size,0,μ⟩,es.length,rfl,bN _,λ_=>⟨rfl,.inr (by simp),by rw[e2];simp⟩⟩
  ·rw[hl]at h2;cases h2
 ·cases h2
theorem agB(hs:fA X)(h:St X z s a w E pb){q:Bool}{o:Oper}{k:AS->Option R}{r:R}(hk:jT X q o s k=δ r){K:Act->World->Prop}{Q:Exit->Act->World->Prop}
  (hK:∀s' a' w' E' dN,St X z s' a' w' E' dN->k s'=δ r->K a' w'):o.wp X.P a w K Q:=by
 unfold jT at hk;cases hp:mX X o s μ with
 |some p=>obtain⟨b,rr⟩:=p;rw[hp]at hk;simp only at hk;obtain⟨off,h1,h2⟩:=ct.1 hk;subst h1;obtain⟨n,k1,k2⟩:=agE h (tag:=μ) trivial hp;exact vn k2 (hK _ _ _ _ _ (h.azZ o.dst (λ_=>⟨n,k1,rfl⟩)) h2)
 |none=>
  rw[hp]at hk;simp only at hk;obtain⟨dst,op,ty,pos,af,g⟩:=o;cases op<;>simp only at hk<;>first|exact as8 h hk hK|exact CP hs h hk hK|skip
  case alloc t=>
   cases dst with
   |none=>cases hk
   |some d=>
    simp only at hk;cases hL:X.L.contains d
    ·rw[hL]at hk;simp only[bQ]at hk;cases hO:X.O.contains d
     ·rw[hO]at hk;exact CP hs h hk hK
     ·rw[hO]at hk;simp only[cU]at hk;split at hk
      ·rename_i cs hz;obtain⟨i,v,h1,h2,h3,h4,h5,h6⟩:=BS (w:=w) hz (ctx z w E pb)
       have hrun:(execOp a.eval ⟨δ d,.alloc t,ty,pos,af,g⟩).run X.P w=.ok (.value (.pointer (δ ⟨w.heap.size,0,μ⟩))) (w.alloc (.cells v.cells t)):=by simp [execOp,Instr.alloc,h3,newVar,BN]
       have hst:=h.C9 (.cells v.cells t) (.box cs) ⟨w.heap.size,0,0,0,0⟩ rfl (λhx=>by
        have hb:(w.alloc (.cells v.cells t)).heap[w.heap.size]? =δ (.cells v.cells t (0,0)):=(Uc w _).1
        exact⟨rfl,⟨_,_,hb,by have:=h5.length;simpa using this.symm⟩,bY.CC hb (Vz hx _ _ h5) h6 (λi hi=>by simp)⟩)
       have hlen:=h.heap.len;simp only[ctx]at hlen;refine vn hrun (hK _ _ _ _ _ (hst.put (δ d) (av:=.op s.σ.length 0) ?_) hk);simp only[ay];exact⟨⟨w.heap.size,0,0,0,0⟩,by show(E++[_])[s.σ.length]? =_;rw[<-hlen];exact E8,rfl,rfl⟩
      ·cases hk
    ·rw[hL]at hk;simp only[cU]at hk;split at hk
     ·rename_i cs hz;obtain⟨i,v,h1,h2,h3,h4,h5,h6⟩:=BS (w:=w) hz (ctx z w E pb)
      have hrun:(execOp a.eval ⟨δ d,.alloc t,ty,pos,af,g⟩).run X.P w=.ok (.value (.pointer (δ ⟨w.heap.size,0,μ⟩))) (w.alloc (.cells v.cells t)):=by simp [execOp,Instr.alloc,h3,newVar,BN]
      obtain⟨dN,hst⟩:=h.tD d hL (vs:=v.cells.toList) t h5 h6;exact vn hrun (hK _ _ _ _ _ (by simpa using hst) hk)
     ·cases hk
  case box t x=>
   cases dst with
   |none=>cases hk
   |some d=>
    simp only at hk;cases hL:X.L.contains d
    ·rw[hL]at hk;simp only[bQ]at hk;cases hO:X.O.contains d
     ·rw[hO]at hk;exact CP hs h hk hK
     ·rw[hO]at hk;simp only[cU]at hk;obtain⟨cs,h1,h2⟩:=ct.1 hk;obtain⟨h5,h6,_,_⟩:=Jk X h1 (gX h x)
      have hrun:(execOp a.eval ⟨δ d,.box t x,ty,pos,af,g⟩).run X.P w=.ok (.value (.pointer (δ ⟨w.heap.size,0,μ⟩))) (w.alloc (.cells (a.eval x).cells t)):=by simp [execOp,Instr.box,newVar,BN]
      have hst:=h.C9 (.cells (a.eval x).cells t) (.box cs) ⟨w.heap.size,0,0,0,0⟩ rfl (λhx=>by
       have hb:(w.alloc (.cells (a.eval x).cells t)).heap[w.heap.size]? =δ (.cells (a.eval x).cells t (0,0)):=(Uc w _).1
       exact⟨rfl,⟨_,_,hb,by have:=h5.length;simpa using this.symm⟩,bY.CC hb (Vz hx _ _ h5) h6 (λi hi=>by simp)⟩)
      have hlen:=h.heap.len;simp only[ctx]at hlen;refine vn hrun (hK _ _ _ _ _ (hst.put (δ d) (av:=.op s.σ.length 0) ?_) h2);simp only[ay];exact⟨⟨w.heap.size,0,0,0,0⟩,by show(E++[_])[s.σ.length]? =_;rw[<-hlen];exact E8,rfl,rfl⟩
    ·rw[hL]at hk;simp only[cU]at hk;obtain⟨cs,h1,h2⟩:=ct.1 hk;obtain⟨h5,h6,_,_⟩:=Jk X h1 (gX h x)
     have hrun:(execOp a.eval ⟨δ d,.box t x,ty,pos,af,g⟩).run X.P w=.ok (.value (.pointer (δ ⟨w.heap.size,0,μ⟩))) (w.alloc (.cells (a.eval x).cells t)):=by simp [execOp,Instr.box,newVar,BN]
     obtain⟨dN,hst⟩:=h.tD d hL (vs:=(a.eval x).cells.toList) t h5 h6;exact vn hrun (hK _ _ _ _ _ (by simpa using hst) h2)
  case store t x v=>
   split at hk
   ·rename_i b off hp;obtain⟨cs,h1,h2⟩:=ct.1 hk;obtain⟨new,h3,h4⟩:=ct.1 h2;obtain⟨cs',h5,h6⟩:=ct.1 h4;obtain⟨n,k1,k2,k3,k4⟩:=Jv h (tag:=μ) trivial hp h1;obtain⟨r1,r2,r3,d,hd⟩:=Jk X h3 (gX h v);obtain⟨arr,bt,j1,j2,j3⟩:=aeb k3;obtain⟨j4,j5⟩:=j2.iY h5 r1;have hrun:=VH (P:=X.P) (t:=t) j1 r3 (aa3 hd) r2 j5;have hst:=h.auM k1 ⟨cs,k4⟩ (t:=bt) j4 (JQ j3 r2);refine WX (w':=_) ?_ (hK _ _ _ _ _ (hst.undef dst) h6);simp only[execOp,k2,Ts];rw[show(Instr.storeAt t (.pointer (δ ⟨n,off,μ⟩)) (a.eval v)).run X.P w=_ from hrun];rfl
   ·obtain⟨new,h3,h4⟩:=ct.1 hk;obtain⟨σ',h5,h6⟩:=ct.1 h4;obtain⟨w',k1,k2⟩:=aoF h h3 (gX h v) h5 (gX h x);refine WX (w':=w') ?_ (hK _ _ _ _ _ (k2.undef dst) h6);simp only[execOp,Ts,k1];rfl
  case makeMap t rr=>
   cases rr with
   |some x=>cases hk
   |none=>
    simp only at hk
    have hrun:(execOp a.eval ⟨dst,.makeMap t μ,ty,pos,af,g⟩).run X.P w=.ok (.value (.map (δ w.heap.size))) (w.alloc (.map #[] 0)):=by simp [execOp,Instr.makeMap,newObj,U8]
    have hst:=h.C9 (.map #[] 0) (.map []) ⟨w.heap.size,0,0,0,0⟩ rfl (λhx=>by
     have hb:(w.alloc (.map #[] 0)).heap[w.heap.size]? =δ (.map #[] 0):=(Uc w _).1
     exact⟨rfl,_,_,hb,rZ.empty,rfl⟩)
    have hlen:=h.heap.len;simp only[ctx]at hlen;refine vn hrun (hK _ _ _ _ _ (hst.put dst (av:=.om s.σ.length) ?_) hk);simp only[ay];exact⟨⟨w.heap.size,0,0,0,0⟩,by show(E++[_])[s.σ.length]? =_;rw[<-hlen];exact E8,rfl,rfl⟩
  case range t x=>
   split at hk
   ·rename_i kt et hd;obtain⟨es,h1,h2⟩:=ct.1 hk;obtain⟨o,k1,k2⟩:=ari h hd h1 (gX h x);have hlen:=h.heap.len;simp only[ctx]at hlen;refine vn (v:=.pointer (δ ⟨w.heap.size,0,μ⟩)) (w':=w.alloc o) (by simp [execOp,k1]) (hK _ _ _ _ _ (k2.put dst (av:=.op s.σ.length 0) ?_) h2);simp only[ay];exact⟨⟨w.heap.size,0,0,0,0⟩,by show(E++[_])[s.σ.length]? =_;rw[<-hlen];exact E8,rfl,rfl⟩
   ·cases hk
  case buildSlice t n ps=>
   cases dst with
   |none=>exact CP hs h hk hK
   |some d=>
    simp only at hk;cases hO:X.O.contains d
    ·rw[hO]at hk;exact CP hs h hk hK
    ·rw[hO]at hk;simp only[cU]at hk;exact amo hs h hk hK
  case mapUpdate t m i v=>
   split at hk
   ·rename_i kt et hd;split at hk
    ·rename_i ek he;obtain⟨σ',h1,h2⟩:=ct.1 hk;obtain⟨w',k1,k2⟩:=as5 h hd he h1 (gX h m) (gX h i) (gX h v);refine WX (w':=w') ?_ (hK _ _ _ _ _ (k2.undef dst) h2);simp only[execOp,Ts,k1];rfl
    ·cases hk
   ·cases hk
  case call c=>
   have hargs:(c.args.map a.eval).toList=c.args.toList.map a.eval:=by simp
   have re:=JK h c.args.toList;split at hk
   ·rename_i hc;split at hk
    ·rename_i t u x y h1 h2;split at hk
     ·rename_i e e' hd hu;split at hk
      ·rename_i i hi;cases gQ:rD i
       ·rw[gQ]at hk;simp only[bQ]at hk;simp only[rD,qw,beq_eq_false_iff_ne]at gQ;obtain⟨⟨z1,z2⟩,z3⟩:=gQ;cases hzz:i.zero with
        |none=>rw[hzz]at z3;cases z3
        |some zv=>
         rw[hzz]at z3;simp only[qw,bne_eq_false_iff_eq,aDv]at z3;obtain⟨z3,z4⟩:=z3;obtain⟨⟨rr,σ'⟩,h3,h4⟩:=ct.1 hk;rw[h2]at re
         have hl:∃v vy,c.args.toList.map a.eval=[v,vy]/\ay (ctx z w E pb) x v/\ay (ctx z w E pb) y vy:=by
          generalize c.args.toList.map a.eval=vs at *
          simp only[aX]at re;obtain⟨v,_,rfl,r1,u',_,rfl,r2,rfl⟩:=re;exact⟨v,u',rfl,r1,r2⟩
         obtain⟨v,vy,hvs,r1,r2⟩:=hl;have hone:∀x∈zv.cells.toList,fS x=θ:=rN.1 z4;obtain⟨n,w',E',k1,k2,k3⟩:=aoX (ty:=ty) h hd hu hi hzz z3 z1 z2 hone h3 r1 r2;have h1':c.argTypes=#[t,u]:=by apply oI.1;simpa using h1
         have xQ:c.args.map a.eval=#[v,vy]:=by apply oI.1;rw[hargs,hvs]
         have hrun:(execOp a.eval ⟨dst,.call c,ty,pos,af,g⟩).run X.P w=.ok (.value n) w':=by simp only[execOp,resolve,hc,Ts,X8,UM,invoke,builtin,xQ,h1',k1]
         exact vn hrun (hK _ _ _ _ _ (k2.put dst k3) h4)
       ·rw[gQ]at hk;cases hk
      ·cases hk
     ·rename_i e kk hd hu;split at hk
      ·rename_i i zs hi hz;cases gQ:rD i
       ·rw[gQ]at hk;simp only[bQ]at hk;simp only[rD,qw,beq_eq_false_iff_ne]at gQ;obtain⟨⟨z1,z2⟩,z3⟩:=gQ;obtain⟨i',zv,g1,g2,g3,g4,g5,g6⟩:=BS (w:=w) hz (ctx z w E pb);rw[hi]at g1;injection g1 with g1;subst g1
        rw[g2]at z3;simp only[qw,bne_eq_false_iff_eq,aDv]at z3;obtain⟨z3,z4⟩:=z3
        have vX:∀c,aX c zs zv.cells.toList:=λc=>by
         obtain⟨i2,v2,f1,f2,f3,f4,f5,f6⟩:=BS (w:=w) hz c;rw[hi]at f1;injection f1 with f1;subst f1
         rw[g2]at f2;injection f2 with f2;subst f2
         exact f5
        obtain⟨⟨rr,σ'⟩,h3,h4⟩:=ct.1 hk;rw[h2]at re
        have hl:∃v vy,c.args.toList.map a.eval=[v,vy]/\ay (ctx z w E pb) x v/\ay (ctx z w E pb) y vy:=by
         generalize c.args.toList.map a.eval=vs at *
         simp only[aX]at re;obtain⟨v,_,rfl,r1,u',_,rfl,r2,rfl⟩:=re;exact⟨v,u',rfl,r1,r2⟩
        obtain⟨v,vy,hvs,r1,r2⟩:=hl;obtain⟨n,w',E',k1,k2,k3⟩:=anx (ty:=ty) h hd hu hi g2 z3 z1 z2 vX g6 h3 r1 r2;have h1':c.argTypes=#[t,u]:=by apply oI.1;simpa using h1
        have xQ:c.args.map a.eval=#[v,vy]:=by apply oI.1;rw[hargs,hvs]
        have hrun:(execOp a.eval ⟨dst,.call c,ty,pos,af,g⟩).run X.P w=.ok (.value n) w':=by simp only[execOp,resolve,hc,Ts,X8,UM,invoke,builtin,xQ,h1',k1]
        exact vn hrun (hK _ _ _ _ _ (k2.put dst k3) h4)
       ·rw[gQ]at hk;cases hk
      ·cases hk
     ·cases hk
    ·cases hk
   ·rename_i hc;split at hk
    ·rename_i t u x y h1 h2;split at hk
     ·rename_i e e' hd hu;split at hk
      ·rename_i i hi;cases gQ:rD i
       ·rw[gQ]at hk;simp only[bQ]at hk;simp only[rD,qw,beq_eq_false_iff_ne]at gQ;obtain⟨⟨z1,z2⟩,z3⟩:=gQ;obtain⟨⟨rr,σ'⟩,h3,h4⟩:=ct.1 hk;rw[h2]at re
        have hl:∃v vy,c.args.toList.map a.eval=[v,vy]/\ay (ctx z w E pb) x v/\ay (ctx z w E pb) y vy:=by
         generalize c.args.toList.map a.eval=vs at *
         simp only[aX]at re;obtain⟨v,_,rfl,r1,u',_,rfl,r2,rfl⟩:=re;exact⟨v,u',rfl,r1,r2⟩
        obtain⟨v,vy,hvs,r1,r2⟩:=hl;obtain⟨n,w',k1,k2,k3⟩:=asb (ty:=ty) h hd hu hi z1 h3 r1 r2;have h1':c.argTypes=#[t,u]:=by apply oI.1;simpa using h1
        have xQ:c.args.map a.eval=#[v,vy]:=by apply oI.1;rw[hargs,hvs]
        have hrun:(execOp a.eval ⟨dst,.call c,ty,pos,af,g⟩).run X.P w=.ok (.value n) w':=by simp only[execOp,resolve,hc,Ts,X8,UM,invoke,builtin,xQ,h1',k1]
        exact vn hrun (hK _ _ _ _ _ (k2.put dst k3) h4)
       ·rw[gQ]at hk;cases hk
      ·cases hk
     ·cases hk
    ·cases hk
   ·rename_i hc;cases hv:jA X ⟨dst,.call c,ty,pos,af,g⟩ s μ with
    |some v=>rw[hv]at hk;exact CP hs h (by rw[hv];exact hk) hK
    |none=>
     rw[hv]at hk;simp only[A.Fc]at hk;cases q
     ·simp only[bQ]at hk;split at hk
      ·rename_i t x h1 h2;split at hk
       ·rename_i e hd;rw[h2]at re
        have hl:∃v,c.args.toList.map a.eval=[v]/\ay (ctx z w E pb) x v:=by
         generalize c.args.toList.map a.eval=vs at *
         simp only[aX]at re;obtain⟨v,_,rfl,r1,rfl⟩:=re;exact⟨v,rfl,r1⟩
        obtain⟨v,hvs,r1⟩:=hl;obtain⟨n,σ',k1,k2,k3⟩:=arY (ty:=ty) h hd hk r1;have h1':c.argTypes=#[t]:=by apply oI.1;simpa using h1
        have xQ:c.args.map a.eval=#[v]:=by apply oI.1;rw[hargs,hvs]
        have hrun:(execOp a.eval ⟨dst,.call c,ty,pos,af,g⟩).run X.P w=.ok (.value (.int ξ (n:Int))) w:=by simp only[execOp,resolve,hc,Ts,X8,UM,invoke,builtin,xQ,h1',k2]
        exact vn hrun (hK _ _ _ _ _ (k3.put dst (by simp [ay])) k1)
       ·cases hk
      ·cases hk
     ·cases hk
   ·rename_i hc;split at hk
    ·rename_i t x h1 h2;split at hk
     ·rename_i e hd;split at hk
      ·rename_i i zs hi hz;cases gQ:rD i
       ·rw[gQ]at hk;simp only[bQ]at hk;simp only[rD,qw,beq_eq_false_iff_ne]at gQ;obtain⟨⟨z1,z2⟩,z3⟩:=gQ;obtain⟨i',zv,g1,g2,g3,g4,g5,g6⟩:=BS (w:=w) hz (ctx z w E pb);rw[hi]at g1;injection g1 with g1;subst g1
        rw[g2]at z3;simp only[qw,bne_eq_false_iff_eq,aDv]at z3;obtain⟨z3,z4⟩:=z3
        have vX:∀c,aX c zs zv.cells.toList:=λc=>by
         obtain⟨i2,v2,f1,f2,f3,f4,f5,f6⟩:=BS (w:=w) hz c;rw[hi]at f1;injection f1 with f1;subst f1
         rw[g2]at f2;injection f2 with f2;subst f2
         exact f5
        obtain⟨σ',h3,h4⟩:=ct.1 hk;rw[h2]at re
        have hl:∃v,c.args.toList.map a.eval=[v]/\ay (ctx z w E pb) x v:=by
         generalize c.args.toList.map a.eval=vs at *
         simp only[aX]at re;obtain⟨v,_,rfl,r1,rfl⟩:=re;exact⟨v,rfl,r1⟩
        obtain⟨v,hvs,r1⟩:=hl;obtain⟨w',k1,k2⟩:=aqq (ty:=ty) h hd (aoO X.P hi g2) z3 z1 vX g6 h3 r1;have h1':c.argTypes=#[t]:=by apply oI.1;simpa using h1
        have xQ:c.args.map a.eval=#[v]:=by apply oI.1;rw[hargs,hvs]
        have hrun:(execOp a.eval ⟨dst,.call c,ty,pos,af,g⟩).run X.P w=.ok (.value undef) w':=by simp only[execOp,resolve,hc,Ts,X8,UM,invoke,builtin,xQ,h1',k1];rfl
        exact vn hrun (hK _ _ _ _ _ (k2.undef dst) h4)
       ·rw[gQ]at hk;cases hk
      ·cases hk
     ·cases hk
    ·cases hk
   ·rename_i hc;split at hk
    ·rename_i t u m key h1 h2;split at hk
     ·rename_i kt et hd;split at hk
      ·rename_i ek he;obtain⟨σ',h3,h4⟩:=ct.1 hk;rw[h2]at re
       have hl:∃v vy,c.args.toList.map a.eval=[v,vy]/\ay (ctx z w E pb) m v/\ay (ctx z w E pb) key vy:=by
        generalize c.args.toList.map a.eval=vs at *
        simp only[aX]at re;obtain⟨v,_,rfl,r1,u',_,rfl,r2,rfl⟩:=re;exact⟨v,u',rfl,r1,r2⟩
       obtain⟨v,vy,hvs,r1,r2⟩:=hl;obtain⟨w',k1,k2⟩:=as1 (u:=u) (ty:=ty) h hd he h3 r1 r2;have h1':c.argTypes=#[t,u]:=by apply oI.1;simpa using h1
       have xQ:c.args.map a.eval=#[v,vy]:=by apply oI.1;rw[hargs,hvs]
       have hrun:(execOp a.eval ⟨dst,.call c,ty,pos,af,g⟩).run X.P w=.ok (.value undef) w':=by simp only[execOp,resolve,hc,Ts,X8,UM,invoke,builtin,xQ,h1',k1];rfl
       exact vn hrun (hK _ _ _ _ _ (k2.undef dst) h4)
      ·cases hk
     ·cases hk
    ·cases hk
   ·exact CP hs h hk hK
   ·rename_i f hc;cases hq:(q&&!X.W.contains f)
    ·rw[hq]at hk;simp only[bQ]at hk;obtain⟨⟨rr,σ'⟩,h3,h4⟩:=ct.1 hk;exact MA h (hs.call _ _ _ _ _ h3) (by rw[hargs];exact re) (aaR hc) (λv w' E' h1 h2=>hK _ _ _ _ _ (h1.put dst h2) h4)
    ·rw[hq]at hk;simp only[cU]at hk;exact CP hs h hk hK
   ·rename_i x hnf hc;cases q
    ·simp only[bQ]at hk;obtain⟨⟨rr,σ'⟩,h3,h4⟩:=ct.1 hk;have rx:=gX h x;generalize ev X s x=vx at *
     cases vx<;>simp only[A.l8]at h3<;>first|(cases h3;done)|skip
     rename_i fn0 MZ;simp only[ay]at rx;obtain⟨f,cs,e1,e2,e3⟩:=rx;rw[<-e2]at h3;have Ee:X.dyn (X.nm.getD f 0) (c.args.toList.map (ev X s)++MZ) s.σ=δ (rr,σ'):=by rw[h.nm];exact h3
     exact MA h (hs.dyn _ _ _ _ _ Ee) (vs:=c.args.map a.eval++cs) (by rw[aDU,hargs];exact re.append e3) (aBO hc e1) (λv w' E' h1 h2=>hK _ _ _ _ _ (h1.put dst h2) h4)
    ·simp only[cU]at hk;exact CP hs h hk hK
   ·cases hk
end
end
section
structure Up where
 d:Option Nat
 v:AV
 bx:Option (Nat×AV)
 new:Option yK
 AQ:Bool
 σ:Option Heap
def uE(AQ:Bool)(d:Nat)(a:Option yK):Option yK:=match tj d a with|some p=>bif AQ&&p.slot==d then μ else δ p|none=>μ
def Up.sl(u:Up)(l:List AV):List AV:=match u.d with
 |some d=>(match u.bx with|some (b,x)=>l.set b x|none=>l).set d u.v
 |none=>(match u.bx with|some (b,x)=>l.set b x|none=>l)
def Up.A(u:Up)(A:Nat->Option yK)(t:Nat):Option yK:=match u.d with|none=>A t|some d=>bif t==d then u.new else uE u.AQ d (A t)
def Up.ap(u:Up)(s:AS):AS:=⟨u.sl s.sl,u.A s.A,u.σ.getD s.σ⟩
theorem Mc(d:Nat)(a:Option yK):uE ι d a=tj d a:=by unfold uE;cases tj d a<;>rfl
theorem VR(i:Bool)(d:Nat)(a:Option yK):uE i d a=a\/uE i d a=μ:=by
 cases a with
 |none=>left;rfl
 |some p=>
  unfold uE;cases hk:tj d (δ p)with
  |none=>right;rfl
  |some q=>
   simp only
   have:q=p:=by
    simp only[tj]at hk;cases ht:p.tag with
    |none=>rw[ht]at hk;simpa using hk.symm
    |some g=>
     obtain⟨g,w⟩:=g;rw[ht]at hk;simp only at hk;cases hg:(g==d)
     ·rw[hg]at hk;simpa using hk.symm
     ·rw[hg]at hk;cases hk
   subst this;cases hb:(i&&q.slot==d)
   ·left;rfl
   ·right;rfl
theorem QU(i:Bool)(d:Nat):uE i d μ=μ:=rfl
theorem ape(i j:Bool)(d e:Nat)(a:Option yK):uE i d (uE j e a)=uE j e (uE i d a):=by
 rcases VR i d a with h1|h1<;>rcases VR j e a with h2|h2
 ·rw[h2,h1,h2]
 ·rw[h2,QU,h1,h2]
 ·rw[h2,h1,QU]
 ·rw[h2,QU,h1,QU]
structure Up.agQ (x y : Up) : Prop where
 d:∀d,x.d=δ d->y.d≠δ d
 bx:∀b v,x.bx=δ (b,v)->(∀c w,y.bx=δ (c,w)->c≠b)/\y.d≠δ b
 by':∀b v,y.bx=δ (b,v)->(∀c w,x.bx=δ (c,w)->c≠b)/\x.d≠δ b
 nx:∀d,y.d=δ d->uE y.AQ d x.new=x.new
 ny:∀d,x.d=δ d->uE x.AQ d y.new=y.new
 σ:x.σ=μ\/y.σ=μ
theorem Up.comm{x y:Up}(h:x.agQ y)(s:AS):x.ap (y.ap s)=y.ap (x.ap s):=by
 obtain⟨hd,lC,hby,hnx,hny,iW⟩:=h;unfold Up.ap;congr 1
 ·show x.sl (y.sl s.sl)=y.sl (x.sl s.sl);generalize s.sl=l;obtain⟨xd,xv,xb,xn,xi,xs⟩:=x;obtain⟨yd,yv,yb,yn,yi,ys⟩:=y;simp only at hd lC hby;cases xb with
  |none=>
   cases yb with
   |none=>
    cases xd with
    |none=>cases yd<;>simp [Up.sl]
    |some dx=>cases yd with
     |none=>simp [Up.sl]
     |some dy=>simp only[Up.sl];rw[Uo];intro e;exact hd dx rfl (by rw[e])
   |some bv=>
    obtain⟨b,v⟩:=bv;obtain⟨_,hb⟩:=hby b v rfl;cases xd with
    |none=>cases yd<;>simp [Up.sl]
    |some dx=>
     have hne:dx≠b:=λe=>hb (by rw[e])
     cases yd with
     |none=>simp only[Up.sl];rw[Uo _ _ (λe=>hne e.symm)]
     |some dy=>
      have uS:dx≠dy:=λe=>hd dx rfl (by rw[e])
      simp only[Up.sl];rw[Uo _ _ (λe=>uS e.symm),Uo _ _ (λe=>hne e.symm)]
  |some bv=>
   obtain⟨b,v⟩:=bv;obtain⟨OS,hb⟩:=lC b v rfl;cases yb with
   |none=>
    cases yd with
    |none=>cases xd<;>simp [Up.sl]
    |some dy=>
     have hne:dy≠b:=λe=>hb (by rw[e])
     cases xd with
     |none=>simp only[Up.sl];rw[Uo _ _ hne]
     |some dx=>
      have uS:dx≠dy:=λe=>hd dx rfl (by rw[e])
      simp only[Up.sl];rw[Uo _ _ hne,Uo _ _ (λe=>uS e.symm)]
   |some cw=>
    obtain⟨c,u⟩:=cw;have hcb:c≠b:=OS c u rfl;obtain⟨_,hc⟩:=hby c u rfl;cases xd with
    |none=>
     cases yd with
     |none=>simp only[Up.sl];rw[Uo _ _ hcb]
     |some dy=>
      have hne:dy≠b:=λe=>hb (by rw[e])
      simp only[Up.sl];rw[Uo _ _ hne,Uo _ _ hcb]
    |some dx=>
     have hnc:dx≠c:=λe=>hc (by rw[e])
     cases yd with
     |none=>simp only[Up.sl];rw[Uo _ _ hcb,Uo _ _ (λe=>hnc e.symm)]
     |some dy=>
      have hne:dy≠b:=λe=>hb (by rw[e])
      have uS:dx≠dy:=λe=>hd dx rfl (by rw[e])
      simp only[Up.sl];rw[Uo _ _ hne,Uo _ _ (λe=>uS e.symm),Uo _ _ hcb,Uo _ _ (λe=>hnc e.symm)]
 ·funext t;show x.A (y.A s.A) t=y.A (x.A s.A) t;generalize s.A t=a0;unfold Up.A;cases hxd:x.d with
  |none=>cases y.d<;>rfl
  |some dx=>
   cases hyd:y.d with
   |none=>rfl
   |some dy=>
    have uS:dx≠dy:=λe=>hd dx hxd (by rw[hyd,e])
    simp only;by_cases h1:t=dx
    ·subst h1;have:(t==dy)=ι:=by simpa using uS
     simp only[beq_self_eq_true,cU,this,bQ];exact(hnx dy hyd).symm
    ·have h1':(t==dx)=ι:=by simpa using h1
     by_cases h2:t=dy
     ·subst h2;simp only[beq_self_eq_true,cU,h1',bQ];exact hny dx hxd
     ·have h2':(t==dy)=ι:=by simpa using h2
      simp only[h1',h2',bQ];exact ape ..
 ·rcases iW with e|e<;>simp [e]
structure RI (X : Fx) (Rt : List (Nat × Nat)) (Bt : List Nat) (s : AS) : Prop where
 l:∀t b,Rt.lookup t=δ b->X.L.contains b=θ
 a:∀t p,s.A t=δ p->Rt.lookup t=δ p.slot
 v:∀t b,Rt.lookup t=δ b->X.L.contains t=ι->qd (s.sl.getD t .undef)=θ
 b:∀t,Bt.contains t=θ->tH (s.sl.getD t .undef)=θ
def vr(σ σ':Heap):Prop:=∀(id:Nat)(cs:List AV),σ[id]? =δ (Vs cs)↔σ'[id]? =δ (Vs cs)
section
variable {R : Type} {X : Fx} {Rt : List (Nat × Nat)} {Bt : List Nat} {s s' : AS}
theorem Rl(h:RI X Rt Bt s){tag:Option (Nat×Bool)}{x:Operand}{b off:Nat}(hp:place X s tag x=δ (b,off)):CI X Rt x=δ b:=by
 cases x with
 |tmp t=>
  simp only[place]at hp;simp only[CI];cases hL:X.L.contains t
  ·rw[hL]at hp;simp only[bQ]at hp ⊢;split at hp
   ·rename_i p hA;cases hc:X.L.contains p.slot
    ·rw[hc]at hp;cases hp
    ·rw[hc]at hp;simp only[cU]at hp;have ha:=h.a t p hA;split at hp
     ·simp only[Θ,T4]at hp;rw[ha,hp.1]
     ·rename_i g hg;cases ht:(tag==δ g)
      ·rw[ht]at hp;cases hp
      ·rw[ht]at hp;simp only[cU,Θ,T4]at hp;rw[ha,hp.1]
   ·cases hp
  ·rw[hL]at hp;simp only[cU,Θ,T4]at hp ⊢;exact hp.1
 |_=>simp [place]at hp
theorem JE(h:RI X Rt Bt s){tag:Option (Nat×Bool)}{x:Operand}{b:Nat}(hr:CI X Rt x=δ b)(hp:place X s tag x=μ):qd (ev X s x)=θ:=by
 cases x with
 |tmp t=>
  simp only[CI]at hr;cases hL:X.L.contains t
  ·rw[hL]at hr;simp only[bQ]at hr;simp only[ev,hL,bQ];exact h.v t b hr hL
  ·simp only[place,hL,cU]at hp;cases hp
 |_=>simp [CI]at hr
theorem aec{v:AV}{σ:Heap}(h:qd v=θ):χ v σ=μ:=by unfold qd at h;split at h<;>first|rfl|cases h
theorem ao9{v:AV}{σ σ':Heap}(h:vr σ σ')(hv:tH v=θ):χ v σ=χ v σ':=by
 cases v<;>first|rfl|skip
 case op id off=>
  simp only[χ];cases h1:σ[id]? with
  |none=>
   cases h2:σ'[id]? with
   |none=>rfl
   |some b=>cases b<;>first|rfl|(have:=(h id _).2 h2;rw[h1]at this;cases this)
  |some b=>
   cases b with
   |box cs=>rw[(h id cs).1 h1]
   |_=>
    cases h2:σ'[id]? with
    |none=>rfl
    |some b=>cases b<;>first|rfl|(have:=(h id _).2 h2;rw[h1]at this;cases this)
 case oe id g i off=>cases hv
theorem aoE{v:AV}{new:List AV}{σ:Heap}(h:qd v=θ):XZ v new σ=μ:=by unfold qd at h;split at h<;>first|rfl|cases h
theorem aCK{pl:Nat->Option (Nat×TypeId)}:∀(ps:List (Nat×Operand))(cs:List AV),(∀p∈ps,ev X s p.2=ev X s' p.2)->tG X s pl ps cs=tG X s' pl ps cs
 |[],cs,_=>rfl
 |(i,x)::ps,cs,h=>by
  have hx:=h (i,x) (by simp);simp only at hx;simp only[tG,hx];cases pl i with
  |none=>rfl
  |some ot=>simp only;congr 1;funext new;congr 1;funext cs';exact aCK ps cs' (λp hp=>h p (by simp [hp]))
theorem Wo{o:Oper}{tag:Option (Nat×Bool)}(jx:∀x∈o.op.operands.toList,ev X s x=ev X s' x)(hpl:∀x,sI o=δ x->place X s tag x=place X s' tag x)(hb:∀b,rt X Rt o=δ b->s.sl.getD b .undef=s'.sl.getD b .undef)
  (OL:∀x b off,sI o=δ x->place X s' tag x=δ (b,off)->rt X Rt o=δ b):mX X o s tag=mX X o s' tag:=by
 obtain⟨dst,op,ty,pos,af,g⟩:=o;cases op<;>simp only[mX]
 case nilCheck x=>
  rw[hpl x rfl];split
  ·rename_i b off hp;rw[hb b (OL x b off rfl hp)]
  ·rfl
 case fieldAddr t x f=>
  rw[hpl x rfl];split
  ·rename_i b off hp;rw[hb b (OL x b off rfl hp)]
  ·rfl
 case indexAddr t x i=>
  rw[hpl x rfl,jx i (by simp [VA])];split
  ·rename_i b off hp;rw[hb b (OL x b off rfl hp)]
  ·rfl
theorem QY{o:Oper}{tag:Option (Nat×Bool)}(jx:∀x∈o.op.operands.toList,ev X s x=ev X s' x)(hpl:∀x,sI o=δ x->place X s tag x=place X s' tag x)(hb:∀b,rt X Rt o=δ b->s.sl.getD b .undef=s'.sl.getD b .undef)
  (OL:∀x b off,sI o=δ x->place X s' tag x=δ (b,off)->rt X Rt o=δ b) (hno:∀x b,sI o=δ x->rt X Rt o=δ b->place X s' tag x=μ->qd (ev X s' x)=θ) (iW:yZ X Rt o=θ->soft Bt o=ι->s.σ=s'.σ) (axJ:yZ X Rt o=θ->soft Bt o=θ->vr s.σ s'.σ) (hB:∀t,Bt.contains t=θ->tH (ev X s' (.tmp t))=θ):jA X o s tag=jA X o s' tag:=by
 obtain⟨dst,op,ty,pos,af,g⟩:=o;cases op<;>simp only[jA];case move x=>rw[jx x (by simp [VA])]
 case assign x=>rw[jx x (by simp [VA])]
 case pick x y u=>rw[jx x (by simp [VA]),jx y (by simp [VA]),jx u (by simp [VA])]
 case box t x=>rw[jx x (by simp [VA])]
 case build t ps=>
  have hps:∀p∈ps.toList,ev X s p.2=ev X s' p.2:=λp hp=>jx p.2 (by simp only[VA];simp;exact⟨p.1,by simpa using hp⟩)
  split
  ·rw[aCK ps.toList _ hps]
  ·rfl
 case buildSlice t n ps=>
  have hps:∀p∈ps.toList,ev X s p.2=ev X s' p.2:=λp hp=>jx p.2 (by simp only[VA];simp;exact⟨p.1,by simpa using hp⟩)
  split
  ·split
   ·rw[aCK ps.toList _ hps]
   ·rfl
  ·rfl
 case load t x=>
  rw[hpl x rfl,jx x (by simp [VA])];split
  ·rename_i b off hp;rw[hb b (OL x b off rfl hp)]
  ·rename_i hp;cases hr:rt X Rt ⟨dst,.load t x,ty,pos,af,g⟩with
   |none=>
    cases H7:soft Bt ⟨dst,.load t x,ty,pos,af,g⟩
    ·rw[iW (by simp only[yZ,hr,UW]) H7]
    ·rw[ao9 (axJ (by simp only[yZ,hr,UW]) H7) (by
      cases x with
      |tmp u=>exact hB u H7
      |_=>simp [soft]at H7)]
   |some b=>rw[aec (hno x b rfl hr hp),aec (hno x b rfl hr hp)]
 case nilCheck x=>rw[jx x (by simp [VA])]
 case binOp op t x y u=>rw[jx x (by simp [VA]),jx y (by simp [VA])]
 case unOp op t x=>rw[jx x (by simp [VA])]
 case convert a b x=>rw[jx x (by simp [VA])]
 case makeFunc fn first caps=>
  have:caps.toList.map (ev X s)=caps.toList.map (ev X s'):=Yq λx hx=>jx x (by simp [VA];exact .inr (by simpa using hx))
  rw[this]
 case slice t x lo hi mx=>
  have h1:lo.map (ev X s)=lo.map (ev X s'):=by cases lo with|none=>rfl|some y=>simp only[cR];rw[jx y (by simp [VA])]
  have h2:hi.map (ev X s)=hi.map (ev X s'):=by cases hi with|none=>rfl|some y=>simp only[cR];rw[jx y (by simp [VA])]
  rw[jx x (by simp [VA]),h1,h2,iW rfl rfl];split
  ·rfl
  ·split
   ·rw[jx _ (by simp [VA]),jx _ (by simp [VA])]
   ·rfl
 case fieldAddr t x f=>rw[jx x (by simp [VA])]
 case field t x f=>rw[jx x (by simp [VA])]
 case indexAddr t x i=>rw[jx x (by simp [VA]),jx i (by simp [VA])]
 case index t x i=>rw[jx x (by simp [VA]),jx i (by simp [VA])]
 case lookup t x i ok=>rw[jx x (by simp [VA]),jx i (by simp [VA]),iW rfl rfl]
 case extract x i=>rw[jx x (by simp [VA])]
 case entry i=>rw[jx i (by simp [VA]),iW rfl rfl]
 case call c=>
  have ha:c.args.toList.map (ev X s)=c.args.toList.map (ev X s'):=Yq λx hx=>jx x (by simp [VA,aEj];exact .inr (by simpa using hx))
  rw[ha,iW rfl rfl];cases hc:c.callee with
  |value f=>have hf:=jx f (by simp [VA,aEj,hc]);cases f<;>simp only[hf]
  |_=>rfl
theorem Q4{σ:Heap}{b:aW}(hb:∀cs,b≠.box cs):vr σ (σ++[b]):=by
 intro id cs;by_cases h:id<σ.length
 ·rw[iS h]
 ·rw[rK (by omega),jq (by omega)];constructor
  ·intro e;cases e
  ·intro e;have:=dm e;simp at this;exact absurd this.symm (hb cs)
theorem aB3{σ:Heap}{id:Nat}{b b':aW}(hb:∀cs,b≠.box cs)(hb':∀cs,b'≠.box cs)(h:σ[id]? =δ b):vr σ (σ.set id b'):=by
 intro i cs;rw[kE];by_cases e:id=i
 ·subst e;rw[h];have hlt:=(bG.1 h).1;simp only[if_true,hlt];constructor
  ·intro e;injection e with e;exact absurd e (hb cs)
  ·intro e;injection e with e;exact absurd e (hb' cs)
 ·simp [e]
theorem Gt(σ:Heap):vr σ σ:=λ_ _=>Iff.rfl
theorem aqh{ek:A.EK}{m k v:AV}{σ σ':Heap}(h:A.jX ek m k v σ=δ σ'):vr σ σ':=by
 unfold A.jX at h;cases hk:A.lS ek k
 ·rw[hk]at h;cases h
 rw[hk]at h;simp only[cU]at h;split at h
 ·split at h
  ·rename_i es hg;obtain⟨es',_,e⟩:=fF.1 h;subst e;exact aB3 (λcs e=>by cases e) (λcs e=>by cases e) hg
  ·cases h
 ·cases h
theorem abx{sz most:Nat}{x r:AV}{ys:List (List AV)}{σ σ':Heap}(h:A.p6 sz most x ys σ=δ (r,σ')):vr σ σ':=by
 unfold A.p6 at h;split at h
 ·split at h
  ·injection h with h;injection h with _ h;subst h;exact Gt _
  ·split at h
   ·injection h with h;injection h with _ h;subst h;exact Q4 λcs e=>by cases e
   ·cases h
 ·split at h
  ·injection h with h;injection h with _ h;subst h;exact Gt _
  ·split at h
   ·injection h with h;injection h with _ h;subst h;exact Q4 λcs e=>by cases e
   ·cases h
 ·split at h
  ·rename_i hg;split at h
   ·split at h
    ·injection h with h;injection h with _ h;subst h;exact Gt _
    ·split at h
     ·injection h with h;injection h with _ h;subst h;exact aB3 (λcs e=>by cases e) (λcs e=>by cases e) hg
     ·injection h with h;injection h with _ h;subst h;exact aB3 (λcs e=>by cases e) (λcs e=>by cases e) hg
   ·cases h
  ·split at h
   ·injection h with h;injection h with _ h;subst h;exact Q4 λcs e=>by cases e
   ·cases h
  ·cases h
 ·cases h
theorem anz{sz most:Nat}{x y r:AV}{σ σ':Heap}(h:WK sz most x y σ=δ (r,σ')):vr σ σ':=by unfold WK at h;obtain⟨ys,_,h2⟩:=ct.1 h;exact abx h2
theorem amn{sz most:Nat}{zs:List AV}{x n r:AV}{σ σ':Heap}(h:A.AF sz most zs x n σ=δ (r,σ')):vr σ σ':=by
 unfold A.AF at h;split at h
 ·split at h
  ·exact abx h
  ·cases h
 ·cases h
structure Ag (X : Fx) (Rt : List (Nat × Nat)) (Bt : List Nat) (o : Oper) (ls : List Nat) (tag : Option (Nat × Bool)) (s s' : AS) : Prop where
 r1:RI X Rt Bt s
 r2:RI X Rt Bt s'
 jx:∀t∈ls,X.L.contains t=ι->s.sl.getD t .undef=s'.sl.getD t .undef
 pl:∀t,sI o=δ (.tmp t)->place X s tag (.tmp t)=place X s' tag (.tmp t)
 bx:∀b,rt X Rt o=δ b->s.sl.getD b .undef=s'.sl.getD b .undef
 σ:yZ X Rt o=θ->soft Bt o=ι->s.σ=s'.σ
 Pm:yZ X Rt o=θ->soft Bt o=θ->vr s.σ s'.σ
theorem arf{tag:Option (Nat×Bool)}{x:Operand}{b off:Nat}(h:place X s tag x=δ (b,off)):X.L.contains b=θ:=by
 cases x with
 |tmp t=>
  simp only[place]at h;cases hL:X.L.contains t
  ·rw[hL]at h;simp only[bQ]at h;split at h
   ·rename_i p hA;cases hp:X.L.contains p.slot
    ·rw[hp]at h;cases h
    ·rw[hp]at h;simp only[cU]at h;split at h
     ·simp only[Θ,T4]at h;rw[<-h.1];exact hp
     ·rename_i g hg;cases ht:(tag==δ g)
      ·rw[ht]at h;cases h
      ·rw[ht]at h;simp only[cU,Θ,T4]at h;rw[<-h.1];exact hp
   ·cases h
  ·rw[hL]at h;simp only[cU,Θ,T4]at h;rw[<-h.1];exact hL
 |_=>simp [place]at h
theorem Ag.FJ{o:Oper}{ls:List Nat}{tag:Option (Nat×Bool)}(h:Ag X Rt Bt o ls tag s s')(hls:∀t,Operand.tmp t∈o.op.operands.toList->t∈ls):∀x∈o.op.operands.toList,ev X s x=ev X s' x:=by
 intro x hx;cases x with
 |tmp t=>
  simp only[ev];cases hL:X.L.contains t
  ·simp only[bQ];exact h.jx t (hls t hx) hL
  ·rfl
 |_=>rfl
theorem RI.KG(h:RI X Rt Bt s):∀t,Bt.contains t=θ->tH (ev X s (.tmp t))=θ:=by
 intro t ht;simp only[ev];cases X.L.contains t
 ·exact h.b t ht
 ·rfl
theorem Ag.Ei{o:Oper}{ls:List Nat}{tag:Option (Nat×Bool)}(h:Ag X Rt Bt o ls tag s s'):∀x,sI o=δ x->place X s tag x=place X s' tag x:=by
 intro x hx;cases x with
 |tmp t=>exact h.pl t hx
 |_=>rfl
def F2(X:Fx)(d:Option Nat)(v:AV):Up:=⟨d,match d with|some d=>bif X.L.contains d then .undef else v|none=>.undef,μ,μ,ι,μ⟩
def Ph(X:Fx)(d:Option Nat)(σ:Heap)(v:AV):Up:=⟨d,match d with|some d=>bif X.L.contains d then .undef else v|none=>.undef,μ,μ,ι,δ σ⟩
def Ti(X:Fx)(d:Option Nat)(b:Nat)(cs:List AV):Up:=⟨d,match d with|some d=>bif X.L.contains d then .undef else .aM []|none=>.undef,δ (b,.lbx cs),μ,ι,μ⟩
def Th(d:Nat)(cs:List AV):Up:=⟨δ d,.lbx cs,μ,μ,θ,μ⟩
def Lf(X:Fx)(d:Option Nat)(b off:Nat)(tag:Option (Nat×Bool)):Up:=
 ⟨d,.undef,μ,match d with|some d=>(bif X.L.contains d||!ZQ d X.n then μ else match tag with|some (g,w)=>(bif g==d then μ else δ ⟨b,off,δ (g,w)⟩)|none=>δ ⟨b,off,μ⟩)|none=>μ,ι,μ⟩
theorem J3(d:Option Nat)(v:AV)(s:AS):s.put X d v=(F2 X d v).ap s:=by
 cases d with
 |none=>rfl
 |some d=>simp only[aCZ,Up.ap,F2,Up.sl,WO];congr 1;funext t;simp only[Up.A,Mc]
theorem nL(d:Option Nat)(v:AV)(σ:Heap)(s:AS):(s.heap σ).put X d v=(Ph X d σ v).ap s:=by
 cases d with
 |none=>rfl
 |some d=>simp only[aCZ,AS.heap,Up.ap,Ph,Up.sl,WU];congr 1;funext t;simp only[Up.A,Mc]
theorem acY(d:Option Nat)(b:Nat)(cs:List AV)(s:AS):(⟨s.sl.set b (.lbx cs),s.A,s.σ⟩:AS).put X d (.aM [])=(Ti X d b cs).ap s:=by
 cases d with
 |none=>rfl
 |some d=>simp only[aCZ,Up.ap,Ti,Up.sl,WO];congr 1;funext t;simp only[Up.A,Mc]
theorem QX(d:Nat)(cs:List AV)(s:AS):s.tD d cs=(Th d cs).ap s:=by simp only[AS.tD,Up.ap,Th,Up.sl,WO];congr 1
theorem RW(d:Option Nat)(b off:Nat)(tag:Option (Nat×Bool))(s:AS):s.qB X d b off tag=(Lf X d b off tag).ap s:=by
 cases d with
 |none=>rfl
 |some d=>simp only[AS.qB,Up.ap,Lf,Up.sl,WO];congr 1;funext t;simp only[Up.A,Mc];rfl
structure yD (X : Fx) (Rt : List (Nat × Nat)) (Bt : List Nat) (o : Oper) (ls : List Nat) (τ : Heap) (u : Up) : Prop where
 d:u.d=o.dst
 bx:∀b v,u.bx=δ (b,v)->X.L.contains b=θ/\wb X Rt o=δ b
 new:∀p,u.new=δ p->rL o=θ/\(∀g w,p.tag=δ (g,w)->g∈ls)/\rt X Rt o=δ p.slot/\∀d,u.d=δ d->Rt.lookup d=δ p.slot
 box:u.AQ=θ->∃d,o.dst=δ d/\X.L.contains d=θ
 σ:u.σ≠μ->uZ X Rt o=θ
 v:∀d b,u.d=δ d->Rt.lookup d=δ b->X.L.contains d=ι->qd u.v=θ
 vb:∀d,u.d=δ d->Bt.contains d=θ->tH u.v=θ
 bxv:∀b v,u.bx=δ (b,v)->tH v=θ
 fr:FL o=θ->∀σ,u.σ=δ σ->vr τ σ
def yL(X:Fx)(Rt:List (Nat×Nat))(Bt:List Nat)(o:Oper):Prop:=(∀d,o.dst=δ d->X.L.contains d=ι->Rt.lookup d=(bif yy o then rt X Rt o else μ))/\∀d,o.dst=δ d->Bt.contains d=θ->B4 Bt o=θ
theorem yL.of{o:Oper}(h:Yj X Rt o=θ)(hb:aB1 Bt o=θ):yL X Rt Bt o:=by
 refine⟨λd hd hL=>?_,λd hd hc=>?_⟩
 ·unfold Yj at h;rw[hd]at h;simp only[hL,aD0,beq_iff_eq]at h;exact h
 ·unfold aB1 at hb;rw[hd]at hb;simp only[hc,Ur,aD0]at hb;exact hb
theorem aBP{o:Oper}{ls:List Nat}(v:AV)(hR:yL X Rt Bt o)(hv:yy o=θ->∀b,rt X Rt o=δ b->qd v=θ)(Cz:B4 Bt o=θ->tH v=θ){τ:Heap}:yD X Rt Bt o ls τ (F2 X o.dst v):=by
 refine⟨rfl,(λb v h=>by cases h),(λp h=>by cases h),(λh=>by cases h),(λh=>absurd rfl h),λd b hd hl hL=>?_,λd hd hc=>?_,(λb v h=>by cases h),(λ_ σ h=>by cases h)⟩
 ·simp only[F2]at hd ⊢;rw[hd];simp only[hL,bQ];rw[hR.1 d hd hL]at hl;cases ha:yy o
  ·rw[ha]at hl;cases hl
  ·rw[ha]at hl;exact hv ha b hl
 ·have:=Cz (hR.2 d hd hc);simp only[F2]at hd ⊢;rw[hd];simp only;cases X.L.contains d
  ·exact this
  ·rfl
theorem yt{o:Oper}{ls:List Nat}(σ:Heap)(v:AV)(hR:yL X Rt Bt o)(h:uZ X Rt o=θ)(hn:yy o=ι)(hcb:B4 Bt o=ι){τ:Heap}(hf:FL o=θ->vr τ σ):yD X Rt Bt o ls τ (Ph X o.dst σ v):=by
 refine⟨rfl,(λb v h=>by cases h),(λp h=>by cases h),(λh=>by cases h),(λ_=>h),λd b hd hl hL=>?_,λd hd hc=>?_,(λb v h=>by cases h),(λhw σ' h=>?_)⟩
 ·simp only[Ph]at hd;rw[hR.1 d hd hL,hn]at hl;cases hl
 ·have:=hR.2 d hd hc;rw[hcb]at this;cases this
 ·simp only[Ph,Θ]at h;subst h;exact hf hw
theorem agO{τ:Heap}{o:Oper}{ls:List Nat}{b off:Nat}{tag:Option (Nat×Bool)}(hR:yL X Rt Bt o)(ha:yy o=θ)(hr:rt X Rt o=δ b)(h:rL o=θ)(ht:∀g w,tag=δ (g,w)->g∈ls):yD X Rt Bt o ls τ (Lf X o.dst b off tag):=by
 refine⟨rfl,(λb v h=>by cases h),(λp hp=>?_),(λh=>by cases h),(λh=>absurd rfl h),(λd b hd hl hL=>rfl),(λ_ _ _=>rfl),(λb v h=>by cases h),(λ_ σ h=>by cases h)⟩
 have key:p.slot=b/\(∀g w,p.tag=δ (g,w)->g∈ls)/\∀d,o.dst=δ d->X.L.contains d=ι:=by
  unfold Lf at hp;simp only at hp;cases hd:o.dst with
  |none=>rw[hd]at hp;cases hp
  |some d=>
   rw[hd]at hp;simp only at hp;cases hc:(X.L.contains d||!ZQ d X.n)
   ·rw[hc]at hp;simp only[bQ]at hp;have hL:X.L.contains d=ι:=by simp only[qw]at hc;exact hc.1
    cases tag with
    |none=>simp only[Θ]at hp;subst hp;exact⟨rfl,(λg w e=>by cases e),λd' e=>by injection e with e;rw[<-e];exact hL⟩
    |some gw=>
     obtain⟨g',w'⟩:=gw;simp only at hp;cases hg:(g'==d)
     ·rw[hg]at hp;simp only[bQ,Θ]at hp;subst hp;refine⟨rfl,λg w e=>?_,λd' e=>by injection e with e;rw[<-e];exact hL⟩;simp only[Θ,T4]at e;rw[<-e.1];exact ht g' w' rfl
     ·rw[hg]at hp;cases hp
   ·rw[hc]at hp;cases hp
 refine⟨h,key.2.1,by rw[hr,key.1],λd hd=>?_⟩;have hd':o.dst=δ d:=hd;rw[hR.1 d hd' (key.2.2 d hd'),ha,cU,hr,key.1]
theorem QW(l:List AV)(d t:Nat)(v:AV)(h:t≠d):(l.set d v).getD t .undef=l.getD t .undef:=by
 have h':¬d=t:=λe=>h (Eq.symm e)
 simp only[U1,kE,aO h']
theorem Ye{u:Up}{l:List AV}{t:Nat}(h1:u.d≠δ t)(h2:∀b v,u.bx=δ (b,v)->t≠b):(u.sl l).getD t .undef=l.getD t .undef:=by
 unfold Up.sl;cases hd:u.d with
 |none=>
  cases hb:u.bx with
  |none=>rfl
  |some bv=>obtain⟨b,v⟩:=bv;exact QW _ _ _ _ (h2 b v hb)
 |some d=>
  have hne:t≠d:=λe=>h1 (by rw[hd,e])
  cases hb:u.bx with
  |none=>exact QW _ _ _ _ hne
  |some bv=>obtain⟨b,v⟩:=bv;simp only;rw[QW _ _ _ _ hne,QW _ _ _ _ (h2 b v hb)]
theorem yD.ri{τ:Heap}{o:Oper}{ls:List Nat}{u:Up}(h:yD X Rt Bt o ls τ u)(hs:RI X Rt Bt s):RI X Rt Bt (u.ap s):=by
 refine⟨hs.l,λt p hp=>?_,λt b ht hL=>?_,λt ht=>?_⟩
 ·have hp':u.A s.A t=δ p:=hp;unfold Up.A at hp';cases hd:u.d with
  |none=>rw[hd]at hp';exact hs.a t p hp'
  |some d=>
   rw[hd]at hp';simp only at hp';cases hc:(t==d)
   ·rw[hc]at hp';simp only[bQ]at hp';rcases VR u.AQ d (s.A t)with e|e
    ·rw[e]at hp';exact hs.a t p hp'
    ·rw[e]at hp';cases hp'
   ·rw[hc]at hp';simp only[cU]at hp';have:t=d:=by simpa using hc
    subst this;exact(h.new p hp').2.2.2 t hd
 ·show qd ((u.sl s.sl).getD t .undef)=θ;by_cases hd:u.d=δ t
  ·have hv:=h.v t b hd ht hL
   have:(u.sl s.sl).getD t .undef=u.v\/(u.sl s.sl).getD t .undef=.undef:=by
    unfold Up.sl;rw[hd];simp only[U1];rw[kE];simp only[if_true];generalize (match u.bx with|some (b,x)=>s.sl.set b x|none=>s.sl)=q;by_cases hq:t<q.length
    ·left;simp [hq]
    ·right;simp [hq]
   rcases this with e|e
   ·rw[e];exact hv
   ·rw[e];rfl
  ·rw[Ye hd (λb' v hb e=>by have:=(h.bx b' v hb).1;rw[<-e,hL]at this;cases this)];exact hs.v t b ht hL
 ·show tH ((u.sl s.sl).getD t .undef)=θ
  have sG:∀(l:List AV)(d:Nat)(v:AV),(l.set d v).getD t .undef=v/\t=d\/(l.set d v).getD t .undef=l.getD t .undef\/(l.set d v).getD t .undef=.undef:=by
   intro l d v;simp only[U1,kE];by_cases e:d=t
   ·subst e;by_cases hq:d<l.length
    ·left;simp [hq]
    ·right;right;simp [hq]
   ·right;left;simp [e]
  have lC:tH ((match u.bx with|some (b,x)=>s.sl.set b x|none=>s.sl).getD t .undef)=θ:=by
   cases hb:u.bx with
   |none=>exact hs.b t ht
   |some bv=>
    obtain⟨b,v⟩:=bv;rcases sG s.sl b v with⟨e,_⟩|e|e
    ·simp only;rw[e];exact h.bxv b v hb
    ·simp only;rw[e];exact hs.b t ht
    ·simp only;rw[e];rfl
  unfold Up.sl;generalize (match u.bx with|some (b,x)=>s.sl.set b x|none=>s.sl)=q at lC;cases hd:u.d with
  |none=>exact lC
  |some d=>
   simp only;rcases sG q d u.v with⟨e,e2⟩|e|e
   ·rw[e];exact h.vb d hd (e2▸ht)
   ·rw[e];exact lC
   ·rw[e];rfl
theorem agC{o:Oper}{tag:Option (Nat×Bool)}{p:Nat×Option Nat}(h:mX X o s tag=δ p):rL o=θ:=by obtain⟨dst,op,ty,pos,af,g⟩:=o;cases op<;>simp only[mX]at h<;>first|(cases h;done)|rfl
theorem afD{o:Oper}{tag:Option (Nat×Bool)}{p:Nat×Option Nat}(h:mX X o s tag=δ p):yy o=θ:=by obtain⟨dst,op,ty,pos,af,g⟩:=o;cases op<;>simp only[mX]at h<;>first|(cases h;done)|rfl
theorem agD(hI:RI X Rt Bt s){o:Oper}{tag:Option (Nat×Bool)}{b:Nat}{rr:Option Nat}(h:mX X o s tag=δ (b,rr)):rt X Rt o=δ b:=by
 obtain⟨dst,op,ty,pos,af,g⟩:=o;cases op<;>simp only[mX]at h<;>first|(cases h;done)|skip
 all_goals
  split at h
  ·rename_i b' off hp;simp only[Θ,T4]at h;simp only[rt,sI];rw[<-h.1];exact Rl hI hp
  ·cases h
theorem afE(hI:RI X Rt Bt s){o:Oper}{tag:Option (Nat×Bool)}{v:AV}(ha:yy o=θ){b:Nat}(hr:rt X Rt o=δ b)(hp:mX X o s tag=μ)(h:jA X o s tag=δ v):False:=by
 obtain⟨dst,op,ty,pos,af,g⟩:=o;have nf:∀(x:AV)(n:Nat),qd x=θ->WC n x=μ:=λx n h=>by unfold qd at h;split at h<;>first|rfl|cases h
 have nn:∀(x:AV),qd x=θ->ZP x=μ:=λx h=>by unfold qd at h;split at h<;>first|rfl|cases h
 have ni:∀(x i:AV)(n:Nat),qd x=θ->Zo n x i=μ:=λx i n h=>by unfold qd at h;split at h<;>first|rfl|cases h
 have na:∀(x i:AV)(m n:Nat),qd x=θ->A.Cc m n x i=μ:=λx i m n h=>by
  unfold qd at h;unfold A.Cc;split at h<;>first|(cases h;done)|skip
  all_goals cases A.idx m i<;>rfl
 cases op<;>simp only[yy]at ha<;>first|(cases ha;done)|skip
 case nilCheck x=>
  simp only[mX]at hp;simp only[rt,sI]at hr;split at hp
  ·cases hp
  ·rename_i hpl;simp only[jA,nn _ (JE hI hr hpl)]at h;cases h
 case fieldAddr t x f=>
  simp only[mX]at hp;simp only[rt,sI]at hr;split at hp
  ·cases hp
  ·rename_i hpl;simp only[jA]at h;split at h
   ·split at h
    ·rename_i i _;cases hz:(i.size==0)
     ·rw[hz]at h;simp only[bQ,nf _ _ (JE hI hr hpl)]at h;cases h
     ·rw[hz]at h;cases h
    ·cases h
   ·cases h
 case indexAddr t x i=>
  simp only[mX]at hp;simp only[rt,sI]at hr;split at hp
  ·cases hp
  ·rename_i hpl;simp only[jA]at h;split at h
   ·split at h
    ·simp only[ni _ _ _ (JE hI hr hpl)]at h;cases h
    ·cases h
   ·split at h
    ·simp only[na _ _ _ _ (JE hI hr hpl)]at h;cases h
    ·cases h
   ·cases h
theorem qq{α β:Type}{x:Option α}{f:α->Option β}{b:β}(h:x.bind f=δ b):∃a,x=δ a/\f a=δ b:=ct.1 h
theorem ady(hB:∀t,Bt.contains t=θ->tH (ev X s (.tmp t))=θ){o:Oper}{tag:Option (Nat×Bool)}{v:AV}(hc:B4 Bt o=θ)(h:jA X o s tag=δ v):tH v=θ:=by
 obtain⟨dst,op,ty,pos,af,g⟩:=o
 have nk:∀x,tH x=θ->∀y,ZP x=δ y->tH y=θ:=λx hx y e=>by cases x<;>simp only[ZP]at e<;>first|(cases e;done)|(injection e with e;subst e;exact hx)
 have nf:∀x,tH x=θ->∀n y,WC n x=δ y->tH y=θ:=λx hx n y e=>by cases x<;>simp only[WC]at e<;>first|(cases e;done)|(cases hx;done)|(injection e with e;subst e;rfl)
 cases op<;>simp only[B4]at hc<;>first|(cases hc;done)|skip
 case move x=>
  cases x<;>first|(cases hc;done)|skip
  simp only[jA,Θ]at h;subst h;exact hB _ hc
 case assign x=>
  cases x<;>first|(cases hc;done)|skip
  simp only[jA,Θ]at h;subst h;exact hB _ hc
 case nilCheck x=>
  cases x<;>first|(cases hc;done)|skip
  simp only[jA]at h;exact nk _ (hB _ hc) _ h
 case fieldAddr t x f=>
  cases x<;>first|(cases hc;done)|skip
  simp only[jA]at h;split at h
  ·split at h
   ·rename_i i _;cases hz:(i.size==0)
    ·rw[hz]at h;simp only[bQ]at h;exact nf _ (hB _ hc) _ _ h
    ·rw[hz]at h;cases h
   ·cases h
  ·cases h
theorem agA{o:Oper}{ls:List Nat}(hR:yL X Rt Bt o)(hI:RI X Rt Bt s)(hls:∀t,Operand.tmp t∈o.op.operands.toList->t∈ls){k:AS->Option R}{r:R}(h:jT X θ o s k=δ r):
  ∃u,yD X Rt Bt o ls s.σ u/\k (u.ap s)=δ r/\∀(R':Type)(k':AS->Option R')(s':AS),Ag X Rt Bt o ls μ s s'->jT X θ o s' k'=k' (u.ap s'):=by
 have Fl:∀(s':AS),RI X Rt Bt s'->∀x b off,sI o=δ x->place X s' μ x=δ (b,off)->rt X Rt o=δ b:=λs' hi x b off hx hp=>by simp only[rt,hx];exact Rl hi hp
 have Kn:∀(s':AS),RI X Rt Bt s'->∀x b,sI o=δ x->rt X Rt o=δ b->place X s' μ x=μ->qd (ev X s' x)=θ:=λs' hi x b hx hr hp=>by simp only[rt,hx]at hr;exact JE hi hr hp
 unfold jT at h;cases hp:mX X o s μ with
 |some p=>
  obtain⟨b,rr⟩:=p;rw[hp]at h;simp only at h;obtain⟨off,e1,e2⟩:=qq h;subst e1;refine⟨Lf X o.dst b off μ,agO hR (afD hp) (agD hI hp) (agC hp) (λg w e=>by cases e),by rw[<-RW];exact e2,λR' k' s' ha=>?_⟩;have:mX X o s' μ=δ (b,δ off):=by rw[<-hp];exact(Wo (ha.FJ hls) ha.Ei ha.bx (Fl s' ha.r2)).symm
  unfold jT;rw[this];simp only[aJ];rw[RW]
 |none=>
  rw[hp]at h;simp only at h;have hP:∀s',Ag X Rt Bt o ls μ s s'->mX X o s' μ=μ:=λs' ha=>by rw[<-hp];exact(Wo (ha.FJ hls) ha.Ei ha.bx (Fl s' ha.r2)).symm
  have dflt:((jA X o s μ).bind λv=>k (s.put X o.dst v))=δ r->(∀(R':Type)(k':AS->Option R')(s':AS),Ag X Rt Bt o ls μ s s'->jT X θ o s' k'=(jA X o s' μ).bind λv=>k' (s'.put X o.dst v))->
    ∃u,yD X Rt Bt o ls s.σ u/\k (u.ap s)=δ r/\∀(R':Type)(k':AS->Option R')(s':AS),Ag X Rt Bt o ls μ s s'->jT X θ o s' k'=k' (u.ap s'):=by
   intro hd hsame;obtain⟨v,e1,e2⟩:=qq hd;refine⟨F2 X o.dst v,aBP v hR (λha b hr=>(afE hI ha hr hp e1).elim) (λhc=>ady hI.KG hc e1),by rw[<-J3];exact e2,λR' k' s' ha=>?_⟩;have:jA X o s' μ=δ v:=by rw[<-e1];exact(QY (ha.FJ hls) ha.Ei ha.bx (Fl s' ha.r2) (Kn s' ha.r2) ha.σ ha.Pm ha.r2.KG).symm
   rw[hsame R' k' s' ha,this,aJ,J3]
  obtain⟨dst,op,ty,pos,af,g⟩:=o;have Cn:∀s',Ag X Rt Bt ⟨dst,op,ty,pos,af,g⟩ ls μ s s'->∀x∈op.operands.toList,ev X s x=ev X s' x:=λs' ha=>ha.FJ hls
  have unf:∀{R':Type}(k':AS->Option R')(s':AS),Ag X Rt Bt ⟨dst,op,ty,pos,af,g⟩ ls μ s s'->mX X ⟨dst,op,ty,pos,af,g⟩ s' μ=μ:=λk' s' ha=>hP s' ha
  cases op<;>simp only at h<;>first
   |(exact absurd (show(μ:Option R)=δ r from h) (by simp))
   |exact dflt h (λR' k' s' ha=>by unfold jT;rw[hP s' ha])
   |skip
  case alloc t=>
   cases dst with
   |none=>cases h
   |some d=>
    simp only at h;cases hL:X.L.contains d
    ·rw[hL]at h;simp only[bQ]at h;cases hO:X.O.contains d
     ·rw[hO]at h;exact dflt h (λR' k' s' ha=>by unfold jT;rw[hP s' ha];simp only[hL,hO,bQ])
     ·rw[hO]at h;simp only[cU]at h;split at h
      ·rename_i cs hz;rw[nL]at h;refine⟨_,yt _ _ hR (by simp [uZ,wH];simpa using hO) rfl rfl (λh=>by cases h),h,λR' k' s' ha=>?_⟩;have iW:=ha.σ (by simpa [yZ]using hO) rfl;unfold jT;rw[hP s' ha];simp only[hL,hO,bQ,cU,hz,iW];rw[nL]
      ·cases h
    ·rw[hL]at h;simp only[cU]at h;split at h
     ·rename_i cs hz;rw[QX]at h;refine⟨_,⟨rfl,(λb v h=>by cases h),(λp h=>by cases h),(λ_=>⟨d,rfl,hL⟩),(λh=>absurd rfl h),(λd' b e _ hL'=>by simp only[Th,Θ]at e;rw[<-e,hL]at hL';cases hL'),(λ_ _ _=>rfl),(λb v h=>by cases h),(λ_ σ h=>by cases h)⟩,h,λR' k' s' ha=>?_⟩;unfold jT;rw[hP s' ha];simp only[hL,cU,hz];rw[QX]
     ·cases h
  case box t x=>
   cases dst with
   |none=>cases h
   |some d=>
    simp only at h;cases hL:X.L.contains d
    ·rw[hL]at h;simp only[bQ]at h;cases hO:X.O.contains d
     ·rw[hO]at h;exact dflt h (λR' k' s' ha=>by unfold jT;rw[hP s' ha];simp only[hL,hO,bQ])
     ·rw[hO]at h;simp only[cU]at h;obtain⟨cs,e1,e2⟩:=qq h;rw[nL]at e2;refine⟨_,yt _ _ hR (by simp [uZ,wH];simpa using hO) rfl rfl (λh=>by cases h),e2,λR' k' s' ha=>?_⟩;have iW:=ha.σ (by simpa [yZ]using hO) rfl;have hx:=Cn s' ha x (by simp [VA]);unfold jT;rw[hP s' ha];simp only[hL,hO,bQ,cU,<-hx,e1,aJ,iW];rw[nL]
    ·rw[hL]at h;simp only[cU]at h;obtain⟨cs,e1,e2⟩:=qq h;rw[QX]at e2;refine⟨_,⟨rfl,(λb v h=>by cases h),(λp h=>by cases h),(λ_=>⟨d,rfl,hL⟩),(λh=>absurd rfl h),(λd' b e _ hL'=>by simp only[Th,Θ]at e;rw[<-e,hL]at hL';cases hL'),(λ_ _ _=>rfl),(λb v h=>by cases h),(λ_ σ h=>by cases h)⟩,e2,λR' k' s' ha=>?_⟩;have hx:=Cn s' ha x (by simp [VA]);unfold jT;rw[hP s' ha];simp only[hL,cU,<-hx,e1,aJ];rw[QX]
  case store t x v=>
   split at h
   ·rename_i b off hpl;obtain⟨cs,e1,e2⟩:=qq h;obtain⟨new,e3,e4⟩:=qq e2;obtain⟨cs',e5,e6⟩:=qq e4;rw[acY]at e6;have Ef:rt X Rt ⟨dst,.store t x v,ty,pos,af,g⟩=δ b:=by simp only[rt,sI];exact Rl hI hpl
    refine⟨_,⟨rfl,(λb' v' hb=>by simp only[Ti,Θ,T4]at hb;rw[<-hb.1];exact⟨arf hpl,Ef⟩),(λp h=>by cases h),(λh=>by cases h),(λh=>absurd rfl h),(λd1 b1 e hl hL=>by rw[hR.1 d1 e hL]at hl;cases hl),(λd1 e hc=>by have:=hR.2 d1 e hc;cases this),(λb1 v1 hb=>by simp only[Ti,Θ,T4]at hb;rw[<-hb.2];rfl),(λ_ σ h=>by cases h)⟩,e6,λR' k' s' ha=>?_⟩;have hv:=Cn s' ha v (by simp [VA]);have hpx:place X s' μ x=δ (b,off):=by rw[<-hpl];exact(ha.Ei x rfl).symm
    have lC:=ha.bx b Ef;unfold jT;rw[hP s' ha];simp only[hpx,<-lC,e1,aJ,<-hv,e3,e5];rw[acY]
   ·rename_i hpl;obtain⟨new,e3,e4⟩:=qq h;obtain⟨σ',e5,e6⟩:=qq e4;rw[nL]at e6
    have Ef:rt X Rt ⟨dst,.store t x v,ty,pos,af,g⟩=μ:=by
     cases hr:rt X Rt ⟨dst,.store t x v,ty,pos,af,g⟩with
     |none=>rfl
     |some b=>rw[aoE (Kn s hI x b rfl hr hpl)]at e5;cases e5
    have hw:uZ X Rt ⟨dst,.store t x v,ty,pos,af,g⟩=θ:=by simp only[uZ,Ef,UW]
    refine⟨_,yt _ _ hR hw rfl rfl (λh=>by cases h),e6,λR' k' s' ha=>?_⟩;have hv:=Cn s' ha v (by simp [VA]);have hx:=Cn s' ha x (by simp [VA]);have iW:=ha.σ (by simp only[yZ,Ef,UW]) rfl;have hpx:place X s' μ x=μ:=by rw[<-hpl];exact(ha.Ei x rfl).symm
    unfold jT;rw[hP s' ha];simp only[hpx,<-hv,<-hx,e3,aJ,<-iW,e5];rw[nL]
  case makeMap t rr=>
   cases rr with
   |some x=>cases h
   |none=>simp only at h;rw[nL]at h;refine⟨_,yt _ _ hR rfl rfl rfl (λ_=>Q4 (λcs e=>by cases e)),h,λR' k' s' ha=>?_⟩;have iW:=ha.σ rfl rfl;unfold jT;rw[hP s' ha];simp only[<-iW];rw[nL]
  case range t x=>
   split at h
   ·rename_i kt et hd;obtain⟨es,e1,e2⟩:=qq h;rw[nL]at e2;refine⟨_,yt _ _ hR rfl rfl rfl (λh=>by cases h),e2,λR' k' s' ha=>?_⟩;have hx:=Cn s' ha x (by simp [VA]);have iW:=ha.σ rfl rfl;unfold jT;rw[hP s' ha];simp only[hd,<-hx,<-iW,e1,aJ];rw[nL]
   ·cases h
  case buildSlice t n ps=>
   cases dst with
   |none=>exact dflt h (λR' k' s' ha=>by unfold jT;rw[hP s' ha])
   |some d=>
    simp only at h;cases hO:X.O.contains d
    ·rw[hO]at h;exact dflt h (λR' k' s' ha=>by unfold jT;rw[hP s' ha];simp only[hO,bQ])
    ·rw[hO]at h;simp only[cU]at h;obtain⟨v,e1,e2⟩:=qq h
     have hv:∀s',Ag X Rt Bt ⟨δ d,.buildSlice t n ps,ty,pos,af,g⟩ ls μ s s'->jA X ⟨δ d,.buildSlice t n ps,ty,pos,af,g⟩ s' μ=δ v:=λs' ha=>by rw[<-e1];exact(QY (ha.FJ hls) ha.Ei ha.bx (Fl s' ha.r2) (Kn s' ha.r2) ha.σ ha.Pm ha.r2.KG).symm
     unfold A.Ks at e2;split at e2
     ·rename_i sz es;cases hl:(es.length==0)
      ·rw[hl]at e2;simp only[bQ]at e2;rw[nL]at e2;refine⟨_,yt _ _ hR (by simp [uZ,wH];simpa using hO) rfl rfl (λh=>by cases h),e2,λR' k' s' ha=>?_⟩;have iW:=ha.σ (by simpa [yZ]using hO) rfl;unfold jT;rw[hP s' ha];simp only[hO,cU,hv s' ha,aJ,A.Ks,hl,bQ,<-iW];rw[nL]
      ·rw[hl]at e2;cases e2
     ·cases e2
  case mapUpdate t m i v=>
   split at h
   ·rename_i kt et hd;split at h
    ·rename_i ek he;obtain⟨σ',e1,e2⟩:=qq h;rw[nL]at e2;refine⟨_,yt _ _ hR rfl rfl rfl (λ_=>aqh e1),e2,λR' k' s' ha=>?_⟩;have hm:=Cn s' ha m (by simp [VA]);have hi:=Cn s' ha i (by simp [VA]);have hv:=Cn s' ha v (by simp [VA]);have iW:=ha.σ rfl rfl;unfold jT;rw[hP s' ha];simp only[hd,he,<-hm,<-hi,<-hv,<-iW,e1,aJ];rw[nL]
    ·cases h
   ·cases h
  case call c=>
   have hargs:∀s',Ag X Rt Bt ⟨dst,.call c,ty,pos,af,g⟩ ls μ s s'->c.args.toList.map (ev X s)=c.args.toList.map (ev X s'):=λs' ha=>
    Yq λx hx=>Cn s' ha x (by simp [VA,aEj];exact .inr (by simpa using hx))
   split at h
   ·rename_i hc;split at h
    ·rename_i t u x y h1 h2;split at h
     ·rename_i e e' hd hu;split at h
      ·rename_i i hi;cases gQ:rD i
       ·rw[gQ]at h;simp only[bQ]at h;obtain⟨⟨rr,σ'⟩,e1,e2⟩:=qq h;simp only at e2;rw[nL]at e2;refine⟨_,yt _ _ hR (by simp [uZ,wH,hc]) rfl rfl (λ_=>anz e1),e2,λR' k' s' ha=>?_⟩;have iW:=ha.σ rfl rfl;unfold jT;rw[hP s' ha];simp only[hc,<-hargs s' ha,h1,h2,hd,hu,hi,gQ,bQ,<-iW,e1,aJ];rw[nL]
       ·rw[gQ]at h;cases h
      ·cases h
     ·rename_i e kk hd hu;split at h
      ·rename_i i zs hi hz;cases gQ:rD i
       ·rw[gQ]at h;simp only[bQ]at h;obtain⟨⟨rr,σ'⟩,e1,e2⟩:=qq h;simp only at e2;rw[nL]at e2;refine⟨_,yt _ _ hR (by simp [uZ,wH,hc]) rfl rfl (λ_=>amn e1),e2,λR' k' s' ha=>?_⟩;have iW:=ha.σ rfl rfl;unfold jT;rw[hP s' ha];simp only[hc,<-hargs s' ha,h1,h2,hd,hu,hi,hz,gQ,bQ,<-iW,e1,aJ];rw[nL]
       ·rw[gQ]at h;cases h
      ·cases h
     ·cases h
    ·cases h
   ·rename_i hc;split at h
    ·rename_i t u x y h1 h2;split at h
     ·rename_i e e' hd hu;split at h
      ·rename_i i hi;cases gQ:rD i
       ·rw[gQ]at h;simp only[bQ]at h;obtain⟨⟨rr,σ'⟩,e1,e2⟩:=qq h;simp only at e2;rw[nL]at e2;refine⟨_,yt _ _ hR (by simp [uZ,wH,hc]) rfl rfl (λh=>by simp [FL,hc]at h),e2,λR' k' s' ha=>?_⟩;have iW:=ha.σ rfl rfl;unfold jT;rw[hP s' ha];simp only[hc,<-hargs s' ha,h1,h2,hd,hu,hi,gQ,bQ,<-iW,e1,aJ];rw[nL]
       ·rw[gQ]at h;cases h
      ·cases h
     ·cases h
    ·cases h
   ·rename_i hc;cases hv:jA X ⟨dst,.call c,ty,pos,af,g⟩ s μ with
    |none=>rw[hv]at h;simp [A.Fc]at h
    |some v=>
     rw[hv]at h
     exact dflt (by rw[hv];exact h) (λR' k' s' ha=>by
      have hv':jA X ⟨dst,.call c,ty,pos,af,g⟩ s' μ=δ v:=by rw[<-hv];exact(QY (ha.FJ hls) ha.Ei ha.bx (Fl s' ha.r2) (Kn s' ha.r2) ha.σ ha.Pm ha.r2.KG).symm
      unfold jT;rw[hP s' ha];simp only[hc,hv',aJ,A.Fc])
   ·rename_i hc;split at h
    ·rename_i t x h1 h2;split at h
     ·rename_i e hd;split at h
      ·rename_i i zs hi hz;cases gQ:rD i
       ·rw[gQ]at h;simp only[bQ]at h;obtain⟨σ',e1,e2⟩:=qq h;rw[nL]at e2;refine⟨_,yt _ _ hR (by simp [uZ,wH,hc]) rfl rfl (λh=>by simp [FL,hc]at h),e2,λR' k' s' ha=>?_⟩;have iW:=ha.σ rfl rfl;unfold jT;rw[hP s' ha];simp only[hc,<-hargs s' ha,h1,h2,hd,hi,hz,gQ,bQ,<-iW,e1,aJ];rw[nL]
       ·rw[gQ]at h;cases h
      ·cases h
     ·cases h
    ·cases h
   ·rename_i hc;split at h
    ·rename_i t u m key h1 h2;split at h
     ·rename_i kt et hd;split at h
      ·rename_i ek he;obtain⟨σ',e1,e2⟩:=qq h;rw[nL]at e2;refine⟨_,yt _ _ hR (by simp [uZ,wH,hc]) rfl rfl (λh=>by simp [FL,hc]at h),e2,λR' k' s' ha=>?_⟩;have iW:=ha.σ rfl rfl;unfold jT;rw[hP s' ha];simp only[hc,<-hargs s' ha,h1,h2,hd,he,<-iW,e1,aJ];rw[nL]
      ·cases h
     ·cases h
    ·cases h
   ·rename_i b hn1 hn2 rT vU yV hc
    exact dflt h (λR' k' s' ha=>by
     unfold jT;rw[hP s' ha];simp only[hc]
     all_goals (first|rfl|(cases b<;>first|rfl|exact absurd rfl hn1|exact absurd rfl hn2|exact absurd rfl rT|exact absurd rfl vU|exact absurd rfl yV)))
   ·rename_i f hc;cases hw:X.W.contains f
    ·simp only[hw,Yx,Bool.and_true,cU]at h;exact dflt h (λR' k' s' ha=>by unfold jT;rw[hP s' ha];simp only[hc,hw,Yx,Bool.and_true,cU])
    ·simp only[hw,Ur,Wc,bQ]at h;obtain⟨⟨rr,σ'⟩,e1,e2⟩:=qq h;simp only at e2;rw[nL]at e2;refine⟨_,yt _ _ hR (by simp only[uZ,wH,hc];exact hw) rfl rfl (λh=>by simp [FL,hc]at h),e2,λR' k' s' ha=>?_⟩;have iW:=ha.σ rfl rfl;unfold jT;rw[hP s' ha];simp only[hc,<-hargs s' ha,hw,Ur,Wc,bQ,<-iW,e1,aJ];rw[nL]
   ·rename_i x hnf hc;simp only[cU]at h
    exact dflt h (λR' k' s' ha=>by
     unfold jT;rw[hP s' ha];simp only[hc]
     cases x<;>first|exact absurd rfl (hnf _)|simp only[cU])
   ·cases h
end
end
section
section
variable {R : Type} {X : Fx} {Rt : List (Nat × Nat)} {Bt : List Nat} {s s' : AS} {ops : Array Oper}
theorem Mu{o:Oper}{t:Nat}(h:Operand.tmp t∈o.op.operands.toList):t∈o.looksAt ops:=by unfold Oper.looksAt;refine jQ.2 (.inl (ZJ.2 ⟨.tmp t,h,rfl⟩))
theorem amH{o:Oper}{j d:Nat}{want:Bool}(hg:o.guard=δ (j,want))(hd:(ops[j]?).bind (·.dst)=δ d):d∈o.looksAt ops:=by unfold Oper.looksAt;refine jQ.2 (.inr ?_);rw[hg];simp only[hd];simp
def KA(X:Fx)(Rt:List (Nat×Nat))(Bt:List Nat)(ops:Array Oper)(o:Oper)(s s':AS):Prop:=∀tag:Option (Nat×Bool),(∀g w,tag=δ (g,w)->g∈o.looksAt ops)->Ag X Rt Bt o (o.looksAt ops) tag s s'
theorem Ag.symm{o:Oper}{ls:List Nat}{tag:Option (Nat×Bool)}(h:Ag X Rt Bt o ls tag s s'):Ag X Rt Bt o ls tag s' s:=
 ⟨h.r2,h.r1,λt ht hL=>(h.jx t ht hL).symm,λt ht=>(h.pl t ht).symm,λb hb=>(h.bx b hb).symm,(λhr hs=>(h.σ hr hs).symm),λhr hs id cs=>(h.Pm hr hs id cs).symm⟩
theorem KA.symm{o:Oper}(h:KA X Rt Bt ops o s s'):KA X Rt Bt ops o s' s:=λtag ht=>(h tag ht).symm
theorem WA{q:Bool}{o:Oper}{f:FuncId}{l:List Operand}(h:Kf X o=δ (f,l))(s:AS)(k:AS->Option R):jT X q o s k=(X.call f (l.map (ev X s)) s.σ).bind λr=>k ((s.heap r.2).put X o.dst r.1):=by
 unfold Kf at h;split at h
 ·rename_i c ho;split at h
  ·rename_i f' hc;cases hw:X.W.contains f'
   ·rw[hw]at h;cases h
   ·rw[hw]at h;simp only[cU,Θ,T4]at h;obtain⟨rfl,rfl⟩:=h;unfold jT mX;simp only[ho,hc,hw,Ur,Wc,bQ]
  ·cases h
 ·cases h
theorem aBD{o:Oper}{k:AS->Option R}{r:R}(hR:yL X Rt Bt o)(hI:RI X Rt Bt s)(h:qL X θ ops o s k=δ r):
  ∃u,yD X Rt Bt o (o.looksAt ops) s.σ u/\k (u.ap s)=δ r/\∀(R':Type)(k':AS->Option R')(s':AS),KA X Rt Bt ops o s s'->qL X θ ops o s' k'=k' (u.ap s'):=by
 unfold qL at h;cases hg:o.guard with
 |none=>rw[hg]at h;obtain⟨u,h1,h2,h3⟩:=agA (ls:=o.looksAt ops) hR hI (λt ht=>Mu ht) h;refine⟨u,h1,h2,λR' k' s' ha=>?_⟩;unfold qL;rw[hg];exact h3 R' k' s' (ha μ (λg w e=>by cases e))
 |some jw=>
  obtain⟨j,want⟩:=jw;rw[hg]at h;simp only at h;cases hd:(ops[j]?).bind (·.dst)with
  |none=>rw[hd]at h;cases h
  |some d=>
   rw[hd]at h;simp only at h;cases hb:Mt X o d
   ·rw[hb]at h;simp only[bQ]at h;have pP:=amH (ops:=ops) hg hd;have Fp:∀g w,(δ (d,want):Option (Nat×Bool))=δ (g,w)->g∈o.looksAt ops:=λg w e=>by injection e with e;injection e with e _;rw[<-e];exact pP
    have hdL:X.L.contains d=ι:=by simp only[Mt,qw]at hb;exact hb.1
    cases wU:Kf X o with
    |some fa=>
     obtain⟨f,as'⟩:=fa;rw[wU]at h;simp only at h;obtain⟨rv,e1,e2⟩:=qq h
     have key:∀(x:AV),s.sl.getD d .undef=x->(x=.aM []\/∃c,x=.bool c/\(c==want)=ι)\/∃c,x=.bool c/\(c==want)=θ:=by
      intro x hx;rw[hx]at e1;unfold η at e1;split at e1
      ·rename_i c;cases hc:(c==want)
       ·exact .inl (.inr ⟨c,rfl,hc⟩)
       ·exact .inr ⟨c,rfl,hc⟩
      ·exact .inl (.inl rfl)
      ·cases e1
     rcases key _ rfl with hno|⟨c,hc,hcw⟩
     ·have hG:∀(R':Type)(x:Option R')(y:Option R'),η (s.sl.getD d .undef) want x y=y:=by
       intro R' x y;rcases hno with hh|⟨c,hh,hcw⟩
       ·rw[hh];rfl
       ·rw[hh];simp only[η,hcw,bQ]
      rw[hG]at e1;injection e1 with e1
      subst e1
      have Sb:yy o=ι/\B4 Bt o=ι:=by
       unfold Kf at wU;split at wU
       ·rename_i c ho;exact⟨by simp only[yy,ho],by simp only[B4,ho]⟩
       ·cases wU
      refine⟨F2 X o.dst (.aM []),aBP _ hR (λha=>by rw[Sb.1]at ha;cases ha) (λha=>by rw[Sb.2]at ha;cases ha),by rw[<-J3];exact e2,λR' k' s' ha=>?_⟩;have a:=ha _ Fp;have mV:=a.jx d pP hdL;unfold qL;rw[hg];simp only[hd,hb,bQ,wU];rw[<-mV,hG,aJ,<-J3];rfl
     ·have hG:∀(R':Type)(x:Option R')(y:Option R'),η (s.sl.getD d .undef) want x y=x:=by intro R' x y;rw[hc];simp only[η,hcw,cU]
      have hA:jT X θ o s k=δ r:=by rw[WA wU];rw[hG]at h;exact h
      obtain⟨u,h1,h2,h3⟩:=agA (ls:=o.looksAt ops) hR hI (λt ht=>Mu ht) hA;refine⟨u,h1,h2,λR' k' s' ha=>?_⟩;have a:=ha _ Fp;have mV:=a.jx d pP hdL;rw[<-h3 R' k' s' (ha μ (λg w e=>by cases e)),WA wU];unfold qL;rw[hg];simp only[hd,hb,bQ,wU];rw[<-mV,hG]
    |none=>
    rw[wU]at h;simp only at h;have Fl:∀(s':AS),RI X Rt Bt s'->∀x b off,sI o=δ x->place X s' (δ (d,want)) x=δ (b,off)->rt X Rt o=δ b:=λs' hi x b off hx hp=>by simp only[rt,hx];exact Rl hi hp
    have Kn:∀(s':AS),RI X Rt Bt s'->∀x b,sI o=δ x->rt X Rt o=δ b->place X s' (δ (d,want)) x=μ->qd (ev X s' x)=θ:=λs' hi x b hx hr hp=>by simp only[rt,hx]at hr;exact JE hi hr hp
    have hP:∀s',KA X Rt Bt ops o s s'->mX X o s' (δ (d,want))=mX X o s (δ (d,want)):=λs' ha=>by have a:=ha _ Fp;exact(Wo (a.FJ λt ht=>Mu ht) a.Ei a.bx (Fl s' a.r2)).symm
    cases hp:mX X o s (δ (d,want))with
    |some p=>obtain⟨b,rr⟩:=p;rw[hp]at h;simp only at h;obtain⟨off,e1,e2⟩:=qq h;subst e1;refine⟨Lf X o.dst b off (δ (d,want)),agO hR (afD hp) (agD hI hp) (agC hp) Fp,by rw[<-RW];exact e2,λR' k' s' ha=>?_⟩;unfold qL;rw[hg];simp only[hd,hb,bQ,wU,hP s' ha,hp,aJ];rw[RW]
    |none=>
     rw[hp]at h;simp only at h;obtain⟨v,e1,e2⟩:=qq h
     have hv:yy o=θ->∀b,rt X Rt o=δ b->qd v=θ:=by
      intro ha b hr;unfold η at e1;split at e1
      ·rename_i c _;cases hc:(c==want)
       ·rw[hc]at e1;simp only[bQ,Θ]at e1;subst e1;rfl
       ·rw[hc]at e1;exact(afE hI ha hr hp e1).elim
      ·simp only[Θ]at e1;subst e1;rfl
      ·cases e1
     have Cz:B4 Bt o=θ->tH v=θ:=by
      intro hc;unfold η at e1;split at e1
      ·rename_i c _;cases wQ:(c==want)
       ·rw[wQ]at e1;simp only[bQ,Θ]at e1;subst e1;rfl
       ·rw[wQ]at e1;exact ady hI.KG hc e1
      ·simp only[Θ]at e1;subst e1;rfl
      ·cases e1
     refine⟨F2 X o.dst v,aBP v hR hv Cz,by rw[<-J3];exact e2,λR' k' s' ha=>?_⟩;have a:=ha _ Fp;have hV:jA X o s' (δ (d,want))=jA X o s (δ (d,want)):=(QY (a.FJ λt ht=>Mu ht) a.Ei a.bx (Fl s' a.r2) (Kn s' a.r2) a.σ a.Pm a.r2.KG).symm;have mV:=a.jx d pP hdL;unfold qL;rw[hg];simp only[hd,hb,bQ,wU,hP s' ha,hp,hV,<-mV,e1,aJ];rw[J3]
   ·rw[hb]at h;cases h
structure Cu (X : Fx) (Rt : List (Nat × Nat)) (Bt : List Nat) (ops : Array Oper) (x y : Oper) : Prop where
 dx:∀d,x.dst=δ d->d∉y.looksAt ops
 dd:∀d,x.dst=δ d->y.dst≠δ d
 dy:∀d,y.dst=δ d->d∉x.looksAt ops
 c1:Cd X Rt Bt x y=ι
 c2:Cd X Rt Bt y x=ι
theorem Cu.symm{x y:Oper}(h:Cu X Rt Bt ops x y):Cu X Rt Bt ops y x:=⟨h.dy,λd hd e=>h.dd d e hd,h.dx,h.c2,h.c1⟩
theorem apn{x y:Oper}(h:indep X Rt Bt ops x y=θ):Cu X Rt Bt ops x y:=by simp only[indep,jW,UK]at h;obtain⟨⟨h1,h2⟩,h3⟩:=h;obtain⟨a1,a2,a3⟩:=Oper.apart_spec h1;exact⟨a1,a2,a3,h2,h3⟩
theorem afa{x y:Oper}(h:Cd X Rt Bt x y=ι){b:Nat}(hb:wb X Rt x=δ b):rt X Rt y≠δ b:=by unfold Cd at h;simp only[qw]at h;have:=h.1.1;rw[hb]at this;simpa using this
theorem RA{x y:Oper}(h:Cd X Rt Bt x y=ι){d:Nat}(hd:x.dst=δ d)(hL:X.L.contains d=θ):rt X Rt y≠δ d:=by unfold Cd at h;simp only[qw]at h;have:=h.1.2;rw[hd]at this;simp only[hL,aDh]at this;simpa using this
theorem RB{x y:Oper}(h:Cd X Rt Bt x y=ι)(hw:uZ X Rt x=θ):(yZ X Rt y=ι\/(soft Bt y=θ/\FL x=θ))/\uZ X Rt y=ι:=by
 unfold Cd at h;simp only[qw]at h;have:=h.2;rw[hw]at this;simp only[aDh,qw]at this;refine⟨?_,this.2⟩;cases hr:yZ X Rt y
 ·exact .inl rfl
 ·have h2:=this.1;rw[hr,aDh,aDv]at h2;exact .inr (by simpa using h2)
theorem atV{x:Oper}{a:Operand}(h:sI x=δ a):a∈x.op.operands.toList:=by obtain⟨dst,op,ty,pos,af,g⟩:=x;cases op<;>simp only[sI]at h<;>first|(cases h;done)|(injection h with h;subst h;simp [VA])
theorem aya(h:RI X Rt Bt s){x:Oper}{b:Nat}(hr:rt X Rt x=δ b)(hL:X.L.contains b=ι):False:=by
 unfold rt at hr;split at hr
 ·rename_i a _;cases a with
  |tmp t=>
   simp only[CI]at hr;cases hc:X.L.contains t
   ·rw[hc]at hr;have:=h.l t b hr;rw[hL]at this;cases this
   ·rw[hc]at hr;simp only[cU,Θ]at hr;subst hr;rw[hL]at hc;cases hc
  |_=>simp [CI]at hr
 ·cases hr
theorem ahx{x:Oper}{b:Nat}(h:wb X Rt x=δ b):rt X Rt x=δ b:=by
 unfold wb at h;split at h
 ·exact h
 ·cases h
theorem ag5{τ:Heap}{x y:Oper}(h:Cu X Rt Bt ops x y){u:Up}(hu:yD X Rt Bt y (y.looksAt ops) τ u)(s:AS)(hs:RI X Rt Bt s)(hτ:u.σ≠μ->vr s.σ τ):KA X Rt Bt ops x s (u.ap s):=by
 intro tag ht;have hnd:∀t,t∈x.looksAt ops->u.d≠δ t:=λt ht e=>by rw[hu.d]at e;exact h.dy t e ht
 refine⟨hs,hu.ri hs,λt SZ hL=>?_,λt hax=>?_,λb hb=>?_,λhr H7=>?_,λhr H7=>?_⟩
 ·exact(Ye (hnd t SZ) (λb v hb e=>by have:=(hu.bx b v hb).1;rw[<-e,hL]at this;cases this)).symm
 ·have SZ:t∈x.looksAt ops:=Mu (atV hax);simp only[place];cases hL:X.L.contains t
  ·simp only[bQ];show _=match u.A s.A t with|some p=>_|none=>μ
   unfold Up.A;cases hd:u.d with
   |none=>rfl
   |some d=>
    have htd:(t==d)=ι:=by simp only[beq_eq_false_iff_ne];intro e;exact hnd t SZ (by rw[hd,e])
    simp only[htd,bQ];cases hA:s.A t with
    |none=>rfl
    |some p=>
     have Ef:CI X Rt (.tmp t)=δ p.slot:=by simp only[CI,hL,bQ];exact hs.a t p hA
     have hf:uE u.AQ d (δ p)=tj d (δ p):=by
      cases hi:u.AQ with
      |false=>exact Mc d _
      |true=>
       obtain⟨d',hd',hL'⟩:=hu.box hi;have uS:d'=d:=by rw[hu.d]at hd;rw[hd]at hd';injection hd' with e;exact e.symm
       subst uS;unfold uE;cases hk:tj d' (δ p)with
       |none=>rfl
       |some q=>
        have hqs:q=p:=by
         simp only[tj]at hk;cases H8:p.tag with
         |none=>rw[H8]at hk;simpa using hk.symm
         |some g=>
          obtain⟨g,w⟩:=g;rw[H8]at hk;simp only at hk;cases hg:(g==d')
          ·rw[hg]at hk;simpa using hk.symm
          ·rw[hg]at hk;cases hk
        subst hqs
        have hne:(q.slot==d')=ι:=by
         rw[beq_eq_false_iff_ne];intro e;have:rt X Rt x=δ q.slot:=by simp only[rt,hax];exact Ef
         exact RA h.c2 hd' hL' (by rw[this,e])
        simp only[hne,Wc,bQ]
     rw[hf];simp only[tj];cases H8:p.tag with
     |none=>simp only[H8]
     |some gw=>
      obtain⟨g,w⟩:=gw;simp only;cases hgd:(g==d)
      ·simp only[bQ,H8]
      ·simp only[cU];have axj:g=d:=by simpa using hgd
       have:(tag==δ (g,w))=ι:=by rw[beq_eq_false_iff_ne];intro e;exact hnd g (ht g w e) (by rw[hd,axj])
       rw[this];cases X.L.contains p.slot<;>rfl
  ·rfl
 ·refine(Ye (λe=>?_) (λb' v hb' e=>?_)).symm
  ·rw[hu.d]at e
   have hLb:X.L.contains b=θ:=by
    cases hc:X.L.contains b with
    |true=>rfl
    |false=>exfalso;exact aya hs hb hc
   exact RA h.c2 e hLb hb
  ·exact afa h.c2 (hu.bx b' v hb').2 (by rw[<-e];exact hb)
 ·show s.σ=u.σ.getD s.σ;cases hs':u.σ with
  |none=>rfl
  |some σ=>
   rcases(RB h.c2 (hu.σ (by rw[hs'];intro e;cases e))).1 with this|⟨this,_⟩
   ·rw[hr]at this;cases this
   ·rw[H7]at this;cases this
 ·show vr s.σ (u.σ.getD s.σ);cases hs':u.σ with
  |none=>exact Gt _
  |some σ=>
   rcases(RB h.c2 (hu.σ (by rw[hs'];intro e;cases e))).1 with this|⟨_,hf⟩
   ·rw[hr]at this;cases this
   ·exact λid cs=>(hτ (by rw[hs'];intro e;cases e) id cs).trans (hu.fr hf σ hs' id cs)
theorem arC{τ Pn:Heap}{x y:Oper}(h:Cu X Rt Bt ops x y){u v:Up}(hu:yD X Rt Bt x (x.looksAt ops) τ u)(hv:yD X Rt Bt y (y.looksAt ops) Pn v):u.agQ v:=by
 have half:∀{τ Pn:Heap}{x y:Oper}{u v:Up},Cu X Rt Bt ops x y->yD X Rt Bt x (x.looksAt ops) τ u->yD X Rt Bt y (y.looksAt ops) Pn v->(∀b a,u.bx=δ (b,a)->(∀c a',v.bx=δ (c,a')->c≠b)/\v.d≠δ b)/\(∀d,v.d=δ d->uE v.AQ d u.new=u.new):=by
  intro τ Pn x y u v h hu hv;refine⟨λb a hb=>?_,λd hd=>?_⟩
  ·obtain⟨k1,k2⟩:=hu.bx b a hb;refine⟨λc a' hc e=>?_,λe=>?_⟩
   ·have:=(hv.bx c a' hc).2;subst e;exact afa h.c1 k2 (ahx this)
   ·rw[hv.d]at e;exact RA h.c2 e k1 (ahx k2)
  ·cases hn:u.new with
   |none=>rfl
   |some p=>
    obtain⟨k1,k2,k3,k4⟩:=hu.new p hn
    have hkt:tj d (δ p)=δ p:=by
     simp only[tj];cases H8:p.tag with
     |none=>rfl
     |some gw=>
      obtain⟨g,w⟩:=gw;simp only
      have:(g==d)=ι:=by rw[beq_eq_false_iff_ne];intro e;rw[hv.d]at hd;exact h.dy d hd (e▸k2 g w H8)
      rw[this];rfl
    unfold uE;rw[hkt];simp only;cases hi:v.AQ with
    |false=>rfl
    |true=>
     obtain⟨d',hd',hL'⟩:=hv.box hi;have uS:d'=d:=by rw[hv.d]at hd;rw[hd]at hd';injection hd' with e;exact e.symm
     subst uS
     have:(p.slot==d')=ι:=by rw[beq_eq_false_iff_ne];intro e;exact RA h.c2 hd' hL' (by rw[k3,e])
     simp only[this,Wc,bQ]
 obtain⟨a1,a2⟩:=half h hu hv;obtain⟨b1,b2⟩:=half h.symm hv hu;refine⟨λd hd e=>?_,a1,b1,a2,b2,?_⟩
 ·rw[hu.d]at hd;rw[hv.d]at e;exact h.dd d hd e
 ·cases hs:u.σ with
  |none=>exact .inl rfl
  |some σ=>
   right;have hw:=hu.σ (by rw[hs];intro e;cases e);have hnw:=(RB h.c1 hw).2;cases hs2:v.σ with
   |none=>rfl
   |some σ2=>rw[hv.σ (by rw[hs2];intro e;cases e)]at hnw;cases hnw
theorem adz{o:Oper}{k:AS->Option R}{r:R}(ho:yL X Rt Bt o):∀(l1 l2:List Oper)(s:AS),RI X Rt Bt s->(∀y∈l1,yL X Rt Bt y)->(∀y∈l1,Cu X Rt Bt ops y o)->xH X θ ops (l1++o::l2) s k=δ r->qL X θ ops o s (λs1=>xH X θ ops (l1++l2) s1 k)=δ r
 |[],l2,s,_,_,_,h=>h
 |y::l1,l2,s,hs,hr,hi,h=>by
  simp only[oJ,xH]at h;obtain⟨u,u1,u2,u3⟩:=aBD (hr y (by simp)) hs h;have ih:=adz ho l1 l2 (u.ap s) (u1.ri hs) (λz hz=>hr z (by simp [hz])) (λz hz=>hi z (by simp [hz])) u2;obtain⟨v,v1,v2,v3⟩:=aBD ho (u1.ri hs) ih;have hy:=hi y (by simp)
  have hbe:v.σ≠μ->vr s.σ (u.ap s).σ:=λhv=>by
   have hnu:u.σ=μ:=by
    cases hu:u.σ with
    |none=>rfl
    |some σ=>have hw:=(RB hy.c1 (u1.σ (by rw[hu];intro e;cases e))).2;rw[v1.σ hv]at hw;cases hw
   show vr s.σ (u.σ.getD s.σ);rw[hnu];exact Gt _
  rw[v3 R _ s (ag5 hy.symm u1 s hs (λ_=>Gt _)).symm];simp only[oJ,xH];rw[u3 R _ (v.ap s) (ag5 hy v1 s hs hbe),Up.comm (arC hy u1 v1)];exact v2
def Down(ops:Array Oper)(S:Nat->Prop):Prop:=∀i o e,S i->ops[i]? =δ o->e∈o.after->XB .any e=θ->S e.on
def Sr(ops:Array Oper)(i:Nat)(S:Nat->Prop):Prop:=∀o e,ops[i]? =δ o->e∈o.after->XB .any e=θ->S e.on
theorem aem(acc:List Nat):∀(es:List Edge)(m j:Nat),(es.foldl (λs e=>bif XB .any e then s ||| 2 ^ e.on ||| acc.getD e.on 0 else s) m).testBit j=θ->
  m.testBit j=θ\/∃e∈es,XB .any e=θ/\(e.on=j\/(acc.getD e.on 0).testBit j=θ)
 |[],m,j,h=>.inl h
 |e::es,m,j,h=>by
  simp only[V4]at h;rcases aem acc es _ j h with h|⟨e',he',hb,hx⟩
  ·cases hb:XB .any e
   ·rw[hb]at h;exact .inl h
   ·rw[hb]at h;simp only[cU,Nat.testBit_or,Bool.or_eq_true]at h;rcases h with(h|h)|h
    ·exact .inl h
    ·refine .inr ⟨e,by simp,hb,.inl ?_⟩;rw[Nat.testBit_two_pow]at h;simpa using h
    ·exact .inr ⟨e,by simp,hb,.inr h⟩
  ·exact .inr ⟨e',by simp [he'],hb,hx⟩
theorem ad3:∀(l:List Oper)(acc:List Nat),(∀i,l[i]? =ops[acc.length+i]?)->
  (∀(m j:Nat),(acc.getD m 0).testBit j=θ->∀S,Down ops S->Sr ops m S->S j)->
  ∀(m j:Nat),((Sa l acc).getD m 0).testBit j=θ->∀S,Down ops S->Sr ops m S->S j
 |[],acc,hl,hacc=>hacc
 |o::l,acc,hl,hacc=>by
  simp only[Sa];refine ad3 l _ (λi=>by have:=hl (i+1);simp at this;rw[this];simp;congr 1;omega) ?_;intro m j h S hS hD;have h0:=hl 0;simp at h0;by_cases hm:m<acc.length
  ·rw[U1,iS hm]at h;exact hacc m j h S hS hD
  ·by_cases hm2:m=acc.length
   ·subst hm2;rw[U1,jq (bN _)]at h;simp only[Yp,List.getElem?_cons_zero,WU]at h;rcases aem acc _ _ j h with h|⟨e,he,hb,hx⟩
    ·simp at h
    ·have KT:S e.on:=hD o e h0.symm (by simpa using he) hb;rcases hx with hx|hx
     ·exact hx▸KT
     ·exact hacc e.on j hx S hS (λo' e' ho' he' hb'=>hS e.on o' e' KT ho' he' hb')
   ·rw[U1,jq (by omega),rK (by simp;omega)]at h;simp at h
theorem acA{Oi:List Nat}:∀(l:List Oper)(i:Nat),(∀j,l[j]? =ops[i+j]?)->RO X Rt Bt ops Oi l i=θ->∀n o,i<=n->ops[n]? =δ o->∀m y,m<n->ops[m]? =δ y->(Oi.getD n 0).testBit m=θ\/indep X Rt Bt ops y o=θ
 |[],i,hl,_,n,o,hn,ho,m,y,hm,hy=>by have:=hl (n-i);rw[show i+(n-i)=n by omega,ho]at this;simp at this
 |x::l,i,hl,h,n,o,hn,ho,m,y,hm,hy=>by
  simp only[RO,jW]at h;by_cases hni:n=i
  ·subst hni;have h0:=hl 0;simp at h0;rw[ho]at h0;injection h0 with h0;subst h0
   have:=rN.1 h.1 (y,m) (by
    rw[List.mem_zipIdx_iff_getElem?];simp only;rw[WG hm,UE]
    exact hy)
   simpa using this
  ·exact acA l (i+1) (λj=>by have:=hl (j+1);simp at this;rw[this];congr 1;omega) h.2 n o (by omega) ho m y hm hy
theorem acX:∀(l:List Oper)(i:Nat),(∀j,l[j]? =ops[i+j]?)->RX l i=θ->∀n o e,i<=n->ops[n]? =δ o->e∈o.after->XB .any e=θ->e.on<n
 |[],i,hl,_,n,o,e,hn,ho,he,hb=>by have:=hl (n-i);rw[show i+(n-i)=n by omega,ho]at this;simp at this
 |x::l,i,hl,h,n,o,e,hn,ho,he,hb=>by
  simp only[RX,jW]at h;by_cases hni:n=i
  ·subst hni;have h0:=hl 0;simp at h0;rw[ho]at h0;injection h0 with h0;subst h0
   have:=rN.1 h.1 e (by simpa using he);rw[hb]at this;simpa [Nat.blt_eq]using this
  ·exact acX l (i+1) (λj=>by have:=hl (j+1);simp at this;rw[this];congr 1;omega) h.2 n o e (by omega) ho he hb
def vH(listed:Array Bool)(n:Nat):List Nat:=(List.range n).filter λi=>!listed.getD i θ
def DK(ops:Array Oper)(listed:Array Bool):List Oper:=(vH listed ops.size).filterMap (ops[·]?)
theorem aok{listed:Array Bool}{n i:Nat}(hi:i<n)(hl:listed.getD i θ=ι)(hs:listed.size=n):
  ∃l1 l2,vH listed n=l1++i::l2/\vH (listed.setIfInBounds i θ) n=l1++l2/\∀j∈l1,j<i/\listed.getD j θ=ι:=by
 refine⟨(List.range i).filter λj=>!listed.getD j θ,((YO (i+1) (n-i-1))).filter λj=>!listed.getD j θ,?_,?_,λj hj=>?_⟩
 ·unfold vH
  rw[show List.range n=List.range i++i::YO (i+1) (n-i-1) by
   rw[Un,Un,<-aDW,show n-i-1+1=n-i by omega];have:=List.range'_append_1 (s:=0) (m:=i) (n:=n-i);rw[show 0+i=i by omega,show i+(n-i)=n by omega]at this
   exact this.symm]
  rw[List.filter_append,aEo,hl];simp
 ·unfold vH
  rw[show List.range n=List.range i++i::YO (i+1) (n-i-1) by
   rw[Un,Un,<-aDW,show n-i-1+1=n-i by omega];have:=List.range'_append_1 (s:=0) (m:=i) (n:=n-i);rw[show 0+i=i by omega,show i+(n-i)=n by omega]at this
   exact this.symm]
  rw[List.filter_append,aEo];have sG:(listed.setIfInBounds i θ).getD i θ=θ:=by simp [aDu,hs,hi]
  rw[sG];simp only[Ur,YQ,if_false];congr 1
  ·apply List.filter_congr;intro j hj;have:j<i:=by simpa using hj
   rw[sx,sx,Vf (by omega)]
  ·apply List.filter_congr;intro j hj;have:i<j:=by simp at hj;omega
   rw[sx,sx,Vf (by omega)]
 ·rw[Tx]at hj;exact⟨by simpa using hj.1,by simpa using hj.2⟩
end
end
section
open Go.RowKit
section
variable {X : Fx} {z : Z} {s : AS} {a : Act} {w w' : World} {E : List Pl} {pb : Nat -> Option Nat} {R : Type}
theorem Rs(h:St X z s a w E pb){d:Nat}{av:AV}(HV:s.sl.getD d .undef=av)(h1:av≠.undef)(h2:∀cs,av≠.lbx cs):∃v,a.tmps[d]? =δ v/\a.tmps.getD d undef=v/\ay (ctx z w E pb) av v:=by
 by_cases hd:d<s.sl.length
 ·have e:s.sl[d]? =δ av:=by rw[cC hd];rw[<-HV];simp [U1,hd]
  have r:=(h.slot d av e).rep h2;have hd':d<a.tmps.size:=by rw[h.len];exact hd
  exact⟨a.tmps.getD d undef,by simp [aDu,hd'],rfl,r⟩
 ·exact absurd (by rw[<-HV];simp [U1,Nat.le_of_not_lt hd]) h1
theorem auB(hs:fA X)(h:St X z s a w E pb){q:Bool}{ops:Array Oper}{i:Nat}{o:Oper}(hi:ops[i]? =δ o){k:AS->Option R}{r:R}(hk:qL X q ops o s k=δ r){K:Act->World->Prop}{Q:Exit->Act->World->Prop}
  (hK:∀s' a' w' E' dN,St X z s' a' w' E' dN->k s'=δ r->K a' w'):wpOp X.P ops Q i K a w:=by
 unfold wpOp;rw[hi];simp only;unfold qL at hk;cases hg:o.guard with
 |none=>rw[hg]at hk;rw[aP (by simp [TF,hg])];exact .inl (agB hs h hk hK)
 |some jw=>
  obtain⟨j,want⟩:=jw;rw[hg]at hk;simp only at hk;cases hd:(ops[j]?).bind (·.dst)with
  |none=>rw[hd]at hk;cases hk
  |some d=>
   rw[hd]at hk;simp only at hk;cases hL:Mt X o d
   ·rw[hL]at hk;simp only[bQ]at hk;have E4:TF o (yielded ops a.tmps)=(yielded ops a.tmps j==δ want):=by simp [TF,hg]
    have hy:yielded ops a.tmps j=match a.tmps[d]? with|some (.bool b)=>δ b|_=>μ:=by simp only[yielded,hd,aJ];rfl
    cases wU:Kf X o with
    |some fa=>
     obtain⟨f,as'⟩:=fa;rw[wU]at hk;simp only at hk;obtain⟨rv,e1,e2⟩:=ct.1 hk;generalize mV:s.sl.getD d .undef=gv at e1;cases gv<;>simp only[η]at e1<;>first|(cases e1;done)|skip
     case bool b=>
      obtain⟨v,v1,v2,v3⟩:=Rs h mV (by intro e;cases e) (by intro cs e;cases e);simp only[ay]at v3;subst v3;cases Bo:(b==want)
      ·rw[Bo]at e1;simp only[bQ]at e1;injection e1 with e1;subst e1
       have hw:¬TF o (yielded ops a.tmps)=θ:=by rw[E4,hy,v1];simp at Bo ⊢;exact Bo
       rw[aO hw];exact hK _ _ _ _ _ (h.undef o.dst) e2
      ·rw[Bo]at e1;simp only[cU]at e1;have Sy:b=want:=by simpa using Bo
       have hw:TF o (yielded ops a.tmps)=θ:=by rw[E4,hy,v1];simp [Sy]
       rw[aP hw];exact .inl (agB (q:=q) hs h (by rw[WA wU,e1];exact e2) hK)
     case aM vs=>
      cases vs with
      |cons x xs=>cases e1
      |nil=>
       injection e1 with e1;subst e1
       obtain⟨v,v1,v2,v3⟩:=Rs h mV (by intro e;cases e) (by intro cs e;cases e);simp only[ay]at v3;obtain⟨us,rfl,_⟩:=v3;have hw:¬TF o (yielded ops a.tmps)=θ:=by rw[E4,hy,v1];simp
       rw[aO hw];exact hK _ _ _ _ _ (h.undef o.dst) e2
    |none=>
    rw[wU]at hk;simp only at hk;cases hp:mX X o s (δ (d,want))with
    |some p=>
     obtain⟨b,rr⟩:=p;rw[hp]at hk;simp only at hk;obtain⟨off,e1,e2⟩:=ct.1 hk;subst e1;by_cases hw:TF o (yielded ops a.tmps)=θ
     ·rw[aP hw]
      have ht:vA a (δ (d,want)):=by
       rw[E4,hy]at hw;simp only[vA];split at hw
       ·rename_i b' hb';simp at hw;subst hw;rw[sx,hb'];rfl
       ·simp at hw
      obtain⟨n,k1,k2⟩:=agE h ht hp;exact .inl (vn k2 (hK _ _ _ _ _ (h.azZ o.dst (λ_=>⟨n,k1,rfl⟩)) e2))
     ·rw[aO hw];refine hK _ _ _ _ _ (h.azZ o.dst (λht=>absurd ?_ hw)) e2;rw[E4,hy];simp only[vA]at ht;rw[sx]at ht;cases hc:a.tmps[d]? with
      |none=>rw[hc]at ht;simp [undef]at ht
      |some v=>rw[hc]at ht;simp at ht;subst ht;simp
    |none=>
     rw[hp]at hk;simp only at hk;obtain⟨av,e1,e2⟩:=ct.1 hk;generalize mV:s.sl.getD d .undef=gv at e1;cases gv<;>simp only[η]at e1<;>first|(cases e1;done)|skip
     case bool b=>
      obtain⟨v,v1,v2,v3⟩:=Rs h mV (by intro e;cases e) (by intro cs e;cases e);simp only[ay]at v3;subst v3;cases Bo:(b==want)
      ·rw[Bo]at e1;simp only[bQ]at e1;injection e1 with e1;subst e1
       have hw:¬TF o (yielded ops a.tmps)=θ:=by rw[E4,hy,v1];simp at Bo ⊢;exact Bo
       rw[aO hw];exact hK _ _ _ _ _ (h.undef o.dst) e2
      ·rw[Bo]at e1;simp only[cU]at e1;have Sy:b=want:=by simpa using Bo
       have hw:TF o (yielded ops a.tmps)=θ:=by rw[E4,hy,v1];simp [Sy]
       rw[aP hw];have ht:vA a (δ (d,want)):=by simp only[vA];rw[v2,Sy]
       exact .inl (agF hs h ht e1 λv w' E' h3 h4=>hK _ _ _ _ _ (h3.put o.dst h4) e2)
     case aM vs=>
      cases vs with
      |cons x xs=>cases e1
      |nil=>
       injection e1 with e1;subst e1
       obtain⟨v,v1,v2,v3⟩:=Rs h mV (by intro e;cases e) (by intro cs e;cases e);simp only[ay]at v3;obtain⟨us,rfl,_⟩:=v3;have hw:¬TF o (yielded ops a.tmps)=θ:=by rw[E4,hy,v1];simp
       rw[aO hw];exact hK _ _ _ _ _ (h.undef o.dst) e2
   ·rw[hL]at hk;cases hk
def Fr(X:Fx)(ds:List Nat)(s s':AS):Prop:=∀i,i∉ds->X.L.contains i=ι->s'.sl[i]? =s.sl[i]?
theorem Fr.refl(ds:List Nat)(s:AS):Fr X ds s s:=λ_ _ _=>rfl
theorem Fr.trans{d1 d2:List Nat}{s s' s'':AS}(h:Fr X d1 s s')(k:Fr X d2 s' s''):Fr X (d1++d2) s s'':=λi hi hL=>by rw[jQ]at hi;exact(k i (λe=>hi (.inr e)) hL).trans (h i (λe=>hi (.inl e)) hL)
theorem Fr.mono{d1 d2:List Nat}{s s':AS}(h:Fr X d1 s s')(k:∀i∈d1,i∈d2):Fr X d2 s s':=λi hi hL=>h i (λe=>hi (k i e)) hL
theorem Fr.put(d:Option Nat)(v:AV)(s:AS):Fr X d.toList s (s.put X d v):=λi hi hL=>by
 cases d with
 |none=>rfl
 |some d=>simp only[aCZ];rw[kE,aO];intro e;subst e;simp at hi
theorem Fr.qB(d:Option Nat)(b off:Nat)(tag:Option (Nat×Bool))(s:AS):Fr X d.toList s (s.qB X d b off tag):=λi hi hL=>by
 cases d with
 |none=>rfl
 |some d=>simp only[AS.qB];rw[kE,aO];intro e;subst e;simp at hi
theorem Fr.tD(d:Nat)(cs:List AV)(s:AS):Fr X [d] s (s.tD d cs):=λi hi hL=>by simp only[AS.tD];rw[kE,aO];intro e;subst e;simp at hi
theorem Fr.uh(d:Option Nat)(v:AV)(σ:Heap)(s:AS):Fr X d.toList s ((s.heap σ).put X d v):=λi hi hL=>by
 cases d with
 |none=>rfl
 |some d=>simp only[aCZ,AS.heap];rw[kE,aO];intro e;subst e;simp at hi
theorem Fr.atY(d:Option Nat)(v:AV)(b:Nat)(cs:List AV)(hb:X.L.contains b=θ)(s:AS):Fr X d.toList s ((⟨s.sl.set b (.lbx cs),s.A,s.σ⟩:AS).put X d v):=λi hi hL=>by
 have hbi:b≠i:=λe=>by rw[e,hL]at hb;cases hb
 cases d with
 |none=>simp only[aCZ];rw[kE,aO hbi]
 |some d=>simp only[aCZ];rw[kE,aO,kE,aO hbi];intro e;subst e;simp at hi
theorem ati{tag:Option (Nat×Bool)}{x:Operand}{b off:Nat}(h:place X s tag x=δ (b,off)):X.L.contains b=θ:=by
 cases x with
 |tmp t=>
  simp only[place]at h;cases hL:X.L.contains t
  ·rw[hL]at h;simp only[bQ]at h;split at h
   ·rename_i p hA;cases hp:X.L.contains p.slot
    ·rw[hp]at h;cases h
    ·rw[hp]at h;simp only[cU]at h;split at h
     ·simp only[Θ,T4]at h;rw[<-h.1];exact hp
     ·rename_i g hg;cases ht:(tag==δ g)
      ·rw[ht]at h;cases h
      ·rw[ht]at h;simp only[cU,Θ,T4]at h;rw[<-h.1];exact hp
   ·cases h
  ·rw[hL]at h;simp only[cU,Θ,T4]at h;rw[<-h.1];exact hL
 |_=>simp [place]at h
theorem bind_congr{α β:Type}{x:Option α}{f g:α->Option β}(h:∀a,x=δ a->f a=g a):x.bind f=x.bind g:=by cases x with|none=>rfl|some a=>exact h a rfl
theorem anH{x:AV}{σ:Heap}{f g:Nat->Heap->Option R}(h:∀n σ,f n σ=g n σ):A.Fe x σ f=A.Fe x σ g:=by
 have:f=g:=funext λn=>funext λσ=>h n σ
 rw[this]
theorem amL{x:AV}{σ:Heap}{f g:AV->Heap->Option R}(h:∀v σ,f v σ=g v σ):A.xA x σ f=A.xA x σ g:=by
 have:f=g:=funext λn=>funext λσ=>h n σ
 rw[this]
theorem anU{q str:Bool}{i:Operand}{dst:Option Nat}{k k2:AS->Option R}(h:∀s',Fr X dst.toList s s'->k s'=k2 s'):
  (bif q||str then μ else A.xA (ev X s i) s.σ λv σ=>k ((s.heap σ).put X dst v))=(bif q||str then μ else A.xA (ev X s i) s.σ λv σ=>k2 ((s.heap σ).put X dst v)):=by
 cases(q||str)
 ·simp only[bQ];exact amL λ_ _=>h _ (Fr.uh _ _ _ _)
 ·rfl
theorem apD{q:Bool}{o:Oper}{k k2:AS->Option R}(h:∀s',Fr X o.dst.toList s s'->k s'=k2 s'):jT X q o s k=jT X q o s k2:=by
 unfold jT;cases hp:mX X o s μ with
 |some p=>obtain⟨b,rr⟩:=p;exact bind_congr λp _=>h _ (Fr.qB _ _ _ _ _)
 |none=>
  simp only;have dflt:((jA X o s μ).bind λv=>k (s.put X o.dst v))=(jA X o s μ).bind λv=>k2 (s.put X o.dst v):=bind_congr λv _=>h _ (Fr.put _ _ _)
  obtain⟨dst,op,ty,pos,af,g⟩:=o;cases op<;>simp only<;>first|exact anU h|exact dflt|skip
  case alloc t=>
   cases dst with
   |none=>rfl
   |some d=>
    simp only;cases X.L.contains d
    ·simp only[bQ];cases X.O.contains d
     ·exact dflt
     ·simp only[cU];split
      ·exact h _ (Fr.uh _ _ _ _)
      ·rfl
    ·simp only[cU];split
     ·exact h _ (Fr.tD _ _ _)
     ·rfl
  case box t x=>
   cases dst with
   |none=>rfl
   |some d=>
    simp only;cases X.L.contains d
    ·simp only[bQ];cases X.O.contains d
     ·exact dflt
     ·exact bind_congr λcs _=>h _ (Fr.uh _ _ _ _)
    ·exact bind_congr λcs _=>h _ (Fr.tD _ _ _)
  case store t x v=>
   split
   ·rename_i b off hpl;exact bind_congr λ_ _=>bind_congr λ_ _=>bind_congr λ_ _=>h _ (Fr.atY _ _ _ _ (ati hpl) _)
   ·exact bind_congr λ_ _=>bind_congr λ_ _=>h _ (Fr.uh _ _ _ _)
  case makeMap t rr=>
   cases rr with
   |none=>exact h _ (Fr.uh _ _ _ _)
   |some x=>rfl
  case range t x=>
   split
   ·exact bind_congr λ_ _=>h _ (Fr.uh _ _ _ _)
   ·rfl
  case buildSlice t n ps=>
   cases dst with
   |none=>exact dflt
   |some d=>
    simp only;cases X.O.contains d
    ·exact dflt
    ·simp only[cU];refine bind_congr λv _=>?_
     unfold A.Ks;split
     ·cases(WD _==0)
      ·exact h _ (Fr.uh _ _ _ _)
      ·rfl
     ·rfl
  case mapUpdate t m i v=>
   split
   ·split
    ·exact bind_congr λ_ _=>h _ (Fr.uh _ _ _ _)
    ·rfl
   ·rfl
  case call c=>
   split
   ·split
    ·split
     ·split
      ·cases rD _
       ·exact bind_congr λ_ _=>h _ (Fr.uh _ _ _ _)
       ·rfl
      ·rfl
     ·split
      ·cases rD _
       ·exact bind_congr λ_ _=>h _ (Fr.uh _ _ _ _)
       ·rfl
      ·rfl
     ·rfl
    ·rfl
   ·split
    ·split
     ·split
      ·cases rD _
       ·exact bind_congr λ_ _=>h _ (Fr.uh _ _ _ _)
       ·rfl
      ·rfl
     ·rfl
    ·rfl
   ·cases hv:jA X _ s μ
    ·simp only[A.Fc];cases q
     ·simp only[bQ];split
      ·split
       ·exact anH λ_ _=>h _ (Fr.uh _ _ _ _)
       ·rfl
      ·rfl
     ·rfl
    ·exact h _ (Fr.put _ _ _)
   ·split
    ·split
     ·split
      ·cases rD _
       ·exact bind_congr λ_ _=>h _ (Fr.uh _ _ _ _)
       ·rfl
      ·rfl
     ·rfl
    ·rfl
   ·split
    ·split
     ·split
      ·exact bind_congr λ_ _=>h _ (Fr.uh _ _ _ _)
      ·rfl
     ·rfl
    ·rfl
   ·exact dflt
   ·cases(q&&!X.W.contains _)
    ·exact bind_congr λ_ _=>h _ (Fr.uh _ _ _ _)
    ·exact dflt
   ·cases q
    ·exact bind_congr λ_ _=>h _ (Fr.uh _ _ _ _)
    ·exact dflt
   ·rfl
theorem apE{q:Bool}{ops:Array Oper}{o:Oper}{k k2:AS->Option R}(h:∀s',Fr X o.dst.toList s s'->k s'=k2 s'):qL X q ops o s k=qL X q ops o s k2:=by
 unfold qL;split
 ·exact apD h
 ·split
  ·cases Mt X o _
   ·simp only[bQ];split
    ·exact bind_congr λ_ _=>h _ (Fr.uh _ _ _ _)
    ·split
     ·exact bind_congr λ_ _=>h _ (Fr.qB _ _ _ _ _)
     ·exact bind_congr λ_ _=>h _ (Fr.put _ _ _)
   ·rfl
  ·rfl
theorem afC(hs:fA X)(h:St X z s a w E pb){q:Bool}{ops:Array Oper}{i:Nat}{o:Oper}(hi:ops[i]? =δ o){k:AS->Option R}{r:R}(hk:qL X q ops o s k=δ r){K:Act->World->Prop}{Q:Exit->Act->World->Prop}
  (hK:∀s' a' w' E' dN,St X z s' a' w' E' dN->Fr X o.dst.toList s s'->k s'=δ r->K a' w'):wpOp X.P ops Q i K a w:=by
 classical
 have e:qL X q ops o s k=qL X q ops o s (λs'=>if Fr X o.dst.toList s s' then k s' else μ):=apE λs' hf=>by rw[aP hf]
 rw[e]at hk;refine auB hs h hi hk λs' a' w' E' dN h' hk'=>?_
 split at hk'
 ·exact hK s' a' w' E' dN h' (by assumption) hk'
 ·cases hk'
theorem afF(hs:fA X){q:Bool}{ops:Array Oper}{Q:Exit->Act->World->Prop}{r:R}{k:AS->Option R}{s0:AS}:
  ∀(l:List Oper)(i:Nat)(s:AS)(a:Act)(w:World)(E:List Pl)(pb:Nat->Option Nat),(∀j,l[j]? =ops[i+j]?)->St X z s a w E pb->xH X q ops l s k=δ r->
   (∀s' a' w' E' dN,St X z s' a' w' E' dN->Fr X (l.filterMap (·.dst)) s s'->k s'=δ r->Q .normal a' w')->wpOps X.P ops Q (YO i l.length) a w
 |[],i,s,a,w,E,pb,_,h,hk,hQ=>by simpa [wpOps]using hQ _ _ _ _ _ h (Fr.refl _ _) hk
 |o::l,i,s,a,w,E,pb,hl,h,hk,hQ=>by
  have h0:=hl 0;simp at h0;simp only[YZ,aDW];rw[wpOps_cons];refine afC hs h h0.symm hk λs' a' w' E' dN h' hf hk'=>?_
  refine afF hs (s0:=s0) l (i+1) s' a' w' E' dN (λj=>by have:=hl (j+1);simp at this;rw[this];congr 1;omega) h' hk' λs2 a2 w2 E2 pb2 h2 yU hk2=>hQ s2 a2 w2 E2 pb2 h2 ((hf.trans yU).mono ?_) hk2
  intro j hj;rw[V5];cases hd:o.dst with
  |none=>rw[hd]at hj;simpa using hj
  |some d=>rw[hd]at hj;simpa using hj
theorem ate(hs:fA X){Rt:List (Nat×Nat)}{Bt:List Nat}(h:St X z s a w E pb)(hI:RI X Rt Bt s){ops:Array Oper}{i:Nat}{o:Oper}(hR:yL X Rt Bt o)(hi:ops[i]? =δ o){k:AS->Option R}{r:R}(hk:qL X θ ops o s k=δ r){K:Act->World->Prop}{Q:Exit->Act->World->Prop}
  (hK:∀s' a' w' E' dN,St X z s' a' w' E' dN->Fr X o.dst.toList s s'->RI X Rt Bt s'->k s'=δ r->K a' w'):wpOp X.P ops Q i K a w:=by
 classical
 have e:qL X θ ops o s (λs'=>if RI X Rt Bt s' then k s' else μ)=δ r:=by obtain⟨u,h1,h2,h3⟩:=aBD hR hI hk;rw[h3 R _ s (λtag _=>⟨hI,hI,λ_ _ _=>rfl,λ_ _=>rfl,λ_ _=>rfl,λ_ _=>rfl,λ_ _=>Gt _⟩),aP (h1.ri hI)];exact h2
 refine afC hs h hi e λs' a' w' E' dN h' hf hk'=>?_
 split at hk'
 ·exact hK s' a' w' E' dN h' hf (by assumption) hk'
 ·cases hk'
theorem aqA(hs:fA X){Rt:List (Nat×Nat)}{Bt:List Nat}{ops:Array Oper}{Q:Exit->Act->World->Prop}{r:R}{k:AS->Option R}{s0:AS}(ar2:∀n o e,ops[n]? =δ o->e∈o.after->XB .any e=θ->e.on<n)
  (avx:∀n o m y,ops[n]? =δ o->m<n->ops[m]? =δ y->(∀S,Down ops S->Sr ops n S->S m)\/Cu X Rt Bt ops y o) (YT:∀(n:Nat)(o:Oper),ops[n]? =δ o->yL X Rt Bt o)
  (hQ:∀s' a' w' E' dN,St X z s' a' w' E' dN->Fr X (ops.toList.filterMap (·.dst)) s0 s'->k s'=δ r->Q .normal a' w'):
  ∀(fuel:Nat)(listed:Array Bool)(s:AS)(a:Act)(w:World)(E:List Pl)(pb:Nat->Option Nat),listed.size=ops.size->(vH listed ops.size).length<=fuel->Down ops (λi=>listed.getD i θ=θ)->St X z s a w E pb->RI X Rt Bt s->xH X θ ops (DK ops listed) s k=δ r->Fr X (ops.toList.filterMap (·.dst)) s0 s->
   wpAny X.P .any ops Q fuel listed a w:=by
 have hnone:∀(listed:Array Bool),vH listed ops.size=[]->TN .any ops listed=[]:=by intro listed h;unfold TN;rw[List.filter_eq_nil_iff];intro i hi hr;simp only[jW]at hr;have:i∈vH listed ops.size:=Tx.2 ⟨hi,hr.1⟩;rw[h]at this;simp at this
 have hsome:∀(listed:Array Bool),listed.size=ops.size->TN .any ops listed=[]->vH listed ops.size=[]:=by
  intro listed hsz hr;cases A9:vH listed ops.size with
  |nil=>rfl
  |cons i0 tl=>
   exfalso;have hm:i0∈vH listed ops.size:=by rw[A9];simp
   obtain⟨h1,h2⟩:=Tx.1 hm;have hlt:i0<ops.size:=by simpa using h1
   have hpw:(vH listed ops.size).Pairwise (·<·):=List.Pairwise.filter _ List.pairwise_lt_range;rw[A9,YE]at hpw
   have hall:∀j,j<i0->listed.getD j θ=θ:=by
    intro j hj;cases hc:listed.getD j θ with
    |true=>rfl
    |false=>
     have:j∈vH listed ops.size:=Tx.2 ⟨by simp;omega,by simp [hc]⟩;rw[A9]at this;rcases jP.1 this with e|e
     ·omega
     ·have:=hpw.1 j e;omega
   have:i0∈TN .any ops listed:=by
    unfold TN;refine Tx.2 ⟨h1,?_⟩;rw[jW];refine⟨h2,?_⟩;rw[wB hlt];simp only[cR,WU];rw[aDA];intro e he;cases hb:XB .any e with
    |false=>rfl
    |true=>have KT:=ar2 i0 _ e (wB hlt) he hb;have:=hall e.on KT;rw[sx,wB (by omega)]at this;simp only[WU]at this;rw[sx,wB (by omega)];simp [this]
   rw[hr]at this;simp at this
 intro fuel;induction fuel with
 |zero=>intro listed s a w E pb hsz hle hdn h hI hk hf;have A9:vH listed ops.size=[]:=xC (by omega);refine⟨hnone listed A9,hQ s a w E pb h hf ?_⟩;simpa [DK,A9,xH]using hk
 |succ fuel ih=>
  intro listed s a w E pb hsz hle hdn h hI hk hf;refine⟨λhr=>hQ s a w E pb h hf (by simpa [DK,hsome listed hsz hr,xH]using hk),λi hi=>?_⟩;unfold TN at hi;obtain⟨h1,h2⟩:=Tx.1 hi;rw[jW]at h2;obtain⟨h2,h3⟩:=h2;have hlt:i<ops.size:=by simpa using h1
  have hun:listed.getD i θ=ι:=by simpa using h2
  have ho:ops[i]? =δ ops[i]:=wB hlt
  have ahf:Sr ops i (λj=>listed.getD j θ=θ):=by intro o e hoo he hb;rw[hoo]at h3;simp only[cR,WU]at h3;rw[aDA]at h3;have h4:=h3 e he;rw[hb]at h4;simp only[Ur,aD0]at h4;have KT:=ar2 i o e hoo he hb;rw[sx,wB (by omega)]at h4;simp only[WU]at h4;show listed.getD e.on θ=θ;rw[sx,wB (by omega)];simpa using h4
  obtain⟨l1,l2,e1,e2,e3⟩:=aok hlt hun hsz
  have A9:DK ops listed=l1.filterMap (ops[·]?)++ops[i]::l2.filterMap (ops[·]?):=by unfold DK;rw[e1,XY,V5,ho]
  have avz:DK ops (listed.setIfInBounds i θ)=l1.filterMap (ops[·]?)++l2.filterMap (ops[·]?):=by unfold DK;rw[e2,XY]
  rw[A9]at hk
  have axC:∀y∈l1.filterMap (ops[·]?),yL X Rt Bt y:=by intro y hy;obtain⟨j,hj,hjy⟩:=ZJ.1 hy;exact YT j y hjy
  have axm:∀y∈l1.filterMap (ops[·]?),Cu X Rt Bt ops y ops[i]:=by
   intro y hy;obtain⟨j,hj,hjy⟩:=ZJ.1 hy;obtain⟨j1,j2⟩:=e3 j hj;rcases avx i ops[i] j y ho j1 hjy with k1|k1
   ·have:=k1 _ hdn ahf;rw[j2]at this;cases this
   ·exact k1
  have auh:=adz (YT i _ ho) _ _ s hI axC axm hk;refine ate hs h hI (YT i _ ho) ho auh λs' a' w' E' dN h' hf' Ow hk'=>?_
  rw[<-avz]at hk';refine ih _ s' a' w' E' dN (by simpa using hsz) ?_ ?_ h' Ow hk' ((hf.trans hf').mono ?_)
  ·rw[e2];rw[e1]at hle;simp at hle ⊢;omega
  ·intro j o e hj hoj he hb;by_cases hji:j=i
   ·subst hji;have:=ahf o e hoj he hb;show(listed.setIfInBounds j θ).getD e.on θ=θ;have KT:=ar2 j o e hoj he hb;rw[sx,Vf (by omega),<-sx];exact this
   ·have hj':listed.getD j θ=θ:=by replace hj:(listed.setIfInBounds i θ).getD j θ=θ:=hj;rw[sx,Vf (λe=>hji e.symm),<-sx]at hj;exact hj
    have:=hdn j o e hj' hoj he hb;show(listed.setIfInBounds i θ).getD e.on θ=θ;by_cases hei:e.on=i
    ·rw[hei];simp [aDu,hsz,hlt]
    ·rw[sx,Vf (λe'=>hei e'.symm),<-sx];exact this
  ·intro d hd;rcases jQ.1 hd with hd|hd
   ·exact hd
   ·refine ZJ.2 ⟨ops[i],by simp,?_⟩;cases uS:ops[i].dst with
    |none=>rw[uS]at hd;simp at hd
    |some d'=>rw[uS]at hd;simp at hd;rw[hd]
theorem aAs{t b:Nat}:∀{l:List (Nat×Nat)},l.lookup t=δ b->(t,b)∈l
 |[],h=>by cases h
 |(t',b')::l,h=>by
  simp only[List.lookup]at h;cases hc:(t==t')
  ·rw[hc]at h;exact tN _ (aAs h)
  ·rw[hc]at h;simp only[Θ]at h;have:t=t':=by simpa using hc
   subst this;subst h;exact YJ
theorem asg(hs:fA X){ops:Array Oper}{Q:Exit->Act->World->Prop}{r:R}{k:AS->Option R}(hok:Mx X ops s.sl=θ)(hA:∀t,s.A t=μ)(hQ:∀s' a' w' E' dN,St X z s' a' w' E' dN->Fr X (ops.toList.filterMap (·.dst)) s s'->k s'=δ r->Q .normal a' w'){id:Nat}
  (h:St X z s a w E pb) (hk:xH X θ ops ops.toList s k=δ r):(Code.region id ops θ).wp X.P Q a w:=by
 obtain⟨Rt,Bt,hok⟩:∃Rt Bt,QZ X Rt Bt ops s.sl=θ:=by
  unfold Mx at hok;rcases Bool.or_eq_true_iff.1 hok with h|h
  ·exact⟨_,_,h⟩
  ·exact⟨_,_,h⟩
 unfold QZ at hok;simp only[jW]at hok;obtain⟨⟨⟨⟨⟨⟨⟨h1,h2⟩,h3⟩,h4⟩,h5⟩,h6⟩,h7⟩,h8⟩:=hok
 have hI:RI X Rt Bt s:=by
  refine⟨λt b hl=>?_,λt p hp=>(by rw[hA t]at hp;cases hp),λt b hl _=>?_,λt ht=>rN.1 h8 t (by simpa using ht)⟩
  ·have:=rN.1 h6 (t,b) (aAs hl);exact this
  ·have:=rN.1 h5 (t,b) (aAs hl);exact this
 have ahi:∀j,ops.toList[j]? =ops[0+j]? :=λj=>by simp
 have A9:vH (X6 ops.size ι) ops.size=List.range ops.size:=by
  unfold vH;rw[List.filter_eq_self];intro i hi;have:i<ops.size:=by simpa using hi
  simp [aDu,this]
 have avA:DK ops (X6 ops.size ι)=ops.toList:=by
  unfold DK;rw[A9]
  have gen:∀(l pre:List Oper),(YO pre.length l.length).filterMap (λi=>(pre++l)[i]?)=l:=by
   intro l;induction l with
   |nil=>intro pre;rfl
   |cons x l ih=>intro pre;simp only[YZ,aDW,V5];rw[jq (bN _)];simp only[Yp,List.getElem?_cons_zero];have:=ih (pre++[x]);simp only[ZY,YZ,UB,YW,lp,oJ,V7]at this;rw[this]
  have:=gen ops.toList [];rw[Un];simpa using this
 refine wp_region_any h1 (aqA (s0:=s) hs (λn o e ho he hb=>acX ops.toList 0 ahi h2 n o e (kW _) ho he hb) (λn o m y ho hm hy=>?_) (λn o ho=>yL.of (rN.1 h4 o (by have:=Array.mem_of_getElem? ho;simpa using this)) (rN.1 h7 o (by have:=Array.mem_of_getElem? ho;simpa using this))) hQ ops.size _ s a _ E pb (by simp) (by rw[A9];simp) ?_ (h.grow (w':=w.drew) ((Below.refl _ _).drew)) hI (by rw[avA];exact hk) (Fr.refl _ _))
 ·rcases acA ops.toList 0 ahi h3 n o (kW _) ho m y hm hy with k1|k1
  ·left;exact λS hS hD=>ad3 ops.toList [] (λi=>by simp) (λm j h=>by simp at h) n m k1 S hS hD
  ·exact .inr (apn k1)
 ·intro i o e hi ho he hb;have hlt:i<ops.size:=(mP.1 ho).1;exfalso;simp [aDu,hlt]at hi
theorem St.noA(h:St X z s a w E pb):St X z ⟨s.sl,λ_=>μ,s.σ⟩ a w E pb:=
 ⟨h.len,h.vG,h.slot,h.box,(λt p hp=>by cases hp),h.priv,h.inj,h.heap,h.defers,h.out,h.nm⟩
def AX.to:AX->Exit
 |.normal=>.normal
 |.exit i=>.exit i
 |.ret=>.ret
theorem Qe:∀(ds:List Nat)(sl:List AV)(i:Nat),(Ay sl ds).length=sl.length/\((Ay sl ds)[i]? =sl[i]? \/(Ay sl ds)[i]? =δ .undef)/\(i∉ds->(Ay sl ds)[i]? =sl[i]?)/\(i∈ds->i<sl.length->(Ay sl ds)[i]? =δ .undef)
 |[],sl,i=>⟨rfl,.inl rfl,λ_=>rfl,λh=>by simp at h⟩
 |d::ds,sl,i=>by
  obtain⟨h1,h2,h3,h4⟩:=Qe ds (sl.set d .undef) i;simp only[Ay]
  have sG:(sl.set d .undef)[i]? =if d=i then(if i<sl.length then δ .undef else μ)else sl[i]? :=by
   rw[kE];by_cases e:d=i
   ·subst e;simp
   ·simp [e]
  have hnone:¬i<sl.length->sl[i]? =μ:=λk=>rK (by omega)
  refine⟨by rw[h1];simp,?_,λhi=>?_,λhi hl=>?_⟩
  ·rcases h2 with h2|h2
   ·rw[h2,sG];by_cases e:d=i
    ·rw[aP e];split
     ·exact .inr rfl
     ·rename_i k;rw[hnone k];exact .inl rfl
    ·rw[aO e];exact .inl rfl
   ·exact .inr h2
  ·simp only[jP,not_or]at hi;rw[h3 hi.2,sG,aO (λe=>hi.1 e.symm)]
  ·by_cases hm:i∈ds
   ·exact h4 hm (by simpa using hl)
   ·simp only[jP]at hi;have:i=d:=hi.resolve_right hm;rw[h3 hm,sG,aP this.symm,aP hl]
theorem QO(vs:List AV):∀(live:List Nat)(j:Nat)(sl:List AV)(i:Nat),(J5 vs sl live j).length=sl.length/\(i∉live->(J5 vs sl live j)[i]? =sl[i]?)/\(i∈live->i<sl.length->∃n,n<live.length/\live[n]? =δ i/\(J5 vs sl live j)[i]? =δ (vs.getD (j+n) .undef))
 |[],j,sl,i=>⟨rfl,λ_=>rfl,λh=>by simp at h⟩
 |d::live,j,sl,i=>by
  obtain⟨h1,h2,h3⟩:=QO vs live (j+1) (sl.set d (vs.getD j .undef)) i;simp only[J5];refine⟨by rw[h1];simp,λhi=>?_,λhi hl=>?_⟩
  ·simp only[jP,not_or]at hi;rw[h2 hi.2,kE,aO (λe=>hi.1 e.symm)]
  ·by_cases hm:i∈live
   ·obtain⟨n,k1,k2,k3⟩:=h3 hm (by simpa using hl);exact⟨n+1,by simp;omega,by simpa using k2,by rw[k3];congr 2;omega⟩
   ·simp only[jP]at hi;have:i=d:=hi.resolve_right hm;subst this;exact⟨0,by simp,rfl,by rw[h2 hm,kE];simp [hl]⟩
theorem St.meet{s s':AS}(h:St X z s' a w E pb){mods live:List Nat}(hl:s.sl.length=s'.sl.length)(hf:∀i,i∉mods->s'.sl[i]? =s.sl[i]?):St X z (s.meet mods live (vals s'.sl live) s'.σ) a w E pb:=by
 have kR:∀i:Nat,(s.meet mods live (vals s'.sl live) s'.σ).sl[i]? =s'.sl[i]? \/(s.meet mods live (vals s'.sl live) s'.σ).sl[i]? =δ AV.undef:=by
  intro i;simp only[AS.meet];obtain⟨c1,c2,c3,c4⟩:=Qe mods s.sl i;obtain⟨m1,m2,m3⟩:=QO (vals s'.sl live) live 0 (Ay s.sl mods) i;by_cases hm:i∈live
  ·by_cases hlt:i<s.sl.length
   ·obtain⟨n,k1,k2,k3⟩:=m3 hm (by rw[c1];exact hlt);left;rw[k3,YW]
    have:(vals s'.sl live).getD n .undef=s'.sl.getD i .undef:=by simp only[vals,U1,uz,k2];rfl
    rw[this,cC (by omega)];simp [U1,show i<s'.sl.length by omega]
   ·left;rw[rK (by rw[m1,c1];omega),rK (by omega)]
  ·rw[m2 hm];by_cases hd:i∈mods
   ·by_cases hlt:i<s.sl.length
    ·exact .inr (c4 hd hlt)
    ·left;rw[rK (by rw[c1];omega),rK (by omega)]
   ·left;rw[c3 hd,hf i hd]
 have hlen:(s.meet mods live (vals s'.sl live) s'.σ).sl.length=s'.sl.length:=by simp only[AS.meet];rw[(QO (vals s'.sl live) live 0 (Ay s.sl mods) 0).1,(Qe mods s.sl 0).1];exact hl
 refine⟨by rw[h.len,hlen],by rw[hlen,h.vG],λi av hi=>?_,λi cs hi=>?_,(λt p hp=>by cases hp),h.priv,h.inj,h.heap,h.defers,h.out,h.nm⟩
 ·rcases kR i with e|e
  ·rw[e]at hi;exact h.slot i av hi
  ·rw[e]at hi;injection hi with hi;subst hi;trivial
 ·rcases kR i with e|e
  ·rw[e]at hi;exact h.box i cs hi
  ·rw[e]at hi;cases hi
end
end
open Fr renaming refl->aD1
section
open Go.RowKit
section
variable {X : Fx} {z : Z}
theorem force_eq{R:Type}:∀(l:List AV)(k:List AV->Option R),force l k=k l
 |[],k=>rfl
 |x::l,k=>by simp only[force];rw[force_eq l]
theorem afG{R:Type}{q:Bool}{ops:Array Oper}:∀(l:List Oper)(s:AS)(k:AS->Option R),NX X q ops l s k=xH X q ops l s k
 |[],s,k=>rfl
 |o::l,s,k=>by simp only[NX,xH];congr 1;funext s;rw[force_eq];exact afG l _ k
theorem ac2{α:Type}{c:AV}{t e:Option α}{r:α}(h:φ c t e=δ r):(c=.bool θ/\t=δ r)\/(c=.bool ι/\e=δ r):=by
 cases c<;>simp only[φ]at h<;>first|(cases h;done)|skip
 rename_i b;cases b
 ·exact .inr ⟨rfl,h⟩
 ·exact .inl ⟨rfl,h⟩
theorem apu{f:List AV->Heap->Option (AX×List AV×Heap)}{v:List AV}{σ:Heap}{r:AX×List AV×Heap}(h:Y7 f v σ=δ r):∃n,Xj f n v σ=δ r:=by
 unfold Y7 at h;split at h
 ·rename_i hx;injection h with h
  exact⟨_,h▸Vm (Vm hx)⟩
 ·cases h
theorem anS{R:Type}{f:List AV->Heap->(AX×List AV×Heap->Option R)->Option R}{v:List AV}{σ:Heap}{K:AX×List AV×Heap->Option R}{r:R}(h:A.Dn f v σ K=δ r):∃n,A.AR f n v σ K=δ r:=by
 unfold A.Dn at h;split at h
 ·rename_i hx;injection h with h
  obtain⟨n,hn⟩:=Vm hx;exact⟨n,h▸hn n (bN _)⟩
 ·cases h
theorem Rp{R:Type}{e:AX}{k:AX->Option R}{r:R}:∀{xs:List AX},A.sel e k xs=δ r->k e=δ r
 |[],h=>by cases h
 |x::xs,h=>by
  simp only[A.sel]at h;cases he:(e==x)
  ·rw[he]at h;exact Rp h
  ·rw[he]at h;have:e=x:=by simpa using he
   subst this;exact h
theorem JN{X:Fx}{c:Code}{ds:List Nat}{s s':AS}(h:Fr X ds s s'):∀i,i∉ds++X.L->s'.sl[i]? =s.sl[i]? :=λi hi=>by
 rw[jQ]at hi
 exact h i (λe=>hi (.inl e)) (by
  cases hc:X.L.contains i
  ·rfl
  ·exact absurd (Ua.1 hc) (λe=>hi (.inr e)))
theorem EO{X:Fx}{s:AS}{ds live:List Nat}{vs:List AV}{σ:Heap}(hl:(live.all λd=>(ds++X.L).contains d)=θ):Fr X ds s (s.meet (ds++X.L) live vs σ):=λi hi hL=>by
 have hni:i∉ds++X.L:=by
  rw[jQ];rintro(e|e)
  ·exact hi e
  ·rw[Ua.2 e]at hL;cases hL
 simp only[AS.meet];rw[(QO vs live 0 (Ay s.sl (ds++X.L)) i).2.1 (λe=>hni ?_),(Qe (ds++X.L) s.sl i).2.2.1 hni];exact Ua.1 (rN.1 hl i e)
theorem abJ{live:List Nat}{e:AX}{s:AS}{r:List AV×Heap}(h:R4 live e s=δ r):e=.normal/\r=(vals s.sl live,s.σ):=by cases e<;>simp only[R4]at h<;>first|(cases h;done)|(injection h with h;exact⟨rfl,h.symm⟩)
theorem afu{P:Program}{c:Code}{Q:Exit->Act->World->Prop}(I:Nat->Act->World->Prop)(round:∀n a w,I n a w->c.wp P (Exit.then (λa' w'=>∃m,m<n/\I m a' w') Q) a w) {n:Nat} {a:Act} {w:World} (h:I n a w):(Code.loop c).wp P Q a w:=by
 intro b k cs
 have key:∀n a w,I n a w->∃e a' w',Q e a' w'/\Arrives P (lone (b.at a (.code c::.inLoop c::k)) cs w) b k cs e a' w':=by
  intro n;induction n using Nat.strongRecOn with
  |_ n ih=>
   intro a w hI;obtain⟨e,a1,w1,hq,Fi⟩:=round n a w hI b (.inLoop c::k) cs;cases e with
   |normal=>obtain⟨m,hlt,hm⟩:=hq;obtain⟨e2,a2,w2,Am,avl⟩:=ih m hlt a1 w1 hm;exact⟨e2,a2,w2,Am,.of_steps (Steps.trans Fi (.one step_inLoop)) avl⟩
   |exit id=>exact⟨_,a1,w1,hq,.pass (x:=.inLoop c) rfl (λ_ _=>.inl (by simp)) Fi⟩
   |goto l=>exact⟨_,a1,w1,hq,.pass (x:=.inLoop c) rfl (λ_ _=>.inl (by simp)) Fi⟩
   |ret=>exact⟨_,a1,w1,hq,.pass (x:=.inLoop c) rfl (λ_ _=>.inl (by simp)) Fi⟩
   |panic ch=>exact⟨_,a1,w1,hq,.pass (x:=.inLoop c) rfl (λ_ _=>.inl (by simp)) Fi⟩
   |outgrown=>exact⟨_,a1,w1,hq,.pass (x:=.inLoop c) rfl (λ_ _=>.inl (by simp)) Fi⟩
 obtain⟨e,a',w',hq,Fi⟩:=key n a w h;exact⟨e,a',w',hq,.of_steps (.one step_loop) Fi⟩
theorem BW(hs:fA X):∀(c:Code){R:Type}(dg:qA)(s:AS)(a:Act)(w:World)(E:List Pl)(pb:Nat->Option Nat)(k:AX->AS->Option R)(r:R)(Q:Exit->Act->World->Prop),exec X dg c s k=δ r->St X z s a w E pb->
  (∀e s' a' w' E' dN,St X z s' a' w' E' dN->Fr X (gY c) s s'->k e s'=δ r->Q e.to a' w')->c.wp X.P Q a w
 |.skip,R,dg,s,a,w,E,pb,k,r,Q,hk,h,hQ=>by
  have hk':k .normal s=δ r:=by cases dg<;>simpa [exec]using hk
  exact wp_skip (hQ .normal s a w E pb h (aD1 _ _) hk')
 |.label l,R,dg,s,a,w,E,pb,k,r,Q,hk,h,hQ=>by
  have hk':k .normal s=δ r:=by cases dg<;>simpa [exec]using hk
  exact wp_label (hQ .normal s a w E pb h (aD1 _ _) hk')
 |.exit id,R,dg,s,a,w,E,pb,k,r,Q,hk,h,hQ=>by
  have hk':k (.exit id) s=δ r:=by cases dg<;>simpa [exec]using hk
  exact wp_exit (hQ (.exit id) s a w E pb h (aD1 _ _) hk')
 |.ret,R,dg,s,a,w,E,pb,k,r,Q,hk,h,hQ=>by
  have hk':k .ret s=δ r:=by cases dg<;>simpa [exec]using hk
  exact wp_ret (hQ .ret s a w E pb h (aD1 _ _) hk')
 |.region id ops draw,R,dg,s,a,w,E,pb,k,r,Q,hk,h,hQ=>by
  have hk':(bif draw then(bif Mx X ops s.sl then xH X θ ops ops.toList ⟨s.sl,λ_=>μ,s.σ⟩ λs=>k .normal ⟨s.sl,λ_=>μ,s.σ⟩else μ)else xH X ι ops ops.toList s λs=>k .normal ⟨s.sl,λ_=>μ,s.σ⟩)=δ r:=by cases dg<;>simpa [exec,force_eq,afG]using hk
  cases draw
  ·simp only[bQ]at hk';refine wp_region ?_;have:=afF (z:=z) (Q:=Q) (s0:=s) hs ops.toList 0 s a w E pb (λj=>by simp) h hk' (λs' a' w' E' dN h' hf hk2=>hQ .normal _ a' w' E' dN h'.noA (λi hi hL=>hf i (by simpa [gY]using hi) hL) hk2);rw[Un];simpa using this
  ·simp only[cU]at hk';cases hok:Mx X ops s.sl
   ·rw[hok]at hk';cases hk'
   ·rw[hok]at hk';simp only[cU]at hk';exact asg (s:=⟨s.sl,λ_=>μ,s.σ⟩) hs hok (λ_=>rfl) (λs' a' w' E' dN h' hf hk2=>hQ .normal _ a' w' E' dN h'.noA (λi hi hL=>hf i (by simpa [gY]using hi) hL) hk2) h.noA hk'
 |.seq x y,R,dg,s,a,w,E,pb,k,r,Q,hk,h,hQ=>by
  cases dg<;>simp only[exec]at hk<;>first|(cases hk;done)|skip
  rename_i aa bb;refine wp_seq (BW hs x aa s a w E pb _ r _ hk h λe s' a' w' E' dN h' hf hk'=>?_);cases e with
  |normal=>exact BW hs y bb s' a' w' E' dN k r Q hk' h' λe2 s2 a2 w2 E2 pb2 h2 yU hk2=>hQ e2 s2 a2 w2 E2 pb2 h2 (by simpa [gY]using hf.trans yU) hk2
  |exit i=>exact hQ (.exit i) s' a' w' E' dN h' (hf.mono λi hi=>by simp [gY,hi]) hk'
  |ret=>exact hQ .ret s' a' w' E' dN h' (hf.mono λi hi=>by simp [gY,hi]) hk'
 |.cond c x y,R,dg,s,a,w,E,pb,k,r,Q,hk,h,hQ=>by
  have rc:=gX h c;cases dg<;>simp only[exec,force_eq]at hk<;>first|(cases hk;done)|skip
  case c live aa bb=>
   cases hl:(live.all λd=>(gY x++gY y++X.L).contains d)
   ·rw[hl]at hk;cases hk
   ·rw[hl]at hk;simp only[Ur,bQ]at hk;obtain⟨⟨vs,σ'⟩,h1,h2⟩:=ct.1 hk;rcases ac2 h1 with⟨ec,hb⟩|⟨ec,hb⟩
    ·rw[ec]at rc;simp only[ay]at rc;refine wp_cond_true rc (BW hs x aa s a w E pb _ _ Q hb h λe s' a' w' E' dN h' hf hk'=>?_);obtain⟨rfl,hv⟩:=abJ hk';simp only[T4]at hv;obtain⟨rfl,rfl⟩:=hv;have yU:Fr X (gY x++gY y) s s':=hf.mono λi hi=>by simp [hi]
     exact hQ .normal _ a' w' E' dN (h'.meet (by rw[h.vG,h'.vG]) (JN (c:=x) yU)) (by simpa [gY]using EO (X:=X) hl) h2
    ·rw[ec]at rc;simp only[ay]at rc;refine wp_cond_false rc (BW hs y bb s a w E pb _ _ Q hb h λe s' a' w' E' dN h' hf hk'=>?_);obtain⟨rfl,hv⟩:=abJ hk';simp only[T4]at hv;obtain⟨rfl,rfl⟩:=hv;have yU:Fr X (gY x++gY y) s s':=hf.mono λi hi=>by simp [hi]
     exact hQ .normal _ a' w' E' dN (h'.meet (by rw[h.vG,h'.vG]) (JN (c:=x) yU)) (by simpa [gY]using EO (X:=X) hl) h2
  case j aa bb=>
   rcases ac2 hk with⟨ec,hb⟩|⟨ec,hb⟩
   ·rw[ec]at rc;simp only[ay]at rc;exact wp_cond_true rc (BW hs x aa s a w E pb k r Q hb h λe s' a' w' E' dN h' hf hk'=>hQ e s' a' w' E' dN h' (hf.mono λi hi=>by simp [gY,hi]) hk')
   ·rw[ec]at rc;simp only[ay]at rc;exact wp_cond_false rc (BW hs y bb s a w E pb k r Q hb h λe s' a' w' E' dN h' hf hk'=>hQ e s' a' w' E' dN h' (hf.mono λi hi=>by simp [gY,hi]) hk')
 |.block id c,R,dg,s,a,w,E,pb,k,r,Q,hk,h,hQ=>by
  cases dg<;>simp only[exec]at hk<;>first|(cases hk;done)|skip
  rename_i aa;refine wp_block (BW hs c aa s a w E pb _ r _ hk h λe s' a' w' E' dN h' hf hk'=>?_);cases e with
  |normal=>exact hQ .normal s' a' w' E' dN h' (by simpa [gY]using hf) hk'
  |ret=>exact hQ .ret s' a' w' E' dN h' (by simpa [gY]using hf) hk'
  |exit i=>
   simp only[AX.to,Exit.inBlock];simp only at hk';by_cases e:i=id
   ·have:(i==id)=θ:=by simpa using e
    rw[this]at hk';rw[aP e];exact hQ .normal s' a' w' E' dN h' (by simpa [gY]using hf) hk'
   ·have:(i==id)=ι:=by simpa using e
    rw[this]at hk';rw[aO e];exact hQ (.exit i) s' a' w' E' dN h' (by simpa [gY]using hf) hk'
 |.loop c,R,dg,s,a,w,E,pb,k,r,Q,hk,h,hQ=>by
  cases dg<;>simp only[exec,force_eq]at hk<;>first|(cases hk;done)|skip
  case lc live xs aa=>
   cases hl:(live.all λd=>(gY c++X.L).contains d)
   ·rw[hl]at hk;cases hk
   ·rw[hl]at hk;simp only[Ur,bQ]at hk;obtain⟨n,hn⟩:=anS hk;refine afu (λn a w=>∃vs σ E pb,A.AR (λvs σ K=>exec X aa c (s.meet (gY c++X.L) live vs σ) λe s'=>K (e,vals s'.sl live,s'.σ)) n vs σ (λr=>A.sel r.1 (λe=>k e (s.meet (gY c++X.L) live r.2.1 r.2.2)) xs)=δ r/\St X z (s.meet (gY c++X.L) live vs σ) a w E pb) ?_ (n:=n) ⟨_,_,E,pb,hn,h.meet rfl (λi _=>rfl)⟩;rintro n a w ⟨vs,σ,E,pb,hit,hst⟩;cases n with
    |zero=>cases hit
    |succ n=>
     simp only[A.AR]at hit;refine BW hs c aa _ a w E pb _ _ _ hit hst λe s' a' w' E' dN h' hf hk'=>?_
     have hfr:∀i,i∉gY c++X.L->s'.sl[i]? =s.sl[i]? :=λi hi=>by rw[JN (c:=c) hf i hi];exact JN (c:=c) (EO (X:=X) (s:=s) (vs:=vs) (σ:=σ) hl) i hi
     have Ba:=h'.meet (s:=s) (mods:=gY c++X.L) (live:=live) (by rw[h.vG,h'.vG]) hfr;cases e with
     |normal=>exact⟨n,Nat.lt_succ_self n,_,_,E',dN,hk',Ba⟩
     |exit i=>exact hQ (.exit i) _ a' w' E' dN Ba (by simpa [gY]using EO (X:=X) hl) (Rp hk')
     |ret=>exact hQ .ret _ a' w' E' dN Ba (by simpa [gY]using EO (X:=X) hl) (Rp hk')
  rename_i live xs aa;cases hl:(live.all λd=>(gY c++X.L).contains d)
  ·rw[hl]at hk;cases hk
  ·rw[hl]at hk;simp only[Ur,bQ]at hk;obtain⟨⟨e0,F3,aL⟩,h1,h2⟩:=ct.1 hk;have hsel:=Rp h2;obtain⟨n,hn⟩:=apu h1;refine afu (λn a w=>∃vs σ E pb,Xj (λvs σ=>exec X aa c (s.meet (gY c++X.L) live vs σ) (leave live)) n vs σ=δ (e0,F3,aL)/\St X z (s.meet (gY c++X.L) live vs σ) a w E pb) ?_ (n:=n) ⟨_,_,E,pb,hn,h.meet rfl (λi _=>rfl)⟩;rintro n a w ⟨vs,σ,E,pb,hit,hst⟩;cases n with
   |zero=>cases hit
   |succ n=>
    simp only[Xj]at hit;obtain⟨⟨e1,vs1,σ1⟩,g1,g2⟩:=ct.1 hit;refine BW hs c aa _ a w E pb _ _ _ g1 hst λe s' a' w' E' dN h' hf hk'=>?_
    simp only[leave,Θ,T4]at hk';obtain⟨rfl,rfl,rfl⟩:=hk'
    have hfr:∀i,i∉gY c++X.L->s'.sl[i]? =s.sl[i]? :=λi hi=>by rw[JN (c:=c) hf i hi];exact JN (c:=c) (EO (X:=X) (s:=s) (vs:=vs) (σ:=σ) hl) i hi
    have Ba:=h'.meet (s:=s) (mods:=gY c++X.L) (live:=live) (by rw[h.vG,h'.vG]) hfr;cases e with
    |normal=>exact⟨n,Nat.lt_succ_self n,_,_,E',dN,g2,Ba⟩
    |exit i=>simp only[Θ,T4]at g2;obtain⟨rfl,rfl,rfl⟩:=g2;exact hQ (.exit i) _ a' w' E' dN Ba (by simpa [gY]using EO (X:=X) hl) hsel
    |ret=>simp only[Θ,T4]at g2;obtain⟨rfl,rfl,rfl⟩:=g2;exact hQ .ret _ a' w' E' dN Ba (by simpa [gY]using EO (X:=X) hl) hsel
 |.rangeFunc ..,R,dg,s,a,w,E,pb,k,r,Q,hk,h,hQ=>by cases dg<;>simp [exec]at hk
 |.scope _,R,dg,s,a,w,E,pb,k,r,Q,hk,h,hQ=>by cases dg<;>simp [exec]at hk
 |.goto _,R,dg,s,a,w,E,pb,k,r,Q,hk,h,hQ=>by cases dg<;>simp [exec]at hk
 |.refuse _,R,dg,s,a,w,E,pb,k,r,Q,hk,h,hQ=>by cases dg<;>simp [exec]at hk
end
end
section
open Go.RowKit
section
variable {X : Fx} {z : Z} {s : AS} {a : Act} {w w' : World} {E : List Pl} {pb : Nat -> Option Nat}
def DM(tmps:Array Value):ResultVar->Sem Value
 |.tmp t=>pure (tmps.getD t undef)
 |.cell a t=>do loadVar t (<-asAddr (tmps.getD a undef))
theorem WQ(h:St X z s a w E pb){R:Type}:∀(rs:List ResultVar)(k:List AV->Option R)(r:R),DL X s rs k=δ r->∃vs rQ,(rs.mapM (DM a.tmps)).run X.P w=.ok vs w/\aX (ctx z w E pb) rQ vs/\k rQ=δ r
 |[],k,r,hk=>⟨[],[],by simp,by simp [aX],hk⟩
 |.tmp t::rs,k,r,hk=>by simp only[DL]at hk;obtain⟨vs,rQ,h1,h2,h3⟩:=WQ h rs _ r hk;refine⟨a.tmps.getD t undef::vs,ev X s (.tmp t)::rQ,?_,by simp only[aX];exact⟨_,_,rfl,gX h (.tmp t),h2⟩,h3⟩;simp only[List.mapM_cons,Ts,DM,X8,UM,h1]
 |.cell q t::rs,k,r,hk=>by
  simp only[DL]at hk
  have fin:∀(v:Value)(av:AV),(DM a.tmps (.cell q t)).run X.P w=.ok v w->ay (ctx z w E pb) av v->DL X s rs (λvs=>k (av::vs))=δ r->∃vs rQ,((ResultVar.cell q t::rs).mapM (DM a.tmps)).run X.P w=.ok vs w/\aX (ctx z w E pb) rQ vs/\k rQ=δ r:=by intro v av hv hr hk;obtain⟨vs,rQ,h1,h2,h3⟩:=WQ h rs _ r hk;refine⟨v::vs,av::rQ,?_,by simp only[aX];exact⟨_,_,rfl,hr,h2⟩,h3⟩;simp only[List.mapM_cons,Ts,hv,X8,UM,h1]
  split at hk
  ·rename_i b off hp;obtain⟨av,e1,e2⟩:=ct.1 hk;obtain⟨cs,e3,e4⟩:=ct.1 e1;obtain⟨n,k1,k2,k3,k4⟩:=Jv h (tag:=μ) trivial hp e3;obtain⟨v,j1,j2⟩:=QK (c:=ctx z w E pb) w X rfl k3.2 e4;rw[YW]at j1;simp only[Act.eval]at k2;exact fin v av (by simp [DM,k2,asAddr,j1]) j2 e2
  ·obtain⟨av,e1,e2⟩:=ct.1 hk;obtain⟨cs,e3,e4⟩:=ct.1 e1;obtain⟨b,off,k2,k3⟩:=ac3 h.heap e3 (gX h (.tmp q));obtain⟨v,j1,j2⟩:=QK (c:=ctx z w E pb) w X rfl k3 e4;rw[Nat.add_zero]at j1;simp only[Act.eval]at k2;exact fin v av (by simp [DM,k2,asAddr,j1]) j2 e2
theorem amZ{P:Program}{fn:Func}{tmps:Array Value}{vs:List Value}(h:(fn.results.toList.mapM (DM tmps)).run P w=.ok vs w):∃v,(results fn tmps).run P w=.ok v w/\∀(c:RC)(rQ:List AV),aX c rQ vs->ay c (one rQ) v:=by
 have e:results fn tmps=(do let vs <-fn.results.mapM (DM tmps);pure (if h:vs.size=1 then vs[0]else .tuple vs)):=by unfold results;congr 1
 have hm:(fn.results.mapM (DM tmps)).run P w=.ok vs.toArray w:=by rw[Array.mapM_eq_mapM_toList,Sem.run_map,h];rfl
 have hrun:(results fn tmps).run P w=.ok (if h:vs.toArray.size=1 then vs.toArray[0]else .tuple vs.toArray) w:=by rw[e,Ts,hm];rfl
 refine⟨_,hrun,λc rQ r=>?_⟩
 match rQ,vs,r with
 |[x],[v],r=>simp only[aX]at r;obtain⟨v',_,e',r1,rfl⟩:=r;injection e' with e1 _;subst e1;simpa [one]using r1
 |[],[],r=>simp only[one,ay];exact⟨#[],by simp,by simp [aX]⟩
 |x::y::xs,v::u::us,r=>simp only[one,ay];exact⟨(v::u::us).toArray,by simp,by simpa using r⟩
 |[_],_::_::_,r=>exact absurd r.length (by simp)
 |_::_::_,[_],r=>exact absurd r.length (by simp)
 |[],_::_,r=>exact absurd r.length (by simp)
 |_::_,[],r=>exact absurd r.length (by simp)
end
section
variable {c c' : RC} {σ : Heap} {n : Nat}
structure AU (c c' : RC) (σ : Heap) (n : Nat) : Prop where
 w:c'.w=c.w
 nm:c'.nm=c.nm
 X:∀b,c'.X b->c.X b
 E:∀(id:Nat)(p:Pl),id<n->c.E[id]? =δ p->c'.E[id]? =δ p
 heap:kL c σ
 Sv:∀(id:Nat)(p:Pl),n<=id->c.E[id]? =δ p->¬c'.X p.b
theorem ann(d:Nat):∀(l l':List AV),A.gP σ n d l=δ l'->l'.length=l.length
 |[],l',e=>by simp only[A.gP]at e;injection e with e;subst e;rfl
 |x::l,l',e=>by simp only[A.gP]at e;obtain⟨y,h1,h2⟩:=ct.1 e;obtain⟨l2,h3,rfl⟩:=fF.1 h2;simp [ann d l l2 h3]
theorem Mk(d:Nat):∀(l l':List (List AV)),A.lK σ n d l=δ l'->l'.length=l.length
 |[],l',e=>by simp only[A.lK]at e;injection e with e;subst e;rfl
 |x::l,l',e=>by simp only[A.lK]at e;obtain⟨y,h1,h2⟩:=ct.1 e;obtain⟨l2,h3,rfl⟩:=fF.1 h2;simp [Mk d l l2 h3]
theorem Gv(d:Nat):∀(l:List (List AV)),A.MO σ n d l=A.lK σ n d l
 |[]=>by simp [A.lK,A.MO]
 |x::l=>by simp [A.lK,A.MO,Gv d l]
def GQ:AV->Bool
 |.os ..=>θ
 |.op ..=>θ
 |.oe ..=>θ
 |.om ..=>θ
 |_=>ι
theorem MB(d:Nat):∀(l:List AV),A.yw σ n d l=A.gP σ n d l
 |[]=>by simp [A.gP,A.yw]
 |x::l=>by simp [A.gP,A.yw,MB d l]
theorem afj(d:Nat):∀(l:List (AV×AV)),A.E0 σ n d l=A.uF σ n d l
 |[]=>by simp [A.uF,A.E0]
 |(k,v)::l=>by simp [A.uF,A.E0,afj d l]
theorem asw(d:Nat)(m:Int)(s:ByteArray):X4 σ n d (.agg [.int ξ m,.str s])=δ (.agg [.int ξ m,.str s]):=by cases d<;>simp [X4,A.gP]
theorem adh{d:Nat}:∀{es es':List (AV×AV)},(∀p∈es,∃m s,p.1=.agg [.int ξ m,.str s])->A.uF σ n d es=δ es'->es'.map (·.1)=es.map (·.1)
 |[],es',_,h=>by simp only[A.uF]at h;injection h with h;subst h;rfl
 |(k,v)::r,es',hk,h=>by simp only[A.uF]at h;obtain⟨m,s,e⟩:=hk (k,v) YJ;simp only at e;subst e;rw[asw]at h;simp only[aJ]at h;obtain⟨v',h1,h2⟩:=ct.1 h;obtain⟨r',h3,rfl⟩:=fF.1 h2;simp only[eP,adh (λp hp=>hk p (tN _ hp)) h3]
theorem apg{d:Nat}{es es':List (AV×AV)}(hd:J8 es)(h:A.uF σ n d es=δ es'):J8 es':=by
 have e:=adh hd.1 h;refine⟨λp hp=>?_,by rw[e];exact hd.2⟩;have:p.1∈es.map (·.1):=by rw[<-e];exact aDg hp
 obtain⟨q,hq,e2⟩:=gh.1 this;rw[<-e2];exact hd.1 q hq
mutual
theorem JO(h:AU c c' σ n)(d:Nat)(hos:∀av fk v,GQ av=θ->X4 σ n d av=δ fk->ay c av v->ay c' fk v):∀(av fk:AV)(v:Value),X4 σ n d av=δ fk->ay c av v->ay c' fk v
 |.undef,fk,v,e,r=>by cases d<;>simp [X4]at e
 |.int k m,fk,v,e,r=>by
  have:fk=.int k m:=by cases d<;>simpa [X4]using e.symm
  subst this;simpa [ay]using r
 |.bool b,fk,v,e,r=>by
  have:fk=.bool b:=by cases d<;>simpa [X4]using e.symm
  subst this;simpa [ay]using r
 |.str s,fk,v,e,r=>by
  have:fk=.str s:=by cases d<;>simpa [X4]using e.symm
  subst this;simpa [ay]using r
 |.aA,fk,v,e,r=>by
  have:fk=.aA:=by cases d<;>simpa [X4]using e.symm
  subst this;simpa [ay]using r
 |.ez,fk,v,e,r=>by
  have:fk=.ez:=by cases d<;>simpa [X4]using e.symm
  subst this;simpa [ay]using r
 |.np,fk,v,e,r=>by
  have:fk=.np:=by cases d<;>simpa [X4]using e.symm
  subst this;simpa [ay]using r
 |.nm,fk,v,e,r=>by
  have:fk=.nm:=by cases d<;>simpa [X4]using e.symm
  subst this;simpa [ay]using r
 |.CB,fk,v,e,r=>by
  have:fk=.CB:=by cases d<;>simpa [X4]using e.symm
  subst this;simpa [ay]using r
 |.agg cs,fk,v,e,r=>by
  have e':(A.gP σ n d cs).map .agg=δ fk:=by cases d<;>simpa [X4]using e
  obtain⟨cs',h1,rfl⟩:=fF.1 e';simp only[ay]at r ⊢;obtain⟨vs,e,r1,r2⟩:=r;exact⟨vs,e,Jz h d hos cs cs' _ h1 r1,r2⟩
 |.aM cs,fk,v,e,r=>by
  have e':(A.gP σ n d cs).map .aM=δ fk:=by cases d<;>simpa [X4]using e
  obtain⟨cs',h1,rfl⟩:=fF.1 e';simp only[ay]at r ⊢;obtain⟨vs,e,r1⟩:=r;exact⟨vs,e,Jz h d hos cs cs' _ h1 r1⟩
 |.sl sz es,fk,v,e,r=>by
  have e':(A.lK σ n d es).map (.sl sz)=δ fk:=by cases d<;>simpa [X4]using e
  obtain⟨es',h1,rfl⟩:=fF.1 e';simp only[ay]at r ⊢;obtain⟨q,cap,e,k1,k2,r⟩:=r;have hl:es'.length=es.length:=Mk d es es' h1;refine⟨q,cap,by rw[hl];exact e,by rw[hl];exact k1,k2,?_⟩;rcases r with r|⟨b,off,e2,hb,hx,r⟩
  ·left;subst r;simpa using hl
  ·right;exact⟨b,off,e2,by rw[h.w];exact hb,λk=>hx (h.X b k),Mr h d hos sz b es es' off h1 r⟩
 |.rp cs,fk,v,e,r=>by
  have e':(A.gP σ n d cs).map .rp=δ fk:=by cases d<;>simpa [X4]using e
  obtain⟨cs',h1,rfl⟩:=fF.1 e';simp only[ay]at r ⊢;obtain⟨b,off,e2,hb,hx,r⟩:=r;exact⟨b,off,e2,by rw[h.w];exact hb,λk=>hx (h.X b k),Jy h d hos b cs cs' off h1 r⟩
 |.fm es,fk,v,e,r=>by
  have e':(A.uF σ n d es).map .fm=δ fk:=by cases d<;>simpa [X4]using e
  obtain⟨es',h1,rfl⟩:=fF.1 e';simp only[ay]at r ⊢;obtain⟨b,e2,hb,hx,bP,aK,k1,kw,l,k2,k3⟩:=r;exact⟨b,e2,by rw[h.w];exact hb,λk=>hx (h.X b k),bP,aK,by rw[h.w];exact k1,kw,l,Rh h d hos es es' _ h1 k2,k3.imp_right λq=>⟨q.1,apg q.2 h1⟩⟩
 |.op id off,fk,v,e,r=>hos _ fk v rfl e r
 |.oe id g i off,fk,v,e,r=>hos _ fk v rfl e r
 |.om id,fk,v,e,r=>hos _ fk v rfl e r
 |.fn f cs,fk,v,e,r=>by
  have e':(A.gP σ n d cs).map (.fn f)=δ fk:=by cases d<;>simpa [X4]using e
  obtain⟨cs',h1,rfl⟩:=fF.1 e';simp only[ay]at r ⊢;obtain⟨g,vs,e,k,r1⟩:=r;exact⟨g,vs,e,by rw[h.nm];exact k,Jz h d hos cs cs' _ h1 r1⟩
 |.lbx cs,fk,v,e,r=>by cases d<;>simp [X4]at e
 |.os id g sz off len,fk,v,e,r=>hos _ fk v rfl e r
theorem Jz(h:AU c c' σ n)(d:Nat)(hos:∀av fk v,GQ av=θ->X4 σ n d av=δ fk->ay c av v->ay c' fk v):∀(l l':List AV)(vs:List Value),A.gP σ n d l=δ l'->aX c l vs->aX c' l' vs
 |[],l',vs,e,r=>by simp only[A.gP]at e;injection e with e;subst e;simpa [aX]using r
 |x::l,l',vs,e,r=>by simp only[A.gP]at e;obtain⟨y,h1,h2⟩:=ct.1 e;obtain⟨l2,h3,rfl⟩:=fF.1 h2;simp only[aX]at r ⊢;obtain⟨v,vs',e,r1,r2⟩:=r;exact⟨v,vs',e,JO h d hos x y v h1 r1,Jz h d hos l l2 vs' h3 r2⟩
theorem Rh(h:AU c c' σ n)(d:Nat)(hos:∀av fk v,GQ av=θ->X4 σ n d av=δ fk->ay c av v->ay c' fk v):∀(l l':List (AV×AV))(es:List MapEntry),A.uF σ n d l=δ l'->eB c l es->eB c' l' es
 |[],l',es,e,r=>by simp only[A.uF]at e;injection e with e;subst e;simpa [eB]using r
 |(k,v)::l,l',es,e,r=>by simp only[A.uF]at e;obtain⟨k',h1,h2⟩:=ct.1 e;obtain⟨v',h3,h4⟩:=ct.1 h2;obtain⟨l2,h5,rfl⟩:=fF.1 h4;simp only[eB]at r ⊢;obtain⟨x,es',e,r1,r2,r3⟩:=r;exact⟨x,es',e,JO h d hos k k' _ h1 r1,JO h d hos v v' _ h3 r2,Rh h d hos l l2 es' h5 r3⟩
theorem Jy(h:AU c c' σ n)(d:Nat)(hos:∀av fk v,GQ av=θ->X4 σ n d av=δ fk->ay c av v->ay c' fk v)(b:Nat):∀(l l':List AV)(off:Nat),A.gP σ n d l=δ l'->bY c b off l->bY c' b off l'
 |[],l',off,e,r=>by simp only[A.gP]at e;injection e with e;subst e;simp [bY]
 |x::l,l',off,e,r=>by simp only[A.gP]at e;obtain⟨y,h1,h2⟩:=ct.1 e;obtain⟨l2,h3,rfl⟩:=fF.1 h2;simp only[bY]at r ⊢;obtain⟨⟨v,e1,e2,r1⟩,r2⟩:=r;exact⟨⟨v,by rw[h.w];exact e1,e2,JO h d hos x y v h1 r1⟩,Jy h d hos b l l2 (off+1) h3 r2⟩
theorem Mr(h:AU c c' σ n)(d:Nat)(hos:∀av fk v,GQ av=θ->X4 σ n d av=δ fk->ay c av v->ay c' fk v)(sz b:Nat):∀(l l':List (List AV))(off:Nat),A.lK σ n d l=δ l'->cA c sz b off l->cA c' sz b off l'
 |[],l',off,e,r=>by simp only[A.lK]at e;injection e with e;subst e;simp [cA]
 |x::l,l',off,e,r=>by simp only[A.lK]at e;obtain⟨y,h1,h2⟩:=ct.1 e;obtain⟨l2,h3,rfl⟩:=fF.1 h2;simp only[cA]at r ⊢;exact⟨by rw[ann d x y h1];exact r.1,Jy h d hos b x y off h1 r.2.1,Mr h d hos sz b l l2 (off+sz) h3 r.2.2⟩
end
structure Bf (c0 c c' : RC) : Prop where
 w:c'.w=c.w
 nm:c'.nm=c.nm
 X:∀b,c'.X b->c.X b
 E:∀(id:Nat)(p0 p:Pl),c0.E[id]? =δ p0->c.E[id]? =δ p->c'.E[id]? =δ p
mutual
theorem JJ{c0 c c':RC}(h:Bf c0 c c'):∀(av:AV)(v0 v:Value),ay c0 av v0->ay c av v->ay c' av v
 |.undef,v0,v,r0,r=>by simp [ay]
 |.int k m,v0,v,r0,r=>by simpa [ay]using r
 |.bool b,v0,v,r0,r=>by simpa [ay]using r
 |.str s,v0,v,r0,r=>by simpa [ay]using r
 |.aA,v0,v,r0,r=>by simpa [ay]using r
 |.ez,v0,v,r0,r=>by simpa [ay]using r
 |.np,v0,v,r0,r=>by simpa [ay]using r
 |.nm,v0,v,r0,r=>by simpa [ay]using r
 |.fm es,v0,v,r0,r=>by simp only[ay]at r0 r ⊢;obtain⟨_,_,_,_,_,_,_,_,_,r0,_⟩:=r0;obtain⟨b,e,hb,hx,bP,aK,k1,kw,l,k2,k3⟩:=r;exact⟨b,e,by rw[h.w];exact hb,λk=>hx (h.X b k),bP,aK,by rw[h.w];exact k1,kw,l,Q9 h es _ _ r0 k2,k3⟩
 |.CB,v0,v,r0,r=>by simpa [ay]using r
 |.agg cs,v0,v,r0,r=>by simp only[ay]at r0 r ⊢;obtain⟨F3,_,Ig,_⟩:=r0;obtain⟨vs,e,r1,r2⟩:=r;exact⟨vs,e,Q8 h cs _ _ Ig r1,r2⟩
 |.aM cs,v0,v,r0,r=>by simp only[ay]at r0 r ⊢;obtain⟨F3,_,Ig⟩:=r0;obtain⟨vs,e,r1⟩:=r;exact⟨vs,e,Q8 h cs _ _ Ig r1⟩
 |.sl sz es,v0,v,r0,r=>by
  simp only[ay]at r0 r ⊢;obtain⟨_,_,_,_,_,r0⟩:=r0;obtain⟨q,cap,e,k1,k2,r⟩:=r;refine⟨q,cap,e,k1,k2,?_⟩;rcases r with r|⟨b,off,e2,hb,hx,r⟩
  ·exact .inl r
  ·rcases r0 with r0|⟨b0,tQ,_,_,_,r0⟩
   ·exact .inl r0
   ·exact .inr ⟨b,off,e2,by rw[h.w];exact hb,λk=>hx (h.X b k),Q7 h sz b0 b es tQ off r0 r⟩
 |.rp cs,v0,v,r0,r=>by simp only[ay]at r0 r ⊢;obtain⟨b0,tQ,_,_,_,r0⟩:=r0;obtain⟨b,off,e2,hb,hx,r⟩:=r;exact⟨b,off,e2,by rw[h.w];exact hb,λk=>hx (h.X b k),Mq h b0 b cs tQ off r0 r⟩
 |.op id off,v0,v,r0,r=>by simp only[ay]at r0 r ⊢;obtain⟨p0,e0,_⟩:=r0;obtain⟨p,e1,e2,e3⟩:=r;exact⟨p,h.E id p0 p e0 e1,e2,e3⟩
 |.oe id g i off,v0,v,r0,r=>by simp only[ay]at r0 r ⊢;obtain⟨_,p0,e0,_⟩:=r0;obtain⟨hg,p,e1,e2⟩:=r;exact⟨hg,p,h.E id p0 p e0 e1,e2⟩
 |.os id g sz off len,v0,v,r0,r=>by simp only[ay]at r0 r ⊢;obtain⟨_,p0,e0,_⟩:=r0;obtain⟨hg,p,e1,e2⟩:=r;exact⟨hg,p,h.E id p0 p e0 e1,e2⟩
 |.om id,v0,v,r0,r=>by simp only[ay]at r0 r ⊢;obtain⟨p0,e0,_⟩:=r0;obtain⟨p,e1,e2,e3⟩:=r;exact⟨p,h.E id p0 p e0 e1,e2,e3⟩
 |.fn f cs,v0,v,r0,r=>by simp only[ay]at r0 r ⊢;obtain⟨_,_,_,_,r0⟩:=r0;obtain⟨g,vs,e1,e2,r⟩:=r;exact⟨g,vs,e1,by rw[h.nm];exact e2,Q8 h cs _ _ r0 r⟩
 |.lbx cs,v0,v,r0,r=>by simp [ay]at r
theorem Q8{c0 c c':RC}(h:Bf c0 c c'):∀(l:List AV)(F3 vs:List Value),aX c0 l F3->aX c l vs->aX c' l vs
 |[],F3,vs,r0,r=>by simpa [aX]using r
 |x::l,F3,vs,r0,r=>by simp only[aX]at r0 r ⊢;obtain⟨v0,us0,_,Ig,r02⟩:=r0;obtain⟨v,us,e,r1,r2⟩:=r;exact⟨v,us,e,JJ h x _ _ Ig r1,Q8 h l _ _ r02 r2⟩
theorem Q9{c0 c c':RC}(h:Bf c0 c c'):∀(l:List (AV×AV))(lY es:List MapEntry),eB c0 l lY->eB c l es->eB c' l es
 |[],lY,es,r0,r=>by simpa [eB]using r
 |(k,v)::l,lY,es,r0,r=>by simp only[eB]at r0 r ⊢;obtain⟨e0,aw0,_,k1,k2,k3⟩:=r0;obtain⟨e,es',e1,j1,j2,j3⟩:=r;exact⟨e,es',e1,JJ h k _ _ k1 j1,JJ h v _ _ k2 j2,Q9 h l aw0 es' k3 j3⟩
theorem Mq{c0 c c':RC}(h:Bf c0 c c')(b0 b:Nat):∀(l:List AV)(tQ off:Nat),bY c0 b0 tQ l->bY c b off l->bY c' b off l
 |[],tQ,off,r0,r=>by simp [bY]
 |x::l,tQ,off,r0,r=>by simp only[bY]at r0 r ⊢;obtain⟨⟨v0,_,_,Ig⟩,r02⟩:=r0;obtain⟨⟨v,e1,e2,r1⟩,r2⟩:=r;exact⟨⟨v,by rw[h.w];exact e1,e2,JJ h x _ _ Ig r1⟩,Mq h b0 b l _ _ r02 r2⟩
theorem Q7{c0 c c':RC}(h:Bf c0 c c')(sz b0 b:Nat):∀(l:List (List AV))(tQ off:Nat),cA c0 sz b0 tQ l->cA c sz b off l->cA c' sz b off l
 |[],tQ,off,r0,r=>by simp [cA]
 |x::l,tQ,off,r0,r=>by simp only[cA]at r0 r ⊢;exact⟨r.1,Mq h b0 b x _ _ r0.2.1 r.2.1,Q7 h sz b0 b l _ _ r0.2.2 r.2.2⟩
end
theorem Q6{c0 c c':RC}(h:Bf c0 c c'){p0 p:Pl}{x:aW}(k0:ur c0 p0 x)(k:ur c p x):ur c' p x:=by
 cases x with
 |box cs=>obtain⟨h1,⟨⟨arr,t,h2,h3⟩,h4⟩⟩:=k;exact⟨h1,⟨arr,t,by rw[h.w];exact h2,h3⟩,Mq h _ _ cs _ _ k0.2.2 h4⟩
 |arr g sz es=>obtain⟨h1,h2,h3,h4,⟨arr,t,h5,h6⟩,h7,h8,h9⟩:=k;obtain⟨_,_,_,_,_,_,k8,_⟩:=k0;exact⟨h1,h2,h3,h4,⟨arr,t,by rw[h.w];exact h5,h6⟩,h7,Q7 h sz _ _ es _ _ k8 h8,λarr t fz e=>h9 arr t fz (by rw[<-h.w];exact e)⟩
 |sB g sz es=>obtain⟨h1,h2,h3,h4,⟨arr,t,h5,h6⟩,h7,h8,h9⟩:=k;obtain⟨_,_,_,_,_,_,k8,_⟩:=k0;exact⟨h1,h2,h3,h4,⟨arr,t,by rw[h.w];exact h5,h6⟩,h7,Q7 h sz _ _ es _ _ k8 h8,λarr t fz e=>h9 arr t fz (by rw[<-h.w];exact e)⟩
 |map es=>obtain⟨h1,bP,aK,h2,hw,h3⟩:=k;obtain⟨_,_,_,_,_,k3⟩:=k0;exact⟨h1,bP,aK,by rw[h.w];exact h2,hw,Q9 h es _ _ k3 h3⟩
 |it cur left=>
  obtain⟨h1,h2⟩:=k;obtain⟨_,k2⟩:=k0;refine⟨h1,?_⟩;rcases h2 with⟨h2,h2',since,seen,last,h3⟩|⟨m,seen,bP,aK,h3,h4,h5,h6,h7,h8,h9⟩
  ·exact .inl ⟨h2,h2',since,seen,last,by rw[h.w];exact h3⟩
  ·rcases k2 with⟨q1,q2,_⟩|⟨m0,azt,azm,aze,q3,q4,q5,q6,q7,q8,q9⟩
   ·refine .inr ⟨m,seen,bP,aK,by rw[h.w];exact h3,by rw[h.w];exact h4,λk=>h5 (h.X m k),by rw[h.w];exact h6,h7,by rw[q2]at h8 ⊢;exact h8,.inl q1⟩
   ·refine .inr ⟨m,seen,bP,aK,by rw[h.w];exact h3,by rw[h.w];exact h4,λk=>h5 (h.X m k),by rw[h.w];exact h6,h7,(by obtain⟨l0,q8,_⟩:=q8;obtain⟨l,h8,hp⟩:=h8;exact⟨l,Q9 h left _ _ q8 h8,hp⟩),?_⟩;rcases h9 with h9|⟨kk,v,e,e1,e2,e3,e4,e5⟩
    ·exact .inl h9
    ·rcases q9 with q9|⟨kk',v',e',f1,f2,f3,f4,f5⟩
     ·exact .inl q9
     ·rw[e1]at f1;simp only[aCW,T4,and_true]at f1;obtain⟨rfl,rfl⟩:=f1;exact .inr ⟨_,_,e,e1,e2,e3,JJ h _ _ _ f4 e4,JJ h _ _ _ f5 e5⟩
def aw3:aW->Nat
 |.arr g _ _=>g
 |.sB g _ _=>g
 |_=>0
theorem W8{c:RC}{p:Pl}{x:aW}(k:ur c p x):p.g=aw3 x:=by cases x<;>exact k.1
theorem afc{c0 c c':RC}(h:Bf c0 c c')(sz b:Nat):∀(l:List (List AV))(off:Nat),(∀y∈l,∃b0 o0,bY c0 b0 o0 y)->cA c sz b off l->cA c' sz b off l
 |[],off,h0,r=>by simp [cA]
 |x::l,off,h0,r=>by simp only[cA]at r ⊢;obtain⟨b0,o0,k⟩:=h0 x (by simp);exact⟨r.1,Mq h b0 b x _ _ k r.2.1,afc h sz b l _ (λy hy=>h0 y (by simp [hy])) r.2.2⟩
theorem aeT{c:RC}:∀{args:List AV}{vs:List Value},aX c args vs->∀y∈A.rowsOf args,∃b0 o0,bY c b0 o0 y
 |[],_,_,y,hy=>by simp [A.rowsOf]at hy
 |a::args,vs,h,y,hy=>by
  simp only[aX]at h;obtain⟨v,vs',rfl,h1,h2⟩:=h;simp only[A.rowsOf,jQ]at hy;rcases hy with hy|hy
  ·cases a<;>simp only[List.not_mem_nil]at hy;rename_i sz es;simp only[ay]at h1;obtain⟨a,cap,rfl,_,_,h3⟩:=h1;rcases h3 with h3|⟨b,off,_,_,_,h4⟩
   ·rw[h3]at hy;cases hy
   ·obtain⟨i,hi⟩:=uy.1 hy;exact⟨_,_,(cA.nth h4 hi).2⟩
  ·exact aeT h2 y hy
theorem BX(h:AU c c' σ n):∀(d:Nat)(av fk:AV)(v:Value),X4 σ n d av=δ fk->ay c av v->ay c' fk v
 |0=>JO h 0 (λav fk v ho e r=>by cases av<;>first|(simp [X4]at e;done)|(simp [GQ]at ho;done))
 |d+1=>JO h (d+1) (λav fk v ho e r=>match av,ho,e,r with
  |.op id off,_,e,r=>by
   simp only[X4]at e;simp only[ay]at r;obtain⟨p,h1,h2,rfl⟩:=r;split at e
   ·rename_i hlt;injection e with e;subst e
    simp only[ay];exact⟨p,h.E id p hlt h1,h2,rfl⟩
   ·rename_i hge;split at e
    ·rename_i cs hs;obtain⟨cs',e1,rfl⟩:=fF.1 e;rw[MB]at e1;obtain⟨j1,⟨⟨arr,t,j2,j3⟩,j4⟩⟩:=h.heap.blk id p _ h1 hs;simp only[ay];refine⟨p.b,off,rfl,by rw[h.w];exact(mP.1 j2).1,h.Sv id p (by omega) h1,?_⟩;have j5:=j4.drop off;rw[YW]at j5;exact Jy h d (λav fk v _ e r=>BX h d _ _ _ e r) p.b _ cs' _ e1 j5
    ·cases e
  |.oe id g i off,_,e,r=>by
   simp only[X4]at e;simp only[ay]at r;obtain⟨hg,p,h1,h2,a,rfl,h3⟩:=r;split at e
   ·rename_i hlt;injection e with e;subst e
    simp only[ay];exact⟨hg,p,h.E id p hlt h1,h2,a,rfl,h3⟩
   ·rename_i hge;split at e
    ·rename_i g' sz' es hs;split at e
     ·rename_i hc;subst hc;split at e
      ·rename_i el hel;obtain⟨cs',e1,rfl⟩:=fF.1 e;rw[MB]at e1;obtain⟨j1,j2,j3,j4,⟨arr,bt,j5,j6⟩,j7,j8,j9⟩:=h.heap.blk id p _ h1 hs;have ha:=h3 j1.symm;subst ha;simp only[ay];refine⟨p.b,_,rfl,by rw[h.w];exact(mP.1 j5).1,h.Sv id p (by omega) h1,?_⟩;rw[j3];have j9:=(j8.nth hel).2.drop off;exact Jy h d (λav fk v _ e r=>BX h d _ _ _ e r) p.b _ cs' _ e1 j9
      ·cases e
     ·cases e
    ·cases e
  |.om id,_,e,r=>by
   simp only[X4]at e;simp only[ay]at r;obtain⟨p,h1,h2,rfl⟩:=r;split at e
   ·rename_i hlt;injection e with e;subst e
    simp only[ay];exact⟨p,h.E id p hlt h1,h2,rfl⟩
   ·rename_i hge;split at e
    ·rename_i es hs;obtain⟨es',e1,rfl⟩:=fF.1 e;rw[afj]at e1;obtain⟨j1,bP,aK,j2,jw,j3⟩:=h.heap.blk id p _ h1 hs;simp only[ay];exact⟨p.b,rfl,by rw[h.w];exact(mP.1 j2).1,h.Sv id p (by omega) h1,bP,aK,by rw[h.w];exact j2,jw,_,Rh h d (λav fk v _ e r=>BX h d _ _ _ e r) _ es' _ e1 j3,.inl rfl⟩
    ·cases e
  |.os id g sz off len,_,e,r=>by
   simp only[X4]at e;simp only[ay]at r;obtain⟨hg,p,h1,h2,q,cap,rfl,h3,r⟩:=r;split at e
   ·rename_i hlt;injection e with e;subst e
    simp only[ay];exact⟨hg,p,h.E id p hlt h1,h2,q,cap,rfl,h3,r⟩
   ·rename_i hge;split at e
    ·rename_i g' sz' es hs;split at e
     ·rename_i hc;obtain⟨rfl,rfl,hle⟩:=hc;obtain⟨es',e1,rfl⟩:=fF.1 e;rw[Gv]at e1;obtain⟨j1,j2,j3,j4,⟨arr,bt,j5,j6⟩,j7,j8,j9⟩:=h.heap.blk id p _ h1 hs;obtain⟨k1,k2,k3⟩:=r j1.symm;have hl:=Mk d _ _ e1;have rS:((es.drop off).take len).length=len:=by simp;omega
      simp only[ay];refine⟨δ q,cap,by rw[hl,rS],by rw[hl,rS];exact h3,j4,?_⟩;by_cases hz:len=0
      ·left;apply xC;rw[hl,rS,hz]
      ·right
       have hq:q=⟨p.b,p.base+off*p.sz,μ⟩:=by
        rcases k2 with k2|k2
        ·omega
        ·exact k2
       refine⟨p.b,p.base+off*p.sz,by rw[hq],by rw[h.w];exact(mP.1 j5).1,h.Sv id p (by omega) h1,?_⟩;refine Mr h d (λav fk v _ e r=>BX h d _ _ _ e r) sz p.b _ es' _ e1 ?_;rw[j3];exact(j8.drop off).take len
     ·cases e
    ·cases e)
end
section
variable {c c' : RC} {σ : Heap} {n : Nat}
theorem apO{es es':List (AV×AV)}(hp:es.Perm es'):∀{l:List MapEntry},eB c es l->∃l',eB c es' l'/\l'.Perm l:=by
 induction hp with
 |nil=>intro l h;exact⟨l,h,.refl _⟩
 |cons x _ ih=>intro l h;obtain⟨e,l1,rfl,h2,h3,h4⟩:=h;obtain⟨l',k1,k2⟩:=ih h4;exact⟨e::l',⟨_,_,rfl,h2,h3,k1⟩,k2.cons e⟩
 |swap x y l0=>intro l h;obtain⟨e,l1,rfl,h2,h3,e',l2,rfl,h4,h5,h6⟩:=h;exact⟨e'::e::l2,⟨_,_,rfl,h4,h5,_,_,rfl,h2,h3,h6⟩,.swap _ _ _⟩
 |trans _ _ ih1 ih2=>intro l h;obtain⟨l1,k1,k2⟩:=ih1 h;obtain⟨l2,k3,k4⟩:=ih2 k1;exact⟨l2,k3,k4.trans k2⟩
theorem Wg(es:List (AV×AV)):(A.Cl es).Perm es:=Vm (p:=λl:List (AV×AV)=>l.Perm es) ⟨es,.refl _⟩
theorem acZ{es es':List (AV×AV)}(h:es.Perm es'):A.Cl es=A.Cl es':=by
 have:(λl:List (AV×AV)=>l.Perm es)=λl=>l.Perm es':=funext λl=>propext ⟨λq=>q.trans h,λq=>q.trans h.symm⟩
 unfold A.Cl;congr 1
theorem arW{x:AV}{v:Value}(r:ay c x v):ay c (A.can x) v:=by
 cases x<;>try exact r
 case fm es=>
  unfold A.can;simp only;split
  ·rename_i hd;simp only[ay]at r ⊢;obtain⟨b,e,hb,hx,bP,aK,k1,kw,l,k2,k3⟩:=r;have hp:=Wg es;obtain⟨l',j1,j2⟩:=apO hp.symm k2;refine⟨b,e,hb,hx,bP,aK,k1,kw,l',j1,.inr ⟨?_,?_⟩⟩
   ·rcases k3 with rfl|⟨k3,_⟩
    ·exact j2
    ·exact j2.trans k3
   ·exact⟨λp hp'=>hd.1 p (hp.mem_iff.1 hp'),(hp.map _).nodup_iff.2 hd.2⟩
  ·exact r
theorem We{b:Nat}:∀{l:List AV}{off:Nat},bY c b off l->bY c b off (l.map A.can)
 |[],off,_=>by simp [bY]
 |x::l,off,r=>by simp only[eP,bY]at r ⊢;obtain⟨⟨v,h1,h2,h3⟩,h4⟩:=r;exact⟨⟨v,h1,h2,arW h3⟩,We h4⟩
theorem aA7{sz b:Nat}:∀{l:List (List AV)}{off:Nat},cA c sz b off l->cA c sz b off (l.map (·.map A.can))
 |[],off,_=>by simp [cA]
 |x::l,off,r=>by simp only[eP,cA,X1]at r ⊢;exact⟨r.1,We r.2.1,aA7 r.2.2⟩
theorem aqP(h:AU c c' σ n){p:Pl}{x x':aW}(e:A.Fh σ n x=δ x')(k:ur c p x):ur c' p x':=by
 have hos:∀av fk v,GQ av=θ->X4 σ n 8 av=δ fk->ay c av v->ay c' fk v:=λav fk v _ e r=>BX h 8 _ _ _ e r
 cases x with
 |box cs=>obtain⟨cs',e1,rfl⟩:=fF.1 e;obtain⟨h1,⟨⟨arr,t,h2,h3⟩,h4⟩⟩:=k;exact⟨h1,⟨arr,t,by rw[h.w];exact h2,by rw[X1,ann 8 _ _ e1];exact h3⟩,We (Jy h 8 hos _ _ _ _ e1 h4)⟩
 |arr g sz es=>obtain⟨es',e1,rfl⟩:=fF.1 e;obtain⟨h1,h2,h3,h4,⟨arr,t,h5,h6⟩,h7,h8,h9⟩:=k;exact⟨h1,h2,h3,h4,⟨arr,t,by rw[h.w];exact h5,h6⟩,by rw[X1,Mk 8 _ _ e1];exact h7,aA7 (Mr h 8 hos _ _ _ _ _ e1 h8),λarr t fz e=>h9 arr t fz (by rw[<-h.w];exact e)⟩
 |sB g sz es=>obtain⟨es',e1,rfl⟩:=fF.1 e;obtain⟨h1,h2,h3,h4,⟨arr,t,h5,h6⟩,h7,h8,h9⟩:=k;exact⟨h1,h2,h3,h4,⟨arr,t,by rw[h.w];exact h5,h6⟩,by rw[X1,Mk 8 _ _ e1];exact h7,aA7 (Mr h 8 hos _ _ _ _ _ e1 h8),λarr t fz e=>h9 arr t fz (by rw[<-h.w];exact e)⟩
 |map es=>obtain⟨es',e1,rfl⟩:=fF.1 e;obtain⟨h1,bP,aK,h2,hwf,h3⟩:=k;exact⟨h1,bP,aK,by rw[h.w];exact h2,hwf,Rh h 8 hos _ _ _ e1 h3⟩
 |it cur left=>cases e
theorem ade{n:Nat}:∀{Tk Tl τ:Heap},A.zJ σ n Tk Tl=δ τ->τ.length=Tk.length/\Tk.length<=Tl.length/\∀(i:Nat)x,τ[i]? =δ x->∃b b',Tk[i]? =δ b/\Tl[i]? =δ b'/\((b'=b/\x=b)\/A.Fh σ n b'=δ x)
 |[],Tl,τ,h=>by simp only[A.zJ]at h;injection h with h;subst h;simp
 |_::_,[],τ,h=>by simp [A.zJ]at h
 |b::r,b'::r',τ,h=>by
  simp only[A.zJ]at h;obtain⟨y,h1,h2⟩:=ct.1 h;obtain⟨Pn,h3,rfl⟩:=fF.1 h2;obtain⟨k1,k2,k3⟩:=ade h3;refine⟨by simp [k1],by simp;omega,λi x hi=>?_⟩;cases i with
  |zero=>
   simp only[List.getElem?_cons_zero,Θ]at hi;subst hi;refine⟨b,b',rfl,rfl,?_⟩;split at h1
   ·rename_i e;injection h1 with h1
    exact .inl ⟨e,h1.symm⟩
   ·exact .inr h1
  |succ i=>exact k3 i x hi
end
section
variable {X : Fx}
def vB.Ok:vB->Prop
 |.N g=>∀c a v,ay c a v->ay c (g a) v
 |_=>True
theorem Gl(hs:fA X){f:FuncId}{fn:Func}{keep:vB}(hkeep:keep.Ok){dg:qA}{args:List AV}{σ σ':Heap}{r:AV}(hf:X.P.funcs[f]? =δ fn)(Sb:∀eD w,(callFunc f eD).run X.P w=.ok (.enter f eD) w)
  (hr:vI X keep dg fn args σ=δ (r,σ')):rE X.P X.nm f args σ r σ':=by
 refine .inl ⟨f,Sb,λz vs hnm hlt hh ha=>?_⟩;unfold vI at hr;cases hb:fn.body with
 |none=>rw[hb]at hr;cases hr
 |some c=>
  rw[hb]at hr;simp only at hr;cases hc:(Nat.ble args.length fn.ntmps&&X.n==fn.ntmps)
  ·rw[hc]at hr;cases hr
  ·rw[hc]at hr;simp only[Ur,bQ]at hr;simp only[jW,beq_iff_eq]at hc;obtain⟨hc1,wQ⟩:=hc;have hle:args.length<=fn.ntmps:=Nat.le_of_ble_eq_true hc1;have Ea:=ha.length;have azG:args.length=vs.size:=by simpa using Ea
   have hst:St X z ⟨args++Z3 (fn.ntmps-args.length) (.aM []),λ_=>μ,σ⟩ {tmps:=vs++X6 (fn.ntmps-vs.size) undef,defers:=[]} z.w z.E eW:=by
    have ahm:∀i av,(args++Z3 (fn.ntmps-args.length) (.aM []))[i]? =δ av->ay (ctx z z.w z.E eW) av ((vs++X6 (fn.ntmps-vs.size) undef).getD i undef):=by
     intro i av hi;by_cases hlt':i<args.length
     ·rw[iS hlt']at hi;obtain⟨v,k1,k2⟩:=ha.nth hi
      have:(vs++X6 (fn.ntmps-vs.size) undef).getD i undef=v:=by rw[sx,Array.getElem?_append_left (by omega),<-UE,k1];rfl
      rw[this];exact k2
     ·rw[jq (by omega)]at hi;have hm:=dm hi;rw[Xl]at hm;rw[hm.2]
      have:(vs++X6 (fn.ntmps-vs.size) undef).getD i undef=undef:=by rw[sx,Array.getElem?_append_right (by omega),Array.getElem?_replicate];split<;>rfl
      rw[this];simp only[ay];exact⟨#[],rfl,by simp [aX]⟩
    refine⟨by simp;omega,by simp;omega,λi av hi=>Slot.of (ahm i av hi),λi cs hi=>?_,(λt p hp=>by cases hp),(λi b hb=>by cases hb),(λi j b hb=>by cases hb),hh,rfl,?_,hnm.symm⟩
    ·have:=ahm i _ hi;simp [ay]at this
    ·exact⟨rfl,rfl,rfl,bN _,λ_ _ _=>rfl,λi p hp=>.inr ⟨p,hp,rfl⟩,λi p hp=>⟨p,hp,.inl rfl⟩,hlt,λp hp=>hh.lt hp⟩
   refine calls_of_wp hf hb (BW hs c dg _ _ _ _ _ _ _ _ hr hst λe s' a' w' E' dN h' _ hk=>?_)
   have hno:Ext (ctx z w' E' dN) (ctx z w' E' eW):=Ext.same rfl rfl (λb k=>by
    rcases k with k|k|⟨i,k⟩
    ·exact .inl k
    ·exact .inr (.inl k)
    ·cases k) rfl
   have ahF:∀(x:AV)(v:Value)(r:AV)(σ':Heap),ay (ctx z w' E' dN) x v->wh σ x s'.σ=δ (r,σ')->∃mF,Out z w' mF/\kL (ctx z w' mF eW) σ'/\ay (ctx z w' mF eW) r v:=by
     intro x v r σ' rv k3;unfold wh at k3;split at k3
     ·rename_i he;simp only[Θ,T4]at k3;obtain⟨rfl,rfl⟩:=k3;exact⟨E',h'.out,by rw[<-he];exact h'.heap.mono hno rfl (λp hp=>rfl),YF hno _ _ rv⟩
     ·split at k3
      ·rename_i he;obtain⟨r',k6,k7⟩:=fF.1 k3;simp only[T4]at k7;obtain⟨rfl,rfl⟩:=k7;have hlen:=h'.heap.len;simp only[ctx]at hlen;have hzl:z.E.length=σ.length:=hh.len
       have hle2:σ.length<=s'.σ.length:=by have:=congrArg WD he;simp at this;omega
       have vW:∀(id:Nat)(p:Pl),id<σ.length->E'[id]? =δ p->(E'.take σ.length)[id]? =δ p:=λid p hlt' hp=>by rw[WG hlt'];exact hp
       have uG:∀(id:Nat)(p:Pl),(E'.take σ.length)[id]? =δ p->id<σ.length/\E'[id]? =δ p:=λid p hp=>by
        rw[aCY]at hp;split at hp
        ·exact⟨by assumption,hp⟩
        ·cases hp
       have xx:AU (ctx z w' E' dN) (ctx z w' (E'.take σ.length) eW) s'.σ σ.length:=by
        refine⟨rfl,rfl,λb k=>?_,vW,h'.heap,λid p hge hp k=>?_⟩
        ·rcases k with k|⟨p,hp,k⟩|⟨i,k⟩
         ·exact .inl k
         ·exact .inr (.inl ⟨p,sA hp,k⟩)
         ·cases k
        ·rcases k with k|⟨q,hq,k⟩|⟨i,k⟩
         ·have hb:=hlt _ k;rcases h'.out.fresh' id p hp with e|⟨q,hq,_⟩
          ·omega
          ·rw[rK (by omega)]at hq;cases hq
         ·obtain⟨j,hj,rfl⟩:=T5.1 hq;obtain⟨h1,h2⟩:=uG j _ (cC hj);have:=h'.heap.inj j id _ p h2 hp k;omega
         ·cases k
       have heq:∀(id:Nat),id<σ.length->σ[id]? =s'.σ[id]? :=λid hlt'=>by have h1:(List.take σ.length s'.σ)[id]? =s'.σ[id]? :=WG hlt';rw[he]at h1;exact h1
       have held:Bf (ctx z z.w z.E eW) (ctx z w' E' dN) (ctx z w' (E'.take σ.length) eW):=
        ⟨rfl,rfl,xx.X,λid p0 p e0 e1=>vW id p (by have:=(bG.1 e0).1;simp only[ctx]at this;omega) e1⟩
       refine⟨E'.take σ.length,?_,?_,BX xx 8 _ _ _ k6 rv⟩
       ·have o:=h'.out
        exact⟨o.os,o.tape,o.output,o.size,o.stay,λi p hp=>o.fresh' i p (uG i p hp).2,λi p hp=>by
         obtain⟨p',m1,m2⟩:=o.env i p hp
         exact⟨p',vW i p' (by have:=(bG.1 hp).1;omega) m1,m2⟩,o.lt,o.mine⟩
       ·refine⟨by simp only[ctx,rM];omega,λi j p q hp hq e=>h'.heap.inj i j p q (uG i p hp).2 (uG j q hq).2 e,λi p x hp hx=>?_⟩;obtain⟨hi,hp2⟩:=uG i p hp;have gQ:z.E[i]? =δ z.E[i]:=cC (by omega);exact Q6 held (hh.blk i _ x gQ hx) (h'.heap.blk i p x hp2 (by rw[<-heq i hi];exact hx))
      ·cases k3
   have DD:∀(x:AV)(v:Value)(r:AV)(σ':Heap),ay (ctx z w' E' dN) x v->A.DD σ x s'.σ=δ (r,σ')->∃mF,Out z w' mF/\kL (ctx z w' mF eW) σ'/\ay (ctx z w' mF eW) r v:=by
     intro x v r σ' rv k3;unfold A.DD at k3;obtain⟨τ,q0,k4⟩:=ct.1 k3;obtain⟨r',k6,k7⟩:=fF.1 k4;simp only[T4]at k7;obtain⟨rfl,rfl⟩:=k7;obtain⟨q1,hle2,q3⟩:=ade q0;have hlen:=h'.heap.len;simp only[ctx]at hlen;have hzl:z.E.length=σ.length:=hh.len;have vW:∀(id:Nat)(p:Pl),id<σ.length->E'[id]? =δ p->(E'.take σ.length)[id]? =δ p:=λid p hlt' hp=>by rw[WG hlt'];exact hp
     have uG:∀(id:Nat)(p:Pl),(E'.take σ.length)[id]? =δ p->id<σ.length/\E'[id]? =δ p:=λid p hp=>by
      rw[aCY]at hp;split at hp
      ·exact⟨by assumption,hp⟩
      ·cases hp
     have xx:AU (ctx z w' E' dN) (ctx z w' (E'.take σ.length) eW) s'.σ σ.length:=by
      refine⟨rfl,rfl,λb k=>?_,vW,h'.heap,λid p hge hp k=>?_⟩
      ·rcases k with k|⟨p,hp,k⟩|⟨i,k⟩
       ·exact .inl k
       ·exact .inr (.inl ⟨p,sA hp,k⟩)
       ·cases k
      ·rcases k with k|⟨q,hq,k⟩|⟨i,k⟩
       ·have hb:=hlt _ k;rcases h'.out.fresh' id p hp with e|⟨q,hq,_⟩
        ·omega
        ·rw[rK (by omega)]at hq;cases hq
       ·obtain⟨j,hj,rfl⟩:=T5.1 hq;obtain⟨h1,h2⟩:=uG j _ (cC hj);have:=h'.heap.inj j id _ p h2 hp k;omega
       ·cases k
     have held:Bf (ctx z z.w z.E eW) (ctx z w' E' dN) (ctx z w' (E'.take σ.length) eW):=
      ⟨rfl,rfl,xx.X,λid p0 p e0 e1=>vW id p (by have:=(bG.1 e0).1;simp only[ctx]at this;omega) e1⟩
     refine⟨E'.take σ.length,?_,?_,BX xx 8 _ _ _ k6 rv⟩
     ·have o:=h'.out
      exact⟨o.os,o.tape,o.output,o.size,o.stay,λi p hp=>o.fresh' i p (uG i p hp).2,λi p hp=>by
       obtain⟨p',m1,m2⟩:=o.env i p hp
       exact⟨p',vW i p' (by have:=(bG.1 hp).1;omega) m1,m2⟩,o.lt,o.mine⟩
     ·refine⟨by simp only[ctx,rM];omega,λi j p q hp hq e=>h'.heap.inj i j p q (uG i p hp).2 (uG j q hq).2 e,λi p x hp hx=>?_⟩;obtain⟨hi,hp2⟩:=uG i p hp;obtain⟨b,b',m1,m2,m3⟩:=q3 i x hx;rcases m3 with⟨rfl,rfl⟩|m3
      ·have gQ:z.E[i]? =δ z.E[i]:=cC (by omega);exact Q6 held (hh.blk i _ x gQ m1) (h'.heap.blk i p x hp2 m2)
      ·exact aqP xx m3 (h'.heap.blk i p b' hp2 m2)
   have done:∀(hk:DL X s' fn.results.toList (λvs=>keep.run args σ (one vs) s'.σ)=δ (r,σ')),
     a'.defers=[]/\∃v,(results fn a'.tmps).run X.P w'=.ok v w'/\∃v' E',Ending.returned v=.returned v'/\Out z w' E'/\kL (ctx z w' E' eW) σ'/\ay (ctx z w' E' eW) r v':=by
    intro hk;refine⟨h'.defers,?_⟩;obtain⟨us,rQ,k1,k2,k3⟩:=WQ h' _ _ _ hk;obtain⟨v,k4,k5⟩:=amZ k1;have rv:=k5 _ _ k2;refine⟨v,k4,v,?_⟩
    have kept:∃E',Ending.returned v=.returned v/\Out z w' E'/\kL (ctx z w' E' eW) s'.σ/\ay (ctx z w' E' eW) (one rQ) v:=
     ⟨E',rfl,h'.out,h'.heap.mono hno rfl (λp hp=>rfl),YF hno _ _ rv⟩
    cases keep with
    |K=>simp only[vB.run,Θ,T4]at k3;obtain⟨rfl,rfl⟩:=k3;exact kept
    |F=>obtain⟨mF,q1,q2,q3⟩:=ahF _ _ _ _ rv k3;exact⟨mF,rfl,q1,q2,q3⟩
    |G=>obtain⟨mF,q1,q2,q3⟩:=DD _ _ _ _ rv k3;exact⟨mF,rfl,q1,q2,q3⟩
    |N g=>simp only[vB.run]at k3;obtain⟨⟨r0,aL⟩,k6,k7⟩:=fF.1 k3;simp only[T4]at k7;obtain⟨rfl,rfl⟩:=k7;obtain⟨mF,q1,q2,q3⟩:=ahF _ _ _ _ rv k6;exact⟨mF,rfl,q1,q2,hkeep _ _ _ q3⟩
    |R=>
     simp only[vB.run]at k3;obtain⟨x,hx⟩:∃x,x=one rQ:=⟨_,rfl⟩
     rw[<-hx]at rv k3 kept;unfold ZD at k3;split at k3
     ·rename_i id g sz off len;split at k3
      ·rename_i g' sz' es hs';split at k3
       ·rename_i hc;obtain⟨rfl,rfl,hle,azP⟩:=hc;simp only[ay]at rv;obtain⟨hg,p,e1,e2,qa,cp,rfl,hcap,rx⟩:=rv;obtain⟨j1,j2,j3,j4,⟨arr,bt,j5,j6⟩,j7,j8,j9⟩:=h'.heap.blk id p _ e1 hs';obtain⟨q1,q2,q3⟩:=rx j1.symm;have hid:id<E'.length:=(bG.1 e1).1;have pP:((es.drop off).take len).length=len:=by simp;omega
        have hmul:(off+len)*sz<=es.length*sz:=tM _ hle;rw[iG]at hmul;split at k3
        ·simp only[Θ,T4]at k3;obtain⟨rfl,rfl⟩:=k3
         have oV:=h'.move (id:=id) (p:=p) (p':=⟨p.b,p.base+off*sz,XD args+1,sz,p.vM⟩) (w':=w') (blk:=.arr (XD args+1) sz ((es.drop off).take len)) e1
          ⟨by omega,by show p.g<XD args+1;omega⟩ rfl rfl rfl (bN _) (λb _ _=>rfl) (.inl rfl) (λhx=>by
           refine⟨rfl,by show 0<XD args+1;omega,rfl,j4,⟨arr,bt,j5,j6⟩,?_,?_,j9⟩
           ·rw[pP];show p.base+off*sz+len*sz<=p.vM;omega
           ·exact cA.mono hx sz p.b rfl _ _ ((j8.drop off).take len))
         have axu:Ext (ctx z w' (E'.set id ⟨p.b,p.base+off*sz,XD args+1,sz,p.vM⟩) dN) (ctx z w' (E'.set id ⟨p.b,p.base+off*sz,XD args+1,sz,p.vM⟩) eW):=Ext.same rfl rfl (λb k=>by
          rcases k with k|k|⟨i,k⟩
          ·exact .inl k
          ·exact .inr (.inl k)
          ·cases k) rfl
         refine⟨_,rfl,oV.1.out,oV.1.heap.mono axu rfl (λp hp=>rfl),?_⟩;simp only[ay];refine⟨by omega,⟨p.b,p.base+off*sz,XD args+1,sz,p.vM⟩,by simp [ctx,hid],bN _,qa,cp,rfl,hcap,λ_=>⟨rfl,?_,?_⟩⟩
         ·rcases q2 with q2|q2
          ·exact .inl q2
          ·exact .inr (by rw[q2,q1];simp)
         ·simp only[YW];rw[q1,iG]at q3;omega
        ·unfold A.merge at k3;split at k3
         ·rename_i mW g0 az3 tQ aCp rest _ _ _;split at k3
          ·rename_i g1 Es Aj hs0;split at k3
           ·rename_i E1;obtain⟨azN,azp,rfl,hg1,hsame,hF,axD⟩:=E1;simp only[Θ,T4]at k3;obtain⟨rfl,rfl⟩:=k3;have hzl:z.E.length=σ.length:=hh.len;have hEl:E'.length=s'.σ.length:=h'.heap.len;have axk:mW<σ.length:=(bG.1 hs0).1;obtain⟨pz,KV⟩:∃pz,z.E[mW]? =δ pz:=⟨_,cC (by omega)⟩
            obtain⟨y1,y2,y3,y4,y5,y6,y7,y8⟩:=hh.blk mW pz _ KV hs0;obtain⟨p'',A8⟩:∃p'':Pl,p''=⟨p.b,p.base+off*Es,XD (.os mW g0 az3 tQ aCp::rest)+1,Es,p.vM⟩:=⟨_,rfl⟩
            have hne:id≠mW:=by omega
            have ahh:∀(j:Nat)(q p2:Pl),j≠mW->z.E[j]? =δ q->E'[j]? =δ p2->p2=q:=by
             intro j q p2 hj hq hp2;have hjl:j<σ.length:=by rw[<-hzl];exact(bG.1 hq).1
             obtain⟨p3,m1,m2⟩:=h'.out.env j q hq;rw[hp2]at m1;injection m1 with m1;subst m1
             rcases m2 with m2|⟨m2,m3⟩
             ·exact m2
             ·have hsj:=hsame j hjl hj;have hx0:σ[j]? =δ σ[j]:=cC hjl;have u1:=W8 (hh.blk j q _ hq hx0);have u2:=W8 (h'.heap.blk j p2 _ hp2 (by rw[hsj];exact hx0));omega
            have vV:∃p0,E'[mW]? =δ p0:=⟨_,cC (by omega)⟩
            obtain⟨p0,vV⟩:=vV;have azQ:p0.g=g1:=W8 (h'.heap.blk mW p0 _ vV hF)
            have hfr:z.w.heap.size<=p.b:=by
             rcases h'.out.fresh' id p e1 with k|⟨q,hq,_⟩
             ·exact k
             ·rw[rK (by omega)]at hq;cases hq
            have hm:p∈E':=dm e1
            have hx:Ext (ctx z w' E' dN) (ctx z w' (E'.set mW p'') eW):=by
             refine⟨bN _,λb hb hn=>⟨rfl,?_⟩,λj q hq=>?_,rfl⟩
             ·rintro(k|⟨q,hq,k⟩|⟨i,k⟩)
              ·exact hn (.inl k)
              ·rcases List.mem_or_eq_of_mem_set hq with hq|hq
               ·exact hn (.inr (.inl ⟨q,hq,k⟩))
               ·exact hn (.inr (.inl ⟨p,hm,by rw[<-k,hq,A8]⟩))
              ·cases k
             ·by_cases e:mW=j
              ·subst e;simp only[ctx]at hq;rw[vV]at hq;injection hq with hq;subst hq
               exact⟨p'',by simp only[ctx];rw[nv (bG.1 vV).1],.inr ⟨by omega,by rw[A8];show p0.g<XD (.os mW g0 az3 tQ aCp::rest)+1;omega⟩⟩
              ·exact⟨q,by simp only[ctx]at hq ⊢;rw[XX e];exact hq,.inl rfl⟩
            have Ov:∀(j:Nat)(q:Pl),(z.E.set mW p'')[j]? =δ q->(j=mW/\q=p'')\/(j≠mW/\z.E[j]? =δ q):=λj q hq=>by
             by_cases e:mW=j
             ·subst e;rw[nv (bG.1 KV).1]at hq;injection hq with hq;exact .inl ⟨rfl,hq.symm⟩
             ·rw[XX e]at hq;exact .inr ⟨λe'=>e e'.symm,hq⟩
            have hE3:∀(j:Nat)(q:Pl),j≠mW->z.E[j]? =δ q->E'[j]? =δ q:=λj q hj hq=>by have hjl:j<z.E.length:=(bG.1 hq).1;obtain⟨p3,m1,_⟩:=h'.out.env j q hq;rw[m1,ahh j q p3 hj hq m1]
            have held:Bf (ctx z z.w z.E eW) (ctx z w' (E'.set mW p'') eW) (ctx z w' (z.E.set mW p'') eW):=by
             refine⟨rfl,rfl,λb k=>?_,λj q0 q hq0 hq=>?_⟩
             ·rcases k with k|⟨q,hq,k⟩|⟨i,k⟩
              ·exact .inl k
              ·obtain⟨j,hj⟩:=uy.1 hq;rcases Ov j q hj with⟨e3,e4⟩|⟨e3,e4⟩
               ·subst e3;exact .inr (.inl ⟨q,dm (i:=j) (by rw[nv (bG.1 vV).1,e4]),k⟩)
               ·exact .inr (.inl ⟨q,dm (i:=j) (by rw[XX (λe=>e3 e.symm)];exact hE3 j q e3 e4),k⟩)
              ·cases k
             ·simp only[ctx]at hq0 hq ⊢;by_cases e:mW=j
              ·subst e;rw[nv (bG.1 vV).1]at hq;rw[nv (bG.1 KV).1];exact hq
              ·rw[XX e]at hq ⊢;rw[ahh j q0 q (λe'=>e e'.symm) hq0 hq];exact hq0
            refine⟨z.E.set mW p'',rfl,?_,?_,?_⟩
            ·have o:=h'.out;refine⟨o.os,o.tape,o.output,o.size,o.stay,λj q hq=>?_,λj q hq=>?_,o.lt,o.mine⟩
             ·rcases Ov j q hq with⟨e3,e4⟩|⟨e3,e4⟩
              ·left;rw[e4,A8];exact hfr
              ·exact .inr ⟨q,e4,rfl⟩
             ·by_cases e:mW=j
              ·subst e;rw[KV]at hq;injection hq with hq;subst hq
               exact⟨p'',nv (bG.1 KV).1,.inr ⟨by omega,by rw[A8];show pz.g<XD (.os mW g0 az3 tQ aCp::rest)+1;omega⟩⟩
              ·exact⟨q,by rw[XX e];exact hq,.inl rfl⟩
            ·refine⟨by simp [ctx,hzl],λi j q r hq hr he=>?_,λi q x hq eZ=>?_⟩
             ·have ahL:∀(j:Nat)(q:Pl),z.E[j]? =δ q->q.b<z.w.heap.size:=λj q hq=>hh.lt (p:=q) (dm hq)
              rcases Ov i q hq with⟨e3,e4⟩|⟨e3,e4⟩<;>rcases Ov j r hr with⟨e5,e6⟩|⟨e5,e6⟩
              ·rw[e3,e5]
              ·have:=ahL j r e6;rw[e4,A8]at he;simp only at he;omega
              ·have:=ahL i q e4;rw[e6,A8]at he;simp only at he;omega
              ·exact hh.inj i j q r e4 e6 he
             ·rcases Ov i q hq with⟨e3,e4⟩|⟨e3,e4⟩
              ·subst e3;rw[nv axk]at eZ;injection eZ with eZ
               subst eZ;subst e4;subst A8;refine⟨rfl,Nat.succ_pos _,rfl,j4,⟨arr,bt,j5,j6⟩,?_,?_,j9⟩
               ·rw[pP];show p.base+off*Es+len*Es<=p.vM;omega
               ·refine afc held Es p.b _ _ (λy hy=>?_) (cA.mono hx Es p.b rfl _ _ ((j8.drop off).take len));rcases axD y hy with k|k
                ·obtain⟨i,hi⟩:=uy.1 k;exact⟨_,_,(cA.nth y7 hi).2⟩
                ·exact aeT ha y k
              ·rw[XX (λe=>e3 e.symm)]at eZ;have hil:i<σ.length:=(bG.1 eZ).1;exact Q6 held (hh.blk i q x e4 eZ) ((h'.heap.blk i q x (hE3 i q e3 e4) (by rw[hsame i hil e3];exact eZ)).mono hx rfl)
            ·simp only[ay];refine⟨Nat.succ_pos _,p'',by simp only[ctx];exact nv (bG.1 KV).1,by rw[A8];exact bN _,qa,cp,by rw[pP],by rw[pP];exact hcap,λ_=>⟨by rw[A8],?_,?_⟩⟩
             ·rcases q2 with q2|q2
              ·exact .inl q2
              ·exact .inr (by rw[q2,q1,A8];simp)
             ·rw[A8];simp only[YW];rw[q1,iG]at q3;omega
           ·cases k3
          ·cases k3
         ·cases k3
       ·cases k3
      ·cases k3
     ·simp only[Θ,T4]at k3;obtain⟨rfl,rfl⟩:=k3;exact kept
     ·simp only[Θ,T4]at k3;obtain⟨rfl,rfl⟩:=k3;exact kept
     ·simp only[Θ,T4]at k3;obtain⟨rfl,rfl⟩:=k3;exact kept
     ·cases k3
   cases e with
   |normal=>exact done hk
   |ret=>exact done hk
   |exit i=>cases hk
end
end
section
open Go.RowKit
inductive Sh where
 |k
 |s(sz:Nat)
 |e(sz:Nat)(l:List Sh)
 |a(l:List Sh)
 |t(l:List Sh)
 |p(l:List Sh)
namespace A
mutual
def nn:Sh->AV->AV
 |.k,v=>v
 |.s sz,v=>match v with|.aA=>.sl sz []|.ez=>.sl sz []|v=>v
 |.e sz l,v=>match v with|.aA=>.sl sz []|.ez=>.sl sz []|.sl sz' es=>.sl sz' (es.map (dw l))|v=>v
 |.a l,v=>match v with|.agg cs=>.agg (dw l cs)|v=>v
 |.t l,v=>match v with|.aM vs=>.aM (dw l vs)|v=>v
 |.p l,v=>match v with|.rp cs=>.rp (dw l cs)|v=>v
def dw:List Sh->List AV->List AV
 |[],vs=>vs
 |s::ss,vs=>match vs with|[]=>[]|v::vs=>nn s v::dw ss vs
end
def Zi:AV->Bool
 |.os ..=>θ
 |.op ..=>θ
 |.oe ..=>θ
 |.om ..=>θ
 |_=>ι
def own:AV->Bool
 |.agg cs=>cs.any Zi
 |v=>Zi v
def uv:AV->Bool
 |.int ..=>θ
 |.bool ..=>θ
 |.str ..=>θ
 |.np=>θ
 |.aA=>θ
 |.ez=>θ
 |.nm=>θ
 |.CB=>θ
 |.sl _ []=>θ
 |_=>ι
def yB:AV->Bool
 |.agg cs=>cs.all uv
 |v=>uv v
def Ht:AV->Bool
 |.aM vs=>vs.all yB
 |v=>yB v
def fresh(v:AV):Bool:=match v with
 |.os ..=>θ
 |.om _=>θ
 |v=>yB v
def B6:AV->Bool
 |.aM vs=>vs.all fresh
 |v=>fresh v
def AK:aW->Bool
 |.box cs=>cs.all uv
 |.arr _ _ es=>es.all λe=>e.all uv
 |.map es=>es.all λp=>yB p.1&&yB p.2
 |_=>ι
def shift(n:Nat)(v:AV):AV:=match v with
 |.os id g sz off len=>.os (id+n) g sz off len
 |.om id=>.om (id+n)
 |v=>v
def AP(n:Nat):AV->AV
 |.aM vs=>.aM (vs.map (shift n))
 |v=>shift n v
def wrap (ro:Bool) (fN:List Sh) (iU:Sh) (r:List AV->Heap->Option (AV×Heap)) (args:List AV) (σ:Heap):Option (AV×Heap):=bif ro&&args.any own then (gP σ 0 8 args).bind λargs=>(r (dw fN args) []).bind λq=>bif B6 (nn iU q.1)&&q.2.all AK then δ (AP σ.length (nn iU q.1),σ++q.2)else μ else(r (dw fN args) σ).map λq=>(nn iU q.1,q.2)
def nS (sh:Sh) (m:List AV->Heap->Option (AV×Heap)) (args:List AV) (σ:Heap):Option (AV×Heap):=(m args σ).bind λp=>(fin σ p.1 p.2).map λq=>(nn sh q.1,q.2)
def xu (m:List AV->Heap->Option (AV×Heap)) (args:List AV) (σ:Heap):Option (AV×Heap):=match args with
 |[.sl _ []]=>δ (.ez,σ)
 |[.aA]=>δ (.ez,σ)
 |[.ez]=>δ (.ez,σ)
 |[.os _ _ _ _ 0]=>δ (.ez,σ)
 |_=>m args σ
end A
def Sound(P:Program)(nm:List Nat)(f:FuncId)(m:List AV->Heap->Option (AV×Heap)):Prop:=∀args σ r σ',m args σ=δ (r,σ')->rE P nm f args σ r σ'
section
variable {P : Program} {nm : List Nat} {f : FuncId} {c c' : RC}
theorem agx{v:Value}(sz:Nat)(hsz:0<sz)(h:ay c .aA v):ay c (.sl sz []) v:=by simp only[ay]at h ⊢;subst h;exact⟨μ,0,rfl,bN _,hsz,.inl trivial⟩
theorem ahc{v:Value}(sz:Nat)(hsz:0<sz)(h:ay c .ez v):ay c (.sl sz []) v:=by simp only[ay]at h ⊢;obtain⟨a,rfl⟩:=h;exact⟨a,0,rfl,bN _,hsz,.inl trivial⟩
mutual
def Sh.ok:Sh->Bool
 |.k=>θ
 |.s sz=>ZQ 0 sz
 |.e sz l=>ZQ 0 sz&&Sh.fZ l
 |.a l=>Sh.fZ l
 |.t l=>Sh.fZ l
 |.p l=>Sh.fZ l
def Sh.fZ:List Sh->Bool
 |[]=>θ
 |x::l=>x.ok&&Sh.fZ l
end
theorem afv:∀(l:List Sh)(cs:List AV),(A.dw l cs).length=cs.length
 |[],cs=>by simp [A.dw]
 |_::_,[]=>by simp [A.dw]
 |o::l,v::cs=>by simp [A.dw,afv l cs]
mutual
theorem GN:∀(s:Sh)(a:AV)(v:Value),s.ok=θ->ay c a v->ay c (A.nn s a) v
 |.k,a,v,_,h=>by simpa [A.nn]using h
 |.s sz,a,v,ho,h=>by cases a<;>simp only[A.nn]<;>first|exact h|exact agx sz (by simpa [Sh.ok]using ho) h|exact ahc sz (by simpa [Sh.ok]using ho) h
 |.e sz l,a,v,ho,h=>by
  simp only[Sh.ok,jW]at ho;cases a<;>simp only[A.nn]<;>first|exact h|exact agx sz (by simpa using ho.1) h|exact ahc sz (by simpa using ho.1) h|skip
  simp only[ay]at h ⊢;obtain⟨a,cap,e,h1,h2,h3⟩:=h;refine⟨a,cap,by rw[X1];exact e,by rw[X1];exact h1,h2,?_⟩;rcases h3 with h3|⟨b,off,e1,e2,e3,e4⟩
  ·left;rw[h3];rfl
  ·right;exact⟨b,off,e1,e2,e3,agv l ho.2 _ _ e4⟩
 |.a l,a,v,ho,h=>by
  simp only[Sh.ok]at ho;cases a<;>simp only[A.nn]<;>first|exact h|skip
  simp only[ay]at h ⊢;obtain⟨vs,e,h1,h2⟩:=h;exact⟨vs,e,MG l _ _ ho h1,h2⟩
 |.t ss,a,v,ho,h=>by
  simp only[Sh.ok]at ho;cases a<;>simp only[A.nn]<;>first|exact h|skip
  simp only[ay]at h ⊢;obtain⟨vs,e,h1⟩:=h;exact⟨vs,e,MG ss _ _ ho h1⟩
 |.p l,a,v,ho,h=>by
  simp only[Sh.ok]at ho;cases a<;>simp only[A.nn]<;>first|exact h|skip
  simp only[ay]at h ⊢;obtain⟨b,off,e,h1,h2,h3⟩:=h;exact⟨b,off,e,h1,h2,XN l _ _ ho h3⟩
theorem MG:∀(ss:List Sh)(l:List AV)(vs:List Value),Sh.fZ ss=θ->aX c l vs->aX c (A.dw ss l) vs
 |[],l,vs,_,h=>by simpa [A.dw]using h
 |_::_,[],vs,_,h=>by simpa [A.dw]using h
 |s::ss,a::l,vs,ho,h=>by simp only[Sh.fZ,jW]at ho;simp only[A.dw,aX]at h ⊢;obtain⟨v,vs',e,h1,h2⟩:=h;exact⟨v,vs',e,GN s a v ho.1 h1,MG ss l vs' ho.2 h2⟩
theorem XN{b:Nat}:∀(l:List Sh)(cs:List AV)(off:Nat),Sh.fZ l=θ->bY c b off cs->bY c b off (A.dw l cs)
 |[],cs,off,_,h=>by simpa [A.dw]using h
 |_::_,[],off,_,h=>by simpa [A.dw]using h
 |o::l,a::cs,off,ho,h=>by simp only[Sh.fZ,jW]at ho;simp only[A.dw,bY]at h ⊢;obtain⟨⟨v,h1,h2,h3⟩,h4⟩:=h;exact⟨⟨v,h1,h2,GN o a v ho.1 h3⟩,XN l cs (off+1) ho.2 h4⟩
theorem agv{sz b:Nat}(l:List Sh)(hl:Sh.fZ l=θ):∀(es:List (List AV))(off:Nat),cA c sz b off es->cA c sz b off (es.map (A.dw l))
 |[],off,h=>by simp [cA]
 |e::es,off,h=>by simp only[eP,cA]at h ⊢;exact⟨by rw[afv];exact h.1,XN l e off hl h.2.1,agv l hl es _ h.2.2⟩
end
theorem Wv:∀{a:AV}{v:Value},A.uv a=θ->ay c a v->ay c' a v:=by
 intro a v h r;cases a<;>simp only[A.uv]at h<;>first|(cases h;done)|skip
 case sl sz es=>
  cases es with
  |nil=>simp only[ay]at r ⊢;obtain⟨q,cap,e,h1,h2,_⟩:=r;exact⟨q,cap,e,h1,h2,.inl trivial⟩
  |cons _ _=>simp at h
 all_goals simpa [ay]using r
theorem acL:∀{l:List AV}{vs:List Value},l.all A.uv=θ->aX c l vs->aX c' l vs
 |[],vs,_,r=>by simpa [aX]using r
 |a::l,vs,h,r=>by simp only[aDz,jW]at h;simp only[aX]at r ⊢;obtain⟨v,vs',e,h1,h2⟩:=r;exact⟨v,vs',e,Wv h.1 h1,acL h.2 h2⟩
theorem Ww{a:AV}{v:Value}(h:A.yB a=θ)(r:ay c a v):ay c' a v:=by
 unfold A.yB at h;split at h
 ·simp only[ay]at r ⊢;obtain⟨vs,e,h1,h2⟩:=r;exact⟨vs,e,acL h h1,h2⟩
 ·exact Wv h r
theorem rE.conv{args args':List AV}{σ σ':Heap}{r r':AV}(h:rE P nm f args' σ r σ')(ha:∀c vs,aX c args vs->aX c args' vs)(hr:∀c v,ay c r v->ay c r' v):rE P nm f args σ r' σ':=by
 rcases h with⟨g,h1,h2⟩|h
 ·refine .inl ⟨g,h1,λz vs e1 e2 e3 e4=>(h2 z vs e1 e2 e3 (ha _ _ e4)).mono ?_⟩;rintro e w' ⟨v,E',k1,k2,k3,k4⟩;exact⟨v,E',k1,k2,k3,hr _ _ k4⟩
 ·refine .inr λz vs e1 e2 e3 e4=>?_
  obtain⟨v,w',E',k1,k2,k3,k4⟩:=h z vs e1 e2 e3 (ha _ _ e4);exact⟨v,w',E',k1,k2,k3,hr _ _ k4⟩
theorem adT{z0 z:Z}{w':World}{E':List Pl}{n:Nat}(hn:n=z.E.length){a:AV}{v:Value}(h:A.fresh a=θ)(r:ay (ctx z0 w' E' eW) a v):ay (ctx z w' (z.E++E') eW) (A.shift n a) v:=by
 have key:∀(id:Nat)(p:Pl),E'[id]? =δ p->(z.E++E')[id+n]? =δ p:=λid p hp=>by rw[jq (by omega),hn,Nat.add_sub_cancel];exact hp
 unfold A.fresh at h;unfold A.shift;split at h
 ·simp only[ay]at r ⊢;obtain⟨hg,p,h1,h2,r⟩:=r;exact⟨hg,p,key _ _ h1,h2,r⟩
 ·simp only[ay]at r ⊢;obtain⟨p,h1,h2,r⟩:=r;exact⟨p,key _ _ h1,h2,r⟩
 ·exact Ww h r
theorem anf{z0 z:Z}{w':World}{E':List Pl}{n:Nat}(hn:n=z.E.length){vs:List AV}{v:Value}(h:vs.all A.fresh=θ)(r:ay (ctx z0 w' E' eW) (.aM vs) v):ay (ctx z w' (z.E++E') eW) (A.AP n (.aM vs)) v:=by
 simp only[ay,A.AP]at r ⊢;obtain⟨us,rfl,r⟩:=r;refine⟨us,rfl,?_⟩;generalize us.toList=us' at r ⊢;induction vs generalizing us' with
 |nil=>simpa [aX]using r
 |cons x l ih=>simp only[aDz,jW]at h;simp only[aX,eP]at r ⊢;obtain⟨v,vs',e,h1,h2⟩:=r;exact⟨v,vs',e,adT hn h.1 h1,ih h.2 _ h2⟩
theorem aoz{z0 z:Z}{w':World}{E':List Pl}{n:Nat}(hn:n=z.E.length){a:AV}{v:Value}(h:A.B6 a=θ)(r:ay (ctx z0 w' E' eW) a v):ay (ctx z w' (z.E++E') eW) (A.AP n a) v:=by
 by_cases ht:∃vs,a=.aM vs
 ·obtain⟨vs,rfl⟩:=ht;exact anf hn h r
 ·have e1:A.B6 a=A.fresh a:=by cases a<;>first|rfl|exact absurd ⟨_,rfl⟩ ht
  have e2:A.AP n a=A.shift n a:=by cases a<;>first|rfl|exact absurd ⟨_,rfl⟩ ht
  rw[e1]at h;rw[e2];exact adT hn h r
theorem VL{b:Nat}:∀{l:List AV}{off:Nat},l.all A.uv=θ->c'.w=c.w->bY c b off l->bY c' b off l
 |[],off,_,_,_=>by simp [bY]
 |a::l,off,h,hw,r=>by simp only[aDz,jW]at h;simp only[bY]at r ⊢;obtain⟨⟨v,h1,h2,h3⟩,h4⟩:=r;exact⟨⟨v,by rw[hw];exact h1,h2,Wv h.1 h3⟩,VL h.2 hw h4⟩
theorem abV{sz b:Nat}:∀{l:List (List AV)}{off:Nat},(l.all λe=>e.all A.uv)=θ->c'.w=c.w->cA c sz b off l->cA c' sz b off l
 |[],off,_,_,_=>by simp [cA]
 |a::l,off,h,hw,r=>by simp only[aDz,jW]at h;simp only[cA]at r ⊢;obtain⟨h1,h2,h3⟩:=r;exact⟨h1,VL h.1 hw h2,abV h.2 hw h3⟩
theorem acM:∀{l:List (AV×AV)}{es:List MapEntry},(l.all λp=>A.yB p.1&&A.yB p.2)=θ->eB c l es->eB c' l es
 |[],es,_,r=>by simpa [eB]using r
 |(k,v)::l,es,h,r=>by simp only[aDz,jW]at h;simp only[eB]at r ⊢;obtain⟨e,es',h1,h2,h3,h4⟩:=r;exact⟨e,es',h1,Ww h.1.1 h2,Ww h.1.2 h3,acM h.2 h4⟩
theorem anO{p:Pl}{x:aW}(h:A.AK x=θ)(hw:c'.w=c.w)(r:ur c p x):ur c' p x:=by
 cases x with
 |box cs=>obtain⟨h1,⟨⟨arr,t,h2,h3⟩,h4⟩⟩:=r;exact⟨h1,⟨arr,t,by rw[hw];exact h2,h3⟩,VL h hw h4⟩
 |arr g sz es=>obtain⟨h1,h2,h3,h4,⟨arr,t,h5,h6⟩,h7,h8,h9⟩:=r;exact⟨h1,h2,h3,h4,⟨arr,t,by rw[hw];exact h5,h6⟩,h7,abV h hw h8,λarr t fz e=>h9 arr t fz (by rw[<-hw];exact e)⟩
 |map es=>obtain⟨h1,bP,aK,h2,hwf,h3⟩:=r;exact⟨h1,bP,aK,by rw[hw];exact h2,hwf,acM h h3⟩
 |sB g sz es=>cases h
 |it cur left=>cases h
theorem aez{z:Z}{σ σ':Heap}{r:AV}{v:Value}{w':World}{E':List Pl}(e2:∀b,z.X b->b<z.w.heap.size)(hh:kL (ctx z z.w z.E eW) σ)(hv:A.B6 r=θ)(hb:σ'.all A.AK=θ)
  (k2:Out ⟨z.w,[],λ_=>False,z.nm⟩ w' E') (k3:kL (ctx ⟨z.w,[],λ_=>False,z.nm⟩ w' E' eW) σ') (k4:ay (ctx ⟨z.w,[],λ_=>False,z.nm⟩ w' E' eW) r v):
  ∃mF,Out z w' mF/\kL (ctx z w' mF eW) (σ++σ')/\ay (ctx z w' mF eW) (A.AP σ.length r) v:=by
 have hlen:z.E.length=σ.length:=hh.len;have hlen':E'.length=σ'.length:=k3.len;have hst:∀b,b<z.w.heap.size->w'.heap[b]? =z.w.heap[b]? :=λb hb=>k2.stay b hb (λp hp=>by cases hp)
 have hlt:∀p∈z.E,p.b<z.w.heap.size:=λp hp=>hh.lt hp
 have hfr:∀p∈E',z.w.heap.size<=p.b:=λp hp=>by
  rcases k2.fresh p hp with k|⟨q,hq,_⟩
  ·exact k
  ·cases hq
 have hx:Ext (ctx z z.w z.E eW) (ctx z w' (z.E++E') eW):=by
  refine⟨k2.size,λb hb hn=>⟨hst b hb,?_⟩,λi p hp=>⟨p,?_,.inl rfl⟩,rfl⟩
  ·rintro(k|⟨p,hp,k⟩|⟨i,k⟩)
   ·exact hn (.inl k)
   ·rcases jQ.1 hp with hp|hp
    ·exact hn (.inr (.inl ⟨p,hp,k⟩))
    ·have:=hfr p hp;simp only[ctx]at hb;omega
   ·cases k
  ·simp only[ctx]at hp ⊢;rw[iS (bG.1 hp).1];exact hp
 have key:∀(i:Nat)(p:Pl),(z.E++E')[i]? =δ p->(i<z.E.length/\z.E[i]? =δ p)\/(z.E.length<=i/\E'[i-z.E.length]? =δ p):=λi p hp=>by
  by_cases hi:i<z.E.length
  ·rw[iS hi]at hp;exact .inl ⟨hi,hp⟩
  ·rw[jq (by omega)]at hp;exact .inr ⟨by omega,hp⟩
 refine⟨z.E++E',⟨k2.os,k2.tape,k2.output,k2.size,λb hb _=>hst b hb,λi p hp=>?_,λi p hp=>⟨p,?_,.inl rfl⟩,e2,hlt⟩,⟨by simp [ctx,hlen,hlen'],λi j p q hp hq e=>?_,λi p x hp eZ=>?_⟩,aoz hlen.symm hv k4⟩
 ·rcases key i p hp with⟨_,k⟩|⟨_,k⟩
  ·exact .inr ⟨p,k,rfl⟩
  ·exact .inl (hfr p (dm k))
 ·rw[iS (bG.1 hp).1];exact hp
 ·simp only[ctx]at hp hq;rcases key i p hp with⟨i1,k⟩|⟨i1,k⟩<;>rcases key j q hq with⟨j1,m⟩|⟨j1,m⟩
  ·exact hh.inj i j p q k m e
  ·have:=hlt p (dm k);have:=hfr q (dm m);omega
  ·have:=hlt q (dm m);have:=hfr p (dm k);omega
  ·have:=k3.inj _ _ p q k m e;omega
 ·simp only[ctx]at hp;rcases key i p hp with⟨i1,k⟩|⟨i1,k⟩
  ·rw[iS (by omega)]at eZ;exact(hh.blk i p x k eZ).mono hx (hst _ (hlt p (dm k)))
  ·rw[jq (by omega),<-hlen]at eZ;exact anO (c:=ctx ⟨z.w,[],λ_=>False,z.nm⟩ w' E' eW) (rN.1 hb x (dm eZ)) rfl (k3.blk _ p x k eZ)
theorem rE.Bb{args args':List AV}{σ σ':Heap}{r:AV}(h:rE P nm f args' [] r σ')(ha:A.gP σ 0 8 args=δ args')(hv:A.B6 r=θ)(hb:σ'.all A.AK=θ):rE P nm f args σ (A.AP σ.length r) (σ++σ'):=by
 have hX:∀(z:Z)b,¬(ctx ⟨z.w,[],λ_=>False,z.nm⟩ z.w [] eW).X b:=by
  rintro z b (k|⟨p,hp,_⟩|⟨i,k⟩)
  ·exact k.elim
  ·cases hp
  ·cases k
 have xx:∀(z:Z),kL (ctx z z.w z.E eW) σ->AU (ctx z z.w z.E eW) (ctx ⟨z.w,[],λ_=>False,z.nm⟩ z.w [] eW) σ 0:=λz hh=>
  ⟨rfl,rfl,λb k=>(hX z b k).elim,λid p k=>absurd k (aCX _),hh,λid p _ _=>hX z _⟩
 have h0:∀(z:Z),kL (ctx ⟨z.w,[],λ_=>False,z.nm⟩ z.w [] eW) []:=λz=>by
  refine⟨rfl,λi j p q hp=>?_,λi p x hp=>?_⟩
  ·simp [ctx]at hp
  ·simp [ctx]at hp
 rcases h with⟨g,h1,h2⟩|h2
 ·refine .inl ⟨g,h1,λz vs e1 e2 hh e4=>?_⟩;have ha':aX (ctx ⟨z.w,[],λ_=>False,z.nm⟩ z.w [] eW) args' vs.toList:=Jz (xx z hh) 8 (λav fk v _ e r=>BX (xx z hh) 8 _ _ _ e r) _ _ _ ha e4;refine(h2 ⟨z.w,[],λ_=>False,z.nm⟩ vs e1 (λb k=>k.elim) (h0 z) ha').mono ?_;rintro e w' ⟨v,E',k1,k2,k3,k4⟩;obtain⟨mF,q1,q2,q3⟩:=aez e2 hh hv hb k2 k3 k4;exact⟨v,mF,k1,q1,q2,q3⟩
 ·refine .inr λz vs e1 e2 hh e4=>?_
  have ha':aX (ctx ⟨z.w,[],λ_=>False,z.nm⟩ z.w [] eW) args' vs.toList:=Jz (xx z hh) 8 (λav fk v _ e r=>BX (xx z hh) 8 _ _ _ e r) _ _ _ ha e4;obtain⟨v,w',E',k1,k2,k3,k4⟩:=h2 ⟨z.w,[],λ_=>False,z.nm⟩ vs e1 (λb k=>k.elim) (h0 z) ha';obtain⟨mF,q1,q2,q3⟩:=aez e2 hh hv hb k2 k3 k4;exact⟨v,w',mF,k1,q1,q2,q3⟩
theorem aff{z:Z}{w':World}{E':List Pl}{σ σ1 σ':Heap}{x r:AV}{v:Value}(hh:kL (ctx z z.w z.E eW) σ)(hlt:∀b,z.X b->b<z.w.heap.size)(ho:Out z w' E')(hr:kL (ctx z w' E' eW) σ1)(rv:ay (ctx z w' E' eW) x v)(k3:wh σ x σ1=δ (r,σ')):
  ∃mF,Out z w' mF/\kL (ctx z w' mF eW) σ'/\ay (ctx z w' mF eW) r v:=by
 unfold wh at k3;split at k3
 ·rename_i he;simp only[Θ,T4]at k3;obtain⟨rfl,rfl⟩:=k3;exact⟨E',ho,by rw[<-he];exact hr,rv⟩
 ·split at k3
  ·rename_i he;obtain⟨r',k6,k7⟩:=fF.1 k3;simp only[T4]at k7;obtain⟨rfl,rfl⟩:=k7;have hlen:=hr.len;simp only[ctx]at hlen;have hzl:z.E.length=σ.length:=hh.len
   have hle2:σ.length<=σ1.length:=by have:=congrArg WD he;simp at this;omega
   have vW:∀(id:Nat)(p:Pl),id<σ.length->E'[id]? =δ p->(E'.take σ.length)[id]? =δ p:=λid p hlt' hp=>by rw[WG hlt'];exact hp
   have uG:∀(id:Nat)(p:Pl),(E'.take σ.length)[id]? =δ p->id<σ.length/\E'[id]? =δ p:=λid p hp=>by
    rw[aCY]at hp;split at hp
    ·exact⟨by assumption,hp⟩
    ·cases hp
   have xx:AU (ctx z w' E' eW) (ctx z w' (E'.take σ.length) eW) σ1 σ.length:=by
    refine⟨rfl,rfl,λb k=>?_,vW,hr,λid p hge hp k=>?_⟩
    ·rcases k with k|⟨p,hp,k⟩|⟨i,k⟩
     ·exact .inl k
     ·exact .inr (.inl ⟨p,sA hp,k⟩)
     ·cases k
    ·rcases k with k|⟨q,hq,k⟩|⟨i,k⟩
     ·have hb:=hlt _ k;rcases ho.fresh' id p hp with e|⟨q,hq,_⟩
      ·omega
      ·rw[rK (by omega)]at hq;cases hq
     ·obtain⟨j,hj,rfl⟩:=T5.1 hq;obtain⟨h1,h2⟩:=uG j _ (cC hj);have:=hr.inj j id _ p h2 hp k;omega
     ·cases k
   have heq:∀(id:Nat),id<σ.length->σ[id]? =σ1[id]? :=λid hlt'=>by have h1:(List.take σ.length σ1)[id]? =σ1[id]? :=WG hlt';rw[he]at h1;exact h1
   have held:Bf (ctx z z.w z.E eW) (ctx z w' E' eW) (ctx z w' (E'.take σ.length) eW):=
    ⟨rfl,rfl,xx.X,λid p0 p e0 e1=>vW id p (by have:=(bG.1 e0).1;simp only[ctx]at this;omega) e1⟩
   refine⟨E'.take σ.length,?_,?_,BX xx 8 _ _ _ k6 rv⟩
   ·have o:=ho
    exact⟨o.os,o.tape,o.output,o.size,o.stay,λi p hp=>o.fresh' i p (uG i p hp).2,λi p hp=>by
     obtain⟨p',m1,m2⟩:=o.env i p hp
     exact⟨p',vW i p' (by have:=(bG.1 hp).1;omega) m1,m2⟩,o.lt,o.mine⟩
   ·refine⟨by simp only[ctx,rM];omega,λi j p q hp hq e=>hr.inj i j p q (uG i p hp).2 (uG j q hq).2 e,λi p x hp hx=>?_⟩;obtain⟨hi,hp2⟩:=uG i p hp;have gQ:z.E[i]? =δ z.E[i]:=cC (by omega);exact Q6 held (hh.blk i _ x gQ hx) (hr.blk i p x hp2 (by rw[<-heq i hi];exact hx))
  ·cases k3
theorem Sound.nS{m:List AV->Heap->Option (AV×Heap)}(h:Sound P nm f m)(sh:Sh)(hs:sh.ok=θ):Sound P nm f (A.nS sh m):=by
 intro args σ r σ' e;unfold A.nS at e;obtain⟨⟨x,σ1⟩,e1,e2⟩:=ct.1 e;obtain⟨⟨y,σ2⟩,e3,e4⟩:=fF.1 e2;simp only[T4]at e4;obtain⟨rfl,rfl⟩:=e4;rcases h _ _ _ _ e1 with⟨g,h1,h2⟩|h2
 ·refine .inl ⟨g,h1,λz vs k1 k2 hh k4=>?_⟩;refine(h2 z vs k1 k2 hh k4).mono ?_;rintro e w' ⟨v,E',q1,q2,q3,q4⟩;obtain⟨mF,p1,p2,p3⟩:=aff hh k2 q2 q3 q4 e3;exact⟨v,mF,q1,p1,p2,GN _ _ _ hs p3⟩
 ·refine .inr λz vs k1 k2 hh k4=>?_
  obtain⟨v,w',E',q1,q2,q3,q4⟩:=h2 z vs k1 k2 hh k4;obtain⟨mF,p1,p2,p3⟩:=aff hh k2 q2 q3 q4 e3;exact⟨v,w',mF,q1,p1,p2,GN _ _ _ hs p3⟩
theorem Sound.wrap{r:List AV->Heap->Option (AV×Heap)}(h:Sound P nm f r)(ro:Bool)(fN:List Sh)(iU:Sh)(hi:Sh.fZ fN=θ)(ho:iU.ok=θ):Sound P nm f (A.wrap ro fN iU r):=by
 intro args σ v σ' e;unfold A.wrap at e;cases hc:(ro&&args.any A.own)
 ·rw[hc]at e;simp only[bQ]at e;obtain⟨q,e1,e2⟩:=fF.1 e;injection e2 with e2 e3
  subst e2 e3;exact(h _ _ _ _ e1).conv (λc vs k=>MG _ _ _ hi k) (λc v k=>GN _ _ _ ho k)
 ·rw[hc]at e;simp only[cU]at e;obtain⟨args',e1,e2⟩:=ct.1 e;obtain⟨q,e3,e4⟩:=ct.1 e2;obtain⟨q1,q2⟩:=q;simp only at e4;cases hs:(A.B6 (A.nn iU q1)&&q2.all A.AK)
  ·rw[hs]at e4;cases e4
  ·rw[hs]at e4;simp only[cU,Θ,T4]at e4;obtain⟨rfl,rfl⟩:=e4;simp only[jW]at hs;exact((h _ _ _ _ e3).conv (args:=args') (λc vs k=>MG _ _ _ hi k) (λc v k=>GN _ _ _ ho k)).Bb e1 hs.1 hs.2
end
theorem fA.of{X:Fx}{t:List (FuncId×(List AV->Heap->Option (AV×Heap)))}(hc:X.call=Zw (λ_ _=>μ) t) (ht:∀p∈t,Sound X.P X.nm p.1 p.2) (hd:∀f,Sound X.P X.nm f (X.dyn (X.nm.getD f 0))):fA X:=by
 refine⟨λf args σ r σ' h=>?_,λf=>hd f⟩;rw[hc]at h;clear hc;induction t with
 |nil=>cases h
 |cons p t ih=>
  obtain⟨m,x⟩:=p;simp only[Zw]at h;cases hm:(f==m)
  ·rw[hm]at h;exact ih (λp hp=>ht p (tN _ hp)) h
  ·rw[hm]at h;have:f=m:=by simpa using hm
   subst this;exact ht (f,x) (YJ) _ _ _ _ h
theorem Sound.none{P:Program}{nm:List Nat}{f:FuncId}:Sound P nm f (λ_ _=>Option.none):=λ_ _ _ _ h=>by cases h
theorem aG.nil{P:Program}{nm:List Nat}:∀p∈([]:List (FuncId×(List AV->Heap->Option (AV×Heap)))),Sound P nm p.1 p.2:=λ_ h=>by cases h
theorem aG.cons{P:Program}{nm:List Nat}{f:FuncId}{m:List AV->Heap->Option (AV×Heap)}{l:List (FuncId×(List AV->Heap->Option (AV×Heap)))}(h:Sound P nm f m)(t:∀p∈l,Sound P nm p.1 p.2):∀p∈(f,m)::l,Sound P nm p.1 p.2:=
 λp hp=>by rcases jP.1 hp with rfl|hp;exact h;exact t p hp
theorem ko.nil{P:Program}{nm:List Nat}:∀p∈([]:List (Nat×(List AV->Heap->Option (AV×Heap)))),∀f,nm.getD f 0=p.1->Sound P nm f p.2:=λ_ h=>by cases h
theorem ko.cons{P:Program}{nm:List Nat}{k:Nat}{m:List AV->Heap->Option (AV×Heap)}{l:List (Nat×(List AV->Heap->Option (AV×Heap)))}(h:∀f,nm.getD f 0=k->Sound P nm f m)(t:∀p∈l,∀f,nm.getD f 0=p.1->Sound P nm f p.2):∀p∈(k,m)::l,∀f,nm.getD f 0=p.1->Sound P nm f p.2:=
 λp hp=>by rcases jP.1 hp with rfl|hp;exact h;exact t p hp
theorem uk{P:Program}{nm:List Nat}{t:List (Nat×(List AV->Heap->Option (AV×Heap)))}(ht:∀p∈t,∀f,nm.getD f 0=p.1->Sound P nm f p.2)(f:FuncId):Sound P nm f (Zw (λ_ _=>Option.none) t (nm.getD f 0)):=by
 induction t with
 |nil=>exact Sound.none
 |cons p t ih=>
  obtain⟨k,x⟩:=p;simp only[Zw];cases hm:(nm.getD f 0==k)
  ·exact ih (λp hp=>ht p (tN _ hp))
  ·exact ht (k,x) YJ f (by simpa using hm)
theorem R6{nm:List Nat}{k g:Nat}(h:(nm.zipIdx.filter λp=>p.1==k)=[(k,g)]) (hk:(0==k)=ι) {f:Nat} (hf:nm.getD f 0=k):f=g:=by
 have hlt:f<nm.length:=by
  rcases Nat.lt_or_ge f nm.length with e|e
  ·exact e
  ·simp only[U1,rK e,WO]at hf;subst hf;simp at hk
 have:(k,f)∈nm.zipIdx.filter λp=>p.1==k:=by refine Tx.2 ⟨uy.2 ⟨f,?_⟩,by simp⟩;simp only[U1]at hf;rw[cC hlt]at hf;simp [cC hlt,<-hf]
 rw[h]at this;simpa using this
theorem rq{P:Program}{nm:List Nat}{k g:Nat}{m:List AV->Heap->Option (AV×Heap)}(hs:Sound P nm g m)(h:(nm.zipIdx.filter λp=>p.1==k)=[(k,g)]) (hk:(0==k)=ι):∀f,nm.getD f 0=k->Sound P nm f m:=
 λf hf=>by have e:=R6 h hk hf;subst e;exact hs
def fuel(F:(Nat->List AV->Heap->Option (AV×Heap))->List (Nat×(List AV->Heap->Option (AV×Heap)))):Nat->Nat->List AV->Heap->Option (AV×Heap)
 |0,_=>λ_ _=>μ
 |n+1,k=>Zw (λ_ _=>μ) (F (fuel F n)) k
namespace A
def eo(f:AV->Heap->Option (AV×Heap)):List AV->Heap->Option (AV×Heap)
 |[x0],σ=>f x0 σ
 |_,_=>μ
def cM(f:AV->AV->Heap->Option (AV×Heap)):List AV->Heap->Option (AV×Heap)
 |[x0,x1],σ=>f x0 x1 σ
 |_,_=>μ
def kT(f:AV->AV->AV->Heap->Option (AV×Heap)):List AV->Heap->Option (AV×Heap)
 |[x0,x1,x2],σ=>f x0 x1 x2 σ
 |_,_=>μ
def yM(f:AV->AV->AV->AV->Heap->Option (AV×Heap)):List AV->Heap->Option (AV×Heap)
 |[x0,x1,x2,x3],σ=>f x0 x1 x2 x3 σ
 |_,_=>μ
def HE(f:AV->AV->AV->AV->AV->Heap->Option (AV×Heap)):List AV->Heap->Option (AV×Heap)
 |[x0,x1,x2,x3,x4],σ=>f x0 x1 x2 x3 x4 σ
 |_,_=>μ
def HF(f:AV->AV->AV->AV->AV->AV->Heap->Option (AV×Heap)):List AV->Heap->Option (AV×Heap)
 |[x0,x1,x2,x3,x4,x5],σ=>f x0 x1 x2 x3 x4 x5 σ
 |_,_=>μ
def aCO(f:AV->AV->AV->AV->AV->AV->AV->Heap->Option (AV×Heap)):List AV->Heap->Option (AV×Heap)
 |[x0,x1,x2,x3,x4,x5,x6],σ=>f x0 x1 x2 x3 x4 x5 x6 σ
 |_,_=>μ
end A
section
variable {X : Fx} {f : FuncId} {fn : Func} {dg : qA}
theorem Sound.yG{m:AV->Heap->Option (AV×Heap)}(keep:vB)(hkeep:keep.Ok)(hs:fA X)(hf:X.P.funcs[f]? =δ fn)(hc:∀eD w,(callFunc f eD).run X.P w=.ok (.enter f eD) w)(he:∀(x0:AV) (σ:Heap),vI X keep dg fn [x0] σ=m x0 σ):Sound X.P X.nm f (A.eo m):=by
 intro args σ r σ' h;unfold A.eo at h;split at h
 ·exact Gl hs hkeep hf hc ((he _ _).trans h)
 ·cases h
theorem Sound.rO{m:AV->AV->Heap->Option (AV×Heap)}(keep:vB)(hkeep:keep.Ok)(hs:fA X)(hf:X.P.funcs[f]? =δ fn)(hc:∀eD w,(callFunc f eD).run X.P w=.ok (.enter f eD) w)(he:∀(x0 x1:AV) (σ:Heap),vI X keep dg fn [x0,x1] σ=m x0 x1 σ):Sound X.P X.nm f (A.cM m):=by
 intro args σ r σ' h;unfold A.cM at h;split at h
 ·exact Gl hs hkeep hf hc ((he _ _ _).trans h)
 ·cases h
theorem Sound.FB{m:AV->AV->AV->Heap->Option (AV×Heap)}(keep:vB)(hkeep:keep.Ok)(hs:fA X)(hf:X.P.funcs[f]? =δ fn)(hc:∀eD w,(callFunc f eD).run X.P w=.ok (.enter f eD) w)(he:∀(x0 x1 x2:AV) (σ:Heap),vI X keep dg fn [x0,x1,x2] σ=m x0 x1 x2 σ):Sound X.P X.nm f (A.kT m):=by
 intro args σ r σ' h;unfold A.kT at h;split at h
 ·exact Gl hs hkeep hf hc ((he _ _ _ _).trans h)
 ·cases h
theorem Sound.aic{m:AV->AV->AV->AV->Heap->Option (AV×Heap)}(keep:vB)(hkeep:keep.Ok)(hs:fA X)(hf:X.P.funcs[f]? =δ fn)(hc:∀eD w,(callFunc f eD).run X.P w=.ok (.enter f eD) w)(he:∀(x0 x1 x2 x3:AV) (σ:Heap),vI X keep dg fn [x0,x1,x2,x3] σ=m x0 x1 x2 x3 σ):Sound X.P X.nm f (A.yM m):=by
 intro args σ r σ' h;unfold A.yM at h;split at h
 ·exact Gl hs hkeep hf hc ((he _ _ _ _ _).trans h)
 ·cases h
theorem Sound.aid{m:AV->AV->AV->AV->AV->Heap->Option (AV×Heap)}(keep:vB)(hkeep:keep.Ok)(hs:fA X)(hf:X.P.funcs[f]? =δ fn)(hc:∀eD w,(callFunc f eD).run X.P w=.ok (.enter f eD) w)(he:∀(x0 x1 x2 x3 x4:AV) (σ:Heap),vI X keep dg fn [x0,x1,x2,x3,x4] σ=m x0 x1 x2 x3 x4 σ):Sound X.P X.nm f (A.HE m):=by
 intro args σ r σ' h;unfold A.HE at h;split at h
 ·exact Gl hs hkeep hf hc ((he _ _ _ _ _ _).trans h)
 ·cases h
theorem Sound.aie{m:AV->AV->AV->AV->AV->AV->Heap->Option (AV×Heap)}(keep:vB)(hkeep:keep.Ok)(hs:fA X)(hf:X.P.funcs[f]? =δ fn)(hc:∀eD w,(callFunc f eD).run X.P w=.ok (.enter f eD) w)(he:∀(x0 x1 x2 x3 x4 x5:AV) (σ:Heap),vI X keep dg fn [x0,x1,x2,x3,x4,x5] σ=m x0 x1 x2 x3 x4 x5 σ):Sound X.P X.nm f (A.HF m):=by
 intro args σ r σ' h;unfold A.HF at h;split at h
 ·exact Gl hs hkeep hf hc ((he _ _ _ _ _ _ _).trans h)
 ·cases h
theorem Sound.ayb{m:AV->AV->AV->AV->AV->AV->AV->Heap->Option (AV×Heap)}(keep:vB)(hkeep:keep.Ok)(hs:fA X)(hf:X.P.funcs[f]? =δ fn)(hc:∀eD w,(callFunc f eD).run X.P w=.ok (.enter f eD) w)(he:∀(x0 x1 x2 x3 x4 x5 x6:AV) (σ:Heap),vI X keep dg fn [x0,x1,x2,x3,x4,x5,x6] σ=m x0 x1 x2 x3 x4 x5 x6 σ):Sound X.P X.nm f (A.aCO m):=by
 intro args σ r σ' h;unfold A.aCO at h;split at h
 ·exact Gl hs hkeep hf hc ((he _ _ _ _ _ _ _ _).trans h)
 ·cases h
end
end
open Sound renaming none->TI,FB->aDG,yG->Vt,wrap->Zr,rO->Zb
open A renaming cM->Xw,eo->YR,kT->X5,wrap->Ω
open Sh renaming fZ->Wm
open fA renaming of->WH
abbrev nC:List Sh:=[.k,.k,.k,.k,.k,.k,.k,(.s 2),.k,.k,(.s 8)]
abbrev qz:List Sh:=[.k,.k,.k,.k,.k,.k,(.s 3)]
abbrev HC:List Sh:=[(.s 10),.k,.k,.k,(.s 3),(.s 4),(.s 3),(.s 2),(.s 3),(.s 2),.k,(.s 5)]
abbrev Ds:List Sh:=[(.a [(.s 3),(.s 4),(.s 3),(.s 2),(.s 3)])]
abbrev GV:Sh:=(.a [.k,.k,.k,.k,.k,.k,(.s 2)])
abbrev Ch:Sh:=(.a [(.s 3),(.s 4)])
abbrev Du:Sh:=(.e 3 [.k,.k,(.s 3)])
section
def aN:List Nat:=[0,0,0,436,419,421,438,439,0,0,336,416,338,418,357,92,0,102,420,437,136,301,373,374,0,393,392,0,394,0,425,0,426,0,0,402,144,335,70,129,14,13,151,337,155,413,415,355,417,356,90,86,91,5,24,0,422,340,0,360,372,0,343,341,180,135,169,242,240,137,376,379,0,0,0,423,0,424,0,403,0,0,411,0,93,398,399,401,139,1,143,330,331,332,333,334,193,181,69,66,128,127,154,152,339,412,353,352,158,354,414,348,4,23,0,0,358,0,0,359,0,342,94,134,7,241,207,239,166,130,375,168,377,378,0,0,381,380,0,382,384,0,410,383,0,397,400,71,73,2,138,142,3,63,67,68,65,64,153,318,351,350,16,18,0,32,0,27,33,0,34,0,0,258,0,88,89,131,133,6,206,223,238,298,388,391,389,0,387,0,0,409,396,199,72,125,126,141,62,178,203,0,297,140,205,349,15,17,26,0,0,28,29,30,31,361,363,0,367,368,369,370,371,256,257,85,87,132,0,210,390,25,0,0,0,0,345,344,408,395,59,60,61,176,177,0,0,362,262,0,366,365,84,81,209,385,386,0,405,407,58,286,288,0,292,293,294,295,296,364,83,80,208,346,404,406,347,287,291,290,82,53,0,0,289,52,0,0,0,0,0,0,0,0,0,0,0,0,0,0,0,0,0]
section
variable {l : List (FuncId × (aq -> Heap -> aF))} {f : FuncId} {fn : Func} {ro : Bool} {fN : List Sh} {iU : Sh}
def HT (l:List (FuncId×(aq->Heap->aF))) (L:List Nat) (n:Nat):Fx:=⟨Tryz.prog,aN,Zw (λ_ _=>μ) l,λ_ _ _=>μ,L,[],n,[]⟩
theorem q1{m:AV->Heap->aF}(L:List Nat)(n:Nat)(dg:qA)(h:∀p∈l,Sound Tryz.prog aN p.1 p.2)(hf:Tryz.prog.funcs[f]? =δ fn)(hc:∀eD w,(callFunc f eD).run Tryz.prog w=.ok (.enter f eD) w)(he:∀(x0:AV) (σ:Heap),vI (HT l L n) .F dg fn [x0] σ=m x0 σ)(hi:Wm fN=θ)(ho:iU.ok=θ):Sound Tryz.prog aN f (Ω ro fN iU (YR m)):=Zr (Vt .F trivial (WH rfl h λ_=>TI) hf hc he) _ _ _ hi ho
theorem q2{m:AV->AV->Heap->aF}(L:List Nat)(n:Nat)(dg:qA)(h:∀p∈l,Sound Tryz.prog aN p.1 p.2)(hf:Tryz.prog.funcs[f]? =δ fn)(hc:∀eD w,(callFunc f eD).run Tryz.prog w=.ok (.enter f eD) w)(he:∀(x0 x1:AV) (σ:Heap),vI (HT l L n) .F dg fn [x0,x1] σ=m x0 x1 σ)(hi:Wm fN=θ)(ho:iU.ok=θ):Sound Tryz.prog aN f (Ω ro fN iU (Xw m)):=Zr (Zb .F trivial (WH rfl h λ_=>TI) hf hc he) _ _ _ hi ho
theorem q3{m:AV->AV->AV->Heap->aF}(L:List Nat)(n:Nat)(dg:qA)(h:∀p∈l,Sound Tryz.prog aN p.1 p.2)(hf:Tryz.prog.funcs[f]? =δ fn)(hc:∀eD w,(callFunc f eD).run Tryz.prog w=.ok (.enter f eD) w)(he:∀(x0 x1 x2:AV) (σ:Heap),vI (HT l L n) .F dg fn [x0,x1,x2] σ=m x0 x1 x2 σ)(hi:Wm fN=θ)(ho:iU.ok=θ):Sound Tryz.prog aN f (Ω ro fN iU (X5 m)):=Zr (aDG .F trivial (WH rfl h λ_=>TI) hf hc he) _ _ _ hi ho
theorem q4{m:AV->AV->AV->AV->Heap->aF}(L:List Nat)(n:Nat)(dg:qA)(h:∀p∈l,Sound Tryz.prog aN p.1 p.2)(hf:Tryz.prog.funcs[f]? =δ fn)(hc:∀eD w,(callFunc f eD).run Tryz.prog w=.ok (.enter f eD) w)(he:∀(x0 x1 x2 x3:AV) (σ:Heap),vI (HT l L n) .F dg fn [x0,x1,x2,x3] σ=m x0 x1 x2 x3 σ)(hi:Wm fN=θ)(ho:iU.ok=θ):Sound Tryz.prog aN f (Ω ro fN iU (A.yM m)):=Zr (Sound.aic .F trivial (WH rfl h λ_=>TI) hf hc he) _ _ _ hi ho
theorem q5{m:AV->AV->AV->AV->AV->Heap->aF}(L:List Nat)(n:Nat)(dg:qA)(h:∀p∈l,Sound Tryz.prog aN p.1 p.2)(hf:Tryz.prog.funcs[f]? =δ fn)(hc:∀eD w,(callFunc f eD).run Tryz.prog w=.ok (.enter f eD) w)(he:∀(x0 x1 x2 x3 x4:AV) (σ:Heap),vI (HT l L n) .F dg fn [x0,x1,x2,x3,x4] σ=m x0 x1 x2 x3 x4 σ)(hi:Wm fN=θ)(ho:iU.ok=θ):Sound Tryz.prog aN f (Ω ro fN iU (A.HE m)):=Zr (Sound.aid .F trivial (WH rfl h λ_=>TI) hf hc he) _ _ _ hi ho
theorem q6{m:AV->AV->AV->AV->AV->AV->Heap->aF}(L:List Nat)(n:Nat)(dg:qA)(h:∀p∈l,Sound Tryz.prog aN p.1 p.2)(hf:Tryz.prog.funcs[f]? =δ fn)(hc:∀eD w,(callFunc f eD).run Tryz.prog w=.ok (.enter f eD) w)(he:∀(x0 x1 x2 x3 x4 x5:AV) (σ:Heap),vI (HT l L n) .F dg fn [x0,x1,x2,x3,x4,x5] σ=m x0 x1 x2 x3 x4 x5 σ)(hi:Wm fN=θ)(ho:iU.ok=θ):Sound Tryz.prog aN f (Ω ro fN iU (A.HF m)):=Zr (Sound.aie .F trivial (WH rfl h λ_=>TI) hf hc he) _ _ _ hi ho
theorem q7{m:AV->AV->AV->AV->AV->AV->AV->Heap->aF}(L:List Nat)(n:Nat)(dg:qA)(h:∀p∈l,Sound Tryz.prog aN p.1 p.2)(hf:Tryz.prog.funcs[f]? =δ fn)(hc:∀eD w,(callFunc f eD).run Tryz.prog w=.ok (.enter f eD) w)(he:∀(x0 x1 x2 x3 x4 x5 x6:AV) (σ:Heap),vI (HT l L n) .F dg fn [x0,x1,x2,x3,x4,x5,x6] σ=m x0 x1 x2 x3 x4 x5 x6 σ)(hi:Wm fN=θ)(ho:iU.ok=θ):Sound Tryz.prog aN f (Ω ro fN iU (A.aCO m)):=Zr (Sound.ayb .F trivial (WH rfl h λ_=>TI) hf hc he) _ _ _ hi ho
end
end
abbrev aY(n:Int):Prop:=-9223372036854775808<=n/\n<=9223372036854775807
abbrev aZ:Nat:=9223372036854775807
def gZ{κ:Type}[DecidableEq κ](k:κ)(S:List κ):Bool:=S.any λx=>decide (x=k)
theorem Gx{κ:Type}[DecidableEq κ]{k:κ}{S:List κ}:gZ k S=θ↔k∈S:=by simp only[gZ,VK,decide_eq_true_eq];exact⟨λ⟨x,h,e⟩=>e▸h,λh=>⟨k,h,rfl⟩⟩
theorem Jm{κ:Type}[DecidableEq κ]{k:κ}{S:List κ}:gZ k S=ι↔k∉S:=by rw[<-Gx];simp
def oL(n:Int):aq:=[.ah n]
def awT(s:ByteArray):aq:=[.str s]
def sl{α:Type}(sz:Nat)(c:α->aq)(l:List α):AV:=.sl sz (l.map c)
def fZ{α:Type}(p:α->Prop)(l:List α):Prop:=l.length<=aZ/\∀x∈l,p x
def jF(s:ByteArray):Prop:=s.size<=aZ
theorem afH(n:Int):Γ 0 (oL n)=δ (.ah n):=rfl
theorem afI(s:ByteArray):Γ 0 (awT s)=δ (.str s):=rfl
structure oF where
 time:Int
 way:Int
deriving DecidableEq
def iF(x:oF):aq:=[.ah x.time,.ah x.way]
theorem anF(x:oF):(iF x).length=2:=rfl
def afB(x:oF):Prop:=aY x.time/\aY x.way
theorem BI(x:oF):Γ 0 (iF x)=δ (.ah x.time):=rfl
theorem BJ(x:oF):Γ 1 (iF x)=δ (.ah x.way):=rfl
theorem zj(x:oF):VU 0 2 (iF x)=δ (.agg (iF x)):=rfl
theorem zh(x:oF):ψ 2 (.agg (iF x))=δ (iF x):=rfl
theorem zl(x:oF)(l:aq)(h:l.length=2):ir 0 (iF x) l=δ (iF x):=by simp [ir,anF,h]
structure tu where
 kind:Int
 br:(List oF)
def lR(x:tu):aq:=[.ah x.kind,sl 2 iF x.br]
theorem anC(x:tu):(lR x).length=2:=rfl
def atc(x:tu):Prop:=aY x.kind/\(fZ afB) x.br
theorem pW(x:tu):Γ 0 (lR x)=δ (.ah x.kind):=rfl
theorem pX(x:tu):Γ 1 (lR x)=δ (sl 2 iF x.br):=rfl
theorem pZ(x:tu):VU 0 2 (lR x)=δ (.agg (lR x)):=rfl
theorem pY(x:tu):ψ 2 (.agg (lR x))=δ (lR x):=rfl
theorem p4(x:tu)(l:aq)(h:l.length=2):ir 0 (lR x) l=δ (lR x):=by simp [ir,anC,h]
structure jI where
 fC:Int
 to:Int
 start:Int
 cB:Int
 time:Int
 fM:tu
def iK(x:jI):aq:=[.ah x.fC,.ah x.to,.ah x.start,.ah x.cB,.ah x.time,.ah x.fM.kind,sl 2 iF x.fM.br]
theorem aoZ(x:jI):(iK x).length=7:=rfl
theorem acv(x:jI):Γ 0 (iK x)=δ (.ah x.fC):=rfl
theorem acw(x:jI):Γ 1 (iK x)=δ (.ah x.to):=rfl
theorem QI(x:jI):Γ 2 (iK x)=δ (.ah x.start):=rfl
theorem VZ(x:jI):Γ 3 (iK x)=δ (.ah x.cB):=rfl
theorem acy(x:jI):Γ 4 (iK x)=δ (.ah x.time):=rfl
theorem ak1(x:jI):VU 5 2 (iK x)=δ (.agg (lR x.fM)):=rfl
theorem JD(x:jI):VU 0 7 (iK x)=δ (.agg (iK x)):=rfl
theorem Gu(x:jI):ψ 7 (.agg (iK x))=δ (iK x):=rfl
theorem Ru(x:jI)(l:aq)(h:l.length=7):ir 0 (iK x) l=δ (iK x):=by simp [ir,aoZ,h]
structure arJ where
 time:Int
 level:Int
deriving DecidableEq
structure p7 where
 low:Int
 high:Int
 name:ByteArray
deriving DecidableEq
def lI(x:p7):aq:=[.ah x.low,.ah x.high,.str x.name]
theorem anG(x:p7):(lI x).length=3:=rfl
def aAk(x:p7):Prop:=aY x.low/\aY x.high/\jF x.name
theorem BK(x:p7):Γ 0 (lI x)=δ (.ah x.low):=rfl
theorem BL(x:p7):Γ 1 (lI x)=δ (.ah x.high):=rfl
theorem BM(x:p7):Γ 2 (lI x)=δ (.str x.name):=rfl
theorem BQ(x:p7):VU 0 3 (lI x)=δ (.agg (lI x)):=rfl
theorem BO(x:p7):ψ 3 (.agg (lI x))=δ (lI x):=rfl
theorem BR(x:p7)(l:aq)(h:l.length=3):ir 0 (lI x) l=δ (lI x):=by simp [ir,anG,h]
structure ey where
 name:ByteArray
 group:Int
 jS:Int
 iy:Int
 default:Int
 snap:Bool
 ranges:(List p7)
def cG(x:ey):aq:=[.str x.name,.ah x.group,.ah x.jS,.ah x.iy,.ah x.default,.bool x.snap,sl 3 lI x.ranges]
theorem anE(x:ey):(cG x).length=7:=rfl
def aCM(x:ey):Prop:=jF x.name/\aY x.group/\aY x.jS/\aY x.iy/\aY x.default/\(fZ aAk) x.ranges
theorem qp(x:ey):Γ 0 (cG x)=δ (.str x.name):=rfl
theorem qS(x:ey):Γ 1 (cG x)=δ (.ah x.group):=rfl
theorem qT(x:ey):Γ 2 (cG x)=δ (.ah x.jS):=rfl
theorem qU(x:ey):Γ 3 (cG x)=δ (.ah x.iy):=rfl
theorem qV(x:ey):Γ 4 (cG x)=δ (.ah x.default):=rfl
theorem qW(x:ey):Γ 5 (cG x)=δ (.bool x.snap):=rfl
theorem qX(x:ey):Γ 6 (cG x)=δ (sl 3 lI x.ranges):=rfl
theorem rj(x:ey):VU 0 7 (cG x)=δ (.agg (cG x)):=rfl
theorem qZ(x:ey):ψ 7 (.agg (cG x))=δ (cG x):=rfl
theorem nY(x:ey)(l:aq)(h:l.length=7):ir 0 (cG x) l=δ (cG x):=by simp [ir,anE,h]
structure cD where
 name:ByteArray
 size:Int
 params:(List ey)
def cz(x:cD):aq:=[.str x.name,.ah x.size,sl 7 cG x.params]
theorem alO(x:cD):(cz x).length=3:=rfl
def Gq(x:cD):Prop:=jF x.name/\aY x.size/\(fZ aCM) x.params
theorem nj(x:cD):Γ 0 (cz x)=δ (.str x.name):=rfl
theorem nI(x:cD):Γ 1 (cz x)=δ (.ah x.size):=rfl
theorem nr(x:cD):Γ 2 (cz x)=δ (sl 7 cG x.params):=rfl
theorem nK(x:cD):VU 0 3 (cz x)=δ (.agg (cz x)):=rfl
theorem nJ(x:cD):ψ 3 (.agg (cz x))=δ (cz x):=rfl
theorem mu(x:cD)(l:aq)(h:l.length=3):ir 0 (cz x) l=δ (cz x):=by simp [ir,alO,h]
structure iw where
 az:Int
 ga:ByteArray
 univ:Int
 address:Int
deriving DecidableEq
def dh(x:iw):aq:=[.ah x.az,.str x.ga,.ah x.univ,.ah x.address]
theorem ao3(x:iw):(dh x).length=4:=rfl
def agz(x:iw):Prop:=aY x.az/\jF x.ga/\aY x.univ/\aY x.address
theorem mH(x:iw):Γ 0 (dh x)=δ (.ah x.az):=rfl
theorem mI(x:iw):Γ 1 (dh x)=δ (.str x.ga):=rfl
theorem mJ(x:iw):Γ 2 (dh x)=δ (.ah x.univ):=rfl
theorem mK(x:iw):Γ 3 (dh x)=δ (.ah x.address):=rfl
theorem mN(x:iw):VU 0 4 (dh x)=δ (.agg (dh x)):=rfl
theorem mM(x:iw):ψ 4 (.agg (dh x))=δ (dh x):=rfl
theorem mw(x:iw)(l:aq)(h:l.length=4):ir 0 (dh x) l=δ (dh x):=by simp [ir,ao3,h]
structure eU where
 bf:(List cD)
 cV:(List iw)
def eO(x:eU):aq:=[sl 3 cz x.bf,sl 4 dh x.cV]
theorem aqk(x:eU):(eO x).length=2:=rfl
def rG(x:eU):Prop:=(fZ Gq) x.bf/\(fZ agz) x.cV
theorem ou(x:eU):Γ 0 (eO x)=δ (sl 3 cz x.bf):=rfl
theorem ow(x:eU):Γ 1 (eO x)=δ (sl 4 dh x.cV):=rfl
theorem oB(x:eU):VU 0 2 (eO x)=δ (.agg (eO x)):=rfl
theorem oA(x:eU):ψ 2 (.agg (eO x))=δ (eO x):=rfl
theorem oD(x:eU)(l:aq)(h:l.length=2):ir 0 (eO x) l=δ (eO x):=by simp [ir,aqk,h]
structure aC where
 unit:Int
 param:ByteArray
deriving DecidableEq
def aS(x:aC):aq:=[.ah x.unit,.str x.param]
theorem aqj(x:aC):(aS x).length=2:=rfl
def ahp(x:aC):Prop:=aY x.unit/\jF x.param
theorem adD(x:aC):Γ 0 (aS x)=δ (.ah x.unit):=rfl
theorem adE(x:aC):Γ 1 (aS x)=δ (.str x.param):=rfl
theorem rB(x:aC):VU 0 2 (aS x)=δ (.agg (aS x)):=rfl
theorem BV(x:aC):ψ 2 (.agg (aS x))=δ (aS x):=rfl
theorem C4(x:aC)(l:aq)(h:l.length=2):ir 0 (aS x) l=δ (aS x):=by simp [ir,aqj,h]
structure gE where
 key:aC
 level:Int
deriving DecidableEq
def dW(x:gE):aq:=[.ah x.key.unit,.str x.key.param,.ah x.level]
theorem alP(x:gE):(dW x).length=3:=rfl
def adv(x:gE):Prop:=ahp x.key/\aY x.level
theorem Qy(x:gE)(l:aq)(h:l.length=3):ir 0 (dW x) l=δ (dW x):=by simp [ir,alP,h]
structure fL where
 az:Int
 title:ByteArray
 jN:(List gE)
def dX(x:fL):aq:=[.ah x.az,.str x.title,sl 3 dW x.jN]
theorem amp(x:fL):(dX x).length=3:=rfl
def xk(x:fL):Prop:=aY x.az/\jF x.title/\(fZ adv) x.jN
theorem Jo(x:fL)(l:aq)(h:l.length=3):ir 0 (dX x) l=δ (dX x):=by simp [ir,amp,h]
structure avQ where
 azc:(List Int)
 block:Int
 azu:Int
structure mz where
 level:Int
 fQ:Int
deriving DecidableEq
def tC(x:mz):aq:=[.ah x.level,.ah x.fQ]
def atd(x:mz):Prop:=aY x.level/\aY x.fQ
structure gf where
 key:aC
 value:mz
 release:Bool
 zO:Bool
 cB:Int
 time:Int
deriving DecidableEq
def ff(x:gf):aq:=[.ah x.key.unit,.str x.key.param,.ah x.value.level,.ah x.value.fQ,.bool x.release,.bool x.zO,.ah x.cB,.ah x.time]
theorem ao1(x:gf):(ff x).length=8:=rfl
def JZ(x:gf):Prop:=ahp x.key/\atd x.value/\aY x.cB/\aY x.time
theorem anY(x:gf):Γ 0 (ff x)=δ (.ah x.key.unit):=rfl
theorem anZ(x:gf):Γ 1 (ff x)=δ (.str x.key.param):=rfl
theorem an0(x:gf):Γ 2 (ff x)=δ (.ah x.value.level):=rfl
theorem an1(x:gf):Γ 3 (ff x)=δ (.ah x.value.fQ):=rfl
theorem an2(x:gf):Γ 4 (ff x)=δ (.bool x.release):=rfl
theorem an3(x:gf):Γ 5 (ff x)=δ (.bool x.zO):=rfl
theorem an4(x:gf):Γ 6 (ff x)=δ (.ah x.cB):=rfl
theorem an5(x:gf):Γ 7 (ff x)=δ (.ah x.time):=rfl
theorem abj(x:gf):VU 0 2 (ff x)=δ (.agg (aS x.key)):=rfl
theorem ak2(x:gf):VU 2 2 (ff x)=δ (.agg (tC x.value)):=rfl
theorem aeI(x:gf):VU 0 8 (ff x)=δ (.agg (ff x)):=rfl
theorem aea(x:gf):ψ 8 (.agg (ff x))=δ (ff x):=rfl
theorem Gy(x:gf)(l:aq)(h:l.length=8):ir 0 (ff x) l=δ (ff x):=by simp [ir,ao1,h]
structure bA where
 az:Int
 title:ByteArray
 cB:Int
 up:Int
 down:Int
 other:Int
 fM:tu
 block:Bool
 eM:Int
 dF:(List gf)
def bg(x:bA):aq:=[.ah x.az,.str x.title,.ah x.cB,.ah x.up,.ah x.down,.ah x.other,.ah x.fM.kind,sl 2 iF x.fM.br,.bool x.block,.ah x.eM,sl 8 ff x.dF]
theorem aqi(x:bA):(bg x).length=11:=rfl
def zN(x:bA):Prop:=aY x.az/\jF x.title/\aY x.cB/\aY x.up/\aY x.down/\aY x.other/\atc x.fM/\aY x.eM/\(fZ JZ) x.dF
theorem Wp(x:bA):Γ 0 (bg x)=δ (.ah x.az):=rfl
theorem apF(x:bA):Γ 1 (bg x)=δ (.str x.title):=rfl
theorem Wq(x:bA):Γ 2 (bg x)=δ (.ah x.cB):=rfl
theorem adA(x:bA):Γ 3 (bg x)=δ (.ah x.up):=rfl
theorem Wr(x:bA):Γ 4 (bg x)=δ (.ah x.down):=rfl
theorem adB(x:bA):Γ 5 (bg x)=δ (.ah x.other):=rfl
theorem apG(x:bA):Γ 6 (bg x)=δ (.ah x.fM.kind):=rfl
theorem apH(x:bA):Γ 7 (bg x)=δ (sl 2 iF x.fM.br):=rfl
theorem apI(x:bA):Γ 8 (bg x)=δ (.bool x.block):=rfl
theorem adC(x:bA):Γ 9 (bg x)=δ (.ah x.eM):=rfl
theorem acu(x:bA):Γ 10 (bg x)=δ (sl 8 ff x.dF):=rfl
theorem UQ(x:bA):VU 6 2 (bg x)=δ (.agg (lR x.fM)):=rfl
theorem GC(x:bA):VU 0 11 (bg x)=δ (.agg (bg x)):=rfl
theorem JI(x:bA):ψ 11 (.agg (bg x))=δ (bg x):=rfl
theorem C3(x:bA)(l:aq)(h:l.length=11):ir 0 (bg x) l=δ (bg x):=by simp [ir,aqi,h]
structure bB where
 key:aC
 value:mz
 cK:Int
deriving DecidableEq
def bJ(x:bB):aq:=[.ah x.key.unit,.str x.key.param,.ah x.value.level,.ah x.value.fQ,.ah x.cK]
theorem anD(x:bB):(bJ x).length=5:=rfl
theorem ap1(x:bB)(l:aq)(h:l.length=5):ir 0 (bJ x) l=δ (bJ x):=by simp [ir,anD,h]
structure au3 where
 unit:Int
 fC:Int
 to:Int
deriving DecidableEq
structure jl where
 az:Int
 bH:(List bA)
def fc(x:jl):aq:=[.ah x.az,sl 11 bg x.bH]
theorem ao0(x:jl):(fc x).length=2:=rfl
def agy(x:jl):Prop:=aY x.az/\(fZ zN) x.bH
theorem anX(x:jl):Γ 0 (fc x)=δ (.ah x.az):=rfl
theorem V0(x:jl):Γ 1 (fc x)=δ (sl 11 bg x.bH):=rfl
theorem arb(x:jl):VU 0 2 (fc x)=δ (.agg (fc x)):=rfl
theorem aqm(x:jl):ψ 2 (.agg (fc x))=δ (fc x):=rfl
theorem JG(x:jl)(l:aq)(h:l.length=2):ir 0 (fc x) l=δ (fc x):=by simp [ir,ao0,h]
structure pH where
 az:Int
 list:Int
 kD:Int
deriving DecidableEq
def dA(x:pH):aq:=[.ah x.az,.ah x.list,.ah x.kD]
theorem aln(x:pH):(dA x).length=3:=rfl
def acr(x:pH):Prop:=aY x.az/\aY x.list/\aY x.kD
theorem akX(x:pH):Γ 0 (dA x)=δ (.ah x.az):=rfl
theorem akY(x:pH):Γ 1 (dA x)=δ (.ah x.list):=rfl
theorem akZ(x:pH):Γ 2 (dA x)=δ (.ah x.kD):=rfl
theorem al8(x:pH):VU 0 3 (dA x)=δ (.agg (dA x)):=rfl
theorem alQ(x:pH):ψ 3 (.agg (dA x))=δ (dA x):=rfl
theorem abr(x:pH)(l:aq)(h:l.length=3):ir 0 (dA x) l=δ (dA x):=by simp [ir,aln,h]
structure i7 where
 bk:eU
 bn:(List fL)
 dJ:(List jl)
 bM:(List pH)
def cm(x:i7):aq:=[sl 3 cz x.bk.bf,sl 4 dh x.bk.cV,sl 3 dX x.bn,sl 2 fc x.dJ,sl 3 dA x.bM]
def zw(x:i7):Prop:=rG x.bk/\(fZ xk) x.bn/\(fZ agy) x.dJ/\(fZ acr) x.bM
theorem abQ(x:i7):Γ 0 (cm x)=δ (sl 3 cz x.bk.bf):=rfl
structure iE where
 time:Int
 kind:Int
 kZ:Int
 cK:Int
 level:Int
deriving DecidableEq
def dR(x:iE):aq:=[.ah x.time,.ah x.kind,.ah x.kZ,.ah x.cK,.ah x.level]
theorem al7(x:iE):Γ 0 (dR x)=δ (.ah x.time):=rfl
theorem acz(x:iE):VU 0 5 (dR x)=δ (.agg (dR x)):=rfl
structure atN where
 jS:Int
 action:iE
deriving DecidableEq
structure atS where
 hours:Int
 minutes:Int
 seconds:Int
 frames:Int
deriving DecidableEq
structure Dv where
 key:aC
 gJ:jI
 nN:Int
 ending:Bool
def mR(x:Dv):aq:=[.ah x.key.unit,.str x.key.param,.ah x.gJ.fC,.ah x.gJ.to,.ah x.gJ.start,.ah x.gJ.cB,.ah x.gJ.time,.ah x.gJ.fM.kind,sl 2 iF x.gJ.fM.br,.ah x.nN,.bool x.ending]
structure CQ where
 kZ:Int
 cK:Int
 jc:Int
 agG:Bool
 eM:Int
 runs:(List Dv)
def zg(x:CQ):aq:=[.ah x.kZ,.ah x.cK,.ah x.jc,.bool x.agG,.ah x.eM,sl 11 mR x.runs]
theorem alo(x:CQ):(zg x).length=6:=rfl
theorem ak0(x:CQ):Γ 1 (zg x)=δ (.ah x.cK):=rfl
theorem alR(x:CQ):ψ 6 (.agg (zg x))=δ (zg x):=rfl
theorem amj(x:CQ)(l:aq)(h:l.length=6):ir 0 (zg x) l=δ (zg x):=by simp [ir,alo,h]
structure abu where
 level:Int
 hold:Int
 gJ:Int
deriving DecidableEq
structure ae5 where
 form:Int
 low:Int
 high:Int
 azl:Int
 width:Int
 spread:Int
 back:Bool
 azb:Bool
 steps:(List abu)
structure agU where
 time:Int
 azd:Int
deriving DecidableEq
structure aqc where
 effect:ae5
 keys:(List aC)
 start:Int
 azs:(List agU)
 KX:Int
 fin:Int
 out:Int
def LD:aq->Heap->aF:=Xw λa b σ=>match a,b with
 |.str a,.str b=>δ (.int ξ (Xt a.data.toList b.data.toList),σ)
 |_,_=>μ
def BD:aq->Heap->aF:=Xw λa b σ=>match a,b with
 |.sl sz es,.os id g sz' off len=>match σ[id]? with
  |some (.arr h s es')=>if es≠[]/\g=h/\es'≠[]/\0<len then δ (.bool ι,σ)else μ
  |_=>μ
 |_,_=>μ
def nM(a b:aC):Int:=if ¬(a.unit=b.unit)then(if a.unit<b.unit then -1 else 1)else Xt a.param.data.toList b.param.data.toList
def qx{α:Type}[Inhabited α](cf:α->α->Int)(l:List α):List α:=(Sort.pdq (λx y=>decide (cf x y<0)) l.toArray 0 l.length (Xf l.length) θ θ).toList
def A.M9 {α:Type} [Inhabited α] (sz:Nat) (c:α->aq) (cf:α->α->Int) (x:AV) (σ:Heap):aF:=match x with
 |.aA=>δ (.aM [],σ)
 |.os id g je off len=>match σ[id]? with
  | some (.arr g' sz' es) => open Classical in if h : (g = g' /\ sz = sz' /\ je = sz /\ off + len <= es.length /\ 0 < len /\ len < 4611686018427387904) /\ ∃ l : List α, (es.drop off).take len = l.map c then
    δ (.aM [],σ.set id (.arr g sz (es.take off++(qx cf (To h.2)).map c++es.drop (off+len))))else μ
  |_=>μ
 |_=>μ
def Lo:aq->Heap->aF:=Xw λx f σ=>match f with
 |.fn 297 []=>@A.M9 bB ⟨⟨⟨0,⟨#[]⟩⟩,⟨0,0⟩,0⟩⟩ 5 bJ (λa b=>nM a.key b.key) x σ
 |_=>μ
section
def Pu (dyn:Nat->aq->Heap->aF) (a0 a1:AV) (σ:Heap):aF:=(UY a0).bind λx1=>(Y7 (λv2 s3=>(YY (aj v2 1) x1).bind λx5=>φ x5 ((Zo 3 a0 (aj v2 1)).bind λx6=>((χ x6 s3).bind λc7=>VU 0 3 c7).bind λx8=>(A.l8 dyn a1 [x8] s3).bind λr9=>φ r9.1 (δ (YP,[(aj v2 1),(aj v2 1)],r9.2)) ((WE (aj v2 1) (ε 1)).bind λbl=>δ (Xv,[(aj v2 0),bl],r9.2))) (δ (Ξ 0,[(aj v2 0),(aj v2 1)],s3))) [(ε 0),(ε 0)] σ).bind λdc=>bif dc.1==Ξ 0 then(wh σ (ε (-1)) dc.2.2)else bif dc.1==YP then(wh σ (aj dc.2.1 0) dc.2.2)else μ
def Pt (dyn:Nat->aq->Heap->aF):aq->Heap->aF:=Ω θ [(.s 3)] .k (Xw (Pu dyn))
def Py (dyn:Nat->aq->Heap->aF) (a0 a1:AV) (σ:Heap):aF:=(UY a0).bind λx1=>(Y7 (λv2 s3=>(YY (aj v2 1) x1).bind λx5=>φ x5 ((Zo 8 a0 (aj v2 1)).bind λx6=>((χ x6 s3).bind λc7=>VU 0 8 c7).bind λx8=>(A.l8 dyn a1 [x8] s3).bind λr9=>φ r9.1 (δ (YP,[(aj v2 1),(aj v2 1)],r9.2)) ((WE (aj v2 1) (ε 1)).bind λbl=>δ (Xv,[(aj v2 0),bl],r9.2))) (δ (Ξ 0,[(aj v2 0),(aj v2 1)],s3))) [(ε 0),(ε 0)] σ).bind λdc=>bif dc.1==Ξ 0 then(wh σ (ε (-1)) dc.2.2)else bif dc.1==YP then(wh σ (aj dc.2.1 0) dc.2.2)else μ
def Li (dyn:Nat->aq->Heap->aF):aq->Heap->aF:=Ω θ [(.s 8)] .k (Xw (Py dyn))
def TU (a0 a1:AV) (σ:Heap):aF:=(UY a0).bind λx1=>(Y7 (λv2 s3=>(YY (aj v2 1) x1).bind λx5=>φ x5 ((Zo 1 a0 (aj v2 1)).bind λx6=>((χ x6 s3).bind λc7=>Γ 0 c7).bind λx8=>(ZA .i a1 x8).bind λx9=>φ x9 (δ (YP,[(aj v2 1),(aj v2 1)],s3)) ((WE (aj v2 1) (ε 1)).bind λbl=>δ (Xv,[(aj v2 0),bl],s3))) (δ (Ξ 0,[(aj v2 0),(aj v2 1)],s3))) [(ε 0),(ε 0)] σ).bind λdc=>bif dc.1==Ξ 0 then(wh σ (ε (-1)) dc.2.2)else bif dc.1==YP then(wh σ (aj dc.2.1 0) dc.2.2)else μ
def TP:aq->Heap->aF:=Ω θ [(.s 1)] .k (Xw TU)
def aAb (a0 a1:AV) (σ:Heap):aF:=(TP [a0,a1] σ).bind λr1=>(YI r1.1 (ε 0)).bind λx2=>wh σ x2 r1.2
def PF:aq->Heap->aF:=Ω θ [(.s 1)] .k (Xw aAb)
def Tt (a0:AV) (σ:Heap):aF:=(A.wO a0 Zg).bind λx1=>φ x1 (δ (Zg,σ)) ((WK 5 (140737488355328 / 48) AV.ez a0 σ).bind λr2=>δ (r2.1,r2.2))
def PC:aq->Heap->aF:=A.xu (Ω θ [(.s 5)] .k (YR Tt))
def PA (a0 a1 a2:AV) (σ:Heap):aF:=(UY a0).bind λx1=>(A.slice3 a0 (δ a1) a2 x1).bind λx2=>(ZA .i a1 a2).bind λx3=>φ x3 (ZD [a0,a1,a2] σ a0 σ) ((UY a0).bind λx4=>(Wf 5 a0 μ (δ a1) σ).bind λx5=>(Wf 5 a0 (δ a2) μ σ).bind λx6=>(WK 5 (140737488355328 / 48) x5 x6 σ).bind λr7=>(UY r7.1).bind λx8=>(Wf 5 r7.1 (δ x8) (δ x4) r7.2).bind λx9=>(A.GG 5 [(ε 0),bE,(ε 0),(ε 0),(ε 0)] x9 r7.2).bind λD7=>ZD [a0,a1,a2] σ r7.1 D7)
def IA:aq->Heap->aF:=Ω ι [] .k (X5 PA)
def aae (a0:AV) (σ:Heap):aF:=(UY a0).bind λx1=>(Uk x1 (ε 1)).bind λx2=>(Y7 (λv3 s4=>(YY (aj v3 0) (aj v3 1)).bind λx6=>φ x6 ((Zo 5 a0 (aj v3 1)).bind λx7=>((χ x7 s4).bind λc8=>VU 0 5 c8).bind λx9=>(Zo 5 a0 (aj v3 0)).bind λbl=>((χ bl s4).bind λfq=>VU 0 5 fq).bind λbR=>(Zo 5 a0 (aj v3 0)).bind λbZ=>(ψ 5 x9).bind λia=>(XZ bZ ia s4).bind λjj=>(Zo 5 a0 (aj v3 1)).bind λbO=>(ψ 5 bR).bind λlW=>(XZ bO lW jj).bind λig=>(WE (aj v3 0) (ε 1)).bind λdZ=>(Uk (aj v3 1) (ε 1)).bind λcS=>δ (Xv,[dZ,cS],ig)) (δ (Ξ 0,[(aj v3 0),(aj v3 1)],s4))) [(ε 0),x2] σ).bind λkj=>bif kj.1==Ξ 0 then(δ ((Yu []),kj.2.2))else μ
def Lk:aq->Heap->aF:=Ω ι [] .k (YR aae)
def aac (a0 a1:AV) (σ:Heap):aF:=(Wf 5 a0 μ (δ a1) σ).bind λx1=>(Lk [x1] σ).bind λr2=>(Wf 5 a0 (δ a1) μ r2.2).bind λx3=>(Lk [x3] r2.2).bind λr4=>(Lk [a0] r4.2).bind λr5=>δ ((Yu []),r5.2)
def Tm:aq->Heap->aF:=Ω ι [] .k (Xw aac)
def aab (a0 a1:AV) (σ:Heap):aF:=(UY a0).bind λx1=>(Uk x1 a1).bind λx2=>(Tm [a0,x2] σ).bind λr3=>δ ((Yu []),r3.2)
def Lh:aq->Heap->aF:=Ω ι [] .k (Xw aab)
def PB (a0 a1 a2:AV) (σ:Heap):aF:=(Wf 5 a0 (δ a1) μ σ).bind λx1=>(UY a2).bind λx2=>(ZA .i x2 (ε 0)).bind λx3=>φ x3 (ZD [a0,a1,a2] σ a0 σ) ((UY a0).bind λx4=>(ZA .i a1 x4).bind λx5=>φ x5 ((WK 5 (140737488355328 / 48) a0 a2 σ).bind λr6=>ZD [a0,a1,a2] σ r6.1 r6.2) ((WE x4 x2).bind λx7=>A.Fc (A.NF a0) (λx8=>(YK x7 x8).bind λx9=>φ x9 ((Wf 5 a0 μ (δ a1) σ).bind λbl=>(WE x4 x2).bind λbT=>(Uk bT a1).bind λbR=>(A.AF 5 (140737488355328 / 48) [(ε 0),bE,(ε 0),(ε 0),(ε 0)] bl bR σ).bind λjU=>(Wf 5 jU.1 (δ a1) μ jU.2).bind λbW=>(A.n5 5 bW a2 jU.2).bind λjd=>(WE a1 x2).bind λbO=>(Wf 5 jU.1 (δ bO) μ jd.2).bind λcg=>(Wf 5 a0 (δ a1) μ jd.2).bind λcQ=>(A.n5 5 cg cQ jd.2).bind λkN=>ZD [a0,a1,a2] σ jU.1 kN.2) ((WE x4 x2).bind λcS=>(Wf 5 a0 μ (δ cS) σ).bind λbL=>(WE a1 x2).bind λcI=>(Wf 5 bL (δ cI) μ σ).bind λep=>(BD [a2,ep] σ).bind λkO=>(Wk kO.1).bind λx25=>φ x25 ((WE a1 x2).bind λfH=>(Wf 5 bL (δ fH) μ kO.2).bind λfB=>(Wf 5 bL (δ a1) μ kO.2).bind λx28=>(A.n5 5 fB x28 kO.2).bind λnW=>(Wf 5 bL (δ a1) μ nW.2).bind λef=>(A.n5 5 ef a2 nW.2).bind λpe=>ZD [a0,a1,a2] σ bL pe.2) ((Wf 5 bL (δ x4) μ kO.2).bind λx32=>(A.n5 5 x32 a2 kO.2).bind λkY=>(Wf 5 bL (δ a1) μ kY.2).bind λx34=>(Lh [x34,x2] kY.2).bind λEj=>ZD [a0,a1,a2] σ bL Ej.2))) (A.Fe a0 σ λn36 nH=>(YK x7 (ε n36)).bind λx38=>φ x38 ((Wf 5 a0 μ (δ a1) nH).bind λiu=>(WE x4 x2).bind λgn=>(Uk gn a1).bind λfD=>(A.AF 5 (140737488355328 / 48) [(ε 0),bE,(ε 0),(ε 0),(ε 0)] iu fD nH).bind λBx=>(Wf 5 Bx.1 (δ a1) μ Bx.2).bind λgL=>(A.n5 5 gL a2 Bx.2).bind λeG=>(WE a1 x2).bind λfE=>(Wf 5 Bx.1 (δ fE) μ eG.2).bind λiZ=>(Wf 5 a0 (δ a1) μ eG.2).bind λjf=>(A.n5 5 iZ jf eG.2).bind λpR=>ZD [a0,a1,a2] σ Bx.1 pR.2) ((WE x4 x2).bind λgu=>(Wf 5 a0 μ (δ gu) nH).bind λjg=>(WE a1 x2).bind λgM=>(Wf 5 jg (δ gM) μ nH).bind λgp=>(BD [a2,gp] nH).bind λgm=>(Wk gm.1).bind λkJ=>φ kJ ((WE a1 x2).bind λkV=>(Wf 5 jg (δ kV) μ gm.2).bind λjC=>(Wf 5 jg (δ a1) μ gm.2).bind λlQ=>(A.n5 5 jC lQ gm.2).bind λxR=>(Wf 5 jg (δ a1) μ xR.2).bind λi6=>(A.n5 5 i6 a2 xR.2).bind λLa=>ZD [a0,a1,a2] σ jg La.2) ((Wf 5 jg (δ x4) μ gm.2).bind λkn=>(A.n5 5 kn a2 gm.2).bind λuV=>(Wf 5 jg (δ a1) μ uV.2).bind λfK=>(Lh [fK,x2] uV.2).bind λr64=>ZD [a0,a1,a2] σ jg r64.2)))))
def Ll:aq->Heap->aF:=Ω ι [] .k (X5 PB)
def PD (a0:AV) (σ:Heap):aF:=(A.wO a0 Zg).bind λx1=>φ x1 (δ (Zg,σ)) ((WK 2 (140737488355328 / 16) AV.ez a0 σ).bind λr2=>δ (r2.1,r2.2))
def F5:aq->Heap->aF:=A.xu (Ω θ [(.s 2)] .k (YR PD))
def aBw (a0:AV) (σ:Heap):aF:=(A.wO a0 Zg).bind λx1=>φ x1 (δ (Zg,σ)) ((WK 8 (140737488355328 / 64) AV.ez a0 σ).bind λr2=>δ (r2.1,r2.2))
def ar1:aq->Heap->aF:=A.xu (Ω θ [(.s 8)] .k (YR aBw))
def Iy (dyn:Nat->aq->Heap->aF) (a0 a1 a2:AV) (σ:Heap):aF:=(UY a0).bind λx1=>(Y7 (λv2 s3=>(YY (aj v2 0) (aj v2 1)).bind λx5=>φ x5 ((WE (aj v2 0) (aj v2 1)).bind λx6=>(A.conv .u64 x6).bind λx7=>(A.shr x7 (Wz .u64 1)).bind λx8=>(A.conv ξ x8).bind λx9=>(Zo 11 a0 x9).bind λbl=>((χ bl s3).bind λfq=>VU 0 11 fq).bind λbR=>(A.l8 dyn a2 [bR,a1] s3).bind λjU=>(YY jU.1 (ε 0)).bind λbW=>(φ bW ((WE x9 (ε 1)).bind λbO=>δ ([bO,(aj v2 1)],jU.2)) (δ ([(aj v2 0),x9],jU.2))).bind λjd=>δ (Xv,[(aj jd.1 0),(aj jd.1 1)],jd.2)) (δ (Ξ 0,[(aj v2 0),(aj v2 1)],s3))) [(ε 0),x1] σ).bind λvY=>bif vY.1==Ξ 0 then((YY (aj vY.2.1 0) x1).bind λcQ=>(η cQ θ (δ a2) au).bind λdZ=>(η cQ θ (δ a0) au).bind λcS=>(η cQ θ (δ (aj vY.2.1 0)) au).bind λbL=>(η cQ θ (Zo 11 cS bL) au).bind λcI=>(η cQ θ ((χ cI vY.2.2).bind λgj=>VU 0 11 gj) au).bind λx24=>(η cQ θ (δ a1) au).bind λx25=>(η cQ θ (Wi (A.l8 dyn dZ [x24,x25] vY.2.2) vY.2.2) au).bind λfH=>(η cQ θ (ZA .i fH (ε 0)) au).bind λfB=>(UD cQ fB aR).bind λx28=>wh σ (Yu [(aj vY.2.1 0),x28]) vY.2.2)else μ
def Ix (dyn:Nat->aq->Heap->aF):aq->Heap->aF:=Ω θ [(.s 11)] .k (X5 (Iy dyn))
def aai (a0:AV) (σ:Heap):aF:=(A.wO a0 Zg).bind λx1=>φ x1 (δ (Zg,σ)) ((WK 11 (140737488355328 / 128) AV.ez a0 σ).bind λr2=>δ (r2.1,r2.2))
def PE:aq->Heap->aF:=A.xu (Ω θ [(.s 11)] .k (YR aai))
def Pz (dyn:Nat->aq->Heap->aF) (a0 a1:AV) (σ:Heap):aF:=(UY a0).bind λx1=>(Y7 (λv2 s3=>(YY (aj v2 1) x1).bind λx5=>φ x5 ((Zo 11 a0 (aj v2 1)).bind λx6=>((χ x6 s3).bind λc7=>VU 0 11 c7).bind λx8=>(A.l8 dyn a1 [x8] s3).bind λr9=>φ r9.1 (δ (YP,[(aj v2 1),(aj v2 1)],r9.2)) ((WE (aj v2 1) (ε 1)).bind λbl=>δ (Xv,[(aj v2 0),bl],r9.2))) (δ (Ξ 0,[(aj v2 0),(aj v2 1)],s3))) [(ε 0),(ε 0)] σ).bind λdc=>bif dc.1==Ξ 0 then(wh σ (ε (-1)) dc.2.2)else bif dc.1==YP then(wh σ (aj dc.2.1 0) dc.2.2)else μ
def Lj (dyn:Nat->aq->Heap->aF):aq->Heap->aF:=Ω θ [(.s 11)] .k (Xw (Pz dyn))
def Px (dyn:Nat->aq->Heap->aF) (a0 a1:AV) (σ:Heap):aF:=(UY a0).bind λx1=>(Y7 (λv2 s3=>(YY (aj v2 1) x1).bind λx5=>φ x5 ((Zo 2 a0 (aj v2 1)).bind λx6=>((χ x6 s3).bind λc7=>VU 0 2 c7).bind λx8=>(A.l8 dyn a1 [x8] s3).bind λr9=>φ r9.1 (δ (YP,[(aj v2 1),(aj v2 1)],r9.2)) ((WE (aj v2 1) (ε 1)).bind λbl=>δ (Xv,[(aj v2 0),bl],r9.2))) (δ (Ξ 0,[(aj v2 0),(aj v2 1)],s3))) [(ε 0),(ε 0)] σ).bind λdc=>bif dc.1==Ξ 0 then(wh σ (ε (-1)) dc.2.2)else bif dc.1==YP then(wh σ (aj dc.2.1 0) dc.2.2)else μ
def Pw (dyn:Nat->aq->Heap->aF):aq->Heap->aF:=Ω θ [(.s 2)] .k (Xw (Px dyn))
def Pr (dyn:Nat->aq->Heap->aF) (a0 a1:AV) (σ:Heap):aF:=(UY a0).bind λx1=>(Y7 (λv2 s3=>(YY (aj v2 1) x1).bind λx5=>φ x5 ((Zo 3 a0 (aj v2 1)).bind λx6=>((χ x6 s3).bind λc7=>VU 0 3 c7).bind λx8=>(A.l8 dyn a1 [x8] s3).bind λr9=>φ r9.1 (δ (YP,[(aj v2 1),(aj v2 1)],r9.2)) ((WE (aj v2 1) (ε 1)).bind λbl=>δ (Xv,[(aj v2 0),bl],r9.2))) (δ (Ξ 0,[(aj v2 0),(aj v2 1)],s3))) [(ε 0),(ε 0)] σ).bind λdc=>bif dc.1==Ξ 0 then(wh σ (ε (-1)) dc.2.2)else bif dc.1==YP then(wh σ (aj dc.2.1 0) dc.2.2)else μ
def Pq (dyn:Nat->aq->Heap->aF):aq->Heap->aF:=Ω θ [(.s 3)] .k (Xw (Pr dyn))
def Pp (dyn:Nat->aq->Heap->aF) (a0 a1:AV) (σ:Heap):aF:=(Pq dyn [a0,a1] σ).bind λr1=>(YI r1.1 (ε 0)).bind λx2=>wh σ x2 r1.2
def Po (dyn:Nat->aq->Heap->aF):aq->Heap->aF:=Ω θ [(.s 3)] .k (Xw (Pp dyn))
def aCL (a0:AV) (σ:Heap):aF:=(A.wO a0 Zg).bind λx1=>φ x1 (δ (Zg,σ)) ((WK 3 (140737488355328 / 24) AV.ez a0 σ).bind λr2=>δ (r2.1,r2.2))
def Tn:aq->Heap->aF:=A.xu (Ω θ [(.s 3)] .k (YR aCL))
def aAm (a0:AV) (σ:Heap):aF:=(A.wO a0 Zg).bind λx1=>φ x1 (δ (Zg,σ)) ((WK 4 (140737488355328 / 40) AV.ez a0 σ).bind λr2=>δ (r2.1,r2.2))
def aAD:aq->Heap->aF:=A.xu (Ω θ [(.s 4)] .k (YR aAm))
def aag (a0:AV) (σ:Heap):aF:=(A.wO a0 Zg).bind λx1=>φ x1 (δ (Zg,σ)) ((WK 7 (140737488355328 / 80) AV.ez a0 σ).bind λr2=>δ (r2.1,r2.2))
def Tr:aq->Heap->aF:=A.xu (Ω θ [(.s 7)] .k (YR aag))
def aB0 (a0:AV) (σ:Heap):aF:=(A.wO a0 Zg).bind λx1=>φ x1 (δ (Zg,σ)) ((WK 3 (140737488355328 / 32) AV.ez a0 σ).bind λr2=>δ (r2.1,r2.2))
def as0:aq->Heap->aF:=A.xu (Ω θ [(.s 3)] .k (YR aB0))
def Tq (a0:AV) (σ:Heap):aF:=(A.wO a0 Zg).bind λx1=>φ x1 (δ (Zg,σ)) ((WK 3 (140737488355328 / 32) AV.ez a0 σ).bind λr2=>δ (r2.1,r2.2))
def Tp:aq->Heap->aF:=A.xu (Ω θ [(.s 3)] .k (YR Tq))
def IB (a0:AV) (σ:Heap):aF:=(A.wO a0 Zg).bind λx1=>φ x1 (δ (Zg,σ)) ((WK 10 (140737488355328 / 96) AV.ez a0 σ).bind λr2=>δ (r2.1,r2.2))
def Iz:aq->Heap->aF:=A.xu (Ω ι [] .k (YR IB))
def Pv (dyn:Nat->aq->Heap->aF) (a0 a1:AV) (σ:Heap):aF:=(UY a0).bind λx1=>(Y7 (λv2 s3=>(YY (aj v2 1) x1).bind λx5=>φ x5 ((Zo 10 a0 (aj v2 1)).bind λx6=>((χ x6 s3).bind λc7=>VU 0 10 c7).bind λx8=>(A.l8 dyn a1 [x8] s3).bind λr9=>φ r9.1 (δ (YP,[(aj v2 1),(aj v2 1)],r9.2)) ((WE (aj v2 1) (ε 1)).bind λbl=>δ (Xv,[(aj v2 0),bl],r9.2))) (δ (Ξ 0,[(aj v2 0),(aj v2 1)],s3))) [(ε 0),(ε 0)] σ).bind λdc=>bif dc.1==Ξ 0 then(wh σ (ε (-1)) dc.2.2)else bif dc.1==YP then(wh σ (aj dc.2.1 0) dc.2.2)else μ
def Ev (dyn:Nat->aq->Heap->aF):aq->Heap->aF:=Ω θ [(.s 10)] .k (Xw (Pv dyn))
def aap (a0:AV) (σ:Heap):aF:=(((Ψ a0).bind λv=>δ [v]).bind λcs=>δ (ZN cs)).bind λx1=>wh σ (AV.fn 359 [x1]) σ
def PG:aq->Heap->aF:=Ω θ [] .k (YR aap)
end
section
def Vv (a0:AV) (σ:Heap):aF:=(A.yE a0).bind λx1=>(Y7 (λv2 s3=>(YY (aj v2 1) x1).bind λx5=>φ x5 ((A.qy a0 (aj v2 1)).bind λx6=>(YY x6 (Wz .u8 97)).bind λx7=>(η x7 ι (δ x6) au).bind λx8=>(η x7 ι (YK x8 (Wz .u8 122)) au).bind λx9=>(UD x7 dz x9).bind λbl=>(η bl θ (δ x6) au).bind λbT=>(η bl θ (YY bT (Wz .u8 48)) au).bind λbR=>(η bl θ (δ bR) au).bind λbZ=>(η bZ ι (δ x6) au).bind λbW=>(η bZ ι (YK bW (Wz .u8 57)) au).bind λcN=>(η bl θ (UD bZ dz cN) au).bind λbO=>(UD bl bO aR).bind λcg=>(η cg θ (δ x6) au).bind λcQ=>(η cg θ (UP .i cQ (Wz .u8 45)) au).bind λdZ=>(UD cg dZ aR).bind λcS=>φ cS (δ (YP,[aR,(aj v2 1)],s3)) ((WE (aj v2 1) (ε 1)).bind λbL=>δ (Xv,[(aj v2 0),bL],s3))) (δ (Ξ 0,[(aj v2 0),(aj v2 1)],s3))) [aR,(ε 0)] σ).bind λyY=>bif yY.1==Ξ 0 then((UP .z a0 bE).bind λep=>wh σ ep yY.2.2)else bif yY.1==YP then(wh σ (aj yY.2.1 0) yY.2.2)else μ
def Vn:aq->Heap->aF:=Ω θ [] .k (YR Vv)
def aB9 (a0:AV) (σ:Heap):aF:=(Vn [a0] σ).bind λr1=>(η r1.1 θ (δ a0) au).bind λx2=>(η r1.1 θ (A.yE x2) au).bind λx3=>(η r1.1 θ (Ze x3 (ε 20)) au).bind λx4=>(UD r1.1 x4 aR).bind λx5=>(η x5 θ (δ a0) au).bind λx6=>(η x5 θ (A.qy x6 (ε 0)) au).bind λx7=>(η x5 θ (YI x7 (Wz .u8 97)) au).bind λx8=>(UD x5 x8 aR).bind λx9=>(η x9 θ (δ a0) au).bind λbl=>(η x9 θ (A.qy bl (ε 0)) au).bind λbT=>(η x9 θ (Ze bT (Wz .u8 122)) au).bind λbR=>(UD x9 bR aR).bind λbZ=>wh σ bZ r1.2
def Jd:aq->Heap->aF:=Ω θ [] .k (YR aB9)
def Vw (a0 a1 a2:AV) (σ:Heap):aF:=(YI a0 a1).bind λx1=>(η x1 θ (δ a0) au).bind λx2=>(η x1 θ (δ a2) au).bind λx3=>(η x1 θ (Ze x2 x3) au).bind λx4=>(UD x1 x4 aR).bind λx5=>wh σ x5 σ
def rV:aq->Heap->aF:=Ω θ [] .k (X5 Vw)
def U4 (a0:AV) (σ:Heap):aF:=(rV [a0,(ε 0),(ε 65535)] σ).bind λr1=>wh σ r1.1 r1.2
def EB:aq->Heap->aF:=Ω θ [] .k (YR U4)
def aBu (a0:AV) (σ:Heap):aF:=(ZA .z a0 bE).bind λx1=>(η x1 ι (δ a0) au).bind λx2=>(η x1 ι (A.yE x2) au).bind λx3=>(η x1 ι (YK x3 (ε 60)) au).bind λx4=>(UD x1 dz x4).bind λx5=>(η x5 ι (δ a0) au).bind λx6=>(η x5 ι (A.qy x6 (ε 0)) au).bind λx7=>(η x5 ι (ZA .i x7 (Wz .u8 32)) au).bind λx8=>(UD x5 dz x8).bind λx9=>(η x9 ι (δ a0) au).bind λbl=>(η x9 ι (δ a0) au).bind λbT=>(η x9 ι (A.yE bT) au).bind λbR=>(η x9 ι (Uk bR (ε 1)) au).bind λbZ=>(η x9 ι (A.qy bl bZ) au).bind λbW=>(η x9 ι (ZA .i bW (Wz .u8 32)) au).bind λcN=>(UD x9 dz cN).bind λbO=>φ bO (wh σ aR σ) ((A.yE a0).bind λcg=>(Y7 (λjk Aq=>(YY (aj jk 1) cg).bind λbL=>φ bL ((A.qy a0 (aj jk 1)).bind λcI=>(YY cI (Wz .u8 32)).bind λep=>(η ep ι (δ a0) au).bind λx24=>(η ep ι (δ (aj jk 1)) au).bind λx25=>(η ep ι (A.qy x24 x25) au).bind λfH=>(η ep ι (YK fH (Wz .u8 126)) au).bind λfB=>(UD ep dz fB).bind λx28=>φ x28 (δ (YP,[aR,(aj jk 1)],Aq)) ((WE (aj jk 1) (ε 1)).bind λx29=>δ (Xv,[(aj jk 0),x29],Aq))) (δ (Ξ 0,[(aj jk 0),(aj jk 1)],Aq))) [aR,(ε 0)] σ).bind λoZ=>bif oZ.1==Ξ 0 then(wh σ dz oZ.2.2)else bif oZ.1==YP then(wh σ (aj oZ.2.1 0) oZ.2.2)else μ)
def Qg:aq->Heap->aF:=Ω θ [] .k (YR aBu)
def aCk (a0:AV) (σ:Heap):aF:=(rV [a0,(ε 0),(ε 36000000)] σ).bind λr1=>wh σ r1.1 r1.2
def ED:aq->Heap->aF:=Ω θ [] .k (YR aCk)
def Ul (a0:AV) (σ:Heap):aF:=(ψ 2 a0).bind λc1=>(Γ 0 c1).bind λx2=>(rV [x2,(ε 1),(ε 6)] σ).bind λr3=>(Wk r3.1).bind λx4=>φ x4 (wh σ (ε 4) r3.2) ((Γ 0 c1).bind λx5=>(UP .i x5 (ε 6)).bind λx6=>(η x6 θ (Γ 1 c1) au).bind λx7=>(η x6 θ (UY x7) au).bind λx8=>(η x6 θ (YK x8 (ε 0)) au).bind λx9=>(UD x6 x9 aR).bind λbl=>φ bl (wh σ (ε 3) r3.2) ((Γ 0 c1).bind λbT=>(UP .i bT (ε 6)).bind λbR=>φ bR (wh σ (ε 0) r3.2) ((Γ 1 c1).bind λbZ=>(UY bZ).bind λbW=>(YY bW (ε 2)).bind λcN=>φ cN (wh σ (ε 8) r3.2) ((Γ 1 c1).bind λbO=>(UY bO).bind λcg=>(YK cg (ε 20)).bind λcQ=>φ cQ (wh σ (ε 2) r3.2) ((Γ 1 c1).bind λdZ=>(UY dZ).bind λcS=>(Y7 (λv21 Io=>(YY (aj v21 2) cS).bind λx24=>φ x24 ((Zo 2 dZ (aj v21 2)).bind λx25=>((χ x25 Io).bind λjv=>VU 0 2 jv).bind λfB=>(ψ 2 fB).bind λme=>(ir 0 me [(ε 0),(ε 0)]).bind λqC=>(Γ 0 qC).bind λef=>(rV [ef,(ε 0),(ε 1000)] Io).bind λpe=>(Wk pe.1).bind λx32=>(η x32 ι (Γ 1 qC) au).bind λiN=>(η x32 ι (Wi (rV [iN,(ε 0),(ε 1000)] pe.2) pe.2) au).bind λx34=>(η x32 ι (Wk x34) au).bind λgV=>(UD x32 dz gV).bind λiD=>φ iD (δ (YP,[(aj v21 0),(ε 1),(aj v21 2)],pe.2)) ((WE (aj v21 2) (ε 1)).bind λfI=>δ (Xv,[(aj v21 0),(aj v21 1),fI],pe.2))) (δ (Ξ 1,[(aj v21 0),(aj v21 1),(aj v21 2)],Io))) [(VD c1),(ε 0),(ε 0)] r3.2).bind λpQ=>bif pQ.1==Ξ 1 then(((Tv (aj pQ.2.1 0)).bind λ_=>δ (1)).bind λp39=>((Tv (aj pQ.2.1 0)).bind λoO=>Γ p39 oO).bind λfD=>(Zo 2 fD (ε 0)).bind λjB=>((χ jB pQ.2.2).bind λsK=>VU 0 2 sK).bind λgA=>(UP (.s [0,0]) gA (Φ [(ε 0),(ε 0)])).bind λfE=>((Tv (aj pQ.2.1 0)).bind λ_ => δ (1)).bind λIe =>(η fE ι ((Tv (aj pQ.2.1 0)).bind λlX=>Γ Ie lX) au).bind λiO=>((Tv (aj pQ.2.1 0)).bind λ_ => δ (1)).bind λp49 =>(η fE ι ((Tv (aj pQ.2.1 0)).bind λsL=>Γ p49 sL) au).bind λgM=>(η fE ι (UY gM) au).bind λgp=>(η fE ι (Uk gp (ε 1)) au).bind λmq=>(η fE ι (Zo 2 iO mq) au).bind λkJ=>(η fE ι ((χ kJ pQ.2.2).bind λtU=>VU 0 2 tU) au).bind λjC=>(η fE ι ((((Ψ (ε 1000)).bind λv=>δ [v]).bind λnE=>(ir 0 nE [(ε 0),(ε 0)]).bind λpO=>((Ψ (ε 1000)).bind λv=>δ [v]).bind λDY=>(ir 1 DY pO).bind λxM=>δ xM).bind λcs=>δ (Φ cs)) au).bind λkn=>(η fE ι (UP (.s [0,0]) jC kn) au).bind λjh=>(UD fE dz jh).bind λfK=>φ fK (wh σ (ε 3) pQ.2.2) ((Y7 (λv64 vZ=>((Tv (aj v64 0)).bind λ_=>δ (1)).bind λp67=>((Tv (aj v64 0)).bind λD0=>Γ p67 D0).bind λkC=>(UY kC).bind λlZ=>(YY (aj v64 2) lZ).bind λsW=>φ sW (((Tv (aj v64 0)).bind λ_=>δ (1)).bind λp72=>((Tv (aj v64 0)).bind λD1=>Γ p72 D1).bind λqP=>(Zo 2 qP (aj v64 2)).bind λkK=>(WC 0 kK).bind λnX=>((χ nX vZ).bind λwM=>Γ 0 wM).bind λsY=>((Tv (aj v64 0)).bind λ_=>δ (1)).bind λp79=>((Tv (aj v64 0)).bind λAf=>Γ p79 Af).bind λw8=>(Uk (aj v64 2) (ε 1)).bind λvf=>(Zo 2 w8 vf).bind λue=>(WC 0 ue).bind λuf=>((χ uf vZ).bind λBj=>Γ 0 Bj).bind λxg=>(Ze sY xg).bind λnh=>((Tv (aj v64 0)).bind λ_ => δ (1)).bind λp88 =>(η nh ι ((Tv (aj v64 0)).bind λqE=>Γ p88 qE) au).bind λx90=>(η nh ι (δ (aj v64 2)) au).bind λx91=>(η nh ι (Zo 2 x90 x91) au).bind λtc=>(η nh ι (WC 1 tc) au).bind λx93=>(η nh ι ((χ x93 vZ).bind λwN=>Γ 0 wN) au).bind λx95=>((Tv (aj v64 0)).bind λ_ => δ (1)).bind λp96 =>(η nh ι ((Tv (aj v64 0)).bind λBl=>Γ p96 Bl) au).bind λx98=>(η nh ι (δ (aj v64 2)) au).bind λx99=>(η nh ι (Uk x99 (ε 1)) au).bind λyI=>(η nh ι (Zo 2 x98 yI) au).bind λx101=>(η nh ι (WC 1 x101) au).bind λx102=>(η nh ι ((χ x102 vZ).bind λNj=>Γ 0 Nj) au).bind λx104=>(η nh ι (YY x95 x104) au).bind λxK=>(UD nh dz xK).bind λBd=>φ Bd (δ (YP,[(aj v64 0),(ε 7),(aj v64 2)],vZ)) ((WE (aj v64 2) (ε 1)).bind λBe=>δ (Xv,[(aj v64 0),(aj v64 1),Be],vZ))) (δ (Ξ 3,[(aj v64 0),(aj v64 1),(aj v64 2)],vZ))) [(aj pQ.2.1 0),(aj pQ.2.1 1),(ε 1)] pQ.2.2).bind λCp=>bif Cp.1==Ξ 3 then(wh σ (ε 0) Cp.2.2)else bif Cp.1==YP then(wh σ (aj Cp.2.1 1) Cp.2.2)else μ))else bif pQ.1==YP then(wh σ (aj pQ.2.1 1) pQ.2.2)else μ)))))
def Ug:aq->Heap->aF:=Ω θ [(.a [.k,(.s 2)])] .k (YR Ul)
end
section
def V3 (a0:AV) (σ:Heap):aF:=(ψ 7 a0).bind λc1=>(Γ 3 c1).bind λx2=>(ZA .i x2 (ε 0)).bind λx3=>φ x3 ((Γ 2 c1).bind λx4=>((((Ψ x4).bind λv=>δ [v]).bind λc5=>(ir 0 c5 [(ε 0)]).bind λc6=>δ c6).bind λcs=>δ (Yh 1 (iP 1 1 cs))).bind λx7=>wh σ x7 σ) ((Γ 2 c1).bind λx8=>(Γ 3 c1).bind λx9=>((((Ψ x8).bind λv=>δ [v]).bind λeR=>(ir 0 eR [(ε 0),(ε 0)]).bind λfq=>((Ψ x9).bind λv=>δ [v]).bind λcZ=>(ir 1 cZ fq).bind λfU=>δ fU).bind λcs=>δ (Yh 1 (iP 1 2 cs))).bind λbW=>wh σ bW σ)
def QE:aq->Heap->aF:=Ω θ [(.a qz)] (.s 1) (YR V3)
def Um (a0 a1 a2:AV) (σ:Heap):aF:=(ψ 7 a0).bind λc1=>(Γ 0 c1).bind λx2=>(Jd [x2] σ).bind λr3=>(Wk r3.1).bind λx4=>φ x4 (wh σ (ε 5) r3.2) ((UY a1).bind λx5=>(Y7 (λv6 s7=>(YY (aj v6 2) x5).bind λx9=>φ x9 ((Zo 7 a1 (aj v6 2)).bind λbl=>((χ bl s7).bind λfq=>VU 0 7 fq).bind λbR=>(ψ 7 bR).bind λfU=>(ir 0 fU [bE,(ε 0),(ε 0),(ε 0),(ε 0),aR,Zg]).bind λia=>(Γ 0 ia).bind λcN=>((Tv (aj v6 0)).bind λ_=>δ (0)).bind λp16=>((Tv (aj v6 0)).bind λlW=>Γ p16 lW).bind λcQ=>(ZA .z cN cQ).bind λdZ=>φ dZ (δ (YP,[(aj v6 0),(ε 6),(aj v6 2)],s7)) ((WE (aj v6 2) (ε 1)).bind λcS=>δ (Xv,[(aj v6 0),(aj v6 1),cS],s7))) (δ (Ξ 0,[(aj v6 0),(aj v6 1),(aj v6 2)],s7))) [(VD c1),(ε 0),(ε 0)] r3.2).bind λkj=>bif kj.1==Ξ 0 then(((Tv (aj kj.2.1 0)).bind λ_=>δ (1)).bind λp22=>((Tv (aj kj.2.1 0)).bind λgj=>Γ p22 gj).bind λx24=>(rV [x24,(ε 1),(ε 4)] kj.2.2).bind λoW=>(Wk oW.1).bind λfH=>φ fH (wh σ (ε 4) oW.2) (((Tv (aj kj.2.1 0)).bind λ_=>δ (2)).bind λp27=>((Tv (aj kj.2.1 0)).bind λme=>Γ p27 me).bind λx29=>(rV [x29,(ε 1),a2] oW.2).bind λoZ=>(Wk oZ.1).bind λx31=>((Tv (aj kj.2.1 0)).bind λ_=>δ (3)).bind λOU=>(η x31 ι ((Tv (aj kj.2.1 0)).bind λwL=>Γ OU wL) au).bind λx34=>(η x31 ι (δ a2) au).bind λgV=>(η x31 ι (Wi (rV [x34,(ε 0),gV] oZ.2) oZ.2) au).bind λiD=>(η x31 ι (Wk iD) au).bind λfI=>(UD x31 dz fI).bind λx38=>((Tv (aj kj.2.1 0)).bind λ_=>δ (4)).bind λp39=>(η x38 ι ((Tv (aj kj.2.1 0)).bind λoO=>Γ p39 oO) au).bind λfD=>(η x38 ι (Wi (EB [fD] oZ.2) oZ.2) au).bind λjB=>(η x38 ι (Wk jB) au).bind λgL=>(UD x38 dz gL).bind λgA=>φ gA (wh σ (ε 1) oZ.2) (((Tv (aj kj.2.1 0)).bind λ_=>δ (2)).bind λp45=>((Tv (aj kj.2.1 0)).bind λOj=>Γ p45 Oj).bind λjf=>((Tv (aj kj.2.1 0)).bind λ_=>δ (3)).bind λp48=>((Tv (aj kj.2.1 0)).bind λBh=>Γ p48 Bh).bind λjg=>(ZA .i jf jg).bind λgM=>φ gM (wh σ (ε 12) oZ.2) ((UY a1).bind λgp=>(Y7 (λv53 s54=>(YY (aj v53 2) gp).bind λjC=>φ jC ((Zo 7 a1 (aj v53 2)).bind λlQ=>((χ lQ s54).bind λpO=>VU 0 7 pO).bind λi6=>(ψ 7 i6).bind λxM=>(ir 0 xM [bE,(ε 0),(ε 0),(ε 0),(ε 0),aR,Zg]).bind λuM=>((Tv (aj v53 0)).bind λZV=>VU 0 7 ZV).bind λfK=>(QE [fK] s54).bind λr64=>(UY r64.1).bind λoq=>(Y7 (λv66 s67=>(YY (aj v66 3) oq).bind λkC=>φ kC ((Zo 1 r64.1 (aj v66 3)).bind λlZ=>((χ lZ s67).bind λrR=>Γ 0 rR).bind λsX=>((Tv (aj v66 2)).bind λD1=>VU 0 7 D1).bind λqP=>(QE [qP] s67).bind λTb=>(PF [Tb.1,sX] Tb.2).bind λr76=>φ r76.1 (δ (YP,[(aj v66 0),(ε 12),(aj v66 2),(aj v66 3)],r76.2)) ((WE (aj v66 3) (ε 1)).bind λzb=>δ (Xv,[(aj v66 0),(aj v66 1),(aj v66 2),zb],r76.2))) (δ (Ξ 5,[(aj v66 0),(aj v66 1),(aj v66 2),(aj v66 3)],s67))) [(aj v53 0),(aj v53 1),(VD uM),(ε 0)] r64.2).bind λmj=>bif mj.1==Ξ 5 then((WE (aj v53 2) (ε 1)).bind λsZ=>δ (Xv,[(aj mj.2.1 0),(aj mj.2.1 1),sZ],mj.2.2))else bif mj.1==YP then(δ (YP,[(aj mj.2.1 0),(aj mj.2.1 1),(aj v53 2)],mj.2.2))else μ) (δ (Ξ 3,[(aj v53 0),(aj v53 1),(aj v53 2)],s54))) [(aj kj.2.1 0),(aj kj.2.1 1),(ε 0)] oZ.2).bind λpq=>bif pq.1==Ξ 3 then(((Tv (aj pq.2.1 0)).bind λ_=>δ (6)).bind λOW=>((Tv (aj pq.2.1 0)).bind λyQ=>Γ OW yQ).bind λue=>(UY ue).bind λuf=>(YK uf (ε 30)).bind λqQ=>φ qQ (wh σ (ε 2) pq.2.2) (((Tv (aj pq.2.1 0)).bind λ_=>δ (6)).bind λp86=>((Tv (aj pq.2.1 0)).bind λuN=>Γ p86 uN).bind λwg=>(UY wg).bind λEu=>(Y7 (λqo s91=>(YY (aj qo 2) Eu).bind λx93=>φ x93 ((Zo 3 wg (aj qo 2)).bind λqR=>((χ qR s91).bind λsN=>VU 0 3 sN).bind λx96=>(ψ 3 x96).bind λBl=>(ir 0 Bl [(ε 0),(ε 0),bE]).bind λqF=>(Γ 0 qF).bind λx99=>(EB [x99] s91).bind λHq=>(Wk Hq.1).bind λx101=>(η x101 ι (Γ 1 qF) au).bind λx102=>(η x101 ι (Wi (EB [x102] Hq.2) Hq.2) au).bind λAe=>(η x101 ι (Wk Ae) au).bind λx104=>(UD x101 dz x104).bind λxK=>(η xK ι (Γ 0 qF) au).bind λBd=>(η xK ι (Γ 1 qF) au).bind λBe=>(η xK ι (YK Bd Be) au).bind λDO=>(UD xK dz DO).bind λDP=>φ DP (δ (YP,[(aj qo 0),(ε 1),(aj qo 2)],Hq.2)) ((YK (aj qo 2) (ε 0)).bind λvL=>(η vL θ (Γ 0 qF) au).bind λayh=>((Tv (aj qo 0)).bind λ_=>δ (6)).bind λaxO=>(η vL θ ((Tv (aj qo 0)).bind λav7=>Γ axO av7) au).bind λx114=>(η vL θ (δ (aj qo 2)) au).bind λx115=>(η vL θ (Uk x115 (ε 1)) au).bind λaA3=>(η vL θ (Zo 3 x114 aA3) au).bind λDQ=>(η vL θ (WC 1 DQ) au).bind λHx=>(η vL θ ((χ Hx Hq.2).bind λaA9=>Γ 0 aA9) au).bind λN4=>(η vL θ (Ze ayh N4) au).bind λN5=>(UD vL N5 aR).bind λHy=>φ Hy (δ (YP,[(aj qo 0),(ε 7),(aj qo 2)],Hq.2)) ((Γ 2 qF).bind λayi=>(Jd [ayi] Hq.2).bind λHr=>(Wk Hr.1).bind λCs=>φ Cs (δ (YP,[(aj qo 0),(ε 5),(aj qo 2)],Hr.2)) (((Tv (aj qo 0)).bind λ_=>δ (6)).bind λaxQ=>((Tv (aj qo 0)).bind λzR=>Γ axQ zR).bind λKz=>(Wf 3 Kz μ (δ (aj qo 2)) Hr.2).bind λwG=>(UY wG).bind λDR=>(Y7 (λv131 SJ=>(YY (aj v131 3) DR).bind λN9=>φ N9 ((Zo 3 wG (aj v131 3)).bind λHz=>((χ Hz SJ).bind λYA=>VU 0 3 YA).bind λHA=>(ψ 3 HA).bind λawb=>(ir 0 awb [(ε 0),(ε 0),bE]).bind λNq=>(Γ 2 Nq).bind λOb=>((Tv (aj v131 2)).bind λ_=>δ (2)).bind λaxR=>((Tv (aj v131 2)).bind λNr=>Γ axR Nr).bind λDS=>(ZA .z Ob DS).bind λOd=>φ Od (δ (YP,[(aj v131 0),(ε 6),(aj v131 2),(aj v131 3)],SJ)) ((WE (aj v131 3) (ε 1)).bind λOe=>δ (Xv,[(aj v131 0),(aj v131 1),(aj v131 2),Oe],SJ))) (δ (Ξ 10,[(aj v131 0),(aj v131 1),(aj v131 2),(aj v131 3)],SJ))) [(aj qo 0),(aj qo 1),(VD qF),(ε 0)] Hr.2).bind λyF=>bif yF.1==Ξ 10 then((WE (aj qo 2) (ε 1)).bind λOf=>δ (Xv,[(aj yF.2.1 0),(aj yF.2.1 1),Of],yF.2.2))else bif yF.1==YP then(δ (YP,[(aj yF.2.1 0),(aj yF.2.1 1),(aj qo 2)],yF.2.2))else μ)))) (δ (Ξ 7,[(aj qo 0),(aj qo 1),(aj qo 2)],s91))) [(aj pq.2.1 0),(aj pq.2.1 1),(ε 0)] pq.2.2).bind λNZ=>bif NZ.1==Ξ 7 then(wh σ (ε 0) NZ.2.2)else bif NZ.1==YP then(wh σ (aj NZ.2.1 1) NZ.2.2)else μ))else bif pq.1==YP then(wh σ (aj pq.2.1 1) pq.2.2)else μ))))else bif kj.1==YP then(wh σ (aj kj.2.1 1) kj.2.2)else μ)
def Uh:aq->Heap->aF:=Ω θ [(.a qz),(.s 7)] .k (X5 Um)
def aAT (a0:AV) (σ:Heap):aF:=(ψ 3 a0).bind λc1=>(Γ 0 c1).bind λx2=>(Jd [x2] σ).bind λr3=>(Wk r3.1).bind λx4=>φ x4 (wh σ (ε 5) r3.2) ((Γ 1 c1).bind λx5=>(rV [x5,(ε 1),(ε 512)] r3.2).bind λr6=>(Wk r6.1).bind λx7=>φ x7 (wh σ (ε 1) r6.2) ((Γ 2 c1).bind λx8=>(UY x8).bind λx9=>(ZA .i x9 (ε 0)).bind λbl=>φ bl (wh σ (ε 8) r6.2) ((Γ 2 c1).bind λbT=>(UY bT).bind λbR=>(YK bR (ε 40)).bind λbZ=>φ bZ (wh σ (ε 2) r6.2) ((Γ 2 c1).bind λbW=>(UY bW).bind λcN=>(Y7 (λdY pE=>(YY (aj dY 2) cN).bind λdZ=>φ dZ ((Zo 7 bW (aj dY 2)).bind λcS=>((χ cS pE).bind λij=>VU 0 7 ij).bind λcI=>(ψ 7 cI).bind λgj=>(ir 0 gj [bE,(ε 0),(ε 0),(ε 0),(ε 0),aR,Zg]).bind λfW=>(VU 0 7 fW).bind λx25=>((Tv (aj dY 0)).bind λ_=>δ (2)).bind λp26=>((Tv (aj dY 0)).bind λkU=>Γ p26 kU).bind λx28=>(Wf 7 x28 μ (δ (aj dY 2)) pE).bind λx29=>((Tv (aj dY 0)).bind λ_=>δ (1)).bind λp30=>((Tv (aj dY 0)).bind λqD=>Γ p30 qD).bind λx32=>(Wi (Uh [x25,x29,x32] pE) pE).bind λiN=>(UP .i iN (ε 0)).bind λx34=>φ x34 (δ (YP,[(aj dY 0),iN,(aj dY 2)],pE)) ((WE (aj dY 2) (ε 1)).bind λgV=>δ (Xv,[(aj dY 0),(aj dY 1),gV],pE))) (δ (Ξ 1,[(aj dY 0),(aj dY 1),(aj dY 2)],pE))) [(VD c1),(ε 0),(ε 0)] r6.2).bind λBw=>bif Bw.1==Ξ 1 then(wh σ (ε 0) Bw.2.2)else bif Bw.1==YP then(wh σ (aj Bw.2.1 1) Bw.2.2)else μ))))
def TW:aq->Heap->aF:=Ω θ [(.a [.k,.k,(.s 7)])] .k (YR aAT)
def aAA (a0:AV) (σ:Heap):aF:=(UY a0).bind λx1=>(YK x1 (ε 60)).bind λx2=>φ x2 (wh σ (ε 2) σ) ((UY a0).bind λx3=>(Y7 (λv4 s5=>(YY (aj v4 1) x3).bind λx7=>φ x7 ((Zo 3 a0 (aj v4 1)).bind λx8=>((χ x8 s5).bind λc9=>VU 0 3 c9).bind λbl=>(ψ 3 bl).bind λfq=>(ir 0 fq [bE,(ε 0),Zg]).bind λcZ=>(VU 0 3 cZ).bind λbZ=>(TW [bZ] s5).bind λgD=>(UP .i gD.1 (ε 0)).bind λcN=>φ cN (δ (YP,[gD.1,(aj v4 1)],gD.2)) ((Wf 3 a0 μ (δ (aj v4 1)) gD.2).bind λbO=>(UY bO).bind λcg=>(Y7 (λjk Aq=>(YY (aj jk 2) cg).bind λbL=>φ bL ((Zo 3 bO (aj jk 2)).bind λcI=>((χ cI Aq).bind λgj=>VU 0 3 gj).bind λx24=>(ψ 3 x24).bind λiA=>(ir 0 iA [bE,(ε 0),Zg]).bind λjv=>(Γ 0 jv).bind λfB=>((Tv (aj jk 1)).bind λ_=>δ (0)).bind λp28=>((Tv (aj jk 1)).bind λqC=>Γ p28 qC).bind λef=>(ZA .z fB ef).bind λx31=>φ x31 (δ (YP,[(ε 6),(aj jk 1),(aj jk 2)],Aq)) ((WE (aj jk 2) (ε 1)).bind λx32=>δ (Xv,[(aj jk 0),(aj jk 1),x32],Aq))) (δ (Ξ 2,[(aj jk 0),(aj jk 1),(aj jk 2)],Aq))) [(aj v4 0),(VD cZ),(ε 0)] gD.2).bind λkY=>bif kY.1==Ξ 2 then((WE (aj v4 1) (ε 1)).bind λx34=>δ (Xv,[(aj kY.2.1 0),x34],kY.2.2))else bif kY.1==YP then(δ (YP,[(aj kY.2.1 0),(aj v4 1)],kY.2.2))else μ)) (δ (Ξ 0,[(aj v4 0),(aj v4 1)],s5))) [(ε 0),(ε 0)] σ).bind λEj=>bif Ej.1==Ξ 0 then(wh σ (ε 0) Ej.2.2)else bif Ej.1==YP then(wh σ (aj Ej.2.1 0) Ej.2.2)else μ)
def aAV:aq->Heap->aF:=Ω θ [(.s 3)] .k (YR aAA)
def LY (a0 a1:AV) (σ:Heap):aF:=(UY a0).bind λx1=>(Y7 (λv2 s3=>(YY (aj v2 2) x1).bind λx5=>φ x5 ((Zo 3 a0 (aj v2 2)).bind λx6=>((χ x6 s3).bind λc7=>VU 0 3 c7).bind λx8=>(ψ 3 x8).bind λc9=>(ir 0 c9 [bE,(ε 0),Zg]).bind λeR=>(Γ 0 eR).bind λbT=>(ZA .z bT a1).bind λbR=>φ bR ((VU 0 3 eR).bind λbZ=>(Tv (aj v2 0)).bind λjY=>(ψ 3 bZ).bind λia=>(ir 0 ia jY).bind λjj=>δ (YP,[(VD jj),dz,(aj v2 2)],s3)) ((WE (aj v2 2) (ε 1)).bind λcg=>δ (Xv,[(aj v2 0),(aj v2 1),cg],s3))) (δ (Ξ 0,[(aj v2 0),(aj v2 1),(aj v2 2)],s3))) [(VD [bE,(ε 0),Zg]),aR,(ε 0)] σ).bind λfP=>bif fP.1==Ξ 0 then((Tv (aj fP.2.1 0)).bind λij=>(ψ 3 (Φ [bE,(ε 0),Zg])).bind λiz=>(ir 0 iz ij).bind λiH=>(VU 0 3 iH).bind λcI=>wh σ (Yu [cI,aR]) fP.2.2)else bif fP.1==YP then(((Tv (aj fP.2.1 0)).bind λfW=>VU 0 3 fW).bind λep=>wh σ (Yu [ep,(aj fP.2.1 1)]) fP.2.2)else μ
def Gg:aq->Heap->aF:=Ω θ [(.s 3)] (.t [(.a [.k,.k,(.e 7 qz)]),.k]) (Xw LY)
def Wt (a0 a1:AV) (σ:Heap):aF:=(ψ 2 a0).bind λc1=>(ψ 4 a1).bind λc2=>(Γ 0 c1).bind λx3=>(Γ 1 c2).bind λx4=>(Gg [x3,x4] σ).bind λr5=>(Yn 0 r5.1).bind λx6=>(Yn 1 r5.1).bind λx7=>(ψ 3 x6).bind λc8=>(ir 0 c8 [bE,(ε 0),Zg]).bind λc9=>(Γ 3 c2).bind λbl=>(Γ 1 c9).bind λbT=>(WE bl bT).bind λbR=>(Uk bR (ε 1)).bind λbZ=>wh σ bZ r5.2
def Mo:aq->Heap->aF:=Ω θ [Ch] .k (Xw Wt)
def UR (a0:AV) (σ:Heap):aF:=(ψ 2 a0).bind λc1=>(Γ 0 c1).bind λx2=>(aAV [x2] σ).bind λr3=>(UP .i r3.1 (ε 0)).bind λx4=>φ x4 (wh σ r3.1 r3.2) ((Γ 1 c1).bind λx5=>(UY x5).bind λx6=>(YK x6 (ε 400)).bind λx7=>φ x7 (wh σ (ε 2) r3.2) ((Γ 1 c1).bind λx8=>(UY x8).bind λx9=>(Y7 (λv10 pS=>(YY (aj v10 2) x9).bind λbZ=>φ bZ ((Zo 4 x8 (aj v10 2)).bind λbW=>((χ bW pS).bind λjj=>VU 0 4 jj).bind λbO=>(ψ 4 bO).bind λlW=>(ir 0 lW [(ε 0),bE,(ε 0),(ε 0)]).bind λig=>((Tv (aj v10 0)).bind λ_=>δ (0)).bind λp19=>((Tv (aj v10 0)).bind λiH=>Γ p19 iH).bind λbL=>(Γ 1 ig).bind λcI=>(Gg [bL,cI] pS).bind λmY=>(Yn 0 mY.1).bind λx24=>(Yn 1 mY.1).bind λx25=>(ψ 3 x24).bind λjv=>(ir 0 jv [bE,(ε 0),Zg]).bind λkU=>(Γ 0 ig).bind λx28=>(rV [x28,(ε 1),(ε 9999)] mY.2).bind λnW=>(Wk nW.1).bind λef=>φ ef (δ (YP,[(aj v10 0),(ε 1),(aj v10 2)],nW.2)) ((YK (aj v10 2) (ε 0)).bind λx31=>(η x31 θ (Γ 0 ig) au).bind λx32=>((Tv (aj v10 0)).bind λ_ => δ (1)).bind λp33 =>(η x31 θ ((Tv (aj v10 0)).bind λuL=>Γ p33 uL) au).bind λgV=>(η x31 θ (δ (aj v10 2)) au).bind λiD=>(η x31 θ (Uk iD (ε 1)) au).bind λfI=>(η x31 θ (Zo 4 gV fI) au).bind λx38=>(η x31 θ (WC 0 x38) au).bind λiu=>(η x31 θ ((χ iu nW.2).bind λoO=>Γ 0 oO) au).bind λfD=>(η x31 θ (Ze x32 fD) au).bind λjB=>(UD x31 jB aR).bind λgL=>φ gL (δ (YP,[(aj v10 0),(ε 7),(aj v10 2)],nW.2)) ((Wk x25).bind λgA=>φ gA (δ (YP,[(aj v10 0),(ε 5),(aj v10 2)],nW.2)) ((Γ 2 ig).bind λfE=>(rV [fE,(ε 1),(ε 64)] nW.2).bind λkH=>(Wk kH.1).bind λjf=>(η jf ι (Γ 3 ig) au).bind λiO=>(η jf ι (Wi (rV [iO,(ε 1),(ε 512)] kH.2) kH.2) au).bind λgu=>(η jf ι (Wk gu) au).bind λjg=>(UD jf dz jg).bind λgM=>(η gM ι ((Tv (aj v10 0)).bind λDX=>VU 0 2 DX) au).bind λmq=>(η gM ι (VU 0 4 ig) au).bind λkJ=>(η gM ι (Wi (Mo [mq,kJ] kH.2) kH.2) au).bind λkV=>(η gM ι (YK kV (ε 512)) au).bind λjC=>(UD gM dz jC).bind λlQ=>φ lQ (δ (YP,[(aj v10 0),(ε 1),(aj v10 2)],kH.2)) (((Tv (aj v10 0)).bind λ_=>δ (1)).bind λp58=>((Tv (aj v10 0)).bind λDY=>Γ p58 DY).bind λkQ=>(Wf 4 kQ μ (δ (aj v10 2)) kH.2).bind λkn=>(UY kn).bind λjh=>(Y7 (λjG Ar=>(YY (aj jG 3) jh).bind λku=>φ ku ((Zo 4 kn (aj jG 3)).bind λpV=>((χ pV Ar).bind λD0=>VU 0 4 D0).bind λkC=>(ψ 4 kC).bind λFG=>(ir 0 FG [(ε 0),bE,(ε 0),(ε 0)]).bind λrR=>(Γ 2 rR).bind λsX=>((Tv (aj jG 2)).bind λ_=>δ (2)).bind λp73=>((Tv (aj jG 2)).bind λOm=>Γ p73 Om).bind λkK=>(ZA .i sX kK).bind λnX=>(η nX θ (Γ 3 rR) au).bind λzb=>(η nX θ ((Tv (aj jG 0)).bind λBi=>VU 0 2 Bi) au).bind λsZ=>(η nX θ ((Tv (aj jG 2)).bind λAf=>VU 0 4 Af) au).bind λw8=>(η nX θ (Wi (Mo [sZ,w8] Ar) Ar) au).bind λvf=>(η nX θ (Ze zb vf) au).bind λue=>(UD nX ue aR).bind λuf=>((Tv (aj jG 2)).bind λ_=>δ (3)).bind λp85=>(η uf θ ((Tv (aj jG 2)).bind λBk=>Γ p85 Bk) au).bind λnh=>(η uf θ ((Tv (aj jG 0)).bind λuO=>VU 0 2 uO) au).bind λEu=>(η uf θ (VU 0 4 rR) au).bind λx90=>(η uf θ (Wi (Mo [Eu,x90] Ar) Ar) au).bind λx91=>(η uf θ (Ze nh x91) au).bind λtc=>(UD uf tc aR).bind λx93=>φ x93 (δ (YP,[(aj jG 0),(ε 12),(aj jG 2),(aj jG 3)],Ar)) ((WE (aj jG 3) (ε 1)).bind λqR=>δ (Xv,[(aj jG 0),(aj jG 1),(aj jG 2),qR],Ar))) (δ (Ξ 3,[(aj jG 0),(aj jG 1),(aj jG 2),(aj jG 3)],Ar))) [(aj v10 0),(aj v10 1),(VD ig),(ε 0)] kH.2).bind λFZ=>bif FZ.1==Ξ 3 then((WE (aj v10 2) (ε 1)).bind λx96=>δ (Xv,[(aj FZ.2.1 0),(aj FZ.2.1 1),x96],FZ.2.2))else bif FZ.1==YP then(δ (YP,[(aj FZ.2.1 0),(aj FZ.2.1 1),(aj v10 2)],FZ.2.2))else μ))))) (δ (Ξ 0,[(aj v10 0),(aj v10 1),(aj v10 2)],pS))) [(VD c1),(ε 0),(ε 0)] r3.2).bind λIm=>bif Im.1==Ξ 0 then(wh σ (ε 0) Im.2.2)else bif Im.1==YP then(wh σ (aj Im.2.1 1) Im.2.2)else μ))
def aBt:aq->Heap->aF:=Ω θ [Ch] .k (YR UR)
def Wu (a0 a1:AV) (σ:Heap):aF:=(ψ 2 a0).bind λc1=>(Γ 1 c1).bind λx2=>(UY x2).bind λx3=>(Y7 (λv4 s5=>(YY (aj v4 1) x3).bind λx7=>φ x7 ((Zo 4 x2 (aj v4 1)).bind λx8=>((χ x8 s5).bind λc9=>VU 0 4 c9).bind λbl=>(ψ 4 bl).bind λfq=>(ir 0 fq [(ε 0),bE,(ε 0),(ε 0)]).bind λcZ=>(Γ 0 cZ).bind λbZ=>(ZA .i bZ a1).bind λbW=>φ bW (δ (YP,[(aj v4 1),(aj v4 1)],s5)) ((WE (aj v4 1) (ε 1)).bind λcN=>δ (Xv,[(aj v4 0),cN],s5))) (δ (Ξ 0,[(aj v4 0),(aj v4 1)],s5))) [(ε 0),(ε 0)] σ).bind λCE=>bif CE.1==Ξ 0 then(wh σ (ε (-1)) CE.2.2)else bif CE.1==YP then(wh σ (aj CE.2.1 0) CE.2.2)else μ
def aCs:aq->Heap->aF:=Ω θ [Ch] .k (Xw Wu)
def aBN (a0 a1:AV) (σ:Heap):aF:=(ψ 3 a0).bind λc1=>(Γ 2 c1).bind λx2=>(UY x2).bind λx3=>(Y7 (λv4 s5=>(YY (aj v4 2) x3).bind λx7=>φ x7 ((Zo 7 x2 (aj v4 2)).bind λx8=>((χ x8 s5).bind λc9=>VU 0 7 c9).bind λbl=>(ψ 7 bl).bind λfq=>(ir 0 fq [bE,(ε 0),(ε 0),(ε 0),(ε 0),aR,Zg]).bind λcZ=>(Γ 0 cZ).bind λbZ=>(ZA .z bZ a1).bind λbW=>φ bW ((VU 0 7 cZ).bind λcN=>(Tv (aj v4 0)).bind λig=>(ψ 7 cN).bind λjY=>(ir 0 jY ig).bind λlW=>δ (YP,[(VD lW),dz,(aj v4 2)],s5)) ((WE (aj v4 2) (ε 1)).bind λdZ=>δ (Xv,[(aj v4 0),(aj v4 1),dZ],s5))) (δ (Ξ 0,[(aj v4 0),(aj v4 1),(aj v4 2)],s5))) [(VD [bE,(ε 0),(ε 0),(ε 0),(ε 0),aR,Zg]),aR,(ε 0)] σ).bind λiX=>bif iX.1==Ξ 0 then((Tv (aj iX.2.1 0)).bind λgj=>(ψ 7 (Φ [bE,(ε 0),(ε 0),(ε 0),(ε 0),aR,Zg])).bind λij=>(ir 0 ij gj).bind λiL=>(VU 0 7 iL).bind λx24=>wh σ (Yu [x24,aR]) iX.2.2)else bif iX.1==YP then(((Tv (aj iX.2.1 0)).bind λjv=>VU 0 7 jv).bind λx25=>wh σ (Yu [x25,(aj iX.2.1 1)]) iX.2.2)else μ
def adr:aq->Heap->aF:=Ω θ [(.a [.k,.k,(.s 7)])] (.t [(.a qz),.k]) (Xw aBN)
def aCh (a0 a1:AV) (σ:Heap):aF:=(ψ 2 a0).bind λc1=>(ψ 2 a1).bind λc2=>(VU 0 2 c1).bind λx3=>(Γ 0 c2).bind λx4=>(aCs [x3,x4] σ).bind λr5=>(YY r5.1 (ε 0)).bind λx6=>φ x6 ((ψ 7 (Φ [bE,(ε 0),(ε 0),(ε 0),(ε 0),aR,Zg])).bind λc7=>(ir 0 c7 [bE,(ε 0),(ε 0),(ε 0),(ε 0),aR,Zg]).bind λc8=>(VU 0 7 c8).bind λx9=>wh σ (Yu [x9,aR]) r5.2) ((Γ 0 c1).bind λbl=>(Γ 1 c1).bind λbT=>(Zo 4 bT r5.1).bind λbR=>(WC 1 bR).bind λbZ=>((χ bZ r5.2).bind λia=>Γ 0 ia).bind λcN=>(Wi (Gg [bl,cN] r5.2) r5.2).bind λbO=>(Yn 0 bO).bind λcg=>(Yn 1 bO).bind λcQ=>(ψ 3 cg).bind λiz=>(ir 0 iz [bE,(ε 0),Zg]).bind λiH=>(VU 0 3 iH).bind λbL=>(Γ 1 c2).bind λcI=>(adr [bL,cI] r5.2).bind λmY=>(Yn 0 mY.1).bind λx24=>(Yn 1 mY.1).bind λx25=>(ψ 7 x24).bind λjv=>(ir 0 jv [bE,(ε 0),(ε 0),(ε 0),(ε 0),aR,Zg]).bind λkU=>(VU 0 7 kU).bind λx28=>wh σ (Yu [x28,x25]) mY.2)
def I6:aq->Heap->aF:=Ω θ [Ch] (.t [(.a qz),.k]) (Xw aCh)
def Vx (a0:AV) (σ:Heap):aF:=(ψ 2 a0).bind λc1=>(Γ 1 c1).bind λx2=>(UY x2).bind λx3=>(Y7 (λv4 s5=>(YY (aj v4 2) x3).bind λx7=>φ x7 ((Zo 4 x2 (aj v4 2)).bind λx8=>((χ x8 s5).bind λc9=>VU 0 4 c9).bind λbl=>(ψ 4 bl).bind λfq=>(ir 0 fq [(ε 0),bE,(ε 0),(ε 0)]).bind λcZ=>((Tv (aj v4 0)).bind λ_=>δ (0)).bind λp13=>((Tv (aj v4 0)).bind λia=>Γ p13 ia).bind λcN=>(Γ 1 cZ).bind λbO=>(Gg [cN,bO] s5).bind λvY=>(Yn 0 vY.1).bind λcQ=>(Yn 1 vY.1).bind λdZ=>(ψ 3 cQ).bind λiH=>(ir 0 iH [bE,(ε 0),Zg]).bind λij=>(Γ 2 ij).bind λcI=>(UY cI).bind λep=>(Y7 (λv24 s25=>(YY (aj v24 3) ep).bind λfB=>φ fB ((Zo 7 cI (aj v24 3)).bind λx28=>((χ x28 s25).bind λqC=>VU 0 7 qC).bind λef=>(ψ 7 ef).bind λqD=>(ir 0 qD [bE,(ε 0),(ε 0),(ε 0),(ε 0),aR,Zg]).bind λHL=>((Tv (aj v24 2)).bind λ_=>δ (0)).bind λp33=>((Tv (aj v24 2)).bind λuL=>Γ p33 uL).bind λgV=>(Γ 0 HL).bind λiD=>((((Ψ gV).bind λv=>δ [v]).bind λlN=>(ir 0 lN [(ε 0),bE]).bind λmU=>((Ψ iD).bind λv=>δ [v]).bind λoN=>(ir 1 oN mU).bind λoO=>δ oO).bind λcs=>δ (Φ cs)).bind λfD=>(((ψ 2 fD).bind λoh=>(ir 0 oh [(ε 0),bE]).bind λsK=>δ sK).bind λcs=>δ (Yh 2 (iP 2 1 cs))).bind λgA=>(WK 2 (140737488355328 / 24) (aj v24 1) gA s25).bind λuU=>(WE (aj v24 3) (ε 1)).bind λiZ=>δ (Xv,[(aj v24 0),uU.1,(aj v24 2),iZ],uU.2)) (δ (Ξ 2,[(aj v24 0),(aj v24 1),(aj v24 2),(aj v24 3)],s25))) [(aj v4 0),(aj v4 1),(VD cZ),(ε 0)] vY.2).bind λng=>bif ng.1==Ξ 2 then((WE (aj v4 2) (ε 1)).bind λiO=>δ (Xv,[(aj ng.2.1 0),(aj ng.2.1 1),iO],ng.2.2))else μ) (δ (Ξ 0,[(aj v4 0),(aj v4 1),(aj v4 2)],s5))) [(VD c1),Zg,(ε 0)] σ).bind λKZ=>bif KZ.1==Ξ 0 then(wh σ (aj KZ.2.1 1) KZ.2.2)else μ
def Vo:aq->Heap->aF:=Ω θ [Ch] (.s 2) (YR Vx)
end
section
def aB4 (a0 a1:AV) (σ:Heap):aF:=(ψ 2 a0).bind λc1=>(ψ 2 a1).bind λc2=>(Γ 0 c1).bind λx3=>(Γ 0 c2).bind λx4=>(YY x3 x4).bind λx5=>(η x5 ι (Γ 0 c1) au).bind λx6=>(η x5 ι (Γ 0 c2) au).bind λx7=>(η x5 ι (ZA .i x6 x7) au).bind λx8=>(η x5 ι (δ x8) au).bind λx9=>(η x9 θ (Γ 1 c1) au).bind λbl=>(η x9 θ (Γ 1 c2) au).bind λbT=>(η x9 θ (YY bl bT) au).bind λbR=>(η x5 ι (UD x9 bR aR) au).bind λbZ=>(UD x5 dz bZ).bind λbW=>wh σ bW σ
def L3:aq->Heap->aF:=Ω θ [] .k (Xw aB4)
def T3 (a0 a1:AV) (σ:Heap):aF:=(ψ 2 a0).bind λc1=>(VU 0 2 c1).bind λx2=>(aBt [x2] σ).bind λr3=>(UP .i r3.1 (ε 0)).bind λx4=>φ x4 (wh σ r3.1 r3.2) ((UY a1).bind λx5=>(YK x5 (ε 200)).bind λx6=>φ x6 (wh σ (ε 2) r3.2) ((UY a1).bind λx7=>(Y7 (λv8 s9=>(YY (aj v8 2) x7).bind λbT=>φ bT ((Zo 3 a1 (aj v8 2)).bind λbR=>((χ bR s9).bind λfU=>VU 0 3 fU).bind λbW=>(ψ 3 bW).bind λjj=>(ir 0 jj [(ε 0),bE,Zg]).bind λjY=>(Γ 0 jY).bind λcg=>(rV [cg,(ε 1),(ε 999)] s9).bind λfP=>(Wk fP.1).bind λdZ=>φ dZ (δ (YP,[(aj v8 0),(ε 1),(aj v8 2)],fP.2)) ((YK (aj v8 2) (ε 0)).bind λcS=>(η cS θ (Γ 0 jY) au).bind λbL=>(η cS θ (δ a1) au).bind λcI=>(η cS θ (δ (aj v8 2)) au).bind λep=>(η cS θ (Uk ep (ε 1)) au).bind λx24=>(η cS θ (Zo 3 cI x24) au).bind λx25=>(η cS θ (WC 0 x25) au).bind λfH=>(η cS θ ((χ fH fP.2).bind λkU=>Γ 0 kU) au).bind λx28=>(η cS θ (Ze bL x28) au).bind λx29=>(UD cS x29 aR).bind λef=>φ ef (δ (YP,[(aj v8 0),(ε 7),(aj v8 2)],fP.2)) ((Γ 1 jY).bind λx31=>(UP .z x31 bE).bind λx32=>(η x32 θ (Γ 1 jY) au).bind λiN=>(η x32 θ (Wi (Qg [iN] fP.2) fP.2) au).bind λx34=>(η x32 θ (Wk x34) au).bind λgV=>(UD x32 gV aR).bind λiD=>φ iD (δ (YP,[(aj v8 0),(ε 3),(aj v8 2)],fP.2)) ((Γ 2 jY).bind λfI=>(UY fI).bind λx38=>(YK x38 (ε 2000)).bind λiu=>φ iu (δ (YP,[(aj v8 0),(ε 2),(aj v8 2)],fP.2)) ((Γ 2 jY).bind λgn=>(UY gn).bind λfD=>(Y7 (λlE Eo=>(YY (aj lE 3) fD).bind λfE=>φ fE ((Zo 3 gn (aj lE 3)).bind λiZ=>((χ iZ Eo).bind λlX=>VU 0 3 lX).bind λiO=>(ψ 3 iO).bind λBh=>(ir 0 Bh [(ε 0),bE,(ε 0)]).bind λsL=>((Tv (aj lE 0)).bind λyN=>VU 0 2 yN).bind λgp=>(VU 0 2 sL).bind λmq=>(I6 [gp,mq] Eo).bind λIj=>(Yn 0 Ij.1).bind λkV=>(Yn 1 Ij.1).bind λjC=>(ψ 7 kV).bind λnE=>(ir 0 nE [bE,(ε 0),(ε 0),(ε 0),(ε 0),aR,Zg]).bind λpO=>(Wk jC).bind λi6=>φ i6 (δ (YP,[(aj lE 0),(ε 8),(aj lE 2),(aj lE 3)],Ij.2)) ((Γ 2 sL).bind λkQ=>(EB [kQ] Ij.2).bind λqn=>(Wk qn.1).bind λjh=>φ jh (δ (YP,[(aj lE 0),(ε 1),(aj lE 2),(aj lE 3)],qn.2)) ((YK (aj lE 3) (ε 0)).bind λfK=>((Tv (aj lE 2)).bind λ_=>δ (2)).bind λp64=>(η fK θ ((Tv (aj lE 2)).bind λHM=>Γ p64 HM) au).bind λku=>(η fK θ (δ (aj lE 3)) au).bind λpV=>(η fK θ (Uk pV (ε 1)) au).bind λqO=>(η fK θ (Zo 3 ku qO) au).bind λkC=>(η fK θ (WC 0 kC) au).bind λlZ=>(η fK θ ((χ lZ qn.2).bind λrR=>VU 0 2 rR) au).bind λsX=>(η fK θ (VU 0 2 sL) au).bind λve=>(η fK θ (Wi (L3 [sX,ve] qn.2) qn.2) au).bind λqP=>(η fK θ (Wk qP) au).bind λkK=>(UD fK kK aR).bind λnX=>φ nX (δ (YP,[(aj lE 0),(ε 7),(aj lE 2),(aj lE 3)],qn.2)) ((WE (aj lE 3) (ε 1)).bind λzb=>δ (Xv,[(aj lE 0),(aj lE 1),(aj lE 2),zb],qn.2))))) (δ (Ξ 3,[(aj lE 0),(aj lE 1),(aj lE 2),(aj lE 3)],Eo))) [(aj v8 0),(aj v8 1),(VD jY),(ε 0)] fP.2).bind λmj=>bif mj.1==Ξ 3 then((WE (aj v8 2) (ε 1)).bind λsZ=>δ (Xv,[(aj mj.2.1 0),(aj mj.2.1 1),sZ],mj.2.2))else bif mj.1==YP then(δ (YP,[(aj mj.2.1 0),(aj mj.2.1 1),(aj v8 2)],mj.2.2))else μ))))) (δ (Ξ 0,[(aj v8 0),(aj v8 1),(aj v8 2)],s9))) [(VD c1),(ε 0),(ε 0)] r3.2).bind λpq=>bif pq.1==Ξ 0 then(wh σ (ε 0) pq.2.2)else bif pq.1==YP then(wh σ (aj pq.2.1 1) pq.2.2)else μ))
def TX:aq->Heap->aF:=Ω θ [Ch,(.s 3)] .k (Xw T3)
def aCG (a0 a1:AV) (σ:Heap):aF:=(UY a0).bind λx1=>(Y7 (λv2 s3=>(YY (aj v2 2) x1).bind λx5=>φ x5 ((Zo 3 a0 (aj v2 2)).bind λx6=>((χ x6 s3).bind λc7=>VU 0 3 c7).bind λx8=>(ψ 3 x8).bind λc9=>(ir 0 c9 [(ε 0),bE,Zg]).bind λeR=>(Γ 0 eR).bind λbT=>(ZA .i bT a1).bind λbR=>φ bR ((VU 0 3 eR).bind λbZ=>(Tv (aj v2 0)).bind λjY=>(ψ 3 bZ).bind λia=>(ir 0 ia jY).bind λjj=>δ (YP,[(VD jj),dz,(aj v2 2)],s3)) ((WE (aj v2 2) (ε 1)).bind λcg=>δ (Xv,[(aj v2 0),(aj v2 1),cg],s3))) (δ (Ξ 0,[(aj v2 0),(aj v2 1),(aj v2 2)],s3))) [(VD [(ε 0),bE,Zg]),aR,(ε 0)] σ).bind λfP=>bif fP.1==Ξ 0 then((Tv (aj fP.2.1 0)).bind λij=>(ψ 3 (Φ [(ε 0),bE,Zg])).bind λiz=>(ir 0 iz ij).bind λiH=>(VU 0 3 iH).bind λcI=>wh σ (Yu [cI,aR]) fP.2.2)else bif fP.1==YP then(((Tv (aj fP.2.1 0)).bind λfW=>VU 0 3 fW).bind λep=>wh σ (Yu [ep,(aj fP.2.1 1)]) fP.2.2)else μ
def UO:aq->Heap->aF:=Ω θ [(.s 3)] (.t [(.a [.k,.k,(.s 3)]),.k]) (Xw aCG)
def aCr (a0 a1 a2:AV) (σ:Heap):aF:=(ψ 2 a1).bind λc1=>(ψ 2 a2).bind λc2=>(Γ 0 c2).bind λx3=>(UP .i x3 (ε 0)).bind λx4=>(η x4 θ (Γ 1 c2) au).bind λx5=>(η x4 θ (UP .i x5 (ε 0)) au).bind λx6=>(UD x4 x6 aR).bind λx7=>φ x7 (wh σ (Yu [(ε 0),(ε 3)]) σ) ((Γ 0 c2).bind λx8=>(EB [x8] σ).bind λr9=>(Wk r9.1).bind λbl=>φ bl (wh σ (Yu [(ε 0),(ε 1)]) r9.2) ((Γ 1 c2).bind λbT=>(ZA .i bT (ε 0)).bind λbR=>φ bR ((Γ 0 c2).bind λbZ=>wh σ (Yu [bZ,(ε 0)]) r9.2) ((Γ 1 c2).bind λbW=>(UO [a0,bW] r9.2).bind λjd=>(Yn 0 jd.1).bind λbO=>(Yn 1 jd.1).bind λcg=>(ψ 3 bO).bind λig=>(ir 0 ig [(ε 0),bE,Zg]).bind λiz=>(Wk cg).bind λcS=>φ cS (wh σ (Yu [(ε 0),(ε 8)]) jd.2) ((Γ 2 iz).bind λbL=>(UY bL).bind λcI=>(Y7 (λv23 Td=>(YY (aj v23 3) cI).bind λfH=>φ fH ((Zo 3 bL (aj v23 3)).bind λfB=>((χ fB Td).bind λme=>VU 0 3 me).bind λx29=>(ψ 3 x29).bind λsJ=>(ir 0 sJ [(ε 0),bE,(ε 0)]).bind λqD=>(VU 0 2 qD).bind λx32=>((Tv (aj v23 0)).bind λwL=>VU 0 2 wL).bind λx34=>(ZA (.s [0,2]) x32 x34).bind λgV=>φ gV ((Γ 2 qD).bind λiD=>δ (YP,[(aj v23 0),iD,(ε 0),(aj v23 3)],Td)) ((WE (aj v23 3) (ε 1)).bind λfI=>δ (Xv,[(aj v23 0),(aj v23 1),(aj v23 2),fI],Td))) (δ (Ξ 1,[(aj v23 0),(aj v23 1),(aj v23 2),(aj v23 3)],Td))) [(VD c1),(ε 0),(ε 0),(ε 0)] jd.2).bind λpQ=>bif pQ.1==Ξ 1 then(wh σ (Yu [(ε 0),(ε 8)]) pQ.2.2)else bif pQ.1==YP then(wh σ (Yu [(aj pQ.2.1 1),(aj pQ.2.1 2)]) pQ.2.2)else μ))))
def QF:aq->Heap->aF:=Ω θ [(.s 3)] .k (X5 aCr)
end
section
def aAR (a0 a1:AV) (σ:Heap):aF:=(ψ 8 a0).bind λc1=>(Γ 0 c1).bind λx2=>(rV [x2,(ε 1),(ε 9999)] σ).bind λr3=>(Wk r3.1).bind λx4=>φ x4 (wh σ (ε 1) r3.2) ((Γ 1 c1).bind λx5=>(Jd [x5] r3.2).bind λr6=>(Wk r6.1).bind λx7=>φ x7 (wh σ (ε 5) r6.2) ((Γ 4 c1).bind λx8=>(η x8 θ (VU 2 2 c1) au).bind λx9=>(η x8 θ (δ (Φ [(ε 0),(ε 0)])) au).bind λbl=>(η x8 θ (UP (.s [0,0]) x9 bl) au).bind λbT=>(UD x8 bT aR).bind λbR=>(η bR ι (Γ 2 c1) au).bind λbZ=>(η bR ι (UP .i bZ (ε 0)) au).bind λbW=>(η bR ι (δ bW) au).bind λcN=>(η cN θ (Γ 3 c1) au).bind λbO=>(η cN θ (UP .i bO (ε 0)) au).bind λcg=>(η bR ι (UD cN cg aR) au).bind λcQ=>(UD bR dz cQ).bind λdZ=>φ dZ (wh σ (ε 3) r6.2) ((Γ 2 c1).bind λcS=>(EB [cS] r6.2).bind λkj=>(Wk kj.1).bind λcI=>(η cI ι (Γ 3 c1) au).bind λep=>(η cI ι (Wi (rV [ep,(ε 0),(ε 999)] kj.2) kj.2) au).bind λx24=>(η cI ι (Wk x24) au).bind λx25=>(UD cI dz x25).bind λfH=>φ fH (wh σ (ε 1) kj.2) ((Γ 5 c1).bind λfB=>(Wk fB).bind λx28=>(η x28 θ (Γ 6 c1) au).bind λx29=>(η x28 θ (UP .i x29 (ε 0)) au).bind λef=>(η x28 θ (δ ef) au).bind λx31=>(η x31 ι (Γ 7 c1) au).bind λx32=>(η x31 ι (UP .i x32 (ε 0)) au).bind λiN=>(η x28 θ (UD x31 dz iN) au).bind λx34=>(UD x28 x34 aR).bind λgV=>φ gV (wh σ (ε 3) kj.2) ((Γ 6 c1).bind λiD=>(ED [iD] kj.2).bind λlP=>(Wk lP.1).bind λx38=>(η x38 ι (Γ 7 c1) au).bind λiu=>(η x38 ι (Wi (ED [iu] lP.2) lP.2) au).bind λgn=>(η x38 ι (Wk gn) au).bind λfD=>(UD x38 dz fD).bind λjB=>φ jB (wh σ (ε 1) lP.2) ((UY a1).bind λgL=>(YK gL (ε 0)).bind λgA=>(η gA θ (δ a1) au).bind λfE=>(η gA θ (δ a1) au).bind λiZ=>(η gA θ (UY iZ) au).bind λjf=>(η gA θ (Uk jf (ε 1)) au).bind λiO=>(η gA θ (Zo 8 fE iO) au).bind λgu=>(η gA θ (WC 0 gu) au).bind λjg=>(η gA θ ((χ jg lP.2).bind λyN=>VU 0 2 yN) au).bind λgp=>(η gA θ (VU 0 2 c1) au).bind λmq=>(η gA θ (Wi (L3 [gp,mq] lP.2) lP.2) au).bind λkJ=>(η gA θ (Wk kJ) au).bind λkV=>(UD gA kV aR).bind λjC=>φ jC (wh σ (ε 7) lP.2) (wh σ (ε 0) lP.2)))))))
def aCC:aq->Heap->aF:=Ω θ [.k,(.s 8)] .k (Xw aAR)
def aBA (a0:AV) (σ:Heap):aF:=(UY a0).bind λx1=>(YK x1 (ε 2000)).bind λx2=>φ x2 (wh σ (ε 2) σ) ((UY a0).bind λx3=>(Y7 (λv4 s5=>(YY (aj v4 1) x3).bind λx7=>φ x7 ((Zo 8 a0 (aj v4 1)).bind λx8=>((χ x8 s5).bind λc9=>VU 0 8 c9).bind λbl=>(ψ 8 bl).bind λfq=>(ir 0 fq [(ε 0),bE,(ε 0),(ε 0),aR,aR,(ε 0),(ε 0)]).bind λcZ=>(VU 0 8 cZ).bind λbZ=>(Wf 8 a0 μ (δ (aj v4 1)) s5).bind λbW=>(Wi (aCC [bZ,bW] s5) s5).bind λcN=>(UP .i cN (ε 0)).bind λbO=>φ bO (δ (YP,[cN,(aj v4 1)],s5)) ((WE (aj v4 1) (ε 1)).bind λcg=>δ (Xv,[(aj v4 0),cg],s5))) (δ (Ξ 0,[(aj v4 0),(aj v4 1)],s5))) [(ε 0),(ε 0)] σ).bind λfP=>bif fP.1==Ξ 0 then(wh σ (ε 0) fP.2.2)else bif fP.1==YP then(wh σ (aj fP.2.1 0) fP.2.2)else μ)
def Ui:aq->Heap->aF:=Ω θ [(.s 8)] .k (YR aBA)
def UC (a0:AV) (σ:Heap):aF:=(UY a0).bind λx1=>(YK x1 (ε 300)).bind λx2=>φ x2 (wh σ (ε 2) σ) ((UY a0).bind λx3=>(Y7 (λv4 s5=>(YY (aj v4 2) x3).bind λx7=>φ x7 ((Zo 11 a0 (aj v4 2)).bind λx8=>((χ x8 s5).bind λc9=>VU 0 11 c9).bind λbl=>(ψ 11 bl).bind λfq=>(ir 0 fq [(ε 0),bE,(ε 0),(ε 0),(ε 0),(ε 0),(ε 0),Zg,aR,(ε 0),Zg]).bind λcZ=>(Γ 0 cZ).bind λbZ=>(rV [bZ,(ε 1),(ε 9999999)] s5).bind λgD=>(Wk gD.1).bind λcN=>φ cN (δ (YP,[(ε 1),(aj v4 1),(aj v4 2)],gD.2)) ((YK (aj v4 2) (ε 0)).bind λbO=>(η bO θ (Γ 0 cZ) au).bind λcg=>(η bO θ (δ a0) au).bind λcQ=>(η bO θ (δ (aj v4 2)) au).bind λdZ=>(η bO θ (Uk dZ (ε 1)) au).bind λcS=>(η bO θ (Zo 11 cQ cS) au).bind λbL=>(η bO θ (WC 0 bL) au).bind λcI=>(η bO θ ((χ cI gD.2).bind λgj=>Γ 0 gj) au).bind λx24=>(η bO θ (Ze cg x24) au).bind λx25=>(UD bO x25 aR).bind λfH=>φ fH (δ (YP,[(ε 7),(aj v4 1),(aj v4 2)],gD.2)) ((Γ 1 cZ).bind λfB=>(UP .z fB bE).bind λx28=>(η x28 θ (Γ 1 cZ) au).bind λx29=>(η x28 θ (Wi (Qg [x29] gD.2) gD.2) au).bind λef=>(η x28 θ (Wk ef) au).bind λx31=>(UD x28 x31 aR).bind λx32=>φ x32 (δ (YP,[(ε 3),(aj v4 1),(aj v4 2)],gD.2)) ((Γ 2 cZ).bind λiN=>(ED [iN] gD.2).bind λkG=>(Wk kG.1).bind λgV=>(η gV ι (Γ 3 cZ) au).bind λiD=>(η gV ι (Wi (ED [iD] kG.2) kG.2) au).bind λfI=>(η gV ι (Wk fI) au).bind λx38=>(UD gV dz x38).bind λiu=>(η iu ι (Γ 4 cZ) au).bind λgn=>(η iu ι (Wi (ED [gn] kG.2) kG.2) au).bind λfD=>(η iu ι (Wk fD) au).bind λjB=>(UD iu dz jB).bind λgL=>(η gL ι (Γ 5 cZ) au).bind λgA=>(η gL ι (Wi (ED [gA] kG.2) kG.2) au).bind λfE=>(η gL ι (Wk fE) au).bind λiZ=>(UD gL dz iZ).bind λjf=>(η jf ι (Γ 9 cZ) au).bind λiO=>(η jf ι (Wi (rV [iO,(ε (-1)),(ε 36000000)] kG.2) kG.2) au).bind λgu=>(η jf ι (Wk gu) au).bind λjg=>(UD jf dz jg).bind λgM=>φ gM (δ (YP,[(ε 1),(aj v4 1),(aj v4 2)],kG.2)) ((VU 6 2 cZ).bind λgp=>(Ug [gp] kG.2).bind λgm=>(UP .i gm.1 (ε 0)).bind λkJ=>φ kJ (δ (YP,[gm.1,(aj v4 1),(aj v4 2)],gm.2)) ((Γ 10 cZ).bind λkV=>(Ui [kV] gm.2).bind λEl=>(UP .i El.1 (ε 0)).bind λlQ=>φ lQ (δ (YP,[El.1,(aj v4 1),(aj v4 2)],El.2)) ((Γ 10 cZ).bind λlF=>(UY lF).bind λi6=>(WE (aj v4 1) i6).bind λkQ=>(WE (aj v4 2) (ε 1)).bind λkn=>δ (Xv,[(aj v4 0),kQ,kn],El.2)))))))) (δ (Ξ 0,[(aj v4 0),(aj v4 1),(aj v4 2)],s5))) [(ε 0),(ε 0),(ε 0)] σ).bind λuV=>bif uV.1==Ξ 0 then((YK (aj uV.2.1 1) (ε 10000)).bind λfK=>φ fK (wh σ (ε 2) uV.2.2) (wh σ (ε 0) uV.2.2))else bif uV.1==YP then(wh σ (aj uV.2.1 0) uV.2.2)else μ)
def Uw:aq->Heap->aF:=Ω θ [(.e 11 nC)] .k (YR UC)
def apC (a0 a1 a2:AV) (σ:Heap):aF:=(ψ 2 a0).bind λc1=>(VU 0 2 c1).bind λx2=>(TX [x2,a1] σ).bind λr3=>(UP .i r3.1 (ε 0)).bind λx4=>φ x4 (wh σ r3.1 r3.2) ((Uw [a2] r3.2).bind λr5=>(UP .i r5.1 (ε 0)).bind λx6=>φ x6 (wh σ r5.1 r5.2) ((UY a2).bind λx7=>(Y7 (λv8 s9=>(YY (aj v8 2) x7).bind λbT=>φ bT ((Zo 11 a2 (aj v8 2)).bind λbR=>((χ bR s9).bind λfU=>VU 0 11 fU).bind λbW=>(ψ 11 bW).bind λjj=>(ir 0 jj [(ε 0),bE,(ε 0),(ε 0),(ε 0),(ε 0),(ε 0),Zg,aR,(ε 0),Zg]).bind λjY=>(Γ 10 jY).bind λcg=>(UY cg).bind λcQ=>(Y7 (λy9 s20=>(YY (aj y9 2) cQ).bind λcI=>φ cI ((Zo 8 cg (aj y9 2)).bind λep=>((χ ep s20).bind λfW=>VU 0 8 fW).bind λx25=>(ψ 8 x25).bind λjv=>(ir 0 jv [(ε 0),bE,(ε 0),(ε 0),aR,aR,(ε 0),(ε 0)]).bind λkU=>((Tv (aj y9 0)).bind λme=>VU 0 2 me).bind λx29=>(VU 0 2 kU).bind λef=>(I6 [x29,ef] s20).bind λpe=>(Yn 0 pe.1).bind λx32=>(Yn 1 pe.1).bind λiN=>(ψ 7 x32).bind λuL=>(ir 0 uL [bE,(ε 0),(ε 0),(ε 0),(ε 0),aR,Zg]).bind λkX=>(Wk iN).bind λiD=>φ iD (δ (YP,[(aj y9 0),(ε 8),(aj y9 2)],pe.2)) ((VU 0 2 kU).bind λfI=>(VU 2 2 kU).bind λx38=>(QF [a1,fI,x38] pe.2).bind λEk=>(Yn 0 Ek.1).bind λgn=>(Yn 1 Ek.1).bind λfD=>(UP .i fD (ε 0)).bind λjB=>φ jB (δ (YP,[(aj y9 0),fD,(aj y9 2)],Ek.2)) ((WE (aj y9 2) (ε 1)).bind λgL=>δ (Xv,[(aj y9 0),(aj y9 1),gL],Ek.2)))) (δ (Ξ 2,[(aj y9 0),(aj y9 1),(aj y9 2)],s20))) [(aj v8 0),(aj v8 1),(ε 0)] s9).bind λeG=>bif eG.1==Ξ 2 then((WE (aj v8 2) (ε 1)).bind λfE=>δ (Xv,[(aj eG.2.1 0),(aj eG.2.1 1),fE],eG.2.2))else bif eG.1==YP then(δ (YP,[(aj eG.2.1 0),(aj eG.2.1 1),(aj v8 2)],eG.2.2))else μ) (δ (Ξ 0,[(aj v8 0),(aj v8 1),(aj v8 2)],s9))) [(VD c1),(ε 0),(ε 0)] r5.2).bind λkH=>bif kH.1==Ξ 0 then(wh σ (ε 0) kH.2.2)else bif kH.1==YP then(wh σ (aj kH.2.1 1) kH.2.2)else μ))
def Ux:aq->Heap->aF:=Ω θ [(.a [(.e 3 [.k,.k,(.e 7 qz)]),(.s 4)]),Du,(.e 11 nC)] .k (X5 apC)
def aAW (a0 a1:AV) (σ:Heap):aF:=(ψ 2 a1).bind λc1=>(Y7 (λv2 s3=>(UY a0).bind λx5=>(YY (aj v2 1) x5).bind λx6=>(η x6 θ (δ a0) au).bind λx7=>(η x6 θ (δ (aj v2 1)) au).bind λx8=>(η x6 θ (Zo 5 x7 x8) au).bind λx9=>(η x6 θ (WC 0 x9) au).bind λbl=>(η x6 θ ((χ bl s3).bind λfq=>VU 0 2 fq) au).bind λbR=>(η x6 θ ((Tv (aj v2 0)).bind λfU=>VU 0 2 fU) au).bind λbW=>(η x6 θ (Wi (L3 [bR,bW] s3) s3) au).bind λcN=>(UD x6 cN aR).bind λbO=>φ bO ((WE (aj v2 1) (ε 1)).bind λcg=>δ (Xv,[(aj v2 0),cg],s3)) (δ (Ξ 0,[(aj v2 0),(aj v2 1)],s3))) [(VD c1),(ε 0)] σ).bind λfP=>bif fP.1==Ξ 0 then((UY a0).bind λdZ=>(YY (aj fP.2.1 1) dZ).bind λcS=>(η cS θ (δ a0) au).bind λbL=>(η cS θ (δ (aj fP.2.1 1)) au).bind λcI=>(η cS θ (Zo 5 bL cI) au).bind λep=>(η cS θ (WC 0 ep) au).bind λx24=>(η cS θ ((χ x24 fP.2.2).bind λiA=>VU 0 2 iA) au).bind λfH=>(η cS θ ((Tv (aj fP.2.1 0)).bind λkU=>VU 0 2 kU) au).bind λx28=>(η cS θ (ZA (.s [0,2]) fH x28) au).bind λx29=>(UD cS x29 aR).bind λef=>wh σ (Yu [(aj fP.2.1 1),ef]) fP.2.2)else μ
def Jl:aq->Heap->aF:=Ω θ [(.s 5)] .k (Xw aAW)
def QL (a0 a1:AV) (σ:Heap):aF:=(ψ 11 a1).bind λc1=>(PC [a0] σ).bind λr2=>(Γ 10 c1).bind λx3=>(UY x3).bind λx4=>(Y7 (λv5 s6=>(YY (aj v5 2) x4).bind λx8=>φ x8 ((Zo 8 x3 (aj v5 2)).bind λx9=>((χ x9 s6).bind λeR=>VU 0 8 eR).bind λbT=>(ψ 8 bT).bind λcZ=>(ir 0 cZ [(ε 0),bE,(ε 0),(ε 0),aR,aR,(ε 0),(ε 0)]).bind λfU=>(VU 0 2 fU).bind λbW=>(Jl [(aj v5 1),bW] s6).bind λjd=>(Yn 0 jd.1).bind λbO=>(Yn 1 jd.1).bind λcg=>(φ cg ((WE bO (ε 1)).bind λdZ=>(IA [(aj v5 1),bO,dZ] jd.2).bind λiX=>δ ([(aj v5 0),iX.1,(VD fU)],iX.2)) (δ ([(aj v5 0),(aj v5 1),(VD fU)],jd.2))).bind λfP=>((Tv (aj fP.1 2)).bind λ_=>δ (4)).bind λp21=>((Tv (aj fP.1 2)).bind λiL=>Γ p21 iL).bind λep=>(Wk ep).bind λx24=>(φ x24 (((Tv (aj fP.1 2)).bind λ_=>δ (0)).bind λp26=>((Tv (aj fP.1 2)).bind λkU=>VU p26 2 kU).bind λx28=>((Tv (aj fP.1 2)).bind λ_=>δ (2)).bind λp29=>((Tv (aj fP.1 2)).bind λsJ=>VU p29 2 sJ).bind λx31=>((Tv (aj fP.1 0)).bind λ_=>δ (0)).bind λOU=>((Tv (aj fP.1 0)).bind λwL=>Γ OU wL).bind λx34=>(((ψ 2 x28).bind λkX=>(ir 0 kX [(ε 0),bE,(ε 0),(ε 0),(ε 0)]).bind λnD=>(ψ 2 x31).bind λlN=>(ir 2 lN nD).bind λmU=>((Ψ x34).bind λv=>δ [v]).bind λoN=>(ir 4 oN mU).bind λoO=>δ oO).bind λcs=>δ (Φ cs)).bind λfD=>(((ψ 5 fD).bind λoh=>(ir 0 oh [(ε 0),bE,(ε 0),(ε 0),(ε 0)]).bind λsK=>δ sK).bind λcs=>δ (Yh 5 (iP 5 1 cs))).bind λgA=>(Ll [(aj fP.1 1),bO,gA] fP.2).bind λuU=>δ ([(aj fP.1 0),uU.1],uU.2)) (δ ([(aj fP.1 0),(aj fP.1 1)],fP.2))).bind λoW=>(WE (aj v5 2) (ε 1)).bind λiZ=>δ (Xv,[(aj oW.1 0),(aj oW.1 1),iZ],oW.2)) (δ (Ξ 0,[(aj v5 0),(aj v5 1),(aj v5 2)],s6))) [(VD c1),r2.1,(ε 0)] r2.2).bind λng=>bif ng.1==Ξ 0 then(δ ((aj ng.2.1 1),ng.2.2))else μ
def Md:aq->Heap->aF:=Ω θ [(.s 5),(.a nC)] .k (Xw QL)
def Qt (a0 a1:AV) (σ:Heap):aF:=(Wf 11 a0 μ (δ a1) σ).bind λx1=>(UY x1).bind λx2=>(Y7 (λv3 s4=>(YY (aj v3 1) x2).bind λx6=>φ x6 ((Zo 11 x1 (aj v3 1)).bind λx7=>((χ x7 s4).bind λc8=>VU 0 11 c8).bind λx9=>(ψ 11 x9).bind λeR=>(ir 0 eR [(ε 0),bE,(ε 0),(ε 0),(ε 0),(ε 0),(ε 0),Zg,aR,(ε 0),Zg]).bind λfq=>(VU 0 11 fq).bind λbR=>(Md [(aj v3 0),bR] s4).bind λjU=>(WE (aj v3 1) (ε 1)).bind λbW=>δ (Xv,[jU.1,bW],jU.2)) (δ (Ξ 0,[(aj v3 0),(aj v3 1)],s4))) [Zg,(ε 0)] σ).bind λjd=>bif jd.1==Ξ 0 then(δ ((aj jd.2.1 0),jd.2.2))else μ
def Qp:aq->Heap->aF:=Ω θ [(.e 11 nC)] .k (Xw Qt)
def att (a0 a1 a2:AV) (σ:Heap):aF:=(ψ 2 a0).bind λc1=>(VU 0 2 c1).bind λx2=>(Vo [x2] σ).bind λr3=>(UY r3.1).bind λx4=>(Y7 (λv5 s6=>(YY (aj v5 2) x4).bind λx8=>φ x8 ((Zo 2 r3.1 (aj v5 2)).bind λx9=>((χ x9 s6).bind λeR=>VU 0 2 eR).bind λbT=>(ψ 2 bT).bind λcZ=>(ir 0 cZ [(ε 0),bE]).bind λfU=>((Tv (aj v5 0)).bind λia=>VU 0 2 ia).bind λcN=>(VU 0 2 fU).bind λbO=>(I6 [cN,bO] s6).bind λvY=>(Yn 0 vY.1).bind λcQ=>(Yn 1 vY.1).bind λdZ=>(ψ 7 cQ).bind λiH=>(ir 0 iH [bE,(ε 0),(ε 0),(ε 0),(ε 0),aR,Zg]).bind λij=>(Γ 4 ij).bind λcI=>(VU 0 2 fU).bind λep=>(Jl [a2,ep] vY.2).bind λkO=>(Yn 0 kO.1).bind λx25=>(Yn 1 kO.1).bind λfH=>(φ fH ((VU 0 2 fU).bind λx28=>(Zo 5 a2 x25).bind λx29=>(WC 2 x29).bind λef=>((χ ef kO.2).bind λqD=>VU 0 2 qD).bind λx32=>(Wi (QF [a1,x28,x32] kO.2) kO.2).bind λiN=>(Yn 0 iN).bind λx34=>(Yn 1 iN).bind λgV=>δ ([(aj v5 0),(VD fU),x34],kO.2)) (δ ([(aj v5 0),(VD fU),cI],kO.2))).bind λqN=>((Tv (aj qN.1 1)).bind λnD=>VU 0 2 nD).bind λfI=>(((ψ 2 fI).bind λmU=>(ir 0 mU [(ε 0),bE,(ε 0)]).bind λoN=>((Ψ (aj qN.1 2)).bind λv=>δ [v]).bind λoO=>(ir 2 oO oN).bind λDU=>δ DU).bind λcs=>δ (Φ cs)).bind λjB=>(((ψ 3 jB).bind λsK=>(ir 0 sK [(ε 0),bE,(ε 0)]).bind λDV=>δ DV).bind λcs=>δ (Yh 3 (iP 3 1 cs))).bind λfE=>(WK 3 (140737488355328 / 32) (aj v5 1) fE qN.2).bind λkH=>(WE (aj v5 2) (ε 1)).bind λjf=>δ (Xv,[(aj qN.1 0),kH.1,jf],kH.2)) (δ (Ξ 0,[(aj v5 0),(aj v5 1),(aj v5 2)],s6))) [(VD c1),Zg,(ε 0)] r3.2).bind λpR=>bif pR.1==Ξ 0 then(wh σ (aj pR.2.1 1) pR.2.2)else μ
def Qq:aq->Heap->aF:=Ω θ [(.a [(.e 3 [.k,.k,(.e 7 qz)]),(.s 4)]),Du,(.s 5)] (.s 3) (X5 att)
def ahW (a0 a1:AV) (σ:Heap):aF:=(UY a0).bind λx1=>(Y7 (λv2 s3=>(YY (aj v2 1) x1).bind λx5=>φ x5 ((Zo 11 a0 (aj v2 1)).bind λx6=>((χ x6 s3).bind λc7=>VU 0 11 c7).bind λx8=>(ψ 11 x8).bind λc9=>(ir 0 c9 [(ε 0),bE,(ε 0),(ε 0),(ε 0),(ε 0),(ε 0),Zg,aR,(ε 0),Zg]).bind λeR=>(Γ 0 eR).bind λbT=>(ZA .i bT a1).bind λbR=>φ bR (δ (YP,[(aj v2 1),(aj v2 1)],s3)) ((WE (aj v2 1) (ε 1)).bind λbZ=>δ (Xv,[(aj v2 0),bZ],s3))) (δ (Ξ 0,[(aj v2 0),(aj v2 1)],s3))) [(ε 0),(ε 0)] σ).bind λgD=>bif gD.1==Ξ 0 then(wh σ (ε (-1)) gD.2.2)else bif gD.1==YP then(wh σ (aj gD.2.1 0) gD.2.2)else μ
def aCc:aq->Heap->aF:=Ω θ [(.e 11 nC)] .k (Xw ahW)
def aBE (a0 a1 a2 a3:AV) (σ:Heap):aF:=(ψ 2 a0).bind λc1=>(VU 0 2 c1).bind λx2=>(Ux [x2,a1,a2] σ).bind λr3=>(UP .i r3.1 (ε 0)).bind λx4=>φ x4 (wh σ (Yu [Zg,r3.1]) r3.2) ((aCc [a2,a3] r3.2).bind λr5=>(YY r5.1 (ε 0)).bind λx6=>φ x6 (wh σ (Yu [Zg,(ε 8)]) r5.2) ((VU 0 2 c1).bind λx7=>(WE r5.1 (ε 1)).bind λx8=>(Wi ((A.nS (.s 5) Qp) [a2,x8] r5.2) r5.2).bind λx9=>(Wi (Qq [x7,a1,x9] r5.2) r5.2).bind λbl=>wh σ (Yu [bl,(ε 0)]) r5.2))
def aBX:aq->Heap->aF:=Ω θ [(.a [(.e 3 [.k,.k,(.e 7 qz)]),(.s 4)]),Du,(.e 11 nC)] (.t [(.s 3),.k]) (A.yM aBE)
end
abbrev jt:={k:aC // 0<=k.unit/\k.unit<=1000000}
instance : Inhabited jt := ⟨⟨⟨0, ⟨#[]⟩⟩, by decide⟩⟩
def KeysOf(es:List (AV×AV))(l:List jt):Prop:=es.map (·.1)=l.map (λk=>Φ (aS k.1))/\l.Nodup/\l.length<=1000000
def Lp:aq->Heap->aF:=Xw λx f σ=>match x,f with
 |.fn 359 [.rp (m::_)],.fn 372 []=>(A.zC m).bind λes=>open Classical in
  if h:∃l:List jt,KeysOf es l then δ (.sl 2 ((qx (λa b:jt=>nM a.1 b.1) (To h)).map λk=>aS k.1),σ)else μ
 |_,_=>μ
end
end Go.Proofs.YtooknfkholjpbaaGreat
