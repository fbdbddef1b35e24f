/- Parts of the proof of PickUnitsMatchSpec, in order. -/
import Derived.Sort.Statements
import Derived.Test.YtgjglkakhmikjaaKPickUnitsMatchSpec3
namespace Go.Proofs.Ytgjglkakhmikjaa
set_option linter.unusedVariables false
set_option linter.unusedSimpArgs false
set_option linter.unusedSectionVars false
set_option maxRecDepth 1000000
noncomputable section
open A renaming pick->ZM,aZ->ZO,elems->Vl,cells->Φ,storeAt->ZX,dL->Uj,bound->Sq,append->ZI,look->ZJ,cZ->Ug,aQ->Zv,aS->Zp,entries->R2,cell->ZS,nn->S7,find->ZE,dh->SN,guard->θ,ay->Δ,cond->ξ,add->Zn,bA->X0,dF->Xu,neq->Tn,deref->Γ,aR->Z0,fin->wh,lss->ZN,gtr->Zx,loop->Zo,sub->YR,tab->Z5,wrap->Ξ,eql->Zt,gen->XC,not->ZR,own->T5,ext->Zl,iter->apH,cC->RV,cX->T3
open List renaming flatten_cons->Ul,drop_zero->R6,sum_cons->Xg,length_drop->aqT,length_nil->Us,take_length->ZP,length_cons->ZT,length_singleton->Zy,take_append_of_le_length->Rw,length->Ym,mem_singleton->Yg,mem_cons_self->ZA,nil_append->YU,take_append_drop->Wq,getElem?_drop->Zg,take_add_one->Z9,filter_eq_self->apW,length_append->PU,length_filter_le->Wf,drop_of_length_le->apK,getElem?_take->Vj,map_append->Zw,foldl_cons->Wv,length_map->Zk,drop_length->aqg,foldl_append->VO,flatMap_cons->apQ,ext_getElem?->aqd,append_nil->TB,map->Td,length_take_le'->R8,length_replicate->YF,map_congr_left->RO,getD_eq_getElem?_getD->VY,getElem?_set_ne->ZY,filter_append->XI,replicate->ZB,filter_cons->Sn,getElem?_cons_zero->Y3,flatten_append->aqn,drop_eq_getElem_cons->Ss
open AV renaming om->V9,op->UX,bool->χ,sl->U0,aJ->Zz,aC->ZK,str->ap3,lbx->Z1,agg->Y8,ah->ε
open AX renaming normal->Λ,ret->Ω,exit->φ
open Bool renaming false_and->Xp,not_true->YV,true_and->ap7,not_eq_true'->apR,and_false->R4,false->ι,false_eq_true->ZD,true->η
open Go.Lib renaming compareBytes->apJ
open False renaming elim->aqB
open Eq renaming refl->aqv
open Option renaming toList_some->YA,some->δ,getD_some->Sk,getD_none->UG,none->μ
open Prod.mk renaming injEq->ir
open Go.IntKind renaming i64->Θ
open Nat renaming not_lt_zero->ap9,le_trans->ZL,zero_add->Z3
open aP renaming box->apF,map->ZH
open Option.some renaming inj->aqr,injEq->ψ
open IntKind renaming i64->Θ
open Go.Op renaming bytesLess->Sv
section
def BU (a0:dj):Option (List (cV×Bool)):=
 (tq (oo a0) (((if iP a0=0 then qX a0 else[]:List cV),iP a0))).bind λr1=>
 fR r1.1 (λ(rY:Nat)j0(s4:(List (cV×Bool)))=>(show Option (Lr (List (cV×Bool)) (List (cV×Bool)) Unit)from
   δ (.go (e9 j0 η s4)))) (λs4=>δ s4) ([]:List (cV×Bool)) (λb5=>
  δ b5) (λb5=>
  μ)
theorem ab1{a0:dj}{σ:Heap}{r:(List (cV×Bool))}(h:BU a0=δ r):Lz [(Y8 (b7 a0))] σ=δ ((iy (λx=>(Y8 (dm x))) (λx=>(χ x)) r),σ):=by
 refine vU (f:=LK) (y0:=(Y8 (b7 a0))) (enc:=λr:(List (cV×Bool))=>(iy (λx=>(Y8 (dm x))) (λx=>(χ x)) r)) (T:=BU a0) rfl rfl ?_ r h;unfold LK BU;refine ak _ rfl<|ak _ rfl ?_;refine fJ (λr1:((List cV)×Int)=>((Zz [(sl 2 dm r1.1),(ε r1.2)]),σ)) (λr1 kL=>(mw (e:=λr:((List cV)×Int)=>((Zz [(sl 2 dm r.1),(ε r.2)]),σ)) (λhs=>afq a0 hs σ)) kL) (λr1 kL=>?_);refine ak (sl 2 dm r1.1) rfl<|ak _ rfl ?_;have hp2:Hp σ σ []:=apz σ;have hp3:Hp σ (σ++[ZH []]) [((V9 σ.length),(Ct.m (Td (λp=>((λx=>(Y8 (dm x))) p.1,(λx=>(χ x)) p.2)) ([]:List (cV×Bool)))))]:=ahD hp2;refine ak _ (cy _ _ _) ?_;refine iW (B:=(List (cV×Bool))) (R:=Unit) (λ(rY:Nat)(s4:(List (cV×Bool)))v w6=>v=[(ε (rY:Int))]/\Hp σ w6 [((V9 σ.length),(Ct.m (Td (λp=>((λx=>(Y8 (dm x))) p.1,(λx=>(χ x)) p.2)) s4)))]) (λ(b5:(List (cV×Bool)))(q:LS)=>∃u16 w7,q=((φ 0),([u16]:aq),w7)/\Hp σ w7 [((V9 σ.length),(Ct.m (Td (λp=>((λx=>(Y8 (dm x))) p.1,(λx=>(χ x)) p.2)) b5)))]) (λ(b5:Unit)(q:LS)=>False) ?_ ?_ ⟨rfl,hp3⟩ ?_ ?_
 ·intro NH rY j0 s4 v w6 zV hI;obtain⟨rfl,w8⟩:=hI;refine ak _ (dP zV)<|i5<|ak _ (ey zV)<|ak _ rfl<|ak _ rfl<|ak _ (M9 _ _ rfl)<|ak _ rfl ?_;obtain⟨Du,e14,Xn⟩:=afV (ek:=(.s [0,2])) (eK:=(λx=>(Y8 (dm x)))) (eV:=(λx=>(χ x))) w8 0 rfl UZ j0 η rfl;change Hp σ Du [((V9 σ.length),(Ct.m (Td (λp=>((λx=>(Y8 (dm x))) p.1,(λx=>(χ x)) p.2)) (e9 j0 η s4))))]at Xn;refine ak Du e14<|ak _ (dY zV NH) ?_;exact aX (iX ⟨rfl,Xn⟩)
 ·intro hl s4 v w6 hI;obtain⟨rfl,w8⟩:=hI;refine ak _ (dX _)<|i4 ?_;exact aX ⟨by simp,⟨_,_,rfl,w8⟩⟩
 ·intro hl b5 q hq;obtain⟨u16,w7,rfl,anP⟩:=hq;refine dJ rfl ?_;exact bZ _ (VZ anP (agK anP (k:=0) rfl (by intro p hp;obtain⟨x,_,rfl⟩:=i6.1 hp;exact⟨(agH (U7 _)),(Iu _)⟩))) ⟨rfl,rfl⟩
 ·intro hl b5 q hq;exact aqB hq
def BD (a0:cV) (a1:cV):Option Bool:=
 if ¬(a0.unit=a1.unit)then
  δ (decide (a0.unit<a1.unit))
 else
 δ (decide ((apJ a0.param.data.toList a1.param.data.toList)<0))
theorem aaJ{a0:cV}{a1:cV}{σ:Heap}{r:Bool}(h:BD a0 a1=δ r):KL [(Y8 (dm a0)),(Y8 (dm a1))] σ=δ ((χ r),σ):=by
 refine vV (f:=KO) (y0:=(Y8 (dm a0))) (y1:=(Y8 (dm a1))) (enc:=λr:Bool=>(χ r)) (T:=BD a0 a1) rfl rfl ?_ r h;unfold KO BD;refine ak _ rfl<|ak _ rfl<|ak _ rfl<|ak _ rfl<|ak _ (gu _ _ _) ?_;refine dN (p:=¬(a0.unit=a1.unit)) (λc1=>?_) (λc1=>?_)
 ·refine ak _ rfl<|ak _ rfl<|ak _ rfl ?_;exact bZ _ (bU _ _) ⟨rfl,rfl⟩
 refine ak _ rfl<|ak _ rfl<|ak _ rfl<|ak _ rfl ?_;exact bZ _ (bU _ _) ⟨rfl,rfl⟩
def DC (a0:dj) (a1:(List cJ)):Option Int:=
 (tq (oo a0) (iP a0)).bind λr1=>
 (tq (([r1,(if(decide (200<(a1.length:Int)))=η then 2 else 0)]:(List Int)).length<=bf) ((([r1,(if(decide (200<(a1.length:Int)))=η then 2 else 0)]:(List Int)).find? λn=>decide (¬n=0)).getD 0)).bind λr2=>
 if ¬(r2=0)then
  δ r2
 else
 (BU a0).bind λr3=>
 fR a1 (λ(rY:Nat)j0(s4:Unit)=>(show Option (Lr Unit Unit Int)from
   if(!(aU j0.aE 1 999))=η then
    δ (.ret 1)
   else
   (if decide (0<(rY:Int))=η then sk a1 (Θ.wrap ((rY:Int) -1))else δ default).bind λbY=>
   if((decide (0<(rY:Int)))&&(decide (j0.aE<=bY.aE)))=η then
    δ (.ret 7)
   else
   (tq (gE j0.title) (Cx j0.title)).bind λqi=>
   if(!qi)=η then
    δ (.ret 3)
   else
   if 2000<(j0.eW.length:Int)then
    δ (.ret 2)
   else
   fR j0.eW (λ(qM:Nat)oH(xu:Unit)=>(show Option (Lr Unit Unit Int)from
     if(!((bh oH.key r3).getD ι))=η then
      δ (.ret 8)
     else
     if(!(aU oH.level 0 65535))=η then
      δ (.ret 1)
     else
     (if decide (0<(qM:Int))=η then sk j0.eW (Θ.wrap ((qM:Int) -1))else δ default).bind λcj=>
     (if decide (0<(qM:Int))=η then BD cj.key oH.key else δ default).bind λcq=>
     if((decide (0<(qM:Int)))&&(!cq))=η then
      δ (.ret 7)
     else
     δ (.go ()))) (λxu=>δ ()) () (λp6=>
    δ (.go ())) (λp6=>
    δ (.ret p6)))) (λs4=>δ ()) () (λb5=>
  δ 0) (λb5=>
  δ b5)
theorem ana{a0:dj}{a1:(List cJ)}{σ:Heap}{r:Int}(h:DC a0 a1=δ r):GY [(Y8 (b7 a0)),(sl 3 cN a1)] σ=δ ((ε r),σ):=by
 refine vV (f:=Kk) (y0:=(Y8 (b7 a0))) (y1:=(sl 3 cN a1)) (enc:=λr:Int=>(ε r)) (T:=DC a0 a1) rfl rfl ?_ r h;unfold Kk DC;refine ak _ rfl<|ak _ rfl ?_;refine fJ (λr1:Int=>((ε r1),σ)) (λr1 kL=>(mw (e:=λr:Int=>((ε r),σ)) (λhs=>Lu a0 hs σ)) kL) (λr1 kL=>?_);refine ak _ (cy _ _ _)<|ak _ rfl<|ak _ (afr (decide (200<(a1.length:Int))) 2 σ)<|ak (sl 1 aL ([r1,(if(decide (200<(a1.length:Int)))=η then 2 else 0)]:(List Int))) rfl ?_;refine fJ (λr2:Int=>((ε r2),σ)) (λr2 mE=>(mw (e:=λr:Int=>((ε r),σ)) (λhs=>T7 ([r1,(if(decide (200<(a1.length:Int)))=η then 2 else 0)]:(List Int)) hs σ)) mE) (λr2 mE=>?_);refine ak _ (gu _ _ _) ?_;refine dN (p:=¬(r2=0)) (λrQ=>?_) (λrQ=>?_)
 ·exact bZ _ (bU _ _) ⟨rfl,rfl⟩
 refine ak _ rfl ?_;refine fJ (λr3:(List (cV×Bool))=>((iy (λx=>(Y8 (dm x))) (λx=>(χ x)) r3),σ)) (λr3 F8=>ab1 F8) (λr3 F8=>?_);refine ak _ (cy _ _ _) ?_;refine iW (B:=Unit) (R:=Int) (λ(rY:Nat)(s4:Unit)v w6=>∃u4,v=[u4,(ε (rY:Int))]/\σ=w6) (λ(b5:Unit)(q:LS)=>∃u4 GA,q=((φ 0),([u4,GA]:aq),σ)) (λ(b5:Int)(q:LS)=>∃GA,q=(Ω,([(ε b5),GA]:aq),σ)) ?_ ?_ ⟨_,rfl,rfl⟩ ?_ ?_
 ·intro NH rY j0 s4 v w6 zV hI;obtain⟨u4,rfl,rfl⟩:=hI;refine ak _ (dP zV)<|i5<|ak _ (ey zV)<|ak _ rfl<|ak _ rfl<|ak _ (zn _ _ rfl)<|ak _ rfl<|ak _ (kR j0.aE 1 999 σ)<|ak _ rfl ?_;refine eO (c:=(!(aU j0.aE 1 999))) (λFB=>?_) (λFB=>?_)
  ·exact aX (fu (by simp) ⟨_,rfl⟩)
  refine ak _ rfl<|bX (ε j0.aE) (λhg=>rfl)<|bX (sl 3 cN a1) (λhg=>rfl)<|bX (ε (rY:Int)) (λhg=>rfl)<|bX (ε (Θ.wrap ((rY:Int) -1))) (λhg=>by(try rw[hg]);exact rfl) ?_;refine xY (ω:=cJ) (λbY=>(AV.rp (cN bY))) (λhg bY apA=>by(try rw[hg]);exact zI apA) (λbY apA=>?_);refine bX (AV.rp (cN bY)) (λhg=>by(try rw[hg]);exact rfl)<|bX (ε bY.aE) (λhg=>by(try rw[hg]);exact rfl)<|bX (χ (decide (j0.aE<=bY.aE))) (λhg=>by(try rw[hg]);exact rfl)<|ak _ (gb _ _) ?_;refine eO (c:=((decide (0<(rY:Int)))&&(decide (j0.aE<=bY.aE)))) (λrO=>?_) (λrO=>?_)
  ·exact aX (fu (by simp) ⟨_,rfl⟩)
  refine ak _ rfl ?_;refine fJ (λqi:Bool=>((χ qi),σ)) (λqi Xt=>(mw (e:=λr:Bool=>((χ r),σ)) (λhs=>aeC j0.title hs σ)) Xt) (λqi Xt=>?_);refine ak _ rfl ?_;refine eO (c:=(!qi)) (λrN=>?_) (λrN=>?_)
  ·exact aX (fu (by simp) ⟨_,rfl⟩)
  refine ak (sl 3 jA j0.eW) rfl<|ak _ (cy _ _ _)<|ak _ rfl ?_;refine dN (p:=2000<(j0.eW.length:Int)) (λvr=>?_) (λvr=>?_)
  ·exact aX (fu (by simp) ⟨_,rfl⟩)
  refine ak (sl 3 jA j0.eW) rfl<|ak _ (cy _ _ _) ?_;refine iW (B:=Unit) (R:=Int) (λ(qM:Nat)(xu:Unit)v Bc=>∃u4,v=[u4,(Z1 (cN j0)),(ε (qM:Int))]/\σ=Bc) (λ(p6:Unit)(q:LS)=>∃u4 u8 GH,q=((φ 3),([u4,u8,GH]:aq),σ)) (λ(p6:Int)(q:LS)=>∃u8 GH,q=(Ω,([(ε p6),u8,GH]:aq),σ)) ?_ ?_ ⟨_,rfl,rfl⟩ ?_ ?_
  ·intro NJ qM oH xu v Bc zX hI;obtain⟨u4,rfl,rfl⟩:=hI;refine ak _ (dP zX)<|i5<|ak _ (ey zX)<|ak _ rfl<|ak _ rfl<|ak _ (Hv _ _ rfl)<|ak _ rfl<|ak _ (Eh (ek:=(.s [0,2])) (eK:=(λx=>(Y8 (dm x)))) (eV:=(λx=>(χ x))) UZ oH.key ι rfl)<|ak _ rfl ?_;refine eO (c:=(!((bh oH.key r3).getD ι))) (λjN=>?_) (λjN=>?_)
   ·exact aX (fu (by simp) ⟨_,_,rfl⟩)
   refine ak _ rfl<|ak _ (ab6 oH.level σ)<|ak _ rfl ?_;refine eO (c:=(!(aU oH.level 0 65535))) (λjG=>?_) (λjG=>?_)
   ·exact aX (fu (by simp) ⟨_,_,rfl⟩)
   refine ak _ rfl<|ak _ rfl<|bX (sl 3 jA j0.eW) (λhg=>rfl)<|bX (ε (qM:Int)) (λhg=>rfl)<|bX (ε (Θ.wrap ((qM:Int) -1))) (λhg=>by(try rw[hg]);exact rfl) ?_;refine xY (ω:=qx) (λcj=>(AV.rp (jA cj))) (λhg cj aoC=>by(try rw[hg]);exact zI aoC) (λcj aoC=>?_);refine bX (AV.rp (jA cj)) (λhg=>by(try rw[hg]);exact rfl)<|bX (Y8 (dm cj.key)) (λhg=>by(try rw[hg]);exact rfl)<|bX (Y8 (dm oH.key)) (λhg=>rfl) ?_;refine xY (ω:=Bool) (λcq=>(χ cq)) (λhg cq Xy=>by(try rw[hg]);exact(jR (aaJ Xy))) (λcq Xy=>?_);refine bX (χ (!cq)) (λhg=>by(try rw[hg]);exact rfl)<|ak _ (gb _ _) ?_;refine eO (c:=((decide (0<(qM:Int)))&&(!cq))) (λfT=>?_) (λfT=>?_)
   ·exact aX (fu (by simp) ⟨_,_,rfl⟩)
   refine ak _ (dY zX NJ) ?_;exact aX (iX ⟨_,rfl,rfl⟩)
  ·intro hl xu v Bc hI;obtain⟨u4,rfl,rfl⟩:=hI;refine ak _ (dX _)<|i4 ?_;exact aX ⟨by simp,⟨_,_,_,rfl⟩⟩
  ·intro hl p6 q hq;obtain⟨u4,u8,GH,rfl⟩:=hq;refine dJ rfl<|ak _ (dY zV NH) ?_;exact aX (iX ⟨_,rfl,rfl⟩)
  ·intro hl p6 q hq;obtain⟨u8,GH,rfl⟩:=hq;refine ku rfl<|dJ rfl ?_;exact aX (fu (by simp) ⟨_,rfl⟩)
 ·intro hl s4 v w6 hI;obtain⟨u4,rfl,rfl⟩:=hI;refine ak _ (dX _)<|i4 ?_;exact aX ⟨by simp,⟨_,_,rfl⟩⟩
 ·intro hl b5 q hq;obtain⟨u4,GA,rfl⟩:=hq;refine dJ rfl ?_;exact bZ _ (bU _ _) ⟨rfl,rfl⟩
 ·intro hl b5 q hq;obtain⟨GA,rfl⟩:=hq;refine ku rfl<|dJ rfl ?_;exact bZ _ (bU _ _) ⟨rfl,rfl⟩
def BC (a0:(List cJ)) (a1:Int):Option (cJ×Bool):=
 fR a0 (λ(i8:Nat)e7(s1:Unit)=>(show Option (Lr Unit Unit (cJ×Bool))from
   if e7.aE=a1 then
    δ (.ret (e7,η))
   else
   δ (.go ()))) (λs1=>δ ()) () (λb2=>
  δ ((⟨0,(⟨#[]⟩:ByteArray),[]⟩:cJ),ι)) (λb2=>
  δ (b2.1,b2.2))
theorem RF{a0:(List cJ)}{a1:Int}{σ:Heap}{r:(cJ×Bool)}(h:BC a0 a1=δ r):BB [(sl 3 cN a0),(ε a1)] σ=δ ((Zz [(Y8 (cN r.1)),(χ r.2)]),σ):=by
 refine vV (f:=KN) (y0:=(sl 3 cN a0)) (y1:=(ε a1)) (enc:=λr:(cJ×Bool)=>(Zz [(Y8 (cN r.1)),(χ r.2)])) (T:=BC a0 a1) rfl rfl ?_ r h;unfold KN BC;refine ak _ (cy _ _ _) ?_;refine iW (B:=Unit) (R:=(cJ×Bool)) (λ(i8:Nat)(s1:Unit)v w3=>v=[(Z1 [(ε 0),(ap3 (⟨#[]⟩:ByteArray)),ZK]),aT,(ε (i8:Int))]/\σ=w3) (λ(b2:Unit)(q:LS)=>∃u5 ud,q=((φ 0),([(Z1 [(ε 0),(ap3 (⟨#[]⟩:ByteArray)),ZK]),u5,ud]:aq),σ)) (λ(b2:(cJ×Bool))(q:LS)=>∃ud,q=(Ω,([(Z1 (cN b2.1)),(χ b2.2),ud]:aq),σ)) ?_ ?_ ⟨rfl,rfl⟩ ?_ ?_
 ·intro rB i8 e7 s1 v w3 jf hI;obtain⟨rfl,rfl⟩:=hI;refine ak _ (dP jf)<|i5<|ak _ (ey jf)<|ak _ rfl<|ak _ rfl<|ak _ (zn _ _ rfl)<|ak _ rfl<|ak _ (ef _ _ _) ?_;refine dN (p:=e7.aE=a1) (λc9=>?_) (λc9=>?_)
  ·refine ak _ rfl<|ak _ rfl<|ak _ rfl<|ak _ (zn _ _ rfl) ?_;exact aX (fu (by simp) ⟨_,rfl⟩)
  refine ak _ (dY jf rB) ?_;exact aX (iX ⟨rfl,rfl⟩)
 ·intro hl s1 v w3 hI;obtain⟨rfl,rfl⟩:=hI;refine ak _ (dX _)<|i4 ?_;exact aX ⟨by simp,⟨_,_,rfl⟩⟩
 ·intro hl b2 q hq;obtain⟨u5,ud,rfl⟩:=hq;refine dJ rfl<|ak _ rfl<|ak [(ε 0),(ap3 (⟨#[]⟩:ByteArray)),ZK] rfl<|ak [(ε 0),(ap3 (⟨#[]⟩:ByteArray)),ZK] rfl<|ak (Y8 [(ε 0),(ap3 (⟨#[]⟩:ByteArray)),ZK]) rfl ?_;exact bZ _ (bU _ _) ⟨(XN (zJ (XM (zJ rfl (zJ rfl (zJ (by first|rfl|exact af6 _ _) NP)))) (zJ rfl NP))),rfl⟩
 ·intro hl b2 q hq;obtain⟨ud,rfl⟩:=hq;refine ku rfl<|dJ rfl<|ak _ rfl ?_;exact bZ _ (bU _ _) ⟨(XN (zJ (XM rfl) (zJ rfl NP))),rfl⟩
def LQ (a0:cV) (a1:cV):Option Bool:=δ ((decide (a0.unit<a1.unit))||((decide (a0.unit=a1.unit))&&(Sv a0.param.toList a1.param.toList)))
theorem ab0{a0:cV}{a1:cV}{σ:Heap}{r:Bool}(h:LQ a0 a1=δ r):Ly [(Y8 (dm a0)),(Y8 (dm a1))] σ=δ ((χ r),σ):=by refine vV (f:=LJ) (y0:=(Y8 (dm a0))) (y1:=(Y8 (dm a1))) (enc:=λr:Bool=>(χ r)) (T:=LQ a0 a1) rfl rfl ?_ r h;unfold LJ LQ;refine ak _ rfl<|ak _ rfl<|ak _ rfl<|ak _ rfl<|ak _ rfl<|bL (ε a0.unit) (λhg=>rfl)<|bL (ε a1.unit) (λhg=>rfl)<|bL (χ (decide (a0.unit=a1.unit))) (λhg=>by(try rw[hg]);exact(ef _ _ _))<|bL (χ (decide (a0.unit=a1.unit))) (λhg=>by(try rw[hg]);exact rfl)<|cY (ap3 a0.param) (λhg=>rfl)<|cY (ap3 a1.param) (λhg=>rfl)<|cY (χ (Sv a0.param.toList a1.param.toList)) (λhg=>by(try rw[hg]);exact rfl)<|bL (χ ((decide (a0.unit=a1.unit))&&(Sv a0.param.toList a1.param.toList))) (λhg=>by(try rw[hg]);exact(gb _ _))<|ak _ (kr _ _) ?_;exact bZ _ (bU _ _) ⟨rfl,rfl⟩
def DF (a0:dj) (a1:(List cJ)):Option Int:=
 (tq (oo a0) (iP a0)).bind λr1=>
 if ¬(r1=0)then
  δ r1
 else
 if 200<(a1.length:Int)then
  δ 2
 else
 fR a1 (λ(i9:Nat)e8(s2:Unit)=>(show Option (Lr Unit Unit Int)from
   if(!(aU e8.aE 1 999))=η then
    δ (.ret 1)
   else
   (if decide (0<(i9:Int))=η then sk a1 (Θ.wrap ((i9:Int) -1))else δ default).bind λaY=>
   if((decide (0<(i9:Int)))&&(decide (e8.aE<=aY.aE)))=η then
    δ (.ret 7)
   else
   (if decide (¬(e8.title=(⟨#[]⟩:ByteArray)))=η then tq (gE e8.title) (xZ e8.title)else δ default).bind λdV=>
   if((decide (¬(e8.title=(⟨#[]⟩:ByteArray))))&&(!dV))=η then
    δ (.ret 3)
   else
   if 2000<(e8.eW.length:Int)then
    δ (.ret 2)
   else
   fR e8.eW (λ(xj:Nat)kZ(sQ:Unit)=>(show Option (Lr Unit Unit Int)from
     (tq (oo a0) (xR a0 kZ.key)).bind λbI=>
     if(!bI.2)=η then
      δ (.ret 8)
     else
     if(!(aU kZ.level 0 65535))=η then
      δ (.ret 1)
     else
     (if decide (0<(xj:Int))=η then sk e8.eW (Θ.wrap ((xj:Int) -1))else δ default).bind λbO=>
     if((decide (0<(xj:Int)))&&(!(((decide (bO.key.unit<kZ.key.unit))||((decide (bO.key.unit=kZ.key.unit))&&(Sv bO.key.param.toList kZ.key.param.toList))))))=η then
      δ (.ret 7)
     else
     δ (.go ()))) (λsQ=>δ ()) () (λAo=>
    δ (.go ())) (λAo=>
    δ (.ret Ao)))) (λs2=>δ ()) () (λb3=>
  δ 0) (λb3=>
  δ b3)
theorem ank{a0:dj}{a1:(List cJ)}{σ:Heap}{r:Int}(h:DF a0 a1=δ r):Kt [(Y8 (b7 a0)),(sl 3 cN a1)] σ=δ ((ε r),σ):=by
 refine vV (f:=Kx) (y0:=(Y8 (b7 a0))) (y1:=(sl 3 cN a1)) (enc:=λr:Int=>(ε r)) (T:=DF a0 a1) rfl rfl ?_ r h;unfold Kx DF;refine ak _ rfl<|ak _ rfl ?_;refine fJ (λr1:Int=>((ε r1),σ)) (λr1 kL=>(mw (e:=λr:Int=>((ε r),σ)) (λhs=>aaR a0 hs σ)) kL) (λr1 kL=>?_);refine ak _ (gu _ _ _) ?_;refine dN (p:=¬(r1=0)) (λFB=>?_) (λFB=>?_)
 ·exact bZ _ (bU _ _) ⟨rfl,rfl⟩
 refine ak _ (cy _ _ _)<|ak _ rfl ?_;refine dN (p:=200<(a1.length:Int)) (λrO=>?_) (λrO=>?_)
 ·exact bZ _ (bU _ _) ⟨rfl,rfl⟩
 refine ak _ (cy _ _ _) ?_;refine iW (B:=Unit) (R:=Int) (λ(i9:Nat)(s2:Unit)v w4=>∃u4,v=[(Z1 (b7 a0)),u4,(ε (i9:Int))]/\σ=w4) (λ(b3:Unit)(q:LS)=>∃u2 u4 Gz,q=((φ 0),([u2,u4,Gz]:aq),σ)) (λ(b3:Int)(q:LS)=>∃u2 Gz,q=(Ω,([u2,(ε b3),Gz]:aq),σ)) ?_ ?_ ⟨_,rfl,rfl⟩ ?_ ?_
 ·intro Ow i9 e8 s2 v w4 AM hI;obtain⟨u4,rfl,rfl⟩:=hI;refine ak _ (dP AM)<|i5<|ak _ (ey AM)<|ak _ rfl<|ak _ rfl<|ak _ (zn _ _ rfl)<|ak _ rfl<|ak _ (ng e8.aE 1 999 σ)<|ak _ rfl ?_;refine eO (c:=(!(aU e8.aE 1 999))) (λrN=>?_) (λrN=>?_)
  ·exact aX (fu (by simp) ⟨_,_,rfl⟩)
  refine ak _ rfl<|bX (ε e8.aE) (λhg=>rfl)<|bX (sl 3 cN a1) (λhg=>rfl)<|bX (ε (i9:Int)) (λhg=>rfl)<|bX (ε (Θ.wrap ((i9:Int) -1))) (λhg=>by(try rw[hg]);exact rfl) ?_;refine xY (ω:=cJ) (λaY=>(AV.rp (cN aY))) (λhg aY ao7=>by(try rw[hg]);exact zI ao7) (λaY ao7=>?_);refine bX (AV.rp (cN aY)) (λhg=>by(try rw[hg]);exact rfl)<|bX (ε aY.aE) (λhg=>by(try rw[hg]);exact rfl)<|bX (χ (decide (e8.aE<=aY.aE))) (λhg=>by(try rw[hg]);exact rfl)<|ak _ (gb _ _) ?_;refine eO (c:=((decide (0<(i9:Int)))&&(decide (e8.aE<=aY.aE)))) (λvr=>?_) (λvr=>?_)
  ·exact aX (fu (by simp) ⟨_,_,rfl⟩)
  refine ak _ rfl<|ak _ (NY _ _)<|bX (ap3 e8.title) (λhg=>rfl) ?_;refine xY (ω:=Bool) (λdV=>(χ dV)) (λhg dV Xq=>by(try rw[hg]);exact(jR ((mw (e:=λr:Bool=>((χ r),σ)) (λhs=>abN e8.title hs σ)) Xq))) (λdV Xq=>?_);refine bX (χ (!dV)) (λhg=>by(try rw[hg]);exact rfl)<|ak _ (gb _ _) ?_;refine eO (c:=((decide (¬(e8.title=(⟨#[]⟩:ByteArray))))&&(!dV))) (λjN=>?_) (λjN=>?_)
  ·exact aX (fu (by simp) ⟨_,_,rfl⟩)
  refine ak (sl 3 jA e8.eW) rfl<|ak _ (cy _ _ _)<|ak _ rfl ?_;refine dN (p:=2000<(e8.eW.length:Int)) (λjG=>?_) (λjG=>?_)
  ·exact aX (fu (by simp) ⟨_,_,rfl⟩)
  refine ak (sl 3 jA e8.eW) rfl<|ak _ (cy _ _ _) ?_;refine iW (B:=Unit) (R:=Int) (λ(xj:Nat)(sQ:Unit)v Ba=>∃u4,v=[(Z1 (b7 a0)),u4,(Z1 (cN e8)),(ε (xj:Int))]/\σ=Ba) (λ(Ao:Unit)(q:LS)=>∃u4 u7 u64,q=((φ 3),([(Z1 (b7 a0)),u4,u7,u64]:aq),σ)) (λ(Ao:Int)(q:LS)=>∃u2 u7 u64,q=(Ω,([u2,(ε Ao),u7,u64]:aq),σ)) ?_ ?_ ⟨_,rfl,rfl⟩ ?_ ?_
  ·intro ahu xj kZ sQ v Ba Ol hI;obtain⟨u4,rfl,rfl⟩:=hI;refine ak _ (dP Ol)<|i5<|ak _ (ey Ol)<|ak _ rfl<|ak _ rfl<|ak _ (Hv _ _ rfl)<|ak _ rfl<|ak _ rfl ?_;refine fJ (λbI:(eM×Bool)=>((Zz [(Y8 (cB bI.1)),(χ bI.2)]),σ)) (λbI Xx=>(mw (e:=λr:(eM×Bool)=>((Zz [(Y8 (cB r.1)),(χ r.2)]),σ)) (λhs=>abO a0 hs kZ.key σ)) Xx) (λbI Xx=>?_);refine ak _ rfl<|ak _ rfl<|ak _ rfl<|ak _ (lE _ _ rfl)<|ak _ rfl ?_;refine eO (c:=(!bI.2)) (λfT=>?_) (λfT=>?_)
   ·exact aX (fu (by simp) ⟨_,_,_,rfl⟩)
   refine ak _ rfl<|ak _ (xE kZ.level σ)<|ak _ rfl ?_;refine eO (c:=(!(aU kZ.level 0 65535))) (λjc=>?_) (λjc=>?_)
   ·exact aX (fu (by simp) ⟨_,_,_,rfl⟩)
   refine ak _ rfl<|ak _ rfl<|bX (sl 3 jA e8.eW) (λhg=>rfl)<|bX (ε (xj:Int)) (λhg=>rfl)<|bX (ε (Θ.wrap ((xj:Int) -1))) (λhg=>by(try rw[hg]);exact rfl) ?_;refine xY (ω:=qx) (λbO=>(AV.rp (jA bO))) (λhg bO XH=>by(try rw[hg]);exact zI XH) (λbO XH=>?_);refine bX (AV.rp (jA bO)) (λhg=>by(try rw[hg]);exact rfl)<|bX (Y8 (dm bO.key)) (λhg=>by(try rw[hg]);exact rfl)<|bX (Y8 (dm kZ.key)) (λhg=>rfl)<|bX (χ (((decide (bO.key.unit<kZ.key.unit))||((decide (bO.key.unit=kZ.key.unit))&&(Sv bO.key.param.toList kZ.key.param.toList))))) (λhg=>by(try rw[hg]);exact(jR (ab0 (σ:=σ) (r:=((decide (bO.key.unit<kZ.key.unit))||((decide (bO.key.unit=kZ.key.unit))&&(Sv bO.key.param.toList kZ.key.param.toList)))) rfl)))<|bX (χ (!(((decide (bO.key.unit<kZ.key.unit))||((decide (bO.key.unit=kZ.key.unit))&&(Sv bO.key.param.toList kZ.key.param.toList)))))) (λhg=>by(try rw[hg]);exact rfl)<|ak _ (gb _ _) ?_;refine eO (c:=((decide (0<(xj:Int)))&&(!(((decide (bO.key.unit<kZ.key.unit))||((decide (bO.key.unit=kZ.key.unit))&&(Sv bO.key.param.toList kZ.key.param.toList))))))) (λlP=>?_) (λlP=>?_)
   ·exact aX (fu (by simp) ⟨_,_,_,rfl⟩)
   refine ak _ (dY Ol ahu) ?_;exact aX (iX ⟨_,rfl,rfl⟩)
  ·intro hl sQ v Ba hI;obtain⟨u4,rfl,rfl⟩:=hI;refine ak _ (dX _)<|i4 ?_;exact aX ⟨by simp,⟨_,_,_,rfl⟩⟩
  ·intro hl Ao q hq;obtain⟨u4,u7,u64,rfl⟩:=hq;refine dJ rfl<|ak _ (dY AM Ow) ?_;exact aX (iX ⟨_,rfl,rfl⟩)
  ·intro hl Ao q hq;obtain⟨u2,u7,u64,rfl⟩:=hq;refine ku rfl<|dJ rfl ?_;exact aX (fu (by simp) ⟨_,_,rfl⟩)
 ·intro hl s2 v w4 hI;obtain⟨u4,rfl,rfl⟩:=hI;refine ak _ (dX _)<|i4 ?_;exact aX ⟨by simp,⟨_,_,_,rfl⟩⟩
 ·intro hl b3 q hq;obtain⟨u2,u4,Gz,rfl⟩:=hq;refine dJ rfl ?_;exact bZ _ (bU _ _) ⟨rfl,rfl⟩
 ·intro hl b3 q hq;obtain⟨u2,Gz,rfl⟩:=hq;refine ku rfl<|dJ rfl ?_;exact bZ _ (bU _ _) ⟨rfl,rfl⟩
end
abbrev SmK:={k:cV // 0<=k.unit/\k.unit<=1000000}
instance : Inhabited SmK := ⟨⟨⟨0, ⟨#[]⟩⟩, by decide⟩⟩
section
section
variable {κ ν : Type} [DecidableEq κ]
theorem HH(k a:κ)(v:ν):∀(l:List (κ×ν)),bh k (e9 a v l)=if k=a then δ v else bh k l
 |[]=>by simp [e9,bh]
 |(b,w)::l=>by
  rw[e9];by_cases h:a=b
  ·subst h;rw[aH rfl,bh,bh];split<;>rfl
  ·rw[aF h,bh,bh,HH k a v l];by_cases h2:k=b
   ·subst h2;rw[aH rfl,aH rfl,aF (λe=>h e.symm)]
   ·rw[aF h2,aF h2]
theorem ao1(k:κ):∀(l:List κ)(s:List (κ×Bool)),(bh k (l.foldl (λs x=>e9 x η s) s)).getD ι=(decide (k∈l)||(bh k s).getD ι)
 |[],s=>by simp
 |x::l,s=>by
  rw[Wv,ao1 k l,HH];by_cases h:k=x
  ·simp [h]
  ·simp [h]
end
theorem acu{l:List Int}{n:Int}(h:l.Pairwise (·<·))(k:yE l n=ι):(l++[n]).Pairwise (·<·):=by
 rw[List.pairwise_append];refine⟨h,by simp,λa ha b hb=>?_⟩;simp at hb;subst hb;unfold yE at k;cases hl:l.getLast? with
 |none=>rw[List.getLast?_eq_none_iff]at hl;subst hl;simp at ha
 |some m=>
  rw[hl]at k;simp at k;obtain⟨ys,rfl⟩:=List.getLast?_eq_some_iff.1 hl;rw[List.pairwise_append]at h;rcases fB.1 ha with ha|ha
  ·have:=h.2.2 a ha m (by simp);omega
  ·simp at ha;omega
theorem Sb{fU:List cE}:∀(rest pre:List fE),yy fU pre rest=0->(pre.map (·.aE)).Pairwise (·<·)->((pre++rest).map (·.aE)).Pairwise (·<·)
 |[],pre,_,h=>by simpa using h
 |u::rest,pre,hc,h=>by
  rw[yy]at hc;split at hc
  ·cases hc
  split at hc
  ·cases hc
  rename_i ho;split at hc
  ·cases hc
  split at hc
  ·cases hc
  split at hc
  ·cases hc
  have:=Sb rest (pre++[u]) hc (by rw[Zw];exact acu h (by simpa using ho));simpa using this
theorem ack{r:dj}(h:iP r=0):(r.dQ.map (·.aE)).Pairwise (·<·):=by
 unfold iP at h;split at h
 ·split at h
  ·cases h
  ·simpa using Sb r.dQ [] h (by simp)
 ·rename_i h2;exact absurd h h2
theorem ac6(p:cE)(nm:ByteArray):(uQ p nm).2=η↔∃x∈p.params,x.name=nm:=by
 unfold uQ;cases h:p.params.find? λx=>decide (x.name=nm)with
 |none=>simp only[Option.elim_none,ZD,false_iff];rintro⟨x,hx,e⟩;have:=List.find?_eq_none.1 h x hx;simp [e]at this
 |some x=>simp only[Option.elim_some,true_iff];exact⟨x,wB h,by simpa using List.find?_some h⟩
theorem aev{l:List fE}(h:(l.map (·.aE)).Pairwise (·<·)){u v:fE}(hu:u∈l)(hv:v∈l)(e:u.aE=v.aE):u=v:=by
 induction l with
 |nil=>simp at hu
 |cons x l ih=>
  rw[dH,List.pairwise_cons]at h;rcases fA.1 hu with Gb|Gb<;>rcases fA.1 hv with Gc|Gc
  ·rw[Gb,Gc]
  ·have:=h.1 v.aE (i6.2 ⟨v,Gc,rfl⟩);rw[<-Gb]at this;omega
  ·have:=h.1 u.aE (i6.2 ⟨u,Gb,rfl⟩);rw[<-Gc]at this;omega
  ·exact ih h.2 Gb Gc
def wF(r:dj)(k:cV):Bool:=(xR r k).2
theorem aeT{r:dj}(h:iP r=0)(k:cV):wF r k=decide (k∈qX r):=by
 rw[kE,decide_eq_true_iff];unfold wF xR qX;rw[List.mem_flatMap];cases hf:r.dQ.find? λu=>decide (u.aE=k.unit)with
 |none=>simp only[Option.elim_none,ZD,false_iff];rintro⟨u,hu,hk⟩;obtain⟨x,_,rfl⟩:=i6.1 hk;have:=List.find?_eq_none.1 hf u hu;simp at this
 |some u=>
  have hu:=wB hf;have hn:u.aE=k.unit:=by simpa using List.find?_some hf
  simp only[Option.elim_some,ac6];constructor
  ·rintro⟨x,hx,e⟩;exact⟨u,hu,i6.2 ⟨x,hx,by rw[hn,e]⟩⟩
  ·rintro⟨v,hv,hk⟩;obtain⟨x,hx,rfl⟩:=i6.1 hk;obtain rfl:=aev (ack h) hu hv hn;exact⟨x,hx,rfl⟩
theorem aeW{r:dj}(h:iP r=0):(qX r).length<=16000:=by have h1:=Ls h r.dQ;have h2:=SX h;show(r.dQ.flatMap (pP r.bV)).length<=_;omega
theorem aeV{α:Type}{p:Prop}[Decidable p](a b:α):(if p then δ a else δ b)=δ (if p then a else b):=by split<;>rfl
theorem anY{α β:Type}{p:Prop}[Decidable p](a b:α)(f:α->Option β):(if p then δ a else δ b).bind f=f (if p then a else b):=by split<;>rfl
theorem before_eq(a b:cV):BD a b=δ (AZ a b):=by
 unfold BD AZ;by_cases h:a.unit=b.unit
 ·simp [h,afh,aoR]
 ·by_cases h2:a.unit<b.unit<;>simp [h,h2]
def EO(has:cV->Bool)(l:List qx)(i:Nat)(x:qx):Int:=
 if(!has x.key)=η then 8
 else if(!(aU x.level 0 65535))=η then 1
 else if(decide (0<(i:Int))&&!AZ (pv l i).key x.key)=η then 7 else 0
def zA(has:cV->Bool)(l:List cJ)(i:Nat)(p:cJ):Int:=
 if(!(aU p.aE 1 999))=η then 1
 else if(decide (0<(i:Int))&&decide (p.aE<=(pv l i).aE))=η then 7
 else if(!(Cx p.title))=η then 3
 else if 2000<(p.eW.length:Int)then 2
 else gR (EO has p.eW) p.eW 0
def qU(r:dj)(l:List cJ):Int:=
 if ¬(iP r=0)then iP r else if 200<(l.length:Int)then 2 else gR (zA (wF r) l) l 0
theorem aa1(c:Bool)(a b:cV):(c&&!(if c=η then AZ a b else(default:Bool)))=(c&&!AZ a b):=by cases c<;>rfl
theorem abZ(s:ByteArray):(decide (¬(s=(⟨#[]⟩:ByteArray)))&&!(if decide (¬(s=(⟨#[]⟩:ByteArray)))=η then xZ s else(default:Bool)))=!Cx s:=by unfold Cx;by_cases h:s=⟨#[]⟩<;>simp [h]
theorem aao(r:dj)(l:List cJ)(hr:oo r)(hl:fW vQ l):DC r l=δ (qU r l):=by
 unfold DC qU;simp only[nB hr,aO];rw[nB (by show 2<=bf;unfold bf;omega)];simp only[ahm,aO];by_cases h0:iP r=0;case neg=>simp [h0]
 by_cases h1:200<(l.length:Int)
 ·simp [h0,h1]
 have hk:BU r=δ ((qX r).foldl (λs x=>e9 x η s) []):=by unfold BU;have:=aeW h0;simp only[nB hr,aO,h0,if_true];rw[adX (λs x=>e9 x η s) (λ_ _=>True) (by unfold bf;omega) trivial (λ_ _ _ _ _=>trivial) (λ_ _ _ _ _=>rfl)];rfl
 simp only[h0,h1,not_true_eq_false,if_false,decide_false,ZD,hk,aO]
 have has:∀k,(bh k ((qX r).foldl (λs x=>e9 x η s) [])).getD ι=wF r k:=by intro k;rw[ao1,aeT h0];simp [bh]
 rw[qT (f:=zA (wF r) l) hl.1 ?_]
 ·split
  ·rename_i h;rw[h]
  ·rfl
 intro i p hp;have Qo:=hl.2 p (ct hp);obtain⟨_,ht,hs⟩:=Qo;simp only[EA hp hl.1,aO,nB ht,has];rw[qT (f:=EO (wF r) p.eW) hs.1 ?_]
 ·unfold zA;repeat first|exact HZ _|exact go_ret|refine Iw (by decide) ?_
 intro j x hx;simp only[EA hx hs.1,aO,before_eq,anY,aa1];unfold EO;repeat first|exact go_ret|refine Iw (by decide) ?_
theorem aag(r:dj)(l:List cJ)(hr:oo r)(hl:fW vQ l):DF r l=δ (qU r l):=by
 unfold DF qU;simp only[nB hr,aO];by_cases h0:iP r=0;case neg=>simp [h0]
 by_cases h1:200<(l.length:Int)
 ·simp [h0,h1]
 simp only[h0,h1,not_true_eq_false,if_false];rw[qT (f:=zA (wF r) l) hl.1 ?_]
 ·split
  ·rename_i h;rw[h]
  ·rfl
 intro i p hp;have Qo:=hl.2 p (ct hp);obtain⟨_,ht,hs⟩:=Qo;simp only[EA hp hl.1,aO,nB ht,anY,abZ];rw[qT (f:=EO (wF r) p.eW) hs.1 ?_]
 ·unfold zA;repeat first|exact HZ _|exact go_ret|refine Iw (by decide) ?_
 intro j x hx;simp only[EA hx hs.1,aO];unfold EO AZ wF;repeat first|exact go_ret|refine Iw (by decide) ?_
def Em(l:List cJ)(n:Int):cJ×Bool:=match l.find? λp=>decide (p.aE=n)with|some p=>(p,η)|none=>(⟨0,⟨#[]⟩,[]⟩,ι)
theorem an1(l:List cJ)(hl:l.length<=bf)(n:Int):BC l n=δ (Em l n):=by unfold BC Em;rw[Mg (p:=λp=>decide (p.aE=n)) (r:=λp=>(p,η)) hl (by intro i x _;simp only[decide_eq_true_eq,aeV])];cases l.find? λp=>decide (p.aE=n)<;>rfl
end
theorem XZ{a b:Nat}(h:a+b<9223372036854775808):Zn (.ah (a:Int)) (.ah (b:Int))=δ (.ah ((a+b:Nat):Int)):=by rw[CI,dc (by unfold bE;omega)];simp
theorem I7{a:Nat}(h:a+1<9223372036854775808):Zn (.ah (a:Int)) (.ah 1)=δ (.ah ((a+1:Nat):Int)):=XZ (b:=1) h
theorem anQ(a b:Nat):ZN (.ah (a:Int)) (.ah (b:Int))=δ (.bool (decide (a<b))):=by rw[tJ];have:((a:Int)<(b:Int))=(a<b):=propext ⟨λh=>by omega,λh=>by omega⟩;simp only[this]
theorem Yk{α:Type}{X Y:α}:(bif (φ 0==φ 0)then X else Y)=X:=rfl
def XY(l:List IV):Prop:=l.Pairwise λa b=>AZ a.key b.key=η
structure Good (l : List wC) : Prop where
 len:l.length<=300
 num:∀c∈l,1<=c.aE/\c.aE<=9999999
 srt:l.Pairwise λa b=>a.aE<b.aE
 mv:∀c∈l,c.I2.length<=2000/\XY c.I2
 pts:∀c∈l,c.NB.ag3.length<=20
section
structure amA (l : List wC) : Prop where
 len:l.length<=300
 num:∀c∈l,1<=c.aE/\c.aE<=9999999
 srt:l.Pairwise λa b=>a.aE<b.aE
section
variable {α R γ S B : Type}
end
end
section
open HP
def Lt(σ:Heap)(sh:Sh)(v t:AV):Prop:=(∃v',X0 σ 0 8 v=δ v'/\T5 v'=ι/\S7 sh v'=S7 sh t)/\T5 t=ι/\(T5 v=ι->S7 sh v=S7 sh t)
def Fy(σ:Heap):List Sh->aq->aq->Prop
 |_,[],[]=>True
 |[],a::cH,t::ts=>Lt σ .k a t/\Fy σ [] cH ts
 |s::ss,a::cH,t::ts=>Lt σ s a t/\Fy σ ss cH ts
 |_,_,_=>False
theorem mU(v:AV):S7 .k v=v:=by simp [S7]
theorem JN{σ:Heap}:∀{ss:List Sh}{cH ts:aq},Fy σ ss cH ts->(∃yt,Xu σ 0 8 cH=δ yt/\yt.any T5=ι/\Ug ss yt=Ug ss ts)/\ts.any T5=ι/\(cH.any T5=ι->Ug ss cH=Ug ss ts)
 |ss,[],[],_=>⟨⟨[],by simp [Xu],rfl,rfl⟩,rfl,λ_=>rfl⟩
 |[],a::cH,t::ts,h=>by obtain⟨⟨⟨v',h1,h2,h3⟩,h4,h5⟩,h6⟩:=h;obtain⟨⟨yt,k1,k2,k3⟩,k4,k5⟩:=JN h6;rw[mU,mU]at h3;simp only[Ug]at k3 k5;refine⟨⟨v'::yt,by simp [Xu,h1,k1],by simp [h2,k2],by simp [Ug,h3,k3]⟩,by simp [h4,k4],λh=>?_⟩;simp only[List.any_cons,mP]at h;have:=h5 h.1;rw[mU,mU]at this;simp [Ug,this,k5 h.2]
 |s::ss,a::cH,t::ts,h=>by obtain⟨⟨⟨v',h1,h2,h3⟩,h4,h5⟩,h6⟩:=h;obtain⟨⟨yt,k1,k2,k3⟩,k4,k5⟩:=JN h6;refine⟨⟨v'::yt,by simp [Xu,h1,k1],by simp [h2,k2],by simp [Ug,h3,k3]⟩,by simp [h4,k4],λh=>?_⟩;simp only[List.any_cons,mP]at h;simp [Ug,h5 h.1,k5 h.2]
 |_,[],_::_,h=>by cases h
 |[],_::_,[],h=>by cases h
 |_::_,_::_,[],h=>by cases h
theorem XK{cL:List Sh}{dR:Sh}{r:aq->Heap->aB}{cH ts:aq}{σ:Heap}{v:AV}(h:Fy σ cL cH ts)(e:∀σ,Ξ η cL dR r ts σ=δ (v,σ))(hs:A.Ae v=η):Ξ η cL dR r cH σ=δ (v,σ):=by
 obtain⟨⟨yt,k1,k2,k3⟩,k4,k5⟩:=JN h;cases ho:cH.any T5
 ·rw[vY (k5 ho) ho k4];exact e σ
 ·exact Cj ho k1 k2 (by rw[vY k3 k2 k4];exact e []) hs
theorem ahI{σ:Heap}{sh:Sh}{v:AV}(h:Fz v)(ho:T5 v=ι):Lt σ sh v v:=⟨⟨v,h σ 0 8,ho,rfl⟩,ho,λ_=>rfl⟩
theorem IM{σ:Heap}(n:Int):Lt σ .k (.ah n) (.ah n):=ahI (th _ _) rfl
section
variable {α : Type} {c : α -> aq} {sz : Nat} {B : aP -> Prop} {au σ : Heap} {R : HP} {v : AV} {l : List α}
theorem oQ(H:Hs B au σ (Sl (fl c) sz v l*R)):(l=[]/\(v=.aC\/v=.ez)/\Hs B au σ R)\/∃id g,v=.os id g sz 0 l.length/\Hs B au σ (blk id (.arr g sz (l.map c))*R):=by
 rcases Ci H with h|⟨id,g,seg,rfl,hl,H⟩
 ·exact .inl h
 ·have K:=EC.1 (cr (show _=els (fl c) seg l*(blk id (.arr g sz seg)*R) by ac_rfl) H);obtain⟨rfl,K⟩:=K;exact .inr ⟨id,g,rfl,K⟩
theorem IT{id g:Nat}{n:Nat}(H:Hs B au σ (blk id (.arr g sz (l.map c))*R))(hn:n=l.length:=by rfl):Hs B au σ (Sl (fl c) sz (.os id g sz 0 n) l*R):=
 EP (id:=id) (g:=g) (seg:=l.map c) (cr (show els (fl c) (l.map c) l*(blk id (.arr g sz (l.map c))*R)=_ by ac_rfl) (EC.2 ⟨rfl,H⟩)) hn
theorem IJ(hc:∀x,rI (c x)){id g:Nat}(h:σ[id]? =δ (.arr g sz (l.map c))){n:Nat}(hn:¬id<n)(d:Nat):X0 σ n (d+1) (.os id g sz 0 l.length)=δ (sl sz c l):=by simp only[X0,aF hn,h];rw[aH (by simp),R6,mR (by simp),zx,Je hc];rfl
theorem Nu(H:Hs B au σ (Sl (fl c) sz v l*R))(hc:∀x,rI (c x)){n:Nat}(hn:n<=au.length)(d:Nat):∃v',X0 σ n (d+1) v=δ v'/\A.OJ v'=ι/\S7 (.s sz) v'=sl sz c l:=by
 rcases oQ H with⟨rfl,rfl|rfl,_⟩|⟨id,g,rfl,K⟩
 ·exact⟨.aC,by simp [X0],rfl,rfl⟩
 ·exact⟨.ez,by simp [X0],rfl,rfl⟩
 ·obtain⟨h1,h2⟩:=eG K;exact⟨_,IJ hc h2 (by omega) d,rfl,rfl⟩
structure Cl (p : AV) (F : aq -> HP) : Prop where
 nc:A.jJ p=δ p
 ow:T5 p=η
 ld:∀{au σ:Heap}{e:aq}{R:HP},Hs aV au σ (F e*R)->Γ p σ=δ e
 fa:∀(o:Nat),∃q,SN o p=δ q/\(∀{au σ:Heap}{e:aq}{R:HP},Hs aV au σ (F e*R)->Γ q σ=δ (e.drop o))/\
  ∀{au σ:Heap}{e:aq}{R:HP}{new e':aq},Hs aV au σ (F e*R)->Zv o new e=δ e'->∃σ',ZX q new σ=δ σ'/\Hs aV au σ' (F e'*R)
 st:∀{au σ:Heap}{e:aq}{R:HP}{new e':aq},Hs aV au σ (F e*R)->Zv 0 new e=δ e'->∃σ',ZX p new σ=δ σ'/\Hs aV au σ' (F e'*R)
 fc:∀(o o':Nat)(q:AV),SN o p=δ q->SN o' q=SN (o+o') p
theorem Nk{P:HP}(H:Hs B au σ P):Hs aV au σ P:=⟨by obtain⟨bs,h,_⟩:=H.pre;exact⟨bs,h,λ_ _=>trivial⟩,H.own⟩
end
section
variable {α : Type} {E : aq -> α -> HP} {sz : Nat} {au σ : Heap} {R : HP} {v : AV} {l : List α}
theorem VC(H:Hs aV au σ (Sl E sz v l*R)){i:Nat}{x:α}(hx:l[i]? =δ x):∃p F e,Zp sz v (.ah (i:Int))=δ p/\Cl p F/\Hs aV au σ (F e*(E e x*R))/\
  ∀{σ:Heap}{e:aq}{y:α}{R:HP},Hs aV au σ (F e*(E e y*R))->Hs aV au σ (Sl E sz v (l.set i y)*R):=by
 have hi:=(bG.1 hx).1;rcases Ci H with⟨rfl,_,_⟩|⟨id,g,seg,rfl,hl,H⟩
 ·simp at hx
 ·have he:seg[i]? =δ seg[i]:=dg (by omega)
  have rd:∀{au σ:Heap}{e:aq}{R:HP}(o:Nat),Hs aV au σ (blk id (.arr g sz (seg.set i e))*els E (seg.eraseIdx i) (l.eraseIdx i)*R)->Γ (.oe id g i o) σ=δ (e.drop o):=by intro au σ e R o K;obtain⟨_,k2⟩:=eG (cr (sy _ _ _) K);simp only[Γ,k2,if_true];rw[kT (by omega)];rfl
  have wr:∀{au σ:Heap}{e:aq}{R:HP}{new e':aq}(o:Nat),Hs aV au σ (blk id (.arr g sz (seg.set i e))*els E (seg.eraseIdx i) (l.eraseIdx i)*R)->Zv o new e=δ e'->
    ∃σ',ZX (.oe id g i o) new σ=δ σ'/\Hs aV au σ' (blk id (.arr g sz (seg.set i e'))*els E (seg.eraseIdx i) (l.eraseIdx i)*R):=by
   intro au σ e R new e' o K hs;have K':=cr (sy _ _ _) K;obtain⟨_,k2⟩:=eG K';refine⟨σ.set id (.arr g sz (seg.set i e')),?_,?_⟩
   ·simp only[ZX,k2,if_true];rw[kT (by omega),aO,hs,ff,List.set_set]
   ·exact cr (sy _ _ _).symm (qW (b':=.arr g sz (seg.set i e')) K' trivial)
  refine⟨.oe id g i 0,λe=>blk id (.arr g sz (seg.set i e))*els E (seg.eraseIdx i) (l.eraseIdx i),seg[i],?_,⟨rfl,rfl,λK=>by have:=rd 0 K;simpa using this,λo=>⟨.oe id g i o,by simp [SN],λK=>rd o K,λK hs=>wr o K hs⟩,λK hs=>wr 0 K hs,λo o' q hq=>by simp [SN]at hq;subst hq;simp [SN]⟩,?_,?_⟩
  ·have hi':((i:Int)<(l.length:Int)):=by omega
   simp [Zp,A.idx,hi']
  ·refine cr ?_ H;have e1:seg.set i seg[i]=seg:=List.set_getElem_self (by omega);simp only[e1];rw[VR hl he hx];ac_rfl
  ·intro σ e y R K;refine EP (id:=id) (g:=g) (seg:=seg.set i e) (cr ?_ K) (by simp)
   have e1:els E (seg.set i e) (l.set i y)=els E (seg.eraseIdx i) (l.eraseIdx i)*E e y:=by rw[VR (i:=i) (e:=e) (x:=y) (by simp [hl]) (by rw[kT (by omega)]) (by rw[kT hi])];rw[List.eraseIdx_set_eq,List.eraseIdx_set_eq]
   rw[e1];ac_rfl
end
def ahd(x:wC)(vp vm:AV):aq:=[.ah x.aE,.str x.title,.ah x.NC,.ah x.up,.ah x.down,.ah x.other,.ah x.NB.kind,vp,.bool x.block,.ah x.VW,vm]
section
variable {B : aP -> Prop} {au σ : Heap} {R : HP} {M : AV -> List IV -> HP} {e : aq} {x : wC}
variable {v : AV} {l : List wC}
end
end
section
open HP
theorem kq{α:Type}{f:aq->Heap->Option LS}{Q:LS->Prop}(l:List α)(I:Nat->aq->Heap->Prop){v0:aq}{σ:Heap}
  (hstep:∀i x v σ,l[i]? =δ x->I i v σ->∃v' σ',f v σ=δ (.normal,v',σ')/\I (i+1) v' σ')
  (hend:∀v σ,I l.length v σ->∃q,f v σ=δ q/\q.1≠.normal/\Q q) (h0:I 0 v0 σ):∃q,Zo f v0 σ=δ q/\Q q:=by
 have key:∀(k i:Nat)v σ,l.length-i<=k->i<=l.length->I i v σ->∃q,(∃n,apH f n v σ=δ q)/\Q q:=by
  intro k;induction k with
  |zero=>
   intro i v σ hk hle hI;have:i=l.length:=by omega
   subst this;obtain⟨q,h1,h2,h3⟩:=hend v σ hI;exact⟨q,vO h1 h2,h3⟩
  |succ k ih=>
   intro i v σ hk hle hI;by_cases hi:i<l.length
   ·obtain⟨v',σ',h1,h2⟩:=hstep i _ v σ (dg hi) hI;obtain⟨q,hq,hQ⟩:=ih (i+1) v' σ' (by omega) (by omega) h2;exact⟨q,HL h1 hq,hQ⟩
   ·have:i=l.length:=by omega
    subst this;obtain⟨q,h1,h2,h3⟩:=hend v σ hI;exact⟨q,vO h1 h2,h3⟩
 obtain⟨q,⟨n,hn⟩,hQ⟩:=key _ 0 v0 σ (bR _) (jK _) h0;exact⟨q,DM hn,hQ⟩
theorem nw{β:Type}{f:aq->Heap->Option LS}{K:LS->Option β}{v0:aq}{σ:Heap}{P:β->Prop}{Q:LS->Prop}(h:∃q,Zo f v0 σ=δ q/\Q q)(k:∀q,Q q->∃b,K q=δ b/\P b):∃b,(Zo f v0 σ).bind K=δ b/\P b:=by obtain⟨q,h1,h2⟩:=h;obtain⟨b,h3,h4⟩:=k q h2;exact⟨b,by rw[h1];exact h3,h4⟩
section
variable {α : Type} {c : α -> aq} {sz : Nat} {B : aP -> Prop} {au σ : Heap} {R : HP} {v : AV} {l : List α}
theorem EF(H:Hs B au σ (Sl (fl c) sz v l*R)){i:Nat}{x:α}(hx:l[i]? =δ x):∃p,Zp sz v (.ah (i:Int))=δ p/\Γ p σ=δ (c x):=by
 have hi:=(bG.1 hx).1;rcases oQ H with⟨rfl,_,_⟩|⟨id,g,rfl,K⟩
 ·simp at hx
 ·obtain⟨h1,h2⟩:=eG K;have hi':((i:Int)<(l.length:Int)):=by omega
  exact⟨.oe id g i 0,by simp [Zp,A.idx,hi'],by simp [Γ,h2,hx]⟩
theorem UU{most:Nat}{m r:aq->Heap->aB}{r0:AV->Heap->aB}(hm:m=A.IG (Ξ η [(.s sz)] .k (RV r0)))(hr:∀a σ,r0 a σ=(A.Jy a .aC).bind λx1=>ξ x1 (δ (.aC,σ)) ((ZI sz most .ez a σ).bind λr2=>δ (r2.1,r2.2)))
  (hl:l.length<=most) (hB:∀g g' seg,(seg=[]\/B (.arr g sz seg))->B (.arr g' sz (seg++l.map c))) (H:Hs B au σ R):∃v σ',m [sl sz c l] σ=δ (v,σ')/\ZS v=δ v/\Hs B au σ' (Sl (fl c) sz v l*R):=by
 subst hm;cases l with
 |nil=>exact⟨.ez,σ,rfl,rfl,kO H (.inr rfl)⟩
 |cons x l=>
  obtain⟨v',σ',e1,H2⟩:=Nt (B:=B) (E:=fl c) (sz:=sz) (v:=.ez) (l:=[]) (ys:=(x::l).map c) (xs:=x::l) (most:=most) (kO (EC.2 ⟨rfl,H⟩) (.inr rfl)) (by simpa using hl) hB
  have hv:ZS v'=δ v':=by
   rcases oQ H2 with⟨h,_,_⟩|⟨id,g,rfl,_⟩
   ·cases h
   ·rfl
  refine⟨v',σ',?_,hv,H2⟩;show Ξ η [(.s sz)] .k (RV r0) [sl sz c (x::l)] σ=_;refine wrap_eq rfl ?_ rfl;show r0 (sl sz c (x::l)) σ=_;rw[hr,show A.Jy (sl sz c (x::l)) .aC=δ (.bool ι)from rfl,aO,wo,show sl sz c (x::l)=.sl sz ((x::l).map c)from rfl,e1];rfl
end
section
variable {au σ : Heap} {R : HP}
theorem afy{α:Type}{E:aq->α->HP}{sz:Nat}{B:aP->Prop}{v:AV}{l:List α}(H:Hs B au σ (Sl E sz v l*R)):ZS v=δ v:=by rcases Ci H with⟨_,rfl|rfl,_⟩|⟨id,g,seg,rfl,_⟩<;>rfl
end
end
section
open HP
section
variable {au σ : Heap} {R : HP}
theorem Nh{v v':AV}(H:Hs aV au σ R)(h:X0 σ au.length 8 v=δ v')(hv:σ=au->v'=v):wh au v σ=δ (v',au):=by
 obtain⟨⟨bs,rfl,_⟩,_⟩:=H;by_cases mC:bs=[]
 ·subst mC;rw[TB]at h ⊢;rw[bU,hv (by simp)]
 ·unfold wh;rw[aF (by simpa using mC),aH (by simp),h];rfl
end
end
section
open HP
def Inv(k:Nat)(l:List wC):Prop:=l.length<=1000/\∀c∈l,XY c.I2/\c.I2.length<=2000+k
section
variable {au σ : Heap} {R : HP}
end
end
section
open HP
section
variable {α β : Type} {E : aq -> β -> HP} {f : α -> β} {B : aP -> Prop} {au σ : Heap} {R : HP} {sz : Nat} {v : AV}
end
section
variable {au σ : Heap} {R : HP} {v : AV}
theorem xW{α:Type}{c:α->aq}{sz:Nat}{l:List α}{vm:AV}(hc:∀x,rI (c x))(H:Hs aV au σ (Sl (fl c) sz vm l*R)):Lt σ (.s sz) vm (sl sz c l):=by
 obtain⟨v',h1,h2,h3⟩:=Nu H hc (jK _) 7;refine⟨⟨v',h1,?_,by rw[h3];rfl⟩,rfl,λho=>?_⟩
 ·rcases oQ H with⟨rfl,rfl|rfl,_⟩|⟨id,g,rfl,K⟩
  ·simp [X0]at h1;subst h1;rfl
  ·simp [X0]at h1;subst h1;rfl
  ·cases v'<;>first|rfl|(cases h2;done)|(simp only[S7]at h3;cases h3)
 ·rcases oQ H with⟨rfl,rfl|rfl,_⟩|⟨id,g,rfl,K⟩
  ·rfl
  ·rfl
  ·cases ho
end
end
section
open HP
theorem zU(a b:AV):Zl 0 (.aJ [a,b])=δ a:=rfl
theorem ext1(a b:AV):Zl 1 (.aJ [a,b])=δ b:=rfl
theorem Jc(a:Int):Tn .i (.ah a) (.ah 0)=δ (.bool (decide (¬(a=0)))):=by rw[gu]
end
section
open HP
def jH:aP->Prop:=λb=>A.zC b=η
section
variable {α : Type} {c : α -> aq} {sz : Nat} {au σ : Heap} {R : HP}
theorem IK{B:aP->Prop}(H:Hs B au σ R)(bs:Heap)(mC:∀b∈bs,B b):Hs B au (σ++bs) R:=by obtain⟨⟨b0,rfl,hb0⟩,h,hr,h2⟩:=H;exact⟨⟨b0++bs,by simp,λb hb=>(fB.1 hb).elim (hb0 b) (mC b)⟩,h,hr,λi b hb=>⟨(h2 i b hb).1,by rw[gZ (bG.1 (h2 i b hb).2).1];exact(h2 i b hb).2⟩⟩
theorem V2{B:aP->Prop}(H:Hs B au σ R){bs:Heap}(mC:∀b∈bs,B b){j:Nat}{b:aP}(hj:σ.length<=j)(hb:(σ++bs)[j]? =δ b):Hs B au (σ++bs) (blk j b*R):=by
 have hl:=V3 H;have H2:=IK H bs mC;obtain⟨_,h,hr,h2⟩:=H
 have hn:h j=μ:=by
  cases hh:h j with
  |none=>rfl
  |some x=>have:=(bG.1 (h2 j x hh).2).1;omega
 refine⟨H2.pre,λi=>if i=j then δ b else h i,⟨λi=>if i=j then δ b else μ,h,λi=>rfl,hr,λi=>?_,λi=>?_⟩,λi x hx=>?_⟩
 ·by_cases e:i=j
  ·subst e;exact .inr hn
  ·simp [e]
 ·by_cases e:i=j<;>simp [e]
 ·by_cases e:i=j
  ·subst e;simp only[if_true,ψ]at hx;subst hx;exact⟨by omega,hb⟩
  ·simp only[e,if_false]at hx;obtain⟨k1,k2⟩:=h2 i x hx;exact⟨k1,by rw[gZ (bG.1 k2).1];exact k2⟩
def KS(m:aq->Heap->aB)(args:aq)(c:α->aq)(sz:Nat)(l:List α):Prop:=∀(au σ:Heap)(R:HP),Hs jH au σ R->∃v σ',m args σ=δ (v,σ')/\Hs jH au σ' (Sl (fl c) sz v l*R)
theorem aog{B:aP->Prop}(Jz:∀b,jH b->B b){m:aq->Heap->aB}{args:aq}{l:List α}(h:KS m args c sz l)(H:Hs B au σ R):∃v σ',m args σ=δ (v,σ')/\Hs B au σ' (Sl (fl c) sz v l*R):=by
 obtain⟨v,σ',e1,K⟩:=h σ σ emp (Cz σ);refine⟨v,σ',e1,?_⟩;obtain⟨⟨bs,mC,hfr⟩,_⟩:=id K;subst mC;have wZ:∀b∈bs,B b:=λb hb=>Jz b (hfr b hb)
 rcases oQ K with⟨rfl,hv,_⟩|⟨id,g,rfl,K2⟩
 ·exact kO (IK H bs wZ) hv
 ·obtain⟨k1,k2⟩:=eG K2;exact IT (V2 H wZ k1 k2)
theorem yj{B:aP->Prop}(Jz:∀b,jH b->B b){cL:List Sh}{r:aq->Heap->aB}{sL ts:aq}{l:List α}(h:Fy σ cL sL ts)(e:KS (Ξ η cL .k r) ts c sz l)(H:Hs B au σ R):
  ∃v σ',Ξ η cL .k r sL σ=δ (v,σ')/\Hs B au σ' (Sl (fl c) sz v l*R):=by
 obtain⟨⟨as',k1,k2,k3⟩,k4,k5⟩:=JN h;cases ho:sL.any T5
 ·obtain⟨v,σ',e1,K⟩:=aog Jz e H;exact⟨v,σ',by rw[vY (k5 ho) ho k4];exact e1,K⟩
 ·obtain⟨v,σ1,e1,K⟩:=e [] [] emp (Cz [])
  have e2:r (Ug cL ts) []=δ (v,σ1):=by unfold Ξ at e1;rw[k4,R4,bk]at e1;obtain⟨⟨q1,q2⟩,f1,f2⟩:=cO.1 e1;simp only[ir,mU]at f2;obtain⟨rfl,rfl⟩:=f2;exact f1
  have hfr:∀b∈σ1,jH b:=by obtain⟨⟨bs,mC,hB⟩,_⟩:=K;rw[YU]at mC;subst mC;exact hB
  have hb:σ1.all A.zC=η:=jC.2 hfr;have wZ:∀b∈σ1,B b:=λb hb=>Jz b (hfr b hb)
  have hw:∀v',A.uO v=η->A.tr σ.length v=v'->Ξ η cL .k r sL σ=δ (v',σ++σ1):=by intro v' h1 h2;unfold Ξ;rw[ho,Bool.and_self,bz,k1,aO,k3,e2,aO,mU];simp only[h1,hb,Bool.and_self,bz,h2]
  rcases oQ K with⟨rfl,rfl|rfl,_⟩|⟨id,g,rfl,K2⟩
  ·exact⟨.aC,_,hw _ rfl rfl,kO (IK H σ1 wZ) (.inl rfl)⟩
  ·exact⟨.ez,_,hw _ rfl rfl,kO (IK H σ1 wZ) (.inr rfl)⟩
  ·obtain⟨_,k2⟩:=eG K2;refine⟨.os (id+σ.length) g sz 0 l.length,_,hw _ rfl rfl,IT (V2 H wZ (by omega) ?_)⟩;rw[kC (by omega),Nat.add_sub_cancel];exact k2
theorem aou{c:α->aq}(hc:∀x,(c x).all A.pS=η)(l:List α):∀g g' seg,(seg=[]\/jH (.arr g sz seg))->jH (.arr g' sz (seg++l.map c)):=by
 intro g g' seg h;show((seg++l.map c).all λe=>e.all A.pS)=η;rw[List.all_append,fy];refine⟨?_,?_⟩
 ·rcases h with rfl|h
  ·rfl
  ·exact h
 ·rw[List.all_map,jC];intro x _;exact hc x
end
end
theorem afQ(σ:Heap):zf [.aC,.ah 0] σ=δ (.aC,σ):=by unfold zf Ξ;rw[Xp,bk];show(zg .aC (.ah 0) σ).map _=_;rw[show zg .aC (.ah 0) σ=δ (.aC,σ)from rfl];simp [S7]
def sJ:aq:=[(ε 0)]
theorem afR{n:Nat}(h0:0<n)(h1:n<=4398046511104)(σ:Heap):zf [.aC,.ah (n:Int)] σ=δ (.os σ.length n 1 0 0,σ++[.arr n 1 (ZB n sJ)]):=by
 unfold zf Ξ;rw[Xp,bk];show(zg .aC (.ah (n:Int)) σ).map _=_
 have run:zg .aC (.ah (n:Int)) σ=δ (.os σ.length n 1 0 0,σ++[.arr n 1 (ZB n sJ)]):=by
  unfold zg;have hc:∀{k:AV->aB}{u:aB},A.uY (A.zS .aC) k u=k (.ah 0):=rfl;have jI:∀{k:AV->Option (aq×Heap)}{u:Option (aq×Heap)},A.uY (A.zS .aC) k u=k (.ah 0):=rfl;have e1:ZN (.ah (n:Int)) (.ah 0)=δ (.bool ι):=by rw[tJ,gq (by omega)]
  have e2:YR (.ah (n:Int)) (.ah 0)=δ (.ah (n:Int)):=by rw[zP,Int.sub_zero,dc (by unfold bE;omega)]
  have e3:Zx (.ah (n:Int)) (.ah 0)=δ (.bool η):=by simp [Zx];omega
  rw[e1,aO,wo,aO,hc,show ZO .aC=δ (.ah 0)from rfl,aO,show YR (.ah 0) (.ah 0)=δ (.ah 0)from rfl,aO,e2,aO,e3,aO,zF,jI];have e4:A.gQ 1 .aC μ (δ (.ah 0)) σ=δ .aC:=by simp [A.gQ,Sq]
  have e5:A.tg 1 (140737488355328 / 8) sJ .aC (.ah (n:Int)) σ=δ (.os σ.length n 1 0 n,σ++[.arr n 1 (ZB n sJ)]):=by
   have q:(0:Int)<=(n:Int)/\(n:Int)<=((140737488355328 / 8:Nat):Int):=by omega
   simp only[A.tg,aH q,A.kS,Int.toNat_natCast,YF];rw[aF (by intro h;have:=congrArg Ym h;simp at this;omega),aH (by omega)]
  have e6:(σ++[aP.arr n 1 (ZB n sJ)])[σ.length]? =δ (.arr n 1 (ZB n sJ)):=by simp
  simp only;rw[e4,aO,show[(ε 0)]=sJ from rfl,e5,aO,aO,show(.ah 0:AV)=.ah ((0:Nat):Int)from rfl,Rb (ML e6 (by simp)) (Nz (k:=0) (by omega)) Ny,aO];rfl
 rw[run];simp [S7]
abbrev tI:=AV×List aq
def ET(p:tI):Prop:=ZO p.1=δ (.ah (p.2.length:Int))/\(∀σ,Vl 1 p.1 σ=δ p.2)/\ZS p.1=δ p.1
def wm(p:tI):aq:=[p.1]
theorem Np{p:tI}(h:ET p):Δ 0 (wm p)=δ p.1:=h.2.2
abbrev mX(L:List tI):List aq:=(L.map (·.2)).flatten
def jL(L:List tI):Nat:=(mX L).length
theorem Mv{L:List tI}{i:Nat}{x:tI}(h:L[i]? =δ x):mX (L.take (i+1))=mX (L.take i)++x.2:=by rw[Z9,h];simp [mX]
theorem VF{L:List tI}(i:Nat):jL (L.take i)<=jL L:=by
 have:L=L.take i++L.drop i:=(Wq _ _).symm;unfold jL;conv=>rhs;rw[this]
 simp only[mX,Zw,aqn,PU];omega
theorem adQ{L:List tI}(hr:∀p∈L,ET p)(hl:L.length<=bf)(h:jL L<=4398046511104)(σ:Heap):∃b:AV×Heap,zc (sl 1 wm L) σ=δ b/\((b.1=.aC/\b.2=σ/\mX L=[])\/(b.1=.os σ.length (jL L) 1 0 (jL L)/\b.2=σ++[.arr (jL L) 1 (mX L)])):=by
 unfold zc;rw[cy,aO];refine nw (Q:=λq=>∃w,q=(.exit 0,[.ah (jL L:Int),w],σ)) (kq L (λi v s=>v=[.ah (jL (L.take i):Int),.ah (i:Int)]/\s=σ) ?_ ?_ ⟨rfl,rfl⟩) ?_
 ·rintro i x v s hx ⟨rfl,rfl⟩;have hle:=VF (L:=L) (i+1);have hs:jL (L.take (i+1))=jL (L.take i)+x.2.length:=by unfold jL;rw[Mv hx,PU]
  simp only[bN,cW];rw[dP hx,aO,zF,ey hx,aO];simp only[Γ,aO];rw[Np (hr x (ct hx)),aO,(hr x (ct hx)).1,aO,XZ (by omega),aO];rw[show ZN (.ah ((jL (L.take i)+x.2.length:Nat):Int)) (.ah 0)=δ (.bool ι) by rw[tJ,gq (by omega)],aO,wo,aO,dY hx hl,aO];exact⟨_,_,rfl,by rw[hs],rfl⟩
 ·rintro v s ⟨rfl,rfl⟩;simp only[bN,cW];rw[dX,aO,wo];refine⟨_,rfl,by simp,.ah (L.length:Int),?_⟩;rw[ZP]
 ·rintro q ⟨w,rfl⟩;simp only[Yk,bN];by_cases h0:jL L=0
  ·have Xm:(mX L)=[]:=tE h0;rw[h0,show(((0:Nat):Int))=0 from rfl,afQ,aO,aO];refine nw (Q:=λq=>∃w,q=(.exit 2,[.aC,w],σ)) (kq L (λi v s=>v=[.aC,.ah (i:Int)]/\s=σ) ?_ ?_ ⟨rfl,rfl⟩) ?_
   ·rintro i x v s hx ⟨rfl,rfl⟩;have hxn:x.2=[]:=List.flatten_eq_nil_iff.1 Xm x.2 (i6.2 ⟨x,ct hx,rfl⟩);have Ga:=hr x (ct hx);simp only[bN,cW];rw[dP hx,aO,zF,ey hx,aO];simp only[Γ,aO];rw[Np Ga,aO,show ZI 1 (140737488355328 / 8) .aC x.1 s=δ (.aC,s) by simp [ZI,Ga.2.1,hxn,A.kS],aO,dY hx hl,aO];exact⟨_,_,rfl,rfl,rfl⟩
   ·rintro v s ⟨rfl,rfl⟩;simp only[bN,cW];rw[dX,aO,wo];exact⟨_,rfl,by simp,_,rfl⟩
   ·rintro q ⟨w,rfl⟩;exact⟨_,rfl,.inl ⟨rfl,rfl,Xm⟩⟩
  ·have hpos:0<jL L:=by omega
   rw[afR hpos (by omega),aO,aO];obtain⟨n,hn⟩:∃n,n=jL L:=⟨_,rfl⟩
   rw[<-hn]at hpos h ⊢;refine nw (Q:=λq=>∃w,q=(.exit 2,[.os σ.length n 1 0 n,w],σ++[.arr n 1 (mX L)])) (kq L (λi v s=>v=[.os σ.length n 1 0 (jL (L.take i)),.ah (i:Int)]/\s=σ++[.arr n 1 ((mX (L.take i))++ZB (n-jL (L.take i)) sJ)]) ?_ ?_ ⟨rfl,by simp [jL]⟩) ?_
   ·rintro i x v s hx ⟨rfl,rfl⟩;have hle:=VF (L:=L) (i+1);have hs:jL (L.take (i+1))=jL (L.take i)+x.2.length:=by unfold jL;rw[Mv hx,PU]
    obtain⟨k,hk⟩:∃k,k=jL (L.take i):=⟨_,rfl⟩
    have hfl:(mX (L.take i)).length=k:=hk.symm;simp only[bN,cW];rw[dP hx,aO,zF,ey hx,aO];simp only[Γ,aO];have Ga:=hr x (ct hx);rw[Np Ga,aO];rw[hs,Mv hx,<-hk];have hg:(σ++[aP.arr n 1 ((mX (L.take i))++ZB (n-k) sJ)])[σ.length]? =δ (.arr n 1 ((mX (L.take i))++ZB (n-k) sJ)):=by simp
    have ai7:ZI 1 (140737488355328 / 8) (.os σ.length n 1 0 k) x.1 (σ++[.arr n 1 ((mX (L.take i))++ZB (n-k) sJ)])=δ (.os σ.length n 1 0 (k+x.2.length),σ++[.arr n 1 ((mX (L.take i))++x.2++ZB (n-(k+x.2.length)) sJ)]):=by
     simp only[ZI,Ga.2.1,if_true,aO,A.kS,hg];rw[aH (by simp [hfl];omega)];by_cases hx0:x.2=[]
     ·rw[hx0];simp
     ·rw[aF hx0,aH (by simp [hfl];omega)];congr 2;rw[zM _ _ (bR _),Nat.sub_self];simp only[List.set_cons_zero,Z3];congr 3;rw[Rw (by omega),mR (by omega)];congr 1;rw[List.drop_append,apK (by omega),YU,hfl,List.drop_replicate];congr 1;omega
    rw[ai7,aO,dY hx hl,aO];exact⟨_,_,rfl,rfl,rfl⟩
   ·rintro v s ⟨rfl,rfl⟩;simp only[bN,cW];rw[dX,aO,wo];refine⟨_,rfl,by simp,.ah (L.length:Int),?_⟩;rw[ZP,<-hn];simp
   ·rintro q ⟨w,rfl⟩;refine⟨(.os σ.length n 1 0 n,σ++[.arr n 1 (mX L)]),rfl,.inr ⟨?_,?_⟩⟩
    ·rfl
    ·rfl
theorem Nf{L:List tI}{l:List Int}(hr:∀p∈L,ET p)(hl:L.length<=bf)(h:l.length<=4398046511104)(hf:mX L=l.map aL):KS (Ξ η [(.s 1)] .k (RV zc)) [sl 1 wm L] aL 1 l:=by
 intro au σ R H;have ht:jL L=l.length:=by unfold jL;rw[hf,Zk]
 obtain⟨⟨b1,b2⟩,h1,h2⟩:=adQ hr hl (by omega) σ;have hw:Ξ η [(.s 1)] .k (RV zc) [sl 1 wm L] σ=δ (b1,b2):=wrap_eq rfl h1 (mU _);rcases h2 with⟨rfl,rfl,h3⟩|⟨rfl,rfl⟩
 ·have:l=[]:=by rw[hf]at h3;simpa using h3
  subst this;exact⟨_,_,hw,kO H (.inl rfl)⟩
 ·refine⟨_,_,hw,?_⟩;rw[ht,hf];refine IT (tj H ?_) rfl;show((l.map aL).all λe=>e.all A.pS)=η;rw[List.all_map,jC];intro x _;rfl
section
open HP
def agV(n:Int):wC:=⟨n,⟨#[]⟩,0,0,0,0,⟨1,[]⟩,ι,-1,[]⟩
def newRow(n:Int):aq:=ahd (agV n) .aC .aC
section
variable {au σ : Heap} {R : HP}
end
end
section
open HP
theorem aej{id g sz k:Nat}{es:List aq}{σ σ':Heap}{args:aq}(h:σ'[id]? =δ (.arr g sz es))(hk:k<=es.length)(hid:id<σ.length)(hg:g<XC args+1):A.renew args σ (.os id g sz 0 k) σ'=δ (.os id (XC args+1) sz 0 k,σ'.set id (.arr (XC args+1) sz (es.take k))):=by simp only[A.renew,h];rw[aH ⟨trivial,trivial,by omega,hg⟩,aH (.inl hid),R6]
theorem TP{α:Type}{c:α->aq}{sz id g k:Nat}{l:List α}{au σ σ':Heap}{R:HP}{rS:AV}(hid:id<σ.length)(hk:k<=l.length)(yQ:k<=l.length)(hg:XC [AV.os id g sz 0 l.length,rS]=g+l.length)(H:Hs aV au σ' (blk id (.arr g sz (l.map c))*R)):
  ∃v' s,A.renew [.os id g sz 0 l.length,rS] σ (.os id g sz 0 k) σ'=δ (v',s)/\Hs aV au s (Sl (fl c) sz v' (l.take k)*R):=by
 obtain⟨h1,h2⟩:=eG H;refine⟨_,_,aej h2 (by simp;omega) hid (by rw[hg];omega),?_⟩;have H2:=qW (b':=.arr (XC [AV.os id g sz 0 l.length,rS]+1) sz ((l.map c).take k)) H trivial;have e:(l.map c).take k=(l.take k).map c:=List.map_take.symm;rw[e]at H2 ⊢;exact IT H2 (by simp;omega)
section
variable {au σ : Heap} {R : HP}
end
end
section
open HP
theorem M4{f:aq->Heap->Option LS}{Q:LS->Prop}(I:Nat->aq->Heap->Prop)(hstep:∀n v σ,I n v σ->(∃m v' σ',m<n/\f v σ=δ (.normal,v',σ')/\I m v' σ')\/∃q,f v σ=δ q/\q.1≠.normal/\Q q){n:Nat}{v0:aq}{σ:Heap}(h0:I n v0 σ):∃q,Zo f v0 σ=δ q/\Q q:=by
 have key:∀(k n:Nat)v σ,n<=k->I n v σ->∃q,(∃m,apH f m v σ=δ q)/\Q q:=by
  intro k;induction k with
  |zero=>
   intro n v σ hn hI;rcases hstep n v σ hI with⟨m,_,_,hm,_⟩|⟨q,h1,h2,h3⟩
   ·omega
   ·exact⟨q,vO h1 h2,h3⟩
  |succ k ih=>
   intro n v σ hn hI;rcases hstep n v σ hI with⟨m,v',σ',hm,h1,h2⟩|⟨q,h1,h2,h3⟩
   ·obtain⟨q,hq,hQ⟩:=ih m v' σ' (by omega) h2;exact⟨q,HL h1 hq,hQ⟩
   ·exact⟨q,vO h1 h2,h3⟩
 obtain⟨q,⟨m,hm⟩,hQ⟩:=key n n v0 σ (bR _) h0;exact⟨q,DM hm,hQ⟩
theorem gT(X d:Option AV):θ (.bool η) η X d=X:=by have h:θ (.bool η) η X d=X:=rfl;exact h.trans (aqv X)
theorem gF(X d:Option AV):θ (.bool ι) ι X d=X:=by have h:θ (.bool ι) ι X d=X:=rfl;exact h.trans (aqv X)
theorem Yq(X d:Option AV):θ (.bool ι) η X d=d:=by have h:θ (.bool ι) η X d=d:=rfl;exact h.trans (aqv d)
theorem gFx(X d:Option AV):θ (.bool η) ι X d=d:=by have h:θ (.bool η) ι X d=d:=rfl;exact h.trans (aqv d)
theorem bS{α β:Type}(a:α)(f:α->Option β):(δ a).bind f=f a:=by have h:(δ a).bind f=f a:=rfl;exact h.trans (aqv (f a))
theorem je(cs:aq)(σ:Heap):Γ (.rp cs) σ=δ cs:=by have h:Γ (.rp cs) σ=δ cs:=rfl;exact h.trans (aqv _)
theorem kK(n:Nat){α:Type}{X Y:α}:(bif (φ n==φ n)then X else Y)=X:=by rw[show(φ n==φ n)=η from beq_self_eq_true _];rfl
theorem QV(x y:AV):ZM (.bool ι) x y=δ y:=rfl
theorem Gq(x y:AV):ZM (.bool η) x y=δ x:=rfl
theorem wI:ZR (.bool η)=δ (.bool ι):=rfl
theorem wG:ZR (.bool ι)=δ (.bool η):=rfl
end
def mA{α:Type}(sz:Nat)(c:α->aq):List α->AV
 |[]=>.aC
 |x::l=>.sl sz ((x::l).map c)
theorem an2{α:Type}{sz:Nat}{c:α->aq}{l:List α}(h:l≠[]):mA sz c l=sl sz c l:=by
 cases l with
 |nil=>exact absurd rfl h
 |cons x l=>rfl
theorem Vf{α:Type}(sz:Nat)(c:α->aq)(l:List α):ZO (mA sz c l)=δ (.ah (l.length:Int)):=by
 cases l with
 |nil=>rfl
 |cons x l=>exact cy sz c (x::l)
theorem Vb{α:Type}{sz:Nat}{c:α->aq}{l:List α}{i:Nat}{x:α}(h:l[i]? =δ x):Zp sz (mA sz c l) (.ah (i:Int))=δ (.rp (c x)):=by
 cases l with
 |nil=>simp at h
 |cons y l=>exact ey h
inductive aK where
 |mk(kind from_ Dm:Int)(args:List aK)
namespace aK
def kind:aK->Int|.mk k _ _ _=>k
def from_:aK->Int|.mk _ f _ _=>f
def Dm:aK->Int|.mk _ _ t _=>t
def args:aK->List aK|.mk _ _ _ l=>l
end aK
mutual
def bH:aK->Nat
 |.mk _ _ _ l=>1+eo l
def eo:List aK->Nat
 |[]=>0
 |p::l=>bH p+eo l
end
mutual
def eu:aK->Nat
 |.mk _ _ _ l=>1+gn l
def gn:List aK->Nat
 |[]=>0
 |p::l=>max (eu p) (gn l)
end
theorem uH(p:aK):bH p=1+eo p.args:=by cases p;rw[bH];rfl
theorem Cg(p:aK):eu p=1+gn p.args:=by cases p;rw[eu];rfl
theorem L5{p:aK}:∀{l:List aK},p∈l->bH p<=eo l
 |q::l,h=>by
  rw[eo];rcases fA.1 h with rfl|h
  ·omega
  ·have:=L5 h;omega
theorem DZ:∀l:List aK,eo l=(l.map bH).sum
 |[]=>by rw[eo];rfl
 |p::l=>by rw[eo,dH,Xg,DZ l]
theorem Ec{p q:aK}(h:q∈p.args):bH q<bH p:=by rw[uH p];have:=L5 h;omega
namespace aK
def bg:aK->Int:=from_
def to:aK->Int:=Dm
end aK
mutual
def aG:aK->aq
 |.mk k f t l=>[.int Θ k,.int Θ f,.int Θ t,.sl 4 (EB l)]
def EB:List aK->List aq
 |[]=>[]
 |p::l=>aG p::EB l
end
theorem Tk:∀l:List aK,EB l=l.map aG
 |[]=>by rw[EB];rfl
 |p::l=>by rw[EB,Tk l];rfl
theorem aA(p:aK):aG p=[.ah p.kind,.ah p.bg,.ah p.to,sl 4 aG p.args]:=by cases p;rw[aG,Tk];rfl
theorem adI(p:aK):(aG p).length=4:=by rw[aA];rfl
structure bl where
 aE:Int
 pick:aK
instance : Inhabited aK := ⟨.mk 0 0 0 []⟩
instance : Inhabited bl := ⟨⟨0, default⟩⟩
def bw(g:bl):aq:=[.ah g.aE,.ah g.pick.kind,.ah g.pick.bg,.ah g.pick.to,sl 4 aG g.pick.args]
theorem Sz(g:bl):(bw g).length=5:=rfl
theorem DS(g:bl):bw g=.ah g.aE::aG g.pick:=by rw[aA];rfl
theorem sY(p:aK):Φ 4 (.agg (aG p))=δ (aG p):=by rw[aA];rfl
theorem vR(p:aK):Z0 0 4 (aG p)=δ (.agg (aG p)):=by rw[aA];rfl
theorem qV(x:aK)(l:aq)(h:l.length=4):Zv 0 (aG x) l=δ (aG x):=by simp [Zv,adI,h]
theorem qS(x:bl)(l:aq)(h:l.length=5):Zv 0 (bw x) l=δ (bw x):=by simp [Zv,Sz,h]
section
def DX (DV:aK->Option (Int×Int)) (a0:aK):Option (Int×Int):=
 fR a0.args (λ(i8:Nat)e7(s1:(Int×Int))=>(show Option (Lr (Int×Int) (Int×Int) Unit)from
   (DV e7).bind λr9=>
   δ (.go (Θ.wrap (s1.1+r9.1),(if s1.2<Θ.wrap (r9.2+1)then Θ.wrap (r9.2+1)else s1.2))))) (λs1=>δ (s1.1,s1.2)) (1,1) (λb2=>
  δ (b2.1,b2.2)) (λb2=>
  μ)
theorem ab2{rc:Nat->aq->Heap->aB}(DV:aK->Option (Int×Int))(aa3:∀(x0:aK) (s:Heap) r,DV x0=δ r->rc 37 [(Y8 (aG x0))] s=δ ((Zz [(ε r.1),(ε r.2)]),s)){a0:aK}{σ:Heap}{r:(Int×Int)}(h:DX DV a0=δ r):Ξ η [fK] .k (RV (BS rc)) [(Y8 (aG a0))] σ=δ ((Zz [(ε r.1),(ε r.2)]),σ):=by
 refine vU (f:=BS rc) (y0:=(Y8 (aG a0))) (enc:=λr:(Int×Int)=>(Zz [(ε r.1),(ε r.2)])) (T:=DX DV a0) (by first|rfl|(simp only[aA];rfl)) (by first|rfl|(simp only[aA];rfl)) ?_ r h;unfold BS DX;refine ak (aG a0) (by first|rfl|(simp only[aA];rfl))<|ak (sl 4 aG a0.args) (by first|rfl|(simp only[aA];rfl))<|ak _ (cy _ _ _) ?_;refine iW (B:=(Int×Int)) (R:=Unit) (λ(i8:Nat)(s1:(Int×Int))v w3=>v=[(ε s1.1),(ε s1.2),(ε (i8:Int))]/\σ=w3) (λ(b2:(Int×Int))(q:LS)=>∃Zh,q=((φ 0),([(ε b2.1),(ε b2.2),Zh]:aq),σ)) (λ(b2:Unit)(q:LS)=>False) ?_ ?_ ⟨rfl,rfl⟩ ?_ ?_
 ·intro rB i8 e7 s1 v w3 jf hI;obtain⟨rfl,rfl⟩:=hI;refine ak _ (dP jf)<|i5<|ak _ (ey jf)<|ak (Y8 (aG e7)) (by first|rfl|(simp only[aA];rfl))<|ak (aG e7) (by first|rfl|(simp only[aA];rfl))<|ak _ (qV _ _ rfl)<|ak (Y8 (aG e7)) (by first|rfl|(simp only[aA];rfl)) ?_;refine fJ (λr9:(Int×Int)=>((Zz [(ε r9.1),(ε r9.2)]),σ)) (λr9 F9=>aa3 _ _ _ F9) (λr9 F9=>?_);refine ak (ε r9.1) (by first|rfl|(simp only[aA];rfl))<|ak (ε r9.2) (by first|rfl|(simp only[aA];rfl))<|ak (ε (Θ.wrap (s1.1+r9.1))) (by first|rfl|(simp only[aA];rfl))<|ak (ε (Θ.wrap (r9.2+1))) (by first|rfl|(simp only[aA];rfl))<|ak (ε (if s1.2<Θ.wrap (r9.2+1)then Θ.wrap (r9.2+1)else s1.2)) (by first|rfl|(simp only[aA];rfl))<|ak _ (dY jf rB) ?_;exact aX (iX ⟨rfl,rfl⟩)
 ·intro hl s1 v w3 hI;obtain⟨rfl,rfl⟩:=hI;refine ak _ (dX _)<|i4 ?_;exact aX ⟨by simp,⟨_,rfl⟩⟩
 ·intro hl b2 q hq;obtain⟨Zh,rfl⟩:=hq;refine dJ (by first|rfl|(simp only[aA];rfl)) ?_;exact bZ _ (bU _ _) ⟨rfl,rfl⟩
 ·intro hl b2 q hq;exact aqB hq
def BO (vM:aK->Option Int) (a0:aK):Option Int:=
 if a0.kind=1 then
  (show Option Bool from
    if a0.kind=4 then
     δ (decide ((a0.args.length:Int)<2))
    else
    δ (decide (¬((a0.args.length:Int)=0)))).bind λj2=>
  if((j2||((!η)&&(decide (¬(a0.bg=0)))))||((!η)&&(decide (¬(a0.to=0)))))=η then
   δ 3
  else
  (show Option Int from
    if a0.kind=2 then
     δ 999
    else
    (show Option Int from
      if a0.kind=3 then
       δ 999
      else
      δ 9999).bind λj6=>
    δ j6).bind λpg=>
  if((η&&(!(aU a0.bg 1 pg)))||(η&&(!(aU a0.to 1 pg))))=η then
   δ 1
  else
  fR a0.args (λ(AU:Nat)wT(xq:Unit)=>(show Option (Lr Unit Unit Int)from
    (vM wT).bind λcD=>
    if ¬(cD=0)then
     δ (.ret cD)
    else
    δ (.go ()))) (λxq=>δ ()) () (λpZ=>
   δ 0) (λpZ=>
   δ pZ)
 else
 (show Option Bool from
   if a0.kind=2 then
    δ (decide (a0.kind=2))
   else
   δ (decide (a0.kind=3))).bind λGg=>
 if Gg=η then
  (show Option Bool from
    if a0.kind=4 then
     δ (decide ((a0.args.length:Int)<2))
    else
    δ (decide (¬((a0.args.length:Int)=0)))).bind λGh=>
  if((Gh||((!η)&&(decide (¬(a0.bg=0)))))||((!ι)&&(decide (¬(a0.to=0)))))=η then
   δ 3
  else
  (show Option Int from
    if a0.kind=2 then
     δ 999
    else
    (show Option Int from
      if a0.kind=3 then
       δ 999
      else
      δ 9999).bind λJI=>
    δ JI).bind λpq=>
  if((η&&(!(aU a0.bg 1 pq)))||(ι&&(!(aU a0.to 1 pq))))=η then
   δ 1
  else
  fR a0.args (λ(QA:Nat)FP(JX:Unit)=>(show Option (Lr Unit Unit Int)from
    (vM FP).bind λvF=>
    if ¬(vF=0)then
     δ (.ret vF)
    else
    δ (.go ()))) (λJX=>δ ()) () (λAs=>
   δ 0) (λAs=>
   δ As)
 else
 (show Option Bool from
   if a0.kind=4 then
    δ (decide (a0.kind=4))
   else
   δ (decide (a0.kind=5))).bind λGi=>
 if Gi=η then
  (show Option Bool from
    if a0.kind=4 then
     δ (decide ((a0.args.length:Int)<2))
    else
    δ (decide (¬((a0.args.length:Int)=2)))).bind λGj=>
  if((Gj||((!ι)&&(decide (¬(a0.bg=0)))))||((!ι)&&(decide (¬(a0.to=0)))))=η then
   δ 3
  else
  (show Option Int from
    if a0.kind=2 then
     δ 999
    else
    (show Option Int from
      if a0.kind=3 then
       δ 999
      else
      δ 9999).bind λJJ=>
    δ JJ).bind λpE=>
  if((ι&&(!(aU a0.bg 1 pE)))||(ι&&(!(aU a0.to 1 pE))))=η then
   δ 1
  else
  fR a0.args (λ(QC:Nat)FQ(J0:Unit)=>(show Option (Lr Unit Unit Int)from
    (vM FQ).bind λpJ=>
    if ¬(pJ=0)then
     δ (.ret pJ)
    else
    δ (.go ()))) (λJ0=>δ ()) () (λAu=>
   δ 0) (λAu=>
   δ Au)
 else
 (show Option Bool from
   if a0.kind=6 then
    δ (decide (a0.kind=6))
   else
   (show Option Bool from
     if a0.kind=7 then
      δ (decide (a0.kind=7))
     else
     δ (decide (a0.kind=8))).bind λJK=>
   δ JK).bind λGk=>
 if Gk=η then
  (show Option Bool from
    if a0.kind=4 then
     δ (decide ((a0.args.length:Int)<2))
    else
    δ (decide (¬((a0.args.length:Int)=1)))).bind λGl=>
  if((Gl||((!ι)&&(decide (¬(a0.bg=0)))))||((!ι)&&(decide (¬(a0.to=0)))))=η then
   δ 3
  else
  (show Option Int from
    if a0.kind=2 then
     δ 999
    else
    (show Option Int from
      if a0.kind=3 then
       δ 999
      else
      δ 9999).bind λJL=>
    δ JL).bind λpG=>
  if((ι&&(!(aU a0.bg 1 pG)))||(ι&&(!(aU a0.to 1 pG))))=η then
   δ 1
  else
  fR a0.args (λ(OC:Nat)EY(Jo:Unit)=>(show Option (Lr Unit Unit Int)from
    (vM EY).bind λvg=>
    if ¬(vg=0)then
     δ (.ret vg)
    else
    δ (.go ()))) (λJo=>δ ()) () (λzQ=>
   δ 0) (λzQ=>
   δ zQ)
 else
 if a0.kind=9 then
  (show Option Bool from
    if a0.kind=4 then
     δ (decide ((a0.args.length:Int)<2))
    else
    δ (decide (¬((a0.args.length:Int)=1)))).bind λE8=>
  if((E8||((!η)&&(decide (¬(a0.bg=0)))))||((!η)&&(decide (¬(a0.to=0)))))=η then
   δ 3
  else
  (show Option Int from
    if a0.kind=2 then
     δ 999
    else
    (show Option Int from
      if a0.kind=3 then
       δ 999
      else
      δ 9999).bind λJh=>
    δ Jh).bind λoV=>
  if((η&&(!(aU a0.bg 1 oV)))||(η&&(!(aU a0.to 1 oV))))=η then
   δ 1
  else
  fR a0.args (λ(OD:Nat)EZ(Jq:Unit)=>(show Option (Lr Unit Unit Int)from
    (vM EZ).bind λAc=>
    if ¬(Ac=0)then
     δ (.ret Ac)
    else
    δ (.go ()))) (λJq=>δ ()) () (λzR=>
   δ 0) (λzR=>
   δ zR)
 else
 δ 4
theorem aa2{rc:Nat->aq->Heap->aB}(vM:aK->Option Int)(DL:∀(x0:aK) (s:Heap) r,vM x0=δ r->rc 38 [(Y8 (aG x0))] s=δ ((ε r),s)){a0:aK}{σ:Heap}{r:Int}(h:BO vM a0=δ r):Ξ η [fK] .k (RV (BL rc)) [(Y8 (aG a0))] σ=δ ((ε r),σ):=by
 refine vU (f:=BL rc) (y0:=(Y8 (aG a0))) (enc:=λr:Int=>(ε r)) (T:=BO vM a0) (by first|rfl|(simp only[aA];rfl)) (by first|rfl|(simp only[aA];rfl)) ?_ r h;unfold BL BO;refine ak (aG a0) (by first|rfl|(simp only[aA];rfl))<|ak (ε a0.kind) (by first|rfl|(simp only[aA];rfl))<|ak _ (ef _ _ _) ?_;refine dN (p:=a0.kind=1) (λOa=>?_) (λOa=>?_)
 ·refine ak (sl 4 aG a0.args) (by first|rfl|(simp only[aA];rfl))<|ak _ (cy _ _ _)<|ak _ (gu _ _ _)<|ak (ε a0.kind) (by first|rfl|(simp only[aA];rfl))<|ak _ (ef _ _ _) ?_
  refine kH (ω:=Bool) (λj2 a=>a=(([(Z1 (aG a0)),(χ j2)]:aq),σ)) (
    by
     refine dN (p:=a0.kind=4) (λc1=>?_) (λc1=>?_)
     ·refine ak (sl 4 aG a0.args) (by first|rfl|(simp only[aA];rfl))<|ak _ (cy _ _ _)<|ak (χ (decide ((a0.args.length:Int)<2))) (by first|rfl|(simp only[aA];rfl)) ?_;exact aX rfl
     exact aX rfl
    ) (λj2 a ha=>?_)
  subst ha;refine bL br (λhg=>by first|rfl|(simp only[aA];rfl))<|bL (χ (!η)) (λhg=>by(try rw[hg]);exact rfl)<|bL (χ (!η)) (λhg=>by(try rw[hg]);exact rfl)<|ak _ (by first|rfl|(simp only[aA];rfl))<|cY (ε a0.bg) (λhg=>by first|rfl|(simp only[aA];rfl))<|cY (χ (decide (¬(a0.bg=0)))) (λhg=>by(try rw[hg]);exact(gu _ _ _))<|bL (χ ((!η)&&(decide (¬(a0.bg=0))))) (λhg=>by(try rw[hg]);exact(gb _ _))<|ak _ (kr _ _)<|bL br (λhg=>by first|rfl|(simp only[aA];rfl))<|bL (χ (!η)) (λhg=>by(try rw[hg]);exact rfl)<|bL (χ (!η)) (λhg=>by(try rw[hg]);exact rfl)<|ak _ (by first|rfl|(simp only[aA];rfl))<|cY (ε a0.to) (λhg=>by first|rfl|(simp only[aA];rfl))<|cY (χ (decide (¬(a0.to=0)))) (λhg=>by(try rw[hg]);exact(gu _ _ _))<|bL (χ ((!η)&&(decide (¬(a0.to=0))))) (λhg=>by(try rw[hg]);exact(gb _ _))<|ak _ (kr _ _) ?_;refine eO (c:=((j2||((!η)&&(decide (¬(a0.bg=0)))))||((!η)&&(decide (¬(a0.to=0)))))) (λfT=>?_) (λfT=>?_)
  ·exact bZ _ (bU _ _) ⟨rfl,rfl⟩
  refine ak _ (by first|rfl|(simp only[aA];rfl))<|ak (ε a0.kind) (by first|rfl|(simp only[aA];rfl))<|ak _ (ef _ _ _) ?_
  refine kH (ω:=Int) (λpg a=>a=(([(Z1 (aG a0)),(ε pg)]:aq),σ)) (
    by
     refine dN (p:=a0.kind=2) (λc9=>?_) (λc9=>?_)
     ·exact aX rfl
     refine ak _ (ef _ _ _) ?_
     refine kH (ω:=Int) (λj6 a=>a=(([(Z1 (aG a0)),(ε j6)]:aq),σ)) (
       by
        refine dN (p:=a0.kind=3) (λc5=>?_) (λc5=>?_)
        ·exact aX rfl
        exact aX rfl
       ) (λj6 a ha=>?_)
     subst ha;exact aX rfl
    ) (λpg a ha=>?_)
  subst ha;refine ak _ (by first|rfl|(simp only[aA];rfl))<|bX (ε a0.bg) (λhg=>by first|rfl|(simp only[aA];rfl))<|bX (ε pg) (λhg=>by first|rfl|(simp only[aA];rfl))<|bX (χ (aU a0.bg 1 pg)) (λhg=>by(try rw[hg]);exact(jR (kR a0.bg 1 pg σ)))<|bX (χ (!(aU a0.bg 1 pg))) (λhg=>by(try rw[hg]);exact rfl)<|ak _ (gb _ _)<|bL br (λhg=>by first|rfl|(simp only[aA];rfl))<|bL br (λhg=>by(try rw[hg]);exact rfl)<|ak _ (by first|rfl|(simp only[aA];rfl))<|cY (ε a0.to) (λhg=>by first|rfl|(simp only[aA];rfl))<|cY (ε pg) (λhg=>by first|rfl|(simp only[aA];rfl))<|cY (χ (aU a0.to 1 pg)) (λhg=>by(try rw[hg]);exact(jR (kR a0.to 1 pg σ)))<|cY (χ (!(aU a0.to 1 pg))) (λhg=>by(try rw[hg]);exact rfl)<|bL (χ (η&&(!(aU a0.to 1 pg)))) (λhg=>by(try rw[hg]);exact(gb _ _))<|ak _ (kr _ _) ?_;refine eO (c:=((η&&(!(aU a0.bg 1 pg)))||(η&&(!(aU a0.to 1 pg))))) (λjc=>?_) (λjc=>?_)
  ·exact bZ _ (bU _ _) ⟨rfl,rfl⟩
  refine ak _ (by first|rfl|(simp only[aA];rfl))<|ak (sl 4 aG a0.args) (by first|rfl|(simp only[aA];rfl))<|ak _ (cy _ _ _) ?_;refine iW (B:=Unit) (R:=Int) (λ(AU:Nat)(xq:Unit)v Bb=>v=[(ε 0),(ε (AU:Int))]/\σ=Bb) (λ(pZ:Unit)(q:LS)=>∃u2 iD,q=((φ 2),([u2,iD]:aq),σ)) (λ(pZ:Int)(q:LS)=>∃iD,q=(Ω,([(ε pZ),iD]:aq),σ)) ?_ ?_ ⟨rfl,rfl⟩ ?_ ?_
  ·intro NI AU wT xq v Bb zW hI;obtain⟨rfl,rfl⟩:=hI;refine ak _ (dP zW)<|i5<|ak _ (ey zW)<|ak (Y8 (aG wT)) (by first|rfl|(simp only[aA];rfl))<|ak (aG wT) (by first|rfl|(simp only[aA];rfl))<|ak _ (qV _ _ rfl)<|ak (Y8 (aG wT)) (by first|rfl|(simp only[aA];rfl)) ?_;refine fJ (λcD:Int=>((ε cD),σ)) (λcD E3=>DL _ _ _ E3) (λcD E3=>?_);refine ak _ (gu _ _ _) ?_;refine dN (p:=¬(cD=0)) (λlP=>?_) (λlP=>?_)
   ·exact aX (fu (by simp) ⟨_,rfl⟩)
   refine ak _ (dY zW NI) ?_;exact aX (iX ⟨rfl,rfl⟩)
  ·intro hl xq v Bb hI;obtain⟨rfl,rfl⟩:=hI;refine ak _ (dX _)<|i4 ?_;exact aX ⟨by simp,⟨_,_,rfl⟩⟩
  ·intro hl pZ q hq;obtain⟨u2,iD,rfl⟩:=hq;refine dJ (by first|rfl|(simp only[aA];rfl)) ?_;exact bZ _ (bU _ _) ⟨rfl,rfl⟩
  ·intro hl pZ q hq;obtain⟨iD,rfl⟩:=hq;refine ku (by first|rfl|(simp only[aA];rfl))<|dJ (by first|rfl|(simp only[aA];rfl)) ?_;exact bZ _ (bU _ _) ⟨rfl,rfl⟩
 refine ak _ (ef _ _ _) ?_
 refine kH (ω:=Bool) (λGg a=>a=(([(Z1 (aG a0)),(χ Gg)]:aq),σ)) (
   by
    refine dN (p:=a0.kind=2) (λjG=>?_) (λjG=>?_)
    ·exact aX rfl
    refine ak _ (ef _ _ _) ?_;exact aX rfl
   ) (λGg a ha=>?_)
 subst ha;refine eO (c:=Gg) (λah8=>?_) (λah8=>?_)
 ·refine ak _ (by first|rfl|(simp only[aA];rfl))<|ak (sl 4 aG a0.args) (by first|rfl|(simp only[aA];rfl))<|ak _ (cy _ _ _)<|ak _ (gu _ _ _)<|ak _ (by first|rfl|(simp only[aA];rfl))<|ak (ε a0.kind) (by first|rfl|(simp only[aA];rfl))<|ak _ (ef _ _ _) ?_
  refine kH (ω:=Bool) (λGh a=>a=(([(Z1 (aG a0)),(χ Gh)]:aq),σ)) (
    by
     refine dN (p:=a0.kind=4) (λrO=>?_) (λrO=>?_)
     ·refine ak _ (by first|rfl|(simp only[aA];rfl))<|ak (sl 4 aG a0.args) (by first|rfl|(simp only[aA];rfl))<|ak _ (cy _ _ _)<|ak (χ (decide ((a0.args.length:Int)<2))) (by first|rfl|(simp only[aA];rfl)) ?_;exact aX rfl
     exact aX rfl
    ) (λGh a ha=>?_)
  subst ha;refine bL br (λhg=>by first|rfl|(simp only[aA];rfl))<|bL (χ (!η)) (λhg=>by(try rw[hg]);exact rfl)<|bL (χ (!η)) (λhg=>by(try rw[hg]);exact rfl)<|ak _ (by first|rfl|(simp only[aA];rfl))<|cY (ε a0.bg) (λhg=>by first|rfl|(simp only[aA];rfl))<|cY (χ (decide (¬(a0.bg=0)))) (λhg=>by(try rw[hg]);exact(gu _ _ _))<|bL (χ ((!η)&&(decide (¬(a0.bg=0))))) (λhg=>by(try rw[hg]);exact(gb _ _))<|ak _ (kr _ _)<|bL aT (λhg=>by first|rfl|(simp only[aA];rfl))<|bL (χ (!ι)) (λhg=>by(try rw[hg]);exact rfl)<|bL (χ (!ι)) (λhg=>by(try rw[hg]);exact rfl)<|ak _ (by first|rfl|(simp only[aA];rfl))<|cY (ε a0.to) (λhg=>by first|rfl|(simp only[aA];rfl))<|cY (χ (decide (¬(a0.to=0)))) (λhg=>by(try rw[hg]);exact(gu _ _ _))<|bL (χ ((!ι)&&(decide (¬(a0.to=0))))) (λhg=>by(try rw[hg]);exact(gb _ _))<|ak _ (kr _ _) ?_;refine eO (c:=((Gh||((!η)&&(decide (¬(a0.bg=0)))))||((!ι)&&(decide (¬(a0.to=0)))))) (λFG=>?_) (λFG=>?_)
  ·exact bZ _ (bU _ _) ⟨rfl,rfl⟩
  refine ak _ (by first|rfl|(simp only[aA];rfl))<|ak (ε a0.kind) (by first|rfl|(simp only[aA];rfl))<|ak _ (ef _ _ _) ?_
  refine kH (ω:=Int) (λpq a=>a=(([(Z1 (aG a0)),(ε pq)]:aq),σ)) (
    by
     refine dN (p:=a0.kind=2) (λwO=>?_) (λwO=>?_)
     ·exact aX rfl
     refine ak _ (ef _ _ _) ?_
     refine kH (ω:=Int) (λJI a=>a=(([(Z1 (aG a0)),(ε JI)]:aq),σ)) (
       by
        refine dN (p:=a0.kind=3) (λjd=>?_) (λjd=>?_)
        ·exact aX rfl
        exact aX rfl
       ) (λJI a ha=>?_)
     subst ha;exact aX rfl
    ) (λpq a ha=>?_)
  subst ha;refine ak _ (by first|rfl|(simp only[aA];rfl))<|bX (ε a0.bg) (λhg=>by first|rfl|(simp only[aA];rfl))<|bX (ε pq) (λhg=>by first|rfl|(simp only[aA];rfl))<|bX (χ (aU a0.bg 1 pq)) (λhg=>by(try rw[hg]);exact(jR (kR a0.bg 1 pq σ)))<|bX (χ (!(aU a0.bg 1 pq))) (λhg=>by(try rw[hg]);exact rfl)<|ak _ (gb _ _)<|bL aT (λhg=>by first|rfl|(simp only[aA];rfl))<|bL aT (λhg=>by(try rw[hg]);exact rfl)<|ak _ (by first|rfl|(simp only[aA];rfl))<|cY (ε a0.to) (λhg=>by first|rfl|(simp only[aA];rfl))<|cY (ε pq) (λhg=>by first|rfl|(simp only[aA];rfl))<|cY (χ (aU a0.to 1 pq)) (λhg=>by(try rw[hg]);exact(jR (kR a0.to 1 pq σ)))<|cY (χ (!(aU a0.to 1 pq))) (λhg=>by(try rw[hg]);exact rfl)<|bL (χ (ι&&(!(aU a0.to 1 pq)))) (λhg=>by(try rw[hg]);exact(gb _ _))<|ak _ (kr _ _) ?_;refine eO (c:=((η&&(!(aU a0.bg 1 pq)))||(ι&&(!(aU a0.to 1 pq))))) (λFF=>?_) (λFF=>?_)
  ·exact bZ _ (bU _ _) ⟨rfl,rfl⟩
  refine ak _ (by first|rfl|(simp only[aA];rfl))<|ak (sl 4 aG a0.args) (by first|rfl|(simp only[aA];rfl))<|ak _ (cy _ _ _) ?_;refine iW (B:=Unit) (R:=Int) (λ(QA:Nat)(JX:Unit)v Ri=>v=[(ε 0),(ε (QA:Int))]/\σ=Ri) (λ(As:Unit)(q:LS)=>∃u2 iD,q=((φ 2),([u2,iD]:aq),σ)) (λ(As:Int)(q:LS)=>∃iD,q=(Ω,([(ε As),iD]:aq),σ)) ?_ ?_ ⟨rfl,rfl⟩ ?_ ?_
  ·intro ahy QA FP JX v Ri Oq hI;obtain⟨rfl,rfl⟩:=hI;refine ak _ (dP Oq)<|i5<|ak _ (ey Oq)<|ak (Y8 (aG FP)) (by first|rfl|(simp only[aA];rfl))<|ak (aG FP) (by first|rfl|(simp only[aA];rfl))<|ak _ (qV _ _ rfl)<|ak (Y8 (aG FP)) (by first|rfl|(simp only[aA];rfl)) ?_;refine fJ (λvF:Int=>((ε vF),σ)) (λvF XD=>DL _ _ _ XD) (λvF XD=>?_);refine ak _ (gu _ _ _) ?_;refine dN (p:=¬(vF=0)) (λAB=>?_) (λAB=>?_)
   ·exact aX (fu (by simp) ⟨_,rfl⟩)
   refine ak _ (dY Oq ahy) ?_;exact aX (iX ⟨rfl,rfl⟩)
  ·intro hl JX v Ri hI;obtain⟨rfl,rfl⟩:=hI;refine ak _ (dX _)<|i4 ?_;exact aX ⟨by simp,⟨_,_,rfl⟩⟩
  ·intro hl As q hq;obtain⟨u2,iD,rfl⟩:=hq;refine dJ (by first|rfl|(simp only[aA];rfl)) ?_;exact bZ _ (bU _ _) ⟨rfl,rfl⟩
  ·intro hl As q hq;obtain⟨iD,rfl⟩:=hq;refine ku (by first|rfl|(simp only[aA];rfl))<|dJ (by first|rfl|(simp only[aA];rfl)) ?_;exact bZ _ (bU _ _) ⟨rfl,rfl⟩
 refine ak _ (ef _ _ _) ?_
 refine kH (ω:=Bool) (λGi a=>a=(([(Z1 (aG a0)),(χ Gi)]:aq),σ)) (
   by
    refine dN (p:=a0.kind=4) (λFH=>?_) (λFH=>?_)
    ·exact aX rfl
    refine ak _ (ef _ _ _) ?_;exact aX rfl
   ) (λGi a ha=>?_)
 subst ha;refine eO (c:=Gi) (λN9=>?_) (λN9=>?_)
 ·refine ak _ (by first|rfl|(simp only[aA];rfl))<|ak (sl 4 aG a0.args) (by first|rfl|(simp only[aA];rfl))<|ak _ (cy _ _ _)<|ak _ (gu _ _ _)<|ak _ (by first|rfl|(simp only[aA];rfl))<|ak (ε a0.kind) (by first|rfl|(simp only[aA];rfl))<|ak _ (ef _ _ _) ?_
  refine kH (ω:=Bool) (λGj a=>a=(([(Z1 (aG a0)),(χ Gj)]:aq),σ)) (
    by
     refine dN (p:=a0.kind=4) (λwQ=>?_) (λwQ=>?_)
     ·refine ak _ (by first|rfl|(simp only[aA];rfl))<|ak (sl 4 aG a0.args) (by first|rfl|(simp only[aA];rfl))<|ak _ (cy _ _ _)<|ak (χ (decide ((a0.args.length:Int)<2))) (by first|rfl|(simp only[aA];rfl)) ?_;exact aX rfl
     exact aX rfl
    ) (λGj a ha=>?_)
  subst ha;refine bL aT (λhg=>by first|rfl|(simp only[aA];rfl))<|bL (χ (!ι)) (λhg=>by(try rw[hg]);exact rfl)<|bL (χ (!ι)) (λhg=>by(try rw[hg]);exact rfl)<|ak _ (by first|rfl|(simp only[aA];rfl))<|cY (ε a0.bg) (λhg=>by first|rfl|(simp only[aA];rfl))<|cY (χ (decide (¬(a0.bg=0)))) (λhg=>by(try rw[hg]);exact(gu _ _ _))<|bL (χ ((!ι)&&(decide (¬(a0.bg=0))))) (λhg=>by(try rw[hg]);exact(gb _ _))<|ak _ (kr _ _)<|bL aT (λhg=>by first|rfl|(simp only[aA];rfl))<|bL (χ (!ι)) (λhg=>by(try rw[hg]);exact rfl)<|bL (χ (!ι)) (λhg=>by(try rw[hg]);exact rfl)<|ak _ (by first|rfl|(simp only[aA];rfl))<|cY (ε a0.to) (λhg=>by first|rfl|(simp only[aA];rfl))<|cY (χ (decide (¬(a0.to=0)))) (λhg=>by(try rw[hg]);exact(gu _ _ _))<|bL (χ ((!ι)&&(decide (¬(a0.to=0))))) (λhg=>by(try rw[hg]);exact(gb _ _))<|ak _ (kr _ _) ?_;refine eO (c:=((Gj||((!ι)&&(decide (¬(a0.bg=0)))))||((!ι)&&(decide (¬(a0.to=0)))))) (λPI=>?_) (λPI=>?_)
  ·exact bZ _ (bU _ _) ⟨rfl,rfl⟩
  refine ak _ (by first|rfl|(simp only[aA];rfl))<|ak (ε a0.kind) (by first|rfl|(simp only[aA];rfl))<|ak _ (ef _ _ _) ?_
  refine kH (ω:=Int) (λpE a=>a=(([(Z1 (aG a0)),(ε pE)]:aq),σ)) (
    by
     refine dN (p:=a0.kind=2) (λFI=>?_) (λFI=>?_)
     ·exact aX rfl
     refine ak _ (ef _ _ _) ?_
     refine kH (ω:=Int) (λJJ a=>a=(([(Z1 (aG a0)),(ε JJ)]:aq),σ)) (
       by
        refine dN (p:=a0.kind=3) (λPD=>?_) (λPD=>?_)
        ·exact aX rfl
        exact aX rfl
       ) (λJJ a ha=>?_)
     subst ha;exact aX rfl
    ) (λpE a ha=>?_)
  subst ha;refine ak _ (by first|rfl|(simp only[aA];rfl))<|bX (ε a0.bg) (λhg=>by first|rfl|(simp only[aA];rfl))<|bX (ε pE) (λhg=>by first|rfl|(simp only[aA];rfl))<|bX (χ (aU a0.bg 1 pE)) (λhg=>by(try rw[hg]);exact(jR (kR a0.bg 1 pE σ)))<|bX (χ (!(aU a0.bg 1 pE))) (λhg=>by(try rw[hg]);exact rfl)<|ak _ (gb _ _)<|bL aT (λhg=>by first|rfl|(simp only[aA];rfl))<|bL aT (λhg=>by(try rw[hg]);exact rfl)<|ak _ (by first|rfl|(simp only[aA];rfl))<|cY (ε a0.to) (λhg=>by first|rfl|(simp only[aA];rfl))<|cY (ε pE) (λhg=>by first|rfl|(simp only[aA];rfl))<|cY (χ (aU a0.to 1 pE)) (λhg=>by(try rw[hg]);exact(jR (kR a0.to 1 pE σ)))<|cY (χ (!(aU a0.to 1 pE))) (λhg=>by(try rw[hg]);exact rfl)<|bL (χ (ι&&(!(aU a0.to 1 pE)))) (λhg=>by(try rw[hg]);exact(gb _ _))<|ak _ (kr _ _) ?_;refine eO (c:=((ι&&(!(aU a0.bg 1 pE)))||(ι&&(!(aU a0.to 1 pE))))) (λJx=>?_) (λJx=>?_)
  ·exact bZ _ (bU _ _) ⟨rfl,rfl⟩
  refine ak _ (by first|rfl|(simp only[aA];rfl))<|ak (sl 4 aG a0.args) (by first|rfl|(simp only[aA];rfl))<|ak _ (cy _ _ _) ?_;refine iW (B:=Unit) (R:=Int) (λ(QC:Nat)(J0:Unit)v Rj=>v=[(ε 0),(ε (QC:Int))]/\σ=Rj) (λ(Au:Unit)(q:LS)=>∃u2 iD,q=((φ 2),([u2,iD]:aq),σ)) (λ(Au:Int)(q:LS)=>∃iD,q=(Ω,([(ε Au),iD]:aq),σ)) ?_ ?_ ⟨rfl,rfl⟩ ?_ ?_
  ·intro ahz QC FQ J0 v Rj Ot hI;obtain⟨rfl,rfl⟩:=hI;refine ak _ (dP Ot)<|i5<|ak _ (ey Ot)<|ak (Y8 (aG FQ)) (by first|rfl|(simp only[aA];rfl))<|ak (aG FQ) (by first|rfl|(simp only[aA];rfl))<|ak _ (qV _ _ rfl)<|ak (Y8 (aG FQ)) (by first|rfl|(simp only[aA];rfl)) ?_;refine fJ (λpJ:Int=>((ε pJ),σ)) (λpJ XE=>DL _ _ _ XE) (λpJ XE=>?_);refine ak _ (gu _ _ _) ?_;refine dN (p:=¬(pJ=0)) (λAE=>?_) (λAE=>?_)
   ·exact aX (fu (by simp) ⟨_,rfl⟩)
   refine ak _ (dY Ot ahz) ?_;exact aX (iX ⟨rfl,rfl⟩)
  ·intro hl J0 v Rj hI;obtain⟨rfl,rfl⟩:=hI;refine ak _ (dX _)<|i4 ?_;exact aX ⟨by simp,⟨_,_,rfl⟩⟩
  ·intro hl Au q hq;obtain⟨u2,iD,rfl⟩:=hq;refine dJ (by first|rfl|(simp only[aA];rfl)) ?_;exact bZ _ (bU _ _) ⟨rfl,rfl⟩
  ·intro hl Au q hq;obtain⟨iD,rfl⟩:=hq;refine ku (by first|rfl|(simp only[aA];rfl))<|dJ (by first|rfl|(simp only[aA];rfl)) ?_;exact bZ _ (bU _ _) ⟨rfl,rfl⟩
 refine ak _ (ef _ _ _) ?_
 refine kH (ω:=Bool) (λGk a=>a=(([(Z1 (aG a0)),(χ Gk)]:aq),σ)) (
   by
    refine dN (p:=a0.kind=6) (λc85=>?_) (λc85=>?_)
    ·exact aX rfl
    refine ak _ (ef _ _ _) ?_
    refine kH (ω:=Bool) (λJK a=>a=(([(Z1 (aG a0)),(χ JK)]:aq),σ)) (
      by
       refine dN (p:=a0.kind=7) (λc81=>?_) (λc81=>?_)
       ·exact aX rfl
       refine ak _ (ef _ _ _) ?_;exact aX rfl
      ) (λJK a ha=>?_)
    subst ha;exact aX rfl
   ) (λGk a ha=>?_)
 subst ha;refine eO (c:=Gk) (λN8=>?_) (λN8=>?_)
 ·refine ak _ (by first|rfl|(simp only[aA];rfl))<|ak (sl 4 aG a0.args) (by first|rfl|(simp only[aA];rfl))<|ak _ (cy _ _ _)<|ak _ (gu _ _ _)<|ak _ (by first|rfl|(simp only[aA];rfl))<|ak (ε a0.kind) (by first|rfl|(simp only[aA];rfl))<|ak _ (ef _ _ _) ?_
  refine kH (ω:=Bool) (λGl a=>a=(([(Z1 (aG a0)),(χ Gl)]:aq),σ)) (
    by
     refine dN (p:=a0.kind=4) (λFK=>?_) (λFK=>?_)
     ·refine ak _ (by first|rfl|(simp only[aA];rfl))<|ak (sl 4 aG a0.args) (by first|rfl|(simp only[aA];rfl))<|ak _ (cy _ _ _)<|ak (χ (decide ((a0.args.length:Int)<2))) (by first|rfl|(simp only[aA];rfl)) ?_;exact aX rfl
     exact aX rfl
    ) (λGl a ha=>?_)
  subst ha;refine bL aT (λhg=>by first|rfl|(simp only[aA];rfl))<|bL (χ (!ι)) (λhg=>by(try rw[hg]);exact rfl)<|bL (χ (!ι)) (λhg=>by(try rw[hg]);exact rfl)<|ak _ (by first|rfl|(simp only[aA];rfl))<|cY (ε a0.bg) (λhg=>by first|rfl|(simp only[aA];rfl))<|cY (χ (decide (¬(a0.bg=0)))) (λhg=>by(try rw[hg]);exact(gu _ _ _))<|bL (χ ((!ι)&&(decide (¬(a0.bg=0))))) (λhg=>by(try rw[hg]);exact(gb _ _))<|ak _ (kr _ _)<|bL aT (λhg=>by first|rfl|(simp only[aA];rfl))<|bL (χ (!ι)) (λhg=>by(try rw[hg]);exact rfl)<|bL (χ (!ι)) (λhg=>by(try rw[hg]);exact rfl)<|ak _ (by first|rfl|(simp only[aA];rfl))<|cY (ε a0.to) (λhg=>by first|rfl|(simp only[aA];rfl))<|cY (χ (decide (¬(a0.to=0)))) (λhg=>by(try rw[hg]);exact(gu _ _ _))<|bL (χ ((!ι)&&(decide (¬(a0.to=0))))) (λhg=>by(try rw[hg]);exact(gb _ _))<|ak _ (kr _ _) ?_;refine eO (c:=((Gl||((!ι)&&(decide (¬(a0.bg=0)))))||((!ι)&&(decide (¬(a0.to=0)))))) (λN5=>?_) (λN5=>?_)
  ·exact bZ _ (bU _ _) ⟨rfl,rfl⟩
  refine ak _ (by first|rfl|(simp only[aA];rfl))<|ak (ε a0.kind) (by first|rfl|(simp only[aA];rfl))<|ak _ (ef _ _ _) ?_
  refine kH (ω:=Int) (λpG a=>a=(([(Z1 (aG a0)),(ε pG)]:aq),σ)) (
    by
     refine dN (p:=a0.kind=2) (λPO=>?_) (λPO=>?_)
     ·exact aX rfl
     refine ak _ (ef _ _ _) ?_
     refine kH (ω:=Int) (λJL a=>a=(([(Z1 (aG a0)),(ε JL)]:aq),σ)) (
       by
        refine dN (p:=a0.kind=3) (λFM=>?_) (λFM=>?_)
        ·exact aX rfl
        exact aX rfl
       ) (λJL a ha=>?_)
     subst ha;exact aX rfl
    ) (λpG a ha=>?_)
  subst ha;refine ak _ (by first|rfl|(simp only[aA];rfl))<|bX (ε a0.bg) (λhg=>by first|rfl|(simp only[aA];rfl))<|bX (ε pG) (λhg=>by first|rfl|(simp only[aA];rfl))<|bX (χ (aU a0.bg 1 pG)) (λhg=>by(try rw[hg]);exact(jR (kR a0.bg 1 pG σ)))<|bX (χ (!(aU a0.bg 1 pG))) (λhg=>by(try rw[hg]);exact rfl)<|ak _ (gb _ _)<|bL aT (λhg=>by first|rfl|(simp only[aA];rfl))<|bL aT (λhg=>by(try rw[hg]);exact rfl)<|ak _ (by first|rfl|(simp only[aA];rfl))<|cY (ε a0.to) (λhg=>by first|rfl|(simp only[aA];rfl))<|cY (ε pG) (λhg=>by first|rfl|(simp only[aA];rfl))<|cY (χ (aU a0.to 1 pG)) (λhg=>by(try rw[hg]);exact(jR (kR a0.to 1 pG σ)))<|cY (χ (!(aU a0.to 1 pG))) (λhg=>by(try rw[hg]);exact rfl)<|bL (χ (ι&&(!(aU a0.to 1 pG)))) (λhg=>by(try rw[hg]);exact(gb _ _))<|ak _ (kr _ _) ?_;refine eO (c:=((ι&&(!(aU a0.bg 1 pG)))||(ι&&(!(aU a0.to 1 pG))))) (λN4=>?_) (λN4=>?_)
  ·exact bZ _ (bU _ _) ⟨rfl,rfl⟩
  refine ak _ (by first|rfl|(simp only[aA];rfl))<|ak (sl 4 aG a0.args) (by first|rfl|(simp only[aA];rfl))<|ak _ (cy _ _ _) ?_;refine iW (B:=Unit) (R:=Int) (λ(OC:Nat)(Jo:Unit)v OY=>v=[(ε 0),(ε (OC:Int))]/\σ=OY) (λ(zQ:Unit)(q:LS)=>∃u2 iD,q=((φ 2),([u2,iD]:aq),σ)) (λ(zQ:Int)(q:LS)=>∃iD,q=(Ω,([(ε zQ),iD]:aq),σ)) ?_ ?_ ⟨rfl,rfl⟩ ?_ ?_
  ·intro agM OC EY Jo v OY NF hI;obtain⟨rfl,rfl⟩:=hI;refine ak _ (dP NF)<|i5<|ak _ (ey NF)<|ak (Y8 (aG EY)) (by first|rfl|(simp only[aA];rfl))<|ak (aG EY) (by first|rfl|(simp only[aA];rfl))<|ak _ (qV _ _ rfl)<|ak (Y8 (aG EY)) (by first|rfl|(simp only[aA];rfl)) ?_;refine fJ (λvg:Int=>((ε vg),σ)) (λvg WT=>DL _ _ _ WT) (λvg WT=>?_);refine ak _ (gu _ _ _) ?_;refine dN (p:=¬(vg=0)) (λN3=>?_) (λN3=>?_)
   ·exact aX (fu (by simp) ⟨_,rfl⟩)
   refine ak _ (dY NF agM) ?_;exact aX (iX ⟨rfl,rfl⟩)
  ·intro hl Jo v OY hI;obtain⟨rfl,rfl⟩:=hI;refine ak _ (dX _)<|i4 ?_;exact aX ⟨by simp,⟨_,_,rfl⟩⟩
  ·intro hl zQ q hq;obtain⟨u2,iD,rfl⟩:=hq;refine dJ (by first|rfl|(simp only[aA];rfl)) ?_;exact bZ _ (bU _ _) ⟨rfl,rfl⟩
  ·intro hl zQ q hq;obtain⟨iD,rfl⟩:=hq;refine ku (by first|rfl|(simp only[aA];rfl))<|dJ (by first|rfl|(simp only[aA];rfl)) ?_;exact bZ _ (bU _ _) ⟨rfl,rfl⟩
 refine ak _ (ef _ _ _) ?_;refine dN (p:=a0.kind=9) (λah7=>?_) (λah7=>?_)
 ·refine ak _ (by first|rfl|(simp only[aA];rfl))<|ak (sl 4 aG a0.args) (by first|rfl|(simp only[aA];rfl))<|ak _ (cy _ _ _)<|ak _ (gu _ _ _)<|ak _ (by first|rfl|(simp only[aA];rfl))<|ak (ε a0.kind) (by first|rfl|(simp only[aA];rfl))<|ak _ (ef _ _ _) ?_
  refine kH (ω:=Bool) (λE8 a=>a=(([(Z1 (aG a0)),(χ E8)]:aq),σ)) (
    by
     refine dN (p:=a0.kind=4) (λN6=>?_) (λN6=>?_)
     ·refine ak _ (by first|rfl|(simp only[aA];rfl))<|ak (sl 4 aG a0.args) (by first|rfl|(simp only[aA];rfl))<|ak _ (cy _ _ _)<|ak (χ (decide ((a0.args.length:Int)<2))) (by first|rfl|(simp only[aA];rfl)) ?_;exact aX rfl
     exact aX rfl
    ) (λE8 a ha=>?_)
  subst ha;refine bL br (λhg=>by first|rfl|(simp only[aA];rfl))<|bL (χ (!η)) (λhg=>by(try rw[hg]);exact rfl)<|bL (χ (!η)) (λhg=>by(try rw[hg]);exact rfl)<|ak _ (by first|rfl|(simp only[aA];rfl))<|cY (ε a0.bg) (λhg=>by first|rfl|(simp only[aA];rfl))<|cY (χ (decide (¬(a0.bg=0)))) (λhg=>by(try rw[hg]);exact(gu _ _ _))<|bL (χ ((!η)&&(decide (¬(a0.bg=0))))) (λhg=>by(try rw[hg]);exact(gb _ _))<|ak _ (kr _ _)<|bL br (λhg=>by first|rfl|(simp only[aA];rfl))<|bL (χ (!η)) (λhg=>by(try rw[hg]);exact rfl)<|bL (χ (!η)) (λhg=>by(try rw[hg]);exact rfl)<|ak _ (by first|rfl|(simp only[aA];rfl))<|cY (ε a0.to) (λhg=>by first|rfl|(simp only[aA];rfl))<|cY (χ (decide (¬(a0.to=0)))) (λhg=>by(try rw[hg]);exact(gu _ _ _))<|bL (χ ((!η)&&(decide (¬(a0.to=0))))) (λhg=>by(try rw[hg]);exact(gb _ _))<|ak _ (kr _ _) ?_;refine eO (c:=((E8||((!η)&&(decide (¬(a0.bg=0)))))||((!η)&&(decide (¬(a0.to=0)))))) (λEW=>?_) (λEW=>?_)
  ·exact bZ _ (bU _ _) ⟨rfl,rfl⟩
  refine ak _ (by first|rfl|(simp only[aA];rfl))<|ak (ε a0.kind) (by first|rfl|(simp only[aA];rfl))<|ak _ (ef _ _ _) ?_
  refine kH (ω:=Int) (λoV a=>a=(([(Z1 (aG a0)),(ε oV)]:aq),σ)) (
    by
     refine dN (p:=a0.kind=2) (λah1=>?_) (λah1=>?_)
     ·exact aX rfl
     refine ak _ (ef _ _ _) ?_
     refine kH (ω:=Int) (λJh a=>a=(([(Z1 (aG a0)),(ε Jh)]:aq),σ)) (
       by
        refine dN (p:=a0.kind=3) (λEV=>?_) (λEV=>?_)
        ·exact aX rfl
        exact aX rfl
       ) (λJh a ha=>?_)
     subst ha;exact aX rfl
    ) (λoV a ha=>?_)
  subst ha;refine ak _ (by first|rfl|(simp only[aA];rfl))<|bX (ε a0.bg) (λhg=>by first|rfl|(simp only[aA];rfl))<|bX (ε oV) (λhg=>by first|rfl|(simp only[aA];rfl))<|bX (χ (aU a0.bg 1 oV)) (λhg=>by(try rw[hg]);exact(jR (kR a0.bg 1 oV σ)))<|bX (χ (!(aU a0.bg 1 oV))) (λhg=>by(try rw[hg]);exact rfl)<|ak _ (gb _ _)<|bL br (λhg=>by first|rfl|(simp only[aA];rfl))<|bL br (λhg=>by(try rw[hg]);exact rfl)<|ak _ (by first|rfl|(simp only[aA];rfl))<|cY (ε a0.to) (λhg=>by first|rfl|(simp only[aA];rfl))<|cY (ε oV) (λhg=>by first|rfl|(simp only[aA];rfl))<|cY (χ (aU a0.to 1 oV)) (λhg=>by(try rw[hg]);exact(jR (kR a0.to 1 oV σ)))<|cY (χ (!(aU a0.to 1 oV))) (λhg=>by(try rw[hg]);exact rfl)<|bL (χ (η&&(!(aU a0.to 1 oV)))) (λhg=>by(try rw[hg]);exact(gb _ _))<|ak _ (kr _ _) ?_;refine eO (c:=((η&&(!(aU a0.bg 1 oV)))||(η&&(!(aU a0.to 1 oV))))) (λah6=>?_) (λah6=>?_)
  ·exact bZ _ (bU _ _) ⟨rfl,rfl⟩
  refine ak _ (by first|rfl|(simp only[aA];rfl))<|ak (sl 4 aG a0.args) (by first|rfl|(simp only[aA];rfl))<|ak _ (cy _ _ _) ?_;refine iW (B:=Unit) (R:=Int) (λ(OD:Nat)(Jq:Unit)v OZ=>v=[(ε 0),(ε (OD:Int))]/\σ=OZ) (λ(zR:Unit)(q:LS)=>∃u2 iD,q=((φ 2),([u2,iD]:aq),σ)) (λ(zR:Int)(q:LS)=>∃iD,q=(Ω,([(ε zR),iD]:aq),σ)) ?_ ?_ ⟨rfl,rfl⟩ ?_ ?_
  ·intro agN OD EZ Jq v OZ NG hI;obtain⟨rfl,rfl⟩:=hI;refine ak _ (dP NG)<|i5<|ak _ (ey NG)<|ak (Y8 (aG EZ)) (by first|rfl|(simp only[aA];rfl))<|ak (aG EZ) (by first|rfl|(simp only[aA];rfl))<|ak _ (qV _ _ rfl)<|ak (Y8 (aG EZ)) (by first|rfl|(simp only[aA];rfl)) ?_;refine fJ (λAc:Int=>((ε Ac),σ)) (λAc WU=>DL _ _ _ WU) (λAc WU=>?_);refine ak _ (gu _ _ _) ?_;refine dN (p:=¬(Ac=0)) (λN7=>?_) (λN7=>?_)
   ·exact aX (fu (by simp) ⟨_,rfl⟩)
   refine ak _ (dY NG agN) ?_;exact aX (iX ⟨rfl,rfl⟩)
  ·intro hl Jq v OZ hI;obtain⟨rfl,rfl⟩:=hI;refine ak _ (dX _)<|i4 ?_;exact aX ⟨by simp,⟨_,_,rfl⟩⟩
  ·intro hl zR q hq;obtain⟨u2,iD,rfl⟩:=hq;refine dJ (by first|rfl|(simp only[aA];rfl)) ?_;exact bZ _ (bU _ _) ⟨rfl,rfl⟩
  ·intro hl zR q hq;obtain⟨iD,rfl⟩:=hq;refine ku (by first|rfl|(simp only[aA];rfl))<|dJ (by first|rfl|(simp only[aA];rfl)) ?_;exact bZ _ (bU _ _) ⟨rfl,rfl⟩
 exact bZ _ (bU _ _) ⟨rfl,rfl⟩
def D5 (D3:aK->Int->Option (Int×Int)) (a0:aK) (a1:Int):Option (Int×Int):=
 if 12<a1 then
  δ (1,a1)
 else
 fR a0.args (λ(i8:Nat)e7(s1:(Int×Int))=>(show Option (Lr (Int×Int) (Int×Int) Unit)from
   (D3 e7 (Θ.wrap (a1+1))).bind λr9=>
   δ (.go ((if 201<Θ.wrap (s1.1+r9.1)then 201 else Θ.wrap (s1.1+r9.1)),(if s1.2<r9.2 then r9.2 else s1.2))))) (λs1=>δ (s1.1,s1.2)) (1,a1) (λb2=>
  δ (b2.1,b2.2)) (λb2=>
  μ)
theorem acV{rc:Nat->aq->Heap->aB}(D3:aK->Int->Option (Int×Int))(ab5:∀(x0:aK) (x1:Int) (s:Heap) r,D3 x0 x1=δ r->rc 46 [(Y8 (aG x0)),(ε x1)] s=δ ((Zz [(ε r.1),(ε r.2)]),s)){a0:aK}{a1:Int}{σ:Heap}{r:(Int×Int)}(h:D5 D3 a0 a1=δ r):Ξ η [fK] .k (T3 (B3 rc)) [(Y8 (aG a0)),(ε a1)] σ=δ ((Zz [(ε r.1),(ε r.2)]),σ):=by
 refine vV (f:=B3 rc) (y0:=(Y8 (aG a0))) (y1:=(ε a1)) (enc:=λr:(Int×Int)=>(Zz [(ε r.1),(ε r.2)])) (T:=D5 D3 a0 a1) (by first|rfl|(simp only[aA];rfl)) (by first|rfl|(simp only[aA];rfl)) ?_ r h;unfold B3 D5;refine ak (aG a0) (by first|rfl|(simp only[aA];rfl))<|ak (χ (decide (12<a1))) (by first|rfl|(simp only[aA];rfl)) ?_;refine dN (p:=12<a1) (λgy=>?_) (λgy=>?_)
 ·exact bZ _ (bU _ _) ⟨rfl,rfl⟩
 refine ak (sl 4 aG a0.args) (by first|rfl|(simp only[aA];rfl))<|ak _ (cy _ _ _) ?_;refine iW (B:=(Int×Int)) (R:=Unit) (λ(i8:Nat)(s1:(Int×Int))v w3=>v=[(ε s1.1),(ε s1.2),(ε (i8:Int))]/\σ=w3) (λ(b2:(Int×Int))(q:LS)=>∃ue,q=((φ 0),([(ε b2.1),(ε b2.2),ue]:aq),σ)) (λ(b2:Unit)(q:LS)=>False) ?_ ?_ ⟨rfl,rfl⟩ ?_ ?_
 ·intro rB i8 e7 s1 v w3 jf hI;obtain⟨rfl,rfl⟩:=hI;refine ak _ (dP jf)<|i5<|ak _ (ey jf)<|ak (Y8 (aG e7)) (by first|rfl|(simp only[aA];rfl))<|ak (aG e7) (by first|rfl|(simp only[aA];rfl))<|ak _ (qV _ _ rfl)<|ak (Y8 (aG e7)) (by first|rfl|(simp only[aA];rfl))<|ak (ε (Θ.wrap (a1+1))) (by first|rfl|(simp only[aA];rfl)) ?_;refine fJ (λr9:(Int×Int)=>((Zz [(ε r9.1),(ε r9.2)]),σ)) (λr9 F9=>ab5 _ _ _ _ F9) (λr9 F9=>?_);refine ak (ε r9.1) (by first|rfl|(simp only[aA];rfl))<|ak (ε r9.2) (by first|rfl|(simp only[aA];rfl))<|ak (ε (Θ.wrap (s1.1+r9.1))) (by first|rfl|(simp only[aA];rfl))<|ak (ε (if 201<Θ.wrap (s1.1+r9.1)then 201 else Θ.wrap (s1.1+r9.1))) (by first|rfl|(simp only[aA];rfl))<|ak (ε (if s1.2<r9.2 then r9.2 else s1.2)) (by first|rfl|(simp only[aA];rfl))<|ak _ (dY jf rB) ?_;exact aX (iX ⟨rfl,rfl⟩)
 ·intro hl s1 v w3 hI;obtain⟨rfl,rfl⟩:=hI;refine ak _ (dX _)<|i4 ?_;exact aX ⟨by simp,⟨_,rfl⟩⟩
 ·intro hl b2 q hq;obtain⟨ue,rfl⟩:=hq;refine dJ (by first|rfl|(simp only[aA];rfl)) ?_;exact bZ _ (bU _ _) ⟨rfl,rfl⟩
 ·intro hl b2 q hq;exact aqB hq
def Ee (a0:Int):Option (Bool×Bool×Int):=
 if a0=1 then
  δ (η,η,0)
 else
 (show Option Bool from
   if a0=2 then
    δ (decide (a0=2))
   else
   δ (decide (a0=3))).bind λj2=>
 if j2=η then
  δ (η,ι,0)
 else
 if a0=4 then
  δ (ι,ι,(-1))
 else
 if a0=5 then
  δ (ι,ι,2)
 else
 if a0=9 then
  δ (η,η,1)
 else
 δ (ι,ι,1)
theorem ad0{a0:Int}{σ:Heap}{r:(Bool×Bool×Int)}(h:Ee a0=δ r):HM [(ε a0)] σ=δ ((Zz [(χ r.1),(χ r.2.1),(ε r.2.2)]),σ):=by
 refine vU (f:=Mq) (y0:=(ε a0)) (enc:=λr:(Bool×Bool×Int)=>(Zz [(χ r.1),(χ r.2.1),(ε r.2.2)])) (T:=Ee a0) rfl rfl ?_ r h;unfold Mq Ee;refine ak _ (ef _ _ _) ?_;refine dN (p:=a0=1) (λc9=>?_) (λc9=>?_)
 ·exact bZ _ (bU _ _) ⟨rfl,rfl⟩
 refine ak _ (ef _ _ _) ?_
 refine kH (ω:=Bool) (λj2 a=>a=(([(χ j2)]:aq),σ)) (
   by
    refine dN (p:=a0=2) (λc1=>?_) (λc1=>?_)
    ·exact aX rfl
    refine ak _ (ef _ _ _) ?_;exact aX rfl
   ) (λj2 a ha=>?_)
 subst ha;refine eO (c:=j2) (λc8=>?_) (λc8=>?_)
 ·exact bZ _ (bU _ _) ⟨rfl,rfl⟩
 refine ak _ (ef _ _ _) ?_;refine dN (p:=a0=4) (λc7=>?_) (λc7=>?_)
 ·exact bZ _ (bU _ _) ⟨rfl,rfl⟩
 refine ak _ (ef _ _ _) ?_;refine dN (p:=a0=5) (λc6=>?_) (λc6=>?_)
 ·exact bZ _ (bU _ _) ⟨rfl,rfl⟩
 refine ak _ (ef _ _ _) ?_;refine dN (p:=a0=9) (λc5=>?_) (λc5=>?_)
 ·exact bZ _ (bU _ _) ⟨rfl,rfl⟩
 exact bZ _ (bU _ _) ⟨rfl,rfl⟩
def BA (DI:aK->Option Int) (a0:aK):Option Int:=
 if(!(aU a0.kind 1 9))=η then
  δ 4
 else
 (Ee a0.kind).bind λr1=>
 if(((((!r1.1)&&(decide (¬(a0.bg=0))))||((!r1.2.1)&&(decide (¬(a0.to=0)))))||((decide (0<=r1.2.2))&&(decide (¬((a0.args.length:Int)=r1.2.2)))))||((decide (r1.2.2<0))&&(decide ((a0.args.length:Int)<2))))=η then
  δ 3
 else
 (show Option Int from
   if a0.kind=2 then
    δ 999
   else
   (show Option Int from
     if a0.kind=3 then
      δ 999
     else
     δ 9999).bind λj3=>
   δ j3).bind λj7=>
 if((r1.1&&(!(aU a0.bg 1 j7)))||(r1.2.1&&(!(aU a0.to 1 9999))))=η then
  δ 1
 else
 fR a0.args (λ(Qv:Nat)FN(JT:Unit)=>(show Option (Lr Unit Unit Int)from
   (DI FN).bind λdr=>
   if ¬(dr=0)then
    δ (.ret dr)
   else
   δ (.go ()))) (λJT=>δ ()) () (λAn=>
  δ 0) (λAn=>
  δ An)
theorem aav{rc:Nat->aq->Heap->aB}(DI:aK->Option Int)(aaj:∀(x0:aK) (s:Heap) r,DI x0=δ r->rc 48 [(Y8 (aG x0))] s=δ ((ε r),s)){a0:aK}{σ:Heap}{r:Int}(h:BA DI a0=δ r):Ξ η [fK] .k (RV (By rc)) [(Y8 (aG a0))] σ=δ ((ε r),σ):=by
 refine vU (f:=By rc) (y0:=(Y8 (aG a0))) (enc:=λr:Int=>(ε r)) (T:=BA DI a0) (by first|rfl|(simp only[aA];rfl)) (by first|rfl|(simp only[aA];rfl)) ?_ r h;unfold By BA;refine ak (aG a0) (by first|rfl|(simp only[aA];rfl))<|ak (ε a0.kind) (by first|rfl|(simp only[aA];rfl))<|ak _ (ng a0.kind 1 9 σ)<|ak (χ (!(aU a0.kind 1 9))) (by first|rfl|(simp only[aA];rfl)) ?_;refine eO (c:=(!(aU a0.kind 1 9))) (λlP=>?_) (λlP=>?_)
 ·exact bZ _ (bU _ _) ⟨rfl,rfl⟩
 refine ak (ε a0.kind) (by first|rfl|(simp only[aA];rfl)) ?_;refine fJ (λr1:(Bool×Bool×Int)=>((Zz [(χ r1.1),(χ r1.2.1),(ε r1.2.2)]),σ)) (λr1 kL=>ad0 kL) (λr1 kL=>?_);refine ak (χ r1.1) (by first|rfl|(simp only[aA];rfl))<|ak (χ r1.2.1) (by first|rfl|(simp only[aA];rfl))<|ak (ε r1.2.2) (by first|rfl|(simp only[aA];rfl))<|ak (χ (!r1.1)) (by first|rfl|(simp only[aA];rfl))<|bX (ε a0.bg) (λhg=>by first|rfl|(simp only[aA];rfl))<|bX (χ (decide (¬(a0.bg=0)))) (λhg=>by(try rw[hg]);exact(gu _ _ _))<|ak _ (gb _ _)<|bL (χ r1.2.1) (λhg=>by first|rfl|(simp only[aA];rfl))<|bL (χ (!r1.2.1)) (λhg=>by(try rw[hg]);exact rfl)<|bL (χ (!r1.2.1)) (λhg=>by(try rw[hg]);exact rfl)<|cY (ε a0.to) (λhg=>by first|rfl|(simp only[aA];rfl))<|cY (χ (decide (¬(a0.to=0)))) (λhg=>by(try rw[hg]);exact(gu _ _ _))<|bL (χ ((!r1.2.1)&&(decide (¬(a0.to=0))))) (λhg=>by(try rw[hg]);exact(gb _ _))<|ak _ (kr _ _)<|bL (ε r1.2.2) (λhg=>by first|rfl|(simp only[aA];rfl))<|bL (χ (decide (0<=r1.2.2))) (λhg=>by(try rw[hg]);exact rfl)<|bL (χ (decide (0<=r1.2.2))) (λhg=>by(try rw[hg]);exact rfl)<|cY (sl 4 aG a0.args) (λhg=>by first|rfl|(simp only[aA];rfl))<|cY (ε (a0.args.length:Int)) (λhg=>by(try rw[hg]);exact(cy _ _ _))<|cY (ε r1.2.2) (λhg=>by first|rfl|(simp only[aA];rfl))<|cY (χ (decide (¬((a0.args.length:Int)=r1.2.2)))) (λhg=>by(try rw[hg]);exact(gu _ _ _))<|bL (χ ((decide (0<=r1.2.2))&&(decide (¬((a0.args.length:Int)=r1.2.2))))) (λhg=>by(try rw[hg]);exact(gb _ _))<|ak _ (kr _ _)<|bL (ε r1.2.2) (λhg=>by first|rfl|(simp only[aA];rfl))<|bL (χ (decide (r1.2.2<0))) (λhg=>by(try rw[hg]);exact rfl)<|bL (χ (decide (r1.2.2<0))) (λhg=>by(try rw[hg]);exact rfl)<|cY (sl 4 aG a0.args) (λhg=>by first|rfl|(simp only[aA];rfl))<|cY (ε (a0.args.length:Int)) (λhg=>by(try rw[hg]);exact(cy _ _ _))<|cY (χ (decide ((a0.args.length:Int)<2))) (λhg=>by(try rw[hg]);exact rfl)<|bL (χ ((decide (r1.2.2<0))&&(decide ((a0.args.length:Int)<2)))) (λhg=>by(try rw[hg]);exact(gb _ _))<|ak _ (kr _ _) ?_;refine eO (c:=(((((!r1.1)&&(decide (¬(a0.bg=0))))||((!r1.2.1)&&(decide (¬(a0.to=0)))))||((decide (0<=r1.2.2))&&(decide (¬((a0.args.length:Int)=r1.2.2)))))||((decide (r1.2.2<0))&&(decide ((a0.args.length:Int)<2))))) (λlO=>?_) (λlO=>?_)
 ·exact bZ _ (bU _ _) ⟨rfl,rfl⟩
 refine ak (ε a0.kind) (by first|rfl|(simp only[aA];rfl))<|ak _ (ef _ _ _) ?_
 refine kH (ω:=Int) (λj7 a=>a=(([(Z1 (aG a0)),(ε j7)]:aq),σ)) (
   by
    refine dN (p:=a0.kind=2) (λc6=>?_) (λc6=>?_)
    ·exact aX rfl
    refine ak _ (ef _ _ _) ?_
    refine kH (ω:=Int) (λj3 a=>a=(([(Z1 (aG a0)),(ε j3)]:aq),σ)) (
      by
       refine dN (p:=a0.kind=3) (λc2=>?_) (λc2=>?_)
       ·exact aX rfl
       exact aX rfl
      ) (λj3 a ha=>?_)
    subst ha;exact aX rfl
   ) (λj7 a ha=>?_)
 subst ha;refine ak _ (by first|rfl|(simp only[aA];rfl))<|bX (ε a0.bg) (λhg=>by first|rfl|(simp only[aA];rfl))<|bX (ε j7) (λhg=>by first|rfl|(simp only[aA];rfl))<|bX (χ (aU a0.bg 1 j7)) (λhg=>by(try rw[hg]);exact(jR (ng a0.bg 1 j7 σ)))<|bX (χ (!(aU a0.bg 1 j7))) (λhg=>by(try rw[hg]);exact rfl)<|ak _ (gb _ _)<|bL (χ r1.2.1) (λhg=>by first|rfl|(simp only[aA];rfl))<|bL (χ r1.2.1) (λhg=>by(try rw[hg]);exact rfl)<|ak _ (by first|rfl|(simp only[aA];rfl))<|cY (ε a0.to) (λhg=>by first|rfl|(simp only[aA];rfl))<|cY (χ (aU a0.to 1 9999)) (λhg=>by(try rw[hg]);exact(jR (ng a0.to 1 9999 σ)))<|cY (χ (!(aU a0.to 1 9999))) (λhg=>by(try rw[hg]);exact rfl)<|bL (χ (r1.2.1&&(!(aU a0.to 1 9999)))) (λhg=>by(try rw[hg]);exact(gb _ _))<|ak _ (kr _ _) ?_;refine eO (c:=((r1.1&&(!(aU a0.bg 1 j7)))||(r1.2.1&&(!(aU a0.to 1 9999))))) (λgD=>?_) (λgD=>?_)
 ·exact bZ _ (bU _ _) ⟨rfl,rfl⟩
 refine ak _ (by first|rfl|(simp only[aA];rfl))<|ak (sl 4 aG a0.args) (by first|rfl|(simp only[aA];rfl))<|ak _ (cy _ _ _) ?_;refine iW (B:=Unit) (R:=Int) (λ(Qv:Nat)(JT:Unit)v Du=>v=[(ε 0),(ε (Qv:Int))]/\σ=Du) (λ(An:Unit)(q:LS)=>∃u2 GK,q=((φ 1),([u2,GK]:aq),σ)) (λ(An:Int)(q:LS)=>∃GK,q=(Ω,([(ε An),GK]:aq),σ)) ?_ ?_ ⟨rfl,rfl⟩ ?_ ?_
 ·intro ahs Qv FN JT v Du Oi hI;obtain⟨rfl,rfl⟩:=hI;refine ak _ (dP Oi)<|i5<|ak _ (ey Oi)<|ak (Y8 (aG FN)) (by first|rfl|(simp only[aA];rfl))<|ak (aG FN) (by first|rfl|(simp only[aA];rfl))<|ak _ (qV _ _ rfl)<|ak (Y8 (aG FN)) (by first|rfl|(simp only[aA];rfl)) ?_;refine fJ (λdr:Int=>((ε dr),σ)) (λdr Xv=>aaj _ _ _ Xv) (λdr Xv=>?_);refine ak _ (gu _ _ _) ?_;refine dN (p:=¬(dr=0)) (λlN=>?_) (λlN=>?_)
  ·exact aX (fu (by simp) ⟨_,rfl⟩)
  refine ak _ (dY Oi ahs) ?_;exact aX (iX ⟨rfl,rfl⟩)
 ·intro hl JT v Du hI;obtain⟨rfl,rfl⟩:=hI;refine ak _ (dX _)<|i4 ?_;exact aX ⟨by simp,⟨_,_,rfl⟩⟩
 ·intro hl An q hq;obtain⟨u2,GK,rfl⟩:=hq;refine dJ (by first|rfl|(simp only[aA];rfl)) ?_;exact bZ _ (bU _ _) ⟨rfl,rfl⟩
 ·intro hl An q hq;obtain⟨GK,rfl⟩:=hq;refine ku (by first|rfl|(simp only[aA];rfl))<|dJ (by first|rfl|(simp only[aA];rfl)) ?_;exact bZ _ (bU _ _) ⟨rfl,rfl⟩
def D4 (D1:aK->Int->Option (List Int)) (a0:aK) (a1:Int):Option (List Int):=
 (show Option (List Int)from
   if a0.kind=a1 then
    if([]:List Int).length+([a0.bg]:(List Int)).length<=17592186044416 then
    δ (([]:List Int)++([a0.bg]:(List Int)))
    else μ
   else
   δ ([]:List Int)).bind λj8=>
 fR a0.args (λ(Qw:Nat)FO(oM:(List Int))=>(show Option (Lr (List Int) (List Int) Unit)from
   (D1 FO a1).bind λiS=>
   if oM.length+iS.length<=17592186044416 then
   δ (.go (oM++iS))
   else μ)) (λoM=>δ oM) j8 (λyK=>
  δ yK) (λyK=>
  μ)
theorem acT{rc:Nat->aq->Heap->aB}(D1:aK->Int->Option (List Int))(ab3:∀(x0:aK) (x1:Int) (s:Heap) r,D1 x0 x1=δ r->rc 50 [(Y8 (aG x0)),(ε x1)] s=δ ((sl 1 aL r),s)){a0:aK}{a1:Int}{σ:Heap}{r:(List Int)}(h:D4 D1 a0 a1=δ r):Ξ η [fK] (.s 1) (T3 (B1 rc)) [(Y8 (aG a0)),(ε a1)] σ=δ ((sl 1 aL r),σ):=by
 refine vV (f:=B1 rc) (y0:=(Y8 (aG a0))) (y1:=(ε a1)) (enc:=λr:(List Int)=>(sl 1 aL r)) (T:=D4 D1 a0 a1) (by first|rfl|(simp only[aA];rfl)) (by first|rfl|(simp only[aA];rfl)) ?_ r h;unfold B1 D4;refine ak (aG a0) (by first|rfl|(simp only[aA];rfl))<|ak (ε a0.kind) (by first|rfl|(simp only[aA];rfl))<|ak _ (ef _ _ _) ?_;have hp1:Hp σ σ []:=apz σ;have hp2:Hp σ σ [(ZK,(Ct.s 1 (Td aL ([]:List Int))))]:=agQ hp1 1
 refine kH (ω:=(List Int)) (λj8 a=>∃mY w9,a=(([(Z1 (aG a0)),mY]:aq),w9)/\Hp σ w9 [(mY,(Ct.s 1 (Td aL j8)))]) (
   by
    refine dN (p:=a0.kind=a1) (λc7=>?_) (λc7=>?_)
    ·refine ak (ε a0.bg) (by first|rfl|(simp only[aA];rfl))<|ak (sl 1 aL ([a0.bg]:(List Int))) (by first|rfl|(simp only[aA];rfl)) ?_;refine NQ (λhm=>?_);obtain⟨h6,w3,e5,YT⟩:=U8 (c:=aL) (ys:=([a0.bg]:(List Int))) (most:=17592186044416) hp2 0 rfl hm;change Hp σ w3 [(h6,(Ct.s 1 (Td aL (([]:List Int)++([a0.bg]:(List Int))))))]at YT;refine ak _ e5 ?_;exact aX ⟨_,_,rfl,YT⟩
    exact aX ⟨_,_,rfl,hp2⟩
   ) (λj8 a ha=>?_)
 obtain⟨mY,w9,rfl,ajg⟩:=ha;refine ak _ (by first|rfl|(simp only[aA];rfl))<|ak (sl 4 aG a0.args) (by first|rfl|(simp only[aA];rfl))<|ak _ (cy _ _ _) ?_;refine iW (B:=(List Int)) (R:=Unit) (λ(Qw:Nat)(oM:(List Int))v J6=>∃mY,v=[mY,(ε (Qw:Int))]/\Hp σ J6 [(mY,(Ct.s 1 (Td aL oM)))]) (λ(yK:(List Int))(q:LS)=>∃ue mY Ba,q=((φ 0),([mY,ue]:aq),Ba)/\Hp σ Ba [(mY,(Ct.s 1 (Td aL yK)))]) (λ(yK:Unit)(q:LS)=>False) ?_ ?_ ⟨_,rfl,ajg⟩ ?_ ?_
 ·intro aht Qw FO oM v J6 Oj hI;obtain⟨mY,rfl,Oy⟩:=hI;refine ak _ (dP Oj)<|i5<|ak _ (ey Oj)<|ak (Y8 (aG FO)) (by first|rfl|(simp only[aA];rfl))<|ak (aG FO) (by first|rfl|(simp only[aA];rfl))<|ak _ (qV _ _ rfl)<|ak (Y8 (aG FO)) (by first|rfl|(simp only[aA];rfl)) ?_;refine fJ (λiS:(List Int)=>((sl 1 aL iS),J6)) (λiS Xw=>ab3 _ _ _ _ Xw) (λiS Xw=>?_);refine NQ (λhm=>?_);obtain⟨h23,w20,e22,aoe⟩:=U8 (c:=aL) (ys:=iS) (most:=17592186044416) Oy 0 rfl hm;change Hp σ w20 [(h23,(Ct.s 1 (Td aL (oM++iS))))]at aoe;refine ak _ e22<|ak _ (dY Oj aht) ?_;exact aX (iX ⟨_,rfl,aoe⟩)
 ·intro hl oM v J6 hI;obtain⟨mY,rfl,Oy⟩:=hI;refine ak _ (dX _)<|i4 ?_;exact aX ⟨by simp,⟨_,_,_,rfl,Oy⟩⟩
 ·intro hl yK q hq;obtain⟨ue,mY,Ba,rfl,Xo⟩:=hq;refine dJ (by first|rfl|(simp only[aA];rfl)) ?_;obtain⟨ra0,FR,fb0⟩:=afO (c:=aL) (l:=yK) Xo (k:=0) rfl pQ;exact bZ _ (VZ Xo FR) ⟨(af7 fb0),rfl⟩
 ·intro hl yK q hq;exact aqB hq
def zj (a0:(List bl)) (a1:Int):Option (bl×Bool):=
 fR a0 (λ(i8:Nat)e7(s1:Unit)=>(show Option (Lr Unit Unit (bl×Bool))from
   if e7.aE=a1 then
    δ (.ret (e7,η))
   else
   δ (.go ()))) (λs1=>δ ()) () (λb2=>
  δ ((⟨0,(⟨0,0,0,[]⟩:aK)⟩:bl),ι)) (λb2=>
  δ (b2.1,b2.2))
theorem Hg{a0:(List bl)}{a1:Int}{σ:Heap}{r:(bl×Bool)}(h:zj a0 a1=δ r):uu [(sl 5 bw a0),(ε a1)] σ=δ ((Zz [(Y8 (bw r.1)),(χ r.2)]),σ):=by
 refine vV (f:=Lh) (y0:=(sl 5 bw a0)) (y1:=(ε a1)) (enc:=λr:(bl×Bool)=>(Zz [(Y8 (bw r.1)),(χ r.2)])) (T:=zj a0 a1) (by first|rfl|(simp only[aA];rfl)) (by first|rfl|(simp only[aA];rfl)) ?_ r h;unfold Lh zj;refine ak _ (cy _ _ _) ?_;refine iW (B:=Unit) (R:=(bl×Bool)) (λ(i8:Nat)(s1:Unit)v w3=>v=[(Z1 [(ε 0),(ε 0),(ε 0),(ε 0),ZK]),aT,(ε (i8:Int))]/\σ=w3) (λ(b2:Unit)(q:LS)=>∃u5 ud,q=((φ 0),([(Z1 [(ε 0),(ε 0),(ε 0),(ε 0),ZK]),u5,ud]:aq),σ)) (λ(b2:(bl×Bool))(q:LS)=>∃ud,q=(Ω,([(Z1 (bw b2.1)),(χ b2.2),ud]:aq),σ)) ?_ ?_ ⟨rfl,rfl⟩ ?_ ?_
 ·intro rB i8 e7 s1 v w3 jf hI;obtain⟨rfl,rfl⟩:=hI;refine ak _ (dP jf)<|i5<|ak _ (ey jf)<|ak (Y8 (bw e7)) (by first|rfl|(simp only[aA];rfl))<|ak (bw e7) (by first|rfl|(simp only[aA];rfl))<|ak _ (qS _ _ rfl)<|ak (ε e7.aE) (by first|rfl|(simp only[aA];rfl))<|ak _ (ef _ _ _) ?_;refine dN (p:=e7.aE=a1) (λc9=>?_) (λc9=>?_)
  ·refine ak (Y8 (bw e7)) (by first|rfl|(simp only[aA];rfl))<|ak _ (by first|rfl|(simp only[aA];rfl))<|ak (bw e7) (by first|rfl|(simp only[aA];rfl))<|ak _ (qS _ _ rfl) ?_;exact aX (fu (by simp) ⟨_,rfl⟩)
  refine ak _ (dY jf rB) ?_;exact aX (iX ⟨rfl,rfl⟩)
 ·intro hl s1 v w3 hI;obtain⟨rfl,rfl⟩:=hI;refine ak _ (dX _)<|i4 ?_;exact aX ⟨by simp,⟨_,_,rfl⟩⟩
 ·intro hl b2 q hq;obtain⟨u5,ud,rfl⟩:=hq;refine dJ (by first|rfl|(simp only[aA];rfl))<|ak _ (by first|rfl|(simp only[aA];rfl))<|ak [(ε 0),(ε 0),(ε 0),(ε 0),ZK] (by first|rfl|(simp only[aA];rfl))<|ak [(ε 0),(ε 0),(ε 0),(ε 0),ZK] (by first|rfl|(simp only[aA];rfl))<|ak (Y8 [(ε 0),(ε 0),(ε 0),(ε 0),ZK]) (by first|rfl|(simp only[aA];rfl)) ?_;exact bZ _ (bU _ _) ⟨rfl,rfl⟩
 ·intro hl b2 q hq;obtain⟨ud,rfl⟩:=hq;refine ku (by first|rfl|(simp only[aA];rfl))<|dJ (by first|rfl|(simp only[aA];rfl))<|ak (Y8 (bw b2.1)) (by first|rfl|(simp only[aA];rfl)) ?_;exact bZ _ (bU _ _) ⟨rfl,rfl⟩
end
theorem Hr:∀(l:List aK)(p:aK),eo (l++[p])=eo l+bH p
 |[],p=>by rw[YU,eo,eo,eo];omega
 |q::l,p=>by rw[kF,eo,eo,Hr l p];omega
theorem Sm:∀(l:List aK)(p:aK),gn (l++[p])=max (gn l) (eu p)
 |[],p=>by rw[YU,gn,gn,gn];omega
 |q::l,p=>by rw[kF,gn,gn,Sm l p];omega
theorem aps(l:List aK)(k:Nat):eo (l.take k)<=eo l:=by
 have h:eo (l.take k++l.drop k)=eo (l.take k)+eo (l.drop k):=by rw[DZ,DZ,DZ,Zw,List.sum_append]
 rw[Wq]at h;omega
theorem Hq:∀l:List aK,gn l<=eo l
 |[]=>by rw[gn,eo];omega
 |.mk k f t a::l=>by rw[gn,eo,eu,bH];have:=Hq a;have:=Hq l;omega
def nF(k f t:Int)(n:Nat):Int:=
 if ¬(1<=k/\k<=9)then 4
 else if(k<=3/\n≠0)\/(k=4/\n<2)\/(k=5/\n≠2)\/(6<=k/\n≠1)\/(4<=k/\k<=8/\f≠0)\/(2<=k/\k<=8/\t≠0)then 3
 else if((k=1\/k=9)/\¬(1<=f/\f<=9999))\/((k=2\/k=3)/\¬(1<=f/\f<=999))\/((k=1\/k=9)/\¬(1<=t/\t<=9999))then 1
 else 0
mutual
def iq:aK->Int
 |.mk k f t l=>if nF k f t l.length=0 then tD l else nF k f t l.length
def tD:List aK->Int
 |[]=>0
 |p::l=>if iq p=0 then tD l else iq p
end
def oS(p:aK):Int:=if 200<bH p\/12<eu p then 2 else iq p
mutual
def jB:aK->List (Int×Int)
 |.mk k f t l=>(if k=2\/k=3 then[(k,f)]else[])++iL l
def iL:List aK->List (Int×Int)
 |[]=>[]
 |p::l=>jB p++iL l
end
mutual
def rP(lv:Nat):aK->Nat×Nat
 |.mk _ _ _ l=>if 12<lv then(1,lv)else iT lv l (1,lv)
def iT(lv:Nat):List aK->Nat×Nat->Nat×Nat
 |[],c=>c
 |p::l,c=>iT lv l (min (c.1+(rP (lv+1) p).1) 201,max c.2 (rP (lv+1) p).2)
end
mutual
theorem W1(lv:Nat)(h:lv<=13):∀p:aK,(rP lv p).1<=201/\(rP lv p).2<=13
 |.mk _ _ _ l=>by
  rw[rP];by_cases h12:12<lv
  ·rw[aH h12];exact⟨by show 1<=201;omega,h⟩
  ·rw[aF h12];exact Nq lv (by omega) l (1,lv) (by show 1<=201;omega) h
theorem Nq(lv:Nat)(h:lv<=12):∀(l:List aK)(c:Nat×Nat),c.1<=201->c.2<=13->(iT lv l c).1<=201/\(iT lv l c).2<=13
 |[],c,h1,h2=>by rw[iT];exact⟨h1,h2⟩
 |p::l,c,h1,h2=>by rw[iT];have:=W1 (lv+1) (by omega) p;exact Nq lv h l _ (by show min _ 201<=201;omega) (by show max _ _<=13;omega)
end
mutual
theorem W2(lv:Nat):∀p:aK,lv+eu p<=13->rP lv p=(min (bH p) 201,lv+eu p-1)
 |.mk k f t l,h=>by rw[eu]at h;rw[rP,aF (by omega),Wi lv l (1,lv) (by omega) (by show 1<=201;omega) (bR lv),bH,eu];show(min (1+eo l) 201,max lv (lv+gn l))=_;rw[show max lv (lv+gn l)=lv+(1+gn l) -1 by omega]
theorem Wi(lv:Nat):∀(l:List aK)(c:Nat×Nat),lv+gn l<=12->c.1<=201->lv<=c.2->iT lv l c=(min (c.1+eo l) 201,max c.2 (lv+gn l))
 |[],(c1,c2),h,h1,h2=>by
  rw[iT,eo,gn];have h1:c1<=201:=h1;have h2:lv<=c2:=h2;show(c1,c2)=(min (c1+0) 201,max c2 (lv+0))
  rw[show min (c1+0) 201=c1 by omega,show max c2 (lv+0)=c2 by omega]
 |p::l,(c1,c2),h,h1,h2=>by
  rw[gn]at h;have h1:c1<=201:=h1;have h2:lv<=c2:=h2;rw[iT,W2 (lv+1) p (by omega),Wi lv l _ (by omega) (by show min _ 201<=201;omega) (by show lv<=max c2 _;omega),eo,gn];show(min (min (c1+min (bH p) 201) 201+eo l) 201,max (max c2 (lv+1+eu p-1)) (lv+gn l))=(min (c1+(bH p+eo l)) 201,max c2 (lv+max (eu p) (gn l)))
  rw[show min (min (c1+min (bH p) 201) 201+eo l) 201=min (c1+(bH p+eo l)) 201 by omega,show max (max c2 (lv+1+eu p-1)) (lv+gn l)=max c2 (lv+max (eu p) (gn l)) by omega]
end
mutual
theorem Wg(lv:Nat):∀p:aK,lv<=13->13<lv+eu p->12<(rP lv p).2
 |.mk k f t l,h0,h=>by
  rw[eu]at h;rw[rP];by_cases h12:12<lv
  ·rw[aH h12];exact h12
  ·rw[aF h12];exact Vy lv l (1,lv) (by omega) (by omega)
theorem Wh(lv:Nat):∀(l:List aK)(c:Nat×Nat),c.2<=(iT lv l c).2
 |[],c=>by rw[iT];omega
 |p::l,c=>by rw[iT];have:=Wh lv l (min (c.1+(rP (lv+1) p).1) 201,max c.2 (rP (lv+1) p).2);have h2:max c.2 (rP (lv+1) p).2<=(iT lv l (min (c.1+(rP (lv+1) p).1) 201,max c.2 (rP (lv+1) p).2)).2:=this;omega
theorem Vy(lv:Nat):∀(l:List aK)(c:Nat×Nat),lv<=12->12<lv+gn l->12<(iT lv l c).2
 |[],c,h0,h=>by rw[gn]at h;omega
 |p::l,c,h0,h=>by
  rw[gn]at h;rw[iT];by_cases hp:12<lv+eu p
  ·have h1:=Wg (lv+1) p (by omega) (by omega);have h2:=Wh lv l (min (c.1+(rP (lv+1) p).1) 201,max c.2 (rP (lv+1) p).2);have h3:max c.2 (rP (lv+1) p).2<=(iT lv l (min (c.1+(rP (lv+1) p).1) 201,max c.2 (rP (lv+1) p).2)).2:=h2;omega
  ·exact Vy lv l _ h0 (by omega)
end
theorem ad4(p:aK):(200<(rP 1 p).1\/12<(rP 1 p).2)↔(200<bH p\/12<eu p):=by
 by_cases h:1+eu p<=13
 ·rw[W2 1 p h];show(200<min (bH p) 201\/12<1+eu p-1)↔_;omega
 ·have:=Wg 1 p (by omega) (by omega);omega
section
section
variable {α S B R γ : Type}
theorem It{l:List α}{body:Nat->α->S->Option (Lr S B R)}{fin:S->Option B}{s:S}{K1:B->Option γ}{K2:R->Option γ}(st:Nat->S)(hl:l.length<=bf)(h0:s=st 0)(hb:∀i x,l[i]? =δ x->body i x (st i)=δ (.go (st (i+1)))):fR l body fin s K1 K2=(fin (st l.length)).bind K1:=by
 rw[Is hl]
 have key:∀(rest pre:List α),l=pre++rest->oA body fin rest pre.length (st pre.length)=(fin (st l.length)).map .inl:=by
  intro rest;induction rest with
  |nil=>intro pre hp;rw[TB]at hp;subst hp;rfl
  |cons x rest ih=>
   intro pre hp;have hx:l[pre.length]? =δ x:=by rw[hp];simp
   rw[oA,hb pre.length x hx,aO];have:=ih (pre++[x]) (by simpa using hp);simpa using this
 have k:=key l [] rfl;rw[Us]at k;rw[h0,k];cases fin (st l.length)<;>rfl
end
theorem SP:∀l:List aK,l.length<=eo l
 |[]=>jK _
 |p::l=>by rw[eo,uH,ZT];have:=SP l;omega
theorem zm{p:aK}:∀{l:List aK},p∈l->eu p<=gn l
 |q::l,h=>by
  rw[gn];rcases fA.1 h with rfl|h
  ·omega
  ·have:=zm h;omega
theorem xI(p:aK):eu p<=bH p:=by rw[Cg,uH];have:=Hq p.args;omega
theorem B8(p:aK):1<=eu p:=by rw[Cg];omega
abbrev mZ:Nat:=4611686018427387904
theorem Cm{p:aK}(h:bH p<=mZ):p.args.length<=bf:=by have:=SP p.args;rw[uH]at h;unfold mZ at h;unfold bf;omega
theorem Wl:∀(n:Nat)(p:aK)(σ:Heap),eu p<=n->bH p<=mZ->fuel BP n 37 [.agg (aG p)] σ=δ (.aJ [.ah (bH p:Int),.ah (eu p:Int)],σ)
 |0,p,σ,h,_=>by have:=B8 p;omega
 |n+1,p,σ,h,hs=>by
  let q:aK->Option (Int×Int):=λp=>if eu p<=n/\bH p<=mZ then δ ((bH p:Int),(eu p:Int))else μ
  have hd:gn p.args<=n:=by rw[Cg]at h;omega
  have hz:1+eo p.args<=mZ:=by rw[uH]at hs;exact hs
  have e:DX q p=δ ((bH p:Int),(eu p:Int)):=by
   unfold DX;rw[It (λi=>(((1+eo (p.args.take i):Nat):Int),((1+gn (p.args.take i):Nat):Int))) (Cm hs) (by simp [eo,gn])]
   ·simp only[ZP,aO,uH p,Cg p]
   ·intro i x hx;have hm:=ct hx;have Ge:=zm hm;have hxs:=L5 hm;have hi:=(bG.1 hx).1;have ht:p.args.take (i+1)=p.args.take i++[x]:=by rw[Z9,hx];rfl
    have hle:=aps p.args (i+1);rw[ht,Hr]at hle;have lQ:=Hq (p.args.take i);have hds:=xI x;have hq:q x=δ ((bH x:Int),(eu x:Int)):=aH ⟨by omega,by omega⟩;unfold mZ at *
    simp only[hq,aO,ht,Hr,Sm];rw[dc (by unfold bE;omega),dc (by unfold bE;omega)];congr 3
    ·omega
    ·split<;>omega
  have hr:fuel BP (n+1) 37=Ξ η [fK] .k (RV (BS (fuel BP n))):=rfl;rw[hr]
  exact ab2 (rc:=fuel BP n) q (λx s r hx=>by
   by_cases hp:eu x<=n/\bH x<=mZ
   ·have:q x=_:=aH hp;rw[this]at hx;injection hx with hx;subst hx
    exact Wl n x s hp.1 hp.2
   ·have:q x=μ:=aF hp
    rw[this]at hx;cases hx) e
theorem SM:∀(l:List aK)(i:Nat),gR (λ_ x=>iq x) l i=tD l
 |[],i=>by rw[gR,tD]
 |p::l,i=>by rw[gR,tD,SM l (i+1)]
theorem Uc{q:aK->Option Int}{l:List aK}(hl:l.length<=bf)(hq:∀x∈l,q x=δ (iq x)):
  fR l (λ(i:Nat)e(s:Unit)=>(show Option (Lr Unit Unit Int)from(q e).bind λr=>if ¬(r=0)then δ (.ret r)else δ (.go ()))) (λs=>δ ()) () (λb=>δ 0) (λb=>δ b)=δ (tD l):=by
 rw[qT (f:=λ_ x=>iq x) hl (λi x hx=>by
  simp only[hq x (ct hx),aO]
  by_cases h:iq x=0<;>simp [h]) rfl,SM]
 split
 ·rename_i h;rw[h]
 ·rfl
def JP(k f t:Int)(n:Nat):Prop:=(k<=3/\n≠0)\/(k=4/\n<2)\/(k=5/\n≠2)\/(6<=k/\n≠1)\/(4<=k/\k<=8/\f≠0)\/(2<=k/\k<=8/\t≠0)
def JQ(k f t:Int):Prop:=((k=1\/k=9)/\¬(1<=f/\f<=9999))\/((k=2\/k=3)/\¬(1<=f/\f<=999))\/((k=1\/k=9)/\¬(1<=t/\t<=9999))
theorem I3{k f t:Int}{n:Nat}{L:Int}{A B:Prop}[Decidable A][Decidable B]{X:Option Int}(hk:1<=k/\k<=9)(hA:A↔JP k f t n)(hB:B↔JQ k f t)(hX:X=if A then δ 3 else if B then δ 1 else δ L):X=δ (if nF k f t n=0 then L else nF k f t n):=by
 rw[hX];unfold JP at hA;unfold JQ at hB;by_cases a:A
 ·have e:nF k f t n=3:=by unfold nF;rw[aF (λh=>h hk),aH (hA.1 a)]
  rw[aH a,e];rfl
 ·by_cases b:B
  ·have e:nF k f t n=1:=by unfold nF;rw[aF (λh=>h hk),aF (λh=>a (hA.2 h)),aH (hB.1 b)]
   rw[aF a,aH b,e];rfl
  ·have e:nF k f t n=0:=by unfold nF;rw[aF (λh=>h hk),aF (λh=>a (hA.2 h)),aF (λh=>b (hB.2 h))]
   rw[aF a,aF b,e];rfl
theorem Vt(p:aK):iq p=if nF p.kind p.bg p.to p.args.length=0 then tD p.args else nF p.kind p.bg p.to p.args.length:=by cases p;rw[iq];rfl
theorem TN{k f t:Int}{n:Nat}(hk:¬(1<=k/\k<=9)):nF k f t n=4:=by unfold nF;rw[aH hk]
theorem afz{q:aK->Option Int}(p:aK)(hl:p.args.length<=bf)(hq:∀x∈p.args,q x=δ (iq x)):BO q p=δ (iq p):=by
 have hL:=Uc hl hq;unfold BO;rw[Vt];simp only[hL];generalize tD p.args=L;clear hL hq;generalize p.args.length=n at *
 generalize p.kind=k;generalize p.bg=f;generalize p.to=t;by_cases hk:1<=k/\k<=9
 ·have hk':k=1\/k=2\/k=3\/k=4\/k=5\/k=6\/k=7\/k=8\/k=9:=by omega
  rcases hk' with rfl|rfl|rfl|rfl|rfl|rfl|rfl|rfl|rfl<;>
   (simp only[aU,reduceIte,aO,Int.reduceEq,decide_true,decide_false,ZD,YV,Bool.not_false,ap7,Xp,Bool.or_false,Bool.false_or,Bool.or_eq_true,decide_eq_true_eq,apR,decide_eq_false_iff_not];(first|refine I3 (by decide) ?_ ?_ rfl|refine I3 (B:=False) (by decide) ?_ ?_ rfl)<;>(simp [JP,JQ];try omega))
 ·rw[TN hk];have n1:¬k=1:=by omega
  have n2:¬k=2:=by omega
  have n3:¬k=3:=by omega
  have n4:¬k=4:=by omega
  have n5:¬k=5:=by omega
  have n6:¬k=6:=by omega
  have n7:¬k=7:=by omega
  have n8:¬k=8:=by omega
  have n9:¬k=9:=by omega
  simp [n1,n2,n3,n4,n5,n6,n7,n8,n9]
theorem aeH{q:aK->Option Int}(p:aK)(hl:p.args.length<=bf)(hq:∀x∈p.args,q x=δ (iq x)):BA q p=δ (iq p):=by
 have hL:=Uc hl hq;unfold BA Ee;rw[Vt];simp only[hL];generalize tD p.args=L;clear hL hq;generalize p.args.length=n at *
 generalize p.kind=k;generalize p.bg=f;generalize p.to=t;by_cases hk:1<=k/\k<=9
 ·have hk':k=1\/k=2\/k=3\/k=4\/k=5\/k=6\/k=7\/k=8\/k=9:=by omega
  rcases hk' with rfl|rfl|rfl|rfl|rfl|rfl|rfl|rfl|rfl<;>
   (simp only[aU,reduceIte,aO,Int.reduceEq,Int.reduceLE,Int.reduceLT,Int.reduceNeg,and_self,decide_true,decide_false,ZD,YV,Bool.not_false,ap7,Xp,Bool.or_false,Bool.false_or,Bool.or_eq_true,decide_eq_true_eq,apR,decide_eq_false_iff_not];(first|refine I3 (by decide) ?_ ?_ rfl|refine I3 (B:=False) (by decide) ?_ ?_ rfl)<;>(simp [JP,JQ];try omega))
 ·rw[TN hk];have:aU k 1 9=ι:=gq hk;simp [this]
theorem IE{p:aK}{n:Nat}(h:eu p<=n+1):gn p.args<=n:=by rw[Cg]at h;omega
theorem UT:∀(n:Nat)(p:aK)(σ:Heap),eu p<=n->bH p<=mZ->fuel BF n 38 [.agg (aG p)] σ=δ (.ah (iq p),σ)
 |0,p,σ,h,_=>by have:=B8 p;omega
 |n+1,p,σ,h,hs=>by
  let q:aK->Option Int:=λp=>if eu p<=n/\bH p<=mZ then δ (iq p)else μ
  have hd:=IE h;have e:BO q p=δ (iq p):=afz p (Cm hs) λx hx=>aH ⟨ZL (zm hx) hd,by have:=Ec hx;omega⟩
  have hr:fuel BF (n+1) 38=Ξ η [fK] .k (RV (BL (fuel BF n))):=rfl;rw[hr]
  exact aa2 (rc:=fuel BF n) q (λx s r hx=>by
   by_cases hp:eu x<=n/\bH x<=mZ
   ·have:q x=_:=aH hp;rw[this]at hx;injection hx with hx;subst hx
    exact UT n x s hp.1 hp.2
   ·have:q x=μ:=aF hp
    rw[this]at hx;cases hx) e
theorem Sa:∀(n:Nat)(p:aK)(σ:Heap),eu p<=n->bH p<=mZ->fuel Bx n 48 [.agg (aG p)] σ=δ (.ah (iq p),σ)
 |0,p,σ,h,_=>by have:=B8 p;omega
 |n+1,p,σ,h,hs=>by
  let q:aK->Option Int:=λp=>if eu p<=n/\bH p<=mZ then δ (iq p)else μ
  have hd:=IE h;have e:BA q p=δ (iq p):=aeH p (Cm hs) λx hx=>aH ⟨ZL (zm hx) hd,by have:=Ec hx;omega⟩
  have hr:fuel Bx (n+1) 48=Ξ η [fK] .k (RV (By (fuel Bx n))):=rfl;rw[hr]
  exact aav (rc:=fuel Bx n) q (λx s r hx=>by
   by_cases hp:eu x<=n/\bH x<=mZ
   ·have:q x=_:=aH hp;rw[this]at hx;injection hx with hx;subst hx
    exact Sa n x s hp.1 hp.2
   ·have:q x=μ:=aF hp
    rw[this]at hx;cases hx) e
theorem UA(lv:Nat):∀(l:List aK)(x:aK)(c:Nat×Nat),iT lv (l++[x]) c=(min ((iT lv l c).1+(rP (lv+1) x).1) 201,max (iT lv l c).2 (rP (lv+1) x).2)
 |[],x,c=>by rw[YU,iT,iT,iT]
 |p::l,x,c=>by rw[kF,iT,iT,UA lv l x]
theorem ahK(lv:Nat)(p:aK):rP lv p=if 12<lv then(1,lv)else iT lv p.args (1,lv):=by cases p;rw[rP];rfl
theorem Vv:∀(n:Nat)(p:aK)(lv:Nat)(σ:Heap),lv<=13->14<=n+lv->bH p<=mZ->fuel BW n 46 [.agg (aG p),.ah (lv:Int)] σ=δ (.aJ [.ah ((rP lv p).1:Int),.ah ((rP lv p).2:Int)],σ)
 |0,p,lv,σ,h,h2,_=>by omega
 |n+1,p,lv,σ,h,h2,hs=>by
  let q:aK->Int->Option (Int×Int):=λp i=>if 0<=i/\i<=13/\14<=n+i.toNat/\bH p<=mZ then δ (((rP i.toNat p).1:Int),((rP i.toNat p).2:Int))else μ
  have e:D5 q p (lv:Int)=δ (((rP lv p).1:Int),((rP lv p).2:Int)):=by
   unfold D5;rw[ahK];by_cases h12:12<lv
   ·rw[aH (by omega),aH h12];rfl
   ·rw[aF (by omega),aF h12];rw[It (λi=>(((iT lv (p.args.take i) (1,lv)).1:Int),((iT lv (p.args.take i) (1,lv)).2:Int))) (Cm hs) (by simp [iT])]
    ·simp only[ZP,aO]
    ·intro i x hx;have hm:=ct hx;have ht:p.args.take (i+1)=p.args.take i++[x]:=by rw[Z9,hx];rfl
     have b1:=Nq lv (by omega) (p.args.take i) (1,lv) (by show 1<=201;omega) (by show lv<=13;omega);have b2:=W1 (lv+1) (by omega) x
     have hq:q x (Θ.wrap ((lv:Int)+1))=δ (((rP (lv+1) x).1:Int),((rP (lv+1) x).2:Int)):=by
      rw[dc (by unfold bE;omega)];have ee:((lv:Int)+1).toNat=lv+1:=by omega
      have:=Ec hm;refine(aH ⟨by omega,by omega,by omega,by omega⟩).trans ?_;rw[ee]
     simp only[hq,aO,ht,UA];rw[dc (by unfold bE;omega)];congr 3
     ·split<;>omega
     ·split<;>omega
  have hr:fuel BW (n+1) 46=Ξ η [fK] .k (T3 (B3 (fuel BW n))):=rfl;rw[hr]
  exact acV (rc:=fuel BW n) q (λx i s r hx=>by
   by_cases hp:0<=i/\i<=13/\14<=n+i.toNat/\bH x<=mZ
   ·have:q x i=_:=aH hp;rw[this]at hx;injection hx with hx;subst hx
    have:=Vv n x i.toNat s (by omega) hp.2.2.1 hp.2.2.2;rwa[show((i.toNat:Nat):Int)=i by omega]at this
   ·have:q x i=μ:=aF hp
    rw[this]at hx;cases hx) e
abbrev cu:Nat:=17592186044416
mutual
def eN(k:Int):aK->List Int
 |.mk kd f t l=>(if kd=k then[f]else[])++lF k l
def lF(k:Int):List aK->List Int
 |[]=>[]
 |p::l=>eN k p++lF k l
end
theorem Eb(k:Int)(p:aK):eN k p=(if p.kind=k then[p.bg]else[])++lF k p.args:=by cases p;rw[eN];rfl
theorem RY(k:Int):∀(l:List aK)(x:aK),lF k (l++[x])=lF k l++eN k x
 |[],x=>by simp [lF]
 |p::l,x=>by rw[kF,lF,lF,RY k l x,nG]
mutual
theorem BZ(k:Int):∀p:aK,(eN k p).length<=bH p
 |.mk kd f t l=>by rw[eN,bH,PU];have:=LD k l;split<;>simp<;>omega
theorem LD(k:Int):∀l:List aK,(lF k l).length<=eo l
 |[]=>by simp [lF,eo]
 |p::l=>by rw[lF,eo,PU];have:=BZ k p;have:=LD k l;omega
end
theorem MT:∀(n:Nat)(p:aK)(k:Int)(σ:Heap),eu p<=n->bH p<=cu->fuel BV n 50 [.agg (aG p),.ah k] σ=δ (sl 1 aL (eN k p),σ)
 |0,p,k,σ,h,_=>by have:=B8 p;omega
 |n+1,p,k,σ,h,hs=>by
  let q:aK->Int->Option (List Int):=λp k=>if eu p<=n/\bH p<=cu then δ (eN k p)else μ
  have hd:=IE h
  have e:D4 q p k=δ (eN k p):=by
   unfold D4;have hlen:p.args.length<=bf:=Cm (by unfold mZ;unfold cu at hs;omega);have hz:1+eo p.args<=cu:=by rw[uH]at hs;exact hs
   have e0:(show Option (List Int)from if p.kind=k then if([]:List Int).length+([p.bg]:(List Int)).length<=17592186044416 then δ (([]:List Int)++([p.bg]:(List Int)))else μ else δ ([]:List Int))=δ (if p.kind=k then[p.bg]else[]):=by by_cases hk:p.kind=k<;>simp [hk]
   rw[e0,aO,It (λi=>(if p.kind=k then[p.bg]else[])++lF k (p.args.take i)) hlen (by simp [lF])]
   ·simp only[ZP,aO,Eb k p]
   ·intro i x hx;have hm:=ct hx;have ht:p.args.take (i+1)=p.args.take i++[x]:=by rw[Z9,hx];rfl
    have hle:=aps p.args (i+1);rw[ht,Hr]at hle;have l1:=LD k (p.args.take i);have l2:=BZ k x;have:=zm hm;have hq:q x k=δ (eN k x):=aH ⟨by omega,by omega⟩;simp only[hq,aO,ht,RY,nG];rw[aH];simp only[PU];unfold cu at hz;split<;>simp<;>omega
  have hr:fuel BV (n+1) 50=Ξ η [fK] (.s 1) (T3 (B1 (fuel BV n))):=rfl;rw[hr]
  exact acT (rc:=fuel BV n) q (λx i s r hx=>by
   by_cases hp:eu x<=n/\bH x<=cu
   ·have:q x i=_:=aH hp;rw[this]at hx;injection hx with hx;subst hx
    exact MT n x i s hp.1 hp.2
   ·have:q x i=μ:=aF hp
    rw[this]at hx;cases hx) e
end
section
open HP
abbrev Iv(v:AV)(l:List Int):HP:=Sl (fl aL) 1 v l
section
variable {au σ : Heap} {R : HP} {v : AV} {l : List Int}
theorem uP{B:aP->Prop}{x:Int}(hB:∀g g' seg,(seg=[]\/B (.arr g 1 seg))->B (.arr g' 1 (seg++[aL x])))(hl:l.length+1<=cu)(H:Hs B au σ (Iv v l*R)):∃v' σ',ZI 1 (140737488355328 / 8) v (.sl 1 [[.ah x]]) σ=δ (v',σ')/\Hs B au σ' (Iv v' (l++[x])*R):=
 Nt (ys:=[aL x]) (xs:=[x]) (cr (show els (fl aL) [aL x] [x]*(Iv v l*R)=Iv v l*(els (fl aL) [aL x] [x]*R) by ac_rfl) (EC.2 ⟨rfl,H⟩)) (by unfold cu at hl;simpa using hl) hB
theorem NR{m x:Int}{i:Nat}(hx:l[i]? =δ x)(H:Hs aV au σ (Iv v l*R)):
  ∃p σ',Zp 1 v (.ah (i:Int))=δ p/\ZX p (aL m) σ=δ σ'/\Hs aV au σ' (Iv v (l.set i m)*R):=by
 obtain⟨p,F,e,h1,hC,K,back⟩:=VC H hx;have he:e=aL x:=(tv.1 (eX K)).1;subst he;have K2:=eX (cr (show _=pr (aL x=aL x)*(F (aL x)*R) by rw[show fl aL (aL x) x=pr (aL x=aL x)from rfl];ac_rfl) K);obtain⟨σ',h2,K3⟩:=hC.st K2 (new:=aL m) (e':=aL m) rfl;refine⟨p,σ',h1,h2,back (e:=aL m) (cr (show pr (aL m=aL m)*(F (aL m)*R)=_ by rw[show fl aL (aL m) m=pr (aL m=aL m)from rfl];ac_rfl) (tv.2 ⟨rfl,K3⟩))⟩
theorem vX(H:Hs aV au σ (Iv v l*R)):ZS v=δ v:=afy H
theorem aiU{dyn:Nat->aq->Heap->aB}{rS:AV}{p:Int->Bool}{v:AV}{l:List Int}(hl:l.length<1000000)(hg:∀id g n,XC [AV.os id g 1 0 n,rS]=g+n)
  (Qf:sU dyn [v,rS] σ=δ (.ah (mT p l),σ)) (yc:∀m∈l,∀s,Hs aV au s R->A.nC dyn rS [.ah m] s=δ (.bool (p m),s)) (H:Hs aV au σ (Sl (fl aL) 1 v l*R)):
  ∃v' σ',Dw dyn v rS σ=δ (v',σ')/\Hs aV au σ' (Sl (fl aL) 1 v' (l.filter λm=>!p m)*R):=by
 unfold Dw;rw[Qf,aO];rcases BY p l with⟨h1,h2,_⟩|⟨k,x,h1,h2,h3,_,h5⟩
 ·simp only[h1];rw[ef,aO,fF rfl,zF];have hf:(l.filter λm=>!p m)=l:=apW.2 λm hm=>by rw[h2 m hm];rfl
  rw[hf];rcases oQ H with⟨rfl,hv,H'⟩|⟨id,g,rfl,K⟩
  ·rcases hv with rfl|rfl
   ·exact⟨_,_,rfl,kO H' (.inl rfl)⟩
   ·exact⟨_,_,rfl,kO H' (.inr rfl)⟩
  ·obtain⟨_,q2⟩:=eG K;obtain⟨v',s,e1,K2⟩:=TP (rS:=rS) (k:=l.length) ((bG.1 q2).1) (bR _) (bR _) (hg _ _ _) K;rw[ZP]at K2;exact⟨v',s,e1,K2⟩
 ·have rU:=(bG.1 h1).1;simp only[h3];rw[ef,aO,gq (by omega),wo,I7 (by omega),aO];have hlv:ZO v=δ (.ah (l.length:Int)):=IS H
  have yQ:(l.take (k+1)).filter (λm=>!p m)=l.take k:=by
   rw[Z9,h1,YA,XI,apW.2 (λm hm=>?_)]
   ·simp [h2]
   ·obtain⟨j,hj⟩:=wA.1 hm;rw[Vj]at hj;split at hj
    ·rename_i q;rw[h5 j m q hj];rfl
    ·cases hj
  suffices hb:∃b:AV×Heap,_=δ b/\Hs aV au b.2 (Sl (fl aL) 1 b.1 (l.filter λm=>!p m)*R) by obtain⟨⟨v',s'⟩,P5,hb2⟩:=hb;exact⟨v',s',P5,hb2⟩
  refine nw (Q:=λq=>∃(w:Nat)(cur:List Int)(y:AV),q.1=.exit 0/\q.2.1=[.ah (w:Int),y]/\w<=l.length/\cur.length=l.length/\cur.take w=l.filter (λm=>!p m)/\Hs aV au q.2.2 (Sl (fl aL) 1 v cur*R)) (kq (l.drop (k+1)) (λi vs s=>∃(w:Nat)(cur:List Int),vs=[.ah (w:Int),.ah ((k+1+i:Nat):Int)]/\w<=k+i/\cur.length=l.length/\cur.take w=(l.take (k+1+i)).filter (λm=>!p m)/\cur.drop (k+1+i)=l.drop (k+1+i)/\Hs aV au s (Sl (fl aL) 1 v cur*R)) ?_ ?_ ⟨k,l,rfl,by omega,rfl,yQ.symm,rfl,H⟩) ?_
  ·rintro i m vs s hx ⟨w,cur,rfl,q1,q2,q3,q4,K⟩;have hi:=(bG.1 hx).1;rw[aqT]at hi;rw[Zg]at hx
   have hc:cur[k+1+i]? =δ m:=by have:=congrArg (λz:List Int=>z[0]?) q4;simp only[Zg,Nat.add_zero]at this;rw[this,hx]
   have qg:(l.take (k+1+(i+1))).filter (λm=>!p m)=if p m=η then(l.take (k+1+i)).filter (λm=>!p m)else(l.take (k+1+i)).filter (λm=>!p m)++[m]:=by rw[<-kU,Z9,hx,YA,XI];simp only[Sn,List.filter_nil];cases p m<;>simp
   have C8:∀(z:List Int),z.drop (k+1+i)=l.drop (k+1+i)->z.drop (k+1+(i+1))=l.drop (k+1+(i+1)):=λz hz=>by have:=congrArg (List.drop 1) hz;rw[nH,nH]at this;rw[<-kU];exact this
   obtain⟨pm,f1,f2⟩:=EF K hc;simp only[bN,cW];rw[hlv,aO,anQ,aO,fF (by omega),zF,f1,aO,f2,aO,jS,aO,yc m (ct hx) s (eX K),aO,show ZR (.bool (p m))=δ (.bool (!p m))from rfl,aO];rw[qg];cases hp:p m
   ·obtain⟨y,hy⟩:∃y,cur[w]? =δ y:=⟨_,dg (by omega)⟩
    obtain⟨pp,s',e1,e2,K2⟩:=NR (m:=m) hy K;rw[show(!ι)=η from rfl,zF,e1,aO,show((ZS (.ah m)).bind λv=>δ [v])=δ (aL m)from rfl,aO,e2,aO,I7 (by omega),aO,aO];simp only[bN];rw[I7 (by omega),aO];refine⟨_,_,rfl,w+1,cur.set w m,by rw[kU],by omega,by rw[List.length_set];exact q2,?_,C8 _ (by rw[List.drop_set,aH (by omega)];exact q4),K2⟩;rw[aF (by decide),<-q3,Z9,kT (by omega),List.take_set_of_le (bR w)];rfl
   ·rw[show(!η)=ι from rfl,wo,aO];simp only[bN];rw[I7 (by omega),aO];exact⟨_,_,rfl,w,cur,by rw[kU],by omega,q2,by rw[aH trivial];exact q3,C8 cur q4,K⟩
  ·rintro vs s ⟨w,cur,rfl,q1,q2,q3,q4,K⟩;have lQ:k+1+(l.drop (k+1)).length=l.length:=by rw[aqT];omega
   have q1':w<=l.length:=by omega
   rw[lQ]at q3 q4 ⊢;rw[ZP]at q3;simp only[bN,cW];rw[hlv,aO,anQ,aO,gq (by omega),wo];exact⟨_,rfl,by simp,w,cur,_,rfl,rfl,q1',q2,q3,K⟩
  ·rintro⟨e,vs,s⟩ ⟨w,cur,y,h1',h2',q1,q2,q3,K⟩;simp only at h1' h2' K;subst h1';subst h2';simp only[Yk,bN];rcases oQ K with⟨hn,_,_⟩|⟨id,g,rfl,K9⟩
   ·subst hn;simp at q2;omega
   rcases oQ H with⟨hn,_,_⟩|⟨gU,g0,hv0,K0⟩
   ·subst hn;simp at rU
   have hid:id<σ.length:=by
    obtain⟨_,r2⟩:=eG K0;have:=(bG.1 r2).1;injection hv0 with j1 j2 j3 j4 j5
    omega
   obtain⟨_,r2⟩:=eG K9;have gf:(cur.map aL).length=cur.length:=by simp
   rw[Rb (ML r2 (by omega)) Ny (Nz (k:=w) (by omega)),aO];obtain⟨CK,jI⟩:∃c2,c2=cur.take w++ZB (cur.length-w) (0:Int):=⟨_,rfl⟩
   have o8:CK.length=cur.length:=by rw[jI];simp;omega
   have ht2:CK.take w=cur.take w:=by rw[jI,Rw (by simp;omega),List.take_take,Nat.min_self]
   have clr:∃s2,A.zB 1 [(ε 0)] (.os id g 1 (0+w) (cur.length-w)) s=δ s2/\Hs aV au s2 (blk id (.arr g 1 (CK.map aL))*R):=by
    by_cases hw:cur.length-w=0
    ·have e:CK=cur:=by rw[jI,hw,List.replicate_zero,TB,mR (by omega)]
     refine⟨s,?_,by rw[e];exact K9⟩;simp only[A.zB,r2];rw[aH (by simp;omega),aH hw]
    ·refine⟨s.set id (.arr g 1 (CK.map aL)),?_,qW K9 trivial⟩;simp only[A.zB,r2];rw[aH (by simp;omega),aF hw]
     have e:(cur.map aL).take (0+w)++ZB (cur.length-w) [(ε 0)]++(cur.map aL).drop (0+w+(cur.length-w))=CK.map aL:=by rw[Z3,show w+(cur.length-w)=cur.length by omega,apK (by simp),TB,jI,Zw,List.map_take,List.map_replicate];rfl
     rw[e]
   obtain⟨s2,e1,K3⟩:=clr;obtain⟨_,r3⟩:=eG K3;rw[e1,aO,Rb (ML r3 (by simp;omega)) (Nz (k:=w) (by simp;omega)) Ny,aO];obtain⟨v',s',e2,K4⟩:=TP (rS:=rS) (k:=w) hid (by omega) (by omega) (hg _ _ _) K3;rw[o8]at e2;refine⟨(v',s'),e2,?_⟩;rw[ht2,q3]at K4;exact K4
end
end
section
open HP
section
variable {au σ : Heap} {R : HP} {v : AV} {l : List Int}
def CW(l cur:List Int)(i:Nat):Prop:=cur.length=l.length/\∀k,k<l.length->cur[k]? =if k<i\/l.length<=k+i then l[l.length-1-k]? else l[k]?
theorem CW.fin{l cur:List Int}(h:CW l cur (l.length / 2)):cur=l.reverse:=by
 apply aqd;intro k;by_cases hk:k<l.length
 ·rw[h.2 k hk,List.getElem?_reverse hk];split
  ·rfl
  ·congr 1;omega
 ·rw[kD (by have:=h.1;omega),kD (by simp;omega)]
theorem CW.step{l cur:List Int}{i:Nat}{a b:Int}(h:CW l cur i)(hi:2*i+1<l.length)(ha:cur[i]? =δ a)(hb:cur[l.length-1-i]? =δ b):CW l ((cur.set i b).set (l.length-1-i) a) (i+1):=by
 have ha':l[i]? =δ a:=by rw[<-ha,h.2 i (by omega),aF (by omega)]
 have hb':l[l.length-1-i]? =δ b:=by rw[<-hb,h.2 _ (by omega),aF (by omega)]
 refine⟨by simp [h.1],λk hk=>?_⟩;by_cases h1:k=l.length-1-i
 ·rw[h1,kT (by simp [h.1];omega),aH (by omega),show l.length-1-(l.length-1-i)=i by omega,ha']
 ·rw[ZY (by omega)];by_cases h2:k=i
  ·rw[h2,kT (by rw[h.1];omega),aH (by omega),hb']
  ·rw[ZY (by omega),h.2 k hk];by_cases h3:k<i\/l.length<=k+i
   ·rw[aH h3,aH (by omega)]
   ·rw[aF h3,aF (by omega)]
theorem I6(hl:l.length<=1000000000000)(H:Hs aV au σ (Iv v l*R)):∃σ',vK [v] σ=δ (.aJ [],σ')/\Hs aV au σ' (Iv v l.reverse*R):=by
 have hlv:ZO v=δ (.ah (l.length:Int)):=IS H
 have EL:∃q,Zo ((λv3 s4=>
   (ZN (aj v3 0) (aj v3 1)).bind λx6=>
   ξ x6 (
    (Zp 1 v (aj v3 1)).bind λx7=>
    ((Γ x7 s4).bind λc8=>Δ 0 c8).bind λx9=>
    (Zp 1 v (aj v3 0)).bind λaY=>
    ((Γ aY s4).bind λdI=>Δ 0 dI).bind λbY=>
    (Zp 1 v (aj v3 0)).bind λbB=>
    ((ZS x9).bind λv=>δ [v]).bind λgB=>
    (ZX bB gB s4).bind λfS=>
    (Zp 1 v (aj v3 1)).bind λbM=>
    ((ZS bY).bind λv=>δ [v]).bind λjM=>
    (ZX bM jM fS).bind λgC=>
    (Zn (aj v3 0) (ε 1)).bind λcx=>
    (YR (aj v3 1) (ε 1)).bind λcM=>
    δ (Λ,[cx,cM],gC)) (
    δ (φ 0,[(aj v3 0),(aj v3 1)],s4)))) [.ah 0,.ah ((l.length:Int) -1)] σ=δ q/\(q.1=.exit 0/\Hs aV au q.2.2 (Iv v l.reverse*R)):=by
  refine kq (List.range (l.length / 2)) (λi w s=>w=[.ah (i:Int),.ah ((l.length:Int) -1-(i:Int))]/\∃cur,CW l cur i/\Hs aV au s (Iv v cur*R)) ?_ ?_ ⟨by simp,l,⟨rfl,λk hk=>by rw[aF (by omega)]⟩,H⟩
  ·rintro i x w s hx ⟨rfl,cur,hc,K⟩;have hi:=(bG.1 hx).1;rw[List.length_range]at hi;have gf:=hc.1;have hij:((l.length:Int) -1-(i:Int))=((l.length-1-i:Nat):Int):=by omega
   rw[hij];obtain⟨a,ha⟩:∃a,cur[i]? =δ a:=⟨_,dg (by omega)⟩
   obtain⟨b,hb⟩:∃b,cur[l.length-1-i]? =δ b:=⟨_,dg (by omega)⟩
   obtain⟨p1,f1,f2⟩:=EF K hb;obtain⟨p2,g1,g2⟩:=EF K ha;obtain⟨p3,s1,h1,h2,K1⟩:=NR (m:=b) ha K;obtain rfl:p2=p3:=aqr (g1.symm.trans h1);have P5:(cur.set i b)[l.length-1-i]? =δ b:=by rw[ZY (by omega)];exact hb
   obtain⟨p4,s2,h3,h4,K2⟩:=NR (m:=a) P5 K1;obtain rfl:p1=p4:=aqr (f1.symm.trans h3);have a1:ZN (.ah (i:Int)) (.ah ((l.length-1-i:Nat):Int))=δ (.bool η):=by rw[tJ,fF (by omega)]
   have a2:Zn (.ah (i:Int)) (.ah 1)=δ (.ah ((i+1:Nat):Int)):=agA (by omega)
   have a3:YR (.ah ((l.length-1-i:Nat):Int)) (.ah 1)=δ (.ah ((l.length:Int) -1-((i+1:Nat):Int))):=by rw[zP,dc (by unfold bE;omega)];congr 2;omega
   have c1:∀n:Int,((ZS (.ah n)).bind λv=>δ [v])=δ (aL n):=λ_=>rfl
   refine⟨_,s2,?_,rfl,_,hc.step (by omega) ha hb,K2⟩;simp only[bN,cW,a1,bS,cT,f1,f2,g1,g2,jS,c1,h2,h4,a2,a3]
  ·rintro w s ⟨rfl,cur,hc,K⟩;rw[List.length_range]at hc ⊢;have a1:ZN (.ah ((l.length / 2:Nat):Int)) (.ah ((l.length:Int) -1-((l.length / 2:Nat):Int)))=δ (.bool ι):=by rw[tJ,gq (by omega)]
   rw[hc.fin]at K;refine⟨(.exit 0,[.ah ((l.length / 2:Nat):Int),.ah ((l.length:Int) -1-((l.length / 2:Nat):Int))],s),?_,by simp,rfl,K⟩;simp only[bN,cW,a1,bS,cF]
 obtain⟨⟨qa,qv,s4⟩,e4,rfl,K⟩:=EL;refine⟨s4,?_,K⟩;have a0:YR (.ah (l.length:Int)) (.ah 1)=δ (.ah ((l.length:Int) -1)):=by rw[zP,dc (by unfold bE;omega)]
 have e:Br v σ=δ (.aJ [],s4):=by unfold Br;simp only[hlv,bS,a0,e4,kK]
 show Ξ ι [] .k (RV Br) [v] σ=_;unfold Ξ;rw[Xp,bk];show(Br v σ).map _=_;rw[e];rfl
theorem aiT(hl:l.length<=cu)(H:Hs aV au σ R):∃v σ',xC [sl 1 aL l] σ=δ (v,σ')/\ZS v=δ v/\Hs aV au σ' (Iv v l*R):=
 UU (r:=λ_ _=>μ) (most:=140737488355328 / 8) rfl (λ_ _=>rfl) (by unfold cu at hl;omega) (λ_ _ _ _=>trivial) H
theorem agE(hl:l.length<=cu)(h0:l≠[]):KS (Ξ η [(.s 1)] .k (RV G2)) [sl 1 aL l] aL 1 l:=by intro au σ R H;obtain⟨x,xs,rfl⟩:=List.exists_cons_of_ne_nil h0;obtain⟨v,σ',e,_,K⟩:=UU (r:=λ_ _=>μ) (B:=jH) (c:=aL) (sz:=1) (l:=x::xs) (most:=140737488355328 / 8) (m:=xC) rfl (λ_ _=>rfl) (by unfold cu at hl;omega) (aou (λ_=>rfl) _) H;exact⟨v,σ',e,K⟩
theorem aeK(hl:l.length<=cu)(H:Hs aV au σ (Iv v l*R)):∃v' σ',xC [v] σ=δ (v',σ')/\Hs aV au σ' (Iv v' l*(Iv v l*R)):=by
 rcases oQ H with⟨rfl,hv,K⟩|⟨id,g,rfl,K⟩
 ·refine⟨.ez,σ,?_,kO H (.inr rfl)⟩;rcases hv with rfl|rfl<;>rfl
 ·by_cases h0:l=[]
  ·subst h0;exact⟨.ez,σ,rfl,kO H (.inr rfl)⟩
  ·obtain⟨v',σ',e1,K1⟩:=yj (B:=aV) (λ_ _=>trivial) (cL:=[.s 1]) (r:=RV G2) (sL:=[.os id g 1 0 l.length]) (ts:=[sl 1 aL l]) ⟨xW pQ H,trivial⟩ (agE hl h0) H;refine⟨v',σ',?_,K1⟩
   obtain⟨n,hn⟩:∃n,l.length=n+1:=by
    cases h:l with
    |nil=>exact absurd h h0
    |cons b l=>exact⟨l.length,rfl⟩
   rw[hn]at e1 ⊢;exact e1
def iO:aq->List Int->HP:=λe x=>ex λh=>pr (e=[h])*Iv h x
theorem apu{B:aP->Prop}{e:aq}{x:List Int}(H:Hs B au σ (iO e x*R)):∃h,e=[h]/\Hs B au σ (Iv h x*R):=by obtain⟨h,H⟩:=WX.1 (show Hs B au σ (ex (λh=>pr (e=[h])*Iv h x)*R)from H);rw[sy,tv]at H;exact⟨h,H.1,H.2⟩
theorem VA{B:aP->Prop}{h:AV}{x:List Int}(H:Hs B au σ (Iv h x*R)):Hs B au σ (iO [h] x*R):=by refine(WX (P:=λh'=>pr ([h]=[h'])*Iv h' x)).2 ⟨h,?_⟩;rw[sy,tv];exact⟨rfl,H⟩
theorem agS{B:aP->Prop}{h:AV}{x:List Int}(H:Hs B au σ (Iv h x*R)){n:Nat}(hn:n<=au.length)(d:Nat):∃h',X0 σ n (d+1) h=δ h'/\ET (h',x.map aL):=by
 rcases oQ H with⟨rfl,hv,K⟩|⟨id,g,rfl,K⟩
 ·rcases hv with rfl|rfl
  ·exact⟨.aC,by simp [X0],rfl,λ_=>rfl,rfl⟩
  ·exact⟨.ez,by simp [X0],rfl,λ_=>rfl,rfl⟩
 ·obtain⟨h1,h2⟩:=eG K;exact⟨sl 1 aL x,IJ pQ h2 (by omega) d,by simp [sl,ZO],λ_=>by simp [sl,Vl],rfl⟩
theorem VB{B:aP->Prop}:∀{seg:List aq}{ls:List (List Int)}{R:HP},Hs B au σ (els iO seg ls*R)->∀{n:Nat},n<=au.length->∀(d:Nat),∃L:List tI,A.lG σ n (d+1) seg=δ (L.map wm)/\(∀p∈L,ET p)/\mX L=ls.flatten.map aL/\L.length=ls.length
 |[],[],R,H,n,hn,d=>⟨[],by simp [A.lG],(by simp),rfl,rfl⟩
 |[],_::_,R,H,n,hn,d=>(tv.1 H).1.elim
 |_::_,[],R,H,n,hn,d=>(tv.1 H).1.elim
 |e::seg,x::l,R,H,n,hn,d=>by
  rw[els,sy]at H;obtain⟨h,rfl,K⟩:=apu H;obtain⟨h',h1,h3⟩:=agS K hn d;obtain⟨L,k1,k2,k3,k4⟩:=VB (eX H) hn d;refine⟨(h',x.map aL)::L,by simp [A.lG,Xu,h1,k1,wm],λp hp=>?_,?_,by simp [k4]⟩
  ·rcases fA.1 hp with rfl|hp
   ·exact h3
   ·exact k2 p hp
  ·rw[mX,dH,Ul,Ul,Zw,<-k3]
theorem WH{va:AV}{ls:List (List Int)}(hl:ls.length<=bf)(hf:ls.flatten.length<=4398046511104)(H:Hs aV au σ (Sl iO 1 va ls*R)):∃v σ',Bs [va] σ=δ (v,σ')/\Hs aV au σ' (Iv v ls.flatten*(Sl iO 1 va ls*R)):=by
 rcases Ci H with⟨rfl,hv,K⟩|⟨id,g,seg,rfl,kN,K⟩
 ·obtain⟨v,σ',e,K1⟩:=Nf (L:=[]) (l:=[]) (by simp) (jK _) (jK _) rfl σ σ emp (Cz σ);obtain⟨v',aml,e',K2⟩:=aog (B:=aV) (λ_ _=>trivial) (Nf (L:=[]) (l:=[]) (by simp) (jK _) (jK _) rfl) H;refine⟨v',aml,?_,K2⟩;have h0:([va]:aq).any T5=ι:=by rcases hv with rfl|rfl<;>rfl
  exact(vY (args':=[sl 1 wm []]) (by rcases hv with rfl|rfl<;>rfl) h0 rfl).trans e'
 ·obtain⟨L,k1,k2,k3,k4⟩:=VB (cr (show _=els iO seg ls*(blk id (.arr g 1 seg)*R) by ac_rfl) K) (jK _) 6;obtain⟨_,h2⟩:=eG K
  have hfz:X0 σ 0 8 (.os id g 1 0 ls.length)=δ (sl 1 wm L):=by simp only[X0,aF (show ¬id<0 by omega),h2];rw[aH (by simp;omega),R6,mR (by omega),zx,k1];rfl
  exact yj (B:=aV) (λ_ _=>trivial) (cL:=[.s 1]) (r:=RV zc) (sL:=[.os id g 1 0 ls.length]) (ts:=[sl 1 wm L]) ⟨⟨⟨_,hfz,rfl,rfl⟩,rfl,λho=>by cases ho⟩,trivial⟩ (Nf k2 (by omega) hf k3) H
end
end
section
theorem Lc:∀(l:List aK)(x:aK),iL (l++[x])=iL l++jB x
 |[],x=>by simp [iL]
 |p::l,x=>by rw[kF,iL,iL,Lc l x,nG]
theorem TM(p:aK):jB p=(if p.kind=2\/p.kind=3 then[(p.kind,p.bg)]else[])++iL p.args:=by cases p;rw[jB];rfl
section
variable {S : Type} {dyn : Nat -> aq -> Heap -> aB} {c : AV} (I : S -> Heap -> Prop) (step : S -> Int × Int -> S)
theorem Na{sz:S->Nat}(hz:∀s x,sz (step s x)<=sz s+1):∀(l:List (Int×Int))(s:S),sz (l.foldl step s)<=sz s+l.length
 |[],s=>by simp
 |x::l,s=>by rw[Wv,ZT];have:=Na hz l (step s x);have:=hz s x;omega
theorem aa9(l:List aK)(i:Nat):(iL (l.take i)).length<=(iL l).length:=by
 have:∀(a b:List aK),iL (a++b)=iL a++iL b:=by
  intro a b;induction a with
  |nil=>simp [iL]
  |cons x a ih=>rw[kF,iL,iL,ih,nG]
 have h:=this (l.take i) (l.drop i);rw[Wq]at h;rw[h,PU];omega
theorem M5{sz:S->Nat}(N:Nat)(hz:∀s x,sz (step s x)<=sz s+1)(hstep:∀s kd nm σ,sz s<N->I s σ->∃v σ',A.nC dyn c [.ah kd,.ah nm] σ=δ (v,σ')/\I (step s (kd,nm)) σ'):∀(n:Nat)(p:aK)(σ:Heap)(s:S),eu p<=n->bH p<=mZ->sz s+(jB p).length<=N->I s σ->
  ∃σ',fuel (ur dyn) n 41 [.agg (aG p),c] σ=δ (.aJ [],σ')/\I ((jB p).foldl step s) σ'
 |0,p,σ,s,h,_,_,_=>by have:=B8 p;omega
 |n+1,p,σ,s,h,hs,hN,hI=>by
  rw[TM,PU]at hN;have hd:=IE h;have hr:fuel (ur dyn) (n+1) 41 [.agg (aG p),c] σ=(Ξ ι [] .k (T3 (zi (fuel (ur dyn) n) dyn))) [.agg (aG p),c] σ:=rfl
  have hw:∀σ',zi (fuel (ur dyn) n) dyn (.agg (aG p)) c σ=δ (.aJ [],σ')->(Ξ ι [] .k (T3 (zi (fuel (ur dyn) n) dyn))) [.agg (aG p),c] σ=δ (.aJ [],σ'):=by intro σ' e;unfold Ξ;rw[Xp,bk];show(zi (fuel (ur dyn) n) dyn (.agg (aG p)) c σ).map _=_;rw[e];rfl
  have rX:∃σ1,(ξ (.bool (decide (p.kind=2\/p.kind=3))) ((Δ 0 (aG p)).bind λx8=>(Δ 1 (aG p)).bind λx9=>(A.nC dyn c [x8,x9] σ).bind λfH=>δ ([(Z1 (aG p))],fH.2)) (δ ([(Z1 (aG p))],σ)))=δ ([(Z1 (aG p))],σ1)/\I ((if p.kind=2\/p.kind=3 then[(p.kind,p.bg)]else[]).foldl step s) σ1:=by
   by_cases hk:p.kind=2\/p.kind=3
   ·obtain⟨v,σ1,e1,h1⟩:=hstep s p.kind p.bg σ (by rw[aH hk,Zy]at hN;omega) hI;refine⟨σ1,?_,by rw[aH hk];exact h1⟩;rw[fF hk];rw[show Δ 0 (aG p)=δ (.ah p.kind) by rw[aA];rfl,show Δ 1 (aG p)=δ (.ah p.bg) by rw[aA];rfl];simp only[ξ,bz,aO,e1]
   ·refine⟨σ,?_,by rw[aF hk];exact hI⟩;rw[gq hk];rfl
  obtain⟨σ1,e1,h1⟩:=rX
  have EL:∃q,Zo ((λxy vH=>
   (ZN (aj xy 0) (.ah (p.args.length:Int))).bind λdw=>
   ξ dw (
    (Zp 4 (sl 4 aG p.args) (aj xy 0)).bind λcx=>
    ((Γ cx vH).bind λgD=>Z0 0 4 gD).bind λbO=>
    (Φ 4 bO).bind λlP=>
    (Zv 0 lP [(ε 0),(ε 0),(ε 0),ZK]).bind λjc=>
    (Z0 0 4 jc).bind λcS=>
    ((fuel (ur dyn) n) 41 [cS,c] vH).bind λoL=>
    (Zn (aj xy 0) (ε 1)).bind λdz=>
    δ (Λ,[dz],oL.2)) (
    δ (φ 0,[(aj xy 0)],vH)))) [.ah 0] σ1=δ q/\(∃u,q.1=.exit 0/\q.2.1=[u]/\I ((jB p).foldl step s) q.2.2):=by
   refine kq p.args (λi v σ=>v=[.ah (i:Int)]/\I ((iL (p.args.take i)).foldl step ((if p.kind=2\/p.kind=3 then[(p.kind,p.bg)]else[]).foldl step s)) σ) ?_ ?_ ⟨rfl,by simpa [iL]using h1⟩
   ·rintro i x v σ2 hx ⟨rfl,JA⟩;have hm:=ct hx;have Ge:=ZL (zm hm) hd
    obtain⟨σ3,e3,h3⟩:=M5 N hz hstep n x σ2 _ Ge (by have:=Ec hm;omega) (by
     have ht:p.args.take (i+1)=p.args.take i++[x]:=by rw[Z9,hx];rfl
     have h1:=aa9 p.args (i+1);rw[ht,Lc,PU]at h1;have h2:=Na step hz (iL (p.args.take i)) ((if p.kind=2\/p.kind=3 then[(p.kind,p.bg)]else[]).foldl step s);have h3:=Na step hz (if p.kind=2\/p.kind=3 then[(p.kind,p.bg)]else[]) s
     omega) JA
    refine⟨_,σ3,?_,rfl,by
     have ht:p.args.take (i+1)=p.args.take i++[x]:=by rw[Z9,hx];rfl
     rw[ht,Lc,VO];exact h3⟩
    have a1:ZN (.ah (i:Int)) (.ah (p.args.length:Int))=δ (.bool η):=dP hx;have a2:Zn (.ah (i:Int)) (.ah 1)=δ (.ah ((i+1:Nat):Int)):=dY hx (Cm hs);have a3:Zp 4 (sl 4 aG p.args) (.ah (i:Int))=δ (.rp (aG x)):=ey hx;simp only[bN,a1,a2,a3,bS,ξ,bz,je,vR,sY,qV _ _ (rfl:([(ε 0),(ε 0),(ε 0),ZK]:aq).length=4),e3]
   ·rintro v σ2 ⟨rfl,JA⟩;refine⟨(.exit 0,[.ah (p.args.length:Int)],σ2),?_,by simp,_,rfl,rfl,?_⟩
    ·simp only[bN,dX,bS,ξ,bk]
    ·rw[ZP]at JA;rw[TM,VO];exact JA
  obtain⟨⟨qa,qv,um⟩,e4,u,rfl,rfl,h4⟩:=EL;refine⟨um,hr.trans (hw _ ?_),h4⟩;unfold zi;have g0:Δ 0 (aG p)=δ (.ah p.kind):=by rw[aA];rfl
  have k1:Δ 3 (aG p)=δ (sl 4 aG p.args):=by rw[aA];rfl
  by_cases hk:p.kind=2
  ·have hk':decide (p.kind=2\/p.kind=3)=η:=fF (.inl hk);rw[hk']at e1;simp only[g0,bS]at e1;simp only[sY,bS,g0,ef,fF hk,gFx,Gq,e1,bN,vn,k1,cy,e4,kK]
  ·have hk':decide (p.kind=2\/p.kind=3)=decide (p.kind=3):=by simp [hk]
   rw[hk']at e1;simp only[g0,bS]at e1;simp only[sY,bS,g0,ef,gq hk,gF,QV,e1,bN,vn,k1,cy,e4,kK]
end
end
section
def rJ(σ:Heap)(lo hi:Nat)(v:AV)(xs:List Int):Prop:=(v=.aC/\xs=[])\/∃id g,v=.os id g 1 0 xs.length/\lo<=id/\id<hi/\σ[id]? =δ (.arr g 1 (xs.map aL))/\xs≠[]
theorem rJ.mono{σ σ':Heap}{lo hi lo' hi':Nat}{v:AV}{xs:List Int}(h:rJ σ lo hi v xs)(h1:lo'<=lo)(h2:hi<=hi')(hk:∀i,lo<=i->i<hi->σ'[i]? =σ[i]?):rJ σ' lo' hi' v xs:=by
 rcases h with h|⟨id,g,e,a,b,c,d⟩
 ·exact .inl h
 ·exact .inr ⟨id,g,e,by omega,by omega,by rw[hk id a b];exact c,d⟩
theorem rJ.bA{σ:Heap}{lo hi n:Nat}{v:AV}{xs:List Int}(h:rJ σ lo hi v xs)(hn:n<=lo)(d:Nat):X0 σ n (d+1) v=δ (mA 1 aL xs):=by
 rcases h with⟨rfl,rfl⟩|⟨id,g,rfl,a,b,c,e⟩
 ·exact VX σ n (d+1)
 ·rw[an2 e];simp only[X0,Nat.not_lt.2 (ZL hn a),if_false,c];rw[aH (by simp),zx,R6,mR (by simp),Je pQ];rfl
theorem VN{σ:Heap}{lo hi:Nat}{v:AV}{xs:List Int}{x:Int}(h:rJ σ lo hi v xs)(hlo:lo<=hi)(hhi:hi<=σ.length)(hm:xs.length+1<=cu):∃v' σ',ZI 1 (140737488355328 / 8) v (.sl 1 [[.ah x]]) σ=δ (v',σ')/\rJ σ' lo (σ'.length) v' (xs++[x])/\σ.length<=σ'.length/\(∀i,i<lo->i<σ.length->σ'[i]? =σ[i]?):=by
 rcases h with⟨rfl,rfl⟩|⟨id,g,rfl,a,b,c,e⟩
 ·refine⟨.os σ.length 1 1 0 1,σ++[.arr 1 1 [[.ah x]]],rfl,.inr ⟨σ.length,1,rfl,by omega,by simp,by simp [aL],by simp⟩,by simp,λi h1 h2=>by rw[gZ h2]⟩
 ·refine⟨.os id (g+1) 1 0 (xs.length+1),σ.set id (.arr (g+1) 1 (xs.map aL++[[.ah x]])),?_,.inr ⟨id,g+1,by simp,a,by simp;omega,?_,by simp⟩,by simp,λi h1 h2=>?_⟩
  ·unfold cu at hm;have e1:Vl 1 (.sl 1 [[.ah x]]) σ=δ [[.ah x]]:=rfl;simp only[ZI,e1,aO,A.kS,c];rw[aH (by simp;omega),aF (by simp),aF (by simp),R6,mR (by simp)];simp
  ·rw[kT (by omega)];simp [aL]
  ·rw[ZY (by omega)]
def pV(σ:Heap)(lo hi:Nat):List (Int×AV)->List bl->Prop
 |[],[]=>True
 |p::E,g::l=>p.1=g.aE/\rJ σ lo hi p.2 (eN 2 g.pick)/\pV σ lo hi E l
 |_,_=>False
theorem pV.mono{σ σ':Heap}{lo hi hi':Nat}(h2:hi<=hi')(hk:∀i,lo<=i->i<hi->σ'[i]? =σ[i]?):∀{E:List (Int×AV)}{l:List bl},pV σ lo hi E l->pV σ' lo hi' E l
 |[],[],_=>trivial
 |p::E,g::l,h=>⟨h.1,h.2.1.mono (bR _) h2 hk,h.2.2.mono h2 hk⟩
 |[],_::_,h=>h.elim
 |_::_,[],h=>h.elim
theorem pV.snoc{σ:Heap}{lo hi:Nat}{p:Int×AV}{g:bl}(h1:p.1=g.aE)(h2:rJ σ lo hi p.2 (eN 2 g.pick)):∀{E:List (Int×AV)}{l:List bl},pV σ lo hi E l->pV σ lo hi (E++[p]) (l++[g])
 |[],[],_=>⟨h1,h2,trivial⟩
 |q::E,x::l,h=>⟨h.1,h.2.1,h.2.2.snoc h1 h2⟩
 |[],_::_,h=>h.elim
 |_::_,[],h=>h.elim
theorem pV.keys{σ:Heap}{lo hi:Nat}:∀{E:List (Int×AV)}{l:List bl},pV σ lo hi E l->E.map (·.1)=l.map bl.aE
 |[],[],_=>rfl
 |p::E,g::l,h=>by rw[dH,dH,h.1,h.2.2.keys]
 |[],_::_,h=>h.elim
 |_::_,[],h=>h.elim
def gp(l:List bl):List (Int×List Int):=l.map λg=>(g.aE,eN 2 g.pick)
abbrev eI(E:List (Int×AV)):List (AV×AV):=E.map λp=>(.ah p.1,p.2)
theorem aho(k:Int)(E:List (Int×AV)):ZE .i (.ah k) (eI E)=δ (bh k E):=
 (uN (eK:=λx:Int=>ε x) (eV:=id) (nj _) k E).trans (by simp)
theorem X1(k:Int)(v:AV)(E:List (Int×AV)):A.upd .i (.ah k) v (eI E)=δ (eI (e9 k v E)):=ym (eK:=λx:Int=>ε x) (eV:=id) (nj _) k v E
theorem pV.bA{σ:Heap}{lo hi n:Nat}(hn:n<=lo)(d:Nat):∀{E:List (Int×AV)}{l:List bl},pV σ lo hi E l->A.tu σ n (d+1) (eI E)=δ ((gp l).map λp=>(.ah p.1,mA 1 aL p.2))
 |[],[],_=>by simp [A.tu,gp]
 |p::E,g::l,h=>by have h1:=h.2.1.bA hn d;have h2:=h.2.2.bA hn d;have h3:X0 σ n (d+1) (.ah p.1)=δ (.ah p.1):=th _ _ σ n (d+1);simp only[eI,dH,A.tu,h3,h1,aO,gp]at h2 ⊢;rw[h2,h.1];rfl
 |[],_::_,h=>h.elim
 |_::_,[],h=>h.elim
theorem aow{ν:Type}{k:Int}{v:ν}:∀{E:List (Int×ν)},k∉E.map (·.1)->bh k (E++[(k,v)])=δ v
 |[],_=>by simp [bh]
 |p::E,h=>by simp only[dH,fA,not_or]at h;rw[kF,bh,aF h.1,aow h.2]
theorem apc{ν:Type}{k:Int}{v v':ν}:∀{E:List (Int×ν)},k∉E.map (·.1)->e9 k v' (E++[(k,v)])=E++[(k,v')]
 |[],_=>by simp [e9]
 |p::E,h=>by simp only[dH,fA,not_or]at h;rw[kF,e9,aF h.1,apc h.2];rfl
theorem Il{ν:Type}{k:Int}{v:ν}:∀{E:List (Int×ν)},k∉E.map (·.1)->e9 k v E=E++[(k,v)]
 |[],_=>by simp [e9]
 |p::E,h=>by simp only[dH,fA,not_or]at h;rw[e9,aF h.1,Il h.2];rfl
structure UI (au : Heap) (E : List (Int × AV)) (done : List bl) (g : bl) (b : Nat) (xs : List Int) (σ : Heap) : Prop where
 pre:σ.take au.length=au
 len:b<σ.length
 lo:au.length+2<=b
 map:∃v,σ[au.length]? =δ (.map (eI (E++[(g.aE,v)])))/\rJ σ (b+1) σ.length v xs
 Yj:pV σ (au.length+2) b E done
 box:σ[au.length+1]? =δ (.box [.om au.length])
 YC:σ[b]? =δ (.box (bw g))
 new:g.aE∉E.map (·.1)
def zK(xs:List Int)(p:Int×Int):List Int:=if p.1=2 then xs++[p.2]else xs
theorem Te:∀(l:List (Int×Int))(xs:List Int),l.foldl zK xs=xs++(l.filter λp=>decide (p.1=2)).map (·.2)
 |[],xs=>by simp
 |p::l,xs=>by rw[Wv,Te l];by_cases h:p.1=2<;>simp [zK,h]
mutual
theorem SO:∀p:aK,((jB p).filter λx=>decide (x.1=2)).map (·.2)=eN 2 p
 |.mk k f t l=>by
  rw[jB,eN,XI,Zw,So l];congr 1;by_cases h:k=2
  ·simp [h]
  ·by_cases h3:k=3<;>simp [h,h3]
theorem So:∀l:List aK,((iL l).filter λx=>decide (x.1=2)).map (·.2)=lF 2 l
 |[]=>by simp [iL,lF]
 |p::l=>by rw[iL,lF,XI,Zw,SO p,So l]
end
theorem afg{σ au:Heap}(h:σ.take au.length=au):∀i,i<au.length->σ[i]? =au[i]? :=λi hi=>by have:=congrArg (λl=>l[i]?) h;simp only[Vj,hi,if_true]at this;exact this
theorem HR{σ σ' au:Heap}(h:σ.take au.length=au)(hk:∀i,i<au.length->σ'[i]? =σ[i]?):σ'.take au.length=au:=by
 apply aqd;intro i;by_cases hi:i<au.length
 ·rw[Vj,aH hi,hk i hi,afg h i hi]
 ·rw[Vj,aF hi,kD (by omega)]
theorem ahp{au:Heap}{E:List (Int×AV)}{done:List bl}{g:bl}{b:Nat}{xs:List Int}(kd nm:Int){σ:Heap}(hm:xs.length+1<=cu)(H:UI au E done g b xs σ):∃v σ',A.nC (Z5 (λ_ _=>μ) [(40,uo)]) (.fn 40 [.op (au.length+1) 0,.op b 0]) [.ah kd,.ah nm] σ=δ (v,σ')/\UI au E done g b (zK xs (kd,nm)) σ':=by
 have hw:∀σ',Bw (.ah kd) (.ah nm) (.op (au.length+1) 0) (.op b 0) σ=δ (.aJ [],σ')->A.nC (Z5 (λ_ _=>μ) [(40,uo)]) (.fn 40 [.op (au.length+1) 0,.op b 0]) [.ah kd,.ah nm] σ=δ (.aJ [],σ'):=by intro σ' e;show Ξ ι [] .k (A.oF G5) [.ah kd,.ah nm,.op (au.length+1) 0,.op b 0] σ=_;unfold Ξ;rw[Xp,bk];show(Bw (.ah kd) (.ah nm) (.op (au.length+1) 0) (.op b 0) σ).map _=_;rw[e];rfl
 by_cases hk:kd=2
 ·obtain⟨v,hmap,hv⟩:=H.map;have hlen:=H.len;have hlo:=H.lo;obtain⟨v',σ1,e1,h1,h2,h3⟩:=VN (x:=nm) hv (by omega) (bR _) hm;have g1:∀i,i<=b->σ1[i]? =σ[i]? :=λi hi=>h3 i (by omega) (by omega)
  have d1:Γ (.op (au.length+1) 0) σ=δ [.om au.length]:=by simp [Γ,H.box]
  have d2:Γ (.op b 0) σ=δ (bw g):=by simp [Γ,H.YC]
  have f2:SN 0 (.op b 0)=δ (.op b 0):=rfl
  have l1:ZJ .i (.om au.length) (.ah g.aE) .aC σ=δ v:=by
   have:ZE .i (.ah g.aE) (eI (E++[(g.aE,v)]))=δ (δ v):=by rw[aho,aow H.new]
   simp only[ZJ,A.fP,bz,R2,hmap,aO,this,ff,Sk]
  have u1:Uj .i (.om au.length) (.ah g.aE) v' σ1=δ (σ1.set au.length (.map (eI (E++[(g.aE,v')])))):=by
   have:A.upd .i (.ah g.aE) v' (eI (E++[(g.aE,v)]))=δ (eI (E++[(g.aE,v')])):=by rw[X1,apc H.new]
   simp only[Uj,A.fP,bz,g1 au.length (by omega),hmap,this,ff]
  refine⟨.aJ [],σ1.set au.length (.map (eI (E++[(g.aE,v')]))),hw _ ?_,?_⟩
  ·unfold Bw;have c1:(((ZS (.ah nm)).bind λv=>δ [v]).bind λgB=>(Zv 0 gB [(ε 0)]).bind λfS=>δ fS).bind (λcs=>δ (U0 1 (dW 1 1 cs)))=δ (.sl 1 [[.ah nm]]):=rfl;have p1:Δ 0 (bw g)=δ (.ah g.aE):=rfl;have p2:Δ 0 [V9 au.length]=δ (.om au.length):=rfl;simp only[ef,bS,fF hk,ξ,bz,d1,d2,f2,p1,p2,l1,c1,e1,u1]
  ·have hs:∀i,i≠au.length->(σ1.set au.length (.map (eI (E++[(g.aE,v')]))))[i]? =σ1[i]? :=λi hi=>by rw[ZY (by omega)]
   refine⟨HR H.pre λi hi=>by rw[hs i (by omega),g1 i (by omega)],by simp;omega,H.lo,⟨v',?_,?_⟩,?_,?_,?_,H.new⟩
   ·rw[kT (by omega)]
   ·rw[zK,aH hk];exact h1.mono (bR _) (by simp) λi a _=>hs i (by omega)
   ·exact H.Yj.mono (bR _) λi a c=>by rw[hs i (by omega),g1 i (by omega)]
   ·rw[hs _ (by omega),g1 _ (by omega)];exact H.box
   ·rw[hs _ (by omega),g1 _ (by omega)];exact H.YC
 ·refine⟨.aJ [],σ,hw _ ?_,by rw[zK,aF hk];exact H⟩;unfold Bw;simp only[ef,bS,gq hk,ξ,bk]
mutual
theorem aoK:∀p:aK,(jB p).length<=bH p
 |.mk k f t l=>by rw[jB,bH,PU];have:=aoz l;split<;>simp<;>omega
theorem aoz:∀l:List aK,(iL l).length<=eo l
 |[]=>by simp [iL,eo]
 |p::l=>by rw[iL,eo,PU];have:=aoK p;have:=aoz l;omega
end
theorem ag9(l:List bl)(hn:(l.map bl.aE).Nodup)(hs:∀g∈l,bH g.pick<=2000000)(hl:l.length<=bf)(au:Heap):LB [sl 5 bw l] au=δ (iy (λx=>ε x) (mA 1 aL) (gp l),au):=by
 refine wrap_eq rfl ?_ rfl;show Ht (sl 5 bw l) au=_
 have EL:∃q,Zo ((λv4 s5=>
   (ZN (aj v4 0) (.ah (l.length:Int))).bind λx7=>
   ξ x7 (
    (Zp 5 (sl 5 bw l) (aj v4 0)).bind λx8=>
    ((Γ x8 s5).bind λc9=>Z0 0 5 c9).bind λaY=>
    (Φ 5 aY).bind λdI=>
    (ZX (UX s5.length 0) dI (s5++[apF [(ε 0),(ε 0),(ε 0),(ε 0),ZK]])).bind λb9=>
    ((Γ (UX (au.length+1) 0) b9).bind λiw=>Δ 0 iw).bind λcI=>
    (SN 0 (UX s5.length 0)).bind λbQ=>
    ((Γ bQ b9).bind λiQ=>Δ 0 iQ).bind λcv=>
    (Uj .i cI cv ZK b9).bind λAI=>
    (SN 1 (UX s5.length 0)).bind λcx=>
    ((Γ cx AI).bind λgD=>Z0 0 4 gD).bind λbO=>
    (xD (Z5 (λ_ _=>μ) [(40,uo)]) [bO,(AV.fn 40 [(UX (au.length+1) 0),(UX s5.length 0)])] AI).bind λig=>
    (Zn (aj v4 0) (ε 1)).bind λcA=>
    δ (Λ,[cA],ig.2)) (
    δ (φ 0,[(aj v4 0)],s5)))) [.ah 0] (au++[.map [],.box [.om au.length]])=δ q/\(q.1=.exit 0/\∃E,q.2.2.take au.length=au/\au.length<q.2.2.length/\q.2.2[au.length]? =δ (.map (eI E))/\q.2.2[au.length+1]? =δ (.box [.om au.length])/\pV q.2.2 (au.length+2) q.2.2.length E l):=by
  refine kq l (λi v σ=>v=[.ah (i:Int)]/\∃E,σ.take au.length=au/\au.length+2<=σ.length/\σ[au.length]? =δ (.map (eI E))/\σ[au.length+1]? =δ (.box [.om au.length])/\pV σ (au.length+2) σ.length E (l.take i)) ?_ ?_ ⟨rfl,[],by simp,by simp,by simp,by simp,trivial⟩
  ·rintro i x v σ hx ⟨rfl,E,h1,h2,h3,h4,h5⟩;have hm:=ct hx;have ht:l.take (i+1)=l.take i++[x]:=by rw[Z9,hx];rfl
   have hnew:x.aE∉E.map (·.1):=by
    rw[h5.keys];intro hmem;have hi:=(bG.1 hx).1;have e1:l.map bl.aE=(l.take i).map bl.aE++(l.drop i).map bl.aE:=by rw[<-Zw,Wq]
    rw[e1]at hn;have h7:x.aE∈(l.drop i).map bl.aE:=i6.2 ⟨x,by rw[Ss hi,(bG.1 hx).2];simp,rfl⟩;exact(List.nodup_append.1 hn).2.2 _ hmem _ h7 rfl
   let σ1:Heap:=σ++[.box (bw x)]
   let σ2:Heap:=σ1.set au.length (.map (eI (E++[(x.aE,.aC)])))
   have kM:∀j,j≠au.length->σ2[j]? =σ1[j]? :=λj hj=>ZY (by omega)
   have AQ:∀j,j<σ.length->σ1[j]? =σ[j]? :=λj hj=>gZ hj
   have rV:σ1.length=σ.length+1:=by simp [σ1]
   have o8:σ2.length=σ.length+1:=by simp [σ2,rV]
   have I0:UI au E (l.take i) x σ.length [] σ2:=by
    refine⟨HR h1 λj hj=>by rw[kM j (by omega),AQ j (by omega)],by omega,by omega,⟨.aC,?_,.inl ⟨rfl,rfl⟩⟩,?_,?_,?_,hnew⟩
    ·exact kT (by omega)
    ·exact h5.mono (bR _) λj a b=>by rw[kM j (by omega),AQ j b]
    ·rw[kM _ (by omega),AQ _ (by omega)];exact h4
    ·rw[kM _ (by omega)];simp [σ1]
   have hbd:(jB x.pick).length<=2000000:=ZL (aoK x.pick) (hs x hm);obtain⟨σ3,e3,s3⟩:=M5 (dyn:=Z5 (λ_ _=>μ) [(40,uo)]) (c:=.fn 40 [.op (au.length+1) 0,.op σ.length 0]) (UI au E (l.take i) x σ.length) zK (sz:=Ym) 2000000 (λs x=>by unfold zK;split<;>simp) (λs kd nm σ' hs hI=>ahp kd nm (by unfold cu;omega) hI) 2000000 x.pick σ2 [] (ZL (xI _) (hs x hm)) (ZL (hs x hm) (by decide)) (by simpa using hbd) I0;rw[Te,SO,YU]at s3;obtain⟨v3,m3,n3⟩:=s3.map
   refine⟨_,σ3,?_,rfl,E++[(x.aE,v3)],s3.pre,by have:=s3.len;omega,m3,s3.box,by
    rw[ht]
    exact pV.snoc rfl (n3.mono (by omega) (bR _) λ_ _ _=>rfl) (s3.Yj.mono (Nat.le_of_lt s3.len) λ_ _ _=>rfl)⟩
   have a1:ZN (.ah (i:Int)) (.ah (l.length:Int))=δ (.bool η):=dP hx;have a2:Zn (.ah (i:Int)) (.ah 1)=δ (.ah ((i+1:Nat):Int)):=dY hx hl;have a3:Zp 5 (sl 5 bw l) (.ah (i:Int))=δ (.rp (bw x)):=ey hx;have p1:Z0 0 5 (bw x)=δ (.agg (bw x)):=rfl;have p2:Φ 5 (.agg (bw x))=δ (bw x):=rfl;have p3:Z0 0 4 ((bw x).drop 1)=δ (.agg (aG x.pick)):=by rw[DS];exact vR _
   have s1:ZX (.op σ.length 0) (bw x) (σ++[.box [(ε 0),(ε 0),(ε 0),(ε 0),ZK]])=δ σ1:=by simp [ZX,Zv,Sz,σ1]
   have d1:Γ (.op (au.length+1) 0) σ1=δ [.om au.length]:=by
    have:σ1[au.length+1]? =δ (.box [.om au.length]):=by rw[AQ _ (by omega)];exact h4
    simp [Γ,this]
   have d2:Γ (.op σ.length 0) σ1=δ (bw x):=by simp [Γ,σ1]
   have d3:Γ (.op σ.length 1) σ2=δ ((bw x).drop 1):=by
    have:σ2[σ.length]? =δ (.box (bw x)):=by rw[kM _ (by omega)];simp [σ1]
    simp [Γ,this]
   have u1:Uj .i (.om au.length) (.ah x.aE) .aC σ1=δ σ2:=by
    have:σ1[au.length]? =δ (.map (eI E)):=by rw[AQ _ (by omega)];exact h3
    simp only[Uj,A.fP,bz,this,X1,Il hnew,ff];rfl
   have f1:SN 0 (.op σ.length 0)=δ (.op σ.length 0):=rfl;have f2:SN 1 (.op σ.length 0)=δ (.op σ.length 1):=rfl;have q1:Δ 0 [V9 au.length]=δ (.om au.length):=rfl;have q2:Δ 0 (bw x)=δ (.ah x.aE):=rfl;have hm0:xD (Z5 (λ_ _=>μ) [(40,uo)])=fuel (ur (Z5 (λ_ _=>μ) [(40,uo)])) 2000000 41:=rfl;rw[<-hm0]at e3;simp only[bN,a1,a2,a3,bS,ξ,bz,je,p1,p2,s1,d1,d2,q1,q2,f1,u1,f2,d3,p3,e3]
  ·rintro v σ ⟨rfl,E,h1,h2,h3,h4,h5⟩;rw[ZP]at h5;refine⟨(.exit 0,[.ah (l.length:Int)],σ),?_,by simp,rfl,E,h1,qB (by omega) h2,h3,h4,h5⟩;simp only[bN,dX,bS,ξ,bk]
 obtain⟨⟨qa,qv,um⟩,e4,rfl,E,h1,h2,h3,h4,h5⟩:=EL;have c1:((ZS (V9 au.length)).bind λv=>δ [v])=δ [.om au.length]:=rfl
 have s1:ZX (UX (au++[ZH []]).length 0) [.om au.length] ((au++[ZH []])++[apF [AV.nm]])=δ (au++[.map [],.box [.om au.length]]):=by simp [ZX,Zv]
 have d1:Γ (.op (au.length+1) 0) um=δ [.om au.length]:=by simp [Γ,h4]
 have q1:Δ 0 [V9 au.length]=δ (.om au.length):=rfl
 have hz:wh au (.om au.length) um=δ (iy (λx=>ε x) (mA 1 aL) (gp l),au):=by unfold wh;rw[aF (λe=>by rw[e]at h2;simp at h2),aH h1];simp only[X0,Nat.lt_irrefl,if_false,h3];rw[h5.bA (by omega) 6];rfl
 unfold Ht;rw[show(au++[ZH []]).length=au.length+1 by simp]at *
 simp only[c1,bS,s1,cy,e4,kK,d1,q1,hz];rfl
end
section
inductive mB (f : Int -> List Int) (a : Int) : Int -> Prop where
 |one{b:Int}(h:b∈f a):mB f a b
 |step{b c:Int}(h:mB f a b)(k:c∈f b):mB f a c
def jk(V seen:List Int):Nat:=(V.filter λx=>decide (x∉seen)).length
theorem uS(V seen:List Int):jk V seen<=V.length:=Wf _ _
theorem VG{k:Int}:∀(V seen:List Int),jk V (seen++[k])<=jk V seen
 |[],seen=>bR _
 |x::V,seen=>by
  have:=VG (k:=k) V seen;unfold jk at this ⊢;simp only[Sn];by_cases h:x∈seen
  ·rw[aF (by simp [h]),aF (by simp [h])];exact this
  ·by_cases hk:x=k
   ·rw[aF (by simp [hk]),aH (by simp [h]),ZT];omega
   ·rw[aH (by simp [h,hk]),aH (by simp [h]),ZT,ZT];omega
theorem zE{k:Int}:∀{V seen:List Int},k∈V->k∉seen->jk V (seen++[k])<jk V seen
 |x::V,seen,h,hn=>by
  have hs:=VG (k:=k) V seen;by_cases hk:x=k
  ·unfold jk at hs ⊢;simp only[Sn];rw[aF (by simp [hk]),aH (by simp [hk,hn]),ZT];omega
  ·have:=zE (V:=V) (by simpa [Ne.symm hk]using h) hn;unfold jk at this ⊢;simp only[Sn];by_cases h:x∈seen
   ·rw[aF (by simp [h]),aF (by simp [h])];exact this
   ·rw[aH (by simp [h,hk]),aH (by simp [h]),ZT,ZT];omega
structure gA (f : Int -> List Int) (V : List Int) (a : Int) (cur : Option (Int × List Int)) (st seen : List Int) : Prop where
 sound:∀n∈seen,mB f a n
 known:∀n∈st,n=a\/n∈seen
 all:∀n,(n=a\/n∈seen)->n∈st\/(∀k∈f n,k∈seen)\/∃xs ys,cur=δ (n,ys)/\f n=xs++ys/\∀k∈xs,k∈seen
 AG:st.length+jk V seen<=V.length+1
 here:∀n ys,cur=δ (n,ys)->(n=a\/n∈seen)/\∀k∈ys,k∈f n
section
variable {f : Int -> List Int} {V : List Int} {a : Int} {st st' seen : List Int} {n k : Int} {r : List Int}
theorem gA.start:gA f V a μ [a] []:=
 ⟨λ_ h=>by simp at h,λn h=>by simpa using h,λn h=>.inl (by simpa using h),by have:=uS V [];simp;omega,λ_ _ h=>by cases h⟩
theorem gA.pop(H:gA f V a μ st seen)(hm:∀x,x∈st↔x=n\/x∈st')(hl:st.length=st'.length+1):gA f V a (δ (n,f n)) st' seen:=by
 refine⟨H.sound,λx h=>H.known x ((hm x).2 (.inr h)),λx h=>?_,by have:=H.AG;omega,λx ys e=>?_⟩
 ·rcases H.all x h with h1|h1|⟨xs,ys,e,_⟩
  ·rcases(hm x).1 h1 with rfl|h2
   ·exact .inr (.inr ⟨[],f x,rfl,rfl,by simp⟩)
   ·exact .inl h2
  ·exact .inr (.inl h1)
  ·cases e
 ·injection e with e;injection e with e1 e2;subst e1;subst e2
  exact⟨H.known _ ((hm _).2 (.inl rfl)),λk h=>h⟩
theorem gA.skip(H:gA f V a (δ (n,k::r)) st seen)(hk:k∈seen):gA f V a (δ (n,r)) st seen:=by
 refine⟨H.sound,H.known,λx h=>?_,H.AG,λx ys e=>?_⟩
 ·rcases H.all x h with h1|h1|⟨xs,ys,e,h2,h3⟩
  ·exact .inl h1
  ·exact .inr (.inl h1)
  ·injection e with e;injection e with e1 e2;subst e1;subst e2
   exact .inr (.inr ⟨xs++[k],r,rfl,by rw[h2];simp,λy hy=>by rcases fB.1 hy with h|h;exact h3 y h;rw[Yg.1 h];exact hk⟩)
 ·injection e with e;injection e with e1 e2;subst e1;subst e2
  obtain⟨h1,h2⟩:=H.here n (k::r) rfl;exact⟨h1,λy hy=>h2 y (by simp [hy])⟩
theorem gA.push(H:gA f V a (δ (n,k::r)) st seen)(hk:k∉seen)(hV:k∈V):gA f V a (δ (n,r)) (st++[k]) (seen++[k]):=by
 obtain⟨h1,h2⟩:=H.here n (k::r) rfl;have hf:k∈f n:=h2 k (by simp)
 have hkr:mB f a k:=by
  rcases h1 with rfl|h1
  ·exact .one hf
  ·exact .step (H.sound n h1) hf
 refine⟨λx h=>?_,λx h=>?_,λx h=>?_,?_,λx ys e=>?_⟩
 ·rcases fB.1 h with h|h
  ·exact H.sound x h
  ·rw[Yg.1 h];exact hkr
 ·rcases fB.1 h with h|h
  ·rcases H.known x h with h|h
   ·exact .inl h
   ·exact .inr (by simp [h])
  ·rw[Yg.1 h];exact .inr (by simp)
 ·by_cases hx:x=k
  ·exact .inl (by simp [hx])
  ·have:x=a\/x∈seen:=by
    rcases h with h|h
    ·exact .inl h
    ·rcases fB.1 h with h|h
     ·exact .inr h
     ·exact absurd (Yg.1 h) hx
   rcases H.all x this with h1|h1|⟨xs,ys,e,h4,h3⟩
   ·exact .inl (by simp [h1])
   ·exact .inr (.inl λy hy=>by simp [h1 y hy])
   ·injection e with e;injection e with e1 e2;subst e1;subst e2
    exact .inr (.inr ⟨xs++[k],r,rfl,by rw[h4];simp,λy hy=>by rcases fB.1 hy with h|h;simp [h3 y h];rw[Yg.1 h];simp⟩)
 ·have:=zE hV hk;have:=H.AG;simp;omega
 ·injection e with e;injection e with e1 e2;subst e1;subst e2
  exact⟨by rcases h1 with h|h;exact .inl h;exact .inr (by simp [h]),λy hy=>h2 y (by simp [hy])⟩
theorem gA.done(H:gA f V a (δ (n,[])) st seen):gA f V a μ st seen:=by
 refine⟨H.sound,H.known,λx h=>?_,H.AG,λx ys e=>by cases e⟩;rcases H.all x h with h1|h1|⟨xs,ys,e,h4,h3⟩
 ·exact .inl h1
 ·exact .inr (.inl h1)
 ·injection e with e;injection e with e1 e2;subst e1;subst e2
  exact .inr (.inl λk hk=>h3 k (by rw[h4]at hk;simpa using hk))
theorem gA.fin(H:gA f V a μ [] seen)(x:Int):x∈seen↔mB f a x:=by
 refine⟨H.sound x,λh=>?_⟩
 have cl:∀y,(y=a\/y∈seen)->∀k∈f y,k∈seen:=λy hy=>by
  rcases H.all y hy with h1|h1|⟨_,_,e,_⟩
  ·simp at h1
  ·exact h1
  ·cases e
 induction h with
 |one h=>exact cl a (.inl rfl) _ h
 |step h k ih=>exact cl _ (.inr ih) _ k
end
def nJ(σ:Heap)(id:Nat)(v:AV)(st:List Int):Prop:=∃g off es,v=.os id g 1 off st.length/\σ[id]? =δ (.arr g 1 es)/\off+st.length<=es.length/\(es.drop off).take st.length=st.map aL
section
variable {σ : Heap} {id : Nat} {v : AV} {st : List Int} {n x : Int}
theorem nJ.len(H:nJ σ id v st):ZO v=δ (.ah (st.length:Int)):=by obtain⟨g,off,es,rfl,_⟩:=H;rfl
theorem nJ.at(H:nJ σ id v st){i:Nat}(h:st[i]? =δ x):∃p,Zp 1 v (.ah (i:Int))=δ p/\Γ p σ=δ (aL x):=by
 obtain⟨g,off,es,rfl,h1,h2,h3⟩:=H;have hi:=(bG.1 h).1;have hi':((i:Int)<(st.length:Int)):=by omega
 refine⟨.oe id g (off+i) 0,by simp [Zp,A.idx,hi'],?_⟩;have e:=congrArg (λl=>l[i]?) h3;simp only[Vj,hi,if_true,Zg,tG,h,ff]at e;simp [Γ,h1,e]
theorem nJ.app(H:nJ σ id v st)(hm:st.length+1<=cu):∃v' σ',ZI 1 (140737488355328 / 8) v (.sl 1 [[.ah x]]) σ=δ (v',σ')/\nJ σ' id v' (st++[x])/\σ'.length=σ.length/\∀j,j≠id->σ'[j]? =σ[j]? :=by
 obtain⟨g,off,es,rfl,h1,h2,h3⟩:=H;have hid:=(bG.1 h1).1;have e1:Vl 1 (.sl 1 [[.ah x]]) σ=δ [[.ah x]]:=rfl;unfold cu at hm;by_cases hin:off+st.length+1<=es.length
 ·refine⟨.os id g 1 off (st.length+1),σ.set id (.arr g 1 (es.take (off+st.length)++[[.ah x]]++es.drop (off+st.length+1))),?_,⟨g,off,_,by simp,kT hid,by simp;omega,?_⟩,by simp,λj hj=>ZY (by omega)⟩
  ·simp only[ZI,e1,aO,A.kS,h1];rw[aH (by simp;omega),aF (by simp),aH (by simpa using hin)];rfl
  ·have hl:(es.take (off+st.length)).length=off+st.length:=by simp;omega
   rw[nG,List.drop_append_of_le_length (by omega),List.drop_take,show off+st.length-off=st.length by omega,h3,PU,Zy];rw[List.take_append,mR (by simp)];simp [aL]
 ·refine⟨.os id (g+1) 1 0 (st.length+1),σ.set id (.arr (g+1) 1 (st.map aL++[[.ah x]])),?_,⟨g+1,0,_,by simp,kT hid,by simp,?_⟩,by simp,λj hj=>ZY (by omega)⟩
  ·simp only[ZI,e1,aO,A.kS,h1];rw[aH (by simp;omega),aF (by simp),aF (by simpa using hin),h3];rfl
  ·rw[R6,mR (by simp)];simp [aL]
theorem nJ.other{σ':Heap}(H:nJ σ id v st)(h:σ'[id]? =σ[id]?):nJ σ' id v st:=by obtain⟨g,off,es,e,h1,h2⟩:=H;exact⟨g,off,es,e,h.trans h1,h2⟩
theorem nJ.front(H:nJ σ id v (st++[n])):∃v',A.gQ 1 v μ (δ (.ah (st.length:Int))) σ=δ v'/\nJ σ id v' st:=by
 obtain⟨g,off,es,rfl,h1,h2,h3⟩:=H;rw[PU,Zy]at h2 h3;refine⟨.os id g 1 off st.length,?_,⟨g,off,es,rfl,h1,by omega,?_⟩⟩
 ·simp only[A.gQ,if_true,A.room,h1,PU,Zy];rw[aH ⟨trivial,trivial,h2⟩]
  have b1:Sq (es.length-off) (st.length+1) (δ (.ah (st.length:Int)))=δ st.length:=by simp only[Sq];rw[aH (by omega)];simp
  have b2:Sq st.length 0 μ=δ 0:=rfl;rw[b1,aO,b2];rfl
 ·have e:=congrArg (List.take st.length) h3;rw[List.take_take,Nat.min_eq_left (by omega),Zw,Rw (by simp),mR (l:=st.map aL) (by simp)]at e;exact e
theorem nJ.back(H:nJ σ id v (n::st)):∃v',A.gQ 1 v (δ (.ah 1)) μ σ=δ v'/\nJ σ id v' st:=by
 obtain⟨g,off,es,rfl,h1,h2,h3⟩:=H;rw[ZT]at h2 h3;refine⟨.os id g 1 (off+1) st.length,?_,⟨g,off+1,es,rfl,h1,by omega,?_⟩⟩
 ·simp only[A.gQ,if_true,A.room,h1,ZT];rw[aH ⟨trivial,trivial,h2⟩];have b1:Sq (es.length-off) (st.length+1) μ=δ (st.length+1):=rfl
  have b2:Sq (st.length+1) 0 (δ (.ah 1))=δ 1:=by simp only[Sq];rw[aH (by omega)];rfl
  rw[b1,aO,b2];rfl
 ·have e:=congrArg (List.drop 1) h3;rw[List.drop_take,nH]at e;simpa using e
end
end
section
open HP
theorem agt{r:AV->AV->Heap->aB}{x y v:AV}{σ:Heap}(h:[x,y].any T5=ι)(e:r x y σ=δ (v,σ)):Ξ η [] .k (T3 r) [x,y] σ=δ (v,σ):=by refine wrap_eq h ?_ (mU _);rw[show Ug [] [x,y]=[x,y] by simp [Ug]];exact e
end
section
def fM:List Int->List Int->List Int->List Int×List Int
 |[],st,seen=>(st,seen)
 |k::r,st,seen=>if k∈seen then fM r st seen else fM r (st++[k]) (seen++[k])
def xp(f:Int->List Int):Nat->List Int->List Int->List Int
 |0,_,seen=>seen
 |m+1,st,seen=>match st.getLast? with
  |none=>seen
  |some n=>xp f m (fM (f n) st.dropLast seen).1 (fM (f n) st.dropLast seen).2
theorem Vx(f:Int->List Int)(m:Nat)(seen:List Int):xp f m [] seen=seen:=by cases m<;>rfl
theorem Uz(f:Int->List Int)(m:Nat)(st:List Int)(n:Int)(seen:List Int):xp f (m+1) (st++[n]) seen=xp f m (fM (f n) st seen).1 (fM (f n) st seen).2:=by rw[xp,List.getLast?_concat,List.dropLast_concat]
def nx(U:List (Int×List Int))(n:Int):List Int:=(bh n U).getD []
def iN(U:List (Int×List Int)):List Int:=U.flatMap (·.2)
theorem IP{U:List (Int×List Int)}{n k:Int}(h:k∈nx U n):k∈iN U:=by
 unfold nx at h;unfold iN;induction U with
 |nil=>simp [bh]at h
 |cons p U ih=>
  rw[bh]at h;rw[apQ,fB];by_cases hp:n=p.1
  ·rw[aH hp]at h;exact .inl h
  ·rw[aF hp]at h;exact .inr (ih h)
theorem V7(U:List (Int×List Int))(n:Int):(nx U n).length<=(iN U).length:=by
 unfold nx iN;induction U with
 |nil=>simp [bh]
 |cons p U ih=>
  rw[bh,apQ,PU];by_cases hp:n=p.1
  ·rw[aH hp];simp
  ·rw[aF hp];omega
def qY(U:List (Int×List Int))(a:Int):List Int:=xp (nx U) (2*(iN U).length+1) [a] []
abbrev iA(V st seen:List Int):Nat:=2*jk V seen+st.length
abbrev eS(S:List Int):List (AV×AV):=S.map λx=>(.ah x,.bool η)
theorem IY(S:List Int):eS S=(S.map λx=>(x,η)).map λp=>(ε p.1,χ p.2):=by rw[List.map_map];rfl
theorem Tc(k:Int)(S:List Int):(bh k (S.map λx=>(x,η))).getD ι=decide (k∈S):=by
 induction S with
 |nil=>rfl
 |cons x S ih=>
  rw[dH,bh];by_cases h:k=x
  ·simp [h]
  ·simp [h,ih]
theorem aeu{k:Int}{S:List Int}(h:k∉S):e9 k η (S.map λx=>(x,η))=(S++[k]).map λx=>(x,η):=by
 induction S with
 |nil=>rfl
 |cons x S ih=>simp only[fA,not_or]at h;rw[dH,e9,aF h.1,ih h.2];rfl
theorem looked{σ:Heap}{id:Nat}{S:List Int}(h:σ[id]? =δ (.map (eS S)))(k:Int):ZJ .i (.om id) (.ah k) (.bool ι) σ=δ (.bool (decide (k∈S))):=by simp only[ZJ,A.fP,bz,R2,h,aO];rw[IY,uN (eK:=λx:Int=>ε x) (eV:=λx:Bool=>χ x) (nj _)];rw[ff,<-Tc];cases bh k (S.map λx=>(x,η))<;>rfl
theorem Nb{σ:Heap}{id:Nat}{S:List Int}(h:σ[id]? =δ (.map (eS S))){k:Int}(hk:k∉S):Uj .i (.om id) (.ah k) (.bool η) σ=δ (σ.set id (.map (eS (S++[k])))):=by simp only[Uj,A.fP,bz,h];rw[IY,show χ η=(λx:Bool=>χ x) η from rfl,ym (eK:=λx:Int=>ε x) (eV:=λx:Bool=>χ x) (nj _),aeu hk,IY];rfl
structure RM (au : Heap) (v : AV) (st seen : List Int) (σ : Heap) : Prop where
 len:σ.length=au.length+2
 pre:σ.take au.length=au
 map:σ[au.length]? =δ (.map (eS seen))
 stk:nJ σ (au.length+1) v st
theorem agf(U:List (Int×List Int))(hU:(iN U).length+1<=cu)(a:Int)(au:Heap):KZ [iy (λx=>ε x) (mA 1 aL) U,.ah a] au=δ (iy (λx=>ε x) (λx=>χ x) ((qY U a).map λx=>(x,η)),au):=by
 obtain⟨fm,Qc⟩:∃fm,fm=iy (λx=>ε x) (mA 1 aL) U:=⟨_,rfl⟩
 have EJ:∀n σ,ZJ .i fm (.ah n) .aC σ=δ (mA 1 aL (nx U n)):=λn σ=>by rw[Qc];exact Eh (ek:=.i) (eK:=λx=>ε x) (eV:=mA 1 aL) (nj _) n ([]:List Int) rfl
 have hfo:[fm,.ah a].any T5=ι:=by rw[Qc];rfl
 rw[<-Qc];have hV:(iN U).length<=bf:=by unfold cu at hU;unfold bf;omega
 unfold cu at hU
 have inner:∀(n:Int)(v0:AV)(jj gY:List Int)(σ1:Heap)(M0:Nat),gA (nx U) (iN U) a (δ (n,nx U n)) jj gY->RM au v0 jj gY σ1->iA (iN U) jj gY<=M0->
   ∃q,Zo ((λv21 lu=>
      (ZN (aj v21 1) (.ah ((nx U n).length:Int))).bind λcS=>
      ξ cS (
       (Zp 1 (mA 1 aL (nx U n)) (aj v21 1)).bind λeU=>
       ((Γ eU lu).bind λjN=>Δ 0 jN).bind λew=>
       (ZJ .i (V9 au.length) ew aT lu).bind λgH=>
       (ZR gH).bind λcU=>
       (ξ cU (
        (Uj .i (V9 au.length) ew br lu).bind λFT=>
        ((((ZS ew).bind λv=>δ [v]).bind λkJ=>(Zv 0 kJ [(ε 0)]).bind λjd=>δ jd).bind λcs=>δ (U0 1 (dW 1 1 cs))).bind λjm=>
        (ZI 1 (140737488355328 / 8) (aj v21 0) jm FT).bind λgV=>
        δ ([gV.1],gV.2)) (
        δ ([(aj v21 0)],lu))).bind λfC=>
       (Zn (aj v21 1) (ε 1)).bind λiV=>
       δ (Λ,[(aj fC.1 0),iV],fC.2)) (
       δ (φ 2,[(aj v21 0),(aj v21 1)],lu)))) [v0,.ah 0] σ1=δ q/\(q.1=.exit 2/\∃v u,q.2.1=[v,u]/\gA (nx U) (iN U) a μ (fM (nx U n) jj gY).1 (fM (nx U n) jj gY).2/\RM au v (fM (nx U n) jj gY).1 (fM (nx U n) jj gY).2 q.2.2/\iA (iN U) (fM (nx U n) jj gY).1 (fM (nx U n) jj gY).2<=M0):=by
  intro n v0 jj gY σ1 M0 H0 R0 PZ;obtain⟨T,hT⟩:∃T,T=fM (nx U n) jj gY:=⟨_,rfl⟩
  rw[<-hT];have hxl:(nx U n).length<=bf:=ZL (V7 U n) hV;refine kq (nx U n) (λi v σ=>∃w st seen,v=[w,.ah (i:Int)]/\gA (nx U) (iN U) a (δ (n,(nx U n).drop i)) st seen/\RM au w st seen σ/\iA (iN U) st seen<=M0/\fM ((nx U n).drop i) st seen=T) ?_ ?_ ⟨v0,jj,gY,rfl,by simpa using H0,R0,PZ,by simp [hT]⟩
  ·rintro i x v σ hx ⟨w,st,seen,rfl,H,R,hM,hE⟩;have hi:=(bG.1 hx).1;have C8:(nx U n).drop i=x::(nx U n).drop (i+1):=by rw[Ss hi,(bG.1 hx).2]
   rw[C8]at H hE;rw[fM]at hE;have a1:ZN (.ah (i:Int)) (.ah ((nx U n).length:Int))=δ (.bool η):=dP hx;have a2:Zn (.ah (i:Int)) (.ah 1)=δ (.ah ((i+1:Nat):Int)):=dY hx hxl;have a3:Zp 1 (mA 1 aL (nx U n)) (.ah (i:Int))=δ (.rp (aL x)):=Vb hx;have a4:=looked R.map x;by_cases hk:x∈seen
   ·rw[aH hk]at hE;refine⟨_,σ,?_,w,st,seen,rfl,H.skip hk,R,hM,hE⟩;simp only[bN,cW,a1,a2,a3,bS,cT,je,jS,a4,fF hk,wI,cF]
   ·rw[aF hk]at hE;have Gd:x∈iN U:=IP ((H.here n _ rfl).2 x (by simp));have H2:=H.push hk Gd;have u1:=Nb R.map hk;let σ2:Heap:=σ.set au.length (.map (eS (seen++[x])))
    have g2:∀j,j≠au.length->σ2[j]? =σ[j]? :=λj hj=>ZY (by omega)
    have hlt:=zE Gd hk;obtain⟨w',σ3,e3,s3,l3,k3⟩:=(R.stk.other (σ':=σ2) (g2 _ (by omega))).app (x:=x) (by have:=H.AG;unfold cu;omega);have c1:(((ZS (.ah x)).bind λv=>δ [v]).bind λkJ=>(Zv 0 kJ [(ε 0)]).bind λjd=>δ jd).bind (λcs=>δ (U0 1 (dW 1 1 cs)))=δ (.sl 1 [[.ah x]]):=rfl;have e3':ZI 1 (140737488355328 / 8) w (.sl 1 [[.ah x]]) (σ.set au.length (.map (eS (seen++[x]))))=δ (w',σ3):=e3;have o8:σ2.length=au.length+2:=by simp [σ2,R.len]
    refine⟨_,σ3,?_,w',st++[x],seen++[x],rfl,H2,⟨by omega,HR R.pre λj hj=>by rw[k3 j (by omega),g2 j (by omega)],by rw[k3 _ (by omega)];exact kT (by have:=R.len;omega),s3⟩,by unfold iA at hM ⊢;rw[PU,Zy];omega,hE⟩;simp only[bN,cW,a1,a2,a3,bS,cT,je,jS,a4,gq hk,wG,u1,c1,e3']
  ·rintro v σ ⟨w,st,seen,rfl,H,R,hM,hE⟩;rw[aqg]at H hE;rw[fM]at hE;subst hE;refine⟨(.exit 2,[w,.ah ((nx U n).length:Int)],σ),?_,by simp,rfl,w,_,rfl,H.done,R,hM⟩;simp only[bN,cW,dX,bS,cF]
 have outer:∃q,Zo ((λv6 s7=>
   (ZO (aj v6 0)).bind λx9=>
   (Zx x9 (ε 0)).bind λaY=>
   ξ aY (
    (ZO (aj v6 0)).bind λcg=>
    (YR cg (ε 1)).bind λbY=>
    (Zp 1 (aj v6 0) bY).bind λbB=>
    ((Γ bB s7).bind λgB=>Δ 0 gB).bind λbQ=>
    (ZO (aj v6 0)).bind λbM=>
    (YR bM (ε 1)).bind λcv=>
    (A.gQ 1 (aj v6 0) μ (δ cv) s7).bind λdw=>
    (ZJ .i fm bQ ZK s7).bind λcx=>
    (ZO cx).bind λcM=>
    (Zo (λv21 lu=>
      (ZN (aj v21 1) cM).bind λcS=>
      ξ cS (
       (Zp 1 cx (aj v21 1)).bind λeU=>
       ((Γ eU lu).bind λjN=>Δ 0 jN).bind λew=>
       (ZJ .i (V9 au.length) ew aT lu).bind λgH=>
       (ZR gH).bind λcU=>
       (ξ cU (
        (Uj .i (V9 au.length) ew br lu).bind λFT=>
        ((((ZS ew).bind λv=>δ [v]).bind λkJ=>(Zv 0 kJ [(ε 0)]).bind λjd=>δ jd).bind λcs=>δ (U0 1 (dW 1 1 cs))).bind λjm=>
        (ZI 1 (140737488355328 / 8) (aj v21 0) jm FT).bind λgV=>
        δ ([gV.1],gV.2)) (
        δ ([(aj v21 0)],lu))).bind λfC=>
       (Zn (aj v21 1) (ε 1)).bind λiV=>
       δ (Λ,[(aj fC.1 0),iV],fC.2)) (
       δ (φ 2,[(aj v21 0),(aj v21 1)],lu))) [dw,(ε 0)] s7).bind λlp=>
    bif lp.1==φ 2 then(
     δ (Λ,[(aj lp.2.1 0)],lp.2.2))else
    μ) (
    δ (φ 0,[(aj v6 0)],s7)))) [.os (au.length+1) 1 1 0 1] (au++[.map [],.arr 1 1 [[.ah a]]])=δ q/\(q.1=.exit 0/\q.2.2.length=au.length+2/\q.2.2.take au.length=au/\q.2.2[au.length]? =δ (.map (eS (qY U a)))):=by
  refine M4 (λN v σ=>∃w st seen,v=[w]/\gA (nx U) (iN U) a μ st seen/\RM au w st seen σ/\iA (iN U) st seen<=N/\xp (nx U) N st seen=qY U a) ?_ (n:=2*(iN U).length+1) ⟨_,[a],[],rfl,.start,⟨by simp,by simp,by simp [eS],⟨1,0,[[.ah a]],rfl,by simp,by simp,by simp [aL]⟩⟩,by have:=uS (iN U) [];unfold iA;simp;omega,rfl⟩;rintro N v σ ⟨w,st,seen,rfl,H,R,hM,hE⟩;have hlen:=R.stk.len;rcases List.eq_nil_or_concat st with rfl|⟨st',n,rfl⟩
  ·right;rw[Vx]at hE;subst hE;refine⟨(.exit 0,[w],σ),?_,by simp,rfl,R.len,R.pre,R.map⟩;have g0:Zx (.ah (([]:List Int).length:Int)) (.ah 0)=δ (.bool ι):=rfl;simp only[bN,hlen,bS,g0,cF]
  ·left;rw[List.concat_eq_append]at *
   have hst:st'.length+1<=(iN U).length+1:=by have:=H.AG;simp at this;omega
   obtain⟨w',e1,s1⟩:=R.stk.front;have hx:(st'++[n])[st'.length]? =δ n:=by simp
   obtain⟨p,e2,e3⟩:=R.stk.at hx;have H1:gA (nx U) (iN U) a (δ (n,nx U n)) st' seen:=H.pop (λx=>by simp [or_comm]) (by simp);have P0:iA (iN U) st' seen<=N-1:=by unfold iA at hM ⊢;simp at hM;omega
   have hN:N=N-1+1:=by unfold iA at hM;simp at hM;omega
   obtain⟨⟨q1,q2,σ3⟩,e4,rfl,w3,u,rfl,H3,R3,M3⟩:=inner n w' st' seen σ (N-1) H1 ⟨R.len,R.pre,R.map,s1⟩ P0;rw[hN,Uz]at hE;refine⟨N-1,[w3],σ3,by omega,?_,w3,_,_,rfl,H3,R3,M3,hE⟩
   have g0:Zx (.ah ((st'++[n]).length:Int)) (.ah 0)=δ (.bool η):=by simp only[Zx,if_true];rw[fF (by simp)]
   have g1:YR (.ah ((st'++[n]).length:Int)) (.ah 1)=δ (.ah (st'.length:Int)):=by simp only[YR,if_true];rw[dc (by unfold bE;simp;omega)];simp
   simp only[bN,hlen,bS,g0,g1,cT,e2,e3,jS,e1,EJ,Vf,e4,kK]
 obtain⟨⟨qa,qv,um⟩,e4,rfl,h1,h2,h3⟩:=outer;refine agt hfo ?_;unfold Lm;have c1:(((ZS (.ah a)).bind λv=>δ [v]).bind λkJ=>(Zv 0 kJ [(ε 0)]).bind λjd=>δ jd).bind (λcs=>δ (U0 1 (dW 1 1 cs)))=δ (.sl 1 [[.ah a]]):=rfl;have l1:∀(k:Nat->List aq->aB),A.ve (.sl 1 [[.ah a]]) k=k 1 [[.ah a]]:=λk=>rfl
 have hz:wh au (.om au.length) um=δ (iy (λx=>ε x) (λx=>χ x) ((qY U a).map λx=>(x,η)),au):=by unfold wh;have h1':Ym um=au.length+2:=h1;rw[aF (λe=>by rw[e]at h1';omega),aH h2];have h3':um[au.length]? =δ (.map (eS (qY U a))):=h3;simp only[X0,Nat.lt_irrefl,if_false,h3'];rw[Ew 7 (λp hp=>by obtain⟨x,_,rfl⟩:=i6.1 hp;exact⟨th _ _,Iu _⟩),IY];rfl
 have e0:(au++[ZH []]).length=au.length+1:=by simp
 have e5:(au++[ZH []])++[aP.arr 1 1 [[.ah a]]]=au++[.map [],.arr 1 1 [[.ah a]]]:=by simp
 simp only[c1,bS,l1,Zy,e0,e5,e4,kK,hz]
end
section
open HP
def eJ(l:List Int):List Int:=l.foldl (λo n=>if n∈o then o else o++[n]) []
theorem ac3(l:List Int)(x:Int):eJ (l++[x])=if x∈eJ l then eJ l else eJ l++[x]:=by unfold eJ;rw[VO];rfl
theorem TG(l:List Int):(eJ l).length<=l.length:=by
 have h:∀(l o:List Int),(l.foldl (λo n=>if n∈o then o else o++[n]) o).length<=o.length+l.length:=by
  intro l;induction l with
  |nil=>intro o;simp
  |cons x l ih=>
   intro o;rw[Wv,ZT];by_cases h:x∈o
   ·rw[aH h];have:=ih o;omega
   ·rw[aF h];have:=ih (o++[x]);rw[PU,Zy]at this;omega
 have:=h l [];simpa [eJ]using this
theorem Ux{l:List Int}{i:Nat}{x:Int}(h:l[i]? =δ x):eJ (l.take (i+1))=if x∈eJ (l.take i)then eJ (l.take i)else eJ (l.take i)++[x]:=by rw[Z9,h,YA,ac3]
theorem MH(l:List Int)(i:Nat):(eJ (l.take i)).length<=l.length:=ZL (TG _) (R8 _ _)
def ia(s:Nat):Nat->List Int->List Int
 |_,[]=>[]
 |0,x::l=>x::ia s (s-1) l
 |k+1,_::l=>ia s k l
theorem MB(s:Nat):∀(k:Nat)(l:List Int),ia s k l=ia s 0 (l.drop k)
 |0,l=>by simp
 |k+1,[]=>by simp [ia]
 |k+1,x::l=>by rw[ia,MB s k l];simp
theorem Et(s:Nat):∀(k:Nat)(l:List Int),(ia s k l).length<=l.length
 |_,[]=>by simp [ia]
 |0,x::l=>by rw[ia,ZT,ZT];have:=Et s (s-1) l;omega
 |k+1,x::l=>by rw[ia,ZT];have:=Et s k l;omega
theorem U4(S:List Int):jH (.map (eS S)):=by show((eS S).all λp=>A.pU p.1&&A.pU p.2)=η;rw[List.all_map,jC];intro x _;rfl
theorem Ev(x:Int):∀g g' seg,(seg=[]\/jH (.arr g 1 seg))->jH (.arr g' 1 (seg++[aL x])):=aou (λ_=>rfl) [x]
section
variable {au σ : Heap} {R : HP} {v : AV} {l : List Int}
theorem abU{B:aP->Prop}(hl:l.length<=bf)(k:Int)(H:Hs B au σ (Iv v l*R)):lB [v,.ah k] σ=δ (.bool (decide (k∈l)),σ):=by
 have e0:∀l:List Int,(l.any λx=>decide (k=x))=decide (k∈l):=by intro l;rw[kE];simp
 rcases oQ H with⟨rfl,hv,_⟩|⟨id,g,rfl,K⟩
 ·have h0:=zb [] hl k σ;rw[e0]at h0;rcases hv with rfl|rfl
  ·exact(vY rfl rfl rfl:lB [.aC,.ah k] σ=lB [sl 1 aL ([]:List Int),.ah k] σ).trans h0
  ·exact(vY rfl rfl rfl:lB [.ez,.ah k] σ=lB [sl 1 aL ([]:List Int),.ah k] σ).trans h0
 ·obtain⟨_,c⟩:=eG K;refine Cj (args':=[sl 1 aL l,.ah k]) rfl ?_ rfl (by rw[<-e0];exact zb l hl k []) rfl;have h2:X0 σ 0 8 (.os id g 1 0 l.length)=δ (sl 1 aL l):=IJ pQ c (ap9 _) 7;have h3:X0 σ 0 8 (.ah k)=δ (.ah k):=th _ _ σ 0 8;simp only[Xu,h2,h3,aO];rfl
theorem vf(x:Int):(((ZS (.ah x)).bind λv=>δ [v]).bind λkJ=>(Zv 0 kJ [(ε 0)]).bind λjd=>δ jd).bind (λcs=>δ (U0 1 (dW 1 1 cs)))=δ (.sl 1 [[.ah x]]):=rfl
theorem aoy(hm:l.length+1<=cu):KS (Ξ η [(.s 1)] .k (RV zk)) [sl 1 aL l] aL 1 (eJ l):=by
 intro au σ R H;have hl:l.length<=bf:=by unfold cu at hm;unfold bf;omega
 suffices h:∃b:AV×Heap,zk (sl 1 aL l) σ=δ b/\Hs jH au b.2 (Iv b.1 (eJ l)*R) by obtain⟨⟨v,s⟩,h1,h2⟩:=h;exact⟨v,s,wrap_eq rfl h1 (mU _),h2⟩
 unfold zk;rw[cy,bS];refine nw (Q:=λq=>∃w u,q.1=.exit 0/\q.2.1=[w,u]/\Hs jH au q.2.2 (Iv w (eJ l)*R)) (kq l (λi vs s=>∃w,vs=[w,.ah (i:Int)]/\Hs jH au s (blk σ.length (.map (eS (eJ (l.take i))))*(Iv w (eJ (l.take i))*R))) ?_ ?_ ⟨.aC,rfl,tj (kO H (.inl rfl)) (U4 [])⟩) ?_
 ·rintro i x vs s hx ⟨w,rfl,K⟩;have a1:ZN (.ah (i:Int)) (.ah (l.length:Int))=δ (.bool η):=dP hx;have a2:Zn (.ah (i:Int)) (.ah 1)=δ (.ah ((i+1:Nat):Int)):=dY hx hl;have a3:Zp 1 (sl 1 aL l) (.ah (i:Int))=δ (.rp (aL x)):=ey hx;have a4:=looked (eG K).2 x;rw[Ux hx];by_cases hk:x∈eJ (l.take i)
  ·rw[aH hk];refine⟨_,s,?_,w,rfl,K⟩;simp only[bN,cW,a1,a2,a3,bS,cT,je,jS,a4,fF hk,wI,cF]
  ·rw[aF hk];have u1:=Nb (eG K).2 hk;have K1:=qW K (U4 (eJ (l.take i)++[x]));obtain⟨w',s',e1,K2⟩:=uP (x:=x) (Ev x) (by have:=MH l i;omega) (cr (show _=Iv w (eJ (l.take i))*(blk σ.length (.map (eS (eJ (l.take i)++[x])))*R) by ac_rfl) K1);refine⟨_,s',?_,w',rfl,cr (by ac_rfl) K2⟩;simp only[bN,cW,a1,a2,a3,bS,cT,je,jS,a4,gq hk,wG,u1,vf,e1]
 ·rintro vs s ⟨w,rfl,K⟩;rw[ZP]at K;refine⟨(.exit 0,[w,.ah (l.length:Int)],s),?_,by simp,w,_,rfl,rfl,eX K⟩;simp only[bN,cW,dX,bS,cF]
 ·rintro⟨q1,q2,q3⟩ ⟨w,u,rfl,rfl,K⟩;exact⟨(w,q3),by simp only[kK,bN],K⟩
theorem ae3(hm:l.length+1<=cu):KS (Ξ η [(.s 1)] .k (RV Ca)) [sl 1 aL l] aL 1 (eJ l):=by
 intro au σ R H;have hl:l.length<=bf:=by unfold cu at hm;unfold bf;omega
 suffices h:∃b:AV×Heap,Ca (sl 1 aL l) σ=δ b/\Hs jH au b.2 (Iv b.1 (eJ l)*R) by obtain⟨⟨v,s⟩,h1,h2⟩:=h;exact⟨v,s,wrap_eq rfl h1 (mU _),h2⟩
 unfold Ca;rw[cy,bS];refine nw (Q:=λq=>∃w u,q.1=.exit 0/\q.2.1=[w,u]/\Hs jH au q.2.2 (Iv w (eJ l)*R)) (kq l (λi vs s=>∃w,vs=[w,.ah (i:Int)]/\Hs jH au s (Iv w (eJ (l.take i))*R)) ?_ ?_ ⟨.aC,rfl,kO H (.inl rfl)⟩) ?_
 ·rintro i x vs s hx ⟨w,rfl,K⟩;have a1:ZN (.ah (i:Int)) (.ah (l.length:Int))=δ (.bool η):=dP hx;have a2:Zn (.ah (i:Int)) (.ah 1)=δ (.ah ((i+1:Nat):Int)):=dY hx hl;have a3:Zp 1 (sl 1 aL l) (.ah (i:Int))=δ (.rp (aL x)):=ey hx;have a4:=abU (ZL (MH l i) hl) x K;rw[Ux hx];by_cases hk:x∈eJ (l.take i)
  ·rw[aH hk];refine⟨_,s,?_,w,rfl,K⟩;simp only[bN,cW,a1,a2,a3,bS,cT,je,jS,a4,fF hk,wI,cF]
  ·rw[aF hk];obtain⟨w',s',e1,K2⟩:=uP (x:=x) (Ev x) (by have:=MH l i;omega) K;refine⟨_,s',?_,w',rfl,K2⟩;simp only[bN,cW,a1,a2,a3,bS,cT,je,jS,a4,gq hk,wG,vf,e1]
 ·rintro vs s ⟨w,rfl,K⟩;rw[ZP]at K;refine⟨(.exit 0,[w,.ah (l.length:Int)],s),?_,by simp,w,_,rfl,rfl,K⟩;simp only[bN,cW,dX,bS,cF]
 ·rintro⟨q1,q2,q3⟩ ⟨w,u,rfl,rfl,K⟩;exact⟨(w,q3),by simp only[kK,bN],K⟩
theorem Ni{p:Int->Bool}{l:List Int}{i:Nat}{x:Int}(h:l[i]? =δ x):(l.take (i+1)).filter p=if p x=η then(l.take i).filter p++[x]else(l.take i).filter p:=by rw[Z9,h,YA,XI];cases hp:p x<;>simp [hp]
theorem Nj{p:Int->Bool}(l:List Int)(i:Nat):((l.take i).filter p).length<=l.length:=ZL (Wf _ _) (R8 _ _)
theorem ady{m:List Int}(hm':l.length+1<=cu)(hm:m.length<=bf):KS (Ξ η [(.s 1),(.s 1)] .k (T3 BK)) [sl 1 aL l,sl 1 aL m] aL 1 (l.filter λx=>!decide (x∈m)):=by
 intro au σ R H;have hl:l.length<=bf:=by unfold cu at hm';unfold bf;omega
 suffices h:∃b:AV×Heap,BK (sl 1 aL l) (sl 1 aL m) σ=δ b/\Hs jH au b.2 (Iv b.1 (l.filter λx=>!decide (x∈m))*R) by obtain⟨⟨v,s⟩,h1,h2⟩:=h;exact⟨v,s,wrap_eq rfl h1 (mU _),h2⟩
 unfold BK;rw[cy,bS];refine nw (Q:=λq=>∃w u,q.1=.exit 0/\q.2.1=[w,u]/\Hs jH au q.2.2 (Iv w (l.filter λx=>!decide (x∈m))*R)) (kq l (λi vs s=>∃w,vs=[w,.ah (i:Int)]/\Hs jH au s (Iv w ((l.take i).filter λx=>!decide (x∈m))*R)) ?_ ?_ ⟨.aC,rfl,kO H (.inl rfl)⟩) ?_
 ·rintro i x vs s hx ⟨w,rfl,K⟩;have a1:ZN (.ah (i:Int)) (.ah (l.length:Int))=δ (.bool η):=dP hx;have a2:Zn (.ah (i:Int)) (.ah 1)=δ (.ah ((i+1:Nat):Int)):=dY hx hl;have a3:Zp 1 (sl 1 aL l) (.ah (i:Int))=δ (.rp (aL x)):=ey hx;have a4:=zb m hm x s;rw[show(m.any λy=>decide (x=y))=decide (x∈m) by rw[kE];simp]at a4;rw[Ni hx];by_cases hk:x∈m
  ·rw[fF hk,aF (by decide)];refine⟨_,s,?_,w,rfl,K⟩;simp only[bN,cW,a1,a2,a3,bS,cT,je,jS,a4,fF hk,wI,cF]
  ·rw[gq hk,aH (show(!ι)=η from rfl)];obtain⟨w',s',e1,K2⟩:=uP (x:=x) (Ev x) (by have:=Nj (p:=λx=>!decide (x∈m)) l i;omega) K;refine⟨_,s',?_,w',rfl,K2⟩;simp only[bN,cW,a1,a2,a3,bS,cT,je,jS,a4,gq hk,wG,vf,e1]
 ·rintro vs s ⟨w,rfl,K⟩;rw[ZP]at K;refine⟨(.exit 0,[w,.ah (l.length:Int)],s),?_,by simp,w,_,rfl,rfl,K⟩;simp only[bN,cW,dX,bS,cF]
 ·rintro⟨q1,q2,q3⟩ ⟨w,u,rfl,rfl,K⟩;exact⟨(w,q3),by simp only[kK,bN],K⟩
def nv(l:List Int)(s f:Int):List Int:=ia s.toNat (f-1).toNat l
theorem LW(l:List Int)(s f:Int):(nv l s f).length<=l.length:=Et _ _ _
theorem aeO{st f:Int}(hs:1<=st)(kM:st<=1000000)(hf:1<=f)(qd:f<=1000000)(hm:l.length+1<=cu):KS (Ξ η [(.s 1)] .k (A.i7 BM)) [sl 1 aL l,.ah st,.ah f] aL 1 (nv l st f):=by
 intro au σ R H;have hl:l.length<=bf:=by unfold cu at hm;unfold bf;omega
 have hl':=hm;unfold cu at hl'
 suffices h:∃b:AV×Heap,BM (sl 1 aL l) (.ah st) (.ah f) σ=δ b/\Hs jH au b.2 (Iv b.1 (nv l st f)*R) by obtain⟨⟨v,s⟩,h1,h2⟩:=h;exact⟨v,s,wrap_eq rfl h1 (mU _),h2⟩
 obtain⟨k,hk⟩:∃k,k=(f-1).toNat:=⟨_,rfl⟩
 obtain⟨s0,hs0⟩:∃s0,s0=st.toNat:=⟨_,rfl⟩
 unfold nv;rw[<-hk,<-hs0];unfold BM;rw[show YR (.ah f) (.ah 1)=δ (.ah (k:Int)) by rw[zP,dc (by unfold bE;omega)];congr 2;omega,bS];refine nw (Q:=λq=>∃w u,q.1=.exit 0/\q.2.1=[w,u]/\Hs jH au q.2.2 (Iv w (ia s0 k l)*R)) (M4 (λN vs s=>∃(w:AV)(i:Nat)(o:List Int),vs=[w,.ah (i:Int)]/\l.length-i<=N/\i<=l.length+2000000/\o++ia s0 0 (l.drop i)=ia s0 k l/\Hs jH au s (Iv w o*R)) ?_ (n:=l.length) ⟨.aC,k,[],rfl,by omega,by omega,(MB s0 k l).symm,kO H (.inl rfl)⟩) ?_
 ·rintro N vs s ⟨w,i,o,rfl,hN,hi,ho,K⟩;by_cases hil:i<l.length
  ·left;obtain⟨x,hx⟩:∃x,l[i]? =δ x:=⟨_,dg hil⟩
   have hd:l.drop i=x::l.drop (i+1):=by rw[Ss hil,(bG.1 hx).2]
   have F5:o.length+1<=cu:=by have h1:=congrArg Ym ho;have h2:=Et s0 k l;rw[PU]at h1;omega
   rw[hd,ia,MB,nH]at ho;have a1:ZN (.ah (i:Int)) (.ah (l.length:Int))=δ (.bool η):=dP hx;have a2:Zn (.ah (i:Int)) (.ah st)=δ (.ah ((i+s0:Nat):Int)):=by rw[CI,dc (by unfold bE;omega)];congr 2;omega
   have a3:Zp 1 (sl 1 aL l) (.ah (i:Int))=δ (.rp (aL x)):=ey hx;obtain⟨w',s',e1,K2⟩:=uP (x:=x) (Ev x) F5 K;refine⟨N-1,_,s',by omega,?_,w',i+s0,o++[x],rfl,by omega,by omega,?_,K2⟩
   ·simp only[bN,cW,cy,a1,a2,a3,bS,cT,je,jS,vf,e1]
   ·rw[nG,List.singleton_append];rw[show i+1+(s0-1)=i+s0 by omega]at ho;exact ho
  ·right;rw[apK (by omega)]at ho;rw[show ia s0 0 []=[] by rw[ia],TB]at ho;subst ho;refine⟨(.exit 0,[w,.ah (i:Int)],s),?_,by simp,w,_,rfl,rfl,K⟩;simp only[bN,cW,cy,bS,tJ,gq (show ¬((i:Int)<(l.length:Int)) by omega),cF]
 ·rintro⟨q1,q2,q3⟩ ⟨w,u,rfl,rfl,K⟩;exact⟨(w,q3),by simp only[kK,bN],K⟩
theorem adq{st f:Int}(hs:1<=st)(kM:st<=1000000)(hf:1<=f)(qd:f<=1000000)(hm:l.length+1<=cu):KS (Ξ η [(.s 1)] .k (A.i7 BJ)) [sl 1 aL l,.ah st,.ah f] aL 1 (nv l st f):=by
 intro au σ R H;have hl:l.length<=bf:=by unfold cu at hm;unfold bf;omega
 have hl':=hm;unfold cu at hl'
 suffices h:∃b:AV×Heap,BJ (sl 1 aL l) (.ah st) (.ah f) σ=δ b/\Hs jH au b.2 (Iv b.1 (nv l st f)*R) by obtain⟨⟨v,s⟩,h1,h2⟩:=h;exact⟨v,s,wrap_eq rfl h1 (mU _),h2⟩
 obtain⟨k,hk⟩:∃k,k=(f-1).toNat:=⟨_,rfl⟩
 obtain⟨s0,hs0⟩:∃s0,s0=st.toNat:=⟨_,rfl⟩
 unfold nv;rw[<-hk,<-hs0];unfold BJ;rw[cy,bS];refine nw (Q:=λq=>∃w u,q.1=.exit 0/\q.2.1=[w,u]/\Hs jH au q.2.2 (Iv w (ia s0 k l)*R)) (kq l (λi vs s=>∃w o c m,vs=[w,.ah (i:Int)]/\o++ia s0 c (l.drop i)=ia s0 k l/\i+c=k+m*s0/\(m=0\/c<s0)/\Hs jH au s (Iv w o*R)) ?_ ?_ ⟨.aC,[],k,0,rfl,rfl,by omega,.inl rfl,kO H (.inl rfl)⟩) ?_
 ·rintro i x vs s hx ⟨w,o,c,m,rfl,ho,hc,jI,K⟩;have hil:=(bG.1 hx).1;have hd:l.drop i=x::l.drop (i+1):=by rw[Ss hil,(bG.1 hx).2]
  have a1:ZN (.ah (i:Int)) (.ah (l.length:Int))=δ (.bool η):=dP hx;have a2:Zn (.ah (i:Int)) (.ah 1)=δ (.ah ((i+1:Nat):Int)):=dY hx hl;have a3:Zp 1 (sl 1 aL l) (.ah (i:Int))=δ (.rp (aL x)):=ey hx
  have F5:o.length+(ia s0 c (l.drop i)).length<=l.length:=by have h1:=congrArg Ym ho;have h2:=Et s0 k l;rw[PU]at h1;omega
  rw[hd]at ho F5;by_cases h1:i<k
  ·have hc0:0<c:=by
    rcases jI with rfl|jI
    ·omega
    ·rcases Nat.eq_zero_or_pos m with rfl|hm0
     ·omega
     ·have:s0<=m*s0:=Nat.le_mul_of_pos_left _ hm0;omega
   obtain⟨c',rfl⟩:∃c',c=c'+1:=⟨c-1,by omega⟩
   rw[ia]at ho;have g0:A.geq (.ah ((i+1:Nat):Int)) (.ah f)=δ (.bool ι):=by rw[Ja,gq (by omega)]
   refine⟨_,s,?_,w,o,c',m,rfl,ho,by omega,by omega,K⟩;simp only[bN,cW,a1,a2,a3,bS,cT,je,jS,g0,Yq,QV,cF]
  ·have g0:A.geq (.ah ((i+1:Nat):Int)) (.ah f)=δ (.bool η):=by rw[Ja,fF (by omega)]
   have g1:YR (.ah ((i+1:Nat):Int)) (.ah f)=δ (.ah ((i-k:Nat):Int)):=by rw[zP,dc (by unfold bE;omega)];congr 2;omega
   have g2:A.rem (.ah ((i-k:Nat):Int)) (.ah st)=δ (.ah (((i-k) % s0:Nat):Int)):=by rw[show st=(s0:Int) by omega];exact ahQ (a:=((i-k:Nat):Int)) (b:=(s0:Int)) (by omega)
   have g3:Zt .i (.ah (((i-k) % s0:Nat):Int)) (.ah 0)=δ (.bool (decide ((i-k) % s0=0))):=by rw[ef];congr 2;simp only[decide_eq_decide];omega
   rcases Nat.eq_zero_or_pos c with rfl|hc0
   ·have hz:(i-k) % s0=0:=by rw[show i-k=m*s0 by omega];exact Nat.mul_mod_left _ _
    rw[ia]at ho F5;rw[ZT]at F5;obtain⟨w',s',e1,K2⟩:=uP (x:=x) (Ev x) (by omega) K;refine⟨_,s',?_,w',o++[x],s0-1,m+1,rfl,by rw[nG,List.singleton_append];exact ho,by rw[fQ];omega,.inr (by omega),K2⟩;simp only[bN,cW,a1,a2,a3,bS,cT,je,jS,g0,gT,g1,g2,g3,fF hz,Gq,cT,vf,e1]
   ·have hz:¬(i-k) % s0=0:=by
     intro hz
     have hcs:c<s0:=by
      rcases jI with rfl|jI
      ·omega
      ·exact jI
     obtain⟨j,hj⟩:∃j,i-k=s0*j:=⟨_,(Nat.eq_mul_of_div_eq_right (Nat.dvd_of_mod_eq_zero hz) rfl)⟩
     have h2:s0*j+c=m*s0:=by omega
     have h3:(s0*j+c) % s0=0:=by rw[h2];exact Nat.mul_mod_left _ _
     rw[Nat.mul_add_mod,Nat.mod_eq_of_lt hcs]at h3;omega
    obtain⟨c',rfl⟩:∃c',c=c'+1:=⟨c-1,by omega⟩
    rw[ia]at ho;refine⟨_,s,?_,w,o,c',m,rfl,ho,by omega,by omega,K⟩;simp only[bN,cW,a1,a2,a3,bS,cT,je,jS,g0,gT,g1,g2,g3,gq hz,Gq,cF]
 ·rintro vs s ⟨w,o,c,m,rfl,ho,_,_,K⟩;rw[aqg,show ia s0 c []=[] by rw[ia],TB]at ho;subst ho;refine⟨(.exit 0,[w,.ah (l.length:Int)],s),?_,by simp,w,_,rfl,rfl,K⟩;simp only[bN,cW,dX,bS,cF]
 ·rintro⟨q1,q2,q3⟩ ⟨w,u,rfl,rfl,K⟩;exact⟨(w,q3),by simp only[kK,bN],K⟩
end
end
section
open HP
def CJ(U:List Int)(f t:Int):List Int:=if t<f then(U.filter λn=>aU n (min f t) (max f t)).reverse else U.filter λn=>aU n (min f t) (max f t)
def CG(U:List Int)(gr pr:Int->List Int)(k f t:Int)(pK:List (List Int)):List Int:=
 if k=1 then CJ U f t else if k=2 then gr f else if k=3 then pr f else if k=4 then eJ pK.flatten
 else if k=5 then(pK.getD 0 []).filter λx=>!decide (x∈pK.getD 1 [])
 else if k=6 then nv (pK.getD 0 []) 2 1 else if k=7 then nv (pK.getD 0 []) 2 2
 else if k=8 then(pK.getD 0 []).reverse else nv (pK.getD 0 []) f t
section
variable (U : List Int) (gs : List (Int × aK)) (ps : List (Int × List Int))
def uF:Nat->aK->List Int
 |0,_=>[]
 |n+1,p=>CG U (λf=>match bh f gs with|some g=>uF n g|none=>[]) (λf=>(bh f ps).getD []) p.kind p.bg p.to (p.args.map (uF n))
def Rk:Nat->aK->Prop
 |0,_=>False
 |n+1,p=>nF p.kind p.bg p.to p.args.length=0/\p.args.length<=200/\(∀a∈p.args,Rk n a)/\(p.kind=2->∃g,bh p.bg gs=δ g/\Rk n g)/\(p.kind=3->∃l,bh p.bg ps=δ l)
theorem Nx:∀{n:Nat}{p:aK},Rk gs ps n p->∀{m:Nat},n<=m->Rk gs ps m p
 |0,p,h,m,_=>h.elim
 |n+1,p,h,0,hm=>by omega
 |n+1,p,h,m+1,hm=>by rw[Rk]at h ⊢;refine⟨h.1,h.2.1,λa ha=>Nx (h.2.2.1 a ha) (by omega),λhk=>?_,h.2.2.2.2⟩;obtain⟨g,h1,h2⟩:=h.2.2.2.1 hk;exact⟨g,h1,Nx h2 (by omega)⟩
theorem I8:∀{n:Nat}{p:aK},Rk gs ps n p->∀{m:Nat},n<=m->uF U gs ps m p=uF U gs ps n p
 |0,p,h,m,_=>h.elim
 |n+1,p,h,0,hm=>by omega
 |n+1,p,h,m+1,hm=>by
  rw[Rk]at h;rw[uF,uF];have h1:p.args.map (uF U gs ps m)=p.args.map (uF U gs ps n):=RO λa ha=>I8 (h.2.2.1 a ha) (by omega)
  rw[h1];by_cases hk:p.kind=2
  ·obtain⟨g,h2,h3⟩:=h.2.2.2.1 hk;unfold CG;rw[aF (show ¬p.kind=1 by omega),aF (show ¬p.kind=1 by omega),aH hk,aH hk];simp only[h2];exact I8 h3 (by omega)
  ·unfold CG;by_cases h1:p.kind=1
   ·rw[aH h1,aH h1]
   ·rw[aF h1,aF h1,aF hk,aF hk]
end
section
variable {au σ : Heap} {R : HP} {va : AV} {ls : List (List Int)}
theorem rowAt(H:Hs aV au σ (Sl iO 1 va ls*R)){i:Nat}{x:List Int}(hx:ls[i]? =δ x):∃p h Q,Zp 1 va (.ah (i:Int))=δ p/\Hs aV au σ (Iv h x*(Q*R))/\(∀σ' R',Hs aV au σ' (Q*R')->Γ p σ'=δ [h])/\∀σ' R',Hs aV au σ' (Iv h x*(Q*R'))->Hs aV au σ' (Sl iO 1 va ls*R'):=by
 obtain⟨p,F,e,h1,hC,K,back⟩:=VC H hx;obtain⟨h,rfl,K1⟩:=apu (cr (show F e*(iO e x*R)=iO e x*(F e*R) by ac_rfl) K);refine⟨p,h,F [h],h1,K1,λσ' R' K2=>hC.ld K2,λσ' R' K2=>?_⟩;have K3:=back (e:=[h]) (y:=x) (cr (show iO [h] x*(F [h]*R')=F [h]*(iO [h] x*R') by ac_rfl) (VA K2))
 rw[show ls.set i x=ls from by
  obtain⟨hi,h2⟩:=bG.1 hx
  rw[<-h2];exact List.set_getElem_self hi]at K3
 exact K3
abbrev eB(m:List (Int×Bool)):List (AV×AV):=m.map λp=>(ε p.1,χ p.2)
theorem aj6{id:Nat}{m:List (Int×Bool)}(h:σ[id]? =δ (.map (eB m)))(k:Int)(b:Bool):Uj .i (.om id) (.ah k) (.bool b) σ=δ (σ.set id (.map (eB (e9 k b m)))):=by simp only[Uj,A.fP,bz,h];rw[show χ b=(λx:Bool=>χ x) b from rfl,ym (eK:=λx:Int=>ε x) (eV:=λx:Bool=>χ x) (nj _)];rfl
theorem Um(m:List (Int×Bool))(k:Int):ZJ .i (iy (λx=>ε x) (λx=>χ x) m) (.ah k) (.bool ι) []=δ (.bool ((bh k m).getD ι)):=Eh (ek:=.i) (eK:=λx=>ε x) (eV:=λx=>χ x) (nj _) k ι rfl
theorem ad5{b id:Nat}{m:List (Int×Bool)}(hb:σ[b]? =δ (.box [.om id]))(hm:σ[id]? =δ (.map (eB m)))(k:Int):qw [.ah k,.op b 0] σ=δ (.bool ((bh k m).getD ι),σ):=by
 have hf:X0 σ 0 8 (.op b 0)=δ (.rp [iy (λx=>ε x) (λx=>χ x) m]):=by simp only[X0,ap9,if_false,hb,R6,A.sD,hm];rw[Ew 6 (λp hp=>by obtain⟨x,_,rfl⟩:=i6.1 hp;exact⟨th _ _,Iu _⟩)];rfl
 refine Cj (args':=[.ah k,.rp [iy (λx=>ε x) (λx=>χ x) m]]) rfl ?_ rfl ?_ rfl
 ·have h3:X0 σ 0 8 (.ah k)=δ (.ah k):=th _ _ σ 0 8;simp only[Xu,hf,h3,aO];rfl
 ·refine wrap_eq rfl ?_ rfl;show Dy (.ah k) (.rp [iy (λx=>ε x) (λx=>χ x) m]) []=_;unfold Dy;rw[je,bS,show Δ 0 [iy (λx=>ε x) (λx=>χ x) m]=δ (iy (λx=>ε x) (λx=>χ x) m)from rfl,bS];rw[Um,bS];rfl
end
end
section
open HP
abbrev eP(gs:List (Int×aK)):List (AV×AV):=gs.map λp=>(ε p.1,Y8 (aG p.2))
abbrev eL(ps:List (Int×List Int)):List (AV×AV):=ps.map λp=>(ε p.1,sl 1 aL p.2)
abbrev oI(kn:List (Int×(AV×List Int))):List (AV×AV):=kn.map λp=>(ε p.1,p.2.1)
def kj:List (Int×(AV×List Int))->HP
 |[]=>emp
 |e::r=>Iv e.2.1 e.2.2*kj r
structure Am where
 b:Nat
 g:Nat
 p:Nat
 k:Nat
 vu:AV
 U:List Int
 gs:List (Int×aK)
 ps:List (Int×List Int)
def bT(C:Am)(kn:List (Int×(AV×List Int))):HP:=blk C.b (.box [C.vu,.om C.g,.om C.p,.om C.k])*(Iv C.vu C.U*(blk C.g (.map (eP C.gs))*(blk C.p (.map (eL C.ps))*(blk C.k (.map (oI kn))*kj kn))))
def uX(C:Am)(kn:List (Int×(AV×List Int))):Prop:=∀e∈kn,∃g m,bh e.1 C.gs=δ g/\Rk C.gs C.ps m g/\e.2.2=uF C.U C.gs C.ps m g
theorem HS{ν:Type}{k:Int}{x:ν}:∀{l:List (Int×ν)},bh k l=δ x->(k,x)∈l
 |[],h=>by simp [bh]at h
 |(a,y)::l,h=>by
  rw[bh]at h;by_cases hk:k=a
  ·rw[aH hk]at h;injection h with h;subst h;subst hk;exact ZA
  ·rw[aF hk]at h;exact jU _ (HS h)
theorem UL{ν:Type}{k:Int}{x:ν}{e:Int×ν}:∀{l:List (Int×ν)},e∈e9 k x l->e=(k,x)\/e∈l
 |[],h=>by simp [e9]at h;exact .inl h
 |(a,y)::l,h=>by
  rw[e9]at h;by_cases hk:k=a
  ·rw[aH hk]at h;rcases fA.1 h with rfl|h
   ·subst hk;exact .inl rfl
   ·exact .inr (jU _ h)
  ·rw[aF hk]at h;rcases fA.1 h with rfl|h
   ·exact .inr ZA
   ·rcases UL h with h|h
    ·exact .inl h
    ·exact .inr (jU _ h)
theorem uX.put{C:Am}{kn:List (Int×(AV×List Int))}(h:uX C kn){k:Int}{v:AV}{g:aK}{m:Nat}(h1:bh k C.gs=δ g)(h2:Rk C.gs C.ps m g):uX C (e9 k (v,uF C.U C.gs C.ps m g) kn):=by
 intro e he;rcases UL he with rfl|he
 ·exact⟨g,m,h1,h2,rfl⟩
 ·exact h e he
theorem Vc{k:Int}{x:AV×List Int}:∀{kn:List (Int×(AV×List Int))},bh k kn=δ x->∃Q,kj kn=Iv x.1 x.2*Q
 |[],h=>by simp [bh]at h
 |(a,y)::l,h=>by
  rw[bh]at h;by_cases hk:k=a
  ·rw[aH hk]at h;injection h with h;subst h;exact⟨_,rfl⟩
  ·rw[aF hk]at h;obtain⟨Q,hQ⟩:=Vc h;exact⟨Iv y.1 y.2*Q,by rw[kj,hQ];ac_rfl⟩
section
variable {au σ : Heap} {R : HP}
theorem Vd{k:Int}{v:AV}{l:List Int}:∀{kn:List (Int×(AV×List Int))}{R:HP},Hs aV au σ (Iv v l*(kj kn*R))->Hs aV au σ (kj (e9 k (v,l) kn)*R)
 |[],R,H=>cr (show Iv v l*(kj []*R)=Iv v l*kj []*R from(sy _ _ _).symm) H
 |(a,y)::r,R,H=>by
  rw[e9];by_cases hk:k=a
  ·rw[aH hk,kj];exact eX (cr (show Iv v l*(kj ((a,y)::r)*R)=Iv y.1 y.2*(Iv v l*kj r*R) by rw[kj];ac_rfl) H)
  ·rw[aF hk,kj];have:=Vd (k:=k) (v:=v) (l:=l) (kn:=r) (R:=Iv y.1 y.2*R) (cr (by rw[kj];ac_rfl) H);exact cr (by ac_rfl) this
variable {C : Am} {kn : List (Int × (AV × List Int))}
theorem II(H:Hs aV au σ (bT C kn*R)):σ[C.b]? =δ (.box [C.vu,.om C.g,.om C.p,.om C.k]):=(eG (cr (by rw[bT,sy]) H)).2
theorem vP(H:Hs aV au σ (bT C kn*R)):Hs aV au σ (Iv C.vu C.U*(blk C.b (.box [C.vu,.om C.g,.om C.p,.om C.k])*(blk C.g (.map (eP C.gs))*(blk C.p (.map (eL C.ps))*(blk C.k (.map (oI kn))*(kj kn*R)))))):=cr (by rw[bT];ac_rfl) H
theorem WK(H:Hs aV au σ (bT C kn*R)):σ[C.g]? =δ (.map (eP C.gs)):=(eG (cr (show _=blk C.g (.map (eP C.gs))*(Iv C.vu C.U*(blk C.b (.box [C.vu,.om C.g,.om C.p,.om C.k])*(blk C.p (.map (eL C.ps))*(blk C.k (.map (oI kn))*(kj kn*R))))) by ac_rfl) (vP H))).2
theorem WL(H:Hs aV au σ (bT C kn*R)):σ[C.p]? =δ (.map (eL C.ps)):=(eG (cr (show _=blk C.p (.map (eL C.ps))*(Iv C.vu C.U*(blk C.b (.box [C.vu,.om C.g,.om C.p,.om C.k])*(blk C.g (.map (eP C.gs))*(blk C.k (.map (oI kn))*(kj kn*R))))) by ac_rfl) (vP H))).2
theorem H8(H:Hs aV au σ (bT C kn*R)):Hs aV au σ (blk C.k (.map (oI kn))*(kj kn*(Iv C.vu C.U*(blk C.b (.box [C.vu,.om C.g,.om C.p,.om C.k])*(blk C.g (.map (eP C.gs))*(blk C.p (.map (eL C.ps))*R)))))):=cr (by ac_rfl) (vP H)
theorem ahh(H:Hs aV au σ (blk C.k (.map (oI kn))*(kj kn*(Iv C.vu C.U*(blk C.b (.box [C.vu,.om C.g,.om C.p,.om C.k])*(blk C.g (.map (eP C.gs))*(blk C.p (.map (eL C.ps))*R))))))):Hs aV au σ (bT C kn*R):=cr (by rw[bT];ac_rfl) H
theorem aoW(H:Hs aV au σ (bT C kn*R)):((Γ (.op C.b 0) σ).bind λc=>Δ 0 c)=δ C.vu:=by simp only[Γ,II H,aO,R6,Δ,Y3];exact vX (vP H)
theorem Od(H:Hs aV au σ (bT C kn*R)):((Γ (.op C.b 1) σ).bind λc=>Δ 0 c)=δ (.om C.g):=by simp only[Γ,II H,aO];rfl
theorem Oe(H:Hs aV au σ (bT C kn*R)):((Γ (.op C.b 2) σ).bind λc=>Δ 0 c)=δ (.om C.p):=by simp only[Γ,II H,aO];rfl
theorem Xh(H:Hs aV au σ (bT C kn*R)):((Γ (.op C.b 3) σ).bind λc=>Δ 0 c)=δ (.om C.k):=by simp only[Γ,II H,aO];rfl
theorem ahe(H:Hs aV au σ (bT C kn*R)){f:Int}{g:aK}(h:bh f C.gs=δ g)(z:AV):ZJ .i (.om C.g) (.ah f) z σ=δ (.agg (aG g)):=by simp only[ZJ,A.fP,bz,R2,WK H,aO];rw[uN (eK:=λx:Int=>ε x) (eV:=λx:aK=>Y8 (aG x)) (nj _),h];rfl
theorem ahg(H:Hs aV au σ (bT C kn*R)){f:Int}{l:List Int}(h:bh f C.ps=δ l)(z:AV):ZJ .i (.om C.p) (.ah f) z σ=δ (sl 1 aL l):=by simp only[ZJ,A.fP,bz,R2,WL H,aO];rw[uN (eK:=λx:Int=>ε x) (eV:=λx:List Int=>sl 1 aL x) (nj _),h];rfl
theorem ahf(H:Hs aV au σ (bT C kn*R))(f:Int):A.pR .i (.om C.k) (.ah f) .aC σ=δ (.aJ [((bh f kn).map (·.1)).getD .aC,.bool (bh f kn).isSome]):=by simp only[A.pR,A.fP,bz,R2,(eG (H8 H)).2,aO];rw[uN (eK:=λx:Int=>ε x) (eV:=λx:AV×List Int=>x.1) (nj _)];cases bh f kn<;>rfl
theorem ahk(H:Hs aV au σ (bT C kn*R))(f:Int)(v:AV)(l:List Int):Uj .i (.om C.k) (.ah f) v σ=δ (σ.set C.k (.map (oI (e9 f (v,l) kn)))):=by simp only[Uj,A.fP,bz,(eG (H8 H)).2];rw[show v=(λx:AV×List Int=>x.1) (v,l)from rfl,ym (eK:=λx:Int=>ε x) (eV:=λx:AV×List Int=>x.1) (nj _)];rfl
theorem ag1{v:AV}{l:List Int}(hm:l.length+1<=cu)(H:Hs aV au σ (Iv v l*R)):∃v' σ',xF [v] σ=δ (v',σ')/\Hs aV au σ' (Iv v' (eJ l)*(Iv v l*R)):=
 yj (B:=aV) (λ_ _=>trivial) (cL:=[.s 1]) (r:=RV zk) (sL:=[v]) (ts:=[sl 1 aL l]) ⟨xW pQ H,trivial⟩ (aoy hm) H
theorem MX{v:AV}{l:List Int}{st f:Int}(hs:1<=st)(kM:st<=1000000)(hf:1<=f)(qd:f<=1000000)(hm:l.length+1<=cu)(H:Hs aV au σ (Iv v l*R)):∃v' σ',BI [v,.ah st,.ah f] σ=δ (v',σ')/\Hs aV au σ' (Iv v' (nv l st f)*(Iv v l*R)):=
 yj (B:=aV) (λ_ _=>trivial) (cL:=[.s 1]) (r:=A.i7 BM) (sL:=[v,.ah st,.ah f]) (ts:=[sl 1 aL l,.ah st,.ah f]) ⟨xW pQ H,IM st,IM f,trivial⟩ (aeO hs kM hf qd hm) H
theorem agU{v0:AV}{l0:List Int}{b id:Nat}{m:List (Int×Bool)}(hl:l0.length<1000000)(H:Hs aV au σ (Iv v0 l0*(blk b (.box [.om id])*(blk id (.map (eB m))*R)))):
  ∃v' σ',Dv (Z5 (λ_ _=>μ) [(77,qw)]) [v0,.fn 77 [.op b 0]] σ=δ (v',σ')/\Hs aV au σ' (Iv v' (l0.filter λx=>!((bh x m).getD ι))*(blk b (.box [.om id])*(blk id (.map (eB m))*R))):=by
 have yc:∀x∈l0,∀s,Hs aV au s (blk b (.box [.om id])*(blk id (.map (eB m))*R))->A.nC (Z5 (λ_ _=>μ) [(77,qw)]) (.fn 77 [.op b 0]) [.ah x] s=δ (.bool ((bh x m).getD ι),s):=λx _ s K=>ad5 (eG K).2 (eG (cr (show _=blk id (.map (eB m))*(blk b (.box [.om id])*R) by ac_rfl) K)).2 x
 obtain⟨_,hb⟩:=eG (eX H);obtain⟨_,hm⟩:=eG (cr (show _=blk id (.map (eB m))*(blk b (.box [.om id])*R) by ac_rfl) (eX H))
 have hf:X0 σ 0 8 (.fn 77 [.op b 0])=δ (.fn 77 [.rp [iy (λx=>ε x) (λx=>χ x) m]]):=by simp only[X0,Xu,ap9,if_false,hb,R6,A.sD,hm];rw[Ew 6 (λp hp=>by obtain⟨x,_,rfl⟩:=i6.1 hp;exact⟨th _ _,Iu _⟩)];rfl
 have Qf:sU (Z5 (λ_ _=>μ) [(77,qw)]) [v0,.fn 77 [.op b 0]] σ=δ (.ah (mT (λx=>(bh x m).getD ι) l0),σ):=by
  have XL:l0=[]->sU (Z5 (λ_ _=>μ) [(77,qw)]) [sl 1 aL ([]:List Int),.fn 77 [.op b 0]] σ=δ (.ah (mT (λx=>(bh x m).getD ι) l0),σ):=λe=>by rw[e];exact Rr _ [] (by unfold bf;simp) _ _ _ σ (λx hx=>by cases hx)
  rcases oQ H with⟨h0,rfl|rfl,_⟩|⟨gU,g0,rfl,K0⟩
  ·exact(vY rfl rfl rfl:sU (Z5 (λ_ _=>μ) [(77,qw)]) [.aC,.fn 77 [.op b 0]] σ=sU (Z5 (λ_ _=>μ) [(77,qw)]) [sl 1 aL ([]:List Int),.fn 77 [.op b 0]] σ).trans (XL h0)
  ·exact(vY rfl rfl rfl:sU (Z5 (λ_ _=>μ) [(77,qw)]) [.ez,.fn 77 [.op b 0]] σ=sU (Z5 (λ_ _=>μ) [(77,qw)]) [sl 1 aL ([]:List Int),.fn 77 [.op b 0]] σ).trans (XL h0)
  have h2:X0 σ 0 8 (.os gU g0 1 0 l0.length)=δ (sl 1 aL l0):=IJ pQ (eG K0).2 (ap9 _) 7;refine Cj (args':=[sl 1 aL l0,.fn 77 [.rp [iy (λx=>ε x) (λx=>χ x) m]]]) rfl (by simp only[Xu,h2,hf,aO];rfl) rfl (Rr _ l0 (by unfold bf;omega) _ _ _ [] λx hx=>?_) rfl;show qw [.ah x,.rp [iy (λx=>ε x) (λx=>χ x) m]] []=_;refine wrap_eq rfl ?_ rfl;show Dy (.ah x) (.rp [iy (λx=>ε x) (λx=>χ x) m]) []=_;unfold Dy;rw[je,bS,show Δ 0 [iy (λx=>ε x) (λx=>χ x) m]=δ (iy (λx=>ε x) (λx=>χ x) m)from rfl,bS];rw[Um,bS];rfl
 obtain⟨v',σ',e1,K⟩:=aiU (rS:=.fn 77 [.op b 0]) (p:=λx=>(bh x m).getD ι) hl (λid g n=>by simp [XC]) Qf yc H;refine⟨v',σ',?_,K⟩;unfold Dv Ξ;rw[Xp,bk,show ∀l,Ug [] l=l from λl=>by simp [Ug]];show(Dw _ v0 (.fn 77 [.op b 0]) σ).map _=_;rw[e1];simp [mU]
end
end
section
open HP
theorem OI(a b:Int):A.min (.ah a) (.ah b)=δ (.ah (min a b)):=by show δ (ε (if b<a then b else a))=_;congr 2;omega
theorem OG(a b:Int):A.max (.ah a) (.ah b)=δ (.ah (max a b)):=by show δ (ε (if b>a then b else a))=_;congr 2;omega
theorem oK{k j:Int}(h:k=j):Zt .i (.ah k) (.ah j)=δ (.bool η):=by rw[ef,fF h]
theorem oJ{k j:Int}(h:k≠j):Zt .i (.ah k) (.ah j)=δ (.bool ι):=by rw[ef,gq h]
def rq(l:List Int):List (Int×Bool):=l.foldl (λm x=>e9 x η m) []
theorem acX(l:List Int)(x:Int):rq (l++[x])=e9 x η (rq l):=by unfold rq;rw[VO];rfl
theorem acW(k:Int)(l:List Int):(bh k (rq l)).getD ι=decide (k∈l):=by
 have h:∀(l:List Int)(m:List (Int×Bool)),(bh k (l.foldl (λm x=>e9 x η m) m)).getD ι=(decide (k∈l)||(bh k m).getD ι):=by
  intro l;induction l with
  |nil=>intro m;simp
  |cons x l ih=>
   intro m;rw[Wv,ih,HH];by_cases hk:k=x
   ·simp [hk]
   ·simp [hk]
 rw[rq,h l []];simp [bh]
theorem Vu{k f t:Int}{n:Nat}(h:nF k f t n=0):1<=k/\k<=9/\(k=5->n=2)/\(6<=k->n=1)/\(k=9->1<=f/\f<=9999/\1<=t/\t<=9999):=by
 unfold nF at h;split at h
 ·cases h
 ·split at h
  ·cases h
  ·split at h
   ·cases h
   ·omega
theorem MD{B:Nat}:∀{ls:List (List Int)},(∀l∈ls,l.length<=B)->ls.flatten.length<=ls.length*B
 |[],_=>by simp
 |l::ls,h=>by
  rw[Ul,PU,ZT,fQ];have h1:=h l ZA;have h2:=MD (B:=B) (ls:=ls) λx hx=>h x (jU _ hx)
  omega
section
variable {au σ : Heap} {R : HP} {C : Am}
theorem agG{kn:List (Int×(AV×List Int))}{f:Int}{v:AV}{l:List Int}(H:Hs aV au σ (Iv v l*(bT C kn*R))):Hs aV au (σ.set C.k (.map (oI (e9 f (v,l) kn)))) (bT C (e9 f (v,l) kn)*R):=by have K:=qW (b':=.map (oI (e9 f (v,l) kn))) (H8 (cr (show _=bT C kn*(Iv v l*R) by ac_rfl) H)) trivial;have K2:=Vd (k:=f) (v:=v) (l:=l) (kn:=kn) (cr (show _=Iv v l*(kj kn*(blk C.k (.map (oI (e9 f (v,l) kn)))*(Iv C.vu C.U*(blk C.b (.box [C.vu,.om C.g,.om C.p,.om C.k])*(blk C.g (.map (eP C.gs))*(blk C.p (.map (eL C.ps))*R)))))) by ac_rfl) K);exact ahh (cr (by ac_rfl) K2)
theorem Sc{kn:List (Int×(AV×List Int))}{f:Int}{v:AV}{l:List Int}(hl:l.length<1000000)(hq:bh f kn=δ (v,l))(H:Hs aV au σ (bT C kn*R)):∃v' σ',xC [v] σ=δ (v',σ')/\Hs aV au σ' (Iv v' l*(bT C kn*R)):=by obtain⟨Q,hQ⟩:=Vc hq;have hQ:kj kn=Iv v l*Q:=hQ;have K:=H8 H;rw[hQ]at K;obtain⟨v',s',e,K2⟩:=aeK (by unfold cu;omega) (cr (show _=Iv v l*(blk C.k (.map (oI kn))*(Q*(Iv C.vu C.U*(blk C.b (.box [C.vu,.om C.g,.om C.p,.om C.k])*(blk C.g (.map (eP C.gs))*(blk C.p (.map (eL C.ps))*R)))))) by ac_rfl) K);exact⟨v',s',e,cr (by rw[bT,hQ];ac_rfl) K2⟩
theorem UQ{v h:AV}{ls:List (List Int)}{x:List Int}(hl:ls.length+1<=5864062014805)(H:Hs aV au σ (Iv h x*(Sl iO 1 v ls*R))):∃v' σ',ZI 1 (140737488355328 / 24) v (.sl 1 [[h]]) σ=δ (v',σ')/\Hs aV au σ' (Sl iO 1 v' (ls++[x])*R):=
 Nt (ys:=[[h]]) (xs:=[x]) (cr (show iO [h] x*(Sl iO 1 v ls*R)=Sl iO 1 v ls*(els iO [[h]] [x]*R) by rw[afD];ac_rfl) (VA H)) (by simpa using hl) (λ_ _ _ _=>trivial)
theorem XW{h:AV}(hc:ZS h=δ h):(((ZS h).bind λv=>δ [v]).bind λfS=>(Zv 0 fS [ZK]).bind λiQ=>δ iQ).bind (λcs=>δ (U0 1 (dW 1 1 cs)))=δ (.sl 1 [[h]]):=by rw[hc];rfl
theorem WM(hU:C.U.length<=1000000)(hlen:∀n p,Rk C.gs C.ps n p->(uF C.U C.gs C.ps n p).length<1000000):∀(n N:Nat)(p:aK)(kn:List (Int×(AV×List Int)))(au σ:Heap)(R:HP),n<=N->Rk C.gs C.ps n p->uX C kn->Hs aV au σ (bT C kn*R)->
  ∃v σ' vB,fuel ze N 79 [.op C.b 0,.agg (aG p)] σ=δ (v,σ')/\uX C vB/\Hs aV au σ' (Iv v (uF C.U C.gs C.ps n p)*(bT C vB*R))
 |0,N,p,kn,au,σ,R,hn,hr,hk,H=>hr.elim
 |n+1,0,p,kn,au,σ,R,hn,hr,hk,H=>by omega
 |n+1,N+1,p,kn,au,σ,R,hn,F7,hkn,H=>by
  have hL:=hlen _ _ F7;have hr:=F7;rw[Rk]at hr;obtain⟨hpt,ha,hargs,Qe,Dc⟩:=hr
  have wY:∀l∈p.args.map (uF C.U C.gs C.ps n),l.length<1000000:=λl hl=>by obtain⟨a,h1,rfl⟩:=i6.1 hl;exact hlen _ _ (hargs a h1)
  suffices h:∃b:AV×Heap,Bu (fuel ze N) (.op C.b 0) (.agg (aG p)) σ=δ b/\∃vB,uX C vB/\Hs aV au b.2 (Iv b.1 (uF C.U C.gs C.ps (n+1) p)*(bT C vB*R)) by obtain⟨⟨v,σ'⟩,h1,vB,h2,h3⟩:=h;refine⟨v,σ',vB,?_,h2,h3⟩;show Ξ ι [] .k (T3 (Bu (fuel ze N))) [.op C.b 0,.agg (aG p)] σ=_;unfold Ξ;rw[Xp,bk];show(Bu (fuel ze N) (.op C.b 0) (.agg (aG p)) σ).map _=_;rw[h1,ff,mU]
  have g0:Δ 0 (aG p)=δ (.ah p.kind):=by rw[aA];rfl
  have g1:Δ 1 (aG p)=δ (.ah p.bg):=by rw[aA];rfl
  have g2:Δ 2 (aG p)=δ (.ah p.to):=by rw[aA];rfl
  have g3:Δ 3 (aG p)=δ (sl 4 aG p.args):=by rw[aA];rfl
  have nc:A.jJ (.op C.b 0)=δ (.op C.b 0):=rfl;have FR:SN 0 (.op C.b 0)=δ (.op C.b 0):=rfl;have PS:SN 1 (.op C.b 0)=δ (.op C.b 1):=rfl;have PT:SN 2 (.op C.b 0)=δ (.op C.b 2):=rfl;have fa3:SN 3 (.op C.b 0)=δ (.op C.b 3):=rfl;obtain⟨rec,dG⟩:∃rec,rec=fuel ze N:=⟨_,rfl⟩
  have hfind:∀(q:aK)(kn:List (Int×(AV×List Int)))(σ:Heap)(R:HP),Rk C.gs C.ps n q->uX C kn->Hs aV au σ (bT C kn*R)->∃v σ' vB,rec 79 [.op C.b 0,.agg (aG q)] σ=δ (v,σ')/\uX C vB/\Hs aV au σ' (Iv v (uF C.U C.gs C.ps n q)*(bT C vB*R)):=λq kn σ R h1 h2 h3=>by rw[dG];exact WM hU hlen n N q kn au σ R (by omega) h1 h2 h3
  rw[<-dG];have hml:p.args.length<=bf:=by unfold bf;omega
  unfold Bu;rw[sY,bS,g3,bS,cy,bS];refine nw (Q:=λq=>∃va u fL,q.1=.exit 0/\q.2.1=[.lbx (aG p),va,u]/\uX C fL/\Hs aV au q.2.2 (Sl iO 1 va (p.args.map (uF C.U C.gs C.ps n))*(bT C fL*R))) (kq p.args (λi vs s=>∃va fL,vs=[.lbx (aG p),va,.ah (i:Int)]/\uX C fL/\Hs aV au s (Sl iO 1 va ((p.args.take i).map (uF C.U C.gs C.ps n))*(bT C fL*R))) ?_ ?_ ⟨.aC,kn,rfl,hkn,kO H (.inl rfl)⟩) ?_
  ·rintro i x vs s hx ⟨va,fL,rfl,hk1,K⟩;have a1:ZN (.ah (i:Int)) (.ah (p.args.length:Int))=δ (.bool η):=dP hx;have a2:Zn (.ah (i:Int)) (.ah 1)=δ (.ah ((i+1:Nat):Int)):=dY hx hml;have a3:Zp 4 (sl 4 aG p.args) (.ah (i:Int))=δ (.rp (aG x)):=ey hx;obtain⟨v,s1,Gn,e1,hk2,K1⟩:=hfind x fL s (Sl iO 1 va ((p.args.take i).map (uF C.U C.gs C.ps n))*R) (hargs x (ct hx)) hk1 (cr (by ac_rfl) K);obtain⟨Rc,s2,e2,K2⟩:=UQ (by have:=R8 i p.args;simp;omega) (cr (show _=Iv v (uF C.U C.gs C.ps n x)*(Sl iO 1 va ((p.args.take i).map (uF C.U C.gs C.ps n))*(bT C Gn*R)) by ac_rfl) K1);refine⟨_,s2,?_,Rc,Gn,rfl,hk2,?_⟩
   ·simp only[bN,cW,a1,a2,a3,bS,cT,je,vR,sY,qV _ _ (rfl:([(ε 0),(ε 0),(ε 0),ZK]:aq).length=4),e1,XW (vX K1),e2]
   ·rw[Z9,hx,YA,Zw];exact K2
  ·rintro vs s ⟨va,fL,rfl,hk1,K⟩;rw[ZP]at K;refine⟨(.exit 0,[.lbx (aG p),va,.ah (p.args.length:Int)],s),?_,by simp,va,_,fL,rfl,rfl,hk1,K⟩;simp only[bN,cW,dX,bS,cF]
  rintro⟨q1,q2,s⟩ ⟨va,u,fL,rfl,rfl,hk1,K⟩;simp only at K;clear H hkn;have K0:=eX K;have d0:=aoW K0;have d1:=Od K0;have d2:=Oe K0;have d3:=Xh K0;rw[kK];simp only[bN,cW,vn,bS,g0,g1,g2,nc,FR,PS,PT,fa3,d0,d1,d2,d3];obtain⟨yQ,hk9,Qh,hk6,Ov⟩:=Vu hpt;rw[uF]at hL ⊢
  have hrow:∀i:Nat,i<p.args.length->(p.args.map (uF C.U C.gs C.ps n))[i]? =δ ((p.args.map (uF C.U C.gs C.ps n)).getD i []):=λi hi=>by rw[VY,tG,dg hi];rfl
  have tV:∀i:Nat,((p.args.map (uF C.U C.gs C.ps n)).getD i []).length<1000000:=λi=>by
   by_cases hi:i<p.args.length
   ·exact wY _ (ct (hrow i hi))
   ·rw[VY,kD (by simp;omega)];simp
  have Ox:(p.args.map (uF C.U C.gs C.ps n)).length=p.args.length:=Zk ..;generalize p.args.map (uF C.U C.gs C.ps n)=ls at K hrow tV wY hL Ox ⊢;unfold CG at hL ⊢;by_cases h1:p.kind=1
  ·rw[aH h1]at hL ⊢;rw[oK h1,bS,cT,OI,bS,OG,bS,IS (vP K0),bS];refine nw (Q:=λq=>∃w u,q.1=.exit 3/\q.2.1=[.lbx (aG p),w,u]/\Hs aV au q.2.2 (Iv w (C.U.filter λn=>aU n (min p.bg p.to) (max p.bg p.to))*(bT C fL*R))) (kq C.U (λi vs s=>∃w,vs=[.lbx (aG p),w,.ah (i:Int)]/\Hs aV au s (Iv w ((C.U.take i).filter λn=>aU n (min p.bg p.to) (max p.bg p.to))*(bT C fL*R))) ?_ ?_ ⟨.aC,rfl,kO K0 (.inl rfl)⟩) ?_
   ·rintro i x vs s2 hx ⟨w,rfl,K2⟩;have a1:ZN (.ah (i:Int)) (.ah (C.U.length:Int))=δ (.bool η):=dP hx;have a2:Zn (.ah (i:Int)) (.ah 1)=δ (.ah ((i+1:Nat):Int)):=dY hx (by unfold bf;omega);obtain⟨pp,f1,f2⟩:=EF (vP (eX K2)) hx;rw[Ni hx];by_cases hlo:min p.bg p.to<=x
    ·by_cases hhi:x<=max p.bg p.to
     ·rw[aH (show aU x (min p.bg p.to) (max p.bg p.to)=η from fF ⟨hlo,hhi⟩)];obtain⟨w',s3,e1,K3⟩:=uP (B:=aV) (x:=x) (λ_ _ _ _=>trivial) (by have:=Nj (p:=λn=>aU n (min p.bg p.to) (max p.bg p.to)) C.U i;unfold cu;omega) K2;refine⟨_,s3,?_,w',rfl,K3⟩;simp only[bN,cW,a1,a2,f1,f2,bS,cT,jS,EU,fF hlo,fF hhi,gT,Gq,vf,e1]
     ·rw[aF (show ¬aU x (min p.bg p.to) (max p.bg p.to)=η from λh=>hhi (of_decide_eq_true h).2)];refine⟨_,s2,?_,w,rfl,K2⟩;simp only[bN,cW,a1,a2,f1,f2,bS,cT,cF,jS,EU,fF hlo,gq hhi,gT,Gq]
    ·rw[aF (show ¬aU x (min p.bg p.to) (max p.bg p.to)=η from λh=>hlo (of_decide_eq_true h).1)];refine⟨_,s2,?_,w,rfl,K2⟩;simp only[bN,cW,a1,a2,f1,f2,bS,cT,cF,jS,EU,gq hlo,Yq,QV]
   ·rintro vs s2 ⟨w,rfl,K2⟩;rw[ZP]at K2;refine⟨(.exit 3,[.lbx (aG p),w,.ah (C.U.length:Int)],s2),?_,by simp,w,_,rfl,rfl,K2⟩;simp only[bN,cW,dX,bS,cF]
   ·rintro⟨q1,q2,s2⟩ ⟨w,u2,rfl,rfl,K2⟩;simp only at K2;unfold CJ;rw[kK];simp only[bN,cW,vn,bS,g1,g2,Jb];by_cases hft:p.to<p.bg
    ·rw[aH hft,fF hft,cT];obtain⟨s3,e1,K3⟩:=I6 (by have:=Wf (λn=>aU n (min p.bg p.to) (max p.bg p.to)) C.U;omega) K2;exact⟨(w,s3),by simp only[e1,bS],fL,hk1,K3⟩
    ·rw[aF hft,gq hft,cF];exact⟨(w,s2),by simp only[bS],fL,hk1,K2⟩
  rw[aF h1]at hL ⊢;rw[oJ h1,bS,cF];by_cases h2:p.kind=2
  ·rw[aH h2]at hL ⊢;obtain⟨g,yP,AO⟩:=Qe h2;simp only[yP]at hL ⊢;rw[oK h2,bS,cT,ahf K0,bS];cases hq:bh p.bg fL with
   |some x=>
    obtain⟨v,l⟩:=x;obtain⟨g',m,q1,q2,q3⟩:=hk1 _ (HS hq);simp only at q1 q3;obtain rfl:g'=g:=aqr (q1.symm.trans yP)
    have hl:l=uF C.U C.gs C.ps n g':=by rw[q3,<-I8 C.U C.gs C.ps q2 (Nat.le_max_left m n),<-I8 C.U C.gs C.ps AO (Nat.le_max_right m n)]
    rw[hl]at hq;obtain⟨v',s',e1,K1⟩:=Sc hL hq K0;refine⟨(v',s'),?_,fL,hk1,K1⟩;simp only[ff,Sk,Option.isSome_some,zU,ext1,bS,wI,cF,bN,e1]
   |none=>obtain⟨v,s1,Gn,e1,hk2,K1⟩:=hfind g fL s R AO hk1 K0;have e2:=Xh (eX K1);have e3:=ahk (eX K1) p.bg v (uF C.U C.gs C.ps n g);have K2:=agG (f:=p.bg) K1;obtain⟨v',s',e4,K3⟩:=Sc hL (show bh p.bg (e9 p.bg (v,uF C.U C.gs C.ps n g) Gn)=δ (v,uF C.U C.gs C.ps n g) by rw[HH,aH rfl]) K2;refine⟨(v',s'),?_,_,hk2.put yP AO,K3⟩;simp only[Option.map_none,UG,Option.isSome_none,zU,ext1,bS,wG,cT,ahe K0 yP,e1,e2,e3,bN,e4]
  rw[aF h2]at hL ⊢;rw[oJ h2,bS,cF];by_cases h3:p.kind=3
  ·rw[aH h3]at hL ⊢;obtain⟨l,hl⟩:=Dc h3;simp only[hl,Sk]at hL ⊢;obtain⟨v,s1,e1,_,K1⟩:=aiT (l:=l) (by unfold cu;omega) K0;refine⟨(v,s1),?_,fL,hk1,K1⟩;simp only[oK h3,bS,cT,ahg K0 hl,e1]
  rw[aF h3]at hL ⊢;rw[oJ h3,bS,cF];by_cases h4:p.kind=4
  ·rw[aH h4]at hL ⊢;have hfl:ls.flatten.length<=200*1000000:=ZL (MD λl hl=>Nat.le_of_lt (wY l hl)) (mQ _ (by omega));obtain⟨v,s1,e1,K1⟩:=WH (by unfold bf;omega) (by omega) K;obtain⟨v2,s2,e2,K2⟩:=ag1 (by unfold cu;omega) K1;refine⟨(v2,s2),?_,fL,hk1,eX (cr (show _=(Iv v ls.flatten*Sl iO 1 va ls)*(Iv v2 (eJ ls.flatten)*(bT C fL*R)) by ac_rfl) K2)⟩;simp only[oK h4,bS,cT,e1,e2]
  rw[aF h4]at hL ⊢;rw[oJ h4,bS,cF];by_cases h5:p.kind=5
  ·rw[aH h5]at hL ⊢;have hn2:=Qh h5;obtain⟨x1,hx1⟩:∃x1,x1=ls.getD 1 []:=⟨_,rfl⟩
   obtain⟨x0,hx0⟩:∃x0,x0=ls.getD 0 []:=⟨_,rfl⟩
   have r1:=hrow 1 (by omega);have r0:=hrow 0 (by omega);have l1:=tV 1;have l0:=tV 0;rw[<-hx1]at r1 l1 hL ⊢;rw[<-hx0]at r0 l0 hL ⊢;rw[oK h5,bS,cT];have K1:=tj (b:=.map (eB [])) K trivial;have K2:=tj (b:=.box [.nm]) K1 trivial;obtain⟨id,hid⟩:∃id,id=Ym s:=⟨_,rfl⟩
   obtain⟨bb,wZ⟩:∃bb,bb=Ym (s++[ZH []]):=⟨_,rfl⟩
   have ai8:bb=Ym (s++[ZH (eB [])]):=wZ;rw[<-ai8,<-hid]at K2
   have aoq:ZX (.op bb 0) [.om id] (s++[ZH []]++[apF [AV.nm]])=δ ((s++[ZH []]++[apF [AV.nm]]).set bb (.box [.om id])):=by have:=(eG K2).2;have t:(s++[ZH []]++[apF [AV.nm]])[bb]? =δ (.box [.nm]):=this;simp only[ZX,t];rfl
   have K3:=qW (b':=.box [.om id]) K2 trivial;rw[<-hid,<-wZ];rw[show((ZS (V9 id)).bind λv=>δ [v])=δ [.om id]from rfl,bS,aoq,bS];obtain⟨s3,Qq⟩:∃s3,s3=(s++[ZH []]++[apF [AV.nm]]).set bb (.box [.om id]):=⟨_,rfl⟩
   have K3':Hs aV au s3 (blk bb (.box [.om id])*(blk id (.map (eB []))*(Sl iO 1 va ls*(bT C fL*R)))):=by rw[Qq];exact K3
   rw[<-Qq];clear K3 K2 K1 K Qq aoq;obtain⟨p1,v1,Q1,f1,K4,f2,back⟩:=rowAt (cr (show _=Sl iO 1 va ls*(blk bb (.box [.om id])*(blk id (.map (eB []))*(bT C fL*R))) by ac_rfl) K3') r1;have f3:=f2 s3 _ (eX K4);rw[show Zp 1 va (.ah 1)=δ p1 from f1,bS,f3,bS,show Δ 0 [v1]=δ v1 from vX K4,bS,IS K4,bS];refine nw (Q:=λq=>∃u,q.1=.exit 5/\q.2.1=[u]/\Hs aV au q.2.2 (Iv v1 x1*(Q1*(blk bb (.box [.om id])*(blk id (.map (eB (rq x1)))*(bT C fL*R)))))) (kq x1 (λi vs s=>vs=[.ah (i:Int)]/\Hs aV au s (Iv v1 x1*(Q1*(blk bb (.box [.om id])*(blk id (.map (eB (rq (x1.take i))))*(bT C fL*R)))))) ?_ ?_ ⟨rfl,K4⟩) ?_
   ·rintro i x vs s4 hx ⟨rfl,K5⟩;have a1:ZN (.ah (i:Int)) (.ah (x1.length:Int))=δ (.bool η):=dP hx;have a2:Zn (.ah (i:Int)) (.ah 1)=δ (.ah ((i+1:Nat):Int)):=dY hx (by unfold bf;omega);obtain⟨pp,b1,b2⟩:=EF K5 hx;have b3:=(eG (cr (show _=blk bb (.box [.om id])*(Iv v1 x1*(Q1*(blk id (.map (eB (rq (x1.take i))))*(bT C fL*R)))) by ac_rfl) K5)).2;have b4:((Γ (.op bb 0) s4).bind λc=>Δ 0 c)=δ (.om id):=by simp only[Γ,b3,aO];rfl
    have K6:=cr (show _=blk id (.map (eB (rq (x1.take i))))*(Iv v1 x1*(Q1*(blk bb (.box [.om id])*(bT C fL*R)))) by ac_rfl) K5;have b5:=aj6 (eG K6).2 x η;have K7:=qW (b':=.map (eB (e9 x η (rq (x1.take i))))) K6 trivial;refine⟨_,s4.set id (.map (eB (e9 x η (rq (x1.take i))))),?_,rfl,?_⟩
    ·simp only[bN,a1,a2,b1,b2,bS,cT,jS,b4,b5]
    ·rw[Z9,hx,YA,acX];exact cr (by ac_rfl) K7
   ·rintro vs s4 ⟨rfl,K5⟩;rw[ZP]at K5;refine⟨(.exit 5,[.ah (x1.length:Int)],s4),?_,by simp,_,rfl,rfl,K5⟩;simp only[bN,dX,bS,cF]
   ·rintro⟨q1,q2,s4⟩ ⟨u2,rfl,rfl,K5⟩;simp only at K5;rw[kK];have K6:=back s4 _ K5;obtain⟨p0,v0,Q0,c1,K7,c2,_⟩:=rowAt K6 r0;have c3:=c2 s4 _ (eX K7);obtain⟨v',s5,e5,K8⟩:=agU l0 (cr (show _=Iv v0 x0*(blk bb (.box [.om id])*(blk id (.map (eB (rq x1)))*(Q0*(bT C fL*R)))) by ac_rfl) K7);simp only[acW]at K8;refine⟨(v',s5),?_,fL,hk1,eX (cr (show _=(blk bb (.box [.om id])*(blk id (.map (eB (rq x1)))*Q0))*(Iv v' (x0.filter λx=>!decide (x∈x1))*(bT C fL*R)) by ac_rfl) K8)⟩;rw[show Zp 1 va (.ah 0)=δ p0 from c1,bS,c3,bS,show Δ 0 [v0]=δ v0 from vX K7,bS,e5,bS]
  rw[aF h5]at hL ⊢;rw[oJ h5,bS,cF];obtain⟨p0,v0,Q0,c1,K7,c2,_⟩:=rowAt K (hrow 0 (by omega));have vq:Zp 1 va (.ah 0)=δ p0:=c1;have c3:=c2 s _ (eX K7);have c4:Δ 0 [v0]=δ v0:=vX K7;have l0:=tV 0;have yT:(ls.getD 0 []).length+1<=cu:=by unfold cu;omega
  by_cases h6:p.kind=6
  ·rw[aH h6]at hL ⊢;obtain⟨v',s',e1,K8⟩:=MX (st:=2) (f:=1) (by omega) (by omega) (by omega) (by omega) yT K7;refine⟨(v',s'),?_,fL,hk1,eX (cr (show _=(Iv v0 (ls.getD 0 [])*Q0)*(Iv v' (nv (ls.getD 0 []) 2 1)*(bT C fL*R)) by ac_rfl) K8)⟩;rw[oK h6,bS,cT,vq,bS,c3,bS,c4,bS,e1,bS]
  rw[aF h6]at hL ⊢;rw[oJ h6,bS,cF];by_cases h7:p.kind=7
  ·rw[aH h7]at hL ⊢;obtain⟨v',s',e1,K8⟩:=MX (st:=2) (f:=2) (by omega) (by omega) (by omega) (by omega) yT K7;refine⟨(v',s'),?_,fL,hk1,eX (cr (show _=(Iv v0 (ls.getD 0 [])*Q0)*(Iv v' (nv (ls.getD 0 []) 2 2)*(bT C fL*R)) by ac_rfl) K8)⟩;rw[oK h7,bS,cT,vq,bS,c3,bS,c4,bS,e1,bS]
  rw[aF h7]at hL ⊢;rw[oJ h7,bS,cF];by_cases h8:p.kind=8
  ·rw[aH h8]at hL ⊢;obtain⟨s',e1,K8⟩:=I6 (by omega) K7;have c5:=c2 s' _ (eX K8);refine⟨(v0,s'),?_,fL,hk1,eX (cr (show _=Q0*(Iv v0 (ls.getD 0 []).reverse*(bT C fL*R)) by ac_rfl) K8)⟩;rw[oK h8,bS,cT,vq,bS,c3,bS,c4,bS,e1,bS,bS];simp only;rw[c5,bS,c4,bS]
  rw[aF h8]at hL ⊢;rw[oJ h8,bS,cF];have h9:p.kind=9:=by omega
  obtain⟨t1,t2,t3,t4⟩:=Ov h9;obtain⟨v',s',e1,K8⟩:=MX (st:=p.bg) (f:=p.to) t1 (by omega) t3 (by omega) yT K7;refine⟨(v',s'),?_,fL,hk1,eX (cr (show _=(Iv v0 (ls.getD 0 [])*Q0)*(Iv v' (nv (ls.getD 0 []) p.bg p.to)*(bT C fL*R)) by ac_rfl) K8)⟩;rw[vq,bS,c3,bS,c4,bS,e1,bS]
end
end
section
def yH(f:Int->List Int):Nat->List Int->List Int->List Int
 |0,_,seen=>seen
 |_+1,[],seen=>seen
 |m+1,n::st,seen=>yH f m (fM (f n) st seen).1 (fM (f n) st seen).2
theorem Uy(f:Int->List Int)(m:Nat)(seen:List Int):yH f m [] seen=seen:=by cases m<;>rfl
def zL:bl:=⟨0,.mk 0 0 0 []⟩
def jE(l:List bl)(n:Int):Option bl:=l.find? λg=>decide (g.aE=n)
theorem HI(l:List bl)(hl:l.length<=bf)(n:Int):zj l n=δ ((jE l n).getD zL,(jE l n).isSome):=by
 unfold zj
 rw[Mg (p:=λg=>decide (g.aE=n)) (r:=λg=>(g,η)) hl (λi x _=>by
  by_cases h:x.aE=n<;>simp [h]) rfl]
 unfold jE;cases l.find? λg=>decide (g.aE=n)<;>rfl
def fV(l:List bl)(n:Int):List Int:=eN 2 ((jE l n).getD zL).pick
def fI(l:List bl):List Int:=l.flatMap λg=>eN 2 g.pick
theorem IN(l:List bl)(n:Int):fV l n=nx (gp l) n:=by
 unfold fV nx gp jE;induction l with
 |nil=>rfl
 |cons g l ih=>
  rw[dH,bh,List.find?_cons];by_cases h:g.aE=n
  ·rw[aH h.symm,fF h];rfl
  ·rw[aF (Ne.symm h),gq h];exact ih
theorem Ic(l:List bl):fI l=iN (gp l):=by unfold fI iN gp;rw[List.flatMap_map]
def td(l:List bl)(a:Int):List Int:=yH (fV l) (2*(fI l).length+1) [a] []
theorem abV{σ:Heap}{lo hi:Nat}{v:AV}{xs:List Int}(h:rJ σ lo hi v xs)(hl:xs.length<=bf)(k:Int):lB [v,.ah k] σ=δ (.bool (decide (k∈xs)),σ):=by
 have e0:(xs.any λx=>decide (k=x))=decide (k∈xs):=by rw[kE];simp
 rcases h with⟨rfl,rfl⟩|⟨id,g,rfl,a,b,c,e⟩
 ·have h0:=zb [] hl k σ;rw[e0]at h0;exact(vY rfl rfl rfl:lB [.aC,.ah k] σ=lB [sl 1 aL ([]:List Int),.ah k] σ).trans h0
 ·refine Cj (args':=[sl 1 aL xs,.ah k]) rfl ?_ rfl (by rw[<-e0];exact zb xs hl k []) rfl;have h1:rJ σ 0 hi (.os id g 1 0 xs.length) xs:=.inr ⟨id,g,rfl,by omega,b,c,e⟩;have h2:=h1.bA (bR 0) 7;rw[an2 e]at h2;have h3:X0 σ 0 8 (.ah k)=δ (.ah k):=th _ _ σ 0 8;simp only[Xu,h2,h3,aO];rfl
theorem wr2{s:List Sh}{ro:Sh}{r:AV->AV->Heap->aB}{x y v v':AV}{σ:Heap}(h:[x,y].any T5=ι)(e1:Ug s [x,y]=[x,y])(e2:S7 ro v=v')(e:r x y σ=δ (v,σ)):Ξ η s ro (T3 r) [x,y] σ=δ (v',σ):=by refine wrap_eq h ?_ e2;rw[e1];exact e
structure RQ (au : Heap) (vo vt : AV) (st seen : List Int) (σ : Heap) : Prop where
 len:au.length<σ.length
 pre:σ.take au.length=au
 stk:nJ σ au.length vt st
 out:rJ σ (au.length+1) σ.length vo seen
theorem aeg(l:List bl)(hn:l.length<=bf)(hs:∀g∈l,bH g.pick<=2000000)(hU:(fI l).length+1<=cu)(a:Int)(au:Heap):KV [sl 5 bw l,.ah a] au=δ (sl 1 aL (td l a),au):=by
 have hVm:∀n k,k∈fV l n->k∈fI l:=λn k h=>by rw[IN]at h;rw[Ic];exact IP h
 have hVl:∀n,(fV l n).length<=(fI l).length:=λn=>by rw[IN,Ic];exact V7 _ _
 have hV:(fI l).length<=bf:=by unfold cu at hU;unfold bf;omega
 unfold cu at hU
 have hz:∀n,bH ((jE l n).getD zL).pick<=2000000:=λn=>by
  cases h:jE l n with
  |none=>decide
  |some g=>exact hs g (wB h)
 have inner:∀(n:Int)(vo vt:AV)(jj gY:List Int)(σ1:Heap)(M0:Nat),gA (fV l) (fI l) a (δ (n,fV l n)) jj gY->RQ au vo vt jj gY σ1->iA (fI l) jj gY<=M0->gY.length+jk (fI l) gY<=(fI l).length->
   ∃q,Zo ((λgh uc=>
      (ZN (aj gh 2) (.ah ((fV l n).length:Int))).bind λdz=>
      ξ dz (
       (Zp 1 (sl 1 aL (fV l n)) (aj gh 2)).bind λew=>
       ((Γ ew uc).bind λrN=>Δ 0 rN).bind λcU=>
       (lB [(aj gh 0),cU] uc).bind λfC=>
       (ZR fC.1).bind λfN=>
       (ξ fN (
        ((((ZS cU).bind λv=>δ [v]).bind λjd=>(Zv 0 jd [(ε 0)]).bind λp9=>δ p9).bind λcs=>δ (U0 1 (dW 1 1 cs))).bind λkP=>
        (ZI 1 (140737488355328 / 8) (aj gh 0) kP fC.2).bind λjh=>
        ((((ZS cU).bind λv=>δ [v]).bind λwO=>(Zv 0 wO [(ε 0)]).bind λwP=>δ wP).bind λcs=>δ (U0 1 (dW 1 1 cs))).bind λjo=>
        (ZI 1 (140737488355328 / 8) (aj gh 1) jo jh.2).bind λiC=>
        δ ([jh.1,iC.1],iC.2)) (
        δ ([(aj gh 0),(aj gh 1)],fC.2))).bind λr32=>
       (Zn (aj gh 2) (ε 1)).bind λlW=>
       δ (Λ,[(aj r32.1 0),(aj r32.1 1),lW],r32.2)) (
       δ (φ 2,[(aj gh 0),(aj gh 1),(aj gh 2)],uc)))) [vo,vt,.ah 0] σ1=δ q/\(q.1=.exit 2/\∃J4 J5 u,q.2.1=[J4,J5,u]/\gA (fV l) (fI l) a μ (fM (fV l n) jj gY).1 (fM (fV l n) jj gY).2/\RQ au J4 J5 (fM (fV l n) jj gY).1 (fM (fV l n) jj gY).2 q.2.2/\iA (fI l) (fM (fV l n) jj gY).1 (fM (fV l n) jj gY).2<=M0/\(fM (fV l n) jj gY).2.length+jk (fI l) (fM (fV l n) jj gY).2<=(fI l).length):=by
  intro n vo0 vt0 jj gY σ1 M0 H0 R0 PZ hK0;obtain⟨T,hT⟩:∃T,T=fM (fV l n) jj gY:=⟨_,rfl⟩
  rw[<-hT];have hxl:(fV l n).length<=bf:=ZL (hVl n) hV;refine kq (fV l n) (λi v σ=>∃vo vt st seen,v=[vo,vt,.ah (i:Int)]/\gA (fV l) (fI l) a (δ (n,(fV l n).drop i)) st seen/\RQ au vo vt st seen σ/\iA (fI l) st seen<=M0/\seen.length+jk (fI l) seen<=(fI l).length/\fM ((fV l n).drop i) st seen=T) ?_ ?_ ⟨vo0,vt0,jj,gY,rfl,by simpa using H0,R0,PZ,hK0,by simp [hT]⟩
  ·rintro i x v σ hx ⟨vo,vt,st,seen,rfl,H,R,hM,hK,hE⟩;have hi:=(bG.1 hx).1;have C8:(fV l n).drop i=x::(fV l n).drop (i+1):=by rw[Ss hi,(bG.1 hx).2]
   rw[C8]at H hE;rw[fM]at hE;have a1:ZN (.ah (i:Int)) (.ah ((fV l n).length:Int))=δ (.bool η):=dP hx;have a2:Zn (.ah (i:Int)) (.ah 1)=δ (.ah ((i+1:Nat):Int)):=dY hx hxl;have a3:Zp 1 (sl 1 aL (fV l n)) (.ah (i:Int))=δ (.rp (aL x)):=ey hx;have a4:=abV R.out (by unfold bf at *;omega) x;by_cases hk:x∈seen
   ·rw[aH hk]at hE;refine⟨_,σ,?_,vo,vt,st,seen,rfl,H.skip hk,R,hM,hK,hE⟩;simp only[bN,cW,a1,a2,a3,bS,cT,je,jS,a4,fF hk,wI,cF]
   ·rw[aF hk]at hE;have Gd:x∈fI l:=hVm n x ((H.here n _ rfl).2 x (by simp));have H2:=H.push hk Gd;have hlt:=zE Gd hk;have am0:=H.AG;obtain⟨J4,σ2,e2,o2,l2,k2⟩:=VN (x:=x) R.out (by have:=R.len;omega) (bR _) (by unfold cu;omega);have hlen:=R.len;obtain⟨J5,σ3,e3,s3,l3,k3⟩:=(R.stk.other (σ':=σ2) (k2 _ (by omega) (by omega))).app (x:=x) (by unfold cu;omega);have c1:(((ZS (.ah x)).bind λv=>δ [v]).bind λkJ=>(Zv 0 kJ [(ε 0)]).bind λjd=>δ jd).bind (λcs=>δ (U0 1 (dW 1 1 cs)))=δ (.sl 1 [[.ah x]]):=rfl;refine⟨_,σ3,?_,J4,J5,st++[x],seen++[x],rfl,H2,⟨by omega,HR R.pre λj hj=>by rw[k3 j (by omega),k2 j (by omega) (by omega)],s3,o2.mono (bR _) (by omega) λj p q=>k3 j (by omega)⟩,by unfold iA at hM ⊢;rw[PU,Zy];omega,by rw[PU,Zy];omega,hE⟩;simp only[bN,cW,a1,a2,a3,bS,cT,je,jS,a4,gq hk,wG,c1,e2,e3]
  ·rintro v σ ⟨vo,vt,st,seen,rfl,H,R,hM,hK,hE⟩;rw[aqg]at H hE;rw[fM]at hE;subst hE;refine⟨(.exit 2,[vo,vt,.ah ((fV l n).length:Int)],σ),?_,by simp,rfl,vo,vt,_,rfl,H.done,R,hM,hK⟩;simp only[bN,cW,dX,bS,cF]
 have outer:∃q,Zo ((λv6 s7=>
   (ZO (aj v6 1)).bind λx9=>
   (Zx x9 (ε 0)).bind λaY=>
   ξ aY (
    (Zp 1 (aj v6 1) (ε 0)).bind λcg=>
    ((Γ cg s7).bind λb9=>Δ 0 b9).bind λbB=>
    (uu [(sl 5 bw l),bB] s7).bind λb8=>
    (Zl 0 b8.1).bind λbQ=>
    (Zl 1 b8.1).bind λbM=>
    (Φ 5 bQ).bind λjM=>
    (Zv 0 jM [(ε 0),(ε 0),(ε 0),(ε 0),ZK]).bind λgC=>
    (A.gQ 1 (aj v6 1) (δ (ε 1)) μ b8.2).bind λcx=>
    (Z0 1 4 gC).bind λcM=>
    (uy [cM,(ε 2)] b8.2).bind λcD=>
    (ZO cD.1).bind λcj=>
    (Zo (λgh uc=>
      (ZN (aj gh 2) cj).bind λdz=>
      ξ dz (
       (Zp 1 cD.1 (aj gh 2)).bind λew=>
       ((Γ ew uc).bind λrN=>Δ 0 rN).bind λcU=>
       (lB [(aj gh 0),cU] uc).bind λfC=>
       (ZR fC.1).bind λfN=>
       (ξ fN (
        ((((ZS cU).bind λv=>δ [v]).bind λjd=>(Zv 0 jd [(ε 0)]).bind λp9=>δ p9).bind λcs=>δ (U0 1 (dW 1 1 cs))).bind λkP=>
        (ZI 1 (140737488355328 / 8) (aj gh 0) kP fC.2).bind λjh=>
        ((((ZS cU).bind λv=>δ [v]).bind λwO=>(Zv 0 wO [(ε 0)]).bind λwP=>δ wP).bind λcs=>δ (U0 1 (dW 1 1 cs))).bind λjo=>
        (ZI 1 (140737488355328 / 8) (aj gh 1) jo jh.2).bind λiC=>
        δ ([jh.1,iC.1],iC.2)) (
        δ ([(aj gh 0),(aj gh 1)],fC.2))).bind λr32=>
       (Zn (aj gh 2) (ε 1)).bind λlW=>
       δ (Λ,[(aj r32.1 0),(aj r32.1 1),lW],r32.2)) (
       δ (φ 2,[(aj gh 0),(aj gh 1),(aj gh 2)],uc))) [(aj v6 0),cx,(ε 0)] cD.2).bind λmF=>
    bif mF.1==φ 2 then(
     δ (Λ,[(aj mF.2.1 0),(aj mF.2.1 1)],mF.2.2))else
    μ) (
    δ (φ 0,[(aj v6 0),(aj v6 1)],s7)))) [.aC,.os au.length 1 1 0 1] (au++[.arr 1 1 [[.ah a]]])=δ q/\(q.1=.exit 0/\∃vo vt,q.2.1=[vo,vt]/\RQ au vo vt [] (td l a) q.2.2):=by
  refine M4 (λN v σ=>∃vo vt st seen,v=[vo,vt]/\gA (fV l) (fI l) a μ st seen/\RQ au vo vt st seen σ/\iA (fI l) st seen<=N/\seen.length+jk (fI l) seen<=(fI l).length/\yH (fV l) N st seen=td l a) ?_ (n:=2*(fI l).length+1) ⟨_,_,[a],[],rfl,.start,⟨by simp,by simp,⟨1,0,[[.ah a]],rfl,by simp,by simp,by simp [aL]⟩,.inl ⟨rfl,rfl⟩⟩,by have:=uS (fI l) [];unfold iA;simp;omega,by have:=uS (fI l) [];simp;omega,rfl⟩;rintro N v σ ⟨vo,vt,st,seen,rfl,H,R,hM,hK,hE⟩;have hlen:=R.stk.len;cases st with
  |nil=>right;rw[Uy]at hE;subst hE;refine⟨(.exit 0,[vo,vt],σ),?_,by simp,rfl,vo,vt,rfl,R⟩;have g0:Zx (.ah (([]:List Int).length:Int)) (.ah 0)=δ (.bool ι):=rfl;simp only[bN,cW,hlen,bS,g0,cF]
  |cons n st'=>
   left;obtain⟨w',e1,s1⟩:=R.stk.back;obtain⟨p,e2,e3⟩:=R.stk.at (i:=0) (x:=n) rfl;have H1:gA (fV l) (fI l) a (δ (n,fV l n)) st' seen:=H.pop (λx=>by simp) (by simp);have P0:iA (fI l) st' seen<=N-1:=by unfold iA at hM ⊢;simp at hM;omega
   have hN:N=N-1+1:=by unfold iA at hM;simp at hM;omega
   obtain⟨⟨q1,q2,σ3⟩,e4,rfl,Zi,Zj,u,rfl,H3,R3,M3,K3⟩:=inner n vo w' st' seen σ (N-1) H1 ⟨R.len,R.pre,s1,R.out⟩ P0 hK;rw[hN,yH]at hE;refine⟨N-1,[Zi,Zj],σ3,by omega,?_,Zi,Zj,_,_,rfl,H3,R3,M3,K3,hE⟩
   have g0:Zx (.ah ((n::st').length:Int)) (.ah 0)=δ (.bool η):=by simp only[Zx,if_true];rw[fF (by simp)]
   have g1:=Hg (σ:=σ) (HI l hn n);have g2:uy [.agg (aG ((jE l n).getD zL).pick),.ah 2] σ=δ (sl 1 aL (fV l n),σ):=MT 2000000 ((jE l n).getD zL).pick 2 σ (ZL (xI _) (hz n)) (ZL (hz n) (by decide));have g3:Z0 1 4 (bw ((jE l n).getD zL))=δ (.agg (aG ((jE l n).getD zL).pick)):=by rw[DS,aA];rfl
   have g4:∀g,Φ 5 (.agg (bw g))=δ (bw g):=λg=>rfl
   have g5:∀g,Zv 0 (bw g) [(ε 0),(ε 0),(ε 0),(ε 0),ZK]=δ (bw g):=λg=>qS g _ rfl
   have g6:∀x y,Zl 0 (.aJ [x,y])=δ x:=λ_ _=>rfl
   have g7:∀x y,Zl 1 (.aJ [x,y])=δ y:=λ_ _=>rfl
   have wU:Zp 1 vt (.ah 0)=δ p:=e2;simp only[bN,cW,hlen,bS,g0,cT,wU,e3,jS,g1,g6,g7,g4,g5,e1,g3,g2,cy,e4,kK]
 obtain⟨⟨qa,qv,um⟩,e4,rfl,vo,vt,rfl,R⟩:=outer;refine wr2 rfl rfl ?_ ?_ (v:=mA 1 aL (td l a))
 ·cases td l a<;>rfl
 unfold Li;have c1:(((ZS (.ah a)).bind λv=>δ [v]).bind λkJ=>(Zv 0 kJ [(ε 0)]).bind λjd=>δ jd).bind (λcs=>δ (U0 1 (dW 1 1 cs)))=δ (.sl 1 [[.ah a]]):=rfl;have l1:∀(k:Nat->List aq->aB),A.ve (.sl 1 [[.ah a]]) k=k 1 [[.ah a]]:=λk=>rfl
 have hz:wh au vo um=δ (mA 1 aL (td l a),au):=by have h1:au.length<um.length:=R.len;unfold wh;rw[aF (λe=>by rw[e]at h1;omega),aH R.pre,R.out.bA (by omega) 7];rfl
 simp only[c1,bS,l1,Zy,e4,kK,bN,hz]
end
section
open HP
def cG(gl:List bl):List (Int×aK):=gl.map λg=>(g.aE,g.pick)
def jW(x:cJ):List Int:=x.eW.map λs=>s.key.unit
def dM(pl:List cJ):List (Int×List Int):=pl.map λx=>(x.aE,eJ (jW x))
def dZ(r:dj):List Int:=r.dQ.map fE.aE
theorem Mi(gl:List bl)(f:Int):bh f (cG gl)=(jE gl f).map bl.pick:=by
 unfold cG jE;induction gl with
 |nil=>rfl
 |cons g l ih=>
  rw[dH,bh,List.find?_cons];by_cases h:g.aE=f
  ·rw[aH h.symm,fF h];rfl
  ·rw[aF (Ne.symm h),gq h];exact ih
def OL(pl:List cJ)(n:Int):Option cJ:=pl.find? λp=>decide (p.aE=n)
theorem apy(pl:List cJ)(f:Int):bh f (dM pl)=(OL pl f).map λx=>eJ (jW x):=by
 unfold dM OL;induction pl with
 |nil=>rfl
 |cons g l ih=>
  rw[dH,bh,List.find?_cons];by_cases h:g.aE=f
  ·rw[aH h.symm,fF h];rfl
  ·rw[aF (Ne.symm h),gq h];exact ih
section
variable {au σ : Heap} {R : HP}
theorem adG(r:dj)(hl:r.dQ.length<=1000000)(f t:Int)(H:Hs aV au σ R):∃v σ',Hh [.agg (b7 r),.ah f,.ah t] σ=δ (v,σ')/\Hs aV au σ' (Iv v (CJ (dZ r) f t)*R):=by
 suffices h:∃b:AV×Heap,Hj (.agg (b7 r)) (.ah f) (.ah t) σ=δ b/\Hs aV au b.2 (Iv b.1 (CJ (dZ r) f t)*R) by obtain⟨⟨v,s⟩,h1,h2⟩:=h;exact⟨v,s,wrap_eq rfl h1 (mU _),h2⟩
 have hml:r.dQ.length<=bf:=by unfold bf;omega
 have YP:(dZ r).length<=1000000:=by unfold dZ;rw[Zk];exact hl
 unfold Hj;rw[iJ,bS,jz,bS,cy,bS];refine nw (Q:=λq=>∃w u,q.1=.exit 0/\q.2.1=[w,u]/\Hs aV au q.2.2 (Iv w ((dZ r).filter λn=>aU n (min f t) (max f t))*R)) (kq r.dQ (λi vs s=>∃w,vs=[w,.ah (i:Int)]/\Hs aV au s (Iv w (((dZ r).take i).filter λn=>aU n (min f t) (max f t))*R)) ?_ ?_ ⟨.aC,rfl,kO H (.inl rfl)⟩) ?_
 ·rintro i x vs s2 hx ⟨w,rfl,K2⟩;have a1:ZN (.ah (i:Int)) (.ah (r.dQ.length:Int))=δ (.bool η):=dP hx;have a2:Zn (.ah (i:Int)) (.ah 1)=δ (.ah ((i+1:Nat):Int)):=dY hx hml;have a3:Zp 4 (sl 4 eH r.dQ) (.ah (i:Int))=δ (.rp (eH x)):=ey hx;have hx':(dZ r)[i]? =δ x.aE:=by unfold dZ;rw[tG,hx];rfl
  rw[Ni hx'];cases hw:aU x.aE (min f t) (max f t)
  ·rw[aF (by decide)];refine⟨_,s2,?_,w,rfl,K2⟩;simp only[bN,cW,a1,a2,a3,bS,cT,cF,je,gO,gM,gP x _ (rfl:([(ε 0),cK,(ε 0),(ε 0)]:aq).length=4),gL,OI,OG,ng,hw]
  ·rw[aH rfl];obtain⟨w',s3,e1,K3⟩:=uP (B:=aV) (x:=x.aE) (λ_ _ _ _=>trivial) (by have:=Nj (p:=λn=>aU n (min f t) (max f t)) (dZ r) i;unfold cu;omega) K2;refine⟨_,s3,?_,w',rfl,K3⟩;simp only[bN,cW,a1,a2,a3,bS,cT,je,gO,gM,gP x _ (rfl:([(ε 0),cK,(ε 0),(ε 0)]:aq).length=4),gL,OI,OG,ng,hw,vf,e1]
 ·rintro vs s2 ⟨w,rfl,K2⟩;rw[mR (by unfold dZ;simp)]at K2;refine⟨(.exit 0,[w,.ah (r.dQ.length:Int)],s2),?_,by simp,w,_,rfl,rfl,K2⟩;simp only[bN,cW,dX,bS,cF]
 ·rintro⟨q1,q2,s2⟩ ⟨w,u2,rfl,rfl,K2⟩;simp only at K2;unfold CJ;rw[kK];simp only[bN,cW,bS,Jb];by_cases hft:t<f
  ·rw[aH hft,fF hft,cT];obtain⟨s3,e1,K3⟩:=I6 (by have:=Wf (λn=>aU n (min f t) (max f t)) (dZ r);omega) K2;exact⟨(w,s3),by simp only[e1,bS],K3⟩
  ·rw[aF hft,gq hft,cF];exact⟨(w,s2),by simp only[bS],K2⟩
theorem Vk{v:AV}{l:List Int}(hm:l.length+1<=cu)(H:Hs aV au σ (Iv v l*R)):∃v' σ',D9 [v] σ=δ (v',σ')/\Hs aV au σ' (Iv v' (eJ l)*(Iv v l*R)):=
 yj (B:=aV) (λ_ _=>trivial) (cL:=[.s 1]) (r:=RV Ca) (sL:=[v]) (ts:=[sl 1 aL l]) ⟨xW pQ H,trivial⟩ (ae3 hm) H
theorem Mt{v:AV}{l:List Int}{st f:Int}(hs:1<=st)(kM:st<=1000000)(hf:1<=f)(qd:f<=1000000)(hm:l.length+1<=cu)(H:Hs aV au σ (Iv v l*R)):∃v' σ',BH [v,.ah st,.ah f] σ=δ (v',σ')/\Hs aV au σ' (Iv v' (nv l st f)*(Iv v l*R)):=
 yj (B:=aV) (λ_ _=>trivial) (cL:=[.s 1]) (r:=A.i7 BJ) (sL:=[v,.ah st,.ah f]) (ts:=[sl 1 aL l,.ah st,.ah f]) ⟨xW pQ H,IM st,IM f,trivial⟩ (adq hs kM hf qd hm) H
theorem apq{r:dj}{gl:List bl}{pl:List cJ}(hU:r.dQ.length<=1000000)(hg:gl.length<=bf)(hp:pl.length<=bf)(hps:∀x∈pl,x.eW.length<=1000000)(hlen:∀n p,Rk (cG gl) (dM pl) n p->(uF (dZ r) (cG gl) (dM pl) n p).length<1000000):∀(n N:Nat)(p:aK)(au σ:Heap)(R:HP),n<=N->Rk (cG gl) (dM pl) n p->Hs aV au σ R->
  ∃v σ',fuel BE N 100 [.agg (b7 r),sl 5 bw gl,sl 3 cN pl,.agg (aG p)] σ=δ (v,σ')/\Hs aV au σ' (Iv v (uF (dZ r) (cG gl) (dM pl) n p)*R)
 |0,N,p,au,σ,R,hn,hr,H=>hr.elim
 |n+1,0,p,au,σ,R,hn,hr,H=>by omega
 |n+1,N+1,p,au,σ,R,hn,F7,H=>by
  have hL:=hlen _ _ F7;have hr:=F7;rw[Rk]at hr;obtain⟨hpt,ha,hargs,Qe,Dc⟩:=hr
  have wY:∀l∈p.args.map (uF (dZ r) (cG gl) (dM pl) n),l.length<1000000:=λl hl=>by obtain⟨a,h1,rfl⟩:=i6.1 hl;exact hlen _ _ (hargs a h1)
  suffices h:∃b:AV×Heap,DQ (fuel BE N) (.agg (b7 r)) (sl 5 bw gl) (sl 3 cN pl) (.agg (aG p)) σ=δ b/\Hs aV au b.2 (Iv b.1 (uF (dZ r) (cG gl) (dM pl) (n+1) p)*R) by
   obtain⟨⟨v,σ'⟩,h1,h3⟩:=h;refine⟨v,σ',?_,h3⟩;show Ξ η [kY,(.s 5),(.s 3),fK] .k (A.oF (DQ (fuel BE N))) [.agg (b7 r),sl 5 bw gl,sl 3 cN pl,.agg (aG p)] σ=_;refine wrap_eq (by simp only[aA];rfl) ?_ (mU _)
   have Qi:Ug [kY,(.s 5),(.s 3),fK] [.agg (b7 r),sl 5 bw gl,sl 3 cN pl,.agg (aG p)]=[.agg (b7 r),sl 5 bw gl,sl 3 cN pl,.agg (aG p)]:=by rw[aA];rfl
   rw[Qi];exact h1
  have g0:Δ 0 (aG p)=δ (.ah p.kind):=by rw[aA];rfl
  have g1:Δ 1 (aG p)=δ (.ah p.bg):=by rw[aA];rfl
  have g2:Δ 2 (aG p)=δ (.ah p.to):=by rw[aA];rfl
  have g3:Δ 3 (aG p)=δ (sl 4 aG p.args):=by rw[aA];rfl
  obtain⟨rec,dG⟩:∃rec,rec=fuel BE N:=⟨_,rfl⟩
  have hfind:∀(q:aK)(σ:Heap)(R:HP),Rk (cG gl) (dM pl) n q->Hs aV au σ R->∃v σ',rec 100 [.agg (b7 r),sl 5 bw gl,sl 3 cN pl,.agg (aG q)] σ=δ (v,σ')/\Hs aV au σ' (Iv v (uF (dZ r) (cG gl) (dM pl) n q)*R):=λq σ R h1 h3=>by rw[dG];exact apq hU hg hp hps hlen n N q au σ R (by omega) h1 h3
  rw[<-dG];have hml:p.args.length<=bf:=by unfold bf;omega
  unfold DQ;rw[iJ,bS,sY,bS,g3,bS,cy,bS];refine nw (Q:=λq=>∃va u,q.1=.exit 0/\q.2.1=[.lbx (b7 r),.lbx (aG p),va,u]/\Hs aV au q.2.2 (Sl iO 1 va (p.args.map (uF (dZ r) (cG gl) (dM pl) n))*R)) (kq p.args (λi vs s=>∃va,vs=[.lbx (b7 r),.lbx (aG p),va,.ah (i:Int)]/\Hs aV au s (Sl iO 1 va ((p.args.take i).map (uF (dZ r) (cG gl) (dM pl) n))*R)) ?_ ?_ ⟨.aC,rfl,kO H (.inl rfl)⟩) ?_
  ·rintro i x vs s hx ⟨va,rfl,K⟩;have a1:ZN (.ah (i:Int)) (.ah (p.args.length:Int))=δ (.bool η):=dP hx;have a2:Zn (.ah (i:Int)) (.ah 1)=δ (.ah ((i+1:Nat):Int)):=dY hx hml;have a3:Zp 4 (sl 4 aG p.args) (.ah (i:Int))=δ (.rp (aG x)):=ey hx;obtain⟨v,s1,e1,K1⟩:=hfind x s _ (hargs x (ct hx)) K;obtain⟨Rc,s2,e2,K2⟩:=UQ (by have:=R8 i p.args;simp;omega) K1;refine⟨_,s2,?_,Rc,rfl,?_⟩
   ·simp only[bN,cW,a1,a2,a3,bS,cT,je,vn,iK,vR,sY,qV _ _ (rfl:([(ε 0),(ε 0),(ε 0),ZK]:aq).length=4),e1,XW (vX K1),e2]
   ·rw[Z9,hx,YA,Zw];exact K2
  ·rintro vs s ⟨va,rfl,K⟩;rw[ZP]at K;refine⟨(.exit 0,[.lbx (b7 r),.lbx (aG p),va,.ah (p.args.length:Int)],s),?_,by simp,va,_,rfl,rfl,K⟩;simp only[bN,cW,dX,bS,cF]
  rintro⟨q1,q2,s⟩ ⟨va,u,rfl,rfl,K⟩;simp only at K;clear H;have K0:=eX K;rw[kK];simp only[bN,cW,vn,bS,g0,g1,g2,iK];obtain⟨yQ,hk9,Qh,hk6,Ov⟩:=Vu hpt;rw[uF]at hL ⊢
  have hrow:∀i:Nat,i<p.args.length->(p.args.map (uF (dZ r) (cG gl) (dM pl) n))[i]? =δ ((p.args.map (uF (dZ r) (cG gl) (dM pl) n)).getD i []):=λi hi=>by rw[VY,tG,dg hi];rfl
  have tV:∀i:Nat,((p.args.map (uF (dZ r) (cG gl) (dM pl) n)).getD i []).length<1000000:=λi=>by
   by_cases hi:i<p.args.length
   ·exact wY _ (ct (hrow i hi))
   ·rw[VY,kD (by simp;omega)];simp
  have Ox:(p.args.map (uF (dZ r) (cG gl) (dM pl) n)).length=p.args.length:=Zk ..;generalize p.args.map (uF (dZ r) (cG gl) (dM pl) n)=ls at K hrow tV wY hL Ox ⊢;unfold CG at hL ⊢;by_cases h1:p.kind=1
  ·rw[aH h1]at hL ⊢;rw[oK h1,bS,cT];obtain⟨v,s1,e1,K1⟩:=adG r hU p.bg p.to K0;exact⟨(v,s1),by rw[e1,bS],K1⟩
  rw[aF h1]at hL ⊢;rw[oJ h1,bS,cF];by_cases h2:p.kind=2
  ·rw[aH h2]at hL ⊢;obtain⟨g,yP,AO⟩:=Qe h2;have AN:=yP;rw[Mi]at AN;obtain⟨G,hG,hGp⟩:=cO.1 AN;simp only[yP]at hL ⊢;have e0:=Hg (σ:=s) (HI gl hg p.bg);rw[hG]at e0;obtain⟨v,s1,e1,K1⟩:=hfind g s R AO K0;refine⟨(v,s1),?_,K1⟩;rw[oK h2,bS,cT,e0,bS];simp only[Sk,zU,ext1,bS];rw[show Φ 5 (.agg (bw G))=δ (bw G)from rfl,bS,qS G _ rfl,bS,show Z0 1 4 (bw G)=δ (.agg (aG G.pick)) by rw[DS,aA];rfl,bS,hGp,e1,bS]
  rw[aF h2]at hL ⊢;rw[oJ h2,bS,cF];by_cases h3:p.kind=3
  ·rw[aH h3]at hL ⊢;obtain⟨l,hl⟩:=Dc h3;have JG:=hl;rw[apy]at JG;obtain⟨x,hx,hxl⟩:=cO.1 JG;simp only[hl,Sk]at hL ⊢;have e0:=RF (σ:=s) (an1 pl hp p.bg);rw[show Em pl p.bg=(x,η) by unfold Em;rw[show(pl.find? λp_1=>decide (p_1.aE=p.bg))=δ x from hx]]at e0;have hxs:x.eW.length<=1000000:=hps x (wB hx);rw[oK h3,bS,cT,e0,bS];simp only[zU,ext1,bS];rw[show Φ 3 (.agg (cN x))=δ (cN x)from rfl,bS,zn x _ rfl,bS,RX,bS,cy,bS];refine nw (Q:=λq=>∃w u,q.1=.exit 3/\q.2.1=[w,u]/\Hs aV au q.2.2 (Iv w (jW x)*R)) (kq x.eW (λi vs s=>∃w,vs=[w,.ah (i:Int)]/\Hs aV au s (Iv w ((jW x).take i)*R)) ?_ ?_ ⟨.aC,rfl,kO K0 (.inl rfl)⟩) ?_
   ·rintro i y vs s2 hy ⟨w,rfl,K2⟩;have hi:=(bG.1 hy).1;have a1:ZN (.ah (i:Int)) (.ah (x.eW.length:Int))=δ (.bool η):=dP hy;have a2:Zn (.ah (i:Int)) (.ah 1)=δ (.ah ((i+1:Nat):Int)):=dY hy (by unfold bf;omega);have a3:Zp 3 (sl 3 jA x.eW) (.ah (i:Int))=δ (.rp (jA y)):=ey hy;have hy':(jW x)[i]? =δ y.key.unit:=by unfold jW;rw[tG,hy];rfl
    obtain⟨w',s3,e1,K3⟩:=uP (B:=aV) (x:=y.key.unit) (λ_ _ _ _=>trivial) (by have:=List.length_take_le i (jW x);unfold cu;omega) K2;refine⟨_,s3,?_,w',rfl,by rw[Z9,hy',YA];exact K3⟩;simp only[bN,cW,a1,a2,a3,bS,cT,je,anT,R9,Hv y _ (rfl:([(ε 0),cK,(ε 0)]:aq).length=3),RH,vf,e1]
   ·rintro vs s2 ⟨w,rfl,K2⟩;rw[mR (by unfold jW;simp)]at K2;refine⟨(.exit 3,[w,.ah (x.eW.length:Int)],s2),?_,by simp,w,_,rfl,rfl,K2⟩;simp only[bN,cW,dX,bS,cF]
   ·rintro⟨q1,q2,s2⟩ ⟨w,u2,rfl,rfl,K2⟩;simp only at K2;rw[kK];obtain⟨v',s3,e1,K3⟩:=Vk (by unfold jW cu;rw[Zk];omega) K2;refine⟨(v',s3),?_,?_⟩
    ·simp only[bN,e1,bS]
    ·rw[<-hxl];exact eX (cr (show _=Iv w (jW x)*(Iv v' (eJ (jW x))*R) by ac_rfl) K3)
  rw[aF h3]at hL ⊢;rw[oJ h3,bS,cF];by_cases h4:p.kind=4
  ·rw[aH h4]at hL ⊢;have hfl:ls.flatten.length<=200*1000000:=ZL (MD λl hl=>Nat.le_of_lt (wY l hl)) (mQ _ (by omega));obtain⟨v,s1,e1,K1⟩:=WH (by unfold bf;omega) (by omega) K;obtain⟨v2,s2,e2,K2⟩:=Vk (by unfold cu;omega) K1;refine⟨(v2,s2),?_,eX (cr (show _=(Iv v ls.flatten*Sl iO 1 va ls)*(Iv v2 (eJ ls.flatten)*R) by ac_rfl) K2)⟩;simp only[oK h4,bS,cT,e1,e2]
  rw[aF h4]at hL ⊢;rw[oJ h4,bS,cF];obtain⟨p0,v0,Q0,c1,K7,c2,_⟩:=rowAt K (hrow 0 (by omega));have vq:Zp 1 va (.ah 0)=δ p0:=c1;have c3:=c2 s _ (eX K7);have c4:Δ 0 [v0]=δ v0:=vX K7;have l0:=tV 0;have yT:(ls.getD 0 []).length+1<=cu:=by unfold cu;omega
  by_cases h5:p.kind=5
  ·rw[aH h5]at hL ⊢;have hn2:=Qh h5;have l1:=tV 1;obtain⟨p1,v1,Q1,d1,K8,d2,_⟩:=rowAt K (hrow 1 (by omega));have d3:=d2 s _ (eX K8);have d4:Δ 0 [v1]=δ v1:=vX K8;obtain⟨v',s',e1,K9⟩:=yj (B:=aV) (λ_ _=>trivial) (cL:=[.s 1,.s 1]) (r:=T3 BK) (sL:=[v0,v1]) (ts:=[sl 1 aL (ls.getD 0 []),sl 1 aL (ls.getD 1 [])]) ⟨xW pQ K7,xW pQ K8,trivial⟩ (ady yT (by unfold bf;omega)) K0;have wS:Hi [v0,v1] s=δ (v',s'):=e1;refine⟨(v',s'),?_,K9⟩;rw[oK h5,bS,cT,vq,bS,c3,bS,c4,bS,show Zp 1 va (.ah 1)=δ p1 from d1,bS,d3,bS,d4,bS,wS,bS]
  rw[aF h5]at hL ⊢;rw[oJ h5,bS,cF];by_cases h6:p.kind=6
  ·rw[aH h6]at hL ⊢;obtain⟨v',s',e1,K8⟩:=Mt (st:=2) (f:=1) (by omega) (by omega) (by omega) (by omega) yT K7;refine⟨(v',s'),?_,eX (cr (show _=(Iv v0 (ls.getD 0 [])*Q0)*(Iv v' (nv (ls.getD 0 []) 2 1)*R) by ac_rfl) K8)⟩;rw[oK h6,bS,cT,vq,bS,c3,bS,c4,bS,e1,bS]
  rw[aF h6]at hL ⊢;rw[oJ h6,bS,cF];by_cases h7:p.kind=7
  ·rw[aH h7]at hL ⊢;obtain⟨v',s',e1,K8⟩:=Mt (st:=2) (f:=2) (by omega) (by omega) (by omega) (by omega) yT K7;refine⟨(v',s'),?_,eX (cr (show _=(Iv v0 (ls.getD 0 [])*Q0)*(Iv v' (nv (ls.getD 0 []) 2 2)*R) by ac_rfl) K8)⟩;rw[oK h7,bS,cT,vq,bS,c3,bS,c4,bS,e1,bS]
  rw[aF h7]at hL ⊢;rw[oJ h7,bS,cF];by_cases h8:p.kind=8
  ·rw[aH h8]at hL ⊢;obtain⟨s',e1,K8⟩:=I6 (by omega) K7;have c5:=c2 s' _ (eX K8);refine⟨(v0,s'),?_,eX (cr (show _=Q0*(Iv v0 (ls.getD 0 []).reverse*R) by ac_rfl) K8)⟩;rw[oJ (show p.kind≠9 by omega),bS,cF,vq,bS,c3,bS,c4,bS,e1,bS,bS];simp only;rw[c5,bS,c4,bS]
  rw[aF h8]at hL ⊢;have h9:p.kind=9:=by omega
  rw[oK h9,bS,cT];obtain⟨t1,t2,t3,t4⟩:=Ov h9;obtain⟨v',s',e1,K8⟩:=Mt (st:=p.bg) (f:=p.to) t1 (by omega) t3 (by omega) yT K7;refine⟨(v',s'),?_,eX (cr (show _=(Iv v0 (ls.getD 0 [])*Q0)*(Iv v' (nv (ls.getD 0 []) p.bg p.to)*R) by ac_rfl) K8)⟩;rw[vq,bS,c3,bS,c4,bS,e1,bS]
end
end
theorem ag7(p:aK)(h:bH p<=2000000)(σ:Heap):LA [.agg (aG p)] σ=δ (.aJ [.ah (bH p:Int),.ah (eu p:Int)],σ):=Wl 2000000 p σ (ZL (xI p) h) (ZL h (by decide))
theorem afA(p:aK)(h:bH p<=2000000)(σ:Heap):KY [.agg (aG p)] σ=δ (.ah (iq p),σ):=UT 2000000 p σ (ZL (xI p) h) (ZL h (by decide))
theorem abS(p:aK)(h:bH p<=2000000)(σ:Heap):KD [.agg (aG p)] σ=δ (.ah (iq p),σ):=Sa 2000000 p σ (ZL (xI p) h) (ZL h (by decide))
theorem agb(p:aK)(lv:Int)(h:bH p<=2000000/\lv=1)(σ:Heap):L2 [.agg (aG p),.ah lv] σ=δ (.aJ [.ah ((rP 1 p).1:Int),.ah ((rP 1 p).2:Int)],σ):=by rw[h.2];exact Vv 2000000 p 1 σ (by decide) (by decide) (ZL h.1 (by decide))
theorem MS(p:aK)(k:Int)(h:bH p<=2000000)(σ:Heap):uy [.agg (aG p),.ah k] σ=δ (sl 1 aL (eN k p),σ):=MT 2000000 p k σ (ZL (xI p) h) (ZL h (by decide))
section
def BN (a0:aK):Option Int:=
 (tq (bH a0<=2000000) (((bH a0:Int),(eu a0:Int)))).bind λr1=>
 if((decide (200<r1.1))||(decide (12<r1.2)))=η then
  δ 2
 else
 (tq (bH a0<=2000000) (iq a0)).bind λr2=>
 δ r2
theorem an5{a0:aK}{σ:Heap}{r:Int}(h:BN a0=δ r):DO [(Y8 (aG a0))] σ=δ ((ε r),σ):=by
 refine vU (f:=Lj) (y0:=(Y8 (aG a0))) (enc:=λr:Int=>(ε r)) (T:=BN a0) (by first|rfl|(simp only[aA];rfl)) (by first|rfl|(simp only[aA];rfl)) ?_ r h;unfold Lj BN;refine ak (aG a0) (by first|rfl|(simp only[aA];rfl))<|ak (Y8 (aG a0)) (by first|rfl|(simp only[aA];rfl)) ?_;refine fJ (λr1:(Int×Int)=>((Zz [(ε r1.1),(ε r1.2)]),σ)) (λr1 kL=>(mw (e:=λr:(Int×Int)=>((Zz [(ε r.1),(ε r.2)]),σ)) (λhs=>ag7 a0 hs σ)) kL) (λr1 kL=>?_);refine ak (ε r1.1) (by first|rfl|(simp only[aA];rfl))<|ak (ε r1.2) (by first|rfl|(simp only[aA];rfl))<|ak (χ (decide (200<r1.1))) (by first|rfl|(simp only[aA];rfl))<|bL (ε r1.2) (λhg=>by first|rfl|(simp only[aA];rfl))<|bL (χ (decide (12<r1.2))) (λhg=>by(try rw[hg]);exact rfl)<|ak _ (kr _ _) ?_;refine eO (c:=((decide (200<r1.1))||(decide (12<r1.2)))) (λc3=>?_) (λc3=>?_)
 ·exact bZ _ (bU _ _) ⟨rfl,rfl⟩
 refine ak (Y8 (aG a0)) (by first|rfl|(simp only[aA];rfl)) ?_;refine fJ (λr2:Int=>((ε r2),σ)) (λr2 mE=>(mw (e:=λr:Int=>((ε r),σ)) (λhs=>afA a0 hs σ)) mE) (λr2 mE=>?_);exact bZ _ (bU _ _) ⟨rfl,rfl⟩
def DD (a0:(List bl)):Option Int:=
 if 200<(a0.length:Int)then
  δ 2
 else
 fR a0 (λ(i8:Nat)e7(s1:Unit)=>(show Option (Lr Unit Unit Int)from
   if(!(aU e7.aE 1 999))=η then
    δ (.ret 1)
   else
   (if decide (0<(i8:Int))=η then sk a0 (Θ.wrap ((i8:Int) -1))else δ default).bind λx9=>
   if((decide (0<(i8:Int)))&&(decide (e7.aE<=x9.aE)))=η then
    δ (.ret 7)
   else
   (BN e7.pick).bind λfH=>
   if ¬(fH=0)then
    δ (.ret fH)
   else
   δ (.go ()))) (λs1=>δ ()) () (λb2=>
  (tq ((a0.map bl.aE).Nodup/\(∀g∈a0,bH g.pick<=2000000)/\a0.length<=bf) (gp a0)).bind λb8=>
  fR a0 (λ(Qx:Nat)C1(yY:Unit)=>(show Option (Lr Unit Unit Int)from
    fR ((bh C1.aE b8).getD ([]:(List Int))) (λ(AW:Nat)sM(xw:Unit)=>(show Option (Lr Unit Unit Int)from
      if(!((bh sM b8).isSome))=η then
       δ (.ret 8)
      else
      δ (.go ()))) (λxw=>δ ()) () (λp7=>
     δ (.go ())) (λp7=>
     δ (.ret p7)))) (λyY=>δ ()) () (λAp=>
   fR a0 (λ(Qy:Nat)vw(JU:Unit)=>(show Option (Lr Unit Unit Int)from
     (tq ((iN b8).length+1<=cu) ((qY b8 vw.aE).map λx=>(x,η))).bind λiC=>
     if((bh vw.aE iC).getD ι)=η then
      δ (.ret 11)
     else
     δ (.go ()))) (λJU=>δ ()) () (λAq=>
    δ 0) (λAq=>
    δ Aq)) (λAp=>
   δ Ap)) (λb2=>
  δ b2)
theorem anu{a0:(List bl)}{σ:Heap}{r:Int}(h:DD a0=δ r):G0 [(sl 5 bw a0)] σ=δ ((ε r),σ):=by
 refine vU (f:=Ko) (y0:=(sl 5 bw a0)) (enc:=λr:Int=>(ε r)) (T:=DD a0) (by first|rfl|(simp only[aA];rfl)) (by first|rfl|(simp only[aA];rfl)) ?_ r h;unfold Ko DD;refine ak _ (cy _ _ _)<|ak (χ (decide (200<(a0.length:Int)))) (by first|rfl|(simp only[aA];rfl)) ?_;refine dN (p:=200<(a0.length:Int)) (λtP=>?_) (λtP=>?_)
 ·exact bZ _ (bU _ _) ⟨rfl,rfl⟩
 refine ak _ (cy _ _ _) ?_;refine iW (B:=Unit) (R:=Int) (λ(i8:Nat)(s1:Unit)v w3=>v=[(ε 0),(ε (i8:Int))]/\σ=w3) (λ(b2:Unit)(q:LS)=>∃u2 ue,q=((φ 0),([u2,ue]:aq),σ)) (λ(b2:Int)(q:LS)=>∃ue,q=(Ω,([(ε b2),ue]:aq),σ)) ?_ ?_ ⟨rfl,rfl⟩ ?_ ?_
 ·intro rB i8 e7 s1 v w3 jf hI;obtain⟨rfl,rfl⟩:=hI;refine ak _ (dP jf)<|i5<|ak _ (ey jf)<|ak (Y8 (bw e7)) (by first|rfl|(simp only[aA];rfl))<|ak (bw e7) (by first|rfl|(simp only[aA];rfl))<|ak _ (qS _ _ rfl)<|ak (ε e7.aE) (by first|rfl|(simp only[aA];rfl))<|ak _ (kR e7.aE 1 999 σ)<|ak (χ (!(aU e7.aE 1 999))) (by first|rfl|(simp only[aA];rfl)) ?_;refine eO (c:=(!(aU e7.aE 1 999))) (λiw=>?_) (λiw=>?_)
  ·exact aX (fu (by simp) ⟨_,rfl⟩)
  refine ak (χ (decide (0<(i8:Int)))) (by first|rfl|(simp only[aA];rfl))<|bX (ε e7.aE) (λhg=>by first|rfl|(simp only[aA];rfl))<|bX (sl 5 bw a0) (λhg=>by first|rfl|(simp only[aA];rfl))<|bX (ε (i8:Int)) (λhg=>by first|rfl|(simp only[aA];rfl))<|bX (ε (Θ.wrap ((i8:Int) -1))) (λhg=>by(try rw[hg]);exact rfl) ?_;refine xY (ω:=bl) (λx9=>(AV.rp (bw x9))) (λhg x9 yS=>by(try rw[hg]);exact zI yS) (λx9 yS=>?_);refine bX (AV.rp (bw x9)) (λhg=>by(try rw[hg]);exact rfl)<|bX (ε x9.aE) (λhg=>by(try rw[hg]);exact rfl)<|bX (χ (decide (e7.aE<=x9.aE))) (λhg=>by(try rw[hg]);exact rfl)<|ak _ (gb _ _) ?_;refine eO (c:=((decide (0<(i8:Int)))&&(decide (e7.aE<=x9.aE)))) (λb9=>?_) (λb9=>?_)
  ·exact aX (fu (by simp) ⟨_,rfl⟩)
  refine ak (Y8 (aG e7.pick)) (by first|rfl|(simp only[aA];rfl)) ?_;refine fJ (λfH:Int=>((ε fH),σ)) (λfH yC=>an5 yC) (λfH yC=>?_);refine ak _ (gu _ _ _) ?_;refine dN (p:=¬(fH=0)) (λdI=>?_) (λdI=>?_)
  ·exact aX (fu (by simp) ⟨_,rfl⟩)
  refine ak _ (dY jf rB) ?_;exact aX (iX ⟨rfl,rfl⟩)
 ·intro hl s1 v w3 hI;obtain⟨rfl,rfl⟩:=hI;refine ak _ (dX _)<|i4 ?_;exact aX ⟨by simp,⟨_,_,rfl⟩⟩
 ·intro hl b2 q hq;obtain⟨u2,ue,rfl⟩:=hq;refine dJ (by first|rfl|(simp only[aA];rfl)) ?_;refine fJ (λb8:(List (Int×(List Int)))=>((iy (λx=>(ε x)) (λx=>(mA 1 aL x)) b8),σ)) (λb8 apt=>(mw (e:=λr:(List (Int×(List Int)))=>((iy (λx=>(ε x)) (λx=>(mA 1 aL x)) r),σ)) (λhs=>ag9 a0 hs.1 hs.2.1 hs.2.2 σ)) apt) (λb8 apt=>?_);refine ak _ (cy _ _ _) ?_;refine iW (B:=Unit) (R:=Int) (λ(Qx:Nat)(yY:Unit)v Re=>∃u2,v=[u2,(ε (Qx:Int))]/\σ=Re) (λ(Ap:Unit)(q:LS)=>∃u2 GD,q=((φ 2),([u2,GD]:aq),σ)) (λ(Ap:Int)(q:LS)=>∃GD,q=(Ω,([(ε Ap),GD]:aq),σ)) ?_ ?_ ⟨_,rfl,rfl⟩ ?_ ?_
  ·intro ahv Qx C1 yY v Re Om hI;obtain⟨u2,rfl,rfl⟩:=hI;refine ak _ (dP Om)<|i5<|ak _ (ey Om)<|ak (Y8 (bw C1)) (by first|rfl|(simp only[aA];rfl))<|ak (bw C1) (by first|rfl|(simp only[aA];rfl))<|ak _ (qS _ _ rfl)<|ak (ε C1.aE) (by first|rfl|(simp only[aA];rfl))<|ak _ (Eh (ek:=.i) (eK:=(λx=>(ε x))) (eV:=(λx=>(mA 1 aL x))) (nj _) C1.aE ([]:(List Int)) rfl)<|ak _ (Vf _ _ _) ?_;refine iW (B:=Unit) (R:=Int) (λ(AW:Nat)(xw:Unit)v Bd=>∃u2,v=[u2,(ε (AW:Int))]/\σ=Bd) (λ(p7:Unit)(q:LS)=>∃u2 GG,q=((φ 4),([u2,GG]:aq),σ)) (λ(p7:Int)(q:LS)=>∃GG,q=(Ω,([(ε p7),GG]:aq),σ)) ?_ ?_ ⟨_,rfl,rfl⟩ ?_ ?_
   ·intro NK AW sM xw v Bd zY hI;obtain⟨u2,rfl,rfl⟩:=hI;refine ak _ (dP zY)<|i5<|ak _ (Vb zY)<|ak (ε sM) (by first|rfl|(simp only[aA];rfl))<|ak _ (acL (ek:=.i) (eK:=(λx=>(ε x))) (eV:=(λx=>(mA 1 aL x))) (nj _) sM ([]:(List Int)) rfl)<|ak (mA 1 aL ((bh sM b8).getD ([]:(List Int)))) (by first|rfl|(simp only[aA];rfl))<|ak (χ (bh sM b8).isSome) (by first|rfl|(simp only[aA];rfl))<|ak (χ (!((bh sM b8).isSome))) (by first|rfl|(simp only[aA];rfl)) ?_;refine eO (c:=(!((bh sM b8).isSome))) (λrQ=>?_) (λrQ=>?_)
    ·exact aX (fu (by simp) ⟨_,rfl⟩)
    refine ak _ (dY zY NK) ?_;exact aX (iX ⟨_,rfl,rfl⟩)
   ·intro hl xw v Bd hI;obtain⟨u2,rfl,rfl⟩:=hI;refine ak _ (dX _)<|i4 ?_;exact aX ⟨by simp,⟨_,_,rfl⟩⟩
   ·intro hl p7 q hq;obtain⟨u2,GG,rfl⟩:=hq;refine dJ (by first|rfl|(simp only[aA];rfl))<|ak _ (dY Om ahv) ?_;exact aX (iX ⟨_,rfl,rfl⟩)
   ·intro hl p7 q hq;obtain⟨GG,rfl⟩:=hq;refine ku (by first|rfl|(simp only[aA];rfl))<|dJ (by first|rfl|(simp only[aA];rfl)) ?_;exact aX (fu (by simp) ⟨_,rfl⟩)
  ·intro hl yY v Re hI;obtain⟨u2,rfl,rfl⟩:=hI;refine ak _ (dX _)<|i4 ?_;exact aX ⟨by simp,⟨_,_,rfl⟩⟩
  ·intro hl Ap q hq;obtain⟨u2,GD,rfl⟩:=hq;refine dJ (by first|rfl|(simp only[aA];rfl))<|ak _ (cy _ _ _) ?_;refine iW (B:=Unit) (R:=Int) (λ(Qy:Nat)(JU:Unit)v Rg=>∃u2,v=[u2,(ε (Qy:Int))]/\σ=Rg) (λ(Aq:Unit)(q:LS)=>∃u2 GJ,q=((φ 6),([u2,GJ]:aq),σ)) (λ(Aq:Int)(q:LS)=>∃GJ,q=(Ω,([(ε Aq),GJ]:aq),σ)) ?_ ?_ ⟨_,rfl,rfl⟩ ?_ ?_
   ·intro ahw Qy vw JU v Rg On hI;obtain⟨u2,rfl,rfl⟩:=hI;refine ak _ (dP On)<|i5<|ak _ (ey On)<|ak (Y8 (bw vw)) (by first|rfl|(simp only[aA];rfl))<|ak (bw vw) (by first|rfl|(simp only[aA];rfl))<|ak _ (qS _ _ rfl)<|ak (ε vw.aE) (by first|rfl|(simp only[aA];rfl)) ?_;refine fJ (λiC:(List (Int×Bool))=>(iy (λx=>(ε x)) (λx=>(χ x)) iC)) (λiC XA=>(jR ((mw (e:=λr:(List (Int×Bool))=>((iy (λx=>(ε x)) (λx=>(χ x)) r),σ)) (λhs=>agf b8 hs vw.aE σ)) XA))) (λiC XA=>?_);refine ak (ε vw.aE) (by first|rfl|(simp only[aA];rfl))<|ak _ (Eh (ek:=.i) (eK:=(λx=>(ε x))) (eV:=(λx=>(χ x))) (nj _) vw.aE ι rfl) ?_;refine eO (c:=((bh vw.aE iC).getD ι)) (λrR=>?_) (λrR=>?_)
    ·exact aX (fu (by simp) ⟨_,rfl⟩)
    refine ak _ (dY On ahw) ?_;exact aX (iX ⟨_,rfl,rfl⟩)
   ·intro hl JU v Rg hI;obtain⟨u2,rfl,rfl⟩:=hI;refine ak _ (dX _)<|i4 ?_;exact aX ⟨by simp,⟨_,_,rfl⟩⟩
   ·intro hl Aq q hq;obtain⟨u2,GJ,rfl⟩:=hq;refine dJ (by first|rfl|(simp only[aA];rfl)) ?_;exact bZ _ (bU _ _) ⟨rfl,rfl⟩
   ·intro hl Aq q hq;obtain⟨GJ,rfl⟩:=hq;refine ku (by first|rfl|(simp only[aA];rfl))<|dJ (by first|rfl|(simp only[aA];rfl)) ?_;exact bZ _ (bU _ _) ⟨rfl,rfl⟩
  ·intro hl Ap q hq;obtain⟨GD,rfl⟩:=hq;refine ku (by first|rfl|(simp only[aA];rfl))<|dJ (by first|rfl|(simp only[aA];rfl)) ?_;exact bZ _ (bU _ _) ⟨rfl,rfl⟩
 ·intro hl b2 q hq;obtain⟨ue,rfl⟩:=hq;refine ku (by first|rfl|(simp only[aA];rfl))<|dJ (by first|rfl|(simp only[aA];rfl)) ?_;exact bZ _ (bU _ _) ⟨rfl,rfl⟩
def B4 (a0:aK):Option Int:=
 (tq (bH a0<=2000000/\(1:Int)=1) ((((rP 1 a0).1:Int),((rP 1 a0).2:Int)))).bind λr1=>
 if((decide (200<r1.1))||(decide (12<r1.2)))=η then
  δ 2
 else
 (tq (bH a0<=2000000) (iq a0)).bind λr2=>
 δ r2
theorem SH{a0:aK}{σ:Heap}{r:Int}(h:B4 a0=δ r):HA [(Y8 (aG a0))] σ=δ ((ε r),σ):=by
 refine vU (f:=L9) (y0:=(Y8 (aG a0))) (enc:=λr:Int=>(ε r)) (T:=B4 a0) (by first|rfl|(simp only[aA];rfl)) (by first|rfl|(simp only[aA];rfl)) ?_ r h;unfold L9 B4;refine ak (aG a0) (by first|rfl|(simp only[aA];rfl))<|ak (Y8 (aG a0)) (by first|rfl|(simp only[aA];rfl)) ?_;refine fJ (λr1:(Int×Int)=>((Zz [(ε r1.1),(ε r1.2)]),σ)) (λr1 kL=>(mw (e:=λr:(Int×Int)=>((Zz [(ε r.1),(ε r.2)]),σ)) (λhs=>agb a0 1 hs σ)) kL) (λr1 kL=>?_);refine ak (ε r1.1) (by first|rfl|(simp only[aA];rfl))<|ak (ε r1.2) (by first|rfl|(simp only[aA];rfl))<|ak (χ (decide (200<r1.1))) (by first|rfl|(simp only[aA];rfl))<|bL (ε r1.2) (λhg=>by first|rfl|(simp only[aA];rfl))<|bL (χ (decide (12<r1.2))) (λhg=>by(try rw[hg]);exact rfl)<|ak _ (kr _ _) ?_;refine eO (c:=((decide (200<r1.1))||(decide (12<r1.2)))) (λc3=>?_) (λc3=>?_)
 ·exact bZ _ (bU _ _) ⟨rfl,rfl⟩
 refine ak (Y8 (aG a0)) (by first|rfl|(simp only[aA];rfl)) ?_;refine fJ (λr2:Int=>((ε r2),σ)) (λr2 mE=>(mw (e:=λr:Int=>((ε r),σ)) (λhs=>abS a0 hs σ)) mE) (λr2 mE=>?_);exact bZ _ (bU _ _) ⟨rfl,rfl⟩
def DG (a0:(List bl)):Option Int:=
 if 200<(a0.length:Int)then
  δ 2
 else
 fR a0 (λ(i8:Nat)e7(s1:Unit)=>(show Option (Lr Unit Unit Int)from
   if(!(aU e7.aE 1 999))=η then
    δ (.ret 1)
   else
   (if decide (0<(i8:Int))=η then sk a0 (Θ.wrap ((i8:Int) -1))else δ default).bind λx9=>
   if((decide (0<(i8:Int)))&&(decide (e7.aE<=x9.aE)))=η then
    δ (.ret 7)
   else
   (B4 e7.pick).bind λfH=>
   if ¬(fH=0)then
    δ (.ret fH)
   else
   δ (.go ()))) (λs1=>δ ()) () (λb2=>
  fR a0 (λ(qM:Nat)oH(xu:Unit)=>(show Option (Lr Unit Unit Int)from
    (tq (bH oH.pick<=2000000) (eN 2 oH.pick)).bind λig=>
    fR ig (λ(AW:Nat)sM(xw:Unit)=>(show Option (Lr Unit Unit Int)from
      (zj a0 sM).bind λfX=>
      if(!fX.2)=η then
       δ (.ret 8)
      else
      δ (.go ()))) (λxw=>δ ()) () (λp7=>
     δ (.go ())) (λp7=>
     δ (.ret p7)))) (λxu=>δ ()) () (λp6=>
   fR a0 (λ(Qz:Nat)wV(JV:Unit)=>(show Option (Lr Unit Unit Int)from
     (tq (a0.length<=bf/\(∀g∈a0,bH g.pick<=2000000)/\(fI a0).length+1<=cu) (td a0 wV.aE)).bind λpI=>
     (tq (pI.length<=bf) (pI.any λx=>decide (wV.aE=x))).bind λmF=>
     if mF=η then
      δ (.ret 11)
     else
     δ (.go ()))) (λJV=>δ ()) () (λAr=>
    δ 0) (λAr=>
    δ Ar)) (λp6=>
   δ p6)) (λb2=>
  δ b2)
theorem aad{a0:(List bl)}{σ:Heap}{r:Int}(h:DG a0=δ r):Kz [(sl 5 bw a0)] σ=δ ((ε r),σ):=by
 refine vU (f:=KA) (y0:=(sl 5 bw a0)) (enc:=λr:Int=>(ε r)) (T:=DG a0) (by first|rfl|(simp only[aA];rfl)) (by first|rfl|(simp only[aA];rfl)) ?_ r h;unfold KA DG;refine ak _ (cy _ _ _)<|ak (χ (decide (200<(a0.length:Int)))) (by first|rfl|(simp only[aA];rfl)) ?_;refine dN (p:=200<(a0.length:Int)) (λFC=>?_) (λFC=>?_)
 ·exact bZ _ (bU _ _) ⟨rfl,rfl⟩
 refine ak _ (cy _ _ _) ?_;refine iW (B:=Unit) (R:=Int) (λ(i8:Nat)(s1:Unit)v w3=>v=[(ε 0),(ε (i8:Int))]/\σ=w3) (λ(b2:Unit)(q:LS)=>∃u2 Gy,q=((φ 0),([u2,Gy]:aq),σ)) (λ(b2:Int)(q:LS)=>∃Gy,q=(Ω,([(ε b2),Gy]:aq),σ)) ?_ ?_ ⟨rfl,rfl⟩ ?_ ?_
 ·intro rB i8 e7 s1 v w3 jf hI;obtain⟨rfl,rfl⟩:=hI;refine ak _ (dP jf)<|i5<|ak _ (ey jf)<|ak (Y8 (bw e7)) (by first|rfl|(simp only[aA];rfl))<|ak (bw e7) (by first|rfl|(simp only[aA];rfl))<|ak _ (qS _ _ rfl)<|ak (ε e7.aE) (by first|rfl|(simp only[aA];rfl))<|ak _ (ng e7.aE 1 999 σ)<|ak (χ (!(aU e7.aE 1 999))) (by first|rfl|(simp only[aA];rfl)) ?_;refine eO (c:=(!(aU e7.aE 1 999))) (λiw=>?_) (λiw=>?_)
  ·exact aX (fu (by simp) ⟨_,rfl⟩)
  refine ak (χ (decide (0<(i8:Int)))) (by first|rfl|(simp only[aA];rfl))<|bX (ε e7.aE) (λhg=>by first|rfl|(simp only[aA];rfl))<|bX (sl 5 bw a0) (λhg=>by first|rfl|(simp only[aA];rfl))<|bX (ε (i8:Int)) (λhg=>by first|rfl|(simp only[aA];rfl))<|bX (ε (Θ.wrap ((i8:Int) -1))) (λhg=>by(try rw[hg]);exact rfl) ?_;refine xY (ω:=bl) (λx9=>(AV.rp (bw x9))) (λhg x9 yS=>by(try rw[hg]);exact zI yS) (λx9 yS=>?_);refine bX (AV.rp (bw x9)) (λhg=>by(try rw[hg]);exact rfl)<|bX (ε x9.aE) (λhg=>by(try rw[hg]);exact rfl)<|bX (χ (decide (e7.aE<=x9.aE))) (λhg=>by(try rw[hg]);exact rfl)<|ak _ (gb _ _) ?_;refine eO (c:=((decide (0<(i8:Int)))&&(decide (e7.aE<=x9.aE)))) (λb9=>?_) (λb9=>?_)
  ·exact aX (fu (by simp) ⟨_,rfl⟩)
  refine ak (Y8 (aG e7.pick)) (by first|rfl|(simp only[aA];rfl)) ?_;refine fJ (λfH:Int=>((ε fH),σ)) (λfH yC=>SH yC) (λfH yC=>?_);refine ak _ (gu _ _ _) ?_;refine dN (p:=¬(fH=0)) (λdI=>?_) (λdI=>?_)
  ·exact aX (fu (by simp) ⟨_,rfl⟩)
  refine ak _ (dY jf rB) ?_;exact aX (iX ⟨rfl,rfl⟩)
 ·intro hl s1 v w3 hI;obtain⟨rfl,rfl⟩:=hI;refine ak _ (dX _)<|i4 ?_;exact aX ⟨by simp,⟨_,_,rfl⟩⟩
 ·intro hl b2 q hq;obtain⟨u2,Gy,rfl⟩:=hq;refine dJ (by first|rfl|(simp only[aA];rfl))<|ak _ (cy _ _ _) ?_;refine iW (B:=Unit) (R:=Int) (λ(qM:Nat)(xu:Unit)v Bc=>∃u2,v=[u2,(ε (qM:Int))]/\σ=Bc) (λ(p6:Unit)(q:LS)=>∃u2 GC,q=((φ 3),([u2,GC]:aq),σ)) (λ(p6:Int)(q:LS)=>∃GC,q=(Ω,([(ε p6),GC]:aq),σ)) ?_ ?_ ⟨_,rfl,rfl⟩ ?_ ?_
  ·intro NJ qM oH xu v Bc zX hI;obtain⟨u2,rfl,rfl⟩:=hI;refine ak _ (dP zX)<|i5<|ak _ (ey zX)<|ak (Y8 (bw oH)) (by first|rfl|(simp only[aA];rfl))<|ak (bw oH) (by first|rfl|(simp only[aA];rfl))<|ak _ (qS _ _ rfl)<|ak (Y8 (aG oH.pick)) (by first|rfl|(simp only[aA];rfl)) ?_;refine fJ (λig:(List Int)=>((sl 1 aL ig),σ)) (λig E4=>(mw (e:=λr:(List Int)=>((sl 1 aL r),σ)) (λhs=>MS oH.pick 2 hs σ)) E4) (λig E4=>?_);refine ak _ (cy _ _ _) ?_;refine iW (B:=Unit) (R:=Int) (λ(AW:Nat)(xw:Unit)v Bd=>∃u2,v=[u2,(ε (AW:Int))]/\σ=Bd) (λ(p7:Unit)(q:LS)=>∃u2 GF,q=((φ 5),([u2,GF]:aq),σ)) (λ(p7:Int)(q:LS)=>∃GF,q=(Ω,([(ε p7),GF]:aq),σ)) ?_ ?_ ⟨_,rfl,rfl⟩ ?_ ?_
   ·intro NK AW sM xw v Bd zY hI;obtain⟨u2,rfl,rfl⟩:=hI;refine ak _ (dP zY)<|i5<|ak _ (ey zY)<|ak (ε sM) (by first|rfl|(simp only[aA];rfl)) ?_;refine fJ (λfX:(bl×Bool)=>((Zz [(Y8 (bw fX.1)),(χ fX.2)]),σ)) (λfX Xz=>Hg Xz) (λfX Xz=>?_);refine ak (Y8 (bw fX.1)) (by first|rfl|(simp only[aA];rfl))<|ak (χ fX.2) (by first|rfl|(simp only[aA];rfl))<|ak (bw fX.1) (by first|rfl|(simp only[aA];rfl))<|ak _ (qS _ _ rfl)<|ak (χ (!fX.2)) (by first|rfl|(simp only[aA];rfl)) ?_;refine eO (c:=(!fX.2)) (λkJ=>?_) (λkJ=>?_)
    ·exact aX (fu (by simp) ⟨_,rfl⟩)
    refine ak _ (dY zY NK) ?_;exact aX (iX ⟨_,rfl,rfl⟩)
   ·intro hl xw v Bd hI;obtain⟨u2,rfl,rfl⟩:=hI;refine ak _ (dX _)<|i4 ?_;exact aX ⟨by simp,⟨_,_,rfl⟩⟩
   ·intro hl p7 q hq;obtain⟨u2,GF,rfl⟩:=hq;refine dJ (by first|rfl|(simp only[aA];rfl))<|ak _ (dY zX NJ) ?_;exact aX (iX ⟨_,rfl,rfl⟩)
   ·intro hl p7 q hq;obtain⟨GF,rfl⟩:=hq;refine ku (by first|rfl|(simp only[aA];rfl))<|dJ (by first|rfl|(simp only[aA];rfl)) ?_;exact aX (fu (by simp) ⟨_,rfl⟩)
  ·intro hl xu v Bc hI;obtain⟨u2,rfl,rfl⟩:=hI;refine ak _ (dX _)<|i4 ?_;exact aX ⟨by simp,⟨_,_,rfl⟩⟩
  ·intro hl p6 q hq;obtain⟨u2,GC,rfl⟩:=hq;refine dJ (by first|rfl|(simp only[aA];rfl))<|ak _ (cy _ _ _) ?_;refine iW (B:=Unit) (R:=Int) (λ(Qz:Nat)(JV:Unit)v Rh=>∃u2,v=[u2,(ε (Qz:Int))]/\σ=Rh) (λ(Ar:Unit)(q:LS)=>∃u2 GI,q=((φ 7),([u2,GI]:aq),σ)) (λ(Ar:Int)(q:LS)=>∃GI,q=(Ω,([(ε Ar),GI]:aq),σ)) ?_ ?_ ⟨_,rfl,rfl⟩ ?_ ?_
   ·intro ahx Qz wV JV v Rh Oo hI;obtain⟨u2,rfl,rfl⟩:=hI;refine ak _ (dP Oo)<|i5<|ak _ (ey Oo)<|ak (Y8 (bw wV)) (by first|rfl|(simp only[aA];rfl))<|ak (bw wV) (by first|rfl|(simp only[aA];rfl))<|ak _ (qS _ _ rfl)<|ak (ε wV.aE) (by first|rfl|(simp only[aA];rfl)) ?_;refine fJ (λpI:(List Int)=>(sl 1 aL pI)) (λpI XB=>(jR ((mw (e:=λr:(List Int)=>((sl 1 aL r),σ)) (λhs=>aeg a0 hs.1 hs.2.1 hs.2.2 wV.aE σ)) XB))) (λpI XB=>?_);refine ak (ε wV.aE) (by first|rfl|(simp only[aA];rfl)) ?_;refine fJ (λmF:Bool=>(χ mF)) (λmF api=>(jR ((mw (e:=λr:Bool=>((χ r),σ)) (λhs=>zb pI hs wV.aE σ)) api))) (λmF api=>?_);refine eO (c:=mF) (λAz=>?_) (λAz=>?_)
    ·exact aX (fu (by simp) ⟨_,rfl⟩)
    refine ak _ (dY Oo ahx) ?_;exact aX (iX ⟨_,rfl,rfl⟩)
   ·intro hl JV v Rh hI;obtain⟨u2,rfl,rfl⟩:=hI;refine ak _ (dX _)<|i4 ?_;exact aX ⟨by simp,⟨_,_,rfl⟩⟩
   ·intro hl Ar q hq;obtain⟨u2,GI,rfl⟩:=hq;refine dJ (by first|rfl|(simp only[aA];rfl)) ?_;exact bZ _ (bU _ _) ⟨rfl,rfl⟩
   ·intro hl Ar q hq;obtain⟨GI,rfl⟩:=hq;refine ku (by first|rfl|(simp only[aA];rfl))<|dJ (by first|rfl|(simp only[aA];rfl)) ?_;exact bZ _ (bU _ _) ⟨rfl,rfl⟩
  ·intro hl p6 q hq;obtain⟨GC,rfl⟩:=hq;refine ku (by first|rfl|(simp only[aA];rfl))<|dJ (by first|rfl|(simp only[aA];rfl)) ?_;exact bZ _ (bU _ _) ⟨rfl,rfl⟩
 ·intro hl b2 q hq;obtain⟨Gy,rfl⟩:=hq;refine ku (by first|rfl|(simp only[aA];rfl))<|dJ (by first|rfl|(simp only[aA];rfl)) ?_;exact bZ _ (bU _ _) ⟨rfl,rfl⟩
def Bv (a0:(List Int)) (a1:(List Int)):Option Bool:=
 if ¬((a0.length:Int)=(a1.length:Int))then
  δ ι
 else
 fR a0 (λ(i8:Nat)e7(s1:Unit)=>(show Option (Lr Unit Unit Unit)from
   (sk a1 (i8:Int)).bind λx9=>
   if ¬(e7=x9)then
    δ (.ret ())
   else
   δ (.go ()))) (λs1=>δ ()) () (λb2=>
  δ η) (λb2=>
  δ ι)
theorem anO{a0:(List Int)}{a1:(List Int)}{σ:Heap}{r:Bool}(h:Bv a0 a1=δ r):Kl [(sl 1 aL a0),(sl 1 aL a1)] σ=δ ((χ r),σ):=by
 refine vV (f:=Kp) (y0:=(sl 1 aL a0)) (y1:=(sl 1 aL a1)) (enc:=λr:Bool=>(χ r)) (T:=Bv a0 a1) rfl rfl ?_ r h;unfold Kp Bv;refine ak _ (cy _ _ _)<|ak _ (cy _ _ _)<|ak _ (gu _ _ _) ?_;refine dN (p:=¬((a0.length:Int)=(a1.length:Int))) (λdI=>?_) (λdI=>?_)
 ·exact bZ _ (bU _ _) ⟨rfl,rfl⟩
 refine ak _ (cy _ _ _) ?_;refine iW (B:=Unit) (R:=Unit) (λ(i8:Nat)(s1:Unit)v w3=>v=[aT,(ε (i8:Int))]/\σ=w3) (λ(b2:Unit)(q:LS)=>∃u4 Gw,q=((φ 0),([u4,Gw]:aq),σ)) (λ(b2:Unit)(q:LS)=>∃Gw,q=(Ω,([aT,Gw]:aq),σ)) ?_ ?_ ⟨rfl,rfl⟩ ?_ ?_
 ·intro rB i8 e7 s1 v w3 jf hI;obtain⟨rfl,rfl⟩:=hI;refine ak _ (dP jf)<|i5<|ak _ (ey jf)<|ak _ rfl ?_;refine fJ (λx9:Int=>(AV.rp [(ε x9)])) (λx9 yS=>zI yS) (λx9 yS=>?_);refine ak _ rfl<|ak _ (gu _ _ _) ?_;refine dN (p:=¬(e7=x9)) (λgy=>?_) (λgy=>?_)
  ·exact aX (fu (by simp) ⟨_,rfl⟩)
  refine ak _ (dY jf rB) ?_;exact aX (iX ⟨rfl,rfl⟩)
 ·intro hl s1 v w3 hI;obtain⟨rfl,rfl⟩:=hI;refine ak _ (dX _)<|i4 ?_;exact aX ⟨by simp,⟨_,_,rfl⟩⟩
 ·intro hl b2 q hq;obtain⟨u4,Gw,rfl⟩:=hq;refine dJ rfl ?_;exact bZ _ (bU _ _) ⟨rfl,rfl⟩
 ·intro hl b2 q hq;obtain⟨Gw,rfl⟩:=hq;refine ku rfl<|dJ rfl ?_;exact bZ _ (bU _ _) ⟨rfl,rfl⟩
end
end
end Go.Proofs.Ytgjglkakhmikjaa
