/- Parts of the proof of CueTextsComeBack, in order. -/
import Derived.Sort.Statements
import Derived.Lib.ItoaLen
import Derived.Test.YtngdngjbofohaaaGreatDoorKCueTextsComeBack3
namespace Go.Proofs.YtngdngjbofohaaaGreatDoor
set_option linter.unusedVariables false
set_option linter.unusedSimpArgs false
set_option linter.unusedSectionVars false
set_option maxRecDepth 1000000
noncomputable section
open List renaming getElem?_set_ne->Z4,length_map->XZ,isPrefixOf_iff_prefix->XP,nil_append->ZH,drop_zero->apf,mem_cons_self->p6,getElem?_cons_zero->SD,map->Zt,length_append->p5,all_cons->Rq,append_nil->Zq,dropWhile->apM,flatten_cons->Xq,length_nil->Zh,not_mem_nil->ZF,eraseIdx_eq_take_drop_succ->ap2,isPrefixOf->Z8,getD_eq_getElem?_getD->YA,length_cons->n9
open Bool renaming not_eq_true'->VC,not_eq_true->ap6,or_false->T9,false_and->YM,and_false->ZO,not_true->AV,true_and->Y8,false_or->ZV,false->ε,false_eq_true->n5,not_false->Zy,true->ι
open A renaming add->u9,cell->n8,append->SI,bF->ZJ,pick->ir,storeAt->WG,cV->YK,aH->n4,nn->V3,fin->Θ,gtr->ZR,eql->p4,dI->UU,bn->Zv,elems->aoZ,loop->Zp,dL->VD,ext->j0,aN->p9,cells->Φ,wrap->l9,lb->Zm,cond->Γ,deref->Ψ,neq->Lu,eo->Tu,guard->θ,aA->Ω,lss->ZS,bM->ZG,not->Zo
open U renaming rp->T3,az->l6,str->ψ,aD->IM,int->Ru,op->UK,lbx->Z3,ah->η,agg->l7,bool->φ
open AX renaming ret->l8,exit->i6,normal->y9
open False renaming elim->aoN
open Option renaming bind->aph,getD_some->ZY,none->μ,some->δ,getD_none->ZZ
open Option.some renaming injEq->χ
open Int renaming toNat_natCast->Zk,tdiv_eq_ediv_of_nonneg->Sd,tmod->T7,eq_ofNat_of_zero_le->Z7,tmod_eq_emod_of_nonneg->TL,tdiv->ZL
open Prod.mk renaming injEq->Ξ
open UInt8 renaming toNat_ofNat'->Tv,ofNat->aoS
open _root_.ByteArray renaming ext->apA
open Go.Lib renaming compareBytes->R4
open Go.IntKind renaming u8->apL,i64->ξ
open List.cons renaming injEq->VP
open bQ renaming map->Z2
section
def Lp (a0:Int):Option Bool:=δ (aT a0 0 36000000)
theorem AQ{a0:Int}{σ:Heap}{r:Bool}(h:Lp a0=δ r):wN [(η a0)] σ=δ ((φ r),σ):=by refine je (f:=Lc) (y0:=(η a0)) (enc:=λr:Bool=>(φ r)) (T:=Lp a0) rfl rfl ?_ r h;unfold Lc Lp;refine aj _ (jB a0 0 36000000 σ) ?_;exact aU _ (bf _ _) ⟨rfl,rfl⟩
def AN (a0:au) (a1:au):Option Int:=
 if ¬(a0.unit=a1.unit)then
  if a0.unit<a1.unit then
   δ (-1)
  else
  δ 1
 else
 δ (R4 a0.param.data.toList a1.param.data.toList)
theorem aap{a0:au}{a1:au}{σ:Heap}{r:Int}(h:AN a0 a1=δ r):KQ [(l7 (cB a0)),(l7 (cB a1))] σ=δ ((η r),σ):=by
 refine lq (f:=KU) (y0:=(l7 (cB a0))) (y1:=(l7 (cB a1))) (enc:=λr:Int=>(η r)) (T:=AN a0 a1) rfl rfl ?_ r h;unfold KU AN;refine aj _ rfl<|aj _ rfl<|aj _ rfl<|aj _ rfl<|aj _ (fC _ _ _) ?_;refine cP (p:=¬(a0.unit=a1.unit)) (λc2=>?_) (λc2=>?_)
 ·refine aj _ rfl<|aj _ rfl<|aj _ rfl ?_;refine cP (p:=a0.unit<a1.unit) (λc1=>?_) (λc1=>?_)
  ·exact aU _ (bf _ _) ⟨rfl,rfl⟩
  exact aU _ (bf _ _) ⟨rfl,rfl⟩
 refine aj _ rfl<|aj _ rfl<|aj _ rfl ?_;exact aU _ (bf _ _) ⟨rfl,rfl⟩
def AA (a0:(List aJ)):Option Int:=
 gL a0 (λ(i8:Nat)e7(s1:Unit)=>(show Option (Lr Unit Unit Int)from
   if(!(aT e7.key.unit 1 9999))=ι then
    δ (.ret 1)
   else
   (tq (gb e7.key.param) (oh e7.key.param)).bind λr9=>
   if(!r9)=ι then
    δ (.ret 5)
   else
   if((e7.release&&(decide (¬(e7.value=(⟨0,0⟩:aO)))))||((decide (¬(e7.value.level=0)))&&(decide (¬(e7.value.bW=0)))))=ι then
    δ (.ret 3)
   else
   if((!(aT e7.value.level 0 65535))||(!(aT e7.value.bW 0 999)))=ι then
    δ (.ret 1)
   else
   if((!e7.cG)&&((decide (¬(e7.br=0)))||(decide (¬(e7.time=0)))))=ι then
    δ (.ret 3)
   else
   if((!((aT e7.br 0 36000000)))||(!((aT e7.time 0 36000000))))=ι then
    δ (.ret 1)
   else
   (if decide (0<(i8:Int))=ι then cJ a0 (ξ.wrap ((i8:Int) -1))else δ default).bind λbO=>
   (if decide (0<(i8:Int))=ι then AN bO.key e7.key else δ default).bind λeC=>
   if((decide (0<(i8:Int)))&&(decide (0<=eC)))=ι then
    δ (.ret 7)
   else
   δ (.go ()))) (λs1=>δ ()) () (λb2=>
  δ 0) (λb2=>
  δ b2)
theorem amP{a0:(List aJ)}{σ:Heap}{r:Int}(h:AA a0=δ r):Ks [(sl 8 aW a0)] σ=δ ((η r),σ):=by
 refine je (f:=Kw) (y0:=(sl 8 aW a0)) (enc:=λr:Int=>(η r)) (T:=AA a0) rfl rfl ?_ r h;unfold Kw AA;refine aj _ (dc _ _ _) ?_;refine lB (B:=Unit) (R:=Int) (λ(i8:Nat)(s1:Unit)v w3=>v=[(η 0),(η (i8:Int))]/\σ=w3) (λ(b2:Unit)(q:LS)=>∃u2 u7,q=((i6 0),([u2,u7]:ay),σ)) (λ(b2:Int)(q:LS)=>∃u7,q=(l8,([(η b2),u7]:ay),σ)) ?_ ?_ ⟨rfl,rfl⟩ ?_ ?_
 ·intro vo i8 e7 s1 v w3 kY hI;obtain⟨rfl,rfl⟩:=hI;refine aj _ (kS kY)<|lF<|aj _ (kF kY)<|aj _ rfl<|aj _ rfl<|aj _ (jY _ _ rfl)<|aj _ rfl<|aj _ (jB e7.key.unit 1 9999 σ)<|aj _ rfl ?_;refine cA (c:=(!(aT e7.key.unit 1 9999))) (λjo=>?_) (λjo=>?_)
  ·exact bu (fR (by simp) ⟨_,rfl⟩)
  refine aj _ rfl ?_;refine aK (λr9:Bool=>((φ r9),σ)) (λr9 YW=>(eT (e:=λr:Bool=>((φ r),σ)) (λhs=>HH e7.key.param hs σ)) YW) (λr9 YW=>?_);refine aj _ rfl ?_;refine cA (c:=(!r9)) (λiE=>?_) (λiE=>?_)
  ·exact bu (fR (by simp) ⟨_,rfl⟩)
  refine aj _ rfl<|bz (l7 (tD e7.value)) (λhg=>rfl)<|bz (l7 (tD (⟨0,0⟩:aO))) (λhg=>rfl)<|bz (φ (decide (¬(e7.value=(⟨0,0⟩:aO))))) (λhg=>by(try rw[hg]);exact(aep _ _))<|aj _ (eY _ _)<|bD (η e7.value.level) (λhg=>rfl)<|bD (φ (decide (¬(e7.value.level=0)))) (λhg=>by(try rw[hg]);exact(fC _ _ _))<|bD (φ (decide (¬(e7.value.level=0)))) (λhg=>by(try rw[hg]);exact rfl)<|iy (η e7.value.bW) (λhg=>rfl)<|iy (φ (decide (¬(e7.value.bW=0)))) (λhg=>by(try rw[hg]);exact(fC _ _ _))<|bD (φ ((decide (¬(e7.value.level=0)))&&(decide (¬(e7.value.bW=0))))) (λhg=>by(try rw[hg]);exact(eY _ _))<|aj _ (eW _ _) ?_;refine cA (c:=((e7.release&&(decide (¬(e7.value=(⟨0,0⟩:aO)))))||((decide (¬(e7.value.level=0)))&&(decide (¬(e7.value.bW=0)))))) (λjm=>?_) (λjm=>?_)
  ·exact bu (fR (by simp) ⟨_,rfl⟩)
  refine aj _ rfl<|aj _ (jB e7.value.level 0 65535 σ)<|aj _ rfl<|bD (η e7.value.bW) (λhg=>rfl)<|bD (φ (aT e7.value.bW 0 999)) (λhg=>by(try rw[hg]);exact(jC (jB e7.value.bW 0 999 σ)))<|bD (φ (!(aT e7.value.bW 0 999))) (λhg=>by(try rw[hg]);exact rfl)<|aj _ (eW _ _) ?_;refine cA (c:=((!(aT e7.value.level 0 65535))||(!(aT e7.value.bW 0 999)))) (λiU=>?_) (λiU=>?_)
  ·exact bu (fR (by simp) ⟨_,rfl⟩)
  refine aj _ rfl<|aj _ rfl<|bz (η e7.br) (λhg=>rfl)<|bz (φ (decide (¬(e7.br=0)))) (λhg=>by(try rw[hg]);exact(fC _ _ _))<|bz (φ (decide (¬(e7.br=0)))) (λhg=>by(try rw[hg]);exact rfl)<|kR (η e7.time) (λhg=>rfl)<|kR (φ (decide (¬(e7.time=0)))) (λhg=>by(try rw[hg]);exact(fC _ _ _))<|bz (φ ((decide (¬(e7.br=0)))||(decide (¬(e7.time=0))))) (λhg=>by(try rw[hg]);exact(eW _ _))<|aj _ (eY _ _) ?_;refine cA (c:=((!e7.cG)&&((decide (¬(e7.br=0)))||(decide (¬(e7.time=0)))))) (λoA=>?_) (λoA=>?_)
  ·exact bu (fR (by simp) ⟨_,rfl⟩)
  refine aj _ rfl<|aj _ (AQ (σ:=σ) (r:=(aT e7.br 0 36000000)) rfl)<|aj _ rfl<|bD (η e7.time) (λhg=>rfl)<|bD (φ ((aT e7.time 0 36000000))) (λhg=>by(try rw[hg]);exact(jC (AQ (σ:=σ) (r:=(aT e7.time 0 36000000)) rfl)))<|bD (φ (!((aT e7.time 0 36000000)))) (λhg=>by(try rw[hg]);exact rfl)<|aj _ (eW _ _) ?_;refine cA (c:=((!((aT e7.br 0 36000000)))||(!((aT e7.time 0 36000000))))) (λqh=>?_) (λqh=>?_)
  ·exact bu (fR (by simp) ⟨_,rfl⟩)
  refine aj _ rfl<|bz (sl 8 aW a0) (λhg=>rfl)<|bz (η (i8:Int)) (λhg=>rfl)<|bz (η (ξ.wrap ((i8:Int) -1))) (λhg=>by(try rw[hg]);exact rfl) ?_;refine oM (ω:=aJ) (λbO=>(T3 (aW bO))) (λhg bO anF=>by(try rw[hg]);exact fP anF) (λbO anF=>?_);refine bz (T3 (aW bO)) (λhg=>by(try rw[hg]);exact rfl)<|bz (l7 (cB bO.key)) (λhg=>by(try rw[hg]);exact rfl)<|bz (l7 (cB e7.key)) (λhg=>rfl) ?_;refine oM (ω:=Int) (λeC=>(η eC)) (λhg eC DP=>by(try rw[hg]);exact(jC (aap DP))) (λeC DP=>?_);refine bz (φ (decide (0<=eC))) (λhg=>by(try rw[hg]);exact rfl)<|aj _ (eY _ _) ?_;refine cA (c:=((decide (0<(i8:Int)))&&(decide (0<=eC)))) (λeu=>?_) (λeu=>?_)
  ·exact bu (fR (by simp) ⟨_,rfl⟩)
  refine aj _ (kG kY vo) ?_;exact bu (jF ⟨rfl,rfl⟩)
 ·intro hl s1 v w3 hI;obtain⟨rfl,rfl⟩:=hI;refine aj _ (kQ _)<|lE ?_;exact bu ⟨by simp,⟨_,_,rfl⟩⟩
 ·intro hl b2 q hq;obtain⟨u2,u7,rfl⟩:=hq;refine fD rfl ?_;exact aU _ (bf _ _) ⟨rfl,rfl⟩
 ·intro hl b2 q hq;obtain⟨u7,rfl⟩:=hq;refine oo rfl<|fD rfl ?_;exact aU _ (bf _ _) ⟨rfl,rfl⟩
def A3 (a0:(List aP)):Option Int:=
 if 300<(a0.length:Int)then
  δ 2
 else
 gL a0 (λ(i8:Nat)e7(s1:Int)=>(show Option (Lr Int Int Int)from
   if(!(aT e7.aY 1 9999999))=ι then
    δ (.ret 1)
   else
   (if decide (0<(i8:Int))=ι then cJ a0 (ξ.wrap ((i8:Int) -1))else δ default).bind λx9=>
   if((decide (0<(i8:Int)))&&(decide (e7.aY<=x9.aY)))=ι then
    δ (.ret 7)
   else
   (if decide (¬(e7.title=(⟨#[]⟩:ByteArray)))=ι then tq (gb e7.title) (BB e7.title)else δ default).bind λbG=>
   if((decide (¬(e7.title=(⟨#[]⟩:ByteArray))))&&(!bG))=ι then
    δ (.ret 3)
   else
   if(((((!((aT e7.br 0 36000000)))||(!((aT e7.up 0 36000000))))||(!((aT e7.down 0 36000000))))||(!((aT e7.other 0 36000000))))||(!(aT e7.dr (-1) 36000000)))=ι then
    δ (.ret 1)
   else
   if ¬((iw e7.bS)=0)then
    δ (.ret (iw e7.bS))
   else
   if 2000<(e7.bJ.length:Int)then
    δ (.ret 2)
   else
   (AA e7.bJ).bind λeC=>
   if ¬(eC=0)then
    δ (.ret eC)
   else
   δ (.go (ξ.wrap (s1+(e7.bJ.length:Int)))))) (λs1=>δ s1) 0 (λb2=>
  δ (if(decide (10000<b2))=ι then 2 else 0)) (λb2=>
  δ b2)
theorem acd{a0:(List aP)}{σ:Heap}{r:Int}(h:A3 a0=δ r):LZ [(sl 11 bY a0)] σ=δ ((η r),σ):=by
 refine je (f:=L6) (y0:=(sl 11 bY a0)) (enc:=λr:Int=>(η r)) (T:=A3 a0) (fB (ng (λ_=>rfl) _) rfl) rfl ?_ r h;unfold L6 A3;refine aj _ (dc _ _ _)<|aj _ rfl ?_;refine cP (p:=300<(a0.length:Int)) (λvF=>?_) (λvF=>?_)
 ·exact aU _ (bf _ _) ⟨rfl,rfl⟩
 refine aj _ (dc _ _ _) ?_;refine lB (B:=Int) (R:=Int) (λ(i8:Nat)(s1:Int)v w3=>v=[(η 0),(η s1),(η (i8:Int))]/\σ=w3) (λ(b2:Int)(q:LS)=>∃u2 mF,q=((i6 0),([u2,(η b2),mF]:ay),σ)) (λ(b2:Int)(q:LS)=>∃u3 mF,q=(l8,([(η b2),u3,mF]:ay),σ)) ?_ ?_ ⟨rfl,rfl⟩ ?_ ?_
 ·intro vo i8 e7 s1 v w3 kY hI;obtain⟨rfl,rfl⟩:=hI;refine aj _ (kS kY)<|lF<|aj _ (kF kY)<|aj _ rfl<|aj _ rfl<|aj _ (M9 _ _ rfl)<|aj _ rfl<|aj _ (jB e7.aY 1 9999999 σ)<|aj _ rfl ?_;refine cA (c:=(!(aT e7.aY 1 9999999))) (λjo=>?_) (λjo=>?_)
  ·exact bu (fR (by simp) ⟨_,_,rfl⟩)
  refine aj _ rfl<|bz (η e7.aY) (λhg=>rfl)<|bz (sl 11 bY a0) (λhg=>rfl)<|bz (η (i8:Int)) (λhg=>rfl)<|bz (η (ξ.wrap ((i8:Int) -1))) (λhg=>by(try rw[hg]);exact rfl) ?_;refine oM (ω:=aP) (λx9=>(T3 (bY x9))) (λhg x9 kL=>by(try rw[hg]);exact fP kL) (λx9 kL=>?_);refine bz (T3 (bY x9)) (λhg=>by(try rw[hg]);exact rfl)<|bz (η x9.aY) (λhg=>by(try rw[hg]);exact rfl)<|bz (φ (decide (e7.aY<=x9.aY))) (λhg=>by(try rw[hg]);exact rfl)<|aj _ (eY _ _) ?_;refine cA (c:=((decide (0<(i8:Int)))&&(decide (e7.aY<=x9.aY)))) (λiE=>?_) (λiE=>?_)
  ·exact bu (fR (by simp) ⟨_,_,rfl⟩)
  refine aj _ rfl<|aj _ (pX _ _)<|bz (ψ e7.title) (λhg=>rfl) ?_;refine oM (ω:=Bool) (λbG=>(φ bG)) (λhg bG oR=>by(try rw[hg]);exact(jC ((eT (e:=λr:Bool=>((φ r),σ)) (λhs=>TQ e7.title hs σ)) oR))) (λbG oR=>?_);refine bz (φ (!bG)) (λhg=>by(try rw[hg]);exact rfl)<|aj _ (eY _ _) ?_;refine cA (c:=((decide (¬(e7.title=(⟨#[]⟩:ByteArray))))&&(!bG))) (λjm=>?_) (λjm=>?_)
  ·exact bu (fR (by simp) ⟨_,_,rfl⟩)
  refine aj _ rfl<|aj _ (AQ (σ:=σ) (r:=(aT e7.br 0 36000000)) rfl)<|aj _ rfl<|bD (η e7.up) (λhg=>rfl)<|bD (φ ((aT e7.up 0 36000000))) (λhg=>by(try rw[hg]);exact(jC (AQ (σ:=σ) (r:=(aT e7.up 0 36000000)) rfl)))<|bD (φ (!((aT e7.up 0 36000000)))) (λhg=>by(try rw[hg]);exact rfl)<|aj _ (eW _ _)<|bD (η e7.down) (λhg=>rfl)<|bD (φ ((aT e7.down 0 36000000))) (λhg=>by(try rw[hg]);exact(jC (AQ (σ:=σ) (r:=(aT e7.down 0 36000000)) rfl)))<|bD (φ (!((aT e7.down 0 36000000)))) (λhg=>by(try rw[hg]);exact rfl)<|aj _ (eW _ _)<|bD (η e7.other) (λhg=>rfl)<|bD (φ ((aT e7.other 0 36000000))) (λhg=>by(try rw[hg]);exact(jC (AQ (σ:=σ) (r:=(aT e7.other 0 36000000)) rfl)))<|bD (φ (!((aT e7.other 0 36000000)))) (λhg=>by(try rw[hg]);exact rfl)<|aj _ (eW _ _)<|bD (η e7.dr) (λhg=>rfl)<|bD (φ (aT e7.dr (-1) 36000000)) (λhg=>by(try rw[hg]);exact(jC (jB e7.dr (-1) 36000000 σ)))<|bD (φ (!(aT e7.dr (-1) 36000000))) (λhg=>by(try rw[hg]);exact rfl)<|aj _ (eW _ _) ?_;refine cA (c:=(((((!((aT e7.br 0 36000000)))||(!((aT e7.up 0 36000000))))||(!((aT e7.down 0 36000000))))||(!((aT e7.other 0 36000000))))||(!(aT e7.dr (-1) 36000000)))) (λiU=>?_) (λiU=>?_)
  ·exact bu (fR (by simp) ⟨_,_,rfl⟩)
  refine aj _ rfl<|aj _ (GB e7.bS σ)<|aj _ (fC _ _ _) ?_;refine cP (p:=¬((iw e7.bS)=0)) (λoA=>?_) (λoA=>?_)
  ·exact bu (fR (by simp) ⟨_,_,rfl⟩)
  refine aj (sl 8 aW e7.bJ) rfl<|aj _ (dc _ _ _)<|aj _ rfl ?_;refine cP (p:=2000<(e7.bJ.length:Int)) (λqh=>?_) (λqh=>?_)
  ·exact bu (fR (by simp) ⟨_,_,rfl⟩)
  refine aj (sl 8 aW e7.bJ) rfl ?_;refine aK (λeC:Int=>((η eC),σ)) (λeC DP=>amP DP) (λeC DP=>?_);refine aj _ (fC _ _ _) ?_;refine cP (p:=¬(eC=0)) (λeu=>?_) (λeu=>?_)
  ·exact bu (fR (by simp) ⟨_,_,rfl⟩)
  refine aj (sl 8 aW e7.bJ) rfl<|aj _ (dc _ _ _)<|aj _ rfl<|aj _ (kG kY vo) ?_;exact bu (jF ⟨rfl,rfl⟩)
 ·intro hl s1 v w3 hI;obtain⟨rfl,rfl⟩:=hI;refine aj _ (kQ _)<|lE ?_;exact bu ⟨by simp,⟨_,_,rfl⟩⟩
 ·intro hl b2 q hq;obtain⟨u2,mF,rfl⟩:=hq;refine fD rfl<|aj _ rfl<|aj _ (C1 (decide (10000<b2)) 2 σ) ?_;exact aU _ (bf _ _) ⟨rfl,rfl⟩
 ·intro hl b2 q hq;obtain⟨u3,mF,rfl⟩:=hq;refine oo rfl<|fD rfl ?_;exact aU _ (bf _ _) ⟨rfl,rfl⟩
def AZ (a0:ef):Option (List (au×Bool)):=
 (tq (pQ a0) (((if iD a0=0 then oc a0 else[]:List au),iD a0))).bind λr1=>
 gL r1.1 (λ(qo:Nat)iF(s4:(List (au×Bool)))=>(show Option (Lr (List (au×Bool)) (List (au×Bool)) Unit)from
   δ (.go (mA iF ι s4)))) (λs4=>δ s4) ([]:List (au×Bool)) (λb5=>
  δ b5) (λb5=>
  μ)
theorem abC{a0:ef}{σ:Heap}{r:(List (au×Bool))}(h:AZ a0=δ r):Ly [(l7 (cR a0))] σ=δ ((Ff (λx=>(l7 (cB x))) (λx=>(φ x)) r),σ):=by
 refine je (f:=LJ) (y0:=(l7 (cR a0))) (enc:=λr:(List (au×Bool))=>(Ff (λx=>(l7 (cB x))) (λx=>(φ x)) r)) (T:=AZ a0) rfl rfl ?_ r h;unfold LJ AZ;refine aj _ rfl<|aj _ rfl ?_;refine aK (λr1:((List au)×Int)=>((l6 [(sl 2 cB r1.1),(η r1.2)]),σ)) (λr1 bN=>(eT (e:=λr:((List au)×Int)=>((l6 [(sl 2 cB r.1),(η r.2)]),σ)) (λhs=>UH a0 hs σ)) bN) (λr1 bN=>?_);refine aj (sl 2 cB r1.1) rfl<|aj _ rfl ?_;have hp2:Hp σ σ []:=VZ σ;have hp3:Hp σ (σ++[Z2 []]) [((U.om σ.length),(Ct.m (Zt (λp=>((λx=>(l7 (cB x))) p.1,(λx=>(φ x)) p.2)) ([]:List (au×Bool)))))]:=WU hp2;refine aj _ (dc _ _ _) ?_;refine lB (B:=(List (au×Bool))) (R:=Unit) (λ(qo:Nat)(s4:(List (au×Bool)))v w6=>v=[(η (qo:Int))]/\Hp σ w6 [((U.om σ.length),(Ct.m (Zt (λp=>((λx=>(l7 (cB x))) p.1,(λx=>(φ x)) p.2)) s4)))]) (λ(b5:(List (au×Bool)))(q:LS)=>∃u16 w7,q=((i6 0),([u16]:ay),w7)/\Hp σ w7 [((U.om σ.length),(Ct.m (Zt (λp=>((λx=>(l7 (cB x))) p.1,(λx=>(φ x)) p.2)) b5)))]) (λ(b5:Unit)(q:LS)=>False) ?_ ?_ ⟨rfl,hp3⟩ ?_ ?_
 ·intro NH qo iF s4 v w6 zc hI;obtain⟨rfl,vX⟩:=hI;refine aj _ (kS zc)<|lF<|aj _ (kF zc)<|aj _ rfl<|aj _ rfl<|aj _ (Vw _ _ rfl)<|aj _ rfl ?_;obtain⟨Zd,e14,XB⟩:=U4 (ek:=(.s [0,2])) (eK:=(λx=>(l7 (cB x)))) (eV:=(λx=>(φ x))) vX 0 rfl C6 iF ι rfl;change Hp σ Zd [((U.om σ.length),(Ct.m (Zt (λp=>((λx=>(l7 (cB x))) p.1,(λx=>(φ x)) p.2)) (mA iF ι s4))))]at XB;refine aj Zd e14<|aj _ (kG zc NH) ?_;exact bu (jF ⟨rfl,XB⟩)
 ·intro hl s4 v w6 hI;obtain⟨rfl,vX⟩:=hI;refine aj _ (kQ _)<|lE ?_;exact bu ⟨by simp,⟨_,_,rfl,vX⟩⟩
 ·intro hl b5 q hq;obtain⟨u16,w7,rfl,YS⟩:=hq;refine fD rfl ?_;exact aU _ (Nk YS (agk YS (k:=0) rfl (by intro p hp;obtain⟨x,_,rfl⟩:=jJ.1 hp;exact⟨(It (U3 _)),(Bn _)⟩))) ⟨rfl,rfl⟩
 ·intro hl b5 q hq;exact aoN hq
def AO (a0:au) (a1:au):Option Bool:=
 if ¬(a0.unit=a1.unit)then
  δ (decide (a0.unit<a1.unit))
 else
 δ (decide ((R4 a0.param.data.toList a1.param.data.toList)<0))
theorem aat{a0:au}{a1:au}{σ:Heap}{r:Bool}(h:AO a0 a1=δ r):KT [(l7 (cB a0)),(l7 (cB a1))] σ=δ ((φ r),σ):=by
 refine lq (f:=KW) (y0:=(l7 (cB a0))) (y1:=(l7 (cB a1))) (enc:=λr:Bool=>(φ r)) (T:=AO a0 a1) rfl rfl ?_ r h;unfold KW AO;refine aj _ rfl<|aj _ rfl<|aj _ rfl<|aj _ rfl<|aj _ (fC _ _ _) ?_;refine cP (p:=¬(a0.unit=a1.unit)) (λc1=>?_) (λc1=>?_)
 ·refine aj _ rfl<|aj _ rfl<|aj _ rfl ?_;exact aU _ (bf _ _) ⟨rfl,rfl⟩
 refine aj _ rfl<|aj _ rfl<|aj _ rfl<|aj _ rfl ?_;exact aU _ (bf _ _) ⟨rfl,rfl⟩
def yw (a0:ef) (a1:(List fY)):Option Int:=
 (tq (pQ a0) (iD a0)).bind λr1=>
 (tq (([r1,(if(decide (200<(a1.length:Int)))=ι then 2 else 0)]:(List Int)).length<=cz) ((([r1,(if(decide (200<(a1.length:Int)))=ι then 2 else 0)]:(List Int)).find? λn=>decide (¬n=0)).getD 0)).bind λr2=>
 if ¬(r2=0)then
  δ r2
 else
 (AZ a0).bind λr3=>
 gL a1 (λ(qo:Nat)iF(s4:Unit)=>(show Option (Lr Unit Unit Int)from
   if(!(aT iF.aY 1 999))=ι then
    δ (.ret 1)
   else
   (if decide (0<(qo:Int))=ι then cJ a1 (ξ.wrap ((qo:Int) -1))else δ default).bind λbP=>
   if((decide (0<(qo:Int)))&&(decide (iF.aY<=bP.aY)))=ι then
    δ (.ret 7)
   else
   (tq (gb iF.title) (tC iF.title)).bind λfW=>
   if(!fW)=ι then
    δ (.ret 3)
   else
   if 2000<(iF.jX.length:Int)then
    δ (.ret 2)
   else
   gL iF.jX (λ(i21:Nat)vS(JH:Unit)=>(show Option (Lr Unit Unit Int)from
     if(!((jG vS.key r3).getD ε))=ι then
      δ (.ret 8)
     else
     if(!(aT vS.level 0 65535))=ι then
      δ (.ret 1)
     else
     (if decide (0<(i21:Int))=ι then cJ iF.jX (ξ.wrap ((i21:Int) -1))else δ default).bind λbV=>
     (if decide (0<(i21:Int))=ι then AO bV.key vS.key else δ default).bind λku=>
     if((decide (0<(i21:Int)))&&(!ku))=ι then
      δ (.ret 7)
     else
     δ (.go ()))) (λJH=>δ ()) () (λzq=>
    δ (.go ())) (λzq=>
    δ (.ret zq)))) (λs4=>δ ()) () (λb5=>
  δ 0) (λb5=>
  δ b5)
theorem Ro{a0:ef}{a1:(List fY)}{σ:Heap}{r:Int}(h:yw a0 a1=δ r):Gk [(l7 (cR a0)),(sl 3 gT a1)] σ=δ ((η r),σ):=by
 refine lq (f:=Kh) (y0:=(l7 (cR a0))) (y1:=(sl 3 gT a1)) (enc:=λr:Int=>(η r)) (T:=yw a0 a1) rfl rfl ?_ r h;unfold Kh yw;refine aj _ rfl<|aj _ rfl ?_;refine aK (λr1:Int=>((η r1),σ)) (λr1 bN=>(eT (e:=λr:Int=>((η r),σ)) (λhs=>Lv a0 hs σ)) bN) (λr1 bN=>?_);refine aj _ (dc _ _ _)<|aj _ rfl<|aj _ (C1 (decide (200<(a1.length:Int))) 2 σ)<|aj (sl 1 xF ([r1,(if(decide (200<(a1.length:Int)))=ι then 2 else 0)]:(List Int))) rfl ?_;refine aK (λr2:Int=>((η r2),σ)) (λr2 hr2=>(eT (e:=λr:Int=>((η r),σ)) (λhs=>Mt ([r1,(if(decide (200<(a1.length:Int)))=ι then 2 else 0)]:(List Int)) hs σ)) hr2) (λr2 hr2=>?_);refine aj _ (fC _ _ _) ?_;refine cP (p:=¬(r2=0)) (λzB=>?_) (λzB=>?_)
 ·exact aU _ (bf _ _) ⟨rfl,rfl⟩
 refine aj _ rfl ?_;refine aK (λr3:(List (au×Bool))=>((Ff (λx=>(l7 (cB x))) (λx=>(φ x)) r3),σ)) (λr3 iG=>abC iG) (λr3 iG=>?_);refine aj _ (dc _ _ _) ?_;refine lB (B:=Unit) (R:=Int) (λ(qo:Nat)(s4:Unit)v w6=>∃u4,v=[u4,(η (qo:Int))]/\σ=w6) (λ(b5:Unit)(q:LS)=>∃u4 FW,q=((i6 0),([u4,FW]:ay),σ)) (λ(b5:Int)(q:LS)=>∃FW,q=(l8,([(η b5),FW]:ay),σ)) ?_ ?_ ⟨_,rfl,rfl⟩ ?_ ?_
 ·intro NH qo iF s4 v w6 zc hI;obtain⟨u4,rfl,rfl⟩:=hI;refine aj _ (kS zc)<|lF<|aj _ (kF zc)<|aj _ rfl<|aj _ rfl<|aj _ (an7 _ _ rfl)<|aj _ rfl<|aj _ (jB iF.aY 1 999 σ)<|aj _ rfl ?_;refine cA (c:=(!(aT iF.aY 1 999))) (λzA=>?_) (λzA=>?_)
  ·exact bu (fR (by simp) ⟨_,rfl⟩)
  refine aj _ rfl<|bz (η iF.aY) (λhg=>rfl)<|bz (sl 3 gT a1) (λhg=>rfl)<|bz (η (qo:Int)) (λhg=>rfl)<|bz (η (ξ.wrap ((qo:Int) -1))) (λhg=>by(try rw[hg]);exact rfl) ?_;refine oM (ω:=fY) (λbP=>(T3 (gT bP))) (λhg bP xO=>by(try rw[hg]);exact fP xO) (λbP xO=>?_);refine bz (T3 (gT bP)) (λhg=>by(try rw[hg]);exact rfl)<|bz (η bP.aY) (λhg=>by(try rw[hg]);exact rfl)<|bz (φ (decide (iF.aY<=bP.aY))) (λhg=>by(try rw[hg]);exact rfl)<|aj _ (eY _ _) ?_;refine cA (c:=((decide (0<(qo:Int)))&&(decide (iF.aY<=bP.aY)))) (λzz=>?_) (λzz=>?_)
  ·exact bu (fR (by simp) ⟨_,rfl⟩)
  refine aj _ rfl ?_;refine aK (λfW:Bool=>((φ fW),σ)) (λfW xL=>(eT (e:=λr:Bool=>((φ r),σ)) (λhs=>adN iF.title hs σ)) xL) (λfW xL=>?_);refine aj _ rfl ?_;refine cA (c:=(!fW)) (λzy=>?_) (λzy=>?_)
  ·exact bu (fR (by simp) ⟨_,rfl⟩)
  refine aj (sl 3 qD iF.jX) rfl<|aj _ (dc _ _ _)<|aj _ rfl ?_;refine cP (p:=2000<(iF.jX.length:Int)) (λvG=>?_) (λvG=>?_)
  ·exact bu (fR (by simp) ⟨_,rfl⟩)
  refine aj (sl 3 qD iF.jX) rfl<|aj _ (dc _ _ _) ?_;refine lB (B:=Unit) (R:=Int) (λ(i21:Nat)(JH:Unit)v Ra=>∃u4,v=[u4,(Z3 (gT iF)),(η (i21:Int))]/\σ=Ra) (λ(zq:Unit)(q:LS)=>∃u4 u8 F1,q=((i6 3),([u4,u8,F1]:ay),σ)) (λ(zq:Int)(q:LS)=>∃u8 F1,q=(l8,([(η zq),u8,F1]:ay),σ)) ?_ ?_ ⟨_,rfl,rfl⟩ ?_ ?_
  ·intro agZ i21 vS JH v Ra OM hI;obtain⟨u4,rfl,rfl⟩:=hI;refine aj _ (kS OM)<|lF<|aj _ (kF OM)<|aj _ rfl<|aj _ rfl<|aj _ (Sy _ _ rfl)<|aj _ rfl<|aj _ (ad5 (ek:=(.s [0,2])) (eK:=(λx=>(l7 (cB x)))) (eV:=(λx=>(φ x))) C6 vS.key ε rfl)<|aj _ rfl ?_;refine cA (c:=(!((jG vS.key r3).getD ε))) (λsx=>?_) (λsx=>?_)
   ·exact bu (fR (by simp) ⟨_,_,rfl⟩)
   refine aj _ rfl<|aj _ (Sq vS.level σ)<|aj _ rfl ?_;refine cA (c:=(!(aT vS.level 0 65535))) (λiV=>?_) (λiV=>?_)
   ·exact bu (fR (by simp) ⟨_,_,rfl⟩)
   refine aj _ rfl<|aj _ rfl<|bz (sl 3 qD iF.jX) (λhg=>rfl)<|bz (η (i21:Int)) (λhg=>rfl)<|bz (η (ξ.wrap ((i21:Int) -1))) (λhg=>by(try rw[hg]);exact rfl) ?_;refine oM (ω:=rD) (λbV=>(T3 (qD bV))) (λhg bV xP=>by(try rw[hg]);exact fP xP) (λbV xP=>?_);refine bz (T3 (qD bV)) (λhg=>by(try rw[hg]);exact rfl)<|bz (l7 (cB bV.key)) (λhg=>by(try rw[hg]);exact rfl)<|bz (l7 (cB vS.key)) (λhg=>rfl) ?_;refine oM (ω:=Bool) (λku=>(φ ku)) (λhg ku DR=>by(try rw[hg]);exact(jC (aat DR))) (λku DR=>?_);refine bz (φ (!ku)) (λhg=>by(try rw[hg]);exact rfl)<|aj _ (eY _ _) ?_;refine cA (c:=((decide (0<(i21:Int)))&&(!ku))) (λgp=>?_) (λgp=>?_)
   ·exact bu (fR (by simp) ⟨_,_,rfl⟩)
   refine aj _ (kG OM agZ) ?_;exact bu (jF ⟨_,rfl,rfl⟩)
  ·intro hl JH v Ra hI;obtain⟨u4,rfl,rfl⟩:=hI;refine aj _ (kQ _)<|lE ?_;exact bu ⟨by simp,⟨_,_,_,rfl⟩⟩
  ·intro hl zq q hq;obtain⟨u4,u8,F1,rfl⟩:=hq;refine fD rfl<|aj _ (kG zc NH) ?_;exact bu (jF ⟨_,rfl,rfl⟩)
  ·intro hl zq q hq;obtain⟨u8,F1,rfl⟩:=hq;refine oo rfl<|fD rfl ?_;exact bu (fR (by simp) ⟨_,rfl⟩)
 ·intro hl s4 v w6 hI;obtain⟨u4,rfl,rfl⟩:=hI;refine aj _ (kQ _)<|lE ?_;exact bu ⟨by simp,⟨_,_,rfl⟩⟩
 ·intro hl b5 q hq;obtain⟨u4,FW,rfl⟩:=hq;refine fD rfl ?_;exact aU _ (bf _ _) ⟨rfl,rfl⟩
 ·intro hl b5 q hq;obtain⟨FW,rfl⟩:=hq;refine oo rfl<|fD rfl ?_;exact aU _ (bf _ _) ⟨rfl,rfl⟩
def AR (a0:(List fY)) (a1:au) (a2:aO):Option (Int×Int):=
 if((decide (¬(a2.level=0)))&&(decide (¬(a2.bW=0))))=ι then
  δ (0,3)
 else
 if(!(aT a2.level 0 65535))=ι then
  δ (0,1)
 else
 if a2.bW=0 then
  δ (a2.level,0)
 else
 gL a0 (λ(i8:Nat)e7(s1:Unit)=>(show Option (Lr Unit Unit Int)from
   if ¬(e7.aY=a2.bW)then
    δ (.go ())
   else
   gL e7.jX (λ(i16:Nat)Jk(s9:Unit)=>(show Option (Lr Unit Unit Int)from
     if Jk.key=a1 then
      δ (.ret Jk.level)
     else
     δ (.go ()))) (λs9=>δ ()) () (λzo=>
    δ (.lK ())) (λzo=>
    δ (.ret zo)))) (λs1=>δ ()) () (λb2=>
  δ (0,8)) (λb2=>
  δ (b2,0))
theorem aa1{a0:(List fY)}{a1:au}{a2:aO}{σ:Heap}{r:(Int×Int)}(h:AR a0 a1 a2=δ r):K6 [(sl 3 gT a0),(l7 (cB a1)),(l7 (tD a2))] σ=δ ((l6 [(η r.1),(η r.2)]),σ):=by
 refine Hy (f:=Lf) (y0:=(sl 3 gT a0)) (y1:=(l7 (cB a1))) (y2:=(l7 (tD a2))) (enc:=λr:(Int×Int)=>(l6 [(η r.1),(η r.2)])) (T:=AR a0 a1 a2) rfl rfl ?_ r h;unfold Lf AR;refine aj _ rfl<|aj _ rfl<|aj _ rfl<|aj _ (fC _ _ _)<|bz (η a2.bW) (λhg=>rfl)<|bz (φ (decide (¬(a2.bW=0)))) (λhg=>by(try rw[hg]);exact(fC _ _ _))<|aj _ (eY _ _) ?_;refine cA (c:=((decide (¬(a2.level=0)))&&(decide (¬(a2.bW=0))))) (λsu=>?_) (λsu=>?_)
 ·exact aU _ (bf _ _) ⟨rfl,rfl⟩
 refine aj _ rfl<|aj _ (Sq a2.level σ)<|aj _ rfl ?_;refine cA (c:=(!(aT a2.level 0 65535))) (λzx=>?_) (λzx=>?_)
 ·exact aU _ (bf _ _) ⟨rfl,rfl⟩
 refine aj _ rfl<|aj _ (eG _ _ _) ?_;refine cP (p:=a2.bW=0) (λvF=>?_) (λvF=>?_)
 ·refine aj _ rfl ?_;exact aU _ (bf _ _) ⟨rfl,rfl⟩
 refine aj _ (dc _ _ _) ?_;refine lB (B:=Unit) (R:=Int) (λ(i8:Nat)(s1:Unit)v w3=>v=[(Z3 (cB a1)),(Z3 (tD a2)),(η 0),(η 0),(η (i8:Int))]/\σ=w3) (λ(b2:Unit)(q:LS)=>∃u4 u5 u6 u7 FX,q=((i6 0),([u4,u5,u6,u7,FX]:ay),σ)) (λ(b2:Int)(q:LS)=>∃u4 u5 FX,q=(l8,([u4,u5,(η b2),(η 0),FX]:ay),σ)) ?_ ?_ ⟨rfl,rfl⟩ ?_ ?_
 ·intro vo i8 e7 s1 v w3 kY hI;obtain⟨rfl,rfl⟩:=hI;refine aj _ (kS kY)<|lF<|aj _ (kF kY)<|aj _ rfl<|aj _ rfl<|aj _ (an7 _ _ rfl)<|aj _ rfl<|aj _ rfl<|aj _ rfl<|aj _ (fC _ _ _) ?_;refine cP (p:=¬(e7.aY=a2.bW)) (λjo=>?_) (λjo=>?_)
  ·refine aj _ (kG kY vo) ?_;exact bu (jF ⟨rfl,rfl⟩)
  refine aj (sl 3 qD e7.jX) rfl<|aj _ (dc _ _ _) ?_;refine lB (B:=Unit) (R:=Int) (λ(i16:Nat)(s9:Unit)v Q9=>v=[(Z3 (cB a1)),(η 0),(η 0),(η (i16:Int))]/\σ=Q9) (λ(zo:Unit)(q:LS)=>∃u4 u6 u7 FY,q=((i6 2),([u4,u6,u7,FY]:ay),σ)) (λ(zo:Int)(q:LS)=>∃u4 FY,q=(l8,([u4,(η zo),(η 0),FY]:ay),σ)) ?_ ?_ ⟨rfl,rfl⟩ ?_ ?_
  ·intro agY i16 Jk s9 v Q9 OL hI;obtain⟨rfl,rfl⟩:=hI;refine aj _ (kS OL)<|lF<|aj _ (kF OL)<|aj _ rfl<|aj _ rfl<|aj _ (Sy _ _ rfl)<|aj _ rfl<|aj _ rfl<|aj _ (agf _ _) ?_;refine cP (p:=Jk.key=a1) (λiE=>?_) (λiE=>?_)
   ·refine aj _ rfl ?_;exact bu (fR (by simp) ⟨_,_,rfl⟩)
   refine aj _ (kG OL agY) ?_;exact bu (jF ⟨rfl,rfl⟩)
  ·intro hl s9 v Q9 hI;obtain⟨rfl,rfl⟩:=hI;refine aj _ (kQ _)<|lE ?_;exact bu ⟨by simp,⟨_,_,_,_,rfl⟩⟩
  ·intro hl zo q hq;obtain⟨u4,u6,u7,FY,rfl⟩:=hq;refine fD rfl ?_;exact bu (Ij (by simp) ⟨_,_,_,_,_,rfl⟩)
  ·intro hl zo q hq;obtain⟨u4,FY,rfl⟩:=hq;refine oo rfl<|fD rfl ?_;exact bu (fR (by simp) ⟨_,_,_,rfl⟩)
 ·intro hl s1 v w3 hI;obtain⟨rfl,rfl⟩:=hI;refine aj _ (kQ _)<|lE ?_;exact bu ⟨by simp,⟨_,_,_,_,_,rfl⟩⟩
 ·intro hl b2 q hq;obtain⟨u4,u5,u6,u7,FX,rfl⟩:=hq;refine fD rfl ?_;exact aU _ (bf _ _) ⟨rfl,rfl⟩
 ·intro hl b2 q hq;obtain⟨u4,u5,FX,rfl⟩:=hq;refine oo rfl<|fD rfl ?_;exact aU _ (bf _ _) ⟨rfl,rfl⟩
def yB (a0:ef) (a1:(List fY)) (a2:(List aP)):Option Int:=
 (yw a0 a1).bind λr1=>
 (A3 a2).bind λr2=>
 (tq (([r1,r2]:(List Int)).length<=cz) ((([r1,r2]:(List Int)).find? λn=>decide (¬n=0)).getD 0)).bind λr3=>
 if ¬(r3=0)then
  δ r3
 else
 (tq (pQ a0) (((if iD a0=0 then oc a0 else[]:List au),iD a0))).bind λr4=>
 gL r4.1 (λ(QI:Nat)Jj(s7:(List (au×Bool)))=>(show Option (Lr (List (au×Bool)) (List (au×Bool)) Unit)from
   δ (.go (mA Jj ι s7)))) (λs7=>δ s7) ([]:List (au×Bool)) (λb8=>
  gL a2 (λ(i25:Nat)Qg(qW:Unit)=>(show Option (Lr Unit Unit Int)from
    gL Qg.bJ (λ(i33:Nat)B3(JJ:Unit)=>(show Option (Lr Unit Unit Int)from
      if(!((jG B3.key b8).getD ε))=ι then
       δ (.ret 8)
      else
      (AR a1 B3.key B3.value).bind λdP=>
      if ¬(dP.2=0)then
       δ (.ret dP.2)
      else
      δ (.go ()))) (λJJ=>δ ()) () (λzw=>
     δ (.go ())) (λzw=>
     δ (.ret zw)))) (λqW=>δ ()) () (λzu=>
   δ 0) (λzu=>
   δ zu)) (λb8=>
  μ)
theorem aoC{a0:ef}{a1:(List fY)}{a2:(List aP)}{σ:Heap}{r:Int}(h:yB a0 a1 a2=δ r):AD [(l7 (cR a0)),(sl 3 gT a1),(sl 11 bY a2)] σ=δ ((η r),σ):=by
 refine Hy (f:=KA) (y0:=(l7 (cR a0))) (y1:=(sl 3 gT a1)) (y2:=(sl 11 bY a2)) (enc:=λr:Int=>(η r)) (T:=yB a0 a1 a2) (fB (BP (fB (ng (λ_=>(fB rfl (fB rfl (fB (ng (λ_=>rfl) _) rP)))) _) (fB rfl rP))) (fB (ng (λ_=>rfl) _) (fB (ng (λ_=>rfl) _) rfl))) rfl ?_ r h;unfold KA yB;refine aj _ rfl<|aj _ rfl ?_;refine aK (λr1:Int=>((η r1),σ)) (λr1 bN=>Ro bN) (λr1 bN=>?_);refine aK (λr2:Int=>((η r2),σ)) (λr2 hr2=>acd hr2) (λr2 hr2=>?_);refine aj (sl 1 xF ([r1,r2]:(List Int))) rfl ?_;refine aK (λr3:Int=>((η r3),σ)) (λr3 iG=>(eT (e:=λr:Int=>((η r),σ)) (λhs=>Mt ([r1,r2]:(List Int)) hs σ)) iG) (λr3 iG=>?_);refine aj _ (fC _ _ _) ?_;refine cP (p:=¬(r3=0)) (λvH=>?_) (λvH=>?_)
 ·exact aU _ (bf _ _) ⟨rfl,rfl⟩
 refine aj _ rfl ?_;refine aK (λr4:((List au)×Int)=>((l6 [(sl 2 cB r4.1),(η r4.2)]),σ)) (λr4 mD=>(eT (e:=λr:((List au)×Int)=>((l6 [(sl 2 cB r.1),(η r.2)]),σ)) (λhs=>UH a0 hs σ)) mD) (λr4 mD=>?_);refine aj (sl 2 cB r4.1) rfl<|aj _ rfl ?_;have hp5:Hp σ σ []:=VZ σ;have hp6:Hp σ (σ++[Z2 []]) [((U.om σ.length),(Ct.m (Zt (λp=>((λx=>(l7 (cB x))) p.1,(λx=>(φ x)) p.2)) ([]:List (au×Bool)))))]:=WU hp5;refine aj _ (dc _ _ _) ?_;refine lB (B:=(List (au×Bool))) (R:=Unit) (λ(QI:Nat)(s7:(List (au×Bool)))v w9=>v=[(η (QI:Int))]/\Hp σ w9 [((U.om σ.length),(Ct.m (Zt (λp=>((λx=>(l7 (cB x))) p.1,(λx=>(φ x)) p.2)) s7)))]) (λ(b8:(List (au×Bool)))(q:LS)=>∃anv Q8,q=((i6 0),([anv]:ay),Q8)/\Hp σ Q8 [((U.om σ.length),(Ct.m (Zt (λp=>((λx=>(l7 (cB x))) p.1,(λx=>(φ x)) p.2)) b8)))]) (λ(b8:Unit)(q:LS)=>False) ?_ ?_ ⟨rfl,hp6⟩ ?_ ?_
 ·intro agX QI Jj s7 v w9 OK hI;obtain⟨rfl,OT⟩:=hI;refine aj _ (kS OK)<|lF<|aj _ (kF OK)<|aj _ rfl<|aj _ rfl<|aj _ (Vw _ _ rfl)<|aj _ rfl ?_;obtain⟨aod,e17,XC⟩:=U4 (ek:=(.s [0,2])) (eK:=(λx=>(l7 (cB x)))) (eV:=(λx=>(φ x))) OT 0 rfl C6 Jj ι rfl;change Hp σ aod [((U.om σ.length),(Ct.m (Zt (λp=>((λx=>(l7 (cB x))) p.1,(λx=>(φ x)) p.2)) (mA Jj ι s7))))]at XC;refine aj aod e17<|aj _ (kG OK agX) ?_;exact bu (jF ⟨rfl,XC⟩)
 ·intro hl s7 v w9 hI;obtain⟨rfl,OT⟩:=hI;refine aj _ (kQ _)<|lE ?_;exact bu ⟨by simp,⟨_,_,rfl,OT⟩⟩
 ·intro hl b8 q hq;obtain⟨anv,Q8,rfl,ajt⟩:=hq;refine fD rfl<|aj _ (dc _ _ _) ?_;refine lB (B:=Unit) (R:=Int) (λ(i25:Nat)(qW:Unit)v Rb=>∃u6,v=[u6,(η (i25:Int))]/\Hp σ Rb [((U.om σ.length),(Ct.m (Zt (λp=>((λx=>(l7 (cB x))) p.1,(λx=>(φ x)) p.2)) b8)))]) (λ(zu:Unit)(q:LS)=>∃u6 FZ Ad,q=((i6 2),([u6,FZ]:ay),Ad)/\Hp σ Ad [((U.om σ.length),(Ct.m (Zt (λp=>((λx=>(l7 (cB x))) p.1,(λx=>(φ x)) p.2)) b8)))]) (λ(zu:Int)(q:LS)=>∃FZ Ad,q=(l8,([(η zu),FZ]:ay),Ad)/\Hp σ Ad []) ?_ ?_ ⟨_,rfl,ajt⟩ ?_ ?_
  ·intro ag0 i25 Qg qW v Rb ON hI;obtain⟨u6,rfl,OU⟩:=hI;refine aj _ (kS ON)<|lF<|aj _ (kF ON)<|aj _ rfl<|aj _ rfl<|aj _ (M9 _ _ rfl)<|aj (sl 8 aW Qg.bJ) rfl<|aj _ (dc _ _ _) ?_;refine lB (B:=Unit) (R:=Int) (λ(i33:Nat)(JJ:Unit)v JP=>∃u6,v=[u6,(η (i33:Int))]/\Hp σ JP [((U.om σ.length),(Ct.m (Zt (λp=>((λx=>(l7 (cB x))) p.1,(λx=>(φ x)) p.2)) b8)))]) (λ(zw:Unit)(q:LS)=>∃u6 F0 Ae,q=((i6 4),([u6,F0]:ay),Ae)/\Hp σ Ae [((U.om σ.length),(Ct.m (Zt (λp=>((λx=>(l7 (cB x))) p.1,(λx=>(φ x)) p.2)) b8)))]) (λ(zw:Int)(q:LS)=>∃F0 Ae,q=(l8,([(η zw),F0]:ay),Ae)/\Hp σ Ae []) ?_ ?_ ⟨_,rfl,OU⟩ ?_ ?_
   ·intro ag1 i33 B3 JJ v JP OO hI;obtain⟨u6,rfl,BN⟩:=hI;refine aj _ (kS OO)<|lF<|aj _ (kF OO)<|aj _ rfl<|aj _ rfl<|aj _ (jY _ _ rfl)<|aj _ rfl<|aj _ (aec (ek:=(.s [0,2])) (eK:=(λx=>(l7 (cB x)))) (eV:=(λx=>(φ x))) BN 0 rfl C6 B3.key ε rfl)<|aj _ rfl ?_;refine cA (c:=(!((jG B3.key b8).getD ε))) (λoC=>?_) (λoC=>?_)
    ·exact bu (fR (by simp) ⟨_,_,rfl,(MX BN)⟩)
    refine aj _ rfl<|aj _ rfl ?_;refine aK (λdP:(Int×Int)=>((l6 [(η dP.1),(η dP.2)]),JP)) (λdP DS=>aa1 DS) (λdP DS=>?_);refine aj _ rfl<|aj _ rfl<|aj _ (fC _ _ _) ?_;refine cP (p:=¬(dP.2=0)) (λoB=>?_) (λoB=>?_)
    ·exact bu (fR (by simp) ⟨_,_,rfl,(MX BN)⟩)
    refine aj _ (kG OO ag1) ?_;exact bu (jF ⟨_,rfl,BN⟩)
   ·intro hl JJ v JP hI;obtain⟨u6,rfl,BN⟩:=hI;refine aj _ (kQ _)<|lE ?_;exact bu ⟨by simp,⟨_,_,_,rfl,BN⟩⟩
   ·intro hl zw q hq;obtain⟨u6,F0,Ae,rfl,OW⟩:=hq;refine fD rfl<|aj _ (kG ON ag0) ?_;exact bu (jF ⟨_,rfl,OW⟩)
   ·intro hl zw q hq;obtain⟨F0,Ae,rfl,OW⟩:=hq;refine oo rfl<|fD rfl ?_;exact bu (fR (by simp) ⟨_,_,rfl,(MX OW)⟩)
  ·intro hl qW v Rb hI;obtain⟨u6,rfl,OU⟩:=hI;refine aj _ (kQ _)<|lE ?_;exact bu ⟨by simp,⟨_,_,_,rfl,OU⟩⟩
  ·intro hl zu q hq;obtain⟨u6,FZ,Ad,rfl,OV⟩:=hq;refine fD rfl ?_;exact aU _ (Nk OV (VY (fO _ _))) ⟨rfl,rfl⟩
  ·intro hl zu q hq;obtain⟨FZ,Ad,rfl,OV⟩:=hq;refine oo rfl<|fD rfl ?_;exact aU _ (Nk OV (VY (fO _ _))) ⟨rfl,rfl⟩
 ·intro hl b8 q hq;exact aoN hq
end
abbrev SmK:={k:au // 0<=k.unit/\k.unit<=1000000}
instance : Inhabited SmK := ⟨⟨⟨0, ⟨#[]⟩⟩, by decide⟩⟩
section
section
variable {κ ν : Type} [DecidableEq κ]
theorem S4(k a:κ)(v:ν):∀(l:List (κ×ν)),jG k (mA a v l)=if k=a then δ v else jG k l
 |[]=>by simp [mA,jG]
 |(b,w)::l=>by
  rw[mA];by_cases h:a=b
  ·subst h;rw[aG rfl,jG,jG];split<;>rfl
  ·rw[aE h,jG,jG,S4 k a v l];by_cases h2:k=b
   ·subst h2;rw[aG rfl,aG rfl,aE (λe=>h e.symm)]
   ·rw[aE h2,aE h2]
theorem Mr(k:κ):∀(l:List κ)(s:List (κ×Bool)),(jG k (l.foldl (λs x=>mA x ι s) s)).getD ε=(decide (k∈l)||(jG k s).getD ε)
 |[],s=>by simp
 |x::l,s=>by
  rw[List.foldl_cons,Mr k l,S4];by_cases h:k=x
  ·simp [h]
  ·simp [h]
end
theorem abS{l:List Int}{n:Int}(h:l.Pairwise (·<·))(k:zf l n=ε):(l++[n]).Pairwise (·<·):=by
 rw[List.pairwise_append];refine⟨h,by simp,λa ha b hb=>?_⟩;simp at hb;subst hb;unfold zf at k;cases hl:l.getLast? with
 |none=>rw[List.getLast?_eq_none_iff]at hl;subst hl;simp at ha
 |some m=>
  rw[hl]at k;simp at k;obtain⟨ys,rfl⟩:=List.getLast?_eq_some_iff.1 hl;rw[List.pairwise_append]at h;rcases ga.1 ha with ha|ha
  ·have:=h.2.2 a ha m (by simp);omega
  ·simp at ha;omega
theorem Se{fK:List dG}:∀(rest pre:List fS),BJ fK pre rest=0->(pre.map (·.aY)).Pairwise (·<·)->((pre++rest).map (·.aY)).Pairwise (·<·)
 |[],pre,_,h=>by simpa using h
 |u::rest,pre,hc,h=>by
  rw[BJ]at hc;split at hc
  ·cases hc
  split at hc
  ·cases hc
  rename_i ho;split at hc
  ·cases hc
  split at hc
  ·cases hc
  split at hc
  ·cases hc
  have:=Se rest (pre++[u]) hc (by rw[List.map_append];exact abS h (by simpa using ho));simpa using this
theorem abO{r:ef}(h:iD r=0):(r.ji.map (·.aY)).Pairwise (·<·):=by
 unfold iD at h;split at h
 ·split at h
  ·cases h
  ·simpa using Se r.ji [] h (by simp)
 ·rename_i h2;exact absurd h h2
theorem acp(p:dG)(nm:ByteArray):(Nu p nm).2=ι↔∃x∈p.params,x.name=nm:=by
 unfold Nu;cases h:p.params.find? λx=>decide (x.name=nm)with
 |none=>simp only[Option.elim_none,n5,false_iff];rintro⟨x,hx,e⟩;have:=List.find?_eq_none.1 h x hx;simp [e]at this
 |some x=>simp only[Option.elim_some,true_iff];exact⟨x,List.mem_of_find?_eq_some h,by simpa using List.find?_some h⟩
theorem adH{l:List fS}(h:(l.map (·.aY)).Pairwise (·<·)){u v:fS}(hu:u∈l)(hv:v∈l)(e:u.aY=v.aY):u=v:=by
 induction l with
 |nil=>simp at hu
 |cons x l ih=>
  rw[dJ,List.pairwise_cons]at h;rcases dW.1 hu with hu1|hu1<;>rcases dW.1 hv with FH|FH
  ·rw[hu1,FH]
  ·have:=h.1 v.aY (jJ.2 ⟨v,FH,rfl⟩);rw[<-hu1]at this;omega
  ·have:=h.1 u.aY (jJ.2 ⟨u,hu1,rfl⟩);rw[<-FH]at this;omega
  ·exact ih h.2 hu1 FH
def xJ(r:ef)(k:au):Bool:=(Vp r k).2
theorem aox{r:ef}(h:iD r=0)(k:au):xJ r k=decide (k∈oc r):=by
 rw[kg,decide_eq_true_iff];unfold xJ Vp oc;rw[List.mem_flatMap];cases hf:r.ji.find? λu=>decide (u.aY=k.unit)with
 |none=>simp only[Option.elim_none,n5,false_iff];rintro⟨u,hu,hk⟩;obtain⟨x,_,rfl⟩:=jJ.1 hk;have:=List.find?_eq_none.1 hf u hu;simp at this
 |some u=>
  have hu:=List.mem_of_find?_eq_some hf;have hn:u.aY=k.unit:=by simpa using List.find?_some hf
  simp only[Option.elim_some,acp];constructor
  ·rintro⟨x,hx,e⟩;exact⟨u,hu,jJ.2 ⟨x,hx,by rw[hn,e]⟩⟩
  ·rintro⟨v,hv,hk⟩;obtain⟨x,hx,rfl⟩:=jJ.1 hk;obtain rfl:=adH (abO h) hu hv hn;exact⟨x,hx,rfl⟩
theorem Uj{r:ef}(h:iD r=0):(oc r).length<=16000:=by have h1:=Ls h r.ji;have h2:=SP h;show(r.ji.flatMap (nY r.dn)).length<=_;omega
theorem aee{α:Type}{p:Prop}[Decidable p](a b:α):(if p then δ a else δ b)=δ (if p then a else b):=by split<;>rfl
theorem L8{α β:Type}{p:Prop}[Decidable p](a b:α)(f:α->Option β):(if p then δ a else δ b).bind f=f (if p then a else b):=by split<;>rfl
theorem before_eq(a b:au):AO a b=δ (qR a b):=by
 unfold AO qR;by_cases h:a.unit=b.unit
 ·simp [h,aoy,MQ]
 ·by_cases h2:a.unit<b.unit<;>simp [h,h2]
theorem compare_eq(a b:au):AN a b=δ (BK a b):=by
 unfold AN BK;by_cases h:a.unit=b.unit
 ·simp [h]
 ·by_cases h2:a.unit<b.unit<;>simp [h,h2]
def NO(has:au->Bool)(l:List rD)(i:Nat)(x:rD):Int:=
 if(!has x.key)=ι then 8
 else if(!(aT x.level 0 65535))=ι then 1
 else if(decide (0<(i:Int))&&!qR (pv l i).key x.key)=ι then 7 else 0
def M5(has:au->Bool)(l:List fY)(i:Nat)(p:fY):Int:=
 if(!(aT p.aY 1 999))=ι then 1
 else if(decide (0<(i:Int))&&decide (p.aY<=(pv l i).aY))=ι then 7
 else if(!(tC p.title))=ι then 3
 else if 2000<(p.jX.length:Int)then 2
 else gK (NO has p.jX) p.jX 0
def uH(r:ef)(l:List fY):Int:=
 if ¬(iD r=0)then iD r else if 200<(l.length:Int)then 2 else gK (M5 (xJ r) l) l 0
theorem aaX(c:Bool)(a b:au):(c&&!(if c=ι then qR a b else(default:Bool)))=(c&&!qR a b):=by cases c<;>rfl
theorem ade(c:Bool)(a b:au):(c&&decide (0<=(if c=ι then BK a b else(default:Int))))=(c&&!qR a b):=by
 cases c
 ·rfl
 ·simp only[if_true,Y8];exact aeY a b
theorem abB(s:ByteArray):(decide (¬(s=(⟨#[]⟩:ByteArray)))&&!(if decide (¬(s=(⟨#[]⟩:ByteArray)))=ι then BB s else(default:Bool)))=!tC s:=by unfold tC;by_cases h:s=⟨#[]⟩<;>simp [h]
theorem RM(r:ef)(l:List fY)(hr:pQ r)(hl:dX uG l):yw r l=δ (uH r l):=by
 unfold yw uH;simp only[eO hr,aB];rw[eO (by show 2<=cz;unfold cz;omega)];simp only[WI,aB];by_cases h0:iD r=0;case neg=>simp [h0]
 by_cases h1:200<(l.length:Int)
 ·simp [h0,h1]
 have hk:AZ r=δ ((oc r).foldl (λs x=>mA x ι s) []):=by unfold AZ;have:=Uj h0;simp only[eO hr,aB,h0,if_true];rw[Me (λs x=>mA x ι s) (λ_ _=>True) (by unfold cz;omega) trivial (λ_ _ _ _ _=>trivial) (λ_ _ _ _ _=>rfl)];rfl
 simp only[h0,h1,not_true_eq_false,if_false,decide_false,n5,hk,aB]
 have has:∀k,(jG k ((oc r).foldl (λs x=>mA x ι s) [])).getD ε=xJ r k:=by intro k;rw[Mr,aox h0];simp [jG]
 rw[CT (f:=M5 (xJ r) l) hl.1 ?_]
 ·split
  ·rename_i h;rw[h]
  ·rfl
 intro i p hp;have QD:=hl.2 p (cW hp);obtain⟨_,ht,hs⟩:=QD;simp only[Ig hp hl.1,aB,eO ht,has];rw[CT (f:=NO (xJ r) p.jX) hs.1 ?_]
 ·unfold M5;repeat first|exact TZ _|exact go_ret|refine H9 (by decide) ?_
 intro j x hx;simp only[Ig hx hs.1,aB,before_eq,L8,aaX];unfold NO;repeat first|exact go_ret|refine H9 (by decide) ?_
def MY(l:List fY)(k:au)(v:aO):Int×Int:=
 if(decide (¬(v.level=0))&&decide (¬(v.bW=0)))=ι then(0,3)
 else if(!(aT v.level 0 65535))=ι then(0,1)
 else if v.bW=0 then(v.level,0)
 else match l.find? λp=>decide (p.aY=v.bW)with
  |none=>(0,8)
  |some p=>match p.jX.find? λs=>decide (s.key=k)with|none=>(0,8)|some s=>(s.level,0)
theorem ab4{α γ R:Type}{p:α->Bool}{l:List α}{body:Nat->α->Unit->Option (Lr Unit Unit R)}{r:α->Option R}{fin:Unit->Option Unit}{s:Unit}{K1:Unit->Option γ}{K2:R->Option γ}(hl:l.length<=cz)(hb:∀i x,l[i]? =δ x->body i x ()=if p x=ι then δ (match r x with|some q=>.ret q|none=>.lK ())else δ (.go ()))(hf:fin ()=δ ():=by rfl):gL l body fin s K1 K2=match l.find? p with|some x=>(match r x with|some q=>K2 q|none=>K1 ())|none=>K1 ():=by
 rw[wR hl]
 have key:∀(rest pre:List α),l=pre++rest->gh body fin rest pre.length ()=δ (match rest.find? p with|some x=>(match r x with|some q=>.inr q|none=>.inl ())|none=>.inl ()):=by
  intro rest;induction rest with
  |nil=>intro pre _;simp [gh,hf]
  |cons x rest ih=>
   intro pre hp;rw[gh,hb pre.length x (by rw[hp];simp),List.find?_cons];cases h:p x
   ·simp only[n5,if_false,aB];have:=ih (pre++[x]) (by simpa using hp);simpa using this
   ·simp only[if_true,aB];cases r x<;>rfl
 have k:=key l [] rfl;rw[Zh]at k;rw[show s=()from rfl,k,aB];cases l.find? p with
 |none=>rfl
 |some x=>simp only;cases r x<;>rfl
theorem aeP(l:List fY)(hl:dX uG l)(k:au)(v:aO):AR l k v=δ (MY l k v):=by
 unfold AR MY;split
 ·rfl
 split
 ·rfl
 split
 ·rfl
 rw[ab4 (p:=λp=>decide (p.aY=v.bW)) (r:=λp=>(p.jX.find? λs=>decide (s.key=k)).map (·.level)) hl.1 ?_]
 ·cases hf:l.find? λp=>decide (p.aY=v.bW)with
  |none=>rfl
  |some p=>simp only;cases p.jX.find? λs=>decide (s.key=k)<;>rfl
 intro i p hp;have QD:=hl.2 p (cW hp);by_cases hn:p.aY=v.bW
 ·simp only[hn,not_true_eq_false,if_false,decide_true,if_true];rw[Te (p:=λs=>decide (s.key=k)) (r:=λs=>s.level) QD.2.2.1 (by intro i x _;simp only[decide_eq_true_eq,aee])];cases p.jX.find? λs=>decide (s.key=k)<;>rfl
 ·simp [hn]
def Dq(l:List aJ)(i:Nat)(m:aJ):Int:=
 if(!(aT m.key.unit 1 9999))=ι then 1
 else if(!(oh m.key.param))=ι then 5
 else if((m.release&&(decide (¬(m.value=(⟨0,0⟩:aO)))))||((decide (¬(m.value.level=0)))&&(decide (¬(m.value.bW=0)))))=ι then 3
 else if((!(aT m.value.level 0 65535))||(!(aT m.value.bW 0 999)))=ι then 1
 else if((!m.cG)&&((decide (¬(m.br=0)))||(decide (¬(m.time=0)))))=ι then 3
 else if((!(aT m.br 0 36000000))||(!(aT m.time 0 36000000)))=ι then 1
 else if(decide (0<(i:Int))&&!qR (pv l i).key m.key)=ι then 7 else 0
def Nn(l:List aJ):Int:=gK (Dq l) l 0
theorem aaV(l:List aJ)(hl:dX Ix l):AA l=δ (Nn l):=by
 unfold AA Nn;rw[CT (f:=Dq l) hl.1 ?_]
 ·split
  ·rename_i h;rw[h]
  ·rfl
 intro i m hm;have hmm:=hl.2 m (cW hm);simp only[Ig hm hl.1,aB,eO hmm.1.2,compare_eq,L8,ade];unfold Dq;repeat first|exact go_ret|refine H9 (by decide) ?_
def tW(l:List aP)(i:Nat)(c:aP):Int:=
 if(!(aT c.aY 1 9999999))=ι then 1
 else if(decide (0<(i:Int))&&decide (c.aY<=(pv l i).aY))=ι then 7
 else if(!(tC c.title))=ι then 3
 else if(((((!(aT c.br 0 36000000))||(!(aT c.up 0 36000000)))||(!(aT c.down 0 36000000)))||(!(aT c.other 0 36000000)))||(!(aT c.dr (-1) 36000000)))=ι then 1
 else if ¬(iw c.bS=0)then iw c.bS
 else if 2000<(c.bJ.length:Int)then 2
 else Nn c.bJ
def NK(l:List aP):Int:=l.foldl (λs c=>ξ.wrap (s+(c.bJ.length:Int))) 0
def tM(l:List aP):Int:=
 if 300<(l.length:Int)then 2 else if ¬(gK (tW l) l 0=0)then gK (tW l) l 0 else if 10000<NK l then 2 else 0
theorem ac6{α γ S B:Type}{f:Nat->α->Int}{g:S->α->S}{l:List α}{body:Nat->α->S->Option (Lr S B Int)}{fin:S->Option B}{s:S}{K1:B->Option γ}{K2:Int->Option γ}(hl:l.length<=cz)(hb:∀i x s,l[i]? =δ x->body i x s=δ (if f i x=0 then .go (g s x)else .ret (f i x))):gL l body fin s K1 K2=if gK f l 0=0 then(fin (l.foldl g s)).bind K1 else K2 (gK f l 0):=by
 rw[wR hl]
 have key:∀(rest pre:List α)(s:S),l=pre++rest->gh body fin rest pre.length s=if gK f rest pre.length=0 then(fin (rest.foldl g s)).map .inl else δ (.inr (gK f rest pre.length)):=by
  intro rest;induction rest with
  |nil=>intro pre s _;simp [gh,gK]
  |cons x rest ih=>
   intro pre s hp;rw[gh,hb pre.length x s (by rw[hp];simp),aB,gK];by_cases h:f pre.length x=0
   ·simp only[h,if_true];have:=ih (pre++[x]) (g s x) (by simpa using hp);simpa using this
   ·simp only[h,if_false]
 have k:=key l [] s rfl;rw[Zh]at k;rw[k];split
 ·cases fin (l.foldl g s)<;>rfl
 ·rfl
theorem aef{S B:Type}{p:Prop}[Decidable p]{k f:Int}{t:S}{Y:Option (Lr S B Int)}(hk:k≠0)(h:Y=δ (if f=0 then .go t else .ret f)):(if p then δ (.ret k)else Y)=δ (if(if p then k else f)=0 then .go t else .ret (if p then k else f)):=by
 by_cases hp:p
 ·simp [hp,hk]
 ·simp [hp,h]
theorem adh{S B:Type}{k f:Int}{t:S}{Y:Option (Lr S B Int)}(h:Y=δ (if f=0 then .go t else .ret f)):(if ¬(k=0)then δ (.ret k)else Y)=δ (if(if ¬(k=0)then k else f)=0 then .go t else .ret (if ¬(k=0)then k else f)):=by
 by_cases hp:k=0
 ·simp [hp,h]
 ·simp [hp]
theorem anD{S B:Type}{k:Int}{t:S}:(if ¬(k=0)then δ (.ret k)else δ (.go t):Option (Lr S B Int))=δ (if k=0 then .go t else .ret k):=by by_cases hp:k=0<;>simp [hp]
theorem agh(l:List aP)(hl:dX rQ l):A3 l=δ (tM l):=by
 unfold A3 tM;split
 ·rfl
 rw[ac6 (f:=tW l) (g:=λs c=>ξ.wrap (s+(c.bJ.length:Int))) hl.1 ?_]
 ·show(if gK (tW l) l 0=0 then δ (if decide (10000<NK l)=ι then(2:Int)else 0)else δ (gK (tW l) l 0))=_;by_cases h:gK (tW l) l 0=0
  ·by_cases h2:10000<NK l<;>simp [h,h2]
  ·simp [h]
 intro i c s hc;obtain⟨_,ht,_,_,_,_,_,_,hm⟩:=hl.2 c (cW hc);simp only[Ig hc hl.1,aB,eO ht,aaV _ hm,L8,abB];unfold tW;repeat first|exact anD|refine aef (by decide) ?_|refine adh ?_
def I9(r:ef)(kP:List fY)(m:aJ):Int:=
 if(!xJ r m.key)=ι then 8 else(MY kP m.key m.value).2
def NT(r:ef)(kP:List fY)(l:List aP):Int:=gK (λ_ c=>gK (λ_ m=>I9 r kP m) c.bJ 0) l 0
def rO(r:ef)(kP:List fY)(l:List aP):Int:=
 if ¬(uH r kP=0)then uH r kP else if ¬(tM l=0)then tM l else NT r kP l
theorem abb{r:ef}{l:List fY}(h:uH r l=0):iD r=0:=by
 unfold uH at h;by_cases h0:iD r=0
 ·exact h0
 ·rw[aG h0]at h;exact h
theorem abF{c:aP}(h:rQ c):dX Ix c.bJ:=by obtain⟨_,_,_,_,_,_,_,_,hm⟩:=h;exact hm
theorem R9(r:ef)(kP:List fY)(l:List aP)(hr:pQ r)(hp:dX uG kP)(hl:dX rQ l):yB r kP l=δ (rO r kP l):=by
 unfold yB rO;simp only[RM r kP hr hp,agh l hl,aB];rw[eO (by show 2<=cz;unfold cz;omega)];simp only[WI,aB];by_cases h0:uH r kP=0;case neg=>simp [h0]
 by_cases h1:tM l=0;case neg=>simp [h0,h1]
 have OZ:=abb h0;have hkl:=Uj OZ;simp only[h0,h1,not_true_eq_false,if_false,eO hr,aB,OZ,if_true];rw[Me (λs x=>mA x ι s) (λ_ _=>True) (by unfold cz;omega) trivial (λ_ _ _ _ _=>trivial) (λ_ _ _ _ _=>rfl)];simp only[aB]
 have has:∀k,(jG k ((oc r).foldl (λs x=>mA x ι s) [])).getD ε=xJ r k:=by intro k;rw[Mr,aox OZ];simp [jG]
 rw[CT (f:=λ_ c=>gK (λ_ m=>I9 r kP m) c.bJ 0) hl.1 ?_]
 ·show(if NT r kP l=0 then δ (0:Int)else δ (NT r kP l))=_;split
  ·rename_i h;rw[h]
  ·rfl
 intro i c hc;rw[CT (f:=λ_ m=>I9 r kP m) (abF (hl.2 c (cW hc))).1 ?_]
 ·exact TZ _
 intro j m hm;simp only[has,aeP kP hp,aB];unfold I9;repeat first|exact anD|refine H9 (by decide) ?_
end
section
def HP:=(Nat->Option bQ)->Prop
namespace HP
def emp:HP:=λh=>∀i,h i=μ
def blk(id:Nat)(b:bQ):HP:=λh=>∀i,h i=if i=id then δ b else μ
def star(P Q:HP):HP:=λh=>∃f g,P f/\Q g/\(∀i,f i=μ\/g i=μ)/\∀i,h i=(f i).or (g i)
def pr(p:Prop):HP:=λh=>p/\∀i,h i=μ
def ex{α:Type}(P:α->HP):HP:=λh=>∃x,P x h
instance : Mul HP := ⟨star⟩
theorem Mp(P Q:HP):P*Q=Q*P:=by
 have key:∀P Q:HP,∀h,(P*Q) h->(Q*P) h:=by rintro P Q h ⟨f,g,hf,hg,hd,hh⟩;refine⟨g,f,hg,hf,λi=>(hd i).symm,λi=>?_⟩;rw[hh i];rcases hd i with e|e<;>rw[e]<;>simp
 funext h;exact propext ⟨key P Q h,key Q P h⟩
theorem sX(P Q R:HP):P*Q*R=P*(Q*R):=by
 funext h;apply propext;constructor
 ·rintro⟨f,g,⟨f1,f2,h1,h2,Qp,hf⟩,hg,hd,hh⟩;refine⟨f1,λi=>(f2 i).or (g i),h1,⟨f2,g,h2,hg,λi=>?_,λi=>rfl⟩,λi=>?_,λi=>?_⟩
  ·have:=hd i;rw[hf i]at this;rcases this with e|e
   ·cases h:f1 i<;>simp [h]at e<;>exact .inl e
   ·exact .inr e
  ·have a:=hd i;have b:=Qp i;rw[hf i]at a;rcases b with b|b
   ·exact .inl b
   ·rcases a with a|a
    ·cases h:f1 i<;>simp [h]at a;exact .inl rfl
    ·exact .inr (show(f2 i).or (g i)=μ by rw[b,a];rfl)
  ·rw[hh i,hf i];cases f1 i<;>simp
 ·rintro⟨f,g,hf,⟨g1,g2,h1,h2,Qp,hg⟩,hd,hh⟩;refine⟨λi=>(f i).or (g1 i),g2,⟨f,g1,hf,h1,λi=>?_,λi=>rfl⟩,h2,λi=>?_,λi=>?_⟩
  ·have:=hd i;rw[hg i]at this;rcases this with e|e
   ·exact .inl e
   ·cases h:g1 i<;>simp [h]at e;exact .inr rfl
  ·have a:=hd i;have b:=Qp i;rw[hg i]at a;rcases b with b|b
   ·rcases a with a|a
    ·exact .inl (show(f i).or (g1 i)=μ by rw[a,b];rfl)
    ·rw[b]at a;exact .inr (by simpa using a)
   ·exact .inr b
  ·show h i=((f i).or (g1 i)).or (g2 i);rw[hh i,hg i];cases f i<;>simp
theorem yN(P:HP):emp*P=P:=by
 funext h;apply propext;constructor
 ·rintro⟨f,g,hf,hg,hd,hh⟩;have:h=g:=by funext i;rw[hh i,hf i];rfl
  rw[this];exact hg
 ·intro hp;exact⟨λ_=>μ,h,λ_=>rfl,hp,λ_=>.inl rfl,λi=>by simp⟩
theorem aeE(P:HP):P*emp=P:=by rw[Mp,yN]
instance : Std.Associative (α := HP) (· * ·) := ⟨sX⟩
instance : Std.Commutative (α := HP) (· * ·) := ⟨Mp⟩
end HP
open HP
structure Hs (B : bQ -> Prop) (aM σ : Heap) (P : HP) : Prop where
 pre:∃bs,σ=aM++bs/\∀b∈bs,B b
 own:∃h,P h/\∀i b,h i=δ b->aM.length<=i/\σ[i]? =δ b
def gz:bQ->Prop:=λ_=>True
section
variable {B : bQ -> Prop} {aM σ : Heap} {P Q R : HP} {id : Nat} {b b' : bQ}
theorem fT(e:P=Q)(H:Hs B aM σ P):Hs B aM σ Q:=e▸H
theorem H8(k:∀h,P h->Q h)(H:Hs B aM σ (P*R)):Hs B aM σ (Q*R):=by obtain⟨h1,h,⟨f,g,hf,hg,hd,hh⟩,h2⟩:=H;exact⟨h1,h,⟨f,g,k f hf,hg,hd,hh⟩,h2⟩
theorem wS(H:Hs B aM σ (P*R)):Hs B aM σ R:=by
 obtain⟨h1,h,⟨f,g,hf,hg,hd,hh⟩,h2⟩:=H;refine⟨h1,g,hg,λi b hb=>h2 i b ?_⟩;rw[hh i];rcases hd i with e|e
 ·rw[e,hb];rfl
 ·rw[e]at hb;cases hb
theorem aed(H:Hs B aM σ (P*R)):Hs B aM σ P:=wS (fT (Mp _ _) H)
theorem ago(H:Hs B aM σ P):Hs B aM σ emp:=aed (P:=emp) (fT (yN P).symm H)
theorem tO{p:Prop}:Hs B aM σ (pr p*R)↔p/\Hs B aM σ R:=by
 constructor
 ·intro H;refine⟨?_,wS H⟩;obtain⟨h1,h,⟨f,g,hf,hg,hd,hh⟩,h2⟩:=H;exact hf.1
 ·rintro⟨hp,h1,h,hr,h2⟩;exact⟨h1,h,⟨λ_=>μ,h,⟨hp,λ_=>rfl⟩,hr,λ_=>.inl rfl,λi=>by simp⟩,h2⟩
theorem II{α:Type}{P:α->HP}:Hs B aM σ (ex P*R)↔∃x,Hs B aM σ (P x*R):=by
 constructor
 ·rintro⟨h1,h,⟨f,g,⟨x,hf⟩,hg,hd,hh⟩,h2⟩;exact⟨x,h1,h,⟨f,g,hf,hg,hd,hh⟩,h2⟩
 ·rintro⟨x,h1,h,⟨f,g,hf,hg,hd,hh⟩,h2⟩;exact⟨h1,h,⟨f,g,⟨x,hf⟩,hg,hd,hh⟩,h2⟩
theorem agr(σ:Heap):Hs B σ σ emp:=⟨⟨[],by simp,by simp⟩,λ_=>μ,λ_=>rfl,λ_ _ h=>by cases h⟩
theorem agp(H:Hs B aM σ P):aM.length<=σ.length:=by obtain⟨⟨bs,rfl,_⟩,_⟩:=H;simp
theorem xg(H:Hs B aM σ (blk id b*R)):aM.length<=id/\σ[id]? =δ b:=by obtain⟨h1,h,⟨f,g,hf,hg,hd,hh⟩,h2⟩:=H;exact h2 id b (by rw[hh id,hf id];simp)
theorem ajv(H:Hs B aM σ (blk id b*R)):B b:=by obtain⟨h1,h2⟩:=xg H;obtain⟨⟨bs,rfl,hb⟩,_⟩:=H;rw[jH h1]at h2;exact hb b (cW h2)
theorem anT(H:Hs B aM σ (blk id b*R))(hb:B b'):Hs B aM (σ.set id b') (blk id b'*R):=by
 obtain⟨hid,jj⟩:=xg H;have hlt:=(cD.1 jj).1;obtain⟨⟨bs,rfl,hB⟩,h,⟨f,g,hf,hg,hd,hh⟩,h2⟩:=H;refine⟨⟨bs.set (id-aM.length) b',by rw[BF _ _ hid],λx hx=>?_⟩,λi=>if i=id then δ b' else g i,⟨λi=>if i=id then δ b' else μ,g,λi=>rfl,hg,λi=>?_,λi=>?_⟩,λi x hx=>?_⟩
 ·rcases List.mem_or_eq_of_mem_set hx with hx|hx
  ·exact hB x hx
  ·subst hx;exact hb
 ·have:=hd i;rw[hf i]at this;by_cases e:i=id
  ·simp only[e,if_true]at this ⊢;rcases this with h|h
   ·cases h
   ·exact .inr h
  ·simp [e]
 ·by_cases e:i=id<;>simp [e]
 ·by_cases e:i=id
  ·subst e;simp only[if_true,χ]at hx;subst hx;exact⟨hid,by rw[pU hlt]⟩
  ·simp only[e,if_false]at hx;rw[Z4 (λe'=>e e'.symm)];have:=h2 i x (by rw[hh i,hf i];simp [e,hx]);exact this
theorem agq(H:Hs B aM σ R)(hb:B b):Hs B aM (σ++[b]) (blk σ.length b*R):=by
 have hl:=agp H;obtain⟨⟨bs,rfl,hB⟩,h,hr,h2⟩:=H;have hn:∀i x,h i=δ x->i<(aM++bs).length:=λi x hx=>(cD.1 (h2 i x hx).2).1
 refine⟨⟨bs++[b],by simp,λx hx=>?_⟩,λi=>if i=(aM++bs).length then δ b else h i,⟨λi=>if i=(aM++bs).length then δ b else μ,h,λi=>rfl,hr,λi=>?_,λi=>?_⟩,λi x hx=>?_⟩
 ·rcases ga.1 hx with hx|hx
  ·exact hB x hx
  ·simp at hx;subst hx;exact hb
 ·by_cases e:i=(aM++bs).length
  ·right;cases hi:h i with
   |none=>rfl
   |some x=>have:=hn i x hi;omega
  ·simp only[e,if_false,true_or]
 ·by_cases e:i=(aM++bs).length<;>simp only[e,if_true,if_false,Option.or_some,Option.none_or,Option.some_or]
 ·by_cases e:i=(aM++bs).length
  ·subst e;simp only[if_true,χ]at hx;subst hx;exact⟨hl,by simp⟩
  ·simp only[e,if_false]at hx;obtain⟨k1,k2⟩:=h2 i x hx;exact⟨k1,by rw[iK (hn i x hx)];exact k2⟩
end
section
variable {α : Type} {E : ay -> α -> HP} {B : bQ -> Prop} {aM σ : Heap} {R : HP}
def els(E:ay->α->HP):List ay->List α->HP
 |[],[]=>emp
 |e::es,x::l=>E e x*els E es l
 |_,_=>pr False
theorem HW:∀{es:List ay}{l:List α}{R:HP},Hs B aM σ (els E es l*R)->es.length=l.length
 |[],[],_,_=>rfl
 |[],_::_,_,H=>(tO.1 H).1.elim
 |_::_,[],_,H=>(tO.1 H).1.elim
 |e::es,x::l,R,H=>by have:=HW (es:=es) (l:=l) (R:=E e x*R) (fT (by rw[els];ac_rfl) H);simp [this]
theorem HV:∀{sB B4:List ay}{l1 l2:List α},sB.length=l1.length->els E (sB++B4) (l1++l2)=els E sB l1*els E B4 l2
 |[],B4,[],l2,_=>by rw[els,yN];rfl
 |e::sB,B4,x::l1,l2,h=>by simp only[iA,els];rw[HV (by simpa using h)];ac_rfl
theorem aok(e:ay)(x:α):els E [e] [x]=E e x:=by rw[els,els,aeE]
theorem VM{es:List ay}{l:List α}{i:Nat}{e:ay}{x:α}(hl:es.length=l.length)(he:es[i]? =δ e)(hx:l[i]? =δ x):els E es l=els E (es.eraseIdx i) (l.eraseIdx i)*E e x:=by
 have h1:=(cD.1 he).1;have h2:=(cD.1 hx).1
 have e1:es=es.take i++e::es.drop (i+1):=by rw[<-(cD.1 he).2,List.getElem_cons_drop,List.take_append_drop]
 have e2:l=l.take i++x::l.drop (i+1):=by rw[<-(cD.1 hx).2,List.getElem_cons_drop,List.take_append_drop]
 conv=>lhs;rw[e1,e2]
 rw[HV (by simp;omega),els,ap2,ap2,HV (by simp;omega)];ac_rfl
def fl(c:α->ay):ay->α->HP:=λe x=>pr (e=c x)
theorem VN{c:α->ay}:∀{es:List ay}{l:List α}{R:HP},Hs B aM σ (els (fl c) es l*R)↔es=l.map c/\Hs B aM σ R
 |[],[],R=>by rw[els,yN];simp
 |[],x::l,R=>by show Hs B aM σ (pr False*R)↔_;rw[tO];simp
 |e::es,[],R=>by show Hs B aM σ (pr False*R)↔_;rw[tO];simp
 |e::es,x::l,R=>by rw[els,fl,sX,tO,VN,dJ,VP,and_assoc]
def Sl(E:ay->α->HP)(sz:Nat)(v:U)(l:List α):HP:=λh=>(l=[]/\(v=.aD\/v=.ez)/\emp h)\/∃id g seg,v=.os id g sz 0 l.length/\(blk id (.arr g sz seg)*els E seg l) h
variable {sz : Nat} {v : U} {l : List α}
theorem tg(H:Hs B aM σ (Sl E sz v l*R)):(l=[]/\(v=.aD\/v=.ez)/\Hs B aM σ R)\/∃id g seg,v=.os id g sz 0 l.length/\seg.length=l.length/\Hs B aM σ (blk id (.arr g sz seg)*(els E seg l*R)):=by
 have H2:=wS H;obtain⟨h1,h,⟨f,g,hf,hg,hd,hh⟩,h2⟩:=H;rcases hf with⟨k1,k2,k3⟩|⟨id,gg,seg,k1,k2⟩
 ·exact .inl ⟨k1,k2,H2⟩
 ·have K:Hs B aM σ (blk id (.arr gg sz seg)*(els E seg l*R)):=fT (sX _ _ _) ⟨h1,h,⟨f,g,k2,hg,hd,hh⟩,h2⟩;exact .inr ⟨id,gg,seg,k1,HW (R:=blk id (.arr gg sz seg)*R) (fT (by ac_rfl) K),K⟩
theorem JL(H:Hs B aM σ R)(hv:v=.aD\/v=.ez):Hs B aM σ (Sl E sz v []*R):=
 H8 (P:=emp) (λh k=>.inl ⟨rfl,hv,k⟩) (fT (yN R).symm H)
theorem Dt{id g:Nat}{seg:List ay}{n:Nat}(H:Hs B aM σ (blk id (.arr g sz seg)*(els E seg l*R)))(hn:n=l.length:=by rfl):Hs B aM σ (Sl E sz (.os id g sz 0 n) l*R):=
 H8 (P:=blk id (.arr g sz seg)*els E seg l) (λh k=>.inr ⟨id,g,seg,by rw[hn],k⟩) (fT (sX _ _ _).symm H)
theorem Wi(H:Hs B aM σ (Sl E sz v l*R)):ZJ v=δ (.ah l.length):=by rcases tg H with⟨rfl,rfl|rfl,_⟩|⟨id,g,seg,rfl,_⟩<;>rfl
theorem Wh{ys:List ay}{xs:List α}{most:Nat}(H:Hs B aM σ (Sl E sz v l*(els E ys xs*R)))(hm:l.length+xs.length<=most)(hB:∀g g' seg,(seg=[]\/B (.arr g sz seg))->B (.arr g' sz (seg++ys))):
  ∃v' σ',SI sz most v (.sl sz ys) σ=δ (v',σ')/\Hs B aM σ' (Sl E sz v' (l++xs)*R):=by
 rcases tg H with⟨rfl,hv,H⟩|⟨id,g,seg,rfl,hl,H⟩
 ·have hxl:=HW H;by_cases hy:ys=[]
  ·subst hy;have:xs=[]:=xA (by simpa using hxl.symm);subst this;refine⟨v,σ,?_,JL (wS H) hv⟩;rcases hv with rfl|rfl<;>simp [SI,aoZ,A.qG]
  ·refine⟨.os σ.length ys.length sz 0 ys.length,σ++[.arr ys.length sz ys],?_,?_⟩
   ·have:ys.length<=most:=by simp at hm;omega
    rcases hv with rfl|rfl<;>simp [SI,aoZ,A.qG,hy,this]
   ·have H2:=agq H (by simpa using hB 0 ys.length [] (.inl rfl):B (.arr ys.length sz ys));exact Dt H2 (by simpa using hxl)
 ·have hxl:=HW (fT (show _=els E ys xs*(blk id (.arr g sz seg)*(els E seg l*R)) by ac_rfl) H);obtain⟨h1,h2⟩:=xg H;by_cases hy:ys=[]
  ·subst hy;have:xs=[]:=xA (by simpa using hxl.symm);subst this;refine⟨.os id g sz 0 l.length,σ,?_,?_⟩
   ·have:l.length<=most:=by simpa using hm
    simp [SI,aoZ,A.qG,h2,hl,this]
   ·rw[Zq];exact Dt (fT (by rw[els,yN]) H)
  ·have hp:0<ys.length:=List.length_pos_iff.2 hy;refine⟨.os id (g+ys.length) sz 0 (l.length+ys.length),σ.set id (.arr (g+ys.length) sz (seg++ys)),?_,?_⟩
   ·have e1:l.length+ys.length<=most:=by omega
    have e2:seg.take l.length=seg:=rU (by omega);simp [SI,aoZ,A.qG,h2,hl,e1,hy,e2,hp]
   ·have H2:=anT (b':=.arr (g+ys.length) sz (seg++ys)) H (hB g _ seg (.inr (ajv H)));exact Dt (id:=id) (g:=g+ys.length) (seg:=seg++ys) (fT (by rw[HV hl];ac_rfl) H2) (by simp;omega)
end
end
section
def Aq (a0:(List eA)) (a1:(List eA)):Option Bool:=
 if ¬((a0.length:Int)=(a1.length:Int))then
  δ ε
 else
 gL a0 (λ(i8:Nat)e7(s1:Unit)=>(show Option (Lr Unit Unit Unit)from
   (cJ a1 (i8:Int)).bind λx9=>
   if ¬(e7=x9)then
    δ (.ret ())
   else
   δ (.go ()))) (λs1=>δ ()) () (λb2=>
  δ ι) (λb2=>
  δ ε)
theorem ang{a0:(List eA)}{a1:(List eA)}{σ:Heap}{r:Bool}(h:Aq a0 a1=δ r):J1 [(sl 2 cx a0),(sl 2 cx a1)] σ=δ ((φ r),σ):=by
 refine lq (f:=J2) (y0:=(sl 2 cx a0)) (y1:=(sl 2 cx a1)) (enc:=λr:Bool=>(φ r)) (T:=Aq a0 a1) rfl rfl ?_ r h;unfold J2 Aq;refine aj _ (dc _ _ _)<|aj _ (dc _ _ _)<|aj _ (fC _ _ _) ?_;refine cP (p:=¬((a0.length:Int)=(a1.length:Int))) (λmC=>?_) (λmC=>?_)
 ·exact aU _ (bf _ _) ⟨rfl,rfl⟩
 refine aj _ (dc _ _ _) ?_;refine lB (B:=Unit) (R:=Unit) (λ(i8:Nat)(s1:Unit)v w3=>v=[aC,(η (i8:Int))]/\σ=w3) (λ(b2:Unit)(q:LS)=>∃u4 mF,q=((i6 0),([u4,mF]:ay),σ)) (λ(b2:Unit)(q:LS)=>∃mF,q=(l8,([aC,mF]:ay),σ)) ?_ ?_ ⟨rfl,rfl⟩ ?_ ?_
 ·intro vo i8 e7 s1 v w3 kY hI;obtain⟨rfl,rfl⟩:=hI;refine aj _ (kS kY)<|lF<|aj _ (kF kY)<|aj _ rfl ?_;refine aK (λx9:eA=>(T3 (cx x9))) (λx9 kL=>fP kL) (λx9 kL=>?_);refine aj _ rfl<|aj _ (aeo _ _) ?_;refine cP (p:=¬(e7=x9)) (λdR=>?_) (λdR=>?_)
  ·exact bu (fR (by simp) ⟨_,rfl⟩)
  refine aj _ (kG kY vo) ?_;exact bu (jF ⟨rfl,rfl⟩)
 ·intro hl s1 v w3 hI;obtain⟨rfl,rfl⟩:=hI;refine aj _ (kQ _)<|lE ?_;exact bu ⟨by simp,⟨_,_,rfl⟩⟩
 ·intro hl b2 q hq;obtain⟨u4,mF,rfl⟩:=hq;refine fD rfl ?_;exact aU _ (bf _ _) ⟨rfl,rfl⟩
 ·intro hl b2 q hq;obtain⟨mF,rfl⟩:=hq;refine oo rfl<|fD rfl ?_;exact aU _ (bf _ _) ⟨rfl,rfl⟩
def Ar (a0:(List aJ)) (a1:(List aJ)):Option Bool:=
 if ¬((a0.length:Int)=(a1.length:Int))then
  δ ε
 else
 gL a0 (λ(i8:Nat)e7(s1:Unit)=>(show Option (Lr Unit Unit Unit)from
   (cJ a1 (i8:Int)).bind λx9=>
   if ¬(e7=x9)then
    δ (.ret ())
   else
   δ (.go ()))) (λs1=>δ ()) () (λb2=>
  δ ι) (λb2=>
  δ ε)
theorem adm{a0:(List aJ)}{a1:(List aJ)}{σ:Heap}{r:Bool}(h:Ar a0 a1=δ r):J3 [(sl 8 aW a0),(sl 8 aW a1)] σ=δ ((φ r),σ):=by
 refine lq (f:=J4) (y0:=(sl 8 aW a0)) (y1:=(sl 8 aW a1)) (enc:=λr:Bool=>(φ r)) (T:=Ar a0 a1) rfl rfl ?_ r h;unfold J4 Ar;refine aj _ (dc _ _ _)<|aj _ (dc _ _ _)<|aj _ (fC _ _ _) ?_;refine cP (p:=¬((a0.length:Int)=(a1.length:Int))) (λmC=>?_) (λmC=>?_)
 ·exact aU _ (bf _ _) ⟨rfl,rfl⟩
 refine aj _ (dc _ _ _) ?_;refine lB (B:=Unit) (R:=Unit) (λ(i8:Nat)(s1:Unit)v w3=>v=[aC,(η (i8:Int))]/\σ=w3) (λ(b2:Unit)(q:LS)=>∃u4 mF,q=((i6 0),([u4,mF]:ay),σ)) (λ(b2:Unit)(q:LS)=>∃mF,q=(l8,([aC,mF]:ay),σ)) ?_ ?_ ⟨rfl,rfl⟩ ?_ ?_
 ·intro vo i8 e7 s1 v w3 kY hI;obtain⟨rfl,rfl⟩:=hI;refine aj _ (kS kY)<|lF<|aj _ (kF kY)<|aj _ rfl ?_;refine aK (λx9:aJ=>(T3 (aW x9))) (λx9 kL=>fP kL) (λx9 kL=>?_);refine aj _ rfl<|aj _ (afv _ _) ?_;refine cP (p:=¬(e7=x9)) (λdR=>?_) (λdR=>?_)
  ·exact bu (fR (by simp) ⟨_,rfl⟩)
  refine aj _ (kG kY vo) ?_;exact bu (jF ⟨rfl,rfl⟩)
 ·intro hl s1 v w3 hI;obtain⟨rfl,rfl⟩:=hI;refine aj _ (kQ _)<|lE ?_;exact bu ⟨by simp,⟨_,_,rfl⟩⟩
 ·intro hl b2 q hq;obtain⟨u4,mF,rfl⟩:=hq;refine fD rfl ?_;exact aU _ (bf _ _) ⟨rfl,rfl⟩
 ·intro hl b2 q hq;obtain⟨mF,rfl⟩:=hq;refine oo rfl<|fD rfl ?_;exact aU _ (bf _ _) ⟨rfl,rfl⟩
def CD (a0:aP) (a1:aP):Option Bool:=
 (if(((((((((decide (a0.aY=a1.aY))&&(decide (a0.title=a1.title)))&&(decide (a0.br=a1.br)))&&(decide (a0.up=a1.up)))&&(decide (a0.down=a1.down)))&&(decide (a0.other=a1.other)))&&(decide (a0.block=a1.block)))&&(decide (a0.dr=a1.dr)))&&(decide (a0.bS.kind=a1.bS.kind)))=ι then Aq a0.bS.bp a1.bS.bp else δ default).bind λr1=>
 (if((((((((((decide (a0.aY=a1.aY))&&(decide (a0.title=a1.title)))&&(decide (a0.br=a1.br)))&&(decide (a0.up=a1.up)))&&(decide (a0.down=a1.down)))&&(decide (a0.other=a1.other)))&&(decide (a0.block=a1.block)))&&(decide (a0.dr=a1.dr)))&&(decide (a0.bS.kind=a1.bS.kind)))&&r1)=ι then Ar a0.bJ a1.bJ else δ default).bind λr2=>
 δ (((((((((((decide (a0.aY=a1.aY))&&(decide (a0.title=a1.title)))&&(decide (a0.br=a1.br)))&&(decide (a0.up=a1.up)))&&(decide (a0.down=a1.down)))&&(decide (a0.other=a1.other)))&&(decide (a0.block=a1.block)))&&(decide (a0.dr=a1.dr)))&&(decide (a0.bS.kind=a1.bS.kind)))&&r1)&&r2)
theorem aaY{a0:aP}{a1:aP}{σ:Heap}{r:Bool}(h:CD a0 a1=δ r):wM [(l7 (bY a0)),(l7 (bY a1))] σ=δ ((φ r),σ):=by refine lq (f:=Lb) (y0:=(l7 (bY a0))) (y1:=(l7 (bY a1))) (enc:=λr:Bool=>(φ r)) (T:=CD a0 a1) (fB (BP rfl) (fB (BP rfl) rfl)) rfl ?_ r h;unfold Lb CD;refine aj _ rfl<|aj _ rfl<|aj _ rfl<|aj _ rfl<|aj _ (eG _ _ _)<|bz (ψ a0.title) (λhg=>rfl)<|bz (ψ a1.title) (λhg=>rfl)<|bz (φ (decide (a0.title=a1.title))) (λhg=>by(try rw[hg]);exact(kW _ _))<|aj _ (eY _ _)<|bz (η a0.br) (λhg=>rfl)<|bz (η a1.br) (λhg=>rfl)<|bz (φ (decide (a0.br=a1.br))) (λhg=>by(try rw[hg]);exact(eG _ _ _))<|aj _ (eY _ _)<|bz (η a0.up) (λhg=>rfl)<|bz (η a1.up) (λhg=>rfl)<|bz (φ (decide (a0.up=a1.up))) (λhg=>by(try rw[hg]);exact(eG _ _ _))<|aj _ (eY _ _)<|bz (η a0.down) (λhg=>rfl)<|bz (η a1.down) (λhg=>rfl)<|bz (φ (decide (a0.down=a1.down))) (λhg=>by(try rw[hg]);exact(eG _ _ _))<|aj _ (eY _ _)<|bz (η a0.other) (λhg=>rfl)<|bz (η a1.other) (λhg=>rfl)<|bz (φ (decide (a0.other=a1.other))) (λhg=>by(try rw[hg]);exact(eG _ _ _))<|aj _ (eY _ _)<|bz (φ a0.block) (λhg=>rfl)<|bz (φ a1.block) (λhg=>rfl)<|bz (φ (decide (a0.block=a1.block))) (λhg=>by(try rw[hg]);exact(ahk _ _))<|aj _ (eY _ _)<|bz (η a0.dr) (λhg=>rfl)<|bz (η a1.dr) (λhg=>rfl)<|bz (φ (decide (a0.dr=a1.dr))) (λhg=>by(try rw[hg]);exact(eG _ _ _))<|aj _ (eY _ _)<|bz (η a0.bS.kind) (λhg=>rfl)<|bz (η a1.bS.kind) (λhg=>rfl)<|bz (φ (decide (a0.bS.kind=a1.bS.kind))) (λhg=>by(try rw[hg]);exact(eG _ _ _))<|aj _ (eY _ _)<|bz (sl 2 cx a0.bS.bp) (λhg=>rfl)<|bz (sl 2 cx a1.bS.bp) (λhg=>rfl) ?_;refine oM (ω:=Bool) (λr1=>(φ r1)) (λhg r1 bN=>by(try rw[hg]);exact(jC (ang bN))) (λr1 bN=>?_);refine aj _ (eY _ _)<|bz (sl 8 aW a0.bJ) (λhg=>rfl)<|bz (sl 8 aW a1.bJ) (λhg=>rfl) ?_;refine oM (ω:=Bool) (λr2=>(φ r2)) (λhg r2 hr2=>by(try rw[hg]);exact(jC (adm hr2))) (λr2 hr2=>?_);refine aj _ (eY _ _) ?_;exact aU _ (bf _ _) ⟨rfl,rfl⟩
end
section
section
variable {α γ R S B : Type}
theorem adI{body:S->Option (Lr S B R)}(n:Nat)(f:Nat->S){b:B}{K1:B->Option γ}{K2:R->Option γ}(hs:∀k,k<n->body (f k)=δ (.go (f (k+1))))(he:body (f n)=δ (.lK b)){s:S}(h0:s=f 0:=by rfl):qy body s K1 K2=K1 b:=by
 have key:∀k,k<=n->qz body (f (n-k))=δ (.inl b):=by
  intro k;induction k with
  |zero=>intro _;rw[HG,Nat.sub_zero,he];rfl
  |succ k ih=>intro hk;rw[HG,hs (n-(k+1)) (by omega),aB];simp only;rw[show n-(k+1)+1=n-k by omega];exact ih (by omega)
 have:=key n (cg _);rw[Nat.sub_self]at this;rw[qy,h0,this];rfl
end
end
def X7(l:List aJ):Prop:=l.Pairwise λa b=>qR a.key b.key=ι
structure Good (l : List aP) : Prop where
 len:l.length<=300
 num:∀c∈l,1<=c.aY/\c.aY<=9999999
 srt:l.Pairwise λa b=>a.aY<b.aY
 mv:∀c∈l,c.bJ.length<=2000/\X7 c.bJ
 pts:∀c∈l,c.bS.bp.length<=20
section
structure amh (l : List aP) : Prop where
 len:l.length<=300
 num:∀c∈l,1<=c.aY/\c.aY<=9999999
 srt:l.Pairwise λa b=>a.aY<b.aY
section
variable {α R γ S B : Type}
end
end
section
open HP
def Lt(σ:Heap)(sh:Sh)(v t:U):Prop:=(∃v',ZG σ 0 8 v=δ v'/\A.own v'=ε/\V3 sh v'=V3 sh t)/\A.own t=ε/\(A.own v=ε->V3 sh v=V3 sh t)
def Jh(σ:Heap):List Sh->ay->ay->Prop
 |_,[],[]=>True
 |[],a::cH,t::ts=>Lt σ .k a t/\Jh σ [] cH ts
 |s::ss,a::cH,t::ts=>Lt σ s a t/\Jh σ ss cH ts
 |_,_,_=>False
theorem D7(v:U):V3 .k v=v:=by simp [V3]
theorem QK{σ:Heap}:∀{ss:List Sh}{cH ts:ay},Jh σ ss cH ts->(∃xC,UU σ 0 8 cH=δ xC/\xC.any A.own=ε/\VD ss xC=VD ss ts)/\ts.any A.own=ε/\(cH.any A.own=ε->VD ss cH=VD ss ts)
 |ss,[],[],_=>⟨⟨[],by simp [UU],rfl,rfl⟩,rfl,λ_=>rfl⟩
 |[],a::cH,t::ts,h=>by obtain⟨⟨⟨v',h1,h2,h3⟩,h4,h5⟩,h6⟩:=h;obtain⟨⟨xC,k1,k2,k3⟩,k4,k5⟩:=QK h6;rw[D7,D7]at h3;simp only[VD]at k3 k5;refine⟨⟨v'::xC,by simp [UU,h1,k1],by simp [h2,k2],by simp [VD,h3,k3]⟩,by simp [h4,k4],λh=>?_⟩;simp only[List.any_cons,kH]at h;have:=h5 h.1;rw[D7,D7]at this;simp [VD,this,k5 h.2]
 |s::ss,a::cH,t::ts,h=>by obtain⟨⟨⟨v',h1,h2,h3⟩,h4,h5⟩,h6⟩:=h;obtain⟨⟨xC,k1,k2,k3⟩,k4,k5⟩:=QK h6;refine⟨⟨v'::xC,by simp [UU,h1,k1],by simp [h2,k2],by simp [VD,h3,k3]⟩,by simp [h4,k4],λh=>?_⟩;simp only[List.any_cons,kH]at h;simp [VD,h5 h.1,k5 h.2]
 |_,[],_::_,h=>by cases h
 |[],_::_,[],h=>by cases h
 |_::_,_::_,[],h=>by cases h
theorem O2{dF:List Sh}{dO:Sh}{r:ay->Heap->aL}{cH ts:ay}{σ:Heap}{v:U}(h:Jh σ dF cH ts)(e:∀σ,l9 ι dF dO r ts σ=δ (v,σ))(hs:A.zh v=ι):l9 ι dF dO r cH σ=δ (v,σ):=by
 obtain⟨⟨xC,k1,k2,k3⟩,k4,k5⟩:=QK h;cases ho:cH.any A.own
 ·rw[Nc (k5 ho) ho k4];exact e σ
 ·exact ML ho k1 k2 (by rw[Nc k3 k2 k4];exact e []) hs
theorem WW{σ:Heap}{sh:Sh}{v:U}(h:Fz v)(ho:A.own v=ε):Lt σ sh v v:=⟨⟨v,h σ 0 8,ho,rfl⟩,ho,λ_=>rfl⟩
section
variable {α : Type} {c : α -> ay} {sz : Nat} {B : bQ -> Prop} {aM σ : Heap} {R : HP} {v : U} {l : List α}
def Sf(c:α->ay)(sz:Nat)(v:U)(l:List α):HP:=λh=>(v=sl sz c l/\emp h)\/Sl (fl c) sz v l h
theorem aeD(H:Hs B aM σ (Sf c sz v l*R)):(v=sl sz c l/\Hs B aM σ R)\/Hs B aM σ (Sl (fl c) sz v l*R):=by
 have H2:=wS H;obtain⟨h1,h,⟨f,g,hf,hg,hd,hh⟩,h2⟩:=H;rcases hf with⟨k1,k2⟩|k
 ·exact .inl ⟨k1,H2⟩
 ·exact .inr ⟨h1,h,⟨f,g,k,hg,hd,hh⟩,h2⟩
theorem agH(H:Hs B aM σ R):Hs B aM σ (Sf c sz (sl sz c l) l*R):=
 H8 (P:=emp) (λh k=>.inl ⟨rfl,k⟩) (fT (yN R).symm H)
theorem agI(H:Hs B aM σ (Sl (fl c) sz v l*R)):Hs B aM σ (Sf c sz v l*R):=H8 (λh k=>.inr k) H
theorem adC(H:Hs B aM σ (Sl (fl c) sz v l*R)):(l=[]/\(v=.aD\/v=.ez)/\Hs B aM σ R)\/∃id g,v=.os id g sz 0 l.length/\Hs B aM σ (blk id (.arr g sz (l.map c))*R):=by
 rcases tg H with h|⟨id,g,seg,rfl,hl,H⟩
 ·exact .inl h
 ·have K:=VN.1 (fT (show _=els (fl c) seg l*(blk id (.arr g sz seg)*R) by ac_rfl) H);obtain⟨rfl,K⟩:=K;exact .inr ⟨id,g,rfl,K⟩
theorem agi(hc:∀x,iS (c x)){id g:Nat}(h:σ[id]? =δ (.arr g sz (l.map c))){n:Nat}(hn:¬id<n)(d:Nat):ZG σ n (d+1) (.os id g sz 0 l.length)=δ (sl sz c l):=by simp only[ZG,aE hn,h];rw[aG (by simp),apf,rU (by simp),Bb,OF hc];rfl
theorem agK(H:Hs B aM σ (Sl (fl c) sz v l*R))(hc:∀x,iS (c x)){n:Nat}(hn:n<=aM.length)(d:Nat):∃v',ZG σ n (d+1) v=δ v'/\A.BQ v'=ε/\V3 (.s sz) v'=sl sz c l:=by
 rcases adC H with⟨rfl,rfl|rfl,_⟩|⟨id,g,rfl,K⟩
 ·exact⟨.aD,by simp [ZG],rfl,rfl⟩
 ·exact⟨.ez,by simp [ZG],rfl,rfl⟩
 ·obtain⟨h1,h2⟩:=xg K;exact⟨_,agi hc h2 (by omega) d,rfl,rfl⟩
theorem W1(H:Hs B aM σ (Sf c sz v l*R))(hc:∀x,iS (c x)){n:Nat}(hn:n<=aM.length)(d:Nat):∃v',ZG σ n (d+1) v=δ v'/\A.BQ v'=ε/\V3 (.s sz) v'=sl sz c l:=by
 rcases aeD H with⟨rfl,_⟩|H
 ·exact⟨_,xq hc l σ n (d+1),rfl,rfl⟩
 ·exact agK H hc hn d
structure Cl (p : U) (F : ay -> HP) : Prop where
 nc:A.mU p=δ p
 ow:A.own p=ι
 ld:∀{aM σ:Heap}{e:ay}{R:HP},Hs gz aM σ (F e*R)->Ψ p σ=δ e
 fa:∀(o:Nat),∃q,YK o p=δ q/\(∀{aM σ:Heap}{e:ay}{R:HP},Hs gz aM σ (F e*R)->Ψ q σ=δ (e.drop o))/\
  ∀{aM σ:Heap}{e:ay}{R:HP}{new e':ay},Hs gz aM σ (F e*R)->n4 o new e=δ e'->∃σ',WG q new σ=δ σ'/\Hs gz aM σ' (F e'*R)
 st:∀{aM σ:Heap}{e:ay}{R:HP}{new e':ay},Hs gz aM σ (F e*R)->n4 0 new e=δ e'->∃σ',WG p new σ=δ σ'/\Hs gz aM σ' (F e'*R)
 fc:∀(o o':Nat)(q:U),YK o p=δ q->YK o' q=YK (o+o') p
end
section
variable {α : Type} {E : ay -> α -> HP} {sz : Nat} {aM σ : Heap} {R : HP} {v : U} {l : List α}
theorem afQ(H:Hs gz aM σ (Sl E sz v l*R)){i:Nat}{x:α}(hx:l[i]? =δ x):∃p F e,Zv sz v (.ah (i:Int))=δ p/\Cl p F/\Hs gz aM σ (F e*(E e x*R))/\
  ∀{σ:Heap}{e:ay}{y:α}{R:HP},Hs gz aM σ (F e*(E e y*R))->Hs gz aM σ (Sl E sz v (l.set i y)*R):=by
 have hi:=(cD.1 hx).1;rcases tg H with⟨rfl,_,_⟩|⟨id,g,seg,rfl,hl,H⟩
 ·simp at hx
 ·have he:seg[i]? =δ seg[i]:=cy (by omega)
  have rd:∀{aM σ:Heap}{e:ay}{R:HP}(o:Nat),Hs gz aM σ (blk id (.arr g sz (seg.set i e))*els E (seg.eraseIdx i) (l.eraseIdx i)*R)->Ψ (.oe id g i o) σ=δ (e.drop o):=by intro aM σ e R o K;obtain⟨_,k2⟩:=xg (fT (sX _ _ _) K);simp only[Ψ,k2,if_true];rw[pU (by omega)];rfl
  have wr:∀{aM σ:Heap}{e:ay}{R:HP}{new e':ay}(o:Nat),Hs gz aM σ (blk id (.arr g sz (seg.set i e))*els E (seg.eraseIdx i) (l.eraseIdx i)*R)->n4 o new e=δ e'->
    ∃σ',WG (.oe id g i o) new σ=δ σ'/\Hs gz aM σ' (blk id (.arr g sz (seg.set i e'))*els E (seg.eraseIdx i) (l.eraseIdx i)*R):=by
   intro aM σ e R new e' o K hs;have K':=fT (sX _ _ _) K;obtain⟨_,k2⟩:=xg K';refine⟨σ.set id (.arr g sz (seg.set i e')),?_,?_⟩
   ·simp only[WG,k2,if_true];rw[pU (by omega),aB,hs,eB,List.set_set]
   ·exact fT (sX _ _ _).symm (anT (b':=.arr g sz (seg.set i e')) K' trivial)
  refine⟨.oe id g i 0,λe=>blk id (.arr g sz (seg.set i e))*els E (seg.eraseIdx i) (l.eraseIdx i),seg[i],?_,⟨rfl,rfl,λK=>by have:=rd 0 K;simpa using this,λo=>⟨.oe id g i o,by simp [YK],λK=>rd o K,λK hs=>wr o K hs⟩,λK hs=>wr 0 K hs,λo o' q hq=>by simp [YK]at hq;subst hq;simp [YK]⟩,?_,?_⟩
  ·have hi':((i:Int)<(l.length:Int)):=by omega
   simp [Zv,A.idx,hi']
  ·refine fT ?_ H;have e1:seg.set i seg[i]=seg:=List.set_getElem_self (by omega);simp only[e1];rw[VM hl he hx];ac_rfl
  ·intro σ e y R K;refine Dt (id:=id) (g:=g) (seg:=seg.set i e) (fT ?_ K) (by simp)
   have e1:els E (seg.set i e) (l.set i y)=els E (seg.eraseIdx i) (l.eraseIdx i)*E e y:=by rw[VM (i:=i) (e:=e) (x:=y) (by simp [hl]) (by rw[pU (by omega)]) (by rw[pU hi])];rw[List.eraseIdx_set_eq,List.eraseIdx_set_eq]
   rw[e1];ac_rfl
end
def mg(x:aP)(vp vm:U):ay:=[.ah x.aY,.str x.title,.ah x.br,.ah x.up,.ah x.down,.ah x.other,.ah x.bS.kind,vp,.bool x.block,.ah x.dr,vm]
def tV(M:U->List aJ->HP):ay->aP->HP:=λe x=>ex λvp=>ex λvm=>pr (e=mg x vp vm)*(Sf cx 2 vp x.bS.bp*M vm x.bJ)
def kI:ay->aP->HP:=tV (Sl (fl aW) 8)
def tU:ay->aP->HP:=tV (Sf aW 8)
def uY:List Sh:=[.k,.k,.k,.k,.k,.k,.k,.s 2,.k,.k,.s 8]
section
variable {B : bQ -> Prop} {aM σ : Heap} {R : HP} {M : U -> List aJ -> HP} {e : ay} {x : aP}
theorem OC(H:Hs B aM σ (tV M e x*R)):∃vp vm,e=mg x vp vm/\Hs B aM σ (Sf cx 2 vp x.bS.bp*(M vm x.bJ*R)):=by unfold tV at H;rw[II]at H;obtain⟨vp,H⟩:=H;rw[II]at H;obtain⟨vm,H⟩:=H;rw[sX,tO]at H;exact⟨vp,vm,H.1,fT (by ac_rfl) H.2⟩
theorem MR{vp vm:U}(he:e=mg x vp vm)(H:Hs B aM σ (Sf cx 2 vp x.bS.bp*(M vm x.bJ*R))):Hs B aM σ (tV M e x*R):=by unfold tV;rw[II];refine⟨vp,?_⟩;rw[II];refine⟨vm,?_⟩;rw[sX,tO];exact⟨he,fT (by ac_rfl) H⟩
theorem adX(H:Hs B aM σ (kI e x*R)):Hs B aM σ (tU e x*R):=by obtain⟨vp,vm,he,H⟩:=OC H;exact MR he (fT (by ac_rfl) (agI (fT (show _=Sl (fl aW) 8 vm x.bJ*(Sf cx 2 vp x.bS.bp*R) by ac_rfl) H)))
theorem ae2(H:Hs B aM σ (tU e x*R)){n:Nat}(hn:n<=aM.length)(d:Nat):∃e',UU σ n (d+1) e=δ e'/\e'.any A.BQ=ε/\VD uY e'=bY x:=by
 obtain⟨vp,vm,he,K⟩:=OC H;subst he;obtain⟨vp',p1,p2,p3⟩:=W1 K ac9 hn d;obtain⟨vm',m1,m2,m3⟩:=W1 (wS K) aea hn d;refine⟨mg x vp' vm',?_,?_,?_⟩
 ·simp [mg,UU,ZG,p1,m1]
 ·simp only[mg,List.any_cons,List.any_nil,p2,m2];rfl
 ·simp only[mg,uY,VD,D7,p3,m3];rfl
theorem UT:∀{seg:List ay}{l:List aP}{R:HP},Hs B aM σ (els tU seg l*R)->∀{n:Nat},n<=aM.length->∀(d:Nat),∃BU,A.iP σ n (d+1) seg=δ BU/\BU.map (VD uY)=l.map bY
 |[],[],R,H,n,hn,d=>⟨[],by simp [A.iP],rfl⟩
 |[],_::_,R,H,n,hn,d=>(tO.1 H).1.elim
 |_::_,[],R,H,n,hn,d=>(tO.1 H).1.elim
 |e::seg,x::l,R,H,n,hn,d=>by rw[els,sX]at H;obtain⟨e',h1,_,h3⟩:=ae2 H hn d;obtain⟨BU,k1,k2⟩:=UT (wS H) hn d;exact⟨e'::BU,by simp [A.iP,h1,k1],by simp [h3,k2]⟩
theorem T0:∀{seg:List ay}{l:List aP}{R:HP},Hs B aM σ (els kI seg l*R)->Hs B aM σ (els tU seg l*R)
 |[],[],R,H=>H
 |[],_::_,R,H=>H
 |_::_,[],R,H=>H
 |e::seg,x::l,R,H=>by rw[els]at H ⊢;have H2:=T0 (fT (show _=els kI seg l*(kI e x*R) by ac_rfl) H);have H3:=adX (fT (show _=kI e x*(els tU seg l*R) by ac_rfl) H2);exact fT (by ac_rfl) H3
variable {v : U} {l : List aP}
theorem S9(H:Hs B aM σ (Sl kI 11 v l*R)):Hs B aM σ (Sl tU 11 v l*R):=by
 rcases tg H with⟨rfl,hv,H⟩|⟨id,g,seg,rfl,hl,H⟩
 ·exact JL H hv
 ·have H2:=T0 (fT (show _=els kI seg l*(blk id (.arr g 11 seg)*R) by ac_rfl) H);exact Dt (id:=id) (g:=g) (seg:=seg) (fT (by ac_rfl) H2)
theorem TX(H:Hs B aM σ (Sl tU 11 v l*R)){n:Nat}(hn:n<=aM.length)(d:Nat):∃v',ZG σ n (d+2) v=δ v'/\A.BQ v'=ε/\V3 (.e 11 uY) v'=sl 11 bY l:=by
 rcases tg H with⟨rfl,rfl|rfl,_⟩|⟨id,g,seg,rfl,hl,H⟩
 ·exact⟨.aD,by simp [ZG],rfl,rfl⟩
 ·exact⟨.ez,by simp [ZG],rfl,rfl⟩
 ·obtain⟨h1,h2⟩:=xg H;obtain⟨BU,k1,k2⟩:=UT (fT (show _=els tU seg l*(blk id (.arr g 11 seg)*R) by ac_rfl) H) hn d;refine⟨.sl 11 BU,?_,rfl,?_⟩
  ·simp only[ZG,aE (show ¬id<n by omega),h2];rw[aG (by simp;omega),apf,rU (by omega),Bb,k1];rfl
  ·simp only[V3,k2];rfl
theorem aa9(l:List aP):V3 (.e 11 uY) (sl 11 bY l)=sl 11 bY l:=ng (λ_=>rfl) l
theorem aen(H:Hs B aM σ (Sl tU 11 v l*R)):Lt σ (.e 11 uY) v (sl 11 bY l):=by
 obtain⟨v',h1,h2,h3⟩:=TX H (ve _) 6;refine⟨⟨v',h1,?_,by rw[h3,aa9]⟩,rfl,λho=>?_⟩
 ·rcases tg H with⟨rfl,rfl|rfl,_⟩|⟨id,g,seg,rfl,hl,H⟩
  ·simp [ZG]at h1;subst h1;rfl
  ·simp [ZG]at h1;subst h1;rfl
  ·cases v'<;>first|rfl|cases h2|skip
   rename_i cs;simp only[V3]at h3;cases h3
 ·rcases tg H with⟨rfl,rfl|rfl,_⟩|⟨id,g,seg,rfl,hl,H⟩
  ·rfl
  ·rfl
  ·cases ho
theorem afq(H:Hs B aM σ (Sl kI 11 v l*R)):Lt σ (.e 11 uY) v (sl 11 bY l):=aen (S9 H)
end
end
section
open HP
section
variable {α : Type} {c : α -> ay} {sz : Nat} {B : bQ -> Prop} {aM σ : Heap} {R : HP} {v : U} {l : List α}
end
section
variable {aM σ : Heap} {R : HP}
theorem UJ{α:Type}{E:ay->α->HP}{sz:Nat}{B:bQ->Prop}{v:U}{l:List α}(H:Hs B aM σ (Sl E sz v l*R)):n8 v=δ v:=by rcases tg H with⟨_,rfl|rfl,_⟩|⟨id,g,seg,rfl,_⟩<;>rfl
end
end
section
open HP
section
variable {aM σ : Heap} {R : HP}
theorem VR{v v':U}(H:Hs gz aM σ R)(h:ZG σ aM.length 8 v=δ v')(hv:σ=aM->v'=v):Θ aM v σ=δ (v',aM):=by
 obtain⟨⟨bs,rfl,_⟩,_⟩:=H;by_cases sC:bs=[]
 ·subst sC;rw[Zq]at h ⊢;rw[bf,hv (by simp)]
 ·unfold Θ;rw[aE (by simpa using sC),aG (by simp),h];rfl
end
end
section
open HP
def Inv(k:Nat)(l:List aP):Prop:=l.length<=1000/\∀c∈l,X7 c.bJ/\c.bJ.length<=2000+k
section
variable {aM σ : Heap} {R : HP}
end
end
section
def CE (a0:Int) (a1:Int):Option Int:=
 (Eg a0 a1).bind λx1=>
 (Eh a0 a1).bind λx2=>
 (show Option Int from
   if x2<0 then
    δ (ξ.wrap (x1-1))
   else
   δ x1).bind λj4=>
 δ j4
theorem aa2{a0:Int}{a1:Int}{σ:Heap}{r:Int}(h:CE a0 a1=δ r):K8 [(η a0),(η a1)] σ=δ ((η r),σ):=by
 refine lq (f:=Li) (y0:=(η a0)) (y1:=(η a1)) (enc:=λr:Int=>(η r)) (T:=CE a0 a1) rfl rfl ?_ r h;unfold Li CE;refine aK (λx1:Int=>(η x1)) (λx1 hx1=>agA hx1) (λx1 hx1=>?_);refine aK (λx2:Int=>(η x2)) (λx2 hx2=>agC hx2) (λx2 hx2=>?_);refine aj _ rfl ?_
 refine nj (ω:=Int) (λj4 a=>a=(([(η j4)]:ay),σ)) (
   by
    refine cP (p:=x2<0) (λc3=>?_) (λc3=>?_)
    ·refine aj _ rfl ?_;exact bu rfl
    exact bu rfl
   ) (λj4 a ha=>?_)
 subst ha;exact aU _ (bf _ _) ⟨rfl,rfl⟩
def wP (a0:Int) (a1:Int):Option Int:=(CE (ξ.wrap (ξ.wrap (2*a0)+a1)) (ξ.wrap (2*a1))).bind λr1=>δ r1
theorem K3{a0:Int}{a1:Int}{σ:Heap}{r:Int}(h:wP a0 a1=δ r):CC [(η a0),(η a1)] σ=δ ((η r),σ):=by refine lq (f:=Lk) (y0:=(η a0)) (y1:=(η a1)) (enc:=λr:Int=>(η r)) (T:=wP a0 a1) rfl rfl ?_ r h;unfold Lk wP;refine aj _ rfl<|aj _ rfl<|aj _ rfl ?_;refine aK (λr1:Int=>((η r1),σ)) (λr1 bN=>aa2 bN) (λr1 bN=>?_);exact aU _ (bf _ _) ⟨rfl,rfl⟩
def KO (a0:Int):Option Bool:=δ (aT a0 0 36000000)
theorem aaa{a0:Int}{σ:Heap}{r:Bool}(h:KO a0=δ r):KG [(η a0)] σ=δ ((φ r),σ):=by refine je (f:=KK) (y0:=(η a0)) (enc:=λr:Bool=>(φ r)) (T:=KO a0) rfl rfl ?_ r h;unfold KK KO;refine aj _ (jB a0 0 36000000 σ) ?_;exact aU _ (bf _ _) ⟨rfl,rfl⟩
end
section
def wO (a0:Int):Option (ByteArray×Int):=
 if(!(aT a0 0 65535))=ι then
  δ ((⟨#[]⟩:ByteArray),1)
 else
 if a0=0 then
  δ ((⟨#[111,117,116]⟩:ByteArray),0)
 else
 if a0=65535 then
  δ ((⟨#[102,117,108,108]⟩:ByteArray),0)
 else
 (wP (ξ.wrap (100*a0)) 65535).bind λr1=>
 (wP (ξ.wrap (r1*65535)) 100).bind λr2=>
 if r2=a0 then
  (tq (aR r1) (ke r1)).bind λr3=>
  (cC r3 (⟨#[37]⟩:ByteArray)).bind λx4=>
  δ (x4,0)
 else
 (tq (aR a0) (ke a0)).bind λr5=>
 (cC (⟨#[35]⟩:ByteArray) r5).bind λx6=>
 δ (x6,0)
theorem aa0{a0:Int}{σ:Heap}{r:(ByteArray×Int)}(h:wO a0=δ r):K5 [(η a0)] σ=δ ((l6 [(ψ r.1),(η r.2)]),σ):=by
 refine je (f:=Le) (y0:=(η a0)) (enc:=λr:(ByteArray×Int)=>(l6 [(ψ r.1),(η r.2)])) (T:=wO a0) rfl rfl ?_ r h;unfold Le wO;refine aj _ (an9 a0 σ)<|aj _ rfl ?_;refine cA (c:=(!(aT a0 0 65535))) (λdR=>?_) (λdR=>?_)
 ·exact aU _ (bf _ _) ⟨rfl,rfl⟩
 refine aj _ (eG _ _ _) ?_;refine cP (p:=a0=0) (λc9=>?_) (λc9=>?_)
 ·exact aU _ (bf _ _) ⟨rfl,rfl⟩
 refine aj _ (eG _ _ _) ?_;refine cP (p:=a0=65535) (λc8=>?_) (λc8=>?_)
 ·exact aU _ (bf _ _) ⟨rfl,rfl⟩
 refine aj _ rfl ?_;refine aK (λr1:Int=>((η r1),σ)) (λr1 bN=>K3 bN) (λr1 bN=>?_);refine aj _ rfl ?_;refine aK (λr2:Int=>((η r2),σ)) (λr2 hr2=>K3 hr2) (λr2 hr2=>?_);refine aj _ (eG _ _ _) ?_;refine cP (p:=r2=a0) (λc7=>?_) (λc7=>?_)
 ·refine aK (λr3:ByteArray=>((ψ r3),σ)) (λr3 iG=>(eT (e:=λr:ByteArray=>((ψ r),σ)) (λhs=>qF r1 hs σ)) iG) (λr3 iG=>?_);refine aK (λx4:ByteArray=>(ψ x4)) (λx4 oX=>(fy oX)) (λx4 oX=>?_);exact aU _ (bf _ _) ⟨rfl,rfl⟩
 refine aK (λr5:ByteArray=>((ψ r5),σ)) (λr5 sH=>(eT (e:=λr:ByteArray=>((ψ r),σ)) (λhs=>qF a0 hs σ)) sH) (λr5 sH=>?_);refine aK (λx6:ByteArray=>(ψ x6)) (λx6 sJ=>(fy sJ)) (λx6 sJ=>?_);exact aU _ (bf _ _) ⟨rfl,rfl⟩
def Aw (a0:Int):Option ByteArray:=
 if a0=0 then
  δ (⟨#[]⟩:ByteArray)
 else
 (tq (aR (ξ.wrap (1000+a0))) (ke (ξ.wrap (1000+a0)))).bind λr1=>
 (nJ r1 (δ 1) μ).bind λx2=>
 (tq (x2.size<=9223372036854775807/\(⟨#[48]⟩:ByteArray)=⟨#[48]⟩) (Dw x2)).bind λr3=>
 (cC (⟨#[46]⟩:ByteArray) r3).bind λx4=>
 δ x4
theorem amQ{a0:Int}{σ:Heap}{r:ByteArray}(h:Aw a0=δ r):Kf [(η a0)] σ=δ ((ψ r),σ):=by
 refine je (f:=Kg) (y0:=(η a0)) (enc:=λr:ByteArray=>(ψ r)) (T:=Aw a0) rfl rfl ?_ r h;unfold Kg Aw;refine aj _ (eG _ _ _) ?_;refine cP (p:=a0=0) (λc5=>?_) (λc5=>?_)
 ·exact aU _ (bf _ _) ⟨rfl,rfl⟩
 refine aj _ rfl ?_;refine aK (λr1:ByteArray=>((ψ r1),σ)) (λr1 bN=>(eT (e:=λr:ByteArray=>((ψ r),σ)) (λhs=>qF (ξ.wrap (1000+a0)) hs σ)) bN) (λr1 bN=>?_);refine aK (λx2:ByteArray=>(ψ x2)) (λx2 hx2=>(uU hx2)) (λx2 hx2=>?_);refine aK (λr3:ByteArray=>((ψ r3),σ)) (λr3 iG=>(eT (e:=λr:ByteArray=>((ψ r),σ)) (λhs=>SA x2 (⟨#[48]⟩:ByteArray) hs σ)) iG) (λr3 iG=>?_);refine aK (λx4:ByteArray=>(ψ x4)) (λx4 oX=>(fy oX)) (λx4 oX=>?_);exact aU _ (bf _ _) ⟨rfl,rfl⟩
def AB (a0:Int):Option (ByteArray×Int):=
 if(!((aT a0 0 36000000)))=ι then
  δ ((⟨#[]⟩:ByteArray),1)
 else
 (Aw (T7 a0 1000)).bind λr1=>
 if ξ.wrap (ZL a0 1000)<60 then
  (tq (aR (ξ.wrap (ZL a0 1000))) (ke (ξ.wrap (ZL a0 1000)))).bind λr2=>
  (cC r2 r1).bind λx3=>
  δ (x3,0)
 else
 (tq (aR (ξ.wrap (ZL (ξ.wrap (ZL a0 1000)) 60))) (ke (ξ.wrap (ZL (ξ.wrap (ZL a0 1000)) 60)))).bind λr4=>
 (cC r4 (⟨#[58]⟩:ByteArray)).bind λx5=>
 (tq (aR (ξ.wrap (100+T7 (ξ.wrap (ZL a0 1000)) 60))) (ke (ξ.wrap (100+T7 (ξ.wrap (ZL a0 1000)) 60)))).bind λr6=>
 (nJ r6 (δ 1) μ).bind λx7=>
 (cC x5 x7).bind λx8=>
 (cC x8 r1).bind λx9=>
 δ (x9,0)
theorem am9{a0:Int}{σ:Heap}{r:(ByteArray×Int)}(h:AB a0=δ r):Ku [(η a0)] σ=δ ((l6 [(ψ r.1),(η r.2)]),σ):=by
 refine je (f:=Kz) (y0:=(η a0)) (enc:=λr:(ByteArray×Int)=>(l6 [(ψ r.1),(η r.2)])) (T:=AB a0) rfl rfl ?_ r h;unfold Kz AB;refine aj _ (aaa (σ:=σ) (r:=(aT a0 0 36000000)) rfl)<|aj _ rfl ?_;refine cA (c:=(!((aT a0 0 36000000)))) (λmC=>?_) (λmC=>?_)
 ·exact aU _ (bf _ _) ⟨rfl,rfl⟩
 refine aj _ (IQ _ _ (by decide))<|aj _ (Dx _ _ (by decide)) ?_;refine aK (λr1:ByteArray=>((ψ r1),σ)) (λr1 bN=>amQ bN) (λr1 bN=>?_);refine aj _ rfl ?_;refine cP (p:=ξ.wrap (ZL a0 1000)<60) (λdR=>?_) (λdR=>?_)
 ·refine aK (λr2:ByteArray=>((ψ r2),σ)) (λr2 hr2=>(eT (e:=λr:ByteArray=>((ψ r),σ)) (λhs=>qF (ξ.wrap (ZL a0 1000)) hs σ)) hr2) (λr2 hr2=>?_);refine aK (λx3:ByteArray=>(ψ x3)) (λx3 hx3=>(fy hx3)) (λx3 hx3=>?_);exact aU _ (bf _ _) ⟨rfl,rfl⟩
 refine aj _ (IQ _ _ (by decide)) ?_;refine aK (λr4:ByteArray=>((ψ r4),σ)) (λr4 mD=>(eT (e:=λr:ByteArray=>((ψ r),σ)) (λhs=>qF (ξ.wrap (ZL (ξ.wrap (ZL a0 1000)) 60)) hs σ)) mD) (λr4 mD=>?_);refine aK (λx5:ByteArray=>(ψ x5)) (λx5 yf=>(fy yf)) (λx5 yf=>?_);refine aj _ (Dx _ _ (by decide))<|aj _ rfl ?_;refine aK (λr6:ByteArray=>((ψ r6),σ)) (λr6 yc=>(eT (e:=λr:ByteArray=>((ψ r),σ)) (λhs=>qF (ξ.wrap (100+T7 (ξ.wrap (ZL a0 1000)) 60)) hs σ)) yc) (λr6 yc=>?_);refine aK (λx7:ByteArray=>(ψ x7)) (λx7 yg=>(uU yg)) (λx7 yg=>?_);refine aK (λx8:ByteArray=>(ψ x8)) (λx8 yh=>(fy yh)) (λx8 yh=>?_);refine aK (λx9:ByteArray=>(ψ x9)) (λx9 kL=>(fy kL)) (λx9 kL=>?_);exact aU _ (bf _ _) ⟨rfl,rfl⟩
def wI (a0:Int):Option ByteArray:=
 if a0=1 then
  δ (⟨#[108,105,110,101,97,114]⟩:ByteArray)
 else
 if a0=2 then
  δ (⟨#[115,108,111,119]⟩:ByteArray)
 else
 if a0=3 then
  δ (⟨#[102,97,115,116]⟩:ByteArray)
 else
 if a0=4 then
  δ (⟨#[115,111,102,116]⟩:ByteArray)
 else
 if a0=5 then
  δ (⟨#[115,116,101,112]⟩:ByteArray)
 else
 δ (⟨#[116,97,98,108,101]⟩:ByteArray)
theorem Rx{a0:Int}{σ:Heap}{r:ByteArray}(h:wI a0=δ r):Cu [(η a0)] σ=δ ((ψ r),σ):=by
 refine je (f:=Kr) (y0:=(η a0)) (enc:=λr:ByteArray=>(ψ r)) (T:=wI a0) rfl rfl ?_ r h;unfold Kr wI;refine aj _ (eG _ _ _) ?_;refine cP (p:=a0=1) (λc5=>?_) (λc5=>?_)
 ·exact aU _ (bf _ _) ⟨rfl,rfl⟩
 refine aj _ (eG _ _ _) ?_;refine cP (p:=a0=2) (λc4=>?_) (λc4=>?_)
 ·exact aU _ (bf _ _) ⟨rfl,rfl⟩
 refine aj _ (eG _ _ _) ?_;refine cP (p:=a0=3) (λc3=>?_) (λc3=>?_)
 ·exact aU _ (bf _ _) ⟨rfl,rfl⟩
 refine aj _ (eG _ _ _) ?_;refine cP (p:=a0=4) (λc2=>?_) (λc2=>?_)
 ·exact aU _ (bf _ _) ⟨rfl,rfl⟩
 refine aj _ (eG _ _ _) ?_;refine cP (p:=a0=5) (λc1=>?_) (λc1=>?_)
 ·exact aU _ (bf _ _) ⟨rfl,rfl⟩
 exact aU _ (bf _ _) ⟨rfl,rfl⟩
def yy (a0:fZ):Option (ByteArray×Int):=
 if ¬((iw a0)=0)then
  δ ((⟨#[]⟩:ByteArray),(iw a0))
 else
 (wI a0.kind).bind λr1=>
 gL a0.bp (λ(i9:Nat)e8(s2:ByteArray)=>(show Option (Lr ByteArray ByteArray Unit)from
   (tq (aR e8.time) (ke e8.time)).bind λbG=>
   (cC (⟨#[32]⟩:ByteArray) bG).bind λbB=>
   (cC bB (⟨#[58]⟩:ByteArray)).bind λbP=>
   (tq (aR e8.way) (ke e8.way)).bind λfW=>
   (cC bP fW).bind λcr=>
   (cC s2 cr).bind λct=>
   δ (.go ct))) (λs2=>δ s2) r1 (λb3=>
  δ (b3,0)) (λb3=>
  μ)
theorem am2{a0:fZ}{σ:Heap}{r:(ByteArray×Int)}(h:yy a0=δ r):Kn [(l7 (jE a0))] σ=δ ((l6 [(ψ r.1),(η r.2)]),σ):=by
 refine je (f:=Kp) (y0:=(l7 (jE a0))) (enc:=λr:(ByteArray×Int)=>(l6 [(ψ r.1),(η r.2)])) (T:=yy a0) rfl rfl ?_ r h;unfold Kp yy;refine aj _ rfl<|aj _ rfl<|aj _ (GB a0 σ)<|aj _ (fC _ _ _) ?_;refine cP (p:=¬((iw a0)=0)) (λjm=>?_) (λjm=>?_)
 ·exact aU _ (bf _ _) ⟨rfl,rfl⟩
 refine aj _ rfl ?_;refine aK (λr1:ByteArray=>((ψ r1),σ)) (λr1 bN=>Rx bN) (λr1 bN=>?_);refine aj (sl 2 cx a0.bp) rfl<|aj _ (dc _ _ _) ?_;refine lB (B:=ByteArray) (R:=Unit) (λ(i9:Nat)(s2:ByteArray)v w4=>v=[(ψ s2),(η (i9:Int))]/\σ=w4) (λ(b3:ByteArray)(q:LS)=>∃aoa,q=((i6 0),([(ψ b3),aoa]:ay),σ)) (λ(b3:Unit)(q:LS)=>False) ?_ ?_ ⟨rfl,rfl⟩ ?_ ?_
 ·intro ajp i9 e8 s2 v w4 Qs hI;obtain⟨rfl,rfl⟩:=hI;refine aj _ (kS Qs)<|lF<|aj _ (kF Qs)<|aj _ rfl<|aj _ rfl<|aj _ (A8 _ _ rfl)<|aj _ rfl ?_;refine aK (λbG:ByteArray=>(ψ bG)) (λbG oR=>(jC ((eT (e:=λr:ByteArray=>((ψ r),σ)) (λhs=>qF e8.time hs σ)) oR))) (λbG oR=>?_);refine aK (λbB:ByteArray=>(ψ bB)) (λbB mz=>(fy mz)) (λbB mz=>?_);refine aK (λbP:ByteArray=>(ψ bP)) (λbP xO=>(fy xO)) (λbP xO=>?_);refine aj _ rfl ?_;refine aK (λfW:ByteArray=>(ψ fW)) (λfW xL=>(jC ((eT (e:=λr:ByteArray=>((ψ r),σ)) (λhs=>qF e8.way hs σ)) xL))) (λfW xL=>?_);refine aK (λcr:ByteArray=>(ψ cr)) (λcr DV=>(fy DV)) (λcr DV=>?_);refine aK (λct:ByteArray=>(ψ ct)) (λct DW=>(fy DW)) (λct DW=>?_);refine aj _ (kG Qs ajp) ?_;exact bu (jF ⟨rfl,rfl⟩)
 ·intro hl s2 v w4 hI;obtain⟨rfl,rfl⟩:=hI;refine aj _ (kQ _)<|lE ?_;exact bu ⟨by simp,⟨_,rfl⟩⟩
 ·intro hl b3 q hq;obtain⟨aoa,rfl⟩:=hq;refine fD rfl ?_;exact aU _ (bf _ _) ⟨rfl,rfl⟩
 ·intro hl b3 q hq;exact aoN hq
def yA (a0:Int):Option ByteArray:=
 (tq (aR (ξ.wrap (ZL a0 1000))) (ke (ξ.wrap (ZL a0 1000)))).bind λr1=>
 (show Option ByteArray from
   if 0<T7 a0 1000 then
    (tq (aR (ξ.wrap (1000+T7 a0 1000))) (ke (ξ.wrap (1000+T7 a0 1000)))).bind λr2=>
    (nJ r2 (δ 1) μ).bind λx3=>
    (tq (x3.size<=9223372036854775807/\(⟨#[48]⟩:ByteArray)=⟨#[48]⟩) (Dw x3)).bind λr4=>
    (cC (⟨#[46]⟩:ByteArray) r4).bind λx5=>
    (cC r1 x5).bind λx6=>
    δ x6
   else
   δ r1).bind λj8=>
 δ j8
theorem amS{a0:Int}{σ:Heap}{r:ByteArray}(h:yA a0=δ r):Kt [(η a0)] σ=δ ((ψ r),σ):=by
 refine je (f:=Kx) (y0:=(η a0)) (enc:=λr:ByteArray=>(ψ r)) (T:=yA a0) rfl rfl ?_ r h;unfold Kx yA;refine aj _ (IQ _ _ (by decide)) ?_;refine aK (λr1:ByteArray=>((ψ r1),σ)) (λr1 bN=>(eT (e:=λr:ByteArray=>((ψ r),σ)) (λhs=>qF (ξ.wrap (ZL a0 1000)) hs σ)) bN) (λr1 bN=>?_);refine aj _ (Dx _ _ (by decide))<|aj _ rfl ?_
 refine nj (ω:=ByteArray) (λj8 a=>a=(([(ψ j8)]:ay),σ)) (
   by
    refine cP (p:=0<T7 a0 1000) (λc7=>?_) (λc7=>?_)
    ·refine aj _ (Dx _ _ (by decide))<|aj _ rfl ?_;refine aK (λr2:ByteArray=>((ψ r2),σ)) (λr2 hr2=>(eT (e:=λr:ByteArray=>((ψ r),σ)) (λhs=>qF (ξ.wrap (1000+T7 a0 1000)) hs σ)) hr2) (λr2 hr2=>?_);refine aK (λx3:ByteArray=>(ψ x3)) (λx3 hx3=>(uU hx3)) (λx3 hx3=>?_);refine aK (λr4:ByteArray=>((ψ r4),σ)) (λr4 mD=>(eT (e:=λr:ByteArray=>((ψ r),σ)) (λhs=>SA x3 (⟨#[48]⟩:ByteArray) hs σ)) mD) (λr4 mD=>?_);refine aK (λx5:ByteArray=>(ψ x5)) (λx5 yf=>(fy yf)) (λx5 yf=>?_);refine aK (λx6:ByteArray=>(ψ x6)) (λx6 sJ=>(fy sJ)) (λx6 sJ=>?_);exact bu rfl
    exact bu rfl
   ) (λj8 a ha=>?_)
 subst ha;exact aU _ (bf _ _) ⟨rfl,rfl⟩
def oI (a0:Int):Option ByteArray:=(AB a0).bind λr1=>δ r1.1
theorem Gw{a0:Int}{σ:Heap}{r:ByteArray}(h:oI a0=δ r):AG [(η a0)] σ=δ ((ψ r),σ):=by refine je (f:=KJ) (y0:=(η a0)) (enc:=λr:ByteArray=>(ψ r)) (T:=oI a0) rfl rfl ?_ r h;unfold KJ oI;refine aK (λr1:(ByteArray×Int)=>((l6 [(ψ r1.1),(η r1.2)]),σ)) (λr1 bN=>am9 bN) (λr1 bN=>?_);refine aj _ rfl<|aj _ rfl ?_;exact aU _ (bf _ _) ⟨rfl,rfl⟩
def Cy (a0:aJ):Option ByteArray:=
 (tq (aR a0.key.unit) (ke a0.key.unit)).bind λr1=>
 (cC (⟨#[32,32]⟩:ByteArray) r1).bind λx2=>
 (cC x2 (⟨#[46]⟩:ByteArray)).bind λx3=>
 (cC x3 a0.key.param).bind λx4=>
 (cC x4 (⟨#[32]⟩:ByteArray)).bind λx5=>
 (show Option ByteArray from
   if a0.release=ι then
    (cC x5 (⟨#[114,101,108,101,97,115,101]⟩:ByteArray)).bind λx6=>
    δ x6
   else
   (show Option ByteArray from
     if 0<a0.value.bW then
      (tq (aR a0.value.bW) (ke a0.value.bW)).bind λr7=>
      (cC (⟨#[112,114,101,115,101,116,32]⟩:ByteArray) r7).bind λx8=>
      (cC x5 x8).bind λx9=>
      δ x9
     else
     (wO a0.value.level).bind λbG=>
     (cC x5 bG.1).bind λbB=>
     δ bB).bind λlP=>
   δ lP).bind λqQ=>
 (show Option ByteArray from
   if a0.cG=ι then
    (oI a0.time).bind λcY=>
    (cC (⟨#[32,105,110,32]⟩:ByteArray) cY).bind λbK=>
    (cC qQ bK).bind λbV=>
    (show Option ByteArray from
      if 0<a0.br then
       (oI a0.br).bind λku=>
       (cC (⟨#[32,97,102,116,101,114,32]⟩:ByteArray) ku).bind λdM=>
       (cC bV dM).bind λdQ=>
       δ dQ
      else
      δ bV).bind λCc=>
    δ Cc
   else
   δ qQ).bind λJx=>
 (cC Jx (⟨#[10]⟩:ByteArray)).bind λeM=>
 δ eM
theorem amZ{a0:aJ}{σ:Heap}{r:ByteArray}(h:Cy a0=δ r):KE [(l7 (aW a0))] σ=δ ((ψ r),σ):=by
 refine je (f:=KH) (y0:=(l7 (aW a0))) (enc:=λr:ByteArray=>(ψ r)) (T:=Cy a0) rfl rfl ?_ r h;unfold KH Cy;refine aj _ rfl<|aj _ rfl ?_;refine aK (λr1:ByteArray=>(ψ r1)) (λr1 bN=>(jC ((eT (e:=λr:ByteArray=>((ψ r),σ)) (λhs=>qF a0.key.unit hs σ)) bN))) (λr1 bN=>?_);refine aK (λx2:ByteArray=>(ψ x2)) (λx2 hx2=>(fy hx2)) (λx2 hx2=>?_);refine aK (λx3:ByteArray=>(ψ x3)) (λx3 hx3=>(fy hx3)) (λx3 hx3=>?_);refine aj _ rfl ?_;refine aK (λx4:ByteArray=>(ψ x4)) (λx4 oX=>(fy oX)) (λx4 oX=>?_);refine aK (λx5:ByteArray=>(ψ x5)) (λx5 yf=>(fy yf)) (λx5 yf=>?_);refine aj _ rfl ?_
 refine nj (ω:=ByteArray) (λqQ a=>a=(([(Z3 (aW a0)),(ψ qQ)]:ay),σ)) (
   by
    refine cA (c:=a0.release) (λjm=>?_) (λjm=>?_)
    ·refine aK (λx6:ByteArray=>(ψ x6)) (λx6 sJ=>(fy sJ)) (λx6 sJ=>?_);exact bu rfl
    refine aj _ rfl<|aj _ rfl ?_
    refine nj (ω:=ByteArray) (λlP a=>a=(([(Z3 (aW a0)),(ψ lP)]:ay),σ)) (
      by
       refine cP (p:=0<a0.value.bW) (λeu=>?_) (λeu=>?_)
       ·refine aj _ rfl ?_;refine aK (λr7:ByteArray=>((ψ r7),σ)) (λr7 FG=>(eT (e:=λr:ByteArray=>((ψ r),σ)) (λhs=>qF a0.value.bW hs σ)) FG) (λr7 FG=>?_);refine aK (λx8:ByteArray=>(ψ x8)) (λx8 yh=>(fy yh)) (λx8 yh=>?_);refine aK (λx9:ByteArray=>(ψ x9)) (λx9 kL=>(fy kL)) (λx9 kL=>?_);exact bu rfl
       refine aj _ rfl ?_;refine aK (λbG:(ByteArray×Int)=>((l6 [(ψ bG.1),(η bG.2)]),σ)) (λbG oR=>aa0 oR) (λbG oR=>?_);refine aj _ rfl<|aj _ rfl ?_;refine aK (λbB:ByteArray=>(ψ bB)) (λbB mz=>(fy mz)) (λbB mz=>?_);exact bu rfl
      ) (λlP a ha=>?_)
    subst ha;exact bu rfl
   ) (λqQ a ha=>?_)
 subst ha;refine aj _ rfl<|aj _ rfl ?_
 refine nj (ω:=ByteArray) (λJx a=>a=(([(ψ Jx)]:ay),σ)) (
   by
    refine cA (c:=a0.cG) (λzA=>?_) (λzA=>?_)
    ·refine aj _ rfl<|aj _ rfl ?_;refine aK (λcY:ByteArray=>((ψ cY),σ)) (λcY DQ=>Gw DQ) (λcY DQ=>?_);refine aK (λbK:ByteArray=>(ψ bK)) (λbK DX=>(fy DX)) (λbK DX=>?_);refine aK (λbV:ByteArray=>(ψ bV)) (λbV xP=>(fy xP)) (λbV xP=>?_);refine aj _ rfl<|aj _ rfl<|aj _ rfl ?_
     refine nj (ω:=ByteArray) (λCc a=>a=(([(ψ Cc)]:ay),σ)) (
       by
        refine cP (p:=0<a0.br) (λsx=>?_) (λsx=>?_)
        ·refine aj _ rfl<|aj _ rfl ?_;refine aK (λku:ByteArray=>((ψ ku),σ)) (λku DR=>Gw DR) (λku DR=>?_);refine aK (λdM:ByteArray=>(ψ dM)) (λdM XS=>(fy XS)) (λdM XS=>?_);refine aK (λdQ:ByteArray=>(ψ dQ)) (λdQ DY=>(fy DY)) (λdQ DY=>?_);exact bu rfl
        exact bu rfl
       ) (λCc a ha=>?_)
     subst ha;exact bu rfl
    exact bu rfl
   ) (λJx a ha=>?_)
 subst ha;refine aK (λeM:ByteArray=>(ψ eM)) (λeM D1=>(fy D1)) (λeM D1=>?_);exact aU _ (bf _ _) ⟨rfl,rfl⟩
def Cz (a0:aP):Option ByteArray:=
 (yA a0.aY).bind λr1=>
 (cC (⟨#[99,117,101,32]⟩:ByteArray) r1).bind λx2=>
 gL ([(⟨#[32,100,101,108,97,121,32]⟩:ByteArray),(⟨#[32,117,112,32]⟩:ByteArray),(⟨#[32,100,111,119,110,32]⟩:ByteArray),(⟨#[32,111,116,104,101,114,32]⟩:ByteArray)]:(List ByteArray)) (λ(FJ:Nat)e9(s3:ByteArray)=>(show Option (Lr ByteArray ByteArray Unit)from
   (cJ ([a0.br,a0.up,a0.down,a0.other]:(List Int)) (FJ:Int)).bind λbB=>
   (show Option ByteArray from
     if 0<bB then
      (cJ ([a0.br,a0.up,a0.down,a0.other]:(List Int)) (FJ:Int)).bind λbP=>
      (oI bP).bind λfW=>
      (cC e9 fW).bind λcr=>
      (cC s3 cr).bind λct=>
      δ ct
     else
     δ s3).bind λqQ=>
   δ (.go qQ))) (λs3=>δ s3) x2 (λb4=>
  (show Option ByteArray from
    if a0.block=ι then
     (cC b4 (⟨#[32,98,108,111,99,107]⟩:ByteArray)).bind λcK=>
     δ cK
    else
    δ b4).bind λFK=>
  (show Option ByteArray from
    if 0<=a0.dr then
     (oI a0.dr).bind λzY=>
     (cC (⟨#[32,102,111,108,108,111,119,32]⟩:ByteArray) zY).bind λdS=>
     (cC FK dS).bind λcZ=>
     δ cZ
    else
    δ FK).bind λFL=>
  (show Option ByteArray from
    if ¬(a0.bS.kind=1)then
     (yy a0.bS).bind λr32=>
     (cC (⟨#[32,99,117,114,118,101,32]⟩:ByteArray) r32.1).bind λeL=>
     (cC FL eL).bind λeM=>
     δ eM
    else
    δ FL).bind λFM=>
  (show Option ByteArray from
    if ¬(a0.title=(⟨#[]⟩:ByteArray))then
     (cC (⟨#[32,34]⟩:ByteArray) a0.title).bind λey=>
     (cC ey (⟨#[34]⟩:ByteArray)).bind λfk=>
     (cC FM fk).bind λfu=>
     δ fu
    else
    δ FM).bind λJy=>
  (cC Jy (⟨#[10]⟩:ByteArray)).bind λgC=>
  δ gC) (λb4=>
  μ)
theorem aaq{a0:aP}{σ:Heap}{r:ByteArray}(h:Cz a0=δ r):KR [(l7 (bY a0))] σ=δ ((ψ r),σ):=by
 refine je (f:=KV) (y0:=(l7 (bY a0))) (enc:=λr:ByteArray=>(ψ r)) (T:=Cz a0) (fB (BP rfl) rfl) rfl ?_ r h;unfold KV Cz;refine aj _ rfl<|aj _ rfl ?_;refine aK (λr1:ByteArray=>((ψ r1),σ)) (λr1 bN=>amS bN) (λr1 bN=>?_);refine aK (λx2:ByteArray=>(ψ x2)) (λx2 hx2=>(fy hx2)) (λx2 hx2=>?_);refine aj _ rfl<|aj _ rfl<|aj _ rfl<|aj _ rfl<|aj (sl 1 xF ([a0.br,a0.up,a0.down,a0.other]:(List Int))) rfl<|aj (sl 1 cO ([(⟨#[32,100,101,108,97,121,32]⟩:ByteArray),(⟨#[32,117,112,32]⟩:ByteArray),(⟨#[32,100,111,119,110,32]⟩:ByteArray),(⟨#[32,111,116,104,101,114,32]⟩:ByteArray)]:(List ByteArray))) rfl<|aj _ (dc _ _ _) ?_;refine lB (B:=ByteArray) (R:=Unit) (λ(FJ:Nat)(s3:ByteArray)v w5=>v=[(Z3 (bY a0)),(ψ s3),(η (FJ:Int))]/\σ=w5) (λ(b4:ByteArray)(q:LS)=>∃Y9,q=((i6 0),([(Z3 (bY a0)),(ψ b4),Y9]:ay),σ)) (λ(b4:Unit)(q:LS)=>False) ?_ ?_ ⟨rfl,rfl⟩ ?_ ?_
 ·intro ajq FJ e9 s3 v w5 Qt hI;obtain⟨rfl,rfl⟩:=hI;refine aj _ (kS Qt)<|lF<|aj _ (kF Qt)<|aj _ rfl ?_;refine aK (λbB:Int=>(T3 [(η bB)])) (λbB mz=>fP mz) (λbB mz=>?_);refine aj _ rfl<|aj _ rfl ?_
  refine nj (ω:=ByteArray) (λqQ a=>a=(([(Z3 (bY a0)),(ψ qQ)]:ay),σ)) (
    by
     refine cP (p:=0<bB) (λjm=>?_) (λjm=>?_)
     ·refine aK (λbP:Int=>(T3 [(η bP)])) (λbP xO=>fP xO) (λbP xO=>?_);refine aj _ rfl ?_;refine aK (λfW:ByteArray=>((ψ fW),σ)) (λfW xL=>Gw xL) (λfW xL=>?_);refine aK (λcr:ByteArray=>(ψ cr)) (λcr DV=>(fy DV)) (λcr DV=>?_);refine aK (λct:ByteArray=>(ψ ct)) (λct DW=>(fy DW)) (λct DW=>?_);exact bu rfl
     exact bu rfl
    ) (λqQ a ha=>?_)
  subst ha;refine aj _ (kG Qt ajq) ?_;exact bu (jF ⟨rfl,rfl⟩)
 ·intro hl s3 v w5 hI;obtain⟨rfl,rfl⟩:=hI;refine aj _ (kQ _)<|lE ?_;exact bu ⟨by simp,⟨_,rfl⟩⟩
 ·intro hl b4 q hq;obtain⟨Y9,rfl⟩:=hq;refine fD rfl<|aj _ rfl<|aj _ rfl ?_
  refine nj (ω:=ByteArray) (λFK a=>a=(([(Z3 (bY a0)),(ψ FK)]:ay),σ)) (
    by
     refine cA (c:=a0.block) (λsu=>?_) (λsu=>?_)
     ·refine aK (λcK:ByteArray=>(ψ cK)) (λcK XQ=>(fy XQ)) (λcK XQ=>?_);exact bu rfl
     exact bu rfl
    ) (λFK a ha=>?_)
  subst ha;refine aj _ rfl<|aj _ rfl<|aj _ rfl ?_
  refine nj (ω:=ByteArray) (λFL a=>a=(([(Z3 (bY a0)),(ψ FL)]:ay),σ)) (
    by
     refine cP (p:=0<=a0.dr) (λzy=>?_) (λzy=>?_)
     ·refine aj _ rfl<|aj _ rfl ?_;refine aK (λzY:ByteArray=>((ψ zY),σ)) (λzY XG=>Gw XG) (λzY XG=>?_);refine aK (λdS:ByteArray=>(ψ dS)) (λdS XT=>(fy XT)) (λdS XT=>?_);refine aK (λcZ:ByteArray=>(ψ cZ)) (λcZ DZ=>(fy DZ)) (λcZ DZ=>?_);exact bu rfl
     exact bu rfl
    ) (λFL a ha=>?_)
  subst ha;refine aj _ rfl<|aj _ rfl<|aj _ rfl<|aj _ (fC _ _ _) ?_
  refine nj (ω:=ByteArray) (λFM a=>a=(([(Z3 (bY a0)),(ψ FM)]:ay),σ)) (
    by
     refine cP (p:=¬(a0.bS.kind=1)) (λoB=>?_) (λoB=>?_)
     ·refine aj _ rfl<|aj _ rfl ?_;refine aK (λr32:(ByteArray×Int)=>((l6 [(ψ r32.1),(η r32.2)]),σ)) (λr32 XI=>am2 XI) (λr32 XI=>?_);refine aj _ rfl<|aj _ rfl ?_;refine aK (λeL:ByteArray=>(ψ eL)) (λeL D0=>(fy D0)) (λeL D0=>?_);refine aK (λeM:ByteArray=>(ψ eM)) (λeM D1=>(fy D1)) (λeM D1=>?_);exact bu rfl
     exact bu rfl
    ) (λFM a ha=>?_)
  subst ha;refine aj _ rfl<|aj _ rfl<|aj _ (pX _ _) ?_
  refine nj (ω:=ByteArray) (λJy a=>a=(([(ψ Jy)]:ay),σ)) (
    by
     refine cP (p:=¬(a0.title=(⟨#[]⟩:ByteArray))) (λqM=>?_) (λqM=>?_)
     ·refine aj _ rfl<|aj _ rfl ?_;refine aK (λey:ByteArray=>(ψ ey)) (λey D2=>(fy D2)) (λey D2=>?_);refine aK (λfk:ByteArray=>(ψ fk)) (λfk XX=>(fy XX)) (λfk XX=>?_);refine aK (λfu:ByteArray=>(ψ fu)) (λfu D3=>(fy D3)) (λfu D3=>?_);exact bu rfl
     exact bu rfl
    ) (λJy a ha=>?_)
  subst ha;refine aK (λgC:ByteArray=>(ψ gC)) (λgC XY=>(fy XY)) (λgC XY=>?_);exact aU _ (bf _ _) ⟨rfl,rfl⟩
 ·intro hl b4 q hq;exact aoN hq
def qC (a0:ByteArray):Option (Int×Bool):=(tq (a0.size<=9223372036854775807/\(9:Int)<=18) (lJ a0 9)).bind λr1=>δ (r1.1,r1.2)
theorem AJ{a0:ByteArray}{σ:Heap}{r:(Int×Bool)}(h:qC a0=δ r):wL [(ψ a0)] σ=δ ((l6 [(η r.1),(φ r.2)]),σ):=by refine je (f:=KX) (y0:=(ψ a0)) (enc:=λr:(Int×Bool)=>(l6 [(η r.1),(φ r.2)])) (T:=qC a0) rfl rfl ?_ r h;unfold KX qC;refine aK (λr1:(Int×Bool)=>((l6 [(η r1.1),(φ r1.2)]),σ)) (λr1 bN=>(eT (e:=λr:(Int×Bool)=>((l6 [(η r.1),(φ r.2)]),σ)) (λhs=>Lw a0 9 hs σ)) bN) (λr1 bN=>?_);refine aj _ rfl<|aj _ rfl ?_;exact aU _ (bf _ _) ⟨rfl,rfl⟩
def nP (a0:ByteArray) (a1:Int):Option (Int×Bool):=
 (tq (a0.size<4294967281) (iL a0 (⟨#[46]⟩:ByteArray))).bind λr1=>
 (qC r1.1).bind λr2=>
 (if((!(!r2.2))&&r1.2.2)=ι then tq (r1.2.1.size<=9223372036854775807) (mo r1.2.1)else δ default).bind λr3=>
 (if(((!(!r2.2))&&r1.2.2)&&(!((!r3)||(decide (a1<(r1.2.1.size:Int))))))=ι then sN r1.2.1 (ξ.wrap ((r1.2.1.size:Int) -1))else δ 0).bind λx4=>
 if((!r2.2)||(r1.2.2&&(((!r3)||(decide (a1<(r1.2.1.size:Int))))||(decide (x4=48)))))=ι then
  δ (0,ε)
 else
 qy (λ(s5:(Int×Int))=>(show Option (Lr (Int×Int) Int Unit)from
   if s5.2<a1 then
    (show Option Int from
      if s5.2<(r1.2.1.size:Int)then
       (sN r1.2.1 s5.2).bind λbB=>
       δ (ξ.wrap (ξ.wrap (s5.1*10)+ξ.wrap (apL.wrap (bB-48))))
      else
      δ (ξ.wrap (s5.1*10))).bind λlP=>
    δ (.go (lP,ξ.wrap (s5.2+1)))
   else
   δ (.lK s5.1))) (r2.1,0) (λb6=>
  δ (b6,ι)) (λb6=>
  μ)
theorem Gt{a0:ByteArray}{a1:Int}{σ:Heap}{r:(Int×Bool)}(h:nP a0 a1=δ r):AE [(ψ a0),(η a1)] σ=δ ((l6 [(η r.1),(φ r.2)]),σ):=by
 refine lq (f:=KB) (y0:=(ψ a0)) (y1:=(η a1)) (enc:=λr:(Int×Bool)=>(l6 [(η r.1),(φ r.2)])) (T:=nP a0 a1) rfl rfl ?_ r h;unfold KB nP;refine aK (λr1:(ByteArray×ByteArray×Bool)=>((l6 [(ψ r1.1),(ψ r1.2.1),(φ r1.2.2)]),σ)) (λr1 bN=>(eT (e:=λr:(ByteArray×ByteArray×Bool)=>((l6 [(ψ r.1),(ψ r.2.1),(φ r.2.2)]),σ)) (λhs=>yQ a0 (⟨#[46]⟩:ByteArray) hs σ)) bN) (λr1 bN=>?_);refine aj _ rfl<|aj _ rfl<|aj _ rfl ?_;refine aK (λr2:(Int×Bool)=>((l6 [(η r2.1),(φ r2.2)]),σ)) (λr2 hr2=>AJ hr2) (λr2 hr2=>?_);refine aj _ rfl<|aj _ rfl<|aj _ rfl<|bD (φ r1.2.2) (λhg=>rfl)<|bD (φ r1.2.2) (λhg=>by(try rw[hg]);exact rfl)<|iy (ψ r1.2.1) (λhg=>rfl) ?_
 refine M6 (ω:=Bool) (λr3=>(φ r3)) (λhg r3 iG=>by(try rw[hg]);exact(jC ((eT (e:=λr:Bool=>((φ r),σ)) (λhs=>L7 r1.2.1 hs σ)) iG))) (λr3 iG=>?_);refine iy (φ (!r3)) (λhg=>by(try rw[hg]);exact rfl)<|iy (φ (!r3)) (λhg=>by(try rw[hg]);exact rfl)<|kR (ψ r1.2.1) (λhg=>rfl)<|kR (η (r1.2.1.size:Int)) (λhg=>by(try rw[hg]);exact rfl)<|kR (η a1) (λhg=>rfl)<|kR (φ (decide (a1<(r1.2.1.size:Int)))) (λhg=>by(try rw[hg]);exact rfl)<|iy (φ ((!r3)||(decide (a1<(r1.2.1.size:Int))))) (λhg=>by(try rw[hg]);exact(eW _ _))<|iy (φ ((!r3)||(decide (a1<(r1.2.1.size:Int))))) (λhg=>by(try rw[hg]);exact rfl)<|kR (ψ r1.2.1) (λhg=>rfl)<|kR (ψ r1.2.1) (λhg=>rfl)<|kR (η (r1.2.1.size:Int)) (λhg=>by(try rw[hg]);exact rfl)<|kR (η (ξ.wrap ((r1.2.1.size:Int) -1))) (λhg=>by(try rw[hg]);exact rfl) ?_;refine Vu (ω:=Int) (λx4=>(Ru .u8 x4)) (λhg x4 oX=>by(try rw[hg]);exact Dv oX) (λx4 oX=>?_);refine kR (φ (decide (x4=48))) (λhg=>by(try rw[hg]);exact(Nd _ _))<|iy (φ (((!r3)||(decide (a1<(r1.2.1.size:Int))))||(decide (x4=48)))) (λhg=>by(try rw[hg]);exact(eW _ _))<|bD (φ (r1.2.2&&(((!r3)||(decide (a1<(r1.2.1.size:Int))))||(decide (x4=48))))) (λhg=>by(try rw[hg]);exact(eY _ _))<|aj _ (eW _ _) ?_;refine cA (c:=((!r2.2)||(r1.2.2&&(((!r3)||(decide (a1<(r1.2.1.size:Int))))||(decide (x4=48)))))) (λiE=>?_) (λiE=>?_)
 ·exact aU _ (bf _ _) ⟨rfl,rfl⟩
 refine NN (B:=Int) (R:=Unit) (λ(s5:(Int×Int))v w7=>v=[(η s5.1),(η s5.2)]/\σ=w7) (λ(b6:Int)(q:LS)=>∃Zc,q=((i6 0),([(η b6),Zc]:ay),σ)) (λ(b6:Unit)(q:LS)=>False) ?_ ⟨rfl,rfl⟩ ?_ ?_
 ·intro s5 v w7 hI;obtain⟨rfl,rfl⟩:=hI;refine aj _ rfl ?_;refine cP (p:=s5.2<a1) (λjm=>?_) (λjm=>?_)
  ·refine aj _ rfl<|aj _ rfl<|aj _ rfl ?_
   refine nj (ω:=Int) (λlP a=>a=(([(η lP)]:ay),σ)) (
     by
      refine cP (p:=s5.2<(r1.2.1.size:Int)) (λeu=>?_) (λeu=>?_)
      ·refine aK (λbB:Int=>(Ru .u8 bB)) (λbB mz=>Dv mz) (λbB mz=>?_);refine aj _ rfl<|aj _ rfl<|aj _ rfl ?_;exact bu rfl
      exact bu rfl
     ) (λlP a ha=>?_)
   subst ha;refine aj _ rfl ?_;exact bu (jF ⟨rfl,rfl⟩)
  exact bu (Ij (by simp) ⟨_,rfl⟩)
 ·intro b6 q hq;obtain⟨Zc,rfl⟩:=hq;refine fD rfl ?_;exact aU _ (bf _ _) ⟨rfl,rfl⟩
 ·intro b6 q hq;exact aoN hq
def yt (a0:ByteArray) (a1:ByteArray):Option Bool:=
 (if decide ((a1.size:Int)<=(a0.size:Int))=ι then nJ a0 μ (δ (a1.size:Int))else δ default).bind λx1=>
 δ ((decide ((a1.size:Int)<=(a0.size:Int)))&&(decide (x1=a1)))
theorem Rk{a0:ByteArray}{a1:ByteArray}{σ:Heap}{r:Bool}(h:yt a0 a1=δ r):Gf [(ψ a0),(ψ a1)] σ=δ ((φ r),σ):=by refine lq (f:=JZ) (y0:=(ψ a0)) (y1:=(ψ a1)) (enc:=λr:Bool=>(φ r)) (T:=yt a0 a1) rfl rfl ?_ r h;unfold JZ yt;refine aj _ rfl<|aj _ rfl<|aj _ rfl<|bz (ψ a0) (λhg=>rfl)<|bz (ψ a1) (λhg=>rfl)<|bz (η (a1.size:Int)) (λhg=>by(try rw[hg]);exact rfl) ?_;refine oM (ω:=ByteArray) (λx1=>(ψ x1)) (λhg x1 hx1=>by(try rw[hg]);exact(uU hx1)) (λx1 hx1=>?_);refine bz (ψ a1) (λhg=>rfl)<|bz (φ (decide (x1=a1))) (λhg=>by(try rw[hg]);exact(kW _ _))<|aj _ (eY _ _) ?_;exact aU _ (bf _ _) ⟨rfl,rfl⟩
def Ap (a0:ByteArray) (a1:ByteArray):Option Bool:=
 (if decide ((a1.size:Int)<=(a0.size:Int))=ι then nJ a0 (δ (ξ.wrap ((a0.size:Int) -(a1.size:Int)))) μ else δ default).bind λx1=>
 δ ((decide ((a1.size:Int)<=(a0.size:Int)))&&(decide (x1=a1)))
theorem anf{a0:ByteArray}{a1:ByteArray}{σ:Heap}{r:Bool}(h:Ap a0 a1=δ r):JW [(ψ a0),(ψ a1)] σ=δ ((φ r),σ):=by refine lq (f:=J0) (y0:=(ψ a0)) (y1:=(ψ a1)) (enc:=λr:Bool=>(φ r)) (T:=Ap a0 a1) rfl rfl ?_ r h;unfold J0 Ap;refine aj _ rfl<|aj _ rfl<|aj _ rfl<|bz (ψ a0) (λhg=>rfl)<|bz (ψ a0) (λhg=>rfl)<|bz (η (a0.size:Int)) (λhg=>by(try rw[hg]);exact rfl)<|bz (ψ a1) (λhg=>rfl)<|bz (η (a1.size:Int)) (λhg=>by(try rw[hg]);exact rfl)<|bz (η (ξ.wrap ((a0.size:Int) -(a1.size:Int)))) (λhg=>by(try rw[hg]);exact rfl) ?_;refine oM (ω:=ByteArray) (λx1=>(ψ x1)) (λhg x1 hx1=>by(try rw[hg]);exact(uU hx1)) (λx1 hx1=>?_);refine bz (ψ a1) (λhg=>rfl)<|bz (φ (decide (x1=a1))) (λhg=>by(try rw[hg]);exact(kW _ _))<|aj _ (eY _ _) ?_;exact aU _ (bf _ _) ⟨rfl,rfl⟩
def Cn (a0:ByteArray) (a1:ByteArray):Option (ByteArray×Bool):=
 (yt a0 a1).bind λr1=>
 if(!r1)=ι then
  δ (a0,ε)
 else
 (nJ a0 (δ (a1.size:Int)) μ).bind λx2=>
 δ (x2,ι)
theorem amV{a0:ByteArray}{a1:ByteArray}{σ:Heap}{r:(ByteArray×Bool)}(h:Cn a0 a1=δ r):JU [(ψ a0),(ψ a1)] σ=δ ((l6 [(ψ r.1),(φ r.2)]),σ):=by
 refine lq (f:=JX) (y0:=(ψ a0)) (y1:=(ψ a1)) (enc:=λr:(ByteArray×Bool)=>(l6 [(ψ r.1),(φ r.2)])) (T:=Cn a0 a1) rfl rfl ?_ r h;unfold JX Cn;refine aK (λr1:Bool=>((φ r1),σ)) (λr1 bN=>Rk bN) (λr1 bN=>?_);refine aj _ rfl ?_;refine cA (c:=(!r1)) (λc3=>?_) (λc3=>?_)
 ·exact aU _ (bf _ _) ⟨rfl,rfl⟩
 refine aj _ rfl ?_;refine aK (λx2:ByteArray=>(ψ x2)) (λx2 hx2=>(uU hx2)) (λx2 hx2=>?_);exact aU _ (bf _ _) ⟨rfl,rfl⟩
def Co (a0:ByteArray) (a1:ByteArray):Option (ByteArray×Bool):=
 (Ap a0 a1).bind λr1=>
 if(!r1)=ι then
  δ (a0,ε)
 else
 (nJ a0 μ (δ (ξ.wrap ((a0.size:Int) -(a1.size:Int))))).bind λx2=>
 δ (x2,ι)
theorem anm{a0:ByteArray}{a1:ByteArray}{σ:Heap}{r:(ByteArray×Bool)}(h:Co a0 a1=δ r):JV [(ψ a0),(ψ a1)] σ=δ ((l6 [(ψ r.1),(φ r.2)]),σ):=by
 refine lq (f:=JY) (y0:=(ψ a0)) (y1:=(ψ a1)) (enc:=λr:(ByteArray×Bool)=>(l6 [(ψ r.1),(φ r.2)])) (T:=Co a0 a1) rfl rfl ?_ r h;unfold JY Co;refine aK (λr1:Bool=>((φ r1),σ)) (λr1 bN=>anf bN) (λr1 bN=>?_);refine aj _ rfl ?_;refine cA (c:=(!r1)) (λc3=>?_) (λc3=>?_)
 ·exact aU _ (bf _ _) ⟨rfl,rfl⟩
 refine aj _ rfl<|aj _ rfl<|aj _ rfl ?_;refine aK (λx2:ByteArray=>(ψ x2)) (λx2 hx2=>(uU hx2)) (λx2 hx2=>?_);exact aU _ (bf _ _) ⟨rfl,rfl⟩
def Cm (a0:ByteArray) (a1:ByteArray):Option ByteArray:=
 (yt a0 a1).bind λr1=>
 if r1=ι then
  (nJ a0 (δ (a1.size:Int)) μ).bind λx2=>
  δ x2
 else
 δ a0
theorem amR{a0:ByteArray}{a1:ByteArray}{σ:Heap}{r:ByteArray}(h:Cm a0 a1=δ r):JS [(ψ a0),(ψ a1)] σ=δ ((ψ r),σ):=by
 refine lq (f:=JT) (y0:=(ψ a0)) (y1:=(ψ a1)) (enc:=λr:ByteArray=>(ψ r)) (T:=Cm a0 a1) rfl rfl ?_ r h;unfold JT Cm;refine aK (λr1:Bool=>((φ r1),σ)) (λr1 bN=>Rk bN) (λr1 bN=>?_);refine cA (c:=r1) (λc3=>?_) (λc3=>?_)
 ·refine aj _ rfl ?_;refine aK (λx2:ByteArray=>(ψ x2)) (λx2 hx2=>(uU hx2)) (λx2 hx2=>?_);exact aU _ (bf _ _) ⟨rfl,rfl⟩
 exact aU _ (bf _ _) ⟨rfl,rfl⟩
def wF (a0:ByteArray) (a1:ByteArray):Option (ByteArray×Bool):=(Cn a0 a1).bind λr1=>δ (r1.1,r1.2)
theorem Rp{a0:ByteArray}{a1:ByteArray}{σ:Heap}{r:(ByteArray×Bool)}(h:wF a0 a1=δ r):Gl [(ψ a0),(ψ a1)] σ=δ ((l6 [(ψ r.1),(φ r.2)]),σ):=by refine lq (f:=Ki) (y0:=(ψ a0)) (y1:=(ψ a1)) (enc:=λr:(ByteArray×Bool)=>(l6 [(ψ r.1),(φ r.2)])) (T:=wF a0 a1) rfl rfl ?_ r h;unfold Ki wF;refine aK (λr1:(ByteArray×Bool)=>((l6 [(ψ r1.1),(φ r1.2)]),σ)) (λr1 bN=>amV bN) (λr1 bN=>?_);refine aj _ rfl<|aj _ rfl ?_;exact aU _ (bf _ _) ⟨rfl,rfl⟩
def yx (a0:ByteArray) (a1:ByteArray):Option (ByteArray×Bool):=(Co a0 a1).bind λr1=>δ (r1.1,r1.2)
theorem aoc{a0:ByteArray}{a1:ByteArray}{σ:Heap}{r:(ByteArray×Bool)}(h:yx a0 a1=δ r):Au [(ψ a0),(ψ a1)] σ=δ ((l6 [(ψ r.1),(φ r.2)]),σ):=by refine lq (f:=Kj) (y0:=(ψ a0)) (y1:=(ψ a1)) (enc:=λr:(ByteArray×Bool)=>(l6 [(ψ r.1),(φ r.2)])) (T:=yx a0 a1) rfl rfl ?_ r h;unfold Kj yx;refine aK (λr1:(ByteArray×Bool)=>((l6 [(ψ r1.1),(φ r1.2)]),σ)) (λr1 bN=>anm bN) (λr1 bN=>?_);refine aj _ rfl<|aj _ rfl ?_;exact aU _ (bf _ _) ⟨rfl,rfl⟩
def yu (a0:ByteArray) (a1:ByteArray):Option ByteArray:=(Cm a0 a1).bind λr1=>δ r1
theorem al4{a0:ByteArray}{a1:ByteArray}{σ:Heap}{r:ByteArray}(h:yu a0 a1=δ r):Kc [(ψ a0),(ψ a1)] σ=δ ((ψ r),σ):=by refine lq (f:=Ke) (y0:=(ψ a0)) (y1:=(ψ a1)) (enc:=λr:ByteArray=>(ψ r)) (T:=yu a0 a1) rfl rfl ?_ r h;unfold Ke yu;refine aK (λr1:ByteArray=>((ψ r1),σ)) (λr1 bN=>amR bN) (λr1 bN=>?_);exact aU _ (bf _ _) ⟨rfl,rfl⟩
def yE (a0:ByteArray):Option (Int×Int):=
 if a0=(⟨#[111,117,116]⟩:ByteArray)then
  δ (0,0)
 else
 if a0=(⟨#[102,117,108,108]⟩:ByteArray)then
  δ (65535,0)
 else
 (wF a0 (⟨#[35]⟩:ByteArray)).bind λr1=>
 if r1.2=ι then
  (qC r1.1).bind λr2=>
  if((!r2.2)||(!(aT r2.1 0 65535)))=ι then
   δ (0,9)
  else
  δ (r2.1,0)
 else
 (yx a0 (⟨#[37]⟩:ByteArray)).bind λr4=>
 (nP r4.1 2).bind λr5=>
 if(((!r4.2)||(!r5.2))||(decide (10000<r5.1)))=ι then
  δ (0,9)
 else
 (wP (ξ.wrap (r5.1*65535)) 10000).bind λr6=>
 δ (r6,0)
theorem aaZ{a0:ByteArray}{σ:Heap}{r:(Int×Int)}(h:yE a0=δ r):K4 [(ψ a0)] σ=δ ((l6 [(η r.1),(η r.2)]),σ):=by
 refine je (f:=Ld) (y0:=(ψ a0)) (enc:=λr:(Int×Int)=>(l6 [(η r.1),(η r.2)])) (T:=yE a0) rfl rfl ?_ r h;unfold Ld yE;refine aj _ (kW _ _) ?_;refine cP (p:=a0=(⟨#[111,117,116]⟩:ByteArray)) (λdR=>?_) (λdR=>?_)
 ·exact aU _ (bf _ _) ⟨rfl,rfl⟩
 refine aj _ (kW _ _) ?_;refine cP (p:=a0=(⟨#[102,117,108,108]⟩:ByteArray)) (λc9=>?_) (λc9=>?_)
 ·exact aU _ (bf _ _) ⟨rfl,rfl⟩
 refine aK (λr1:(ByteArray×Bool)=>((l6 [(ψ r1.1),(φ r1.2)]),σ)) (λr1 bN=>Rp bN) (λr1 bN=>?_);refine aj _ rfl<|aj _ rfl ?_;refine cA (c:=r1.2) (λc8=>?_) (λc8=>?_)
 ·refine aK (λr2:(Int×Bool)=>((l6 [(η r2.1),(φ r2.2)]),σ)) (λr2 hr2=>AJ hr2) (λr2 hr2=>?_);refine aj _ rfl<|aj _ rfl<|aj _ rfl<|bD (η r2.1) (λhg=>rfl)<|bD (φ (aT r2.1 0 65535)) (λhg=>by(try rw[hg]);exact(jC (an9 r2.1 σ)))<|bD (φ (!(aT r2.1 0 65535))) (λhg=>by(try rw[hg]);exact rfl)<|aj _ (eW _ _) ?_;refine cA (c:=((!r2.2)||(!(aT r2.1 0 65535)))) (λc3=>?_) (λc3=>?_)
  ·exact aU _ (bf _ _) ⟨rfl,rfl⟩
  exact aU _ (bf _ _) ⟨rfl,rfl⟩
 refine aK (λr4:(ByteArray×Bool)=>((l6 [(ψ r4.1),(φ r4.2)]),σ)) (λr4 mD=>aoc mD) (λr4 mD=>?_);refine aj _ rfl<|aj _ rfl ?_;refine aK (λr5:(Int×Bool)=>((l6 [(η r5.1),(φ r5.2)]),σ)) (λr5 sH=>Gt sH) (λr5 sH=>?_);refine aj _ rfl<|aj _ rfl<|aj _ rfl<|bD (φ r5.2) (λhg=>rfl)<|bD (φ (!r5.2)) (λhg=>by(try rw[hg]);exact rfl)<|aj _ (eW _ _)<|bD (η r5.1) (λhg=>rfl)<|bD (φ (decide (10000<r5.1))) (λhg=>by(try rw[hg]);exact rfl)<|aj _ (eW _ _) ?_;refine cA (c:=(((!r4.2)||(!r5.2))||(decide (10000<r5.1)))) (λc7=>?_) (λc7=>?_)
 ·exact aU _ (bf _ _) ⟨rfl,rfl⟩
 refine aj _ rfl ?_;refine aK (λr6:Int=>((η r6),σ)) (λr6 yc=>K3 yc) (λr6 yc=>?_);exact aU _ (bf _ _) ⟨rfl,rfl⟩
def lU (a0:ByteArray):Option (Int×Int):=
 (tq (a0.size<4294967281) (iL a0 (⟨#[58]⟩:ByteArray))).bind λr1=>
 if(!r1.2.2)=ι then
  (nP a0 3).bind λr2=>
  if((!r2.2)||(decide (59999<r2.1)))=ι then
   δ (0,9)
  else
  δ (r2.1,0)
 else
 (tq (r1.1.size<=9223372036854775807/\(4:Int)<=18) (lJ r1.1 4)).bind λr4=>
 (tq (r1.2.1.size<4294967281) (iL r1.2.1 (⟨#[46]⟩:ByteArray))).bind λr5=>
 (if(!(((!r4.2)||(decide (r4.1=0)))||(decide (¬((r5.1.size:Int)=2)))))=ι then tq (r5.1.size<=9223372036854775807) (mo r5.1)else δ default).bind λr6=>
 if((((!r4.2)||(decide (r4.1=0)))||(decide (¬((r5.1.size:Int)=2))))||(!r6))=ι then
  δ (0,9)
 else
 (yu r1.2.1 (⟨#[48]⟩:ByteArray)).bind λr7=>
 (nP r7 3).bind λr8=>
 (show Option (Bool×Int)from
   if r5.1=(⟨#[48,48]⟩:ByteArray)then
    (nJ r1.2.1 (δ 1) μ).bind λx9=>
    (nP x9 3).bind λbG=>
    δ (bG.2,bG.1)
   else
   δ (r8.2,r8.1)).bind λoG=>
 (if((!((!oG.1)||(decide (59999<oG.2))))&&decide (r5.2.1=(⟨#[]⟩:ByteArray)))=ι then tq (r1.2.1.size<4294967281) (Lib.contains (lZ r1.2.1) (lZ (⟨#[46]⟩:ByteArray)))else δ default).bind λiN=>
 if(((!oG.1)||(decide (59999<oG.2)))||((decide (r5.2.1=(⟨#[]⟩:ByteArray)))&&iN))=ι then
  δ (0,9)
 else
 if 36000000<ξ.wrap (oG.2+ξ.wrap (r4.1*60000))then
  δ (0,1)
 else
 δ (ξ.wrap (oG.2+ξ.wrap (r4.1*60000)),0)
theorem wJ{a0:ByteArray}{σ:Heap}{r:(Int×Int)}(h:lU a0=δ r):nO [(ψ a0)] σ=δ ((l6 [(η r.1),(η r.2)]),σ):=by
 refine je (f:=Ky) (y0:=(ψ a0)) (enc:=λr:(Int×Int)=>(l6 [(η r.1),(η r.2)])) (T:=lU a0) rfl rfl ?_ r h;unfold Ky lU;refine aK (λr1:(ByteArray×ByteArray×Bool)=>((l6 [(ψ r1.1),(ψ r1.2.1),(φ r1.2.2)]),σ)) (λr1 bN=>(eT (e:=λr:(ByteArray×ByteArray×Bool)=>((l6 [(ψ r.1),(ψ r.2.1),(φ r.2.2)]),σ)) (λhs=>yQ a0 (⟨#[58]⟩:ByteArray) hs σ)) bN) (λr1 bN=>?_);refine aj _ rfl<|aj _ rfl<|aj _ rfl<|aj _ rfl ?_;refine cA (c:=(!r1.2.2)) (λvF=>?_) (λvF=>?_)
 ·refine aK (λr2:(Int×Bool)=>((l6 [(η r2.1),(φ r2.2)]),σ)) (λr2 hr2=>Gt hr2) (λr2 hr2=>?_);refine aj _ rfl<|aj _ rfl<|aj _ rfl<|bD (η r2.1) (λhg=>rfl)<|bD (φ (decide (59999<r2.1))) (λhg=>by(try rw[hg]);exact rfl)<|aj _ (eW _ _) ?_;refine cA (c:=((!r2.2)||(decide (59999<r2.1)))) (λc3=>?_) (λc3=>?_)
  ·exact aU _ (bf _ _) ⟨rfl,rfl⟩
  exact aU _ (bf _ _) ⟨rfl,rfl⟩
 refine aK (λr4:(Int×Bool)=>((l6 [(η r4.1),(φ r4.2)]),σ)) (λr4 mD=>(eT (e:=λr:(Int×Bool)=>((l6 [(η r.1),(φ r.2)]),σ)) (λhs=>Lw r1.1 4 hs σ)) mD) (λr4 mD=>?_);refine aj _ rfl<|aj _ rfl ?_;refine aK (λr5:(ByteArray×ByteArray×Bool)=>((l6 [(ψ r5.1),(ψ r5.2.1),(φ r5.2.2)]),σ)) (λr5 sH=>(eT (e:=λr:(ByteArray×ByteArray×Bool)=>((l6 [(ψ r.1),(ψ r.2.1),(φ r.2.2)]),σ)) (λhs=>yQ r1.2.1 (⟨#[46]⟩:ByteArray) hs σ)) sH) (λr5 sH=>?_);refine aj _ rfl<|aj _ rfl<|aj _ rfl<|aj _ rfl<|bD (η r4.1) (λhg=>rfl)<|bD (φ (decide (r4.1=0))) (λhg=>by(try rw[hg]);exact(eG _ _ _))<|aj _ (eW _ _)<|bD (ψ r5.1) (λhg=>rfl)<|bD (η (r5.1.size:Int)) (λhg=>by(try rw[hg]);exact rfl)<|bD (φ (decide (¬((r5.1.size:Int)=2)))) (λhg=>by(try rw[hg]);exact(fC _ _ _))<|aj _ (eW _ _)<|bD (ψ r5.1) (λhg=>rfl) ?_
 refine Iz (ω:=Bool) (λr6=>(φ r6)) (λhg r6 yc=>by(try rw[hg]);exact(jC ((eT (e:=λr:Bool=>((φ r),σ)) (λhs=>L7 r5.1 hs σ)) yc))) (λr6 yc=>?_);refine bD (φ (!r6)) (λhg=>by(try rw[hg]);exact rfl)<|aj _ (eW _ _) ?_;refine cA (c:=((((!r4.2)||(decide (r4.1=0)))||(decide (¬((r5.1.size:Int)=2))))||(!r6))) (λjo=>?_) (λjo=>?_)
 ·exact aU _ (bf _ _) ⟨rfl,rfl⟩
 refine aK (λr7:ByteArray=>((ψ r7),σ)) (λr7 FG=>al4 FG) (λr7 FG=>?_);refine aK (λr8:(Int×Bool)=>((l6 [(η r8.1),(φ r8.2)]),σ)) (λr8 YV=>Gt YV) (λr8 YV=>?_);refine aj _ rfl<|aj _ rfl<|aj _ (kW _ _) ?_
 refine nj (ω:=(Bool×Int)) (λoG a=>a=(([(φ oG.1),(η oG.2)]:ay),σ)) (
   by
    refine cP (p:=r5.1=(⟨#[48,48]⟩:ByteArray)) (λmC=>?_) (λmC=>?_)
    ·refine aK (λx9:ByteArray=>(ψ x9)) (λx9 kL=>(uU kL)) (λx9 kL=>?_);refine aK (λbG:(Int×Bool)=>((l6 [(η bG.1),(φ bG.2)]),σ)) (λbG oR=>Gt oR) (λbG oR=>?_);refine aj _ rfl<|aj _ rfl ?_;exact bu rfl
    exact bu rfl
   ) (λoG a ha=>?_)
 subst ha;refine aj _ rfl<|bD (η oG.2) (λhg=>rfl)<|bD (φ (decide (59999<oG.2))) (λhg=>by(try rw[hg]);exact rfl)<|aj _ (eW _ _)<|bD (ψ r5.2.1) (λhg=>rfl)<|bD (φ (decide (r5.2.1=(⟨#[]⟩:ByteArray)))) (λhg=>by(try rw[hg]);exact(kW _ _))<|bD (φ (decide (r5.2.1=(⟨#[]⟩:ByteArray)))) (λhg=>by(try rw[hg]);exact rfl)<|iy (ψ r1.2.1) (λhg=>rfl) ?_
 refine M6 (ω:=Bool) (λiN=>(φ iN)) (λhg iN XE=>by(try rw[hg]);exact(jC ((eT (e:=λr:Bool=>((φ r),σ)) (λhs=>abn r1.2.1 (⟨#[46]⟩:ByteArray) hs σ)) XE))) (λiN XE=>?_);refine bD (φ ((decide (r5.2.1=(⟨#[]⟩:ByteArray)))&&iN)) (λhg=>by(try rw[hg]);exact(eY _ _))<|aj _ (eW _ _) ?_;refine cA (c:=(((!oG.1)||(decide (59999<oG.2)))||((decide (r5.2.1=(⟨#[]⟩:ByteArray)))&&iN))) (λiE=>?_) (λiE=>?_)
 ·exact aU _ (bf _ _) ⟨rfl,rfl⟩
 refine aj _ rfl<|aj _ rfl<|aj _ rfl ?_;refine cP (p:=36000000<ξ.wrap (oG.2+ξ.wrap (r4.1*60000))) (λjm=>?_) (λjm=>?_)
 ·exact aU _ (bf _ _) ⟨rfl,rfl⟩
 exact aU _ (bf _ _) ⟨rfl,rfl⟩
def yG (a0:ByteArray) (a1:ByteArray):Option (Int×Int×Bool):=(tq (a0.size<4294967281) (iL a0 a1)).bind λr1=>(qC r1.1).bind λr2=>(qC r1.2.1).bind λr3=>δ (r2.1,r3.1,((r1.2.2&&r2.2)&&r3.2))
theorem Sn{a0:ByteArray}{a1:ByteArray}{σ:Heap}{r:(Int×Int×Bool)}(h:yG a0 a1=δ r):Lz [(ψ a0),(ψ a1)] σ=δ ((l6 [(η r.1),(η r.2.1),(φ r.2.2)]),σ):=by refine lq (f:=LL) (y0:=(ψ a0)) (y1:=(ψ a1)) (enc:=λr:(Int×Int×Bool)=>(l6 [(η r.1),(η r.2.1),(φ r.2.2)])) (T:=yG a0 a1) rfl rfl ?_ r h;unfold LL yG;refine aK (λr1:(ByteArray×ByteArray×Bool)=>((l6 [(ψ r1.1),(ψ r1.2.1),(φ r1.2.2)]),σ)) (λr1 bN=>(eT (e:=λr:(ByteArray×ByteArray×Bool)=>((l6 [(ψ r.1),(ψ r.2.1),(φ r.2.2)]),σ)) (λhs=>yQ a0 a1 hs σ)) bN) (λr1 bN=>?_);refine aj _ rfl<|aj _ rfl<|aj _ rfl ?_;refine aK (λr2:(Int×Bool)=>((l6 [(η r2.1),(φ r2.2)]),σ)) (λr2 hr2=>AJ hr2) (λr2 hr2=>?_);refine aj _ rfl<|aj _ rfl ?_;refine aK (λr3:(Int×Bool)=>((l6 [(η r3.1),(φ r3.2)]),σ)) (λr3 iG=>AJ iG) (λr3 iG=>?_);refine aj _ rfl<|aj _ rfl<|bz (φ r2.2) (λhg=>rfl)<|aj _ (eY _ _)<|bz (φ r3.2) (λhg=>rfl)<|aj _ (eY _ _) ?_;exact aU _ (bf _ _) ⟨rfl,rfl⟩
def yz (a0:ByteArray):Option (Int×Bool):=
 (tq (a0.size<4294967281) (iL a0 (⟨#[46]⟩:ByteArray))).bind λr1=>
 (tq (r1.1.size<=9223372036854775807/\(7:Int)<=18) (lJ r1.1 7)).bind λr2=>
 (if((!(!r2.2))&&r1.2.2)=ι then tq (r1.2.1.size<=9223372036854775807) (mo r1.2.1)else δ default).bind λr3=>
 (if(((!(!r2.2))&&r1.2.2)&&(!((!r3)||(decide (3<(r1.2.1.size:Int))))))=ι then sN r1.2.1 (ξ.wrap ((r1.2.1.size:Int) -1))else δ 0).bind λx4=>
 if((!r2.2)||(r1.2.2&&(((!r3)||(decide (3<(r1.2.1.size:Int))))||(decide (x4=48)))))=ι then
  δ (0,ε)
 else
 qy (λ(s5:(Int×Int))=>(show Option (Lr (Int×Int) Int Unit)from
   if s5.2<3 then
    (show Option Int from
      if s5.2<(r1.2.1.size:Int)then
       (sN r1.2.1 s5.2).bind λbB=>
       δ (ξ.wrap (ξ.wrap (s5.1*10)+ξ.wrap (apL.wrap (bB-48))))
      else
      δ (ξ.wrap (s5.1*10))).bind λlP=>
    δ (.go (lP,ξ.wrap (s5.2+1)))
   else
   δ (.lK s5.1))) (r2.1,0) (λb6=>
  δ (b6,ι)) (λb6=>
  μ)
theorem am0{a0:ByteArray}{σ:Heap}{r:(Int×Bool)}(h:yz a0=δ r):Az [(ψ a0)] σ=δ ((l6 [(η r.1),(φ r.2)]),σ):=by
 refine je (f:=Kv) (y0:=(ψ a0)) (enc:=λr:(Int×Bool)=>(l6 [(η r.1),(φ r.2)])) (T:=yz a0) rfl rfl ?_ r h;unfold Kv yz;refine aK (λr1:(ByteArray×ByteArray×Bool)=>((l6 [(ψ r1.1),(ψ r1.2.1),(φ r1.2.2)]),σ)) (λr1 bN=>(eT (e:=λr:(ByteArray×ByteArray×Bool)=>((l6 [(ψ r.1),(ψ r.2.1),(φ r.2.2)]),σ)) (λhs=>yQ a0 (⟨#[46]⟩:ByteArray) hs σ)) bN) (λr1 bN=>?_);refine aj _ rfl<|aj _ rfl<|aj _ rfl ?_;refine aK (λr2:(Int×Bool)=>((l6 [(η r2.1),(φ r2.2)]),σ)) (λr2 hr2=>(eT (e:=λr:(Int×Bool)=>((l6 [(η r.1),(φ r.2)]),σ)) (λhs=>Lw r1.1 7 hs σ)) hr2) (λr2 hr2=>?_);refine aj _ rfl<|aj _ rfl<|aj _ rfl<|bD (φ r1.2.2) (λhg=>rfl)<|bD (φ r1.2.2) (λhg=>by(try rw[hg]);exact rfl)<|iy (ψ r1.2.1) (λhg=>rfl) ?_
 refine M6 (ω:=Bool) (λr3=>(φ r3)) (λhg r3 iG=>by(try rw[hg]);exact(jC ((eT (e:=λr:Bool=>((φ r),σ)) (λhs=>L7 r1.2.1 hs σ)) iG))) (λr3 iG=>?_);refine iy (φ (!r3)) (λhg=>by(try rw[hg]);exact rfl)<|iy (φ (!r3)) (λhg=>by(try rw[hg]);exact rfl)<|kR (ψ r1.2.1) (λhg=>rfl)<|kR (η (r1.2.1.size:Int)) (λhg=>by(try rw[hg]);exact rfl)<|kR (φ (decide (3<(r1.2.1.size:Int)))) (λhg=>by(try rw[hg]);exact rfl)<|iy (φ ((!r3)||(decide (3<(r1.2.1.size:Int))))) (λhg=>by(try rw[hg]);exact(eW _ _))<|iy (φ ((!r3)||(decide (3<(r1.2.1.size:Int))))) (λhg=>by(try rw[hg]);exact rfl)<|kR (ψ r1.2.1) (λhg=>rfl)<|kR (ψ r1.2.1) (λhg=>rfl)<|kR (η (r1.2.1.size:Int)) (λhg=>by(try rw[hg]);exact rfl)<|kR (η (ξ.wrap ((r1.2.1.size:Int) -1))) (λhg=>by(try rw[hg]);exact rfl) ?_;refine Vu (ω:=Int) (λx4=>(Ru .u8 x4)) (λhg x4 oX=>by(try rw[hg]);exact Dv oX) (λx4 oX=>?_);refine kR (φ (decide (x4=48))) (λhg=>by(try rw[hg]);exact(Nd _ _))<|iy (φ (((!r3)||(decide (3<(r1.2.1.size:Int))))||(decide (x4=48)))) (λhg=>by(try rw[hg]);exact(eW _ _))<|bD (φ (r1.2.2&&(((!r3)||(decide (3<(r1.2.1.size:Int))))||(decide (x4=48))))) (λhg=>by(try rw[hg]);exact(eY _ _))<|aj _ (eW _ _) ?_;refine cA (c:=((!r2.2)||(r1.2.2&&(((!r3)||(decide (3<(r1.2.1.size:Int))))||(decide (x4=48)))))) (λiE=>?_) (λiE=>?_)
 ·exact aU _ (bf _ _) ⟨rfl,rfl⟩
 refine NN (B:=Int) (R:=Unit) (λ(s5:(Int×Int))v w7=>v=[(η s5.1),(η s5.2)]/\σ=w7) (λ(b6:Int)(q:LS)=>∃Zb,q=((i6 0),([(η b6),Zb]:ay),σ)) (λ(b6:Unit)(q:LS)=>False) ?_ ⟨rfl,rfl⟩ ?_ ?_
 ·intro s5 v w7 hI;obtain⟨rfl,rfl⟩:=hI;refine aj _ rfl ?_;refine cP (p:=s5.2<3) (λjm=>?_) (λjm=>?_)
  ·refine aj _ rfl<|aj _ rfl<|aj _ rfl ?_
   refine nj (ω:=Int) (λlP a=>a=(([(η lP)]:ay),σ)) (
     by
      refine cP (p:=s5.2<(r1.2.1.size:Int)) (λeu=>?_) (λeu=>?_)
      ·refine aK (λbB:Int=>(Ru .u8 bB)) (λbB mz=>Dv mz) (λbB mz=>?_);refine aj _ rfl<|aj _ rfl<|aj _ rfl ?_;exact bu rfl
      exact bu rfl
     ) (λlP a ha=>?_)
   subst ha;refine aj _ rfl ?_;exact bu (jF ⟨rfl,rfl⟩)
  exact bu (Ij (by simp) ⟨_,rfl⟩)
 ·intro b6 q hq;obtain⟨Zb,rfl⟩:=hq;refine fD rfl ?_;exact aU _ (bf _ _) ⟨rfl,rfl⟩
 ·intro b6 q hq;exact aoN hq
def yI (a0:ByteArray):Option Bool:=
 qy (λ(s1:Int)=>(show Option (Lr Int Unit Unit)from
   if s1<(a0.size:Int)then
    (sN a0 s1).bind λx7=>
    if(!((((decide (97<=x7))&&(decide (x7<=122)))||((decide (48<=x7))&&(decide (x7<=57))))||(decide (x7=45))))=ι then
     δ (.ret ())
    else
    δ (.go (ξ.wrap (s1+1)))
   else
   δ (.lK ()))) 0 (λb2=>
  δ (decide (¬(a0=(⟨#[]⟩:ByteArray))))) (λb2=>
  δ ε)
theorem ace{a0:ByteArray}{σ:Heap}{r:Bool}(h:yI a0=δ r):CK [(ψ a0)] σ=δ ((φ r),σ):=by
 refine je (f:=CL) (y0:=(ψ a0)) (enc:=λr:Bool=>(φ r)) (T:=yI a0) rfl rfl ?_ r h;unfold CL yI;refine aj _ rfl ?_;refine NN (B:=Unit) (R:=Unit) (λ(s1:Int)v w3=>v=[aC,(η s1)]/\σ=w3) (λ(b2:Unit)(q:LS)=>∃u2 u7,q=((i6 0),([u2,u7]:ay),σ)) (λ(b2:Unit)(q:LS)=>∃u7,q=(l8,([aC,u7]:ay),σ)) ?_ ⟨rfl,rfl⟩ ?_ ?_
 ·intro s1 v w3 hI;obtain⟨rfl,rfl⟩:=hI;refine aj _ rfl ?_;refine cP (p:=s1<(a0.size:Int)) (λc9=>?_) (λc9=>?_)
  ·refine aK (λx7:Int=>(Ru .u8 x7)) (λx7 yg=>Dv yg) (λx7 yg=>?_);refine aj _ rfl<|bz (Ru .u8 x7) (λhg=>rfl)<|bz (φ (decide (x7<=122))) (λhg=>by(try rw[hg]);exact rfl)<|aj _ (eY _ _)<|bD (Ru .u8 x7) (λhg=>rfl)<|bD (φ (decide (48<=x7))) (λhg=>by(try rw[hg]);exact rfl)<|bD (φ (decide (48<=x7))) (λhg=>by(try rw[hg]);exact rfl)<|iy (Ru .u8 x7) (λhg=>rfl)<|iy (φ (decide (x7<=57))) (λhg=>by(try rw[hg]);exact rfl)<|bD (φ ((decide (48<=x7))&&(decide (x7<=57)))) (λhg=>by(try rw[hg]);exact(eY _ _))<|aj _ (eW _ _)<|bD (Ru .u8 x7) (λhg=>rfl)<|bD (φ (decide (x7=45))) (λhg=>by(try rw[hg]);exact(Nd _ _))<|aj _ (eW _ _)<|aj _ rfl ?_;refine cA (c:=(!((((decide (97<=x7))&&(decide (x7<=122)))||((decide (48<=x7))&&(decide (x7<=57))))||(decide (x7=45))))) (λc8=>?_) (λc8=>?_)
   ·exact bu (fR (by simp) ⟨_,rfl⟩)
   refine aj _ rfl ?_;exact bu (jF ⟨rfl,rfl⟩)
  exact bu (Ij (by simp) ⟨_,_,rfl⟩)
 ·intro b2 q hq;obtain⟨u2,u7,rfl⟩:=hq;refine fD rfl<|aj _ (pX _ _) ?_;exact aU _ (bf _ _) ⟨rfl,rfl⟩
 ·intro b2 q hq;obtain⟨u7,rfl⟩:=hq;refine oo rfl<|fD rfl ?_;exact aU _ (bf _ _) ⟨rfl,rfl⟩
def AT (a0:ByteArray):Option ((List ByteArray)×Bool):=
 if a0=(⟨#[]⟩:ByteArray)then
  δ ([],ι)
 else
 (tq (a0.size<4294967281/\1<=(⟨#[10]⟩:ByteArray).size) (mS a0 (⟨#[10]⟩:ByteArray))).bind λr1=>
 (cJ r1 (ξ.wrap ((r1.length:Int) -1))).bind λx2=>
 if x2=(⟨#[]⟩:ByteArray)then
  (ju r1 μ (δ (ξ.wrap ((r1.length:Int) -1)))).bind λx3=>
  δ (x3,ι)
 else
 δ (r1,ε)
theorem aa3{a0:ByteArray}{σ:Heap}{r:((List ByteArray)×Bool)}(h:AT a0=δ r):K9 [(ψ a0)] σ=δ ((l6 [(sl 1 cO r.1),(φ r.2)]),σ):=by
 refine je (f:=Lj) (y0:=(ψ a0)) (enc:=λr:((List ByteArray)×Bool)=>(l6 [(sl 1 cO r.1),(φ r.2)])) (T:=AT a0) rfl rfl ?_ r h;unfold Lj AT;refine aj _ (kW _ _) ?_;refine cP (p:=a0=(⟨#[]⟩:ByteArray)) (λc5=>?_) (λc5=>?_)
 ·exact aU _ (bf _ _) ⟨(I3 (fB (by first|rfl|exact afz _ _) (fB rfl rP))),rfl⟩
 refine aK (λr1:(List ByteArray)=>((sl 1 cO r1),σ)) (λr1 bN=>(eT (e:=λr:(List ByteArray)=>((sl 1 cO r),σ)) (λhs=>He a0 (⟨#[10]⟩:ByteArray) hs σ)) bN) (λr1 bN=>?_);refine aj _ (dc _ _ _)<|aj _ rfl ?_;refine aK (λx2:ByteArray=>(T3 [(ψ x2)])) (λx2 hx2=>fP hx2) (λx2 hx2=>?_);refine aj _ rfl<|aj _ (kW _ _) ?_;refine cP (p:=x2=(⟨#[]⟩:ByteArray)) (λc4=>?_) (λc4=>?_)
 ·refine aj _ (dc _ _ _)<|aj _ rfl ?_;refine aK (λx3:(List ByteArray)=>(sl 1 cO x3)) (λx3 hx3=>(rJ hx3)) (λx3 hx3=>?_);exact aU _ (bf _ _) ⟨(I3 (fB rfl (fB rfl rP))),rfl⟩
 exact aU _ (bf _ _) ⟨(I3 (fB rfl (fB rfl rP))),rfl⟩
def wK (a0:ByteArray):Option (aJ×Bool):=
 (tq (a0.size<4294967281/\1<=(⟨#[32]⟩:ByteArray).size) (mS a0 (⟨#[32]⟩:ByteArray))).bind λr1=>
 (cJ r1 0).bind λx2=>
 (tq (x2.size<4294967281) (iL x2 (⟨#[46]⟩:ByteArray))).bind λr3=>
 (qC r3.1).bind λr4=>
 (if(!((!r3.2.2)||(!r4.2)))=ι then yI r3.2.1 else δ default).bind λr5=>
 if((((!r3.2.2)||(!r4.2))||(!r5))||(decide ((r1.length:Int)<2)))=ι then
  δ ((⟨(⟨0,(⟨#[]⟩:ByteArray)⟩:au),(⟨0,0⟩:aO),ε,ε,0,0⟩:aJ),ε)
 else
 (cJ r1 1).bind λx6=>
 if x6=(⟨#[114,101,108,101,97,115,101]⟩:ByteArray)then
  (ju r1 (δ 2) μ).bind λx7=>
  if(x7.length:Int)=0 then
   δ ({(⟨(⟨(⟨r4.1,r3.2.1⟩:au).unit,(⟨r4.1,r3.2.1⟩:au).param⟩:au),(⟨0,0⟩:aO),ε,ε,0,0⟩:aJ)with release:=ι},ι)
  else
  (cJ x7 0).bind λx8=>
  if((decide (¬(x8=(⟨#[105,110]⟩:ByteArray))))||((decide (¬((x7.length:Int)=2)))&&(decide (¬((x7.length:Int)=4)))))=ι then
   δ ((⟨(⟨0,(⟨#[]⟩:ByteArray)⟩:au),(⟨0,0⟩:aO),ε,ε,0,0⟩:aJ),ε)
  else
  (cJ x7 1).bind λx9=>
  (lU x9).bind λbG=>
  if((decide (bG.2=0))&&(decide ((x7.length:Int)=4)))=ι then
   (cJ x7 3).bind λbB=>
   (lU bB).bind λfG=>
   (cJ x7 2).bind λbU=>
   if((decide (¬(bU=(⟨#[97,102,116,101,114]⟩:ByteArray))))||(decide (({{{{(⟨(⟨(⟨r4.1,r3.2.1⟩:au).unit,(⟨r4.1,r3.2.1⟩:au).param⟩:au),(⟨0,0⟩:aO),ε,ε,0,0⟩:aJ)with release:=ι}with cG:=ι}with time:=bG.1}with br:=fG.1}).br=0)))=ι then
    δ ((⟨(⟨0,(⟨#[]⟩:ByteArray)⟩:au),(⟨0,0⟩:aO),ε,ε,0,0⟩:aJ),ε)
   else
   δ ({{{{(⟨(⟨(⟨r4.1,r3.2.1⟩:au).unit,(⟨r4.1,r3.2.1⟩:au).param⟩:au),(⟨0,0⟩:aO),ε,ε,0,0⟩:aJ)with release:=ι}with cG:=ι}with time:=bG.1}with br:=fG.1},decide (fG.2=0))
  else
  δ ({{{(⟨(⟨(⟨r4.1,r3.2.1⟩:au).unit,(⟨r4.1,r3.2.1⟩:au).param⟩:au),(⟨0,0⟩:aO),ε,ε,0,0⟩:aJ)with release:=ι}with cG:=ι}with time:=bG.1},decide (bG.2=0))
 else
 (cJ r1 1).bind λcU=>
 if((decide (cU=(⟨#[112,114,101,115,101,116]⟩:ByteArray)))&&(decide (2<(r1.length:Int))))=ι then
  (cJ r1 2).bind λcE=>
  (qC cE).bind λcY=>
  if((!cY.2)||(decide (cY.1=0)))=ι then
   δ ((⟨(⟨0,(⟨#[]⟩:ByteArray)⟩:au),(⟨0,0⟩:aO),ε,ε,0,0⟩:aJ),ε)
  else
  (ju r1 (δ 3) μ).bind λbK=>
  if(bK.length:Int)=0 then
   δ ({(⟨(⟨(⟨r4.1,r3.2.1⟩:au).unit,(⟨r4.1,r3.2.1⟩:au).param⟩:au),(⟨0,0⟩:aO),ε,ε,0,0⟩:aJ)with value:={(⟨(⟨(⟨r4.1,r3.2.1⟩:au).unit,(⟨r4.1,r3.2.1⟩:au).param⟩:au),(⟨0,0⟩:aO),ε,ε,0,0⟩:aJ).value with bW:=cY.1}},ι)
  else
  (cJ bK 0).bind λbV=>
  if((decide (¬(bV=(⟨#[105,110]⟩:ByteArray))))||((decide (¬((bK.length:Int)=2)))&&(decide (¬((bK.length:Int)=4)))))=ι then
   δ ((⟨(⟨0,(⟨#[]⟩:ByteArray)⟩:au),(⟨0,0⟩:aO),ε,ε,0,0⟩:aJ),ε)
  else
  (cJ bK 1).bind λcQ=>
  (lU cQ).bind λgE=>
  if((decide (gE.2=0))&&(decide ((bK.length:Int)=4)))=ι then
   (cJ bK 3).bind λdQ=>
   (lU dQ).bind λgR=>
   (cJ bK 2).bind λcZ=>
   if((decide (¬(cZ=(⟨#[97,102,116,101,114]⟩:ByteArray))))||(decide (({{{{(⟨(⟨(⟨r4.1,r3.2.1⟩:au).unit,(⟨r4.1,r3.2.1⟩:au).param⟩:au),(⟨0,0⟩:aO),ε,ε,0,0⟩:aJ)with value:={(⟨(⟨(⟨r4.1,r3.2.1⟩:au).unit,(⟨r4.1,r3.2.1⟩:au).param⟩:au),(⟨0,0⟩:aO),ε,ε,0,0⟩:aJ).value with bW:=cY.1}}with cG:=ι}with time:=gE.1}with br:=gR.1}).br=0)))=ι then
    δ ((⟨(⟨0,(⟨#[]⟩:ByteArray)⟩:au),(⟨0,0⟩:aO),ε,ε,0,0⟩:aJ),ε)
   else
   δ ({{{{(⟨(⟨(⟨r4.1,r3.2.1⟩:au).unit,(⟨r4.1,r3.2.1⟩:au).param⟩:au),(⟨0,0⟩:aO),ε,ε,0,0⟩:aJ)with value:={(⟨(⟨(⟨r4.1,r3.2.1⟩:au).unit,(⟨r4.1,r3.2.1⟩:au).param⟩:au),(⟨0,0⟩:aO),ε,ε,0,0⟩:aJ).value with bW:=cY.1}}with cG:=ι}with time:=gE.1}with br:=gR.1},decide (gR.2=0))
  else
  δ ({{{(⟨(⟨(⟨r4.1,r3.2.1⟩:au).unit,(⟨r4.1,r3.2.1⟩:au).param⟩:au),(⟨0,0⟩:aO),ε,ε,0,0⟩:aJ)with value:={(⟨(⟨(⟨r4.1,r3.2.1⟩:au).unit,(⟨r4.1,r3.2.1⟩:au).param⟩:au),(⟨0,0⟩:aO),ε,ε,0,0⟩:aJ).value with bW:=cY.1}}with cG:=ι}with time:=gE.1},decide (gE.2=0))
 else
 (cJ r1 1).bind λeL=>
 (yE eL).bind λdP=>
 if ¬(dP.2=0)then
  δ ((⟨(⟨0,(⟨#[]⟩:ByteArray)⟩:au),(⟨0,0⟩:aO),ε,ε,0,0⟩:aJ),ε)
 else
 (ju r1 (δ 2) μ).bind λcI=>
 if(cI.length:Int)=0 then
  δ ({(⟨(⟨(⟨r4.1,r3.2.1⟩:au).unit,(⟨r4.1,r3.2.1⟩:au).param⟩:au),(⟨0,0⟩:aO),ε,ε,0,0⟩:aJ)with value:={(⟨(⟨(⟨r4.1,r3.2.1⟩:au).unit,(⟨r4.1,r3.2.1⟩:au).param⟩:au),(⟨0,0⟩:aO),ε,ε,0,0⟩:aJ).value with level:=dP.1}},ι)
 else
 (cJ cI 0).bind λgB=>
 if((decide (¬(gB=(⟨#[105,110]⟩:ByteArray))))||((decide (¬((cI.length:Int)=2)))&&(decide (¬((cI.length:Int)=4)))))=ι then
  δ ((⟨(⟨0,(⟨#[]⟩:ByteArray)⟩:au),(⟨0,0⟩:aO),ε,ε,0,0⟩:aJ),ε)
 else
 (cJ cI 1).bind λdU=>
 (lU dU).bind λiH=>
 if((decide (iH.2=0))&&(decide ((cI.length:Int)=4)))=ι then
  (cJ cI 3).bind λey=>
  (lU ey).bind λiX=>
  (cJ cI 2).bind λfu=>
  if((decide (¬(fu=(⟨#[97,102,116,101,114]⟩:ByteArray))))||(decide (({{{{(⟨(⟨(⟨r4.1,r3.2.1⟩:au).unit,(⟨r4.1,r3.2.1⟩:au).param⟩:au),(⟨0,0⟩:aO),ε,ε,0,0⟩:aJ)with value:={(⟨(⟨(⟨r4.1,r3.2.1⟩:au).unit,(⟨r4.1,r3.2.1⟩:au).param⟩:au),(⟨0,0⟩:aO),ε,ε,0,0⟩:aJ).value with level:=dP.1}}with cG:=ι}with time:=iH.1}with br:=iX.1}).br=0)))=ι then
   δ ((⟨(⟨0,(⟨#[]⟩:ByteArray)⟩:au),(⟨0,0⟩:aO),ε,ε,0,0⟩:aJ),ε)
  else
  δ ({{{{(⟨(⟨(⟨r4.1,r3.2.1⟩:au).unit,(⟨r4.1,r3.2.1⟩:au).param⟩:au),(⟨0,0⟩:aO),ε,ε,0,0⟩:aJ)with value:={(⟨(⟨(⟨r4.1,r3.2.1⟩:au).unit,(⟨r4.1,r3.2.1⟩:au).param⟩:au),(⟨0,0⟩:aO),ε,ε,0,0⟩:aJ).value with level:=dP.1}}with cG:=ι}with time:=iH.1}with br:=iX.1},decide (iX.2=0))
 else
 δ ({{{(⟨(⟨(⟨r4.1,r3.2.1⟩:au).unit,(⟨r4.1,r3.2.1⟩:au).param⟩:au),(⟨0,0⟩:aO),ε,ε,0,0⟩:aJ)with value:={(⟨(⟨(⟨r4.1,r3.2.1⟩:au).unit,(⟨r4.1,r3.2.1⟩:au).param⟩:au),(⟨0,0⟩:aO),ε,ε,0,0⟩:aJ).value with level:=dP.1}}with cG:=ι}with time:=iH.1},decide (iH.2=0))
theorem amU{a0:ByteArray}{σ:Heap}{r:(aJ×Bool)}(h:wK a0=δ r):KF [(ψ a0)] σ=δ ((l6 [(l7 (aW r.1)),(φ r.2)]),σ):=by
 refine je (f:=KI) (y0:=(ψ a0)) (enc:=λr:(aJ×Bool)=>(l6 [(l7 (aW r.1)),(φ r.2)])) (T:=wK a0) rfl rfl ?_ r h;unfold KI wK;refine aK (λr1:(List ByteArray)=>((sl 1 cO r1),σ)) (λr1 bN=>(eT (e:=λr:(List ByteArray)=>((sl 1 cO r),σ)) (λhs=>He a0 (⟨#[32]⟩:ByteArray) hs σ)) bN) (λr1 bN=>?_);refine aK (λx2:ByteArray=>(T3 [(ψ x2)])) (λx2 hx2=>fP hx2) (λx2 hx2=>?_);refine aj _ rfl ?_;refine aK (λr3:(ByteArray×ByteArray×Bool)=>((l6 [(ψ r3.1),(ψ r3.2.1),(φ r3.2.2)]),σ)) (λr3 iG=>(eT (e:=λr:(ByteArray×ByteArray×Bool)=>((l6 [(ψ r.1),(ψ r.2.1),(φ r.2.2)]),σ)) (λhs=>yQ x2 (⟨#[46]⟩:ByteArray) hs σ)) iG) (λr3 iG=>?_);refine aj _ rfl<|aj _ rfl<|aj _ rfl ?_;refine aK (λr4:(Int×Bool)=>((l6 [(η r4.1),(φ r4.2)]),σ)) (λr4 mD=>AJ mD) (λr4 mD=>?_);refine aj _ rfl<|aj _ rfl<|aj _ rfl<|bD (φ r4.2) (λhg=>rfl)<|bD (φ (!r4.2)) (λhg=>by(try rw[hg]);exact rfl)<|aj _ (eW _ _)<|bD (ψ r3.2.1) (λhg=>rfl) ?_;refine Iz (ω:=Bool) (λr5=>(φ r5)) (λhg r5 sH=>by(try rw[hg]);exact(jC (ace sH))) (λr5 sH=>?_);refine bD (φ (!r5)) (λhg=>by(try rw[hg]);exact rfl)<|aj _ (eW _ _)<|bD (sl 1 cO r1) (λhg=>rfl)<|bD (η (r1.length:Int)) (λhg=>by(try rw[hg]);exact(dc _ _ _))<|bD (φ (decide ((r1.length:Int)<2))) (λhg=>by(try rw[hg]);exact rfl)<|aj _ (eW _ _) ?_;refine cA (c:=((((!r3.2.2)||(!r4.2))||(!r5))||(decide ((r1.length:Int)<2)))) (λE4=>?_) (λE4=>?_)
 ·refine aj (aW (⟨(⟨0,(⟨#[]⟩:ByteArray)⟩:au),(⟨0,0⟩:aO),ε,ε,0,0⟩:aJ)) rfl<|aj _ (jY _ _ rfl)<|aj (l7 (aW (⟨(⟨0,(⟨#[]⟩:ByteArray)⟩:au),(⟨0,0⟩:aO),ε,ε,0,0⟩:aJ))) rfl ?_;exact aU _ (bf _ _) ⟨rfl,rfl⟩
 refine aj (l7 (cB (⟨r4.1,r3.2.1⟩:au))) rfl<|aj (l7 (aW (⟨(⟨(⟨r4.1,r3.2.1⟩:au).unit,(⟨r4.1,r3.2.1⟩:au).param⟩:au),(⟨0,0⟩:aO),ε,ε,0,0⟩:aJ))) rfl<|aj (aW (⟨(⟨(⟨r4.1,r3.2.1⟩:au).unit,(⟨r4.1,r3.2.1⟩:au).param⟩:au),(⟨0,0⟩:aO),ε,ε,0,0⟩:aJ)) rfl<|aj _ (jY _ _ rfl) ?_;refine aK (λx6:ByteArray=>(T3 [(ψ x6)])) (λx6 sJ=>fP sJ) (λx6 sJ=>?_);refine aj _ rfl<|aj _ (kW _ _) ?_;refine cP (p:=x6=(⟨#[114,101,108,101,97,115,101]⟩:ByteArray)) (λvK=>?_) (λvK=>?_)
 ·refine aj [bH] rfl<|aj (aW ({(⟨(⟨(⟨r4.1,r3.2.1⟩:au).unit,(⟨r4.1,r3.2.1⟩:au).param⟩:au),(⟨0,0⟩:aO),ε,ε,0,0⟩:aJ)with release:=ι})) rfl ?_;refine aK (λx7:(List ByteArray)=>(sl 1 cO x7)) (λx7 yg=>(rJ yg)) (λx7 yg=>?_);refine aj _ (dc _ _ _)<|aj _ (eG _ _ _) ?_;refine cP (p:=(x7.length:Int)=0) (λiE=>?_) (λiE=>?_)
  ·refine aj (l7 (aW ({(⟨(⟨(⟨r4.1,r3.2.1⟩:au).unit,(⟨r4.1,r3.2.1⟩:au).param⟩:au),(⟨0,0⟩:aO),ε,ε,0,0⟩:aJ)with release:=ι}))) rfl<|aj (aW ({(⟨(⟨(⟨r4.1,r3.2.1⟩:au).unit,(⟨r4.1,r3.2.1⟩:au).param⟩:au),(⟨0,0⟩:aO),ε,ε,0,0⟩:aJ)with release:=ι})) rfl<|aj _ (jY _ _ rfl)<|aj (l7 (aW ({(⟨(⟨(⟨r4.1,r3.2.1⟩:au).unit,(⟨r4.1,r3.2.1⟩:au).param⟩:au),(⟨0,0⟩:aO),ε,ε,0,0⟩:aJ)with release:=ι}))) rfl ?_;exact aU _ (bf _ _) ⟨rfl,rfl⟩
  refine aK (λx8:ByteArray=>(T3 [(ψ x8)])) (λx8 yh=>fP yh) (λx8 yh=>?_);refine aj _ rfl<|aj _ (pX _ _)<|bD (sl 1 cO x7) (λhg=>rfl)<|bD (η (x7.length:Int)) (λhg=>by(try rw[hg]);exact(dc _ _ _))<|bD (φ (decide (¬((x7.length:Int)=2)))) (λhg=>by(try rw[hg]);exact(fC _ _ _))<|bD (φ (decide (¬((x7.length:Int)=2)))) (λhg=>by(try rw[hg]);exact rfl)<|iy (sl 1 cO x7) (λhg=>rfl)<|iy (η (x7.length:Int)) (λhg=>by(try rw[hg]);exact(dc _ _ _))<|iy (φ (decide (¬((x7.length:Int)=4)))) (λhg=>by(try rw[hg]);exact(fC _ _ _))<|bD (φ ((decide (¬((x7.length:Int)=2)))&&(decide (¬((x7.length:Int)=4))))) (λhg=>by(try rw[hg]);exact(eY _ _))<|aj _ (eW _ _) ?_;refine cA (c:=((decide (¬(x8=(⟨#[105,110]⟩:ByteArray))))||((decide (¬((x7.length:Int)=2)))&&(decide (¬((x7.length:Int)=4)))))) (λjm=>?_) (λjm=>?_)
  ·refine aj (aW (⟨(⟨0,(⟨#[]⟩:ByteArray)⟩:au),(⟨0,0⟩:aO),ε,ε,0,0⟩:aJ)) rfl<|aj _ (jY _ _ rfl)<|aj (l7 (aW (⟨(⟨0,(⟨#[]⟩:ByteArray)⟩:au),(⟨0,0⟩:aO),ε,ε,0,0⟩:aJ))) rfl ?_;exact aU _ (bf _ _) ⟨rfl,rfl⟩
  refine aK (λx9:ByteArray=>(T3 [(ψ x9)])) (λx9 kL=>fP kL) (λx9 kL=>?_);refine aj _ rfl ?_;refine aK (λbG:(Int×Int)=>((l6 [(η bG.1),(η bG.2)]),σ)) (λbG oR=>wJ oR) (λbG oR=>?_);refine aj _ rfl<|aj _ rfl<|aj [bH] rfl<|aj (aW ({{(⟨(⟨(⟨r4.1,r3.2.1⟩:au).unit,(⟨r4.1,r3.2.1⟩:au).param⟩:au),(⟨0,0⟩:aO),ε,ε,0,0⟩:aJ)with release:=ι}with cG:=ι})) rfl<|aj [(η bG.1)] rfl<|aj (aW ({{{(⟨(⟨(⟨r4.1,r3.2.1⟩:au).unit,(⟨r4.1,r3.2.1⟩:au).param⟩:au),(⟨0,0⟩:aO),ε,ε,0,0⟩:aJ)with release:=ι}with cG:=ι}with time:=bG.1})) rfl<|aj _ (eG _ _ _)<|bz (sl 1 cO x7) (λhg=>rfl)<|bz (η (x7.length:Int)) (λhg=>by(try rw[hg]);exact(dc _ _ _))<|bz (φ (decide ((x7.length:Int)=4))) (λhg=>by(try rw[hg]);exact(eG _ _ _))<|aj _ (eY _ _) ?_;refine cA (c:=((decide (bG.2=0))&&(decide ((x7.length:Int)=4)))) (λiU=>?_) (λiU=>?_)
  ·refine aK (λbB:ByteArray=>(T3 [(ψ bB)])) (λbB mz=>fP mz) (λbB mz=>?_);refine aj _ rfl ?_;refine aK (λfG:(Int×Int)=>((l6 [(η fG.1),(η fG.2)]),σ)) (λfG XD=>wJ XD) (λfG XD=>?_);refine aj _ rfl<|aj _ rfl<|aj [(η fG.1)] rfl<|aj (aW ({{{{(⟨(⟨(⟨r4.1,r3.2.1⟩:au).unit,(⟨r4.1,r3.2.1⟩:au).param⟩:au),(⟨0,0⟩:aO),ε,ε,0,0⟩:aJ)with release:=ι}with cG:=ι}with time:=bG.1}with br:=fG.1})) rfl ?_;refine aK (λbU:ByteArray=>(T3 [(ψ bU)])) (λbU XN=>fP XN) (λbU XN=>?_);refine aj _ rfl<|aj _ (pX _ _)<|bD (η (({{{{(⟨(⟨(⟨r4.1,r3.2.1⟩:au).unit,(⟨r4.1,r3.2.1⟩:au).param⟩:au),(⟨0,0⟩:aO),ε,ε,0,0⟩:aJ)with release:=ι}with cG:=ι}with time:=bG.1}with br:=fG.1}).br)) (λhg=>rfl)<|bD (φ (decide (({{{{(⟨(⟨(⟨r4.1,r3.2.1⟩:au).unit,(⟨r4.1,r3.2.1⟩:au).param⟩:au),(⟨0,0⟩:aO),ε,ε,0,0⟩:aJ)with release:=ι}with cG:=ι}with time:=bG.1}with br:=fG.1}).br=0))) (λhg=>by(try rw[hg]);exact(eG _ _ _))<|aj _ (eW _ _) ?_;refine cA (c:=((decide (¬(bU=(⟨#[97,102,116,101,114]⟩:ByteArray))))||(decide (({{{{(⟨(⟨(⟨r4.1,r3.2.1⟩:au).unit,(⟨r4.1,r3.2.1⟩:au).param⟩:au),(⟨0,0⟩:aO),ε,ε,0,0⟩:aJ)with release:=ι}with cG:=ι}with time:=bG.1}with br:=fG.1}).br=0)))) (λoA=>?_) (λoA=>?_)
   ·refine aj (aW (⟨(⟨0,(⟨#[]⟩:ByteArray)⟩:au),(⟨0,0⟩:aO),ε,ε,0,0⟩:aJ)) rfl<|aj _ (jY _ _ rfl)<|aj (l7 (aW (⟨(⟨0,(⟨#[]⟩:ByteArray)⟩:au),(⟨0,0⟩:aO),ε,ε,0,0⟩:aJ))) rfl ?_;exact aU _ (bf _ _) ⟨rfl,rfl⟩
   refine aj (l7 (aW ({{{{(⟨(⟨(⟨r4.1,r3.2.1⟩:au).unit,(⟨r4.1,r3.2.1⟩:au).param⟩:au),(⟨0,0⟩:aO),ε,ε,0,0⟩:aJ)with release:=ι}with cG:=ι}with time:=bG.1}with br:=fG.1}))) rfl<|aj _ (eG _ _ _)<|aj (aW ({{{{(⟨(⟨(⟨r4.1,r3.2.1⟩:au).unit,(⟨r4.1,r3.2.1⟩:au).param⟩:au),(⟨0,0⟩:aO),ε,ε,0,0⟩:aJ)with release:=ι}with cG:=ι}with time:=bG.1}with br:=fG.1})) rfl<|aj _ (jY _ _ rfl)<|aj (l7 (aW ({{{{(⟨(⟨(⟨r4.1,r3.2.1⟩:au).unit,(⟨r4.1,r3.2.1⟩:au).param⟩:au),(⟨0,0⟩:aO),ε,ε,0,0⟩:aJ)with release:=ι}with cG:=ι}with time:=bG.1}with br:=fG.1}))) rfl ?_;exact aU _ (bf _ _) ⟨rfl,rfl⟩
  refine aj (l7 (aW ({{{(⟨(⟨(⟨r4.1,r3.2.1⟩:au).unit,(⟨r4.1,r3.2.1⟩:au).param⟩:au),(⟨0,0⟩:aO),ε,ε,0,0⟩:aJ)with release:=ι}with cG:=ι}with time:=bG.1}))) rfl<|aj _ (eG _ _ _)<|aj (aW ({{{(⟨(⟨(⟨r4.1,r3.2.1⟩:au).unit,(⟨r4.1,r3.2.1⟩:au).param⟩:au),(⟨0,0⟩:aO),ε,ε,0,0⟩:aJ)with release:=ι}with cG:=ι}with time:=bG.1})) rfl<|aj _ (jY _ _ rfl)<|aj (l7 (aW ({{{(⟨(⟨(⟨r4.1,r3.2.1⟩:au).unit,(⟨r4.1,r3.2.1⟩:au).param⟩:au),(⟨0,0⟩:aO),ε,ε,0,0⟩:aJ)with release:=ι}with cG:=ι}with time:=bG.1}))) rfl ?_;exact aU _ (bf _ _) ⟨rfl,rfl⟩
 refine aK (λcU:ByteArray=>(T3 [(ψ cU)])) (λcU XO=>fP XO) (λcU XO=>?_);refine aj _ rfl<|aj _ (kW _ _)<|bz (sl 1 cO r1) (λhg=>rfl)<|bz (η (r1.length:Int)) (λhg=>by(try rw[hg]);exact(dc _ _ _))<|bz (φ (decide (2<(r1.length:Int)))) (λhg=>by(try rw[hg]);exact rfl)<|aj _ (eY _ _) ?_;refine cA (c:=((decide (cU=(⟨#[112,114,101,115,101,116]⟩:ByteArray)))&&(decide (2<(r1.length:Int))))) (λsA=>?_) (λsA=>?_)
 ·refine aK (λcE:ByteArray=>(T3 [(ψ cE)])) (λcE anL=>fP anL) (λcE anL=>?_);refine aj _ rfl ?_;refine aK (λcY:(Int×Bool)=>((l6 [(η cY.1),(φ cY.2)]),σ)) (λcY DQ=>AJ DQ) (λcY DQ=>?_);refine aj _ rfl<|aj _ rfl<|aj _ rfl<|bD (η cY.1) (λhg=>rfl)<|bD (φ (decide (cY.1=0))) (λhg=>by(try rw[hg]);exact(eG _ _ _))<|aj _ (eW _ _) ?_;refine cA (c:=((!cY.2)||(decide (cY.1=0)))) (λE1=>?_) (λE1=>?_)
  ·refine aj (aW (⟨(⟨0,(⟨#[]⟩:ByteArray)⟩:au),(⟨0,0⟩:aO),ε,ε,0,0⟩:aJ)) rfl<|aj _ (jY _ _ rfl)<|aj (l7 (aW (⟨(⟨0,(⟨#[]⟩:ByteArray)⟩:au),(⟨0,0⟩:aO),ε,ε,0,0⟩:aJ))) rfl ?_;exact aU _ (bf _ _) ⟨rfl,rfl⟩
  refine aj [(η cY.1)] rfl<|aj (aW ({(⟨(⟨(⟨r4.1,r3.2.1⟩:au).unit,(⟨r4.1,r3.2.1⟩:au).param⟩:au),(⟨0,0⟩:aO),ε,ε,0,0⟩:aJ)with value:={(⟨(⟨(⟨r4.1,r3.2.1⟩:au).unit,(⟨r4.1,r3.2.1⟩:au).param⟩:au),(⟨0,0⟩:aO),ε,ε,0,0⟩:aJ).value with bW:=cY.1}})) rfl ?_;refine aK (λbK:(List ByteArray)=>(sl 1 cO bK)) (λbK DX=>(rJ DX)) (λbK DX=>?_);refine aj _ (dc _ _ _)<|aj _ (eG _ _ _) ?_;refine cP (p:=(bK.length:Int)=0) (λzB=>?_) (λzB=>?_)
  ·refine aj (l7 (aW ({(⟨(⟨(⟨r4.1,r3.2.1⟩:au).unit,(⟨r4.1,r3.2.1⟩:au).param⟩:au),(⟨0,0⟩:aO),ε,ε,0,0⟩:aJ)with value:={(⟨(⟨(⟨r4.1,r3.2.1⟩:au).unit,(⟨r4.1,r3.2.1⟩:au).param⟩:au),(⟨0,0⟩:aO),ε,ε,0,0⟩:aJ).value with bW:=cY.1}}))) rfl<|aj (aW ({(⟨(⟨(⟨r4.1,r3.2.1⟩:au).unit,(⟨r4.1,r3.2.1⟩:au).param⟩:au),(⟨0,0⟩:aO),ε,ε,0,0⟩:aJ)with value:={(⟨(⟨(⟨r4.1,r3.2.1⟩:au).unit,(⟨r4.1,r3.2.1⟩:au).param⟩:au),(⟨0,0⟩:aO),ε,ε,0,0⟩:aJ).value with bW:=cY.1}})) rfl<|aj _ (jY _ _ rfl)<|aj (l7 (aW ({(⟨(⟨(⟨r4.1,r3.2.1⟩:au).unit,(⟨r4.1,r3.2.1⟩:au).param⟩:au),(⟨0,0⟩:aO),ε,ε,0,0⟩:aJ)with value:={(⟨(⟨(⟨r4.1,r3.2.1⟩:au).unit,(⟨r4.1,r3.2.1⟩:au).param⟩:au),(⟨0,0⟩:aO),ε,ε,0,0⟩:aJ).value with bW:=cY.1}}))) rfl ?_;exact aU _ (bf _ _) ⟨rfl,rfl⟩
  refine aK (λbV:ByteArray=>(T3 [(ψ bV)])) (λbV xP=>fP xP) (λbV xP=>?_);refine aj _ rfl<|aj _ (pX _ _)<|bD (sl 1 cO bK) (λhg=>rfl)<|bD (η (bK.length:Int)) (λhg=>by(try rw[hg]);exact(dc _ _ _))<|bD (φ (decide (¬((bK.length:Int)=2)))) (λhg=>by(try rw[hg]);exact(fC _ _ _))<|bD (φ (decide (¬((bK.length:Int)=2)))) (λhg=>by(try rw[hg]);exact rfl)<|iy (sl 1 cO bK) (λhg=>rfl)<|iy (η (bK.length:Int)) (λhg=>by(try rw[hg]);exact(dc _ _ _))<|iy (φ (decide (¬((bK.length:Int)=4)))) (λhg=>by(try rw[hg]);exact(fC _ _ _))<|bD (φ ((decide (¬((bK.length:Int)=2)))&&(decide (¬((bK.length:Int)=4))))) (λhg=>by(try rw[hg]);exact(eY _ _))<|aj _ (eW _ _) ?_;refine cA (c:=((decide (¬(bV=(⟨#[105,110]⟩:ByteArray))))||((decide (¬((bK.length:Int)=2)))&&(decide (¬((bK.length:Int)=4)))))) (λzA=>?_) (λzA=>?_)
  ·refine aj (aW (⟨(⟨0,(⟨#[]⟩:ByteArray)⟩:au),(⟨0,0⟩:aO),ε,ε,0,0⟩:aJ)) rfl<|aj _ (jY _ _ rfl)<|aj (l7 (aW (⟨(⟨0,(⟨#[]⟩:ByteArray)⟩:au),(⟨0,0⟩:aO),ε,ε,0,0⟩:aJ))) rfl ?_;exact aU _ (bf _ _) ⟨rfl,rfl⟩
  refine aK (λcQ:ByteArray=>(T3 [(ψ cQ)])) (λcQ XR=>fP XR) (λcQ XR=>?_);refine aj _ rfl ?_;refine aK (λgE:(Int×Int)=>((l6 [(η gE.1),(η gE.2)]),σ)) (λgE XF=>wJ XF) (λgE XF=>?_);refine aj _ rfl<|aj _ rfl<|aj [bH] rfl<|aj (aW ({{(⟨(⟨(⟨r4.1,r3.2.1⟩:au).unit,(⟨r4.1,r3.2.1⟩:au).param⟩:au),(⟨0,0⟩:aO),ε,ε,0,0⟩:aJ)with value:={(⟨(⟨(⟨r4.1,r3.2.1⟩:au).unit,(⟨r4.1,r3.2.1⟩:au).param⟩:au),(⟨0,0⟩:aO),ε,ε,0,0⟩:aJ).value with bW:=cY.1}}with cG:=ι})) rfl<|aj [(η gE.1)] rfl<|aj (aW ({{{(⟨(⟨(⟨r4.1,r3.2.1⟩:au).unit,(⟨r4.1,r3.2.1⟩:au).param⟩:au),(⟨0,0⟩:aO),ε,ε,0,0⟩:aJ)with value:={(⟨(⟨(⟨r4.1,r3.2.1⟩:au).unit,(⟨r4.1,r3.2.1⟩:au).param⟩:au),(⟨0,0⟩:aO),ε,ε,0,0⟩:aJ).value with bW:=cY.1}}with cG:=ι}with time:=gE.1})) rfl<|aj _ (eG _ _ _)<|bz (sl 1 cO bK) (λhg=>rfl)<|bz (η (bK.length:Int)) (λhg=>by(try rw[hg]);exact(dc _ _ _))<|bz (φ (decide ((bK.length:Int)=4))) (λhg=>by(try rw[hg]);exact(eG _ _ _))<|aj _ (eY _ _) ?_;refine cA (c:=((decide (gE.2=0))&&(decide ((bK.length:Int)=4)))) (λzz=>?_) (λzz=>?_)
  ·refine aK (λdQ:ByteArray=>(T3 [(ψ dQ)])) (λdQ DY=>fP DY) (λdQ DY=>?_);refine aj _ rfl ?_;refine aK (λgR:(Int×Int)=>((l6 [(η gR.1),(η gR.2)]),σ)) (λgR XH=>wJ XH) (λgR XH=>?_);refine aj _ rfl<|aj _ rfl<|aj [(η gR.1)] rfl<|aj (aW ({{{{(⟨(⟨(⟨r4.1,r3.2.1⟩:au).unit,(⟨r4.1,r3.2.1⟩:au).param⟩:au),(⟨0,0⟩:aO),ε,ε,0,0⟩:aJ)with value:={(⟨(⟨(⟨r4.1,r3.2.1⟩:au).unit,(⟨r4.1,r3.2.1⟩:au).param⟩:au),(⟨0,0⟩:aO),ε,ε,0,0⟩:aJ).value with bW:=cY.1}}with cG:=ι}with time:=gE.1}with br:=gR.1})) rfl ?_;refine aK (λcZ:ByteArray=>(T3 [(ψ cZ)])) (λcZ DZ=>fP DZ) (λcZ DZ=>?_);refine aj _ rfl<|aj _ (pX _ _)<|bD (η (({{{{(⟨(⟨(⟨r4.1,r3.2.1⟩:au).unit,(⟨r4.1,r3.2.1⟩:au).param⟩:au),(⟨0,0⟩:aO),ε,ε,0,0⟩:aJ)with value:={(⟨(⟨(⟨r4.1,r3.2.1⟩:au).unit,(⟨r4.1,r3.2.1⟩:au).param⟩:au),(⟨0,0⟩:aO),ε,ε,0,0⟩:aJ).value with bW:=cY.1}}with cG:=ι}with time:=gE.1}with br:=gR.1}).br)) (λhg=>rfl)<|bD (φ (decide (({{{{(⟨(⟨(⟨r4.1,r3.2.1⟩:au).unit,(⟨r4.1,r3.2.1⟩:au).param⟩:au),(⟨0,0⟩:aO),ε,ε,0,0⟩:aJ)with value:={(⟨(⟨(⟨r4.1,r3.2.1⟩:au).unit,(⟨r4.1,r3.2.1⟩:au).param⟩:au),(⟨0,0⟩:aO),ε,ε,0,0⟩:aJ).value with bW:=cY.1}}with cG:=ι}with time:=gE.1}with br:=gR.1}).br=0))) (λhg=>by(try rw[hg]);exact(eG _ _ _))<|aj _ (eW _ _) ?_;refine cA (c:=((decide (¬(cZ=(⟨#[97,102,116,101,114]⟩:ByteArray))))||(decide (({{{{(⟨(⟨(⟨r4.1,r3.2.1⟩:au).unit,(⟨r4.1,r3.2.1⟩:au).param⟩:au),(⟨0,0⟩:aO),ε,ε,0,0⟩:aJ)with value:={(⟨(⟨(⟨r4.1,r3.2.1⟩:au).unit,(⟨r4.1,r3.2.1⟩:au).param⟩:au),(⟨0,0⟩:aO),ε,ε,0,0⟩:aJ).value with bW:=cY.1}}with cG:=ι}with time:=gE.1}with br:=gR.1}).br=0)))) (λzy=>?_) (λzy=>?_)
   ·refine aj (aW (⟨(⟨0,(⟨#[]⟩:ByteArray)⟩:au),(⟨0,0⟩:aO),ε,ε,0,0⟩:aJ)) rfl<|aj _ (jY _ _ rfl)<|aj (l7 (aW (⟨(⟨0,(⟨#[]⟩:ByteArray)⟩:au),(⟨0,0⟩:aO),ε,ε,0,0⟩:aJ))) rfl ?_;exact aU _ (bf _ _) ⟨rfl,rfl⟩
   refine aj (l7 (aW ({{{{(⟨(⟨(⟨r4.1,r3.2.1⟩:au).unit,(⟨r4.1,r3.2.1⟩:au).param⟩:au),(⟨0,0⟩:aO),ε,ε,0,0⟩:aJ)with value:={(⟨(⟨(⟨r4.1,r3.2.1⟩:au).unit,(⟨r4.1,r3.2.1⟩:au).param⟩:au),(⟨0,0⟩:aO),ε,ε,0,0⟩:aJ).value with bW:=cY.1}}with cG:=ι}with time:=gE.1}with br:=gR.1}))) rfl<|aj _ (eG _ _ _)<|aj (aW ({{{{(⟨(⟨(⟨r4.1,r3.2.1⟩:au).unit,(⟨r4.1,r3.2.1⟩:au).param⟩:au),(⟨0,0⟩:aO),ε,ε,0,0⟩:aJ)with value:={(⟨(⟨(⟨r4.1,r3.2.1⟩:au).unit,(⟨r4.1,r3.2.1⟩:au).param⟩:au),(⟨0,0⟩:aO),ε,ε,0,0⟩:aJ).value with bW:=cY.1}}with cG:=ι}with time:=gE.1}with br:=gR.1})) rfl<|aj _ (jY _ _ rfl)<|aj (l7 (aW ({{{{(⟨(⟨(⟨r4.1,r3.2.1⟩:au).unit,(⟨r4.1,r3.2.1⟩:au).param⟩:au),(⟨0,0⟩:aO),ε,ε,0,0⟩:aJ)with value:={(⟨(⟨(⟨r4.1,r3.2.1⟩:au).unit,(⟨r4.1,r3.2.1⟩:au).param⟩:au),(⟨0,0⟩:aO),ε,ε,0,0⟩:aJ).value with bW:=cY.1}}with cG:=ι}with time:=gE.1}with br:=gR.1}))) rfl ?_;exact aU _ (bf _ _) ⟨rfl,rfl⟩
  refine aj (l7 (aW ({{{(⟨(⟨(⟨r4.1,r3.2.1⟩:au).unit,(⟨r4.1,r3.2.1⟩:au).param⟩:au),(⟨0,0⟩:aO),ε,ε,0,0⟩:aJ)with value:={(⟨(⟨(⟨r4.1,r3.2.1⟩:au).unit,(⟨r4.1,r3.2.1⟩:au).param⟩:au),(⟨0,0⟩:aO),ε,ε,0,0⟩:aJ).value with bW:=cY.1}}with cG:=ι}with time:=gE.1}))) rfl<|aj _ (eG _ _ _)<|aj (aW ({{{(⟨(⟨(⟨r4.1,r3.2.1⟩:au).unit,(⟨r4.1,r3.2.1⟩:au).param⟩:au),(⟨0,0⟩:aO),ε,ε,0,0⟩:aJ)with value:={(⟨(⟨(⟨r4.1,r3.2.1⟩:au).unit,(⟨r4.1,r3.2.1⟩:au).param⟩:au),(⟨0,0⟩:aO),ε,ε,0,0⟩:aJ).value with bW:=cY.1}}with cG:=ι}with time:=gE.1})) rfl<|aj _ (jY _ _ rfl)<|aj (l7 (aW ({{{(⟨(⟨(⟨r4.1,r3.2.1⟩:au).unit,(⟨r4.1,r3.2.1⟩:au).param⟩:au),(⟨0,0⟩:aO),ε,ε,0,0⟩:aJ)with value:={(⟨(⟨(⟨r4.1,r3.2.1⟩:au).unit,(⟨r4.1,r3.2.1⟩:au).param⟩:au),(⟨0,0⟩:aO),ε,ε,0,0⟩:aJ).value with bW:=cY.1}}with cG:=ι}with time:=gE.1}))) rfl ?_;exact aU _ (bf _ _) ⟨rfl,rfl⟩
 refine aK (λeL:ByteArray=>(T3 [(ψ eL)])) (λeL D0=>fP D0) (λeL D0=>?_);refine aj _ rfl ?_;refine aK (λdP:(Int×Int)=>((l6 [(η dP.1),(η dP.2)]),σ)) (λdP DS=>aaZ DS) (λdP DS=>?_);refine aj _ rfl<|aj _ rfl<|aj _ (fC _ _ _) ?_;refine cP (p:=¬(dP.2=0)) (λE3=>?_) (λE3=>?_)
 ·refine aj (aW (⟨(⟨0,(⟨#[]⟩:ByteArray)⟩:au),(⟨0,0⟩:aO),ε,ε,0,0⟩:aJ)) rfl<|aj _ (jY _ _ rfl)<|aj (l7 (aW (⟨(⟨0,(⟨#[]⟩:ByteArray)⟩:au),(⟨0,0⟩:aO),ε,ε,0,0⟩:aJ))) rfl ?_;exact aU _ (bf _ _) ⟨rfl,rfl⟩
 refine aj [(η dP.1)] rfl<|aj (aW ({(⟨(⟨(⟨r4.1,r3.2.1⟩:au).unit,(⟨r4.1,r3.2.1⟩:au).param⟩:au),(⟨0,0⟩:aO),ε,ε,0,0⟩:aJ)with value:={(⟨(⟨(⟨r4.1,r3.2.1⟩:au).unit,(⟨r4.1,r3.2.1⟩:au).param⟩:au),(⟨0,0⟩:aO),ε,ε,0,0⟩:aJ).value with level:=dP.1}})) rfl ?_;refine aK (λcI:(List ByteArray)=>(sl 1 cO cI)) (λcI XU=>(rJ XU)) (λcI XU=>?_);refine aj _ (dc _ _ _)<|aj _ (eG _ _ _) ?_;refine cP (p:=(cI.length:Int)=0) (λvJ=>?_) (λvJ=>?_)
 ·refine aj (l7 (aW ({(⟨(⟨(⟨r4.1,r3.2.1⟩:au).unit,(⟨r4.1,r3.2.1⟩:au).param⟩:au),(⟨0,0⟩:aO),ε,ε,0,0⟩:aJ)with value:={(⟨(⟨(⟨r4.1,r3.2.1⟩:au).unit,(⟨r4.1,r3.2.1⟩:au).param⟩:au),(⟨0,0⟩:aO),ε,ε,0,0⟩:aJ).value with level:=dP.1}}))) rfl<|aj (aW ({(⟨(⟨(⟨r4.1,r3.2.1⟩:au).unit,(⟨r4.1,r3.2.1⟩:au).param⟩:au),(⟨0,0⟩:aO),ε,ε,0,0⟩:aJ)with value:={(⟨(⟨(⟨r4.1,r3.2.1⟩:au).unit,(⟨r4.1,r3.2.1⟩:au).param⟩:au),(⟨0,0⟩:aO),ε,ε,0,0⟩:aJ).value with level:=dP.1}})) rfl<|aj _ (jY _ _ rfl)<|aj (l7 (aW ({(⟨(⟨(⟨r4.1,r3.2.1⟩:au).unit,(⟨r4.1,r3.2.1⟩:au).param⟩:au),(⟨0,0⟩:aO),ε,ε,0,0⟩:aJ)with value:={(⟨(⟨(⟨r4.1,r3.2.1⟩:au).unit,(⟨r4.1,r3.2.1⟩:au).param⟩:au),(⟨0,0⟩:aO),ε,ε,0,0⟩:aJ).value with level:=dP.1}}))) rfl ?_;exact aU _ (bf _ _) ⟨rfl,rfl⟩
 refine aK (λgB:ByteArray=>(T3 [(ψ gB)])) (λgB XV=>fP XV) (λgB XV=>?_);refine aj _ rfl<|aj _ (pX _ _)<|bD (sl 1 cO cI) (λhg=>rfl)<|bD (η (cI.length:Int)) (λhg=>by(try rw[hg]);exact(dc _ _ _))<|bD (φ (decide (¬((cI.length:Int)=2)))) (λhg=>by(try rw[hg]);exact(fC _ _ _))<|bD (φ (decide (¬((cI.length:Int)=2)))) (λhg=>by(try rw[hg]);exact rfl)<|iy (sl 1 cO cI) (λhg=>rfl)<|iy (η (cI.length:Int)) (λhg=>by(try rw[hg]);exact(dc _ _ _))<|iy (φ (decide (¬((cI.length:Int)=4)))) (λhg=>by(try rw[hg]);exact(fC _ _ _))<|bD (φ ((decide (¬((cI.length:Int)=2)))&&(decide (¬((cI.length:Int)=4))))) (λhg=>by(try rw[hg]);exact(eY _ _))<|aj _ (eW _ _) ?_;refine cA (c:=((decide (¬(gB=(⟨#[105,110]⟩:ByteArray))))||((decide (¬((cI.length:Int)=2)))&&(decide (¬((cI.length:Int)=4)))))) (λP5=>?_) (λP5=>?_)
 ·refine aj (aW (⟨(⟨0,(⟨#[]⟩:ByteArray)⟩:au),(⟨0,0⟩:aO),ε,ε,0,0⟩:aJ)) rfl<|aj _ (jY _ _ rfl)<|aj (l7 (aW (⟨(⟨0,(⟨#[]⟩:ByteArray)⟩:au),(⟨0,0⟩:aO),ε,ε,0,0⟩:aJ))) rfl ?_;exact aU _ (bf _ _) ⟨rfl,rfl⟩
 refine aK (λdU:ByteArray=>(T3 [(ψ dU)])) (λdU XW=>fP XW) (λdU XW=>?_);refine aj _ rfl ?_;refine aK (λiH:(Int×Int)=>((l6 [(η iH.1),(η iH.2)]),σ)) (λiH XJ=>wJ XJ) (λiH XJ=>?_);refine aj _ rfl<|aj _ rfl<|aj [bH] rfl<|aj (aW ({{(⟨(⟨(⟨r4.1,r3.2.1⟩:au).unit,(⟨r4.1,r3.2.1⟩:au).param⟩:au),(⟨0,0⟩:aO),ε,ε,0,0⟩:aJ)with value:={(⟨(⟨(⟨r4.1,r3.2.1⟩:au).unit,(⟨r4.1,r3.2.1⟩:au).param⟩:au),(⟨0,0⟩:aO),ε,ε,0,0⟩:aJ).value with level:=dP.1}}with cG:=ι})) rfl<|aj [(η iH.1)] rfl<|aj (aW ({{{(⟨(⟨(⟨r4.1,r3.2.1⟩:au).unit,(⟨r4.1,r3.2.1⟩:au).param⟩:au),(⟨0,0⟩:aO),ε,ε,0,0⟩:aJ)with value:={(⟨(⟨(⟨r4.1,r3.2.1⟩:au).unit,(⟨r4.1,r3.2.1⟩:au).param⟩:au),(⟨0,0⟩:aO),ε,ε,0,0⟩:aJ).value with level:=dP.1}}with cG:=ι}with time:=iH.1})) rfl<|aj _ (eG _ _ _)<|bz (sl 1 cO cI) (λhg=>rfl)<|bz (η (cI.length:Int)) (λhg=>by(try rw[hg]);exact(dc _ _ _))<|bz (φ (decide ((cI.length:Int)=4))) (λhg=>by(try rw[hg]);exact(eG _ _ _))<|aj _ (eY _ _) ?_;refine cA (c:=((decide (iH.2=0))&&(decide ((cI.length:Int)=4)))) (λvI=>?_) (λvI=>?_)
 ·refine aK (λey:ByteArray=>(T3 [(ψ ey)])) (λey D2=>fP D2) (λey D2=>?_);refine aj _ rfl ?_;refine aK (λiX:(Int×Int)=>((l6 [(η iX.1),(η iX.2)]),σ)) (λiX an8=>wJ an8) (λiX an8=>?_);refine aj _ rfl<|aj _ rfl<|aj [(η iX.1)] rfl<|aj (aW ({{{{(⟨(⟨(⟨r4.1,r3.2.1⟩:au).unit,(⟨r4.1,r3.2.1⟩:au).param⟩:au),(⟨0,0⟩:aO),ε,ε,0,0⟩:aJ)with value:={(⟨(⟨(⟨r4.1,r3.2.1⟩:au).unit,(⟨r4.1,r3.2.1⟩:au).param⟩:au),(⟨0,0⟩:aO),ε,ε,0,0⟩:aJ).value with level:=dP.1}}with cG:=ι}with time:=iH.1}with br:=iX.1})) rfl ?_;refine aK (λfu:ByteArray=>(T3 [(ψ fu)])) (λfu D3=>fP D3) (λfu D3=>?_);refine aj _ rfl<|aj _ (pX _ _)<|bD (η (({{{{(⟨(⟨(⟨r4.1,r3.2.1⟩:au).unit,(⟨r4.1,r3.2.1⟩:au).param⟩:au),(⟨0,0⟩:aO),ε,ε,0,0⟩:aJ)with value:={(⟨(⟨(⟨r4.1,r3.2.1⟩:au).unit,(⟨r4.1,r3.2.1⟩:au).param⟩:au),(⟨0,0⟩:aO),ε,ε,0,0⟩:aJ).value with level:=dP.1}}with cG:=ι}with time:=iH.1}with br:=iX.1}).br)) (λhg=>rfl)<|bD (φ (decide (({{{{(⟨(⟨(⟨r4.1,r3.2.1⟩:au).unit,(⟨r4.1,r3.2.1⟩:au).param⟩:au),(⟨0,0⟩:aO),ε,ε,0,0⟩:aJ)with value:={(⟨(⟨(⟨r4.1,r3.2.1⟩:au).unit,(⟨r4.1,r3.2.1⟩:au).param⟩:au),(⟨0,0⟩:aO),ε,ε,0,0⟩:aJ).value with level:=dP.1}}with cG:=ι}with time:=iH.1}with br:=iX.1}).br=0))) (λhg=>by(try rw[hg]);exact(eG _ _ _))<|aj _ (eW _ _) ?_;refine cA (c:=((decide (¬(fu=(⟨#[97,102,116,101,114]⟩:ByteArray))))||(decide (({{{{(⟨(⟨(⟨r4.1,r3.2.1⟩:au).unit,(⟨r4.1,r3.2.1⟩:au).param⟩:au),(⟨0,0⟩:aO),ε,ε,0,0⟩:aJ)with value:={(⟨(⟨(⟨r4.1,r3.2.1⟩:au).unit,(⟨r4.1,r3.2.1⟩:au).param⟩:au),(⟨0,0⟩:aO),ε,ε,0,0⟩:aJ).value with level:=dP.1}}with cG:=ι}with time:=iH.1}with br:=iX.1}).br=0)))) (λqM=>?_) (λqM=>?_)
  ·refine aj (aW (⟨(⟨0,(⟨#[]⟩:ByteArray)⟩:au),(⟨0,0⟩:aO),ε,ε,0,0⟩:aJ)) rfl<|aj _ (jY _ _ rfl)<|aj (l7 (aW (⟨(⟨0,(⟨#[]⟩:ByteArray)⟩:au),(⟨0,0⟩:aO),ε,ε,0,0⟩:aJ))) rfl ?_;exact aU _ (bf _ _) ⟨rfl,rfl⟩
  refine aj (l7 (aW ({{{{(⟨(⟨(⟨r4.1,r3.2.1⟩:au).unit,(⟨r4.1,r3.2.1⟩:au).param⟩:au),(⟨0,0⟩:aO),ε,ε,0,0⟩:aJ)with value:={(⟨(⟨(⟨r4.1,r3.2.1⟩:au).unit,(⟨r4.1,r3.2.1⟩:au).param⟩:au),(⟨0,0⟩:aO),ε,ε,0,0⟩:aJ).value with level:=dP.1}}with cG:=ι}with time:=iH.1}with br:=iX.1}))) rfl<|aj _ (eG _ _ _)<|aj (aW ({{{{(⟨(⟨(⟨r4.1,r3.2.1⟩:au).unit,(⟨r4.1,r3.2.1⟩:au).param⟩:au),(⟨0,0⟩:aO),ε,ε,0,0⟩:aJ)with value:={(⟨(⟨(⟨r4.1,r3.2.1⟩:au).unit,(⟨r4.1,r3.2.1⟩:au).param⟩:au),(⟨0,0⟩:aO),ε,ε,0,0⟩:aJ).value with level:=dP.1}}with cG:=ι}with time:=iH.1}with br:=iX.1})) rfl<|aj _ (jY _ _ rfl)<|aj (l7 (aW ({{{{(⟨(⟨(⟨r4.1,r3.2.1⟩:au).unit,(⟨r4.1,r3.2.1⟩:au).param⟩:au),(⟨0,0⟩:aO),ε,ε,0,0⟩:aJ)with value:={(⟨(⟨(⟨r4.1,r3.2.1⟩:au).unit,(⟨r4.1,r3.2.1⟩:au).param⟩:au),(⟨0,0⟩:aO),ε,ε,0,0⟩:aJ).value with level:=dP.1}}with cG:=ι}with time:=iH.1}with br:=iX.1}))) rfl ?_;exact aU _ (bf _ _) ⟨rfl,rfl⟩
 refine aj (l7 (aW ({{{(⟨(⟨(⟨r4.1,r3.2.1⟩:au).unit,(⟨r4.1,r3.2.1⟩:au).param⟩:au),(⟨0,0⟩:aO),ε,ε,0,0⟩:aJ)with value:={(⟨(⟨(⟨r4.1,r3.2.1⟩:au).unit,(⟨r4.1,r3.2.1⟩:au).param⟩:au),(⟨0,0⟩:aO),ε,ε,0,0⟩:aJ).value with level:=dP.1}}with cG:=ι}with time:=iH.1}))) rfl<|aj _ (eG _ _ _)<|aj (aW ({{{(⟨(⟨(⟨r4.1,r3.2.1⟩:au).unit,(⟨r4.1,r3.2.1⟩:au).param⟩:au),(⟨0,0⟩:aO),ε,ε,0,0⟩:aJ)with value:={(⟨(⟨(⟨r4.1,r3.2.1⟩:au).unit,(⟨r4.1,r3.2.1⟩:au).param⟩:au),(⟨0,0⟩:aO),ε,ε,0,0⟩:aJ).value with level:=dP.1}}with cG:=ι}with time:=iH.1})) rfl<|aj _ (jY _ _ rfl)<|aj (l7 (aW ({{{(⟨(⟨(⟨r4.1,r3.2.1⟩:au).unit,(⟨r4.1,r3.2.1⟩:au).param⟩:au),(⟨0,0⟩:aO),ε,ε,0,0⟩:aJ)with value:={(⟨(⟨(⟨r4.1,r3.2.1⟩:au).unit,(⟨r4.1,r3.2.1⟩:au).param⟩:au),(⟨0,0⟩:aO),ε,ε,0,0⟩:aJ).value with level:=dP.1}}with cG:=ι}with time:=iH.1}))) rfl ?_;exact aU _ (bf _ _) ⟨rfl,rfl⟩
end
theorem Uo{α:Type}{sz:Nat}{c:α->ay}(hc:∀x,iS (c x))(l:List α)(σ:Heap)(n d:Nat)(hn:n<=σ.length):ZG (σ++gO sz c l) n (d+1) (gn σ.length sz l)=δ (if l=[]then .aD else sl sz c l):=by
 unfold gn gO;split
 ·simp [ZG]
 ·rename_i hl;simp only[ZG,show ¬σ.length<n by omega,if_false,vk,SD];rw[aG (by simp)];have e:(List.take l.length (List.drop 0 (l.map c)))=l.map c:=by simp [rU]
  rw[e,Bb,OF hc];rfl
theorem Mg(x:eA):iS (cx x):=cS (fO _ _) (cS (fO _ _) nZ)
theorem RL(k:Int)(l:List eA)(σ:Heap):Ax [.agg [.ah k,gn σ.length 2 l]] (σ++gO 2 cx l)=δ (.ah (iw ⟨k,l⟩),σ++gO 2 cx l):=by
 by_cases hl:l=[]
 ·subst hl;rw[MF,Zq];exact(Nc (args':=[.agg (jE ⟨k,[]⟩)]) rfl rfl rfl).trans (GB ⟨k,[]⟩ σ)
 ·have hz:UU (σ++gO 2 cx l) 0 8 [.agg [.ah k,gn σ.length 2 l]]=δ [.agg (jE ⟨k,l⟩)]:=by have e:=Uo (sz:=2) Mg l σ 0 7 (by omega);rw[aE hl]at e;simp only[ZG,UU,e,aB,eB];rfl
  refine ML ?_ hz rfl (GB ⟨k,l⟩ []) rfl;unfold gn;rw[aE hl];rfl
theorem O4(k:Int)(b:U):Ω 0 [.ah k,b]=δ (.ah k):=rfl
theorem bE{α β:Type}{M:Option α}{K:α->Option β}{r:Option β}{a:α}(h:M=δ a)(k:K a=r):M.bind K=r:=by rw[h];exact k
def yW (k:Int):ByteArray:=(wI k).getD ⟨#[]⟩
def iQ (w:ByteArray):Int:=([1,2,3,4,5,6]:List Int).foldl (λs k=>if yW k=w then k else s) 0
theorem aaW(k:Int)(σ:Heap):Cu [.ah k] σ=δ (.str (yW k),σ):=by
 refine Rx ?_;unfold yW;unfold wI
 repeat' split
 all_goals rfl
theorem aha{f:ay->Heap->Option LS}{σ:Heap}{w:ByteArray}{b:U}(hb:∀k s:Int,k<=6->ξ.wrap (k+1)=k+1->f [b,.lbx [.ah s,.aD],.ah k] σ=δ (.normal,[b,.lbx [.ah (if yW k=w then k else s),.aD],.ah (k+1)],σ))
  (he:∀s:Int,f [b,.lbx [.ah s,.aD],.ah 7] σ=δ (.exit 0,[b,.lbx [.ah s,.aD],.ah 7],σ)):Zp f [b,.lbx [.ah 0,.aD],.ah 1] σ=δ (.exit 0,[b,.lbx [.ah (iQ w),.aD],.ah 7],σ):=by
 obtain⟨n,h⟩:=sY (hb 1 0 (by decide) rfl)<|sY (hb 2 _ (by decide) rfl)<|sY (hb 3 _ (by decide) rfl)<|sY (hb 4 _ (by decide) rfl)<|sY (hb 5 _ (by decide) rfl)<|sY (hb 6 _ (by decide) rfl)<|uF (he _) (by simp);exact yD h
def Ay (a0:ByteArray):Option (fZ×Int):=
 (tq (a0.size<4294967281/\1<=(⟨#[32]⟩:ByteArray).size) (mS a0 (⟨#[32]⟩:ByteArray))).bind λr1=>
 (cJ r1 0).bind λw=>
 if iQ w=0\/(iQ w≠6/\1<(r1.length:Int))then δ (⟨0,[]⟩,9)else
 (ju r1 (δ 1) μ).bind λx=>
 gL x (λ(_:Nat)s(l:List eA)=>(yG s ⟨#[58]⟩).bind λp=>if(!p.2.2)=ι then δ (Lr.ret ())else(if l.length+1<=8796093022208 then δ (Lr.go (l++[⟨p.1,p.2.1⟩]))else μ)) (λl=>δ l) [] (λl=>
  if ¬(iw ⟨iQ w,l⟩=0)then δ (⟨0,[]⟩,iw ⟨iQ w,l⟩)else δ (⟨iQ w,l⟩,0)) (λ_:Unit=>δ (⟨0,[]⟩,9))
theorem Mx{α:Type}(id sz:Nat)(l:List α):n8 (gn id sz l)=δ (gn id sz l):=by unfold gn;split<;>rfl
theorem Wd{α:Type}(a:U)(id sz:Nat)(l:List α):Ω 1 [a,gn id sz l]=δ (gn id sz l):=Mx id sz l
theorem Ir(e:Int)(σ bs:Heap):Θ σ (.az [.agg [.ah 0,.aD],.ah e]) (σ++bs)=δ (.az [.agg [.ah 0,.aD],.ah e],σ):=
 VQ bs (VX (cS (It (cS (fO _ _) (cS uP nZ))) (cS (fO _ _) nZ)))
theorem anS(k:Int)(l:List eA)(σ:Heap):Θ σ (.az [.agg [.ah k,gn σ.length 2 l],.ah 0]) (σ++gO 2 cx l)=δ (.az [.agg [.ah k,if l=[]then .aD else sl 2 cx l],.ah 0],σ):=by
 by_cases hl:l=[]
 ·subst hl;rw[MF,Zq];exact bf _ _
 ·unfold Θ;rw[aE (by unfold gO;rw[aE hl];simp),aG (by simp)];have e:=Uo (sz:=2) Mg l σ σ.length 7 (by omega);simp only[ZG,UU,e,aB,eB]
theorem am4{a0:ByteArray}{σ:Heap}{r:(fZ×Int)}(h:Ay a0=δ r):wG [(ψ a0)] σ=δ ((l6 [(l7 (jE r.1)),(η r.2)]),σ):=by
 refine je (f:=Kq) (y0:=(ψ a0)) (enc:=λr:(fZ×Int)=>(l6 [(l7 (jE r.1)),(η r.2)])) (T:=Ay a0) rfl rfl ?_ r h;unfold Kq Ay;refine aK (λr1:(List ByteArray)=>((sl 1 cO r1),σ)) (λr1 bN=>(eT (e:=λr:(List ByteArray)=>((sl 1 cO r),σ)) (λhs=>He a0 (⟨#[32]⟩:ByteArray) hs σ)) bN) (λr1 bN=>?_);refine aj _ rfl<|aj _ rfl ?_;refine ahg λw hw=>?_
 refine aj ((.exit 0,[(Z3 [(η 0),IM]),(Z3 [(η (iQ w)),IM]),(η 7)],σ):LS) (aha ?_ ?_) ?_
 ·intro k s hk hk1;refine bE (a:=.bool ι) (show A.leq (.ah k) (.ah 6)=δ (.bool ι)from by rw[NZ,mj hk]) ?_;refine(cT _ _).trans ?_;refine bE (jC (aaW k σ)) ?_;refine bE (fP (sz:=1) (c:=cO) hw) ?_;refine bE (a:=.str w) rfl ?_;refine bE (kW _ _) ?_;by_cases e:yW k=w
  ·simp only[e,aQ,reduceCtorEq,hk1];rfl
  ·simp only[e,aQ,reduceCtorEq,hk1]
 ·intro s;rfl
 refine fD rfl ?_;refine aj _ rfl<|aj (.ah (iQ w)) rfl<|aj _ (eG _ _ _)<|aj _ rfl ?_;by_cases h0:iQ w=0
 ·rw[aG (Or.inl h0)];simp only[h0,aQ,reduceCtorEq];exact aU (.az [.agg [.ah 0,.aD],.ah 9],σ) rfl ⟨rfl,rfl⟩
 have d0:=gJ h0;by_cases hc:iQ w≠6/\1<(r1.length:Int)
 ·have d6:=gJ (show ¬iQ w=6 from hc.1);have Fc:=mj (show ¬iQ w=6 from hc.1);have d1:=mj hc.2;rw[aG (Or.inr hc)];simp only[d0,d6,Fc,d1,O4,aQ,reduceCtorEq];exact aU (.az [.agg [.ah 0,.aD],.ah 9],σ) rfl ⟨rfl,rfl⟩
 rw[aE (by omega)];by_cases h6:iQ w=6
 ·have d6:=mj h6;have Fc:=gJ (show ¬¬iQ w=6 from λh=>h h6);simp only[d0,d6,Fc,O4,aQ,reduceCtorEq];refine aK (λx:List ByteArray=>sl 1 cO x) (λx hx=>rJ hx) (λx hx=>?_);refine aj _ (dc _ _ _) ?_;refine lB (B:=List eA) (R:=Unit) (λ(i:Nat)(l:List eA)v m=>v=[(Z3 [.ah 0,.aD]),(η 0),(Z3 [.ah (iQ w),gn σ.length 2 l]),(η (i:Int))]/\m=σ++gO 2 cx l) (λ(b:List eA)(q:LS)=>∃u,q=((i6 2),([(Z3 [.ah 0,.aD]),(η 0),(Z3 [.ah (iQ w),gn σ.length 2 b]),u]:ay),σ++gO 2 cx b)) (λ(_:Unit)(q:LS)=>∃u v bs,q=(l8,[(Z3 [.ah 0,.aD]),(η 9),u,v],σ++bs)) ?_ ?_ ⟨rfl,(Zq σ).symm⟩ ?_ ?_
  ·intro hle i e l v m he hI;obtain⟨rfl,rfl⟩:=hI;refine aj _ (kS he)<|lF<|aj _ (kF he)<|aj _ rfl ?_;refine aK (λp:(Int×Int×Bool)=>((l6 [(η p.1),(η p.2.1),(φ p.2.2)]),σ++gO 2 cx l)) (λp hp=>Sn hp) (λp hp=>?_);refine aj _ rfl<|aj _ rfl<|aj _ rfl<|aj _ rfl ?_;refine cA (c:=!p.2.2) (λc=>?_) (λc=>?_)
   ·exact aU _ rfl (fR (by simp) ⟨_,_,_,rfl⟩)
   refine Dr λhm=>?_
   refine aj _ rfl<|aj (gn σ.length 2 l) (Wd (.ah (iQ w)) _ _ _)<|aj _ rfl<|aj (sl 2 cx [⟨p.1,p.2.1⟩]) rfl ?_;refine aj _ (L2 (sz:=2) cx l ⟨p.1,p.2.1⟩ σ (by omega)) ?_;refine aj _ rfl<|aj _ rfl<|aj [gn σ.length 2 (l++[(⟨p.1,p.2.1⟩:eA)])] (bE (Mx _ _ _) rfl)<|aj _ rfl<|aj _ (kG he hle) ?_;exact bu (jF ⟨rfl,rfl⟩)
  ·intro hl l v m hI;obtain⟨rfl,rfl⟩:=hI;refine aj _ (kQ _)<|lE ?_;exact bu ⟨by simp,⟨_,rfl⟩⟩
  ·intro hl b q hq;obtain⟨u,rfl⟩:=hq;refine fD rfl<|aj _ rfl<|aj _ (RL _ _ _)<|aj _ (fC _ _ _) ?_;refine cP (p:=¬(iw ⟨iQ w,b⟩=0)) (λc=>?_) (λc=>?_)
   ·refine aj _ rfl<|aj _ rfl<|aj _ rfl<|aj _ rfl ?_;exact aU _ (Ir _ _ _) ⟨rfl,rfl⟩
   ·refine aj _ rfl<|aj _ rfl<|aj _ rfl<|aj _ rfl<|aj _ rfl ?_;refine aU _ (anS _ _ _) ⟨?_,rfl⟩;by_cases hb:b=[]
    ·subst hb;rfl
    ·rw[aE hb];rfl
  ·intro hl b q hq;obtain⟨u,v,bs,rfl⟩:=hq;refine oo rfl<|fD rfl<|aj _ rfl ?_;exact aU _ (Ir _ _ _) ⟨rfl,rfl⟩
 ·have d6:=gJ h6;have Fc:=mj h6;have d1:=gJ (show ¬1<(r1.length:Int) by omega);simp only[d0,d6,Fc,d1,O4,aQ,reduceCtorEq];refine aK (λx:List ByteArray=>sl 1 cO x) (λx hx=>rJ hx) (λx hx=>?_);refine aj _ (dc _ _ _) ?_;refine lB (B:=List eA) (R:=Unit) (λ(i:Nat)(l:List eA)v m=>v=[(Z3 [.ah 0,.aD]),(η 0),(Z3 [.ah (iQ w),gn σ.length 2 l]),(η (i:Int))]/\m=σ++gO 2 cx l) (λ(b:List eA)(q:LS)=>∃u,q=((i6 2),([(Z3 [.ah 0,.aD]),(η 0),(Z3 [.ah (iQ w),gn σ.length 2 b]),u]:ay),σ++gO 2 cx b)) (λ(_:Unit)(q:LS)=>∃u v bs,q=(l8,[(Z3 [.ah 0,.aD]),(η 9),u,v],σ++bs)) ?_ ?_ ⟨rfl,(Zq σ).symm⟩ ?_ ?_
  ·intro hle i e l v m he hI;obtain⟨rfl,rfl⟩:=hI;refine aj _ (kS he)<|lF<|aj _ (kF he)<|aj _ rfl ?_;refine aK (λp:(Int×Int×Bool)=>((l6 [(η p.1),(η p.2.1),(φ p.2.2)]),σ++gO 2 cx l)) (λp hp=>Sn hp) (λp hp=>?_);refine aj _ rfl<|aj _ rfl<|aj _ rfl<|aj _ rfl ?_;refine cA (c:=!p.2.2) (λc=>?_) (λc=>?_)
   ·exact aU _ rfl (fR (by simp) ⟨_,_,_,rfl⟩)
   refine Dr λhm=>?_
   refine aj _ rfl<|aj (gn σ.length 2 l) (Wd (.ah (iQ w)) _ _ _)<|aj _ rfl<|aj (sl 2 cx [⟨p.1,p.2.1⟩]) rfl ?_;refine aj _ (L2 (sz:=2) cx l ⟨p.1,p.2.1⟩ σ (by omega)) ?_;refine aj _ rfl<|aj _ rfl<|aj [gn σ.length 2 (l++[(⟨p.1,p.2.1⟩:eA)])] (bE (Mx _ _ _) rfl)<|aj _ rfl<|aj _ (kG he hle) ?_;exact bu (jF ⟨rfl,rfl⟩)
  ·intro hl l v m hI;obtain⟨rfl,rfl⟩:=hI;refine aj _ (kQ _)<|lE ?_;exact bu ⟨by simp,⟨_,rfl⟩⟩
  ·intro hl b q hq;obtain⟨u,rfl⟩:=hq;refine fD rfl<|aj _ rfl<|aj _ (RL _ _ _)<|aj _ (fC _ _ _) ?_;refine cP (p:=¬(iw ⟨iQ w,b⟩=0)) (λc=>?_) (λc=>?_)
   ·refine aj _ rfl<|aj _ rfl<|aj _ rfl<|aj _ rfl ?_;exact aU _ (Ir _ _ _) ⟨rfl,rfl⟩
   ·refine aj _ rfl<|aj _ rfl<|aj _ rfl<|aj _ rfl<|aj _ rfl ?_;refine aU _ (anS _ _ _) ⟨?_,rfl⟩;by_cases hb:b=[]
    ·subst hb;rfl
    ·rw[aE hb];rfl
  ·intro hl b q hq;obtain⟨u,v,bs,rfl⟩:=hq;refine oo rfl<|fD rfl<|aj _ rfl ?_;exact aU _ (Ir _ _ _) ⟨rfl,rfl⟩
def Ii (σ:Heap) (w:U) (m:Heap) (z:U):aL:=(ZJ w).bind λPw =>(ZR Pw (η 1)).bind λrZ=>(θ rZ ι (δ w) aq).bind λEB=>(θ rZ ι (Zv 1 EB (η 0)) aq).bind λEC=>(θ rZ ι ((Ψ EC m).bind λDA=>Ω 0 DA) aq).bind λED=>(θ rZ ι (p4 .z ED (ψ ⟨#[99,117,114,118,101]⟩)) aq).bind λPx=>(ir rZ Px aC).bind λEE=>Γ EE ((A.gV 1 w (δ (η 1)) μ m).bind λEF=>(uB [EF,(ψ ⟨#[32]⟩)] m).bind λEc=>(wG [Ec.1] Ec.2).bind λvw=>(j0 0 vw.1).bind λPy=>(j0 1 vw.1).bind λEG=>(Φ 2 Py).bind λDB=>(n4 0 DB [(η 0),IM]).bind λxE=>(Lu .i EG (η 0)).bind λnw=>(θ nw ε (Ω 0 xE) aq).bind λEH=>(θ nw ε (p4 .i EH (η 1)) aq).bind λEI=>(ir nw bH EI).bind λEJ=>Γ EJ ((Zm z).bind λOn=>(Φ 11 (l7 [(η 0),aV,(η 0),(η 0),(η 0),(η 0),(η 0),IM,aC,(η 0),IM])).bind λDC=>(n4 0 DC On).bind λDD=>(p9 0 11 DD).bind λEL=>Θ σ (l6 [EL,aC]) vw.2) ((p9 0 2 xE).bind λPz=>(YK 6 (UK σ.length 0)).bind λEM=>(Φ 2 Pz).bind λOo=>(WG EM Oo vw.2).bind λDE=>((Ψ (UK σ.length 0) DE).bind λOq=>p9 0 11 Oq).bind λEN=>(ZJ IM).bind λxT=>(p4 .i xT (η 0)).bind λEO=>(Zm z).bind λOv=>(Φ 11 EN).bind λOt=>(n4 0 Ot Ov).bind λOu=>(p9 0 11 Ou).bind λEP=>Θ σ (l6 [EP,EO]) DE)) (((Ψ (UK σ.length 0) m).bind λDF=>p9 0 11 DF).bind λPA=>(ZJ w).bind λER=>(p4 .i ER (η 0)).bind λES=>(Zm z).bind λOx=>(Φ 11 PA).bind λDG=>(n4 0 DG Ox).bind λOw=>(p9 0 11 Ow).bind λET=>Θ σ (l6 [ET,ES]) m)
def MG (σ:Heap) (w:U) (m:Heap) (z:U):aL:=(ZJ w).bind λEp=>(ZR Ep (η 1)).bind λrY=>(θ rY ι (δ w) aq).bind λPc=>(θ rY ι (Zv 1 Pc (η 0)) aq).bind λqL=>(θ rY ι ((Ψ qL m).bind λOb=>Ω 0 Ob) aq).bind λEr=>(θ rY ι (p4 .z Er (ψ ⟨#[102,111,108,108,111,119]⟩)) aq).bind λEs=>(ir rY Es aC).bind λPd=>Γ Pd ((Zv 1 w (η 1)).bind λPe=>((Ψ Pe m).bind λOc=>Ω 0 Oc).bind λEt=>(nO [Et] m).bind λvr=>(j0 0 vr.1).bind λEu=>(j0 1 vr.1).bind λue=>(Lu .i ue (η 0)).bind λEv=>Γ Ev ((Zm z).bind λOf=>(Φ 11 (l7 [(η 0),aV,(η 0),(η 0),(η 0),(η 0),(η 0),IM,aC,(η 0),IM])).bind λOd=>(n4 0 Od Of).bind λOe=>(p9 0 11 Oe).bind λEw=>Θ σ (l6 [Ew,aC]) vr.2) ((YK 9 (UK σ.length 0)).bind λEx=>((n8 Eu).bind λv=>δ [v]).bind λOg=>(WG Ex Og vr.2).bind λvg=>(A.gV 1 w (δ (η 2)) μ vg).bind λxS=>Ii σ xS vg z)) (Ii σ w m z)
def Iy (σ:Heap) (bP:U) (vG:Heap):aL:=(sU [bP,(ψ ⟨#[32]⟩)] vG).bind λjt=>(ZJ jt.1).bind λeU=>(ZS eU (η 2)).bind λeD=>(θ eD ε (δ jt.1) aq).bind λgS=>(θ eD ε (Zv 1 gS (η 0)) aq).bind λgF=>(θ eD ε ((Ψ gF jt.2).bind λzC=>Ω 0 zC) aq).bind λeM=>(θ eD ε (Lu .z eM (ψ ⟨#[99,117,101]⟩)) aq).bind λcI=>(ir eD bH cI).bind λgB=>Γ gB ((Φ 11 (l7 [(η 0),aV,(η 0),(η 0),(η 0),(η 0),(η 0),IM,aC,(η 0),IM])).bind λvH=>(n4 0 vH [(η 0),aV,(η 0),(η 0),(η 0),(η 0),(η 0),IM,aC,(η 0),IM]).bind λzD=>(p9 0 11 zD).bind λey=>Θ σ (l6 [ey,aC]) jt.2) ((Zv 1 jt.1 (η 1)).bind λfk=>((Ψ fk jt.2).bind λsy=>Ω 0 sy).bind λia=>(Az [ia] jt.2).bind λjT=>(j0 0 jT.1).bind λgu=>(j0 1 jT.1).bind λfX=>(Zo fX).bind λgC=>Γ gC ((Φ 11 (l7 [(η 0),aV,(η 0),(η 0),(η 0),(η 0),(η 0),IM,aC,(η 0),IM])).bind λsA=>(n4 0 sA [(η 0),aV,(η 0),(η 0),(η 0),(η 0),(η 0),IM,aC,(η 0),IM]).bind λvK=>(p9 0 11 vK).bind λjv=>Θ σ (l6 [jv,aC]) jT.2) ((YK 0 (UK σ.length 0)).bind λjx=>((n8 gu).bind λv=>δ [v]).bind λzE=>(WG jx zE jT.2).bind λzF=>(A.gV 1 jt.1 (δ (η 2)) μ zF).bind λjU=>(YK 2 (UK σ.length 0)).bind λkN=>(YK 3 (UK σ.length 0)).bind λkC=>(YK 4 (UK σ.length 0)).bind λjy=>(YK 5 (UK σ.length 0)).bind λjz=>((((n8 kN).bind λv=>δ [v]).bind λzG=>(n4 0 zG [U.np,U.np,U.np,U.np]).bind λvL=>((n8 kC).bind λv=>δ [v]).bind λzH=>(n4 1 zH vL).bind λzI=>((n8 jy).bind λv=>δ [v]).bind λP9=>(n4 2 P9 zI).bind λzJ=>((n8 jz).bind λv=>δ [v]).bind λvM=>(n4 3 vM zJ).bind λE7=>δ E7).bind λcs=>δ (U.sl 1 (iO 1 4 cs))).bind λjA=>((((n8 (ψ ⟨#[100,101,108,97,121]⟩)).bind λv=>δ [v]).bind λzK=>(n4 0 zK [aV,aV,aV,aV]).bind λE8=>((n8 (ψ ⟨#[117,112]⟩)).bind λv=>δ [v]).bind λzL=>(n4 1 zL E8).bind λzM=>((n8 (ψ ⟨#[100,111,119,110]⟩)).bind λv=>δ [v]).bind λvN=>(n4 2 vN zM).bind λE9=>((n8 (ψ ⟨#[111,116,104,101,114]⟩)).bind λv=>δ [v]).bind λzN=>(n4 3 zN E9).bind λFa=>δ Fa).bind λcs=>δ (U.sl 1 (iO 1 4 cs))).bind λpI=>(ZJ pI).bind λnN=>(Zp (λeS qw=>(ZS (ak eS 3) nN).bind λqA=>Γ qA ((Zv 1 pI (ak eS 3)).bind λwC=>((Ψ wC qw).bind λFb=>Ω 0 Fb).bind λF6=>(ZJ (ak eS 2)).bind λRg=>(ZS Rg (η 2)).bind λmJ=>(θ mJ ε (δ (ak eS 2)) aq).bind λwD=>(θ mJ ε (Zv 1 wD (η 0)) aq).bind λAk=>(θ mJ ε ((Ψ Ak qw).bind λxV=>Ω 0 xV) aq).bind λAl=>(θ mJ ε (δ F6) aq).bind λRh=>(θ mJ ε (Lu .z Al Rh) aq).bind λF7=>(ir mJ bH F7).bind λAm=>Γ Am ((u9 (ak eS 3) (η 1)).bind λF8=>δ (y9,[(ak eS 0),(ak eS 1),(ak eS 2),F8],qw)) ((Zv 1 (ak eS 2) (η 1)).bind λF9=>((Ψ F9 qw).bind λQf=>Ω 0 Qf).bind λRi=>(nO [Ri] qw).bind λsM=>(j0 0 sM.1).bind λAn=>(j0 1 sM.1).bind λGa=>(Lu .i Ga (η 0)).bind λvD=>(θ vD ε (δ An) aq).bind λzl=>(θ vD ε (p4 .i zl (η 0)) aq).bind λzm=>(ir vD bH zm).bind λBV=>Γ BV ((Zm (ak eS 0)).bind λDy=>(Φ 11 (l7 [(η 0),aV,(η 0),(η 0),(η 0),(η 0),(η 0),IM,aC,(η 0),IM])).bind λN5=>(n4 0 N5 Dy).bind λN6=>δ (l8,[(Z3 N6),aC,(ak eS 2),(ak eS 3)],sM.2)) ((Zv 1 jA (ak eS 3)).bind λJa=>((Ψ Ja sM.2).bind λN7=>Ω 0 N7).bind λEi=>(A.mU Ei).bind λO9=>((n8 An).bind λv=>δ [v]).bind λN8=>(WG O9 N8 sM.2).bind λDz=>(A.gV 1 (ak eS 2) (δ (η 2)) μ Dz).bind λEj=>(u9 (ak eS 3) (η 1)).bind λEk=>δ (y9,[(ak eS 0),(ak eS 1),Ej,Ek],Dz)))) (δ (i6 0,[(ak eS 0),(ak eS 1),(ak eS 2),(ak eS 3)],qw))) [(Z3 [(η 0),aV,(η 0),(η 0),(η 0),(η 0),(η 0),IM,aC,(η 0),IM]),aC,jU,(η 0)] zF).bind λgD=>bif gD.1==i6 0 then((ZJ (ak gD.2.1 2)).bind λEl=>(ZR El (η 0)).bind λpZ=>(θ pZ ι (δ (ak gD.2.1 2)) aq).bind λPa=>(θ pZ ι (Zv 1 Pa (η 0)) aq).bind λEm=>(θ pZ ι ((Ψ Em gD.2.2).bind λN9=>Ω 0 N9) aq).bind λBW=>(θ pZ ι (p4 .z BW (ψ ⟨#[98,108,111,99,107]⟩)) aq).bind λEn=>(ir pZ En aC).bind λzn=>(Γ zn ((YK 8 (UK σ.length 0)).bind λEo=>((n8 bH).bind λv=>δ [v]).bind λOa=>(WG Eo Oa gD.2.2).bind λyZ=>(A.gV 1 (ak gD.2.1 2) (δ (η 1)) μ yZ).bind λPb=>δ ([(ak gD.2.1 0),Pb],yZ)) (δ ([(ak gD.2.1 0),(ak gD.2.1 2)],gD.2.2))).bind λgY=>MG σ (ak gY.1 1) gY.2 (ak gY.1 0))else bif gD.1==l8 then(((Zm (ak gD.2.1 0)).bind λDH=>p9 0 11 DH).bind λBY=>Θ σ (l6 [BY,(ak gD.2.1 1)]) gD.2.2)else μ))
def WZ (a0:U) (σ:Heap):aL:=((((n8 (η 1)).bind λv=>δ [v]).bind λc1=>(n4 0 c1 [(η 0),IM]).bind λc2=>δ c2).bind λcs=>δ (l7 cs)).bind λx3=>((((n8 (η (-1))).bind λv=>δ [v]).bind λc4=>(n4 9 c4 [(η 0),aV,(η 0),(η 0),(η 0),(η 0),(η 0),IM,aC,(η 0),IM]).bind λc5=>(Φ 2 x3).bind λc6=>(n4 6 c6 c5).bind λc7=>δ c7).bind λcs=>δ (l7 cs)).bind λx8=>(Φ 11 x8).bind λc9=>(WG (UK σ.length 0) c9 (σ++[bQ.box [(η 0),aV,(η 0),(η 0),(η 0),(η 0),(η 0),IM,aC,(η 0),IM]])).bind λdR=>(qB [a0,(ψ ⟨#[32,34]⟩)] dR).bind λeC=>(j0 0 eC.1).bind λbP=>(j0 1 eC.1).bind λbU=>(j0 2 eC.1).bind λcr=>Γ cr ((Au [bU,(ψ ⟨#[34]⟩)] eC.2).bind λiN=>(j0 0 iN.1).bind λcq=>(j0 1 iN.1).bind λdw=>(Zo dw).bind λcU=>(θ cU ε (δ cq) aq).bind λcE=>(θ cU ε (p4 .z cE aV) aq).bind λcK=>(ir cU bH cK).bind λbK=>Γ bK ((Φ 11 (l7 [(η 0),aV,(η 0),(η 0),(η 0),(η 0),(η 0),IM,aC,(η 0),IM])).bind λsw=>(n4 0 sw [(η 0),aV,(η 0),(η 0),(η 0),(η 0),(η 0),IM,aC,(η 0),IM]).bind λlM=>(p9 0 11 lM).bind λdM=>Θ σ (l6 [dM,aC]) iN.2) ((YK 1 (UK σ.length 0)).bind λdQ=>((n8 cq).bind λv=>δ [v]).bind λsx=>(WG dQ sx iN.2).bind λvG=>Iy σ bP vG)) (Iy σ a0 eC.2)
theorem aaw(a0:U)(σ:Heap):GD a0 σ=WZ a0 σ:=rfl
def qc:aP:=⟨0,⟨#[]⟩,0,0,0,0,⟨0,[]⟩,ε,0,[]⟩
def cb(c:aP)(P:U):ay:=[.ah c.aY,.str c.title,.ah c.br,.ah c.up,.ah c.down,.ah c.other,.ah c.bS.kind,P,.bool c.block,.ah c.dr,.aD]
def zb:ay:=[(η 0),aV,(η 0),(η 0),(η 0),(η 0),(η 0),IM,aC,(η 0),IM]
theorem tJ{σ:Heap}{cs cs' new:ay}{off:Nat}(h:n4 off new cs=δ cs'):WG (.op σ.length off) new (σ++[.box cs])=δ (σ++[.box cs']):=by simp [WG,vk,IJ,h]
theorem VJ(σ:Heap)(cs:ay):Ψ (.op σ.length 0) (σ++[.box cs])=δ cs:=by simp [Ψ,vk]
theorem agV{P:U}(c:aP)(hP:Fz P):Fz (.agg (cb c P)):=It (cS (fO _ _) (cS (uQ _) (cS (fO _ _) (cS (fO _ _) (cS (fO _ _) (cS (fO _ _) (cS (fO _ _) (cS hP (cS (Bn _) (cS (fO _ _) (cS uP nZ)))))))))))
theorem xe{P:U}(c:aP)(b:Bool)(hP:Fz P)(σ bs:Heap):Θ σ (.az [.agg (cb c P),.bool b]) (σ++bs)=δ (.az [.agg (cb c P),.bool b],σ):=VQ bs (VX (cS (agV c hP) (cS (Bn _) nZ)))
abbrev shC:Sh:=.t [(.a [.k,.k,.k,.k,.k,.k,.k,(.s 2),.k,.k,.k]),.k]
def pO(c:aP):ay:=cb c (sl 2 cx c.bS.bp)
def QC(σ:Heap)(t:aP×Bool)(b:U×Heap):Prop:=(V3 shC b.1=.az [.agg (pO t.1),.bool t.2]/\b.2=σ)/\t.1.bJ=[]
theorem BR(σ:Heap):QC σ (qc,ε) (.az [.agg zb,.bool ε],σ):=⟨⟨rfl,rfl⟩,rfl⟩
theorem ajB{c:aP}{b:Bool}(σ:Heap)(hm:c.bJ=[])(hp:c.bS.bp=[]):QC σ (c,b) (.az [.agg (cb c .aD),.bool b],σ):=by obtain⟨n,t,d,u,w,o,⟨k,p⟩,bl,f,m⟩:=c;subst hm hp;exact⟨⟨rfl,rfl⟩,rfl⟩
theorem ajC{c:aP}{b:Bool}(σ:Heap)(hm:c.bJ=[]):QC σ (c,b) (.az [.agg (cb c (sl 2 cx c.bS.bp)),.bool b],σ):=by obtain⟨n,t,d,u,w,o,⟨k,p⟩,bl,f,m⟩:=c;subst hm;exact⟨⟨rfl,rfl⟩,rfl⟩
theorem agj(l:List eA):Fz (sl 2 cx l):=xq Mg l
def yP (c:aP) (w:List ByteArray):Option (aP×Bool):=
 (if decide (1<(w.length:Int))=ι then cJ w 0 else δ default).bind λx=>
 if((decide (1<(w.length:Int)))&&(decide (x=(⟨#[99,117,114,118,101]⟩:ByteArray))))=ι then
  (ju w (δ 1) μ).bind λy=>
  (tq (y.length<=140737488355328/\(Lib.join (y.map lZ) (lZ (⟨#[32]⟩:ByteArray))).length<=140737488355328) (xx y (⟨#[32]⟩:ByteArray))).bind λs=>
  (Ay s).bind λr=>
  if((decide (¬(r.2=0)))||(decide (r.1.kind=1)))=ι then δ (qc,ε)
  else δ ({c with bS:=r.1},ι)
 else δ (c,decide ((w.length:Int)=0))
theorem Tx(σ:Heap)(c:aP)(w:List ByteArray)(hm:c.bJ=[])(hp:c.bS.bp=[]):Rf (Ii σ (sl 1 cO w) (σ++[.box (cb c .aD)]) (.lbx zb)) (yP c w) (QC σ):=by
 unfold Ii yP;refine aj _ (dc _ _ _)<|aj _ rfl<|bz (sl 1 cO w) (λhg=>rfl) ?_;refine oM (ω:=ByteArray) (λx=>(T3 [(ψ x)])) (λhg x hx=>by(try rw[hg]);exact fP hx) (λx hx=>?_);refine bz (ψ x) (λhg=>by(try rw[hg]);exact rfl)<|bz (φ (decide (x=(⟨#[99,117,114,118,101]⟩:ByteArray)))) (λhg=>by(try rw[hg]);exact kW _ _)<|aj _ (eY _ _) ?_
 refine cA (c:=((decide (1<(w.length:Int)))&&(decide (x=(⟨#[99,117,114,118,101]⟩:ByteArray))))) (λc1=>?_) (λc1=>?_)
 ·refine aK (λy:(List ByteArray)=>(sl 1 cO y)) (λy hy=>(rJ hy)) (λy hy=>?_);refine aK (λs:ByteArray=>((ψ s),σ++[.box (cb c .aD)])) (λs hs=>(eT (e:=λs:ByteArray=>((ψ s),σ++[.box (cb c .aD)])) (λh=>aeO y (⟨#[32]⟩:ByteArray) h _) hs)) (λs hs=>?_);refine aK (λr:(fZ×Int)=>((l6 [(l7 (jE r.1)),(η r.2)]),σ++[.box (cb c .aD)])) (λr hr=>am4 hr) (λr hr=>?_);refine aj _ rfl<|aj _ rfl<|aj (jE r.1) rfl<|aj (jE r.1) rfl<|aj _ (fC _ _ _)<|bD (η r.1.kind) (λhg=>by(try rw[hg]);exact rfl)<|bD (φ (decide (r.1.kind=1))) (λhg=>by(try rw[hg]);exact eG _ _ _)<|aj _ (eW _ _) ?_
  refine cA (c:=((decide (¬(r.2=0)))||(decide (r.1.kind=1)))) (λc2=>?_) (λc2=>?_)
  ·refine aj zb rfl<|aj zb rfl<|aj zb rfl<|aj (.agg zb) rfl ?_;exact aU _ (xe qc ε uP _ _) (BR σ)
  ·refine aj (.agg (jE r.1)) rfl<|aj _ rfl<|aj (jE r.1) rfl<|aj _ (tJ (cs':=cb {c with bS:=r.1} (sl 2 cx r.1.bp)) rfl) ?_;refine aj (.agg (cb {c with bS:=r.1} (sl 2 cx r.1.bp))) (bE (VJ _ _) rfl)<|aj _ rfl<|aj _ rfl<|aj _ rfl<|aj _ rfl<|aj _ rfl<|aj _ rfl ?_;exact aU _ (xe {c with bS:=r.1} ι (agj _) _ _) (ajC (c:={c with bS:=r.1}) σ hm)
 ·refine aj (.agg (cb c .aD)) (bE (VJ _ _) rfl)<|aj _ (dc _ _ _)<|aj _ (eG _ _ _)<|aj _ rfl<|aj (cb c .aD) rfl<|aj (cb c .aD) rfl<|aj (.agg (cb c .aD)) rfl ?_;exact aU _ (xe c _ uP _ _) (ajB σ hm hp)
def Bh (c:aP) (w:List ByteArray):Option (aP×Bool):=
 (if decide (1<(w.length:Int))=ι then cJ w 0 else δ default).bind λx=>
 if((decide (1<(w.length:Int)))&&(decide (x=(⟨#[102,111,108,108,111,119]⟩:ByteArray))))=ι then
  (cJ w 1).bind λy=>
  (lU y).bind λr=>
  if ¬(r.2=0)then δ (qc,ε)
  else(ju w (δ 2) μ).bind λw2=>yP {c with dr:=r.1} w2
 else yP c w
theorem acr(σ:Heap)(c:aP)(w:List ByteArray)(hm:c.bJ=[])(hp:c.bS.bp=[]):Rf (MG σ (sl 1 cO w) (σ++[.box (cb c .aD)]) (.lbx zb)) (Bh c w) (QC σ):=by
 unfold MG Bh;refine aj _ (dc _ _ _)<|aj _ rfl<|bz (sl 1 cO w) (λhg=>rfl) ?_;refine oM (ω:=ByteArray) (λx=>(T3 [(ψ x)])) (λhg x hx=>by(try rw[hg]);exact fP hx) (λx hx=>?_);refine bz (ψ x) (λhg=>by(try rw[hg]);exact rfl)<|bz (φ (decide (x=(⟨#[102,111,108,108,111,119]⟩:ByteArray)))) (λhg=>by(try rw[hg]);exact kW _ _)<|aj _ (eY _ _) ?_
 refine cA (c:=((decide (1<(w.length:Int)))&&(decide (x=(⟨#[102,111,108,108,111,119]⟩:ByteArray))))) (λc1=>?_) (λc1=>?_)
 ·refine aK (λy:ByteArray=>(T3 [(ψ y)])) (λy hy=>fP hy) (λy hy=>?_);refine aj _ rfl ?_;refine aK (λr:(Int×Int)=>((l6 [(η r.1),(η r.2)]),σ++[.box (cb c .aD)])) (λr hr=>wJ hr) (λr hr=>?_);refine aj _ rfl<|aj _ rfl<|aj _ (fC _ _ _) ?_;refine cP (p:=¬(r.2=0)) (λc2=>?_) (λc2=>?_)
  ·refine aj zb rfl<|aj zb rfl<|aj zb rfl<|aj (.agg zb) rfl ?_;exact aU _ (xe qc ε uP _ _) (BR σ)
  ·refine aj _ rfl<|aj _ rfl<|aj _ (tJ (cs':=cb {c with dr:=r.1} .aD) rfl) ?_;refine aK (λy:(List ByteArray)=>(sl 1 cO y)) (λy hy=>(rJ hy)) (λw2 Jv=>?_);exact Tx σ {c with dr:=r.1} w2 hm hp
 ·exact Tx σ c w hm hp
def zi(i:Nat)(t:Int)(c:aP):aP:=match i with
 |0=>{c with br:=t}|1=>{c with up:=t}|2=>{c with down:=t}|_=>{c with other:=t}
theorem Wg(i:Nat)(t:Int)(c:aP):(zi i t c).bJ=c.bJ/\(zi i t c).bS=c.bS:=by unfold zi;split<;>exact⟨rfl,rfl⟩
def WY(n:Nat):U:=.sl 1 [[.op n 2],[.op n 3],[.op n 4],[.op n 5]]
theorem afl{i:Nat}(n:Nat)(h:i<4):Zv 1 (WY n) (.ah (i:Int))=δ (.rp [.op n (2+i)]):=by
 match i,h with
 |0,_=>rfl
 |1,_=>rfl
 |2,_=>rfl
 |3,_=>rfl
theorem ajJ{i:Nat}(h:i<4)(σ:Heap)(c:aP)(t:Int):WG (.op σ.length (2+i)) [.ah t] (σ++[.box (cb c .aD)])=δ (σ++[.box (cb (zi i t c) .aD)]):=by
 match i,h with
 |0,_=>exact tJ rfl
 |1,_=>exact tJ rfl
 |2,_=>exact tJ rfl
 |3,_=>exact tJ rfl
def Wj:List ByteArray:=[⟨#[100,101,108,97,121]⟩,⟨#[117,112]⟩,⟨#[100,111,119,110]⟩,⟨#[111,116,104,101,114]⟩]
def BA (c:aP) (s:ByteArray):Option (aP×Bool):=
 (tq (s.size<4294967281/\1<=(⟨#[32]⟩:ByteArray).size) (mS s (⟨#[32]⟩:ByteArray))).bind λw=>
 (if(!(decide ((w.length:Int)<2)))=ι then cJ w 0 else δ default).bind λx=>
 if((decide ((w.length:Int)<2))||(decide (¬(x=(⟨#[99,117,101]⟩:ByteArray)))))=ι then δ (qc,ε)
 else
 (cJ w 1).bind λy=>
 (yz y).bind λr=>
 if(!r.2)=ι then δ (qc,ε)
 else
 (ju w (δ 2) μ).bind λw2=>
 gL Wj (λ(i:Nat)e(q:aP×List ByteArray)=>(
  (if(!(decide ((q.2.length:Int)<2)))=ι then cJ q.2 0 else δ default).bind λx=>
  if((decide ((q.2.length:Int)<2))||(decide (¬(x=e))))=ι then δ (Lr.go q)
  else
  (cJ q.2 1).bind λy=>
  (lU y).bind λr=>
  if((decide (¬(r.2=0)))||(decide (r.1=0)))=ι then δ (.ret ())
  else
  (ju q.2 (δ 2) μ).bind λw3=>δ (.go (zi i r.1 q.1,w3)))) (λq=>δ q) ({c with aY:=r.1},w2) (λq=>
  (if decide (0<(q.2.length:Int))=ι then cJ q.2 0 else δ default).bind λx=>
  ((if((decide (0<(q.2.length:Int)))&&(decide (x=(⟨#[98,108,111,99,107]⟩:ByteArray))))=ι then(ju q.2 (δ 1) μ).bind λw3=>δ ({q.1 with block:=ι},w3)else δ q):Option (aP×List ByteArray)).bind λq=>
  Bh q.1 q.2) (λ_:Unit=>δ (qc,ε))
theorem Us(σ:Heap)(c:aP)(s:ByteArray)(hm:c.bJ=[])(hp:c.bS.bp=[]):Rf (Iy σ (.str s) (σ++[.box (cb c .aD)])) (BA c s) (QC σ):=by
 unfold Iy BA;refine aK (λw:(List ByteArray)=>((sl 1 cO w),σ++[.box (cb c .aD)])) (λw hw=>(eT (e:=λr:(List ByteArray)=>((sl 1 cO r),σ++[.box (cb c .aD)])) (λhs=>He s (⟨#[32]⟩:ByteArray) hs _)) hw) (λw hw=>?_);refine aj _ (dc _ _ _)<|aj _ rfl<|bD (sl 1 cO w) (λhg=>rfl) ?_;refine Iz (ω:=ByteArray) (λx=>(T3 [(ψ x)])) (λhg x hx=>by(try rw[hg]);exact fP hx) (λx hx=>?_)
 refine bD (ψ x) (λhg=>by(try rw[hg]);exact rfl)<|bD (φ (decide (¬(x=(⟨#[99,117,101]⟩:ByteArray))))) (λhg=>by(try rw[hg]);exact pX _ _)<|aj _ (eW _ _) ?_
 refine cA (c:=((decide ((w.length:Int)<2))||(decide (¬(x=(⟨#[99,117,101]⟩:ByteArray)))))) (λc1=>?_) (λc1=>?_)
 ·refine aj zb rfl<|aj zb rfl<|aj (.agg zb) rfl ?_;exact aU _ (xe qc ε uP _ _) (BR σ)
 refine aK (λy:ByteArray=>(T3 [(ψ y)])) (λy hy=>fP hy) (λy hy=>?_);refine aj _ rfl ?_;refine aK (λr:(Int×Bool)=>((l6 [(η r.1),(φ r.2)]),σ++[.box (cb c .aD)])) (λr hr=>am0 hr) (λr hr=>?_);refine aj _ rfl<|aj _ rfl<|aj _ rfl ?_;refine cA (c:=!r.2) (λc2=>?_) (λc2=>?_)
 ·refine aj zb rfl<|aj zb rfl<|aj (.agg zb) rfl ?_;exact aU _ (xe qc ε uP _ _) (BR σ)
 refine aj _ rfl<|aj _ rfl<|aj _ (tJ (off:=0) (cs':=cb {c with aY:=r.1} .aD) rfl) ?_;refine aK (λy:(List ByteArray)=>(sl 1 cO y)) (λy hy=>(rJ hy)) (λw2 Jv=>?_);refine aj _ rfl<|aj _ rfl<|aj _ rfl<|aj _ rfl<|aj (WY σ.length) rfl<|aj (sl 1 cO Wj) rfl<|aj _ (dc _ _ _) ?_;refine lB (B:=aP×List ByteArray) (R:=Unit) (λ(i:Nat)(q:aP×List ByteArray)v m=>v=[(Z3 zb),aC,(sl 1 cO q.2),(η (i:Int))]/\m=σ++[.box (cb q.1 .aD)]/\q.1.bJ=[]/\q.1.bS.bp=[]) (λ(b:aP×List ByteArray)(q:LS)=>(∃u,q=((i6 0),([(Z3 zb),aC,(sl 1 cO b.2),u]:ay),σ++[.box (cb b.1 .aD)]))/\b.1.bJ=[]/\b.1.bS.bp=[]) (λ(_:Unit)(q:LS)=>∃u v bs,q=(l8,[(Z3 zb),aC,u,v],σ++bs)) ?_ ?_ ⟨rfl,rfl,hm,hp⟩ ?_ ?_
 ·intro hle i e q v m he hI;obtain⟨rfl,rfl,hm,hp⟩:=hI;have hi:i<4:=(cD.1 he).1;refine aj _ (kS he)<|lF<|aj _ (kF he)<|aj _ rfl<|aj _ (dc _ _ _)<|aj _ rfl<|bD (sl 1 cO q.2) (λhg=>rfl) ?_;refine Iz (ω:=ByteArray) (λx=>(T3 [(ψ x)])) (λhg x hx=>by(try rw[hg]);exact fP hx) (λx hx=>?_);refine bD (ψ x) (λhg=>by(try rw[hg]);exact rfl)<|bD (ψ e) (λhg=>rfl)<|bD (φ (decide (¬(x=e)))) (λhg=>by(try rw[hg]);exact pX _ _)<|aj _ (eW _ _) ?_;refine cA (c:=((decide ((q.2.length:Int)<2))||(decide (¬(x=e))))) (λc1=>?_) (λc1=>?_)
  ·refine aj _ (kG he hle) ?_;exact bu (jF ⟨rfl,rfl,hm,hp⟩)
  refine aK (λy:ByteArray=>(T3 [(ψ y)])) (λy hy=>fP hy) (λy hy=>?_);refine aj _ rfl ?_;refine aK (λr:(Int×Int)=>((l6 [(η r.1),(η r.2)]),σ++[.box (cb q.1 .aD)])) (λr hr=>wJ hr) (λr hr=>?_);refine aj _ rfl<|aj _ rfl<|aj _ (fC _ _ _)<|bD (η r.1) (λhg=>rfl)<|bD (φ (decide (r.1=0))) (λhg=>by(try rw[hg]);exact eG _ _ _)<|aj _ (eW _ _) ?_;refine cA (c:=((decide (¬(r.2=0)))||(decide (r.1=0)))) (λc2=>?_) (λc2=>?_)
  ·refine aj zb rfl<|aj zb rfl<|aj zb rfl ?_;exact bu (fR (by simp) ⟨_,_,_,rfl⟩)
  refine aj _ (afl σ.length hi)<|aj _ rfl<|aj _ rfl<|aj _ rfl<|aj _ (ajJ hi σ q.1 r.1) ?_;refine aK (λy:(List ByteArray)=>(sl 1 cO y)) (λy hy=>(rJ hy)) (λw3 hw3=>?_);refine aj _ (kG he hle) ?_;exact bu (jF ⟨rfl,rfl,by rw[(Wg _ _ _).1];exact hm,by rw[(Wg _ _ _).2];exact hp⟩)
 ·intro hl q v m hI;obtain⟨rfl,rfl,hm,hp⟩:=hI;refine aj _ (kQ _)<|lE ?_;exact bu ⟨by simp,⟨_,rfl⟩,hm,hp⟩
 ·intro hl b q hq;obtain⟨⟨u,rfl⟩,hm,hp⟩:=hq;refine fD rfl<|aj _ (dc _ _ _)<|aj _ rfl<|bz (sl 1 cO b.2) (λhg=>rfl) ?_;refine oM (ω:=ByteArray) (λx=>(T3 [(ψ x)])) (λhg x hx=>by(try rw[hg]);exact fP hx) (λx hx=>?_);refine bz (ψ x) (λhg=>by(try rw[hg]);exact rfl)<|bz (φ (decide (x=(⟨#[98,108,111,99,107]⟩:ByteArray)))) (λhg=>by(try rw[hg]);exact kW _ _)<|aj _ (eY _ _) ?_
  refine nj (ω:=aP×List ByteArray) (λq a=>a=(([(Z3 zb),(sl 1 cO q.2)]:ay),σ++[.box (cb q.1 .aD)])/\q.1.bJ=[]/\q.1.bS.bp=[]) ?_ ?_
  ·refine cA (c:=((decide (0<(b.2.length:Int)))&&(decide (x=(⟨#[98,108,111,99,107]⟩:ByteArray))))) (λc1=>?_) (λc1=>?_)
   ·refine aj _ rfl<|aj _ rfl<|aj _ (tJ (cs':=cb {b.1 with block:=ι} .aD) rfl) ?_;refine aK (λy:(List ByteArray)=>(sl 1 cO y)) (λy hy=>(rJ hy)) (λw3 hw3=>?_);exact bu ⟨rfl,hm,hp⟩
   ·exact bu ⟨rfl,hm,hp⟩
  ·intro q a ha;obtain⟨rfl,hm,hp⟩:=ha;exact acr σ q.1 q.2 hm hp
 ·intro hl b q hq;obtain⟨u,v,bs,rfl⟩:=hq;refine oo rfl<|fD rfl<|aj (.agg zb) rfl ?_;exact aU _ (xe qc ε uP _ _) (BR σ)
def oP:aP:=⟨0,⟨#[]⟩,0,0,0,0,⟨1,[]⟩,ε,-1,[]⟩
def yC (a0:ByteArray):Option (aP×Bool):=
 (tq (a0.size<4294967281) (iL a0 (⟨#[32,34]⟩:ByteArray))).bind λr=>
 if r.2.2=ι then
  (yx r.2.1 (⟨#[34]⟩:ByteArray)).bind λq=>
  if((!q.2)||(decide (q.1=(⟨#[]⟩:ByteArray))))=ι then δ (qc,ε)
  else BA {oP with title:=q.1} r.1
 else BA oP a0
theorem aew{τ:Type}{ro:Bool}{dF:List Sh}{dO:Sh}{f:U->Heap->aL}{x0 y0:U}{σ:Heap}{T:Option τ}{enc:τ->U}{p:τ->Prop}(hn:VD dF [x0]=[y0])(h:([x0]:ay).any A.own=ε)(e:Rf (f y0 σ) T (λt b=>(V3 dO b.1=enc t/\b.2=σ)/\p t)):∀t,T=δ t->l9 ro dF dO (Tu f) [x0] σ=δ (enc t,σ)/\p t:=by
 intro t ht;refine⟨je hn h (λt ht=>?_) t ht,?_⟩
 ·obtain⟨b,h1,h2⟩:=e t ht;exact⟨b,h1,h2.1⟩
 ·obtain⟨b,h1,h2⟩:=e t ht;exact h2.2
theorem aar{a0:ByteArray}{σ:Heap}{r:(aP×Bool)}(h:yC a0=δ r):KS [(ψ a0)] σ=δ ((l6 [(l7 (pO r.1)),(φ r.2)]),σ)/\r.1.bJ=[]:=by
 refine aew (f:=GD) (y0:=(ψ a0)) (enc:=λr:(aP×Bool)=>(l6 [(l7 (pO r.1)),(φ r.2)])) (p:=λr=>r.1.bJ=[]) (T:=yC a0) rfl rfl ?_ r h;rw[aaw];show Rf _ _ (QC σ);unfold WZ yC;refine aj (.agg [.ah 1,.aD]) rfl<|aj (.agg (cb oP .aD)) rfl<|aj (cb oP .aD) rfl<|aj _ (tJ (cs':=cb oP .aD) rfl) ?_;refine aK (λr:(ByteArray×ByteArray×Bool)=>((l6 [(ψ r.1),(ψ r.2.1),(φ r.2.2)]),σ++[.box (cb oP .aD)])) (λr hr=>(eT (e:=λr:(ByteArray×ByteArray×Bool)=>((l6 [(ψ r.1),(ψ r.2.1),(φ r.2.2)]),σ++[.box (cb oP .aD)])) (λhs=>yQ a0 (⟨#[32,34]⟩:ByteArray) hs _)) hr) (λr hr=>?_);refine aj _ rfl<|aj _ rfl<|aj _ rfl ?_;refine cA (c:=r.2.2) (λc1=>?_) (λc1=>?_)
 ·refine aK (λq:(ByteArray×Bool)=>((l6 [(ψ q.1),(φ q.2)]),σ++[.box (cb oP .aD)])) (λq hq=>aoc hq) (λq hq=>?_);refine aj _ rfl<|aj _ rfl<|aj _ rfl<|bD (ψ q.1) (λhg=>rfl)<|bD (φ (decide (q.1=(⟨#[]⟩:ByteArray)))) (λhg=>by(try rw[hg]);exact kW _ _)<|aj _ (eW _ _) ?_
  refine cA (c:=((!q.2)||(decide (q.1=(⟨#[]⟩:ByteArray))))) (λc2=>?_) (λc2=>?_)
  ·refine aj zb rfl<|aj zb rfl<|aj (.agg zb) rfl ?_;exact aU _ (xe qc ε uP _ _) (BR σ)
  ·refine aj _ rfl<|aj _ rfl<|aj _ (tJ (cs':=cb {oP with title:=q.1} .aD) rfl) ?_;exact Us σ {oP with title:=q.1} r.1 rfl rfl
 ·exact Us σ oP a0 rfl rfl
section
open HP
section
variable {aM σ : Heap} {R : HP}
theorem aga{p:U}{F:ay->HP}{e:ay}{x:aP}(m:aJ)(hC:Cl p F)(H:Hs gz aM σ (F e*(kI e x*R)))(hl:x.bJ.length+1<=2199023255552):
  ∃q vm v' σ1 σ2 e',YK 10 p=δ q/\((Ψ q σ).bind λc=>Ω 0 c)=δ vm/\SI 8 (140737488355328 / 64) vm (.sl 8 [aW m]) σ=δ (v',σ1)/\n8 v'=δ v'/\WG q [v'] σ1=δ σ2/\Hs gz aM σ2 (F e'*(kI e' {x with bJ:=x.bJ++[m]}*R)):=by
 obtain⟨vp,vm,he,K⟩:=OC (fT (show _=tV (Sl (fl aW) 8) e x*(F e*R)from by rw[show kI e x=tV (Sl (fl aW) 8) e x from rfl];ac_rfl) H);have sF:Hs gz aM σ (Sl (fl aW) 8 vm x.bJ*(F e*(Sf cx 2 vp x.bS.bp*R))):=fT (by ac_rfl) K;have hcell:=UJ sF;subst he;obtain⟨q,a1,a2,a3⟩:=hC.fa 10
 have f2:((Ψ q σ).bind λc=>Ω 0 c)=δ vm:=by rw[a2 H,aB];simp only[mg,List.drop_succ_cons,apf,Ω,SD,aB];exact hcell
 have hap:Hs gz aM σ (Sl (fl aW) 8 vm x.bJ*(els (fl aW) [aW m] [m]*(F (mg x vp vm)*(Sf cx 2 vp x.bS.bp*R)))):=by rw[aok];refine fT (show pr (aW m=aW m)*(Sl (fl aW) 8 vm x.bJ*(F (mg x vp vm)*(Sf cx 2 vp x.bS.bp*R)))=_ by rw[show fl aW (aW m) m=pr (aW m=aW m)from rfl];ac_rfl) (tO.2 ⟨rfl,sF⟩)
 obtain⟨v',σ1,e1,H1⟩:=Wh (most:=140737488355328 / 64) hap (by simpa using hl) (λ_ _ _ _=>trivial);have zS:=UJ H1;have H1':Hs gz aM σ1 (F (mg x vp vm)*(Sl (fl aW) 8 v' (x.bJ++[m])*(Sf cx 2 vp x.bS.bp*R))):=fT (by ac_rfl) H1;obtain⟨σ2,s1,H2⟩:=a3 (new:=[v']) (e':=mg x vp v') H1' rfl;refine⟨q,vm,v',σ1,σ2,mg x vp v',a1,f2,e1,zS,s1,?_⟩;have:=MR (M:=Sl (fl aW) 8) (x:={x with bJ:=x.bJ++[m]}) (e:=mg x vp v') (vp:=vp) (vm:=v') (R:=F (mg x vp v')*R) (B:=gz) (aM:=aM) (σ:=σ2) rfl (fT (by ac_rfl) H2);exact fT (by rw[show kI (mg x vp v') {x with bJ:=x.bJ++[m]}=tV (Sl (fl aW) 8) (mg x vp v') {x with bJ:=x.bJ++[m]}from rfl];ac_rfl) this
theorem af9{V:U}{l:List aP}(c:aP)(hm:c.bJ=[])(H:Hs gz aM σ (Sl kI 11 V l*R))(hl:l.length+1<=1099511627776):
  ∃v' σ',SI 11 (140737488355328 / 128) V (.sl 11 [pO c]) σ=δ (v',σ')/\Hs gz aM σ' (Sl kI 11 v' (l++[c])*R):=by
 refine Wh (most:=140737488355328 / 128) (ys:=[pO c]) (xs:=[c]) ?_ (by simpa using hl) (λ_ _ _ _=>trivial);rw[aok]
 have h1:Hs gz aM σ (Sf cx 2 (sl 2 cx c.bS.bp) c.bS.bp*(Sl (fl aW) 8 .aD c.bJ*(Sl kI 11 V l*R))):=by rw[hm];exact agH (JL H (.inl rfl))
 have:=MR (M:=Sl (fl aW) 8) (x:=c) (e:=pO c) (vp:=sl 2 cx c.bS.bp) (vm:=.aD) rfl h1;exact fT (by rw[show kI (pO c) c=tV (Sl (fl aW) 8) (pO c) c from rfl];ac_rfl) this
theorem ad4{v:U}{l:List aP}{n e:Int}(H:Hs gz aM σ (Sl tU 11 v l*R)):∃v',Θ aM (.az [v,.ah n,.ah e]) σ=δ (.az [v',.ah n,.ah e],aM)/\V3 (.e 11 uY) v'=sl 11 bY l:=by
 obtain⟨v',h1,h2,h3⟩:=TX H (cg _) 6;refine⟨v',VR H (by simp [ZG,UU,h1]) (λe=>?_),h3⟩;rcases tg H with⟨rfl,rfl|rfl,_⟩|⟨id,g,seg,rfl,hl,K⟩
 ·simp [ZG]at h1;rw[h1]
 ·simp [ZG]at h1;rw[h1]
 ·obtain⟨k1,k2⟩:=xg K;have:=(cD.1 k2).1;subst e;omega
theorem T8{n e:Int}(H:Hs gz aM σ R):Θ aM (.az [.aD,.ah n,.ah e]) σ=δ (.az [.aD,.ah n,.ah e],aM):=VR H (by simp [ZG,UU]) (λ_=>rfl)
end
end
section
open HP
def BH(l:List aP)(m:aJ):List aP:=match l[l.length-1]? with
 |some c=>l.set (l.length-1) {c with bJ:=c.bJ++[m]}
 |none=>l
def Ds(l:List aP):Bool:=match l[l.length-1]? with
 |some c=>decide (c.bJ.length+1<=2199023255552/\l.length<=1099511627776)
 |none=>ε
def rG(q:List ByteArray×Bool)(i:Nat):Bool:=q.2||decide ((i:Int)<ξ.wrap ((q.1.length:Int) -1))
def CM (a0:ef) (a1:List fY) (a2:ByteArray):Option (List aP×Int×Int):=
 (yw a0 a1).bind λr1=>
 (tq (([r1,if decide (600000<(a2.size:Int))=ι then 2 else 0]:(List Int)).length<=cz) ((([r1,if decide (600000<(a2.size:Int))=ι then 2 else 0]:(List Int)).find? λn=>decide (¬n=0)).getD 0)).bind λr2=>
 if ¬(r2=0)then δ ([],0,r2)
 else
 (AT a2).bind λq=>
 gL q.1 (λ(i:Nat)e(l:List aP)=>(
  (wF e (⟨#[32,32]⟩:ByteArray)).bind λp=>
  ((if((rG q i&&p.2)&&decide (0<(l.length:Int)))=ι then
    (wK p.1).bind λm=>if Ds l=ι then δ (BH l m.1,m.2)else μ
   else if rG q i=ι then
    (yC e).bind λc=>if l.length+1<=1099511627776 then δ (l++[c.1],c.2)else μ
   else δ (l,rG q i)):Option (List aP×Bool)).bind λs=>
  if(!s.2)=ι then δ (Lr.ret (ξ.wrap ((i:Int)+1)))else δ (.go s.1))) (λl=>δ l) [] (λl=>
  (yB a0 a1 l).bind λr3=>
  if ¬(r3=0)then δ ([],0,r3)else δ (l,0,0)) (λn:Int=>δ ([],n,9))
theorem ahe{α β τ:Type}{M0:Option α}{K:α->Option β}{T:Option τ}{Q:τ->β->Prop}(Q0:τ->α->Prop)(h:Rf M0 T Q0)(k:∀t a,Q0 t a->∃b,K a=δ b/\Q t b):Rf (M0.bind K) T Q:=by intro t ht;obtain⟨a,h1,h2⟩:=h t ht;obtain⟨b,h3,h4⟩:=k t a h2;exact⟨b,by rw[h1];exact h3,h4⟩
theorem ahf{α β τ ω:Type}{M0:Option α}{K:α->Option β}{o:Option ω}{K':ω->Option τ}{Q:τ->β->Prop}(e:ω->α){p:ω->Prop}(h:∀t,o=δ t->M0=δ (e t)/\p t)(k:∀t,o=δ t->p t->Rf (K (e t)) (K' t) Q):Rf (M0.bind K) (o.bind K') Q:=
 aK e (λt ht=>(h t ht).1) (λt ht=>k t ht (h t ht).2)
theorem ahb{σ:Heap}(r:ef):Lt σ (.a [(.e 3 vE),(.s 4)]) (.agg (cR r)) (.agg (cR r)):=WW (It (aff r)) rfl
theorem aej{l:List aP}(h:0<(l.length:Int)):∃c,l[l.length-1]? =δ c:=⟨_,cy (by omega)⟩
theorem ab9{a0:ef}{a1:(List fY)}{a2:ByteArray}{σ:Heap}{r:(List aP×Int×Int)}(h:CM a0 a1 a2=δ r):LY [(l7 (cR a0)),(sl 3 gT a1),(.str a2)] σ=δ (.az [sl 11 bY r.1,(η r.2.1),(η r.2.2)],σ):=by
 refine Hy (f:=L5) (y0:=(l7 (cR a0))) (y1:=(sl 3 gT a1)) (y2:=(.str a2)) (enc:=λr:(List aP×Int×Int)=>.az [sl 11 bY r.1,(η r.2.1),(η r.2.2)]) (T:=CM a0 a1 a2) (fB (BP (fB (ng (λ_=>(fB rfl (fB rfl (fB (ng (λ_=>rfl) _) rP)))) _) (fB rfl rP))) (fB (ng (λ_=>rfl) _) rfl)) rfl ?_ r h;unfold L5 CM;refine aj (cR a0) rfl<|aj (.agg (cR a0)) rfl ?_;refine aK (λr1:Int=>((η r1),σ)) (λr1 bN=>Ro bN) (λr1 bN=>?_);refine aj _ rfl<|aj _ rfl<|aj _ (C1 _ _ σ)<|aj (sl 1 xF ([r1,if decide (600000<(a2.size:Int))=ι then 2 else 0]:(List Int))) rfl ?_;refine aK (λr2:Int=>((η r2),σ)) (λr2 hr2=>(eT (e:=λr:Int=>((η r),σ)) (λhs=>Mt _ hs σ)) hr2) (λr2 hr2=>?_);refine aj _ (fC _ _ _) ?_;refine cP (p:=¬(r2=0)) (λc1=>?_) (λc1=>?_)
 ·exact aU _ (bf _ _) ⟨rfl,rfl⟩
 refine aK (λq:(List ByteArray×Bool)=>(l6 [(sl 1 cO q.1),(φ q.2)],σ)) (λq hq=>aa3 hq) (λq hq=>?_);refine aj _ rfl<|aj _ rfl<|aj _ (dc _ _ _) ?_;refine lB (B:=List aP) (R:=Int) (λ(i:Nat)(l:List aP)v m=>∃V,v=[(Z3 (cR a0)),IM,(η 0),(η 0),V,(η (i:Int))]/\Hs gz σ m (Sl kI 11 V l*emp)) (λ(b:List aP)(q:LS)=>∃V u m,q=((i6 0),([(Z3 (cR a0)),IM,(η 0),(η 0),V,u]:ay),m)/\Hs gz σ m (Sl kI 11 V b*emp)) (λ(n:Int)(q:LS)=>∃V u m,q=(l8,[(Z3 (cR a0)),IM,(η n),(η 9),V,u],m)/\Hs gz σ m emp) ?_ ?_ ⟨.aD,rfl,JL (agr σ) (.inl rfl)⟩ ?_ ?_
 ·intro hle i e l v m he hI;obtain⟨V,rfl,H⟩:=hI;refine aj _ (kS he)<|lF<|aj _ (kF he)<|aj _ rfl<|bD (η (i:Int)) (λhg=>rfl)<|bD (sl 1 cO q.1) (λhg=>rfl)<|bD (η (q.1.length:Int)) (λhg=>by(try rw[hg]);exact(dc _ _ _))<|bD (η (ξ.wrap ((q.1.length:Int) -1))) (λhg=>by(try rw[hg]);rfl)<|bD (φ (decide ((i:Int)<ξ.wrap ((q.1.length:Int) -1)))) (λhg=>by(try rw[hg]);exact BG _ _)<|aj (.bool (rG q i)) (eW _ _) ?_;refine aK (λp:(ByteArray×Bool)=>(l6 [(ψ p.1),(φ p.2)],m)) (λp hp=>Rp hp) (λp hp=>?_);refine aj _ rfl<|aj _ rfl<|bz (.bool p.2) (λhg=>rfl)<|aj _ (eY _ _)<|bz V (λhg=>rfl)<|bz (η (l.length:Int)) (λhg=>by(try rw[hg]);exact Wi H)<|bz (φ (decide (0<(l.length:Int)))) (λhg=>by(try rw[hg]);exact NY _ _)<|aj _ (eY _ _) ?_;refine nj (ω:=List aP×Bool) (λs a=>∃V' m',a=(([(Z3 (cR a0)),V',.bool s.2]:ay),m')/\Hs gz σ m' (Sl kI 11 V' s.1*emp)) ?_ ?_
  ·refine cA (c:=((rG q i&&p.2)&&decide (0<(l.length:Int)))) (λc2=>?_) (λc2=>?_)
   ·have h0:0<(l.length:Int):=by simp only[dZ,decide_eq_true_eq]at c2;exact c2.2
    refine aK (λkZ:(aJ×Bool)=>(l6 [(l7 (aW kZ.1)),(φ kZ.2)],m)) (λkZ XL=>amU XL) (λkZ XL=>?_);obtain⟨c,hc⟩:=aej h0;refine Dr λhroom=>?_
    have V0:c.bJ.length+1<=2199023255552/\l.length<=1099511627776:=by unfold Ds at hroom;rw[hc]at hroom;exact of_decide_eq_true hroom
    have hroom:=V0.1;have I0:BH l kZ.1=l.set (l.length-1) {c with bJ:=c.bJ++[kZ.1]}:=by unfold BH;rw[hc]
    have hi:ξ.wrap ((l.length:Int) -1)=((l.length-1:Nat):Int):=by have:=V0.2;rw[dh (by unfold aR;omega)];omega
    obtain⟨pp,F,e',a1,hC,K,back⟩:=afQ H hc;obtain⟨qq,vm,v',σ1,σ2,e'',b1,b2,b3,b4,b5,b6⟩:=aga kZ.1 hC K hroom;refine aj _ rfl<|aj _ rfl<|aj (aW kZ.1) rfl<|aj (aW kZ.1) rfl<|aj _ (Wi H)<|aj (.ah ((l.length-1:Nat):Int)) ?_<|aj _ a1<|aj _ hC.nc<|aj _ b1<|aj _ b2<|aj _ rfl<|aj _ rfl<|aj _ b3<|aj _ hC.nc<|aj _ b1<|aj _ (bE b4 rfl)<|aj _ b5 ?_
    ·rw[N0,hi]
    ·refine bu ⟨V,σ2,rfl,?_⟩;rw[I0];exact back b6
   ·refine ahe (λs a=>∃V' m',a=(([(Z3 (cR a0)),V',.bool s.2]:ay),m')/\Hs gz σ m' (Sl kI 11 V' s.1*emp)) ?_ ?_
    ·refine cA (c:=rG q i) (λc3=>?_) (λc3=>?_)
     ·refine ahf (λc:(aP×Bool)=>((l6 [(l7 (pO c.1)),(φ c.2)]),m)) (p:=λc=>c.1.bJ=[]) (λc hc=>aar hc) (λc hc sF=>?_);refine Dr λhroom=>?_
      obtain⟨V',m',e1,H'⟩:=af9 c.1 sF H hroom;refine aj _ rfl<|aj _ rfl<|aj (pO c.1) rfl<|aj (pO c.1) rfl<|aj (.agg (pO c.1)) rfl<|aj (.sl 11 [pO c.1]) rfl<|aj _ e1 ?_;exact bu ⟨V',m',rfl,H'⟩
     ·refine bu ⟨V,m,rfl,H⟩
    ·intro s a ha;obtain⟨V',m',rfl,H'⟩:=ha;exact⟨_,rfl,V',m',rfl,H'⟩
  ·intro s a ha;obtain⟨V',m',rfl,H'⟩:=ha;refine aj _ rfl ?_;refine cA (c:=!s.2) (λc3=>?_) (λc3=>?_)
   ·refine aj _ rfl ?_;exact bu (fR (by simp) ⟨_,_,_,rfl,ago (wS H')⟩)
   ·refine aj _ (kG he hle) ?_;exact bu (jF ⟨V',rfl,H'⟩)
 ·intro hl l v m hI;obtain⟨V,rfl,H⟩:=hI;refine aj _ (kQ _)<|lE ?_;exact bu ⟨by simp,_,_,_,rfl,H⟩
 ·intro hl b q hq;obtain⟨V,u,m,rfl,H⟩:=hq;refine fD rfl<|aj (.agg (cR a0)) rfl ?_;refine aK (λr3:Int=>((η r3),m)) (λr3 iG=>?_) (λr3 iG=>?_)
  ·exact O2 (dF:=[(.a [(.e 3 vE),(.s 4)]),(.e 3 [.k,.k,(.s 3)]),(.e 11 uY)]) (ts:=[.agg (cR a0),sl 3 gT a1,sl 11 bY b]) ⟨ahb a0,WW (xq ab7 _) rfl,afq H,trivial⟩ (λσ=>aoC iG) rfl
  refine aj _ (fC _ _ _) ?_;refine cP (p:=¬(r3=0)) (λc3=>?_) (λc3=>?_)
  ·exact aU _ (T8 H) ⟨rfl,rfl⟩
  ·obtain⟨v',f1,f2⟩:=ad4 (n:=0) (e:=0) (S9 H);refine aU _ f1 ⟨?_,rfl⟩;exact I3 (fB f2 (fB rfl (fB rfl rP)))
 ·intro hl n q hq;obtain⟨V,u,m,rfl,H⟩:=hq;refine oo rfl<|fD rfl ?_;exact aU _ (T8 H) ⟨rfl,rfl⟩
end
section
open Lib
theorem Si{k:Nat}(h:k<10):digitVal (aoS (48+k))=δ k:=by
 have e:(aoS (48+k)).toNat=48+k:=by rw[Tv];omega
 unfold digitVal;rw[e,aG (by omega)];congr 1;omega
theorem MS{k:Nat}(h:k<10):iB (aoS (48+k))=ι:=by
 have e:(aoS (48+k)).toNat=48+k:=by rw[Tv];omega
 unfold iB;rw[e];simp;omega
theorem abx(l r:List UInt8):∀a:Nat,decFrom a (l++r)=(decFrom a l).bind λb=>decFrom b r:=by
 induction l with
 |nil=>intro a;rfl
 |cons x l ih=>
  intro a;rw[iA];unfold decFrom;cases digitVal x with
  |none=>rfl
  |some d=>exact ih _
theorem amY(u:Nat):decFrom 0 (decDigits u)=δ u:=by
 induction u using Nat.strongRecOn with
 |_ u ih=>
  by_cases h:u<10
  ·rw[decDigits,dif_pos h];unfold decFrom;rw[Si h];simp [decFrom]
  ·rw[decDigits,dif_neg h,abx,ih (u / 10) (by omega),aB];unfold decFrom;rw[Si (by omega)];simp only[decFrom];congr 1;omega
theorem RS(u:Nat):(decDigits u).all iB=ι:=by
 induction u using Nat.strongRecOn with
 |_ u ih=>
  by_cases h:u<10
  ·rw[decDigits,dif_pos h,Rq,MS h];rfl
  ·rw[decDigits,dif_neg h,List.all_append,ih (u / 10) (by omega)];rw[Rq,MS (show u % 10<10 by omega)];rfl
theorem CA(u:Nat):decDigits u≠[]:=by intro h;have:=decDigits_length u;rw[h]at this;have:=nDigits_pos u;simp at *;omega
theorem amL(u:Nat)(h0:0<u):(decDigits u).head? ≠δ 48:=by
 induction u using Nat.strongRecOn with
 |_ u ih=>
  by_cases h:u<10
  ·rw[decDigits,dif_pos h];intro e;simp only[List.head?_cons,χ]at e;have:=congrArg UInt8.toNat e;rw[Tv]at this;simp at this;omega
  ·rw[decDigits,dif_neg h,List.head?_append];have hne:=CA (u / 10);have:=ih (u / 10) (by omega) (by omega);cases hd:(decDigits (u / 10)).head? with
   |none=>rw[List.head?_eq_none_iff]at hd;exact absurd hd hne
   |some x=>rw[hd]at this;simpa using this
theorem aao(u:Nat):decNat (decDigits u)=δ u:=by unfold decNat;rw[aE (by simpa using CA u),amY]
theorem pJ(u:Nat):ke (u:Int)=bZ (decDigits u):=by unfold ke itoa bZ;rw[aE (by omega),Zk]
theorem jh(l:List UInt8):lZ (bZ l)=l:=by simp [bZ]
theorem xk(s:ByteArray):bZ (lZ s)=s:=by simp [bZ]
theorem eE(l:List UInt8):(bZ l).size=l.length:=by simp [bZ,ByteArray.size]
theorem L0{u k:Nat}(h:u<10 ^ k)(hk:1<=k):nDigits u<=k:=by
 induction k generalizing u with
 |zero=>omega
 |succ k ih=>
  by_cases hu:u<10
  ·rw[nDigits_small hu];omega
  ·rw[nDigits_big hu];by_cases hk0:k=0
   ·subst hk0;simp at h;omega
   ·have:=ih (u:=u / 10) (by rw[Nat.pow_succ]at h;omega) (by omega);omega
theorem adq{n:Int}{k:Nat}(h0:0<=n)(h1:n<(10 ^ k:Nat))(hk:1<=k):lJ (ke n) k=(n,ι):=by
 obtain⟨u,rfl⟩:=Z7 h0;have hu:u<10 ^ k:=by exact_mod_cast h1
 rw[pJ];unfold lJ mo;rw[jh,eE,decDigits_length,aao];have hd:=RS u;have hl:=L0 hu hk;rw[aE]
 ·rfl
 ·rintro(h|h|⟨h,h2⟩)
  ·rw[hd]at h;have:=CA u;simp at h;exact this h
  ·omega
  ·by_cases hz:u=0
   ·subst hz;rw[nDigits_small (by decide)]at h;omega
   ·exact amL u (by omega) h2
end
section
open Lib
theorem MC(c:UInt8)(b:List UInt8):∀a:List UInt8,c∉a->index (a++c::b) [c]=(a.length:Int)
 |[],_=>by rw[ZH,index];simp [Z8]
 |x::a,h=>by
  have hx:¬c=x:=λe=>h (e▸p6)
  have ih:=MC c b a (λm=>h (iR _ m));rw[iA,index];have hp:([c]:List UInt8).isPrefixOf (x::(a++c::b))=ε:=by simp [Z8,hx]
  rw[hp,ih,aE (by simp),aE (by simp)];simp
theorem Hu(c:UInt8):∀a:List UInt8,c∉a->index a [c]=-1
 |[],_=>by rw[index];simp
 |x::a,h=>by
  have hx:¬c=x:=λe=>h (e▸p6)
  have ih:=Hu c a (λm=>h (iR _ m));rw[index];have hp:([c]:List UInt8).isPrefixOf (x::a)=ε:=by simp [Z8,hx]
  rw[hp,ih];simp
theorem C4{c:UInt8}{a b:List UInt8}(h:c∉a):iL (bZ (a++c::b)) ⟨#[c]⟩=(bZ a,bZ b,ι):=by unfold iL;rw[jh];show(bZ (cut (a++c::b) [c]).1,bZ (cut (a++c::b) [c]).2.1,(cut (a++c::b) [c]).2.2)=_;unfold cut;rw[MC c b a h,aG (by omega)];simp
theorem HS{c:UInt8}{a:List UInt8}(h:c∉a):iL (bZ a) ⟨#[c]⟩=(bZ a,⟨#[]⟩,ε):=by unfold iL;rw[jh];show(bZ (cut a [c]).1,bZ (cut a [c]).2.1,(cut a [c]).2.2)=_;unfold cut;rw[Hu c a h,aE (by omega)];rfl
theorem TJ{c:UInt8}{a:List UInt8}(h:c∉a):mS (bZ a) ⟨#[c]⟩=[bZ a]:=by unfold mS;refine splitB_miss _ _ _ _ ?_;show index (lZ (bZ a)) [c]=-1;rw[jh];exact Hu c a h
theorem TI{c:UInt8}{a b:List UInt8}(h:c∉a):mS (bZ (a++c::b)) ⟨#[c]⟩=bZ a::mS (bZ b) ⟨#[c]⟩:=by
 unfold mS
 have hc:countB (bZ (a++c::b)) ⟨#[c]⟩=countB (bZ b) ⟨#[c]⟩+1:=by show count (lZ (bZ (a++c::b))) [c]=count (lZ (bZ b)) [c]+1;rw[jh,jh,count_one,count_one,List.count_append,List.count_cons_self,List.count_eq_zero.2 h];omega
 have hi:indexB (bZ (a++c::b)) ⟨#[c]⟩=(a.length:Int):=by show index (lZ (bZ (a++c::b))) [c]=_;rw[jh];exact MC c b a h
 rw[hc,splitB,hi,aE (by simp)];congr 1
 ·apply apA;simp [bZ]
 ·congr 1;apply apA;simp [bZ,ByteArray.size];rw[show a.length+(b.length+1) -(a.length+1)=b.length by omega,List.take_length]
end
section
open Lib
theorem fA{a b:List UInt8}(h:a.length+b.length<=9223372036854775807):cC (bZ a) (bZ b)=δ (bZ (a++b)):=by unfold cC;rw[eE,eE,aG h];congr 1
theorem yO{l:List UInt8}{k:Nat}(h:k<=l.length):nJ (bZ l) (δ (k:Int)) μ=δ (bZ (l.drop k)):=by unfold nJ;simp only[ZY,ZZ,eE];rw[aG ⟨by omega,by omega,by omega⟩];congr 1;apply apA;simp [bZ];exact rU (by simp)
theorem Wk{l:List UInt8}{k:Nat}(h:k<=l.length):nJ (bZ l) μ (δ (k:Int))=δ (bZ (l.take k)):=by unfold nJ;simp only[ZY,ZZ,eE];rw[aG ⟨by omega,by omega,by omega⟩];congr 1;apply apA;simp [bZ]
theorem NP{l:List UInt8}{k:Nat}{x:UInt8}(h:l[k]? =δ x):sN (bZ l) (k:Int)=δ (x.toNat:Int):=by obtain⟨hk,rfl⟩:=cD.1 h;unfold sN;rw[dif_pos ⟨by omega,by rw[eE];omega⟩];rfl
theorem pL{a b:List UInt8}(h:bZ a=bZ b):a=b:=by rw[<-jh a,h,jh]
theorem NC{a b:List UInt8}:bZ a=bZ b↔a=b:=⟨pL,λh=>by rw[h]⟩
def dB(k:Nat):UInt8:=aoS (48+k)
theorem Nh{k:Nat}(h:k<10):(dB k).toNat=48+k:=by unfold dB;rw[Tv];omega
theorem Dd{k:Nat}(h:k<10):iB (dB k)=ι:=MS h
theorem Bi{k:Nat}(h:k<10):(dB k==48)=decide (k=0):=by
 rw[kg,beq_iff_eq,decide_eq_true_eq];constructor
 ·intro e;have:=congrArg UInt8.toNat e;rw[Nh h]at this;simp at this;omega
 ·rintro rfl;rfl
theorem Xv{r:Nat}(h:r<1000):decDigits (1000+r)=[49,dB (r / 100),dB (r / 10 % 10),dB (r % 10)]:=by
 rw[decDigits,dif_neg (by omega),decDigits,dif_neg (by omega),decDigits,dif_neg (by omega),decDigits,dif_pos (by omega)];have e1:(1000+r) / 10 / 10 / 10=1:=by omega
 have e2:(1000+r) / 10 / 10 % 10=r / 100:=by omega
 have e3:(1000+r) / 10 % 10=r / 10 % 10:=by omega
 have e4:(1000+r) % 10=r % 10:=by omega
 rw[e1,e2,e3,e4];rfl
theorem ai8{r:Nat}(h:r<60):decDigits (100+r)=[49,dB (r / 10),dB (r % 10)]:=by
 rw[decDigits,dif_neg (by omega),decDigits,dif_neg (by omega),decDigits,dif_pos (by omega)];have e1:(100+r) / 10 / 10=1:=by omega
 have e2:(100+r) / 10 % 10=r / 10:=by omega
 have e3:(100+r) % 10=r % 10:=by omega
 rw[e1,e2,e3];rfl
def hJ(r:Nat):List Nat:=if r % 10≠0 then[r / 100,r / 10 % 10,r % 10]else if r / 10 % 10≠0 then[r / 100,r / 10 % 10]else[r / 100]
theorem Vz{r:Nat}(h:r<1000)(h0:0<r):Dw (bZ [dB (r / 100),dB (r / 10 % 10),dB (r % 10)])=bZ ((hJ r).map dB):=by
 unfold Dw;rw[jh];congr 1;unfold trimRightB hJ;have a1:=Bi (k:=r % 10) (by omega);have a2:=Bi (k:=r / 10 % 10) (by omega);have a3:=Bi (k:=r / 100) (by omega);have a0:(dB 0==48)=ι:=rfl;by_cases h1:r % 10=0
 ·by_cases h2:r / 10 % 10=0
  ·have h3:¬r / 100=0:=by omega
   simp [apM,a0,a1,a2,a3,h1,h2,h3]
  ·simp [apM,a0,a1,a2,a3,h1,h2]
 ·simp [apM,a0,a1,a2,a3,h1]
theorem De{r:Nat}(h:r<1000):∀d∈hJ r,d<10:=by
 unfold hJ;intro d hd;split at hd
 ·simp only[dW,ZF,or_false]at hd;omega
 ·split at hd
  ·simp only[dW,ZF,or_false]at hd;omega
  ·simp only[dW,ZF,or_false]at hd;omega
theorem uL(r:Nat):1<=(hJ r).length/\(hJ r).length<=3:=by
 unfold hJ;split
 ·simp
 ·split<;>simp
theorem ad7{r:Nat}(h0:0<r):∃d,(hJ r)[(hJ r).length-1]? =δ d/\d≠0:=by
 unfold hJ;split
 ·exact⟨_,rfl,by assumption⟩
 ·split
  ·exact⟨_,rfl,by assumption⟩
  ·exact⟨_,rfl,by omega⟩
theorem U0{r:Nat}(h:r<1000):(hJ r).getD 0 0*100+(hJ r).getD 1 0*10+(hJ r).getD 2 0=r:=by
 unfold hJ;split
 ·simp;omega
 ·split
  ·simp;omega
  ·simp;omega
theorem VW{r:Nat}(h:r<1000):mo (bZ ((hJ r).map dB))=ι:=by unfold mo;rw[jh];have hl:=uL r;rw[dZ,List.all_map,kV];refine⟨?_,λd hd=>Dd (De h d hd)⟩;rw[VC,List.isEmpty_eq_false_iff];intro e;rw[List.map_eq_nil_iff]at e;rw[e]at hl;simp at hl
section
variable {S B R γ : Type}
theorem Dj{body:S->Option (Lr S B R)}{s s':S}{K1:B->Option γ}{K2:R->Option γ}(h:body s=δ (.go s')):qy body s K1 K2=qy body s' K1 K2:=by unfold qy;rw[HG body s,h];rfl
theorem aoi{body:S->Option (Lr S B R)}{s:S}{b:B}{K1:B->Option γ}{K2:R->Option γ}(h:body s=δ (.lK b)):qy body s K1 K2=K1 b:=by unfold qy;rw[HG body s,h];rfl
end
def Bu (b:ByteArray) (most:Int) (s5:Int×Int):Option (Lr (Int×Int) Int Unit):=
   if s5.2<most then
    (show Option Int from
      if s5.2<(b.size:Int)then
       (sN b s5.2).bind λbB=>
       δ (ξ.wrap (ξ.wrap (s5.1*10)+ξ.wrap (apL.wrap (bB-48))))
      else
      δ (ξ.wrap (s5.1*10))).bind λlP=>
    δ (.go (lP,ξ.wrap (s5.2+1)))
   else
   δ (.lK s5.1)
theorem C5{ds:List Nat}(hd:∀d∈ds,d<10){most n:Int}{i:Nat}(hi:(i:Int)<most)(hm:i<1000)(hn:0<=n/\n<=100000000000000):Bu (bZ (ds.map dB)) most (n,(i:Int))=δ (.go (n*10+(ds.getD i 0:Nat),((i+1:Nat):Int))):=by
 have hw:ξ.wrap (n*10)=n*10:=dh (by unfold aR;omega);have hi1:ξ.wrap ((i:Int)+1)=((i+1:Nat):Int):=by rw[dh (by unfold aR;omega)];omega
 unfold Bu;simp only;rw[aG hi,hi1,hw];by_cases hs:i<ds.length
 ·have hx:ds[i]<10:=hd _ (List.getElem_mem hs);have hsz:(i:Int)<((bZ (ds.map dB)).size:Int):=by rw[eE,XZ];omega
  rw[aG hsz,NP (x:=dB ds[i]) (by rw[List.getElem?_map,cy hs];rfl),Nh hx]
  have e1:apL.wrap (((48+ds[i]:Nat):Int) -48)=(ds[i]:Int):=by
   have:((48+ds[i]:Nat):Int) -48=(ds[i]:Int):=by omega
   rw[this];unfold IntKind.wrap;simp [IntKind.signed,IntKind.bits];omega
  have e2:ξ.wrap (ds[i]:Int)=(ds[i]:Int):=dh (by unfold aR;omega);have e3:ξ.wrap (n*10+(ds[i]:Int))=n*10+(ds[i]:Int):=dh (by unfold aR;omega);simp only[aB,e1,e2,e3];rw[YA,cy hs];rfl
 ·have hsz:¬(i:Int)<((bZ (ds.map dB)).size:Int):=by rw[eE,XZ];omega
  rw[aE hsz];simp only[aB];rw[YA,lG (by omega)];simp
theorem VL{b:ByteArray}{most n:Int}{i:Int}(hi:¬i<most):Bu b most (n,i)=δ (.lK n):=by unfold Bu;rw[aE hi]
theorem Ji{γ:Type}{ds:List Nat}(hd:∀d∈ds,d<10){n:Int}(hn:0<=n/\n<=1000000000)(K1:Int->Option γ)(K2:Unit->Option γ):qy (Bu (bZ (ds.map dB)) 3) (n,0) K1 K2=K1 (n*1000+((ds.getD 0 0*100+ds.getD 1 0*10+ds.getD 2 0:Nat):Int)):=by
 have b0:∀i:Nat,ds.getD i 0<10:=λi=>by
  rw[YA];cases e:ds[i]? with
  |none=>simp
  |some x=>exact hd x (cW e)
 have h0:=b0 0;have h1:=b0 1;have h2:=b0 2;refine(Dj (C5 (i:=0) hd (by decide) (by decide) (by omega))).trans ?_;refine(Dj (C5 (i:=1) hd (by decide) (by decide) (by omega))).trans ?_;refine(Dj (C5 (i:=2) hd (by decide) (by decide) (by omega))).trans ?_;refine(aoi (VL (by decide))).trans ?_;congr 1;omega
theorem dg2{γ:Type}{ds:List Nat}(hd:∀d∈ds,d<10){n:Int}(hn:0<=n/\n<=1000000000)(K1:Int->Option γ)(K2:Unit->Option γ):qy (Bu (bZ (ds.map dB)) 2) (n,0) K1 K2=K1 (n*100+((ds.getD 0 0*10+ds.getD 1 0:Nat):Int)):=by
 have b0:∀i:Nat,ds.getD i 0<10:=λi=>by
  rw[YA];cases e:ds[i]? with
  |none=>simp
  |some x=>exact hd x (cW e)
 have h0:=b0 0;have h1:=b0 1;refine(Dj (C5 (i:=0) hd (by decide) (by decide) (by omega))).trans ?_;refine(Dj (C5 (i:=1) hd (by decide) (by decide) (by omega))).trans ?_;refine(aoi (VL (by decide))).trans ?_;congr 1;omega
theorem pK{c:UInt8}(h:iB c=ε)(u:Nat):c∉decDigits u:=λm=>by have:=kV.1 (RS u) c m;rw[h]at this;cases this
theorem agx{c:UInt8}(h:iB c=ε){r:Nat}(hr:r<1000):c∉(hJ r).map dB:=λm=>by obtain⟨d,hd,rfl⟩:=jJ.1 m;rw[Dd (De hr d hd)]at h;cases h
def nC(m r:Nat):List UInt8:=decDigits m++(if 0<r then 46::(hJ r).map dB else[])
theorem aeg{u k:Nat}(h1:u<10 ^ k)(hk:1<=k):lJ (bZ (decDigits u)) (k:Int)=((u:Int),ι):=by rw[<-pJ];exact adq (by omega) (by exact_mod_cast h1) hk
theorem Nr{u k:Nat}{K:Int}(e:K=k)(h1:u<10 ^ k)(hk:1<=k):lJ (bZ (decDigits u)) K=((u:Int),ι):=by subst e;exact aeg h1 hk
theorem A9{u:Nat}(h:u<10 ^ 9):qC (bZ (decDigits u))=δ ((u:Int),ι):=by have hl:=L0 h (by decide);rw[<-decDigits_length]at hl;unfold qC;rw[eO ⟨by rw[eE];omega,by decide⟩,aB,Nr (K:=9) (k:=9) rfl h (by decide)]
theorem VH{m r:Nat}(hr:r<1000):iL (bZ (nC m r)) ⟨#[46]⟩=(bZ (decDigits m),if 0<r then bZ ((hJ r).map dB)else⟨#[]⟩,decide (0<r)):=by
 unfold nC;by_cases h0:0<r
 ·rw[aG h0,aG h0,C4 (pK (by decide) m),mj h0]
 ·rw[aE h0,aE h0,Zq,HS (pK (by decide) m),gJ h0]
theorem jD{u k:Nat}(h:u<10 ^ k)(hk:1<=k):(decDigits u).length<=k:=by rw[decDigits_length];exact L0 h hk
theorem H6{m r k:Nat}(h:m<10 ^ k)(hk:1<=k):(nC m r).length<=k+4:=by
 have:=jD h hk;have:=(uL r).2;unfold nC;split
 ·simp;omega
 ·simp;omega
theorem Ue{r:Nat}(h:r<1000)(h0:0<r):∃d,d<10/\d≠0/\sN (bZ ((hJ r).map dB)) (ξ.wrap (((bZ ((hJ r).map dB)).size:Int) -1))=δ (((48+d:Nat)):Int):=by obtain⟨d,h1,h2⟩:=ad7 h0;have hl:=uL r;have hd:d<10:=De h d (cW h1);refine⟨d,hd,h2,?_⟩;rw[eE,XZ,dh (by unfold aR;omega),show(((hJ r).length:Int) -1)=(((hJ r).length-1:Nat):Int)from by omega,NP (x:=dB d) (by rw[List.getElem?_map,h1];rfl),Nh hd]
theorem Hg{m r:Nat}(hm:m<10 ^ 9)(hr:r<1000):nP (bZ (nC m r)) 3=δ ((m:Int)*1000+r,ι):=by
 have hl:=H6 (r:=r) hm (by decide);unfold nP;rw[eO (by rw[eE];omega),aB,VH hr];simp only;rw[A9 hm];simp only[aB,AV,Zy,Y8];by_cases h0:0<r
 ·simp only[aG h0,mj h0,if_true];have hfl:=uL r;have hsz:¬(3:Int)<((bZ ((hJ r).map dB)).size:Int):=by rw[eE,XZ];omega
  rw[eO (by rw[eE,XZ];omega),aB,VW hr];obtain⟨d,d1,d2,d3⟩:=Ue hr h0;simp only[AV,ZV,gJ hsz,Zy,if_true,d3,aB];have Fv:¬((48+d:Nat):Int)=48:=by omega
  simp only[gJ Fv,Bool.and_self,ZO,if_true,aB,n5,if_false];refine(Ji (De hr) (by omega) _ _).trans ?_;rw[U0 hr]
 ·have:r=0:=by omega
  subst this;simp only[aE h0,gJ h0,YM,n5,if_false,ZV,T9,aB];refine(Ji (ds:=[]) (by simp) (by omega) _ _).trans ?_;rfl
theorem adY{m:Nat}(hm:m<10 ^ 9):nP (bZ (decDigits m)) 2=δ ((m:Int)*100,ι):=by have hl:=jD hm (by decide);unfold nP;rw[eO (by rw[eE];omega),aB,HS (pK (by decide) m)];simp only;rw[A9 hm];simp only[aB,AV,Zy,ZO,YM,n5,if_false,T9];refine(dg2 (ds:=[]) (by simp) (by omega) _ _).trans ?_;simp
theorem afe{n:Int}(h0:0<=n)(h1:n<10000000000):yA n=δ (bZ (nC (n / 1000).toNat (n % 1000).toNat)):=by
 have ed:ξ.wrap (ZL n 1000)=((n / 1000).toNat:Int):=by rw[Sd h0,dh (by unfold aR;omega)];omega
 have em:T7 n 1000=((n % 1000).toNat:Int):=by rw[TL h0];omega
 have hm:(n / 1000).toNat<10 ^ 9:=by omega
 have hr:(n % 1000).toNat<1000:=by omega
 have hl:=jD hm (by decide);generalize (n / 1000).toNat=m at *
 generalize (n % 1000).toNat=r at *
 unfold yA;rw[ed,em,eO (by unfold aR;omega),aB,pJ];unfold nC;by_cases h:0<r
 ·have ew:ξ.wrap (1000+(r:Int))=((1000+r:Nat):Int):=by rw[dh (by unfold aR;omega)];omega
  have hfl:=uL r;rw[aG h,aG (by omega),ew,eO (by unfold aR;omega),aB,pJ,Xv hr,show(1:Int)=((1:Nat):Int)from rfl,yO (by simp),aB];rw[show List.drop 1 [49,dB (r / 100),dB (r / 10 % 10),dB (r % 10)]=[dB (r / 100),dB (r / 10 % 10),dB (r % 10)]from rfl,eO ⟨by rw[eE];simp,rfl⟩,aB,Vz hr h];rw[show(⟨#[46]⟩:ByteArray)=bZ [46]from rfl,fA (by simp;omega),aB,fA (by simp;omega),aB];rfl
 ·rw[aE h,aE (by omega),Zq];rfl
theorem aaO{m r:Nat}(hm:m<10 ^ 7)(hr:r<1000):yz (bZ (nC m r))=δ ((m:Int)*1000+r,ι):=by
 have hl:=H6 (r:=r) hm (by decide);have hml:=jD hm (by decide);unfold yz;rw[eO (by rw[eE];omega),aB,VH hr];simp only;rw[eO ⟨by rw[eE];omega,by decide⟩,aB,Nr (K:=7) (k:=7) rfl hm (by decide)];simp only[aB,AV,Zy,Y8];by_cases h0:0<r
 ·simp only[aG h0,mj h0,if_true];have hfl:=uL r;have hsz:¬(3:Int)<((bZ ((hJ r).map dB)).size:Int):=by rw[eE,XZ];omega
  rw[eO (by rw[eE,XZ];omega),aB,VW hr];obtain⟨d,d1,d2,d3⟩:=Ue hr h0;simp only[AV,ZV,gJ hsz,Zy,if_true,d3,aB];have Fv:¬((48+d:Nat):Int)=48:=by omega
  simp only[gJ Fv,Bool.and_self,ZO,if_true,aB,n5,if_false];refine(Ji (De hr) (by omega) _ _).trans ?_;rw[U0 hr]
 ·have:r=0:=by omega
  subst this;simp only[aE h0,gJ h0,YM,n5,if_false,ZV,T9,aB];refine(Ji (ds:=[]) (by simp) (by omega) _ _).trans ?_;rfl
end
section
open Lib
def jO(r:Nat):List UInt8:=if 0<r then 46::(hJ r).map dB else[]
theorem Is(m r:Nat):nC m r=decDigits m++jO r:=rfl
theorem HZ(r:Nat):(jO r).length<=4:=by
 have:=(uL r).2;unfold jO;split
 ·simp;omega
 ·simp
theorem agN{r:Nat}(hr:r<1000):Aw (r:Int)=δ (bZ (jO r)):=by
 unfold Aw jO;by_cases h:0<r
 ·have ew:ξ.wrap (1000+(r:Int))=((1000+r:Nat):Int):=by rw[dh (by unfold aR;omega)];omega
  have hfl:=uL r;rw[aG h,aE (by omega),ew,eO (by unfold aR;omega),aB,pJ,Xv hr,show(1:Int)=((1:Nat):Int)from rfl,yO (by simp),aB];rw[show List.drop 1 [49,dB (r / 100),dB (r / 10 % 10),dB (r % 10)]=[dB (r / 100),dB (r / 10 % 10),dB (r % 10)]from rfl,eO ⟨by rw[eE];simp,rfl⟩,aB,Vz hr h];rw[show(⟨#[46]⟩:ByteArray)=bZ [46]from rfl,fA (by simp;omega),aB];rfl
 ·rw[aE h,aG (by omega)];rfl
def lf(t:Nat):List UInt8:=if t / 1000<60 then nC (t / 1000) (t % 1000)else decDigits (t / 1000 / 60)++58::(dB (t / 1000 % 60 / 10)::dB (t / 1000 % 60 % 10)::jO (t % 1000))
theorem uN{t:Nat}(h:t<=36000000):(lf t).length<=20:=by
 unfold lf;split
 ·have:=H6 (m:=t / 1000) (r:=t % 1000) (k:=9) (by omega) (by decide);omega
 ·have:=jD (u:=t / 1000 / 60) (k:=9) (by omega) (by decide);have:=HZ (t % 1000);simp;omega
theorem abU{t:Nat}(h:t<=36000000):AB (t:Int)=δ (bZ (lf t),0):=by
 have hw:aT (t:Int) 0 36000000=ι:=by unfold aT;rw[decide_eq_true_eq];omega
 have e1:T7 (t:Int) 1000=((t % 1000:Nat):Int):=by rw[TL (by omega)];omega
 have e2:ξ.wrap (ZL (t:Int) 1000)=((t / 1000:Nat):Int):=by rw[Sd (by omega),dh (by unfold aR;omega)];omega
 unfold AB;rw[hw,aE (by simp),e1,e2,agN (by omega),aB];unfold lf;have hs:t / 1000<=36000:=by omega
 have hf:=HZ (t % 1000);generalize t / 1000=s at *
 generalize hr:t % 1000=r at *
 by_cases h6:s<60
 ·have hl:=jD (u:=s) (k:=9) (by omega) (by decide);rw[aG h6,aG (by omega),eO (by unfold aR;omega),aB,pJ,fA (by omega),aB];rfl
 ·have e3:ξ.wrap (ZL (s:Int) 60)=((s / 60:Nat):Int):=by rw[Sd (by omega),dh (by unfold aR;omega)];omega
  have e4:ξ.wrap (100+T7 (s:Int) 60)=((100+s % 60:Nat):Int):=by rw[TL (by omega),dh (by unfold aR;omega)];omega
  have hl:=jD (u:=s / 60) (k:=9) (by omega) (by decide);rw[aE h6,aE (by omega),e3,e4,eO (by unfold aR;omega),aB,pJ,show(⟨#[58]⟩:ByteArray)=bZ [58]from rfl,fA (by simp;omega),aB];rw[eO (by unfold aR;omega),aB,pJ,ai8 (by omega),show(1:Int)=((1:Nat):Int)from rfl,yO (by simp),aB];rw[show List.drop 1 [49,dB (s % 60 / 10),dB (s % 60 % 10)]=[dB (s % 60 / 10),dB (s % 60 % 10)]from rfl,fA (by simp;omega),aB,fA (by simp;omega),aB];simp
theorem acL{t:Nat}(h:t<=36000000):oI (t:Int)=δ (bZ (lf t)):=by unfold oI;rw[abU h];rfl
theorem anu{c:UInt8}(h:iB c=ε)(h2:c≠46){r:Nat}(hr:r<1000):c∉jO r:=by
 unfold jO;split
 ·rw[dW];rintro(e|e)
  ·exact h2 e
  ·exact agx h hr e
 ·simp
theorem Bx{c:UInt8}(h:iB c=ε){k:Nat}(hk:k<10):c≠dB k:=by rintro rfl;rw[Dd hk]at h;cases h
theorem Np{c:UInt8}(h:iB c=ε)(h2:c≠46){m r:Nat}(hr:r<1000):c∉nC m r:=by
 rw[Is,ga];rintro(e|e)
 ·exact pK h m e
 ·exact anu h h2 hr e
theorem Xu{d:Nat}(h:d<10):decDigits d=[dB d]:=by rw[decDigits,dif_pos h];rfl
theorem ai7{d:Nat}(h:10<=d)(h2:d<100):decDigits d=[dB (d / 10),dB (d % 10)]:=by rw[decDigits,dif_neg (by omega),decDigits,dif_pos (by omega)];rfl
theorem abw{c:UInt8}{l:List UInt8}(h:c∉l):contains l [c]=ε:=by unfold contains;rw[Hu c l h];rfl
theorem Sc{a p:List UInt8}(hp:p.length<=100)(ha:a.length<=4611686018427387904):yt (bZ a) (bZ p)=δ (p.isPrefixOf a):=by
 unfold yt;rw[eE,eE];by_cases h:p.length<=a.length
 ·rw[aG (by simp;omega),Wk h,aB];have:decide ((p.length:Int)<=(a.length:Int))=ι:=by simp;omega
  rw[this,Y8];congr 1;rw[kg,decide_eq_true_eq,NC,XP,List.prefix_iff_eq_take];exact eq_comm
 ·rw[aE (by simp;omega),aB];have:decide ((p.length:Int)<=(a.length:Int))=ε:=by simp;omega
  rw[this,YM];congr 1;symm;rw[<-ap6,XP];intro e;exact h e.length_le
theorem GJ{a p:List UInt8}(hp:p.length<=100)(ha:a.length<=4611686018427387904):wF (bZ a) (bZ p)=δ (if p.isPrefixOf a then(bZ (a.drop p.length),ι)else(bZ a,ε)):=by
 unfold wF Cn;rw[Sc hp ha,aB];cases h:p.isPrefixOf a with
 |false=>rfl
 |true=>rw[aE (by simp),eE,yO (XP.1 h).length_le];rfl
theorem aaP{a p:List UInt8}(hp:p.length<=100)(ha:a.length<=4611686018427387904):yu (bZ a) (bZ p)=δ (if p.isPrefixOf a then bZ (a.drop p.length)else bZ a):=by
 unfold yu Cm;rw[Sc hp ha,aB];cases h:p.isPrefixOf a with
 |false=>rfl
 |true=>rw[aG rfl,eE,yO (XP.1 h).length_le];rfl
theorem abp{a p:List UInt8}(hp:p.length<=100)(ha:a.length<=9000000000000000000):Ap (bZ a) (bZ p)=δ (decide (p <:+ a)):=by
 unfold Ap;rw[eE,eE];by_cases h:p.length<=a.length
 ·have e:ξ.wrap ((a.length:Int) -(p.length:Int))=((a.length-p.length:Nat):Int):=by rw[dh (by unfold aR;omega)];omega
  rw[aG (by simp;omega),e,yO (by omega),aB];have:decide ((p.length:Int)<=(a.length:Int))=ι:=by simp;omega
  rw[this,Y8];congr 1;rw[kg,decide_eq_true_eq,decide_eq_true_eq,NC,List.suffix_iff_eq_drop];exact eq_comm
 ·rw[aE (by simp;omega),aB];have:decide ((p.length:Int)<=(a.length:Int))=ε:=by simp;omega
  rw[this,YM];congr 1;symm;rw[decide_eq_false_iff_not];intro e;exact h e.length_le
theorem Sa{a p:List UInt8}(hp:p.length<=100)(ha:a.length<=4611686018427387904):yx (bZ (a++p)) (bZ p)=δ (bZ a,ι):=by
 unfold yx Co;rw[abp hp (by simp;omega),aB,mj (List.suffix_append a p),aE (by simp),eE,eE];have e:ξ.wrap (((a++p).length:Int) -(p.length:Int))=(a.length:Int):=by rw[dh (by unfold aR;simp;omega)];simp
 rw[e,Wk (by simp),aB];simp
theorem agP{d r:Nat}(hd:d<60)(hr:r<1000):∃y,yu (bZ (dB (d / 10)::dB (d % 10)::jO r)) (⟨#[48]⟩:ByteArray)=δ y/\nP y 3=δ ((d:Int)*1000+r,ι):=by
 have hl:=HZ r;refine⟨_,aaP (p:=[48]) (by decide) (by simp;omega),?_⟩;by_cases h0:d / 10=0
 ·have e:([48]:List UInt8).isPrefixOf (dB (d / 10)::dB (d % 10)::jO r)=ι:=by rw[h0];rfl
  rw[e,aG rfl];have:d % 10=d:=by omega
  rw[this];show nP (bZ (dB d::jO r)) 3=_;rw[show dB d::jO r=nC d r from by rw[Is,Xu (by omega)];rfl];exact Hg (by omega) hr
 ·have e:([48]:List UInt8).isPrefixOf (dB (d / 10)::dB (d % 10)::jO r)=ε:=by have:=Bi (k:=d / 10) (by omega);simp only[Z8,Bool.and_true];rw[gJ h0]at this;rw[<-ap6,beq_iff_eq]at this ⊢;exact λk=>this k.symm
  rw[e,aE (by simp)];rw[show dB (d / 10)::dB (d % 10)::jO r=nC d r from by rw[Is,ai7 (by omega) (by omega)];rfl];exact Hg (by omega) hr
theorem abT{t:Nat}(h:t<=36000000):lU (bZ (lf t))=δ ((t:Int),0):=by
 have hlen:=uN h;unfold lU;rw[eO (by rw[eE];omega),aB];have hs:t / 1000<=36000:=by omega
 have hr:t % 1000<1000:=by omega
 have ht:t=t / 1000*1000+t % 1000:=by omega
 unfold lf;generalize t / 1000=s at *
 generalize t % 1000=r at *
 by_cases h6:s<60
 ·rw[aG h6,HS (Np (by decide) (by decide) hr)];simp only[Zy,if_true];rw[Hg (by omega) hr,aB];simp only[AV,ZV];rw[aE (by simp;omega)];congr 2;omega
 ·have hM:s / 60<10 ^ 4:=by omega
  have hl:=jD hM (by decide);have hfl:=HZ r;have hd:s % 60<60:=by omega
  rw[aE h6,C4 (pK (by decide) _)];simp only[AV,n5,if_false];rw[eO ⟨by rw[eE];omega,by decide⟩,aB,Nr (K:=4) (k:=4) rfl hM (by decide)];rw[eO (by rw[eE];simp;omega),aB];have hq:1<=s / 60/\s / 60<=600:=by omega
  have e0:s=s / 60*60+s % 60:=by omega
  generalize s / 60=M at *
  generalize s % 60=d at *
  have hcut:iL (bZ (dB (d / 10)::dB (d % 10)::jO r)) ⟨#[46]⟩=(bZ [dB (d / 10),dB (d % 10)],if 0<r then bZ ((hJ r).map dB)else⟨#[]⟩,decide (0<r)):=by
   have hn:(46:UInt8)∉[dB (d / 10),dB (d % 10)]:=by
    intro m;simp only[dW,ZF,or_false]at m;rcases m with m|m
    ·exact Bx (c:=46) (by decide) (by omega) m
    ·exact Bx (c:=46) (by decide) (by omega) m
   unfold jO;by_cases h0:0<r
   ·rw[aG h0,aG h0,mj h0];exact C4 (a:=[dB (d / 10),dB (d % 10)]) hn
   ·rw[aE h0,aE h0,gJ h0];exact HS hn
  rw[hcut];simp only
  have hdz:mo (bZ [dB (d / 10),dB (d % 10)])=ι:=by unfold mo;rw[jh];simp [Dd (k:=d / 10) (by omega),Dd (k:=d % 10) (by omega)]
  have hsz:¬¬(((bZ [dB (d / 10),dB (d % 10)]).size:Int)=2):=by rw[eE];simp
  have hM0:¬((M:Int)=0):=by omega
  rw[gJ hM0,gJ hsz];simp only[AV,T9,Zy,if_true];rw[eO (by rw[eE];simp),aB,hdz];simp only[AV,n5,if_false];obtain⟨y,y1,y2⟩:=agP hd hr;rw[y1,aB,y2,aB];simp only[Bool.or_self,n5,if_false]
  have hj:(if bZ [dB (d / 10),dB (d % 10)]=(⟨#[48,48]⟩:ByteArray)then
    (nJ (bZ (dB (d / 10)::dB (d % 10)::jO r)) (δ 1) μ).bind λx9=>
    (nP x9 3).bind λbG=>
    δ (bG.2,bG.1)
   else
   δ (ι,(d:Int)*1000+(r:Int)):Option (Bool×Int))=δ (ι,(d:Int)*1000+(r:Int)):=by
   split
   ·rename_i e;have e':=pL (e:bZ [dB (d / 10),dB (d % 10)]=bZ [48,48]);simp only[VP,and_true]at e'
    have Fv:d=0:=by have a1:=Bi (k:=d / 10) (by omega);have a2:=Bi (k:=d % 10) (by omega);rw[e'.1]at a1;rw[e'.2]at a2;simp at a1 a2;omega
    subst Fv;rw[show(1:Int)=((1:Nat):Int)from rfl,yO (by simp),aB];show(nP (bZ (dB 0::jO r)) 3).bind _=_;rw[show dB 0::jO r=nC 0 r from by rw[Is,Xu (by omega)];rfl,Hg (by omega) hr];simp
   ·rfl
  rw[hj,aB];have h59:¬(59999<(d:Int)*1000+(r:Int)):=by omega
  simp only[gJ h59,AV,T9,Zy,Y8,ZV]
  have hw:ξ.wrap ((d:Int)*1000+(r:Int)+ξ.wrap ((M:Int)*60000))=(t:Int):=by rw[show ξ.wrap ((M:Int)*60000)=(M:Int)*60000 from dh (by unfold aR;omega)];rw[dh (by unfold aR;omega)];omega
  have key:((if decide ((if 0<r then bZ ((hJ r).map dB)else(⟨#[]⟩:ByteArray))=(⟨#[]⟩:ByteArray))=ι then tq ((bZ (dB (d / 10)::dB (d % 10)::jO r)).size<4294967281) (Lib.contains (lZ (bZ (dB (d / 10)::dB (d % 10)::jO r))) (lZ (⟨#[46]⟩:ByteArray)))else δ default):Option Bool)=δ ε:=by
   by_cases h0:0<r
   ·rw[aG h0,aE]
    ·rfl
    ·rw[decide_eq_true_eq];intro e;have e':=pL (e:bZ _=bZ []);have:=(uL r).1;rw[List.map_eq_nil_iff]at e';rw[e']at this;simp at this
   ·rw[aE h0,aG (by simp),eO (by rw[eE];simp;omega),jh];congr 1;refine abw ?_;intro m;simp only[dW]at m;rcases m with m|m|m
    ·exact Bx (c:=46) (by decide) (by omega) m
    ·exact Bx (c:=46) (by decide) (by omega) m
    ·unfold jO at m;rw[aE h0]at m;cases m
  rw[key,aB];simp only[ZO,n5,if_false,hw];rw[aE (by omega)]
theorem MN{n d:Int}(hn:0<=n/\n<=1000000000000)(hd:0<d/\d<=1000000):wP n d=δ ((2*n+d) / (2*d)):=by
 unfold wP CE;rw[show ξ.wrap (2*n)=2*n from dh (by unfold aR;omega),show ξ.wrap (2*n+d)=2*n+d from dh (by unfold aR;omega),show ξ.wrap (2*d)=2*d from dh (by unfold aR;omega)];have hq:0<=(2*n+d) / (2*d)/\(2*n+d) / (2*d)<=2*n+d:=⟨Int.ediv_nonneg (by omega) (by omega),Int.ediv_le_self _ (by omega)⟩
 have q1:Eg (2*n+d) (2*d)=δ ((2*n+d) / (2*d)):=by unfold Eg;rw[aE (by omega),Sd (by omega),dh (by unfold aR;omega)]
 have q2:Eh (2*n+d) (2*d)=δ ((2*n+d) % (2*d)):=by unfold Eh;rw[aE (by omega),TL (by omega)]
 rw[q1,aB,q2,aB,aE (by have:=Int.emod_nonneg (2*n+d) (b:=2*d) (by omega);omega)];rfl
def jr(v:Nat):Nat:=(200*v+65535) / 131070
def oY(v:Nat):List UInt8:=if v=0 then[111,117,116]else if v=65535 then[102,117,108,108]else if(2*(jr v*65535)+100) / 200=v then decDigits (jr v)++[37]else 35::decDigits v
theorem M1{v:Nat}(h:v<=65535):(oY v).length<=20:=by
 unfold oY jr;have h1:=jD (u:=(200*v+65535) / 131070) (k:=9) (by omega) (by decide);have h2:=jD (u:=v) (k:=9) (by omega) (by decide);split
 ·simp
 ·split
  ·simp
  ·split
   ·simp;omega
   ·simp;omega
theorem af5{v:Nat}(h:v<=65535):wO (v:Int)=δ (bZ (oY v),0):=by
 have hw:aT (v:Int) 0 65535=ι:=by unfold aT;rw[decide_eq_true_eq];omega
 unfold wO oY;rw[hw,aE (by simp)];by_cases h0:v=0
 ·rw[aG h0,aG (by omega)];rfl
 rw[aE h0,aE (by omega)];by_cases h1:v=65535
 ·rw[aG h1,aG (by omega)];rfl
 rw[aE h1,aE (by omega)];rw[show ξ.wrap (100*(v:Int))=100*(v:Int)from dh (by unfold aR;omega),MN (by omega) (by decide),aB];have ep:(2*(100*(v:Int))+65535) / (2*65535)=(jr v:Int):=by unfold jr;omega
 have hp:jr v<=100:=by unfold jr;omega
 have kK:=jD (u:=jr v) (k:=9) (by omega) (by decide);have hvl:=jD (u:=v) (k:=9) (by omega) (by decide);rw[ep,show ξ.wrap ((jr v:Int)*65535)=(jr v:Int)*65535 from dh (by unfold aR;omega),MN (by omega) (by decide),aB];by_cases h2:(2*(jr v*65535)+100) / 200=v
 ·rw[aG h2,aG (by omega),eO (by unfold aR;omega),aB,pJ,show(⟨#[37]⟩:ByteArray)=bZ [37]from rfl,fA (by simp;omega)];rfl
 ·rw[aE h2,aE (by omega),eO (by unfold aR;omega),aB,pJ,show(⟨#[35]⟩:ByteArray)=bZ [35]from rfl,fA (by simp;omega)];rfl
theorem SF{u:Nat}{c:UInt8}{l r:List UInt8}(hc:iB c=ε):¬bZ (decDigits u++r)=bZ (c::l):=by
 intro e;have e':=pL e;cases hd:decDigits u with
 |nil=>exact CA u hd
 |cons x t=>rw[hd]at e';simp only[iA,VP]at e';have:=pK hc u;rw[hd,e'.1]at this;exact this p6
theorem af1{v:Nat}(h:v<=65535):yE (bZ (oY v))=δ ((v:Int),0):=by
 have hlen:=M1 h;unfold yE;unfold oY at hlen ⊢;by_cases h0:v=0
 ·rw[aG h0];subst h0;rfl
 rw[aE h0]at hlen ⊢;by_cases h1:v=65535
 ·rw[aG h1];subst h1;rfl
 rw[aE h1]at hlen ⊢;have hp:jr v<=100:=by unfold jr;omega
 have kK:=jD (u:=jr v) (k:=9) (by omega) (by decide);have hvl:=jD (u:=v) (k:=9) (by omega) (by decide);by_cases h2:(2*(jr v*65535)+100) / 200=v
 ·rw[aG h2]at hlen ⊢;have n1:¬bZ (decDigits (jr v)++[37])=(⟨#[111,117,116]⟩:ByteArray):=SF (c:=111) (l:=[117,116]) (by decide);have n2:¬bZ (decDigits (jr v)++[37])=(⟨#[102,117,108,108]⟩:ByteArray):=SF (c:=102) (l:=[117,108,108]) (by decide);rw[aE n1,aE n2];rw[show(⟨#[35]⟩:ByteArray)=bZ [35]from rfl,GJ (by decide) (by omega)]
  have hx:([35]:List UInt8).isPrefixOf (decDigits (jr v)++[37])=ε:=by
   cases hd:decDigits (jr v)with
   |nil=>exact absurd hd (CA _)
   |cons x t=>
    have:=pK (c:=35) (by decide) (jr v);rw[hd]at this;have:¬(35:UInt8)=x:=λe=>this (e▸p6)
    simp [Z8,this]
  rw[hx];simp only[n5,if_false,aB];rw[show(⟨#[37]⟩:ByteArray)=bZ [37]from rfl,Sa (by decide) (by omega),aB];simp only;rw[adY (by omega),aB];have h3:¬(10000<(jr v:Int)*100):=by omega
  simp only[AV,ZV,gJ h3,n5,if_false];rw[show ξ.wrap ((jr v:Int)*100*65535)=(jr v:Int)*100*65535 from dh (by unfold aR;omega),MN (by omega) (by decide),aB];congr 2;omega
 ·rw[aE h2]at hlen ⊢;have n1:¬bZ (35::decDigits v)=(⟨#[111,117,116]⟩:ByteArray):=λe=>by have e':=pL (e:bZ _=bZ [111,117,116]);simp at e'
  have n2:¬bZ (35::decDigits v)=(⟨#[102,117,108,108]⟩:ByteArray):=λe=>by have e':=pL (e:bZ _=bZ [102,117,108,108]);simp at e'
  rw[aE n1,aE n2];rw[show(⟨#[35]⟩:ByteArray)=bZ [35]from rfl,GJ (by decide) (by omega)];have hx:([35]:List UInt8).isPrefixOf (35::decDigits v)=ι:=by simp [Z8]
  rw[hx];simp only[if_true,aB];rw[show List.drop ([35]:List UInt8).length (35::decDigits v)=decDigits v from rfl,A9 (by omega),aB];have hw:aT (v:Int) 0 65535=ι:=by unfold aT;rw[decide_eq_true_eq];omega
  simp only[hw,AV,T9,n5,if_false]
theorem agy{c:UInt8}(h:iB c=ε)(h2:c≠46)(h3:c≠58)(t:Nat):c∉lf t:=by
 unfold lf;split
 ·exact Np h h2 (by omega)
 ·rw[ga,dW,dW,dW];rintro(e|e|e|e|e)
  ·exact pK h _ e
  ·exact h3 e
  ·exact Bx h (by omega) e
  ·exact Bx h (by omega) e
  ·exact anu h h2 (by omega) e
theorem Nq{c:UInt8}(h:iB c=ε)(h2:c∉([111,117,116,102,108,37,35]:List UInt8))(v:Nat):c∉oY v:=by
 simp only[dW,ZF,or_false,not_or]at h2;unfold oY;split
 ·simp [h2]
 ·split
  ·simp [h2]
  ·split
   ·rw[ga];rintro(e|e)
    ·exact pK h _ e
    ·simp at e;exact h2.2.2.2.2.2.1 e
   ·rw[dW];rintro(e|e)
    ·exact h2.2.2.2.2.2.2 e
    ·exact pK h _ e
end
section
open Lib
def fF(l:List UInt8):Prop:=∀c∈([10,32,34]:List UInt8),c∉l
theorem an3{a b:List UInt8}(h1:fF a)(h2:fF b):fF (a++b):=λc hc m=>by
 rcases ga.1 m with m|m
 ·exact h1 c hc m
 ·exact h2 c hc m
theorem TW{x:UInt8}{b:List UInt8}(h1:x∉([10,32,34]:List UInt8))(h2:fF b):fF (x::b):=λc hc m=>by
 rcases dW.1 m with m|m
 ·exact h1 (m▸hc)
 ·exact h2 c hc m
theorem Ip:∀c∈([10,32,34]:List UInt8),iB c=ε:=by decide
theorem HI(u:Nat):fF (decDigits u):=λc hc=>pK (Ip c hc) u
theorem agd{m r:Nat}(hr:r<1000):fF (nC m r):=λc hc=>Np (Ip c hc) (by revert c hc;decide) hr
theorem Dc(t:Nat):fF (lf t):=λc hc=>agy (Ip c hc) (by revert c hc;decide) (by revert c hc;decide) t
theorem age(v:Nat):fF (oY v):=λc hc=>Nq (Ip c hc) (by revert c hc;decide) v
theorem fF.b{l:List UInt8}(h:fF l):(32:UInt8)∉l:=h 32 (by decide)
theorem fF.n{l:List UInt8}(h:fF l):(10:UInt8)∉l:=h 10 (by decide)
def tl:List (List UInt8)->List UInt8
 |[]=>[]
 |w::r=>32::(w++tl r)
theorem Di:∀a b:List (List UInt8),tl (a++b)=tl a++tl b
 |[],b=>rfl
 |w::a,b=>by simp [tl,Di a b]
theorem IB:∀(ws:List (List UInt8))(a:List UInt8),fF a->(∀w∈ws,fF w)->mS (bZ (a++tl ws)) ⟨#[32]⟩=bZ a::ws.map bZ
 |[],a,ha,_=>by rw[tl,Zq,TJ ha.b];rfl
 |w::ws,a,ha,hw=>by rw[tl,TI ha.b,IB ws w (hw w p6) (λv hv=>hw v (iR _ hv))];rfl
theorem Sr:∀ws:List (List UInt8),joinTail [32] ws=tl ws
 |[]=>rfl
 |w::ws=>by have:=Sr ws;unfold joinTail at this ⊢;rw[dJ,Xq,this];rfl
theorem afn(a:List UInt8)(ws:List (List UInt8)):join (a::ws) [32]=a++tl ws:=by rw[join_cons,Sr]
theorem agO{ws:List (List UInt8)}{k:Nat}(h:∀w∈ws,w.length<=k):(tl ws).length<=ws.length*(k+1):=by
 induction ws with
 |nil=>simp [tl]
 |cons w r ih=>
  have h1:=h w p6;have h2:=ih λv hv=>h v (iR _ hv)
  simp only[tl,n9,p5,fJ];omega
theorem Nb{α:Type}(x:α)(l:List α):ju (x::l) (δ 1) μ=δ l:=by unfold ju;simp only[ZY,ZZ,n9];rw[aG ⟨by omega,by omega,by omega⟩];simp
theorem Da{α:Type}(x y:α)(l:List α):ju (x::y::l) (δ 2) μ=δ l:=by unfold ju;simp only[ZY,ZZ,n9];rw[aG ⟨by omega,by omega,by omega⟩];simp;exact rU (cg _)
theorem adE{α:Type}(x y z:α)(l:List α):ju (x::y::z::l) (δ 3) μ=δ l:=by unfold ju;simp only[ZY,ZZ,n9];rw[aG ⟨by omega,by omega,by omega⟩];simp;exact rU (cg _)
theorem ad6{α β R γ:Type}(f:β->α)(l:List β){body:Nat->α->List β->Option (Lr (List β) (List β) R)}{fin:List β->Option (List β)}{K1:List β->Option γ}{K2:R->Option γ}(hl:l.length<=cz)
  (hb:∀p∈l,∀i pre,pre.length<l.length->body i (f p) pre=δ (.go (pre++[p]))) (hf:fin l=δ l):gL (l.map f) body fin [] K1 K2=K1 l:=by
 rw[wR (by rw[XZ];exact hl)]
 have key:∀(rest pre:List β)(i:Nat),l=pre++rest->gh body fin (rest.map f) i pre=δ (.inl l):=by
  intro rest;induction rest with
  |nil=>intro pre i hp;rw[Zq]at hp;subst hp;rw[List.map_nil,gh,hf];rfl
  |cons x rest ih=>intro pre i hp;rw[dJ,gh,hb x (by rw[hp];simp) i pre (by rw[hp];simp),aB];exact ih (pre++[x]) (i+1) (by simpa using hp)
 rw[key l [] 0 rfl];rfl
def jR(p:eA):List UInt8:=decDigits p.time.toNat++58::decDigits p.way.toNat
def IP(p:eA):Prop:=(0<=p.time/\p.time<=1000)/\0<=p.way/\p.way<=1000
theorem VG(p:eA):fF (jR p):=an3 (HI _) (TW (by decide) (HI _))
theorem Ih{p:eA}(h:IP p):(jR p).length<=20:=by obtain⟨h1,h2⟩:=h;have a1:=jD (u:=p.time.toNat) (k:=9) (by omega) (by decide);have a2:=jD (u:=p.way.toNat) (k:=9) (by omega) (by decide);unfold jR;simp;omega
theorem afZ{p:eA}(h:IP p):yG (bZ (jR p)) (⟨#[58]⟩:ByteArray)=δ (p.time,p.way,ι):=by have hl:=Ih h;obtain⟨h1,h2⟩:=h;unfold yG;rw[eO (by rw[eE];omega),aB];unfold jR;rw[C4 (pK (by decide) _)];simp only;rw[A9 (by omega),aB,A9 (by omega),aB];simp only[Bool.and_self,χ,Ξ,and_true];omega
structure UF (c : fZ) : Prop where
 kind:1<=c.kind/\c.kind<=6
 X1:c.kind≠6->c.bp=[]
 len:c.bp.length<=20
 pts:∀p∈c.bp,IP p
theorem CR{c:fZ}(h:iw c=0):UF c:=by
 unfold iw at h;by_cases h1:aT c.kind 1 6=ε
 ·simp [h1]at h
 rw[aE h1]at h
 have hk:1<=c.kind/\c.kind<=6:=by unfold aT at h1;simpa using h1
 by_cases h6:c.kind=6
 ·rw[aG h6]at h;by_cases h2:c.bp.length<2
  ·simp [h2]at h
  rw[aE h2]at h;by_cases h3:20<c.bp.length
  ·simp [h3]at h
  rw[aE h3]at h;refine⟨hk,λk=>absurd h6 k,by omega,λp hp=>?_⟩;unfold O5 at h;by_cases h4:c.bp.any yY=ι
  ·simp [h4]at h
  have:yY p=ε:=by rw[<-ap6];exact λk=>h4 (List.any_eq_true.2 ⟨p,hp,k⟩)
  unfold yY aT at this;simpa [IP]using this
 ·rw[aE h6]at h;by_cases h2:0<c.bp.length
  ·simp [h2]at h
  have:c.bp=[]:=xA (by omega);exact⟨hk,λ_=>this,by omega,λp hp=>by rw[this]at hp;cases hp⟩
def lQ(k:Int):List UInt8:=if k=1 then[108,105,110,101,97,114]else if k=2 then[115,108,111,119]else if k=3 then[102,97,115,116]else if k=4 then[115,111,102,116]else if k=5 then[115,116,101,112]else[116,97,98,108,101]
theorem Sg(k:Int):wI k=δ (bZ (lQ k)):=by
 unfold wI lQ
 repeat' split
 all_goals rfl
theorem aeJ(k:Int):yW k=bZ (lQ k):=by unfold yW;rw[Sg];rfl
theorem U7(k:Int):(lQ k).length<=6:=by
 unfold lQ
 repeat' split
 all_goals simp
theorem VF(k:Int):fF (lQ k):=by
 unfold lQ
 repeat' split
 all_goals (unfold fF;decide)
theorem aeh{k:Int}(h:1<=k/\k<=6):iQ (bZ (lQ k))=k:=by
 unfold iQ;simp only[aeJ,NC,List.foldl_cons,List.foldl_nil];obtain rfl|rfl|rfl|rfl|rfl|rfl:k=1\/k=2\/k=3\/k=4\/k=5\/k=6:=by omega
 all_goals decide
def vR(c:fZ):List UInt8:=lQ c.kind++tl (c.bp.map jR)
theorem HU{c:fZ}(h:UF c):(vR c).length<=500:=by
 have h1:=U7 c.kind
 have h2:=agO (ws:=c.bp.map jR) (k:=20) (λw hw=>by
  obtain⟨p,hp,rfl⟩:=jJ.1 hw
  exact Ih (h.pts p hp))
 have h3:=h.len;rw[XZ]at h2;unfold vR;rw[p5];omega
theorem aos:∀(l:List eA)(a:List UInt8),l.foldl (λs p=>bZ (lZ s++32::jR p)) (bZ a)=bZ (a++tl (l.map jR))
 |[],a=>by simp [tl]
 |p::l,a=>by rw[List.foldl_cons,jh,aos l,dJ,tl];simp
theorem abo{c:fZ}(h:iw c=0):yy c=δ (bZ (vR c),0):=by
 have ho:=CR h;unfold yy;rw[aE (by simp [h]),Sg,aB];have hk:=U7 c.kind;have hlen:=ho.len;rw[Me (g:=λs p=>bZ (lZ s++32::jR p)) (P:=λi s=>(lZ s).length<=6+i*30) (by unfold cz;omega) (by rw[jh];omega) ?_ ?_,aos]
 ·rfl
 ·intro i p s hp hs;have:=Ih (ho.pts p (cW hp));rw[jh];simp;simp at hs;omega
 ·intro i p s hp hs;have YT:=ho.pts p (cW hp);have hi:=(cD.1 hp).1;have a0:=Ih YT;obtain⟨h1,h2⟩:=YT;have a1:=jD (u:=p.time.toNat) (k:=9) (by omega) (by decide);have a2:=jD (u:=p.way.toNat) (k:=9) (by omega) (by decide);have e1:p.time=(p.time.toNat:Int):=by omega
  have e2:p.way=(p.way.toNat:Int):=by omega
  unfold jR at a0 ⊢;rw[eO (by unfold aR;omega),eO (by unfold aR;omega)];generalize p.time.toNat=u at *
  generalize p.way.toNat=v at *
  rw[e1,e2,pJ,pJ,<-xk s];simp only[aB];rw[show(⟨#[32]⟩:ByteArray)=bZ [32]from rfl,show(⟨#[58]⟩:ByteArray)=bZ [58]from rfl,fA (by simp;omega)]
  simp only[aB];rw[fA (by simp;omega)];simp only[aB];rw[fA (by simp;omega)];simp only[aB];rw[fA (by simp at a0 hs ⊢;omega)];simp [jh]
theorem abq{c:fZ}(h:iw c=0):Ay (bZ (vR c))=δ (c,0):=by
 have ho:=CR h;have hl:=HU ho;have hpl:=ho.len;unfold Ay;rw[eO ⟨by rw[eE];omega,by decide⟩,aB];unfold vR;rw[IB _ _ (VF _) (λw hw=>by obtain⟨p,hp,rfl⟩:=jJ.1 hw;exact VG p)];have e0:cJ (bZ (lQ c.kind)::(c.bp.map jR).map bZ) 0=δ (bZ (lQ c.kind)):=rfl;have e1:ju (bZ (lQ c.kind)::(c.bp.map jR).map bZ) (δ 1) μ=δ ((c.bp.map jR).map bZ):=Nb _ _;rw[e0,aB,aeh ho.kind,aE]
 ·rw[e1,aB,List.map_map];rw[ad6 (bZ∘jR) c.bp (by unfold cz;omega) ?_ rfl]
  ·have:iw ⟨c.kind,c.bp⟩=0:=h;rw[aE (by simp [this])]
  ·intro p hp i pre hpre;show(yG (bZ (jR p)) _).bind _=_;rw[afZ (ho.pts p hp),aB];simp;omega
 ·have:=ho.kind;rintro(k|⟨k1,k2⟩)
  ·omega
  ·rw[ho.X1 k1]at k2;simp at k2
end
section
open Lib
theorem U6{n:Int}(h:0<=n):ke n=bZ (decDigits n.toNat):=by obtain⟨u,rfl⟩:=Z7 h;rw[pJ,Zk]
theorem af4{n:Int}(h:0<=n/\n<=65535):wO n=δ (bZ (oY n.toNat),0):=by obtain⟨u,rfl⟩:=Z7 h.1;rw[Zk];exact af5 (by omega)
theorem af0{n:Int}(h:0<=n/\n<=65535):yE (bZ (oY n.toNat))=δ (n,0):=by obtain⟨u,rfl⟩:=Z7 h.1;rw[Zk];exact af1 (by omega)
theorem GZ{n:Int}(h:0<=n/\n<=36000000):oI n=δ (bZ (lf n.toNat)):=by obtain⟨u,rfl⟩:=Z7 h.1;rw[Zk];exact acL (by omega)
theorem CI{n:Int}(h:0<=n/\n<=36000000):lU (bZ (lf n.toNat))=δ (n,0):=by obtain⟨u,rfl⟩:=Z7 h.1;rw[Zk];exact abT (by omega)
theorem TP{n:Int}(h:0<=n/\n<1000000000):qC (bZ (decDigits n.toNat))=δ (n,ι):=by obtain⟨u,rfl⟩:=Z7 h.1;rw[Zk];exact A9 (by omega)
theorem agT{l:List UInt8}(h:l.all ur=ι)(hn:l≠[])(hl:l.length<=1000000):yI (bZ l)=δ ι:=by
 unfold yI;refine(adI l.length (λk=>(k:Int)) (b:=()) ?_ ?_).trans ?_
 ·intro k hk;have hok:=kV.1 h l[k] (List.getElem_mem hk);unfold ur at hok;simp only;rw[aG (by rw[eE];omega),NP (x:=l[k]) (cy hk),aB,aE]
  ·rw[dh (by unfold aR;omega)];rfl
  ·simp only[VC,kH,Bool.and_eq_false_iff,decide_eq_false_iff_not,Bool.or_eq_true,decide_eq_true_eq]at hok ⊢;omega
 ·simp only;rw[aE (by rw[eE];omega)]
 ·have:¬bZ l=(⟨#[]⟩:ByteArray):=λe=>hn (pL (e:bZ l=bZ []))
  simp [this]
structure ou (m : aJ) : Prop where
 unit:1<=m.key.unit/\m.key.unit<=9999
 name:(lZ m.key.param).all ur=ι/\lZ m.key.param≠[]/\(lZ m.key.param).length<=20
 rel:m.release=ι->m.value=⟨0,0⟩
 val:m.value.level=0\/m.value.bW=0
 QJ:0<=m.value.level/\m.value.level<=65535
 pre:0<=m.value.bW/\m.value.bW<=999
 tmd:m.cG=ε->m.br=0/\m.time=0
 xX:0<=m.br/\m.br<=36000000
 Q7:0<=m.time/\m.time<=36000000
theorem within_iff{n a b:Int}:aT n a b=ι↔a<=n/\n<=b:=by unfold aT;exact decide_eq_true_iff
theorem afu{s:ByteArray}(h:oh s=ι):(lZ s).all ur=ι/\lZ s≠[]/\(lZ s).length<=20:=by unfold oh zg at h;simp only[dZ,decide_eq_true_eq]at h;obtain⟨⟨⟨⟨h1,h2⟩,h3⟩,_⟩,_⟩:=h;refine⟨h1,λe=>?_,h3⟩;have:s.size=(lZ s).length:=rfl;rw[this,e]at h2;exact absurd h2 (by simp)
theorem ahc{l:List aJ}{i:Nat}{m:aJ}(h:Dq l i m=0):ou m:=by
 unfold Dq at h;by_cases h1:aT m.key.unit 1 9999=ι;case neg=>simp [h1]at h
 rw[aE (by simp [h1])]at h;by_cases h2:oh m.key.param=ι;case neg=>simp [h2]at h
 rw[aE (by simp [h2])]at h;by_cases h3:((m.release&&(decide (¬(m.value=(⟨0,0⟩:aO)))))||((decide (¬(m.value.level=0)))&&(decide (¬(m.value.bW=0)))))=ι
 ·rw[aG h3]at h;cases h
 rw[aE h3]at h;by_cases h4:((!(aT m.value.level 0 65535))||(!(aT m.value.bW 0 999)))=ι
 ·rw[aG h4]at h;cases h
 rw[aE h4]at h;by_cases h5:((!m.cG)&&((decide (¬(m.br=0)))||(decide (¬(m.time=0)))))=ι
 ·rw[aG h5]at h;cases h
 rw[aE h5]at h;by_cases h6:((!(aT m.br 0 36000000))||(!(aT m.time 0 36000000)))=ι
 ·rw[aG h6]at h;cases h
 simp only[Bool.or_eq_true,dZ,VC,decide_eq_true_eq,not_or,not_and,Bool.not_eq_false,within_iff,Decidable.not_not]at h3 h4 h5 h6;refine⟨within_iff.1 h1,afu h2,h3.1,?_,h4.1,h4.2,λk=>?_,h6.1,h6.2⟩
 ·by_cases k:m.value.level=0
  ·exact .inl k
  ·exact .inr (h3.2 k)
 ·exact h5 k
def oH(m:aJ):List UInt8:=decDigits m.key.unit.toNat++46::lZ m.key.param
def qS(m:aJ):List (List UInt8):=if m.release=ι then[[114,101,108,101,97,115,101]]else if 0<m.value.bW then[[112,114,101,115,101,116],decDigits m.value.bW.toNat]else[oY m.value.level.toNat]
def wj(m:aJ):List (List UInt8):=if m.cG=ι then(if 0<m.br then[[105,110],lf m.time.toNat,[97,102,116,101,114],lf m.br.toNat]else[[105,110],lf m.time.toNat])else[]
def sK(m:aJ):List UInt8:=oH m++tl (qS m++wj m)
theorem aeX{l:List UInt8}(h:l.all ur=ι):fF l:=λc hc hm=>by
 have:=kV.1 h c hm;have key:∀c∈([10,32,34]:List UInt8),ur c=ε:=by decide
 rw[key c hc]at this;cases this
theorem aof{m:aJ}(h:ou m):fF (oH m):=an3 (HI _) (TW (by decide) (aeX h.name.1))
theorem anN{m:aJ}(h:ou m):∀w∈qS m++wj m,fF w:=by
 intro w hw;rcases ga.1 hw with hw|hw
 ·unfold qS at hw;split at hw
  ·simp only[dW,ZF,or_false]at hw;subst hw;unfold fF;decide
  ·split at hw
   ·simp only[dW,ZF,or_false]at hw;rcases hw with rfl|rfl
    ·unfold fF;decide
    ·exact HI _
   ·simp only[dW,ZF,or_false]at hw;subst hw;exact age _
 ·unfold wj at hw;split at hw
  ·split at hw
   ·simp only[dW,ZF,or_false]at hw;rcases hw with rfl|rfl|rfl|rfl
    ·unfold fF;decide
    ·exact Dc _
    ·unfold fF;decide
    ·exact Dc _
   ·simp only[dW,ZF,or_false]at hw;rcases hw with rfl|rfl
    ·unfold fF;decide
    ·exact Dc _
  ·cases hw
theorem Vc{m:aJ}(h:ou m):(tl (qS m)).length<=60:=by
 have h1:=h.QJ;have h2:=h.pre;have a1:=M1 (v:=m.value.level.toNat) (by omega);have a2:=jD (u:=m.value.bW.toNat) (k:=9) (by omega) (by decide);unfold qS;split
 ·simp [tl]
 ·split
  ·simp [tl];omega
  ·simp [tl];omega
theorem Va{m:aJ}(h:ou m):(tl (wj m)).length<=60:=by
 have h1:=h.xX;have h2:=h.Q7;have a1:=uN (t:=m.time.toNat) (by omega);have a2:=uN (t:=m.br.toNat) (by omega);unfold wj;split
 ·split
  ·simp [tl];omega
  ·simp [tl];omega
 ·simp [tl]
theorem M3{m:aJ}(h:ou m):(oH m).length<=40:=by have h1:=h.unit;have a1:=jD (u:=m.key.unit.toNat) (k:=9) (by omega) (by decide);have:=h.name.2.2;unfold oH;simp only[p5,n9];omega
theorem Ia{m:aJ}(h:ou m):(sK m).length<=160:=by have h1:=M3 h;have h2:=Vc h;have h3:=Va h;unfold sK;rw[Di,p5,p5];omega
theorem acj{m:aJ}(h:ou m):Cy m=δ (bZ (32::32::(sK m++[10]))):=by
 have hA:=M3 h;have hV:=Vc h;have hT:=Va h;have hu:=h.unit;have hn:=h.name.2.2;have hl:=h.QJ;have hp:=h.pre;have hd:=h.xX;have ht:=h.Q7;have b1:=jD (u:=m.key.unit.toNat) (k:=9) (by omega) (by decide);have e1:m.key.unit=(m.key.unit.toNat:Int):=by omega
 have head:((tq (aR m.key.unit) (ke m.key.unit)).bind λr1=>
 (cC (⟨#[32,32]⟩:ByteArray) r1).bind λx2=>
 (cC x2 (⟨#[46]⟩:ByteArray)).bind λx3=>
 (cC x3 m.key.param).bind λx4=>
 (cC x4 (⟨#[32]⟩:ByteArray)).bind λx5=>δ x5)=δ (bZ (32::32::(oH m++[32]))):=by
  rw[eO (by unfold aR;omega),aB,U6 (by omega),show(⟨#[32,32]⟩:ByteArray)=bZ [32,32]from rfl,show(⟨#[46]⟩:ByteArray)=bZ [46]from rfl,show(⟨#[32]⟩:ByteArray)=bZ [32]from rfl,<-xk m.key.param];rw[fA (by simp;omega),aB,fA (by simp;omega),aB,fA (by simp at hn ⊢;omega),aB,fA (by simp at hn ⊢;omega),aB];simp [oH,jh]
 have mid:(show Option ByteArray from
   if m.release=ι then
    (cC (bZ (32::32::(oH m++[32]))) (⟨#[114,101,108,101,97,115,101]⟩:ByteArray)).bind λx6=>
    δ x6
   else
   (show Option ByteArray from
     if 0<m.value.bW then
      (tq (aR m.value.bW) (ke m.value.bW)).bind λr7=>
      (cC (⟨#[112,114,101,115,101,116,32]⟩:ByteArray) r7).bind λx8=>
      (cC (bZ (32::32::(oH m++[32]))) x8).bind λx9=>
      δ x9
     else
     (wO m.value.level).bind λbG=>
     (cC (bZ (32::32::(oH m++[32]))) bG.1).bind λbB=>
     δ bB).bind λlP=>
   δ lP)=δ (bZ (32::32::(oH m++tl (qS m)))):=by
  show(if m.release=ι then _ else _)=_;unfold qS;by_cases hr:m.release=ι
  ·rw[aG hr,aG hr,show(⟨#[114,101,108,101,97,115,101]⟩:ByteArray)=bZ [114,101,108,101,97,115,101]from rfl,fA (by simp;omega),aB];simp [tl]
  ·rw[aE hr,aE hr];by_cases hq:0<m.value.bW
   ·have e2:m.value.bW=(m.value.bW.toNat:Int):=by omega
    have b2:=jD (u:=m.value.bW.toNat) (k:=9) (by omega) (by decide);rw[aG hq];simp only[aG hq];rw[eO (by unfold aR;omega),aB,U6 (by omega),show(⟨#[112,114,101,115,101,116,32]⟩:ByteArray)=bZ [112,114,101,115,101,116,32]from rfl,fA (by simp;omega),aB,fA (by simp;omega),aB];simp [tl]
   ·have e2:m.value.level=(m.value.level.toNat:Int):=by omega
    have b2:=M1 (v:=m.value.level.toNat) (by omega);rw[aE hq];simp only[aE hq];rw[af4 hl,aB];simp only;rw[fA (by simp;omega),aB];simp [tl]
 have tail:(show Option ByteArray from
   if m.cG=ι then
    (oI m.time).bind λcY=>
    (cC (⟨#[32,105,110,32]⟩:ByteArray) cY).bind λbK=>
    (cC (bZ (32::32::(oH m++tl (qS m)))) bK).bind λbV=>
    (show Option ByteArray from
      if 0<m.br then
       (oI m.br).bind λku=>
       (cC (⟨#[32,97,102,116,101,114,32]⟩:ByteArray) ku).bind λdM=>
       (cC bV dM).bind λdQ=>
       δ dQ
      else
      δ bV).bind λCc=>
    δ Cc
   else
   δ (bZ (32::32::(oH m++tl (qS m)))))=δ (bZ (32::32::sK m)):=by
  show(if m.cG=ι then _ else _)=_;unfold sK;rw[Di];unfold wj;by_cases hr:m.cG=ι
  ·have e2:m.time=(m.time.toNat:Int):=by omega
   have b2:=uN (t:=m.time.toNat) (by omega);rw[aG hr,aG hr,GZ ht,aB,show(⟨#[32,105,110,32]⟩:ByteArray)=bZ [32,105,110,32]from rfl,fA (by simp;omega),aB,fA (by simp;omega),aB];by_cases hq:0<m.br
   ·have e3:m.br=(m.br.toNat:Int):=by omega
    have b3:=uN (t:=m.br.toNat) (by omega);simp only[aG hq];rw[GZ hd,aB,show(⟨#[32,97,102,116,101,114,32]⟩:ByteArray)=bZ [32,97,102,116,101,114,32]from rfl,fA (by simp;omega),aB,fA (by simp;omega),aB];simp [tl]
   ·simp only[aE hq];simp [tl]
  ·rw[aE hr,aE hr];simp [tl]
 unfold Cy;have hL:=Ia h;rw[bh]at head;obtain⟨r1,q1,head⟩:=head;rw[bh]at head;obtain⟨r2,q2,head⟩:=head;rw[bh]at head;obtain⟨r3,q3,head⟩:=head;rw[bh]at head;obtain⟨r4,q4,head⟩:=head;rw[bh]at head;obtain⟨r5,q5,head⟩:=head;injection head with head
 subst head;rw[q1,aB,q2,aB,q3,aB,q4,aB,q5,aB];refine(congrArg (λo=>aph o _) mid).trans ?_;refine(congrArg (λo=>aph o _) tail).trans ?_;rw[aB,show(⟨#[10]⟩:ByteArray)=bZ [10]from rfl,fA (by simp;omega)];rfl
def Nw (m0:aJ) (x7:List ByteArray):Option (aJ×Bool):=
  if(x7.length:Int)=0 then
   δ (m0,ι)
  else
  (cJ x7 0).bind λx8=>
  if((decide (¬(x8=(⟨#[105,110]⟩:ByteArray))))||((decide (¬((x7.length:Int)=2)))&&(decide (¬((x7.length:Int)=4)))))=ι then
   δ ((⟨(⟨0,(⟨#[]⟩:ByteArray)⟩:au),(⟨0,0⟩:aO),ε,ε,0,0⟩:aJ),ε)
  else
  (cJ x7 1).bind λx9=>
  (lU x9).bind λbG=>
  if((decide (bG.2=0))&&(decide ((x7.length:Int)=4)))=ι then
   (cJ x7 3).bind λbB=>
   (lU bB).bind λfG=>
   (cJ x7 2).bind λbU=>
   if((decide (¬(bU=(⟨#[97,102,116,101,114]⟩:ByteArray))))||(decide (({{{m0 with cG:=ι}with time:=bG.1}with br:=fG.1}).br=0)))=ι then
    δ ((⟨(⟨0,(⟨#[]⟩:ByteArray)⟩:au),(⟨0,0⟩:aO),ε,ε,0,0⟩:aJ),ε)
   else
   δ ({{{m0 with cG:=ι}with time:=bG.1}with br:=fG.1},decide (fG.2=0))
  else
  δ ({{m0 with cG:=ι}with time:=bG.1},decide (bG.2=0))
theorem aey{k:au}{v:aO}{r b:Bool}{d t:Int}(h:ou ⟨k,v,r,b,d,t⟩):Nw ⟨k,v,r,ε,0,0⟩ ((wj ⟨k,v,r,b,d,t⟩).map bZ)=δ (⟨k,v,r,b,d,t⟩,ι):=by
 have hd:=h.xX;have ht:=h.Q7;have YX:=h.tmd;simp only at hd ht YX;unfold wj;simp only;cases b with
 |false=>obtain⟨rfl,rfl⟩:=YX rfl;rfl
 |true=>
  have e1:t=(t.toNat:Int):=by omega
  rw[aG rfl];by_cases hq:0<d
  ·have e2:d=(d.toNat:Int):=by omega
   rw[aG hq];unfold Nw;simp only[dJ,List.map_nil];rw[aE (by simp)];have i0:∀a b c d:ByteArray,cJ [a,b,c,d] 0=δ a/\cJ [a,b,c,d] 1=δ b/\cJ [a,b,c,d] 2=δ c/\cJ [a,b,c,d] 3=δ d:=λa b c d=>⟨rfl,rfl,rfl,rfl⟩
   simp only[(i0 _ _ _ _).1,(i0 _ _ _ _).2.1,(i0 _ _ _ _).2.2.1,(i0 _ _ _ _).2.2.2,aB];rw[aE (by simp;rfl),CI ht,aB,aG (by simp),CI hd,aB,aE]
   ·rfl
   ·simp only[Bool.or_eq_true,decide_eq_true_eq,not_or,Decidable.not_not];exact⟨rfl,by omega⟩
  ·have e2:d=0:=by omega
   subst e2;rw[aE hq];unfold Nw;simp only[dJ,List.map_nil];rw[aE (by simp)];have i0:∀a b:ByteArray,cJ [a,b] 0=δ a/\cJ [a,b] 1=δ b:=λa b=>⟨rfl,rfl⟩
   simp only[(i0 _ _).1,(i0 _ _).2,aB];rw[aE (by simp;rfl),CI ht,aB,aE (by simp)];rfl
theorem ae5{m:aJ}:iL (bZ (oH m)) ⟨#[46]⟩=(bZ (decDigits m.key.unit.toNat),m.key.param,ι):=by unfold oH;rw[C4 (pK (by decide) _),xk]
theorem acs{m:aJ}(h:ou m):wK (bZ (sK m))=δ (m,ι):=by
 have hL:=Ia h;have hA:=M3 h;have hu:=h.unit;have hl:=h.QJ;have hp:=h.pre;have e1:m.key.unit=(m.key.unit.toNat:Int):=by omega
 unfold wK;rw[eO ⟨by rw[eE];omega,by decide⟩,aB];unfold sK;rw[IB _ _ (aof h) (anN h)];have i0:∀(a:ByteArray)(l:List ByteArray),cJ (a::l) 0=δ a:=λa l=>rfl
 have i1:∀(a b:ByteArray)(l:List ByteArray),cJ (a::b::l) 1=δ b:=λa b l=>rfl
 have i2:∀(a b c:ByteArray)(l:List ByteArray),cJ (a::b::c::l) 2=δ c:=λa b c l=>rfl
 rw[i0,aB,eO (by rw[eE];omega),aB,ae5];simp only;rw[TP (by omega),aB];simp only[AV,Bool.or_self,Zy,if_true,ZV]
 have hrow:yI m.key.param=δ ι:=by rw[<-xk m.key.param];exact agT h.name.1 h.name.2.1 (by have:=h.name.2.2;omega)
 rw[hrow,aB]
 have hlen:¬((bZ (oH m)::((qS m++wj m).map bZ)).length:Int)<2:=by
  unfold qS;split
  ·simp;omega
  ·split
   ·simp;omega
   ·simp;omega
 rw[gJ hlen];simp only[AV,Bool.or_self,n5,if_false];obtain⟨⟨u,p⟩,⟨lv,ps⟩,rel,b,d,t⟩:=m;simp only at *
 have key:=aey h;unfold qS;simp only;cases rel with
 |true=>have hv:=h.rel rfl;simp only[aO.mk.injEq]at hv;obtain⟨rfl,rfl⟩:=hv;rw[aG rfl];simp only[iA,ZH,dJ];rw[i1,aB,aG (show bZ [114,101,108,101,97,115,101]=(⟨#[114,101,108,101,97,115,101]⟩:ByteArray)from rfl),Da,aB];exact key
 |false=>
  rw[aE (by simp)];by_cases hq:0<ps
  ·have e2:ps=(ps.toNat:Int):=by omega
   have hlv:lv=0:=by rcases h.val with k|k<;>simp only at k<;>omega
   subst hlv;rw[aG hq];simp only[iA,ZH,dJ];have n1:¬bZ [112,114,101,115,101,116]=(⟨#[114,101,108,101,97,115,101]⟩:ByteArray):=λe=>by have e':=pL (e:bZ _=bZ [114,101,108,101,97,115,101]);simp at e'
   rw[i1,aB,aE n1,aB,aG,i2,aB,TP (by omega),aB,aE,adE,aB]
   ·exact key
   ·simp;omega
   ·simp only[dZ,decide_eq_true_eq];exact⟨rfl,by simp;omega⟩
  ·have e2:ps=0:=by omega
   have e3:lv=(lv.toNat:Int):=by omega
   subst e2;rw[aE hq];simp only[iA,ZH,dJ]
   have n1:¬bZ (oY lv.toNat)=(⟨#[114,101,108,101,97,115,101]⟩:ByteArray):=λe=>by have e':=pL (e:bZ _=bZ [114,101,108,101,97,115,101]);exact Nq (c:=114) (by decide) (by decide) lv.toNat (by rw[e'];decide)
   have n2:¬bZ (oY lv.toNat)=(⟨#[112,114,101,115,101,116]⟩:ByteArray):=λe=>by have e':=pL (e:bZ _=bZ [112,114,101,115,101,116]);exact Nq (c:=114) (by decide) (by decide) lv.toNat (by rw[e'];decide)
   rw[i1,aB,aE n1,aB,gJ n2];simp only[YM,n5,if_false];rw[aB,af0 hl,aB];simp only[not_true_eq_false,if_false];rw[Da,aB];exact key
end
end
end Go.Proofs.YtngdngjbofohaaaGreatDoor
