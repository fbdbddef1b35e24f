/- Parts of the proof of StampEventTextsComeBack, in order. -/
import Derived.Sort.Statements
import Derived.Lib.ItoaLen
import Derived.Test.YtpcafbmnjchmcaaGreatDoorKStampEventTextsComeBack3
namespace Go.Proofs.YtpcafbmnjchmcaaGreatDoor
set_option linter.unusedVariables false
set_option linter.unusedSimpArgs false
set_option linter.unusedSectionVars false
set_option maxRecDepth 1000000
noncomputable section
open Int renaming tdiv->Vu,tdiv_eq_ediv_of_nonneg->Lw,tmod_eq_emod_of_nonneg->Ym,eq_ofNat_of_zero_le->Y2,toNat_natCast->Xk,tmod->Xy
open List renaming not_mem_nil->ZK,find?_some->alM,getElem?_set_ne->W1,dropWhile->al1,length_nil->AV,isPrefixOf->X6,findSome?_cons->ald,isPrefixOf_iff_prefix->ZT,length_cons->l8,nil_append->Yd,getD_eq_getElem?_getD->Zc,find?_cons->al7,map_nil->ali,length_append->W0,find?_eq_none->aln,map->Yc,length_drop->YI,all_cons->Z4,mem_iff_getElem->Y0,append_nil->WQ,any_eq_true->WJ,length_map->Yo,mem_cons_self->Xl,find?->WX
open AX renaming ret->i7,exit->eN
open List.cons renaming injEq->ZX
open A renaming neq->XQ,nn->Ya,dZ->Zw,fin->Ξ,eo->Zs,own->akY,append->Z9,aM->w8,wrap->ir,elems->ak8,bO->Xz
open Bool renaming false_and->YU,not_true->n8,or_self->XN,false_or->WS,not_eq_true'->p9,not_eq_false->YX,false_eq_true->Φ,not_false->ZQ,or_eq_true->YW,false->ξ,true->θ,true_and->Zr,not_eq_false'->Xq,or_false->Xm,and_false->Y4
open U renaming str->Γ,int->Zx,az->p7,om->XH,bool->ψ,agg->n9,ah->η,lbx->XK,rp->YH,bA->Yn
open Option renaming getD_none->Xh,some->δ,none->μ,getD_some->y9
open Go.IntKind renaming u8->Y9,i64->ε
open bH renaming map->Z7
open Option.some renaming injEq->χ,inj->akV
open _root_.ByteArray renaming ext->Xo
open IntKind renaming i64->ε
open False renaming elim->alm
open UInt8 renaming toNat_ofNat'->XO,ofNat->ak0
open Decidable renaming not_not->YK
open Nat renaming le_trans->XA
open Go.Lib renaming compareBytes->ZM
section
def KH (a0:Int):Option Bool:=δ (aI a0 0 36000000)
theorem AJ{a0:Int}{σ:Heap}{r:Bool}(h:KH a0=δ r):wU [(η a0)] σ=δ ((ψ r),σ):=by refine iI (f:=Kr) (y0:=(η a0)) (enc:=λr:Bool=>(ψ r)) (T:=KH a0) rfl rfl ?_ r h;unfold Kr KH;refine aj _ (gr a0 0 36000000 σ) ?_;exact aN _ (aO _ _) ⟨rfl,rfl⟩
def AH (a0:bP) (a1:bP):Option Int:=
 if ¬(a0.unit=a1.unit)then
  if a0.unit<a1.unit then
   δ (-1)
  else
  δ 1
 else
 δ (ZM a0.param.data.toList a1.param.data.toList)
theorem ajH{a0:bP}{a1:bP}{σ:Heap}{r:Int}(h:AH a0 a1=δ r):J3 [(n9 (ct a0)),(n9 (ct a1))] σ=δ ((η r),σ):=by
 refine iJ (f:=J7) (y0:=(n9 (ct a0))) (y1:=(n9 (ct a1))) (enc:=λr:Int=>(η r)) (T:=AH a0 a1) rfl rfl ?_ r h;unfold J7 AH;refine aj _ rfl<|aj _ rfl<|aj _ rfl<|aj _ rfl<|aj _ (fI _ _ _) ?_;refine bR (p:=¬(a0.unit=a1.unit)) (λc2=>?_) (λc2=>?_)
 ·refine aj _ rfl<|aj _ rfl<|aj _ rfl ?_;refine bR (p:=a0.unit<a1.unit) (λc1=>?_) (λc1=>?_)
  ·exact aN _ (aO _ _) ⟨rfl,rfl⟩
  exact aN _ (aO _ _) ⟨rfl,rfl⟩
 refine aj _ rfl<|aj _ rfl<|aj _ rfl ?_;exact aN _ (aO _ _) ⟨rfl,rfl⟩
def Az (a0:(List kj)):Option Int:=
 iB a0 (λ(i8:Nat)e7(s1:Unit)=>(show Option (Lr Unit Unit Int)from
   if(!(aI e7.key.unit 1 9999))=θ then
    δ (.ret 1)
   else
   (tq (fN e7.key.param) (oM e7.key.param)).bind λr9=>
   if(!r9)=θ then
    δ (.ret 5)
   else
   if((e7.release&&(decide (¬(e7.value=(⟨0,0⟩:lG)))))||((decide (¬(e7.value.level=0)))&&(decide (¬(e7.value.eT=0)))))=θ then
    δ (.ret 3)
   else
   if((!(aI e7.value.level 0 65535))||(!(aI e7.value.eT 0 999)))=θ then
    δ (.ret 1)
   else
   if((!e7.xE)&&((decide (¬(e7.fE=0)))||(decide (¬(e7.time=0)))))=θ then
    δ (.ret 3)
   else
   if((!((aI e7.fE 0 36000000)))||(!((aI e7.time 0 36000000))))=θ then
    δ (.ret 1)
   else
   (if decide (0<(i8:Int))=θ then eL a0 (ε.wrap ((i8:Int) -1))else δ default).bind λaQ=>
   (if decide (0<(i8:Int))=θ then AH aQ.key e7.key else δ default).bind λdH=>
   if((decide (0<(i8:Int)))&&(decide (0<=dH)))=θ then
    δ (.ret 7)
   else
   δ (.go ()))) (λs1=>δ ()) () (λb2=>
  δ 0) (λb2=>
  δ b2)
theorem aks{a0:(List kj)}{σ:Heap}{r:Int}(h:Az a0=δ r):Jw [(sl 8 nF a0)] σ=δ ((η r),σ):=by
 refine iI (f:=JC) (y0:=(sl 8 nF a0)) (enc:=λr:Int=>(η r)) (T:=Az a0) rfl rfl ?_ r h;unfold JC Az;refine aj _ (fu _ _ _) ?_;refine mB (B:=Unit) (R:=Int) (λ(i8:Nat)(s1:Unit)v w3=>v=[(η 0),(η (i8:Int))]/\σ=w3) (λ(b2:Unit)(q:LS)=>∃u2 u7,q=((eN 0),([u2,u7]:au),σ)) (λ(b2:Int)(q:LS)=>∃u7,q=(i7,([(η b2),u7]:au),σ)) ?_ ?_ ⟨rfl,rfl⟩ ?_ ?_
 ·intro vT i8 e7 s1 v w3 lg hI;obtain⟨rfl,rfl⟩:=hI;refine aj _ (mH lg)<|mK<|aj _ (mz lg)<|aj _ rfl<|aj _ rfl<|aj _ (Ss _ _ rfl)<|aj _ rfl<|aj _ (gr e7.key.unit 1 9999 σ)<|aj _ rfl ?_;refine cR (c:=(!(aI e7.key.unit 1 9999))) (λmQ=>?_) (λmQ=>?_)
  ·exact aS (eM (by simp) ⟨_,rfl⟩)
  refine aj _ rfl ?_;refine aL (λr9:Bool=>((ψ r9),σ)) (λr9 Ey=>(eP (e:=λr:Bool=>((ψ r),σ)) (λhs=>GM e7.key.param hs σ)) Ey) (λr9 Ey=>?_);refine aj _ rfl ?_;refine cR (c:=(!r9)) (λkR=>?_) (λkR=>?_)
  ·exact aS (eM (by simp) ⟨_,rfl⟩)
  refine aj _ rfl<|bl (n9 (ue e7.value)) (λhg=>rfl)<|bl (n9 (ue (⟨0,0⟩:lG))) (λhg=>rfl)<|bl (ψ (decide (¬(e7.value=(⟨0,0⟩:lG))))) (λhg=>by(try rw[hg]);exact(ady _ _))<|aj _ (ga _ _)<|bf (η e7.value.level) (λhg=>rfl)<|bf (ψ (decide (¬(e7.value.level=0)))) (λhg=>by(try rw[hg]);exact(fI _ _ _))<|bf (ψ (decide (¬(e7.value.level=0)))) (λhg=>by(try rw[hg]);exact rfl)<|gM (η e7.value.eT) (λhg=>rfl)<|gM (ψ (decide (¬(e7.value.eT=0)))) (λhg=>by(try rw[hg]);exact(fI _ _ _))<|bf (ψ ((decide (¬(e7.value.level=0)))&&(decide (¬(e7.value.eT=0))))) (λhg=>by(try rw[hg]);exact(ga _ _))<|aj _ (eF _ _) ?_;refine cR (c:=((e7.release&&(decide (¬(e7.value=(⟨0,0⟩:lG)))))||((decide (¬(e7.value.level=0)))&&(decide (¬(e7.value.eT=0)))))) (λsP=>?_) (λsP=>?_)
  ·exact aS (eM (by simp) ⟨_,rfl⟩)
  refine aj _ rfl<|aj _ (gr e7.value.level 0 65535 σ)<|aj _ rfl<|bf (η e7.value.eT) (λhg=>rfl)<|bf (ψ (aI e7.value.eT 0 999)) (λhg=>by(try rw[hg]);exact(dX (gr e7.value.eT 0 999 σ)))<|bf (ψ (!(aI e7.value.eT 0 999))) (λhg=>by(try rw[hg]);exact rfl)<|aj _ (eF _ _) ?_;refine cR (c:=((!(aI e7.value.level 0 65535))||(!(aI e7.value.eT 0 999)))) (λlT=>?_) (λlT=>?_)
  ·exact aS (eM (by simp) ⟨_,rfl⟩)
  refine aj _ rfl<|aj _ rfl<|bl (η e7.fE) (λhg=>rfl)<|bl (ψ (decide (¬(e7.fE=0)))) (λhg=>by(try rw[hg]);exact(fI _ _ _))<|bl (ψ (decide (¬(e7.fE=0)))) (λhg=>by(try rw[hg]);exact rfl)<|jJ (η e7.time) (λhg=>rfl)<|jJ (ψ (decide (¬(e7.time=0)))) (λhg=>by(try rw[hg]);exact(fI _ _ _))<|bl (ψ ((decide (¬(e7.fE=0)))||(decide (¬(e7.time=0))))) (λhg=>by(try rw[hg]);exact(eF _ _))<|aj _ (ga _ _) ?_;refine cR (c:=((!e7.xE)&&((decide (¬(e7.fE=0)))||(decide (¬(e7.time=0)))))) (λoU=>?_) (λoU=>?_)
  ·exact aS (eM (by simp) ⟨_,rfl⟩)
  refine aj _ rfl<|aj _ (AJ (σ:=σ) (r:=(aI e7.fE 0 36000000)) rfl)<|aj _ rfl<|bf (η e7.time) (λhg=>rfl)<|bf (ψ ((aI e7.time 0 36000000))) (λhg=>by(try rw[hg]);exact(dX (AJ (σ:=σ) (r:=(aI e7.time 0 36000000)) rfl)))<|bf (ψ (!((aI e7.time 0 36000000)))) (λhg=>by(try rw[hg]);exact rfl)<|aj _ (eF _ _) ?_;refine cR (c:=((!((aI e7.fE 0 36000000)))||(!((aI e7.time 0 36000000))))) (λqu=>?_) (λqu=>?_)
  ·exact aS (eM (by simp) ⟨_,rfl⟩)
  refine aj _ rfl<|bl (sl 8 nF a0) (λhg=>rfl)<|bl (η (i8:Int)) (λhg=>rfl)<|bl (η (ε.wrap ((i8:Int) -1))) (λhg=>by(try rw[hg]);exact rfl) ?_;refine mC (ω:=kj) (λaQ=>(YH (nF aQ))) (λhg aQ DM=>by(try rw[hg]);exact kq DM) (λaQ DM=>?_);refine bl (YH (nF aQ)) (λhg=>by(try rw[hg]);exact rfl)<|bl (n9 (ct aQ.key)) (λhg=>by(try rw[hg]);exact rfl)<|bl (n9 (ct e7.key)) (λhg=>rfl) ?_;refine mC (ω:=Int) (λdH=>(η dH)) (λhg dH DH=>by(try rw[hg]);exact(dX (ajH DH))) (λdH DH=>?_);refine bl (ψ (decide (0<=dH))) (λhg=>by(try rw[hg]);exact rfl)<|aj _ (ga _ _) ?_;refine cR (c:=((decide (0<(i8:Int)))&&(decide (0<=dH)))) (λef=>?_) (λef=>?_)
  ·exact aS (eM (by simp) ⟨_,rfl⟩)
  refine aj _ (mA lg vT) ?_;exact aS (ke ⟨rfl,rfl⟩)
 ·intro hl s1 v w3 hI;obtain⟨rfl,rfl⟩:=hI;refine aj _ (mw _)<|mJ ?_;exact aS ⟨by simp,⟨_,_,rfl⟩⟩
 ·intro hl b2 q hq;obtain⟨u2,u7,rfl⟩:=hq;refine fF rfl ?_;exact aN _ (aO _ _) ⟨rfl,rfl⟩
 ·intro hl b2 q hq;obtain⟨u7,rfl⟩:=hq;refine nH rfl<|fF rfl ?_;exact aN _ (aO _ _) ⟨rfl,rfl⟩
def AU (a0:(List cr)):Option Int:=
 if 300<(a0.length:Int)then
  δ 2
 else
 iB a0 (λ(i8:Nat)e7(s1:Int)=>(show Option (Lr Int Int Int)from
   if(!(aI e7.aH 1 9999999))=θ then
    δ (.ret 1)
   else
   (if decide (0<(i8:Int))=θ then eL a0 (ε.wrap ((i8:Int) -1))else δ default).bind λx9=>
   if((decide (0<(i8:Int)))&&(decide (e7.aH<=x9.aH)))=θ then
    δ (.ret 7)
   else
   (if decide (¬(e7.title=(⟨#[]⟩:ByteArray)))=θ then tq (fN e7.title) (Bv e7.title)else δ default).bind λcz=>
   if((decide (¬(e7.title=(⟨#[]⟩:ByteArray))))&&(!cz))=θ then
    δ (.ret 3)
   else
   if(((((!((aI e7.fE 0 36000000)))||(!((aI e7.up 0 36000000))))||(!((aI e7.down 0 36000000))))||(!((aI e7.other 0 36000000))))||(!(aI e7.lJ (-1) 36000000)))=θ then
    δ (.ret 1)
   else
   if ¬((vq e7.kn)=0)then
    δ (.ret (vq e7.kn))
   else
   if 2000<(e7.gU.length:Int)then
    δ (.ret 2)
   else
   (Az e7.gU).bind λdH=>
   if ¬(dH=0)then
    δ (.ret dH)
   else
   δ (.go (ε.wrap (s1+(e7.gU.length:Int)))))) (λs1=>δ s1) 0 (λb2=>
  δ (if(decide (10000<b2))=θ then 2 else 0)) (λb2=>
  δ b2)
theorem aaY{a0:(List cr)}{σ:Heap}{r:Int}(h:AU a0=δ r):Ld [(sl 11 dY a0)] σ=δ ((η r),σ):=by
 refine iI (f:=Lj) (y0:=(sl 11 dY a0)) (enc:=λr:Int=>(η r)) (T:=AU a0) (iN (xS (λ_=>rfl) _) rfl) rfl ?_ r h;unfold Lj AU;refine aj _ (fu _ _ _)<|aj _ rfl ?_;refine bR (p:=300<(a0.length:Int)) (λoV=>?_) (λoV=>?_)
 ·exact aN _ (aO _ _) ⟨rfl,rfl⟩
 refine aj _ (fu _ _ _) ?_;refine mB (B:=Int) (R:=Int) (λ(i8:Nat)(s1:Int)v w3=>v=[(η 0),(η s1),(η (i8:Int))]/\σ=w3) (λ(b2:Int)(q:LS)=>∃u2 tD,q=((eN 0),([u2,(η b2),tD]:au),σ)) (λ(b2:Int)(q:LS)=>∃u3 tD,q=(i7,([(η b2),u3,tD]:au),σ)) ?_ ?_ ⟨rfl,rfl⟩ ?_ ?_
 ·intro vT i8 e7 s1 v w3 lg hI;obtain⟨rfl,rfl⟩:=hI;refine aj _ (mH lg)<|mK<|aj _ (mz lg)<|aj _ rfl<|aj _ rfl<|aj _ (Ml _ _ rfl)<|aj _ rfl<|aj _ (gr e7.aH 1 9999999 σ)<|aj _ rfl ?_;refine cR (c:=(!(aI e7.aH 1 9999999))) (λmQ=>?_) (λmQ=>?_)
  ·exact aS (eM (by simp) ⟨_,_,rfl⟩)
  refine aj _ rfl<|bl (η e7.aH) (λhg=>rfl)<|bl (sl 11 dY a0) (λhg=>rfl)<|bl (η (i8:Int)) (λhg=>rfl)<|bl (η (ε.wrap ((i8:Int) -1))) (λhg=>by(try rw[hg]);exact rfl) ?_;refine mC (ω:=cr) (λx9=>(YH (dY x9))) (λhg x9 jB=>by(try rw[hg]);exact kq jB) (λx9 jB=>?_);refine bl (YH (dY x9)) (λhg=>by(try rw[hg]);exact rfl)<|bl (η x9.aH) (λhg=>by(try rw[hg]);exact rfl)<|bl (ψ (decide (e7.aH<=x9.aH))) (λhg=>by(try rw[hg]);exact rfl)<|aj _ (ga _ _) ?_;refine cR (c:=((decide (0<(i8:Int)))&&(decide (e7.aH<=x9.aH)))) (λkR=>?_) (λkR=>?_)
  ·exact aS (eM (by simp) ⟨_,_,rfl⟩)
  refine aj _ rfl<|aj _ (HK _ _)<|bl (Γ e7.title) (λhg=>rfl) ?_;refine mC (ω:=Bool) (λcz=>(ψ cz)) (λhg cz pL=>by(try rw[hg]);exact(dX ((eP (e:=λr:Bool=>((ψ r),σ)) (λhs=>RM e7.title hs σ)) pL))) (λcz pL=>?_);refine bl (ψ (!cz)) (λhg=>by(try rw[hg]);exact rfl)<|aj _ (ga _ _) ?_;refine cR (c:=((decide (¬(e7.title=(⟨#[]⟩:ByteArray))))&&(!cz))) (λsP=>?_) (λsP=>?_)
  ·exact aS (eM (by simp) ⟨_,_,rfl⟩)
  refine aj _ rfl<|aj _ (AJ (σ:=σ) (r:=(aI e7.fE 0 36000000)) rfl)<|aj _ rfl<|bf (η e7.up) (λhg=>rfl)<|bf (ψ ((aI e7.up 0 36000000))) (λhg=>by(try rw[hg]);exact(dX (AJ (σ:=σ) (r:=(aI e7.up 0 36000000)) rfl)))<|bf (ψ (!((aI e7.up 0 36000000)))) (λhg=>by(try rw[hg]);exact rfl)<|aj _ (eF _ _)<|bf (η e7.down) (λhg=>rfl)<|bf (ψ ((aI e7.down 0 36000000))) (λhg=>by(try rw[hg]);exact(dX (AJ (σ:=σ) (r:=(aI e7.down 0 36000000)) rfl)))<|bf (ψ (!((aI e7.down 0 36000000)))) (λhg=>by(try rw[hg]);exact rfl)<|aj _ (eF _ _)<|bf (η e7.other) (λhg=>rfl)<|bf (ψ ((aI e7.other 0 36000000))) (λhg=>by(try rw[hg]);exact(dX (AJ (σ:=σ) (r:=(aI e7.other 0 36000000)) rfl)))<|bf (ψ (!((aI e7.other 0 36000000)))) (λhg=>by(try rw[hg]);exact rfl)<|aj _ (eF _ _)<|bf (η e7.lJ) (λhg=>rfl)<|bf (ψ (aI e7.lJ (-1) 36000000)) (λhg=>by(try rw[hg]);exact(dX (gr e7.lJ (-1) 36000000 σ)))<|bf (ψ (!(aI e7.lJ (-1) 36000000))) (λhg=>by(try rw[hg]);exact rfl)<|aj _ (eF _ _) ?_;refine cR (c:=(((((!((aI e7.fE 0 36000000)))||(!((aI e7.up 0 36000000))))||(!((aI e7.down 0 36000000))))||(!((aI e7.other 0 36000000))))||(!(aI e7.lJ (-1) 36000000)))) (λlT=>?_) (λlT=>?_)
  ·exact aS (eM (by simp) ⟨_,_,rfl⟩)
  refine aj _ rfl<|aj _ (YN e7.kn σ)<|aj _ (fI _ _ _) ?_;refine bR (p:=¬((vq e7.kn)=0)) (λoU=>?_) (λoU=>?_)
  ·exact aS (eM (by simp) ⟨_,_,rfl⟩)
  refine aj (sl 8 nF e7.gU) rfl<|aj _ (fu _ _ _)<|aj _ rfl ?_;refine bR (p:=2000<(e7.gU.length:Int)) (λqu=>?_) (λqu=>?_)
  ·exact aS (eM (by simp) ⟨_,_,rfl⟩)
  refine aj (sl 8 nF e7.gU) rfl ?_;refine aL (λdH:Int=>((η dH),σ)) (λdH DH=>aks DH) (λdH DH=>?_);refine aj _ (fI _ _ _) ?_;refine bR (p:=¬(dH=0)) (λef=>?_) (λef=>?_)
  ·exact aS (eM (by simp) ⟨_,_,rfl⟩)
  refine aj (sl 8 nF e7.gU) rfl<|aj _ (fu _ _ _)<|aj _ rfl<|aj _ (mA lg vT) ?_;exact aS (ke ⟨rfl,rfl⟩)
 ·intro hl s1 v w3 hI;obtain⟨rfl,rfl⟩:=hI;refine aj _ (mw _)<|mJ ?_;exact aS ⟨by simp,⟨_,_,rfl⟩⟩
 ·intro hl b2 q hq;obtain⟨u2,tD,rfl⟩:=hq;refine fF rfl<|aj _ rfl<|aj _ (qc (decide (10000<b2)) 2 σ) ?_;exact aN _ (aO _ _) ⟨rfl,rfl⟩
 ·intro hl b2 q hq;obtain⟨u3,tD,rfl⟩:=hq;refine nH rfl<|fF rfl ?_;exact aN _ (aO _ _) ⟨rfl,rfl⟩
def AP (a0:fA):Option (List (bP×Bool)):=
 (tq (xC a0) (((if iQ a0=0 then oL a0 else[]:List bP),iQ a0))).bind λr1=>
 iB r1.1 (λ(qA:Nat)jo(s4:(List (bP×Bool)))=>(show Option (Lr (List (bP×Bool)) (List (bP×Bool)) Unit)from
   δ (.go (mP jo θ s4)))) (λs4=>δ s4) ([]:List (bP×Bool)) (λb5=>
  δ b5) (λb5=>
  μ)
theorem akj{a0:fA}{σ:Heap}{r:(List (bP×Bool))}(h:AP a0=δ r):KN [(n9 (hJ a0))] σ=δ ((Ee (λx=>(n9 (ct x))) (λx=>(ψ x)) r),σ):=by
 refine iI (f:=KX) (y0:=(n9 (hJ a0))) (enc:=λr:(List (bP×Bool))=>(Ee (λx=>(n9 (ct x))) (λx=>(ψ x)) r)) (T:=AP a0) rfl rfl ?_ r h;unfold KX AP;refine aj _ rfl<|aj _ rfl ?_;refine aL (λr1:((List bP)×Int)=>((p7 [(sl 2 ct r1.1),(η r1.2)]),σ)) (λr1 bn=>(eP (e:=λr:((List bP)×Int)=>((p7 [(sl 2 ct r.1),(η r.2)]),σ)) (λhs=>SB a0 hs σ)) bn) (λr1 bn=>?_);refine aj (sl 2 ct r1.1) rfl<|aj _ rfl ?_;have hp2:Hp σ σ []:=Mv σ;have hp3:Hp σ (σ++[Z7 []]) [((XH σ.length),(Ct.m (Yc (λp=>((λx=>(n9 (ct x))) p.1,(λx=>(ψ x)) p.2)) ([]:List (bP×Bool)))))]:=Uz hp2;refine aj _ (fu _ _ _) ?_;refine mB (B:=(List (bP×Bool))) (R:=Unit) (λ(qA:Nat)(s4:(List (bP×Bool)))v w6=>v=[(η (qA:Int))]/\Hp σ w6 [((XH σ.length),(Ct.m (Yc (λp=>((λx=>(n9 (ct x))) p.1,(λx=>(ψ x)) p.2)) s4)))]) (λ(b5:(List (bP×Bool)))(q:LS)=>∃u16 w7,q=((eN 0),([u16]:au),w7)/\Hp σ w7 [((XH σ.length),(Ct.m (Yc (λp=>((λx=>(n9 (ct x))) p.1,(λx=>(ψ x)) p.2)) b5)))]) (λ(b5:Unit)(q:LS)=>False) ?_ ?_ ⟨rfl,hp3⟩ ?_ ?_
 ·intro MQ qA jo s4 v w6 zi hI;obtain⟨rfl,wv⟩:=hI;refine aj _ (mH zi)<|mK<|aj _ (mz zi)<|aj _ rfl<|aj _ rfl<|aj _ (Th _ _ rfl)<|aj _ rfl ?_;obtain⟨WD,e14,U5⟩:=SV (ek:=(.s [0,2])) (eK:=(λx=>(n9 (ct x)))) (eV:=(λx=>(ψ x))) wv 0 rfl C2 jo θ rfl;change Hp σ WD [((XH σ.length),(Ct.m (Yc (λp=>((λx=>(n9 (ct x))) p.1,(λx=>(ψ x)) p.2)) (mP jo θ s4))))]at U5;refine aj WD e14<|aj _ (mA zi MQ) ?_;exact aS (ke ⟨rfl,U5⟩)
 ·intro hl s4 v w6 hI;obtain⟨rfl,wv⟩:=hI;refine aj _ (mw _)<|mJ ?_;exact aS ⟨by simp,⟨_,_,rfl,wv⟩⟩
 ·intro hl b5 q hq;obtain⟨u16,w7,rfl,Wn⟩:=hq;refine fF rfl ?_;exact aN _ (Dg Wn (afy Wn (k:=0) rfl (by intro p hp;obtain⟨x,_,rfl⟩:=kZ.1 hp;exact⟨(Mu (SS _)),(C3 _)⟩))) ⟨rfl,rfl⟩
 ·intro hl b5 q hq;exact alm hq
def AI (a0:bP) (a1:bP):Option Bool:=
 if ¬(a0.unit=a1.unit)then
  δ (decide (a0.unit<a1.unit))
 else
 δ (decide ((ZM a0.param.data.toList a1.param.data.toList)<0))
theorem YV{a0:bP}{a1:bP}{σ:Heap}{r:Bool}(h:AI a0 a1=δ r):J4 [(n9 (ct a0)),(n9 (ct a1))] σ=δ ((ψ r),σ):=by
 refine iJ (f:=J8) (y0:=(n9 (ct a0))) (y1:=(n9 (ct a1))) (enc:=λr:Bool=>(ψ r)) (T:=AI a0 a1) rfl rfl ?_ r h;unfold J8 AI;refine aj _ rfl<|aj _ rfl<|aj _ rfl<|aj _ rfl<|aj _ (fI _ _ _) ?_;refine bR (p:=¬(a0.unit=a1.unit)) (λc1=>?_) (λc1=>?_)
 ·refine aj _ rfl<|aj _ rfl<|aj _ rfl ?_;exact aN _ (aO _ _) ⟨rfl,rfl⟩
 refine aj _ rfl<|aj _ rfl<|aj _ rfl<|aj _ rfl ?_;exact aN _ (aO _ _) ⟨rfl,rfl⟩
def yy (a0:fA) (a1:(List iz)):Option Int:=
 (tq (xC a0) (iQ a0)).bind λr1=>
 (tq (([r1,(if(decide (200<(a1.length:Int)))=θ then 2 else 0)]:(List Int)).length<=bu) ((([r1,(if(decide (200<(a1.length:Int)))=θ then 2 else 0)]:(List Int)).find? λn=>decide (¬n=0)).getD 0)).bind λr2=>
 if ¬(r2=0)then
  δ r2
 else
 (AP a0).bind λr3=>
 iB a1 (λ(qA:Nat)jo(s4:Unit)=>(show Option (Lr Unit Unit Int)from
   if(!(aI jo.aH 1 999))=θ then
    δ (.ret 1)
   else
   (if decide (0<(qA:Int))=θ then eL a1 (ε.wrap ((qA:Int) -1))else δ default).bind λbI=>
   if((decide (0<(qA:Int)))&&(decide (jo.aH<=bI.aH)))=θ then
    δ (.ret 7)
   else
   (tq (fN jo.title) (ud jo.title)).bind λoc=>
   if(!oc)=θ then
    δ (.ret 3)
   else
   if 2000<(jo.jZ.length:Int)then
    δ (.ret 2)
   else
   iB jo.jZ (λ(i21:Nat)wk(IB:Unit)=>(show Option (Lr Unit Unit Int)from
     if(!((jK wk.key r3).getD ξ))=θ then
      δ (.ret 8)
     else
     if(!(aI wk.level 0 65535))=θ then
      δ (.ret 1)
     else
     (if decide (0<(i21:Int))=θ then eL jo.jZ (ε.wrap ((i21:Int) -1))else δ default).bind λcQ=>
     (if decide (0<(i21:Int))=θ then AI cQ.key wk.key else δ default).bind λqC=>
     if((decide (0<(i21:Int)))&&(!qC))=θ then
      δ (.ret 7)
     else
     δ (.go ()))) (λIB=>δ ()) () (λzw=>
    δ (.go ())) (λzw=>
    δ (.ret zw)))) (λs4=>δ ()) () (λb5=>
  δ 0) (λb5=>
  δ b5)
theorem Pk{a0:fA}{a1:(List iz)}{σ:Heap}{r:Int}(h:yy a0 a1=δ r):Fo [(n9 (hJ a0)),(sl 3 lC a1)] σ=δ ((η r),σ):=by
 refine iJ (f:=Je) (y0:=(n9 (hJ a0))) (y1:=(sl 3 lC a1)) (enc:=λr:Int=>(η r)) (T:=yy a0 a1) rfl rfl ?_ r h;unfold Je yy;refine aj _ rfl<|aj _ rfl ?_;refine aL (λr1:Int=>((η r1),σ)) (λr1 bn=>(eP (e:=λr:Int=>((η r),σ)) (λhs=>KJ a0 hs σ)) bn) (λr1 bn=>?_);refine aj _ (fu _ _ _)<|aj _ rfl<|aj _ (qc (decide (200<(a1.length:Int))) 2 σ)<|aj (sl 1 sJ ([r1,(if(decide (200<(a1.length:Int)))=θ then 2 else 0)]:(List Int))) rfl ?_;refine aL (λr2:Int=>((η r2),σ)) (λr2 hr2=>(eP (e:=λr:Int=>((η r),σ)) (λhs=>yQ ([r1,(if(decide (200<(a1.length:Int)))=θ then 2 else 0)]:(List Int)) hs σ)) hr2) (λr2 hr2=>?_);refine aj _ (fI _ _ _) ?_;refine bR (p:=¬(r2=0)) (λvY=>?_) (λvY=>?_)
 ·exact aN _ (aO _ _) ⟨rfl,rfl⟩
 refine aj _ rfl ?_;refine aL (λr3:(List (bP×Bool))=>((Ee (λx=>(n9 (ct x))) (λx=>(ψ x)) r3),σ)) (λr3 gC=>akj gC) (λr3 gC=>?_);refine aj _ (fu _ _ _) ?_;refine mB (B:=Unit) (R:=Int) (λ(qA:Nat)(s4:Unit)v w6=>∃u4,v=[u4,(η (qA:Int))]/\σ=w6) (λ(b5:Unit)(q:LS)=>∃u4 ER,q=((eN 0),([u4,ER]:au),σ)) (λ(b5:Int)(q:LS)=>∃ER,q=(i7,([(η b5),ER]:au),σ)) ?_ ?_ ⟨_,rfl,rfl⟩ ?_ ?_
 ·intro MQ qA jo s4 v w6 zi hI;obtain⟨u4,rfl,rfl⟩:=hI;refine aj _ (mH zi)<|mK<|aj _ (mz zi)<|aj _ rfl<|aj _ rfl<|aj _ (QX _ _ rfl)<|aj _ rfl<|aj _ (gr jo.aH 1 999 σ)<|aj _ rfl ?_;refine cR (c:=(!(aI jo.aH 1 999))) (λzC=>?_) (λzC=>?_)
  ·exact aS (eM (by simp) ⟨_,rfl⟩)
  refine aj _ rfl<|bl (η jo.aH) (λhg=>rfl)<|bl (sl 3 lC a1) (λhg=>rfl)<|bl (η (qA:Int)) (λhg=>rfl)<|bl (η (ε.wrap ((qA:Int) -1))) (λhg=>by(try rw[hg]);exact rfl) ?_;refine mC (ω:=iz) (λbI=>(YH (lC bI))) (λhg bI DN=>by(try rw[hg]);exact kq DN) (λbI DN=>?_);refine bl (YH (lC bI)) (λhg=>by(try rw[hg]);exact rfl)<|bl (η bI.aH) (λhg=>by(try rw[hg]);exact rfl)<|bl (ψ (decide (jo.aH<=bI.aH))) (λhg=>by(try rw[hg]);exact rfl)<|aj _ (ga _ _) ?_;refine cR (c:=((decide (0<(qA:Int)))&&(decide (jo.aH<=bI.aH)))) (λff=>?_) (λff=>?_)
  ·exact aS (eM (by simp) ⟨_,rfl⟩)
  refine aj _ rfl ?_;refine aL (λoc:Bool=>((ψ oc),σ)) (λoc U8=>(eP (e:=λr:Bool=>((ψ r),σ)) (λhs=>acV jo.title hs σ)) U8) (λoc U8=>?_);refine aj _ rfl ?_;refine cR (c:=(!oc)) (λsS=>?_) (λsS=>?_)
  ·exact aS (eM (by simp) ⟨_,rfl⟩)
  refine aj (sl 3 qR jo.jZ) rfl<|aj _ (fu _ _ _)<|aj _ rfl ?_;refine bR (p:=2000<(jo.jZ.length:Int)) (λsR=>?_) (λsR=>?_)
  ·exact aS (eM (by simp) ⟨_,rfl⟩)
  refine aj (sl 3 qR jo.jZ) rfl<|aj _ (fu _ _ _) ?_;refine mB (B:=Unit) (R:=Int) (λ(i21:Nat)(IB:Unit)v OY=>∃u4,v=[u4,(XK (lC jo)),(η (i21:Int))]/\σ=OY) (λ(zw:Unit)(q:LS)=>∃u4 u8 EY,q=((eN 3),([u4,u8,EY]:au),σ)) (λ(zw:Int)(q:LS)=>∃u8 EY,q=(i7,([(η zw),u8,EY]:au),σ)) ?_ ?_ ⟨_,rfl,rfl⟩ ?_ ?_
  ·intro age i21 wk IB v OY Np hI;obtain⟨u4,rfl,rfl⟩:=hI;refine aj _ (mH Np)<|mK<|aj _ (mz Np)<|aj _ rfl<|aj _ rfl<|aj _ (Qq _ _ rfl)<|aj _ rfl<|aj _ (ade (ek:=(.s [0,2])) (eK:=(λx=>(n9 (ct x)))) (eV:=(λx=>(ψ x))) C2 wk.key ξ rfl)<|aj _ rfl ?_;refine cR (c:=(!((jK wk.key r3).getD ξ))) (λkD=>?_) (λkD=>?_)
   ·exact aS (eM (by simp) ⟨_,_,rfl⟩)
   refine aj _ rfl<|aj _ (Ql wk.level σ)<|aj _ rfl ?_;refine cR (c:=(!(aI wk.level 0 65535))) (λiE=>?_) (λiE=>?_)
   ·exact aS (eM (by simp) ⟨_,_,rfl⟩)
   refine aj _ rfl<|aj _ rfl<|bl (sl 3 qR jo.jZ) (λhg=>rfl)<|bl (η (i21:Int)) (λhg=>rfl)<|bl (η (ε.wrap ((i21:Int) -1))) (λhg=>by(try rw[hg]);exact rfl) ?_;refine mC (ω:=so) (λcQ=>(YH (qR cQ))) (λhg cQ Vp=>by(try rw[hg]);exact kq Vp) (λcQ Vp=>?_);refine bl (YH (qR cQ)) (λhg=>by(try rw[hg]);exact rfl)<|bl (n9 (ct cQ.key)) (λhg=>by(try rw[hg]);exact rfl)<|bl (n9 (ct wk.key)) (λhg=>rfl) ?_;refine mC (ω:=Bool) (λqC=>(ψ qC)) (λhg qC Vb=>by(try rw[hg]);exact(dX (YV Vb))) (λqC Vb=>?_);refine bl (ψ (!qC)) (λhg=>by(try rw[hg]);exact rfl)<|aj _ (ga _ _) ?_;refine cR (c:=((decide (0<(i21:Int)))&&(!qC))) (λgd=>?_) (λgd=>?_)
   ·exact aS (eM (by simp) ⟨_,_,rfl⟩)
   refine aj _ (mA Np age) ?_;exact aS (ke ⟨_,rfl,rfl⟩)
  ·intro hl IB v OY hI;obtain⟨u4,rfl,rfl⟩:=hI;refine aj _ (mw _)<|mJ ?_;exact aS ⟨by simp,⟨_,_,_,rfl⟩⟩
  ·intro hl zw q hq;obtain⟨u4,u8,EY,rfl⟩:=hq;refine fF rfl<|aj _ (mA zi MQ) ?_;exact aS (ke ⟨_,rfl,rfl⟩)
  ·intro hl zw q hq;obtain⟨u8,EY,rfl⟩:=hq;refine nH rfl<|fF rfl ?_;exact aS (eM (by simp) ⟨_,rfl⟩)
 ·intro hl s4 v w6 hI;obtain⟨u4,rfl,rfl⟩:=hI;refine aj _ (mw _)<|mJ ?_;exact aS ⟨by simp,⟨_,_,rfl⟩⟩
 ·intro hl b5 q hq;obtain⟨u4,ER,rfl⟩:=hq;refine fF rfl ?_;exact aN _ (aO _ _) ⟨rfl,rfl⟩
 ·intro hl b5 q hq;obtain⟨ER,rfl⟩:=hq;refine nH rfl<|fF rfl ?_;exact aN _ (aO _ _) ⟨rfl,rfl⟩
def AK (a0:(List iz)) (a1:bP) (a2:lG):Option (Int×Int):=
 if((decide (¬(a2.level=0)))&&(decide (¬(a2.eT=0))))=θ then
  δ (0,3)
 else
 if(!(aI a2.level 0 65535))=θ then
  δ (0,1)
 else
 if a2.eT=0 then
  δ (a2.level,0)
 else
 iB a0 (λ(i8:Nat)e7(s1:Unit)=>(show Option (Lr Unit Unit Int)from
   if ¬(e7.aH=a2.eT)then
    δ (.go ())
   else
   iB e7.jZ (λ(i16:Nat)rz(s9:Unit)=>(show Option (Lr Unit Unit Int)from
     if rz.key=a1 then
      δ (.ret rz.level)
     else
     δ (.go ()))) (λs9=>δ ()) () (λoT=>
    δ (.kQ ())) (λoT=>
    δ (.ret oT)))) (λs1=>δ ()) () (λb2=>
  δ (0,8)) (λb2=>
  δ (b2,0))
theorem aiU{a0:(List iz)}{a1:bP}{a2:lG}{σ:Heap}{r:(Int×Int)}(h:AK a0 a1 a2=δ r):Kk [(sl 3 lC a0),(n9 (ct a1)),(n9 (ue a2))] σ=δ ((p7 [(η r.1),(η r.2)]),σ):=by
 refine GI (f:=Ku) (y0:=(sl 3 lC a0)) (y1:=(n9 (ct a1))) (y2:=(n9 (ue a2))) (enc:=λr:(Int×Int)=>(p7 [(η r.1),(η r.2)])) (T:=AK a0 a1 a2) rfl rfl ?_ r h;unfold Ku AK;refine aj _ rfl<|aj _ rfl<|aj _ rfl<|aj _ (fI _ _ _)<|bl (η a2.eT) (λhg=>rfl)<|bl (ψ (decide (¬(a2.eT=0)))) (λhg=>by(try rw[hg]);exact(fI _ _ _))<|aj _ (ga _ _) ?_;refine cR (c:=((decide (¬(a2.level=0)))&&(decide (¬(a2.eT=0))))) (λzB=>?_) (λzB=>?_)
 ·exact aN _ (aO _ _) ⟨rfl,rfl⟩
 refine aj _ rfl<|aj _ (Ql a2.level σ)<|aj _ rfl ?_;refine cR (c:=(!(aI a2.level 0 65535))) (λD2=>?_) (λD2=>?_)
 ·exact aN _ (aO _ _) ⟨rfl,rfl⟩
 refine aj _ rfl<|aj _ (cM _ _ _) ?_;refine bR (p:=a2.eT=0) (λoV=>?_) (λoV=>?_)
 ·refine aj _ rfl ?_;exact aN _ (aO _ _) ⟨rfl,rfl⟩
 refine aj _ (fu _ _ _) ?_;refine mB (B:=Unit) (R:=Int) (λ(i8:Nat)(s1:Unit)v w3=>v=[(XK (ct a1)),(XK (ue a2)),(η 0),(η 0),(η (i8:Int))]/\σ=w3) (λ(b2:Unit)(q:LS)=>∃u4 u5 u6 u7 EU,q=((eN 0),([u4,u5,u6,u7,EU]:au),σ)) (λ(b2:Int)(q:LS)=>∃u4 u5 EU,q=(i7,([u4,u5,(η b2),(η 0),EU]:au),σ)) ?_ ?_ ⟨rfl,rfl⟩ ?_ ?_
 ·intro vT i8 e7 s1 v w3 lg hI;obtain⟨rfl,rfl⟩:=hI;refine aj _ (mH lg)<|mK<|aj _ (mz lg)<|aj _ rfl<|aj _ rfl<|aj _ (QX _ _ rfl)<|aj _ rfl<|aj _ rfl<|aj _ rfl<|aj _ (fI _ _ _) ?_;refine bR (p:=¬(e7.aH=a2.eT)) (λmQ=>?_) (λmQ=>?_)
  ·refine aj _ (mA lg vT) ?_;exact aS (ke ⟨rfl,rfl⟩)
  refine aj (sl 3 qR e7.jZ) rfl<|aj _ (fu _ _ _) ?_;refine mB (B:=Unit) (R:=Int) (λ(i16:Nat)(s9:Unit)v Af=>v=[(XK (ct a1)),(η 0),(η 0),(η (i16:Int))]/\σ=Af) (λ(oT:Unit)(q:LS)=>∃u4 u6 u7 EV,q=((eN 2),([u4,u6,u7,EV]:au),σ)) (λ(oT:Int)(q:LS)=>∃u4 EV,q=(i7,([u4,(η oT),(η 0),EV]:au),σ)) ?_ ?_ ⟨rfl,rfl⟩ ?_ ?_
  ·intro MR i16 rz s9 v Af zj hI;obtain⟨rfl,rfl⟩:=hI;refine aj _ (mH zj)<|mK<|aj _ (mz zj)<|aj _ rfl<|aj _ rfl<|aj _ (Qq _ _ rfl)<|aj _ rfl<|aj _ rfl<|aj _ (afu _ _) ?_;refine bR (p:=rz.key=a1) (λkR=>?_) (λkR=>?_)
   ·refine aj _ rfl ?_;exact aS (eM (by simp) ⟨_,_,rfl⟩)
   refine aj _ (mA zj MR) ?_;exact aS (ke ⟨rfl,rfl⟩)
  ·intro hl s9 v Af hI;obtain⟨rfl,rfl⟩:=hI;refine aj _ (mw _)<|mJ ?_;exact aS ⟨by simp,⟨_,_,_,_,rfl⟩⟩
  ·intro hl oT q hq;obtain⟨u4,u6,u7,EV,rfl⟩:=hq;refine fF rfl ?_;exact aS (C9 (by simp) ⟨_,_,_,_,_,rfl⟩)
  ·intro hl oT q hq;obtain⟨u4,EV,rfl⟩:=hq;refine nH rfl<|fF rfl ?_;exact aS (eM (by simp) ⟨_,_,_,rfl⟩)
 ·intro hl s1 v w3 hI;obtain⟨rfl,rfl⟩:=hI;refine aj _ (mw _)<|mJ ?_;exact aS ⟨by simp,⟨_,_,_,_,_,rfl⟩⟩
 ·intro hl b2 q hq;obtain⟨u4,u5,u6,u7,EU,rfl⟩:=hq;refine fF rfl ?_;exact aN _ (aO _ _) ⟨rfl,rfl⟩
 ·intro hl b2 q hq;obtain⟨u4,u5,EU,rfl⟩:=hq;refine nH rfl<|fF rfl ?_;exact aN _ (aO _ _) ⟨rfl,rfl⟩
def AD (a0:fA) (a1:(List iz)) (a2:(List cr)):Option Int:=
 (yy a0 a1).bind λr1=>
 (AU a2).bind λr2=>
 (tq (([r1,r2]:(List Int)).length<=bu) ((([r1,r2]:(List Int)).find? λn=>decide (¬n=0)).getD 0)).bind λr3=>
 if ¬(r3=0)then
  δ r3
 else
 (tq (xC a0) (((if iQ a0=0 then oL a0 else[]:List bP),iQ a0))).bind λr4=>
 iB r4.1 (λ(OE:Nat)Ih(s7:(List (bP×Bool)))=>(show Option (Lr (List (bP×Bool)) (List (bP×Bool)) Unit)from
   δ (.go (mP Ih θ s7)))) (λs7=>δ s7) ([]:List (bP×Bool)) (λb8=>
  iB a2 (λ(OF:Nat)Of(mU:Unit)=>(show Option (Lr Unit Unit Int)from
    iB Of.gU (λ(OG:Nat)BP(Ac:Unit)=>(show Option (Lr Unit Unit Int)from
      if(!((jK BP.key b8).getD ξ))=θ then
       δ (.ret 8)
      else
      (AK a1 BP.key BP.value).bind λgI=>
      if ¬(gI.2=0)then
       δ (.ret gI.2)
      else
      δ (.go ()))) (λAc=>δ ()) () (λzA=>
     δ (.go ())) (λzA=>
     δ (.ret zA)))) (λmU=>δ ()) () (λzy=>
   δ 0) (λzy=>
   δ zy)) (λb8=>
  μ)
theorem akl{a0:fA}{a1:(List iz)}{a2:(List cr)}{σ:Heap}{r:Int}(h:AD a0 a1 a2=δ r):JH [(n9 (hJ a0)),(sl 3 lC a1),(sl 11 dY a2)] σ=δ ((η r),σ):=by
 refine GI (f:=JJ) (y0:=(n9 (hJ a0))) (y1:=(sl 3 lC a1)) (y2:=(sl 11 dY a2)) (enc:=λr:Int=>(η r)) (T:=AD a0 a1 a2) (iN (NN (iN (xS (λ_=>(iN rfl (iN rfl (iN (xS (λ_=>rfl) _) uo)))) _) (iN rfl uo))) (iN (xS (λ_=>rfl) _) (iN (xS (λ_=>rfl) _) rfl))) rfl ?_ r h;unfold JJ AD;refine aj _ rfl<|aj _ rfl ?_;refine aL (λr1:Int=>((η r1),σ)) (λr1 bn=>Pk bn) (λr1 bn=>?_);refine aL (λr2:Int=>((η r2),σ)) (λr2 hr2=>aaY hr2) (λr2 hr2=>?_);refine aj (sl 1 sJ ([r1,r2]:(List Int))) rfl ?_;refine aL (λr3:Int=>((η r3),σ)) (λr3 gC=>(eP (e:=λr:Int=>((η r),σ)) (λhs=>yQ ([r1,r2]:(List Int)) hs σ)) gC) (λr3 gC=>?_);refine aj _ (fI _ _ _) ?_;refine bR (p:=¬(r3=0)) (λzE=>?_) (λzE=>?_)
 ·exact aN _ (aO _ _) ⟨rfl,rfl⟩
 refine aj _ rfl ?_;refine aL (λr4:((List bP)×Int)=>((p7 [(sl 2 ct r4.1),(η r4.2)]),σ)) (λr4 nX=>(eP (e:=λr:((List bP)×Int)=>((p7 [(sl 2 ct r.1),(η r.2)]),σ)) (λhs=>SB a0 hs σ)) nX) (λr4 nX=>?_);refine aj (sl 2 ct r4.1) rfl<|aj _ rfl ?_;have hp5:Hp σ σ []:=Mv σ;have hp6:Hp σ (σ++[Z7 []]) [((XH σ.length),(Ct.m (Yc (λp=>((λx=>(n9 (ct x))) p.1,(λx=>(ψ x)) p.2)) ([]:List (bP×Bool)))))]:=Uz hp5;refine aj _ (fu _ _ _) ?_;refine mB (B:=(List (bP×Bool))) (R:=Unit) (λ(OE:Nat)(s7:(List (bP×Bool)))v w9=>v=[(η (OE:Int))]/\Hp σ w9 [((XH σ.length),(Ct.m (Yc (λp=>((λx=>(n9 (ct x))) p.1,(λx=>(ψ x)) p.2)) s7)))]) (λ(b8:(List (bP×Bool)))(q:LS)=>∃Wz OX,q=((eN 0),([Wz]:au),OX)/\Hp σ OX [((XH σ.length),(Ct.m (Yc (λp=>((λx=>(n9 (ct x))) p.1,(λx=>(ψ x)) p.2)) b8)))]) (λ(b8:Unit)(q:LS)=>False) ?_ ?_ ⟨rfl,hp6⟩ ?_ ?_
 ·intro agd OE Ih s7 v w9 No hI;obtain⟨rfl,Ny⟩:=hI;refine aj _ (mH No)<|mK<|aj _ (mz No)<|aj _ rfl<|aj _ rfl<|aj _ (Th _ _ rfl)<|aj _ rfl ?_;obtain⟨WG,e17,U6⟩:=SV (ek:=(.s [0,2])) (eK:=(λx=>(n9 (ct x)))) (eV:=(λx=>(ψ x))) Ny 0 rfl C2 Ih θ rfl;change Hp σ WG [((XH σ.length),(Ct.m (Yc (λp=>((λx=>(n9 (ct x))) p.1,(λx=>(ψ x)) p.2)) (mP Ih θ s7))))]at U6;refine aj WG e17<|aj _ (mA No agd) ?_;exact aS (ke ⟨rfl,U6⟩)
 ·intro hl s7 v w9 hI;obtain⟨rfl,Ny⟩:=hI;refine aj _ (mw _)<|mJ ?_;exact aS ⟨by simp,⟨_,_,rfl,Ny⟩⟩
 ·intro hl b8 q hq;obtain⟨Wz,OX,rfl,ahh⟩:=hq;refine fF rfl<|aj _ (fu _ _ _) ?_;refine mB (B:=Unit) (R:=Int) (λ(OF:Nat)(mU:Unit)v O0=>∃u6,v=[u6,(η (OF:Int))]/\Hp σ O0 [((XH σ.length),(Ct.m (Yc (λp=>((λx=>(n9 (ct x))) p.1,(λx=>(ψ x)) p.2)) b8)))]) (λ(zy:Unit)(q:LS)=>∃u6 EW Ah,q=((eN 2),([u6,EW]:au),Ah)/\Hp σ Ah [((XH σ.length),(Ct.m (Yc (λp=>((λx=>(n9 (ct x))) p.1,(λx=>(ψ x)) p.2)) b8)))]) (λ(zy:Int)(q:LS)=>∃EW Ah,q=(i7,([(η zy),EW]:au),Ah)/\Hp σ Ah []) ?_ ?_ ⟨_,rfl,ahh⟩ ?_ ?_
  ·intro agh OF Of mU v O0 Nr hI;obtain⟨u6,rfl,Nz⟩:=hI;refine aj _ (mH Nr)<|mK<|aj _ (mz Nr)<|aj _ rfl<|aj _ rfl<|aj _ (Ml _ _ rfl)<|aj (sl 8 nF Of.gU) rfl<|aj _ (fu _ _ _) ?_;refine mB (B:=Unit) (R:=Int) (λ(OG:Nat)(Ac:Unit)v IG=>∃u6,v=[u6,(η (OG:Int))]/\Hp σ IG [((XH σ.length),(Ct.m (Yc (λp=>((λx=>(n9 (ct x))) p.1,(λx=>(ψ x)) p.2)) b8)))]) (λ(zA:Unit)(q:LS)=>∃u6 EX Aj,q=((eN 4),([u6,EX]:au),Aj)/\Hp σ Aj [((XH σ.length),(Ct.m (Yc (λp=>((λx=>(n9 (ct x))) p.1,(λx=>(ψ x)) p.2)) b8)))]) (λ(zA:Int)(q:LS)=>∃EX Aj,q=(i7,([(η zA),EX]:au),Aj)/\Hp σ Aj []) ?_ ?_ ⟨_,rfl,Nz⟩ ?_ ?_
   ·intro agj OG BP Ac v IG Nt hI;obtain⟨u6,rfl,xP⟩:=hI;refine aj _ (mH Nt)<|mK<|aj _ (mz Nt)<|aj _ rfl<|aj _ rfl<|aj _ (Ss _ _ rfl)<|aj _ rfl<|aj _ (adn (ek:=(.s [0,2])) (eK:=(λx=>(n9 (ct x)))) (eV:=(λx=>(ψ x))) xP 0 rfl C2 BP.key ξ rfl)<|aj _ rfl ?_;refine cR (c:=(!((jK BP.key b8).getD ξ))) (λqw=>?_) (λqw=>?_)
    ·exact aS (eM (by simp) ⟨_,_,rfl,(C4 xP)⟩)
    refine aj _ rfl<|aj _ rfl ?_;refine aL (λgI:(Int×Int)=>((p7 [(η gI.1),(η gI.2)]),IG)) (λgI DJ=>aiU DJ) (λgI DJ=>?_);refine aj _ rfl<|aj _ rfl<|aj _ (fI _ _ _) ?_;refine bR (p:=¬(gI.2=0)) (λqv=>?_) (λqv=>?_)
    ·exact aS (eM (by simp) ⟨_,_,rfl,(C4 xP)⟩)
    refine aj _ (mA Nt agj) ?_;exact aS (ke ⟨_,rfl,xP⟩)
   ·intro hl Ac v IG hI;obtain⟨u6,rfl,xP⟩:=hI;refine aj _ (mw _)<|mJ ?_;exact aS ⟨by simp,⟨_,_,_,rfl,xP⟩⟩
   ·intro hl zA q hq;obtain⟨u6,EX,Aj,rfl,ND⟩:=hq;refine fF rfl<|aj _ (mA Nr agh) ?_;exact aS (ke ⟨_,rfl,ND⟩)
   ·intro hl zA q hq;obtain⟨EX,Aj,rfl,ND⟩:=hq;refine nH rfl<|fF rfl ?_;exact aS (eM (by simp) ⟨_,_,rfl,(C4 ND)⟩)
  ·intro hl mU v O0 hI;obtain⟨u6,rfl,Nz⟩:=hI;refine aj _ (mw _)<|mJ ?_;exact aS ⟨by simp,⟨_,_,_,rfl,Nz⟩⟩
  ·intro hl zy q hq;obtain⟨u6,EW,Ah,rfl,NA⟩:=hq;refine fF rfl ?_;exact aN _ (Dg NA (Hf (dN _ _))) ⟨rfl,rfl⟩
  ·intro hl zy q hq;obtain⟨EW,Ah,rfl,NA⟩:=hq;refine nH rfl<|fF rfl ?_;exact aN _ (Dg NA (Hf (dN _ _))) ⟨rfl,rfl⟩
 ·intro hl b8 q hq;exact alm hq
end
section
def JR (a0:gX) (a1:Int):Option Bool:=δ (decide (a0.aH=a1))
theorem ai0{a0:gX}{a1:Int}{σ:Heap}{r:Bool}(h:JR a0 a1=δ r):Cj [(n9 (gO a0)),(YH [(η a1)])] σ=δ ((ψ r),σ):=by refine iJ (f:=JM) (y0:=(n9 (gO a0))) (y1:=(YH [(η a1)])) (enc:=λr:Bool=>(ψ r)) (T:=JR a0 a1) rfl rfl ?_ r h;unfold JM JR;refine aj _ rfl<|aj _ rfl<|aj _ rfl<|aj _ (cM _ _ _) ?_;exact aN _ (aO _ _) ⟨rfl,rfl⟩
def AQ (a0:dM) (a1:Int):Option (gX×Bool):=
 (tq (a0.dK.length<=bu) (oP (λx=>(decide (x.aH=a1))) a0.dK)).bind λr1=>
 if r1<0 then
  δ ((⟨0,[]⟩:gX),ξ)
 else
 (eL a0.dK r1).bind λx2=>
 δ (x2,θ)
theorem aaa{a0:dM}{a1:Int}{σ:Heap}{r:(gX×Bool)}(h:AQ a0 a1=δ r):KO [(n9 (dQ a0)),(η a1)] σ=δ ((p7 [(n9 (gO r.1)),(ψ r.2)]),σ):=by
 refine iJ (f:=F1) (y0:=(n9 (dQ a0))) (y1:=(η a1)) (enc:=λr:(gX×Bool)=>(p7 [(n9 (gO r.1)),(ψ r.2)])) (T:=AQ a0 a1) rfl rfl ?_ r h;unfold F1 AQ;refine aj _ rfl<|aj _ rfl<|aj (sl 2 gO a0.dK) rfl ?_;refine aL (λr1:Int=>((η r1),σ)) (λr1 bn=>(eP (e:=λr:Int=>((η r),σ)) (λhs=>acW _ a0.dK hs _ _ (λx=>(decide (x.aH=a1))) σ (λx hx=>ai0 (σ:=σ) (r:=(decide (x.aH=a1))) rfl))) bn) (λr1 bn=>?_);refine aj _ rfl ?_;refine bR (p:=r1<0) (λc3=>?_) (λc3=>?_)
 ·refine aj [(η 0),Yn] rfl<|aj [(η 0),Yn] rfl<|aj _ rfl ?_;exact aN _ (aO _ _) ⟨(BM (iN (NN (iN rfl (iN (by first|rfl|exact Md _ _) uo))) (iN rfl uo))),rfl⟩
 refine aj (sl 2 gO a0.dK) rfl ?_;refine aL (λx2:gX=>(YH (gO x2))) (λx2 hx2=>kq hx2) (λx2 hx2=>?_);refine aj _ rfl<|aj _ rfl<|aj _ (CX _ _ rfl)<|aj _ rfl ?_;exact aN _ (aO _ _) ⟨(BM (iN (NN (iN rfl (iN (xS (λ_=>rfl) _) uo))) (iN rfl uo))),rfl⟩
def yC (a0:dM):Option Int:=
 (yy a0.qJ a0.gu).bind λr1=>
 (tq (([r1,(if(decide (30<(a0.dK.length:Int)))=θ then 2 else 0)]:(List Int)).length<=bu) ((([r1,(if(decide (30<(a0.dK.length:Int)))=θ then 2 else 0)]:(List Int)).find? λn=>decide (¬n=0)).getD 0)).bind λr2=>
 if ¬(r2=0)then
  δ r2
 else
 iB a0.dK (λ(wD:Nat)e9(s3:Unit)=>(show Option (Lr Unit Unit Int)from
   if(!(aI e9.aH 1 999))=θ then
    δ (.ret 1)
   else
   (if decide (0<(wD:Int))=θ then eL a0.dK (ε.wrap ((wD:Int) -1))else δ default).bind λaX=>
   if((decide (0<(wD:Int)))&&(decide (e9.aH<=aX.aH)))=θ then
    δ (.ret 7)
   else
   (AD a0.qJ a0.gu e9.kO).bind λlp=>
   if ¬(lp=0)then
    δ (.ret lp)
   else
   δ (.go ()))) (λs3=>δ ()) () (λb4=>
  if 40<(a0.gF.length:Int)then
   δ 2
  else
  iB a0.gF (λ(wE:Nat)rA(wM:Unit)=>(show Option (Lr Unit Unit Int)from
    if(!(aI rA.aH 1 40))=θ then
     δ (.ret 1)
    else
    (if decide (0<(wE:Int))=θ then eL a0.gF (ε.wrap ((wE:Int) -1))else δ default).bind λcC=>
    if((decide (0<(wE:Int)))&&(decide (rA.aH<=cC.aH)))=θ then
     δ (.ret 7)
    else
    (AQ a0 rA.list).bind λcj=>
    if(!cj.2)=θ then
     δ (.ret 8)
    else
    if(!(aI rA.tT 0 100))=θ then
     δ (.ret 1)
    else
    δ (.go ()))) (λwM=>δ ()) () (λzx=>
   δ 0) (λzx=>
   δ zx)) (λb4=>
  δ b4)
theorem Pu{a0:dM}{σ:Heap}{r:Int}(h:yC a0=δ r):Ci [(n9 (dQ a0))] σ=δ ((η r),σ):=by
 refine iI (f:=Jt) (y0:=(n9 (dQ a0))) (enc:=λr:Int=>(η r)) (T:=yC a0) rfl rfl ?_ r h;unfold Jt yC;refine aj _ rfl<|aj _ rfl<|aj (sl 3 lC a0.gu) rfl ?_;refine aL (λr1:Int=>(η r1)) (λr1 bn=>(dX (Pk bn))) (λr1 bn=>?_);refine aj (sl 2 gO a0.dK) rfl<|aj _ (fu _ _ _)<|aj _ rfl<|aj _ (dX (qc (decide (30<(a0.dK.length:Int))) 2 σ))<|aj (sl 1 sJ ([r1,(if(decide (30<(a0.dK.length:Int)))=θ then 2 else 0)]:(List Int))) rfl ?_;refine aL (λr2:Int=>(η r2)) (λr2 hr2=>(dX ((eP (e:=λr:Int=>((η r),σ)) (λhs=>yQ ([r1,(if(decide (30<(a0.dK.length:Int)))=θ then 2 else 0)]:(List Int)) hs σ)) hr2))) (λr2 hr2=>?_);refine aj _ (fI _ _ _) ?_;refine bR (p:=¬(r2=0)) (λvY=>?_) (λvY=>?_)
 ·exact aN _ (aO _ _) ⟨rfl,rfl⟩
 refine aj (sl 2 gO a0.dK) rfl<|aj _ (fu _ _ _) ?_;refine mB (B:=Unit) (R:=Int) (λ(wD:Nat)(s3:Unit)v w5=>v=[(XK (dQ a0)),(η 0),(η (wD:Int))]/\σ=w5) (λ(b4:Unit)(q:LS)=>∃u2 ET,q=((eN 0),([(XK (dQ a0)),u2,ET]:au),σ)) (λ(b4:Int)(q:LS)=>∃u1 ET,q=(i7,([u1,(η b4),ET]:au),σ)) ?_ ?_ ⟨rfl,rfl⟩ ?_ ?_
 ·intro ahc wD e9 s3 v w5 Ou hI;obtain⟨rfl,rfl⟩:=hI;refine aj _ (mH Ou)<|mK<|aj _ (mz Ou)<|aj _ rfl<|aj _ rfl<|aj _ (CX _ _ rfl)<|aj _ rfl<|aj _ (gr e9.aH 1 999 σ)<|aj _ rfl ?_;refine cR (c:=(!(aI e9.aH 1 999))) (λlT=>?_) (λlT=>?_)
  ·exact aS (eM (by simp) ⟨_,_,rfl⟩)
  refine aj _ rfl<|bl (η e9.aH) (λhg=>rfl)<|aj _ rfl<|bl (sl 2 gO a0.dK) (λhg=>rfl)<|bl (η (wD:Int)) (λhg=>rfl)<|bl (η (ε.wrap ((wD:Int) -1))) (λhg=>by(try rw[hg]);exact rfl) ?_;refine mC (ω:=gX) (λaX=>(YH (gO aX))) (λhg aX mO=>by(try rw[hg]);exact kq mO) (λaX mO=>?_);refine bl (YH (gO aX)) (λhg=>by(try rw[hg]);exact rfl)<|bl (η aX.aH) (λhg=>by(try rw[hg]);exact rfl)<|bl (ψ (decide (e9.aH<=aX.aH))) (λhg=>by(try rw[hg]);exact rfl)<|aj _ (ga _ _) ?_;refine cR (c:=((decide (0<(wD:Int)))&&(decide (e9.aH<=aX.aH)))) (λoU=>?_) (λoU=>?_)
  ·exact aS (eM (by simp) ⟨_,_,rfl⟩)
  refine aj _ rfl<|aj _ rfl<|aj _ rfl<|aj (sl 3 lC a0.gu) rfl<|aj (sl 11 dY e9.kO) rfl ?_;refine aL (λlp:Int=>((η lp),σ)) (λlp U7=>akl U7) (λlp U7=>?_);refine aj _ (fI _ _ _) ?_;refine bR (p:=¬(lp=0)) (λqu=>?_) (λqu=>?_)
  ·exact aS (eM (by simp) ⟨_,_,rfl⟩)
  refine aj _ (mA Ou ahc) ?_;exact aS (ke ⟨rfl,rfl⟩)
 ·intro hl s3 v w5 hI;obtain⟨rfl,rfl⟩:=hI;refine aj _ (mw _)<|mJ ?_;exact aS ⟨by simp,⟨_,_,rfl⟩⟩
 ·intro hl b4 q hq;obtain⟨u2,ET,rfl⟩:=hq;refine fF rfl<|aj _ rfl<|aj (sl 3 gL a0.gF) rfl<|aj _ (fu _ _ _)<|aj _ rfl ?_;refine bR (p:=40<(a0.gF.length:Int)) (λzC=>?_) (λzC=>?_)
  ·exact aN _ (aO _ _) ⟨rfl,rfl⟩
  refine aj _ rfl<|aj (sl 3 gL a0.gF) rfl<|aj _ (fu _ _ _) ?_;refine mB (B:=Unit) (R:=Int) (λ(wE:Nat)(wM:Unit)v OZ=>∃u2,v=[(XK (dQ a0)),u2,(η (wE:Int))]/\σ=OZ) (λ(zx:Unit)(q:LS)=>∃u1 u2 EZ,q=((eN 2),([u1,u2,EZ]:au),σ)) (λ(zx:Int)(q:LS)=>∃u1 EZ,q=(i7,([u1,(η zx),EZ]:au),σ)) ?_ ?_ ⟨_,rfl,rfl⟩ ?_ ?_
  ·intro agf wE rA wM v OZ Nq hI;obtain⟨u2,rfl,rfl⟩:=hI;refine aj _ (mH Nq)<|mK<|aj _ (mz Nq)<|aj _ rfl<|aj _ rfl<|aj _ (KG _ _ rfl)<|aj _ rfl<|aj _ (gr rA.aH 1 40 σ)<|aj _ rfl ?_;refine cR (c:=(!(aI rA.aH 1 40))) (λff=>?_) (λff=>?_)
   ·exact aS (eM (by simp) ⟨_,_,rfl⟩)
   refine aj _ rfl<|bl (η rA.aH) (λhg=>rfl)<|aj _ rfl<|bl (sl 3 gL a0.gF) (λhg=>rfl)<|bl (η (wE:Int)) (λhg=>rfl)<|bl (η (ε.wrap ((wE:Int) -1))) (λhg=>by(try rw[hg]);exact rfl) ?_;refine mC (ω:=jq) (λcC=>(YH (gL cC))) (λhg cC DP=>by(try rw[hg]);exact kq DP) (λcC DP=>?_);refine bl (YH (gL cC)) (λhg=>by(try rw[hg]);exact rfl)<|bl (η cC.aH) (λhg=>by(try rw[hg]);exact rfl)<|bl (ψ (decide (rA.aH<=cC.aH))) (λhg=>by(try rw[hg]);exact rfl)<|aj _ (ga _ _) ?_;refine cR (c:=((decide (0<(wE:Int)))&&(decide (rA.aH<=cC.aH)))) (λsS=>?_) (λsS=>?_)
   ·exact aS (eM (by simp) ⟨_,_,rfl⟩)
   refine aj _ rfl<|aj _ rfl ?_;refine aL (λcj:(gX×Bool)=>((p7 [(n9 (gO cj.1)),(ψ cj.2)]),σ)) (λcj DI=>aaa DI) (λcj DI=>?_);refine aj _ rfl<|aj _ rfl<|aj _ rfl<|aj _ (CX _ _ rfl)<|aj _ rfl ?_;refine cR (c:=(!cj.2)) (λsR=>?_) (λsR=>?_)
   ·exact aS (eM (by simp) ⟨_,_,rfl⟩)
   refine aj _ rfl<|aj _ (gr rA.tT 0 100 σ)<|aj _ rfl ?_;refine cR (c:=(!(aI rA.tT 0 100))) (λkD=>?_) (λkD=>?_)
   ·exact aS (eM (by simp) ⟨_,_,rfl⟩)
   refine aj _ (mA Nq agf) ?_;exact aS (ke ⟨_,rfl,rfl⟩)
  ·intro hl wM v OZ hI;obtain⟨u2,rfl,rfl⟩:=hI;refine aj _ (mw _)<|mJ ?_;exact aS ⟨by simp,⟨_,_,_,rfl⟩⟩
  ·intro hl zx q hq;obtain⟨u1,u2,EZ,rfl⟩:=hq;refine fF rfl ?_;exact aN _ (aO _ _) ⟨rfl,rfl⟩
  ·intro hl zx q hq;obtain⟨u1,EZ,rfl⟩:=hq;refine nH rfl<|fF rfl ?_;exact aN _ (aO _ _) ⟨rfl,rfl⟩
 ·intro hl b4 q hq;obtain⟨u1,ET,rfl⟩:=hq;refine nH rfl<|fF rfl ?_;exact aN _ (aO _ _) ⟨rfl,rfl⟩
end
section
section
variable {κ ν : Type} [DecidableEq κ]
theorem QY(k a:κ)(v:ν):∀(l:List (κ×ν)),jK k (mP a v l)=if k=a then δ v else jK k l
 |[]=>by simp [mP,jK]
 |(b,w)::l=>by
  rw[mP];by_cases h:a=b
  ·subst h;rw[aE rfl,jK,jK];split<;>rfl
  ·rw[aD h,jK,jK,QY k a v l];by_cases h2:k=b
   ·subst h2;rw[aE rfl,aE rfl,aD (λe=>h e.symm)]
   ·rw[aD h2,aD h2]
theorem LF(k:κ):∀(l:List κ)(s:List (κ×Bool)),(jK k (l.foldl (λs x=>mP x θ s) s)).getD ξ=(decide (k∈l)||(jK k s).getD ξ)
 |[],s=>by simp
 |x::l,s=>by
  rw[List.foldl_cons,LF k l,QY];by_cases h:k=x
  ·simp [h]
  ·simp [h]
end
theorem aaA{l:List Int}{n:Int}(h:l.Pairwise (·<·))(k:zn l n=ξ):(l++[n]).Pairwise (·<·):=by
 rw[List.pairwise_append];refine⟨h,by simp,λa ha b hb=>?_⟩;simp at hb;subst hb;unfold zn at k;cases hl:l.getLast? with
 |none=>rw[List.getLast?_eq_none_iff]at hl;subst hl;simp at ha
 |some m=>
  rw[hl]at k;simp at k;obtain⟨ys,rfl⟩:=List.getLast?_eq_some_iff.1 hl;rw[List.pairwise_append]at h;rcases gV.1 ha with ha|ha
  ·have:=h.2.2 a ha m (by simp);omega
  ·simp at ha;omega
theorem Qd{fM:List dI}:∀(rest pre:List fT),BG fM pre rest=0->(pre.map (·.aH)).Pairwise (·<·)->((pre++rest).map (·.aH)).Pairwise (·<·)
 |[],pre,_,h=>by simpa using h
 |u::rest,pre,hc,h=>by
  rw[BG]at hc;split at hc
  ·cases hc
  split at hc
  ·cases hc
  rename_i ho;split at hc
  ·cases hc
  split at hc
  ·cases hc
  split at hc
  ·cases hc
  have:=Qd rest (pre++[u]) hc (by rw[List.map_append];exact aaA h (by simpa using ho));simpa using this
theorem aar{r:fA}(h:iQ r=0):(r.iU.map (·.aH)).Pairwise (·<·):=by
 unfold iQ at h;split at h
 ·split at h
  ·cases h
  ·simpa using Qd r.iU [] h (by simp)
 ·rename_i h2;exact absurd h h2
theorem abb(p:dI)(nm:ByteArray):(MF p nm).2=θ↔∃x∈p.params,x.name=nm:=by
 unfold MF;cases h:p.params.find? λx=>decide (x.name=nm)with
 |none=>simp only[Option.elim_none,Φ,false_iff];rintro⟨x,hx,e⟩;have:=aln.1 h x hx;simp [e]at this
 |some x=>simp only[Option.elim_some,true_iff];exact⟨x,BE h,by simpa using alM h⟩
theorem acN{l:List fT}(h:(l.map (·.aH)).Pairwise (·<·)){u v:fT}(hu:u∈l)(hv:v∈l)(e:u.aH=v.aH):u=v:=by
 induction l with
 |nil=>simp at hu
 |cons x l ih=>
  rw[fH,List.pairwise_cons]at h;rcases eG.1 hu with hu1|hu1<;>rcases eG.1 hv with Ez|Ez
  ·rw[hu1,Ez]
  ·have:=h.1 v.aH (kZ.2 ⟨v,Ez,rfl⟩);rw[<-hu1]at this;omega
  ·have:=h.1 u.aH (kZ.2 ⟨u,hu1,rfl⟩);rw[<-Ez]at this;omega
  ·exact ih h.2 hu1 Ez
def xO(r:fA)(k:bP):Bool:=(Te r k).2
theorem R7{r:fA}(h:iQ r=0)(k:bP):xO r k=decide (k∈oL r):=by
 rw[iX,decide_eq_true_iff];unfold xO Te oL;rw[List.mem_flatMap];cases hf:r.iU.find? λu=>decide (u.aH=k.unit)with
 |none=>simp only[Option.elim_none,Φ,false_iff];rintro⟨u,hu,hk⟩;obtain⟨x,_,rfl⟩:=kZ.1 hk;have:=aln.1 hf u hu;simp at this
 |some u=>
  have hu:=BE hf;have hn:u.aH=k.unit:=by simpa using alM hf
  simp only[Option.elim_some,abb];constructor
  ·rintro⟨x,hx,e⟩;exact⟨u,hu,kZ.2 ⟨x,hx,by rw[hn,e]⟩⟩
  ·rintro⟨v,hv,hk⟩;obtain⟨x,hx,rfl⟩:=kZ.1 hk;obtain rfl:=acN (aar h) hu hv hn;exact⟨x,hx,rfl⟩
theorem Sb{r:fA}(h:iQ r=0):(oL r).length<=16000:=by have h1:=KI h r.iU;have h2:=QK h;show(r.iU.flatMap (oH r.cY)).length<=_;omega
theorem LP{α:Type}{p:Prop}[Decidable p](a b:α):(if p then δ a else δ b)=δ (if p then a else b):=by split<;>rfl
theorem Gc{α β:Type}{p:Prop}[Decidable p](a b:α)(f:α->Option β):(if p then δ a else δ b).bind f=f (if p then a else b):=by split<;>rfl
theorem before_eq(a b:bP):AI a b=δ (rE a b):=by
 unfold AI rE;by_cases h:a.unit=b.unit
 ·simp [h,Sw,L7]
 ·by_cases h2:a.unit<b.unit<;>simp [h,h2]
theorem compare_eq(a b:bP):AH a b=δ (BH a b):=by
 unfold AH BH;by_cases h:a.unit=b.unit
 ·simp [h]
 ·by_cases h2:a.unit<b.unit<;>simp [h,h2]
def M1(has:bP->Bool)(l:List so)(i:Nat)(x:so):Int:=
 if(!has x.key)=θ then 8
 else if(!(aI x.level 0 65535))=θ then 1
 else if(decide (0<(i:Int))&&!rE (pv l i).key x.key)=θ then 7 else 0
def Mf(has:bP->Bool)(l:List iz)(i:Nat)(p:iz):Int:=
 if(!(aI p.aH 1 999))=θ then 1
 else if(decide (0<(i:Int))&&decide (p.aH<=(pv l i).aH))=θ then 7
 else if(!(ud p.title))=θ then 3
 else if 2000<(p.jZ.length:Int)then 2
 else fV (M1 has p.jZ) p.jZ 0
def pY(r:fA)(l:List iz):Int:=
 if ¬(iQ r=0)then iQ r else if 200<(l.length:Int)then 2 else fV (Mf (xO r) l) l 0
theorem akm(c:Bool)(a b:bP):(c&&!(if c=θ then rE a b else(default:Bool)))=(c&&!rE a b):=by cases c<;>rfl
theorem abY(c:Bool)(a b:bP):(c&&decide (0<=(if c=θ then BH a b else(default:Int))))=(c&&!rE a b):=by
 cases c
 ·rfl
 ·simp only[if_true,Zr];exact aec a b
theorem akI(s:ByteArray):(decide (¬(s=(⟨#[]⟩:ByteArray)))&&!(if decide (¬(s=(⟨#[]⟩:ByteArray)))=θ then Bv s else(default:Bool)))=!ud s:=by unfold ud;by_cases h:s=⟨#[]⟩<;>simp [h]
theorem PF(r:fA)(l:List iz)(hr:xC r)(hl:eB CT l):yy r l=δ (pY r l):=by
 unfold yy pY;simp only[cX hr,aA];rw[cX (by show 2<=bu;unfold bu;omega)];simp only[Hw,aA];by_cases h0:iQ r=0;case neg=>simp [h0]
 by_cases h1:200<(l.length:Int)
 ·simp [h0,h1]
 have hk:AP r=δ ((oL r).foldl (λs x=>mP x θ s) []):=by unfold AP;have:=Sb h0;simp only[cX hr,aA,h0,if_true];rw[Q8 (λs x=>mP x θ s) (λ_ _=>True) (by unfold bu;omega) trivial (λ_ _ _ _ _=>trivial) (λ_ _ _ _ _=>rfl)];rfl
 simp only[h0,h1,not_true_eq_false,if_false,decide_false,Φ,hk,aA]
 have has:∀k,(jK k ((oL r).foldl (λs x=>mP x θ s) [])).getD ξ=xO r k:=by intro k;rw[LF,R7 h0];simp [jK]
 rw[wZ (f:=Mf (xO r) l) hl.1 ?_]
 ·split
  ·rename_i h;rw[h]
  ·rfl
 intro i p hp;have OA:=hl.2 p (cZ hp);obtain⟨_,ht,hs⟩:=OA;simp only[yS hp hl.1,aA,cX ht,has];rw[wZ (f:=M1 (xO r) p.jZ) hs.1 ?_]
 ·unfold Mf;repeat first|exact RV _|exact go_ret|refine Bh (by decide) ?_
 intro j x hx;simp only[yS hx hs.1,aA,before_eq,Gc,akm];unfold M1;repeat first|exact go_ret|refine Bh (by decide) ?_
def Mc(l:List iz)(k:bP)(v:lG):Int×Int:=
 if(decide (¬(v.level=0))&&decide (¬(v.eT=0)))=θ then(0,3)
 else if(!(aI v.level 0 65535))=θ then(0,1)
 else if v.eT=0 then(v.level,0)
 else match l.find? λp=>decide (p.aH=v.eT)with
  |none=>(0,8)
  |some p=>match p.jZ.find? λs=>decide (s.key=k)with|none=>(0,8)|some s=>(s.level,0)
theorem aaS{α γ R:Type}{p:α->Bool}{l:List α}{body:Nat->α->Unit->Option (Lr Unit Unit R)}{r:α->Option R}{fin:Unit->Option Unit}{s:Unit}{K1:Unit->Option γ}{K2:R->Option γ}(hl:l.length<=bu)(hb:∀i x,l[i]? =δ x->body i x ()=if p x=θ then δ (match r x with|some q=>.ret q|none=>.kQ ())else δ (.go ()))(hf:fin ()=δ ():=by rfl):iB l body fin s K1 K2=match l.find? p with|some x=>(match r x with|some q=>K2 q|none=>K1 ())|none=>K1 ():=by
 rw[xh hl]
 have key:∀(rest pre:List α),l=pre++rest->gz body fin rest pre.length ()=δ (match rest.find? p with|some x=>(match r x with|some q=>.inr q|none=>.inl ())|none=>.inl ()):=by
  intro rest;induction rest with
  |nil=>intro pre _;simp [gz,hf]
  |cons x rest ih=>
   intro pre hp;rw[gz,hb pre.length x (by rw[hp];simp),al7];cases h:p x
   ·simp only[Φ,if_false,aA];have:=ih (pre++[x]) (by simpa using hp);simpa using this
   ·simp only[if_true,aA];cases r x<;>rfl
 have k:=key l [] rfl;rw[AV]at k;rw[show s=()from rfl,k,aA];cases l.find? p with
 |none=>rfl
 |some x=>simp only;cases r x<;>rfl
theorem ad0(l:List iz)(hl:eB CT l)(k:bP)(v:lG):AK l k v=δ (Mc l k v):=by
 unfold AK Mc;split
 ·rfl
 split
 ·rfl
 split
 ·rfl
 rw[aaS (p:=λp=>decide (p.aH=v.eT)) (r:=λp=>(p.jZ.find? λs=>decide (s.key=k)).map (·.level)) hl.1 ?_]
 ·cases hf:l.find? λp=>decide (p.aH=v.eT)with
  |none=>rfl
  |some p=>simp only;cases p.jZ.find? λs=>decide (s.key=k)<;>rfl
 intro i p hp;have OA:=hl.2 p (cZ hp);by_cases hn:p.aH=v.eT
 ·simp only[hn,not_true_eq_false,if_false,decide_true,if_true];rw[Q7 (p:=λs=>decide (s.key=k)) (r:=λs=>s.level) OA.2.2.1 (by intro i x _;simp only[decide_eq_true_eq,LP])];cases p.jZ.find? λs=>decide (s.key=k)<;>rfl
 ·simp [hn]
def Dq(l:List kj)(i:Nat)(m:kj):Int:=
 if(!(aI m.key.unit 1 9999))=θ then 1
 else if(!(oM m.key.param))=θ then 5
 else if((m.release&&(decide (¬(m.value=(⟨0,0⟩:lG)))))||((decide (¬(m.value.level=0)))&&(decide (¬(m.value.eT=0)))))=θ then 3
 else if((!(aI m.value.level 0 65535))||(!(aI m.value.eT 0 999)))=θ then 1
 else if((!m.xE)&&((decide (¬(m.fE=0)))||(decide (¬(m.time=0)))))=θ then 3
 else if((!(aI m.fE 0 36000000))||(!(aI m.time 0 36000000)))=θ then 1
 else if(decide (0<(i:Int))&&!rE (pv l i).key m.key)=θ then 7 else 0
def My(l:List kj):Int:=fV (Dq l) l 0
theorem aiR(l:List kj)(hl:eB Hj l):Az l=δ (My l):=by
 unfold Az My;rw[wZ (f:=Dq l) hl.1 ?_]
 ·split
  ·rename_i h;rw[h]
  ·rfl
 intro i m hm;have hmm:=hl.2 m (cZ hm);simp only[yS hm hl.1,aA,cX hmm.1.2,compare_eq,Gc,abY];unfold Dq;repeat first|exact go_ret|refine Bh (by decide) ?_
def uv(l:List cr)(i:Nat)(c:cr):Int:=
 if(!(aI c.aH 1 9999999))=θ then 1
 else if(decide (0<(i:Int))&&decide (c.aH<=(pv l i).aH))=θ then 7
 else if(!(ud c.title))=θ then 3
 else if(((((!(aI c.fE 0 36000000))||(!(aI c.up 0 36000000)))||(!(aI c.down 0 36000000)))||(!(aI c.other 0 36000000)))||(!(aI c.lJ (-1) 36000000)))=θ then 1
 else if ¬(vq c.kn=0)then vq c.kn
 else if 2000<(c.gU.length:Int)then 2
 else My c.gU
def MW(l:List cr):Int:=l.foldl (λs c=>ε.wrap (s+(c.gU.length:Int))) 0
def vG(l:List cr):Int:=
 if 300<(l.length:Int)then 2 else if ¬(fV (uv l) l 0=0)then fV (uv l) l 0 else if 10000<MW l then 2 else 0
theorem abR{α γ S B:Type}{f:Nat->α->Int}{g:S->α->S}{l:List α}{body:Nat->α->S->Option (Lr S B Int)}{fin:S->Option B}{s:S}{K1:B->Option γ}{K2:Int->Option γ}(hl:l.length<=bu)(hb:∀i x s,l[i]? =δ x->body i x s=δ (if f i x=0 then .go (g s x)else .ret (f i x))):iB l body fin s K1 K2=if fV f l 0=0 then(fin (l.foldl g s)).bind K1 else K2 (fV f l 0):=by
 rw[xh hl]
 have key:∀(rest pre:List α)(s:S),l=pre++rest->gz body fin rest pre.length s=if fV f rest pre.length=0 then(fin (rest.foldl g s)).map .inl else δ (.inr (fV f rest pre.length)):=by
  intro rest;induction rest with
  |nil=>intro pre s _;simp [gz,fV]
  |cons x rest ih=>
   intro pre s hp;rw[gz,hb pre.length x s (by rw[hp];simp),aA,fV];by_cases h:f pre.length x=0
   ·simp only[h,if_true];have:=ih (pre++[x]) (g s x) (by simpa using hp);simpa using this
   ·simp only[h,if_false]
 have k:=key l [] s rfl;rw[AV]at k;rw[k];split
 ·cases fin (l.foldl g s)<;>rfl
 ·rfl
theorem adp{S B:Type}{p:Prop}[Decidable p]{k f:Int}{t:S}{Y:Option (Lr S B Int)}(hk:k≠0)(h:Y=δ (if f=0 then .go t else .ret f)):(if p then δ (.ret k)else Y)=δ (if(if p then k else f)=0 then .go t else .ret (if p then k else f)):=by
 by_cases hp:p
 ·simp [hp,hk]
 ·simp [hp,h]
theorem ab5{S B:Type}{k f:Int}{t:S}{Y:Option (Lr S B Int)}(h:Y=δ (if f=0 then .go t else .ret f)):(if ¬(k=0)then δ (.ret k)else Y)=δ (if(if ¬(k=0)then k else f)=0 then .go t else .ret (if ¬(k=0)then k else f)):=by
 by_cases hp:k=0
 ·simp [hp,h]
 ·simp [hp]
theorem Lv{S B:Type}{k:Int}{t:S}:(if ¬(k=0)then δ (.ret k)else δ (.go t):Option (Lr S B Int))=δ (if k=0 then .go t else .ret k):=by by_cases hp:k=0<;>simp [hp]
theorem afw(l:List cr)(hl:eB Dr l):AU l=δ (vG l):=by
 unfold AU vG;split
 ·rfl
 rw[abR (f:=uv l) (g:=λs c=>ε.wrap (s+(c.gU.length:Int))) hl.1 ?_]
 ·show(if fV (uv l) l 0=0 then δ (if decide (10000<MW l)=θ then(2:Int)else 0)else δ (fV (uv l) l 0))=_;by_cases h:fV (uv l) l 0=0
  ·by_cases h2:10000<MW l<;>simp [h,h2]
  ·simp [h]
 intro i c s hc;obtain⟨_,ht,_,_,_,_,_,_,hm⟩:=hl.2 c (cZ hc);simp only[yS hc hl.1,aA,cX ht,aiR _ hm,Gc,akI];unfold uv;repeat first|exact Lv|refine adp (by decide) ?_|refine ab5 ?_
def H7(r:fA)(gu:List iz)(m:kj):Int:=
 if(!xO r m.key)=θ then 8 else(Mc gu m.key m.value).2
def M7(r:fA)(gu:List iz)(l:List cr):Int:=fV (λ_ c=>fV (λ_ m=>H7 r gu m) c.gU 0) l 0
def Dp(r:fA)(gu:List iz)(l:List cr):Int:=
 if ¬(pY r gu=0)then pY r gu else if ¬(vG l=0)then vG l else M7 r gu l
theorem ajV{r:fA}{l:List iz}(h:pY r l=0):iQ r=0:=by
 unfold pY at h;by_cases h0:iQ r=0
 ·exact h0
 ·rw[aE h0]at h;exact h
theorem aaf{c:cr}(h:Dr c):eB Hj c.gU:=by obtain⟨_,_,_,_,_,_,_,_,hm⟩:=h;exact hm
theorem akz(r:fA)(gu:List iz)(l:List cr)(hr:xC r)(hp:eB CT gu)(hl:eB Dr l):AD r gu l=δ (Dp r gu l):=by
 unfold AD Dp;simp only[PF r gu hr hp,afw l hl,aA];rw[cX (by show 2<=bu;unfold bu;omega)];simp only[Hw,aA];by_cases h0:pY r gu=0;case neg=>simp [h0]
 by_cases h1:vG l=0;case neg=>simp [h0,h1]
 have NH:=ajV h0;have hkl:=Sb NH;simp only[h0,h1,not_true_eq_false,if_false,cX hr,aA,NH,if_true];rw[Q8 (λs x=>mP x θ s) (λ_ _=>True) (by unfold bu;omega) trivial (λ_ _ _ _ _=>trivial) (λ_ _ _ _ _=>rfl)];simp only[aA]
 have has:∀k,(jK k ((oL r).foldl (λs x=>mP x θ s) [])).getD ξ=xO r k:=by intro k;rw[LF,R7 NH];simp [jK]
 rw[wZ (f:=λ_ c=>fV (λ_ m=>H7 r gu m) c.gU 0) hl.1 ?_]
 ·show(if M7 r gu l=0 then δ (0:Int)else δ (M7 r gu l))=_;split
  ·rename_i h;rw[h]
  ·rfl
 intro i c hc;rw[wZ (f:=λ_ m=>H7 r gu m) (aaf (hl.2 c (cZ hc))).1 ?_]
 ·exact RV _
 intro j m hm;simp only[has,ad0 gu hp,aA];unfold H7;repeat first|exact Lv|refine Bh (by decide) ?_
def qV(l:List gX)(n:Int):gX×Bool:=match l.find? λx=>decide (x.aH=n)with|some x=>(x,θ)|none=>(⟨0,[]⟩,ξ)
theorem afF(s:dM)(hl:s.dK.length<=bu)(n:Int):AQ s n=δ (qV s.dK n):=by
 unfold AQ qV;rw[cX hl,aA];rcases CD (λx:gX=>decide (x.aH=n)) s.dK with⟨h1,_,h3⟩|⟨k,x,h1,h2,h3,h4,_⟩
 ·rw[h1,h3];rfl
 ·rw[h3,h4,aD (by omega),Mm (x:=x) (by omega) (by simpa using h1)];rfl
def yW(s:dM)(i:Nat)(x:gX):Int:=
 if(!(aI x.aH 1 999))=θ then 1
 else if(decide (0<(i:Int))&&decide (x.aH<=(pv s.dK i).aH))=θ then 7
 else Dp s.qJ s.gu x.kO
def Ds(s:dM)(i:Nat)(p:jq):Int:=
 if(!(aI p.aH 1 40))=θ then 1
 else if(decide (0<(i:Int))&&decide (p.aH<=(pv s.gF i).aH))=θ then 7
 else if(!(qV s.dK p.list).2)=θ then 8
 else if(!(aI p.tT 0 100))=θ then 1 else 0
def mD(s:dM):Int:=
 if ¬(pY s.qJ s.gu=0)then pY s.qJ s.gu
 else if 30<(s.dK.length:Int)then 2
 else if ¬(fV (yW s) s.dK 0=0)then fV (yW s) s.dK 0
 else if 40<(s.gF.length:Int)then 2
 else fV (Ds s) s.gF 0
theorem Kg(s:dM)(hs:tX s):yC s=δ (mD s):=by
 obtain⟨hr,hp,hl,hb⟩:=hs;unfold yC mD;simp only[PF _ _ hr hp,aA];rw[cX (by show 2<=bu;unfold bu;omega)];simp only[Hw,aA];by_cases h0:pY s.qJ s.gu=0;case neg=>simp [h0]
 by_cases h1:30<(s.dK.length:Int)
 ·simp [h0,h1]
 simp only[h0,h1,not_true_eq_false,if_false,decide_false,Φ];rw[wZ (f:=yW s) hl.1 ?_]
 ·by_cases h2:fV (yW s) s.dK 0=0;case neg=>simp [h2]
  simp only[h2,if_true,not_true_eq_false,if_false];split
  ·rfl
  rw[wZ (f:=Ds s) hb.1 ?_]
  ·split
   ·rename_i h;rw[h]
   ·rfl
  intro i p hpp;simp only[yS hpp hb.1,aA,afF s hl.1];unfold Ds;repeat first|exact go_ret|refine Bh (by decide) ?_
 intro i x hx;simp only[yS hx hl.1,aA,akz _ _ _ hr hp (hl.2 x (cZ hx)).2];unfold yW;repeat first|exact Lv|refine Bh (by decide) ?_
end
section
def I4 (a0:jq) (a1:bF):Option Bool:=δ (decide (a0.aH=a1.bB))
theorem ajr{a0:jq}{a1:bF}{σ:Heap}{r:Bool}(h:I4 a0 a1=δ r):Cd [(n9 (gL a0)),(YH (dS a1))] σ=δ ((ψ r),σ):=by refine iJ (f:=I3) (y0:=(n9 (gL a0))) (y1:=(YH (dS a1))) (enc:=λr:Bool=>(ψ r)) (T:=I4 a0 a1) rfl rfl ?_ r h;unfold I3 I4;refine aj _ rfl<|aj _ rfl<|aj _ rfl<|aj _ rfl<|aj _ (cM _ _ _) ?_;exact aN _ (aO _ _) ⟨rfl,rfl⟩
def Aw (a0:bF):Option Int:=
 if(!(aI a0.kind 1 9))=θ then
  δ 4
 else
 if(((((decide (a0.kind=8))||(decide (a0.kind=9)))&&(decide (¬(a0.bB=0))))||((decide (¬(a0.kind=3)))&&(decide (¬(a0.gf=0)))))||((!((((decide (a0.kind=8))||(decide (a0.kind=9)))||(decide (a0.kind=6)))||(decide (a0.kind=7))))&&(decide (¬(a0.level=0)))))=θ then
  δ 3
 else
 δ 0
theorem akF{a0:bF}{σ:Heap}{r:Int}(h:Aw a0=δ r):Ft [(n9 (dS a0))] σ=δ ((η r),σ):=by
 refine iI (f:=Jn) (y0:=(n9 (dS a0))) (enc:=λr:Int=>(η r)) (T:=Aw a0) rfl rfl ?_ r h;unfold Jn Aw;refine aj _ rfl<|aj _ rfl<|aj _ (gr a0.kind 1 9 σ)<|aj _ rfl ?_;refine cR (c:=(!(aI a0.kind 1 9))) (λc2=>?_) (λc2=>?_)
 ·exact aN _ (aO _ _) ⟨rfl,rfl⟩
 refine aj _ rfl<|aj _ (cM _ _ _)<|bf (η a0.kind) (λhg=>rfl)<|bf (ψ (decide (a0.kind=9))) (λhg=>by(try rw[hg]);exact(cM _ _ _))<|aj _ (eF _ _)<|bf (η a0.kind) (λhg=>rfl)<|bf (ψ (decide (a0.kind=6))) (λhg=>by(try rw[hg]);exact(cM _ _ _))<|aj _ (eF _ _)<|bf (η a0.kind) (λhg=>rfl)<|bf (ψ (decide (a0.kind=7))) (λhg=>by(try rw[hg]);exact(cM _ _ _))<|aj _ (eF _ _)<|bl (η a0.bB) (λhg=>rfl)<|bl (ψ (decide (¬(a0.bB=0)))) (λhg=>by(try rw[hg]);exact(fI _ _ _))<|aj _ (ga _ _)<|bf (η a0.kind) (λhg=>rfl)<|bf (ψ (decide (¬(a0.kind=3)))) (λhg=>by(try rw[hg]);exact(fI _ _ _))<|bf (ψ (decide (¬(a0.kind=3)))) (λhg=>by(try rw[hg]);exact rfl)<|gM (η a0.gf) (λhg=>rfl)<|gM (ψ (decide (¬(a0.gf=0)))) (λhg=>by(try rw[hg]);exact(fI _ _ _))<|bf (ψ ((decide (¬(a0.kind=3)))&&(decide (¬(a0.gf=0))))) (λhg=>by(try rw[hg]);exact(ga _ _))<|aj _ (eF _ _)<|bf (ψ ((((decide (a0.kind=8))||(decide (a0.kind=9)))||(decide (a0.kind=6)))||(decide (a0.kind=7)))) (λhg=>rfl)<|bf (ψ (!((((decide (a0.kind=8))||(decide (a0.kind=9)))||(decide (a0.kind=6)))||(decide (a0.kind=7))))) (λhg=>by(try rw[hg]);exact rfl)<|bf (ψ (!((((decide (a0.kind=8))||(decide (a0.kind=9)))||(decide (a0.kind=6)))||(decide (a0.kind=7))))) (λhg=>by(try rw[hg]);exact rfl)<|gM (η a0.level) (λhg=>rfl)<|gM (ψ (decide (¬(a0.level=0)))) (λhg=>by(try rw[hg]);exact(fI _ _ _))<|bf (ψ ((!((((decide (a0.kind=8))||(decide (a0.kind=9)))||(decide (a0.kind=6)))||(decide (a0.kind=7))))&&(decide (¬(a0.level=0))))) (λhg=>by(try rw[hg]);exact(ga _ _))<|aj _ (eF _ _) ?_;refine cR (c:=(((((decide (a0.kind=8))||(decide (a0.kind=9)))&&(decide (¬(a0.bB=0))))||((decide (¬(a0.kind=3)))&&(decide (¬(a0.gf=0)))))||((!((((decide (a0.kind=8))||(decide (a0.kind=9)))||(decide (a0.kind=6)))||(decide (a0.kind=7))))&&(decide (¬(a0.level=0)))))) (λc1=>?_) (λc1=>?_)
 ·exact aN _ (aO _ _) ⟨rfl,rfl⟩
 exact aN _ (aO _ _) ⟨rfl,rfl⟩
def Ax (a0:dM) (a1:bF):Option Int:=
 (if(!((decide (a1.kind=8))||(decide (a1.kind=9))))=θ then tq (a0.gF.length<=bu) (a0.gF.any (λx=>(decide (x.aH=a1.bB))))else δ default).bind λr1=>
 if((!((decide (a1.kind=8))||(decide (a1.kind=9))))&&(!r1))=θ then
  δ 8
 else
 (show Option Int from
   if a1.kind=6 then
    δ 36000000
   else
   (show Option Int from
     if a1.kind=9 then
      δ 1
     else
     δ 65535).bind λj3=>
   δ j3).bind λj7=>
 δ (if(!(aI a1.level 0 j7))=θ then 1 else 0)
theorem ajC{a0:dM}{a1:bF}{σ:Heap}{r:Int}(h:Ax a0 a1=δ r):Fu [(n9 (dQ a0)),(n9 (dS a1))] σ=δ ((η r),σ):=by
 refine iJ (f:=Fy) (y0:=(n9 (dQ a0))) (y1:=(n9 (dS a1))) (enc:=λr:Int=>(η r)) (T:=Ax a0 a1) rfl rfl ?_ r h;unfold Fy Ax;refine aj _ rfl<|aj _ rfl<|aj _ rfl<|aj _ rfl<|aj _ (cM _ _ _)<|bf (YH (List.drop 1 (dS a1))) (λhg=>rfl)<|bf (η a1.kind) (λhg=>by(try rw[hg]);exact rfl)<|bf (ψ (decide (a1.kind=9))) (λhg=>by(try rw[hg]);exact(cM _ _ _))<|aj _ (eF _ _)<|aj _ rfl<|bl (sl 3 gL a0.gF) (λhg=>rfl)<|bl (U.fn 152 [(YH (dS a1))]) (λhg=>rfl) ?_;refine mC (ω:=Bool) (λr1=>(ψ r1)) (λhg r1 bn=>by(try rw[hg]);exact(dX ((eP (e:=λr:Bool=>((ψ r),σ)) (λhs=>ajn _ a0.gF hs _ _ (λx=>(decide (x.aH=a1.bB))) σ (λx hx=>ajr (σ:=σ) (r:=(decide (x.aH=a1.bB))) rfl))) bn))) (λr1 bn=>?_);refine bl (ψ (!r1)) (λhg=>by(try rw[hg]);exact rfl)<|aj _ (ga _ _) ?_;refine cR (c:=((!((decide (a1.kind=8))||(decide (a1.kind=9))))&&(!r1))) (λfC=>?_) (λfC=>?_)
 ·exact aN _ (aO _ _) ⟨rfl,rfl⟩
 refine aj _ rfl<|aj _ rfl<|aj _ (cM _ _ _) ?_
 refine kP (ω:=Int) (λj7 a=>a=(([(η j7)]:au),σ)) (
   by
    refine bR (p:=a1.kind=6) (λc6=>?_) (λc6=>?_)
    ·exact aS rfl
    refine aj _ (cM _ _ _) ?_
    refine kP (ω:=Int) (λj3 a=>a=(([(η j3)]:au),σ)) (
      by
       refine bR (p:=a1.kind=9) (λc2=>?_) (λc2=>?_)
       ·exact aS rfl
       exact aS rfl
      ) (λj3 a ha=>?_)
    subst ha;exact aS rfl
   ) (λj7 a ha=>?_)
 subst ha;refine aj _ rfl<|aj _ rfl<|aj _ (gr a1.level 0 j7 σ)<|aj _ rfl<|aj _ (qc (!(aI a1.level 0 j7)) 1 σ) ?_;exact aN _ (aO _ _) ⟨rfl,rfl⟩
def Cr (a0:Int):Option (Int×Int×Bool):=
 (show Option Bool from
   if a0=24 then
    δ (decide (a0=24))
   else
   (show Option Bool from
     if a0=25 then
      δ (decide (a0=25))
     else
     δ (decide (a0=30))).bind λj2=>
   δ j2).bind λj6=>
 if j6=θ then
  δ (a0,1,θ)
 else
 if a0=29 then
  δ (30000,1001,θ)
 else
 δ (0,0,ξ)
theorem ajz{a0:Int}{σ:Heap}{r:(Int×Int×Bool)}(h:Cr a0=δ r):J6 [(η a0)] σ=δ ((p7 [(η r.1),(η r.2.1),(ψ r.2.2)]),σ):=by
 refine iI (f:=Ka) (y0:=(η a0)) (enc:=λr:(Int×Int×Bool)=>(p7 [(η r.1),(η r.2.1),(ψ r.2.2)])) (T:=Cr a0) rfl rfl ?_ r h;unfold Ka Cr;refine aj _ (cM _ _ _) ?_
 refine kP (ω:=Bool) (λj6 a=>a=(([(ψ j6)]:au),σ)) (
   by
    refine bR (p:=a0=24) (λc5=>?_) (λc5=>?_)
    ·exact aS rfl
    refine aj _ (cM _ _ _) ?_
    refine kP (ω:=Bool) (λj2 a=>a=(([(ψ j2)]:au),σ)) (
      by
       refine bR (p:=a0=25) (λc1=>?_) (λc1=>?_)
       ·exact aS rfl
       refine aj _ (cM _ _ _) ?_;exact aS rfl
      ) (λj2 a ha=>?_)
    subst ha;exact aS rfl
   ) (λj6 a ha=>?_)
 subst ha;refine cR (c:=j6) (λfC=>?_) (λfC=>?_)
 ·exact aN _ (aO _ _) ⟨rfl,rfl⟩
 refine aj _ (cM _ _ _) ?_;refine bR (p:=a0=29) (λc9=>?_) (λc9=>?_)
 ·exact aN _ (aO _ _) ⟨rfl,rfl⟩
 exact aN _ (aO _ _) ⟨rfl,rfl⟩
def rW (a0:Int):Option Int:=
 (Cr a0).bind λr1=>
 δ (if(!r1.2.2)=θ then 16 else 0)
theorem FO{a0:Int}{σ:Heap}{r:Int}(h:rW a0=δ r):yI [(η a0)] σ=δ ((η r),σ):=by refine iI (f:=Ky) (y0:=(η a0)) (enc:=λr:Int=>(η r)) (T:=rW a0) rfl rfl ?_ r h;unfold Ky rW;refine aL (λr1:(Int×Int×Bool)=>((p7 [(η r1.1),(η r1.2.1),(ψ r1.2.2)]),σ)) (λr1 bn=>ajz bn) (λr1 bn=>?_);refine aj _ rfl<|aj _ rfl<|aj _ rfl<|aj _ rfl<|aj _ (qc (!r1.2.2) 16 σ) ?_;exact aN _ (aO _ _) ⟨rfl,rfl⟩
def CB (a0:Int):Option Int:=
 if a0=29 then
  δ 2589408
 else
 δ (ε.wrap (86400*a0))
theorem aab{a0:Int}{σ:Heap}{r:Int}(h:CB a0=δ r):FX [(η a0)] σ=δ ((η r),σ):=by
 refine iI (f:=KY) (y0:=(η a0)) (enc:=λr:Int=>(η r)) (T:=CB a0) rfl rfl ?_ r h;unfold KY CB;refine aj _ (cM _ _ _) ?_;refine bR (p:=a0=29) (λc1=>?_) (λc1=>?_)
 ·exact aN _ (aO _ _) ⟨rfl,rfl⟩
 refine aj _ rfl ?_;exact aN _ (aO _ _) ⟨rfl,rfl⟩
def AG (a0:dM) (a1:Int):Option (List cr):=
 iB a0.gF (λ(i8:Nat)e7(s1:Unit)=>(show Option (Lr Unit Unit (List cr))from
   iB a0.dK (λ(i16:Nat)rz(s9:Unit)=>(show Option (Lr Unit Unit (List cr))from
     if((decide (e7.aH=a1))&&(decide (rz.aH=e7.list)))=θ then
      δ (.ret rz.kO)
     else
     δ (.go ()))) (λs9=>δ ()) () (λoT=>
    δ (.go ())) (λoT=>
    δ (.ret oT)))) (λs1=>δ ()) () (λb2=>
  δ ([])) (λb2=>
  δ b2)
theorem Yt{a0:dM}{a1:Int}{σ:Heap}{r:(List cr)}(h:AG a0 a1=δ r):FI [(n9 (dQ a0)),(η a1)] σ=δ ((sl 11 dY r),σ):=by
 refine iJ (f:=JW) (y0:=(n9 (dQ a0))) (y1:=(η a1)) (enc:=λr:(List cr)=>(sl 11 dY r)) (T:=AG a0 a1) rfl rfl ?_ r h;unfold JW AG;refine aj _ rfl<|aj (sl 3 gL a0.gF) rfl<|aj _ (fu _ _ _) ?_;refine mB (B:=Unit) (R:=(List cr)) (λ(i8:Nat)(s1:Unit)v w3=>∃u4,v=[(XK (dQ a0)),u4,(η (i8:Int))]/\σ=w3) (λ(b2:Unit)(q:LS)=>∃u2 u4 EO,q=((eN 0),([u2,u4,EO]:au),σ)) (λ(b2:(List cr))(q:LS)=>∃u2 EO,q=(i7,([u2,(sl 11 dY b2),EO]:au),σ)) ?_ ?_ ⟨_,rfl,rfl⟩ ?_ ?_
 ·intro vT i8 e7 s1 v w3 lg hI;obtain⟨u4,rfl,rfl⟩:=hI;refine aj _ (mH lg)<|mK<|aj _ (mz lg)<|aj _ rfl<|aj _ rfl<|aj _ (KG _ _ rfl)<|aj _ rfl<|aj (sl 2 gO a0.dK) rfl<|aj _ (fu _ _ _) ?_;refine mB (B:=Unit) (R:=(List cr)) (λ(i16:Nat)(s9:Unit)v Af=>∃u4,v=[(XK (dQ a0)),u4,(XK (gL e7)),(η (i16:Int))]/\σ=Af) (λ(oT:Unit)(q:LS)=>∃u4 u6 EP,q=((eN 2),([(XK (dQ a0)),u4,u6,EP]:au),σ)) (λ(oT:(List cr))(q:LS)=>∃u2 u6 EP,q=(i7,([u2,(sl 11 dY oT),u6,EP]:au),σ)) ?_ ?_ ⟨_,rfl,rfl⟩ ?_ ?_
  ·intro MR i16 rz s9 v Af zj hI;obtain⟨u4,rfl,rfl⟩:=hI;refine aj _ (mH zj)<|mK<|aj _ (mz zj)<|aj _ rfl<|aj _ rfl<|aj _ (CX _ _ rfl)<|aj _ rfl<|aj _ rfl<|aj _ (cM _ _ _)<|bl (η rz.aH) (λhg=>rfl)<|aj _ rfl<|bl (η e7.list) (λhg=>rfl)<|bl (ψ (decide (rz.aH=e7.list))) (λhg=>by(try rw[hg]);exact(cM _ _ _))<|aj _ (ga _ _) ?_;refine cR (c:=((decide (e7.aH=a1))&&(decide (rz.aH=e7.list)))) (λkR=>?_) (λkR=>?_)
   ·refine aj (sl 11 dY rz.kO) rfl ?_;exact aS (eM (by simp) ⟨_,_,_,rfl⟩)
   refine aj _ (mA zj MR) ?_;exact aS (ke ⟨_,rfl,rfl⟩)
  ·intro hl s9 v Af hI;obtain⟨u4,rfl,rfl⟩:=hI;refine aj _ (mw _)<|mJ ?_;exact aS ⟨by simp,⟨_,_,_,rfl⟩⟩
  ·intro hl oT q hq;obtain⟨u4,u6,EP,rfl⟩:=hq;refine fF rfl<|aj _ (mA lg vT) ?_;exact aS (ke ⟨_,rfl,rfl⟩)
  ·intro hl oT q hq;obtain⟨u2,u6,EP,rfl⟩:=hq;refine nH rfl<|fF rfl ?_;exact aS (eM (by simp) ⟨_,_,rfl⟩)
 ·intro hl s1 v w3 hI;obtain⟨u4,rfl,rfl⟩:=hI;refine aj _ (mw _)<|mJ ?_;exact aS ⟨by simp,⟨_,_,_,rfl⟩⟩
 ·intro hl b2 q hq;obtain⟨u2,u4,EO,rfl⟩:=hq;refine fF rfl ?_;exact aN _ (aO _ _) ⟨(by first|rfl|exact Md _ _),rfl⟩
 ·intro hl b2 q hq;obtain⟨u2,EO,rfl⟩:=hq;refine nH rfl<|fF rfl ?_;exact aN _ (aO _ _) ⟨(xS (λ_=>rfl) _),rfl⟩
def IY (a0:cr) (a1:bF):Option Bool:=δ (decide (a0.aH=a1.gf))
theorem aj9{a0:cr}{a1:bF}{σ:Heap}{r:Bool}(h:IY a0 a1=δ r):Cc [(n9 (dY a0)),(YH (dS a1))] σ=δ ((ψ r),σ):=by refine iJ (f:=IX) (y0:=(n9 (dY a0))) (y1:=(YH (dS a1))) (enc:=λr:Bool=>(ψ r)) (T:=IY a0 a1) rfl rfl ?_ r h;unfold IX IY;refine aj _ rfl<|aj _ rfl<|aj _ rfl<|aj _ rfl<|aj _ (cM _ _ _) ?_;exact aN _ (aO _ _) ⟨rfl,rfl⟩
def yz (a0:dM) (a1:Int) (a2:(List cV)):Option Int:=
 (yC a0).bind λr1=>
 (rW a1).bind λr2=>
 (tq (([r1,r2,(if(decide (2000<(a2.length:Int)))=θ then 2 else 0)]:(List Int)).length<=bu) ((([r1,r2,(if(decide (2000<(a2.length:Int)))=θ then 2 else 0)]:(List Int)).find? λn=>decide (¬n=0)).getD 0)).bind λr3=>
 if ¬(r3=0)then
  δ r3
 else
 iB a2 (λ(rD:Nat)gB(ym:Unit)=>(show Option (Lr Unit Unit Int)from
   (CB a1).bind λgI=>
   (if decide (0<(rD:Int))=θ then eL a2 (ε.wrap ((rD:Int) -1))else δ default).bind λeR=>
   (tq (([(if(!(aI gB.bz 0 (ε.wrap (gI-1))))=θ then 1 else 0),(if((decide (0<(rD:Int)))&&(decide (gB.bz<eR.bz)))=θ then 7 else 0)]:(List Int)).length<=bu) ((([(if(!(aI gB.bz 0 (ε.wrap (gI-1))))=θ then 1 else 0),(if((decide (0<(rD:Int)))&&(decide (gB.bz<eR.bz)))=θ then 7 else 0)]:(List Int)).find? λn=>decide (¬n=0)).getD 0)).bind λmT=>
   (Aw gB.action).bind λgJ=>
   (Ax a0 gB.action).bind λkS=>
   (tq (([mT,gJ,(if(decide (¬(gB.action.time=0)))=θ then 3 else 0),kS]:(List Int)).length<=bu) ((([mT,gJ,(if(decide (¬(gB.action.time=0)))=θ then 3 else 0),kS]:(List Int)).find? λn=>decide (¬n=0)).getD 0)).bind λoh=>
   if ¬(oh=0)then
    δ (.ret oh)
   else
   (if decide (gB.action.kind=3)=θ then AG a0 gB.action.bB else δ default).bind λqD=>
   (if decide (gB.action.kind=3)=θ then tq (qD.length<=bu) (qD.any (λx=>(decide (x.aH=gB.action.gf))))else δ default).bind λrI=>
   if((decide (gB.action.kind=3))&&(!rI))=θ then
    δ (.ret 8)
   else
   δ (.go ()))) (λym=>δ ()) () (λzz=>
  δ 0) (λzz=>
  δ zz)
theorem Pm{a0:dM}{a1:Int}{a2:(List cV)}{σ:Heap}{r:Int}(h:yz a0 a1 a2=δ r):As [(n9 (dQ a0)),(η a1),(sl 6 cE a2)] σ=δ ((η r),σ):=by
 refine GI (f:=Fp) (y0:=(n9 (dQ a0))) (y1:=(η a1)) (y2:=(sl 6 cE a2)) (enc:=λr:Int=>(η r)) (T:=yz a0 a1 a2) rfl rfl ?_ r h;unfold Fp yz;refine aj _ rfl<|aj _ rfl ?_;refine aL (λr1:Int=>((η r1),σ)) (λr1 bn=>Pu bn) (λr1 bn=>?_);refine aL (λr2:Int=>((η r2),σ)) (λr2 hr2=>FO hr2) (λr2 hr2=>?_);refine aj _ (fu _ _ _)<|aj _ rfl<|aj _ (qc (decide (2000<(a2.length:Int))) 2 σ)<|aj (sl 1 sJ ([r1,r2,(if(decide (2000<(a2.length:Int)))=θ then 2 else 0)]:(List Int))) rfl ?_;refine aL (λr3:Int=>((η r3),σ)) (λr3 gC=>(eP (e:=λr:Int=>((η r),σ)) (λhs=>yQ ([r1,r2,(if(decide (2000<(a2.length:Int)))=θ then 2 else 0)]:(List Int)) hs σ)) gC) (λr3 gC=>?_);refine aj _ (fI _ _ _) ?_;refine bR (p:=¬(r3=0)) (λD4=>?_) (λD4=>?_)
 ·exact aN _ (aO _ _) ⟨rfl,rfl⟩
 refine aj _ (fu _ _ _) ?_;have ahi:Hp σ σ []:=Mv σ;refine mB (B:=Unit) (R:=Int) (λ(rD:Nat)(ym:Unit)v yu=>v=[(XK (dQ a0)),(η 0),(η (rD:Int))]/\Hp σ yu []) (λ(zz:Unit)(q:LS)=>∃u3 u6 ES Ai,q=((eN 0),([u3,u6,ES]:au),Ai)/\Hp σ Ai []) (λ(zz:Int)(q:LS)=>∃u3 ES Ai,q=(i7,([u3,(η zz),ES]:au),Ai)/\Hp σ Ai []) ?_ ?_ ⟨rfl,ahi⟩ ?_ ?_
 ·intro agi rD gB ym v yu Ns hI;obtain⟨rfl,NB⟩:=hI;refine aj _ (mH Ns)<|mK<|aj _ (mz Ns)<|aj _ rfl<|aj _ rfl<|aj _ (acH _ _ rfl)<|aj _ rfl ?_;have xP:Hp σ (yu++[bH.box [(η 0),(η 0),(η 0),(η 0),(η 0)]]) [((U.op yu.length 0),(Ct.b (dS (⟨0,0,0,0,0⟩:bF))))]:=agn NB _;refine aj _ rfl ?_;obtain⟨rP,e33,uy⟩:=ab1 (cs':=(dS gB.action)) xP 0 rfl 0 (by first|rfl|exact AT _ _ rfl);change Hp σ rP [((U.op yu.length 0),(Ct.b (dS gB.action)))]at uy;refine aj rP e33<|aj _ rfl ?_;refine aL (λgI:Int=>(η gI)) (λgI DJ=>(dX (aab DJ))) (λgI DJ=>?_);refine aj _ rfl<|aj _ (dX (gr gB.bz 0 (ε.wrap (gI-1)) rP))<|aj _ rfl<|aj _ (dX (qc (!(aI gB.bz 0 (ε.wrap (gI-1)))) 1 rP))<|aj _ rfl<|bl (η gB.bz) (λhg=>rfl)<|bl (sl 6 cE a2) (λhg=>rfl)<|bl (η (rD:Int)) (λhg=>rfl)<|bl (η (ε.wrap ((rD:Int) -1))) (λhg=>by(try rw[hg]);exact rfl) ?_;refine mC (ω:=cV) (λeR=>(YH (cE eR))) (λhg eR Vt=>by(try rw[hg]);exact kq Vt) (λeR Vt=>?_);refine bl (YH (cE eR)) (λhg=>by(try rw[hg]);exact rfl)<|bl (η eR.bz) (λhg=>by(try rw[hg]);exact rfl)<|bl (ψ (decide (gB.bz<eR.bz))) (λhg=>by(try rw[hg]);exact rfl)<|aj _ (ga _ _)<|aj _ (dX (qc ((decide (0<(rD:Int)))&&(decide (gB.bz<eR.bz))) 7 rP))<|aj (sl 1 sJ ([(if(!(aI gB.bz 0 (ε.wrap (gI-1))))=θ then 1 else 0),(if((decide (0<(rD:Int)))&&(decide (gB.bz<eR.bz)))=θ then 7 else 0)]:(List Int))) rfl ?_;refine aL (λmT:Int=>(η mT)) (λmT Vf=>(dX ((eP (e:=λr:Int=>((η r),rP)) (λhs=>yQ ([(if(!(aI gB.bz 0 (ε.wrap (gI-1))))=θ then 1 else 0),(if((decide (0<(rD:Int)))&&(decide (gB.bz<eR.bz)))=θ then 7 else 0)]:(List Int)) hs rP)) Vf))) (λmT Vf=>?_);refine aj _ (by rw[Df uy 0 rfl];rfl) ?_;refine aL (λgJ:Int=>(η gJ)) (λgJ Vg=>(dX (akF Vg))) (λgJ Vg=>?_);refine aj _ rfl<|aj _ (by rw[Df uy 0 rfl];rfl)<|aj _ (fI _ _ _)<|aj _ (dX (qc (decide (¬(gB.action.time=0))) 3 rP))<|aj _ rfl<|aj _ (by rw[Df uy 0 rfl];rfl) ?_;refine aL (λkS:Int=>(η kS)) (λkS Vh=>(dX (ajC Vh))) (λkS Vh=>?_);refine aj (sl 1 sJ ([mT,gJ,(if(decide (¬(gB.action.time=0)))=θ then 3 else 0),kS]:(List Int))) rfl ?_;refine aL (λoh:Int=>(η oh)) (λoh Vi=>(dX ((eP (e:=λr:Int=>((η r),rP)) (λhs=>yQ ([mT,gJ,(if(decide (¬(gB.action.time=0)))=θ then 3 else 0),kS]:(List Int)) hs rP)) Vi))) (λoh Vi=>?_);refine aj _ (fI _ _ _) ?_;refine bR (p:=¬(oh=0)) (λsU=>?_) (λsU=>?_)
  ·exact aS (eM (by simp) ⟨_,_,_,rfl,(C4 uy)⟩)
  refine aj _ rfl<|aj _ (by rw[Df uy 0 rfl];rfl)<|aj _ (cM _ _ _)<|bl (n9 (dQ a0)) (λhg=>rfl)<|bl (U.op yu.length 2) (λhg=>rfl)<|bl (η gB.action.bB) (λhg=>by(try rw[hg]);(try simp only[bG]);exact(by rw[Df uy 0 rfl];rfl)) ?_;refine mC (ω:=(List cr)) (λqD=>(sl 11 dY qD)) (λhg qD Vj=>by(try rw[hg]);exact(dX (Yt Vj))) (λqD Vj=>?_);refine bl (U.fn 157 [(U.op yu.length 0)]) (λhg=>rfl) ?_;refine mC (ω:=Bool) (λrI=>(ψ rI)) (λhg rI Vk=>by(try rw[hg]);exact(dX ((eP (e:=λr:Bool=>((ψ r),rP)) (λhs=>WT _ qD hs _ _ (λx=>(decide (x.aH=gB.action.gf))) rP (λx hx=>ad6 uy 0 rfl (aaV _) (Mu (SR _)) rfl rfl (aj9 (σ:=[]) (r:=(decide (x.aH=gB.action.gf))) rfl)))) Vk))) (λrI Vk=>?_);refine bl (ψ (!rI)) (λhg=>by(try rw[hg]);exact rfl)<|aj _ (ga _ _) ?_;refine cR (c:=((decide (gB.action.kind=3))&&(!rI))) (λzF=>?_) (λzF=>?_)
  ·exact aS (eM (by simp) ⟨_,_,_,rfl,(C4 uy)⟩)
  refine aj _ (mA Ns agi) ?_;exact aS (ke ⟨rfl,(aeA uy 0)⟩)
 ·intro hl ym v yu hI;obtain⟨rfl,NB⟩:=hI;refine aj _ (mw _)<|mJ ?_;exact aS ⟨by simp,⟨_,_,_,_,rfl,NB⟩⟩
 ·intro hl zz q hq;obtain⟨u3,u6,ES,Ai,rfl,NC⟩:=hq;refine fF rfl ?_;exact aN _ (Dg NC (Hf (dN _ _))) ⟨rfl,rfl⟩
 ·intro hl zz q hq;obtain⟨u3,ES,Ai,rfl,NC⟩:=hq;refine nH rfl<|fF rfl ?_;exact aN _ (Dg NC (Hf (dN _ _))) ⟨rfl,rfl⟩
def Cb (a0:(List cV)) (a1:(List cV)):Option Bool:=
 if ¬((a0.length:Int)=(a1.length:Int))then
  δ ξ
 else
 iB a0 (λ(i8:Nat)e7(s1:Unit)=>(show Option (Lr Unit Unit Unit)from
   (eL a1 (i8:Int)).bind λx9=>
   if ¬(e7=x9)then
    δ (.ret ())
   else
   δ (.go ()))) (λs1=>δ ()) () (λb2=>
  δ θ) (λb2=>
  δ ξ)
theorem ajM{a0:(List cV)}{a1:(List cV)}{σ:Heap}{r:Bool}(h:Cb a0 a1=δ r):yx [(sl 6 cE a0),(sl 6 cE a1)] σ=δ ((ψ r),σ):=by
 refine iJ (f:=IW) (y0:=(sl 6 cE a0)) (y1:=(sl 6 cE a1)) (enc:=λr:Bool=>(ψ r)) (T:=Cb a0 a1) rfl rfl ?_ r h;unfold IW Cb;refine aj _ (fu _ _ _)<|aj _ (fu _ _ _)<|aj _ (fI _ _ _) ?_;refine bR (p:=¬((a0.length:Int)=(a1.length:Int))) (λiY=>?_) (λiY=>?_)
 ·exact aN _ (aO _ _) ⟨rfl,rfl⟩
 refine aj _ (fu _ _ _) ?_;refine mB (B:=Unit) (R:=Unit) (λ(i8:Nat)(s1:Unit)v w3=>v=[bw,(η (i8:Int))]/\σ=w3) (λ(b2:Unit)(q:LS)=>∃u4 tD,q=((eN 0),([u4,tD]:au),σ)) (λ(b2:Unit)(q:LS)=>∃tD,q=(i7,([bw,tD]:au),σ)) ?_ ?_ ⟨rfl,rfl⟩ ?_ ?_
 ·intro vT i8 e7 s1 v w3 lg hI;obtain⟨rfl,rfl⟩:=hI;refine aj _ (mH lg)<|mK<|aj _ (mz lg)<|aj _ rfl ?_;refine aL (λx9:cV=>(YH (cE x9))) (λx9 jB=>kq jB) (λx9 jB=>?_);refine aj _ rfl<|aj _ (adx _ _) ?_;refine bR (p:=¬(e7=x9)) (λfC=>?_) (λfC=>?_)
  ·exact aS (eM (by simp) ⟨_,rfl⟩)
  refine aj _ (mA lg vT) ?_;exact aS (ke ⟨rfl,rfl⟩)
 ·intro hl s1 v w3 hI;obtain⟨rfl,rfl⟩:=hI;refine aj _ (mw _)<|mJ ?_;exact aS ⟨by simp,⟨_,_,rfl⟩⟩
 ·intro hl b2 q hq;obtain⟨u4,tD,rfl⟩:=hq;refine fF rfl ?_;exact aN _ (aO _ _) ⟨rfl,rfl⟩
 ·intro hl b2 q hq;obtain⟨tD,rfl⟩:=hq;refine nH rfl<|fF rfl ?_;exact aN _ (aO _ _) ⟨rfl,rfl⟩
end
section
section
variable {α γ R S B : Type}
theorem Q9{q:α->Option R}{l:List α}{body:Nat->α->Unit->Option (Lr Unit Unit R)}{fin:Unit->Option Unit}{s:Unit}{K1:Unit->Option γ}{K2:R->Option γ}(hl:l.length<=bu)(hb:∀i x,l[i]? =δ x->body i x ()=δ (match q x with|some r=>.ret r|none=>.go ()))(hf:fin ()=δ ():=by rfl):iB l body fin s K1 K2=match l.findSome? q with|some r=>K2 r|none=>K1 ():=by
 rw[xh hl]
 have key:∀(rest pre:List α),l=pre++rest->gz body fin rest pre.length ()=δ (match rest.findSome? q with|some r=>.inr r|none=>.inl ()):=by
  intro rest;induction rest with
  |nil=>intro pre _;simp [gz,hf]
  |cons x rest ih=>
   intro pre hp;rw[gz,hb pre.length x (by rw[hp];simp),aA,ald];cases h:q x
   ·have:=ih (pre++[x]) (by simpa using hp);simpa using this
   ·simp only
 have k:=key l [] rfl;rw[AV]at k;rw[show s=()from rfl,k,aA];cases l.findSome? q<;>rfl
end
end
def cntF(r:Int):Int:=if r=24 then 24 else if r=25 then 25 else if r=30 then 30 else if r=29 then 30 else 0
def zc(r:Int):Int:=if cntF r=0 then 16 else 0
def DC(r:Int):Int:=if r=29 then 2589408 else 86400*cntF r
theorem Hh(r:Int):rW r=δ (zc r):=by
 unfold rW Cr zc cntF;by_cases h1:r=24
 ·subst h1;rfl
 by_cases h2:r=25
 ·subst h2;rfl
 by_cases h3:r=30
 ·subst h3;rfl
 by_cases h4:r=29
 ·subst h4;rfl
 simp [h1,h2,h3,h4]
theorem abd{r:Int}(h:cntF r≠0):r=24\/r=25\/r=30\/r=29:=by
 unfold cntF at h;by_cases h1:r=24
 ·exact .inl h1
 by_cases h2:r=25
 ·exact .inr (.inl h2)
 by_cases h3:r=30
 ·exact .inr (.inr (.inl h3))
 by_cases h4:r=29
 ·exact .inr (.inr (.inr h4))
 simp [h1,h2,h3,h4]at h
theorem af9{r:Int}(h:cntF r≠0):CB r=δ (DC r):=by rcases abd h with rfl|rfl|rfl|rfl<;>rfl
def lD(a:bF):Int:=
 if(!(aI a.kind 1 9))=θ then 4
 else if(((((decide (a.kind=8))||(decide (a.kind=9)))&&(decide (¬(a.bB=0))))||((decide (¬(a.kind=3)))&&(decide (¬(a.gf=0)))))||((decide (¬(6<=a.kind)))&&(decide (¬(a.level=0)))))=θ then 3 else 0
theorem YO(a:bF):Aw a=δ (lD a):=by
 unfold Aw lD;by_cases h:aI a.kind 1 9=θ;case neg=>simp [h]
 have hk:1<=a.kind/\a.kind<=9:=by simpa [aI]using h
 have e:(!((((decide (a.kind=8))||(decide (a.kind=9)))||(decide (a.kind=6)))||(decide (a.kind=7))))=decide (¬(6<=a.kind)):=by rw[iX];simp only[p9,iW,decide_eq_false_iff_not,decide_eq_true_eq];omega
 simp only[h,n8,Φ,if_false,e,LP]
def yJ(a:bF):Int:=
 if(((decide (a.kind=7))||(decide (a.kind=8)))&&(!(aI a.level 0 65535)))=θ then 1
 else if((decide (a.kind=6))&&(!(aI a.level 0 36000000)))=θ then 1
 else if((decide (a.kind=9))&&(!(aI a.level 0 1)))=θ then 1 else 0
def sx(s:dM)(n:Int):Bool:=s.gF.any λx=>decide (x.aH=n)
def MY(k:Int):Int:=if k=6 then 36000000 else if k=9 then 1 else 65535
def GF(s:dM)(a:bF):Int:=
 if(!((decide (a.kind=8))||(decide (a.kind=9)))&&!sx s a.bB)=θ then 8 else if(!(aI a.level 0 (MY a.kind)))=θ then 1 else 0
theorem YP(s:dM)(hs:s.gF.length<=bu)(a:bF):Ax s a=δ (GF s a):=by
 unfold Ax GF;rw[cX hs];simp only[Gc]
 have e:(!(decide (a.kind=8)||decide (a.kind=9))&&!(if(!(decide (a.kind=8)||decide (a.kind=9)))=θ then s.gF.any (λx=>decide (x.aH=a.bB))else(default:Bool)))=(!(decide (a.kind=8)||decide (a.kind=9))&&!sx s a.bB):=by cases decide (a.kind=8)||decide (a.kind=9)<;>rfl
 rw[e];split
 ·rfl
 unfold MY;by_cases h6:a.kind=6
 ·simp only[h6,if_true,aA,LP]
 ·by_cases h9:a.kind=9<;>simp [h6,h9]
def CE(s:dM)(n:Int):jq×Bool:=match s.gF.find? λx=>decide (x.aH=n)with|some x=>(x,θ)|none=>(⟨0,0,0⟩,ξ)
theorem akp(s:dM)(n:Int):(CE s n).2=sx s n:=by
 unfold CE sx;cases h:s.gF.find? λx=>decide (x.aH=n)with
 |none=>symm;rw[Bool.eq_false_iff];intro k;obtain⟨x,hx,hp⟩:=WJ.1 k;have:=aln.1 h x hx;exact this hp
 |some x=>symm;have hx:=alM h;exact WJ.2 ⟨x,BE h,by simpa using hx⟩
def Bw(s:dM)(n:Int):List cr:=(qV s.dK (CE s n).1.list).1.kO
theorem aay{s:dM}(h:mD s=0):∀p∈s.gF,(qV s.dK p.list).2=θ:=by
 intro p hp;unfold mD at h;by_cases h0:pY s.qJ s.gu=0;case neg=>rw[aE h0]at h;exact absurd h h0
 by_cases h1:30<(s.dK.length:Int)
 ·simp [h0,h1]at h
 by_cases h2:fV (yW s) s.dK 0=0;case neg=>simp [h0,h1,h2]at h
 by_cases h3:40<(s.gF.length:Int)
 ·simp [h0,h1,h2,h3]at h
 simp only[h0,h1,h2,h3,not_true_eq_false,if_false]at h;obtain⟨i,hi⟩:=Dv.1 hp;have:=(yL _ _).1 h i p hi;unfold Ds at this;cases hl:(qV s.dK p.list).2
 ·rw[hl]at this;split at this
  ·cases this
  split at this
  ·cases this
  simp at this
 ·rfl
theorem ac6(s:dM)(h1:s.gF.length<=bu)(h2:s.dK.length<=bu)(n:Int)(h:mD s=0)(hp:sx s n=θ):AG s n=δ (Bw s n):=by
 unfold AG;rw[Q9 (q:=λe=>s.dK.findSome? λx=>if e.aH=n/\x.aH=e.list then δ x.kO else μ) h1 ?_]
 ·rw[<-akp]at hp;unfold Bw;have hex:=aay h;unfold CE at hp ⊢;cases hf:s.gF.find? λx=>decide (x.aH=n)with
  |none=>rw[hf]at hp;cases hp
  |some p=>
   simp only
   have key:∀(l:List jq),(∀x∈l,(qV s.dK x.list).2=θ)->l.find? (λx=>decide (x.aH=n))=δ p->(l.findSome? λe=>s.dK.findSome? λx=>if e.aH=n/\x.aH=e.list then δ x.kO else μ)=δ (qV s.dK p.list).1.kO:=by
    intro l;induction l with
    |nil=>intro _ h;cases h
    |cons x l ih=>
     intro hex hf;rw[al7]at hf;rw[ald];by_cases hx:x.aH=n
     ·simp only[hx,decide_true]at hf;injection hf with hf
      subst hf;have hl:=hex x (by simp);unfold qV at hl ⊢
      have inner:∀(m:List gX),(m.findSome? λy=>if x.aH=n/\y.aH=x.list then δ y.kO else μ)=(m.find? λy=>decide (y.aH=x.list)).map (·.kO):=by
       intro m;induction m with
       |nil=>rfl
       |cons y m ihm=>
        rw[ald,al7];by_cases hy:y.aH=x.list
        ·simp [hx,hy]
        ·simp only[hy,and_false,if_false,decide_false];exact ihm
      rw[inner];cases hq:s.dK.find? λy=>decide (y.aH=x.list)with
      |none=>rw[hq]at hl;cases hl
      |some y=>rfl
     ·have e:(s.dK.findSome? λy=>if x.aH=n/\y.aH=x.list then δ y.kO else μ)=μ:=by rw[List.findSome?_eq_none_iff];intro y _;simp [hx]
      rw[e];simp only[hx,decide_false]at hf;exact ih (λy hy=>hex y (by simp [hy])) hf
   rw[key s.gF hex hf]
 ·intro i e he;rw[Q9 (q:=λx=>if e.aH=n/\x.aH=e.list then δ x.kO else μ) h2 ?_]
  ·cases s.dK.findSome? λx=>if e.aH=n/\x.aH=e.list then δ x.kO else μ<;>rfl
  ·intro j x hx;by_cases h1:e.aH=n<;>by_cases h2:x.aH=e.list<;>simp [h1,h2]
def MU(s:dM)(a:bF):Bool:=(Bw s a.bB).any λc=>decide (c.aH=a.gf)
def Dx(s:dM)(a:bF):Int:=
 if lD a=4 then lD a
 else if((decide (¬(lD a=0)))||(decide (¬(a.time=0))))=θ then 3
 else if((decide (a.kind<8))&&(!sx s a.bB))=θ then 8
 else if ¬(yJ a=0)then yJ a
 else if a.kind=3 then(if MU s a=θ then 0 else 8)else 0
theorem aa1{s:dM}(hs:eB MC s.dK)(n:Int):(qV s.dK n).1.kO.length<=bu:=by
 unfold qV;cases h:s.dK.find? λx=>decide (x.aH=n)with
 |none=>exact ur _
 |some x=>exact(hs.2 x (BE h)).2.1
theorem act_eq(s:dM)(a:bF):(if ¬(lD a=0)then lD a else if ¬((if decide (¬(a.time=0))=θ then(3:Int)else 0)=0)then(if decide (¬(a.time=0))=θ then(3:Int)else 0)else GF s a)=if lD a=4 then lD a
 else if((decide (¬(lD a=0)))||(decide (¬(a.time=0))))=θ then 3
 else if((decide (a.kind<8))&&(!sx s a.bB))=θ then 8
 else if ¬(yJ a=0)then yJ a else 0:=by
 have hf:lD a=4\/lD a=3\/lD a=0:=by
  unfold lD;split
  ·exact .inl rfl
  split
  ·exact .inr (.inl rfl)
  ·exact .inr (.inr rfl)
 rcases hf with h|h|h
 ·simp [h]
 ·simp [h]
 by_cases ht:a.time=0;case neg=>simp [h,ht]
 simp only[h,ht,not_true_eq_false,if_false,decide_false,Φ,XN,show ¬((0:Int)=4) by decide];unfold lD at h;split at h
 ·cases h
 rename_i hk;split at h
 ·cases h
 rename_i hz;have hk':1<=a.kind/\a.kind<=9:=by simpa [aI]using hk
 have e8:(!(decide (a.kind=8)||decide (a.kind=9)))=decide (a.kind<8):=by rw[iX];simp only[p9,iW,decide_eq_false_iff_not,decide_eq_true_eq];omega
 unfold GF;rw[e8];split
 ·rfl
 have ahd:a.kind<6->a.level=0:=by intro hlt;simp only[YW,dr,decide_eq_true_eq,not_or,not_and,YK]at hz;exact hz.2 (by omega)
 unfold yJ MY;rcases(show a.kind<6\/a.kind=6\/a.kind=7\/a.kind=8\/a.kind=9 by omega)with q|q|q|q|q
 ·rw[ahd q];have e1:¬a.kind=6:=by omega
  have e2:¬a.kind=7:=by omega
  have e3:¬a.kind=8:=by omega
  have e4:¬a.kind=9:=by omega
  simp [e1,e2,e3,e4,aI]
 ·simp only[q];cases hw:aI a.level 0 36000000<;>simp [hw]
 ·simp only[q];cases hw:aI a.level 0 65535<;>simp [hw]
 ·simp only[q];cases hw:aI a.level 0 65535<;>simp [hw]
 ·simp only[q];cases hw:aI a.level 0 1<;>simp [hw]
def G9(s:dM)(d:Int)(l:List cV)(i:Nat)(e:cV):Int:=
 if(!(aI e.bz 0 (ε.wrap (d-1))))=θ then 1
 else if(decide (0<(i:Int))&&decide (e.bz<(pv l i).bz))=θ then 7
 else if ¬(Dx s e.action=0)then Dx s e.action else 0
def oI(s:dM)(r:Int)(l:List cV):Int:=
 if ¬(mD s=0)then mD s else if cntF r=0 then 16 else if 2000<(l.length:Int)then 2 else fV (G9 s (DC r) l) l 0
theorem agb{a b c d:Int}:(([a,b,c,d]:List Int).find? λn=>decide (¬n=0)).getD 0=if ¬(a=0)then a else if ¬(b=0)then b else if ¬(c=0)then c else d:=by
 by_cases ha:a=0
 ·by_cases hb:b=0
  ·by_cases hc:c=0
   ·by_cases hd:d=0<;>simp [ha,hb,hc,hd,WX]
   ·simp [ha,hb,hc,WX]
  ·simp [ha,hb,WX]
 ·simp [ha,WX]
theorem J1(s:dM)(hs:tX s)(r:Int)(l:List cV)(hl:l.length<=bu):yz s r l=δ (oI s r l):=by
 obtain⟨_,_,Wj,hb⟩:=id hs;unfold yz oI;simp only[Kg s hs,Hh,aA];rw[cX (by show 3<=bu;unfold bu;omega)];simp only[Uq,aA];by_cases h0:mD s=0;case neg=>simp [h0]
 by_cases h1:cntF r=0
 ·simp [h0,zc,h1]
 have hm:zc r=0:=by simp [zc,h1]
 by_cases h2:2000<(l.length:Int)
 ·simp [h0,h1,hm,h2]
 simp only[h0,h1,hm,h2,not_true_eq_false,if_false,decide_false,Φ];rw[wZ (f:=G9 s (DC r) l) hl ?_]
 ·split
  ·rename_i h;rw[h]
  ·rfl
 intro i e he;simp only[af9 h1,aA,yS he hl];rw[cX (by show 2<=bu;unfold bu;omega)];simp only[Hw,aA,YO,YP s hb.1];rw[cX (by show 4<=bu;unfold bu;omega)];simp only[agb,aA,act_eq];unfold G9;by_cases c1:aI e.bz 0 (ε.wrap (DC r-1))=θ;case neg=>simp [c1]
 by_cases c2:(decide (0<(i:Int))&&decide (e.bz<(pv l i).bz))=θ
 ·simp only[c1,c2,n8,Φ,if_false,if_true,not_true_eq_false,not_false_eq_true,show ¬((7:Int)=0) by decide]
 simp only[c1,c2,n8,Φ,if_false,not_true_eq_false];unfold Dx;generalize (decide (¬(lD e.action=0))||decide (¬(e.action.time=0)))=b1;generalize yc:(decide (e.action.kind<8)&&!sx s e.action.bB)=b2;by_cases d1:lD e.action=4
 ·simp [d1]
 cases b1;case true=>simp [d1]
 cases b2;case true=>simp [d1]
 by_cases d4:yJ e.action=0;case neg=>simp [d1,d4]
 simp only[d1,d4,not_true_eq_false,if_false,if_true,Φ];by_cases d5:e.action.kind=3;case neg=>simp [d5]
 have hp:sx s e.action.bB=θ:=by rw[d5]at yc;simpa using yc
 have hcl:(Bw s e.action.bB).length<=bu:=aa1 Wj _;simp only[d5,decide_true,if_true,ac6 s hb.1 Wj.1 _ h0 hp,aA,cX hcl,Zr];show(if(!MU s e.action)=θ then _ else _)=_;cases MU s e.action<;>simp
theorem Qi{s:dM}{r:Int}{l:List cV}(h:oI s r l=0):l.length<=2000/\cntF r≠0/\mD s=0:=by
 unfold oI at h;by_cases h0:mD s=0;case neg=>rw[aE h0]at h;exact absurd h h0
 by_cases h1:cntF r=0
 ·simp [h0,h1]at h
 by_cases h2:2000<(l.length:Int)
 ·simp [h0,h1,h2]at h
 exact⟨by omega,h1,h0⟩
theorem acP(l:List cV)(hl:l.length<=bu):Cb l l=δ θ:=by
 unfold Cb;simp only[not_true_eq_false,if_false];rw[Q7 (p:=λ_=>ξ) (r:=λ_=>()) hl ?_]
 ·have:l.find? (λ_=>ξ)=μ:=by simp
  rw[this]
 ·intro i x hx;have hi:=(cL.1 hx).1;rw[Mm (x:=x) (by omega) (by simpa using hx)];simp
section
def HP:=(Nat->Option bH)->Prop
namespace HP
def emp:HP:=λh=>∀i,h i=μ
def blk(id:Nat)(b:bH):HP:=λh=>∀i,h i=if i=id then δ b else μ
def star(P Q:HP):HP:=λh=>∃f g,P f/\Q g/\(∀i,f i=μ\/g i=μ)/\∀i,h i=(f i).or (g i)
def pr(p:Prop):HP:=λh=>p/\∀i,h i=μ
instance : Mul HP := ⟨star⟩
theorem RG(P Q:HP):P*Q=Q*P:=by
 have key:∀P Q:HP,∀h,(P*Q) h->(Q*P) h:=by rintro P Q h ⟨f,g,hf,hg,hd,hh⟩;refine⟨g,f,hg,hf,λi=>(hd i).symm,λi=>?_⟩;rw[hh i];rcases hd i with e|e<;>rw[e]<;>simp
 funext h;exact propext ⟨key P Q h,key Q P h⟩
theorem CF(P Q R:HP):P*Q*R=P*(Q*R):=by
 funext h;apply propext;constructor
 ·rintro⟨f,g,⟨f1,f2,h1,h2,Oq,hf⟩,hg,hd,hh⟩;refine⟨f1,λi=>(f2 i).or (g i),h1,⟨f2,g,h2,hg,λi=>?_,λi=>rfl⟩,λi=>?_,λi=>?_⟩
  ·have:=hd i;rw[hf i]at this;rcases this with e|e
   ·cases h:f1 i<;>simp [h]at e<;>exact .inl e
   ·exact .inr e
  ·have a:=hd i;have b:=Oq i;rw[hf i]at a;rcases b with b|b
   ·exact .inl b
   ·rcases a with a|a
    ·cases h:f1 i<;>simp [h]at a;exact .inl rfl
    ·exact .inr (show(f2 i).or (g i)=μ by rw[b,a];rfl)
  ·rw[hh i,hf i];cases f1 i<;>simp
 ·rintro⟨f,g,hf,⟨g1,g2,h1,h2,Oq,hg⟩,hd,hh⟩;refine⟨λi=>(f i).or (g1 i),g2,⟨f,g1,hf,h1,λi=>?_,λi=>rfl⟩,h2,λi=>?_,λi=>?_⟩
  ·have:=hd i;rw[hg i]at this;rcases this with e|e
   ·exact .inl e
   ·cases h:g1 i<;>simp [h]at e;exact .inr rfl
  ·have a:=hd i;have b:=Oq i;rw[hg i]at a;rcases b with b|b
   ·rcases a with a|a
    ·exact .inl (show(f i).or (g1 i)=μ by rw[a,b];rfl)
    ·rw[b]at a;exact .inr (by simpa using a)
   ·exact .inr b
  ·show h i=((f i).or (g1 i)).or (g2 i);rw[hh i,hg i];cases f i<;>simp
theorem A3(P:HP):emp*P=P:=by
 funext h;apply propext;constructor
 ·rintro⟨f,g,hf,hg,hd,hh⟩;have:h=g:=by funext i;rw[hh i,hf i];rfl
  rw[this];exact hg
 ·intro hp;exact⟨λ_=>μ,h,λ_=>rfl,hp,λ_=>.inl rfl,λi=>by simp⟩
instance : Std.Associative (α := HP) (· * ·) := ⟨CF⟩
instance : Std.Commutative (α := HP) (· * ·) := ⟨RG⟩
end HP
open HP
structure Hs (B : bH -> Prop) (aP σ : Heap) (P : HP) : Prop where
 pre:∃bs,σ=aP++bs/\∀b∈bs,B b
 own:∃h,P h/\∀i b,h i=δ b->aP.length<=i/\σ[i]? =δ b
def vP:bH->Prop:=λ_=>True
section
variable {B : bH -> Prop} {aP σ : Heap} {P Q R : HP} {id : Nat} {b b' : bH}
theorem qY(e:P=Q)(H:Hs B aP σ P):Hs B aP σ Q:=e▸H
theorem SW(k:∀h,P h->Q h)(H:Hs B aP σ (P*R)):Hs B aP σ (Q*R):=by obtain⟨h1,h,⟨f,g,hf,hg,hd,hh⟩,h2⟩:=H;exact⟨h1,h,⟨f,g,k f hf,hg,hd,hh⟩,h2⟩
theorem Bg(H:Hs B aP σ (P*R)):Hs B aP σ R:=by
 obtain⟨h1,h,⟨f,g,hf,hg,hd,hh⟩,h2⟩:=H;refine⟨h1,g,hg,λi b hb=>h2 i b ?_⟩;rw[hh i];rcases hd i with e|e
 ·rw[e,hb];rfl
 ·rw[e]at hb;cases hb
theorem ado(H:Hs B aP σ (P*R)):Hs B aP σ P:=Bg (qY (RG _ _) H)
theorem TF(H:Hs B aP σ P):Hs B aP σ emp:=ado (P:=emp) (qY (A3 P).symm H)
theorem Bz{p:Prop}:Hs B aP σ (pr p*R)↔p/\Hs B aP σ R:=by
 constructor
 ·intro H;refine⟨?_,Bg H⟩;obtain⟨h1,h,⟨f,g,hf,hg,hd,hh⟩,h2⟩:=H;exact hf.1
 ·rintro⟨hp,h1,h,hr,h2⟩;exact⟨h1,h,⟨λ_=>μ,h,⟨hp,λ_=>rfl⟩,hr,λ_=>.inl rfl,λi=>by simp⟩,h2⟩
theorem afD(σ:Heap):Hs B σ σ emp:=⟨⟨[],by simp,by simp⟩,λ_=>μ,λ_=>rfl,λ_ _ h=>by cases h⟩
theorem afB(H:Hs B aP σ P):aP.length<=σ.length:=by obtain⟨⟨bs,rfl,_⟩,_⟩:=H;simp
theorem Dh(H:Hs B aP σ (blk id b*R)):aP.length<=id/\σ[id]? =δ b:=by obtain⟨h1,h,⟨f,g,hf,hg,hd,hh⟩,h2⟩:=H;exact h2 id b (by rw[hh id,hf id];simp)
theorem ahk(H:Hs B aP σ (blk id b*R)):B b:=by obtain⟨h1,h2⟩:=Dh H;obtain⟨⟨bs,rfl,hb⟩,_⟩:=H;rw[jL h1]at h2;exact hb b (cZ h2)
theorem afE(H:Hs B aP σ (blk id b*R))(hb:B b'):Hs B aP (σ.set id b') (blk id b'*R):=by
 obtain⟨hid,jx⟩:=Dh H;have hlt:=(cL.1 jx).1;obtain⟨⟨bs,rfl,hB⟩,h,⟨f,g,hf,hg,hd,hh⟩,h2⟩:=H;refine⟨⟨bs.set (id-aP.length) b',by rw[BD _ _ hid],λx hx=>?_⟩,λi=>if i=id then δ b' else g i,⟨λi=>if i=id then δ b' else μ,g,λi=>rfl,hg,λi=>?_,λi=>?_⟩,λi x hx=>?_⟩
 ·rcases List.mem_or_eq_of_mem_set hx with hx|hx
  ·exact hB x hx
  ·subst hx;exact hb
 ·have:=hd i;rw[hf i]at this;by_cases e:i=id
  ·simp only[e,if_true]at this ⊢;rcases this with h|h
   ·cases h
   ·exact .inr h
  ·simp [e]
 ·by_cases e:i=id<;>simp [e]
 ·by_cases e:i=id
  ·subst e;simp only[if_true,χ]at hx;subst hx;exact⟨hid,by rw[vM hlt]⟩
  ·simp only[e,if_false]at hx;rw[W1 (λe'=>e e'.symm)];have:=h2 i x (by rw[hh i,hf i];simp [e,hx]);exact this
theorem afC(H:Hs B aP σ R)(hb:B b):Hs B aP (σ++[b]) (blk σ.length b*R):=by
 have hl:=afB H;obtain⟨⟨bs,rfl,hB⟩,h,hr,h2⟩:=H;have hn:∀i x,h i=δ x->i<(aP++bs).length:=λi x hx=>(cL.1 (h2 i x hx).2).1
 refine⟨⟨bs++[b],by simp,λx hx=>?_⟩,λi=>if i=(aP++bs).length then δ b else h i,⟨λi=>if i=(aP++bs).length then δ b else μ,h,λi=>rfl,hr,λi=>?_,λi=>?_⟩,λi x hx=>?_⟩
 ·rcases gV.1 hx with hx|hx
  ·exact hB x hx
  ·simp at hx;subst hx;exact hb
 ·by_cases e:i=(aP++bs).length
  ·right;cases hi:h i with
   |none=>rfl
   |some x=>have:=hn i x hi;omega
  ·simp only[e,if_false,true_or]
 ·by_cases e:i=(aP++bs).length<;>simp only[e,if_true,if_false,Option.or_some,Option.none_or,Option.some_or]
 ·by_cases e:i=(aP++bs).length
  ·subst e;simp only[if_true,χ]at hx;subst hx;exact⟨hl,by simp⟩
  ·simp only[e,if_false]at hx;obtain⟨k1,k2⟩:=h2 i x hx;exact⟨k1,by rw[iV (hn i x hx)];exact k2⟩
end
section
variable {α : Type} {E : au -> α -> HP} {B : bH -> Prop} {aP σ : Heap} {R : HP}
def els(E:au->α->HP):List au->List α->HP
 |[],[]=>emp
 |e::es,x::l=>E e x*els E es l
 |_,_=>pr False
theorem GQ:∀{es:List au}{l:List α}{R:HP},Hs B aP σ (els E es l*R)->es.length=l.length
 |[],[],_,_=>rfl
 |[],_::_,_,H=>(Bz.1 H).1.elim
 |_::_,[],_,H=>(Bz.1 H).1.elim
 |e::es,x::l,R,H=>by have:=GQ (es:=es) (l:=l) (R:=E e x*R) (qY (by rw[els];ac_rfl) H);simp [this]
theorem SH:∀{sW BQ:List au}{l1 l2:List α},sW.length=l1.length->els E (sW++BQ) (l1++l2)=els E sW l1*els E BQ l2
 |[],BQ,[],l2,_=>by rw[els,A3];rfl
 |e::sW,BQ,x::l1,l2,h=>by simp only[kN,els];rw[SH (by simpa using h)];ac_rfl
def fl(c:α->au):au->α->HP:=λe x=>pr (e=c x)
theorem Tx{c:α->au}:∀{es:List au}{l:List α}{R:HP},Hs B aP σ (els (fl c) es l*R)↔es=l.map c/\Hs B aP σ R
 |[],[],R=>by rw[els,A3];simp
 |[],x::l,R=>by show Hs B aP σ (pr False*R)↔_;rw[Bz];simp
 |e::es,[],R=>by show Hs B aP σ (pr False*R)↔_;rw[Bz];simp
 |e::es,x::l,R=>by rw[els,fl,CF,Bz,Tx,fH,ZX,and_assoc]
def Sl(E:au->α->HP)(sz:Nat)(v:U)(l:List α):HP:=λh=>(l=[]/\(v=.bA\/v=.ez)/\emp h)\/∃id g seg,v=.os id g sz 0 l.length/\(blk id (.arr g sz seg)*els E seg l) h
variable {sz : Nat} {v : U} {l : List α}
theorem Sr(H:Hs B aP σ (Sl E sz v l*R)):(l=[]/\(v=.bA\/v=.ez)/\Hs B aP σ R)\/∃id g seg,v=.os id g sz 0 l.length/\seg.length=l.length/\Hs B aP σ (blk id (.arr g sz seg)*(els E seg l*R)):=by
 have H2:=Bg H;obtain⟨h1,h,⟨f,g,hf,hg,hd,hh⟩,h2⟩:=H;rcases hf with⟨k1,k2,k3⟩|⟨id,gg,seg,k1,k2⟩
 ·exact .inl ⟨k1,k2,H2⟩
 ·have K:Hs B aP σ (blk id (.arr gg sz seg)*(els E seg l*R)):=qY (CF _ _ _) ⟨h1,h,⟨f,g,k2,hg,hd,hh⟩,h2⟩;exact .inr ⟨id,gg,seg,k1,GQ (R:=blk id (.arr gg sz seg)*R) (qY (by ac_rfl) K),K⟩
theorem Wy(H:Hs B aP σ R)(hv:v=.bA\/v=.ez):Hs B aP σ (Sl E sz v []*R):=
 SW (P:=emp) (λh k=>.inl ⟨rfl,hv,k⟩) (qY (A3 R).symm H)
theorem M3{id g:Nat}{seg:List au}{n:Nat}(H:Hs B aP σ (blk id (.arr g sz seg)*(els E seg l*R)))(hn:n=l.length:=by rfl):Hs B aP σ (Sl E sz (.os id g sz 0 n) l*R):=
 SW (P:=blk id (.arr g sz seg)*els E seg l) (λh k=>.inr ⟨id,g,seg,by rw[hn],k⟩) (qY (CF _ _ _).symm H)
theorem afW{ys:List au}{xs:List α}{most:Nat}(H:Hs B aP σ (Sl E sz v l*(els E ys xs*R)))(hm:l.length+xs.length<=most)(hB:∀g g' seg,(seg=[]\/B (.arr g sz seg))->B (.arr g' sz (seg++ys))):
  ∃v' σ',Z9 sz most v (.sl sz ys) σ=δ (v',σ')/\Hs B aP σ' (Sl E sz v' (l++xs)*R):=by
 rcases Sr H with⟨rfl,hv,H⟩|⟨id,g,seg,rfl,hl,H⟩
 ·have hxl:=GQ H;by_cases hy:ys=[]
  ·subst hy;have:xs=[]:=ze (by simpa using hxl.symm);subst this;refine⟨v,σ,?_,Wy (Bg H) hv⟩;rcases hv with rfl|rfl<;>simp [Z9,ak8,A.qT]
  ·refine⟨.os σ.length ys.length sz 0 ys.length,σ++[.arr ys.length sz ys],?_,?_⟩
   ·have:ys.length<=most:=by simp at hm;omega
    rcases hv with rfl|rfl<;>simp [Z9,ak8,A.qT,hy,this]
   ·have H2:=afC H (by simpa using hB 0 ys.length [] (.inl rfl):B (.arr ys.length sz ys));exact M3 H2 (by simpa using hxl)
 ·have hxl:=GQ (qY (show _=els E ys xs*(blk id (.arr g sz seg)*(els E seg l*R)) by ac_rfl) H);obtain⟨h1,h2⟩:=Dh H;by_cases hy:ys=[]
  ·subst hy;have:xs=[]:=ze (by simpa using hxl.symm);subst this;refine⟨.os id g sz 0 l.length,σ,?_,?_⟩
   ·have:l.length<=most:=by simpa using hm
    simp [Z9,ak8,A.qT,h2,hl,this]
   ·rw[WQ];exact M3 (qY (by rw[els,A3]) H)
  ·have hp:0<ys.length:=List.length_pos_iff.2 hy;refine⟨.os id (g+ys.length) sz 0 (l.length+ys.length),σ.set id (.arr (g+ys.length) sz (seg++ys)),?_,?_⟩
   ·have e1:l.length+ys.length<=most:=by omega
    have e2:seg.take l.length=seg:=xF (by omega);simp [Z9,ak8,A.qT,h2,hl,e1,hy,e2,hp]
   ·have H2:=afE (b':=.arr (g+ys.length) sz (seg++ys)) H (hB g _ seg (.inr (ahk H)));exact M3 (id:=id) (g:=g+ys.length) (seg:=seg++ys) (qY (by rw[SH hl];ac_rfl) H2) (by simp;omega)
end
end
def VB(l:List kj):Prop:=l.Pairwise λa b=>rE a.key b.key=θ
structure Good (l : List cr) : Prop where
 len:l.length<=300
 num:∀c∈l,1<=c.aH/\c.aH<=9999999
 srt:l.Pairwise λa b=>a.aH<b.aH
 mv:∀c∈l,c.gU.length<=2000/\VB c.gU
 pts:∀c∈l,c.kn.cv.length<=20
section
structure aii (l : List cr) : Prop where
 len:l.length<=300
 num:∀c∈l,1<=c.aH/\c.aH<=9999999
 srt:l.Pairwise λa b=>a.aH<b.aH
section
variable {α R γ S B : Type}
end
end
section
open HP
def Lt(σ:Heap)(sh:Sh)(v t:U):Prop:=(∃v',Xz σ 0 8 v=δ v'/\akY v'=ξ/\Ya sh v'=Ya sh t)/\akY t=ξ/\(akY v=ξ->Ya sh v=Ya sh t)
def Ib(σ:Heap):List Sh->au->au->Prop
 |_,[],[]=>True
 |[],a::cy,t::ts=>Lt σ .k a t/\Ib σ [] cy ts
 |s::ss,a::cy,t::ts=>Lt σ s a t/\Ib σ ss cy ts
 |_,_,_=>False
theorem HW(v:U):Ya .k v=v:=by simp [Ya]
theorem OH{σ:Heap}:∀{ss:List Sh}{cy ts:au},Ib σ ss cy ts->(∃xI,Zw σ 0 8 cy=δ xI/\xI.any akY=ξ/\Zs ss xI=Zs ss ts)/\ts.any akY=ξ/\(cy.any akY=ξ->Zs ss cy=Zs ss ts)
 |ss,[],[],_=>⟨⟨[],by simp [Zw],rfl,rfl⟩,rfl,λ_=>rfl⟩
 |[],a::cy,t::ts,h=>by obtain⟨⟨⟨v',h1,h2,h3⟩,h4,h5⟩,h6⟩:=h;obtain⟨⟨xI,k1,k2,k3⟩,k4,k5⟩:=OH h6;rw[HW,HW]at h3;simp only[Zs]at k3 k5;refine⟨⟨v'::xI,by simp [Zw,h1,k1],by simp [h2,k2],by simp [Zs,h3,k3]⟩,by simp [h4,k4],λh=>?_⟩;simp only[List.any_cons,iW]at h;have:=h5 h.1;rw[HW,HW]at this;simp [Zs,this,k5 h.2]
 |s::ss,a::cy,t::ts,h=>by obtain⟨⟨⟨v',h1,h2,h3⟩,h4,h5⟩,h6⟩:=h;obtain⟨⟨xI,k1,k2,k3⟩,k4,k5⟩:=OH h6;refine⟨⟨v'::xI,by simp [Zw,h1,k1],by simp [h2,k2],by simp [Zs,h3,k3]⟩,by simp [h4,k4],λh=>?_⟩;simp only[List.any_cons,iW]at h;simp [Zs,h5 h.1,k5 h.2]
 |_,[],_::_,h=>by cases h
 |[],_::_,[],h=>by cases h
 |_::_,_::_,[],h=>by cases h
theorem NK{dc:List Sh}{dw:Sh}{r:au->Heap->aC}{cy ts:au}{σ:Heap}{v:U}(h:Ib σ dc cy ts)(e:∀σ,ir θ dc dw r ts σ=δ (v,σ))(hs:A.xT v=θ):ir θ dc dw r cy σ=δ (v,σ):=by
 obtain⟨⟨xI,k1,k2,k3⟩,k4,k5⟩:=OH h;cases ho:cy.any akY
 ·rw[Tn (k5 ho) ho k4];exact e σ
 ·exact LZ ho k1 k2 (by rw[Tn k3 k2 k4];exact e []) hs
theorem UB{σ:Heap}{sh:Sh}{v:U}(h:Fz v)(ho:akY v=ξ):Lt σ sh v v:=⟨⟨v,h σ 0 8,ho,rfl⟩,ho,λ_=>rfl⟩
theorem afG{σ:Heap}(n:Int):Lt σ .k (.ah n) (.ah n):=UB (dN _ _) rfl
section
variable {α : Type} {c : α -> au} {sz : Nat} {B : bH -> Prop} {aP σ : Heap} {R : HP} {v : U} {l : List α}
theorem Gl(H:Hs B aP σ (Sl (fl c) sz v l*R)):(l=[]/\(v=.bA\/v=.ez)/\Hs B aP σ R)\/∃id g,v=.os id g sz 0 l.length/\Hs B aP σ (blk id (.arr g sz (l.map c))*R):=by
 rcases Sr H with h|⟨id,g,seg,rfl,hl,H⟩
 ·exact .inl h
 ·have K:=Tx.1 (qY (show _=els (fl c) seg l*(blk id (.arr g sz seg)*R) by ac_rfl) H);obtain⟨rfl,K⟩:=K;exact .inr ⟨id,g,rfl,K⟩
theorem afx(hc:∀x,iD (c x)){id g:Nat}(h:σ[id]? =δ (.arr g sz (l.map c))){n:Nat}(hn:¬id<n)(d:Nat):Xz σ n (d+1) (.os id g sz 0 l.length)=δ (sl sz c l):=by simp only[Xz,aD hn,h];rw[aE (by simp),List.drop_zero,xF (by simp),GA,U1 hc];rfl
theorem TX(H:Hs B aP σ (Sl (fl c) sz v l*R))(hc:∀x,iD (c x)){n:Nat}(hn:n<=aP.length)(d:Nat):∃v',Xz σ n (d+1) v=δ v'/\A.HY v'=ξ/\Ya (.s sz) v'=sl sz c l:=by
 rcases Gl H with⟨rfl,rfl|rfl,_⟩|⟨id,g,rfl,K⟩
 ·exact⟨.bA,by simp [Xz],rfl,rfl⟩
 ·exact⟨.ez,by simp [Xz],rfl,rfl⟩
 ·obtain⟨h1,h2⟩:=Dh K;exact⟨_,afx hc h2 (by omega) d,rfl,rfl⟩
end
section
variable {α : Type} {E : au -> α -> HP} {sz : Nat} {aP σ : Heap} {R : HP} {v : U} {l : List α}
end
section
variable {B : bH -> Prop} {aP σ : Heap} {R : HP} {M : U -> List kj -> HP} {e : au} {x : cr}
variable {v : U} {l : List cr}
end
end
section
open HP
section
variable {aP σ : Heap} {R : HP}
theorem Tz{v v':U}(H:Hs vP aP σ R)(h:Xz σ aP.length 8 v=δ v')(hv:σ=aP->v'=v):Ξ aP v σ=δ (v',aP):=by
 obtain⟨⟨bs,rfl,_⟩,_⟩:=H;by_cases sX:bs=[]
 ·subst sX;rw[WQ]at h ⊢;rw[aO,hv (by simp)]
 ·unfold Ξ;rw[aD (by simpa using sX),aE (by simp),h];rfl
end
end
section
open HP
def Inv(k:Nat)(l:List cr):Prop:=l.length<=1000/\∀c∈l,VB c.gU/\c.gU.length<=2000+k
section
variable {aP σ : Heap} {R : HP}
end
end
section
open HP
section
variable {α β : Type} {E : au -> β -> HP} {f : α -> β} {B : bH -> Prop} {aP σ : Heap} {R : HP} {sz : Nat} {v : U}
end
section
variable {aP σ : Heap} {R : HP} {v : U}
theorem afH{α:Type}{c:α->au}{sz:Nat}{l:List α}{vm:U}(hc:∀x,iD (c x))(H:Hs vP aP σ (Sl (fl c) sz vm l*R)):Lt σ (.s sz) vm (sl sz c l):=by
 obtain⟨v',h1,h2,h3⟩:=TX H hc (ur _) 7;refine⟨⟨v',h1,?_,by rw[h3];rfl⟩,rfl,λho=>?_⟩
 ·rcases Gl H with⟨rfl,rfl|rfl,_⟩|⟨id,g,rfl,K⟩
  ·simp [Xz]at h1;subst h1;rfl
  ·simp [Xz]at h1;subst h1;rfl
  ·cases v'<;>first|rfl|(cases h2;done)|(simp only[Ya]at h3;cases h3)
 ·rcases Gl H with⟨rfl,rfl|rfl,_⟩|⟨id,g,rfl,K⟩
  ·rfl
  ·rfl
  ·cases ho
end
end
section
def AL (a0:Int) (a1:Int):Option Int:=
 (xU a0 a1).bind λx1=>
 (xV a0 a1).bind λx2=>
 (show Option Int from
   if x2<0 then
    δ (ε.wrap (x1-1))
   else
   δ x1).bind λj4=>
 δ j4
theorem aiL{a0:Int}{a1:Int}{σ:Heap}{r:Int}(h:AL a0 a1=δ r):Ko [(η a0),(η a1)] σ=δ ((η r),σ):=by
 refine iJ (f:=KB) (y0:=(η a0)) (y1:=(η a1)) (enc:=λr:Int=>(η r)) (T:=AL a0 a1) rfl rfl ?_ r h;unfold KB AL;refine aL (λx1:Int=>(η x1)) (λx1 hx1=>TS hx1) (λx1 hx1=>?_);refine aL (λx2:Int=>(η x2)) (λx2 hx2=>TU hx2) (λx2 hx2=>?_);refine aj _ rfl ?_
 refine kP (ω:=Int) (λj4 a=>a=(([(η j4)]:au),σ)) (
   by
    refine bR (p:=x2<0) (λc3=>?_) (λc3=>?_)
    ·refine aj _ rfl ?_;exact aS rfl
    exact aS rfl
   ) (λj4 a ha=>?_)
 subst ha;exact aN _ (aO _ _) ⟨rfl,rfl⟩
def tM (a0:Int) (a1:Int):Option Int:=(AL (ε.wrap (ε.wrap (2*a0)+a1)) (ε.wrap (2*a1))).bind λr1=>δ r1
theorem Ki{a0:Int}{a1:Int}{σ:Heap}{r:Int}(h:tM a0 a1=δ r):Cv [(η a0),(η a1)] σ=δ ((η r),σ):=by refine iJ (f:=KD) (y0:=(η a0)) (y1:=(η a1)) (enc:=λr:Int=>(η r)) (T:=tM a0 a1) rfl rfl ?_ r h;unfold KD tM;refine aj _ rfl<|aj _ rfl<|aj _ rfl ?_;refine aL (λr1:Int=>((η r1),σ)) (λr1 bn=>aiL bn) (λr1 bn=>?_);exact aN _ (aO _ _) ⟨rfl,rfl⟩
def J0 (a0:Int):Option Bool:=δ (aI a0 0 36000000)
theorem aiO{a0:Int}{σ:Heap}{r:Bool}(h:J0 a0=δ r):JS [(η a0)] σ=δ ((ψ r),σ):=by refine iI (f:=JU) (y0:=(η a0)) (enc:=λr:Bool=>(ψ r)) (T:=J0 a0) rfl rfl ?_ r h;unfold JU J0;refine aj _ (gr a0 0 36000000 σ) ?_;exact aN _ (aO _ _) ⟨rfl,rfl⟩
end
section
def uX (a0:Int):Option (ByteArray×Int):=
 if(!(aI a0 0 65535))=θ then
  δ ((⟨#[]⟩:ByteArray),1)
 else
 if a0=0 then
  δ ((⟨#[111,117,116]⟩:ByteArray),0)
 else
 if a0=65535 then
  δ ((⟨#[102,117,108,108]⟩:ByteArray),0)
 else
 (tM (ε.wrap (100*a0)) 65535).bind λr1=>
 (tM (ε.wrap (r1*65535)) 100).bind λr2=>
 if r2=a0 then
  (tq (aG r1) (lN r1)).bind λr3=>
  (ig r3 (⟨#[37]⟩:ByteArray)).bind λx4=>
  δ (x4,0)
 else
 (tq (aG a0) (lN a0)).bind λr5=>
 (ig (⟨#[35]⟩:ByteArray) r5).bind λx6=>
 δ (x6,0)
theorem aiW{a0:Int}{σ:Heap}{r:(ByteArray×Int)}(h:uX a0=δ r):Kj [(η a0)] σ=δ ((p7 [(Γ r.1),(η r.2)]),σ):=by
 refine iI (f:=Kt) (y0:=(η a0)) (enc:=λr:(ByteArray×Int)=>(p7 [(Γ r.1),(η r.2)])) (T:=uX a0) rfl rfl ?_ r h;unfold Kt uX;refine aj _ (Qk a0 σ)<|aj _ rfl ?_;refine cR (c:=(!(aI a0 0 65535))) (λfC=>?_) (λfC=>?_)
 ·exact aN _ (aO _ _) ⟨rfl,rfl⟩
 refine aj _ (cM _ _ _) ?_;refine bR (p:=a0=0) (λc9=>?_) (λc9=>?_)
 ·exact aN _ (aO _ _) ⟨rfl,rfl⟩
 refine aj _ (cM _ _ _) ?_;refine bR (p:=a0=65535) (λc8=>?_) (λc8=>?_)
 ·exact aN _ (aO _ _) ⟨rfl,rfl⟩
 refine aj _ rfl ?_;refine aL (λr1:Int=>((η r1),σ)) (λr1 bn=>Ki bn) (λr1 bn=>?_);refine aj _ rfl ?_;refine aL (λr2:Int=>((η r2),σ)) (λr2 hr2=>Ki hr2) (λr2 hr2=>?_);refine aj _ (cM _ _ _) ?_;refine bR (p:=r2=a0) (λc7=>?_) (λc7=>?_)
 ·refine aL (λr3:ByteArray=>((Γ r3),σ)) (λr3 gC=>(eP (e:=λr:ByteArray=>((Γ r),σ)) (λhs=>tU r1 hs σ)) gC) (λr3 gC=>?_);refine aL (λx4:ByteArray=>(Γ x4)) (λx4 mS=>(jf mS)) (λx4 mS=>?_);exact aN _ (aO _ _) ⟨rfl,rfl⟩
 refine aL (λr5:ByteArray=>((Γ r5),σ)) (λr5 td=>(eP (e:=λr:ByteArray=>((Γ r),σ)) (λhs=>tU a0 hs σ)) td) (λr5 td=>?_);refine aL (λx6:ByteArray=>(Γ x6)) (λx6 yh=>(jf yh)) (λx6 yh=>?_);exact aN _ (aO _ _) ⟨rfl,rfl⟩
def Av (a0:Int):Option ByteArray:=
 if a0=0 then
  δ (⟨#[]⟩:ByteArray)
 else
 (tq (aG (ε.wrap (1000+a0))) (lN (ε.wrap (1000+a0)))).bind λr1=>
 (jV r1 (δ 1) μ).bind λx2=>
 (tq (x2.size<=9223372036854775807/\(⟨#[48]⟩:ByteArray)=⟨#[48]⟩) (Du x2)).bind λr3=>
 (ig (⟨#[46]⟩:ByteArray) r3).bind λx4=>
 δ x4
theorem aki{a0:Int}{σ:Heap}{r:ByteArray}(h:Av a0=δ r):Ja [(η a0)] σ=δ ((Γ r),σ):=by
 refine iI (f:=Jd) (y0:=(η a0)) (enc:=λr:ByteArray=>(Γ r)) (T:=Av a0) rfl rfl ?_ r h;unfold Jd Av;refine aj _ (cM _ _ _) ?_;refine bR (p:=a0=0) (λc5=>?_) (λc5=>?_)
 ·exact aN _ (aO _ _) ⟨rfl,rfl⟩
 refine aj _ rfl ?_;refine aL (λr1:ByteArray=>((Γ r1),σ)) (λr1 bn=>(eP (e:=λr:ByteArray=>((Γ r),σ)) (λhs=>tU (ε.wrap (1000+a0)) hs σ)) bn) (λr1 bn=>?_);refine aL (λx2:ByteArray=>(Γ x2)) (λx2 hx2=>(qW hx2)) (λx2 hx2=>?_);refine aL (λr3:ByteArray=>((Γ r3),σ)) (λr3 gC=>(eP (e:=λr:ByteArray=>((Γ r),σ)) (λhs=>Qs x2 (⟨#[48]⟩:ByteArray) hs σ)) gC) (λr3 gC=>?_);refine aL (λx4:ByteArray=>(Γ x4)) (λx4 mS=>(jf mS)) (λx4 mS=>?_);exact aN _ (aO _ _) ⟨rfl,rfl⟩
def yE (a0:Int):Option (ByteArray×Int):=
 if(!((aI a0 0 36000000)))=θ then
  δ ((⟨#[]⟩:ByteArray),1)
 else
 (Av (Xy a0 1000)).bind λr1=>
 if ε.wrap (Vu a0 1000)<60 then
  (tq (aG (ε.wrap (Vu a0 1000))) (lN (ε.wrap (Vu a0 1000)))).bind λr2=>
  (ig r2 r1).bind λx3=>
  δ (x3,0)
 else
 (tq (aG (ε.wrap (Vu (ε.wrap (Vu a0 1000)) 60))) (lN (ε.wrap (Vu (ε.wrap (Vu a0 1000)) 60)))).bind λr4=>
 (ig r4 (⟨#[58]⟩:ByteArray)).bind λx5=>
 (tq (aG (ε.wrap (100+Xy (ε.wrap (Vu a0 1000)) 60))) (lN (ε.wrap (100+Xy (ε.wrap (Vu a0 1000)) 60)))).bind λr6=>
 (jV r6 (δ 1) μ).bind λx7=>
 (ig x5 x7).bind λx8=>
 (ig x8 r1).bind λx9=>
 δ (x9,0)
theorem X1{a0:Int}{σ:Heap}{r:(ByteArray×Int)}(h:yE a0=δ r):Jz [(η a0)] σ=δ ((p7 [(Γ r.1),(η r.2)]),σ):=by
 refine iI (f:=JF) (y0:=(η a0)) (enc:=λr:(ByteArray×Int)=>(p7 [(Γ r.1),(η r.2)])) (T:=yE a0) rfl rfl ?_ r h;unfold JF yE;refine aj _ (aiO (σ:=σ) (r:=(aI a0 0 36000000)) rfl)<|aj _ rfl ?_;refine cR (c:=(!((aI a0 0 36000000)))) (λiY=>?_) (λiY=>?_)
 ·exact aN _ (aO _ _) ⟨rfl,rfl⟩
 refine aj _ (vN _ _ (by decide))<|aj _ (vO _ _ (by decide)) ?_;refine aL (λr1:ByteArray=>((Γ r1),σ)) (λr1 bn=>aki bn) (λr1 bn=>?_);refine aj _ rfl ?_;refine bR (p:=ε.wrap (Vu a0 1000)<60) (λfC=>?_) (λfC=>?_)
 ·refine aL (λr2:ByteArray=>((Γ r2),σ)) (λr2 hr2=>(eP (e:=λr:ByteArray=>((Γ r),σ)) (λhs=>tU (ε.wrap (Vu a0 1000)) hs σ)) hr2) (λr2 hr2=>?_);refine aL (λx3:ByteArray=>(Γ x3)) (λx3 hx3=>(jf hx3)) (λx3 hx3=>?_);exact aN _ (aO _ _) ⟨rfl,rfl⟩
 refine aj _ (vN _ _ (by decide)) ?_;refine aL (λr4:ByteArray=>((Γ r4),σ)) (λr4 nX=>(eP (e:=λr:ByteArray=>((Γ r),σ)) (λhs=>tU (ε.wrap (Vu (ε.wrap (Vu a0 1000)) 60)) hs σ)) nX) (λr4 nX=>?_);refine aL (λx5:ByteArray=>(Γ x5)) (λx5 yg=>(jf yg)) (λx5 yg=>?_);refine aj _ (vO _ _ (by decide))<|aj _ rfl ?_;refine aL (λr6:ByteArray=>((Γ r6),σ)) (λr6 th=>(eP (e:=λr:ByteArray=>((Γ r),σ)) (λhs=>tU (ε.wrap (100+Xy (ε.wrap (Vu a0 1000)) 60)) hs σ)) th) (λr6 th=>?_);refine aL (λx7:ByteArray=>(Γ x7)) (λx7 EA=>(qW EA)) (λx7 EA=>?_);refine aL (λx8:ByteArray=>(Γ x8)) (λx8 yj=>(jf yj)) (λx8 yj=>?_);refine aL (λx9:ByteArray=>(Γ x9)) (λx9 jB=>(jf jB)) (λx9 jB=>?_);exact aN _ (aO _ _) ⟨rfl,rfl⟩
def yD (a0:Int):Option ByteArray:=
 (tq (aG (ε.wrap (Vu a0 1000))) (lN (ε.wrap (Vu a0 1000)))).bind λr1=>
 (show Option ByteArray from
   if 0<Xy a0 1000 then
    (tq (aG (ε.wrap (1000+Xy a0 1000))) (lN (ε.wrap (1000+Xy a0 1000)))).bind λr2=>
    (jV r2 (δ 1) μ).bind λx3=>
    (tq (x3.size<=9223372036854775807/\(⟨#[48]⟩:ByteArray)=⟨#[48]⟩) (Du x3)).bind λr4=>
    (ig (⟨#[46]⟩:ByteArray) r4).bind λx5=>
    (ig r1 x5).bind λx6=>
    δ x6
   else
   δ r1).bind λj8=>
 δ j8
theorem aj4{a0:Int}{σ:Heap}{r:ByteArray}(h:yD a0=δ r):Jx [(η a0)] σ=δ ((Γ r),σ):=by
 refine iI (f:=JD) (y0:=(η a0)) (enc:=λr:ByteArray=>(Γ r)) (T:=yD a0) rfl rfl ?_ r h;unfold JD yD;refine aj _ (vN _ _ (by decide)) ?_;refine aL (λr1:ByteArray=>((Γ r1),σ)) (λr1 bn=>(eP (e:=λr:ByteArray=>((Γ r),σ)) (λhs=>tU (ε.wrap (Vu a0 1000)) hs σ)) bn) (λr1 bn=>?_);refine aj _ (vO _ _ (by decide))<|aj _ rfl ?_
 refine kP (ω:=ByteArray) (λj8 a=>a=(([(Γ j8)]:au),σ)) (
   by
    refine bR (p:=0<Xy a0 1000) (λc7=>?_) (λc7=>?_)
    ·refine aj _ (vO _ _ (by decide))<|aj _ rfl ?_;refine aL (λr2:ByteArray=>((Γ r2),σ)) (λr2 hr2=>(eP (e:=λr:ByteArray=>((Γ r),σ)) (λhs=>tU (ε.wrap (1000+Xy a0 1000)) hs σ)) hr2) (λr2 hr2=>?_);refine aL (λx3:ByteArray=>(Γ x3)) (λx3 hx3=>(qW hx3)) (λx3 hx3=>?_);refine aL (λr4:ByteArray=>((Γ r4),σ)) (λr4 nX=>(eP (e:=λr:ByteArray=>((Γ r),σ)) (λhs=>Qs x3 (⟨#[48]⟩:ByteArray) hs σ)) nX) (λr4 nX=>?_);refine aL (λx5:ByteArray=>(Γ x5)) (λx5 yg=>(jf yg)) (λx5 yg=>?_);refine aL (λx6:ByteArray=>(Γ x6)) (λx6 yh=>(jf yh)) (λx6 yh=>?_);exact aS rfl
    exact aS rfl
   ) (λj8 a ha=>?_)
 subst ha;exact aN _ (aO _ _) ⟨rfl,rfl⟩
def rV (a0:ByteArray):Option (Int×Bool):=(tq (a0.size<=9223372036854775807/\(9:Int)<=18) (lS a0 9)).bind λr1=>δ (r1.1,r1.2)
theorem J2{a0:ByteArray}{σ:Heap}{r:(Int×Bool)}(h:rV a0=δ r):Cq [(Γ a0)] σ=δ ((p7 [(η r.1),(ψ r.2)]),σ):=by refine iI (f:=Kb) (y0:=(Γ a0)) (enc:=λr:(Int×Bool)=>(p7 [(η r.1),(ψ r.2)])) (T:=rV a0) rfl rfl ?_ r h;unfold Kb rV;refine aL (λr1:(Int×Bool)=>((p7 [(η r1.1),(ψ r1.2)]),σ)) (λr1 bn=>(eP (e:=λr:(Int×Bool)=>((p7 [(η r.1),(ψ r.2)]),σ)) (λhs=>KL a0 9 hs σ)) bn) (λr1 bn=>?_);refine aj _ rfl<|aj _ rfl ?_;exact aN _ (aO _ _) ⟨rfl,rfl⟩
def mj (a0:ByteArray) (a1:Int):Option (Int×Bool):=
 (tq (a0.size<4294967281) (ji a0 (⟨#[46]⟩:ByteArray))).bind λr1=>
 (rV r1.1).bind λr2=>
 (if((!(!r2.2))&&r1.2.2)=θ then tq (r1.2.1.size<=9223372036854775807) (jj r1.2.1)else δ default).bind λr3=>
 (if(((!(!r2.2))&&r1.2.2)&&(!((!r3)||(decide (a1<(r1.2.1.size:Int))))))=θ then kF r1.2.1 (ε.wrap ((r1.2.1.size:Int) -1))else δ 0).bind λx4=>
 if((!r2.2)||(r1.2.2&&(((!r3)||(decide (a1<(r1.2.1.size:Int))))||(decide (x4=48)))))=θ then
  δ (0,ξ)
 else
 mh (λ(s5:(Int×Int))=>(show Option (Lr (Int×Int) Int Unit)from
   if s5.2<a1 then
    (show Option Int from
      if s5.2<(r1.2.1.size:Int)then
       (kF r1.2.1 s5.2).bind λaX=>
       δ (ε.wrap (ε.wrap (s5.1*10)+ε.wrap (Y9.wrap (aX-48))))
      else
      δ (ε.wrap (s5.1*10))).bind λtr=>
    δ (.go (tr,ε.wrap (s5.2+1)))
   else
   δ (.kQ s5.1))) (r2.1,0) (λb6=>
  δ (b6,θ)) (λb6=>
  μ)
theorem FD{a0:ByteArray}{a1:Int}{σ:Heap}{r:(Int×Bool)}(h:mj a0 a1=δ r):AA [(Γ a0),(η a1)] σ=δ ((p7 [(η r.1),(ψ r.2)]),σ):=by
 refine iJ (f:=JK) (y0:=(Γ a0)) (y1:=(η a1)) (enc:=λr:(Int×Bool)=>(p7 [(η r.1),(ψ r.2)])) (T:=mj a0 a1) rfl rfl ?_ r h;unfold JK mj;refine aL (λr1:(ByteArray×ByteArray×Bool)=>((p7 [(Γ r1.1),(Γ r1.2.1),(ψ r1.2.2)]),σ)) (λr1 bn=>(eP (e:=λr:(ByteArray×ByteArray×Bool)=>((p7 [(Γ r.1),(Γ r.2.1),(ψ r.2.2)]),σ)) (λhs=>G3 a0 (⟨#[46]⟩:ByteArray) hs σ)) bn) (λr1 bn=>?_);refine aj _ rfl<|aj _ rfl<|aj _ rfl ?_;refine aL (λr2:(Int×Bool)=>((p7 [(η r2.1),(ψ r2.2)]),σ)) (λr2 hr2=>J2 hr2) (λr2 hr2=>?_);refine aj _ rfl<|aj _ rfl<|aj _ rfl<|bf (ψ r1.2.2) (λhg=>rfl)<|bf (ψ r1.2.2) (λhg=>by(try rw[hg]);exact rfl)<|gM (Γ r1.2.1) (λhg=>rfl) ?_
 refine Mi (ω:=Bool) (λr3=>(ψ r3)) (λhg r3 gC=>by(try rw[hg]);exact(dX ((eP (e:=λr:Bool=>((ψ r),σ)) (λhs=>Gb r1.2.1 hs σ)) gC))) (λr3 gC=>?_);refine gM (ψ (!r3)) (λhg=>by(try rw[hg]);exact rfl)<|gM (ψ (!r3)) (λhg=>by(try rw[hg]);exact rfl)<|jJ (Γ r1.2.1) (λhg=>rfl)<|jJ (η (r1.2.1.size:Int)) (λhg=>by(try rw[hg]);exact rfl)<|jJ (η a1) (λhg=>rfl)<|jJ (ψ (decide (a1<(r1.2.1.size:Int)))) (λhg=>by(try rw[hg]);exact rfl)<|gM (ψ ((!r3)||(decide (a1<(r1.2.1.size:Int))))) (λhg=>by(try rw[hg]);exact(eF _ _))<|gM (ψ ((!r3)||(decide (a1<(r1.2.1.size:Int))))) (λhg=>by(try rw[hg]);exact rfl)<|jJ (Γ r1.2.1) (λhg=>rfl)<|jJ (Γ r1.2.1) (λhg=>rfl)<|jJ (η (r1.2.1.size:Int)) (λhg=>by(try rw[hg]);exact rfl)<|jJ (η (ε.wrap ((r1.2.1.size:Int) -1))) (λhg=>by(try rw[hg]);exact rfl) ?_;refine Mh (ω:=Int) (λx4=>(Zx .u8 x4)) (λhg x4 mS=>by(try rw[hg]);exact xD mS) (λx4 mS=>?_);refine jJ (ψ (decide (x4=48))) (λhg=>by(try rw[hg]);exact(Tq _ _))<|gM (ψ (((!r3)||(decide (a1<(r1.2.1.size:Int))))||(decide (x4=48)))) (λhg=>by(try rw[hg]);exact(eF _ _))<|bf (ψ (r1.2.2&&(((!r3)||(decide (a1<(r1.2.1.size:Int))))||(decide (x4=48))))) (λhg=>by(try rw[hg]);exact(ga _ _))<|aj _ (eF _ _) ?_;refine cR (c:=((!r2.2)||(r1.2.2&&(((!r3)||(decide (a1<(r1.2.1.size:Int))))||(decide (x4=48)))))) (λkR=>?_) (λkR=>?_)
 ·exact aN _ (aO _ _) ⟨rfl,rfl⟩
 refine HF (B:=Int) (R:=Unit) (λ(s5:(Int×Int))v w7=>v=[(η s5.1),(η s5.2)]/\σ=w7) (λ(b6:Int)(q:LS)=>∃WB,q=((eN 0),([(η b6),WB]:au),σ)) (λ(b6:Unit)(q:LS)=>False) ?_ ⟨rfl,rfl⟩ ?_ ?_
 ·intro s5 v w7 hI;obtain⟨rfl,rfl⟩:=hI;refine aj _ rfl ?_;refine bR (p:=s5.2<a1) (λsP=>?_) (λsP=>?_)
  ·refine aj _ rfl<|aj _ rfl<|aj _ rfl ?_
   refine kP (ω:=Int) (λtr a=>a=(([(η tr)]:au),σ)) (
     by
      refine bR (p:=s5.2<(r1.2.1.size:Int)) (λef=>?_) (λef=>?_)
      ·refine aL (λaX:Int=>(Zx .u8 aX)) (λaX mO=>xD mO) (λaX mO=>?_);refine aj _ rfl<|aj _ rfl<|aj _ rfl ?_;exact aS rfl
      exact aS rfl
     ) (λtr a ha=>?_)
   subst ha;refine aj _ rfl ?_;exact aS (ke ⟨rfl,rfl⟩)
  exact aS (C9 (by simp) ⟨_,rfl⟩)
 ·intro b6 q hq;obtain⟨WB,rfl⟩:=hq;refine fF rfl ?_;exact aN _ (aO _ _) ⟨rfl,rfl⟩
 ·intro b6 q hq;exact alm hq
def yw (a0:ByteArray) (a1:ByteArray):Option Bool:=
 (if decide ((a1.size:Int)<=(a0.size:Int))=θ then jV a0 μ (δ (a1.size:Int))else δ default).bind λx1=>
 δ ((decide ((a1.size:Int)<=(a0.size:Int)))&&(decide (x1=a1)))
theorem Pd{a0:ByteArray}{a1:ByteArray}{σ:Heap}{r:Bool}(h:yw a0 a1=δ r):Fb [(Γ a0),(Γ a1)] σ=δ ((ψ r),σ):=by refine iJ (f:=IT) (y0:=(Γ a0)) (y1:=(Γ a1)) (enc:=λr:Bool=>(ψ r)) (T:=yw a0 a1) rfl rfl ?_ r h;unfold IT yw;refine aj _ rfl<|aj _ rfl<|aj _ rfl<|bl (Γ a0) (λhg=>rfl)<|bl (Γ a1) (λhg=>rfl)<|bl (η (a1.size:Int)) (λhg=>by(try rw[hg]);exact rfl) ?_;refine mC (ω:=ByteArray) (λx1=>(Γ x1)) (λhg x1 hx1=>by(try rw[hg]);exact(qW hx1)) (λx1 hx1=>?_);refine bl (Γ a1) (λhg=>rfl)<|bl (ψ (decide (x1=a1))) (λhg=>by(try rw[hg]);exact(oO _ _))<|aj _ (ga _ _) ?_;exact aN _ (aO _ _) ⟨rfl,rfl⟩
def Aq (a0:ByteArray) (a1:ByteArray):Option Bool:=
 (if decide ((a1.size:Int)<=(a0.size:Int))=θ then jV a0 (δ (ε.wrap ((a0.size:Int) -(a1.size:Int)))) μ else δ default).bind λx1=>
 δ ((decide ((a1.size:Int)<=(a0.size:Int)))&&(decide (x1=a1)))
theorem aje{a0:ByteArray}{a1:ByteArray}{σ:Heap}{r:Bool}(h:Aq a0 a1=δ r):IP [(Γ a0),(Γ a1)] σ=δ ((ψ r),σ):=by refine iJ (f:=IU) (y0:=(Γ a0)) (y1:=(Γ a1)) (enc:=λr:Bool=>(ψ r)) (T:=Aq a0 a1) rfl rfl ?_ r h;unfold IU Aq;refine aj _ rfl<|aj _ rfl<|aj _ rfl<|bl (Γ a0) (λhg=>rfl)<|bl (Γ a0) (λhg=>rfl)<|bl (η (a0.size:Int)) (λhg=>by(try rw[hg]);exact rfl)<|bl (Γ a1) (λhg=>rfl)<|bl (η (a1.size:Int)) (λhg=>by(try rw[hg]);exact rfl)<|bl (η (ε.wrap ((a0.size:Int) -(a1.size:Int)))) (λhg=>by(try rw[hg]);exact rfl) ?_;refine mC (ω:=ByteArray) (λx1=>(Γ x1)) (λhg x1 hx1=>by(try rw[hg]);exact(qW hx1)) (λx1 hx1=>?_);refine bl (Γ a1) (λhg=>rfl)<|bl (ψ (decide (x1=a1))) (λhg=>by(try rw[hg]);exact(oO _ _))<|aj _ (ga _ _) ?_;exact aN _ (aO _ _) ⟨rfl,rfl⟩
def Ca (a0:ByteArray) (a1:ByteArray):Option (ByteArray×Bool):=
 (yw a0 a1).bind λr1=>
 if(!r1)=θ then
  δ (a0,ξ)
 else
 (jV a0 (δ (a1.size:Int)) μ).bind λx2=>
 δ (x2,θ)
theorem ajp{a0:ByteArray}{a1:ByteArray}{σ:Heap}{r:(ByteArray×Bool)}(h:Ca a0 a1=δ r):IM [(Γ a0),(Γ a1)] σ=δ ((p7 [(Γ r.1),(ψ r.2)]),σ):=by
 refine iJ (f:=IQ) (y0:=(Γ a0)) (y1:=(Γ a1)) (enc:=λr:(ByteArray×Bool)=>(p7 [(Γ r.1),(ψ r.2)])) (T:=Ca a0 a1) rfl rfl ?_ r h;unfold IQ Ca;refine aL (λr1:Bool=>((ψ r1),σ)) (λr1 bn=>Pd bn) (λr1 bn=>?_);refine aj _ rfl ?_;refine cR (c:=(!r1)) (λc3=>?_) (λc3=>?_)
 ·exact aN _ (aO _ _) ⟨rfl,rfl⟩
 refine aj _ rfl ?_;refine aL (λx2:ByteArray=>(Γ x2)) (λx2 hx2=>(qW hx2)) (λx2 hx2=>?_);exact aN _ (aO _ _) ⟨rfl,rfl⟩
def Ap (a0:ByteArray) (a1:ByteArray):Option (ByteArray×Bool):=
 (Aq a0 a1).bind λr1=>
 if(!r1)=θ then
  δ (a0,ξ)
 else
 (jV a0 μ (δ (ε.wrap ((a0.size:Int) -(a1.size:Int))))).bind λx2=>
 δ (x2,θ)
theorem WR{a0:ByteArray}{a1:ByteArray}{σ:Heap}{r:(ByteArray×Bool)}(h:Ap a0 a1=δ r):IN [(Γ a0),(Γ a1)] σ=δ ((p7 [(Γ r.1),(ψ r.2)]),σ):=by
 refine iJ (f:=IS) (y0:=(Γ a0)) (y1:=(Γ a1)) (enc:=λr:(ByteArray×Bool)=>(p7 [(Γ r.1),(ψ r.2)])) (T:=Ap a0 a1) rfl rfl ?_ r h;unfold IS Ap;refine aL (λr1:Bool=>((ψ r1),σ)) (λr1 bn=>aje bn) (λr1 bn=>?_);refine aj _ rfl ?_;refine cR (c:=(!r1)) (λc3=>?_) (λc3=>?_)
 ·exact aN _ (aO _ _) ⟨rfl,rfl⟩
 refine aj _ rfl<|aj _ rfl<|aj _ rfl ?_;refine aL (λx2:ByteArray=>(Γ x2)) (λx2 hx2=>(qW hx2)) (λx2 hx2=>?_);exact aN _ (aO _ _) ⟨rfl,rfl⟩
def B9 (a0:ByteArray) (a1:ByteArray):Option ByteArray:=
 (yw a0 a1).bind λr1=>
 if r1=θ then
  (jV a0 (δ (a1.size:Int)) μ).bind λx2=>
  δ x2
 else
 δ a0
theorem ajJ{a0:ByteArray}{a1:ByteArray}{σ:Heap}{r:ByteArray}(h:B9 a0 a1=δ r):IK [(Γ a0),(Γ a1)] σ=δ ((Γ r),σ):=by
 refine iJ (f:=IL) (y0:=(Γ a0)) (y1:=(Γ a1)) (enc:=λr:ByteArray=>(Γ r)) (T:=B9 a0 a1) rfl rfl ?_ r h;unfold IL B9;refine aL (λr1:Bool=>((ψ r1),σ)) (λr1 bn=>Pd bn) (λr1 bn=>?_);refine cR (c:=r1) (λc3=>?_) (λc3=>?_)
 ·refine aj _ rfl ?_;refine aL (λx2:ByteArray=>(Γ x2)) (λx2 hx2=>(qW hx2)) (λx2 hx2=>?_);exact aN _ (aO _ _) ⟨rfl,rfl⟩
 exact aN _ (aO _ _) ⟨rfl,rfl⟩
def yA (a0:ByteArray) (a1:ByteArray):Option (ByteArray×Bool):=(Ca a0 a1).bind λr1=>δ (r1.1,r1.2)
theorem aiN{a0:ByteArray}{a1:ByteArray}{σ:Heap}{r:(ByteArray×Bool)}(h:yA a0 a1=δ r):Jb [(Γ a0),(Γ a1)] σ=δ ((p7 [(Γ r.1),(ψ r.2)]),σ):=by refine iJ (f:=Jf) (y0:=(Γ a0)) (y1:=(Γ a1)) (enc:=λr:(ByteArray×Bool)=>(p7 [(Γ r.1),(ψ r.2)])) (T:=yA a0 a1) rfl rfl ?_ r h;unfold Jf yA;refine aL (λr1:(ByteArray×Bool)=>((p7 [(Γ r1.1),(ψ r1.2)]),σ)) (λr1 bn=>ajp bn) (λr1 bn=>?_);refine aj _ rfl<|aj _ rfl ?_;exact aN _ (aO _ _) ⟨rfl,rfl⟩
def wQ (a0:ByteArray) (a1:ByteArray):Option (ByteArray×Bool):=(Ap a0 a1).bind λr1=>δ (r1.1,r1.2)
theorem ajc{a0:ByteArray}{a1:ByteArray}{σ:Heap}{r:(ByteArray×Bool)}(h:wQ a0 a1=δ r):Jc [(Γ a0),(Γ a1)] σ=δ ((p7 [(Γ r.1),(ψ r.2)]),σ):=by refine iJ (f:=Jg) (y0:=(Γ a0)) (y1:=(Γ a1)) (enc:=λr:(ByteArray×Bool)=>(p7 [(Γ r.1),(ψ r.2)])) (T:=wQ a0 a1) rfl rfl ?_ r h;unfold Jg wQ;refine aL (λr1:(ByteArray×Bool)=>((p7 [(Γ r1.1),(ψ r1.2)]),σ)) (λr1 bn=>WR bn) (λr1 bn=>?_);refine aj _ rfl<|aj _ rfl ?_;exact aN _ (aO _ _) ⟨rfl,rfl⟩
def wP (a0:ByteArray) (a1:ByteArray):Option ByteArray:=(B9 a0 a1).bind λr1=>δ r1
theorem akx{a0:ByteArray}{a1:ByteArray}{σ:Heap}{r:ByteArray}(h:wP a0 a1=δ r):I8 [(Γ a0),(Γ a1)] σ=δ ((Γ r),σ):=by refine iJ (f:=I9) (y0:=(Γ a0)) (y1:=(Γ a1)) (enc:=λr:ByteArray=>(Γ r)) (T:=wP a0 a1) rfl rfl ?_ r h;unfold I9 wP;refine aL (λr1:ByteArray=>((Γ r1),σ)) (λr1 bn=>ajJ bn) (λr1 bn=>?_);exact aN _ (aO _ _) ⟨rfl,rfl⟩
def tL (a0:ByteArray):Option (Int×Int):=
 if a0=(⟨#[111,117,116]⟩:ByteArray)then
  δ (0,0)
 else
 if a0=(⟨#[102,117,108,108]⟩:ByteArray)then
  δ (65535,0)
 else
 (yA a0 (⟨#[35]⟩:ByteArray)).bind λr1=>
 if r1.2=θ then
  (rV r1.1).bind λr2=>
  if((!r2.2)||(!(aI r2.1 0 65535)))=θ then
   δ (0,9)
  else
  δ (r2.1,0)
 else
 (wQ a0 (⟨#[37]⟩:ByteArray)).bind λr4=>
 (mj r4.1 2).bind λr5=>
 if(((!r4.2)||(!r5.2))||(decide (10000<r5.1)))=θ then
  δ (0,9)
 else
 (tM (ε.wrap (r5.1*65535)) 10000).bind λr6=>
 δ (r6,0)
theorem PW{a0:ByteArray}{σ:Heap}{r:(Int×Int)}(h:tL a0=δ r):FP [(Γ a0)] σ=δ ((p7 [(η r.1),(η r.2)]),σ):=by
 refine iI (f:=Ks) (y0:=(Γ a0)) (enc:=λr:(Int×Int)=>(p7 [(η r.1),(η r.2)])) (T:=tL a0) rfl rfl ?_ r h;unfold Ks tL;refine aj _ (oO _ _) ?_;refine bR (p:=a0=(⟨#[111,117,116]⟩:ByteArray)) (λfC=>?_) (λfC=>?_)
 ·exact aN _ (aO _ _) ⟨rfl,rfl⟩
 refine aj _ (oO _ _) ?_;refine bR (p:=a0=(⟨#[102,117,108,108]⟩:ByteArray)) (λc9=>?_) (λc9=>?_)
 ·exact aN _ (aO _ _) ⟨rfl,rfl⟩
 refine aL (λr1:(ByteArray×Bool)=>((p7 [(Γ r1.1),(ψ r1.2)]),σ)) (λr1 bn=>aiN bn) (λr1 bn=>?_);refine aj _ rfl<|aj _ rfl ?_;refine cR (c:=r1.2) (λc8=>?_) (λc8=>?_)
 ·refine aL (λr2:(Int×Bool)=>((p7 [(η r2.1),(ψ r2.2)]),σ)) (λr2 hr2=>J2 hr2) (λr2 hr2=>?_);refine aj _ rfl<|aj _ rfl<|aj _ rfl<|bf (η r2.1) (λhg=>rfl)<|bf (ψ (aI r2.1 0 65535)) (λhg=>by(try rw[hg]);exact(dX (Qk r2.1 σ)))<|bf (ψ (!(aI r2.1 0 65535))) (λhg=>by(try rw[hg]);exact rfl)<|aj _ (eF _ _) ?_;refine cR (c:=((!r2.2)||(!(aI r2.1 0 65535)))) (λc3=>?_) (λc3=>?_)
  ·exact aN _ (aO _ _) ⟨rfl,rfl⟩
  exact aN _ (aO _ _) ⟨rfl,rfl⟩
 refine aL (λr4:(ByteArray×Bool)=>((p7 [(Γ r4.1),(ψ r4.2)]),σ)) (λr4 nX=>ajc nX) (λr4 nX=>?_);refine aj _ rfl<|aj _ rfl ?_;refine aL (λr5:(Int×Bool)=>((p7 [(η r5.1),(ψ r5.2)]),σ)) (λr5 td=>FD td) (λr5 td=>?_);refine aj _ rfl<|aj _ rfl<|aj _ rfl<|bf (ψ r5.2) (λhg=>rfl)<|bf (ψ (!r5.2)) (λhg=>by(try rw[hg]);exact rfl)<|aj _ (eF _ _)<|bf (η r5.1) (λhg=>rfl)<|bf (ψ (decide (10000<r5.1))) (λhg=>by(try rw[hg]);exact rfl)<|aj _ (eF _ _) ?_;refine cR (c:=(((!r4.2)||(!r5.2))||(decide (10000<r5.1)))) (λc7=>?_) (λc7=>?_)
 ·exact aN _ (aO _ _) ⟨rfl,rfl⟩
 refine aj _ rfl ?_;refine aL (λr6:Int=>((η r6),σ)) (λr6 th=>Ki th) (λr6 th=>?_);exact aN _ (aO _ _) ⟨rfl,rfl⟩
def uT (a0:ByteArray):Option (Int×Int):=
 (tq (a0.size<4294967281) (ji a0 (⟨#[58]⟩:ByteArray))).bind λr1=>
 if(!r1.2.2)=θ then
  (mj a0 3).bind λr2=>
  if((!r2.2)||(decide (59999<r2.1)))=θ then
   δ (0,9)
  else
  δ (r2.1,0)
 else
 (tq (r1.1.size<=9223372036854775807/\(4:Int)<=18) (lS r1.1 4)).bind λr4=>
 (tq (r1.2.1.size<4294967281) (ji r1.2.1 (⟨#[46]⟩:ByteArray))).bind λr5=>
 (if(!(((!r4.2)||(decide (r4.1=0)))||(decide (¬((r5.1.size:Int)=2)))))=θ then tq (r5.1.size<=9223372036854775807) (jj r5.1)else δ default).bind λr6=>
 if((((!r4.2)||(decide (r4.1=0)))||(decide (¬((r5.1.size:Int)=2))))||(!r6))=θ then
  δ (0,9)
 else
 (wP r1.2.1 (⟨#[48]⟩:ByteArray)).bind λr7=>
 (mj r7 3).bind λr8=>
 (show Option (Bool×Int)from
   if r5.1=(⟨#[48,48]⟩:ByteArray)then
    (jV r1.2.1 (δ 1) μ).bind λx9=>
    (mj x9 3).bind λcz=>
    δ (cz.2,cz.1)
   else
   δ (r8.2,r8.1)).bind λnZ=>
 (if((!((!nZ.1)||(decide (59999<nZ.2))))&&decide (r5.2.1=(⟨#[]⟩:ByteArray)))=θ then tq (r1.2.1.size<4294967281) (Lib.contains (lZ r1.2.1) (lZ (⟨#[46]⟩:ByteArray)))else δ default).bind λiR=>
 if(((!nZ.1)||(decide (59999<nZ.2)))||((decide (r5.2.1=(⟨#[]⟩:ByteArray)))&&iR))=θ then
  δ (0,9)
 else
 if 36000000<ε.wrap (nZ.2+ε.wrap (r4.1*60000))then
  δ (0,1)
 else
 δ (ε.wrap (nZ.2+ε.wrap (r4.1*60000)),0)
theorem akb{a0:ByteArray}{σ:Heap}{r:(Int×Int)}(h:uT a0=δ r):Jy [(Γ a0)] σ=δ ((p7 [(η r.1),(η r.2)]),σ):=by
 refine iI (f:=JE) (y0:=(Γ a0)) (enc:=λr:(Int×Int)=>(p7 [(η r.1),(η r.2)])) (T:=uT a0) rfl rfl ?_ r h;unfold JE uT;refine aL (λr1:(ByteArray×ByteArray×Bool)=>((p7 [(Γ r1.1),(Γ r1.2.1),(ψ r1.2.2)]),σ)) (λr1 bn=>(eP (e:=λr:(ByteArray×ByteArray×Bool)=>((p7 [(Γ r.1),(Γ r.2.1),(ψ r.2.2)]),σ)) (λhs=>G3 a0 (⟨#[58]⟩:ByteArray) hs σ)) bn) (λr1 bn=>?_);refine aj _ rfl<|aj _ rfl<|aj _ rfl<|aj _ rfl ?_;refine cR (c:=(!r1.2.2)) (λoV=>?_) (λoV=>?_)
 ·refine aL (λr2:(Int×Bool)=>((p7 [(η r2.1),(ψ r2.2)]),σ)) (λr2 hr2=>FD hr2) (λr2 hr2=>?_);refine aj _ rfl<|aj _ rfl<|aj _ rfl<|bf (η r2.1) (λhg=>rfl)<|bf (ψ (decide (59999<r2.1))) (λhg=>by(try rw[hg]);exact rfl)<|aj _ (eF _ _) ?_;refine cR (c:=((!r2.2)||(decide (59999<r2.1)))) (λc3=>?_) (λc3=>?_)
  ·exact aN _ (aO _ _) ⟨rfl,rfl⟩
  exact aN _ (aO _ _) ⟨rfl,rfl⟩
 refine aL (λr4:(Int×Bool)=>((p7 [(η r4.1),(ψ r4.2)]),σ)) (λr4 nX=>(eP (e:=λr:(Int×Bool)=>((p7 [(η r.1),(ψ r.2)]),σ)) (λhs=>KL r1.1 4 hs σ)) nX) (λr4 nX=>?_);refine aj _ rfl<|aj _ rfl ?_;refine aL (λr5:(ByteArray×ByteArray×Bool)=>((p7 [(Γ r5.1),(Γ r5.2.1),(ψ r5.2.2)]),σ)) (λr5 td=>(eP (e:=λr:(ByteArray×ByteArray×Bool)=>((p7 [(Γ r.1),(Γ r.2.1),(ψ r.2.2)]),σ)) (λhs=>G3 r1.2.1 (⟨#[46]⟩:ByteArray) hs σ)) td) (λr5 td=>?_);refine aj _ rfl<|aj _ rfl<|aj _ rfl<|aj _ rfl<|bf (η r4.1) (λhg=>rfl)<|bf (ψ (decide (r4.1=0))) (λhg=>by(try rw[hg]);exact(cM _ _ _))<|aj _ (eF _ _)<|bf (Γ r5.1) (λhg=>rfl)<|bf (η (r5.1.size:Int)) (λhg=>by(try rw[hg]);exact rfl)<|bf (ψ (decide (¬((r5.1.size:Int)=2)))) (λhg=>by(try rw[hg]);exact(fI _ _ _))<|aj _ (eF _ _)<|bf (Γ r5.1) (λhg=>rfl) ?_
 refine Bq (ω:=Bool) (λr6=>(ψ r6)) (λhg r6 th=>by(try rw[hg]);exact(dX ((eP (e:=λr:Bool=>((ψ r),σ)) (λhs=>Gb r5.1 hs σ)) th))) (λr6 th=>?_);refine bf (ψ (!r6)) (λhg=>by(try rw[hg]);exact rfl)<|aj _ (eF _ _) ?_;refine cR (c:=((((!r4.2)||(decide (r4.1=0)))||(decide (¬((r5.1.size:Int)=2))))||(!r6))) (λmQ=>?_) (λmQ=>?_)
 ·exact aN _ (aO _ _) ⟨rfl,rfl⟩
 refine aL (λr7:ByteArray=>((Γ r7),σ)) (λr7 Ew=>akx Ew) (λr7 Ew=>?_);refine aL (λr8:(Int×Bool)=>((p7 [(η r8.1),(ψ r8.2)]),σ)) (λr8 Ex=>FD Ex) (λr8 Ex=>?_);refine aj _ rfl<|aj _ rfl<|aj _ (oO _ _) ?_
 refine kP (ω:=(Bool×Int)) (λnZ a=>a=(([(ψ nZ.1),(η nZ.2)]:au),σ)) (
   by
    refine bR (p:=r5.1=(⟨#[48,48]⟩:ByteArray)) (λiY=>?_) (λiY=>?_)
    ·refine aL (λx9:ByteArray=>(Γ x9)) (λx9 jB=>(qW jB)) (λx9 jB=>?_);refine aL (λcz:(Int×Bool)=>((p7 [(η cz.1),(ψ cz.2)]),σ)) (λcz pL=>FD pL) (λcz pL=>?_);refine aj _ rfl<|aj _ rfl ?_;exact aS rfl
    exact aS rfl
   ) (λnZ a ha=>?_)
 subst ha;refine aj _ rfl<|bf (η nZ.2) (λhg=>rfl)<|bf (ψ (decide (59999<nZ.2))) (λhg=>by(try rw[hg]);exact rfl)<|aj _ (eF _ _)<|bf (Γ r5.2.1) (λhg=>rfl)<|bf (ψ (decide (r5.2.1=(⟨#[]⟩:ByteArray)))) (λhg=>by(try rw[hg]);exact(oO _ _))<|bf (ψ (decide (r5.2.1=(⟨#[]⟩:ByteArray)))) (λhg=>by(try rw[hg]);exact rfl)<|gM (Γ r1.2.1) (λhg=>rfl) ?_
 refine Mi (ω:=Bool) (λiR=>(ψ iR)) (λhg iR U9=>by(try rw[hg]);exact(dX ((eP (e:=λr:Bool=>((ψ r),σ)) (λhs=>akG r1.2.1 (⟨#[46]⟩:ByteArray) hs σ)) U9))) (λiR U9=>?_);refine bf (ψ ((decide (r5.2.1=(⟨#[]⟩:ByteArray)))&&iR)) (λhg=>by(try rw[hg]);exact(ga _ _))<|aj _ (eF _ _) ?_;refine cR (c:=(((!nZ.1)||(decide (59999<nZ.2)))||((decide (r5.2.1=(⟨#[]⟩:ByteArray)))&&iR))) (λkR=>?_) (λkR=>?_)
 ·exact aN _ (aO _ _) ⟨rfl,rfl⟩
 refine aj _ rfl<|aj _ rfl<|aj _ rfl ?_;refine bR (p:=36000000<ε.wrap (nZ.2+ε.wrap (r4.1*60000))) (λsP=>?_) (λsP=>?_)
 ·exact aN _ (aO _ _) ⟨rfl,rfl⟩
 exact aN _ (aO _ _) ⟨rfl,rfl⟩
def uS (a0:ByteArray):Option (Int×Bool):=
 (tq (a0.size<4294967281) (ji a0 (⟨#[46]⟩:ByteArray))).bind λr1=>
 (tq (r1.1.size<=9223372036854775807/\(7:Int)<=18) (lS r1.1 7)).bind λr2=>
 (if((!(!r2.2))&&r1.2.2)=θ then tq (r1.2.1.size<=9223372036854775807) (jj r1.2.1)else δ default).bind λr3=>
 (if(((!(!r2.2))&&r1.2.2)&&(!((!r3)||(decide (3<(r1.2.1.size:Int))))))=θ then kF r1.2.1 (ε.wrap ((r1.2.1.size:Int) -1))else δ 0).bind λx4=>
 if((!r2.2)||(r1.2.2&&(((!r3)||(decide (3<(r1.2.1.size:Int))))||(decide (x4=48)))))=θ then
  δ (0,ξ)
 else
 mh (λ(s5:(Int×Int))=>(show Option (Lr (Int×Int) Int Unit)from
   if s5.2<3 then
    (show Option Int from
      if s5.2<(r1.2.1.size:Int)then
       (kF r1.2.1 s5.2).bind λaX=>
       δ (ε.wrap (ε.wrap (s5.1*10)+ε.wrap (Y9.wrap (aX-48))))
      else
      δ (ε.wrap (s5.1*10))).bind λtr=>
    δ (.go (tr,ε.wrap (s5.2+1)))
   else
   δ (.kQ s5.1))) (r2.1,0) (λb6=>
  δ (b6,θ)) (λb6=>
  μ)
theorem XX{a0:ByteArray}{σ:Heap}{r:(Int×Bool)}(h:uS a0=δ r):Jv [(Γ a0)] σ=δ ((p7 [(η r.1),(ψ r.2)]),σ):=by
 refine iI (f:=JB) (y0:=(Γ a0)) (enc:=λr:(Int×Bool)=>(p7 [(η r.1),(ψ r.2)])) (T:=uS a0) rfl rfl ?_ r h;unfold JB uS;refine aL (λr1:(ByteArray×ByteArray×Bool)=>((p7 [(Γ r1.1),(Γ r1.2.1),(ψ r1.2.2)]),σ)) (λr1 bn=>(eP (e:=λr:(ByteArray×ByteArray×Bool)=>((p7 [(Γ r.1),(Γ r.2.1),(ψ r.2.2)]),σ)) (λhs=>G3 a0 (⟨#[46]⟩:ByteArray) hs σ)) bn) (λr1 bn=>?_);refine aj _ rfl<|aj _ rfl<|aj _ rfl ?_;refine aL (λr2:(Int×Bool)=>((p7 [(η r2.1),(ψ r2.2)]),σ)) (λr2 hr2=>(eP (e:=λr:(Int×Bool)=>((p7 [(η r.1),(ψ r.2)]),σ)) (λhs=>KL r1.1 7 hs σ)) hr2) (λr2 hr2=>?_);refine aj _ rfl<|aj _ rfl<|aj _ rfl<|bf (ψ r1.2.2) (λhg=>rfl)<|bf (ψ r1.2.2) (λhg=>by(try rw[hg]);exact rfl)<|gM (Γ r1.2.1) (λhg=>rfl) ?_
 refine Mi (ω:=Bool) (λr3=>(ψ r3)) (λhg r3 gC=>by(try rw[hg]);exact(dX ((eP (e:=λr:Bool=>((ψ r),σ)) (λhs=>Gb r1.2.1 hs σ)) gC))) (λr3 gC=>?_);refine gM (ψ (!r3)) (λhg=>by(try rw[hg]);exact rfl)<|gM (ψ (!r3)) (λhg=>by(try rw[hg]);exact rfl)<|jJ (Γ r1.2.1) (λhg=>rfl)<|jJ (η (r1.2.1.size:Int)) (λhg=>by(try rw[hg]);exact rfl)<|jJ (ψ (decide (3<(r1.2.1.size:Int)))) (λhg=>by(try rw[hg]);exact rfl)<|gM (ψ ((!r3)||(decide (3<(r1.2.1.size:Int))))) (λhg=>by(try rw[hg]);exact(eF _ _))<|gM (ψ ((!r3)||(decide (3<(r1.2.1.size:Int))))) (λhg=>by(try rw[hg]);exact rfl)<|jJ (Γ r1.2.1) (λhg=>rfl)<|jJ (Γ r1.2.1) (λhg=>rfl)<|jJ (η (r1.2.1.size:Int)) (λhg=>by(try rw[hg]);exact rfl)<|jJ (η (ε.wrap ((r1.2.1.size:Int) -1))) (λhg=>by(try rw[hg]);exact rfl) ?_;refine Mh (ω:=Int) (λx4=>(Zx .u8 x4)) (λhg x4 mS=>by(try rw[hg]);exact xD mS) (λx4 mS=>?_);refine jJ (ψ (decide (x4=48))) (λhg=>by(try rw[hg]);exact(Tq _ _))<|gM (ψ (((!r3)||(decide (3<(r1.2.1.size:Int))))||(decide (x4=48)))) (λhg=>by(try rw[hg]);exact(eF _ _))<|bf (ψ (r1.2.2&&(((!r3)||(decide (3<(r1.2.1.size:Int))))||(decide (x4=48))))) (λhg=>by(try rw[hg]);exact(ga _ _))<|aj _ (eF _ _) ?_;refine cR (c:=((!r2.2)||(r1.2.2&&(((!r3)||(decide (3<(r1.2.1.size:Int))))||(decide (x4=48)))))) (λkR=>?_) (λkR=>?_)
 ·exact aN _ (aO _ _) ⟨rfl,rfl⟩
 refine HF (B:=Int) (R:=Unit) (λ(s5:(Int×Int))v w7=>v=[(η s5.1),(η s5.2)]/\σ=w7) (λ(b6:Int)(q:LS)=>∃WA,q=((eN 0),([(η b6),WA]:au),σ)) (λ(b6:Unit)(q:LS)=>False) ?_ ⟨rfl,rfl⟩ ?_ ?_
 ·intro s5 v w7 hI;obtain⟨rfl,rfl⟩:=hI;refine aj _ rfl ?_;refine bR (p:=s5.2<3) (λsP=>?_) (λsP=>?_)
  ·refine aj _ rfl<|aj _ rfl<|aj _ rfl ?_
   refine kP (ω:=Int) (λtr a=>a=(([(η tr)]:au),σ)) (
     by
      refine bR (p:=s5.2<(r1.2.1.size:Int)) (λef=>?_) (λef=>?_)
      ·refine aL (λaX:Int=>(Zx .u8 aX)) (λaX mO=>xD mO) (λaX mO=>?_);refine aj _ rfl<|aj _ rfl<|aj _ rfl ?_;exact aS rfl
      exact aS rfl
     ) (λtr a ha=>?_)
   subst ha;refine aj _ rfl ?_;exact aS (ke ⟨rfl,rfl⟩)
  exact aS (C9 (by simp) ⟨_,rfl⟩)
 ·intro b6 q hq;obtain⟨WA,rfl⟩:=hq;refine fF rfl ?_;exact aN _ (aO _ _) ⟨rfl,rfl⟩
 ·intro b6 q hq;exact alm hq
def wX (a0:ByteArray):Option ((List ByteArray)×Bool):=
 if a0=(⟨#[]⟩:ByteArray)then
  δ ([],θ)
 else
 (tq (a0.size<4294967281/\1<=(⟨#[10]⟩:ByteArray).size) (jt a0 (⟨#[10]⟩:ByteArray))).bind λr1=>
 (eL r1 (ε.wrap ((r1.length:Int) -1))).bind λx2=>
 if x2=(⟨#[]⟩:ByteArray)then
  (rM r1 μ (δ (ε.wrap ((r1.length:Int) -1)))).bind λx3=>
  δ (x3,θ)
 else
 δ (r1,ξ)
theorem ajm{a0:ByteArray}{σ:Heap}{r:((List ByteArray)×Bool)}(h:wX a0=δ r):Kp [(Γ a0)] σ=δ ((p7 [(sl 1 jh r.1),(ψ r.2)]),σ):=by
 refine iI (f:=KC) (y0:=(Γ a0)) (enc:=λr:((List ByteArray)×Bool)=>(p7 [(sl 1 jh r.1),(ψ r.2)])) (T:=wX a0) rfl rfl ?_ r h;unfold KC wX;refine aj _ (oO _ _) ?_;refine bR (p:=a0=(⟨#[]⟩:ByteArray)) (λc5=>?_) (λc5=>?_)
 ·exact aN _ (aO _ _) ⟨(BM (iN (by first|rfl|exact Md _ _) (iN rfl uo))),rfl⟩
 refine aL (λr1:(List ByteArray)=>((sl 1 jh r1),σ)) (λr1 bn=>(eP (e:=λr:(List ByteArray)=>((sl 1 jh r),σ)) (λhs=>RL a0 (⟨#[10]⟩:ByteArray) hs σ)) bn) (λr1 bn=>?_);refine aj _ (fu _ _ _)<|aj _ rfl ?_;refine aL (λx2:ByteArray=>(YH [(Γ x2)])) (λx2 hx2=>kq hx2) (λx2 hx2=>?_);refine aj _ rfl<|aj _ (oO _ _) ?_;refine bR (p:=x2=(⟨#[]⟩:ByteArray)) (λc4=>?_) (λc4=>?_)
 ·refine aj _ (fu _ _ _)<|aj _ rfl ?_;refine aL (λx3:(List ByteArray)=>(sl 1 jh x3)) (λx3 hx3=>(TY hx3)) (λx3 hx3=>?_);exact aN _ (aO _ _) ⟨(BM (iN rfl (iN rfl uo))),rfl⟩
 exact aN _ (aO _ _) ⟨(BM (iN rfl (iN rfl uo))),rfl⟩
end
section
def uZ (a0:Int):Option ByteArray:=(tq (aG (ε.wrap (100+a0))) (lN (ε.wrap (100+a0)))).bind λr1=>(jV r1 (δ 1) μ).bind λx2=>δ x2
theorem FV{a0:Int}{σ:Heap}{r:ByteArray}(h:uZ a0=δ r):AN [(η a0)] σ=δ ((Γ r),σ):=by refine iI (f:=KZ) (y0:=(η a0)) (enc:=λr:ByteArray=>(Γ r)) (T:=uZ a0) rfl rfl ?_ r h;unfold KZ uZ;refine aj _ rfl ?_;refine aL (λr1:ByteArray=>((Γ r1),σ)) (λr1 bn=>(eP (e:=λr:ByteArray=>((Γ r),σ)) (λhs=>tU (ε.wrap (100+a0)) hs σ)) bn) (λr1 bn=>?_);refine aL (λx2:ByteArray=>(Γ x2)) (λx2 hx2=>(qW hx2)) (λx2 hx2=>?_);exact aN _ (aO _ _) ⟨rfl,rfl⟩
def wW (a0:Int):Option ByteArray:=
 if a0=29 then
  δ (⟨#[59]⟩:ByteArray)
 else
 δ (⟨#[58]⟩:ByteArray)
theorem PX{a0:Int}{σ:Heap}{r:ByteArray}(h:wW a0=δ r):FQ [(η a0)] σ=δ ((Γ r),σ):=by
 refine iI (f:=Kx) (y0:=(η a0)) (enc:=λr:ByteArray=>(Γ r)) (T:=wW a0) rfl rfl ?_ r h;unfold Kx wW;refine aj _ (cM _ _ _) ?_;refine bR (p:=a0=29) (λc1=>?_) (λc1=>?_)
 ·exact aN _ (aO _ _) ⟨rfl,rfl⟩
 exact aN _ (aO _ _) ⟨rfl,rfl⟩
def Cx (a0:Int) (a1:iM):Option ByteArray:=(uZ a1.hours).bind λr1=>(ig r1 (⟨#[58]⟩:ByteArray)).bind λx2=>(uZ a1.minutes).bind λr3=>(ig x2 r3).bind λx4=>(ig x4 (⟨#[58]⟩:ByteArray)).bind λx5=>(uZ a1.seconds).bind λr6=>(ig x5 r6).bind λx7=>(wW a0).bind λr8=>(ig x7 r8).bind λx9=>(uZ a1.frames).bind λcz=>(ig x9 cz).bind λaX=>δ aX
theorem ake{a0:Int}{a1:iM}{σ:Heap}{r:ByteArray}(h:Cx a0 a1=δ r):Kn [(η a0),(n9 (iT a1))] σ=δ ((Γ r),σ):=by refine iJ (f:=Kz) (y0:=(η a0)) (y1:=(n9 (iT a1))) (enc:=λr:ByteArray=>(Γ r)) (T:=Cx a0 a1) rfl rfl ?_ r h;unfold Kz Cx;refine aj _ rfl<|aj _ rfl ?_;refine aL (λr1:ByteArray=>(Γ r1)) (λr1 bn=>(dX (FV bn))) (λr1 bn=>?_);refine aL (λx2:ByteArray=>(Γ x2)) (λx2 hx2=>(jf hx2)) (λx2 hx2=>?_);refine aj _ rfl ?_;refine aL (λr3:ByteArray=>(Γ r3)) (λr3 gC=>(dX (FV gC))) (λr3 gC=>?_);refine aL (λx4:ByteArray=>(Γ x4)) (λx4 mS=>(jf mS)) (λx4 mS=>?_);refine aL (λx5:ByteArray=>(Γ x5)) (λx5 yg=>(jf yg)) (λx5 yg=>?_);refine aj _ rfl ?_;refine aL (λr6:ByteArray=>(Γ r6)) (λr6 th=>(dX (FV th))) (λr6 th=>?_);refine aL (λx7:ByteArray=>(Γ x7)) (λx7 EA=>(jf EA)) (λx7 EA=>?_);refine aL (λr8:ByteArray=>(Γ r8)) (λr8 Ex=>(dX (PX Ex))) (λr8 Ex=>?_);refine aL (λx9:ByteArray=>(Γ x9)) (λx9 jB=>(jf jB)) (λx9 jB=>?_);refine aj _ rfl ?_;refine aL (λcz:ByteArray=>(Γ cz)) (λcz pL=>(dX (FV pL))) (λcz pL=>?_);refine aL (λaX:ByteArray=>(Γ aX)) (λaX mO=>(jf mO)) (λaX mO=>?_);exact aN _ (aO _ _) ⟨rfl,rfl⟩
def uV (a0:Int):Option Int:=
 if a0=29 then
  δ 30
 else
 δ a0
theorem JG{a0:Int}{σ:Heap}{r:Int}(h:uV a0=δ r):Ck [(η a0)] σ=δ ((η r),σ):=by
 refine iI (f:=JN) (y0:=(η a0)) (enc:=λr:Int=>(η r)) (T:=uV a0) rfl rfl ?_ r h;unfold JN uV;refine aj _ (cM _ _ _) ?_;refine bR (p:=a0=29) (λc1=>?_) (λc1=>?_)
 ·exact aN _ (aO _ _) ⟨rfl,rfl⟩
 exact aN _ (aO _ _) ⟨rfl,rfl⟩
def uW (a0:Int) (a1:iM):Option Int:=
 (rW a0).bind λr1=>
 if ¬(r1=0)then
  δ r1
 else
 (if(!(((!(aI a1.hours 0 23))||(!(aI a1.minutes 0 59)))||(!(aI a1.seconds 0 59))))=θ then uV a0 else δ default).bind λr2=>
 if((((!(aI a1.hours 0 23))||(!(aI a1.minutes 0 59)))||(!(aI a1.seconds 0 59)))||(!(aI a1.frames 0 (ε.wrap (r2-1)))))=θ then
  δ 1
 else
 δ (if((((decide (a0=29))&&(decide (a1.frames<2)))&&(decide (a1.seconds=0)))&&(decide (0<Xy a1.minutes 10)))=θ then 8 else 0)
theorem ai3{a0:Int}{a1:iM}{σ:Heap}{r:Int}(h:uW a0 a1=δ r):J5 [(η a0),(n9 (iT a1))] σ=δ ((η r),σ):=by
 refine iJ (f:=J9) (y0:=(η a0)) (y1:=(n9 (iT a1))) (enc:=λr:Int=>(η r)) (T:=uW a0 a1) rfl rfl ?_ r h;unfold J9 uW;refine aj _ rfl ?_;refine aL (λr1:Int=>((η r1),σ)) (λr1 bn=>FO bn) (λr1 bn=>?_);refine aj _ (fI _ _ _) ?_;refine bR (p:=¬(r1=0)) (λc4=>?_) (λc4=>?_)
 ·exact aN _ (aO _ _) ⟨rfl,rfl⟩
 refine aj _ rfl<|aj _ (dX (gr a1.hours 0 23 σ))<|aj _ rfl<|bf (η a1.minutes) (λhg=>rfl)<|bf (ψ (aI a1.minutes 0 59)) (λhg=>by(try rw[hg]);exact(dX (gr a1.minutes 0 59 σ)))<|bf (ψ (!(aI a1.minutes 0 59))) (λhg=>by(try rw[hg]);exact rfl)<|aj _ (eF _ _)<|bf (η a1.seconds) (λhg=>rfl)<|bf (ψ (aI a1.seconds 0 59)) (λhg=>by(try rw[hg]);exact(dX (gr a1.seconds 0 59 σ)))<|bf (ψ (!(aI a1.seconds 0 59))) (λhg=>by(try rw[hg]);exact rfl)<|aj _ (eF _ _)<|bf (η a1.frames) (λhg=>rfl)<|bf (η a0) (λhg=>rfl) ?_;refine Bq (ω:=Int) (λr2=>(η r2)) (λhg r2 hr2=>by(try rw[hg]);exact(dX (JG hr2))) (λr2 hr2=>?_);refine bf (η (ε.wrap (r2-1))) (λhg=>by(try rw[hg]);exact rfl)<|bf (ψ (aI a1.frames 0 (ε.wrap (r2-1)))) (λhg=>by(try rw[hg]);exact(dX (gr a1.frames 0 (ε.wrap (r2-1)) σ)))<|bf (ψ (!(aI a1.frames 0 (ε.wrap (r2-1))))) (λhg=>by(try rw[hg]);exact rfl)<|aj _ (eF _ _) ?_;refine cR (c:=((((!(aI a1.hours 0 23))||(!(aI a1.minutes 0 59)))||(!(aI a1.seconds 0 59)))||(!(aI a1.frames 0 (ε.wrap (r2-1)))))) (λc3=>?_) (λc3=>?_)
 ·exact aN _ (aO _ _) ⟨rfl,rfl⟩
 refine aj _ (cM _ _ _)<|bl (η a1.frames) (λhg=>rfl)<|bl (ψ (decide (a1.frames<2))) (λhg=>by(try rw[hg]);exact rfl)<|aj _ (ga _ _)<|bl (η a1.seconds) (λhg=>rfl)<|bl (ψ (decide (a1.seconds=0))) (λhg=>by(try rw[hg]);exact(cM _ _ _))<|aj _ (ga _ _)<|bl (η a1.minutes) (λhg=>rfl)<|bl (η (Xy a1.minutes 10)) (λhg=>by(try rw[hg]);exact(vO _ _ (by decide)))<|bl (ψ (decide (0<Xy a1.minutes 10))) (λhg=>by(try rw[hg]);exact rfl)<|aj _ (ga _ _)<|aj _ (qc ((((decide (a0=29))&&(decide (a1.frames<2)))&&(decide (a1.seconds=0)))&&(decide (0<Xy a1.minutes 10))) 8 σ) ?_;exact aN _ (aO _ _) ⟨rfl,rfl⟩
def wS (a0:Int) (a1:iM):Option Int:=
 (uV a0).bind λr1=>
 (show Option Int from
   if a0=29 then
    δ (ε.wrap (ε.wrap (ε.wrap ((ε.wrap (ε.wrap ((ε.wrap (ε.wrap (a1.hours*60)+a1.minutes))*60)+a1.seconds))*r1)+a1.frames) -(ε.wrap (2*(ε.wrap (ε.wrap (ε.wrap (a1.hours*60)+a1.minutes) -(ε.wrap (Vu (ε.wrap (ε.wrap (a1.hours*60)+a1.minutes)) 10))))))))
   else
   δ (ε.wrap (ε.wrap ((ε.wrap (ε.wrap ((ε.wrap (ε.wrap (a1.hours*60)+a1.minutes))*60)+a1.seconds))*r1)+a1.frames))).bind λj3=>
 δ j3
theorem Yu{a0:Int}{a1:iM}{σ:Heap}{r:Int}(h:wS a0 a1=δ r):JT [(η a0),(n9 (iT a1))] σ=δ ((η r),σ):=by
 refine iJ (f:=JX) (y0:=(η a0)) (y1:=(n9 (iT a1))) (enc:=λr:Int=>(η r)) (T:=wS a0 a1) rfl rfl ?_ r h;unfold JX wS;refine aj _ rfl<|aj _ rfl<|aj _ rfl<|aj _ rfl<|aj _ rfl<|aj _ rfl<|aj _ rfl<|aj _ rfl ?_;refine aL (λr1:Int=>(η r1)) (λr1 bn=>(dX (JG bn))) (λr1 bn=>?_);refine aj _ rfl<|aj _ rfl<|aj _ rfl<|aj _ (cM _ _ _) ?_
 refine kP (ω:=Int) (λj3 a=>a=(([(η j3)]:au),σ)) (
   by
    refine bR (p:=a0=29) (λc2=>?_) (λc2=>?_)
    ·refine aj _ (vN _ _ (by decide))<|aj _ rfl<|aj _ rfl<|aj _ rfl ?_;exact aS rfl
    exact aS rfl
   ) (λj3 a ha=>?_)
 subst ha;exact aN _ (aO _ _) ⟨rfl,rfl⟩
def Cn (a0:Int) (a1:Int):Option iM:=
 (show Option Int from
   if a0=29 then
    (show Option Int from
      if 1800<=Xy a1 17982 then
       δ (ε.wrap (ε.wrap (a1+ε.wrap (18*(ε.wrap (Vu a1 17982))))+ε.wrap (2*(ε.wrap (1+ε.wrap (Vu (ε.wrap (Xy a1 17982-1800)) 1798))))))
      else
      δ (ε.wrap (a1+ε.wrap (18*(ε.wrap (Vu a1 17982)))))).bind λj2=>
    δ j2
   else
   δ a1).bind λj6=>
 (uV a0).bind λr9=>
 (xU j6 r9).bind λaQ=>
 (xV j6 r9).bind λaX=>
 δ (⟨ε.wrap (Vu aQ 3600),Xy (ε.wrap (Vu aQ 60)) 60,Xy aQ 60,aX⟩:iM)
theorem ajd{a0:Int}{a1:Int}{σ:Heap}{r:iM}(h:Cn a0 a1=δ r):JI [(η a0),(η a1)] σ=δ ((n9 (iT r)),σ):=by
 refine iJ (f:=JO) (y0:=(η a0)) (y1:=(η a1)) (enc:=λr:iM=>(n9 (iT r))) (T:=Cn a0 a1) rfl rfl ?_ r h;unfold JO Cn;refine aj _ (cM _ _ _) ?_
 refine kP (ω:=Int) (λj6 a=>a=(([(η j6),(XK (iT (⟨0,0,0,0⟩:iM)))]:au),σ)) (
   by
    refine bR (p:=a0=29) (λc5=>?_) (λc5=>?_)
    ·refine aj _ (vN _ _ (by decide))<|aj _ (vO _ _ (by decide))<|aj _ rfl<|aj _ rfl<|aj _ rfl ?_
     refine kP (ω:=Int) (λj2 a=>a=(([(η j2),(XK (iT (⟨0,0,0,0⟩:iM)))]:au),σ)) (
       by
        refine bR (p:=1800<=Xy a1 17982) (λc1=>?_) (λc1=>?_)
        ·refine aj _ rfl<|aj _ (vN _ _ (by decide))<|aj _ rfl<|aj _ rfl<|aj _ rfl ?_;exact aS rfl
        exact aS rfl
       ) (λj2 a ha=>?_)
     subst ha;exact aS rfl
    exact aS rfl
   ) (λj6 a ha=>?_)
 subst ha;refine aL (λr9:Int=>((η r9),σ)) (λr9 Ey=>JG Ey) (λr9 Ey=>?_);refine aL (λaQ:Int=>(η aQ)) (λaQ DM=>TS DM) (λaQ DM=>?_);refine aj _ (vN _ _ (by decide))<|aj _ (vN _ _ (by decide))<|aj _ (vO _ _ (by decide))<|aj _ (vO _ _ (by decide)) ?_;refine aL (λaX:Int=>(η aX)) (λaX mO=>TU mO) (λaX mO=>?_);refine aj (n9 (iT (⟨ε.wrap (Vu aQ 3600),Xy (ε.wrap (Vu aQ 60)) 60,Xy aQ 60,aX⟩:iM))) rfl<|aj _ rfl<|aj (iT (⟨ε.wrap (Vu aQ 3600),Xy (ε.wrap (Vu aQ 60)) 60,Xy aQ 60,aX⟩:iM)) rfl<|aj _ (acI _ _ rfl)<|aj (n9 (iT (⟨ε.wrap (Vu aQ 3600),Xy (ε.wrap (Vu aQ 60)) 60,Xy aQ 60,aX⟩:iM))) rfl ?_;exact aN _ (aO _ _) ⟨rfl,rfl⟩
def wR (a0:Int):Option ByteArray:=
 if a0=1 then
  δ (⟨#[103,111]⟩:ByteArray)
 else
 if a0=2 then
  δ (⟨#[98,97,99,107]⟩:ByteArray)
 else
 if a0=3 then
  δ (⟨#[106,117,109,112]⟩:ByteArray)
 else
 if a0=4 then
  δ (⟨#[112,97,117,115,101]⟩:ByteArray)
 else
 if a0=5 then
  δ (⟨#[114,101,115,117,109,101]⟩:ByteArray)
 else
 if a0=6 then
  δ (⟨#[114,101,108,101,97,115,101]⟩:ByteArray)
 else
 δ (⟨#[102,97,100,101,114]⟩:ByteArray)
theorem Pq{a0:Int}{σ:Heap}{r:ByteArray}(h:wR a0=δ r):Fv [(η a0)] σ=δ ((Γ r),σ):=by
 refine iI (f:=Jq) (y0:=(η a0)) (enc:=λr:ByteArray=>(Γ r)) (T:=wR a0) rfl rfl ?_ r h;unfold Jq wR;refine aj _ (cM _ _ _) ?_;refine bR (p:=a0=1) (λc6=>?_) (λc6=>?_)
 ·exact aN _ (aO _ _) ⟨rfl,rfl⟩
 refine aj _ (cM _ _ _) ?_;refine bR (p:=a0=2) (λc5=>?_) (λc5=>?_)
 ·exact aN _ (aO _ _) ⟨rfl,rfl⟩
 refine aj _ (cM _ _ _) ?_;refine bR (p:=a0=3) (λc4=>?_) (λc4=>?_)
 ·exact aN _ (aO _ _) ⟨rfl,rfl⟩
 refine aj _ (cM _ _ _) ?_;refine bR (p:=a0=4) (λc3=>?_) (λc3=>?_)
 ·exact aN _ (aO _ _) ⟨rfl,rfl⟩
 refine aj _ (cM _ _ _) ?_;refine bR (p:=a0=5) (λc2=>?_) (λc2=>?_)
 ·exact aN _ (aO _ _) ⟨rfl,rfl⟩
 refine aj _ (cM _ _ _) ?_;refine bR (p:=a0=6) (λc1=>?_) (λc1=>?_)
 ·exact aN _ (aO _ _) ⟨rfl,rfl⟩
 exact aN _ (aO _ _) ⟨rfl,rfl⟩
def Ay (a0:Int):Option ByteArray:=(yD a0).bind λr1=>δ r1
theorem aji{a0:Int}{σ:Heap}{r:ByteArray}(h:Ay a0=δ r):Ju [(η a0)] σ=δ ((Γ r),σ):=by refine iI (f:=JA) (y0:=(η a0)) (enc:=λr:ByteArray=>(Γ r)) (T:=Ay a0) rfl rfl ?_ r h;unfold JA Ay;refine aL (λr1:ByteArray=>((Γ r1),σ)) (λr1 bn=>aj4 bn) (λr1 bn=>?_);exact aN _ (aO _ _) ⟨rfl,rfl⟩
def Cg (a0:bF):Option ByteArray:=
 (uX a0.level).bind λr1=>
 if a0.kind=8 then
  (ig (⟨#[103,114,97,110,100,32]⟩:ByteArray) r1.1).bind λx2=>
  δ x2
 else
 if((decide (a0.kind=9))&&(decide (a0.level=1)))=θ then
  δ (⟨#[98,108,97,99,107]⟩:ByteArray)
 else
 if a0.kind=9 then
  δ (⟨#[108,105,103,104,116]⟩:ByteArray)
 else
 (wR a0.kind).bind λr3=>
 (ig r3 (⟨#[32]⟩:ByteArray)).bind λx4=>
 (tq (aG a0.bB) (lN a0.bB)).bind λr5=>
 (ig x4 r5).bind λx6=>
 (show Option ByteArray from
   if a0.kind=3 then
    (Ay a0.gf).bind λr7=>
    (ig (⟨#[32]⟩:ByteArray) r7).bind λx8=>
    (ig x6 x8).bind λx9=>
    δ x9
   else
   (show Option ByteArray from
     if a0.kind=6 then
      (yE a0.level).bind λcz=>
      (ig (⟨#[32]⟩:ByteArray) cz.1).bind λaX=>
      (ig x6 aX).bind λbI=>
      δ bI
     else
     (show Option ByteArray from
       if a0.kind=7 then
        (ig (⟨#[32]⟩:ByteArray) r1.1).bind λbJ=>
        (ig x6 bJ).bind λbV=>
        δ bV
       else
       δ x6).bind λIt=>
     δ It).bind λtu=>
   δ tu).bind λIu=>
 δ Iu
theorem akH{a0:bF}{σ:Heap}{r:ByteArray}(h:Cg a0=δ r):Jj [(n9 (dS a0))] σ=δ ((Γ r),σ):=by
 refine iI (f:=Jp) (y0:=(n9 (dS a0))) (enc:=λr:ByteArray=>(Γ r)) (T:=Cg a0) rfl rfl ?_ r h;unfold Jp Cg;refine aj _ rfl<|aj _ rfl ?_;refine aL (λr1:(ByteArray×Int)=>((p7 [(Γ r1.1),(η r1.2)]),σ)) (λr1 bn=>aiW bn) (λr1 bn=>?_);refine aj _ rfl<|aj _ rfl<|aj _ rfl<|aj _ (cM _ _ _) ?_;refine bR (p:=a0.kind=8) (λff=>?_) (λff=>?_)
 ·refine aL (λx2:ByteArray=>(Γ x2)) (λx2 hx2=>(jf hx2)) (λx2 hx2=>?_);exact aN _ (aO _ _) ⟨rfl,rfl⟩
 refine aj _ rfl<|aj _ (cM _ _ _)<|bl (η a0.level) (λhg=>rfl)<|bl (ψ (decide (a0.level=1))) (λhg=>by(try rw[hg]);exact(cM _ _ _))<|aj _ (ga _ _) ?_;refine cR (c:=((decide (a0.kind=9))&&(decide (a0.level=1)))) (λsS=>?_) (λsS=>?_)
 ·exact aN _ (aO _ _) ⟨rfl,rfl⟩
 refine aj _ rfl<|aj _ (cM _ _ _) ?_;refine bR (p:=a0.kind=9) (λsR=>?_) (λsR=>?_)
 ·exact aN _ (aO _ _) ⟨rfl,rfl⟩
 refine aj _ rfl ?_;refine aL (λr3:ByteArray=>(Γ r3)) (λr3 gC=>(dX (Pq gC))) (λr3 gC=>?_);refine aL (λx4:ByteArray=>(Γ x4)) (λx4 mS=>(jf mS)) (λx4 mS=>?_);refine aj _ rfl ?_;refine aL (λr5:ByteArray=>(Γ r5)) (λr5 td=>(dX ((eP (e:=λr:ByteArray=>((Γ r),σ)) (λhs=>tU a0.bB hs σ)) td))) (λr5 td=>?_);refine aL (λx6:ByteArray=>(Γ x6)) (λx6 yh=>(jf yh)) (λx6 yh=>?_);refine aj _ rfl<|aj _ (cM _ _ _) ?_
 refine kP (ω:=ByteArray) (λIu a=>a=(([(Γ Iu)]:au),σ)) (
   by
    refine bR (p:=a0.kind=3) (λjm=>?_) (λjm=>?_)
    ·refine aj _ rfl ?_;refine aL (λr7:ByteArray=>((Γ r7),σ)) (λr7 Ew=>aji Ew) (λr7 Ew=>?_);refine aL (λx8:ByteArray=>(Γ x8)) (λx8 yj=>(jf yj)) (λx8 yj=>?_);refine aL (λx9:ByteArray=>(Γ x9)) (λx9 jB=>(jf jB)) (λx9 jB=>?_);exact aS rfl
    refine aj _ (cM _ _ _) ?_
    refine kP (ω:=ByteArray) (λtu a=>a=(([(Γ tu)]:au),σ)) (
      by
       refine bR (p:=a0.kind=6) (λoV=>?_) (λoV=>?_)
       ·refine aj _ rfl ?_;refine aL (λcz:(ByteArray×Int)=>((p7 [(Γ cz.1),(η cz.2)]),σ)) (λcz pL=>X1 pL) (λcz pL=>?_);refine aj _ rfl<|aj _ rfl ?_;refine aL (λaX:ByteArray=>(Γ aX)) (λaX mO=>(jf mO)) (λaX mO=>?_);refine aL (λbI:ByteArray=>(Γ bI)) (λbI DN=>(jf DN)) (λbI DN=>?_);exact aS rfl
       refine aj _ (cM _ _ _) ?_
       refine kP (ω:=ByteArray) (λIt a=>a=(([(Γ It)]:au),σ)) (
         by
          refine bR (p:=a0.kind=7) (λlT=>?_) (λlT=>?_)
          ·refine aL (λbJ:ByteArray=>(Γ bJ)) (λbJ DO=>(jf DO)) (λbJ DO=>?_);refine aL (λbV:ByteArray=>(Γ bV)) (λbV Vl=>(jf Vl)) (λbV Vl=>?_);exact aS rfl
          exact aS rfl
         ) (λIt a ha=>?_)
       subst ha;exact aS rfl
      ) (λtu a ha=>?_)
    subst ha;exact aS rfl
   ) (λIu a ha=>?_)
 subst ha;exact aN _ (aO _ _) ⟨rfl,rfl⟩
end
section
def uR (a0:(List ByteArray)):Option (bF×Bool):=
 (if decide ((a0.length:Int)=1)=θ then eL a0 0 else δ default).bind λx1=>
 (if(decide ((a0.length:Int)=1)&&(!(decide (x1=(⟨#[98,108,97,99,107]⟩:ByteArray)))))=θ then eL a0 0 else δ default).bind λx2=>
 if((decide ((a0.length:Int)=1))&&((decide (x1=(⟨#[98,108,97,99,107]⟩:ByteArray)))||(decide (x2=(⟨#[108,105,103,104,116]⟩:ByteArray)))))=θ then
  (eL a0 0).bind λx3=>
  (show Option bF from
    if x3=(⟨#[98,108,97,99,107]⟩:ByteArray)then
     δ ({{(⟨0,0,0,0,0⟩:bF)with kind:=9}with level:=1})
    else
    δ ({(⟨0,0,0,0,0⟩:bF)with kind:=9})).bind λj5=>
  δ (j5,θ)
 else
 (if decide ((a0.length:Int)=2)=θ then eL a0 0 else δ default).bind λx8=>
 if((decide ((a0.length:Int)=2))&&(decide (x8=(⟨#[103,114,97,110,100]⟩:ByteArray))))=θ then
  (eL a0 1).bind λx9=>
  (tL x9).bind λcz=>
  δ ((⟨0,8,0,0,cz.1⟩:bF),decide (cz.2=0))
 else
 mh (λ(jc:(bF×Int))=>(show Option (Lr (bF×Int) bF Unit)from
   if jc.2<=7 then
    (wR jc.2).bind λjD=>
    (eL a0 0).bind λcm=>
    (show Option bF from
      if jD=cm then
       δ ({jc.1 with kind:=jc.2})
      else
      δ jc.1).bind λtu=>
    δ (.go (tu,ε.wrap (jc.2+1)))
   else
   δ (.kQ jc.1))) ((⟨0,0,0,0,0⟩:bF),1) (λcP=>
  if((decide (cP.kind=0))||(decide ((a0.length:Int)<2)))=θ then
   δ (cP,ξ)
  else
  (eL a0 1).bind λcC=>
  (rV cC).bind λcj=>
  if(((!cj.2)||((!(((decide (({cP with bB:=cj.1}).kind=3))||(decide (({cP with bB:=cj.1}).kind=6)))||(decide (({cP with bB:=cj.1}).kind=7))))&&(decide (¬((a0.length:Int)=2)))))||((((decide (({cP with bB:=cj.1}).kind=3))||(decide (({cP with bB:=cj.1}).kind=6)))||(decide (({cP with bB:=cj.1}).kind=7)))&&(decide (¬((a0.length:Int)=3)))))=θ then
   δ ({cP with bB:=cj.1},ξ)
  else
  (show Option (bF×Bool×Int)from
    if({cP with bB:=cj.1}).kind=3 then
     (eL a0 2).bind λeY=>
     (uS eY).bind λlX=>
     δ ({{cP with bB:=cj.1}with gf:=lX.1},lX.2,0)
    else
    (show Option (bF×Int)from
      if({cP with bB:=cj.1}).kind=6 then
       (eL a0 2).bind λdL=>
       (uT dL).bind λtC=>
       δ ({{cP with bB:=cj.1}with level:=tC.1},tC.2)
      else
      (show Option (bF×Int)from
        if({cP with bB:=cj.1}).kind=7 then
         (eL a0 2).bind λdh=>
         (tL dh).bind λrG=>
         δ ({{cP with bB:=cj.1}with level:=rG.1},rG.2)
        else
        δ ({cP with bB:=cj.1},0)).bind λB0=>
      δ (B0.1,B0.2)).bind λB1=>
    δ (B1.1,cj.2,B1.2)).bind λuH=>
  δ (uH.1,(uH.2.1&&(decide (uH.2.2=0))))) (λcP=>
  μ)
set_option maxHeartbeats 4000000 in
theorem ai7{a0:(List ByteArray)}{σ:Heap}{r:(bF×Bool)}(h:uR a0=δ r):Jk [(sl 1 jh a0)] σ=δ ((p7 [(n9 (dS r.1)),(ψ r.2)]),σ):=by
 refine iI (f:=Jr) (y0:=(sl 1 jh a0)) (enc:=λr:(bF×Bool)=>(p7 [(n9 (dS r.1)),(ψ r.2)])) (T:=uR a0) rfl rfl ?_ r h;unfold Jr uR;refine aj _ (fu _ _ _)<|aj _ (cM _ _ _)<|bl (sl 1 jh a0) (λhg=>rfl) ?_;refine mC (ω:=ByteArray) (λx1=>(YH [(Γ x1)])) (λhg x1 hx1=>by(try rw[hg]);exact kq hx1) (λx1 hx1=>?_);refine bl (Γ x1) (λhg=>by(try rw[hg]);exact rfl)<|bl (ψ (decide (x1=(⟨#[98,108,97,99,107]⟩:ByteArray)))) (λhg=>by(try rw[hg]);exact(oO _ _))<|bl (ψ (decide (x1=(⟨#[98,108,97,99,107]⟩:ByteArray)))) (λhg=>by(try rw[hg]);exact rfl)<|jJ (sl 1 jh a0) (λhg=>rfl) ?_
 refine Mh (ω:=ByteArray) (λx2=>(YH [(Γ x2)])) (λhg x2 hx2=>by(try rw[hg]);exact kq hx2) (λx2 hx2=>?_);refine jJ (Γ x2) (λhg=>by(try rw[hg]);exact rfl)<|jJ (ψ (decide (x2=(⟨#[108,105,103,104,116]⟩:ByteArray)))) (λhg=>by(try rw[hg]);exact(oO _ _))<|bl (ψ ((decide (x1=(⟨#[98,108,97,99,107]⟩:ByteArray)))||(decide (x2=(⟨#[108,105,103,104,116]⟩:ByteArray))))) (λhg=>by(try rw[hg]);exact(eF _ _))<|aj _ (ga _ _) ?_
 refine cR (c:=((decide ((a0.length:Int)=1))&&((decide (x1=(⟨#[98,108,97,99,107]⟩:ByteArray)))||(decide (x2=(⟨#[108,105,103,104,116]⟩:ByteArray)))))) (λsV=>?_) (λsV=>?_)
 ·refine aj [(η 9)] rfl<|aj (dS ({(⟨0,0,0,0,0⟩:bF)with kind:=9})) rfl ?_;refine aL (λx3:ByteArray=>(YH [(Γ x3)])) (λx3 hx3=>kq hx3) (λx3 hx3=>?_);refine aj _ rfl<|aj _ (oO _ _) ?_
  refine kP (ω:=bF) (λj5 a=>a=(([(XK (dS (⟨0,0,0,0,0⟩:bF))),(XK (dS j5))]:au),σ)) (
    by
     refine bR (p:=x3=(⟨#[98,108,97,99,107]⟩:ByteArray)) (λc4=>?_) (λc4=>?_)
     ·refine aj [(η 1)] rfl<|aj (dS ({{(⟨0,0,0,0,0⟩:bF)with kind:=9}with level:=1})) rfl ?_;exact aS rfl
     exact aS rfl
    ) (λj5 a ha=>?_)
  subst ha;refine aj _ rfl<|aj _ rfl<|aj _ rfl<|aj _ (AT _ _ rfl)<|aj _ rfl ?_;exact aN _ (aO _ _) ⟨rfl,rfl⟩
 refine aj _ (fu _ _ _)<|aj _ (cM _ _ _)<|bl (sl 1 jh a0) (λhg=>rfl) ?_;refine mC (ω:=ByteArray) (λx8=>(YH [(Γ x8)])) (λhg x8 yj=>by(try rw[hg]);exact kq yj) (λx8 yj=>?_);refine bl (Γ x8) (λhg=>by(try rw[hg]);exact rfl)<|bl (ψ (decide (x8=(⟨#[103,114,97,110,100]⟩:ByteArray)))) (λhg=>by(try rw[hg]);exact(oO _ _))<|aj _ (ga _ _) ?_
 refine cR (c:=((decide ((a0.length:Int)=2))&&(decide (x8=(⟨#[103,114,97,110,100]⟩:ByteArray))))) (λzH=>?_) (λzH=>?_)
 ·refine aL (λx9:ByteArray=>(YH [(Γ x9)])) (λx9 jB=>kq jB) (λx9 jB=>?_);refine aj _ rfl ?_;refine aL (λcz:(Int×Int)=>((p7 [(η cz.1),(η cz.2)]),σ)) (λcz pL=>PW pL) (λcz pL=>?_);refine aj _ rfl<|aj _ rfl<|aj (n9 (dS (⟨0,8,0,0,cz.1⟩:bF))) rfl<|aj _ (cM _ _ _)<|aj (dS (⟨0,8,0,0,cz.1⟩:bF)) rfl<|aj _ (AT _ _ rfl)<|aj (n9 (dS (⟨0,8,0,0,cz.1⟩:bF))) rfl ?_;exact aN _ (aO _ _) ⟨rfl,rfl⟩
 refine HF (B:=bF) (R:=Unit) (λ(jc:(bF×Int))v WE=>v=[(XK (dS (⟨0,0,0,0,0⟩:bF))),(XK (dS jc.1)),(η jc.2)]/\σ=WE) (λ(cP:bF)(q:LS)=>∃u7,q=((eN 0),([(XK (dS (⟨0,0,0,0,0⟩:bF))),(XK (dS cP)),u7]:au),σ)) (λ(cP:Unit)(q:LS)=>False) ?_ ⟨rfl,rfl⟩ ?_ ?_
 ·intro jc v WE hI;obtain⟨rfl,rfl⟩:=hI;refine aj _ rfl ?_;refine bR (p:=jc.2<=7) (λjm=>?_) (λjm=>?_)
  ·refine aL (λjD:ByteArray=>(Γ jD)) (λjD Va=>(dX (Pq Va))) (λjD Va=>?_);refine aL (λcm:ByteArray=>(YH [(Γ cm)])) (λcm Vn=>kq Vn) (λcm Vn=>?_);refine aj _ rfl<|aj _ (oO _ _) ?_
   refine kP (ω:=bF) (λtu a=>a=(([(XK (dS (⟨0,0,0,0,0⟩:bF))),(XK (dS tu))]:au),σ)) (
     by
      refine bR (p:=jD=cm) (λoV=>?_) (λoV=>?_)
      ·refine aj _ rfl<|aj _ rfl<|aj [(η jc.2)] rfl<|aj _ rfl ?_;exact aS rfl
      exact aS rfl
     ) (λtu a ha=>?_)
   subst ha;refine aj _ rfl ?_;exact aS (ke ⟨rfl,rfl⟩)
  exact aS (C9 (by simp) ⟨_,rfl⟩)
 ·intro cP q hq;obtain⟨u7,rfl⟩:=hq;refine fF rfl<|aj _ rfl<|aj _ rfl<|aj _ (cM _ _ _)<|bf (sl 1 jh a0) (λhg=>rfl)<|bf (η (a0.length:Int)) (λhg=>by(try rw[hg]);exact(fu _ _ _))<|bf (ψ (decide ((a0.length:Int)<2))) (λhg=>by(try rw[hg]);exact rfl)<|aj _ (eF _ _) ?_;refine cR (c:=((decide (cP.kind=0))||(decide ((a0.length:Int)<2)))) (λzG=>?_) (λzG=>?_)
  ·refine aj _ rfl<|aj _ rfl<|aj _ rfl<|aj _ (AT _ _ rfl)<|aj _ rfl ?_;exact aN _ (aO _ _) ⟨rfl,rfl⟩
  refine aL (λcC:ByteArray=>(YH [(Γ cC)])) (λcC DP=>kq DP) (λcC DP=>?_);refine aj _ rfl ?_;refine aL (λcj:(Int×Bool)=>((p7 [(η cj.1),(ψ cj.2)]),σ)) (λcj DI=>J2 DI) (λcj DI=>?_);refine aj _ rfl<|aj _ rfl<|aj _ rfl<|aj _ rfl<|aj [(η cj.1)] rfl<|aj (dS {cP with bB:=cj.1}) rfl<|aj _ rfl<|aj _ (cM _ _ _)<|bf (η (({cP with bB:=cj.1}).kind)) (λhg=>rfl)<|bf (ψ (decide (({cP with bB:=cj.1}).kind=6))) (λhg=>by(try rw[hg]);exact(cM _ _ _))<|aj _ (eF _ _)<|bf (η (({cP with bB:=cj.1}).kind)) (λhg=>rfl)<|bf (ψ (decide (({cP with bB:=cj.1}).kind=7))) (λhg=>by(try rw[hg]);exact(cM _ _ _))<|aj _ (eF _ _)<|aj _ rfl<|bf (ψ (((decide (({cP with bB:=cj.1}).kind=3))||(decide (({cP with bB:=cj.1}).kind=6)))||(decide (({cP with bB:=cj.1}).kind=7)))) (λhg=>rfl)<|bf (ψ (!(((decide (({cP with bB:=cj.1}).kind=3))||(decide (({cP with bB:=cj.1}).kind=6)))||(decide (({cP with bB:=cj.1}).kind=7))))) (λhg=>by(try rw[hg]);exact rfl)<|bf (ψ (!(((decide (({cP with bB:=cj.1}).kind=3))||(decide (({cP with bB:=cj.1}).kind=6)))||(decide (({cP with bB:=cj.1}).kind=7))))) (λhg=>by(try rw[hg]);exact rfl)<|gM (sl 1 jh a0) (λhg=>rfl)<|gM (η (a0.length:Int)) (λhg=>by(try rw[hg]);exact(fu _ _ _))<|gM (ψ (decide (¬((a0.length:Int)=2)))) (λhg=>by(try rw[hg]);exact(fI _ _ _))<|bf (ψ ((!(((decide (({cP with bB:=cj.1}).kind=3))||(decide (({cP with bB:=cj.1}).kind=6)))||(decide (({cP with bB:=cj.1}).kind=7))))&&(decide (¬((a0.length:Int)=2))))) (λhg=>by(try rw[hg]);exact(ga _ _))<|aj _ (eF _ _)<|bf (ψ (((decide (({cP with bB:=cj.1}).kind=3))||(decide (({cP with bB:=cj.1}).kind=6)))||(decide (({cP with bB:=cj.1}).kind=7)))) (λhg=>rfl)<|bf (ψ (((decide (({cP with bB:=cj.1}).kind=3))||(decide (({cP with bB:=cj.1}).kind=6)))||(decide (({cP with bB:=cj.1}).kind=7)))) (λhg=>by(try rw[hg]);exact rfl)<|gM (sl 1 jh a0) (λhg=>rfl)<|gM (η (a0.length:Int)) (λhg=>by(try rw[hg]);exact(fu _ _ _))<|gM (ψ (decide (¬((a0.length:Int)=3)))) (λhg=>by(try rw[hg]);exact(fI _ _ _))<|bf (ψ ((((decide (({cP with bB:=cj.1}).kind=3))||(decide (({cP with bB:=cj.1}).kind=6)))||(decide (({cP with bB:=cj.1}).kind=7)))&&(decide (¬((a0.length:Int)=3))))) (λhg=>by(try rw[hg]);exact(ga _ _))<|aj _ (eF _ _) ?_;refine cR (c:=(((!cj.2)||((!(((decide (({cP with bB:=cj.1}).kind=3))||(decide (({cP with bB:=cj.1}).kind=6)))||(decide (({cP with bB:=cj.1}).kind=7))))&&(decide (¬((a0.length:Int)=2)))))||((((decide (({cP with bB:=cj.1}).kind=3))||(decide (({cP with bB:=cj.1}).kind=6)))||(decide (({cP with bB:=cj.1}).kind=7)))&&(decide (¬((a0.length:Int)=3)))))) (λD4=>?_) (λD4=>?_)
  ·refine aj _ rfl<|aj _ rfl<|aj _ rfl<|aj _ (AT _ _ rfl)<|aj _ rfl ?_;exact aN _ (aO _ _) ⟨rfl,rfl⟩
  refine aj _ rfl<|aj _ (cM _ _ _) ?_
  refine kP (ω:=(bF×Bool×Int)) (λuH a=>a=(([(XK (dS (⟨0,0,0,0,0⟩:bF))),(XK (dS uH.1)),(ψ uH.2.1),(η uH.2.2)]:au),σ)) (
    by
     refine bR (p:=({cP with bB:=cj.1}).kind=3) (λxX=>?_) (λxX=>?_)
     ·refine aL (λeY:ByteArray=>(YH [(Γ eY)])) (λeY Vq=>kq Vq) (λeY Vq=>?_);refine aj _ rfl ?_;refine aL (λlX:(Int×Bool)=>((p7 [(η lX.1),(ψ lX.2)]),σ)) (λlX Vc=>XX Vc) (λlX Vc=>?_);refine aj _ rfl<|aj _ rfl<|aj [(η lX.1)] rfl<|aj _ rfl ?_;exact aS rfl
     refine aj _ (cM _ _ _) ?_
     refine kP (ω:=(bF×Int)) (λB1 a=>a=(([(XK (dS (⟨0,0,0,0,0⟩:bF))),(XK (dS B1.1)),(η B1.2)]:au),σ)) (
       by
        refine bR (p:=({cP with bB:=cj.1}).kind=6) (λqw=>?_) (λqw=>?_)
        ·refine aL (λdL:ByteArray=>(YH [(Γ dL)])) (λdL Vr=>kq Vr) (λdL Vr=>?_);refine aj _ rfl ?_;refine aL (λtC:(Int×Int)=>((p7 [(η tC.1),(η tC.2)]),σ)) (λtC Vd=>akb Vd) (λtC Vd=>?_);refine aj _ rfl<|aj _ rfl<|aj [(η tC.1)] rfl<|aj _ rfl ?_;exact aS rfl
        refine aj _ (cM _ _ _) ?_
        refine kP (ω:=(bF×Int)) (λB0 a=>a=(([(XK (dS (⟨0,0,0,0,0⟩:bF))),(XK (dS B0.1)),(η B0.2)]:au),σ)) (
          by
           refine bR (p:=({cP with bB:=cj.1}).kind=7) (λzD=>?_) (λzD=>?_)
           ·refine aL (λdh:ByteArray=>(YH [(Γ dh)])) (λdh Vs=>kq Vs) (λdh Vs=>?_);refine aj _ rfl ?_;refine aL (λrG:(Int×Int)=>((p7 [(η rG.1),(η rG.2)]),σ)) (λrG Ve=>PW Ve) (λrG Ve=>?_);refine aj _ rfl<|aj _ rfl<|aj [(η rG.1)] rfl<|aj _ rfl ?_;exact aS rfl
           exact aS rfl
          ) (λB0 a ha=>?_)
        subst ha;exact aS rfl
       ) (λB1 a ha=>?_)
     subst ha;exact aS rfl
    ) (λuH a ha=>?_)
  subst ha;refine aj _ rfl<|bl (η uH.2.2) (λhg=>rfl)<|bl (ψ (decide (uH.2.2=0))) (λhg=>by(try rw[hg]);exact(cM _ _ _))<|aj _ (ga _ _)<|aj _ rfl<|aj _ rfl<|aj _ (AT _ _ rfl)<|aj _ rfl ?_;exact aN _ (aO _ _) ⟨rfl,rfl⟩
 ·intro cP q hq;exact alm hq
end
section
theorem ae9{n:List Int}{j:Nat}(h:j<n.length)(x:Int):w8 j [η x] (n.map (Zx ε))=δ ((n.set j x).map (Zx ε)):=by unfold w8;rw[aE (by simp;omega),List.map_set,List.set_eq_take_append_cons_drop,aE (by simpa using h)];simp
def qI (a1:ByteArray) (s:List Int×Int):Option (Lr (List Int×Int) (List Int) Int):=
 if s.2<4 then
  (jV a1 (δ (ε.wrap (3*s.2))) (δ (ε.wrap (ε.wrap (3*s.2)+2)))).bind λx=>
  (tq (x.size<=9223372036854775807) (jj x)).bind λd=>
  if(!d)=θ then δ (.ret 9)else
  (kF x 0).bind λa=>
  (kF x 1).bind λb=>
  if 0<=s.2/\s.1.length=4 then δ (.go (s.1.set s.2.toNat (ε.wrap (ε.wrap (10*ε.wrap (Y9.wrap (a-48)))+ε.wrap (Y9.wrap (b-48)))),ε.wrap (s.2+1)))else μ
 else δ (.kQ s.1)
def wV (a0:Int) (a1:ByteArray):Option (iM×Int):=
 (rW a0).bind λr1=>
 if ¬(r1=0)then δ (⟨0,0,0,0⟩,r1)else
 (if(!(decide (¬((a1.size:Int)=11))))=θ then kF a1 2 else δ default).bind λx9=>
 (if(!((decide (¬((a1.size:Int)=11)))||(decide (¬(x9=58)))))=θ then kF a1 5 else δ default).bind λbJ=>
 (if(!(((decide (¬((a1.size:Int)=11)))||(decide (¬(x9=58))))||(decide (¬(bJ=58)))))=θ then jV a1 (δ 8) (δ 9)else δ default).bind λcH=>
 (if(!(((decide (¬((a1.size:Int)=11)))||(decide (¬(x9=58))))||(decide (¬(bJ=58)))))=θ then wW a0 else δ default).bind λcI=>
 if((((decide (¬((a1.size:Int)=11)))||(decide (¬(x9=58))))||(decide (¬(bJ=58))))||(decide (¬(cH=cI))))=θ then δ (⟨0,0,0,0⟩,9)else
 mh (qI a1) ([0,0,0,0],0) (λn=>
  (uW a0 ⟨n.getD 0 0,n.getD 1 0,n.getD 2 0,n.getD 3 0⟩).bind λe=>
  if ¬(e=0)then δ (⟨0,0,0,0⟩,e)else δ (⟨n.getD 0 0,n.getD 1 0,n.getD 2 0,n.getD 3 0⟩,0)) (λe:Int=>δ (⟨0,0,0,0⟩,e))
theorem Vw(x:Int):XQ .i (.int .u8 x) (.int .u8 58)=δ (.bool (decide (¬(x=58)))):=afm x 58
theorem ajI{a0:Int}{a1:ByteArray}{σ:Heap}{r:(iM×Int)}(h:wV a0 a1=δ r):Km [(η a0),(Γ a1)] σ=δ ((p7 [(n9 (iT r.1)),(η r.2)]),σ):=by
 refine iJ (f:=Kw) (y0:=(η a0)) (y1:=(Γ a1)) (enc:=λr:(iM×Int)=>(p7 [(n9 (iT r.1)),(η r.2)])) (T:=wV a0 a1) rfl rfl ?_ r h;unfold Kw wV;refine aL (λr1:Int=>((η r1),σ)) (λr1 bn=>FO bn) (λr1 bn=>?_);refine aj _ (fI _ _ _) ?_;refine bR (p:=¬(r1=0)) (λc1=>?_) (λc1=>?_)
 ·refine aj _ rfl<|aj _ rfl<|aj _ rfl ?_;exact aN _ (aO _ _) ⟨rfl,rfl⟩
 refine aj (.ah (a1.size:Int)) rfl<|aj _ (fI _ _ _)<|bf (Γ a1) (λhg=>rfl) ?_;refine Bq (ω:=Int) (λx9=>(Zx .u8 x9)) (λhg x9 jB=>by(try rw[hg]);exact xD jB) (λx9 jB=>?_);refine bf (ψ (decide (¬(x9=58)))) (λhg=>by(try rw[hg]);exact Vw x9)<|aj _ (eF _ _)<|bf (Γ a1) (λhg=>rfl) ?_;refine Bq (ω:=Int) (λbJ=>(Zx .u8 bJ)) (λhg bJ DO=>by(try rw[hg]);exact xD DO) (λbJ DO=>?_);refine bf (ψ (decide (¬(bJ=58)))) (λhg=>by(try rw[hg]);exact Vw bJ)<|aj _ (eF _ _)<|bf (Γ a1) (λhg=>rfl) ?_;refine Bq (ω:=ByteArray) (λcH=>(Γ cH)) (λhg cH Vm=>by(try rw[hg]);exact(qW Vm)) (λcH Vm=>?_);refine bf (η a0) (λhg=>rfl) ?_;refine Bq (ω:=ByteArray) (λcI=>(Γ cI)) (λhg cI Vo=>by(try rw[hg]);exact(dX (PX Vo))) (λcI Vo=>?_);refine bf (ψ (decide (¬(cH=cI)))) (λhg=>by(try rw[hg]);exact HK _ _)<|aj _ (eF _ _) ?_;refine cR (λc2=>?_) (λc2=>?_)
 ·refine aj _ rfl<|aj _ rfl<|aj _ rfl ?_;exact aN _ (aO _ _) ⟨rfl,rfl⟩
 refine HF (B:=List Int) (R:=Int) (λ(s:List Int×Int)v w=>v=[(XK [(η 0),(η 0),(η 0),(η 0)]),(η 0),(XK (s.1.map (Zx ε))),(η s.2)]/\σ=w/\s.1.length=4) (λ(n:List Int)(q:LS)=>(∃u,q=((eN 0),([(XK [(η 0),(η 0),(η 0),(η 0)]),(η 0),(XK (n.map (Zx ε))),u]:au),σ))/\n.length=4) (λ(e:Int)(q:LS)=>∃u v,q=(i7,([(XK [(η 0),(η 0),(η 0),(η 0)]),(η e),u,v]:au),σ)) ?_ ⟨rfl,rfl,rfl⟩ ?_ ?_
 ·intro s v w hI;obtain⟨rfl,rfl,hn⟩:=hI;unfold qI;refine aj _ rfl ?_;refine bR (p:=s.2<4) (λc3=>?_) (λc3=>?_)
  ·refine aj _ rfl<|aj _ rfl<|aj _ rfl ?_;refine aL (λx:ByteArray=>(Γ x)) (λx hx=>qW hx) (λx hx=>?_);refine aL (λd:Bool=>((ψ d),σ)) (λd hd=>eP (e:=λr:Bool=>((ψ r),σ)) (λhs=>Gb x hs σ) hd) (λd hd=>?_);refine aj _ rfl ?_;refine cR (c:=!d) (λc4=>?_) (λc4=>?_)
   ·refine aj _ rfl<|aj _ rfl<|aj _ rfl ?_;exact aS (eM (by simp) ⟨_,_,rfl⟩)
   refine aL (λa:Int=>(Zx .u8 a)) (λa ha=>xD ha) (λa ha=>?_);refine aj _ rfl<|aj _ rfl<|aj _ rfl ?_;refine aL (λb:Int=>(Zx .u8 b)) (λb hb=>xD hb) (λb hb=>?_);refine aj _ rfl<|aj _ rfl<|aj _ rfl ?_;refine MZ λh4=>?_
   have hj:s.2.toNat<s.1.length:=by omega
   refine aj (s.2.toNat:Nat) ?_<|aj (s.1.map (Zx ε)) rfl<|aj _ rfl<|aj _ (ae9 hj _)<|aj _ rfl ?_
   ·show((A.idx 4 (η s.2)).bind λj=>δ (0+j*1))=_
    have e:A.idx 4 (η s.2)=δ s.2.toNat:=by unfold A.idx;exact aE (by omega)
    rw[e];simp
   ·exact aS (ke ⟨rfl,rfl,by simpa using hn⟩)
  ·exact aS (C9 (by simp) ⟨⟨_,rfl⟩,hn⟩)
 ·intro n q hq;obtain⟨⟨u,rfl⟩,hn⟩:=hq
  match n,hn with
  |[n0,n1,n2,n3],_=>
   refine fF rfl ?_;refine aj _ rfl<|aj _ rfl<|aj _ rfl<|aj _ rfl<|aj _ rfl<|aj _ rfl<|aj _ rfl<|aj _ rfl<|aj _ rfl<|aj _ rfl<|aj _ rfl<|aj (.agg (iT ⟨n0,n1,n2,n3⟩)) rfl ?_;refine aL (λe:Int=>((η e),σ)) (λe he=>ai3 he) (λe he=>?_);refine aj _ (fI _ _ _) ?_;refine bR (p:=¬(e=0)) (λc5=>?_) (λc5=>?_)
   ·refine aj _ rfl<|aj _ rfl<|aj _ rfl<|aj _ rfl ?_;exact aN _ (aO _ _) ⟨rfl,rfl⟩
   ·refine aj _ rfl<|aj _ rfl<|aj _ rfl<|aj _ rfl<|aj _ rfl ?_;exact aN _ (aO _ _) ⟨rfl,rfl⟩
 ·intro e q hq;obtain⟨u,v,rfl⟩:=hq;refine nH rfl<|fF rfl<|aj _ rfl ?_;exact aN _ (aO _ _) ⟨rfl,rfl⟩
end
section
open HP
section
variable {aP σ : Heap} {R : HP}
theorem aeo{v:U}{l:List cV}{n e:Int}(H:Hs vP aP σ (Sl (fl cE) 6 v l*R)):∃v',Ξ aP (.az [v,.ah n,.ah e]) σ=δ (.az [v',.ah n,.ah e],aP)/\Ya (.s 6) v'=sl 6 cE l:=by
 obtain⟨v',h1,h2,h3⟩:=TX H Rh (bL _) 7;refine⟨v',Tz H (by simp [Xz,Zw,h1]) (λe=>?_),h3⟩;rcases Gl H with⟨rfl,rfl|rfl,_⟩|⟨id,g,rfl,K⟩
 ·simp [Xz]at h1;rw[h1]
 ·simp [Xz]at h1;rw[h1]
 ·obtain⟨k1,k2⟩:=Dh K;have:=(cL.1 k2).1;subst e;omega
theorem SK{n e:Int}(H:Hs vP aP σ R):Ξ aP (.az [.bA,.ah n,.ah e]) σ=δ (.az [.bA,.ah n,.ah e],aP):=Tz H (by simp [Xz,Zw]) (λ_=>rfl)
theorem afv{v:U}{l:List cV}(k:cV)(hl:l.length+([k]:List cV).length<=2932031007402)(H:Hs vP aP σ (Sl (fl cE) 6 v l*R)):∃v' σ',Z9 6 (140737488355328 / 48) v (.sl 6 [cE k]) σ=δ (v',σ')/\Hs vP aP σ' (Sl (fl cE) 6 v' (l++[k])*R):=
 afW (ys:=[cE k]) (xs:=[k]) (qY (show pr (cE k=cE k)*(Sl (fl cE) 6 v l*R)=_ by
  rw[show els (fl cE) [cE k] [k]=pr (cE k=cE k)*emp from rfl,CF,A3];ac_rfl) (Bz.2 ⟨rfl,H⟩)) hl (λ_ _ _ _=>trivial)
end
def nU (a1:Int) (q:List ByteArray×Bool) (i:Nat) (e:ByteArray) (l:List cV):Option (Lr (List cV) (List cV) Int):=
 (tq (e.size<4294967281/\1<=(⟨#[32]⟩:ByteArray).size) (jt e ⟨#[32]⟩)).bind λw=>
 (eL w 0).bind λx=>
 (wV a1 x).bind λr=>
 if((((decide (¬(r.2=0)))||(decide ((w.length:Int)<2))))||((!q.2)&&(decide ((i:Int)=ε.wrap ((q.1.length:Int) -1)))))=θ then δ (.ret (ε.wrap ((i:Int)+1)))else
 (rM w (δ 1) μ).bind λy=>
 (uR y).bind λa=>
 if(!a.2)=θ then δ (.ret (ε.wrap ((i:Int)+1)))else
 (wS a1 r.1).bind λn=>
 if l.length+([⟨n,a.1⟩]:List cV).length<=2932031007402 then δ (.go (l++[⟨n,a.1⟩]))else μ
def yB (a0:dM) (a1:Int) (a2:ByteArray):Option (List cV×Int×Int):=
 (yC a0).bind λr1=>
 (rW a1).bind λr2=>
 (tq (([r1,r2,if decide (600000<(a2.size:Int))=θ then 2 else 0]:(List Int)).length<=bu) ((([r1,r2,if decide (600000<(a2.size:Int))=θ then 2 else 0]:(List Int)).find? λn=>decide (¬n=0)).getD 0)).bind λr3=>
 if ¬(r3=0)then δ ([],0,r3)
 else
 (wX a2).bind λq=>
 iB q.1 (nU a1 q) (λl=>δ l) [] (λl=>
  (yz a0 a1 l).bind λr4=>
  if ¬(r4=0)then δ ([],0,r4)else δ (l,0,0)) (λn:Int=>δ ([],n,9))
theorem aeF{σ:Heap}(r:dM):Lt σ ru (.agg (dQ r)) (.agg (dQ r)):=UB (Mu (abW r)) rfl
theorem Jh{a0:dM}{a1:Int}{a2:ByteArray}{σ:Heap}{r:(List cV×Int×Int)}(h:yB a0 a1 a2=δ r):uQ [(n9 (dQ a0)),(η a1),(.str a2)] σ=δ (.az [sl 6 cE r.1,(η r.2.1),(η r.2.2)],σ):=by
 refine GI (f:=Jo) (y0:=(n9 (dQ a0))) (y1:=(η a1)) (y2:=(.str a2)) (enc:=λr:(List cV×Int×Int)=>.az [sl 6 cE r.1,(η r.2.1),(η r.2.2)]) (T:=yB a0 a1 a2) rfl rfl ?_ r h;unfold Jo yB;refine aj (dQ a0) rfl<|aj (.agg (dQ a0)) rfl ?_;refine aL (λr1:Int=>((η r1),σ)) (λr1 bn=>Pu bn) (λr1 bn=>?_);refine aL (λr2:Int=>((η r2),σ)) (λr2 hr2=>FO hr2) (λr2 hr2=>?_);refine aj _ rfl<|aj _ rfl<|aj _ (qc _ _ σ)<|aj (sl 1 sJ ([r1,r2,if decide (600000<(a2.size:Int))=θ then 2 else 0]:(List Int))) rfl ?_;refine aL (λr3:Int=>((η r3),σ)) (λr3 gC=>(eP (e:=λr:Int=>((η r),σ)) (λhs=>yQ _ hs σ)) gC) (λr3 gC=>?_);refine aj _ (fI _ _ _) ?_;refine bR (p:=¬(r3=0)) (λc1=>?_) (λc1=>?_)
 ·exact aN _ (aO _ _) ⟨rfl,rfl⟩
 refine aL (λq:(List ByteArray×Bool)=>(p7 [(sl 1 jh q.1),(ψ q.2)],σ)) (λq hq=>ajm hq) (λq hq=>?_);refine aj _ rfl<|aj _ rfl<|aj _ (fu _ _ _) ?_;refine mB (B:=List cV) (R:=Int) (λ(i:Nat)(l:List cV)v m=>∃V,v=[(XK (dQ a0)),Yn,(η 0),(η 0),V,(η (i:Int))]/\Hs vP σ m (Sl (fl cE) 6 V l*emp)) (λ(b:List cV)(q:LS)=>∃V u m,q=((eN 0),([(XK (dQ a0)),Yn,(η 0),(η 0),V,u]:au),m)/\Hs vP σ m (Sl (fl cE) 6 V b*emp)) (λ(n:Int)(q:LS)=>∃V u m,q=(i7,[(XK (dQ a0)),Yn,(η n),(η 9),V,u],m)/\Hs vP σ m emp) ?_ ?_ ⟨.bA,rfl,Wy (afD σ) (.inl rfl)⟩ ?_ ?_
 ·intro hle i e l v m he hI;obtain⟨V,rfl,H⟩:=hI;unfold nU;refine aj _ (mH he)<|mK<|aj _ (mz he)<|aj _ rfl ?_;refine aL (λw:(List ByteArray)=>((sl 1 jh w),m)) (λw hw=>(eP (e:=λr:(List ByteArray)=>((sl 1 jh r),m)) (λhs=>RL e (⟨#[32]⟩:ByteArray) hs _)) hw) (λw hw=>?_);refine aL (λx:ByteArray=>(YH [(Γ x)])) (λx hx=>kq hx) (λx hx=>?_);refine aj (Γ x) rfl ?_;refine aL (λr:(iM×Int)=>(p7 [(n9 (iT r.1)),(η r.2)],m)) (λr hr=>ajI hr) (λr hr=>?_);refine aj (n9 (iT r.1)) rfl<|aj (η r.2) rfl<|aj (iT r.1) rfl<|aj (iT r.1) rfl<|aj _ (fI _ _ _) ?_;refine bf (sl 1 jh w) (λhg=>rfl)<|bf (η (w.length:Int)) (λhg=>by(try rw[hg]);exact fu _ _ _)<|bf (ψ (decide ((w.length:Int)<2))) (λhg=>by(try rw[hg]);exact BF _ _)<|aj _ (eF _ _)<|bf (ψ q.2) (λhg=>rfl)<|bf (ψ (!q.2)) (λhg=>by(try rw[hg]);rfl)<|bf (ψ (!q.2)) (λhg=>by(try rw[hg]);rfl) ?_
  refine gM (η (i:Int)) (λhg=>rfl)<|gM (sl 1 jh q.1) (λhg=>rfl)<|gM (η (q.1.length:Int)) (λhg=>by(try rw[hg]);exact fu _ _ _)<|gM (η (ε.wrap ((q.1.length:Int) -1))) (λhg=>by(try rw[hg]);rfl)<|gM (ψ (decide ((i:Int)=ε.wrap ((q.1.length:Int) -1)))) (λhg=>by(try rw[hg]);exact cM _ _ _)<|bf (ψ ((!q.2)&&(decide ((i:Int)=ε.wrap ((q.1.length:Int) -1))))) (λhg=>by(try rw[hg]);exact ga _ _)<|aj _ (eF _ _) ?_;refine cR (λc2=>?_) (λc2=>?_)
  ·refine aj _ rfl ?_;exact aS (eM (by simp) ⟨_,_,_,rfl,TF (Bg H)⟩)
  refine aL (λy:List ByteArray=>sl 1 jh y) (λy hy=>TY (lo:=δ 1) (hi:=μ) hy) (λy hy=>?_);refine aL (λa:(bF×Bool)=>(p7 [(n9 (dS a.1)),(ψ a.2)],m)) (λa ha=>ai7 ha) (λa ha=>?_);refine aj (n9 (dS a.1)) rfl<|aj (ψ a.2) rfl<|aj (dS a.1) rfl<|aj (dS a.1) rfl<|aj _ rfl ?_;refine cR (c:=!a.2) (λc3=>?_) (λc3=>?_)
  ·refine aj _ rfl ?_;exact aS (eM (by simp) ⟨_,_,_,rfl,TF (Bg H)⟩)
  refine aj (n9 (iT r.1)) rfl ?_;refine aL (λn:Int=>(η n)) (λn hn=>dX (Yu hn)) (λn hn=>?_);refine MZ λhroom=>?_
  obtain⟨V',m',e1,H'⟩:=afv ⟨n,a.1⟩ hroom H;refine aj (n9 (dS a.1)) rfl<|aj (n9 (cE ⟨n,a.1⟩)) rfl<|aj (U.sl 6 [cE ⟨n,a.1⟩]) rfl<|aj _ e1<|aj _ (mA he hle) ?_;exact aS (ke ⟨V',rfl,H'⟩)
 ·intro hl l v m hI;obtain⟨V,rfl,H⟩:=hI;refine aj _ (mw _)<|mJ ?_;exact aS ⟨by simp,_,_,_,rfl,H⟩
 ·intro hl b q hq;obtain⟨V,u,m,rfl,H⟩:=hq;refine fF rfl<|aj (.agg (dQ a0)) rfl ?_;refine aL (λr3:Int=>((η r3),m)) (λr3 gC=>?_) (λr3 gC=>?_)
  ·exact NK (dc:=[ru,.k,(.s 6)]) (ts:=[.agg (dQ a0),.ah a1,sl 6 cE b]) ⟨aeF a0,afG a1,afH Rh H,trivial⟩ (λσ=>Pm gC) rfl
  refine aj _ (fI _ _ _) ?_;refine bR (p:=¬(r3=0)) (λc3=>?_) (λc3=>?_)
  ·exact aN _ (SK H) ⟨rfl,rfl⟩
  ·obtain⟨v',f1,f2⟩:=aeo (n:=0) (e:=0) H;refine aN _ f1 ⟨?_,rfl⟩;exact BM (iN f2 (iN rfl (iN rfl uo)))
 ·intro hl n q hq;obtain⟨V,u,m,rfl,H⟩:=hq;refine nH rfl<|fF rfl ?_;exact aN _ (SK H) ⟨rfl,rfl⟩
end
theorem bE{α β:Type}{M:Option α}{K:α->Option β}{r:Option β}{a:α}(h:M=δ a)(k:K a=r):M.bind K=r:=by rw[h];exact k
def cb(c:cr)(P:U):au:=[.ah c.aH,.str c.title,.ah c.fE,.ah c.up,.ah c.down,.ah c.other,.ah c.kn.kind,P,.bool c.block,.ah c.lJ,.bA]
section
open Lib
theorem Qf{k:Nat}(h:k<10):digitVal (ak0 (48+k))=δ k:=by
 have e:(ak0 (48+k)).toNat=48+k:=by rw[XO];omega
 unfold digitVal;rw[e,aE (by omega)];congr 1;omega
theorem L9{k:Nat}(h:k<10):iO (ak0 (48+k))=θ:=by
 have e:(ak0 (48+k)).toNat=48+k:=by rw[XO];omega
 unfold iO;rw[e];simp;omega
theorem akd(l r:List UInt8):∀a:Nat,decFrom a (l++r)=(decFrom a l).bind λb=>decFrom b r:=by
 induction l with
 |nil=>intro a;rfl
 |cons x l ih=>
  intro a;rw[kN];unfold decFrom;cases digitVal x with
  |none=>rfl
  |some d=>exact ih _
theorem akf(u:Nat):decFrom 0 (decDigits u)=δ u:=by
 induction u using Nat.strongRecOn with
 |_ u ih=>
  by_cases h:u<10
  ·rw[decDigits,dif_pos h];unfold decFrom;rw[Qf h];simp [decFrom]
  ·rw[decDigits,dif_neg h,akd,ih (u / 10) (by omega),aA];unfold decFrom;rw[Qf (by omega)];simp only[decFrom];congr 1;omega
theorem PK(u:Nat):(decDigits u).all iO=θ:=by
 induction u using Nat.strongRecOn with
 |_ u ih=>
  by_cases h:u<10
  ·rw[decDigits,dif_pos h,Z4,L9 h];rfl
  ·rw[decDigits,dif_neg h,List.all_append,ih (u / 10) (by omega)];rw[Z4,L9 (show u % 10<10 by omega)];rfl
theorem Cs(u:Nat):decDigits u≠[]:=by intro h;have:=decDigits_length u;rw[h]at this;have:=nDigits_pos u;simp at *;omega
theorem Yp(u:Nat)(h0:0<u):(decDigits u).head? ≠δ 48:=by
 induction u using Nat.strongRecOn with
 |_ u ih=>
  by_cases h:u<10
  ·rw[decDigits,dif_pos h];intro e;simp only[List.head?_cons,χ]at e;have:=congrArg UInt8.toNat e;rw[XO]at this;simp at this;omega
  ·rw[decDigits,dif_neg h,List.head?_append];have hne:=Cs (u / 10);have:=ih (u / 10) (by omega) (by omega);cases hd:(decDigits (u / 10)).head? with
   |none=>rw[List.head?_eq_none_iff]at hd;exact absurd hd hne
   |some x=>rw[hd]at this;simpa using this
theorem aju(u:Nat):decNat (decDigits u)=δ u:=by unfold decNat;rw[aD (by simpa using Cs u),akf]
theorem qQ(u:Nat):lN (u:Int)=bZ (decDigits u):=by unfold lN itoa bZ;rw[aD (by omega),Xk]
theorem nG(l:List UInt8):lZ (bZ l)=l:=by simp [bZ]
theorem yY(s:ByteArray):bZ (lZ s)=s:=by simp [bZ]
theorem dJ(l:List UInt8):(bZ l).size=l.length:=by simp [bZ,ByteArray.size]
theorem Lf{u k:Nat}(h:u<10 ^ k)(hk:1<=k):nDigits u<=k:=by
 induction k generalizing u with
 |zero=>omega
 |succ k ih=>
  by_cases hu:u<10
  ·rw[nDigits_small hu];omega
  ·rw[nDigits_big hu];by_cases hk0:k=0
   ·subst hk0;simp at h;omega
   ·have:=ih (u:=u / 10) (by rw[Nat.pow_succ]at h;omega) (by omega);omega
theorem aci{n:Int}{k:Nat}(h0:0<=n)(h1:n<(10 ^ k:Nat))(hk:1<=k):lS (lN n) k=(n,θ):=by
 obtain⟨u,rfl⟩:=Y2 h0;have hu:u<10 ^ k:=by exact_mod_cast h1
 rw[qQ];unfold lS jj;rw[nG,dJ,decDigits_length,aju];have hd:=PK u;have hl:=Lf hu hk;rw[aD]
 ·rfl
 ·rintro(h|h|⟨h,h2⟩)
  ·rw[hd]at h;have:=Cs u;simp at h;exact this h
  ·omega
  ·by_cases hz:u=0
   ·subst hz;rw[nDigits_small (by decide)]at h;omega
   ·exact Yp u (by omega) h2
end
section
open Lib
theorem LN(c:UInt8)(b:List UInt8):∀a:List UInt8,c∉a->index (a++c::b) [c]=(a.length:Int)
 |[],_=>by rw[Yd,index];simp [X6]
 |x::a,h=>by
  have hx:¬c=x:=λe=>h (e▸Xl)
  have ih:=LN c b a (λm=>h (nL _ m));rw[kN,index];have hp:([c]:List UInt8).isPrefixOf (x::(a++c::b))=ξ:=by simp [X6,hx]
  rw[hp,ih,aD (by simp),aD (by simp)];simp
theorem GC(c:UInt8):∀a:List UInt8,c∉a->index a [c]=-1
 |[],_=>by rw[index];simp
 |x::a,h=>by
  have hx:¬c=x:=λe=>h (e▸Xl)
  have ih:=GC c a (λm=>h (nL _ m));rw[index];have hp:([c]:List UInt8).isPrefixOf (x::a)=ξ:=by simp [X6,hx]
  rw[hp,ih];simp
theorem L8{c:UInt8}{a b:List UInt8}(h:c∉a):ji (bZ (a++c::b)) ⟨#[c]⟩=(bZ a,bZ b,θ):=by unfold ji;rw[nG];show(bZ (cut (a++c::b) [c]).1,bZ (cut (a++c::b) [c]).2.1,(cut (a++c::b) [c]).2.2)=_;unfold cut;rw[LN c b a h,aE (by omega)];simp
theorem GP{c:UInt8}{a:List UInt8}(h:c∉a):ji (bZ a) ⟨#[c]⟩=(bZ a,⟨#[]⟩,ξ):=by unfold ji;rw[nG];show(bZ (cut a [c]).1,bZ (cut a [c]).2.1,(cut a [c]).2.2)=_;unfold cut;rw[GC c a h,aD (by omega)];rfl
theorem RF{c:UInt8}{a:List UInt8}(h:c∉a):jt (bZ a) ⟨#[c]⟩=[bZ a]:=by unfold jt;refine splitB_miss _ _ _ _ ?_;show index (lZ (bZ a)) [c]=-1;rw[nG];exact GC c a h
theorem RB{c:UInt8}{a b:List UInt8}(h:c∉a):jt (bZ (a++c::b)) ⟨#[c]⟩=bZ a::jt (bZ b) ⟨#[c]⟩:=by
 unfold jt
 have hc:countB (bZ (a++c::b)) ⟨#[c]⟩=countB (bZ b) ⟨#[c]⟩+1:=by show count (lZ (bZ (a++c::b))) [c]=count (lZ (bZ b)) [c]+1;rw[nG,nG,count_one,count_one,List.count_append,List.count_cons_self,List.count_eq_zero.2 h];omega
 have hi:indexB (bZ (a++c::b)) ⟨#[c]⟩=(a.length:Int):=by show index (lZ (bZ (a++c::b))) [c]=_;rw[nG];exact LN c b a h
 rw[hc,splitB,hi,aD (by simp)];congr 1
 ·apply Xo;simp [bZ]
 ·congr 1;apply Xo;simp [bZ,ByteArray.size];rw[show a.length+(b.length+1) -(a.length+1)=b.length by omega,List.take_length]
end
section
open Lib
theorem jg{a b:List UInt8}(h:a.length+b.length<=9223372036854775807):ig (bZ a) (bZ b)=δ (bZ (a++b)):=by unfold ig;rw[dJ,dJ,aE h];congr 1
theorem vg{l:List UInt8}{k:Nat}(h:k<=l.length):jV (bZ l) (δ (k:Int)) μ=δ (bZ (l.drop k)):=by unfold jV;simp only[y9,Xh,dJ];rw[aE ⟨by omega,by omega,by omega⟩];congr 1;apply Xo;simp [bZ];exact xF (by simp)
theorem MJ{l:List UInt8}{k:Nat}(h:k<=l.length):jV (bZ l) μ (δ (k:Int))=δ (bZ (l.take k)):=by unfold jV;simp only[y9,Xh,dJ];rw[aE ⟨by omega,by omega,by omega⟩];congr 1;apply Xo;simp [bZ]
theorem BB{l:List UInt8}{k:Nat}{x:UInt8}(h:l[k]? =δ x):kF (bZ l) (k:Int)=δ (x.toNat:Int):=by obtain⟨hk,rfl⟩:=cL.1 h;unfold kF;rw[dif_pos ⟨by omega,by rw[dJ];omega⟩];rfl
theorem vp{a b:List UInt8}(h:bZ a=bZ b):a=b:=by rw[<-nG a,h,nG]
theorem Ul{a b:List UInt8}:bZ a=bZ b↔a=b:=⟨vp,λh=>by rw[h]⟩
def dB(k:Nat):UInt8:=ak0 (48+k)
theorem Db{k:Nat}(h:k<10):(dB k).toNat=48+k:=by unfold dB;rw[XO];omega
theorem vr{k:Nat}(h:k<10):iO (dB k)=θ:=L9 h
theorem Bb{k:Nat}(h:k<10):(dB k==48)=decide (k=0):=by
 rw[iX,beq_iff_eq,decide_eq_true_eq];constructor
 ·intro e;have:=congrArg UInt8.toNat e;rw[Db h]at this;simp at this;omega
 ·rintro rfl;rfl
theorem UZ{r:Nat}(h:r<1000):decDigits (1000+r)=[49,dB (r / 100),dB (r / 10 % 10),dB (r % 10)]:=by
 rw[decDigits,dif_neg (by omega),decDigits,dif_neg (by omega),decDigits,dif_neg (by omega),decDigits,dif_pos (by omega)];have e1:(1000+r) / 10 / 10 / 10=1:=by omega
 have e2:(1000+r) / 10 / 10 % 10=r / 100:=by omega
 have e3:(1000+r) / 10 % 10=r / 10 % 10:=by omega
 have e4:(1000+r) % 10=r % 10:=by omega
 rw[e1,e2,e3,e4];rfl
theorem agV{r:Nat}(h:r<60):decDigits (100+r)=[49,dB (r / 10),dB (r % 10)]:=by
 rw[decDigits,dif_neg (by omega),decDigits,dif_neg (by omega),decDigits,dif_pos (by omega)];have e1:(100+r) / 10 / 10=1:=by omega
 have e2:(100+r) / 10 % 10=r / 10:=by omega
 have e3:(100+r) % 10=r % 10:=by omega
 rw[e1,e2,e3];rfl
def iF(r:Nat):List Nat:=if r % 10≠0 then[r / 100,r / 10 % 10,r % 10]else if r / 10 % 10≠0 then[r / 100,r / 10 % 10]else[r / 100]
theorem Tj{r:Nat}(h:r<1000)(h0:0<r):Du (bZ [dB (r / 100),dB (r / 10 % 10),dB (r % 10)])=bZ ((iF r).map dB):=by
 unfold Du;rw[nG];congr 1;unfold trimRightB iF;have a1:=Bb (k:=r % 10) (by omega);have a2:=Bb (k:=r / 10 % 10) (by omega);have a3:=Bb (k:=r / 100) (by omega);have a0:(dB 0==48)=θ:=rfl;by_cases h1:r % 10=0
 ·by_cases h2:r / 10 % 10=0
  ·have h3:¬r / 100=0:=by omega
   simp [al1,a0,a1,a2,a3,h1,h2,h3]
  ·simp [al1,a0,a1,a2,a3,h1,h2]
 ·simp [al1,a0,a1,a2,a3,h1]
theorem Dc{r:Nat}(h:r<1000):∀d∈iF r,d<10:=by
 unfold iF;intro d hd;split at hd
 ·simp only[eG,ZK,or_false]at hd;omega
 ·split at hd
  ·simp only[eG,ZK,or_false]at hd;omega
  ·simp only[eG,ZK,or_false]at hd;omega
theorem vi(r:Nat):1<=(iF r).length/\(iF r).length<=3:=by
 unfold iF;split
 ·simp
 ·split<;>simp
theorem adg{r:Nat}(h0:0<r):∃d,(iF r)[(iF r).length-1]? =δ d/\d≠0:=by
 unfold iF;split
 ·exact⟨_,rfl,by assumption⟩
 ·split
  ·exact⟨_,rfl,by assumption⟩
  ·exact⟨_,rfl,by omega⟩
theorem SO{r:Nat}(h:r<1000):(iF r).getD 0 0*100+(iF r).getD 1 0*10+(iF r).getD 2 0=r:=by
 unfold iF;split
 ·simp;omega
 ·split
  ·simp;omega
  ·simp;omega
theorem TD{r:Nat}(h:r<1000):jj (bZ ((iF r).map dB))=θ:=by unfold jj;rw[nG];have hl:=vi r;rw[dr,List.all_map,nM];refine⟨?_,λd hd=>vr (Dc h d hd)⟩;rw[p9,List.isEmpty_eq_false_iff];intro e;rw[List.map_eq_nil_iff]at e;rw[e]at hl;simp at hl
section
variable {S B R γ : Type}
theorem kW{body:S->Option (Lr S B R)}{s s':S}{K1:B->Option γ}{K2:R->Option γ}(h:body s=δ (.go s')):mh body s K1 K2=mh body s' K1 K2:=by unfold mh;rw[LX body s,h];rfl
theorem uc{body:S->Option (Lr S B R)}{s:S}{b:B}{K1:B->Option γ}{K2:R->Option γ}(h:body s=δ (.kQ b)):mh body s K1 K2=K1 b:=by unfold mh;rw[LX body s,h];rfl
end
def vu (b:ByteArray) (most:Int) (s5:Int×Int):Option (Lr (Int×Int) Int Unit):=
   if s5.2<most then
    (show Option Int from
      if s5.2<(b.size:Int)then
       (kF b s5.2).bind λaX=>
       δ (ε.wrap (ε.wrap (s5.1*10)+ε.wrap (Y9.wrap (aX-48))))
      else
      δ (ε.wrap (s5.1*10))).bind λtr=>
    δ (.go (tr,ε.wrap (s5.2+1)))
   else
   δ (.kQ s5.1)
theorem C1{ds:List Nat}(hd:∀d∈ds,d<10){most n:Int}{i:Nat}(hi:(i:Int)<most)(hm:i<1000)(hn:0<=n/\n<=100000000000000):vu (bZ (ds.map dB)) most (n,(i:Int))=δ (.go (n*10+(ds.getD i 0:Nat),((i+1:Nat):Int))):=by
 have hw:ε.wrap (n*10)=n*10:=bp (by unfold aG;omega);have hi1:ε.wrap ((i:Int)+1)=((i+1:Nat):Int):=by rw[bp (by unfold aG;omega)];omega
 unfold vu;simp only;rw[aE hi,hi1,hw];by_cases hs:i<ds.length
 ·have hx:ds[i]<10:=hd _ (List.getElem_mem hs);have hsz:(i:Int)<((bZ (ds.map dB)).size:Int):=by rw[dJ,Yo];omega
  rw[aE hsz,BB (x:=dB ds[i]) (by rw[List.getElem?_map,bT hs];rfl),Db hx]
  have e1:Y9.wrap (((48+ds[i]:Nat):Int) -48)=(ds[i]:Int):=by
   have:((48+ds[i]:Nat):Int) -48=(ds[i]:Int):=by omega
   rw[this];unfold IntKind.wrap;simp [IntKind.signed,IntKind.bits];omega
  have e2:ε.wrap (ds[i]:Int)=(ds[i]:Int):=bp (by unfold aG;omega);have e3:ε.wrap (n*10+(ds[i]:Int))=n*10+(ds[i]:Int):=bp (by unfold aG;omega);simp only[aA,e1,e2,e3];rw[Zc,bT hs];rfl
 ·have hsz:¬(i:Int)<((bZ (ds.map dB)).size:Int):=by rw[dJ,Yo];omega
  rw[aD hsz];simp only[aA];rw[Zc,lP (by omega)];simp
theorem G7{b:ByteArray}{most n:Int}{i:Int}(hi:¬i<most):vu b most (n,i)=δ (.kQ n):=by unfold vu;rw[aD hi]
theorem Ig{γ:Type}{ds:List Nat}(hd:∀d∈ds,d<10){n:Int}(hn:0<=n/\n<=1000000000)(K1:Int->Option γ)(K2:Unit->Option γ):mh (vu (bZ (ds.map dB)) 3) (n,0) K1 K2=K1 (n*1000+((ds.getD 0 0*100+ds.getD 1 0*10+ds.getD 2 0:Nat):Int)):=by
 have b0:∀i:Nat,ds.getD i 0<10:=λi=>by
  rw[Zc];cases e:ds[i]? with
  |none=>simp
  |some x=>exact hd x (cZ e)
 have h0:=b0 0;have h1:=b0 1;have h2:=b0 2;refine(kW (C1 (i:=0) hd (by decide) (by decide) (by omega))).trans ?_;refine(kW (C1 (i:=1) hd (by decide) (by decide) (by omega))).trans ?_;refine(kW (C1 (i:=2) hd (by decide) (by decide) (by omega))).trans ?_;refine(uc (G7 (by decide))).trans ?_;congr 1;omega
theorem dg2{γ:Type}{ds:List Nat}(hd:∀d∈ds,d<10){n:Int}(hn:0<=n/\n<=1000000000)(K1:Int->Option γ)(K2:Unit->Option γ):mh (vu (bZ (ds.map dB)) 2) (n,0) K1 K2=K1 (n*100+((ds.getD 0 0*10+ds.getD 1 0:Nat):Int)):=by
 have b0:∀i:Nat,ds.getD i 0<10:=λi=>by
  rw[Zc];cases e:ds[i]? with
  |none=>simp
  |some x=>exact hd x (cZ e)
 have h0:=b0 0;have h1:=b0 1;refine(kW (C1 (i:=0) hd (by decide) (by decide) (by omega))).trans ?_;refine(kW (C1 (i:=1) hd (by decide) (by decide) (by omega))).trans ?_;refine(uc (G7 (by decide))).trans ?_;congr 1;omega
theorem sy{c:UInt8}(h:iO c=ξ)(u:Nat):c∉decDigits u:=λm=>by have:=nM.1 (PK u) c m;rw[h]at this;cases this
theorem afM{c:UInt8}(h:iO c=ξ){r:Nat}(hr:r<1000):c∉(iF r).map dB:=λm=>by obtain⟨d,hd,rfl⟩:=kZ.1 m;rw[vr (Dc hr d hd)]at h;cases h
def nV(m r:Nat):List UInt8:=decDigits m++(if 0<r then 46::(iF r).map dB else[])
theorem adq{u k:Nat}(h1:u<10 ^ k)(hk:1<=k):lS (bZ (decDigits u)) (k:Int)=((u:Int),θ):=by rw[<-qQ];exact aci (by omega) (by exact_mod_cast h1) hk
theorem MB{u k:Nat}{K:Int}(e:K=k)(h1:u<10 ^ k)(hk:1<=k):lS (bZ (decDigits u)) K=((u:Int),θ):=by subst e;exact adq h1 hk
theorem Gn{u:Nat}(h:u<10 ^ 9):rV (bZ (decDigits u))=δ ((u:Int),θ):=by have hl:=Lf h (by decide);rw[<-decDigits_length]at hl;unfold rV;rw[cX ⟨by rw[dJ];omega,by decide⟩,aA,MB (K:=9) (k:=9) rfl h (by decide)]
theorem Tv{m r:Nat}(hr:r<1000):ji (bZ (nV m r)) ⟨#[46]⟩=(bZ (decDigits m),if 0<r then bZ ((iF r).map dB)else⟨#[]⟩,decide (0<r)):=by
 unfold nV;by_cases h0:0<r
 ·rw[aE h0,aE h0,L8 (sy (by decide) m),qo h0]
 ·rw[aD h0,aD h0,WQ,GP (sy (by decide) m),gZ h0]
theorem nD{u k:Nat}(h:u<10 ^ k)(hk:1<=k):(decDigits u).length<=k:=by rw[decDigits_length];exact Lf h hk
theorem GU{m r k:Nat}(h:m<10 ^ k)(hk:1<=k):(nV m r).length<=k+4:=by
 have:=nD h hk;have:=(vi r).2;unfold nV;split
 ·simp;omega
 ·simp;omega
theorem R6{r:Nat}(h:r<1000)(h0:0<r):∃d,d<10/\d≠0/\kF (bZ ((iF r).map dB)) (ε.wrap (((bZ ((iF r).map dB)).size:Int) -1))=δ (((48+d:Nat)):Int):=by obtain⟨d,h1,h2⟩:=adg h0;have hl:=vi r;have hd:d<10:=Dc h d (cZ h1);refine⟨d,hd,h2,?_⟩;rw[dJ,Yo,bp (by unfold aG;omega),show(((iF r).length:Int) -1)=(((iF r).length-1:Nat):Int)from by omega,BB (x:=dB d) (by rw[List.getElem?_map,h1];rfl),Db hd]
theorem Gs{m r:Nat}(hm:m<10 ^ 9)(hr:r<1000):mj (bZ (nV m r)) 3=δ ((m:Int)*1000+r,θ):=by
 have hl:=GU (r:=r) hm (by decide);unfold mj;rw[cX (by rw[dJ];omega),aA,Tv hr];simp only;rw[Gn hm];simp only[aA,n8,ZQ,Zr];by_cases h0:0<r
 ·simp only[aE h0,qo h0,if_true];have hfl:=vi r;have hsz:¬(3:Int)<((bZ ((iF r).map dB)).size:Int):=by rw[dJ,Yo];omega
  rw[cX (by rw[dJ,Yo];omega),aA,TD hr];obtain⟨d,d1,d2,d3⟩:=R6 hr h0;simp only[n8,WS,gZ hsz,ZQ,if_true,d3,aA];have En:¬((48+d:Nat):Int)=48:=by omega
  simp only[gZ En,Bool.and_self,Y4,if_true,aA,Φ,if_false];refine(Ig (Dc hr) (by omega) _ _).trans ?_;rw[SO hr]
 ·have:r=0:=by omega
  subst this;simp only[aD h0,gZ h0,YU,Φ,if_false,WS,Xm,aA];refine(Ig (ds:=[]) (by simp) (by omega) _ _).trans ?_;rfl
theorem ac7{m:Nat}(hm:m<10 ^ 9):mj (bZ (decDigits m)) 2=δ ((m:Int)*100,θ):=by have hl:=nD hm (by decide);unfold mj;rw[cX (by rw[dJ];omega),aA,GP (sy (by decide) m)];simp only;rw[Gn hm];simp only[aA,n8,ZQ,Y4,YU,Φ,if_false,Xm];refine(dg2 (ds:=[]) (by simp) (by omega) _ _).trans ?_;simp
theorem aev{n:Int}(h0:0<=n)(h1:n<10000000000):yD n=δ (bZ (nV (n / 1000).toNat (n % 1000).toNat)):=by
 have ed:ε.wrap (Vu n 1000)=((n / 1000).toNat:Int):=by rw[Lw h0,bp (by unfold aG;omega)];omega
 have em:Xy n 1000=((n % 1000).toNat:Int):=by rw[Ym h0];omega
 have hm:(n / 1000).toNat<10 ^ 9:=by omega
 have hr:(n % 1000).toNat<1000:=by omega
 have hl:=nD hm (by decide);generalize (n / 1000).toNat=m at *
 generalize (n % 1000).toNat=r at *
 unfold yD;rw[ed,em,cX (by unfold aG;omega),aA,qQ];unfold nV;by_cases h:0<r
 ·have ew:ε.wrap (1000+(r:Int))=((1000+r:Nat):Int):=by rw[bp (by unfold aG;omega)];omega
  have hfl:=vi r;rw[aE h,aE (by omega),ew,cX (by unfold aG;omega),aA,qQ,UZ hr,show(1:Int)=((1:Nat):Int)from rfl,vg (by simp),aA];rw[show List.drop 1 [49,dB (r / 100),dB (r / 10 % 10),dB (r % 10)]=[dB (r / 100),dB (r / 10 % 10),dB (r % 10)]from rfl,cX ⟨by rw[dJ];simp,rfl⟩,aA,Tj hr h];rw[show(⟨#[46]⟩:ByteArray)=bZ [46]from rfl,jg (by simp;omega),aA,jg (by simp;omega),aA];rfl
 ·rw[aD h,aD (by omega),WQ];rfl
theorem Zd{m r:Nat}(hm:m<10 ^ 7)(hr:r<1000):uS (bZ (nV m r))=δ ((m:Int)*1000+r,θ):=by
 have hl:=GU (r:=r) hm (by decide);have hml:=nD hm (by decide);unfold uS;rw[cX (by rw[dJ];omega),aA,Tv hr];simp only;rw[cX ⟨by rw[dJ];omega,by decide⟩,aA,MB (K:=7) (k:=7) rfl hm (by decide)];simp only[aA,n8,ZQ,Zr];by_cases h0:0<r
 ·simp only[aE h0,qo h0,if_true];have hfl:=vi r;have hsz:¬(3:Int)<((bZ ((iF r).map dB)).size:Int):=by rw[dJ,Yo];omega
  rw[cX (by rw[dJ,Yo];omega),aA,TD hr];obtain⟨d,d1,d2,d3⟩:=R6 hr h0;simp only[n8,WS,gZ hsz,ZQ,if_true,d3,aA];have En:¬((48+d:Nat):Int)=48:=by omega
  simp only[gZ En,Bool.and_self,Y4,if_true,aA,Φ,if_false];refine(Ig (Dc hr) (by omega) _ _).trans ?_;rw[SO hr]
 ·have:r=0:=by omega
  subst this;simp only[aD h0,gZ h0,YU,Φ,if_false,WS,Xm,aA];refine(Ig (ds:=[]) (by simp) (by omega) _ _).trans ?_;rfl
end
section
open Lib
def jS(r:Nat):List UInt8:=if 0<r then 46::(iF r).map dB else[]
theorem He(m r:Nat):nV m r=decDigits m++jS r:=rfl
theorem GR(r:Nat):(jS r).length<=4:=by
 have:=(vi r).2;unfold jS;split
 ·simp;omega
 ·simp
theorem af0{r:Nat}(hr:r<1000):Av (r:Int)=δ (bZ (jS r)):=by
 unfold Av jS;by_cases h:0<r
 ·have ew:ε.wrap (1000+(r:Int))=((1000+r:Nat):Int):=by rw[bp (by unfold aG;omega)];omega
  have hfl:=vi r;rw[aE h,aD (by omega),ew,cX (by unfold aG;omega),aA,qQ,UZ hr,show(1:Int)=((1:Nat):Int)from rfl,vg (by simp),aA];rw[show List.drop 1 [49,dB (r / 100),dB (r / 10 % 10),dB (r % 10)]=[dB (r / 100),dB (r / 10 % 10),dB (r % 10)]from rfl,cX ⟨by rw[dJ];simp,rfl⟩,aA,Tj hr h];rw[show(⟨#[46]⟩:ByteArray)=bZ [46]from rfl,jg (by simp;omega),aA];rfl
 ·rw[aD h,aE (by omega)];rfl
def oZ(t:Nat):List UInt8:=if t / 1000<60 then nV (t / 1000) (t % 1000)else decDigits (t / 1000 / 60)++58::(dB (t / 1000 % 60 / 10)::dB (t / 1000 % 60 % 10)::jS (t % 1000))
theorem Mn{t:Nat}(h:t<=36000000):(oZ t).length<=20:=by
 unfold oZ;split
 ·have:=GU (m:=t / 1000) (r:=t % 1000) (k:=9) (by omega) (by decide);omega
 ·have:=nD (u:=t / 1000 / 60) (k:=9) (by omega) (by decide);have:=GR (t % 1000);simp;omega
theorem aaG{t:Nat}(h:t<=36000000):yE (t:Int)=δ (bZ (oZ t),0):=by
 have hw:aI (t:Int) 0 36000000=θ:=by unfold aI;rw[decide_eq_true_eq];omega
 have e1:Xy (t:Int) 1000=((t % 1000:Nat):Int):=by rw[Ym (by omega)];omega
 have e2:ε.wrap (Vu (t:Int) 1000)=((t / 1000:Nat):Int):=by rw[Lw (by omega),bp (by unfold aG;omega)];omega
 unfold yE;rw[hw,aD (by simp),e1,e2,af0 (by omega),aA];unfold oZ;have hs:t / 1000<=36000:=by omega
 have hf:=GR (t % 1000);generalize t / 1000=s at *
 generalize hr:t % 1000=r at *
 by_cases h6:s<60
 ·have hl:=nD (u:=s) (k:=9) (by omega) (by decide);rw[aE h6,aE (by omega),cX (by unfold aG;omega),aA,qQ,jg (by omega),aA];rfl
 ·have e3:ε.wrap (Vu (s:Int) 60)=((s / 60:Nat):Int):=by rw[Lw (by omega),bp (by unfold aG;omega)];omega
  have e4:ε.wrap (100+Xy (s:Int) 60)=((100+s % 60:Nat):Int):=by rw[Ym (by omega),bp (by unfold aG;omega)];omega
  have hl:=nD (u:=s / 60) (k:=9) (by omega) (by decide);rw[aD h6,aD (by omega),e3,e4,cX (by unfold aG;omega),aA,qQ,show(⟨#[58]⟩:ByteArray)=bZ [58]from rfl,jg (by simp;omega),aA];rw[cX (by unfold aG;omega),aA,qQ,agV (by omega),show(1:Int)=((1:Nat):Int)from rfl,vg (by simp),aA];rw[show List.drop 1 [49,dB (s % 60 / 10),dB (s % 60 % 10)]=[dB (s % 60 / 10),dB (s % 60 % 10)]from rfl,jg (by simp;omega),aA,jg (by simp;omega),aA];simp
theorem S4{c:UInt8}(h:iO c=ξ)(h2:c≠46){r:Nat}(hr:r<1000):c∉jS r:=by
 unfold jS;split
 ·rw[eG];rintro(e|e)
  ·exact h2 e
  ·exact afM h hr e
 ·simp
theorem Bo{c:UInt8}(h:iO c=ξ){k:Nat}(hk:k<10):c≠dB k:=by rintro rfl;rw[vr hk]at h;cases h
theorem MA{c:UInt8}(h:iO c=ξ)(h2:c≠46){m r:Nat}(hr:r<1000):c∉nV m r:=by
 rw[He,gV];rintro(e|e)
 ·exact sy h m e
 ·exact S4 h h2 hr e
theorem UY{d:Nat}(h:d<10):decDigits d=[dB d]:=by rw[decDigits,dif_pos h];rfl
theorem agU{d:Nat}(h:10<=d)(h2:d<100):decDigits d=[dB (d / 10),dB (d % 10)]:=by rw[decDigits,dif_neg (by omega),decDigits,dif_pos (by omega)];rfl
theorem akg{c:UInt8}{l:List UInt8}(h:c∉l):contains l [c]=ξ:=by unfold contains;rw[GC c l h];rfl
theorem Qa{a p:List UInt8}(hp:p.length<=100)(ha:a.length<=4611686018427387904):yw (bZ a) (bZ p)=δ (p.isPrefixOf a):=by
 unfold yw;rw[dJ,dJ];by_cases h:p.length<=a.length
 ·rw[aE (by simp;omega),MJ h,aA];have:decide ((p.length:Int)<=(a.length:Int))=θ:=by simp;omega
  rw[this,Zr];congr 1;rw[iX,decide_eq_true_eq,Ul,ZT,List.prefix_iff_eq_take];exact eq_comm
 ·rw[aD (by simp;omega),aA];have:decide ((p.length:Int)<=(a.length:Int))=ξ:=by simp;omega
  rw[this,YU];congr 1;symm;rw[<-Bool.not_eq_true,ZT];intro e;exact h e.length_le
theorem KK{a p:List UInt8}(hp:p.length<=100)(ha:a.length<=4611686018427387904):yA (bZ a) (bZ p)=δ (if p.isPrefixOf a then(bZ (a.drop p.length),θ)else(bZ a,ξ)):=by
 unfold yA Ca;rw[Qa hp ha,aA];cases h:p.isPrefixOf a with
 |false=>rfl
 |true=>rw[aD (by simp),dJ,vg (ZT.1 h).length_le];rfl
theorem PO{a p:List UInt8}(hp:p.length<=100)(ha:a.length<=4611686018427387904):wP (bZ a) (bZ p)=δ (if p.isPrefixOf a then bZ (a.drop p.length)else bZ a):=by
 unfold wP B9;rw[Qa hp ha,aA];cases h:p.isPrefixOf a with
 |false=>rfl
 |true=>rw[aE rfl,dJ,vg (ZT.1 h).length_le];rfl
theorem Qb{a p:List UInt8}(hp:p.length<=100)(ha:a.length<=9000000000000000000):Aq (bZ a) (bZ p)=δ (decide (p <:+ a)):=by
 unfold Aq;rw[dJ,dJ];by_cases h:p.length<=a.length
 ·have e:ε.wrap ((a.length:Int) -(p.length:Int))=((a.length-p.length:Nat):Int):=by rw[bp (by unfold aG;omega)];omega
  rw[aE (by simp;omega),e,vg (by omega),aA];have:decide ((p.length:Int)<=(a.length:Int))=θ:=by simp;omega
  rw[this,Zr];congr 1;rw[iX,decide_eq_true_eq,decide_eq_true_eq,Ul,List.suffix_iff_eq_drop];exact eq_comm
 ·rw[aD (by simp;omega),aA];have:decide ((p.length:Int)<=(a.length:Int))=ξ:=by simp;omega
  rw[this,YU];congr 1;symm;rw[decide_eq_false_iff_not];intro e;exact h e.length_le
theorem akk{a p:List UInt8}(hp:p.length<=100)(ha:a.length<=4611686018427387904):wQ (bZ (a++p)) (bZ p)=δ (bZ a,θ):=by
 unfold wQ Ap;rw[Qb hp (by simp;omega),aA,qo (List.suffix_append a p),aD (by simp),dJ,dJ];have e:ε.wrap (((a++p).length:Int) -(p.length:Int))=(a.length:Int):=by rw[bp (by unfold aG;simp;omega)];simp
 rw[e,MJ (by simp),aA];simp
theorem af1{d r:Nat}(hd:d<60)(hr:r<1000):∃y,wP (bZ (dB (d / 10)::dB (d % 10)::jS r)) (⟨#[48]⟩:ByteArray)=δ y/\mj y 3=δ ((d:Int)*1000+r,θ):=by
 have hl:=GR r;refine⟨_,PO (p:=[48]) (by decide) (by simp;omega),?_⟩;by_cases h0:d / 10=0
 ·have e:([48]:List UInt8).isPrefixOf (dB (d / 10)::dB (d % 10)::jS r)=θ:=by rw[h0];rfl
  rw[e,aE rfl];have:d % 10=d:=by omega
  rw[this];show mj (bZ (dB d::jS r)) 3=_;rw[show dB d::jS r=nV d r from by rw[He,UY (by omega)];rfl];exact Gs (by omega) hr
 ·have e:([48]:List UInt8).isPrefixOf (dB (d / 10)::dB (d % 10)::jS r)=ξ:=by have:=Bb (k:=d / 10) (by omega);simp only[X6,Bool.and_true];rw[gZ h0]at this;rw[<-Bool.not_eq_true,beq_iff_eq]at this ⊢;exact λk=>this k.symm
  rw[e,aD (by simp)];rw[show dB (d / 10)::dB (d % 10)::jS r=nV d r from by rw[He,agU (by omega) (by omega)];rfl];exact Gs (by omega) hr
theorem aaF{t:Nat}(h:t<=36000000):uT (bZ (oZ t))=δ ((t:Int),0):=by
 have hlen:=Mn h;unfold uT;rw[cX (by rw[dJ];omega),aA];have hs:t / 1000<=36000:=by omega
 have hr:t % 1000<1000:=by omega
 have ht:t=t / 1000*1000+t % 1000:=by omega
 unfold oZ;generalize t / 1000=s at *
 generalize t % 1000=r at *
 by_cases h6:s<60
 ·rw[aE h6,GP (MA (by decide) (by decide) hr)];simp only[ZQ,if_true];rw[Gs (by omega) hr,aA];simp only[n8,WS];rw[aD (by simp;omega)];congr 2;omega
 ·have hM:s / 60<10 ^ 4:=by omega
  have hl:=nD hM (by decide);have hfl:=GR r;have hd:s % 60<60:=by omega
  rw[aD h6,L8 (sy (by decide) _)];simp only[n8,Φ,if_false];rw[cX ⟨by rw[dJ];omega,by decide⟩,aA,MB (K:=4) (k:=4) rfl hM (by decide)];rw[cX (by rw[dJ];simp;omega),aA];have hq:1<=s / 60/\s / 60<=600:=by omega
  have e0:s=s / 60*60+s % 60:=by omega
  generalize s / 60=M at *
  generalize s % 60=d at *
  have hcut:ji (bZ (dB (d / 10)::dB (d % 10)::jS r)) ⟨#[46]⟩=(bZ [dB (d / 10),dB (d % 10)],if 0<r then bZ ((iF r).map dB)else⟨#[]⟩,decide (0<r)):=by
   have hn:(46:UInt8)∉[dB (d / 10),dB (d % 10)]:=by
    intro m;simp only[eG,ZK,or_false]at m;rcases m with m|m
    ·exact Bo (c:=46) (by decide) (by omega) m
    ·exact Bo (c:=46) (by decide) (by omega) m
   unfold jS;by_cases h0:0<r
   ·rw[aE h0,aE h0,qo h0];exact L8 (a:=[dB (d / 10),dB (d % 10)]) hn
   ·rw[aD h0,aD h0,gZ h0];exact GP hn
  rw[hcut];simp only
  have hdz:jj (bZ [dB (d / 10),dB (d % 10)])=θ:=by unfold jj;rw[nG];simp [vr (k:=d / 10) (by omega),vr (k:=d % 10) (by omega)]
  have hsz:¬¬(((bZ [dB (d / 10),dB (d % 10)]).size:Int)=2):=by rw[dJ];simp
  have hM0:¬((M:Int)=0):=by omega
  rw[gZ hM0,gZ hsz];simp only[n8,Xm,ZQ,if_true];rw[cX (by rw[dJ];simp),aA,hdz];simp only[n8,Φ,if_false];obtain⟨y,y1,y2⟩:=af1 hd hr;rw[y1,aA,y2,aA];simp only[XN,Φ,if_false]
  have hj:(if bZ [dB (d / 10),dB (d % 10)]=(⟨#[48,48]⟩:ByteArray)then
    (jV (bZ (dB (d / 10)::dB (d % 10)::jS r)) (δ 1) μ).bind λx9=>
    (mj x9 3).bind λcz=>
    δ (cz.2,cz.1)
   else
   δ (θ,(d:Int)*1000+(r:Int)):Option (Bool×Int))=δ (θ,(d:Int)*1000+(r:Int)):=by
   split
   ·rename_i e;have e':=vp (e:bZ [dB (d / 10),dB (d % 10)]=bZ [48,48]);simp only[ZX,and_true]at e'
    have En:d=0:=by have a1:=Bb (k:=d / 10) (by omega);have a2:=Bb (k:=d % 10) (by omega);rw[e'.1]at a1;rw[e'.2]at a2;simp at a1 a2;omega
    subst En;rw[show(1:Int)=((1:Nat):Int)from rfl,vg (by simp),aA];show(mj (bZ (dB 0::jS r)) 3).bind _=_;rw[show dB 0::jS r=nV 0 r from by rw[He,UY (by omega)];rfl,Gs (by omega) hr];simp
   ·rfl
  rw[hj,aA];have h59:¬(59999<(d:Int)*1000+(r:Int)):=by omega
  simp only[gZ h59,n8,Xm,ZQ,Zr,WS]
  have hw:ε.wrap ((d:Int)*1000+(r:Int)+ε.wrap ((M:Int)*60000))=(t:Int):=by rw[show ε.wrap ((M:Int)*60000)=(M:Int)*60000 from bp (by unfold aG;omega)];rw[bp (by unfold aG;omega)];omega
  have key:((if decide ((if 0<r then bZ ((iF r).map dB)else(⟨#[]⟩:ByteArray))=(⟨#[]⟩:ByteArray))=θ then tq ((bZ (dB (d / 10)::dB (d % 10)::jS r)).size<4294967281) (Lib.contains (lZ (bZ (dB (d / 10)::dB (d % 10)::jS r))) (lZ (⟨#[46]⟩:ByteArray)))else δ default):Option Bool)=δ ξ:=by
   by_cases h0:0<r
   ·rw[aE h0,aD]
    ·rfl
    ·rw[decide_eq_true_eq];intro e;have e':=vp (e:bZ _=bZ []);have:=(vi r).1;rw[List.map_eq_nil_iff]at e';rw[e']at this;simp at this
   ·rw[aD h0,aE (by simp),cX (by rw[dJ];simp;omega),nG];congr 1;refine akg ?_;intro m;simp only[eG]at m;rcases m with m|m|m
    ·exact Bo (c:=46) (by decide) (by omega) m
    ·exact Bo (c:=46) (by decide) (by omega) m
    ·unfold jS at m;rw[aD h0]at m;cases m
  rw[key,aA];simp only[Y4,Φ,if_false,hw];rw[aD (by omega)]
theorem L1{n d:Int}(hn:0<=n/\n<=1000000000000)(hd:0<d/\d<=1000000):tM n d=δ ((2*n+d) / (2*d)):=by
 unfold tM AL;rw[show ε.wrap (2*n)=2*n from bp (by unfold aG;omega),show ε.wrap (2*n+d)=2*n+d from bp (by unfold aG;omega),show ε.wrap (2*d)=2*d from bp (by unfold aG;omega)];have hq:0<=(2*n+d) / (2*d)/\(2*n+d) / (2*d)<=2*n+d:=⟨Int.ediv_nonneg (by omega) (by omega),Int.ediv_le_self _ (by omega)⟩
 have q1:xU (2*n+d) (2*d)=δ ((2*n+d) / (2*d)):=by unfold xU;rw[aD (by omega),Lw (by omega),bp (by unfold aG;omega)]
 have q2:xV (2*n+d) (2*d)=δ ((2*n+d) % (2*d)):=by unfold xV;rw[aD (by omega),Ym (by omega)]
 rw[q1,aA,q2,aA,aD (by have:=Int.emod_nonneg (2*n+d) (b:=2*d) (by omega);omega)];rfl
def jC(v:Nat):Nat:=(200*v+65535) / 131070
def oa(v:Nat):List UInt8:=if v=0 then[111,117,116]else if v=65535 then[102,117,108,108]else if(2*(jC v*65535)+100) / 200=v then decDigits (jC v)++[37]else 35::decDigits v
theorem C6{v:Nat}(h:v<=65535):(oa v).length<=20:=by
 unfold oa jC;have h1:=nD (u:=(200*v+65535) / 131070) (k:=9) (by omega) (by decide);have h2:=nD (u:=v) (k:=9) (by omega) (by decide);split
 ·simp
 ·split
  ·simp
  ·split
   ·simp;omega
   ·simp;omega
theorem afl{v:Nat}(h:v<=65535):uX (v:Int)=δ (bZ (oa v),0):=by
 have hw:aI (v:Int) 0 65535=θ:=by unfold aI;rw[decide_eq_true_eq];omega
 unfold uX oa;rw[hw,aD (by simp)];by_cases h0:v=0
 ·rw[aE h0,aE (by omega)];rfl
 rw[aD h0,aD (by omega)];by_cases h1:v=65535
 ·rw[aE h1,aE (by omega)];rfl
 rw[aD h1,aD (by omega)];rw[show ε.wrap (100*(v:Int))=100*(v:Int)from bp (by unfold aG;omega),L1 (by omega) (by decide),aA];have ep:(2*(100*(v:Int))+65535) / (2*65535)=(jC v:Int):=by unfold jC;omega
 have hp:jC v<=100:=by unfold jC;omega
 have jA:=nD (u:=jC v) (k:=9) (by omega) (by decide);have hvl:=nD (u:=v) (k:=9) (by omega) (by decide);rw[ep,show ε.wrap ((jC v:Int)*65535)=(jC v:Int)*65535 from bp (by unfold aG;omega),L1 (by omega) (by decide),aA];by_cases h2:(2*(jC v*65535)+100) / 200=v
 ·rw[aE h2,aE (by omega),cX (by unfold aG;omega),aA,qQ,show(⟨#[37]⟩:ByteArray)=bZ [37]from rfl,jg (by simp;omega)];rfl
 ·rw[aD h2,aD (by omega),cX (by unfold aG;omega),aA,qQ,show(⟨#[35]⟩:ByteArray)=bZ [35]from rfl,jg (by simp;omega)];rfl
theorem Qx{u:Nat}{c:UInt8}{l r:List UInt8}(hc:iO c=ξ):¬bZ (decDigits u++r)=bZ (c::l):=by
 intro e;have e':=vp e;cases hd:decDigits u with
 |nil=>exact Cs u hd
 |cons x t=>rw[hd]at e';simp only[kN,ZX]at e';have:=sy hc u;rw[hd,e'.1]at this;exact this Xl
theorem afj{v:Nat}(h:v<=65535):tL (bZ (oa v))=δ ((v:Int),0):=by
 have hlen:=C6 h;unfold tL;unfold oa at hlen ⊢;by_cases h0:v=0
 ·rw[aE h0];subst h0;rfl
 rw[aD h0]at hlen ⊢;by_cases h1:v=65535
 ·rw[aE h1];subst h1;rfl
 rw[aD h1]at hlen ⊢;have hp:jC v<=100:=by unfold jC;omega
 have jA:=nD (u:=jC v) (k:=9) (by omega) (by decide);have hvl:=nD (u:=v) (k:=9) (by omega) (by decide);by_cases h2:(2*(jC v*65535)+100) / 200=v
 ·rw[aE h2]at hlen ⊢;have n1:¬bZ (decDigits (jC v)++[37])=(⟨#[111,117,116]⟩:ByteArray):=Qx (c:=111) (l:=[117,116]) (by decide);have n2:¬bZ (decDigits (jC v)++[37])=(⟨#[102,117,108,108]⟩:ByteArray):=Qx (c:=102) (l:=[117,108,108]) (by decide);rw[aD n1,aD n2];rw[show(⟨#[35]⟩:ByteArray)=bZ [35]from rfl,KK (by decide) (by omega)]
  have hx:([35]:List UInt8).isPrefixOf (decDigits (jC v)++[37])=ξ:=by
   cases hd:decDigits (jC v)with
   |nil=>exact absurd hd (Cs _)
   |cons x t=>
    have:=sy (c:=35) (by decide) (jC v);rw[hd]at this;have:¬(35:UInt8)=x:=λe=>this (e▸Xl)
    simp [X6,this]
  rw[hx];simp only[Φ,if_false,aA];rw[show(⟨#[37]⟩:ByteArray)=bZ [37]from rfl,akk (by decide) (by omega),aA];simp only;rw[ac7 (by omega),aA];have h3:¬(10000<(jC v:Int)*100):=by omega
  simp only[n8,WS,gZ h3,Φ,if_false];rw[show ε.wrap ((jC v:Int)*100*65535)=(jC v:Int)*100*65535 from bp (by unfold aG;omega),L1 (by omega) (by decide),aA];congr 2;omega
 ·rw[aD h2]at hlen ⊢;have n1:¬bZ (35::decDigits v)=(⟨#[111,117,116]⟩:ByteArray):=λe=>by have e':=vp (e:bZ _=bZ [111,117,116]);simp at e'
  have n2:¬bZ (35::decDigits v)=(⟨#[102,117,108,108]⟩:ByteArray):=λe=>by have e':=vp (e:bZ _=bZ [102,117,108,108]);simp at e'
  rw[aD n1,aD n2];rw[show(⟨#[35]⟩:ByteArray)=bZ [35]from rfl,KK (by decide) (by omega)];have hx:([35]:List UInt8).isPrefixOf (35::decDigits v)=θ:=by simp [X6]
  rw[hx];simp only[if_true,aA];rw[show List.drop ([35]:List UInt8).length (35::decDigits v)=decDigits v from rfl,Gn (by omega),aA];have hw:aI (v:Int) 0 65535=θ:=by unfold aI;rw[decide_eq_true_eq];omega
  simp only[hw,n8,Xm,Φ,if_false]
theorem afO{c:UInt8}(h:iO c=ξ)(h2:c≠46)(h3:c≠58)(t:Nat):c∉oZ t:=by
 unfold oZ;split
 ·exact MA h h2 (by omega)
 ·rw[gV,eG,eG,eG];rintro(e|e|e|e|e)
  ·exact sy h _ e
  ·exact h3 e
  ·exact Bo h (by omega) e
  ·exact Bo h (by omega) e
  ·exact S4 h h2 (by omega) e
theorem afN{c:UInt8}(h:iO c=ξ)(h2:c∉([111,117,116,102,108,37,35]:List UInt8))(v:Nat):c∉oa v:=by
 simp only[eG,ZK,or_false,not_or]at h2;unfold oa;split
 ·simp [h2]
 ·split
  ·simp [h2]
  ·split
   ·rw[gV];rintro(e|e)
    ·exact sy h _ e
    ·simp at e;exact h2.2.2.2.2.2.1 e
   ·rw[eG];rintro(e|e)
    ·exact h2.2.2.2.2.2.2 e
    ·exact sy h _ e
end
section
open Lib
def jz(l:List UInt8):Prop:=∀c∈([10,32,34]:List UInt8),c∉l
theorem L6{a b:List UInt8}(h1:jz a)(h2:jz b):jz (a++b):=λc hc m=>by
 rcases gV.1 m with m|m
 ·exact h1 c hc m
 ·exact h2 c hc m
theorem CN{x:UInt8}{b:List UInt8}(h1:x∉([10,32,34]:List UInt8))(h2:jz b):jz (x::b):=λc hc m=>by
 rcases eG.1 m with m|m
 ·exact h1 (m▸hc)
 ·exact h2 c hc m
theorem aeb:jz []:=λc hc m=>by cases m
theorem Bm:∀c∈([10,32,34]:List UInt8),iO c=ξ:=by decide
theorem aea(u:Nat):jz (decDigits u):=λc hc=>sy (Bm c hc) u
theorem afq{m r:Nat}(hr:r<1000):jz (nV m r):=λc hc=>MA (Bm c hc) (by revert c hc;decide) hr
theorem afs(t:Nat):jz (oZ t):=λc hc=>afO (Bm c hc) (by revert c hc;decide) (by revert c hc;decide) t
theorem Tu(v:Nat):jz (oa v):=λc hc=>afN (Bm c hc) (by revert c hc;decide) v
theorem jz.b{l:List UInt8}(h:jz l):(32:UInt8)∉l:=h 32 (by decide)
theorem jz.n{l:List UInt8}(h:jz l):(10:UInt8)∉l:=h 10 (by decide)
def tl:List (List UInt8)->List UInt8
 |[]=>[]
 |w::r=>32::(w++tl r)
theorem TZ:∀(ws:List (List UInt8))(a:List UInt8),jz a->(∀w∈ws,jz w)->jt (bZ (a++tl ws)) ⟨#[32]⟩=bZ a::ws.map bZ
 |[],a,ha,_=>by rw[tl,WQ,RF ha.b];rfl
 |w::ws,a,ha,hw=>by rw[tl,RB ha.b,TZ ws w (hw w Xl) (λv hv=>hw v (nL _ hv))];rfl
theorem adf{α β R γ:Type}(f:β->α)(l:List β){body:Nat->α->List β->Option (Lr (List β) (List β) R)}{fin:List β->Option (List β)}{K1:List β->Option γ}{K2:R->Option γ}(hl:l.length<=bu)
  (hb:∀p∈l,∀i pre,pre.length<l.length->body i (f p) pre=δ (.go (pre++[p]))) (hf:fin l=δ l):iB (l.map f) body fin [] K1 K2=K1 l:=by
 rw[xh (by rw[Yo];exact hl)]
 have key:∀(rest pre:List β)(i:Nat),l=pre++rest->gz body fin (rest.map f) i pre=δ (.inl l):=by
  intro rest;induction rest with
  |nil=>intro pre i hp;rw[WQ]at hp;subst hp;rw[ali,gz,hf];rfl
  |cons x rest ih=>intro pre i hp;rw[fH,gz,hb x (by rw[hp];simp) i pre (by rw[hp];simp),aA];exact ih (pre++[x]) (i+1) (by simpa using hp)
 rw[key l [] 0 rfl];rfl
end
section
open Lib
theorem aeC{n:Int}(h:0<=n):lN n=bZ (decDigits n.toNat):=by obtain⟨u,rfl⟩:=Y2 h;rw[qQ,Xk]
theorem Mo{n:Int}(h:0<=n/\n<=65535):uX n=δ (bZ (oa n.toNat),0):=by obtain⟨u,rfl⟩:=Y2 h.1;rw[Xk];exact afl (by omega)
theorem Tp{n:Int}(h:0<=n/\n<=65535):tL (bZ (oa n.toNat))=δ (n,0):=by obtain⟨u,rfl⟩:=Y2 h.1;rw[Xk];exact afj (by omega)
theorem aaE{n:Int}(h:0<=n/\n<=36000000):uT (bZ (oZ n.toNat))=δ (n,0):=by obtain⟨u,rfl⟩:=Y2 h.1;rw[Xk];exact aaF (by omega)
theorem acQ{n:Int}(h:0<=n/\n<1000000000):rV (bZ (decDigits n.toNat))=δ (n,θ):=by obtain⟨u,rfl⟩:=Y2 h.1;rw[Xk];exact Gn (by omega)
structure UM (m : kj) : Prop where
 unit:1<=m.key.unit/\m.key.unit<=9999
 name:(lZ m.key.param).all B3=θ/\lZ m.key.param≠[]/\(lZ m.key.param).length<=20
 rel:m.release=θ->m.value=⟨0,0⟩
 val:m.value.level=0\/m.value.eT=0
 zX:0<=m.value.level/\m.value.level<=65535
 pre:0<=m.value.eT/\m.value.eT<=999
 tmd:m.xE=ξ->m.fE=0/\m.time=0
 dly:0<=m.fE/\m.fE<=36000000
 tim:0<=m.time/\m.time<=36000000
theorem within_iff{n a b:Int}:aI n a b=θ↔a<=n/\n<=b:=by unfold aI;exact decide_eq_true_iff
theorem aeJ{s:ByteArray}(h:oM s=θ):(lZ s).all B3=θ/\lZ s≠[]/\(lZ s).length<=20:=by unfold oM zq at h;simp only[dr,decide_eq_true_eq]at h;obtain⟨⟨⟨⟨h1,h2⟩,h3⟩,_⟩,_⟩:=h;refine⟨h1,λe=>?_,h3⟩;have:s.size=(lZ s).length:=rfl;rw[this,e]at h2;exact absurd h2 (by simp)
theorem ags{l:List kj}{i:Nat}{m:kj}(h:Dq l i m=0):UM m:=by
 unfold Dq at h;by_cases h1:aI m.key.unit 1 9999=θ;case neg=>simp [h1]at h
 rw[aD (by simp [h1])]at h;by_cases h2:oM m.key.param=θ;case neg=>simp [h2]at h
 rw[aD (by simp [h2])]at h;by_cases h3:((m.release&&(decide (¬(m.value=(⟨0,0⟩:lG)))))||((decide (¬(m.value.level=0)))&&(decide (¬(m.value.eT=0)))))=θ
 ·rw[aE h3]at h;cases h
 rw[aD h3]at h;by_cases h4:((!(aI m.value.level 0 65535))||(!(aI m.value.eT 0 999)))=θ
 ·rw[aE h4]at h;cases h
 rw[aD h4]at h;by_cases h5:((!m.xE)&&((decide (¬(m.fE=0)))||(decide (¬(m.time=0)))))=θ
 ·rw[aE h5]at h;cases h
 rw[aD h5]at h;by_cases h6:((!(aI m.fE 0 36000000))||(!(aI m.time 0 36000000)))=θ
 ·rw[aE h6]at h;cases h
 simp only[YW,dr,p9,decide_eq_true_eq,not_or,not_and,YX,within_iff,YK]at h3 h4 h5 h6;refine⟨within_iff.1 h1,aeJ h2,h3.1,?_,h4.1,h4.2,λk=>?_,h6.1,h6.2⟩
 ·by_cases k:m.value.level=0
  ·exact .inl k
  ·exact .inr (h3.2 k)
 ·exact h5 k
end
section
open Lib
structure UL (c : cr) : Prop where
 num:1<=c.aH/\c.aH<=9999999
 title:(lZ c.title).all pc=θ/\(lZ c.title).length<=60
 dly:0<=c.fE/\c.fE<=36000000
 up:0<=c.up/\c.up<=36000000
 down:0<=c.down/\c.down<=36000000
 other:0<=c.other/\c.other<=36000000
 fol:-1<=c.lJ/\c.lJ<=36000000
 cur:vq c.kn=0
 many:c.gU.length<=2000
 mvs:∀m∈c.gU,UM m
theorem acX{s:ByteArray}(h:ud s=θ):(lZ s).all pc=θ/\(lZ s).length<=60:=by
 unfold ud Bv Dk at h;have e:s.size=(lZ s).length:=rfl;split at h
 ·rename_i hs;subst hs;exact⟨rfl,by decide⟩
 ·simp only[dr,decide_eq_true_eq]at h;exact⟨h.1,by omega⟩
theorem af8{l:List cr}{i:Nat}{c:cr}(h:uv l i c=0):UL c:=by
 unfold uv at h;by_cases h1:aI c.aH 1 9999999=θ;case neg=>simp [h1]at h
 rw[aD (by simp [h1])]at h;by_cases h2:(decide (0<(i:Int))&&decide (c.aH<=(pv l i).aH))=θ
 ·rw[aE h2]at h;cases h
 rw[aD h2]at h;by_cases h3:ud c.title=θ;case neg=>simp [h3]at h
 rw[aD (by simp [h3])]at h;by_cases h4:(((((!(aI c.fE 0 36000000))||(!(aI c.up 0 36000000)))||(!(aI c.down 0 36000000)))||(!(aI c.other 0 36000000)))||(!(aI c.lJ (-1) 36000000)))=θ
 ·rw[aE h4]at h;cases h
 rw[aD h4]at h;by_cases h5:vq c.kn=0;case neg=>rw[aE h5]at h;exact absurd h h5
 rw[aD (by simp [h5])]at h;by_cases h6:2000<(c.gU.length:Int)
 ·rw[aE h6]at h;cases h
 rw[aD h6]at h;simp only[YW,p9,not_or,YX,within_iff]at h4;obtain⟨⟨⟨⟨a1,a2⟩,a3⟩,a4⟩,a5⟩:=h4;refine⟨within_iff.1 h1,acX h3,a1,a2,a3,a4,a5,h5,by omega,λm hm=>?_⟩;obtain⟨j,hj,rfl⟩:=Y0.1 hm;have:=(yL c.gU 0).1 h j _ (bT hj);exact ags this
def uJ(n:Int):List UInt8:=nV (n / 1000).toNat (n % 1000).toNat
theorem S2{n:Int}(h:1<=n/\n<=9999999):(uJ n).length<=20:=by have:=GU (m:=(n / 1000).toNat) (r:=(n % 1000).toNat) (k:=9) (by omega) (by decide);unfold uJ;omega
theorem ZB{n:Int}(h:1<=n/\n<=9999999):yD n=δ (bZ (uJ n)):=aev (by omega) (by omega)
theorem NV(a:ByteArray)(l:List ByteArray):eL (a::l) 0=δ a:=rfl
theorem VC(a b:ByteArray)(l:List ByteArray):eL (a::b::l) 1=δ b:=rfl
theorem UC{c:UInt8}(hc:c≠32):∀{ws:List (List UInt8)},(∀w∈ws,c∉w)->c∉tl ws
 |[],_=>by simp [tl]
 |w::r,h=>by
  have:=UC hc (ws:=r) λv hv=>h v (nL _ hv)
  have hw:=h w Xl;simp only[tl,eG,gV,not_or];exact⟨hc,hw,this⟩
theorem aj1{n:Int}(h:1<=n/\n<=9999999):uS (bZ (uJ n))=δ (n,θ):=by unfold uJ;rw[Zd (by omega) (by omega)];congr 2;omega
end
section
open Lib
def lW:List (List UInt8)->List UInt8
 |[]=>[]
 |a::r=>a++10::lW r
theorem SY:∀ls:List (List UInt8),ls.length<=(lW ls).length
 |[]=>bL _
 |a::r=>by have:=SY r;simp only[lW,W0,l8];omega
theorem Sv:∀ls:List (List UInt8),(∀a∈ls,(10:UInt8)∉a)->jt (bZ (lW ls)) ⟨#[10]⟩=ls.map bZ++[bZ []]
 |[],_=>by rw[lW,RF (by simp)];rfl
 |a::r,h=>by rw[lW,RB (h a Xl),Sv r λb hb=>h b (nL _ hb)];rfl
theorem ad1{ls:List (List UInt8)}(h:∀a∈ls,(10:UInt8)∉a)(hl:(lW ls).length<=600000):wX (bZ (lW ls))=δ (ls.map bZ,θ):=by
 have hle:=SY ls;unfold wX;cases hls:ls with
 |nil=>rw[lW,aE (show bZ []=(⟨#[]⟩:ByteArray)from rfl)];rfl
 |cons a r=>
  rw[<-hls]
  have hne:¬bZ (lW ls)=(⟨#[]⟩:ByteArray):=λe=>by have:=vp (e:bZ _=bZ []);rw[hls,lW]at this;simp at this
  have e1:ε.wrap (((ls.map bZ++[bZ []]).length:Int) -1)=((ls.map bZ).length:Int):=by rw[bp (by unfold aG;simp;omega)];simp
  rw[aD hne,cX ⟨by rw[dJ];omega,by decide⟩,aA,Sv ls h,e1]
  have e2:eL (ls.map bZ++[bZ []]) ((ls.map bZ).length:Int)=δ (bZ []):=by unfold eL;rw[aE (by omega)];simp
  rw[e2,aA,aE (by rfl)]
  have e3:rM (ls.map bZ++[bZ []]) μ (δ ((ls.map bZ).length:Int))=δ (ls.map bZ):=by unfold rM;simp only[y9,Xh];rw[aE ⟨by omega,by omega,by simp;omega⟩];simp
  rw[e3];rfl
theorem aep{l:List cr}(h:vG l=0):l.length<=300/\∀c∈l,UL c:=by
 unfold vG at h;by_cases h1:300<(l.length:Int)
 ·rw[aE h1]at h;cases h
 rw[aD h1]at h;by_cases h2:fV (uv l) l 0=0;case neg=>rw[aE h2]at h;exact absurd h h2
 refine⟨by omega,λc hc=>?_⟩;obtain⟨j,hj,rfl⟩:=Y0.1 hc;exact af8 ((yL l 0).1 h2 j _ (bT hj))
theorem ab7{r:fA}{ps:List iz}{l:List cr}(h:Dp r ps l=0):pY r ps=0/\vG l=0:=by
 unfold Dp at h;by_cases h1:pY r ps=0;case neg=>rw[aE h1]at h;exact absurd h h1
 rw[aD (by simp [h1])]at h;by_cases h2:vG l=0;case neg=>rw[aE h2]at h;exact absurd h h2
 exact⟨h1,h2⟩
end
def me(r:Int):Bool:=decide (r=24\/r=25\/r=30\/r=29)
theorem pZ{r:Int}(h:me r=θ):r=24\/r=25\/r=30\/r=29:=of_decide_eq_true h
def dF(r:Int):Int:=if r=29 then 30 else r
def vS(r:Int):Int:=if r=29 then 2589408 else 86400*r
def fW(r n:Int):Int:=if r=29/\n % 10≠0 then 1798 else 60*dF r
def fL(r m:Int):Int:=60*dF r*m-(if r=29 then 2*(m-(m+9) / 10)else 0)
def cB(r n:Int):Int:=if r=29 then n+18*(n / 17982)+(if 1800<=n % 17982 then 2*(1+(n % 17982-1800) / 1798)else 0)else n
def mW(r n:Int):Int:=n / dF r / 3600
def stM(r n:Int):Int:=n / dF r / 60 % 60
def mX(r n:Int):Int:=n / dF r % 60
def mV(r n:Int):Int:=n % dF r
def zm(r h m s f:Int):Int:=fL r (h*60+m)+s*dF r+f-(60*dF r-fW r (h*60+m))
def ED(r h m s f:Int):Prop:=me r=θ/\(0<=h/\h<=23)/\(0<=m/\m<=59)/\(0<=s/\s<=59)/\(0<=f/\f<=dF r-1)/\¬(r=29/\f<2/\s=0/\m % 10≠0)
theorem Ba{r:Int}(h:me r=θ):24<=dF r/\dF r<=30:=by rcases pZ h with rfl|rfl|rfl|rfl<;>decide
theorem acA{r:Int}(h:me r=θ)(m:Int)(hm:0<=m):fL r (m+1)=fL r m+fW r m:=by rcases pZ h with rfl|rfl|rfl|rfl<;>simp only[fL,fW,dF]<;>simp<;>(try split)<;>omega
theorem adG{r:Int}(h:me r=θ):fL r 1440=vS r:=by rcases pZ h with rfl|rfl|rfl|rfl<;>decide+kernel
theorem S1{r:Int}(h:me r=θ)(m:Int):1440<=fW r m/\fW r m<=1800:=by rcases pZ h with rfl|rfl|rfl|rfl<;>simp only[fW,dF]<;>simp<;>(try split)<;>omega
theorem UE{j:Int}(t u:Int)(hj:j=10*t+u)(hu:0<=u/\u<=9):fL 29 j=17982*t+(if u=0 then 0 else 1800+1798*(u-1))/\fW 29 j=(if u=0 then 1800 else 1798):=by
 have e1:j % 10=u:=by omega
 by_cases h0:u=0
 ·have e2:(j+9) / 10=t:=by omega
  simp only[fL,fW,dF,e1,e2,h0];simp;omega
 ·have e2:(j+9) / 10=t+1:=by omega
  simp only[fL,fW,dF,e1,e2,h0];simp;omega
theorem af2{n j:Int}(hj:0<=j)(h1:fL 29 j<=n)(h2:n<fL 29 j+fW 29 j):cB 29 n=n+2*(j-j / 10):=by
 obtain⟨t,ht⟩:∃t,t=j / 10:=⟨_,rfl⟩
 obtain⟨u,hu⟩:∃u,u=j % 10:=⟨_,rfl⟩
 obtain⟨e1,e2⟩:=UE (j:=j) t u (by omega) (by omega);rw[e1,e2]at h2;rw[e1]at h1;have hj2:j=10*t+u:=by omega
 have hu2:0<=u/\u<=9:=by omega
 rw[<-ht];clear e1 e2 ht hu;subst hj2;by_cases h0:u=0
 ·subst h0;simp at h1 h2;have q1:n / 17982=t:=by omega
  have q2:n % 17982<1800:=by omega
  rw[cB,aE rfl,q1,aD (by omega)];omega
 ·rw[aD h0]at h1 h2;rw[aD h0]at h2;have q1:n / 17982=t:=by omega
  have q3:n % 17982=n-17982*t:=by omega
  have q4:(n-17982*t-1800) / 1798=u-1:=by omega
  rw[cB,aE rfl,q1,q3,aE (by omega),q4];omega
theorem afZ{r n j:Int}(hr:me r=θ)(hj:0<=j)(h1:fL r j<=n)(h2:n<fL r j+fW r j):
  mW r (cB r n)=j / 60/\stM r (cB r n)=j % 60/\mX r (cB r n)=(n-fL r j+(60*dF r-fW r j)) / dF r/\mV r (cB r n)=(n-fL r j+(60*dF r-fW r j)) % dF r:=by
 rcases pZ hr with rfl|rfl|rfl|rfl
 ·simp [fL,fW,dF,cB,mW,stM,mX,mV]at *;omega
 ·simp [fL,fW,dF,cB,mW,stM,mX,mV]at *;omega
 ·simp [fL,fW,dF,cB,mW,stM,mX,mV]at *;omega
 ·have e:cB 29 n=n+2*(j-j / 10):=af2 hj h1 h2;rw[e]
  have e2:n+2*(j-j / 10)=1800*j+(n-fL 29 j+(60*dF 29-fW 29 j)):=by obtain⟨e1,e2⟩:=UE (j:=j) (j / 10) (j % 10) (by omega) (by omega);rw[e1,e2];simp [dF];split<;>omega
  have e3:0<=n-fL 29 j+(60*dF 29-fW 29 j)/\n-fL 29 j+(60*dF 29-fW 29 j)<1800:=by have:=S1 hr j;simp [dF];omega
  rw[e2];generalize n-fL 29 j+(60*dF 29-fW 29 j)=x at *
  simp [mW,stM,mX,mV,dF];omega
theorem ach{r n:Int}(hr:me r=θ)(h0:0<=n)(h1:n<vS r):∃j:Int,0<=j/\j<1440/\fL r j<=n/\n<fL r j+fW r j:=by
 have key:∀k:Nat,k<=1440->n<fL r k->∃j:Int,0<=j/\j<k/\fL r j<=n/\n<fL r j+fW r j:=by
  intro k;induction k with
  |zero=>intro _ h;simp [fL]at h;omega
  |succ k ih=>
   intro hk h;by_cases hlt:n<fL r k
   ·obtain⟨j,a,b,c,d⟩:=ih (by omega) hlt;exact⟨j,a,by omega,c,d⟩
   ·refine⟨k,by omega,by omega,by omega,?_⟩;have:=acA hr k (by omega);rw[show((k+1:Nat):Int)=(k:Int)+1 by omega,this]at h;omega
 obtain⟨j,a,b,c,d⟩:=key 1440 (by omega) (by have:=adG hr;simpa [this]using h1);exact⟨j,a,by simpa using b,c,d⟩
theorem L3{r n:Int}(hr:me r=θ)(h0:0<=n)(h1:n<vS r):
  ED r (mW r (cB r n)) (stM r (cB r n)) (mX r (cB r n)) (mV r (cB r n))/\zm r (mW r (cB r n)) (stM r (cB r n)) (mX r (cB r n)) (mV r (cB r n))=n:=by
 obtain⟨j,a,b,c,d⟩:=ach hr h0 h1;obtain⟨s1,s2,s3,s4⟩:=afZ hr a c d;rw[s1,s2,s3,s4];have hm:=S1 hr j;have hc:=Ba hr
 have hm2:fW r j<=60*dF r:=by rcases pZ hr with rfl|rfl|rfl|rfl<;>simp [fW,dF]<;>(try split)<;>omega
 have hx0:0<=n-fL r j+(60*dF r-fW r j):=by omega
 have hx1:n-fL r j+(60*dF r-fW r j)<60*dF r:=by omega
 have e:j / 60*60+j % 60=j:=by omega
 constructor
 ·refine⟨hr,by omega,by omega,?_,?_,?_⟩
  ·rcases pZ hr with rfl|rfl|rfl|rfl<;>simp only[dF]at *<;>simp at *<;>omega
  ·rcases pZ hr with rfl|rfl|rfl|rfl<;>simp only[dF]at *<;>simp at *<;>omega
  ·rintro⟨rfl,g1,g2,g3⟩
   have:fW 29 j=1798:=by rw[fW,aE ⟨rfl,by omega⟩]
   clear s1 s2 s3 s4;simp only[show dF 29=30 from rfl,this]at *
   omega
 ·rw[zm,e];have:=Int.emod_add_mul_ediv (n-fL r j+(60*dF r-fW r j)) (dF r);rw[Int.mul_comm (dF r) ((n-fL r j+(60*dF r-fW r j)) / dF r)]at this;omega
section
open Lib
theorem aeY{r:Int}(h:cntF r≠0):me r=θ/\DC r=vS r/\cntF r=dF r:=by
 unfold cntF at h
 have hr:r=24\/r=25\/r=30\/r=29:=by
  by_cases h1:r=24
  ·exact .inl h1
  by_cases h2:r=25
  ·exact .inr (.inl h2)
  by_cases h3:r=30
  ·exact .inr (.inr (.inl h3))
  by_cases h4:r=29
  ·exact .inr (.inr (.inr h4))
  simp [h1,h2,h3,h4]at h
 refine⟨qo hr,?_⟩;rcases hr with rfl|rfl|rfl|rfl<;>decide
structure Dw (a : bF) : Prop where
 time:a.time=0
 kind:1<=a.kind/\a.kind<=9
 NO:a.kind<8->1<=a.bB/\a.bB<=40
 Vy:¬a.kind<8->a.bB=0
 gf:a.kind=3->1<=a.gf/\a.gf<=9999999
 NM:a.kind≠3->a.gf=0
 Vx:a.kind<6->a.level=0
 rel:a.kind=6->0<=a.level/\a.level<=36000000
 zX:a.kind=7\/a.kind=8->0<=a.level/\a.level<=65535
 blk:a.kind=9->0<=a.level/\a.level<=1
theorem adF{s:dM}(h:mD s=0){n:Int}(hp:sx s n=θ):1<=n/\n<=40:=by
 unfold mD at h;split at h
 ·exact absurd h ‹_›
 split at h
 ·cases h
 split at h
 ·exact absurd h ‹_›
 split at h
 ·cases h
 unfold sx at hp;obtain⟨p,hm,he⟩:=WJ.1 hp;obtain⟨j,hj,rfl⟩:=Y0.1 hm;have:=(yL s.gF 0).1 h j _ (bT hj);unfold Ds at this;split at this
 ·cases this
 rename_i h1;simp only[p9,YX,within_iff]at h1;have e:=of_decide_eq_true he;omega
theorem aef{s:dM}(h:mD s=0){p n:Int}(hj:(Bw s p).any (λc=>decide (c.aH=n))=θ):1<=n/\n<=9999999:=by
 unfold mD at h;split at h
 ·exact absurd h ‹_›
 split at h
 ·cases h
 split at h
 ·exact absurd h ‹_›
 rename_i h2;rw[YK]at h2;obtain⟨c,hc,he⟩:=WJ.1 hj;have e:=of_decide_eq_true he;unfold Bw qV at hc;cases hf:s.dK.find? λx=>decide (x.aH=(CE s p).1.list)with
 |none=>rw[hf]at hc;cases hc
 |some x=>
  rw[hf]at hc;obtain⟨j,hj2,hx⟩:=Y0.1 (BE hf);have:=(yL s.dK 0).1 h2 j _ (bT hj2);rw[hx]at this;unfold yW at this;split at this
  ·cases this
  split at this
  ·cases this
  have:=((aep (ab7 this).2).2 c hc).num;omega
theorem af7{s:dM}(hs:mD s=0){a:bF}(h:Dx s a=0):Dw a:=by
 unfold Dx at h;split at h
 ·rename_i h1;rw[h1]at h;cases h
 split at h
 ·cases h
 rename_i h1 h2;split at h
 ·cases h
 rename_i h3;split at h
 ·exact absurd h ‹_›
 rename_i h4;simp only[YW,decide_eq_true_eq,not_or,YK]at h2;obtain⟨h5,h6⟩:=h2;unfold lD at h5;split at h5
 ·cases h5
 rename_i k1;split at h5
 ·cases h5
 rename_i k2;simp only[p9,YX,within_iff]at k1;simp only[YW,dr,decide_eq_true_eq,not_or,not_and,YK]at k2;obtain⟨⟨k3,k4⟩,k5⟩:=k2;rw[YK]at h4;unfold yJ at h4;split at h4
 ·cases h4
 rename_i l1;split at h4
 ·cases h4
 rename_i l2;split at h4
 ·cases h4
 rename_i l3;simp only[YW,dr,decide_eq_true_eq,p9,not_and,YX,within_iff]at l1 l2 l3;simp only[dr,decide_eq_true_eq,p9,not_and,YX]at h3;refine⟨h6,k1,λk=>adF hs (h3 k),λk=>k3 (by omega),λk=>?_,λk=>k4 k,λk=>k5 (by omega),λk=>l2 k,λk=>l1 k,λk=>l3 k⟩;rw[aE k]at h;split at h
 ·rename_i hj;exact aef hs hj
 ·cases h
structure zf (r : Int) (e : cV) : Prop where
 bz:0<=e.bz/\e.bz<vS r
 act:Dw e.action
theorem Un{s:dM}{r:Int}{l:List cV}(h:oI s r l=0):me r=θ/\l.length<=2000/\mD s=0/\∀e∈l,zf r e:=by
 unfold oI at h;split at h
 ·exact absurd h ‹_›
 rename_i hs;rw[YK]at hs;split at h
 ·cases h
 rename_i hr;split at h
 ·cases h
 rename_i hn;obtain⟨r1,r2,r3⟩:=aeY hr;refine⟨r1,by omega,hs,λe he=>?_⟩;obtain⟨j,hj,rfl⟩:=Y0.1 he;have:=(yL l 0).1 h j _ (bT hj);unfold G9 at this;split at this
 ·cases this
 rename_i h1;split at this
 ·cases this
 split at this
 ·exact absurd this ‹_›
 rename_i h2;rw[YK]at h2;simp only[p9,YX,within_iff]at h1;rw[r2]at h1
 have hd:ε.wrap (vS r-1)=vS r-1:=by rcases pZ r1 with rfl|rfl|rfl|rfl<;>rfl
 rw[hd]at h1;exact⟨by omega,af7 hs h2⟩
end
section
open Lib
theorem aga{r:Nat}(h:r<100):decDigits (100+r)=[49,dB (r / 10),dB (r % 10)]:=by
 rw[decDigits,dif_neg (by omega),decDigits,dif_neg (by omega),decDigits,dif_pos (by omega)];have e1:(100+r) / 10 / 10=1:=by omega
 have e2:(100+r) / 10 % 10=r / 10:=by omega
 have e3:(100+r) % 10=r % 10:=by omega
 rw[e1,e2,e3];rfl
def lq(n:Int):List UInt8:=[dB (n.toNat / 10),dB (n.toNat % 10)]
def EC(r:Int):UInt8:=if r=29 then 59 else 58
def jd(r h m s f:Int):List UInt8:=lq h++58::(lq m++58::(lq s++EC r::lq f))
def wGo:List UInt8:=[103,111]
def agt:List UInt8:=[98,97,99,107]
def agu:List UInt8:=[106,117,109,112]
def af4:List UInt8:=[112,97,117,115,101]
def afg:List UInt8:=[114,101,115,117,109,101]
def ahB:List UInt8:=[114,101,108,101,97,115,101]
def af3:List UInt8:=[102,97,100,101,114]
def Hr:List UInt8:=[103,114,97,110,100]
def Hq:List UInt8:=[98,108,97,99,107]
def Ht:List UInt8:=[108,105,103,104,116]
def pI(k:Int):List UInt8:=if k=1 then wGo else if k=2 then agt else if k=3 then agu else if k=4 then af4 else if k=5 then afg else if k=6 then ahB else af3
def vX(a:bF):List (List UInt8):=if a.kind=3 then[uJ a.gf]else if a.kind=6 then[oZ a.level.toNat]else if a.kind=7 then[oa a.level.toNat]else[]
def jO(a:bF):List (List UInt8):=if a.kind=8 then[Hr,oa a.level.toNat]else if a.kind=9 then[if a.level=1 then Hq else Ht]else pI a.kind::decDigits a.bB.toNat::vX a
theorem yU(n:Int):(lq n).length=2:=rfl
theorem adT{n:Int}(h:0<=n/\n<=99):((tq (aG (ε.wrap (100+n))) (lN (ε.wrap (100+n)))).bind λr1=>jV r1 (δ 1) μ)=δ (bZ (lq n)):=by
 obtain⟨u,rfl⟩:=Y2 h.1;have ew:ε.wrap (100+(u:Int))=((100+u:Nat):Int):=by rw[bp (by unfold aG;omega)];omega
 rw[ew,cX (by unfold aG;omega),aA,qQ,aga (by omega),show(1:Int)=((1:Nat):Int)from rfl,vg (by simp)];rfl
theorem G6{n:Int}(h:0<=n/\n<=99):jz (lq n):=by
 unfold lq;refine CN ?_ (CN ?_ aeb)
 ·intro m;have:=vr (k:=n.toNat / 10) (by omega);rw[Bm _ m]at this;cases this
 ·intro m;have:=vr (k:=n.toNat % 10) (by omega);rw[Bm _ m]at this;cases this
theorem afr{r h m s f:Int}(hh:0<=h/\h<=99)(hm:0<=m/\m<=99)(hs:0<=s/\s<=99)(hf:0<=f/\f<=99):jz (jd r h m s f):=by unfold jd EC;refine L6 (G6 hh) (CN (by decide) (L6 (G6 hm) (CN (by decide) (L6 (G6 hs) (CN ?_ (G6 hf))))));split<;>decide
theorem Mj(r h m s f:Int):(jd r h m s f).length=11:=by simp [jd,lq]
theorem ae5{r h m s f:Int}:(jd r h m s f).take 2=lq h/\((jd r h m s f).drop 3).take 2=lq m/\((jd r h m s f).drop 6).take 2=lq s/\((jd r h m s f).drop 9).take 2=lq f:=⟨rfl,rfl,rfl,rfl⟩
theorem ae4{r h m s f:Int}:(jd r h m s f)[2]? =δ 58/\(jd r h m s f)[5]? =δ 58/\((jd r h m s f).drop 8).take 1=[EC r]:=⟨rfl,rfl,rfl⟩
theorem aft{n:Int}(h:0<=n/\n<=99):jj (bZ (lq n))=θ:=by unfold jj lq;rw[nG];simp [vr (k:=n.toNat / 10) (by omega),vr (k:=n.toNat % 10) (by omega)]
theorem SD(a:bF):∀w∈jO a,jz w:=by
 intro w hw;unfold jO at hw;split at hw
 ·simp only[eG,ZK,or_false]at hw;rcases hw with rfl|rfl
  ·unfold jz;decide
  ·exact Tu _
 split at hw
 ·simp only[eG,ZK,or_false]at hw;subst hw;split<;>(unfold jz;decide)
 rcases eG.1 hw with rfl|hw
 ·unfold pI
  repeat' split
  all_goals (unfold jz;decide)
 rcases eG.1 hw with rfl|hw
 ·exact aea _
 unfold vX at hw;split at hw
 ·simp only[eG,ZK,or_false]at hw;subst hw;exact afq (by omega)
 split at hw
 ·simp only[eG,ZK,or_false]at hw;subst hw;exact afs _
 split at hw
 ·simp only[eG,ZK,or_false]at hw;subst hw;exact Tu _
 ·cases hw
end
section
open Lib
def gA{α:Type}(o:Option α):Prop:=∃x,o=δ x
theorem cN{α:Type}(x:α):gA (δ x):=⟨x,rfl⟩
theorem dj{α β:Type}{o:Option α}{k:α->Option β}(h:gA o)(hk:∀x,o=δ x->gA (k x)):gA (o.bind k):=by obtain⟨x,hx⟩:=h;rw[hx,aA];exact hk x hx
theorem eO{α:Type}{p:Prop}[Decidable p]{a b:Option α}(h1:p->gA a)(h2:¬p->gA b):gA (if p then a else b):=by
 split
 ·exact h1 ‹_›
 ·exact h2 ‹_›
theorem sB{α:Type}{p:Prop}{x:α}(h:p):gA (tq p x):=⟨x,cX h⟩
theorem qg(s:ByteArray):s.size=(lZ s).length:=rfl
theorem Gq(s p:ByteArray):(ji s p).1.size<=s.size/\(ji s p).2.1.size<=s.size:=by
 unfold ji;rw[dJ,dJ,qg];unfold cut;split
 ·simp only[mL,YI];omega
 ·simp
theorem K8{s:ByteArray}(h:s.size<=9223372036854775807):gA (rV s):=by unfold rV;exact dj (sB ⟨h,by decide⟩) λx _=>cN _
theorem Bs{s:ByteArray}{i:Int}(h0:0<=i)(h1:i<(s.size:Int)):gA (kF s i):=by unfold kF;rw[dif_pos ⟨h0,h1⟩];exact cN _
theorem aeg{s:ByteArray}(h:jj s=θ):0<s.size:=by
 unfold jj at h;rw[qg];cases hl:lZ s with
 |nil=>rw[hl]at h;simp at h
 |cons x l=>simp
theorem Mr{γ:Type}{b:ByteArray}{most:Int}(hm:most<=1000){K1:Int->Option γ}{K2:Unit->Option γ}:∀(k:Nat)(i n:Int),0<=i->most-i<=k->∃v,mh (vu b most) (n,i) K1 K2=K1 v
 |0,i,n,h0,hk=>⟨n,uc (G7 (by omega))⟩
 |k+1,i,n,h0,hk=>by
  by_cases hi:i<most
  ·have hstep:∃n',vu b most (n,i)=δ (.go (n',i+1)):=by
    unfold vu;simp only;rw[aE hi,show ε.wrap (i+1)=i+1 from bp (by unfold aG;omega)];split
    ·rename_i hs;obtain⟨x,hx⟩:=Bs h0 hs;rw[hx];exact⟨_,rfl⟩
    ·exact⟨_,rfl⟩
   obtain⟨n',hn⟩:=hstep;obtain⟨v,hv⟩:=Mr hm (K1:=K1) (K2:=K2) k (i+1) n' (by omega) (by omega);exact⟨v,(kW hn).trans hv⟩
  ·exact⟨n,uc (G7 hi)⟩
theorem Sc{s:ByteArray}(h:jj s=θ)(hs:s.size<4294967281):gA (kF s (ε.wrap ((s.size:Int) -1))):=by have:=aeg h;rw[bp (by unfold aG;omega)];exact Bs (by omega) (by omega)
theorem FU{s:ByteArray}{most:Int}(hs:s.size<4294967281)(hm:most<=1000):gA (mj s most):=by
 obtain⟨c1,c2⟩:=Gq s ⟨#[46]⟩;unfold mj;refine dj (sB hs) λr1 h1=>?_
 rw[cX hs]at h1;injection h1 with h1
 subst h1;refine dj (K8 (by omega)) λr2 _=>?_
 refine dj (eO (λ_=>sB (by omega)) λ_=>cN _) λr3 h3=>?_
 refine dj (eO (λh=>?_) λ_=>cN _) λx4 _=>?_
 ·simp only[dr,p9,iW,Xq]at h;obtain⟨⟨a1,a2⟩,a3,a4⟩:=h;rw[aE (by simp [a1,a2]),cX (by omega)]at h3;injection h3 with h3
  rw[<-h3]at a3;exact Sc a3 (by omega)
 ·refine eO (λ_=>cN _) λ_=>?_
  obtain⟨v,hv⟩:=Mr (b:=(ji s ⟨#[46]⟩).2.1) hm (K1:=λb6=>δ (b6,θ)) (K2:=λb6:Unit=>μ) (most.toNat+1) 0 r2.1 (by omega) (by omega);exact⟨_,hv⟩
theorem ajt{s:ByteArray}(hs:s.size<4294967281):gA (uS s):=by
 obtain⟨c1,c2⟩:=Gq s ⟨#[46]⟩;unfold uS;refine dj (sB hs) λr1 h1=>?_
 rw[cX hs]at h1;injection h1 with h1
 subst h1;refine dj (sB ⟨by omega,by decide⟩) λr2 _=>?_
 refine dj (eO (λ_=>sB (by omega)) λ_=>cN _) λr3 h3=>?_
 refine dj (eO (λh=>?_) λ_=>cN _) λx4 _=>?_
 ·simp only[dr,p9,iW,Xq]at h;obtain⟨⟨a1,a2⟩,a3,a4⟩:=h;rw[aE (by simp [a1,a2]),cX (by omega)]at h3;injection h3 with h3
  rw[<-h3]at a3;exact Sc a3 (by omega)
 ·refine eO (λ_=>cN _) λ_=>?_
  obtain⟨v,hv⟩:=Mr (b:=(ji s ⟨#[46]⟩).2.1) (most:=3) (by decide) (K1:=λb6=>δ (b6,θ)) (K2:=λb6:Unit=>μ) 4 0 r2.1 (by omega) (by omega);exact⟨_,hv⟩
theorem ako{s:ByteArray}{p:List UInt8}(hp:p.length<=100)(hs:s.size<4294967281):∃r:ByteArray×Bool,yA s (bZ p)=δ r/\r.1.size<=s.size:=by
 have e:=KK (a:=lZ s) hp (by have:=qg s;omega);rw[yY]at e;refine⟨_,e,?_⟩;split
 ·rw[dJ,YI,qg];omega
 ·exact bL _
theorem Yl{s:ByteArray}{p:List UInt8}(hp:p.length<=100)(hs:s.size<4294967281):∃r:ByteArray,wP s (bZ p)=δ r/\r.size<=s.size:=by
 have e:=PO (a:=lZ s) hp (by have:=qg s;omega);rw[yY]at e;refine⟨_,e,?_⟩;split
 ·rw[dJ,YI,qg];omega
 ·exact bL _
theorem YR{s:ByteArray}{p:List UInt8}(hp:p.length<=100)(hs:s.size<4294967281):∃r:ByteArray×Bool,wQ s (bZ p)=δ r/\r.1.size<=s.size:=by
 have e:=Qb (a:=lZ s) hp (by have:=qg s;omega);rw[yY]at e;unfold wQ Ap;rw[e,aA];by_cases h:p <:+ lZ s
 ·have hle:=h.length_le
  have hw:ε.wrap ((s.size:Int) -((bZ p).size:Int))=(((lZ s).length-p.length:Nat):Int):=by rw[dJ,qg,bp (by unfold aG;have:=qg s;omega)];omega
  have e2:=MJ (l:=lZ s) (k:=(lZ s).length-p.length) (by omega);rw[yY]at e2;rw[qo h,aD (by simp),hw,e2];refine⟨_,rfl,?_⟩;simp only;rw[dJ,mL,qg];omega
 ·rw[gZ h,aE (by simp)];exact⟨_,rfl,bL _⟩
theorem aby{n d:Int}(hd:ε.wrap (2*d)≠0):gA (tM n d):=by unfold tM AL xU xV;rw[aD hd,aD hd];simp only[aA];split<;>exact⟨_,rfl⟩
theorem RJ{s:ByteArray}(hs:s.size<4294967281):gA (tL s):=by
 unfold tL;refine eO (λ_=>cN _) λ_=>eO (λ_=>cN _) λ_=>?_
 obtain⟨r,h1,h2⟩:=ako (p:=[35]) (by decide) hs;refine dj ⟨r,h1⟩ λr1 bn=>?_
 obtain rfl:r=r1:=akV (h1.symm.trans bn);refine eO (λ_=>?_) λ_=>?_
 ·refine dj (K8 (by omega)) λr2 _=>?_
  exact eO (λ_=>cN _) λ_=>cN _
 ·obtain⟨q,h3,h4⟩:=YR (p:=[37]) (by decide) hs;refine dj ⟨q,h3⟩ λr4 nX=>?_
  obtain rfl:q=r4:=akV (h3.symm.trans nX);refine dj (FU (by omega) (by decide)) λr5 _=>?_
  refine eO (λ_=>cN _) λ_=>?_
  exact dj (aby (by decide)) λ_ _=>cN _
theorem Ze{s:ByteArray}(hs:s.size<4294967281):gA (uT s):=by
 obtain⟨c1,c2⟩:=Gq s ⟨#[58]⟩;unfold uT;refine dj (sB hs) λr1 h1=>?_
 rw[cX hs]at h1;injection h1 with h1
 subst h1;refine eO (λ_=>?_) λ_=>?_
 ·refine dj (FU hs (by decide)) λr2 _=>?_
  exact eO (λ_=>cN _) λ_=>cN _
 refine dj (sB ⟨by omega,by decide⟩) λr4 _=>?_
 generalize (ji s ⟨#[58]⟩).2.1=b at *
 obtain⟨d1,d2⟩:=Gq b ⟨#[46]⟩;refine dj (sB (by omega)) λr5 h5=>?_
 rw[cX (by omega)]at h5;injection h5 with h5
 subst h5;refine dj (eO (λ_=>sB (by omega)) λ_=>cN _) λr6 _=>?_
 refine eO (λ_=>cN _) λhne=>?_
 have h2:(ji b ⟨#[46]⟩).1.size=2:=by simp only[YW,not_or,decide_eq_true_eq,YK]at hne;omega
 obtain⟨y,y1,y2⟩:=Yl (s:=b) (p:=[48]) (by decide) (by omega);refine dj ⟨y,y1⟩ λr7 h7=>?_
 obtain rfl:y=r7:=akV (y1.symm.trans h7);refine dj (FU (by omega) (by decide)) λr8 _=>?_
 refine dj ?_ λnZ _=>?_
 ·refine eO (λ_=>?_) λ_=>cN _
  have e2:=vg (l:=lZ b) (k:=1) (by have:=qg b;omega);rw[yY]at e2;refine dj ⟨_,e2⟩ λx9 h9=>?_
  obtain rfl:=akV (e2.symm.trans h9);refine dj (FU (by rw[dJ,YI];have:=qg b;omega) (by decide)) λcz _=>cN _
 ·refine dj (eO (λ_=>sB (by omega)) λ_=>cN _) λiR _=>?_
  exact eO (λ_=>cN _) λ_=>eO (λ_=>cN _) λ_=>cN _
theorem acJ(p:ByteArray):∀(n:Nat)(k:Nat)(s:ByteArray)(x:ByteArray),x∈splitB p k n s->x.size<=s.size:=by
 intro n;induction n with
 |zero=>intro k s x hx;rw[splitB]at hx;simp at hx;rw[hx];exact bL _
 |succ n ih=>
  intro k s x hx;rw[splitB]at hx;split at hx
  ·simp at hx;rw[hx];exact bL _
  ·rcases eG.1 hx with rfl|hx
   ·rw[ByteArray.size_extract];omega
   ·have:=ih _ _ _ hx;rw[ByteArray.size_extract]at this;omega
end
section
open Lib
theorem HG{n:Int}(h:0<=n/\n<=99):uZ n=δ (bZ (lq n)):=by unfold uZ;have:=adT h;obtain⟨r,h1,h2⟩:=bg.1 this;rw[h1,aA,h2];rfl
theorem Mx(r:Int):wW r=δ (bZ [EC r]):=by unfold wW EC;split<;>rfl
theorem afV{r:Int}{x:iM}(h1:0<=x.hours/\x.hours<=99)(h2:0<=x.minutes/\x.minutes<=99)(h3:0<=x.seconds/\x.seconds<=99)(h4:0<=x.frames/\x.frames<=99):Cx r x=δ (bZ (jd r x.hours x.minutes x.seconds x.frames)):=by unfold Cx;rw[HG h1,aA,show(⟨#[58]⟩:ByteArray)=bZ [58]from rfl,jg (by simp [yU]),aA,HG h2,aA,jg (by simp [yU]),aA,jg (by simp [yU]),aA,HG h3,aA,jg (by simp [yU]),aA,Mx,aA,jg (by simp [yU]),aA,HG h4,aA,jg (by simp [yU]),aA];simp [jd]
theorem Kh{k:Int}:wR k=δ (bZ (pI k)):=by
 unfold wR pI
 repeat' split
 all_goals rfl
theorem RN(k:Int):(pI k).length<=7:=by
 unfold pI
 repeat' split
 all_goals decide
theorem acS(n:Int):gA (uX n):=by
 by_cases h:aI n 0 65535=θ
 ·exact⟨_,Mo (within_iff.1 h)⟩
 ·unfold uX;rw[aE (by simpa using h)];exact⟨_,rfl⟩
def sO(a:bF):List UInt8:=match jO a with|[]=>[]|w::r=>w++tl r
theorem Tr(a:bF):tl (jO a)=32::sO a:=by
 unfold sO
 have:jO a≠[]:=by
  unfold jO
  repeat' split
  all_goals simp
 cases h:jO a with
 |nil=>exact absurd h this
 |cons w r=>rfl
theorem Zg{a:bF}(h:Dw a):Cg a=δ (bZ (sO a)):=by
 obtain⟨l,hl⟩:=acS a.level;unfold Cg;rw[hl,aA];by_cases h8:a.kind=8
 ·have hlv:=h.zX (.inr h8);have e:=Mo hlv;rw[hl]at e;injection e with e
  subst e;have hn:=C6 (v:=a.level.toNat) (by omega);rw[aE h8,show(⟨#[103,114,97,110,100,32]⟩:ByteArray)=bZ [103,114,97,110,100,32]from rfl];simp only;rw[jg (by simp;omega)];unfold sO jO;rw[aE h8];simp [tl,Hr]
 rw[aD h8];by_cases h9:a.kind=9
 ·have hb:=h.blk h9
  have eW:sO a=if a.level=1 then Hq else Ht:=by unfold sO jO;rw[aD h8,aE h9];simp [tl]
  rw[eW,qo h9];by_cases h1:a.level=1
  ·simp only[h1,decide_true,Bool.and_self,if_true];rfl
  ·simp only[h1,decide_false,Y4,Φ,if_false,aE h9];rfl
 rw[gZ h9];simp only[YU,Φ,if_false,aD h9];have hk:a.kind<8:=by have:=h.kind;omega
 have hp:=h.NO hk;have hw:=RN a.kind;have hd:=nD (u:=a.bB.toNat) (k:=9) (by omega) (by decide)
 have eW:sO a=pI a.kind++tl (decDigits a.bB.toNat::vX a):=by unfold sO jO;rw[aD h8,aD h9]
 rw[Kh,aA,show(⟨#[32]⟩:ByteArray)=bZ [32]from rfl,jg (by simp;omega),aA,cX (by unfold aG;omega),aA,aeC (by omega),jg (by simp;omega),aA,eW];unfold vX;by_cases h3:a.kind=3
 ·have hc:=h.gf h3;have hn:=S2 hc
  have e3:Ay a.gf=δ (bZ (uJ a.gf)):=by unfold Ay;rw[ZB hc];rfl
  simp only[aE h3];rw[e3,aA,jg (by simp;omega),aA,jg (by simp;omega)];simp [tl]
 simp only[aD h3];by_cases h6:a.kind=6
 ·have hlv:=h.rel h6;have hn:=Mn (t:=a.level.toNat) (by omega)
  have e6:yE a.level=δ (bZ (oZ a.level.toNat),0):=by have:=aaG (t:=a.level.toNat) (by omega);rwa[Int.toNat_of_nonneg hlv.1]at this
  simp only[aE h6];rw[e6,aA];simp only;rw[jg (by simp;omega),aA,jg (by simp;omega)];simp [tl]
 simp only[aD h6];by_cases h7:a.kind=7
 ·have hlv:=h.zX (.inl h7);have e:=Mo hlv;rw[hl]at e;injection e with e
  subst e;have hn:=C6 (v:=a.level.toNat) (by omega);simp only[aE h7];rw[jg (by simp;omega),aA,jg (by simp;omega)];simp [tl]
 simp only[aD h7];simp [tl]
end
section
open Lib
theorem Lp{r:Int}(h:me r=θ):uV r=δ (dF r):=by rcases pZ h with rfl|rfl|rfl|rfl<;>rfl
theorem acL{r n:Int}(hr:me r=θ)(h0:0<=n)(h1:n<vS r):Cn r n=δ ⟨mW r (cB r n),stM r (cB r n),mX r (cB r n),mV r (cB r n)⟩:=by
 have hd:vS r<=2592000:=by rcases pZ hr with rfl|rfl|rfl|rfl<;>decide
 have hc:=Ba hr
 have hj:((if r=29 then
    ((if 1800<=Xy n 17982 then
       δ (ε.wrap (ε.wrap (n+ε.wrap (18*(ε.wrap (Vu n 17982))))+ε.wrap (2*(ε.wrap (1+ε.wrap (Vu (ε.wrap (Xy n 17982-1800)) 1798))))))
      else
      δ (ε.wrap (n+ε.wrap (18*(ε.wrap (Vu n 17982)))))):Option Int).bind λj2=>
    δ j2
   else
   δ n):Option Int)=δ (cB r n):=by
  unfold cB;by_cases Ij:r=29
  ·rw[aE Ij,aE Ij,Ym h0,Lw h0];rw[show ε.wrap (n / 17982)=n / 17982 from bp (by unfold aG;omega),show ε.wrap (18*(n / 17982))=18*(n / 17982)from bp (by unfold aG;omega),show ε.wrap (n+18*(n / 17982))=n+18*(n / 17982)from bp (by unfold aG;omega)];by_cases Ii:1800<=n % 17982
   ·rw[aE Ii,aE Ii,show ε.wrap (n % 17982-1800)=n % 17982-1800 from bp (by unfold aG;omega),Lw (by omega)];rw[show ε.wrap ((n % 17982-1800) / 1798)=(n % 17982-1800) / 1798 from bp (by unfold aG;omega),show ε.wrap (1+(n % 17982-1800) / 1798)=1+(n % 17982-1800) / 1798 from bp (by unfold aG;omega),show ε.wrap (2*(1+(n % 17982-1800) / 1798))=2*(1+(n % 17982-1800) / 1798)from bp (by unfold aG;omega),bp (by unfold aG;omega)];rfl
   ·rw[aD Ii,aD Ii];simp
  ·rw[aD Ij,aD Ij]
 have hu:0<=cB r n/\cB r n<=3000000:=by unfold cB;split<;>(try split)<;>omega
 unfold Cn;refine(congrArg (λo=>Option.bind o _) hj).trans ?_;rw[aA,Lp hr,aA];generalize cB r n=u at *
 unfold mW stM mX mV;generalize dF r=c at *
 have hq:0<=u / c/\u / c<=u:=⟨Int.ediv_nonneg hu.1 (by omega),Int.ediv_le_self _ hu.1⟩
 unfold xU xV;rw[aD (by omega),aD (by omega),Lw hu.1,Ym hu.1,bp (by unfold aG;omega),aA,aA];generalize u / c=q at *
 rw[Lw hq.1,Lw hq.1,Ym hq.1];rw[show ε.wrap (q / 3600)=q / 3600 from bp (by unfold aG;omega),show ε.wrap (q / 60)=q / 60 from bp (by unfold aG;omega),Ym (by omega)]
theorem adz{r h m s f:Int}(k:ED r h m s f):wS r ⟨h,m,s,f⟩=δ (zm r h m s f):=by
 obtain⟨hr,h1,h2,h3,h4,h5⟩:=k;have hc:=Ba hr;unfold wS;rw[Lp hr,aA];simp only;rw[show ε.wrap (h*60)=h*60 from bp (by unfold aG;omega),show ε.wrap (h*60+m)=h*60+m from bp (by unfold aG;omega),show ε.wrap ((h*60+m)*60)=(h*60+m)*60 from bp (by unfold aG;omega),show ε.wrap ((h*60+m)*60+s)=(h*60+m)*60+s from bp (by unfold aG;omega)];rcases pZ hr with rfl|rfl|rfl|rfl
 ·simp only[show ¬((24:Int)=29)from by decide,if_false,show dF 24=24 from rfl,zm,fL,fW]at *
  rw[show ε.wrap (((h*60+m)*60+s)*24)=((h*60+m)*60+s)*24 from bp (by unfold aG;omega),bp (by unfold aG;omega)];simp;omega
 ·simp only[show ¬((25:Int)=29)from by decide,if_false,show dF 25=25 from rfl,zm,fL,fW]at *
  rw[show ε.wrap (((h*60+m)*60+s)*25)=((h*60+m)*60+s)*25 from bp (by unfold aG;omega),bp (by unfold aG;omega)];simp;omega
 ·simp only[show ¬((30:Int)=29)from by decide,if_false,show dF 30=30 from rfl,zm,fL,fW]at *
  rw[show ε.wrap (((h*60+m)*60+s)*30)=((h*60+m)*60+s)*30 from bp (by unfold aG;omega),bp (by unfold aG;omega)];simp;omega
 ·simp only[if_true,show dF 29=30 from rfl,zm,fL,fW]at *
  rw[show ε.wrap (((h*60+m)*60+s)*30)=((h*60+m)*60+s)*30 from bp (by unfold aG;omega),show ε.wrap (((h*60+m)*60+s)*30+f)=((h*60+m)*60+s)*30+f from bp (by unfold aG;omega),Lw (by omega)];rw[show ε.wrap ((h*60+m) / 10)=(h*60+m) / 10 from bp (by unfold aG;omega),show ε.wrap (h*60+m-(h*60+m) / 10)=h*60+m-(h*60+m) / 10 from bp (by unfold aG;omega),show ε.wrap (2*(h*60+m-(h*60+m) / 10))=2*(h*60+m-(h*60+m) / 10)from bp (by unfold aG;omega),bp (by unfold aG;omega)];generalize h*60+m=j at *
  by_cases hj:j % 10=0
  ·simp [hj];omega
  ·simp [hj];omega
end
section
open Lib
def vD (a0:List ByteArray) (jc:bF×Int):Option (Lr (bF×Int) bF Unit):=
   if jc.2<=7 then
    (wR jc.2).bind λjD=>
    (eL a0 0).bind λcm=>
    (show Option bF from
      if jD=cm then
       δ ({jc.1 with kind:=jc.2})
      else
      δ jc.1).bind λtu=>
    δ (.go (tu,ε.wrap (jc.2+1)))
   else
   δ (.kQ jc.1)
def VA(w:List UInt8)(i:Int)(b:bF):bF:=if pI i=w then{b with kind:=i}else b
theorem yT{w:List UInt8}{rest:List ByteArray}{b:bF}{i:Int}(h0:0<=i)(hi:i<=7):vD (bZ w::rest) (b,i)=δ (.go (VA w i b,i+1)):=by
 unfold vD VA;simp only;rw[aE hi,Kh,aA,NV,aA,show ε.wrap (i+1)=i+1 from bp (by unfold aG;omega)];by_cases h:pI i=w
 ·rw[aE h,aE (by rw[h])];rfl
 ·rw[aD h,aD (λe=>h (vp e))];rfl
theorem aeX{γ:Type}{k:Int}(hk:1<=k/\k<=7)(rest:List ByteArray)(K1:bF->Option γ)(K2:Unit->Option γ):mh (vD (bZ (pI k)::rest)) ((⟨0,0,0,0,0⟩:bF),1) K1 K2=K1 ⟨0,k,0,0,0⟩:=by
 refine(kW (yT (by decide) (by decide))).trans ?_;refine(kW (yT (by decide) (by decide))).trans ?_;refine(kW (yT (by decide) (by decide))).trans ?_;refine(kW (yT (by decide) (by decide))).trans ?_;refine(kW (yT (by decide) (by decide))).trans ?_;refine(kW (yT (by decide) (by decide))).trans ?_;refine(kW (yT (by decide) (by decide))).trans ?_;refine(uc (b:=⟨0,k,0,0,0⟩) ?_).trans rfl;unfold vD;simp only;rw[aD (by decide)];obtain rfl|rfl|rfl|rfl|rfl|rfl|rfl:k=1\/k=2\/k=3\/k=4\/k=5\/k=6\/k=7:=by omega
 all_goals rfl
theorem ZE{a:bF}(h:Dw a):uR ((jO a).map bZ)=δ (a,θ):=by
 obtain⟨t,k,p,c,l⟩:=a;have ht:=h.time;have hkk:=h.kind;simp only at ht hkk;subst ht;unfold jO;simp only;by_cases h8:k=8
 ·subst h8;have hp:=h.Vy (by simp);have hc:=h.NM (by simp);have hl:=h.zX (.inr rfl);simp only at hp hc hl;subst hp hc;rw[aE rfl];unfold uR;simp only[fH,ali,l8,AV];rw[aD (by simp),aA,aD (by simp),aA,aD (by simp),aE (by simp),NV,aA,aE (by simp;rfl),VC,aA,Tp hl,aA];rfl
 rw[aD h8];by_cases h9:k=9
 ·subst h9;have hp:=h.Vy (by simp);have hc:=h.NM (by simp);have hl:=h.blk rfl;simp only at hp hc hl;subst hp hc;rw[aE rfl];obtain rfl|rfl:l=0\/l=1:=by omega
  ·rfl
  ·rfl
 rw[aD h9];have hk:1<=k/\k<=7:=by omega
 have hp:=h.NO (show k<8 by omega);simp only at hp
 have hlen:(vX ⟨0,k,p,c,l⟩).length<=1:=by
  unfold vX
  repeat' split
  all_goals simp
 unfold uR;simp only[fH,l8,Yo];generalize hE:vX ⟨0,k,p,c,l⟩=E at *
 have hn1:¬(((E.length+1+1:Nat):Int)=1):=by omega
 rw[gZ hn1];simp only[Φ,if_false,YU,aA]
 have hgr:∀o:Option ByteArray,(if decide (((E.length+1+1:Nat):Int)=2)=θ then eL (bZ (pI k)::bZ (decDigits p.toNat)::E.map bZ) 0 else δ default)=o->∃x,o=δ x/\(decide (((E.length+1+1:Nat):Int)=2)&&decide (x=(⟨#[103,114,97,110,100]⟩:ByteArray)))=ξ:=by
  intro o ho;split at ho
  ·rw[NV]at ho;refine⟨_,ho.symm,?_⟩;rw[Bool.and_eq_false_iff];right;refine gZ λe=>?_
   have e':=vp (e:bZ _=bZ Hr);obtain rfl|rfl|rfl|rfl|rfl|rfl|rfl:k=1\/k=2\/k=3\/k=4\/k=5\/k=6\/k=7:=by omega
   all_goals exact absurd e' (by decide)
  ·rename_i hne;refine⟨_,ho.symm,?_⟩;rw[Bool.and_eq_false_iff];left;simpa using hne
 obtain⟨x,hx,hx2⟩:=hgr _ rfl;rw[hx,aA,hx2];simp only[Φ,if_false];refine(aeX hk (bZ (decDigits p.toNat)::E.map bZ) _ _).trans ?_;simp only;have hk0:¬k=0:=by omega
 have qy:¬(((E.length+1+1:Nat):Int)<2):=by omega
 rw[gZ hk0,gZ qy,VC,aA,acQ (by omega),aA];simp only[XN,Φ,if_false,n8,WS];by_cases h3:k=3
 ·subst h3;have hc:=h.gf rfl;have hl:=h.Vx (show(3:Int)<6 by decide);simp only at hc hl;subst hl;have eE:E=[uJ c]:=by rw[<-hE];rfl
  subst eE;simp only[fH,ali,l8,AV];rw[aD (by simp)];rw[aE trivial,show eL [bZ (pI 3),bZ (decDigits p.toNat),bZ (uJ c)] 2=δ (bZ (uJ c))from rfl,aA,aj1 hc];rfl
 have hc:=h.NM h3;simp only at hc;subst hc;by_cases h6:k=6
 ·subst h6;have hl:=h.rel rfl;simp only at hl;have eE:E=[oZ l.toNat]:=by rw[<-hE];rfl
  subst eE;simp only[fH,ali,l8,AV];rw[aD (by simp)];rw[aD (by decide),aE trivial,show eL [bZ (pI 6),bZ (decDigits p.toNat),bZ (oZ l.toNat)] 2=δ (bZ (oZ l.toNat))from rfl,aA,aaE hl];rfl
 by_cases h7:k=7
 ·subst h7;have hl:=h.zX (.inl rfl);simp only at hl;have eE:E=[oa l.toNat]:=by rw[<-hE];rfl
  subst eE;simp only[fH,ali,l8,AV];rw[aD (by simp)];rw[aD (by decide),aD (by decide),aE trivial,show eL [bZ (pI 7),bZ (decDigits p.toNat),bZ (oa l.toNat)] 2=δ (bZ (oa l.toNat))from rfl,aA,Tp hl];rfl
 have hl:=h.Vx (show k<6 by omega);simp only at hl;subst hl
 have eE:E=[]:=by rw[<-hE];unfold vX;simp only;rw[aD h3,aD h6,aD h7]
 subst eE;simp only[AV];rw[aD (by simp [h3,h6,h7]),aD h3,aD h6,aD h7];rfl
end
section
open Lib
theorem G1{l:List UInt8}{a b:Nat}(h1:a<=b)(h2:b<=l.length):jV (bZ l) (δ (a:Int)) (δ (b:Int))=δ (bZ ((l.drop a).take (b-a))):=by unfold jV;simp only[y9,dJ];rw[aE ⟨by omega,by omega,by omega⟩];congr 1;apply Xo;simp [bZ]
theorem GG{L:List UInt8}{i:Nat}{v:Int}{n:List Int}(hi:i<4)(hL:L.length=11)(hp:(L.drop (3*i)).take 2=lq v)(hv:0<=v/\v<=99)(hn:n.length=4):qI (bZ L) (n,(i:Int))=δ (.go (n.set i v,((i+1:Nat):Int))):=by
 unfold qI;simp only;have e1:ε.wrap (3*(i:Int))=((3*i:Nat):Int):=by rw[bp (by unfold aG;omega)];omega
 have e2:ε.wrap (((3*i:Nat):Int)+2)=((3*i+2:Nat):Int):=by rw[bp (by unfold aG;omega)];omega
 have e3:ε.wrap ((i:Int)+1)=((i+1:Nat):Int):=by rw[bp (by unfold aG;omega)];omega
 rw[aE (by omega),e1,e2,e3,G1 (by omega) (by omega),show 3*i+2-3*i=2 by omega,hp,aA,cX (by rw[dJ];simp [yU]),aA,aft hv,aD (by simp)];rw[show kF (bZ (lq v)) 0=δ ((dB (v.toNat / 10)).toNat:Int)from BB (k:=0) rfl,aA,show kF (bZ (lq v)) 1=δ ((dB (v.toNat % 10)).toNat:Int)from BB (k:=1) rfl,aA,aE ⟨by omega,hn⟩,Db (by omega),Db (by omega)]
 have u1:∀d:Nat,d<10->ε.wrap (Y9.wrap (((48+d:Nat):Int) -48))=(d:Int):=by
  intro d hd;have q:((48+d:Nat):Int) -48=(d:Int):=by omega
  rw[q]
  have q2:Y9.wrap (d:Int)=(d:Int):=by unfold IntKind.wrap;simp [IntKind.signed,IntKind.bits];omega
  rw[q2,bp (by unfold aG;omega)]
 rw[u1 _ (by omega),u1 _ (by omega),show ε.wrap (10*((v.toNat / 10:Nat):Int))=10*((v.toNat / 10:Nat):Int)from bp (by unfold aG;omega),bp (by unfold aG;omega)];congr 4;omega
theorem afR{b:ByteArray}{n:List Int}:qI b (n,((4:Nat):Int))=δ (.kQ n):=by unfold qI;simp only;rw[aD (by decide)]
theorem TH{r:Int}(h:me r=θ):rW r=δ 0:=by rcases pZ h with rfl|rfl|rfl|rfl<;>rfl
theorem ad9{r h m s f:Int}(k:ED r h m s f):uW r ⟨h,m,s,f⟩=δ 0:=by obtain⟨hr,h1,h2,h3,h4,h5⟩:=k;have hc:=Ba hr;unfold uW;rw[TH hr,aA,aD (by simp)];simp only;rw[within_iff.2 h1,within_iff.2 h2,within_iff.2 h3];simp only[n8,XN,ZQ,if_true];rw[Lp hr,aA,show ε.wrap (dF r-1)=dF r-1 from bp (by unfold aG;omega),within_iff.2 h4];simp only[n8,XN,Φ,if_false,WS];rw[aD];simp only[dr,decide_eq_true_eq,not_and];intro g1 g2;rw[Ym h2.1]at g2;exact h5 ⟨g1.1.1,g1.1.2,g1.2,by omega⟩
theorem aaB{r h m s f:Int}(k:ED r h m s f):wV r (bZ (jd r h m s f))=δ (⟨h,m,s,f⟩,0):=by
 have hk:=k;obtain⟨hr,h1,h2,h3,h4,h5⟩:=k;have hc:=Ba hr;have hl:=Mj r h m s f;obtain⟨p0,p1,p2,p3⟩:=ae5 (r:=r) (h:=h) (m:=m) (s:=s) (f:=f);obtain⟨m1,m2,m3⟩:=ae4 (r:=r) (h:=h) (m:=m) (s:=s) (f:=f);unfold wV;have hsz:¬¬(((bZ (jd r h m s f)).size:Int)=11):=by rw[dJ,hl];simp
 rw[TH hr,aA,aD (by simp),gZ hsz];simp only[ZQ,if_true,WS];rw[show kF (bZ (jd r h m s f)) 2=δ ((58:UInt8).toNat:Int)from BB (k:=2) m1,aA];have V6:¬¬(((58:UInt8).toNat:Int)=58):=by decide
 rw[gZ V6];simp only[ZQ,if_true];rw[show kF (bZ (jd r h m s f)) 5=δ ((58:UInt8).toNat:Int)from BB (k:=5) m2,aA,gZ V6];simp only[XN,ZQ,if_true];have e8:=G1 (l:=jd r h m s f) (a:=8) (b:=9) (by decide) (by rw[hl];decide);rw[show((8:Nat):Int)=8 from rfl,show((9:Nat):Int)=9 from rfl,show 9-8=1 from rfl,m3]at e8;rw[e8,aA,Mx,aA,aD (by simp)];refine(kW (GG (i:=0) (by decide) hl p0 (by omega) rfl)).trans ?_;refine(kW (GG (i:=1) (by decide) hl p1 (by omega) rfl)).trans ?_;refine(kW (GG (i:=2) (by decide) hl p2 (by omega) rfl)).trans ?_;refine(kW (GG (i:=3) (by decide) hl p3 (by omega) rfl)).trans ?_;refine(uc afR).trans ?_;show(uW r ⟨h,m,s,f⟩).bind _=_;rw[ad9 hk,aA];rfl
theorem afh{S B R γ:Type}{body:S->Option (Lr S B R)}{s:S}{e:R}{K1:B->Option γ}{K2:R->Option γ}(h:body s=δ (.ret e)):mh body s K1 K2=K2 e:=by unfold mh;rw[LX body s,h];rfl
theorem TT{γ:Type}{s:ByteArray}(hs:s.size=11){K1:List Int->Option γ}{K2:Int->Option γ}(h1:∀n,gA (K1 n))(h2:∀e,gA (K2 e)):∀(k:Nat)(i:Nat)(n:List Int),n.length=4->4<=i+k->gA (mh (qI s) (n,(i:Int)) K1 K2)
 |0,i,n,hn,hk=>by rw[uc (b:=n) (by unfold qI;simp only;rw[aD (by omega)])];exact h1 n
 |k+1,i,n,hn,hk=>by
  by_cases hi:i<4
  ·have e1:ε.wrap (3*(i:Int))=((3*i:Nat):Int):=by rw[bp (by unfold aG;omega)];omega
   have e2:ε.wrap (((3*i:Nat):Int)+2)=((3*i+2:Nat):Int):=by rw[bp (by unfold aG;omega)];omega
   have e3:ε.wrap ((i:Int)+1)=((i+1:Nat):Int):=by rw[bp (by unfold aG;omega)];omega
   have hl:(lZ s).length=11:=hs;have em:=G1 (l:=lZ s) (a:=3*i) (b:=3*i+2) (by omega) (by omega);rw[yY]at em;have hx2:(bZ (((lZ s).drop (3*i)).take (3*i+2-3*i))).size=2:=by rw[dJ,mL,YI];omega
   generalize bZ (((lZ s).drop (3*i)).take (3*i+2-3*i))=x at *
   obtain⟨a,ha⟩:=Bs (s:=x) (i:=0) (by decide) (by omega);obtain⟨b,hb⟩:=Bs (s:=x) (i:=1) (by decide) (by omega);by_cases hd:jj x=θ
   ·have hstep:∃n',n'.length=4/\qI s (n,(i:Int))=δ (.go (n',((i+1:Nat):Int))):=by refine⟨n.set i (ε.wrap (ε.wrap (10*ε.wrap (Y9.wrap (a-48)))+ε.wrap (Y9.wrap (b-48)))),by simpa using hn,?_⟩;unfold qI;simp only;rw[aE (by omega),e1,e2,e3,em,aA,cX (by omega),aA,hd,aD (by simp),ha,aA,hb,aA,aE ⟨by omega,hn⟩];rfl
    obtain⟨n',hn',hst⟩:=hstep;rw[kW hst];exact TT hs h1 h2 k (i+1) n' hn' (by omega)
   ·have hst:qI s (n,(i:Int))=δ (.ret 9):=by unfold qI;simp only;rw[aE (by omega),e1,e2,em,aA,cX (by omega),aA,aE (by simpa using hd)]
    rw[afh hst];exact h2 9
  ·rw[uc (b:=n) (by unfold qI;simp only;rw[aD (by omega)])];exact h1 n
end
section
open Lib
def uE(r:Int)(e:cV):List UInt8:=jd r (mW r (cB r e.bz)) (stM r (cB r e.bz)) (mX r (cB r e.bz)) (mV r (cB r e.bz))++tl (jO e.action)
def pP(r:Int)(l:List cV):List UInt8:=lW (l.map (uE r))
theorem TK{r h m s f:Int}(k:ED r h m s f):(0<=h/\h<=99)/\(0<=m/\m<=99)/\(0<=s/\s<=99)/\(0<=f/\f<=99):=by obtain⟨hr,h1,h2,h3,h4,h5⟩:=k;have hc:=Ba hr;exact⟨by omega,by omega,by omega,by omega⟩
theorem Tt{r:Int}{e:cV}(hr:me r=θ)(h:zf r e):jz (jd r (mW r (cB r e.bz)) (stM r (cB r e.bz)) (mX r (cB r e.bz)) (mV r (cB r e.bz))):=by obtain⟨k,_⟩:=L3 hr h.bz.1 h.bz.2;obtain⟨h1,h2,h3,h4⟩:=TK k;exact afr h1 h2 h3 h4
theorem aeN{r:Int}{e:cV}(hr:me r=θ)(h:zf r e):(10:UInt8)∉uE r e:=by
 have h1:=(Tt hr h).n;have h2:=UC (c:=10) (by decide) λw hw=>(SD e.action w hw).n
 unfold uE;rw[gV];rintro(m|m)
 ·exact h1 m
 ·exact h2 m
theorem SZ:∀{ls:List (List UInt8)}{a:List UInt8},a∈ls->a.length<=(lW ls).length
 |b::ls,a,h=>by
  rcases eG.1 h with rfl|h
  ·simp only[lW,W0];omega
  ·have:=SZ h;simp only[lW,W0,l8];omega
theorem aen{r:Int}{e:cV}{l:List cV}{q:List ByteArray}{i:Nat}(hr:me r=θ)(h:zf r e)(hL:(uE r e).length<=600000)(hl:l.length<=2000):nU r (q,θ) i (bZ (uE r e)) l=δ (.go (l++[e])):=by
 obtain⟨k,hn⟩:=L3 hr h.bz.1 h.bz.2;have hc:=Tt hr h;have hsp:jt (bZ (uE r e)) ⟨#[32]⟩=bZ _::(jO e.action).map bZ:=TZ (jO e.action) _ hc (SD _)
 have hne:1<=(jO e.action).length:=by
  unfold jO;split
  ·simp
  ·split<;>simp
 unfold nU;rw[cX ⟨by rw[dJ];omega,by decide⟩,aA,hsp];rw[show eL (bZ (jd r (mW r (cB r e.bz)) (stM r (cB r e.bz)) (mX r (cB r e.bz)) (mV r (cB r e.bz)))::(jO e.action).map bZ) 0=δ (bZ (jd r (mW r (cB r e.bz)) (stM r (cB r e.bz)) (mX r (cB r e.bz)) (mV r (cB r e.bz))))from rfl,aA];rw[aaB k,aA];have hc2:decide (((bZ (jd r (mW r (cB r e.bz)) (stM r (cB r e.bz)) (mX r (cB r e.bz)) (mV r (cB r e.bz)))::(jO e.action).map bZ).length:Int)<2)=ξ:=gZ (by simp only[l8,Yo];omega);rw[hc2];simp only[not_true_eq_false,decide_false,XN,n8,YU,Φ,if_false]
 have e2:rM (bZ (jd r (mW r (cB r e.bz)) (stM r (cB r e.bz)) (mX r (cB r e.bz)) (mV r (cB r e.bz)))::(jO e.action).map bZ) (δ 1) μ=δ ((jO e.action).map bZ):=by unfold rM;simp only[y9,Xh];rw[aE ⟨by omega,by simp only[l8];omega,by omega⟩];congr 1;simp [xF]
 rw[e2,aA,ZE h.act,aA];simp only[n8,Φ,if_false];rw[adz k,aA,hn,aE (by simp only[l8,AV];omega)]
theorem Pz{s:dM}{r:Int}{l:List cV}(hs:tX s)(h0:oI s r l=0)(h6:(pP r l).length<=600000):yB s r (bZ (pP r l))=δ (l,0,0):=by
 obtain⟨hr,hn,hz,hok⟩:=Un h0;obtain⟨_,ag6,_⟩:=Qi h0;have hm:zc r=0:=aD ag6;unfold yB;have h6':¬600000<((bZ (pP r l)).size:Int):=by rw[dJ];omega
 rw[Kg s hs,aA,Hh,aA,hz,hm,gZ h6'];rw[cX (by show 3<=bu;unfold bu;omega),aA];rw[aD (by decide)];unfold pP at h6 ⊢;rw[ad1 (λa ha=>by obtain⟨e,he,rfl⟩:=kZ.1 ha;exact aeN hr (hok e he)) h6,aA,List.map_map];have hl:l.length<=bu:=by unfold bu;omega
 refine(adf (λe=>bZ (uE r e)) l hl (λp hp i pre hpre=>?_) rfl).trans ?_
 ·exact aen hr (hok p hp) (XA (SZ (kZ.2 ⟨p,hp,rfl⟩)) h6) (by omega)
 ·rw[J1 s hs r l hl,aA,h0,aD (by decide)]
end
section
open Lib
theorem Si(r:Int):gA (rW r):=⟨_,Hh r⟩
theorem Qe(r:Int):gA (uV r):=by unfold uV;exact eO (λ_=>cN _) λ_=>cN _
theorem adw(r:Int):gA (wW r):=⟨_,Mx r⟩
theorem abw(r:Int)(x:iM):gA (uW r x):=by
 unfold uW;refine dj (Si r) λr1 _=>eO (λ_=>cN _) λ_=>?_
 refine dj (eO (λ_=>Qe r) λ_=>cN _) λr2 _=>?_
 exact eO (λ_=>cN _) λ_=>cN _
theorem aa5(r:Int)(x:iM):gA (wS r x):=by
 unfold wS;refine dj (Qe r) λr1 _=>?_
 exact dj (eO (λ_=>cN _) λ_=>cN _) λ_ _=>cN _
theorem acF(r:Int)(s:ByteArray):gA (wV r s):=by
 unfold wV;refine dj (Si r) λr1 _=>eO (λ_=>cN _) λ_=>?_
 refine dj (eO (λh=>?_) λ_=>cN _) λx9 _=>?_
 ·simp only[p9,decide_eq_false_iff_not,YK]at h;exact Bs (by decide) (by omega)
 refine dj (eO (λh=>?_) λ_=>cN _) λbJ _=>?_
 ·simp only[p9,iW,decide_eq_false_iff_not,YK]at h;exact Bs (by decide) (by omega)
 refine dj (eO (λh=>?_) λ_=>cN _) λcH _=>?_
 ·simp only[p9,iW,decide_eq_false_iff_not,YK]at h;have em:=G1 (l:=lZ s) (a:=8) (b:=9) (by decide) (by have:=qg s;omega);rw[yY]at em;exact⟨_,em⟩
 refine dj (eO (λ_=>adw r) λ_=>cN _) λcI _=>?_
 refine eO (λ_=>cN _) λh=>?_
 simp only[YW,not_or,decide_eq_true_eq,YK]at h;refine TT (by omega) (λn=>?_) (λe=>cN _) 4 0 [0,0,0,0] rfl (by decide);exact dj (abw _ _) λe _=>eO (λ_=>cN _) λ_=>cN _
theorem G0{α:Type}{l:List α}{i:Nat}(h:i<l.length):∃x,eL l (i:Int)=δ x/\x∈l:=by unfold eL;rw[aE (by omega),show((i:Int)).toNat=i by omega,bT h];exact⟨_,rfl,List.getElem_mem h⟩
theorem Da{α:Type}{l:List α}{i:Int}{x:α}(h:eL l i=δ x):x∈l:=by
 unfold eL at h;split at h
 ·exact cZ h
 ·cases h
theorem Bu{α:Type}{l:List α}(h:1<=l.length):gA (eL l 0):=by obtain⟨x,e,_⟩:=G0 (l:=l) (i:=0) (by omega);exact⟨x,e⟩
theorem T0{α:Type}{l:List α}(h:2<=l.length):gA (eL l 1):=by obtain⟨x,e,_⟩:=G0 (l:=l) (i:=1) (by omega);exact⟨x,e⟩
theorem MI{α:Type}{l:List α}(h:3<=l.length):gA (eL l 2):=by obtain⟨x,e,_⟩:=G0 (l:=l) (i:=2) (by omega);exact⟨x,e⟩
theorem Tg{γ:Type}{w:List ByteArray}(hw:1<=w.length){K1:bF->Option γ}{K2:Unit->Option γ}(h1:∀b,gA (K1 b)):∀(k:Nat)(b:bF)(i:Int),0<=i->8<=i+k->gA (mh (vD w) (b,i) K1 K2)
 |0,b,i,h0,hk=>by rw[uc (b:=b) (by unfold vD;simp only;rw[aD (by omega)])];exact h1 b
 |k+1,b,i,h0,hk=>by
  by_cases hi:i<=7
  ·have hstep:∃b',vD w (b,i)=δ (.go (b',i+1)):=by
    obtain⟨x,hx⟩:=Bu hw;unfold vD;simp only;rw[aE hi,Kh,aA,hx,aA,show ε.wrap (i+1)=i+1 from bp (by unfold aG;omega)];split
    ·exact⟨_,rfl⟩
    ·exact⟨_,rfl⟩
   obtain⟨b',hb⟩:=hstep;rw[kW hb];exact Tg hw h1 k b' (i+1) (by omega) (by omega)
  ·rw[uc (b:=b) (by unfold vD;simp only;rw[aD hi])];exact h1 b
theorem YA{w:List ByteArray}(hw:1<=w.length)(hs:∀x∈w,x.size<4294967281):gA (uR w):=by
 unfold uR;refine dj (eO (λ_=>Bu hw) λ_=>cN _) λx1 _=>?_
 refine dj (eO (λ_=>Bu hw) λ_=>cN _) λx2 _=>?_
 refine eO (λ_=>?_) λ_=>?_
 ·refine dj (Bu hw) λx3 _=>?_
  exact dj (eO (λ_=>cN _) λ_=>cN _) λ_ _=>cN _
 refine dj (eO (λ_=>Bu hw) λ_=>cN _) λx8 _=>?_
 refine eO (λh=>?_) λ_=>?_
 ·simp only[dr,decide_eq_true_eq]at h;refine dj (T0 (by omega)) λx9 h9=>?_
  exact dj (RJ (hs _ (Da h9))) λ_ _=>cN _
 refine Tg hw (λb=>?_) 7 ⟨0,0,0,0,0⟩ 1 (by decide) (by decide);refine eO (λ_=>cN _) λh=>?_
 simp only[YW,not_or,decide_eq_true_eq]at h;refine dj (T0 (by omega)) λcC h24=>?_
 refine dj (K8 (by have:=hs _ (Da h24);omega)) λcj _=>?_
 refine eO (λ_=>cN _) λhc=>?_
 have h3:∀{k:Int},b.kind=k->k=3\/k=6\/k=7->3<=w.length:=by intro k hk hkk;simp only[YW,dr,p9,decide_eq_true_eq,not_or,not_and,YK]at hc;have:=hc.2 (by rw[hk];rcases hkk with rfl|rfl|rfl<;>simp);omega
 refine dj (eO (λhk=>?_) λ_=>?_) λ_ _=>cN _
 ·refine dj (MI (h3 hk (.inl rfl))) λeY h26=>?_
  exact dj (ajt (hs _ (Da h26))) λ_ _=>cN _
 refine dj (eO (λhk=>?_) λ_=>?_) λ_ _=>cN _
 ·refine dj (MI (h3 hk (.inr (.inl rfl)))) λdL h28=>?_
  exact dj (Ze (hs _ (Da h28))) λ_ _=>cN _
 refine dj (eO (λhk=>?_) λ_=>?_) λ_ _=>cN _
 ·refine dj (MI (h3 hk (.inr (.inr rfl)))) λdh BR=>?_
  exact dj (RJ (hs _ (Da BR))) λ_ _=>cN _
 ·exact cN _
theorem acK(p:ByteArray)(n:Nat)(k:Nat)(s:ByteArray):1<=(splitB p k n s).length:=by
 cases n with
 |zero=>rw[splitB];simp
 |succ n=>
  rw[splitB];split
  ·simp
  ·simp
theorem RD{s p x:ByteArray}(h:x∈jt s p):x.size<=s.size:=acJ _ _ _ _ _ h
theorem RE(s p:ByteArray):1<=(jt s p).length:=acK _ _ _ _
theorem abr{s:ByteArray}(hs:s.size<=600000):(jt s ⟨#[10]⟩).length<=600001:=by have h1:(jt s ⟨#[10]⟩).length=Lib.countB s ⟨#[10]⟩+1:=Lib.splitB_all ⟨#[10]⟩ (by decide) 0 _ s rfl;have h2:=Lib.countB_le ⟨#[10]⟩ (by decide) s.size s (bL _);omega
theorem abx{s:ByteArray}(hs:s.size<=600000):∃q,wX s=δ q/\q.1.length<=600001/\∀x∈q.1,x.size<=s.size:=by
 unfold wX;split
 ·exact⟨_,rfl,ur _,λx hx=>by cases hx⟩
 have hlen:(jt s ⟨#[10]⟩).length<=600001:=abr hs;have hne:=RE s ⟨#[10]⟩;have hle:∀x∈jt s ⟨#[10]⟩,x.size<=s.size:=λx hx=>RD hx
 rw[cX ⟨by omega,by decide⟩,aA];generalize jt s ⟨#[10]⟩=r1 at *
 have ew:ε.wrap ((r1.length:Int) -1)=((r1.length-1:Nat):Int):=by rw[bp (by unfold aG;omega)];omega
 rw[ew];obtain⟨x,hx,_⟩:=G0 (l:=r1) (i:=r1.length-1) (by omega);rw[hx,aA];split
 ·have e3:rM r1 μ (δ ((r1.length-1:Nat):Int))=δ (r1.take (r1.length-1)):=by unfold rM;simp only[y9,Xh];rw[aE ⟨by omega,by omega,by omega⟩];simp
  rw[e3];exact⟨_,rfl,by simp only[mL];omega,λy hy=>hle y (xG hy)⟩
 ·exact⟨_,rfl,by simp only;omega,hle⟩
theorem ael{r:Int}{q:List ByteArray×Bool}{i:Nat}{e:ByteArray}{l:List cV}(he:e.size<=600000)(hl:l.length<=1000000000):
  (∃x,nU r q i e l=δ (.go (l++[x])))\/∃n,nU r q i e l=δ (.ret n):=by
 have hne:=RE e ⟨#[32]⟩;have hle:∀x∈jt e ⟨#[32]⟩,x.size<=e.size:=λx hx=>RD hx
 unfold nU;rw[cX ⟨by omega,by decide⟩,aA];generalize jt e ⟨#[32]⟩=w at *
 obtain⟨x,hx⟩:=Bu hne;obtain⟨st,hst⟩:=acF r x;rw[hx,aA,hst,aA];split
 ·exact .inr ⟨_,rfl⟩
 rename_i hc
 have h2:2<=w.length:=by simp only[YW,not_or,decide_eq_true_eq]at hc;omega
 have e2:rM w (δ 1) μ=δ (w.drop 1):=by unfold rM;simp only[y9,Xh];rw[aE ⟨by omega,by omega,by omega⟩];congr 1;simp
 obtain⟨a,ha⟩:=YA (w:=w.drop 1) (by rw[YI];omega) (λy hy=>by have:=hle y (List.mem_of_mem_drop hy);omega);rw[e2,aA,ha,aA];split
 ·exact .inr ⟨_,rfl⟩
 obtain⟨n,hn⟩:=aa5 r st.1;rw[hn,aA,aE (by simp only[l8,AV];omega)];exact .inl ⟨_,rfl⟩
theorem SN{r:Int}{q:List ByteArray×Bool}:∀(rest:List ByteArray)(i:Nat)(l:List cV),(∀x∈rest,x.size<=600000)->l.length+rest.length<=1000000000->
  (∃l',gz (nU r q) (λl=>δ l) rest i l=δ (.inl l')/\l'.length<=l.length+rest.length)\/∃n,gz (nU r q) (λl=>δ l) rest i l=δ (.inr n)
 |[],i,l,_,_=>.inl ⟨l,by rw[gz];rfl,by simp⟩
 |x::rest,i,l,hs,hl=>by
  simp only[l8]at hl ⊢;rcases ael (r:=r) (q:=q) (i:=i) (hs x Xl) (by omega:l.length<=1000000000)with⟨y,hy⟩|⟨n,hn⟩
  ·rw[gz,hy,aA];have ih:=SN (r:=r) (q:=q) rest (i+1) (l++[y]) (λz hz=>hs z (nL _ hz)) (by simp only[W0,l8,AV];omega);rcases ih with⟨l',h1,h2⟩|⟨n,h1⟩
   ·exact .inl ⟨l',h1,by simp only[W0,l8,AV]at h2;omega⟩
   ·exact .inr ⟨n,h1⟩
  ·rw[gz,hn,aA];exact .inr ⟨n,rfl⟩
theorem ajD{s:dM}(hs:tX s)(r:Int)(t:ByteArray):∃x,yB s r t=δ x/\(x.2.2=0->oI s r x.1=0):=by
 unfold yB;rw[Kg s hs,aA,Hh,aA];rw[cX (by show 3<=bu;unfold bu;omega),aA];generalize hf:(([mD s,zc r,if decide (600000<(t.size:Int))=θ then 2 else 0]:List Int).find? λn=>decide (¬n=0)).getD 0=f;by_cases h0:f=0;case neg=>rw[aE h0];exact⟨_,rfl,λh=>absurd h h0⟩
 rw[aD (by simpa using h0)]
 have h6:t.size<=600000:=by
  rw[h0,Uq]at hf;by_cases hb:600000<(t.size:Int)
  ·rw[qo hb]at hf;simp only[if_true]at hf;split at hf
   ·rename_i h;exact absurd hf h
   split at hf
   ·rename_i h;exact absurd hf h
   cases hf
  ·omega
 obtain⟨q,e1,e2,e3⟩:=abx h6;rw[e1,aA];rw[xh (by unfold bu;omega)];have hq:q.1.length<=1000000000:=by omega
 rcases SN (r:=r) (q:=q) q.1 0 [] (λx hx=>XA (e3 x hx) h6) (by simpa using hq)with⟨l',h1,h2⟩|⟨n,h1⟩
 ·rw[h1,aA];show ∃x,((yz s r l').bind _)=δ x/\_;rw[J1 s hs r l' (by unfold bu;simp only[AV]at h2;omega),aA];by_cases hz:oI s r l'=0
  ·rw[aD (by simpa using hz)];exact⟨_,rfl,λ_=>hz⟩
  ·rw[aE hz];exact⟨_,rfl,λh=>absurd h hz⟩
 ·rw[h1,aA];exact⟨([],n,9),rfl,λh=>absurd h (show(9:Int)≠0 by decide)⟩
end
end
end Go.Proofs.YtpcafbmnjchmcaaGreatDoor
