/- Parts of the proof of PickUnitsAreUnits, in order. -/
import Derived.Lib.ItoaMem
import Derived.Lib.ItoaLen
import Derived.WalkSpells
import Derived.ProofKit
import Derived.OpenShut
import Derived.Deep.QuietTactic
import Derived.BigQuiet
import Derived.Lib.Hide
import Derived.Deep.RegionHeld3
import Derived.Deep.Slices
import Derived.Test.YtkdafecbdncmiaaDoorKPickUnitsAreUnits3
namespace Go.Proofs.YtkdafecbdncmiaaDoor
set_option linter.unusedVariables false
set_option linter.unusedSimpArgs false
set_option linter.unusedSectionVars false
set_option maxRecDepth 1000000
noncomputable section
open A renaming tab->U8,look->Z8,deref->ψ,sub->Yd,loop->s9,cL->Z9,eD->XQ,storeAt->u7,ay->Θ,add->o7,bp->Ze,not->Wc,quiet->Wd,nn->XM,lss->p9,entries->W9,own->Z2,cell->l5,cQ->WN,elems->WZ,gtr->W7,pick->l6,aX->EY,bk->WJ,eql->z7,cond->χ,append->wh,find->ZD,aU->y9,fin->e9,br->Ya,bound->Wf,cells->i7,bZ->XJ,wrap->Φ,cU->XT,dg->Z3
open Nat renaming zero_add->Gs,not_lt_zero->amn,sub_self->ama,le_succ_of_le->Zd,le_trans->o8
open Option renaming some->δ,toList_some->Ym,none->η,getD_some->Y6,isSome_iff_exists->al3,getD_none->Xn
open List renaming range'->al0,length_map->p7,length_singleton->YA,length_cons->b9,map_congr_left->Wk,sum_append->amC,getElem?_drop->WI,filter_cons->Wy,getElem?_cons_succ->XC,map_map->Y3,mem_flatten->Zw,getElem?_take->X4,length_nil->Zk,nodup_nil->ZX,filter_eq_self->al7,foldl_append->ZL,mem_of_find?_eq_some->al2,any_eq_true->alW,getElem?_cons_zero->Xw,append_nil->X0,getElem?_set_ne->u9,drop_zero->Xm,range->ami,length_filter_le->W1,mem_reverse->alP,filter_append->ZE,take_add_one->u6,length->Xg,drop_eq_getElem_cons->alZ,pairwise_iff_getElem->amT,flatten_cons->WK,headD_cons->aml,length_reverse->amc,range_eq_range'->ZT,take_length->VZ,take_append_of_le_length->am6,map_take->al4,take_append_drop->WD,length_append->Λ,mem_append_left->Z0,zipWith->amq,flatMap_cons->Yw,getD_eq_getElem?_getD->XR,length_take_le'->Wm,mem_cons_self->u0,mem_filter->Y2,mem_singleton->X3,getD->Yn,foldl_cons->Zc,range'_succ->amB,map_append->Tm,replicate->e8,map->alX,sum_cons->X2,nil_append->Xk
open Bool renaming false->θ,true->ι,false_eq_true->X6,false_and->Wt,not_true->Wq
open aM renaming map->j0,box->WE
open AV renaming str->u5,lbx->Z4,agg->l8,sl->WV,aH->Ju,om->Wu,op->YI,aN->YM,rp->Zh,bool->φ,ah->ε
open Int renaming lt_irrefl->YK,tmod_eq_emod_of_nonneg->amM,eq_ofNat_of_zero_le->am5
open AX renaming exit->Γ,normal->ir,ret->l7
open Go.IntKind renaming i64->Ξ
open Option.some renaming inj->amD
open Go.DataW renaming trod_struct->Yf
open aD renaming kind->Zy
open Decidable renaming not_not->Yy
open IntKind renaming i64->Ξ
section
def BW (BU:aD->Option (Int×Int)) (a0:aD):Option (Int×Int):=
 iJ a0.args (λ(i8:Nat)e7(s1:(Int×Int))=>(show Option (Lr (Int×Int) (Int×Int) Unit)from
   (BU e7).bind λr9=>
   δ (.go (Ξ.wrap (s1.1+r9.1),(if s1.2<Ξ.wrap (r9.2+1)then Ξ.wrap (r9.2+1)else s1.2))))) (λs1=>δ (s1.1,s1.2)) (1,1) (λb2=>
  δ (b2.1,b2.2)) (λb2=>
  η)
theorem Yx{rc:Nat->aq->Heap->aG}(BU:aD->Option (Int×Int))(alq:∀(x0:aD) (s:Heap) r,BU x0=δ r->rc 37 [(l8 (aF x0))] s=δ ((YM [(ε r.1),(ε r.2)]),s)){a0:aD}{σ:Heap}{r:(Int×Int)}(h:BW BU a0=δ r):Φ ι [iK] .k (XJ (zS rc)) [(l8 (aF a0))] σ=δ ((YM [(ε r.1),(ε r.2)]),σ):=by
 refine vQ (f:=zS rc) (y0:=(l8 (aF a0))) (enc:=λr:(Int×Int)=>(YM [(ε r.1),(ε r.2)])) (T:=BW BU a0) (by first|rfl|(simp only[aA];rfl)) (by first|rfl|(simp only[aA];rfl)) ?_ r h;unfold zS BW;refine au (aF a0) (by first|rfl|(simp only[aA];rfl))<|au (sl 4 aF a0.args) (by first|rfl|(simp only[aA];rfl))<|au _ (dh _ _ _) ?_;refine nJ (B:=(Int×Int)) (R:=Unit) (λ(i8:Nat)(s1:(Int×Int))v w3=>v=[(ε s1.1),(ε s1.2),(ε (i8:Int))]/\σ=w3) (λ(b2:(Int×Int))(q:LS)=>∃V7,q=((Γ 0),([(ε b2.1),(ε b2.2),V7]:aq),σ)) (λ(b2:Unit)(q:LS)=>False) ?_ ?_ ⟨rfl,rfl⟩ ?_ ?_
 ·intro CP i8 e7 s1 v w3 sE hI;obtain⟨rfl,rfl⟩:=hI;refine au _ (fJ sE)<|nN<|au _ (gm sE)<|au (l8 (aF e7)) (by first|rfl|(simp only[aA];rfl))<|au (aF e7) (by first|rfl|(simp only[aA];rfl))<|au _ (qI _ _ rfl)<|au (l8 (aF e7)) (by first|rfl|(simp only[aA];rfl)) ?_;refine cE (λr9:(Int×Int)=>((YM [(ε r9.1),(ε r9.2)]),σ)) (λr9 DM=>alq _ _ _ DM) (λr9 DM=>?_);refine au (ε r9.1) (by first|rfl|(simp only[aA];rfl))<|au (ε r9.2) (by first|rfl|(simp only[aA];rfl))<|au (ε (Ξ.wrap (s1.1+r9.1))) (by first|rfl|(simp only[aA];rfl))<|au (ε (Ξ.wrap (r9.2+1))) (by first|rfl|(simp only[aA];rfl))<|au (ε (if s1.2<Ξ.wrap (r9.2+1)then Ξ.wrap (r9.2+1)else s1.2)) (by first|rfl|(simp only[aA];rfl))<|au _ (fM sE CP) ?_;exact bz (nK ⟨rfl,rfl⟩)
 ·intro hl s1 v w3 hI;obtain⟨rfl,rfl⟩:=hI;refine au _ (fL _)<|nM ?_;exact bz ⟨by simp,⟨_,rfl⟩⟩
 ·intro hl b2 q hq;obtain⟨V7,rfl⟩:=hq;refine gH (by first|rfl|(simp only[aA];rfl)) ?_;exact cD _ (cq _ _) ⟨rfl,rfl⟩
 ·intro hl b2 q hq;exact False.elim hq
def zO (uj:aD->Option Int) (a0:aD):Option Int:=
 if a0.kind=1 then
  (show Option Bool from
    if a0.kind=4 then
     δ (decide ((a0.args.length:Int)<2))
    else
    δ (decide (¬((a0.args.length:Int)=0)))).bind λj2=>
  if((j2||((!ι)&&(decide (¬(a0.aT=0)))))||((!ι)&&(decide (¬(a0.to=0)))))=ι then
   δ 3
  else
  (show Option Int from
    if a0.kind=2 then
     δ 999
    else
    (show Option Int from
      if a0.kind=3 then
       δ 999
      else
      δ 9999).bind λj6=>
    δ j6).bind λmU=>
  if((ι&&(!(bu a0.aT 1 mU)))||(ι&&(!(bu a0.to 1 mU))))=ι then
   δ 1
  else
  iJ a0.args (λ(i20:Nat)Dt(Hz:Unit)=>(show Option (Lr Unit Unit Int)from
    (uj Dt).bind λjE=>
    if ¬(jE=0)then
     δ (.ret jE)
    else
    δ (.go ()))) (λHz=>δ ()) () (λyy=>
   δ 0) (λyy=>
   δ yy)
 else
 (show Option Bool from
   if a0.kind=2 then
    δ (decide (a0.kind=2))
   else
   δ (decide (a0.kind=3))).bind λDU=>
 if DU=ι then
  (show Option Bool from
    if a0.kind=4 then
     δ (decide ((a0.args.length:Int)<2))
    else
    δ (decide (¬((a0.args.length:Int)=0)))).bind λDV=>
  if((DV||((!ι)&&(decide (¬(a0.aT=0)))))||((!θ)&&(decide (¬(a0.to=0)))))=ι then
   δ 3
  else
  (show Option Int from
    if a0.kind=2 then
     δ 999
    else
    (show Option Int from
      if a0.kind=3 then
       δ 999
      else
      δ 9999).bind λHi=>
    δ Hi).bind λmV=>
  if((ι&&(!(bu a0.aT 1 mV)))||(θ&&(!(bu a0.to 1 mV))))=ι then
   δ 1
  else
  iJ a0.args (λ(NG:Nat)Dv(HE:Unit)=>(show Option (Lr Unit Unit Int)from
    (uj Dv).bind λyY=>
    if ¬(yY=0)then
     δ (.ret yY)
    else
    δ (.go ()))) (λHE=>δ ()) () (λyE=>
   δ 0) (λyE=>
   δ yE)
 else
 (show Option Bool from
   if a0.kind=4 then
    δ (decide (a0.kind=4))
   else
   δ (decide (a0.kind=5))).bind λDW=>
 if DW=ι then
  (show Option Bool from
    if a0.kind=4 then
     δ (decide ((a0.args.length:Int)<2))
    else
    δ (decide (¬((a0.args.length:Int)=2)))).bind λDX=>
  if((DX||((!θ)&&(decide (¬(a0.aT=0)))))||((!θ)&&(decide (¬(a0.to=0)))))=ι then
   δ 3
  else
  (show Option Int from
    if a0.kind=2 then
     δ 999
    else
    (show Option Int from
      if a0.kind=3 then
       δ 999
      else
      δ 9999).bind λHj=>
    δ Hj).bind λmW=>
  if((θ&&(!(bu a0.aT 1 mW)))||(θ&&(!(bu a0.to 1 mW))))=ι then
   δ 1
  else
  iJ a0.args (λ(i76:Nat)Dw(HH:Unit)=>(show Option (Lr Unit Unit Int)from
    (uj Dw).bind λzb=>
    if ¬(zb=0)then
     δ (.ret zb)
    else
    δ (.go ()))) (λHH=>δ ()) () (λyF=>
   δ 0) (λyF=>
   δ yF)
 else
 (show Option Bool from
   if a0.kind=6 then
    δ (decide (a0.kind=6))
   else
   (show Option Bool from
     if a0.kind=7 then
      δ (decide (a0.kind=7))
     else
     δ (decide (a0.kind=8))).bind λHl=>
   δ Hl).bind λDY=>
 if DY=ι then
  (show Option Bool from
    if a0.kind=4 then
     δ (decide ((a0.args.length:Int)<2))
    else
    δ (decide (¬((a0.args.length:Int)=1)))).bind λDZ=>
  if((DZ||((!θ)&&(decide (¬(a0.aT=0)))))||((!θ)&&(decide (¬(a0.to=0)))))=ι then
   δ 3
  else
  (show Option Int from
    if a0.kind=2 then
     δ 999
    else
    (show Option Int from
      if a0.kind=3 then
       δ 999
      else
      δ 9999).bind λHo=>
    δ Ho).bind λmX=>
  if((θ&&(!(bu a0.aT 1 mX)))||(θ&&(!(bu a0.to 1 mX))))=ι then
   δ 1
  else
  iJ a0.args (λ(L0:Nat)CK(GN:Unit)=>(show Option (Lr Unit Unit Int)from
    (uj CK).bind λyg=>
    if ¬(yg=0)then
     δ (.ret yg)
    else
    δ (.go ()))) (λGN=>δ ()) () (λxU=>
   δ 0) (λxU=>
   δ xU)
 else
 if a0.kind=9 then
  (show Option Bool from
    if a0.kind=4 then
     δ (decide ((a0.args.length:Int)<2))
    else
    δ (decide (¬((a0.args.length:Int)=1)))).bind λCS=>
  if((CS||((!ι)&&(decide (¬(a0.aT=0)))))||((!ι)&&(decide (¬(a0.to=0)))))=ι then
   δ 3
  else
  (show Option Int from
    if a0.kind=2 then
     δ 999
    else
    (show Option Int from
      if a0.kind=3 then
       δ 999
      else
      δ 9999).bind λGF=>
    δ GF).bind λmL=>
  if((ι&&(!(bu a0.aT 1 mL)))||(ι&&(!(bu a0.to 1 mL))))=ι then
   δ 1
  else
  iJ a0.args (λ(L1:Nat)CL(GP:Unit)=>(show Option (Lr Unit Unit Int)from
    (uj CL).bind λyj=>
    if ¬(yj=0)then
     δ (.ret yj)
    else
    δ (.go ()))) (λGP=>δ ()) () (λxV=>
   δ 0) (λxV=>
   δ xV)
 else
 δ 4
theorem aj9{rc:Nat->aq->Heap->aG}(uj:aD->Option Int)(BM:∀(x0:aD) (s:Heap) r,uj x0=δ r->rc 38 [(l8 (aF x0))] s=δ ((ε r),s)){a0:aD}{σ:Heap}{r:Int}(h:zO uj a0=δ r):Φ ι [iK] .k (XJ (zM rc)) [(l8 (aF a0))] σ=δ ((ε r),σ):=by
 refine vQ (f:=zM rc) (y0:=(l8 (aF a0))) (enc:=λr:Int=>(ε r)) (T:=zO uj a0) (by first|rfl|(simp only[aA];rfl)) (by first|rfl|(simp only[aA];rfl)) ?_ r h;unfold zM zO;refine au (aF a0) (by first|rfl|(simp only[aA];rfl))<|au (ε a0.kind) (by first|rfl|(simp only[aA];rfl))<|au _ (cv _ _ _) ?_;refine dF (p:=a0.kind=1) (λLx=>?_) (λLx=>?_)
 ·refine au (sl 4 aF a0.args) (by first|rfl|(simp only[aA];rfl))<|au _ (dh _ _ _)<|au _ (fW _ _ _)<|au (ε a0.kind) (by first|rfl|(simp only[aA];rfl))<|au _ (cv _ _ _) ?_
  refine jt (ω:=Bool) (λj2 a=>a=(([(Z4 (aF a0)),(φ j2)]:aq),σ)) (
    by
     refine dF (p:=a0.kind=4) (λc1=>?_) (λc1=>?_)
     ·refine au (sl 4 aF a0.args) (by first|rfl|(simp only[aA];rfl))<|au _ (dh _ _ _)<|au (φ (decide ((a0.args.length:Int)<2))) (by first|rfl|(simp only[aA];rfl)) ?_;exact bz rfl
     exact bz rfl
    ) (λj2 a ha=>?_)
  subst ha;refine bT bF (λhg=>by first|rfl|(simp only[aA];rfl))<|bT (φ (!ι)) (λhg=>by(try rw[hg]);exact rfl)<|bT (φ (!ι)) (λhg=>by(try rw[hg]);exact rfl)<|au _ (by first|rfl|(simp only[aA];rfl))<|dX (ε a0.aT) (λhg=>by first|rfl|(simp only[aA];rfl))<|dX (φ (decide (¬(a0.aT=0)))) (λhg=>by(try rw[hg]);exact(fW _ _ _))<|bT (φ ((!ι)&&(decide (¬(a0.aT=0))))) (λhg=>by(try rw[hg]);exact(iG _ _))<|au _ (kT _ _)<|bT bF (λhg=>by first|rfl|(simp only[aA];rfl))<|bT (φ (!ι)) (λhg=>by(try rw[hg]);exact rfl)<|bT (φ (!ι)) (λhg=>by(try rw[hg]);exact rfl)<|au _ (by first|rfl|(simp only[aA];rfl))<|dX (ε a0.to) (λhg=>by first|rfl|(simp only[aA];rfl))<|dX (φ (decide (¬(a0.to=0)))) (λhg=>by(try rw[hg]);exact(fW _ _ _))<|bT (φ ((!ι)&&(decide (¬(a0.to=0))))) (λhg=>by(try rw[hg]);exact(iG _ _))<|au _ (kT _ _) ?_;refine gR (c:=((j2||((!ι)&&(decide (¬(a0.aT=0)))))||((!ι)&&(decide (¬(a0.to=0)))))) (λgV=>?_) (λgV=>?_)
  ·exact cD _ (cq _ _) ⟨rfl,rfl⟩
  refine au _ (by first|rfl|(simp only[aA];rfl))<|au (ε a0.kind) (by first|rfl|(simp only[aA];rfl))<|au _ (cv _ _ _) ?_
  refine jt (ω:=Int) (λmU a=>a=(([(Z4 (aF a0)),(ε mU)]:aq),σ)) (
    by
     refine dF (p:=a0.kind=2) (λc9=>?_) (λc9=>?_)
     ·exact bz rfl
     refine au _ (cv _ _ _) ?_
     refine jt (ω:=Int) (λj6 a=>a=(([(Z4 (aF a0)),(ε j6)]:aq),σ)) (
       by
        refine dF (p:=a0.kind=3) (λc5=>?_) (λc5=>?_)
        ·exact bz rfl
        exact bz rfl
       ) (λj6 a ha=>?_)
     subst ha;exact bz rfl
    ) (λmU a ha=>?_)
  subst ha;refine au _ (by first|rfl|(simp only[aA];rfl))<|dU (ε a0.aT) (λhg=>by first|rfl|(simp only[aA];rfl))<|dU (ε mU) (λhg=>by first|rfl|(simp only[aA];rfl))<|dU (φ (bu a0.aT 1 mU)) (λhg=>by(try rw[hg]);exact(iR (iQ a0.aT 1 mU σ)))<|dU (φ (!(bu a0.aT 1 mU))) (λhg=>by(try rw[hg]);exact rfl)<|au _ (iG _ _)<|bT bF (λhg=>by first|rfl|(simp only[aA];rfl))<|bT bF (λhg=>by(try rw[hg]);exact rfl)<|au _ (by first|rfl|(simp only[aA];rfl))<|dX (ε a0.to) (λhg=>by first|rfl|(simp only[aA];rfl))<|dX (ε mU) (λhg=>by first|rfl|(simp only[aA];rfl))<|dX (φ (bu a0.to 1 mU)) (λhg=>by(try rw[hg]);exact(iR (iQ a0.to 1 mU σ)))<|dX (φ (!(bu a0.to 1 mU))) (λhg=>by(try rw[hg]);exact rfl)<|bT (φ (ι&&(!(bu a0.to 1 mU)))) (λhg=>by(try rw[hg]);exact(iG _ _))<|au _ (kT _ _) ?_;refine gR (c:=((ι&&(!(bu a0.aT 1 mU)))||(ι&&(!(bu a0.to 1 mU))))) (λql=>?_) (λql=>?_)
  ·exact cD _ (cq _ _) ⟨rfl,rfl⟩
  refine au _ (by first|rfl|(simp only[aA];rfl))<|au (sl 4 aF a0.args) (by first|rfl|(simp only[aA];rfl))<|au _ (dh _ _ _) ?_;refine nJ (B:=Unit) (R:=Int) (λ(i20:Nat)(Hz:Unit)v N3=>v=[(ε 0),(ε (i20:Int))]/\σ=N3) (λ(yy:Unit)(q:LS)=>∃u2 gh,q=((Γ 2),([u2,gh]:aq),σ)) (λ(yy:Int)(q:LS)=>∃gh,q=(l7,([(ε yy),gh]:aq),σ)) ?_ ?_ ⟨rfl,rfl⟩ ?_ ?_
  ·intro aea i20 Dt Hz v N3 LH hI;obtain⟨rfl,rfl⟩:=hI;refine au _ (fJ LH)<|nN<|au _ (gm LH)<|au (l8 (aF Dt)) (by first|rfl|(simp only[aA];rfl))<|au (aF Dt) (by first|rfl|(simp only[aA];rfl))<|au _ (qI _ _ rfl)<|au (l8 (aF Dt)) (by first|rfl|(simp only[aA];rfl)) ?_;refine cE (λjE:Int=>((ε jE),σ)) (λjE T4=>BM _ _ _ T4) (λjE T4=>?_);refine au _ (fW _ _ _) ?_;refine dF (p:=¬(jE=0)) (λqj=>?_) (λqj=>?_)
   ·exact bz (jG (by simp) ⟨_,rfl⟩)
   refine au _ (fM LH aea) ?_;exact bz (nK ⟨rfl,rfl⟩)
  ·intro hl Hz v N3 hI;obtain⟨rfl,rfl⟩:=hI;refine au _ (fL _)<|nM ?_;exact bz ⟨by simp,⟨_,_,rfl⟩⟩
  ·intro hl yy q hq;obtain⟨u2,gh,rfl⟩:=hq;refine gH (by first|rfl|(simp only[aA];rfl)) ?_;exact cD _ (cq _ _) ⟨rfl,rfl⟩
  ·intro hl yy q hq;obtain⟨gh,rfl⟩:=hq;refine qM (by first|rfl|(simp only[aA];rfl))<|gH (by first|rfl|(simp only[aA];rfl)) ?_;exact cD _ (cq _ _) ⟨rfl,rfl⟩
 refine au _ (cv _ _ _) ?_
 refine jt (ω:=Bool) (λDU a=>a=(([(Z4 (aF a0)),(φ DU)]:aq),σ)) (
   by
    refine dF (p:=a0.kind=2) (λjd=>?_) (λjd=>?_)
    ·exact bz rfl
    refine au _ (cv _ _ _) ?_;exact bz rfl
   ) (λDU a ha=>?_)
 subst ha;refine gR (c:=DU) (λaeS=>?_) (λaeS=>?_)
 ·refine au _ (by first|rfl|(simp only[aA];rfl))<|au (sl 4 aF a0.args) (by first|rfl|(simp only[aA];rfl))<|au _ (dh _ _ _)<|au _ (fW _ _ _)<|au _ (by first|rfl|(simp only[aA];rfl))<|au (ε a0.kind) (by first|rfl|(simp only[aA];rfl))<|au _ (cv _ _ _) ?_
  refine jt (ω:=Bool) (λDV a=>a=(([(Z4 (aF a0)),(φ DV)]:aq),σ)) (
    by
     refine dF (p:=a0.kind=4) (λyG=>?_) (λyG=>?_)
     ·refine au _ (by first|rfl|(simp only[aA];rfl))<|au (sl 4 aF a0.args) (by first|rfl|(simp only[aA];rfl))<|au _ (dh _ _ _)<|au (φ (decide ((a0.args.length:Int)<2))) (by first|rfl|(simp only[aA];rfl)) ?_;exact bz rfl
     exact bz rfl
    ) (λDV a ha=>?_)
  subst ha;refine bT bF (λhg=>by first|rfl|(simp only[aA];rfl))<|bT (φ (!ι)) (λhg=>by(try rw[hg]);exact rfl)<|bT (φ (!ι)) (λhg=>by(try rw[hg]);exact rfl)<|au _ (by first|rfl|(simp only[aA];rfl))<|dX (ε a0.aT) (λhg=>by first|rfl|(simp only[aA];rfl))<|dX (φ (decide (¬(a0.aT=0)))) (λhg=>by(try rw[hg]);exact(fW _ _ _))<|bT (φ ((!ι)&&(decide (¬(a0.aT=0))))) (λhg=>by(try rw[hg]);exact(iG _ _))<|au _ (kT _ _)<|bT aZ (λhg=>by first|rfl|(simp only[aA];rfl))<|bT (φ (!θ)) (λhg=>by(try rw[hg]);exact rfl)<|bT (φ (!θ)) (λhg=>by(try rw[hg]);exact rfl)<|au _ (by first|rfl|(simp only[aA];rfl))<|dX (ε a0.to) (λhg=>by first|rfl|(simp only[aA];rfl))<|dX (φ (decide (¬(a0.to=0)))) (λhg=>by(try rw[hg]);exact(fW _ _ _))<|bT (φ ((!θ)&&(decide (¬(a0.to=0))))) (λhg=>by(try rw[hg]);exact(iG _ _))<|au _ (kT _ _) ?_;refine gR (c:=((DV||((!ι)&&(decide (¬(a0.aT=0)))))||((!θ)&&(decide (¬(a0.to=0)))))) (λyM=>?_) (λyM=>?_)
  ·exact cD _ (cq _ _) ⟨rfl,rfl⟩
  refine au _ (by first|rfl|(simp only[aA];rfl))<|au (ε a0.kind) (by first|rfl|(simp only[aA];rfl))<|au _ (cv _ _ _) ?_
  refine jt (ω:=Int) (λmV a=>a=(([(Z4 (aF a0)),(ε mV)]:aq),σ)) (
    by
     refine dF (p:=a0.kind=2) (λMO=>?_) (λMO=>?_)
     ·exact bz rfl
     refine au _ (cv _ _ _) ?_
     refine jt (ω:=Int) (λHi a=>a=(([(Z4 (aF a0)),(ε Hi)]:aq),σ)) (
       by
        refine dF (p:=a0.kind=3) (λoa=>?_) (λoa=>?_)
        ·exact bz rfl
        exact bz rfl
       ) (λHi a ha=>?_)
     subst ha;exact bz rfl
    ) (λmV a ha=>?_)
  subst ha;refine au _ (by first|rfl|(simp only[aA];rfl))<|dU (ε a0.aT) (λhg=>by first|rfl|(simp only[aA];rfl))<|dU (ε mV) (λhg=>by first|rfl|(simp only[aA];rfl))<|dU (φ (bu a0.aT 1 mV)) (λhg=>by(try rw[hg]);exact(iR (iQ a0.aT 1 mV σ)))<|dU (φ (!(bu a0.aT 1 mV))) (λhg=>by(try rw[hg]);exact rfl)<|au _ (iG _ _)<|bT aZ (λhg=>by first|rfl|(simp only[aA];rfl))<|bT aZ (λhg=>by(try rw[hg]);exact rfl)<|au _ (by first|rfl|(simp only[aA];rfl))<|dX (ε a0.to) (λhg=>by first|rfl|(simp only[aA];rfl))<|dX (ε mV) (λhg=>by first|rfl|(simp only[aA];rfl))<|dX (φ (bu a0.to 1 mV)) (λhg=>by(try rw[hg]);exact(iR (iQ a0.to 1 mV σ)))<|dX (φ (!(bu a0.to 1 mV))) (λhg=>by(try rw[hg]);exact rfl)<|bT (φ (θ&&(!(bu a0.to 1 mV)))) (λhg=>by(try rw[hg]);exact(iG _ _))<|au _ (kT _ _) ?_;refine gR (c:=((ι&&(!(bu a0.aT 1 mV)))||(θ&&(!(bu a0.to 1 mV))))) (λyL=>?_) (λyL=>?_)
  ·exact cD _ (cq _ _) ⟨rfl,rfl⟩
  refine au _ (by first|rfl|(simp only[aA];rfl))<|au (sl 4 aF a0.args) (by first|rfl|(simp only[aA];rfl))<|au _ (dh _ _ _) ?_;refine nJ (B:=Unit) (R:=Int) (λ(NG:Nat)(HE:Unit)v N9=>v=[(ε 0),(ε (NG:Int))]/\σ=N9) (λ(yE:Unit)(q:LS)=>∃u2 gh,q=((Γ 2),([u2,gh]:aq),σ)) (λ(yE:Int)(q:LS)=>∃gh,q=(l7,([(ε yE),gh]:aq),σ)) ?_ ?_ ⟨rfl,rfl⟩ ?_ ?_
  ·intro aef NG Dv HE v N9 LN hI;obtain⟨rfl,rfl⟩:=hI;refine au _ (fJ LN)<|nN<|au _ (gm LN)<|au (l8 (aF Dv)) (by first|rfl|(simp only[aA];rfl))<|au (aF Dv) (by first|rfl|(simp only[aA];rfl))<|au _ (qI _ _ rfl)<|au (l8 (aF Dv)) (by first|rfl|(simp only[aA];rfl)) ?_;refine cE (λyY:Int=>((ε yY),σ)) (λyY Ub=>BM _ _ _ Ub) (λyY Ub=>?_);refine au _ (fW _ _ _) ?_;refine dF (p:=¬(yY=0)) (λMS=>?_) (λMS=>?_)
   ·exact bz (jG (by simp) ⟨_,rfl⟩)
   refine au _ (fM LN aef) ?_;exact bz (nK ⟨rfl,rfl⟩)
  ·intro hl HE v N9 hI;obtain⟨rfl,rfl⟩:=hI;refine au _ (fL _)<|nM ?_;exact bz ⟨by simp,⟨_,_,rfl⟩⟩
  ·intro hl yE q hq;obtain⟨u2,gh,rfl⟩:=hq;refine gH (by first|rfl|(simp only[aA];rfl)) ?_;exact cD _ (cq _ _) ⟨rfl,rfl⟩
  ·intro hl yE q hq;obtain⟨gh,rfl⟩:=hq;refine qM (by first|rfl|(simp only[aA];rfl))<|gH (by first|rfl|(simp only[aA];rfl)) ?_;exact cD _ (cq _ _) ⟨rfl,rfl⟩
 refine au _ (cv _ _ _) ?_
 refine jt (ω:=Bool) (λDW a=>a=(([(Z4 (aF a0)),(φ DW)]:aq),σ)) (
   by
    refine dF (p:=a0.kind=4) (λDi=>?_) (λDi=>?_)
    ·exact bz rfl
    refine au _ (cv _ _ _) ?_;exact bz rfl
   ) (λDW a ha=>?_)
 subst ha;refine gR (c:=DW) (λaeR=>?_) (λaeR=>?_)
 ·refine au _ (by first|rfl|(simp only[aA];rfl))<|au (sl 4 aF a0.args) (by first|rfl|(simp only[aA];rfl))<|au _ (dh _ _ _)<|au _ (fW _ _ _)<|au _ (by first|rfl|(simp only[aA];rfl))<|au (ε a0.kind) (by first|rfl|(simp only[aA];rfl))<|au _ (cv _ _ _) ?_
  refine jt (ω:=Bool) (λDX a=>a=(([(Z4 (aF a0)),(φ DX)]:aq),σ)) (
    by
     refine dF (p:=a0.kind=4) (λDk=>?_) (λDk=>?_)
     ·refine au _ (by first|rfl|(simp only[aA];rfl))<|au (sl 4 aF a0.args) (by first|rfl|(simp only[aA];rfl))<|au _ (dh _ _ _)<|au (φ (decide ((a0.args.length:Int)<2))) (by first|rfl|(simp only[aA];rfl)) ?_;exact bz rfl
     exact bz rfl
    ) (λDX a ha=>?_)
  subst ha;refine bT aZ (λhg=>by first|rfl|(simp only[aA];rfl))<|bT (φ (!θ)) (λhg=>by(try rw[hg]);exact rfl)<|bT (φ (!θ)) (λhg=>by(try rw[hg]);exact rfl)<|au _ (by first|rfl|(simp only[aA];rfl))<|dX (ε a0.aT) (λhg=>by first|rfl|(simp only[aA];rfl))<|dX (φ (decide (¬(a0.aT=0)))) (λhg=>by(try rw[hg]);exact(fW _ _ _))<|bT (φ ((!θ)&&(decide (¬(a0.aT=0))))) (λhg=>by(try rw[hg]);exact(iG _ _))<|au _ (kT _ _)<|bT aZ (λhg=>by first|rfl|(simp only[aA];rfl))<|bT (φ (!θ)) (λhg=>by(try rw[hg]);exact rfl)<|bT (φ (!θ)) (λhg=>by(try rw[hg]);exact rfl)<|au _ (by first|rfl|(simp only[aA];rfl))<|dX (ε a0.to) (λhg=>by first|rfl|(simp only[aA];rfl))<|dX (φ (decide (¬(a0.to=0)))) (λhg=>by(try rw[hg]);exact(fW _ _ _))<|bT (φ ((!θ)&&(decide (¬(a0.to=0))))) (λhg=>by(try rw[hg]);exact(iG _ _))<|au _ (kT _ _) ?_;refine gR (c:=((DX||((!θ)&&(decide (¬(a0.aT=0)))))||((!θ)&&(decide (¬(a0.to=0)))))) (λc80=>?_) (λc80=>?_)
  ·exact cD _ (cq _ _) ⟨rfl,rfl⟩
  refine au _ (by first|rfl|(simp only[aA];rfl))<|au (ε a0.kind) (by first|rfl|(simp only[aA];rfl))<|au _ (cv _ _ _) ?_
  refine jt (ω:=Int) (λmW a=>a=(([(Z4 (aF a0)),(ε mW)]:aq),σ)) (
    by
     refine dF (p:=a0.kind=2) (λMW=>?_) (λMW=>?_)
     ·exact bz rfl
     refine au _ (cv _ _ _) ?_
     refine jt (ω:=Int) (λHj a=>a=(([(Z4 (aF a0)),(ε Hj)]:aq),σ)) (
       by
        refine dF (p:=a0.kind=3) (λc61=>?_) (λc61=>?_)
        ·exact bz rfl
        exact bz rfl
       ) (λHj a ha=>?_)
     subst ha;exact bz rfl
    ) (λmW a ha=>?_)
  subst ha;refine au _ (by first|rfl|(simp only[aA];rfl))<|dU (ε a0.aT) (λhg=>by first|rfl|(simp only[aA];rfl))<|dU (ε mW) (λhg=>by first|rfl|(simp only[aA];rfl))<|dU (φ (bu a0.aT 1 mW)) (λhg=>by(try rw[hg]);exact(iR (iQ a0.aT 1 mW σ)))<|dU (φ (!(bu a0.aT 1 mW))) (λhg=>by(try rw[hg]);exact rfl)<|au _ (iG _ _)<|bT aZ (λhg=>by first|rfl|(simp only[aA];rfl))<|bT aZ (λhg=>by(try rw[hg]);exact rfl)<|au _ (by first|rfl|(simp only[aA];rfl))<|dX (ε a0.to) (λhg=>by first|rfl|(simp only[aA];rfl))<|dX (ε mW) (λhg=>by first|rfl|(simp only[aA];rfl))<|dX (φ (bu a0.to 1 mW)) (λhg=>by(try rw[hg]);exact(iR (iQ a0.to 1 mW σ)))<|dX (φ (!(bu a0.to 1 mW))) (λhg=>by(try rw[hg]);exact rfl)<|bT (φ (θ&&(!(bu a0.to 1 mW)))) (λhg=>by(try rw[hg]);exact(iG _ _))<|au _ (kT _ _) ?_;refine gR (c:=((θ&&(!(bu a0.aT 1 mW)))||(θ&&(!(bu a0.to 1 mW))))) (λGY=>?_) (λGY=>?_)
  ·exact cD _ (cq _ _) ⟨rfl,rfl⟩
  refine au _ (by first|rfl|(simp only[aA];rfl))<|au (sl 4 aF a0.args) (by first|rfl|(simp only[aA];rfl))<|au _ (dh _ _ _) ?_;refine nJ (B:=Unit) (R:=Int) (λ(i76:Nat)(HH:Unit)v Oa=>v=[(ε 0),(ε (i76:Int))]/\σ=Oa) (λ(yF:Unit)(q:LS)=>∃u2 gh,q=((Γ 2),([u2,gh]:aq),σ)) (λ(yF:Int)(q:LS)=>∃gh,q=(l7,([(ε yF),gh]:aq),σ)) ?_ ?_ ⟨rfl,rfl⟩ ?_ ?_
  ·intro aeg i76 Dw HH v Oa LO hI;obtain⟨rfl,rfl⟩:=hI;refine au _ (fJ LO)<|nN<|au _ (gm LO)<|au (l8 (aF Dw)) (by first|rfl|(simp only[aA];rfl))<|au (aF Dw) (by first|rfl|(simp only[aA];rfl))<|au _ (qI _ _ rfl)<|au (l8 (aF Dw)) (by first|rfl|(simp only[aA];rfl)) ?_;refine cE (λzb:Int=>((ε zb),σ)) (λzb Uc=>BM _ _ _ Uc) (λzb Uc=>?_);refine au _ (fW _ _ _) ?_;refine dF (p:=¬(zb=0)) (λDm=>?_) (λDm=>?_)
   ·exact bz (jG (by simp) ⟨_,rfl⟩)
   refine au _ (fM LO aeg) ?_;exact bz (nK ⟨rfl,rfl⟩)
  ·intro hl HH v Oa hI;obtain⟨rfl,rfl⟩:=hI;refine au _ (fL _)<|nM ?_;exact bz ⟨by simp,⟨_,_,rfl⟩⟩
  ·intro hl yF q hq;obtain⟨u2,gh,rfl⟩:=hq;refine gH (by first|rfl|(simp only[aA];rfl)) ?_;exact cD _ (cq _ _) ⟨rfl,rfl⟩
  ·intro hl yF q hq;obtain⟨gh,rfl⟩:=hq;refine qM (by first|rfl|(simp only[aA];rfl))<|gH (by first|rfl|(simp only[aA];rfl)) ?_;exact cD _ (cq _ _) ⟨rfl,rfl⟩
 refine au _ (cv _ _ _) ?_
 refine jt (ω:=Bool) (λDY a=>a=(([(Z4 (aF a0)),(φ DY)]:aq),σ)) (
   by
    refine dF (p:=a0.kind=6) (λc85=>?_) (λc85=>?_)
    ·exact bz rfl
    refine au _ (cv _ _ _) ?_
    refine jt (ω:=Bool) (λHl a=>a=(([(Z4 (aF a0)),(φ Hl)]:aq),σ)) (
      by
       refine dF (p:=a0.kind=7) (λMX=>?_) (λMX=>?_)
       ·exact bz rfl
       refine au _ (cv _ _ _) ?_;exact bz rfl
      ) (λHl a ha=>?_)
    subst ha;exact bz rfl
   ) (λDY a ha=>?_)
 subst ha;refine gR (c:=DY) (λaeQ=>?_) (λaeQ=>?_)
 ·refine au _ (by first|rfl|(simp only[aA];rfl))<|au (sl 4 aF a0.args) (by first|rfl|(simp only[aA];rfl))<|au _ (dh _ _ _)<|au _ (fW _ _ _)<|au _ (by first|rfl|(simp only[aA];rfl))<|au (ε a0.kind) (by first|rfl|(simp only[aA];rfl))<|au _ (cv _ _ _) ?_
  refine jt (ω:=Bool) (λDZ a=>a=(([(Z4 (aF a0)),(φ DZ)]:aq),σ)) (
    by
     refine dF (p:=a0.kind=4) (λDn=>?_) (λDn=>?_)
     ·refine au _ (by first|rfl|(simp only[aA];rfl))<|au (sl 4 aF a0.args) (by first|rfl|(simp only[aA];rfl))<|au _ (dh _ _ _)<|au (φ (decide ((a0.args.length:Int)<2))) (by first|rfl|(simp only[aA];rfl)) ?_;exact bz rfl
     exact bz rfl
    ) (λDZ a ha=>?_)
  subst ha;refine bT aZ (λhg=>by first|rfl|(simp only[aA];rfl))<|bT (φ (!θ)) (λhg=>by(try rw[hg]);exact rfl)<|bT (φ (!θ)) (λhg=>by(try rw[hg]);exact rfl)<|au _ (by first|rfl|(simp only[aA];rfl))<|dX (ε a0.aT) (λhg=>by first|rfl|(simp only[aA];rfl))<|dX (φ (decide (¬(a0.aT=0)))) (λhg=>by(try rw[hg]);exact(fW _ _ _))<|bT (φ ((!θ)&&(decide (¬(a0.aT=0))))) (λhg=>by(try rw[hg]);exact(iG _ _))<|au _ (kT _ _)<|bT aZ (λhg=>by first|rfl|(simp only[aA];rfl))<|bT (φ (!θ)) (λhg=>by(try rw[hg]);exact rfl)<|bT (φ (!θ)) (λhg=>by(try rw[hg]);exact rfl)<|au _ (by first|rfl|(simp only[aA];rfl))<|dX (ε a0.to) (λhg=>by first|rfl|(simp only[aA];rfl))<|dX (φ (decide (¬(a0.to=0)))) (λhg=>by(try rw[hg]);exact(fW _ _ _))<|bT (φ ((!θ)&&(decide (¬(a0.to=0))))) (λhg=>by(try rw[hg]);exact(iG _ _))<|au _ (kT _ _) ?_;refine gR (c:=((DZ||((!θ)&&(decide (¬(a0.aT=0)))))||((!θ)&&(decide (¬(a0.to=0)))))) (λLu=>?_) (λLu=>?_)
  ·exact cD _ (cq _ _) ⟨rfl,rfl⟩
  refine au _ (by first|rfl|(simp only[aA];rfl))<|au (ε a0.kind) (by first|rfl|(simp only[aA];rfl))<|au _ (cv _ _ _) ?_
  refine jt (ω:=Int) (λmX a=>a=(([(Z4 (aF a0)),(ε mX)]:aq),σ)) (
    by
     refine dF (p:=a0.kind=2) (λc97=>?_) (λc97=>?_)
     ·exact bz rfl
     refine au _ (cv _ _ _) ?_
     refine jt (ω:=Int) (λHo a=>a=(([(Z4 (aF a0)),(ε Ho)]:aq),σ)) (
       by
        refine dF (p:=a0.kind=3) (λDr=>?_) (λDr=>?_)
        ·exact bz rfl
        exact bz rfl
       ) (λHo a ha=>?_)
     subst ha;exact bz rfl
    ) (λmX a ha=>?_)
  subst ha;refine au _ (by first|rfl|(simp only[aA];rfl))<|dU (ε a0.aT) (λhg=>by first|rfl|(simp only[aA];rfl))<|dU (ε mX) (λhg=>by first|rfl|(simp only[aA];rfl))<|dU (φ (bu a0.aT 1 mX)) (λhg=>by(try rw[hg]);exact(iR (iQ a0.aT 1 mX σ)))<|dU (φ (!(bu a0.aT 1 mX))) (λhg=>by(try rw[hg]);exact rfl)<|au _ (iG _ _)<|bT aZ (λhg=>by first|rfl|(simp only[aA];rfl))<|bT aZ (λhg=>by(try rw[hg]);exact rfl)<|au _ (by first|rfl|(simp only[aA];rfl))<|dX (ε a0.to) (λhg=>by first|rfl|(simp only[aA];rfl))<|dX (ε mX) (λhg=>by first|rfl|(simp only[aA];rfl))<|dX (φ (bu a0.to 1 mX)) (λhg=>by(try rw[hg]);exact(iR (iQ a0.to 1 mX σ)))<|dX (φ (!(bu a0.to 1 mX))) (λhg=>by(try rw[hg]);exact rfl)<|bT (φ (θ&&(!(bu a0.to 1 mX)))) (λhg=>by(try rw[hg]);exact(iG _ _))<|au _ (kT _ _) ?_;refine gR (c:=((θ&&(!(bu a0.aT 1 mX)))||(θ&&(!(bu a0.to 1 mX))))) (λaeG=>?_) (λaeG=>?_)
  ·exact cD _ (cq _ _) ⟨rfl,rfl⟩
  refine au _ (by first|rfl|(simp only[aA];rfl))<|au (sl 4 aF a0.args) (by first|rfl|(simp only[aA];rfl))<|au _ (dh _ _ _) ?_;refine nJ (B:=Unit) (R:=Int) (λ(L0:Nat)(GN:Unit)v Mm=>v=[(ε 0),(ε (L0:Int))]/\σ=Mm) (λ(xU:Unit)(q:LS)=>∃u2 gh,q=((Γ 2),([u2,gh]:aq),σ)) (λ(xU:Int)(q:LS)=>∃gh,q=(l7,([(ε xU),gh]:aq),σ)) ?_ ?_ ⟨rfl,rfl⟩ ?_ ?_
  ·intro ada L0 CK GN v Mm KR hI;obtain⟨rfl,rfl⟩:=hI;refine au _ (fJ KR)<|nN<|au _ (gm KR)<|au (l8 (aF CK)) (by first|rfl|(simp only[aA];rfl))<|au (aF CK) (by first|rfl|(simp only[aA];rfl))<|au _ (qI _ _ rfl)<|au (l8 (aF CK)) (by first|rfl|(simp only[aA];rfl)) ?_;refine cE (λyg:Int=>((ε yg),σ)) (λyg Tx=>BM _ _ _ Tx) (λyg Tx=>?_);refine au _ (fW _ _ _) ?_;refine dF (p:=¬(yg=0)) (λLs=>?_) (λLs=>?_)
   ·exact bz (jG (by simp) ⟨_,rfl⟩)
   refine au _ (fM KR ada) ?_;exact bz (nK ⟨rfl,rfl⟩)
  ·intro hl GN v Mm hI;obtain⟨rfl,rfl⟩:=hI;refine au _ (fL _)<|nM ?_;exact bz ⟨by simp,⟨_,_,rfl⟩⟩
  ·intro hl xU q hq;obtain⟨u2,gh,rfl⟩:=hq;refine gH (by first|rfl|(simp only[aA];rfl)) ?_;exact cD _ (cq _ _) ⟨rfl,rfl⟩
  ·intro hl xU q hq;obtain⟨gh,rfl⟩:=hq;refine qM (by first|rfl|(simp only[aA];rfl))<|gH (by first|rfl|(simp only[aA];rfl)) ?_;exact cD _ (cq _ _) ⟨rfl,rfl⟩
 refine au _ (cv _ _ _) ?_;refine dF (p:=a0.kind=9) (λaeP=>?_) (λaeP=>?_)
 ·refine au _ (by first|rfl|(simp only[aA];rfl))<|au (sl 4 aF a0.args) (by first|rfl|(simp only[aA];rfl))<|au _ (dh _ _ _)<|au _ (fW _ _ _)<|au _ (by first|rfl|(simp only[aA];rfl))<|au (ε a0.kind) (by first|rfl|(simp only[aA];rfl))<|au _ (cv _ _ _) ?_
  refine jt (ω:=Bool) (λCS a=>a=(([(Z4 (aF a0)),(φ CS)]:aq),σ)) (
    by
     refine dF (p:=a0.kind=4) (λaeH=>?_) (λaeH=>?_)
     ·refine au _ (by first|rfl|(simp only[aA];rfl))<|au (sl 4 aF a0.args) (by first|rfl|(simp only[aA];rfl))<|au _ (dh _ _ _)<|au (φ (decide ((a0.args.length:Int)<2))) (by first|rfl|(simp only[aA];rfl)) ?_;exact bz rfl
     exact bz rfl
    ) (λCS a ha=>?_)
  subst ha;refine bT bF (λhg=>by first|rfl|(simp only[aA];rfl))<|bT (φ (!ι)) (λhg=>by(try rw[hg]);exact rfl)<|bT (φ (!ι)) (λhg=>by(try rw[hg]);exact rfl)<|au _ (by first|rfl|(simp only[aA];rfl))<|dX (ε a0.aT) (λhg=>by first|rfl|(simp only[aA];rfl))<|dX (φ (decide (¬(a0.aT=0)))) (λhg=>by(try rw[hg]);exact(fW _ _ _))<|bT (φ ((!ι)&&(decide (¬(a0.aT=0))))) (λhg=>by(try rw[hg]);exact(iG _ _))<|au _ (kT _ _)<|bT bF (λhg=>by first|rfl|(simp only[aA];rfl))<|bT (φ (!ι)) (λhg=>by(try rw[hg]);exact rfl)<|bT (φ (!ι)) (λhg=>by(try rw[hg]);exact rfl)<|au _ (by first|rfl|(simp only[aA];rfl))<|dX (ε a0.to) (λhg=>by first|rfl|(simp only[aA];rfl))<|dX (φ (decide (¬(a0.to=0)))) (λhg=>by(try rw[hg]);exact(fW _ _ _))<|bT (φ ((!ι)&&(decide (¬(a0.to=0))))) (λhg=>by(try rw[hg]);exact(iG _ _))<|au _ (kT _ _) ?_;refine gR (c:=((CS||((!ι)&&(decide (¬(a0.aT=0)))))||((!ι)&&(decide (¬(a0.to=0)))))) (λLw=>?_) (λLw=>?_)
  ·exact cD _ (cq _ _) ⟨rfl,rfl⟩
  refine au _ (by first|rfl|(simp only[aA];rfl))<|au (ε a0.kind) (by first|rfl|(simp only[aA];rfl))<|au _ (cv _ _ _) ?_
  refine jt (ω:=Int) (λmL a=>a=(([(Z4 (aF a0)),(ε mL)]:aq),σ)) (
    by
     refine dF (p:=a0.kind=2) (λaeK=>?_) (λaeK=>?_)
     ·exact bz rfl
     refine au _ (cv _ _ _) ?_
     refine jt (ω:=Int) (λGF a=>a=(([(Z4 (aF a0)),(ε GF)]:aq),σ)) (
       by
        refine dF (p:=a0.kind=3) (λxW=>?_) (λxW=>?_)
        ·exact bz rfl
        exact bz rfl
       ) (λGF a ha=>?_)
     subst ha;exact bz rfl
    ) (λmL a ha=>?_)
  subst ha;refine au _ (by first|rfl|(simp only[aA];rfl))<|dU (ε a0.aT) (λhg=>by first|rfl|(simp only[aA];rfl))<|dU (ε mL) (λhg=>by first|rfl|(simp only[aA];rfl))<|dU (φ (bu a0.aT 1 mL)) (λhg=>by(try rw[hg]);exact(iR (iQ a0.aT 1 mL σ)))<|dU (φ (!(bu a0.aT 1 mL))) (λhg=>by(try rw[hg]);exact rfl)<|au _ (iG _ _)<|bT bF (λhg=>by first|rfl|(simp only[aA];rfl))<|bT bF (λhg=>by(try rw[hg]);exact rfl)<|au _ (by first|rfl|(simp only[aA];rfl))<|dX (ε a0.to) (λhg=>by first|rfl|(simp only[aA];rfl))<|dX (ε mL) (λhg=>by first|rfl|(simp only[aA];rfl))<|dX (φ (bu a0.to 1 mL)) (λhg=>by(try rw[hg]);exact(iR (iQ a0.to 1 mL σ)))<|dX (φ (!(bu a0.to 1 mL))) (λhg=>by(try rw[hg]);exact rfl)<|bT (φ (ι&&(!(bu a0.to 1 mL)))) (λhg=>by(try rw[hg]);exact(iG _ _))<|au _ (kT _ _) ?_;refine gR (c:=((ι&&(!(bu a0.aT 1 mL)))||(ι&&(!(bu a0.to 1 mL))))) (λaeO=>?_) (λaeO=>?_)
  ·exact cD _ (cq _ _) ⟨rfl,rfl⟩
  refine au _ (by first|rfl|(simp only[aA];rfl))<|au (sl 4 aF a0.args) (by first|rfl|(simp only[aA];rfl))<|au _ (dh _ _ _) ?_;refine nJ (B:=Unit) (R:=Int) (λ(L1:Nat)(GP:Unit)v Mn=>v=[(ε 0),(ε (L1:Int))]/\σ=Mn) (λ(xV:Unit)(q:LS)=>∃u2 gh,q=((Γ 2),([u2,gh]:aq),σ)) (λ(xV:Int)(q:LS)=>∃gh,q=(l7,([(ε xV),gh]:aq),σ)) ?_ ?_ ⟨rfl,rfl⟩ ?_ ?_
  ·intro adb L1 CL GP v Mn KT hI;obtain⟨rfl,rfl⟩:=hI;refine au _ (fJ KT)<|nN<|au _ (gm KT)<|au (l8 (aF CL)) (by first|rfl|(simp only[aA];rfl))<|au (aF CL) (by first|rfl|(simp only[aA];rfl))<|au _ (qI _ _ rfl)<|au (l8 (aF CL)) (by first|rfl|(simp only[aA];rfl)) ?_;refine cE (λyj:Int=>((ε yj),σ)) (λyj Ty=>BM _ _ _ Ty) (λyj Ty=>?_);refine au _ (fW _ _ _) ?_;refine dF (p:=¬(yj=0)) (λLv=>?_) (λLv=>?_)
   ·exact bz (jG (by simp) ⟨_,rfl⟩)
   refine au _ (fM KT adb) ?_;exact bz (nK ⟨rfl,rfl⟩)
  ·intro hl GP v Mn hI;obtain⟨rfl,rfl⟩:=hI;refine au _ (fL _)<|nM ?_;exact bz ⟨by simp,⟨_,_,rfl⟩⟩
  ·intro hl xV q hq;obtain⟨u2,gh,rfl⟩:=hq;refine gH (by first|rfl|(simp only[aA];rfl)) ?_;exact cD _ (cq _ _) ⟨rfl,rfl⟩
  ·intro hl xV q hq;obtain⟨gh,rfl⟩:=hq;refine qM (by first|rfl|(simp only[aA];rfl))<|gH (by first|rfl|(simp only[aA];rfl)) ?_;exact cD _ (cq _ _) ⟨rfl,rfl⟩
 exact cD _ (cq _ _) ⟨rfl,rfl⟩
end
theorem IY:∀(l:List aD)(p:aD),cC (l++[p])=cC l+bn p
 |[],p=>by rw[Xk,cC,cC,cC];omega
 |q::l,p=>by rw[iI,cC,cC,IY l p];omega
theorem OW:∀(l:List aD)(p:aD),jI (l++[p])=max (jI l) (dK p)
 |[],p=>by rw[Xk,jI,jI,jI];omega
 |q::l,p=>by rw[iI,jI,jI,OW l p];omega
theorem YD(l:List aD)(k:Nat):cC (l.take k)<=cC l:=by
 have h:cC (l.take k++l.drop k)=cC (l.take k)+cC (l.drop k):=by rw[BZ,BZ,BZ,Tm,amC]
 rw[WD]at h;omega
theorem E5:∀l:List aD,jI l<=cC l
 |[]=>by rw[jI,cC];omega
 |.mk k f t a::l=>by rw[jI,cC,dK,bn];have:=E5 a;have:=E5 l;omega
def gQ(k f t:Int)(n:Nat):Int:=
 if ¬(1<=k/\k<=9)then 4
 else if(k<=3/\n≠0)\/(k=4/\n<2)\/(k=5/\n≠2)\/(6<=k/\n≠1)\/(4<=k/\k<=8/\f≠0)\/(2<=k/\k<=8/\t≠0)then 3
 else if((k=1\/k=9)/\¬(1<=f/\f<=9999))\/((k=2\/k=3)/\¬(1<=f/\f<=999))\/((k=1\/k=9)/\¬(1<=t/\t<=9999))then 1
 else 0
mutual
def dm:aD->Int
 |.mk k f t l=>if gQ k f t l.length=0 then nL l else gQ k f t l.length
def nL:List aD->Int
 |[]=>0
 |p::l=>if dm p=0 then nL l else dm p
end
def iF(p:aD):Int:=if 200<bn p\/12<dK p then 2 else dm p
mutual
def gO:aD->List (Int×Int)
 |.mk k f t l=>(if k=2\/k=3 then[(k,f)]else[])++gj l
def gj:List aD->List (Int×Int)
 |[]=>[]
 |p::l=>gO p++gj l
end
section
section
variable {α S B R γ : Type}
theorem Ka{l:List α}{body:Nat->α->S->Option (Lr S B R)}{fin:S->Option B}{s:S}{K1:B->Option γ}{K2:R->Option γ}(st:Nat->S)(hl:l.length<=bD)(h0:s=st 0)(hb:∀i x,l[i]? =δ x->body i x (st i)=δ (.go (st (i+1)))):iJ l body fin s K1 K2=(fin (st l.length)).bind K1:=by
 rw[J9 hl]
 have key:∀(rest pre:List α),l=pre++rest->oP body fin rest pre.length (st pre.length)=(fin (st l.length)).map .inl:=by
  intro rest;induction rest with
  |nil=>intro pre hp;rw[X0]at hp;subst hp;rfl
  |cons x rest ih=>
   intro pre hp;have hx:l[pre.length]? =δ x:=by rw[hp];simp
   rw[oP,hb pre.length x hx,aL];have:=ih (pre++[x]) (by simpa using hp);simpa using this
 have k:=key l [] rfl;rw[Zk]at k;rw[h0,k];cases fin (st l.length)<;>rfl
end
theorem Jg:∀l:List aD,l.length<=cC l
 |[]=>jK _
 |p::l=>by rw[cC,qH,b9];have:=Jg l;omega
theorem zY{p:aD}:∀{l:List aD},p∈l->dK p<=jI l
 |q::l,h=>by
  rw[jI];rcases eo.1 h with rfl|h
  ·omega
  ·have:=zY h;omega
theorem zX(p:aD):dK p<=bn p:=by rw[xD,qH];have:=E5 p.args;omega
theorem B2(p:aD):1<=dK p:=by rw[xD];omega
abbrev qX:Nat:=4611686018427387904
theorem J3{p:aD}(h:bn p<=qX):p.args.length<=bD:=by have:=Jg p.args;rw[qH]at h;unfold qX at h;unfold bD;omega
theorem SX:∀(n:Nat)(p:aD)(σ:Heap),dK p<=n->bn p<=qX->fuel zP n 37 [.agg (aF p)] σ=δ (.aN [.ah (bn p:Int),.ah (dK p:Int)],σ)
 |0,p,σ,h,_=>by have:=B2 p;omega
 |n+1,p,σ,h,hs=>by
  let q:aD->Option (Int×Int):=λp=>if dK p<=n/\bn p<=qX then δ ((bn p:Int),(dK p:Int))else η
  have hd:jI p.args<=n:=by rw[xD]at h;omega
  have hz:1+cC p.args<=qX:=by rw[qH]at hs;exact hs
  have e:BW q p=δ ((bn p:Int),(dK p:Int)):=by
   unfold BW;rw[Ka (λi=>(((1+cC (p.args.take i):Nat):Int),((1+jI (p.args.take i):Nat):Int))) (J3 hs) (by simp [cC,jI])]
   ·simp only[VZ,aL,qH p,xD p]
   ·intro i x hx;have hm:=bR hx;have DS:=zY hm;have hxs:=Jh hm;have hi:=(bB.1 hx).1;have ht:p.args.take (i+1)=p.args.take i++[x]:=by rw[u6,hx];rfl
    have hle:=YD p.args (i+1);rw[ht,IY]at hle;have jB:=E5 (p.args.take i);have hds:=zX x;have hq:q x=δ ((bn x:Int),(dK x:Int)):=aC ⟨by omega,by omega⟩;unfold qX at *
    simp only[hq,aL,ht,IY,OW];rw[dY (by unfold bA;omega),dY (by unfold bA;omega)];congr 3
    ·omega
    ·split<;>omega
  have hr:fuel zP (n+1) 37=Φ ι [iK] .k (XJ (zS (fuel zP n))):=rfl;rw[hr]
  exact Yx (rc:=fuel zP n) q (λx s r hx=>by
   by_cases hp:dK x<=n/\bn x<=qX
   ·have:q x=_:=aC hp;rw[this]at hx;injection hx with hx;subst hx
    exact SX n x s hp.1 hp.2
   ·have:q x=η:=aB hp
    rw[this]at hx;cases hx) e
theorem Ph:∀(l:List aD)(i:Nat),gI (λ_ x=>dm x) l i=nL l
 |[],i=>by rw[gI,nL]
 |p::l,i=>by rw[gI,nL,Ph l (i+1)]
theorem aaG{q:aD->Option Int}{l:List aD}(hl:l.length<=bD)(hq:∀x∈l,q x=δ (dm x)):
  iJ l (λ(i:Nat)e(s:Unit)=>(show Option (Lr Unit Unit Int)from(q e).bind λr=>if ¬(r=0)then δ (.ret r)else δ (.go ()))) (λs=>δ ()) () (λb=>δ 0) (λb=>δ b)=δ (nL l):=by
 rw[xC (f:=λ_ x=>dm x) hl (λi x hx=>by
  simp only[hq x (bR hx),aL]
  by_cases h:dm x=0<;>simp [h]) rfl,Ph]
 split
 ·rename_i h;rw[h]
 ·rfl
def wP(k f t:Int)(n:Nat):Prop:=(k<=3/\n≠0)\/(k=4/\n<2)\/(k=5/\n≠2)\/(6<=k/\n≠1)\/(4<=k/\k<=8/\f≠0)\/(2<=k/\k<=8/\t≠0)
def D0(k f t:Int):Prop:=((k=1\/k=9)/\¬(1<=f/\f<=9999))\/((k=2\/k=3)/\¬(1<=f/\f<=999))\/((k=1\/k=9)/\¬(1<=t/\t<=9999))
theorem TE{k f t:Int}{n:Nat}{L:Int}{A B:Prop}[Decidable A][Decidable B]{X:Option Int}(hk:1<=k/\k<=9)(hA:A↔wP k f t n)(hB:B↔D0 k f t)(hX:X=if A then δ 3 else if B then δ 1 else δ L):X=δ (if gQ k f t n=0 then L else gQ k f t n):=by
 rw[hX];unfold wP at hA;unfold D0 at hB;by_cases a:A
 ·have e:gQ k f t n=3:=by unfold gQ;rw[aB (λh=>h hk),aC (hA.1 a)]
  rw[aC a,e];rfl
 ·by_cases b:B
  ·have e:gQ k f t n=1:=by unfold gQ;rw[aB (λh=>h hk),aB (λh=>a (hA.2 h)),aC (hB.1 b)]
   rw[aB a,aC b,e];rfl
  ·have e:gQ k f t n=0:=by unfold gQ;rw[aB (λh=>h hk),aB (λh=>a (hA.2 h)),aB (λh=>b (hB.2 h))]
   rw[aB a,aB b,e];rfl
theorem RW(p:aD):dm p=if gQ p.kind p.aT p.to p.args.length=0 then nL p.args else gQ p.kind p.aT p.to p.args.length:=by cases p;rw[dm];rfl
theorem aae{k f t:Int}{n:Nat}(hk:¬(1<=k/\k<=9)):gQ k f t n=4:=by unfold gQ;rw[aC hk]
theorem abK{q:aD->Option Int}(p:aD)(hl:p.args.length<=bD)(hq:∀x∈p.args,q x=δ (dm x)):zO q p=δ (dm p):=by
 have hL:=aaG hl hq;unfold zO;rw[RW];simp only[hL];generalize nL p.args=L;clear hL hq;generalize p.args.length=n at *
 generalize p.kind=k;generalize p.aT=f;generalize p.to=t;by_cases hk:1<=k/\k<=9
 ·have hk':k=1\/k=2\/k=3\/k=4\/k=5\/k=6\/k=7\/k=8\/k=9:=by omega
  rcases hk' with rfl|rfl|rfl|rfl|rfl|rfl|rfl|rfl|rfl<;>
   (simp only[bu,reduceIte,aL,Int.reduceEq,decide_true,decide_false,X6,Wq,Bool.not_false,Bool.true_and,Wt,Bool.or_false,Bool.false_or,Bool.or_eq_true,decide_eq_true_eq,Bool.not_eq_true',decide_eq_false_iff_not];(first|refine TE (by decide) ?_ ?_ rfl|refine TE (B:=False) (by decide) ?_ ?_ rfl)<;>(simp [wP,D0];try omega))
 ·rw[aae hk];have n1:¬k=1:=by omega
  have n2:¬k=2:=by omega
  have n3:¬k=3:=by omega
  have n4:¬k=4:=by omega
  have n5:¬k=5:=by omega
  have n6:¬k=6:=by omega
  have n7:¬k=7:=by omega
  have n8:¬k=8:=by omega
  have n9:¬k=9:=by omega
  simp [n1,n2,n3,n4,n5,n6,n7,n8,n9]
theorem Sn{p:aD}{n:Nat}(h:dK p<=n+1):jI p.args<=n:=by rw[xD]at h;omega
theorem Ri:∀(n:Nat)(p:aD)(σ:Heap),dK p<=n->bn p<=qX->fuel zJ n 38 [.agg (aF p)] σ=δ (.ah (dm p),σ)
 |0,p,σ,h,_=>by have:=B2 p;omega
 |n+1,p,σ,h,hs=>by
  let q:aD->Option Int:=λp=>if dK p<=n/\bn p<=qX then δ (dm p)else η
  have hd:=Sn h;have e:zO q p=δ (dm p):=abK p (J3 hs) λx hx=>aC ⟨o8 (zY hx) hd,by have:=B3 hx;omega⟩
  have hr:fuel zJ (n+1) 38=Φ ι [iK] .k (XJ (zM (fuel zJ n))):=rfl;rw[hr]
  exact aj9 (rc:=fuel zJ n) q (λx s r hx=>by
   by_cases hp:dK x<=n/\bn x<=qX
   ·have:q x=_:=aC hp;rw[this]at hx;injection hx with hx;subst hx
    exact Ri n x s hp.1 hp.2
   ·have:q x=η:=aB hp
    rw[this]at hx;cases hx) e
abbrev dQ:Nat:=17592186044416
mutual
def fV(k:Int):aD->List Int
 |.mk kd f t l=>(if kd=k then[f]else[])++lP k l
def lP(k:Int):List aD->List Int
 |[]=>[]
 |p::l=>fV k p++lP k l
end
theorem Fq(k:Int)(p:aD):fV k p=(if p.kind=k then[p.aT]else[])++lP k p.args:=by cases p;rw[fV];rfl
mutual
theorem Jf(k:Int):∀p:aD,(fV k p).length<=bn p
 |.mk kd f t l=>by rw[fV,bn,Λ];have:=OX k l;split<;>simp<;>omega
theorem OX(k:Int):∀l:List aD,(lP k l).length<=cC l
 |[]=>by simp [lP,cC]
 |p::l=>by rw[lP,cC,Λ];have:=Jf k p;have:=OX k l;omega
end
end
section
open HP
abbrev Iv(v:AV)(l:List Int):HP:=Sl (fl aO) 1 v l
section
variable {an σ : Heap} {R : HP} {v : AV} {l : List Int}
theorem AG{B:aM->Prop}{x:Int}(hB:∀g g' seg,(seg=[]\/B (.arr g 1 seg))->B (.arr g' 1 (seg++[aO x])))(hl:l.length+1<=dQ)(H:Hs B an σ (Iv v l*R)):∃v' σ',wh 1 (140737488355328 / 8) v (.sl 1 [[.ah x]]) σ=δ (v',σ')/\Hs B an σ' (Iv v' (l++[x])*R):=
 KA (ys:=[aO x]) (xs:=[x]) (bO (show els (fl aO) [aO x] [x]*(Iv v l*R)=Iv v l*(els (fl aO) [aO x] [x]*R) by ac_rfl) (Cp.2 ⟨rfl,H⟩)) (by unfold dQ at hl;simpa using hl) hB
theorem Lb{m x:Int}{i:Nat}(hx:l[i]? =δ x)(H:Hs aP an σ (Iv v l*R)):
  ∃p σ',EY 1 v (.ah (i:Int))=δ p/\u7 p (aO m) σ=δ σ'/\Hs aP an σ' (Iv v (l.set i m)*R):=by
 obtain⟨p,F,e,h1,hC,K,back⟩:=R9 H hx;have he:e=aO x:=(rU.1 (dR K)).1;subst he;have K2:=dR (bO (show _=pr (aO x=aO x)*(F (aO x)*R) by rw[show fl aO (aO x) x=pr (aO x=aO x)from rfl];ac_rfl) K);obtain⟨σ',h2,K3⟩:=hC.st K2 (new:=aO m) (e':=aO m) rfl;refine⟨p,σ',h1,h2,back (e:=aO m) (bO (show pr (aO m=aO m)*(F (aO m)*R)=_ by rw[show fl aO (aO m) m=pr (aO m=aO m)from rfl];ac_rfl) (rU.2 ⟨rfl,K3⟩))⟩
theorem Ap(H:Hs aP an σ (Iv v l*R)):l5 v=δ v:=abJ H
theorem afE{dyn:Nat->aq->Heap->aG}{qo:AV}{p:Int->Bool}{v:AV}{l:List Int}(hl:l.length<1000000)(hg:∀id g n,A.gen [AV.os id g 1 0 n,qo]=g+n)
  (No:rD dyn [v,qo] σ=δ (.ah (mg p l),σ)) (wg:∀m∈l,∀s,Hs aP an s R->A.gP dyn qo [.ah m] s=δ (.bool (p m),s)) (H:Hs aP an σ (Sl (fl aO) 1 v l*R)):
  ∃v' σ',BA dyn v qo σ=δ (v',σ')/\Hs aP an σ' (Sl (fl aO) 1 v' (l.filter λm=>!p m)*R):=by
 unfold BA;rw[No,aL];rcases BY p l with⟨h1,h2,_⟩|⟨k,x,h1,h2,h3,_,h5⟩
 ·simp only[h1];rw[cv,aL,ga rfl,pR];have hf:(l.filter λm=>!p m)=l:=al7.2 λm hm=>by rw[h2 m hm];rfl
  rw[hf];rcases nF H with⟨rfl,hv,H'⟩|⟨id,g,rfl,K⟩
  ·rcases hv with rfl|rfl
   ·exact⟨_,_,rfl,ji H' (.inl rfl)⟩
   ·exact⟨_,_,rfl,ji H' (.inr rfl)⟩
  ·obtain⟨_,q2⟩:=dS K;obtain⟨v',s,e1,K2⟩:=Qe (qo:=qo) (k:=l.length) ((bB.1 q2).1) (bJ _) (bJ _) (hg _ _ _) K;rw[VZ]at K2;exact⟨v',s,e1,K2⟩
 ·have tQ:=(bB.1 h1).1;simp only[h3];rw[cv,aL,ia (by omega),mJ,Gq (by omega),aL];have hlv:WJ v=δ (.ah (l.length:Int)):=rR H
  have yT:(l.take (k+1)).filter (λm=>!p m)=l.take k:=by
   rw[u6,h1,Ym,ZE,al7.2 (λm hm=>?_)]
   ·simp [h2]
   ·obtain⟨j,hj⟩:=rX.1 hm;rw[X4]at hj;split at hj
    ·rename_i q;rw[h5 j m q hj];rfl
    ·cases hj
  suffices hb:∃b:AV×Heap,_=δ b/\Hs aP an b.2 (Sl (fl aO) 1 b.1 (l.filter λm=>!p m)*R) by obtain⟨⟨v',s'⟩,Nd,hb2⟩:=hb;exact⟨v',s',Nd,hb2⟩
  refine oL (Q:=λq=>∃(w:Nat)(cur:List Int)(y:AV),q.1=.exit 0/\q.2.1=[.ah (w:Int),y]/\w<=l.length/\cur.length=l.length/\cur.take w=l.filter (λm=>!p m)/\Hs aP an q.2.2 (Sl (fl aO) 1 v cur*R)) (kP (l.drop (k+1)) (λi vs s=>∃(w:Nat)(cur:List Int),vs=[.ah (w:Int),.ah ((k+1+i:Nat):Int)]/\w<=k+i/\cur.length=l.length/\cur.take w=(l.take (k+1+i)).filter (λm=>!p m)/\cur.drop (k+1+i)=l.drop (k+1+i)/\Hs aP an s (Sl (fl aO) 1 v cur*R)) ?_ ?_ ⟨k,l,rfl,by omega,rfl,yT.symm,rfl,H⟩) ?_
  ·rintro i m vs s hx ⟨w,cur,rfl,q1,q2,q3,q4,K⟩;have hi:=(bB.1 hx).1;rw[List.length_drop]at hi;rw[WI]at hx
   have hc:cur[k+1+i]? =δ m:=by have:=congrArg (λz:List Int=>z[0]?) q4;simp only[WI,Nat.add_zero]at this;rw[this,hx]
   have oq:(l.take (k+1+(i+1))).filter (λm=>!p m)=if p m=ι then(l.take (k+1+i)).filter (λm=>!p m)else(l.take (k+1+i)).filter (λm=>!p m)++[m]:=by rw[<-iV,u6,hx,Ym,ZE];simp only[Wy,List.filter_nil];cases p m<;>simp
   have G7:∀(z:List Int),z.drop (k+1+i)=l.drop (k+1+i)->z.drop (k+1+(i+1))=l.drop (k+1+(i+1)):=λz hz=>by have:=congrArg (List.drop 1) hz;rw[lV,lV]at this;rw[<-iV];exact this
   obtain⟨pm,f1,f2⟩:=xJ K hc;simp only[bW,eM];rw[hlv,aL,UK,aL,ga (by omega),pR,f1,aL,f2,aL,oI,aL,wg m (bR hx) s (dR K),aL,show Wc (.bool (p m))=δ (.bool (!p m))from rfl,aL];rw[oq];cases hp:p m
   ·obtain⟨y,hy⟩:∃y,cur[w]? =δ y:=⟨_,cA (by omega)⟩
    obtain⟨pp,s',e1,e2,K2⟩:=Lb (m:=m) hy K;rw[show(!θ)=ι from rfl,pR,e1,aL,show((l5 (.ah m)).bind λv=>δ [v])=δ (aO m)from rfl,aL,e2,aL,Gq (by omega),aL,aL];simp only[bW];rw[Gq (by omega),aL];refine⟨_,_,rfl,w+1,cur.set w m,by rw[iV],by omega,by rw[List.length_set];exact q2,?_,G7 _ (by rw[List.drop_set,aC (by omega)];exact q4),K2⟩;rw[aB (by decide),<-q3,u6,iU (by omega),List.take_set_of_le (bJ w)];rfl
   ·rw[show(!ι)=θ from rfl,mJ,aL];simp only[bW];rw[Gq (by omega),aL];exact⟨_,_,rfl,w,cur,by rw[iV],by omega,q2,by rw[aC trivial];exact q3,G7 cur q4,K⟩
  ·rintro vs s ⟨w,cur,rfl,q1,q2,q3,q4,K⟩;have jB:k+1+(l.drop (k+1)).length=l.length:=by rw[List.length_drop];omega
   have q1':w<=l.length:=by omega
   rw[jB]at q3 q4 ⊢;rw[VZ]at q3;simp only[bW,eM];rw[hlv,aL,UK,aL,ia (by omega),mJ];exact⟨_,rfl,by simp,w,cur,_,rfl,rfl,q1',q2,q3,K⟩
  ·rintro⟨e,vs,s⟩ ⟨w,cur,y,h1',h2',q1,q2,q3,K⟩;simp only at h1' h2' K;subst h1';subst h2';simp only[U7,bW];rcases nF K with⟨hn,_,_⟩|⟨id,g,rfl,K9⟩
   ·subst hn;simp at q2;omega
   rcases nF H with⟨hn,_,_⟩|⟨fR,g0,hv0,K0⟩
   ·subst hn;simp at tQ
   have hid:id<σ.length:=by
    obtain⟨_,r2⟩:=dS K0;have:=(bB.1 r2).1;injection hv0 with j1 j2 j3 j4 j5
    omega
   obtain⟨_,r2⟩:=dS K9;have fQ:(cur.map aO).length=cur.length:=by simp
   rw[N2 (JU r2 (by omega)) KK (KL (k:=w) (by omega)),aL];obtain⟨AR,jO⟩:∃c2,c2=cur.take w++e8 (cur.length-w) (0:Int):=⟨_,rfl⟩
   have oh:AR.length=cur.length:=by rw[jO];simp;omega
   have ht2:AR.take w=cur.take w:=by rw[jO,am6 (by simp;omega),List.take_take,Nat.min_self]
   have clr:∃s2,A.xG 1 [(ε 0)] (.os id g 1 (0+w) (cur.length-w)) s=δ s2/\Hs aP an s2 (blk id (.arr g 1 (AR.map aO))*R):=by
    by_cases hw:cur.length-w=0
    ·have e:AR=cur:=by rw[jO,hw,List.replicate_zero,X0,lW (by omega)]
     refine⟨s,?_,by rw[e];exact K9⟩;simp only[A.xG,r2];rw[aC (by simp;omega),aC hw]
    ·refine⟨s.set id (.arr g 1 (AR.map aO)),?_,pN K9 trivial⟩;simp only[A.xG,r2];rw[aC (by simp;omega),aB hw]
     have e:(cur.map aO).take (0+w)++e8 (cur.length-w) [(ε 0)]++(cur.map aO).drop (0+w+(cur.length-w))=AR.map aO:=by rw[Gs,show w+(cur.length-w)=cur.length by omega,List.drop_of_length_le (by simp),X0,jO,Tm,al4,List.map_replicate];rfl
     rw[e]
   obtain⟨s2,e1,K3⟩:=clr;obtain⟨_,r3⟩:=dS K3;rw[e1,aL,N2 (JU r3 (by simp;omega)) (KL (k:=w) (by simp;omega)) KK,aL];obtain⟨v',s',e2,K4⟩:=Qe (qo:=qo) (k:=w) hid (by omega) (by omega) (hg _ _ _) K3;rw[oh]at e2;refine⟨(v',s'),e2,?_⟩;rw[ht2,q3]at K4;exact K4
end
end
section
open HP
section
variable {an σ : Heap} {R : HP} {v : AV} {l : List Int}
def A8(l cur:List Int)(i:Nat):Prop:=cur.length=l.length/\∀k,k<l.length->cur[k]? =if k<i\/l.length<=k+i then l[l.length-1-k]? else l[k]?
theorem A8.fin{l cur:List Int}(h:A8 l cur (l.length / 2)):cur=l.reverse:=by
 apply List.ext_getElem?;intro k;by_cases hk:k<l.length
 ·rw[h.2 k hk,List.getElem?_reverse hk];split
  ·rfl
  ·congr 1;omega
 ·rw[iW (by have:=h.1;omega),iW (by simp;omega)]
theorem A8.step{l cur:List Int}{i:Nat}{a b:Int}(h:A8 l cur i)(hi:2*i+1<l.length)(ha:cur[i]? =δ a)(hb:cur[l.length-1-i]? =δ b):A8 l ((cur.set i b).set (l.length-1-i) a) (i+1):=by
 have ha':l[i]? =δ a:=by rw[<-ha,h.2 i (by omega),aB (by omega)]
 have hb':l[l.length-1-i]? =δ b:=by rw[<-hb,h.2 _ (by omega),aB (by omega)]
 refine⟨by simp [h.1],λk hk=>?_⟩;by_cases h1:k=l.length-1-i
 ·rw[h1,iU (by simp [h.1];omega),aC (by omega),show l.length-1-(l.length-1-i)=i by omega,ha']
 ·rw[u9 (by omega)];by_cases h2:k=i
  ·rw[h2,iU (by rw[h.1];omega),aC (by omega),hb']
  ·rw[u9 (by omega),h.2 k hk];by_cases h3:k<i\/l.length<=k+i
   ·rw[aC h3,aC (by omega)]
   ·rw[aB h3,aB (by omega)]
theorem La(hl:l.length<=1000000000000)(H:Hs aP an σ (Iv v l*R)):∃σ',wY [v] σ=δ (.aN [],σ')/\Hs aP an σ' (Iv v l.reverse*R):=by
 have hlv:WJ v=δ (.ah (l.length:Int)):=rR H
 have Cy:∃q,s9 ((λv3 s4=>
   (p9 (aj v3 0) (aj v3 1)).bind λx6=>
   χ x6 (
    (EY 1 v (aj v3 1)).bind λx7=>
    ((ψ x7 s4).bind λc8=>Θ 0 c8).bind λx9=>
    (EY 1 v (aj v3 0)).bind λbE=>
    ((ψ bE s4).bind λfH=>Θ 0 fH).bind λdB=>
    (EY 1 v (aj v3 0)).bind λcg=>
    ((l5 x9).bind λv=>δ [v]).bind λiu=>
    (u7 cg iu s4).bind λgA=>
    (EY 1 v (aj v3 1)).bind λcu=>
    ((l5 dB).bind λv=>δ [v]).bind λkq=>
    (u7 cu kq gA).bind λiL=>
    (o7 (aj v3 0) (ε 1)).bind λck=>
    (Yd (aj v3 1) (ε 1)).bind λeW=>
    δ (ir,[ck,eW],iL)) (
    δ (Γ 0,[(aj v3 0),(aj v3 1)],s4)))) [.ah 0,.ah ((l.length:Int) -1)] σ=δ q/\(q.1=.exit 0/\Hs aP an q.2.2 (Iv v l.reverse*R)):=by
  refine kP (ami (l.length / 2)) (λi w s=>w=[.ah (i:Int),.ah ((l.length:Int) -1-(i:Int))]/\∃cur,A8 l cur i/\Hs aP an s (Iv v cur*R)) ?_ ?_ ⟨by simp,l,⟨rfl,λk hk=>by rw[aB (by omega)]⟩,H⟩
  ·rintro i x w s hx ⟨rfl,cur,hc,K⟩;have hi:=(bB.1 hx).1;rw[List.length_range]at hi;have fQ:=hc.1;have hij:((l.length:Int) -1-(i:Int))=((l.length-1-i:Nat):Int):=by omega
   rw[hij];obtain⟨a,ha⟩:∃a,cur[i]? =δ a:=⟨_,cA (by omega)⟩
   obtain⟨b,hb⟩:∃b,cur[l.length-1-i]? =δ b:=⟨_,cA (by omega)⟩
   obtain⟨p1,f1,f2⟩:=xJ K hb;obtain⟨p2,g1,g2⟩:=xJ K ha;obtain⟨p3,s1,h1,h2,K1⟩:=Lb (m:=b) ha K;obtain rfl:p2=p3:=amD (g1.symm.trans h1);have Nd:(cur.set i b)[l.length-1-i]? =δ b:=by rw[u9 (by omega)];exact hb
   obtain⟨p4,s2,h3,h4,K2⟩:=Lb (m:=a) Nd K1;obtain rfl:p1=p4:=amD (f1.symm.trans h3);have a1:p9 (.ah (i:Int)) (.ah ((l.length-1-i:Nat):Int))=δ (.bool ι):=by rw[qc,ga (by omega)]
   have a2:o7 (.ah (i:Int)) (.ah 1)=δ (.ah ((i+1:Nat):Int)):=acS (by omega)
   have a3:Yd (.ah ((l.length-1-i:Nat):Int)) (.ah 1)=δ (.ah ((l.length:Int) -1-((i+1:Nat):Int))):=by rw[AP,dY (by unfold bA;omega)];congr 2;omega
   have c1:∀n:Int,((l5 (.ah n)).bind λv=>δ [v])=δ (aO n):=λ_=>rfl
   refine⟨_,s2,?_,rfl,_,hc.step (by omega) ha hb,K2⟩;simp only[bW,eM,a1,bS,cT,f1,f2,g1,g2,oI,c1,h2,h4,a2,a3]
  ·rintro w s ⟨rfl,cur,hc,K⟩;rw[List.length_range]at hc ⊢;have a1:p9 (.ah ((l.length / 2:Nat):Int)) (.ah ((l.length:Int) -1-((l.length / 2:Nat):Int)))=δ (.bool θ):=by rw[qc,ia (by omega)]
   rw[hc.fin]at K;refine⟨(.exit 0,[.ah ((l.length / 2:Nat):Int),.ah ((l.length:Int) -1-((l.length / 2:Nat):Int))],s),?_,by simp,rfl,K⟩;simp only[bW,eM,a1,bS,cF]
 obtain⟨⟨qa,qv,s4⟩,e4,rfl,K⟩:=Cy;refine⟨s4,?_,K⟩;have a0:Yd (.ah (l.length:Int)) (.ah 1)=δ (.ah ((l.length:Int) -1)):=by rw[AP,dY (by unfold bA;omega)]
 have e:zB v σ=δ (.aN [],s4):=by unfold zB;simp only[hlv,bS,a0,e4,mu]
 show Φ θ [] .k (XJ zB) [v] σ=_;unfold Φ;rw[Wt,aS];show(zB v σ).map _=_;rw[e];rfl
theorem afD(hl:l.length<=dQ)(H:Hs aP an σ R):∃v σ',vK [sl 1 aO l] σ=δ (v,σ')/\l5 v=δ v/\Hs aP an σ' (Iv v l*R):=
 Rj (r:=λ_ _=>η) (most:=140737488355328 / 8) rfl (λ_ _=>rfl) (by unfold dQ at hl;omega) (λ_ _ _ _=>trivial) H
theorem ac1(hl:l.length<=dQ)(h0:l≠[]):KS (Φ ι [(.s 1)] .k (XJ EL)) [sl 1 aO l] aO 1 l:=by intro an σ R H;obtain⟨x,xs,rfl⟩:=List.exists_cons_of_ne_nil h0;obtain⟨v,σ',e,_,K⟩:=Rj (r:=λ_ _=>η) (B:=mw) (c:=aO) (sz:=1) (l:=x::xs) (most:=140737488355328 / 8) (m:=vK) rfl (λ_ _=>rfl) (by unfold dQ at hl;omega) (Rs (λ_=>rfl) _) H;exact⟨v,σ',e,K⟩
theorem aaI(hl:l.length<=dQ)(H:Hs aP an σ (Iv v l*R)):∃v' σ',vK [v] σ=δ (v',σ')/\Hs aP an σ' (Iv v' l*(Iv v l*R)):=by
 rcases nF H with⟨rfl,hv,K⟩|⟨id,g,rfl,K⟩
 ·refine⟨.ez,σ,?_,ji H (.inr rfl)⟩;rcases hv with rfl|rfl<;>rfl
 ·by_cases h0:l=[]
  ·subst h0;exact⟨.ez,σ,rfl,ji H (.inr rfl)⟩
  ·obtain⟨v',σ',e1,K1⟩:=CB (B:=aP) (λ_ _=>trivial) (cm:=[.s 1]) (r:=XJ EL) (uP:=[.os id g 1 0 l.length]) (ts:=[sl 1 aO l]) ⟨AH pK H,trivial⟩ (ac1 hl h0) H;refine⟨v',σ',?_,K1⟩
   obtain⟨n,hn⟩:∃n,l.length=n+1:=by
    cases h:l with
    |nil=>exact absurd h h0
    |cons b l=>exact⟨l.length,rfl⟩
   rw[hn]at e1 ⊢;exact e1
def ig:aq->List Int->HP:=λe x=>ex λh=>pr (e=[h])*Iv h x
theorem UG{B:aM->Prop}{e:aq}{x:List Int}(H:Hs B an σ (ig e x*R)):∃h,e=[h]/\Hs B an σ (Iv h x*R):=by obtain⟨h,H⟩:=TB.1 (show Hs B an σ (ex (λh=>pr (e=[h])*Iv h x)*R)from H);rw[qG,rU]at H;exact⟨h,H.1,H.2⟩
theorem R7{B:aM->Prop}{h:AV}{x:List Int}(H:Hs B an σ (Iv h x*R)):Hs B an σ (ig [h] x*R):=by refine(TB (P:=λh'=>pr ([h]=[h'])*Iv h' x)).2 ⟨h,?_⟩;rw[qG,rU];exact⟨rfl,H⟩
theorem adi{B:aM->Prop}{h:AV}{x:List Int}(H:Hs B an σ (Iv h x*R)){n:Nat}(hn:n<=an.length)(d:Nat):∃h',Ya σ n (d+1) h=δ h'/\CH (h',x.map aO):=by
 rcases nF H with⟨rfl,hv,K⟩|⟨id,g,rfl,K⟩
 ·rcases hv with rfl|rfl
  ·exact⟨.aH,by simp [Ya],rfl,λ_=>rfl,rfl⟩
  ·exact⟨.ez,by simp [Ya],rfl,λ_=>rfl,rfl⟩
 ·obtain⟨h1,h2⟩:=dS K;exact⟨sl 1 aO x,Kq pK h2 (by omega) d,by simp [sl,WJ],λ_=>by simp [sl,WZ],rfl⟩
theorem R8{B:aM->Prop}:∀{seg:List aq}{ls:List (List Int)}{R:HP},Hs B an σ (els ig seg ls*R)->∀{n:Nat},n<=an.length->∀(d:Nat),∃L:List sj,A.iA σ n (d+1) seg=δ (L.map uB)/\(∀p∈L,CH p)/\kD L=ls.flatten.map aO/\L.length=ls.length
 |[],[],R,H,n,hn,d=>⟨[],by simp [A.iA],(by simp),rfl,rfl⟩
 |[],_::_,R,H,n,hn,d=>(rU.1 H).1.elim
 |_::_,[],R,H,n,hn,d=>(rU.1 H).1.elim
 |e::seg,x::l,R,H,n,hn,d=>by
  rw[els,qG]at H;obtain⟨h,rfl,K⟩:=UG H;obtain⟨h',h1,h3⟩:=adi K hn d;obtain⟨L,k1,k2,k3,k4⟩:=R8 (dR H) hn d;refine⟨(h',x.map aO)::L,by simp [A.iA,XT,h1,k1,uB],λp hp=>?_,?_,by simp [k4]⟩
  ·rcases eo.1 hp with rfl|hp
   ·exact h3
   ·exact k2 p hp
  ·rw[kD,bU,WK,WK,Tm,<-k3]
theorem adW{va:AV}{ls:List (List Int)}(hl:ls.length<=bD)(hf:ls.flatten.length<=4398046511104)(H:Hs aP an σ (Sl ig 1 va ls*R)):∃v σ',EG [va] σ=δ (v,σ')/\Hs aP an σ' (Iv v ls.flatten*(Sl ig 1 va ls*R)):=by
 rcases Ao H with⟨rfl,hv,K⟩|⟨id,g,seg,rfl,jR,K⟩
 ·obtain⟨v,σ',e,K1⟩:=Km (L:=[]) (l:=[]) (by simp) (jK _) (jK _) rfl σ σ emp (AF σ);obtain⟨v',ai6,e',K2⟩:=TD (B:=aP) (λ_ _=>trivial) (Km (L:=[]) (l:=[]) (by simp) (jK _) (jK _) rfl) H;refine⟨v',ai6,?_,K2⟩;have h0:([va]:aq).any Z2=θ:=by rcases hv with rfl|rfl<;>rfl
  exact(xF (args':=[sl 1 uB []]) (by rcases hv with rfl|rfl<;>rfl) h0 rfl).trans e'
 ·obtain⟨L,k1,k2,k3,k4⟩:=R8 (bO (show _=els ig seg ls*(blk id (.arr g 1 seg)*R) by ac_rfl) K) (jK _) 6;obtain⟨_,h2⟩:=dS K
  have hfz:Ya σ 0 8 (.os id g 1 0 ls.length)=δ (sl 1 uB L):=by simp only[Ya,aB (show ¬id<0 by omega),h2];rw[aC (by simp;omega),Xm,lW (by omega),Aj,k1];rfl
  exact CB (B:=aP) (λ_ _=>trivial) (cm:=[.s 1]) (r:=XJ wZ) (uP:=[.os id g 1 0 ls.length]) (ts:=[sl 1 uB L]) ⟨⟨⟨_,hfz,rfl,rfl⟩,rfl,λho=>by cases ho⟩,trivial⟩ (Km k2 (by omega) hf k3) H
end
end
section
theorem Iu:∀(l:List aD)(x:aD),gj (l++[x])=gj l++gO x
 |[],x=>by simp [gj]
 |p::l,x=>by rw[iI,gj,gj,Iu l x,nR]
theorem Qd(p:aD):gO p=(if p.kind=2\/p.kind=3 then[(p.kind,p.aT)]else[])++gj p.args:=by cases p;rw[gO];rfl
section
variable {S : Type} {dyn : Nat -> aq -> Heap -> aG} {c : AV} (I : S -> Heap -> Prop) (step : S -> Int × Int -> S)
theorem Ki{sz:S->Nat}(hz:∀s x,sz (step s x)<=sz s+1):∀(l:List (Int×Int))(s:S),sz (l.foldl step s)<=sz s+l.length
 |[],s=>by simp
 |x::l,s=>by rw[Zc,b9];have:=Ki hz l (step s x);have:=hz s x;omega
theorem akt(l:List aD)(i:Nat):(gj (l.take i)).length<=(gj l).length:=by
 have:∀(a b:List aD),gj (a++b)=gj a++gj b:=by
  intro a b;induction a with
  |nil=>simp [gj]
  |cons x a ih=>rw[iI,gj,gj,ih,nR]
 have h:=this (l.take i) (l.drop i);rw[WD]at h;rw[h,Λ];omega
theorem Kc{sz:S->Nat}(N:Nat)(hz:∀s x,sz (step s x)<=sz s+1)(hstep:∀s kd nm σ,sz s<N->I s σ->∃v σ',A.gP dyn c [.ah kd,.ah nm] σ=δ (v,σ')/\I (step s (kd,nm)) σ'):∀(n:Nat)(p:aD)(σ:Heap)(s:S),dK p<=n->bn p<=qX->sz s+(gO p).length<=N->I s σ->
  ∃σ',fuel (sO dyn) n 41 [.agg (aF p),c] σ=δ (.aN [],σ')/\I ((gO p).foldl step s) σ'
 |0,p,σ,s,h,_,_,_=>by have:=B2 p;omega
 |n+1,p,σ,s,h,hs,hN,hI=>by
  rw[Qd,Λ]at hN;have hd:=Sn h;have hr:fuel (sO dyn) (n+1) 41 [.agg (aF p),c] σ=(Φ θ [] .k (XQ (xq (fuel (sO dyn) n) dyn))) [.agg (aF p),c] σ:=rfl
  have hw:∀σ',xq (fuel (sO dyn) n) dyn (.agg (aF p)) c σ=δ (.aN [],σ')->(Φ θ [] .k (XQ (xq (fuel (sO dyn) n) dyn))) [.agg (aF p),c] σ=δ (.aN [],σ'):=by intro σ' e;unfold Φ;rw[Wt,aS];show(xq (fuel (sO dyn) n) dyn (.agg (aF p)) c σ).map _=_;rw[e];rfl
  have oo:∃σ1,(χ (.bool (decide (p.kind=2\/p.kind=3))) ((Θ 0 (aF p)).bind λx8=>(Θ 1 (aF p)).bind λx9=>(A.gP dyn c [x8,x9] σ).bind λpE=>δ ([(Z4 (aF p))],pE.2)) (δ ([(Z4 (aF p))],σ)))=δ ([(Z4 (aF p))],σ1)/\I ((if p.kind=2\/p.kind=3 then[(p.kind,p.aT)]else[]).foldl step s) σ1:=by
   by_cases hk:p.kind=2\/p.kind=3
   ·obtain⟨v,σ1,e1,h1⟩:=hstep s p.kind p.aT σ (by rw[aC hk,YA]at hN;omega) hI;refine⟨σ1,?_,by rw[aC hk];exact h1⟩;rw[ga hk];rw[show Θ 0 (aF p)=δ (.ah p.kind) by rw[aA];rfl,show Θ 1 (aF p)=δ (.ah p.aT) by rw[aA];rfl];simp only[χ,bg,aL,e1]
   ·refine⟨σ,?_,by rw[aB hk];exact hI⟩;rw[ia hk];rfl
  obtain⟨σ1,e1,h1⟩:=oo
  have Cy:∃q,s9 ((λvE ud=>
   (p9 (aj vE 0) (.ah (p.args.length:Int))).bind λdW=>
   χ dW (
    (EY 4 (sl 4 aF p.args) (aj vE 0)).bind λck=>
    ((ψ ck ud).bind λkr=>Ze 0 4 kr).bind λdA=>
    (i7 4 dA).bind λqj=>
    (y9 0 qj [(ε 0),(ε 0),(ε 0),Ju]).bind λql=>
    (Ze 0 4 ql).bind λx24=>
    ((fuel (sO dyn) n) 41 [x24,c] ud).bind λqZ=>
    (o7 (aj vE 0) (ε 1)).bind λfS=>
    δ (ir,[fS],qZ.2)) (
    δ (Γ 0,[(aj vE 0)],ud)))) [.ah 0] σ1=δ q/\(∃u,q.1=.exit 0/\q.2.1=[u]/\I ((gO p).foldl step s) q.2.2):=by
   refine kP p.args (λi v σ=>v=[.ah (i:Int)]/\I ((gj (p.args.take i)).foldl step ((if p.kind=2\/p.kind=3 then[(p.kind,p.aT)]else[]).foldl step s)) σ) ?_ ?_ ⟨rfl,by simpa [gj]using h1⟩
   ·rintro i x v σ2 hx ⟨rfl,G3⟩;have hm:=bR hx;have DS:=o8 (zY hm) hd
    obtain⟨σ3,e3,h3⟩:=Kc N hz hstep n x σ2 _ DS (by have:=B3 hm;omega) (by
     have ht:p.args.take (i+1)=p.args.take i++[x]:=by rw[u6,hx];rfl
     have h1:=akt p.args (i+1);rw[ht,Iu,Λ]at h1;have h2:=Ki step hz (gj (p.args.take i)) ((if p.kind=2\/p.kind=3 then[(p.kind,p.aT)]else[]).foldl step s);have h3:=Ki step hz (if p.kind=2\/p.kind=3 then[(p.kind,p.aT)]else[]) s
     omega) G3
    refine⟨_,σ3,?_,rfl,by
     have ht:p.args.take (i+1)=p.args.take i++[x]:=by rw[u6,hx];rfl
     rw[ht,Iu,ZL];exact h3⟩
    have a1:p9 (.ah (i:Int)) (.ah (p.args.length:Int))=δ (.bool ι):=fJ hx;have a2:o7 (.ah (i:Int)) (.ah 1)=δ (.ah ((i+1:Nat):Int)):=fM hx (J3 hs);have a3:EY 4 (sl 4 aF p.args) (.ah (i:Int))=δ (.rp (aF x)):=gm hx;simp only[bW,a1,a2,a3,bS,χ,bg,mQ,ur,sU,qI _ _ (rfl:([(ε 0),(ε 0),(ε 0),Ju]:aq).length=4),e3]
   ·rintro v σ2 ⟨rfl,G3⟩;refine⟨(.exit 0,[.ah (p.args.length:Int)],σ2),?_,by simp,_,rfl,rfl,?_⟩
    ·simp only[bW,fL,bS,χ,aS]
    ·rw[VZ]at G3;rw[Qd,ZL];exact G3
  obtain⟨⟨qa,qv,wX⟩,e4,u,rfl,rfl,h4⟩:=Cy;refine⟨wX,hr.trans (hw _ ?_),h4⟩;unfold xq;have g0:Θ 0 (aF p)=δ (.ah p.kind):=by rw[aA];rfl
  have k1:Θ 3 (aF p)=δ (sl 4 aF p.args):=by rw[aA];rfl
  by_cases hk:p.kind=2
  ·have hk':decide (p.kind=2\/p.kind=3)=ι:=ga (.inl hk);rw[hk']at e1;simp only[g0,bS]at e1;simp only[sU,bS,g0,cv,ga hk,Vb,Hu,e1,bW,wK,k1,dh,e4,mu]
  ·have hk':decide (p.kind=2\/p.kind=3)=decide (p.kind=3):=by simp [hk]
   rw[hk']at e1;simp only[g0,bS]at e1;simp only[sU,bS,g0,cv,ia hk,gF,D1,e1,bW,wK,k1,dh,e4,mu]
end
end
section
def tM(σ:Heap)(lo hi:Nat)(v:AV)(xs:List Int):Prop:=(v=.aH/\xs=[])\/∃id g,v=.os id g 1 0 xs.length/\lo<=id/\id<hi/\σ[id]? =δ (.arr g 1 (xs.map aO))/\xs≠[]
theorem tM.mono{σ σ':Heap}{lo hi lo' hi':Nat}{v:AV}{xs:List Int}(h:tM σ lo hi v xs)(h1:lo'<=lo)(h2:hi<=hi')(hk:∀i,lo<=i->i<hi->σ'[i]? =σ[i]?):tM σ' lo' hi' v xs:=by
 rcases h with h|⟨id,g,e,a,b,c,d⟩
 ·exact .inl h
 ·exact .inr ⟨id,g,e,by omega,by omega,by rw[hk id a b];exact c,d⟩
theorem tM.br{σ:Heap}{lo hi n:Nat}{v:AV}{xs:List Int}(h:tM σ lo hi v xs)(hn:n<=lo)(d:Nat):Ya σ n (d+1) v=δ (kZ 1 aO xs):=by
 rcases h with⟨rfl,rfl⟩|⟨id,g,rfl,a,b,c,e⟩
 ·exact ac7 σ n (d+1)
 ·rw[aci e];simp only[Ya,Nat.not_lt.2 (o8 hn a),if_false,c];rw[aC (by simp),Aj,Xm,lW (by simp),LC pK];rfl
theorem acU{σ:Heap}{lo hi:Nat}{v:AV}{xs:List Int}{x:Int}(h:tM σ lo hi v xs)(hlo:lo<=hi)(hhi:hi<=σ.length)(hm:xs.length+1<=dQ):∃v' σ',wh 1 (140737488355328 / 8) v (.sl 1 [[.ah x]]) σ=δ (v',σ')/\tM σ' lo (σ'.length) v' (xs++[x])/\σ.length<=σ'.length/\(∀i,i<lo->i<σ.length->σ'[i]? =σ[i]?):=by
 rcases h with⟨rfl,rfl⟩|⟨id,g,rfl,a,b,c,e⟩
 ·refine⟨.os σ.length 1 1 0 1,σ++[.arr 1 1 [[.ah x]]],rfl,.inr ⟨σ.length,1,rfl,by omega,by simp,by simp [aO],by simp⟩,by simp,λi h1 h2=>by rw[fZ h2]⟩
 ·refine⟨.os id (g+1) 1 0 (xs.length+1),σ.set id (.arr (g+1) 1 (xs.map aO++[[.ah x]])),?_,.inr ⟨id,g+1,by simp,a,by simp;omega,?_,by simp⟩,by simp,λi h1 h2=>?_⟩
  ·unfold dQ at hm;have e1:WZ 1 (.sl 1 [[.ah x]]) σ=δ [[.ah x]]:=rfl;simp only[wh,e1,aL,A.kM,c];rw[aC (by simp;omega),aB (by simp),aB (by simp),Xm,lW (by simp)];simp
  ·rw[iU (by omega)];simp [aO]
  ·rw[u9 (by omega)]
def nU(σ:Heap)(lo hi:Nat):List (Int×AV)->List bG->Prop
 |[],[]=>True
 |p::E,g::l=>p.1=g.aI/\tM σ lo hi p.2 (fV 2 g.pick)/\nU σ lo hi E l
 |_,_=>False
theorem nU.mono{σ σ':Heap}{lo hi hi':Nat}(h2:hi<=hi')(hk:∀i,lo<=i->i<hi->σ'[i]? =σ[i]?):∀{E:List (Int×AV)}{l:List bG},nU σ lo hi E l->nU σ' lo hi' E l
 |[],[],_=>trivial
 |p::E,g::l,h=>⟨h.1,h.2.1.mono (bJ _) h2 hk,h.2.2.mono h2 hk⟩
 |[],_::_,h=>h.elim
 |_::_,[],h=>h.elim
theorem nU.snoc{σ:Heap}{lo hi:Nat}{p:Int×AV}{g:bG}(h1:p.1=g.aI)(h2:tM σ lo hi p.2 (fV 2 g.pick)):∀{E:List (Int×AV)}{l:List bG},nU σ lo hi E l->nU σ lo hi (E++[p]) (l++[g])
 |[],[],_=>⟨h1,h2,trivial⟩
 |q::E,x::l,h=>⟨h.1,h.2.1,h.2.2.snoc h1 h2⟩
 |[],_::_,h=>h.elim
 |_::_,[],h=>h.elim
theorem nU.keys{σ:Heap}{lo hi:Nat}:∀{E:List (Int×AV)}{l:List bG},nU σ lo hi E l->E.map (·.1)=l.map bG.aI
 |[],[],_=>rfl
 |p::E,g::l,h=>by rw[bU,bU,h.1,h.2.2.keys]
 |[],_::_,h=>h.elim
 |_::_,[],h=>h.elim
def gq(l:List bG):List (Int×List Int):=l.map λg=>(g.aI,fV 2 g.pick)
abbrev eI(E:List (Int×AV)):List (AV×AV):=E.map λp=>(.ah p.1,p.2)
theorem ad7(k:Int)(E:List (Int×AV)):ZD .i (.ah k) (eI E)=δ (aV k E):=
 (sZ (eK:=λx:Int=>ε x) (eV:=id) (kN _) k E).trans (by simp)
theorem UL(k:Int)(v:AV)(E:List (Int×AV)):A.upd .i (.ah k) v (eI E)=δ (eI (eu k v E)):=wo (eK:=λx:Int=>ε x) (eV:=id) (kN _) k v E
theorem nU.br{σ:Heap}{lo hi n:Nat}(hn:n<=lo)(d:Nat):∀{E:List (Int×AV)}{l:List bG},nU σ lo hi E l->A.rT σ n (d+1) (eI E)=δ ((gq l).map λp=>(.ah p.1,kZ 1 aO p.2))
 |[],[],_=>by simp [A.rT,gq]
 |p::E,g::l,h=>by have h1:=h.2.1.br hn d;have h2:=h.2.2.br hn d;have h3:Ya σ n (d+1) (.ah p.1)=δ (.ah p.1):=pM _ _ σ n (d+1);simp only[eI,bU,A.rT,h3,h1,aL,gq]at h2 ⊢;rw[h2,h.1];rfl
 |[],_::_,h=>h.elim
 |_::_,[],h=>h.elim
theorem PF{ν:Type}{k:Int}{v:ν}:∀{E:List (Int×ν)},k∉E.map (·.1)->aV k (E++[(k,v)])=δ v
 |[],_=>by simp [aV]
 |p::E,h=>by simp only[bU,eo,not_or]at h;rw[iI,aV,aB h.1,PF h.2]
theorem Qr{ν:Type}{k:Int}{v v':ν}:∀{E:List (Int×ν)},k∉E.map (·.1)->eu k v' (E++[(k,v)])=E++[(k,v')]
 |[],_=>by simp [eu]
 |p::E,h=>by simp only[bU,eo,not_or]at h;rw[iI,eu,aB h.1,Qr h.2];rfl
theorem FM{ν:Type}{k:Int}{v:ν}:∀{E:List (Int×ν)},k∉E.map (·.1)->eu k v E=E++[(k,v)]
 |[],_=>by simp [eu]
 |p::E,h=>by simp only[bU,eo,not_or]at h;rw[eu,aB h.1,FM h.2];rfl
structure UI (an : Heap) (E : List (Int × AV)) (done : List bG) (g : bG) (b : Nat) (xs : List Int) (σ : Heap) : Prop where
 pre:σ.take an.length=an
 len:b<σ.length
 lo:an.length+2<=b
 map:∃v,σ[an.length]? =δ (.map (eI (E++[(g.aI,v)])))/\tM σ (b+1) σ.length v xs
 U6:nU σ (an.length+2) b E done
 box:σ[an.length+1]? =δ (.box [.om an.length])
 Vp:σ[b]? =δ (.box (bV g))
 new:g.aI∉E.map (·.1)
def xP(xs:List Int)(p:Int×Int):List Int:=if p.1=2 then xs++[p.2]else xs
theorem PG:∀(l:List (Int×Int))(xs:List Int),l.foldl xP xs=xs++(l.filter λp=>decide (p.1=2)).map (·.2)
 |[],xs=>by simp
 |p::l,xs=>by rw[Zc,PG l];by_cases h:p.1=2<;>simp [xP,h]
mutual
theorem Pm:∀p:aD,((gO p).filter λx=>decide (x.1=2)).map (·.2)=fV 2 p
 |.mk k f t l=>by
  rw[gO,fV,ZE,Tm,OZ l];congr 1;by_cases h:k=2
  ·simp [h]
  ·by_cases h3:k=3<;>simp [h,h3]
theorem OZ:∀l:List aD,((gj l).filter λx=>decide (x.1=2)).map (·.2)=lP 2 l
 |[]=>by simp [gj,lP]
 |p::l=>by rw[gj,lP,ZE,Tm,Pm p,OZ l]
end
theorem abn{σ an:Heap}(h:σ.take an.length=an):∀i,i<an.length->σ[i]? =an[i]? :=λi hi=>by have:=congrArg (λl=>l[i]?) h;simp only[X4,hi,if_true]at this;exact this
theorem JH{σ σ' an:Heap}(h:σ.take an.length=an)(hk:∀i,i<an.length->σ'[i]? =σ[i]?):σ'.take an.length=an:=by
 apply List.ext_getElem?;intro i;by_cases hi:i<an.length
 ·rw[X4,aC hi,hk i hi,abn h i hi]
 ·rw[X4,aB hi,iW (by omega)]
theorem ad8{an:Heap}{E:List (Int×AV)}{done:List bG}{g:bG}{b:Nat}{xs:List Int}(kd nm:Int){σ:Heap}(hm:xs.length+1<=dQ)(H:UI an E done g b xs σ):∃v σ',A.gP (U8 (λ_ _=>η) [(40,sM)]) (.fn 40 [.op (an.length+1) 0,.op b 0]) [.ah kd,.ah nm] σ=δ (v,σ')/\UI an E done g b (xP xs (kd,nm)) σ':=by
 have hw:∀σ',zF (.ah kd) (.ah nm) (.op (an.length+1) 0) (.op b 0) σ=δ (.aN [],σ')->A.gP (U8 (λ_ _=>η) [(40,sM)]) (.fn 40 [.op (an.length+1) 0,.op b 0]) [.ah kd,.ah nm] σ=δ (.aN [],σ'):=by intro σ' e;show Φ θ [] .k (A.qT EO) [.ah kd,.ah nm,.op (an.length+1) 0,.op b 0] σ=_;unfold Φ;rw[Wt,aS];show(zF (.ah kd) (.ah nm) (.op (an.length+1) 0) (.op b 0) σ).map _=_;rw[e];rfl
 by_cases hk:kd=2
 ·obtain⟨v,hmap,hv⟩:=H.map;have hlen:=H.len;have hlo:=H.lo;obtain⟨v',σ1,e1,h1,h2,h3⟩:=acU (x:=nm) hv (by omega) (bJ _) hm;have g1:∀i,i<=b->σ1[i]? =σ[i]? :=λi hi=>h3 i (by omega) (by omega)
  have d1:ψ (.op (an.length+1) 0) σ=δ [.om an.length]:=by simp [ψ,H.box]
  have d2:ψ (.op b 0) σ=δ (bV g):=by simp [ψ,H.Vp]
  have f2:WN 0 (.op b 0)=δ (.op b 0):=rfl
  have l1:Z8 .i (.om an.length) (.ah g.aI) .aH σ=δ v:=by
   have:ZD .i (.ah g.aI) (eI (E++[(g.aI,v)]))=δ (δ v):=by rw[ad7,PF H.new]
   simp only[Z8,A.eY,bg,W9,hmap,aL,this,dL,Y6]
  have u1:Z9 .i (.om an.length) (.ah g.aI) v' σ1=δ (σ1.set an.length (.map (eI (E++[(g.aI,v')])))):=by
   have:A.upd .i (.ah g.aI) v' (eI (E++[(g.aI,v)]))=δ (eI (E++[(g.aI,v')])):=by rw[UL,Qr H.new]
   simp only[Z9,A.eY,bg,g1 an.length (by omega),hmap,this,dL]
  refine⟨.aN [],σ1.set an.length (.map (eI (E++[(g.aI,v')]))),hw _ ?_,?_⟩
  ·unfold zF;have c1:(((l5 (.ah nm)).bind λv=>δ [v]).bind λiu=>(y9 0 iu [(ε 0)]).bind λgA=>δ gA).bind (λcs=>δ (WV 1 (eO 1 1 cs)))=δ (.sl 1 [[.ah nm]]):=rfl;have p1:Θ 0 (bV g)=δ (.ah g.aI):=rfl;have p2:Θ 0 [Wu an.length]=δ (.om an.length):=rfl;simp only[cv,bS,ga hk,χ,bg,d1,d2,f2,p1,p2,l1,c1,e1,u1]
  ·have hs:∀i,i≠an.length->(σ1.set an.length (.map (eI (E++[(g.aI,v')]))))[i]? =σ1[i]? :=λi hi=>by rw[u9 (by omega)]
   refine⟨JH H.pre λi hi=>by rw[hs i (by omega),g1 i (by omega)],by simp;omega,H.lo,⟨v',?_,?_⟩,?_,?_,?_,H.new⟩
   ·rw[iU (by omega)]
   ·rw[xP,aC hk];exact h1.mono (bJ _) (by simp) λi a _=>hs i (by omega)
   ·exact H.U6.mono (bJ _) λi a c=>by rw[hs i (by omega),g1 i (by omega)]
   ·rw[hs _ (by omega),g1 _ (by omega)];exact H.box
   ·rw[hs _ (by omega),g1 _ (by omega)];exact H.Vp
 ·refine⟨.aN [],σ,hw _ ?_,by rw[xP,aB hk];exact H⟩;unfold zF;simp only[cv,bS,ia hk,χ,aS]
mutual
theorem Pk:∀p:aD,(gO p).length<=bn p
 |.mk k f t l=>by rw[gO,bn,Λ];have:=OY l;split<;>simp<;>omega
theorem OY:∀l:List aD,(gj l).length<=cC l
 |[]=>by simp [gj,cC]
 |p::l=>by rw[gj,cC,Λ];have:=Pk p;have:=OY l;omega
end
theorem adK(l:List bG)(hn:(l.map bG.aI).Nodup)(hs:∀g∈l,bn g.pick<=2000000)(hl:l.length<=bD)(an:Heap):IM [sl 5 bV l] an=δ (gf (λx=>ε x) (kZ 1 aO) (gq l),an):=by
 refine wrap_eq rfl ?_ rfl;show E6 (sl 5 bV l) an=_
 have Cy:∃q,s9 ((λv4 s5=>
   (p9 (aj v4 0) (.ah (l.length:Int))).bind λx7=>
   χ x7 (
    (EY 5 (sl 5 bV l) (aj v4 0)).bind λx8=>
    ((ψ x8 s5).bind λc9=>Ze 0 5 c9).bind λbE=>
    (i7 5 bE).bind λfH=>
    (u7 (YI s5.length 0) fH (s5++[WE [(ε 0),(ε 0),(ε 0),(ε 0),Ju]])).bind λdG=>
    ((ψ (YI (an.length+1) 0) dG).bind λmm=>Θ 0 mm).bind λdw=>
    (WN 0 (YI s5.length 0)).bind λdz=>
    ((ψ dz dG).bind λnZ=>Θ 0 nZ).bind λdD=>
    (Z9 .i dw dD Ju dG).bind λyQ=>
    (WN 1 (YI s5.length 0)).bind λck=>
    ((ψ ck yQ).bind λkr=>Ze 0 4 kr).bind λdA=>
    (vL (U8 (λ_ _=>η) [(40,sM)]) [dA,(AV.fn 40 [(YI (an.length+1) 0),(YI s5.length 0)])] yQ).bind λvq=>
    (o7 (aj v4 0) (ε 1)).bind λcV=>
    δ (ir,[cV],vq.2)) (
    δ (Γ 0,[(aj v4 0)],s5)))) [.ah 0] (an++[.map [],.box [.om an.length]])=δ q/\(q.1=.exit 0/\∃E,q.2.2.take an.length=an/\an.length<q.2.2.length/\q.2.2[an.length]? =δ (.map (eI E))/\q.2.2[an.length+1]? =δ (.box [.om an.length])/\nU q.2.2 (an.length+2) q.2.2.length E l):=by
  refine kP l (λi v σ=>v=[.ah (i:Int)]/\∃E,σ.take an.length=an/\an.length+2<=σ.length/\σ[an.length]? =δ (.map (eI E))/\σ[an.length+1]? =δ (.box [.om an.length])/\nU σ (an.length+2) σ.length E (l.take i)) ?_ ?_ ⟨rfl,[],by simp,by simp,by simp,by simp,trivial⟩
  ·rintro i x v σ hx ⟨rfl,E,h1,h2,h3,h4,h5⟩;have hm:=bR hx;have ht:l.take (i+1)=l.take i++[x]:=by rw[u6,hx];rfl
   have hnew:x.aI∉E.map (·.1):=by
    rw[h5.keys];intro hmem;have hi:=(bB.1 hx).1;have e1:l.map bG.aI=(l.take i).map bG.aI++(l.drop i).map bG.aI:=by rw[<-Tm,WD]
    rw[e1]at hn;have h7:x.aI∈(l.drop i).map bG.aI:=fK.2 ⟨x,by rw[alZ hi,(bB.1 hx).2];simp,rfl⟩;exact(List.nodup_append.1 hn).2.2 _ hmem _ h7 rfl
   let σ1:Heap:=σ++[.box (bV x)]
   let σ2:Heap:=σ1.set an.length (.map (eI (E++[(x.aI,.aH)])))
   have hs2:∀j,j≠an.length->σ2[j]? =σ1[j]? :=λj hj=>u9 (by omega)
   have hs1:∀j,j<σ.length->σ1[j]? =σ[j]? :=λj hj=>fZ hj
   have qp:σ1.length=σ.length+1:=by simp [σ1]
   have oh:σ2.length=σ.length+1:=by simp [σ2,qp]
   have I0:UI an E (l.take i) x σ.length [] σ2:=by
    refine⟨JH h1 λj hj=>by rw[hs2 j (by omega),hs1 j (by omega)],by omega,by omega,⟨.aH,?_,.inl ⟨rfl,rfl⟩⟩,?_,?_,?_,hnew⟩
    ·exact iU (by omega)
    ·exact h5.mono (bJ _) λj a b=>by rw[hs2 j (by omega),hs1 j b]
    ·rw[hs2 _ (by omega),hs1 _ (by omega)];exact h4
    ·rw[hs2 _ (by omega)];simp [σ1]
   have hbd:(gO x.pick).length<=2000000:=o8 (Pk x.pick) (hs x hm);obtain⟨σ3,e3,s3⟩:=Kc (dyn:=U8 (λ_ _=>η) [(40,sM)]) (c:=.fn 40 [.op (an.length+1) 0,.op σ.length 0]) (UI an E (l.take i) x σ.length) xP (sz:=Xg) 2000000 (λs x=>by unfold xP;split<;>simp) (λs kd nm σ' hs hI=>ad8 kd nm (by unfold dQ;omega) hI) 2000000 x.pick σ2 [] (o8 (zX _) (hs x hm)) (o8 (hs x hm) (by decide)) (by simpa using hbd) I0;rw[PG,Pm,Xk]at s3;obtain⟨v3,m3,n3⟩:=s3.map
   refine⟨_,σ3,?_,rfl,E++[(x.aI,v3)],s3.pre,by have:=s3.len;omega,m3,s3.box,by
    rw[ht]
    exact nU.snoc rfl (n3.mono (by omega) (bJ _) λ_ _ _=>rfl) (s3.U6.mono (Nat.le_of_lt s3.len) λ_ _ _=>rfl)⟩
   have a1:p9 (.ah (i:Int)) (.ah (l.length:Int))=δ (.bool ι):=fJ hx;have a2:o7 (.ah (i:Int)) (.ah 1)=δ (.ah ((i+1:Nat):Int)):=fM hx hl;have a3:EY 5 (sl 5 bV l) (.ah (i:Int))=δ (.rp (bV x)):=gm hx;have p1:Ze 0 5 (bV x)=δ (.agg (bV x)):=rfl;have p2:i7 5 (.agg (bV x))=δ (bV x):=rfl;have p3:Ze 0 4 ((bV x).drop 1)=δ (.agg (aF x.pick)):=by rw[IG];exact ur _
   have s1:u7 (.op σ.length 0) (bV x) (σ++[.box [(ε 0),(ε 0),(ε 0),(ε 0),Ju]])=δ σ1:=by simp [u7,y9,O7,σ1]
   have d1:ψ (.op (an.length+1) 0) σ1=δ [.om an.length]:=by
    have:σ1[an.length+1]? =δ (.box [.om an.length]):=by rw[hs1 _ (by omega)];exact h4
    simp [ψ,this]
   have d2:ψ (.op σ.length 0) σ1=δ (bV x):=by simp [ψ,σ1]
   have d3:ψ (.op σ.length 1) σ2=δ ((bV x).drop 1):=by
    have:σ2[σ.length]? =δ (.box (bV x)):=by rw[hs2 _ (by omega)];simp [σ1]
    simp [ψ,this]
   have u1:Z9 .i (.om an.length) (.ah x.aI) .aH σ1=δ σ2:=by
    have:σ1[an.length]? =δ (.map (eI E)):=by rw[hs1 _ (by omega)];exact h3
    simp only[Z9,A.eY,bg,this,UL,FM hnew,dL];rfl
   have f1:WN 0 (.op σ.length 0)=δ (.op σ.length 0):=rfl;have f2:WN 1 (.op σ.length 0)=δ (.op σ.length 1):=rfl;have q1:Θ 0 [Wu an.length]=δ (.om an.length):=rfl;have q2:Θ 0 (bV x)=δ (.ah x.aI):=rfl;have hm0:vL (U8 (λ_ _=>η) [(40,sM)])=fuel (sO (U8 (λ_ _=>η) [(40,sM)])) 2000000 41:=rfl;rw[<-hm0]at e3;simp only[bW,a1,a2,a3,bS,χ,bg,mQ,p1,p2,s1,d1,d2,q1,q2,f1,u1,f2,d3,p3,e3]
  ·rintro v σ ⟨rfl,E,h1,h2,h3,h4,h5⟩;rw[VZ]at h5;refine⟨(.exit 0,[.ah (l.length:Int)],σ),?_,by simp,rfl,E,h1,nQ (by omega) h2,h3,h4,h5⟩;simp only[bW,fL,bS,χ,aS]
 obtain⟨⟨qa,qv,wX⟩,e4,rfl,E,h1,h2,h3,h4,h5⟩:=Cy;have c1:((l5 (Wu an.length)).bind λv=>δ [v])=δ [.om an.length]:=rfl
 have s1:u7 (YI (an++[j0 []]).length 0) [.om an.length] ((an++[j0 []])++[WE [AV.nm]])=δ (an++[.map [],.box [.om an.length]]):=by simp [u7,y9]
 have d1:ψ (.op (an.length+1) 0) wX=δ [.om an.length]:=by simp [ψ,h4]
 have q1:Θ 0 [Wu an.length]=δ (.om an.length):=rfl
 have hz:e9 an (.om an.length) wX=δ (gf (λx=>ε x) (kZ 1 aO) (gq l),an):=by unfold e9;rw[aB (λe=>by rw[e]at h2;simp at h2),aC h1];simp only[Ya,Nat.lt_irrefl,if_false,h3];rw[h5.br (by omega) 6];rfl
 unfold E6;rw[show(an++[j0 []]).length=an.length+1 by simp]at *
 simp only[c1,bS,s1,dh,e4,mu,d1,q1,hz];rfl
end
section
inductive jL (f : Int -> List Int) (a : Int) : Int -> Prop where
 |one{b:Int}(h:b∈f a):jL f a b
 |step{b c:Int}(h:jL f a b)(k:c∈f b):jL f a c
def jj(V seen:List Int):Nat:=(V.filter λx=>decide (x∉seen)).length
theorem AL(V seen:List Int):jj V seen<=V.length:=W1 _ _
theorem Sd{k:Int}:∀(V seen:List Int),jj V (seen++[k])<=jj V seen
 |[],seen=>bJ _
 |x::V,seen=>by
  have:=Sd (k:=k) V seen;unfold jj at this ⊢;simp only[Wy];by_cases h:x∈seen
  ·rw[aB (by simp [h]),aB (by simp [h])];exact this
  ·by_cases hk:x=k
   ·rw[aB (by simp [hk]),aC (by simp [h]),b9];omega
   ·rw[aC (by simp [h,hk]),aC (by simp [h]),b9,b9];omega
theorem AM{k:Int}:∀{V seen:List Int},k∈V->k∉seen->jj V (seen++[k])<jj V seen
 |x::V,seen,h,hn=>by
  have hs:=Sd (k:=k) V seen;by_cases hk:x=k
  ·unfold jj at hs ⊢;simp only[Wy];rw[aB (by simp [hk]),aC (by simp [hk,hn]),b9];omega
  ·have:=AM (V:=V) (by simpa [Ne.symm hk]using h) hn;unfold jj at this ⊢;simp only[Wy];by_cases h:x∈seen
   ·rw[aB (by simp [h]),aB (by simp [h])];exact this
   ·rw[aC (by simp [h,hk]),aC (by simp [h]),b9,b9];omega
structure iq (f : Int -> List Int) (V : List Int) (a : Int) (cur : Option (Int × List Int)) (st seen : List Int) : Prop where
 sound:∀n∈seen,jL f a n
 known:∀n∈st,n=a\/n∈seen
 all:∀n,(n=a\/n∈seen)->n∈st\/(∀k∈f n,k∈seen)\/∃xs ys,cur=δ (n,ys)/\f n=xs++ys/\∀k∈xs,k∈seen
 Bc:st.length+jj V seen<=V.length+1
 here:∀n ys,cur=δ (n,ys)->(n=a\/n∈seen)/\∀k∈ys,k∈f n
section
variable {f : Int -> List Int} {V : List Int} {a : Int} {st st' seen : List Int} {n k : Int} {r : List Int}
theorem iq.start:iq f V a η [a] []:=
 ⟨λ_ h=>by simp at h,λn h=>by simpa using h,λn h=>.inl (by simpa using h),by have:=AL V [];simp;omega,λ_ _ h=>by cases h⟩
theorem iq.pop(H:iq f V a η st seen)(hm:∀x,x∈st↔x=n\/x∈st')(hl:st.length=st'.length+1):iq f V a (δ (n,f n)) st' seen:=by
 refine⟨H.sound,λx h=>H.known x ((hm x).2 (.inr h)),λx h=>?_,by have:=H.Bc;omega,λx ys e=>?_⟩
 ·rcases H.all x h with h1|h1|⟨xs,ys,e,_⟩
  ·rcases(hm x).1 h1 with rfl|h2
   ·exact .inr (.inr ⟨[],f x,rfl,rfl,by simp⟩)
   ·exact .inl h2
  ·exact .inr (.inl h1)
  ·cases e
 ·injection e with e;injection e with e1 e2;subst e1;subst e2
  exact⟨H.known _ ((hm _).2 (.inl rfl)),λk h=>h⟩
theorem iq.skip(H:iq f V a (δ (n,k::r)) st seen)(hk:k∈seen):iq f V a (δ (n,r)) st seen:=by
 refine⟨H.sound,H.known,λx h=>?_,H.Bc,λx ys e=>?_⟩
 ·rcases H.all x h with h1|h1|⟨xs,ys,e,h2,h3⟩
  ·exact .inl h1
  ·exact .inr (.inl h1)
  ·injection e with e;injection e with e1 e2;subst e1;subst e2
   exact .inr (.inr ⟨xs++[k],r,rfl,by rw[h2];simp,λy hy=>by rcases eG.1 hy with h|h;exact h3 y h;rw[X3.1 h];exact hk⟩)
 ·injection e with e;injection e with e1 e2;subst e1;subst e2
  obtain⟨h1,h2⟩:=H.here n (k::r) rfl;exact⟨h1,λy hy=>h2 y (by simp [hy])⟩
theorem iq.push(H:iq f V a (δ (n,k::r)) st seen)(hk:k∉seen)(hV:k∈V):iq f V a (δ (n,r)) (st++[k]) (seen++[k]):=by
 obtain⟨h1,h2⟩:=H.here n (k::r) rfl;have hf:k∈f n:=h2 k (by simp)
 have hkr:jL f a k:=by
  rcases h1 with rfl|h1
  ·exact .one hf
  ·exact .step (H.sound n h1) hf
 refine⟨λx h=>?_,λx h=>?_,λx h=>?_,?_,λx ys e=>?_⟩
 ·rcases eG.1 h with h|h
  ·exact H.sound x h
  ·rw[X3.1 h];exact hkr
 ·rcases eG.1 h with h|h
  ·rcases H.known x h with h|h
   ·exact .inl h
   ·exact .inr (by simp [h])
  ·rw[X3.1 h];exact .inr (by simp)
 ·by_cases hx:x=k
  ·exact .inl (by simp [hx])
  ·have:x=a\/x∈seen:=by
    rcases h with h|h
    ·exact .inl h
    ·rcases eG.1 h with h|h
     ·exact .inr h
     ·exact absurd (X3.1 h) hx
   rcases H.all x this with h1|h1|⟨xs,ys,e,h4,h3⟩
   ·exact .inl (by simp [h1])
   ·exact .inr (.inl λy hy=>by simp [h1 y hy])
   ·injection e with e;injection e with e1 e2;subst e1;subst e2
    exact .inr (.inr ⟨xs++[k],r,rfl,by rw[h4];simp,λy hy=>by rcases eG.1 hy with h|h;simp [h3 y h];rw[X3.1 h];simp⟩)
 ·have:=AM hV hk;have:=H.Bc;simp;omega
 ·injection e with e;injection e with e1 e2;subst e1;subst e2
  exact⟨by rcases h1 with h|h;exact .inl h;exact .inr (by simp [h]),λy hy=>h2 y (by simp [hy])⟩
theorem iq.done(H:iq f V a (δ (n,[])) st seen):iq f V a η st seen:=by
 refine⟨H.sound,H.known,λx h=>?_,H.Bc,λx ys e=>by cases e⟩;rcases H.all x h with h1|h1|⟨xs,ys,e,h4,h3⟩
 ·exact .inl h1
 ·exact .inr (.inl h1)
 ·injection e with e;injection e with e1 e2;subst e1;subst e2
  exact .inr (.inl λk hk=>h3 k (by rw[h4]at hk;simpa using hk))
theorem iq.fin(H:iq f V a η [] seen)(x:Int):x∈seen↔jL f a x:=by
 refine⟨H.sound x,λh=>?_⟩
 have cl:∀y,(y=a\/y∈seen)->∀k∈f y,k∈seen:=λy hy=>by
  rcases H.all y hy with h1|h1|⟨_,_,e,_⟩
  ·simp at h1
  ·exact h1
  ·cases e
 induction h with
 |one h=>exact cl a (.inl rfl) _ h
 |step h k ih=>exact cl _ (.inr ih) _ k
end
def oN(σ:Heap)(id:Nat)(v:AV)(st:List Int):Prop:=∃g off es,v=.os id g 1 off st.length/\σ[id]? =δ (.arr g 1 es)/\off+st.length<=es.length/\(es.drop off).take st.length=st.map aO
section
variable {σ : Heap} {id : Nat} {v : AV} {st : List Int} {n x : Int}
theorem oN.len(H:oN σ id v st):WJ v=δ (.ah (st.length:Int)):=by obtain⟨g,off,es,rfl,_⟩:=H;rfl
theorem oN.at(H:oN σ id v st){i:Nat}(h:st[i]? =δ x):∃p,EY 1 v (.ah (i:Int))=δ p/\ψ p σ=δ (aO x):=by
 obtain⟨g,off,es,rfl,h1,h2,h3⟩:=H;have hi:=(bB.1 h).1;have hi':((i:Int)<(st.length:Int)):=by omega
 refine⟨.oe id g (off+i) 0,by simp [EY,A.idx,hi'],?_⟩;have e:=congrArg (λl=>l[i]?) h3;simp only[X4,hi,if_true,WI,wu,h,dL]at e;simp [ψ,h1,e]
theorem oN.app(H:oN σ id v st)(hm:st.length+1<=dQ):∃v' σ',wh 1 (140737488355328 / 8) v (.sl 1 [[.ah x]]) σ=δ (v',σ')/\oN σ' id v' (st++[x])/\σ'.length=σ.length/\∀j,j≠id->σ'[j]? =σ[j]? :=by
 obtain⟨g,off,es,rfl,h1,h2,h3⟩:=H;have hid:=(bB.1 h1).1;have e1:WZ 1 (.sl 1 [[.ah x]]) σ=δ [[.ah x]]:=rfl;unfold dQ at hm;by_cases hin:off+st.length+1<=es.length
 ·refine⟨.os id g 1 off (st.length+1),σ.set id (.arr g 1 (es.take (off+st.length)++[[.ah x]]++es.drop (off+st.length+1))),?_,⟨g,off,_,by simp,iU hid,by simp;omega,?_⟩,by simp,λj hj=>u9 (by omega)⟩
  ·simp only[wh,e1,aL,A.kM,h1];rw[aC (by simp;omega),aB (by simp),aC (by simpa using hin)];rfl
  ·have hl:(es.take (off+st.length)).length=off+st.length:=by simp;omega
   rw[nR,List.drop_append_of_le_length (by omega),List.drop_take,show off+st.length-off=st.length by omega,h3,Λ,YA];rw[List.take_append,lW (by simp)];simp [aO]
 ·refine⟨.os id (g+1) 1 0 (st.length+1),σ.set id (.arr (g+1) 1 (st.map aO++[[.ah x]])),?_,⟨g+1,0,_,by simp,iU hid,by simp,?_⟩,by simp,λj hj=>u9 (by omega)⟩
  ·simp only[wh,e1,aL,A.kM,h1];rw[aC (by simp;omega),aB (by simp),aB (by simpa using hin),h3];rfl
  ·rw[Xm,lW (by simp)];simp [aO]
theorem oN.other{σ':Heap}(H:oN σ id v st)(h:σ'[id]? =σ[id]?):oN σ' id v st:=by obtain⟨g,off,es,e,h1,h2⟩:=H;exact⟨g,off,es,e,h.trans h1,h2⟩
theorem oN.front(H:oN σ id v (st++[n])):∃v',A.gD 1 v η (δ (.ah (st.length:Int))) σ=δ v'/\oN σ id v' st:=by
 obtain⟨g,off,es,rfl,h1,h2,h3⟩:=H;rw[Λ,YA]at h2 h3;refine⟨.os id g 1 off st.length,?_,⟨g,off,es,rfl,h1,by omega,?_⟩⟩
 ·simp only[A.gD,if_true,A.room,h1,Λ,YA];rw[aC ⟨trivial,trivial,h2⟩]
  have b1:Wf (es.length-off) (st.length+1) (δ (.ah (st.length:Int)))=δ st.length:=by simp only[Wf];rw[aC (by omega)];simp
  have b2:Wf st.length 0 η=δ 0:=rfl;rw[b1,aL,b2];rfl
 ·have e:=congrArg (List.take st.length) h3;rw[List.take_take,Nat.min_eq_left (by omega),Tm,am6 (by simp),lW (l:=st.map aO) (by simp)]at e;exact e
end
end
section
open HP
theorem acL{r:AV->AV->Heap->aG}{x y v:AV}{σ:Heap}(h:[x,y].any Z2=θ)(e:r x y σ=δ (v,σ)):Φ ι [] .k (XQ r) [x,y] σ=δ (v,σ):=by refine wrap_eq h ?_ (kY _);rw[show Z3 [] [x,y]=[x,y] by simp [Z3]];exact e
end
section
def iN:List Int->List Int->List Int->List Int×List Int
 |[],st,seen=>(st,seen)
 |k::r,st,seen=>if k∈seen then iN r st seen else iN r (st++[k]) (seen++[k])
def vC(f:Int->List Int):Nat->List Int->List Int->List Int
 |0,_,seen=>seen
 |m+1,st,seen=>match st.getLast? with
  |none=>seen
  |some n=>vC f m (iN (f n) st.dropLast seen).1 (iN (f n) st.dropLast seen).2
theorem R4(f:Int->List Int)(m:Nat)(seen:List Int):vC f m [] seen=seen:=by cases m<;>rfl
theorem QZ(f:Int->List Int)(m:Nat)(st:List Int)(n:Int)(seen:List Int):vC f (m+1) (st++[n]) seen=vC f m (iN (f n) st seen).1 (iN (f n) st seen).2:=by rw[vC,List.getLast?_concat,List.dropLast_concat]
def nx(U:List (Int×List Int))(n:Int):List Int:=(aV n U).getD []
def gp(U:List (Int×List Int)):List Int:=U.flatMap (·.2)
theorem SL{U:List (Int×List Int)}{n k:Int}(h:k∈nx U n):k∈gp U:=by
 unfold nx at h;unfold gp;induction U with
 |nil=>simp [aV]at h
 |cons p U ih=>
  rw[aV]at h;rw[Yw,eG];by_cases hp:n=p.1
  ·rw[aC hp]at h;exact .inl h
  ·rw[aB hp]at h;exact .inr (ih h)
theorem adt(U:List (Int×List Int))(n:Int):(nx U n).length<=(gp U).length:=by
 unfold nx gp;induction U with
 |nil=>simp [aV]
 |cons p U ih=>
  rw[aV,Yw,Λ];by_cases hp:n=p.1
  ·rw[aC hp];simp
  ·rw[aB hp];omega
def td(U:List (Int×List Int))(a:Int):List Int:=vC (nx U) (2*(gp U).length+1) [a] []
abbrev mY(V st seen:List Int):Nat:=2*jj V seen+st.length
abbrev eS(S:List Int):List (AV×AV):=S.map λx=>(.ah x,.bool ι)
theorem Gi(S:List Int):eS S=(S.map λx=>(x,ι)).map λp=>(ε p.1,φ p.2):=by rw[Y3];rfl
theorem PE(k:Int)(S:List Int):(aV k (S.map λx=>(x,ι))).getD θ=decide (k∈S):=by
 induction S with
 |nil=>rfl
 |cons x S ih=>
  rw[bU,aV];by_cases h:k=x
  ·simp [h]
  ·simp [h,ih]
theorem aar{k:Int}{S:List Int}(h:k∉S):eu k ι (S.map λx=>(x,ι))=(S++[k]).map λx=>(x,ι):=by
 induction S with
 |nil=>rfl
 |cons x S ih=>simp only[eo,not_or]at h;rw[bU,eu,aB h.1,ih h.2];rfl
theorem looked{σ:Heap}{id:Nat}{S:List Int}(h:σ[id]? =δ (.map (eS S)))(k:Int):Z8 .i (.om id) (.ah k) (.bool θ) σ=δ (.bool (decide (k∈S))):=by simp only[Z8,A.eY,bg,W9,h,aL];rw[Gi,sZ (eK:=λx:Int=>ε x) (eV:=λx:Bool=>φ x) (kN _)];rw[dL,<-PE];cases aV k (S.map λx=>(x,ι))<;>rfl
theorem Kj{σ:Heap}{id:Nat}{S:List Int}(h:σ[id]? =δ (.map (eS S))){k:Int}(hk:k∉S):Z9 .i (.om id) (.ah k) (.bool ι) σ=δ (σ.set id (.map (eS (S++[k])))):=by simp only[Z9,A.eY,bg,h];rw[Gi,show φ ι=(λx:Bool=>φ x) ι from rfl,wo (eK:=λx:Int=>ε x) (eV:=λx:Bool=>φ x) (kN _),aar hk,Gi];rfl
structure RM (an : Heap) (v : AV) (st seen : List Int) (σ : Heap) : Prop where
 len:σ.length=an.length+2
 pre:σ.take an.length=an
 map:σ[an.length]? =δ (.map (eS seen))
 stk:oN σ (an.length+1) v st
theorem acs(U:List (Int×List Int))(hU:(gp U).length+1<=dQ)(a:Int)(an:Heap):Ir [gf (λx=>ε x) (kZ 1 aO) U,.ah a] an=δ (gf (λx=>ε x) (λx=>φ x) ((td U a).map λx=>(x,ι)),an):=by
 obtain⟨fm,Nl⟩:∃fm,fm=gf (λx=>ε x) (kZ 1 aO) U:=⟨_,rfl⟩
 have Cx:∀n σ,Z8 .i fm (.ah n) .aH σ=δ (kZ 1 aO (nx U n)):=λn σ=>by rw[Nl];exact B8 (ek:=.i) (eK:=λx=>ε x) (eV:=kZ 1 aO) (kN _) n ([]:List Int) rfl
 have hfo:[fm,.ah a].any Z2=θ:=by rw[Nl];rfl
 rw[<-Nl];have hV:(gp U).length<=bD:=by unfold dQ at hU;unfold bD;omega
 unfold dQ at hU
 have inner:∀(n:Int)(v0:AV)(rq pX:List Int)(σ1:Heap)(M0:Nat),iq (nx U) (gp U) a (δ (n,nx U n)) rq pX->RM an v0 rq pX σ1->mY (gp U) rq pX<=M0->
   ∃q,s9 ((λv21 jh=>
      (p9 (aj v21 1) (.ah ((nx U n).length:Int))).bind λx24=>
      χ x24 (
       (EY 1 (kZ 1 aO (nx U n)) (aj v21 1)).bind λx25=>
       ((ψ x25 jh).bind λmo=>Θ 0 mo).bind λfT=>
       (Z8 .i (Wu an.length) fT aZ jh).bind λx28=>
       (Wc x28).bind λx29=>
       (χ x29 (
        (Z9 .i (Wu an.length) fT bF jh).bind λDx=>
        ((((l5 fT).bind λv=>δ [v]).bind λku=>(y9 0 ku [(ε 0)]).bind λoa=>δ oa).bind λcs=>δ (WV 1 (eO 1 1 cs))).bind λx34=>
        (wh 1 (140737488355328 / 8) (aj v21 0) x34 Dx).bind λiw=>
        δ ([iw.1],iw.2)) (
        δ ([(aj v21 0)],jh))).bind λjS=>
       (o7 (aj v21 1) (ε 1)).bind λqA=>
       δ (ir,[(aj jS.1 0),qA],jS.2)) (
       δ (Γ 2,[(aj v21 0),(aj v21 1)],jh)))) [v0,.ah 0] σ1=δ q/\(q.1=.exit 2/\∃v u,q.2.1=[v,u]/\iq (nx U) (gp U) a η (iN (nx U n) rq pX).1 (iN (nx U n) rq pX).2/\RM an v (iN (nx U n) rq pX).1 (iN (nx U n) rq pX).2 q.2.2/\mY (gp U) (iN (nx U n) rq pX).1 (iN (nx U n) rq pX).2<=M0):=by
  intro n v0 rq pX σ1 M0 H0 R0 hM0;obtain⟨T,hT⟩:∃T,T=iN (nx U n) rq pX:=⟨_,rfl⟩
  rw[<-hT];have hxl:(nx U n).length<=bD:=o8 (adt U n) hV;refine kP (nx U n) (λi v σ=>∃w st seen,v=[w,.ah (i:Int)]/\iq (nx U) (gp U) a (δ (n,(nx U n).drop i)) st seen/\RM an w st seen σ/\mY (gp U) st seen<=M0/\iN ((nx U n).drop i) st seen=T) ?_ ?_ ⟨v0,rq,pX,rfl,by simpa using H0,R0,hM0,by simp [hT]⟩
  ·rintro i x v σ hx ⟨w,st,seen,rfl,H,R,hM,hE⟩;have hi:=(bB.1 hx).1;have G7:(nx U n).drop i=x::(nx U n).drop (i+1):=by rw[alZ hi,(bB.1 hx).2]
   rw[G7]at H hE;rw[iN]at hE;have a1:p9 (.ah (i:Int)) (.ah ((nx U n).length:Int))=δ (.bool ι):=fJ hx;have a2:o7 (.ah (i:Int)) (.ah 1)=δ (.ah ((i+1:Nat):Int)):=fM hx hxl;have a3:EY 1 (kZ 1 aO (nx U n)) (.ah (i:Int))=δ (.rp (aO x)):=RB hx;have a4:=looked R.map x;by_cases hk:x∈seen
   ·rw[aC hk]at hE;refine⟨_,σ,?_,w,st,seen,rfl,H.skip hk,R,hM,hE⟩;simp only[bW,eM,a1,a2,a3,bS,cT,mQ,oI,a4,ga hk,ya,cF]
   ·rw[aB hk]at hE;have VR:x∈gp U:=SL ((H.here n _ rfl).2 x (by simp));have H2:=H.push hk VR;have u1:=Kj R.map hk;let σ2:Heap:=σ.set an.length (.map (eS (seen++[x])))
    have g2:∀j,j≠an.length->σ2[j]? =σ[j]? :=λj hj=>u9 (by omega)
    have hlt:=AM VR hk;obtain⟨w',σ3,e3,s3,l3,k3⟩:=(R.stk.other (σ':=σ2) (g2 _ (by omega))).app (x:=x) (by have:=H.Bc;unfold dQ;omega);have c1:(((l5 (.ah x)).bind λv=>δ [v]).bind λku=>(y9 0 ku [(ε 0)]).bind λoa=>δ oa).bind (λcs=>δ (WV 1 (eO 1 1 cs)))=δ (.sl 1 [[.ah x]]):=rfl;have e3':wh 1 (140737488355328 / 8) w (.sl 1 [[.ah x]]) (σ.set an.length (.map (eS (seen++[x]))))=δ (w',σ3):=e3;have oh:σ2.length=an.length+2:=by simp [σ2,R.len]
    refine⟨_,σ3,?_,w',st++[x],seen++[x],rfl,H2,⟨by omega,JH R.pre λj hj=>by rw[k3 j (by omega),g2 j (by omega)],by rw[k3 _ (by omega)];exact iU (by have:=R.len;omega),s3⟩,by unfold mY at hM ⊢;rw[Λ,YA];omega,hE⟩;simp only[bW,eM,a1,a2,a3,bS,cT,mQ,oI,a4,ia hk,CT,u1,c1,e3']
  ·rintro v σ ⟨w,st,seen,rfl,H,R,hM,hE⟩;rw[List.drop_length]at H hE;rw[iN]at hE;subst hE;refine⟨(.exit 2,[w,.ah ((nx U n).length:Int)],σ),?_,by simp,rfl,w,_,rfl,H.done,R,hM⟩;simp only[bW,eM,fL,bS,cF]
 have outer:∃q,s9 ((λv6 s7=>
   (WJ (aj v6 0)).bind λx9=>
   (W7 x9 (ε 0)).bind λbE=>
   χ bE (
    (WJ (aj v6 0)).bind λdI=>
    (Yd dI (ε 1)).bind λdB=>
    (EY 1 (aj v6 0) dB).bind λcg=>
    ((ψ cg s7).bind λiu=>Θ 0 iu).bind λdz=>
    (WJ (aj v6 0)).bind λcu=>
    (Yd cu (ε 1)).bind λdD=>
    (A.gD 1 (aj v6 0) η (δ dD) s7).bind λdW=>
    (Z8 .i fm dz Ju s7).bind λck=>
    (WJ ck).bind λeW=>
    (s9 (λv21 jh=>
      (p9 (aj v21 1) eW).bind λx24=>
      χ x24 (
       (EY 1 ck (aj v21 1)).bind λx25=>
       ((ψ x25 jh).bind λmo=>Θ 0 mo).bind λfT=>
       (Z8 .i (Wu an.length) fT aZ jh).bind λx28=>
       (Wc x28).bind λx29=>
       (χ x29 (
        (Z9 .i (Wu an.length) fT bF jh).bind λDx=>
        ((((l5 fT).bind λv=>δ [v]).bind λku=>(y9 0 ku [(ε 0)]).bind λoa=>δ oa).bind λcs=>δ (WV 1 (eO 1 1 cs))).bind λx34=>
        (wh 1 (140737488355328 / 8) (aj v21 0) x34 Dx).bind λiw=>
        δ ([iw.1],iw.2)) (
        δ ([(aj v21 0)],jh))).bind λjS=>
       (o7 (aj v21 1) (ε 1)).bind λqA=>
       δ (ir,[(aj jS.1 0),qA],jS.2)) (
       δ (Γ 2,[(aj v21 0),(aj v21 1)],jh))) [dW,(ε 0)] s7).bind λjg=>
    bif jg.1==Γ 2 then(
     δ (ir,[(aj jg.2.1 0)],jg.2.2))else
    η) (
    δ (Γ 0,[(aj v6 0)],s7)))) [.os (an.length+1) 1 1 0 1] (an++[.map [],.arr 1 1 [[.ah a]]])=δ q/\(q.1=.exit 0/\q.2.2.length=an.length+2/\q.2.2.take an.length=an/\q.2.2[an.length]? =δ (.map (eS (td U a)))):=by
  refine RG (λN v σ=>∃w st seen,v=[w]/\iq (nx U) (gp U) a η st seen/\RM an w st seen σ/\mY (gp U) st seen<=N/\vC (nx U) N st seen=td U a) ?_ (n:=2*(gp U).length+1) ⟨_,[a],[],rfl,.start,⟨by simp,by simp,by simp [eS],⟨1,0,[[.ah a]],rfl,by simp,by simp,by simp [aO]⟩⟩,by have:=AL (gp U) [];unfold mY;simp;omega,rfl⟩;rintro N v σ ⟨w,st,seen,rfl,H,R,hM,hE⟩;have hlen:=R.stk.len;rcases List.eq_nil_or_concat st with rfl|⟨st',n,rfl⟩
  ·right;rw[R4]at hE;subst hE;refine⟨(.exit 0,[w],σ),?_,by simp,rfl,R.len,R.pre,R.map⟩;have g0:W7 (.ah (([]:List Int).length:Int)) (.ah 0)=δ (.bool θ):=rfl;simp only[bW,hlen,bS,g0,cF]
  ·left;rw[List.concat_eq_append]at *
   have hst:st'.length+1<=(gp U).length+1:=by have:=H.Bc;simp at this;omega
   obtain⟨w',e1,s1⟩:=R.stk.front;have hx:(st'++[n])[st'.length]? =δ n:=by simp
   obtain⟨p,e2,e3⟩:=R.stk.at hx;have H1:iq (nx U) (gp U) a (δ (n,nx U n)) st' seen:=H.pop (λx=>by simp [or_comm]) (by simp);have hM1:mY (gp U) st' seen<=N-1:=by unfold mY at hM ⊢;simp at hM;omega
   have hN:N=N-1+1:=by unfold mY at hM;simp at hM;omega
   obtain⟨⟨q1,q2,σ3⟩,e4,rfl,w3,u,rfl,H3,R3,M3⟩:=inner n w' st' seen σ (N-1) H1 ⟨R.len,R.pre,R.map,s1⟩ hM1;rw[hN,QZ]at hE;refine⟨N-1,[w3],σ3,by omega,?_,w3,_,_,rfl,H3,R3,M3,hE⟩
   have g0:W7 (.ah ((st'++[n]).length:Int)) (.ah 0)=δ (.bool ι):=by simp only[W7,if_true];rw[ga (by simp)]
   have g1:Yd (.ah ((st'++[n]).length:Int)) (.ah 1)=δ (.ah (st'.length:Int)):=by simp only[Yd,if_true];rw[dY (by unfold bA;simp;omega)];simp
   simp only[bW,hlen,bS,g0,g1,cT,e2,e3,oI,e1,Cx,RF,e4,mu]
 obtain⟨⟨qa,qv,wX⟩,e4,rfl,h1,h2,h3⟩:=outer;refine acL hfo ?_;unfold Iz;have c1:(((l5 (.ah a)).bind λv=>δ [v]).bind λku=>(y9 0 ku [(ε 0)]).bind λoa=>δ oa).bind (λcs=>δ (WV 1 (eO 1 1 cs)))=δ (.sl 1 [[.ah a]]):=rfl;have l1:∀(k:Nat->List aq->aG),A.wJ (.sl 1 [[.ah a]]) k=k 1 [[.ah a]]:=λk=>rfl
 have hz:e9 an (.om an.length) wX=δ (gf (λx=>ε x) (λx=>φ x) ((td U a).map λx=>(x,ι)),an):=by unfold e9;have h1':Xg wX=an.length+2:=h1;rw[aB (λe=>by rw[e]at h1';omega),aC h2];have h3':wX[an.length]? =δ (.map (eS (td U a))):=h3;simp only[Ya,Nat.lt_irrefl,if_false,h3'];rw[Cj 7 (λp hp=>by obtain⟨x,_,rfl⟩:=fK.1 hp;exact⟨pM _ _,FX _⟩),Gi];rfl
 have e0:(an++[j0 []]).length=an.length+1:=by simp
 have e5:(an++[j0 []])++[aM.arr 1 1 [[.ah a]]]=an++[.map [],.arr 1 1 [[.ah a]]]:=by simp
 simp only[c1,bS,l1,YA,e0,e5,e4,mu,hz]
end
section
open HP
def fG(l:List Int):List Int:=l.foldl (λo n=>if n∈o then o else o++[n]) []
theorem akv(l:List Int)(x:Int):fG (l++[x])=if x∈fG l then fG l else fG l++[x]:=by unfold fG;rw[ZL];rfl
theorem P9(l:List Int):(fG l).length<=l.length:=by
 have h:∀(l o:List Int),(l.foldl (λo n=>if n∈o then o else o++[n]) o).length<=o.length+l.length:=by
  intro l;induction l with
  |nil=>intro o;simp
  |cons x l ih=>
   intro o;rw[Zc,b9];by_cases h:x∈o
   ·rw[aC h];have:=ih o;omega
   ·rw[aB h];have:=ih (o++[x]);rw[Λ,YA]at this;omega
 have:=h l [];simpa [fG]using this
theorem aa5{l:List Int}{i:Nat}{x:Int}(h:l[i]? =δ x):fG (l.take (i+1))=if x∈fG (l.take i)then fG (l.take i)else fG (l.take i)++[x]:=by rw[u6,h,Ym,akv]
theorem aa6(l:List Int)(i:Nat):(fG (l.take i)).length<=l.length:=o8 (P9 _) (Wm _ _)
def eT(s:Nat):Nat->List Int->List Int
 |_,[]=>[]
 |0,x::l=>x::eT s (s-1) l
 |k+1,_::l=>eT s k l
theorem JN(s:Nat):∀(k:Nat)(l:List Int),eT s k l=eT s 0 (l.drop k)
 |0,l=>by simp
 |k+1,[]=>by simp [eT]
 |k+1,x::l=>by rw[eT,JN s k l];simp
theorem FU(s:Nat):∀(k:Nat)(l:List Int),(eT s k l).length<=l.length
 |_,[]=>by simp [eT]
 |0,x::l=>by rw[eT,b9,b9];have:=FU s (s-1) l;omega
 |k+1,x::l=>by rw[eT,b9];have:=FU s k l;omega
theorem Ru(S:List Int):mw (.map (eS S)):=by show((eS S).all λp=>A.nP p.1&&A.nP p.2)=ι;rw[List.all_map,iX];intro x _;rfl
theorem Rv(x:Int):∀g g' seg,(seg=[]\/mw (.arr g 1 seg))->mw (.arr g' 1 (seg++[aO x])):=Rs (λ_=>rfl) [x]
section
variable {an σ : Heap} {R : HP} {v : AV} {l : List Int}
theorem yc(x:Int):(((l5 (.ah x)).bind λv=>δ [v]).bind λku=>(y9 0 ku [(ε 0)]).bind λoa=>δ oa).bind (λcs=>δ (WV 1 (eO 1 1 cs)))=δ (.sl 1 [[.ah x]]):=rfl
theorem RO(hm:l.length+1<=dQ):KS (Φ ι [(.s 1)] .k (XJ xw)) [sl 1 aO l] aO 1 (fG l):=by
 intro an σ R H;have hl:l.length<=bD:=by unfold dQ at hm;unfold bD;omega
 suffices h:∃b:AV×Heap,xw (sl 1 aO l) σ=δ b/\Hs mw an b.2 (Iv b.1 (fG l)*R) by obtain⟨⟨v,s⟩,h1,h2⟩:=h;exact⟨v,s,wrap_eq rfl h1 (kY _),h2⟩
 unfold xw;rw[dh,bS];refine oL (Q:=λq=>∃w u,q.1=.exit 0/\q.2.1=[w,u]/\Hs mw an q.2.2 (Iv w (fG l)*R)) (kP l (λi vs s=>∃w,vs=[w,.ah (i:Int)]/\Hs mw an s (blk σ.length (.map (eS (fG (l.take i))))*(Iv w (fG (l.take i))*R))) ?_ ?_ ⟨.aH,rfl,rP (ji H (.inl rfl)) (Ru [])⟩) ?_
 ·rintro i x vs s hx ⟨w,rfl,K⟩;have a1:p9 (.ah (i:Int)) (.ah (l.length:Int))=δ (.bool ι):=fJ hx;have a2:o7 (.ah (i:Int)) (.ah 1)=δ (.ah ((i+1:Nat):Int)):=fM hx hl;have a3:EY 1 (sl 1 aO l) (.ah (i:Int))=δ (.rp (aO x)):=gm hx;have a4:=looked (dS K).2 x;rw[aa5 hx];by_cases hk:x∈fG (l.take i)
  ·rw[aC hk];refine⟨_,s,?_,w,rfl,K⟩;simp only[bW,eM,a1,a2,a3,bS,cT,mQ,oI,a4,ga hk,ya,cF]
  ·rw[aB hk];have u1:=Kj (dS K).2 hk;have K1:=pN K (Ru (fG (l.take i)++[x]));obtain⟨w',s',e1,K2⟩:=AG (x:=x) (Rv x) (by have:=aa6 l i;omega) (bO (show _=Iv w (fG (l.take i))*(blk σ.length (.map (eS (fG (l.take i)++[x])))*R) by ac_rfl) K1);refine⟨_,s',?_,w',rfl,bO (by ac_rfl) K2⟩;simp only[bW,eM,a1,a2,a3,bS,cT,mQ,oI,a4,ia hk,CT,u1,yc,e1]
 ·rintro vs s ⟨w,rfl,K⟩;rw[VZ]at K;refine⟨(.exit 0,[w,.ah (l.length:Int)],s),?_,by simp,w,_,rfl,rfl,dR K⟩;simp only[bW,eM,fL,bS,cF]
 ·rintro⟨q1,q2,q3⟩ ⟨w,u,rfl,rfl,K⟩;exact⟨(w,q3),by simp only[mu,bW],K⟩
theorem ac5{p:Int->Bool}{l:List Int}{i:Nat}{x:Int}(h:l[i]? =δ x):(l.take (i+1)).filter p=if p x=ι then(l.take i).filter p++[x]else(l.take i).filter p:=by rw[u6,h,Ym,ZE];cases hp:p x<;>simp [hp]
theorem ac6{p:Int->Bool}(l:List Int)(i:Nat):((l.take i).filter p).length<=l.length:=o8 (W1 _ _) (Wm _ _)
def pL(l:List Int)(s f:Int):List Int:=eT s.toNat (f-1).toNat l
theorem I9(l:List Int)(s f:Int):(pL l s f).length<=l.length:=FU _ _ _
theorem aaN{st f:Int}(hs:1<=st)(hs2:st<=1000000)(hf:1<=f)(qV:f<=1000000)(hm:l.length+1<=dQ):KS (Φ ι [(.s 1)] .k (A.pg zN)) [sl 1 aO l,.ah st,.ah f] aO 1 (pL l st f):=by
 intro an σ R H;have hl:l.length<=bD:=by unfold dQ at hm;unfold bD;omega
 have hl':=hm;unfold dQ at hl'
 suffices h:∃b:AV×Heap,zN (sl 1 aO l) (.ah st) (.ah f) σ=δ b/\Hs mw an b.2 (Iv b.1 (pL l st f)*R) by obtain⟨⟨v,s⟩,h1,h2⟩:=h;exact⟨v,s,wrap_eq rfl h1 (kY _),h2⟩
 obtain⟨k,hk⟩:∃k,k=(f-1).toNat:=⟨_,rfl⟩
 obtain⟨s0,hs0⟩:∃s0,s0=st.toNat:=⟨_,rfl⟩
 unfold pL;rw[<-hk,<-hs0];unfold zN;rw[show Yd (.ah f) (.ah 1)=δ (.ah (k:Int)) by rw[AP,dY (by unfold bA;omega)];congr 2;omega,bS];refine oL (Q:=λq=>∃w u,q.1=.exit 0/\q.2.1=[w,u]/\Hs mw an q.2.2 (Iv w (eT s0 k l)*R)) (RG (λN vs s=>∃(w:AV)(i:Nat)(o:List Int),vs=[w,.ah (i:Int)]/\l.length-i<=N/\i<=l.length+2000000/\o++eT s0 0 (l.drop i)=eT s0 k l/\Hs mw an s (Iv w o*R)) ?_ (n:=l.length) ⟨.aH,k,[],rfl,by omega,by omega,(JN s0 k l).symm,ji H (.inl rfl)⟩) ?_
 ·rintro N vs s ⟨w,i,o,rfl,hN,hi,ho,K⟩;by_cases hil:i<l.length
  ·left;obtain⟨x,hx⟩:∃x,l[i]? =δ x:=⟨_,cA hil⟩
   have hd:l.drop i=x::l.drop (i+1):=by rw[alZ hil,(bB.1 hx).2]
   have VD:o.length+1<=dQ:=by have h1:=congrArg Xg ho;have h2:=FU s0 k l;rw[Λ]at h1;omega
   rw[hd,eT,JN,lV]at ho;have a1:p9 (.ah (i:Int)) (.ah (l.length:Int))=δ (.bool ι):=fJ hx;have a2:o7 (.ah (i:Int)) (.ah st)=δ (.ah ((i+s0:Nat):Int)):=by rw[xT,dY (by unfold bA;omega)];congr 2;omega
   have a3:EY 1 (sl 1 aO l) (.ah (i:Int))=δ (.rp (aO x)):=gm hx;obtain⟨w',s',e1,K2⟩:=AG (x:=x) (Rv x) VD K;refine⟨N-1,_,s',by omega,?_,w',i+s0,o++[x],rfl,by omega,by omega,?_,K2⟩
   ·simp only[bW,eM,dh,a1,a2,a3,bS,cT,mQ,oI,yc,e1]
   ·rw[nR,List.singleton_append];rw[show i+1+(s0-1)=i+s0 by omega]at ho;exact ho
  ·right;rw[List.drop_of_length_le (by omega)]at ho;rw[show eT s0 0 []=[] by rw[eT],X0]at ho;subst ho;refine⟨(.exit 0,[w,.ah (i:Int)],s),?_,by simp,w,_,rfl,rfl,K⟩;simp only[bW,eM,dh,bS,qc,ia (show ¬((i:Int)<(l.length:Int)) by omega),cF]
 ·rintro⟨q1,q2,q3⟩ ⟨w,u,rfl,rfl,K⟩;exact⟨(w,q3),by simp only[mu,bW],K⟩
end
end
section
open HP
def Gu(U:List Int)(f t:Int):List Int:=if t<f then(U.filter λn=>bu n (min f t) (max f t)).reverse else U.filter λn=>bu n (min f t) (max f t)
def xM(U:List Int)(gr pr:Int->List Int)(k f t:Int)(gX:List (List Int)):List Int:=
 if k=1 then Gu U f t else if k=2 then gr f else if k=3 then pr f else if k=4 then fG gX.flatten
 else if k=5 then(gX.getD 0 []).filter λx=>!decide (x∈gX.getD 1 [])
 else if k=6 then pL (gX.getD 0 []) 2 1 else if k=7 then pL (gX.getD 0 []) 2 2
 else if k=8 then(gX.getD 0 []).reverse else pL (gX.getD 0 []) f t
section
variable (U : List Int) (gs : List (Int × aD)) (ps : List (Int × List Int))
def uF:Nat->aD->List Int
 |0,_=>[]
 |n+1,p=>xM U (λf=>match aV f gs with|some g=>uF n g|none=>[]) (λf=>(aV f ps).getD []) p.kind p.aT p.to (p.args.map (uF n))
def Rk:Nat->aD->Prop
 |0,_=>False
 |n+1,p=>gQ p.kind p.aT p.to p.args.length=0/\p.args.length<=200/\(∀a∈p.args,Rk n a)/\(p.kind=2->∃g,aV p.aT gs=δ g/\Rk n g)/\(p.kind=3->∃l,aV p.aT ps=δ l)
theorem KJ:∀{n:Nat}{p:aD},Rk gs ps n p->∀{m:Nat},n<=m->Rk gs ps m p
 |0,p,h,m,_=>h.elim
 |n+1,p,h,0,hm=>by omega
 |n+1,p,h,m+1,hm=>by rw[Rk]at h ⊢;refine⟨h.1,h.2.1,λa ha=>KJ (h.2.2.1 a ha) (by omega),λhk=>?_,h.2.2.2.2⟩;obtain⟨g,h1,h2⟩:=h.2.2.2.1 hk;exact⟨g,h1,KJ h2 (by omega)⟩
theorem CG:∀{n:Nat}{p:aD},Rk gs ps n p->∀{m:Nat},n<=m->uF U gs ps m p=uF U gs ps n p
 |0,p,h,m,_=>h.elim
 |n+1,p,h,0,hm=>by omega
 |n+1,p,h,m+1,hm=>by
  rw[Rk]at h;rw[uF,uF];have h1:p.args.map (uF U gs ps m)=p.args.map (uF U gs ps n):=Wk λa ha=>CG (h.2.2.1 a ha) (by omega)
  rw[h1];by_cases hk:p.kind=2
  ·obtain⟨g,h2,h3⟩:=h.2.2.2.1 hk;unfold xM;rw[aB (show ¬p.kind=1 by omega),aB (show ¬p.kind=1 by omega),aC hk,aC hk];simp only[h2];exact CG h3 (by omega)
  ·unfold xM;by_cases h1:p.kind=1
   ·rw[aC h1,aC h1]
   ·rw[aB h1,aB h1,aB hk,aB hk]
end
section
variable {an σ : Heap} {R : HP} {va : AV} {ls : List (List Int)}
theorem rowAt(H:Hs aP an σ (Sl ig 1 va ls*R)){i:Nat}{x:List Int}(hx:ls[i]? =δ x):∃p h Q,EY 1 va (.ah (i:Int))=δ p/\Hs aP an σ (Iv h x*(Q*R))/\(∀σ' R',Hs aP an σ' (Q*R')->ψ p σ'=δ [h])/\∀σ' R',Hs aP an σ' (Iv h x*(Q*R'))->Hs aP an σ' (Sl ig 1 va ls*R'):=by
 obtain⟨p,F,e,h1,hC,K,back⟩:=R9 H hx;obtain⟨h,rfl,K1⟩:=UG (bO (show F e*(ig e x*R)=ig e x*(F e*R) by ac_rfl) K);refine⟨p,h,F [h],h1,K1,λσ' R' K2=>hC.ld K2,λσ' R' K2=>?_⟩;have K3:=back (e:=[h]) (y:=x) (bO (show ig [h] x*(F [h]*R')=F [h]*(ig [h] x*R') by ac_rfl) (R7 K2))
 rw[show ls.set i x=ls from by
  obtain⟨hi,h2⟩:=bB.1 hx
  rw[<-h2];exact List.set_getElem_self hi]at K3
 exact K3
abbrev eB(m:List (Int×Bool)):List (AV×AV):=m.map λp=>(ε p.1,φ p.2)
theorem agW{id:Nat}{m:List (Int×Bool)}(h:σ[id]? =δ (.map (eB m)))(k:Int)(b:Bool):Z9 .i (.om id) (.ah k) (.bool b) σ=δ (σ.set id (.map (eB (eu k b m)))):=by simp only[Z9,A.eY,bg,h];rw[show φ b=(λx:Bool=>φ x) b from rfl,wo (eK:=λx:Int=>ε x) (eV:=λx:Bool=>φ x) (kN _)];rfl
theorem QK(m:List (Int×Bool))(k:Int):Z8 .i (gf (λx=>ε x) (λx=>φ x) m) (.ah k) (.bool θ) []=δ (.bool ((aV k m).getD θ)):=B8 (ek:=.i) (eK:=λx=>ε x) (eV:=λx=>φ x) (kN _) k θ rfl
theorem Z5{b id:Nat}{m:List (Int×Bool)}(hb:σ[b]? =δ (.box [.om id]))(hm:σ[id]? =δ (.map (eB m)))(k:Int):oF [.ah k,.op b 0] σ=δ (.bool ((aV k m).getD θ),σ):=by
 have hf:Ya σ 0 8 (.op b 0)=δ (.rp [gf (λx=>ε x) (λx=>φ x) m]):=by simp only[Ya,amn,if_false,hb,Xm,A.qK,hm];rw[Cj 6 (λp hp=>by obtain⟨x,_,rfl⟩:=fK.1 hp;exact⟨pM _ _,FX _⟩)];rfl
 refine FO (args':=[.ah k,.rp [gf (λx=>ε x) (λx=>φ x) m]]) rfl ?_ rfl ?_ rfl
 ·have h3:Ya σ 0 8 (.ah k)=δ (.ah k):=pM _ _ σ 0 8;simp only[XT,hf,h3,aL];rfl
 ·refine wrap_eq rfl ?_ rfl;show BB (.ah k) (.rp [gf (λx=>ε x) (λx=>φ x) m]) []=_;unfold BB;rw[mQ,bS,show Θ 0 [gf (λx=>ε x) (λx=>φ x) m]=δ (gf (λx=>ε x) (λx=>φ x) m)from rfl,bS];rw[QK,bS];rfl
end
end
section
open HP
abbrev eP(gs:List (Int×aD)):List (AV×AV):=gs.map λp=>(ε p.1,l8 (aF p.2))
abbrev eL(ps:List (Int×List Int)):List (AV×AV):=ps.map λp=>(ε p.1,sl 1 aO p.2)
abbrev mq(kn:List (Int×(AV×List Int))):List (AV×AV):=kn.map λp=>(ε p.1,p.2.1)
def iE:List (Int×(AV×List Int))->HP
 |[]=>emp
 |e::r=>Iv e.2.1 e.2.2*iE r
structure yx where
 b:Nat
 g:Nat
 p:Nat
 k:Nat
 vu:AV
 U:List Int
 gs:List (Int×aD)
 ps:List (Int×List Int)
def bI(C:yx)(kn:List (Int×(AV×List Int))):HP:=blk C.b (.box [C.vu,.om C.g,.om C.p,.om C.k])*(Iv C.vu C.U*(blk C.g (.map (eP C.gs))*(blk C.p (.map (eL C.ps))*(blk C.k (.map (mq kn))*iE kn))))
def tC(C:yx)(kn:List (Int×(AV×List Int))):Prop:=∀e∈kn,∃g m,aV e.1 C.gs=δ g/\Rk C.gs C.ps m g/\e.2.2=uF C.U C.gs C.ps m g
theorem B5{ν:Type}{k:Int}{x:ν}:∀{l:List (Int×ν)},aV k l=δ x->(k,x)∈l
 |[],h=>by simp [aV]at h
 |(a,y)::l,h=>by
  rw[aV]at h;by_cases hk:k=a
  ·rw[aC hk]at h;injection h with h;subst h;subst hk;exact u0
  ·rw[aB hk]at h;exact iB _ (B5 h)
theorem Q9{ν:Type}{k:Int}{x:ν}{e:Int×ν}:∀{l:List (Int×ν)},e∈eu k x l->e=(k,x)\/e∈l
 |[],h=>by simp [eu]at h;exact .inl h
 |(a,y)::l,h=>by
  rw[eu]at h;by_cases hk:k=a
  ·rw[aC hk]at h;rcases eo.1 h with rfl|h
   ·subst hk;exact .inl rfl
   ·exact .inr (iB _ h)
  ·rw[aB hk]at h;rcases eo.1 h with rfl|h
   ·exact .inr u0
   ·rcases Q9 h with h|h
    ·exact .inl h
    ·exact .inr (iB _ h)
theorem tC.put{C:yx}{kn:List (Int×(AV×List Int))}(h:tC C kn){k:Int}{v:AV}{g:aD}{m:Nat}(h1:aV k C.gs=δ g)(h2:Rk C.gs C.ps m g):tC C (eu k (v,uF C.U C.gs C.ps m g) kn):=by
 intro e he;rcases Q9 he with rfl|he
 ·exact⟨g,m,h1,h2,rfl⟩
 ·exact h e he
theorem RD{k:Int}{x:AV×List Int}:∀{kn:List (Int×(AV×List Int))},aV k kn=δ x->∃Q,iE kn=Iv x.1 x.2*Q
 |[],h=>by simp [aV]at h
 |(a,y)::l,h=>by
  rw[aV]at h;by_cases hk:k=a
  ·rw[aC hk]at h;injection h with h;subst h;exact⟨_,rfl⟩
  ·rw[aB hk]at h;obtain⟨Q,hQ⟩:=RD h;exact⟨Iv y.1 y.2*Q,by rw[iE,hQ];ac_rfl⟩
section
variable {an σ : Heap} {R : HP}
theorem RE{k:Int}{v:AV}{l:List Int}:∀{kn:List (Int×(AV×List Int))}{R:HP},Hs aP an σ (Iv v l*(iE kn*R))->Hs aP an σ (iE (eu k (v,l) kn)*R)
 |[],R,H=>bO (show Iv v l*(iE []*R)=Iv v l*iE []*R from(qG _ _ _).symm) H
 |(a,y)::r,R,H=>by
  rw[eu];by_cases hk:k=a
  ·rw[aC hk,iE];exact dR (bO (show Iv v l*(iE ((a,y)::r)*R)=Iv y.1 y.2*(Iv v l*iE r*R) by rw[iE];ac_rfl) H)
  ·rw[aB hk,iE];have:=RE (k:=k) (v:=v) (l:=l) (kn:=r) (R:=Iv y.1 y.2*R) (bO (by rw[iE];ac_rfl) H);exact bO (by ac_rfl) this
variable {C : yx} {kn : List (Int × (AV × List Int))}
theorem F8(H:Hs aP an σ (bI C kn*R)):σ[C.b]? =δ (.box [C.vu,.om C.g,.om C.p,.om C.k]):=(dS (bO (by rw[bI,qG]) H)).2
theorem uo(H:Hs aP an σ (bI C kn*R)):Hs aP an σ (Iv C.vu C.U*(blk C.b (.box [C.vu,.om C.g,.om C.p,.om C.k])*(blk C.g (.map (eP C.gs))*(blk C.p (.map (eL C.ps))*(blk C.k (.map (mq kn))*(iE kn*R)))))):=bO (by rw[bI];ac_rfl) H
theorem To(H:Hs aP an σ (bI C kn*R)):σ[C.g]? =δ (.map (eP C.gs)):=(dS (bO (show _=blk C.g (.map (eP C.gs))*(Iv C.vu C.U*(blk C.b (.box [C.vu,.om C.g,.om C.p,.om C.k])*(blk C.p (.map (eL C.ps))*(blk C.k (.map (mq kn))*(iE kn*R))))) by ac_rfl) (uo H))).2
theorem Tp(H:Hs aP an σ (bI C kn*R)):σ[C.p]? =δ (.map (eL C.ps)):=(dS (bO (show _=blk C.p (.map (eL C.ps))*(Iv C.vu C.U*(blk C.b (.box [C.vu,.om C.g,.om C.p,.om C.k])*(blk C.g (.map (eP C.gs))*(blk C.k (.map (mq kn))*(iE kn*R))))) by ac_rfl) (uo H))).2
theorem FF(H:Hs aP an σ (bI C kn*R)):Hs aP an σ (blk C.k (.map (mq kn))*(iE kn*(Iv C.vu C.U*(blk C.b (.box [C.vu,.om C.g,.om C.p,.om C.k])*(blk C.g (.map (eP C.gs))*(blk C.p (.map (eL C.ps))*R)))))):=bO (by ac_rfl) (uo H)
theorem ad0(H:Hs aP an σ (blk C.k (.map (mq kn))*(iE kn*(Iv C.vu C.U*(blk C.b (.box [C.vu,.om C.g,.om C.p,.om C.k])*(blk C.g (.map (eP C.gs))*(blk C.p (.map (eL C.ps))*R))))))):Hs aP an σ (bI C kn*R):=bO (by rw[bI];ac_rfl) H
theorem TS(H:Hs aP an σ (bI C kn*R)):((ψ (.op C.b 0) σ).bind λc=>Θ 0 c)=δ C.vu:=by simp only[ψ,F8 H,aL,Xm,Θ,Xw];exact Ap (uo H)
theorem Lz(H:Hs aP an σ (bI C kn*R)):((ψ (.op C.b 1) σ).bind λc=>Θ 0 c)=δ (.om C.g):=by simp only[ψ,F8 H,aL];rfl
theorem LA(H:Hs aP an σ (bI C kn*R)):((ψ (.op C.b 2) σ).bind λc=>Θ 0 c)=δ (.om C.p):=by simp only[ψ,F8 H,aL];rfl
theorem TT(H:Hs aP an σ (bI C kn*R)):((ψ (.op C.b 3) σ).bind λc=>Θ 0 c)=δ (.om C.k):=by simp only[ψ,F8 H,aL];rfl
theorem adX(H:Hs aP an σ (bI C kn*R)){f:Int}{g:aD}(h:aV f C.gs=δ g)(z:AV):Z8 .i (.om C.g) (.ah f) z σ=δ (.agg (aF g)):=by simp only[Z8,A.eY,bg,W9,To H,aL];rw[sZ (eK:=λx:Int=>ε x) (eV:=λx:aD=>l8 (aF x)) (kN _),h];rfl
theorem adZ(H:Hs aP an σ (bI C kn*R)){f:Int}{l:List Int}(h:aV f C.ps=δ l)(z:AV):Z8 .i (.om C.p) (.ah f) z σ=δ (sl 1 aO l):=by simp only[Z8,A.eY,bg,W9,Tp H,aL];rw[sZ (eK:=λx:Int=>ε x) (eV:=λx:List Int=>sl 1 aO x) (kN _),h];rfl
theorem adY(H:Hs aP an σ (bI C kn*R))(f:Int):A.nI .i (.om C.k) (.ah f) .aH σ=δ (.aN [((aV f kn).map (·.1)).getD .aH,.bool (aV f kn).isSome]):=by simp only[A.nI,A.eY,bg,W9,(dS (FF H)).2,aL];rw[sZ (eK:=λx:Int=>ε x) (eV:=λx:AV×List Int=>x.1) (kN _)];cases aV f kn<;>rfl
theorem ad3(H:Hs aP an σ (bI C kn*R))(f:Int)(v:AV)(l:List Int):Z9 .i (.om C.k) (.ah f) v σ=δ (σ.set C.k (.map (mq (eu f (v,l) kn)))):=by simp only[Z9,A.eY,bg,(dS (FF H)).2];rw[show v=(λx:AV×List Int=>x.1) (v,l)from rfl,wo (eK:=λx:Int=>ε x) (eV:=λx:AV×List Int=>x.1) (kN _)];rfl
theorem adw{v:AV}{l:List Int}(hm:l.length+1<=dQ)(H:Hs aP an σ (Iv v l*R)):∃v' σ',vM [v] σ=δ (v',σ')/\Hs aP an σ' (Iv v' (fG l)*(Iv v l*R)):=
 CB (B:=aP) (λ_ _=>trivial) (cm:=[.s 1]) (r:=XJ xw) (uP:=[v]) (ts:=[sl 1 aO l]) ⟨AH pK H,trivial⟩ (RO hm) H
theorem J7{v:AV}{l:List Int}{st f:Int}(hs:1<=st)(hs2:st<=1000000)(hf:1<=f)(qV:f<=1000000)(hm:l.length+1<=dQ)(H:Hs aP an σ (Iv v l*R)):∃v' σ',zL [v,.ah st,.ah f] σ=δ (v',σ')/\Hs aP an σ' (Iv v' (pL l st f)*(Iv v l*R)):=
 CB (B:=aP) (λ_ _=>trivial) (cm:=[.s 1]) (r:=A.pg zN) (uP:=[v,.ah st,.ah f]) (ts:=[sl 1 aO l,.ah st,.ah f]) ⟨AH pK H,SH st,SH f,trivial⟩ (aaN hs hs2 hf qV hm) H
theorem adk{v0:AV}{l0:List Int}{b id:Nat}{m:List (Int×Bool)}(hl:l0.length<1000000)(H:Hs aP an σ (Iv v0 l0*(blk b (.box [.om id])*(blk id (.map (eB m))*R)))):
  ∃v' σ',Bz (U8 (λ_ _=>η) [(77,oF)]) [v0,.fn 77 [.op b 0]] σ=δ (v',σ')/\Hs aP an σ' (Iv v' (l0.filter λx=>!((aV x m).getD θ))*(blk b (.box [.om id])*(blk id (.map (eB m))*R))):=by
 have wg:∀x∈l0,∀s,Hs aP an s (blk b (.box [.om id])*(blk id (.map (eB m))*R))->A.gP (U8 (λ_ _=>η) [(77,oF)]) (.fn 77 [.op b 0]) [.ah x] s=δ (.bool ((aV x m).getD θ),s):=λx _ s K=>Z5 (dS K).2 (dS (bO (show _=blk id (.map (eB m))*(blk b (.box [.om id])*R) by ac_rfl) K)).2 x
 obtain⟨_,hb⟩:=dS (dR H);obtain⟨_,hm⟩:=dS (bO (show _=blk id (.map (eB m))*(blk b (.box [.om id])*R) by ac_rfl) (dR H))
 have hf:Ya σ 0 8 (.fn 77 [.op b 0])=δ (.fn 77 [.rp [gf (λx=>ε x) (λx=>φ x) m]]):=by simp only[Ya,XT,amn,if_false,hb,Xm,A.qK,hm];rw[Cj 6 (λp hp=>by obtain⟨x,_,rfl⟩:=fK.1 hp;exact⟨pM _ _,FX _⟩)];rfl
 have No:rD (U8 (λ_ _=>η) [(77,oF)]) [v0,.fn 77 [.op b 0]] σ=δ (.ah (mg (λx=>(aV x m).getD θ) l0),σ):=by
  have Uw:l0=[]->rD (U8 (λ_ _=>η) [(77,oF)]) [sl 1 aO ([]:List Int),.fn 77 [.op b 0]] σ=δ (.ah (mg (λx=>(aV x m).getD θ) l0),σ):=λe=>by rw[e];exact Oh _ [] (by unfold bD;simp) _ _ _ σ (λx hx=>by cases hx)
  rcases nF H with⟨h0,rfl|rfl,_⟩|⟨fR,g0,rfl,K0⟩
  ·exact(xF rfl rfl rfl:rD (U8 (λ_ _=>η) [(77,oF)]) [.aH,.fn 77 [.op b 0]] σ=rD (U8 (λ_ _=>η) [(77,oF)]) [sl 1 aO ([]:List Int),.fn 77 [.op b 0]] σ).trans (Uw h0)
  ·exact(xF rfl rfl rfl:rD (U8 (λ_ _=>η) [(77,oF)]) [.ez,.fn 77 [.op b 0]] σ=rD (U8 (λ_ _=>η) [(77,oF)]) [sl 1 aO ([]:List Int),.fn 77 [.op b 0]] σ).trans (Uw h0)
  have h2:Ya σ 0 8 (.os fR g0 1 0 l0.length)=δ (sl 1 aO l0):=Kq pK (dS K0).2 (amn _) 7;refine FO (args':=[sl 1 aO l0,.fn 77 [.rp [gf (λx=>ε x) (λx=>φ x) m]]]) rfl (by simp only[XT,h2,hf,aL];rfl) rfl (Oh _ l0 (by unfold bD;omega) _ _ _ [] λx hx=>?_) rfl;show oF [.ah x,.rp [gf (λx=>ε x) (λx=>φ x) m]] []=_;refine wrap_eq rfl ?_ rfl;show BB (.ah x) (.rp [gf (λx=>ε x) (λx=>φ x) m]) []=_;unfold BB;rw[mQ,bS,show Θ 0 [gf (λx=>ε x) (λx=>φ x) m]=δ (gf (λx=>ε x) (λx=>φ x) m)from rfl,bS];rw[QK,bS];rfl
 obtain⟨v',σ',e1,K⟩:=afE (qo:=.fn 77 [.op b 0]) (p:=λx=>(aV x m).getD θ) hl (λid g n=>by simp [A.gen]) No wg H;refine⟨v',σ',?_,K⟩;unfold Bz Φ;rw[Wt,aS,show ∀l,Z3 [] l=l from λl=>by simp [Z3]];show(BA _ v0 (.fn 77 [.op b 0]) σ).map _=_;rw[e1];simp [kY]
end
end
section
open HP
theorem agc(a b:Int):A.min (.ah a) (.ah b)=δ (.ah (min a b)):=by show δ (ε (if b<a then b else a))=_;congr 2;omega
theorem agb(a b:Int):A.max (.ah a) (.ah b)=δ (.ah (max a b)):=by show δ (ε (if b>a then b else a))=_;congr 2;omega
theorem vk{k j:Int}(h:k=j):z7 .i (.ah k) (.ah j)=δ (.bool ι):=by rw[cv,ga h]
theorem vi{k j:Int}(h:k≠j):z7 .i (.ah k) (.ah j)=δ (.bool θ):=by rw[cv,ia h]
def pU(l:List Int):List (Int×Bool):=l.foldl (λm x=>eu x ι m) []
theorem aaY(l:List Int)(x:Int):pU (l++[x])=eu x ι (pU l):=by unfold pU;rw[ZL];rfl
theorem alF(k:Int)(l:List Int):(aV k (pU l)).getD θ=decide (k∈l):=by
 have h:∀(l:List Int)(m:List (Int×Bool)),(aV k (l.foldl (λm x=>eu x ι m) m)).getD θ=(decide (k∈l)||(aV k m).getD θ):=by
  intro l;induction l with
  |nil=>intro m;simp
  |cons x l ih=>
   intro m;rw[Zc,ih,Fg];by_cases hk:k=x
   ·simp [hk]
   ·simp [hk]
 rw[pU,h l []];simp [aV]
theorem acn{k f t:Int}{n:Nat}(h:gQ k f t n=0):1<=k/\k<=9/\(k=5->n=2)/\(6<=k->n=1)/\(k=9->1<=f/\f<=9999/\1<=t/\t<=9999):=by
 unfold gQ at h;split at h
 ·cases h
 ·split at h
  ·cases h
  ·split at h
   ·cases h
   ·omega
theorem QJ{B:Nat}:∀{ls:List (List Int)},(∀l∈ls,l.length<=B)->ls.flatten.length<=ls.length*B
 |[],_=>by simp
 |l::ls,h=>by
  rw[WK,Λ,b9,fB];have h1:=h l u0;have h2:=QJ (B:=B) (ls:=ls) λx hx=>h x (iB _ hx)
  omega
section
variable {an σ : Heap} {R : HP} {C : yx}
theorem ac4{kn:List (Int×(AV×List Int))}{f:Int}{v:AV}{l:List Int}(H:Hs aP an σ (Iv v l*(bI C kn*R))):Hs aP an (σ.set C.k (.map (mq (eu f (v,l) kn)))) (bI C (eu f (v,l) kn)*R):=by have K:=pN (b':=.map (mq (eu f (v,l) kn))) (FF (bO (show _=bI C kn*(Iv v l*R) by ac_rfl) H)) trivial;have K2:=RE (k:=f) (v:=v) (l:=l) (kn:=kn) (bO (show _=Iv v l*(iE kn*(blk C.k (.map (mq (eu f (v,l) kn)))*(Iv C.vu C.U*(blk C.b (.box [C.vu,.om C.g,.om C.p,.om C.k])*(blk C.g (.map (eP C.gs))*(blk C.p (.map (eL C.ps))*R)))))) by ac_rfl) K);exact ad0 (bO (by ac_rfl) K2)
theorem OP{kn:List (Int×(AV×List Int))}{f:Int}{v:AV}{l:List Int}(hl:l.length<1000000)(hq:aV f kn=δ (v,l))(H:Hs aP an σ (bI C kn*R)):∃v' σ',vK [v] σ=δ (v',σ')/\Hs aP an σ' (Iv v' l*(bI C kn*R)):=by obtain⟨Q,hQ⟩:=RD hq;have hQ:iE kn=Iv v l*Q:=hQ;have K:=FF H;rw[hQ]at K;obtain⟨v',s',e,K2⟩:=aaI (by unfold dQ;omega) (bO (show _=Iv v l*(blk C.k (.map (mq kn))*(Q*(Iv C.vu C.U*(blk C.b (.box [C.vu,.om C.g,.om C.p,.om C.k])*(blk C.g (.map (eP C.gs))*(blk C.p (.map (eL C.ps))*R)))))) by ac_rfl) K);exact⟨v',s',e,bO (by rw[bI,hQ];ac_rfl) K2⟩
theorem abB{v h:AV}{ls:List (List Int)}{x:List Int}(hl:ls.length+1<=5864062014805)(H:Hs aP an σ (Iv h x*(Sl ig 1 v ls*R))):∃v' σ',wh 1 (140737488355328 / 24) v (.sl 1 [[h]]) σ=δ (v',σ')/\Hs aP an σ' (Sl ig 1 v' (ls++[x])*R):=
 KA (ys:=[[h]]) (xs:=[x]) (bO (show ig [h] x*(Sl ig 1 v ls*R)=Sl ig 1 v ls*(els ig [[h]] [x]*R) by rw[abO];ac_rfl) (R7 H)) (by simpa using hl) (λ_ _ _ _=>trivial)
theorem agR{h:AV}(hc:l5 h=δ h):(((l5 h).bind λv=>δ [v]).bind λgA=>(y9 0 gA [Ju]).bind λnZ=>δ nZ).bind (λcs=>δ (WV 1 (eO 1 1 cs)))=δ (.sl 1 [[h]]):=by rw[hc];rfl
theorem Tq(hU:C.U.length<=1000000)(hlen:∀n p,Rk C.gs C.ps n p->(uF C.U C.gs C.ps n p).length<1000000):∀(n N:Nat)(p:aD)(kn:List (Int×(AV×List Int)))(an σ:Heap)(R:HP),n<=N->Rk C.gs C.ps n p->tC C kn->Hs aP an σ (bI C kn*R)->
  ∃v σ' tT,fuel xe N 79 [.op C.b 0,.agg (aF p)] σ=δ (v,σ')/\tC C tT/\Hs aP an σ' (Iv v (uF C.U C.gs C.ps n p)*(bI C tT*R))
 |0,N,p,kn,an,σ,R,hn,hr,hk,H=>hr.elim
 |n+1,0,p,kn,an,σ,R,hn,hr,hk,H=>by omega
 |n+1,N+1,p,kn,an,σ,R,hn,VH,hkn,H=>by
  have hL:=hlen _ _ VH;have hr:=VH;rw[Rk]at hr;obtain⟨hpt,ha,hargs,hgr,Nv⟩:=hr
  have DC:∀l∈p.args.map (uF C.U C.gs C.ps n),l.length<1000000:=λl hl=>by obtain⟨a,h1,rfl⟩:=fK.1 hl;exact hlen _ _ (hargs a h1)
  suffices h:∃b:AV×Heap,zD (fuel xe N) (.op C.b 0) (.agg (aF p)) σ=δ b/\∃tT,tC C tT/\Hs aP an b.2 (Iv b.1 (uF C.U C.gs C.ps (n+1) p)*(bI C tT*R)) by obtain⟨⟨v,σ'⟩,h1,tT,h2,h3⟩:=h;refine⟨v,σ',tT,?_,h2,h3⟩;show Φ θ [] .k (XQ (zD (fuel xe N))) [.op C.b 0,.agg (aF p)] σ=_;unfold Φ;rw[Wt,aS];show(zD (fuel xe N) (.op C.b 0) (.agg (aF p)) σ).map _=_;rw[h1,dL,kY]
  have g0:Θ 0 (aF p)=δ (.ah p.kind):=by rw[aA];rfl
  have g1:Θ 1 (aF p)=δ (.ah p.aT):=by rw[aA];rfl
  have g2:Θ 2 (aF p)=δ (.ah p.to):=by rw[aA];rfl
  have g3:Θ 3 (aF p)=δ (sl 4 aF p.args):=by rw[aA];rfl
  have nc:A.gZ (.op C.b 0)=δ (.op C.b 0):=rfl;have M1:WN 0 (.op C.b 0)=δ (.op C.b 0):=rfl;have M4:WN 1 (.op C.b 0)=δ (.op C.b 1):=rfl;have M5:WN 2 (.op C.b 0)=δ (.op C.b 2):=rfl;have fa3:WN 3 (.op C.b 0)=δ (.op C.b 3):=rfl;obtain⟨rec,ff⟩:∃rec,rec=fuel xe N:=⟨_,rfl⟩
  have hfind:∀(q:aD)(kn:List (Int×(AV×List Int)))(σ:Heap)(R:HP),Rk C.gs C.ps n q->tC C kn->Hs aP an σ (bI C kn*R)->∃v σ' tT,rec 79 [.op C.b 0,.agg (aF q)] σ=δ (v,σ')/\tC C tT/\Hs aP an σ' (Iv v (uF C.U C.gs C.ps n q)*(bI C tT*R)):=λq kn σ R h1 h2 h3=>by rw[ff];exact Tq hU hlen n N q kn an σ R (by omega) h1 h2 h3
  rw[<-ff];have hml:p.args.length<=bD:=by unfold bD;omega
  unfold zD;rw[sU,bS,g3,bS,dh,bS];refine oL (Q:=λq=>∃va u eU,q.1=.exit 0/\q.2.1=[.lbx (aF p),va,u]/\tC C eU/\Hs aP an q.2.2 (Sl ig 1 va (p.args.map (uF C.U C.gs C.ps n))*(bI C eU*R))) (kP p.args (λi vs s=>∃va eU,vs=[.lbx (aF p),va,.ah (i:Int)]/\tC C eU/\Hs aP an s (Sl ig 1 va ((p.args.take i).map (uF C.U C.gs C.ps n))*(bI C eU*R))) ?_ ?_ ⟨.aH,kn,rfl,hkn,ji H (.inl rfl)⟩) ?_
  ·rintro i x vs s hx ⟨va,eU,rfl,hk1,K⟩;have a1:p9 (.ah (i:Int)) (.ah (p.args.length:Int))=δ (.bool ι):=fJ hx;have a2:o7 (.ah (i:Int)) (.ah 1)=δ (.ah ((i+1:Nat):Int)):=fM hx hml;have a3:EY 4 (sl 4 aF p.args) (.ah (i:Int))=δ (.rp (aF x)):=gm hx;obtain⟨v,s1,Bl,e1,hk2,K1⟩:=hfind x eU s (Sl ig 1 va ((p.args.take i).map (uF C.U C.gs C.ps n))*R) (hargs x (bR hx)) hk1 (bO (by ac_rfl) K);obtain⟨va',s2,e2,K2⟩:=abB (by have:=Wm i p.args;simp;omega) (bO (show _=Iv v (uF C.U C.gs C.ps n x)*(Sl ig 1 va ((p.args.take i).map (uF C.U C.gs C.ps n))*(bI C Bl*R)) by ac_rfl) K1);refine⟨_,s2,?_,va',Bl,rfl,hk2,?_⟩
   ·simp only[bW,eM,a1,a2,a3,bS,cT,mQ,ur,sU,qI _ _ (rfl:([(ε 0),(ε 0),(ε 0),Ju]:aq).length=4),e1,agR (Ap K1),e2]
   ·rw[u6,hx,Ym,Tm];exact K2
  ·rintro vs s ⟨va,eU,rfl,hk1,K⟩;rw[VZ]at K;refine⟨(.exit 0,[.lbx (aF p),va,.ah (p.args.length:Int)],s),?_,by simp,va,_,eU,rfl,rfl,hk1,K⟩;simp only[bW,eM,fL,bS,cF]
  rintro⟨q1,q2,s⟩ ⟨va,u,eU,rfl,rfl,hk1,K⟩;simp only at K;clear H hkn;have K0:=dR K;have d0:=TS K0;have d1:=Lz K0;have d2:=LA K0;have d3:=TT K0;rw[mu];simp only[bW,eM,wK,bS,g0,g1,g2,nc,M1,M4,M5,fa3,d0,d1,d2,d3];obtain⟨yT,hk9,hk5,hk6,afY⟩:=acn hpt;rw[uF]at hL ⊢
  have hrow:∀i:Nat,i<p.args.length->(p.args.map (uF C.U C.gs C.ps n))[i]? =δ ((p.args.map (uF C.U C.gs C.ps n)).getD i []):=λi hi=>by rw[XR,wu,cA hi];rfl
  have DH:∀i:Nat,((p.args.map (uF C.U C.gs C.ps n)).getD i []).length<1000000:=λi=>by
   by_cases hi:i<p.args.length
   ·exact DC _ (bR (hrow i hi))
   ·rw[XR,iW (by simp;omega)];simp
  have afZ:(p.args.map (uF C.U C.gs C.ps n)).length=p.args.length:=p7 ..;generalize p.args.map (uF C.U C.gs C.ps n)=ls at K hrow DH DC hL afZ ⊢;unfold xM at hL ⊢;by_cases h1:p.kind=1
  ·rw[aC h1]at hL ⊢;rw[vk h1,bS,cT,agc,bS,agb,bS,rR (uo K0),bS];refine oL (Q:=λq=>∃w u,q.1=.exit 3/\q.2.1=[.lbx (aF p),w,u]/\Hs aP an q.2.2 (Iv w (C.U.filter λn=>bu n (min p.aT p.to) (max p.aT p.to))*(bI C eU*R))) (kP C.U (λi vs s=>∃w,vs=[.lbx (aF p),w,.ah (i:Int)]/\Hs aP an s (Iv w ((C.U.take i).filter λn=>bu n (min p.aT p.to) (max p.aT p.to))*(bI C eU*R))) ?_ ?_ ⟨.aH,rfl,ji K0 (.inl rfl)⟩) ?_
   ·rintro i x vs s2 hx ⟨w,rfl,K2⟩;have a1:p9 (.ah (i:Int)) (.ah (C.U.length:Int))=δ (.bool ι):=fJ hx;have a2:o7 (.ah (i:Int)) (.ah 1)=δ (.ah ((i+1:Nat):Int)):=fM hx (by unfold bD;omega);obtain⟨pp,f1,f2⟩:=xJ (uo (dR K2)) hx;rw[ac5 hx];by_cases hlo:min p.aT p.to<=x
    ·by_cases hhi:x<=max p.aT p.to
     ·rw[aC (show bu x (min p.aT p.to) (max p.aT p.to)=ι from ga ⟨hlo,hhi⟩)];obtain⟨w',s3,e1,K3⟩:=AG (B:=aP) (x:=x) (λ_ _ _ _=>trivial) (by have:=ac6 (p:=λn=>bu n (min p.aT p.to) (max p.aT p.to)) C.U i;unfold dQ;omega) K2;refine⟨_,s3,?_,w',rfl,K3⟩;simp only[bW,eM,a1,a2,f1,f2,bS,cT,oI,CI,ga hlo,ga hhi,gT,Hu,yc,e1]
     ·rw[aB (show ¬bu x (min p.aT p.to) (max p.aT p.to)=ι from λh=>hhi (of_decide_eq_true h).2)];refine⟨_,s2,?_,w,rfl,K2⟩;simp only[bW,eM,a1,a2,f1,f2,bS,cT,cF,oI,CI,ga hlo,ia hhi,gT,Hu]
    ·rw[aB (show ¬bu x (min p.aT p.to) (max p.aT p.to)=ι from λh=>hlo (of_decide_eq_true h).1)];refine⟨_,s2,?_,w,rfl,K2⟩;simp only[bW,eM,a1,a2,f1,f2,bS,cT,cF,oI,CI,ia hlo,Ve,D1]
   ·rintro vs s2 ⟨w,rfl,K2⟩;rw[VZ]at K2;refine⟨(.exit 3,[.lbx (aF p),w,.ah (C.U.length:Int)],s2),?_,by simp,w,_,rfl,rfl,K2⟩;simp only[bW,eM,fL,bS,cF]
   ·rintro⟨q1,q2,s2⟩ ⟨w,u2,rfl,rfl,K2⟩;simp only at K2;unfold Gu;rw[mu];simp only[bW,eM,wK,bS,g1,g2,Lj];by_cases hft:p.to<p.aT
    ·rw[aC hft,ga hft,cT];obtain⟨s3,e1,K3⟩:=La (by have:=W1 (λn=>bu n (min p.aT p.to) (max p.aT p.to)) C.U;omega) K2;exact⟨(w,s3),by simp only[e1,bS],eU,hk1,K3⟩
    ·rw[aB hft,ia hft,cF];exact⟨(w,s2),by simp only[bS],eU,hk1,K2⟩
  rw[aB h1]at hL ⊢;rw[vi h1,bS,cF];by_cases h2:p.kind=2
  ·rw[aC h2]at hL ⊢;obtain⟨g,hg1,hg2⟩:=hgr h2;simp only[hg1]at hL ⊢;rw[vk h2,bS,cT,adY K0,bS];cases hq:aV p.aT eU with
   |some x=>
    obtain⟨v,l⟩:=x;obtain⟨g',m,q1,q2,q3⟩:=hk1 _ (B5 hq);simp only at q1 q3;obtain rfl:g'=g:=amD (q1.symm.trans hg1)
    have hl:l=uF C.U C.gs C.ps n g':=by rw[q3,<-CG C.U C.gs C.ps q2 (Nat.le_max_left m n),<-CG C.U C.gs C.ps hg2 (Nat.le_max_right m n)]
    rw[hl]at hq;obtain⟨v',s',e1,K1⟩:=OP hL hq K0;refine⟨(v',s'),?_,eU,hk1,K1⟩;simp only[dL,Y6,Option.isSome_some,su,ext1,bS,ya,cF,bW,e1]
   |none=>obtain⟨v,s1,Bl,e1,hk2,K1⟩:=hfind g eU s R hg2 hk1 K0;have e2:=TT (dR K1);have e3:=ad3 (dR K1) p.aT v (uF C.U C.gs C.ps n g);have K2:=ac4 (f:=p.aT) K1;obtain⟨v',s',e4,K3⟩:=OP hL (show aV p.aT (eu p.aT (v,uF C.U C.gs C.ps n g) Bl)=δ (v,uF C.U C.gs C.ps n g) by rw[Fg,aC rfl]) K2;refine⟨(v',s'),?_,_,hk2.put hg1 hg2,K3⟩;simp only[Option.map_none,Xn,Option.isSome_none,su,ext1,bS,CT,cT,adX K0 hg1,e1,e2,e3,bW,e4]
  rw[aB h2]at hL ⊢;rw[vi h2,bS,cF];by_cases h3:p.kind=3
  ·rw[aC h3]at hL ⊢;obtain⟨l,hl⟩:=Nv h3;simp only[hl,Y6]at hL ⊢;obtain⟨v,s1,e1,_,K1⟩:=afD (l:=l) (by unfold dQ;omega) K0;refine⟨(v,s1),?_,eU,hk1,K1⟩;simp only[vk h3,bS,cT,adZ K0 hl,e1]
  rw[aB h3]at hL ⊢;rw[vi h3,bS,cF];by_cases h4:p.kind=4
  ·rw[aC h4]at hL ⊢;have hfl:ls.flatten.length<=200*1000000:=o8 (QJ λl hl=>Nat.le_of_lt (DC l hl)) (kU _ (by omega));obtain⟨v,s1,e1,K1⟩:=adW (by unfold bD;omega) (by omega) K;obtain⟨v2,s2,e2,K2⟩:=adw (by unfold dQ;omega) K1;refine⟨(v2,s2),?_,eU,hk1,dR (bO (show _=(Iv v ls.flatten*Sl ig 1 va ls)*(Iv v2 (fG ls.flatten)*(bI C eU*R)) by ac_rfl) K2)⟩;simp only[vk h4,bS,cT,e1,e2]
  rw[aB h4]at hL ⊢;rw[vi h4,bS,cF];by_cases h5:p.kind=5
  ·rw[aC h5]at hL ⊢;have hn2:=hk5 h5;obtain⟨x1,hx1⟩:∃x1,x1=ls.getD 1 []:=⟨_,rfl⟩
   obtain⟨x0,hx0⟩:∃x0,x0=ls.getD 0 []:=⟨_,rfl⟩
   have r1:=hrow 1 (by omega);have r0:=hrow 0 (by omega);have l1:=DH 1;have l0:=DH 0;rw[<-hx1]at r1 l1 hL ⊢;rw[<-hx0]at r0 l0 hL ⊢;rw[vk h5,bS,cT];have K1:=rP (b:=.map (eB [])) K trivial;have K2:=rP (b:=.box [.nm]) K1 trivial;obtain⟨id,hid⟩:∃id,id=Xg s:=⟨_,rfl⟩
   obtain⟨bb,uY⟩:∃bb,bb=Xg (s++[j0 []]):=⟨_,rfl⟩
   have afS:bb=Xg (s++[j0 (eB [])]):=uY;rw[<-afS,<-hid]at K2
   have st1:u7 (.op bb 0) [.om id] (s++[j0 []]++[WE [AV.nm]])=δ ((s++[j0 []]++[WE [AV.nm]]).set bb (.box [.om id])):=by have:=(dS K2).2;have t:(s++[j0 []]++[WE [AV.nm]])[bb]? =δ (.box [.nm]):=this;simp only[u7,t];rfl
   have K3:=pN (b':=.box [.om id]) K2 trivial;rw[<-hid,<-uY];rw[show((l5 (Wu id)).bind λv=>δ [v])=δ [.om id]from rfl,bS,st1,bS];obtain⟨s3,Nx⟩:∃s3,s3=(s++[j0 []]++[WE [AV.nm]]).set bb (.box [.om id]):=⟨_,rfl⟩
   have K3':Hs aP an s3 (blk bb (.box [.om id])*(blk id (.map (eB []))*(Sl ig 1 va ls*(bI C eU*R)))):=by rw[Nx];exact K3
   rw[<-Nx];clear K3 K2 K1 K Nx st1;obtain⟨p1,v1,Q1,f1,K4,f2,back⟩:=rowAt (bO (show _=Sl ig 1 va ls*(blk bb (.box [.om id])*(blk id (.map (eB []))*(bI C eU*R))) by ac_rfl) K3') r1;have f3:=f2 s3 _ (dR K4);rw[show EY 1 va (.ah 1)=δ p1 from f1,bS,f3,bS,show Θ 0 [v1]=δ v1 from Ap K4,bS,rR K4,bS];refine oL (Q:=λq=>∃u,q.1=.exit 5/\q.2.1=[u]/\Hs aP an q.2.2 (Iv v1 x1*(Q1*(blk bb (.box [.om id])*(blk id (.map (eB (pU x1)))*(bI C eU*R)))))) (kP x1 (λi vs s=>vs=[.ah (i:Int)]/\Hs aP an s (Iv v1 x1*(Q1*(blk bb (.box [.om id])*(blk id (.map (eB (pU (x1.take i))))*(bI C eU*R)))))) ?_ ?_ ⟨rfl,K4⟩) ?_
   ·rintro i x vs s4 hx ⟨rfl,K5⟩;have a1:p9 (.ah (i:Int)) (.ah (x1.length:Int))=δ (.bool ι):=fJ hx;have a2:o7 (.ah (i:Int)) (.ah 1)=δ (.ah ((i+1:Nat):Int)):=fM hx (by unfold bD;omega);obtain⟨pp,b1,b2⟩:=xJ K5 hx;have b3:=(dS (bO (show _=blk bb (.box [.om id])*(Iv v1 x1*(Q1*(blk id (.map (eB (pU (x1.take i))))*(bI C eU*R)))) by ac_rfl) K5)).2;have b4:((ψ (.op bb 0) s4).bind λc=>Θ 0 c)=δ (.om id):=by simp only[ψ,b3,aL];rfl
    have K6:=bO (show _=blk id (.map (eB (pU (x1.take i))))*(Iv v1 x1*(Q1*(blk bb (.box [.om id])*(bI C eU*R)))) by ac_rfl) K5;have b5:=agW (dS K6).2 x ι;have K7:=pN (b':=.map (eB (eu x ι (pU (x1.take i))))) K6 trivial;refine⟨_,s4.set id (.map (eB (eu x ι (pU (x1.take i))))),?_,rfl,?_⟩
    ·simp only[bW,a1,a2,b1,b2,bS,cT,oI,b4,b5]
    ·rw[u6,hx,Ym,aaY];exact bO (by ac_rfl) K7
   ·rintro vs s4 ⟨rfl,K5⟩;rw[VZ]at K5;refine⟨(.exit 5,[.ah (x1.length:Int)],s4),?_,by simp,_,rfl,rfl,K5⟩;simp only[bW,fL,bS,cF]
   ·rintro⟨q1,q2,s4⟩ ⟨u2,rfl,rfl,K5⟩;simp only at K5;rw[mu];have K6:=back s4 _ K5;obtain⟨p0,v0,Q0,c1,K7,c2,_⟩:=rowAt K6 r0;have c3:=c2 s4 _ (dR K7);obtain⟨v',s5,e5,K8⟩:=adk l0 (bO (show _=Iv v0 x0*(blk bb (.box [.om id])*(blk id (.map (eB (pU x1)))*(Q0*(bI C eU*R)))) by ac_rfl) K7);simp only[alF]at K8;refine⟨(v',s5),?_,eU,hk1,dR (bO (show _=(blk bb (.box [.om id])*(blk id (.map (eB (pU x1)))*Q0))*(Iv v' (x0.filter λx=>!decide (x∈x1))*(bI C eU*R)) by ac_rfl) K8)⟩;rw[show EY 1 va (.ah 0)=δ p0 from c1,bS,c3,bS,show Θ 0 [v0]=δ v0 from Ap K7,bS,e5,bS]
  rw[aB h5]at hL ⊢;rw[vi h5,bS,cF];obtain⟨p0,v0,Q0,c1,K7,c2,_⟩:=rowAt K (hrow 0 (by omega));have GX:EY 1 va (.ah 0)=δ p0:=c1;have c3:=c2 s _ (dR K7);have c4:Θ 0 [v0]=δ v0:=Ap K7;have l0:=DH 0;have NH:(ls.getD 0 []).length+1<=dQ:=by unfold dQ;omega
  by_cases h6:p.kind=6
  ·rw[aC h6]at hL ⊢;obtain⟨v',s',e1,K8⟩:=J7 (st:=2) (f:=1) (by omega) (by omega) (by omega) (by omega) NH K7;refine⟨(v',s'),?_,eU,hk1,dR (bO (show _=(Iv v0 (ls.getD 0 [])*Q0)*(Iv v' (pL (ls.getD 0 []) 2 1)*(bI C eU*R)) by ac_rfl) K8)⟩;rw[vk h6,bS,cT,GX,bS,c3,bS,c4,bS,e1,bS]
  rw[aB h6]at hL ⊢;rw[vi h6,bS,cF];by_cases h7:p.kind=7
  ·rw[aC h7]at hL ⊢;obtain⟨v',s',e1,K8⟩:=J7 (st:=2) (f:=2) (by omega) (by omega) (by omega) (by omega) NH K7;refine⟨(v',s'),?_,eU,hk1,dR (bO (show _=(Iv v0 (ls.getD 0 [])*Q0)*(Iv v' (pL (ls.getD 0 []) 2 2)*(bI C eU*R)) by ac_rfl) K8)⟩;rw[vk h7,bS,cT,GX,bS,c3,bS,c4,bS,e1,bS]
  rw[aB h7]at hL ⊢;rw[vi h7,bS,cF];by_cases h8:p.kind=8
  ·rw[aC h8]at hL ⊢;obtain⟨s',e1,K8⟩:=La (by omega) K7;have c5:=c2 s' _ (dR K8);refine⟨(v0,s'),?_,eU,hk1,dR (bO (show _=Q0*(Iv v0 (ls.getD 0 []).reverse*(bI C eU*R)) by ac_rfl) K8)⟩;rw[vk h8,bS,cT,GX,bS,c3,bS,c4,bS,e1,bS,bS];simp only;rw[c5,bS,c4,bS]
  rw[aB h8]at hL ⊢;rw[vi h8,bS,cF];have h9:p.kind=9:=by omega
  obtain⟨t1,t2,t3,t4⟩:=afY h9;obtain⟨v',s',e1,K8⟩:=J7 (st:=p.aT) (f:=p.to) t1 (by omega) t3 (by omega) NH K7;refine⟨(v',s'),?_,eU,hk1,dR (bO (show _=(Iv v0 (ls.getD 0 [])*Q0)*(Iv v' (pL (ls.getD 0 []) p.aT p.to)*(bI C eU*R)) by ac_rfl) K8)⟩;rw[GX,bS,c3,bS,c4,bS,e1,bS]
end
end
section
def tG(l:List bG)(n:Int):Option bG:=l.find? λg=>decide (g.aI=n)
def Cw(l:List bG):List Int:=l.flatMap λg=>fV 2 g.pick
theorem aaT(l:List bG):Cw l=gp (gq l):=by unfold Cw gp gq;rw[List.flatMap_map]
end
section
open HP
def dc(gl:List bG):List (Int×aD):=gl.map λg=>(g.aI,g.pick)
def oW(x:eE):List Int:=x.gC.map λs=>s.key.unit
def fC(pl:List eE):List (Int×List Int):=pl.map λx=>(x.aI,fG (oW x))
def fk(r:cS):List Int:=r.eZ.map dZ.aI
theorem alB(gl:List bG)(f:Int):aV f (dc gl)=(tG gl f).map bG.pick:=by
 unfold dc tG;induction gl with
 |nil=>rfl
 |cons g l ih=>
  rw[bU,aV,List.find?_cons];by_cases h:g.aI=f
  ·rw[aC h.symm,ga h];rfl
  ·rw[aB (Ne.symm h),ia h];exact ih
section
variable {an σ : Heap} {R : HP}
end
end
theorem adC(p:aD)(h:bn p<=2000000)(σ:Heap):IK [.agg (aF p)] σ=δ (.aN [.ah (bn p:Int),.ah (dK p:Int)],σ):=SX 2000000 p σ (o8 (zX p) h) (o8 h (by decide))
theorem abL(p:aD)(h:bn p<=2000000)(σ:Heap):Iq [.agg (aF p)] σ=δ (.ah (dm p),σ):=Ri 2000000 p σ (o8 (zX p) h) (o8 h (by decide))
section
def xu (a0:aD):Option Int:=
 (tq (bn a0<=2000000) (((bn a0:Int),(dK a0:Int)))).bind λr1=>
 if((decide (200<r1.1))||(decide (12<r1.2)))=ι then
  δ 2
 else
 (tq (bn a0<=2000000) (dm a0)).bind λr2=>
 δ r2
theorem Io{a0:aD}{σ:Heap}{r:Int}(h:xu a0=δ r):zK [(l8 (aF a0))] σ=δ ((ε r),σ):=by
 refine vQ (f:=Iw) (y0:=(l8 (aF a0))) (enc:=λr:Int=>(ε r)) (T:=xu a0) (by first|rfl|(simp only[aA];rfl)) (by first|rfl|(simp only[aA];rfl)) ?_ r h;unfold Iw xu;refine au (aF a0) (by first|rfl|(simp only[aA];rfl))<|au (l8 (aF a0)) (by first|rfl|(simp only[aA];rfl)) ?_;refine cE (λr1:(Int×Int)=>((YM [(ε r1.1),(ε r1.2)]),σ)) (λr1 mz=>(rW (e:=λr:(Int×Int)=>((YM [(ε r.1),(ε r.2)]),σ)) (λhs=>adC a0 hs σ)) mz) (λr1 mz=>?_);refine au (ε r1.1) (by first|rfl|(simp only[aA];rfl))<|au (ε r1.2) (by first|rfl|(simp only[aA];rfl))<|au (φ (decide (200<r1.1))) (by first|rfl|(simp only[aA];rfl))<|bT (ε r1.2) (λhg=>by first|rfl|(simp only[aA];rfl))<|bT (φ (decide (12<r1.2))) (λhg=>by(try rw[hg]);exact rfl)<|au _ (kT _ _) ?_;refine gR (c:=((decide (200<r1.1))||(decide (12<r1.2)))) (λc3=>?_) (λc3=>?_)
 ·exact cD _ (cq _ _) ⟨rfl,rfl⟩
 refine au (l8 (aF a0)) (by first|rfl|(simp only[aA];rfl)) ?_;refine cE (λr2:Int=>((ε r2),σ)) (λr2 jQ=>(rW (e:=λr:Int=>((ε r),σ)) (λhs=>abL a0 hs σ)) jQ) (λr2 jQ=>?_);exact cD _ (cq _ _) ⟨rfl,rfl⟩
def BG (a0:(List bG)):Option Int:=
 if 200<(a0.length:Int)then
  δ 2
 else
 iJ a0 (λ(i8:Nat)e7(s1:Unit)=>(show Option (Lr Unit Unit Int)from
   if(!(bu e7.aI 1 999))=ι then
    δ (.ret 1)
   else
   (if decide (0<(i8:Int))=ι then nh a0 (Ξ.wrap ((i8:Int) -1))else δ default).bind λx9=>
   if((decide (0<(i8:Int)))&&(decide (e7.aI<=x9.aI)))=ι then
    δ (.ret 7)
   else
   (xu e7.pick).bind λpE=>
   if ¬(pE=0)then
    δ (.ret pE)
   else
   δ (.go ()))) (λs1=>δ ()) () (λb2=>
  (tq ((a0.map bG.aI).Nodup/\(∀g∈a0,bn g.pick<=2000000)/\a0.length<=bD) (gq a0)).bind λcN=>
  iJ a0 (λ(NB:Nat)A9(HB:Unit)=>(show Option (Lr Unit Unit Int)from
    iJ ((aV A9.aI cN).getD ([]:(List Int))) (λ(NC:Nat)wL(HC:Unit)=>(show Option (Lr Unit Unit Int)from
      if(!((aV wL cN).isSome))=ι then
       δ (.ret 8)
      else
      δ (.go ()))) (λHC=>δ ()) () (λyB=>
     δ (.go ())) (λyB=>
     δ (.ret yB)))) (λHB=>δ ()) () (λyA=>
   iJ a0 (λ(ND:Nat)tN(HD:Unit)=>(show Option (Lr Unit Unit Int)from
     (tq ((gp cN).length+1<=dQ) ((td cN tN.aI).map λx=>(x,ι))).bind λBn=>
     if((aV tN.aI Bn).getD θ)=ι then
      δ (.ret 11)
     else
     δ (.go ()))) (λHD=>δ ()) () (λyC=>
    δ 0) (λyC=>
    δ yC)) (λyA=>
   δ yA)) (λb2=>
  δ b2)
theorem WX{a0:(List bG)}{σ:Heap}{r:Int}(h:BG a0=δ r):EI [(sl 5 bV a0)] σ=δ ((ε r),σ):=by
 refine vQ (f:=H7) (y0:=(sl 5 bV a0)) (enc:=λr:Int=>(ε r)) (T:=BG a0) (by first|rfl|(simp only[aA];rfl)) (by first|rfl|(simp only[aA];rfl)) ?_ r h;unfold H7 BG;refine au _ (dh _ _ _)<|au (φ (decide (200<(a0.length:Int)))) (by first|rfl|(simp only[aA];rfl)) ?_;refine dF (p:=200<(a0.length:Int)) (λjA=>?_) (λjA=>?_)
 ·exact cD _ (cq _ _) ⟨rfl,rfl⟩
 refine au _ (dh _ _ _) ?_;refine nJ (B:=Unit) (R:=Int) (λ(i8:Nat)(s1:Unit)v w3=>v=[(ε 0),(ε (i8:Int))]/\σ=w3) (λ(b2:Unit)(q:LS)=>∃u2 Ef,q=((Γ 0),([u2,Ef]:aq),σ)) (λ(b2:Int)(q:LS)=>∃Ef,q=(l7,([(ε b2),Ef]:aq),σ)) ?_ ?_ ⟨rfl,rfl⟩ ?_ ?_
 ·intro CP i8 e7 s1 v w3 sE hI;obtain⟨rfl,rfl⟩:=hI;refine au _ (fJ sE)<|nN<|au _ (gm sE)<|au (l8 (bV e7)) (by first|rfl|(simp only[aA];rfl))<|au (bV e7) (by first|rfl|(simp only[aA];rfl))<|au _ (Fu _ _ rfl)<|au (ε e7.aI) (by first|rfl|(simp only[aA];rfl))<|au _ (iQ e7.aI 1 999 σ)<|au (φ (!(bu e7.aI 1 999))) (by first|rfl|(simp only[aA];rfl)) ?_;refine gR (c:=(!(bu e7.aI 1 999))) (λmm=>?_) (λmm=>?_)
  ·exact bz (jG (by simp) ⟨_,rfl⟩)
  refine au (φ (decide (0<(i8:Int)))) (by first|rfl|(simp only[aA];rfl))<|dU (ε e7.aI) (λhg=>by first|rfl|(simp only[aA];rfl))<|dU (sl 5 bV a0) (λhg=>by first|rfl|(simp only[aA];rfl))<|dU (ε (i8:Int)) (λhg=>by first|rfl|(simp only[aA];rfl))<|dU (ε (Ξ.wrap ((i8:Int) -1))) (λhg=>by(try rw[hg]);exact rfl) ?_;refine Ga (ω:=bG) (λx9=>(Zh (bV x9))) (λhg x9 DR=>by(try rw[hg]);exact uC DR) (λx9 DR=>?_);refine dU (Zh (bV x9)) (λhg=>by(try rw[hg]);exact rfl)<|dU (ε x9.aI) (λhg=>by(try rw[hg]);exact rfl)<|dU (φ (decide (e7.aI<=x9.aI))) (λhg=>by(try rw[hg]);exact rfl)<|au _ (iG _ _) ?_;refine gR (c:=((decide (0<(i8:Int)))&&(decide (e7.aI<=x9.aI)))) (λdG=>?_) (λdG=>?_)
  ·exact bz (jG (by simp) ⟨_,rfl⟩)
  refine au (l8 (aF e7.pick)) (by first|rfl|(simp only[aA];rfl)) ?_;refine cE (λpE:Int=>((ε pE),σ)) (λpE TX=>Io TX) (λpE TX=>?_);refine au _ (fW _ _ _) ?_;refine dF (p:=¬(pE=0)) (λfH=>?_) (λfH=>?_)
  ·exact bz (jG (by simp) ⟨_,rfl⟩)
  refine au _ (fM sE CP) ?_;exact bz (nK ⟨rfl,rfl⟩)
 ·intro hl s1 v w3 hI;obtain⟨rfl,rfl⟩:=hI;refine au _ (fL _)<|nM ?_;exact bz ⟨by simp,⟨_,_,rfl⟩⟩
 ·intro hl b2 q hq;obtain⟨u2,Ef,rfl⟩:=hq;refine gH (by first|rfl|(simp only[aA];rfl)) ?_;refine cE (λcN:(List (Int×(List Int)))=>((gf (λx=>(ε x)) (λx=>(kZ 1 aO x)) cN),σ)) (λcN T0=>(rW (e:=λr:(List (Int×(List Int)))=>((gf (λx=>(ε x)) (λx=>(kZ 1 aO x)) r),σ)) (λhs=>adK a0 hs.1 hs.2.1 hs.2.2 σ)) T0) (λcN T0=>?_);refine au _ (dh _ _ _) ?_;refine nJ (B:=Unit) (R:=Int) (λ(NB:Nat)(HB:Unit)v N5=>∃u2,v=[u2,(ε (NB:Int))]/\σ=N5) (λ(yA:Unit)(q:LS)=>∃u2 Eh,q=((Γ 2),([u2,Eh]:aq),σ)) (λ(yA:Int)(q:LS)=>∃Eh,q=(l7,([(ε yA),Eh]:aq),σ)) ?_ ?_ ⟨_,rfl,rfl⟩ ?_ ?_
  ·intro hle21 NB A9 HB v N5 LJ hI;obtain⟨u2,rfl,rfl⟩:=hI;refine au _ (fJ LJ)<|nN<|au _ (gm LJ)<|au (l8 (bV A9)) (by first|rfl|(simp only[aA];rfl))<|au (bV A9) (by first|rfl|(simp only[aA];rfl))<|au _ (Fu _ _ rfl)<|au (ε A9.aI) (by first|rfl|(simp only[aA];rfl))<|au _ (B8 (ek:=.i) (eK:=(λx=>(ε x))) (eV:=(λx=>(kZ 1 aO x))) (kN _) A9.aI ([]:(List Int)) rfl)<|au _ (RF _ _ _) ?_;refine nJ (B:=Unit) (R:=Int) (λ(NC:Nat)(HC:Unit)v N6=>∃u2,v=[u2,(ε (NC:Int))]/\σ=N6) (λ(yB:Unit)(q:LS)=>∃u2 Ei,q=((Γ 4),([u2,Ei]:aq),σ)) (λ(yB:Int)(q:LS)=>∃Ei,q=(l7,([(ε yB),Ei]:aq),σ)) ?_ ?_ ⟨_,rfl,rfl⟩ ?_ ?_
   ·intro aec NC wL HC v N6 LK hI;obtain⟨u2,rfl,rfl⟩:=hI;refine au _ (fJ LK)<|nN<|au _ (RB LK)<|au (ε wL) (by first|rfl|(simp only[aA];rfl))<|au _ (ai7 (ek:=.i) (eK:=(λx=>(ε x))) (eV:=(λx=>(kZ 1 aO x))) (kN _) wL ([]:(List Int)) rfl)<|au (kZ 1 aO ((aV wL cN).getD ([]:(List Int)))) (by first|rfl|(simp only[aA];rfl))<|au (φ (aV wL cN).isSome) (by first|rfl|(simp only[aA];rfl))<|au (φ (!((aV wL cN).isSome))) (by first|rfl|(simp only[aA];rfl)) ?_;refine gR (c:=(!((aV wL cN).isSome))) (λsB=>?_) (λsB=>?_)
    ·exact bz (jG (by simp) ⟨_,rfl⟩)
    refine au _ (fM LK aec) ?_;exact bz (nK ⟨_,rfl,rfl⟩)
   ·intro hl HC v N6 hI;obtain⟨u2,rfl,rfl⟩:=hI;refine au _ (fL _)<|nM ?_;exact bz ⟨by simp,⟨_,_,rfl⟩⟩
   ·intro hl yB q hq;obtain⟨u2,Ei,rfl⟩:=hq;refine gH (by first|rfl|(simp only[aA];rfl))<|au _ (fM LJ hle21) ?_;exact bz (nK ⟨_,rfl,rfl⟩)
   ·intro hl yB q hq;obtain⟨Ei,rfl⟩:=hq;refine qM (by first|rfl|(simp only[aA];rfl))<|gH (by first|rfl|(simp only[aA];rfl)) ?_;exact bz (jG (by simp) ⟨_,rfl⟩)
  ·intro hl HB v N5 hI;obtain⟨u2,rfl,rfl⟩:=hI;refine au _ (fL _)<|nM ?_;exact bz ⟨by simp,⟨_,_,rfl⟩⟩
  ·intro hl yA q hq;obtain⟨u2,Eh,rfl⟩:=hq;refine gH (by first|rfl|(simp only[aA];rfl))<|au _ (dh _ _ _) ?_;refine nJ (B:=Unit) (R:=Int) (λ(ND:Nat)(HD:Unit)v N7=>∃u2,v=[u2,(ε (ND:Int))]/\σ=N7) (λ(yC:Unit)(q:LS)=>∃u2 Ek,q=((Γ 6),([u2,Ek]:aq),σ)) (λ(yC:Int)(q:LS)=>∃Ek,q=(l7,([(ε yC),Ek]:aq),σ)) ?_ ?_ ⟨_,rfl,rfl⟩ ?_ ?_
   ·intro aed ND tN HD v N7 LL hI;obtain⟨u2,rfl,rfl⟩:=hI;refine au _ (fJ LL)<|nN<|au _ (gm LL)<|au (l8 (bV tN)) (by first|rfl|(simp only[aA];rfl))<|au (bV tN) (by first|rfl|(simp only[aA];rfl))<|au _ (Fu _ _ rfl)<|au (ε tN.aI) (by first|rfl|(simp only[aA];rfl)) ?_;refine cE (λBn:(List (Int×Bool))=>(gf (λx=>(ε x)) (λx=>(φ x)) Bn)) (λBn T9=>(iR ((rW (e:=λr:(List (Int×Bool))=>((gf (λx=>(ε x)) (λx=>(φ x)) r),σ)) (λhs=>acs cN hs tN.aI σ)) T9))) (λBn T9=>?_);refine au (ε tN.aI) (by first|rfl|(simp only[aA];rfl))<|au _ (B8 (ek:=.i) (eK:=(λx=>(ε x))) (eV:=(λx=>(φ x))) (kN _) tN.aI θ rfl) ?_;refine gR (c:=((aV tN.aI Bn).getD θ)) (λqm=>?_) (λqm=>?_)
    ·exact bz (jG (by simp) ⟨_,rfl⟩)
    refine au _ (fM LL aed) ?_;exact bz (nK ⟨_,rfl,rfl⟩)
   ·intro hl HD v N7 hI;obtain⟨u2,rfl,rfl⟩:=hI;refine au _ (fL _)<|nM ?_;exact bz ⟨by simp,⟨_,_,rfl⟩⟩
   ·intro hl yC q hq;obtain⟨u2,Ek,rfl⟩:=hq;refine gH (by first|rfl|(simp only[aA];rfl)) ?_;exact cD _ (cq _ _) ⟨rfl,rfl⟩
   ·intro hl yC q hq;obtain⟨Ek,rfl⟩:=hq;refine qM (by first|rfl|(simp only[aA];rfl))<|gH (by first|rfl|(simp only[aA];rfl)) ?_;exact cD _ (cq _ _) ⟨rfl,rfl⟩
  ·intro hl yA q hq;obtain⟨Eh,rfl⟩:=hq;refine qM (by first|rfl|(simp only[aA];rfl))<|gH (by first|rfl|(simp only[aA];rfl)) ?_;exact cD _ (cq _ _) ⟨rfl,rfl⟩
 ·intro hl b2 q hq;obtain⟨Ef,rfl⟩:=hq;refine qM (by first|rfl|(simp only[aA];rfl))<|gH (by first|rfl|(simp only[aA];rfl)) ?_;exact cD _ (cq _ _) ⟨rfl,rfl⟩
def BH (a0:(List Int)) (a1:(List Int)):Option Bool:=
 if ¬((a0.length:Int)=(a1.length:Int))then
  δ θ
 else
 iJ a0 (λ(i8:Nat)e7(s1:Unit)=>(show Option (Lr Unit Unit Unit)from
   (nh a1 (i8:Int)).bind λx9=>
   if ¬(e7=x9)then
    δ (.ret ())
   else
   δ (.go ()))) (λs1=>δ ()) () (λb2=>
  δ ι) (λb2=>
  δ θ)
theorem WY{a0:(List Int)}{a1:(List Int)}{σ:Heap}{r:Bool}(h:BH a0 a1=δ r):zC [(sl 1 aO a0),(sl 1 aO a1)] σ=δ ((φ r),σ):=by
 refine JS (f:=H8) (y0:=(sl 1 aO a0)) (y1:=(sl 1 aO a1)) (enc:=λr:Bool=>(φ r)) (T:=BH a0 a1) rfl rfl ?_ r h;unfold H8 BH;refine au _ (dh _ _ _)<|au _ (dh _ _ _)<|au _ (fW _ _ _) ?_;refine dF (p:=¬((a0.length:Int)=(a1.length:Int))) (λfH=>?_) (λfH=>?_)
 ·exact cD _ (cq _ _) ⟨rfl,rfl⟩
 refine au _ (dh _ _ _) ?_;refine nJ (B:=Unit) (R:=Unit) (λ(i8:Nat)(s1:Unit)v w3=>v=[aZ,(ε (i8:Int))]/\σ=w3) (λ(b2:Unit)(q:LS)=>∃u4 Ee,q=((Γ 0),([u4,Ee]:aq),σ)) (λ(b2:Unit)(q:LS)=>∃Ee,q=(l7,([aZ,Ee]:aq),σ)) ?_ ?_ ⟨rfl,rfl⟩ ?_ ?_
 ·intro CP i8 e7 s1 v w3 sE hI;obtain⟨rfl,rfl⟩:=hI;refine au _ (fJ sE)<|nN<|au _ (gm sE)<|au _ rfl ?_;refine cE (λx9:Int=>(Zh [(ε x9)])) (λx9 DR=>uC DR) (λx9 DR=>?_);refine au _ rfl<|au _ (fW _ _ _) ?_;refine dF (p:=¬(e7=x9)) (λko=>?_) (λko=>?_)
  ·exact bz (jG (by simp) ⟨_,rfl⟩)
  refine au _ (fM sE CP) ?_;exact bz (nK ⟨rfl,rfl⟩)
 ·intro hl s1 v w3 hI;obtain⟨rfl,rfl⟩:=hI;refine au _ (fL _)<|nM ?_;exact bz ⟨by simp,⟨_,_,rfl⟩⟩
 ·intro hl b2 q hq;obtain⟨u4,Ee,rfl⟩:=hq;refine gH rfl ?_;exact cD _ (cq _ _) ⟨rfl,rfl⟩
 ·intro hl b2 q hq;obtain⟨Ee,rfl⟩:=hq;refine qM rfl<|gH rfl ?_;exact cD _ (cq _ _) ⟨rfl,rfl⟩
end
section
section
variable {f : Int -> List Int} {V : List Int} {a n : Int}
theorem KZ(hV:∀n k,k∈f n->k∈V):∀(r st seen:List Int),iq f V a (δ (n,r)) st seen->seen.length+jj V seen<=V.length->
  iq f V a η (iN r st seen).1 (iN r st seen).2/\mY V (iN r st seen).1 (iN r st seen).2<=mY V st seen/\(iN r st seen).2.length+jj V (iN r st seen).2<=V.length
 |[],st,seen,H,hK=>⟨H.done,bJ _,hK⟩
 |k::r,st,seen,H,hK=>by
  rw[iN];by_cases hk:k∈seen
  ·rw[aC hk];exact KZ hV r st seen (H.skip hk) hK
  ·rw[aB hk];have VA:k∈V:=hV n k ((H.here n _ rfl).2 k (by simp));have hlt:=AM VA hk;obtain⟨h1,h2,h3⟩:=KZ hV r (st++[k]) (seen++[k]) (H.push hk VA) (by rw[Λ,YA];omega);refine⟨h1,o8 h2 ?_,h3⟩;unfold mY;rw[Λ,YA];omega
theorem TF(hV:∀n k,k∈f n->k∈V):∀(m:Nat)(st seen:List Int),iq f V a η st seen->mY V st seen<=m->seen.length+jj V seen<=V.length->iq f V a η [] (vC f m st seen)/\(vC f m st seen).length<=V.length
 |0,st,seen,H,hM,hK=>by have:st=[]:=uG (by unfold mY at hM;omega);subst this;exact⟨H,by show seen.length<=_;omega⟩
 |m+1,st,seen,H,hM,hK=>by
  rcases List.eq_nil_or_concat st with rfl|⟨st',n,rfl⟩
  ·rw[R4];exact⟨H,by omega⟩
  ·rw[List.concat_eq_append]at *
   rw[QZ];obtain⟨h1,h2,h3⟩:=KZ hV (f n) st' seen (H.pop (λx=>by simp [or_comm]) (by simp)) hK;exact TF hV m _ _ h1 (by unfold mY at hM h2 ⊢;simp at hM;omega) h3
end
theorem Zr(U:List (Int×List Int))(a x:Int):x∈td U a↔jL (nx U) a x:=
 (TF (V:=gp U) (λ_ _ h=>SL h) _ [a] [] .start (by have:=AL (gp U) [];unfold mY;simp;omega) (by have:=AL (gp U) [];simp;omega)).1.fin x
theorem aax(l:List bG)(n:Int):(aV n (gq l)).isSome=(tG l n).isSome:=by
 unfold gq tG;induction l with
 |nil=>rfl
 |cons g l ih=>
  rw[bU,aV,List.find?_cons];by_cases h:g.aI=n
  ·rw[aC h.symm,ga h];rfl
  ·rw[aB (Ne.symm h),ia h];exact ih
theorem abt{l:List bG}(hn:(l.map bG.aI).Nodup){g:bG}(hg:g∈l):(aV g.aI (gq l)).getD []=fV 2 g.pick:=by
 unfold gq;induction l with
 |nil=>cases hg
 |cons x l ih=>
  rw[bU,xR]at hn;rw[bU,aV];rcases eo.1 hg with rfl|hg
  ·rw[aC rfl];rfl
  ·rw[aB (λe=>hn.1 (fK.2 ⟨g,hg,e⟩))];exact ih hn.2 hg
theorem Sm{l:List Int}(h:∀j (hj:j+1<l.length),l[j]<l[j+1]):l.Pairwise (·<·):=by
 rw[amT];intro i j hi hj hij;obtain⟨d,rfl⟩:∃d,j=i+1+d:=⟨j-i-1,by omega⟩
 clear hij;induction d with
 |zero=>exact h i hj
 |succ d ih=>exact Int.lt_trans (ih (by omega)) (h (i+1+d) hj)
def tE(l:List bG)(i:Nat)(g:bG):Int:=if ¬(bu g.aI 1 999=ι)then 1 else if 0<i/\g.aI<=(pv l i).aI then 7 else iF g.pick
def qW(l:List bG):Prop:=l.length<=bD/\(∀g∈l,bn g.pick<=2000000)/\(Cw l).length+1<=dQ
theorem adu{l:List bG}(h1:l.length<=bD)(h2:(l.map λg=>bn g.pick).sum<=1048576):qW l:=by
 have hm:∀(l:List bG)g,g∈l->bn g.pick<=(l.map λg=>bn g.pick).sum:=by
  intro l;induction l with
  |nil=>intro g hg;cases hg
  |cons x l ih=>
   intro g hg;rw[bU,X2];rcases eo.1 hg with rfl|hg
   ·omega
   ·have:=ih g hg;omega
 have hv:∀l:List bG,(Cw l).length<=(l.map λg=>bn g.pick).sum:=by
  intro l;unfold Cw;induction l with
  |nil=>simp
  |cons x l ih=>rw[Yw,Λ,bU,X2];have:=Jf 2 x.pick;omega
 refine⟨h1,λg hg=>o8 (hm l g hg) (by omega),?_⟩;have:=hv l;unfold dQ;omega
theorem Jr{p:aD}(h:bn p<=2000000):xu p=δ (iF p):=by
 unfold xu iF;rw[rS h,rS h,aL,aL];by_cases hc:200<bn p\/12<dK p
 ·rw[aC hc,aC (by simp;omega)]
 ·rw[aB hc,aB (by simp;omega)]
theorem QV{l:List bG}(h:gI (tE l) l 0=0):(l.map bG.aI).Nodup:=by
 have h0:=(xy l 0).1 h
 have:(l.map bG.aI).Pairwise (·<·):=by
  refine Sm λj hj=>?_
  rw[p7]at hj;have hx:l[j+1]? =δ l[j+1]:=cA hj;have h1:=h0 (j+1) _ hx;unfold tE at h1;rw[Gs]at h1;have hp:pv l (j+1)=l[j]:=by unfold pv;simp [Yn,cA (by omega:j<l.length)]
  rw[hp]at h1;split at h1
  ·cases h1
  ·split at h1
   ·cases h1
   ·rename_i q;simp only[List.getElem_map];by_cases hq:l[j].aI<l[j+1].aI
    ·exact hq
    ·exact absurd ⟨by omega,by omega⟩ q
 exact this.imp λh=>Int.ne_of_lt h
def kX (l:List bG):Int:=
 if 200<l.length then 2 else if gI (tE l) l 0≠0 then gI (tE l) l 0
 else if gI (λ_ g=>gI (λ_ n=>if(tG l n).isSome then 0 else 8) (fV 2 g.pick) 0) l 0≠0 then gI (λ_ g=>gI (λ_ n=>if(tG l n).isSome then 0 else 8) (fV 2 g.pick) 0) l 0
 else gI (λ_ g=>if g.aI∈td (gq l) g.aI then 11 else 0) l 0
theorem afC{q:aD->Option Int}{l:List bG}{i:Nat}{x:bG}(hl:l.length<=bD)(hx:l[i]? =δ x)(hq:q x.pick=δ (iF x.pick)):(if(!(bu x.aI 1 999))=ι then δ (.ret 1)else(if decide (0<(i:Int))=ι then nh l (Ξ.wrap ((i:Int) -1))else δ default).bind λx9=>
   if((decide (0<(i:Int)))&&(decide (x.aI<=x9.aI)))=ι then δ (.ret 7)else(q x.pick).bind λpE=>if ¬(pE=0)then δ (.ret pE)else δ (.go ()):Option (Lr Unit Unit Int))=δ (if tE l i x=0 then .go ()else .ret (tE l i x)):=by
 rw[Kf hx hl,aL,hq,aL];unfold tE;cases hw:bu x.aI 1 999
 ·simp
 ·by_cases hp:0<i/\x.aI<=(pv l i).aI
  ·simp [hp]
  ·have:¬((decide (0<(i:Int)))&&(decide (x.aI<=(pv l i).aI)))=ι:=by simp only[eF,decide_eq_true_eq];omega
   rw[aB this];simp only[Wq,X6,if_false,not_true_eq_false,aB hp];by_cases hc:iF x.pick=0<;>simp [hc]
theorem aa4{l:List bG}(h:qW l):(gp (gq l)).length+1<=dQ:=by rw[<-aaT];exact h.2.2
theorem aa3{l:List bG}(h:qW l){g:bG}(hg:g∈l):(fV 2 g.pick).length<=bD:=by have:=Jf 2 g.pick;have:=h.2.1 g hg;unfold bD;omega
theorem XN{l:List bG}(h:qW l):BG l=δ (kX l):=by
 unfold BG kX;by_cases h2:200<l.length
 ·rw[aC (by omega),aC h2]
 ·rw[aB (by omega),aB h2];rw[xC (f:=tE l) h.1 (λi x hx=>afC h.1 hx (Jr (h.2.1 x (bR hx)))) rfl];by_cases h1:gI (tE l) l 0=0
  ·rw[aC h1,aB (λk=>k h1)];have hn:=QV h1;rw[rS ⟨hn,h.2.1,h.1⟩,aL]
   rw[xC (f:=λ_ g=>gI (λ_ n=>if(tG l n).isSome then 0 else 8) (fV 2 g.pick) 0) h.1 (λi x hx=>by
    have hm:=bR hx;simp only[abt hn hm]
    rw[xC (f:=λ_ n=>if(tG l n).isSome then 0 else 8) (aa3 h hm) (λj n _=>by
     rw[aax];cases(tG l n).isSome<;>rfl) rfl]
    exact QC _) rfl]
   by_cases h3:gI (λ_ g=>gI (λ_ n=>if(tG l n).isSome then 0 else 8) (fV 2 g.pick) 0) l 0=0
   ·rw[aC h3,aB (λk=>k h3)]
    rw[xC (f:=λ_ g=>if g.aI∈td (gq l) g.aI then 11 else 0) h.1 (λi x hx=>by
     rw[rS (aa4 h),aL,PE]
     by_cases hr:x.aI∈td (gq l) x.aI<;>simp [hr]) rfl]
    split
    ·rename_i q;rw[q]
    ·rfl
   ·rw[aB h3,aC h3]
  ·rw[aB h1,aC h1]
theorem aaU{l:List bG}(h:kX l=0):l.length<=200:=by
 unfold kX at h;split at h
 ·cases h
 ·omega
theorem Y9{l:List bG}(h:kX l=0):(l.map bG.aI).Nodup:=by
 unfold kX at h;split at h
 ·cases h
 ·split at h
  ·rename_i q;exact absurd h q
  ·rename_i q;exact QV (by simpa using q)
theorem aaL(l:List Int)(hl:l.length<=bD):BH l l=δ ι:=by
 unfold BH;rw[aB (λk=>k rfl),Ka (λ_=>()) hl rfl]
 ·rfl
 ·intro i x hx;rw[Sb (by omega) (by simpa using hx),aL,aB (λk=>k rfl)]
end
section
mutual
theorem B1(k x:Int):∀p:aD,(k,x)∈gO p↔(k=2\/k=3)/\x∈fV k p
 |.mk kd f t l=>by
  rw[gO,fV,eG,eG,Pg k x l];by_cases h:kd=k
  ·subst h;by_cases h2:kd=2\/kd=3
   ·simp [h2]
   ·simp [h2]
  ·have h1:¬k=kd:=λe=>h e.symm
   by_cases h2:kd=2\/kd=3
   ·simp [h,h1,h2]
   ·simp [h,h2]
theorem Pg(k x:Int):∀l:List aD,(k,x)∈gj l↔(k=2\/k=3)/\x∈lP k l
 |[]=>by simp [gj,lP]
 |p::l=>by
  rw[gj,lP,eG,eG,B1 k x p,Pg k x l];constructor
  ·rintro(h|h)
   ·exact⟨h.1,.inl h.2⟩
   ·exact⟨h.1,.inr h.2⟩
  ·rintro⟨h,h'|h'⟩
   ·exact .inl ⟨h,h'⟩
   ·exact .inr ⟨h,h'⟩
end
theorem Zj{k x:Int}{p:aD}(h:(k,x)∈gO p):k=2\/k=3:=((B1 k x p).1 h).1
theorem IX{k:Int}{q:aD}{x:Int}:∀{l:List aD},q∈l->x∈fV k q->x∈lP k l
 |p::l,h,hx=>by
  rw[lP,eG];rcases eo.1 h with rfl|h
  ·exact .inl hx
  ·exact .inr (IX h hx)
section
variable (gs : List (Int × aD)) (ps : List (Int × List Int))
def pV(f:aD->List Int->Bool×List Int)(st:Bool×List Int)(x:Int×Int):Bool×List Int:=
 if st.1=ι then st else if x.1=3 then((aV x.2 ps).isNone,st.2)
 else match aV x.2 gs with
  |none=>(ι,st.2)
  |some g=>if x.2∈st.2 then st else f g (st.2++[x.2])
def gG:Nat->aD->List Int->Bool×List Int
 |0,_,S=>(θ,S)
 |n+1,p,S=>(gO p).foldl (pV gs ps (gG n)) (θ,S)
def kg:Nat->aD->Bool
 |0,_=>θ
 |n+1,p=>((fV 3 p).all λx=>(aV x ps).isSome)&&((fV 2 p).all λx=>match aV x gs with|none=>θ|some g=>kg n g)
def Dp:Nat->aD->Prop
 |0,_=>False
 |n+1,p=>∀x∈fV 2 p,∀g,aV x gs=δ g->Dp n g
def uI(l:List (Int×Int))(S:List Int):Prop:=∀x∈l,if x.1=3 then(aV x.2 ps).isSome=ι else(aV x.2 gs).isSome=ι/\x.2∈S
def MI(S0 S:List Int):Prop:=∀y∈S,y∉S0->∃g,aV y gs=δ g/\uI gs ps (gO g) S
def xS(x:Int×Int):Prop:=if x.1=3 then aV x.2 ps=η else ∀g,aV x.2 gs=δ g->∀m,kg gs ps m g=θ
theorem uI.mono{l:List (Int×Int)}{S S':List Int}(h:uI gs ps l S)(hs:∀x∈S,x∈S'):uI gs ps l S':=by
 intro x hx;have:=h x hx;split
 ·rename_i q;rw[aC q]at this;exact this
 ·rename_i q;rw[aB q]at this;exact⟨this.1,hs _ this.2⟩
theorem FY(f:aD->List Int->Bool×List Int)(S:List Int):∀l:List (Int×Int),l.foldl (pV gs ps f) (ι,S)=(ι,S)
 |[]=>rfl
 |x::l=>by rw[Zc,show pV gs ps f (ι,S) x=(ι,S)from aC rfl,FY f S l]
theorem JX{S S':List Int}(h:∀x∈S,x∈S'):∀V:List Int,jj V S'<=jj V S
 |[]=>bJ _
 |x::V=>by
  have:=JX h V;unfold jj at this ⊢;simp only[Wy];by_cases h1:x∈S
  ·rw[aB (by simp [h x h1]),aB (by simp [h1])];exact this
  ·by_cases h2:x∈S'
   ·rw[aB (by simp [h2]),aC (by simp [h1]),b9];omega
   ·rw[aC (by simp [h2]),aC (by simp [h1]),b9,b9];omega
theorem Kb{k:Int}{g:aD}(h:aV k gs=δ g):k∈gs.map (·.1):=fK.2 ⟨(k,g),B5 h,rfl⟩
theorem Rh{n:Nat}{p:aD}{x:Int×Int}(hx:x∈gO p)(hb:xS gs ps x):kg gs ps n p=θ:=by
 cases n with
 |zero=>rfl
 |succ n=>
  obtain⟨k,y⟩:=x;obtain⟨h1,h2⟩:=(B1 k y p).1 hx;unfold xS at hb;rw[kg,Bool.and_eq_false_iff];by_cases h3:k=3
  ·subst h3;simp only[if_true]at hb;left;rw[List.all_eq_false];exact⟨y,h2,by rw[hb];decide⟩
  ·simp only[h3,if_false]at hb;right;have h4:k=2:=by rcases h1 with h|h;exact h;exact absurd h h3
   subst h4;rw[List.all_eq_false];refine⟨y,h2,?_⟩;cases hg:aV y gs with
   |none=>simp
   |some g=>simp [hb g hg n]
theorem Jv:∀(n:Nat)(p:aD)(S:List Int),jj (gs.map (·.1)) S<n->
  (∀x∈S,x∈(gG gs ps n p S).2)/\((gG gs ps n p S).1=θ->uI gs ps (gO p) (gG gs ps n p S).2/\MI gs ps S (gG gs ps n p S).2)/\((gG gs ps n p S).1=ι->∃x∈gO p,xS gs ps x)
 |0,p,S,h=>by omega
 |n+1,p,S,h=>by
  have hf:∀(l:List (Int×Int))(S:List Int),(∀x∈l,x.1=2\/x.1=3)->jj (gs.map (·.1)) S<n+1->∀r,l.foldl (pV gs ps (gG gs ps n)) (θ,S)=r->
    (∀x∈S,x∈r.2)/\(r.1=θ->uI gs ps l r.2/\MI gs ps S r.2)/\(r.1=ι->∃x∈l,xS gs ps x):=by
   intro l;induction l with
   |nil=>rintro S _ _ r rfl;exact⟨λx hx=>hx,λ_=>⟨λx hx=>(by cases hx),λy hy hn=>absurd hy hn⟩,λh=>by cases h⟩
   |cons x l ih=>
    rintro S hl hS r hr;have hl':∀y∈l,y.1=2\/y.1=3:=λy hy=>hl y (iB _ hy)
    rw[Zc]at hr;unfold pV at hr;simp only[X6,if_false]at hr;by_cases h3:x.1=3
    ·rw[aC h3]at hr;cases hp:aV x.2 ps with
     |none=>rw[hp]at hr;have jQ:r=(ι,S):=hr.symm.trans (FY gs ps (gG gs ps n) S l);subst jQ;exact⟨λy hy=>hy,λh=>(by cases h),λ_=>⟨x,u0,by unfold xS;rw[aC h3];exact hp⟩⟩
     |some v=>
      rw[hp]at hr;obtain⟨q1,q2,q3⟩:=ih S hl' hS r hr;refine⟨q1,λh=>⟨λy hy=>?_,(q2 h).2⟩,λh=>?_⟩
      ·rcases eo.1 hy with rfl|hy
       ·rw[aC h3,hp];rfl
       ·exact(q2 h).1 y hy
      ·obtain⟨y,hy,hb⟩:=q3 h;exact⟨y,iB _ hy,hb⟩
    ·rw[aB h3]at hr;cases hg:aV x.2 gs with
     |none=>simp only[hg]at hr;have jQ:r=(ι,S):=hr.symm.trans (FY gs ps (gG gs ps n) S l);subst jQ;exact⟨λy hy=>hy,λh=>(by cases h),λ_=>⟨x,u0,by unfold xS;rw[aB h3];intro g hg';rw[hg]at hg';cases hg'⟩⟩
     |some g=>
      simp only[hg]at hr;by_cases hx:x.2∈S
      ·rw[aC hx]at hr;obtain⟨q1,q2,q3⟩:=ih S hl' hS r hr;refine⟨q1,λh=>⟨λy hy=>?_,(q2 h).2⟩,λh=>?_⟩
       ·rcases eo.1 hy with rfl|hy
        ·rw[aB h3,hg];exact⟨rfl,q1 _ hx⟩
        ·exact(q2 h).1 y hy
       ·obtain⟨y,hy,hb⟩:=q3 h;exact⟨y,iB _ hy,hb⟩
      ·rw[aB hx]at hr;have hlt:=AM (Kb gs hg) hx;obtain⟨p1,p2,p3⟩:=Jv n g (S++[x.2]) (by omega);generalize gG gs ps n g (S++[x.2])=w at hr p1 p2 p3;obtain⟨b,S2⟩:=w;have Nb:∀y∈S,y∈S2:=λy hy=>p1 y (Z0 _ hy)
       cases b with
       |true=>
        have jQ:r=(ι,S2):=hr.symm.trans (FY gs ps (gG gs ps n) S2 l);subst jQ;refine⟨Nb,λh=>(by cases h),λ_=>⟨x,u0,?_⟩⟩;unfold xS;rw[aB h3];intro g' hg' m;rw[hg]at hg';injection hg' with hg'
        subst hg';obtain⟨y,hy,hb⟩:=p3 rfl;exact Rh gs ps hy hb
       |false=>
        obtain⟨p4,p5⟩:=p2 rfl;obtain⟨q1,q2,q3⟩:=ih S2 hl' (Nat.lt_of_le_of_lt (JX Nb _) hS) r hr;refine⟨λy hy=>q1 y (Nb y hy),λh=>⟨λy hy=>?_,λy hy hn=>?_⟩,λh=>?_⟩
        ·rcases eo.1 hy with rfl|hy
         ·rw[aB h3,hg];exact⟨rfl,q1 _ (p1 _ (by simp))⟩
         ·exact(q2 h).1 y hy
        ·by_cases h2:y∈S2
         ·by_cases VV:y=x.2
          ·subst VV;exact⟨g,hg,uI.mono gs ps p4 q1⟩
          ·obtain⟨g',e1,e2⟩:=p5 y h2 (by simp [hn,VV]);exact⟨g',e1,uI.mono gs ps e2 q1⟩
         ·exact(q2 h).2 y hy h2
        ·obtain⟨y,hy,hb⟩:=q3 h;exact⟨y,iB _ hy,hb⟩
  exact hf (gO p) S (λx hx=>Zj (k:=x.1) (x:=x.2) hx) h _ rfl
theorem Qy{S:List Int}(hc:MI gs ps [] S):∀(m:Nat)(q:aD),Dp gs m q->uI gs ps (gO q) S->kg gs ps m q=ι
 |0,q,hd,_=>hd.elim
 |m+1,q,hd,hn=>by
  rw[Dp]at hd;rw[kg,eF,iX,iX];refine⟨λx hx=>?_,λx hx=>?_⟩
  ·have:=hn (3,x) ((B1 3 x q).2 ⟨.inr rfl,hx⟩);simpa using this
  ·have h1:=hn (2,x) ((B1 2 x q).2 ⟨.inl rfl,hx⟩);simp only[show ¬(2:Int)=3 by decide,if_false]at h1;obtain⟨h1,h2⟩:=h1;obtain⟨g,hg⟩:=al3.1 h1;simp only[hg];obtain⟨g',e1,e2⟩:=hc x h2 (by simp);rw[hg]at e1;injection e1 with e1
   subst e1;exact Qy hc m g (hd x hx g hg) e2
theorem aa2{n m:Nat}{p:aD}(hn:gs.length<n)(hd:Dp gs m p):(gG gs ps n p []).1=!kg gs ps m p:=by
 have hu:jj (gs.map (·.1)) []<n:=by have:=AL (gs.map (·.1)) [];rw[p7]at this;omega
 obtain⟨_,h2,h3⟩:=Jv gs ps n p [] hu;cases hb:(gG gs ps n p []).1 with
 |true=>obtain⟨x,hx,hb'⟩:=h3 hb;rw[Rh gs ps hx hb'];rfl
 |false=>obtain⟨e1,e2⟩:=h2 hb;rw[Qy gs ps e2 m p hd e1];rfl
theorem aad{p:aD}(h:dm p=0):gQ p.kind p.aT p.to p.args.length=0/\∀a∈p.args,dm a=0:=by
 have hl:∀l:List aD,nL l=0->∀a∈l,dm a=0:=by
  intro l;induction l with
  |nil=>intro _ a ha;cases ha
  |cons x l ih=>
   intro h a ha;rw[nL]at h;split at h
   ·rcases eo.1 ha with rfl|ha
    ·assumption
    ·exact ih h a ha
   ·rename_i q;exact absurd h q
 cases p with
 |mk k f t l=>
  rw[dm]at h;split at h
  ·rename_i q;exact⟨q,hl l h⟩
  ·rename_i q;exact absurd h q
def Cu(p:aD):Prop:=bn p<=200/\dK p<=12/\dm p=0
theorem JT{p:aD}(h:iF p=0):Cu p:=by
 unfold iF at h;split at h
 ·cases h
 ·rename_i q;exact⟨by omega,by omega,h⟩
theorem akg(p:aD):p.args.length<=bn p:=by
 have:∀l:List aD,l.length<=cC l:=by
  intro l;induction l with
  |nil=>simp [cC]
  |cons x l ih=>
   rw[cC,b9];have:1<=bn x:=by rw[qH];omega
   omega
 rw[qH];have:=this p.args;omega
theorem TG(M:Nat):∀(d:Nat)(p:aD),dK p<=d->bn p<=200->dm p=0->(∀x∈fV 3 p,(aV x ps).isSome=ι)->(∀x∈fV 2 p,∃g,aV x gs=δ g/\Rk gs ps M g)->Rk gs ps (M+d) p
 |0,p,h,_,_,_,_=>by have:=B2 p;omega
 |d+1,p,h,hs,hc,h3,h2=>by
  obtain⟨c1,c2⟩:=aad hc;rw[<-iV,Rk];refine⟨c1,by have:=akg p;omega,λa ha=>?_,λhk=>?_,λhk=>?_⟩
  ·have hsz:=B3 ha;have Nj:=zY ha;rw[xD]at h;refine TG M d a (by omega) (by omega) (c2 a ha) (λx hx=>h3 x ?_) (λx hx=>h2 x ?_)
   ·rw[Fq,eG];exact .inr (IX ha hx)
   ·rw[Fq,eG];exact .inr (IX ha hx)
  ·obtain⟨g,e1,e2⟩:=h2 p.aT (by rw[Fq,aC hk];simp);exact⟨g,e1,KJ gs ps e2 (by omega)⟩
  ·exact al3.1 (h3 p.aT (by rw[Fq,aC hk];simp))
theorem R6(Vz:∀k g,aV k gs=δ g->Cu g):∀(m:Nat)(p:aD),Cu p->kg gs ps m p=ι->Rk gs ps (m*12) p
 |0,p,_,h=>by cases h
 |m+1,p,hp,h=>by
  rw[kg,eF,iX,iX]at h;rw[fB,Nat.one_mul];refine TG gs ps (m*12) 12 p hp.2.1 hp.1 hp.2.2 h.1 λx hx=>?_
  have:=h.2 x hx;cases hg:aV x gs with
  |none=>rw[hg]at this;cases this
  |some g=>rw[hg]at this;exact⟨g,rfl,R6 Vz m g (Vz x g hg) this⟩
end
theorem Sz{P Q:Int->Bool}:∀{V:List Int},(∀x∈V,P x=ι->Q x=ι)->∀{z:Int},z∈V->Q z=ι->P z=θ->(V.filter P).length<(V.filter Q).length
 |[],_,z,hz,_,_=>by cases hz
 |x::V,h,z,hz,h1,h2=>by
  have hle:∀V:List Int,(∀x∈V,P x=ι->Q x=ι)->(V.filter P).length<=(V.filter Q).length:=by
   intro V;induction V with
   |nil=>intro _;exact bJ _
   |cons y V ih=>
    intro hV;have:=ih λy hy=>hV y (iB _ hy)
    simp only[Wy];cases hp:P y
    ·cases hq:Q y
     ·simpa using this
     ·simp;omega
    ·rw[hV y u0 hp];simpa using this
  have h':∀y∈V,P y=ι->Q y=ι:=λy hy=>h y (iB _ hy)
  simp only[Wy];by_cases VW:z=x
  ·subst VW;rw[h1,h2];have:=hle V h';simp;omega
  ·have hzV:z∈V:=by simpa [VW]using hz
   have:=Sz h' hzV h1 h2;cases hp:P x
   ·cases hq:Q x
    ·simpa using this
    ·simp;omega
   ·rw[h x u0 hp];simpa using this
theorem jL.trans{f:Int->List Int}{x y z:Int}(h:jL f x y)(k:jL f y z):jL f x z:=by
 induction k with
 |one q=>exact .step h q
 |step _ q ih=>exact .step ih q
theorem acK(gl:List bG)(x:Int):aV x (gq gl)=(aV x (dc gl)).map (fV 2):=by
 unfold gq dc;induction gl with
 |nil=>rfl
 |cons g l ih=>
  rw[bU,bU,aV,aV];by_cases h:x=g.aI
  ·rw[aC h,aC h];rfl
  ·rw[aB h,aB h];exact ih
open Classical in
theorem QA{gl:List bG}(hl:∀g∈gl,¬jL (nx (gq gl)) g.aI g.aI):∀(n:Nat)(x:Int)(g:aD),aV x (dc gl)=δ g->((gl.map bG.aI).filter λy=>decide (jL (nx (gq gl)) x y)).length<n->Dp (dc gl) n g
 |0,x,g,_,h=>by omega
 |n+1,x,g,hx,h=>by
  rw[Dp];intro y hy g' hg';have Nr:nx (gq gl) x=fV 2 g:=by unfold nx;rw[acK,hx];rfl
  have hxy:jL (nx (gq gl)) x y:=.one (by rw[Nr];exact hy)
  have VU:y∈gl.map bG.aI:=by have:=Kb (dc gl) hg';unfold dc at this;rwa[Y3]at this
  obtain⟨G,hG,hGy⟩:=fK.1 VU;have hno:¬jL (nx (gq gl)) y y:=by rw[<-hGy];exact hl G hG
  refine QA hl n y g' hg' ?_;have:=Sz (P:=λz=>decide (jL (nx (gq gl)) y z)) (Q:=λz=>decide (jL (nx (gq gl)) x z)) (V:=gl.map bG.aI) (λz _ hz=>ga (hxy.trans (of_decide_eq_true hz))) VU (ga hxy) (ia hno);omega
theorem ac3{gl:List bG}(hl:∀g∈gl,¬jL (nx (gq gl)) g.aI g.aI)(p:aD):Dp (dc gl) (gl.length+2) p:=by rw[Dp];intro x hx g hg;refine QA hl _ x g hg ?_;have:=W1 (λy=>@decide (jL (nx (gq gl)) x y) (Classical.propDecidable _)) (gl.map bG.aI);rw[p7]at this;omega
theorem ZZ{gl:List bG}(h:kX gl=0):∀g∈gl,¬jL (nx (gq gl)) g.aI g.aI:=by
 intro g hg hr;unfold kX at h;split at h
 ·cases h
 split at h
 ·rename_i q;exact absurd h q
 split at h
 ·rename_i q;exact absurd h q
 obtain⟨i,hi⟩:=rX.1 hg;have:=(xy gl 0).1 h i g hi;rw[aC ((Zr _ _ _).2 hr)]at this;cases this
theorem Za{gl:List bG}(h:kX gl=0):∀g∈gl,Cu g.pick:=by
 intro g hg;unfold kX at h;split at h
 ·cases h
 split at h
 ·rename_i q;exact absurd h q
 rename_i q;obtain⟨i,hi⟩:=rX.1 hg;have:=(xy gl 0).1 (by simpa using q) i g hi;unfold tE at this;split at this
 ·cases this
 split at this
 ·cases this
 exact JT this
theorem Jw:∀{l W:List Int},l.Nodup->(∀x∈l,x∈W)->l.length<=W.length
 |[],W,_,_=>jK _
 |x::l,W,h,hs=>by
  obtain⟨h1,h2⟩:=xR.1 h;have hx:=hs x u0;have:=Jw (W:=W.erase x) h2 λy hy=>(List.mem_erase_of_ne (λe=>h1 (by rw[<-e];exact hy))).2 (hs y (iB _ hy))
  rw[List.length_erase_of_mem hx]at this;have:=List.length_pos_of_mem hx;rw[b9];omega
theorem E0(l:List Int):(fG l).Nodup/\∀x,x∈fG l->x∈l:=by
 have h:∀(l o:List Int),o.Nodup->(l.foldl (λo n=>if n∈o then o else o++[n]) o).Nodup/\∀x,x∈l.foldl (λo n=>if n∈o then o else o++[n]) o->x∈o\/x∈l:=by
  intro l;induction l with
  |nil=>intro o h;exact⟨h,λx hx=>.inl hx⟩
  |cons y l ih=>
   intro o h;rw[Zc];by_cases hy:y∈o
   ·rw[aC hy];obtain⟨a,b⟩:=ih o h;exact⟨a,λx hx=>(b x hx).imp id (iB _)⟩
   ·rw[aB hy];obtain⟨a,b⟩:=ih (o++[y]) (by rw[List.nodup_append];exact⟨h,by simp,λa ha b hb=>by rw[X3.1 hb];exact λe=>hy (e▸ha)⟩);refine⟨a,λx hx=>?_⟩;rcases b x hx with h1|h1
    ·rcases eG.1 h1 with h1|h1
     ·exact .inl h1
     ·rw[X3.1 h1];exact .inr u0
    ·exact .inr (iB _ h1)
 obtain⟨a,b⟩:=h l [] ZX;exact⟨a,λx hx=>(b x hx).elim (λh=>by cases h) id⟩
theorem Ar(s:Nat):∀(k:Nat)(l:List Int)(x:Int),x∈eT s k l->x∈l
 |_,[],x,h=>by simp [eT]at h
 |0,y::l,x,h=>by
  rw[eT]at h;rcases eo.1 h with rfl|h
  ·exact u0
  ·exact iB _ (Ar s _ l x h)
 |k+1,y::l,x,h=>by rw[eT]at h;exact iB _ (Ar s k l x h)
theorem TI(U:List Int)(gs:List (Int×aD))(ps:List (Int×List Int)):∀(n:Nat)(p:aD),(∀x∈uF U gs ps n p,x∈U++ps.flatMap (·.2))/\(uF U gs ps n p).length<=(U++ps.flatMap (·.2)).length
 |0,p=>⟨λx h=>(by cases h),jK _⟩
 |n+1,p=>by
  have ih:=TI U gs ps n;rw[uF];obtain⟨gX,has⟩:∃gX,gX=p.args.map (uF U gs ps n):=⟨_,rfl⟩
  have ha:∀l∈gX,(∀x∈l,x∈U++ps.flatMap (·.2))/\l.length<=(U++ps.flatMap (·.2)).length:=λl hl=>by rw[has]at hl;obtain⟨a,_,rfl⟩:=fK.1 hl;exact ih a
  have hg:∀i,(∀x∈gX.getD i [],x∈U++ps.flatMap (·.2))/\(gX.getD i []).length<=(U++ps.flatMap (·.2)).length:=λi=>by
   rw[XR];cases h:gX[i]? with
   |none=>exact⟨λx hx=>(by cases hx),jK _⟩
   |some l=>exact ha l (bR h)
  rw[<-has];generalize hW:U++ps.flatMap (·.2)=W at *
  have hU:∀x∈U,x∈W:=λx hx=>by rw[<-hW];exact Z0 _ hx
  have Vv:U.length<=W.length:=by rw[<-hW,Λ];omega
  unfold xM;dsimp only;split
  ·unfold Gu;split
   ·exact⟨λx hx=>hU x (Y2.1 (alP.1 hx)).1,by rw[amc];exact o8 (W1 _ _) Vv⟩
   ·exact⟨λx hx=>hU x (Y2.1 hx).1,o8 (W1 _ _) Vv⟩
  split
  ·cases aV p.aT gs with
   |none=>exact⟨λx hx=>(by cases hx),jK _⟩
   |some g=>exact ih g
  split
  ·cases hp:aV p.aT ps with
   |none=>exact⟨λx hx=>(by cases hx),jK _⟩
   |some l=>
    have hm:=B5 hp;refine⟨λx hx=>?_,?_⟩
    ·rw[<-hW];exact List.mem_append_right _ (List.mem_flatMap.2 ⟨_,hm,hx⟩)
    ·have hll:∀(ps:List (Int×List Int))(e:Int×List Int),e∈ps->e.2.length<=(ps.flatMap (·.2)).length:=by
      intro ps e;induction ps with
      |nil=>intro h;cases h
      |cons y ps ih=>
       intro h;rw[Yw,Λ];rcases eo.1 h with rfl|h
       ·omega
       ·have:=ih h;omega
     have:=hll ps _ hm;rw[<-hW,Λ];show l.length<=_;have h2:l.length<=(ps.flatMap (·.2)).length:=this;omega
  split
  ·obtain⟨h1,h2⟩:=E0 gX.flatten
   have h3:∀x∈fG gX.flatten,x∈W:=λx hx=>by obtain⟨l,hl,hxl⟩:=Zw.1 (h2 x hx);exact(ha l hl).1 x hxl
   exact⟨h3,Jw h1 h3⟩
  split
  ·exact⟨λx hx=>(hg 0).1 x (Y2.1 hx).1,o8 (W1 _ _) (hg 0).2⟩
  split
  ·exact⟨λx hx=>(hg 0).1 x (Ar _ _ _ x hx),o8 (I9 _ _ _) (hg 0).2⟩
  split
  ·exact⟨λx hx=>(hg 0).1 x (Ar _ _ _ x hx),o8 (I9 _ _ _) (hg 0).2⟩
  split
  ·exact⟨λx hx=>(hg 0).1 x (alP.1 hx),by rw[amc];exact(hg 0).2⟩
  ·exact⟨λx hx=>(hg 0).1 x (Ar _ _ _ x hx),o8 (I9 _ _ _) (hg 0).2⟩
end
section
open HP
section
variable {an σ : Heap} {R : HP} {C : yx} {kn : List (Int × (AV × List Int))}
theorem ad1(H:Hs aP an σ (bI C kn*R))(f:Int):A.nI .i (.om C.g) (.ah f) (.agg [.ah 0,.ah 0,.ah 0,.aH]) σ=δ (.aN [((aV f C.gs).map λg=>l8 (aF g)).getD (.agg [.ah 0,.ah 0,.ah 0,.aH]),.bool (aV f C.gs).isSome]):=by simp only[A.nI,A.eY,bg,W9,To H,aL];rw[sZ (eK:=λx:Int=>ε x) (eV:=λx:aD=>l8 (aF x)) (kN _)];cases aV f C.gs<;>rfl
theorem ad2(H:Hs aP an σ (bI C kn*R))(f:Int):A.nI .i (.om C.p) (.ah f) .aH σ=δ (.aN [((aV f C.ps).map λl=>sl 1 aO l).getD .aH,.bool (aV f C.ps).isSome]):=by simp only[A.nI,A.eY,bg,W9,Tp H,aL];rw[sZ (eK:=λx:Int=>ε x) (eV:=λx:List Int=>sl 1 aO x) (kN _)];cases aV f C.ps<;>rfl
theorem Gd{id:Nat}{b c:Bool}{R:HP}(H:Hs aP an σ (blk id (.box [.bool b])*R)):u7 (.op id 0) [.bool c] σ=δ (σ.set id (.box [.bool c]))/\Hs aP an (σ.set id (.box [.bool c])) (blk id (.box [.bool c])*R):=by refine⟨?_,pN H trivial⟩;simp only[u7,(dS H).2];rfl
theorem P5(hsz:∀k g,aV k C.gs=δ g->bn g<=200):∀(n N:Nat)(p:aD)(kn:List (Int×(AV×List Int)))(S:List Int)(fI:Nat)(an σ:Heap)(R:HP),bn p<=200->jj (C.gs.map (·.1)) S<n->2*n<=N->Hs aP an σ (blk fI (.map (eS S))*(bI C kn*R))->
  ∃σ',fuel zy N 76 [.op C.b 0,.agg (aF p),.om fI] σ=δ (.bool (gG C.gs C.ps n p S).1,σ')/\Hs aP an σ' (blk fI (.map (eS (gG C.gs C.ps n p S).2))*(bI C kn*R))
 |0,N,p,kn,S,fI,an,σ,R,hp,hu,hN,H=>by omega
 |n+1,0,p,kn,S,fI,an,σ,R,hp,hu,hN,H=>by omega
 |n+1,1,p,kn,S,fI,an,σ,R,hp,hu,hN,H=>by omega
 |n+1,N+2,p,kn,S,fI,an,σ,R,hp,hu,hN,H=>by
  rw[gG];obtain⟨GL,TA⟩:∃rec,rec=fuel zy N:=⟨_,rfl⟩
  have ff:∀(q:aD)(S:List Int)(σ:Heap)(R:HP),bn q<=200->jj (C.gs.map (·.1)) S<n->Hs aP an σ (blk fI (.map (eS S))*(bI C kn*R))->∃σ',GL 76 [.op C.b 0,.agg (aF q),.om fI] σ=δ (.bool (gG C.gs C.ps n q S).1,σ')/\Hs aP an σ' (blk fI (.map (eS (gG C.gs C.ps n q S).2))*(bI C kn*R)):=λq S σ R h1 h2 h3=>by rw[TA];exact P5 hsz n N q kn S fI an σ R h1 h2 (by omega) h3
  obtain⟨A0,Tz⟩:∃rec,rec=fuel zy (N+1):=⟨_,rfl⟩
  have h75:A0 75=Φ θ [] .k (A.uO (zx GL)):=by rw[Tz,TA];rfl
  suffices h:∃σ',zz A0 (.op C.b 0) (.agg (aF p)) (.om fI) σ=δ (.bool ((gO p).foldl (pV C.gs C.ps (gG C.gs C.ps n)) (θ,S)).1,σ')/\Hs aP an σ' (blk fI (.map (eS ((gO p).foldl (pV C.gs C.ps (gG C.gs C.ps n)) (θ,S)).2))*(bI C kn*R)) by obtain⟨σ',h1,h3⟩:=h;refine⟨σ',?_,h3⟩;show Φ θ [] .k (A.pg (zz (fuel zy (N+1)))) [.op C.b 0,.agg (aF p),.om fI] σ=_;rw[<-Tz];unfold Φ;rw[Wt,aS];show(zz A0 (.op C.b 0) (.agg (aF p)) (.om fI) σ).map _=_;rw[h1,dL,kY]
  have K1:=rP (b:=.box [.bool θ]) H trivial;obtain⟨b,hb⟩:∃b,b=Xg σ:=⟨_,rfl⟩
  rw[<-hb]at K1;obtain⟨e1,K2⟩:=Gd (c:=θ) K1;obtain⟨s1,hs1⟩:∃s1,s1=(σ++[WE [φ θ]]).set b (.box [.bool θ]):=⟨_,rfl⟩
  rw[<-hs1]at e1 K2
  obtain⟨σ',e2,K3,_⟩:=Kc (dyn:=U8 (λ_ _=>η) [(75,A0 75)]) (c:=.fn 75 [.op b 0,.rp [.op C.b 0],.rp [.om fI]]) (λ(st:Bool×List Int)σ'=>Hs aP an σ' (blk b (.box [.bool st.1])*(blk fI (.map (eS st.2))*(bI C kn*R)))/\∀x∈S,x∈st.2) (pV C.gs C.ps (gG C.gs C.ps n)) (sz:=λ_=>0) (gO p).length (λ_ _=>jK _) (by
   rintro⟨lk,S1⟩ kd nm s _ ⟨K,hS⟩;simp only at K hS
   suffices h:∃σ',zx GL (.ah kd) (.ah nm) (.op b 0) (.rp [.op C.b 0]) (.rp [.om fI]) s=δ (.aN [],σ')/\Hs aP an σ' (blk b (.box [.bool (pV C.gs C.ps (gG C.gs C.ps n) (lk,S1) (kd,nm)).1])*(blk fI (.map (eS (pV C.gs C.ps (gG C.gs C.ps n) (lk,S1) (kd,nm)).2))*(bI C kn*R)))/\∀x∈S,x∈(pV C.gs C.ps (gG C.gs C.ps n) (lk,S1) (kd,nm)).2 by obtain⟨σ',h1,h2⟩:=h;refine⟨.aN [],σ',?_,h2⟩;show A0 75 [.ah kd,.ah nm,.op b 0,.rp [.op C.b 0],.rp [.om fI]] s=_;rw[h75];unfold Φ;rw[Wt,aS];show(zx GL (.ah kd) (.ah nm) (.op b 0) (.rp [.op C.b 0]) (.rp [.om fI]) s).map _=_;rw[h1,dL,kY]
   have KF:=dR (dR K);have b0:((ψ (.op b 0) s).bind λc=>Θ 0 c)=δ (.bool lk):=by simp only[ψ,(dS K).2,aL];rfl
   have b1:((ψ (.rp [.op C.b 0]) s).bind λc=>Θ 0 c)=δ (.op C.b 0):=rfl;have b2:A.gZ (.op C.b 0)=δ (.op C.b 0):=rfl;have b3:WN 1 (.op C.b 0)=δ (.op C.b 1):=rfl;have b4:WN 2 (.op C.b 0)=δ (.op C.b 2):=rfl;have b5:∀s:Heap,((ψ (.rp [.om fI]) s).bind λc=>Θ 0 c)=δ (.om fI):=λ_=>rfl
   have b6:∀s:Heap,((ψ (.rp [.op C.b 0]) s).bind λc=>Θ 0 c)=δ (.op C.b 0):=λ_=>rfl
   have cb:∀c:Bool,((l5 (.bool c)).bind λv=>δ [v])=δ [.bool c]:=λ_=>rfl
   unfold zx;rw[b0,bS];unfold pV;cases lk with
   |true=>exact⟨s,by rw[cT],by simp only[if_true];exact K,by simp only[if_true];exact hS⟩
   |false=>
    simp only[X6,if_false];rw[cF];by_cases h3:kd=3
    ·rw[aC h3,vk h3,bS,cT,b1,bS,b2,bS,b4,bS,LA KF,bS,ad2 KF,bS];obtain⟨f1,K4⟩:=Gd (c:=(aV nm C.ps).isNone) K;refine⟨_,?_,K4,hS⟩;have hn:Wc (.bool (aV nm C.ps).isSome)=δ (.bool (aV nm C.ps).isNone):=by cases aV nm C.ps<;>rfl
     simp only[su,ext1,bS,hn,cb,f1]
    ·rw[aB h3,vi h3,bS,cF,b1,bS,b2,bS,b3,bS,Lz KF,bS,ad1 KF,bS];cases hg:aV nm C.gs with
     |none=>obtain⟨f1,K4⟩:=Gd (c:=ι) K;refine⟨_,?_,K4,hS⟩;simp only[Option.map_none,Xn,Option.isSome_none,su,ext1,bS];rw[show i7 4 (.agg [.ah 0,.ah 0,.ah 0,.aH])=δ [.ah 0,.ah 0,.ah 0,.aH]from rfl,bS,show y9 0 [.ah 0,.ah 0,.ah 0,.aH] [(ε 0),(ε 0),(ε 0),Ju]=δ [.ah 0,.ah 0,.ah 0,.aH]from rfl,bS,CT,bS,cT,cb,bS,f1,bS,bS]
     |some g=>
      simp only[dL,Y6,Option.isSome_some,su,ext1,bS];have K5:=bO (show _=blk fI (.map (eS S1))*(bI C kn*(blk b (.box [.bool θ])*R)) by ac_rfl) K;have c1:=looked (dS K5).2 nm;rw[sU,bS,qI _ _ (rfl:([(ε 0),(ε 0),(ε 0),Ju]:aq).length=4),bS,ya,bS,cF,b5,bS,c1,bS];by_cases hm:nm∈S1
      ·rw[aC hm,ga hm,ya,bS,cF,bS,bS];exact⟨s,rfl,K,hS⟩
      ·rw[aB hm,ia hm,CT,bS,cT,bS];have c2:=Kj (dS K5).2 hm;have K6:=pN (b':=.map (eS (S1++[nm]))) K5 trivial;have hlt:=AM (Kb C.gs hg) hm;have hmono:=JX hS (C.gs.map (·.1));obtain⟨s2,c3,K7⟩:=ff g (S1++[nm]) _ _ (hsz nm g hg) (by omega) K6;have hsub:=(Jv C.gs C.ps n g (S1++[nm]) (by omega)).1;generalize gG C.gs C.ps n g (S1++[nm])=w at c3 K7 hsub ⊢;obtain⟨f1,K8⟩:=Gd (c:=w.1) (bO (show _=blk b (.box [.bool θ])*(blk fI (.map (eS w.2))*(bI C kn*R)) by ac_rfl) K7);refine⟨_,?_,K8,λx hx=>hsub x (Z0 _ (hS x hx))⟩
       rw[c2,bS,b6,bS,ur,bS,b5,bS,c3,bS,cb,bS,f1,bS,bS,bS]) 2000000 p s1 (θ,S) (o8 (zX p) (by omega)) (by unfold qX;omega) (by omega) ⟨K2,λx hx=>hx⟩
  have e3:vL (U8 (λ_ _=>η) [(75,A0 75)]) [.agg (aF p),.fn 75 [.op b 0,.rp [.op C.b 0],.rp [.om fI]]] s1=δ (.aN [],σ'):=e2;have e4:((ψ (.op b 0) σ').bind λc=>Θ 0 c)=δ (.bool ((gO p).foldl (pV C.gs C.ps (gG C.gs C.ps n)) (θ,S)).1):=by simp only[ψ,(dS K3).2,aL];rfl
  refine⟨σ',?_,dR K3⟩;unfold zz;rw[<-hb];rw[show(((l5 (YI C.b 0)).bind λv=>δ [v]).bind λcs=>δ (Zh cs))=δ (.rp [.op C.b 0])from rfl,bS,sU,bS,show(((l5 (Wu fI)).bind λv=>δ [v]).bind λcs=>δ (Zh cs))=δ (.rp [.om fI])from rfl,bS,show((l5 aZ).bind λv=>δ [v])=δ [.bool θ]from rfl,bS,e1,bS,ur,bS,e3,bS];simp only;rw[e4,bS]
end
end
section
open HP
def dP (r:cS) (gl:List bG) (pl:List eE) (p:aD):List Int×Int:=
 if ¬(lM r pl=0)then([],lM r pl)else if ¬(kX gl=0)then([],kX gl)else if ¬(iF p=0)then([],iF p)
 else if kg (dc gl) (fC pl) (gl.length+2) p=θ then([],8)else(uF (fk r) (dc gl) (fC pl) ((gl.length+2)*12) p,0)
theorem aal{r:cS}(h:gJ r=0):r.eZ.length<=400:=by
 unfold gJ at h;split at h
 ·split at h
  ·cases h
  ·omega
 ·rename_i q;exact absurd h q
theorem JC{r:cS}{pl:List eE}(h:lM r pl=0):r.eZ.length<=400/\pl.length<=200/\(∀x∈pl,x.gC.length<=2000)/\(pl.map eE.aI).Nodup:=by
 unfold lM at h;split at h
 ·rename_i q;exact absurd h q
 rename_i q;split at h
 ·cases h
 rename_i q2;have hz:=(xy pl 0).1 h;refine⟨aal (by simpa using q),by omega,λx hx=>?_,?_⟩
 ·obtain⟨i,hi⟩:=rX.1 hx;have:=hz i x hi;unfold Ax at this;repeat (split at this;· cases this)
  rename_i q3 _;omega
 ·have:(pl.map eE.aI).Pairwise (·<·):=by
   refine Sm λj hj=>?_
   rw[p7]at hj;have hx:pl[j+1]? =δ pl[j+1]:=cA hj;have h1:=hz (j+1) _ hx;unfold Ax at h1;split at h1
   ·cases h1
   ·split at h1
    ·cases h1
    ·rename_i q3;have hp:pv pl (j+1)=pl[j]:=by unfold pv;simp [Yn,cA (by omega:j<pl.length)]
     rw[Gs,hp]at q3;simp only[List.getElem_map];by_cases hq:pl[j].aI<pl[j+1].aI
     ·exact hq
     ·exact absurd (by simp;omega) q3
  exact this.imp λh=>Int.ne_of_lt h
theorem aav{r:cS}{gl:List bG}{pl:List eE}(h:lM r pl=0)(n:Nat)(p:aD):(uF (fk r) (dc gl) (fC pl) n p).length<1000000:=by
 obtain⟨h1,h2,h3,_⟩:=JC h;have h4:=(TI (fk r) (dc gl) (fC pl) n p).2
 have h5:∀pl:List eE,(∀x∈pl,x.gC.length<=2000)->((fC pl).flatMap (·.2)).length<=pl.length*2000:=by
  intro pl;induction pl with
  |nil=>intro _;simp [fC]
  |cons x l ih=>
   intro hx;have e1:=ih λy hy=>hx y (iB _ hy)
   have e2:=hx x u0;have e3:=P9 (oW x);unfold fC at e1 ⊢;rw[bU,Yw,Λ,b9,fB];unfold oW at e3;rw[p7]at e3;show(fG (oW x)).length+_<=_;have e4:(fG (oW x)).length<=x.gC.length:=e3;omega
 have h6:=h5 pl h3;have h7:(fk r).length=r.eZ.length:=by unfold fk;rw[p7]
 rw[Λ,h7]at h4;have:pl.length*2000<=200*2000:=kU _ h2;omega
section
variable {an σ : Heap} {R : HP}
theorem ad4{v:AV}{l:List Int}(H:Hs aP an σ (Iv v l*R)):∃v',e9 an v σ=δ (v',an)/\XM (.s 1) v'=sl 1 aO l:=by
 obtain⟨v',h1,h2,h3⟩:=KB H pK (bJ _) 7;refine⟨v',Kp (Kr H) h1 (λe=>?_),h3⟩;rcases nF H with⟨rfl,rfl|rfl,_⟩|⟨id,g,rfl,K⟩
 ·simp [Ya]at h1;rw[h1]
 ·simp [Ya]at h1;rw[h1]
 ·obtain⟨k1,k2⟩:=dS K;have:=(bB.1 k2).1;subst e;omega
theorem QN{gl:List bG}(h:kX gl=0):∀k g,aV k (dc gl)=δ g->Cu g:=by intro k g hg;rw[alB]at hg;obtain⟨G,h1,rfl⟩:=bX.1 hg;exact Za h G (al2 h1)
theorem Q5{gl:List bG}{pl:List eE}{p:aD}(hg:kX gl=0)(hp:iF p=0)(hk:kg (dc gl) (fC pl) (gl.length+2) p=ι):Rk (dc gl) (fC pl) ((gl.length+2)*12) p:=
 R6 _ _ (QN hg) _ p (JT hp) hk
end
end
section
open HP
section
variable {an σ : Heap} {R : HP} {C : yx} {kn : List (Int × (AV × List Int))}
theorem aaO{b g p k:Nat}(H:Hs aP an σ (blk b (.box [.aH,.om g,.om p,.om k])*(blk k (.map (mq []))*(blk p (.map (eL []))*(blk g (.map (eP []))*R))))):Hs aP an σ (bI ⟨b,g,p,k,.aH,[],[],[]⟩ []*R):=by have K:=ji (E:=fl aO) (sz:=1) (v:=.aH) H (.inl rfl);exact bO (show _=(blk b (.box [.aH,.om g,.om p,.om k])*(Iv .aH []*(blk g (.map (eP []))*(blk p (.map (eL []))*(blk k (.map (mq []))*emp)))))*R by rw[Q8];ac_rfl) K
theorem abU{x:Int}(hl:C.U.length+1<=dQ)(H:Hs aP an σ (bI C kn*R)):∃w s1 s2,wh 1 (140737488355328 / 8) C.vu (.sl 1 [[.ah x]]) σ=δ (w,s1)/\l5 w=δ w/\u7 (.op C.b 0) [w] s1=δ s2/\Hs aP an s2 (bI {C with vu:=w,U:=C.U++[x]} kn*R):=by obtain⟨w,s1,e1,K⟩:=AG (B:=aP) (x:=x) (λ_ _ _ _=>trivial) hl (uo H);have K1:=bO (show _=blk C.b (.box [C.vu,.om C.g,.om C.p,.om C.k])*(Iv w (C.U++[x])*(blk C.g (.map (eP C.gs))*(blk C.p (.map (eL C.ps))*(blk C.k (.map (mq kn))*(iE kn*R))))) by ac_rfl) K;have K2:=pN (b':=.box [w,.om C.g,.om C.p,.om C.k]) K1 trivial;refine⟨w,s1,_,e1,Ap K,?_,bO (by rw[bI];ac_rfl) K2⟩;simp only[u7,(dS K1).2];rfl
theorem abS{k:Int}{q:aD}(hk:k∉C.gs.map (·.1))(H:Hs aP an σ (bI C kn*R)):∃s,Z9 .i (.om C.g) (.ah k) (.agg (aF q)) σ=δ s/\Hs aP an s (bI {C with gs:=C.gs++[(k,q)]} kn*R):=by have K1:=bO (show _=blk C.g (.map (eP C.gs))*(blk C.b (.box [C.vu,.om C.g,.om C.p,.om C.k])*(Iv C.vu C.U*(blk C.p (.map (eL C.ps))*(blk C.k (.map (mq kn))*(iE kn*R))))) by ac_rfl) (uo H);have K2:=pN (b':=.map (eP (C.gs++[(k,q)]))) K1 trivial;refine⟨_,?_,bO (by rw[bI];ac_rfl) K2⟩;simp only[Z9,A.eY,bg,(dS K1).2];rw[show l8 (aF q)=(λx:aD=>l8 (aF x)) q from rfl,wo (eK:=λx:Int=>ε x) (eV:=λx:aD=>l8 (aF x)) (kN _),FM hk];rfl
theorem abT{k:Int}{l:List Int}(hk:k∉C.ps.map (·.1))(H:Hs aP an σ (bI C kn*R)):∃s,Z9 .i (.om C.p) (.ah k) (sl 1 aO l) σ=δ s/\Hs aP an s (bI {C with ps:=C.ps++[(k,l)]} kn*R):=by have K1:=bO (show _=blk C.p (.map (eL C.ps))*(blk C.b (.box [C.vu,.om C.g,.om C.p,.om C.k])*(Iv C.vu C.U*(blk C.g (.map (eP C.gs))*(blk C.k (.map (mq kn))*(iE kn*R))))) by ac_rfl) (uo H);have K2:=pN (b':=.map (eL (C.ps++[(k,l)]))) K1 trivial;refine⟨_,?_,bO (by rw[bI];ac_rfl) K2⟩;simp only[Z9,A.eY,bg,(dS K1).2];rw[show sl 1 aO l=(λx:List Int=>sl 1 aO x) l from rfl,wo (eK:=λx:Int=>ε x) (eV:=λx:List Int=>sl 1 aO x) (kN _),FM hk];rfl
theorem adv{v:AV}{l:List Int}(hm:l.length+1<=dQ)(H:Hs aP an σ (Iv v l*R)):Wd ((A.qd (.s 1) vM) [v] σ) σ=δ (sl 1 aO (fG l)):=by obtain⟨v',σ',e,K⟩:=CB (B:=aP) (λ_ _=>trivial) (cm:=[.s 1]) (r:=XJ xw) (uP:=[v]) (ts:=[sl 1 aO l]) ⟨AH pK H,trivial⟩ (RO hm) (AF (B:=aP) σ);obtain⟨v2,e2,e3⟩:=ad4 K;have e':vM [v] σ=δ (v',σ'):=e;refine iR ?_;unfold A.qd;rw[e',bS,e2,dL,e3]
theorem aeu(a b c:Int):((((l5 (.ah a)).bind λv=>δ [v]).bind λc8=>(y9 0 c8 [(ε 0),(ε 0),(ε 0)]).bind λc9=>((l5 (.ah b)).bind λv=>δ [v]).bind λko=>(y9 1 ko c9).bind λfH=>((l5 (.ah c)).bind λv=>δ [v]).bind λdG=>(y9 2 dG fH).bind λmm=>δ mm).bind λcs=>δ (WV 1 (eO 1 3 cs)))=δ (sl 1 aO [a,b,c]):=rfl
theorem afK(g p k:Nat):((((l5 (Wu g)).bind λv=>δ [v]).bind λkq=>(y9 1 kq [Ju,AV.nm,AV.nm,AV.nm]).bind λiL=>((l5 (Wu p)).bind λv=>δ [v]).bind λuQ=>(y9 2 uQ iL).bind λkr=>((l5 (Wu k)).bind λv=>δ [v]).bind λuR=>(y9 3 uR kr).bind λqj=>δ qj).bind λcs=>δ (l8 cs))=δ (.agg [.aH,.om g,.om p,.om k]):=rfl
theorem Jd{l:List Int}(h:l.Nodup){i:Nat}{x:Int}(hx:l[i]? =δ x):x∉l.take i:=by
 intro hm;obtain⟨j,hj⟩:=rX.1 hm;rw[X4]at hj;split at hj
 ·rename_i q;have h1:=bB.1 hx;have h2:=bB.1 hj;have:=(amT.1 h) j i h2.1 h1.1 q;exact this (h2.2.trans h1.2.symm)
 ·cases hj
theorem P6(r:cS)(gl:List bG)(pl:List eE)(p:aD):Z3 [(.a [(.s 3),(.s 4)]),(.s 5),(.s 3),iK] [.agg (cZ r),sl 5 bV gl,sl 3 eA pl,.agg (aF p)]=[.agg (cZ r),sl 5 bV gl,sl 3 eA pl,.agg (aF p)]:=by rw[aA];rfl
theorem Se(r:cS)(gl:List bG)(pl:List eE)(p:aD)(hs:pW r/\qW gl/\fD uq pl/\bn p<=2000000)(H:Hs aP an σ R):∃v σ',xm [.agg (cZ r),sl 5 bV gl,sl 3 eA pl,.agg (aF p)] σ=δ (.aN [v,.ah (dP r gl pl p).2],σ')/\Hs aP an σ' (Iv v (dP r gl pl p).1*R):=by
 suffices hh:∃z:AV×Heap,EX (.agg (cZ r)) (sl 5 bV gl) (sl 3 eA pl) (.agg (aF p)) σ=δ z/\(∃v,z.1=.aN [v,.ah (dP r gl pl p).2]/\Hs aP an z.2 (Iv v (dP r gl pl p).1*R)) by obtain⟨⟨z1,z2⟩,e,v,h1,K⟩:=hh;simp only at h1;subst h1;exact⟨v,z2,wrap_eq (by simp only[aA];rfl) (by rw[P6];exact e) (kY _),K⟩
 obtain⟨hr,hg,hp,hz⟩:=hs;unfold EX dP;rw[rM,bS,sU,bS,rN,bS,iR (akF (Xl r pl hr hp)),bS,iR (WX (XN hg)),bS,ur,bS,iR (Io (Jr hz)),bS,aeu,bS,iR (Qs _ (by simp [bD]) σ),bS,ad6,aey,bS];by_cases h1:¬(lM r pl=0)
 ·rw[aC h1,aC h1,ga h1,cT];exact⟨_,rfl,.aH,rfl,ji H (.inl rfl)⟩
 have h1:=Yy.1 h1;rw[aB (show ¬¬(lM r pl=0)from λk=>k h1),aB (show ¬¬(lM r pl=0)from λk=>k h1)];by_cases h2:¬(kX gl=0)
 ·rw[aC h2,aC h2,ga h2,cT];exact⟨_,rfl,.aH,rfl,ji H (.inl rfl)⟩
 have h2:=Yy.1 h2;rw[aB (show ¬¬(kX gl=0)from λk=>k h2),aB (show ¬¬(kX gl=0)from λk=>k h2)];by_cases h3:¬(iF p=0)
 ·rw[aC h3,ga h3,cT];exact⟨_,rfl,.aH,rfl,ji H (.inl rfl)⟩
 have h3:=Yy.1 h3;rw[aB (show ¬¬(iF p=0)from λk=>k h3),ia (λk=>k h3),cF];obtain⟨hu,hpl,hst,hpn⟩:=JC h1;have DH:=aaU h2;have hgn:=Y9 h2;have Nv:=JT h3;have H0:=H;have H1:=rP (b:=.map (eP [])) H0 trivial;have H2:=rP (b:=.map (eL [])) H1 trivial;have H3:=rP (b:=.map (mq [])) H2 trivial;obtain⟨g0,G9⟩:∃g0,g0=Xg σ:=⟨_,rfl⟩
 obtain⟨p0,oo⟩:∃p0,p0=Xg (σ++[j0 []]):=⟨_,rfl⟩
 obtain⟨k0,yT⟩:∃k0,k0=Xg ((σ++[j0 []])++[j0 []]):=⟨_,rfl⟩
 obtain⟨b0,hb0⟩:∃b0,b0=Xg (((σ++[j0 []])++[j0 []])++[j0 []]):=⟨_,rfl⟩
 have H4:=rP (b:=.box [.aH,.om g0,.om p0,.om k0]) H3 trivial;rw[<-G9,<-oo,<-yT,<-hb0,afK,bS,show i7 4 (.agg [.aH,.om g0,.om p0,.om k0])=δ [.aH,.om g0,.om p0,.om k0]from rfl,bS,rG,bS,dh,bS]
 have H5:Hs aP an (((σ++[j0 []])++[j0 []])++[j0 []]++[WE [.aH,.om g0,.om p0,.om k0]]) (bI ⟨b0,g0,p0,k0,.aH,[],[],[]⟩ []*R):=by refine aaO ?_;rw[hb0,yT,oo,G9];rw[yT,oo,G9]at H4;exact H4
 clear H0 H1 H2 H3 H4;have nc:A.gZ (.op b0 0)=δ (.op b0 0):=rfl;have M1:WN 0 (.op b0 0)=δ (.op b0 0):=rfl;have M4:WN 1 (.op b0 0)=δ (.op b0 1):=rfl;have M5:WN 2 (.op b0 0)=δ (.op b0 2):=rfl;refine oL (Q:=λq=>∃w u,q.1=.exit 0/\q.2.1=[.lbx (aF p),u]/\Hs aP an q.2.2 (bI ⟨b0,g0,p0,k0,w,fk r,[],[]⟩ []*R)) (kP r.eZ (λi vs s=>∃w,vs=[.lbx (aF p),.ah (i:Int)]/\Hs aP an s (bI ⟨b0,g0,p0,k0,w,(fk r).take i,[],[]⟩ []*R)) ?_ ?_ ⟨.aH,rfl,H5⟩) ?_
 ·rintro i x vs s hx ⟨w,rfl,K⟩;have a1:p9 (.ah (i:Int)) (.ah (r.eZ.length:Int))=δ (.bool ι):=fJ hx;have a2:o7 (.ah (i:Int)) (.ah 1)=δ (.ah ((i+1:Nat):Int)):=fM hx (by unfold bD;omega);have a3:EY 4 (sl 4 dJ r.eZ) (.ah (i:Int))=δ (.rp (dJ x)):=gm hx;have hx':(fk r)[i]? =δ x.aI:=by unfold fk;rw[wu,hx];rfl
  have hul:(fk r).length=r.eZ.length:=by unfold fk;rw[p7]
  obtain⟨w',s1,s2,e1,e2,e3,K2⟩:=abU (x:=x.aI) (by have:=Wm i (fk r);show((fk r).take i).length+1<=dQ;unfold dQ;omega) K;have d0:=TS K;refine⟨_,s2,?_,w',rfl,by rw[u6,hx'];exact K2⟩;simp only[bW,eM,a1,a2,a3,bS,cT,mQ,kK,jW,kL x _ (rfl:([(ε 0),gz,(ε 0),(ε 0)]:aq).length=4),jU,nc,M1,d0,yc,e1,e2,e3]
 ·rintro vs s ⟨w,rfl,K⟩;rw[lW (by unfold fk;simp)]at K;refine⟨(.exit 0,[.lbx (aF p),.ah (r.eZ.length:Int)],s),?_,by simp,w,_,rfl,rfl,K⟩;simp only[bW,eM,fL,bS,cF]
 rintro⟨q1,q2,s⟩ ⟨w,u,rfl,rfl,K⟩;simp only at K;clear H5;rw[mu,dh,bS];refine oL (Q:=λq=>∃u,q.1=.exit 2/\q.2.1=[.lbx (aF p),u]/\Hs aP an q.2.2 (bI ⟨b0,g0,p0,k0,w,fk r,dc gl,[]⟩ []*R)) (kP gl (λi vs s=>vs=[.lbx (aF p),.ah (i:Int)]/\Hs aP an s (bI ⟨b0,g0,p0,k0,w,fk r,dc (gl.take i),[]⟩ []*R)) ?_ ?_ ⟨rfl,K⟩) ?_
 ·rintro i x vs s hx ⟨rfl,K⟩;have a1:p9 (.ah (i:Int)) (.ah (gl.length:Int))=δ (.bool ι):=fJ hx;have a2:o7 (.ah (i:Int)) (.ah 1)=δ (.ah ((i+1:Nat):Int)):=fM hx hg.1;have a3:EY 5 (sl 5 bV gl) (.ah (i:Int))=δ (.rp (bV x)):=gm hx
  have hk:x.aI∉(dc (gl.take i)).map (·.1):=by have:=Jd (i:=i) (x:=x.aI) hgn (by rw[wu,hx];rfl);unfold dc;rw[Y3];rw[<-al4]at this;exact this
  obtain⟨s2,e1,K2⟩:=abS (q:=x.pick) hk K;have d1:=Lz K;have Ds:Z9 .i (.om g0) (.ah x.aI) (.agg (aF x.pick)) s=δ s2:=e1;have d1':((ψ (.op b0 1) s).bind λc=>Θ 0 c)=δ (.om g0):=d1;have f0:Ze 0 5 (bV x)=δ (.agg (bV x)):=rfl;have f1:i7 5 (.agg (bV x))=δ (bV x):=rfl;have f2:Θ 0 (bV x)=δ (.ah x.aI):=rfl;have f3:Ze 1 4 (bV x)=δ (.agg (aF x.pick)):=by rw[IG,aA];rfl
  refine⟨_,s2,?_,rfl,?_⟩
  ·simp only[bW,eM,a1,a2,a3,bS,cT,mQ,f0,f1,Fu x _ (rfl:([(ε 0),(ε 0),(ε 0),(ε 0),Ju]:aq).length=5),nc,M4,d1',f2,f3,Ds]
  ·rw[u6,hx];unfold dc at K2 ⊢;rw[Tm];exact K2
 ·rintro vs s ⟨rfl,K⟩;rw[VZ]at K;refine⟨(.exit 2,[.lbx (aF p),.ah (gl.length:Int)],s),?_,by simp,_,rfl,rfl,K⟩;simp only[bW,eM,fL,bS,cF]
 rintro⟨q1,q2,s⟩ ⟨u,rfl,rfl,K⟩;simp only at K;rw[mu,dh,bS];refine oL (Q:=λq=>∃u,q.1=.exit 4/\q.2.1=[.lbx (aF p),u]/\Hs aP an q.2.2 (bI ⟨b0,g0,p0,k0,w,fk r,dc gl,fC pl⟩ []*R)) (kP pl (λi vs s=>vs=[.lbx (aF p),.ah (i:Int)]/\Hs aP an s (bI ⟨b0,g0,p0,k0,w,fk r,dc gl,fC (pl.take i)⟩ []*R)) ?_ ?_ ⟨rfl,K⟩) ?_
 ·rintro i x vs s hx ⟨rfl,K⟩;have a1:p9 (.ah (i:Int)) (.ah (pl.length:Int))=δ (.bool ι):=fJ hx;have a2:o7 (.ah (i:Int)) (.ah 1)=δ (.ah ((i+1:Nat):Int)):=fM hx hp.1;have a3:EY 3 (sl 3 eA pl) (.ah (i:Int))=δ (.rp (eA x)):=gm hx;have hxs:=hst x (bR hx)
  have hk:x.aI∉(fC (pl.take i)).map (·.1):=by have:=Jd (i:=i) (x:=x.aI) hpn (by rw[wu,hx];rfl);unfold fC;rw[Y3];rw[<-al4]at this;exact this
  have hin:∃q,s9 ((λv82 zg=>
         (p9 (aj v82 3) (.ah (x.gC.length:Int))).bind λzn=>
         χ zn (
          (EY 3 (sl 3 jV x.gC) (aj v82 3)).bind λzo=>
          ((ψ zo zg).bind λyN=>Ze 0 3 yN).bind λnv=>
          (i7 3 nv).bind λDn=>
          (y9 0 Dn [(ε 0),gz,(ε 0)]).bind λDq=>
          (Θ 0 Dq).bind λx91=>
          ((((l5 x91).bind λv=>δ [v]).bind λMY=>(y9 0 MY [(ε 0)]).bind λDr=>δ Dr).bind λcs=>δ (WV 1 (eO 1 1 cs))).bind λzq=>
          (wh 1 (140737488355328 / 8) (aj v82 2) zq zg).bind λwT=>
          (o7 (aj v82 3) (ε 1)).bind λx96=>
          δ (ir,[(aj v82 0),(aj v82 1),wT.1,x96],wT.2)) (
          δ (Γ 6,[(aj v82 0),(aj v82 1),(aj v82 2),(aj v82 3)],zg)))) [.lbx (aF p),.lbx (eA x),.aH,.ah 0] s=δ q/\(∃w2 u,q.1=.exit 6/\q.2.1=[.lbx (aF p),.lbx (eA x),w2,u]/\Hs aP an q.2.2 (Iv w2 (oW x)*(bI ⟨b0,g0,p0,k0,w,fk r,dc gl,fC (pl.take i)⟩ []*R))):=by
   refine kP x.gC (λj vs s=>∃w2,vs=[.lbx (aF p),.lbx (eA x),w2,.ah (j:Int)]/\Hs aP an s (Iv w2 ((oW x).take j)*(bI ⟨b0,g0,p0,k0,w,fk r,dc gl,fC (pl.take i)⟩ []*R))) ?_ ?_ ⟨.aH,rfl,ji K (.inl rfl)⟩
   ·rintro j y vs s2 hy ⟨w2,rfl,K2⟩;have hj:=(bB.1 hy).1;have b1:p9 (.ah (j:Int)) (.ah (x.gC.length:Int))=δ (.bool ι):=fJ hy;have b2:o7 (.ah (j:Int)) (.ah 1)=δ (.ah ((j+1:Nat):Int)):=fM hy (by unfold bD;omega);have b3:EY 3 (sl 3 jV x.gC) (.ah (j:Int))=δ (.rp (jV y)):=gm hy;have hy':(oW x)[j]? =δ y.key.unit:=by unfold oW;rw[wu,hy];rfl
    obtain⟨w',s3,e1,K3⟩:=AG (B:=aP) (x:=y.key.unit) (λ_ _ _ _=>trivial) (by have:=List.length_take_le j (oW x);unfold dQ;omega) K2;refine⟨_,s3,?_,w',rfl,by rw[u6,hy',Ym];exact K3⟩;simp only[bW,eM,b1,b2,b3,bS,cT,mQ,akm,akJ,O4 y _ (rfl:([(ε 0),gz,(ε 0)]:aq).length=3),ald,yc,e1]
   ·rintro vs s2 ⟨w2,rfl,K2⟩;rw[lW (by unfold oW;simp)]at K2;refine⟨(.exit 6,[.lbx (aF p),.lbx (eA x),w2,.ah (x.gC.length:Int)],s2),?_,by simp,w2,_,rfl,rfl,K2⟩;simp only[bW,eM,fL,bS,cF]
  obtain⟨⟨qa,qv,s3⟩,e4,w2,u2,rfl,rfl,K3⟩:=hin;simp only at K3;have K4:=dR K3;have d2:((ψ (.op b0 2) s3).bind λc=>Θ 0 c)=δ (.om p0):=LA K4;have e5:=adv (by unfold oW dQ;rw[p7];omega) K3;obtain⟨s5,e6,K5⟩:=abT (l:=fG (oW x)) hk K4;have e6':Z9 .i (.om p0) (.ah x.aI) (sl 1 aO (fG (oW x))) s3=δ s5:=e6;refine⟨_,s5,?_,rfl,?_⟩
  ·simp only[bW,eM,a1,a2,a3,bS,cT,mQ,ak0,Y5,PB x _ (rfl:([(ε 0),gz,Ju]:aq).length=3),XZ,dh,e4,mu,nc,M5,d2,wK,XY,e5,e6']
  ·rw[u6,hx];unfold fC at K5 ⊢;rw[Tm];exact K5
 ·rintro vs s ⟨rfl,K⟩;rw[VZ]at K;refine⟨(.exit 4,[.lbx (aF p),.ah (pl.length:Int)],s),?_,by simp,_,rfl,rfl,K⟩;simp only[bW,eM,fL,bS,cF]
 rintro⟨q1,q2,s⟩ ⟨u,rfl,rfl,K⟩;simp only at K;rw[mu];simp only[bW,wK,bS,ur];have K1:=rP (b:=.map (eS [])) K trivial;obtain⟨fI,af6⟩:∃fI,fI=Xg s:=⟨_,rfl⟩
 rw[<-af6]at K1 ⊢;have hsz:∀k g,aV k (dc gl)=δ g->bn g<=200:=λk g h=>(QN h2 k g h).1
 obtain⟨s1,e1,K2⟩:=P5 (C:=⟨b0,g0,p0,k0,w,fk r,dc gl,fC pl⟩) hsz (gl.length+1) 2000000 p [] [] fI an _ R Nv.1 (by have:=AL ((dc gl).map (·.1)) [];rw[p7]at this;unfold dc at this ⊢;rw[p7]at this;show jj ((gl.map λg=>(g.aI,g.pick)).map (·.1)) []<_;omega) (by omega) K1;have Ds:EE [.op b0 0,.agg (aF p),.om fI] (s++[j0 []])=δ (.bool (gG (dc gl) (fC pl) (gl.length+1) p []).1,s1):=e1;rw[Ds,bS];rw[aa2 (dc gl) (fC pl) (n:=gl.length+1) (m:=gl.length+2) (by unfold dc;rw[p7];omega) (ac3 (ZZ h2) p)];cases hk:kg (dc gl) (fC pl) (gl.length+2) p with
 |false=>rw[aC rfl,show(!θ)=ι from rfl,cT];exact⟨_,rfl,.aH,rfl,ji (dR (dR K2)) (.inl rfl)⟩
 |true=>rw[aB (by decide),show(!ι)=θ from rfl,cF];obtain⟨v,s2,Bl,e2,_,K3⟩:=Tq (C:=⟨b0,g0,p0,k0,w,fk r,dc gl,fC pl⟩) (by show(fk r).length<=_;unfold fk;rw[p7];omega) (λn p _=>aav h1 n p) ((gl.length+2)*12) 2000000 p [] an s1 R (by omega) (Q5 h2 h3 hk) (λe he=>by cases he) (dR K2);have yO:EJ [.op b0 0,.agg (aF p)] s1=δ (v,s2):=e2;rw[yO,bS];exact⟨_,rfl,v,rfl,dR (bO (show _=bI ⟨b0,g0,p0,k0,w,fk r,dc gl,fC pl⟩ Bl*(Iv v (uF (fk r) (dc gl) (fC pl) ((gl.length+2)*12) p)*R) by ac_rfl) K3)⟩
end
end
section
theorem Ko(s:Nat):∀(k:Nat)(l:List Int),List.Sublist (eT s k l) l
 |_,[]=>by simp [eT]
 |0,x::l=>by rw[eT];exact(Ko s _ l).cons_cons x
 |k+1,x::l=>by rw[eT];exact(Ko s k l).cons x
theorem SI{l:List Int}(h:l.Nodup):l.reverse.Nodup:=List.pairwise_reverse.2 (h.imp λq=>Ne.symm q)
theorem TJ{U:List Int}{gs:List (Int×aD)}{ps:List (Int×List Int)}(hU:U.Nodup)(hp:∀e∈ps,e.2.Nodup/\∀x∈e.2,x∈U):∀(n:Nat)(p:aD),(uF U gs ps n p).Nodup/\∀x∈uF U gs ps n p,x∈U
 |0,p=>⟨ZX,λx h=>by cases h⟩
 |n+1,p=>by
  have ih:=TJ (gs:=gs) hU hp n;rw[uF];obtain⟨gX,has⟩:∃gX,gX=p.args.map (uF U gs ps n):=⟨_,rfl⟩
  have ha:∀l∈gX,l.Nodup/\∀x∈l,x∈U:=λl hl=>by rw[has]at hl;obtain⟨a,_,rfl⟩:=fK.1 hl;exact ih a
  have hg:∀i,(gX.getD i []).Nodup/\∀x∈gX.getD i [],x∈U:=λi=>by
   rw[XR];cases h:gX[i]? with
   |none=>exact⟨ZX,λx hx=>by cases hx⟩
   |some l=>exact ha l (bR h)
  rw[<-has];unfold xM;dsimp only
  have ev:∀(i:Nat)(s f:Int),(pL (gX.getD i []) s f).Nodup/\∀x∈pL (gX.getD i []) s f,x∈U:=λi s f=>
   ⟨(Ko _ _ _).nodup (hg i).1,λx hx=>(hg i).2 x (Ar _ _ _ x hx)⟩
  split
  ·unfold Gu;split
   ·exact⟨SI (hU.filter _),λx hx=>(Y2.1 (alP.1 hx)).1⟩
   ·exact⟨hU.filter _,λx hx=>(Y2.1 hx).1⟩
  split
  ·cases aV p.aT gs with
   |none=>exact⟨ZX,λx hx=>by cases hx⟩
   |some g=>exact ih g
  split
  ·cases h:aV p.aT ps with
   |none=>exact⟨ZX,λx hx=>by cases hx⟩
   |some l=>exact hp _ (B5 h)
  split
  ·obtain⟨h1,h2⟩:=E0 gX.flatten;refine⟨h1,λx hx=>?_⟩;obtain⟨l,hl,hxl⟩:=Zw.1 (h2 x hx);exact(ha l hl).2 x hxl
  split
  ·exact⟨(hg 0).1.filter _,λx hx=>(hg 0).2 x (Y2.1 hx).1⟩
  split
  ·exact ev 0 _ _
  split
  ·exact ev 0 _ _
  split
  ·exact⟨SI (hg 0).1,λx hx=>(hg 0).2 x (alP.1 hx)⟩
  ·exact ev 0 _ _
theorem adz{r:cS}(h:gJ r=0):(fk r).Nodup:=(O0 h).imp λq=>by omega
theorem R2{r:cS}{pl:List eE}(h:lM r pl=0):gJ r=0:=by
 unfold lM at h;split at h
 ·rename_i q;exact absurd h q
 ·rename_i q;exact Yy.1 q
theorem aaV{r:cS}(h:gJ r=0){k:cK}(hk:wF r k=ι):k.unit∈fk r:=by rw[QO h,decide_eq_true_eq]at hk;obtain⟨u,hu,hx⟩:=List.mem_flatMap.1 hk;obtain⟨x,_,rfl⟩:=fK.1 hx;exact fK.2 ⟨u,hu,rfl⟩
theorem aah{r:cS}{pl:List eE}(h:lM r pl=0):∀e∈fC pl,e.2.Nodup/\∀x∈e.2,x∈fk r:=by
 intro e he;have hr:=R2 h;obtain⟨p,hp,rfl⟩:=fK.1 he;refine⟨(E0 _).1,λx hx=>?_⟩;have hx:=(E0 _).2 x hx;obtain⟨y,hy,rfl⟩:=fK.1 hx;unfold lM at h;split at h
 ·rename_i q;exact absurd h q
 split at h
 ·cases h
 obtain⟨i,hi⟩:=rX.1 hp;have h1:=(xy pl 0).1 h i p hi;unfold Ax at h1;split at h1
 ·cases h1
 split at h1
 ·cases h1
 split at h1
 ·cases h1
 split at h1
 ·cases h1
 obtain⟨j,hj⟩:=rX.1 hy;have h2:=(xy p.gC 0).1 h1 j y hj;unfold Gp at h2;split at h2
 ·cases h2
 rename_i q;have hk:wF r y.key=ι:=by simpa using q
 exact aaV hr hk
theorem akK{r:cS}{gl:List bG}{pl:List eE}{p:aD}:(dP r gl pl p).1.Nodup/\∀x∈(dP r gl pl p).1,x∈fk r:=by
 unfold dP;split
 ·exact⟨ZX,λx hx=>by cases hx⟩
 rename_i h1;have h1:=Yy.1 h1;split
 ·exact⟨ZX,λx hx=>by cases hx⟩
 split
 ·exact⟨ZX,λx hx=>by cases hx⟩
 split
 ·exact⟨ZX,λx hx=>by cases hx⟩
 exact TJ (adz (R2 h1)) (aah h1) _ _
theorem Ss:∀l:List Int,(eT 2 0 l).length+(eT 2 1 l).length=l.length/\∀j,(eT 2 0 l)[j]? =l[2*j]? /\(eT 2 1 l)[j]? =l[2*j+1]?
 |[]=>⟨rfl,λj=>⟨by simp [eT],by simp [eT]⟩⟩
 |x::l=>by
  obtain⟨h1,h2⟩:=Ss l;rw[eT,eT,show 2-1=1 from rfl];refine⟨by rw[b9,b9];omega,λj=>⟨?_,?_⟩⟩
  ·cases j with
   |zero=>rfl
   |succ j=>rw[XC,(h2 j).2,show 2*(j+1)=(2*j+1)+1 by omega,XC]
  ·rw[XC];exact(h2 j).1
def pfx(k:Int)(p:aD):aD:=.mk k 0 0 [p]
theorem aaw{r:cS}{gl:List bG}{pl:List eE}{p:aD}(h:(dP r gl pl p).2=0):
  ((∀k:Int,k=6\/k=7\/k=8->dP r gl pl (pfx k p)=([],2)))\/
  (dP r gl pl (pfx 6 p)=(eT 2 0 (dP r gl pl p).1,0)/\dP r gl pl (pfx 7 p)=(eT 2 1 (dP r gl pl p).1,0)/\dP r gl pl (pfx 8 p)=((dP r gl pl p).1.reverse,0)):=by
 by_cases h1:lM r pl=0;case neg=>unfold dP at h;rw[aC h1]at h;exact absurd h h1
 by_cases h2:kX gl=0;case neg=>unfold dP at h;rw[aB (λk=>k h1),aC h2]at h;exact absurd h h2
 by_cases h3:iF p=0;case neg=>unfold dP at h;rw[aB (λk=>k h1),aB (λk=>k h2),aC h3]at h;exact absurd h h3
 by_cases h4:kg (dc gl) (fC pl) (gl.length+2) p=θ
 ·unfold dP at h;rw[aB (λk=>k h1),aB (λk=>k h2),aB (λk=>k h3),aC h4]at h;cases h
 have oo:dm p=0:=by
  unfold iF at h3;split at h3
  ·cases h3
  ·exact h3
 have hsz:∀k,bn (pfx k p)=1+bn p:=λk=>by simp [pfx,bn,cC]
 have Nj:∀k,dK (pfx k p)=1+dK p:=λk=>by simp [pfx,dK,jI]
 have tP:∀k:Int,k=6\/k=7\/k=8->dm (pfx k p)=0:=λk hk=>by
  have hpt:gQ k 0 0 1=0:=by rcases hk with rfl|rfl|rfl<;>decide
  show(if gQ k 0 0 1=0 then nL [p]else gQ k 0 0 1)=0;rw[aC hpt,nL,aC oo,nL]
 by_cases hb:200<1+bn p\/12<1+dK p
 ·left;intro k hk;have:iF (pfx k p)=2:=by unfold iF;rw[hsz,Nj,aC hb]
  unfold dP;rw[aB (λz=>z h1),aB (λz=>z h2),this,aC (by decide)]
 ·right;have hc:∀k:Int,k=6\/k=7\/k=8->iF (pfx k p)=0:=λk hk=>by unfold iF;rw[hsz,Nj,aB hb];exact tP k hk
  have hnm:∀(k:Int),k=6\/k=7\/k=8->∀j:Int,j=2\/j=3->fV j (pfx k p)=fV j p:=λk hk j hj=>by show(if k=j then[(0:Int)]else[])++lP j [p]=fV j p;rw[aB (by omega),lP,lP,X0,Xk]
  have hkn:∀k:Int,k=6\/k=7\/k=8->kg (dc gl) (fC pl) (gl.length+2) (pfx k p)=ι:=λk hk=>by
   have e:kg (dc gl) (fC pl) (gl.length+2) (pfx k p)=kg (dc gl) (fC pl) (gl.length+2) p:=by rw[kg,kg,hnm k hk 3 (.inr rfl),hnm k hk 2 (.inl rfl)]
   rw[e];cases q:kg (dc gl) (fC pl) (gl.length+2) p
   ·exact absurd q h4
   ·rfl
  have hl:(dP r gl pl p).1=uF (fk r) (dc gl) (fC pl) ((gl.length+2)*12) p:=by unfold dP;rw[aB (λz=>z h1),aB (λz=>z h2),aB (λz=>z h3),aB h4]
  obtain⟨M,hM⟩:∃M,(gl.length+2)*12=M+1:=⟨(gl.length+2)*12-1,by omega⟩
  have hu:∀k:Int,k=6\/k=7\/k=8->dP r gl pl (pfx k p)=(xM (fk r) (λf=>match aV f (dc gl)with|some g=>uF (fk r) (dc gl) (fC pl) M g|none=>[]) (λf=>(aV f (fC pl)).getD []) k 0 0 [(dP r gl pl p).1],0):=λk hk=>by
   have hR:=Q5 h2 (hc k hk) (hkn k hk);rw[hM]at hR
   have hRp:Rk (dc gl) (fC pl) M p:=by rw[Rk]at hR;exact hR.2.2.1 p (by show p∈[p];simp)
   have Ny:uF (fk r) (dc gl) (fC pl) (M+1) p=uF (fk r) (dc gl) (fC pl) M p:=CG _ _ _ hRp (by omega);rw[hl,hM,Ny];unfold dP;rw[aB (λz=>z h1),aB (λz=>z h2),aB (λz=>z (hc k hk)),aB (by rw[hkn k hk];decide),hM];rfl
  rw[hu 6 (.inl rfl),hu 7 (.inr (.inl rfl)),hu 8 (.inr (.inr rfl))];exact⟨rfl,rfl,rfl⟩
end
theorem aj1(dyn:Nat->aq->Heap->aG)(l:List dZ)(hl:l.length<=bD)(n:Nat)(caps:aq)(p:dZ->Bool)(σ:Heap)(hd:∀x∈l,dyn n ((.agg (dJ x):AV)::caps) σ=δ (.bool (p x),σ)):EA dyn [sl 4 dJ l,.fn n caps] σ=δ (.ah (mg p l),σ):=by
 refine wrap_eq rfl ?_ rfl;show EB dyn (sl 4 dJ l) (.fn n caps) σ=_;unfold EB;simp only[aQ,reduceCtorEq]
 refine(oG (S:=Unit) (R:=Int) l (λpre x _=>if p x=ι then .out (pre.length:Int)else .go ())
  (λpre _=>[.ah 0,.ah (pre.length:Int)]) (λ_ _=>σ) (λ_=>(.exit 0,[.ah 0,.ah (l.length:Int)],σ)) (λpre _ r=>(.ret,[.ah (pre.length:Int),.ah (pre.length:Int)],σ))
  (λ_ _=>True) () (λ_=>δ (ε (-1),σ)) (λr=>δ (ε r,σ)) ?_ ?_ trivial (λ_ _ _ _ _ _ _ _=>trivial) ?_ ?_).trans ?_
 ·intro pre x rest u hl' _;have hx:=oJ hl';have hlt:=pP hl';have hi1:Ξ.wrap ((pre.length:Int)+1)=(pre.length:Int)+1:=dY (by unfold bA;unfold bD at hl;omega);have hlt':(pre.length:Int)<(l.length:Int):=by omega
  have lC:=nG 4 dJ l hx;have DF:=hd x (by rw[hl'];simp);simp only[aQ,reduceCtorEq,jU,lH,lI,lJ,kK,jW,kL,hlt',lC,A.gP,iI,Xk,DF,hi1];cases p x<;>simp [aQ,reduceCtorEq]
 ·intro u _;simp only[aQ,reduceCtorEq,YK]
 ·intro u _;simp only[aQ,reduceCtorEq]
 ·intro pre x rest s q hl' _ hb
  have:q=(pre.length:Int):=by
   cases hpx:p x
   ·rw[hpx]at hb;cases hb
   ·rw[hpx]at hb;simp at hb;exact hb.symm
  simp only[aQ,reduceCtorEq,this]
 ·rw[Cc p _ _ l [] (by simp)];simp only[Xk];split
  ·rename_i h;rw[h]
  ·rfl
theorem alr(dyn:Nat->aq->Heap->aG)(l:List dZ)(hl:l.length<=bD)(n:Nat)(caps:aq)(p:dZ->Bool)(σ:Heap)(hd:∀x∈l,dyn n ((.agg (dJ x):AV)::caps) σ=δ (.bool (p x),σ)):By dyn [sl 4 dJ l,.fn n caps] σ=δ (.bool (l.any p),σ):=by refine wrap_eq rfl ?_ rfl;show Ey dyn (sl 4 dJ l) (.fn n caps) σ=_;unfold Ey;simp only[aQ,reduceCtorEq,aj1 dyn l hl n caps p σ hd];refine congrArg δ (congrArg (λb=>(φ b,σ)) ?_);exact QS p l
section
def zV (sP:aD->Option ByteArray) (qF:aD->Option ByteArray) (a0:aD):Option ByteArray:=
 (tq (bA a0.aT) (iT a0.aT)).bind λr1=>
 (tq (bA a0.to) (iT a0.to)).bind λr2=>
 if a0.kind=1 then
  if r1=r2 then
   δ r1
  else
  (jv r1 (⟨#[32,116,104,114,117,32]⟩:ByteArray)).bind λx3=>
  (jv x3 r2).bind λx4=>
  δ x4
 else
 if a0.kind=2 then
  (jv (⟨#[103,114,111,117,112,32]⟩:ByteArray) r1).bind λx6=>
  δ x6
 else
 if a0.kind=3 then
  (jv (⟨#[112,114,101,115,101,116,32]⟩:ByteArray) r1).bind λx7=>
  δ x7
 else
 if a0.kind=6 then
  (nh a0.args 0).bind λx8=>
  (sP x8).bind λr9=>
  (jv (⟨#[111,100,100,32]⟩:ByteArray) r9).bind λbE=>
  δ bE
 else
 if a0.kind=7 then
  (nh a0.args 0).bind λdI=>
  (sP dI).bind λiM=>
  (jv (⟨#[101,118,101,110,32]⟩:ByteArray) iM).bind λcg=>
  δ cg
 else
 if a0.kind=8 then
  (nh a0.args 0).bind λdw=>
  (sP dw).bind λmZ=>
  (jv (⟨#[98,97,99,107,32]⟩:ByteArray) mZ).bind λcu=>
  δ cu
 else
 if a0.kind=9 then
  (jv (⟨#[101,118,101,114,121,32]⟩:ByteArray) r1).bind λdD=>
  (jv dD (⟨#[32,102,114,111,109,32]⟩:ByteArray)).bind λdW=>
  (jv dW r2).bind λck=>
  (jv ck (⟨#[32]⟩:ByteArray)).bind λeW=>
  (nh a0.args 0).bind λdA=>
  (sP dA).bind λvq=>
  (jv eW vq).bind λcV=>
  δ cV
 else
 (nh a0.args 0).bind λx24=>
 (sP x24).bind λqZ=>
 (show Option ByteArray from
   if a0.kind=5 then
    δ (⟨#[32,45,32]⟩:ByteArray)
   else
   δ (⟨#[32,43,32]⟩:ByteArray)).bind λHg=>
 (show Option ByteArray from
   if((decide (x24.kind=5))||(decide (a0.kind=5)))=ι then
    (qF x24).bind λjS=>
    δ jS
   else
   δ qZ).bind λHh=>
 (Ed a0.args (δ 1) η).bind λqz=>
 iJ qz (λ(NF:Nat)Du(ze:ByteArray)=>(show Option (Lr ByteArray ByteArray Unit)from
   (sP Du).bind λsH=>
   (jv Hg sH).bind λjl=>
   (jv ze jl).bind λgK=>
   δ (.go gK))) (λze=>δ ze) Hh (λyD=>
  δ yD) (λyD=>
  η)
theorem ak5{rc:Nat->aq->Heap->aG}(sP:aD->Option ByteArray)(qF:aD->Option ByteArray)(zQ:∀(x0:aD) (s:Heap) r,sP x0=δ r->rc 461 [(l8 (aF x0))] s=δ ((u5 r),s))(EW:∀(x0:aD) (s:Heap) r,qF x0=δ r->rc 462 [(l8 (aF x0))] s=δ ((u5 r),s)){a0:aD}{σ:Heap}{r:ByteArray}(h:zV sP qF a0=δ r):Φ ι [iK] .k (XJ (zT rc)) [(l8 (aF a0))] σ=δ ((u5 r),σ):=by
 refine vQ (f:=zT rc) (y0:=(l8 (aF a0))) (enc:=λr:ByteArray=>(u5 r)) (T:=zV sP qF a0) (by first|rfl|(simp only[aA];rfl)) (by first|rfl|(simp only[aA];rfl)) ?_ r h;unfold zT zV;refine au (aF a0) (by first|rfl|(simp only[aA];rfl))<|au (ε a0.aT) (by first|rfl|(simp only[aA];rfl)) ?_;refine cE (λr1:ByteArray=>(u5 r1)) (λr1 mz=>(iR ((rW (e:=λr:ByteArray=>((u5 r),σ)) (λhs=>Rg a0.aT hs σ)) mz))) (λr1 mz=>?_);refine au (ε a0.to) (by first|rfl|(simp only[aA];rfl)) ?_;refine cE (λr2:ByteArray=>(u5 r2)) (λr2 jQ=>(iR ((rW (e:=λr:ByteArray=>((u5 r),σ)) (λhs=>Rg a0.to hs σ)) jQ))) (λr2 jQ=>?_);refine au (ε a0.kind) (by first|rfl|(simp only[aA];rfl))<|au _ (cv _ _ _) ?_;refine dF (p:=a0.kind=1) (λDi=>?_) (λDi=>?_)
 ·refine au _ (Li _ _) ?_;refine dF (p:=r1=r2) (λc5=>?_) (λc5=>?_)
  ·exact cD _ (cq _ _) ⟨rfl,rfl⟩
  refine cE (λx3:ByteArray=>(u5 x3)) (λx3 DQ=>(mG DQ)) (λx3 DQ=>?_);refine cE (λx4:ByteArray=>(u5 x4)) (λx4 VN=>(mG VN)) (λx4 VN=>?_);exact cD _ (cq _ _) ⟨rfl,rfl⟩
 refine au _ (cv _ _ _) ?_;refine dF (p:=a0.kind=2) (λyM=>?_) (λyM=>?_)
 ·refine cE (λx6:ByteArray=>(u5 x6)) (λx6 VO=>(mG VO)) (λx6 VO=>?_);exact cD _ (cq _ _) ⟨rfl,rfl⟩
 refine au _ (cv _ _ _) ?_;refine dF (p:=a0.kind=3) (λyL=>?_) (λyL=>?_)
 ·refine cE (λx7:ByteArray=>(u5 x7)) (λx7 VP=>(mG VP)) (λx7 VP=>?_);exact cD _ (cq _ _) ⟨rfl,rfl⟩
 refine au _ (cv _ _ _) ?_;refine dF (p:=a0.kind=6) (λMS=>?_) (λMS=>?_)
 ·refine au (sl 4 aF a0.args) (by first|rfl|(simp only[aA];rfl)) ?_;refine cE (λx8:aD=>(Zh (aF x8))) (λx8 VQ=>uC VQ) (λx8 VQ=>?_);refine au (l8 (aF x8)) (by first|rfl|(simp only[aA];rfl)) ?_;refine cE (λr9:ByteArray=>((u5 r9),σ)) (λr9 DM=>zQ _ _ _ DM) (λr9 DM=>?_);refine cE (λbE:ByteArray=>(u5 bE)) (λbE Ud=>(mG Ud)) (λbE Ud=>?_);exact cD _ (cq _ _) ⟨rfl,rfl⟩
 refine au _ (cv _ _ _) ?_;refine dF (p:=a0.kind=7) (λDh=>?_) (λDh=>?_)
 ·refine au (sl 4 aF a0.args) (by first|rfl|(simp only[aA];rfl)) ?_;refine cE (λdI:aD=>(Zh (aF dI))) (λdI Ue=>uC Ue) (λdI Ue=>?_);refine au (l8 (aF dI)) (by first|rfl|(simp only[aA];rfl)) ?_;refine cE (λiM:ByteArray=>((u5 iM),σ)) (λiM TY=>zQ _ _ _ TY) (λiM TY=>?_);refine cE (λcg:ByteArray=>(u5 cg)) (λcg Ug=>(mG Ug)) (λcg Ug=>?_);exact cD _ (cq _ _) ⟨rfl,rfl⟩
 refine au _ (cv _ _ _) ?_;refine dF (p:=a0.kind=8) (λyK=>?_) (λyK=>?_)
 ·refine au (sl 4 aF a0.args) (by first|rfl|(simp only[aA];rfl)) ?_;refine cE (λdw:aD=>(Zh (aF dw))) (λdw Uh=>uC Uh) (λdw Uh=>?_);refine au (l8 (aF dw)) (by first|rfl|(simp only[aA];rfl)) ?_;refine cE (λmZ:ByteArray=>((u5 mZ),σ)) (λmZ T3=>zQ _ _ _ T3) (λmZ T3=>?_);refine cE (λcu:ByteArray=>(u5 cu)) (λcu Ui=>(mG Ui)) (λcu Ui=>?_);exact cD _ (cq _ _) ⟨rfl,rfl⟩
 refine au _ (cv _ _ _) ?_;refine dF (p:=a0.kind=9) (λMR=>?_) (λMR=>?_)
 ·refine cE (λdD:ByteArray=>(u5 dD)) (λdD Uj=>(mG Uj)) (λdD Uj=>?_);refine cE (λdW:ByteArray=>(u5 dW)) (λdW Uk=>(mG Uk)) (λdW Uk=>?_);refine cE (λck:ByteArray=>(u5 ck)) (λck Ul=>(mG Ul)) (λck Ul=>?_);refine cE (λeW:ByteArray=>(u5 eW)) (λeW Um=>(mG Um)) (λeW Um=>?_);refine au (sl 4 aF a0.args) (by first|rfl|(simp only[aA];rfl)) ?_;refine cE (λdA:aD=>(Zh (aF dA))) (λdA Un=>uC Un) (λdA Un=>?_);refine au (l8 (aF dA)) (by first|rfl|(simp only[aA];rfl)) ?_;refine cE (λvq:ByteArray=>((u5 vq),σ)) (λvq T5=>zQ _ _ _ T5) (λvq T5=>?_);refine cE (λcV:ByteArray=>(u5 cV)) (λcV Uq=>(mG Uq)) (λcV Uq=>?_);exact cD _ (cq _ _) ⟨rfl,rfl⟩
 refine au (sl 4 aF a0.args) (by first|rfl|(simp only[aA];rfl)) ?_;refine cE (λx24:aD=>(Zh (aF x24))) (λx24 Ur=>uC Ur) (λx24 Ur=>?_);refine au (l8 (aF x24)) (by first|rfl|(simp only[aA];rfl))<|au (aF x24) (by first|rfl|(simp only[aA];rfl))<|au _ (qI _ _ rfl)<|au (l8 (aF x24)) (by first|rfl|(simp only[aA];rfl)) ?_;refine cE (λqZ:ByteArray=>((u5 qZ),σ)) (λqZ T7=>zQ _ _ _ T7) (λqZ T7=>?_);refine au (ε a0.kind) (by first|rfl|(simp only[aA];rfl))<|au _ (cv _ _ _) ?_
 refine jt (ω:=ByteArray) (λHg a=>a=(([(Z4 (aF a0)),(u5 Hg),(Z4 (aF x24))]:aq),σ)) (
   by
    refine dF (p:=a0.kind=5) (λmo=>?_) (λmo=>?_)
    ·exact bz rfl
    exact bz rfl
   ) (λHg a ha=>?_)
 subst ha;refine au _ (by first|rfl|(simp only[aA];rfl))<|au (ε x24.kind) (by first|rfl|(simp only[aA];rfl))<|au _ (cv _ _ _)<|au _ (by first|rfl|(simp only[aA];rfl))<|bT (ε a0.kind) (λhg=>by first|rfl|(simp only[aA];rfl))<|bT (φ (decide (a0.kind=5))) (λhg=>by(try rw[hg]);exact(cv _ _ _))<|au _ (kT _ _) ?_
 refine jt (ω:=ByteArray) (λHh a=>a=(([(Z4 (aF a0)),(u5 Hh)]:aq),σ)) (
   by
    refine gR (c:=((decide (x24.kind=5))||(decide (a0.kind=5)))) (λsB=>?_) (λsB=>?_)
    ·refine au (l8 (aF x24)) (by first|rfl|(simp only[aA];rfl)) ?_;refine cE (λjS:ByteArray=>((u5 jS),σ)) (λjS T8=>EW _ _ _ T8) (λjS T8=>?_);exact bz rfl
    exact bz rfl
   ) (λHh a ha=>?_)
 subst ha;refine au _ (by first|rfl|(simp only[aA];rfl))<|au (sl 4 aF a0.args) (by first|rfl|(simp only[aA];rfl)) ?_;refine cE (λqz:(List aD)=>(sl 4 aF qz)) (λqz Us=>(adD Us)) (λqz Us=>?_);refine au _ (dh _ _ _) ?_;refine nJ (B:=ByteArray) (R:=Unit) (λ(NF:Nat)(ze:ByteArray)v N8=>v=[(u5 ze),(ε (NF:Int))]/\σ=N8) (λ(yD:ByteArray)(q:LS)=>∃V8,q=((Γ 1),([(u5 yD),V8]:aq),σ)) (λ(yD:Unit)(q:LS)=>False) ?_ ?_ ⟨rfl,rfl⟩ ?_ ?_
 ·intro aee NF Du ze v N8 LM hI;obtain⟨rfl,rfl⟩:=hI;refine au _ (fJ LM)<|nN<|au _ (gm LM)<|au (l8 (aF Du)) (by first|rfl|(simp only[aA];rfl))<|au (aF Du) (by first|rfl|(simp only[aA];rfl))<|au _ (qI _ _ rfl)<|au (l8 (aF Du)) (by first|rfl|(simp only[aA];rfl)) ?_;refine cE (λsH:ByteArray=>((u5 sH),σ)) (λsH Ua=>zQ _ _ _ Ua) (λsH Ua=>?_);refine cE (λjl:ByteArray=>(u5 jl)) (λjl Ut=>(mG Ut)) (λjl Ut=>?_);refine cE (λgK:ByteArray=>(u5 gK)) (λgK Uu=>(mG Uu)) (λgK Uu=>?_);refine au _ (fM LM aee) ?_;exact bz (nK ⟨rfl,rfl⟩)
 ·intro hl ze v N8 hI;obtain⟨rfl,rfl⟩:=hI;refine au _ (fL _)<|nM ?_;exact bz ⟨by simp,⟨_,rfl⟩⟩
 ·intro hl yD q hq;obtain⟨V8,rfl⟩:=hq;refine gH (by first|rfl|(simp only[aA];rfl)) ?_;exact cD _ (cq _ _) ⟨rfl,rfl⟩
 ·intro hl yD q hq;exact False.elim hq
def Ab (qF:aD->Option ByteArray) (a0:aD):Option ByteArray:=
 if((decide (a0.kind=4))||(decide (a0.kind=5)))=ι then
  (qF a0).bind λr1=>
  (jv (⟨#[40]⟩:ByteArray) r1).bind λx2=>
  (jv x2 (⟨#[41]⟩:ByteArray)).bind λx3=>
  δ x3
 else
 (qF a0).bind λr4=>
 δ r4
theorem akR{rc:Nat->aq->Heap->aG}(qF:aD->Option ByteArray)(EW:∀(x0:aD) (s:Heap) r,qF x0=δ r->rc 462 [(l8 (aF x0))] s=δ ((u5 r),s)){a0:aD}{σ:Heap}{r:ByteArray}(h:Ab qF a0=δ r):Φ ι [iK] .k (XJ (Aa rc)) [(l8 (aF a0))] σ=δ ((u5 r),σ):=by
 refine vQ (f:=Aa rc) (y0:=(l8 (aF a0))) (enc:=λr:ByteArray=>(u5 r)) (T:=Ab qF a0) (by first|rfl|(simp only[aA];rfl)) (by first|rfl|(simp only[aA];rfl)) ?_ r h;unfold Aa Ab;refine au (aF a0) (by first|rfl|(simp only[aA];rfl))<|au (ε a0.kind) (by first|rfl|(simp only[aA];rfl))<|au _ (cv _ _ _)<|bT (ε a0.kind) (λhg=>by first|rfl|(simp only[aA];rfl))<|bT (φ (decide (a0.kind=5))) (λhg=>by(try rw[hg]);exact(cv _ _ _))<|au _ (kT _ _) ?_;refine gR (c:=((decide (a0.kind=4))||(decide (a0.kind=5)))) (λc5=>?_) (λc5=>?_)
 ·refine au (l8 (aF a0)) (by first|rfl|(simp only[aA];rfl)) ?_;refine cE (λr1:ByteArray=>((u5 r1),σ)) (λr1 mz=>EW _ _ _ mz) (λr1 mz=>?_);refine cE (λx2:ByteArray=>(u5 x2)) (λx2 hx2=>(mG hx2)) (λx2 hx2=>?_);refine cE (λx3:ByteArray=>(u5 x3)) (λx3 DQ=>(mG DQ)) (λx3 DQ=>?_);exact cD _ (cq _ _) ⟨rfl,rfl⟩
 refine au (l8 (aF a0)) (by first|rfl|(simp only[aA];rfl)) ?_;refine cE (λr4:ByteArray=>((u5 r4),σ)) (λr4 VJ=>EW _ _ _ VJ) (λr4 VJ=>?_);exact cD _ (cq _ _) ⟨rfl,rfl⟩
end
def Gz(l:List UInt8):Nat:=l.foldl (λa d=>10*a+(d.toNat-48)) 0
theorem aaJ:∀u:Nat,Gz (Lib.decDigits u)=u:=by
 intro u;induction u using Nat.strongRecOn with
 |ind u ih=>
  rw[Lib.decDigits];by_cases h:u<10
  ·rw[dif_pos h];have:u % 256=u:=Nat.mod_eq_of_lt (by omega);simp [Gz];omega
  ·rw[dif_neg h];have h1:=ih (u / 10) (by omega);unfold Gz at h1 ⊢;rw[ZL,h1];simp;omega
theorem af8{a b:Int}(ha:0<=a)(hb:0<=b)(h:iT a=iT b):a=b:=by obtain⟨m,rfl⟩:=am5 ha;obtain⟨n,rfl⟩:=am5 hb;unfold iT at h;have h1:=congrArg (λs:ByteArray=>s.data.toList) h;simp only[Lib.ajf]at h1;have h2:=congrArg Gz h1;simp only[aaJ]at h2;rw[h2]
theorem E8{n:Int}(h:bA n):(iT n).size<=21:=by have:=Lib.ajb n h.1 h.2;show(Lib.itoa n).toArray.size<=21;simpa using this
abbrev Tl:ByteArray:=⟨#[40]⟩
abbrev Sp:ByteArray:=⟨#[41]⟩
abbrev adU:ByteArray:=⟨#[32,116,104,114,117,32]⟩
abbrev acX:ByteArray:=⟨#[103,114,111,117,112,32]⟩
abbrev abE:ByteArray:=⟨#[112,114,101,115,101,116,32]⟩
abbrev aeB:ByteArray:=⟨#[111,100,100,32]⟩
abbrev adS:ByteArray:=⟨#[101,118,101,110,32]⟩
abbrev adR:ByteArray:=⟨#[98,97,99,107,32]⟩
abbrev acW:ByteArray:=⟨#[101,118,101,114,121,32]⟩
abbrev adT:ByteArray:=⟨#[32,102,114,111,109,32]⟩
abbrev F4:ByteArray:=⟨#[32,45,32]⟩
abbrev Gg:ByteArray:=⟨#[32,43,32]⟩
abbrev acV:ByteArray:=⟨#[32]⟩
def nV(k:Int)(s:ByteArray):ByteArray:=if k=4\/k=5 then Tl++s++Sp else s
def qN(m s:ByteArray):List ByteArray->ByteArray
 |[]=>s
 |a::l=>qN m (s++(m++a)) l
def GQ(k f t:Int)(ks:List Int)(ts:List ByteArray):ByteArray:=
 if k=1 then(if f=t then iT f else iT f++adU++iT t)
 else if k=2 then acX++iT f
 else if k=3 then abE++iT f
 else if k=6 then aeB++nV (ks.headD 0) (ts.headD default)
 else if k=7 then adS++nV (ks.headD 0) (ts.headD default)
 else if k=8 then adR++nV (ks.headD 0) (ts.headD default)
 else if k=9 then acW++iT f++adT++iT t++acV++nV (ks.headD 0) (ts.headD default)
 else qN (if k=5 then F4 else Gg) (if ks.headD 0=5\/k=5 then ts.headD default else nV (ks.headD 0) (ts.headD default)) (amq nV (ks.drop 1) (ts.drop 1))
mutual
def eH:aD->ByteArray
 |.mk k f t l=>GQ k f t (l.map Zy) (CC l)
def CC:List aD->List ByteArray
 |[]=>[]
 |p::l=>eH p::CC l
end
theorem QX:∀l:List aD,CC l=l.map eH
 |[]=>by rw[CC];rfl
 |p::l=>by rw[CC,QX l];rfl
def fN(p:aD):ByteArray:=nV p.kind (eH p)
theorem JZ:∀l:List aD,amq nV (l.map Zy) (l.map eH)=l.map fN
 |[]=>rfl
 |p::l=>by rw[bU,bU,List.zipWith_cons_cons,JZ l];rfl
theorem RX(p:aD):eH p=GQ p.kind p.aT p.to (p.args.map Zy) (p.args.map eH):=by cases p;rw[eH,QX];rfl
theorem gd(a b:ByteArray):(a++b).size=a.size+b.size:=ByteArray.size_append
theorem PJ(k:Int)(s:ByteArray):(nV k s).size<=s.size+2:=by
 unfold nV;split
 ·rw[gd,gd];show 1+s.size+1<=_;omega
 ·omega
theorem Jn(m:ByteArray):∀(l:List ByteArray)(s:ByteArray),(qN m s l).size=s.size+(l.map λa=>m.size+a.size).sum
 |[],s=>by simp [qN]
 |a::l,s=>by rw[qN,Jn m l,gd,gd,bU,X2];omega
theorem Pj:∀{l:List aD},nL l=0->∀x∈l,dm x=0
 |p::l,h,x,hx=>by
  rw[nL]at h;by_cases hp:dm p=0
  ·rw[aC hp]at h;rcases eo.1 hx with rfl|hx
   ·exact hp
   ·exact Pj h x hx
  ·rw[aB hp]at h;exact absurd h hp
theorem Jz{p:aD}(h:dm p=0):gQ p.kind p.aT p.to p.args.length=0/\∀x∈p.args,dm x=0:=by
 rw[RW]at h;by_cases hp:gQ p.kind p.aT p.to p.args.length=0
 ·rw[aC hp]at h;exact⟨hp,Pj h⟩
 ·rw[aB hp]at h;exact absurd h hp
theorem Ji{k f t:Int}{n:Nat}(h:gQ k f t n=0):(1<=k/\k<=9)/\¬wP k f t n/\¬D0 k f t:=by
 unfold gQ at h;split at h
 ·cases h
 ·rename_i h1;split at h
  ·cases h
  ·rename_i h2;split at h
   ·cases h
   ·rename_i h3;exact⟨by omega,h2,h3⟩
theorem RZ{k f t:Int}{n:Nat}(h:gQ k f t n=0):0<=f/\f<=9999/\0<=t/\t<=9999:=by
 obtain⟨h1,h2,h3⟩:=Ji h;unfold wP at h2;unfold D0 at h3;have hk':k=1\/k=2\/k=3\/k=4\/k=5\/k=6\/k=7\/k=8\/k=9:=by omega
 rcases hk' with rfl|rfl|rfl|rfl|rfl|rfl|rfl|rfl|rfl<;>omega
theorem KE{f g:aD->Nat}:∀{l:List aD},(∀x∈l,f x<=g x)->(l.map f).sum<=(l.map g).sum
 |[],_=>bJ _
 |x::l,h=>by
  rw[bU,bU,X2,X2];have:=h x (by simp);have:=KE (f:=f) (g:=g) (l:=l) λy hy=>h y (by simp [hy])
  omega
theorem KD:∀l:List aD,(l.map λx=>70*bn x).sum=70*cC l
 |[]=>by rw[cC];rfl
 |p::l=>by rw[bU,X2,KD l,cC];omega
theorem JA:∀(n:Nat)(p:aD),bn p<=n->dm p=0->(eH p).size+5<=70*bn p
 |0,p,h,_=>by rw[qH]at h;omega
 |n+1,p,h,hc=>by
  obtain⟨h0,h1⟩:=Jz hc;have hin:=RZ h0;have ih:∀x∈p.args,(eH x).size+5<=70*bn x:=λx hx=>JA n x (by have:=B3 hx;omega) (h1 x hx)
  have hf:(iT p.aT).size<=21:=E8 (by unfold bA;omega);have ht:(iT p.to).size<=21:=E8 (by unfold bA;omega);have ha:∀x∈p.args,(fN x).size+3<=70*bn x:=λx hx=>by have:=ih x hx;have:=PJ x.kind (eH x);unfold fN;omega
  rw[RX,qH]
  have hd:∀x l,p.args=x::l->(nV ((p.args.map Zy).headD 0) ((p.args.map eH).headD default)).size+3<=70*cC p.args/\((p.args.map eH).headD default).size+5<=70*bn x:=λx l e=>by
   rw[e];have:=ha x (by rw[e];simp);have:=ih x (by rw[e];simp);rw[cC];unfold fN at *
   simp only[bU,aml];omega
  obtain⟨hk,hA,hB⟩:=Ji h0;unfold wP at hA;unfold GQ;cases hargs:p.args with
  |nil=>
   rw[hargs]at hA;simp only[Zk]at hA;by_cases k1:p.kind=1
   ·rw[aC k1];split
    ·omega
    ·rw[gd,gd];show _+6+_+5<=_;omega
   ·rw[aB k1];by_cases k2:p.kind=2
    ·rw[aC k2,gd];show 6+_+5<=_;omega
    ·rw[aB k2,aC (by omega),gd];show 7+_+5<=_;omega
  |cons x l=>
   obtain⟨d1,d2⟩:=hd x l hargs;rw[hargs]at hA d1 d2 ha;simp only[b9]at hA
   have hz:(l.map λa=>3+(fN a).size).sum<=70*cC l:=by rw[<-KD];exact KE λy hy=>by have:=ha y (by simp [hy]);omega
   rw[aB (by omega),aB (by omega),aB (by omega)];by_cases k6:p.kind=6
   ·rw[aC k6,gd];show 4+_+5<=_;omega
   ·rw[aB k6];by_cases k7:p.kind=7
    ·rw[aC k7,gd];show 5+_+5<=_;omega
    ·rw[aB k7];by_cases k8:p.kind=8
     ·rw[aC k8,gd];show 5+_+5<=_;omega
     ·rw[aB k8];by_cases k9:p.kind=9
      ·rw[aC k9,gd,gd,gd,gd,gd];show 6+_+6+_+1+_+5<=_;omega
      ·rw[aB k9,Jn]
       have hm:∀y:List ByteArray,(y.map λa=>(if p.kind=5 then F4 else Gg).size+a.size)=y.map λa=>3+a.size:=λy=>by split<;>rfl
       rw[hm]
       have e1:amq nV (((x::l).map Zy).drop 1) (((x::l).map eH).drop 1)=l.map fN:=by simp only[bU,List.drop_succ_cons,Xm];exact JZ l
       rw[e1,Y3]
       have e2:(if((x::l).map Zy).headD 0=5\/p.kind=5 then((x::l).map eH).headD default else nV (((x::l).map Zy).headD 0) (((x::l).map eH).headD default)).size+3<=70*bn x:=by have q:=ha x (by simp);unfold fN at q;simp only[bU,aml]at d2 ⊢;split<;>omega
       rw[cC];have e3:((l.map ((λa:ByteArray=>3+a.size)∘fN))).sum<=70*cC l:=hz;omega
theorem mH{a b:ByteArray}(h:a.size+b.size<=1000000000):jv a b=δ (a++b):=aC (by omega)
theorem PD(m:ByteArray):∀(l:List ByteArray)(s a:ByteArray),qN m s (l++[a])=qN m s l++(m++a)
 |[],s,a=>rfl
 |b::l,s,a=>by rw[iI,qN,qN,PD m l]
theorem acE{α:Type}{x:α}{l:List α}:Ed (x::l) (δ 1) η=δ l:=by simp [Ed];omega
theorem abo{f:aD->Nat}(l:List aD)(i:Nat):((l.take i).map f).sum<=(l.map f).sum:=by
 have h:=WD i l;have h2:(l.map f).sum=((l.take i).map f).sum+((l.drop i).map f).sum:=by rw[<-amC,<-Tm,h]
 omega
theorem aaq{q:aD->Option ByteArray}{m s:ByteArray}{l:List aD}{γ:Type}{K1:ByteArray->Option γ}{K2:Unit->Option γ}(hl:l.length<=bD)(hq:∀x∈l,q x=δ (fN x))(hm:m.size<=3)(hs:s.size+(l.map λa=>m.size+(fN a).size).sum<=100000000):
  iJ l (λ(i:Nat)e(s:ByteArray)=>(q e).bind λr=>(jv m r).bind λx=>(jv s x).bind λx=>δ (.go x)) (λs=>δ s) s K1 K2=K1 (qN m s (l.map fN)):=by
 rw[Ka (λi=>qN m s ((l.take i).map fN)) hl (by simp [qN])]
 ·rw[VZ,aL]
 ·intro i x hx;have ht:l.take (i+1)=l.take i++[x]:=by rw[u6,hx];rfl
  have h1:=abo (f:=λa=>m.size+(fN a).size) l (i+1);rw[ht,Tm,amC]at h1;simp only[bU,List.map_nil,X2,List.sum_nil]at h1;have h2:=Jn m ((l.take i).map fN) s;rw[Y3]at h2;have h3:(((l.take i).map ((λa:ByteArray=>m.size+a.size)∘fN))).sum=((l.take i).map λa=>m.size+(fN a).size).sum:=rfl;rw[h3]at h2;simp only[hq x (bR hx),aL];rw[mH (by omega),aL,mH (by rw[h2,gd];omega),aL,ht,Tm,bU,List.map_nil,PD]
theorem aa8(p:aD):fN p=if p.kind=4\/p.kind=5 then Tl++eH p++Sp else eH p:=rfl
theorem adQ{q:aD->Option ByteArray}{p:aD}(h:q p=δ (eH p))(hs:(eH p).size<=100000000):Ab q p=δ (fN p):=by
 unfold Ab;rw[h,aa8];by_cases hk:p.kind=4\/p.kind=5
 ·rw[aC (by simpa using hk),aC hk,aL,mH (by show 1+_<=_;omega),aL,mH (by rw[gd];show 1+_+1<=_;omega)];rfl
 ·rw[aB (by simpa using hk),aB hk];rfl
theorem abC(x:aD)(l:List aD):nV (((x::l).map Zy).headD 0) (((x::l).map eH).headD default)=fN x:=rfl
theorem adI(x:aD)(l:List aD):((x::l).map eH).headD default=eH x:=rfl
theorem adj(x:aD)(l:List aD):((x::l).map Zy).headD 0=x.kind:=rfl
theorem abD(x:aD)(l:List aD):amq nV (((x::l).map Zy).drop 1) (((x::l).map eH).drop 1)=l.map fN:=by simp only[bU,List.drop_succ_cons,Xm];exact JZ l
theorem aat{p:aD}(h:dm p=0)(hs:bn p<=1000000):bA p.aT/\bA p.to/\(iT p.aT).size<=21/\(iT p.to).size<=21/\(∀x∈p.args,dm x=0/\(eH x).size+5<=70*bn x/\(fN x).size+3<=70*bn x)/\(1<=p.kind/\p.kind<=9)/\¬wP p.kind p.aT p.to p.args.length/\(p.kind=1->(p.aT=p.to↔iT p.aT=iT p.to)):=by
 obtain⟨h0,h1⟩:=Jz h;obtain⟨a,b,c,d⟩:=RZ h0;obtain⟨e,g,_⟩:=Ji h0;have i1:bA p.aT:=by unfold bA;omega
 have i2:bA p.to:=by unfold bA;omega
 refine⟨i1,i2,E8 i1,E8 i2,λx hx=>?_,e,g,λ_=>⟨λq=>by rw[q],λq=>af8 a c q⟩⟩;have:=JA _ x (bJ _) (h1 x hx);have:=PJ x.kind (eH x);exact⟨h1 x hx,by omega,by unfold fN;omega⟩
theorem acv{x:aD}{l:List aD}{N:Nat}(hs:1+(bn x+cC l)<=N)(ha:∀y∈x::l,(fN y).size+3<=70*bn y){m:ByteArray}(hm:m.size<=3):(l.map λa=>m.size+(fN a).size).sum<=70*cC l:=by rw[<-KD];exact KE λy hy=>by have:=ha y (by simp [hy]);omega
theorem adF{qa qt:aD->Option ByteArray}{p:aD}(h:dm p=0)(hs:bn p<=1000000)(ha:∀x∈p.args,qa x=δ (fN x))(ht:∀x∈p.args,qt x=δ (eH x)):zV qa qt p=δ (eH p):=by
 obtain⟨i1,i2,f1,f2,hx,hk,hA,hj⟩:=aat h hs;unfold zV;rw[RX,rS i1,rS i2,aL,aL];unfold GQ;unfold wP at hA;rw[qH]at hs;cases hargs:p.args with
 |nil=>
  rw[hargs]at hA;simp only[Zk]at hA;by_cases k1:p.kind=1
  ·rw[aC k1,aC k1];by_cases e:p.aT=p.to
   ·rw[aC ((hj k1).1 e),aC e]
   ·rw[aB (λq=>e ((hj k1).2 q)),aB e,mH (by show _+6<=_;omega),aL,mH (by rw[gd];show _+6+_<=_;omega)];rfl
  ·rw[aB k1,aB k1];by_cases k2:p.kind=2
   ·rw[aC k2,aC k2,mH (by show 6+_<=_;omega)];rfl
   ·rw[aB k2,aB k2,aC (show p.kind=3 by omega),aC (show p.kind=3 by omega),mH (by show 7+_<=_;omega)];rfl
 |cons x l=>
  rw[hargs]at hA ha ht hx hs;simp only[b9]at hA;rw[cC]at hs;have hl:l.length<=bD:=by have:=Jg l;unfold bD;omega
  obtain⟨_,x1,x2⟩:=hx x (by simp);have ix:nh (x::l) 0=δ x:=rfl;have k1:¬p.kind=1:=by omega
  have k2:¬p.kind=2:=by omega
  have k3:¬p.kind=3:=by omega
  rw[aB k1,aB k2,aB k3,aB k1,aB k2,aB k3,ix,abC,adI,adj,abD];simp only[aL,ha x (by simp)];by_cases k6:p.kind=6
  ·rw[aC k6,aC k6,mH (by show 4+_<=_;omega)];rfl
  ·rw[aB k6,aB k6];by_cases k7:p.kind=7
   ·rw[aC k7,aC k7,mH (by show 5+_<=_;omega)];rfl
   ·rw[aB k7,aB k7];by_cases k8:p.kind=8
    ·rw[aC k8,aC k8,mH (by show 5+_<=_;omega)];rfl
    ·rw[aB k8,aB k8];by_cases k9:p.kind=9
     ·rw[aC k9,aC k9,mH (by show 6+_<=_;omega),aL,mH (by rw[gd];show 6+_+6<=_;omega),aL,mH (by rw[gd,gd];show 6+_+6+_<=_;omega),aL,mH (by rw[gd,gd,gd];show 6+_+6+_+1<=_;omega),aL,mH (by rw[gd,gd,gd,gd];show 6+_+6+_+1+_<=_;omega)];rfl
     ·rw[aB k9,aB k9]
      have e1:(if p.kind=5 then δ (⟨#[32,45,32]⟩:ByteArray)else δ (⟨#[32,43,32]⟩:ByteArray))=δ (if p.kind=5 then F4 else Gg):=by by_cases k5:p.kind=5<;>simp [k5]
      have e2:(if((decide (x.kind=5))||(decide (p.kind=5)))=ι then(qt x).bind λjS=>δ jS else δ (fN x))=δ (if x.kind=5\/p.kind=5 then eH x else fN x):=by
       rw[ht x (by simp)];by_cases k5:x.kind=5\/p.kind=5
       ·rw[aC k5,aC (by simpa using k5)];rfl
       ·rw[aB k5,aB (by simpa using k5)]
      rw[e1,aL,e2,aL,acE,aL];have hm:(if p.kind=5 then F4 else Gg).size<=3:=by split<;>exact bJ 3
      rw[aaq hl (λy hy=>ha y (by simp [hy])) hm];have:=acv hs (λy hy=>(hx y hy).2.2) hm;split<;>omega
theorem adH:∀(n:Nat)(p:aD)(σ:Heap),2*dK p<=n->bn p<=1000000->dm p=0->fuel pI (n+1) 462 [.agg (aF p)] σ=δ (.str (eH p),σ)/\fuel pI (n+2) 461 [.agg (aF p)] σ=δ (.str (fN p),σ):=by
 have texts:∀(n:Nat),(∀(p:aD)(σ:Heap),2*dK p<=n->bn p<=1000000->dm p=0->fuel pI (n+1) 462 [.agg (aF p)] σ=δ (.str (eH p),σ))->∀(p:aD)(σ:Heap),2*dK p<=n->bn p<=1000000->dm p=0->fuel pI (n+2) 461 [.agg (aF p)] σ=δ (.str (fN p),σ):=by
  intro n ih p σ hd hs hc;let q:aD->Option ByteArray:=λx=>if 2*dK x<=n/\bn x<=1000000/\dm x=0 then δ (eH x)else η
  have e:Ab q p=δ (fN p):=adQ (aC ⟨hd,hs,hc⟩) (by have:=JA _ p (bJ _) hc;omega);have hr:fuel pI (n+2) 461=Φ ι [iK] .k (XJ (Aa (fuel pI (n+1)))):=rfl;rw[hr]
  exact akR (rc:=fuel pI (n+1)) q (λx s r hx=>by
   by_cases hp:2*dK x<=n/\bn x<=1000000/\dm x=0
   ·have:q x=_:=aC hp;rw[this]at hx;injection hx with hx;subst hx
    exact ih x s hp.1 hp.2.1 hp.2.2
   ·have:q x=η:=aB hp
    rw[this]at hx;cases hx) e
 have main:∀(n:Nat)(p:aD)(σ:Heap),2*dK p<=n->bn p<=1000000->dm p=0->fuel pI (n+1) 462 [.agg (aF p)] σ=δ (.str (eH p),σ):=by
  intro n;induction n using Nat.strongRecOn with
  |ind n ih=>
   intro p σ hd hs hc;have h1:=B2 p;obtain⟨m,rfl⟩:∃m,n=m+2:=⟨n-2,by omega⟩
   have hda:∀x∈p.args,2*dK x<=m:=λx hx=>by have:=zY hx;rw[xD]at hd;omega
   let qa:aD->Option ByteArray:=λx=>if 2*dK x<=m/\bn x<=1000000/\dm x=0 then δ (fN x)else η
   let qt:aD->Option ByteArray:=λx=>if 2*dK x<=m/\bn x<=1000000/\dm x=0 then δ (eH x)else η
   have hz:∀x∈p.args,2*dK x<=m/\bn x<=1000000/\dm x=0:=λx hx=>⟨hda x hx,by have:=B3 hx;omega,(Jz hc).2 x hx⟩
   have e:zV qa qt p=δ (eH p):=adF hc hs (λx hx=>aC (hz x hx)) (λx hx=>aC (hz x hx));have hr:fuel pI (m+2+1) 462=Φ ι [iK] .k (XJ (zT (fuel pI (m+2)))):=rfl;rw[hr]
   exact ak5 (rc:=fuel pI (m+2)) qa qt (λx s r hx=>by
    by_cases hp:2*dK x<=m/\bn x<=1000000/\dm x=0
    ·have:qa x=_:=aC hp;rw[this]at hx;injection hx with hx;subst hx
     exact texts m (ih m (by omega)) x s hp.1 hp.2.1 hp.2.2
    ·have:qa x=η:=aB hp
     rw[this]at hx;cases hx) (λx s r hx=>by
    by_cases hp:2*dK x<=m/\bn x<=1000000/\dm x=0
    ·have:qt x=_:=aC hp;rw[this]at hx;injection hx with hx;subst hx
     exact ih (m+1) (by omega) x s (by omega) hp.2.1 hp.2.2
    ·have:qt x=η:=aB hp
     rw[this]at hx;cases hx) e
 exact λn p σ hd hs hc=>⟨main n p σ hd hs hc,texts n (main n) p σ hd hs hc⟩
theorem adG(p:aD)(h:bn p<=900000/\dm p=0)(σ:Heap):IL [.agg (aF p)] σ=δ (.str (eH p),σ):=(adH 1999999 p σ (by have:=zX p;omega) (by omega) h.2).1
section
def BQ (a0:aD):Option (ByteArray×Int):=
 (xu a0).bind λr1=>
 if ¬(r1=0)then
  δ ((⟨#[]⟩:ByteArray),r1)
 else
 (tq (bn a0<=900000/\dm a0=0) (eH a0)).bind λr2=>
 if 4000<(r2.size:Int)then
  δ ((⟨#[]⟩:ByteArray),2)
 else
 δ (r2,0)
theorem akX{a0:aD}{σ:Heap}{r:(ByteArray×Int)}(h:BQ a0=δ r):BO [(l8 (aF a0))] σ=δ ((YM [(u5 r.1),(ε r.2)]),σ):=by
 refine vQ (f:=Ix) (y0:=(l8 (aF a0))) (enc:=λr:(ByteArray×Int)=>(YM [(u5 r.1),(ε r.2)])) (T:=BQ a0) (by first|rfl|(simp only[aA];rfl)) (by first|rfl|(simp only[aA];rfl)) ?_ r h;unfold Ix BQ;refine au (aF a0) (by first|rfl|(simp only[aA];rfl))<|au (l8 (aF a0)) (by first|rfl|(simp only[aA];rfl)) ?_;refine cE (λr1:Int=>((ε r1),σ)) (λr1 mz=>Io mz) (λr1 mz=>?_);refine au _ (fW _ _ _) ?_;refine dF (p:=¬(r1=0)) (λc4=>?_) (λc4=>?_)
 ·exact cD _ (cq _ _) ⟨rfl,rfl⟩
 refine au (l8 (aF a0)) (by first|rfl|(simp only[aA];rfl)) ?_;refine cE (λr2:ByteArray=>((u5 r2),σ)) (λr2 jQ=>(rW (e:=λr:ByteArray=>((u5 r),σ)) (λhs=>adG a0 hs σ)) jQ) (λr2 jQ=>?_);refine au (ε (r2.size:Int)) (by first|rfl|(simp only[aA];rfl))<|au (φ (decide (4000<(r2.size:Int)))) (by first|rfl|(simp only[aA];rfl)) ?_;refine dF (p:=4000<(r2.size:Int)) (λc3=>?_) (λc3=>?_)
 ·exact cD _ (cq _ _) ⟨rfl,rfl⟩
 exact cD _ (cq _ _) ⟨rfl,rfl⟩
end
def Kx(p:aD):ByteArray×Int:=if ¬iF p=0 then((⟨#[]⟩:ByteArray),iF p)else if 4000<((eH p).size:Int)then((⟨#[]⟩:ByteArray),2)else(eH p,0)
theorem ON{p:aD}(h:iF p=0):bn p<=200/\dK p<=12/\dm p=0:=by
 unfold iF at h;split at h
 ·cases h
 ·exact⟨by omega,by omega,h⟩
theorem abd{p:aD}(h:bn p<=2000000):BQ p=δ (Kx p):=by
 unfold BQ Kx;rw[Jr h,aL];by_cases hc:iF p=0
 ·rw[aB (λk=>k hc),aB (λk=>k hc),rS ⟨by have:=(ON hc).1;omega,(ON hc).2.2⟩,aL];split<;>rfl
 ·rw[aC hc,aC hc]
section
open HP
theorem unV{α:Type}{X:Option α}{v:α}(h:∃z,X=δ z/\z=v):X=δ v:=by obtain⟨z,e,rfl⟩:=h;exact e
theorem adM{ro:Bool}{cm:List Sh}{r:AV->AV->AV->AV->AV->Heap->aG}{x y z w u v v':AV}{dn:Sh}{σ σ':Heap}(h:[x,y,z,w,u].any Z2=θ)(e1:Z3 cm [x,y,z,w,u]=[x,y,z,w,u])(hv:XM dn v=v')(e:r x y z w u σ=δ (v,σ')):Φ ro cm dn (A.uO r) [x,y,z,w,u] σ=δ (v',σ'):=by refine wrap_eq h ?_ hv;rw[e1];exact e
theorem adL{s:List Sh}{r:AV->AV->AV->AV->Heap->aG}{x y z w v:AV}{σ:Heap}(h:[x,y,z,w].any Z2=θ)(e1:Z3 s [x,y,z,w]=[x,y,z,w])(e:r x y z w σ=δ (v,σ)):Φ ι s .k (A.qT r) [x,y,z,w] σ=δ (v,σ):=by refine wrap_eq h ?_ (kY _);rw[e1];exact e
theorem abZ{σ:Heap}{id:Nat}{cs:aq}(h:σ[id]? =δ (.box cs))(hc:nY cs)(d:Nat):Ya σ 0 (d+1) (.op id 0)=δ (.rp cs):=by simp only[Ya,h,amn,if_false,Xm,FV,hc σ 0 d,dL]
section
variable {an σ : Heap} {R : HP}
theorem Su(b:Bool)(H:Hs aP an σ R):e9 an (.bool b) σ=δ (.bool b,an):=Kp H (by simp [Ya]) (λ_=>rfl)
theorem acH(r:cS)(gl:List bG)(pl:List eE)(p:aD)(hs:pW r/\qW gl/\fD uq pl/\bn p<=2000000)(σ:Heap):(A.qd (.t [(.s 1),.k]) xm) [.agg (cZ r),sl 5 bV gl,sl 3 eA pl,.agg (aF p)] σ=δ (.aN [sl 1 aO (dP r gl pl p).1,.ah (dP r gl pl p).2],σ):=by
 obtain⟨v,σ',e,H⟩:=Se r gl pl p hs (AF (B:=aP) σ);obtain⟨v',h1,h2,h3⟩:=KB H pK (bJ _) 7
 have e2:e9 σ (.aN [v,.ah (dP r gl pl p).2]) σ'=δ (.aN [v',.ah (dP r gl pl p).2],σ):=by
  refine Kp (Kr H) (by simp [Ya,XT,h1]) (λee=>?_);rcases nF H with⟨q,rfl|rfl,_⟩|⟨id,g,rfl,K⟩
  ·simp [Ya]at h1;rw[h1]
  ·simp [Ya]at h1;rw[h1]
  ·obtain⟨k1,k2⟩:=dS K;have:=(bB.1 k2).1;rw[ee]at this;omega
 have e3:XM (.t [.s 1,.k]) (.aN [v',.ah (dP r gl pl p).2])=.aN [sl 1 aO (dP r gl pl p).1,.ah (dP r gl pl p).2]:=by simp only[XM,Z3]at h3 ⊢;rw[h3]
 unfold A.qd;rw[e,bS,e2,dL,e3]
abbrev C2 : Nat -> aq -> Heap -> aG := U8 (fun _ _ => η) [(469, uf), (472, ug)]
theorem L7(x y:AV):l6 (.bool ι) x y=δ x:=rfl
theorem agP(x y:AV):l6 (.bool θ) x y=δ y:=rfl
theorem adJ(x:dZ)(n:Int)(σ:Heap):uf [.agg (dJ x),.rp [.ah n]] σ=δ (.bool (decide (x.aI=n)),σ):=by refine wrap_eq rfl ?_ (kY _);show HN (.agg (dJ x)) (.rp [.ah n]) σ=_;unfold HN;rw[jW,bS,jU,bS,show((ψ (.rp [ε n]) σ).bind λc=>Θ 0 c)=δ (.ah n)from rfl,bS,cv,bS];exact cq _ _
theorem acq{p:aD}(k:Int)(h:bn p<=1500000):bn (pfx k p)<=2000000:=by
 have:bn (pfx k p)=1+bn p:=by simp [pfx,bn,cC]
 omega
theorem ac0{l:aq}(h:l.length=4):eO 4 1 l=[l]:=by rw[eO,eO,lW (by omega)]
theorem abA(k:Int)(p:aD):((((l5 (ε k)).bind λv=>δ [v]).bind λdG=>(y9 0 dG [(ε 0),(ε 0),(ε 0),Ju]).bind λmm=>((l5 (WV 4 [aF p])).bind λv=>δ [v]).bind λiu=>(y9 3 iu mm).bind λgA=>δ gA).bind λcs=>δ (l8 cs))=δ (.agg (aF (pfx k p))):=by rw[aA (pfx k p)];rfl
theorem KH{r:cS}{gl:List bG}{pl:List eE}{p:aD}(hs:pW r/\qW gl/\fD uq pl/\bn p<=1500000)(k:Int)(H:Hs aP an σ R):∃v σ',ug [.ah k,.rp (cZ r),.rp [sl 5 bV gl],.rp [sl 3 eA pl],.rp (aF p)] σ=δ (.aN [v,.bool (decide ((dP r gl pl (pfx k p)).2=0))],σ')/\Hs aP an σ' (Iv v (dP r gl pl (pfx k p)).1*R):=by obtain⟨v,σ',e,K⟩:=Se r gl pl (pfx k p) ⟨hs.1,hs.2.1,hs.2.2.1,(acq k hs.2.2.2)⟩ H;refine⟨v,σ',adM rfl (by simp [Z3]) (kY _) ?_,K⟩;unfold HO;rw[show((ψ (.rp (cZ r)) σ).bind λc=>Ze 0 2 c)=δ (.agg (cZ r))from rfl,bS,show((ψ (.rp [sl 5 bV gl]) σ).bind λc=>Θ 0 c)=δ (sl 5 bV gl)from rfl,bS,show((ψ (.rp [sl 3 eA pl]) σ).bind λc=>Θ 0 c)=δ (sl 3 eA pl)from rfl,bS,show((ψ (.rp (aF p)) σ).bind λc=>Ze 0 4 c)=δ (.agg (aF p))from by rw[mQ,bS,ur],bS];rw[show(((i7 4 (.agg (aF p))).bind λc9=>(y9 0 c9 [(ε 0),(ε 0),(ε 0),Ju]).bind λko=>δ ko).bind λcs=>δ (WV 4 (eO 4 1 cs)))=δ (.sl 4 [aF p])from by rw[sU,bS,qI _ _ rfl,bS,bS,ac0 (PM p)],bS,abA,bS,e,bS];simp only;rw[su,bS,ext1,bS,cv,bS]
theorem eq_int{v w:AV}{l:List Int}(hl:l.length<=bD)(h:A7 σ [.s 1,.s 1] [v,w] [sl 1 aO l,sl 1 aO l]):zC [v,w] σ=δ (.bool ι,σ):=
 GG (bQ:=[v,w]) (ts:=[sl 1 aO l,sl 1 aO l]) h (λσ=>WY (aaL l hl)) rfl
theorem aaa:Kx (.mk 1 1 2 [])=(⟨#[49,32,116,104,114,117,32,50]⟩,0):=by decide+kernel
theorem adl:((((l5 (ε 1)).bind λv=>δ [v]).bind λnZ=>(y9 0 nZ [(ε 0),(ε 0),(ε 0),Ju]).bind λkq=>((l5 (ε 1)).bind λv=>δ [v]).bind λiL=>(y9 1 iL kq).bind λuQ=>((l5 (ε 2)).bind λv=>δ [v]).bind λkr=>(y9 2 kr uQ).bind λuR=>δ uR).bind λcs=>δ (l8 cs))=δ (.agg [.ah 1,.ah 1,.ah 2,.aH]):=rfl
theorem abc(σ:Heap):BO [.agg [.ah 1,.ah 1,.ah 2,.aH]] σ=δ (.aN [.str ⟨#[49,32,116,104,114,117,32,50]⟩,.ah 0],σ):=by have h:=akX (σ:=σ) (abd (p:=.mk 1 1 2 []) (by simp [bn,cC]));rw[aaa]at h;rw[<-h];exact xF (by rw[aA];rfl) rfl rfl
theorem abe{r:cS}{gl:List bG}{pl:List eE}{p:aD}(hs:pW r/\qW gl/\fD uq pl/\bn p<=1500000)(σ:Heap):EC (.agg (cZ r)) (sl 5 bV gl) (sl 3 eA pl) (.agg (aF p)) σ=δ (.bool ι,σ):=by
 unfold EC;rw[show((i7 2 (.agg (cZ r))).bind λcs=>δ (Zh cs))=δ (.rp (cZ r))from rfl,bS,show(((l5 (sl 5 bV gl)).bind λv=>δ [v]).bind λcs=>δ (Zh cs))=δ (.rp [sl 5 bV gl])from rfl,bS,show(((l5 (sl 3 eA pl)).bind λv=>δ [v]).bind λcs=>δ (Zh cs))=δ (.rp [sl 3 eA pl])from rfl,bS,show((i7 4 (.agg (aF p))).bind λcs=>δ (Zh cs))=δ (.rp (aF p))from by rw[sU,bS],bS];rw[show((ψ (.rp (cZ r)) σ).bind λc=>Ze 0 2 c)=δ (.agg (cZ r))from rfl,bS,show((ψ (.rp [sl 5 bV gl]) σ).bind λc=>Θ 0 c)=δ (sl 5 bV gl)from rfl,bS,show((ψ (.rp [sl 3 eA pl]) σ).bind λc=>Θ 0 c)=δ (sl 3 eA pl)from rfl,bS,show((ψ (.rp (aF p)) σ).bind λc=>Ze 0 4 c)=δ (.agg (aF p))from by rw[mQ,bS,ur],bS,acH r gl pl p ⟨hs.1,hs.2.1,hs.2.2.1,by omega⟩ σ,bS];simp only;rw[su,bS,ext1,bS,adl,bS,abc,bS];simp only;rw[su,bS,ext1,bS,Lk,bS,ia (λq=>q rfl)];simp only[gF,bS,fW,ia (λq:¬(0:Int)=0=>q rfl),D1,mJ];by_cases hf:(dP r gl pl p).2=0
 case neg=>
  have GC:(dP r gl pl p).1=[]:=by
   unfold dP at hf ⊢;split
   ·rfl
   split
   ·rfl
   split
   ·rfl
   split
   ·rfl
   rename_i h1 h2 h3 h4;rw[aB h1,aB h2,aB h3,aB h4]at hf;exact absurd rfl hf
  rw[ga hf,pR,GC,show WJ (sl 1 aO ([]:List Int))=δ (.ah 0)from rfl,bS,cv,bS];exact cq _ _
 rw[ia (show ¬¬((dP r gl pl p).2=0)from λq=>q hf),mJ];obtain⟨hnd,hin⟩:=akK (r:=r) (gl:=gl) (pl:=pl) (p:=p);have hpf:=aaw hf
 have hlen:(dP r gl pl p).1.length<=400:=by
  have h1:lM r pl=0:=by
   by_cases h1:lM r pl=0
   ·exact h1
   ·unfold dP at hf;rw[aC h1]at hf;exact absurd hf h1
  have:=Jw hnd hin;have h2:=(JC h1).1;unfold fk at this;rw[p7]at this;omega
 obtain⟨l,hl⟩:∃l,l=(dP r gl pl p).1:=⟨_,rfl⟩
 rw[<-hl]at hnd hin hpf hlen ⊢;rw[dh,bS];refine unV ?_;refine oL (Q:=λq=>q.1=.exit 0/\Hs aP σ q.2.2 emp) (kP l (λi vs w=>vs=[.bool θ,.ah (i:Int)]/\Hs aP σ w emp) ?_ ?_ ⟨rfl,AF σ⟩) ?_
 ·rintro i x vs w hx ⟨rfl,K⟩;have hi:=(bB.1 hx).1;obtain⟨n,hn⟩:∃n,n=w.length:=⟨_,rfl⟩
  have K1:Hs aP σ (w++[WE [.ah x]]) emp:=Cr (Kr K) _ (λ_ _=>trivial);have hg:(w++[WE [.ah x]])[n]? =δ (.box [.ah x]):=by rw[hn];simp
  have hc:(BD [sl 1 aO (l.take i),.ah x] (w++[WE [.ah x]]))=δ (.bool θ,w++[WE [.ah x]]):=by
   rw[Wr _ (by rw[nT];unfold bD;omega)]
   have:((l.take i).any λy=>decide (x=y))=θ:=by rw[Bool.eq_false_iff];intro q;obtain⟨y,hy,e⟩:=alW.1 q;rw[<-of_decide_eq_true e]at hy;exact Jd hnd hx hy
   rw[this]
  have hcf:By C2 [sl 4 dJ r.eZ,.fn 469 [.op n 0]] (w++[WE [.ah x]])=δ (.bool ι,w++[WE [.ah x]]):=by
   have h:=alr C2 r.eZ hs.1.2.1 469 [.op n 0] (λy=>decide (y.aI=x)) (w++[WE [.ah x]]) (λy _=>
    GG (bQ:=[.agg (dJ y),.op n 0]) (ts:=[.agg (dJ y),.rp [.ah x]]) ⟨Gm (SB (aaS y)) rfl,⟨⟨.rp [.ah x],abZ hg (vP (pM _ _) FW) 7,rfl,rfl⟩,rfl,λh=>by cases h⟩,trivial⟩ (λσ=>adJ y x σ) rfl)
   rw[h]
   have:(r.eZ.any λy=>decide (y.aI=x))=ι:=by obtain⟨y,hy,e⟩:=fK.1 (hin x (bR hx));exact alW.2 ⟨y,hy,by simpa using e⟩
   rw[this]
  refine⟨[.bool θ,.ah ((i+1:Nat):Int)],w++[WE [.ah x]],?_,rfl,K1⟩;simp only[bW,eM];rw[fJ hx,bS,pR,gm hx,bS,show((ψ (.rp (aO x)) w).bind λc=>Θ 0 c)=δ (.ah x)from rfl,bS,show((l5 (ε x)).bind λv=>δ [v])=δ [.ah x]from rfl,bS,show u7 (YI w.length 0) [.ah x] (w++[WE [ε 0]])=δ (w++[WE [.ah x]])from by simp [u7,y9],bS,<-hn,YP 1 aO l (by omega),bS,show((ψ (.op n 0) (w++[WE [.ah x]])).bind λc=>Θ 0 c)=δ (.ah x)from by simp only[ψ,hg];rfl,bS,iR hc,bS];simp only[gF,show WN 1 (.rp (cZ r))=δ (.rp ((cZ r).drop 1))from rfl,bS,show((ψ (.rp ((cZ r).drop 1)) (w++[WE [.ah x]])).bind λc=>Θ 0 c)=δ (sl 4 dJ r.eZ)from rfl,iR hcf,ya,D1,mJ,fM hx (by unfold bD;omega)]
 ·rintro vs w ⟨rfl,K⟩;refine⟨(.exit 0,[.bool θ,.ah (l.length:Int)],w),?_,by simp,rfl,K⟩;simp only[bW,eM];rw[fL,bS,mJ]
 rintro⟨q1,q2,w⟩ ⟨rfl,K⟩;simp only at K;simp only[mu];obtain⟨v1,w1,e1,K1⟩:=KH hs 6 K;obtain⟨v2,w2,e2,K2⟩:=KH hs 7 K1;obtain⟨v3,w3,e3,K3⟩:=KH hs 8 K2;rw[show A.gP C2 (.fn 472 [.rp (cZ r),.rp [sl 5 bV gl],.rp [sl 3 eA pl],.rp (aF p)]) [.ah 6] w=_ from e1,bS];simp only;rw[su,bS,ext1,bS,show A.gP C2 (.fn 472 [.rp (cZ r),.rp [sl 5 bV gl],.rp [sl 3 eA pl],.rp (aF p)]) [.ah 7] w1=_ from e2,bS];simp only;rw[su,bS,ext1,bS,show A.gP C2 (.fn 472 [.rp (cZ r),.rp [sl 5 bV gl],.rp [sl 3 eA pl],.rp (aF p)]) [.ah 8] w2=_ from e3,bS];simp only;rw[su,bS,ext1,bS,Ll,bS];clear e1 e2 e3 K1 K2;rcases hpf with AU|⟨g6,g7,g8⟩
 ·rw[AU 6 (.inl rfl),AU 7 (.inr (.inl rfl)),AU 8 (.inr (.inr rfl))]at K3;rw[AU 6 (.inl rfl),AU 7 (.inr (.inl rfl)),AU 8 (.inr (.inr rfl))];have l3:=rR K3;have l2:=rR (dR K3);have l1:=rR (dR (dR K3));simp only[show decide ((2:Int)=0)=θ from rfl,Bool.not_false,Vb,bS,Hu,pR,l1,l2,l3,Zk,Int.natCast_zero,cv,decide_true,gT];exact⟨_,Su ι K3,rfl⟩
 rw[g6,g7,g8]at K3;rw[g6,g7,g8];simp only[decide_true,Wq,gF,bS,ya,D1,mJ];obtain⟨LZ,gu⟩:=Ss l;generalize eT 2 0 l=o at K3 LZ gu;generalize eT 2 1 l=e at K3 LZ gu;have VD:o.length<=400:=by omega
 have hel:e.length<=400:=by omega
 refine oL (Q:=λq=>∃vo u,q.1=.exit 2/\q.2.1=[vo,u]/\Hs aP σ q.2.2 (Iv vo l*(Iv v3 l.reverse*(Iv v2 e*(Iv v1 o*emp))))) (kP l (λi vs w=>∃vo,vs=[vo,.ah (i:Int)]/\Hs aP σ w (Iv vo (l.take i)*(Iv v3 l.reverse*(Iv v2 e*(Iv v1 o*emp))))) ?_ ?_ ⟨.aH,rfl,ji K3 (.inl rfl)⟩) ?_
 ·rintro i x vs w hx ⟨vo,rfl,K⟩;have hi:=(bB.1 hx).1;obtain⟨V9,w',e1,K'⟩:=AG (B:=aP) (x:=x) (λ_ _ _ _=>trivial) (by have:=List.length_take_le i l;unfold dQ;omega) K;refine⟨[V9,.ah ((i+1:Nat):Int)],w',?_,V9,rfl,by rw[u6,hx];exact K'⟩;have K1:=bO (show _=Iv v1 o*(Iv vo (l.take i)*(Iv v3 l.reverse*(Iv v2 e*emp))) by ac_rfl) K;have K2:=bO (show _=Iv v2 e*(Iv vo (l.take i)*(Iv v3 l.reverse*(Iv v1 o*emp))) by ac_rfl) K;have l1:=rR K1;have l2:=rR K2;simp only[bW,eM];rw[fJ hx,bS,pR,fM hx (by unfold bD;omega),TQ _ _ (show(2:Int)≠0 by decide),bS];obtain⟨j,hj⟩:∃j,j=i / 2:=⟨_,rfl⟩
  have hq:Ξ.wrap ((i:Int).tdiv 2)=(j:Int):=by rw[Int.tdiv_eq_ediv_of_nonneg (by omega),show(i:Int) / 2=(j:Int) by omega];exact dY (by unfold bA;omega)
  by_cases h2:i % 2=0
  ·have hr:(i:Int).tmod 2=0:=by rw[amM (by omega)];omega
   have uZ:o[j]? =δ x:=by rw[(gu j).1,show 2*j=i by omega];exact hx
   have hjl:=(bB.1 uZ).1;obtain⟨pp,p1,p2⟩:=xJ K1 uZ;rw[hr,cv,bS,ga (show(0:Int)=0 from rfl)];simp only[gT,bS,TP _ _ (show(2:Int)≠0 by decide),hq,l1,qc,ga (show(j:Int)<(o.length:Int) by omega),L7,pR,p1,p2,show Θ 0 (aO x)=δ (.ah x)from rfl,yc,e1,bW]
  ·have hr:(i:Int).tmod 2=1:=by rw[amM (by omega)];omega
   have uZ:e[j]? =δ x:=by rw[(gu j).2,show 2*j+1=i by omega];exact hx
   have hjl:=(bB.1 uZ).1;obtain⟨pp,p1,p2⟩:=xJ K2 uZ;rw[hr,cv,bS,ia (show ¬(1:Int)=0 by decide)];simp only[Ve,bS,agP,mJ,TQ _ _ (show(2:Int)≠0 by decide),hr,cv,decide_true,gT,TP _ _ (show(2:Int)≠0 by decide),hq,l2,qc,ga (show(j:Int)<(e.length:Int) by omega),L7,pR,p1,p2,show Θ 0 (aO x)=δ (.ah x)from rfl,yc,e1,bW]
 ·rintro vs w ⟨vo,rfl,K⟩;rw[VZ]at K;refine⟨(.exit 2,[vo,.ah (l.length:Int)],w),?_,by simp,vo,_,rfl,rfl,K⟩;simp only[bW,eM];rw[fL,bS,mJ]
 rintro⟨q1,q2,w⟩ ⟨vo,u,rfl,rfl,K⟩;simp only[mu,bW];obtain⟨w5,r1,K5⟩:=La (by rw[amc];omega) (bO (show _=Iv v3 l.reverse*(Iv vo l*(Iv v2 e*(Iv v1 o*emp))) by ac_rfl) K);rw[List.reverse_reverse]at K5;rw[r1,bS];simp only;have m:=show l.length<=bD by unfold bD;omega
 have t1:=eq_int m ⟨AH pK (bO (show _=Iv vo l*(Iv v3 l*(Iv v2 e*(Iv v1 o*emp))) by ac_rfl) K5),Gm (Ts pK l) rfl,trivial⟩;have t2:=eq_int m ⟨AH pK K5,Gm (Ts pK l) rfl,trivial⟩;have l1:=rR (dR (dR (dR K5)));have l2:=rR (dR (dR K5));rw[t1,bS];simp only[gT,bS,iR t2,L7,l1,l2,dh,xT,cv,show Ξ.wrap ((o.length:Int)+(e.length:Int))=(l.length:Int)from by rw[dY (by unfold bA;omega)];omega,decide_true];exact⟨_,Su ι K5,rfl⟩
theorem Wv{r:cS}{gl:List bG}{pl:List eE}{p:aD}{σ:Heap}(hs:pW r/\qW gl/\fD uq pl/\bn p<=1500000):Oi [.agg (cZ r),sl 5 bV gl,sl 3 eA pl,.agg (aF p)] σ=δ (.bool ι,σ):=
 adL (by simp only[aA];rfl) (P6 r gl pl p) (abe hs σ)
end
theorem Ww(r:cS)(gl:List bG)(pl:List eE)(p:aD)(hr:pW r)(hg:qW gl)(hl:fD uq pl)(hp:bn p<=1500000):pW r/\qW gl/\fD uq pl/\bn p<=1500000:=⟨hr,hg,hl,hp⟩
end
section
open Go.RowKit
def Gr(w w':World):Prop:=Below w.heap.size w w'
theorem Gr.cell{a b:World}(h:Gr a b){p:Addr}{v:Value}(hc:a.cell? p=δ v):b.cell? p=δ v:=by
 by_cases hp:p.block<a.heap.size
 ·rw[Below.cell h hp];exact hc
 ·have:a.heap[p.block]? =η:=Array.getElem?_eq_none (by omega);simp [World.cell?,this]at hc
abbrev ajH(w:World)(b:Nat)(v0:Value):Prop:=(w.cell? ⟨b,0,η⟩=δ v0)/\(w.frozen? ⟨b,0,η⟩=θ)/\b<w.heap.size
abbrev ajI(w:World)(b:Nat)(v0 v1:Value):Prop:=(w.cell? ⟨b,0,η⟩=δ v0/\w.cell? ⟨b,1,η⟩=δ v1)/\(w.frozen? ⟨b,0,η⟩=θ/\w.frozen? ⟨b,1,η⟩=θ)/\b<w.heap.size
abbrev ajJ(w:World)(b:Nat)(v0 v1 v2:Value):Prop:=(w.cell? ⟨b,0,η⟩=δ v0/\w.cell? ⟨b,1,η⟩=δ v1/\w.cell? ⟨b,2,η⟩=δ v2)/\(w.frozen? ⟨b,0,η⟩=θ/\w.frozen? ⟨b,1,η⟩=θ/\w.frozen? ⟨b,2,η⟩=θ)/\b<w.heap.size
abbrev ajK(w:World)(b:Nat)(v0 v1 v2 v3:Value):Prop:=(w.cell? ⟨b,0,η⟩=δ v0/\w.cell? ⟨b,1,η⟩=δ v1/\w.cell? ⟨b,2,η⟩=δ v2/\w.cell? ⟨b,3,η⟩=δ v3)/\(w.frozen? ⟨b,0,η⟩=θ/\w.frozen? ⟨b,1,η⟩=θ/\w.frozen? ⟨b,2,η⟩=θ/\w.frozen? ⟨b,3,η⟩=θ)/\b<w.heap.size
abbrev ajL(w:World)(b:Nat)(v0 v1 v2 v3 v4:Value):Prop:=(w.cell? ⟨b,0,η⟩=δ v0/\w.cell? ⟨b,1,η⟩=δ v1/\w.cell? ⟨b,2,η⟩=δ v2/\w.cell? ⟨b,3,η⟩=δ v3/\w.cell? ⟨b,4,η⟩=δ v4)/\(w.frozen? ⟨b,0,η⟩=θ/\w.frozen? ⟨b,1,η⟩=θ/\w.frozen? ⟨b,2,η⟩=θ/\w.frozen? ⟨b,3,η⟩=θ/\w.frozen? ⟨b,4,η⟩=θ)/\b<w.heap.size
abbrev ajM(w:World)(b:Nat)(v0 v1 v2 v3 v4 v5:Value):Prop:=(w.cell? ⟨b,0,η⟩=δ v0/\w.cell? ⟨b,1,η⟩=δ v1/\w.cell? ⟨b,2,η⟩=δ v2/\w.cell? ⟨b,3,η⟩=δ v3/\w.cell? ⟨b,4,η⟩=δ v4/\w.cell? ⟨b,5,η⟩=δ v5)/\(w.frozen? ⟨b,0,η⟩=θ/\w.frozen? ⟨b,1,η⟩=θ/\w.frozen? ⟨b,2,η⟩=θ/\w.frozen? ⟨b,3,η⟩=θ/\w.frozen? ⟨b,4,η⟩=θ/\w.frozen? ⟨b,5,η⟩=θ)/\b<w.heap.size
abbrev ajN(w:World)(b:Nat)(v0 v1 v2 v3 v4 v5 v6:Value):Prop:=(w.cell? ⟨b,0,η⟩=δ v0/\w.cell? ⟨b,1,η⟩=δ v1/\w.cell? ⟨b,2,η⟩=δ v2/\w.cell? ⟨b,3,η⟩=δ v3/\w.cell? ⟨b,4,η⟩=δ v4/\w.cell? ⟨b,5,η⟩=δ v5/\w.cell? ⟨b,6,η⟩=δ v6)/\(w.frozen? ⟨b,0,η⟩=θ/\w.frozen? ⟨b,1,η⟩=θ/\w.frozen? ⟨b,2,η⟩=θ/\w.frozen? ⟨b,3,η⟩=θ/\w.frozen? ⟨b,4,η⟩=θ/\w.frozen? ⟨b,5,η⟩=θ/\w.frozen? ⟨b,6,η⟩=θ)/\b<w.heap.size
abbrev ajO(w:World)(b:Nat)(v0 v1 v2 v3 v4 v5 v6 v7:Value):Prop:=(w.cell? ⟨b,0,η⟩=δ v0/\w.cell? ⟨b,1,η⟩=δ v1/\w.cell? ⟨b,2,η⟩=δ v2/\w.cell? ⟨b,3,η⟩=δ v3/\w.cell? ⟨b,4,η⟩=δ v4/\w.cell? ⟨b,5,η⟩=δ v5/\w.cell? ⟨b,6,η⟩=δ v6/\w.cell? ⟨b,7,η⟩=δ v7)/\(w.frozen? ⟨b,0,η⟩=θ/\w.frozen? ⟨b,1,η⟩=θ/\w.frozen? ⟨b,2,η⟩=θ/\w.frozen? ⟨b,3,η⟩=θ/\w.frozen? ⟨b,4,η⟩=θ/\w.frozen? ⟨b,5,η⟩=θ/\w.frozen? ⟨b,6,η⟩=θ/\w.frozen? ⟨b,7,η⟩=θ)/\b<w.heap.size
abbrev ajP(w:World)(b:Nat)(v0 v1 v2 v3 v4 v5 v6 v7 v8:Value):Prop:=(w.cell? ⟨b,0,η⟩=δ v0/\w.cell? ⟨b,1,η⟩=δ v1/\w.cell? ⟨b,2,η⟩=δ v2/\w.cell? ⟨b,3,η⟩=δ v3/\w.cell? ⟨b,4,η⟩=δ v4/\w.cell? ⟨b,5,η⟩=δ v5/\w.cell? ⟨b,6,η⟩=δ v6/\w.cell? ⟨b,7,η⟩=δ v7/\w.cell? ⟨b,8,η⟩=δ v8)/\(w.frozen? ⟨b,0,η⟩=θ/\w.frozen? ⟨b,1,η⟩=θ/\w.frozen? ⟨b,2,η⟩=θ/\w.frozen? ⟨b,3,η⟩=θ/\w.frozen? ⟨b,4,η⟩=θ/\w.frozen? ⟨b,5,η⟩=θ/\w.frozen? ⟨b,6,η⟩=θ/\w.frozen? ⟨b,7,η⟩=θ/\w.frozen? ⟨b,8,η⟩=θ)/\b<w.heap.size
abbrev ajq(w:World)(b:Nat)(v0 v1 v2 v3 v4 v5 v6 v7 v8 v9:Value):Prop:=(w.cell? ⟨b,0,η⟩=δ v0/\w.cell? ⟨b,1,η⟩=δ v1/\w.cell? ⟨b,2,η⟩=δ v2/\w.cell? ⟨b,3,η⟩=δ v3/\w.cell? ⟨b,4,η⟩=δ v4/\w.cell? ⟨b,5,η⟩=δ v5/\w.cell? ⟨b,6,η⟩=δ v6/\w.cell? ⟨b,7,η⟩=δ v7/\w.cell? ⟨b,8,η⟩=δ v8/\w.cell? ⟨b,9,η⟩=δ v9)/\(w.frozen? ⟨b,0,η⟩=θ/\w.frozen? ⟨b,1,η⟩=θ/\w.frozen? ⟨b,2,η⟩=θ/\w.frozen? ⟨b,3,η⟩=θ/\w.frozen? ⟨b,4,η⟩=θ/\w.frozen? ⟨b,5,η⟩=θ/\w.frozen? ⟨b,6,η⟩=θ/\w.frozen? ⟨b,7,η⟩=θ/\w.frozen? ⟨b,8,η⟩=θ/\w.frozen? ⟨b,9,η⟩=θ)/\b<w.heap.size
abbrev ajr(w:World)(b:Nat)(v0 v1 v2 v3 v4 v5 v6 v7 v8 v9 v10:Value):Prop:=(w.cell? ⟨b,0,η⟩=δ v0/\w.cell? ⟨b,1,η⟩=δ v1/\w.cell? ⟨b,2,η⟩=δ v2/\w.cell? ⟨b,3,η⟩=δ v3/\w.cell? ⟨b,4,η⟩=δ v4/\w.cell? ⟨b,5,η⟩=δ v5/\w.cell? ⟨b,6,η⟩=δ v6/\w.cell? ⟨b,7,η⟩=δ v7/\w.cell? ⟨b,8,η⟩=δ v8/\w.cell? ⟨b,9,η⟩=δ v9/\w.cell? ⟨b,10,η⟩=δ v10)/\(w.frozen? ⟨b,0,η⟩=θ/\w.frozen? ⟨b,1,η⟩=θ/\w.frozen? ⟨b,2,η⟩=θ/\w.frozen? ⟨b,3,η⟩=θ/\w.frozen? ⟨b,4,η⟩=θ/\w.frozen? ⟨b,5,η⟩=θ/\w.frozen? ⟨b,6,η⟩=θ/\w.frozen? ⟨b,7,η⟩=θ/\w.frozen? ⟨b,8,η⟩=θ/\w.frozen? ⟨b,9,η⟩=θ/\w.frozen? ⟨b,10,η⟩=θ)/\b<w.heap.size
abbrev ajs(w:World)(b:Nat)(v0 v1 v2 v3 v4 v5 v6 v7 v8 v9 v10 v11:Value):Prop:=(w.cell? ⟨b,0,η⟩=δ v0/\w.cell? ⟨b,1,η⟩=δ v1/\w.cell? ⟨b,2,η⟩=δ v2/\w.cell? ⟨b,3,η⟩=δ v3/\w.cell? ⟨b,4,η⟩=δ v4/\w.cell? ⟨b,5,η⟩=δ v5/\w.cell? ⟨b,6,η⟩=δ v6/\w.cell? ⟨b,7,η⟩=δ v7/\w.cell? ⟨b,8,η⟩=δ v8/\w.cell? ⟨b,9,η⟩=δ v9/\w.cell? ⟨b,10,η⟩=δ v10/\w.cell? ⟨b,11,η⟩=δ v11)/\(w.frozen? ⟨b,0,η⟩=θ/\w.frozen? ⟨b,1,η⟩=θ/\w.frozen? ⟨b,2,η⟩=θ/\w.frozen? ⟨b,3,η⟩=θ/\w.frozen? ⟨b,4,η⟩=θ/\w.frozen? ⟨b,5,η⟩=θ/\w.frozen? ⟨b,6,η⟩=θ/\w.frozen? ⟨b,7,η⟩=θ/\w.frozen? ⟨b,8,η⟩=θ/\w.frozen? ⟨b,9,η⟩=θ/\w.frozen? ⟨b,10,η⟩=θ/\w.frozen? ⟨b,11,η⟩=θ)/\b<w.heap.size
abbrev ajt(w:World)(b:Nat)(v0 v1 v2 v3 v4 v5 v6 v7 v8 v9 v10 v11 v12:Value):Prop:=(w.cell? ⟨b,0,η⟩=δ v0/\w.cell? ⟨b,1,η⟩=δ v1/\w.cell? ⟨b,2,η⟩=δ v2/\w.cell? ⟨b,3,η⟩=δ v3/\w.cell? ⟨b,4,η⟩=δ v4/\w.cell? ⟨b,5,η⟩=δ v5/\w.cell? ⟨b,6,η⟩=δ v6/\w.cell? ⟨b,7,η⟩=δ v7/\w.cell? ⟨b,8,η⟩=δ v8/\w.cell? ⟨b,9,η⟩=δ v9/\w.cell? ⟨b,10,η⟩=δ v10/\w.cell? ⟨b,11,η⟩=δ v11/\w.cell? ⟨b,12,η⟩=δ v12)/\(w.frozen? ⟨b,0,η⟩=θ/\w.frozen? ⟨b,1,η⟩=θ/\w.frozen? ⟨b,2,η⟩=θ/\w.frozen? ⟨b,3,η⟩=θ/\w.frozen? ⟨b,4,η⟩=θ/\w.frozen? ⟨b,5,η⟩=θ/\w.frozen? ⟨b,6,η⟩=θ/\w.frozen? ⟨b,7,η⟩=θ/\w.frozen? ⟨b,8,η⟩=θ/\w.frozen? ⟨b,9,η⟩=θ/\w.frozen? ⟨b,10,η⟩=θ/\w.frozen? ⟨b,11,η⟩=θ/\w.frozen? ⟨b,12,η⟩=θ)/\b<w.heap.size
abbrev aju(w:World)(b:Nat)(v0 v1 v2 v3 v4 v5 v6 v7 v8 v9 v10 v11 v12 v13:Value):Prop:=(w.cell? ⟨b,0,η⟩=δ v0/\w.cell? ⟨b,1,η⟩=δ v1/\w.cell? ⟨b,2,η⟩=δ v2/\w.cell? ⟨b,3,η⟩=δ v3/\w.cell? ⟨b,4,η⟩=δ v4/\w.cell? ⟨b,5,η⟩=δ v5/\w.cell? ⟨b,6,η⟩=δ v6/\w.cell? ⟨b,7,η⟩=δ v7/\w.cell? ⟨b,8,η⟩=δ v8/\w.cell? ⟨b,9,η⟩=δ v9/\w.cell? ⟨b,10,η⟩=δ v10/\w.cell? ⟨b,11,η⟩=δ v11/\w.cell? ⟨b,12,η⟩=δ v12/\w.cell? ⟨b,13,η⟩=δ v13)/\(w.frozen? ⟨b,0,η⟩=θ/\w.frozen? ⟨b,1,η⟩=θ/\w.frozen? ⟨b,2,η⟩=θ/\w.frozen? ⟨b,3,η⟩=θ/\w.frozen? ⟨b,4,η⟩=θ/\w.frozen? ⟨b,5,η⟩=θ/\w.frozen? ⟨b,6,η⟩=θ/\w.frozen? ⟨b,7,η⟩=θ/\w.frozen? ⟨b,8,η⟩=θ/\w.frozen? ⟨b,9,η⟩=θ/\w.frozen? ⟨b,10,η⟩=θ/\w.frozen? ⟨b,11,η⟩=θ/\w.frozen? ⟨b,12,η⟩=θ/\w.frozen? ⟨b,13,η⟩=θ)/\b<w.heap.size
end
section
open Go.RowKit Go.Deep
structure cR (α : Type) where
 size:Nat
 is:World->List Value->α->Prop
 len:∀{w cs a},is w cs a->cs.length=size
 mono:∀{w w' cs a},is w cs a->Gr w w'->is w' cs a
 bM:α->Nat
def ep:cR Int where
 size:=1
 is:=λ_ cs n=>cs=[.int Ξ n]/\-9223372036854775808<=n/\n<=9223372036854775807
 len:=λh=>by rw[h.1];rfl
 mono:=λh _=>h
 bM:=λ_=>1
def Gh:cR Bool where
 size:=1
 is:=λ_ cs b=>cs=[.bool b]
 len:=λh=>by rw[h];rfl
 mono:=λh _=>h
 bM:=λ_=>1
def pe:cR ByteArray where
 size:=1
 is:=λ_ cs s=>cs=[.string s]/\s.size<=maxLen
 len:=λh=>by rw[h.1];rfl
 mono:=λh _=>h
 bM:=λs=>s.size+1
def cR.pair{α β:Type}(c:cR α)(d:cR β):cR (α×β) where
 size:=c.size+d.size
 is:=λw cs x=>c.is w (cs.take c.size) x.1/\d.is w (cs.drop c.size) x.2
 len:=λ{w cs a}h=>by have h1:=c.len h.1;have h2:=d.len h.2;simp at h1 h2;omega
 mono:=λh g=>⟨c.mono h.1 g,d.mono h.2 g⟩
 bM:=λx=>c.bM x.1+d.bM x.2
def cW{α:Type}(c:cR α):cR (List α) where
 size:=1
 is:=λw cs l=>(cs=[.slice η 0 0]/\l=[])\/∃(b off:Nat)(sp:Option Nat)(cap:Nat),cs=[.slice (δ ⟨b,off,sp⟩) l.length cap]/\l.length<=cap/\l.length<=maxLen/\
  ∀i(h:i<l.length),sp=η/\∃cs',(∀j,j<c.size->w.cell? ⟨b,off+(i*c.size+j),η⟩=cs'[j]?)/\c.is w cs' l[i]
 len:=λh=>by rcases h with⟨rfl,_⟩|⟨b,off,sp,cap,rfl,_⟩<;>rfl
 mono:=λ{w w' cs l}h g=>by
  rcases h with h|⟨b,off,sp,cap,h1,h2,h3,h4⟩
  ·exact .inl h
  ·refine .inr ⟨b,off,sp,cap,h1,h2,h3,λi hi=>?_⟩;obtain⟨e,cs',h5,h6⟩:=h4 i hi;refine⟨e,cs',λj hj=>?_,c.mono h6 g⟩;have h7:=h5 j hj;have hl:=c.len h6;rw[cA (by omega)]at h7 ⊢;exact g.cell h7
 bM:=λl=>(l.map c.bM).sum+1
def fF{α:Type}(F:Nat->Prop)(P:Program)(c:cR α)(t:TypeId):Prop:=∀⦃H:Type⦄ ⦃enc:TypeId×Value->H⦄ ⦃w:World⦄ ⦃base:Nat⦄ ⦃spare:Nat->Bool⦄ ⦃held:Bool⦄ ⦃fuel:Nat⦄ ⦃cs:List Value⦄ ⦃x:DataW H×List MemPlace⦄,F fuel->DataW.trod enc P w base spare held fuel t cs=δ x->∃a,c.is w cs a/\c.bM a<=Rows.uptoBulk x.1
abbrev Reads{α:Type}(P:Program)(c:cR α)(t:TypeId):Prop:=fF (λ_=>True) P c t
theorem BR{H:Type}(l:List (DataW H)):Rows.uptoBulkAll l=(l.map Rows.uptoBulk).sum:=by
 induction l with
 |nil=>rfl
 |cons x r ih=>simp only[Rows.uptoBulkAll,bU,X2,ih]
theorem OK{α:Type}(f:α->Nat)(D:Nat->Nat):∀(l:List α)(o:Nat),(∀i(h:i<l.length),f l[i]<=D (o+i))->(l.map f).sum<=((al0 o l.length).map D).sum
 |[],_,_=>by simp
 |x::r,o,h=>by simp only[b9,amB,bU,X2];have h0:=h 0 (by simp);have:=OK f D r (o+1) (λi hi=>by have:=h (i+1) (by simp;omega);simp only[List.getElem_cons_succ]at this;rw[show o+1+i=o+(i+1) by omega];exact this);simp at h0;omega
theorem wf_i64{n:Int}(h:(Lit.int Ξ n).wf=ι):-9223372036854775808<=n/\n<=9223372036854775807:=by simpa [Lit.wf,IntKind.min,IntKind.max,IntKind.signed,IntKind.bits]using h
theorem Qw{H:Type}(d:DataW H):1<=Rows.uptoBulk d:=by
 cases d with
 |lit l=>cases l<;>simp [Rows.uptoBulk]
 |_=>simp [Rows.uptoBulk]
theorem lK{F:Nat->Prop}{P:Program}{t:TypeId}(ht:P.underlying t=δ (.int Ξ)):fF F P ep t:=by intro H enc w base spare held fuel cs x _ h;obtain⟨n,rfl,_,hw⟩:=DataW.trod_int ht h;exact⟨n,⟨rfl,wf_i64 hw⟩,Qw _⟩
theorem ain{F:Nat->Prop}{P:Program}{t:TypeId}(ht:P.underlying t=δ .bool):fF F P Gh t:=by intro H enc w base spare held fuel cs x _ h;obtain⟨n,rfl,_⟩:=DataW.trod_bool ht h;exact⟨n,rfl,Qw _⟩
theorem Ah{F:Nat->Prop}{P:Program}{t:TypeId}(ht:P.underlying t=δ .string):fF F P pe t:=by intro H enc w base spare held fuel cs x _ h;obtain⟨n,rfl,hx,hw⟩:=DataW.trod_string ht h;refine⟨n,⟨rfl,hw⟩,?_⟩;subst hx;simp only[Rows.uptoBulk,pe];first|(simp;done)|omega
theorem vN{F:Nat->Prop}{P:Program}{α:Type}{c:cR α}{t e:TypeId}(ht:P.underlying t=δ (.slice e))(hz:P.cellsOf e=c.size)(hp:0<c.size)(hr:fF (λm=>F (m+1)) P c e):fF F P (cW c) t:=by
 intro H enc w base spare held fuel cs x hF h;rcases DataW.trod_slice ht h with⟨rfl,rfl⟩|⟨a,len,cap,elems,rest,n,jC,rfl,VS,hb,hl,hm,hlen,hel,h8,h9⟩
 ·exact⟨[],.inl ⟨rfl,rfl⟩,by simp [cW,Rows.uptoBulk]⟩
 ·obtain⟨D,hD⟩:∃D:Nat->DataW H,D=λi=>(elems.getD i (.nil,[])).1:=⟨_,rfl⟩
  have key:∀i,i<len->∃(y:α)(cs':List Value),(∀j,j<c.size->w.cell? (a.add (i*c.size+j))=cs'[j]?)/\c.is w cs' y/\c.bM y<=Rows.uptoBulk (D i):=by
   intro i hi;have hk:=hel i hi;rw[cA (by omega)]at hk;obtain⟨cs',h1,h2⟩:=bl.1 hk;obtain⟨y,hy,DT⟩:=hr (by subst jC;exact hF) h2
   have DT:c.bM y<=Rows.uptoBulk (D i):=by rw[hD];simpa [Yn,cA (show i<elems.length by omega)]using DT
   obtain⟨_,h3,h4⟩:=World.cells?_some h1;refine⟨y,cs',λj hj=>?_,hy,DT⟩;have:=h4 j (by rw[hz];exact hj);rw[hz]at this;rw[<-this,add_add]
  obtain⟨ys,hys⟩:∃ys:List α,ys.length=len/\∀i(h:i<ys.length),c.bM ys[i]<=Rows.uptoBulk (D i)/\∃cs',(∀j,j<c.size->w.cell? (a.add (i*c.size+j))=cs'[j]?)/\c.is w cs' ys[i]:=by
   clear hel hlen h hl VS h8 h9;induction len with
   |zero=>exact⟨[],rfl,λi h=>by simp at h⟩
   |succ k ih=>
    obtain⟨ys,h1,h2⟩:=ih (λi hi=>key i (by omega));obtain⟨y,cs',h3,h4,h4b⟩:=key k (by omega);refine⟨ys++[y],by simp [h1],λi hi=>?_⟩;by_cases hk:i<ys.length
    ·rw[List.getElem_append_left hk];exact h2 i hk
    ·have:i=k:=by simp at hi;omega
     subst this;rw[List.getElem_append_right (by omega)];simp only[h1,ama,List.getElem_cons_zero];exact⟨h4b,cs',h3,h4⟩
  obtain⟨h1,h2⟩:=hys;obtain⟨b,off,sp⟩:=a;refine⟨ys,.inr ⟨b,off,sp,cap,by rw[h1],by omega,o8 (show ys.length<=cap by omega) hm,λi hi=>?_⟩,?_⟩
  ·have hs:sp=η:=by
    cases sp with
    |none=>rfl
    |some q=>exfalso;obtain⟨_,cs',h3,h4⟩:=h2 0 (by omega);have h5:=h3 0 hp;have hl:=c.len h4;rw[cA (by omega)]at h5;simp only[Nat.zero_mul,Gs,World.cell?,Addr.add]at h5;split at h5<;>simp at h5
   obtain⟨_,cs',h3,h4⟩:=h2 i hi;subst hs;refine⟨rfl,cs',λj hj=>?_,h4⟩;have h6:=h3 j hj;rw[<-h6];congr 1;simp only[Addr.add];split
   ·rename_i h7;simp only[h7,Nat.add_zero]
   ·rfl
  ·subst VS;simp only[cW,Rows.uptoBulk,BR,Y3];have:=OK c.bM (λi=>Rows.uptoBulk (D i)) ys 0 (λi hi=>by simpa using(h2 i hi).1);rw[h1,<-ZT]at this
   have e:alX (Rows.uptoBulk∘λx=>x.1) elems=alX (λi=>Rows.uptoBulk (D i)) (ami len):=by rw[<-hlen,hD];apply List.ext_getElem (by simp);intro i h3 h4;simp at h3;simp [Yn,cA h3]
   rw[e];omega
theorem ET{α:Type}(l:List α)(o n:Nat)(h:l.length=o+n):(l.drop o).take n=l.drop o:=lW (by simp;omega)
theorem XU{α:Type}(l:List α)(h:l.length=2):∃x0 x1,l=[x0,x1]:=by
 match l,h with
 |[x0,x1],_=>exact⟨x0,x1,rfl⟩
theorem ES{F:Nat->Prop}{P:Program}{zu zw:Type}{t:TypeId}{f0 f1:Field}{c0:cR zu}{c1:cR zw}(ht:P.underlying t=δ (.struct #[f0,f1]))(hz:P.cellsOf t=c0.size+c1.size)(o0:f0.offset=0)(o1:f1.offset=c0.size)(z0:P.cellsOf f0.type=c0.size)(z1:P.cellsOf f1.type=c1.size)(r0:fF (λm=>F (m+1)) P c0 f0.type) (r1:fF (λm=>F (m+1)) P c1 f1.type):fF F P (c0.pair c1) t:=by
 intro H enc w base spare held fuel cs x hF h;obtain⟨xs,m,jC,cM,hlen,hxl,hf⟩:=Yf ht h;rw[hz]at hlen;have hxl:xs.length=2:=hxl;have h0:=hf 0 f0 rfl;rw[o0,z0,cA (show 0<xs.length by omega)]at h0;obtain⟨a0,k0,b0⟩:=r0 (by subst jC;exact hF) h0;have h1:=hf 1 f1 rfl;rw[o1,z1,cA (show 1<xs.length by omega)]at h1;obtain⟨a1,k1,b1⟩:=r1 (by subst jC;exact hF) h1;rw[ET cs (c0.size) c1.size (by omega)]at k1;refine⟨(a0,a1),?_,?_⟩
 ·exact⟨by simpa using k0,(by simpa [lV,iV]using k1)⟩
 ·subst cM;simp only[Rows.uptoBulk,BR,cR.pair]
  have hs:(alX Rows.uptoBulk (xs.map (·.1))).sum=Rows.uptoBulk xs[0].1+(Rows.uptoBulk xs[1].1):=by obtain⟨x0,x1,rfl⟩:=XU xs hxl;simp
  rw[hs];exact Zd (qO b0 b1)
theorem XV{α:Type}(l:List α)(h:l.length=3):∃x0 x1 x2,l=[x0,x1,x2]:=by
 match l,h with
 |[x0,x1,x2],_=>exact⟨x0,x1,x2,rfl⟩
theorem Im{F:Nat->Prop}{P:Program}{zu zw Eu:Type}{t:TypeId}{f0 f1 f2:Field}{c0:cR zu}{c1:cR zw}{c2:cR Eu}(ht:P.underlying t=δ (.struct #[f0,f1,f2]))(hz:P.cellsOf t=c0.size+c1.size+c2.size)(o0:f0.offset=0)(o1:f1.offset=c0.size)(o2:f2.offset=c0.size+c1.size)(z0:P.cellsOf f0.type=c0.size)(z1:P.cellsOf f1.type=c1.size)(z2:P.cellsOf f2.type=c2.size)(r0:fF (λm=>F (m+1)) P c0 f0.type) (r1:fF (λm=>F (m+1)) P c1 f1.type) (r2:fF (λm=>F (m+1)) P c2 f2.type):fF F P (c0.pair (c1.pair c2)) t:=by
 intro H enc w base spare held fuel cs x hF h;obtain⟨xs,m,jC,cM,hlen,hxl,hf⟩:=Yf ht h;rw[hz]at hlen;have hxl:xs.length=3:=hxl;have h0:=hf 0 f0 rfl;rw[o0,z0,cA (show 0<xs.length by omega)]at h0;obtain⟨a0,k0,b0⟩:=r0 (by subst jC;exact hF) h0;have h1:=hf 1 f1 rfl;rw[o1,z1,cA (show 1<xs.length by omega)]at h1;obtain⟨a1,k1,b1⟩:=r1 (by subst jC;exact hF) h1;have h2:=hf 2 f2 rfl;rw[o2,z2,cA (show 2<xs.length by omega)]at h2;obtain⟨a2,k2,b2⟩:=r2 (by subst jC;exact hF) h2;rw[ET cs (c0.size+c1.size) c2.size (by omega)]at k2;refine⟨(a0,(a1,a2)),?_,?_⟩
 ·exact⟨by simpa using k0,⟨by simpa [lV,iV]using k1,(by simpa [lV,iV]using k2)⟩⟩
 ·subst cM;simp only[Rows.uptoBulk,BR,cR.pair]
  have hs:(alX Rows.uptoBulk (xs.map (·.1))).sum=Rows.uptoBulk xs[0].1+(Rows.uptoBulk xs[1].1+(Rows.uptoBulk xs[2].1)):=by obtain⟨x0,x1,x2,rfl⟩:=XV xs hxl;simp
  rw[hs];exact Zd (qO b0 (qO b1 b2))
theorem XW{α:Type}(l:List α)(h:l.length=4):∃x0 x1 x2 x3,l=[x0,x1,x2,x3]:=by
 match l,h with
 |[x0,x1,x2,x3],_=>exact⟨x0,x1,x2,x3,rfl⟩
theorem Oy{F:Nat->Prop}{P:Program}{zu zw Eu Oe:Type}{t:TypeId}{f0 f1 f2 f3:Field}{c0:cR zu}{c1:cR zw}{c2:cR Eu}{c3:cR Oe}(ht:P.underlying t=δ (.struct #[f0,f1,f2,f3]))(hz:P.cellsOf t=c0.size+c1.size+c2.size+c3.size)(o0:f0.offset=0)(o1:f1.offset=c0.size)(o2:f2.offset=c0.size+c1.size)(o3:f3.offset=c0.size+c1.size+c2.size)(z0:P.cellsOf f0.type=c0.size)(z1:P.cellsOf f1.type=c1.size)(z2:P.cellsOf f2.type=c2.size)(z3:P.cellsOf f3.type=c3.size)(r0:fF (λm=>F (m+1)) P c0 f0.type) (r1:fF (λm=>F (m+1)) P c1 f1.type) (r2:fF (λm=>F (m+1)) P c2 f2.type) (r3:fF (λm=>F (m+1)) P c3 f3.type):fF F P (c0.pair (c1.pair (c2.pair c3))) t:=by
 intro H enc w base spare held fuel cs x hF h;obtain⟨xs,m,jC,cM,hlen,hxl,hf⟩:=Yf ht h;rw[hz]at hlen;have hxl:xs.length=4:=hxl;have h0:=hf 0 f0 rfl;rw[o0,z0,cA (show 0<xs.length by omega)]at h0;obtain⟨a0,k0,b0⟩:=r0 (by subst jC;exact hF) h0;have h1:=hf 1 f1 rfl;rw[o1,z1,cA (show 1<xs.length by omega)]at h1;obtain⟨a1,k1,b1⟩:=r1 (by subst jC;exact hF) h1;have h2:=hf 2 f2 rfl;rw[o2,z2,cA (show 2<xs.length by omega)]at h2;obtain⟨a2,k2,b2⟩:=r2 (by subst jC;exact hF) h2;have h3:=hf 3 f3 rfl;rw[o3,z3,cA (show 3<xs.length by omega)]at h3;obtain⟨a3,k3,b3⟩:=r3 (by subst jC;exact hF) h3;rw[ET cs (c0.size+c1.size+c2.size) c3.size (by omega)]at k3;refine⟨(a0,(a1,(a2,a3))),?_,?_⟩
 ·exact⟨by simpa using k0,⟨by simpa [lV,iV]using k1,⟨by simpa [lV,iV]using k2,(by simpa [lV,iV]using k3)⟩⟩⟩
 ·subst cM;simp only[Rows.uptoBulk,BR,cR.pair]
  have hs:(alX Rows.uptoBulk (xs.map (·.1))).sum=Rows.uptoBulk xs[0].1+(Rows.uptoBulk xs[1].1+(Rows.uptoBulk xs[2].1+(Rows.uptoBulk xs[3].1))):=by obtain⟨x0,x1,x2,x3,rfl⟩:=XW xs hxl;simp
  rw[hs];exact Zd (qO b0 (qO b1 (qO b2 b3)))
theorem alk{α:Type}(l:List α)(h:l.length=7):∃x0 x1 x2 x3 x4 x5 x6,l=[x0,x1,x2,x3,x4,x5,x6]:=by
 match l,h with
 |[x0,x1,x2,x3,x4,x5,x6],_=>exact⟨x0,x1,x2,x3,x4,x5,x6,rfl⟩
theorem XH{F:Nat->Prop}{P:Program}{zu zw Eu Oe α4 α5 α6:Type}{t:TypeId}{f0 f1 f2 f3 f4 f5 f6:Field}{c0:cR zu}{c1:cR zw}{c2:cR Eu}{c3:cR Oe}{c4:cR α4}{c5:cR α5}{c6:cR α6}(ht:P.underlying t=δ (.struct #[f0,f1,f2,f3,f4,f5,f6]))(hz:P.cellsOf t=c0.size+c1.size+c2.size+c3.size+c4.size+c5.size+c6.size)(o0:f0.offset=0)(o1:f1.offset=c0.size)(o2:f2.offset=c0.size+c1.size)(o3:f3.offset=c0.size+c1.size+c2.size)(o4:f4.offset=c0.size+c1.size+c2.size+c3.size)(o5:f5.offset=c0.size+c1.size+c2.size+c3.size+c4.size)(o6:f6.offset=c0.size+c1.size+c2.size+c3.size+c4.size+c5.size)(z0:P.cellsOf f0.type=c0.size)(z1:P.cellsOf f1.type=c1.size)(z2:P.cellsOf f2.type=c2.size)(z3:P.cellsOf f3.type=c3.size)(z4:P.cellsOf f4.type=c4.size)(z5:P.cellsOf f5.type=c5.size)(z6:P.cellsOf f6.type=c6.size)(r0:fF (λm=>F (m+1)) P c0 f0.type) (r1:fF (λm=>F (m+1)) P c1 f1.type) (r2:fF (λm=>F (m+1)) P c2 f2.type) (r3:fF (λm=>F (m+1)) P c3 f3.type) (r4:fF (λm=>F (m+1)) P c4 f4.type) (r5:fF (λm=>F (m+1)) P c5 f5.type) (r6:fF (λm=>F (m+1)) P c6 f6.type):fF F P (c0.pair (c1.pair (c2.pair (c3.pair (c4.pair (c5.pair c6)))))) t:=by
 intro H enc w base spare held fuel cs x hF h;obtain⟨xs,m,jC,cM,hlen,hxl,hf⟩:=Yf ht h;rw[hz]at hlen;have hxl:xs.length=7:=hxl;have h0:=hf 0 f0 rfl;rw[o0,z0,cA (show 0<xs.length by omega)]at h0;obtain⟨a0,k0,b0⟩:=r0 (by subst jC;exact hF) h0;have h1:=hf 1 f1 rfl;rw[o1,z1,cA (show 1<xs.length by omega)]at h1;obtain⟨a1,k1,b1⟩:=r1 (by subst jC;exact hF) h1;have h2:=hf 2 f2 rfl;rw[o2,z2,cA (show 2<xs.length by omega)]at h2;obtain⟨a2,k2,b2⟩:=r2 (by subst jC;exact hF) h2;have h3:=hf 3 f3 rfl;rw[o3,z3,cA (show 3<xs.length by omega)]at h3;obtain⟨a3,k3,b3⟩:=r3 (by subst jC;exact hF) h3;have h4:=hf 4 f4 rfl;rw[o4,z4,cA (show 4<xs.length by omega)]at h4;obtain⟨a4,k4,b4⟩:=r4 (by subst jC;exact hF) h4;have h5:=hf 5 f5 rfl;rw[o5,z5,cA (show 5<xs.length by omega)]at h5;obtain⟨a5,k5,b5⟩:=r5 (by subst jC;exact hF) h5;have h6:=hf 6 f6 rfl;rw[o6,z6,cA (show 6<xs.length by omega)]at h6;obtain⟨a6,k6,b6⟩:=r6 (by subst jC;exact hF) h6;rw[ET cs (c0.size+c1.size+c2.size+c3.size+c4.size+c5.size) c6.size (by omega)]at k6;refine⟨(a0,(a1,(a2,(a3,(a4,(a5,a6)))))),?_,?_⟩
 ·exact⟨by simpa using k0,⟨by simpa [lV,iV]using k1,⟨by simpa [lV,iV]using k2,⟨by simpa [lV,iV]using k3,⟨by simpa [lV,iV]using k4,⟨by simpa [lV,iV]using k5,(by simpa [lV,iV]using k6)⟩⟩⟩⟩⟩⟩
 ·subst cM;simp only[Rows.uptoBulk,BR,cR.pair]
  have hs:(alX Rows.uptoBulk (xs.map (·.1))).sum=Rows.uptoBulk xs[0].1+(Rows.uptoBulk xs[1].1+(Rows.uptoBulk xs[2].1+(Rows.uptoBulk xs[3].1+(Rows.uptoBulk xs[4].1+(Rows.uptoBulk xs[5].1+(Rows.uptoBulk xs[6].1)))))):=by obtain⟨x0,x1,x2,x3,x4,x5,x6,rfl⟩:=alk xs hxl;simp
  rw[hs];exact Zd (qO b0 (qO b1 (qO b2 (qO b3 (qO b4 (qO b5 b6))))))
end
end
end Go.Proofs.YtkdafecbdncmiaaDoor
