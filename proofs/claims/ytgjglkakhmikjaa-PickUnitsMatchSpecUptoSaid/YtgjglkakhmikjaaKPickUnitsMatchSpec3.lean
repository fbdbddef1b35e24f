/- Parts of the proof of PickUnitsMatchSpec, in order. -/
import Derived.Test.YtgjglkakhmikjaaShelf
import Derived.IntWalk
import Derived.Test.YtgjglkakhmikjaaKPickUnitsMatchSpec2
namespace Go.Proofs.Ytgjglkakhmikjaa
set_option linter.unusedVariables false
set_option linter.unusedSimpArgs false
set_option linter.unusedSectionVars false
set_option maxRecDepth 1000000
noncomputable section
open A renaming pick->ZM,aZ->ZO,elems->Vl,eC->Yt,cells->Φ,storeAt->ZX,dL->Uj,bound->Sq,lb->Z2,append->ZI,look->ZJ,leq->Wr,cZ->Ug,aQ->Zv,aS->Zp,entries->R2,cell->ZS,nn->S7,find->ZE,dh->SN,guard->θ,ay->Δ,cond->ξ,eY->Ud,add->Zn,bA->X0,dF->Xu,neq->Tn,deref->Γ,aR->Z0,fin->wh,lss->ZN,gtr->Zx,loop->Zo,sub->YR,tab->Z5,wrap->Ξ,eql->Zt,not->ZR,own->T5,ext->Zl,iter->apH,quiet->Zu,cC->RV,cX->T3
open Sound renaming none->ZG,rF->Su,wrap->Z6,vi->apI,Ad->aqM
open List renaming drop_zero->R6,getElem?_cons_succ->aqS,findIdx?_cons->ap6,length_drop->aqT,length_nil->Us,getD->RU,range'_succ->aqq,find?->Ui,any_eq_true->Xd,length_cons->ZT,mem_singleton->Yg,all_cons->ap8,nil_append->YU,range'->apN,getElem?_drop->Zg,take_append_drop->Wq,getElem?_append->V6,length_append->PU,mem_map_of_mem->apV,map_append->Zw,getElem?_take_of_lt->Vp,foldl_cons->Wv,length_map->Zk,flatMap_cons->apQ,ext_getElem?->aqd,append_nil->TB,length_range'->Vg,eraseIdx_eq_take_drop_succ->aqR,map_congr_left->RO,getD_eq_getElem?_getD->VY,getElem?_set_ne->ZY,replicate->ZB,getElem?_cons_zero->Y3
open fG renaming nil->RN,cons->WZ
open AV renaming np->aqa,bool->χ,sl->U0,int->UB,aJ->Zz,aC->ZK,str->ap3,lbx->Z1,agg->Y8,ah->ε
open AX renaming normal->Λ,ret->Ω,exit->φ
open Bool renaming false_and->Xp,not_true->YV,true_and->ap7,not_eq_true'->apR,and_false->R4,false->ι,not_eq_false->aqc,false_eq_true->ZD,true->η
open Int renaming lt_irrefl->Z4,ofNat_zero->apT
open Go.Lib renaming compareBytes->apJ
open aM renaming cons->Ψ,nil->Z7
open Option renaming some->δ,getD_some->Sk,isNone_none->apG,getD_none->UG,none->μ
open cP renaming of->Tw
open Prod.mk renaming injEq->ir
open Go.IntKind renaming i64->Θ
open aP renaming box->apF,map->ZH
open Classical renaming choose_spec->SA
open Go.Sem renaming run->TV
open IntKind renaming i64->Θ
open Go.Op renaming bytesLess->Sv
open Option.some renaming injEq->ψ
open Nat renaming zero_add->Z3
open Go.Result renaming andThen_ok->Yl
section
def LH (a0:AV) (σ:Heap):aB:=(A.rD a0).bind λx1=>(Zo (λv2 s3=>(ZN (aj v2 1) x1).bind λx5=>ξ x5 ((A.lJ a0 (aj v2 1)).bind λx6=>(ZN x6 (UB .u8 97)).bind λx7=>(θ x7 ι (δ x6) az).bind λx8=>(θ x7 ι (Zx x8 (UB .u8 122)) az).bind λx9=>(ZM x7 br x9).bind λaY=>(θ aY η (δ x6) az).bind λcg=>(θ aY η (ZN cg (UB .u8 48)) az).bind λbY=>(θ aY η (δ bY) az).bind λbB=>(θ bB ι (δ x6) az).bind λcI=>(θ bB ι (Zx cI (UB .u8 57)) az).bind λbQ=>(θ aY η (ZM bB br bQ) az).bind λbM=>(ZM aY bM aT).bind λcv=>(θ cv η (δ x6) az).bind λdw=>(θ cv η (Tn .i dw (UB .u8 45)) az).bind λcx=>(ZM cv cx aT).bind λcM=>ξ cM (δ (Ω,[aT,(aj v2 1)],s3)) ((Zn (aj v2 1) (ε 1)).bind λbO=>δ (Λ,[(aj v2 0),bO],s3))) (δ (φ 0,[(aj v2 0),(aj v2 1)],s3))) [aT,(ε 0)] σ).bind λig=>bif ig.1==φ 0 then((Tn .z a0 cK).bind λcA=>wh σ cA ig.2.2)else bif ig.1==Ω then(wh σ (aj ig.2.1 0) ig.2.2)else μ
def Lx:aq->Heap->aB:=Ξ η [] .k (RV LH)
def LG (a0:AV) (σ:Heap):aB:=(Lx [a0] σ).bind λr1=>(θ r1.1 η (δ a0) az).bind λx2=>(θ r1.1 η (A.rD x2) az).bind λx3=>(θ r1.1 η (Wr x3 (ε 20)) az).bind λx4=>(ZM r1.1 x4 aT).bind λx5=>(θ x5 η (δ a0) az).bind λx6=>(θ x5 η (A.lJ x6 (ε 0)) az).bind λx7=>(θ x5 η (A.geq x7 (UB .u8 97)) az).bind λx8=>(ZM x5 x8 aT).bind λx9=>(θ x9 η (δ a0) az).bind λaY=>(θ x9 η (A.lJ aY (ε 0)) az).bind λcg=>(θ x9 η (Wr cg (UB .u8 122)) az).bind λbY=>(ZM x9 bY aT).bind λbB=>wh σ bB r1.2
def DT:aq->Heap->aB:=Ξ η [] .k (RV LG)
def LI (a0 a1 a2:AV) (σ:Heap):aB:=(A.geq a0 a1).bind λx1=>(θ x1 η (δ a0) az).bind λx2=>(θ x1 η (δ a2) az).bind λx3=>(θ x1 η (Wr x2 x3) az).bind λx4=>(ZM x1 x4 aT).bind λx5=>wh σ x5 σ
def m9:aq->Heap->aB:=Ξ η [] .k (A.i7 LI)
def Ld (a0:AV) (σ:Heap):aB:=(m9 [a0,(ε 0),(ε 65535)] σ).bind λr1=>wh σ r1.1 r1.2
def BG:aq->Heap->aB:=Ξ η [] .k (RV Ld)
def Le (a0:AV) (σ:Heap):aB:=(Zt .z a0 cK).bind λx1=>(θ x1 ι (δ a0) az).bind λx2=>(θ x1 ι (A.rD x2) az).bind λx3=>(θ x1 ι (Zx x3 (ε 60)) az).bind λx4=>(ZM x1 br x4).bind λx5=>(θ x5 ι (δ a0) az).bind λx6=>(θ x5 ι (A.lJ x6 (ε 0)) az).bind λx7=>(θ x5 ι (Zt .i x7 (UB .u8 32)) az).bind λx8=>(ZM x5 br x8).bind λx9=>(θ x9 ι (δ a0) az).bind λaY=>(θ x9 ι (δ a0) az).bind λcg=>(θ x9 ι (A.rD cg) az).bind λbY=>(θ x9 ι (YR bY (ε 1)) az).bind λbB=>(θ x9 ι (A.lJ aY bB) az).bind λcI=>(θ x9 ι (Zt .i cI (UB .u8 32)) az).bind λbQ=>(ZM x9 br bQ).bind λbM=>ξ bM (wh σ aT σ) ((A.rD a0).bind λcv=>(Zo (λiU sR=>(ZN (aj iU 1) cv).bind λbO=>ξ bO ((A.lJ a0 (aj iU 1)).bind λcj=>(ZN cj (UB .u8 32)).bind λcA=>(θ cA ι (δ a0) az).bind λcS=>(θ cA ι (δ (aj iU 1)) az).bind λeU=>(θ cA ι (A.lJ cS eU) az).bind λdz=>(θ cA ι (Zx dz (UB .u8 126)) az).bind λew=>(ZM cA br ew).bind λgH=>ξ gH (δ (Ω,[aT,(aj iU 1)],sR)) ((Zn (aj iU 1) (ε 1)).bind λcU=>δ (Λ,[(aj iU 0),cU],sR))) (δ (φ 0,[(aj iU 0),(aj iU 1)],sR))) [aT,(ε 0)] σ).bind λfC=>bif fC.1==φ 0 then(wh σ br fC.2.2)else bif fC.1==Ω then(wh σ (aj fC.2.1 0) fC.2.2)else μ)
def KR:aq->Heap->aB:=Ξ η [] .k (RV Le)
end
section
def L8 (a0:AV) (σ:Heap):aB:=(Φ 7 a0).bind λc1=>(Δ 3 c1).bind λx2=>(Zt .i x2 (ε 0)).bind λx3=>ξ x3 ((Δ 2 c1).bind λx4=>((((ZS x4).bind λv=>δ [v]).bind λc5=>(Zv 0 c5 [(ε 0)]).bind λc6=>δ c6).bind λcs=>δ (U0 1 (dW 1 1 cs))).bind λx7=>wh σ x7 σ) ((Δ 2 c1).bind λx8=>(Δ 3 c1).bind λx9=>((((ZS x8).bind λv=>δ [v]).bind λgy=>(Zv 0 gy [(ε 0),(ε 0)]).bind λdI=>((ZS x9).bind λv=>δ [v]).bind λb9=>(Zv 1 b9 dI).bind λiw=>δ iw).bind λcs=>δ (U0 1 (dW 1 2 cs))).bind λcI=>wh σ cI σ)
def Hz:aq->Heap->aB:=Ξ η [(.a rG)] (.s 1) (RV L8)
def KC (a0 a1 a2:AV) (σ:Heap):aB:=(Φ 7 a0).bind λc1=>(Δ 0 c1).bind λx2=>(DT [x2] σ).bind λr3=>(ZR r3.1).bind λx4=>ξ x4 (wh σ (ε 5) r3.2) ((ZO a1).bind λx5=>(Zo (λv6 s7=>(ZN (aj v6 2) x5).bind λx9=>ξ x9 ((Zp 7 a1 (aj v6 2)).bind λaY=>((Γ aY s7).bind λdI=>Z0 0 7 dI).bind λbY=>(Φ 7 bY).bind λiw=>(Zv 0 iw [cK,(ε 0),(ε 0),(ε 0),(ε 0),aT,ZK]).bind λgB=>(Δ 0 gB).bind λbQ=>((Z2 (aj v6 0)).bind λ_=>δ (0)).bind λGp=>((Z2 (aj v6 0)).bind λjM=>Δ Gp jM).bind λdw=>(Zt .z bQ dw).bind λcx=>ξ cx (δ (Ω,[(aj v6 0),(ε 6),(aj v6 2)],s7)) ((Zn (aj v6 2) (ε 1)).bind λcM=>δ (Λ,[(aj v6 0),(aj v6 1),cM],s7))) (δ (φ 0,[(aj v6 0),(aj v6 1),(aj v6 2)],s7))) [(Z1 c1),(ε 0),(ε 0)] r3.2).bind λcD=>bif cD.1==φ 0 then(((Z2 (aj cD.2.1 0)).bind λ_=>δ (1)).bind λp22=>((Z2 (aj cD.2.1 0)).bind λjc=>Δ p22 jc).bind λcS=>(m9 [cS,(ε 1),(ε 4)] cD.2.2).bind λoL=>(ZR oL.1).bind λdz=>ξ dz (wh σ (ε 4) oL.2) (((Z2 (aj cD.2.1 0)).bind λ_=>δ (2)).bind λp27=>((Z2 (aj cD.2.1 0)).bind λrN=>Δ p27 rN).bind λcU=>(m9 [cU,(ε 1),a2] oL.2).bind λfC=>(ZR fC.1).bind λfN=>((Z2 (aj cD.2.1 0)).bind λ_=>δ (3)).bind λQK=>(θ fN ι ((Z2 (aj cD.2.1 0)).bind λjd=>Δ QK jd) az).bind λjm=>(θ fN ι (δ a2) az).bind λkP=>(θ fN ι (Zu (m9 [jm,(ε 0),kP] fC.2) fC.2) az).bind λiV=>(θ fN ι (ZR iV) az).bind λiE=>(ZM fN br iE).bind λgJ=>((Z2 (aj cD.2.1 0)).bind λ_=>δ (4)).bind λp39=>(θ gJ ι ((Z2 (aj cD.2.1 0)).bind λAy=>Δ p39 Ay) az).bind λlW=>(θ gJ ι (Zu (BG [lW] fC.2) fC.2) az).bind λmG=>(θ gJ ι (ZR mG) az).bind λmH=>(ZM gJ br mH).bind λlX=>ξ lX (wh σ (ε 1) fC.2) (((Z2 (aj cD.2.1 0)).bind λ_=>δ (2)).bind λp45=>((Z2 (aj cD.2.1 0)).bind λAA=>Δ p45 AA).bind λkQ=>((Z2 (aj cD.2.1 0)).bind λ_=>δ (3)).bind λp48=>((Z2 (aj cD.2.1 0)).bind λFE=>Δ p48 FE).bind λm6=>(Zt .i kQ m6).bind λga=>ξ ga (wh σ (ε 12) fC.2) ((ZO a1).bind λnS=>(Zo (λv53 Q5=>(ZN (aj v53 2) nS).bind λmK=>ξ mK ((Zp 7 a1 (aj v53 2)).bind λnU=>((Γ nU Q5).bind λCZ=>Z0 0 7 CZ).bind λm7=>(Φ 7 m7).bind λC0=>(Zv 0 C0 [cK,(ε 0),(ε 0),(ε 0),(ε 0),aT,ZK]).bind λPD=>((Z2 (aj v53 0)).bind λc62=>Z0 0 7 c62).bind λiF=>(Hz [iF] Q5).bind λr64=>(ZO r64.1).bind λqp=>(Zo (λqQ Q8=>(ZN (aj qQ 3) qp).bind λqt=>ξ qt ((Zp 1 r64.1 (aj qQ 3)).bind λuf=>((Γ uf Q8).bind λoZ=>Δ 0 oZ).bind λoP=>((Z2 (aj qQ 2)).bind λc73=>Z0 0 7 c73).bind λqu=>(Hz [qu] Q8).bind λZb=>(lB [Zb.1,oP] Zb.2).bind λm4=>ξ m4.1 (δ (Ω,[(aj qQ 0),(ε 12),(aj qQ 2),(aj qQ 3)],m4.2)) ((Zn (aj qQ 3) (ε 1)).bind λug=>δ (Λ,[(aj qQ 0),(aj qQ 1),(aj qQ 2),ug],m4.2))) (δ (φ 5,[(aj qQ 0),(aj qQ 1),(aj qQ 2),(aj qQ 3)],Q8))) [(aj v53 0),(aj v53 1),(Z1 PD),(ε 0)] r64.2).bind λij=>bif ij.1==φ 5 then((Zn (aj v53 2) (ε 1)).bind λuh=>δ (Λ,[(aj ij.2.1 0),(aj ij.2.1 1),uh],ij.2.2))else bif ij.1==Ω then(δ (Ω,[(aj ij.2.1 0),(aj ij.2.1 1),(aj v53 2)],ij.2.2))else μ) (δ (φ 3,[(aj v53 0),(aj v53 1),(aj v53 2)],Q5))) [(aj cD.2.1 0),(aj cD.2.1 1),(ε 0)] fC.2).bind λji=>bif ji.1==φ 3 then(((Z2 (aj ji.2.1 0)).bind λ_=>δ (6)).bind λQS=>((Z2 (aj ji.2.1 0)).bind λPJ=>Δ QS PJ).bind λBh=>(ZO Bh).bind λsS=>(Zx sS (ε 30)).bind λxz=>ξ xz (wh σ (ε 2) ji.2.2) (((Z2 (aj ji.2.1 0)).bind λ_=>δ (6)).bind λQT=>((Z2 (aj ji.2.1 0)).bind λwR=>Δ QT wR).bind λvJ=>(ZO vJ).bind λBi=>(Zo (λlz Ra=>(ZN (aj lz 2) Bi).bind λBk=>ξ Bk ((Zp 3 vJ (aj lz 2)).bind λuj=>((Γ uj Ra).bind λPM=>Z0 0 3 PM).bind λxB=>(Φ 3 xB).bind λPO=>(Zv 0 PO [(ε 0),(ε 0),cK]).bind λAF=>(Δ 0 AF).bind λuk=>(BG [uk] Ra).bind λAb=>(ZR Ab.1).bind λwN=>(θ wN ι (Δ 1 AF) az).bind λyI=>(θ wN ι (Zu (BG [yI] Ab.2) Ab.2) az).bind λO0=>(θ wN ι (ZR O0) az).bind λFi=>(ZM wN br Fi).bind λsI=>(θ sI ι (Δ 0 AF) az).bind λO1=>(θ sI ι (Δ 1 AF) az).bind λAl=>(θ sI ι (Zx O1 Al) az).bind λFj=>(ZM sI br Fj).bind λaj7=>ξ aj7 (δ (Ω,[(aj lz 0),(ε 1),(aj lz 2)],Ab.2)) ((Zx (aj lz 2) (ε 0)).bind λpY=>(θ pY η (Δ 0 AF) az).bind λCR=>((Z2 (aj lz 0)).bind λ_=>δ (6)).bind λajt=>(θ pY η ((Z2 (aj lz 0)).bind λN6=>Δ ajt N6) az).bind λFk=>(θ pY η (δ (aj lz 2)) az).bind λaj8=>(θ pY η (YR aj8 (ε 1)) az).bind λFl=>(θ pY η (Zp 3 Fk Fl) az).bind λaj9=>(θ pY η (SN 1 aj9) az).bind λO4=>(θ pY η ((Γ O4 Ab.2).bind λahZ=>Δ 0 ahZ) az).bind λO6=>(θ pY η (Wr CR O6) az).bind λCS=>(ZM pY CS aT).bind λyJ=>ξ yJ (δ (Ω,[(aj lz 0),(ε 7),(aj lz 2)],Ab.2)) ((Δ 2 AF).bind λO7=>(DT [O7] Ab.2).bind λJi=>(ZR Ji.1).bind λaka=>ξ aka (δ (Ω,[(aj lz 0),(ε 5),(aj lz 2)],Ji.2)) (((Z2 (aj lz 0)).bind λ_=>δ (6)).bind λajw=>((Z2 (aj lz 0)).bind λah3=>Δ ajw ah3).bind λO9=>(A.gQ 3 O9 μ (δ (aj lz 2)) Ji.2).bind λCT=>(ZO CT).bind λPa=>(Zo (λv131 Jr=>(ZN (aj v131 3) Pa).bind λake=>ξ ake ((Zp 3 CT (aj v131 3)).bind λCU=>((Γ CU Jr).bind λEW=>Z0 0 3 EW).bind λPc=>(Φ 3 Pc).bind λN8=>(Zv 0 N8 [(ε 0),(ε 0),cK]).bind λN9=>(Δ 2 N9).bind λFo=>((Z2 (aj v131 2)).bind λ_=>δ (2)).bind λajy=>((Z2 (aj v131 2)).bind λOb=>Δ ajy Ob).bind λPd=>(Zt .z Fo Pd).bind λPe=>ξ Pe (δ (Ω,[(aj v131 0),(ε 6),(aj v131 2),(aj v131 3)],Jr)) ((Zn (aj v131 3) (ε 1)).bind λPf=>δ (Λ,[(aj v131 0),(aj v131 1),(aj v131 2),Pf],Jr))) (δ (φ 10,[(aj v131 0),(aj v131 1),(aj v131 2),(aj v131 3)],Jr))) [(aj lz 0),(aj lz 1),(Z1 AF),(ε 0)] Ji.2).bind λyF=>bif yF.1==φ 10 then((Zn (aj lz 2) (ε 1)).bind λPg=>δ (Λ,[(aj yF.2.1 0),(aj yF.2.1 1),Pg],yF.2.2))else bif yF.1==Ω then(δ (Ω,[(aj yF.2.1 0),(aj yF.2.1 1),(aj lz 2)],yF.2.2))else μ)))) (δ (φ 7,[(aj lz 0),(aj lz 1),(aj lz 2)],Ra))) [(aj ji.2.1 0),(aj ji.2.1 1),(ε 0)] ji.2.2).bind λyG=>bif yG.1==φ 7 then(wh σ (ε 0) yG.2.2)else bif yG.1==Ω then(wh σ (aj yG.2.1 1) yG.2.2)else μ))else bif ji.1==Ω then(wh σ (aj ji.2.1 1) ji.2.2)else μ))))else bif cD.1==Ω then(wh σ (aj cD.2.1 1) cD.2.2)else μ)
def KB:aq->Heap->aB:=Ξ η [(.a rG),(.s 7)] .k (A.i7 KC)
def Kw (a0:AV) (σ:Heap):aB:=(Φ 3 a0).bind λc1=>(Δ 0 c1).bind λx2=>(DT [x2] σ).bind λr3=>(ZR r3.1).bind λx4=>ξ x4 (wh σ (ε 5) r3.2) ((Δ 1 c1).bind λx5=>(m9 [x5,(ε 1),(ε 512)] r3.2).bind λr6=>(ZR r6.1).bind λx7=>ξ x7 (wh σ (ε 1) r6.2) ((Δ 2 c1).bind λx8=>(ZO x8).bind λx9=>(Zt .i x9 (ε 0)).bind λaY=>ξ aY (wh σ (ε 8) r6.2) ((Δ 2 c1).bind λcg=>(ZO cg).bind λbY=>(Zx bY (ε 40)).bind λbB=>ξ bB (wh σ (ε 2) r6.2) ((Δ 2 c1).bind λcI=>(ZO cI).bind λbQ=>(Zo (λeT tZ=>(ZN (aj eT 2) bQ).bind λcx=>ξ cx ((Zp 7 cI (aj eT 2)).bind λcM=>((Γ cM tZ).bind λlO=>Z0 0 7 lO).bind λcj=>(Φ 7 cj).bind λjc=>(Zv 0 jc [cK,(ε 0),(ε 0),(ε 0),(ε 0),aT,ZK]).bind λfT=>(Z0 0 7 fT).bind λeU=>((Z2 (aj eT 0)).bind λ_=>δ (2)).bind λp26=>((Z2 (aj eT 0)).bind λvr=>Δ p26 vr).bind λgH=>(A.gQ 7 gH μ (δ (aj eT 2)) tZ).bind λcU=>((Z2 (aj eT 0)).bind λ_=>δ (1)).bind λQJ=>((Z2 (aj eT 0)).bind λrQ=>Δ QJ rQ).bind λgI=>(Zu (KB [eU,cU,gI] tZ) tZ).bind λjl=>(Tn .i jl (ε 0)).bind λjm=>ξ jm (δ (Ω,[(aj eT 0),jl,(aj eT 2)],tZ)) ((Zn (aj eT 2) (ε 1)).bind λkP=>δ (Λ,[(aj eT 0),(aj eT 1),kP],tZ))) (δ (φ 1,[(aj eT 0),(aj eT 1),(aj eT 2)],tZ))) [(Z1 c1),(ε 0),(ε 0)] r6.2).bind λjh=>bif jh.1==φ 1 then(wh σ (ε 0) jh.2.2)else bif jh.1==Ω then(wh σ (aj jh.2.1 1) jh.2.2)else μ))))
def Ks:aq->Heap->aB:=Ξ η [(.a [.k,.k,(.s 7)])] .k (RV Kw)
def Kv (a0:AV) (σ:Heap):aB:=(ZO a0).bind λx1=>(Zx x1 (ε 60)).bind λx2=>ξ x2 (wh σ (ε 2) σ) ((ZO a0).bind λx3=>(Zo (λv4 s5=>(ZN (aj v4 1) x3).bind λx7=>ξ x7 ((Zp 3 a0 (aj v4 1)).bind λx8=>((Γ x8 s5).bind λc9=>Z0 0 3 c9).bind λaY=>(Φ 3 aY).bind λdI=>(Zv 0 dI [cK,(ε 0),ZK]).bind λb9=>(Z0 0 3 b9).bind λbB=>(Ks [bB] s5).bind λb8=>(Tn .i b8.1 (ε 0)).bind λbQ=>ξ bQ (δ (Ω,[b8.1,(aj v4 1)],b8.2)) ((A.gQ 3 a0 μ (δ (aj v4 1)) b8.2).bind λbM=>(ZO bM).bind λcv=>(Zo (λiU sR=>(ZN (aj iU 2) cv).bind λbO=>ξ bO ((Zp 3 bM (aj iU 2)).bind λcj=>((Γ cj sR).bind λjc=>Z0 0 3 jc).bind λcS=>(Φ 3 cS).bind λjG=>(Zv 0 jG [cK,(ε 0),ZK]).bind λjN=>(Δ 0 jN).bind λew=>((Z2 (aj iU 1)).bind λ_=>δ (0)).bind λQI=>((Z2 (aj iU 1)).bind λrO=>Δ QI rO).bind λgW=>(Zt .z ew gW).bind λfN=>ξ fN (δ (Ω,[(ε 6),(aj iU 1),(aj iU 2)],sR)) ((Zn (aj iU 2) (ε 1)).bind λgI=>δ (Λ,[(aj iU 0),(aj iU 1),gI],sR))) (δ (φ 2,[(aj iU 0),(aj iU 1),(aj iU 2)],sR))) [(aj v4 0),(Z1 b9),(ε 0)] b8.2).bind λDh=>bif Dh.1==φ 2 then((Zn (aj v4 1) (ε 1)).bind λjm=>δ (Λ,[(aj Dh.2.1 0),jm],Dh.2.2))else bif Dh.1==Ω then(δ (Ω,[(aj Dh.2.1 0),(aj v4 1)],Dh.2.2))else μ)) (δ (φ 0,[(aj v4 0),(aj v4 1)],s5))) [(ε 0),(ε 0)] σ).bind λgV=>bif gV.1==φ 0 then(wh σ (ε 0) gV.2.2)else bif gV.1==Ω then(wh σ (aj gV.2.1 0) gV.2.2)else μ)
def Kr:aq->Heap->aB:=Ξ η [(.s 3)] .k (RV Kv)
def Lg (a0 a1:AV) (σ:Heap):aB:=(ZO a0).bind λx1=>(Zo (λv2 s3=>(ZN (aj v2 2) x1).bind λx5=>ξ x5 ((Zp 3 a0 (aj v2 2)).bind λx6=>((Γ x6 s3).bind λc7=>Z0 0 3 c7).bind λx8=>(Φ 3 x8).bind λc9=>(Zv 0 c9 [cK,(ε 0),ZK]).bind λgy=>(Δ 0 gy).bind λcg=>(Zt .z cg a1).bind λbY=>ξ bY ((Z0 0 3 gy).bind λbB=>(Z2 (aj v2 0)).bind λiQ=>(Φ 3 bB).bind λgB=>(Zv 0 gB iQ).bind λfS=>δ (Ω,[(Z1 fS),br,(aj v2 2)],s3)) ((Zn (aj v2 2) (ε 1)).bind λcv=>δ (Λ,[(aj v2 0),(aj v2 1),cv],s3))) (δ (φ 0,[(aj v2 0),(aj v2 1),(aj v2 2)],s3))) [(Z1 [cK,(ε 0),ZK]),aT,(ε 0)] σ).bind λdr=>bif dr.1==φ 0 then((Z2 (aj dr.2.1 0)).bind λlO=>(Φ 3 (Y8 [cK,(ε 0),ZK])).bind λlN=>(Zv 0 lN lO).bind λgD=>(Z0 0 3 gD).bind λcj=>wh σ (Zz [cj,aT]) dr.2.2)else bif dr.1==Ω then(((Z2 (aj dr.2.1 0)).bind λfT=>Z0 0 3 fT).bind λcA=>wh σ (Zz [cA,(aj dr.2.1 1)]) dr.2.2)else μ
def DN:aq->Heap->aB:=Ξ η [(.s 3)] (.t [(.a [.k,.k,(.e 7 rG)]),.k]) (T3 Lg)
def Mo (a0 a1:AV) (σ:Heap):aB:=(Φ 2 a0).bind λc1=>(Φ 4 a1).bind λc2=>(Δ 0 c1).bind λx3=>(Δ 1 c2).bind λx4=>(DN [x3,x4] σ).bind λr5=>(Zl 0 r5.1).bind λx6=>(Zl 1 r5.1).bind λx7=>(Φ 3 x6).bind λc8=>(Zv 0 c8 [cK,(ε 0),ZK]).bind λc9=>(Δ 3 c2).bind λaY=>(Δ 1 c9).bind λcg=>(Zn aY cg).bind λbY=>(YR bY (ε 1)).bind λbB=>wh σ bB r5.2
def D8:aq->Heap->aB:=Ξ η [kY] .k (T3 Mo)
def KM (a0:AV) (σ:Heap):aB:=(Φ 2 a0).bind λc1=>(Δ 0 c1).bind λx2=>(Kr [x2] σ).bind λr3=>(Tn .i r3.1 (ε 0)).bind λx4=>ξ x4 (wh σ r3.1 r3.2) ((Δ 1 c1).bind λx5=>(ZO x5).bind λx6=>(Zx x6 (ε 400)).bind λx7=>ξ x7 (wh σ (ε 2) r3.2) ((Δ 1 c1).bind λx8=>(ZO x8).bind λx9=>(Zo (λv10 oM=>(ZN (aj v10 2) x9).bind λbB=>ξ bB ((Zp 4 x8 (aj v10 2)).bind λcI=>((Γ cI oM).bind λfS=>Z0 0 4 fS).bind λbM=>(Φ 4 bM).bind λjM=>(Zv 0 jM [(ε 0),cK,(ε 0),(ε 0)]).bind λgC=>((Z2 (aj v10 0)).bind λ_=>δ (0)).bind λQE=>((Z2 (aj v10 0)).bind λgD=>Δ QE gD).bind λbO=>(Δ 1 gC).bind λcj=>(DN [bO,cj] oM).bind λcq=>(Zl 0 cq.1).bind λcS=>(Zl 1 cq.1).bind λeU=>(Φ 3 cS).bind λjN=>(Zv 0 jN [cK,(ε 0),ZK]).bind λvr=>(Δ 0 gC).bind λgH=>(m9 [gH,(ε 1),(ε 9999)] cq.2).bind λDg=>(ZR Dg.1).bind λgW=>ξ gW (δ (Ω,[(aj v10 0),(ε 1),(aj v10 2)],Dg.2)) ((Zx (aj v10 2) (ε 0)).bind λfN=>(θ fN η (Δ 0 gC) az).bind λgI=>((Z2 (aj v10 0)).bind λ_ => δ (1)).bind λQL =>(θ fN η ((Z2 (aj v10 0)).bind λp9=>Δ QL p9) az).bind λkP=>(θ fN η (δ (aj v10 2)) az).bind λiV=>(θ fN η (YR iV (ε 1)) az).bind λiE=>(θ fN η (Zp 4 kP iE) az).bind λgJ=>(θ fN η (SN 0 gJ) az).bind λjo=>(θ fN η ((Γ jo Dg.2).bind λAy=>Δ 0 Ay) az).bind λlW=>(θ fN η (Wr gI lW) az).bind λmG=>(ZM fN mG aT).bind λmH=>ξ mH (δ (Ω,[(aj v10 0),(ε 7),(aj v10 2)],Dg.2)) ((ZR eU).bind λlX=>ξ lX (δ (Ω,[(aj v10 0),(ε 5),(aj v10 2)],Dg.2)) ((Δ 2 gC).bind λmI=>(m9 [mI,(ε 1),(ε 64)] Dg.2).bind λqj=>(ZR qj.1).bind λkQ=>(θ kQ ι (Δ 3 gC) az).bind λqm=>(θ kQ ι (Zu (m9 [qm,(ε 1),(ε 512)] qj.2) qj.2) az).bind λmJ=>(θ kQ ι (ZR mJ) az).bind λm6=>(ZM kQ br m6).bind λga=>(θ ga ι ((Z2 (aj v10 0)).bind λFG=>Z0 0 2 FG) az).bind λnT=>(θ ga ι (Z0 0 4 gC) az).bind λpN=>(θ ga ι (Zu (D8 [nT,pN] qj.2) qj.2) az).bind λoO=>(θ ga ι (Zx oO (ε 512)) az).bind λmK=>(ZM ga br mK).bind λnU=>ξ nU (δ (Ω,[(aj v10 0),(ε 1),(aj v10 2)],qj.2)) (((Z2 (aj v10 0)).bind λ_=>δ (1)).bind λp58=>((Z2 (aj v10 0)).bind λPC=>Δ p58 PC).bind λsv=>(A.gQ 4 sv μ (δ (aj v10 2)) qj.2).bind λqn=>(ZO qn).bind λqo=>(Zo (λfZ lU=>(ZN (aj fZ 3) qo).bind λsw=>ξ sw ((Zp 4 qn (aj fZ 3)).bind λqq=>((Γ qq lU).bind λAD=>Z0 0 4 AD).bind λqt=>(Φ 4 qt).bind λyL=>(Zv 0 yL [(ε 0),cK,(ε 0),(ε 0)]).bind λoZ=>(Δ 2 oZ).bind λoP=>((Z2 (aj fZ 2)).bind λ_=>δ (2)).bind λp73=>((Z2 (aj fZ 2)).bind λc74=>Δ p73 c74).bind λm8=>(Zt .i oP m8).bind λqR=>(θ qR η (Δ 3 oZ) az).bind λug=>(θ qR η ((Z2 (aj fZ 0)).bind λAE=>Z0 0 2 AE) az).bind λuh=>(θ qR η ((Z2 (aj fZ 2)).bind λPI=>Z0 0 4 PI) az).bind λBg=>(θ qR η (Zu (D8 [uh,Bg] lU) lU) az).bind λGM=>(θ qR η (Wr ug GM) az).bind λBh=>(ZM qR Bh aT).bind λsS=>((Z2 (aj fZ 2)).bind λ_=>δ (3)).bind λp85=>(θ sS η ((Z2 (aj fZ 2)).bind λPK=>Δ p85 PK) az).bind λRn=>(θ sS η ((Z2 (aj fZ 0)).bind λc88=>Z0 0 2 c88) az).bind λBi=>(θ sS η (Z0 0 4 oZ) az).bind λGO=>(θ sS η (Zu (D8 [Bi,GO] lU) lU) az).bind λxA=>(θ sS η (Wr Rn xA) az).bind λBj=>(ZM sS Bj aT).bind λBk=>ξ Bk (δ (Ω,[(aj fZ 0),(ε 12),(aj fZ 2),(aj fZ 3)],lU)) ((Zn (aj fZ 3) (ε 1)).bind λuj=>δ (Λ,[(aj fZ 0),(aj fZ 1),(aj fZ 2),uj],lU))) (δ (φ 3,[(aj fZ 0),(aj fZ 1),(aj fZ 2),(aj fZ 3)],lU))) [(aj v10 0),(aj v10 1),(Z1 gC),(ε 0)] qj.2).bind λqO=>bif qO.1==φ 3 then((Zn (aj v10 2) (ε 1)).bind λxB=>δ (Λ,[(aj qO.2.1 0),(aj qO.2.1 1),xB],qO.2.2))else bif qO.1==Ω then(δ (Ω,[(aj qO.2.1 0),(aj qO.2.1 1),(aj v10 2)],qO.2.2))else μ))))) (δ (φ 0,[(aj v10 0),(aj v10 1),(aj v10 2)],oM))) [(Z1 c1),(ε 0),(ε 0)] r3.2).bind λql=>bif ql.1==φ 0 then(wh σ (ε 0) ql.2.2)else bif ql.1==Ω then(wh σ (aj ql.2.1 1) ql.2.2)else μ))
def KK:aq->Heap->aB:=Ξ η [kY] .k (RV KM)
def Mp (a0 a1:AV) (σ:Heap):aB:=(Φ 2 a0).bind λc1=>(Δ 1 c1).bind λx2=>(ZO x2).bind λx3=>(Zo (λv4 s5=>(ZN (aj v4 1) x3).bind λx7=>ξ x7 ((Zp 4 x2 (aj v4 1)).bind λx8=>((Γ x8 s5).bind λc9=>Z0 0 4 c9).bind λaY=>(Φ 4 aY).bind λdI=>(Zv 0 dI [(ε 0),cK,(ε 0),(ε 0)]).bind λb9=>(Δ 0 b9).bind λbB=>(Zt .i bB a1).bind λcI=>ξ cI (δ (Ω,[(aj v4 1),(aj v4 1)],s5)) ((Zn (aj v4 1) (ε 1)).bind λbQ=>δ (Λ,[(aj v4 0),bQ],s5))) (δ (φ 0,[(aj v4 0),(aj v4 1)],s5))) [(ε 0),(ε 0)] σ).bind λlf=>bif lf.1==φ 0 then(wh σ (ε (-1)) lf.2.2)else bif lf.1==Ω then(wh σ (aj lf.2.1 0) lf.2.2)else μ
def Mj:aq->Heap->aB:=Ξ η [kY] .k (T3 Mp)
def L7 (a0 a1:AV) (σ:Heap):aB:=(Φ 3 a0).bind λc1=>(Δ 2 c1).bind λx2=>(ZO x2).bind λx3=>(Zo (λv4 s5=>(ZN (aj v4 2) x3).bind λx7=>ξ x7 ((Zp 7 x2 (aj v4 2)).bind λx8=>((Γ x8 s5).bind λc9=>Z0 0 7 c9).bind λaY=>(Φ 7 aY).bind λdI=>(Zv 0 dI [cK,(ε 0),(ε 0),(ε 0),(ε 0),aT,ZK]).bind λb9=>(Δ 0 b9).bind λbB=>(Zt .z bB a1).bind λcI=>ξ cI ((Z0 0 7 b9).bind λbQ=>(Z2 (aj v4 0)).bind λgC=>(Φ 7 bQ).bind λiQ=>(Zv 0 iQ gC).bind λjM=>δ (Ω,[(Z1 jM),br,(aj v4 2)],s5)) ((Zn (aj v4 2) (ε 1)).bind λcx=>δ (Λ,[(aj v4 0),(aj v4 1),cx],s5))) (δ (φ 0,[(aj v4 0),(aj v4 1),(aj v4 2)],s5))) [(Z1 [cK,(ε 0),(ε 0),(ε 0),(ε 0),aT,ZK]),aT,(ε 0)] σ).bind λbI=>bif bI.1==φ 0 then((Z2 (aj bI.2.1 0)).bind λjc=>(Φ 7 (Y8 [cK,(ε 0),(ε 0),(ε 0),(ε 0),aT,ZK])).bind λlO=>(Zv 0 lO jc).bind λlP=>(Z0 0 7 lP).bind λcS=>wh σ (Zz [cS,aT]) bI.2.2)else bif bI.1==Ω then(((Z2 (aj bI.2.1 0)).bind λjN=>Z0 0 7 jN).bind λeU=>wh σ (Zz [eU,(aj bI.2.1 1)]) bI.2.2)else μ
def LZ:aq->Heap->aB:=Ξ η [(.a [.k,.k,(.s 7)])] (.t [(.a rG),.k]) (T3 L7)
def Lf (a0 a1:AV) (σ:Heap):aB:=(Φ 2 a0).bind λc1=>(Φ 2 a1).bind λc2=>(Z0 0 2 c1).bind λx3=>(Δ 0 c2).bind λx4=>(Mj [x3,x4] σ).bind λr5=>(ZN r5.1 (ε 0)).bind λx6=>ξ x6 ((Φ 7 (Y8 [cK,(ε 0),(ε 0),(ε 0),(ε 0),aT,ZK])).bind λc7=>(Zv 0 c7 [cK,(ε 0),(ε 0),(ε 0),(ε 0),aT,ZK]).bind λc8=>(Z0 0 7 c8).bind λx9=>wh σ (Zz [x9,aT]) r5.2) ((Δ 0 c1).bind λaY=>(Δ 1 c1).bind λcg=>(Zp 4 cg r5.1).bind λbY=>(SN 1 bY).bind λbB=>((Γ bB r5.2).bind λgB=>Δ 0 gB).bind λbQ=>(Zu (DN [aY,bQ] r5.2) r5.2).bind λbM=>(Zl 0 bM).bind λcv=>(Zl 1 bM).bind λdw=>(Φ 3 cv).bind λlN=>(Zv 0 lN [cK,(ε 0),ZK]).bind λgD=>(Z0 0 3 gD).bind λbO=>(Δ 1 c2).bind λcj=>(LZ [bO,cj] r5.2).bind λcq=>(Zl 0 cq.1).bind λcS=>(Zl 1 cq.1).bind λeU=>(Φ 7 cS).bind λjN=>(Zv 0 jN [cK,(ε 0),(ε 0),(ε 0),(ε 0),aT,ZK]).bind λvr=>(Z0 0 7 vr).bind λgH=>wh σ (Zz [gH,eU]) cq.2)
def KT:aq->Heap->aB:=Ξ η [kY] (.t [(.a rG),.k]) (T3 Lf)
end
section
def LJ (a0 a1:AV) (σ:Heap):aB:=(Φ 2 a0).bind λc1=>(Φ 2 a1).bind λc2=>(Δ 0 c1).bind λx3=>(Δ 0 c2).bind λx4=>(ZN x3 x4).bind λx5=>(θ x5 ι (Δ 0 c1) az).bind λx6=>(θ x5 ι (Δ 0 c2) az).bind λx7=>(θ x5 ι (Zt .i x6 x7) az).bind λx8=>(θ x5 ι (δ x8) az).bind λx9=>(θ x9 η (Δ 1 c1) az).bind λaY=>(θ x9 η (Δ 1 c2) az).bind λcg=>(θ x9 η (ZN aY cg) az).bind λbY=>(θ x5 ι (ZM x9 bY aT) az).bind λbB=>(ZM x5 br bB).bind λcI=>wh σ cI σ
def Ly:aq->Heap->aB:=Ξ η [] .k (T3 LJ)
def Kx (a0 a1:AV) (σ:Heap):aB:=(Φ 2 a0).bind λc1=>(Z0 0 2 c1).bind λx2=>(KK [x2] σ).bind λr3=>(Tn .i r3.1 (ε 0)).bind λx4=>ξ x4 (wh σ r3.1 r3.2) ((ZO a1).bind λx5=>(Zx x5 (ε 200)).bind λx6=>ξ x6 (wh σ (ε 2) r3.2) ((ZO a1).bind λx7=>(Zo (λv8 s9=>(ZN (aj v8 2) x7).bind λcg=>ξ cg ((Zp 3 a1 (aj v8 2)).bind λbY=>((Γ bY s9).bind λiw=>Z0 0 3 iw).bind λcI=>(Φ 3 cI).bind λfS=>(Zv 0 fS [(ε 0),cK,ZK]).bind λiQ=>(Δ 0 iQ).bind λcv=>(m9 [cv,(ε 1),(ε 999)] s9).bind λdr=>(ZR dr.1).bind λcx=>ξ cx (δ (Ω,[(aj v8 0),(ε 1),(aj v8 2)],dr.2)) ((Zx (aj v8 2) (ε 0)).bind λcM=>(θ cM η (Δ 0 iQ) az).bind λbO=>(θ cM η (δ a1) az).bind λcj=>(θ cM η (δ (aj v8 2)) az).bind λcA=>(θ cM η (YR cA (ε 1)) az).bind λcS=>(θ cM η (Zp 3 cj cS) az).bind λeU=>(θ cM η (SN 0 eU) az).bind λdz=>(θ cM η ((Γ dz dr.2).bind λvr=>Δ 0 vr) az).bind λgH=>(θ cM η (Wr bO gH) az).bind λcU=>(ZM cM cU aT).bind λgW=>ξ gW (δ (Ω,[(aj v8 0),(ε 7),(aj v8 2)],dr.2)) ((Δ 1 iQ).bind λfN=>(Tn .z fN cK).bind λgI=>(θ gI η (Δ 1 iQ) az).bind λjl=>(θ gI η (Zu (KR [jl] dr.2) dr.2) az).bind λjm=>(θ gI η (ZR jm) az).bind λkP=>(ZM gI kP aT).bind λiV=>ξ iV (δ (Ω,[(aj v8 0),(ε 3),(aj v8 2)],dr.2)) ((Δ 2 iQ).bind λiE=>(ZO iE).bind λgJ=>(Zx gJ (ε 2000)).bind λjo=>ξ jo (δ (Ω,[(aj v8 0),(ε 2),(aj v8 2)],dr.2)) ((Δ 2 iQ).bind λlA=>(ZO lA).bind λlW=>(Zo (λko Q3=>(ZN (aj ko 3) lW).bind λmI=>ξ mI ((Zp 3 lA (aj ko 3)).bind λpM=>((Γ pM Q3).bind λPz=>Z0 0 3 Pz).bind λqm=>(Φ 3 qm).bind λFE=>(Zv 0 FE [(ε 0),cK,(ε 0)]).bind λAB=>((Z2 (aj ko 0)).bind λFF=>Z0 0 2 FF).bind λnS=>(Z0 0 2 AB).bind λnT=>(KT [nS,nT] Q3).bind λyW=>(Zl 0 yW.1).bind λoO=>(Zl 1 yW.1).bind λmK=>(Φ 7 oO).bind λwQ=>(Zv 0 wQ [cK,(ε 0),(ε 0),(ε 0),(ε 0),aT,ZK]).bind λCZ=>(ZR mK).bind λm7=>ξ m7 (δ (Ω,[(aj ko 0),(ε 8),(aj ko 2),(aj ko 3)],yW.2)) ((Δ 2 AB).bind λsv=>(BG [sv] yW.2).bind λlq=>(ZR lq.1).bind λqo=>ξ qo (δ (Ω,[(aj ko 0),(ε 1),(aj ko 2),(aj ko 3)],lq.2)) ((Zx (aj ko 3) (ε 0)).bind λiF=>((Z2 (aj ko 2)).bind λ_=>δ (2)).bind λQO=>(θ iF η ((Z2 (aj ko 2)).bind λFI=>Δ QO FI) az).bind λsw=>(θ iF η (δ (aj ko 3)) az).bind λqq=>(θ iF η (YR qq (ε 1)) az).bind λsx=>(θ iF η (Zp 3 sw sx) az).bind λqt=>(θ iF η (SN 0 qt) az).bind λuf=>(θ iF η ((Γ uf lq.2).bind λoZ=>Z0 0 2 oZ) az).bind λoP=>(θ iF η (Z0 0 2 AB) az).bind λpO=>(θ iF η (Zu (Ly [oP,pO] lq.2) lq.2) az).bind λqu=>(θ iF η (ZR qu) az).bind λm8=>(ZM iF m8 aT).bind λqR=>ξ qR (δ (Ω,[(aj ko 0),(ε 7),(aj ko 2),(aj ko 3)],lq.2)) ((Zn (aj ko 3) (ε 1)).bind λug=>δ (Λ,[(aj ko 0),(aj ko 1),(aj ko 2),ug],lq.2))))) (δ (φ 3,[(aj ko 0),(aj ko 1),(aj ko 2),(aj ko 3)],Q3))) [(aj v8 0),(aj v8 1),(Z1 iQ),(ε 0)] dr.2).bind λij=>bif ij.1==φ 3 then((Zn (aj v8 2) (ε 1)).bind λuh=>δ (Λ,[(aj ij.2.1 0),(aj ij.2.1 1),uh],ij.2.2))else bif ij.1==Ω then(δ (Ω,[(aj ij.2.1 0),(aj ij.2.1 1),(aj v8 2)],ij.2.2))else μ))))) (δ (φ 0,[(aj v8 0),(aj v8 1),(aj v8 2)],s9))) [(Z1 c1),(ε 0),(ε 0)] r3.2).bind λji=>bif ji.1==φ 0 then(wh σ (ε 0) ji.2.2)else bif ji.1==Ω then(wh σ (aj ji.2.1 1) ji.2.2)else μ))
def Kt:aq->Heap->aB:=Ξ η [kY,(.s 3)] .k (T3 Kx)
def KN (a0 a1:AV) (σ:Heap):aB:=(ZO a0).bind λx1=>(Zo (λv2 s3=>(ZN (aj v2 2) x1).bind λx5=>ξ x5 ((Zp 3 a0 (aj v2 2)).bind λx6=>((Γ x6 s3).bind λc7=>Z0 0 3 c7).bind λx8=>(Φ 3 x8).bind λc9=>(Zv 0 c9 [(ε 0),cK,ZK]).bind λgy=>(Δ 0 gy).bind λcg=>(Zt .i cg a1).bind λbY=>ξ bY ((Z0 0 3 gy).bind λbB=>(Z2 (aj v2 0)).bind λiQ=>(Φ 3 bB).bind λgB=>(Zv 0 gB iQ).bind λfS=>δ (Ω,[(Z1 fS),br,(aj v2 2)],s3)) ((Zn (aj v2 2) (ε 1)).bind λcv=>δ (Λ,[(aj v2 0),(aj v2 1),cv],s3))) (δ (φ 0,[(aj v2 0),(aj v2 1),(aj v2 2)],s3))) [(Z1 [(ε 0),cK,ZK]),aT,(ε 0)] σ).bind λdr=>bif dr.1==φ 0 then((Z2 (aj dr.2.1 0)).bind λlO=>(Φ 3 (Y8 [(ε 0),cK,ZK])).bind λlN=>(Zv 0 lN lO).bind λgD=>(Z0 0 3 gD).bind λcj=>wh σ (Zz [cj,aT]) dr.2.2)else bif dr.1==Ω then(((Z2 (aj dr.2.1 0)).bind λfT=>Z0 0 3 fT).bind λcA=>wh σ (Zz [cA,(aj dr.2.1 1)]) dr.2.2)else μ
def BB:aq->Heap->aB:=Ξ η [(.s 3)] (.t [(.a [.k,.k,(.s 3)]),.k]) (T3 KN)
def B3 (rec:Nat->aq->Heap->aB) (a0 a1:AV) (σ:Heap):aB:=(Φ 4 a0).bind λc1=>(Zx a1 (ε 12)).bind λx2=>ξ x2 (wh σ (Zz [(ε 1),a1]) σ) ((Δ 3 c1).bind λx3=>(ZO x3).bind λx4=>(Zo (λv5 s6=>(ZN (aj v5 2) x4).bind λx8=>ξ x8 ((Zp 4 x3 (aj v5 2)).bind λx9=>((Γ x9 s6).bind λgy=>Z0 0 4 gy).bind λcg=>(Φ 4 cg).bind λb9=>(Zv 0 b9 [(ε 0),(ε 0),(ε 0),ZK]).bind λiw=>(Z0 0 4 iw).bind λcI=>(Zn a1 (ε 1)).bind λbQ=>(rec 46 [cI,bQ] s6).bind λlf=>(Zl 0 lf.1).bind λcv=>(Zl 1 lf.1).bind λdw=>(Zn (aj v5 0) cv).bind λcx=>(A.min cx (ε 201)).bind λcM=>(A.max (aj v5 1) dw).bind λbO=>(Zn (aj v5 2) (ε 1)).bind λcj=>δ (Λ,[cM,bO,cj],lf.2)) (δ (φ 0,[(aj v5 0),(aj v5 1),(aj v5 2)],s6))) [(ε 1),a1,(ε 0)] σ).bind λcq=>bif cq.1==φ 0 then(wh σ (Zz [(aj cq.2.1 0),(aj cq.2.1 1)]) cq.2.2)else μ)
def BW (rec:Nat->aq->Heap->aB):List (Nat×(aq->Heap->aB)):=[(46,Ξ η [fK] .k (T3 (B3 rec)))]
def L2:aq->Heap->aB:=fuel (BW) 2000000 46
def Mq (a0:AV) (σ:Heap):aB:=(Zt .i a0 (ε 1)).bind λx1=>ξ x1 (wh σ (Zz [br,br,(ε 0)]) σ) ((Zt .i a0 (ε 2)).bind λx2=>(ξ x2 (δ ([x2],σ)) ((Zt .i a0 (ε 3)).bind λx4=>δ ([x4],σ))).bind λr3=>ξ (aj r3.1 0) (wh σ (Zz [br,aT,(ε 0)]) r3.2) ((Zt .i a0 (ε 4)).bind λx5=>ξ x5 (wh σ (Zz [aT,aT,(ε (-1))]) r3.2) ((Zt .i a0 (ε 5)).bind λx6=>ξ x6 (wh σ (Zz [aT,aT,(ε 2)]) r3.2) ((Zt .i a0 (ε 9)).bind λx7=>ξ x7 (wh σ (Zz [br,br,(ε 1)]) r3.2) (wh σ (Zz [aT,aT,(ε 1)]) r3.2)))))
def HM:aq->Heap->aB:=Ξ η [] .k (RV Mq)
def By (rec:Nat->aq->Heap->aB) (a0:AV) (σ:Heap):aB:=(Φ 4 a0).bind λc1=>(Δ 0 c1).bind λx2=>(m9 [x2,(ε 1),(ε 9)] σ).bind λr3=>(ZR r3.1).bind λx4=>ξ x4 (wh σ (ε 4) r3.2) ((Δ 0 c1).bind λx5=>(HM [x5] r3.2).bind λr6=>(Zl 0 r6.1).bind λx7=>(Zl 1 r6.1).bind λx8=>(Zl 2 r6.1).bind λx9=>(ZR x7).bind λaY=>(θ aY η (Δ 1 c1) az).bind λcg=>(θ aY η (Tn .i cg (ε 0)) az).bind λbY=>(ZM aY bY aT).bind λbB=>(θ bB ι (δ x8) az).bind λcI=>(θ bB ι (ZR cI) az).bind λbQ=>(θ bB ι (δ bQ) az).bind λbM=>(θ bM η (Δ 2 c1) az).bind λcv=>(θ bM η (Tn .i cv (ε 0)) az).bind λdw=>(θ bB ι (ZM bM dw aT) az).bind λcx=>(ZM bB br cx).bind λcM=>(θ cM ι (δ x9) az).bind λbO=>(θ cM ι (A.geq bO (ε 0)) az).bind λcj=>(θ cM ι (δ cj) az).bind λcA=>(θ cA η (Δ 3 c1) az).bind λcS=>(θ cA η (ZO cS) az).bind λeU=>(θ cA η (δ x9) az).bind λdz=>(θ cA η (Tn .i eU dz) az).bind λew=>(θ cM ι (ZM cA ew aT) az).bind λgH=>(ZM cM br gH).bind λcU=>(θ cU ι (δ x9) az).bind λgW=>(θ cU ι (ZN gW (ε 0)) az).bind λfN=>(θ cU ι (δ fN) az).bind λgI=>(θ gI η (Δ 3 c1) az).bind λjl=>(θ gI η (ZO jl) az).bind λjm=>(θ gI η (ZN jm (ε 2)) az).bind λkP=>(θ cU ι (ZM gI kP aT) az).bind λiV=>(ZM cU br iV).bind λiE=>ξ iE (wh σ (ε 3) r6.2) ((Δ 0 c1).bind λgJ=>(Zt .i gJ (ε 2)).bind λjo=>(ξ jo (δ ([(Z1 c1),(ε 999)],r6.2)) ((Zt .i gJ (ε 3)).bind λlW=>(ξ lW (δ ([(Z1 c1),(ε 999)],r6.2)) (δ ([(Z1 c1),(ε 9999)],r6.2))).bind λmF=>δ ([(aj mF.1 0),(aj mF.1 1)],mF.2))).bind λiC=>((Z2 (aj iC.1 0)).bind λ_=>δ (1)).bind λp43=>(θ x7 η ((Z2 (aj iC.1 0)).bind λFC=>Δ p43 FC) az).bind λmI=>(θ x7 η (δ (aj iC.1 1)) az).bind λpM=>(θ x7 η (Zu (m9 [mI,(ε 1),pM] iC.2) iC.2) az).bind λkQ=>(θ x7 η (ZR kQ) az).bind λqm=>(ZM x7 qm aT).bind λmJ=>(θ mJ ι (δ x8) az).bind λm6=>(θ mJ ι (δ m6) az).bind λga=>((Z2 (aj iC.1 0)).bind λ_=>δ (2)).bind λp52=>(θ ga η ((Z2 (aj iC.1 0)).bind λFH=>Δ p52 FH) az).bind λpN=>(θ ga η (Zu (m9 [pN,(ε 1),(ε 9999)] iC.2) iC.2) az).bind λoO=>(θ ga η (ZR oO) az).bind λmK=>(θ mJ ι (ZM ga mK aT) az).bind λnU=>(ZM mJ br nU).bind λsu=>ξ su (wh σ (ε 1) iC.2) (((Z2 (aj iC.1 0)).bind λ_=>δ (3)).bind λp59=>((Z2 (aj iC.1 0)).bind λC0=>Δ p59 C0).bind λqn=>(ZO qn).bind λqo=>(Zo (λfZ lU=>(ZN (aj fZ 1) qo).bind λsw=>ξ sw ((Zp 4 qn (aj fZ 1)).bind λqq=>((Γ qq lU).bind λAD=>Z0 0 4 AD).bind λqt=>(Φ 4 qt).bind λyL=>(Zv 0 yL [(ε 0),(ε 0),(ε 0),ZK]).bind λoZ=>(Z0 0 4 oZ).bind λoP=>(rec 48 [oP] lU).bind λJS=>(Tn .i JS.1 (ε 0)).bind λqu=>ξ qu (δ (Ω,[JS.1,(aj fZ 1)],JS.2)) ((Zn (aj fZ 1) (ε 1)).bind λm8=>δ (Λ,[(aj fZ 0),m8],JS.2))) (δ (φ 1,[(aj fZ 0),(aj fZ 1)],lU))) [(ε 0),(ε 0)] iC.2).bind λm4=>bif m4.1==φ 1 then(wh σ (ε 0) m4.2.2)else bif m4.1==Ω then(wh σ (aj m4.2.1 0) m4.2.2)else μ)))
def Bx (rec:Nat->aq->Heap->aB):List (Nat×(aq->Heap->aB)):=[(48,Ξ η [fK] .k (RV (By rec)))]
def KD:aq->Heap->aB:=fuel (Bx) 2000000 48
def L9 (a0:AV) (σ:Heap):aB:=(Φ 4 a0).bind λc1=>(Z0 0 4 c1).bind λx2=>(L2 [x2,(ε 1)] σ).bind λr3=>(Zl 0 r3.1).bind λx4=>(Zl 1 r3.1).bind λx5=>(Zx x4 (ε 200)).bind λx6=>(θ x6 ι (δ x5) az).bind λx7=>(θ x6 ι (Zx x7 (ε 12)) az).bind λx8=>(ZM x6 br x8).bind λx9=>ξ x9 (wh σ (ε 2) r3.2) ((Z0 0 4 c1).bind λaY=>(KD [aY] r3.2).bind λdV=>wh σ dV.1 dV.2)
def HA:aq->Heap->aB:=Ξ η [fK] .k (RV L9)
def B1 (rec:Nat->aq->Heap->aB) (a0 a1:AV) (σ:Heap):aB:=(Φ 4 a0).bind λc1=>(Δ 0 c1).bind λx2=>(Zt .i x2 a1).bind λx3=>(ξ x3 ((Δ 1 c1).bind λx5=>((((ZS x5).bind λv=>δ [v]).bind λc6=>(Zv 0 c6 [(ε 0)]).bind λc7=>δ c7).bind λcs=>δ (U0 1 (dW 1 1 cs))).bind λx8=>(ZI 1 (140737488355328 / 8) ZK x8 σ).bind λr9=>δ ([(Z1 c1),r9.1],r9.2)) (δ ([(Z1 c1),ZK],σ))).bind λr4=>((Z2 (aj r4.1 0)).bind λ_=>δ (3)).bind λp10=>((Z2 (aj r4.1 0)).bind λdI=>Δ p10 dI).bind λbY=>(ZO bY).bind λbB=>(Zo (λDq yY=>(ZN (aj Dq 1) bB).bind λcv=>ξ cv ((Zp 4 bY (aj Dq 1)).bind λdw=>((Γ dw yY).bind λlN=>Z0 0 4 lN).bind λcM=>(Φ 4 cM).bind λlO=>(Zv 0 lO [(ε 0),(ε 0),(ε 0),ZK]).bind λlP=>(Z0 0 4 lP).bind λcA=>(rec 50 [cA,a1] yY).bind λsP=>(ZI 1 (140737488355328 / 8) (aj Dq 0) sP.1 sP.2).bind λoL=>(Zn (aj Dq 1) (ε 1)).bind λdz=>δ (Λ,[oL.1,dz],oL.2)) (δ (φ 0,[(aj Dq 0),(aj Dq 1)],yY))) [(aj r4.1 1),(ε 0)] r4.2).bind λjO=>bif jO.1==φ 0 then(wh σ (aj jO.2.1 0) jO.2.2)else μ
def BV (rec:Nat->aq->Heap->aB):List (Nat×(aq->Heap->aB)):=[(50,Ξ η [fK] (.s 1) (T3 (B1 rec)))]
def uy:aq->Heap->aB:=fuel (BV) 2000000 50
def Lh (a0 a1:AV) (σ:Heap):aB:=(ZO a0).bind λx1=>(Zo (λv2 s3=>(ZN (aj v2 2) x1).bind λx5=>ξ x5 ((Zp 5 a0 (aj v2 2)).bind λx6=>((Γ x6 s3).bind λc7=>Z0 0 5 c7).bind λx8=>(Φ 5 x8).bind λc9=>(Zv 0 c9 [(ε 0),(ε 0),(ε 0),(ε 0),ZK]).bind λgy=>(Δ 0 gy).bind λcg=>(Zt .i cg a1).bind λbY=>ξ bY ((Z0 0 5 gy).bind λbB=>(Z2 (aj v2 0)).bind λiQ=>(Φ 5 bB).bind λgB=>(Zv 0 gB iQ).bind λfS=>δ (Ω,[(Z1 fS),br,(aj v2 2)],s3)) ((Zn (aj v2 2) (ε 1)).bind λcv=>δ (Λ,[(aj v2 0),(aj v2 1),cv],s3))) (δ (φ 0,[(aj v2 0),(aj v2 1),(aj v2 2)],s3))) [(Z1 [(ε 0),(ε 0),(ε 0),(ε 0),ZK]),aT,(ε 0)] σ).bind λdr=>bif dr.1==φ 0 then((Z2 (aj dr.2.1 0)).bind λlO=>(Φ 5 (Y8 [(ε 0),(ε 0),(ε 0),(ε 0),ZK])).bind λlN=>(Zv 0 lN lO).bind λgD=>(Z0 0 5 gD).bind λcj=>wh σ (Zz [cj,aT]) dr.2.2)else bif dr.1==Ω then(((Z2 (aj dr.2.1 0)).bind λfT=>Z0 0 5 fT).bind λcA=>wh σ (Zz [cA,(aj dr.2.1 1)]) dr.2.2)else μ
def uu:aq->Heap->aB:=Ξ η [(.s 5)] (.t [(.a [.k,.k,.k,.k,(.s 4)]),.k]) (T3 Lh)
def Li (a0 a1:AV) (σ:Heap):aB:=((((ZS a1).bind λv=>δ [v]).bind λc1=>(Zv 0 c1 [(ε 0)]).bind λc2=>δ c2).bind λcs=>δ (U0 1 (dW 1 1 cs))).bind λx3=>A.ve x3 λz4 wW=>(Zo (λv6 s7=>(ZO (aj v6 1)).bind λx9=>(Zx x9 (ε 0)).bind λaY=>ξ aY ((Zp 1 (aj v6 1) (ε 0)).bind λcg=>((Γ cg s7).bind λb9=>Δ 0 b9).bind λbB=>(uu [a0,bB] s7).bind λb8=>(Zl 0 b8.1).bind λbQ=>(Zl 1 b8.1).bind λbM=>(Φ 5 bQ).bind λjM=>(Zv 0 jM [(ε 0),(ε 0),(ε 0),(ε 0),ZK]).bind λgC=>(A.gQ 1 (aj v6 1) (δ (ε 1)) μ b8.2).bind λcx=>(Z0 1 4 gC).bind λcM=>(uy [cM,(ε 2)] b8.2).bind λcD=>(ZO cD.1).bind λcj=>(Zo (λgh uc=>(ZN (aj gh 2) cj).bind λdz=>ξ dz ((Zp 1 cD.1 (aj gh 2)).bind λew=>((Γ ew uc).bind λrN=>Δ 0 rN).bind λcU=>(lB [(aj gh 0),cU] uc).bind λfC=>(ZR fC.1).bind λfN=>(ξ fN (((((ZS cU).bind λv=>δ [v]).bind λjd=>(Zv 0 jd [(ε 0)]).bind λp9=>δ p9).bind λcs=>δ (U0 1 (dW 1 1 cs))).bind λkP=>(ZI 1 (140737488355328 / 8) (aj gh 0) kP fC.2).bind λjh=>((((ZS cU).bind λv=>δ [v]).bind λwO=>(Zv 0 wO [(ε 0)]).bind λwP=>δ wP).bind λcs=>δ (U0 1 (dW 1 1 cs))).bind λjo=>(ZI 1 (140737488355328 / 8) (aj gh 1) jo jh.2).bind λiC=>δ ([jh.1,iC.1],iC.2)) (δ ([(aj gh 0),(aj gh 1)],fC.2))).bind λr32=>(Zn (aj gh 2) (ε 1)).bind λlW=>δ (Λ,[(aj r32.1 0),(aj r32.1 1),lW],r32.2)) (δ (φ 2,[(aj gh 0),(aj gh 1),(aj gh 2)],uc))) [(aj v6 0),cx,(ε 0)] cD.2).bind λmF=>bif mF.1==φ 2 then(δ (Λ,[(aj mF.2.1 0),(aj mF.2.1 1)],mF.2.2))else μ) (δ (φ 0,[(aj v6 0),(aj v6 1)],s7))) [ZK,(AV.os σ.length wW.length z4 0 wW.length)] (σ++[aP.arr wW.length z4 wW])).bind λrZ=>bif rZ.1==φ 0 then(wh σ (aj rZ.2.1 0) rZ.2.2)else μ
def KV:aq->Heap->aB:=Ξ η [(.s 5)] (.s 1) (T3 Li)
def KA (a0:AV) (σ:Heap):aB:=(ZO a0).bind λx1=>(Zx x1 (ε 200)).bind λx2=>ξ x2 (wh σ (ε 2) σ) ((ZO a0).bind λx3=>(Zo (λv4 s5=>(ZN (aj v4 1) x3).bind λx7=>ξ x7 ((Zp 5 a0 (aj v4 1)).bind λx8=>((Γ x8 s5).bind λc9=>Z0 0 5 c9).bind λaY=>(Φ 5 aY).bind λdI=>(Zv 0 dI [(ε 0),(ε 0),(ε 0),(ε 0),ZK]).bind λb9=>(Δ 0 b9).bind λbB=>(m9 [bB,(ε 1),(ε 999)] s5).bind λb8=>(ZR b8.1).bind λbQ=>ξ bQ (δ (Ω,[(ε 1),(aj v4 1)],b8.2)) ((Zx (aj v4 1) (ε 0)).bind λbM=>(θ bM η (Δ 0 b9) az).bind λcv=>(θ bM η (δ a0) az).bind λdw=>(θ bM η (δ (aj v4 1)) az).bind λcx=>(θ bM η (YR cx (ε 1)) az).bind λcM=>(θ bM η (Zp 5 dw cM) az).bind λbO=>(θ bM η (SN 0 bO) az).bind λcj=>(θ bM η ((Γ cj b8.2).bind λjc=>Δ 0 jc) az).bind λcS=>(θ bM η (Wr cv cS) az).bind λeU=>(ZM bM eU aT).bind λdz=>ξ dz (δ (Ω,[(ε 7),(aj v4 1)],b8.2)) ((Z0 1 4 b9).bind λew=>(HA [ew] b8.2).bind λqN=>(Tn .i qN.1 (ε 0)).bind λcU=>ξ cU (δ (Ω,[qN.1,(aj v4 1)],qN.2)) ((Zn (aj v4 1) (ε 1)).bind λgW=>δ (Λ,[(aj v4 0),gW],qN.2))))) (δ (φ 0,[(aj v4 0),(aj v4 1)],s5))) [(ε 0),(ε 0)] σ).bind λfX=>bif fX.1==φ 0 then((ZO a0).bind λgI=>(Zo (λA6 Dl=>(ZN (aj A6 1) gI).bind λiV=>ξ iV ((Zp 5 a0 (aj A6 1)).bind λiE=>((Γ iE Dl).bind λwP=>Z0 0 5 wP).bind λjo=>(Φ 5 jo).bind λAy=>(Zv 0 Ay [(ε 0),(ε 0),(ε 0),(ε 0),ZK]).bind λrR=>(Z0 1 4 rR).bind λmG=>(uy [mG,(ε 2)] Dl).bind λrZ=>(ZO rZ.1).bind λlX=>(Zo (λA8 Q4=>(ZN (aj A8 1) lX).bind λqm=>ξ qm ((Zp 1 rZ.1 (aj A8 1)).bind λmJ=>((Γ mJ Q4).bind λAB=>Δ 0 AB).bind λga=>(uu [a0,ga] Q4).bind λyV=>(Zl 0 yV.1).bind λnT=>(Zl 1 yV.1).bind λpN=>(Φ 5 nT).bind λPB=>(Zv 0 PB [(ε 0),(ε 0),(ε 0),(ε 0),ZK]).bind λCY=>(ZR pN).bind λnU=>ξ nU (δ (Ω,[(ε 8),(aj A8 1)],yV.2)) ((Zn (aj A8 1) (ε 1)).bind λsu=>δ (Λ,[(aj A8 0),su],yV.2))) (δ (φ 5,[(aj A8 0),(aj A8 1)],Q4))) [(aj A6 0),(ε 0)] rZ.2).bind λDj=>bif Dj.1==φ 5 then((Zn (aj A6 1) (ε 1)).bind λsv=>δ (Λ,[(aj Dj.2.1 0),sv],Dj.2.2))else bif Dj.1==Ω then(δ (Ω,[(aj Dj.2.1 0),(aj A6 1)],Dj.2.2))else μ) (δ (φ 3,[(aj A6 0),(aj A6 1)],Dl))) [(aj fX.2.1 0),(ε 0)] fX.2.2).bind λlq=>bif lq.1==φ 3 then((ZO a0).bind λqo=>(Zo (λfZ lU=>(ZN (aj fZ 1) qo).bind λsw=>ξ sw ((Zp 5 a0 (aj fZ 1)).bind λqq=>((Γ qq lU).bind λAD=>Z0 0 5 AD).bind λqt=>(Φ 5 qt).bind λyL=>(Zv 0 yL [(ε 0),(ε 0),(ε 0),(ε 0),ZK]).bind λoZ=>(Δ 0 oZ).bind λoP=>(Zu (KV [a0,oP] lU) lU).bind λpO=>(Δ 0 oZ).bind λqu=>(Zu (lB [pO,qu] lU) lU).bind λm8=>ξ m8 (δ (Ω,[(ε 11),(aj fZ 1)],lU)) ((Zn (aj fZ 1) (ε 1)).bind λqR=>δ (Λ,[(aj fZ 0),qR],lU))) (δ (φ 7,[(aj fZ 0),(aj fZ 1)],lU))) [(aj lq.2.1 0),(ε 0)] lq.2.2).bind λpJ=>bif pJ.1==φ 7 then(wh σ (ε 0) pJ.2.2)else bif pJ.1==Ω then(wh σ (aj pJ.2.1 0) pJ.2.2)else μ)else bif lq.1==Ω then(wh σ (aj lq.2.1 0) lq.2.2)else μ)else bif fX.1==Ω then(wh σ (aj fX.2.1 0) fX.2.2)else μ)
def Kz:aq->Heap->aB:=Ξ η [(.s 5)] .k (RV KA)
def B2 (rec:Nat->aq->Heap->aB) (a0 a1 a2:AV) (σ:Heap):aB:=(Φ 4 a2).bind λc1=>(Z0 0 4 c1).bind λx2=>(uy [x2,(ε 3)] σ).bind λr3=>(ZO r3.1).bind λx4=>(Zo (λv5 s6=>(ZN (aj v5 2) x4).bind λx8=>ξ x8 ((Zp 1 r3.1 (aj v5 2)).bind λx9=>((Γ x9 s6).bind λgy=>Δ 0 gy).bind λcg=>(BB [a1,cg] s6).bind λiB=>(Zl 0 iB.1).bind λbB=>(Zl 1 iB.1).bind λcI=>(Φ 3 bB).bind λfS=>(Zv 0 fS [(ε 0),cK,ZK]).bind λiQ=>(ZR cI).bind λcv=>ξ cv (δ (Ω,[(aj v5 0),aT,(aj v5 2)],iB.2)) ((Zn (aj v5 2) (ε 1)).bind λdw=>δ (Λ,[(aj v5 0),(aj v5 1),dw],iB.2))) (δ (φ 0,[(aj v5 0),(aj v5 1),(aj v5 2)],s6))) [(Z1 c1),aT,(ε 0)] r3.2).bind λiS=>bif iS.1==φ 0 then(((Z2 (aj iS.2.1 0)).bind λgD=>Z0 0 4 gD).bind λbO=>(uy [bO,(ε 2)] iS.2.2).bind λig=>(ZO ig.1).bind λcA=>(Zo (λv24 Q2=>(ZN (aj v24 1) cA).bind λew=>ξ ew ((Zp 1 ig.1 (aj v24 1)).bind λgH=>((Γ gH Q2).bind λrO=>Δ 0 rO).bind λgW=>(uu [a0,gW] Q2).bind λfX=>(Zl 0 fX.1).bind λgI=>(Zl 1 fX.1).bind λjl=>(Φ 5 gI).bind λp9=>(Zv 0 p9 [(ε 0),(ε 0),(ε 0),(ε 0),ZK]).bind λAv=>(ZR jl).bind λiV=>(θ iV ι (δ a0) az).bind λiE=>(θ iV ι (δ a1) az).bind λgJ=>(θ iV ι (Z0 1 4 Av) az).bind λjo=>(θ iV ι (Zu (rec 95 [iE,gJ,jo] fX.2) fX.2) az).bind λlA=>(θ iV ι (ZR lA) az).bind λlW=>(ZM iV br lW).bind λmG=>ξ mG (δ (Ω,[aT,(aj v24 1)],fX.2)) ((Zn (aj v24 1) (ε 1)).bind λmH=>δ (Λ,[(aj v24 0),mH],fX.2))) (δ (φ 2,[(aj v24 0),(aj v24 1)],Q2))) [(aj iS.2.1 1),(ε 0)] ig.2).bind λtY=>bif tY.1==φ 2 then(wh σ br tY.2.2)else bif tY.1==Ω then(wh σ (aj tY.2.1 0) tY.2.2)else μ)else bif iS.1==Ω then(wh σ (aj iS.2.1 1) iS.2.2)else μ
def zl (rec:Nat->aq->Heap->aB):List (Nat×(aq->Heap->aB)):=[(95,Ξ η [(.s 5),(.s 3),fK] .k (A.i7 (B2 rec)))]
def L1:aq->Heap->aB:=fuel (zl) 2000000 95
def Hj (a0 a1 a2:AV) (σ:Heap):aB:=(Φ 2 a0).bind λc1=>(Δ 1 c1).bind λx2=>(ZO x2).bind λx3=>(Zo (λv4 s5=>(ZN (aj v4 1) x3).bind λx7=>ξ x7 ((Zp 4 x2 (aj v4 1)).bind λx8=>((Γ x8 s5).bind λc9=>Z0 0 4 c9).bind λaY=>(Φ 4 aY).bind λdI=>(Zv 0 dI [(ε 0),cK,(ε 0),(ε 0)]).bind λb9=>(Δ 0 b9).bind λbB=>(A.min a1 a2).bind λcI=>(A.max a1 a2).bind λbQ=>(m9 [bB,cI,bQ] s5).bind λlf=>(ξ lf.1 ((Δ 0 b9).bind λdw=>((((ZS dw).bind λv=>δ [v]).bind λlN=>(Zv 0 lN [(ε 0)]).bind λgD=>δ gD).bind λcs=>δ (U0 1 (dW 1 1 cs))).bind λbO=>(ZI 1 (140737488355328 / 8) (aj v4 0) bO lf.2).bind λig=>δ ([ig.1],ig.2)) (δ ([(aj v4 0)],lf.2))).bind λlg=>(Zn (aj v4 1) (ε 1)).bind λcA=>δ (Λ,[(aj lg.1 0),cA],lg.2)) (δ (φ 0,[(aj v4 0),(aj v4 1)],s5))) [ZK,(ε 0)] σ).bind λsP=>bif sP.1==φ 0 then((Zx a1 a2).bind λeU=>(ξ eU ((vK [(aj sP.2.1 0)] sP.2.2).bind λjO=>δ (([]:aq),jO.2)) (δ (([]:aq),sP.2.2))).bind λA2=>δ ((aj sP.2.1 0),A2.2))else μ
def Hh:aq->Heap->aB:=Ξ η [kY] .k (A.i7 Hj)
def Ca (a0:AV) (σ:Heap):aB:=(ZO a0).bind λx1=>(Zo (λv2 s3=>(ZN (aj v2 1) x1).bind λx5=>ξ x5 ((Zp 1 a0 (aj v2 1)).bind λx6=>((Γ x6 s3).bind λc7=>Δ 0 c7).bind λx8=>(lB [(aj v2 0),x8] s3).bind λr9=>(ZR r9.1).bind λaY=>(ξ aY (((((ZS x8).bind λv=>δ [v]).bind λb9=>(Zv 0 b9 [(ε 0)]).bind λiw=>δ iw).bind λcs=>δ (U0 1 (dW 1 1 cs))).bind λcI=>(ZI 1 (140737488355328 / 8) (aj v2 0) cI r9.2).bind λpH=>δ ([pH.1],pH.2)) (δ ([(aj v2 0)],r9.2))).bind λdV=>(Zn (aj v2 1) (ε 1)).bind λbM=>δ (Λ,[(aj dV.1 0),bM],dV.2)) (δ (φ 0,[(aj v2 0),(aj v2 1)],s3))) [ZK,(ε 0)] σ).bind λlg=>bif lg.1==φ 0 then(δ ((aj lg.2.1 0),lg.2.2))else μ
def D9:aq->Heap->aB:=Ξ η [(.s 1)] .k (RV Ca)
def BK (a0 a1:AV) (σ:Heap):aB:=(ZO a0).bind λx1=>(Zo (λv2 s3=>(ZN (aj v2 1) x1).bind λx5=>ξ x5 ((Zp 1 a0 (aj v2 1)).bind λx6=>((Γ x6 s3).bind λc7=>Δ 0 c7).bind λx8=>(lB [a1,x8] s3).bind λr9=>(ZR r9.1).bind λaY=>(ξ aY (((((ZS x8).bind λv=>δ [v]).bind λb9=>(Zv 0 b9 [(ε 0)]).bind λiw=>δ iw).bind λcs=>δ (U0 1 (dW 1 1 cs))).bind λcI=>(ZI 1 (140737488355328 / 8) (aj v2 0) cI r9.2).bind λpH=>δ ([pH.1],pH.2)) (δ ([(aj v2 0)],r9.2))).bind λdV=>(Zn (aj v2 1) (ε 1)).bind λbM=>δ (Λ,[(aj dV.1 0),bM],dV.2)) (δ (φ 0,[(aj v2 0),(aj v2 1)],s3))) [ZK,(ε 0)] σ).bind λlg=>bif lg.1==φ 0 then(δ ((aj lg.2.1 0),lg.2.2))else μ
def Hi:aq->Heap->aB:=Ξ η [(.s 1),(.s 1)] .k (T3 BK)
def BJ (a0 a1 a2:AV) (σ:Heap):aB:=(ZO a0).bind λx1=>(Zo (λv2 s3=>(ZN (aj v2 1) x1).bind λx5=>ξ x5 ((Zp 1 a0 (aj v2 1)).bind λx6=>((Γ x6 s3).bind λc7=>Δ 0 c7).bind λx8=>(Zn (aj v2 1) (ε 1)).bind λx9=>(A.geq x9 a2).bind λaY=>(θ aY η (δ (aj v2 1)) az).bind λcg=>(θ aY η (Zn cg (ε 1)) az).bind λbY=>(θ aY η (δ a2) az).bind λbB=>(θ aY η (YR bY bB) az).bind λcI=>(θ aY η (δ a1) az).bind λbQ=>(θ aY η (A.rem cI bQ) az).bind λbM=>(θ aY η (Zt .i bM (ε 0)) az).bind λcv=>(ZM aY cv aT).bind λdw=>(ξ dw (((((ZS x8).bind λv=>δ [v]).bind λgD=>(Zv 0 gD [(ε 0)]).bind λlO=>δ lO).bind λcs=>δ (U0 1 (dW 1 1 cs))).bind λcj=>(ZI 1 (140737488355328 / 8) (aj v2 0) cj s3).bind λcq=>δ ([cq.1],cq.2)) (δ ([(aj v2 0)],s3))).bind λiS=>(Zn (aj v2 1) (ε 1)).bind λcS=>δ (Λ,[(aj iS.1 0),cS],iS.2)) (δ (φ 0,[(aj v2 0),(aj v2 1)],s3))) [ZK,(ε 0)] σ).bind λoL=>bif oL.1==φ 0 then(δ ((aj oL.2.1 0),oL.2.2))else μ
def BH:aq->Heap->aB:=Ξ η [(.s 1)] .k (A.i7 BJ)
def DQ (rec:Nat->aq->Heap->aB) (a0 a1 a2 a3:AV) (σ:Heap):aB:=(Φ 2 a0).bind λc1=>(Φ 4 a3).bind λc2=>(Δ 3 c2).bind λx3=>(ZO x3).bind λx4=>(Zo (λv5 s6=>(ZN (aj v5 3) x4).bind λx8=>ξ x8 ((Zp 4 x3 (aj v5 3)).bind λx9=>((Γ x9 s6).bind λgy=>Z0 0 4 gy).bind λcg=>(Φ 4 cg).bind λb9=>(Zv 0 b9 [(ε 0),(ε 0),(ε 0),ZK]).bind λiw=>((Z2 (aj v5 0)).bind λgB=>Z0 0 2 gB).bind λbQ=>(Z0 0 4 iw).bind λbM=>(rec 100 [bQ,a1,a2,bM] s6).bind λlg=>((((ZS lg.1).bind λv=>δ [v]).bind λgC=>(Zv 0 gC [ZK]).bind λlN=>δ lN).bind λcs=>δ (U0 1 (dW 1 1 cs))).bind λcM=>(ZI 1 (140737488355328 / 24) (aj v5 2) cM lg.2).bind λcD=>(Zn (aj v5 3) (ε 1)).bind λcj=>δ (Λ,[(aj v5 0),(aj v5 1),cD.1,cj],cD.2)) (δ (φ 0,[(aj v5 0),(aj v5 1),(aj v5 2),(aj v5 3)],s6))) [(Z1 c1),(Z1 c2),ZK,(ε 0)] σ).bind λcq=>bif cq.1==φ 0 then(((Z2 (aj cq.2.1 1)).bind λ_=>δ (0)).bind λQG=>((Z2 (aj cq.2.1 1)).bind λjG=>Δ QG jG).bind λdz=>(Zt .i dz (ε 1)).bind λew=>ξ ew (((Z2 (aj cq.2.1 0)).bind λrN=>Z0 0 2 rN).bind λcU=>((Z2 (aj cq.2.1 1)).bind λ_=>δ (1)).bind λQJ=>((Z2 (aj cq.2.1 1)).bind λrQ=>Δ QJ rQ).bind λgI=>((Z2 (aj cq.2.1 1)).bind λ_=>δ (2)).bind λQL=>((Z2 (aj cq.2.1 1)).bind λp9=>Δ QL p9).bind λkP=>(Hh [cU,gI,kP] cq.2.2).bind λjh=>δ (jh.1,jh.2)) ((Zt .i dz (ε 2)).bind λiE=>ξ iE (((Z2 (aj cq.2.1 1)).bind λ_=>δ (1)).bind λQN=>((Z2 (aj cq.2.1 1)).bind λAx=>Δ QN Ax).bind λlA=>(uu [a1,lA] cq.2.2).bind λpI=>(Zl 0 pI.1).bind λmG=>(Zl 1 pI.1).bind λmH=>(Φ 5 mG).bind λFC=>(Zv 0 FC [(ε 0),(ε 0),(ε 0),(ε 0),ZK]).bind λFD=>((Z2 (aj cq.2.1 0)).bind λAA=>Z0 0 2 AA).bind λkQ=>(Z0 1 4 FD).bind λqm=>(rec 100 [kQ,a1,a2,qm] pI.2).bind λvF=>δ (vF.1,vF.2)) ((Zt .i dz (ε 3)).bind λm6=>ξ m6 (((Z2 (aj cq.2.1 1)).bind λ_=>δ (1)).bind λp51=>((Z2 (aj cq.2.1 1)).bind λFG=>Δ p51 FG).bind λnT=>(BB [a2,nT] cq.2.2).bind λyW=>(Zl 0 yW.1).bind λoO=>(Zl 1 yW.1).bind λmK=>(Φ 3 oO).bind λwQ=>(Zv 0 wQ [(ε 0),cK,ZK]).bind λCZ=>(Δ 2 CZ).bind λm7=>(ZO m7).bind λsv=>(Zo (λDs Q7=>(ZN (aj Ds 1) sv).bind λBe=>ξ Be ((Zp 3 m7 (aj Ds 1)).bind λqp=>((Γ qp Q7).bind λPF=>Z0 0 3 PF).bind λqq=>(Φ 3 qq).bind λAD=>(Zv 0 AD [(ε 0),cK,(ε 0)]).bind λPG=>(Δ 0 PG).bind λuf=>((((ZS uf).bind λv=>δ [v]).bind λoZ=>(Zv 0 oZ [(ε 0)]).bind λc72=>δ c72).bind λcs=>δ (U0 1 (dW 1 1 cs))).bind λpO=>(ZI 1 (140737488355328 / 8) (aj Ds 0) pO Q7).bind λlT=>(Zn (aj Ds 1) (ε 1)).bind λm8=>δ (Λ,[lT.1,m8],lT.2)) (δ (φ 3,[(aj Ds 0),(aj Ds 1)],Q7))) [ZK,(ε 0)] yW.2).bind λm4=>bif m4.1==φ 3 then((D9 [(aj m4.2.1 0)] m4.2.2).bind λpJ=>δ (pJ.1,pJ.2))else μ) ((Zt .i dz (ε 4)).bind λRm=>ξ Rm ((Bs [(aj cq.2.1 2)] cq.2.2).bind λZc=>(D9 [Zc.1] Zc.2).bind λji=>δ (ji.1,ji.2)) ((Zt .i dz (ε 5)).bind λBg=>ξ Bg ((Zp 1 (aj cq.2.1 2) (ε 0)).bind λGM=>((Γ GM cq.2.2).bind λc83=>Δ 0 c83).bind λsS=>(Zp 1 (aj cq.2.1 2) (ε 1)).bind λxz=>((Γ xz cq.2.2).bind λPK=>Δ 0 PK).bind λRn=>(Hi [sS,Rn] cq.2.2).bind λZe=>δ (Ze.1,Ze.2)) ((Zt .i dz (ε 6)).bind λBi=>ξ Bi ((Zp 1 (aj cq.2.1 2) (ε 0)).bind λGO=>((Γ GO cq.2.2).bind λc91=>Δ 0 c91).bind λBj=>(BH [Bj,(ε 2),(ε 1)] cq.2.2).bind λA3=>δ (A3.1,A3.2)) ((Zt .i dz (ε 7)).bind λuj=>ξ uj ((Zp 1 (aj cq.2.1 2) (ε 0)).bind λRo=>((Γ Ro cq.2.2).bind λPN=>Δ 0 PN).bind λGP=>(BH [GP,(ε 2),(ε 2)] cq.2.2).bind λZf=>δ (Zf.1,Zf.2)) ((Zt .i dz (ε 9)).bind λuk=>ξ uk ((Zp 1 (aj cq.2.1 2) (ε 0)).bind λFh=>((Γ Fh cq.2.2).bind λahU=>Δ 0 ahU).bind λyI=>((Z2 (aj cq.2.1 1)).bind λ_=>δ (1)).bind λOK=>((Z2 (aj cq.2.1 1)).bind λN1=>Δ OK N1).bind λsI=>((Z2 (aj cq.2.1 1)).bind λ_=>δ (2)).bind λajq=>((Z2 (aj cq.2.1 1)).bind λahX=>Δ ajq ahX).bind λFj=>(BH [yI,sI,Fj] cq.2.2).bind λvg=>δ (vg.1,vg.2)) ((Zp 1 (aj cq.2.1 2) (ε 0)).bind λpY=>((Γ pY cq.2.2).bind λN4=>Δ 0 N4).bind λO2=>(vK [O2] cq.2.2).bind λoC=>(Zp 1 (aj cq.2.1 2) (ε 0)).bind λFk=>((Γ Fk oC.2).bind λahY=>Δ 0 ahY).bind λFl=>δ (Fl,oC.2))))))))))else μ
def BE (rec:Nat->aq->Heap->aB):List (Nat×(aq->Heap->aB)):=[(100,Ξ η [kY,(.s 5),(.s 3),fK] .k (A.oF (DQ rec)))]
def KU:aq->Heap->aB:=fuel (BE) 2000000 100
def SU (a0 a1 a2 a3:AV) (σ:Heap):aB:=(Φ 2 a0).bind λc1=>(Φ 4 a3).bind λc2=>(Z0 0 2 c1).bind λx3=>(Kt [x3,a2] σ).bind λr4=>(Tn .i r4.1 (ε 0)).bind λx5=>ξ x5 (wh σ (Zz [ZK,r4.1]) r4.2) ((Kz [a1] r4.2).bind λr6=>(Tn .i r6.1 (ε 0)).bind λx7=>ξ x7 (wh σ (Zz [ZK,r6.1]) r6.2) ((Z0 0 4 c2).bind λx8=>(HA [x8] r6.2).bind λr9=>(Tn .i r9.1 (ε 0)).bind λaY=>ξ aY (wh σ (Zz [ZK,r9.1]) r9.2) ((Z0 0 4 c2).bind λcg=>(L1 [a1,a2,cg] r9.2).bind λiB=>(ZR iB.1).bind λbB=>ξ bB (wh σ (Zz [ZK,(ε 8)]) iB.2) ((Z0 0 2 c1).bind λcI=>(Z0 0 4 c2).bind λbQ=>(KU [cI,a1,a2,bQ] iB.2).bind λlf=>wh σ (Zz [lf.1,(ε 0)]) lf.2))))
def L0:aq->Heap->aB:=Ξ η [kY,(.s 5),(.s 3),fK] (.t [(.s 1),.k]) (A.oF SU)
end
section
def J9 (a0 a1 a2 a3:AV) (σ:Heap):aB:=(Φ 2 a0).bind λc1=>(Φ 4 a3).bind λc2=>(Z0 0 2 c1).bind λx3=>(Z0 0 4 c2).bind λx4=>(KW [x3,a1,a2,x4] σ).bind λr5=>(Zl 0 r5.1).bind λx6=>(Zl 1 r5.1).bind λx7=>(Z0 0 2 c1).bind λx8=>(Z0 0 4 c2).bind λx9=>(L0 [x8,a1,a2,x9] r5.2).bind λfH=>(Zl 0 fH.1).bind λcg=>(Zl 1 fH.1).bind λbY=>(Kl [x6,cg] fH.2).bind λqi=>(θ qi.1 η (δ x7) az).bind λcI=>(θ qi.1 η (δ bY) az).bind λbQ=>(θ qi.1 η (Zt .i cI bQ) az).bind λbM=>(ZM qi.1 bM aT).bind λcv=>wh σ cv qi.2
def aoT:aq->Heap->aB:=Ξ η [kY,(.s 5),(.s 3),fK] .k (A.oF J9)
end
section
open Go.RowKit
theorem nu.same{P:Program}{nm:List Nat}{f:FuncId}{args:aq}{σ:Heap}{r:AV}(hc:∀us w,(callFunc f us).run P w=.ok (.enter f us) w)
  (h:∀(c:RC)(vs:Array Value)(w:World),aN c args vs.toList->Calls P f vs w λe w'=>∃v,e=.returned v/\Below w.heap.size w w'/\∀c',an c' r v):nu P nm f args σ r σ:=by
 refine .inl ⟨f,hc,λz vs e1 e2 hh ha=>(h _ vs z.w ha).mono ?_⟩;rintro e w' ⟨v,k1,k2,k3⟩;have ho:Out z z.w z.E:=⟨rfl,rfl,rfl,bR _,λ_ _ _=>rfl,λi p hp=>.inr ⟨p,hp,rfl⟩,λi p hp=>⟨p,hp,.inl rfl⟩,e2,λp hp=>hh.lt hp⟩
 exact⟨v,z.E,k1,ho.grow k2,hh.mono (uE k2) rfl (λp hp=>k2.block _ (hh.lt hp)),k3 _⟩
theorem I5{c:RC}{a:AV}{vs:Array Value}(h:aN c [a] vs.toList):∃v,vs=#[v]/\an c a v:=by simp only[aN]at h;obtain⟨v,vs',e,h1,e2⟩:=h;refine⟨v,?_,h1⟩;subst e2;cases vs;simp at e;simp [e]
theorem ahL{c:RC}{a b:AV}{vs:Array Value}(h:aN c [a,b] vs.toList):∃v u,vs=#[v,u]/\an c a v/\an c b u:=by simp only[aN]at h;obtain⟨v,vs',e,h1,u,vs2,e2,h2,e3⟩:=h;refine⟨v,u,?_,h1,h2⟩;subst e3;subst e2;cases vs;simp at e;simp [e]
theorem anj:Sound Try.prog aI 67 Ku:=by
 intro args σ r σ' h;unfold Ku T3 at h;split at h
 ·simp only at h;split at h
  ·simp only[ψ,ir]at h;obtain⟨rfl,rfl⟩:=h;refine nu.same Try.call67 λc vs w hr=>?_
   obtain⟨v,u,rfl,h1,h2⟩:=ahL hr;simp only[an]at h1 h2;subst h1 h2;refine(Try.strings_Compare _ _ w).mono ?_;rintro e w' ⟨rfl,rfl⟩;exact⟨_,rfl,Below.refl _ _,λc'=>by simp [an]⟩
  ·cases h
 ·cases h
end
section
open Go.RowKit
theorem abT{P:Program}{nm:List Nat}{f:FuncId}{m0:aq->Heap->aB}(h0:Sound P nm f m0)(hc:∀us w,(callFunc f us).run P w=.ok (.enter f us) w)
  (hz:∀a cap w,Calls P f #[.slice a 0 cap] w λe w'=>∃q,e=.returned (.slice q 0 0)/\Below w.heap.size w w'):Sound P nm f (A.IG m0):=by
 intro args σ r σ' h;unfold A.IG at h;split at h
 ·simp only[ψ,ir]at h;obtain⟨rfl,rfl⟩:=h;refine nu.same hc λc vs w hr=>?_
  obtain⟨v,rfl,h1⟩:=I5 hr;simp only[an]at h1;obtain⟨a,cap,rfl,_⟩:=h1;refine(hz _ _ w).mono ?_;rintro e w' ⟨q,rfl,hb⟩;exact⟨_,rfl,hb,λc'=>by simp [an]⟩
 ·simp only[ψ,ir]at h;obtain⟨rfl,rfl⟩:=h;refine nu.same hc λc vs w hr=>?_
  obtain⟨v,rfl,h1⟩:=I5 hr;simp only[an]at h1;subst h1;refine(hz _ _ w).mono ?_;rintro e w' ⟨q,rfl,hb⟩;exact⟨_,rfl,hb,λc'=>by simp [an]⟩
 ·simp only[ψ,ir]at h;obtain⟨rfl,rfl⟩:=h;refine nu.same hc λc vs w hr=>?_
  obtain⟨v,rfl,h1⟩:=I5 hr;simp only[an]at h1;obtain⟨a,rfl⟩:=h1;refine(hz _ _ w).mono ?_;rintro e w' ⟨q,rfl,hb⟩;exact⟨_,rfl,hb,λc'=>by simp [an]⟩
 ·simp only[ψ,ir]at h;obtain⟨rfl,rfl⟩:=h;refine nu.same hc λc vs w hr=>?_
  obtain⟨v,rfl,h1⟩:=I5 hr;simp only[an]at h1;obtain⟨_,p,_,_,a,cap,rfl,_⟩:=h1;refine(hz _ _ w).mono ?_;rintro e w' ⟨q,rfl,hb⟩;exact⟨_,rfl,hb,λc'=>by simp [an]⟩
 ·exact h0 _ _ _ _ h
theorem Vh{P:Program}{t e:TypeId}(ht:P.underlying t=δ (.slice e))(a:Option Addr)(n m:Nat)(w:World):TV P (binOp .eql t (.slice a n m) (.slice μ 0 0)) w=.ok (.bool a.isNone) w:=by simp [binOp,show(Op.equal t (.slice a n m) (.slice μ 0 0)).run P w=.ok a.isNone w from Wm w 9999 t a n m ht]
theorem agF(a:Option Addr)(cap:Nat)(w:World):Calls Try.prog 45 #[.slice a 0 cap] w λe w'=>∃q,e=.returned (.slice q 0 0)/\Below w.heap.size w w':=by
 go_enter Try.func45,Try.ntmps45
 cases a
 ·go_wp2_with (simp only[Vh (Try.underlying23),apG,Yl])
  go_ret
  exact⟨_,rfl,Below.refl _ _⟩
 ·go_wp2_with (simp only[Vh (Try.underlying23),Option.isNone_some,Yl])
  go_ret
  exact⟨_,rfl,(Below.refl _ _).alloc (bR _) _⟩
end
section
theorem adk:Sound Try.prog aI 86 L3:=q1 [] 35 (.s .n (.s (.s .n (.b (.l [2,7] [.exit 0,.ret] (.s .n (.s bP (.s (.b (.s .n (.s .n bF))) .n)))))) aW)) Z7 Try.func86 Try.call86 (λa0 σ=>by kernel_rfl) rfl rfl
theorem aok:Sound Try.prog aI 80 DU:=q1 [] 20 (.s .n aW) (Ψ adk Z7) Try.func80 Try.call80 (λa0 σ=>by kernel_rfl) rfl rfl
theorem zh:Sound Try.prog aI 17 jP:=q3 [] 15 (.s .n aW) Z7 Try.func17 Try.call17 (λa0 a1 a2 σ=>by kernel_rfl) rfl rfl
theorem Ry:Sound Try.prog aI 81 DE:=q1 [] 5 (.s .n aW) (Ψ zh Z7) Try.func81 Try.call81 (λa0 σ=>by kernel_rfl) rfl rfl
theorem anG:Sound Try.prog aI 82 Kf:=q1 [5] 63 (.s .n (.s bF (.s .n (.s (.s .n (.b (.l [2,12] [.exit 0,.ret] (.s .n (.s bP (.s (.b (.s .n (.s (.b (.s .n (.j aW (.s .n (.j aW (.s .n (.j aW bF))))))) .n))) .n)))))) aW)))) (Ψ Ry (Ψ aok Z7)) Try.func82 Try.call82 (λa0 σ=>by kernel_rfl) rfl rfl
theorem anM:Sound Try.prog aI 75 Kb:=q1 [1,6] 115 (.s .n (.s (.b (.s .n (.j aW (.s .n (.j aW (.s .n (.j aW bF))))))) (.s .n (.s (.s .n (.b (.l [1,2,33] [.exit 1,.ret] (.s .n (.s bP (.s (.b (.s .n (.s (.b (.s .n (.j aW (.s .n (.j aW (.s .n (.j aW (.s .n (.j aW bF))))))))) (.s (.s .n bF) (.s .n (.s .n (.c [1] .n .n))))))) .n)))))) aW)))) (Ψ aok (Ψ zh (Ψ Ry (Ψ anG Z7)))) Try.func75 Try.call75 (λa0 σ=>by kernel_rfl) rfl rfl
theorem anN:Sound Try.prog aI 61 Ka:=q1 [5] 30 (.s .n (.s bF (.s .n (.s (.s .n (.b (.l [2,13] [.exit 0,.ret] (.s .n (.s bP (.s (.b (.s .n (.s (.s .n bF) (.s bF .n)))) .n)))))) aW)))) (Ψ anM Z7) Try.func61 Try.call61 (λa0 σ=>by kernel_rfl) rfl rfl
def am8 (dyn:Nat->aq->Heap->aB):Fx:=⟨Try.prog,aI,Z5 (λ_ _=>μ) [],dyn,[],[],19,[]⟩
theorem adr(dyn:Nat->aq->Heap->aB)(hd:∀f,Sound Try.prog aI f (dyn (aI.getD f 0))):Sound Try.prog aI 76 (Ξ η [(.s 3)] .k (T3 (GV dyn))):=
 Z6 (Su (X:=am8 dyn) (fn:=Try.f76) (bK:=(.s .n (.s (.s .n (.b (.l [4,8] [.exit 0,.ret] (.s .n (.s bP (.s (.b (.s .n bF)) .n)))))) aW))) .F trivial (Tw rfl Z7 (hd)) Try.func76 Try.call76 (λa0 a1 σ=>by kernel_rfl)) _ _ _ rfl rfl
theorem anI(dyn:Nat->aq->Heap->aB)(hd:∀f,Sound Try.prog aI f (dyn (aI.getD f 0))):Sound Try.prog aI 76 (GU dyn):=adr dyn hd
theorem aoA:Sound Try.prog aI 77 Dz:=q2 [2] 8 (.s .n aW) Z7 Try.func77 Try.call77 (λa0 a1 σ=>by kernel_rfl) rfl rfl
def anl:Fx:=⟨Try.prog,aI,Z5 (λ_ _=>μ) [(76,GU (Z5 (λ_ _=>μ) [(64,Dz)]))],(Z5 (λ_ _=>μ) [(64,Dz)]),[4],[],17,[]⟩
theorem anc:Sound Try.prog aI 62 (Ξ η [(.s 3)] (.t [(.a [.k,.k,(.e 7 rG)]),.k]) (T3 (G4))):=
 Z6 (Su (X:=anl) (fn:=Try.f62) (bK:=(.s .n (.s .n (.s bF aW)))) .F trivial (Tw rfl (Ψ (anI _ (vZ (WZ (nW aoA (by kernel_rfl) rfl) RN))) Z7) (vZ (WZ (nW aoA (by kernel_rfl) rfl) RN))) Try.func62 Try.call62 (λa0 a1 σ=>by kernel_rfl)) _ _ _ rfl rfl
theorem Rz:Sound Try.prog aI 62 G3:=anc
theorem anb:Sound Try.prog aI 63 Bq:=q3 [] 32 (.s .n (.s bF (.s (.s .n (.b (.l [6,7] [.exit 0,.ret] (.s (.s .n bP) (.s (.b bF) .n))))) aW))) Z7 Try.func63 Try.call63 (λa0 a1 a2 σ=>by kernel_rfl) rfl rfl
def aaI:Fx:=⟨Try.prog,aI,Z5 (λ_ _=>μ) [],(λ_ _ _=>μ),[4],[15],33,[]⟩
theorem aaG:Sound Try.prog aI 64 (Ξ ι [] .k (A.i7 (DK))):=
 Z6 (aqM (X:=aaI) (fn:=Try.f64) (bK:=(.s .n (.s (.s .n (.c [4] .n .n)) (.s .n (.b (.l [4,6] [.exit 0] (.s (.s .n bP) (.s (.b .n) .n)))))))) .K trivial (Tw rfl Z7 (λ_=>ZG)) Try.func64 Try.call64 (λa0 a1 a2 σ=>by kernel_rfl)) _ _ _ rfl rfl
theorem aaD:Sound Try.prog aI 64 G6:=aaG
theorem Rx:Sound Try.prog aI 37 GZ:=q1 [1,6,7] 91 (.s .n (.s (.s .n bF) (.s bF (.s .n (.s (.s .n (.b (.l [1,2,23] [.exit 0,.ret] (.s .n (.s bP (.s (.b (.s .n (.s bF (.s bF (.s .n (.s bF (.s bF (.s bF .n)))))))) .n)))))) aW))))) (Ψ anN (Ψ zh (Ψ Rz (Ψ anb (Ψ aaD Z7))))) Try.func37 Try.call37 (λa0 σ=>by kernel_rfl) rfl rfl
theorem acr:Sound Try.prog aI 38 LC:=q2 [] 7 (.s .n (.s bF aW)) Z7 Try.func38 Try.call38 (λa0 a1 σ=>by kernel_rfl) rfl rfl
theorem aoZ:Sound Try.prog aI 22 DP:=q1 [] 15 (.s .n (.s (.s .n (.b (.l [2,7] [.exit 0,.ret] (.s .n (.s bP (.s (.b (.s .n bF)) .n)))))) aW)) Z7 Try.func22 Try.call22 (λa0 σ=>by kernel_rfl) rfl rfl
theorem aaC:Sound Try.prog aI 65 KE:=q1 [1,7,8,11] 50 (.s .n (.s (.s .n bF) (.s .n (.s (.s .n (.b (.l [1,5,20] [.exit 0] (.s .n (.s bP (.s (.b (.s .n (.s .n (.s .n (.b (.l [1,5,7,35] [.exit 2] (.s .n (.s bP (.s (.b aW) .n))))))))) .n)))))) aW)))) (Ψ Rx (Ψ Rz Z7)) Try.func65 Try.call65 (λa0 σ=>by kernel_rfl) rfl rfl
theorem aco:Sound Try.prog aI 39 Lz:=q1 [1,7] 24 (.s .n (.s .n (.s .n (.s (.s .n (.b (.l [16] [.exit 0] (.s .n (.s bP (.s (.b aW) .n)))))) aW)))) (Ψ aaC Z7) Try.func39 Try.call39 (λa0 σ=>by kernel_rfl) rfl rfl
theorem abq:Sound Try.prog aI 66 La:=q1 [] 40 (.s .n (.s (.s .n (.b (.l [2,6] [.exit 0,.ret] (.s .n (.s bP (.s (.b (.s .n bF)) .n)))))) aW)) Z7 Try.func66 Try.call66 (λa0 σ=>by kernel_rfl) rfl rfl
theorem abm:Sound Try.prog aI 40 KX:=q1 [] 9 (.s .n aW) (Ψ abq Z7) Try.func40 Try.call40 (λa0 σ=>by kernel_rfl) rfl rfl
theorem aaE:Sound Try.prog aI 41 KG:=q1 [] 5 (.s .n aW) (Ψ zh Z7) Try.func41 Try.call41 (λa0 σ=>by kernel_rfl) rfl rfl
theorem aaQ:Sound Try.prog aI 42 KL:=q2 [2,3] 21 (.s .n (.s bF aW)) (Ψ anj Z7) Try.func42 Try.call42 (λa0 a1 σ=>by kernel_rfl) rfl rfl
theorem ahc:Sound Try.prog aI 23 GY:=q2 [2,8,10] 97 (.s .n (.s (.s .n bF) (.s .n (.s (.s .n (.b (.l [4,26] [.exit 0,.ret] (.s .n (.s bP (.s (.b (.s .n (.s (.b (.s .n (.j aW (.s .n (.j aW (.s .n (.j aW bF))))))) (.s .n (.b (.l [4,8,63] [.exit 3,.ret] (.s .n (.s bP (.s (.b (.s .n (.b (.s .n (.j aW (.s .n (.j aW bF))))))) .n))))))))) .n)))))) aW)))) (Ψ Rx (Ψ acr (Ψ aoZ (Ψ aco (Ψ zh (Ψ abm (Ψ aaE (Ψ aaQ Z7)))))))) Try.func23 Try.call23 (λa0 a1 σ=>by kernel_rfl) rfl rfl
def acB (rec:Nat->aq->Heap->aB):Fx:=⟨Try.prog,aI,Z5 (λ_ _=>μ) [(33,rec 37)],(λ_ _ _=>μ),[1,5],[],30,[]⟩
theorem acy(rec:Nat->aq->Heap->aB)(dG:∀f,Sound Try.prog aI f (rec (aI.getD f 0))):Sound Try.prog aI 33 (Ξ η [fK] .k (RV (BS rec))):=
 Z6 (apI (X:=acB rec) (fn:=Try.f33) (bK:=(.s .n (.s .n (.s (.s .n (.b (.l [2,3,11] [.exit 0] (.s .n (.s bP (.s (.b (.s .n aW)) .n)))))) aW)))) .F trivial (Tw rfl (Ψ (dG 33) Z7) (λ_=>ZG)) Try.func33 Try.call33 (λa0 σ=>by kernel_rfl)) _ _ _ rfl rfl
theorem abX:∀n f,Sound Try.prog aI f (fuel (BP) n (aI.getD f 0)):=
 sX (λrec dG=>(WZ (nW (acy rec dG) (by kernel_rfl) rfl) RN))
theorem acp:Sound Try.prog aI 33 LA:=abX 2000000 33
def abJ (rec:Nat->aq->Heap->aB):Fx:=⟨Try.prog,aI,Z5 (λ_ _=>μ) [(17,jP),(34,rec 38)],(λ_ _ _=>μ),[1,9],[],95,[]⟩
theorem abz(rec:Nat->aq->Heap->aB)(dG:∀f,Sound Try.prog aI f (rec (aI.getD f 0))):Sound Try.prog aI 34 (Ξ η [fK] .k (RV (BL rec))):=
 Z6 (apI (X:=abJ rec) (fn:=Try.f34) (bK:=(.s .n (.s .n (.s (.s .n (.b (.s .n (.j .n (.s (.s .n (.c [1,15] .n .n)) (.j .n (.s (.s .n (.c [1,18] .n .n)) (.j .n (.s (.s .n (.c [1,21] .n (.s .n (.c [1,21] .n .n)))) (.j .n (.s .n (.j .n aW)))))))))))) (.s .n (.s (.s .n (.c [1,6] .n .n)) (.s bF (.s .n (.s (.s .n (.b (.s .n (.c [1,7] .n (.s .n (.c [1,7] .n .n)))))) (.s bF (.s (.s .n (.b (.l [2,85] [.exit 2,.ret] (.s .n (.s bP (.s (.b (.s .n (.s .n bF))) .n)))))) aW))))))))))) .F trivial (Tw rfl (Ψ zh (Ψ (dG 34) Z7)) (λ_=>ZG)) Try.func34 Try.call34 (λa0 σ=>by kernel_rfl)) _ _ _ rfl rfl
theorem aaZ:∀n f,Sound Try.prog aI f (fuel (BF) n (aI.getD f 0)):=
 sX (λrec dG=>(WZ (nW (abz rec dG) (by kernel_rfl) rfl) RN))
theorem abn:Sound Try.prog aI 34 KY:=aaZ 2000000 34
theorem R1:Sound Try.prog aI 18 DO:=q1 [1] 18 (.s .n (.s (.s .n bF) aW)) (Ψ acp (Ψ abn Z7)) Try.func18 Try.call18 (λa0 σ=>by kernel_rfl) rfl rfl
def abL (rec:Nat->aq->Heap->aB) (dyn:Nat->aq->Heap->aB):Fx:=⟨Try.prog,aI,Z5 (λ_ _=>μ) [(30,rec 41)],dyn,[2,5],[],31,[]⟩
theorem abB(rec:Nat->aq->Heap->aB)(dyn:Nat->aq->Heap->aB)(dG:∀f,Sound Try.prog aI f (rec (aI.getD f 0)))(hd:∀f,Sound Try.prog aI f (dyn (aI.getD f 0))):Sound Try.prog aI 30 (Ξ ι [] .k (T3 (zi rec dyn))):=
 Z6 (Su (X:=abL rec dyn) (fn:=Try.f30) (bK:=(.s .n (.s (.s .n (.c [2] .n .n)) (.s .n (.b (.l [23] [.exit 0] (.s .n (.s bP (.s (.b aW) .n))))))))) .K trivial (Tw rfl (Ψ (dG 30) Z7) (hd)) Try.func30 Try.call30 (λa0 a1 σ=>by kernel_rfl)) _ _ _ rfl rfl
theorem aa0(dyn:Nat->aq->Heap->aB)(hd:∀f,Sound Try.prog aI f (dyn (aI.getD f 0))):∀n f,Sound Try.prog aI f (fuel (ur dyn) n (aI.getD f 0)):=
 sX (λrec dG=>(WZ (nW (abB rec dyn dG hd) (by kernel_rfl) rfl) RN))
theorem ao5(dyn:Nat->aq->Heap->aB)(hd:∀f,Sound Try.prog aI f (dyn (aI.getD f 0))):Sound Try.prog aI 30 (xD dyn):=aa0 dyn hd 2000000 30
def ape:Fx:=⟨Try.prog,aI,Z5 (λ_ _=>μ) [],(λ_ _ _=>μ),[],[],18,[]⟩
theorem aai(a0:AV)(i1:IntKind)(o1:Int)(i2 o2:Nat)(i3 o3:Nat)(σ:Heap):nN (ape) .K (.s .n (.c [] .n .n)) Try.f31 [a0,.int i1 o1,.op i2 o2,.op i3 o3] σ=Bw a0 (.int i1 o1) (.op i2 o2) (.op i3 o3) σ:=by kernel_rfl
theorem aan:Sound Try.prog aI 31 (Ξ ι [] .k (A.oF (G5))):=
 Z6 (Sound.aj5 (X:=ape) (fn:=Try.f31) (bK:=(.s .n (.c [] .n .n))) .K trivial (Tw rfl Z7 (λ_=>ZG)) Try.func31 Try.call31 (λargs σ r h=>by
  unfold A.oF G5 at h;split at h
  ·split at h
   ·exact(aai ..).trans h
   ·cases h
  ·cases h)) _ _ _ rfl rfl
theorem RB:Sound Try.prog aI 31 uo:=aan
def acC:Fx:=⟨Try.prog,aI,Z5 (λ_ _=>μ) [(30,xD (Z5 (λ_ _=>μ) [(40,uo)]))],(Z5 (λ_ _=>μ) [(40,uo)]),[],[3,5],22,[]⟩
theorem acz:Sound Try.prog aI 12 (Ξ η [(.s 5)] .k (RV (Ht))):=
 Z6 (apI (X:=acC) (fn:=Try.f12) (bK:=(.s .n (.s .n (.s (.s .n (.b (.l [9] [.exit 0] (.s .n (.s bP (.s (.b (.s .n aW)) .n)))))) aW)))) .F trivial (Tw rfl (Ψ (ao5 _ (vZ (WZ (nW RB (by kernel_rfl) rfl) RN))) Z7) (vZ (WZ (nW RB (by kernel_rfl) rfl) RN))) Try.func12 Try.call12 (λa0 σ=>by kernel_rfl)) _ _ _ rfl rfl
theorem acq:Sound Try.prog aI 12 LB:=acz
def abM:Fx:=⟨Try.prog,aI,Z5 (λ_ _=>μ) [],(λ_ _ _=>μ),[],[12],47,[]⟩
theorem abC:Sound Try.prog aI 13 (Ξ η [] .k (T3 (Lm))):=
 Z6 (Su (X:=abM) (fn:=Try.f13) (bK:=(.s .n (.s .n (.s .n (.s (.b (.l [6] [.exit 0] (.s (.s .n bP) (.b (.s .n (.s .n (.s .n (.b (.l [6,31] [.exit 2] (.s .n (.s bP (.s (.b (.s .n (.s .n (.c [6] aW .n)))) .n)))))))))))) aW))))) .F trivial (Tw rfl Z7 (λ_=>ZG)) Try.func13 Try.call13 (λa0 a1 σ=>by kernel_rfl)) _ _ _ rfl rfl
theorem abp:Sound Try.prog aI 13 KZ:=abC
theorem ano:Sound Try.prog aI 7 G0:=q1 [4,8,14] 90 (.s .n (.s bF (.s (.s .n (.b (.l [2,20] [.exit 0,.ret] (.s .n (.s bP (.s (.b (.s .n (.s bF (.s bF (.s .n bF))))) .n)))))) (.s .n (.s (.s .n (.b (.l [2,53] [.exit 2,.ret] (.s .n (.s bP (.s (.b (.s .n (.s .n (.b (.l [2,62] [.exit 4,.ret] (.s .n (.s bP (.s (.b (.s .n (.s .n bF))) .n)))))))) .n)))))) (.s (.s .n (.b (.l [2,78] [.exit 6,.ret] (.s .n (.s bP (.s (.b (.s .n bF)) .n)))))) aW)))))) (Ψ zh (Ψ R1 (Ψ acq (Ψ abp Z7)))) Try.func7 Try.call7 (λa0 σ=>by kernel_rfl) rfl rfl
def acA:Fx:=⟨Try.prog,aI,Z5 (λ_ _=>μ) [],(λ_ _ _=>μ),[],[],26,[]⟩
theorem acw:Sound Try.prog aI 24 (Ξ η [(.s 1)] .k (RV (zk))):=
 Z6 (apI (X:=acA) (fn:=Try.f24) (bK:=(.s .n (.s .n (.s .n (.s (.s .n (.b (.l [4,10] [.exit 0] (.s .n (.s bP (.s (.b (.s .n (.s .n (.c [4] aW .n)))) .n)))))) aW))))) .K trivial (Tw rfl Z7 (λ_=>ZG)) Try.func24 Try.call24 (λa0 σ=>by kernel_rfl)) _ _ _ rfl rfl
theorem Sr:Sound Try.prog aI 24 xF:=acw
def anr (rec:Nat->aq->Heap->aB):Fx:=⟨Try.prog,aI,Z5 (λ_ _=>μ) [(30,xD (Z5 (λ_ _=>μ) [(75,rec 75)]))],(Z5 (λ_ _=>μ) [(75,rec 75)]),[4],[7],12,[]⟩
theorem anJ(rec:Nat->aq->Heap->aB)(dG:∀f,Sound Try.prog aI f (rec (aI.getD f 0))):Sound Try.prog aI 25 (Ξ ι [] .k (A.i7 (Bp rec))):=
 Z6 (aqM (X:=anr rec) (fn:=Try.f25) (bK:=(.s .n (.s .n (.s .n aW)))) .K trivial (Tw rfl (Ψ (ao5 _ (vZ (WZ (λf hf=>hf▸dG f) RN))) Z7) (vZ (WZ (λf hf=>hf▸dG f) RN))) Try.func25 Try.call25 (λa0 a1 a2 σ=>by kernel_rfl)) _ _ _ rfl rfl
def ani (rec:Nat->aq->Heap->aB):Fx:=⟨Try.prog,aI,Z5 (λ_ _=>μ) [(25,rec 76)],(λ_ _ _=>μ),[9],[],46,[]⟩
theorem ain(rec:Nat->aq->Heap->aB)(dG:∀f,Sound Try.prog aI f (rec (aI.getD f 0))):Sound Try.prog aI 43 (Ξ ι [] .k (A.CX (Bn rec))):=
 Z6 (Sound.XX (X:=ani rec) (fn:=Try.f43) (bK:=(.s (.s .n bP) (.s (.s .n (.j (.s .n aW) .n)) (.s .n (.s .n (.c [] .n (.s .n (.c [] aW .n)))))))) .K trivial (Tw rfl (Ψ (dG 25) Z7) (λ_=>ZG)) Try.func43 Try.call43 (λa0 a1 a2 a3 a4 σ=>by kernel_rfl)) _ _ _ rfl rfl
theorem am6:∀n f,Sound Try.prog aI f (fuel (Bo) n (aI.getD f 0)):=
 sX (λrec dG=>(WZ (nW (anJ rec dG) (by kernel_rfl) rfl) (WZ (nW (ain rec dG) (by kernel_rfl) rfl) RN)))
theorem anL:Sound Try.prog aI 25 GX:=am6 2000000 25
def anK:Fx:=⟨Try.prog,aI,Z5 (λ_ _=>μ) [],(λ_ _ _=>μ),[],[],28,[]⟩
theorem anf:Sound Try.prog aI 44 (Ξ ι [] .k (RV (Br))):=
 Z6 (apI (X:=anK) (fn:=Try.f44) (bK:=(.s .n (.b (.l [2,3] [.exit 0] (.s (.s .n bP) (.s (.b .n) .n)))))) .K trivial (Tw rfl Z7 (λ_=>ZG)) Try.func44 Try.call44 (λa0 σ=>by kernel_rfl)) _ _ _ rfl rfl
theorem Kj:Sound Try.prog aI 44 vK:=anf
def anv:Fx:=⟨Try.prog,aI,Z5 (λ_ _=>μ) [],(λ_ _ _=>μ),[],[],8,[]⟩
theorem anA:Sound Try.prog aI 45 (Ξ η [(.s 1)] .k (RV (G2))):=
 Z6 (apI (X:=anv) (fn:=Try.f45) (bK:=(.s .n (.s bF aW))) .K trivial (Tw rfl Z7 (λ_=>ZG)) Try.func45 Try.call45 (λa0 σ=>by kernel_rfl)) _ _ _ rfl rfl
theorem am9:Sound Try.prog aI 45 xC:=abT anA Try.call45 agF
def aaa:Fx:=⟨Try.prog,aI,Z5 (λ_ _=>μ) [],(λ_ _ _=>μ),[],[],27,[]⟩
theorem anF:Sound Try.prog aI 68 (Ξ ι [] .k (T3 (zg))):=
 Z6 (Su (X:=aaa) (fn:=Try.f68) (bK:=(.s .n (.s (.s .n (.c [] .n .n)) (.s (.s .n (.s .n (.c [0] .n .n))) aW)))) .K trivial (Tw rfl Z7 (λ_=>ZG)) Try.func68 Try.call68 (λa0 a1 σ=>by kernel_rfl)) _ _ _ rfl rfl
theorem anH:Sound Try.prog aI 68 zf:=anF
def am7:Fx:=⟨Try.prog,aI,Z5 (λ_ _=>μ) [(68,zf)],(λ_ _ _=>μ),[],[],36,[]⟩
theorem adm:Sound Try.prog aI 46 (Ξ η [(.s 1)] .k (RV (zc))):=
 Z6 (apI (X:=am7) (fn:=Try.f46) (bK:=(.s .n (.s .n (.s (.s .n (.b (.l [3,11] [.exit 0] (.s .n (.s bP (.s (.b (.s .n (.s .n (.s .n (.c [] .n .n))))) .n)))))) (.s .n (.s (.s .n (.b (.l [6,27] [.exit 2] (.s .n (.s bP (.s (.b aW) .n)))))) aW)))))) .K trivial (Tw rfl (Ψ anH Z7) (λ_=>ZG)) Try.func46 Try.call46 (λa0 σ=>by kernel_rfl)) _ _ _ rfl rfl
theorem ao3:Sound Try.prog aI 46 Bs:=adm
def ant (dyn:Nat->aq->Heap->aB):Fx:=⟨Try.prog,aI,Z5 (λ_ _=>μ) [],dyn,[],[],19,[]⟩
theorem anz(dyn:Nat->aq->Heap->aB)(hd:∀f,Sound Try.prog aI f (dyn (aI.getD f 0))):Sound Try.prog aI 69 (Ξ η [(.s 1)] .k (T3 (GW dyn))):=
 Z6 (Su (X:=ant dyn) (fn:=Try.f69) (bK:=(.s .n (.s (.s .n (.b (.l [4,8] [.exit 0,.ret] (.s .n (.s bP (.s (.b (.s .n bF)) .n)))))) aW))) .F trivial (Tw rfl Z7 (hd)) Try.func69 Try.call69 (λa0 a1 σ=>by kernel_rfl)) _ _ _ rfl rfl
theorem anD(dyn:Nat->aq->Heap->aB)(hd:∀f,Sound Try.prog aI f (dyn (aI.getD f 0))):Sound Try.prog aI 69 (sU dyn):=anz dyn hd
def ang (dyn:Nat->aq->Heap->aB):Fx:=⟨Try.prog,aI,Z5 (λ_ _=>μ) [(69,sU dyn)],dyn,[],[],42,[]⟩
theorem anB(dyn:Nat->aq->Heap->aB)(hd:∀f,Sound Try.prog aI f (dyn (aI.getD f 0))):Sound Try.prog aI 47 (Ξ ι [] .k (T3 (Dw dyn))):=
 Z6 (Su (X:=ang dyn) (fn:=Try.f47) (bK:=(.s .n (.s .n (.s bF (.s (.s .n (.b (.l [5,6] [.exit 0] (.s (.s .n bP) (.s (.b (.s .n (.s .n (.c [5] aW .n)))) .n))))) (.s .n aW)))))) .R trivial (Tw rfl (Ψ (anD dyn hd) Z7) (hd)) Try.func47 Try.call47 (λa0 a1 σ=>by kernel_rfl)) _ _ _ rfl rfl
theorem ann(dyn:Nat->aq->Heap->aB)(hd:∀f,Sound Try.prog aI f (dyn (aI.getD f 0))):Sound Try.prog aI 47 (Dv dyn):=anB dyn hd
def abK:Fx:=⟨Try.prog,aI,Z5 (λ_ _=>μ) [],(λ_ _ _=>μ),[],[],26,[]⟩
theorem abA:Sound Try.prog aI 49 (Ξ η [(.s 1)] .k (A.i7 (BM))):=
 Z6 (aqM (X:=abK) (fn:=Try.f49) (bK:=(.s .n (.s .n (.s (.s .n (.b (.l [7,8] [.exit 0] (.s (.s .n bP) (.s (.b .n) .n))))) aW)))) .K trivial (Tw rfl Z7 (λ_=>ZG)) Try.func49 Try.call49 (λa0 a1 a2 σ=>by kernel_rfl)) _ _ _ rfl rfl
theorem abo:Sound Try.prog aI 49 BI:=abA
theorem Ru:Sound Try.prog aI 48 qw:=q2 [] 7 (.s .n aW) Z7 Try.func48 Try.call48 (λa0 a1 σ=>by kernel_rfl) rfl rfl
end
section
def ans (rec:Nat->aq->Heap->aB):Fx:=⟨Try.prog,aI,Z5 (λ_ _=>μ) [(26,rec 79),(44,vK),(45,xC),(46,Bs),(24,xF),(47,Dv (Z5 (λ_ _=>μ) [(77,qw)])),(49,BI)],(Z5 (λ_ _=>μ) [(77,qw)]),[3,7],[15],171,[26,45,49]⟩
theorem anC(rec:Nat->aq->Heap->aB)(dG:∀f,Sound Try.prog aI f (rec (aI.getD f 0))):Sound Try.prog aI 26 (Ξ ι [] .k (T3 (Bu rec))):=
 Z6 (Su (X:=ans rec) (fn:=Try.f26) (bK:=(.s .n (.s .n (.s (.s .n (.b (.l [3,5,21] [.exit 0] (.s .n (.s bP (.s (.b aW) .n)))))) (.s (.s .n (.b (.s .n (.j (.s .n (.s .n (.s (.s .n (.b (.l [3,10,51] [.exit 3] (.s .n (.s bP (.s (.b (.s .n (.s .n (.c [3,10] .n .n)))) .n)))))) (.s (.s .n (.c [] .n .n)) aW)))) (.s .n (.j (.s .n (.s (.s .n (.c [13] aW .n)) aW)) (.s .n (.j aW (.s .n (.j aW (.s .n (.j (.s .n (.s (.s .n (.b (.l [130] [.exit 5] (.s .n (.s bP (.s (.b aW) .n)))))) aW)) (.s .n (.j aW (.s .n (.j aW (.s .n (.j (.s .n aW) .n)))))))))))))))))) aW))))) .K trivial (Tw rfl (Ψ (dG 26) (Ψ Kj (Ψ am9 (Ψ ao3 (Ψ Sr (Ψ (ann _ (vZ (WZ (nW Ru (by kernel_rfl) rfl) RN))) (Ψ abo Z7))))))) (vZ (WZ (nW Ru (by kernel_rfl) rfl) RN))) Try.func26 Try.call26 (λa0 a1 σ=>by kernel_rfl)) _ _ _ rfl rfl
theorem anq:∀n f,Sound Try.prog aI f (fuel (ze) n (aI.getD f 0)):=
 sX (λrec dG=>(WZ (nW (anC rec dG) (by kernel_rfl) rfl) RN))
theorem ane:Sound Try.prog aI 26 G1:=anq 2000000 26
def abI:Fx:=⟨Try.prog,aI,Z5 (λ_ _=>μ) [(23,GY),(7,G0),(18,DO),(22,DP),(24,A.yz (.s 1) xF),(25,GX),(26,G1)],(λ_ _ _=>μ),[4,7,13,15,17,20],[37],108,[]⟩
theorem aby:Sound Try.prog aI 10 (Ξ η [kY,(.s 5),(.s 3),fK] (.t [(.s 1),.k]) (A.oF (Lk))):=
 Z6 (Sound.OS (X:=abI) (fn:=Try.f10) (bK:=(.s .n (.s (.s .n bF) (.s .n (.s (.s .n (.b (.l [7,41] [.exit 0] (.s .n (.s bP (.s (.b aW) .n)))))) (.s (.s .n (.b (.l [7,59] [.exit 2] (.s .n (.s bP (.s (.b aW) .n)))))) (.s (.s .n (.b (.l [7,74] [.exit 4] (.s .n (.s bP (.s (.b (.s .n (.s .n (.s (.s .n (.b (.l [7,17,18,81] [.exit 6] (.s .n (.s bP (.s (.b aW) .n)))))) .n)))) .n)))))) (.s bF aW)))))))) .F trivial (Tw rfl (Ψ ahc (Ψ ano (Ψ R1 (Ψ aoZ (Ψ (Sound.yz Sr (.s 1) rfl) (Ψ anL (Ψ ane Z7))))))) (λ_=>ZG)) Try.func10 Try.call10 (λa0 a1 a2 a3 σ=>by kernel_rfl)) _ _ _ rfl rfl
theorem abl:Sound Try.prog aI 10 KW:=aby
theorem acm:Sound Try.prog aI 87 Lx:=q1 [] 34 (.s .n (.s (.s .n (.b (.l [2,7] [.exit 0,.ret] (.s .n (.s bP (.s (.b (.s .n (.s .n bF))) .n)))))) aW)) Z7 Try.func87 Try.call87 (λa0 σ=>by kernel_rfl) rfl rfl
theorem aox:Sound Try.prog aI 84 DT:=q1 [] 20 (.s .n aW) (Ψ acm Z7) Try.func84 Try.call84 (λa0 σ=>by kernel_rfl) rfl rfl
theorem xH:Sound Try.prog aI 19 m9:=q3 [] 15 (.s .n aW) Z7 Try.func19 Try.call19 (λa0 a1 a2 σ=>by kernel_rfl) rfl rfl
theorem RZ:Sound Try.prog aI 53 BG:=q1 [] 5 (.s .n aW) (Ψ xH Z7) Try.func53 Try.call53 (λa0 σ=>by kernel_rfl) rfl rfl
theorem adg:Sound Try.prog aI 88 Hz:=q1 [1] 14 (.s .n (.s bF aW)) Z7 Try.func88 Try.call88 (λa0 σ=>by kernel_rfl) rfl rfl
theorem anx:Sound Try.prog aI 32 Km:=q2 [] 19 (.s .n (.s (.s .n (.b (.l [4,8] [.exit 0,.ret] (.s .n (.s bP (.s (.b (.s .n bF)) .n)))))) aW)) Z7 Try.func32 Try.call32 (λa0 a1 σ=>by kernel_rfl) rfl rfl
theorem DA:Sound Try.prog aI 15 lB:=q2 [] 9 (.s .n aW) (Ψ anx Z7) Try.func15 Try.call15 (λa0 a1 σ=>by kernel_rfl) rfl rfl
theorem aam:Sound Try.prog aI 85 KB:=q3 [3,8,10,14,16] 148 (.s .n (.s bF (.s (.s .n (.b (.l [3,6,23] [.exit 0,.ret] (.s .n (.s bP (.s (.b (.s .n bF)) .n)))))) (.s (.b (.s .n (.j aW (.s .n (.j aW bF))))) (.s (.s .n (.b (.l [3,6,65] [.exit 3,.ret] (.s .n (.s bP (.s (.b (.s .n (.s .n (.b (.l [3,6,10,72] [.exit 5,.ret] (.s .n (.s bP (.s (.b (.s .n bF)) .n)))))))) .n)))))) (.s bF (.s (.s .n (.b (.l [3,6,89] [.exit 7,.ret] (.s .n (.s bP (.s (.b (.s .n (.s (.b (.s .n (.j aW (.s .n (.j aW bF))))) (.s .n (.b (.l [3,6,14,137] [.exit 10,.ret] (.s .n (.s bP (.s (.b (.s .n bF)) .n))))))))) .n)))))) aW))))))) (Ψ aox (Ψ xH (Ψ RZ (Ψ adg (Ψ DA Z7))))) Try.func85 Try.call85 (λa0 a1 a2 σ=>by kernel_rfl) rfl rfl
theorem anE:Sound Try.prog aI 79 Ks:=q1 [1,4] 46 (.s .n (.s (.b (.s .n (.j aW (.s .n (.j aW (.s .n (.j aW bF))))))) (.s (.s .n (.b (.l [1,2,29] [.exit 1,.ret] (.s .n (.s bP (.s (.b (.s .n (.s .n bF))) .n)))))) aW))) (Ψ aox (Ψ xH (Ψ aam Z7))) Try.func79 Try.call79 (λa0 σ=>by kernel_rfl) rfl rfl
theorem aas:Sound Try.prog aI 70 Kr:=q1 [4,7] 38 (.s .n (.s bF (.s (.s .n (.b (.l [2,13] [.exit 0,.ret] (.s .n (.s bP (.s (.b (.s .n (.s (.s .n bF) (.s .n (.b (.l [2,4,27] [.exit 2,.ret] (.s .n (.s bP (.s (.b (.s .n bF)) .n))))))))) .n)))))) aW))) (Ψ anE Z7) Try.func70 Try.call70 (λa0 σ=>by kernel_rfl) rfl rfl
theorem Lq:Sound Try.prog aI 71 DN:=q2 [4,7] 21 (.s .n (.s (.s .n (.b (.l [4,5,10] [.exit 0,.ret] (.s .n (.s bP (.s (.b (.s .n bF)) .n)))))) aW)) Z7 Try.func71 Try.call71 (λa0 a1 σ=>by kernel_rfl) rfl rfl
theorem aem:Sound Try.prog aI 72 D8:=q2 [2,3,5] 21 (.s .n (.s .n aW)) (Ψ Lq Z7) Try.func72 Try.call72 (λa0 a1 σ=>by kernel_rfl) rfl rfl
theorem aaP:Sound Try.prog aI 50 KK:=q1 [1,5,6,9] 108 (.s .n (.s (.s .n bF) (.s bF (.s (.s .n (.b (.l [1,2,23] [.exit 0,.ret] (.s .n (.s bP (.s (.b (.s .n (.s .n (.s (.b (.s .n (.j aW (.s .n (.j aW (.s .n (.j aW bF))))))) (.s .n (.b (.l [1,2,5,81] [.exit 3,.ret] (.s .n (.s bP (.s (.b (.s .n bF)) .n)))))))))) .n)))))) aW)))) (Ψ aas (Ψ Lq (Ψ xH (Ψ aem Z7)))) Try.func50 Try.call50 (λa0 σ=>by kernel_rfl) rfl rfl
theorem abe:Sound Try.prog aI 51 KR:=q1 [] 40 (.s .n (.s bF (.s (.s .n (.b (.l [2,26] [.exit 0,.ret] (.s .n (.s bP (.s (.b (.s .n bF)) .n)))))) aW))) Z7 Try.func51 Try.call51 (λa0 σ=>by kernel_rfl) rfl rfl
theorem aen:Sound Try.prog aI 73 Mj:=q2 [2,6] 21 (.s .n (.s (.s .n (.b (.l [4,10] [.exit 0,.ret] (.s .n (.s bP (.s (.b (.s .n bF)) .n)))))) aW)) Z7 Try.func73 Try.call73 (λa0 a1 σ=>by kernel_rfl) rfl rfl
theorem adf:Sound Try.prog aI 74 LZ:=q2 [2,4,7] 22 (.s .n (.s (.s .n (.b (.l [4,5,11] [.exit 0,.ret] (.s .n (.s bP (.s (.b (.s .n bF)) .n)))))) aW)) Z7 Try.func74 Try.call74 (λa0 a1 σ=>by kernel_rfl) rfl rfl
theorem abf:Sound Try.prog aI 52 KT:=q2 [2,3,4,7] 34 (.s .n (.s .n (.s bF (.s .n aW)))) (Ψ aen (Ψ Lq (Ψ adf Z7))) Try.func52 Try.call52 (λa0 a1 σ=>by kernel_rfl) rfl rfl
theorem acn:Sound Try.prog aI 54 Ly:=q2 [2,3] 24 (.s .n aW) Z7 Try.func54 Try.call54 (λa0 a1 σ=>by kernel_rfl) rfl rfl
theorem anw:Sound Try.prog aI 27 Kt:=q2 [2,7,9,10] 99 (.s .n (.s (.s .n bF) (.s bF (.s (.s .n (.b (.l [2,4,22] [.exit 0,.ret] (.s .n (.s bP (.s (.b (.s .n (.s (.b (.s .n (.j aW (.s .n (.j aW (.s .n (.j aW bF))))))) (.s .n (.b (.l [2,4,7,64] [.exit 3,.ret] (.s .n (.s bP (.s (.b (.s .n (.s (.s .n bF) (.s bF bF)))) .n))))))))) .n)))))) aW)))) (Ψ aaP (Ψ xH (Ψ abe (Ψ abf (Ψ RZ (Ψ acn Z7)))))) Try.func27 Try.call27 (λa0 a1 σ=>by kernel_rfl) rfl rfl
def adB (rec:Nat->aq->Heap->aB):Fx:=⟨Try.prog,aI,Z5 (λ_ _=>μ) [(35,rec 46)],(λ_ _ _=>μ),[2,9],[],41,[]⟩
theorem adx(rec:Nat->aq->Heap->aB)(dG:∀f,Sound Try.prog aI f (rec (aI.getD f 0))):Sound Try.prog aI 35 (Ξ η [fK] .k (T3 (B3 rec))):=
 Z6 (Su (X:=adB rec) (fn:=Try.f35) (bK:=(.s .n (.s .n (.s bF (.s (.s .n (.b (.l [6,7,20] [.exit 0] (.s .n (.s bP (.s (.b (.s .n aW)) .n)))))) aW))))) .F trivial (Tw rfl (Ψ (dG 35) Z7) (λ_=>ZG)) Try.func35 Try.call35 (λa0 a1 σ=>by kernel_rfl)) _ _ _ rfl rfl
theorem acQ:∀n f,Sound Try.prog aI f (fuel (BW) n (aI.getD f 0)):=
 sX (λrec dG=>(WZ (nW (adx rec dG) (by kernel_rfl) rfl) RN))
theorem adj:Sound Try.prog aI 35 L2:=acQ 2000000 35
theorem aep:Sound Try.prog aI 60 HM:=q1 [] 17 (.s .n (.s (.s .n (.b (.s .n (.j aW (.s (.s .n (.c [8] .n .n)) (.j aW (.s .n (.j aW (.s .n (.j aW bF)))))))))) aW)) Z7 Try.func60 Try.call60 (λa0 σ=>by kernel_rfl) rfl rfl
def aaH (rec:Nat->aq->Heap->aB):Fx:=⟨Try.prog,aI,Z5 (λ_ _=>μ) [(19,m9),(60,HM),(36,rec 48)],(λ_ _ _=>μ),[1,8],[],94,[]⟩
theorem aaF(rec:Nat->aq->Heap->aB)(dG:∀f,Sound Try.prog aI f (rec (aI.getD f 0))):Sound Try.prog aI 36 (Ξ η [fK] .k (RV (By rec))):=
 Z6 (apI (X:=aaH rec) (fn:=Try.f36) (bK:=(.s .n (.s bF (.s .n (.s bF (.s .n (.s (.s .n (.b (.s .n (.c [1,6] .n (.s .n (.c [1,6] .n .n)))))) (.s bF (.s (.s .n (.b (.l [2,84] [.exit 1,.ret] (.s .n (.s bP (.s (.b (.s .n (.s .n bF))) .n)))))) aW))))))))) .F trivial (Tw rfl (Ψ xH (Ψ aep (Ψ (dG 36) Z7))) (λ_=>ZG)) Try.func36 Try.call36 (λa0 σ=>by kernel_rfl)) _ _ _ rfl rfl
theorem aau:∀n f,Sound Try.prog aI f (fuel (Bx) n (aI.getD f 0)):=
 sX (λrec dG=>(WZ (nW (aaF rec dG) (by kernel_rfl) rfl) RN))
theorem aaB:Sound Try.prog aI 36 KD:=aau 2000000 36
theorem S3:Sound Try.prog aI 20 HA:=q1 [1] 18 (.s .n (.s (.s .n bF) aW)) (Ψ adj (Ψ aaB Z7)) Try.func20 Try.call20 (λa0 σ=>by kernel_rfl) rfl rfl
def adz (rec:Nat->aq->Heap->aB):Fx:=⟨Try.prog,aI,Z5 (λ_ _=>μ) [(21,rec 50)],(λ_ _ _=>μ),[2,7],[],31,[]⟩
theorem adv(rec:Nat->aq->Heap->aB)(dG:∀f,Sound Try.prog aI f (rec (aI.getD f 0))):Sound Try.prog aI 21 (Ξ η [fK] (.s 1) (T3 (B1 rec))):=
 Z6 (Su (X:=adz rec) (fn:=Try.f21) (bK:=(.s .n (.s .n (.s (.s .n (.c [2,5] .n .n)) (.s (.s .n (.b (.l [5,20] [.exit 0] (.s .n (.s bP (.s (.b aW) .n)))))) aW))))) .F trivial (Tw rfl (Ψ (dG 21) Z7) (λ_=>ZG)) Try.func21 Try.call21 (λa0 a1 σ=>by kernel_rfl)) _ _ _ rfl rfl
theorem acO:∀n f,Sound Try.prog aI f (fuel (BV) n (aI.getD f 0)):=
 sX (λrec dG=>(WZ (nW (adv rec dG) (by kernel_rfl) rfl) RN))
theorem Mc:Sound Try.prog aI 21 uy:=acO 2000000 21
theorem Hl:Sound Try.prog aI 14 uu:=q2 [4,7] 21 (.s .n (.s (.s .n (.b (.l [4,5,10] [.exit 0,.ret] (.s .n (.s bP (.s (.b (.s .n bF)) .n)))))) aW)) Z7 Try.func14 Try.call14 (λa0 a1 σ=>by kernel_rfl) rfl rfl
def abF:Fx:=⟨Try.prog,aI,Z5 (λ_ _=>μ) [(14,uu),(21,uy),(15,lB)],(λ_ _ _=>μ),[7],[12],48,[]⟩
theorem abv:Sound Try.prog aI 16 (Ξ η [(.s 5)] (.s 1) (T3 (Li))):=
 Z6 (Su (X:=abF) (fn:=Try.f16) (bK:=(.s .n (.s .n (.s .n (.s (.b (.l [5,6] [.exit 0] (.s (.s .n bP) (.b (.s .n (.s .n (.s .n (.b (.l [5,6,30] [.exit 2] (.s .n (.s bP (.s (.b (.s .n (.s .n (.c [5,6] aW .n)))) .n)))))))))))) aW))))) .F trivial (Tw rfl (Ψ Hl (Ψ Mc (Ψ DA Z7))) (λ_=>ZG)) Try.func16 Try.call16 (λa0 a1 σ=>by kernel_rfl)) _ _ _ rfl rfl
theorem abi:Sound Try.prog aI 16 KV:=abv
theorem aae:Sound Try.prog aI 8 Kz:=q1 [4,7,10,13] 88 (.s .n (.s bF (.s (.s .n (.b (.l [2,19] [.exit 0,.ret] (.s .n (.s bP (.s (.b (.s .n (.s (.b (.s .n (.j aW bF))) (.s .n bF)))) .n)))))) (.s (.s .n (.b (.l [2,52] [.exit 3,.ret] (.s .n (.s bP (.s (.b (.s .n (.s .n (.b (.l [2,60] [.exit 5,.ret] (.s .n (.s bP (.s (.b (.s .n (.s .n bF))) .n)))))))) .n)))))) (.s (.s .n (.b (.l [2,76] [.exit 7,.ret] (.s .n (.s bP (.s (.b (.s .n bF)) .n)))))) aW))))) (Ψ xH (Ψ S3 (Ψ Mc (Ψ Hl (Ψ abi (Ψ DA Z7)))))) Try.func8 Try.call8 (λa0 σ=>by kernel_rfl) rfl rfl
theorem RL:Sound Try.prog aI 55 BB:=q2 [4,7] 21 (.s .n (.s (.s .n (.b (.l [4,5,10] [.exit 0,.ret] (.s .n (.s bP (.s (.b (.s .n bF)) .n)))))) aW)) Z7 Try.func55 Try.call55 (λa0 a1 σ=>by kernel_rfl) rfl rfl
def adA (rec:Nat->aq->Heap->aB):Fx:=⟨Try.prog,aI,Z5 (λ_ _=>μ) [(21,uy),(55,BB),(14,uu),(28,rec 95)],(λ_ _ _=>μ),[5,9,13],[],55,[]⟩
theorem adw(rec:Nat->aq->Heap->aB)(dG:∀f,Sound Try.prog aI f (rec (aI.getD f 0))):Sound Try.prog aI 28 (Ξ η [(.s 5),(.s 3),fK] .k (A.i7 (B2 rec))):=
 Z6 (aqM (X:=adA rec) (fn:=Try.f28) (bK:=(.s .n (.s (.s .n (.b (.l [5,6,18] [.exit 0,.ret] (.s .n (.s bP (.s (.b (.s .n (.s .n bF))) .n)))))) (.s (.s .n (.b (.l [6,34] [.exit 2,.ret] (.s .n (.s bP (.s (.b (.s .n (.s .n bF))) .n)))))) aW)))) .F trivial (Tw rfl (Ψ Mc (Ψ RL (Ψ Hl (Ψ (dG 28) Z7)))) (λ_=>ZG)) Try.func28 Try.call28 (λa0 a1 a2 σ=>by kernel_rfl)) _ _ _ rfl rfl
theorem acP:∀n f,Sound Try.prog aI f (fuel (zl) n (aI.getD f 0)):=
 sX (λrec dG=>(WZ (nW (adw rec dG) (by kernel_rfl) rfl) RN))
theorem adi:Sound Try.prog aI 28 L1:=acP 2000000 28
def abE:Fx:=⟨Try.prog,aI,Z5 (λ_ _=>μ) [(19,m9),(44,vK)],(λ_ _ _=>μ),[3,9],[],38,[]⟩
theorem abu:Sound Try.prog aI 56 (Ξ η [kY] .k (A.i7 (Hj))):=
 Z6 (aqM (X:=abE) (fn:=Try.f56) (bK:=(.s .n (.s .n (.s (.s .n (.b (.l [7,13] [.exit 0] (.s .n (.s bP (.s (.b (.s .n (.s .n (.c [7] .n .n)))) .n)))))) (.s (.s .n (.c [] .n .n)) aW))))) .K trivial (Tw rfl (Ψ xH (Ψ Kj Z7)) (λ_=>ZG)) Try.func56 Try.call56 (λa0 a1 a2 σ=>by kernel_rfl)) _ _ _ rfl rfl
theorem abh:Sound Try.prog aI 56 Hh:=abu
def aey:Fx:=⟨Try.prog,aI,Z5 (λ_ _=>μ) [(15,lB)],(λ_ _ _=>μ),[],[],22,[]⟩
theorem aex:Sound Try.prog aI 57 (Ξ η [(.s 1)] .k (RV (Ca))):=
 Z6 (apI (X:=aey) (fn:=Try.f57) (bK:=(.s .n (.s .n (.s (.s .n (.b (.l [3,8] [.exit 0] (.s .n (.s bP (.s (.b (.s .n (.s .n (.c [3] .n .n)))) .n)))))) aW)))) .K trivial (Tw rfl (Ψ DA Z7) (λ_=>ZG)) Try.func57 Try.call57 (λa0 σ=>by kernel_rfl)) _ _ _ rfl rfl
theorem aeo:Sound Try.prog aI 57 D9:=aex
def abH:Fx:=⟨Try.prog,aI,Z5 (λ_ _=>μ) [(15,lB)],(λ_ _ _=>μ),[],[],24,[]⟩
theorem abx:Sound Try.prog aI 58 (Ξ η [(.s 1),(.s 1)] .k (T3 (BK))):=
 Z6 (Su (X:=abH) (fn:=Try.f58) (bK:=(.s .n (.s .n (.s (.s .n (.b (.l [5,10] [.exit 0] (.s .n (.s bP (.s (.b (.s .n (.s .n (.c [5] .n .n)))) .n)))))) aW)))) .K trivial (Tw rfl (Ψ DA Z7) (λ_=>ZG)) Try.func58 Try.call58 (λa0 a1 σ=>by kernel_rfl)) _ _ _ rfl rfl
theorem abk:Sound Try.prog aI 58 Hi:=abx
def abG:Fx:=⟨Try.prog,aI,Z5 (λ_ _=>μ) [],(λ_ _ _=>μ),[],[],36,[]⟩
theorem abw:Sound Try.prog aI 59 (Ξ η [(.s 1)] .k (A.i7 (BJ))):=
 Z6 (aqM (X:=abG) (fn:=Try.f59) (bK:=(.s .n (.s .n (.s (.s .n (.b (.l [7,12] [.exit 0] (.s .n (.s bP (.s (.b (.s .n (.s .n (.c [7] .n .n)))) .n)))))) aW)))) .K trivial (Tw rfl Z7 (λ_=>ZG)) Try.func59 Try.call59 (λa0 a1 a2 σ=>by kernel_rfl)) _ _ _ rfl rfl
theorem abj:Sound Try.prog aI 59 BH:=abw
def abD (rec:Nat->aq->Heap->aB):Fx:=⟨Try.prog,aI,Z5 (λ_ _=>μ) [(29,rec 100),(56,Hh),(14,uu),(55,BB),(57,D9),(46,Bs),(58,Hi),(59,BH),(44,vK)],(λ_ _ _=>μ),[4,7,11,12,14,18],[],128,[58,59]⟩
theorem abt(rec:Nat->aq->Heap->aB)(dG:∀f,Sound Try.prog aI f (rec (aI.getD f 0))):Sound Try.prog aI 29 (Ξ η [kY,(.s 5),(.s 3),fK] .k (A.oF (DQ rec))):=
 Z6 (Sound.OS (X:=abD rec) (fn:=Try.f29) (bK:=(.s .n (.s .n (.s (.s .n (.b (.l [4,7,9,22] [.exit 0] (.s .n (.s bP (.s (.b aW) .n)))))) (.s (.s .n (.b (.s .n (.j aW (.s .n (.j (.s .n aW) (.s .n (.j (.s .n (.s .n (.s (.s .n (.b (.l [16,72] [.exit 3] (.s .n (.s bP (.s (.b aW) .n)))))) aW))) (.s .n (.j aW (.s .n (.j aW (.s .n (.j aW (.s .n (.j aW bF)))))))))))))))) (.s .n aW)))))) .K trivial (Tw rfl (Ψ (dG 29) (Ψ abh (Ψ Hl (Ψ RL (Ψ aeo (Ψ ao3 (Ψ abk (Ψ abj (Ψ Kj Z7))))))))) (λ_=>ZG)) Try.func29 Try.call29 (λa0 a1 a2 a3 σ=>by kernel_rfl)) _ _ _ rfl rfl
theorem aaY:∀n f,Sound Try.prog aI f (fuel (BE) n (aI.getD f 0)):=
 sX (λrec dG=>(WZ (nW (abt rec dG) (by kernel_rfl) rfl) RN))
theorem abg:Sound Try.prog aI 29 KU:=aaY 2000000 29
theorem adh:Sound Try.prog aI 11 L0:=q4 [4,7] 39 (.s .n (.s (.s .n bF) (.s (.s .n bF) (.s (.s .n bF) (.s bF aW))))) (Ψ anw (Ψ aae (Ψ S3 (Ψ adi (Ψ abg Z7))))) Try.func11 Try.call11 (λa0 a1 a2 a3 σ=>by kernel_rfl) rfl rfl
theorem adO:Sound Try.prog aI 9 Kl:=q2 [] 26 (.s .n (.s bF (.s (.s .n (.b (.l [4,13] [.exit 0,.ret] (.s .n (.s bP (.s (.b (.s .n bF)) .n)))))) aW))) Z7 Try.func9 Try.call9 (λa0 a1 σ=>by kernel_rfl) rfl rfl
theorem Zs:Sound Try.prog aI 4 aoT:=q4 [4,7] 37 (.s .n (.s .n (.s .n aW))) (Ψ abl (Ψ adh (Ψ adO Z7))) Try.func4 Try.call4 (λa0 a1 a2 a3 σ=>by kernel_rfl) rfl rfl
end
section
theorem bq(s t:ByteArray):(s==t)=decide (s=t):=by obtain⟨a⟩:=s;obtain⟨b⟩:=t;show(a==b)=_;rw[kE];simp
section
variable {α β : Type}
theorem cT(t e:Option α):ξ (.bool η) t e=t:=rfl
theorem cF(t e:Option α):ξ (.bool ι) t e=e:=rfl
theorem Yp(e d:Option α):θ (.bool η) η e d=e:=rfl
theorem Yo(e d:Option α):θ (.bool η) ι e d=d:=rfl
theorem Yn(e d:Option α):θ (.bool ι) η e d=d:=rfl
theorem anX(e d:Option α):θ (.bool ι) ι e d=e:=rfl
theorem pT(x y:AV):ZM (.bool η) x y=δ x:=rfl
theorem pF(x y:AV):ZM (.bool ι) x y=δ y:=rfl
theorem kg{p:Prop}[Decidable p]{w:Bool}{e d:Option α}{f:α->Option β}:(θ (.bool (decide p)) w e d).bind f=if p then(θ (.bool η) w e d).bind f else(θ (.bool ι) w e d).bind f:=by by_cases h:p<;>simp [h]
theorem ke{b w:Bool}{e d:Option α}{f:α->Option β}:(θ (.bool b) w e d).bind f=match b with|true=>(θ (.bool η) w e d).bind f|false=>(θ (.bool ι) w e d).bind f:=by cases b<;>rfl
theorem jZ{p:Prop}[Decidable p]{t e:Option α}:ξ (.bool (decide p)) t e=if p then t else e:=by by_cases h:p<;>simp [h,ξ]
theorem jV{p:Prop}[Decidable p]{t e:Option α}:ξ (.bool (!decide p)) t e=if p then e else t:=by by_cases h:p<;>simp [h,ξ]
theorem jY{b:Bool}{t e:Option α}:ξ (.bool (!b)) t e=match b with|true=>e|false=>t:=by cases b<;>rfl
theorem jX{b:Bool}{t e:Option α}:ξ (.bool b) t e=match b with|true=>t|false=>e:=by cases b<;>rfl
theorem gN(w:Bool)(e d:Option α):θ (.aJ []) w e d=d:=rfl
theorem xN(a b:AX):(a==b)=decide (a=b):=by rw[kE];simp
end
section
variable (k : IntKind) (a b : Int) (p q : Prop) [Decidable p] [Decidable q] (s t : ByteArray) (x y : AV) (σ : Heap) (cs : aq)
theorem CI:Zn (.ah a) (.ah b)=δ (.ah (Θ.wrap (a+b))):=rfl
theorem zP:YR (.ah a) (.ah b)=δ (.ah (Θ.wrap (a-b))):=rfl
theorem Xb:A.mul (.ah a) (.ah b)=δ (.ah (Θ.wrap (a*b))):=rfl
theorem ahQ(h:b≠0):A.rem (.ah a) (.ah b)=δ (.ah (a.tmod b)):=by simp [A.rem,h]
theorem tJ:ZN (.ah a) (.ah b)=δ (.bool (decide (a<b))):=rfl
theorem EU:Wr (.ah a) (.ah b)=δ (.bool (decide (a<=b))):=rfl
theorem Jb:Zx (.ah a) (.ah b)=δ (.bool (decide (b<a))):=rfl
theorem Ja:A.geq (.ah a) (.ah b)=δ (.bool (decide (b<=a))):=rfl
theorem WC:ZN (.int .u8 a) (.int .u8 b)=δ (.bool (decide (a<b))):=rfl
theorem WB:Wr (.int .u8 a) (.int .u8 b)=δ (.bool (decide (a<=b))):=rfl
theorem apv:Zx (.int .u8 a) (.int .u8 b)=δ (.bool (decide (b<a))):=rfl
theorem Wy:A.geq (.int .u8 a) (.int .u8 b)=δ (.bool (decide (b<=a))):=rfl
theorem ef:Zt .i (.int k a) (.int k b)=δ (.bool (decide (a=b))):=by simp only[Zt,Yt,A.nO,if_true,ff];congr 2
theorem gu:Tn .i (.int k a) (.int k b)=δ (.bool (decide (¬a=b))):=by simp only[Tn,Yt,A.nO,if_true,ff];congr 2;rw[kE];simp
theorem Xa:Zt .z (.str s) (.str t)=δ (.bool (decide (s=t))):=by simp only[Zt,Yt,A.qc,ff,bq]
theorem NY:Tn .z (.str s) (.str t)=δ (.bool (decide (¬s=t))):=by simp only[Tn,Yt,A.qc,ff,bq];simp
theorem Xc(b:Bool):ZR (.bool b)=δ (.bool (!b)):=rfl
theorem WD:ZR (.bool (decide p))=δ (.bool (decide (¬p))):=by simp [ZR]
theorem vn:Z2 (.lbx cs)=δ cs:=rfl
theorem Wu(l:aq):Zl 0 (.aJ (x::l))=δ x:=rfl
theorem apk(x0 x:AV)(l:aq):Zl 1 (.aJ (x0::x::l))=δ x:=rfl
theorem Ww(x0 x1 x:AV)(l:aq):Zl 2 (.aJ (x0::x1::x::l))=δ x:=rfl
theorem apf(x0 x1 x2 x:AV)(l:aq):Zl 3 (.aJ (x0::x1::x2::x::l))=δ x:=rfl
theorem Ye:Γ (.rp cs) σ=δ cs:=rfl
theorem Yf(o:Nat):SN o (.rp cs)=δ (.rp (cs.drop o)):=rfl
theorem WA:A.rD (.str s)=δ (.ah s.size):=rfl
theorem Yc(n:Int):ZS (.int k n)=δ (.int k n):=rfl
theorem Yb(b:Bool):ZS (.bool b)=δ (.bool b):=rfl
theorem Yd:ZS (.str s)=δ (.str s):=rfl
theorem W9(sz:Nat)(es:List aq):ZS (.sl sz es)=δ (.sl sz es):=rfl
theorem QF(o k:Nat):Δ o (cs.drop k)=Δ (k+o) cs:=by simp [Δ,Zg]
end
theorem Yr(a d:AV)(l:aq):(a::l).getD 0 d=a:=rfl
theorem aoM(a b d:AV)(l:aq):(b::a::l).getD 1 d=a:=rfl
theorem aoB(a b c d:AV)(l:aq):(b::c::a::l).getD 2 d=a:=rfl
theorem apn(a b c e d:AV)(l:aq):(b::c::e::a::l).getD 3 d=a:=rfl
theorem Yw(a b c e f d:AV)(l:aq):(b::c::e::f::a::l).getD 4 d=a:=rfl
theorem Yx(a b c e f g d:AV)(l:aq):(b::c::e::f::g::a::l).getD 5 d=a:=rfl
theorem Yy(a b c e f g h d:AV)(l:aq):(b::c::e::f::g::h::a::l).getD 6 d=a:=rfl
theorem Yz(a b c e f g h i d:AV)(l:aq):(b::c::e::f::g::h::i::a::l).getD 7 d=a:=rfl
theorem an4(a b c e f g h i j d:AV)(l:aq):(b::c::e::f::g::h::i::j::a::l).getD 8 d=a:=rfl
theorem dc{n:Int}(h:bE n):Θ.wrap n=n:=IntWalk.i64_in n h
theorem wrap_eq{ro:Bool}{cL:List Sh}{dR:Sh}{r:aq->Heap->aB}{args:aq}{σ σ':Heap}{v v':AV}(h:args.any T5=ι)(e:r (Ug cL args) σ=δ (v,σ'))(hv:S7 dR v=v'):Ξ ro cL dR r args σ=δ (v',σ'):=by unfold Ξ;rw[h,R4,bk,e];simp [hv]
theorem LP{v:AV}(n:Nat)(h:A.pU v=η):A.fresh v=η/\A.shift n v=v:=by cases v<;>first|exact⟨h,rfl⟩|cases h
theorem S6{v:AV}(n:Nat)(h:A.Ae v=η):A.uO v=η/\A.tr n v=v:=by
 have key:(∀vs,v≠.aJ vs)->A.uO v=η/\A.tr n v=v:=by intro k;have:=LP (v:=v) n;cases v<;>first|exact absurd rfl (k _)|exact this h
 by_cases ht:∃vs,v=.aJ vs
 ·obtain⟨vs,rfl⟩:=ht;simp only[A.Ae,jC]at h;refine⟨by simp only[A.uO,jC];exact λx hx=>(LP n (h x hx)).1,?_⟩;simp only[A.tr];congr 1
  calc vs.map (A.shift n)=vs.map id:=RO λx hx=>(LP n (h x hx)).2
   _=vs:=List.map_id vs
 ·exact key λvs e=>ht ⟨vs,e⟩
theorem Cj{cL:List Sh}{dR:Sh}{r:aq->Heap->aB}{args args':aq}{σ:Heap}{v:AV}(h:args.any T5=η)(hz:Xu σ 0 8 args=δ args')(ho:args'.any T5=ι)(e:Ξ η cL dR r args' []=δ (v,[]))(hs:A.Ae v=η):Ξ η cL dR r args σ=δ (v,σ):=by unfold Ξ at e ⊢;rw[ho,R4,bk]at e;obtain⟨⟨q1,q2⟩,e1,e2⟩:=cO.1 e;simp only[ir]at e2;obtain⟨rfl,rfl⟩:=e2;rw[h,Bool.and_self,bz,hz];simp [e1,(S6 σ.length hs).1,(S6 σ.length hs).2]
theorem bU(σ:Heap)(r:AV):wh σ r σ=δ (r,σ):=by simp [wh]
theorem Tv(σ:Heap)(n d:Nat){a:AV}(h:A.pS a=η):X0 σ n d a=δ a:=by
 cases a<;>simp only[A.pS]at h<;>first|(cases h;done)|skip
 case sl sz es=>cases es with
  |nil=>cases d<;>simp [X0,A.lG]
  |cons _ _=>simp at h
 all_goals cases d<;>simp [X0]
theorem SE(σ:Heap)(n d:Nat):∀{l:aq},l.all A.pS=η->Xu σ n d l=δ l
 |[],_=>by simp [Xu]
 |a::l,h=>by simp only[ap8,fy]at h;simp [Xu,Tv σ n d h.1,SE σ n d h.2]
theorem an8(σ:Heap)(n d:Nat){a:AV}(h:A.pU a=η):X0 σ n d a=δ a:=by
 unfold A.pU at h;split at h
 ·cases d<;>simp [X0,SE σ n _ h]
 ·exact Tv σ n d h
theorem apB(σ:Heap)(n d:Nat):∀{l:aq},l.all A.pU=η->Xu σ n d l=δ l
 |[],_=>by simp [Xu]
 |a::l,h=>by simp only[ap8,fy]at h;simp [Xu,an8 σ n d h.1,apB σ n d h.2]
theorem aeS(σ:Heap)(n d:Nat){a:AV}(h:A.Ae a=η):X0 σ n d a=δ a:=by
 unfold A.Ae at h;split at h
 ·cases d<;>simp [X0,apB σ n _ h]
 ·exact an8 σ n d h
theorem Ia(σ bs:Heap){r:AV}(h:A.Ae r=η):wh σ r (σ++bs)=δ (r,σ):=by
 unfold wh;split
 ·rfl
 ·rw[aH (by simp),aeS _ _ _ h];rfl
theorem MY(σ bs:Heap)(k:IntKind)(n:Int):wh σ (.int k n) (σ++bs)=δ (.int k n,σ):=Ia σ bs rfl
theorem aoU(σ bs:Heap)(b:Bool):wh σ (.bool b) (σ++bs)=δ (.bool b,σ):=Ia σ bs rfl
theorem aop(σ bs:Heap)(s:ByteArray):wh σ (.str s) (σ++bs)=δ (.str s,σ):=Ia σ bs rfl
theorem Uk(σ bs:Heap):wh σ (.aJ []) (σ++bs)=δ (.aJ [],σ):=Ia σ bs rfl
theorem JC(σ bs:Heap)(j:Nat):(σ++bs)[σ.length+j]? =bs[j]? :=by rw[kC (by omega)];congr 1;omega
theorem CL(σ bs:Heap):(σ++bs)[σ.length]? =bs[0]? :=by rw[kC (bR _),Nat.sub_self]
theorem rC(σ bs:Heap)(j:Nat)(b:aP):(σ++bs).set (σ.length+j) b=σ++bs.set j b:=by rw[zM _ _ (by omega)];congr 2;omega
theorem NL(σ bs:Heap)(b:aP):(σ++bs).set σ.length b=σ++bs.set 0 b:=by rw[zM _ _ (bR _),Nat.sub_self]
section
variable {α : Type} (sz : Nat) (c : α -> aq) (l : List α)
theorem cy:ZO (sl sz c l)=δ (.ah l.length):=by simp [sl,ZO]
theorem mh{k:Nat}{x:α}(h:l[k]? =δ x):Zp sz (sl sz c l) (.ah (k:Int))=δ (.rp (c x)):=by have hk:k<l.length:=(bG.1 h).1;have hx:l[k]=x:=(bG.1 h).2;simp [Zp,sl,A.idx,hk,hx]
theorem ad1{i:Int}{x:α}(h0:0<=i)(h:l[i.toNat]? =δ x):Zp sz (sl sz c l) (.ah i)=δ (.rp (c x)):=by have:=mh sz c l h;rwa[Int.toNat_of_nonneg h0]at this
end
inductive Rd (S R : Type) where
 |go(s:S)
 |out(r:R)
def Rd.el{S R γ:Type}(x:Rd S R)(f:S->γ)(g:R->γ):γ:=match x with|.go s=>f s|.out r=>g r
theorem sB{S R γ:Type}(s:S)(f:S->γ)(g:R->γ):(Rd.go s:Rd S R).el f g=f s:=rfl
theorem sA{S R γ:Type}(r:R)(f:S->γ)(g:R->γ):(Rd.out r:Rd S R).el f g=g r:=rfl
theorem uM{S R γ:Type}{p:Prop}[Decidable p](x y:Rd S R)(f:S->γ)(g:R->γ):(if p then x else y).el f g=if p then x.el f g else y.el f g:=by split<;>rfl
def hJ{α S R:Type}(body:List α->α->S->Rd S R):List α->List α->S->Rd S R
 |_,[],s=>.go s
 |pre,x::l,s=>match body pre x s with|.go s'=>hJ body (pre++[x]) l s'|.out r=>.out r
theorem ad3{f:aq->Heap->Option (AX×aq×Heap)}{v:aq}{σ:Heap}:∀{n m:Nat}{r r':AX×aq×Heap},apH f n v σ=δ r->apH f m v σ=δ r'->r=r':=by
 intro n;induction n generalizing v σ with
 |zero=>intro m r r' h;cases h
 |succ n ih=>
  intro m r r' h1 h2;cases m with
  |zero=>cases h2
  |succ m=>
   simp only[apH]at h1 h2;cases hf:f v σ with
   |none=>rw[hf]at h1;cases h1
   |some q=>
    rw[hf]at h1 h2;simp only[aO]at h1 h2;obtain⟨e,v',σ'⟩:=q;cases e with
    |normal=>exact ih h1 h2
    |exit i=>simp only at h1 h2;rw[h1]at h2;injection h2
    |ret=>simp only at h1 h2;rw[h1]at h2;injection h2
theorem DM{f:aq->Heap->Option (AX×aq×Heap)}{v:aq}{σ:Heap}{n:Nat}{r:AX×aq×Heap}(h:apH f n v σ=δ r):Zo f v σ=δ r:=by
 have hex:∃n r,apH f n v σ=δ r:=⟨n,r,h⟩
 unfold Zo;rw[dif_pos hex];exact congrArg δ (ad3 (SA (SA hex)) h)
theorem HL{f:aq->Heap->Option (AX×aq×Heap)}{v v':aq}{σ σ':Heap}{r:AX×aq×Heap}(h:f v σ=δ (.normal,v',σ'))(k:∃n,apH f n v' σ'=δ r):∃n,apH f n v σ=δ r:=by obtain⟨n,k⟩:=k;exact⟨n+1,by simp [apH,h,k]⟩
theorem vO{f:aq->Heap->Option (AX×aq×Heap)}{v:aq}{σ:Heap}{r:AX×aq×Heap}(h:f v σ=δ r)(hr:r.1≠.normal):∃n,apH f n v σ=δ r:=by obtain⟨e,v',σ'⟩:=r;refine⟨1,?_⟩;cases e<;>first|(simp [apH,h];done)|exact absurd rfl hr
theorem mj{α S R γ:Type}{f:aq->Heap->Option (AX×aq×Heap)}(l:List α)(body:List α->α->S->Rd S R)(st:List α->S->aq)(hp:List α->S->Heap)
  (fin:S->AX×aq×Heap) (out:List α->S->R->AX×aq×Heap) (P:List α->S->Prop) (s0:S) {k:AX×aq×Heap->Option γ} (K1:S->Option γ) (K2:R->Option γ)
  (hstep:∀pre x rest s,l=pre++x::rest->P pre s->f (st pre s) (hp pre s)=δ ((body pre x s).el (λs'=>(.normal,st (pre++[x]) s',hp (pre++[x]) s')) (λr=>out pre s r)))
  (hend:∀s,P l s->f (st l s) (hp l s)=δ (fin s)) (h0:P [] s0)
  (hP:∀pre x rest s s',l=pre++x::rest->P pre s->body pre x s=.go s'->P (pre++[x]) s')
  (hk1:∀s,P l s->k (fin s)=K1 s) (hk2:∀pre x rest s r,l=pre++x::rest->P pre s->body pre x s=.out r->k (out pre s r)=K2 r)
  (zZ:∀s,(fin s).1≠.normal:=by intros;simp) (hout:∀pre s r,(out pre s r).1≠.normal:=by intros;simp) {v:aq} {σ:Heap} (hv:v=st [] s0:=by rfl) (eD:σ=hp [] s0:=by rfl):
  (Zo f v σ).bind k=(hJ body [] l s0).el K1 K2:=by
 have key:∀(rest pre:List α)(s:S),l=pre++rest->P pre s->∃q,(∃n,apH f n (st pre s) (hp pre s)=δ q)/\k q=(hJ body pre rest s).el K1 K2:=by
  intro rest;induction rest with
  |nil=>intro pre s hl hp';rw[TB]at hl;subst hl;exact⟨fin s,vO (hend s hp') (zZ s),by rw[hJ,sB,hk1 s hp']⟩
  |cons x rest ih=>
   intro pre s hl hp';have h:=hstep pre x rest s hl hp';rw[hJ];cases hb:body pre x s with
   |go s'=>rw[hb]at h;obtain⟨q,h1,h2⟩:=ih (pre++[x]) s' (by simpa using hl) (hP pre x rest s s' hl hp' hb);exact⟨q,HL h h1,h2⟩
   |out r=>rw[hb]at h;exact⟨out pre s r,vO h (hout pre s r),by rw[sA,hk2 pre x rest s r hl hp' hb]⟩
 obtain⟨q,⟨n,h1⟩,h2⟩:=key l [] s0 rfl h0;rw[hv,eD,DM h1,aO,h2]
theorem xK{α:Type}{body:List α->α->Unit->Rd Unit Int}{oG:List α->List α->Int}(h0:∀pre,oG pre []=0)(h:∀pre x rest,oG pre (x::rest)=(body pre x ()).el (λ_=>oG (pre++[x]) rest) (λr=>r)) {γ:Type} (K:Int->γ):
  ∀(l pre:List α),(hJ body pre l ()).el (λ_=>K 0) K=K (oG pre l)
 |[],pre=>by rw[hJ,h0];rfl
 |x::l,pre=>by
  rw[hJ,h];cases body pre x ()with
  |go s=>exact xK h0 h K l (pre++[x])
  |out r=>rfl
theorem mo{α:Type}{l pre rest:List α}{x:α}(h:l=pre++x::rest):l[pre.length]? =δ x:=by rw[h];simp
theorem nZ{α:Type}{l pre rest:List α}{x:α}(h:l=pre++x::rest):pre.length<l.length:=by rw[h];simp
theorem MJ{α:Type}{l pre rest:List α}{x:α}(h:l=pre++x::rest)(h0:0<pre.length):∃y,pre.getLast? =δ y/\l[pre.length-1]? =δ y:=by
 cases hp:pre.getLast? with
 |none=>rw[List.getLast?_eq_none_iff]at hp;subst hp;simp at h0
 |some y=>refine⟨y,rfl,?_⟩;rw[h,gZ (by omega),<-hp,List.getLast?_eq_getElem?]
theorem HT{γ:Type}{p:UInt8->Bool}{f:aq->Heap->Option (AX×aq×Heap)}(s:ByteArray){σ:Heap}{k:AX×aq×Heap->Option γ}(K2:Option γ)
  (hstep:∀(i:Nat)(c:UInt8),i<s.size->A.lJ (.str s) (.ah (i:Int))=δ (.int .u8 c.toNat)->f [.bool ι,.ah (i:Int)] σ=if p c=η then δ (.normal,[.bool ι,.ah ((i:Int)+1)],σ)else δ (.ret,[.bool ι,.ah (i:Int)],σ))
  (hend:f [.bool ι,.ah (s.size:Int)] σ=δ (.exit 0,[.bool ι,.ah (s.size:Int)],σ)) (hk2:∀i:Int,k (.ret,[.bool ι,.ah i],σ)=K2):
  (Zo f [.bool ι,.ah 0] σ).bind k=if s.data.toList.all p=η then k (.exit 0,[.bool ι,.ah (s.size:Int)],σ)else K2:=by
 have hsz:s.data.toList.length=s.size:=rfl
 refine(mj (S:=Unit) (R:=Unit) s.data.toList (λ_ c _=>if p c=η then .go ()else .out ()) (λpre _=>[.bool ι,.ah (pre.length:Int)]) (λ_ _=>σ) (λ_=>(.exit 0,[.bool ι,.ah (s.size:Int)],σ)) (λpre _ _=>(.ret,[.bool ι,.ah (pre.length:Int)],σ)) (λ_ _=>True) ()
  (λ_=>k (.exit 0,[.bool ι,.ah (s.size:Int)],σ)) (λ_=>K2) ?_ ?_ trivial (λ_ _ _ _ _ _ _ _=>trivial) (λ_ _=>rfl) (λ_ _ _ _ _ _ _ _=>hk2 _)).trans ?_
 ·intro pre c rest u hl _;have hlt:=nZ hl;have hc:=mo hl;rw[hsz]at hlt
  have hsi:A.lJ (.str s) (.ah (pre.length:Int))=δ (.int .u8 c.toNat):=by have h2:s[pre.length]=c:=(bG.1 hc).2;simp [A.lJ,A.idx,hlt,h2]
  rw[hstep pre.length c hlt hsi];cases p c<;>simp [Rd.el]
 ·intro u _;rw[hsz];exact hend
 ·have key:∀(l pre:List UInt8),(hJ (λ(_:List UInt8)c(_:Unit)=>if p c=η then(Rd.go ():Rd Unit Unit)else .out ()) pre l ()).el (λ_=>k (.exit 0,[.bool ι,.ah (s.size:Int)],σ)) (λ_=>K2)=if l.all p=η then k (.exit 0,[.bool ι,.ah (s.size:Int)],σ)else K2:=by
   intro l;induction l with
   |nil=>intro pre;simp [hJ,Rd.el]
   |cons c l ih=>
    intro pre;rw[hJ];cases hc:p c
    ·simp [hc,Rd.el]
    ·simp only[if_true];rw[ih];simp [hc]
  exact key s.data.toList []
section
variable {α : Type} (g : α -> ByteArray) (gi : α -> Int) (v : α -> AV)
theorem VU(k:ByteArray):∀(l:List α),ZE .z (.str k) (l.map λx=>(ap3 (g x),v x))=δ ((l.find? λx=>decide (k=g x)).map v)
 |[]=>rfl
 |x::l=>by
  simp only[dH,ZE,Yt,A.qc,aO,Ui];by_cases h:k=g x
  ·rw[bq];simp [h]
  ·rw[bq];simp [h,VU k l]
theorem VT(kk:IntKind)(k:Int):∀(l:List α),ZE .i (.int kk k) (l.map λx=>(UB kk (gi x),v x))=δ ((l.find? λx=>decide (k=gi x)).map v)
 |[]=>rfl
 |x::l=>by
  simp only[dH,ZE,Yt,A.nO,if_true,aO,Ui];by_cases h:k=gi x
  ·have:(k==gi x)=η:=by simpa using h
   simp [this,h]
  ·have:(k==gi x)=ι:=by simpa using h
   simp [this,h,VT kk k l]
theorem NU{k:ByteArray}{w:AV}:∀{l:List α},(∀x∈l,g x≠k)->A.upd .z (.str k) w (l.map λx=>(ap3 (g x),v x))=δ ((l.map λx=>(ap3 (g x),v x))++[(.str k,w)])
 |[],_=>rfl
 |x::l,h=>by
  have h1:(k==g x)=ι:=by rw[bq];exact gq λe:k=g x=>h x (by simp) e.symm
  simp only[dH,A.upd,Yt,A.qc,aO,h1,bk];rw[NU (λy hy=>h y (by simp [hy]))];rfl
theorem NT{kk:IntKind}{k:Int}{w:AV}:∀{l:List α},(∀x∈l,gi x≠k)->A.upd .i (.int kk k) w (l.map λx=>(UB kk (gi x),v x))=δ ((l.map λx=>(UB kk (gi x),v x))++[(.int kk k,w)])
 |[],_=>rfl
 |x::l,h=>by
  have h1:(k==gi x)=ι:=by simpa using λe:k=gi x=>h x (by simp) e.symm
  simp only[dH,A.upd,Yt,A.nO,if_true,aO,h1,bk];rw[NT (λy hy=>h y (by simp [hy]))];rfl
end
theorem zz(e:A.EK){k z:AV}{σ:Heap}{id:Nat}{es:List (AV×AV)}(hk:A.fP e k=η)(h:σ[id]? =δ (.map es)):ZJ e (.om id) k z σ=(ZE e k es).map λr=>r.getD z:=by simp [ZJ,hk,R2,h]
theorem Ey(e:A.EK){k w:AV}{σ:Heap}{id:Nat}{es:List (AV×AV)}(hk:A.fP e k=η)(h:σ[id]? =δ (.map es)):Uj e (.om id) k w σ=(A.upd e k w es).map λes=>σ.set id (.map es):=by simp [Uj,hk,h]
theorem aom{α:Type}(l:List α)(x:α):(((l++[x]).length:Nat):Int)=(l.length:Int)+1:=by simp
theorem Hx{α:Type}(sz:Nat)(c:α->aq)(l:List α){k:Nat}{x:α}(h0:0<k)(h:l[k-1]? =δ x):Zp sz (sl sz c l) (.ah ((k:Int) -1))=δ (.rp (c x)):=by have:=mh sz c l h;rwa[show((k-1:Nat):Int)=(k:Int) -1 by omega]at this
def kX{α:Type}(g:α->ByteArray)(l:List α):List (AV×AV):=l.map λx=>(ap3 (g x),χ η)
def oY{α:Type}(g:α->Int)(l:List α):List (AV×AV):=l.map λx=>(ε (g x),χ η)
theorem My{α:Type}(p:α->Bool):∀(l:List α),((l.find? p).map λ_=>χ η).getD aT=χ (l.any p)
 |[]=>rfl
 |x::l=>by
  simp only[Ui,List.any_cons];cases h:p x
  ·simpa using My p l
  ·rfl
theorem TU{α:Type}(g:α->ByteArray)(k:ByteArray)(l:List α):(ZE .z (.str k) (kX g l)).map (λr=>r.getD (.bool ι))=δ (.bool (eA k (l.map g))):=by unfold kX;rw[VU g (λ_=>χ η) k l,ff,My];refine congrArg δ (congrArg χ ?_);rw[kE,Ie];simp only[Xd,decide_eq_true_eq,i6];exact⟨λ⟨x,h,e⟩=>⟨x,h,e.symm⟩,λ⟨x,h,e⟩=>⟨x,h,e.symm⟩⟩
theorem TQ{α:Type}(g:α->Int)(k:Int)(l:List α):(ZE .i (.ah k) (oY g l)).map (λr=>r.getD (.bool ι))=δ (.bool (eA k (l.map g))):=by unfold oY;rw[VT g (λ_=>χ η) Θ k l,ff,My];refine congrArg δ (congrArg χ ?_);rw[kE,Ie];simp only[Xd,decide_eq_true_eq,i6];exact⟨λ⟨x,h,e⟩=>⟨x,h,e.symm⟩,λ⟨x,h,e⟩=>⟨x,h,e.symm⟩⟩
section
variable {α : Type} (g : α -> ByteArray) (gi : α -> Int) (l : List α) (k : ByteArray) (n : Int) (σ bs : Heap) (b0 : aP)
theorem S9:ZJ .z (.om σ.length) (.str k) (.bool ι) (σ++ZH (kX g l)::bs)=δ (.bool (eA k (l.map g))):=by rw[zz .z rfl (by rw[CL];rfl),TU]
theorem aoI:ZJ .i (.om σ.length) (.ah n) (.bool ι) (σ++ZH (oY gi l)::bs)=δ (.bool (eA n (l.map gi))):=by rw[zz .i rfl (by rw[CL];rfl),TQ]
theorem Ta:ZJ .z (.om (σ.length+1)) (.str k) (.bool ι) (σ++b0::ZH (kX g l)::bs)=δ (.bool (eA k (l.map g))):=by rw[zz .z rfl (by rw[JC];rfl),TU]
theorem S8:ZJ .i (.om (σ.length+1)) (.ah n) (.bool ι) (σ++b0::ZH (oY gi l)::bs)=δ (.bool (eA n (l.map gi))):=by rw[zz .i rfl (by rw[JC];rfl),TQ]
theorem TW(h:eA k (l.map g)=ι):Uj .z (.om σ.length) (.str k) (.bool η) (σ++ZH (kX g l)::bs)=δ (σ++ZH (kX g l++[(.str k,.bool η)])::bs):=by rw[Ey .z rfl (by rw[CL];rfl),kX,NU g _ (λx hx e=>HB.1 h (by rw[<-e];exact apV hx)),ff,NL];rfl
theorem TS(h:eA n (l.map gi)=ι):Uj .i (.om σ.length) (.ah n) (.bool η) (σ++ZH (oY gi l)::bs)=δ (σ++ZH (oY gi l++[(.ah n,.bool η)])::bs):=by rw[Ey .i rfl (by rw[CL];rfl),oY,NT gi _ (λx hx e=>HB.1 h (by rw[<-e];exact apV hx)),ff,NL];rfl
theorem TX(h:eA k (l.map g)=ι):Uj .z (.om (σ.length+1)) (.str k) (.bool η) (σ++b0::ZH (kX g l)::bs)=δ (σ++b0::ZH (kX g l++[(.str k,.bool η)])::bs):=by rw[Ey .z rfl (by rw[JC];rfl),kX,NU g _ (λx hx e=>HB.1 h (by rw[<-e];exact apV hx)),ff,rC];rfl
theorem TT(h:eA n (l.map gi)=ι):Uj .i (.om (σ.length+1)) (.ah n) (.bool η) (σ++b0::ZH (oY gi l)::bs)=δ (σ++b0::ZH (oY gi l++[(.ah n,.bool η)])::bs):=by rw[Ey .i rfl (by rw[JC];rfl),oY,NT gi _ (λx hx e=>HB.1 h (by rw[<-e];exact apV hx)),ff,rC];rfl
end
theorem aoF{α:Type}(g:α->ByteArray)(l:List α)(x:α):kX g (l++[x])=kX g l++[(.str (g x),.bool η)]:=by simp [kX]
theorem L6(σ:Heap)(v:AV):Zu (δ (v,σ)) σ=δ v:=by simp [Zu]
def Fz(a:AV):Prop:=∀σ n d,X0 σ n d a=δ a
def rI(l:aq):Prop:=∀σ n d,Xu σ n d l=δ l
theorem th(k:IntKind)(n:Int):Fz (.int k n):=λ_ _ d=>by cases d<;>simp [X0]
theorem Iu(b:Bool):Fz (.bool b):=λ_ _ d=>by cases d<;>simp [X0]
theorem agI(s:ByteArray):Fz (.str s):=λ_ _ d=>by cases d<;>simp [X0]
theorem VX:Fz .aC:=λ_ _ d=>by cases d<;>simp [X0]
theorem agH{l:aq}(h:rI l):Fz (.agg l):=λσ n d=>by cases d<;>simp [X0,h σ n]
theorem aoJ:rI []:=λ_ _ _=>by simp [Xu]
theorem MF{a:AV}{l:aq}(h:Fz a)(k:rI l):rI (a::l):=λσ n d=>by simp [Xu,h σ n d,k σ n d]
theorem Je{α:Type}{c:α->aq}(h:∀x,rI (c x))(l:List α)(σ:Heap)(n d:Nat):A.lG σ n d (l.map c)=δ (l.map c):=by
 induction l with
 |nil=>simp [A.lG]
 |cons x l ih=>simp [A.lG,h x σ n d,ih]
def sH{α:Type}(id sz:Nat)(l:List α):AV:=if l=[]then .aC else .os id l.length sz 0 l.length
def pX{α:Type}(sz:Nat)(c:α->aq)(l:List α):Heap:=if l=[]then[]else[.arr l.length sz (l.map c)]
theorem ae4{α:Type}(sz:Nat)(c:α->aq):pX sz c []=[]:=rfl
theorem ac4{α:Type}{sz most:Nat}(c:α->aq)(l:List α)(x:α)(σ:Heap)(h:l.length+1<=most):ZI sz most (sH σ.length sz l) (.sl sz [c x]) (σ++pX sz c l)=δ (sH σ.length sz (l++[x]),σ++pX sz c (l++[x])):=by
 unfold sH pX;cases l with
 |nil=>
  have h1:1<=most:=by simpa using h
  simp [ZI,A.kS,Vl,h1]
 |cons y l=>
  have h1:l.length+1+1<=most:=by simpa using h
  simp [ZI,A.kS,Vl,h1,CL,NL,kU,mR]
theorem aga{α:Type}{sz:Nat}{c:α->aq}(hc:∀x,rI (c x))(l:List α)(σ:Heap)(d:Nat):X0 (σ++pX sz c l) σ.length (d+1) (sH σ.length sz l)=δ (if l=[]then .aC else sl sz c l):=by
 unfold sH pX;split
 ·simp [X0]
 ·rename_i hl;simp only[X0,Nat.lt_irrefl,if_false,CL,Y3];rw[aH (by simp)];have e:(List.take l.length (List.drop 0 (l.map c)))=l.map c:=by simp [mR]
  rw[e,zx,Je hc];rfl
theorem aeQ{α:Type}{sz:Nat}{c:α->aq}(hc:∀x,rI (c x))(l:List α)(k:IntKind)(n:Int)(σ:Heap):wh σ (.aJ [sH σ.length sz l,.int k n]) (σ++pX sz c l)=δ (.aJ [if l=[]then .aC else sl sz c l,.int k n],σ):=by
 unfold wh;split
 ·rename_i h;have:pX sz c l=[]:=by simpa using h
  have hl:l=[]:=by
   unfold pX at this;split at this
   ·assumption
   ·cases this
  subst hl;rfl
 ·rw[aH (by simp)]
  have:X0 (σ++pX sz c l) σ.length 8 (.aJ [sH σ.length sz l,.int k n])=δ (.aJ [if l=[]then .aC else sl sz c l,.int k n]):=by simp only[X0,Xu,aga hc,th k n _ _ _,aO,ff]
  rw[this];rfl
theorem agY{α:Type}(sz:Nat)(c:α->aq)(l:List α):S7 (.s sz) (if l=[]then .aC else sl sz c l)=sl sz c l:=by
 split
 ·rename_i h;subst h;rfl
 ·rfl
def mT{α:Type}(p:α->Bool)(l:List α):Int:=match l.findIdx? p with|some i=>i|none=>-1
theorem BY{α:Type}(p:α->Bool)(l:List α):(mT p l=-1/\(∀x∈l,p x=ι)/\l.find? p=μ)\/∃(k:Nat)(x:α),l[k]? =δ x/\p x=η/\mT p l=k/\l.find? p=δ x/\∀(j:Nat)(y:α),j<k->l[j]? =δ y->p y=ι:=by
 induction l with
 |nil=>left;exact⟨rfl,by simp,rfl⟩
 |cons x l ih=>
  cases h:p x
  ·rcases ih with⟨h1,h2,h3⟩|⟨k,y,h1,h2,h3,h4,h5⟩
   ·left;refine⟨?_,?_,?_⟩
    ·unfold mT at h1 ⊢;rw[ap6,h];cases hf:l.findIdx? p with
     |none=>simp
     |some i=>rw[hf]at h1;simp at h1
    ·intro y hy;rcases fA.1 hy with rfl|hy
     ·exact h
     ·exact h2 y hy
    ·simp [Ui,h,h3]
   ·right;refine⟨k+1,y,by simpa using h1,h2,?_,by simp [Ui,h,h4],?_⟩
    ·unfold mT at h3 ⊢;rw[ap6,h];cases hf:l.findIdx? p with
     |none=>rw[hf]at h3;simp at h3
     |some i=>rw[hf]at h3;simp at h3 ⊢;omega
    ·intro j z hj hz;cases j with
     |zero=>simp at hz;subst hz;exact h
     |succ j=>exact h5 j z (by omega) (by simpa using hz)
  ·right;refine⟨0,x,rfl,h,?_,by simp [Ui,h],by intro j y hj;omega⟩;unfold mT;rw[ap6,h];rfl
theorem Ek{α:Type}{γ:Type}(p:α->Bool)(K1:Option γ)(K2:Int->Option γ):∀(l pre:List α),(∀x∈pre,p x=ι)->(hJ (λpre x(_:Unit)=>if p x=η then(Rd.out (pre.length:Int):Rd Unit Int)else .go ()) pre l ()).el (λ_=>K1) K2=if mT p (pre++l)=-1 then K1 else K2 (mT p (pre++l))
 |[],pre,h=>by
  have:mT p (pre++[])=-1:=by
   rcases BY p (pre++[])with h1|⟨k,x,h1,h2,_⟩
   ·exact h1.1
   ·have:=h x (by have:=ct h1;simpa using this);rw[h2]at this;cases this
  rw[hJ,sB,aH this]
 |x::l,pre,h=>by
  rw[hJ];cases hx:p x
  ·simp only[ZD,if_false]
   have:=Ek p K1 K2 l (pre++[x]) (λy hy=>by
    rcases fB.1 hy with hy|hy
    ·exact h y hy
    ·simp at hy;subst hy;exact hx)
   simpa using this
  ·simp only[if_true,sA]
   have:mT p (pre++x::l)=pre.length:=by
    rcases BY p (pre++x::l)with h1|⟨k,y,h1,h2,h3,_,h5⟩
    ·have:=h1.2.1 x (by simp);rw[hx]at this;cases this
    ·rw[h3];rcases Nat.lt_trichotomy k pre.length with hk|hk|hk
     ·rw[gZ hk]at h1;have:=h y (ct h1);rw[h2]at this;cases this
     ·omega
     ·have:=h5 pre.length x hk (by simp);rw[hx]at this;cases this
   rw[this,aF (by omega)]
theorem UH{α R γ:Type}(p:α->Bool)(r:R)(K1:Unit->γ)(K2:R->γ):∀(l pre:List α),(hJ (λ_ x(_:Unit)=>if p x=η then(Rd.out r:Rd Unit R)else .go ()) pre l ()).el K1 K2=if l.any p=η then K2 r else K1 ()
 |[],pre=>by simp [hJ,Rd.el]
 |x::l,pre=>by
  rw[hJ];cases h:p x
  ·simp only[ZD,if_false];rw[UH p r K1 K2 l (pre++[x])];simp [h]
  ·simp [h,Rd.el]
theorem Hu{α:Type}(sz:Nat)(c:α->aq)(l:List α){k:Nat}(h:k<=l.length){σ:Heap}:A.gQ sz (sl sz c l) μ (δ (.ah (k:Int))) σ=δ (sl sz c (l.take k)):=by simp [A.gQ,sl,Sq,h,List.map_take]
theorem Ii{α:Type}{l pre rest:List α}{x:α}(h:l=pre++x::rest):l.take pre.length=pre:=by rw[h];simp
theorem TR(l:List Int)(n:Int):oY id l++[(.ah n,.bool η)]=oY id (l++[n]):=by simp [oY]
theorem ad8{κ:Type}[DecidableEq κ](k x:κ)(S:List κ):eA k (S++[x])=(eA k S||decide (x=k)):=by simp [eA]
theorem ajo{α:Type}{sz:Nat}{c:α->aq}{sh:List Sh}(h:∀x,Ug sh (c x)=c x)(l:List α):S7 (.e sz sh) (sl sz c l)=sl sz c l:=by simp only[sl,S7,List.map_map];congr 1;exact RO λx _=>h x
theorem af6(sz:Nat)(sh:List Sh):S7 (.e sz sh) .aC=.sl sz []:=by simp [S7]
theorem zy{α γ:Type}{f:aq->Heap->Option (AX×aq×Heap)}(l:List α)(p:α->Bool)(vs:Nat->aq)(σ:Heap)(fin:AX×aq×Heap)(ret:Nat->AX×aq×Heap){k:AX×aq×Heap->Option γ}(K1 K2:Option γ)
  (hstep:∀(i:Nat)(x:α),l[i]? =δ x->f (vs i) σ=if p x=η then δ (ret i)else δ (.normal,vs (i+1),σ)) (hend:f (vs l.length) σ=δ fin) (hk1:k fin=K1) (hk2:∀i,k (ret i)=K2)
  (zZ:fin.1≠.normal:=by simp) (E5:∀i,(ret i).1≠.normal:=by intros;simp) {v:aq} {σ':Heap} (hv:v=vs 0:=by rfl) (eD:σ'=σ:=by rfl):
  (Zo f v σ').bind k=if l.any p=η then K2 else K1:=by
 subst hv eD
 refine(mj (S:=Unit) (R:=Unit) l (λ_ x _=>if p x=η then .out ()else .go ()) (λpre _=>vs pre.length) (λ_ _=>σ') (λ_=>fin) (λpre _ _=>ret pre.length) (λ_ _=>True) () (λ_=>K1) (λ_=>K2)
  ?_ (λ_ _=>hend) trivial (λ_ _ _ _ _ _ _ _=>trivial) (λ_ _=>hk1) (λ_ _ _ _ _ _ _ _=>hk2 _) (λ_=>zZ) (λ_ _ _=>E5 _)).trans (UH p () _ _ l [])
 intro pre x rest u hl _;rw[hstep pre.length x (mo hl)];cases p x<;>simp [Rd.el]
theorem Ig{α κ:Type}[DecidableEq κ](k:κ)(g:α->κ)(l:List α):eA k (l.map g)=l.any λx=>decide (g x=k):=by simp [eA,List.any_map];rfl
theorem uG{α:Type}(sz:Nat)(c:α->aq){l:List α}{k:Nat}{x:α}(h:l[k]? =δ x):Zp sz (sl sz c l) (.ah (k:Int))=δ (.rp (c x))/\(k:Int)<(l.length:Int)/\(l.length<=bf->Θ.wrap ((k:Int)+1)=(k:Int)+1):=
 ⟨mh sz c l h,by have:=(bG.1 h).1;omega,λhl=>dc (by have:=(bG.1 h).1;unfold bE;unfold bf at hl;omega)⟩
theorem aoh{α γ:Type}{f:aq->Heap->Option (AX×aq×Heap)}(l:List α)(p:α->Bool)(vs:Nat->aq)(σ:Heap)(fin:AX×aq×Heap)(ret:Nat->α->AX×aq×Heap){k:AX×aq×Heap->Option γ}(K1:Option γ)(K2:α->Option γ)
  (hstep:∀(i:Nat)(x:α),l[i]? =δ x->f (vs i) σ=if p x=η then δ (ret i x)else δ (.normal,vs (i+1),σ)) (hend:f (vs l.length) σ=δ fin) (hk1:k fin=K1) (hk2:∀i x,k (ret i x)=K2 x)
  (zZ:fin.1≠.normal:=by simp) (E5:∀i x,(ret i x).1≠.normal:=by intros;simp) {v:aq} {σ':Heap} (hv:v=vs 0:=by rfl) (eD:σ'=σ:=by rfl):
  (Zo f v σ').bind k=(l.find? p).elim K1 K2:=by
 subst hv eD
 have run:∀(l pre:List α),(hJ (λ_ x(_:Unit)=>if p x=η then(Rd.out x:Rd Unit α)else .go ()) pre l ()).el (λ_=>K1) K2=(l.find? p).elim K1 K2:=by
  intro l;induction l with
  |nil=>intro pre;rfl
  |cons x l ih=>
   intro pre;rw[hJ];cases h:p x
   ·simp only[ZD,if_false];rw[ih,List.find?_cons,h]
   ·simp [h,Rd.el]
 refine(mj (S:=Unit) (R:=α) l (λ_ x _=>if p x=η then .out x else .go ()) (λpre _=>vs pre.length) (λ_ _=>σ') (λ_=>fin) (λpre _ x=>ret pre.length x) (λ_ _=>True) () (λ_=>K1) K2
  ?_ (λ_ _=>hend) trivial (λ_ _ _ _ _ _ _ _=>trivial) (λ_ _=>hk1) (λ_ _ _ _ _ _ _ _=>hk2 _ _) (λ_=>zZ) (λ_ _ _=>E5 _ _)).trans (run l [])
 intro pre x rest u hl _;rw[hstep pre.length x (mo hl)];cases p x<;>simp [Rd.el]
theorem ae0{α γ:Type}{f:aq->Heap->Option (AX×aq×Heap)}(l:List α)(p:α->Bool)(vs:Nat->aq)(σ:Heap)(fin:AX×aq×Heap)(ret:Nat->AX×aq×Heap){k:AX×aq×Heap->Option γ}(K1:Option γ)(K2:Int->Option γ)
  (hstep:∀(i:Nat)(x:α),l[i]? =δ x->f (vs i) σ=if p x=η then δ (ret i)else δ (.normal,vs (i+1),σ)) (hend:f (vs l.length) σ=δ fin) (hk1:k fin=K1) (hk2:∀i:Nat,k (ret i)=K2 i)
  (zZ:fin.1≠.normal:=by simp) (E5:∀i,(ret i).1≠.normal:=by intros;simp) {v:aq} {σ':Heap} (hv:v=vs 0:=by rfl) (eD:σ'=σ:=by rfl):
  (Zo f v σ').bind k=if mT p l=-1 then K1 else K2 (mT p l):=by
 subst hv eD
 refine(mj (S:=Unit) (R:=Int) l (λpre x _=>if p x=η then .out (pre.length:Int)else .go ()) (λpre _=>vs pre.length) (λ_ _=>σ') (λ_=>fin) (λpre _ _=>ret pre.length) (λ_ _=>True) () (λ_=>K1) K2
  ?_ (λ_ _=>hend) trivial (λ_ _ _ _ _ _ _ _=>trivial) (λ_ _=>hk1) ?_ (λ_=>zZ) (λ_ _ _=>E5 _)).trans ?_
 ·intro pre x rest u hl _;rw[hstep pre.length x (mo hl)];cases p x<;>simp [Rd.el]
 ·intro pre x rest s r hl _ hb;rw[hk2];cases h:p x
  ·rw[h]at hb;cases hb
  ·rw[h]at hb;simp at hb;rw[hb]
 ·have:=Ek p K1 K2 l [] (by simp);simpa using this
theorem tc{α:Type}(n:Int)(B:AV->Option α)(s:Option α):((ZN (.ah n) (.ah n)).bind λx=>ξ x (B x) s)=s:=by simp only[tJ,Z4,aO,decide_false,cF]
section
variable {α β : Type}
theorem adR{c c':AV}(h:c=c')(t e:Option α):ξ c t e=ξ c' t e:=by rw[h]
theorem acS{c c':AV}(h:c=c')(w:Bool)(e d:Option α):θ c w e d=θ c' w e d:=by rw[h]
theorem adH{x y:Option α}(h:x=y)(f:α->Option β):x.bind f=y.bind f:=by rw[h]
attribute [congr] adR acS adH
end
theorem aD:type_of% @aO.{0,0}/\type_of% @ff.{0,0}/\type_of% @cT/\type_of% @cF/\type_of% @Yp/\type_of% @Yo/\type_of% @Yn/\type_of% @anX/\type_of% @gN/\type_of% @pT/\type_of% @pF/\type_of% @bz.{1}/\type_of% @bk.{1}/\type_of% @xN/\type_of% @CI/\type_of% @zP/\type_of% @Xb/\type_of% @tJ/\type_of% @EU/\type_of% @Jb/\type_of% @Ja/\type_of% @WC/\type_of% @WB/\type_of% @apv/\type_of% @Wy/\type_of% @ef/\type_of% @gu/\type_of% @Xa/\type_of% @NY/\type_of% @Xc/\type_of% @WD/\type_of% @vn/\type_of% @Wu/\type_of% @apk/\type_of% @Ww/\type_of% @apf/\type_of% @Ye/\type_of% @Yf/\type_of% @WA/\type_of% @Yc/\type_of% @Yb/\type_of% @Yd/\type_of% @W9/\type_of% @QF/\type_of% @Yr/\type_of% @aoM/\type_of% @aoB/\type_of% @apn/\type_of% @Yw/\type_of% @Yx/\type_of% @Yy/\type_of% @Yz/\type_of% @an4/\type_of% @bU/\type_of% @MY/\type_of% @aoU/\type_of% @aop/\type_of% @Uk/\type_of% @cy/\type_of% @ite_true.{1}/\type_of% @ite_false.{1}/\type_of% @if_true.{1}/\type_of% @if_false.{1}/\type_of% @ZD/\type_of% @not_true_eq_false/\type_of% @not_false_eq_true/\type_of% @decide_true/\type_of% @decide_false/\type_of% @YV/\type_of% @Bool.not_false/\type_of% @nG.{0}/\type_of% @kF.{0}/\type_of% @YU.{0}/\type_of% @R6.{0}/\type_of% @jS/\type_of% @Vr/\type_of% @aom/\type_of% @Int.natCast_add/\type_of% @Int.cast_ofNat_Int/\type_of% @L6/\type_of% @sB/\type_of% @sA/\type_of% @uM/\type_of% @S9/\type_of% @aoI/\type_of% @Ta/\type_of% @S8/\type_of% @aoF/\type_of% @TW/\type_of% @TS/\type_of% @TX/\type_of% @TT/\type_of% @true_and/\type_of% @and_true/\type_of% @false_and/\type_of% @and_false/\type_of% @true_or/\type_of% @or_true/\type_of% @false_or/\type_of% @or_false/\type_of% @Sk.{0}/\type_of% @UG.{0}/\type_of% @PU.{0}/\type_of% @ZT.{0}/\type_of% @Us.{0}/\type_of% @Z3/\type_of% @Nat.add_zero:=
 ⟨@aO.{0,0},@ff.{0,0},@cT,@cF,@Yp,@Yo,@Yn,@anX,@gN,@pT,@pF,@bz.{1},@bk.{1},@xN,@CI,@zP,@Xb,@tJ,@EU,@Jb,@Ja,@WC,@WB,@apv,@Wy,@ef,@gu,@Xa,@NY,@Xc,@WD,@vn,@Wu,@apk,@Ww,@apf,@Ye,@Yf,@WA,@Yc,@Yb,@Yd,@W9,@QF,@Yr,@aoM,@aoB,@apn,@Yw,@Yx,@Yy,@Yz,@an4,@bU,@MY,@aoU,@aop,@Uk,@cy,@ite_true.{1},@ite_false.{1},@if_true.{1},@if_false.{1},@ZD,@not_true_eq_false,@not_false_eq_true,@decide_true,@decide_false,@YV,@Bool.not_false,@nG.{0},@kF.{0},@YU.{0},@R6.{0},@jS,@Vr,@aom,@Int.natCast_add,@Int.cast_ofNat_Int,@L6,@sB,@sA,@uM,@S9,@aoI,@Ta,@S8,@aoF,@TW,@TS,@TX,@TT,@true_and,@and_true,@false_and,@and_false,@true_or,@or_true,@false_or,@or_false,@Sk.{0},@UG.{0},@PU.{0},@ZT.{0},@Us.{0},@Z3,@Nat.add_zero⟩
end
open Rd renaming out->aqA,el->apM
theorem pQ(n:Int):rI (aL n):=MF (th _ _) aoJ
theorem U7(x:cV):rI (dm x):=(MF (th _ _) (MF (agI _) aoJ))
instance : Inhabited ByteArray := ⟨⟨#[]⟩⟩
instance : Inhabited VL := ⟨⟨0, 0⟩⟩
instance : Inhabited Nc := ⟨⟨0, []⟩⟩
instance : Inhabited ao4 := ⟨⟨0, 0, 0, 0, 0, ⟨0, []⟩⟩⟩
instance : Inhabited afp := ⟨⟨0, 0⟩⟩
instance : Inhabited mu := ⟨⟨0, 0, ⟨#[]⟩⟩⟩
instance : Inhabited eM := ⟨⟨⟨#[]⟩, 0, 0, 0, 0, ι, []⟩⟩
instance : Inhabited cE := ⟨⟨⟨#[]⟩, 0, []⟩⟩
instance : Inhabited fE := ⟨⟨0, ⟨#[]⟩, 0, 0⟩⟩
instance : Inhabited dj := ⟨⟨[], []⟩⟩
instance : Inhabited cV := ⟨⟨0, ⟨#[]⟩⟩⟩
theorem UZ(a b:cV):Yt (.s [0,2]) (.agg (dm a)) (.agg (dm b))=δ (decide (a=b)):=by obtain⟨x1,x2⟩:=a;obtain⟨wN,yI⟩:=b;simp only[Yt,dm,Ud,A.mW,A.nO,A.vA,A.qc,if_true,aO,ff,bq];congr 1;rw[kE];simp [and_assoc]
instance : Inhabited qx := ⟨⟨⟨0, ⟨#[]⟩⟩, 0⟩⟩
instance : Inhabited cJ := ⟨⟨0, ⟨#[]⟩, []⟩⟩
instance : Inhabited ahO := ⟨⟨[], 0, 0⟩⟩
instance : Inhabited Nd := ⟨⟨0, 0⟩⟩
instance : Inhabited IV := ⟨⟨⟨0, ⟨#[]⟩⟩, ⟨0, 0⟩, ι, ι, 0, 0⟩⟩
instance : Inhabited wC := ⟨⟨0, ⟨#[]⟩, 0, 0, 0, 0, ⟨0, []⟩, ι, 0, []⟩⟩
instance : Inhabited agu := ⟨⟨⟨0, ⟨#[]⟩⟩, ⟨0, 0⟩, 0⟩⟩
instance : Inhabited ahb := ⟨⟨0, 0, 0⟩⟩
instance : Inhabited Ws := ⟨⟨0, []⟩⟩
instance : Inhabited Tg := ⟨⟨0, 0, 0⟩⟩
instance : Inhabited agx := ⟨⟨⟨[], []⟩, [], [], []⟩⟩
instance : Inhabited UO := ⟨⟨0, 0, 0, 0, 0⟩⟩
instance : Inhabited agv := ⟨⟨0, ⟨0, 0, 0, 0, 0⟩⟩⟩
instance : Inhabited agy := ⟨⟨0, 0, 0, 0⟩⟩
instance : Inhabited W8 := ⟨⟨⟨0, ⟨#[]⟩⟩, ⟨0, 0, 0, 0, 0, ⟨0, []⟩⟩, 0, ι⟩⟩
instance : Inhabited adD := ⟨⟨0, 0, 0, ι, 0, []⟩⟩
instance : Inhabited R7 := ⟨⟨0, 0, 0⟩⟩
instance : Inhabited UP := ⟨⟨0, 0, 0, 0, 0, 0, ι, ι, []⟩⟩
instance : Inhabited Wt := ⟨⟨0, 0⟩⟩
instance : Inhabited aez := ⟨⟨⟨0, 0, 0, 0, 0, 0, ι, ι, []⟩, [], 0, [], 0, 0, 0⟩⟩
section
def Rf{β τ:Type}(M:Option β)(T:Option τ)(Q:τ->β->Prop):Prop:=∀t,T=δ t->∃b,M=δ b/\Q t b
section
variable {α β ω τ ζ : Type}
theorem ak{M0:Option α}{K:α->Option β}{T:Option τ}{Q:τ->β->Prop}(a:α)(h:M0=δ a)(k:Rf (K a) T Q):Rf (M0.bind K) T Q:=by intro t ht;obtain⟨b,h1,h2⟩:=k t ht;exact⟨b,by rw[h];exact h1,h2⟩
theorem fJ{M0:Option α}{K:α->Option β}{o:Option ω}{K':ω->Option τ}{Q:τ->β->Prop}(e:ω->α)(h:∀t,o=δ t->M0=δ (e t))(k:∀t,o=δ t->Rf (K (e t)) (K' t) Q):Rf (M0.bind K) (o.bind K') Q:=by intro t ht;obtain⟨x,h1,h2⟩:=bD.1 ht;obtain⟨b,h3,h4⟩:=k x h1 t h2;exact⟨b,by rw[h x h1];exact h3,h4⟩
theorem kH{M0:Option α}{K:α->Option β}{o:Option ω}{K':ω->Option τ}{Q:τ->β->Prop}(Q0:ω->α->Prop)(h:Rf M0 o Q0)(k:∀t a,Q0 t a->Rf (K a) (K' t) Q):Rf (M0.bind K) (o.bind K') Q:=by intro t ht;obtain⟨x,h1,h2⟩:=bD.1 ht;obtain⟨a,h3,h4⟩:=h x h1;obtain⟨b,h5,h6⟩:=k x a h4 t h2;exact⟨b,by rw[h3];exact h5,h6⟩
theorem aX{t:τ}{b:β}{Q:τ->β->Prop}(h:Q t b):Rf (δ b) (δ t) Q:=by intro u hu;cases hu;exact⟨b,rfl,h⟩
theorem bZ{M:Option β}{t:τ}{Q:τ->β->Prop}(b:β)(e:M=δ b)(h:Q t b):Rf M (δ t) Q:=by rw[e];exact aX h
theorem agi{M:Option β}{Q:τ->β->Prop}:Rf M (μ:Option τ) Q:=by intro u hu;cases hu
theorem NQ{M:Option β}{p:Prop}[Decidable p]{T:Option τ}{Q:τ->β->Prop}(h:p->Rf M T Q):Rf M (if p then T else μ) Q:=by
 split
 ·exact h ‹_›
 ·exact agi
theorem dN{p:Prop}[Decidable p]{X Y:Option β}{X' Y':Option τ}{Q:τ->β->Prop}(h1:p->Rf X X' Q)(h2:¬p->Rf Y Y' Q):Rf (ξ (.bool (decide p)) X Y) (if p then X' else Y') Q:=by
 by_cases h:p
 ·simp only[h,decide_true,if_true];exact h1 h
 ·simp only[h,decide_false,if_false];exact h2 h
theorem eO{c:Bool}{X Y:Option β}{X' Y':Option τ}{Q:τ->β->Prop}(h1:c=η->Rf X X' Q)(h2:c=ι->Rf Y Y' Q):Rf (ξ (.bool c) X Y) (if c=η then X' else Y') Q:=by
 cases c
 ·exact h2 rfl
 ·exact h1 rfl
theorem i5{X Y:Option β}{T:Option τ}{Q:τ->β->Prop}(h:Rf X T Q):Rf (ξ (.bool η) X Y) T Q:=h
theorem i4{X Y:Option β}{T:Option τ}{Q:τ->β->Prop}(h:Rf Y T Q):Rf (ξ (.bool ι) X Y) T Q:=h
theorem dJ{c:Bool}{X Y:Option β}{T:Option τ}{Q:τ->β->Prop}(e:c=η)(h:Rf X T Q):Rf (bif c then X else Y) T Q:=by rw[e];exact h
theorem ku{c:Bool}{X Y:Option β}{T:Option τ}{Q:τ->β->Prop}(e:c=ι)(h:Rf Y T Q):Rf (bif c then X else Y) T Q:=by rw[e];exact h
def gv{α:Type}(g:Bool)(e:α->AV)(t:α):AV:=bif g then e t else .aJ []
end
inductive Lr (S B R : Type) where
 |go(s:S)
 |Py(b:B)
 |ret(r:R)
def oA{α S B R:Type}(body:Nat->α->S->Option (Lr S B R))(fin:S->Option B):List α->Nat->S->Option (B ⊕ R)
 |[],_,s=>(fin s).map .inl
 |x::l,i,s=>(body i x s).bind λq=>match q with|.go s'=>oA body fin l (i+1) s'|.Py b=>δ (.inl b)|.ret r=>δ (.inr r)
def fR{α S B R γ:Type}(l:List α)(body:Nat->α->S->Option (Lr S B R))(fin:S->Option B)(s:S)(K1:B->Option γ)(K2:R->Option γ):Option γ:=
 if l.length<=bf then(oA body fin l 0 s).bind λq=>q.elim K1 K2 else μ
section
variable {α S B R β τ : Type}
abbrev LS:=AX×aq×Heap
def Pv(I:S->aq->Heap->Prop)(QB:B->LS->Prop)(QR:R->LS->Prop)(t:Lr S B R)(q:LS):Prop:=match t with
 |.go s=>q.1=.normal/\I s q.2.1 q.2.2
 |.Py b=>q.1≠.normal/\QB b q
 |.ret r=>q.1≠.normal/\QR r q
theorem iX{I:S->aq->Heap->Prop}{QB:B->LS->Prop}{QR:R->LS->Prop}{s:S}{v:aq}{σ:Heap}(h:I s v σ):Pv I QB QR (.go s) (.normal,v,σ):=⟨rfl,h⟩
theorem fu{I:S->aq->Heap->Prop}{QB:B->LS->Prop}{QR:R->LS->Prop}{r:R}{q:LS}(n:q.1≠.normal)(h:QR r q):Pv I QB QR (.ret r) q:=⟨n,h⟩
theorem iW{f:aq->Heap->Option LS}{K:LS->Option β}{Q:τ->β->Prop}{l:List α}{body:Nat->α->S->Option (Lr S B R)}{fin:S->Option B}{s0:S}{K1:B->Option τ}{K2:R->Option τ}{v0:aq}{au:Heap}
  (I:Nat->S->aq->Heap->Prop) (QB:B->LS->Prop) (QR:R->LS->Prop)
  (hstep:l.length<=bf->∀i x s v σ,l[i]? =δ x->I i s v σ->Rf (f v σ) (body i x s) (Pv (I (i+1)) QB QR))
  (hend:l.length<=bf->∀s v σ,I l.length s v σ->Rf (f v σ) (fin s) (λb q=>q.1≠.normal/\QB b q))
  (h0:I 0 s0 v0 au) (k1:l.length<=bf->∀b q,QB b q->Rf (K q) (K1 b) Q) (k2:l.length<=bf->∀r q,QR r q->Rf (K q) (K2 r) Q):
  Rf ((Zo f v0 au).bind K) (fR l body fin s0 K1 K2) Q:=by
 unfold fR;refine NQ λhl=>?_
 have hstep:=hstep hl;have hend:=hend hl
 have key:∀(rest pre:List α)(s:S)(v:aq)(σ:Heap),l=pre++rest->I pre.length s v σ->∀t,oA body fin rest pre.length s=δ t->∃q,(∃n,apH f n v σ=δ q)/\(match t with|.inl b=>QB b q|.inr r=>QR r q):=by
  intro rest;induction rest with
  |nil=>intro pre s v σ hl hI t ht;rw[TB]at hl;subst hl;simp only[oA]at ht;obtain⟨b,hb,rfl⟩:=cO.1 ht;obtain⟨q,h1,h2,h3⟩:=hend s v σ hI b hb;exact⟨q,vO h1 h2,h3⟩
  |cons x rest ih=>
   intro pre s v σ hl hI t ht;simp only[oA]at ht;obtain⟨y,hy,h2⟩:=bD.1 ht;obtain⟨q,h3,h4⟩:=hstep pre.length x s v σ (by rw[hl];simp) hI y hy;obtain⟨e,v',σ'⟩:=q;cases y with
   |go s'=>obtain⟨rfl,PX⟩:=h4;obtain⟨q,h5,h6⟩:=ih (pre++[x]) s' v' σ' (by simpa using hl) (by simpa using PX) t (by simpa using h2);exact⟨q,HL h3 h5,h6⟩
   |Py b=>simp only[ψ]at h2;subst h2;exact⟨_,vO h3 h4.1,h4.2⟩
   |ret b=>simp only[ψ]at h2;subst h2;exact⟨_,vO h3 h4.1,h4.2⟩
 intro t ht;obtain⟨y,hy,h2⟩:=bD.1 ht;obtain⟨q,⟨n,hn⟩,h3⟩:=key l [] s0 v0 au rfl h0 y hy;cases y with
 |inl b=>obtain⟨z,h4,h5⟩:=k1 hl b q h3 t h2;exact⟨z,by rw[DM hn];exact h4,h5⟩
 |inr b=>obtain⟨z,h4,h5⟩:=k2 hl b q h3 t h2;exact⟨z,by rw[DM hn];exact h4,h5⟩
theorem dP{l:List α}{i:Nat}{x:α}(h:l[i]? =δ x):ZN (.ah (i:Int)) (.ah (l.length:Int))=δ (.bool η):=by have:=(bG.1 h).1;rw[tJ];simp;omega
theorem dX(l:List α):ZN (.ah (l.length:Int)) (.ah (l.length:Int))=δ (.bool ι):=by rw[tJ];simp
theorem dY{l:List α}{i:Nat}{x:α}(h:l[i]? =δ x)(hl:l.length<=bf):Zn (.ah (i:Int)) (.ah 1)=δ (.ah ((i+1:Nat):Int)):=by have:=(bG.1 h).1;rw[CI,dc (by unfold bE;unfold bf at hl;omega)];simp
def sk(l:List α)(i:Int):Option α:=if 0<=i then l[i.toNat]? else μ
theorem zI{sz:Nat}{c:α->aq}{l:List α}{i:Int}{x:α}(h:sk l i=δ x):Zp sz (sl sz c l) (.ah i)=δ (.rp (c x)):=by
 unfold sk at h;split at h
 ·exact ad1 sz c l ‹_› h
 ·cases h
theorem ey{sz:Nat}{c:α->aq}{l:List α}{i:Nat}{x:α}(h:l[i]? =δ x):Zp sz (sl sz c l) (.ah (i:Int))=δ (.rp (c x)):=mh sz c l h
end
theorem jR{M:aB}{v:AV}{σ:Heap}(h:M=δ (v,σ)):Zu M σ=δ v:=by rw[h,L6]
def tq {α:Type} (p:Prop) (x:α):Option α:=open Classical in if p then δ x else μ
theorem nB{α:Type}{p:Prop}{x:α}(h:p):tq p x=δ x:=aH h
theorem mw{α β:Type}{p:Prop}{x r:α}{M:Option β}{e:α->β}(h:p->M=δ (e x))(k:tq p x=δ r):M=δ (e r):=by
 unfold tq at k;split at k
 ·rename_i hp;injection k with k;subst k;exact h hp
 ·cases k
theorem gb(b t:Bool):ZM (.bool b) (bif b then .bool t else .aJ []) (.bool ι)=δ (.bool (b&&t)):=by cases b<;>rfl
theorem kr(b t:Bool):ZM (.bool b) (.bool η) (bif !b then .bool t else .aJ [])=δ (.bool (b||t)):=by cases b<;>rfl
section
variable {α β ω τ : Type} {G b : Bool} {M0 : Option AV} {K : AV -> Option β} {T : Option τ} {K' : ω -> Option τ} {o : Option ω} {Q : τ -> β -> Prop}
theorem bX(a:AV)(h:b=η->M0=δ a)(k:Rf (K (bif b then a else .aJ [])) T Q):Rf ((θ (.bool b) η M0 (δ (.aJ []))).bind K) T Q:=by refine ak _ ?_ k;cases b<;>simp_all [θ]
theorem bL(a:AV)(h:(!b)=η->M0=δ a)(k:Rf (K (bif !b then a else .aJ [])) T Q):Rf ((θ (.bool b) ι M0 (δ (.aJ []))).bind K) T Q:=by refine ak _ ?_ k;cases b<;>simp_all [θ]
theorem cY(a:AV)(h:(G&&b)=η->M0=δ a)(k:Rf (K (bif G&&b then a else .aJ [])) T Q):Rf ((θ (bif G then .bool b else .aJ []) η M0 (δ (.aJ []))).bind K) T Q:=by refine ak _ ?_ k;cases G<;>cases b<;>simp_all [θ]
theorem W3{g:Bool}{M:Option AV}{d:ω}(e:ω->AV)(hM:M=bif g then M0 else δ (.aJ []))(h:g=η->∀t,o=δ t->M0=δ (e t))(k:∀t,(g=η->o=δ t)->Rf (K (bif g then e t else .aJ [])) (K' t) Q):Rf (M.bind K) ((if g=η then o else δ d).bind K') Q:=by
 subst hM;cases g
 ·exact k d (by simp)
 ·intro t ht;simp only[if_true]at ht;obtain⟨x,h1,h2⟩:=bD.1 ht;obtain⟨y,h3,h4⟩:=k x (λ_=>h1) t h2;refine⟨y,?_,h4⟩;simp only[bz,h rfl x h1,aO];exact h3
theorem xY{d:ω}(e:ω->AV)(h:b=η->∀t,o=δ t->M0=δ (e t))(k:∀t,(b=η->o=δ t)->Rf (K (bif b then e t else .aJ [])) (K' t) Q):Rf ((θ (.bool b) η M0 (δ (.aJ []))).bind K) ((if b=η then o else δ d).bind K') Q:=W3 e (by cases b<;>rfl) h k
theorem ag4{d:ω}(e:ω->AV)(h:(!b)=η->∀t,o=δ t->M0=δ (e t))(k:∀t,((!b)=η->o=δ t)->Rf (K (bif !b then e t else .aJ [])) (K' t) Q):Rf ((θ (.bool b) ι M0 (δ (.aJ []))).bind K) ((if(!b)=η then o else δ d).bind K') Q:=W3 e (by cases b<;>rfl) h k
end
theorem vY{ro:Bool}{cL:List Sh}{dR:Sh}{r:aq->Heap->aB}{args args':aq}{σ:Heap}(hn:Ug cL args=Ug cL args')(h1:args.any T5=ι)(h2:args'.any T5=ι):Ξ ro cL dR r args σ=Ξ ro cL dR r args' σ:=by unfold Ξ;rw[h1,h2,hn,R4,bk,bk]
theorem IB{τ:Type}{ro:Bool}{cL:List Sh}{dR:Sh}{r:aq->Heap->aB}{args args':aq}{σ:Heap}{T:Option τ}{enc:τ->AV}(hn:Ug cL args=args')(h:args.any T5=ι)(e:Rf (r args' σ) T (λt b=>S7 dR b.1=enc t/\b.2=σ)):∀t,T=δ t->Ξ ro cL dR r args σ=δ (enc t,σ):=by intro t ht;obtain⟨⟨v,σ'⟩,h1,h2,h3⟩:=e t ht;simp only at h2 h3;subst h3;exact wrap_eq h (by rw[hn];exact h1) h2
theorem vU{τ:Type}{ro:Bool}{cL:List Sh}{dR:Sh}{f:AV->Heap->aB}{x0 y0:AV}{σ:Heap}{T:Option τ}{enc:τ->AV}(hn:Ug cL [x0]=[y0])(h:([x0]:aq).any T5=ι)(e:Rf (f y0 σ) T (λt b=>S7 dR b.1=enc t/\b.2=σ)):∀t,T=δ t->Ξ ro cL dR (RV f) [x0] σ=δ (enc t,σ):=IB hn h e
theorem vV{τ:Type}{ro:Bool}{cL:List Sh}{dR:Sh}{f:AV->AV->Heap->aB}{x0 x1 y0 y1:AV}{σ:Heap}{T:Option τ}{enc:τ->AV}(hn:Ug cL [x0,x1]=[y0,y1])(h:([x0,x1]:aq).any T5=ι)(e:Rf (f y0 y1 σ) T (λt b=>S7 dR b.1=enc t/\b.2=σ)):∀t,T=δ t->Ξ ro cL dR (T3 f) [x0,x1] σ=δ (enc t,σ):=IB hn h e
theorem afa{τ:Type}{ro:Bool}{cL:List Sh}{dR:Sh}{f:AV->AV->AV->Heap->aB}{x0 x1 x2 y0 y1 y2:AV}{σ:Heap}{T:Option τ}{enc:τ->AV}(hn:Ug cL [x0,x1,x2]=[y0,y1,y2])(h:([x0,x1,x2]:aq).any T5=ι)(e:Rf (f y0 y1 y2 σ) T (λt b=>S7 dR b.1=enc t/\b.2=σ)):∀t,T=δ t->Ξ ro cL dR (A.i7 f) [x0,x1,x2] σ=δ (enc t,σ):=IB hn h e
theorem afb{τ:Type}{ro:Bool}{cL:List Sh}{dR:Sh}{f:AV->AV->AV->AV->Heap->aB}{x0 x1 x2 x3 y0 y1 y2 y3:AV}{σ:Heap}{T:Option τ}{enc:τ->AV}(hn:Ug cL [x0,x1,x2,x3]=[y0,y1,y2,y3])(h:([x0,x1,x2,x3]:aq).any T5=ι)(e:Rf (f y0 y1 y2 y3 σ) T (λt b=>S7 dR b.1=enc t/\b.2=σ)):∀t,T=δ t->Ξ ro cL dR (A.oF f) [x0,x1,x2,x3] σ=δ (enc t,σ):=IB hn h e
end
section
inductive Ct where
 |s(sz:Nat)(es:List aq)
 |m(es:List (AV×AV))
 |b(cs:aq)
def qF:AV->Option Nat
 |.os id _ _ _ _=>δ id
 |.om id=>δ id
 |.op id _=>δ id
 |_=>μ
def Own(n:Nat)(σ:Heap)(p:AV×Ct):Prop:=match p.2 with
 |.s sz es=>(p.1=.aC/\es=[])\/∃id g off a,p.1=.os id g sz off es.length/\n<=id/\σ[id]? =δ (.arr g sz a)/\off<=a.length/\a.drop off=es
 |.m es=>∃id,p.1=.om id/\n<=id/\σ[id]? =δ (.map es)
 |.b cs=>∃id,p.1=.op id 0/\n<=id/\σ[id]? =δ (.box cs)
structure Hp (au σ : Heap) (L : List (AV × Ct)) : Prop where
 pre:∃bs,σ=au++bs
 own:∀(i:Nat)p,L[i]? =δ p->Own au.length σ p
 sep:∀(i j:Nat)p q a,L[i]? =δ p->L[j]? =δ q->qF p.1=δ a->qF q.1=δ a->i=j
section
variable {au σ σ' : Heap} {L : List (AV × Ct)} {n : Nat}
theorem apz(σ:Heap):Hp σ σ []:=⟨⟨[],by simp⟩,by simp,by simp⟩
theorem EE{p:AV×Ct}{a:Nat}(h:Own n σ p)(e:qF p.1=δ a):n<=a/\a<σ.length:=by
 obtain⟨v,c⟩:=p;cases c with
 |s sz es=>
  rcases h with⟨h1,_⟩|⟨id,g,off,x,h1,h2,h3,_⟩
  ·simp only at h1;subst h1;cases e
  ·simp only at h1;subst h1;injection e with e;subst e;exact⟨h2,(bG.1 h3).1⟩
 |m es=>obtain⟨id,h1,h2,h3⟩:=h;simp only at h1;subst h1;injection e with e;subst e;exact⟨h2,(bG.1 h3).1⟩
 |b es=>obtain⟨id,h1,h2,h3⟩:=h;simp only at h1;subst h1;injection e with e;subst e;exact⟨h2,(bG.1 h3).1⟩
theorem MI{p:AV×Ct}(h:Own n σ p)(k:∀a,qF p.1=δ a->σ'[a]? =σ[a]?):Own n σ' p:=by
 obtain⟨v,c⟩:=p;cases c with
 |s sz es=>
  rcases h with h|⟨id,g,off,x,h1,h2,h3,h4⟩
  ·exact .inl h
  ·simp only at h1;subst h1;exact .inr ⟨id,g,off,x,rfl,h2,by rw[k id rfl];exact h3,h4⟩
 |m es=>obtain⟨id,h1,h2,h3⟩:=h;simp only at h1;subst h1;exact⟨id,rfl,h2,by rw[k id rfl];exact h3⟩
 |b es=>obtain⟨id,h1,h2,h3⟩:=h;simp only at h1;subst h1;exact⟨id,rfl,h2,by rw[k id rfl];exact h3⟩
theorem agd(h:∃bs,σ=au++bs){id:Nat}(hn:au.length<=id)(b:aP):∃bs,σ.set id b=au++bs:=by obtain⟨bs,rfl⟩:=h;exact⟨bs.set (id-au.length) b,by rw[zM _ _ hn]⟩
theorem V1(H:Hp au σ L){k id:Nat}{h h':AV}{c c':Ct}{b:aP}(hk:L[k]? =δ (h,c))(hi:qF h=δ id)(hi':qF h'=δ id)(ho:Own au.length (σ.set id b) (h',c')):Hp au (σ.set id b) (L.set k (h',c')):=by
 have hid:=EE (H.own k _ hk) hi;have rU:=(bG.1 hk).1;refine⟨agd H.pre hid.1 b,λi p hp=>?_,λi j p q a hp hq e1 e2=>?_⟩
 ·rw[gd]at hp;split at hp
  ·rename_i e;subst e;simp [rU]at hp;subst hp;exact ho
  ·rename_i e;refine MI (H.own i p hp) λa ha=>?_
   rw[gd];split
   ·rename_i e';subst e';exact absurd (H.sep k i _ _ id hk hp hi ha) e
   ·rfl
 ·have key:∀(i:Nat)(p:AV×Ct),(L.set k (h',c'))[i]? =δ p->qF p.1=δ a->∃p',L[i]? =δ p'/\qF p'.1=δ a:=by
   intro i p hp e;rw[gd]at hp;split at hp
   ·rename_i e';subst e';simp [rU]at hp;subst hp;exact⟨_,hk,by rw[hi];rw[hi']at e;exact e⟩
   ·exact⟨p,hp,e⟩
  obtain⟨p',hp',wS⟩:=key i p hp e1;obtain⟨q',xe,wU⟩:=key j q hq e2;exact H.sep i j p' q' a hp' xe wS wU
theorem agR(H:Hp au σ L){k:Nat}{h h':AV}{c c':Ct}{b:aP}(hk:L[k]? =δ (h,c))(hi:qF h=μ)(hi':qF h'=δ σ.length)(ho:Own au.length (σ++[b]) (h',c')):Hp au (σ++[b]) (L.set k (h',c')):=by
 have rU:=(bG.1 hk).1;refine⟨?_,λi p hp=>?_,λi j p q a hp hq e1 e2=>?_⟩
 ·obtain⟨bs,rfl⟩:=H.pre;exact⟨bs++[b],by simp⟩
 ·rw[gd]at hp;split at hp
  ·rename_i e;subst e;simp [rU]at hp;subst hp;exact ho
  ·refine MI (H.own i p hp) λa ha=>?_
   have:=(EE (H.own i p hp) ha).2;rw[gZ this]
 ·have key:∀(i:Nat)(p:AV×Ct),(L.set k (h',c'))[i]? =δ p->qF p.1=δ a->(i=k/\a=σ.length)\/(L[i]? =δ p/\a<σ.length):=by
   intro i p hp e;rw[gd]at hp;split at hp
   ·rename_i e';subst e';simp [rU]at hp;subst hp;rw[hi']at e;injection e with e;exact .inl ⟨rfl,e.symm⟩
   ·exact .inr ⟨hp,(EE (H.own i p hp) e).2⟩
  rcases key i p hp e1 with⟨a1,a2⟩|⟨a1,a2⟩<;>rcases key j q hq e2 with⟨b1,b2⟩|⟨b1,b2⟩
  ·omega
  ·omega
  ·omega
  ·exact H.sep i j p q a a1 b1 e1 e2
theorem afU(H:Hp au σ L){h':AV}{c':Ct}{b:aP}(hi':qF h'=δ σ.length)(ho:Own au.length (σ++[b]) (h',c')):Hp au (σ++[b]) (L++[(h',c')]):=by
 refine⟨?_,λi p hp=>?_,λi j p q a hp hq e1 e2=>?_⟩
 ·obtain⟨bs,rfl⟩:=H.pre;exact⟨bs++[b],by simp⟩
 ·rw[V6]at hp;split at hp
  ·refine MI (H.own i p hp) λa ha=>?_
   have:=(EE (H.own i p hp) ha).2;rw[gZ this]
  ·have hp':=(bG.1 hp).2;simp at hp';subst hp';exact ho
 ·have key:∀(i:Nat)(p:AV×Ct),(L++[(h',c')])[i]? =δ p->qF p.1=δ a->(i=L.length/\a=σ.length)\/(L[i]? =δ p/\a<σ.length):=by
   intro i p hp e;rw[V6]at hp;split at hp
   ·exact .inr ⟨hp,(EE (H.own i p hp) e).2⟩
   ·obtain⟨h1,h2⟩:=bG.1 hp;simp at h1 h2;subst h2;rw[hi']at e;injection e with e;exact .inl ⟨by omega,e.symm⟩
  rcases key i p hp e1 with⟨a1,a2⟩|⟨a1,a2⟩<;>rcases key j q hq e2 with⟨b1,b2⟩|⟨b1,b2⟩
  ·omega
  ·omega
  ·omega
  ·exact H.sep i j p q a a1 b1 e1 e2
theorem agQ(H:Hp au σ L)(sz:Nat):Hp au σ (L++[(.aC,.s sz [])]):=by
 refine⟨H.pre,λi p hp=>?_,λi j p q a hp hq e1 e2=>?_⟩
 ·rw[V6]at hp;split at hp
  ·exact H.own i p hp
  ·have hp':=(bG.1 hp).2;simp at hp';subst hp';exact .inl ⟨rfl,rfl⟩
 ·have key:∀(i:Nat)(p:AV×Ct),(L++[((.aC:AV),Ct.s sz [])])[i]? =δ p->qF p.1=δ a->L[i]? =δ p:=by
   intro i p hp e;rw[V6]at hp;split at hp
   ·exact hp
   ·have hp':=(bG.1 hp).2;simp at hp';subst hp';cases e
  exact H.sep i j p q a (key i p hp e1) (key j q hq e2) e1 e2
theorem ahD(H:Hp au σ L):Hp au (σ++[.map []]) (L++[(.om σ.length,.m [])]):=by
 have hl:au.length<=σ.length:=by obtain⟨bs,rfl⟩:=H.pre;simp
 exact afU H rfl ⟨σ.length,rfl,hl,by simp⟩
theorem agP(H:Hp au σ L){k sz most:Nat}{h:AV}{es ys:List aq}(hk:L[k]? =δ (h,.s sz es))(hm:es.length+ys.length<=most):∃h' σ',ZI sz most h (.sl sz ys) σ=δ (h',σ')/\Hp au σ' (L.set k (h',.s sz (es++ys))):=by
 have hl:au.length<=σ.length:=by obtain⟨bs,rfl⟩:=H.pre;simp
 rcases H.own k _ hk with⟨h1,h2⟩|⟨id,g,off,a,h1,h2,h3,h4,h5⟩
 ·simp only at h1 h2;subst h1 h2;by_cases hy:ys=[]
  ·subst hy;refine⟨.aC,σ,by simp [ZI,A.kS,Vl],?_⟩
   have:L.set k (.aC,.s sz ([]++[]))=L:=by
    apply aqd;intro i;rw[gd];split
    ·rename_i e;subst e;rw[hk];simp [(bG.1 hk).1]
    ·rfl
   rw[this];exact H
  ·refine⟨.os σ.length ys.length sz 0 ys.length,σ++[.arr ys.length sz ys],?_,?_⟩
   ·have:ys.length<=most:=by simpa using hm
    simp [ZI,A.kS,Vl,hy,this]
   ·exact agR H hk rfl rfl (.inr ⟨σ.length,ys.length,0,ys,by simp,hl,by simp,by simp,by simp⟩)
 ·simp only at h1 h5;subst h1;have hid:=(bG.1 h3).1;have h6:off+es.length=a.length:=by rw[<-h5,aqT];omega
  by_cases hy:ys=[]
  ·subst hy;refine⟨.os id g sz off es.length,σ,?_,?_⟩
   ·have:es.length<=most:=by simpa using hm
    simp [ZI,A.kS,Vl,h3,h6,this]
   ·have:L.set k (.os id g sz off es.length,.s sz (es++[]))=L:=by
     apply aqd;intro i;rw[gd];split
     ·rename_i e;subst e;rw[hk];simp [(bG.1 hk).1]
     ·rfl
    rw[this];exact H
  ·refine⟨.os id (g+ys.length) sz 0 (es.length+ys.length),σ.set id (.arr (g+ys.length) sz (es++ys)),?_,?_⟩
   ·have ht:(a.drop off).take es.length=es:=by rw[h5];simp
    have hp:0<ys.length:=List.length_pos_iff.2 hy;simp [ZI,A.kS,Vl,h3,h6,hm,hy,ht,hp]
   ·refine V1 H hk rfl rfl (.inr ⟨id,g+ys.length,0,es++ys,by simp,h2,by simp [hid],by simp,by simp [h5]⟩)
theorem afT(H:Hp au σ L){k:Nat}{h key v:AV}{ek:A.EK}{es es':List (AV×AV)}(hk:L[k]? =δ (h,.m es))(hok:A.fP ek key=η)(he:A.upd ek key v es=δ es'):∃σ',Uj ek h key v σ=δ σ'/\Hp au σ' (L.set k (h,.m es')):=by obtain⟨id,h1,h2,h3⟩:=H.own k _ hk;simp only at h1 h3;subst h1;have hid:=(bG.1 h3).1;exact⟨σ.set id (.map es'),by simp [Uj,hok,h3,he],V1 H hk rfl rfl ⟨id,rfl,h2,by simp [hid]⟩⟩
def Jw(au σ:Heap)(r r':AV):Prop:=(∀d,X0 σ au.length (d+1) r=δ r')/\(σ=au->r'=r)
theorem agJ{r:AV}(h:Fz r):Jw au σ r r:=⟨λd=>h σ _ (d+1),λ_=>rfl⟩
theorem afO{α:Type}(H:Hp au σ L){k sz:Nat}{h:AV}{c:α->aq}{l:List α}(hk:L[k]? =δ (h,.s sz (l.map c)))(hc:∀x,rI (c x)):∃r',Jw au σ h r'/\((r'=.aC/\l=[])\/r'=sl sz c l):=by
 rcases H.own k _ hk with⟨h1,h2⟩|⟨id,g,off,a,h1,h2,h3,h4,h5⟩
 ·simp only at h1 h2;have:l=[]:=by simpa using h2
  subst this;subst h1;exact⟨.aC,agJ VX,.inl ⟨rfl,rfl⟩⟩
 ·simp only at h1 h5;subst h1;refine⟨sl sz c l,⟨λd=>?_,λe=>?_⟩,.inr rfl⟩
  ·have h6:off+(l.map c).length=a.length:=by rw[<-h5,aqT];omega
   simp only[X0,Nat.not_lt.2 h2,if_false,h3];rw[aH (by simp;simp at h6;omega),zx,h5,mR (bR _),Je hc];rfl
  ·subst e;have:=(bG.1 h3).1;omega
theorem af7{α:Type}{sz:Nat}{c:α->aq}{l:List α}{r:AV}(h:(r=.aC/\l=[])\/r=sl sz c l):S7 (.s sz) r=sl sz c l:=by rcases h with⟨rfl,rfl⟩|rfl<;>rfl
theorem zJ{s1:Sh}{v1 w1:AV}{ss:List Sh}{vs ws:aq}(h1:S7 s1 v1=w1)(h2:Ug ss vs=ws):Ug (s1::ss) (v1::vs)=w1::ws:=by simp only[Ug,h1,h2]
theorem NP:Ug [] []=[]:=by simp [Ug]
theorem XM{ss:List Sh}{vs ws:aq}(h:Ug ss vs=ws):S7 (.a ss) (.agg vs)=.agg ws:=by simp only[S7,h]
theorem XN{ss:List Sh}{vs ws:aq}(h:Ug ss vs=ws):S7 (.t ss) (.aJ vs)=.aJ ws:=by simp only[S7,h]
theorem Ew(d:Nat):∀{es:List (AV×AV)},(∀p∈es,Fz p.1/\Fz p.2)->A.tu σ n d es=δ es
 |[],_=>by simp [A.tu]
 |(k,v)::es,h=>by have h1:=h (k,v) (by simp);simp only[A.tu,h1.1 σ n d,h1.2 σ n d,aO,Ew d (es:=es) (λp hp=>h p (by simp [hp])),ff]
theorem agK(H:Hp au σ L){k:Nat}{h:AV}{es:List (AV×AV)}(hk:L[k]? =δ (h,.m es))(hc:∀p∈es,Fz p.1/\Fz p.2):Jw au σ h (.fm es):=by
 obtain⟨id,h1,h2,h3⟩:=H.own k _ hk;simp only at h1 h3;subst h1;refine⟨λd=>?_,λe=>?_⟩
 ·simp only[X0,Nat.not_lt.2 h2,if_false,h3,Ew d hc,ff]
 ·subst e;have:=(bG.1 h3).1;omega
theorem VZ(H:Hp au σ L){r r':AV}(h:Jw au σ r r'):wh au r σ=δ (r',au):=by
 obtain⟨bs,hb⟩:=H.pre;subst hb;by_cases mC:bs=[]
 ·subst mC;rw[TB]at h ⊢;rw[bU,h.2 rfl]
 ·unfold wh;rw[aF (by simpa using mC),aH (by simp),h.1 7];rfl
end
section
variable {κ ν : Type} [DecidableEq κ]
def bh(k:κ):List (κ×ν)->Option ν
 |[]=>μ
 |(k',v)::r=>if k=k' then δ v else bh k r
def e9(k:κ)(v:ν):List (κ×ν)->List (κ×ν)
 |[]=>[(k,v)]
 |(k',v')::r=>if k=k' then(k,v)::r else(k',v')::e9 k v r
variable {ek : A.EK} {eK : κ -> AV} {eV : ν -> AV} (hq : ∀ a b, Yt ek (eK a) (eK b) = δ (decide (a = b)))
include hq
theorem uN(k:κ):∀l:List (κ×ν),ZE ek (eK k) (l.map λp=>(eK p.1,eV p.2))=δ ((bh k l).map eV)
 |[]=>rfl
 |(k',v)::r=>by
  simp only[dH,ZE,hq,aO,bh];by_cases h:k=k'
  ·simp [h]
  ·simp [h,uN k r]
theorem ym(k:κ)(v:ν):∀l:List (κ×ν),A.upd ek (eK k) (eV v) (l.map λp=>(eK p.1,eV p.2))=δ ((e9 k v l).map λp=>(eK p.1,eV p.2))
 |[]=>rfl
 |(k',v')::r=>by
  simp only[dH,A.upd,hq,aO,e9];by_cases h:k=k'
  ·simp [h]
  ·simp [h,ym k v r]
end
theorem nj(k:IntKind)(a b:Int):Yt .i (.int k a) (.int k b)=δ (decide (a=b)):=by simp only[Yt,A.nO,if_true];congr 1
theorem getD_map{α:Type}(o:Option α)(f:α->AV)(d:α):(o.map f).getD (f d)=f (o.getD d):=by cases o<;>rfl
theorem isSome_map{α:Type}(o:Option α)(f:α->AV):(o.map f).isSome=o.isSome:=by cases o<;>rfl
def iy{κ ν:Type}(eK:κ->AV)(eV:ν->AV)(l:List (κ×ν)):AV:=.fm (l.map λp=>(eK p.1,eV p.2))
section
variable {κ ν : Type} [DecidableEq κ] {ek : A.EK} {eK : κ -> AV} {eV : ν -> AV} {au σ : Heap} {L : List (AV × Ct)} {h : AV} {l : List (κ × ν)}
theorem afV(H:Hp au σ L)(k:Nat)(hk:L[k]? =δ (h,.m (l.map λp=>(eK p.1,eV p.2)))) (hq:∀a b,Yt ek (eK a) (eK b)=δ (decide (a=b))) (x:κ) (v:ν) (hok:A.fP ek (eK x)=η):∃σ',Uj ek h (eK x) (eV v) σ=δ σ'/\Hp au σ' (L.set k (h,.m ((e9 x v l).map λp=>(eK p.1,eV p.2)))):=afT H hk hok (ym hq x v l)
theorem Eh(hq:∀a b,Yt ek (eK a) (eK b)=δ (decide (a=b)))(x:κ)(z:ν)(hok:A.fP ek (eK x)=η):ZJ ek (iy eK eV l) (eK x) (eV z) σ=δ (eV ((bh x l).getD z)):=by simp only[ZJ,iy,hok,bz,R2,aO,uN hq,ff,getD_map]
theorem acL(hq:∀a b,Yt ek (eK a) (eK b)=δ (decide (a=b)))(x:κ)(z:ν)(hok:A.fP ek (eK x)=η):A.pR ek (iy eK eV l) (eK x) (eV z) σ=δ (.aJ [eV ((bh x l).getD z),.bool (bh x l).isSome]):=by simp only[A.pR,iy,hok,bz,R2,aO,uN hq,ff,getD_map,isSome_map]
end
section
variable {α : Type} {c : α -> aq} {l ys : List α} {au σ : Heap} {L : List (AV × Ct)} {h : AV} {sz : Nat}
theorem U8(H:Hp au σ L)(k:Nat){most:Nat}(hk:L[k]? =δ (h,.s sz (l.map c)))(hm:l.length+ys.length<=most):∃h' σ',ZI sz most h (sl sz c ys) σ=δ (h',σ')/\Hp au σ' (L.set k (h',.s sz ((l++ys).map c))):=by rw[Zw];exact agP H hk (by simpa using hm)
end
end
section
def HP:=(Nat->Option aP)->Prop
namespace HP
def emp:HP:=λh=>∀i,h i=μ
def blk(id:Nat)(b:aP):HP:=λh=>∀i,h i=if i=id then δ b else μ
def star(P Q:HP):HP:=λh=>∃f g,P f/\Q g/\(∀i,f i=μ\/g i=μ)/\∀i,h i=(f i).or (g i)
def pr(p:Prop):HP:=λh=>p/\∀i,h i=μ
def ex{α:Type}(P:α->HP):HP:=λh=>∃x,P x h
instance : Mul HP := ⟨star⟩
theorem T0(P Q:HP):P*Q=Q*P:=by
 have key:∀P Q:HP,∀h,(P*Q) h->(Q*P) h:=by rintro P Q h ⟨f,g,hf,hg,hd,hh⟩;refine⟨g,f,hg,hf,λi=>(hd i).symm,λi=>?_⟩;rw[hh i];rcases hd i with e|e<;>rw[e]<;>simp
 funext h;exact propext ⟨key P Q h,key Q P h⟩
theorem sy(P Q R:HP):P*Q*R=P*(Q*R):=by
 funext h;apply propext;constructor
 ·rintro⟨f,g,⟨f1,f2,h1,h2,P8,hf⟩,hg,hd,hh⟩;refine⟨f1,λi=>(f2 i).or (g i),h1,⟨f2,g,h2,hg,λi=>?_,λi=>rfl⟩,λi=>?_,λi=>?_⟩
  ·have:=hd i;rw[hf i]at this;rcases this with e|e
   ·cases h:f1 i<;>simp [h]at e<;>exact .inl e
   ·exact .inr e
  ·have a:=hd i;have b:=P8 i;rw[hf i]at a;rcases b with b|b
   ·exact .inl b
   ·rcases a with a|a
    ·cases h:f1 i<;>simp [h]at a;exact .inl rfl
    ·exact .inr (show(f2 i).or (g i)=μ by rw[b,a];rfl)
  ·rw[hh i,hf i];cases f1 i<;>simp
 ·rintro⟨f,g,hf,⟨g1,g2,h1,h2,P8,hg⟩,hd,hh⟩;refine⟨λi=>(f i).or (g1 i),g2,⟨f,g1,hf,h1,λi=>?_,λi=>rfl⟩,h2,λi=>?_,λi=>?_⟩
  ·have:=hd i;rw[hg i]at this;rcases this with e|e
   ·exact .inl e
   ·cases h:g1 i<;>simp [h]at e;exact .inr rfl
  ·have a:=hd i;have b:=P8 i;rw[hg i]at a;rcases b with b|b
   ·rcases a with a|a
    ·exact .inl (show(f i).or (g1 i)=μ by rw[a,b];rfl)
    ·rw[b]at a;exact .inr (by simpa using a)
   ·exact .inr b
  ·show h i=((f i).or (g1 i)).or (g2 i);rw[hh i,hg i];cases f i<;>simp
theorem Eg(P:HP):emp*P=P:=by
 funext h;apply propext;constructor
 ·rintro⟨f,g,hf,hg,hd,hh⟩;have:h=g:=by funext i;rw[hh i,hf i];rfl
  rw[this];exact hg
 ·intro hp;exact⟨λ_=>μ,h,λ_=>rfl,hp,λ_=>.inl rfl,λi=>by simp⟩
theorem UK(P:HP):P*emp=P:=by rw[T0,Eg]
instance : Std.Associative (α := HP) (· * ·) := ⟨sy⟩
instance : Std.Commutative (α := HP) (· * ·) := ⟨T0⟩
end HP
open HP
structure Hs (B : aP -> Prop) (au σ : Heap) (P : HP) : Prop where
 pre:∃bs,σ=au++bs/\∀b∈bs,B b
 own:∃h,P h/\∀i b,h i=δ b->au.length<=i/\σ[i]? =δ b
def aV:aP->Prop:=λ_=>True
section
variable {B : aP -> Prop} {au σ : Heap} {P Q R : HP} {id : Nat} {b b' : aP}
theorem cr(e:P=Q)(H:Hs B au σ P):Hs B au σ Q:=e▸H
theorem U9(k:∀h,P h->Q h)(H:Hs B au σ (P*R)):Hs B au σ (Q*R):=by obtain⟨h1,h,⟨f,g,hf,hg,hd,hh⟩,h2⟩:=H;exact⟨h1,h,⟨f,g,k f hf,hg,hd,hh⟩,h2⟩
theorem eX(H:Hs B au σ (P*R)):Hs B au σ R:=by
 obtain⟨h1,h,⟨f,g,hf,hg,hd,hh⟩,h2⟩:=H;refine⟨h1,g,hg,λi b hb=>h2 i b ?_⟩;rw[hh i];rcases hd i with e|e
 ·rw[e,hb];rfl
 ·rw[e]at hb;cases hb
theorem tv{p:Prop}:Hs B au σ (pr p*R)↔p/\Hs B au σ R:=by
 constructor
 ·intro H;refine⟨?_,eX H⟩;obtain⟨h1,h,⟨f,g,hf,hg,hd,hh⟩,h2⟩:=H;exact hf.1
 ·rintro⟨hp,h1,h,hr,h2⟩;exact⟨h1,h,⟨λ_=>μ,h,⟨hp,λ_=>rfl⟩,hr,λ_=>.inl rfl,λi=>by simp⟩,h2⟩
theorem WX{α:Type}{P:α->HP}:Hs B au σ (ex P*R)↔∃x,Hs B au σ (P x*R):=by
 constructor
 ·rintro⟨h1,h,⟨f,g,⟨x,hf⟩,hg,hd,hh⟩,h2⟩;exact⟨x,h1,h,⟨f,g,hf,hg,hd,hh⟩,h2⟩
 ·rintro⟨x,h1,h,⟨f,g,hf,hg,hd,hh⟩,h2⟩;exact⟨h1,h,⟨f,g,⟨x,hf⟩,hg,hd,hh⟩,h2⟩
theorem Cz(σ:Heap):Hs B σ σ emp:=⟨⟨[],by simp,by simp⟩,λ_=>μ,λ_=>rfl,λ_ _ h=>by cases h⟩
theorem V3(H:Hs B au σ P):au.length<=σ.length:=by obtain⟨⟨bs,rfl,_⟩,_⟩:=H;simp
theorem eG(H:Hs B au σ (blk id b*R)):au.length<=id/\σ[id]? =δ b:=by obtain⟨h1,h,⟨f,g,hf,hg,hd,hh⟩,h2⟩:=H;exact h2 id b (by rw[hh id,hf id];simp)
theorem aji(H:Hs B au σ (blk id b*R)):B b:=by obtain⟨h1,h2⟩:=eG H;obtain⟨⟨bs,rfl,hb⟩,_⟩:=H;rw[kC h1]at h2;exact hb b (ct h2)
theorem qW(H:Hs B au σ (blk id b*R))(hb:B b'):Hs B au (σ.set id b') (blk id b'*R):=by
 obtain⟨hid,kG⟩:=eG H;have hlt:=(bG.1 kG).1;obtain⟨⟨bs,rfl,hB⟩,h,⟨f,g,hf,hg,hd,hh⟩,h2⟩:=H;refine⟨⟨bs.set (id-au.length) b',by rw[zM _ _ hid],λx hx=>?_⟩,λi=>if i=id then δ b' else g i,⟨λi=>if i=id then δ b' else μ,g,λi=>rfl,hg,λi=>?_,λi=>?_⟩,λi x hx=>?_⟩
 ·rcases List.mem_or_eq_of_mem_set hx with hx|hx
  ·exact hB x hx
  ·subst hx;exact hb
 ·have:=hd i;rw[hf i]at this;by_cases e:i=id
  ·simp only[e,if_true]at this ⊢;rcases this with h|h
   ·cases h
   ·exact .inr h
  ·simp [e]
 ·by_cases e:i=id<;>simp [e]
 ·by_cases e:i=id
  ·subst e;simp only[if_true,ψ]at hx;subst hx;exact⟨hid,by rw[kT hlt]⟩
  ·simp only[e,if_false]at hx;rw[ZY (λe'=>e e'.symm)];have:=h2 i x (by rw[hh i,hf i];simp [e,hx]);exact this
theorem tj(H:Hs B au σ R)(hb:B b):Hs B au (σ++[b]) (blk σ.length b*R):=by
 have hl:=V3 H;obtain⟨⟨bs,rfl,hB⟩,h,hr,h2⟩:=H;have hn:∀i x,h i=δ x->i<(au++bs).length:=λi x hx=>(bG.1 (h2 i x hx).2).1
 refine⟨⟨bs++[b],by simp,λx hx=>?_⟩,λi=>if i=(au++bs).length then δ b else h i,⟨λi=>if i=(au++bs).length then δ b else μ,h,λi=>rfl,hr,λi=>?_,λi=>?_⟩,λi x hx=>?_⟩
 ·rcases fB.1 hx with hx|hx
  ·exact hB x hx
  ·simp at hx;subst hx;exact hb
 ·by_cases e:i=(au++bs).length
  ·right;cases hi:h i with
   |none=>rfl
   |some x=>have:=hn i x hi;omega
  ·simp only[e,if_false,true_or]
 ·by_cases e:i=(au++bs).length<;>simp only[e,if_true,if_false,Option.or_some,Option.none_or,Option.some_or]
 ·by_cases e:i=(au++bs).length
  ·subst e;simp only[if_true,ψ]at hx;subst hx;exact⟨hl,by simp⟩
  ·simp only[e,if_false]at hx;obtain⟨k1,k2⟩:=h2 i x hx;exact⟨k1,by rw[gZ (hn i x hx)];exact k2⟩
end
section
variable {α : Type} {E : aq -> α -> HP} {B : aP -> Prop} {au σ : Heap} {R : HP}
def els(E:aq->α->HP):List aq->List α->HP
 |[],[]=>emp
 |e::es,x::l=>E e x*els E es l
 |_,_=>pr False
theorem Ir:∀{es:List aq}{l:List α}{R:HP},Hs B au σ (els E es l*R)->es.length=l.length
 |[],[],_,_=>rfl
 |[],_::_,_,H=>(tv.1 H).1.elim
 |_::_,[],_,H=>(tv.1 H).1.elim
 |e::es,x::l,R,H=>by have:=Ir (es:=es) (l:=l) (R:=E e x*R) (cr (by rw[els];ac_rfl) H);simp [this]
theorem Iq:∀{tQ C2:List aq}{l1 l2:List α},tQ.length=l1.length->els E (tQ++C2) (l1++l2)=els E tQ l1*els E C2 l2
 |[],C2,[],l2,_=>by rw[els,Eg];rfl
 |e::tQ,C2,x::l1,l2,h=>by simp only[kF,els];rw[Iq (by simpa using h)];ac_rfl
theorem afD(e:aq)(x:α):els E [e] [x]=E e x:=by rw[els,els,UK]
theorem VR{es:List aq}{l:List α}{i:Nat}{e:aq}{x:α}(hl:es.length=l.length)(he:es[i]? =δ e)(hx:l[i]? =δ x):els E es l=els E (es.eraseIdx i) (l.eraseIdx i)*E e x:=by
 have h1:=(bG.1 he).1;have h2:=(bG.1 hx).1
 have e1:es=es.take i++e::es.drop (i+1):=by rw[<-(bG.1 he).2,List.getElem_cons_drop,Wq]
 have e2:l=l.take i++x::l.drop (i+1):=by rw[<-(bG.1 hx).2,List.getElem_cons_drop,Wq]
 conv=>lhs;rw[e1,e2]
 rw[Iq (by simp;omega),els,aqR,aqR,Iq (by simp;omega)];ac_rfl
def fl(c:α->aq):aq->α->HP:=λe x=>pr (e=c x)
theorem EC{c:α->aq}:∀{es:List aq}{l:List α}{R:HP},Hs B au σ (els (fl c) es l*R)↔es=l.map c/\Hs B au σ R
 |[],[],R=>by rw[els,Eg];simp
 |[],x::l,R=>by show Hs B au σ (pr False*R)↔_;rw[tv];simp
 |e::es,[],R=>by show Hs B au σ (pr False*R)↔_;rw[tv];simp
 |e::es,x::l,R=>by rw[els,fl,sy,tv,EC,dH,List.cons.injEq,and_assoc]
def Sl(E:aq->α->HP)(sz:Nat)(v:AV)(l:List α):HP:=λh=>(l=[]/\(v=.aC\/v=.ez)/\emp h)\/∃id g seg,v=.os id g sz 0 l.length/\(blk id (.arr g sz seg)*els E seg l) h
variable {sz : Nat} {v : AV} {l : List α}
theorem Ci(H:Hs B au σ (Sl E sz v l*R)):(l=[]/\(v=.aC\/v=.ez)/\Hs B au σ R)\/∃id g seg,v=.os id g sz 0 l.length/\seg.length=l.length/\Hs B au σ (blk id (.arr g sz seg)*(els E seg l*R)):=by
 have H2:=eX H;obtain⟨h1,h,⟨f,g,hf,hg,hd,hh⟩,h2⟩:=H;rcases hf with⟨k1,k2,k3⟩|⟨id,gg,seg,k1,k2⟩
 ·exact .inl ⟨k1,k2,H2⟩
 ·have K:Hs B au σ (blk id (.arr gg sz seg)*(els E seg l*R)):=cr (sy _ _ _) ⟨h1,h,⟨f,g,k2,hg,hd,hh⟩,h2⟩;exact .inr ⟨id,gg,seg,k1,Ir (R:=blk id (.arr gg sz seg)*R) (cr (by ac_rfl) K),K⟩
theorem kO(H:Hs B au σ R)(hv:v=.aC\/v=.ez):Hs B au σ (Sl E sz v []*R):=
 U9 (P:=emp) (λh k=>.inl ⟨rfl,hv,k⟩) (cr (Eg R).symm H)
theorem EP{id g:Nat}{seg:List aq}{n:Nat}(H:Hs B au σ (blk id (.arr g sz seg)*(els E seg l*R)))(hn:n=l.length:=by rfl):Hs B au σ (Sl E sz (.os id g sz 0 n) l*R):=
 U9 (P:=blk id (.arr g sz seg)*els E seg l) (λh k=>.inr ⟨id,g,seg,by rw[hn],k⟩) (cr (sy _ _ _).symm H)
theorem IS(H:Hs B au σ (Sl E sz v l*R)):ZO v=δ (.ah l.length):=by rcases Ci H with⟨rfl,rfl|rfl,_⟩|⟨id,g,seg,rfl,_⟩<;>rfl
theorem Nt{ys:List aq}{xs:List α}{most:Nat}(H:Hs B au σ (Sl E sz v l*(els E ys xs*R)))(hm:l.length+xs.length<=most)(hB:∀g g' seg,(seg=[]\/B (.arr g sz seg))->B (.arr g' sz (seg++ys))):
  ∃v' σ',ZI sz most v (.sl sz ys) σ=δ (v',σ')/\Hs B au σ' (Sl E sz v' (l++xs)*R):=by
 rcases Ci H with⟨rfl,hv,H⟩|⟨id,g,seg,rfl,hl,H⟩
 ·have hxl:=Ir H;by_cases hy:ys=[]
  ·subst hy;have:xs=[]:=tE (by simpa using hxl.symm);subst this;refine⟨v,σ,?_,kO (eX H) hv⟩;rcases hv with rfl|rfl<;>simp [ZI,Vl,A.kS]
  ·refine⟨.os σ.length ys.length sz 0 ys.length,σ++[.arr ys.length sz ys],?_,?_⟩
   ·have:ys.length<=most:=by simp at hm;omega
    rcases hv with rfl|rfl<;>simp [ZI,Vl,A.kS,hy,this]
   ·have H2:=tj H (by simpa using hB 0 ys.length [] (.inl rfl):B (.arr ys.length sz ys));exact EP H2 (by simpa using hxl)
 ·have hxl:=Ir (cr (show _=els E ys xs*(blk id (.arr g sz seg)*(els E seg l*R)) by ac_rfl) H);obtain⟨h1,h2⟩:=eG H;by_cases hy:ys=[]
  ·subst hy;have:xs=[]:=tE (by simpa using hxl.symm);subst this;refine⟨.os id g sz 0 l.length,σ,?_,?_⟩
   ·have:l.length<=most:=by simpa using hm
    simp [ZI,Vl,A.kS,h2,hl,this]
   ·rw[TB];exact EP (cr (by rw[els,Eg]) H)
  ·have hp:0<ys.length:=List.length_pos_iff.2 hy;refine⟨.os id (g+ys.length) sz 0 (l.length+ys.length),σ.set id (.arr (g+ys.length) sz (seg++ys)),?_,?_⟩
   ·have e1:l.length+ys.length<=most:=by omega
    have e2:seg.take l.length=seg:=mR (by omega);simp [ZI,Vl,A.kS,h2,hl,e1,hy,e2,hp]
   ·have H2:=qW (b':=.arr (g+ys.length) sz (seg++ys)) H (hB g _ seg (.inr (aji H)));exact EP (id:=id) (g:=g+ys.length) (seg:=seg++ys) (cr (by rw[Iq hl];ac_rfl) H2) (by simp;omega)
end
end
section
open HP
section
variable {σ : Heap} {id g sz off len : Nat} {es : List aq}
theorem zF{α:Type}{X Y:Option α}:ξ (.bool η) X Y=X:=rfl
theorem wo{α:Type}{X Y:Option α}:ξ (.bool ι) X Y=Y:=rfl
theorem Nz{y d k:Nat}(h:k<=y):Sq y d (δ (.ah (k:Int)))=δ k:=by
 have:(k:Int)<=y:=by omega
 simp [Sq,this]
theorem Ny{y d:Nat}:Sq y d μ=δ d:=rfl
theorem ML(h:σ[id]? =δ (.arr g sz es))(hl:off+len<=es.length):A.room σ id g sz off len=es.length-off:=by simp [A.room,h,hl]
theorem Rb{lo hi:Option AV}{r h l:Nat}(hr:A.room σ id g sz off len=r)(hh:Sq r len hi=δ h)(hl:Sq h 0 lo=δ l):A.gQ sz (.os id g sz off len) lo hi σ=δ (.os id g sz (off+l) (h-l)):=by simp [A.gQ,hr,hh,hl]
theorem agB{a b:Nat}(h:a+b<9223372036854775808):Zn (.ah (a:Int)) (.ah (b:Int))=δ (.ah ((a+b:Nat):Int)):=by rw[CI,dc (by unfold bE;omega)];simp
theorem agA{a:Nat}(h:a+1<9223372036854775808):Zn (.ah (a:Int)) (.ah 1)=δ (.ah ((a+1:Nat):Int)):=agB (b:=1) h
end
section
variable {α : Type} {E : aq -> α -> HP} {au σ : Heap} {R : HP} {sz most : Nat} {zs : aq} {rot : aq -> Heap -> aB} {v : AV} {l : List α} {y : α} {ye : aq} {i : Nat}
end
end
section
def gR{α:Type}(f:Nat->α->Int):List α->Nat->Int
 |[],_=>0
 |x::l,i=>if f i x=0 then gR f l (i+1)else f i x
section
variable {α β γ S B R : Type}
theorem D6{f:Nat->α->Int}:∀(l:List α)(i:Nat),gR f l i=0↔∀j x,l[j]? =δ x->f (i+j) x=0
 |[],i=>by simp [gR]
 |y::l,i=>by
  rw[gR];by_cases h:f i y=0
  ·rw[aH h,D6 l (i+1)];constructor
   ·intro k j x hx;cases j with
    |zero=>simp at hx;subst hx;exact h
    |succ j=>have:=k j x (by simpa using hx);rwa[show i+1+j=i+(j+1) by omega]at this
   ·intro k j x hx;have:=k (j+1) x (by simpa using hx);rwa[show i+(j+1)=i+1+j by omega]at this
  ·rw[aF h];exact⟨λe=>absurd e h,λk=>absurd (k 0 y rfl) h⟩
theorem Is{l:List α}{body:Nat->α->S->Option (Lr S B R)}{fin:S->Option B}{s:S}{K1:B->Option γ}{K2:R->Option γ}(hl:l.length<=bf):fR l body fin s K1 K2=(oA body fin l 0 s).bind λq=>q.elim K1 K2:=aH hl
theorem qT{f:Nat->α->Int}{l:List α}{body:Nat->α->Unit->Option (Lr Unit Unit Int)}{fin:Unit->Option Unit}{s:Unit}{K1:Unit->Option γ}{K2:Int->Option γ}(hl:l.length<=bf)(hb:∀i x,l[i]? =δ x->body i x ()=δ (if f i x=0 then .go ()else .ret (f i x)))(hf:fin ()=δ ():=by rfl):fR l body fin s K1 K2=if gR f l 0=0 then K1 ()else K2 (gR f l 0):=by
 rw[Is hl]
 have key:∀(rest pre:List α),l=pre++rest->oA body fin rest pre.length ()=δ (if gR f rest pre.length=0 then .inl ()else .inr (gR f rest pre.length)):=by
  intro rest;induction rest with
  |nil=>intro pre _;simp [oA,hf,gR]
  |cons x rest ih=>
   intro pre hp;rw[oA,hb pre.length x (by rw[hp];simp),aO,gR];by_cases h:f pre.length x=0
   ·simp only[h,if_true];have:=ih (pre++[x]) (by simpa using hp);simpa using this
   ·simp only[h,if_false]
 have k:=key l [] rfl;rw[Us]at k;rw[show s=()from rfl,k,aO];split<;>rfl
theorem Iw{p:Prop}[Decidable p]{k f:Int}{Y:Option (Lr Unit Unit Int)}(hk:k≠0)(h:Y=δ (if f=0 then .go ()else .ret f)):(if p then δ (.ret k)else Y)=δ (if(if p then k else f)=0 then .go ()else .ret (if p then k else f)):=by
 by_cases hp:p
 ·simp [hp,hk]
 ·simp [hp,h]
theorem go_ret:(δ (.go ()):Option (Lr Unit Unit Int))=δ (if(0:Int)=0 then .go ()else .ret 0):=rfl
theorem HZ(k:Int):(if k=0 then δ (.go ())else δ (.ret k):Option (Lr Unit Unit Int))=δ (if k=0 then .go ()else .ret k):=by split<;>rfl
theorem Mg{p:α->Bool}{l:List α}{body:Nat->α->Unit->Option (Lr Unit Unit R)}{r:α->R}{fin:Unit->Option Unit}{s:Unit}{K1:Unit->Option γ}{K2:R->Option γ}(hl:l.length<=bf)(hb:∀i x,l[i]? =δ x->body i x ()=δ (if p x=η then .ret (r x)else .go ()))(hf:fin ()=δ ():=by rfl):fR l body fin s K1 K2=match l.find? p with|some x=>K2 (r x)|none=>K1 ():=by
 rw[Is hl]
 have key:∀(rest pre:List α),l=pre++rest->oA body fin rest pre.length ()=δ (match rest.find? p with|some x=>.inr (r x)|none=>.inl ()):=by
  intro rest;induction rest with
  |nil=>intro pre _;simp [oA,hf]
  |cons x rest ih=>
   intro pre hp;rw[oA,hb pre.length x (by rw[hp];simp),aO,List.find?_cons];cases h:p x
   ·simp only[ZD,if_false];have:=ih (pre++[x]) (by simpa using hp);simpa using this
   ·simp only[if_true]
 have k:=key l [] rfl;rw[Us]at k;rw[show s=()from rfl,k,aO];cases l.find? p<;>rfl
theorem adX{l:List α}{body:Nat->α->S->Option (Lr S B R)}{fin:S->Option B}{s:S}{K1:B->Option γ}{K2:R->Option γ}(g:S->α->S)(P:Nat->S->Prop)(hl:l.length<=bf)(h0:P 0 s)(hP:∀i x s,l[i]? =δ x->P i s->P (i+1) (g s x))(hb:∀i x s,l[i]? =δ x->P i s->body i x s=δ (.go (g s x))):fR l body fin s K1 K2=(fin (l.foldl g s)).bind K1:=by
 rw[Is hl]
 have key:∀(rest pre:List α)(s:S),l=pre++rest->P pre.length s->oA body fin rest pre.length s=(fin (rest.foldl g s)).map .inl:=by
  intro rest;induction rest with
  |nil=>intro pre s _ _;simp [oA]
  |cons x rest ih=>
   intro pre s hp hq;have hx:l[pre.length]? =δ x:=by rw[hp];simp
   rw[oA,hb pre.length x s hx hq,aO,Wv];have:=ih (pre++[x]) (g s x) (by simpa using hp) (by simpa using hP _ _ _ hx hq);simpa using this
 have k:=key l [] s rfl h0;rw[Us]at k;rw[k];cases fin (l.foldl g s)<;>rfl
def pv [Inhabited α](l:List α)(i:Nat):α:=if 0<i then l.getD (i-1) default else default
theorem VE{l:List α}{i:Int}{x:α}(h0:0<=i)(h:l[i.toNat]? =δ x):sk l i=δ x:=by rw[sk,aH h0,h]
theorem EA [Inhabited α]{l:List α}{i:Nat}{x:α}(h:l[i]? =δ x)(hl:l.length<=bf):(if decide (0<(i:Int))=η then sk l (Θ.wrap ((i:Int) -1))else δ default)=δ (pv l i):=by
 have hi:=(bG.1 h).1;unfold pv;by_cases h0:0<i
 ·rw[aH (by simpa using h0),aH h0,dc (by unfold bE;unfold bf at hl;omega)];refine VE (by omega) ?_;have:((i:Int) -1).toNat=i-1:=by omega
  rw[this,RU,dg (by omega)];rfl
 ·rw[aF (by simpa using h0),aF h0]
theorem ahm{a b:Int}:(([a,b]:List Int).find? λn=>decide (¬n=0)).getD 0=if ¬(a=0)then a else b:=by
 by_cases ha:a=0
 ·by_cases hb:b=0<;>simp [ha,hb,Ui]
 ·simp [ha,Ui]
theorem ahn{a b c:Int}:(([a,b,c]:List Int).find? λn=>decide (¬n=0)).getD 0=if ¬(a=0)then a else if ¬(b=0)then b else c:=by
 by_cases ha:a=0
 ·by_cases hb:b=0
  ·by_cases hc:c=0<;>simp [ha,hb,hc,Ui]
  ·simp [ha,hb,Ui]
 ·simp [ha,Ui]
end
theorem afh(s:ByteArray):s.toList=s.data.toList:=ByteArray.toList_eq s
theorem aoR:∀(a b:List UInt8),apJ a b<0↔Sv a b=η
 |[],[]=>by simp [apJ,Sv]
 |[],_::_=>by simp [apJ,Sv]
 |_::_,[]=>by simp [apJ,Sv]
 |a::x,b::y=>by
  rw[apJ,Sv];by_cases h1:a<b
  ·simp [h1]
  ·by_cases h2:b<a
   ·have:a≠b:=by rintro rfl;exact h1 h2
    simp [h1,h2,this]
   ·have:a=b:=UInt8.le_antisymm (UInt8.not_lt.1 h2) (UInt8.not_lt.1 h1);subst this;simp [UInt8.lt_irrefl,aoR x y]
def AZ(a b:cV):Bool:=decide (a.unit<b.unit)||(decide (a.unit=b.unit)&&Sv a.param.toList b.param.toList)
end
def aU(n lo hi:Int):Bool:=decide (lo<=n/\n<=hi)
def A0(c:UInt8):Bool:=decide (97<=c.toNat/\c.toNat<=122)||decide (48<=c.toNat/\c.toNat<=57)||decide (c.toNat=45)
def wM(s:ByteArray):Bool:=s.data.toList.all A0&&decide (0<s.size)
def oh(s:ByteArray):Bool:=wM s&&decide (s.size<=20)&&decide (97<=(s.data.toList.getD 0 0).toNat)&&decide ((s.data.toList.getD 0 0).toNat<=122)
def pc(c:UInt8):Bool:=decide (32<=c.toNat/\c.toNat<=126)
def wq(s:ByteArray):Bool:=decide (0<s.size)&&decide (s.size<=60)&&(decide ((s.data.toList.getD 0 0).toNat≠32)&&decide ((s.data.toList.getD (s.size-1) 0).toNat≠32))
def xZ(s:ByteArray):Bool:=s.data.toList.all pc&&wq s
theorem adZ(s:ByteArray)(i:Nat)(h:i<s.size):s.data.toList.getD i 0=s[i]:=by rw[VY,dg (by simpa using h)];rfl
def zT(pre:List mu):List mu->Int
 |[]=>0
 |r::rest=>
  if aU r.low 0 65535=ι\/aU r.high 0 65535=ι\/r.high<r.low then 1
  else if 0<pre.length/\r.low<=(pre.getLast?.map (·.high)).getD 0 then 7
  else if oh r.name=ι then 5
  else if eA r.name (pre.map (·.name))=η then 6
  else zT (pre++[r]) rest
def xS(l:List mu):Int:=if 30<l.length then 2 else zT [] l
def slotsOf(l:List eM):List Int:=l.flatMap λx=>if 0<x.dK then[x.fk,x.dK]else[x.fk]
theorem R5(l:List eM)(x:eM):slotsOf (l++[x])=slotsOf l++(if 0<x.dK then[x.fk,x.dK]else[x.fk]):=by simp [slotsOf]
def yx(size:Int)(pre:List eM):List eM->Int
 |[]=>0
 |x::rest=>
  if oh x.name=ι then 5
  else if eA x.name (pre.map (·.name))=η then 6
  else if aU x.group 1 4=ι then 4
  else if aU x.fk 1 size=ι\/aU x.dK 0 size=ι\/aU x.default 0 65535=ι then 1
  else if x.fk=x.dK\/eA x.fk (slotsOf pre)=η\/(0<x.dK/\eA x.dK (slotsOf pre)=η)then 12
  else if xS x.ranges=0 then yx size (pre++[x]) rest else xS x.ranges
def mL(p:cE):Int:=
 if oh p.name=ι then 5 else if aU p.size 1 512=ι then 1 else if p.params.length=0 then 8 else if 40<p.params.length then 2 else yx p.size [] p.params
def mN(xa xf:Int):List Int:=if xf=0 then[xa]else[xa,xf]
def u0(size:Int)(pre:List eM)(x:eM):Int:=
 if oh x.name=ι then 5
 else if eA x.name (pre.map (·.name))=η then 6
 else if aU x.group 1 4=ι then 4
 else if aU x.fk 1 size=ι\/aU x.dK 0 size=ι\/aU x.default 0 65535=ι then 1
 else if x.fk=x.dK\/eA x.fk (slotsOf pre)=η\/(0<x.dK/\eA x.dK (slotsOf pre)=η)then 12
 else xS x.ranges
theorem adM(size:Int)(pre:List eM)(x:eM)(rest:List eM):yx size pre (x::rest)=if u0 size pre x=0 then yx size (pre++[x]) rest else u0 size pre x:=by
 rw[yx,u0];split<;>first|(simp;done)|skip
 split<;>first|(simp;done)|skip
 split<;>first|(simp;done)|skip
 split<;>first|(simp;done)|skip
 split<;>first|(simp;done)|skip
def Cy(xa xf ya yf:Int):Bool:=(mN xa xf).any λs=>eA s (mN ya yf)
def apo(xa xf:Int)(l:List eM):Bool:=l.any λy=>Cy xa xf y.fk y.dK
theorem ab8{s:Int}{l:List eM}(h:∀y∈l,0<=y.dK):s∈slotsOf l↔∃y∈l,s∈mN y.fk y.dK:=by
 simp only[slotsOf,List.mem_flatMap];constructor
 ·rintro⟨y,hy,hs⟩;refine⟨y,hy,?_⟩;have:=h y hy;unfold mN;split at hs
  ·rw[aF (by omega)];exact hs
  ·split
   ·exact hs
   ·simp at hs;simp [hs]
 ·rintro⟨y,hy,hs⟩;refine⟨y,hy,?_⟩;have:=h y hy;unfold mN at hs;split at hs
  ·rw[aF (by omega)];exact hs
  ·rw[aH (by omega)];exact hs
theorem adP{xa xf:Int}{l:List eM}(h:∀y∈l,0<=y.dK)(hx:0<=xf):apo xa xf l=η↔(eA xa (slotsOf l)=η\/(0<xf/\eA xf (slotsOf l)=η)):=by
 simp only[Ie,ab8 h,apo,Cy,Xd];constructor
 ·rintro⟨y,hy,s,hs,hm⟩;unfold mN at hs;split at hs
  ·simp at hs;subst hs;exact .inl ⟨y,hy,hm⟩
  ·simp at hs;rcases hs with rfl|rfl
   ·exact .inl ⟨y,hy,hm⟩
   ·exact .inr ⟨by omega,y,hy,hm⟩
 ·rintro(⟨y,hy,hm⟩|⟨h0,y,hy,hm⟩)
  ·exact⟨y,hy,xa,by unfold mN;split<;>simp,hm⟩
  ·exact⟨y,hy,xf,by unfold mN;rw[aF (by omega)];simp,hm⟩
theorem adN{size:Int}{pre:List eM}{x:eM}(h:u0 size pre x=0):0<=x.dK:=by
 unfold u0 at h;split at h
 ·cases h
 split at h
 ·cases h
 split at h
 ·cases h
 split at h
 ·cases h
 rename_i h4;cases hf:aU x.dK 0 size
 ·exact absurd (.inr (.inl hf)) h4
 ·simp [aU]at hf;exact hf.1
def uZ(pre:List cE):List cE->Int
 |[]=>0
 |p::rest=>if mL p=0 then(if eA p.name (pre.map (·.name))=η then 6 else uZ (pre++[p]) rest)else mL p
def rE(l:List cE):Int:=if 60<l.length then 2 else uZ [] l
def fD(nm:ByteArray):List cE->cE×Bool
 |[]=>(⟨⟨#[]⟩,0,[]⟩,ι)
 |p::rest=>if p.name=nm then(p,η)else fD nm rest
def sC(f:Nat->Bool):Nat->Nat->Bool
 |0,_=>η
 |n+1,a=>if 512<a\/f a=η then ι else sC f n (a+1)
def mM(f:Int->Nat->Bool)(u:Int)(a s:Nat):Int->Nat->Bool:=λv k=>if v=u/\a<=k/\k<a+s then η else f v k
def yE(pre:List Int)(n:Int):Bool:=match pre.getLast? with|some m=>decide (n<=m)|none=>ι
def gK(fU:List cE)(u:fE):Int:=u.address+(fD u.gm fU).1.size-1
def xU(fU:List cE)(u:fE)(pre:List fE):Bool:=pre.any λx=>decide (x.univ=u.univ/\x.address<=gK fU u/\u.address<=gK fU x)
def yy(fU:List cE)(pre:List fE):List fE->Int
 |[]=>0
 |u::rest=>
  if aU u.aE 1 9999=ι then 1
  else if yE (pre.map (·.aE)) u.aE=η then 7
  else if(fD u.gm fU).2=ι then 5
  else if aU u.univ 1 64=ι\/aU u.address 1 512=ι\/512<gK fU u then 1
  else if xU fU u pre=η then 12
  else yy fU (pre++[u]) rest
def iP(r:dj):Int:=if rE r.bV=0 then(if 400<r.dQ.length then 2 else yy r.bV [] r.dQ)else rE r.bV
def Ck(fU:List cE)(pre:List fE):Prop:=∀x∈pre,1<=x.address/\x.address<=gK fU x/\gK fU x<=512
def xT(fU:List cE)(pre:List fE)(f:Int->Nat->Bool):Prop:=∀v k,f v k=η↔∃x∈pre,x.univ=v/\x.address<=(k:Int)/\(k:Int)<=gK fU x
theorem xT.nil(fU:List cE):xT fU [] (λ_ _=>ι):=λv k=>by simp
theorem xT.snoc{fU:List cE}{pre:List fE}{f:Int->Nat->Bool}(h:xT fU pre f)(u:fE)(a s:Nat)(ha:u.address=a)(hs:gK fU u=(a:Int)+s-1):xT fU (pre++[u]) (mM f u.univ a s):=by
 intro v k;unfold mM;by_cases e:v=u.univ/\a<=k/\k<a+s
 ·rw[aH e];refine⟨λ_=>⟨u,by simp,e.1.symm,by omega,by omega⟩,λ_=>rfl⟩
 ·rw[aF e,h v k];constructor
  ·rintro⟨x,hx,h1⟩;exact⟨x,by simp [hx],h1⟩
  ·rintro⟨x,hx,h1,h2,h3⟩;simp only[fB,Yg]at hx;rcases hx with hx|rfl
   ·exact⟨x,hx,h1,h2,h3⟩
   ·exact absurd ⟨h1.symm,by omega,by omega⟩ e
theorem Mh(f:Nat->Bool):∀(s a:Nat),sC f s a=η↔∀k,a<=k->k<a+s->k<=512/\f k=ι
 |0,a=>by simp [sC];intro k h1 h2;omega
 |s+1,a=>by
  rw[sC];by_cases e:512<a\/f a=η
  ·rw[aH e];simp only[ZD,false_iff];intro h;have:=h a (bR _) (by omega);rcases e with e|e
   ·omega
   ·rw[e]at this;simp at this
  ·rw[aF e,Mh f s (a+1)];constructor
   ·intro h k h1 h2;by_cases hk:k=a
    ·subst hk;refine⟨by omega,?_⟩;cases hf:f k
     ·rfl
     ·exact absurd (.inr hf) e
    ·exact h k (by omega) (by omega)
   ·intro h k h1 h2;exact h k (by omega) (by omega)
theorem acM{fU:List cE}{pre:List fE}{f:Int->Nat->Bool}(h:xT fU pre f)(hok:Ck fU pre)(u:fE)(a s:Nat)(ha:u.address=a)(h1:1<=s)(hs:gK fU u=(a:Int)+s-1)(h2:gK fU u<=512):sC (f u.univ) s a=!xU fU u pre:=by
 rw[kE,Mh];simp only[apR,xU,List.any_eq_false,decide_eq_true_eq,not_and];constructor
 ·intro hf x hx e1 e2 e3;have hx':=hok x hx;obtain⟨k,hk⟩:∃k:Nat,(k:Int)=max x.address a:=⟨(max x.address (a:Int)).toNat,by omega⟩
  have hf':=(hf k (by omega) (by omega)).2;have:f u.univ k=η:=(h u.univ k).2 ⟨x,hx,e1,by omega,by omega⟩;rw[this]at hf';simp at hf'
 ·intro hf k h3 h4;refine⟨by omega,?_⟩;cases hfk:f u.univ k
  ·rfl
  ·obtain⟨x,hx,e1,e2,e3⟩:=(h u.univ k).1 hfk;exact absurd (show u.address<=gK fU x by omega) (hf x hx e1 (by omega))
theorem aaK{p:cE}(h:mL p=0):1<=p.size/\p.size<=512:=by
 unfold mL at h;by_cases h1:oh p.name=ι
 ·rw[aH h1]at h;simp at h
 ·rw[aF h1]at h;by_cases h2:aU p.size 1 512=ι
  ·rw[aH h2]at h;simp at h
  ·simpa [aU]using h2
theorem aoD:∀(l pre:List cE),uZ pre l=0->∀p∈l,1<=p.size/\p.size<=512
 |[],pre,h,p,hp=>by simp at hp
 |q::rest,pre,h,p,hp=>by
  rw[uZ]at h;by_cases e:mL q=0
  ·rw[aH e]at h;by_cases e2:eA q.name (pre.map (·.name))=η
   ·rw[aH e2]at h;simp at h
   ·rw[aF e2]at h;simp only[fA]at hp;rcases hp with rfl|hp
    ·exact aaK e
    ·exact aoD rest _ h p hp
  ·rw[aF e]at h;exact absurd h e
theorem SI{l:List cE}(h:rE l=0):∀p∈l,1<=p.size/\p.size<=512:=by
 unfold rE at h;by_cases e:60<l.length
 ·rw[aH e]at h;simp at h
 ·rw[aF e]at h;exact aoD l [] h
theorem D0(nm:ByteArray):∀(l:List cE),(fD nm l).2=η->(fD nm l).1∈l
 |[],h=>by simp [fD]at h
 |p::r,h=>by
  rw[fD]at h ⊢;by_cases e:p.name=nm
  ·rw[aH e];simp
  ·rw[aF e]at h ⊢;exact jU _ (D0 nm r h)
theorem Ck.snoc{fU:List cE}{pre:List fE}(h:Ck fU pre){u:fE}(h1:1<=u.address/\u.address<=gK fU u/\gK fU u<=512):Ck fU (pre++[u]):=λx hx=>by
 simp only[fB,Yg]at hx;rcases hx with hx|rfl
 ·exact h x hx
 ·exact h1
theorem kR(n lo hi:Int)(σ:Heap):jP [.ah n,.ah lo,.ah hi] σ=δ (.bool (aU n lo hi),σ):=by refine wrap_eq rfl ?_ rfl;show KP _ _ _ σ=_;unfold KP aU;by_cases h:lo<=n<;>simp only[aD,reduceCtorEq,h,true_and,false_and]
theorem ng(n lo hi:Int)(σ:Heap):m9 [.ah n,.ah lo,.ah hi] σ=δ (.bool (aU n lo hi),σ):=by refine wrap_eq rfl ?_ rfl;show LI _ _ _ σ=_;unfold LI aU;by_cases h:lo<=n<;>simp only[aD,reduceCtorEq,h,true_and,false_and]
theorem afr(b:Bool)(n:Int)(σ:Heap):LC [.bool b,.ah n] σ=δ (.ah (if b=η then n else 0),σ):=by refine wrap_eq rfl ?_ rfl;show LM _ _ σ=_;unfold LM;cases b<;>simp [aD,reduceCtorEq]
theorem Cu(s:ByteArray){i:Nat}(h:i<s.size):A.lJ (.str s) (.ah (i:Int))=δ (.int .u8 (s.data.toList.getD i 0).toNat):=by
 have h1:s[i]? =δ s[i]:=by simp [h]
 simp [A.lJ,A.idx,h,adZ s i h];rfl
theorem Hy(s:ByteArray):(decide (¬s=⟨#[]⟩))=decide (0<s.size):=by
 rw[decide_eq_decide];constructor
 ·intro h;rcases Nat.eq_zero_or_pos s.size with e|e
  ·exact absurd (ByteArray.ext (Array.eq_empty_of_size_eq_zero e)) h
  ·exact e
 ·rintro h rfl;exact absurd h (by decide)
theorem agw(s:ByteArray)(hs:gE s)(σ:Heap):L3 [.str s] σ=δ (.bool (wM s),σ):=by
 refine wrap_eq rfl ?_ rfl;show Ma _ σ=_;unfold Ma;simp only[aD,reduceCtorEq];refine(HT (p:=A0) s (δ (.bool ι,σ)) ?_ ?_ ?_).trans ?_
 ·intro i c hi hc;have h1:bE ((i:Int)+1):=by unfold gE bf at hs;unfold bE;omega
  have h2:(i:Int)<s.size:=by omega
  simp only[aD,reduceCtorEq,h2,hc,dc h1,A0];clear hc h1
  repeat' ((first|rw[kg]|rw[ke]|rw[jZ]|rw[jV]|rw[jY]|rw[jX]);split<;>try simp only[aD,reduceCtorEq, *])
  all_goals first|rfl|(refine(aH ?_).symm;simp;omega)|(refine(aF ?_).symm;simp;omega)|(refine congrArg δ (congrArg (λb=>(χ b,σ)) ?_);rw[kE];simp;omega)
 ·simp only[aD,reduceCtorEq,Z4]
 ·intro i;simp only[aD,reduceCtorEq]
 ·simp only[aD,reduceCtorEq,Hy,wM];cases s.data.toList.all A0<;>simp
theorem acD(s:ByteArray)(hs:gE s)(σ:Heap):Lx [.str s] σ=δ (.bool (wM s),σ):=by
 refine wrap_eq rfl ?_ rfl;show LH _ σ=_;unfold LH;simp only[aD,reduceCtorEq];refine(HT (p:=A0) s (δ (.bool ι,σ)) ?_ ?_ ?_).trans ?_
 ·intro i c hi hc;have h1:bE ((i:Int)+1):=by unfold gE bf at hs;unfold bE;omega
  have h2:(i:Int)<s.size:=by omega
  simp only[aD,reduceCtorEq,h2,hc,dc h1,A0];clear hc h1
  repeat' ((first|rw[kg]|rw[ke]|rw[jZ]|rw[jV]|rw[jY]|rw[jX]);split<;>try simp only[aD,reduceCtorEq, *])
  all_goals first|rfl|(refine(aH ?_).symm;simp;omega)|(refine(aF ?_).symm;simp;omega)|(refine congrArg δ (congrArg (λb=>(χ b,σ)) ?_);rw[kE];simp;omega)
 ·simp only[aD,reduceCtorEq,Z4]
 ·intro i;simp only[aD,reduceCtorEq]
 ·simp only[aD,reduceCtorEq,Hy,wM];cases s.data.toList.all A0<;>simp
theorem UF{s:ByteArray}(h:wM s=η):0<s.size:=by simp only[wM,fy,decide_eq_true_eq]at h;exact h.2
theorem MR(s:ByteArray)(hs:gE s)(σ:Heap):DU [.str s] σ=δ (.bool (oh s),σ):=by
 refine wrap_eq rfl ?_ rfl;show LL _ σ=_;unfold LL;simp only[aD,reduceCtorEq,agw s hs];cases h:wM s
 ·simp [aD,reduceCtorEq,oh,h]
 ·have h0:=UF h;have:=Cu s h0;simp only[apT]at this;simp only[aD,reduceCtorEq,this];simp only[oh,h,ap7];generalize s.data.toList.getD 0 0=c0 at *
  repeat' ((first|rw[kg]|rw[ke]|rw[jZ]|rw[jV]|rw[jY]|rw[jX]);split<;>try simp only[aD,reduceCtorEq, *])
  all_goals first|rfl|(refine(aH ?_).symm;simp;omega)|(refine(aF ?_).symm;simp;omega)|(refine congrArg δ (congrArg (λb=>(χ b,σ)) ?_);rw[kE];simp;omega)
theorem LR(s:ByteArray)(hs:gE s)(σ:Heap):DT [.str s] σ=δ (.bool (oh s),σ):=by
 refine wrap_eq rfl ?_ rfl;show LG _ σ=_;unfold LG;simp only[aD,reduceCtorEq,acD s hs];cases h:wM s
 ·simp [aD,reduceCtorEq,oh,h]
 ·have h0:=UF h;have:=Cu s h0;simp only[apT]at this;simp only[aD,reduceCtorEq,this];simp only[oh,h,ap7];generalize s.data.toList.getD 0 0=c0 at *
  repeat' ((first|rw[kg]|rw[ke]|rw[jZ]|rw[jV]|rw[jY]|rw[jX]);split<;>try simp only[aD,reduceCtorEq, *])
  all_goals first|rfl|(refine(aH ?_).symm;simp;omega)|(refine(aF ?_).symm;simp;omega)|(refine congrArg δ (congrArg (λb=>(χ b,σ)) ?_);rw[kE];simp;omega)
theorem aeA(s:ByteArray)(hs:gE s)(σ:Heap):La [.str s] σ=δ (.bool (xZ s),σ):=by
 refine wrap_eq rfl ?_ rfl;show Lo _ σ=_;unfold Lo;simp only[aD,reduceCtorEq];refine(HT (p:=pc) s (δ (.bool ι,σ)) ?_ ?_ ?_).trans ?_
 ·intro i c hi hc;have h1:bE ((i:Int)+1):=by unfold gE bf at hs;unfold bE;omega
  have h2:(i:Int)<s.size:=by omega
  simp only[aD,reduceCtorEq,h2,hc,dc h1,pc];clear h1
  repeat' ((first|rw[kg]|rw[ke]|rw[jZ]|rw[jV]|rw[jY]|rw[jX]);split<;>try simp only[aD,reduceCtorEq, *])
  all_goals first|rfl|(refine(aH ?_).symm;simp;omega)|(refine(aF ?_).symm;simp;omega)|(refine congrArg δ (congrArg (λb=>(χ b,σ)) ?_);rw[kE];simp;omega)
 ·simp only[aD,reduceCtorEq,Z4]
 ·intro i;simp only[aD,reduceCtorEq]
 ·simp only[aD,reduceCtorEq,Hy,xZ];cases s.data.toList.all pc
  ·simp
  ·simp only[if_true,ap7];by_cases h0:0<s.size
   ·by_cases rT:s.size<=60
    ·have e0:=Cu s h0;have e1:=Cu s (i:=s.size-1) (by omega);simp only[apT]at e0;rw[show((s.size-1:Nat):Int)=(s.size:Int) -1 by omega]at e1;have h1:bE ((s.size:Int) -1):=by unfold gE bf at hs;unfold bE;omega
     have mS:(s.size:Int)<=60:=by omega
     have hw:=dc h1;simp only[wq,h0,rT];generalize s.data.toList.getD 0 0=c0 at *
     generalize s.data.toList.getD (s.size-1) 0=c1 at *
     simp only[aD,reduceCtorEq,h0,mS,e0,e1,hw]
     repeat' ((first|rw[kg]|rw[ke]|rw[jZ]|rw[jV]|rw[jY]|rw[jX]);split<;>try simp only[aD,reduceCtorEq, *])
     all_goals first|rfl|(refine(aH ?_).symm;simp;omega)|(refine(aF ?_).symm;simp;omega)|(refine congrArg δ (congrArg (λb=>(χ b,σ)) ?_);rw[kE];simp;omega)
    ·have mS:¬(s.size:Int)<=60:=by omega
     simp [aD,reduceCtorEq,h0,mS,wq,rT]
   ·simp [aD,reduceCtorEq,h0,wq]
theorem abN(s:ByteArray)(hs:gE s)(σ:Heap):KR [.str s] σ=δ (.bool (xZ s),σ):=by
 refine wrap_eq rfl ?_ rfl;show Le _ σ=_
 have e:(s=⟨#[]⟩)↔¬0<s.size:=by have:=Hy s;rw[decide_eq_decide]at this;rw[<-this];simp
 have tail:xZ s=(wq s&&s.data.toList.all pc):=by unfold xZ;exact Bool.and_comm _ _
 unfold Le;simp only[aD,reduceCtorEq,e];by_cases h0:0<s.size
 ·by_cases rT:s.size<=60
  ·have e0:=Cu s h0;have e1:=Cu s (i:=s.size-1) (by omega);simp only[apT]at e0;rw[show((s.size-1:Nat):Int)=(s.size:Int) -1 by omega]at e1;have h1:bE ((s.size:Int) -1):=by unfold gE bf at hs;unfold bE;omega
   have mS:¬(60:Int)<(s.size:Int):=by omega
   have hw:=dc h1;have WO:wq s=(decide (¬(s.data.toList.getD 0 0).toNat=32)&&decide (¬(s.data.toList.getD (s.size-1) 0).toNat=32)):=by simp [wq,h0,rT]
   rw[tail,WO];clear tail WO;generalize s.data.toList.getD 0 0=c0 at *
   generalize s.data.toList.getD (s.size-1) 0=c1 at *
   by_cases k0:c0.toNat=32
   ·have JM:(c0.toNat:Int)=32:=by omega
    simp [aD,reduceCtorEq,h0,mS,e0,JM,k0]
   ·have JM:¬(c0.toNat:Int)=32:=by omega
    by_cases k1:c1.toNat=32
    ·have Gm:(c1.toNat:Int)=32:=by omega
     simp [aD,reduceCtorEq,h0,mS,e0,JM,hw,e1,Gm,k1]
    ·have Gm:¬(c1.toNat:Int)=32:=by omega
     simp only[aD,reduceCtorEq,h0,mS,e0,JM,hw,e1,Gm,k0,k1];refine(HT (p:=pc) s (δ (.bool ι,σ)) ?_ ?_ ?_).trans ?_
     ·intro i c hi hc;have h1:bE ((i:Int)+1):=by unfold gE bf at hs;unfold bE;omega
      have h2:(i:Int)<s.size:=by omega
      simp only[aD,reduceCtorEq,h2,hc,dc h1,pc];clear h1
      repeat' ((first|rw[kg]|rw[ke]|rw[jZ]|rw[jV]|rw[jY]|rw[jX]);split<;>try simp only[aD,reduceCtorEq, *])
      all_goals first|rfl|(refine(aH ?_).symm;simp;omega)|(refine(aF ?_).symm;simp;omega)|(refine congrArg δ (congrArg (λb=>(χ b,σ)) ?_);rw[kE];simp;omega)
     ·simp only[aD,reduceCtorEq,Z4]
     ·intro i;simp only[aD,reduceCtorEq]
     ·simp only[aD,reduceCtorEq];cases s.data.toList.all pc<;>simp
  ·have mS:(60:Int)<(s.size:Int):=by omega
   simp [aD,reduceCtorEq,h0,mS,tail,wq,rT]
 ·simp [aD,reduceCtorEq,h0,tail,wq]
theorem T7(l:List Int)(hl:l.length<=bf)(σ:Heap):DP [sl 1 aL l] σ=δ (.ah ((l.find? λn=>decide (¬n=0)).getD 0),σ):=by
 refine wrap_eq rfl ?_ rfl;show Ln (sl 1 aL l) σ=_;unfold Ln;simp only[aD,reduceCtorEq];refine(aoh l (λn=>decide (¬n=0)) (λi=>[.ah 0,.ah (i:Int)]) σ (.exit 0,[.ah 0,.ah (l.length:Int)],σ) (λi n=>(.ret,[.ah n,.ah (i:Int)],σ)) (δ (ε 0,σ)) (λn=>δ (ε n,σ)) ?_ ?_ ?_ ?_).trans ?_
 ·intro i x hx;obtain⟨g1,g2,g3⟩:=uG 1 aL hx;have g3:=g3 hl;simp only[aD,reduceCtorEq,g1,g2,g3]
  repeat' ((first|rw[kg]|rw[ke]|rw[jZ]|rw[jV]|rw[jY]|rw[jX]);split<;>try simp only[aD,reduceCtorEq, *])
  all_goals first|with_reducible rfl|(simp [*];done)|(simp_all;done)|(simp_all;omega)|rfl
 ·exact tc _ _ _
 ·simp only[aD,reduceCtorEq]
 ·intro i n;simp only[aD,reduceCtorEq]
 ·cases l.find? (λn=>decide (¬n=0))<;>rfl
theorem BQ(n:Int)(σ:Heap):DE [.ah n] σ=δ (.bool (aU n 0 65535),σ):=by refine wrap_eq rfl ?_ rfl;show Ky _ σ=_;unfold Ky;simp only[aD,reduceCtorEq,kR]
theorem aat(l:List mu)(hok:fW M7 l)(σ:Heap):Kf [sl 3 iM l] σ=δ (.ah (xS l),σ):=by
 refine wrap_eq rfl ?_ rfl;show Kg (sl 3 iM l) σ=_;unfold Kg xS;simp only[aD,reduceCtorEq];by_cases wX:30<l.length
 ·have tL:(30:Int)<l.length:=by omega
  simp only[aD,reduceCtorEq,wX,tL]
 ·have tL:¬(30:Int)<l.length:=by omega
  simp only[aD,reduceCtorEq,wX,tL]
  refine(mj (S:=Unit) (R:=Int) l (λpre x _=>
    if aU x.low 0 65535=ι\/aU x.high 0 65535=ι\/x.high<x.low then .out 1
    else if 0<pre.length/\x.low<=(pre.getLast?.map (·.high)).getD 0 then .out 7
    else if oh x.name=ι then .out 5
    else if eA x.name (pre.map (·.name))=η then .out 6 else .go ())
   (λpre _=>[.ah 0,.ah (pre.length:Int)]) (λpre _=>σ++[ZH (kX (·.name) pre)])
   (λ_=>(.exit 0,[.ah 0,.ah (l.length:Int)],σ++[ZH (kX (·.name) l)])) (λpre _ r=>(.ret,[.ah r,.ah (pre.length:Int)],σ++[ZH (kX (·.name) pre)]))
   (λ_ _=>True) () (λ_=>δ (ε 0,σ)) (λr=>δ (ε r,σ)) ?_ ?_ trivial (λ_ _ _ _ _ _ _ _=>trivial) ?_ ?_).trans ?_
  ·intro pre x rest u hl _;have hx:=mo hl;have hlt:=nZ hl;have hi1:Θ.wrap ((pre.length:Int)+1)=(pre.length:Int)+1:=dc (by unfold bE;omega);have hi2:Θ.wrap ((pre.length:Int) -1)=(pre.length:Int) -1:=dc (by unfold bE;omega);have hlt':(pre.length:Int)<(l.length:Int):=by omega
   have hnm:=(hok.2 x (by rw[hl];simp)).2.2;have jg:=mh 3 iM l hx;have hN:=MR _ hnm;by_cases h0:0<pre.length
   ·obtain⟨y,hy,hy2⟩:=MJ hl h0;have z7:=Hx 3 iM l h0 hy2;have iz:(0:Int)<pre.length:=by omega
    clear hl hx hlt hok wX tL hy2 hnm;simp only[aD,reduceCtorEq,uv,uw,ux,uB,uA,uC,hlt',jg,BQ,hi1,hi2,hN,iz,hy,h0]
    repeat' ((first|rw[kg]|rw[ke]|rw[jZ]|rw[jV]|rw[jY]|rw[jX]);split<;>try simp only[aD,reduceCtorEq,uv,uw,ux,uB,uA,uC,BQ, *])
    all_goals first|with_reducible rfl|(simp [*];done)|(simp_all;done)|(simp_all;omega)|rfl
   ·have iz:¬(0:Int)<pre.length:=by omega
    clear hl hx hlt hok wX tL hnm;simp only[aD,reduceCtorEq,uv,uw,ux,uB,uA,uC,hlt',jg,BQ,hi1,hi2,hN,iz,h0]
    repeat' ((first|rw[kg]|rw[ke]|rw[jZ]|rw[jV]|rw[jY]|rw[jX]);split<;>try simp only[aD,reduceCtorEq,uv,uw,ux,uB,uA,uC,BQ, *])
    all_goals first|with_reducible rfl|(simp [*];done)|(simp_all;done)|(simp_all;omega)|rfl
  ·intro u _;simp only[aD,reduceCtorEq,Z4]
  ·intro u _;simp only[aD,reduceCtorEq]
  ·intros;simp only[aD,reduceCtorEq]
  ·refine(xK (oG:=zT) ?_ ?_ (λn=>δ (ε n,σ)) l []).trans ?_
   ·intro pre;rfl
   ·intro pre x rest;rw[zT];simp only[uM,sA,sB]
   ·rfl
theorem aah(p:cE)(hok:zq p)(σ:Heap):Kb [.agg (cQ p)] σ=δ (.ah (mL p),σ):=by
 refine wrap_eq rfl ?_ rfl;show Ke (.agg (cQ p)) σ=_;obtain⟨pn,ps,l⟩:=p;obtain⟨hnm,hps,z8⟩:=hok;simp only at hnm hps z8;have hN:=MR _ hnm;unfold Ke mL;simp only[aD,reduceCtorEq,jq,jr,jt,jv,ju,jx,hN,kR];cases hn:oh pn
 ·simp only[aD,reduceCtorEq]
 cases hz:aU ps 1 512
 ·simp only[aD,reduceCtorEq]
 by_cases h0:l.length=0
 ·obtain rfl:l=[]:=tE h0;simp [aD,reduceCtorEq]
 have iz:¬(l.length:Int)=0:=by omega
 by_cases AJ:40<l.length
 ·have wE:(40:Int)<l.length:=by omega
  simp only[aD,reduceCtorEq,h0,iz,AJ,wE]
 have wE:¬(40:Int)<l.length:=by omega
 simp only[aD,reduceCtorEq,h0,iz,AJ,wE]
 refine(mj (S:=Unit) (R:=Int) l (λpre x _=>
   if oh x.name=ι then .out 5
   else if eA x.name (pre.map (·.name))=η then .out 6
   else if aU x.group 1 4=ι then .out 4
   else if aU x.fk 1 ps=ι\/aU x.dK 0 ps=ι\/aU x.default 0 65535=ι then .out 1
   else if x.fk=x.dK\/eA x.fk (slotsOf pre)=η\/(0<x.dK/\eA x.dK (slotsOf pre)=η)then .out 12
   else if xS x.ranges=0 then .go ()else .out (xS x.ranges))
  (λpre _=>[.lbx (cQ ⟨pn,ps,l⟩),.ah 0,.ah (pre.length:Int)]) (λpre _=>σ++[ZH (kX (·.name) pre),ZH (oY id (slotsOf pre))])
  (λ_=>(.exit 1,[.lbx (cQ ⟨pn,ps,l⟩),.ah 0,.ah (l.length:Int)],σ++[ZH (kX (·.name) l),ZH (oY id (slotsOf l))]))
  (λpre _ r=>(.ret,[.lbx (cQ ⟨pn,ps,l⟩),.ah r,.ah (pre.length:Int)],σ++[ZH (kX (·.name) pre),ZH (oY id (slotsOf pre))]))
  (λ_ _=>True) () (λ_=>δ (ε 0,σ)) (λr=>δ (ε r,σ)) ?_ ?_ trivial (λ_ _ _ _ _ _ _ _=>trivial) ?_ ?_).trans ?_
 ·intro pre x rest u hl _;have hx:=mo hl;have hlt:=nZ hl;have hi1:Θ.wrap ((pre.length:Int)+1)=(pre.length:Int)+1:=dc (by unfold bE;omega);have hi2:Θ.wrap ((pre.length:Int) -1)=(pre.length:Int) -1:=dc (by unfold bE;omega);have hlt':(pre.length:Int)<(l.length:Int):=by omega
  obtain⟨k1,k2,k3,k4,k5,k6⟩:=z8.2 x (by rw[hl];simp);have hNx:=MR _ k1;have hRx:=aat _ k6;have jg:=mh 7 cB l hx;clear hl hx hlt z8 AJ wE h0 iz k1 k2 k3 k4 k5 k6 hnm hps hN hn hz;simp only[aD,reduceCtorEq,lY,lZ,l5,l6,l7,l8,l9,mg,me,lE,jq,jr,jt,jv,ju,jx,hlt',jg,kR,BQ,hi1,hi2,hNx,hRx,List.map_id]
  repeat' ((first|rw[kg]|rw[ke]|rw[jZ]|rw[jV]|rw[jY]|rw[jX]);split<;>try simp only[aD,reduceCtorEq,lY,lZ,l5,l6,l7,l8,l9,mg,me,lE,jq,jr,jt,jv,ju,jx,kR,BQ,List.map_id,TR,ad8,Bool.or_false, *])
  all_goals first|rfl|(simp_all;done)|(simp_all [R5,TR];done)|(simp only[R5,ite_false,ite_true,if_false,if_true, *]<;>simp_all)
 ·intro u _;simp only[aD,reduceCtorEq,Z4]
 ·intro u _;simp only[aD,reduceCtorEq]
 ·intros;simp only[aD,reduceCtorEq]
 ·refine(xK (oG:=yx ps) ?_ ?_ (λn=>δ (ε n,σ)) l []).trans ?_
  ·intro pre;rfl
  ·intro pre x rest;rw[yx];simp only[uM,sA,sB]
  ·rfl
theorem aaf(l:List cE)(hok:fW zq l)(σ:Heap):Ka [sl 3 cQ l] σ=δ (.ah (rE l),σ):=by
 refine wrap_eq rfl ?_ rfl;show Kc (sl 3 cQ l) σ=_;unfold Kc rE;simp only[aD,reduceCtorEq];by_cases rT:60<l.length
 ·have mS:(60:Int)<l.length:=by omega
  simp only[aD,reduceCtorEq,rT,mS]
 have mS:¬(60:Int)<l.length:=by omega
 simp only[aD,reduceCtorEq,rT,mS]
 refine(mj (S:=Unit) (R:=Int) l (λpre x _=>if mL x=0 then(if eA x.name (pre.map (·.name))=η then .out 6 else .go ())else .out (mL x))
  (λpre _=>[.ah 0,.ah (pre.length:Int)]) (λpre _=>σ++[ZH (kX (·.name) pre)])
  (λ_=>(.exit 0,[.ah 0,.ah (l.length:Int)],σ++[ZH (kX (·.name) l)])) (λpre _ r=>(.ret,[.ah r,.ah (pre.length:Int)],σ++[ZH (kX (·.name) pre)]))
  (λ_ _=>True) () (λ_=>δ (ε 0,σ)) (λr=>δ (ε r,σ)) ?_ ?_ trivial (λ_ _ _ _ _ _ _ _=>trivial) ?_ ?_).trans ?_
 ·intro pre x rest u hl _;have hx:=mo hl;have hlt:=nZ hl;have hi1:Θ.wrap ((pre.length:Int)+1)=(pre.length:Int)+1:=dc (by unfold bE;omega);have hi2:Θ.wrap ((pre.length:Int) -1)=(pre.length:Int) -1:=dc (by unfold bE;omega);have hlt':(pre.length:Int)<(l.length:Int):=by omega
  have hP:=aah x (hok.2 x (by rw[hl];simp));have jg:=mh 3 cQ l hx;clear hl hx hlt hok rT mS;simp only[aD,reduceCtorEq,jq,jr,jt,jv,ju,jx,hlt',jg,hi1,hP]
  repeat' ((first|rw[kg]|rw[ke]|rw[jZ]|rw[jV]|rw[jY]|rw[jX]);split<;>try simp only[aD,reduceCtorEq,jq,jr,jt,jv,ju,jx, *])
  all_goals first|with_reducible rfl|(simp [*];done)|(simp_all;done)|(simp_all;omega)|rfl
 ·intro u _;simp only[aD,reduceCtorEq,Z4]
 ·intro u _;simp only[aD,reduceCtorEq]
 ·intros;simp only[aD,reduceCtorEq]
 ·refine(xK (oG:=uZ) ?_ ?_ (λn=>δ (ε n,σ)) l []).trans ?_
  ·intro pre;rfl
  ·intro pre x rest;rw[uZ];simp only[uM,sA,sB]
  ·rfl
theorem aeU{α:Type}(p:α->Bool)(l:List α):decide (0<=mT p l)=l.any p:=by
 rcases BY p l with⟨h1,h2,_⟩|⟨k,x,h1,h2,h3,_⟩
 ·rw[h1,kE];simp only[decide_eq_true_eq,Xd];exact⟨λh=>by omega,λ⟨x,hx,hp⟩=>by rw[h2 x hx]at hp;cases hp⟩
 ·rw[h3,kE];simp only[decide_eq_true_eq,Xd];exact⟨λ_=>⟨x,ct h1,h2⟩,λ_=>by omega⟩
theorem anp(dyn:Nat->aq->Heap->aB)(l:List cE)(hl:l.length<=bf)(n:Nat)(caps:aq)(p:cE->Bool)(σ:Heap)(hd:∀x∈l,dyn n ((.agg (cQ x):AV)::caps) σ=δ (.bool (p x),σ)):GU dyn [sl 3 cQ l,.fn n caps] σ=δ (.ah (mT p l),σ):=by
 refine wrap_eq rfl ?_ rfl;show GV dyn (sl 3 cQ l) (.fn n caps) σ=_;unfold GV;simp only[aD,reduceCtorEq]
 refine(mj (S:=Unit) (R:=Int) l (λpre x _=>if p x=η then .out (pre.length:Int)else .go ())
  (λpre _=>[.ah 0,.ah (pre.length:Int)]) (λ_ _=>σ) (λ_=>(.exit 0,[.ah 0,.ah (l.length:Int)],σ)) (λpre _ r=>(.ret,[.ah (pre.length:Int),.ah (pre.length:Int)],σ))
  (λ_ _=>True) () (λ_=>δ (ε (-1),σ)) (λr=>δ (ε r,σ)) ?_ ?_ trivial (λ_ _ _ _ _ _ _ _=>trivial) ?_ ?_).trans ?_
 ·intro pre x rest u hl' _;have hx:=mo hl';have hlt:=nZ hl';have hi1:Θ.wrap ((pre.length:Int)+1)=(pre.length:Int)+1:=dc (by unfold bE;unfold bf at hl;omega);have hlt':(pre.length:Int)<(l.length:Int):=by omega
  have jg:=mh 3 cQ l hx;have Qa:=hd x (by rw[hl'];simp);simp only[aD,reduceCtorEq,jq,jr,jt,jv,ju,jx,hlt',jg,A.nC,kF,YU,Qa,hi1];cases p x<;>simp [aD,reduceCtorEq]
 ·intro u _;simp only[aD,reduceCtorEq,Z4]
 ·intro u _;simp only[aD,reduceCtorEq]
 ·intro pre x rest s q hl' _ hb
  have:q=(pre.length:Int):=by
   cases hpx:p x
   ·rw[hpx]at hb;cases hb
   ·rw[hpx]at hb;simp at hb;exact hb.symm
  simp only[aD,reduceCtorEq,this]
 ·rw[Ek p _ _ l [] (by simp)];simp only[YU];split
  ·rename_i h;rw[h]
  ·rfl
theorem anm(l:List Int)(hl:l.length<=bf)(k:Int)(σ:Heap):Km [sl 1 aL l,.ah k] σ=δ (.ah (mT (λx=>decide (k=x)) l),σ):=by
 refine wrap_eq rfl ?_ rfl;show Kq (sl 1 aL l) (.ah k) σ=_;unfold Kq;simp only[aD,reduceCtorEq]
 refine(mj (S:=Unit) (R:=Int) l (λpre x _=>if(λx=>decide (k=x)) x=η then .out (pre.length:Int)else .go ())
  (λpre _=>[.ah 0,.ah (pre.length:Int)]) (λ_ _=>σ) (λ_=>(.exit 0,[.ah 0,.ah (l.length:Int)],σ)) (λpre _ r=>(.ret,[.ah (pre.length:Int),.ah (pre.length:Int)],σ))
  (λ_ _=>True) () (λ_=>δ (ε (-1),σ)) (λr=>δ (ε r,σ)) ?_ ?_ trivial (λ_ _ _ _ _ _ _ _=>trivial) ?_ ?_).trans ?_
 ·intro pre x rest u hl' _;have hx:=mo hl';have hlt:=nZ hl';have hi1:Θ.wrap ((pre.length:Int)+1)=(pre.length:Int)+1:=dc (by unfold bE;unfold bf at hl;omega);have hlt':(pre.length:Int)<(l.length:Int):=by omega
  have jg:=mh 1 aL l hx;simp only[aD,reduceCtorEq,hlt',jg,hi1];by_cases hk:k=x<;>simp [aD,reduceCtorEq,hk]
 ·intro u _;simp only[aD,reduceCtorEq,Z4]
 ·intro u _;simp only[aD,reduceCtorEq]
 ·intro pre x rest s q hl' _ hb
  have:q=(pre.length:Int):=by
   by_cases hk:k=x
   ·simp [hk]at hb;exact hb.symm
   ·simp [hk]at hb
  simp only[aD,reduceCtorEq,this]
 ·rw[Ek (λx=>decide (k=x)) _ _ l [] (by simp)];simp only[YU];split
  ·rename_i h;rw[h]
  ·rfl
theorem zb(l:List Int)(hl:l.length<=bf)(k:Int)(σ:Heap):lB [sl 1 aL l,.ah k] σ=δ (.bool (l.any λx=>decide (k=x)),σ):=by refine wrap_eq rfl ?_ rfl;show Ki (sl 1 aL l) (.ah k) σ=_;unfold Ki;simp only[aD,reduceCtorEq,anm l hl k σ];refine congrArg δ (congrArg (λb=>(χ b,σ)) ?_);exact aeU _ l
theorem Rr(dyn:Nat->aq->Heap->aB)(l:List Int)(hl:l.length<=bf)(n:Nat)(caps:aq)(p:Int->Bool)(σ:Heap)(hd:∀x∈l,dyn n ((.ah x:AV)::caps) σ=δ (.bool (p x),σ)):sU dyn [sl 1 aL l,.fn n caps] σ=δ (.ah (mT p l),σ):=by
 refine wrap_eq rfl ?_ rfl;show GW dyn (sl 1 aL l) (.fn n caps) σ=_;unfold GW;simp only[aD,reduceCtorEq]
 refine(mj (S:=Unit) (R:=Int) l (λpre x _=>if p x=η then .out (pre.length:Int)else .go ())
  (λpre _=>[.ah 0,.ah (pre.length:Int)]) (λ_ _=>σ) (λ_=>(.exit 0,[.ah 0,.ah (l.length:Int)],σ)) (λpre _ r=>(.ret,[.ah (pre.length:Int),.ah (pre.length:Int)],σ))
  (λ_ _=>True) () (λ_=>δ (ε (-1),σ)) (λr=>δ (ε r,σ)) ?_ ?_ trivial (λ_ _ _ _ _ _ _ _=>trivial) ?_ ?_).trans ?_
 ·intro pre x rest u hl' _;have hx:=mo hl';have hlt:=nZ hl';have hi1:Θ.wrap ((pre.length:Int)+1)=(pre.length:Int)+1:=dc (by unfold bE;unfold bf at hl;omega);have hlt':(pre.length:Int)<(l.length:Int):=by omega
  have jg:=mh 1 aL l hx;have Qa:=hd x (by rw[hl'];simp);simp only[aD,reduceCtorEq,hlt',jg,A.nC,kF,YU,Qa,hi1];cases p x<;>simp [aD,reduceCtorEq]
 ·intro u _;simp only[aD,reduceCtorEq,Z4]
 ·intro u _;simp only[aD,reduceCtorEq]
 ·intro pre x rest s q hl' _ hb
  have:q=(pre.length:Int):=by
   cases hpx:p x
   ·rw[hpx]at hb;cases hb
   ·rw[hpx]at hb;simp at hb;exact hb.symm
  simp only[aD,reduceCtorEq,this]
 ·rw[Ek p _ _ l [] (by simp)];simp only[YU];split
  ·rename_i h;rw[h]
  ·rfl
theorem BR(nm:ByteArray):∀(l:List cE),fD nm l=match l.find? (λx:cE=>decide (x.name=nm))with|some p=>(p,η)|none=>(⟨⟨#[]⟩,0,[]⟩,ι)
 |[]=>rfl
 |p::l=>by
  rw[fD];by_cases h:p.name=nm
  ·simp [h]
  ·simp [h,BR nm l]
theorem aaw(x:cE)(nm:ByteArray)(σ:Heap):Dz [.agg (cQ x),.rp [.str nm]] σ=δ (.bool (decide (x.name=nm)),σ):=by refine wrap_eq rfl ?_ rfl;show Kh (.agg (cQ x)) (.rp [.str nm]) σ=_;unfold Kh;simp only[aD,reduceCtorEq,jq,jr,jt,jv,ju,jx];show(δ (ap3 nm)).bind _=_;simp only[aD,reduceCtorEq]
theorem nnP(x:eM):Ug rG (cB x)=cB x:=rfl
theorem aoH(p:cE)(b:Bool):S7 (.t [(.a [.k,.k,(.e 7 rG)]),.k]) (.aJ [.agg (cQ p),.bool b])=.aJ [.agg (cQ p),.bool b]:=by show Zz [.agg [.str p.name,.ah p.size,S7 (.e 7 rG) (sl 7 cB p.params)],.bool b]=_;rw[ajo nnP];rfl
theorem SS(l:List cE)(hl:l.length<=bf)(nm:ByteArray)(σ:Heap):G3 [sl 3 cQ l,.str nm] σ=δ (.aJ [.agg (cQ (fD nm l).1),.bool (fD nm l).2],σ):=by
 have key:∃w,G4 (sl 3 cQ l) (.str nm) σ=δ (w,σ)/\S7 (.t [(.a [.k,.k,(.e 7 rG)]),.k]) w=.aJ [.agg (cQ (fD nm l).1),.bool (fD nm l).2]:=by
  unfold G4;simp only[aD,reduceCtorEq];rw[anp _ l hl 64 [.rp [.str nm]] (λx=>decide (x.name=nm)) σ (λx _=>aaw x nm σ)];simp only[aD,reduceCtorEq];rw[BR];rcases BY (λx:cE=>decide (x.name=nm)) l with⟨h1,_,h3⟩|⟨k,x,h1,h2,h3,h4,_⟩
  ·refine⟨.aJ [.agg [.str ⟨#[]⟩,.ah 0,.aC],.bool ι],?_,?_⟩
   ·rw[h1];simp only[aD,reduceCtorEq,show((-1:Int)<0)from by decide];rfl
   ·rw[h3];rfl
  ·refine⟨.aJ [.agg (cQ x),.bool η],?_,?_⟩
   ·rw[h3];simp only[aD,reduceCtorEq,jq,jr,jt,jv,ju,jx,show ¬((k:Int)<0)from by omega,mh 3 cQ l h1]
   ·rw[h4];exact aoH x η
 obtain⟨w,h1,h2⟩:=key;exact wrap_eq rfl h1 h2
theorem Lv(l:List cE)(hl:l.length<=bf)(nm:ByteArray)(σ:Heap):DN [sl 3 cQ l,.str nm] σ=δ (.aJ [.agg (cQ (fD nm l).1),.bool (fD nm l).2],σ):=by
 refine wrap_eq (v:=.aJ [.agg (match l.find? (λx:cE=>decide (x.name=nm))with|some p=>cQ p|none=>[.str ⟨#[]⟩,.ah 0,.aC]),.bool (fD nm l).2]) rfl ?_ ?_
 ·show Lg (sl 3 cQ l) (.str nm) σ=_;rw[BR];unfold Lg;simp only[aD,reduceCtorEq]
  refine(mj (S:=Unit) (R:=cE) l (λpre x _=>if x.name=nm then .out x else .go ())
   (λpre _=>[.lbx [.str ⟨#[]⟩,.ah 0,.aC],.bool ι,.ah (pre.length:Int)]) (λ_ _=>σ)
   (λ_=>(.exit 0,[.lbx [.str ⟨#[]⟩,.ah 0,.aC],.bool ι,.ah (l.length:Int)],σ)) (λpre _ r=>(.ret,[.lbx (cQ r),.bool η,.ah (pre.length:Int)],σ))
   (λ_ _=>True) () (λ_=>δ (Zz [.agg [.str ⟨#[]⟩,.ah 0,.aC],.bool ι],σ)) (λr=>δ (Zz [.agg (cQ r),.bool η],σ)) ?_ ?_ trivial (λ_ _ _ _ _ _ _ _=>trivial) ?_ ?_).trans ?_
  ·intro pre x rest u hl' _;have hx:=mo hl';have hlt:=nZ hl';have hi1:Θ.wrap ((pre.length:Int)+1)=(pre.length:Int)+1:=dc (by unfold bE;unfold bf at hl;omega);have hlt':(pre.length:Int)<(l.length:Int):=by omega
   have jg:=mh 3 cQ l hx;clear hl' hx hlt hl;simp only[aD,reduceCtorEq,jq,jr,jt,jv,ju,jx,hlt',jg,hi1]
   repeat' ((first|rw[kg]|rw[ke]|rw[jZ]|rw[jV]|rw[jY]|rw[jX]);split<;>try simp only[aD,reduceCtorEq,jq,jr,jt,jv,ju,jx, *])
   all_goals first|with_reducible rfl|(simp [*];done)|(simp_all;done)|(simp_all;omega)|rfl
  ·intro u _;simp only[aD,reduceCtorEq,Z4]
  ·intro u _;simp only[aD,reduceCtorEq];rfl
  ·intros;simp only[aD,reduceCtorEq,jq,jr,jt,jv,ju,jx]
  ·have key:∀(l pre:List cE),(hJ (λ(_:List cE)(x:cE)(_:Unit)=>if x.name=nm then(aqA x:Rd Unit cE)else .go ()) pre l ()).el (λ_=>δ (Zz [.agg [.str ⟨#[]⟩,.ah 0,.aC],.bool ι],σ)) (λr=>δ (Zz [.agg (cQ r),.bool η],σ))=δ (.aJ [.agg (match l.find? (λx:cE=>decide (x.name=nm))with|some p=>cQ p|none=>[.str ⟨#[]⟩,.ah 0,.aC]),.bool (match l.find? (λx:cE=>decide (x.name=nm))with|some p=>(p,η)|none=>(⟨⟨#[]⟩,0,[]⟩,ι)).2],σ):=by
    intro l;induction l with
    |nil=>intro pre;rfl
    |cons x l ih=>
     intro pre;rw[hJ];by_cases h:x.name=nm
     ·simp [h,apM]
     ·simp only[aF h,ih];simp [h]
   exact key l []
 ·rw[BR];cases hf:l.find? (λx:cE=>decide (x.name=nm))with
  |none=>rfl
  |some p=>exact aoH p η
def marks(f:Nat->Bool):aq:=(List.range 513).map λk=>.bool (f k)
theorem B7(f:Nat->Bool){k:Nat}(h:k<513):(marks f)[k]? =δ (.bool (f k)):=by simp [marks,h]
theorem zo(f:Nat->Bool):(marks f).length=513:=by simp [marks]
theorem Ts(f:Nat->Bool){γ:Type}(K1 K2:γ):∀(s a:Nat)(pre:List Nat),(hJ (λ_ k(_:Unit)=>if 512<k\/f k=η then(aqA ():Rd Unit Unit)else .go ()) pre (apN a s) ()).el (λ_=>K1) (λ_=>K2)=if sC f s a=η then K1 else K2
 |0,a,pre=>by simp [hJ,sC,apM]
 |s+1,a,pre=>by
  rw[aqq,hJ,sC];by_cases h:512<a\/f a=η
  ·simp only[aH h,apM];simp
  ·simp only[aF h];exact Ts f K1 K2 s (a+1) _
theorem afK(a s:Int)(h:bE (a+s))(h':bE (a+s-1))(σ:Heap):Bq [.np,.ah a,.ah s] σ=δ (.bool (decide (a+s-1<=512)),σ):=by refine wrap_eq rfl ?_ rfl;show DB .np (.ah a) (.ah s) σ=_;unfold DB;simp only[aD,reduceCtorEq,show Zt .p aqa aqa=δ (.bool η)from rfl,dc h,dc h']
theorem aeB(cs:aq){k:Nat}(h:k<513):A.uU 513 1 (.rp cs) (.ah (k:Int))=δ (.rp (cs.drop k)):=by
 have h1:A.idx 513 (.ah (k:Int))=δ k:=by show(if(0:Int)<=(k:Int)/\(k:Int)<((513:Nat):Int)then δ (k:Int).toNat else μ)=δ k;rw[aH ⟨by omega,by omega⟩];rfl
 unfold A.uU;rw[h1];simp only[aO,Nat.mul_one]
theorem afM(f:Nat->Bool)(a s:Nat)(hs:a<=1024/\s<=1024)(σ:Heap):Bq [.rp (marks f),.ah (a:Int),.ah (s:Int)] σ=δ (.bool (sC f s a),σ):=by
 refine wrap_eq rfl ?_ rfl;show DB (.rp (marks f)) (.ah (a:Int)) (.ah (s:Int)) σ=_;unfold DB;have hw:Θ.wrap ((a:Int)+s)=(a:Int)+s:=dc (by unfold bE;omega);simp only[aD,reduceCtorEq,show Zt .p (AV.rp (marks f)) aqa=δ (.bool ι)from rfl,hw]
 refine(mj (S:=Unit) (R:=Unit) (apN a s) (λ_ k(_:Unit)=>if 512<k\/f k=η then(aqA ():Rd Unit Unit)else .go ())
  (λpre _=>[.bool ι,.ah ((a:Int)+(pre.length:Int))]) (λ_ _=>σ) (λ_=>(.exit 0,[.bool ι,.ah ((a:Int)+s)],σ)) (λpre _ _=>(.ret,[.bool ι,.ah ((a:Int)+(pre.length:Int))],σ))
  (λ_ _=>True) () (λ_=>δ (χ η,σ)) (λ_=>δ (χ ι,σ)) ?_ ?_ trivial (λ_ _ _ _ _ _ _ _=>trivial) ?_ ?_ (hv:=by simp)).trans ?_
 ·intro pre k rest u hl _;have hx:=mo hl;have hlt:=nZ hl;rw[Vg]at hlt
  obtain rfl:a+pre.length=k:=by have:=(bG.1 hx).2;simpa [List.getElem_range']using this
  have hlt':(a:Int)+(pre.length:Int)<(a:Int)+s:=by omega
  have hi1:Θ.wrap ((a:Int)+(pre.length:Int)+1)=(a:Int)+((pre.length:Int)+1):=by rw[dc (by unfold bE;omega)];omega
  have CE:(a:Int)+(pre.length:Int)=((a+pre.length:Nat):Int):=by omega
  clear hl hx;by_cases h5:512<a+pre.length
  ·have PW:(512:Int)<(a:Int)+(pre.length:Int):=by omega
   simp only[aD,reduceCtorEq,hlt',h5,PW]
  have PW:¬(512:Int)<(a:Int)+(pre.length:Int):=by omega
  have hp:Δ 0 ((marks f).drop (a+pre.length))=δ (.bool (f (a+pre.length))):=by rw[QF];simp only[Δ,Nat.add_zero,B7 f (show a+pre.length<513 by omega)];rfl
  simp only[aD,reduceCtorEq,hlt',h5,PW,show A.jJ (AV.rp (marks f))=δ (.rp (marks f))from rfl];rw[CE,aeB _ (by omega)];simp only[aD,reduceCtorEq,hp];cases hf:f (a+pre.length)
  ·simp only[aD,reduceCtorEq,<-CE,hi1]
  ·simp only[aD,reduceCtorEq,<-CE]
 ·intro u _;rw[Vg];exact tc _ _ _
 ·intro u _;simp only[aD,reduceCtorEq]
 ·intros;simp only[aD,reduceCtorEq]
 ·rw[Ts];cases sC f s a<;>rfl
theorem afL(f:Nat->Bool)(a s:Nat)(hs:a<=1024/\s<=1024){σ:Heap}{id:Nat}(h:σ[id]? =δ (.box (marks f))):Bq [.op id 0,.ah (a:Int),.ah (s:Int)] σ=δ (.bool (sC f s a),σ):=by
 refine Cj (args':=[.rp (marks f),.ah (a:Int),.ah (s:Int)]) rfl ?_ rfl (afM f a s hs []) rfl
 have e:A.sD σ 0 7 (marks f)=δ (marks f):=by
  have key:∀(l:List Nat),A.sD σ 0 7 (l.map λk=>χ (f k))=δ (l.map λk=>χ (f k)):=by
   intro l;induction l with
   |nil=>simp [A.sD]
   |cons x l ih=>simp [A.sD,X0,ih]
  exact key _
 simp [Xu,X0,h,e]
def qP(b:Nat):List Int->List (AV×AV)
 |[]=>[]
 |v::r=>(.int Θ v,.op b 0)::qP (b+1) r
def fY(σ:Heap)(vs:List Int)(f:Int->Nat->Bool):Heap:=σ++(ZH (qP (σ.length+1) vs)::vs.map λv=>apF (marks (f v)))
theorem apx(v:Int):∀(vs:List Int)(b:Nat),qP b (vs++[v])=qP b vs++[(.ah v,.op (b+vs.length) 0)]
 |[],b=>rfl
 |w::r,b=>by simp only[kF,qP,apx v r (b+1),ZT];rw[show b+1+r.length=b+(r.length+1) by omega]
theorem Im(v:Int):∀(vs:List Int)(b:Nat),ZE .i (.ah v) (qP b vs)=δ (if v∈vs then δ (.op (b+vs.idxOf v) 0)else μ)
 |[],b=>rfl
 |w::r,b=>by
  simp only[qP,ZE,Yt,A.nO,if_true,aO];by_cases h:v=w
  ·subst h;simp
  ·have h1:(v==w)=ι:=by simpa using h
   have h2:(w==v)=ι:=by simpa using λe:w=v=>h e.symm
   simp only[h1,bk,Im v r (b+1),fA,h,false_or,List.idxOf_cons,h2];rw[show b+1+r.idxOf v=b+(r.idxOf v+1) by omega]
theorem VH(v:Int)(w:AV):∀(vs:List Int)(b:Nat),v∉vs->A.upd .i (.ah v) w (qP b vs)=δ (qP b vs++[(.ah v,w)])
 |[],b,_=>rfl
 |x::r,b,h=>by
  simp only[fA,not_or]at h;have h1:(v==x)=ι:=by simpa using h.1
  simp only[qP,A.upd,Yt,A.nO,if_true,aO,h1,bk,VH v w r (b+1) h.2,ff,kF]
theorem VJ(σ:Heap)(vs:List Int)(f:Int->Nat->Bool):(fY σ vs f).length=σ.length+1+vs.length:=by simp [fY];omega
theorem IC(σ:Heap)(vs:List Int)(f:Int->Nat->Bool):(fY σ vs f)[σ.length]? =δ (.map (qP (σ.length+1) vs)):=by simp [fY]
theorem VI(σ:Heap){vs:List Int}(f:Int->Nat->Bool){v:Int}(h:v∈vs):(fY σ vs f)[σ.length+1+vs.idxOf v]? =δ (.box (marks (f v))):=by
 unfold fY;rw[kC (by omega),show σ.length+1+vs.idxOf v-σ.length=vs.idxOf v+1 by omega,aqS,tG]
 have:vs[vs.idxOf v]? =δ v:=by have hl:=List.idxOf_lt_length_of_mem h;rw[dg hl,List.getElem_idxOf hl]
 rw[this];rfl
theorem agr(σ:Heap){vs:List Int}(hn:vs.Nodup){f f':Int->Nat->Bool}{v:Int}(h:v∈vs)(ho:∀w,w≠v->f' w=f w):(fY σ vs f).set (σ.length+1+vs.idxOf v) (.box (marks (f' v)))=fY σ vs f':=by
 unfold fY;rw[zM _ _ (by omega),show σ.length+1+vs.idxOf v-σ.length=vs.idxOf v+1 by omega,List.set_cons_succ];refine congrArg (λz=>σ++(ZH (qP (σ.length+1) vs)::z)) ?_;clear σ;induction vs with
 |nil=>cases h
 |cons w r ih=>
  rw[zN]at hn;rw[List.idxOf_cons];by_cases e:w=v
  ·subst e;simp only[beq_self_eq_true,bz,dH,List.set_cons_zero];exact congrArg (apF (marks (f' w))::·) (RO λx hx=>by rw[ho x (λe=>hn.1 (e▸hx))])
  ·have e2:(w==v)=ι:=by simpa using e
   simp only[e2,bk,dH,List.set_cons_succ];rw[ih hn.2 ((fA.1 h).resolve_left λq=>e q.symm),ho w e]
theorem agq(σ:Heap)(vs:List Int){f:Int->Nat->Bool}{v:Int}(h:∀k,f v k=ι):((fY σ vs f)++[apF (ZB 513 aT)]).set σ.length (.map (qP (σ.length+1) (vs++[v])))=fY σ (vs++[v]) f:=by
 have e:marks (f v)=ZB 513 aT:=by rw[show f v=λ_=>ι from funext h];refine List.eq_replicate_iff.2 ⟨zo _,λb hb=>?_⟩;obtain⟨k,_,rfl⟩:=i6.1 hb;rfl
 unfold fY;simp only[nG,kF];rw[zM _ _ (bR _),Nat.sub_self,List.set_cons_zero,Zw,dH,e];rfl
theorem ad7(g g':Nat->Bool){k:Nat}(hk:k<513)(h1:g' k=η)(h2:∀j,j≠k->g' j=g j):Zv k [χ η] (marks g)=δ (marks g'):=by
 unfold Zv;rw[aH (by rw[zo];simp;omega)];refine congrArg δ (aqd λj=>?_);simp only[nG,kF,YU,ZT,Us];by_cases hj:j<k
 ·rw[gZ (by rw[qC,zo];omega),Vp hj,B7 _ (by omega),B7 _ (by omega),h2 j (by omega)]
 ·rw[kC (by rw[qC,zo];omega),qC,zo,Nat.min_eq_left (by omega)];by_cases e:j=k
  ·subst e;rw[Nat.sub_self,Y3,B7 _ hk,h1]
  ·rw[show j-k=(j-k-1)+1 by omega,aqS,Zg,show k+(0+1)+(j-k-1)=j by omega];by_cases hj2:j<513
   ·rw[B7 _ hj2,B7 _ hj2,h2 j e]
   ·rw[kD (by rw[zo];omega),kD (by rw[zo];omega)]
theorem IQ{α γ:Type}(K1:Unit->γ)(K2:Unit->γ):∀(l pre:List α),(hJ (λ_(x:α)(_:Unit)=>(Rd.go ():Rd Unit Unit)) pre l ()).el K1 K2=K1 ()
 |[],pre=>rfl
 |x::l,pre=>by rw[hJ];exact IQ K1 K2 l _
theorem apw{α S:Type}{body:List α->α->S->Rd S Int}{oG:List α->List α->Int}(h0:∀pre,oG pre []=0)(h:∀pre x rest s,oG pre (x::rest)=(body pre x s).el (λ_=>oG (pre++[x]) rest) (λr=>r)) {γ:Type} (K:Int->γ):
  ∀(l pre:List α)(s:S),(hJ body pre l s).el (λ_=>K 0) K=K (oG pre l)
 |[],pre,s=>by rw[hJ,h0];rfl
 |x::l,pre,s=>by
  rw[hJ,h pre x l s];cases body pre x s with
  |go s'=>exact apw h0 h K l (pre++[x]) s'
  |out r=>rfl
theorem ac0(f:Int->Nat->Bool)(v:Int)(a:Nat):mM f v a 0=f:=by funext w k;unfold mM;rw[aF (by omega)]
theorem aod{γ:Type}(σ:Heap){vs:List Int}(hn:vs.Nodup)(f:Int->Nat->Bool)(u:fE)(a s:Nat)(ha:u.address=a)(hs:a+s<=513)(hm:u.univ∈vs)(K:aq->Heap->Option γ):
  (Zo (λv11 sQ=>
   ((Z2 (aj v11 0)).bind λ_=>δ (3)).bind λp13=>
   ((Z2 (aj v11 0)).bind λgB=>Δ p13 gB).bind λbQ=>
   (Zn bQ (.ah (s:Int))).bind λbM=>
   (ZN (aj v11 1) bM).bind λcv=>
   ξ cv (
    ((Z2 (aj v11 0)).bind λ_=>δ (2)).bind λp18=>
    ((Z2 (aj v11 0)).bind λlN=>Δ p18 lN).bind λcM=>
    (ZJ .i (.om σ.length) cM aqa sQ).bind λbO=>
    (A.jJ bO).bind λcj=>
    (A.uU 513 1 cj (aj v11 1)).bind λcA=>
    (ZX cA [χ η] sQ).bind λjG=>
    (Zn (aj v11 1) (ε 1)).bind λdz=>
    δ (Λ,[(aj v11 0),dz],jG)) (
    δ (φ 0,[(aj v11 0),(aj v11 1)],sQ))) [.lbx (eH u),.ah (a:Int)] (fY σ vs f)).bind (λjO=>
 bif decide (jO.1=φ 0)then K jO.2.1 jO.2.2 else μ)=K [.lbx (eH u),.ah ((a:Int)+s)] (fY σ vs (mM f u.univ a s)):=by
 have hw:Θ.wrap ((a:Int)+s)=(a:Int)+s:=dc (by unfold bE;omega)
 refine(mj (S:=Unit) (R:=Unit) (apN a s) (λ_ k(_:Unit)=>(Rd.go ():Rd Unit Unit))
  (λpre _=>[.lbx (eH u),.ah ((a:Int)+(pre.length:Int))]) (λpre _=>fY σ vs (mM f u.univ a pre.length)) (λ_=>(.exit 0,[.lbx (eH u),.ah ((a:Int)+s)],fY σ vs (mM f u.univ a s))) (λpre _ _=>(.ret,[],σ))
  (λ_ _=>True) () (λ_=>K [.lbx (eH u),.ah ((a:Int)+s)] (fY σ vs (mM f u.univ a s))) (λ_=>μ) ?_ ?_ trivial (λ_ _ _ _ _ _ _ _=>trivial) ?_ ?_ (hv:=by simp) (eD:=by rw[Us,ac0])).trans (IQ _ _ _ _)
 ·intro pre k rest t hl _;have hx:=mo hl;have hlt:=nZ hl;rw[Vg]at hlt
  obtain rfl:a+pre.length=k:=by have:=(bG.1 hx).2;simpa [List.getElem_range']using this
  have hlt':(a:Int)+(pre.length:Int)<(a:Int)+s:=by omega
  have hi1:Θ.wrap ((a:Int)+(pre.length:Int)+1)=(a:Int)+((pre.length:Int)+1):=by rw[dc (by unfold bE;omega)];omega
  have CE:(a:Int)+(pre.length:Int)=((a+pre.length:Nat):Int):=by omega
  clear hl hx
  have EJ:ZJ .i (.om σ.length) (.ah u.univ) aqa (fY σ vs (mM f u.univ a pre.length))=δ (.op (σ.length+1+vs.idxOf u.univ) 0):=by rw[zz .i rfl (IC σ vs _),Im,aH hm];rfl
  have ai6:A.uU 513 1 (.op (σ.length+1+vs.idxOf u.univ) 0) (.ah ((a+pre.length:Nat):Int))=δ (.op (σ.length+1+vs.idxOf u.univ) (a+pre.length)):=by
   have h1:A.idx 513 (.ah ((a+pre.length:Nat):Int))=δ (a+pre.length):=by show(if(0:Int)<=((a+pre.length:Nat):Int)/\((a+pre.length:Nat):Int)<((513:Nat):Int)then δ ((a+pre.length:Nat):Int).toNat else μ)=_;rw[aH ⟨by omega,by omega⟩];rfl
   unfold A.uU;rw[h1];simp only[aO,Nat.mul_one,Z3]
  have hst:ZX (.op (σ.length+1+vs.idxOf u.univ) (a+pre.length)) [.bool η] (fY σ vs (mM f u.univ a pre.length))=δ (fY σ vs (mM f u.univ a (pre.length+1))):=by
   simp only[ZX,VI σ _ hm]
   rw[ad7 _ (mM f u.univ a (pre.length+1) u.univ) (by omega) (by unfold mM;rw[aH ⟨rfl,by omega,by omega⟩]) (λj hj=>by
    unfold mM;by_cases q:a<=j/\j<a+pre.length
    ·rw[aH ⟨rfl,by omega,by omega⟩,aH ⟨rfl,q.1,q.2⟩]
    ·rw[aF (by omega),aF (by omega)])]
   simp only[ff];rw[agr σ hn hm (λw hw=>by funext j;unfold mM;rw[aF (λq=>hw q.1),aF (λq=>hw q.1)])]
  simp only[aD,reduceCtorEq,gL,iG,iH,iI,gO,gM,gP,ha,hw,hlt',EJ,show A.jJ (.op (σ.length+1+vs.idxOf u.univ) 0)=δ (.op (σ.length+1+vs.idxOf u.univ) 0)from rfl];rw[CE,ai6];simp only[aD,reduceCtorEq,hst,<-CE,hi1]
 ·intro t _;rw[Vg];simp only[aD,reduceCtorEq,gL,iG,iH,iI,gO,gM,gP,ha,hw,Z4]
 ·intro t _;simp only[aD,reduceCtorEq]
 ·intro pre x rest t r _ _ hb;cases hb
theorem ago(σ:Heap){vs:List Int}(hn:vs.Nodup)(f:Int->Nat->Bool)(u:fE)(a s:Nat)(ha:u.address=a)(hs:a+s<=513)(hf:u.univ∉vs->∀k,f u.univ k=ι):
  G6 [.om σ.length,.agg (eH u),.ah (s:Int)] (fY σ vs f)=δ (.aJ [],fY σ (if u.univ∈vs then vs else vs++[u.univ]) (mM f u.univ a s)):=by
 have e:DK (.om σ.length) (.agg (eH u)) (.ah (s:Int)) (fY σ vs f)=δ (.aJ [],fY σ (if u.univ∈vs then vs else vs++[u.univ]) (mM f u.univ a s)):=by
  unfold DK
  have EJ:ZJ .i (.om σ.length) (.ah u.univ) aqa (fY σ vs f)=δ (if u.univ∈vs then .op (σ.length+1+vs.idxOf u.univ) 0 else .np):=by rw[zz .i rfl (IC σ vs _),Im];by_cases hm:u.univ∈vs<;>simp [hm]
  simp only[aD,reduceCtorEq,gL,iG,iH,iI,gO,gM,gP,EJ];by_cases hm:u.univ∈vs
  ·simp only[aH hm,show Zt .p (.op (σ.length+1+vs.idxOf u.univ) 0) aqa=δ (.bool ι)from rfl,aD,reduceCtorEq,gL,iG,iH,iI,gO,gM,gP,ha];exact aod σ hn f u a s ha hs hm λ_ h=>δ (Zz [],h)
  ·have hup:Uj .i (.om σ.length) (.ah u.univ) (.op (fY σ vs f).length 0) (fY σ vs f++[apF (ZB 513 aT)])=δ (fY σ (vs++[u.univ]) f):=by rw[Ey .i rfl (es:=qP (σ.length+1) vs) (by rw[gZ (by rw[VJ];omega)];exact IC σ vs f),VH _ _ _ _ hm];rw[ff,VJ,<-apx,agq σ vs (hf hm)]
   simp only[aF hm,show Zt .p aqa aqa=δ (.bool η)from rfl,aD,reduceCtorEq,gL,iG,iH,iI,gO,gM,gP,hup,ha];exact aod σ (by rw[List.nodup_append];exact⟨hn,by simp,λx hx y hy e=>hm (by simp at hy;rw[<-hy,<-e];exact hx)⟩) f u a s ha hs (by simp) λ_ h=>δ (Zz [],h)
 unfold G6 Ξ;rw[Xp,bk];show(DK (.om σ.length) (.agg (eH u)) (.ah (s:Int)) (fY σ vs f)).map _=_;rw[e];rfl
theorem xE(n:Int)(σ:Heap):BG [.ah n] σ=δ (.bool (aU n 0 65535),σ):=by refine wrap_eq rfl ?_ rfl;show Ld (.ah n) σ=_;unfold Ld;simp only[aD,reduceCtorEq,ng]
theorem TZ(x:eM)(σ:Heap):Hz [.agg (cB x)] σ=δ (sl 1 aL (mN x.fk x.dK),σ):=by
 refine wrap_eq (v:=sl 1 aL (mN x.fk x.dK)) rfl ?_ rfl;show L8 (.agg (cB x)) σ=_;unfold L8 mN;simp only[aD,reduceCtorEq,lY,lZ,l5,l6,l7,l8,l9,mg,me,lE]
 repeat' ((first|rw[kg]|rw[ke]|rw[jZ]|rw[jV]|rw[jY]|rw[jX]);split<;>try simp only[aD,reduceCtorEq, *])
 all_goals rfl
theorem aeI(σ:Heap)(l:List mu):(hJ (λpre(x:mu)(_:Unit)=>
    if aU x.low 0 65535=ι\/aU x.high 0 65535=ι\/x.high<x.low then(.out 1:Rd Unit Int)
    else if 0<pre.length/\x.low<=(pre.getLast?.map (·.high)).getD 0 then .out 7
    else if oh x.name=ι then .out 5
    else if eA x.name (pre.map (·.name))=η then .out 6 else .go ()) [] l ()).el (λ_=>δ (ε 0,σ)) (λr=>δ (ε r,σ))=δ (.ah (zT [] l),σ):=by
 refine(xK (oG:=zT) ?_ ?_ (λn=>δ (ε n,σ)) l []).trans ?_
 ·intro pre;rfl
 ·intro pre x rest;rw[zT];simp only[uM,sA,sB]
 ·rfl
theorem aar(x:eM)(hx:M6 x)(l:List eM)(hl:l.length<=bf)(size:Int)(hf:∀y∈l,0<=y.dK)(σ:Heap):KB [.agg (cB x),sl 7 cB l,.ah size] σ=δ (.ah (u0 size l x),σ):=by
 refine wrap_eq rfl ?_ rfl;show KC (.agg (cB x)) (sl 7 cB l) (.ah size) σ=_;obtain⟨k1,k2,k3,k4,k5,k6⟩:=hx;have hN:=LR _ k1;unfold KC u0;simp only[aD,reduceCtorEq,lY,lZ,l5,l6,l7,l8,l9,mg,me,lE,hN];cases hn:oh x.name
 ·simp only[aD,reduceCtorEq]
 simp only[aD,reduceCtorEq];refine(zy l (λy=>decide (y.name=x.name)) (λi=>[.lbx (cB x),.ah 0,.ah (i:Int)]) σ (.exit 0,[.lbx (cB x),.ah 0,.ah (l.length:Int)],σ) (λi=>(.ret,[.lbx (cB x),.ah 6,.ah (i:Int)],σ)) _ (δ (.ah 6,σ)) ?_ ?_ rfl ?_).trans ?_
 ·intro i y hy;obtain⟨h1,h2,h3⟩:=uG 7 cB hy;have h3:=h3 hl;simp only[aD,reduceCtorEq,lY,lZ,l5,l6,l7,l8,l9,mg,me,lE,h1,h2,h3]
  repeat' ((first|rw[kg]|rw[ke]|rw[jZ]|rw[jV]|rw[jY]|rw[jX]);split<;>try simp only[aD,reduceCtorEq, *])
 ·simp only[aD,reduceCtorEq,Z4]
 ·intro i;simp only[aD,reduceCtorEq]
 rw[<-Ig x.name (λy:eM=>y.name)];cases hm:eA x.name (l.map (·.name))
 ·simp only[aD,reduceCtorEq,lY,lZ,l5,l6,l7,l8,l9,mg,me,lE,ng,xE];cases hg:aU x.group 1 4
  ·simp only[aD,reduceCtorEq]
  simp only[aD,reduceCtorEq];by_cases hw:aU x.fk 1 size=ι\/aU x.dK 0 size=ι\/aU x.default 0 65535=ι
  ·rw[aH hw];cases ha:aU x.fk 1 size
   ·simp only[aD,reduceCtorEq]
   cases hb:aU x.dK 0 size
   ·simp only[aD,reduceCtorEq,ng,hb]
   ·have hc:aU x.default 0 65535=ι:=by simpa [ha,hb]using hw
    simp only[aD,reduceCtorEq,ng,xE,hb,hc]
  ·rw[aF hw];simp only[not_or,aqc]at hw;obtain⟨ha,hb,hc⟩:=hw;have hx0:0<=x.dK:=by simp [aU]at hb;exact hb.1
   simp only[aD,reduceCtorEq,ng,xE,ha,hb,hc];by_cases he:x.fk=x.dK
   ·simp only[aD,reduceCtorEq,he]
   simp only[aD,reduceCtorEq,he];refine(zy l (λy=>Cy x.fk x.dK y.fk y.dK) (λi=>[.lbx (cB x),.ah 0,.ah (i:Int)]) σ (.exit 3,[.lbx (cB x),.ah 0,.ah (l.length:Int)],σ) (λi=>(.ret,[.lbx (cB x),.ah 12,.ah (i:Int)],σ)) _ (δ (.ah 12,σ)) ?_ ?_ rfl ?_).trans ?_
   ·intro i y hy;obtain⟨h1,h2,h3⟩:=uG 7 cB hy;have h3:=h3 hl;have kN:∀a b:Int,(mN a b).length<=bf:=by intro a b;unfold mN bf;split<;>simp
    simp only[aD,reduceCtorEq,lY,lZ,l5,l6,l7,l8,l9,mg,me,lE,h1,h2,h3,TZ];refine(zy (mN x.fk x.dK) (λs=>eA s (mN y.fk y.dK)) (λj=>[.lbx (cB x),.ah 0,.lbx (cB y),.ah (j:Int)]) σ (.exit 5,[.lbx (cB x),.ah 0,.lbx (cB y),.ah ((mN x.fk x.dK).length:Int)],σ) (λj=>(.ret,[.lbx (cB x),.ah 12,.lbx (cB y),.ah (j:Int)],σ)) _ (δ (.ret,[.lbx (cB x),.ah 12,.ah (i:Int)],σ)) ?_ ?_ rfl ?_).trans ?_
    ·intro j s hs;obtain⟨g1,g2,g3⟩:=uG 1 aL hs;have g3:=g3 (kN _ _)
     have hc:∀σ,lB [sl 1 aL (mN y.fk y.dK),.ah s] σ=δ (.bool (eA s (mN y.fk y.dK)),σ):=by intro σ;rw[zb _ (kN _ _) s σ];simp only[eA];congr 4;funext z;rw[decide_eq_decide];exact eq_comm
     simp only[aD,reduceCtorEq,lY,lZ,l5,l6,l7,l8,l9,mg,me,lE,g1,g2,g3,TZ,hc];cases eA s (mN y.fk y.dK)<;>simp only[aD,reduceCtorEq]
    ·simp only[aD,reduceCtorEq,Z4]
    ·intro j;simp only[aD,reduceCtorEq]
    ·simp only[aD,reduceCtorEq,Cy,h3];rfl
   ·simp only[aD,reduceCtorEq,Z4]
   ·intro i;simp only[aD,reduceCtorEq]
   have gf:(l.any λy=>Cy x.fk x.dK y.fk y.dK)=η↔(eA x.fk (slotsOf l)=η\/(0<x.dK/\eA x.dK (slotsOf l)=η)):=adP hf hx0;by_cases C7:(l.any λy=>Cy x.fk x.dK y.fk y.dK)=η
   ·rw[aH C7,aH (gf.1 C7)]
   rw[aF C7,aF (λh=>C7 (gf.2 h))];clear gf C7;simp only[aD,reduceCtorEq,lY,lZ,l5,l6,l7,l8,l9,mg,me,lE];unfold xS;by_cases wX:30<x.ranges.length
   ·have tL:(30:Int)<x.ranges.length:=by omega
    simp only[aD,reduceCtorEq,wX,tL]
   have tL:¬(30:Int)<x.ranges.length:=by omega
   simp only[aD,reduceCtorEq,wX,tL]
   refine(mj (S:=Unit) (R:=Int) x.ranges _
    (λpre _=>[.lbx (cB x),.ah 0,.ah (pre.length:Int)]) (λpre _=>σ)
    (λ_=>(.exit 7,[.lbx (cB x),.ah 0,.ah (x.ranges.length:Int)],σ)) (λpre _ r=>(.ret,[.lbx (cB x),.ah r,.ah (pre.length:Int)],σ))
    (λ_ _=>True) () (λ_=>δ (ε 0,σ)) (λr=>δ (ε r,σ)) ?_ ?_ trivial (λ_ _ _ _ _ _ _ _=>trivial) ?_ ?_).trans (aeI σ x.ranges)
   ·intro pre r rest u hl' _;have hr:=mo hl';have hlt:=nZ hl';have hi1:Θ.wrap ((pre.length:Int)+1)=(pre.length:Int)+1:=dc (by unfold bE;omega);have hi2:Θ.wrap ((pre.length:Int) -1)=(pre.length:Int) -1:=dc (by unfold bE;omega);have hlt':(pre.length:Int)<(x.ranges.length:Int):=by omega
    have hnm:=(k6.2 r (by rw[hl'];simp)).2.2;have jg:=mh 3 iM x.ranges hr;have YI:=LR _ hnm;have hst:=λσ=>Hu 3 iM x.ranges (k:=pre.length) (by omega) (σ:=σ)
    rw[Ii hl']at hst;have hpl:pre.length<=bf:=by unfold bf;omega
    by_cases h0:0<pre.length
    ·obtain⟨y,hy,hy2⟩:=MJ hl' h0;have z7:=Hx 3 iM x.ranges h0 hy2;have iz:(0:Int)<pre.length:=by omega
     clear hl' hr hlt wX tL hy2 hnm k1 k2 k3 k4 k5 k6 hN hn hm hg ha hb hc hx0 he hf;simp only[aD,reduceCtorEq,uv,uw,ux,uB,uA,uC,lY,lZ,l5,l6,l7,l8,l9,mg,me,lE,hlt',jg,xE,hi1,hi2,YI,iz,hy,h0]
     repeat' ((first|rw[kg]|rw[ke]|rw[jZ]|rw[jV]|rw[jY]|rw[jX]);split<;>try simp only[aD,reduceCtorEq,uv,uw,ux,uB,uA,uC,lY,lZ,l5,l6,l7,l8,l9,mg,me,lE,xE, *])
     all_goals first|rfl|(simp_all;done)|skip
     all_goals
      refine(zy pre (λz=>decide (z.name=r.name)) (λj=>[.lbx (cB x),.ah 0,.lbx (iM r),.ah (j:Int)]) σ (.exit 10,[.lbx (cB x),.ah 0,.lbx (iM r),.ah (pre.length:Int)],σ) (λj=>(.ret,[.lbx (cB x),.ah 6,.lbx (iM r),.ah (j:Int)],σ)) _ (δ (.ret,[.lbx (cB x),.ah 6,.ah (pre.length:Int)],σ)) ?_ ?_ rfl ?_).trans ?_
      ·intro j z hz;obtain⟨g1,g2,g3⟩:=uG 3 iM hz;have g3:=g3 hpl;simp only[aD,reduceCtorEq,uv,uw,ux,uB,uA,uC,g1,g2,g3]
       repeat' ((first|rw[kg]|rw[ke]|rw[jZ]|rw[jV]|rw[jY]|rw[jX]);split<;>try simp only[aD,reduceCtorEq, *])
      ·simp only[aD,reduceCtorEq,Z4]
      ·intro j;simp only[aD,reduceCtorEq]
      ·rw[<-Ig r.name (λz:mu=>z.name)]
       simp_all [aD,reduceCtorEq]
       try (split<;>simp_all)
    ·have iz:¬(0:Int)<pre.length:=by omega
     clear hl' hr hlt wX tL hnm k1 k2 k3 k4 k5 k6 hN hn hm hg ha hb hc hx0 he hf;simp only[aD,reduceCtorEq,uv,uw,ux,uB,uA,uC,lY,lZ,l5,l6,l7,l8,l9,mg,me,lE,hlt',jg,xE,hi1,hi2,YI,iz,h0]
     repeat' ((first|rw[kg]|rw[ke]|rw[jZ]|rw[jV]|rw[jY]|rw[jX]);split<;>try simp only[aD,reduceCtorEq,uv,uw,ux,uB,uA,uC,lY,lZ,l5,l6,l7,l8,l9,mg,me,lE,xE, *])
     all_goals first|rfl|(simp_all;done)|skip
     all_goals
      refine(zy pre (λz=>decide (z.name=r.name)) (λj=>[.lbx (cB x),.ah 0,.lbx (iM r),.ah (j:Int)]) σ (.exit 10,[.lbx (cB x),.ah 0,.lbx (iM r),.ah (pre.length:Int)],σ) (λj=>(.ret,[.lbx (cB x),.ah 6,.lbx (iM r),.ah (j:Int)],σ)) _ (δ (.ret,[.lbx (cB x),.ah 6,.ah (pre.length:Int)],σ)) ?_ ?_ rfl ?_).trans ?_
      ·intro j z hz;obtain⟨g1,g2,g3⟩:=uG 3 iM hz;have g3:=g3 hpl;simp only[aD,reduceCtorEq,uv,uw,ux,uB,uA,uC,g1,g2,g3]
       repeat' ((first|rw[kg]|rw[ke]|rw[jZ]|rw[jV]|rw[jY]|rw[jX]);split<;>try simp only[aD,reduceCtorEq, *])
      ·simp only[aD,reduceCtorEq,Z4]
      ·intro j;simp only[aD,reduceCtorEq]
      ·rw[<-Ig r.name (λz:mu=>z.name)]
       simp_all [aD,reduceCtorEq]
       try (split<;>simp_all)
   ·intro u _;simp only[aD,reduceCtorEq,Z4]
   ·intro u _;simp only[aD,reduceCtorEq]
   ·intros;simp only[aD,reduceCtorEq]
 ·simp only[aD,reduceCtorEq]
theorem aac(p:cE)(hok:zq p)(σ:Heap):Ks [.agg (cQ p)] σ=δ (.ah (mL p),σ):=by
 refine wrap_eq rfl ?_ rfl;show Kw (.agg (cQ p)) σ=_;obtain⟨pn,ps,l⟩:=p;obtain⟨hnm,hps,z8⟩:=hok;simp only at hnm hps z8;have hN:=LR _ hnm;unfold Kw mL;simp only[aD,reduceCtorEq,jq,jr,jt,jv,ju,jx,hN,ng];cases hn:oh pn
 ·simp only[aD,reduceCtorEq]
 cases hz:aU ps 1 512
 ·simp only[aD,reduceCtorEq]
 by_cases h0:l.length=0
 ·obtain rfl:l=[]:=tE h0;simp [aD,reduceCtorEq]
 have iz:¬(l.length:Int)=0:=by omega
 by_cases AJ:40<l.length
 ·have wE:(40:Int)<l.length:=by omega
  simp only[aD,reduceCtorEq,h0,iz,AJ,wE]
 have wE:¬(40:Int)<l.length:=by omega
 simp only[aD,reduceCtorEq,h0,iz,AJ,wE]
 refine(mj (S:=Unit) (R:=Int) l (λpre x _=>if u0 ps pre x=0 then .go ()else .out (u0 ps pre x))
  (λpre _=>[.lbx (cQ ⟨pn,ps,l⟩),.ah 0,.ah (pre.length:Int)]) (λpre _=>σ)
  (λ_=>(.exit 1,[.lbx (cQ ⟨pn,ps,l⟩),.ah 0,.ah (l.length:Int)],σ))
  (λpre _ r=>(.ret,[.lbx (cQ ⟨pn,ps,l⟩),.ah r,.ah (pre.length:Int)],σ))
  (λpre _=>∀y∈pre,0<=y.dK) () (λ_=>δ (ε 0,σ)) (λr=>δ (ε r,σ)) ?_ ?_ (by simp) ?_ ?_ ?_).trans ?_
 ·intro pre x rest u hl hpre;have hx:=mo hl;have hlt:=nZ hl;have hi1:Θ.wrap ((pre.length:Int)+1)=(pre.length:Int)+1:=dc (by unfold bE;omega);have hi2:Θ.wrap ((pre.length:Int) -1)=(pre.length:Int) -1:=dc (by unfold bE;omega);have hlt':(pre.length:Int)<(l.length:Int):=by omega
  have hX:=aar x (z8.2 x (by rw[hl];simp)) pre (by unfold bf;omega) ps hpre σ;have jg:=mh 7 cB l hx;have hst:=λσ=>Hu 7 cB l (k:=pre.length) (by omega) (σ:=σ)
  rw[Ii hl]at hst;clear hl hx hlt z8 AJ wE h0 iz hnm hps hN hn hz hpre;simp only[aD,reduceCtorEq,lY,lZ,l5,l6,l7,l8,l9,mg,me,lE,jq,jr,jt,jv,ju,jx,hlt',jg,hst,hX,hi1]
  repeat' ((first|rw[kg]|rw[ke]|rw[jZ]|rw[jV]|rw[jY]|rw[jX]);split<;>try simp only[aD,reduceCtorEq,lY,lZ,l5,l6,l7,l8,l9,mg,me,lE, *])
  all_goals first|with_reducible rfl|(simp [*];done)|(simp_all;done)|(simp_all;omega)|rfl
 ·intro u _;exact tc _ _ _
 ·intro pre x rest s s' hl hpre hb y hy;rcases fB.1 hy with hy|hy
  ·exact hpre y hy
  ·simp at hy;subst hy;by_cases h:u0 ps pre y=0
   ·exact adN h
   ·rw[aF h]at hb;cases hb
 ·intro u _;simp only[aD,reduceCtorEq]
 ·intros;simp only[aD,reduceCtorEq]
 ·refine(xK (oG:=yx ps) ?_ ?_ (λn=>δ (ε n,σ)) l []).trans ?_
  ·intro pre;rfl
  ·intro pre x rest;rw[adM];simp only[uM,sA,sB]
  ·rfl
theorem aab(l:List cE)(hok:fW zq l)(σ:Heap):Kr [sl 3 cQ l] σ=δ (.ah (rE l),σ):=by
 refine wrap_eq rfl ?_ rfl;show Kv (sl 3 cQ l) σ=_;unfold Kv rE;simp only[aD,reduceCtorEq];by_cases rT:60<l.length
 ·have mS:(60:Int)<l.length:=by omega
  simp only[aD,reduceCtorEq,rT,mS]
 have mS:¬(60:Int)<l.length:=by omega
 simp only[aD,reduceCtorEq,rT,mS]
 refine(mj (S:=Unit) (R:=Int) l (λpre x _=>if mL x=0 then(if eA x.name (pre.map (·.name))=η then .out 6 else .go ())else .out (mL x))
  (λpre _=>[.ah 0,.ah (pre.length:Int)]) (λpre _=>σ)
  (λ_=>(.exit 0,[.ah 0,.ah (l.length:Int)],σ)) (λpre _ r=>(.ret,[.ah r,.ah (pre.length:Int)],σ))
  (λ_ _=>True) () (λ_=>δ (ε 0,σ)) (λr=>δ (ε r,σ)) ?_ ?_ trivial (λ_ _ _ _ _ _ _ _=>trivial) ?_ ?_).trans ?_
 ·intro pre x rest u hl _;have hx:=mo hl;have hlt:=nZ hl;have hi1:Θ.wrap ((pre.length:Int)+1)=(pre.length:Int)+1:=dc (by unfold bE;omega);have hi2:Θ.wrap ((pre.length:Int) -1)=(pre.length:Int) -1:=dc (by unfold bE;omega);have hlt':(pre.length:Int)<(l.length:Int):=by omega
  have hP:=aac x (hok.2 x (by rw[hl];simp));have jg:=mh 3 cQ l hx;have hst:=λσ=>Hu 3 cQ l (k:=pre.length) (by omega) (σ:=σ)
  rw[Ii hl]at hst;have hpl:pre.length<=bf:=by unfold bf;omega
  clear hl hx hlt hok rT mS;simp only[aD,reduceCtorEq,jq,jr,jt,jv,ju,jx,hlt',jg,hi1,hst,hP];by_cases hp:mL x=0
  ·simp only[aD,reduceCtorEq,hp];refine(zy pre (λz=>decide (z.name=x.name)) (λj=>[.ah 0,.lbx (cQ x),.ah (j:Int)]) σ (.exit 2,[.ah 0,.lbx (cQ x),.ah (pre.length:Int)],σ) (λj=>(.ret,[.ah 6,.lbx (cQ x),.ah (j:Int)],σ)) _ (δ (.ret,[.ah 6,.ah (pre.length:Int)],σ)) ?_ ?_ rfl ?_).trans ?_
   ·intro j z hz;obtain⟨g1,g2,g3⟩:=uG 3 cQ hz;have g3:=g3 hpl;simp only[aD,reduceCtorEq,jq,jr,jt,jv,ju,jx,g1,g2,g3]
    repeat' ((first|rw[kg]|rw[ke]|rw[jZ]|rw[jV]|rw[jY]|rw[jX]);split<;>try simp only[aD,reduceCtorEq, *])
   ·simp only[aD,reduceCtorEq,Z4]
   ·intro j;simp only[aD,reduceCtorEq]
   ·rw[<-Ig x.name (λz:cE=>z.name)];simp only[aD,reduceCtorEq,hi1];cases eA x.name (pre.map (·.name))<;>simp [apM]
  ·simp only[aD,reduceCtorEq,hp]
 ·intro u _;exact tc _ _ _
 ·intro u _;simp only[aD,reduceCtorEq]
 ·intros;simp only[aD,reduceCtorEq]
 ·refine(xK (oG:=uZ) ?_ ?_ (λn=>δ (ε n,σ)) l []).trans ?_
  ·intro pre;rfl
  ·intro pre x rest;rw[uZ];simp only[uM,sA,sB]
  ·rfl
theorem aoO(r:dj)(u:fE)(hl:r.bV.length<=bf)(h:bE (u.address+(fD u.gm r.bV).1.size))(h':bE (gK r.bV u))(σ:Heap):D8 [.agg (b7 r),.agg (eH u)] σ=δ (.ah (gK r.bV u),σ):=by refine wrap_eq rfl ?_ rfl;show Mo (.agg (b7 r)) (.agg (eH u)) σ=_;unfold Mo;unfold gK at h' ⊢;simp only[aD,reduceCtorEq,jQ,jz,iK,iJ,jT,gL,iG,iH,iI,gO,gM,gP,jq,jr,jt,jv,ju,jx,Lv _ hl,dc h,dc h']
theorem SL{α:Type}(f:α->Int){l pre rest:List α}{x:α}(h:l=pre++x::rest)(n:Int):(∃y,0<pre.length/\l[pre.length-1]? =δ y/\yE (pre.map f) n=decide (n<=f y))\/(¬0<pre.length/\yE (pre.map f) n=ι):=by
 by_cases h0:0<pre.length
 ·obtain⟨y,hy,hy2⟩:=MJ h h0;exact .inl ⟨y,h0,hy2,by simp [yE,List.getLast?_map,hy]⟩
 ·obtain rfl:pre=[]:=tE (by omega);exact .inr ⟨h0,rfl⟩
theorem agT{r:dj}{x:fE}(h:1<=x.address/\x.address<=gK r.bV x/\gK r.bV x<=512):bE (x.address+(fD x.gm r.bV).1.size)/\bE (gK r.bV x):=by unfold gK at h ⊢;unfold bE;omega
theorem aaR(r:dj)(hok:oo r)(σ:Heap):KK [.agg (b7 r)] σ=δ (.ah (iP r),σ):=by
 refine wrap_eq rfl ?_ rfl;show KM (.agg (b7 r)) σ=_;obtain⟨CN,Qs⟩:=hok;have AP:=CN.1;unfold KM iP;simp only[aD,reduceCtorEq,jQ,jz,iK,iJ,jT,aab _ CN];by_cases hf:rE r.bV=0;case neg=>simp only[aD,reduceCtorEq,hf]
 by_cases h4:400<r.dQ.length
 ·have h4':(400:Int)<r.dQ.length:=by omega
  simp only[aD,reduceCtorEq,jQ,jz,iK,iJ,jT,hf,h4,h4']
 have h4':¬(400:Int)<r.dQ.length:=by omega
 simp only[aD,reduceCtorEq,jQ,jz,iK,iJ,jT,hf,h4,h4'];have CA:=SI hf;generalize w5:r.dQ=l at *
 refine(mj (S:=Unit) (R:=Int) l (λpre u _=>if aU u.aE 1 9999=ι then .out 1
    else if yE (pre.map (·.aE)) u.aE=η then .out 7
    else if(fD u.gm r.bV).2=ι then .out 5
    else if aU u.univ 1 64=ι\/aU u.address 1 512=ι\/512<gK r.bV u then .out 1
    else if xU r.bV u pre=η then .out 12 else .go ())
  (λpre _=>[.lbx (b7 r),.ah 0,.ah (pre.length:Int)]) (λpre _=>σ)
  (λ_=>(.exit 0,[.lbx (b7 r),.ah 0,.ah (l.length:Int)],σ)) (λpre _ n=>(.ret,[.lbx (b7 r),.ah n,.ah (pre.length:Int)],σ))
  (λpre _=>Ck r.bV pre) () (λ_=>δ (ε 0,σ)) (λn=>δ (ε n,σ)) ?_ ?_ (by intro x hx;simp at hx) ?_ ?_ ?_).trans ?_
 ·intro pre u rest s hl hP;have hx:=mo hl;have hlt:=nZ hl;have hi1:Θ.wrap ((pre.length:Int)+1)=(pre.length:Int)+1:=dc (by unfold bE;omega);have hi2:Θ.wrap ((pre.length:Int) -1)=(pre.length:Int) -1:=dc (by unfold bE;omega);have hlt':(pre.length:Int)<(l.length:Int):=by omega
  have hmp:pre.length<=bf:=by unfold bf;omega
  have jg:=mh 4 eH l hx;have hst:=λσ=>Hu 4 eH l (k:=pre.length) (by omega) (σ:=σ)
  rw[Ii hl]at hst;have C6:=Lv r.bV AP u.gm;have ho:=SL (·.aE) hl u.aE;clear Qs h4 h4' hl hx;simp only[aD,reduceCtorEq,gL,iG,iH,iI,gO,gM,gP,jQ,jz,iK,iJ,jT,w5,hlt',jg,C6,jq,jr,jt,jv,ju,jx,ng];cases h1:aU u.aE 1 9999
  ·simp only[aD,reduceCtorEq]
  simp only[aD,reduceCtorEq];rcases ho with⟨y,h0,hy,ho⟩|⟨h0,ho⟩
  case' inl=>
   have iz:(0:Int)<pre.length:=by omega
   have z7:=Hx 4 eH l h0 hy;by_cases hq:u.aE<=y.aE
   ·simp only[aD,reduceCtorEq,gL,iG,iH,iI,gO,gM,gP,jQ,jz,iK,iJ,jT,w5,iz,hi2,z7,ho,hq]
   simp only[aD,reduceCtorEq,gL,iG,iH,iI,gO,gM,gP,jQ,jz,iK,iJ,jT,w5,iz,hi2,z7,ho,hq]
  case' inr=>
   have iz:¬(0:Int)<pre.length:=by omega
   simp only[aD,reduceCtorEq,iz,ho]
  all_goals
   cases hp:(fD u.gm r.bV).2
   ·simp only[aD,reduceCtorEq]
   have hsz:=CA _ (D0 _ _ hp);cases hu:aU u.univ 1 64
   ·simp only[aD,reduceCtorEq,gL,iG,iH,iI,gO,gM,gP,ng,hu]
   cases ha:aU u.address 1 512
   ·simp only[aD,reduceCtorEq,gL,iG,iH,iI,gO,gM,gP,ng,hu,ha]
   have ha':1<=u.address/\u.address<=512:=by simpa [aU]using ha
   have PY:=aoO r u AP (by unfold bE;omega) (by unfold gK bE;omega);by_cases h5:512<gK r.bV u
   ·simp only[aD,reduceCtorEq,gL,iG,iH,iI,gO,gM,gP,jQ,jz,iK,iJ,jT,ng,hu,ha,PY,h5]
   simp only[aD,reduceCtorEq,gL,iG,iH,iI,gO,gM,gP,jQ,jz,iK,iJ,jT,ng,hu,ha,PY,h5,w5,hst];refine(zy pre (λx=>decide (x.univ=u.univ/\x.address<=gK r.bV u/\u.address<=gK r.bV x)) (λj=>[.lbx (b7 r),.ah 0,.lbx (eH u),.ah (j:Int)]) σ (.exit 3,[.lbx (b7 r),.ah 0,.lbx (eH u),.ah (pre.length:Int)],σ) (λj=>(.ret,[.lbx (b7 r),.ah 12,.lbx (eH u),.ah (j:Int)],σ)) _ (δ (.ret,[.lbx (b7 r),.ah 12,.ah (pre.length:Int)],σ)) ?_ ?_ rfl ?_).trans ?_
   ·intro j z hz;obtain⟨g1,g2,g3⟩:=uG 4 eH hz;have g3:=g3 hmp;have Y4:=agT (hP z (ct hz));have hLz:=aoO r z AP Y4.1 Y4.2;clear hP CA hz;simp only[aD,reduceCtorEq,gL,iG,iH,iI,gO,gM,gP,jQ,jz,iK,iJ,jT,g1,g2,g3]
    repeat' ((first|rw[kg]|rw[ke]|rw[jZ]|rw[jV]|rw[jY]|rw[jX]);split<;>try simp only[aD,reduceCtorEq,gL,iG,iH,iI,gO,gM,gP,jQ,jz,iK,iJ,jT,PY,hLz, *])
    all_goals first|with_reducible rfl|(simp [*];done)|(simp_all;done)|(simp_all;omega)|rfl
   ·exact tc _ _ _
   ·intro j;simp only[aD,reduceCtorEq]
   ·unfold xU;simp only[aD,reduceCtorEq,hi1];cases pre.any (λx=>decide (x.univ=u.univ/\x.address<=gK r.bV u/\u.address<=gK r.bV x))<;>simp [apM]
 ·intro u _;exact tc _ _ _
 ·intro pre u rest s s' hl hP hb;split at hb
  ·cases hb
  split at hb
  ·cases hb
  split at hb
  ·cases hb
  rename_i hp;split at hb
  ·cases hb
  rename_i hw;simp only[not_or,aqc,aU,fy,decide_eq_true_eq]at hw hp;have hsz:=CA _ (D0 _ _ (by simpa using hp));exact hP.snoc ⟨hw.2.1.1,by unfold gK;omega,by omega⟩
 ·intro u _;simp only[aD,reduceCtorEq]
 ·intros;simp only[aD,reduceCtorEq]
 ·refine(xK (oG:=yy r.bV) ?_ ?_ (λn=>δ (ε n,σ)) l []).trans ?_
  ·intro pre;rfl
  ·intro pre x rest;rw[yy];simp only[uM,sA,sB]
  ·rfl
theorem afl(σ:Heap)(vs:List Int)(f:Int->Nat->Bool)(v:Int):ZJ .i (.om σ.length) (.ah v) aqa (fY σ vs f)=δ (if v∈vs then .op (σ.length+1+vs.idxOf v) 0 else .np):=by rw[zz .i rfl (IC σ vs _),Im];by_cases hm:v∈vs<;>simp [hm]
theorem U2(σ:Heap)(vs:List Int)(f:Int->Nat->Bool)(n:Int):wh σ (.ah n) (fY σ vs f)=δ (.ah n,σ):=MY _ _ _ _
theorem Lu(r:dj)(hok:oo r)(σ:Heap):GZ [.agg (b7 r)] σ=δ (.ah (iP r),σ):=by
 refine wrap_eq rfl ?_ rfl;show Kn (.agg (b7 r)) σ=_;obtain⟨CN,Qs⟩:=hok;have AP:=CN.1;unfold Kn iP;simp only[aD,reduceCtorEq,jQ,jz,iK,iJ,jT,aaf _ CN];by_cases hf:rE r.bV=0;case neg=>simp only[aD,reduceCtorEq,hf]
 by_cases h4:400<r.dQ.length
 ·have h4':(400:Int)<r.dQ.length:=by omega
  simp only[aD,reduceCtorEq,jQ,jz,iK,iJ,jT,hf,h4,h4']
 have h4':¬(400:Int)<r.dQ.length:=by omega
 simp only[aD,reduceCtorEq,jQ,jz,iK,iJ,jT,hf,h4,h4'];have CA:=SI hf;generalize w5:r.dQ=l at *
 refine(mj (S:=List Int×(Int->Nat->Bool)) (R:=Int) l (λpre u s=>if aU u.aE 1 9999=ι then .out 1
    else if yE (pre.map (·.aE)) u.aE=η then .out 7
    else if(fD u.gm r.bV).2=ι then .out 5
    else if aU u.univ 1 64=ι\/aU u.address 1 512=ι\/512<gK r.bV u then .out 1
    else if xU r.bV u pre=η then .out 12 else .go (if u.univ∈s.1 then s.1 else s.1++[u.univ],mM s.2 u.univ u.address.toNat (fD u.gm r.bV).1.size.toNat))
  (λpre _=>[.lbx (b7 r),.ah 0,.ah (pre.length:Int)]) (λpre s=>fY σ s.1 s.2)
  (λs=>(.exit 0,[.lbx (b7 r),.ah 0,.ah (l.length:Int)],fY σ s.1 s.2)) (λpre s n=>(.ret,[.lbx (b7 r),.ah n,.ah (pre.length:Int)],fY σ s.1 s.2))
  (λpre s=>Ck r.bV pre/\xT r.bV pre s.2/\s.1.Nodup/\∀v,v∉s.1->∀k,s.2 v k=ι) ([],λ_ _=>ι) (λ_=>δ (ε 0,σ)) (λn=>δ (ε n,σ)) ?_ ?_ ⟨(by intro x hx;simp at hx),xT.nil _,List.nodup_nil,λ_ _ _=>rfl⟩ ?_ ?_ ?_).trans ?_
 ·intro pre u rest s hl hP;have hx:=mo hl;have hlt:=nZ hl;have hi1:Θ.wrap ((pre.length:Int)+1)=(pre.length:Int)+1:=dc (by unfold bE;omega);have hi2:Θ.wrap ((pre.length:Int) -1)=(pre.length:Int) -1:=dc (by unfold bE;omega);have hlt':(pre.length:Int)<(l.length:Int):=by omega
  have hmp:pre.length<=bf:=by unfold bf;omega
  have jg:=mh 4 eH l hx;have C6:=SS r.bV AP u.gm;have ho:=SL (·.aE) hl u.aE;obtain⟨vs,f⟩:=s;obtain⟨FW,FX,C4,C5⟩:=hP;dsimp only at FW FX C4 C5 ⊢;clear Qs h4 h4' hl hx;simp only[aD,reduceCtorEq,gL,iG,iH,iI,gO,gM,gP,jQ,jz,iK,iJ,jT,w5,hlt',jg,C6,jq,jr,jt,jv,ju,jx,kR];cases h1:aU u.aE 1 9999
  ·simp only[aD,reduceCtorEq]
  simp only[aD,reduceCtorEq];rcases ho with⟨y,h0,hy,ho⟩|⟨h0,ho⟩
  case' inl=>
   have iz:(0:Int)<pre.length:=by omega
   have z7:=Hx 4 eH l h0 hy;by_cases hq:u.aE<=y.aE
   ·simp only[aD,reduceCtorEq,gL,iG,iH,iI,gO,gM,gP,jQ,jz,iK,iJ,jT,w5,iz,hi2,z7,ho,hq]
   simp only[aD,reduceCtorEq,gL,iG,iH,iI,gO,gM,gP,jQ,jz,iK,iJ,jT,w5,iz,hi2,z7,ho,hq]
  case' inr=>
   have iz:¬(0:Int)<pre.length:=by omega
   simp only[aD,reduceCtorEq,iz,ho]
  all_goals
   try simp only[aD,reduceCtorEq,gL,iG,iH,iI,gO,gM,gP,jQ,jz,iK,iJ,jT,w5,C6]
   cases hp:(fD u.gm r.bV).2
   ·simp only[aD,reduceCtorEq,jq,jr,jt,jv,ju,jx]
   have hsz:=CA _ (D0 _ _ hp);try simp only[aD,reduceCtorEq,gL,iG,iH,iI,gO,gM,gP,jq,jr,jt,jv,ju,jx,kR]
   cases hu:aU u.univ 1 64
   ·simp only[aD,reduceCtorEq]
   cases ha:aU u.address 1 512
   ·simp only[aD,reduceCtorEq,gL,iG,iH,iI,gO,gM,gP,kR,ha]
   have ha':1<=u.address/\u.address<=512:=by simpa [aU]using ha
   have hw1:Θ.wrap (u.address+(fD u.gm r.bV).1.size)=u.address+(fD u.gm r.bV).1.size:=dc (by unfold bE;omega);have ao6:Θ.wrap (u.address+(fD u.gm r.bV).1.size-1)=gK r.bV u:=dc (by unfold bE;omega);have YP:gK r.bV u=u.address+(fD u.gm r.bV).1.size-1:=rfl;by_cases h5:512<gK r.bV u
   ·simp only[aD,reduceCtorEq,gL,iG,iH,iI,gO,gM,gP,jq,jr,jt,jv,ju,jx,kR,ha,hw1,ao6,h5]
   obtain⟨a,P4⟩:∃a:Nat,u.address=a:=⟨u.address.toNat,by omega⟩
   obtain⟨n,hne⟩:∃n:Nat,(fD u.gm r.bV).1.size=n:=⟨(fD u.gm r.bV).1.size.toNat,by omega⟩
   have JD:=acM FX FW u a n P4 (by omega) (by omega) (by omega)
   have hfree:Bq [if u.univ∈vs then .op (σ.length+1+vs.idxOf u.univ) 0 else .np,.ah (a:Int),.ah (n:Int)] (fY σ vs f)=δ (.bool (!xU r.bV u pre),fY σ vs f):=by
    by_cases hm:u.univ∈vs
    ·rw[aH hm,afL (f u.univ) a n (by omega) (VI σ f hm),JD]
    ·rw[aF hm,afK a n (by unfold bE;omega) (by unfold bE;omega),<-JD];have e:sC (f u.univ) n a=η:=(Mh _ _ _).2 λk h1 h2=>⟨by omega,C5 _ hm k⟩
     rw[e,show decide ((a:Int)+n-1<=512)=η from fF (by omega)]
   have qg:=ago σ C4 f u a n P4 (by omega) (C5 u.univ);simp only[aD,reduceCtorEq,gL,iG,iH,iI,gO,gM,gP,jq,jr,jt,jv,ju,jx,kR,ha,hw1,ao6,h5,afl];rw[P4,hne];simp only[aD,reduceCtorEq,hfree];cases hc:xU r.bV u pre
   ·simp only[aD,reduceCtorEq,gL,iG,iH,iI,gO,gM,gP,jq,jr,jt,jv,ju,jx,hne,qg,hi1,Int.toNat_natCast]
   ·simp only[aD,reduceCtorEq]
 ·intro s _;exact tc _ _ _
 ·intro pre u rest s s' hl hP hb;obtain⟨vs,f⟩:=s;obtain⟨FW,FX,C4,C5⟩:=hP;dsimp only at FW FX C4 C5 hb;split at hb
  ·cases hb
  split at hb
  ·cases hb
  split at hb
  ·cases hb
  rename_i hp;split at hb
  ·cases hb
  rename_i hw;split at hb
  ·cases hb
  injection hb with hb
  subst hb;simp only[not_or,aqc,aU,fy,decide_eq_true_eq]at hw hp;have hsz:=CA _ (D0 _ _ (by simpa using hp));have YP:gK r.bV u=u.address+(fD u.gm r.bV).1.size-1:=rfl;refine⟨FW.snoc ⟨hw.2.1.1,by omega,by omega⟩,FX.snoc u u.address.toNat _ (by omega) (by omega),?_,?_⟩
  ·dsimp only;split
   ·exact C4
   ·rename_i hm;rw[List.nodup_append];exact⟨C4,by simp,λx hx y hy e=>hm (by simp at hy;rw[<-hy,<-e];exact hx)⟩
  ·intro v hv k;dsimp only at hv ⊢
   have h1:v≠u.univ/\v∉vs:=by
    split at hv
    ·rename_i hm;exact⟨λe=>hv (e▸hm),hv⟩
    ·simp only[fB,Yg,not_or]at hv;exact⟨hv.2,hv.1⟩
   unfold mM;rw[aF (λq=>h1.1 q.1)];exact C5 v h1.2 k
 ·intro s _;simp only[aD,reduceCtorEq,U2]
 ·intros;simp only[aD,reduceCtorEq,U2]
 ·refine(apw (oG:=yy r.bV) ?_ ?_ (λn=>δ (ε n,σ)) l [] _).trans ?_
  ·intro pre;rfl
  ·intro pre x rest s;rw[yy];simp only[uM,sA,sB]
  ·rfl
def pP(fU:List cE)(u:fE):List cV:=(fD u.gm fU).1.params.map λx=>⟨u.aE,x.name⟩
def qX(r:dj):List cV:=r.dQ.flatMap (pP r.bV)
theorem aak{p:cE}(h:mL p=0):p.params.length<=40:=by
 unfold mL at h
 repeat' split at h
 all_goals first|(simp at h;done)|omega
theorem aos:∀(l pre:List cE),uZ pre l=0->∀p∈l,mL p=0
 |[],pre,h,p,hp=>by simp at hp
 |q::rest,pre,h,p,hp=>by
  rw[uZ]at h;by_cases e:mL q=0
  ·rw[aH e]at h;by_cases e2:eA q.name (pre.map (·.name))=η
   ·rw[aH e2]at h;simp at h
   ·rw[aF e2]at h;simp only[fA]at hp;rcases hp with rfl|hp
    ·exact e
    ·exact aos rest _ h p hp
  ·rw[aF e]at h;exact absurd h e
theorem afc{r:dj}(h:iP r=0):rE r.bV=0:=by
 unfold iP at h;split at h
 ·assumption
 ·rename_i h2;exact absurd h h2
theorem acY{l:List cE}(h:rE l=0):∀p∈l,mL p=0:=by
 unfold rE at h;by_cases e:60<l.length
 ·rw[aH e]at h;simp at h
 ·rw[aF e]at h;exact aos l [] h
theorem SR{r:dj}(h:iP r=0)(nm:ByteArray):(fD nm r.bV).1.params.length<=40:=by
 rw[BR];cases hf:r.bV.find? (λx:cE=>decide (x.name=nm))with
 |none=>exact jK _
 |some p=>exact aak (acY (afc h) p (wB hf))
theorem Ls{r:dj}(h:iP r=0):∀(l:List fE),(l.flatMap (pP r.bV)).length<=l.length*40
 |[]=>by simp
 |u::l=>by
  have h1:=SR h u.gm;have h2:=Ls h l;rw[apQ,PU,ZT,Nat.succ_mul];have h3:(pP r.bV u).length=(fD u.gm r.bV).1.params.length:=by simp [pP]
  omega
theorem agX(l:List cV)(n:Int):S7 (.t [(.s 2),.k]) (.aJ [if l=[]then .aC else sl 2 dm l,.ah n])=.aJ [sl 2 dm l,.ah n]:=by show Zz [S7 (.s 2) (if l=[]then .aC else sl 2 dm l),.ah n]=_;rw[agY]
theorem SX{r:dj}(h:iP r=0):r.dQ.length<=400:=by
 unfold iP at h;split at h
 ·split at h
  ·cases h
  ·omega
 ·rename_i h2;exact absurd h h2
theorem afq(r:dj)(hok:oo r)(σ:Heap):KE [.agg (b7 r)] σ=δ (.aJ [sl 2 dm (if iP r=0 then qX r else[]),.ah (iP r)],σ):=by
 by_cases hf:iP r=0
 ·refine wrap_eq rfl (v:=.aJ [if qX r=[]then .aC else sl 2 dm (qX r),.ah 0]) ?_ (by rw[aH hf,hf];exact agX _ _);show DJ (.agg (b7 r)) σ=_;unfold DJ;have hu:=SX hf;have CN:=hok.1.2;simp only[aD,reduceCtorEq,jQ,jz,iK,iJ,jT,Lu r hok,hf]
  refine(mj (S:=Unit) (R:=Unit) r.dQ (λpre u _=>(Rd.go ():Rd Unit Unit))
   (λpre _=>[.lbx (b7 r),sH σ.length 2 (pre.flatMap (pP r.bV)),.ah (pre.length:Int)]) (λpre _=>σ++pX 2 dm (pre.flatMap (pP r.bV)))
   (λ_=>(.exit 0,[.lbx (b7 r),sH σ.length 2 (qX r),.ah (r.dQ.length:Int)],σ++pX 2 dm (qX r))) (λpre _ _=>(.ret,[],σ))
   (λ_ _=>True) () (λ_=>δ (Zz [if qX r=[]then .aC else sl 2 dm (qX r),.ah 0],σ)) (λ_=>μ) ?_ ?_ trivial (λ_ _ _ _ _ _ _ _=>trivial) ?_ ?_ (eD:=by simp [ae4])).trans (IQ _ _ _ _)
  ·intro pre u rest s hl _;have hx:=mo hl;have hlt:=nZ hl;have hi1:Θ.wrap ((pre.length:Int)+1)=(pre.length:Int)+1:=dc (by unfold bE;omega);have hlt':(pre.length:Int)<(r.dQ.length:Int):=by omega
   have jg:=mh 4 eH r.dQ hx;have C6:=SS r.bV hok.1.1 u.gm;have hps:=SR hf u.gm;have rU:=Ls hf pre;have hsn:(pre++[u]).flatMap (pP r.bV)=pre.flatMap (pP r.bV)++pP r.bV u:=by simp
   have amH:pre.length<=399:=by omega
   generalize hK:pre.flatMap (pP r.bV)=K at *
   generalize hq:(fD u.gm r.bV).1=p at *
   simp only[aD,reduceCtorEq,gL,iG,iH,iI,gO,gM,gP,jQ,jz,iK,iJ,jT,hlt',jg,C6,hq,jq,jr,jt,jv,ju,jx]
   refine(mj (S:=Unit) (R:=Unit) p.params (λpre u _=>(Rd.go ():Rd Unit Unit))
    (λtX _=>[.lbx (b7 r),sH σ.length 2 (K++tX.map λx=>(⟨u.aE,x.name⟩:cV)),.lbx (eH u),.ah (tX.length:Int)]) (λtX _=>σ++pX 2 dm (K++tX.map λx=>(⟨u.aE,x.name⟩:cV)))
    (λ_=>(.exit 2,[.lbx (b7 r),sH σ.length 2 (K++pP r.bV u),.lbx (eH u),.ah (p.params.length:Int)],σ++pX 2 dm (K++pP r.bV u))) (λpre _ _=>(.ret,[],σ))
    (λ_ _=>True) () (λ_=>δ (.normal,[.lbx (b7 r),sH σ.length 2 (K++pP r.bV u),.ah ((pre.length:Int)+1)],σ++pX 2 dm (K++pP r.bV u))) (λ_=>μ) ?_ ?_ trivial (λ_ _ _ _ _ _ _ _=>trivial) ?_ ?_ (hv:=by simp) (eD:=by simp)).trans ((IQ _ _ _ _).trans ?_)
   ·intro tX x rest' s hl' _;have gx:=mo hl';have glt:=nZ hl';have YB:Θ.wrap ((tX.length:Int)+1)=(tX.length:Int)+1:=dc (by unfold bE;omega);have ai2:(tX.length:Int)<(p.params.length:Int):=by omega
    have gia:=mh 7 cB p.params gx
    have hap:=ac4 (most:=140737488355328 / 24) (sz:=2) dm (K++tX.map λx=>(⟨u.aE,x.name⟩:cV)) ⟨u.aE,x.name⟩ σ (by
     rw[PU,Zk]
     omega)
    have ajl:(K++(tX++[x]).map λx=>(⟨u.aE,x.name⟩:cV))=(K++tX.map λx=>(⟨u.aE,x.name⟩:cV))++[⟨u.aE,x.name⟩]:=by simp
    clear hl gx glt hx hlt rU hl';rw[ajl];have hch:U0 2 (dW 2 1 [ε u.aE,ap3 x.name])=.sl 2 [dm ⟨u.aE,x.name⟩]:=rfl;simp only[aD,reduceCtorEq,lY,lZ,l5,l6,l7,l8,l9,mg,me,lE,gL,iG,iH,iI,gO,gM,gP,ai2,gia,YB];show(ZI 2 _ _ (U0 2 [dm ⟨u.aE,x.name⟩]) _).bind _=_;rw[hap];simp only[aD,reduceCtorEq,YB]
   ·intro s _;refine(tc _ _ _).trans ?_;subst hq;rfl
   ·intro s _;simp only[aD,reduceCtorEq,hi1]
   ·intros;rename_i hb;cases hb
   ·rw[hsn]
  ·intro s _;exact tc _ _ _
  ·intro s _;simp only[aD,reduceCtorEq,aeQ U7]
  ·intros;rename_i hb;cases hb
 ·refine wrap_eq rfl (v:=.aJ [.aC,.ah (iP r)]) ?_ (by rw[aF hf];rfl);show DJ (.agg (b7 r)) σ=_;unfold DJ;simp only[aD,reduceCtorEq,jQ,jz,iK,iJ,jT,Lu r hok,hf]
theorem ab6(n:Int)(σ:Heap):KG [.ah n] σ=δ (.bool (aU n 0 65535),σ):=by refine wrap_eq rfl ?_ rfl;show KH (.ah n) σ=_;unfold KH;simp only[aD,reduceCtorEq,kR]
def Cx(s:ByteArray):Bool:=if s=⟨#[]⟩then η else xZ s
theorem aeC(s:ByteArray)(hs:gE s)(σ:Heap):KX [.str s] σ=δ (.bool (Cx s),σ):=by
 refine wrap_eq rfl ?_ rfl;show Ll (.str s) σ=_;unfold Ll Cx;by_cases h:s=⟨#[]⟩
 ·simp only[aD,reduceCtorEq,h]
 ·simp only[aD,reduceCtorEq,h,aeA s hs]
def Wp:eM:=⟨⟨#[]⟩,0,0,0,0,ι,[]⟩
def uQ(p:cE)(nm:ByteArray):eM×Bool:=(p.params.find? λx=>decide (x.name=nm)).elim (Wp,ι) λx=>(x,η)
def xR(r:dj)(k:cV):eM×Bool:=(r.dQ.find? λu=>decide (u.aE=k.unit)).elim (Wp,ι) λu=>uQ (fD u.gm r.bV).1 k.param
theorem afi(r:dj)(hl:r.dQ.length<=bf)(n:Int)(σ:Heap):Mj [.agg (b7 r),.ah n] σ=δ (.ah (mT (λu:fE=>decide (u.aE=n)) r.dQ),σ):=by
 refine wrap_eq rfl ?_ rfl;show Mp (.agg (b7 r)) (.ah n) σ=_;unfold Mp;simp only[aD,reduceCtorEq,jQ,jz,iK,iJ,jT];refine(ae0 r.dQ (λu=>decide (u.aE=n)) (λi=>[.ah 0,.ah (i:Int)]) σ (.exit 0,[.ah 0,.ah (r.dQ.length:Int)],σ) (λi=>(.ret,[.ah (i:Int),.ah (i:Int)],σ)) (δ (ε (-1),σ)) (λi=>δ (ε i,σ)) ?_ ?_ ?_ ?_).trans ?_
 ·intro i x hx;obtain⟨g1,g2,g3⟩:=uG 4 eH hx;have g3:=g3 hl;simp only[aD,reduceCtorEq,gL,iG,iH,iI,gO,gM,gP,g1,g2,g3]
  repeat' ((first|rw[kg]|rw[ke]|rw[jZ]|rw[jV]|rw[jY]|rw[jX]);split<;>try simp only[aD,reduceCtorEq, *])
 ·exact tc _ _ _
 ·simp only[aD,reduceCtorEq]
 ·intro i;simp only[aD,reduceCtorEq]
 ·split
  ·rename_i h;rw[h]
  ·rfl
theorem aec(p:cE)(hl:p.params.length<=bf)(nm:ByteArray)(σ:Heap):LZ [.agg (cQ p),.str nm] σ=δ (.aJ [.agg (cB (uQ p nm).1),.bool (uQ p nm).2],σ):=by
 have key:∃w,L7 (.agg (cQ p)) (.str nm) σ=δ (w,σ)/\S7 (.t [(.a rG),.k]) w=.aJ [.agg (cB (uQ p nm).1),.bool (uQ p nm).2]:=by
  refine⟨(p.params.find? λx=>decide (x.name=nm)).elim (.aJ [.agg [.str ⟨#[]⟩,.ah 0,.ah 0,.ah 0,.ah 0,.bool ι,.aC],.bool ι]) (λx=>.aJ [.agg (cB x),.bool η]),?_,?_⟩
  ·unfold L7;simp only[aD,reduceCtorEq,jq,jr,jt,jv,ju,jx]
   refine(aoh p.params (λx=>decide (x.name=nm)) (λi=>[.lbx [.str ⟨#[]⟩,.ah 0,.ah 0,.ah 0,.ah 0,.bool ι,.aC],.bool ι,.ah (i:Int)]) σ (.exit 0,[.lbx [.str ⟨#[]⟩,.ah 0,.ah 0,.ah 0,.ah 0,.bool ι,.aC],.bool ι,.ah (p.params.length:Int)],σ) (λi x=>(.ret,[.lbx (cB x),.bool η,.ah (i:Int)],σ))
    (δ (Zz [.agg [.str ⟨#[]⟩,.ah 0,.ah 0,.ah 0,.ah 0,.bool ι,.aC],.bool ι],σ)) (λx=>δ (Zz [.agg (cB x),.bool η],σ)) ?_ ?_ ?_ ?_).trans ?_
   ·intro i x hx;obtain⟨g1,g2,g3⟩:=uG 7 cB hx;have g3:=g3 hl;simp only[aD,reduceCtorEq,lY,lZ,l5,l6,l7,l8,l9,mg,me,lE,g1,g2,g3]
    repeat' ((first|rw[kg]|rw[ke]|rw[jZ]|rw[jV]|rw[jY]|rw[jX]);split<;>try simp only[aD,reduceCtorEq,lY,lZ,l5,l6,l7,l8,l9,mg,me,lE, *])
    all_goals first|with_reducible rfl|(simp [*];done)|(simp_all;done)|(simp_all;omega)|rfl
   ·exact tc _ _ _
   ·simp only[aD,reduceCtorEq];rfl
   ·intro i x;simp only[aD,reduceCtorEq,lY,lZ,l5,l6,l7,l8,l9,mg,me,lE]
   ·cases p.params.find? λx=>decide (x.name=nm)<;>rfl
  ·unfold uQ;cases p.params.find? λx=>decide (x.name=nm)<;>rfl
 obtain⟨w,h1,h2⟩:=key;exact wrap_eq rfl h1 h2
theorem aef{l:List cE}(h:∀x∈l,zq x)(nm:ByteArray):(fD nm l).1.params.length<=bf:=by
 rw[BR];cases hf:l.find? (λx:cE=>decide (x.name=nm))with
 |none=>exact jK _
 |some p=>exact(h p (wB hf)).2.2.1
theorem abO(r:dj)(hok:oo r)(k:cV)(σ:Heap):KT [.agg (b7 r),.agg (dm k)] σ=δ (.aJ [.agg (cB (xR r k).1),.bool (xR r k).2],σ):=by
 have key:∃w,Lf (.agg (b7 r)) (.agg (dm k)) σ=δ (w,σ)/\S7 (.t [(.a rG),.k]) w=.aJ [.agg (cB (xR r k).1),.bool (xR r k).2]:=by
  unfold Lf xR;simp only[aD,reduceCtorEq,jQ,jz,iK,iJ,jT,anZ,TL,Vs,US,M9,afi r hok.2.1];rcases BY (λu:fE=>decide (u.aE=k.unit)) r.dQ with⟨h1,_,h3⟩|⟨j,x,h1,h2,h3,h4,_⟩
  ·refine⟨.aJ [.agg [.str ⟨#[]⟩,.ah 0,.ah 0,.ah 0,.ah 0,.bool ι,.aC],.bool ι],?_,?_⟩
   ·rw[h1];simp only[aD,reduceCtorEq,show((-1:Int)<0)from by decide];rfl
   ·rw[h3];rfl
  ·refine⟨.aJ [.agg (cB (uQ (fD x.gm r.bV).1 k.param).1),.bool (uQ (fD x.gm r.bV).1 k.param).2],?_,?_⟩
   ·rw[h3];simp only[aD,reduceCtorEq,jQ,jz,iK,iJ,jT,anZ,TL,Vs,US,M9,gL,iG,iH,iI,gO,gM,gP,jq,jr,jt,jv,ju,jx,lY,lZ,l5,l6,l7,l8,l9,mg,me,lE,show ¬((j:Int)<0)from by omega,mh 4 eH r.dQ h1,Lv _ hok.1.1,aec _ (aef hok.1.2 x.gm)]
   ·rw[h4];rfl
 obtain⟨w,h1,h2⟩:=key;exact wrap_eq rfl h1 h2
end
end Go.Proofs.Ytgjglkakhmikjaa
